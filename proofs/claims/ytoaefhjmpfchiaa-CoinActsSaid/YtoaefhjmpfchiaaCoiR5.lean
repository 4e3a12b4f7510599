/- pappusref09: Take. -/
import Derived.Test.YtoaefhjmpfchiaaCoiR4
namespace Go.Proofs.Ytoaefhjmpfchiaa
open Go Go.RowKit Go.Maps Go.MapKept Go.Sort

section
variable {w0 w : World} {p : Nat} {U : Nat → Prop} {S : List CoinD}
set_option maxRecDepth 20000 in
set_option maxHeartbeats 4000000 in
theorem rtake_C (h : RC w0 w p U S) (_ : SrtC S) {v : Value} {ps : List PointD} (hl : PointsIs w0 v ps) (hN : ps.length + S.length ≤ 100000) :
    Calls Try.prog 22 #[.pointer (some ⟨p, 0, none⟩), v] w fun e w' => ∃ x, e = .returned (.tuple #[x, .int .i64 (takeE S ps)]) ∧ w'.ownsRow w.heap.size 36 33 x (takeO S ps).length ((takeO S ps).flatMap outC) ∧ ∃ U', RC w0 w' p U' (takeS S ps) ∧ (∀ j, U' j → U j ∨ w.heap.size ≤ j) ∧ Fr U w w' := by
  obtain ⟨dC, uC, rC⟩ := descCoin
  obtain ⟨dP, uP, rP⟩ := descPoint
  obtain ⟨dO, uO, rO⟩ := descOut
  obtain ⟨va, vc, rfl⟩ := hl.2.form
  have zc := zeroCoin
  have zo := zeroOutC
  have zp := zeroPoint
  have HL := Lib.hid hl
  have HR := Lib.hid h
  have hlen := len_points
  clear h hl
  go_enter Try.func22, Try.ntmps22
  go_wp2_with fail
  by_cases hnd : ps.Nodup
  · have HD := Lib.hid (show (!decide ps.Nodup) = false by rw [decide_eq_true hnd]; rfl)
    refine (twice_any w (HL.out.keep HR.out.fr) (by omega)).mono ?_
    rintro e w2 ⟨rfl, f2⟩
    rw [HD.out]
    have R2w := Lib.hid (HR.out.fr0 f2)
    have F2 := Lib.hid f2
    clear f2
    go_wp2_with fail
    go_loopw [6, 21] (fun ov iv wr => ∃ n : Nat, iv = .int .i64 n ∧ n ≤ ps.length ∧ (∀ q ∈ ps.take n, hasC S q = true) ∧ wr.ownsRow w2.heap.size 36 33 ov n (((ps.take n).map (outOf S)).flatMap outC) ∧ Fr No w2 wr) (fun _ iv _ => ps.length - (intOf iv).toNat)
    case atStart => exact ⟨0, rfl, Nat.zero_le _, by simp, World.ownsRow_nil _ _ _ _, Fr.refl _ _⟩
    case round =>
      obtain ⟨n, rfl, hn, hni, ho, fr⟩ := hrel
      have FR := Lib.hid fr
      have NI := Lib.hid hni
      have HO := Lib.hid ho
      obtain ⟨oa, oc, rfl⟩ := ho.slice.arg.form
      have RR := Lib.hid (R2w.out.fr0 fr)
      clear fr hni ho
      by_cases h : n < ps.length
      · have i1 : (n : Int) < (ps.length : Int) := by omega
        obtain ⟨q, hx⟩ : ∃ x, ps[n]? = some x := ⟨_, List.getElem?_eq_getElem h⟩
        obtain ⟨b, off, cap, hv, hr, -⟩ := (HL.out.keep RR.out.fr).at_ hx
        cases hv
        have QOK := Lib.hid (HL.out.1 q (List.mem_of_getElem? hx))
        have PL := Lib.hid (pointC_len QOK.out)
        have XO := Lib.hid (outOf_ok RR.out.ok q)
        have OL := Lib.hid (outC_len XO.out)
        have Q1 := Lib.hid hr
        have RP := Lib.hid (range_new wr (pointC q) 27)
        have FA := Lib.hid ((Fr.refl No wr).alloc (.cells (pointC q).toArray 27))
        have HQM := Lib.hid (List.mem_of_getElem? hx)
        have HTN := Lib.hid (show ps.take (n + 1) = ps.take n ++ [q] by rw [List.take_add_one, hx]; rfl)
        clear hr hx
        cases hh : hasC S q with
        | false =>
          have FH := Lib.hid hh
          have E0 := Lib.hid (show takeE S ps = 9 by
            unfold takeE
            rw [if_pos hnd, if_neg (fun e => by have := List.all_eq_true.1 e q HQM.out; rw [FH.out] at this; cases this)])
          clear hh
          go_wp2_with (first | (refine wpList_value rfl (exec_load (ty := 27) rfl rfl RP.out uP rP (by rw [PL.out]; exact infoPoint)) ?_) | (refine wpList_value rfl (exec_load (ty := 27) rfl rfl Q1.out uP rP (by rw [PL.out]; exact infoPoint)) ?_) | (refine wpList_done rfl (exec_store_new (w := wr) (cs := pointC q) (ty := 27) rfl rfl rfl (by rw [PL.out]; rfl) (by rw [PL.out]; exact infoPoint) pointC_one) ?_) | (go_at_call 24; refine (rfind_C (RR.out.fr0 FA.out) (by omega) QOK.out).mono ?_; rintro e w8 ⟨rfl, f8⟩; rw [FH.out]; have F8 := Lib.hid ((FA.out.trans0 f8).alloc (.cells (outC (outOf S q)).toArray 36)); clear f8) | (refine wpList_done rfl (exec_store_new (w := w8) (cs := outC (outOf S q)) (ty := 36) rfl rfl rfl (by rw [OL.out]; rfl) (by rw [OL.out]; exact infoOut) outC_one) ?_))
          go_ret2
          exact ⟨_, by rw [E0.out]; rfl, by unfold takeO; rw [if_neg (by rw [E0.out]; decide)]; exact World.ownsRow_nil _ _ _ _, U, by unfold takeS; rw [if_neg (by rw [E0.out]; decide)]; exact RR.out.fr0 F8.out, fun _ h => .inl h, ((F2.out.trans0 FR.out).trans0 F8.out).of0⟩
        | true =>
          have FH := Lib.hid hh
          have NI2 := Lib.hid (show ∀ y ∈ ps.take (n + 1), hasC S y = true by
            rw [HTN.out]
            intro y hy
            rcases List.mem_append.1 hy with h | h
            · exact NI.out y h
            · rw [List.mem_singleton.1 h]; exact FH.out)
          clear hh
          go_wp2_with (first | (refine wpList_value rfl (exec_load (ty := 27) rfl rfl RP.out uP rP (by rw [PL.out]; exact infoPoint)) ?_) | (refine wpList_value rfl (exec_load (ty := 27) rfl rfl Q1.out uP rP (by rw [PL.out]; exact infoPoint)) ?_) | (refine wpList_done rfl (exec_store_new (w := wr) (cs := pointC q) (ty := 27) rfl rfl rfl (by rw [PL.out]; rfl) (by rw [PL.out]; exact infoPoint) pointC_one) ?_) | (refine wpList_value rfl (exec_load (ty := 36) rfl rfl R34 uO rO (by rw [OL.out]; exact infoOut)) ?_) | (refine wpList_value rfl (exec_buildSliceA (t := 56) rfl rfl undOuts infoOutZ2 rfl (by decide) (by decide) OL.out) ?_) | (at_builtin; refine wpList_append_run rfl rfl rfl rfl hap ?_) | (go_at_call 24; refine (rfind_C (RR.out.fr0 FA.out) (by omega) QOK.out).mono ?_; rintro e w8 ⟨rfl, f8⟩; rw [FH.out]; have R34 := range_new w8 (outC (outOf S q)) 36; have F8 := Lib.hid ((FR.out.trans0 (FA.out.trans0 f8)).alloc (.cells (outC (outOf S q)).toArray 36)); obtain ⟨v9, w9, hap, ho9, f9, -, -⟩ := append_blk (P := Try.prog) _ w2.heap.size 56 56 36 33 40 _ undOuts infoOutZ rfl (by decide) ((ownsRow_keep (HO.out.alloc (.cells (pointC q).toArray 27)) f8 (fun _ _ => id)).alloc (.cells (outC (outOf S q)).toArray 36)) (outC (outOf S q)) OL.out outC_one (by omega) (by unfold maxLen; omega) F8.out.size; have F9 := Lib.hid (F8.out.trans f9 (fun i hi e => by have := (HO.out.lt i e).1; omega)); have HO9 := Lib.hid (show w9.ownsRow w2.heap.size 36 33 v9 (n + 1) (((ps.take (n + 1)).map (outOf S)).flatMap outC) by rw [HTN.out]; simpa using ho9); obtain ⟨a9, k9, rfl⟩ := ho9.slice.arg.form; clear f8 ho9 f9) | (refine wpList_done rfl (exec_store_new (w := w8) (cs := outC (outOf S q)) (ty := 36) rfl rfl rfl (by rw [OL.out]; rfl) (by rw [OL.out]; exact infoOut) outC_one) ?_))
          go_roundw
          case rel => exact ⟨n + 1, by simp, by omega, NI2.out, HO9.out, F9.out⟩
          case measure => show ps.length - (n + 1) < ps.length - n; omega
      · have i1 : ¬ (n : Int) < (ps.length : Int) := by omega
        have hT : ps.take n = ps := by rw [show n = ps.length by omega, List.take_length]
        have E0 := Lib.hid (show takeE S ps = 0 by
          unfold takeE
          rw [if_pos hnd, if_pos]
          rw [List.all_eq_true]
          have := NI.out
          rwa [hT] at this)
        have OX := Lib.hid (show wr.ownsRow w2.heap.size 36 33 (.slice oa n oc) (takeO S ps).length ((takeO S ps).flatMap outC) by
          unfold takeO
          rw [if_pos E0.out, List.length_map]
          have := HO.out
          rw [hT] at this
          rwa [show ps.length = n by omega])
        have ES := Lib.hid (show takeS S ps = takeC S ps by unfold takeS; rw [if_pos E0.out])
        have FF := Lib.hid (F2.out.trans0 FR.out)
        obtain ⟨rv, hb, hs, hU, hne⟩ := RR.out.ex
        obtain ⟨ra, rc, rfl⟩ := hs.arg.form
        have HS := Lib.hid hs
        have HB := Lib.hid hb
        have c0 : wr.cell? ⟨p, 0, none⟩ = some (.slice ra S.length rc) := (blk1 hb).1
        have OKS := Lib.hid RR.out.ok
        have HRW := Lib.hid RR.out.fr
        have hlc := len_coins
        clear hT HO NI hb hs hU hne
        go_wp2_with fail
        clear c0
        obtain ⟨B, hB⟩ : ∃ B, B = wr.heap.size := ⟨_, rfl⟩
        go_loopw [11, 43] (fun tv iv wr2 => ∃ m : Nat, iv = .int .i64 m ∧ m ≤ S.length ∧ wr2.ownsRow B 38 66 tv (takeC (S.take m) ps).length ((takeC (S.take m) ps).flatMap coinC) ∧ Fr No wr wr2) (fun _ iv _ => S.length - (intOf iv).toNat)
        case atStart => exact ⟨0, rfl, Nat.zero_le _, World.ownsRow_nil _ _ _ _, Fr.refl _ _⟩
        case round =>
          obtain ⟨m, rfl, hm, ho2, fr2⟩ := hrel
          have FR2 := Lib.hid fr2
          have HO2 := Lib.hid ho2
          obtain ⟨ta, tc, rfl⟩ := ho2.slice.arg.form
          have hWL : (takeC (S.take m) ps).length ≤ 100000 := by have := List.length_filter_le (fun c : CoinD => !decide (c.at_ ∈ ps)) (S.take m); unfold takeC; rw [List.length_take] at this; omega
          clear fr2 ho2
          by_cases h2 : m < S.length
          · have i2 : (m : Int) < (S.length : Int) := by omega
            obtain ⟨c, hx⟩ : ∃ x, S[m]? = some x := ⟨_, List.getElem?_eq_getElem h2⟩
            obtain ⟨b, off, cap, hv, hr, -⟩ := (HS.out.keep FR2.out (fun _ _ => id)).elem (by decide) (fun y hy => coinC_len (OKS.out y hy)) hx
            cases hv
            have COK := Lib.hid (OKS.out c (List.mem_of_getElem? hx))
            have CL := Lib.hid (coinC_len COK.out)
            have PC := Lib.hid (pointC_len COK.out.1)
            have Q1 := Lib.hid hr
            have RN := Lib.hid (range_new wr (coinC c) 38)
            have FA := Lib.hid (FR2.out.alloc (.cells (coinC c).toArray 38))
            have HOA := Lib.hid (HO2.out.alloc (.cells (coinC c).toArray 38))
            have HTN := Lib.hid (show takeC (S.take (m + 1)) ps = takeC (S.take m) ps ++ (if c.at_ ∈ ps then [] else [c]) by
              unfold takeC
              rw [List.take_add_one, hx, List.filter_append]
              by_cases hc : c.at_ ∈ ps <;> simp [hc])
            clear hr hx
            go_wp2_with (first | (refine wpList_value rfl (exec_load (ty := 38) rfl rfl Q1.out uC rC (by rw [CL.out]; exact infoCoin)) ?_) | (refine wpList_done rfl (exec_store_new (w := wr) (cs := coinC c) (ty := 38) rfl rfl rfl (by rw [CL.out]; rfl) (by rw [CL.out]; exact infoCoin) coinC_one) ?_))
            generalize hq0 : wr.heap.size = q0 at *
            generalize wr.alloc (.cells (coinC c).toArray 38) = wa at *
            go_loopw [14, 49] (fun gv iv wr3 => ∃ k : Nat, iv = .int .i64 k ∧ k ≤ ps.length ∧ gv = .bool (decide (c.at_ ∈ ps.take k)) ∧ Fr No wa wr3) (fun _ iv _ => ps.length - (intOf iv).toNat)
            case atStart => exact ⟨0, rfl, Nat.zero_le _, by simp, Fr.refl _ _⟩
            case round =>
              obtain ⟨k, rfl, hk, rfl, fr3⟩ := hrel
              have FR3 := Lib.hid fr3
              clear fr3
              by_cases h3 : k < ps.length
              · have i3 : (k : Int) < (ps.length : Int) := by omega
                obtain ⟨q, hx⟩ : ∃ x, ps[k]? = some x := ⟨_, List.getElem?_eq_getElem h3⟩
                obtain ⟨b, off, cap, hv, hr, -⟩ := (HL.out.keep ((HRW.out.trans0 FA.out).trans0 FR3.out)).at_ hx
                cases hv
                have QOK := Lib.hid (HL.out.1 q (List.mem_of_getElem? hx))
                have PL := Lib.hid (pointC_len QOK.out)
                have K1 := Lib.hid hr
                have RQ := Lib.hid (range_new wr (pointC q) 27)
                have FB := Lib.hid (FR3.out.alloc (.cells (pointC q).toArray 27))
                have RCP := Lib.hid (coin_at (range_keep RN.out FB.out id))
                have HTK := Lib.hid (show ps.take (k + 1) = ps.take k ++ [q] by rw [List.take_add_one, hx]; rfl)
                clear hr hx
                by_cases hin : c.at_ ∈ ps.take k
                · rw [decide_eq_true hin]
                  have HG := Lib.hid (show decide (c.at_ ∈ ps.take (k + 1)) = true from decide_eq_true (by rw [HTK.out]; exact List.mem_append.2 (.inl hin)))
                  clear hin
                  go_wp2_with (first | (refine wpList_value rfl (exec_load (ty := 27) rfl rfl K1.out uP rP (by rw [PL.out]; exact infoPoint)) ?_) | (refine wpList_done rfl (exec_store_new (w := wr) (cs := pointC q) (ty := 27) rfl rfl rfl (by rw [PL.out]; rfl) (by rw [PL.out]; exact infoPoint) pointC_one) ?_))
                  go_roundw
                  case rel => exact ⟨k + 1, by simp, by omega, by rw [HG.out], FB.out⟩
                  case measure => show ps.length - (k + 1) < ps.length - k; omega
                · rw [decide_eq_false hin]
                  by_cases hcq : c.at_ = q
                  · have HG := Lib.hid (show decide (c.at_ ∈ ps.take (k + 1)) = true from decide_eq_true (by rw [HTK.out, hcq]; simp))
                    clear hin
                    have RCQ := Lib.hid (show (wr.alloc (.cells (pointC q).toArray 27)).rangeAt q0 0 (pointC q) by have := RCP.out; rwa [hcq] at this)
                    go_wp2_with (first | (refine wpList_value rfl (exec_load (ty := 27) rfl rfl K1.out uP rP (by rw [PL.out]; exact infoPoint)) ?_) | (refine wpList_done rfl (exec_store_new (w := wr) (cs := pointC q) (ty := 27) rfl rfl rfl (by rw [PL.out]; rfl) (by rw [PL.out]; exact infoPoint) pointC_one) ?_) | (refine wpList_vG (o := ⟨some 56, _, _, _, _, _⟩) rfl (exec_load (ty := 27) rfl rfl RCQ.out uP rP (by rw [PL.out]; exact infoPoint)) ?_) | (refine wpList_vG (o := ⟨some 57, _, _, _, _, _⟩) rfl (exec_load (ty := 27) rfl rfl RQ.out uP rP (by rw [PL.out]; exact infoPoint)) ?_) | (refine wpList_vG (o := ⟨some 58, _, _, _, _, _⟩) rfl (eqPoint.exec_eql rfl rfl rfl (keyOfPoint QOK.out) (keyOfPoint QOK.out) true ⟨fun _ => rfl, fun _ => rfl⟩ _) ?_))
                    go_roundw
                    case rel => exact ⟨k + 1, by simp, by omega, by rw [HG.out], FB.out⟩
                    case measure => show ps.length - (k + 1) < ps.length - k; omega
                  · have HG := Lib.hid (show decide (c.at_ ∈ ps.take (k + 1)) = false from decide_eq_false (by rw [HTK.out]; simp [hin, hcq]))
                    have NE := Lib.hid (show ¬ (pointC c.at_).toArray = (pointC q).toArray from fun e => hcq (pointV_inj (congrArg Value.agg e)))
                    clear hin hcq
                    go_wp2_with (first | (refine wpList_value rfl (exec_load (ty := 27) rfl rfl K1.out uP rP (by rw [PL.out]; exact infoPoint)) ?_) | (refine wpList_done rfl (exec_store_new (w := wr) (cs := pointC q) (ty := 27) rfl rfl rfl (by rw [PL.out]; rfl) (by rw [PL.out]; exact infoPoint) pointC_one) ?_) | (refine wpList_vG (o := ⟨some 56, _, _, _, _, _⟩) rfl (exec_load (ty := 27) rfl rfl RCP.out uP rP (by rw [PC.out]; exact infoPoint)) ?_) | (refine wpList_vG (o := ⟨some 57, _, _, _, _, _⟩) rfl (exec_load (ty := 27) rfl rfl RQ.out uP rP (by rw [PL.out]; exact infoPoint)) ?_) | (refine wpList_vG (o := ⟨some 58, _, _, _, _, _⟩) rfl (eqPoint.exec_eql rfl rfl rfl (keyOfPoint COK.out.1) (keyOfPoint QOK.out) false ⟨fun e => (by cases e), fun e => absurd e NE.out⟩ _) ?_))
                    go_roundw
                    case rel => exact ⟨k + 1, by simp, by omega, by rw [HG.out], FB.out⟩
                    case measure => show ps.length - (k + 1) < ps.length - k; omega
              · have i3 : ¬ (k : Int) < (ps.length : Int) := by omega
                have hpt : ps.take k = ps := by rw [show k = ps.length by omega, List.take_length]
                rw [hpt]
                have RNW := Lib.hid (range_keep RN.out FR3.out id)
                have HOW := Lib.hid (ownsRow_keep HOA.out FR3.out (fun _ _ => id))
                have FW := Lib.hid (FA.out.trans0 FR3.out)
                clear hpt
                by_cases hin : c.at_ ∈ ps
                · rw [decide_eq_true hin]
                  have HTE := Lib.hid (show takeC (S.take (m + 1)) ps = takeC (S.take m) ps by rw [HTN.out, if_pos hin, List.append_nil])
                  clear hin
                  go_wp2_with fail
                  go_roundw
                  case rel => exact ⟨m + 1, by simp, by omega, by rw [HTE.out]; exact HOW.out, FW.out⟩
                  case measure => show S.length - (m + 1) < S.length - m; omega
                · rw [decide_eq_false hin]
                  have HTE := Lib.hid (show takeC (S.take (m + 1)) ps = takeC (S.take m) ps ++ [c] by rw [HTN.out, if_neg hin])
                  obtain ⟨v5, w5, hap1, ho5, f5, -, -⟩ := append_blk (P := Try.prog) wr B 22 22 38 66 80 _ undCoins infoCoinZ rfl (by decide) HOW.out (coinC c) CL.out coinC_one (by omega) (by unfold maxLen; omega) (by have := FW.out.size; omega)
                  have F5 := Lib.hid (FW.out.trans f5 (fun i hi e => by have := (HOW.out.lt i e).1; omega))
                  have HO5 := Lib.hid (show w5.ownsRow B 38 66 v5 (takeC (S.take (m + 1)) ps).length ((takeC (S.take (m + 1)) ps).flatMap coinC) by rw [HTE.out]; simpa using ho5)
                  obtain ⟨a5, k5, rfl⟩ := ho5.slice.arg.form
                  have HAP1 := Lib.hid hap1
                  clear hin hap1 ho5 f5
                  go_wp2_with (first | (refine wpList_value rfl (exec_load (ty := 38) rfl rfl RNW.out uC rC (by rw [CL.out]; exact infoCoin)) ?_) | (refine wpList_value rfl (exec_buildSliceA (t := 22) rfl rfl undCoins infoCoinZ2 rfl (by decide) (by decide) CL.out) ?_) | (at_builtin; refine wpList_append_run rfl rfl rfl rfl HAP1.out ?_))
                  go_roundw
                  case rel => exact ⟨m + 1, by simp, by omega, HO5.out, F5.out⟩
                  case measure => show S.length - (m + 1) < S.length - m; omega
          · have i2 : ¬ (m : Int) < (S.length : Int) := by omega
            have hST : S.take m = S := by rw [show m = S.length by omega, List.take_length]
            have hbr := FR2.out.obj HB.out id
            have cr : wr.cell? ⟨p, 0, none⟩ = some (.slice ra S.length rc) := (blk1 hbr).1
            have fz := frozen_none hbr 0
            have HOT := Lib.hid (show wr.ownsRow B 38 66 (.slice ta (takeC (S.take m) ps).length tc) (takeC S ps).length ((takeC S ps).flatMap coinC) by have := HO2.out; rwa [hST] at this ⊢)
            clear hST hbr
            go_wp2_with fail
            go_ret2
            obtain ⟨t1, t2, t3⟩ := RR.out.turn FR2.out (by rw [← hB]; exact HOT.out) (S' := takeC S ps) (fun y hy => OKS.out y ((mem_takeC.1 hy).1))
            refine ⟨_, by rw [E0.out]; rfl, own_mono (ownsRow_keep OX.out t2 (fun j e hU => ?_)) F2.out.size, _, by rw [ES.out]; exact t1, fun j hj => ?_, FF.out.of0.trans t2 (fun _ _ h => h)⟩
            · have h1 := R2w.out.hi j hU
              have h2 := (OX.out.lt j e).1
              omega
            · have h1 := FF.out.size
              exact (t3 j hj).imp id (fun h => by omega)
  · have E0 := Lib.hid (show takeE S ps = 12 by unfold takeE; rw [if_neg hnd])
    have HD := Lib.hid (show (!decide ps.Nodup) = true by rw [decide_eq_false hnd]; rfl)
    refine (twice_any w (HL.out.keep HR.out.fr) (by omega)).mono ?_
    rintro e w2 ⟨rfl, f2⟩
    rw [HD.out]
    go_wp2
    go_ret2
    exact ⟨_, by rw [E0.out]; rfl, by unfold takeO; rw [if_neg (by rw [E0.out]; decide)]; exact World.ownsRow_nil _ _ _ _, U, by unfold takeS; rw [if_neg (by rw [E0.out]; decide)]; exact HR.out.fr0 f2, fun _ h => .inl h, f2.of0⟩
end
end Go.Proofs.Ytoaefhjmpfchiaa
