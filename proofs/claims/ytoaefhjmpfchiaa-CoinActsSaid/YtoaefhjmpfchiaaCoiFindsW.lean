/- CoinFinds: the walk. -/
import Derived.Test.YtoaefhjmpfchiaaCoiL
namespace Go.Proofs.Ytoaefhjmpfchiaa
open Go Go.RowKit Go.Maps Go.MapKept

theorem putC_mem {l : List CoinD} {c : CoinD} : c ∈ putC [] l ↔ c ∈ l := by rw [mem_putC]; simp
theorem putC_has {l : List CoinD} {q : PointD} : hasC (putC [] l) q = l.any (fun c => decide (c.at_ = q)) := by
  rw [Bool.eq_iff_iff, hasC_iff]
  simp [putC_mem]
theorem putC_out {l : List CoinD} (hs : SrtC (putC [] l)) {c : CoinD} (hc : c ∈ l) : outOf (putC [] l) c.at_ = c.out ∧ hasC (putC [] l) c.at_ = true := by
  have hm := putC_mem.2 hc
  exact ⟨by unfold outOf; rw [findC_some hs hm]; rfl, hasC_iff.2 ⟨c, hm, rfl⟩⟩
set_option maxRecDepth 20000 in
set_option maxHeartbeats 4000000 in
theorem finds_any (w : World) {v : Value} {l : List CoinD} (hl : CoinsIs w v l) {q : PointD} (hq : q.ok) :
    Calls Try.prog 3 #[v, .agg (pointC q).toArray] w fun e w' => e = .returned (.bool true) ∧ Fr No w w' := by
  obtain ⟨dC, uC, rC⟩ := descCoin
  obtain ⟨dP, uP, rP⟩ := descPoint
  obtain ⟨dO, uO, rO⟩ := descOut
  obtain ⟨va, vc, rfl⟩ := hl.2.form
  have zc := zeroCoin
  have zo := zeroOutC
  have HL := Lib.hid hl
  have HQ := Lib.hid hq
  have QL := Lib.hid (pointC_len hq)
  have RQ0 := Lib.hid (range_new w (pointC q) 27)
  have F0 := Lib.hid ((Fr.refl No w).alloc (.cells (pointC q).toArray 27))
  clear hl hq
  go_enter Try.func3, Try.ntmps3
  go_wp2_with fail
  generalize w.heap.size = q0 at *
  generalize w.alloc (.cells (pointC q).toArray 27) = w0 at *
  refine (aliveC_any w0).mono ?_
  rintro e w1 ⟨rfl, f1⟩
  have F1 := Lib.hid (F0.out.trans0 f1)
  have RQ1 := Lib.hid (range_keep RQ0.out f1 id)
  clear f1 RQ0
  by_cases hN : l.length ≤ 300
  · have j1 : decide (300 < l.length) = false := decide_eq_false (by omega)
    by_cases hnd : (l.map (·.at_)).Nodup
    · go_wp2_with (first | (go_at_call 11; refine (many_any _ va l.length vc).mono ?_; rintro e w2 ⟨rfl, e2⟩; rw [e2, j1]; clear e2) | (go_at_call 12; refine (new_C w w1 F1.out (HL.out.keep F1.out) (by omega) hnd).mono ?_; rintro e w3 ⟨p, rfl, V, c3, f3, -⟩; have C3 := Lib.hid c3; have F3 := Lib.hid (F1.out.trans0 f3); have RQ3 := Lib.hid (range_keep RQ1.out f3 id); clear c3 f3))
      clear hnd
      have SRT := Lib.hid C3.out.srt
      go_loopw [7, 27] (fun inv iv wr => ∃ n : Nat, iv = .int .i64 n ∧ n ≤ l.length ∧ inv = .bool ((l.take n).any (fun c => decide (c.at_ = q))) ∧ Fr No w3 wr) (fun _ iv _ => l.length - (intOf iv).toNat)
      case atStart => exact ⟨0, rfl, Nat.zero_le _, rfl, Fr.refl _ _⟩
      case round =>
        obtain ⟨n, rfl, hn, rfl, fr⟩ := hrel
        have FR := Lib.hid fr
        clear fr
        by_cases h : n < l.length
        · have i1 : (n : Int) < (l.length : Int) := by omega
          obtain ⟨c, hx⟩ : ∃ x, l[n]? = some x := ⟨_, List.getElem?_eq_getElem h⟩
          obtain ⟨b, off, cap, hv, hr, -⟩ := (HL.out.keep (F3.out.trans0 FR.out)).at_ hx
          cases hv
          have hcm := List.mem_of_getElem? hx
          have COK := Lib.hid (HL.out.1 c hcm)
          have CL := Lib.hid (coinC_len COK.out)
          have PL := Lib.hid (pointC_len COK.out.1)
          have OL := Lib.hid (outC_len COK.out.2)
          obtain ⟨fo, fh⟩ := putC_out SRT.out hcm
          have FO := Lib.hid fo
          have FH := Lib.hid fh
          have HTN := Lib.hid (show (l.take (n + 1)).any (fun c => decide (c.at_ = q)) = ((l.take n).any (fun c => decide (c.at_ = q)) || decide (c.at_ = q)) by rw [List.take_add_one, hx]; simp)
          have R1 := Lib.hid hr
          have nb := range_new wr (coinC c) 38
          have RP := Lib.hid (coin_at nb)
          have RO := Lib.hid (show (wr.alloc (.cells (coinC c).toArray 38)).rangeAt wr.heap.size 33 (outC c.out) by have := coin_out COK.out nb; rwa [Nat.zero_add] at this)
          have FA := Lib.hid ((Fr.refl No wr).alloc (.cells (coinC c).toArray 38))
          have RQ := Lib.hid (range_keep RQ3.out FR.out id)
          have CN := Lib.hid (C3.out.fr0 FR.out)
          clear hr nb hx hcm fo fh
          cases hb : (l.take n).any (fun c => decide (c.at_ = q)) with
          | true =>
            rw [hb] at HTN
            have HT := Lib.hid (show (l.take (n + 1)).any (fun c => decide (c.at_ = q)) = true by rw [HTN.out]; rfl)
            clear hb HTN
            go_wp2_with (first | (refine wpList_value rfl (exec_load (ty := 27) rfl rfl RP.out uP rP (by rw [PL.out]; exact infoPoint)) ?_) | (refine wpList_value rfl (exec_load (ty := 38) rfl rfl R1.out uC rC (by rw [CL.out]; exact infoCoin)) ?_) | (refine wpList_done rfl (exec_store_new (w := wr) (cs := coinC c) (ty := 38) rfl rfl rfl (by rw [CL.out]; rfl) (by rw [CL.out]; exact infoCoin) coinC_one) ?_) | (go_at_call 13; refine (find_C (CN.out.fr0 FA.out) COK.out.1).mono ?_; rintro e w8 ⟨rfl, f8⟩; rw [FO.out, FH.out]; have R41 := range_new w8 (outC c.out) 36; have R43 := range_keep (range_keep RO.out f8 id) ((Fr.refl No w8).alloc (.cells (outC c.out).toArray 36)) id; have R49 := range_keep (range_keep RP.out f8 id) ((Fr.refl No w8).alloc (.cells (outC c.out).toArray 36)) id; have R50 := range_keep RQ.out (((FA.out.trans0 f8)).alloc (.cells (outC c.out).toArray 36)) id; have F9 := Lib.hid ((FA.out.trans0 f8).alloc (.cells (outC c.out).toArray 36))) | (refine wpList_done rfl (exec_store_new (w := w8) (cs := outC c.out) (ty := 36) rfl rfl rfl (by rw [OL.out]; rfl) (by rw [OL.out]; exact infoOut) outC_one) ?_) | (refine wpList_vG (o := ⟨some 41, _, _, _, _, _⟩) rfl (exec_load (ty := 36) rfl rfl R41 uO rO (by rw [OL.out]; exact infoOut)) ?_) | (refine wpList_vG (o := ⟨some 43, _, _, _, _, _⟩) rfl (exec_load (ty := 36) rfl rfl R43 uO rO (by rw [OL.out]; exact infoOut)) ?_) | (refine wpList_vG (o := ⟨some 44, _, _, _, _, _⟩) rfl (eqOut.exec_neq rfl rfl rfl (keyOfOut COK.out.2) (keyOfOut COK.out.2) true ⟨fun _ => rfl, fun _ => rfl⟩ _) ?_))
            go_roundw
            case rel => exact ⟨n + 1, by simp, by omega, by rw [HT.out], FR.out.trans0 F9.out⟩
            case measure => show l.length - (n + 1) < l.length - n; omega
          | false =>
            rw [hb] at HTN
            by_cases hcq : c.at_ = q
            · have HT := Lib.hid (show (l.take (n + 1)).any (fun c => decide (c.at_ = q)) = true by rw [HTN.out, hcq]; simp)
              clear hb HTN
              subst hcq
              go_wp2_with (first | (refine wpList_value rfl (exec_load (ty := 27) rfl rfl RP.out uP rP (by rw [PL.out]; exact infoPoint)) ?_) | (refine wpList_value rfl (exec_load (ty := 38) rfl rfl R1.out uC rC (by rw [CL.out]; exact infoCoin)) ?_) | (refine wpList_done rfl (exec_store_new (w := wr) (cs := coinC c) (ty := 38) rfl rfl rfl (by rw [CL.out]; rfl) (by rw [CL.out]; exact infoCoin) coinC_one) ?_) | (go_at_call 13; refine (find_C (CN.out.fr0 FA.out) COK.out.1).mono ?_; rintro e w8 ⟨rfl, f8⟩; rw [FO.out, FH.out]; have R41 := range_new w8 (outC c.out) 36; have R43 := range_keep (range_keep RO.out f8 id) ((Fr.refl No w8).alloc (.cells (outC c.out).toArray 36)) id; have R49 := range_keep (range_keep RP.out f8 id) ((Fr.refl No w8).alloc (.cells (outC c.out).toArray 36)) id; have R50 := range_keep RQ.out (((FA.out.trans0 f8)).alloc (.cells (outC c.out).toArray 36)) id; have F9 := Lib.hid ((FA.out.trans0 f8).alloc (.cells (outC c.out).toArray 36))) | (refine wpList_done rfl (exec_store_new (w := w8) (cs := outC c.out) (ty := 36) rfl rfl rfl (by rw [OL.out]; rfl) (by rw [OL.out]; exact infoOut) outC_one) ?_) | (refine wpList_vG (o := ⟨some 41, _, _, _, _, _⟩) rfl (exec_load (ty := 36) rfl rfl R41 uO rO (by rw [OL.out]; exact infoOut)) ?_) | (refine wpList_vG (o := ⟨some 43, _, _, _, _, _⟩) rfl (exec_load (ty := 36) rfl rfl R43 uO rO (by rw [OL.out]; exact infoOut)) ?_) | (refine wpList_vG (o := ⟨some 44, _, _, _, _, _⟩) rfl (eqOut.exec_neq rfl rfl rfl (keyOfOut COK.out.2) (keyOfOut COK.out.2) true ⟨fun _ => rfl, fun _ => rfl⟩ _) ?_) | (refine wpList_vG (o := ⟨some 49, _, _, _, _, _⟩) rfl (exec_load (ty := 27) rfl rfl R49 uP rP (by rw [PL.out]; exact infoPoint)) ?_) | (refine wpList_vG (o := ⟨some 50, _, _, _, _, _⟩) rfl (exec_load (ty := 27) rfl rfl R50 uP rP (by rw [PL.out]; exact infoPoint)) ?_) | (refine wpList_vG (o := ⟨some 51, _, _, _, _, _⟩) rfl (eqPoint.exec_eql rfl rfl rfl (keyOfPoint COK.out.1) (keyOfPoint COK.out.1) true ⟨fun _ => rfl, fun _ => rfl⟩ _) ?_))
              go_roundw
              case rel => exact ⟨n + 1, by simp, by omega, by rw [HT.out], FR.out.trans0 F9.out⟩
              case measure => show l.length - (n + 1) < l.length - n; omega
            · have HT := Lib.hid (show (l.take (n + 1)).any (fun c => decide (c.at_ = q)) = false by rw [HTN.out]; simp [hcq])
              have NE := Lib.hid (show ¬ (pointC c.at_).toArray = (pointC q).toArray from fun e => hcq (pointV_inj (congrArg Value.agg e)))
              clear hb HTN hcq
              go_wp2_with (first | (refine wpList_value rfl (exec_load (ty := 27) rfl rfl RP.out uP rP (by rw [PL.out]; exact infoPoint)) ?_) | (refine wpList_value rfl (exec_load (ty := 38) rfl rfl R1.out uC rC (by rw [CL.out]; exact infoCoin)) ?_) | (refine wpList_done rfl (exec_store_new (w := wr) (cs := coinC c) (ty := 38) rfl rfl rfl (by rw [CL.out]; rfl) (by rw [CL.out]; exact infoCoin) coinC_one) ?_) | (go_at_call 13; refine (find_C (CN.out.fr0 FA.out) COK.out.1).mono ?_; rintro e w8 ⟨rfl, f8⟩; rw [FO.out, FH.out]; have R41 := range_new w8 (outC c.out) 36; have R43 := range_keep (range_keep RO.out f8 id) ((Fr.refl No w8).alloc (.cells (outC c.out).toArray 36)) id; have R49 := range_keep (range_keep RP.out f8 id) ((Fr.refl No w8).alloc (.cells (outC c.out).toArray 36)) id; have R50 := range_keep RQ.out (((FA.out.trans0 f8)).alloc (.cells (outC c.out).toArray 36)) id; have F9 := Lib.hid ((FA.out.trans0 f8).alloc (.cells (outC c.out).toArray 36))) | (refine wpList_done rfl (exec_store_new (w := w8) (cs := outC c.out) (ty := 36) rfl rfl rfl (by rw [OL.out]; rfl) (by rw [OL.out]; exact infoOut) outC_one) ?_) | (refine wpList_vG (o := ⟨some 41, _, _, _, _, _⟩) rfl (exec_load (ty := 36) rfl rfl R41 uO rO (by rw [OL.out]; exact infoOut)) ?_) | (refine wpList_vG (o := ⟨some 43, _, _, _, _, _⟩) rfl (exec_load (ty := 36) rfl rfl R43 uO rO (by rw [OL.out]; exact infoOut)) ?_) | (refine wpList_vG (o := ⟨some 44, _, _, _, _, _⟩) rfl (eqOut.exec_neq rfl rfl rfl (keyOfOut COK.out.2) (keyOfOut COK.out.2) true ⟨fun _ => rfl, fun _ => rfl⟩ _) ?_) | (refine wpList_vG (o := ⟨some 49, _, _, _, _, _⟩) rfl (exec_load (ty := 27) rfl rfl R49 uP rP (by rw [PL.out]; exact infoPoint)) ?_) | (refine wpList_vG (o := ⟨some 50, _, _, _, _, _⟩) rfl (exec_load (ty := 27) rfl rfl R50 uP rP (by rw [QL.out]; exact infoPoint)) ?_) | (refine wpList_vG (o := ⟨some 51, _, _, _, _, _⟩) rfl (eqPoint.exec_eql rfl rfl rfl (keyOfPoint COK.out.1) (keyOfPoint HQ.out) false ⟨fun e => (by cases e), fun e => absurd e NE.out⟩ _) ?_))
              go_roundw
              case rel => exact ⟨n + 1, by simp, by omega, by rw [HT.out], FR.out.trans0 F9.out⟩
              case measure => show l.length - (n + 1) < l.length - n; omega
        · have i1 : ¬ (n : Int) < (l.length : Int) := by omega
          have hT : l.take n = l := by rw [show n = l.length by omega, List.take_length]
          have RQ := Lib.hid (range_keep RQ3.out FR.out id)
          have CN := Lib.hid (C3.out.fr0 FR.out)
          rw [hT, ← putC_has]
          clear hT
          have XOK := Lib.hid (outOf_ok CN.out.ok q)
          have XL := Lib.hid (outC_len XOK.out)
          have hmiss := fun (h : hasC (putC [] l) q = false) => (show outOf (putC [] l) q = out0 by unfold outOf; rw [findC_none h]; rfl)
          cases hh : hasC (putC [] l) q with
          | true =>
            have FH := Lib.hid hh
            clear hh hmiss
            go_wp2_with (first | (refine wpList_value rfl (exec_load (ty := 27) rfl rfl RQ.out uP rP (by rw [QL.out]; exact infoPoint)) ?_) | (go_at_call 13; refine (find_C CN.out HQ.out).mono ?_; rintro e w8 ⟨rfl, f8⟩; rw [FH.out]) | (refine wpList_done rfl (exec_store_new (w := w8) (cs := outC (outOf (putC [] l) q)) (ty := 36) rfl rfl rfl (by rw [XL.out]; rfl) (by rw [XL.out]; exact infoOut) outC_one) ?_))
            go_ret
            exact ⟨by rfl, (CN.out.fr.trans0 f8).alloc _⟩
          | false =>
            have FH := Lib.hid hh
            have FX := Lib.hid (hmiss hh)
            have OL0 := Lib.hid (outC_len out0_ok)
            have bo : ∀ w, (Instr.build 36 #[]).run Try.prog w = .ok (.agg (outC out0).toArray) w := fun w => by kernel_rfl
            clear hh hmiss
            go_wp2_with (first | (refine wpList_value rfl (exec_load (ty := 27) rfl rfl RQ.out uP rP (by rw [QL.out]; exact infoPoint)) ?_) | (go_at_call 13; refine (find_C CN.out HQ.out).mono ?_; rintro e w8 ⟨rfl, f8⟩; rw [FH.out, FX.out]; have R66 := range_new w8 (outC out0) 36) | (refine wpList_done rfl (exec_store_new (w := w8) (cs := outC out0) (ty := 36) rfl rfl rfl (by rw [OL0.out]; rfl) (by rw [OL0.out]; exact infoOut) outC_one) ?_) | (refine wpList_vG (o := ⟨some 66, _, _, _, _, _⟩) rfl (exec_load (ty := 36) rfl rfl R66 uO rO (by rw [OL0.out]; exact infoOut)) ?_) | (refine wpList_vG (o := ⟨some 67, _, _, _, _, _⟩) rfl (exec_bld (t := 36) rfl rfl (bo _)) ?_) | (refine wpList_vG (o := ⟨some 68, _, _, _, _, _⟩) rfl (eqOut.exec_eql rfl rfl rfl (keyOfOut out0_ok) (keyOfOut out0_ok) true ⟨fun _ => rfl, fun _ => rfl⟩ _) ?_))
            go_ret
            exact ⟨by rfl, (CN.out.fr.trans0 f8).alloc _⟩
    · go_wp2_with (first | (go_at_call 11; refine (many_any _ va l.length vc).mono ?_; rintro e w2 ⟨rfl, e2⟩; rw [e2, j1]; clear e2) | (go_at_call 12; refine (new_twice w1 (HL.out.keep F1.out) (by omega) hnd).mono ?_; rintro e w3 ⟨rfl, f3⟩; have F3 := Lib.hid (F1.out.trans0 f3); clear f3))
      go_ret
      exact ⟨by rfl, F3.out⟩
  · have j1 : decide (300 < l.length) = true := decide_eq_true (by omega)
    go_wp2_with (go_at_call 11; refine (many_any _ va l.length vc).mono ?_; rintro e w2 ⟨rfl, e2⟩; rw [e2, j1]; clear e2)
    go_ret
    exact ⟨by rfl, F1.out⟩
end Go.Proofs.Ytoaefhjmpfchiaa
