/- pappusref09: Put. -/
import Derived.Test.YtoaefhjmpfchiaaCoiR3
import Derived.Test.YtoaefhjmpfchiaaCoiPartsW
namespace Go.Proofs.Ytoaefhjmpfchiaa
open Go Go.RowKit Go.Maps Go.MapKept Go.Sort

section
variable {w0 w : World} {p : Nat} {U : Nat → Prop} {S : List CoinD}
set_option maxRecDepth 20000 in
set_option maxHeartbeats 4000000 in
theorem rput_C (h : RC w0 w p U S) {v : Value} {l : List CoinD} (hl : CoinsIs w0 v l) (hN : l.length + S.length ≤ 100000) :
    Calls Try.prog 20 #[.pointer (some ⟨p, 0, none⟩), v] w fun e w' => e = .returned (.int .i64 (putE S l)) ∧ ∃ U', RC w0 w' p U' (putS S l) ∧ (∀ j, U' j → U j ∨ w.heap.size ≤ j) ∧ Fr U w w' := by
  obtain ⟨dC, uC, rC⟩ := descCoin
  obtain ⟨dP, uP, rP⟩ := descPoint
  obtain ⟨va, vc, rfl⟩ := hl.2.form
  have zc := zeroCoin
  have zo := zeroOutC
  have HL := Lib.hid hl
  have HR := Lib.hid h
  have hlen := len_coins
  clear h hl
  go_enter Try.func20, Try.ntmps20
  go_wp2_with fail
  refine (ats_any w (HL.out.keep HR.out.fr) (by omega)).mono ?_
  rintro e w1 ⟨v1, rfl, o1, f1⟩
  have P1 := Lib.hid (ownPoints (S := l.map (·.at_)) (by rw [List.length_map]; exact o1) (fun p hp => by obtain ⟨c, hc, rfl⟩ := List.mem_map.1 hp; exact (HL.out.1 c hc).1))
  have R1w := Lib.hid (HR.out.fr0 f1)
  have F1 := Lib.hid f1
  clear o1 f1
  by_cases hnd : (l.map (·.at_)).Nodup
  · have ND := Lib.hid hnd
    have HD := Lib.hid (show (!decide (l.map (·.at_)).Nodup) = false by rw [decide_eq_true hnd]; rfl)
    clear hnd
    go_wp2_with (go_at_call 30; refine (twice_any w1 P1.out (by rw [List.length_map]; omega)).mono ?_; rintro e w2 ⟨rfl, f2⟩; rw [HD.out]; have R2w := Lib.hid (R1w.out.fr0 f2); have F2 := Lib.hid (F1.out.trans0 f2); clear f2)
    go_loopw [16] (fun iv wr => ∃ n : Nat, iv = .int .i64 n ∧ n ≤ l.length ∧ (∀ y ∈ l.take n, hasC S y.at_ = false) ∧ Fr No w2 wr) (fun iv _ => l.length - (intOf iv).toNat)
    case atStart => exact ⟨0, rfl, Nat.zero_le _, by simp, Fr.refl _ _⟩
    case round =>
      obtain ⟨n, rfl, hn, hni, fr⟩ := hrel
      have FR := Lib.hid fr
      have NI := Lib.hid hni
      clear fr hni
      by_cases h : n < l.length
      · have i1 : (n : Int) < (l.length : Int) := by omega
        obtain ⟨c, hx⟩ : ∃ x, l[n]? = some x := ⟨_, List.getElem?_eq_getElem h⟩
        have RR := Lib.hid (R2w.out.fr0 FR.out)
        obtain ⟨b, off, cap, hv, hr, -⟩ := (HL.out.keep RR.out.fr).at_ hx
        cases hv
        have COK := Lib.hid (HL.out.1 c (List.mem_of_getElem? hx))
        have CL := Lib.hid (coinC_len COK.out)
        have PL := Lib.hid (pointC_len COK.out.1)
        have XO := Lib.hid (outOf_ok RR.out.ok c.at_)
        have OL := Lib.hid (outC_len XO.out)
        have Q1 := Lib.hid hr
        have RP := Lib.hid (coin_at (range_new wr (coinC c) 38))
        have FA := Lib.hid ((Fr.refl No wr).alloc (.cells (coinC c).toArray 38))
        have HCM := Lib.hid (List.mem_of_getElem? hx)
        have HTN := Lib.hid (show l.take (n + 1) = l.take n ++ [c] by rw [List.take_add_one, hx]; rfl)
        clear hr hx
        cases hh : hasC S c.at_ with
        | true =>
          obtain ⟨e0, e1⟩ := putE_10 ND.out HCM.out hh
          have E0 := Lib.hid e0
          have E1 := Lib.hid e1
          have FH := Lib.hid hh
          clear hh e0 e1
          go_wp2_with (first | (refine wpList_value rfl (exec_load (ty := 27) rfl rfl RP.out uP rP (by rw [PL.out]; exact infoPoint)) ?_) | (refine wpList_value rfl (exec_load (ty := 38) rfl rfl Q1.out uC rC (by rw [CL.out]; exact infoCoin)) ?_) | (refine wpList_done rfl (exec_store_new (w := wr) (cs := coinC c) (ty := 38) rfl rfl rfl (by rw [CL.out]; rfl) (by rw [CL.out]; exact infoCoin) coinC_one) ?_) | (go_at_call 24; refine (rfind_C (RR.out.fr0 FA.out) (by omega) COK.out.1).mono ?_; rintro e w8 ⟨rfl, f8⟩; rw [FH.out]; have F8 := Lib.hid ((FA.out.trans0 f8).alloc (.cells (outC (outOf S c.at_)).toArray 36)); clear f8) | (refine wpList_done rfl (exec_store_new (w := w8) (cs := outC (outOf S c.at_)) (ty := 36) rfl rfl rfl (by rw [OL.out]; rfl) (by rw [OL.out]; exact infoOut) outC_one) ?_))
          go_ret
          exact ⟨by rw [E0.out]; rfl, U, by rw [E1.out]; exact RR.out.fr0 F8.out, fun _ h => .inl h, ((F2.out.trans0 FR.out).trans0 F8.out).of0⟩
        | false =>
          have FH := Lib.hid hh
          have NI2 := Lib.hid (show ∀ y ∈ l.take (n + 1), hasC S y.at_ = false by
            rw [HTN.out]
            intro y hy
            rcases List.mem_append.1 hy with h | h
            · exact NI.out y h
            · rw [List.mem_singleton.1 h]; exact FH.out)
          clear hh
          go_wp2_with (first | (refine wpList_value rfl (exec_load (ty := 27) rfl rfl RP.out uP rP (by rw [PL.out]; exact infoPoint)) ?_) | (refine wpList_value rfl (exec_load (ty := 38) rfl rfl Q1.out uC rC (by rw [CL.out]; exact infoCoin)) ?_) | (refine wpList_done rfl (exec_store_new (w := wr) (cs := coinC c) (ty := 38) rfl rfl rfl (by rw [CL.out]; rfl) (by rw [CL.out]; exact infoCoin) coinC_one) ?_) | (go_at_call 24; refine (rfind_C (RR.out.fr0 FA.out) (by omega) COK.out.1).mono ?_; rintro e w8 ⟨rfl, f8⟩; rw [FH.out]; have F8 := Lib.hid ((FA.out.trans0 f8).alloc (.cells (outC (outOf S c.at_)).toArray 36)); clear f8) | (refine wpList_done rfl (exec_store_new (w := w8) (cs := outC (outOf S c.at_)) (ty := 36) rfl rfl rfl (by rw [OL.out]; rfl) (by rw [OL.out]; exact infoOut) outC_one) ?_))
          go_roundw
          case rel => exact ⟨n + 1, by simp, by omega, NI2.out, FR.out.trans0 F8.out⟩
          case measure => show l.length - (n + 1) < l.length - n; omega
      · have i1 : ¬ (n : Int) < (l.length : Int) := by omega
        have hall : ∀ y ∈ l, hasC S y.at_ = false := by have := NI.out; rwa [show l.take n = l by rw [show n = l.length by omega, List.take_length]] at this
        obtain ⟨e0, e1⟩ := putE_0 ND.out hall
        have E0 := Lib.hid e0
        have E1 := Lib.hid e1
        have RR := Lib.hid (R2w.out.fr0 FR.out)
        have FF := Lib.hid (F2.out.trans0 FR.out)
        clear hall e0 e1
        go_wp2_with fail
        go_loopw [31] (fun iv wr2 => ∃ (m : Nat) (U2 : Nat → Prop), iv = .int .i64 m ∧ m ≤ l.length ∧ RC w0 wr2 p U2 (putC S (l.take m)) ∧ (∀ j, U2 j → U j ∨ w.heap.size ≤ j) ∧ Fr U w wr2) (fun iv _ => l.length - (intOf iv).toNat)
        case atStart => exact ⟨0, U, rfl, Nat.zero_le _, RR.out, fun _ h => .inl h, FF.out.of0⟩
        case round =>
          clear RR
          obtain ⟨m, U2, rfl, hm, hr2, hu2, fr2⟩ := hrel
          have RR := Lib.hid hr2
          have HU := Lib.hid hu2
          have FU := Lib.hid fr2
          clear hr2 hu2 fr2
          by_cases h2 : m < l.length
          · have i2 : (m : Int) < (l.length : Int) := by omega
            obtain ⟨c, hx⟩ : ∃ x, l[m]? = some x := ⟨_, List.getElem?_eq_getElem h2⟩
            obtain ⟨b, off, cap, hv, hr, -⟩ := (HL.out.keep RR.out.fr).at_ hx
            cases hv
            have COK := Lib.hid (HL.out.1 c (List.mem_of_getElem? hx))
            have CL := Lib.hid (coinC_len COK.out)
            have Q1 := Lib.hid hr
            have RN := Lib.hid (range_new wr (coinC c) 38)
            have FA := Lib.hid ((Fr.refl No wr).alloc (.cells (coinC c).toArray 38))
            have HPS := Lib.hid (show putC S (l.take (m + 1)) = insC (putC S (l.take m)) c by rw [putC_snoc hx]; rfl)
            have HLEN := Lib.hid (show (putC S (l.take m)).length ≤ 100000 by rw [putC_len, List.length_take]; omega)
            clear hr hx
            go_wp2_with (first | (refine wpList_value rfl (exec_load (ty := 38) rfl rfl RN.out uC rC (by rw [CL.out]; exact infoCoin)) ?_) | (refine wpList_value rfl (exec_load (ty := 38) rfl rfl Q1.out uC rC (by rw [CL.out]; exact infoCoin)) ?_) | (refine wpList_done rfl (exec_store_new (w := wr) (cs := coinC c) (ty := 38) rfl rfl rfl (by rw [CL.out]; rfl) (by rw [CL.out]; exact infoCoin) coinC_one) ?_) | (go_at_call 31; refine (add_C (RR.out.fr0 FA.out) HLEN.out COK.out).mono ?_; rintro e w8 ⟨rfl, U8, r8, h8, f8⟩; have R8 := Lib.hid r8; have H8 := Lib.hid h8; have F8 := Lib.hid f8; clear r8 h8 f8))
            go_roundw
            case rel =>
              refine ⟨m + 1, U8, by simp, by omega, by rw [HPS.out]; exact R8.out, fun j hj => ?_, ?_⟩
              · rcases H8.out j hj with h | h
                · exact HU.out j h
                · have := FU.out.size; have := FA.out.size; exact .inr (by omega)
              · exact (FU.out.trans FA.out.of0 (fun _ _ h => h)).trans F8.out (fun i hi e => (HU.out i e).elim id (fun e => by omega))
            case measure => show l.length - (m + 1) < l.length - m; omega
          · have i2 : ¬ (m : Int) < (l.length : Int) := by omega
            have RZ := Lib.hid (show RC w0 wr p U2 (putS S l) by have := RR.out; rwa [show l.take m = l by rw [show m = l.length by omega, List.take_length], ← E1.out] at this)
            go_wp2
            go_ret
            exact ⟨by rw [E0.out]; rfl, U2, RZ.out, HU.out, FU.out⟩
  · obtain ⟨e0, e1⟩ := putE_12 (S := S) hnd
    have E0 := Lib.hid e0
    have E1 := Lib.hid e1
    have HD := Lib.hid (show (!decide (l.map (·.at_)).Nodup) = true by rw [decide_eq_false hnd]; rfl)
    clear hnd e0 e1
    go_wp2_with (go_at_call 30; refine (twice_any w1 P1.out (by rw [List.length_map]; omega)).mono ?_; rintro e w2 ⟨rfl, f2⟩; rw [HD.out]; have R2w := Lib.hid (R1w.out.fr0 f2); have F2 := Lib.hid (F1.out.trans0 f2); clear f2)
    go_ret
    exact ⟨by rw [E0.out]; rfl, U, by rw [E1.out]; exact R2w.out, fun _ h => .inl h, F2.out.of0⟩
end
end Go.Proofs.Ytoaefhjmpfchiaa
