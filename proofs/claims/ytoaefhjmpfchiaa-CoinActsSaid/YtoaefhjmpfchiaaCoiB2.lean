/- pappusref09.SameOuts. -/
import Derived.Test.YtoaefhjmpfchiaaCoiB
namespace Go.Proofs.Ytoaefhjmpfchiaa
open Go Go.RowKit Go.Maps Go.MapKept

set_option maxRecDepth 20000 in
set_option maxHeartbeats 2000000 in
theorem sameOuts_any (w : World) {u v : Value} {ks ls : List OutD} (hu : OutsIs w u ks) (hv : OutsIs w v ls) (hN : ks.length ≤ 100000) (hM : ls.length ≤ 100000) :
    Calls Try.prog 23 #[u, v] w fun e w' => ∃ b, e = .returned (.bool b) ∧ (b = true ↔ ks = ls) ∧ Fr No w w' := by
  obtain ⟨dK, uK, rK⟩ := descOut
  obtain ⟨ua, uc, rfl⟩ := hu.2.form
  obtain ⟨va, vc, rfl⟩ := hv.2.form
  have HU := Lib.hid hu
  have HV := Lib.hid hv
  clear hu hv
  by_cases hlen : ks.length = ls.length
  · have j1 : (ks.length : Int) = (ls.length : Int) := by omega
    have HLE := Lib.hid hlen
    clear hlen
    go_enter Try.func23, Try.ntmps23
    go_wp2
    go_loopw [13] (fun iv wr => ∃ n : Nat, iv = .int .i64 n ∧ n ≤ ks.length ∧ ks.take n = ls.take n ∧ Fr No w wr) (fun iv _ => ks.length - (intOf iv).toNat)
    case atStart => exact ⟨0, rfl, Nat.zero_le _, by simp, Fr.refl _ _⟩
    case round =>
      obtain ⟨n, rfl, hn, hni, fr⟩ := hrel
      have FR := Lib.hid fr
      have NI := Lib.hid hni
      clear fr hni
      by_cases h : n < ks.length
      · have i1 : (n : Int) < (ks.length : Int) := by omega
        have i2 : (n : Int) < (ls.length : Int) := by omega
        obtain ⟨x, hx⟩ : ∃ x, ks[n]? = some x := ⟨_, List.getElem?_eq_getElem h⟩
        obtain ⟨y, hy⟩ : ∃ y, ls[n]? = some y := ⟨_, List.getElem?_eq_getElem (by rw [← HLE.out]; exact h)⟩
        obtain ⟨bx, ox, cx, hvx, hrx, -⟩ := (HU.out.keep FR.out).at_ hx
        cases hvx
        obtain ⟨by', oy, cy, hvy, hry, -⟩ := (HV.out.keep FR.out).at_ hy
        cases hvy
        have OX := Lib.hid (HU.out.1 x (List.mem_of_getElem? hx))
        have OY := Lib.hid (HV.out.1 y (List.mem_of_getElem? hy))
        have HX := Lib.hid (outC_len OX.out)
        have HY := Lib.hid (outC_len OY.out)
        have R1 := Lib.hid hrx
        have R2 := Lib.hid hry
        have TX := Lib.hid (show ks.take (n + 1) = ks.take n ++ [x] by rw [List.take_add_one, hx]; rfl)
        have TY := Lib.hid (show ls.take (n + 1) = ls.take n ++ [y] by rw [List.take_add_one, hy]; rfl)
        clear hrx hry hx hy
        by_cases hxk : x = y
        · have HE := Lib.hid (show (outC x).toArray = (outC y).toArray by simp [hxk])
          have NI2 := Lib.hid (show ks.take (n + 1) = ls.take (n + 1) by rw [TX.out, TY.out, NI.out, hxk])
          clear hxk
          have g0 : Fr No wr wr.drew := by (repeat (first | with_reducible exact Fr.refl _ _ | with_reducible assumption | with_reducible refine Fr.drew ?_ | with_reducible refine Fr.drewN ?_ _ | with_reducible refine Fr.alloc ?_ _ | with_reducible refine Fr.setCell ?_ _ (.inl (by simp <;> omega)) _))
          have HS := Lib.hid (fun (W : World) (f : Fr No wr W) => (⟨range_keep R1.out f id, range_keep R2.out f id⟩ : W.rangeAt bx (ox + n * 33) (outC x) ∧ W.rangeAt by' (oy + n * 33) (outC y)))
          go_wp2
          refine wp_region_lexL [false, false, false, false, false, false, false, false, false] (fun W => W.rangeAt bx (ox + n * 33) (outC x) ∧ W.rangeAt by' (oy + n * 33) (outC y)) (by kernel_rfl) (by kernel_rfl) ?_ (fun K hK => ?_)
          · exact HS.out _ g0
          repeat (first | ((first | with_reducible refine lexL_read ?_ | ((with_reducible refine lexL_readG ?_ ?_); (focus rfl))); apply Exists.intro; refine ⟨?_, ?_⟩; (focus (first | exact lex_load (ty := 36) rfl (fun w h => h.1) uK rK (by rw [HX.out]; exact infoOut) | exact lex_load (ty := 36) rfl (fun w h => h.2) uK rK (by rw [HY.out]; exact infoOut) | exact fun w' h => eqOut.exec_neq (u := (outC x).toArray) (v := (outC y).toArray) rfl rfl rfl (keyOfOut OX.out) (keyOfOut OY.out) true ⟨fun _ => HE.out, fun _ => rfl⟩ w' | (intro w' hS; obtain _ := hS; go_simp; (try with_reducible rfl); done))); try simp only [Act.put, List.setIfInBounds_toArray, List.set_cons_zero, List.set_cons_succ]) | ((first | ((with_reducible refine lexL_skip (c := false) ?_ ?_ ?_); (focus rfl); (focus rfl)) | ((with_reducible refine lexL_skip (c := true) ?_ ?_ ?_); (focus rfl); (focus rfl)) | ((with_reducible refine lexL_skipU ?_ ?_); (focus rfl))); try simp only [Act.put, List.setIfInBounds_toArray, List.set_cons_zero, List.set_cons_succ]))
          refine lexL_nil (hK.out _ _ ?_)
          have G1 := Lib.hid g0
          clear g0 HS
          go_wp2
          go_roundw
          case rel => exact ⟨n + 1, by simp, by omega, NI2.out, FR.out.trans0 G1.out⟩
          case measure => show ks.length - (n + 1) < ks.length - n; omega
        · have HE := Lib.hid (show ¬ (outC x).toArray = (outC y).toArray from fun e => hxk (outC_inj (by simpa using e)))
          have NE := Lib.hid (show ks ≠ ls from fun e => hxk (by
            have h1 := TX.out
            have h2 := TY.out
            rw [e] at h1
            rw [h1] at h2
            have h3 := congrArg List.getLast? h2
            simpa using h3))
          clear hxk
          have g0 : Fr No wr wr.drew := by (repeat (first | with_reducible exact Fr.refl _ _ | with_reducible assumption | with_reducible refine Fr.drew ?_ | with_reducible refine Fr.drewN ?_ _ | with_reducible refine Fr.alloc ?_ _ | with_reducible refine Fr.setCell ?_ _ (.inl (by simp <;> omega)) _))
          have HS := Lib.hid (fun (W : World) (f : Fr No wr W) => (⟨range_keep R1.out f id, range_keep R2.out f id⟩ : W.rangeAt bx (ox + n * 33) (outC x) ∧ W.rangeAt by' (oy + n * 33) (outC y)))
          go_wp2
          refine wp_region_lexL [false, false, false, false, false, false, false, false, false] (fun W => W.rangeAt bx (ox + n * 33) (outC x) ∧ W.rangeAt by' (oy + n * 33) (outC y)) (by kernel_rfl) (by kernel_rfl) ?_ (fun K hK => ?_)
          · exact HS.out _ g0
          repeat (first | ((first | with_reducible refine lexL_read ?_ | ((with_reducible refine lexL_readG ?_ ?_); (focus rfl))); apply Exists.intro; refine ⟨?_, ?_⟩; (focus (first | exact lex_load (ty := 36) rfl (fun w h => h.1) uK rK (by rw [HX.out]; exact infoOut) | exact lex_load (ty := 36) rfl (fun w h => h.2) uK rK (by rw [HY.out]; exact infoOut) | exact fun w' h => eqOut.exec_neq (u := (outC x).toArray) (v := (outC y).toArray) rfl rfl rfl (keyOfOut OX.out) (keyOfOut OY.out) false ⟨fun e => (by cases e), fun e => absurd e HE.out⟩ w' | (intro w' hS; obtain _ := hS; go_simp; (try with_reducible rfl); done))); try simp only [Act.put, List.setIfInBounds_toArray, List.set_cons_zero, List.set_cons_succ]) | ((first | ((with_reducible refine lexL_skip (c := false) ?_ ?_ ?_); (focus rfl); (focus rfl)) | ((with_reducible refine lexL_skip (c := true) ?_ ?_ ?_); (focus rfl); (focus rfl)) | ((with_reducible refine lexL_skipU ?_ ?_); (focus rfl))); try simp only [Act.put, List.setIfInBounds_toArray, List.set_cons_zero, List.set_cons_succ]))
          refine lexL_nil (hK.out _ _ ?_)
          have G1 := Lib.hid g0
          clear g0 HS
          go_wp2
          go_ret
          exact ⟨false, rfl, by simp [NE.out], FR.out.trans0 G1.out⟩
      · have i1 : ¬ (n : Int) < (ks.length : Int) := by omega
        have i2 : n = ks.length := by omega
        have FIN : ks = ls := by have := NI.out; rw [i2, List.take_length, HLE.out, List.take_length] at this; exact this
        have HF := Lib.hid FIN
        clear FIN i2
        go_wp2
        go_ret
        first | exact ⟨true, rfl, by simp [HF.out], FR.out⟩ | exact .inr ⟨rfl, HF.out, FR.out⟩ | exact .inl ⟨rfl, HF.out, FR.out⟩
  · have j1 : ¬ (ks.length : Int) = (ls.length : Int) := by omega
    have NE := Lib.hid (show ks ≠ ls from fun e => hlen (by rw [e]))
    clear hlen
    go_enter Try.func23, Try.ntmps23
    go_wp2
    go_ret
    exact ⟨false, rfl, by simp [NE.out], Fr.refl _ _⟩
end Go.Proofs.Ytoaefhjmpfchiaa
