/- pappusref08.SameIds; pappusref11.Has. -/
import Derived.Test.YtnjkpjcnmdgoeaaKinA
namespace Go.Proofs.Ytnjkpjcnmdgoeaa
open Go Go.RowKit Go.Maps Go.MapKept

set_option maxRecDepth 20000 in
set_option maxHeartbeats 2000000 in
theorem sameIds_any (w : World) {u v : Value} {ks ls : List HashD} (hu : IdsIs w u ks) (hv : IdsIs w v ls) (hN : ks.length ≤ 100000) (_ : ls.length ≤ 100000) :
    Calls Try.prog 18 #[u, v] w fun e w' => ∃ b, e = .returned (.bool b) ∧ (b = true ↔ ks = ls) ∧ Fr No w w' := by
  obtain ⟨dK, uK, rK⟩ := descHash
  obtain ⟨ua, uc, rfl⟩ := hu.2.form
  obtain ⟨va, vc, rfl⟩ := hv.2.form
  have HU := Lib.hid hu
  have HV := Lib.hid hv
  clear hu hv
  by_cases hlen : ks.length = ls.length
  · have j1 : (ks.length : Int) = (ls.length : Int) := by omega
    have HLE := Lib.hid hlen
    clear hlen
    go_enter Try.func18, Try.ntmps18
    go_wp2
    go_loopw [13] (fun iv wr => ∃ n : Nat, iv = .int .i64 n ∧ n ≤ ks.length ∧ ks.take n = ls.take n ∧ Fr No w wr) (fun iv _ => ks.length - (intOf iv).toNat)
    case atStart => exact ⟨0, rfl, Nat.zero_le _, by simp, Fr.refl _ _⟩
    case round =>
      obtain ⟨n, rfl, hn, hni, fr⟩ := hrel
      have FR := Lib.hid fr
      have NI := Lib.hid hni
      clear fr hni
      by_cases h : n < ks.length
      · have i1 : (n : Int) < (ks.length : Int) := by omega
        have i2 : (n : Int) < (ls.length : Int) := by omega
        obtain ⟨x, hx⟩ : ∃ x, ks[n]? = some x := ⟨_, List.getElem?_eq_getElem h⟩
        obtain ⟨y, hy⟩ : ∃ y, ls[n]? = some y := ⟨_, List.getElem?_eq_getElem (by rw [← HLE.out]; exact h)⟩
        obtain ⟨bx, ox, cx, hvx, hrx, -⟩ := (HU.out.keep FR.out).at_ hx
        cases hvx
        obtain ⟨by', oy, cy, hvy, hry, -⟩ := (HV.out.keep FR.out).at_ hy
        cases hvy
        have OX := Lib.hid (HU.out.1 x (List.mem_of_getElem? hx))
        have OY := Lib.hid (HV.out.1 y (List.mem_of_getElem? hy))
        have HX := Lib.hid (hashC_len OX.out)
        have HY := Lib.hid (hashC_len OY.out)
        have R1 := Lib.hid hrx
        have R2 := Lib.hid hry
        have TX := Lib.hid (show ks.take (n + 1) = ks.take n ++ [x] by rw [List.take_add_one, hx]; rfl)
        have TY := Lib.hid (show ls.take (n + 1) = ls.take n ++ [y] by rw [List.take_add_one, hy]; rfl)
        clear hrx hry hx hy
        by_cases hxk : x = y
        · have HE := Lib.hid (show (hashC x).toArray = (hashC y).toArray by simp [hxk])
          have NI2 := Lib.hid (show ks.take (n + 1) = ls.take (n + 1) by rw [TX.out, TY.out, NI.out, hxk])
          clear hxk
          have g0 : Fr No wr wr.drew := by (repeat (first | with_reducible exact Fr.refl _ _ | with_reducible assumption | with_reducible refine Fr.drew ?_ | with_reducible refine Fr.drewN ?_ _ | with_reducible refine Fr.alloc ?_ _ | with_reducible refine Fr.setCell ?_ _ (.inl (by simp <;> omega)) _))
          have HS := Lib.hid (fun (W : World) (f : Fr No wr W) => (⟨range_keep R1.out f id, range_keep R2.out f id⟩ : W.rangeAt bx (ox + n * 32) (hashC x) ∧ W.rangeAt by' (oy + n * 32) (hashC y)))
          go_wp2
          refine wp_region_lexL [false, false, false, false, false, false, false, false, false] (fun W => W.rangeAt bx (ox + n * 32) (hashC x) ∧ W.rangeAt by' (oy + n * 32) (hashC y)) (by kernel_rfl) (by kernel_rfl) ?_ (fun K hK => ?_)
          · exact HS.out _ g0
          repeat (first | ((first | with_reducible refine lexL_read ?_ | ((with_reducible refine lexL_readG ?_ ?_); (focus rfl))); apply Exists.intro; refine ⟨?_, ?_⟩; (focus (first | exact lex_load (ty := 30) rfl (fun w h => h.1) uK rK (by rw [HX.out]; exact infoHash) | exact lex_load (ty := 30) rfl (fun w h => h.2) uK rK (by rw [HY.out]; exact infoHash) | exact fun w' h => eqHash.exec_neq (u := (hashC x).toArray) (v := (hashC y).toArray) rfl rfl rfl (keyOfHash OX.out) (keyOfHash OY.out) true ⟨fun _ => HE.out, fun _ => rfl⟩ w' | (intro w' hS; obtain _ := hS; go_simp; (try with_reducible rfl); done))); try simp only [Act.put, List.setIfInBounds_toArray, List.set_cons_zero, List.set_cons_succ]) | ((first | ((with_reducible refine lexL_skip (c := false) ?_ ?_ ?_); (focus rfl); (focus rfl)) | ((with_reducible refine lexL_skip (c := true) ?_ ?_ ?_); (focus rfl); (focus rfl)) | ((with_reducible refine lexL_skipU ?_ ?_); (focus rfl))); try simp only [Act.put, List.setIfInBounds_toArray, List.set_cons_zero, List.set_cons_succ]))
          refine lexL_nil (hK.out _ _ ?_)
          have G1 := Lib.hid g0
          clear g0 HS
          go_wp2
          go_roundw
          case rel => exact ⟨n + 1, by simp, by omega, NI2.out, FR.out.trans0 G1.out⟩
          case measure => show ks.length - (n + 1) < ks.length - n; omega
        · have HE := Lib.hid (show ¬ (hashC x).toArray = (hashC y).toArray from fun e => hxk (hashC_inj (by simpa using e)))
          have NE := Lib.hid (show ks ≠ ls from fun e => hxk (by
            have h1 := TX.out
            have h2 := TY.out
            rw [e] at h1
            rw [h1] at h2
            have h3 := congrArg List.getLast? h2
            simpa using h3))
          clear hxk
          have g0 : Fr No wr wr.drew := by (repeat (first | with_reducible exact Fr.refl _ _ | with_reducible assumption | with_reducible refine Fr.drew ?_ | with_reducible refine Fr.drewN ?_ _ | with_reducible refine Fr.alloc ?_ _ | with_reducible refine Fr.setCell ?_ _ (.inl (by simp <;> omega)) _))
          have HS := Lib.hid (fun (W : World) (f : Fr No wr W) => (⟨range_keep R1.out f id, range_keep R2.out f id⟩ : W.rangeAt bx (ox + n * 32) (hashC x) ∧ W.rangeAt by' (oy + n * 32) (hashC y)))
          go_wp2
          refine wp_region_lexL [false, false, false, false, false, false, false, false, false] (fun W => W.rangeAt bx (ox + n * 32) (hashC x) ∧ W.rangeAt by' (oy + n * 32) (hashC y)) (by kernel_rfl) (by kernel_rfl) ?_ (fun K hK => ?_)
          · exact HS.out _ g0
          repeat (first | ((first | with_reducible refine lexL_read ?_ | ((with_reducible refine lexL_readG ?_ ?_); (focus rfl))); apply Exists.intro; refine ⟨?_, ?_⟩; (focus (first | exact lex_load (ty := 30) rfl (fun w h => h.1) uK rK (by rw [HX.out]; exact infoHash) | exact lex_load (ty := 30) rfl (fun w h => h.2) uK rK (by rw [HY.out]; exact infoHash) | exact fun w' h => eqHash.exec_neq (u := (hashC x).toArray) (v := (hashC y).toArray) rfl rfl rfl (keyOfHash OX.out) (keyOfHash OY.out) false ⟨fun e => (by cases e), fun e => absurd e HE.out⟩ w' | (intro w' hS; obtain _ := hS; go_simp; (try with_reducible rfl); done))); try simp only [Act.put, List.setIfInBounds_toArray, List.set_cons_zero, List.set_cons_succ]) | ((first | ((with_reducible refine lexL_skip (c := false) ?_ ?_ ?_); (focus rfl); (focus rfl)) | ((with_reducible refine lexL_skip (c := true) ?_ ?_ ?_); (focus rfl); (focus rfl)) | ((with_reducible refine lexL_skipU ?_ ?_); (focus rfl))); try simp only [Act.put, List.setIfInBounds_toArray, List.set_cons_zero, List.set_cons_succ]))
          refine lexL_nil (hK.out _ _ ?_)
          have G1 := Lib.hid g0
          clear g0 HS
          go_wp2
          go_ret
          exact ⟨false, rfl, by simp [NE.out], FR.out.trans0 G1.out⟩
      · have i1 : ¬ (n : Int) < (ks.length : Int) := by omega
        have i2 : n = ks.length := by omega
        have FIN : ks = ls := by have := NI.out; rw [i2, List.take_length, HLE.out, List.take_length] at this; exact this
        have HF := Lib.hid FIN
        clear FIN i2
        go_wp2
        go_ret
        first | exact ⟨true, rfl, by simp [HF.out], FR.out⟩ | exact .inr ⟨rfl, HF.out, FR.out⟩ | exact .inl ⟨rfl, HF.out, FR.out⟩
  · have j1 : ¬ (ks.length : Int) = (ls.length : Int) := by omega
    have NE := Lib.hid (show ks ≠ ls from fun e => hlen (by rw [e]))
    clear hlen
    go_enter Try.func18, Try.ntmps18
    go_wp2
    go_ret
    exact ⟨false, rfl, by simp [NE.out], Fr.refl _ _⟩

set_option maxRecDepth 20000 in
set_option maxHeartbeats 2000000 in
theorem hasId_any (w : World) {v : Value} {ks : List HashD} (hl : IdsIs w v ks) (hN : ks.length ≤ 100000) (k : HashD) (hk : hashOk k) :
    Calls Try.prog 15 #[v, .agg (hashC k).toArray] w fun e w' => ∃ b, e = .returned (.bool b) ∧ (b = true ↔ k ∈ ks) ∧ Fr No w w' := by
  obtain ⟨dK, uK, rK⟩ := descHash
  obtain ⟨va, vc, rfl⟩ := hl.2.form
  have HL := Lib.hid hl
  have HK := Lib.hid (hashC_len hk)
  have RB := Lib.hid (range_new w (hashC k) 30)
  have F0 := Lib.hid (show Fr No w (w.alloc (.cells (hashC k).toArray 30)) by (repeat (first | with_reducible exact Fr.refl _ _ | with_reducible assumption | with_reducible refine Fr.drew ?_ | with_reducible refine Fr.drewN ?_ _ | with_reducible refine Fr.alloc ?_ _ | with_reducible refine Fr.setCell ?_ _ (.inl (by simp <;> omega)) _)))
  have S0 := Lib.hid (show w.heap.size < (w.alloc (.cells (hashC k).toArray 30)).heap.size by simp)
  clear hl
  go_enter Try.func15, Try.ntmps15
  go_wp2
  generalize w.alloc (.cells (hashC k).toArray 30) = w1 at *
  go_loopw [9] (fun iv wr => ∃ n : Nat, iv = .int .i64 n ∧ n ≤ ks.length ∧ k ∉ ks.take n ∧ Fr No w1 wr) (fun iv _ => ks.length - (intOf iv).toNat)
  case atStart => exact ⟨0, rfl, Nat.zero_le _, by simp, Fr.refl _ _⟩
  case round =>
    obtain ⟨n, rfl, hn, hni, fr⟩ := hrel
    have FR := Lib.hid fr
    have NI := Lib.hid hni
    clear fr hni
    by_cases h : n < ks.length
    · have i1 : (n : Int) < (ks.length : Int) := by omega
      obtain ⟨x, hx⟩ : ∃ x, ks[n]? = some x := ⟨_, List.getElem?_eq_getElem h⟩
      obtain ⟨b, off, c, hv, hr, hb⟩ := (HL.out.keep (F0.out.trans0 FR.out)).at_ hx
      cases hv
      have HX := Lib.hid (hashC_len (HL.out.1 x (List.mem_of_getElem? hx)))
      have R1 := Lib.hid hr
      have RB2 := Lib.hid (range_keep RB.out FR.out id)
      have OX := Lib.hid (HL.out.1 x (List.mem_of_getElem? hx))
      have RN := Lib.hid (range_new wr (hashC x) 30)
      have RB3 := Lib.hid (range_keep RB2.out ((Fr.refl No wr).alloc (.cells (hashC x).toArray 30)) id)
      have FA := Lib.hid (show Fr No wr (wr.alloc (.cells (hashC x).toArray 30)) by (repeat (first | with_reducible exact Fr.refl _ _ | with_reducible assumption | with_reducible refine Fr.drew ?_ | with_reducible refine Fr.drewN ?_ _ | with_reducible refine Fr.alloc ?_ _ | with_reducible refine Fr.setCell ?_ _ (.inl (by simp <;> omega)) _)))
      clear hr hb
      by_cases hxk : x = k
      · subst hxk
        have HM := Lib.hid (show x ∈ ks from List.mem_of_getElem? hx)
        clear hx
        go_wp2_with (first | (refine wpList_value rfl (exec_load (ty := 30) rfl rfl R1.out uK rK (by rw [HX.out]; exact infoHash)) ?_) | (refine wpList_done rfl (exec_store_new (w := wr) (ty := 30) rfl rfl rfl (by rw [HX.out]; rfl) (by rw [HX.out]; exact infoHash) hashC_one) ?_) | (refine wpList_value rfl (exec_load (ty := 30) rfl rfl RN.out uK rK (by rw [HX.out]; exact infoHash)) ?_) | (refine wpList_value rfl (exec_load (ty := 30) rfl rfl RB3.out uK rK (by rw [HX.out]; exact infoHash)) ?_) | (refine wpList_value rfl (eqHash.exec_eql rfl rfl rfl (keyOfHash OX.out) (keyOfHash OX.out) true (by simp) _) ?_))
        go_ret
        exact ⟨true, rfl, by simp [HM.out], (F0.out.trans0 FR.out).trans0 FA.out⟩
      · have NE := Lib.hid (show ¬ (hashC x).toArray = (hashC k).toArray from fun e => hxk (hashV_inj (congrArg Value.agg e)))
        have NI2 := Lib.hid (show k ∉ ks.take (n + 1) by
          rw [List.take_add_one, hx]
          simp only [Option.toList_some, List.mem_append, List.mem_singleton]
          exact fun e => e.elim NI.out (fun e => hxk e.symm))
        clear hx
        go_wp2_with (first | (refine wpList_value rfl (exec_load (ty := 30) rfl rfl R1.out uK rK (by rw [HX.out]; exact infoHash)) ?_) | (refine wpList_done rfl (exec_store_new (w := wr) (ty := 30) rfl rfl rfl (by rw [HX.out]; rfl) (by rw [HX.out]; exact infoHash) hashC_one) ?_) | (refine wpList_value rfl (exec_load (ty := 30) rfl rfl RN.out uK rK (by rw [HX.out]; exact infoHash)) ?_) | (refine wpList_value rfl (exec_load (ty := 30) rfl rfl RB3.out uK rK (by rw [HK.out]; exact infoHash)) ?_) | (refine wpList_value rfl (eqHash.exec_eql rfl rfl rfl (keyOfHash OX.out) (keyOfHash hk) false ⟨fun e => (by cases e), fun e => absurd e NE.out⟩ _) ?_))
        go_roundw
        case rel => exact ⟨n + 1, by simp, by omega, NI2.out, FR.out.trans0 FA.out⟩
        case measure => show ks.length - (n + 1) < ks.length - n; omega
    · have i1 : ¬ (n : Int) < (ks.length : Int) := by omega
      have i2 : n = ks.length := by omega
      have FIN : k ∉ ks := by have := NI.out; rw [i2, List.take_length] at this; exact this
      have HF := Lib.hid FIN
      clear FIN i2
      go_wp2
      go_ret
      exact .inl ⟨rfl, HF.out, F0.out.trans0 FR.out⟩
set_option maxRecDepth 20000 in
set_option maxHeartbeats 2000000 in
theorem cloneIds_any (w : World) {v : Value} {H : List HashD} (hh : IdsIs w v H) (hN : H.length ≤ 100000) :
    Calls Try.prog 38 #[v] w fun e w' => ∃ v', e = .returned v' ∧ w'.ownsRow w.heap.size 30 32 v' H.length (H.flatMap hashC) ∧ Fr No w w' := by
  have q22 : ∀ (w : World) (a : Option Addr) (n c n' c' : Nat), (binOp .eql 27 (.slice a n c) (.slice none n' c')).run Try.prog w = .ok (.bool a.isNone) w := fun w a n c n' c' => Lib.run_eql_slice_nil w _ _ a n c n' c' undIds
  by_cases hnil : v = .slice none 0 0
  · subst hnil
    have hl : H = [] := by
      obtain ⟨a, c, h⟩ := hh.2.form
      injection h with h1 h2 h3
      exact List.eq_nil_of_length_eq_zero h2.symm
    subst hl
    clear hh
    go_enter Try.func38, Try.ntmps38
    go_wp2
    go_ret
    exact ⟨_, rfl, World.ownsRow_nil _ _ _ _, Fr.refl _ _⟩
  · have hx : ArgIs (w.alloc (.cells #[] 30)) v H.length (H.flatMap hashC) := hh.2.keep ((Fr.refl _ _).alloc _)
    obtain ⟨v', w', happ, ho, hg, -, hfr⟩ := append_own (P := Try.prog) (w.alloc (.cells #[] 30)) w.heap.size 27 27 30 32 32 _ undIds infoHashZ rfl (by decide) (.slice (some ⟨w.heap.size, 0, none⟩) 0 0) 0 [] (World.ownsRow_made w #[] 0 (Nat.le_refl _) (Nat.zero_le _) rfl) v H.length (H.flatMap hashC) hx (ids_flat_len hh.1) ids_flat_one (by omega) (by unfold maxLen; omega) (by simp) hnil
    have f1 : Fr No w w' := Fr.grown ((Fr.refl _ w).alloc _) hg (fun k hk => by simp [Value.ownBlock] at hk; exact .inl (by omega))
    have hform : ∃ b n c, v = .slice (some b) n c := by
      rcases hh.2 with (⟨h, _⟩ | ⟨g, go, gc, h, _⟩) | ⟨a0, gc, h, -⟩
      · exact absurd h hnil
      · exact ⟨_, _, _, h⟩
      · exact ⟨_, _, _, h⟩
    obtain ⟨b, n, c, rfl⟩ := hform
    have HAP := Lib.hid happ
    have HO := Lib.hid ho
    have F1 := Lib.hid f1
    clear hx happ ho hg hfr f1 hh hnil
    go_enter Try.func38, Try.ntmps38
    go_wp2_with (at_builtin; refine wpList_append_run rfl rfl rfl rfl HAP.out ?_)
    go_ret
    exact ⟨_, rfl, by simpa using HO.out, F1.out⟩
end Go.Proofs.Ytnjkpjcnmdgoeaa
