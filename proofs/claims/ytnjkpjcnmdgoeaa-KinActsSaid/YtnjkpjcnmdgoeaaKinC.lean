/- slices.Index, Contains, IndexFunc, DeleteFunc over ids. -/
import Derived.Test.YtnjkpjcnmdgoeaaKinB
namespace Go.Proofs.Ytnjkpjcnmdgoeaa
open Go Go.RowKit Go.Maps Go.MapKept

/-- Where x is first. -/
def idxI (x : HashD) : List HashD → Int
  | [] => -1
  | y :: r => if y = x then 0 else if x ∈ r then 1 + idxI x r else -1
theorem idxI_none {x : HashD} : ∀ {l : List HashD}, x ∉ l → idxI x l = -1
  | [], _ => rfl
  | y :: r, h => by
    have h1 : ¬ y = x := fun e => h (by simp [e])
    have h2 : x ∉ r := fun e => h (by simp [e])
    simp [idxI, h1, h2]
theorem idxI_at {x : HashD} : ∀ {l : List HashD} {n : Nat}, l[n]? = some x → x ∉ l.take n → idxI x l = n
  | [], n, h, _ => by simp at h
  | y :: r, 0, h, _ => by
    simp at h
    simp [idxI, h]
  | y :: r, n + 1, h, hn => by
    simp only [List.getElem?_cons_succ] at h
    simp only [List.take_succ_cons, List.mem_cons, not_or] at hn
    have h1 : ¬ y = x := fun e => hn.1 e.symm
    have h2 : x ∈ r := List.mem_of_getElem? h
    have := idxI_at h hn.2
    simp only [idxI, h1, if_false, h2, if_true, this]
    omega
theorem idxI_ge {x : HashD} : ∀ {l : List HashD}, (0 ≤ idxI x l ↔ x ∈ l)
  | [] => by simp [idxI]
  | y :: r => by
    have ih := idxI_ge (x := x) (l := r)
    by_cases h1 : y = x
    · simp [idxI, h1]
    · by_cases h2 : x ∈ r
      · have := ih.2 h2
        simp only [idxI, h1, if_false, h2, if_true, List.mem_cons, or_true, iff_true]
        omega
      · have h3 : ¬ x = y := fun e => h1 e.symm
        simp [idxI, h1, h2, h3]
set_option maxRecDepth 20000 in
set_option maxHeartbeats 2000000 in
theorem index_any (w : World) {v : Value} {l : List HashD} (hl : IdsIs w v l) (hN : l.length ≤ 100000) (k : HashD) (hk : hashOk k) :
    Calls Try.prog 41 #[v, .agg (hashC k).toArray] w fun e w' => e = .returned (.int .i64 (idxI k l)) ∧ Fr No w w' := by
  obtain ⟨dK, uK, rK⟩ := descHash
  obtain ⟨va, vc, rfl⟩ := hl.2.form
  have HL := Lib.hid hl
  have HK := Lib.hid (hashC_len hk)
  have KOK := Lib.hid hk
  have RB := Lib.hid (range_new w (hashC k) 30)
  have F0 := Lib.hid (show Fr No w (w.alloc (.cells (hashC k).toArray 30)) by (repeat (first | with_reducible exact Fr.refl _ _ | with_reducible assumption | with_reducible refine Fr.drew ?_ | with_reducible refine Fr.drewN ?_ _ | with_reducible refine Fr.alloc ?_ _ | with_reducible refine Fr.setCell ?_ _ (.inl (by simp <;> omega)) _)))
  clear hl hk
  go_enter Try.func41, Try.ntmps41
  go_wp2
  generalize hq : w.heap.size = q at *
  generalize w.alloc (.cells (hashC k).toArray 30) = w1 at *
  go_loopw [8] (fun iv wr => ∃ n : Nat, iv = .int .i64 n ∧ n ≤ l.length ∧ k ∉ l.take n ∧ Fr No w1 wr) (fun iv _ => l.length - (intOf iv).toNat)
  case atStart => exact ⟨0, rfl, Nat.zero_le _, by simp, Fr.refl _ _⟩
  case round =>
    obtain ⟨n, rfl, hn, hni, fr⟩ := hrel
    have FR := Lib.hid fr
    have NI := Lib.hid hni
    clear fr hni
    by_cases h : n < l.length
    · have i1 : (n : Int) < (l.length : Int) := by omega
      obtain ⟨x, hx⟩ : ∃ x, l[n]? = some x := ⟨_, List.getElem?_eq_getElem h⟩
      obtain ⟨b, off, c, hv, hr, hb⟩ := (HL.out.keep (F0.out.trans0 FR.out)).at_ hx
      cases hv
      have OX := Lib.hid (HL.out.1 x (List.mem_of_getElem? hx))
      have HX := Lib.hid (hashC_len OX.out)
      have R1 := Lib.hid hr
      have RB2 := Lib.hid (range_keep RB.out FR.out id)
      have HS := Lib.hid (fun (W : World) (f : Fr No wr W) => (⟨range_keep RB2.out f id, range_keep R1.out f id⟩ : W.rangeAt q 0 (hashC k) ∧ W.rangeAt b (off + n * 32) (hashC x)))
      clear hr hb
      by_cases hxk : k = x
      · subst hxk
        have EI := Lib.hid (idxI_at hx NI.out)
        clear hx
        go_wp2
        refine wp_region_lexL [false, false, false, false, false, false] (fun W => W.rangeAt q 0 (hashC k) ∧ W.rangeAt b (off + n * 32) (hashC k)) (by kernel_rfl) (by kernel_rfl) ?_ (fun K hK => ?_)
        · exact HS.out _ (Fr.refl No _).drew
        repeat (first | ((first | with_reducible refine lexL_read ?_ | ((with_reducible refine lexL_readG ?_ ?_); (focus rfl))); apply Exists.intro; refine ⟨?_, ?_⟩; (focus (first | exact lex_load (ty := 30) rfl (fun w h => h.1) uK rK (by rw [HK.out]; exact infoHash) | exact lex_load (ty := 30) rfl (fun w h => h.2) uK rK (by rw [HK.out]; exact infoHash) | exact fun w' h => eqHash.exec_eql (u := (hashC k).toArray) (v := (hashC k).toArray) rfl rfl rfl (keyOfHash KOK.out) (keyOfHash KOK.out) true (by simp) w' | (intro w' hS; obtain _ := hS; go_simp; (try with_reducible rfl); done))); try simp only [Act.put, List.setIfInBounds_toArray, List.set_cons_zero, List.set_cons_succ]) | ((first | ((with_reducible refine lexL_skip (c := false) ?_ ?_ ?_); (focus rfl); (focus rfl)) | ((with_reducible refine lexL_skip (c := true) ?_ ?_ ?_); (focus rfl); (focus rfl)) | ((with_reducible refine lexL_skipU ?_ ?_); (focus rfl))); try simp only [Act.put, List.setIfInBounds_toArray, List.set_cons_zero, List.set_cons_succ]))
        refine lexL_nil (hK.out _ _ ?_)
        go_wp2
        go_ret
        exact ⟨by rw [EI.out]; rfl, (F0.out.trans0 FR.out).drew⟩
      · have NE := Lib.hid (show ¬ (hashC k).toArray = (hashC x).toArray from fun e => hxk (hashV_inj (congrArg Value.agg e)))
        have NI2 := Lib.hid (show k ∉ l.take (n + 1) by
          rw [List.take_add_one, hx]
          simp only [Option.toList_some, List.mem_append, List.mem_singleton]
          exact fun e => e.elim NI.out hxk)
        clear hx
        go_wp2
        refine wp_region_lexL [false, false, false, false, false, false] (fun W => W.rangeAt q 0 (hashC k) ∧ W.rangeAt b (off + n * 32) (hashC x)) (by kernel_rfl) (by kernel_rfl) ?_ (fun K hK => ?_)
        · exact HS.out _ (Fr.refl No _).drew
        repeat (first | ((first | with_reducible refine lexL_read ?_ | ((with_reducible refine lexL_readG ?_ ?_); (focus rfl))); apply Exists.intro; refine ⟨?_, ?_⟩; (focus (first | exact lex_load (ty := 30) rfl (fun w h => h.1) uK rK (by rw [HK.out]; exact infoHash) | exact lex_load (ty := 30) rfl (fun w h => h.2) uK rK (by rw [HX.out]; exact infoHash) | exact fun w' h => eqHash.exec_eql (u := (hashC k).toArray) (v := (hashC x).toArray) rfl rfl rfl (keyOfHash KOK.out) (keyOfHash OX.out) false ⟨fun e => (by cases e), fun e => absurd e NE.out⟩ w' | (intro w' hS; obtain _ := hS; go_simp; (try with_reducible rfl); done))); try simp only [Act.put, List.setIfInBounds_toArray, List.set_cons_zero, List.set_cons_succ]) | ((first | ((with_reducible refine lexL_skip (c := false) ?_ ?_ ?_); (focus rfl); (focus rfl)) | ((with_reducible refine lexL_skip (c := true) ?_ ?_ ?_); (focus rfl); (focus rfl)) | ((with_reducible refine lexL_skipU ?_ ?_); (focus rfl))); try simp only [Act.put, List.setIfInBounds_toArray, List.set_cons_zero, List.set_cons_succ]))
        refine lexL_nil (hK.out _ _ ?_)
        go_wp2
        go_roundw
        case rel => exact ⟨n + 1, by simp, by omega, NI2.out, FR.out.drew⟩
        case measure => show l.length - (n + 1) < l.length - n; omega
    · have i1 : ¬ (n : Int) < (l.length : Int) := by omega
      have i2 : n = l.length := by omega
      have FIN : k ∉ l := by have := NI.out; rw [i2, List.take_length] at this; exact this
      have HF := Lib.hid (idxI_none FIN)
      clear FIN i2
      go_wp2
      go_ret
      exact ⟨by rw [HF.out]; rfl, F0.out.trans0 FR.out⟩
set_option maxRecDepth 20000 in
set_option maxHeartbeats 2000000 in
theorem contains_any (w : World) {v : Value} {l : List HashD} (hl : IdsIs w v l) (hN : l.length ≤ 100000) (k : HashD) (hk : hashOk k) :
    Calls Try.prog 33 #[v, .agg (hashC k).toArray] w fun e w' => e = .returned (.bool (decide (k ∈ l))) ∧ Fr No w w' := by
  obtain ⟨dK, uK, rK⟩ := descHash
  obtain ⟨va, vc, rfl⟩ := hl.2.form
  have HK := Lib.hid (hashC_len hk)
  have RB := Lib.hid (range_new w (hashC k) 30)
  have F0 := Lib.hid (show Fr No w (w.alloc (.cells (hashC k).toArray 30)) by (repeat (first | with_reducible exact Fr.refl _ _ | with_reducible assumption | with_reducible refine Fr.drew ?_ | with_reducible refine Fr.drewN ?_ _ | with_reducible refine Fr.alloc ?_ _ | with_reducible refine Fr.setCell ?_ _ (.inl (by simp <;> omega)) _)))
  have HC := Lib.hid (index_any (w.alloc (.cells (hashC k).toArray 30)) (hl.keep F0.out) hN k hk)
  have GE := Lib.hid (idxI_ge (x := k) (l := l))
  clear hl hk
  have hcase : (k ∈ l ∧ 0 ≤ idxI k l) ∨ (k ∉ l ∧ ¬ 0 ≤ idxI k l) := by
    have := GE.out
    by_cases h : k ∈ l
    · exact .inl ⟨h, this.2 h⟩
    · exact .inr ⟨h, fun e => h (this.1 e)⟩
  generalize idxI k l = i at *
  go_enter Try.func33, Try.ntmps33
  rcases hcase with ⟨h1, h2⟩ | ⟨h1, h2⟩
  · have E1 := Lib.hid (show decide (k ∈ l) = true from decide_eq_true h1)
    clear h1
    go_wp2_with (first | (refine wpList_value rfl (exec_load (ty := 30) rfl rfl RB.out uK rK (by rw [HK.out]; exact infoHash)) ?_) | (go_at_call 41; refine HC.out.mono ?_; rintro e w2 ⟨rfl, f2⟩; have F2 := Lib.hid (F0.out.trans0 f2); clear f2))
    go_ret
    exact ⟨by rw [E1.out]; rfl, F2.out⟩
  · have E1 := Lib.hid (show decide (k ∈ l) = false from decide_eq_false h1)
    clear h1
    go_wp2_with (first | (refine wpList_value rfl (exec_load (ty := 30) rfl rfl RB.out uK rK (by rw [HK.out]; exact infoHash)) ?_) | (go_at_call 41; refine HC.out.mono ?_; rintro e w2 ⟨rfl, f2⟩; have F2 := Lib.hid (F0.out.trans0 f2); clear f2))
    go_ret
    exact ⟨by rw [E1.out]; show Ending.returned (.bool (decide (0 ≤ i))) = _; rw [decide_eq_false (by omega)], F2.out⟩
/-- 'same': is it x? -/
def sameV (q : Nat) : Value := .func (.func 39) #[] #[.pointer (some ⟨q, 0, none⟩)]
set_option maxRecDepth 20000 in
set_option maxHeartbeats 2000000 in
theorem same_any (w : World) {q : Nat} {k x : HashD} (hr : w.rangeAt q 0 (hashC k)) (hk : hashOk k) (hx : hashOk x) :
    Calls Try.prog 39 #[.agg (hashC x).toArray, .pointer (some ⟨q, 0, none⟩)] w fun e w' => e = .returned (.bool (decide (x = k))) ∧ Fr No w w' := by
  obtain ⟨dK, uK, rK⟩ := descHash
  have HK := Lib.hid (hashC_len hk)
  have HX := Lib.hid (hashC_len hx)
  have RB := Lib.hid (range_new w (hashC x) 30)
  have F0 := Lib.hid (show Fr No w (w.alloc (.cells (hashC x).toArray 30)) by (repeat (first | with_reducible exact Fr.refl _ _ | with_reducible assumption | with_reducible refine Fr.drew ?_ | with_reducible refine Fr.drewN ?_ _ | with_reducible refine Fr.alloc ?_ _ | with_reducible refine Fr.setCell ?_ _ (.inl (by simp <;> omega)) _)))
  have RK := Lib.hid (range_keep hr F0.out id)
  clear hr
  have BB := Lib.hid (show (decide (x = k) = true ↔ (hashC x).toArray = (hashC k).toArray) by
    rw [decide_eq_true_iff]
    exact ⟨fun e => by rw [e], fun e => hashV_inj (congrArg Value.agg e)⟩)
  generalize decide (x = k) = bb at *
  go_enter Try.func39, Try.ntmps39
  go_wp2_with (first | (refine wpList_value rfl (exec_load (ty := 30) rfl rfl RB.out uK rK (by rw [HX.out]; exact infoHash)) ?_) | (refine wpList_value rfl (exec_load (ty := 30) rfl rfl RK.out uK rK (by rw [HK.out]; exact infoHash)) ?_) | (refine wpList_value rfl (eqHash.exec_eql rfl rfl rfl (keyOfHash hx) (keyOfHash hk) bb BB.out _) ?_))
  go_ret
  exact ⟨by rfl, F0.out⟩
set_option maxRecDepth 20000 in
set_option maxHeartbeats 2000000 in
theorem indexFunc_any (w : World) {v : Value} {l : List HashD} (hl : IdsIs w v l) (hN : l.length ≤ 100000) {q : Nat} {k : HashD} (hr : w.rangeAt q 0 (hashC k)) (hk : hashOk k) :
    Calls Try.prog 44 #[v, sameV q] w fun e w' => e = .returned (.int .i64 (idxI k l)) ∧ Fr No w w' := by
  obtain ⟨dK, uK, rK⟩ := descHash
  obtain ⟨va, vc, rfl⟩ := hl.2.form
  unfold sameV
  have HL := Lib.hid hl
  have KOK := Lib.hid hk
  have RB := Lib.hid hr
  clear hl hk hr
  go_enter Try.func44, Try.ntmps44
  go_wp2
  go_loopw [8] (fun iv wr => ∃ n : Nat, iv = .int .i64 n ∧ n ≤ l.length ∧ k ∉ l.take n ∧ Fr No w wr) (fun iv _ => l.length - (intOf iv).toNat)
  case atStart => exact ⟨0, rfl, Nat.zero_le _, by simp, Fr.refl _ _⟩
  case round =>
    obtain ⟨n, rfl, hn, hni, fr⟩ := hrel
    have FR := Lib.hid fr
    have NI := Lib.hid hni
    clear fr hni
    by_cases h : n < l.length
    · have i1 : (n : Int) < (l.length : Int) := by omega
      obtain ⟨x, hx⟩ : ∃ x, l[n]? = some x := ⟨_, List.getElem?_eq_getElem h⟩
      obtain ⟨b, off, c, hv, hr, hb⟩ := (HL.out.keep FR.out).at_ hx
      cases hv
      have OX := Lib.hid (HL.out.1 x (List.mem_of_getElem? hx))
      have HX := Lib.hid (hashC_len OX.out)
      have R1 := Lib.hid hr
      clear hr hb
      by_cases hxk : x = k
      · have EI := Lib.hid (idxI_at (hxk ▸ hx) NI.out)
        have D1 := Lib.hid (show decide (x = k) = true from decide_eq_true hxk)
        clear hx hxk
        go_wp2_with (first | (refine wpList_value rfl (exec_load (ty := 30) rfl rfl R1.out uK rK (by rw [HX.out]; exact infoHash)) ?_) | (go_at_call 39; refine (same_any _ (range_keep RB.out FR.out id) KOK.out OX.out).mono ?_; rintro e w2 ⟨rfl, f2⟩; rw [D1.out]; have F2 := Lib.hid (FR.out.trans0 f2); clear f2))
        go_ret
        exact ⟨by rw [EI.out]; rfl, F2.out⟩
      · have D1 := Lib.hid (show decide (x = k) = false from decide_eq_false hxk)
        have NI2 := Lib.hid (show k ∉ l.take (n + 1) by
          rw [List.take_add_one, hx]
          simp only [Option.toList_some, List.mem_append, List.mem_singleton]
          exact fun e => e.elim NI.out (fun e => hxk e.symm))
        clear hx hxk
        go_wp2_with (first | (refine wpList_value rfl (exec_load (ty := 30) rfl rfl R1.out uK rK (by rw [HX.out]; exact infoHash)) ?_) | (go_at_call 39; refine (same_any _ (range_keep RB.out FR.out id) KOK.out OX.out).mono ?_; rintro e w2 ⟨rfl, f2⟩; rw [D1.out]; have F2 := Lib.hid (FR.out.trans0 f2); clear f2))
        go_roundw
        case rel => exact ⟨n + 1, by simp, by omega, NI2.out, F2.out⟩
        case measure => show l.length - (n + 1) < l.length - n; omega
    · have i1 : ¬ (n : Int) < (l.length : Int) := by omega
      have i2 : n = l.length := by omega
      have FIN : k ∉ l := by have := NI.out; rw [i2, List.take_length] at this; exact this
      have HF := Lib.hid (idxI_none FIN)
      clear FIN i2
      go_wp2
      go_ret
      exact ⟨by rw [HF.out]; rfl, FR.out⟩
end Go.Proofs.Ytnjkpjcnmdgoeaa
