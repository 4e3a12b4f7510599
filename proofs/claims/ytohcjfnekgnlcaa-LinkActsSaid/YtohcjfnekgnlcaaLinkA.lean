/- link: of, Has, find. -/
import Derived.Test.YtohcjfnekgnlcaaProg
import Derived.Test.YtohcjfnekgnlcaaLex
import Derived.Test.YtohcjfnekgnlcaaLinkM
import Derived.Lib.Hide
namespace Go.Proofs.Ytohcjfnekgnlcaa
open Go Go.RowKit Go.Maps

set_option maxHeartbeats 1000000 in
theorem of_lt (x y : Int) (w : World) (v1 : 0 ≤ x) (v4 : y < 64) (hxy : x < y) :
    Calls Try.prog 33 #[.int .i64 x, .int .i64 y] w fun e w' => e = .returned (.tuple #[.agg #[.int .i64 x, .int .i64 y], .bool true]) ∧ Fr No w w' := by
  have h1 : decide (0 ≤ x) = true := by simp; omega
  have h2 : decide (y < 64) = true := by simp; omega
  have h3 : (x != y) = true := by simp; omega
  go_enter Try.func33, Try.ntmps33
  go_wp2
  refine wp_region_lexL [false, false, false, false, false, false, false, false, false, false, false, false, false, false, false, false, true, false] (fun w' => w'.cell? ⟨w.heap.size + 1, 0, none⟩ = some (.int .i64 x) ∧ w'.cell? ⟨w.heap.size + 1, 1, none⟩ = some (.int .i64 y)) (by kernel_rfl) (by kernel_rfl) ?_ (fun K hK => ?_)
  · go_simp
  repeat (first | ((first | with_reducible refine lexL_read ?_ | ((with_reducible refine lexL_readG ?_ ?_); (focus rfl))); apply Exists.intro; refine ⟨fun w' hS => ?_, ?_⟩; (focus (obtain ⟨s1, s2⟩ := hS; go_simp; (try with_reducible rfl); done)); try simp only [Act.put, List.setIfInBounds_toArray, List.set_cons_zero, List.set_cons_succ]) | ((first | ((with_reducible refine lexL_skip (c := false) ?_ ?_ ?_); (focus rfl); (focus rfl)) | ((with_reducible refine lexL_skip (c := true) ?_ ?_ ?_); (focus rfl); (focus rfl)) | ((with_reducible refine lexL_skipU ?_ ?_); (focus rfl))); try simp only [Act.put, List.setIfInBounds_toArray, List.set_cons_zero, List.set_cons_succ]))
  (first | with_reducible refine lexL_eff (fun K' hK' => ?_) | ((with_reducible refine lexL_effG ?_ (fun K' hK' => ?_)); (focus rfl)))
  go_simp
  refine hK'.out _ _ ?_ (fun hS => ?_)
  · go_simp
  repeat (first | ((first | with_reducible refine lexL_read ?_ | ((with_reducible refine lexL_readG ?_ ?_); (focus rfl))); apply Exists.intro; refine ⟨fun w' hS => ?_, ?_⟩; (focus (obtain ⟨s1, s2⟩ := hS; go_simp; (try with_reducible rfl); done)); try simp only [Act.put, List.setIfInBounds_toArray, List.set_cons_zero, List.set_cons_succ]) | ((first | ((with_reducible refine lexL_skip (c := false) ?_ ?_ ?_); (focus rfl); (focus rfl)) | ((with_reducible refine lexL_skip (c := true) ?_ ?_ ?_); (focus rfl); (focus rfl)) | ((with_reducible refine lexL_skipU ?_ ?_); (focus rfl))); try simp only [Act.put, List.setIfInBounds_toArray, List.set_cons_zero, List.set_cons_succ]))
  refine lexL_nil (hK.out _ _ ?_)
  go_wp2
  exact bodyPost_ret (v := .tuple #[.agg #[.int .i64 x, .int .i64 y], .bool true]) (by simp [results, Try.results33, go_sem]) rfl ⟨rfl, by (repeat (first | with_reducible exact Fr.refl _ _ | with_reducible assumption | with_reducible refine Fr.drew ?_ | with_reducible refine Fr.drewN ?_ _ | with_reducible refine Fr.alloc ?_ _ | with_reducible refine Fr.setCell ?_ _ (.inl (by simp <;> omega)) _))⟩

set_option maxHeartbeats 1000000 in
theorem of_gt (x y : Int) (w : World) (v1 : 0 ≤ y) (v4 : x < 64) (hxy : y < x) :
    Calls Try.prog 33 #[.int .i64 x, .int .i64 y] w fun e w' => e = .returned (.tuple #[.agg #[.int .i64 y, .int .i64 x], .bool true]) ∧ Fr No w w' := by
  have hle : ¬ x ≤ y := by omega
  have hlt : ¬ x < y := by omega
  have h1 : decide (0 ≤ y) = true := by simp; omega
  have h2 : decide (x < 64) = true := by simp; omega
  have h3 : (y != x) = true := by simp; omega
  go_enter Try.func33, Try.ntmps33
  go_wp2
  refine wp_region_lexL [false, false, false, false, false, false, false, false, false, false, false, false, false, false, false, false, true, false] (fun w' => w'.cell? ⟨w.heap.size + 1, 0, none⟩ = some (.int .i64 y) ∧ w'.cell? ⟨w.heap.size + 1, 1, none⟩ = some (.int .i64 x)) (by kernel_rfl) (by kernel_rfl) ?_ (fun K hK => ?_)
  · go_simp
  repeat (first | ((first | with_reducible refine lexL_read ?_ | ((with_reducible refine lexL_readG ?_ ?_); (focus rfl))); apply Exists.intro; refine ⟨fun w' hS => ?_, ?_⟩; (focus (obtain ⟨s1, s2⟩ := hS; go_simp; (try with_reducible rfl); done)); try simp only [Act.put, List.setIfInBounds_toArray, List.set_cons_zero, List.set_cons_succ]) | ((first | ((with_reducible refine lexL_skip (c := false) ?_ ?_ ?_); (focus rfl); (focus rfl)) | ((with_reducible refine lexL_skip (c := true) ?_ ?_ ?_); (focus rfl); (focus rfl)) | ((with_reducible refine lexL_skipU ?_ ?_); (focus rfl))); try simp only [Act.put, List.setIfInBounds_toArray, List.set_cons_zero, List.set_cons_succ]))
  (first | with_reducible refine lexL_eff (fun K' hK' => ?_) | ((with_reducible refine lexL_effG ?_ (fun K' hK' => ?_)); (focus rfl)))
  go_simp
  refine hK'.out _ _ ?_ (fun hS => ?_)
  · go_simp
  repeat (first | ((first | with_reducible refine lexL_read ?_ | ((with_reducible refine lexL_readG ?_ ?_); (focus rfl))); apply Exists.intro; refine ⟨fun w' hS => ?_, ?_⟩; (focus (obtain ⟨s1, s2⟩ := hS; go_simp; (try with_reducible rfl); done)); try simp only [Act.put, List.setIfInBounds_toArray, List.set_cons_zero, List.set_cons_succ]) | ((first | ((with_reducible refine lexL_skip (c := false) ?_ ?_ ?_); (focus rfl); (focus rfl)) | ((with_reducible refine lexL_skip (c := true) ?_ ?_ ?_); (focus rfl); (focus rfl)) | ((with_reducible refine lexL_skipU ?_ ?_); (focus rfl))); try simp only [Act.put, List.setIfInBounds_toArray, List.set_cons_zero, List.set_cons_succ]))
  refine lexL_nil (hK.out _ _ ?_)
  go_wp2
  exact bodyPost_ret (v := .tuple #[.agg #[.int .i64 y, .int .i64 x], .bool true]) (by simp [results, Try.results33, go_sem]) rfl ⟨rfl, by (repeat (first | with_reducible exact Fr.refl _ _ | with_reducible assumption | with_reducible refine Fr.drew ?_ | with_reducible refine Fr.drewN ?_ _ | with_reducible refine Fr.alloc ?_ _ | with_reducible refine Fr.setCell ?_ _ (.inl (by simp <;> omega)) _))⟩

theorem of_yes (x y : Int) (w : World) (h : vld x y) :
    Calls Try.prog 33 #[.int .i64 x, .int .i64 y] w fun e w' => e = .returned (.tuple #[.agg #[.int .i64 (lo x y), .int .i64 (hi x y)], .bool true]) ∧ Fr No w w' := by
  obtain ⟨v1, v2, v3, v4, v5⟩ := h
  rcases Int.lt_or_lt_of_ne v5 with hxy | hxy
  · have e1 : lo x y = x := by unfold lo; rw [if_pos (by omega)]
    have e2 : hi x y = y := by unfold hi; rw [if_pos (by omega)]
    rw [e1, e2]
    exact of_lt x y w v1 v4 hxy
  · have e1 : lo x y = y := by unfold lo; rw [if_neg (by omega)]
    have e2 : hi x y = x := by unfold hi; rw [if_neg (by omega)]
    rw [e1, e2]
    exact of_gt x y w v3 v2 hxy

/-- The two ends may not be linked. -/
def OfNo (w : World) (e : Ending) (w' : World) : Prop := ∃ p q : Int, e = .returned (.tuple #[.agg #[.int .i64 p, .int .i64 q], .bool false]) ∧ Fr No w w'

set_option maxHeartbeats 1000000 in
theorem of_no_lt (x y : Int) (w : World) (hxy : x < y) (h : ¬ 0 ≤ x ∨ (0 ≤ x ∧ ¬ y < 64)) : Calls Try.prog 33 #[.int .i64 x, .int .i64 y] w (OfNo w) := by
  have fin : ∀ w', Fr No w w' → OfNo w (.returned (.tuple #[.agg #[.int .i64 x, .int .i64 y], .bool false])) w' := fun w' f => ⟨_, _, rfl, f⟩
  have FIN := Lib.hid fin
  clear fin
  rcases h with h | ⟨h, h'⟩
  · have h1 : decide (0 ≤ x) = false := by simpa using h
    go_enter Try.func33, Try.ntmps33
    go_wp2
    refine wp_region_lexL [false, false, false, false, false, false, false, false, false, false, false, false, false, false, false, false, true, false] (fun w' => w'.cell? ⟨w.heap.size + 1, 0, none⟩ = some (.int .i64 x) ∧ w'.cell? ⟨w.heap.size + 1, 1, none⟩ = some (.int .i64 y)) (by kernel_rfl) (by kernel_rfl) ?_ (fun K hK => ?_)
    · go_simp
    repeat (first | ((first | with_reducible refine lexL_read ?_ | ((with_reducible refine lexL_readG ?_ ?_); (focus rfl))); apply Exists.intro; refine ⟨fun w' hS => ?_, ?_⟩; (focus (obtain ⟨s1, s2⟩ := hS; go_simp; (try with_reducible rfl); done)); try simp only [Act.put, List.setIfInBounds_toArray, List.set_cons_zero, List.set_cons_succ]) | ((first | ((with_reducible refine lexL_skip (c := false) ?_ ?_ ?_); (focus rfl); (focus rfl)) | ((with_reducible refine lexL_skip (c := true) ?_ ?_ ?_); (focus rfl); (focus rfl)) | ((with_reducible refine lexL_skipU ?_ ?_); (focus rfl))); try simp only [Act.put, List.setIfInBounds_toArray, List.set_cons_zero, List.set_cons_succ]))
    (first | with_reducible refine lexL_eff (fun K' hK' => ?_) | ((with_reducible refine lexL_effG ?_ (fun K' hK' => ?_)); (focus rfl)))
    go_simp
    refine hK'.out _ _ ?_ (fun hS => ?_)
    · go_simp
    repeat (first | ((first | with_reducible refine lexL_read ?_ | ((with_reducible refine lexL_readG ?_ ?_); (focus rfl))); apply Exists.intro; refine ⟨fun w' hS => ?_, ?_⟩; (focus (obtain ⟨s1, s2⟩ := hS; go_simp; (try with_reducible rfl); done)); try simp only [Act.put, List.setIfInBounds_toArray, List.set_cons_zero, List.set_cons_succ]) | ((first | ((with_reducible refine lexL_skip (c := false) ?_ ?_ ?_); (focus rfl); (focus rfl)) | ((with_reducible refine lexL_skip (c := true) ?_ ?_ ?_); (focus rfl); (focus rfl)) | ((with_reducible refine lexL_skipU ?_ ?_); (focus rfl))); try simp only [Act.put, List.setIfInBounds_toArray, List.set_cons_zero, List.set_cons_succ]))
    refine lexL_nil (hK.out _ _ ?_)
    go_wp2
    exact bodyPost_ret (v := .tuple #[.agg #[.int .i64 x, .int .i64 y], .bool false]) (by simp [results, Try.results33, go_sem]) rfl (FIN.out _ (by (repeat (first | with_reducible exact Fr.refl _ _ | with_reducible assumption | with_reducible refine Fr.drew ?_ | with_reducible refine Fr.drewN ?_ _ | with_reducible refine Fr.alloc ?_ _ | with_reducible refine Fr.setCell ?_ _ (.inl (by simp <;> omega)) _))))
  · have h1 : decide (0 ≤ x) = true := by simpa using h
    have h2 : decide (y < 64) = false := by simpa using h'
    go_enter Try.func33, Try.ntmps33
    go_wp2
    refine wp_region_lexL [false, false, false, false, false, false, false, false, false, false, false, false, false, false, false, false, true, false] (fun w' => w'.cell? ⟨w.heap.size + 1, 0, none⟩ = some (.int .i64 x) ∧ w'.cell? ⟨w.heap.size + 1, 1, none⟩ = some (.int .i64 y)) (by kernel_rfl) (by kernel_rfl) ?_ (fun K hK => ?_)
    · go_simp
    repeat (first | ((first | with_reducible refine lexL_read ?_ | ((with_reducible refine lexL_readG ?_ ?_); (focus rfl))); apply Exists.intro; refine ⟨fun w' hS => ?_, ?_⟩; (focus (obtain ⟨s1, s2⟩ := hS; go_simp; (try with_reducible rfl); done)); try simp only [Act.put, List.setIfInBounds_toArray, List.set_cons_zero, List.set_cons_succ]) | ((first | ((with_reducible refine lexL_skip (c := false) ?_ ?_ ?_); (focus rfl); (focus rfl)) | ((with_reducible refine lexL_skip (c := true) ?_ ?_ ?_); (focus rfl); (focus rfl)) | ((with_reducible refine lexL_skipU ?_ ?_); (focus rfl))); try simp only [Act.put, List.setIfInBounds_toArray, List.set_cons_zero, List.set_cons_succ]))
    (first | with_reducible refine lexL_eff (fun K' hK' => ?_) | ((with_reducible refine lexL_effG ?_ (fun K' hK' => ?_)); (focus rfl)))
    go_simp
    refine hK'.out _ _ ?_ (fun hS => ?_)
    · go_simp
    repeat (first | ((first | with_reducible refine lexL_read ?_ | ((with_reducible refine lexL_readG ?_ ?_); (focus rfl))); apply Exists.intro; refine ⟨fun w' hS => ?_, ?_⟩; (focus (obtain ⟨s1, s2⟩ := hS; go_simp; (try with_reducible rfl); done)); try simp only [Act.put, List.setIfInBounds_toArray, List.set_cons_zero, List.set_cons_succ]) | ((first | ((with_reducible refine lexL_skip (c := false) ?_ ?_ ?_); (focus rfl); (focus rfl)) | ((with_reducible refine lexL_skip (c := true) ?_ ?_ ?_); (focus rfl); (focus rfl)) | ((with_reducible refine lexL_skipU ?_ ?_); (focus rfl))); try simp only [Act.put, List.setIfInBounds_toArray, List.set_cons_zero, List.set_cons_succ]))
    refine lexL_nil (hK.out _ _ ?_)
    go_wp2
    exact bodyPost_ret (v := .tuple #[.agg #[.int .i64 x, .int .i64 y], .bool false]) (by simp [results, Try.results33, go_sem]) rfl (FIN.out _ (by (repeat (first | with_reducible exact Fr.refl _ _ | with_reducible assumption | with_reducible refine Fr.drew ?_ | with_reducible refine Fr.drewN ?_ _ | with_reducible refine Fr.alloc ?_ _ | with_reducible refine Fr.setCell ?_ _ (.inl (by simp <;> omega)) _))))

set_option maxHeartbeats 1000000 in
theorem of_no_gt (x y : Int) (w : World) (hxy : y < x) (h : ¬ 0 ≤ y ∨ (0 ≤ y ∧ ¬ x < 64)) : Calls Try.prog 33 #[.int .i64 x, .int .i64 y] w (OfNo w) := by
  have fin : ∀ w', Fr No w w' → OfNo w (.returned (.tuple #[.agg #[.int .i64 y, .int .i64 x], .bool false])) w' := fun w' f => ⟨_, _, rfl, f⟩
  have FIN := Lib.hid fin
  clear fin
  have hle : ¬ x ≤ y := by omega
  have hlt : ¬ x < y := by omega
  rcases h with h | ⟨h, h'⟩
  · have h1 : decide (0 ≤ y) = false := by simpa using h
    go_enter Try.func33, Try.ntmps33
    go_wp2
    refine wp_region_lexL [false, false, false, false, false, false, false, false, false, false, false, false, false, false, false, false, true, false] (fun w' => w'.cell? ⟨w.heap.size + 1, 0, none⟩ = some (.int .i64 y) ∧ w'.cell? ⟨w.heap.size + 1, 1, none⟩ = some (.int .i64 x)) (by kernel_rfl) (by kernel_rfl) ?_ (fun K hK => ?_)
    · go_simp
    repeat (first | ((first | with_reducible refine lexL_read ?_ | ((with_reducible refine lexL_readG ?_ ?_); (focus rfl))); apply Exists.intro; refine ⟨fun w' hS => ?_, ?_⟩; (focus (obtain ⟨s1, s2⟩ := hS; go_simp; (try with_reducible rfl); done)); try simp only [Act.put, List.setIfInBounds_toArray, List.set_cons_zero, List.set_cons_succ]) | ((first | ((with_reducible refine lexL_skip (c := false) ?_ ?_ ?_); (focus rfl); (focus rfl)) | ((with_reducible refine lexL_skip (c := true) ?_ ?_ ?_); (focus rfl); (focus rfl)) | ((with_reducible refine lexL_skipU ?_ ?_); (focus rfl))); try simp only [Act.put, List.setIfInBounds_toArray, List.set_cons_zero, List.set_cons_succ]))
    (first | with_reducible refine lexL_eff (fun K' hK' => ?_) | ((with_reducible refine lexL_effG ?_ (fun K' hK' => ?_)); (focus rfl)))
    go_simp
    refine hK'.out _ _ ?_ (fun hS => ?_)
    · go_simp
    repeat (first | ((first | with_reducible refine lexL_read ?_ | ((with_reducible refine lexL_readG ?_ ?_); (focus rfl))); apply Exists.intro; refine ⟨fun w' hS => ?_, ?_⟩; (focus (obtain ⟨s1, s2⟩ := hS; go_simp; (try with_reducible rfl); done)); try simp only [Act.put, List.setIfInBounds_toArray, List.set_cons_zero, List.set_cons_succ]) | ((first | ((with_reducible refine lexL_skip (c := false) ?_ ?_ ?_); (focus rfl); (focus rfl)) | ((with_reducible refine lexL_skip (c := true) ?_ ?_ ?_); (focus rfl); (focus rfl)) | ((with_reducible refine lexL_skipU ?_ ?_); (focus rfl))); try simp only [Act.put, List.setIfInBounds_toArray, List.set_cons_zero, List.set_cons_succ]))
    refine lexL_nil (hK.out _ _ ?_)
    go_wp2
    exact bodyPost_ret (v := .tuple #[.agg #[.int .i64 y, .int .i64 x], .bool false]) (by simp [results, Try.results33, go_sem]) rfl (FIN.out _ (by (repeat (first | with_reducible exact Fr.refl _ _ | with_reducible assumption | with_reducible refine Fr.drew ?_ | with_reducible refine Fr.drewN ?_ _ | with_reducible refine Fr.alloc ?_ _ | with_reducible refine Fr.setCell ?_ _ (.inl (by simp <;> omega)) _))))
  · have h1 : decide (0 ≤ y) = true := by simpa using h
    have h2 : decide (x < 64) = false := by simpa using h'
    go_enter Try.func33, Try.ntmps33
    go_wp2
    refine wp_region_lexL [false, false, false, false, false, false, false, false, false, false, false, false, false, false, false, false, true, false] (fun w' => w'.cell? ⟨w.heap.size + 1, 0, none⟩ = some (.int .i64 y) ∧ w'.cell? ⟨w.heap.size + 1, 1, none⟩ = some (.int .i64 x)) (by kernel_rfl) (by kernel_rfl) ?_ (fun K hK => ?_)
    · go_simp
    repeat (first | ((first | with_reducible refine lexL_read ?_ | ((with_reducible refine lexL_readG ?_ ?_); (focus rfl))); apply Exists.intro; refine ⟨fun w' hS => ?_, ?_⟩; (focus (obtain ⟨s1, s2⟩ := hS; go_simp; (try with_reducible rfl); done)); try simp only [Act.put, List.setIfInBounds_toArray, List.set_cons_zero, List.set_cons_succ]) | ((first | ((with_reducible refine lexL_skip (c := false) ?_ ?_ ?_); (focus rfl); (focus rfl)) | ((with_reducible refine lexL_skip (c := true) ?_ ?_ ?_); (focus rfl); (focus rfl)) | ((with_reducible refine lexL_skipU ?_ ?_); (focus rfl))); try simp only [Act.put, List.setIfInBounds_toArray, List.set_cons_zero, List.set_cons_succ]))
    (first | with_reducible refine lexL_eff (fun K' hK' => ?_) | ((with_reducible refine lexL_effG ?_ (fun K' hK' => ?_)); (focus rfl)))
    go_simp
    refine hK'.out _ _ ?_ (fun hS => ?_)
    · go_simp
    repeat (first | ((first | with_reducible refine lexL_read ?_ | ((with_reducible refine lexL_readG ?_ ?_); (focus rfl))); apply Exists.intro; refine ⟨fun w' hS => ?_, ?_⟩; (focus (obtain ⟨s1, s2⟩ := hS; go_simp; (try with_reducible rfl); done)); try simp only [Act.put, List.setIfInBounds_toArray, List.set_cons_zero, List.set_cons_succ]) | ((first | ((with_reducible refine lexL_skip (c := false) ?_ ?_ ?_); (focus rfl); (focus rfl)) | ((with_reducible refine lexL_skip (c := true) ?_ ?_ ?_); (focus rfl); (focus rfl)) | ((with_reducible refine lexL_skipU ?_ ?_); (focus rfl))); try simp only [Act.put, List.setIfInBounds_toArray, List.set_cons_zero, List.set_cons_succ]))
    refine lexL_nil (hK.out _ _ ?_)
    go_wp2
    exact bodyPost_ret (v := .tuple #[.agg #[.int .i64 y, .int .i64 x], .bool false]) (by simp [results, Try.results33, go_sem]) rfl (FIN.out _ (by (repeat (first | with_reducible exact Fr.refl _ _ | with_reducible assumption | with_reducible refine Fr.drew ?_ | with_reducible refine Fr.drewN ?_ _ | with_reducible refine Fr.alloc ?_ _ | with_reducible refine Fr.setCell ?_ _ (.inl (by simp <;> omega)) _))))

set_option maxHeartbeats 1000000 in
theorem of_no_eq (x : Int) (w : World) : Calls Try.prog 33 #[.int .i64 x, .int .i64 x] w (OfNo w) := by
  have fin : ∀ w', Fr No w w' → OfNo w (.returned (.tuple #[.agg #[.int .i64 x, .int .i64 x], .bool false])) w' := fun w' f => ⟨_, _, rfl, f⟩
  have FIN := Lib.hid fin
  clear fin
  have h3 : (x != x) = false := by simp
  by_cases h : 0 ≤ x
  · have h1 : decide (0 ≤ x) = true := by simpa using h
    by_cases h' : x < 64
    · have h2 : decide (x < 64) = true := by simpa using h'
      go_enter Try.func33, Try.ntmps33
      go_wp2
      refine wp_region_lexL [false, false, false, false, false, false, false, false, false, false, false, false, false, false, false, false, true, false] (fun w' => w'.cell? ⟨w.heap.size + 1, 0, none⟩ = some (.int .i64 x) ∧ w'.cell? ⟨w.heap.size + 1, 1, none⟩ = some (.int .i64 x)) (by kernel_rfl) (by kernel_rfl) ?_ (fun K hK => ?_)
      · go_simp
      repeat (first | ((first | with_reducible refine lexL_read ?_ | ((with_reducible refine lexL_readG ?_ ?_); (focus rfl))); apply Exists.intro; refine ⟨fun w' hS => ?_, ?_⟩; (focus (obtain ⟨s1, s2⟩ := hS; go_simp; (try with_reducible rfl); done)); try simp only [Act.put, List.setIfInBounds_toArray, List.set_cons_zero, List.set_cons_succ]) | ((first | ((with_reducible refine lexL_skip (c := false) ?_ ?_ ?_); (focus rfl); (focus rfl)) | ((with_reducible refine lexL_skip (c := true) ?_ ?_ ?_); (focus rfl); (focus rfl)) | ((with_reducible refine lexL_skipU ?_ ?_); (focus rfl))); try simp only [Act.put, List.setIfInBounds_toArray, List.set_cons_zero, List.set_cons_succ]))
      (first | with_reducible refine lexL_eff (fun K' hK' => ?_) | ((with_reducible refine lexL_effG ?_ (fun K' hK' => ?_)); (focus rfl)))
      go_simp
      refine hK'.out _ _ ?_ (fun hS => ?_)
      · go_simp
      repeat (first | ((first | with_reducible refine lexL_read ?_ | ((with_reducible refine lexL_readG ?_ ?_); (focus rfl))); apply Exists.intro; refine ⟨fun w' hS => ?_, ?_⟩; (focus (obtain ⟨s1, s2⟩ := hS; go_simp; (try with_reducible rfl); done)); try simp only [Act.put, List.setIfInBounds_toArray, List.set_cons_zero, List.set_cons_succ]) | ((first | ((with_reducible refine lexL_skip (c := false) ?_ ?_ ?_); (focus rfl); (focus rfl)) | ((with_reducible refine lexL_skip (c := true) ?_ ?_ ?_); (focus rfl); (focus rfl)) | ((with_reducible refine lexL_skipU ?_ ?_); (focus rfl))); try simp only [Act.put, List.setIfInBounds_toArray, List.set_cons_zero, List.set_cons_succ]))
      refine lexL_nil (hK.out _ _ ?_)
      go_wp2
      exact bodyPost_ret (v := .tuple #[.agg #[.int .i64 x, .int .i64 x], .bool false]) (by simp [results, Try.results33, go_sem]) rfl (FIN.out _ (by (repeat (first | with_reducible exact Fr.refl _ _ | with_reducible assumption | with_reducible refine Fr.drew ?_ | with_reducible refine Fr.drewN ?_ _ | with_reducible refine Fr.alloc ?_ _ | with_reducible refine Fr.setCell ?_ _ (.inl (by simp <;> omega)) _))))
    · have h2 : decide (x < 64) = false := by simpa using h'
      go_enter Try.func33, Try.ntmps33
      go_wp2
      refine wp_region_lexL [false, false, false, false, false, false, false, false, false, false, false, false, false, false, false, false, true, false] (fun w' => w'.cell? ⟨w.heap.size + 1, 0, none⟩ = some (.int .i64 x) ∧ w'.cell? ⟨w.heap.size + 1, 1, none⟩ = some (.int .i64 x)) (by kernel_rfl) (by kernel_rfl) ?_ (fun K hK => ?_)
      · go_simp
      repeat (first | ((first | with_reducible refine lexL_read ?_ | ((with_reducible refine lexL_readG ?_ ?_); (focus rfl))); apply Exists.intro; refine ⟨fun w' hS => ?_, ?_⟩; (focus (obtain ⟨s1, s2⟩ := hS; go_simp; (try with_reducible rfl); done)); try simp only [Act.put, List.setIfInBounds_toArray, List.set_cons_zero, List.set_cons_succ]) | ((first | ((with_reducible refine lexL_skip (c := false) ?_ ?_ ?_); (focus rfl); (focus rfl)) | ((with_reducible refine lexL_skip (c := true) ?_ ?_ ?_); (focus rfl); (focus rfl)) | ((with_reducible refine lexL_skipU ?_ ?_); (focus rfl))); try simp only [Act.put, List.setIfInBounds_toArray, List.set_cons_zero, List.set_cons_succ]))
      (first | with_reducible refine lexL_eff (fun K' hK' => ?_) | ((with_reducible refine lexL_effG ?_ (fun K' hK' => ?_)); (focus rfl)))
      go_simp
      refine hK'.out _ _ ?_ (fun hS => ?_)
      · go_simp
      repeat (first | ((first | with_reducible refine lexL_read ?_ | ((with_reducible refine lexL_readG ?_ ?_); (focus rfl))); apply Exists.intro; refine ⟨fun w' hS => ?_, ?_⟩; (focus (obtain ⟨s1, s2⟩ := hS; go_simp; (try with_reducible rfl); done)); try simp only [Act.put, List.setIfInBounds_toArray, List.set_cons_zero, List.set_cons_succ]) | ((first | ((with_reducible refine lexL_skip (c := false) ?_ ?_ ?_); (focus rfl); (focus rfl)) | ((with_reducible refine lexL_skip (c := true) ?_ ?_ ?_); (focus rfl); (focus rfl)) | ((with_reducible refine lexL_skipU ?_ ?_); (focus rfl))); try simp only [Act.put, List.setIfInBounds_toArray, List.set_cons_zero, List.set_cons_succ]))
      refine lexL_nil (hK.out _ _ ?_)
      go_wp2
      exact bodyPost_ret (v := .tuple #[.agg #[.int .i64 x, .int .i64 x], .bool false]) (by simp [results, Try.results33, go_sem]) rfl (FIN.out _ (by (repeat (first | with_reducible exact Fr.refl _ _ | with_reducible assumption | with_reducible refine Fr.drew ?_ | with_reducible refine Fr.drewN ?_ _ | with_reducible refine Fr.alloc ?_ _ | with_reducible refine Fr.setCell ?_ _ (.inl (by simp <;> omega)) _))))
  · have h1 : decide (0 ≤ x) = false := by simpa using h
    go_enter Try.func33, Try.ntmps33
    go_wp2
    refine wp_region_lexL [false, false, false, false, false, false, false, false, false, false, false, false, false, false, false, false, true, false] (fun w' => w'.cell? ⟨w.heap.size + 1, 0, none⟩ = some (.int .i64 x) ∧ w'.cell? ⟨w.heap.size + 1, 1, none⟩ = some (.int .i64 x)) (by kernel_rfl) (by kernel_rfl) ?_ (fun K hK => ?_)
    · go_simp
    repeat (first | ((first | with_reducible refine lexL_read ?_ | ((with_reducible refine lexL_readG ?_ ?_); (focus rfl))); apply Exists.intro; refine ⟨fun w' hS => ?_, ?_⟩; (focus (obtain ⟨s1, s2⟩ := hS; go_simp; (try with_reducible rfl); done)); try simp only [Act.put, List.setIfInBounds_toArray, List.set_cons_zero, List.set_cons_succ]) | ((first | ((with_reducible refine lexL_skip (c := false) ?_ ?_ ?_); (focus rfl); (focus rfl)) | ((with_reducible refine lexL_skip (c := true) ?_ ?_ ?_); (focus rfl); (focus rfl)) | ((with_reducible refine lexL_skipU ?_ ?_); (focus rfl))); try simp only [Act.put, List.setIfInBounds_toArray, List.set_cons_zero, List.set_cons_succ]))
    (first | with_reducible refine lexL_eff (fun K' hK' => ?_) | ((with_reducible refine lexL_effG ?_ (fun K' hK' => ?_)); (focus rfl)))
    go_simp
    refine hK'.out _ _ ?_ (fun hS => ?_)
    · go_simp
    repeat (first | ((first | with_reducible refine lexL_read ?_ | ((with_reducible refine lexL_readG ?_ ?_); (focus rfl))); apply Exists.intro; refine ⟨fun w' hS => ?_, ?_⟩; (focus (obtain ⟨s1, s2⟩ := hS; go_simp; (try with_reducible rfl); done)); try simp only [Act.put, List.setIfInBounds_toArray, List.set_cons_zero, List.set_cons_succ]) | ((first | ((with_reducible refine lexL_skip (c := false) ?_ ?_ ?_); (focus rfl); (focus rfl)) | ((with_reducible refine lexL_skip (c := true) ?_ ?_ ?_); (focus rfl); (focus rfl)) | ((with_reducible refine lexL_skipU ?_ ?_); (focus rfl))); try simp only [Act.put, List.setIfInBounds_toArray, List.set_cons_zero, List.set_cons_succ]))
    refine lexL_nil (hK.out _ _ ?_)
    go_wp2
    exact bodyPost_ret (v := .tuple #[.agg #[.int .i64 x, .int .i64 x], .bool false]) (by simp [results, Try.results33, go_sem]) rfl (FIN.out _ (by (repeat (first | with_reducible exact Fr.refl _ _ | with_reducible assumption | with_reducible refine Fr.drew ?_ | with_reducible refine Fr.drewN ?_ _ | with_reducible refine Fr.alloc ?_ _ | with_reducible refine Fr.setCell ?_ _ (.inl (by simp <;> omega)) _))))

theorem of_no (x y : Int) (w : World) (h : ¬ vld x y) : Calls Try.prog 33 #[.int .i64 x, .int .i64 y] w (OfNo w) := by
  unfold vld at h
  rcases Int.lt_trichotomy x y with hxy | rfl | hxy
  · exact of_no_lt x y w hxy (by omega)
  · exact of_no_eq x w
  · exact of_no_gt x y w hxy (by omega)
end Go.Proofs.Ytohcjfnekgnlcaa
