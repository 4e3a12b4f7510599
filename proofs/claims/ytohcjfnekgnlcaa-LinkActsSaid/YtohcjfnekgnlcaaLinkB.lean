/- link: Has, find. -/
import Derived.Test.YtohcjfnekgnlcaaLinkA
namespace Go.Proofs.Ytohcjfnekgnlcaa
open Go Go.RowKit Go.Maps

theorem lohi {a b : Int} (h : vld a b) : 0 ≤ lo a b ∧ lo a b < hi a b ∧ hi a b < 64 := by
  unfold vld at h; unfold lo hi; split <;> omega
theorem lo_i64 {a b : Int} (h : vld a b) : inI64 (lo a b) := by have := lohi h; unfold inI64; omega
theorem hi_i64 {a b : Int} (h : vld a b) : inI64 (hi a b) := by have := lohi h; unfold inI64; omega

theorem op_hit {g : LkG} {p : Int × Int} (h : p ∈ g.op) : Finds (g.op.map fun p => (pairV p, Value.int .i64 1)) (pairV p) (some (.int .i64 1)) :=
  .hit (List.mem_map.2 ⟨p, h, rfl⟩)
theorem op_miss {g : LkG} {p : Int × Int} (h : p ∉ g.op) : Finds (g.op.map fun p => (pairV p, Value.int .i64 1)) (pairV p) none :=
  .miss fun q hq e => by
    obtain ⟨p', hp', rfl⟩ := List.mem_map.1 hq
    exact h (pairV_inj e ▸ hp')

set_option maxHeartbeats 1000000 in
theorem has_yes (w : World) (g : LkG) (h : LinksAt w g) (a b : Int) (hv : vld a b) (hin : (lo a b, hi a b) ∈ g.op) :
    Calls Try.prog 23 #[.pointer (some ⟨g.bl, 0, none⟩), .int .i64 a, .int .i64 b] w fun e w' => e = .returned (.bool true) ∧ Fr No w w' := by
  have hlk : ∀ w', MapAt Try.prog 69 w' g.bo (g.op.map fun p => (pairV p, .int .i64 1)) → (Instr.lookup 59 (.map (some g.bo)) (.agg #[.int .i64 (lo a b), .int .i64 (hi a b)]) false).run Try.prog w' = .ok (.int .i64 1) w' :=
    fun w' hm => hm.lookup keyedPair undPairMap zeroInt (keyPair (p := (lo a b, hi a b)) (lo_i64 hv) (hi_i64 hv)) false (op_hit hin)
  go_enter Try.func23, Try.ntmps23
  go_wp2_with (go_at_call 33; refine (of_yes _ _ _ hv).mono ?_; rintro e w1 ⟨rfl, f1⟩)
  have h1 := h.keep0 f1
  have c0 := h1.cell0
  have m0 := h1.ho
  have hne : g.bo < w1.heap.size := m0.lt
  refine wp_region_lexL [false, false, false, false, false, false, false, false, false, false, false, false, false, false, false] (fun w' => w'.cell? ⟨g.bl, 0, none⟩ = some (.map (some g.bo)) ∧ w'.cell? ⟨w1.heap.size, 0, none⟩ = some (.int .i64 (lo a b)) ∧ w'.cell? ⟨w1.heap.size, 1, none⟩ = some (.int .i64 (hi a b)) ∧ MapAt Try.prog 69 w' g.bo (g.op.map fun p => (pairV p, .int .i64 1))) (by kernel_rfl) (by kernel_rfl) ?_ (fun K hK => ?_)
  · exact ⟨((Fr.refl No _).alloc _).drew.cell c0 id, by go_simp, by go_simp, m0.keep (((Fr.refl No _).alloc _).drew) id⟩
  repeat (first | ((first | with_reducible refine lexL_read ?_ | ((with_reducible refine lexL_readG ?_ ?_); (focus rfl))); apply Exists.intro; refine ⟨fun w' hS => ?_, ?_⟩; (focus (obtain ⟨s1, s2, s3, s4⟩ := hS; go_simp; (try with_reducible rfl); done)); try simp only [Act.put, List.setIfInBounds_toArray, List.set_cons_zero, List.set_cons_succ]) | ((first | ((with_reducible refine lexL_skip (c := false) ?_ ?_ ?_); (focus rfl); (focus rfl)) | ((with_reducible refine lexL_skip (c := true) ?_ ?_ ?_); (focus rfl); (focus rfl)) | ((with_reducible refine lexL_skipU ?_ ?_); (focus rfl))); try simp only [Act.put, List.setIfInBounds_toArray, List.set_cons_zero, List.set_cons_succ]))
  refine lexL_nil (hK.out _ _ ?_)
  go_wp2
  go_ret
  exact ⟨rfl, by (repeat (first | with_reducible exact Fr.refl _ _ | with_reducible assumption | with_reducible refine Fr.drew ?_ | with_reducible refine Fr.drewN ?_ _ | with_reducible refine Fr.alloc ?_ _ | with_reducible refine Fr.setCell ?_ _ (.inl (by simp <;> omega)) _))⟩
set_option maxHeartbeats 1000000 in
theorem has_no1 (w : World) (g : LkG) (h : LinksAt w g) (a b : Int) (hv : vld a b) (hin : (lo a b, hi a b) ∉ g.op) :
    Calls Try.prog 23 #[.pointer (some ⟨g.bl, 0, none⟩), .int .i64 a, .int .i64 b] w fun e w' => e = .returned (.bool false) ∧ Fr No w w' := by
  have hlk : ∀ w', MapAt Try.prog 69 w' g.bo (g.op.map fun p => (pairV p, .int .i64 1)) → (Instr.lookup 59 (.map (some g.bo)) (.agg #[.int .i64 (lo a b), .int .i64 (hi a b)]) false).run Try.prog w' = .ok (.int .i64 0) w' :=
    fun w' hm => hm.lookup keyedPair undPairMap zeroInt (keyPair (p := (lo a b, hi a b)) (lo_i64 hv) (hi_i64 hv)) false (op_miss hin)
  go_enter Try.func23, Try.ntmps23
  go_wp2_with (go_at_call 33; refine (of_yes _ _ _ hv).mono ?_; rintro e w1 ⟨rfl, f1⟩)
  have h1 := h.keep0 f1
  have c0 := h1.cell0
  have m0 := h1.ho
  have hne : g.bo < w1.heap.size := m0.lt
  refine wp_region_lexL [false, false, false, false, false, false, false, false, false, false, false, false, false, false, false] (fun w' => w'.cell? ⟨g.bl, 0, none⟩ = some (.map (some g.bo)) ∧ w'.cell? ⟨w1.heap.size, 0, none⟩ = some (.int .i64 (lo a b)) ∧ w'.cell? ⟨w1.heap.size, 1, none⟩ = some (.int .i64 (hi a b)) ∧ MapAt Try.prog 69 w' g.bo (g.op.map fun p => (pairV p, .int .i64 1))) (by kernel_rfl) (by kernel_rfl) ?_ (fun K hK => ?_)
  · exact ⟨((Fr.refl No _).alloc _).drew.cell c0 id, by go_simp, by go_simp, m0.keep (((Fr.refl No _).alloc _).drew) id⟩
  repeat (first | ((first | with_reducible refine lexL_read ?_ | ((with_reducible refine lexL_readG ?_ ?_); (focus rfl))); apply Exists.intro; refine ⟨fun w' hS => ?_, ?_⟩; (focus (obtain ⟨s1, s2, s3, s4⟩ := hS; go_simp; (try with_reducible rfl); done)); try simp only [Act.put, List.setIfInBounds_toArray, List.set_cons_zero, List.set_cons_succ]) | ((first | ((with_reducible refine lexL_skip (c := false) ?_ ?_ ?_); (focus rfl); (focus rfl)) | ((with_reducible refine lexL_skip (c := true) ?_ ?_ ?_); (focus rfl); (focus rfl)) | ((with_reducible refine lexL_skipU ?_ ?_); (focus rfl))); try simp only [Act.put, List.setIfInBounds_toArray, List.set_cons_zero, List.set_cons_succ]))
  refine lexL_nil (hK.out _ _ ?_)
  go_wp2
  go_ret
  exact ⟨rfl, by (repeat (first | with_reducible exact Fr.refl _ _ | with_reducible assumption | with_reducible refine Fr.drew ?_ | with_reducible refine Fr.drewN ?_ _ | with_reducible refine Fr.alloc ?_ _ | with_reducible refine Fr.setCell ?_ _ (.inl (by simp <;> omega)) _))⟩
set_option maxHeartbeats 1000000 in
theorem has_no2 (w : World) (bl : Nat) (a b : Int) (hv : ¬ vld a b) :
    Calls Try.prog 23 #[.pointer (some ⟨bl, 0, none⟩), .int .i64 a, .int .i64 b] w fun e w' => e = .returned (.bool false) ∧ Fr No w w' := by
  go_enter Try.func23, Try.ntmps23
  go_wp2_with fail
  refine (of_no _ _ _ hv).mono ?_
  rintro e w1 ⟨p, q, rfl, f1⟩
  go_wp2
  refine wp_region_lexL [false, false, false, false, false, false, false, false, false, false, false, false, false, false, false] (fun w' => True) (by kernel_rfl) (by kernel_rfl) ?_ (fun K hK => ?_)
  · trivial
  repeat (first | ((first | with_reducible refine lexL_read ?_ | ((with_reducible refine lexL_readG ?_ ?_); (focus rfl))); apply Exists.intro; refine ⟨fun w' hS => ?_, ?_⟩; (focus (obtain _ := hS; go_simp; (try with_reducible rfl); done)); try simp only [Act.put, List.setIfInBounds_toArray, List.set_cons_zero, List.set_cons_succ]) | ((first | ((with_reducible refine lexL_skip (c := false) ?_ ?_ ?_); (focus rfl); (focus rfl)) | ((with_reducible refine lexL_skip (c := true) ?_ ?_ ?_); (focus rfl); (focus rfl)) | ((with_reducible refine lexL_skipU ?_ ?_); (focus rfl))); try simp only [Act.put, List.setIfInBounds_toArray, List.set_cons_zero, List.set_cons_succ]))
  refine lexL_nil (hK.out _ _ ?_)
  go_wp2
  go_ret
  exact ⟨rfl, by (repeat (first | with_reducible exact Fr.refl _ _ | with_reducible assumption | with_reducible refine Fr.drew ?_ | with_reducible refine Fr.drewN ?_ _ | with_reducible refine Fr.alloc ?_ _ | with_reducible refine Fr.setCell ?_ _ (.inl (by simp <;> omega)) _))⟩

/-- What find says. -/
noncomputable def findE (g : LkG) (a b k : Int) : Int := open Classical in if vld a b ∧ (k = 0 ∨ k = 1) then (if (lo a b, hi a b) ∈ g.op then 0 else 9) else 2

set_option maxHeartbeats 1000000 in
theorem find_ok (w : World) (g : LkG) (h : LinksAt w g) (a b k : Int) (hv : vld a b) (hk : k = 0 ∨ k = 1) (hin : (lo a b, hi a b) ∈ g.op) :
    Calls Try.prog 31 #[.pointer (some ⟨g.bl, 0, none⟩), .int .i64 a, .int .i64 b, .int .i64 k] w fun e w' => e = .returned (.tuple #[wayV (a, b, k), .int .i64 0]) ∧ Fr No w w' := by
  unfold wayV
  simp only []
  rcases hk with rfl | rfl
  all_goals
    go_enter Try.func31, Try.ntmps31
    go_wp2_with fail
    refine (of_yes _ _ _ hv).mono ?_
    rintro e w1 ⟨rfl, f1⟩
    go_wp2_with fail
    refine (has_yes _ g (h.keep0 ?_) _ _ hv hin).mono ?_
    · exact (((Fr.refl No _).alloc _).alloc _).trans0 (f1.alloc _)
    rintro e w2 ⟨rfl, f2⟩
    have g2 := blk3 (b := w.heap.size + 1) (f2.obj (old_obj (f1.obj (new_obj' _ _ (by simp)) id) _) id)
    have g1 := blk3 (f2.obj (old_obj (f1.obj (old_obj (new_obj w _) _) id) _) id)
    obtain ⟨p0, p1, p2, -, -, -⟩ := g2
    obtain ⟨q0, q1, q2, z0, z1, z2⟩ := g1
    have hsz : w.heap.size + 2 < w2.heap.size := by
      have e1 := f1.size
      have e2 := f2.size
      simp at e1 e2
      omega
    have F : Fr No w w2 := (((((Fr.refl No w).alloc _).alloc _).trans0 f1).alloc _).trans0 f2
    go_wp2
    refine bodyPost_ret (v := .tuple #[.agg #[.int .i64 a, .int .i64 b, .int .i64 _], .int .i64 0]) (by simp [results, Try.results31, go_sem, q0, q1, q2]) rfl ⟨rfl, ?_⟩
    (repeat (first | with_reducible exact Fr.refl _ _ | with_reducible assumption | with_reducible refine Fr.drew ?_ | with_reducible refine Fr.drewN ?_ _ | with_reducible refine Fr.alloc ?_ _ | with_reducible refine Fr.setCell ?_ _ (.inl (by simp <;> omega)) _))

/-- find's answer e; the lane's name as it was given. -/
def FindNo (a b k e : Int) (w : World) (en : Ending) (w' : World) : Prop := en = .returned (.tuple #[wayV (a, b, k), .int .i64 e]) ∧ Fr No w w'

set_option maxHeartbeats 1000000 in
theorem find_no1 (w : World) (g : LkG) (h : LinksAt w g) (a b k : Int) (hv : vld a b) (hk : k = 0 ∨ k = 1) (hin : (lo a b, hi a b) ∉ g.op) :
    Calls Try.prog 31 #[.pointer (some ⟨g.bl, 0, none⟩), .int .i64 a, .int .i64 b, .int .i64 k] w fun e w' => e = .returned (.tuple #[wayV (a, b, k), .int .i64 9]) ∧ Fr No w w' := by
  unfold wayV
  simp only []
  rcases hk with rfl | rfl
  all_goals
    go_enter Try.func31, Try.ntmps31
    go_wp2_with fail
    refine (of_yes _ _ _ hv).mono ?_
    rintro e w1 ⟨rfl, f1⟩
    go_wp2_with fail
    refine (has_no1 _ g (h.keep0 ?_) _ _ hv hin).mono ?_
    · exact (((Fr.refl No _).alloc _).alloc _).trans0 (f1.alloc _)
    rintro e w2 ⟨rfl, f2⟩
    have g2 := blk3 (b := w.heap.size + 1) (f2.obj (old_obj (f1.obj (new_obj' _ _ (by simp)) id) _) id)
    have g1 := blk3 (f2.obj (old_obj (f1.obj (old_obj (new_obj w _) _) id) _) id)
    obtain ⟨p0, p1, p2, -, -, -⟩ := g2
    obtain ⟨q0, q1, q2, z0, z1, z2⟩ := g1
    have hsz : w.heap.size + 2 < w2.heap.size := by
      have e1 := f1.size
      have e2 := f2.size
      simp at e1 e2
      omega
    have F : Fr No w w2 := (((((Fr.refl No w).alloc _).alloc _).trans0 f1).alloc _).trans0 f2
    go_wp2
    refine bodyPost_ret (v := .tuple #[.agg #[.int .i64 a, .int .i64 b, .int .i64 _], .int .i64 9]) (by simp [results, Try.results31, go_sem, q0, q1, q2]) rfl ⟨rfl, ?_⟩
    (repeat (first | with_reducible exact Fr.refl _ _ | with_reducible assumption | with_reducible refine Fr.drew ?_ | with_reducible refine Fr.drewN ?_ _ | with_reducible refine Fr.alloc ?_ _ | with_reducible refine Fr.setCell ?_ _ (.inl (by simp <;> omega)) _))

set_option maxHeartbeats 1000000 in
theorem find_no2 (w : World) (bl : Nat) (a b k : Int) (hv : ¬ vld a b) :
    Calls Try.prog 31 #[.pointer (some ⟨bl, 0, none⟩), .int .i64 a, .int .i64 b, .int .i64 k] w fun e w' => e = .returned (.tuple #[wayV (a, b, k), .int .i64 2]) ∧ Fr No w w' := by
  unfold wayV
  simp only []
  go_enter Try.func31, Try.ntmps31
  go_wp2_with fail
  refine (of_no _ _ _ hv).mono ?_
  rintro e w2 ⟨p, q, rfl, f2⟩
  have g2 := blk3 (b := w.heap.size + 1) (f2.obj (new_obj' _ _ (by simp)) id)
  have g1 := blk3 (f2.obj (old_obj (new_obj w _) _) id)
  obtain ⟨p0, p1, p2, -, -, -⟩ := g2
  obtain ⟨q0, q1, q2, z0, z1, z2⟩ := g1
  have hsz : w.heap.size + 1 < w2.heap.size := by
    have e2 := f2.size
    simp at e2
    omega
  have hsz' : w.heap.size < w2.heap.size := by omega
  have F : Fr No w w2 := ((((Fr.refl No w).alloc _).alloc _).trans0 f2)
  go_wp2
  refine bodyPost_ret (v := .tuple #[.agg #[.int .i64 a, .int .i64 b, .int .i64 k], .int .i64 2]) (by simp [results, Try.results31, go_sem, q0, q1, q2, hsz']) rfl ⟨rfl, ?_⟩
  (repeat (first | with_reducible exact Fr.refl _ _ | with_reducible assumption | with_reducible refine Fr.drew ?_ | with_reducible refine Fr.drewN ?_ _ | with_reducible refine Fr.alloc ?_ _ | with_reducible refine Fr.setCell ?_ _ (.inl (by simp <;> omega)) _))

set_option maxHeartbeats 1000000 in
theorem find_no3 (w : World) (bl : Nat) (a b k : Int) (hv : vld a b) (hk : k ≠ 0 ∧ k ≠ 1) :
    Calls Try.prog 31 #[.pointer (some ⟨bl, 0, none⟩), .int .i64 a, .int .i64 b, .int .i64 k] w fun e w' => e = .returned (.tuple #[wayV (a, b, k), .int .i64 2]) ∧ Fr No w w' := by
  have k0 : (k != 0) = true := by simp [hk.1]
  have k1 : (k != 1) = true := by simp [hk.2]
  clear hk
  unfold wayV
  simp only []
  go_enter Try.func31, Try.ntmps31
  go_wp2_with fail
  refine (of_yes _ _ _ hv).mono ?_
  rintro e w2 ⟨rfl, f2⟩
  have g2 := blk3 (b := w.heap.size + 1) (f2.obj (new_obj' _ _ (by simp)) id)
  have g1 := blk3 (f2.obj (old_obj (new_obj w _) _) id)
  obtain ⟨p0, p1, p2, -, -, -⟩ := g2
  obtain ⟨q0, q1, q2, z0, z1, z2⟩ := g1
  have hsz : w.heap.size + 1 < w2.heap.size := by
    have e2 := f2.size
    simp at e2
    omega
  have hsz' : w.heap.size < w2.heap.size := by omega
  have F : Fr No w w2 := ((((Fr.refl No w).alloc _).alloc _).trans0 f2)
  go_wp2
  refine bodyPost_ret (v := .tuple #[.agg #[.int .i64 a, .int .i64 b, .int .i64 k], .int .i64 2]) (by simp [results, Try.results31, go_sem, q0, q1, q2, hsz']) rfl ⟨rfl, ?_⟩
  (repeat (first | with_reducible exact Fr.refl _ _ | with_reducible assumption | with_reducible refine Fr.drew ?_ | with_reducible refine Fr.drewN ?_ _ | with_reducible refine Fr.alloc ?_ _ | with_reducible refine Fr.setCell ?_ _ (.inl (by simp <;> omega)) _))
end Go.Proofs.Ytohcjfnekgnlcaa
