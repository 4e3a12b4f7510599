/- embargo: what All sorts by. -/
import Derived.Test.YthmaekkjpginoaaDoorEmbU
import Derived.Sort.Grow
namespace Go.Proofs.YthmaekkjpginoaaDoor
open Go Go.RowKit Go.Maps Go.MapKept Go.Sort

/-- Some draws and new blocks behind w. -/
def Grown (w w' : World) : Prop := ∃ q os, w' = grow (w.drewN q) os
theorem Grown.refl (w : World) : Grown w w := ⟨0, #[], by simp [grow]; rfl⟩
theorem Grown.drew {w w' : World} (h : Grown w w') : Grown w w'.drew := by
  obtain ⟨q, os, rfl⟩ := h
  exact ⟨q + 1, os, rfl⟩
theorem Grown.alloc {w w' : World} (h : Grown w w') (o : Obj) : Grown w (w'.alloc o) := by
  obtain ⟨q, os, rfl⟩ := h
  exact ⟨q, os ++ #[o], by rw [alloc_eq_grow, grow_grow]⟩

def cmpF (a b : HeldD) : Int := if beforeB a b = true then -1 else if beforeB b a = true then 1 else 0

set_option maxRecDepth 20000 in
set_option maxHeartbeats 2000000 in
theorem cmp_any (w : World) (a b : HeldD) (ha : a.ok) (hb : b.ok) :
    Calls Tryd.prog 32 #[.agg (heldC a).toArray, .agg (heldC b).toArray] w fun e w' => e = .returned (.int .i64 (cmpF a b)) ∧ Grown w w' := by
  obtain ⟨dH, uH, rH⟩ := descHeld
  have HA := Lib.hid (heldC_len ha)
  have HB := Lib.hid (heldC_len hb)
  have ra : ((w.alloc (.cells (heldC a).toArray 78)).alloc (.cells (heldC b).toArray 78)).rangeAt w.heap.size 0 (heldC a) := range_keep (range_new w (heldC a) 78) ((Fr.refl No _).alloc _) id
  have rb : ((w.alloc (.cells (heldC a).toArray 78)).alloc (.cells (heldC b).toArray 78)).rangeAt (w.heap.size + 1) 0 (heldC b) := by
    have := range_new (w.alloc (.cells (heldC a).toArray 78)) (heldC b) 78
    simpa using this
  have gw : Grown w ((w.alloc (.cells (heldC a).toArray 78)).alloc (.cells (heldC b).toArray 78)) := ((Grown.refl w).alloc _).alloc _
  have RA := Lib.hid ra
  have RB := Lib.hid rb
  have GW := Lib.hid gw
  clear ra rb gw
  cases h1 : beforeB a b with
  | true =>
    have HB1 := Lib.hid h1
    have HC := Lib.hid (show cmpF a b = -1 by simp [cmpF, h1])
    clear h1
    go_enter Tryd.func32, Tryd.ntmps32
    go_wp2_with (first | (refine wpList_value rfl (exec_load (ty := 78) rfl rfl RA.out uH rH (by rw [HA.out]; exact infoHeld)) ?_) | (refine wpList_value rfl (exec_load (ty := 78) rfl rfl RB.out uH rH (by rw [HB.out]; exact infoHeld)) ?_) | (go_at_call 33; refine (before_any _ a b ha hb).mono ?_; rintro e w2 ⟨rfl, rfl⟩; rw [HB1.out]))
    go_ret
    exact ⟨by rw [HC.out]; rfl, (GW.out.alloc _).alloc _⟩
  | false =>
    have HB1 := Lib.hid h1
    have RF := Lib.hid (fun (w2 : World) (e : w2 = (((w.alloc (.cells (heldC a).toArray 78)).alloc (.cells (heldC b).toArray 78)).alloc (.cells (heldC a).toArray 78)).alloc (.cells (heldC b).toArray 78)) => (by
      subst e
      exact ⟨range_keep RA.out (((Fr.refl No _).alloc (.cells (heldC a).toArray 78)).alloc (.cells (heldC b).toArray 78)) id, range_keep RB.out (((Fr.refl No _).alloc (.cells (heldC a).toArray 78)).alloc (.cells (heldC b).toArray 78)) id, ((GW.out.alloc (.cells (heldC a).toArray 78)).alloc (.cells (heldC b).toArray 78))⟩ : w2.rangeAt w.heap.size 0 (heldC a) ∧ w2.rangeAt (w.heap.size + 1) 0 (heldC b) ∧ Grown w w2))
    have HB2 : (beforeB b a = true ∧ cmpF a b = 1) ∨ (beforeB b a = false ∧ cmpF a b = 0) := by
      cases h2 : beforeB b a with
      | true => exact .inl ⟨rfl, by simp [cmpF, h1, h2]⟩
      | false => exact .inr ⟨rfl, by simp [cmpF, h1, h2]⟩
    clear h1
    rcases HB2 with ⟨h2, hc⟩ | ⟨h2, hc⟩
    all_goals
      have HB2 := Lib.hid h2
      have HC := Lib.hid hc
      clear h2 hc
      go_enter Tryd.func32, Tryd.ntmps32
      go_wp2_with (first | (refine wpList_value rfl (exec_load (ty := 78) rfl rfl R2.1 uH rH (by rw [HA.out]; exact infoHeld)) ?_) | (refine wpList_value rfl (exec_load (ty := 78) rfl rfl R2.2.1 uH rH (by rw [HB.out]; exact infoHeld)) ?_) | (go_at_call 33; refine (before_any w2 b a hb ha).mono ?_; rintro e w3 ⟨rfl, rfl⟩; rw [HB2.out]) | (refine wpList_value rfl (exec_load (ty := 78) rfl rfl RA.out uH rH (by rw [HA.out]; exact infoHeld)) ?_) | (refine wpList_value rfl (exec_load (ty := 78) rfl rfl RB.out uH rH (by rw [HB.out]; exact infoHeld)) ?_) | (go_at_call 33; refine (before_any _ a b ha hb).mono ?_; rintro e w2 ⟨rfl, hw2⟩; rw [HB1.out]; have R2 := RF.out w2 hw2; clear hw2))
      go_ret
      exact ⟨by rw [HC.out]; rfl, (R2.2.2.alloc _).alloc _⟩
end Go.Proofs.YthmaekkjpginoaaDoor
