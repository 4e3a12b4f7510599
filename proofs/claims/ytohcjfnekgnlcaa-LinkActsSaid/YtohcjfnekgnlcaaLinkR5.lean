/- The document's links: Push. -/
import Derived.Test.YtohcjfnekgnlcaaLinkR4
namespace Go.Proofs.Ytohcjfnekgnlcaa
open Go Go.RowKit Go.Maps Go.MapKept

theorem pushR_arg (w : World) (p : Nat) (a b k : Int) (v : Value) (hv : ¬ (vld a b ∧ (k = 0 ∨ k = 1))) :
    Calls Try.prog 38 #[.pointer (some ⟨p, 0, none⟩), .int .i64 a, .int .i64 b, .int .i64 k, v] w fun e w' => e = .returned (.int .i64 2) ∧ Fr No w w' := by
  have hf := fitR_any w a b
  by_cases h1 : vld a b
  · rw [fitB_vld.2 h1] at hf
    have hk : ((k == 0) || (k == 1)) = false := by simp; exact ⟨fun e => hv ⟨h1, .inl e⟩, fun e => hv ⟨h1, .inr e⟩⟩
    have hl := laneR_any w k
    rw [hk] at hl
    have HF := Lib.hid hf
    have HL := Lib.hid hl
    clear hf hl hk hv
    go_enter Try.func38, Try.ntmps38
    go_wp2_with fail
    refine HF.out.mono ?_
    rintro e w1 ⟨rfl, rfl⟩
    go_wp2_with fail
    refine HL.out.mono ?_
    rintro e w2 ⟨rfl, rfl⟩
    go_wp2
    go_ret
    exact ⟨rfl, Fr.refl _ _⟩
  · rw [fitB_not h1] at hf
    have HF := Lib.hid hf
    clear hf hv
    go_enter Try.func38, Try.ntmps38
    go_wp2_with fail
    refine HF.out.mono ?_
    rintro e w1 ⟨rfl, rfl⟩
    go_wp2
    go_ret
    exact ⟨rfl, Fr.refl _ _⟩

def RfG.addM (g : RfG) (m : Ms) (v : Value) : RfG := { g with mv := v, ms := g.ms ++ [m] }

theorem putM {w w4 : World} {g : RfG} {m : Ms} {v : Value} {B : Nat} (hb : w4.heap[g.bl]? = some (.cells #[g.lv, g.mv] 56 (0, 0))) (ho : w4.ownsRow B 76 4 v (g.ms.length + 1) (g.ms.flatMap msC ++ msC m)) (h : RfAt w g)
    {V : Nat → Prop} (f : Fr V w w4) (hV : ∀ k, k < w.heap.size → ¬ V k) (hB : w.heap.size ≤ B) (hm : SliceIs w4 m.v m.bs.length (m.bs.map byteV)) (hmb : m.v.ownBlock ≠ some g.bl) : RfAt (w4.setCell ⟨g.bl, 1, none⟩ v) (g.addM m v) := by
  have hbl := obj_lt h.hb
  have hnv : v.ownBlock ≠ some g.bl := fun e => by have := (ho.lt _ e).1; omega
  have f2 : Fr (fun i => i = g.bl) w4 (w4.setCell ⟨g.bl, 1, none⟩ v) := Fr.setCell (W := fun i => i = g.bl) (Fr.refl _ w4) ⟨g.bl, 1, none⟩ (.inr rfl) v
  exact {
    hb := by have := heap_setCell_same w4 g.bl 1 _ _ v hb; simpa [RfG.addM] using this
    hl := ownsRow_keep (ownsRow_keep h.hl f (fun i hi => hV i (h.hl.lt i hi).2)) f2 (fun i hi e => h.n1 (e ▸ hi))
    hm := by
      have h2 := ownsRow_keep ho f2 (fun i hi e => hnv (e ▸ hi))
      have e1 : (g.addM m v).ms.length = g.ms.length + 1 := by simp [RfG.addM]
      have e2 : (g.addM m v).ms.flatMap msC = g.ms.flatMap msC ++ msC m := by simp [RfG.addM]
      rw [e1, e2]
      exact ownsRow_zero h2
    hv := fun x hx => by
      rcases List.mem_append.1 hx with hx | hx
      · exact ((h.hv x hx).keep f (fun i hi => hV i ((h.hv x hx).lt hi))).keep f2 (fun i hi e => h.n3 x hx (e ▸ hi))
      · have : x = m := by simpa using hx
        subst this
        exact hm.keep f2 (fun i hi e => hmb (e ▸ hi))
    n1 := h.n1
    n2 := hnv
    n3 := fun x hx => by
      rcases List.mem_append.1 hx with hx | hx
      · exact h.n3 x hx
      · have : x = m := by simpa using hx
        subst this
        exact hmb }
end Go.Proofs.Ytohcjfnekgnlcaa
