/- embargo: keys, what is held, a clock's memory. -/
import Derived.Test.YthmaekkjpginoaaDoorProg
import Derived.Test.YthmaekkjpginoaaDoorAgg
import Derived.Lib.Hide
import Derived.Outline
namespace Go.Proofs.YthmaekkjpginoaaDoor
open Go Go.RowKit Go.Maps Go.MapKept

def inI64 (x : Int) : Prop := -9223372036854775808 ≤ x ∧ x ≤ 9223372036854775807
theorem wf_i64 {x : Int} (h : inI64 x) : (Lit.int .i64 x).wf = true := by
  unfold inI64 at h
  simp [Lit.wf, IntKind.min, IntKind.max, IntKind.signed, IntKind.bits]
  omega
theorem wf_u8 {x : Int} (h : 0 ≤ x ∧ x ≤ 255) : (Lit.int .u8 x).wf = true := by
  simp [Lit.wf, IntKind.min, IntKind.max, IntKind.signed, IntKind.bits]
  omega
theorem laidOut : laidOutB Tryd.prog = true := by kernel_rfl

structure KeyD where
  src : Int
  id : List Int
def KeyD.ok (k : KeyD) : Prop := inI64 k.src ∧ k.id.length = 32 ∧ ∀ x ∈ k.id, 0 ≤ x ∧ x ≤ 255
def keyC (k : KeyD) : List Value := .int .i64 k.src :: k.id.map byteV
def keyV (k : KeyD) : Value := .agg (keyC k).toArray
theorem keyC_len {k : KeyD} (h : k.ok) : (keyC k).length = 33 := by simp [keyC, h.2.1]
theorem byteV_inj : ∀ {a b : List Int}, a.map byteV = b.map byteV → a = b
  | [], [], _ => rfl
  | [], _ :: _, h => by simp at h
  | _ :: _, [], h => by simp at h
  | x :: a, y :: b, h => by
    simp only [List.map_cons, List.cons.injEq, byteV, Value.int.injEq, true_and] at h
    rw [h.1, byteV_inj h.2]
theorem keyC_inj {a b : KeyD} (h : keyC a = keyC b) : a = b := by
  obtain ⟨x, l⟩ := a
  obtain ⟨y, m⟩ := b
  simp only [keyC, List.cons.injEq, Value.int.injEq, true_and] at h
  rw [h.1, byteV_inj h.2]
theorem keyV_inj {a b : KeyD} (h : keyV a = keyV b) : a = b := by
  unfold keyV at h
  injection h with h
  exact keyC_inj (by simpa using congrArg Array.toList h)
theorem undKey : Tryd.prog.underlying 33 = some (.array 32 5) := by kernel_rfl
theorem keyOfKey {k : KeyD} (h : k.ok) : ∃ l, keyOf Tryd.prog 36 (keyV k) = some l := by
  have shape : structShape Tryd.prog 36 = [(3, 0, true), (34, 1, true)] := by kernel_rfl
  have hN : Tryd.prog.types.size = Tryd.prog.types.size - 2 + 2 := by kernel_rfl
  have hA : Tryd.prog.underlying 34 = some (.array 32 5) := by kernel_rfl
  refine keyOf_struct shape (by simp) (by decide) (by kernel_rfl) (cs := keyC k) (by rw [keyC_len h]; kernel_rfl) ?_
  intro x hx
  rw [hN]
  simp only [List.mem_cons, List.not_mem_nil, or_false] at hx
  rcases hx with rfl | rfl
  · have e : ((keyC k).drop 0).take (Tryd.prog.cellsOf 3) = [.int .i64 k.src] := by
      rw [show Tryd.prog.cellsOf 3 = 1 by kernel_rfl]; rfl
    exact ⟨_, by rw [e]; exact keyLitsInt (by kernel_rfl) _ (wf_i64 h.1)⟩
  · have e : ((keyC k).drop 1).take (Tryd.prog.cellsOf 34) = k.id.map (Value.int .u8) := by
      rw [show Tryd.prog.cellsOf 34 = 32 by kernel_rfl]
      show (k.id.map byteV).take 32 = k.id.map byteV
      rw [List.take_of_length_le (by simp [h.2.1])]
    simp only [e]
    exact keyLitsArray hA (by kernel_rfl) (by kernel_rfl) (by kernel_rfl) _ _ h.2.1 (fun x hx => wf_u8 (h.2.2 x hx))
theorem keyedKey : Keyed Tryd.prog 36 := Keyed.of_law (deep_law_laid laidOut (m := 3) (by decide) (of_decide_eq_true (by kernel_rfl)) (by kernel_rfl) (by kernel_rfl))
theorem eqKey : EqTy Tryd.prog 36 := ⟨keyedKey, by kernel_rfl, by kernel_rfl, by kernel_rfl⟩
theorem undKeyMap : Tryd.prog.underlying 74 = some (.map 36 3) := by kernel_rfl
theorem zeroInt (w : World) : (zeroValue 3).run Tryd.prog w = .ok (.int .i64 0) w := by kernel_rfl

structure HeldD where
  k : KeyD
  till : Int
  seq : Int
def HeldD.ok (h : HeldD) : Prop := h.k.ok ∧ (0 ≤ h.till ∧ h.till ≤ 18446744073709551615) ∧ inI64 h.seq
def heldC (h : HeldD) : List Value := keyC h.k ++ [.int .u64 h.till, .int .i64 h.seq]
theorem heldC_len {h : HeldD} (hk : h.ok) : (heldC h).length = 35 := by simp [heldC, keyC_len hk.1]
theorem heldC_33 {h : HeldD} (hk : h.ok) : (heldC h)[33]? = some (.int .u64 h.till) := by
  unfold heldC
  rw [List.getElem?_append_right (by rw [keyC_len hk.1]; omega), keyC_len hk.1]; rfl
theorem heldC_34 {h : HeldD} (hk : h.ok) : (heldC h)[34]? = some (.int .i64 h.seq) := by
  unfold heldC
  rw [List.getElem?_append_right (by rw [keyC_len hk.1]; omega), keyC_len hk.1]; rfl
def beforeB (a b : HeldD) : Bool := decide (a.till < b.till) || ((a.till == b.till) && decide (a.seq < b.seq))

theorem before_any (w : World) (a b : HeldD) (ha : a.ok) (hb : b.ok) :
    Calls Tryd.prog 33 #[.agg (heldC a).toArray, .agg (heldC b).toArray] w fun e w' => e = .returned (.bool (beforeB a b)) ∧ w' = (w.alloc (.cells (heldC a).toArray 78)).alloc (.cells (heldC b).toArray 78) := by
  have a33 := heldC_33 ha
  have a34 := heldC_34 ha
  have b33 := heldC_33 hb
  have b34 := heldC_34 hb
  unfold beforeB
  clear ha hb
  cases h1 : decide (a.till < b.till) with
  | true =>
    go_enter Tryd.func33, Tryd.ntmps33
    go_wp2
    go_outline
    go_ret
    exact ⟨rfl, rfl⟩
  | false =>
    cases h2 : (a.till == b.till) with
    | false =>
      go_enter Tryd.func33, Tryd.ntmps33
      go_wp2
      go_ret
      exact ⟨rfl, rfl⟩
    | true =>
      cases h3 : decide (a.seq < b.seq) with
      | false =>
        go_enter Tryd.func33, Tryd.ntmps33
        go_wp2
        go_ret
        exact ⟨rfl, rfl⟩
      | true =>
        go_enter Tryd.func33, Tryd.ntmps33
        go_wp2
        go_ret
        exact ⟨rfl, rfl⟩
end Go.Proofs.YthmaekkjpginoaaDoor
