/- Going through a map, by keys and values of one's own. -/
import Derived.Test.YtnjkpjcnmdgoeaaIter
import Derived.Test.YtnjkpjcnmdgoeaaMapK
namespace Go
open Go.MapKept Go.RowKit Go.Maps

section
variable {P : Program} {kt et t : TypeId} {w : World} {r b : Nat} {κ ι : Type} {kV : κ → Value} {vV : ι → Value} {M R : List (κ × ι)}
/-- Iterator r goes through map b; R are those that it has not met. -/
def IterIs (P : Program) (kt : TypeId) (kV : κ → Value) (vV : ι → Value) (w : World) (r b : Nat) (M R : List (κ × ι)) : Prop :=
  IterAt P kt w r b (M.map fun x => (kV x.1, vV x.2)) (R.map fun x => (kV x.1, vV x.2))
theorem IterIs.map (h : IterIs P kt kV vV w r b M R) : MapIs P kt kV vV w b M := IterAt.map h
theorem IterIs.lt (h : IterIs P kt kV vV w r b M R) : r < w.heap.size := IterAt.lt h
theorem IterIs.keep {w' : World} {W : Nat → Prop} (h : IterIs P kt kV vV w r b M R) (f : Fr W w w') (h1 : ¬ W b) (h2 : ¬ W r) : IterIs P kt kV vV w' r b M R := IterAt.keep h f h1 h2
theorem MapIs.rangeI (ht : P.underlying t = some (.map kt et)) (h : MapIs P kt kV vV w b M) :
    ∃ clk, (Instr.range t (.map (some b))).run P w = .ok (.pointer (some ⟨w.heap.size, 0, none⟩)) (w.alloc (.mapIter (some b) clk #[] clk)) ∧ IterIs P kt kV vV (w.alloc (.mapIter (some b) clk #[] clk)) w.heap.size b M M := MapAt.range ht h
theorem IterIs.stop (h : IterIs P kt kV vV w r b M []) (ty : TypeId) : (Instr.next (.pointer (some ⟨r, 0, none⟩)) false ty).run P w = .ok (.tuple #[.bool false]) w := IterAt.nextNone h ty
theorem IterIs.step (h : IterIs P kt kV vV w r b M R) (hne : R ≠ []) (ty : TypeId) :
    ∃ A x B w', R = A ++ x :: B ∧ (Instr.next (.pointer (some ⟨r, 0, none⟩)) false ty).run P w = .ok (.tuple #[.bool true, kV x.1, vV x.2]) w' ∧ IterIs P kt kV vV w' r b M (A ++ B) ∧ Fr (· = r) w w' ∧
      (Instr.entry (.pointer (some ⟨r, 0, none⟩))).run P w' = .ok (.tuple #[kV x.1, vV x.2]) w' := by
  obtain ⟨R1, p, R2, w2, hR, hnx, hI2, f2, hent⟩ := IterAt.nextSome h (by simpa using hne) ty
  obtain ⟨A, B, hAB, hA, hB⟩ := List.map_eq_append_iff.1 hR
  cases B with
  | nil => simp at hB
  | cons x B =>
    simp only [List.map_cons, List.cons.injEq] at hB
    obtain ⟨rfl, hB⟩ := hB
    subst hA
    subst hB
    exact ⟨A, x, B, w2, hAB, hnx, by unfold IterIs; rw [List.map_append]; exact hI2, f2, hent w2 rfl rfl⟩
end
end Go
