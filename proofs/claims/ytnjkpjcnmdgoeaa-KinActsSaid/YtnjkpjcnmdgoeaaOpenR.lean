/- Rows opened whose elements hold slices: each element's cells, and what is said of them. -/
import Derived.Test.YtnjkpjcnmdgoeaaOpen
namespace Go.Proofs.Ytnjkpjcnmdgoeaa
open Go Go.RowKit Go.ChangeShapes Go.WideShapes Go.Deep

section
variable {H : Type} {enc : TypeId × Value → H} {P : Program} {w : World} {base : Nat} {spare : Nat → Bool} {held : Bool}
theorem open_rows {t e : TypeId} {k fuel : Nat} {α : Type} {q : α → List Value → Prop} {v : Value} {x : DataW H × List MemPlace} (ht : P.underlying t = some (.slice e)) (hC : P.cellsOf e = k) (k0 : 0 < k) (hk : ∀ a cs, q a cs → cs.length = k)
    (hel : ∀ (fuel : Nat) (cs : List Value) (x : DataW H × List MemPlace), DataW.trod enc P w base spare held fuel e cs = some x → ∃ a, q a cs)
    (h : DataW.trod enc P w base spare held fuel t [v] = some x) : ∃ (L : List α) (va : Option Addr) (vc : Nat), v = .slice va L.length vc ∧ L.length ≤ maxLen ∧ ∀ (i : Nat) (d : α), L[i]? = some d → ∃ b off cs, va = some ⟨b, off, none⟩ ∧ w.rangeAt b (off + i * k) cs ∧ q d cs := by
  rcases open_slice ht h with ⟨e0, _⟩ | ⟨a, len, cap, m, n, D, Pl, hcs, hb, hl, hm, hmm, hx, hi⟩
  · simp only [List.cons.injEq, and_true] at e0
    exact ⟨[], none, 0, e0, Nat.zero_le _, fun i d hd => by simp at hd⟩
  · simp only [List.cons.injEq, and_true] at hcs
    rw [hC] at hi
    have hlm : len ≤ m := by rw [hmm]; split <;> omega
    by_cases hl0 : len = 0
    · subst hl0
      exact ⟨[], some a, cap, hcs, Nat.zero_le _, fun i d hd => by simp at hd⟩
    have hs : a.spot = none := by
      obtain ⟨cs', hc, ht'⟩ := hi 0 (by omega)
      obtain ⟨y, hy⟩ := hel _ _ _ ht'
      obtain ⟨_, hcl, hat⟩ := World.cells?_some hc
      have h1 := hat 0 k0
      rw [List.getElem?_eq_getElem (by rw [hk y _ hy]; exact k0)] at h1
      have c := cell_none h1
      rw [Nat.zero_mul] at c
      simpa [Addr.add] using congrArg Addr.spot c.1
    obtain ⟨ab, ao, asp⟩ := a
    obtain rfl : asp = none := hs
    obtain ⟨L, hL, hp⟩ := choose_row (n := len) (p := fun i (y : α) => ∃ b off cs, (some ⟨ab, ao, none⟩ : Option Addr) = some ⟨b, off, none⟩ ∧ w.rangeAt b (off + i * k) cs ∧ q y cs) (fun i hil => by
      obtain ⟨cs', hc, ht'⟩ := hi i (by omega)
      obtain ⟨y, hy⟩ := hel _ _ _ ht'
      obtain ⟨_, hcl, hat⟩ := World.cells?_some hc
      refine ⟨y, ab, ao, cs', rfl, fun j u hj => ?_, hy⟩
      have hjl : j < k := by have := (List.getElem?_eq_some_iff.1 hj).1; rw [hk y _ hy] at this; exact this
      have h1 := hat j hjl
      rw [hj, addr_plain, addr_plain] at h1
      exact h1)
    exact ⟨L, some ⟨ab, ao, none⟩, cap, by rw [hL]; exact hcs, by omega, hp⟩
end
end Go.Proofs.Ytnjkpjcnmdgoeaa
