/- Arguments opened: rows of elements that hold no pointer. -/
import Derived.Test.YtnjkpjcnmdgoeaaAgg
import Derived.Test.YtnjkpjcnmdgoeaaPost
import Derived.OpenShut
import Derived.Deep.Slices
namespace Go.Proofs.Ytnjkpjcnmdgoeaa
open Go Go.RowKit Go.ChangeShapes Go.WideShapes Go.Deep

theorem addr_plain {b o k : Nat} : (⟨b, o, none⟩ : Addr).add k = ⟨b, o + k, none⟩ := by
  unfold Addr.add
  split
  · subst_vars; rfl
  · rfl
theorem choose_row {α : Type} {n : Nat} {p : Nat → α → Prop} (h : ∀ i, i < n → ∃ a, p i a) : ∃ L : List α, L.length = n ∧ ∀ i a, L[i]? = some a → p i a := by
  induction n with
  | zero => exact ⟨[], rfl, fun i a h => by simp at h⟩
  | succ n ih =>
    obtain ⟨L, hL, hp⟩ := ih (fun i hi => h i (by omega))
    obtain ⟨a, ha⟩ := h n (by omega)
    refine ⟨L ++ [a], by simp [hL], fun i x hx => ?_⟩
    by_cases hi : i < n
    · rw [List.getElem?_append_left (by omega)] at hx; exact hp i x hx
    · have : i = n := by have := (List.getElem?_eq_some_iff.1 hx).1; simp at this; omega
      subst this
      rw [List.getElem?_append_right (by omega)] at hx
      simp [hL] at hx
      exact hx ▸ ha

section
variable {H : Type} {enc : TypeId × Value → H} {P : Program} {w : World} {base : Nat} {spare : Nat → Bool} {held : Bool}
theorem trod_bytes {t e : TypeId} {n fuel : Nat} {cs : List Value} {x : DataW H × List MemPlace} (ht : P.underlying t = some (.array n e)) (hct : P.cellsOf t = n) (hc : P.cellsOf e = 1) (he : P.underlying e = some (.int .u8))
    (h : DataW.trod enc P w base spare held fuel t cs = some x) : ∃ l : List Int, l.length = n ∧ (∀ y ∈ l, 0 ≤ y ∧ y ≤ 255) ∧ cs = l.map (Value.int .u8) := by
  obtain ⟨xs, m, _, _, hl, hxl, hi⟩ := DataW.trod_array ht h
  obtain ⟨l, hll, hp⟩ := choose_row (n := n) (p := fun i (y : Int) => cs[i]? = some (.int .u8 y) ∧ 0 ≤ y ∧ y ≤ 255) (fun i hin => by
    have h1 := hi i hin
    rw [hc, List.getElem?_eq_getElem (by omega)] at h1
    obtain ⟨y, hy, _, hw⟩ := DataW.trod_int he h1
    have e1 : IntKind.u8.min = 0 := rfl
    have e2 : IntKind.u8.max = 255 := rfl
    simp [Lit.wf, e1, e2] at hw
    refine ⟨y, ?_, hw.1, hw.2⟩
    rw [Nat.mul_one] at hy
    have hcl : i < cs.length := by omega
    rw [List.drop_eq_getElem_cons hcl] at hy
    simp only [List.take_succ_cons, List.take_zero, List.cons.injEq, and_true] at hy
    rw [List.getElem?_eq_getElem hcl, hy])
  refine ⟨l, hll, fun y hy => ?_, ?_⟩
  · obtain ⟨i, hi⟩ := List.mem_iff_getElem?.1 hy
    exact (hp i y hi).2
  · apply List.ext_getElem?
    intro i
    by_cases hin : i < n
    · have h1 : l[i]? = some (l[i]'(by omega)) := List.getElem?_eq_getElem (by omega)
      rw [(hp i _ h1).1, List.getElem?_map, h1]
      rfl
    · rw [List.getElem?_eq_none (by omega), List.getElem?_eq_none (by simp; omega)]
theorem open_flat {t e : TypeId} {k fuel : Nat} {α : Type} {f : α → List Value} {ok : α → Prop} {v : Value} {x : DataW H × List MemPlace} (ht : P.underlying t = some (.slice e)) (hC : P.cellsOf e = k) (k0 : 0 < k) (hk : ∀ a, ok a → (f a).length = k)
    (hel : ∀ (fuel : Nat) (cs : List Value) (x : DataW H × List MemPlace), DataW.trod enc P w base spare held fuel e cs = some x → ∃ a, ok a ∧ cs = f a)
    (h : DataW.trod enc P w base spare held fuel t [v] = some x) : ∃ L : List α, (∀ a ∈ L, ok a) ∧ ArgIs w v L.length (L.flatMap f) := by
  rcases open_slice ht h with ⟨e0, _⟩ | ⟨a, len, cap, m, n, D, Pl, hcs, hb, hl, hm, hmm, hx, hi⟩
  · simp only [List.cons.injEq, and_true] at e0
    exact ⟨[], (fun a ha => by cases ha), .inl (.inl ⟨e0, rfl, rfl⟩)⟩
  · simp only [List.cons.injEq, and_true] at hcs
    rw [hC] at hi
    have hlm : len ≤ m := by rw [hmm]; split <;> omega
    by_cases hl0 : len = 0
    · subst hl0
      exact ⟨[], (fun a ha => by cases ha), .inr ⟨a, cap, hcs, rfl, rfl, hm⟩⟩
    have hs : a.spot = none ∧ a.block < w.heap.size := by
      obtain ⟨cs', hc, ht'⟩ := hi 0 (by omega)
      obtain ⟨y, hy, rfl⟩ := hel _ _ _ ht'
      obtain ⟨_, hcl, hat⟩ := World.cells?_some hc
      have h1 := hat 0 k0
      rw [List.getElem?_eq_getElem (by rw [hk y hy]; exact k0)] at h1
      have c := cell_none h1
      rw [Nat.zero_mul] at c
      exact ⟨by simpa [Addr.add] using congrArg Addr.spot c.1, by simpa [Addr.add] using c.2⟩
    obtain ⟨ab, ao, asp⟩ := a
    obtain ⟨rfl, hbl⟩ := hs
    obtain ⟨L, hL, hp⟩ := choose_row (n := len) (p := fun i (y : α) => ok y ∧ w.rangeAt ab (ao + i * k) (f y)) (fun i hil => by
      obtain ⟨cs', hc, ht'⟩ := hi i (by omega)
      obtain ⟨y, hy, rfl⟩ := hel _ _ _ ht'
      obtain ⟨_, hcl, hat⟩ := World.cells?_some hc
      refine ⟨y, hy, fun j u hj => ?_⟩
      have hjl : j < k := by have := (List.getElem?_eq_some_iff.1 hj).1; rw [hk y hy] at this; exact this
      have h1 := hat j hjl
      rw [addr_plain, addr_plain] at h1
      rw [h1]
      exact hj)
    have hok : ∀ a ∈ L, ok a := fun a ha => by
      obtain ⟨i, hi⟩ := List.mem_iff_getElem?.1 ha
      exact (hp i a hi).1
    refine ⟨L, hok, .inl (.inr ⟨ab, ao, cap, by rw [hL]; exact hcs, by omega, hm, fun j u hj => ?_, hbl⟩)⟩
    have hjl : j < L.length * k := by
      have := (List.getElem?_eq_some_iff.1 hj).1
      rwa [flatR_len f k L (fun a ha => hk a (hok a ha))] at this
    have hq : j / k < L.length := Nat.div_lt_of_lt_mul (by rw [Nat.mul_comm]; exact hjl)
    have hr : j % k < k := Nat.mod_lt _ k0
    have h2 := flatR_at f k L (fun a ha => hk a (hok a ha)) (j / k) L[j / k] (List.getElem?_eq_getElem hq) (j % k) hr
    rw [Nat.div_add_mod' j k, hj] at h2
    have h3 := (hp (j / k) _ (List.getElem?_eq_getElem hq)).2 (j % k) u h2.symm
    rw [show ao + j / k * k + j % k = ao + (j / k * k + j % k) by omega, Nat.div_add_mod' j k] at h3
    exact h3
end
end Go.Proofs.Ytnjkpjcnmdgoeaa
