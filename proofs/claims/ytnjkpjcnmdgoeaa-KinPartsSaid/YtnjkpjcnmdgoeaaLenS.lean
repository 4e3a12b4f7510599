/- The length of a slice that came in, by its weight. -/
import Derived.Test.YtnjkpjcnmdgoeaaPost
import Derived.Deep.Slices
namespace Go.Proofs.Ytnjkpjcnmdgoeaa
open Go Go.RowKit Go.ChangeShapes Go.WideShapes Go.Deep
section
variable {H : Type} {enc : TypeId × Value → H} {P : Program} {w : World} {base : Nat} {spare : Nat → Bool} {held : Bool}
theorem slice_len {t e : TypeId} {fuel n c : Nat} {a : Option Addr} {x : DataW H × List MemPlace} (ht : P.underlying t = some (.slice e)) (hb : 0 < P.bytesOf e) (h : DataW.trod enc P w base spare held fuel t [.slice a n c] = some x) {B : Nat}
    (hw : (x.1.weights P t).all (· ≤ B) = true) : n ≤ B := by
  rcases open_slice ht h with ⟨h0, -⟩ | ⟨a', len, cap, m, n', D, Pl, hcs, -, hl, hm, hmm, hx, -⟩
  · simp only [List.cons.injEq, and_true, Value.slice.injEq] at h0
    omega
  · simp only [List.cons.injEq, and_true, Value.slice.injEq] at hcs
    rw [hx] at hw
    simp only [DataW.weights, ht, List.all_cons, Bool.and_eq_true, decide_eq_true_eq, List.length_map, List.length_range] at hw
    have h1 : len ≤ (len + (m - len)) * P.bytesOf e := Nat.le_trans (Nat.le_add_right _ _) (Nat.le_mul_of_pos_right _ hb)
    omega
theorem weights_at {t : TypeId} {ts : List TypeId} {d : DataW H} {r : List (DataW H)} {p : Nat → Bool} (h : (DataW.weightsEach P (t :: ts) (d :: r)).all p = true) : (d.weights P t).all p = true ∧ (DataW.weightsEach P ts r).all p = true := by
  simpa only [DataW.weightsEach, List.all_append, Bool.and_eq_true] using h
end
end Go.Proofs.Ytnjkpjcnmdgoeaa
