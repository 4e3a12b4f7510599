/- pappuslaw12: acts as they lie. -/
import Derived.Test.YtnjkpjcnmdgoeaaKinO
namespace Go.Proofs.Ytnjkpjcnmdgoeaa
open Go Go.RowKit Go.Maps Go.MapKept

structure KActD where
  kind : Int
  id : HashD
  ps : List HashD
def kactC (k : Int) (h : HashD) (v : Value) : List Value := .int .i64 k :: (hashC h ++ [v])
theorem kactC_len {k : Int} {h : HashD} {v : Value} (ok : hashOk h) : (kactC k h v).length = 34 := by simp [kactC, hashC_len ok]
theorem kactC_one {k : Int} {h : HashD} {a : Option Addr} {n c : Nat} : ∀ u ∈ kactC k h (.slice a n c), u.oneCell' = true := by
  intro u hu
  simp only [kactC, List.mem_cons, List.mem_append, List.not_mem_nil, or_false] at hu
  rcases hu with rfl | hu | rfl
  · rfl
  · exact hashC_one u hu
  · rfl
/-- What an act is, as a value. -/
def KActQ (w : World) (d : KActD) (cs : List Value) : Prop := ∃ xa xc, cs = kactC d.kind d.id (.slice xa d.ps.length xc) ∧ hashOk d.id ∧ IdsIs w (.slice xa d.ps.length xc) d.ps
/-- v is a slice of acts. -/
def KActsIs (w : World) (v : Value) (L : List KActD) : Prop :=
  ∃ va vc, v = .slice va L.length vc ∧ L.length ≤ maxLen ∧ ∀ (i : Nat) (d : KActD), L[i]? = some d → ∃ b off cs, va = some ⟨b, off, none⟩ ∧ w.rangeAt b (off + i * 34) cs ∧ KActQ w d cs
theorem KActsIs.keep {w w' : World} {v : Value} {L : List KActD} (h : KActsIs w v L) (f : Fr No w w') : KActsIs w' v L := by
  obtain ⟨va, vc, e, hl, h⟩ := h
  refine ⟨va, vc, e, hl, fun i d hi => ?_⟩
  obtain ⟨b, off, cs, h0, h1, xa, xc, e2, h2, h3⟩ := h i d hi
  exact ⟨b, off, cs, h0, range_keep h1 f id, xa, xc, e2, h2, h3.keep f⟩
theorem KActsIs.at_ {w : World} {v : Value} {L : List KActD} (h : KActsIs w v L) {i : Nat} {d : KActD} (hx : L[i]? = some d) : ∃ b off xa xc cap, v = .slice (some ⟨b, off, none⟩) L.length cap ∧
    w.rangeAt b (off + i * 34) (kactC d.kind d.id (.slice xa d.ps.length xc)) ∧ hashOk d.id ∧ IdsIs w (.slice xa d.ps.length xc) d.ps := by
  obtain ⟨va, vc, rfl, -, h⟩ := h
  obtain ⟨b, off, cs, e, h1, xa, xc, rfl, h2, h3⟩ := h i d hx
  subst e
  exact ⟨b, off, xa, xc, vc, rfl, h1, h2, h3⟩
def kgreat (L : List KActD) : Bool := decide (80 < L.length) || L.any fun d => decide (30 < d.ps.length)
theorem kgreat_len {L : List KActD} (h : kgreat L = false) : L.length ≤ 80 ∧ ∀ d ∈ L, d.ps.length ≤ 30 := by
  unfold kgreat at h
  rw [Bool.or_eq_false_iff] at h
  refine ⟨by have := h.1; simp at this; omega, fun d hd => ?_⟩
  have := List.any_eq_false.1 h.2 d hd
  simp at this
  omega
/-- One act on the graph. -/
noncomputable def actG (G : List NodeD) (d : KActD) : List NodeD :=
  if d.kind = 0 then (if addE G d.id d.ps = 0 then addG G d.id d.ps else G)
  else if d.kind = 1 then cutL G (downS G [d.id])
  else if d.kind = 2 then cutL G [d.id] else G
noncomputable def grownG (L : List KActD) : List NodeD := L.foldl actG []
theorem grown_step {L : List KActD} {n : Nat} {d : KActD} (h : L[n]? = some d) : grownG (L.take (n + 1)) = actG (grownG (L.take n)) d := by
  unfold grownG
  rw [List.take_add_one, h]
  simp
end Go.Proofs.Ytnjkpjcnmdgoeaa
