/- kin: cut. -/
import Derived.Test.YtnjkpjcnmdgoeaaKinJ
import Derived.Test.YtnjkpjcnmdgoeaaLexM
namespace Go.Proofs.Ytnjkpjcnmdgoeaa
open Go Go.RowKit Go.Maps Go.MapKept

/-- The parents' lists without x; then the children's. -/
def cutK (x : HashD) (done : List HashD) (t : Tri) : Tri := (t.1, t.2.1, if t.1 ∈ done then t.2.2.filter (fun y => decide (y ≠ x)) else t.2.2)
def cutP (x : HashD) (ps done : List HashD) (t : Tri) : Tri := (t.1, if t.1 ∈ done then t.2.1.filter (fun y => decide (y ≠ x)) else t.2.1, if t.1 ∈ ps then t.2.2.filter (fun y => decide (y ≠ x)) else t.2.2)
theorem filter_id {x : HashD} {l : List HashD} (h : x ∉ l) : l.filter (fun y => decide (y ≠ x)) = l := List.filter_eq_self.2 fun y hy => by simp; rintro rfl; exact h hy
/-- What is left, but for x itself. -/
theorem cut_tri {G : List NodeD} (ok : GOk G) (x : HashD) : triG (cutG G x) = ((triG G).map (cutP x (par G x) (kid G x))).filter fun t => decide (t.1 ≠ x) := by
  have hk : ∀ y, kid (cutG G x) y = if y = x then [] else (kid G y).filter fun z => decide (z ≠ x) := by
    intro y
    by_cases e : y = x
    · subst e
      rw [if_pos rfl]
      refine List.eq_nil_iff_forall_not_mem.2 fun z hz => ?_
      obtain ⟨n, hn, -, hy⟩ := mem_kid.1 hz
      unfold cutG at hn
      obtain ⟨n', -, rfl⟩ := List.mem_map.1 hn
      simp at hy
    · rw [if_neg e]
      unfold kid cutG
      rw [List.filter_map, List.map_map, List.filter_filter, List.filter_map, List.filter_filter]
      congr 1
      refine List.filter_congr fun n _ => ?_
      simp only [Function.comp, List.mem_filter, ne_eq, e, decide_not]
      rw [Bool.and_comm]
      simp
  unfold triG
  conv => lhs; unfold cutG
  rw [List.map_map, List.map_map, List.filter_map]
  have hfil : G.filter ((fun t : Tri => decide (t.1 ≠ x)) ∘ (cutP x (par G x) (kid G x) ∘ fun n => (n.id, n.ps, kid G n.id))) = G.filter fun n => decide (n.id ≠ x) := rfl
  rw [hfil]
  refine List.map_congr_left fun n hn => ?_
  obtain ⟨hn1, hn2⟩ := List.mem_filter.1 hn
  simp only [decide_eq_true_eq] at hn2
  simp only [Function.comp, cutP]
  refine Prod.ext rfl (Prod.ext ?_ ?_)
  · show n.ps.filter (fun y => decide (y ≠ x)) = if n.id ∈ kid G x then n.ps.filter (fun y => decide (y ≠ x)) else n.ps
    by_cases h : n.id ∈ kid G x
    · rw [if_pos h]
    · rw [if_neg h]
      exact filter_id fun hx => h (mem_kid.2 ⟨n, hn1, rfl, hx⟩)
  · show kid (cutG G x) n.id = if n.id ∈ par G x then (kid G n.id).filter (fun y => decide (y ≠ x)) else kid G n.id
    rw [hk, if_neg hn2]
    by_cases h : n.id ∈ par G x
    · rw [if_pos h]
    · rw [if_neg h]
      refine filter_id fun hx => h ?_
      obtain ⟨n', hn', rfl, h2⟩ := mem_kid.1 hx
      rw [par_of ok hn']
      exact h2
def CutOk (w0 w : World) (p : Nat) (V : Nat → Prop) (G : List NodeD) (N : Nat) (x : HashD) (e : Ending) (w' : World) : Prop :=
  e = .returned (.tuple #[]) ∧ ∃ V', GC w0 w' p V' (cutG G x) N ∧ Fr V w w' ∧ ∀ j, V' j → V j
/-- Where the loops stand: L' is L turned. -/
structure CutSt (w0 w wr : World) (p m sq : Nat) (L L' : List RecD) (T : List Tri) (r0 : RecD) : Prop where
  gr : GR w0 wr p m sq L'
  tri : L'.map RecD.t3 = T
  r0 : r0 ∈ L'
  sub : ∀ j ∈ gblks p m L', j ∈ gblks p m L
  fr : Fr (fun j => j ∈ gblks p m L) w wr
section
variable {w0 w : World} {p m sq : Nat}
theorem cut_step {wr w1 : World} {L A B : List RecD} {r r0 r' : RecD} {T T' : List Tri} (h : CutSt w0 w wr p m sq L (A ++ r :: B) T r0) (hg : GR w0 w1 p m sq (A ++ r' :: B)) (f : Fr (fun j => j ∈ r.blks) wr w1) (hs : ∀ j ∈ r'.blks, j ∈ r.blks) (hne : r0.id ≠ r.id) (hT : (A ++ r' :: B).map RecD.t3 = T') : CutSt w0 w w1 p m sq L (A ++ r' :: B) T' r0 := by
  refine ⟨hg, hT, ?_, fun j hj => h.sub j ?_, h.fr.trans f fun i _ hi => h.sub i ?_⟩
  · rcases List.mem_append.1 h.r0 with h1 | h1
    · exact List.mem_append.2 (.inl h1)
    · rcases List.mem_cons.1 h1 with rfl | h1
      · exact absurd rfl hne
      · exact List.mem_append.2 (.inr (List.mem_cons_of_mem _ h1))
  · rw [gblks_mid] at hj ⊢
    simp only [List.mem_append] at hj ⊢
    exact hj.imp id (fun h => h.imp (hs j) id)
  · rw [gblks_mid]
    simp [hi]
end
end Go.Proofs.Ytnjkpjcnmdgoeaa
