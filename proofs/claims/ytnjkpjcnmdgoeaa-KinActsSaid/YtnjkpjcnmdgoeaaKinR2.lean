/- The document's graph of kin: plain laws of Up and Down. -/
import Derived.Test.YtnjkpjcnmdgoeaaKinP
namespace Go.Proofs.Ytnjkpjcnmdgoeaa

theorem Rch.last {α : Type} {E : α → List α} {I : α → Prop} {x z : α} (h : Rch E I x z) : x = z ∨ ∃ y, Rch E I x y ∧ z ∈ E y := by
  induction h with
  | refl _ => exact .inl rfl
  | @step x y z hx hy _ ih =>
    rcases ih with rfl | ⟨y', h1, h2⟩
    · exact .inr ⟨x, .refl hx, hy⟩
    · exact .inr ⟨y', .step hx hy h1, h2⟩
section
variable {G : List NodeD} {l : List HashD}
theorem take_drop_at {k : Nat} {n : NodeD} (hk : G[k]? = some n) : G = G.take k ++ n :: G.drop (k + 1) := by
  have h1 : k < G.length := (List.getElem?_eq_some_iff.1 hk).1
  have h2 := (List.take_append_drop k G).symm
  rw [List.drop_eq_getElem_cons h1] at h2
  rw [show n = G[k] from (List.getElem?_eq_some_iff.1 hk).2.symm]
  exact h2
theorem up_step (ok : GOk G) {k : Nat} {n : NodeD} (hk : G[k]? = some n) : n.id ∈ upS G l ↔ n.id ∈ l ∨ ∃ m ∈ G.drop (k + 1), m.id ∈ upS G l ∧ n.id ∈ m.ps := by
  have hn : n ∈ G := List.mem_of_getElem? hk
  constructor
  · intro h
    obtain ⟨a, ha, hr⟩ := mem_up.1 h
    rcases Rch.last hr with rfl | ⟨y, h1, h2⟩
    · exact .inl ha
    · have hy := h1.right
      obtain ⟨m, hm, rfl⟩ := mem_ids.1 hy
      rw [par_of ok hm] at h2
      refine .inr ⟨m, ?_, mem_up.2 ⟨a, ha, h1⟩, h2⟩
      have e := take_drop_at hk
      rw [e] at hm
      rcases List.mem_append.1 hm with hm | hm
      · obtain ⟨A, B, eA⟩ := List.append_of_mem hm
        have h3 := ok.top A m (B ++ n :: G.drop (k + 1)) (by rw [← List.cons_append, ← List.append_assoc, ← eA]; exact e) _ h2
        have hnd := ok.nd
        rw [e, eA] at hnd
        simp only [ids, List.map_append, List.map_cons, List.append_assoc, List.cons_append] at hnd h3
        exact absurd rfl ((List.nodup_append.1 hnd).2.2 _ h3 n.id (by simp))
      · rcases List.mem_cons.1 hm with rfl | hm
        · obtain h3 := ok.top (G.take k) m (G.drop (k + 1)) e _ h2
          have hnd := ok.nd
          rw [e] at hnd
          simp only [ids, List.map_append, List.map_cons] at hnd h3
          exact absurd rfl ((List.nodup_append.1 hnd).2.2 _ h3 m.id (by simp))
        · exact hm
  · rintro (h | ⟨m, hm, h1, h2⟩)
    · exact mem_up.2 ⟨n.id, h, .refl (mem_ids.2 ⟨n, hn, rfl⟩)⟩
    · obtain ⟨a, ha, hr⟩ := mem_up.1 h1
      have hmG : m ∈ G := List.mem_of_mem_drop hm
      exact mem_up.2 ⟨a, ha, hr.snoc (by rw [par_of ok hmG]; exact h2) (mem_ids.2 ⟨n, hn, rfl⟩)⟩
noncomputable def upN (G : List NodeD) (l : List HashD) (i : Nat) : List HashD := (ids (G.drop i)).filter fun x => decide (x ∈ upS G l)
theorem upN_in {k : Nat} {n : NodeD} (hk : G[k]? = some n) (h : n.id ∈ upS G l) : upN G l k = [n.id] ++ upN G l (k + 1) := by
  unfold upN
  rw [List.drop_eq_getElem_cons (List.getElem?_eq_some_iff.1 hk).1, (List.getElem?_eq_some_iff.1 hk).2]
  simp [ids, h]
theorem upN_out {k : Nat} {n : NodeD} (hk : G[k]? = some n) (h : n.id ∉ upS G l) : upN G l k = upN G l (k + 1) := by
  unfold upN
  rw [List.drop_eq_getElem_cons (List.getElem?_eq_some_iff.1 hk).1, (List.getElem?_eq_some_iff.1 hk).2]
  simp [ids, h]
theorem upN_all : upN G l 0 = upS G l := by
  unfold upN
  rw [List.drop_zero]
  conv => rhs; unfold upS
  refine List.filter_congr fun x hx => ?_
  rw [decide_eq_decide, mem_up]
theorem upN_end : upN G l G.length = [] := by unfold upN; simp [ids]
theorem upN_len (k : Nat) : (upN G l k).length ≤ G.length := by
  unfold upN
  refine Nat.le_trans (List.length_filter_le _ _) ?_
  simp [ids]
def Wanted (G : List NodeD) (l : List HashD) (k : Nat) (W : List HashD) : Prop := ∀ x, x ∈ W ↔ x ∈ l ∨ ∃ m ∈ G.drop k, m.id ∈ upS G l ∧ x ∈ m.ps
theorem Wanted.init : Wanted G l G.length l := fun x => by simp
theorem Wanted.at_ (ok : GOk G) {k : Nat} {n : NodeD} (hk : G[k]? = some n) {W : List HashD} (h : Wanted G l (k + 1) W) : n.id ∈ W ↔ n.id ∈ upS G l := (h n.id).trans (up_step ok hk).symm
theorem Wanted.in_ {k : Nat} {n : NodeD} (hk : G[k]? = some n) {W P : List HashD} (h : Wanted G l (k + 1) W) (hn : n.id ∈ upS G l) (hp : ∀ x, x ∈ P ↔ x ∈ n.ps) : Wanted G l k (W ++ P) := fun x => by
  rw [List.mem_append, h x, List.drop_eq_getElem_cons (List.getElem?_eq_some_iff.1 hk).1, (List.getElem?_eq_some_iff.1 hk).2, hp]
  simp only [List.mem_cons, exists_eq_or_imp]
  constructor
  · rintro ((h | h) | h)
    · exact .inl h
    · exact .inr (.inr h)
    · exact .inr (.inl ⟨hn, h⟩)
  · rintro (h | ⟨-, h⟩ | h)
    · exact .inl (.inl h)
    · exact .inr h
    · exact .inl (.inr h)
theorem Wanted.out {k : Nat} {n : NodeD} (hk : G[k]? = some n) {W : List HashD} (h : Wanted G l (k + 1) W) (hn : n.id ∉ upS G l) : Wanted G l k W := fun x => by
  rw [h x, List.drop_eq_getElem_cons (List.getElem?_eq_some_iff.1 hk).1, (List.getElem?_eq_some_iff.1 hk).2]
  simp only [List.mem_cons, exists_eq_or_imp]
  constructor
  · rintro (h | h)
    · exact .inl h
    · exact .inr (.inr h)
  · rintro (h | ⟨h, -⟩ | h)
    · exact .inl h
    · exact absurd h hn
    · exact .inr h
noncomputable def downN (G : List NodeD) (l : List HashD) (i : Nat) : List HashD := (ids (G.take i)).filter fun x => decide (x ∈ downS G l)
theorem downN_in {k : Nat} {n : NodeD} (hk : G[k]? = some n) (h : n.id ∈ downS G l) : downN G l (k + 1) = downN G l k ++ [n.id] := by
  unfold downN
  rw [List.take_add_one, hk]
  simp [ids, h]
theorem downN_out {k : Nat} {n : NodeD} (hk : G[k]? = some n) (h : n.id ∉ downS G l) : downN G l (k + 1) = downN G l k := by
  unfold downN
  rw [List.take_add_one, hk]
  simp [ids, h]
theorem downN_all : downN G l G.length = downS G l := by
  unfold downN
  rw [List.take_length]
  conv => rhs; unfold downS
  refine List.filter_congr fun x hx => ?_
  rw [decide_eq_decide, mem_down]
theorem downN_len (k : Nat) : (downN G l k).length ≤ G.length := by
  unfold downN
  refine Nat.le_trans (List.length_filter_le _ _) ?_
  simp only [ids, List.length_map]
  exact List.length_take_le' _ _
theorem down_step (ok : GOk G) {k : Nat} {n : NodeD} (hk : G[k]? = some n) : n.id ∈ downS G l ↔ n.id ∈ l ∨ ∃ p ∈ n.ps, p ∈ downN G l k := by
  have hn : n ∈ G := List.mem_of_getElem? hk
  have e := take_drop_at hk
  unfold downN
  constructor
  · intro h
    obtain ⟨a, ha, hr⟩ := mem_down.1 h
    unfold Anc at hr
    cases hr with
    | refl _ => exact .inl ha
    | step h1 h2 h3 =>
      rw [par_of ok hn] at h2
      exact .inr ⟨_, h2, List.mem_filter.2 ⟨ok.top _ n _ e _ h2, decide_eq_true (mem_down.2 ⟨a, ha, h3⟩)⟩⟩
  · rintro (h | ⟨p, hp, h⟩)
    · exact mem_down.2 ⟨n.id, h, .refl (mem_ids.2 ⟨n, hn, rfl⟩)⟩
    · obtain ⟨-, h2⟩ := List.mem_filter.1 h
      obtain ⟨a, ha, hr⟩ := mem_down.1 (of_decide_eq_true h2)
      exact mem_down.2 ⟨a, ha, .step (mem_ids.2 ⟨n, hn, rfl⟩) (by rw [par_of ok hn]; exact hp) hr⟩
theorem cutL_snocG (A : List NodeD) (n : NodeD) (l : List HashD) : cutL (A ++ [n]) l = cutL A l ++ (if n.id ∈ l then [] else [⟨n.id, n.ps.filter fun p => decide (p ∉ l)⟩]) := by
  unfold cutL
  rw [List.filter_append, List.map_append]
  by_cases h : n.id ∈ l <;> simp [h]
end
end Go.Proofs.Ytnjkpjcnmdgoeaa
