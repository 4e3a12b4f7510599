/- embargo: Drop, in plain. -/
import Derived.Test.YthmaekkjpginoaaDoorEmbT
namespace Go.Proofs.YthmaekkjpginoaaDoor
open Go Go.RowKit Go.Maps Go.MapKept Go.Sort

theorem heap_pre {X : List HeldD} {y : HeldD} (h : HeapOk beforeB (X ++ [y])) : HeapOk beforeB X := fun n x p h0 hx hp => by
  have hl := (List.getElem?_eq_some_iff.1 hx).1
  exact h n x p h0 (by rw [List.getElem?_append_left hl]; exact hx) (by rw [List.getElem?_append_left (by omega)]; exact hp)
theorem heap_set {C : List HeldD} (h : HeapOk beforeB C) (i : Nat) (y : HeldD) : HeapAt beforeB i (C.set i y) := by
  refine ⟨fun n x p h0 h1 h2 hx hp => ?_, fun c x p h0 hc he hx hp => ?_⟩
  · rw [List.getElem?_set_ne (Ne.symm h1)] at hx
    rw [List.getElem?_set_ne (Ne.symm h2)] at hp
    exact h n x p h0 hx hp
  · rw [List.getElem?_set_ne (by omega)] at hx hp
    exact (h.at_ swoB i).2 c x p h0 hc he hx hp
/-- without a key -/
def delS (S : List HeldD) (k : KeyD) : List HeldD := S.filter fun x => !decide (x.k.src = k.src ∧ x.k.id = k.id)
theorem key_iff {a b : KeyD} : (a.src = b.src ∧ a.id = b.id) ↔ a = b := by
  obtain ⟨a1, a2⟩ := a
  obtain ⟨b1, b2⟩ := b
  simp
theorem mem_delS {S : List HeldD} {k : KeyD} {x : HeldD} : x ∈ delS S k ↔ x ∈ S ∧ x.k ≠ k := by
  unfold delS
  rw [List.mem_filter]
  simp only [Bool.not_eq_true', decide_eq_false_iff_not, key_iff, ne_eq]
theorem delS_all {L : List HeldD} {k : KeyD} (h : ∀ x ∈ L, x.k ≠ k) : delS L k = L := by
  unfold delS
  rw [List.filter_eq_self]
  intro x hx
  have := h x hx
  rw [ne_eq, ← key_iff] at this
  rw [decide_eq_false this]
  rfl
theorem delS_one {A B : List HeldD} {x : HeldD} (h : ((A ++ x :: B).map HeldD.k).Nodup) : delS (A ++ x :: B) x.k = A ++ B := by
  rw [List.map_append, List.map_cons] at h
  obtain ⟨n1, n2, n3⟩ := List.nodup_append.1 h
  obtain ⟨n4, n5⟩ := List.nodup_cons.1 n2
  have hA : delS A x.k = A := delS_all fun y hy e => n3 _ (List.mem_map.2 ⟨y, hy, rfl⟩) _ (by simp) e
  have hB : delS B x.k = B := delS_all fun y hy e => n4 (List.mem_map.2 ⟨y, hy, e⟩)
  unfold delS at *
  rw [List.filter_append, List.filter_cons, if_neg (by simp), hA, hB]
/-- The last one moved to i's place. -/
theorem move_perm {X : List HeldD} {y x : HeldD} {i : Nat} (hx : X[i]? = some x) (hn : ((X ++ [y]).map HeldD.k).Nodup) : (X.set i y).Perm (delS (X ++ [y]) x.k) := by
  obtain ⟨hl, rfl⟩ := List.getElem?_eq_some_iff.1 hx
  have e1 : X = X.take i ++ X[i] :: X.drop (i + 1) := by simp
  have e2 : X ++ [y] = X.take i ++ X[i] :: (X.drop (i + 1) ++ [y]) := by
    have e := congrArg (· ++ [y]) e1
    simp only [List.append_assoc, List.cons_append] at e
    exact e
  rw [e2] at hn
  have e3 := delS_one hn
  rw [e2, e3, List.set_eq_take_append_cons_drop, if_pos hl]
  exact List.Perm.append_left _ (List.perm_append_singleton _ _).symm
theorem rep_last {X : List HeldD} {y : HeldD} {M M1 : List (KeyD × Int)} (h : Rep HeldD.k (X ++ [y]) M) (hM : (M.map (·.1)).Nodup) (d : Del M y.k M1) : Rep HeldD.k X M1 := by
  have hnd := h.nodup hM
  intro k j
  rw [d k j, h k j]
  constructor
  · rintro ⟨hk, n, x, rfl, hx, rfl⟩
    have hl := (List.getElem?_eq_some_iff.1 hx).1
    rw [List.length_append, List.length_singleton] at hl
    by_cases e : n = X.length
    · subst e
      rw [List.getElem?_append_right (Nat.le_refl _), Nat.sub_self] at hx
      cases hx
      exact absurd rfl hk
    · exact ⟨n, x, rfl, by rw [List.getElem?_append_left (by omega)] at hx; exact hx, rfl⟩
  · rintro ⟨n, x, rfl, hx, rfl⟩
    have hl := (List.getElem?_eq_some_iff.1 hx).1
    have hx' : (X ++ [y])[n]? = some x := by rw [List.getElem?_append_left hl]; exact hx
    refine ⟨fun e => ?_, n, x, rfl, hx', rfl⟩
    have hy' : (X ++ [y])[X.length]? = some y := by simp
    have := nd_inj hnd hx' hy' e
    omega
theorem rep_move {X : List HeldD} {x y : HeldD} {i : Nat} {M M1 M2 : List (KeyD × Int)} (h : Rep HeldD.k (X ++ [y]) M) (hM : (M.map (·.1)).Nodup) (hx : X[i]? = some x) (d : Del M x.k M1) (u : Upd M1 y.k i M2) : Rep HeldD.k (X.set i y) M2 := by
  have hnd := h.nodup hM
  have hil := (List.getElem?_eq_some_iff.1 hx).1
  have hxi : (X ++ [y])[i]? = some x := by rw [List.getElem?_append_left hil]; exact hx
  have hyl : (X ++ [y])[X.length]? = some y := by simp
  intro k j
  rw [u k j, d k j, h k j]
  constructor
  · rintro (⟨rfl, rfl⟩ | ⟨h1, h2, n, z, rfl, hz, rfl⟩)
    · exact ⟨i, y, rfl, by simp [hil], rfl⟩
    · have hl := (List.getElem?_eq_some_iff.1 hz).1
      rw [List.length_append, List.length_singleton] at hl
      have n1 : n ≠ X.length := fun e => by
        subst e
        rw [hyl] at hz
        cases hz
        exact h1 rfl
      have n2 : n ≠ i := fun e => by
        subst e
        rw [hxi] at hz
        cases hz
        exact h2 rfl
      exact ⟨n, z, rfl, by rw [List.getElem?_set_ne (Ne.symm n2)]; rw [List.getElem?_append_left (by omega)] at hz; exact hz, rfl⟩
  · rintro ⟨n, z, rfl, hz, rfl⟩
    by_cases e : n = i
    · subst e
      rw [List.getElem?_set_self hil] at hz
      cases hz
      exact .inl ⟨rfl, rfl⟩
    · rw [List.getElem?_set_ne (Ne.symm e)] at hz
      have hl := (List.getElem?_eq_some_iff.1 hz).1
      have hz' : (X ++ [y])[n]? = some z := by rw [List.getElem?_append_left hl]; exact hz
      refine .inr ⟨fun e2 => ?_, fun e2 => e (nd_inj hnd hz' hxi e2), n, z, rfl, hz', rfl⟩
      have := nd_inj hnd hz' hyl e2
      omega
theorem own_take {w : World} {B g cap n m k : Nat} {e : TypeId} {xs : List Value} (h : w.ownsRow B e k (.slice (some ⟨g, 0, none⟩) n cap) n xs) (hm : m ≤ n) : w.ownsRow B e k (.slice (some ⟨g, 0, none⟩) m cap) m (xs.take (m * k)) := by
  have hmk : m * k ≤ n * k := Nat.mul_le_mul_right _ hm
  refine ⟨by rw [List.length_take, h.1]; omega, ?_⟩
  rcases h.2 with ⟨e1, _⟩ | ⟨g', cap', cur, e1, hb, hg, hn, hcm, hcs, ht⟩
  · cases e1
  · injection e1 with e2 e3 e4
    injection e2 with e2
    injection e2 with e5
    subst e5 e4
    exact .inr ⟨g, cap, cur, rfl, hb, hg, by omega, hcm, hcs, by rw [← ht, List.take_take, Nat.min_eq_left hmk]⟩
theorem flat_take {X : List HeldD} {y : HeldD} (h : ∀ x ∈ X, (heldC x).length = 35) : ((X ++ [y]).flatMap heldC).take (X.length * 35) = X.flatMap heldC := by
  rw [List.flatMap_append, List.take_append_of_le_length (by rw [flatR_len heldC 35 X h]; exact Nat.le_refl _), List.take_of_length_le (by rw [flatR_len heldC 35 X h]; exact Nat.le_refl _)]
end Go.Proofs.YthmaekkjpginoaaDoor
