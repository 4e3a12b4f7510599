/- A heap in a list, with an index of keys: plain. -/
import Derived.Sort.LotA
import Derived.Test.YthmaekkjpginoaaDoorMapK
namespace Go
open Go.Sort
section
variable {α : Type} {lt : α → α → Bool}

def HeapOk (lt : α → α → Bool) (C : List α) : Prop := ∀ n x p, 0 < n → C[n]? = some x → C[(n - 1) / 2]? = some p → lt x p = false
def HeapAt (lt : α → α → Bool) (i : Nat) (C : List α) : Prop :=
  (∀ n x p, 0 < n → n ≠ i → (n - 1) / 2 ≠ i → C[n]? = some x → C[(n - 1) / 2]? = some p → lt x p = false) ∧
  (∀ c x p, 0 < i → 0 < c → (c - 1) / 2 = i → C[c]? = some x → C[(i - 1) / 2]? = some p → lt x p = false)
def UpOk (lt : α → α → Bool) (i : Nat) (C : List α) : Prop := ∀ x p, 0 < i → C[i]? = some x → C[(i - 1) / 2]? = some p → lt x p = false
def DownOk (lt : α → α → Bool) (i : Nat) (C : List α) : Prop := ∀ c x y, 0 < c → (c - 1) / 2 = i → C[c]? = some x → C[i]? = some y → lt x y = false

theorem HeapAt.ok {i : Nat} {C : List α} (h : HeapAt lt i C) (u : UpOk lt i C) (d : DownOk lt i C) : HeapOk lt C := by
  intro n x p h0 hx hp
  by_cases e : n = i
  · subst e; exact u x p h0 hx hp
  · by_cases e2 : (n - 1) / 2 = i
    · rw [e2] at hp; exact d n x p h0 e2 hx hp
    · exact h.1 n x p h0 e e2 hx hp
theorem HeapOk.at_ (hO : SWO lt) {C : List α} (h : HeapOk lt C) (i : Nat) : HeapAt lt i C := by
  refine ⟨fun n x p h0 _ _ hx hp => h n x p h0 hx hp, fun c x p h0 hc he hx hp => ?_⟩
  have hi : i < C.length := by
    have := (List.getElem?_eq_some_iff.1 hx).1
    omega
  have h1 := h c x C[i] hc hx (by rw [he]; exact List.getElem?_eq_getElem hi)
  have h2 := h i C[i] p h0 (List.getElem?_eq_getElem hi) hp
  exact hO.ntrans x C[i] p h1 h2
theorem HeapOk.up {C : List α} (h : HeapOk lt C) (i : Nat) : UpOk lt i C := fun x p h0 hx hp => h i x p h0 hx hp

theorem asymm' (hO : SWO lt) {a b : α} (h : lt a b = true) : lt b a = false := by
  cases e : lt b a with
  | false => rfl
  | true => have := hO.trans a b a h e; rw [hO.irrefl] at this; cases this

theorem set2 {C : List α} {i p : Nat} {y h : α} (hi : i < C.length) (hp : p < C.length) (hne : i ≠ p) (n : Nat) : ((C.set i y).set p h)[n]? = if n = p then some h else if n = i then some y else C[n]? := by
  by_cases e : n = p
  · subst e
    rw [if_pos rfl, List.getElem?_set_self (by simpa using hp)]
  · rw [if_neg e, List.getElem?_set_ne (Ne.symm e)]
    by_cases e2 : n = i
    · subst e2
      rw [if_pos rfl, List.getElem?_set_self hi]
    · rw [if_neg e2, List.getElem?_set_ne (Ne.symm e2)]

/-- A step towards the top. -/
theorem HeapAt.up (hO : SWO lt) {C : List α} {i : Nat} {h y : α} (H : HeapAt lt i C) (h0 : 0 < i) (hi : C[i]? = some h) (hp : C[(i - 1) / 2]? = some y) (hl : lt h y = true) :
    HeapAt lt ((i - 1) / 2) ((C.set i y).set ((i - 1) / 2) h) ∧ DownOk lt ((i - 1) / 2) ((C.set i y).set ((i - 1) / 2) h) := by
  have li := (List.getElem?_eq_some_iff.1 hi).1
  have lp := (List.getElem?_eq_some_iff.1 hp).1
  have hne : i ≠ (i - 1) / 2 := by omega
  have S := fun n => set2 (y := y) (h := h) li lp hne n
  have na := asymm' hO hl
  refine ⟨⟨fun n x q n0 n1 n2 hx hq => ?_, fun c x q p0 c0 ce hx hq => ?_⟩, fun c x q c0 ce hx hq => ?_⟩
  · rw [S, if_neg n1] at hx
    rw [S, if_neg n2] at hq
    by_cases e : n = i
    · subst e
      exact absurd rfl n2
    · rw [if_neg e] at hx
      by_cases e2 : (n - 1) / 2 = i
      · rw [if_pos e2] at hq
        cases hq
        exact H.2 n x y h0 n0 e2 hx hp
      · rw [if_neg e2] at hq
        exact H.1 n x q n0 e e2 hx hq
  · rw [S, if_neg (by omega), if_neg (by omega)] at hq
    rw [S, if_neg (by omega)] at hx
    have h1 : lt y q = false := H.1 ((i - 1) / 2) y q p0 (by omega) (by omega) hp hq
    by_cases e : c = i
    · rw [if_pos e] at hx
      cases hx
      exact h1
    · rw [if_neg e] at hx
      have h2 : lt x y = false := H.1 c x y c0 e (by omega) hx (by rw [ce]; exact hp)
      exact hO.ntrans x y q h2 h1
  · rw [S, if_pos rfl] at hq
    cases hq
    rw [S, if_neg (by omega)] at hx
    by_cases e : c = i
    · rw [if_pos e] at hx
      cases hx
      exact na
    · rw [if_neg e] at hx
      have h2 : lt x y = false := H.1 c x y c0 e (by omega) hx (by rw [ce]; exact hp)
      cases e3 : lt x h with
      | false => rfl
      | true => have := hO.trans x h y e3 hl; rw [h2] at this; cases this

/-- A step away from the top. -/
theorem HeapAt.down (hO : SWO lt) {C : List α} {i k : Nat} {h y : α} (H : HeapAt lt i C) (k0 : 0 < k) (ke : (k - 1) / 2 = i) (hi : C[i]? = some h) (hk : C[k]? = some y) (hl : lt y h = true)
    (hs : ∀ s x, 0 < s → (s - 1) / 2 = i → C[s]? = some x → lt x y = false) :
    HeapAt lt k ((C.set i y).set k h) ∧ UpOk lt k ((C.set i y).set k h) := by
  have li := (List.getElem?_eq_some_iff.1 hi).1
  have lk := (List.getElem?_eq_some_iff.1 hk).1
  have hne : i ≠ k := by omega
  have S := fun n => set2 (y := y) (h := h) li lk hne n
  refine ⟨⟨fun n x q n0 n1 n2 hx hq => ?_, fun c x q p0 c0 ce hx hq => ?_⟩, fun x q u0 hx hq => ?_⟩
  · rw [S, if_neg n1] at hx
    rw [S, if_neg n2] at hq
    by_cases e : n = i
    · rw [if_pos e] at hx
      cases hx
      subst e
      rw [if_neg (by omega)] at hq
      exact H.2 k y q n0 k0 ke hk hq
    · rw [if_neg e] at hx
      by_cases e2 : (n - 1) / 2 = i
      · rw [if_pos e2] at hq
        cases hq
        exact hs n x n0 e2 hx
      · rw [if_neg e2] at hq
        exact H.1 n x q n0 e e2 hx hq
  · rw [ke, S, if_neg (by omega), if_pos rfl] at hq
    cases hq
    rw [S, if_neg (by omega), if_neg (by omega)] at hx
    exact H.1 c x y c0 (by omega) (by omega) hx (by rw [ce]; exact hk)
  · rw [S, if_pos rfl] at hx
    cases hx
    rw [ke, S, if_neg (by omega), if_pos rfl] at hq
    cases hq
    exact asymm' hO hl

theorem HeapOk.head (hO : SWO lt) {C : List α} (H : HeapOk lt C) {m : α} (h0 : C[0]? = some m) : ∀ (n : Nat) (x : α), C[n]? = some x → lt x m = false := by
  intro n
  induction n using Nat.strongRecOn with
  | ind n ih =>
    intro x hx
    by_cases hn : n = 0
    · subst hn
      rw [h0] at hx
      cases hx
      exact hO.irrefl m
    · have hl := (List.getElem?_eq_some_iff.1 hx).1
      have hp : C[(n - 1) / 2]? = some (C[(n - 1) / 2]'(by omega)) := List.getElem?_eq_getElem (by omega)
      exact hO.ntrans _ _ _ (H n x _ (by omega) hx hp) (ih _ (by omega) _ hp)

theorem swap_perm {C : List α} {i p : Nat} {h y : α} (hi : C[i]? = some h) (hp : C[p]? = some y) : ((C.set i y).set p h).Perm C := by
  obtain ⟨li, rfl⟩ := List.getElem?_eq_some_iff.1 hi
  obtain ⟨lp, rfl⟩ := List.getElem?_eq_some_iff.1 hp
  exact List.set_set_perm li lp

/-! ### the index of keys -/
variable {κ : Type} {kf : α → κ}
/-- M says where each key's element stands. -/
def Rep (kf : α → κ) (C : List α) (M : List (κ × Int)) : Prop := ∀ k j, (k, j) ∈ M ↔ ∃ (n : Nat) (x : α), j = n ∧ C[n]? = some x ∧ kf x = k
/-- .. but for the one at i. -/
structure RepBut (kf : α → κ) (i : Nat) (C : List α) (M : List (κ × Int)) : Prop where
  nd : (C.map kf).Nodup
  fwd : ∀ k j, (k, j) ∈ M → (∃ x, C[i]? = some x ∧ kf x = k) ∨ ∃ (n : Nat) (x : α), n ≠ i ∧ j = n ∧ C[n]? = some x ∧ kf x = k
  bwd : ∀ (n : Nat) (x : α), n ≠ i → C[n]? = some x → (kf x, (n : Int)) ∈ M

theorem nd_inj {C : List α} (h : (C.map kf).Nodup) {n m : Nat} {x y : α} (hx : C[n]? = some x) (hy : C[m]? = some y) (e : kf x = kf y) : n = m := by
  have h1 : (C.map kf)[n]? = some (kf x) := by rw [List.getElem?_map, hx]; rfl
  have h2 : (C.map kf)[m]? = some (kf x) := by rw [List.getElem?_map, hy, e]; rfl
  exact (List.getElem?_inj (List.getElem?_eq_some_iff.1 h1).1 h).1 (h1.trans h2.symm)
theorem Rep.nodup {C : List α} {M : List (κ × Int)} (h : Rep kf C M) (hM : (M.map (·.1)).Nodup) : (C.map kf).Nodup := by
  rw [List.nodup_iff_pairwise_ne, List.pairwise_map, List.pairwise_iff_getElem]
  intro i j hi hj hij e
  have h1 := (h (kf C[i]) i).2 ⟨i, C[i], rfl, List.getElem?_eq_getElem hi, rfl⟩
  have h2 := (h (kf C[i]) j).2 ⟨j, C[j], rfl, List.getElem?_eq_getElem hj, e.symm⟩
  obtain ⟨a, ha⟩ := List.mem_iff_getElem?.1 h1
  obtain ⟨b, hb⟩ := List.mem_iff_getElem?.1 h2
  have e1 : (M.map (·.1))[a]? = some (kf C[i]) := by rw [List.getElem?_map, ha]; rfl
  have e2 : (M.map (·.1))[b]? = some (kf C[i]) := by rw [List.getElem?_map, hb]; rfl
  have := (List.getElem?_inj (List.getElem?_eq_some_iff.1 e1).1 hM).1 (e1.trans e2.symm)
  subst this
  rw [ha] at hb
  have := congrArg Prod.snd (Option.some.inj hb)
  simp at this
  omega
theorem Rep.but {C : List α} {M : List (κ × Int)} (h : Rep kf C M) (hM : (M.map (·.1)).Nodup) (i : Nat) : RepBut kf i C M :=
  ⟨h.nodup hM, fun k j hk => by
    obtain ⟨n, x, rfl, hx, hk⟩ := (h k j).1 hk
    by_cases e : n = i
    · subst e; exact .inl ⟨x, hx, hk⟩
    · exact .inr ⟨n, x, e, rfl, hx, hk⟩, fun n x _ hx => (h (kf x) n).2 ⟨n, x, rfl, hx, rfl⟩⟩
theorem RepBut.move {C : List α} {M M' : List (κ × Int)} {i p : Nat} {h y : α} (R : RepBut kf i C M) (hne : i ≠ p) (hi : C[i]? = some h) (hp : C[p]? = some y) (U : Upd M (kf y) i M') : RepBut kf p ((C.set i y).set p h) M' := by
  have li := (List.getElem?_eq_some_iff.1 hi).1
  have lp := (List.getElem?_eq_some_iff.1 hp).1
  have S := fun n => set2 (y := y) (h := h) li lp hne n
  refine ⟨((swap_perm hi hp).map kf).nodup_iff.2 R.nd, fun k j hk => ?_, fun n x hn hx => ?_⟩
  · rcases (U k j).1 hk with ⟨rfl, rfl⟩ | ⟨hk1, hk2⟩
    · exact .inr ⟨i, y, hne, rfl, by rw [S, if_neg hne, if_pos rfl], rfl⟩
    · rcases R.fwd k j hk2 with ⟨x, hx, he⟩ | ⟨n, x, hn, rfl, hx, he⟩
      · rw [hi] at hx
        cases hx
        exact .inl ⟨h, by rw [S, if_pos rfl], he⟩
      · have : n ≠ p := fun e => by
          subst e
          rw [hp] at hx
          cases hx
          exact hk1 he.symm
        exact .inr ⟨n, x, this, rfl, by rw [S, if_neg this, if_neg hn]; exact hx, he⟩
  · rw [S, if_neg hn] at hx
    by_cases e : n = i
    · rw [if_pos e] at hx
      cases hx
      subst e
      exact (U _ _).2 (.inl ⟨rfl, rfl⟩)
    · rw [if_neg e] at hx
      exact (U _ _).2 (.inr ⟨fun e2 => hn (nd_inj R.nd hx hp e2), R.bwd n x e hx⟩)
theorem RepBut.settle {C : List α} {M M' : List (κ × Int)} {i : Nat} {h : α} (R : RepBut kf i C M) (hi : C[i]? = some h) (U : Upd M (kf h) i M') : Rep kf C M' := by
  intro k j
  constructor
  · intro hk
    rcases (U k j).1 hk with ⟨rfl, rfl⟩ | ⟨hk1, hk2⟩
    · exact ⟨i, h, rfl, hi, rfl⟩
    · rcases R.fwd k j hk2 with ⟨x, hx, he⟩ | ⟨n, x, hn, rfl, hx, he⟩
      · rw [hi] at hx
        cases hx
        exact absurd he.symm hk1
      · exact ⟨n, x, rfl, hx, he⟩
  · rintro ⟨n, x, rfl, hx, rfl⟩
    by_cases e : n = i
    · subst e
      rw [hi] at hx
      cases hx
      exact (U _ _).2 (.inl ⟨rfl, rfl⟩)
    · exact (U _ _).2 (.inr ⟨fun e2 => e (nd_inj R.nd hx hi e2), R.bwd n x e hx⟩)
end
end Go
