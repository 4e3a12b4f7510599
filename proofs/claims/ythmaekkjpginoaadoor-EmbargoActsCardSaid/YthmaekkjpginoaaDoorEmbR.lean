/- embargo: what the laws say of keys and times, without a program. -/
import Derived.Test.YthmaekkjpginoaaDoorEmbJ
namespace Go.Proofs.YthmaekkjpginoaaDoor
open Go Go.RowKit Go.Maps Go.MapKept Go.Sort

/-- The law's own row, step by step: keys and times so far, and whether the new one is in. -/
def wantStep (k : KeyD) (t : Int) (s : List KT × Bool) (x : KT) : List KT × Bool :=
  if t < x.2 ∧ s.2 = false then (s.1 ++ [(k, t)] ++ [x], true) else (s.1 ++ [x], s.2)
def wantOf (k : KeyD) (t : Int) (T : List KT) : List KT × Bool := T.foldl (wantStep k t) ([], false)
theorem wantOf_snoc (k : KeyD) (t : Int) (T : List KT) (n : Nat) (x : KT) (h : T[n]? = some x) : wantOf k t (T.take (n + 1)) = wantStep k t (wantOf k t (T.take n)) x := by
  unfold wantOf
  rw [List.take_add_one, h, List.foldl_append]
  rfl
theorem want_low (k : KeyD) (t : Int) : ∀ (A : List KT) (W : List KT), (∀ x ∈ A, x.2 ≤ t) → A.foldl (wantStep k t) (W, false) = (W ++ A, false)
  | [], W, _ => by simp
  | x :: A, W, h => by
    have h1 : ¬ t < x.2 := by have := h x (by simp); omega
    rw [List.foldl_cons, show wantStep k t (W, false) x = (W ++ [x], false) by simp [wantStep, h1], want_low k t A _ (fun y hy => h y (by simp [hy]))]
    simp
theorem want_high (k : KeyD) (t : Int) : ∀ (B : List KT) (W : List KT), B.foldl (wantStep k t) (W, true) = (W ++ B, true)
  | [], W => by simp
  | x :: B, W => by
    rw [List.foldl_cons, show wantStep k t (W, true) x = (W ++ [x], true) by simp [wantStep], want_high k t B]
    simp
theorem srt_split {T : List KT} (h : T.Pairwise (fun a b => a.2 ≤ b.2)) (t : Int) : T = T.filter (fun x => decide (x.2 ≤ t)) ++ T.filter (fun x => !decide (x.2 ≤ t)) := by
  induction T with
  | nil => rfl
  | cons x T ih =>
    obtain ⟨h1, h2⟩ := List.pairwise_cons.1 h
    by_cases e : x.2 ≤ t
    · simp only [List.filter_cons, e, decide_true, if_true, Bool.not_true, Bool.false_eq_true, if_false, List.cons_append]
      rw [← ih h2]
    · have h3 : T.filter (fun x => decide (x.2 ≤ t)) = [] := by
        rw [List.filter_eq_nil_iff]
        intro y hy
        have := h1 y hy
        simp; omega
      have h4 : T.filter (fun x => !decide (x.2 ≤ t)) = T := by
        rw [List.filter_eq_self]
        intro y hy
        have := h1 y hy
        simp; omega
      simp [List.filter_cons, e, h3, h4]
theorem want_done {T : List KT} (h : T.Pairwise (fun a b => a.2 ≤ b.2)) (k : KeyD) (t : Int) : insT T k t = if (wantOf k t T).2 = true then (wantOf k t T).1 else (wantOf k t T).1 ++ [(k, t)] := by
  have hs := srt_split h t
  have hA : ∀ x ∈ T.filter (fun x => decide (x.2 ≤ t)), x.2 ≤ t := fun x hx => of_decide_eq_true (List.mem_filter.1 hx).2
  have hB : ∀ x ∈ T.filter (fun x => !decide (x.2 ≤ t)), ¬ x.2 ≤ t := fun x hx => by have := (List.mem_filter.1 hx).2; simpa using this
  unfold insT wantOf
  generalize T.filter (fun x => decide (x.2 ≤ t)) = A at *
  generalize T.filter (fun x => !decide (x.2 ≤ t)) = B at *
  subst hs
  rw [List.foldl_append, want_low k t A [] hA]
  cases B with
  | nil => simp
  | cons x B =>
    have h1 : t < x.2 := by have := hB x (by simp); omega
    rw [List.foldl_cons, show wantStep k t ([] ++ A, false) x = ([] ++ A ++ [(k, t)] ++ [x], true) by simp [wantStep, h1], want_high]
    simp
theorem want_len (k : KeyD) (t : Int) (T : List KT) : (wantOf k t T).1.length ≤ T.length + 1 := by
  have : ∀ (T : List KT) (W : List KT) (b : Bool), (T.foldl (wantStep k t) (W, b)).1.length ≤ W.length + T.length + (if b then 0 else 1) := by
    intro T
    induction T with
    | nil => intro W b; simp
    | cons x T ih =>
      intro W b
      rw [List.foldl_cons]
      by_cases e : t < x.2 ∧ b = false
      · rw [show wantStep k t (W, b) x = (W ++ [(k, t)] ++ [x], true) by simp [wantStep, e]]
        have := ih (W ++ [(k, t)] ++ [x]) true
        simp at this ⊢
        rw [e.2]
        simp
        omega
      · rw [show wantStep k t (W, b) x = (W ++ [x], b) by unfold wantStep; rw [if_neg e]]
        have := ih (W ++ [x]) b
        simp at this ⊢
        omega
  have := this T [] false
  simp at this
  unfold wantOf
  omega
theorem has_ins {T : List KT} {k j : KeyD} {t : Int} : hasT (insT T k t) j = true ↔ j = k ∨ hasT T j = true := by
  rw [hasT_mem, hasT_mem]
  unfold insT
  simp only [List.map_append, List.map_cons, List.mem_append, List.mem_cons, List.mem_map, List.mem_filter]
  constructor
  · rintro (⟨x, ⟨hx, _⟩, rfl⟩ | rfl | ⟨x, ⟨hx, _⟩, rfl⟩)
    · exact .inr ⟨x, hx, rfl⟩
    · exact .inl rfl
    · exact .inr ⟨x, hx, rfl⟩
  · rintro (rfl | ⟨x, hx, rfl⟩)
    · exact .inr (.inl rfl)
    · by_cases e : x.2 ≤ t
      · exact .inl ⟨x, ⟨hx, by simpa using e⟩, rfl⟩
      · exact .inr (.inr ⟨x, ⟨hx, by simpa using e⟩, rfl⟩)
theorem mem_ins {T : List KT} {k : KeyD} {t : Int} {x : KT} (h : x ∈ T) : x ∈ insT T k t := by
  unfold insT
  simp only [List.mem_append, List.mem_cons, List.mem_filter]
  by_cases e : x.2 ≤ t
  · exact .inl ⟨h, by simpa using e⟩
  · exact .inr (.inr ⟨h, by simpa using e⟩)
theorem mem_ins_self {T : List KT} {k : KeyD} {t : Int} : (k, t) ∈ insT T k t := by unfold insT; simp

/-- Sorted: who is due stands ahead. -/
theorem filter_take {T : List KT} (h : T.Pairwise (fun a b => a.2 ≤ b.2)) (now : Int) : T.filter (dueT now) = T.takeWhile (dueT now) := by
  induction T with
  | nil => rfl
  | cons x T ih =>
    obtain ⟨h1, h2⟩ := List.pairwise_cons.1 h
    cases e : dueT now x with
    | true => simp only [List.filter_cons, List.takeWhile_cons, e, if_true]; rw [ih h2]
    | false =>
      simp only [List.filter_cons, List.takeWhile_cons, e, Bool.false_eq_true, if_false]
      rw [List.filter_eq_nil_iff]
      intro y hy
      have := h1 y hy
      unfold dueT at *
      simp at e ⊢
      omega
theorem take_drop_due (T : List KT) (now : Int) : (T.dropWhile (dueT now)).takeWhile (dueT now) = [] := by
  induction T with
  | nil => rfl
  | cons x T ih =>
    cases e : dueT now x with
    | true => simp [List.dropWhile_cons, e, ih]
    | false => simp [List.dropWhile_cons, e, List.takeWhile_cons]
end Go.Proofs.YthmaekkjpginoaaDoor
