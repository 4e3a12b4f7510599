/- link: lanes; what a push does to the memory of a Links object. -/
import Derived.Test.YtohcjfnekgnlcaaLinkD
namespace Go.Proofs.Ytohcjfnekgnlcaa
open Go Go.RowKit Go.Maps Go.MapKept

/-- What is under way on a lane. -/
def laneOf (ln : List ((Int × Int × Int) × LG)) (k : Int × Int × Int) : List (List Int) :=
  ((ln.find? fun x => decide (x.1 = k)).map fun x => x.2.ms.map (·.2)).getD []
def LkG.lane (g : LkG) (k : Int × Int × Int) : List (List Int) := laneOf g.ln k

theorem laneOf_cons (x : (Int × Int × Int) × LG) (l : List ((Int × Int × Int) × LG)) (k : Int × Int × Int) : laneOf (x :: l) k = if x.1 = k then x.2.ms.map (·.2) else laneOf l k := by
  unfold laneOf
  rw [List.find?_cons]
  by_cases h : x.1 = k <;> simp [h]
theorem laneOf_miss {ln : List ((Int × Int × Int) × LG)} {k : Int × Int × Int} (h : ∀ x ∈ ln, x.1 ≠ k) : laneOf ln k = [] := by
  unfold laneOf
  rw [List.find?_eq_none.2 (fun x hx => by simpa using h x hx)]
  rfl
theorem laneOf_append {l1 l2 : List ((Int × Int × Int) × LG)} {k : Int × Int × Int} (h : ∀ x ∈ l1, x.1 ≠ k) : laneOf (l1 ++ l2) k = laneOf l2 k := by
  induction l1 with
  | nil => rfl
  | cons x l ih =>
    rw [List.cons_append, laneOf_cons, if_neg (h x (by simp))]
    exact ih fun y hy => h y (by simp [hy])
theorem laneOf_mid {l1 l2 : List ((Int × Int × Int) × LG)} {x y : (Int × Int × Int) × LG} {k : Int × Int × Int} (hx : x.1 ≠ k) (hy : y.1 ≠ k) : laneOf (l1 ++ x :: l2) k = laneOf (l1 ++ y :: l2) k := by
  induction l1 with
  | nil => simp [laneOf_cons, hx, hy]
  | cons z l ih => simp only [List.cons_append, laneOf_cons, ih]
theorem laneOf_mid' {l1 l2 : List ((Int × Int × Int) × LG)} {x : (Int × Int × Int) × LG} {k : Int × Int × Int} (hx : x.1 ≠ k) : laneOf (l1 ++ x :: l2) k = laneOf (l1 ++ l2) k := by
  induction l1 with
  | nil => simp [laneOf_cons, hx]
  | cons z l ih => simp only [List.cons_append, laneOf_cons, ih]

theorem LinksAt.nodup {w : World} {g : LkG} (h : LinksAt w g) : (g.ln.map (·.1)).Nodup := by
  have := h.hn.nodup
  rw [List.map_map] at this
  have e : ((fun x : Value × Value => x.1) ∘ fun x : (Int × Int × Int) × LG => (wayV x.1, x.2.v)) = wayV ∘ (fun x => x.1) := rfl
  rw [e, ← List.map_map] at this
  exact (List.pairwise_map.1 this).imp (fun h e => h (congrArg wayV e))

/-- The place of a lane in the list: there, or to be made at its end. -/
def Slot (g : LkG) (k : Int × Int × Int) (L1 L2 : List ((Int × Int × Int) × LG)) (v : Value) (ms : List (Value × List Int)) : Prop :=
  (g.ln = L1 ++ (k, ⟨v, ms⟩) :: L2) ∨ (g.ln = L1 ∧ L2 = [] ∧ v = .slice none 0 0 ∧ ms = [] ∧ ∀ x ∈ g.ln, x.1 ≠ k)

theorem slot_ex (g : LkG) (k : Int × Int × Int) : ∃ L1 L2 v ms, Slot g k L1 L2 v ms := by
  by_cases h : ∃ x ∈ g.ln, x.1 = k
  · obtain ⟨⟨k', ⟨v, ms⟩⟩, hx, rfl⟩ := h
    obtain ⟨L1, L2, e⟩ := List.append_of_mem hx
    exact ⟨L1, L2, v, ms, .inl e⟩
  · exact ⟨g.ln, [], .slice none 0 0, [], .inr ⟨rfl, rfl, rfl, rfl, fun x hx e => h ⟨x, hx, e⟩⟩⟩

theorem Slot.sub {g : LkG} {k : Int × Int × Int} {L1 L2 : List ((Int × Int × Int) × LG)} {v : Value} {ms : List (Value × List Int)} (h : Slot g k L1 L2 v ms) (hnd : (g.ln.map (·.1)).Nodup) :
    ∀ x, x ∈ L1 ∨ x ∈ L2 → x ∈ g.ln ∧ x.1 ≠ k := by
  intro x hx
  rcases h with h | ⟨h1, rfl, _, _, h5⟩
  · rw [h] at hnd ⊢
    simp only [List.map_append, List.map_cons] at hnd
    obtain ⟨n1, n2, n3⟩ := List.nodup_append.1 hnd
    obtain ⟨n4, n5⟩ := List.nodup_cons.1 n2
    rcases hx with hx | hx
    · exact ⟨List.mem_append_left _ hx, fun e => n3 x.1 (List.mem_map.2 ⟨x, hx, rfl⟩) k (by simp) e⟩
    · exact ⟨List.mem_append_right _ (List.mem_cons_of_mem _ hx), fun e => n4 (e ▸ List.mem_map.2 ⟨x, hx, rfl⟩)⟩
  · rcases hx with hx | hx
    · rw [h1]; exact ⟨hx, h5 x (h1 ▸ hx)⟩
    · cases hx

theorem Slot.lane {g : LkG} {k : Int × Int × Int} {L1 L2 : List ((Int × Int × Int) × LG)} {v : Value} {ms : List (Value × List Int)} (h : Slot g k L1 L2 v ms) (hnd : (g.ln.map (·.1)).Nodup) : g.lane k = ms.map (·.2) := by
  have hs := h.sub hnd
  rcases h with h | ⟨h1, rfl, _, rfl, h5⟩
  · unfold LkG.lane
    rw [h, laneOf_append (fun x hx => (hs x (.inl hx)).2), laneOf_cons, if_pos rfl]
  · exact laneOf_miss h5

theorem Slot.lane' {g : LkG} {k : Int × Int × Int} {L1 L2 : List ((Int × Int × Int) × LG)} {v : Value} {ms : List (Value × List Int)} (h : Slot g k L1 L2 v ms) (hnd : (g.ln.map (·.1)).Nodup) (v' : Value) (ms' : List (Value × List Int)) (k' : Int × Int × Int) :
    laneOf (L1 ++ (k, ⟨v', ms'⟩) :: L2) k' = if k' = k then ms'.map (·.2) else g.lane k' := by
  have hs := h.sub hnd
  by_cases e : k' = k
  · subst e
    rw [if_pos rfl, laneOf_append (fun x hx => (hs x (.inl hx)).2), laneOf_cons, if_pos rfl]
  · rw [if_neg e]
    unfold LkG.lane
    rcases h with h | ⟨h1, rfl, _, rfl, h5⟩
    · rw [h]; exact laneOf_mid (fun h => e h.symm) (fun h => e h.symm)
    · rw [laneOf_mid' (fun h => e h.symm), List.append_nil, h1]

/-- The state behind a change of one lane. -/
def LkG.put (g : LkG) (k : Int × Int × Int) (L1 L2 : List ((Int × Int × Int) × LG)) (v : Value) (ms : List (Value × List Int)) : LkG := { g with ln := L1 ++ (k, ⟨v, ms⟩) :: L2 }

/-- What the change may have touched. -/
structure Moved (g g' : LkG) (n : Nat) : Prop where
  bl : g'.bl = g.bl
  W : ∀ k, g'.W k → g.W k ∨ n ≤ k
  C : ∀ k, g'.C k → g.C k ∨ n ≤ k

theorem Moved.refl (g : LkG) (n : Nat) : Moved g g n := ⟨rfl, fun _ h => .inl h, fun _ h => .inl h⟩
theorem Moved.trans {a b c : LkG} {n m : Nat} (h : Moved a b n) (k : Moved b c m) (hn : n ≤ m) : Moved a c n :=
  ⟨k.bl.trans h.bl, fun i hi => (k.W i hi).elim (h.W i) (fun h' => .inr (Nat.le_trans hn h')), fun i hi => (k.C i hi).elim (h.C i) (fun h' => .inr (Nat.le_trans hn h'))⟩

theorem LinksAt.put {w wA w5 : World} {g : LkG} (h : LinksAt w g) {k : Int × Int × Int} {L1 L2 : List ((Int × Int × Int) × LG)} {v0 : Value} {ms0 : List (Value × List Int)} (hs : Slot g k L1 L2 v0 ms0)
    (hk : okWay g.op k) (fA : Fr No w wA) (f : Fr (fun i => i = g.bn ∨ v0.ownBlock = some i) wA w5) {v' : Value} {ms' : List (Value × List Int)}
    (hM : MapAt Try.prog 64 w5 g.bn ((g.put k L1 L2 v' ms').ln.map fun x => (wayV x.1, x.2.v)))
    (hO : w5.ownsRow 0 28 1 v' ms'.length (ms'.map (·.1))) (hF : ∀ j, v'.ownBlock = some j → v0.ownBlock = some j ∨ wA.heap.size ≤ j)
    (hm : ∀ m ∈ ms', m ∈ ms0 ∨ (SliceIs wA m.1 m.2.length (m.2.map byteV) ∧ ∀ j, m.1.ownBlock = some j → w.heap.size ≤ j)) (hlen : ms'.length ≤ 64) :
    LinksAt w5 (g.put k L1 L2 v' ms') ∧ Moved g (g.put k L1 L2 v' ms') w.heap.size := by
  have hA := h.keep0 fA
  have hsub := hs.sub h.nodup
  have hv0 : ∀ i, v0.ownBlock = some i → ∃ x ∈ g.ln, x.1 = k ∧ x.2.v.ownBlock = some i ∧ x.2.ms = ms0 := by
    intro i hi
    rcases hs with e | ⟨_, _, e, _, _⟩
    · exact ⟨(k, ⟨v0, ms0⟩), by rw [e]; simp, rfl, hi, rfl⟩
    · subst e; cases hi
  have hms0 : ∀ m ∈ ms0, ∃ x ∈ g.ln, m ∈ x.2.ms := by
    intro m hm
    rcases hs with e | ⟨_, _, _, e, _⟩
    · exact ⟨(k, ⟨v0, ms0⟩), by rw [e]; simp, hm⟩
    · subst e; cases hm
  have mem : ∀ x, x ∈ (g.put k L1 L2 v' ms').ln → (x ∈ g.ln ∧ x.1 ≠ k) ∨ x = (k, ⟨v', ms'⟩) := by
    intro x hx
    rcases List.mem_append.1 hx with hx | hx
    · exact .inl (hsub x (.inl hx))
    · rcases List.mem_cons.1 hx with hx | hx
      · exact .inr hx
      · exact .inl (hsub x (.inr hx))
  have hne : ∀ i, v0.ownBlock = some i → i ≠ g.bl ∧ i ≠ g.bo ∧ i ≠ g.bn := fun i hi => by
    obtain ⟨x, hx, _, e, _⟩ := hv0 i hi
    exact h.nl x hx i e
  have wlt := hA.wlt
  have hW' : ∀ i, (g.put k L1 L2 v' ms').W i → g.W i ∨ wA.heap.size ≤ i := by
    rintro i (e | e | e | ⟨x, hx, e⟩)
    · exact .inl (.inl e)
    · exact .inl (.inr (.inl e))
    · exact .inl (.inr (.inr (.inl e)))
    · rcases mem x hx with ⟨hx, _⟩ | rfl
      · exact .inl (.inr (.inr (.inr ⟨x, hx, e⟩)))
      · rcases hF i e with e' | e'
        · obtain ⟨y, hy, _, ey, _⟩ := hv0 i e'
          exact .inl (.inr (.inr (.inr ⟨y, hy, ey⟩)))
        · exact .inr e'
  have hC' : ∀ i, (g.put k L1 L2 v' ms').C i → g.C i ∨ (w.heap.size ≤ i ∧ i < wA.heap.size) := by
    rintro i ⟨x, hx, m, hm', e⟩
    rcases mem x hx with ⟨hx, _⟩ | rfl
    · exact .inl ⟨x, hx, m, hm', e⟩
    · rcases hm m hm' with h0 | ⟨h1, h2⟩
      · obtain ⟨y, hy, hmy⟩ := hms0 m h0
        exact .inl ⟨y, hy, m, hmy, e⟩
      · exact .inr ⟨h2 i e, h1.lt e⟩
  have hCW : ∀ i, g.C i → ¬ (i = g.bn ∨ v0.ownBlock = some i) := by
    rintro i hi (e | e)
    · exact h.mc i hi (.inr (.inr (.inl e)))
    · obtain ⟨y, hy, _, ey, _⟩ := hv0 i e
      exact h.mc i hi (.inr (.inr (.inr ⟨y, hy, ey⟩)))
  refine ⟨
    { hb := f.obj hA.hb (by rintro (e | e); exact h.n2 e; exact (hne _ e).1 rfl)
      ho := hA.ho.keep f (by rintro (e | e); exact h.n3 e; exact (hne _ e).2.1 rfl)
      hn := hM
      hl := ?_
      hm := ?_
      n1 := h.n1
      n2 := h.n2
      n3 := h.n3
      nl := ?_
      ll := ?_
      mc := ?_
      vo := h.vo
      vl := ?_
      le := ?_ }, ⟨rfl, fun i hi => (hW' i hi).imp id (fun h' => Nat.le_trans fA.size h'), fun i hi => (hC' i hi).imp id (fun h' => h'.1)⟩⟩
  · intro x hx
    rcases mem x hx with ⟨hx, hxk⟩ | rfl
    · refine ownsRow_keep (hA.hl x hx) f ?_
      rintro i hi (e | e)
      · exact (h.nl x hx i hi).2.2 e
      · obtain ⟨y, hy, yk, ey, _⟩ := hv0 i e
        exact hxk ((h.ll x hx y hy i hi ey).trans yk)
    · exact hO
  · intro x hx m hm'
    rcases mem x hx with ⟨hx, hxk⟩ | rfl
    · exact (hA.hm x hx m hm').keep f (fun i hi => hCW i ⟨x, hx, m, hm', hi⟩)
    · rcases hm m hm' with h0 | ⟨h1, h2⟩
      · obtain ⟨y, hy, hmy⟩ := hms0 m h0
        exact (hA.hm y hy m hmy).keep f (fun i hi => hCW i ⟨y, hy, m, hmy, hi⟩)
      · refine h1.keep f ?_
        rintro i hi (e | e)
        · have := h2 i hi; have := h.wlt i (.inr (.inr (.inl e))); omega
        · obtain ⟨y, hy, _, ey, _⟩ := hv0 i e
          have := h2 i hi; have := h.wlt i (.inr (.inr (.inr ⟨y, hy, ey⟩))); omega
  · intro x hx i hi
    rcases mem x hx with ⟨hx, hxk⟩ | rfl
    · exact h.nl x hx i hi
    · rcases hF i hi with e | e
      · exact hne i e
      · have a1 := wlt g.bl (.inl rfl)
        have a2 := wlt g.bo (.inr (.inl rfl))
        have a3 := wlt g.bn (.inr (.inr (.inl rfl)))
        exact ⟨by show i ≠ g.bl; omega, by show i ≠ g.bo; omega, by show i ≠ g.bn; omega⟩
  · intro x hx y hy i hi hj
    have key : ∀ x, x ∈ g.ln → x.1 ≠ k → x.2.v.ownBlock = some i → v'.ownBlock = some i → False := by
      intro x hx hxk hxi hvi
      rcases hF i hvi with e | e
      · obtain ⟨y, hy, yk, ey, _⟩ := hv0 i e
        exact hxk ((h.ll x hx y hy i hxi ey).trans yk)
      · have := wlt i (.inr (.inr (.inr ⟨x, hx, hxi⟩))); omega
    rcases mem x hx with ⟨hx, hxk⟩ | rfl <;> rcases mem y hy with ⟨hy, hyk⟩ | rfl
    · exact h.ll x hx y hy i hi hj
    · exact (key x hx hxk hi hj).elim
    · exact (key y hy hyk hj hi).elim
    · rfl
  · intro i hi hw
    rcases hC' i hi with hc | ⟨hc1, hc2⟩
    · rcases hW' i hw with hw | hw
      · exact h.mc i hc hw
      · have := hA.clt i hc; omega
    · rcases hW' i hw with hw | hw
      · have := h.wlt i hw; omega
      · omega
  · intro x hx
    rcases mem x hx with ⟨hx, _⟩ | rfl
    · exact h.vl x hx
    · exact hk
  · intro x hx
    rcases mem x hx with ⟨hx, _⟩ | rfl
    · exact h.le x hx
    · exact hlen
end Go.Proofs.Ytohcjfnekgnlcaa
