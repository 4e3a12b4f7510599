/- Values of many cells: ranges of cells, loads, stores, comparisons. -/
import Derived.Deep.MidRow
import Derived.Laws.StructEq
import Derived.DeepKeys
import Derived.Laws.Tables
import Derived.Great.BuildSlice
import Derived.Laws.ResultCell
import Derived.Test.YtdkkjchclkjleaaGreatDoorSG1
import Derived.Test.YtdkkjchclkjleaaGreatDoorSG2
set_option linter.unusedVariables false
set_option linter.unusedSimpArgs false
set_option linter.unnecessarySimpa false
set_option linter.all false
namespace Go
open Go.RowKit Go.Maps Go.MapKept
theorem zl {w w' : World} {base : Nat} {e : TypeId} {size : Nat} {v : Value} {n : Nat} {xs : List Value} (h : w.ownsRow base e size v n xs) {W : Nat → Prop} (f : Fr W w w') (hb : ∀ b, v.ownBlock = some b → ¬ W b) : w'.ownsRow base e size v n xs := by
 refine ⟨h.1, ?_⟩
 rcases h.2 with hn | ⟨g, cap, cur, rfl, hbg, hg, rest⟩
 ·exact .inl hn
 ·exact .inr ⟨g, cap, cur, rfl, hbg, f.obj hg (hb g rfl), rest⟩
theorem jf {P : Program} {t : TypeId} (h : (P.underlying t).map (·.isRow) = some true) : ∃ d, P.underlying t = some d ∧ d.isRow = true := by
 cases e : P.underlying t with
 | none => rw [e] at h; cases h
 | some d => rw [e] at h; exact ⟨d, rfl, by simpa using h⟩
theorem zb {w w' : World} {b o : Nat} {cs : List Value} (h : w.rangeAt b o cs) {W : Nat → Prop} (f : Fr W w w') (hb : ¬ W b) : w'.rangeAt b o cs := fun j v hj => f.cell (h j v hj) hb
theorem zC (w : World) (cs : List Value) (T : TypeId) : (w.alloc (.cells cs.toArray T)).rangeAt w.heap.size 0 cs := fun j v hj => by
 have hb := yn w (.cells cs.toArray T)
 simp only [World.cell?, hb]
 simpa using hj
theorem ya {w : World} {b : Nat} {c : Array Value} {T : TypeId} {fr : Nat × Nat} (hb : w.heap[b]? = some (.cells c T fr)) : w.rangeAt b 0 c.toList := fun j v hj => by
 simp only [World.cell?, hb]
 simpa using hj
theorem Ju {α β : Type} (f : α → List β) (k : Nat) : ∀ (L : List α), (∀ x ∈ L, (f x).length = k) → ∀ (i : Nat) (x : α), L[i]? = some x → ∀ r, r < k → (L.flatMap f)[i * k + r]? = (f x)[r]?
 | [], _, i, x, h, _, _ => by simp at h
 | y :: L, hk, 0, x, h, r, hr => by
  simp at h
  subst h
  rw [List.flatMap_cons, Nat.zero_mul, Nat.zero_add, List.getElem?_append_left (by rw [hk y (by simp)]; exact hr)]
 | y :: L, hk, i + 1, x, h, r, hr => by
  rw [List.flatMap_cons, List.getElem?_append_right (by rw [hk y (by simp), Nat.succ_mul]; omega), hk y (by simp)]
  rw [show (i + 1) * k + r - k = i * k + r by rw [Nat.succ_mul]; omega]
  exact Ju f k L (fun x hx => hk x (by simp [hx])) i x (by simpa using h) r hr
theorem xL {α β : Type} (f : α → List β) (k : Nat) : ∀ (L : List α), (∀ x ∈ L, (f x).length = k) → (L.flatMap f).length = L.length * k
 | [], _ => by simp
 | y :: L, hk => by rw [List.flatMap_cons, List.length_append, hk y (by simp), xL f k L (fun x hx => hk x (by simp [hx])), List.length_cons, Nat.succ_mul]; omega
def qQ (xs : List Value) : Nat → List Value → List Value
 | _, [] => xs
 | o, v :: r => qQ (xs.set o v) (o + 1) r
theorem qS : ∀ (cs A B C : List Value), B.length = cs.length → qQ (A ++ B ++ C) A.length cs = A ++ cs ++ C
 | [], A, B, C, h => by
  have : B = [] := List.eq_nil_of_length_eq_zero h
  subst this
  rfl
 | v :: r, A, [], C, h => by simp at h
 | v :: r, A, b :: B, C, h => by
  unfold qQ
  rw [List.append_assoc, List.set_append_right _ _ (Nat.le_refl _), Nat.sub_self, List.cons_append, List.set_cons_zero]
  have e : A ++ v :: (B ++ C) = (A ++ [v]) ++ B ++ C := by simp
  rw [e, show A.length + 1 = (A ++ [v]).length by simp, qS r (A ++ [v]) B C (by simpa using h)]
  simp
theorem y7 (g : Nat) (T : TypeId) : ∀ (cs : List Value) (o : Nat) (w : World) (cur : Array Value), w.heap[g]? = some (.cells cur T (0, 0)) → (w.setCells g o cs).heap[g]? = some (.cells (qQ cur.toList o cs).toArray T (0, 0))
 | [], o, w, cur, h => by simpa [World.setCells, qQ] using h
 | v :: r, o, w, cur, h => by
  have h2 := heap_setCell_same w g o _ _ v h
  have := y7 g T r (o + 1) _ _ h2
  simp only [World.setCells, qQ]
  rw [this]
  simp
theorem zJ (g : Nat) : ∀ (cs : List Value) (o : Nat) (w : World), Fr (fun i => i = g) w (w.setCells g o cs)
 | [], _, _ => Fr.refl _ _
 | v :: r, o, w => (Fr.setCell (W := fun i => i = g) (Fr.refl _ w) ⟨g, o, none⟩ (.inr rfl) v).trans (zJ g r (o + 1) _) (fun _ _ h => h)
theorem zbz (w : World) (z cs : List Value) (T : TypeId) (h : z.length = cs.length) : (w.alloc (.cells z.toArray T)).setCells w.heap.size 0 cs = w.alloc (.cells cs.toArray T) := by
 have hk : ∀ (cs : List Value) (o : Nat) (cur : Array Value), (w.alloc (.cells cur T)).setCells w.heap.size o cs = w.alloc (.cells (qQ cur.toList o cs).toArray T) := by
  intro cs
  induction cs with
  | nil => intro o cur; simp [World.setCells, qQ]
  | cons v r ih =>
   intro o cur
   have e : (w.alloc (.cells cur T)).setCell ⟨w.heap.size, o, none⟩ v = w.alloc (.cells (cur.setIfInBounds o v) T) := by
    exact World.setCell_alloc_at _ _ _ _ _ rfl
   simp only [World.setCells, qQ, e]
   rw [ih]
   simp
 rw [hk]
 have := qS cs [] z [] h
 simp at this
 simp [this]
section
variable {α : Type} {f : α → List Value} {k : Nat}
theorem qH.elem {w : World} {v : Value} {n : Nat} {L : List α} (hk0 : 0 < k) (hk : ∀ x ∈ L, (f x).length = k) (h : qH w v n (L.flatMap f)) {i : Nat} {x : α} (hx : L[i]? = some x) :
  ∃ b off cap, v = .slice (some ⟨b, off, none⟩) n cap ∧ w.rangeAt b (off + i * k) (f x) ∧ b < w.heap.size := by
 have hmem := List.mem_of_getElem? hx
 rcases h with ⟨_, _, e⟩ | ⟨b, off, cap, rfl, h1, h2, h3, h4⟩
 ·have := Ju f k L hk i x hx 0 (by omega)
  rw [e] at this
  have hl := hk x hmem
  rw [List.getElem?_nil] at this
  have := List.getElem?_eq_none_iff.1 this.symm
  omega
 ·refine ⟨b, off, cap, rfl, fun j u hj => ?_, h4⟩
  have hjl : j < k := by have := (List.getElem?_eq_some_iff.1 hj).1; rw [hk x hmem] at this; exact this
  rw [Nat.add_assoc]
  exact h3 _ _ (by rw [Ju f k L hk i x hx j hjl]; exact hj)
theorem xq.elem {w : World} {v : Value} {n : Nat} {L : List α} (hk0 : 0 < k) (hk : ∀ x ∈ L, (f x).length = k) (h : xq w v n (L.flatMap f)) {i : Nat} {x : α} (hx : L[i]? = some x) :
  ∃ b off cap, v = .slice (some ⟨b, off, none⟩) n cap ∧ w.rangeAt b (off + i * k) (f x) ∧ b < w.heap.size := by
 rcases h with h | ⟨a, cap, rfl, rfl, e, _⟩
 ·exact h.elem hk0 hk hx
 ·have hmem := List.mem_of_getElem? hx
  have := Ju f k L hk i x hx 0 (by omega)
  rw [e] at this
  have hl := hk x hmem
  rw [List.getElem?_nil] at this
  have := List.getElem?_eq_none_iff.1 this.symm
  omega
theorem jP {w : World} {B n : Nat} {T : TypeId} {v : Value} {L : List α} (hk0 : 0 < k) (hk : ∀ x ∈ L, (f x).length = k) (h : w.ownsRow B T k v n (L.flatMap f)) {i : Nat} {x : α} (hx : L[i]? = some x) :
  ∃ g cap, v = .slice (some ⟨g, 0, none⟩) n cap ∧ w.rangeAt g (i * k) (f x) ∧ g < w.heap.size := by
 rcases h.2 with ⟨rfl, hn⟩ | ⟨g, cap, cur, rfl, _⟩
 ·have h1 := h.1
  rw [xL f k L hk, hn] at h1
  have : i < L.length := (List.getElem?_eq_some_iff.1 hx).1
  have : L.length * k = 0 := by omega
  rcases Nat.mul_eq_zero.1 this with h | h <;> omega
 ·obtain ⟨b, off, cap', e, hr, hl⟩ := h.slice.elem hk0 hk hx
  injection e with e1 e2 e3
  injection e1 with e1
  injection e1 with e4 e5
  subst e4 e5
  rw [Nat.zero_add] at hr
  exact ⟨_, cap, rfl, hr, hl⟩
theorem Yg {L : List α} (hk : ∀ x ∈ L, (f x).length = k) (i : Nat) (y : α) (hy : (f y).length = k) (hi : i < L.length) : qQ (L.flatMap f) (i * k) (f y) = (L.set i y).flatMap f := by
 have e1 : L = L.take i ++ L[i] :: L.drop (i + 1) := by simp
 have hl : (List.flatMap f (L.take i)).length = i * k := by rw [xL f k _ (fun x hx => hk x (List.mem_of_mem_take hx)), List.length_take, Nat.min_eq_left (by omega)]
 have h := qS (f y) ((L.take i).flatMap f) (f L[i]) ((L.drop (i + 1)).flatMap f) (by rw [hk _ (List.getElem_mem hi), hy])
 rw [hl] at h
 have e2 : L.flatMap f = (L.take i).flatMap f ++ f L[i] ++ (L.drop (i + 1)).flatMap f := by
  have e := congrArg (List.flatMap f) e1
  rw [List.flatMap_append, List.flatMap_cons] at e
  rw [e, List.append_assoc]
 have e3 : L.set i y = L.take i ++ y :: L.drop (i + 1) := by rw [List.set_eq_take_append_cons_drop, if_pos hi]
 rw [e2, h, e3]
 simp [List.flatMap_append, List.flatMap_cons]
theorem Yi : ∀ (cs xs : List Value) (o n : Nat), o + cs.length ≤ n → n ≤ xs.length → (qQ xs o cs).take n = qQ (xs.take n) o cs
 | [], xs, o, n, h1, h2 => rfl
 | v :: r, xs, o, n, h1, h2 => by
  simp only [qQ]
  rw [Yi r _ _ _ (by simp at h1; omega) (by simpa using h2), List.take_set]
theorem ZS : ∀ (cs xs : List Value) (o : Nat), (qQ xs o cs).length = xs.length
 | [], xs, o => rfl
 | v :: r, xs, o => by simp only [qQ]; rw [ZS r]; simp
theorem zh0 {w : World} {B : Nat} {T : TypeId} {g cap : Nat} {L : List α} (hk : ∀ x ∈ L, (f x).length = k) (h : w.ownsRow B T k (.slice (some ⟨g, 0, none⟩) L.length cap) L.length (L.flatMap f)) {i : Nat} (hi : i < L.length) (y : α) (hy : (f y).length = k) :
  (w.setCells g (i * k) (f y)).ownsRow B T k (.slice (some ⟨g, 0, none⟩) L.length cap) L.length ((L.set i y).flatMap f) := by
 have h1 := h.1
 rcases h.2 with ⟨e, _⟩ | ⟨g', cap', cur, e, hb, hg, hn, hm, hs, ht⟩
 ·cases e
 ·injection e with e1 e2 e3
  injection e1 with e1
  injection e1 with e4 e5
  subst e4 e3
  have hik : i * k + k ≤ L.length * k := by rw [← Nat.succ_mul]; exact Nat.mul_le_mul_right _ hi
  have hck : L.length * k ≤ cap * k := Nat.mul_le_mul_right _ hn
  refine ⟨by rw [xL f k _ (fun x hx => (List.mem_or_eq_of_mem_set hx).elim (hk x) (fun e => e ▸ hy))]; simp, .inr ⟨g, cap, (qQ cur.toList (i * k) (f y)).toArray, rfl, hb, y7 g T (f y) (i * k) w cur hg, hn, hm, ?_, ?_⟩⟩
  ·rw [List.size_toArray, ZS, Array.length_toList, hs]
  ·rw [Yi _ _ _ _ (by rw [hy]; exact hik) (by have := Array.length_toList (xs := cur); omega), ht, Yg hk i y hy hi]
theorem J7 {w : World} {B : Nat} {T : TypeId} {g cap n : Nat} {xs : List Value} (h : w.ownsRow B T k (.slice (some ⟨g, 0, none⟩) n cap) n xs) {i : Nat} (hi : i < n) : w.there g (i * k) k := fun j hj => by
 have hik : i * k + k ≤ n * k := by rw [← Nat.succ_mul]; exact Nat.mul_le_mul_right _ hi
 refine ⟨?_, h.frozenAt _⟩
 rw [h.cellAt (i * k + j) (by omega), List.getElem?_eq_getElem (by rw [h.1]; omega)]
 rfl
end
section
variable {P : Program} {S : World → Prop} {a : Act} {dst : Option Tmp} {ty ty2 : TypeId} {pos : String} {after : Array Edge} {gd : Option (Nat × Bool)} {x y : Operand}
theorem zD {t0 : TypeId} {b o : Nat} {cs : List Value} {d : TypeDesc} (hx : a.eval x = .pointer (some ⟨b, o, none⟩)) (hS : ∀ w, S w → w.rangeAt b o cs) (hu : P.underlying ty = some d) (hd : d.isRow = true) (hi : (P.info? ty).map (·.size) = some cs.length) :
  ∀ w, S w → (execOp a.eval { dst := dst, op := .load ty x, type := t0, pos := pos, after := after, guard := gd }).run P w = .ok (.value (.agg cs.toArray)) w := fun w hw => by
 unfold execOp
 simp only [hx, Instr.loadAt, Instr.sureAddr, Sem.run_bind, Sem.run_pure, Result.andThen_ok, run_loadVar_mid w b o ty cs d (hS w hw) hu hd hi]
end
end Go

/- Maps by keys and values of one's own; operations by their runs. -/
namespace Go
open Go.RowKit Go.Maps Go.MapKept
def Upd {κ ι : Type} (M : List (κ × ι)) (k : κ) (v : ι) (M' : List (κ × ι)) : Prop := ∀ k' v', (k', v') ∈ M' ↔ (k' = k ∧ v' = v) ∨ (k' ≠ k ∧ (k', v') ∈ M)
def Del {κ ι : Type} (M : List (κ × ι)) (k : κ) (M' : List (κ × ι)) : Prop := ∀ k' v', (k', v') ∈ M' ↔ k' ≠ k ∧ (k', v') ∈ M
section
variable {P : Program} {kt et t : TypeId} {w : World} {b : Nat} {κ ι : Type} {kV : κ → Value} {vV : ι → Value}
def yl (P : Program) (kt : TypeId) (kV : κ → Value) (vV : ι → Value) (w : World) (b : Nat) (M : List (κ × ι)) : Prop := yP P kt w b (M.map fun x => (kV x.1, vV x.2))
variable {M : List (κ × ι)}
theorem yl.lt (h : yl P kt kV vV w b M) : b < w.heap.size := yP.lt h
theorem yl.keep {w' : World} {W : Nat → Prop} (h : yl P kt kV vV w b M) (f : Fr W w w') (hn : ¬ W b) : yl P kt kV vV w' b M := yP.keep h f hn
theorem yl.nodup (h : yl P kt kV vV w b M) : (M.map (·.1)).Nodup := by
 have := yP.nodup h
 rw [List.map_map] at this
 exact (List.pairwise_map.2 ((List.pairwise_map.1 this).imp fun hne e => hne (by simp only [Function.comp]; rw [e])))
theorem yl.uniq (h : yl P kt kV vV w b M) {k : κ} {v v' : ι} (h1 : (k, v) ∈ M) (h2 : (k, v') ∈ M) : v = v' := by
 have hnd := h.nodup
 obtain ⟨i, hi⟩ := List.mem_iff_getElem?.1 h1
 obtain ⟨j, hj⟩ := List.mem_iff_getElem?.1 h2
 have e1 : (M.map (·.1))[i]? = some k := by rw [List.getElem?_map, hi]; rfl
 have e2 : (M.map (·.1))[j]? = some k := by rw [List.getElem?_map, hj]; rfl
 have := (List.getElem?_inj (List.getElem?_eq_some_iff.1 e1).1 hnd).1 (e1.trans e2.symm)
 subst this
 rw [hi] at hj
 exact congrArg Prod.snd (Option.some.inj hj)
theorem yl.made (w : World) : yl P kt kV vV (w.alloc (.map #[] 0)) w.heap.size ([] : List (κ × ι)) := yP.made w
theorem yl.upd (h : yl P kt kV vV w b M) (K : Keyed P kt) (ht : P.underlying t = some (.map kt et)) (inj : ∀ a b, kV a = kV b → a = b) {k : κ} (hk : ∃ l, keyOf P kt (kV k) = some l) (room : M.length < maxLen) (v : ι) :
  ∃ w' M', (Instr.mapUpdate t (.map (some b)) (kV k) (vV v)).run P w = .ok () w' ∧ yl P kt kV vV w' b M' ∧ Upd M k v M' ∧ ji b w w' ∧ M'.length ≤ M.length + 1 := by
 by_cases hin : ∃ v0, (k, v0) ∈ M
 ·obtain ⟨v0, hm⟩ := hin
  obtain ⟨M1, M2, rfl⟩ := List.append_of_mem hm
  have hu := fun v' (h' : (k, v') ∈ M1 ++ (k, v0) :: M2) => h.uniq h' hm
  have hnd := h.nodup
  unfold yl at h
  rw [List.map_append, List.map_cons] at h
  obtain ⟨w', r, hM, hT⟩ := yP.update_hit K ht h hk (vV v)
  refine ⟨w', M1 ++ (k, v) :: M2, r, by unfold yl; rw [List.map_append, List.map_cons]; exact hM, fun k' v' => ?_, hT, by simp⟩
  rw [List.map_append, List.map_cons] at hnd
  obtain ⟨n1, n2, n3⟩ := List.nodup_append.1 hnd
  obtain ⟨n4, n5⟩ := List.nodup_cons.1 n2
  have hn1 : ∀ x, (k, x) ∉ M1 := fun x hx => n3 k (List.mem_map.2 ⟨_, hx, rfl⟩) k (by simp) rfl
  have hn2 : ∀ x, (k, x) ∉ M2 := fun x hx => n4 (List.mem_map.2 ⟨_, hx, rfl⟩)
  simp only [List.mem_append, List.mem_cons, Prod.mk.injEq]
  constructor
  ·rintro (h1 | h1 | h1)
   ·exact .inr ⟨fun e => hn1 _ (e ▸ h1), .inl h1⟩
   ·exact .inl h1
   ·exact .inr ⟨fun e => hn2 _ (e ▸ h1), .inr (.inr h1)⟩
  ·rintro (h1 | ⟨h1, h2 | h2 | h2⟩)
   ·exact .inr (.inl h1)
   ·exact .inl h2
   ·exact absurd h2.1 h1
   ·exact .inr (.inr h2)
 ·have hno : ∀ p ∈ M.map fun x => (kV x.1, vV x.2), p.1 ≠ kV k := by
   intro p hp
   obtain ⟨x, hx, rfl⟩ := List.mem_map.1 hp
   exact fun e => hin ⟨x.2, by rw [← inj _ _ e]; exact hx⟩
  obtain ⟨w', r, hM, hT⟩ := yP.update_miss K ht h hk hno (by simpa using room) (vV v)
  refine ⟨w', M ++ [(k, v)], r, by unfold yl; rw [List.map_append]; exact hM, fun k' v' => ?_, hT, by simp⟩
  simp only [List.mem_append, List.mem_singleton, Prod.mk.injEq]
  constructor
  ·rintro (h1 | h1)
   ·exact .inr ⟨fun e => hin ⟨v', e ▸ h1⟩, h1⟩
   ·exact .inl h1
  ·rintro (h1 | ⟨_, h2⟩)
   ·exact .inr h1
   ·exact .inl h2
theorem yl.look (h : yl P kt kV vV w b M) (K : Keyed P kt) (ht : P.underlying t = some (.map kt et)) (inj : ∀ a b, kV a = kV b → a = b) {z : Value} (hz : ∀ w, (zeroValue et).run P w = .ok z w) {k : κ} (hk : ∃ l, keyOf P kt (kV k) = some l) (c : Bool) {r : Option ι} (hr : ∀ v, r = some v ↔ (k, v) ∈ M) :
  (Instr.lookup t (.map (some b)) (kV k) c).run P w = .ok (if c then .tuple #[(r.map vV).getD z, .bool r.isSome] else (r.map vV).getD z) w := by
 have hf : zet (M.map fun x => (kV x.1, vV x.2)) (kV k) (r.map vV) := by
  cases r with
  | none =>
   refine .miss fun p hp e => ?_
   obtain ⟨x, hx, rfl⟩ := List.mem_map.1 hp
   have := (hr x.2).2 (by rw [← inj _ _ e]; exact hx)
   cases this
  | some v => exact .hit (List.mem_map.2 ⟨(k, v), (hr v).1 rfl, rfl⟩)
 have := yP.lookup K ht hz h hk c hf
 simpa using this
theorem yl.del (h : yl P kt kV vV w b M) (K : Keyed P kt) (ht : P.underlying t = some (.map kt et)) (inj : ∀ a b, kV a = kV b → a = b) {k : κ} (hk : ∃ l, keyOf P kt (kV k) = some l) (ty x : TypeId) :
  ∃ w' M', (Builtin.delete_ #[t, x] ty #[.map (some b), kV k]).run P w = .ok (.tuple #[]) w' ∧ yl P kt kV vV w' b M' ∧ Del M k M' ∧ ji b w w' ∧ M'.length ≤ M.length := by
 by_cases hin : ∃ v0, (k, v0) ∈ M
 ·obtain ⟨v0, hm⟩ := hin
  obtain ⟨M1, M2, rfl⟩ := List.append_of_mem hm
  have hnd := h.nodup
  unfold yl at h
  rw [List.map_append, List.map_cons] at h
  obtain ⟨w', r, hM, hT⟩ := yP.delete_hit K ht h hk ty x
  refine ⟨w', M1 ++ M2, r, by unfold yl; rw [List.map_append]; exact hM, fun k' v' => ?_, hT, by simp⟩
  rw [List.map_append, List.map_cons] at hnd
  obtain ⟨n1, n2, n3⟩ := List.nodup_append.1 hnd
  obtain ⟨n4, n5⟩ := List.nodup_cons.1 n2
  have hn1 : ∀ x, (k, x) ∉ M1 := fun x hx => n3 k (List.mem_map.2 ⟨_, hx, rfl⟩) k (by simp) rfl
  have hn2 : ∀ x, (k, x) ∉ M2 := fun x hx => n4 (List.mem_map.2 ⟨_, hx, rfl⟩)
  simp only [List.mem_append, List.mem_cons, Prod.mk.injEq]
  constructor
  ·rintro (h1 | h1)
   ·exact ⟨fun e => hn1 _ (e ▸ h1), .inl h1⟩
   ·exact ⟨fun e => hn2 _ (e ▸ h1), .inr (.inr h1)⟩
  ·rintro ⟨h1, h2 | h2 | h2⟩
   ·exact .inl h2
   ·exact absurd h2.1 h1
   ·exact .inr h2
 ·have hno : ∀ p ∈ M.map fun x => (kV x.1, vV x.2), p.1 ≠ kV k := by
   intro p hp
   obtain ⟨x, hx, rfl⟩ := List.mem_map.1 hp
   exact fun e => hin ⟨x.2, by rw [← inj _ _ e]; exact hx⟩
  obtain ⟨w', r, hM, hT⟩ := yP.delete_miss K ht h hk hno ty x
  exact ⟨w', M, r, hM, fun k' v' => ⟨fun h1 => ⟨fun e => hin ⟨v', e ▸ h1⟩, h1⟩, fun h1 => h1.2⟩, hT, Nat.le_refl _⟩
theorem yl.lenRun (h : yl P kt kV vV w b M) (ht : P.underlying t = some (.map kt et)) (ty : TypeId) : (Builtin.len_ #[t] ty #[.map (some b)]).run P w = .ok (.int .i64 (M.length : Int)) w := by
 have := yP.lenRun ht h ty
 simpa using this
end
section
variable {P : Program} {o : Oper} {a : Act} {w w' : World} {K : Act → World → Prop} {Q : Exit → Act → World → Prop} {ops : Array Oper} {rest : List Oper} {v : Value}
theorem xb (he : (execOp a.eval o).run P w = .ok .skip w') (h : K (a.put o.dst undef) w') : o.wp P a w K Q := by
 unfold Oper.wp
 rw [he]
 exact h
theorem yB (he : (execOp a.eval o).run P w = .ok (.value v) w') (h : K (a.put o.dst v) w') : o.wp P a w K Q := by
 unfold Oper.wp
 rw [he]
 exact h
theorem zq (hg : o.guard = none) (he : (execOp a.eval o).run P w = .ok .skip w') (h : wpList P ops Q rest (a.put o.dst undef) w') : wpList P ops Q (o :: rest) a w :=
 wpList_plain hg fun _ hK => xb he (hK _ _ h)
theorem zd (hg : o.guard = none) (he : (execOp a.eval o).run P w = .ok (.value v) w') (h : wpList P ops Q rest (a.put o.dst v) w') : wpList P ops Q (o :: rest) a w :=
 wpList_plain hg fun _ hK => yB he (hK _ _ h)
variable {ev : Operand → Value} {t ty : TypeId} {m k x : Operand} {mv kv' xv : Value}
theorem y5 (ho : o.op = .mapUpdate t m k x) (hm : ev m = mv) (hk : ev k = kv') (hx : ev x = xv) (hr : (Instr.mapUpdate t mv kv' xv).run P w = .ok () w') : (execOp ev o).run P w = .ok .skip w' := by
 simp only [execOp, ho, hm, hk, hx, Sem.run_bind, hr, Result.andThen_ok, Sem.run_pure]
theorem zN {c : Bool} (ho : o.op = .lookup t m k c) (hm : ev m = mv) (hk : ev k = kv') (hr : (Instr.lookup t mv kv' c).run P w = .ok v w') : (execOp ev o).run P w = .ok (.value v) w' := by
 simp only [execOp, ho, hm, hk, Sem.run_bind, hr, Result.andThen_ok, Sem.run_pure]
theorem jU {ts : Array TypeId} (ho : o.op = .call { callee := .builtin .delete, args := #[m, k], argTypes := ts }) (hm : ev m = mv) (hk : ev k = kv') (hr : (Builtin.delete_ ts o.type #[mv, kv']).run P w = .ok v w') : (execOp ev o).run P w = .ok (.value v) w' := by
 simp [execOp, ho, resolve, hm, hk, invoke, builtin, hr, Result.andThen]
theorem jq {ts : Array TypeId} (ho : o.op = .call { callee := .builtin .len, args := #[m], argTypes := ts }) (hm : ev m = mv) (hr : (Builtin.len_ ts o.type #[mv]).run P w = .ok v w') : (execOp ev o).run P w = .ok (.value v) w' := by
 simp [execOp, ho, resolve, hm, invoke, builtin, hr, Result.andThen]
theorem z6 {b off : Nat} {cs : List Value} (ho : o.op = .store ty m k) (hm : ev m = .pointer (some ⟨b, off, none⟩)) (hk : ev k = .agg cs.toArray) (ht : w.there b off cs.length) (hi : (P.info? ty).map (·.size) = some cs.length) (h1 : ∀ v ∈ cs, v.oneCell' = true) : (execOp ev o).run P w = .ok .skip (w.setCells b off cs) := by
 have h := run_storeAt_mid (P := P) w b off ty cs.toArray (by simpa using ht) (by simpa using hi) (all_oneCell_toArray h1)
 simp only at h
 simp only [execOp, ho, hm, hk, Sem.run_bind, h, Result.andThen_ok, Sem.run_pure]
theorem zm {Z : Array Value} {T : TypeId} {cs : List Value} (ho : o.op = .store ty m k) (hm : ev m = .pointer (some ⟨w.heap.size, 0, none⟩)) (hk : ev k = .agg cs.toArray) (hz : Z.size = cs.length) (hi : (P.info? ty).map (·.size) = some cs.length) (h1 : ∀ v ∈ cs, v.oneCell' = true) : (execOp ev o).run P (w.alloc (.cells Z T)) = .ok .skip (w.alloc (.cells cs.toArray T)) := by
 have ht : (w.alloc (.cells Z T)).there w.heap.size 0 cs.length := fun j hj => by
  have hb := yn w (.cells Z T)
  simp only [World.cell?, World.frozen?, hb, Nat.zero_add]
  rw [Array.getElem?_eq_getElem (by omega)]
  simp
 have h := z6 (P := P) (w := w.alloc (.cells Z T)) ho hm hk ht hi h1
 have e := zbz w Z.toList cs T (by simpa using hz)
 simp only [Array.toArray_toList] at e
 rw [h, e]
theorem zf {b off : Nat} {cs : List Value} {d : TypeDesc} (ho : o.op = .load ty m) (hm : ev m = .pointer (some ⟨b, off, none⟩)) (hc : w.rangeAt b off cs) (hu : P.underlying ty = some d) (hd : d.isRow = true) (hi : (P.info? ty).map (·.size) = some cs.length) : (execOp ev o).run P w = .ok (.value (.agg cs.toArray)) w := by
 simp only [execOp, ho, hm, Sem.run_bind, run_loadAt_mid w b off ty cs d hc hu hd hi, Result.andThen_ok, Sem.run_pure]
end
end Go

/- Values that are built out of parts of many cells. -/
namespace Go
open Go.RowKit
theorem pA {α : Type _} {xs : List α} {i : Nat} {a : α} : xs.toArray.setIfInBounds i a = (xs.set i a).toArray := List.setIfInBounds_toArray ..
theorem pB {α : Type _} {x : α} {xs : List α} {a : α} : (x :: xs).set 0 a = a :: xs := List.set_cons_zero
theorem pC {α : Type _} {x : α} {xs : List α} {n : Nat} {a : α} : (x :: xs).set (n + 1) a = x :: xs.set n a := List.set_cons_succ
end Go
namespace Go
open Go.RowKit
theorem Hd {p : Prop} (h : p) : Hid p := h
theorem tru : Hid True := True.intro
end Go
namespace Go
open Go.RowKit Go.Maps Go.MapKept
theorem zaT : ∀ (cs : List Value) (k off : Nat) (xs : Array Value), (cs.zipIdx k).foldl (fun (ys : Array Value) (c : Value × Nat) => ys.setIfInBounds (off + c.2) c.1) xs = (qQ xs.toList (off + k) cs).toArray
 | [], k, off, xs => by simp [qQ]
 | c :: cs, k, off, xs => by
  rw [List.zipIdx_cons, List.foldl_cons, zaT cs (k + 1) off]
  simp [qQ, Nat.add_assoc]
def jY (pl : Nat → Option (Nat × Nat)) : Nat → List (Nat × Value) → Prop
 | _, [] => True
 | off, (i, v) :: r => pl i = some (off, v.cells.size) ∧ jY pl (off + v.cells.size) r
def xp (vs : List (Nat × Value)) : List Value := vs.flatMap fun x => x.2.cells.toList
theorem Y9 (pl : Nat → Option (Nat × Nat)) : ∀ (vs : List (Nat × Value)) (A Z : List Value), jY pl A.length vs → (xp vs).length ≤ Z.length → Instr.fill pl (A ++ Z).toArray vs = some (A ++ xp vs ++ Z.drop (xp vs).length).toArray
 | [], A, Z, _, _ => by simp [Instr.fill, xp]
 | (i, v) :: r, A, Z, h, hl => by
  obtain ⟨h1, h2⟩ := h
  have hp : xp ((i, v) :: r) = v.cells.toList ++ xp r := by simp [xp]
  rw [hp, List.length_append, Array.length_toList] at hl
  unfold Instr.fill
  rw [h1]
  have hc : ¬ (v.cells.size ≠ v.cells.size ∨ A.length + v.cells.size > (A ++ Z).toArray.size) := by
   simp only [List.size_toArray, List.length_append]
   omega
  simp only [Bool.or_eq_true, decide_eq_true_eq]
  rw [if_neg (by simpa using hc)]
  have hz : Z = Z.take v.cells.size ++ Z.drop v.cells.size := (List.take_append_drop _ _).symm
  have hs := qS v.cells.toList A (Z.take v.cells.size) (Z.drop v.cells.size) (by have := Array.length_toList (xs := v.cells); rw [List.length_take]; omega)
  have hf : (v.cells.zipIdx.foldl (fun (cs : Array Value) (x : Value × Nat) => cs.setIfInBounds (A.length + x.2) x.1) (A ++ Z).toArray) = (A ++ v.cells.toList ++ Z.drop v.cells.size).toArray := by
   rw [← Array.foldl_toList, Array.toList_zipIdx, zaT, Nat.add_zero, List.toList_toArray]
   conv => lhs; rw [hz]
   rw [← List.append_assoc, hs]
  have ih := Y9 pl r (A ++ v.cells.toList) (Z.drop v.cells.size) (by rw [List.length_append, Array.length_toList]; exact h2) (by rw [List.length_drop]; omega)
  refine Eq.trans (congrArg (fun c => Instr.fill pl c r) hf) ?_
  rw [ih, hp, List.drop_drop, List.length_append, Array.length_toList]
  simp [List.append_assoc]
def xu (P : Program) (t : TypeId) : Option (Nat × List (Nat × Nat)) :=
 match P.info? t, P.underlying t with
 | some it, some (.struct fields) =>
  match it.zero, fields.toList.mapM (fun f => (P.info? f.type).map fun i => (f.offset, i.size)) with
  | some z, some places => some (z.cells.size, places)
  | _, _ => none
 | _, _ => none
section
variable {P : Program} {t e ty : TypeId} {w : World} {o : Oper} {ev : Operand → Value}
theorem zf9 {n : Nat} {pl : List (Nat × Nat)} {vs : List (Nat × Value)} (h : xu P t = some (n, pl)) (hf : jY (pl.toArray[·]?) 0 vs) (hn : (xp vs).length = n) : P.built t vs = some (xp vs).toArray := by
 unfold xu at h
 unfold Program.built
 cases hi : P.info? t with
 | none => simp [hi] at h
 | some it =>
  cases hu : P.underlying t with
  | none => simp [hi, hu] at h
  | some d =>
   cases d <;> try (simp [hi, hu] at h; done)
   rename_i fs
   cases hz : it.zero with
   | none => simp [hi, hu, hz] at h
   | some z =>
    cases hp : fs.toList.mapM (fun f => (P.info? f.type).map fun i => (f.offset, i.size)) with
    | none => simp [hi, hu, hz, hp] at h
    | some places =>
     simp [hi, hu, hz, hp] at h
     obtain ⟨rfl, rfl⟩ := h
     simp only [hz, hp]
     have := Y9 (places.toArray[·]?) vs [] z.cells.toList hf (by rw [hn, Array.length_toList]; exact Nat.le_refl _)
     simp only [List.nil_append, Array.toArray_toList] at this
     rw [this, hn]
     have e1 : List.drop z.cells.size z.cells.toList = [] := List.drop_eq_nil_of_le (by rw [Array.length_toList]; exact Nat.le_refl _)
     rw [e1, List.append_nil]
theorem y4 {parts : Array (Nat × Operand)} {n : Nat} {pl : List (Nat × Nat)} {vs : List (Nat × Value)} {cs : List Value} (ho : o.op = .build t parts) (hv : (parts.toList.map fun (i, x) => (i, ev x)) = vs) (h : xu P t = some (n, pl)) (hf : jY (pl.toArray[·]?) 0 vs) (hc : xp vs = cs) (hn : cs.length = n) :
  (execOp ev o).run P w = .ok (.value (.agg cs.toArray)) w := by
 subst hc
 have := run_build w t (parts.map fun (i, x) => (i, ev x)) _ (by rw [Array.toList_map, hv]; exact zf9 h hf hn)
 simp only [execOp, ho, Sem.run_bind, this, Result.andThen_ok, Sem.run_pure]
theorem Zd {x : Operand} {v z : Value} {k : Nat} (ho : o.op = .buildSlice t 1 #[(0, x)]) (hv : ev x = v) (hu : P.underlying t = some (.slice e)) (hi : (P.info? e).map (fun i => (i.zero, i.size)) = some (some z, k)) (_ : z.cells.size = k) (hk : 0 < k) (hk2 : k ≤ 16777216) (hc : v.cells.size = k) :
  (execOp ev o).run P w = .ok (.value (.slice (some ⟨w.heap.size, 0, none⟩) 1 1)) (w.alloc (.cells v.cells e)) := by
 cases hie : P.info? e with
 | none => rw [hie] at hi; cases hi
 | some ie =>
  rw [hie] at hi
  simp only [Option.map_some, Option.some.injEq, Prod.mk.injEq] at hi
  obtain ⟨h1, h2⟩ := hi
  have hf : Instr.fill (fun i => some (i * ie.size, ie.size)) ((Array.range (1 * ie.size)).map (z.cells[· % z.cells.size]!)) [(0, v)] = some v.cells := by
   have hl : ((Array.range (1 * ie.size)).map (z.cells[· % z.cells.size]!)).toList.length = k := by simp [h2]
   have := Y9 (fun i => some (i * ie.size, ie.size)) [(0, v)] [] ((Array.range (1 * ie.size)).map (z.cells[· % z.cells.size]!)).toList ⟨by simp [h2, hc], trivial⟩ (by simp [xp, h2, hc])
   simp only [List.nil_append, Array.toArray_toList] at this
   rw [this]
   have e1 : xp [(0, v)] = v.cells.toList := by simp [xp]
   rw [e1, List.drop_eq_nil_of_le (by rw [hl, Array.length_toList, hc]; exact Nat.le_refl _)]
   simp
  have hr := run_buildSlice (P := P) w t e 1 #[(0, v)] v.cells ie z hu hie h1 (by omega) (by omega) hf
  have hp : (#[(0, x)] : Array (Nat × Operand)).map (fun (i, x) => (i, ev x)) = #[(0, v)] := by simp [hv]
  simp only [execOp, ho, hp, Sem.run_bind, hr, Result.andThen_ok, Sem.run_pure]
theorem zZ {x : Operand} {cs : List Value} {z : Value} {k : Nat} (ho : o.op = .buildSlice t 1 #[(0, x)]) (hv : ev x = .agg cs.toArray) (hu : P.underlying t = some (.slice e)) (hi : (P.info? e).map (fun i => (i.zero, i.size)) = some (some z, k)) (hz : z.cells.size = k) (hk : 0 < k) (hk2 : k ≤ 16777216) (hc : cs.length = k) :
  (execOp ev o).run P w = .ok (.value (.slice (some ⟨w.heap.size, 0, none⟩) 1 1)) (w.alloc (.cells cs.toArray e)) := Zd (v := .agg cs.toArray) ho hv hu hi hz hk hk2 (by show cs.toArray.size = k; simpa using hc)
end
section
variable {P : Program} {kt et t : TypeId} {w : World} {b : Nat} {κ ι : Type} {kV : κ → Value} {vV : ι → Value} {M : List (κ × ι)}
theorem yl.hit (h : yl P kt kV vV w b M) (K : Keyed P kt) (ht : P.underlying t = some (.map kt et)) (inj : ∀ a b, kV a = kV b → a = b) {z : Value} (hz : ∀ w, (zeroValue et).run P w = .ok z w) {k : κ} (hk : ∃ l, keyOf P kt (kV k) = some l) {v : ι} (hv : (k, v) ∈ M) :
  (Instr.lookup t (.map (some b)) (kV k) true).run P w = .ok (.tuple #[vV v, .bool true]) w ∧ (Instr.lookup t (.map (some b)) (kV k) false).run P w = .ok (vV v) w := by
 have hr : ∀ v', some v = some v' ↔ (k, v') ∈ M := fun v' => ⟨fun e => by cases e; exact hv, fun e => by rw [h.uniq hv e]⟩
 have h1 := h.look K ht inj hz hk true hr
 have h2 := h.look K ht inj hz hk false hr
 simpa using ⟨h1, h2⟩
theorem yl.miss (h : yl P kt kV vV w b M) (K : Keyed P kt) (ht : P.underlying t = some (.map kt et)) (inj : ∀ a b, kV a = kV b → a = b) {z : Value} (hz : ∀ w, (zeroValue et).run P w = .ok z w) {k : κ} (hk : ∃ l, keyOf P kt (kV k) = some l) (hv : ∀ v, (k, v) ∉ M) :
  (Instr.lookup t (.map (some b)) (kV k) true).run P w = .ok (.tuple #[z, .bool false]) w ∧ (Instr.lookup t (.map (some b)) (kV k) false).run P w = .ok z w := by
 have hr : ∀ v', (none : Option ι) = some v' ↔ (k, v') ∈ M := fun v' => ⟨fun e => (by cases e), fun e => absurd e (hv v')⟩
 have h1 := h.look K ht inj hz hk true hr
 have h2 := h.look K ht inj hz hk false hr
 simpa using ⟨h1, h2⟩
end
end Go

/- Blocks of many cells: made, and given back as a result. -/
namespace Go
open Go.RowKit
section
variable {P : Program} {o : Oper} {w : World} {ev : Operand → Value} {ty : TypeId}
theorem yZ {z : Array Value} (ho : o.op = .alloc ty) (hz : (zeroValue ty).run P w = .ok (.agg z) w) : (execOp ev o).run P w = .ok (.value (.pointer (some ⟨w.heap.size, 0, none⟩))) (w.alloc (.cells z ty)) := by
 simp [execOp, ho, Instr.alloc, hz, Result.andThen, newVar, newRow, newObj, Value.cells, Sem.run]
theorem yg {b k : Nat} {c : Array Value} {T : TypeId} (hb : w.heap[b]? = some (.cells c T (0, 0))) (hk : k ≤ c.size) : w.there b 0 k := fun j hj => by
 simp only [World.cell?, World.frozen?, hb, Nat.zero_add]
 rw [Array.getElem?_eq_getElem (by omega)]
 simp
theorem yY {b : Nat} {c : Array Value} {cs : List Value} {T : TypeId} (hb : w.heap[b]? = some (.cells c T (0, 0))) (hk : c.size = cs.length) : (w.setCells b 0 cs).rangeAt b 0 cs := by
 have h := y7 b T cs 0 w c hb
 have e := qS cs [] c.toList [] (by simpa using hk)
 simp only [List.nil_append, List.append_nil, List.length_nil] at e
 rw [e] at h
 have := ya h
 simpa using this
theorem yA {t : TypeId} {v : Value} {parts : Array (Nat × Operand)} {vs : List (Nat × Value)} (ho : o.op = .build t parts) (hv : (parts.toList.map fun (i, x) => (i, ev x)) = vs) (hr : (Instr.build t vs.toArray).run P w = .ok v w) : (execOp ev o).run P w = .ok (.value v) w := by
 have e : (parts.map fun (i, x) => (i, ev x)) = vs.toArray := by rw [← hv, ← Array.toList_map, Array.toArray_toList]
 simp only [execOp, ho, e, Sem.run_bind, hr, Result.andThen_ok, Sem.run_pure]
theorem xN {w' : World} {v : Value} {a : Act} {ops : Array Oper} {rest : List Oper} {Q : Exit → Act → World → Prop} (hw : Region.wanted o (yielded ops a.tmps) = true) (he : (execOp a.eval o).run P w = .ok (.value v) w') (h : wpList P ops Q rest (a.put o.dst v) w') : wpList P ops Q (o :: rest) a w := by
 unfold wpList
 rw [if_pos hw]
 exact .inl (yB he h)
theorem yO {fn : Func} {p u : Tmp} (h : fn.results = #[.cell p ty, .tmp u]) (tmps : Array Value) {g : Nat} {cs : List Value} {d : TypeDesc} {x : Value} (hp : tmps.getD p undef = .pointer (some ⟨g, 0, none⟩)) (hr : w.rangeAt g 0 cs)
  (hu : P.underlying ty = some d) (hd : d.isRow = true) (hi : (P.info? ty).map (·.size) = some cs.length) (hx : tmps.getD u undef = x) :
  (results fn tmps).run P w = .ok (.tuple #[.agg cs.toArray, x]) w := by
 rw [results_cell_tmp h, hp, hx]
 simp only [asAddr, Sem.run_pure, Result.andThen_ok, run_loadVar_mid w g 0 ty cs d hr hu hd hi]
end
end Go
