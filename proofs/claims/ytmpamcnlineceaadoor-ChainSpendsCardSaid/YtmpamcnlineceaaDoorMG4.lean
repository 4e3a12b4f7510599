/- Values of many cells: ranges of cells, loads, stores, comparisons. -/
import Derived.Deep.MidRow
import Derived.Laws.StructEq
import Derived.DeepKeys
import Derived.Test.YtmpamcnlineceaaDoorMG2
import Derived.Test.YtmpamcnlineceaaDoorMG3
set_option linter.unusedVariables false
set_option linter.unusedSimpArgs false
namespace Go
open Go.RowKit Go.Maps Go.MapKept

theorem ownsRow_keep {w w' : World} {base : Nat} {e : TypeId} {size : Nat} {v : Value} {n : Nat} {xs : List Value} (h : w.ownsRow base e size v n xs) {W : Nat → Prop} (f : Fr W w w') (hb : ∀ b, v.ownBlock = some b → ¬ W b) : w'.ownsRow base e size v n xs := by
  refine ⟨h.1, ?_⟩
  rcases h.2 with hn | ⟨g, cap, cur, rfl, hbg, hg, rest⟩
  · exact .inl hn
  · exact .inr ⟨g, cap, cur, rfl, hbg, f.obj hg (hb g rfl), rest⟩
theorem ownsRow_zero {w : World} {B : Nat} {e : TypeId} {s : Nat} {v : Value} {n : Nat} {xs : List Value} (h : w.ownsRow B e s v n xs) : w.ownsRow 0 e s v n xs :=
  ⟨h.1, h.2.imp id fun ⟨g, c, cur, a1, _, a3⟩ => ⟨g, c, cur, a1, Nat.zero_le _, a3⟩⟩
theorem row_of {P : Program} {t : TypeId} (h : (P.underlying t).map (·.isRow) = some true) : ∃ d, P.underlying t = some d ∧ d.isRow = true := by
  cases e : P.underlying t with
  | none => rw [e] at h; cases h
  | some d => rw [e] at h; exact ⟨d, rfl, by simpa using h⟩
/-! ### ranges -/
theorem range_keep {w w' : World} {b o : Nat} {cs : List Value} (h : w.rangeAt b o cs) {W : Nat → Prop} (f : Fr W w w') (hb : ¬ W b) : w'.rangeAt b o cs := fun j v hj => f.cell (h j v hj) hb
theorem range_new (w : World) (cs : List Value) (T : TypeId) : (w.alloc (.cells cs.toArray T)).rangeAt w.heap.size 0 cs := fun j v hj => by
  have hb := new_obj w (.cells cs.toArray T)
  simp only [World.cell?, hb]
  simpa using hj
theorem range_obj {w : World} {b : Nat} {c : Array Value} {T : TypeId} {fr : Nat × Nat} (hb : w.heap[b]? = some (.cells c T fr)) : w.rangeAt b 0 c.toList := fun j v hj => by
  simp only [World.cell?, hb]
  simpa using hj
theorem flatR_at {α β : Type} (f : α → List β) (k : Nat) : ∀ (L : List α), (∀ x ∈ L, (f x).length = k) → ∀ (i : Nat) (x : α), L[i]? = some x → ∀ r, r < k → (L.flatMap f)[i * k + r]? = (f x)[r]?
  | [], _, i, x, h, _, _ => by simp at h
  | y :: L, hk, 0, x, h, r, hr => by
    simp at h
    subst h
    rw [List.flatMap_cons, Nat.zero_mul, Nat.zero_add, List.getElem?_append_left (by rw [hk y (by simp)]; exact hr)]
  | y :: L, hk, i + 1, x, h, r, hr => by
    rw [List.flatMap_cons, List.getElem?_append_right (by rw [hk y (by simp), Nat.succ_mul]; omega), hk y (by simp)]
    rw [show (i + 1) * k + r - k = i * k + r by rw [Nat.succ_mul]; omega]
    exact flatR_at f k L (fun x hx => hk x (by simp [hx])) i x (by simpa using h) r hr
theorem flatR_len {α β : Type} (f : α → List β) (k : Nat) : ∀ (L : List α), (∀ x ∈ L, (f x).length = k) → (L.flatMap f).length = L.length * k
  | [], _ => by simp
  | y :: L, hk => by rw [List.flatMap_cons, List.length_append, hk y (by simp), flatR_len f k L (fun x hx => hk x (by simp [hx])), List.length_cons, Nat.succ_mul]; omega

/-- A run of cells put into a list. -/
def setM (xs : List Value) : Nat → List Value → List Value
  | _, [] => xs
  | o, v :: r => setM (xs.set o v) (o + 1) r
theorem setM_mid : ∀ (cs A B C : List Value), B.length = cs.length → setM (A ++ B ++ C) A.length cs = A ++ cs ++ C
  | [], A, B, C, h => by
    have : B = [] := List.eq_nil_of_length_eq_zero h
    subst this
    rfl
  | v :: r, A, [], C, h => by simp at h
  | v :: r, A, b :: B, C, h => by
    unfold setM
    rw [List.append_assoc, List.set_append_right _ _ (Nat.le_refl _), Nat.sub_self, List.cons_append, List.set_cons_zero]
    have e : A ++ v :: (B ++ C) = (A ++ [v]) ++ B ++ C := by simp
    rw [e, show A.length + 1 = (A ++ [v]).length by simp, setM_mid r (A ++ [v]) B C (by simpa using h)]
    simp
theorem setCells_heap (g : Nat) (T : TypeId) : ∀ (cs : List Value) (o : Nat) (w : World) (cur : Array Value), w.heap[g]? = some (.cells cur T (0, 0)) → (w.setCells g o cs).heap[g]? = some (.cells (setM cur.toList o cs).toArray T (0, 0))
  | [], o, w, cur, h => by simpa [World.setCells, setM] using h
  | v :: r, o, w, cur, h => by
    have h2 := heap_setCell_same w g o _ _ v h
    have := setCells_heap g T r (o + 1) _ _ h2
    simp only [World.setCells, setM]
    rw [this]
    simp
theorem setCells_fr (g : Nat) : ∀ (cs : List Value) (o : Nat) (w : World), Fr (fun i => i = g) w (w.setCells g o cs)
  | [], _, _ => Fr.refl _ _
  | v :: r, o, w => (Fr.setCell (W := fun i => i = g) (Fr.refl _ w) ⟨g, o, none⟩ (.inr rfl) v).trans (setCells_fr g r (o + 1) _) (fun _ _ h => h)
theorem setCells_new (w : World) (z cs : List Value) (T : TypeId) (h : z.length = cs.length) : (w.alloc (.cells z.toArray T)).setCells w.heap.size 0 cs = w.alloc (.cells cs.toArray T) := by
  have hk : ∀ (cs : List Value) (o : Nat) (cur : Array Value), (w.alloc (.cells cur T)).setCells w.heap.size o cs = w.alloc (.cells (setM cur.toList o cs).toArray T) := by
    intro cs
    induction cs with
    | nil => intro o cur; simp [World.setCells, setM]
    | cons v r ih =>
      intro o cur
      have e : (w.alloc (.cells cur T)).setCell ⟨w.heap.size, o, none⟩ v = w.alloc (.cells (cur.setIfInBounds o v) T) := by
        exact World.setCell_alloc_at _ _ _ _ _ rfl
      simp only [World.setCells, setM, e]
      rw [ih]
      simp
  rw [hk]
  have := setM_mid cs [] z [] h
  simp at this
  simp [this]

section
variable {α : Type} {f : α → List Value} {k : Nat}
/-- An element of a slice that is read. -/
theorem SliceIs.elem {w : World} {v : Value} {n : Nat} {L : List α} (hk0 : 0 < k) (hk : ∀ x ∈ L, (f x).length = k) (h : SliceIs w v n (L.flatMap f)) {i : Nat} {x : α} (hx : L[i]? = some x) :
    ∃ b off cap, v = .slice (some ⟨b, off, none⟩) n cap ∧ w.rangeAt b (off + i * k) (f x) ∧ b < w.heap.size := by
  have hmem := List.mem_of_getElem? hx
  rcases h with ⟨_, _, e⟩ | ⟨b, off, cap, rfl, h1, h2, h3, h4⟩
  · have := flatR_at f k L hk i x hx 0 (by omega)
    rw [e] at this
    have hl := hk x hmem
    rw [List.getElem?_nil] at this
    have := List.getElem?_eq_none_iff.1 this.symm
    omega
  · refine ⟨b, off, cap, rfl, fun j u hj => ?_, h4⟩
    have hjl : j < k := by have := (List.getElem?_eq_some_iff.1 hj).1; rw [hk x hmem] at this; exact this
    rw [Nat.add_assoc]
    exact h3 _ _ (by rw [flatR_at f k L hk i x hx j hjl]; exact hj)
theorem ArgIs.elem {w : World} {v : Value} {n : Nat} {L : List α} (hk0 : 0 < k) (hk : ∀ x ∈ L, (f x).length = k) (h : ArgIs w v n (L.flatMap f)) {i : Nat} {x : α} (hx : L[i]? = some x) :
    ∃ b off cap, v = .slice (some ⟨b, off, none⟩) n cap ∧ w.rangeAt b (off + i * k) (f x) ∧ b < w.heap.size := by
  rcases h with h | ⟨a, cap, rfl, rfl, e, _⟩
  · exact h.elem hk0 hk hx
  · have hmem := List.mem_of_getElem? hx
    have := flatR_at f k L hk i x hx 0 (by omega)
    rw [e] at this
    have hl := hk x hmem
    rw [List.getElem?_nil] at this
    have := List.getElem?_eq_none_iff.1 this.symm
    omega
theorem own_elem {w : World} {B n : Nat} {T : TypeId} {v : Value} {L : List α} (hk0 : 0 < k) (hk : ∀ x ∈ L, (f x).length = k) (h : w.ownsRow B T k v n (L.flatMap f)) {i : Nat} {x : α} (hx : L[i]? = some x) :
    ∃ g cap, v = .slice (some ⟨g, 0, none⟩) n cap ∧ w.rangeAt g (i * k) (f x) ∧ g < w.heap.size := by
  rcases h.2 with ⟨rfl, hn⟩ | ⟨g, cap, cur, rfl, _⟩
  · have h1 := h.1
    rw [flatR_len f k L hk, hn] at h1
    have : i < L.length := (List.getElem?_eq_some_iff.1 hx).1
    have : L.length * k = 0 := by omega
    rcases Nat.mul_eq_zero.1 this with h | h <;> omega
  · obtain ⟨b, off, cap', e, hr, hl⟩ := h.slice.elem hk0 hk hx
    injection e with e1 e2 e3
    injection e1 with e1
    injection e1 with e4 e5
    subst e4 e5
    rw [Nat.zero_add] at hr
    exact ⟨_, cap, rfl, hr, hl⟩
theorem flat_set {L : List α} (hk : ∀ x ∈ L, (f x).length = k) (i : Nat) (y : α) (hy : (f y).length = k) (hi : i < L.length) : setM (L.flatMap f) (i * k) (f y) = (L.set i y).flatMap f := by
  have e1 : L = L.take i ++ L[i] :: L.drop (i + 1) := by simp
  have hl : (List.flatMap f (L.take i)).length = i * k := by rw [flatR_len f k _ (fun x hx => hk x (List.mem_of_mem_take hx)), List.length_take, Nat.min_eq_left (by omega)]
  have h := setM_mid (f y) ((L.take i).flatMap f) (f L[i]) ((L.drop (i + 1)).flatMap f) (by rw [hk _ (List.getElem_mem hi), hy])
  rw [hl] at h
  have e2 : L.flatMap f = (L.take i).flatMap f ++ f L[i] ++ (L.drop (i + 1)).flatMap f := by
    have e := congrArg (List.flatMap f) e1
    rw [List.flatMap_append, List.flatMap_cons] at e
    rw [e, List.append_assoc]
  have e3 : L.set i y = L.take i ++ y :: L.drop (i + 1) := by rw [List.set_eq_take_append_cons_drop, if_pos hi]
  rw [e2, h, e3]
  simp [List.flatMap_append, List.flatMap_cons]
theorem setM_take : ∀ (cs xs : List Value) (o n : Nat), o + cs.length ≤ n → n ≤ xs.length → (setM xs o cs).take n = setM (xs.take n) o cs
  | [], xs, o, n, h1, h2 => rfl
  | v :: r, xs, o, n, h1, h2 => by
    simp only [setM]
    rw [setM_take r _ _ _ (by simp at h1; omega) (by simpa using h2), List.take_set]
theorem setM_len : ∀ (cs xs : List Value) (o : Nat), (setM xs o cs).length = xs.length
  | [], xs, o => rfl
  | v :: r, xs, o => by simp only [setM]; rw [setM_len r]; simp
theorem own_set {w : World} {B : Nat} {T : TypeId} {g cap : Nat} {L : List α} (hk : ∀ x ∈ L, (f x).length = k) (h : w.ownsRow B T k (.slice (some ⟨g, 0, none⟩) L.length cap) L.length (L.flatMap f)) {i : Nat} (hi : i < L.length) (y : α) (hy : (f y).length = k) :
    (w.setCells g (i * k) (f y)).ownsRow B T k (.slice (some ⟨g, 0, none⟩) L.length cap) L.length ((L.set i y).flatMap f) := by
  have h1 := h.1
  rcases h.2 with ⟨e, _⟩ | ⟨g', cap', cur, e, hb, hg, hn, hm, hs, ht⟩
  · cases e
  · injection e with e1 e2 e3
    injection e1 with e1
    injection e1 with e4 e5
    subst e4 e3
    have hik : i * k + k ≤ L.length * k := by rw [← Nat.succ_mul]; exact Nat.mul_le_mul_right _ hi
    have hck : L.length * k ≤ cap * k := Nat.mul_le_mul_right _ hn
    refine ⟨by rw [flatR_len f k _ (fun x hx => (List.mem_or_eq_of_mem_set hx).elim (hk x) (fun e => e ▸ hy))]; simp, .inr ⟨g, cap, (setM cur.toList (i * k) (f y)).toArray, rfl, hb, setCells_heap g T (f y) (i * k) w cur hg, hn, hm, ?_, ?_⟩⟩
    · rw [List.size_toArray, setM_len, Array.length_toList, hs]
    · rw [setM_take _ _ _ _ (by rw [hy]; exact hik) (by have := Array.length_toList (xs := cur); omega), ht, flat_set hk i y hy hi]
theorem own_there {w : World} {B : Nat} {T : TypeId} {g cap n : Nat} {xs : List Value} (h : w.ownsRow B T k (.slice (some ⟨g, 0, none⟩) n cap) n xs) {i : Nat} (hi : i < n) : w.there g (i * k) k := fun j hj => by
  have hik : i * k + k ≤ n * k := by rw [← Nat.succ_mul]; exact Nat.mul_le_mul_right _ hi
  refine ⟨?_, h.frozenAt _⟩
  rw [h.cellAt (i * k + j) (by omega), List.getElem?_eq_getElem (by rw [h.1]; omega)]
  rfl
end

/-! ### in a region that draws its order -/
section
variable {P : Program} {S : World → Prop} {a : Act} {dst : Option Tmp} {ty ty2 : TypeId} {pos : String} {after : Array Edge} {gd : Option (Nat × Bool)} {x y : Operand}
theorem lex_load {t0 : TypeId} {b o : Nat} {cs : List Value} {d : TypeDesc} (hx : a.eval x = .pointer (some ⟨b, o, none⟩)) (hS : ∀ w, S w → w.rangeAt b o cs) (hu : P.underlying ty = some d) (hd : d.isRow = true) (hi : (P.info? ty).map (·.size) = some cs.length) :
    ∀ w, S w → (execOp a.eval { dst := dst, op := .load ty x, type := t0, pos := pos, after := after, guard := gd }).run P w = .ok (.value (.agg cs.toArray)) w := fun w hw => by
  unfold execOp
  simp only [hx, Instr.loadAt, Instr.sureAddr, Sem.run_bind, Sem.run_pure, Result.andThen_ok, run_loadVar_mid w b o ty cs d (hS w hw) hu hd hi]

/-- A type whose values are compared cell by cell. -/
structure EqTy (P : Program) (k : TypeId) : Prop where
  keyed : Keyed P k
  deep : P.keyTypeAt 3 k = true
  wide : (match P.underlying k with | some (.array _ _) | some (.struct _) => true | _ => false) = true
  guard : P.eqGuardType P.depth k = false
theorem EqTy.run {k : TypeId} (h : EqTy P k) (w : World) {u v : Array Value} (hu : ∃ l, keyOf P k (.agg u) = some l) (hv : ∃ l, keyOf P k (.agg v) = some l) (b : Bool) (hb : b = true ↔ u = v) :
    (Op.equal k (.agg u) (.agg v)).run P w = .ok b w := by
  obtain ⟨l1, h1⟩ := hu
  obtain ⟨l2, h2⟩ := hv
  obtain ⟨r, hr, hiff⟩ := run_equal_deep w (m := 3) (by omega) h.deep h.wide h1 h2
  have : r = b := by
    rw [Bool.eq_iff_iff, hiff, hb]
    constructor
    · intro e
      subst e
      have := h.keyed.inj h1 h2
      injection this
    · intro e
      subst e
      rw [h1] at h2
      exact Option.some.inj h2
  rw [hr, this]
theorem EqTy.eql {k : TypeId} (h : EqTy P k) (w : World) {u v : Array Value} (hu : ∃ l, keyOf P k (.agg u) = some l) (hv : ∃ l, keyOf P k (.agg v) = some l) (b : Bool) (hb : b = true ↔ u = v) :
    (binOp .eql k (.agg u) (.agg v)).run P w = .ok (.bool b) w := by
  have h1 := h.run w hu hv b hb
  rw [run_eql_struct]
  unfold Op.equal at h1
  rw [show Op.maxDepth = 10000 from rfl] at h1
  rw [h1]
  rfl
theorem EqTy.neq {k : TypeId} (h : EqTy P k) (w : World) {u v : Array Value} (hu : ∃ l, keyOf P k (.agg u) = some l) (hv : ∃ l, keyOf P k (.agg v) = some l) (b : Bool) (hb : b = true ↔ u = v) :
    (binOp .neq k (.agg u) (.agg v)).run P w = .ok (.bool (!b)) w := by
  have h1 := h.run w hu hv b hb
  rw [run_neq_struct]
  unfold Op.equal at h1
  rw [show Op.maxDepth = 10000 from rfl] at h1
  rw [h1]
  rfl
theorem EqTy.exec_eql {k : TypeId} (h : EqTy P k) {ev : Operand → Value} {o : Oper} (ho : o.op = .binOp .eql k x y ty2) {u v : Array Value} (hx : ev x = .agg u) (hy : ev y = .agg v) (hu : ∃ l, keyOf P k (.agg u) = some l) (hv : ∃ l, keyOf P k (.agg v) = some l) (b : Bool) (hb : b = true ↔ u = v) (w : World) :
    (execOp ev o).run P w = .ok (.value (.bool b)) w := by
  simp only [execOp, ho, hx, hy, Sem.run_bind, run_eqGuard_agg w .eql k x y u v h.guard, Result.andThen_ok, h.eql w hu hv b hb, Sem.run_pure]
theorem EqTy.exec_neq {k : TypeId} (h : EqTy P k) {ev : Operand → Value} {o : Oper} (ho : o.op = .binOp .neq k x y ty2) {u v : Array Value} (hx : ev x = .agg u) (hy : ev y = .agg v) (hu : ∃ l, keyOf P k (.agg u) = some l) (hv : ∃ l, keyOf P k (.agg v) = some l) (b : Bool) (hb : b = true ↔ u = v) (w : World) :
    (execOp ev o).run P w = .ok (.value (.bool (!b))) w := by
  simp only [execOp, ho, hx, hy, Sem.run_bind, run_eqGuard_agg w .neq k x y u v h.guard, Result.andThen_ok, h.neq w hu hv b hb, Sem.run_pure]
/-- One operation that only answers, at a plain list. -/
theorem wpList_ans {ops : Array Oper} {rest : List Oper} {o : Oper} {w : World} {Q : Exit → Act → World → Prop} {v : Value} (hg : o.guard = none) (he : (execOp a.eval o).run P w = .ok (.value v) w) (h : wpList P ops Q rest (a.put o.dst v) w) : wpList P ops Q (o :: rest) a w :=
  wpList_plain hg fun _ hK => by
    unfold Oper.wp
    rw [he]
    exact hK _ _ h
end
end Go

/- Maps by keys and values of one's own; operations by their runs. -/
namespace Go
open Go.RowKit Go.Maps Go.MapKept

/-- M' is M with v at k. -/
def Upd {κ ι : Type} (M : List (κ × ι)) (k : κ) (v : ι) (M' : List (κ × ι)) : Prop := ∀ k' v', (k', v') ∈ M' ↔ (k' = k ∧ v' = v) ∨ (k' ≠ k ∧ (k', v') ∈ M)
/-- M' is M without k. -/
def Del {κ ι : Type} (M : List (κ × ι)) (k : κ) (M' : List (κ × ι)) : Prop := ∀ k' v', (k', v') ∈ M' ↔ k' ≠ k ∧ (k', v') ∈ M

section
variable {P : Program} {kt et t : TypeId} {w : World} {b : Nat} {κ ι : Type} {kV : κ → Value} {vV : ι → Value}
/-- Block b is a map of these keys and values. -/
def MapIs (P : Program) (kt : TypeId) (kV : κ → Value) (vV : ι → Value) (w : World) (b : Nat) (M : List (κ × ι)) : Prop := MapAt P kt w b (M.map fun x => (kV x.1, vV x.2))
variable {M : List (κ × ι)}
theorem MapIs.lt (h : MapIs P kt kV vV w b M) : b < w.heap.size := MapAt.lt h
theorem MapIs.keep {w' : World} {W : Nat → Prop} (h : MapIs P kt kV vV w b M) (f : Fr W w w') (hn : ¬ W b) : MapIs P kt kV vV w' b M := MapAt.keep h f hn
theorem MapIs.nodup (h : MapIs P kt kV vV w b M) : (M.map (·.1)).Nodup := by
  have := MapAt.nodup h
  rw [List.map_map] at this
  exact (List.pairwise_map.2 ((List.pairwise_map.1 this).imp fun hne e => hne (by simp only [Function.comp]; rw [e])))
theorem MapIs.len (h : MapIs P kt kV vV w b M) : M.length ≤ maxLen := by have := MapAt.len h; simpa using this
theorem MapIs.uniq (h : MapIs P kt kV vV w b M) {k : κ} {v v' : ι} (h1 : (k, v) ∈ M) (h2 : (k, v') ∈ M) : v = v' := by
  have hnd := h.nodup
  obtain ⟨i, hi⟩ := List.mem_iff_getElem?.1 h1
  obtain ⟨j, hj⟩ := List.mem_iff_getElem?.1 h2
  have e1 : (M.map (·.1))[i]? = some k := by rw [List.getElem?_map, hi]; rfl
  have e2 : (M.map (·.1))[j]? = some k := by rw [List.getElem?_map, hj]; rfl
  have := (List.getElem?_inj (List.getElem?_eq_some_iff.1 e1).1 hnd).1 (e1.trans e2.symm)
  subst this
  rw [hi] at hj
  exact congrArg Prod.snd (Option.some.inj hj)
theorem MapIs.made (w : World) : MapIs P kt kV vV (w.alloc (.map #[] 0)) w.heap.size ([] : List (κ × ι)) := MapAt.made w

theorem MapIs.upd (h : MapIs P kt kV vV w b M) (K : Keyed P kt) (ht : P.underlying t = some (.map kt et)) (inj : ∀ a b, kV a = kV b → a = b) {k : κ} (hk : ∃ l, keyOf P kt (kV k) = some l) (room : M.length < maxLen) (v : ι) :
    ∃ w' M', (Instr.mapUpdate t (.map (some b)) (kV k) (vV v)).run P w = .ok () w' ∧ MapIs P kt kV vV w' b M' ∧ Upd M k v M' ∧ Turned b w w' ∧ M'.length ≤ M.length + 1 := by
  by_cases hin : ∃ v0, (k, v0) ∈ M
  · obtain ⟨v0, hm⟩ := hin
    obtain ⟨M1, M2, rfl⟩ := List.append_of_mem hm
    have hu := fun v' (h' : (k, v') ∈ M1 ++ (k, v0) :: M2) => h.uniq h' hm
    have hnd := h.nodup
    unfold MapIs at h
    rw [List.map_append, List.map_cons] at h
    obtain ⟨w', r, hM, hT⟩ := MapAt.update_hit K ht h hk (vV v)
    refine ⟨w', M1 ++ (k, v) :: M2, r, by unfold MapIs; rw [List.map_append, List.map_cons]; exact hM, fun k' v' => ?_, hT, by simp⟩
    rw [List.map_append, List.map_cons] at hnd
    obtain ⟨n1, n2, n3⟩ := List.nodup_append.1 hnd
    obtain ⟨n4, n5⟩ := List.nodup_cons.1 n2
    have hn1 : ∀ x, (k, x) ∉ M1 := fun x hx => n3 k (List.mem_map.2 ⟨_, hx, rfl⟩) k (by simp) rfl
    have hn2 : ∀ x, (k, x) ∉ M2 := fun x hx => n4 (List.mem_map.2 ⟨_, hx, rfl⟩)
    simp only [List.mem_append, List.mem_cons, Prod.mk.injEq]
    constructor
    · rintro (h1 | h1 | h1)
      · exact .inr ⟨fun e => hn1 _ (e ▸ h1), .inl h1⟩
      · exact .inl h1
      · exact .inr ⟨fun e => hn2 _ (e ▸ h1), .inr (.inr h1)⟩
    · rintro (h1 | ⟨h1, h2 | h2 | h2⟩)
      · exact .inr (.inl h1)
      · exact .inl h2
      · exact absurd h2.1 h1
      · exact .inr (.inr h2)
  · have hno : ∀ p ∈ M.map fun x => (kV x.1, vV x.2), p.1 ≠ kV k := by
      intro p hp
      obtain ⟨x, hx, rfl⟩ := List.mem_map.1 hp
      exact fun e => hin ⟨x.2, by rw [← inj _ _ e]; exact hx⟩
    obtain ⟨w', r, hM, hT⟩ := MapAt.update_miss K ht h hk hno (by simpa using room) (vV v)
    refine ⟨w', M ++ [(k, v)], r, by unfold MapIs; rw [List.map_append]; exact hM, fun k' v' => ?_, hT, by simp⟩
    simp only [List.mem_append, List.mem_singleton, Prod.mk.injEq]
    constructor
    · rintro (h1 | h1)
      · exact .inr ⟨fun e => hin ⟨v', e ▸ h1⟩, h1⟩
      · exact .inl h1
    · rintro (h1 | ⟨_, h2⟩)
      · exact .inr h1
      · exact .inl h2

theorem MapIs.look (h : MapIs P kt kV vV w b M) (K : Keyed P kt) (ht : P.underlying t = some (.map kt et)) (inj : ∀ a b, kV a = kV b → a = b) {z : Value} (hz : ∀ w, (zeroValue et).run P w = .ok z w) {k : κ} (hk : ∃ l, keyOf P kt (kV k) = some l) (c : Bool) {r : Option ι} (hr : ∀ v, r = some v ↔ (k, v) ∈ M) :
    (Instr.lookup t (.map (some b)) (kV k) c).run P w = .ok (if c then .tuple #[(r.map vV).getD z, .bool r.isSome] else (r.map vV).getD z) w := by
  have hf : Finds (M.map fun x => (kV x.1, vV x.2)) (kV k) (r.map vV) := by
    cases r with
    | none =>
      refine .miss fun p hp e => ?_
      obtain ⟨x, hx, rfl⟩ := List.mem_map.1 hp
      have := (hr x.2).2 (by rw [← inj _ _ e]; exact hx)
      cases this
    | some v => exact .hit (List.mem_map.2 ⟨(k, v), (hr v).1 rfl, rfl⟩)
  have := MapAt.lookup K ht hz h hk c hf
  simpa using this

theorem MapIs.del (h : MapIs P kt kV vV w b M) (K : Keyed P kt) (ht : P.underlying t = some (.map kt et)) (inj : ∀ a b, kV a = kV b → a = b) {k : κ} (hk : ∃ l, keyOf P kt (kV k) = some l) (ty x : TypeId) :
    ∃ w' M', (Builtin.delete_ #[t, x] ty #[.map (some b), kV k]).run P w = .ok (.tuple #[]) w' ∧ MapIs P kt kV vV w' b M' ∧ Del M k M' ∧ Turned b w w' ∧ M'.length ≤ M.length := by
  by_cases hin : ∃ v0, (k, v0) ∈ M
  · obtain ⟨v0, hm⟩ := hin
    obtain ⟨M1, M2, rfl⟩ := List.append_of_mem hm
    have hnd := h.nodup
    unfold MapIs at h
    rw [List.map_append, List.map_cons] at h
    obtain ⟨w', r, hM, hT⟩ := MapAt.delete_hit K ht h hk ty x
    refine ⟨w', M1 ++ M2, r, by unfold MapIs; rw [List.map_append]; exact hM, fun k' v' => ?_, hT, by simp⟩
    rw [List.map_append, List.map_cons] at hnd
    obtain ⟨n1, n2, n3⟩ := List.nodup_append.1 hnd
    obtain ⟨n4, n5⟩ := List.nodup_cons.1 n2
    have hn1 : ∀ x, (k, x) ∉ M1 := fun x hx => n3 k (List.mem_map.2 ⟨_, hx, rfl⟩) k (by simp) rfl
    have hn2 : ∀ x, (k, x) ∉ M2 := fun x hx => n4 (List.mem_map.2 ⟨_, hx, rfl⟩)
    simp only [List.mem_append, List.mem_cons, Prod.mk.injEq]
    constructor
    · rintro (h1 | h1)
      · exact ⟨fun e => hn1 _ (e ▸ h1), .inl h1⟩
      · exact ⟨fun e => hn2 _ (e ▸ h1), .inr (.inr h1)⟩
    · rintro ⟨h1, h2 | h2 | h2⟩
      · exact .inl h2
      · exact absurd h2.1 h1
      · exact .inr h2
  · have hno : ∀ p ∈ M.map fun x => (kV x.1, vV x.2), p.1 ≠ kV k := by
      intro p hp
      obtain ⟨x, hx, rfl⟩ := List.mem_map.1 hp
      exact fun e => hin ⟨x.2, by rw [← inj _ _ e]; exact hx⟩
    obtain ⟨w', r, hM, hT⟩ := MapAt.delete_miss K ht h hk hno ty x
    exact ⟨w', M, r, hM, fun k' v' => ⟨fun h1 => ⟨fun e => hin ⟨v', e ▸ h1⟩, h1⟩, fun h1 => h1.2⟩, hT, Nat.le_refl _⟩
theorem MapIs.lenRun (h : MapIs P kt kV vV w b M) (ht : P.underlying t = some (.map kt et)) (ty : TypeId) : (Builtin.len_ #[t] ty #[.map (some b)]).run P w = .ok (.int .i64 (M.length : Int)) w := by
  have := MapAt.lenRun ht h ty
  simpa using this
end

/-! ### operations by their runs -/
section
variable {P : Program} {o : Oper} {a : Act} {w w' : World} {K : Act → World → Prop} {Q : Exit → Act → World → Prop} {ops : Array Oper} {rest : List Oper} {v : Value}
theorem wp_done (he : (execOp a.eval o).run P w = .ok .skip w') (h : K (a.put o.dst undef) w') : o.wp P a w K Q := by
  unfold Oper.wp
  rw [he]
  exact h
theorem wp_value (he : (execOp a.eval o).run P w = .ok (.value v) w') (h : K (a.put o.dst v) w') : o.wp P a w K Q := by
  unfold Oper.wp
  rw [he]
  exact h
theorem wpList_done (hg : o.guard = none) (he : (execOp a.eval o).run P w = .ok .skip w') (h : wpList P ops Q rest (a.put o.dst undef) w') : wpList P ops Q (o :: rest) a w :=
  wpList_plain hg fun _ hK => wp_done he (hK _ _ h)
theorem wpList_value (hg : o.guard = none) (he : (execOp a.eval o).run P w = .ok (.value v) w') (h : wpList P ops Q rest (a.put o.dst v) w') : wpList P ops Q (o :: rest) a w :=
  wpList_plain hg fun _ hK => wp_value he (hK _ _ h)
variable {ev : Operand → Value} {t ty : TypeId} {m k x : Operand} {mv kv' xv : Value}
theorem exec_mapUpdate (ho : o.op = .mapUpdate t m k x) (hm : ev m = mv) (hk : ev k = kv') (hx : ev x = xv) (hr : (Instr.mapUpdate t mv kv' xv).run P w = .ok () w') : (execOp ev o).run P w = .ok .skip w' := by
  simp only [execOp, ho, hm, hk, hx, Sem.run_bind, hr, Result.andThen_ok, Sem.run_pure]
theorem exec_lookup {c : Bool} (ho : o.op = .lookup t m k c) (hm : ev m = mv) (hk : ev k = kv') (hr : (Instr.lookup t mv kv' c).run P w = .ok v w') : (execOp ev o).run P w = .ok (.value v) w' := by
  simp only [execOp, ho, hm, hk, Sem.run_bind, hr, Result.andThen_ok, Sem.run_pure]
theorem exec_delete {ts : Array TypeId} (ho : o.op = .call { callee := .builtin .delete, args := #[m, k], argTypes := ts }) (hm : ev m = mv) (hk : ev k = kv') (hr : (Builtin.delete_ ts o.type #[mv, kv']).run P w = .ok v w') : (execOp ev o).run P w = .ok (.value v) w' := by
  simp [execOp, ho, resolve, hm, hk, invoke, builtin, hr, Result.andThen]
theorem exec_len {ts : Array TypeId} (ho : o.op = .call { callee := .builtin .len, args := #[m], argTypes := ts }) (hm : ev m = mv) (hr : (Builtin.len_ ts o.type #[mv]).run P w = .ok v w') : (execOp ev o).run P w = .ok (.value v) w' := by
  simp [execOp, ho, resolve, hm, invoke, builtin, hr, Result.andThen]
theorem exec_store {b off : Nat} {cs : List Value} (ho : o.op = .store ty m k) (hm : ev m = .pointer (some ⟨b, off, none⟩)) (hk : ev k = .agg cs.toArray) (ht : w.there b off cs.length) (hi : (P.info? ty).map (·.size) = some cs.length) (h1 : ∀ v ∈ cs, v.oneCell' = true) : (execOp ev o).run P w = .ok .skip (w.setCells b off cs) := by
  have h := run_storeAt_mid (P := P) w b off ty cs.toArray (by simpa using ht) (by simpa using hi) (all_oneCell_toArray h1)
  simp only at h
  simp only [execOp, ho, hm, hk, Sem.run_bind, h, Result.andThen_ok, Sem.run_pure]
theorem exec_store_new {Z : Array Value} {T : TypeId} {cs : List Value} (ho : o.op = .store ty m k) (hm : ev m = .pointer (some ⟨w.heap.size, 0, none⟩)) (hk : ev k = .agg cs.toArray) (hz : Z.size = cs.length) (hi : (P.info? ty).map (·.size) = some cs.length) (h1 : ∀ v ∈ cs, v.oneCell' = true) : (execOp ev o).run P (w.alloc (.cells Z T)) = .ok .skip (w.alloc (.cells cs.toArray T)) := by
  have ht : (w.alloc (.cells Z T)).there w.heap.size 0 cs.length := fun j hj => by
    have hb := new_obj w (.cells Z T)
    simp only [World.cell?, World.frozen?, hb, Nat.zero_add]
    rw [Array.getElem?_eq_getElem (by omega)]
    simp
  have h := exec_store (P := P) (w := w.alloc (.cells Z T)) ho hm hk ht hi h1
  have e := setCells_new w Z.toList cs T (by simpa using hz)
  simp only [Array.toArray_toList] at e
  rw [h, e]
theorem exec_load {b off : Nat} {cs : List Value} {d : TypeDesc} (ho : o.op = .load ty m) (hm : ev m = .pointer (some ⟨b, off, none⟩)) (hc : w.rangeAt b off cs) (hu : P.underlying ty = some d) (hd : d.isRow = true) (hi : (P.info? ty).map (·.size) = some cs.length) : (execOp ev o).run P w = .ok (.value (.agg cs.toArray)) w := by
  simp only [execOp, ho, hm, Sem.run_bind, run_loadAt_mid w b off ty cs d hc hu hd hi, Result.andThen_ok, Sem.run_pure]
end
end Go
