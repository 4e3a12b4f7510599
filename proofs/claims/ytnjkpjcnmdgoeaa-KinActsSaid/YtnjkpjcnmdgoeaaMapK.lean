/- Maps by keys and values of one's own; operations by their runs. -/
import Derived.Test.YtnjkpjcnmdgoeaaAgg
namespace Go
open Go.RowKit Go.Maps Go.MapKept

/-- M' is M with v at k. -/
def Upd {κ ι : Type} (M : List (κ × ι)) (k : κ) (v : ι) (M' : List (κ × ι)) : Prop := ∀ k' v', (k', v') ∈ M' ↔ (k' = k ∧ v' = v) ∨ (k' ≠ k ∧ (k', v') ∈ M)
/-- M' is M without k. -/
def Del {κ ι : Type} (M : List (κ × ι)) (k : κ) (M' : List (κ × ι)) : Prop := ∀ k' v', (k', v') ∈ M' ↔ k' ≠ k ∧ (k', v') ∈ M

section
variable {P : Program} {kt et t : TypeId} {w : World} {b : Nat} {κ ι : Type} {kV : κ → Value} {vV : ι → Value}
/-- Block b is a map of these keys and values. -/
def MapIs (P : Program) (kt : TypeId) (kV : κ → Value) (vV : ι → Value) (w : World) (b : Nat) (M : List (κ × ι)) : Prop := MapAt P kt w b (M.map fun x => (kV x.1, vV x.2))
variable {M : List (κ × ι)}
theorem MapIs.lt (h : MapIs P kt kV vV w b M) : b < w.heap.size := MapAt.lt h
theorem MapIs.keep {w' : World} {W : Nat → Prop} (h : MapIs P kt kV vV w b M) (f : Fr W w w') (hn : ¬ W b) : MapIs P kt kV vV w' b M := MapAt.keep h f hn
theorem MapIs.nodup (h : MapIs P kt kV vV w b M) : (M.map (·.1)).Nodup := by
  have := MapAt.nodup h
  rw [List.map_map] at this
  exact (List.pairwise_map.2 ((List.pairwise_map.1 this).imp fun hne e => hne (by simp only [Function.comp]; rw [e])))
theorem MapIs.len (h : MapIs P kt kV vV w b M) : M.length ≤ maxLen := by have := MapAt.len h; simpa using this
theorem MapIs.uniq (h : MapIs P kt kV vV w b M) {k : κ} {v v' : ι} (h1 : (k, v) ∈ M) (h2 : (k, v') ∈ M) : v = v' := by
  have hnd := h.nodup
  obtain ⟨i, hi⟩ := List.mem_iff_getElem?.1 h1
  obtain ⟨j, hj⟩ := List.mem_iff_getElem?.1 h2
  have e1 : (M.map (·.1))[i]? = some k := by rw [List.getElem?_map, hi]; rfl
  have e2 : (M.map (·.1))[j]? = some k := by rw [List.getElem?_map, hj]; rfl
  have := (List.getElem?_inj (List.getElem?_eq_some_iff.1 e1).1 hnd).1 (e1.trans e2.symm)
  subst this
  rw [hi] at hj
  exact congrArg Prod.snd (Option.some.inj hj)
theorem MapIs.made (w : World) : MapIs P kt kV vV (w.alloc (.map #[] 0)) w.heap.size ([] : List (κ × ι)) := MapAt.made w

theorem MapIs.upd (h : MapIs P kt kV vV w b M) (K : Keyed P kt) (ht : P.underlying t = some (.map kt et)) (inj : ∀ a b, kV a = kV b → a = b) {k : κ} (hk : ∃ l, keyOf P kt (kV k) = some l) (room : M.length < maxLen) (v : ι) :
    ∃ w' M', (Instr.mapUpdate t (.map (some b)) (kV k) (vV v)).run P w = .ok () w' ∧ MapIs P kt kV vV w' b M' ∧ Upd M k v M' ∧ Turned b w w' ∧ M'.length ≤ M.length + 1 := by
  by_cases hin : ∃ v0, (k, v0) ∈ M
  · obtain ⟨v0, hm⟩ := hin
    obtain ⟨M1, M2, rfl⟩ := List.append_of_mem hm
    have hu := fun v' (h' : (k, v') ∈ M1 ++ (k, v0) :: M2) => h.uniq h' hm
    have hnd := h.nodup
    unfold MapIs at h
    rw [List.map_append, List.map_cons] at h
    obtain ⟨w', r, hM, hT⟩ := MapAt.update_hit K ht h hk (vV v)
    refine ⟨w', M1 ++ (k, v) :: M2, r, by unfold MapIs; rw [List.map_append, List.map_cons]; exact hM, fun k' v' => ?_, hT, by simp⟩
    rw [List.map_append, List.map_cons] at hnd
    obtain ⟨n1, n2, n3⟩ := List.nodup_append.1 hnd
    obtain ⟨n4, n5⟩ := List.nodup_cons.1 n2
    have hn1 : ∀ x, (k, x) ∉ M1 := fun x hx => n3 k (List.mem_map.2 ⟨_, hx, rfl⟩) k (by simp) rfl
    have hn2 : ∀ x, (k, x) ∉ M2 := fun x hx => n4 (List.mem_map.2 ⟨_, hx, rfl⟩)
    simp only [List.mem_append, List.mem_cons, Prod.mk.injEq]
    constructor
    · rintro (h1 | h1 | h1)
      · exact .inr ⟨fun e => hn1 _ (e ▸ h1), .inl h1⟩
      · exact .inl h1
      · exact .inr ⟨fun e => hn2 _ (e ▸ h1), .inr (.inr h1)⟩
    · rintro (h1 | ⟨h1, h2 | h2 | h2⟩)
      · exact .inr (.inl h1)
      · exact .inl h2
      · exact absurd h2.1 h1
      · exact .inr (.inr h2)
  · have hno : ∀ p ∈ M.map fun x => (kV x.1, vV x.2), p.1 ≠ kV k := by
      intro p hp
      obtain ⟨x, hx, rfl⟩ := List.mem_map.1 hp
      exact fun e => hin ⟨x.2, by rw [← inj _ _ e]; exact hx⟩
    obtain ⟨w', r, hM, hT⟩ := MapAt.update_miss K ht h hk hno (by simpa using room) (vV v)
    refine ⟨w', M ++ [(k, v)], r, by unfold MapIs; rw [List.map_append]; exact hM, fun k' v' => ?_, hT, by simp⟩
    simp only [List.mem_append, List.mem_singleton, Prod.mk.injEq]
    constructor
    · rintro (h1 | h1)
      · exact .inr ⟨fun e => hin ⟨v', e ▸ h1⟩, h1⟩
      · exact .inl h1
    · rintro (h1 | ⟨_, h2⟩)
      · exact .inr h1
      · exact .inl h2

theorem MapIs.look (h : MapIs P kt kV vV w b M) (K : Keyed P kt) (ht : P.underlying t = some (.map kt et)) (inj : ∀ a b, kV a = kV b → a = b) {z : Value} (hz : ∀ w, (zeroValue et).run P w = .ok z w) {k : κ} (hk : ∃ l, keyOf P kt (kV k) = some l) (c : Bool) {r : Option ι} (hr : ∀ v, r = some v ↔ (k, v) ∈ M) :
    (Instr.lookup t (.map (some b)) (kV k) c).run P w = .ok (if c then .tuple #[(r.map vV).getD z, .bool r.isSome] else (r.map vV).getD z) w := by
  have hf : Finds (M.map fun x => (kV x.1, vV x.2)) (kV k) (r.map vV) := by
    cases r with
    | none =>
      refine .miss fun p hp e => ?_
      obtain ⟨x, hx, rfl⟩ := List.mem_map.1 hp
      have := (hr x.2).2 (by rw [← inj _ _ e]; exact hx)
      cases this
    | some v => exact .hit (List.mem_map.2 ⟨(k, v), (hr v).1 rfl, rfl⟩)
  have := MapAt.lookup K ht hz h hk c hf
  simpa using this

theorem MapIs.del (h : MapIs P kt kV vV w b M) (K : Keyed P kt) (ht : P.underlying t = some (.map kt et)) (inj : ∀ a b, kV a = kV b → a = b) {k : κ} (hk : ∃ l, keyOf P kt (kV k) = some l) (ty x : TypeId) :
    ∃ w' M', (Builtin.delete_ #[t, x] ty #[.map (some b), kV k]).run P w = .ok (.tuple #[]) w' ∧ MapIs P kt kV vV w' b M' ∧ Del M k M' ∧ Turned b w w' ∧ M'.length ≤ M.length := by
  by_cases hin : ∃ v0, (k, v0) ∈ M
  · obtain ⟨v0, hm⟩ := hin
    obtain ⟨M1, M2, rfl⟩ := List.append_of_mem hm
    have hnd := h.nodup
    unfold MapIs at h
    rw [List.map_append, List.map_cons] at h
    obtain ⟨w', r, hM, hT⟩ := MapAt.delete_hit K ht h hk ty x
    refine ⟨w', M1 ++ M2, r, by unfold MapIs; rw [List.map_append]; exact hM, fun k' v' => ?_, hT, by simp⟩
    rw [List.map_append, List.map_cons] at hnd
    obtain ⟨n1, n2, n3⟩ := List.nodup_append.1 hnd
    obtain ⟨n4, n5⟩ := List.nodup_cons.1 n2
    have hn1 : ∀ x, (k, x) ∉ M1 := fun x hx => n3 k (List.mem_map.2 ⟨_, hx, rfl⟩) k (by simp) rfl
    have hn2 : ∀ x, (k, x) ∉ M2 := fun x hx => n4 (List.mem_map.2 ⟨_, hx, rfl⟩)
    simp only [List.mem_append, List.mem_cons, Prod.mk.injEq]
    constructor
    · rintro (h1 | h1)
      · exact ⟨fun e => hn1 _ (e ▸ h1), .inl h1⟩
      · exact ⟨fun e => hn2 _ (e ▸ h1), .inr (.inr h1)⟩
    · rintro ⟨h1, h2 | h2 | h2⟩
      · exact .inl h2
      · exact absurd h2.1 h1
      · exact .inr h2
  · have hno : ∀ p ∈ M.map fun x => (kV x.1, vV x.2), p.1 ≠ kV k := by
      intro p hp
      obtain ⟨x, hx, rfl⟩ := List.mem_map.1 hp
      exact fun e => hin ⟨x.2, by rw [← inj _ _ e]; exact hx⟩
    obtain ⟨w', r, hM, hT⟩ := MapAt.delete_miss K ht h hk hno ty x
    exact ⟨w', M, r, hM, fun k' v' => ⟨fun h1 => ⟨fun e => hin ⟨v', e ▸ h1⟩, h1⟩, fun h1 => h1.2⟩, hT, Nat.le_refl _⟩
theorem MapIs.lenRun (h : MapIs P kt kV vV w b M) (ht : P.underlying t = some (.map kt et)) (ty : TypeId) : (Builtin.len_ #[t] ty #[.map (some b)]).run P w = .ok (.int .i64 (M.length : Int)) w := by
  have := MapAt.lenRun ht h ty
  simpa using this
end

/-! ### operations by their runs -/
section
variable {P : Program} {o : Oper} {a : Act} {w w' : World} {K : Act → World → Prop} {Q : Exit → Act → World → Prop} {ops : Array Oper} {rest : List Oper} {v : Value}
theorem wp_done (he : (execOp a.eval o).run P w = .ok .skip w') (h : K (a.put o.dst undef) w') : o.wp P a w K Q := by
  unfold Oper.wp
  rw [he]
  exact h
theorem wp_value (he : (execOp a.eval o).run P w = .ok (.value v) w') (h : K (a.put o.dst v) w') : o.wp P a w K Q := by
  unfold Oper.wp
  rw [he]
  exact h
theorem wpList_done (hg : o.guard = none) (he : (execOp a.eval o).run P w = .ok .skip w') (h : wpList P ops Q rest (a.put o.dst undef) w') : wpList P ops Q (o :: rest) a w :=
  wpList_plain hg fun _ hK => wp_done he (hK _ _ h)
theorem wpList_value (hg : o.guard = none) (he : (execOp a.eval o).run P w = .ok (.value v) w') (h : wpList P ops Q rest (a.put o.dst v) w') : wpList P ops Q (o :: rest) a w :=
  wpList_plain hg fun _ hK => wp_value he (hK _ _ h)
variable {ev : Operand → Value} {t ty : TypeId} {m k x : Operand} {mv kv' xv : Value}
theorem exec_mapUpdate (ho : o.op = .mapUpdate t m k x) (hm : ev m = mv) (hk : ev k = kv') (hx : ev x = xv) (hr : (Instr.mapUpdate t mv kv' xv).run P w = .ok () w') : (execOp ev o).run P w = .ok .skip w' := by
  simp only [execOp, ho, hm, hk, hx, Sem.run_bind, hr, Result.andThen_ok, Sem.run_pure]
theorem exec_lookup {c : Bool} (ho : o.op = .lookup t m k c) (hm : ev m = mv) (hk : ev k = kv') (hr : (Instr.lookup t mv kv' c).run P w = .ok v w') : (execOp ev o).run P w = .ok (.value v) w' := by
  simp only [execOp, ho, hm, hk, Sem.run_bind, hr, Result.andThen_ok, Sem.run_pure]
theorem exec_delete {ts : Array TypeId} (ho : o.op = .call { callee := .builtin .delete, args := #[m, k], argTypes := ts }) (hm : ev m = mv) (hk : ev k = kv') (hr : (Builtin.delete_ ts o.type #[mv, kv']).run P w = .ok v w') : (execOp ev o).run P w = .ok (.value v) w' := by
  simp [execOp, ho, resolve, hm, hk, invoke, builtin, hr, Result.andThen]
theorem exec_len {ts : Array TypeId} (ho : o.op = .call { callee := .builtin .len, args := #[m], argTypes := ts }) (hm : ev m = mv) (hr : (Builtin.len_ ts o.type #[mv]).run P w = .ok v w') : (execOp ev o).run P w = .ok (.value v) w' := by
  simp [execOp, ho, resolve, hm, invoke, builtin, hr, Result.andThen]
theorem exec_store {b off : Nat} {cs : List Value} (ho : o.op = .store ty m k) (hm : ev m = .pointer (some ⟨b, off, none⟩)) (hk : ev k = .agg cs.toArray) (ht : w.there b off cs.length) (hi : (P.info? ty).map (·.size) = some cs.length) (h1 : ∀ v ∈ cs, v.oneCell' = true) : (execOp ev o).run P w = .ok .skip (w.setCells b off cs) := by
  have h := run_storeAt_mid (P := P) w b off ty cs.toArray (by simpa using ht) (by simpa using hi) (all_oneCell_toArray h1)
  simp only at h
  simp only [execOp, ho, hm, hk, Sem.run_bind, h, Result.andThen_ok, Sem.run_pure]
theorem exec_store_new {Z : Array Value} {T : TypeId} {cs : List Value} (ho : o.op = .store ty m k) (hm : ev m = .pointer (some ⟨w.heap.size, 0, none⟩)) (hk : ev k = .agg cs.toArray) (hz : Z.size = cs.length) (hi : (P.info? ty).map (·.size) = some cs.length) (h1 : ∀ v ∈ cs, v.oneCell' = true) : (execOp ev o).run P (w.alloc (.cells Z T)) = .ok .skip (w.alloc (.cells cs.toArray T)) := by
  have ht : (w.alloc (.cells Z T)).there w.heap.size 0 cs.length := fun j hj => by
    have hb := new_obj w (.cells Z T)
    simp only [World.cell?, World.frozen?, hb, Nat.zero_add]
    rw [Array.getElem?_eq_getElem (by omega)]
    simp
  have h := exec_store (P := P) (w := w.alloc (.cells Z T)) ho hm hk ht hi h1
  have e := setCells_new w Z.toList cs T (by simpa using hz)
  simp only [Array.toArray_toList] at e
  rw [h, e]
theorem exec_load {b off : Nat} {cs : List Value} {d : TypeDesc} (ho : o.op = .load ty m) (hm : ev m = .pointer (some ⟨b, off, none⟩)) (hc : w.rangeAt b off cs) (hu : P.underlying ty = some d) (hd : d.isRow = true) (hi : (P.info? ty).map (·.size) = some cs.length) : (execOp ev o).run P w = .ok (.value (.agg cs.toArray)) w := by
  simp only [execOp, ho, hm, Sem.run_bind, run_loadAt_mid w b off ty cs d hc hu hd hi, Result.andThen_ok, Sem.run_pure]
end
end Go
