/- Two rows of one's own, made side by side in whatever order, then joined. -/
import Derived.Test.YtmpamcnlineceaaDoorMG5
import Derived.Test.YtmpamcnlineceaaDoorMG2
set_option linter.unusedVariables false
set_option linter.unusedSimpArgs false
set_option linter.unnecessarySimpa false
set_option linter.all false
namespace Go
open Go.RowKit Go.Maps Go.MapKept
section
variable {P : Program} {o : Oper} {w : World} {ev : Operand → Value}
theorem exec_bldS {t : TypeId} {n : Nat} {w' : World} {v : Value} {parts : Array (Nat × Operand)} {vs : List (Nat × Value)} (ho : o.op = .buildSlice t n parts) (hv : (parts.toList.map fun (i, x) => (i, ev x)) = vs) (hr : (Instr.buildSlice t n vs.toArray).run P w = .ok v w') : (execOp ev o).run P w = .ok (.value v) w' := by
  have e : (parts.map fun (i, x) => (i, ev x)) = vs.toArray := by rw [← hv, ← Array.toList_map, Array.toArray_toList]
  simp only [execOp, ho, e, Sem.run_bind, hr, Result.andThen_ok, Sem.run_pure]
theorem exec_append {x y : Operand} {ts : Array TypeId} {w' : World} {v u r : Value} (ho : o.op = .call { callee := .builtin .append, args := #[x, y], argTypes := ts }) (hx : ev x = v) (hy : ev y = u) (hr : (Builtin.append_ ts o.type #[v, u]).run P w = .ok r w') : (execOp ev o).run P w = .ok (.value r) w' := by
  simp [execOp, ho, resolve, hx, hy, invoke, builtin, hr, Result.andThen]
/-- What is known of an element's type. -/
structure ElT (P : Program) (t e : TypeId) (k bytes : Nat) (z : Value) : Prop where
  und : P.underlying t = some (.slice e)
  info : (P.info? e).map (fun i => (i.zero, i.size, i.bytes)) = some (some z, k, bytes)
  zs : z.cells.size = k
  k0 : 0 < k
  kb : k ≤ bytes
variable {t e : TypeId} {k bytes : Nat} {z : Value}
theorem bld0_own (h : ElT P t e k bytes z) (B : Nat) (hB : B ≤ w.heap.size) : ∃ v w', (Instr.buildSlice t 0 #[]).run P w = .ok v w' ∧ w'.ownsRow B e k v 0 [] ∧ Fr No w w' ∧ (∀ j, v.ownBlock = some j → w.heap.size ≤ j) := by
  obtain ⟨i, hi, hz, hs, hb⟩ := info_parts h.info
  have hr : (Instr.buildSlice t 0 #[]).run P w = .ok (.slice (some ⟨w.heap.size, 0, none⟩) 0 0) (w.alloc (.cells #[] e)) := by
    simp [Instr.buildSlice, run_underlying h.und, sizeOf, typeInfo, hi, Instr.fill, newRow]
    rw [show Array.map (fun _ => (default : Value)) (Array.range 0) = #[] from Array.eq_empty_of_size_eq_zero (by simp)]
  refine ⟨_, _, hr, ⟨by simp, .inr ⟨w.heap.size, 0, #[], rfl, hB, new_obj w _, Nat.le_refl _, by omega, by simp, by simp⟩⟩, (Fr.refl No w).alloc _, fun j hj => ?_⟩
  simp [Value.ownBlock] at hj
  omega
theorem bld1_own (h : ElT P t e k bytes z) (B : Nat) (hB : B ≤ w.heap.size) {cs : List Value} (hk : k ≤ 16777216) (hc : cs.length = k) : ∃ v w', (Instr.buildSlice t 1 #[(0, .agg cs.toArray)]).run P w = .ok v w' ∧ w'.ownsRow B e k v 1 cs ∧ Fr No w w' ∧ (∀ j, v.ownBlock = some j → w.heap.size ≤ j) := by
  have hk0 := h.k0
  obtain ⟨i, hi, hz, hs, hb⟩ := info_parts h.info
  have hcs : (Value.agg cs.toArray).cells.size = k := by show cs.toArray.size = k; simpa using hc
  have a1 : (Value.agg cs.toArray).cells.toList = cs := by show cs.toArray.toList = _; simp
  have e1 : partsC [(0, .agg cs.toArray)] = cs := by simp [partsC, a1]
  have hf : Instr.fill (fun j => some (j * i.size, i.size)) ((Array.range (1 * i.size)).map (z.cells[· % z.cells.size]!)) [(0, .agg cs.toArray)] = some cs.toArray := by
    have hl : ((Array.range (1 * i.size)).map (z.cells[· % z.cells.size]!)).toList.length = k := by simp [hs]
    have := fill_seq (fun j => some (j * i.size, i.size)) [(0, .agg cs.toArray)] [] ((Array.range (1 * i.size)).map (z.cells[· % z.cells.size]!)).toList ⟨by simp [hs, hcs], trivial⟩ (by rw [e1, hl, hc]; omega)
    simp only [List.nil_append, Array.toArray_toList] at this
    rw [this, e1, List.drop_eq_nil_of_le (by rw [hl, hc]; omega), List.append_nil]
  have hr := run_buildSlice (P := P) w t e 1 #[(0, .agg cs.toArray)] cs.toArray i z h.und hi hz (by omega) (by omega) hf
  refine ⟨_, _, hr, ⟨by omega, .inr ⟨w.heap.size, 1, cs.toArray, rfl, hB, new_obj w _, Nat.le_refl _, by unfold maxLen; omega, by simp [hc], ?_⟩⟩, (Fr.refl No w).alloc _, fun j hj => ?_⟩
  · rw [List.toList_toArray]; exact List.take_of_length_le (by omega)
  · simp [Value.ownBlock] at hj
    omega
/-- Rows a and b, made behind W, as they stand in w. -/
structure AB (e : TypeId) (k : Nat) (W w : World) (a b : Option (Value × Nat × List Value)) : Prop where
  fr : Fr No W w
  a1 : ∀ v n S, a = some (v, n, S) → w.ownsRow W.heap.size e k v n S
  b1 : ∀ v n S, b = some (v, n, S) → w.ownsRow W.heap.size e k v n S
  sep : ∀ v n S v' n' S', a = some (v, n, S) → b = some (v', n', S') → ∀ j, v.ownBlock = some j → v'.ownBlock ≠ some j
variable {W : World} {a b : Option (Value × Nat × List Value)}
theorem AB.swap (h : AB e k W w a b) : AB e k W w b a := ⟨h.fr, h.b1, h.a1, fun v n S v' n' S' ha hb j hj hj' => h.sep v' n' S' v n S hb ha j hj' hj⟩
theorem AB.start (W : World) : AB e k W W none none := ⟨Fr.refl _ _, by simp, by simp, by simp⟩
theorem AB.turn {w' : World} {v : Value} {n : Nat} {S : List Value} (h : AB e k W w a b) {V : Nat → Prop} (f : Fr V w w') (hV : ∀ j, V j → W.heap.size ≤ j ∧ ∀ v' n' S', b = some (v', n', S') → v'.ownBlock ≠ some j) (ho : w'.ownsRow W.heap.size e k v n S) (hn : ∀ j, v.ownBlock = some j → V j ∨ w.heap.size ≤ j) : AB e k W w' (some (v, n, S)) b := by
  refine ⟨h.fr.trans f (fun i hi e => by have := (hV i e).1; omega), fun v' n' S' e => ?_, fun v' n' S' e => ?_, fun v1 n1 S1 v' n' S' e1 e2 j hj hj' => ?_⟩
  · simp only [Option.some.injEq, Prod.mk.injEq] at e; obtain ⟨rfl, rfl, rfl⟩ := e; exact ho
  · exact ownsRow_keep (h.b1 v' n' S' e) f (fun j hj hV' => (hV j hV').2 v' n' S' e hj)
  · simp only [Option.some.injEq, Prod.mk.injEq] at e1; obtain ⟨rfl, rfl, rfl⟩ := e1
    rcases hn j hj with h1 | h1
    · exact (hV j h1).2 v' n' S' e2 hj'
    · have := ((h.b1 v' n' S' e2).lt j hj').2; omega
theorem AB.new0 (h : AB e k W w a b) (E : ElT P t e k bytes z) : ∃ v w', (Instr.buildSlice t 0 #[]).run P w = .ok v w' ∧ AB e k W w' (some (v, 0, [])) b := by
  obtain ⟨v, w', hr, ho, f, hn⟩ := bld0_own (P := P) E W.heap.size h.fr.size
  exact ⟨v, w', hr, h.turn f (fun _ h => h.elim) ho (fun j hj => .inr (hn j hj))⟩
theorem AB.new1 (h : AB e k W w a b) (E : ElT P t e k bytes z) {cs : List Value} (hk : k ≤ 16777216) (hc : cs.length = k) : ∃ v w', (Instr.buildSlice t 1 #[(0, .agg cs.toArray)]).run P w = .ok v w' ∧ AB e k W w' (some (v, 1, cs)) b := by
  obtain ⟨v, w', hr, ho, f, hn⟩ := bld1_own (P := P) E W.heap.size h.fr.size hk hc
  exact ⟨v, w', hr, h.turn f (fun _ h => h.elim) ho (fun j hj => .inr (hn j hj))⟩
theorem AB.app {v : Value} {n : Nat} {S : List Value} (h : AB e k W w (some (v, n, S)) b) (E : ElT P t e k bytes z) {x : Value} {m : Nat} {news : List Value} (hx : ArgIs w x m news) (hl : news.length = m * k) (h1 : ∀ u ∈ news, u.oneCell' = true) (hb : (n + m) * bytes ≤ 140737488355328) (hm : n + m ≤ maxLen) (hnil : x ≠ .slice none 0 0) (ty : TypeId) :
    ∃ v' w', (Builtin.append_ #[t, t] ty #[v, x]).run P w = .ok v' w' ∧ AB e k W w' (some (v', n + m, S ++ news)) b := by
  have hown := h.a1 v n S rfl
  obtain ⟨v', w', hr, ho, hg, -, hn⟩ := append_own (P := P) w W.heap.size t ty e k bytes z E.und E.info E.zs E.k0 v n S hown x m news hx hl h1 hb hm h.fr.size hnil
  refine ⟨v', w', hr, h.turn (V := fun j => v.ownBlock = some j) ((Fr.refl _ w).grown hg (fun k e => .inr e)) (fun j hj => ⟨(hown.lt j hj).1, fun v2 n2 S2 e2 e3 => h.sep v n S v2 n2 S2 rfl e2 j hj e3⟩) ho hn⟩
theorem AB.join {v u : Value} {n m : Nat} {S T : List Value} (h : AB e k W w (some (v, n, S)) (some (u, m, T))) (E : ElT P t e k bytes z) (hl : T.length = m * k) (h1 : ∀ u ∈ T, u.oneCell' = true) (hb : (n + m) * bytes ≤ 140737488355328) (hm : n + m ≤ maxLen) (hnil : u ≠ .slice none 0 0) (ty : TypeId) :
    ∃ v' w', (Builtin.append_ #[t, t] ty #[v, u]).run P w = .ok v' w' ∧ w'.ownsRow W.heap.size e k v' (n + m) (S ++ T) ∧ Fr No W w' := by
  obtain ⟨v', w', hr, h2⟩ := h.app E (h.b1 u m T rfl).slice.arg hl h1 hb hm hnil ty
  exact ⟨v', w', hr, h2.a1 _ _ _ rfl, h2.fr⟩
end
end Go
