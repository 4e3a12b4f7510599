/- Values that are built out of parts of many cells. -/
import Derived.Laws.Tables
import Derived.Great.BuildSlice
import Derived.Laws.ResultCell
import Derived.Test.YtmpamcnlineceaaDoorMG4
set_option linter.unusedVariables false
set_option linter.unusedSimpArgs false
namespace Go
open Go.RowKit Go.Maps Go.MapKept

theorem fold_setM : ∀ (cs : List Value) (k off : Nat) (xs : Array Value), (cs.zipIdx k).foldl (fun (ys : Array Value) (c : Value × Nat) => ys.setIfInBounds (off + c.2) c.1) xs = (setM xs.toList (off + k) cs).toArray
  | [], k, off, xs => by simp [setM]
  | c :: cs, k, off, xs => by
    rw [List.zipIdx_cons, List.foldl_cons, fold_setM cs (k + 1) off]
    simp [setM, Nat.add_assoc]
/-- Each part stands behind the one ahead of it. -/
def FillOk (pl : Nat → Option (Nat × Nat)) : Nat → List (Nat × Value) → Prop
  | _, [] => True
  | off, (i, v) :: r => pl i = some (off, v.cells.size) ∧ FillOk pl (off + v.cells.size) r
def partsC (vs : List (Nat × Value)) : List Value := vs.flatMap fun x => x.2.cells.toList
theorem fill_seq (pl : Nat → Option (Nat × Nat)) : ∀ (vs : List (Nat × Value)) (A Z : List Value), FillOk pl A.length vs → (partsC vs).length ≤ Z.length → Instr.fill pl (A ++ Z).toArray vs = some (A ++ partsC vs ++ Z.drop (partsC vs).length).toArray
  | [], A, Z, _, _ => by simp [Instr.fill, partsC]
  | (i, v) :: r, A, Z, h, hl => by
    obtain ⟨h1, h2⟩ := h
    have hp : partsC ((i, v) :: r) = v.cells.toList ++ partsC r := by simp [partsC]
    rw [hp, List.length_append, Array.length_toList] at hl
    unfold Instr.fill
    rw [h1]
    have hc : ¬ (v.cells.size ≠ v.cells.size ∨ A.length + v.cells.size > (A ++ Z).toArray.size) := by
      simp only [List.size_toArray, List.length_append]
      omega
    simp only [Bool.or_eq_true, decide_eq_true_eq]
    rw [if_neg (by simpa using hc)]
    have hz : Z = Z.take v.cells.size ++ Z.drop v.cells.size := (List.take_append_drop _ _).symm
    have hs := setM_mid v.cells.toList A (Z.take v.cells.size) (Z.drop v.cells.size) (by have := Array.length_toList (xs := v.cells); rw [List.length_take]; omega)
    have hf : (v.cells.zipIdx.foldl (fun (cs : Array Value) (x : Value × Nat) => cs.setIfInBounds (A.length + x.2) x.1) (A ++ Z).toArray) = (A ++ v.cells.toList ++ Z.drop v.cells.size).toArray := by
      rw [← Array.foldl_toList, Array.toList_zipIdx, fold_setM, Nat.add_zero, List.toList_toArray]
      conv => lhs; rw [hz]
      rw [← List.append_assoc, hs]
    have ih := fill_seq pl r (A ++ v.cells.toList) (Z.drop v.cells.size) (by rw [List.length_append, Array.length_toList]; exact h2) (by rw [List.length_drop]; omega)
    refine Eq.trans (congrArg (fun c => Instr.fill pl c r) hf) ?_
    rw [ih, hp, List.drop_drop, List.length_append, Array.length_toList]
    simp [List.append_assoc]

def buildPlaces (P : Program) (t : TypeId) : Option (Nat × List (Nat × Nat)) :=
  match P.info? t, P.underlying t with
  | some it, some (.struct fields) =>
    match it.zero, fields.toList.mapM (fun f => (P.info? f.type).map fun i => (f.offset, i.size)) with
    | some z, some places => some (z.cells.size, places)
    | _, _ => none
  | _, _ => none
section
variable {P : Program} {t e ty : TypeId} {w : World} {o : Oper} {ev : Operand → Value}
theorem built_of {n : Nat} {pl : List (Nat × Nat)} {vs : List (Nat × Value)} (h : buildPlaces P t = some (n, pl)) (hf : FillOk (pl.toArray[·]?) 0 vs) (hn : (partsC vs).length = n) : P.built t vs = some (partsC vs).toArray := by
  unfold buildPlaces at h
  unfold Program.built
  cases hi : P.info? t with
  | none => simp [hi] at h
  | some it =>
    cases hu : P.underlying t with
    | none => simp [hi, hu] at h
    | some d =>
      cases d <;> try (simp [hi, hu] at h; done)
      rename_i fs
      cases hz : it.zero with
      | none => simp [hi, hu, hz] at h
      | some z =>
        cases hp : fs.toList.mapM (fun f => (P.info? f.type).map fun i => (f.offset, i.size)) with
        | none => simp [hi, hu, hz, hp] at h
        | some places =>
          simp [hi, hu, hz, hp] at h
          obtain ⟨rfl, rfl⟩ := h
          simp only [hz, hp]
          have := fill_seq (places.toArray[·]?) vs [] z.cells.toList hf (by rw [hn, Array.length_toList]; exact Nat.le_refl _)
          simp only [List.nil_append, Array.toArray_toList] at this
          rw [this, hn]
          have e1 : List.drop z.cells.size z.cells.toList = [] := List.drop_eq_nil_of_le (by rw [Array.length_toList]; exact Nat.le_refl _)
          rw [e1, List.append_nil]
theorem exec_build {parts : Array (Nat × Operand)} {n : Nat} {pl : List (Nat × Nat)} {vs : List (Nat × Value)} {cs : List Value} (ho : o.op = .build t parts) (hv : (parts.toList.map fun (i, x) => (i, ev x)) = vs) (h : buildPlaces P t = some (n, pl)) (hf : FillOk (pl.toArray[·]?) 0 vs) (hc : partsC vs = cs) (hn : cs.length = n) :
    (execOp ev o).run P w = .ok (.value (.agg cs.toArray)) w := by
  subst hc
  have := run_build w t (parts.map fun (i, x) => (i, ev x)) _ (by rw [Array.toList_map, hv]; exact built_of h hf hn)
  simp only [execOp, ho, Sem.run_bind, this, Result.andThen_ok, Sem.run_pure]
theorem exec_buildSlice1 {x : Operand} {v z : Value} {k : Nat} (ho : o.op = .buildSlice t 1 #[(0, x)]) (hv : ev x = v) (hu : P.underlying t = some (.slice e)) (hi : (P.info? e).map (fun i => (i.zero, i.size)) = some (some z, k)) (_ : z.cells.size = k) (hk : 0 < k) (hk2 : k ≤ 16777216) (hc : v.cells.size = k) :
    (execOp ev o).run P w = .ok (.value (.slice (some ⟨w.heap.size, 0, none⟩) 1 1)) (w.alloc (.cells v.cells e)) := by
  cases hie : P.info? e with
  | none => rw [hie] at hi; cases hi
  | some ie =>
    rw [hie] at hi
    simp only [Option.map_some, Option.some.injEq, Prod.mk.injEq] at hi
    obtain ⟨h1, h2⟩ := hi
    have hf : Instr.fill (fun i => some (i * ie.size, ie.size)) ((Array.range (1 * ie.size)).map (z.cells[· % z.cells.size]!)) [(0, v)] = some v.cells := by
      have hl : ((Array.range (1 * ie.size)).map (z.cells[· % z.cells.size]!)).toList.length = k := by simp [h2]
      have := fill_seq (fun i => some (i * ie.size, ie.size)) [(0, v)] [] ((Array.range (1 * ie.size)).map (z.cells[· % z.cells.size]!)).toList ⟨by simp [h2, hc], trivial⟩ (by simp [partsC, h2, hc])
      simp only [List.nil_append, Array.toArray_toList] at this
      rw [this]
      have e1 : partsC [(0, v)] = v.cells.toList := by simp [partsC]
      rw [e1, List.drop_eq_nil_of_le (by rw [hl, Array.length_toList, hc]; exact Nat.le_refl _)]
      simp
    have hr := run_buildSlice (P := P) w t e 1 #[(0, v)] v.cells ie z hu hie h1 (by omega) (by omega) hf
    have hp : (#[(0, x)] : Array (Nat × Operand)).map (fun (i, x) => (i, ev x)) = #[(0, v)] := by simp [hv]
    simp only [execOp, ho, hp, Sem.run_bind, hr, Result.andThen_ok, Sem.run_pure]
theorem exec_buildSliceA {x : Operand} {cs : List Value} {z : Value} {k : Nat} (ho : o.op = .buildSlice t 1 #[(0, x)]) (hv : ev x = .agg cs.toArray) (hu : P.underlying t = some (.slice e)) (hi : (P.info? e).map (fun i => (i.zero, i.size)) = some (some z, k)) (hz : z.cells.size = k) (hk : 0 < k) (hk2 : k ≤ 16777216) (hc : cs.length = k) :
    (execOp ev o).run P w = .ok (.value (.slice (some ⟨w.heap.size, 0, none⟩) 1 1)) (w.alloc (.cells cs.toArray e)) := exec_buildSlice1 (v := .agg cs.toArray) ho hv hu hi hz hk hk2 (by show cs.toArray.size = k; simpa using hc)
end
section
variable {P : Program} {kt et t : TypeId} {w : World} {b : Nat} {κ ι : Type} {kV : κ → Value} {vV : ι → Value} {M : List (κ × ι)}
theorem MapIs.hit (h : MapIs P kt kV vV w b M) (K : Keyed P kt) (ht : P.underlying t = some (.map kt et)) (inj : ∀ a b, kV a = kV b → a = b) {z : Value} (hz : ∀ w, (zeroValue et).run P w = .ok z w) {k : κ} (hk : ∃ l, keyOf P kt (kV k) = some l) {v : ι} (hv : (k, v) ∈ M) :
    (Instr.lookup t (.map (some b)) (kV k) true).run P w = .ok (.tuple #[vV v, .bool true]) w ∧ (Instr.lookup t (.map (some b)) (kV k) false).run P w = .ok (vV v) w := by
  have hr : ∀ v', some v = some v' ↔ (k, v') ∈ M := fun v' => ⟨fun e => by cases e; exact hv, fun e => by rw [h.uniq hv e]⟩
  have h1 := h.look K ht inj hz hk true hr
  have h2 := h.look K ht inj hz hk false hr
  simpa using ⟨h1, h2⟩
theorem MapIs.miss (h : MapIs P kt kV vV w b M) (K : Keyed P kt) (ht : P.underlying t = some (.map kt et)) (inj : ∀ a b, kV a = kV b → a = b) {z : Value} (hz : ∀ w, (zeroValue et).run P w = .ok z w) {k : κ} (hk : ∃ l, keyOf P kt (kV k) = some l) (hv : ∀ v, (k, v) ∉ M) :
    (Instr.lookup t (.map (some b)) (kV k) true).run P w = .ok (.tuple #[z, .bool false]) w ∧ (Instr.lookup t (.map (some b)) (kV k) false).run P w = .ok z w := by
  have hr : ∀ v', (none : Option ι) = some v' ↔ (k, v') ∈ M := fun v' => ⟨fun e => (by cases e), fun e => absurd e (hv v')⟩
  have h1 := h.look K ht inj hz hk true hr
  have h2 := h.look K ht inj hz hk false hr
  simpa using ⟨h1, h2⟩

end
end Go

/- Blocks of many cells: made, and given back as a result. -/
namespace Go
open Go.RowKit
section
variable {P : Program} {o : Oper} {w : World} {ev : Operand → Value} {ty : TypeId}
theorem exec_alloc {z : Array Value} (ho : o.op = .alloc ty) (hz : (zeroValue ty).run P w = .ok (.agg z) w) : (execOp ev o).run P w = .ok (.value (.pointer (some ⟨w.heap.size, 0, none⟩))) (w.alloc (.cells z ty)) := by
  simp [execOp, ho, Instr.alloc, hz, Result.andThen, newVar, newRow, newObj, Value.cells, Sem.run]
theorem there_obj {b k : Nat} {c : Array Value} {T : TypeId} (hb : w.heap[b]? = some (.cells c T (0, 0))) (hk : k ≤ c.size) : w.there b 0 k := fun j hj => by
  simp only [World.cell?, World.frozen?, hb, Nat.zero_add]
  rw [Array.getElem?_eq_getElem (by omega)]
  simp
theorem range_set {b : Nat} {c : Array Value} {cs : List Value} {T : TypeId} (hb : w.heap[b]? = some (.cells c T (0, 0))) (hk : c.size = cs.length) : (w.setCells b 0 cs).rangeAt b 0 cs := by
  have h := setCells_heap b T cs 0 w c hb
  have e := setM_mid cs [] c.toList [] (by simpa using hk)
  simp only [List.nil_append, List.append_nil, List.length_nil] at e
  rw [e] at h
  have := range_obj h
  simpa using this
theorem exec_bld {t : TypeId} {v : Value} {parts : Array (Nat × Operand)} {vs : List (Nat × Value)} (ho : o.op = .build t parts) (hv : (parts.toList.map fun (i, x) => (i, ev x)) = vs) (hr : (Instr.build t vs.toArray).run P w = .ok v w) : (execOp ev o).run P w = .ok (.value v) w := by
  have e : (parts.map fun (i, x) => (i, ev x)) = vs.toArray := by rw [← hv, ← Array.toList_map, Array.toArray_toList]
  simp only [execOp, ho, e, Sem.run_bind, hr, Result.andThen_ok, Sem.run_pure]
theorem wpList_vG {w' : World} {v : Value} {a : Act} {ops : Array Oper} {rest : List Oper} {Q : Exit → Act → World → Prop} (hw : Region.wanted o (yielded ops a.tmps) = true) (he : (execOp a.eval o).run P w = .ok (.value v) w') (h : wpList P ops Q rest (a.put o.dst v) w') : wpList P ops Q (o :: rest) a w := by
  unfold wpList
  rw [if_pos hw]
  exact .inl (wp_value he h)
theorem exec_buildSlice2 {t e : TypeId} {x y : Operand} {c1 c2 : List Value} {z : Value} {k : Nat} (ho : o.op = .buildSlice t 2 #[(0, x), (1, y)]) (h1 : ev x = .agg c1.toArray) (h2 : ev y = .agg c2.toArray) (hu : P.underlying t = some (.slice e)) (hi : (P.info? e).map (fun i => (i.zero, i.size)) = some (some z, k)) (_ : z.cells.size = k) (hk : 0 < k) (hk2 : 2 * k ≤ 16777216) (l1 : c1.length = k) (l2 : c2.length = k) :
    (execOp ev o).run P w = .ok (.value (.slice (some ⟨w.heap.size, 0, none⟩) 2 2)) (w.alloc (.cells (c1 ++ c2).toArray e)) := by
  cases hie : P.info? e with
  | none => rw [hie] at hi; cases hi
  | some ie =>
    rw [hie] at hi
    simp only [Option.map_some, Option.some.injEq, Prod.mk.injEq] at hi
    obtain ⟨g1, g2⟩ := hi
    have hc1 : (Value.agg c1.toArray).cells.size = k := by show c1.toArray.size = k; simpa using l1
    have hc2 : (Value.agg c2.toArray).cells.size = k := by show c2.toArray.size = k; simpa using l2
    have e1 : partsC [(0, .agg c1.toArray), (1, .agg c2.toArray)] = c1 ++ c2 := by
      have a1 : (Value.agg c1.toArray).cells.toList = c1 := by show c1.toArray.toList = _; simp
      have a2 : (Value.agg c2.toArray).cells.toList = c2 := by show c2.toArray.toList = _; simp
      simp [partsC, a1, a2]
    have hf : Instr.fill (fun i => some (i * ie.size, ie.size)) ((Array.range (2 * ie.size)).map (z.cells[· % z.cells.size]!)) [(0, .agg c1.toArray), (1, .agg c2.toArray)] = some (c1 ++ c2).toArray := by
      have hl : ((Array.range (2 * ie.size)).map (z.cells[· % z.cells.size]!)).toList.length = 2 * k := by simp [g2]
      have := fill_seq (fun i => some (i * ie.size, ie.size)) [(0, .agg c1.toArray), (1, .agg c2.toArray)] [] ((Array.range (2 * ie.size)).map (z.cells[· % z.cells.size]!)).toList ⟨by simp [g2, hc1], by simp [g2, hc1, hc2], trivial⟩ (by rw [e1, hl, List.length_append, l1, l2]; omega)
      simp only [List.nil_append, Array.toArray_toList] at this
      rw [this, e1, List.drop_eq_nil_of_le (by rw [hl, List.length_append, l1, l2]; omega), List.append_nil]
    have hr := run_buildSlice (P := P) w t e 2 #[(0, .agg c1.toArray), (1, .agg c2.toArray)] (c1 ++ c2).toArray ie z hu hie g1 (by omega) (by omega) hf
    have hp : (#[(0, x), (1, y)] : Array (Nat × Operand)).map (fun (i, x) => (i, ev x)) = #[(0, .agg c1.toArray), (1, .agg c2.toArray)] := by simp [h1, h2]
    simp only [execOp, ho, hp, Sem.run_bind, hr, Result.andThen_ok, Sem.run_pure]
theorem exec_buildSlice3 {t e : TypeId} {x y x3 : Operand} {c1 c2 c3 : List Value} {z : Value} {k : Nat} (ho : o.op = .buildSlice t 3 #[(0, x), (1, y), (2, x3)]) (h1 : ev x = .agg c1.toArray) (h2 : ev y = .agg c2.toArray) (h3 : ev x3 = .agg c3.toArray) (hu : P.underlying t = some (.slice e)) (hi : (P.info? e).map (fun i => (i.zero, i.size)) = some (some z, k)) (_ : z.cells.size = k) (hk : 0 < k) (hk2 : 3 * k ≤ 16777216) (l1 : c1.length = k) (l2 : c2.length = k) (l3 : c3.length = k) :
    (execOp ev o).run P w = .ok (.value (.slice (some ⟨w.heap.size, 0, none⟩) 3 3)) (w.alloc (.cells (c1 ++ c2 ++ c3).toArray e)) := by
  cases hie : P.info? e with
  | none => rw [hie] at hi; cases hi
  | some ie =>
    rw [hie] at hi
    simp only [Option.map_some, Option.some.injEq, Prod.mk.injEq] at hi
    obtain ⟨g1, g2⟩ := hi
    have hc1 : (Value.agg c1.toArray).cells.size = k := by show c1.toArray.size = k; simpa using l1
    have hc2 : (Value.agg c2.toArray).cells.size = k := by show c2.toArray.size = k; simpa using l2
    have hc3 : (Value.agg c3.toArray).cells.size = k := by show c3.toArray.size = k; simpa using l3
    have e1 : partsC [(0, .agg c1.toArray), (1, .agg c2.toArray), (2, .agg c3.toArray)] = c1 ++ c2 ++ c3 := by
      have a1 : (Value.agg c1.toArray).cells.toList = c1 := by show c1.toArray.toList = _; simp
      have a2 : (Value.agg c2.toArray).cells.toList = c2 := by show c2.toArray.toList = _; simp
      have a3 : (Value.agg c3.toArray).cells.toList = c3 := by show c3.toArray.toList = _; simp
      simp [partsC, a1, a2, a3]
    have hf : Instr.fill (fun i => some (i * ie.size, ie.size)) ((Array.range (3 * ie.size)).map (z.cells[· % z.cells.size]!)) [(0, .agg c1.toArray), (1, .agg c2.toArray), (2, .agg c3.toArray)] = some (c1 ++ c2 ++ c3).toArray := by
      have hl : ((Array.range (3 * ie.size)).map (z.cells[· % z.cells.size]!)).toList.length = 3 * k := by simp [g2]
      have := fill_seq (fun i => some (i * ie.size, ie.size)) [(0, .agg c1.toArray), (1, .agg c2.toArray), (2, .agg c3.toArray)] [] ((Array.range (3 * ie.size)).map (z.cells[· % z.cells.size]!)).toList ⟨by simp [g2, hc1], by simp [g2, hc1, hc2], by simp [g2, hc1, hc2, hc3]; omega, trivial⟩ (by rw [e1, hl]; simp only [List.length_append, l1, l2, l3]; omega)
      simp only [List.nil_append, Array.toArray_toList] at this
      rw [this, e1, List.drop_eq_nil_of_le (by rw [hl]; simp only [List.length_append, l1, l2, l3]; omega), List.append_nil]
    have hr := run_buildSlice (P := P) w t e 3 #[(0, .agg c1.toArray), (1, .agg c2.toArray), (2, .agg c3.toArray)] (c1 ++ c2 ++ c3).toArray ie z hu hie g1 (by omega) (by omega) hf
    have hp : (#[(0, x), (1, y), (2, x3)] : Array (Nat × Operand)).map (fun (i, x) => (i, ev x)) = #[(0, .agg c1.toArray), (1, .agg c2.toArray), (2, .agg c3.toArray)] := by simp [h1, h2, h3]
    simp only [execOp, ho, hp, Sem.run_bind, hr, Result.andThen_ok, Sem.run_pure]
/-- Two new blocks, filled. -/
theorem two_blocks (w : World) {z1 z2 : Array Value} {T1 T2 : TypeId} {c1 c2 : List Value} (h1 : z1.size = c1.length) (h2 : z2.size = c2.length) :
    ((w.alloc (.cells z1 T1)).alloc (.cells z2 T2)).there w.heap.size 0 c1.length ∧
    (((w.alloc (.cells z1 T1)).alloc (.cells z2 T2)).setCells w.heap.size 0 c1).there (w.heap.size + 1) 0 c2.length ∧
    ((((w.alloc (.cells z1 T1)).alloc (.cells z2 T2)).setCells w.heap.size 0 c1).setCells (w.heap.size + 1) 0 c2).rangeAt w.heap.size 0 c1 ∧
    ((((w.alloc (.cells z1 T1)).alloc (.cells z2 T2)).setCells w.heap.size 0 c1).setCells (w.heap.size + 1) 0 c2).rangeAt (w.heap.size + 1) 0 c2 ∧
    Fr No w ((((w.alloc (.cells z1 T1)).alloc (.cells z2 T2)).setCells w.heap.size 0 c1).setCells (w.heap.size + 1) 0 c2) := by
  have b1 : ((w.alloc (.cells z1 T1)).alloc (.cells z2 T2)).heap[w.heap.size]? = some (.cells z1 T1 (0, 0)) := ((Fr.refl No _).alloc _).obj (new_obj w (.cells z1 T1)) id
  have b2 : ((w.alloc (.cells z1 T1)).alloc (.cells z2 T2)).heap[w.heap.size + 1]? = some (.cells z2 T2 (0, 0)) := new_obj' (w.alloc (.cells z1 T1)) (.cells z2 T2) (n := w.heap.size + 1) (by simp)
  have f1 := setCells_fr w.heap.size c1 0 ((w.alloc (.cells z1 T1)).alloc (.cells z2 T2))
  have b2' := f1.obj b2 (fun e => by omega)
  have f2 := setCells_fr (w.heap.size + 1) c2 0 (((w.alloc (.cells z1 T1)).alloc (.cells z2 T2)).setCells w.heap.size 0 c1)
  refine ⟨there_obj b1 (Nat.le_of_eq h1.symm), there_obj b2' (Nat.le_of_eq h2.symm), range_keep (range_set b1 h1) f2 (fun e => by omega), range_set b2' h2, ?_⟩
  exact ((((Fr.refl No w).alloc _).alloc _).trans f1 (fun i hi e => by omega)).trans f2 (fun i hi e => by omega)
theorem results_row_tmp {fn : Func} {p u : Tmp} (h : fn.results = #[.cell p ty, .tmp u]) (tmps : Array Value) {g : Nat} {cs : List Value} {d : TypeDesc} {x : Value} (hp : tmps.getD p undef = .pointer (some ⟨g, 0, none⟩)) (hr : w.rangeAt g 0 cs)
    (hu : P.underlying ty = some d) (hd : d.isRow = true) (hi : (P.info? ty).map (·.size) = some cs.length) (hx : tmps.getD u undef = x) :
    (results fn tmps).run P w = .ok (.tuple #[.agg cs.toArray, x]) w := by
  rw [results_cell_tmp h, hp, hx]
  simp only [asAddr, Sem.run_pure, Result.andThen_ok, run_loadVar_mid w g 0 ty cs d hr hu hd hi]
end
end Go
