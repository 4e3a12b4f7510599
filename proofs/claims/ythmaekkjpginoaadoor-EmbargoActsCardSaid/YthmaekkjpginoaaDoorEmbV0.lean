/- embargo: the document's example's keys. -/
import Derived.Test.YthmaekkjpginoaaDoorEmbE
import Derived.Test.YthmaekkjpginoaaDoorEmbZ
namespace Go.Proofs.YthmaekkjpginoaaDoor
open Go Go.RowKit Go.Maps Go.MapKept Go.Sort

def kA : KeyD := ⟨1, List.replicate 32 0⟩
def kB : KeyD := ⟨2, List.replicate 32 0⟩
def kD : KeyD := ⟨1, 1 :: List.replicate 31 0⟩
theorem okA : kA.ok := by refine ⟨by simp [inI64, kA], rfl, by decide⟩
theorem okB : kB.ok := by refine ⟨by simp [inI64, kB], rfl, by decide⟩
theorem okD : kD.ok := by refine ⟨by simp [inI64, kD], rfl, by decide⟩
def hash1 : Value := .agg ((1 :: List.replicate 31 0).map byteV).toArray
theorem bldA (w : World) : (Instr.build 36 #[(0, .int .i64 1)]).run Tryd.prog w = .ok (.agg (keyC kA).toArray) w := by kernel_rfl
theorem bldB (w : World) : (Instr.build 36 #[(0, .int .i64 2)]).run Tryd.prog w = .ok (.agg (keyC kB).toArray) w := by kernel_rfl
theorem bldH (w : World) : (Instr.build 34 #[(0, .int .u8 1)]).run Tryd.prog w = .ok hash1 w := by kernel_rfl
theorem bldD (w : World) : (Instr.build 36 #[(0, .int .i64 1), (1, hash1)]).run Tryd.prog w = .ok (.agg (keyC kD).toArray) w := by kernel_rfl
theorem alcK (w : World) : (Instr.alloc 36 true (.tuple #[])).run Tryd.prog w = .ok (.pointer (some ⟨w.heap.size, 0, none⟩)) (w.alloc (.cells (keyC key0).toArray 36)) := by kernel_rfl

section
variable {P : Program} {w w' : World} {o : Oper} {ev : Operand → Value} {t : TypeId} {v : Value}
theorem exec_buildRun {parts : Array (Nat × Operand)} {vs : List (Nat × Value)} (ho : o.op = .build t parts) (hv : (parts.toList.map fun (i, x) => (i, ev x)) = vs) (hr : (Instr.build t vs.toArray).run P w = .ok v w) : (execOp ev o).run P w = .ok (.value v) w := by
  have e : (parts.map fun (i, x) => (i, ev x)) = vs.toArray := by rw [← hv, ← Array.toList_map, Array.toArray_toList]
  simp only [execOp, ho, e, Sem.run_bind, hr, Result.andThen_ok, Sem.run_pure]
theorem wpList_valueG {a : Act} {ops : Array Oper} {rest : List Oper} {Q : Exit → Act → World → Prop} (hw : Region.wanted o (yielded ops a.tmps) = true) (he : (execOp a.eval o).run P w = .ok (.value v) w') (h : wpList P ops Q rest (a.put o.dst v) w') : wpList P ops Q (o :: rest) a w := by
  unfold wpList
  rw [if_pos hw]
  exact .inl (wp_value he h)
theorem exec_alloc (ho : o.op = .alloc t) (hr : (Instr.alloc t true (.tuple #[])).run P w = .ok v w') : (execOp ev o).run P w = .ok (.value v) w' := by
  simp only [execOp, ho, Sem.run_bind, hr, Result.andThen_ok, Sem.run_pure]
end
theorem there_obj {w : World} {b : Nat} {c : Array Value} {T : TypeId} (h : w.heap[b]? = some (.cells c T (0, 0))) : w.there b 0 c.size := fun j hj => by
  simp only [World.cell?, World.frozen?, h, Nat.zero_add]
  rw [Array.getElem?_eq_getElem hj]
  simp
/-- Three new keys. -/
def tri (w : World) : World := (((w.alloc (.cells (keyC key0).toArray 36)).alloc (.cells (keyC key0).toArray 36)).alloc (.cells (keyC key0).toArray 36))
def tri1 (w : World) : World := (tri w).setCells w.heap.size 0 (keyC kA)
def tri2 (w : World) : World := (tri1 w).setCells (w.heap.size + 1) 0 (keyC kB)
def tri3 (w : World) : World := (tri2 w).setCells (w.heap.size + 1 + 1) 0 (keyC kD)
theorem tri_there (w : World) : (tri w).there w.heap.size 0 33 ∧ (tri w).there (w.heap.size + 1) 0 33 ∧ (tri w).there (w.heap.size + 1 + 1) 0 33 := by
  have h0 : (tri w).heap[w.heap.size]? = some (.cells (keyC key0).toArray 36 (0, 0)) := old_obj (old_obj (new_obj w _) _) _
  have h1 : (tri w).heap[w.heap.size + 1]? = some (.cells (keyC key0).toArray 36 (0, 0)) := old_obj (new_obj' (w.alloc _) _ (by simp)) _
  have h2 : (tri w).heap[w.heap.size + 1 + 1]? = some (.cells (keyC key0).toArray 36 (0, 0)) := new_obj' ((w.alloc _).alloc _) _ (by simp)
  exact ⟨there_obj h0, there_obj h1, there_obj h2⟩
theorem tri_fr (w : World) : Fr No w (tri3 w) := by
  have f : Fr No w (tri w) := by unfold tri; exact (((Fr.refl No w).alloc _).alloc _).alloc _
  have g : ∀ (b : Nat) (cs : List Value) (W : World), w.heap.size ≤ b → Fr No w W → Fr No w (W.setCells b 0 cs) := fun b cs W hb h =>
    h.trans (setCells_fr b cs 0 W) (fun i hi e => by omega)
  exact g _ _ _ (by omega) (g _ _ _ (by omega) (g _ _ _ (Nat.le_refl _) f))
theorem tri_at (w : World) : (tri1 w).there (w.heap.size + 1) 0 33 ∧ (tri2 w).there (w.heap.size + 1 + 1) 0 33 ∧ (tri3 w).rangeAt w.heap.size 0 (keyC kA) ∧ (tri3 w).rangeAt (w.heap.size + 1) 0 (keyC kB) ∧ (tri3 w).rangeAt (w.heap.size + 1 + 1) 0 (keyC kD) := by
  obtain ⟨t0, t1, t2⟩ := tri_there w
  have u1 : (tri1 w).there (w.heap.size + 1) 0 33 := World.there_setCells t1 _ _ _
  have u2 : (tri2 w).there (w.heap.size + 1 + 1) 0 33 := World.there_setCells (World.there_setCells t2 _ _ _) _ _ _
  refine ⟨u1, u2, ?_, ?_, ?_⟩
  · exact World.rangeAt_setCells_apart (World.rangeAt_setCells_apart (World.rangeAt_setCells_same _ _ _ _ t0) _ _ _ (.inl (by omega))) _ _ _ (.inl (by omega))
  · exact World.rangeAt_setCells_apart (World.rangeAt_setCells_same _ _ _ _ u1) _ _ _ (.inl (by omega))
  · exact World.rangeAt_setCells_same _ _ _ _ u2

end Go.Proofs.YthmaekkjpginoaaDoor
