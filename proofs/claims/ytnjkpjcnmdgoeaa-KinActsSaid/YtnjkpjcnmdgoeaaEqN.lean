/- Structs in structs: keys and comparisons, to any depth. -/
import Derived.Test.YtnjkpjcnmdgoeaaAgg
namespace Go
open Go.RowKit Go.Maps Go.MapKept
section
variable {P : Program} {S : World → Prop} {a : Act} {dst : Option Tmp} {ty ty2 : TypeId} {pos : String} {after : Array Edge} {gd : Option (Nat × Bool)} {x y : Operand}
/-- A type whose values are compared cell by cell, to any depth. -/
structure EqN (P : Program) (k : TypeId) : Prop where
  keyed : Keyed P k
  deep : ∃ m, m ≤ 10000 ∧ P.keyTypeAt m k = true
  wide : (match P.underlying k with | some (.array _ _) | some (.struct _) => true | _ => false) = true
  guard : P.eqGuardType P.depth k = false
theorem EqN.run {k : TypeId} (h : EqN P k) (w : World) {u v : Array Value} (hu : ∃ l, keyOf P k (.agg u) = some l) (hv : ∃ l, keyOf P k (.agg v) = some l) (b : Bool) (hb : b = true ↔ u = v) :
    (Op.equal k (.agg u) (.agg v)).run P w = .ok b w := by
  obtain ⟨l1, h1⟩ := hu
  obtain ⟨l2, h2⟩ := hv
  obtain ⟨r, hr, hiff⟩ := run_equal_deep w h.deep.choose_spec.1 h.deep.choose_spec.2 h.wide h1 h2
  have : r = b := by
    rw [Bool.eq_iff_iff, hiff, hb]
    constructor
    · intro e
      subst e
      have := h.keyed.inj h1 h2
      injection this
    · intro e
      subst e
      rw [h1] at h2
      exact Option.some.inj h2
  rw [hr, this]
theorem EqN.eql {k : TypeId} (h : EqN P k) (w : World) {u v : Array Value} (hu : ∃ l, keyOf P k (.agg u) = some l) (hv : ∃ l, keyOf P k (.agg v) = some l) (b : Bool) (hb : b = true ↔ u = v) :
    (binOp .eql k (.agg u) (.agg v)).run P w = .ok (.bool b) w := by
  have h1 := h.run w hu hv b hb
  rw [run_eql_struct]
  unfold Op.equal at h1
  rw [show Op.maxDepth = 10000 from rfl] at h1
  rw [h1]
  rfl
theorem EqN.neq {k : TypeId} (h : EqN P k) (w : World) {u v : Array Value} (hu : ∃ l, keyOf P k (.agg u) = some l) (hv : ∃ l, keyOf P k (.agg v) = some l) (b : Bool) (hb : b = true ↔ u = v) :
    (binOp .neq k (.agg u) (.agg v)).run P w = .ok (.bool (!b)) w := by
  have h1 := h.run w hu hv b hb
  rw [run_neq_struct]
  unfold Op.equal at h1
  rw [show Op.maxDepth = 10000 from rfl] at h1
  rw [h1]
  rfl
theorem EqN.exec_eql {k : TypeId} (h : EqN P k) {ev : Operand → Value} {o : Oper} (ho : o.op = .binOp .eql k x y ty2) {u v : Array Value} (hx : ev x = .agg u) (hy : ev y = .agg v) (hu : ∃ l, keyOf P k (.agg u) = some l) (hv : ∃ l, keyOf P k (.agg v) = some l) (b : Bool) (hb : b = true ↔ u = v) (w : World) :
    (execOp ev o).run P w = .ok (.value (.bool b)) w := by
  simp only [execOp, ho, hx, hy, Sem.run_bind, run_eqGuard_agg w .eql k x y u v h.guard, Result.andThen_ok, h.eql w hu hv b hb, Sem.run_pure]
theorem EqN.exec_neq {k : TypeId} (h : EqN P k) {ev : Operand → Value} {o : Oper} (ho : o.op = .binOp .neq k x y ty2) {u v : Array Value} (hx : ev x = .agg u) (hy : ev y = .agg v) (hu : ∃ l, keyOf P k (.agg u) = some l) (hv : ∃ l, keyOf P k (.agg v) = some l) (b : Bool) (hb : b = true ↔ u = v) (w : World) :
    (execOp ev o).run P w = .ok (.value (.bool (!b))) w := by
  simp only [execOp, ho, hx, hy, Sem.run_bind, run_eqGuard_agg w .neq k x y u v h.guard, Result.andThen_ok, h.neq w hu hv b hb, Sem.run_pure]
theorem keyLitsStruct {k : TypeId} {sh : List (TypeId × Nat × Bool)} (hsh : structShape P k = sh) (hne : sh ≠ []) (hb : sh.all (·.2.2) = true) {cs : List Value} (hc : P.cellsOf k = cs.length) (d : Nat)
    (hf : ∀ x ∈ sh, ∃ l, P.keyLits d x.1 ((cs.drop x.2.1).take (P.cellsOf x.1)) = some l) : ∃ l, P.keyLits (d + 1) k cs = some l := by
  unfold structShape at hsh
  split at hsh
  · rename_i fs hu
    subst hsh
    obtain ⟨ys, hys⟩ : ∃ ys, fs.toList.mapM (fun f => P.keyLits d f.type ((cs.drop f.offset).take (P.cellsOf f.type))) = some ys :=
      mapM_some fun f hm => hf (f.type, f.offset, f.name != "_") (List.mem_map.2 ⟨f, hm, rfl⟩)
    have hall : fs.all (·.name != "_") = true := by
      rw [← Array.all_toList]
      rw [List.all_map] at hb
      exact hb
    refine ⟨ys.flatten, ?_⟩
    unfold Program.keyLits
    simp only [hu, hc, hall, and_self, if_true, hys]
    rfl
  · exact absurd hsh.symm hne
end
end Go
