/- The table as the row's premise lays it; the door's own heap meets the premise. -/
import Derived.Test.YthmaekkjpginoaaDoorEmbY
import Derived.Test.YthmaekkjpginoaaDoorPost
import Derived.LaidMore
import Derived.OpenShut
import Derived.Stop.Joined
import Derived.ProofKit
namespace Go.Proofs.YthmaekkjpginoaaDoor
open Go Go.ChangeShapes Go.WideShapes Go.ChangeAt Go.WideMaps Go.WideElems Go.RowKit

def laidL : List (String × DataW Unit) := [("pappus/embargo.table", Rows.laid_pappus_embargo_table)]
theorem gTable : Tryd.prog.globalNamed "pappus/embargo.table" = some 0 := by kernel_rfl
theorem tTable : (Tryd.prog.globals[0]?).map (·.type) = some 70 := by kernel_rfl
theorem door_met (os : Os) (args : Array Value) : laidMetH Tryd.prog laidL ((World.doorLaid Tryd.prog 400 os).forCall (fun _ _ => 0) ⟨#[], args, []⟩).memory :=
  laidMetH_of_parts3 (fuel := 8) (laidMet_of_run' 8 (by kernel_rfl) (by kernel_rfl)) (by kernel_rfl) (by kernel_rfl)

theorem of_laid {W : World} (h : laidMetH Tryd.prog laidL W) : TabAt W := by
  rw [MakeChecks.laidMetH_plain _ _ _ (by kernel_rfl)] at h
  obtain ⟨ps, ⟨g0, t0, cs0, f0, p0, q0, hg0, ht0, hv0, hd0, _, _⟩, _, _⟩ := h
  obtain rfl := Option.some.inj (gTable.symm.trans hg0)
  obtain rfl := Option.some.inj (tTable.symm.trans ht0)
  obtain ⟨xs, m1, rfl, hx1, hlen, hn3, hel⟩ := DataW.trod_array Tryd.underlying70 hd0
  have c8 : Tryd.prog.cellsOf 5 = 1 := by kernel_rfl
  rw [c8] at hel
  have hT : (tabL.map fun n : Nat => DataW.lit (H := Unit) (.int .u8 (n : Int))) = xs.map (·.1) := by
    have e := congrArg Prod.fst hx1
    exact DataW.agg.inj e
  have key : ∀ (j : Nat) (x : Nat), tabL[j]? = some x → W.cell? ⟨0, j, none⟩ = some (.int .u8 x) := by
    intro j x hj
    have hjl : j < 33 := (List.getElem?_eq_some_iff.1 hj).1
    have e := congrArg (·[j]?) hT
    simp only [List.getElem?_map, hj, Option.map_some] at e
    cases hy : xs[j]? with
    | none => rw [hy] at e; cases e
    | some y =>
      rw [hy] at e
      have h0 := hel j hjl
      rw [hy] at h0
      obtain ⟨k, e1, e2, _⟩ := DataW.trod_int Tryd.underlying5 h0
      simp only [Option.map_some, Option.some.injEq] at e
      rw [e2] at e
      have hk : (x : Int) = k := by simpa using e
      subst hk
      have := congrArg (·[0]?) e1
      simp at this
      have hc := World.var?_cell hg0 hv0 j
      rw [hc]
      simpa using this
  exact ⟨(cell_none (key 0 0 rfl)).2, key⟩
end Go.Proofs.YthmaekkjpginoaaDoor
