/- A row of bools opened. -/
import Derived.Test.YtoaefhjmpfchiaaOpen
import Derived.Test.YtoaefhjmpfchiaaCoiPartsW
namespace Go.Proofs.Ytoaefhjmpfchiaa
open Go Go.RowKit Go.ChangeShapes Go.WideShapes Go.Deep

section
variable {H : Type} {enc : TypeId × Value → H} {w : World} {base : Nat} {spare : Nat → Bool} {held : Bool}
set_option maxRecDepth 20000 in
theorem open_bools {fuel : Nat} {v : Value} {x : DataW H × List MemPlace} (h : DataW.trod enc Try.prog w base spare held fuel 63 [v] = some x) : ∃ L, BoolsIs w v L := by
  obtain ⟨L, -, hL⟩ := open_flat (f := boolC) (ok := fun _ => True) Try.underlying63 (k := 1) (by kernel_rfl) (by decide) (fun _ _ => rfl) (fun _ cs _ h => by
    obtain ⟨b, rfl, -⟩ := DataW.trod_bool Try.underlying4 h
    exact ⟨b, trivial, rfl⟩) h
  exact ⟨L, hL⟩
end
end Go.Proofs.Ytoaefhjmpfchiaa
