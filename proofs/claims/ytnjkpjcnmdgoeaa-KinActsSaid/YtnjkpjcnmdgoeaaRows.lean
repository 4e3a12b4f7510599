/-
  No cell of these rows narrows 'for every input' (looked for: loops, veiled, ifaces, maps, wideKeys, modest, calm, conditions, laid).
  DERIVED. THE GIVEN ROWS OF THIS SEAT. 7 by the template 'for every input the law returns true; each argument reads behind the call as it read before'; 0 by the template 'total and deterministic' (their statements: YtnjkpjcnmdgoeaaTotals.lean).
  GIVEN WITH THE SEED: the statements are not yours to turn. If you find one false, say at which input.
  Laid BY PROGRAM, IN A SANDBOX (cutbox-rows.mjs): the forced cells as the released guide's own fill.sh prints them over the translation 796dd1c117e17a23… (all of the seat's roots in one cut). By AI agents, Wed Nov 11 2026. No macro, syntax, notation, axiom, sorry.
-/
import Derived.Test.YtnjkpjcnmdgoeaaChecked
import GoSem.Claim
import GoSem.ClaimJoined
import GoSem.ClaimMapViews
import Derived.JoinedTies
import Derived.KernelRfl
namespace Go.Proofs.Ytnjkpjcnmdgoeaa
/- THE CELL 'sum', in the pinned program and in every row, IS THE sha256 OF THE DUMP (.gsa) THAT YtnjkpjcnmdgoeaaProg.lean LOADS. Nothing in Lean hashes anything: it is a label: what it is worth is what the hold of that sum in a sandbox is worth. -/
noncomputable def Try.pinned : Pinned := { name := "ytnjkpjcnmdgoeaa", sum := "796dd1c117e17a23d449d95f50746ed93a6cb802c02ac6b928e1d0906f1fe21d", checked := Try.checked }
namespace Rows
def none {H : Type} : Left H := { results := [], args := [] }

/-- 'pappuslaw12.KinBounds': WHATEVER THE INPUT: true; the input reads as it did. -/
def kinBoundsSpec : ChangeSpec := { name := "kinBounds", fn := fun _ => fun
  | [d] => { results := [.lit (.bool true)], args := [d] }
  | _ => none }
def kinBoundsRow : OpenClaim := { program := "ytnjkpjcnmdgoeaa", sum := "796dd1c117e17a23d449d95f50746ed93a6cb802c02ac6b928e1d0906f1fe21d", func := "pappus/pappuslaw12.KinBounds", spec := "kinBounds", unfollowed := true, recurses := true, plainKeys := false, apart := false }
def KinBoundsSaid : Prop := kinBoundsRow.holds Try.pinned (OpenSpec.ofChange kinBoundsSpec)

/-- ITS FALSE NEIGHBOUR: 'it returns false'. Refute it at one input. -/
def kinBoundsWrong : ChangeSpec := { name := "kinBounds", fn := fun _ => fun
  | [d] => { results := [.lit (.bool false)], args := [d] }
  | _ => none }
def KinBoundsWrongFalsely : Prop := kinBoundsRow.holds Try.pinned (OpenSpec.ofChange kinBoundsWrong)

/-- 'pappuslaw12.KinMirrors': WHATEVER THE INPUT: true; the input reads as it did. -/
def kinMirrorsSpec : ChangeSpec := { name := "kinMirrors", fn := fun _ => fun
  | [d] => { results := [.lit (.bool true)], args := [d] }
  | _ => none }
def kinMirrorsRow : OpenClaim := { program := "ytnjkpjcnmdgoeaa", sum := "796dd1c117e17a23d449d95f50746ed93a6cb802c02ac6b928e1d0906f1fe21d", func := "pappus/pappuslaw12.KinMirrors", spec := "kinMirrors", unfollowed := true, recurses := true, plainKeys := false, apart := false }
def KinMirrorsSaid : Prop := kinMirrorsRow.holds Try.pinned (OpenSpec.ofChange kinMirrorsSpec)

/-- ITS FALSE NEIGHBOUR: 'it returns false'. Refute it at one input. -/
def kinMirrorsWrong : ChangeSpec := { name := "kinMirrors", fn := fun _ => fun
  | [d] => { results := [.lit (.bool false)], args := [d] }
  | _ => none }
def KinMirrorsWrongFalsely : Prop := kinMirrorsRow.holds Try.pinned (OpenSpec.ofChange kinMirrorsWrong)

/-- 'pappuslaw12.KinDrops': WHATEVER THE INPUT: true; the input reads as it did. -/
def kinDropsSpec : ChangeSpec := { name := "kinDrops", fn := fun _ => fun
  | [d1, d2] => { results := [.lit (.bool true)], args := [d1, d2] }
  | _ => none }
def kinDropsRow : OpenClaim := { program := "ytnjkpjcnmdgoeaa", sum := "796dd1c117e17a23d449d95f50746ed93a6cb802c02ac6b928e1d0906f1fe21d", func := "pappus/pappuslaw12.KinDrops", spec := "kinDrops", unfollowed := true, recurses := true, plainKeys := false, apart := false }
def KinDropsSaid : Prop := kinDropsRow.holds Try.pinned (OpenSpec.ofChange kinDropsSpec)

/-- ITS FALSE NEIGHBOUR: 'it returns false'. Refute it at one input. -/
def kinDropsWrong : ChangeSpec := { name := "kinDrops", fn := fun _ => fun
  | [d1, d2] => { results := [.lit (.bool false)], args := [d1, d2] }
  | _ => none }
def KinDropsWrongFalsely : Prop := kinDropsRow.holds Try.pinned (OpenSpec.ofChange kinDropsWrong)

/-- 'pappuslaw12.KinParts': WHATEVER THE INPUT: true; the input reads as it did. -/
def kinPartsSpec : ChangeSpec := { name := "kinParts", fn := fun _ => fun
  | [d1, d2, d3] => { results := [.lit (.bool true)], args := [d1, d2, d3] }
  | _ => none }
def kinPartsRow : OpenClaim := { program := "ytnjkpjcnmdgoeaa", sum := "796dd1c117e17a23d449d95f50746ed93a6cb802c02ac6b928e1d0906f1fe21d", func := "pappus/pappuslaw12.KinParts", spec := "kinParts", unfollowed := true, recurses := true, plainKeys := false, apart := false }
def KinPartsSaid : Prop := kinPartsRow.holds Try.pinned (OpenSpec.ofChange kinPartsSpec)

/-- ITS FALSE NEIGHBOUR: 'it returns false'. Refute it at one input. -/
def kinPartsWrong : ChangeSpec := { name := "kinParts", fn := fun _ => fun
  | [d1, d2, d3] => { results := [.lit (.bool false)], args := [d1, d2, d3] }
  | _ => none }
def KinPartsWrongFalsely : Prop := kinPartsRow.holds Try.pinned (OpenSpec.ofChange kinPartsWrong)

/-- 'pappuslaw12.KinActs': WHATEVER THE INPUT: true; the input reads as it did. -/
def kinActsSpec : ChangeSpec := { name := "kinActs", fn := fun _ => fun
  | [d] => { results := [.lit (.bool true)], args := [d] }
  | _ => none }
def kinActsRow : OpenClaim := { program := "ytnjkpjcnmdgoeaa", sum := "796dd1c117e17a23d449d95f50746ed93a6cb802c02ac6b928e1d0906f1fe21d", func := "pappus/pappuslaw12.KinActs", spec := "kinActs", unfollowed := true, recurses := true, plainKeys := false, apart := false }
def KinActsSaid : Prop := kinActsRow.holds Try.pinned (OpenSpec.ofChange kinActsSpec)

/-- ITS FALSE NEIGHBOUR: 'it returns false'. Refute it at one input. -/
def kinActsWrong : ChangeSpec := { name := "kinActs", fn := fun _ => fun
  | [d] => { results := [.lit (.bool false)], args := [d] }
  | _ => none }
def KinActsWrongFalsely : Prop := kinActsRow.holds Try.pinned (OpenSpec.ofChange kinActsWrong)

/-- 'pappuslaw12.KinAdds': WHATEVER THE INPUT: true; the input reads as it did. -/
def kinAddsSpec : ChangeSpec := { name := "kinAdds", fn := fun _ => fun
  | [d1, d2, d3] => { results := [.lit (.bool true)], args := [d1, d2, d3] }
  | _ => none }
def kinAddsRow : OpenClaim := { program := "ytnjkpjcnmdgoeaa", sum := "796dd1c117e17a23d449d95f50746ed93a6cb802c02ac6b928e1d0906f1fe21d", func := "pappus/pappuslaw12.KinAdds", spec := "kinAdds", unfollowed := true, recurses := true, plainKeys := false, apart := false }
def KinAddsSaid : Prop := kinAddsRow.holds Try.pinned (OpenSpec.ofChange kinAddsSpec)

/-- ITS FALSE NEIGHBOUR: 'it returns false'. Refute it at one input. -/
def kinAddsWrong : ChangeSpec := { name := "kinAdds", fn := fun _ => fun
  | [d1, d2, d3] => { results := [.lit (.bool false)], args := [d1, d2, d3] }
  | _ => none }
def KinAddsWrongFalsely : Prop := kinAddsRow.holds Try.pinned (OpenSpec.ofChange kinAddsWrong)

/-- 'pappuslaw12.KinLifts': WHATEVER THE INPUT: true; the input reads as it did. -/
def kinLiftsSpec : ChangeSpec := { name := "kinLifts", fn := fun _ => fun
  | [d1, d2] => { results := [.lit (.bool true)], args := [d1, d2] }
  | _ => none }
def kinLiftsRow : OpenClaim := { program := "ytnjkpjcnmdgoeaa", sum := "796dd1c117e17a23d449d95f50746ed93a6cb802c02ac6b928e1d0906f1fe21d", func := "pappus/pappuslaw12.KinLifts", spec := "kinLifts", unfollowed := true, recurses := true, plainKeys := false, apart := false }
def KinLiftsSaid : Prop := kinLiftsRow.holds Try.pinned (OpenSpec.ofChange kinLiftsSpec)

/-- ITS FALSE NEIGHBOUR: 'it returns false'. Refute it at one input. -/
def kinLiftsWrong : ChangeSpec := { name := "kinLifts", fn := fun _ => fun
  | [d1, d2] => { results := [.lit (.bool false)], args := [d1, d2] }
  | _ => none }
def KinLiftsWrongFalsely : Prop := kinLiftsRow.holds Try.pinned (OpenSpec.ofChange kinLiftsWrong)

/- THE SECOND FORM. 'bulk': how many values and letters a reading holds, each counted each time it is reached (what is shared counts as often as it is met; a slice's spare places count too). A statement '..UptoSaid' is the law's where the arguments, and the package variables that the reading takes, are together of bulk at most 1048576: NARROWER than '..Said'. Prove '..Said' where nothing that the law and all that it calls make is longer than what came in: it says more and counts as full. Else prove '..UptoSaid'. A law counts once. -/
mutual
def uptoBulk {H : Type} : DataW H → Nat
  | .lit (.string bytes) => bytes.length + 1
  | .lit _ => 1
  | .nil => 1
  | .ptr d => uptoBulk d + 1
  | .slice elems spare => uptoBulkAll elems + uptoBulkAll spare + 1
  | .agg parts => uptoBulkAll parts + 1
  | .iface _ d => uptoBulk d + 1
  | .map entries => uptoBulkEntries entries + 1
  | .held _ => 1
def uptoBulkAll {H : Type} : List (DataW H) → Nat
  | [] => 0
  | d :: r => uptoBulk d + uptoBulkAll r
def uptoBulkEntries {H : Type} : List (Lit × DataW H) → Nat
  | [] => 0
  | x :: r => uptoBulkEntry x + uptoBulkEntries r
def uptoBulkEntry {H : Type} : Lit × DataW H → Nat
  | (.string bytes, d) => bytes.length + uptoBulk d + 1
  | (_, d) => uptoBulk d + 1
 end
def uptoSmall : (H : Type) → List (DataW H) → Bool := fun _ ds => decide (uptoBulkAll ds ≤ 1048576)
def OpenSpec.upto (s : _root_.Go.ChangeSpec) : _root_.Go.OpenSpec := { _root_.Go.OpenSpec.ofChange s with cond := some uptoSmall }

/-- 'pappuslaw12.KinBounds', WHERE WHAT IT READS IS OF BULK AT MOST 1048576: true; the input reads as it did. -/
def kinBoundsUptoRow : OpenClaim := { program := "ytnjkpjcnmdgoeaa", sum := "796dd1c117e17a23d449d95f50746ed93a6cb802c02ac6b928e1d0906f1fe21d", func := "pappus/pappuslaw12.KinBounds", spec := "kinBounds", unfollowed := true, recurses := true, plainKeys := false, apart := false, narrowed := true }
def KinBoundsUptoSaid : Prop := kinBoundsUptoRow.holds Try.pinned (OpenSpec.upto kinBoundsSpec)

/-- 'pappuslaw12.KinMirrors', WHERE WHAT IT READS IS OF BULK AT MOST 1048576: true; the input reads as it did. -/
def kinMirrorsUptoRow : OpenClaim := { program := "ytnjkpjcnmdgoeaa", sum := "796dd1c117e17a23d449d95f50746ed93a6cb802c02ac6b928e1d0906f1fe21d", func := "pappus/pappuslaw12.KinMirrors", spec := "kinMirrors", unfollowed := true, recurses := true, plainKeys := false, apart := false, narrowed := true }
def KinMirrorsUptoSaid : Prop := kinMirrorsUptoRow.holds Try.pinned (OpenSpec.upto kinMirrorsSpec)

/-- 'pappuslaw12.KinDrops', WHERE WHAT IT READS IS OF BULK AT MOST 1048576: true; the input reads as it did. -/
def kinDropsUptoRow : OpenClaim := { program := "ytnjkpjcnmdgoeaa", sum := "796dd1c117e17a23d449d95f50746ed93a6cb802c02ac6b928e1d0906f1fe21d", func := "pappus/pappuslaw12.KinDrops", spec := "kinDrops", unfollowed := true, recurses := true, plainKeys := false, apart := false, narrowed := true }
def KinDropsUptoSaid : Prop := kinDropsUptoRow.holds Try.pinned (OpenSpec.upto kinDropsSpec)

/-- 'pappuslaw12.KinParts', WHERE WHAT IT READS IS OF BULK AT MOST 1048576: true; the input reads as it did. -/
def kinPartsUptoRow : OpenClaim := { program := "ytnjkpjcnmdgoeaa", sum := "796dd1c117e17a23d449d95f50746ed93a6cb802c02ac6b928e1d0906f1fe21d", func := "pappus/pappuslaw12.KinParts", spec := "kinParts", unfollowed := true, recurses := true, plainKeys := false, apart := false, narrowed := true }
def KinPartsUptoSaid : Prop := kinPartsUptoRow.holds Try.pinned (OpenSpec.upto kinPartsSpec)

/-- 'pappuslaw12.KinActs', WHERE WHAT IT READS IS OF BULK AT MOST 1048576: true; the input reads as it did. -/
def kinActsUptoRow : OpenClaim := { program := "ytnjkpjcnmdgoeaa", sum := "796dd1c117e17a23d449d95f50746ed93a6cb802c02ac6b928e1d0906f1fe21d", func := "pappus/pappuslaw12.KinActs", spec := "kinActs", unfollowed := true, recurses := true, plainKeys := false, apart := false, narrowed := true }
def KinActsUptoSaid : Prop := kinActsUptoRow.holds Try.pinned (OpenSpec.upto kinActsSpec)

/-- 'pappuslaw12.KinAdds', WHERE WHAT IT READS IS OF BULK AT MOST 1048576: true; the input reads as it did. -/
def kinAddsUptoRow : OpenClaim := { program := "ytnjkpjcnmdgoeaa", sum := "796dd1c117e17a23d449d95f50746ed93a6cb802c02ac6b928e1d0906f1fe21d", func := "pappus/pappuslaw12.KinAdds", spec := "kinAdds", unfollowed := true, recurses := true, plainKeys := false, apart := false, narrowed := true }
def KinAddsUptoSaid : Prop := kinAddsUptoRow.holds Try.pinned (OpenSpec.upto kinAddsSpec)

/-- 'pappuslaw12.KinLifts', WHERE WHAT IT READS IS OF BULK AT MOST 1048576: true; the input reads as it did. -/
def kinLiftsUptoRow : OpenClaim := { program := "ytnjkpjcnmdgoeaa", sum := "796dd1c117e17a23d449d95f50746ed93a6cb802c02ac6b928e1d0906f1fe21d", func := "pappus/pappuslaw12.KinLifts", spec := "kinLifts", unfollowed := true, recurses := true, plainKeys := false, apart := false, narrowed := true }
def KinLiftsUptoSaid : Prop := kinLiftsUptoRow.holds Try.pinned (OpenSpec.upto kinLiftsSpec)

end Rows
end Go.Proofs.Ytnjkpjcnmdgoeaa
