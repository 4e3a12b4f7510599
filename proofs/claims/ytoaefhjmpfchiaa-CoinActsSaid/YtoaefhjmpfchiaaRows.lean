/-
  No cell of these rows narrows 'for every input' (looked for: loops, veiled, ifaces, maps, wideKeys, modest, calm, conditions, laid).
  DERIVED. THE GIVEN ROWS OF THIS SEAT. 7 by the template 'for every input the law returns true; each argument reads behind the call as it read before'; 0 by the template 'total and deterministic' (their statements: YtoaefhjmpfchiaaTotals.lean).
  GIVEN WITH THE SEED: the statements are not yours to turn. If you find one false, say at which input.
  Laid BY PROGRAM, IN A SANDBOX (cutbox-rows.mjs): the forced cells as the released guide's own fill.sh prints them over the translation 29310611ac5477b3… (all of the seat's roots in one cut). By AI agents, Wed Nov 11 2026. No macro, syntax, notation, axiom, sorry.
-/
import Derived.Test.YtoaefhjmpfchiaaChecked
import GoSem.Claim
import GoSem.ClaimJoined
import GoSem.ClaimMapViews
import Derived.JoinedTies
import Derived.KernelRfl
namespace Go.Proofs.Ytoaefhjmpfchiaa
/- THE CELL 'sum', in the pinned program and in every row, IS THE sha256 OF THE DUMP (.gsa) THAT YtoaefhjmpfchiaaProg.lean LOADS. Nothing in Lean hashes anything: it is a label: what it is worth is what the hold of that sum in a sandbox is worth. -/
noncomputable def Try.pinned : Pinned := { name := "ytoaefhjmpfchiaa", sum := "29310611ac5477b39fb0c4f5052d7f8947bac3386ea127eeecb90c28dda78893", checked := Try.checked }
namespace Rows
def none {H : Type} : Left H := { results := [], args := [] }

/-- 'pappuslaw09.CoinFinds': WHATEVER THE INPUT: true; the input reads as it did. -/
def coinFindsSpec : ChangeSpec := { name := "coinFinds", fn := fun _ => fun
  | [d1, d2] => { results := [.lit (.bool true)], args := [d1, d2] }
  | _ => none }
def coinFindsRow : OpenClaim := { program := "ytoaefhjmpfchiaa", sum := "29310611ac5477b39fb0c4f5052d7f8947bac3386ea127eeecb90c28dda78893", func := "pappus/pappuslaw09.CoinFinds", spec := "coinFinds", inPlace := ["internal/bytealg.Compare"], unfollowed := true, recurses := true, plainKeys := false, apart := false }
def CoinFindsSaid : Prop := coinFindsRow.holds Try.pinned (OpenSpec.ofChange coinFindsSpec)

/-- ITS FALSE NEIGHBOUR: 'it returns false'. Refute it at one input. -/
def coinFindsWrong : ChangeSpec := { name := "coinFinds", fn := fun _ => fun
  | [d1, d2] => { results := [.lit (.bool false)], args := [d1, d2] }
  | _ => none }
def CoinFindsWrongFalsely : Prop := coinFindsRow.holds Try.pinned (OpenSpec.ofChange coinFindsWrong)

/-- 'pappuslaw09.CoinOrder': WHATEVER THE INPUT: true; the input reads as it did. -/
def coinOrderSpec : ChangeSpec := { name := "coinOrder", fn := fun _ => fun
  | [d] => { results := [.lit (.bool true)], args := [d] }
  | _ => none }
def coinOrderRow : OpenClaim := { program := "ytoaefhjmpfchiaa", sum := "29310611ac5477b39fb0c4f5052d7f8947bac3386ea127eeecb90c28dda78893", func := "pappus/pappuslaw09.CoinOrder", spec := "coinOrder", inPlace := ["internal/bytealg.Compare"], unfollowed := true, recurses := true, plainKeys := false, apart := false }
def CoinOrderSaid : Prop := coinOrderRow.holds Try.pinned (OpenSpec.ofChange coinOrderSpec)

/-- ITS FALSE NEIGHBOUR: 'it returns false'. Refute it at one input. -/
def coinOrderWrong : ChangeSpec := { name := "coinOrder", fn := fun _ => fun
  | [d] => { results := [.lit (.bool false)], args := [d] }
  | _ => none }
def CoinOrderWrongFalsely : Prop := coinOrderRow.holds Try.pinned (OpenSpec.ofChange coinOrderWrong)

/-- 'pappuslaw09.CoinActs': WHATEVER THE INPUT: true; the input reads as it did. -/
def coinActsSpec : ChangeSpec := { name := "coinActs", fn := fun _ => fun
  | [d] => { results := [.lit (.bool true)], args := [d] }
  | _ => none }
def coinActsRow : OpenClaim := { program := "ytoaefhjmpfchiaa", sum := "29310611ac5477b39fb0c4f5052d7f8947bac3386ea127eeecb90c28dda78893", func := "pappus/pappuslaw09.CoinActs", spec := "coinActs", inPlace := ["internal/bytealg.Compare"], unfollowed := true, recurses := true, plainKeys := false, apart := false }
def CoinActsSaid : Prop := coinActsRow.holds Try.pinned (OpenSpec.ofChange coinActsSpec)

/-- ITS FALSE NEIGHBOUR: 'it returns false'. Refute it at one input. -/
def coinActsWrong : ChangeSpec := { name := "coinActs", fn := fun _ => fun
  | [d] => { results := [.lit (.bool false)], args := [d] }
  | _ => none }
def CoinActsWrongFalsely : Prop := coinActsRow.holds Try.pinned (OpenSpec.ofChange coinActsWrong)

/-- 'pappuslaw09.CoinBack': WHATEVER THE INPUT: true; the input reads as it did. -/
def coinBackSpec : ChangeSpec := { name := "coinBack", fn := fun _ => fun
  | [d1, d2] => { results := [.lit (.bool true)], args := [d1, d2] }
  | _ => none }
def coinBackRow : OpenClaim := { program := "ytoaefhjmpfchiaa", sum := "29310611ac5477b39fb0c4f5052d7f8947bac3386ea127eeecb90c28dda78893", func := "pappus/pappuslaw09.CoinBack", spec := "coinBack", inPlace := ["internal/bytealg.Compare"], unfollowed := true, recurses := true, plainKeys := false, apart := false }
def CoinBackSaid : Prop := coinBackRow.holds Try.pinned (OpenSpec.ofChange coinBackSpec)

/-- ITS FALSE NEIGHBOUR: 'it returns false'. Refute it at one input. -/
def coinBackWrong : ChangeSpec := { name := "coinBack", fn := fun _ => fun
  | [d1, d2] => { results := [.lit (.bool false)], args := [d1, d2] }
  | _ => none }
def CoinBackWrongFalsely : Prop := coinBackRow.holds Try.pinned (OpenSpec.ofChange coinBackWrong)

/-- 'pappuslaw09.CoinRefuses': WHATEVER THE INPUT: true; the input reads as it did. -/
def coinRefusesSpec : ChangeSpec := { name := "coinRefuses", fn := fun _ => fun
  | [d1, d2, d3] => { results := [.lit (.bool true)], args := [d1, d2, d3] }
  | _ => none }
def coinRefusesRow : OpenClaim := { program := "ytoaefhjmpfchiaa", sum := "29310611ac5477b39fb0c4f5052d7f8947bac3386ea127eeecb90c28dda78893", func := "pappus/pappuslaw09.CoinRefuses", spec := "coinRefuses", inPlace := ["internal/bytealg.Compare"], unfollowed := true, recurses := true, plainKeys := false, apart := false }
def CoinRefusesSaid : Prop := coinRefusesRow.holds Try.pinned (OpenSpec.ofChange coinRefusesSpec)

/-- ITS FALSE NEIGHBOUR: 'it returns false'. Refute it at one input. -/
def coinRefusesWrong : ChangeSpec := { name := "coinRefuses", fn := fun _ => fun
  | [d1, d2, d3] => { results := [.lit (.bool false)], args := [d1, d2, d3] }
  | _ => none }
def CoinRefusesWrongFalsely : Prop := coinRefusesRow.holds Try.pinned (OpenSpec.ofChange coinRefusesWrong)

/-- 'pappuslaw09.CoinParts': WHATEVER THE INPUT: true; the input reads as it did. -/
def coinPartsSpec : ChangeSpec := { name := "coinParts", fn := fun _ => fun
  | [d1, d2] => { results := [.lit (.bool true)], args := [d1, d2] }
  | _ => none }
def coinPartsRow : OpenClaim := { program := "ytoaefhjmpfchiaa", sum := "29310611ac5477b39fb0c4f5052d7f8947bac3386ea127eeecb90c28dda78893", func := "pappus/pappuslaw09.CoinParts", spec := "coinParts", inPlace := ["internal/bytealg.Compare"], unfollowed := true, recurses := true, plainKeys := false, apart := false }
def CoinPartsSaid : Prop := coinPartsRow.holds Try.pinned (OpenSpec.ofChange coinPartsSpec)

/-- ITS FALSE NEIGHBOUR: 'it returns false'. Refute it at one input. -/
def coinPartsWrong : ChangeSpec := { name := "coinParts", fn := fun _ => fun
  | [d1, d2] => { results := [.lit (.bool false)], args := [d1, d2] }
  | _ => none }
def CoinPartsWrongFalsely : Prop := coinPartsRow.holds Try.pinned (OpenSpec.ofChange coinPartsWrong)

/-- 'pappuslaw09.CoinCopies': WHATEVER THE INPUT: true; the input reads as it did. -/
def coinCopiesSpec : ChangeSpec := { name := "coinCopies", fn := fun _ => fun
  | [d1, d2] => { results := [.lit (.bool true)], args := [d1, d2] }
  | _ => none }
def coinCopiesRow : OpenClaim := { program := "ytoaefhjmpfchiaa", sum := "29310611ac5477b39fb0c4f5052d7f8947bac3386ea127eeecb90c28dda78893", func := "pappus/pappuslaw09.CoinCopies", spec := "coinCopies", inPlace := ["internal/bytealg.Compare", "maps.clone"], unfollowed := true, recurses := true, plainKeys := false, apart := false }
def CoinCopiesSaid : Prop := coinCopiesRow.holds Try.pinned (OpenSpec.ofChange coinCopiesSpec)

/-- ITS FALSE NEIGHBOUR: 'it returns false'. Refute it at one input. -/
def coinCopiesWrong : ChangeSpec := { name := "coinCopies", fn := fun _ => fun
  | [d1, d2] => { results := [.lit (.bool false)], args := [d1, d2] }
  | _ => none }
def CoinCopiesWrongFalsely : Prop := coinCopiesRow.holds Try.pinned (OpenSpec.ofChange coinCopiesWrong)

/- THE SECOND FORM. 'bulk': how many values and letters a reading holds, each counted each time it is reached (what is shared counts as often as it is met; a slice's spare places count too). A statement '..UptoSaid' is the law's where the arguments, and the package variables that the reading takes, are together of bulk at most 1048576: NARROWER than '..Said'. Prove '..Said' where nothing that the law and all that it calls make is longer than what came in: it says more and counts as full. Else prove '..UptoSaid'. A law counts once. -/
mutual
def uptoBulk {H : Type} : DataW H → Nat
  | .lit (.string bytes) => bytes.length + 1
  | .lit _ => 1
  | .nil => 1
  | .ptr d => uptoBulk d + 1
  | .slice elems spare => uptoBulkAll elems + uptoBulkAll spare + 1
  | .agg parts => uptoBulkAll parts + 1
  | .iface _ d => uptoBulk d + 1
  | .map entries => uptoBulkEntries entries + 1
  | .held _ => 1
def uptoBulkAll {H : Type} : List (DataW H) → Nat
  | [] => 0
  | d :: r => uptoBulk d + uptoBulkAll r
def uptoBulkEntries {H : Type} : List (Lit × DataW H) → Nat
  | [] => 0
  | x :: r => uptoBulkEntry x + uptoBulkEntries r
def uptoBulkEntry {H : Type} : Lit × DataW H → Nat
  | (.string bytes, d) => bytes.length + uptoBulk d + 1
  | (_, d) => uptoBulk d + 1
 end
def uptoSmall : (H : Type) → List (DataW H) → Bool := fun _ ds => decide (uptoBulkAll ds ≤ 1048576)
def OpenSpec.upto (s : _root_.Go.ChangeSpec) : _root_.Go.OpenSpec := { _root_.Go.OpenSpec.ofChange s with cond := some uptoSmall }

/-- 'pappuslaw09.CoinFinds', WHERE WHAT IT READS IS OF BULK AT MOST 1048576: true; the input reads as it did. -/
def coinFindsUptoRow : OpenClaim := { program := "ytoaefhjmpfchiaa", sum := "29310611ac5477b39fb0c4f5052d7f8947bac3386ea127eeecb90c28dda78893", func := "pappus/pappuslaw09.CoinFinds", spec := "coinFinds", inPlace := ["internal/bytealg.Compare"], unfollowed := true, recurses := true, plainKeys := false, apart := false, narrowed := true }
def CoinFindsUptoSaid : Prop := coinFindsUptoRow.holds Try.pinned (OpenSpec.upto coinFindsSpec)

/-- 'pappuslaw09.CoinOrder', WHERE WHAT IT READS IS OF BULK AT MOST 1048576: true; the input reads as it did. -/
def coinOrderUptoRow : OpenClaim := { program := "ytoaefhjmpfchiaa", sum := "29310611ac5477b39fb0c4f5052d7f8947bac3386ea127eeecb90c28dda78893", func := "pappus/pappuslaw09.CoinOrder", spec := "coinOrder", inPlace := ["internal/bytealg.Compare"], unfollowed := true, recurses := true, plainKeys := false, apart := false, narrowed := true }
def CoinOrderUptoSaid : Prop := coinOrderUptoRow.holds Try.pinned (OpenSpec.upto coinOrderSpec)

/-- 'pappuslaw09.CoinActs', WHERE WHAT IT READS IS OF BULK AT MOST 1048576: true; the input reads as it did. -/
def coinActsUptoRow : OpenClaim := { program := "ytoaefhjmpfchiaa", sum := "29310611ac5477b39fb0c4f5052d7f8947bac3386ea127eeecb90c28dda78893", func := "pappus/pappuslaw09.CoinActs", spec := "coinActs", inPlace := ["internal/bytealg.Compare"], unfollowed := true, recurses := true, plainKeys := false, apart := false, narrowed := true }
def CoinActsUptoSaid : Prop := coinActsUptoRow.holds Try.pinned (OpenSpec.upto coinActsSpec)

/-- 'pappuslaw09.CoinBack', WHERE WHAT IT READS IS OF BULK AT MOST 1048576: true; the input reads as it did. -/
def coinBackUptoRow : OpenClaim := { program := "ytoaefhjmpfchiaa", sum := "29310611ac5477b39fb0c4f5052d7f8947bac3386ea127eeecb90c28dda78893", func := "pappus/pappuslaw09.CoinBack", spec := "coinBack", inPlace := ["internal/bytealg.Compare"], unfollowed := true, recurses := true, plainKeys := false, apart := false, narrowed := true }
def CoinBackUptoSaid : Prop := coinBackUptoRow.holds Try.pinned (OpenSpec.upto coinBackSpec)

/-- 'pappuslaw09.CoinRefuses', WHERE WHAT IT READS IS OF BULK AT MOST 1048576: true; the input reads as it did. -/
def coinRefusesUptoRow : OpenClaim := { program := "ytoaefhjmpfchiaa", sum := "29310611ac5477b39fb0c4f5052d7f8947bac3386ea127eeecb90c28dda78893", func := "pappus/pappuslaw09.CoinRefuses", spec := "coinRefuses", inPlace := ["internal/bytealg.Compare"], unfollowed := true, recurses := true, plainKeys := false, apart := false, narrowed := true }
def CoinRefusesUptoSaid : Prop := coinRefusesUptoRow.holds Try.pinned (OpenSpec.upto coinRefusesSpec)

/-- 'pappuslaw09.CoinParts', WHERE WHAT IT READS IS OF BULK AT MOST 1048576: true; the input reads as it did. -/
def coinPartsUptoRow : OpenClaim := { program := "ytoaefhjmpfchiaa", sum := "29310611ac5477b39fb0c4f5052d7f8947bac3386ea127eeecb90c28dda78893", func := "pappus/pappuslaw09.CoinParts", spec := "coinParts", inPlace := ["internal/bytealg.Compare"], unfollowed := true, recurses := true, plainKeys := false, apart := false, narrowed := true }
def CoinPartsUptoSaid : Prop := coinPartsUptoRow.holds Try.pinned (OpenSpec.upto coinPartsSpec)

/-- 'pappuslaw09.CoinCopies', WHERE WHAT IT READS IS OF BULK AT MOST 1048576: true; the input reads as it did. -/
def coinCopiesUptoRow : OpenClaim := { program := "ytoaefhjmpfchiaa", sum := "29310611ac5477b39fb0c4f5052d7f8947bac3386ea127eeecb90c28dda78893", func := "pappus/pappuslaw09.CoinCopies", spec := "coinCopies", inPlace := ["internal/bytealg.Compare", "maps.clone"], unfollowed := true, recurses := true, plainKeys := false, apart := false, narrowed := true }
def CoinCopiesUptoSaid : Prop := coinCopiesUptoRow.holds Try.pinned (OpenSpec.upto coinCopiesSpec)

end Rows
end Go.Proofs.Ytoaefhjmpfchiaa
