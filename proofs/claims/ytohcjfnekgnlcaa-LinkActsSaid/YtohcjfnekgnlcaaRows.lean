/-
  No cell of these rows narrows 'for every input' (looked for: loops, veiled, ifaces, maps, wideKeys, modest, calm, conditions, laid).
  DERIVED. THE GIVEN ROWS OF THIS SEAT. 7 by the template 'for every input the law returns true; each argument reads behind the call as it read before'; 0 by the template 'total and deterministic' (their statements: YtohcjfnekgnlcaaTotals.lean).
  GIVEN WITH THE SEED: the statements are not yours to turn. If you find one false, say at which input.
  Laid BY PROGRAM, IN A SANDBOX (cutbox-rows.mjs): the forced cells as the released guide's own fill.sh prints them over the translation fc5cb6e9c47338cf… (all of the seat's roots in one cut). By AI agents, Wed Nov 11 2026. No macro, syntax, notation, axiom, sorry.
-/
import Derived.Test.YtohcjfnekgnlcaaChecked
import GoSem.Claim
import GoSem.ClaimJoined
import GoSem.ClaimMapViews
import Derived.JoinedTies
import Derived.KernelRfl
namespace Go.Proofs.Ytohcjfnekgnlcaa
/- THE CELL 'sum', in the pinned program and in every row, IS THE sha256 OF THE DUMP (.gsa) THAT YtohcjfnekgnlcaaProg.lean LOADS. Nothing in Lean hashes anything: it is a label: what it is worth is what the hold of that sum in a sandbox is worth. -/
noncomputable def Try.pinned : Pinned := { name := "ytohcjfnekgnlcaa", sum := "fc5cb6e9c47338cfcdd6055e02776ec61f7ba3089f43bfd6b945d66960c1c4a4", checked := Try.checked }
namespace Rows
def none {H : Type} : Left H := { results := [], args := [] }

/-- 'pappuslaw24.LinkFull': WHATEVER THE INPUT: true; the input reads as it did. -/
def linkFullSpec : ChangeSpec := { name := "linkFull", fn := fun _ => fun
  | [d1, d2] => { results := [.lit (.bool true)], args := [d1, d2] }
  | _ => none }
def linkFullRow : OpenClaim := { program := "ytohcjfnekgnlcaa", sum := "fc5cb6e9c47338cfcdd6055e02776ec61f7ba3089f43bfd6b945d66960c1c4a4", func := "pappus/pappuslaw24.LinkFull", spec := "linkFull", plainKeys := false, apart := false }
def LinkFullSaid : Prop := linkFullRow.holds Try.pinned (OpenSpec.ofChange linkFullSpec)

/-- ITS FALSE NEIGHBOUR: 'it returns false'. Refute it at one input. -/
def linkFullWrong : ChangeSpec := { name := "linkFull", fn := fun _ => fun
  | [d1, d2] => { results := [.lit (.bool false)], args := [d1, d2] }
  | _ => none }
def LinkFullWrongFalsely : Prop := linkFullRow.holds Try.pinned (OpenSpec.ofChange linkFullWrong)

/-- 'pappuslaw24.LinkOrder': WHATEVER THE INPUT: true; the input reads as it did. -/
def linkOrderSpec : ChangeSpec := { name := "linkOrder", fn := fun _ => fun
  | [d1, d2] => { results := [.lit (.bool true)], args := [d1, d2] }
  | _ => none }
def linkOrderRow : OpenClaim := { program := "ytohcjfnekgnlcaa", sum := "fc5cb6e9c47338cfcdd6055e02776ec61f7ba3089f43bfd6b945d66960c1c4a4", func := "pappus/pappuslaw24.LinkOrder", spec := "linkOrder", plainKeys := false, apart := false }
def LinkOrderSaid : Prop := linkOrderRow.holds Try.pinned (OpenSpec.ofChange linkOrderSpec)

/-- ITS FALSE NEIGHBOUR: 'it returns false'. Refute it at one input. -/
def linkOrderWrong : ChangeSpec := { name := "linkOrder", fn := fun _ => fun
  | [d1, d2] => { results := [.lit (.bool false)], args := [d1, d2] }
  | _ => none }
def LinkOrderWrongFalsely : Prop := linkOrderRow.holds Try.pinned (OpenSpec.ofChange linkOrderWrong)

/-- 'pappuslaw24.LinkPicks': WHATEVER THE INPUT: true; the input reads as it did. -/
def linkPicksSpec : ChangeSpec := { name := "linkPicks", fn := fun _ => fun
  | [d1, d2] => { results := [.lit (.bool true)], args := [d1, d2] }
  | _ => none }
def linkPicksRow : OpenClaim := { program := "ytohcjfnekgnlcaa", sum := "fc5cb6e9c47338cfcdd6055e02776ec61f7ba3089f43bfd6b945d66960c1c4a4", func := "pappus/pappuslaw24.LinkPicks", spec := "linkPicks", plainKeys := false, apart := false }
def LinkPicksSaid : Prop := linkPicksRow.holds Try.pinned (OpenSpec.ofChange linkPicksSpec)

/-- ITS FALSE NEIGHBOUR: 'it returns false'. Refute it at one input. -/
def linkPicksWrong : ChangeSpec := { name := "linkPicks", fn := fun _ => fun
  | [d1, d2] => { results := [.lit (.bool false)], args := [d1, d2] }
  | _ => none }
def LinkPicksWrongFalsely : Prop := linkPicksRow.holds Try.pinned (OpenSpec.ofChange linkPicksWrong)

/-- 'pappuslaw24.LinkApart': WHATEVER THE INPUT: true; the input reads as it did. -/
def linkApartSpec : ChangeSpec := { name := "linkApart", fn := fun _ => fun
  | [d] => { results := [.lit (.bool true)], args := [d] }
  | _ => none }
def linkApartRow : OpenClaim := { program := "ytohcjfnekgnlcaa", sum := "fc5cb6e9c47338cfcdd6055e02776ec61f7ba3089f43bfd6b945d66960c1c4a4", func := "pappus/pappuslaw24.LinkApart", spec := "linkApart", plainKeys := false, apart := false }
def LinkApartSaid : Prop := linkApartRow.holds Try.pinned (OpenSpec.ofChange linkApartSpec)

/-- ITS FALSE NEIGHBOUR: 'it returns false'. Refute it at one input. -/
def linkApartWrong : ChangeSpec := { name := "linkApart", fn := fun _ => fun
  | [d] => { results := [.lit (.bool false)], args := [d] }
  | _ => none }
def LinkApartWrongFalsely : Prop := linkApartRow.holds Try.pinned (OpenSpec.ofChange linkApartWrong)

/-- 'pappuslaw24.LinkBoth': WHATEVER THE INPUT: true; the input reads as it did. -/
def linkBothSpec : ChangeSpec := { name := "linkBoth", fn := fun _ => fun
  | [d1, d2, d3] => { results := [.lit (.bool true)], args := [d1, d2, d3] }
  | _ => none }
def linkBothRow : OpenClaim := { program := "ytohcjfnekgnlcaa", sum := "fc5cb6e9c47338cfcdd6055e02776ec61f7ba3089f43bfd6b945d66960c1c4a4", func := "pappus/pappuslaw24.LinkBoth", spec := "linkBoth", plainKeys := false, apart := false }
def LinkBothSaid : Prop := linkBothRow.holds Try.pinned (OpenSpec.ofChange linkBothSpec)

/-- ITS FALSE NEIGHBOUR: 'it returns false'. Refute it at one input. -/
def linkBothWrong : ChangeSpec := { name := "linkBoth", fn := fun _ => fun
  | [d1, d2, d3] => { results := [.lit (.bool false)], args := [d1, d2, d3] }
  | _ => none }
def LinkBothWrongFalsely : Prop := linkBothRow.holds Try.pinned (OpenSpec.ofChange linkBothWrong)

/-- 'pappuslaw24.LinkActs': WHATEVER THE INPUT: true; the input reads as it did. -/
def linkActsSpec : ChangeSpec := { name := "linkActs", fn := fun _ => fun
  | [d] => { results := [.lit (.bool true)], args := [d] }
  | _ => none }
def linkActsRow : OpenClaim := { program := "ytohcjfnekgnlcaa", sum := "fc5cb6e9c47338cfcdd6055e02776ec61f7ba3089f43bfd6b945d66960c1c4a4", func := "pappus/pappuslaw24.LinkActs", spec := "linkActs", plainKeys := false, apart := false }
def LinkActsSaid : Prop := linkActsRow.holds Try.pinned (OpenSpec.ofChange linkActsSpec)

/-- ITS FALSE NEIGHBOUR: 'it returns false'. Refute it at one input. -/
def linkActsWrong : ChangeSpec := { name := "linkActs", fn := fun _ => fun
  | [d] => { results := [.lit (.bool false)], args := [d] }
  | _ => none }
def LinkActsWrongFalsely : Prop := linkActsRow.holds Try.pinned (OpenSpec.ofChange linkActsWrong)

/-- 'pappuslaw24.LinkCounts': WHATEVER THE INPUT: true; the input reads as it did. -/
def linkCountsSpec : ChangeSpec := { name := "linkCounts", fn := fun _ => fun
  | [d] => { results := [.lit (.bool true)], args := [d] }
  | _ => none }
def linkCountsRow : OpenClaim := { program := "ytohcjfnekgnlcaa", sum := "fc5cb6e9c47338cfcdd6055e02776ec61f7ba3089f43bfd6b945d66960c1c4a4", func := "pappus/pappuslaw24.LinkCounts", spec := "linkCounts", plainKeys := false, apart := false }
def LinkCountsSaid : Prop := linkCountsRow.holds Try.pinned (OpenSpec.ofChange linkCountsSpec)

/-- ITS FALSE NEIGHBOUR: 'it returns false'. Refute it at one input. -/
def linkCountsWrong : ChangeSpec := { name := "linkCounts", fn := fun _ => fun
  | [d] => { results := [.lit (.bool false)], args := [d] }
  | _ => none }
def LinkCountsWrongFalsely : Prop := linkCountsRow.holds Try.pinned (OpenSpec.ofChange linkCountsWrong)

/- THE SECOND FORM. 'bulk': how many values and letters a reading holds, each counted each time it is reached (what is shared counts as often as it is met; a slice's spare places count too). A statement '..UptoSaid' is the law's where the arguments, and the package variables that the reading takes, are together of bulk at most 1048576: NARROWER than '..Said'. Prove '..Said' where nothing that the law and all that it calls make is longer than what came in: it says more and counts as full. Else prove '..UptoSaid'. A law counts once. -/
mutual
def uptoBulk {H : Type} : DataW H → Nat
  | .lit (.string bytes) => bytes.length + 1
  | .lit _ => 1
  | .nil => 1
  | .ptr d => uptoBulk d + 1
  | .slice elems spare => uptoBulkAll elems + uptoBulkAll spare + 1
  | .agg parts => uptoBulkAll parts + 1
  | .iface _ d => uptoBulk d + 1
  | .map entries => uptoBulkEntries entries + 1
  | .held _ => 1
def uptoBulkAll {H : Type} : List (DataW H) → Nat
  | [] => 0
  | d :: r => uptoBulk d + uptoBulkAll r
def uptoBulkEntries {H : Type} : List (Lit × DataW H) → Nat
  | [] => 0
  | x :: r => uptoBulkEntry x + uptoBulkEntries r
def uptoBulkEntry {H : Type} : Lit × DataW H → Nat
  | (.string bytes, d) => bytes.length + uptoBulk d + 1
  | (_, d) => uptoBulk d + 1
 end
def uptoSmall : (H : Type) → List (DataW H) → Bool := fun _ ds => decide (uptoBulkAll ds ≤ 1048576)
def OpenSpec.upto (s : _root_.Go.ChangeSpec) : _root_.Go.OpenSpec := { _root_.Go.OpenSpec.ofChange s with cond := some uptoSmall }

/-- 'pappuslaw24.LinkFull', WHERE WHAT IT READS IS OF BULK AT MOST 1048576: true; the input reads as it did. -/
def linkFullUptoRow : OpenClaim := { program := "ytohcjfnekgnlcaa", sum := "fc5cb6e9c47338cfcdd6055e02776ec61f7ba3089f43bfd6b945d66960c1c4a4", func := "pappus/pappuslaw24.LinkFull", spec := "linkFull", plainKeys := false, apart := false, narrowed := true }
def LinkFullUptoSaid : Prop := linkFullUptoRow.holds Try.pinned (OpenSpec.upto linkFullSpec)

/-- 'pappuslaw24.LinkOrder', WHERE WHAT IT READS IS OF BULK AT MOST 1048576: true; the input reads as it did. -/
def linkOrderUptoRow : OpenClaim := { program := "ytohcjfnekgnlcaa", sum := "fc5cb6e9c47338cfcdd6055e02776ec61f7ba3089f43bfd6b945d66960c1c4a4", func := "pappus/pappuslaw24.LinkOrder", spec := "linkOrder", plainKeys := false, apart := false, narrowed := true }
def LinkOrderUptoSaid : Prop := linkOrderUptoRow.holds Try.pinned (OpenSpec.upto linkOrderSpec)

/-- 'pappuslaw24.LinkPicks', WHERE WHAT IT READS IS OF BULK AT MOST 1048576: true; the input reads as it did. -/
def linkPicksUptoRow : OpenClaim := { program := "ytohcjfnekgnlcaa", sum := "fc5cb6e9c47338cfcdd6055e02776ec61f7ba3089f43bfd6b945d66960c1c4a4", func := "pappus/pappuslaw24.LinkPicks", spec := "linkPicks", plainKeys := false, apart := false, narrowed := true }
def LinkPicksUptoSaid : Prop := linkPicksUptoRow.holds Try.pinned (OpenSpec.upto linkPicksSpec)

/-- 'pappuslaw24.LinkApart', WHERE WHAT IT READS IS OF BULK AT MOST 1048576: true; the input reads as it did. -/
def linkApartUptoRow : OpenClaim := { program := "ytohcjfnekgnlcaa", sum := "fc5cb6e9c47338cfcdd6055e02776ec61f7ba3089f43bfd6b945d66960c1c4a4", func := "pappus/pappuslaw24.LinkApart", spec := "linkApart", plainKeys := false, apart := false, narrowed := true }
def LinkApartUptoSaid : Prop := linkApartUptoRow.holds Try.pinned (OpenSpec.upto linkApartSpec)

/-- 'pappuslaw24.LinkBoth', WHERE WHAT IT READS IS OF BULK AT MOST 1048576: true; the input reads as it did. -/
def linkBothUptoRow : OpenClaim := { program := "ytohcjfnekgnlcaa", sum := "fc5cb6e9c47338cfcdd6055e02776ec61f7ba3089f43bfd6b945d66960c1c4a4", func := "pappus/pappuslaw24.LinkBoth", spec := "linkBoth", plainKeys := false, apart := false, narrowed := true }
def LinkBothUptoSaid : Prop := linkBothUptoRow.holds Try.pinned (OpenSpec.upto linkBothSpec)

/-- 'pappuslaw24.LinkActs', WHERE WHAT IT READS IS OF BULK AT MOST 1048576: true; the input reads as it did. -/
def linkActsUptoRow : OpenClaim := { program := "ytohcjfnekgnlcaa", sum := "fc5cb6e9c47338cfcdd6055e02776ec61f7ba3089f43bfd6b945d66960c1c4a4", func := "pappus/pappuslaw24.LinkActs", spec := "linkActs", plainKeys := false, apart := false, narrowed := true }
def LinkActsUptoSaid : Prop := linkActsUptoRow.holds Try.pinned (OpenSpec.upto linkActsSpec)

/-- 'pappuslaw24.LinkCounts', WHERE WHAT IT READS IS OF BULK AT MOST 1048576: true; the input reads as it did. -/
def linkCountsUptoRow : OpenClaim := { program := "ytohcjfnekgnlcaa", sum := "fc5cb6e9c47338cfcdd6055e02776ec61f7ba3089f43bfd6b945d66960c1c4a4", func := "pappus/pappuslaw24.LinkCounts", spec := "linkCounts", plainKeys := false, apart := false, narrowed := true }
def LinkCountsUptoSaid : Prop := linkCountsUptoRow.holds Try.pinned (OpenSpec.upto linkCountsSpec)

end Rows
end Go.Proofs.Ytohcjfnekgnlcaa
