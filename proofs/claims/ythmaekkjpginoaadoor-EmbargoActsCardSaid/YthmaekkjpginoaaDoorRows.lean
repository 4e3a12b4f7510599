/-
  NARROWER THAN 'FOR EVERY INPUT', by the rows' own cells (each row's printed sentence says how): EmbargoDelays: laid · EmbargoRises: laid · EmbargoSteps: laid · EmbargoOnce: laid · EmbargoDrops: laid · EmbargoActs: laid · EmbargoDue: laid.
  DERIVED. THE GIVEN ROWS OF THIS SEAT. 7 by the template 'for every input the law returns true; each argument reads behind the call as it read before'; 0 by the template 'total and deterministic' (their statements: YthmaekkjpginoaaDoorTotals.lean).
  GIVEN WITH THE SEED: the statements are not yours to turn. If you find one false, say at which input.
  Laid BY PROGRAM, IN A SANDBOX (cutbox-rows.mjs): the forced cells as the released guide's own fill.sh prints them over the translation 205bbc1f8a0e30d4… (all of the seat's roots in one cut). By AI agents, Wed Nov 11 2026. No macro, syntax, notation, axiom, sorry.
-/
import Derived.Test.YthmaekkjpginoaaDoorChecked
import GoSem.Claim
import GoSem.ClaimJoined
import GoSem.ClaimMapViews
import Derived.JoinedTies
import Derived.KernelRfl
namespace Go.Proofs.YthmaekkjpginoaaDoor
/- THE CELL 'sum', in the pinned program and in every row, IS THE sha256 OF THE DUMP (.gsa) THAT YthmaekkjpginoaaDoorProg.lean LOADS. Nothing in Lean hashes anything: it is a label: what it is worth is what the hold of that sum in a sandbox is worth. -/
noncomputable def Tryd.pinned : Pinned := { name := "ythmaekkjpginoaadoor", sum := "205bbc1f8a0e30d4c6c5d626d9760be115ab1ac9ce585a65d2a8a587fd8f4958", checked := Tryd.checked }
namespace Rows
def none {H : Type} : Left H := { results := [], args := [] }

/- WHAT THE LISTED PACKAGE-LEVEL VARIABLES READ AS WHEN THE CALL BEGINS. Each datum BY PROGRAM (the guide's laid-datum.mjs) off the statement by which the dump's own 'gosem.cut.vars' lays the variable. In a bare row this is a premise. The card (YthmaekkjpginoaaDoorCards.lean) ties it to the program's text. -/
def laid_pappus_embargo_table {H : Type} : DataW H := .agg [.lit (.int .u8 0), .lit (.int .u8 1), .lit (.int .u8 2), .lit (.int .u8 2), .lit (.int .u8 3), .lit (.int .u8 4), .lit (.int .u8 5), .lit (.int .u8 5), .lit (.int .u8 6), .lit (.int .u8 7), .lit (.int .u8 8), .lit (.int .u8 9), .lit (.int .u8 10), .lit (.int .u8 11), .lit (.int .u8 12), .lit (.int .u8 13), .lit (.int .u8 14), .lit (.int .u8 16), .lit (.int .u8 17), .lit (.int .u8 19), .lit (.int .u8 20), .lit (.int .u8 22), .lit (.int .u8 24), .lit (.int .u8 27), .lit (.int .u8 29), .lit (.int .u8 32), .lit (.int .u8 35), .lit (.int .u8 39), .lit (.int .u8 44), .lit (.int .u8 51), .lit (.int .u8 61), .lit (.int .u8 83), .lit (.int .u8 100)]

/-- 'pappuslaw16.EmbargoDelays': WHATEVER THE INPUT: true; the input reads as it did. -/
def embargoDelaysSpec : ChangeSpec := { name := "embargoDelays", fn := fun _ => fun
  | [d] => { results := [.lit (.bool true)], args := [d] }
  | _ => none }
def embargoDelaysRow : OpenClaim := { program := "ythmaekkjpginoaadoor", sum := "205bbc1f8a0e30d4c6c5d626d9760be115ab1ac9ce585a65d2a8a587fd8f4958", func := "pappus/pappuslaw16.EmbargoDelays", spec := "embargoDelays", named := ["pappus/embargo.table"], plainKeys := false, apart := false, laid := [("pappus/embargo.table", laid_pappus_embargo_table)] }
def EmbargoDelaysSaid : Prop := embargoDelaysRow.holds Tryd.pinned (OpenSpec.ofChange embargoDelaysSpec)

/-- ITS FALSE NEIGHBOUR: 'it returns false'. Refute it at one input. -/
def embargoDelaysWrong : ChangeSpec := { name := "embargoDelays", fn := fun _ => fun
  | [d] => { results := [.lit (.bool false)], args := [d] }
  | _ => none }
def EmbargoDelaysWrongFalsely : Prop := embargoDelaysRow.holds Tryd.pinned (OpenSpec.ofChange embargoDelaysWrong)

/-- 'pappuslaw16.EmbargoRises': WHATEVER THE INPUT: true; the input reads as it did. -/
def embargoRisesSpec : ChangeSpec := { name := "embargoRises", fn := fun _ => fun
  | [d1, d2] => { results := [.lit (.bool true)], args := [d1, d2] }
  | _ => none }
def embargoRisesRow : OpenClaim := { program := "ythmaekkjpginoaadoor", sum := "205bbc1f8a0e30d4c6c5d626d9760be115ab1ac9ce585a65d2a8a587fd8f4958", func := "pappus/pappuslaw16.EmbargoRises", spec := "embargoRises", named := ["pappus/embargo.table"], plainKeys := false, apart := false, laid := [("pappus/embargo.table", laid_pappus_embargo_table)] }
def EmbargoRisesSaid : Prop := embargoRisesRow.holds Tryd.pinned (OpenSpec.ofChange embargoRisesSpec)

/-- ITS FALSE NEIGHBOUR: 'it returns false'. Refute it at one input. -/
def embargoRisesWrong : ChangeSpec := { name := "embargoRises", fn := fun _ => fun
  | [d1, d2] => { results := [.lit (.bool false)], args := [d1, d2] }
  | _ => none }
def EmbargoRisesWrongFalsely : Prop := embargoRisesRow.holds Tryd.pinned (OpenSpec.ofChange embargoRisesWrong)

/-- 'pappuslaw16.EmbargoSteps': WHATEVER THE INPUT: true; the input reads as it did. -/
def embargoStepsSpec : ChangeSpec := { name := "embargoSteps", fn := fun _ => fun
  | [d1, d2, d3] => { results := [.lit (.bool true)], args := [d1, d2, d3] }
  | _ => none }
def embargoStepsRow : OpenClaim := { program := "ythmaekkjpginoaadoor", sum := "205bbc1f8a0e30d4c6c5d626d9760be115ab1ac9ce585a65d2a8a587fd8f4958", func := "pappus/pappuslaw16.EmbargoSteps", spec := "embargoSteps", unfollowed := true, recurses := true, named := ["pappus/embargo.table"], plainKeys := false, apart := false, laid := [("pappus/embargo.table", laid_pappus_embargo_table)] }
def EmbargoStepsSaid : Prop := embargoStepsRow.holds Tryd.pinned (OpenSpec.ofChange embargoStepsSpec)

/-- ITS FALSE NEIGHBOUR: 'it returns false'. Refute it at one input. -/
def embargoStepsWrong : ChangeSpec := { name := "embargoSteps", fn := fun _ => fun
  | [d1, d2, d3] => { results := [.lit (.bool false)], args := [d1, d2, d3] }
  | _ => none }
def EmbargoStepsWrongFalsely : Prop := embargoStepsRow.holds Tryd.pinned (OpenSpec.ofChange embargoStepsWrong)

/-- 'pappuslaw16.EmbargoOnce': WHATEVER THE INPUT: true; the input reads as it did. -/
def embargoOnceSpec : ChangeSpec := { name := "embargoOnce", fn := fun _ => fun
  | [d1, d2, d3] => { results := [.lit (.bool true)], args := [d1, d2, d3] }
  | _ => none }
def embargoOnceRow : OpenClaim := { program := "ythmaekkjpginoaadoor", sum := "205bbc1f8a0e30d4c6c5d626d9760be115ab1ac9ce585a65d2a8a587fd8f4958", func := "pappus/pappuslaw16.EmbargoOnce", spec := "embargoOnce", unfollowed := true, recurses := true, named := ["pappus/embargo.table"], plainKeys := false, apart := false, laid := [("pappus/embargo.table", laid_pappus_embargo_table)] }
def EmbargoOnceSaid : Prop := embargoOnceRow.holds Tryd.pinned (OpenSpec.ofChange embargoOnceSpec)

/-- ITS FALSE NEIGHBOUR: 'it returns false'. Refute it at one input. -/
def embargoOnceWrong : ChangeSpec := { name := "embargoOnce", fn := fun _ => fun
  | [d1, d2, d3] => { results := [.lit (.bool false)], args := [d1, d2, d3] }
  | _ => none }
def EmbargoOnceWrongFalsely : Prop := embargoOnceRow.holds Tryd.pinned (OpenSpec.ofChange embargoOnceWrong)

/-- 'pappuslaw16.EmbargoDrops': WHATEVER THE INPUT: true; the input reads as it did. -/
def embargoDropsSpec : ChangeSpec := { name := "embargoDrops", fn := fun _ => fun
  | [d1, d2] => { results := [.lit (.bool true)], args := [d1, d2] }
  | _ => none }
def embargoDropsRow : OpenClaim := { program := "ythmaekkjpginoaadoor", sum := "205bbc1f8a0e30d4c6c5d626d9760be115ab1ac9ce585a65d2a8a587fd8f4958", func := "pappus/pappuslaw16.EmbargoDrops", spec := "embargoDrops", unfollowed := true, recurses := true, named := ["pappus/embargo.table"], plainKeys := false, apart := false, laid := [("pappus/embargo.table", laid_pappus_embargo_table)] }
def EmbargoDropsSaid : Prop := embargoDropsRow.holds Tryd.pinned (OpenSpec.ofChange embargoDropsSpec)

/-- ITS FALSE NEIGHBOUR: 'it returns false'. Refute it at one input. -/
def embargoDropsWrong : ChangeSpec := { name := "embargoDrops", fn := fun _ => fun
  | [d1, d2] => { results := [.lit (.bool false)], args := [d1, d2] }
  | _ => none }
def EmbargoDropsWrongFalsely : Prop := embargoDropsRow.holds Tryd.pinned (OpenSpec.ofChange embargoDropsWrong)

/-- 'pappuslaw16.EmbargoActs': WHATEVER THE INPUT: true; the input reads as it did. -/
def embargoActsSpec : ChangeSpec := { name := "embargoActs", fn := fun _ => fun
  | [d] => { results := [.lit (.bool true)], args := [d] }
  | _ => none }
def embargoActsRow : OpenClaim := { program := "ythmaekkjpginoaadoor", sum := "205bbc1f8a0e30d4c6c5d626d9760be115ab1ac9ce585a65d2a8a587fd8f4958", func := "pappus/pappuslaw16.EmbargoActs", spec := "embargoActs", unfollowed := true, recurses := true, named := ["pappus/embargo.table"], plainKeys := false, apart := false, laid := [("pappus/embargo.table", laid_pappus_embargo_table)] }
def EmbargoActsSaid : Prop := embargoActsRow.holds Tryd.pinned (OpenSpec.ofChange embargoActsSpec)

/-- ITS FALSE NEIGHBOUR: 'it returns false'. Refute it at one input. -/
def embargoActsWrong : ChangeSpec := { name := "embargoActs", fn := fun _ => fun
  | [d] => { results := [.lit (.bool false)], args := [d] }
  | _ => none }
def EmbargoActsWrongFalsely : Prop := embargoActsRow.holds Tryd.pinned (OpenSpec.ofChange embargoActsWrong)

/-- 'pappuslaw16.EmbargoDue': WHATEVER THE INPUT: true; the input reads as it did. -/
def embargoDueSpec : ChangeSpec := { name := "embargoDue", fn := fun _ => fun
  | [d1, d2] => { results := [.lit (.bool true)], args := [d1, d2] }
  | _ => none }
def embargoDueRow : OpenClaim := { program := "ythmaekkjpginoaadoor", sum := "205bbc1f8a0e30d4c6c5d626d9760be115ab1ac9ce585a65d2a8a587fd8f4958", func := "pappus/pappuslaw16.EmbargoDue", spec := "embargoDue", unfollowed := true, recurses := true, named := ["pappus/embargo.table"], plainKeys := false, apart := false, laid := [("pappus/embargo.table", laid_pappus_embargo_table)] }
def EmbargoDueSaid : Prop := embargoDueRow.holds Tryd.pinned (OpenSpec.ofChange embargoDueSpec)

/-- ITS FALSE NEIGHBOUR: 'it returns false'. Refute it at one input. -/
def embargoDueWrong : ChangeSpec := { name := "embargoDue", fn := fun _ => fun
  | [d1, d2] => { results := [.lit (.bool false)], args := [d1, d2] }
  | _ => none }
def EmbargoDueWrongFalsely : Prop := embargoDueRow.holds Tryd.pinned (OpenSpec.ofChange embargoDueWrong)

/- THE SECOND FORM. 'bulk': how many values and letters a reading holds, each counted each time it is reached (what is shared counts as often as it is met; a slice's spare places count too). A statement '..UptoSaid' is the law's where the arguments, and the package variables that the reading takes, are together of bulk at most 1048576: NARROWER than '..Said'. Prove '..Said' where nothing that the law and all that it calls make is longer than what came in: it says more and counts as full. Else prove '..UptoSaid'. A law counts once. -/
mutual
def uptoBulk {H : Type} : DataW H → Nat
  | .lit (.string bytes) => bytes.length + 1
  | .lit _ => 1
  | .nil => 1
  | .ptr d => uptoBulk d + 1
  | .slice elems spare => uptoBulkAll elems + uptoBulkAll spare + 1
  | .agg parts => uptoBulkAll parts + 1
  | .iface _ d => uptoBulk d + 1
  | .map entries => uptoBulkEntries entries + 1
  | .held _ => 1
def uptoBulkAll {H : Type} : List (DataW H) → Nat
  | [] => 0
  | d :: r => uptoBulk d + uptoBulkAll r
def uptoBulkEntries {H : Type} : List (Lit × DataW H) → Nat
  | [] => 0
  | x :: r => uptoBulkEntry x + uptoBulkEntries r
def uptoBulkEntry {H : Type} : Lit × DataW H → Nat
  | (.string bytes, d) => bytes.length + uptoBulk d + 1
  | (_, d) => uptoBulk d + 1
 end
def uptoSmall : (H : Type) → List (DataW H) → Bool := fun _ ds => decide (uptoBulkAll ds ≤ 1048576)
def OpenSpec.upto (s : _root_.Go.ChangeSpec) : _root_.Go.OpenSpec := { _root_.Go.OpenSpec.ofChange s with cond := some uptoSmall }

/-- 'pappuslaw16.EmbargoDelays', WHERE WHAT IT READS IS OF BULK AT MOST 1048576: true; the input reads as it did. -/
def embargoDelaysUptoRow : OpenClaim := { program := "ythmaekkjpginoaadoor", sum := "205bbc1f8a0e30d4c6c5d626d9760be115ab1ac9ce585a65d2a8a587fd8f4958", func := "pappus/pappuslaw16.EmbargoDelays", spec := "embargoDelays", named := ["pappus/embargo.table"], plainKeys := false, apart := false, laid := [("pappus/embargo.table", laid_pappus_embargo_table)], narrowed := true }
def EmbargoDelaysUptoSaid : Prop := embargoDelaysUptoRow.holds Tryd.pinned (OpenSpec.upto embargoDelaysSpec)

/-- 'pappuslaw16.EmbargoRises', WHERE WHAT IT READS IS OF BULK AT MOST 1048576: true; the input reads as it did. -/
def embargoRisesUptoRow : OpenClaim := { program := "ythmaekkjpginoaadoor", sum := "205bbc1f8a0e30d4c6c5d626d9760be115ab1ac9ce585a65d2a8a587fd8f4958", func := "pappus/pappuslaw16.EmbargoRises", spec := "embargoRises", named := ["pappus/embargo.table"], plainKeys := false, apart := false, laid := [("pappus/embargo.table", laid_pappus_embargo_table)], narrowed := true }
def EmbargoRisesUptoSaid : Prop := embargoRisesUptoRow.holds Tryd.pinned (OpenSpec.upto embargoRisesSpec)

/-- 'pappuslaw16.EmbargoSteps', WHERE WHAT IT READS IS OF BULK AT MOST 1048576: true; the input reads as it did. -/
def embargoStepsUptoRow : OpenClaim := { program := "ythmaekkjpginoaadoor", sum := "205bbc1f8a0e30d4c6c5d626d9760be115ab1ac9ce585a65d2a8a587fd8f4958", func := "pappus/pappuslaw16.EmbargoSteps", spec := "embargoSteps", unfollowed := true, recurses := true, named := ["pappus/embargo.table"], plainKeys := false, apart := false, laid := [("pappus/embargo.table", laid_pappus_embargo_table)], narrowed := true }
def EmbargoStepsUptoSaid : Prop := embargoStepsUptoRow.holds Tryd.pinned (OpenSpec.upto embargoStepsSpec)

/-- 'pappuslaw16.EmbargoOnce', WHERE WHAT IT READS IS OF BULK AT MOST 1048576: true; the input reads as it did. -/
def embargoOnceUptoRow : OpenClaim := { program := "ythmaekkjpginoaadoor", sum := "205bbc1f8a0e30d4c6c5d626d9760be115ab1ac9ce585a65d2a8a587fd8f4958", func := "pappus/pappuslaw16.EmbargoOnce", spec := "embargoOnce", unfollowed := true, recurses := true, named := ["pappus/embargo.table"], plainKeys := false, apart := false, laid := [("pappus/embargo.table", laid_pappus_embargo_table)], narrowed := true }
def EmbargoOnceUptoSaid : Prop := embargoOnceUptoRow.holds Tryd.pinned (OpenSpec.upto embargoOnceSpec)

/-- 'pappuslaw16.EmbargoDrops', WHERE WHAT IT READS IS OF BULK AT MOST 1048576: true; the input reads as it did. -/
def embargoDropsUptoRow : OpenClaim := { program := "ythmaekkjpginoaadoor", sum := "205bbc1f8a0e30d4c6c5d626d9760be115ab1ac9ce585a65d2a8a587fd8f4958", func := "pappus/pappuslaw16.EmbargoDrops", spec := "embargoDrops", unfollowed := true, recurses := true, named := ["pappus/embargo.table"], plainKeys := false, apart := false, laid := [("pappus/embargo.table", laid_pappus_embargo_table)], narrowed := true }
def EmbargoDropsUptoSaid : Prop := embargoDropsUptoRow.holds Tryd.pinned (OpenSpec.upto embargoDropsSpec)

/-- 'pappuslaw16.EmbargoActs', WHERE WHAT IT READS IS OF BULK AT MOST 1048576: true; the input reads as it did. -/
def embargoActsUptoRow : OpenClaim := { program := "ythmaekkjpginoaadoor", sum := "205bbc1f8a0e30d4c6c5d626d9760be115ab1ac9ce585a65d2a8a587fd8f4958", func := "pappus/pappuslaw16.EmbargoActs", spec := "embargoActs", unfollowed := true, recurses := true, named := ["pappus/embargo.table"], plainKeys := false, apart := false, laid := [("pappus/embargo.table", laid_pappus_embargo_table)], narrowed := true }
def EmbargoActsUptoSaid : Prop := embargoActsUptoRow.holds Tryd.pinned (OpenSpec.upto embargoActsSpec)

/-- 'pappuslaw16.EmbargoDue', WHERE WHAT IT READS IS OF BULK AT MOST 1048576: true; the input reads as it did. -/
def embargoDueUptoRow : OpenClaim := { program := "ythmaekkjpginoaadoor", sum := "205bbc1f8a0e30d4c6c5d626d9760be115ab1ac9ce585a65d2a8a587fd8f4958", func := "pappus/pappuslaw16.EmbargoDue", spec := "embargoDue", unfollowed := true, recurses := true, named := ["pappus/embargo.table"], plainKeys := false, apart := false, laid := [("pappus/embargo.table", laid_pappus_embargo_table)], narrowed := true }
def EmbargoDueUptoSaid : Prop := embargoDueUptoRow.holds Tryd.pinned (OpenSpec.upto embargoDueSpec)

end Rows
end Go.Proofs.YthmaekkjpginoaaDoor
