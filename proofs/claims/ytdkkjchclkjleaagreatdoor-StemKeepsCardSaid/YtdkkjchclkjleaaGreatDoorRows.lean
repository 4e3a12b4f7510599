/-
  NARROWER THAN 'FOR EVERY INPUT', by the rows' own cells (each row's printed sentence says how): StemFluffs: laid · StemSeen: laid · StemApart: laid · StemActs: laid · StemFew: laid · StemKeeps: laid.
  DERIVED. THE GIVEN ROWS OF THIS SEAT. 6 by the template 'for every input the law returns true; each argument reads behind the call as it read before'; 0 by the template 'total and deterministic' (their statements: YtdkkjchclkjleaaGreatDoorTotals.lean).
  GIVEN WITH THE SEED: the statements are not yours to turn. If you find one false, say at which input.
  Laid BY PROGRAM, IN A SANDBOX (cutbox-rows.mjs): the forced cells as the released guide's own fill.sh prints them over the translation 3ceb94f92e25804b… (all of the seat's roots in one cut). By AI agents, Wed Nov 11 2026. No macro, syntax, notation, axiom, sorry.
-/
import Derived.Test.YtdkkjchclkjleaaGreatDoorChecked
import GoSem.Claim
import GoSem.ClaimJoined
import GoSem.ClaimMapViews
import Derived.JoinedTies
import Derived.KernelRfl
namespace Go.Proofs.YtdkkjchclkjleaaGreatDoor
/- THE CELL 'sum', in the pinned program and in every row, IS THE sha256 OF THE DUMP (.gsa) THAT YtdkkjchclkjleaaGreatDoorProg.lean LOADS. Nothing in Lean hashes anything: it is a label: what it is worth is what the hold of that sum in a sandbox is worth. -/
noncomputable def Tryz.pinned : Pinned := { name := "ytdkkjchclkjleaagreatdoor", sum := "3ceb94f92e25804b7eb3ee68c4e72d67cc23dea564efe24da5a17fab5bd1be2b", checked := Tryz.checked }
namespace Rows
def none {H : Type} : Left H := { results := [], args := [] }

/- WHAT THE LISTED PACKAGE-LEVEL VARIABLES READ AS WHEN THE CALL BEGINS. Each datum BY PROGRAM (the guide's laid-datum.mjs) off the statement by which the dump's own 'gosem.cut.vars' lays the variable. In a bare row this is a premise. The card (YtdkkjchclkjleaaGreatDoorCards.lean) ties it to the program's text. -/
def laid_pappus_sha_constants {H : Type} : DataW H := .agg [.lit (.int .u32 1116352408), .lit (.int .u32 1899447441), .lit (.int .u32 3049323471), .lit (.int .u32 3921009573), .lit (.int .u32 961987163), .lit (.int .u32 1508970993), .lit (.int .u32 2453635748), .lit (.int .u32 2870763221), .lit (.int .u32 3624381080), .lit (.int .u32 310598401), .lit (.int .u32 607225278), .lit (.int .u32 1426881987), .lit (.int .u32 1925078388), .lit (.int .u32 2162078206), .lit (.int .u32 2614888103), .lit (.int .u32 3248222580), .lit (.int .u32 3835390401), .lit (.int .u32 4022224774), .lit (.int .u32 264347078), .lit (.int .u32 604807628), .lit (.int .u32 770255983), .lit (.int .u32 1249150122), .lit (.int .u32 1555081692), .lit (.int .u32 1996064986), .lit (.int .u32 2554220882), .lit (.int .u32 2821834349), .lit (.int .u32 2952996808), .lit (.int .u32 3210313671), .lit (.int .u32 3336571891), .lit (.int .u32 3584528711), .lit (.int .u32 113926993), .lit (.int .u32 338241895), .lit (.int .u32 666307205), .lit (.int .u32 773529912), .lit (.int .u32 1294757372), .lit (.int .u32 1396182291), .lit (.int .u32 1695183700), .lit (.int .u32 1986661051), .lit (.int .u32 2177026350), .lit (.int .u32 2456956037), .lit (.int .u32 2730485921), .lit (.int .u32 2820302411), .lit (.int .u32 3259730800), .lit (.int .u32 3345764771), .lit (.int .u32 3516065817), .lit (.int .u32 3600352804), .lit (.int .u32 4094571909), .lit (.int .u32 275423344), .lit (.int .u32 430227734), .lit (.int .u32 506948616), .lit (.int .u32 659060556), .lit (.int .u32 883997877), .lit (.int .u32 958139571), .lit (.int .u32 1322822218), .lit (.int .u32 1537002063), .lit (.int .u32 1747873779), .lit (.int .u32 1955562222), .lit (.int .u32 2024104815), .lit (.int .u32 2227730452), .lit (.int .u32 2361852424), .lit (.int .u32 2428436474), .lit (.int .u32 2756734187), .lit (.int .u32 3204031479), .lit (.int .u32 3329325298)]
def laid_pappus_sha_first {H : Type} : DataW H := .agg [.lit (.int .u32 1779033703), .lit (.int .u32 3144134277), .lit (.int .u32 1013904242), .lit (.int .u32 2773480762), .lit (.int .u32 1359893119), .lit (.int .u32 2600822924), .lit (.int .u32 528734635), .lit (.int .u32 1541459225)]

/-- 'pappuslaw15.StemFluffs': WHATEVER THE INPUT: true; the input reads as it did. -/
def stemFluffsSpec : ChangeSpec := { name := "stemFluffs", fn := fun _ => fun
  | [d1, d2, d3] => { results := [.lit (.bool true)], args := [d1, d2, d3] }
  | _ => none }
def stemFluffsRow : OpenClaim := { program := "ytdkkjchclkjleaagreatdoor", sum := "3ceb94f92e25804b7eb3ee68c4e72d67cc23dea564efe24da5a17fab5bd1be2b", func := "pappus/pappuslaw15.StemFluffs", spec := "stemFluffs", inPlace := ["math/bits.Add64", "math/bits.Sub64"], unfollowed := true, recurses := true, named := ["pappus/sha.first", "pappus/sha.constants", "math/bits.divideError", "math/bits.overflowError"], plainKeys := false, apart := false, laid := [("pappus/sha.constants", laid_pappus_sha_constants), ("pappus/sha.first", laid_pappus_sha_first)] }
def StemFluffsSaid : Prop := stemFluffsRow.holds Tryz.pinned (OpenSpec.ofChange stemFluffsSpec)

/-- ITS FALSE NEIGHBOUR: 'it returns false'. Refute it at one input. -/
def stemFluffsWrong : ChangeSpec := { name := "stemFluffs", fn := fun _ => fun
  | [d1, d2, d3] => { results := [.lit (.bool false)], args := [d1, d2, d3] }
  | _ => none }
def StemFluffsWrongFalsely : Prop := stemFluffsRow.holds Tryz.pinned (OpenSpec.ofChange stemFluffsWrong)

/-- 'pappuslaw15.StemSeen': WHATEVER THE INPUT: true; the input reads as it did. -/
def stemSeenSpec : ChangeSpec := { name := "stemSeen", fn := fun _ => fun
  | [d1, d2, d3] => { results := [.lit (.bool true)], args := [d1, d2, d3] }
  | _ => none }
def stemSeenRow : OpenClaim := { program := "ytdkkjchclkjleaagreatdoor", sum := "3ceb94f92e25804b7eb3ee68c4e72d67cc23dea564efe24da5a17fab5bd1be2b", func := "pappus/pappuslaw15.StemSeen", spec := "stemSeen", inPlace := ["math/bits.Add64", "math/bits.Sub64"], unfollowed := true, recurses := true, named := ["pappus/sha.first", "pappus/sha.constants", "math/bits.divideError", "math/bits.overflowError"], plainKeys := false, apart := false, laid := [("pappus/sha.constants", laid_pappus_sha_constants), ("pappus/sha.first", laid_pappus_sha_first)] }
def StemSeenSaid : Prop := stemSeenRow.holds Tryz.pinned (OpenSpec.ofChange stemSeenSpec)

/-- ITS FALSE NEIGHBOUR: 'it returns false'. Refute it at one input. -/
def stemSeenWrong : ChangeSpec := { name := "stemSeen", fn := fun _ => fun
  | [d1, d2, d3] => { results := [.lit (.bool false)], args := [d1, d2, d3] }
  | _ => none }
def StemSeenWrongFalsely : Prop := stemSeenRow.holds Tryz.pinned (OpenSpec.ofChange stemSeenWrong)

/-- 'pappuslaw15.StemApart': WHATEVER THE INPUT: true; the input reads as it did. -/
def stemApartSpec : ChangeSpec := { name := "stemApart", fn := fun _ => fun
  | [d1, d2, d3] => { results := [.lit (.bool true)], args := [d1, d2, d3] }
  | _ => none }
def stemApartRow : OpenClaim := { program := "ytdkkjchclkjleaagreatdoor", sum := "3ceb94f92e25804b7eb3ee68c4e72d67cc23dea564efe24da5a17fab5bd1be2b", func := "pappus/pappuslaw15.StemApart", spec := "stemApart", inPlace := ["math/bits.Add64", "math/bits.Sub64"], unfollowed := true, recurses := true, named := ["pappus/sha.first", "pappus/sha.constants", "math/bits.divideError", "math/bits.overflowError"], plainKeys := false, apart := false, laid := [("pappus/sha.constants", laid_pappus_sha_constants), ("pappus/sha.first", laid_pappus_sha_first)] }
def StemApartSaid : Prop := stemApartRow.holds Tryz.pinned (OpenSpec.ofChange stemApartSpec)

/-- ITS FALSE NEIGHBOUR: 'it returns false'. Refute it at one input. -/
def stemApartWrong : ChangeSpec := { name := "stemApart", fn := fun _ => fun
  | [d1, d2, d3] => { results := [.lit (.bool false)], args := [d1, d2, d3] }
  | _ => none }
def StemApartWrongFalsely : Prop := stemApartRow.holds Tryz.pinned (OpenSpec.ofChange stemApartWrong)

/-- 'pappuslaw15.StemActs': WHATEVER THE INPUT: true; the input reads as it did. -/
def stemActsSpec : ChangeSpec := { name := "stemActs", fn := fun _ => fun
  | [d1, d2] => { results := [.lit (.bool true)], args := [d1, d2] }
  | _ => none }
def stemActsRow : OpenClaim := { program := "ytdkkjchclkjleaagreatdoor", sum := "3ceb94f92e25804b7eb3ee68c4e72d67cc23dea564efe24da5a17fab5bd1be2b", func := "pappus/pappuslaw15.StemActs", spec := "stemActs", inPlace := ["math/bits.Add64", "math/bits.Sub64"], unfollowed := true, recurses := true, named := ["pappus/sha.first", "pappus/sha.constants", "math/bits.divideError", "math/bits.overflowError"], plainKeys := false, apart := false, laid := [("pappus/sha.constants", laid_pappus_sha_constants), ("pappus/sha.first", laid_pappus_sha_first)] }
def StemActsSaid : Prop := stemActsRow.holds Tryz.pinned (OpenSpec.ofChange stemActsSpec)

/-- ITS FALSE NEIGHBOUR: 'it returns false'. Refute it at one input. -/
def stemActsWrong : ChangeSpec := { name := "stemActs", fn := fun _ => fun
  | [d1, d2] => { results := [.lit (.bool false)], args := [d1, d2] }
  | _ => none }
def StemActsWrongFalsely : Prop := stemActsRow.holds Tryz.pinned (OpenSpec.ofChange stemActsWrong)

/-- 'pappuslaw15.StemFew': WHATEVER THE INPUT: true; the input reads as it did. -/
def stemFewSpec : ChangeSpec := { name := "stemFew", fn := fun _ => fun
  | [d1, d2] => { results := [.lit (.bool true)], args := [d1, d2] }
  | _ => none }
def stemFewRow : OpenClaim := { program := "ytdkkjchclkjleaagreatdoor", sum := "3ceb94f92e25804b7eb3ee68c4e72d67cc23dea564efe24da5a17fab5bd1be2b", func := "pappus/pappuslaw15.StemFew", spec := "stemFew", inPlace := ["math/bits.Add64", "math/bits.Sub64"], unfollowed := true, recurses := true, named := ["pappus/sha.first", "pappus/sha.constants", "math/bits.divideError", "math/bits.overflowError"], plainKeys := false, apart := false, laid := [("pappus/sha.constants", laid_pappus_sha_constants), ("pappus/sha.first", laid_pappus_sha_first)] }
def StemFewSaid : Prop := stemFewRow.holds Tryz.pinned (OpenSpec.ofChange stemFewSpec)

/-- ITS FALSE NEIGHBOUR: 'it returns false'. Refute it at one input. -/
def stemFewWrong : ChangeSpec := { name := "stemFew", fn := fun _ => fun
  | [d1, d2] => { results := [.lit (.bool false)], args := [d1, d2] }
  | _ => none }
def StemFewWrongFalsely : Prop := stemFewRow.holds Tryz.pinned (OpenSpec.ofChange stemFewWrong)

/-- 'pappuslaw15.StemKeeps': WHATEVER THE INPUT: true; the input reads as it did. -/
def stemKeepsSpec : ChangeSpec := { name := "stemKeeps", fn := fun _ => fun
  | [d] => { results := [.lit (.bool true)], args := [d] }
  | _ => none }
def stemKeepsRow : OpenClaim := { program := "ytdkkjchclkjleaagreatdoor", sum := "3ceb94f92e25804b7eb3ee68c4e72d67cc23dea564efe24da5a17fab5bd1be2b", func := "pappus/pappuslaw15.StemKeeps", spec := "stemKeeps", inPlace := ["math/bits.Add64", "math/bits.Sub64"], unfollowed := true, recurses := true, named := ["pappus/sha.first", "pappus/sha.constants", "math/bits.divideError", "math/bits.overflowError"], plainKeys := false, apart := false, laid := [("pappus/sha.constants", laid_pappus_sha_constants), ("pappus/sha.first", laid_pappus_sha_first)] }
def StemKeepsSaid : Prop := stemKeepsRow.holds Tryz.pinned (OpenSpec.ofChange stemKeepsSpec)

/-- ITS FALSE NEIGHBOUR: 'it returns false'. Refute it at one input. -/
def stemKeepsWrong : ChangeSpec := { name := "stemKeeps", fn := fun _ => fun
  | [d] => { results := [.lit (.bool false)], args := [d] }
  | _ => none }
def StemKeepsWrongFalsely : Prop := stemKeepsRow.holds Tryz.pinned (OpenSpec.ofChange stemKeepsWrong)

/- THE SECOND FORM. 'bulk': how many values and letters a reading holds, each counted each time it is reached (what is shared counts as often as it is met; a slice's spare places count too). A statement '..UptoSaid' is the law's where the arguments, and the package variables that the reading takes, are together of bulk at most 1048576: NARROWER than '..Said'. Prove '..Said' where nothing that the law and all that it calls make is longer than what came in: it says more and counts as full. Else prove '..UptoSaid'. A law counts once. -/
mutual
def uptoBulk {H : Type} : DataW H → Nat
  | .lit (.string bytes) => bytes.length + 1
  | .lit _ => 1
  | .nil => 1
  | .ptr d => uptoBulk d + 1
  | .slice elems spare => uptoBulkAll elems + uptoBulkAll spare + 1
  | .agg parts => uptoBulkAll parts + 1
  | .iface _ d => uptoBulk d + 1
  | .map entries => uptoBulkEntries entries + 1
  | .held _ => 1
def uptoBulkAll {H : Type} : List (DataW H) → Nat
  | [] => 0
  | d :: r => uptoBulk d + uptoBulkAll r
def uptoBulkEntries {H : Type} : List (Lit × DataW H) → Nat
  | [] => 0
  | x :: r => uptoBulkEntry x + uptoBulkEntries r
def uptoBulkEntry {H : Type} : Lit × DataW H → Nat
  | (.string bytes, d) => bytes.length + uptoBulk d + 1
  | (_, d) => uptoBulk d + 1
 end
def uptoSmall : (H : Type) → List (DataW H) → Bool := fun _ ds => decide (uptoBulkAll ds ≤ 1048576)
def OpenSpec.upto (s : _root_.Go.ChangeSpec) : _root_.Go.OpenSpec := { _root_.Go.OpenSpec.ofChange s with cond := some uptoSmall }

/-- 'pappuslaw15.StemFluffs', WHERE WHAT IT READS IS OF BULK AT MOST 1048576: true; the input reads as it did. -/
def stemFluffsUptoRow : OpenClaim := { program := "ytdkkjchclkjleaagreatdoor", sum := "3ceb94f92e25804b7eb3ee68c4e72d67cc23dea564efe24da5a17fab5bd1be2b", func := "pappus/pappuslaw15.StemFluffs", spec := "stemFluffs", inPlace := ["math/bits.Add64", "math/bits.Sub64"], unfollowed := true, recurses := true, named := ["pappus/sha.first", "pappus/sha.constants", "math/bits.divideError", "math/bits.overflowError"], plainKeys := false, apart := false, laid := [("pappus/sha.constants", laid_pappus_sha_constants), ("pappus/sha.first", laid_pappus_sha_first)], narrowed := true }
def StemFluffsUptoSaid : Prop := stemFluffsUptoRow.holds Tryz.pinned (OpenSpec.upto stemFluffsSpec)

/-- 'pappuslaw15.StemSeen', WHERE WHAT IT READS IS OF BULK AT MOST 1048576: true; the input reads as it did. -/
def stemSeenUptoRow : OpenClaim := { program := "ytdkkjchclkjleaagreatdoor", sum := "3ceb94f92e25804b7eb3ee68c4e72d67cc23dea564efe24da5a17fab5bd1be2b", func := "pappus/pappuslaw15.StemSeen", spec := "stemSeen", inPlace := ["math/bits.Add64", "math/bits.Sub64"], unfollowed := true, recurses := true, named := ["pappus/sha.first", "pappus/sha.constants", "math/bits.divideError", "math/bits.overflowError"], plainKeys := false, apart := false, laid := [("pappus/sha.constants", laid_pappus_sha_constants), ("pappus/sha.first", laid_pappus_sha_first)], narrowed := true }
def StemSeenUptoSaid : Prop := stemSeenUptoRow.holds Tryz.pinned (OpenSpec.upto stemSeenSpec)

/-- 'pappuslaw15.StemApart', WHERE WHAT IT READS IS OF BULK AT MOST 1048576: true; the input reads as it did. -/
def stemApartUptoRow : OpenClaim := { program := "ytdkkjchclkjleaagreatdoor", sum := "3ceb94f92e25804b7eb3ee68c4e72d67cc23dea564efe24da5a17fab5bd1be2b", func := "pappus/pappuslaw15.StemApart", spec := "stemApart", inPlace := ["math/bits.Add64", "math/bits.Sub64"], unfollowed := true, recurses := true, named := ["pappus/sha.first", "pappus/sha.constants", "math/bits.divideError", "math/bits.overflowError"], plainKeys := false, apart := false, laid := [("pappus/sha.constants", laid_pappus_sha_constants), ("pappus/sha.first", laid_pappus_sha_first)], narrowed := true }
def StemApartUptoSaid : Prop := stemApartUptoRow.holds Tryz.pinned (OpenSpec.upto stemApartSpec)

/-- 'pappuslaw15.StemActs', WHERE WHAT IT READS IS OF BULK AT MOST 1048576: true; the input reads as it did. -/
def stemActsUptoRow : OpenClaim := { program := "ytdkkjchclkjleaagreatdoor", sum := "3ceb94f92e25804b7eb3ee68c4e72d67cc23dea564efe24da5a17fab5bd1be2b", func := "pappus/pappuslaw15.StemActs", spec := "stemActs", inPlace := ["math/bits.Add64", "math/bits.Sub64"], unfollowed := true, recurses := true, named := ["pappus/sha.first", "pappus/sha.constants", "math/bits.divideError", "math/bits.overflowError"], plainKeys := false, apart := false, laid := [("pappus/sha.constants", laid_pappus_sha_constants), ("pappus/sha.first", laid_pappus_sha_first)], narrowed := true }
def StemActsUptoSaid : Prop := stemActsUptoRow.holds Tryz.pinned (OpenSpec.upto stemActsSpec)

/-- 'pappuslaw15.StemFew', WHERE WHAT IT READS IS OF BULK AT MOST 1048576: true; the input reads as it did. -/
def stemFewUptoRow : OpenClaim := { program := "ytdkkjchclkjleaagreatdoor", sum := "3ceb94f92e25804b7eb3ee68c4e72d67cc23dea564efe24da5a17fab5bd1be2b", func := "pappus/pappuslaw15.StemFew", spec := "stemFew", inPlace := ["math/bits.Add64", "math/bits.Sub64"], unfollowed := true, recurses := true, named := ["pappus/sha.first", "pappus/sha.constants", "math/bits.divideError", "math/bits.overflowError"], plainKeys := false, apart := false, laid := [("pappus/sha.constants", laid_pappus_sha_constants), ("pappus/sha.first", laid_pappus_sha_first)], narrowed := true }
def StemFewUptoSaid : Prop := stemFewUptoRow.holds Tryz.pinned (OpenSpec.upto stemFewSpec)

/-- 'pappuslaw15.StemKeeps', WHERE WHAT IT READS IS OF BULK AT MOST 1048576: true; the input reads as it did. -/
def stemKeepsUptoRow : OpenClaim := { program := "ytdkkjchclkjleaagreatdoor", sum := "3ceb94f92e25804b7eb3ee68c4e72d67cc23dea564efe24da5a17fab5bd1be2b", func := "pappus/pappuslaw15.StemKeeps", spec := "stemKeeps", inPlace := ["math/bits.Add64", "math/bits.Sub64"], unfollowed := true, recurses := true, named := ["pappus/sha.first", "pappus/sha.constants", "math/bits.divideError", "math/bits.overflowError"], plainKeys := false, apart := false, laid := [("pappus/sha.constants", laid_pappus_sha_constants), ("pappus/sha.first", laid_pappus_sha_first)], narrowed := true }
def StemKeepsUptoSaid : Prop := stemKeepsUptoRow.holds Tryz.pinned (OpenSpec.upto stemKeepsSpec)

end Rows
end Go.Proofs.YtdkkjchclkjleaaGreatDoor
