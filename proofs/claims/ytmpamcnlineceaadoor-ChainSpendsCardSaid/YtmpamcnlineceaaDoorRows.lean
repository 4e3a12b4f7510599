/-
  NARROWER THAN 'FOR EVERY INPUT', by the rows' own cells (each row's printed sentence says how): ChainMoney: laid · ChainTwice: laid · ChainFull: laid · ChainOrder: laid · ChainBack: laid · ChainSpends: laid · ChainIds: laid.
  DERIVED. THE GIVEN ROWS OF THIS SEAT. 7 by the template 'for every input the law returns true; each argument reads behind the call as it read before'; 0 by the template 'total and deterministic' (their statements: YtmpamcnlineceaaDoorTotals.lean).
  GIVEN WITH THE SEED: the statements are not yours to turn. If you find one false, say at which input.
  Laid BY PROGRAM, IN A SANDBOX (cutbox-rows.mjs): the forced cells as the released guide's own fill.sh prints them over the translation f972dcd09fd059b9… (all of the seat's roots in one cut). By AI agents, Wed Nov 11 2026. No macro, syntax, notation, axiom, sorry.
-/
import Derived.Test.YtmpamcnlineceaaDoorChecked
import GoSem.Claim
import GoSem.ClaimJoined
import GoSem.ClaimMapViews
import Derived.JoinedTies
import Derived.KernelRfl
namespace Go.Proofs.YtmpamcnlineceaaDoor
/- THE CELL 'sum', in the pinned program and in every row, IS THE sha256 OF THE DUMP (.gsa) THAT YtmpamcnlineceaaDoorProg.lean LOADS. Nothing in Lean hashes anything: it is a label: what it is worth is what the hold of that sum in a sandbox is worth. -/
noncomputable def Tryd.pinned : Pinned := { name := "ytmpamcnlineceaadoor", sum := "f972dcd09fd059b9ffd5cec5db2f30fb3ca50394eb54d1352649c798eddbf9ae", checked := Tryd.checked }
namespace Rows
def none {H : Type} : Left H := { results := [], args := [] }

/- WHAT THE LISTED PACKAGE-LEVEL VARIABLES READ AS WHEN THE CALL BEGINS. Each datum BY PROGRAM (the guide's laid-datum.mjs) off the statement by which the dump's own 'gosem.cut.vars' lays the variable. In a bare row this is a premise. The card (YtmpamcnlineceaaDoorCards.lean) ties it to the program's text. -/
def laid_pappus_sha_constants {H : Type} : DataW H := .agg [.lit (.int .u32 1116352408), .lit (.int .u32 1899447441), .lit (.int .u32 3049323471), .lit (.int .u32 3921009573), .lit (.int .u32 961987163), .lit (.int .u32 1508970993), .lit (.int .u32 2453635748), .lit (.int .u32 2870763221), .lit (.int .u32 3624381080), .lit (.int .u32 310598401), .lit (.int .u32 607225278), .lit (.int .u32 1426881987), .lit (.int .u32 1925078388), .lit (.int .u32 2162078206), .lit (.int .u32 2614888103), .lit (.int .u32 3248222580), .lit (.int .u32 3835390401), .lit (.int .u32 4022224774), .lit (.int .u32 264347078), .lit (.int .u32 604807628), .lit (.int .u32 770255983), .lit (.int .u32 1249150122), .lit (.int .u32 1555081692), .lit (.int .u32 1996064986), .lit (.int .u32 2554220882), .lit (.int .u32 2821834349), .lit (.int .u32 2952996808), .lit (.int .u32 3210313671), .lit (.int .u32 3336571891), .lit (.int .u32 3584528711), .lit (.int .u32 113926993), .lit (.int .u32 338241895), .lit (.int .u32 666307205), .lit (.int .u32 773529912), .lit (.int .u32 1294757372), .lit (.int .u32 1396182291), .lit (.int .u32 1695183700), .lit (.int .u32 1986661051), .lit (.int .u32 2177026350), .lit (.int .u32 2456956037), .lit (.int .u32 2730485921), .lit (.int .u32 2820302411), .lit (.int .u32 3259730800), .lit (.int .u32 3345764771), .lit (.int .u32 3516065817), .lit (.int .u32 3600352804), .lit (.int .u32 4094571909), .lit (.int .u32 275423344), .lit (.int .u32 430227734), .lit (.int .u32 506948616), .lit (.int .u32 659060556), .lit (.int .u32 883997877), .lit (.int .u32 958139571), .lit (.int .u32 1322822218), .lit (.int .u32 1537002063), .lit (.int .u32 1747873779), .lit (.int .u32 1955562222), .lit (.int .u32 2024104815), .lit (.int .u32 2227730452), .lit (.int .u32 2361852424), .lit (.int .u32 2428436474), .lit (.int .u32 2756734187), .lit (.int .u32 3204031479), .lit (.int .u32 3329325298)]
def laid_pappus_sha_first {H : Type} : DataW H := .agg [.lit (.int .u32 1779033703), .lit (.int .u32 3144134277), .lit (.int .u32 1013904242), .lit (.int .u32 2773480762), .lit (.int .u32 1359893119), .lit (.int .u32 2600822924), .lit (.int .u32 528734635), .lit (.int .u32 1541459225)]

/-- 'pappuslaw11.ChainMoney': WHATEVER THE INPUT: true; the input reads as it did. -/
def chainMoneySpec : ChangeSpec := { name := "chainMoney", fn := fun _ => fun
  | [d1, d2, d3] => { results := [.lit (.bool true)], args := [d1, d2, d3] }
  | _ => none }
def chainMoneyRow : OpenClaim := { program := "ytmpamcnlineceaadoor", sum := "f972dcd09fd059b9ffd5cec5db2f30fb3ca50394eb54d1352649c798eddbf9ae", func := "pappus/pappuslaw11.ChainMoney", spec := "chainMoney", inPlace := ["math/bits.Add64", "internal/bytealg.Compare"], unfollowed := true, recurses := true, named := ["pappus/sha.first", "pappus/sha.constants"], plainKeys := false, apart := false, laid := [("pappus/sha.constants", laid_pappus_sha_constants), ("pappus/sha.first", laid_pappus_sha_first)] }
def ChainMoneySaid : Prop := chainMoneyRow.holds Tryd.pinned (OpenSpec.ofChange chainMoneySpec)

/-- ITS FALSE NEIGHBOUR: 'it returns false'. Refute it at one input. -/
def chainMoneyWrong : ChangeSpec := { name := "chainMoney", fn := fun _ => fun
  | [d1, d2, d3] => { results := [.lit (.bool false)], args := [d1, d2, d3] }
  | _ => none }
def ChainMoneyWrongFalsely : Prop := chainMoneyRow.holds Tryd.pinned (OpenSpec.ofChange chainMoneyWrong)

/-- 'pappuslaw11.ChainTwice': WHATEVER THE INPUT: true; the input reads as it did. -/
def chainTwiceSpec : ChangeSpec := { name := "chainTwice", fn := fun _ => fun
  | [d] => { results := [.lit (.bool true)], args := [d] }
  | _ => none }
def chainTwiceRow : OpenClaim := { program := "ytmpamcnlineceaadoor", sum := "f972dcd09fd059b9ffd5cec5db2f30fb3ca50394eb54d1352649c798eddbf9ae", func := "pappus/pappuslaw11.ChainTwice", spec := "chainTwice", inPlace := ["math/bits.Add64", "internal/bytealg.Compare"], unfollowed := true, recurses := true, named := ["pappus/sha.first", "pappus/sha.constants"], plainKeys := false, apart := false, laid := [("pappus/sha.constants", laid_pappus_sha_constants), ("pappus/sha.first", laid_pappus_sha_first)] }
def ChainTwiceSaid : Prop := chainTwiceRow.holds Tryd.pinned (OpenSpec.ofChange chainTwiceSpec)

/-- ITS FALSE NEIGHBOUR: 'it returns false'. Refute it at one input. -/
def chainTwiceWrong : ChangeSpec := { name := "chainTwice", fn := fun _ => fun
  | [d] => { results := [.lit (.bool false)], args := [d] }
  | _ => none }
def ChainTwiceWrongFalsely : Prop := chainTwiceRow.holds Tryd.pinned (OpenSpec.ofChange chainTwiceWrong)

/-- 'pappuslaw11.ChainFull': WHATEVER THE INPUT: true; the input reads as it did. -/
def chainFullSpec : ChangeSpec := { name := "chainFull", fn := fun _ => fun
  | [d1, d2] => { results := [.lit (.bool true)], args := [d1, d2] }
  | _ => none }
def chainFullRow : OpenClaim := { program := "ytmpamcnlineceaadoor", sum := "f972dcd09fd059b9ffd5cec5db2f30fb3ca50394eb54d1352649c798eddbf9ae", func := "pappus/pappuslaw11.ChainFull", spec := "chainFull", inPlace := ["math/bits.Add64", "internal/bytealg.Compare"], unfollowed := true, recurses := true, named := ["pappus/sha.first", "pappus/sha.constants"], plainKeys := false, apart := false, laid := [("pappus/sha.constants", laid_pappus_sha_constants), ("pappus/sha.first", laid_pappus_sha_first)] }
def ChainFullSaid : Prop := chainFullRow.holds Tryd.pinned (OpenSpec.ofChange chainFullSpec)

/-- ITS FALSE NEIGHBOUR: 'it returns false'. Refute it at one input. -/
def chainFullWrong : ChangeSpec := { name := "chainFull", fn := fun _ => fun
  | [d1, d2] => { results := [.lit (.bool false)], args := [d1, d2] }
  | _ => none }
def ChainFullWrongFalsely : Prop := chainFullRow.holds Tryd.pinned (OpenSpec.ofChange chainFullWrong)

/-- 'pappuslaw11.ChainOrder': WHATEVER THE INPUT: true; the input reads as it did. -/
def chainOrderSpec : ChangeSpec := { name := "chainOrder", fn := fun _ => fun
  | [d1, d2, d3] => { results := [.lit (.bool true)], args := [d1, d2, d3] }
  | _ => none }
def chainOrderRow : OpenClaim := { program := "ytmpamcnlineceaadoor", sum := "f972dcd09fd059b9ffd5cec5db2f30fb3ca50394eb54d1352649c798eddbf9ae", func := "pappus/pappuslaw11.ChainOrder", spec := "chainOrder", inPlace := ["math/bits.Add64", "internal/bytealg.Compare"], unfollowed := true, recurses := true, named := ["pappus/sha.first", "pappus/sha.constants"], plainKeys := false, apart := false, laid := [("pappus/sha.constants", laid_pappus_sha_constants), ("pappus/sha.first", laid_pappus_sha_first)] }
def ChainOrderSaid : Prop := chainOrderRow.holds Tryd.pinned (OpenSpec.ofChange chainOrderSpec)

/-- ITS FALSE NEIGHBOUR: 'it returns false'. Refute it at one input. -/
def chainOrderWrong : ChangeSpec := { name := "chainOrder", fn := fun _ => fun
  | [d1, d2, d3] => { results := [.lit (.bool false)], args := [d1, d2, d3] }
  | _ => none }
def ChainOrderWrongFalsely : Prop := chainOrderRow.holds Tryd.pinned (OpenSpec.ofChange chainOrderWrong)

/-- 'pappuslaw11.ChainBack': WHATEVER THE INPUT: true; the input reads as it did. -/
def chainBackSpec : ChangeSpec := { name := "chainBack", fn := fun _ => fun
  | [d1, d2, d3] => { results := [.lit (.bool true)], args := [d1, d2, d3] }
  | _ => none }
def chainBackRow : OpenClaim := { program := "ytmpamcnlineceaadoor", sum := "f972dcd09fd059b9ffd5cec5db2f30fb3ca50394eb54d1352649c798eddbf9ae", func := "pappus/pappuslaw11.ChainBack", spec := "chainBack", inPlace := ["math/bits.Add64", "internal/bytealg.Compare"], unfollowed := true, recurses := true, named := ["pappus/sha.first", "pappus/sha.constants"], plainKeys := false, apart := false, laid := [("pappus/sha.constants", laid_pappus_sha_constants), ("pappus/sha.first", laid_pappus_sha_first)] }
def ChainBackSaid : Prop := chainBackRow.holds Tryd.pinned (OpenSpec.ofChange chainBackSpec)

/-- ITS FALSE NEIGHBOUR: 'it returns false'. Refute it at one input. -/
def chainBackWrong : ChangeSpec := { name := "chainBack", fn := fun _ => fun
  | [d1, d2, d3] => { results := [.lit (.bool false)], args := [d1, d2, d3] }
  | _ => none }
def ChainBackWrongFalsely : Prop := chainBackRow.holds Tryd.pinned (OpenSpec.ofChange chainBackWrong)

/-- 'pappuslaw11.ChainSpends': WHATEVER THE INPUT: true; the input reads as it did. -/
def chainSpendsSpec : ChangeSpec := { name := "chainSpends", fn := fun _ => fun
  | [d1, d2, d3] => { results := [.lit (.bool true)], args := [d1, d2, d3] }
  | _ => none }
def chainSpendsRow : OpenClaim := { program := "ytmpamcnlineceaadoor", sum := "f972dcd09fd059b9ffd5cec5db2f30fb3ca50394eb54d1352649c798eddbf9ae", func := "pappus/pappuslaw11.ChainSpends", spec := "chainSpends", inPlace := ["math/bits.Add64", "internal/bytealg.Compare"], unfollowed := true, recurses := true, named := ["pappus/sha.first", "pappus/sha.constants"], plainKeys := false, apart := false, laid := [("pappus/sha.constants", laid_pappus_sha_constants), ("pappus/sha.first", laid_pappus_sha_first)] }
def ChainSpendsSaid : Prop := chainSpendsRow.holds Tryd.pinned (OpenSpec.ofChange chainSpendsSpec)

/-- ITS FALSE NEIGHBOUR: 'it returns false'. Refute it at one input. -/
def chainSpendsWrong : ChangeSpec := { name := "chainSpends", fn := fun _ => fun
  | [d1, d2, d3] => { results := [.lit (.bool false)], args := [d1, d2, d3] }
  | _ => none }
def ChainSpendsWrongFalsely : Prop := chainSpendsRow.holds Tryd.pinned (OpenSpec.ofChange chainSpendsWrong)

/-- 'pappuslaw11.ChainIds': WHATEVER THE INPUT: true; the input reads as it did. -/
def chainIdsSpec : ChangeSpec := { name := "chainIds", fn := fun _ => fun
  | [d] => { results := [.lit (.bool true)], args := [d] }
  | _ => none }
def chainIdsRow : OpenClaim := { program := "ytmpamcnlineceaadoor", sum := "f972dcd09fd059b9ffd5cec5db2f30fb3ca50394eb54d1352649c798eddbf9ae", func := "pappus/pappuslaw11.ChainIds", spec := "chainIds", inPlace := ["math/bits.Add64", "internal/bytealg.Compare"], unfollowed := true, recurses := true, named := ["pappus/sha.first", "pappus/sha.constants"], plainKeys := false, apart := false, laid := [("pappus/sha.constants", laid_pappus_sha_constants), ("pappus/sha.first", laid_pappus_sha_first)] }
def ChainIdsSaid : Prop := chainIdsRow.holds Tryd.pinned (OpenSpec.ofChange chainIdsSpec)

/-- ITS FALSE NEIGHBOUR: 'it returns false'. Refute it at one input. -/
def chainIdsWrong : ChangeSpec := { name := "chainIds", fn := fun _ => fun
  | [d] => { results := [.lit (.bool false)], args := [d] }
  | _ => none }
def ChainIdsWrongFalsely : Prop := chainIdsRow.holds Tryd.pinned (OpenSpec.ofChange chainIdsWrong)

/- THE SECOND FORM. 'bulk': how many values and letters a reading holds, each counted each time it is reached (what is shared counts as often as it is met; a slice's spare places count too). A statement '..UptoSaid' is the law's where the arguments, and the package variables that the reading takes, are together of bulk at most 1048576: NARROWER than '..Said'. Prove '..Said' where nothing that the law and all that it calls make is longer than what came in: it says more and counts as full. Else prove '..UptoSaid'. A law counts once. -/
mutual
def uptoBulk {H : Type} : DataW H → Nat
  | .lit (.string bytes) => bytes.length + 1
  | .lit _ => 1
  | .nil => 1
  | .ptr d => uptoBulk d + 1
  | .slice elems spare => uptoBulkAll elems + uptoBulkAll spare + 1
  | .agg parts => uptoBulkAll parts + 1
  | .iface _ d => uptoBulk d + 1
  | .map entries => uptoBulkEntries entries + 1
  | .held _ => 1
def uptoBulkAll {H : Type} : List (DataW H) → Nat
  | [] => 0
  | d :: r => uptoBulk d + uptoBulkAll r
def uptoBulkEntries {H : Type} : List (Lit × DataW H) → Nat
  | [] => 0
  | x :: r => uptoBulkEntry x + uptoBulkEntries r
def uptoBulkEntry {H : Type} : Lit × DataW H → Nat
  | (.string bytes, d) => bytes.length + uptoBulk d + 1
  | (_, d) => uptoBulk d + 1
 end
def uptoSmall : (H : Type) → List (DataW H) → Bool := fun _ ds => decide (uptoBulkAll ds ≤ 1048576)
def OpenSpec.upto (s : _root_.Go.ChangeSpec) : _root_.Go.OpenSpec := { _root_.Go.OpenSpec.ofChange s with cond := some uptoSmall }

/-- 'pappuslaw11.ChainMoney', WHERE WHAT IT READS IS OF BULK AT MOST 1048576: true; the input reads as it did. -/
def chainMoneyUptoRow : OpenClaim := { program := "ytmpamcnlineceaadoor", sum := "f972dcd09fd059b9ffd5cec5db2f30fb3ca50394eb54d1352649c798eddbf9ae", func := "pappus/pappuslaw11.ChainMoney", spec := "chainMoney", inPlace := ["math/bits.Add64", "internal/bytealg.Compare"], unfollowed := true, recurses := true, named := ["pappus/sha.first", "pappus/sha.constants"], plainKeys := false, apart := false, laid := [("pappus/sha.constants", laid_pappus_sha_constants), ("pappus/sha.first", laid_pappus_sha_first)], narrowed := true }
def ChainMoneyUptoSaid : Prop := chainMoneyUptoRow.holds Tryd.pinned (OpenSpec.upto chainMoneySpec)

/-- 'pappuslaw11.ChainTwice', WHERE WHAT IT READS IS OF BULK AT MOST 1048576: true; the input reads as it did. -/
def chainTwiceUptoRow : OpenClaim := { program := "ytmpamcnlineceaadoor", sum := "f972dcd09fd059b9ffd5cec5db2f30fb3ca50394eb54d1352649c798eddbf9ae", func := "pappus/pappuslaw11.ChainTwice", spec := "chainTwice", inPlace := ["math/bits.Add64", "internal/bytealg.Compare"], unfollowed := true, recurses := true, named := ["pappus/sha.first", "pappus/sha.constants"], plainKeys := false, apart := false, laid := [("pappus/sha.constants", laid_pappus_sha_constants), ("pappus/sha.first", laid_pappus_sha_first)], narrowed := true }
def ChainTwiceUptoSaid : Prop := chainTwiceUptoRow.holds Tryd.pinned (OpenSpec.upto chainTwiceSpec)

/-- 'pappuslaw11.ChainFull', WHERE WHAT IT READS IS OF BULK AT MOST 1048576: true; the input reads as it did. -/
def chainFullUptoRow : OpenClaim := { program := "ytmpamcnlineceaadoor", sum := "f972dcd09fd059b9ffd5cec5db2f30fb3ca50394eb54d1352649c798eddbf9ae", func := "pappus/pappuslaw11.ChainFull", spec := "chainFull", inPlace := ["math/bits.Add64", "internal/bytealg.Compare"], unfollowed := true, recurses := true, named := ["pappus/sha.first", "pappus/sha.constants"], plainKeys := false, apart := false, laid := [("pappus/sha.constants", laid_pappus_sha_constants), ("pappus/sha.first", laid_pappus_sha_first)], narrowed := true }
def ChainFullUptoSaid : Prop := chainFullUptoRow.holds Tryd.pinned (OpenSpec.upto chainFullSpec)

/-- 'pappuslaw11.ChainOrder', WHERE WHAT IT READS IS OF BULK AT MOST 1048576: true; the input reads as it did. -/
def chainOrderUptoRow : OpenClaim := { program := "ytmpamcnlineceaadoor", sum := "f972dcd09fd059b9ffd5cec5db2f30fb3ca50394eb54d1352649c798eddbf9ae", func := "pappus/pappuslaw11.ChainOrder", spec := "chainOrder", inPlace := ["math/bits.Add64", "internal/bytealg.Compare"], unfollowed := true, recurses := true, named := ["pappus/sha.first", "pappus/sha.constants"], plainKeys := false, apart := false, laid := [("pappus/sha.constants", laid_pappus_sha_constants), ("pappus/sha.first", laid_pappus_sha_first)], narrowed := true }
def ChainOrderUptoSaid : Prop := chainOrderUptoRow.holds Tryd.pinned (OpenSpec.upto chainOrderSpec)

/-- 'pappuslaw11.ChainBack', WHERE WHAT IT READS IS OF BULK AT MOST 1048576: true; the input reads as it did. -/
def chainBackUptoRow : OpenClaim := { program := "ytmpamcnlineceaadoor", sum := "f972dcd09fd059b9ffd5cec5db2f30fb3ca50394eb54d1352649c798eddbf9ae", func := "pappus/pappuslaw11.ChainBack", spec := "chainBack", inPlace := ["math/bits.Add64", "internal/bytealg.Compare"], unfollowed := true, recurses := true, named := ["pappus/sha.first", "pappus/sha.constants"], plainKeys := false, apart := false, laid := [("pappus/sha.constants", laid_pappus_sha_constants), ("pappus/sha.first", laid_pappus_sha_first)], narrowed := true }
def ChainBackUptoSaid : Prop := chainBackUptoRow.holds Tryd.pinned (OpenSpec.upto chainBackSpec)

/-- 'pappuslaw11.ChainSpends', WHERE WHAT IT READS IS OF BULK AT MOST 1048576: true; the input reads as it did. -/
def chainSpendsUptoRow : OpenClaim := { program := "ytmpamcnlineceaadoor", sum := "f972dcd09fd059b9ffd5cec5db2f30fb3ca50394eb54d1352649c798eddbf9ae", func := "pappus/pappuslaw11.ChainSpends", spec := "chainSpends", inPlace := ["math/bits.Add64", "internal/bytealg.Compare"], unfollowed := true, recurses := true, named := ["pappus/sha.first", "pappus/sha.constants"], plainKeys := false, apart := false, laid := [("pappus/sha.constants", laid_pappus_sha_constants), ("pappus/sha.first", laid_pappus_sha_first)], narrowed := true }
def ChainSpendsUptoSaid : Prop := chainSpendsUptoRow.holds Tryd.pinned (OpenSpec.upto chainSpendsSpec)

/-- 'pappuslaw11.ChainIds', WHERE WHAT IT READS IS OF BULK AT MOST 1048576: true; the input reads as it did. -/
def chainIdsUptoRow : OpenClaim := { program := "ytmpamcnlineceaadoor", sum := "f972dcd09fd059b9ffd5cec5db2f30fb3ca50394eb54d1352649c798eddbf9ae", func := "pappus/pappuslaw11.ChainIds", spec := "chainIds", inPlace := ["math/bits.Add64", "internal/bytealg.Compare"], unfollowed := true, recurses := true, named := ["pappus/sha.first", "pappus/sha.constants"], plainKeys := false, apart := false, laid := [("pappus/sha.constants", laid_pappus_sha_constants), ("pappus/sha.first", laid_pappus_sha_first)], narrowed := true }
def ChainIdsUptoSaid : Prop := chainIdsUptoRow.holds Tryd.pinned (OpenSpec.upto chainIdsSpec)

end Rows
end Go.Proofs.YtmpamcnlineceaaDoor
