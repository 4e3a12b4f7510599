/-
  DERIVED. GIVEN WITH THE SEED: THE CARDS: each row of YtmpamcnlineceaaDoorRows.lean that lists a variable, with what it lists TIED to the program's text (the seventh form; the later family's looks); each row that meets fmt, with fmt's text TOLD by the authors' own Lean function (tested against real Go, not proved from fmt's source: count such statements apart). THE CARD IS WHAT COUNTS. Prove the row's statement (the work); the ties are given (YtmpamcnlineceaaDoorTie.lean); close each card by the builder's one call (the guide's Derived/Test/ToyasCard.lean, 'card_holds'). Laid BY PROGRAM, IN A SANDBOX (cutbox-door.mjs). By AI agents, Wed Nov 11 2026. No macro, syntax, notation, axiom, sorry.
-/
import Derived.Test.YtmpamcnlineceaaDoorRows
import GoSem.ClaimSeven
namespace Go.Proofs.YtmpamcnlineceaaDoor
namespace Rows

/-- THE TIED CARD OF 'pappuslaw11.ChainMoney'. -/
def chainMoneyCard : Claim7 := { stood := { row := chainMoneyRow, standIns := [], harness := (true, "8a316acd5ba19ccb438749f31cf5d332cba0f4b4504c8ff36cf73af9a938de23"), looks := false }, kinds := [], alts := [], laidByText := true, laidKinds := [.data, .data], laidTests := true, laidLooks := .later }
def ChainMoneyCardSaid : Prop := Claim7.holds Tryd.pinned (.plain (OpenSpec.ofChange chainMoneySpec)) chainMoneyCard

/-- THE TIED CARD OF 'pappuslaw11.ChainTwice'. -/
def chainTwiceCard : Claim7 := { stood := { row := chainTwiceRow, standIns := [], harness := (true, "8a316acd5ba19ccb438749f31cf5d332cba0f4b4504c8ff36cf73af9a938de23"), looks := false }, kinds := [], alts := [], laidByText := true, laidKinds := [.data, .data], laidTests := true, laidLooks := .later }
def ChainTwiceCardSaid : Prop := Claim7.holds Tryd.pinned (.plain (OpenSpec.ofChange chainTwiceSpec)) chainTwiceCard

/-- THE TIED CARD OF 'pappuslaw11.ChainFull'. -/
def chainFullCard : Claim7 := { stood := { row := chainFullRow, standIns := [], harness := (true, "8a316acd5ba19ccb438749f31cf5d332cba0f4b4504c8ff36cf73af9a938de23"), looks := false }, kinds := [], alts := [], laidByText := true, laidKinds := [.data, .data], laidTests := true, laidLooks := .later }
def ChainFullCardSaid : Prop := Claim7.holds Tryd.pinned (.plain (OpenSpec.ofChange chainFullSpec)) chainFullCard

/-- THE TIED CARD OF 'pappuslaw11.ChainOrder'. -/
def chainOrderCard : Claim7 := { stood := { row := chainOrderRow, standIns := [], harness := (true, "8a316acd5ba19ccb438749f31cf5d332cba0f4b4504c8ff36cf73af9a938de23"), looks := false }, kinds := [], alts := [], laidByText := true, laidKinds := [.data, .data], laidTests := true, laidLooks := .later }
def ChainOrderCardSaid : Prop := Claim7.holds Tryd.pinned (.plain (OpenSpec.ofChange chainOrderSpec)) chainOrderCard

/-- THE TIED CARD OF 'pappuslaw11.ChainBack'. -/
def chainBackCard : Claim7 := { stood := { row := chainBackRow, standIns := [], harness := (true, "8a316acd5ba19ccb438749f31cf5d332cba0f4b4504c8ff36cf73af9a938de23"), looks := false }, kinds := [], alts := [], laidByText := true, laidKinds := [.data, .data], laidTests := true, laidLooks := .later }
def ChainBackCardSaid : Prop := Claim7.holds Tryd.pinned (.plain (OpenSpec.ofChange chainBackSpec)) chainBackCard

/-- THE TIED CARD OF 'pappuslaw11.ChainSpends'. -/
def chainSpendsCard : Claim7 := { stood := { row := chainSpendsRow, standIns := [], harness := (true, "8a316acd5ba19ccb438749f31cf5d332cba0f4b4504c8ff36cf73af9a938de23"), looks := false }, kinds := [], alts := [], laidByText := true, laidKinds := [.data, .data], laidTests := true, laidLooks := .later }
def ChainSpendsCardSaid : Prop := Claim7.holds Tryd.pinned (.plain (OpenSpec.ofChange chainSpendsSpec)) chainSpendsCard

/-- THE TIED CARD OF 'pappuslaw11.ChainIds'. -/
def chainIdsCard : Claim7 := { stood := { row := chainIdsRow, standIns := [], harness := (true, "8a316acd5ba19ccb438749f31cf5d332cba0f4b4504c8ff36cf73af9a938de23"), looks := false }, kinds := [], alts := [], laidByText := true, laidKinds := [.data, .data], laidTests := true, laidLooks := .later }
def ChainIdsCardSaid : Prop := Claim7.holds Tryd.pinned (.plain (OpenSpec.ofChange chainIdsSpec)) chainIdsCard

/-- THE SECOND FORM's CARD OF 'pappuslaw11.ChainMoney'. -/
def chainMoneyUptoCard : Claim7 := { stood := { row := chainMoneyUptoRow, standIns := [], harness := (true, "8a316acd5ba19ccb438749f31cf5d332cba0f4b4504c8ff36cf73af9a938de23"), looks := false }, kinds := [], alts := [], laidByText := true, laidKinds := [.data, .data], laidTests := true, laidLooks := .later }
def ChainMoneyUptoCardSaid : Prop := Claim7.holds Tryd.pinned (.plain (OpenSpec.upto chainMoneySpec)) chainMoneyUptoCard

/-- THE SECOND FORM's CARD OF 'pappuslaw11.ChainTwice'. -/
def chainTwiceUptoCard : Claim7 := { stood := { row := chainTwiceUptoRow, standIns := [], harness := (true, "8a316acd5ba19ccb438749f31cf5d332cba0f4b4504c8ff36cf73af9a938de23"), looks := false }, kinds := [], alts := [], laidByText := true, laidKinds := [.data, .data], laidTests := true, laidLooks := .later }
def ChainTwiceUptoCardSaid : Prop := Claim7.holds Tryd.pinned (.plain (OpenSpec.upto chainTwiceSpec)) chainTwiceUptoCard

/-- THE SECOND FORM's CARD OF 'pappuslaw11.ChainFull'. -/
def chainFullUptoCard : Claim7 := { stood := { row := chainFullUptoRow, standIns := [], harness := (true, "8a316acd5ba19ccb438749f31cf5d332cba0f4b4504c8ff36cf73af9a938de23"), looks := false }, kinds := [], alts := [], laidByText := true, laidKinds := [.data, .data], laidTests := true, laidLooks := .later }
def ChainFullUptoCardSaid : Prop := Claim7.holds Tryd.pinned (.plain (OpenSpec.upto chainFullSpec)) chainFullUptoCard

/-- THE SECOND FORM's CARD OF 'pappuslaw11.ChainOrder'. -/
def chainOrderUptoCard : Claim7 := { stood := { row := chainOrderUptoRow, standIns := [], harness := (true, "8a316acd5ba19ccb438749f31cf5d332cba0f4b4504c8ff36cf73af9a938de23"), looks := false }, kinds := [], alts := [], laidByText := true, laidKinds := [.data, .data], laidTests := true, laidLooks := .later }
def ChainOrderUptoCardSaid : Prop := Claim7.holds Tryd.pinned (.plain (OpenSpec.upto chainOrderSpec)) chainOrderUptoCard

/-- THE SECOND FORM's CARD OF 'pappuslaw11.ChainBack'. -/
def chainBackUptoCard : Claim7 := { stood := { row := chainBackUptoRow, standIns := [], harness := (true, "8a316acd5ba19ccb438749f31cf5d332cba0f4b4504c8ff36cf73af9a938de23"), looks := false }, kinds := [], alts := [], laidByText := true, laidKinds := [.data, .data], laidTests := true, laidLooks := .later }
def ChainBackUptoCardSaid : Prop := Claim7.holds Tryd.pinned (.plain (OpenSpec.upto chainBackSpec)) chainBackUptoCard

/-- THE SECOND FORM's CARD OF 'pappuslaw11.ChainSpends'. -/
def chainSpendsUptoCard : Claim7 := { stood := { row := chainSpendsUptoRow, standIns := [], harness := (true, "8a316acd5ba19ccb438749f31cf5d332cba0f4b4504c8ff36cf73af9a938de23"), looks := false }, kinds := [], alts := [], laidByText := true, laidKinds := [.data, .data], laidTests := true, laidLooks := .later }
def ChainSpendsUptoCardSaid : Prop := Claim7.holds Tryd.pinned (.plain (OpenSpec.upto chainSpendsSpec)) chainSpendsUptoCard

/-- THE SECOND FORM's CARD OF 'pappuslaw11.ChainIds'. -/
def chainIdsUptoCard : Claim7 := { stood := { row := chainIdsUptoRow, standIns := [], harness := (true, "8a316acd5ba19ccb438749f31cf5d332cba0f4b4504c8ff36cf73af9a938de23"), looks := false }, kinds := [], alts := [], laidByText := true, laidKinds := [.data, .data], laidTests := true, laidLooks := .later }
def ChainIdsUptoCardSaid : Prop := Claim7.holds Tryd.pinned (.plain (OpenSpec.upto chainIdsSpec)) chainIdsUptoCard
end Rows
end Go.Proofs.YtmpamcnlineceaaDoor
