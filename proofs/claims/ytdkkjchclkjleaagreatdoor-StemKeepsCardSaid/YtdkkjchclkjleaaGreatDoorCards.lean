/-
  DERIVED. GIVEN WITH THE SEED: THE CARDS: each row of YtdkkjchclkjleaaGreatDoorRows.lean that lists a variable, with what it lists TIED to the program's text (the seventh form; the later family's looks); each row that meets fmt, with fmt's text TOLD by the authors' own Lean function (tested against real Go, not proved from fmt's source: count such statements apart). THE CARD IS WHAT COUNTS. Prove the row's statement (the work); the ties are given (YtdkkjchclkjleaaGreatDoorTie.lean); close each card by the builder's one call (the guide's Derived/Test/ToyasCard.lean, 'card_holds'). Laid BY PROGRAM, IN A SANDBOX (cutbox-door.mjs). By AI agents, Wed Nov 11 2026. No macro, syntax, notation, axiom, sorry.
-/
import Derived.Test.YtdkkjchclkjleaaGreatDoorRows
import GoSem.ClaimSeven
namespace Go.Proofs.YtdkkjchclkjleaaGreatDoor
namespace Rows

/-- THE TIED CARD OF 'pappuslaw15.StemFluffs'. -/
def stemFluffsCard : Claim7 := { stood := { row := stemFluffsRow, standIns := [], harness := (true, "5333e624adf4ff4730fb7374239dd408f42bc1c529ffec1fd40a5f0db4ffb298"), looks := false }, kinds := [], alts := [], laidByText := true, laidKinds := [.data, .data], laidTests := true, laidLooks := .later }
def StemFluffsCardSaid : Prop := Claim7.holds Tryz.pinned (.plain (OpenSpec.ofChange stemFluffsSpec)) stemFluffsCard

/-- THE TIED CARD OF 'pappuslaw15.StemSeen'. -/
def stemSeenCard : Claim7 := { stood := { row := stemSeenRow, standIns := [], harness := (true, "5333e624adf4ff4730fb7374239dd408f42bc1c529ffec1fd40a5f0db4ffb298"), looks := false }, kinds := [], alts := [], laidByText := true, laidKinds := [.data, .data], laidTests := true, laidLooks := .later }
def StemSeenCardSaid : Prop := Claim7.holds Tryz.pinned (.plain (OpenSpec.ofChange stemSeenSpec)) stemSeenCard

/-- THE TIED CARD OF 'pappuslaw15.StemApart'. -/
def stemApartCard : Claim7 := { stood := { row := stemApartRow, standIns := [], harness := (true, "5333e624adf4ff4730fb7374239dd408f42bc1c529ffec1fd40a5f0db4ffb298"), looks := false }, kinds := [], alts := [], laidByText := true, laidKinds := [.data, .data], laidTests := true, laidLooks := .later }
def StemApartCardSaid : Prop := Claim7.holds Tryz.pinned (.plain (OpenSpec.ofChange stemApartSpec)) stemApartCard

/-- THE TIED CARD OF 'pappuslaw15.StemActs'. -/
def stemActsCard : Claim7 := { stood := { row := stemActsRow, standIns := [], harness := (true, "5333e624adf4ff4730fb7374239dd408f42bc1c529ffec1fd40a5f0db4ffb298"), looks := false }, kinds := [], alts := [], laidByText := true, laidKinds := [.data, .data], laidTests := true, laidLooks := .later }
def StemActsCardSaid : Prop := Claim7.holds Tryz.pinned (.plain (OpenSpec.ofChange stemActsSpec)) stemActsCard

/-- THE TIED CARD OF 'pappuslaw15.StemFew'. -/
def stemFewCard : Claim7 := { stood := { row := stemFewRow, standIns := [], harness := (true, "5333e624adf4ff4730fb7374239dd408f42bc1c529ffec1fd40a5f0db4ffb298"), looks := false }, kinds := [], alts := [], laidByText := true, laidKinds := [.data, .data], laidTests := true, laidLooks := .later }
def StemFewCardSaid : Prop := Claim7.holds Tryz.pinned (.plain (OpenSpec.ofChange stemFewSpec)) stemFewCard

/-- THE TIED CARD OF 'pappuslaw15.StemKeeps'. -/
def stemKeepsCard : Claim7 := { stood := { row := stemKeepsRow, standIns := [], harness := (true, "5333e624adf4ff4730fb7374239dd408f42bc1c529ffec1fd40a5f0db4ffb298"), looks := false }, kinds := [], alts := [], laidByText := true, laidKinds := [.data, .data], laidTests := true, laidLooks := .later }
def StemKeepsCardSaid : Prop := Claim7.holds Tryz.pinned (.plain (OpenSpec.ofChange stemKeepsSpec)) stemKeepsCard

/-- THE SECOND FORM's CARD OF 'pappuslaw15.StemFluffs'. -/
def stemFluffsUptoCard : Claim7 := { stood := { row := stemFluffsUptoRow, standIns := [], harness := (true, "5333e624adf4ff4730fb7374239dd408f42bc1c529ffec1fd40a5f0db4ffb298"), looks := false }, kinds := [], alts := [], laidByText := true, laidKinds := [.data, .data], laidTests := true, laidLooks := .later }
def StemFluffsUptoCardSaid : Prop := Claim7.holds Tryz.pinned (.plain (OpenSpec.upto stemFluffsSpec)) stemFluffsUptoCard

/-- THE SECOND FORM's CARD OF 'pappuslaw15.StemSeen'. -/
def stemSeenUptoCard : Claim7 := { stood := { row := stemSeenUptoRow, standIns := [], harness := (true, "5333e624adf4ff4730fb7374239dd408f42bc1c529ffec1fd40a5f0db4ffb298"), looks := false }, kinds := [], alts := [], laidByText := true, laidKinds := [.data, .data], laidTests := true, laidLooks := .later }
def StemSeenUptoCardSaid : Prop := Claim7.holds Tryz.pinned (.plain (OpenSpec.upto stemSeenSpec)) stemSeenUptoCard

/-- THE SECOND FORM's CARD OF 'pappuslaw15.StemApart'. -/
def stemApartUptoCard : Claim7 := { stood := { row := stemApartUptoRow, standIns := [], harness := (true, "5333e624adf4ff4730fb7374239dd408f42bc1c529ffec1fd40a5f0db4ffb298"), looks := false }, kinds := [], alts := [], laidByText := true, laidKinds := [.data, .data], laidTests := true, laidLooks := .later }
def StemApartUptoCardSaid : Prop := Claim7.holds Tryz.pinned (.plain (OpenSpec.upto stemApartSpec)) stemApartUptoCard

/-- THE SECOND FORM's CARD OF 'pappuslaw15.StemActs'. -/
def stemActsUptoCard : Claim7 := { stood := { row := stemActsUptoRow, standIns := [], harness := (true, "5333e624adf4ff4730fb7374239dd408f42bc1c529ffec1fd40a5f0db4ffb298"), looks := false }, kinds := [], alts := [], laidByText := true, laidKinds := [.data, .data], laidTests := true, laidLooks := .later }
def StemActsUptoCardSaid : Prop := Claim7.holds Tryz.pinned (.plain (OpenSpec.upto stemActsSpec)) stemActsUptoCard

/-- THE SECOND FORM's CARD OF 'pappuslaw15.StemFew'. -/
def stemFewUptoCard : Claim7 := { stood := { row := stemFewUptoRow, standIns := [], harness := (true, "5333e624adf4ff4730fb7374239dd408f42bc1c529ffec1fd40a5f0db4ffb298"), looks := false }, kinds := [], alts := [], laidByText := true, laidKinds := [.data, .data], laidTests := true, laidLooks := .later }
def StemFewUptoCardSaid : Prop := Claim7.holds Tryz.pinned (.plain (OpenSpec.upto stemFewSpec)) stemFewUptoCard

/-- THE SECOND FORM's CARD OF 'pappuslaw15.StemKeeps'. -/
def stemKeepsUptoCard : Claim7 := { stood := { row := stemKeepsUptoRow, standIns := [], harness := (true, "5333e624adf4ff4730fb7374239dd408f42bc1c529ffec1fd40a5f0db4ffb298"), looks := false }, kinds := [], alts := [], laidByText := true, laidKinds := [.data, .data], laidTests := true, laidLooks := .later }
def StemKeepsUptoCardSaid : Prop := Claim7.holds Tryz.pinned (.plain (OpenSpec.upto stemKeepsSpec)) stemKeepsUptoCard
end Rows
end Go.Proofs.YtdkkjchclkjleaaGreatDoor
