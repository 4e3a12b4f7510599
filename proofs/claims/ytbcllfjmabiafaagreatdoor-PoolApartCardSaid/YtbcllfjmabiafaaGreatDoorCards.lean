/-
  DERIVED. GIVEN WITH THE SEED: THE CARDS: each row of YtbcllfjmabiafaaGreatDoorRows.lean that lists a variable, with what it lists TIED to the program's text (the seventh form; the later family's looks); each row that meets fmt, with fmt's text TOLD by the authors' own Lean function (tested against real Go, not proved from fmt's source: count such statements apart). THE CARD IS WHAT COUNTS. Prove the row's statement (the work); the ties are given (YtbcllfjmabiafaaGreatDoorTie.lean); close each card by the builder's one call (the guide's Derived/Test/ToyasCard.lean, 'card_holds'). Laid BY PROGRAM, IN A SANDBOX (cutbox-door.mjs). By AI agents, Wed Nov 11 2026. No macro, syntax, notation, axiom, sorry.
-/
import Derived.Test.YtbcllfjmabiafaaGreatDoorRows
import GoSem.ClaimSeven
namespace Go.Proofs.YtbcllfjmabiafaaGreatDoor
namespace Rows

/-- THE TIED CARD OF 'pappuslaw13.PoolRefuses'. -/
def poolRefusesCard : Claim7 := { stood := { row := poolRefusesRow, standIns := [], harness := (true, "f97627da813a636bed0a7427c56996a732cfbc1836b45a65846d8f7ce1570b1e"), looks := false }, kinds := [], alts := [], laidByText := true, laidKinds := [.data, .data], laidTests := true, laidLooks := .later }
def PoolRefusesCardSaid : Prop := Claim7.holds Tryz.pinned (.plain (OpenSpec.ofChange poolRefusesSpec)) poolRefusesCard

/-- THE TIED CARD OF 'pappuslaw13.PoolMined'. -/
def poolMinedCard : Claim7 := { stood := { row := poolMinedRow, standIns := [], harness := (true, "f97627da813a636bed0a7427c56996a732cfbc1836b45a65846d8f7ce1570b1e"), looks := false }, kinds := [], alts := [], laidByText := true, laidKinds := [.data, .data], laidTests := true, laidLooks := .later }
def PoolMinedCardSaid : Prop := Claim7.holds Tryz.pinned (.plain (OpenSpec.ofChange poolMinedSpec)) poolMinedCard

/-- THE TIED CARD OF 'pappuslaw13.PoolAgain'. -/
def poolAgainCard : Claim7 := { stood := { row := poolAgainRow, standIns := [], harness := (true, "f97627da813a636bed0a7427c56996a732cfbc1836b45a65846d8f7ce1570b1e"), looks := false }, kinds := [], alts := [], laidByText := true, laidKinds := [.data, .data], laidTests := true, laidLooks := .later }
def PoolAgainCardSaid : Prop := Claim7.holds Tryz.pinned (.plain (OpenSpec.ofChange poolAgainSpec)) poolAgainCard

/-- THE TIED CARD OF 'pappuslaw13.PoolApart'. -/
def poolApartCard : Claim7 := { stood := { row := poolApartRow, standIns := [], harness := (true, "f97627da813a636bed0a7427c56996a732cfbc1836b45a65846d8f7ce1570b1e"), looks := false }, kinds := [], alts := [], laidByText := true, laidKinds := [.data, .data], laidTests := true, laidLooks := .later }
def PoolApartCardSaid : Prop := Claim7.holds Tryz.pinned (.plain (OpenSpec.ofChange poolApartSpec)) poolApartCard

/-- THE TIED CARD OF 'pappuslaw13.PoolBest'. -/
def poolBestCard : Claim7 := { stood := { row := poolBestRow, standIns := [], harness := (true, "f97627da813a636bed0a7427c56996a732cfbc1836b45a65846d8f7ce1570b1e"), looks := false }, kinds := [], alts := [], laidByText := true, laidKinds := [.data, .data], laidTests := true, laidLooks := .later }
def PoolBestCardSaid : Prop := Claim7.holds Tryz.pinned (.plain (OpenSpec.ofChange poolBestSpec)) poolBestCard

/-- THE TIED CARD OF 'pappuslaw13.PoolGrows'. -/
def poolGrowsCard : Claim7 := { stood := { row := poolGrowsRow, standIns := [], harness := (true, "f97627da813a636bed0a7427c56996a732cfbc1836b45a65846d8f7ce1570b1e"), looks := false }, kinds := [], alts := [], laidByText := true, laidKinds := [.data, .data], laidTests := true, laidLooks := .later }
def PoolGrowsCardSaid : Prop := Claim7.holds Tryz.pinned (.plain (OpenSpec.ofChange poolGrowsSpec)) poolGrowsCard

/-- THE TIED CARD OF 'pappuslaw13.PoolActs'. -/
def poolActsCard : Claim7 := { stood := { row := poolActsRow, standIns := [], harness := (true, "f97627da813a636bed0a7427c56996a732cfbc1836b45a65846d8f7ce1570b1e"), looks := false }, kinds := [], alts := [], laidByText := true, laidKinds := [.data, .data], laidTests := true, laidLooks := .later }
def PoolActsCardSaid : Prop := Claim7.holds Tryz.pinned (.plain (OpenSpec.ofChange poolActsSpec)) poolActsCard

/-- THE TIED CARD OF 'pappuslaw13.PoolPays'. -/
def poolPaysCard : Claim7 := { stood := { row := poolPaysRow, standIns := [], harness := (true, "f97627da813a636bed0a7427c56996a732cfbc1836b45a65846d8f7ce1570b1e"), looks := false }, kinds := [], alts := [], laidByText := true, laidKinds := [.data, .data], laidTests := true, laidLooks := .later }
def PoolPaysCardSaid : Prop := Claim7.holds Tryz.pinned (.plain (OpenSpec.ofChange poolPaysSpec)) poolPaysCard

/-- THE SECOND FORM's CARD OF 'pappuslaw13.PoolRefuses'. -/
def poolRefusesUptoCard : Claim7 := { stood := { row := poolRefusesUptoRow, standIns := [], harness := (true, "f97627da813a636bed0a7427c56996a732cfbc1836b45a65846d8f7ce1570b1e"), looks := false }, kinds := [], alts := [], laidByText := true, laidKinds := [.data, .data], laidTests := true, laidLooks := .later }
def PoolRefusesUptoCardSaid : Prop := Claim7.holds Tryz.pinned (.plain (OpenSpec.upto poolRefusesSpec)) poolRefusesUptoCard

/-- THE SECOND FORM's CARD OF 'pappuslaw13.PoolMined'. -/
def poolMinedUptoCard : Claim7 := { stood := { row := poolMinedUptoRow, standIns := [], harness := (true, "f97627da813a636bed0a7427c56996a732cfbc1836b45a65846d8f7ce1570b1e"), looks := false }, kinds := [], alts := [], laidByText := true, laidKinds := [.data, .data], laidTests := true, laidLooks := .later }
def PoolMinedUptoCardSaid : Prop := Claim7.holds Tryz.pinned (.plain (OpenSpec.upto poolMinedSpec)) poolMinedUptoCard

/-- THE SECOND FORM's CARD OF 'pappuslaw13.PoolAgain'. -/
def poolAgainUptoCard : Claim7 := { stood := { row := poolAgainUptoRow, standIns := [], harness := (true, "f97627da813a636bed0a7427c56996a732cfbc1836b45a65846d8f7ce1570b1e"), looks := false }, kinds := [], alts := [], laidByText := true, laidKinds := [.data, .data], laidTests := true, laidLooks := .later }
def PoolAgainUptoCardSaid : Prop := Claim7.holds Tryz.pinned (.plain (OpenSpec.upto poolAgainSpec)) poolAgainUptoCard

/-- THE SECOND FORM's CARD OF 'pappuslaw13.PoolApart'. -/
def poolApartUptoCard : Claim7 := { stood := { row := poolApartUptoRow, standIns := [], harness := (true, "f97627da813a636bed0a7427c56996a732cfbc1836b45a65846d8f7ce1570b1e"), looks := false }, kinds := [], alts := [], laidByText := true, laidKinds := [.data, .data], laidTests := true, laidLooks := .later }
def PoolApartUptoCardSaid : Prop := Claim7.holds Tryz.pinned (.plain (OpenSpec.upto poolApartSpec)) poolApartUptoCard

/-- THE SECOND FORM's CARD OF 'pappuslaw13.PoolBest'. -/
def poolBestUptoCard : Claim7 := { stood := { row := poolBestUptoRow, standIns := [], harness := (true, "f97627da813a636bed0a7427c56996a732cfbc1836b45a65846d8f7ce1570b1e"), looks := false }, kinds := [], alts := [], laidByText := true, laidKinds := [.data, .data], laidTests := true, laidLooks := .later }
def PoolBestUptoCardSaid : Prop := Claim7.holds Tryz.pinned (.plain (OpenSpec.upto poolBestSpec)) poolBestUptoCard

/-- THE SECOND FORM's CARD OF 'pappuslaw13.PoolGrows'. -/
def poolGrowsUptoCard : Claim7 := { stood := { row := poolGrowsUptoRow, standIns := [], harness := (true, "f97627da813a636bed0a7427c56996a732cfbc1836b45a65846d8f7ce1570b1e"), looks := false }, kinds := [], alts := [], laidByText := true, laidKinds := [.data, .data], laidTests := true, laidLooks := .later }
def PoolGrowsUptoCardSaid : Prop := Claim7.holds Tryz.pinned (.plain (OpenSpec.upto poolGrowsSpec)) poolGrowsUptoCard

/-- THE SECOND FORM's CARD OF 'pappuslaw13.PoolActs'. -/
def poolActsUptoCard : Claim7 := { stood := { row := poolActsUptoRow, standIns := [], harness := (true, "f97627da813a636bed0a7427c56996a732cfbc1836b45a65846d8f7ce1570b1e"), looks := false }, kinds := [], alts := [], laidByText := true, laidKinds := [.data, .data], laidTests := true, laidLooks := .later }
def PoolActsUptoCardSaid : Prop := Claim7.holds Tryz.pinned (.plain (OpenSpec.upto poolActsSpec)) poolActsUptoCard

/-- THE SECOND FORM's CARD OF 'pappuslaw13.PoolPays'. -/
def poolPaysUptoCard : Claim7 := { stood := { row := poolPaysUptoRow, standIns := [], harness := (true, "f97627da813a636bed0a7427c56996a732cfbc1836b45a65846d8f7ce1570b1e"), looks := false }, kinds := [], alts := [], laidByText := true, laidKinds := [.data, .data], laidTests := true, laidLooks := .later }
def PoolPaysUptoCardSaid : Prop := Claim7.holds Tryz.pinned (.plain (OpenSpec.upto poolPaysSpec)) poolPaysUptoCard
end Rows
end Go.Proofs.YtbcllfjmabiafaaGreatDoor
