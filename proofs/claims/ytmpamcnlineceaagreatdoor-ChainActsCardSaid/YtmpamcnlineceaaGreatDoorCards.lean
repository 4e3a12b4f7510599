/-
  DERIVED. GIVEN WITH THE SEED: THE CARDS: each row of YtmpamcnlineceaaGreatDoorRows.lean that lists a variable, with what it lists TIED to the program's text (the seventh form; the later family's looks); each row that meets fmt, with fmt's text TOLD by the authors' own Lean function (tested against real Go, not proved from fmt's source: count such statements apart). THE CARD IS WHAT COUNTS. Prove the row's statement (the work); the ties are given (YtmpamcnlineceaaGreatDoorTie.lean); close each card by the builder's one call (the guide's Derived/Test/ToyasCard.lean, 'card_holds'). Laid BY PROGRAM, IN A SANDBOX (cutbox-door.mjs). By AI agents, Wed Nov 11 2026. No macro, syntax, notation, axiom, sorry.
-/
import Derived.Test.YtmpamcnlineceaaGreatDoorRows
import GoSem.ClaimSeven
namespace Go.Proofs.YtmpamcnlineceaaGreatDoor
namespace Rows

/-- THE TIED CARD OF 'pappuslaw11.ChainActs'. -/
def chainActsCard : Claim7 := { stood := { row := chainActsRow, standIns := [], harness := (true, "944acd4414132fa7504b5a1659cbf2da71eecafdf8b44148192eae922d3f89f7"), looks := false }, kinds := [], alts := [], laidByText := true, laidKinds := [.data, .data], laidTests := true, laidLooks := .later }
def ChainActsCardSaid : Prop := Claim7.holds Tryz.pinned (.plain (OpenSpec.ofChange chainActsSpec)) chainActsCard

/-- THE SECOND FORM's CARD OF 'pappuslaw11.ChainActs'. -/
def chainActsUptoCard : Claim7 := { stood := { row := chainActsUptoRow, standIns := [], harness := (true, "944acd4414132fa7504b5a1659cbf2da71eecafdf8b44148192eae922d3f89f7"), looks := false }, kinds := [], alts := [], laidByText := true, laidKinds := [.data, .data], laidTests := true, laidLooks := .later }
def ChainActsUptoCardSaid : Prop := Claim7.holds Tryz.pinned (.plain (OpenSpec.upto chainActsSpec)) chainActsUptoCard
end Rows
end Go.Proofs.YtmpamcnlineceaaGreatDoor
