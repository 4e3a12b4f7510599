/-
  DERIVED. GIVEN WITH THE SEED: THE CARDS: each row of YthmaekkjpginoaaDoorRows.lean that lists a variable, with what it lists TIED to the program's text (the seventh form; the later family's looks); each row that meets fmt, with fmt's text TOLD by the authors' own Lean function (tested against real Go, not proved from fmt's source: count such statements apart). THE CARD IS WHAT COUNTS. Prove the row's statement (the work); the ties are given (YthmaekkjpginoaaDoorTie.lean); close each card by the builder's one call (the guide's Derived/Test/ToyasCard.lean, 'card_holds'). Laid BY PROGRAM, IN A SANDBOX (cutbox-door.mjs). By AI agents, Wed Nov 11 2026. No macro, syntax, notation, axiom, sorry.
-/
import Derived.Test.YthmaekkjpginoaaDoorRows
import GoSem.ClaimSeven
namespace Go.Proofs.YthmaekkjpginoaaDoor
namespace Rows

/-- THE TIED CARD OF 'pappuslaw16.EmbargoDelays'. -/
def embargoDelaysCard : Claim7 := { stood := { row := embargoDelaysRow, standIns := [], harness := (true, "841017ec70688889f3d96c30804116a835a59254f8527ea2dc9bd2cf6f6ef6dc"), looks := false }, kinds := [], alts := [], laidByText := true, laidKinds := [.data], laidTests := true, laidLooks := .later }
def EmbargoDelaysCardSaid : Prop := Claim7.holds Tryd.pinned (.plain (OpenSpec.ofChange embargoDelaysSpec)) embargoDelaysCard

/-- THE TIED CARD OF 'pappuslaw16.EmbargoRises'. -/
def embargoRisesCard : Claim7 := { stood := { row := embargoRisesRow, standIns := [], harness := (true, "841017ec70688889f3d96c30804116a835a59254f8527ea2dc9bd2cf6f6ef6dc"), looks := false }, kinds := [], alts := [], laidByText := true, laidKinds := [.data], laidTests := true, laidLooks := .later }
def EmbargoRisesCardSaid : Prop := Claim7.holds Tryd.pinned (.plain (OpenSpec.ofChange embargoRisesSpec)) embargoRisesCard

/-- THE TIED CARD OF 'pappuslaw16.EmbargoSteps'. -/
def embargoStepsCard : Claim7 := { stood := { row := embargoStepsRow, standIns := [], harness := (true, "841017ec70688889f3d96c30804116a835a59254f8527ea2dc9bd2cf6f6ef6dc"), looks := false }, kinds := [], alts := [], laidByText := true, laidKinds := [.data], laidTests := true, laidLooks := .later }
def EmbargoStepsCardSaid : Prop := Claim7.holds Tryd.pinned (.plain (OpenSpec.ofChange embargoStepsSpec)) embargoStepsCard

/-- THE TIED CARD OF 'pappuslaw16.EmbargoOnce'. -/
def embargoOnceCard : Claim7 := { stood := { row := embargoOnceRow, standIns := [], harness := (true, "841017ec70688889f3d96c30804116a835a59254f8527ea2dc9bd2cf6f6ef6dc"), looks := false }, kinds := [], alts := [], laidByText := true, laidKinds := [.data], laidTests := true, laidLooks := .later }
def EmbargoOnceCardSaid : Prop := Claim7.holds Tryd.pinned (.plain (OpenSpec.ofChange embargoOnceSpec)) embargoOnceCard

/-- THE TIED CARD OF 'pappuslaw16.EmbargoDrops'. -/
def embargoDropsCard : Claim7 := { stood := { row := embargoDropsRow, standIns := [], harness := (true, "841017ec70688889f3d96c30804116a835a59254f8527ea2dc9bd2cf6f6ef6dc"), looks := false }, kinds := [], alts := [], laidByText := true, laidKinds := [.data], laidTests := true, laidLooks := .later }
def EmbargoDropsCardSaid : Prop := Claim7.holds Tryd.pinned (.plain (OpenSpec.ofChange embargoDropsSpec)) embargoDropsCard

/-- THE TIED CARD OF 'pappuslaw16.EmbargoActs'. -/
def embargoActsCard : Claim7 := { stood := { row := embargoActsRow, standIns := [], harness := (true, "841017ec70688889f3d96c30804116a835a59254f8527ea2dc9bd2cf6f6ef6dc"), looks := false }, kinds := [], alts := [], laidByText := true, laidKinds := [.data], laidTests := true, laidLooks := .later }
def EmbargoActsCardSaid : Prop := Claim7.holds Tryd.pinned (.plain (OpenSpec.ofChange embargoActsSpec)) embargoActsCard

/-- THE TIED CARD OF 'pappuslaw16.EmbargoDue'. -/
def embargoDueCard : Claim7 := { stood := { row := embargoDueRow, standIns := [], harness := (true, "841017ec70688889f3d96c30804116a835a59254f8527ea2dc9bd2cf6f6ef6dc"), looks := false }, kinds := [], alts := [], laidByText := true, laidKinds := [.data], laidTests := true, laidLooks := .later }
def EmbargoDueCardSaid : Prop := Claim7.holds Tryd.pinned (.plain (OpenSpec.ofChange embargoDueSpec)) embargoDueCard

/-- THE SECOND FORM's CARD OF 'pappuslaw16.EmbargoDelays'. -/
def embargoDelaysUptoCard : Claim7 := { stood := { row := embargoDelaysUptoRow, standIns := [], harness := (true, "841017ec70688889f3d96c30804116a835a59254f8527ea2dc9bd2cf6f6ef6dc"), looks := false }, kinds := [], alts := [], laidByText := true, laidKinds := [.data], laidTests := true, laidLooks := .later }
def EmbargoDelaysUptoCardSaid : Prop := Claim7.holds Tryd.pinned (.plain (OpenSpec.upto embargoDelaysSpec)) embargoDelaysUptoCard

/-- THE SECOND FORM's CARD OF 'pappuslaw16.EmbargoRises'. -/
def embargoRisesUptoCard : Claim7 := { stood := { row := embargoRisesUptoRow, standIns := [], harness := (true, "841017ec70688889f3d96c30804116a835a59254f8527ea2dc9bd2cf6f6ef6dc"), looks := false }, kinds := [], alts := [], laidByText := true, laidKinds := [.data], laidTests := true, laidLooks := .later }
def EmbargoRisesUptoCardSaid : Prop := Claim7.holds Tryd.pinned (.plain (OpenSpec.upto embargoRisesSpec)) embargoRisesUptoCard

/-- THE SECOND FORM's CARD OF 'pappuslaw16.EmbargoSteps'. -/
def embargoStepsUptoCard : Claim7 := { stood := { row := embargoStepsUptoRow, standIns := [], harness := (true, "841017ec70688889f3d96c30804116a835a59254f8527ea2dc9bd2cf6f6ef6dc"), looks := false }, kinds := [], alts := [], laidByText := true, laidKinds := [.data], laidTests := true, laidLooks := .later }
def EmbargoStepsUptoCardSaid : Prop := Claim7.holds Tryd.pinned (.plain (OpenSpec.upto embargoStepsSpec)) embargoStepsUptoCard

/-- THE SECOND FORM's CARD OF 'pappuslaw16.EmbargoOnce'. -/
def embargoOnceUptoCard : Claim7 := { stood := { row := embargoOnceUptoRow, standIns := [], harness := (true, "841017ec70688889f3d96c30804116a835a59254f8527ea2dc9bd2cf6f6ef6dc"), looks := false }, kinds := [], alts := [], laidByText := true, laidKinds := [.data], laidTests := true, laidLooks := .later }
def EmbargoOnceUptoCardSaid : Prop := Claim7.holds Tryd.pinned (.plain (OpenSpec.upto embargoOnceSpec)) embargoOnceUptoCard

/-- THE SECOND FORM's CARD OF 'pappuslaw16.EmbargoDrops'. -/
def embargoDropsUptoCard : Claim7 := { stood := { row := embargoDropsUptoRow, standIns := [], harness := (true, "841017ec70688889f3d96c30804116a835a59254f8527ea2dc9bd2cf6f6ef6dc"), looks := false }, kinds := [], alts := [], laidByText := true, laidKinds := [.data], laidTests := true, laidLooks := .later }
def EmbargoDropsUptoCardSaid : Prop := Claim7.holds Tryd.pinned (.plain (OpenSpec.upto embargoDropsSpec)) embargoDropsUptoCard

/-- THE SECOND FORM's CARD OF 'pappuslaw16.EmbargoActs'. -/
def embargoActsUptoCard : Claim7 := { stood := { row := embargoActsUptoRow, standIns := [], harness := (true, "841017ec70688889f3d96c30804116a835a59254f8527ea2dc9bd2cf6f6ef6dc"), looks := false }, kinds := [], alts := [], laidByText := true, laidKinds := [.data], laidTests := true, laidLooks := .later }
def EmbargoActsUptoCardSaid : Prop := Claim7.holds Tryd.pinned (.plain (OpenSpec.upto embargoActsSpec)) embargoActsUptoCard

/-- THE SECOND FORM's CARD OF 'pappuslaw16.EmbargoDue'. -/
def embargoDueUptoCard : Claim7 := { stood := { row := embargoDueUptoRow, standIns := [], harness := (true, "841017ec70688889f3d96c30804116a835a59254f8527ea2dc9bd2cf6f6ef6dc"), looks := false }, kinds := [], alts := [], laidByText := true, laidKinds := [.data], laidTests := true, laidLooks := .later }
def EmbargoDueUptoCardSaid : Prop := Claim7.holds Tryd.pinned (.plain (OpenSpec.upto embargoDueSpec)) embargoDueUptoCard
end Rows
end Go.Proofs.YthmaekkjpginoaaDoor
