/-
  DERIVED. GIVEN WITH THE SEED: THE CARDS: each row of YtaihpefemjlilaaGreatDoorRows.lean that lists a variable, with what it lists TIED to the program's text (the seventh form; the later family's looks); each row that meets fmt, with fmt's text TOLD by the authors' own Lean function (tested against real Go, not proved from fmt's source: count such statements apart). THE CARD IS WHAT COUNTS. Prove the row's statement (the work); the ties are given (YtaihpefemjlilaaGreatDoorTie.lean); close each card by the builder's one call (the guide's Derived/Test/ToyasCard.lean, 'card_holds'). Laid BY PROGRAM, IN A SANDBOX (cutbox-door.mjs). By AI agents, Wed Nov 11 2026. No macro, syntax, notation, axiom, sorry.
-/
import Derived.Test.YtaihpefemjlilaaGreatDoorRows
import GoSem.ClaimSeven
namespace Go.Proofs.YtaihpefemjlilaaGreatDoor
namespace Rows

/-- THE TIED CARD OF 'admissionlaw39.EvictorTries'. -/
def evictorTriesCard : Claim7 := { stood := { row := evictorTriesRow, standIns := [], harness := (true, "343006315fde1af0908682b728d7d343337bbc4071691bcfdc48784915534211"), looks := false }, kinds := [], alts := [], laidByText := true, laidKinds := [.data, .pinned], laidTests := true, laidLooks := .later }
def EvictorTriesCardSaid : Prop := Claim7.holds Tryz.pinned (.plain (OpenSpec.ofChange evictorTriesSpec)) evictorTriesCard

/-- THE TIED CARD OF 'admissionlaw39.EvictorChoice'. -/
def evictorChoiceCard : Claim7 := { stood := { row := evictorChoiceRow, standIns := [], harness := (true, "343006315fde1af0908682b728d7d343337bbc4071691bcfdc48784915534211"), looks := false }, kinds := [], alts := [], laidByText := true, laidKinds := [.data, .pinned], laidTests := true, laidLooks := .later }
def EvictorChoiceCardSaid : Prop := Claim7.holds Tryz.pinned (.plain (OpenSpec.ofChange evictorChoiceSpec)) evictorChoiceCard

/-- THE TIED CARD OF 'admissionlaw39.EvictorRound'. -/
def evictorRoundCard : Claim7 := { stood := { row := evictorRoundRow, standIns := [], harness := (true, "343006315fde1af0908682b728d7d343337bbc4071691bcfdc48784915534211"), looks := false }, kinds := [], alts := [], laidByText := true, laidKinds := [.data, .pinned], laidTests := true, laidLooks := .later }
def EvictorRoundCardSaid : Prop := Claim7.holds Tryz.pinned (.plain (OpenSpec.ofChange evictorRoundSpec)) evictorRoundCard

/-- THE TIED CARD OF 'admissionlaw39.EvictorTwice'. -/
def evictorTwiceCard : Claim7 := { stood := { row := evictorTwiceRow, standIns := [], harness := (true, "343006315fde1af0908682b728d7d343337bbc4071691bcfdc48784915534211"), looks := false }, kinds := [], alts := [], laidByText := true, laidKinds := [.data, .pinned], laidTests := true, laidLooks := .later }
def EvictorTwiceCardSaid : Prop := Claim7.holds Tryz.pinned (.plain (OpenSpec.ofChange evictorTwiceSpec)) evictorTwiceCard

/-- THE TIED CARD OF 'admissionlaw39.EvictorCommands'. -/
def evictorCommandsCard : Claim7 := { stood := { row := evictorCommandsRow, standIns := [], harness := (true, "343006315fde1af0908682b728d7d343337bbc4071691bcfdc48784915534211"), looks := false }, kinds := [], alts := [], laidByText := true, laidKinds := [.data, .pinned], laidTests := true, laidLooks := .later }
def EvictorCommandsCardSaid : Prop := Claim7.holds Tryz.pinned (.plain (OpenSpec.ofChange evictorCommandsSpec)) evictorCommandsCard

/-- THE TIED CARD OF 'admissionlaw39.EvictorAllowed'. -/
def evictorAllowedCard : Claim7 := { stood := { row := evictorAllowedRow, standIns := [], harness := (true, "343006315fde1af0908682b728d7d343337bbc4071691bcfdc48784915534211"), looks := false }, kinds := [], alts := [], laidByText := true, laidKinds := [.data, .pinned], laidTests := true, laidLooks := .later }
def EvictorAllowedCardSaid : Prop := Claim7.holds Tryz.pinned (.plain (OpenSpec.ofChange evictorAllowedSpec)) evictorAllowedCard

/-- THE TIED CARD OF 'admissionlaw39.EvictorLimits'. -/
def evictorLimitsCard : Claim7 := { stood := { row := evictorLimitsRow, standIns := [], harness := (true, "343006315fde1af0908682b728d7d343337bbc4071691bcfdc48784915534211"), looks := false }, kinds := [], alts := [], laidByText := true, laidKinds := [.data, .pinned], laidTests := true, laidLooks := .later }
def EvictorLimitsCardSaid : Prop := Claim7.holds Tryz.pinned (.plain (OpenSpec.ofChange evictorLimitsSpec)) evictorLimitsCard

/-- THE TIED CARD OF 'admissionlaw39.EvictorWanted'. -/
def evictorWantedCard : Claim7 := { stood := { row := evictorWantedRow, standIns := [], harness := (true, "343006315fde1af0908682b728d7d343337bbc4071691bcfdc48784915534211"), looks := false }, kinds := [], alts := [], laidByText := true, laidKinds := [.data, .pinned], laidTests := true, laidLooks := .later }
def EvictorWantedCardSaid : Prop := Claim7.holds Tryz.pinned (.plain (OpenSpec.ofChange evictorWantedSpec)) evictorWantedCard

/-- THE TIED CARD OF 'admissionlaw39.EvictorEnough'. -/
def evictorEnoughCard : Claim7 := { stood := { row := evictorEnoughRow, standIns := [], harness := (true, "343006315fde1af0908682b728d7d343337bbc4071691bcfdc48784915534211"), looks := false }, kinds := [], alts := [], laidByText := true, laidKinds := [.data, .pinned], laidTests := true, laidLooks := .later }
def EvictorEnoughCardSaid : Prop := Claim7.holds Tryz.pinned (.plain (OpenSpec.ofChange evictorEnoughSpec)) evictorEnoughCard

/-- THE SECOND FORM's CARD OF 'admissionlaw39.EvictorTries'. -/
def evictorTriesUptoCard : Claim7 := { stood := { row := evictorTriesUptoRow, standIns := [], harness := (true, "343006315fde1af0908682b728d7d343337bbc4071691bcfdc48784915534211"), looks := false }, kinds := [], alts := [], laidByText := true, laidKinds := [.data, .pinned], laidTests := true, laidLooks := .later }
def EvictorTriesUptoCardSaid : Prop := Claim7.holds Tryz.pinned (.plain (OpenSpec.upto evictorTriesSpec)) evictorTriesUptoCard

/-- THE SECOND FORM's CARD OF 'admissionlaw39.EvictorChoice'. -/
def evictorChoiceUptoCard : Claim7 := { stood := { row := evictorChoiceUptoRow, standIns := [], harness := (true, "343006315fde1af0908682b728d7d343337bbc4071691bcfdc48784915534211"), looks := false }, kinds := [], alts := [], laidByText := true, laidKinds := [.data, .pinned], laidTests := true, laidLooks := .later }
def EvictorChoiceUptoCardSaid : Prop := Claim7.holds Tryz.pinned (.plain (OpenSpec.upto evictorChoiceSpec)) evictorChoiceUptoCard

/-- THE SECOND FORM's CARD OF 'admissionlaw39.EvictorRound'. -/
def evictorRoundUptoCard : Claim7 := { stood := { row := evictorRoundUptoRow, standIns := [], harness := (true, "343006315fde1af0908682b728d7d343337bbc4071691bcfdc48784915534211"), looks := false }, kinds := [], alts := [], laidByText := true, laidKinds := [.data, .pinned], laidTests := true, laidLooks := .later }
def EvictorRoundUptoCardSaid : Prop := Claim7.holds Tryz.pinned (.plain (OpenSpec.upto evictorRoundSpec)) evictorRoundUptoCard

/-- THE SECOND FORM's CARD OF 'admissionlaw39.EvictorTwice'. -/
def evictorTwiceUptoCard : Claim7 := { stood := { row := evictorTwiceUptoRow, standIns := [], harness := (true, "343006315fde1af0908682b728d7d343337bbc4071691bcfdc48784915534211"), looks := false }, kinds := [], alts := [], laidByText := true, laidKinds := [.data, .pinned], laidTests := true, laidLooks := .later }
def EvictorTwiceUptoCardSaid : Prop := Claim7.holds Tryz.pinned (.plain (OpenSpec.upto evictorTwiceSpec)) evictorTwiceUptoCard

/-- THE SECOND FORM's CARD OF 'admissionlaw39.EvictorCommands'. -/
def evictorCommandsUptoCard : Claim7 := { stood := { row := evictorCommandsUptoRow, standIns := [], harness := (true, "343006315fde1af0908682b728d7d343337bbc4071691bcfdc48784915534211"), looks := false }, kinds := [], alts := [], laidByText := true, laidKinds := [.data, .pinned], laidTests := true, laidLooks := .later }
def EvictorCommandsUptoCardSaid : Prop := Claim7.holds Tryz.pinned (.plain (OpenSpec.upto evictorCommandsSpec)) evictorCommandsUptoCard

/-- THE SECOND FORM's CARD OF 'admissionlaw39.EvictorAllowed'. -/
def evictorAllowedUptoCard : Claim7 := { stood := { row := evictorAllowedUptoRow, standIns := [], harness := (true, "343006315fde1af0908682b728d7d343337bbc4071691bcfdc48784915534211"), looks := false }, kinds := [], alts := [], laidByText := true, laidKinds := [.data, .pinned], laidTests := true, laidLooks := .later }
def EvictorAllowedUptoCardSaid : Prop := Claim7.holds Tryz.pinned (.plain (OpenSpec.upto evictorAllowedSpec)) evictorAllowedUptoCard

/-- THE SECOND FORM's CARD OF 'admissionlaw39.EvictorLimits'. -/
def evictorLimitsUptoCard : Claim7 := { stood := { row := evictorLimitsUptoRow, standIns := [], harness := (true, "343006315fde1af0908682b728d7d343337bbc4071691bcfdc48784915534211"), looks := false }, kinds := [], alts := [], laidByText := true, laidKinds := [.data, .pinned], laidTests := true, laidLooks := .later }
def EvictorLimitsUptoCardSaid : Prop := Claim7.holds Tryz.pinned (.plain (OpenSpec.upto evictorLimitsSpec)) evictorLimitsUptoCard

/-- THE SECOND FORM's CARD OF 'admissionlaw39.EvictorWanted'. -/
def evictorWantedUptoCard : Claim7 := { stood := { row := evictorWantedUptoRow, standIns := [], harness := (true, "343006315fde1af0908682b728d7d343337bbc4071691bcfdc48784915534211"), looks := false }, kinds := [], alts := [], laidByText := true, laidKinds := [.data, .pinned], laidTests := true, laidLooks := .later }
def EvictorWantedUptoCardSaid : Prop := Claim7.holds Tryz.pinned (.plain (OpenSpec.upto evictorWantedSpec)) evictorWantedUptoCard

/-- THE SECOND FORM's CARD OF 'admissionlaw39.EvictorEnough'. -/
def evictorEnoughUptoCard : Claim7 := { stood := { row := evictorEnoughUptoRow, standIns := [], harness := (true, "343006315fde1af0908682b728d7d343337bbc4071691bcfdc48784915534211"), looks := false }, kinds := [], alts := [], laidByText := true, laidKinds := [.data, .pinned], laidTests := true, laidLooks := .later }
def EvictorEnoughUptoCardSaid : Prop := Claim7.holds Tryz.pinned (.plain (OpenSpec.upto evictorEnoughSpec)) evictorEnoughUptoCard
end Rows
end Go.Proofs.YtaihpefemjlilaaGreatDoor
