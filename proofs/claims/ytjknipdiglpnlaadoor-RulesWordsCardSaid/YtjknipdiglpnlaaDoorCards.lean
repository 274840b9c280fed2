/-
  DERIVED. GIVEN WITH THE SEED: THE CARDS: each row of YtjknipdiglpnlaaDoorRows.lean that lists a variable, with what it lists TIED to the program's text (the seventh form; the later family's looks); each row that meets fmt, with fmt's text TOLD by the authors' own Lean function (tested against real Go, not proved from fmt's source: count such statements apart). THE CARD IS WHAT COUNTS. Prove the row's statement (the work); the ties are given (YtjknipdiglpnlaaDoorTie.lean); close each card by the builder's one call (the guide's Derived/Test/ToyasCard.lean, 'card_holds'). Laid BY PROGRAM, IN A SANDBOX (cutbox-door.mjs). By AI agents, Wed Nov 11 2026. No macro, syntax, notation, axiom, sorry.
-/
import Derived.Test.YtjknipdiglpnlaaDoorRows
import GoSem.ClaimSeven
namespace Go.Proofs.YtjknipdiglpnlaaDoor
namespace Rows

/-- THE TIED CARD OF 'admissionlaw15.AgreementCamps'. -/
def agreementCampsCard : Claim7 := { stood := { row := agreementCampsRow, standIns := [], harness := (true, "b19006763515581b80bb5b3b415c04174b46b777b28bb317c2d8a97e242c49f3"), looks := false }, kinds := [], alts := [], laidByText := true, laidKinds := [.data, .pinned], laidTests := true, laidLooks := .later }
def AgreementCampsCardSaid : Prop := Claim7.holds Tryd.pinned (.plain (OpenSpec.ofChange agreementCampsSpec)) agreementCampsCard

/-- THE TIED CARD OF 'admissionlaw13.RulesStrict'. -/
def rulesStrictCard : Claim7 := { stood := { row := rulesStrictRow, standIns := [], harness := (true, "b19006763515581b80bb5b3b415c04174b46b777b28bb317c2d8a97e242c49f3"), looks := false }, kinds := [], alts := [], laidByText := true, laidKinds := [.data, .pinned], laidTests := true, laidLooks := .later }
def RulesStrictCardSaid : Prop := Claim7.holds Tryd.pinned (.plain (OpenSpec.ofChange rulesStrictSpec)) rulesStrictCard

/-- THE TIED CARD OF 'admissionlaw13.RulesSteps'. -/
def rulesStepsCard : Claim7 := { stood := { row := rulesStepsRow, standIns := [], harness := (true, "b19006763515581b80bb5b3b415c04174b46b777b28bb317c2d8a97e242c49f3"), looks := false }, kinds := [], alts := [], laidByText := true, laidKinds := [.data, .pinned], laidTests := true, laidLooks := .later }
def RulesStepsCardSaid : Prop := Claim7.holds Tryd.pinned (.plain (OpenSpec.ofChange rulesStepsSpec)) rulesStepsCard

/-- THE TIED CARD OF 'admissionlaw13.RulesFlow'. -/
def rulesFlowCard : Claim7 := { stood := { row := rulesFlowRow, standIns := [], harness := (true, "b19006763515581b80bb5b3b415c04174b46b777b28bb317c2d8a97e242c49f3"), looks := false }, kinds := [], alts := [], laidByText := true, laidKinds := [.data, .pinned], laidTests := true, laidLooks := .later }
def RulesFlowCardSaid : Prop := Claim7.holds Tryd.pinned (.plain (OpenSpec.ofChange rulesFlowSpec)) rulesFlowCard

/-- THE TIED CARD OF 'admissionlaw13.RulesCreation'. -/
def rulesCreationCard : Claim7 := { stood := { row := rulesCreationRow, standIns := [], harness := (true, "b19006763515581b80bb5b3b415c04174b46b777b28bb317c2d8a97e242c49f3"), looks := false }, kinds := [], alts := [], laidByText := true, laidKinds := [.data, .pinned], laidTests := true, laidLooks := .later }
def RulesCreationCardSaid : Prop := Claim7.holds Tryd.pinned (.plain (OpenSpec.ofChange rulesCreationSpec)) rulesCreationCard

/-- THE TIED CARD OF 'admissionlaw13.RulesWords'. -/
def rulesWordsCard : Claim7 := { stood := { row := rulesWordsRow, standIns := [], harness := (true, "b19006763515581b80bb5b3b415c04174b46b777b28bb317c2d8a97e242c49f3"), looks := false }, kinds := [], alts := [], laidByText := true, laidKinds := [.data, .pinned], laidTests := true, laidLooks := .later }
def RulesWordsCardSaid : Prop := Claim7.holds Tryd.pinned (.plain (OpenSpec.ofChange rulesWordsSpec)) rulesWordsCard

/-- THE TIED CARD OF 'admissionlaw37.WorkloadChanged'. -/
def workloadChangedCard : Claim7 := { stood := { row := workloadChangedRow, standIns := [], harness := (true, "b19006763515581b80bb5b3b415c04174b46b777b28bb317c2d8a97e242c49f3"), looks := false }, kinds := [], alts := [], laidByText := true, laidKinds := [.data, .pinned], laidTests := true, laidLooks := .later }
def WorkloadChangedCardSaid : Prop := Claim7.holds Tryd.pinned (.plain (OpenSpec.ofChange workloadChangedSpec)) workloadChangedCard

/-- THE SECOND FORM's CARD OF 'admissionlaw15.AgreementCamps'. -/
def agreementCampsUptoCard : Claim7 := { stood := { row := agreementCampsUptoRow, standIns := [], harness := (true, "b19006763515581b80bb5b3b415c04174b46b777b28bb317c2d8a97e242c49f3"), looks := false }, kinds := [], alts := [], laidByText := true, laidKinds := [.data, .pinned], laidTests := true, laidLooks := .later }
def AgreementCampsUptoCardSaid : Prop := Claim7.holds Tryd.pinned (.plain (OpenSpec.upto agreementCampsSpec)) agreementCampsUptoCard

/-- THE SECOND FORM's CARD OF 'admissionlaw13.RulesStrict'. -/
def rulesStrictUptoCard : Claim7 := { stood := { row := rulesStrictUptoRow, standIns := [], harness := (true, "b19006763515581b80bb5b3b415c04174b46b777b28bb317c2d8a97e242c49f3"), looks := false }, kinds := [], alts := [], laidByText := true, laidKinds := [.data, .pinned], laidTests := true, laidLooks := .later }
def RulesStrictUptoCardSaid : Prop := Claim7.holds Tryd.pinned (.plain (OpenSpec.upto rulesStrictSpec)) rulesStrictUptoCard

/-- THE SECOND FORM's CARD OF 'admissionlaw13.RulesSteps'. -/
def rulesStepsUptoCard : Claim7 := { stood := { row := rulesStepsUptoRow, standIns := [], harness := (true, "b19006763515581b80bb5b3b415c04174b46b777b28bb317c2d8a97e242c49f3"), looks := false }, kinds := [], alts := [], laidByText := true, laidKinds := [.data, .pinned], laidTests := true, laidLooks := .later }
def RulesStepsUptoCardSaid : Prop := Claim7.holds Tryd.pinned (.plain (OpenSpec.upto rulesStepsSpec)) rulesStepsUptoCard

/-- THE SECOND FORM's CARD OF 'admissionlaw13.RulesFlow'. -/
def rulesFlowUptoCard : Claim7 := { stood := { row := rulesFlowUptoRow, standIns := [], harness := (true, "b19006763515581b80bb5b3b415c04174b46b777b28bb317c2d8a97e242c49f3"), looks := false }, kinds := [], alts := [], laidByText := true, laidKinds := [.data, .pinned], laidTests := true, laidLooks := .later }
def RulesFlowUptoCardSaid : Prop := Claim7.holds Tryd.pinned (.plain (OpenSpec.upto rulesFlowSpec)) rulesFlowUptoCard

/-- THE SECOND FORM's CARD OF 'admissionlaw13.RulesCreation'. -/
def rulesCreationUptoCard : Claim7 := { stood := { row := rulesCreationUptoRow, standIns := [], harness := (true, "b19006763515581b80bb5b3b415c04174b46b777b28bb317c2d8a97e242c49f3"), looks := false }, kinds := [], alts := [], laidByText := true, laidKinds := [.data, .pinned], laidTests := true, laidLooks := .later }
def RulesCreationUptoCardSaid : Prop := Claim7.holds Tryd.pinned (.plain (OpenSpec.upto rulesCreationSpec)) rulesCreationUptoCard

/-- THE SECOND FORM's CARD OF 'admissionlaw13.RulesWords'. -/
def rulesWordsUptoCard : Claim7 := { stood := { row := rulesWordsUptoRow, standIns := [], harness := (true, "b19006763515581b80bb5b3b415c04174b46b777b28bb317c2d8a97e242c49f3"), looks := false }, kinds := [], alts := [], laidByText := true, laidKinds := [.data, .pinned], laidTests := true, laidLooks := .later }
def RulesWordsUptoCardSaid : Prop := Claim7.holds Tryd.pinned (.plain (OpenSpec.upto rulesWordsSpec)) rulesWordsUptoCard

/-- THE SECOND FORM's CARD OF 'admissionlaw37.WorkloadChanged'. -/
def workloadChangedUptoCard : Claim7 := { stood := { row := workloadChangedUptoRow, standIns := [], harness := (true, "b19006763515581b80bb5b3b415c04174b46b777b28bb317c2d8a97e242c49f3"), looks := false }, kinds := [], alts := [], laidByText := true, laidKinds := [.data, .pinned], laidTests := true, laidLooks := .later }
def WorkloadChangedUptoCardSaid : Prop := Claim7.holds Tryd.pinned (.plain (OpenSpec.upto workloadChangedSpec)) workloadChangedUptoCard
end Rows
end Go.Proofs.YtjknipdiglpnlaaDoor
