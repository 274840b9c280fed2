/-
  DERIVED. GIVEN WITH THE SEED: THE CARDS: each row of YtjjcdmjgbbaliaaDoorRows.lean that lists a variable, with what it lists TIED to the program's text (the seventh form; the later family's looks); each row that meets fmt, with fmt's text TOLD by the authors' own Lean function (tested against real Go, not proved from fmt's source: count such statements apart). THE CARD IS WHAT COUNTS. Prove the row's statement (the work); the ties are given (YtjjcdmjgbbaliaaDoorTie.lean); close each card by the builder's one call (the guide's Derived/Test/ToyasCard.lean, 'card_holds'). Laid BY PROGRAM, IN A SANDBOX (cutbox-door.mjs). By AI agents, Wed Nov 11 2026. No macro, syntax, notation, axiom, sorry.
-/
import Derived.Test.YtjjcdmjgbbaliaaDoorRows
import GoSem.ClaimSeven
namespace Go.Proofs.YtjjcdmjgbbaliaaDoor
namespace Rows

/-- THE TIED CARD OF 'admissionlaw03.PatternMatches'. -/
def patternMatchesCard : Claim7 := { stood := { row := patternMatchesRow, standIns := [], harness := (true, "0edd8a42cd4f2cceddaf2526c98a1a553a138b700b5874ff7c0f0a6cb4d6714e"), looks := false }, kinds := [], alts := [], laidByText := true, laidKinds := [.data, .pinned], laidTests := true, laidLooks := .later }
def PatternMatchesCardSaid : Prop := Claim7.holds Tryd.pinned (.plain (OpenSpec.ofChange patternMatchesSpec)) patternMatchesCard

/-- THE TIED CARD OF 'admissionlaw03.PatternPaths'. -/
def patternPathsCard : Claim7 := { stood := { row := patternPathsRow, standIns := [], harness := (true, "0edd8a42cd4f2cceddaf2526c98a1a553a138b700b5874ff7c0f0a6cb4d6714e"), looks := false }, kinds := [], alts := [], laidByText := true, laidKinds := [.data, .pinned], laidTests := true, laidLooks := .later }
def PatternPathsCardSaid : Prop := Claim7.holds Tryd.pinned (.plain (OpenSpec.ofChange patternPathsSpec)) patternPathsCard

/-- THE TIED CARD OF 'admissionlaw03.PatternLiterals'. -/
def patternLiteralsCard : Claim7 := { stood := { row := patternLiteralsRow, standIns := [], harness := (true, "0edd8a42cd4f2cceddaf2526c98a1a553a138b700b5874ff7c0f0a6cb4d6714e"), looks := false }, kinds := [], alts := [], laidByText := true, laidKinds := [.data, .pinned], laidTests := true, laidLooks := .later }
def PatternLiteralsCardSaid : Prop := Claim7.holds Tryd.pinned (.plain (OpenSpec.ofChange patternLiteralsSpec)) patternLiteralsCard

/-- THE TIED CARD OF 'admissionlaw03.PatternRelocates'. -/
def patternRelocatesCard : Claim7 := { stood := { row := patternRelocatesRow, standIns := [], harness := (true, "0edd8a42cd4f2cceddaf2526c98a1a553a138b700b5874ff7c0f0a6cb4d6714e"), looks := false }, kinds := [], alts := [], laidByText := true, laidKinds := [.data, .pinned], laidTests := true, laidLooks := .later }
def PatternRelocatesCardSaid : Prop := Claim7.holds Tryd.pinned (.plain (OpenSpec.ofChange patternRelocatesSpec)) patternRelocatesCard

/-- THE TIED CARD OF 'admissionlaw03.PatternOverlaps'. -/
def patternOverlapsCard : Claim7 := { stood := { row := patternOverlapsRow, standIns := [], harness := (true, "0edd8a42cd4f2cceddaf2526c98a1a553a138b700b5874ff7c0f0a6cb4d6714e"), looks := false }, kinds := [], alts := [], laidByText := true, laidKinds := [.data, .pinned], laidTests := true, laidLooks := .later }
def PatternOverlapsCardSaid : Prop := Claim7.holds Tryd.pinned (.plain (OpenSpec.ofChange patternOverlapsSpec)) patternOverlapsCard

/-- THE TIED CARD OF 'admissionlaw13.RulesStrict'. -/
def rulesStrictCard : Claim7 := { stood := { row := rulesStrictRow, standIns := [], harness := (true, "0edd8a42cd4f2cceddaf2526c98a1a553a138b700b5874ff7c0f0a6cb4d6714e"), looks := false }, kinds := [], alts := [], laidByText := true, laidKinds := [.data, .pinned], laidTests := true, laidLooks := .later }
def RulesStrictCardSaid : Prop := Claim7.holds Tryd.pinned (.plain (OpenSpec.ofChange rulesStrictSpec)) rulesStrictCard

/-- THE TIED CARD OF 'admissionlaw13.RulesSteps'. -/
def rulesStepsCard : Claim7 := { stood := { row := rulesStepsRow, standIns := [], harness := (true, "0edd8a42cd4f2cceddaf2526c98a1a553a138b700b5874ff7c0f0a6cb4d6714e"), looks := false }, kinds := [], alts := [], laidByText := true, laidKinds := [.data, .pinned], laidTests := true, laidLooks := .later }
def RulesStepsCardSaid : Prop := Claim7.holds Tryd.pinned (.plain (OpenSpec.ofChange rulesStepsSpec)) rulesStepsCard

/-- THE TIED CARD OF 'admissionlaw13.RulesFlow'. -/
def rulesFlowCard : Claim7 := { stood := { row := rulesFlowRow, standIns := [], harness := (true, "0edd8a42cd4f2cceddaf2526c98a1a553a138b700b5874ff7c0f0a6cb4d6714e"), looks := false }, kinds := [], alts := [], laidByText := true, laidKinds := [.data, .pinned], laidTests := true, laidLooks := .later }
def RulesFlowCardSaid : Prop := Claim7.holds Tryd.pinned (.plain (OpenSpec.ofChange rulesFlowSpec)) rulesFlowCard

/-- THE TIED CARD OF 'admissionlaw13.RulesCreation'. -/
def rulesCreationCard : Claim7 := { stood := { row := rulesCreationRow, standIns := [], harness := (true, "0edd8a42cd4f2cceddaf2526c98a1a553a138b700b5874ff7c0f0a6cb4d6714e"), looks := false }, kinds := [], alts := [], laidByText := true, laidKinds := [.data, .pinned], laidTests := true, laidLooks := .later }
def RulesCreationCardSaid : Prop := Claim7.holds Tryd.pinned (.plain (OpenSpec.ofChange rulesCreationSpec)) rulesCreationCard

/-- THE TIED CARD OF 'admissionlaw13.RulesWords'. -/
def rulesWordsCard : Claim7 := { stood := { row := rulesWordsRow, standIns := [], harness := (true, "0edd8a42cd4f2cceddaf2526c98a1a553a138b700b5874ff7c0f0a6cb4d6714e"), looks := false }, kinds := [], alts := [], laidByText := true, laidKinds := [.data, .pinned], laidTests := true, laidLooks := .later }
def RulesWordsCardSaid : Prop := Claim7.holds Tryd.pinned (.plain (OpenSpec.ofChange rulesWordsSpec)) rulesWordsCard

/-- THE SECOND FORM's CARD OF 'admissionlaw03.PatternMatches'. -/
def patternMatchesUptoCard : Claim7 := { stood := { row := patternMatchesUptoRow, standIns := [], harness := (true, "0edd8a42cd4f2cceddaf2526c98a1a553a138b700b5874ff7c0f0a6cb4d6714e"), looks := false }, kinds := [], alts := [], laidByText := true, laidKinds := [.data, .pinned], laidTests := true, laidLooks := .later }
def PatternMatchesUptoCardSaid : Prop := Claim7.holds Tryd.pinned (.plain (OpenSpec.upto patternMatchesSpec)) patternMatchesUptoCard

/-- THE SECOND FORM's CARD OF 'admissionlaw03.PatternPaths'. -/
def patternPathsUptoCard : Claim7 := { stood := { row := patternPathsUptoRow, standIns := [], harness := (true, "0edd8a42cd4f2cceddaf2526c98a1a553a138b700b5874ff7c0f0a6cb4d6714e"), looks := false }, kinds := [], alts := [], laidByText := true, laidKinds := [.data, .pinned], laidTests := true, laidLooks := .later }
def PatternPathsUptoCardSaid : Prop := Claim7.holds Tryd.pinned (.plain (OpenSpec.upto patternPathsSpec)) patternPathsUptoCard

/-- THE SECOND FORM's CARD OF 'admissionlaw03.PatternLiterals'. -/
def patternLiteralsUptoCard : Claim7 := { stood := { row := patternLiteralsUptoRow, standIns := [], harness := (true, "0edd8a42cd4f2cceddaf2526c98a1a553a138b700b5874ff7c0f0a6cb4d6714e"), looks := false }, kinds := [], alts := [], laidByText := true, laidKinds := [.data, .pinned], laidTests := true, laidLooks := .later }
def PatternLiteralsUptoCardSaid : Prop := Claim7.holds Tryd.pinned (.plain (OpenSpec.upto patternLiteralsSpec)) patternLiteralsUptoCard

/-- THE SECOND FORM's CARD OF 'admissionlaw03.PatternRelocates'. -/
def patternRelocatesUptoCard : Claim7 := { stood := { row := patternRelocatesUptoRow, standIns := [], harness := (true, "0edd8a42cd4f2cceddaf2526c98a1a553a138b700b5874ff7c0f0a6cb4d6714e"), looks := false }, kinds := [], alts := [], laidByText := true, laidKinds := [.data, .pinned], laidTests := true, laidLooks := .later }
def PatternRelocatesUptoCardSaid : Prop := Claim7.holds Tryd.pinned (.plain (OpenSpec.upto patternRelocatesSpec)) patternRelocatesUptoCard

/-- THE SECOND FORM's CARD OF 'admissionlaw03.PatternOverlaps'. -/
def patternOverlapsUptoCard : Claim7 := { stood := { row := patternOverlapsUptoRow, standIns := [], harness := (true, "0edd8a42cd4f2cceddaf2526c98a1a553a138b700b5874ff7c0f0a6cb4d6714e"), looks := false }, kinds := [], alts := [], laidByText := true, laidKinds := [.data, .pinned], laidTests := true, laidLooks := .later }
def PatternOverlapsUptoCardSaid : Prop := Claim7.holds Tryd.pinned (.plain (OpenSpec.upto patternOverlapsSpec)) patternOverlapsUptoCard

/-- THE SECOND FORM's CARD OF 'admissionlaw13.RulesStrict'. -/
def rulesStrictUptoCard : Claim7 := { stood := { row := rulesStrictUptoRow, standIns := [], harness := (true, "0edd8a42cd4f2cceddaf2526c98a1a553a138b700b5874ff7c0f0a6cb4d6714e"), looks := false }, kinds := [], alts := [], laidByText := true, laidKinds := [.data, .pinned], laidTests := true, laidLooks := .later }
def RulesStrictUptoCardSaid : Prop := Claim7.holds Tryd.pinned (.plain (OpenSpec.upto rulesStrictSpec)) rulesStrictUptoCard

/-- THE SECOND FORM's CARD OF 'admissionlaw13.RulesSteps'. -/
def rulesStepsUptoCard : Claim7 := { stood := { row := rulesStepsUptoRow, standIns := [], harness := (true, "0edd8a42cd4f2cceddaf2526c98a1a553a138b700b5874ff7c0f0a6cb4d6714e"), looks := false }, kinds := [], alts := [], laidByText := true, laidKinds := [.data, .pinned], laidTests := true, laidLooks := .later }
def RulesStepsUptoCardSaid : Prop := Claim7.holds Tryd.pinned (.plain (OpenSpec.upto rulesStepsSpec)) rulesStepsUptoCard

/-- THE SECOND FORM's CARD OF 'admissionlaw13.RulesFlow'. -/
def rulesFlowUptoCard : Claim7 := { stood := { row := rulesFlowUptoRow, standIns := [], harness := (true, "0edd8a42cd4f2cceddaf2526c98a1a553a138b700b5874ff7c0f0a6cb4d6714e"), looks := false }, kinds := [], alts := [], laidByText := true, laidKinds := [.data, .pinned], laidTests := true, laidLooks := .later }
def RulesFlowUptoCardSaid : Prop := Claim7.holds Tryd.pinned (.plain (OpenSpec.upto rulesFlowSpec)) rulesFlowUptoCard

/-- THE SECOND FORM's CARD OF 'admissionlaw13.RulesCreation'. -/
def rulesCreationUptoCard : Claim7 := { stood := { row := rulesCreationUptoRow, standIns := [], harness := (true, "0edd8a42cd4f2cceddaf2526c98a1a553a138b700b5874ff7c0f0a6cb4d6714e"), looks := false }, kinds := [], alts := [], laidByText := true, laidKinds := [.data, .pinned], laidTests := true, laidLooks := .later }
def RulesCreationUptoCardSaid : Prop := Claim7.holds Tryd.pinned (.plain (OpenSpec.upto rulesCreationSpec)) rulesCreationUptoCard

/-- THE SECOND FORM's CARD OF 'admissionlaw13.RulesWords'. -/
def rulesWordsUptoCard : Claim7 := { stood := { row := rulesWordsUptoRow, standIns := [], harness := (true, "0edd8a42cd4f2cceddaf2526c98a1a553a138b700b5874ff7c0f0a6cb4d6714e"), looks := false }, kinds := [], alts := [], laidByText := true, laidKinds := [.data, .pinned], laidTests := true, laidLooks := .later }
def RulesWordsUptoCardSaid : Prop := Claim7.holds Tryd.pinned (.plain (OpenSpec.upto rulesWordsSpec)) rulesWordsUptoCard
end Rows
end Go.Proofs.YtjjcdmjgbbaliaaDoor
