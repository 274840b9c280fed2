/-
  NARROWER THAN 'FOR EVERY INPUT', by the rows' own cells (each row's printed sentence says how): AgreementCamps: laid · RulesStrict: laid · RulesSteps: laid · RulesFlow: laid · RulesCreation: laid · RulesWords: laid · WorkloadChanged: laid.
  DERIVED. THE GIVEN ROWS OF THIS SEAT. 7 by the template 'for every input the law returns true; each argument reads behind the call as it read before'; 0 by the template 'total and deterministic' (their statements: YtjknipdiglpnlaaDoorTotals.lean).
  GIVEN WITH THE SEED: the statements are not yours to turn. If you find one false, say at which input.
  Laid BY PROGRAM, IN A SANDBOX (cutbox-rows.mjs): the forced cells as the released guide's own fill.sh prints them over the translation 20ab8cc4b8f8a6da… (all of the seat's roots in one cut). By AI agents, Wed Nov 11 2026. No macro, syntax, notation, axiom, sorry.
-/
import Derived.Test.YtjknipdiglpnlaaDoorChecked
import GoSem.PinnedTables
import GoSem.Claim
import GoSem.ClaimJoined
import GoSem.ClaimMapViews
import Derived.JoinedTies
import Derived.KernelRfl
namespace Go.Proofs.YtjknipdiglpnlaaDoor
/- THE CELL 'sum', in the pinned program and in every row, IS THE sha256 OF THE DUMP (.gsa) THAT YtjknipdiglpnlaaDoorProg.lean LOADS. Nothing in Lean hashes anything: it is a label: what it is worth is what the hold of that sum in a sandbox is worth. -/
noncomputable def Tryd.pinned : Pinned := { name := "ytjknipdiglpnlaadoor", sum := "20ab8cc4b8f8a6dab965a71c5adbb702163b60cf6026566a00ed81ce17bee8b3", checked := Tryd.checked }
namespace Rows
def none {H : Type} : Left H := { results := [], args := [] }

/- WHAT THE LISTED PACKAGE-LEVEL VARIABLES READ AS WHEN THE CALL BEGINS. Each datum BY PROGRAM (the guide's laid-datum.mjs) off the statement by which the dump's own 'gosem.cut.vars' lays the variable. In a bare row this is a premise. The card (YtjknipdiglpnlaaDoorCards.lean) ties it to the program's text. -/
def laid_unicode_utf8_acceptRanges {H : Type} : DataW H := .agg [.agg [.lit (.int .u8 128), .lit (.int .u8 191)], .agg [.lit (.int .u8 160), .lit (.int .u8 191)], .agg [.lit (.int .u8 128), .lit (.int .u8 159)], .agg [.lit (.int .u8 144), .lit (.int .u8 191)], .agg [.lit (.int .u8 128), .lit (.int .u8 143)], .agg [.lit (.int .u8 0), .lit (.int .u8 0)], .agg [.lit (.int .u8 0), .lit (.int .u8 0)], .agg [.lit (.int .u8 0), .lit (.int .u8 0)], .agg [.lit (.int .u8 0), .lit (.int .u8 0)], .agg [.lit (.int .u8 0), .lit (.int .u8 0)], .agg [.lit (.int .u8 0), .lit (.int .u8 0)], .agg [.lit (.int .u8 0), .lit (.int .u8 0)], .agg [.lit (.int .u8 0), .lit (.int .u8 0)], .agg [.lit (.int .u8 0), .lit (.int .u8 0)], .agg [.lit (.int .u8 0), .lit (.int .u8 0)], .agg [.lit (.int .u8 0), .lit (.int .u8 0)]]
/-- One of Go's own tables, pinned by name: the form's constant. -/
def laid_unicode_utf8_first : DataW Unit := Go.Pinned.utf8First

/-- 'admissionlaw15.AgreementCamps': WHATEVER THE INPUT: true; the input reads as it did. -/
def agreementCampsSpec : ChangeSpec := { name := "agreementCamps", fn := fun _ => fun
  | [d] => { results := [.lit (.bool true)], args := [d] }
  | _ => none }
def agreementCampsRow : OpenClaim := { program := "ytjknipdiglpnlaadoor", sum := "20ab8cc4b8f8a6dab965a71c5adbb702163b60cf6026566a00ed81ce17bee8b3", func := "admission/admissionlaw15.AgreementCamps", spec := "agreementCamps", inPlace := ["internal/bytealg.CountString", "internal/bytealg.IndexByteString", "internal/bytealg.IndexString"], unfollowed := true, recurses := true, named := ["unicode/utf8.first", "unicode/utf8.acceptRanges", "internal/bytealg.MaxLen"], apart := false, laid := [("unicode/utf8.acceptRanges", laid_unicode_utf8_acceptRanges), ("unicode/utf8.first", laid_unicode_utf8_first)] }
def AgreementCampsSaid : Prop := agreementCampsRow.holds Tryd.pinned (OpenSpec.ofChange agreementCampsSpec)

/-- ITS FALSE NEIGHBOUR: 'it returns false'. Refute it at one input. -/
def agreementCampsWrong : ChangeSpec := { name := "agreementCamps", fn := fun _ => fun
  | [d] => { results := [.lit (.bool false)], args := [d] }
  | _ => none }
def AgreementCampsWrongFalsely : Prop := agreementCampsRow.holds Tryd.pinned (OpenSpec.ofChange agreementCampsWrong)

/-- 'admissionlaw13.RulesStrict': WHATEVER THE INPUT: true; the input reads as it did. -/
def rulesStrictSpec : ChangeSpec := { name := "rulesStrict", fn := fun _ => fun
  | [d] => { results := [.lit (.bool true)], args := [d] }
  | _ => none }
def rulesStrictRow : OpenClaim := { program := "ytjknipdiglpnlaadoor", sum := "20ab8cc4b8f8a6dab965a71c5adbb702163b60cf6026566a00ed81ce17bee8b3", func := "admission/admissionlaw13.RulesStrict", spec := "rulesStrict", inPlace := ["internal/bytealg.CountString", "internal/bytealg.IndexByteString", "internal/bytealg.IndexString"], unfollowed := true, recurses := true, named := ["unicode/utf8.first", "unicode/utf8.acceptRanges", "internal/bytealg.MaxLen"], apart := false, laid := [("unicode/utf8.acceptRanges", laid_unicode_utf8_acceptRanges), ("unicode/utf8.first", laid_unicode_utf8_first)] }
def RulesStrictSaid : Prop := rulesStrictRow.holds Tryd.pinned (OpenSpec.ofChange rulesStrictSpec)

/-- ITS FALSE NEIGHBOUR: 'it returns false'. Refute it at one input. -/
def rulesStrictWrong : ChangeSpec := { name := "rulesStrict", fn := fun _ => fun
  | [d] => { results := [.lit (.bool false)], args := [d] }
  | _ => none }
def RulesStrictWrongFalsely : Prop := rulesStrictRow.holds Tryd.pinned (OpenSpec.ofChange rulesStrictWrong)

/-- 'admissionlaw13.RulesSteps': WHATEVER THE INPUT: true; the input reads as it did. -/
def rulesStepsSpec : ChangeSpec := { name := "rulesSteps", fn := fun _ => fun
  | [d1, d2] => { results := [.lit (.bool true)], args := [d1, d2] }
  | _ => none }
def rulesStepsRow : OpenClaim := { program := "ytjknipdiglpnlaadoor", sum := "20ab8cc4b8f8a6dab965a71c5adbb702163b60cf6026566a00ed81ce17bee8b3", func := "admission/admissionlaw13.RulesSteps", spec := "rulesSteps", inPlace := ["internal/bytealg.CountString", "internal/bytealg.IndexByteString", "internal/bytealg.IndexString"], unfollowed := true, recurses := true, named := ["unicode/utf8.first", "unicode/utf8.acceptRanges", "internal/bytealg.MaxLen"], apart := false, laid := [("unicode/utf8.acceptRanges", laid_unicode_utf8_acceptRanges), ("unicode/utf8.first", laid_unicode_utf8_first)] }
def RulesStepsSaid : Prop := rulesStepsRow.holds Tryd.pinned (OpenSpec.ofChange rulesStepsSpec)

/-- ITS FALSE NEIGHBOUR: 'it returns false'. Refute it at one input. -/
def rulesStepsWrong : ChangeSpec := { name := "rulesSteps", fn := fun _ => fun
  | [d1, d2] => { results := [.lit (.bool false)], args := [d1, d2] }
  | _ => none }
def RulesStepsWrongFalsely : Prop := rulesStepsRow.holds Tryd.pinned (OpenSpec.ofChange rulesStepsWrong)

/-- 'admissionlaw13.RulesFlow': WHATEVER THE INPUT: true; the input reads as it did. -/
def rulesFlowSpec : ChangeSpec := { name := "rulesFlow", fn := fun _ => fun
  | [d] => { results := [.lit (.bool true)], args := [d] }
  | _ => none }
def rulesFlowRow : OpenClaim := { program := "ytjknipdiglpnlaadoor", sum := "20ab8cc4b8f8a6dab965a71c5adbb702163b60cf6026566a00ed81ce17bee8b3", func := "admission/admissionlaw13.RulesFlow", spec := "rulesFlow", inPlace := ["internal/bytealg.CountString", "internal/bytealg.IndexByteString", "internal/bytealg.IndexString"], unfollowed := true, recurses := true, named := ["unicode/utf8.first", "unicode/utf8.acceptRanges", "internal/bytealg.MaxLen"], apart := false, laid := [("unicode/utf8.acceptRanges", laid_unicode_utf8_acceptRanges), ("unicode/utf8.first", laid_unicode_utf8_first)] }
def RulesFlowSaid : Prop := rulesFlowRow.holds Tryd.pinned (OpenSpec.ofChange rulesFlowSpec)

/-- ITS FALSE NEIGHBOUR: 'it returns false'. Refute it at one input. -/
def rulesFlowWrong : ChangeSpec := { name := "rulesFlow", fn := fun _ => fun
  | [d] => { results := [.lit (.bool false)], args := [d] }
  | _ => none }
def RulesFlowWrongFalsely : Prop := rulesFlowRow.holds Tryd.pinned (OpenSpec.ofChange rulesFlowWrong)

/-- 'admissionlaw13.RulesCreation': WHATEVER THE INPUT: true; the input reads as it did. -/
def rulesCreationSpec : ChangeSpec := { name := "rulesCreation", fn := fun _ => fun
  | [d] => { results := [.lit (.bool true)], args := [d] }
  | _ => none }
def rulesCreationRow : OpenClaim := { program := "ytjknipdiglpnlaadoor", sum := "20ab8cc4b8f8a6dab965a71c5adbb702163b60cf6026566a00ed81ce17bee8b3", func := "admission/admissionlaw13.RulesCreation", spec := "rulesCreation", inPlace := ["internal/bytealg.CountString", "internal/bytealg.IndexByteString", "internal/bytealg.IndexString"], unfollowed := true, recurses := true, named := ["unicode/utf8.first", "unicode/utf8.acceptRanges", "internal/bytealg.MaxLen"], apart := false, laid := [("unicode/utf8.acceptRanges", laid_unicode_utf8_acceptRanges), ("unicode/utf8.first", laid_unicode_utf8_first)] }
def RulesCreationSaid : Prop := rulesCreationRow.holds Tryd.pinned (OpenSpec.ofChange rulesCreationSpec)

/-- ITS FALSE NEIGHBOUR: 'it returns false'. Refute it at one input. -/
def rulesCreationWrong : ChangeSpec := { name := "rulesCreation", fn := fun _ => fun
  | [d] => { results := [.lit (.bool false)], args := [d] }
  | _ => none }
def RulesCreationWrongFalsely : Prop := rulesCreationRow.holds Tryd.pinned (OpenSpec.ofChange rulesCreationWrong)

/-- 'admissionlaw13.RulesWords': WHATEVER THE INPUT: true; the input reads as it did. -/
def rulesWordsSpec : ChangeSpec := { name := "rulesWords", fn := fun _ => fun
  | [d1, d2, d3] => { results := [.lit (.bool true)], args := [d1, d2, d3] }
  | _ => none }
def rulesWordsRow : OpenClaim := { program := "ytjknipdiglpnlaadoor", sum := "20ab8cc4b8f8a6dab965a71c5adbb702163b60cf6026566a00ed81ce17bee8b3", func := "admission/admissionlaw13.RulesWords", spec := "rulesWords", inPlace := ["internal/bytealg.IndexByteString", "internal/bytealg.IndexString", "internal/bytealg.CountString"], unfollowed := true, recurses := true, named := ["internal/bytealg.MaxLen", "unicode/utf8.first", "unicode/utf8.acceptRanges"], apart := false, laid := [("unicode/utf8.acceptRanges", laid_unicode_utf8_acceptRanges), ("unicode/utf8.first", laid_unicode_utf8_first)] }
def RulesWordsSaid : Prop := rulesWordsRow.holds Tryd.pinned (OpenSpec.ofChange rulesWordsSpec)

/-- ITS FALSE NEIGHBOUR: 'it returns false'. Refute it at one input. -/
def rulesWordsWrong : ChangeSpec := { name := "rulesWords", fn := fun _ => fun
  | [d1, d2, d3] => { results := [.lit (.bool false)], args := [d1, d2, d3] }
  | _ => none }
def RulesWordsWrongFalsely : Prop := rulesWordsRow.holds Tryd.pinned (OpenSpec.ofChange rulesWordsWrong)

/-- 'admissionlaw37.WorkloadChanged': WHATEVER THE INPUT: true; the input reads as it did. -/
def workloadChangedSpec : ChangeSpec := { name := "workloadChanged", fn := fun _ => fun
  | [d1, d2, d3, d4] => { results := [.lit (.bool true)], args := [d1, d2, d3, d4] }
  | _ => none }
def workloadChangedRow : OpenClaim := { program := "ytjknipdiglpnlaadoor", sum := "20ab8cc4b8f8a6dab965a71c5adbb702163b60cf6026566a00ed81ce17bee8b3", func := "admission/admissionlaw37.WorkloadChanged", spec := "workloadChanged", inPlace := ["internal/bytealg.CountString", "internal/bytealg.IndexByteString", "internal/bytealg.IndexString"], unfollowed := true, recurses := true, named := ["unicode/utf8.first", "unicode/utf8.acceptRanges", "internal/bytealg.MaxLen"], apart := false, laid := [("unicode/utf8.acceptRanges", laid_unicode_utf8_acceptRanges), ("unicode/utf8.first", laid_unicode_utf8_first)] }
def WorkloadChangedSaid : Prop := workloadChangedRow.holds Tryd.pinned (OpenSpec.ofChange workloadChangedSpec)

/-- ITS FALSE NEIGHBOUR: 'it returns false'. Refute it at one input. -/
def workloadChangedWrong : ChangeSpec := { name := "workloadChanged", fn := fun _ => fun
  | [d1, d2, d3, d4] => { results := [.lit (.bool false)], args := [d1, d2, d3, d4] }
  | _ => none }
def WorkloadChangedWrongFalsely : Prop := workloadChangedRow.holds Tryd.pinned (OpenSpec.ofChange workloadChangedWrong)

/- THE SECOND FORM. 'bulk': how many values and letters a reading holds, each counted each time it is reached (what is shared counts as often as it is met; a slice's spare places count too). A statement '..UptoSaid' is the law's where the arguments, and the package variables that the reading takes, are together of bulk at most 1048576: NARROWER than '..Said'. Prove '..Said' where nothing that the law and all that it calls make is longer than what came in: it says more and counts as full. Else prove '..UptoSaid'. A law counts once. -/
mutual
def uptoBulk {H : Type} : DataW H → Nat
  | .lit (.string bytes) => bytes.length + 1
  | .lit _ => 1
  | .nil => 1
  | .ptr d => uptoBulk d + 1
  | .slice elems spare => uptoBulkAll elems + uptoBulkAll spare + 1
  | .agg parts => uptoBulkAll parts + 1
  | .iface _ d => uptoBulk d + 1
  | .map entries => uptoBulkEntries entries + 1
  | .held _ => 1
def uptoBulkAll {H : Type} : List (DataW H) → Nat
  | [] => 0
  | d :: r => uptoBulk d + uptoBulkAll r
def uptoBulkEntries {H : Type} : List (Lit × DataW H) → Nat
  | [] => 0
  | x :: r => uptoBulkEntry x + uptoBulkEntries r
def uptoBulkEntry {H : Type} : Lit × DataW H → Nat
  | (.string bytes, d) => bytes.length + uptoBulk d + 1
  | (_, d) => uptoBulk d + 1
 end
def uptoSmall : (H : Type) → List (DataW H) → Bool := fun _ ds => decide (uptoBulkAll ds ≤ 1048576)
def OpenSpec.upto (s : _root_.Go.ChangeSpec) : _root_.Go.OpenSpec := { _root_.Go.OpenSpec.ofChange s with cond := some uptoSmall }

/-- 'admissionlaw15.AgreementCamps', WHERE WHAT IT READS IS OF BULK AT MOST 1048576: true; the input reads as it did. -/
def agreementCampsUptoRow : OpenClaim := { program := "ytjknipdiglpnlaadoor", sum := "20ab8cc4b8f8a6dab965a71c5adbb702163b60cf6026566a00ed81ce17bee8b3", func := "admission/admissionlaw15.AgreementCamps", spec := "agreementCamps", inPlace := ["internal/bytealg.CountString", "internal/bytealg.IndexByteString", "internal/bytealg.IndexString"], unfollowed := true, recurses := true, named := ["unicode/utf8.first", "unicode/utf8.acceptRanges", "internal/bytealg.MaxLen"], apart := false, laid := [("unicode/utf8.acceptRanges", laid_unicode_utf8_acceptRanges), ("unicode/utf8.first", laid_unicode_utf8_first)], narrowed := true }
def AgreementCampsUptoSaid : Prop := agreementCampsUptoRow.holds Tryd.pinned (OpenSpec.upto agreementCampsSpec)

/-- 'admissionlaw13.RulesStrict', WHERE WHAT IT READS IS OF BULK AT MOST 1048576: true; the input reads as it did. -/
def rulesStrictUptoRow : OpenClaim := { program := "ytjknipdiglpnlaadoor", sum := "20ab8cc4b8f8a6dab965a71c5adbb702163b60cf6026566a00ed81ce17bee8b3", func := "admission/admissionlaw13.RulesStrict", spec := "rulesStrict", inPlace := ["internal/bytealg.CountString", "internal/bytealg.IndexByteString", "internal/bytealg.IndexString"], unfollowed := true, recurses := true, named := ["unicode/utf8.first", "unicode/utf8.acceptRanges", "internal/bytealg.MaxLen"], apart := false, laid := [("unicode/utf8.acceptRanges", laid_unicode_utf8_acceptRanges), ("unicode/utf8.first", laid_unicode_utf8_first)], narrowed := true }
def RulesStrictUptoSaid : Prop := rulesStrictUptoRow.holds Tryd.pinned (OpenSpec.upto rulesStrictSpec)

/-- 'admissionlaw13.RulesSteps', WHERE WHAT IT READS IS OF BULK AT MOST 1048576: true; the input reads as it did. -/
def rulesStepsUptoRow : OpenClaim := { program := "ytjknipdiglpnlaadoor", sum := "20ab8cc4b8f8a6dab965a71c5adbb702163b60cf6026566a00ed81ce17bee8b3", func := "admission/admissionlaw13.RulesSteps", spec := "rulesSteps", inPlace := ["internal/bytealg.CountString", "internal/bytealg.IndexByteString", "internal/bytealg.IndexString"], unfollowed := true, recurses := true, named := ["unicode/utf8.first", "unicode/utf8.acceptRanges", "internal/bytealg.MaxLen"], apart := false, laid := [("unicode/utf8.acceptRanges", laid_unicode_utf8_acceptRanges), ("unicode/utf8.first", laid_unicode_utf8_first)], narrowed := true }
def RulesStepsUptoSaid : Prop := rulesStepsUptoRow.holds Tryd.pinned (OpenSpec.upto rulesStepsSpec)

/-- 'admissionlaw13.RulesFlow', WHERE WHAT IT READS IS OF BULK AT MOST 1048576: true; the input reads as it did. -/
def rulesFlowUptoRow : OpenClaim := { program := "ytjknipdiglpnlaadoor", sum := "20ab8cc4b8f8a6dab965a71c5adbb702163b60cf6026566a00ed81ce17bee8b3", func := "admission/admissionlaw13.RulesFlow", spec := "rulesFlow", inPlace := ["internal/bytealg.CountString", "internal/bytealg.IndexByteString", "internal/bytealg.IndexString"], unfollowed := true, recurses := true, named := ["unicode/utf8.first", "unicode/utf8.acceptRanges", "internal/bytealg.MaxLen"], apart := false, laid := [("unicode/utf8.acceptRanges", laid_unicode_utf8_acceptRanges), ("unicode/utf8.first", laid_unicode_utf8_first)], narrowed := true }
def RulesFlowUptoSaid : Prop := rulesFlowUptoRow.holds Tryd.pinned (OpenSpec.upto rulesFlowSpec)

/-- 'admissionlaw13.RulesCreation', WHERE WHAT IT READS IS OF BULK AT MOST 1048576: true; the input reads as it did. -/
def rulesCreationUptoRow : OpenClaim := { program := "ytjknipdiglpnlaadoor", sum := "20ab8cc4b8f8a6dab965a71c5adbb702163b60cf6026566a00ed81ce17bee8b3", func := "admission/admissionlaw13.RulesCreation", spec := "rulesCreation", inPlace := ["internal/bytealg.CountString", "internal/bytealg.IndexByteString", "internal/bytealg.IndexString"], unfollowed := true, recurses := true, named := ["unicode/utf8.first", "unicode/utf8.acceptRanges", "internal/bytealg.MaxLen"], apart := false, laid := [("unicode/utf8.acceptRanges", laid_unicode_utf8_acceptRanges), ("unicode/utf8.first", laid_unicode_utf8_first)], narrowed := true }
def RulesCreationUptoSaid : Prop := rulesCreationUptoRow.holds Tryd.pinned (OpenSpec.upto rulesCreationSpec)

/-- 'admissionlaw13.RulesWords', WHERE WHAT IT READS IS OF BULK AT MOST 1048576: true; the input reads as it did. -/
def rulesWordsUptoRow : OpenClaim := { program := "ytjknipdiglpnlaadoor", sum := "20ab8cc4b8f8a6dab965a71c5adbb702163b60cf6026566a00ed81ce17bee8b3", func := "admission/admissionlaw13.RulesWords", spec := "rulesWords", inPlace := ["internal/bytealg.IndexByteString", "internal/bytealg.IndexString", "internal/bytealg.CountString"], unfollowed := true, recurses := true, named := ["internal/bytealg.MaxLen", "unicode/utf8.first", "unicode/utf8.acceptRanges"], apart := false, laid := [("unicode/utf8.acceptRanges", laid_unicode_utf8_acceptRanges), ("unicode/utf8.first", laid_unicode_utf8_first)], narrowed := true }
def RulesWordsUptoSaid : Prop := rulesWordsUptoRow.holds Tryd.pinned (OpenSpec.upto rulesWordsSpec)

/-- 'admissionlaw37.WorkloadChanged', WHERE WHAT IT READS IS OF BULK AT MOST 1048576: true; the input reads as it did. -/
def workloadChangedUptoRow : OpenClaim := { program := "ytjknipdiglpnlaadoor", sum := "20ab8cc4b8f8a6dab965a71c5adbb702163b60cf6026566a00ed81ce17bee8b3", func := "admission/admissionlaw37.WorkloadChanged", spec := "workloadChanged", inPlace := ["internal/bytealg.CountString", "internal/bytealg.IndexByteString", "internal/bytealg.IndexString"], unfollowed := true, recurses := true, named := ["unicode/utf8.first", "unicode/utf8.acceptRanges", "internal/bytealg.MaxLen"], apart := false, laid := [("unicode/utf8.acceptRanges", laid_unicode_utf8_acceptRanges), ("unicode/utf8.first", laid_unicode_utf8_first)], narrowed := true }
def WorkloadChangedUptoSaid : Prop := workloadChangedUptoRow.holds Tryd.pinned (OpenSpec.upto workloadChangedSpec)

end Rows
end Go.Proofs.YtjknipdiglpnlaaDoor
