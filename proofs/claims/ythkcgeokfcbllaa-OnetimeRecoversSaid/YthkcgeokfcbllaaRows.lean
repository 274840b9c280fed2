/-
  No cell of these rows narrows 'for every input' (looked for: loops, veiled, ifaces, maps, wideKeys, modest, calm, conditions, laid).
  DERIVED. THE GIVEN ROWS OF THIS SEAT. 13 by the template 'for every input the law returns true; each argument reads behind the call as it read before'; 0 by the template 'total and deterministic' (their statements: YthkcgeokfcbllaaTotals.lean).
  GIVEN WITH THE SEED: the statements are not yours to turn. If you find one false, say at which input.
  Laid BY PROGRAM, IN A SANDBOX (cutbox-rows.mjs): the forced cells as the released guide's own fill.sh prints them over the translation 245e672ab93818f8… (all of the seat's roots in one cut). By AI agents, Wed Nov 11 2026. No macro, syntax, notation, axiom, sorry.
-/
import Derived.Test.YthkcgeokfcbllaaChecked
import GoSem.Claim
import GoSem.ClaimJoined
import GoSem.ClaimMapViews
import Derived.JoinedTies
import Derived.KernelRfl
namespace Go.Proofs.Ythkcgeokfcbllaa
/- THE CELL 'sum', in the pinned program and in every row, IS THE sha256 OF THE DUMP (.gsa) THAT YthkcgeokfcbllaaProg.lean LOADS. Nothing in Lean hashes anything: it is a label: what it is worth is what the hold of that sum in a sandbox is worth. -/
noncomputable def Try.pinned : Pinned := { name := "ythkcgeokfcbllaa", sum := "245e672ab93818f8f7dd457575b374efab5080ead3a5933f01c3adca46445221", checked := Try.checked }
namespace Rows
def none {H : Type} : Left H := { results := [], args := [] }

/-- 'admissionlaw08.OnetimeDigits': WHATEVER THE INPUT: true; the input reads as it did. -/
def onetimeDigitsSpec : ChangeSpec := { name := "onetimeDigits", fn := fun _ => fun
  | [d] => { results := [.lit (.bool true)], args := [d] }
  | _ => none }
def onetimeDigitsRow : OpenClaim := { program := "ythkcgeokfcbllaa", sum := "245e672ab93818f8f7dd457575b374efab5080ead3a5933f01c3adca46445221", func := "admission/admissionlaw08.OnetimeDigits", spec := "onetimeDigits", unfollowed := true, recurses := true, apart := false }
def OnetimeDigitsSaid : Prop := onetimeDigitsRow.holds Try.pinned (OpenSpec.ofChange onetimeDigitsSpec)

/-- ITS FALSE NEIGHBOUR: 'it returns false'. Refute it at one input. -/
def onetimeDigitsWrong : ChangeSpec := { name := "onetimeDigits", fn := fun _ => fun
  | [d] => { results := [.lit (.bool false)], args := [d] }
  | _ => none }
def OnetimeDigitsWrongFalsely : Prop := onetimeDigitsRow.holds Try.pinned (OpenSpec.ofChange onetimeDigitsWrong)

/-- 'admissionlaw08.OnetimeApart': WHATEVER THE INPUT: true; the input reads as it did. -/
def onetimeApartSpec : ChangeSpec := { name := "onetimeApart", fn := fun _ => fun
  | [d1, d2] => { results := [.lit (.bool true)], args := [d1, d2] }
  | _ => none }
def onetimeApartRow : OpenClaim := { program := "ythkcgeokfcbllaa", sum := "245e672ab93818f8f7dd457575b374efab5080ead3a5933f01c3adca46445221", func := "admission/admissionlaw08.OnetimeApart", spec := "onetimeApart", unfollowed := true, recurses := true, apart := false }
def OnetimeApartSaid : Prop := onetimeApartRow.holds Try.pinned (OpenSpec.ofChange onetimeApartSpec)

/-- ITS FALSE NEIGHBOUR: 'it returns false'. Refute it at one input. -/
def onetimeApartWrong : ChangeSpec := { name := "onetimeApart", fn := fun _ => fun
  | [d1, d2] => { results := [.lit (.bool false)], args := [d1, d2] }
  | _ => none }
def OnetimeApartWrongFalsely : Prop := onetimeApartRow.holds Try.pinned (OpenSpec.ofChange onetimeApartWrong)

/-- 'admissionlaw08.OnetimeClimbs': WHATEVER THE INPUT: true; the input reads as it did. -/
def onetimeClimbsSpec : ChangeSpec := { name := "onetimeClimbs", fn := fun _ => fun
  | [d1, d2, d3] => { results := [.lit (.bool true)], args := [d1, d2, d3] }
  | _ => none }
def onetimeClimbsRow : OpenClaim := { program := "ythkcgeokfcbllaa", sum := "245e672ab93818f8f7dd457575b374efab5080ead3a5933f01c3adca46445221", func := "admission/admissionlaw08.OnetimeClimbs", spec := "onetimeClimbs", unfollowed := true, recurses := true, apart := false }
def OnetimeClimbsSaid : Prop := onetimeClimbsRow.holds Try.pinned (OpenSpec.ofChange onetimeClimbsSpec)

/-- ITS FALSE NEIGHBOUR: 'it returns false'. Refute it at one input. -/
def onetimeClimbsWrong : ChangeSpec := { name := "onetimeClimbs", fn := fun _ => fun
  | [d1, d2, d3] => { results := [.lit (.bool false)], args := [d1, d2, d3] }
  | _ => none }
def OnetimeClimbsWrongFalsely : Prop := onetimeClimbsRow.holds Try.pinned (OpenSpec.ofChange onetimeClimbsWrong)

/-- 'admissionlaw08.OnetimeSteps': WHATEVER THE INPUT: true; the input reads as it did. -/
def onetimeStepsSpec : ChangeSpec := { name := "onetimeSteps", fn := fun _ => fun
  | [d1, d2, d3] => { results := [.lit (.bool true)], args := [d1, d2, d3] }
  | _ => none }
def onetimeStepsRow : OpenClaim := { program := "ythkcgeokfcbllaa", sum := "245e672ab93818f8f7dd457575b374efab5080ead3a5933f01c3adca46445221", func := "admission/admissionlaw08.OnetimeSteps", spec := "onetimeSteps", unfollowed := true, recurses := true, apart := false }
def OnetimeStepsSaid : Prop := onetimeStepsRow.holds Try.pinned (OpenSpec.ofChange onetimeStepsSpec)

/-- ITS FALSE NEIGHBOUR: 'it returns false'. Refute it at one input. -/
def onetimeStepsWrong : ChangeSpec := { name := "onetimeSteps", fn := fun _ => fun
  | [d1, d2, d3] => { results := [.lit (.bool false)], args := [d1, d2, d3] }
  | _ => none }
def OnetimeStepsWrongFalsely : Prop := onetimeStepsRow.holds Try.pinned (OpenSpec.ofChange onetimeStepsWrong)

/-- 'admissionlaw08.OnetimeSigns': WHATEVER THE INPUT: true; the input reads as it did. -/
def onetimeSignsSpec : ChangeSpec := { name := "onetimeSigns", fn := fun _ => fun
  | [d1, d2, d3] => { results := [.lit (.bool true)], args := [d1, d2, d3] }
  | _ => none }
def onetimeSignsRow : OpenClaim := { program := "ythkcgeokfcbllaa", sum := "245e672ab93818f8f7dd457575b374efab5080ead3a5933f01c3adca46445221", func := "admission/admissionlaw08.OnetimeSigns", spec := "onetimeSigns", unfollowed := true, recurses := true, apart := false }
def OnetimeSignsSaid : Prop := onetimeSignsRow.holds Try.pinned (OpenSpec.ofChange onetimeSignsSpec)

/-- ITS FALSE NEIGHBOUR: 'it returns false'. Refute it at one input. -/
def onetimeSignsWrong : ChangeSpec := { name := "onetimeSigns", fn := fun _ => fun
  | [d1, d2, d3] => { results := [.lit (.bool false)], args := [d1, d2, d3] }
  | _ => none }
def OnetimeSignsWrongFalsely : Prop := onetimeSignsRow.holds Try.pinned (OpenSpec.ofChange onetimeSignsWrong)

/-- 'admissionlaw08.OnetimeRecovers': WHATEVER THE INPUT: true; the input reads as it did. -/
def onetimeRecoversSpec : ChangeSpec := { name := "onetimeRecovers", fn := fun _ => fun
  | [d1, d2, d3] => { results := [.lit (.bool true)], args := [d1, d2, d3] }
  | _ => none }
def onetimeRecoversRow : OpenClaim := { program := "ythkcgeokfcbllaa", sum := "245e672ab93818f8f7dd457575b374efab5080ead3a5933f01c3adca46445221", func := "admission/admissionlaw08.OnetimeRecovers", spec := "onetimeRecovers", unfollowed := true, recurses := true, apart := false }
def OnetimeRecoversSaid : Prop := onetimeRecoversRow.holds Try.pinned (OpenSpec.ofChange onetimeRecoversSpec)

/-- ITS FALSE NEIGHBOUR: 'it returns false'. Refute it at one input. -/
def onetimeRecoversWrong : ChangeSpec := { name := "onetimeRecovers", fn := fun _ => fun
  | [d1, d2, d3] => { results := [.lit (.bool false)], args := [d1, d2, d3] }
  | _ => none }
def OnetimeRecoversWrongFalsely : Prop := onetimeRecoversRow.holds Try.pinned (OpenSpec.ofChange onetimeRecoversWrong)

/-- 'admissionlaw01.DigestSums': WHATEVER THE INPUT: true; the input reads as it did. -/
def digestSumsSpec : ChangeSpec := { name := "digestSums", fn := fun _ => fun
  | [d] => { results := [.lit (.bool true)], args := [d] }
  | _ => none }
def digestSumsRow : OpenClaim := { program := "ythkcgeokfcbllaa", sum := "245e672ab93818f8f7dd457575b374efab5080ead3a5933f01c3adca46445221", func := "admission/admissionlaw01.DigestSums", spec := "digestSums", apart := false }
def DigestSumsSaid : Prop := digestSumsRow.holds Try.pinned (OpenSpec.ofChange digestSumsSpec)

/-- ITS FALSE NEIGHBOUR: 'it returns false'. Refute it at one input. -/
def digestSumsWrong : ChangeSpec := { name := "digestSums", fn := fun _ => fun
  | [d] => { results := [.lit (.bool false)], args := [d] }
  | _ => none }
def DigestSumsWrongFalsely : Prop := digestSumsRow.holds Try.pinned (OpenSpec.ofChange digestSumsWrong)

/-- 'admissionlaw01.DigestNodes': WHATEVER THE INPUT: true; the input reads as it did. -/
def digestNodesSpec : ChangeSpec := { name := "digestNodes", fn := fun _ => fun
  | [d1, d2, d3] => { results := [.lit (.bool true)], args := [d1, d2, d3] }
  | _ => none }
def digestNodesRow : OpenClaim := { program := "ythkcgeokfcbllaa", sum := "245e672ab93818f8f7dd457575b374efab5080ead3a5933f01c3adca46445221", func := "admission/admissionlaw01.DigestNodes", spec := "digestNodes", apart := false }
def DigestNodesSaid : Prop := digestNodesRow.holds Try.pinned (OpenSpec.ofChange digestNodesSpec)

/-- ITS FALSE NEIGHBOUR: 'it returns false'. Refute it at one input. -/
def digestNodesWrong : ChangeSpec := { name := "digestNodes", fn := fun _ => fun
  | [d1, d2, d3] => { results := [.lit (.bool false)], args := [d1, d2, d3] }
  | _ => none }
def DigestNodesWrongFalsely : Prop := digestNodesRow.holds Try.pinned (OpenSpec.ofChange digestNodesWrong)

/-- 'admissionlaw01.DigestHalves': WHATEVER THE INPUT: true; the input reads as it did. -/
def digestHalvesSpec : ChangeSpec := { name := "digestHalves", fn := fun _ => fun
  | [d] => { results := [.lit (.bool true)], args := [d] }
  | _ => none }
def digestHalvesRow : OpenClaim := { program := "ythkcgeokfcbllaa", sum := "245e672ab93818f8f7dd457575b374efab5080ead3a5933f01c3adca46445221", func := "admission/admissionlaw01.DigestHalves", spec := "digestHalves", apart := false }
def DigestHalvesSaid : Prop := digestHalvesRow.holds Try.pinned (OpenSpec.ofChange digestHalvesSpec)

/-- ITS FALSE NEIGHBOUR: 'it returns false'. Refute it at one input. -/
def digestHalvesWrong : ChangeSpec := { name := "digestHalves", fn := fun _ => fun
  | [d] => { results := [.lit (.bool false)], args := [d] }
  | _ => none }
def DigestHalvesWrongFalsely : Prop := digestHalvesRow.holds Try.pinned (OpenSpec.ofChange digestHalvesWrong)

/-- 'admissionlaw01.DigestTrees': WHATEVER THE INPUT: true; the input reads as it did. -/
def digestTreesSpec : ChangeSpec := { name := "digestTrees", fn := fun _ => fun
  | [d] => { results := [.lit (.bool true)], args := [d] }
  | _ => none }
def digestTreesRow : OpenClaim := { program := "ythkcgeokfcbllaa", sum := "245e672ab93818f8f7dd457575b374efab5080ead3a5933f01c3adca46445221", func := "admission/admissionlaw01.DigestTrees", spec := "digestTrees", recurses := true, apart := false }
def DigestTreesSaid : Prop := digestTreesRow.holds Try.pinned (OpenSpec.ofChange digestTreesSpec)

/-- ITS FALSE NEIGHBOUR: 'it returns false'. Refute it at one input. -/
def digestTreesWrong : ChangeSpec := { name := "digestTrees", fn := fun _ => fun
  | [d] => { results := [.lit (.bool false)], args := [d] }
  | _ => none }
def DigestTreesWrongFalsely : Prop := digestTreesRow.holds Try.pinned (OpenSpec.ofChange digestTreesWrong)

/-- 'admissionlaw01.DigestSplits': WHATEVER THE INPUT: true; the input reads as it did. -/
def digestSplitsSpec : ChangeSpec := { name := "digestSplits", fn := fun _ => fun
  | [d] => { results := [.lit (.bool true)], args := [d] }
  | _ => none }
def digestSplitsRow : OpenClaim := { program := "ythkcgeokfcbllaa", sum := "245e672ab93818f8f7dd457575b374efab5080ead3a5933f01c3adca46445221", func := "admission/admissionlaw01.DigestSplits", spec := "digestSplits", recurses := true, apart := false }
def DigestSplitsSaid : Prop := digestSplitsRow.holds Try.pinned (OpenSpec.ofChange digestSplitsSpec)

/-- ITS FALSE NEIGHBOUR: 'it returns false'. Refute it at one input. -/
def digestSplitsWrong : ChangeSpec := { name := "digestSplits", fn := fun _ => fun
  | [d] => { results := [.lit (.bool false)], args := [d] }
  | _ => none }
def DigestSplitsWrongFalsely : Prop := digestSplitsRow.holds Try.pinned (OpenSpec.ofChange digestSplitsWrong)

/-- 'admissionlaw01.DigestTexts': WHATEVER THE INPUT: true; the input reads as it did. -/
def digestTextsSpec : ChangeSpec := { name := "digestTexts", fn := fun _ => fun
  | [d1, d2, d3] => { results := [.lit (.bool true)], args := [d1, d2, d3] }
  | _ => none }
def digestTextsRow : OpenClaim := { program := "ythkcgeokfcbllaa", sum := "245e672ab93818f8f7dd457575b374efab5080ead3a5933f01c3adca46445221", func := "admission/admissionlaw01.DigestTexts", spec := "digestTexts", inPlace := ["internal/bytealg.IndexByteString", "internal/abi.NoEscape"], apart := false }
def DigestTextsSaid : Prop := digestTextsRow.holds Try.pinned (OpenSpec.ofChange digestTextsSpec)

/-- ITS FALSE NEIGHBOUR: 'it returns false'. Refute it at one input. -/
def digestTextsWrong : ChangeSpec := { name := "digestTexts", fn := fun _ => fun
  | [d1, d2, d3] => { results := [.lit (.bool false)], args := [d1, d2, d3] }
  | _ => none }
def DigestTextsWrongFalsely : Prop := digestTextsRow.holds Try.pinned (OpenSpec.ofChange digestTextsWrong)

/-- 'admissionlaw01.DigestBack': WHATEVER THE INPUT: true; the input reads as it did. -/
def digestBackSpec : ChangeSpec := { name := "digestBack", fn := fun _ => fun
  | [d1, d2, d3] => { results := [.lit (.bool true)], args := [d1, d2, d3] }
  | _ => none }
def digestBackRow : OpenClaim := { program := "ythkcgeokfcbllaa", sum := "245e672ab93818f8f7dd457575b374efab5080ead3a5933f01c3adca46445221", func := "admission/admissionlaw01.DigestBack", spec := "digestBack", inPlace := ["internal/abi.NoEscape", "internal/bytealg.IndexByteString"], apart := false }
def DigestBackSaid : Prop := digestBackRow.holds Try.pinned (OpenSpec.ofChange digestBackSpec)

/-- ITS FALSE NEIGHBOUR: 'it returns false'. Refute it at one input. -/
def digestBackWrong : ChangeSpec := { name := "digestBack", fn := fun _ => fun
  | [d1, d2, d3] => { results := [.lit (.bool false)], args := [d1, d2, d3] }
  | _ => none }
def DigestBackWrongFalsely : Prop := digestBackRow.holds Try.pinned (OpenSpec.ofChange digestBackWrong)

/- THE SECOND FORM. 'bulk': how many values and letters a reading holds, each counted each time it is reached (what is shared counts as often as it is met; a slice's spare places count too). A statement '..UptoSaid' is the law's where the arguments, and the package variables that the reading takes, are together of bulk at most 1048576: NARROWER than '..Said'. Prove '..Said' where nothing that the law and all that it calls make is longer than what came in: it says more and counts as full. Else prove '..UptoSaid'. A law counts once. -/
mutual
def uptoBulk {H : Type} : DataW H → Nat
  | .lit (.string bytes) => bytes.length + 1
  | .lit _ => 1
  | .nil => 1
  | .ptr d => uptoBulk d + 1
  | .slice elems spare => uptoBulkAll elems + uptoBulkAll spare + 1
  | .agg parts => uptoBulkAll parts + 1
  | .iface _ d => uptoBulk d + 1
  | .map entries => uptoBulkEntries entries + 1
  | .held _ => 1
def uptoBulkAll {H : Type} : List (DataW H) → Nat
  | [] => 0
  | d :: r => uptoBulk d + uptoBulkAll r
def uptoBulkEntries {H : Type} : List (Lit × DataW H) → Nat
  | [] => 0
  | x :: r => uptoBulkEntry x + uptoBulkEntries r
def uptoBulkEntry {H : Type} : Lit × DataW H → Nat
  | (.string bytes, d) => bytes.length + uptoBulk d + 1
  | (_, d) => uptoBulk d + 1
 end
def uptoSmall : (H : Type) → List (DataW H) → Bool := fun _ ds => decide (uptoBulkAll ds ≤ 1048576)
def OpenSpec.upto (s : _root_.Go.ChangeSpec) : _root_.Go.OpenSpec := { _root_.Go.OpenSpec.ofChange s with cond := some uptoSmall }

/-- 'admissionlaw08.OnetimeDigits', WHERE WHAT IT READS IS OF BULK AT MOST 1048576: true; the input reads as it did. -/
def onetimeDigitsUptoRow : OpenClaim := { program := "ythkcgeokfcbllaa", sum := "245e672ab93818f8f7dd457575b374efab5080ead3a5933f01c3adca46445221", func := "admission/admissionlaw08.OnetimeDigits", spec := "onetimeDigits", unfollowed := true, recurses := true, apart := false, narrowed := true }
def OnetimeDigitsUptoSaid : Prop := onetimeDigitsUptoRow.holds Try.pinned (OpenSpec.upto onetimeDigitsSpec)

/-- 'admissionlaw08.OnetimeApart', WHERE WHAT IT READS IS OF BULK AT MOST 1048576: true; the input reads as it did. -/
def onetimeApartUptoRow : OpenClaim := { program := "ythkcgeokfcbllaa", sum := "245e672ab93818f8f7dd457575b374efab5080ead3a5933f01c3adca46445221", func := "admission/admissionlaw08.OnetimeApart", spec := "onetimeApart", unfollowed := true, recurses := true, apart := false, narrowed := true }
def OnetimeApartUptoSaid : Prop := onetimeApartUptoRow.holds Try.pinned (OpenSpec.upto onetimeApartSpec)

/-- 'admissionlaw08.OnetimeClimbs', WHERE WHAT IT READS IS OF BULK AT MOST 1048576: true; the input reads as it did. -/
def onetimeClimbsUptoRow : OpenClaim := { program := "ythkcgeokfcbllaa", sum := "245e672ab93818f8f7dd457575b374efab5080ead3a5933f01c3adca46445221", func := "admission/admissionlaw08.OnetimeClimbs", spec := "onetimeClimbs", unfollowed := true, recurses := true, apart := false, narrowed := true }
def OnetimeClimbsUptoSaid : Prop := onetimeClimbsUptoRow.holds Try.pinned (OpenSpec.upto onetimeClimbsSpec)

/-- 'admissionlaw08.OnetimeSteps', WHERE WHAT IT READS IS OF BULK AT MOST 1048576: true; the input reads as it did. -/
def onetimeStepsUptoRow : OpenClaim := { program := "ythkcgeokfcbllaa", sum := "245e672ab93818f8f7dd457575b374efab5080ead3a5933f01c3adca46445221", func := "admission/admissionlaw08.OnetimeSteps", spec := "onetimeSteps", unfollowed := true, recurses := true, apart := false, narrowed := true }
def OnetimeStepsUptoSaid : Prop := onetimeStepsUptoRow.holds Try.pinned (OpenSpec.upto onetimeStepsSpec)

/-- 'admissionlaw08.OnetimeSigns', WHERE WHAT IT READS IS OF BULK AT MOST 1048576: true; the input reads as it did. -/
def onetimeSignsUptoRow : OpenClaim := { program := "ythkcgeokfcbllaa", sum := "245e672ab93818f8f7dd457575b374efab5080ead3a5933f01c3adca46445221", func := "admission/admissionlaw08.OnetimeSigns", spec := "onetimeSigns", unfollowed := true, recurses := true, apart := false, narrowed := true }
def OnetimeSignsUptoSaid : Prop := onetimeSignsUptoRow.holds Try.pinned (OpenSpec.upto onetimeSignsSpec)

/-- 'admissionlaw08.OnetimeRecovers', WHERE WHAT IT READS IS OF BULK AT MOST 1048576: true; the input reads as it did. -/
def onetimeRecoversUptoRow : OpenClaim := { program := "ythkcgeokfcbllaa", sum := "245e672ab93818f8f7dd457575b374efab5080ead3a5933f01c3adca46445221", func := "admission/admissionlaw08.OnetimeRecovers", spec := "onetimeRecovers", unfollowed := true, recurses := true, apart := false, narrowed := true }
def OnetimeRecoversUptoSaid : Prop := onetimeRecoversUptoRow.holds Try.pinned (OpenSpec.upto onetimeRecoversSpec)

/-- 'admissionlaw01.DigestSums', WHERE WHAT IT READS IS OF BULK AT MOST 1048576: true; the input reads as it did. -/
def digestSumsUptoRow : OpenClaim := { program := "ythkcgeokfcbllaa", sum := "245e672ab93818f8f7dd457575b374efab5080ead3a5933f01c3adca46445221", func := "admission/admissionlaw01.DigestSums", spec := "digestSums", apart := false, narrowed := true }
def DigestSumsUptoSaid : Prop := digestSumsUptoRow.holds Try.pinned (OpenSpec.upto digestSumsSpec)

/-- 'admissionlaw01.DigestNodes', WHERE WHAT IT READS IS OF BULK AT MOST 1048576: true; the input reads as it did. -/
def digestNodesUptoRow : OpenClaim := { program := "ythkcgeokfcbllaa", sum := "245e672ab93818f8f7dd457575b374efab5080ead3a5933f01c3adca46445221", func := "admission/admissionlaw01.DigestNodes", spec := "digestNodes", apart := false, narrowed := true }
def DigestNodesUptoSaid : Prop := digestNodesUptoRow.holds Try.pinned (OpenSpec.upto digestNodesSpec)

/-- 'admissionlaw01.DigestHalves', WHERE WHAT IT READS IS OF BULK AT MOST 1048576: true; the input reads as it did. -/
def digestHalvesUptoRow : OpenClaim := { program := "ythkcgeokfcbllaa", sum := "245e672ab93818f8f7dd457575b374efab5080ead3a5933f01c3adca46445221", func := "admission/admissionlaw01.DigestHalves", spec := "digestHalves", apart := false, narrowed := true }
def DigestHalvesUptoSaid : Prop := digestHalvesUptoRow.holds Try.pinned (OpenSpec.upto digestHalvesSpec)

/-- 'admissionlaw01.DigestTrees', WHERE WHAT IT READS IS OF BULK AT MOST 1048576: true; the input reads as it did. -/
def digestTreesUptoRow : OpenClaim := { program := "ythkcgeokfcbllaa", sum := "245e672ab93818f8f7dd457575b374efab5080ead3a5933f01c3adca46445221", func := "admission/admissionlaw01.DigestTrees", spec := "digestTrees", recurses := true, apart := false, narrowed := true }
def DigestTreesUptoSaid : Prop := digestTreesUptoRow.holds Try.pinned (OpenSpec.upto digestTreesSpec)

/-- 'admissionlaw01.DigestSplits', WHERE WHAT IT READS IS OF BULK AT MOST 1048576: true; the input reads as it did. -/
def digestSplitsUptoRow : OpenClaim := { program := "ythkcgeokfcbllaa", sum := "245e672ab93818f8f7dd457575b374efab5080ead3a5933f01c3adca46445221", func := "admission/admissionlaw01.DigestSplits", spec := "digestSplits", recurses := true, apart := false, narrowed := true }
def DigestSplitsUptoSaid : Prop := digestSplitsUptoRow.holds Try.pinned (OpenSpec.upto digestSplitsSpec)

/-- 'admissionlaw01.DigestTexts', WHERE WHAT IT READS IS OF BULK AT MOST 1048576: true; the input reads as it did. -/
def digestTextsUptoRow : OpenClaim := { program := "ythkcgeokfcbllaa", sum := "245e672ab93818f8f7dd457575b374efab5080ead3a5933f01c3adca46445221", func := "admission/admissionlaw01.DigestTexts", spec := "digestTexts", inPlace := ["internal/bytealg.IndexByteString", "internal/abi.NoEscape"], apart := false, narrowed := true }
def DigestTextsUptoSaid : Prop := digestTextsUptoRow.holds Try.pinned (OpenSpec.upto digestTextsSpec)

/-- 'admissionlaw01.DigestBack', WHERE WHAT IT READS IS OF BULK AT MOST 1048576: true; the input reads as it did. -/
def digestBackUptoRow : OpenClaim := { program := "ythkcgeokfcbllaa", sum := "245e672ab93818f8f7dd457575b374efab5080ead3a5933f01c3adca46445221", func := "admission/admissionlaw01.DigestBack", spec := "digestBack", inPlace := ["internal/abi.NoEscape", "internal/bytealg.IndexByteString"], apart := false, narrowed := true }
def DigestBackUptoSaid : Prop := digestBackUptoRow.holds Try.pinned (OpenSpec.upto digestBackSpec)

end Rows
end Go.Proofs.Ythkcgeokfcbllaa
