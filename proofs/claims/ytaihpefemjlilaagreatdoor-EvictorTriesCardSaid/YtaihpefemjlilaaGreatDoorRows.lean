/-
  NARROWER THAN 'FOR EVERY INPUT', by the rows' own cells (each row's printed sentence says how): EvictorTries: laid · EvictorChoice: laid · EvictorRound: laid · EvictorTwice: laid · EvictorCommands: laid · EvictorAllowed: laid · EvictorLimits: laid · EvictorWanted: laid · EvictorEnough: laid.
  DERIVED. THE GIVEN ROWS OF THIS SEAT. 9 by the template 'for every input the law returns true; each argument reads behind the call as it read before'; 0 by the template 'total and deterministic' (their statements: YtaihpefemjlilaaGreatDoorTotals.lean).
  GIVEN WITH THE SEED: the statements are not yours to turn. If you find one false, say at which input.
  Laid BY PROGRAM, IN A SANDBOX (cutbox-rows.mjs): the forced cells as the released guide's own fill.sh prints them over the translation 69d9f159e6b9f150… (all of the seat's roots in one cut). By AI agents, Wed Nov 11 2026. No macro, syntax, notation, axiom, sorry.
-/
import Derived.Test.YtaihpefemjlilaaGreatDoorChecked
import GoSem.PinnedTables
import GoSem.Claim
import GoSem.ClaimJoined
import GoSem.ClaimMapViews
import Derived.JoinedTies
import Derived.KernelRfl
namespace Go.Proofs.YtaihpefemjlilaaGreatDoor
/- THE CELL 'sum', in the pinned program and in every row, IS THE sha256 OF THE DUMP (.gsa) THAT YtaihpefemjlilaaGreatDoorProg.lean LOADS. Nothing in Lean hashes anything: it is a label: what it is worth is what the hold of that sum in a sandbox is worth. -/
noncomputable def Tryz.pinned : Pinned := { name := "ytaihpefemjlilaagreatdoor", sum := "69d9f159e6b9f150eb6acce377a53d90ab64be1a0a03189e3264c206c1dd7e69", checked := Tryz.checked }
namespace Rows
def none {H : Type} : Left H := { results := [], args := [] }

/- WHAT THE LISTED PACKAGE-LEVEL VARIABLES READ AS WHEN THE CALL BEGINS. Each datum BY PROGRAM (the guide's laid-datum.mjs) off the statement by which the dump's own 'gosem.cut.vars' lays the variable. In a bare row this is a premise. The card (YtaihpefemjlilaaGreatDoorCards.lean) ties it to the program's text. -/
def laid_unicode_utf8_acceptRanges {H : Type} : DataW H := .agg [.agg [.lit (.int .u8 128), .lit (.int .u8 191)], .agg [.lit (.int .u8 160), .lit (.int .u8 191)], .agg [.lit (.int .u8 128), .lit (.int .u8 159)], .agg [.lit (.int .u8 144), .lit (.int .u8 191)], .agg [.lit (.int .u8 128), .lit (.int .u8 143)], .agg [.lit (.int .u8 0), .lit (.int .u8 0)], .agg [.lit (.int .u8 0), .lit (.int .u8 0)], .agg [.lit (.int .u8 0), .lit (.int .u8 0)], .agg [.lit (.int .u8 0), .lit (.int .u8 0)], .agg [.lit (.int .u8 0), .lit (.int .u8 0)], .agg [.lit (.int .u8 0), .lit (.int .u8 0)], .agg [.lit (.int .u8 0), .lit (.int .u8 0)], .agg [.lit (.int .u8 0), .lit (.int .u8 0)], .agg [.lit (.int .u8 0), .lit (.int .u8 0)], .agg [.lit (.int .u8 0), .lit (.int .u8 0)], .agg [.lit (.int .u8 0), .lit (.int .u8 0)]]
/-- One of Go's own tables, pinned by name: the form's constant. -/
def laid_unicode_utf8_first : DataW Unit := Go.Pinned.utf8First

/-- 'admissionlaw39.EvictorTries': WHATEVER THE INPUT: true; the input reads as it did. -/
def evictorTriesSpec : ChangeSpec := { name := "evictorTries", fn := fun _ => fun
  | [d] => { results := [.lit (.bool true)], args := [d] }
  | _ => none }
def evictorTriesRow : OpenClaim := { program := "ytaihpefemjlilaagreatdoor", sum := "69d9f159e6b9f150eb6acce377a53d90ab64be1a0a03189e3264c206c1dd7e69", func := "admission/admissionlaw39.EvictorTries", spec := "evictorTries", inPlace := ["internal/bytealg.CountString", "internal/bytealg.IndexByteString", "internal/bytealg.IndexString", "internal/bytealg.Compare", "slices.overlaps[admission/api.Try]"], unfollowed := true, recurses := true, named := ["unicode/utf8.first", "unicode/utf8.acceptRanges", "internal/bytealg.MaxLen"], apart := false, laid := [("unicode/utf8.acceptRanges", laid_unicode_utf8_acceptRanges), ("unicode/utf8.first", laid_unicode_utf8_first)] }
def EvictorTriesSaid : Prop := evictorTriesRow.holds Tryz.pinned (OpenSpec.ofChange evictorTriesSpec)

/-- ITS FALSE NEIGHBOUR: 'it returns false'. Refute it at one input. -/
def evictorTriesWrong : ChangeSpec := { name := "evictorTries", fn := fun _ => fun
  | [d] => { results := [.lit (.bool false)], args := [d] }
  | _ => none }
def EvictorTriesWrongFalsely : Prop := evictorTriesRow.holds Tryz.pinned (OpenSpec.ofChange evictorTriesWrong)

/-- 'admissionlaw39.EvictorChoice': WHATEVER THE INPUT: true; the input reads as it did. -/
def evictorChoiceSpec : ChangeSpec := { name := "evictorChoice", fn := fun _ => fun
  | [d1, d2] => { results := [.lit (.bool true)], args := [d1, d2] }
  | _ => none }
def evictorChoiceRow : OpenClaim := { program := "ytaihpefemjlilaagreatdoor", sum := "69d9f159e6b9f150eb6acce377a53d90ab64be1a0a03189e3264c206c1dd7e69", func := "admission/admissionlaw39.EvictorChoice", spec := "evictorChoice", inPlace := ["internal/bytealg.CountString", "internal/bytealg.IndexByteString", "internal/bytealg.IndexString", "internal/bytealg.Compare", "slices.overlaps[admission/api.Try]"], unfollowed := true, recurses := true, named := ["unicode/utf8.first", "unicode/utf8.acceptRanges", "internal/bytealg.MaxLen"], apart := false, laid := [("unicode/utf8.acceptRanges", laid_unicode_utf8_acceptRanges), ("unicode/utf8.first", laid_unicode_utf8_first)] }
def EvictorChoiceSaid : Prop := evictorChoiceRow.holds Tryz.pinned (OpenSpec.ofChange evictorChoiceSpec)

/-- ITS FALSE NEIGHBOUR: 'it returns false'. Refute it at one input. -/
def evictorChoiceWrong : ChangeSpec := { name := "evictorChoice", fn := fun _ => fun
  | [d1, d2] => { results := [.lit (.bool false)], args := [d1, d2] }
  | _ => none }
def EvictorChoiceWrongFalsely : Prop := evictorChoiceRow.holds Tryz.pinned (OpenSpec.ofChange evictorChoiceWrong)

/-- 'admissionlaw39.EvictorRound': WHATEVER THE INPUT: true; the input reads as it did. -/
def evictorRoundSpec : ChangeSpec := { name := "evictorRound", fn := fun _ => fun
  | [d1, d2] => { results := [.lit (.bool true)], args := [d1, d2] }
  | _ => none }
def evictorRoundRow : OpenClaim := { program := "ytaihpefemjlilaagreatdoor", sum := "69d9f159e6b9f150eb6acce377a53d90ab64be1a0a03189e3264c206c1dd7e69", func := "admission/admissionlaw39.EvictorRound", spec := "evictorRound", inPlace := ["internal/bytealg.CountString", "internal/bytealg.IndexByteString", "internal/bytealg.IndexString", "internal/bytealg.Compare", "slices.overlaps[admission/api.Try]"], unfollowed := true, recurses := true, named := ["unicode/utf8.first", "unicode/utf8.acceptRanges", "internal/bytealg.MaxLen"], apart := false, laid := [("unicode/utf8.acceptRanges", laid_unicode_utf8_acceptRanges), ("unicode/utf8.first", laid_unicode_utf8_first)] }
def EvictorRoundSaid : Prop := evictorRoundRow.holds Tryz.pinned (OpenSpec.ofChange evictorRoundSpec)

/-- ITS FALSE NEIGHBOUR: 'it returns false'. Refute it at one input. -/
def evictorRoundWrong : ChangeSpec := { name := "evictorRound", fn := fun _ => fun
  | [d1, d2] => { results := [.lit (.bool false)], args := [d1, d2] }
  | _ => none }
def EvictorRoundWrongFalsely : Prop := evictorRoundRow.holds Tryz.pinned (OpenSpec.ofChange evictorRoundWrong)

/-- 'admissionlaw39.EvictorTwice': WHATEVER THE INPUT: true; the input reads as it did. -/
def evictorTwiceSpec : ChangeSpec := { name := "evictorTwice", fn := fun _ => fun
  | [d] => { results := [.lit (.bool true)], args := [d] }
  | _ => none }
def evictorTwiceRow : OpenClaim := { program := "ytaihpefemjlilaagreatdoor", sum := "69d9f159e6b9f150eb6acce377a53d90ab64be1a0a03189e3264c206c1dd7e69", func := "admission/admissionlaw39.EvictorTwice", spec := "evictorTwice", inPlace := ["internal/bytealg.CountString", "internal/bytealg.IndexByteString", "internal/bytealg.IndexString", "internal/bytealg.Compare", "slices.overlaps[admission/api.Try]"], unfollowed := true, recurses := true, named := ["unicode/utf8.first", "unicode/utf8.acceptRanges", "internal/bytealg.MaxLen"], apart := false, laid := [("unicode/utf8.acceptRanges", laid_unicode_utf8_acceptRanges), ("unicode/utf8.first", laid_unicode_utf8_first)] }
def EvictorTwiceSaid : Prop := evictorTwiceRow.holds Tryz.pinned (OpenSpec.ofChange evictorTwiceSpec)

/-- ITS FALSE NEIGHBOUR: 'it returns false'. Refute it at one input. -/
def evictorTwiceWrong : ChangeSpec := { name := "evictorTwice", fn := fun _ => fun
  | [d] => { results := [.lit (.bool false)], args := [d] }
  | _ => none }
def EvictorTwiceWrongFalsely : Prop := evictorTwiceRow.holds Tryz.pinned (OpenSpec.ofChange evictorTwiceWrong)

/-- 'admissionlaw39.EvictorCommands': WHATEVER THE INPUT: true; the input reads as it did. -/
def evictorCommandsSpec : ChangeSpec := { name := "evictorCommands", fn := fun _ => fun
  | [d] => { results := [.lit (.bool true)], args := [d] }
  | _ => none }
def evictorCommandsRow : OpenClaim := { program := "ytaihpefemjlilaagreatdoor", sum := "69d9f159e6b9f150eb6acce377a53d90ab64be1a0a03189e3264c206c1dd7e69", func := "admission/admissionlaw39.EvictorCommands", spec := "evictorCommands", inPlace := ["internal/bytealg.CountString", "internal/bytealg.IndexByteString", "internal/bytealg.IndexString", "internal/bytealg.Compare", "slices.overlaps[admission/api.Try]"], unfollowed := true, recurses := true, named := ["unicode/utf8.first", "unicode/utf8.acceptRanges", "internal/bytealg.MaxLen"], apart := false, laid := [("unicode/utf8.acceptRanges", laid_unicode_utf8_acceptRanges), ("unicode/utf8.first", laid_unicode_utf8_first)] }
def EvictorCommandsSaid : Prop := evictorCommandsRow.holds Tryz.pinned (OpenSpec.ofChange evictorCommandsSpec)

/-- ITS FALSE NEIGHBOUR: 'it returns false'. Refute it at one input. -/
def evictorCommandsWrong : ChangeSpec := { name := "evictorCommands", fn := fun _ => fun
  | [d] => { results := [.lit (.bool false)], args := [d] }
  | _ => none }
def EvictorCommandsWrongFalsely : Prop := evictorCommandsRow.holds Tryz.pinned (OpenSpec.ofChange evictorCommandsWrong)

/-- 'admissionlaw39.EvictorAllowed': WHATEVER THE INPUT: true; the input reads as it did. -/
def evictorAllowedSpec : ChangeSpec := { name := "evictorAllowed", fn := fun _ => fun
  | [d] => { results := [.lit (.bool true)], args := [d] }
  | _ => none }
def evictorAllowedRow : OpenClaim := { program := "ytaihpefemjlilaagreatdoor", sum := "69d9f159e6b9f150eb6acce377a53d90ab64be1a0a03189e3264c206c1dd7e69", func := "admission/admissionlaw39.EvictorAllowed", spec := "evictorAllowed", inPlace := ["internal/bytealg.CountString", "internal/bytealg.IndexByteString", "internal/bytealg.IndexString", "internal/bytealg.Compare", "slices.overlaps[admission/api.Try]"], unfollowed := true, recurses := true, named := ["unicode/utf8.first", "unicode/utf8.acceptRanges", "internal/bytealg.MaxLen"], apart := false, laid := [("unicode/utf8.acceptRanges", laid_unicode_utf8_acceptRanges), ("unicode/utf8.first", laid_unicode_utf8_first)] }
def EvictorAllowedSaid : Prop := evictorAllowedRow.holds Tryz.pinned (OpenSpec.ofChange evictorAllowedSpec)

/-- ITS FALSE NEIGHBOUR: 'it returns false'. Refute it at one input. -/
def evictorAllowedWrong : ChangeSpec := { name := "evictorAllowed", fn := fun _ => fun
  | [d] => { results := [.lit (.bool false)], args := [d] }
  | _ => none }
def EvictorAllowedWrongFalsely : Prop := evictorAllowedRow.holds Tryz.pinned (OpenSpec.ofChange evictorAllowedWrong)

/-- 'admissionlaw39.EvictorLimits': WHATEVER THE INPUT: true; the input reads as it did. -/
def evictorLimitsSpec : ChangeSpec := { name := "evictorLimits", fn := fun _ => fun
  | [d] => { results := [.lit (.bool true)], args := [d] }
  | _ => none }
def evictorLimitsRow : OpenClaim := { program := "ytaihpefemjlilaagreatdoor", sum := "69d9f159e6b9f150eb6acce377a53d90ab64be1a0a03189e3264c206c1dd7e69", func := "admission/admissionlaw39.EvictorLimits", spec := "evictorLimits", inPlace := ["internal/bytealg.CountString", "internal/bytealg.IndexByteString", "internal/bytealg.IndexString", "internal/bytealg.Compare", "slices.overlaps[admission/api.Try]"], unfollowed := true, recurses := true, named := ["unicode/utf8.first", "unicode/utf8.acceptRanges", "internal/bytealg.MaxLen"], apart := false, laid := [("unicode/utf8.acceptRanges", laid_unicode_utf8_acceptRanges), ("unicode/utf8.first", laid_unicode_utf8_first)] }
def EvictorLimitsSaid : Prop := evictorLimitsRow.holds Tryz.pinned (OpenSpec.ofChange evictorLimitsSpec)

/-- ITS FALSE NEIGHBOUR: 'it returns false'. Refute it at one input. -/
def evictorLimitsWrong : ChangeSpec := { name := "evictorLimits", fn := fun _ => fun
  | [d] => { results := [.lit (.bool false)], args := [d] }
  | _ => none }
def EvictorLimitsWrongFalsely : Prop := evictorLimitsRow.holds Tryz.pinned (OpenSpec.ofChange evictorLimitsWrong)

/-- 'admissionlaw39.EvictorWanted': WHATEVER THE INPUT: true; the input reads as it did. -/
def evictorWantedSpec : ChangeSpec := { name := "evictorWanted", fn := fun _ => fun
  | [d] => { results := [.lit (.bool true)], args := [d] }
  | _ => none }
def evictorWantedRow : OpenClaim := { program := "ytaihpefemjlilaagreatdoor", sum := "69d9f159e6b9f150eb6acce377a53d90ab64be1a0a03189e3264c206c1dd7e69", func := "admission/admissionlaw39.EvictorWanted", spec := "evictorWanted", inPlace := ["internal/bytealg.CountString", "internal/bytealg.IndexByteString", "internal/bytealg.IndexString", "internal/bytealg.Compare", "slices.overlaps[admission/api.Try]"], unfollowed := true, recurses := true, named := ["unicode/utf8.first", "unicode/utf8.acceptRanges", "internal/bytealg.MaxLen"], apart := false, laid := [("unicode/utf8.acceptRanges", laid_unicode_utf8_acceptRanges), ("unicode/utf8.first", laid_unicode_utf8_first)] }
def EvictorWantedSaid : Prop := evictorWantedRow.holds Tryz.pinned (OpenSpec.ofChange evictorWantedSpec)

/-- ITS FALSE NEIGHBOUR: 'it returns false'. Refute it at one input. -/
def evictorWantedWrong : ChangeSpec := { name := "evictorWanted", fn := fun _ => fun
  | [d] => { results := [.lit (.bool false)], args := [d] }
  | _ => none }
def EvictorWantedWrongFalsely : Prop := evictorWantedRow.holds Tryz.pinned (OpenSpec.ofChange evictorWantedWrong)

/-- 'admissionlaw39.EvictorEnough': WHATEVER THE INPUT: true; the input reads as it did. -/
def evictorEnoughSpec : ChangeSpec := { name := "evictorEnough", fn := fun _ => fun
  | [d] => { results := [.lit (.bool true)], args := [d] }
  | _ => none }
def evictorEnoughRow : OpenClaim := { program := "ytaihpefemjlilaagreatdoor", sum := "69d9f159e6b9f150eb6acce377a53d90ab64be1a0a03189e3264c206c1dd7e69", func := "admission/admissionlaw39.EvictorEnough", spec := "evictorEnough", inPlace := ["internal/bytealg.CountString", "internal/bytealg.IndexByteString", "internal/bytealg.IndexString", "internal/bytealg.Compare", "slices.overlaps[admission/api.Try]"], unfollowed := true, recurses := true, named := ["unicode/utf8.first", "unicode/utf8.acceptRanges", "internal/bytealg.MaxLen"], apart := false, laid := [("unicode/utf8.acceptRanges", laid_unicode_utf8_acceptRanges), ("unicode/utf8.first", laid_unicode_utf8_first)] }
def EvictorEnoughSaid : Prop := evictorEnoughRow.holds Tryz.pinned (OpenSpec.ofChange evictorEnoughSpec)

/-- ITS FALSE NEIGHBOUR: 'it returns false'. Refute it at one input. -/
def evictorEnoughWrong : ChangeSpec := { name := "evictorEnough", fn := fun _ => fun
  | [d] => { results := [.lit (.bool false)], args := [d] }
  | _ => none }
def EvictorEnoughWrongFalsely : Prop := evictorEnoughRow.holds Tryz.pinned (OpenSpec.ofChange evictorEnoughWrong)

/- THE SECOND FORM. 'bulk': how many values and letters a reading holds, each counted each time it is reached (what is shared counts as often as it is met; a slice's spare places count too). A statement '..UptoSaid' is the law's where the arguments, and the package variables that the reading takes, are together of bulk at most 1048576: NARROWER than '..Said'. Prove '..Said' where nothing that the law and all that it calls make is longer than what came in: it says more and counts as full. Else prove '..UptoSaid'. A law counts once. -/
mutual
def uptoBulk {H : Type} : DataW H → Nat
  | .lit (.string bytes) => bytes.length + 1
  | .lit _ => 1
  | .nil => 1
  | .ptr d => uptoBulk d + 1
  | .slice elems spare => uptoBulkAll elems + uptoBulkAll spare + 1
  | .agg parts => uptoBulkAll parts + 1
  | .iface _ d => uptoBulk d + 1
  | .map entries => uptoBulkEntries entries + 1
  | .held _ => 1
def uptoBulkAll {H : Type} : List (DataW H) → Nat
  | [] => 0
  | d :: r => uptoBulk d + uptoBulkAll r
def uptoBulkEntries {H : Type} : List (Lit × DataW H) → Nat
  | [] => 0
  | x :: r => uptoBulkEntry x + uptoBulkEntries r
def uptoBulkEntry {H : Type} : Lit × DataW H → Nat
  | (.string bytes, d) => bytes.length + uptoBulk d + 1
  | (_, d) => uptoBulk d + 1
 end
def uptoSmall : (H : Type) → List (DataW H) → Bool := fun _ ds => decide (uptoBulkAll ds ≤ 1048576)
def OpenSpec.upto (s : _root_.Go.ChangeSpec) : _root_.Go.OpenSpec := { _root_.Go.OpenSpec.ofChange s with cond := some uptoSmall }

/-- 'admissionlaw39.EvictorTries', WHERE WHAT IT READS IS OF BULK AT MOST 1048576: true; the input reads as it did. -/
def evictorTriesUptoRow : OpenClaim := { program := "ytaihpefemjlilaagreatdoor", sum := "69d9f159e6b9f150eb6acce377a53d90ab64be1a0a03189e3264c206c1dd7e69", func := "admission/admissionlaw39.EvictorTries", spec := "evictorTries", inPlace := ["internal/bytealg.CountString", "internal/bytealg.IndexByteString", "internal/bytealg.IndexString", "internal/bytealg.Compare", "slices.overlaps[admission/api.Try]"], unfollowed := true, recurses := true, named := ["unicode/utf8.first", "unicode/utf8.acceptRanges", "internal/bytealg.MaxLen"], apart := false, laid := [("unicode/utf8.acceptRanges", laid_unicode_utf8_acceptRanges), ("unicode/utf8.first", laid_unicode_utf8_first)], narrowed := true }
def EvictorTriesUptoSaid : Prop := evictorTriesUptoRow.holds Tryz.pinned (OpenSpec.upto evictorTriesSpec)

/-- 'admissionlaw39.EvictorChoice', WHERE WHAT IT READS IS OF BULK AT MOST 1048576: true; the input reads as it did. -/
def evictorChoiceUptoRow : OpenClaim := { program := "ytaihpefemjlilaagreatdoor", sum := "69d9f159e6b9f150eb6acce377a53d90ab64be1a0a03189e3264c206c1dd7e69", func := "admission/admissionlaw39.EvictorChoice", spec := "evictorChoice", inPlace := ["internal/bytealg.CountString", "internal/bytealg.IndexByteString", "internal/bytealg.IndexString", "internal/bytealg.Compare", "slices.overlaps[admission/api.Try]"], unfollowed := true, recurses := true, named := ["unicode/utf8.first", "unicode/utf8.acceptRanges", "internal/bytealg.MaxLen"], apart := false, laid := [("unicode/utf8.acceptRanges", laid_unicode_utf8_acceptRanges), ("unicode/utf8.first", laid_unicode_utf8_first)], narrowed := true }
def EvictorChoiceUptoSaid : Prop := evictorChoiceUptoRow.holds Tryz.pinned (OpenSpec.upto evictorChoiceSpec)

/-- 'admissionlaw39.EvictorRound', WHERE WHAT IT READS IS OF BULK AT MOST 1048576: true; the input reads as it did. -/
def evictorRoundUptoRow : OpenClaim := { program := "ytaihpefemjlilaagreatdoor", sum := "69d9f159e6b9f150eb6acce377a53d90ab64be1a0a03189e3264c206c1dd7e69", func := "admission/admissionlaw39.EvictorRound", spec := "evictorRound", inPlace := ["internal/bytealg.CountString", "internal/bytealg.IndexByteString", "internal/bytealg.IndexString", "internal/bytealg.Compare", "slices.overlaps[admission/api.Try]"], unfollowed := true, recurses := true, named := ["unicode/utf8.first", "unicode/utf8.acceptRanges", "internal/bytealg.MaxLen"], apart := false, laid := [("unicode/utf8.acceptRanges", laid_unicode_utf8_acceptRanges), ("unicode/utf8.first", laid_unicode_utf8_first)], narrowed := true }
def EvictorRoundUptoSaid : Prop := evictorRoundUptoRow.holds Tryz.pinned (OpenSpec.upto evictorRoundSpec)

/-- 'admissionlaw39.EvictorTwice', WHERE WHAT IT READS IS OF BULK AT MOST 1048576: true; the input reads as it did. -/
def evictorTwiceUptoRow : OpenClaim := { program := "ytaihpefemjlilaagreatdoor", sum := "69d9f159e6b9f150eb6acce377a53d90ab64be1a0a03189e3264c206c1dd7e69", func := "admission/admissionlaw39.EvictorTwice", spec := "evictorTwice", inPlace := ["internal/bytealg.CountString", "internal/bytealg.IndexByteString", "internal/bytealg.IndexString", "internal/bytealg.Compare", "slices.overlaps[admission/api.Try]"], unfollowed := true, recurses := true, named := ["unicode/utf8.first", "unicode/utf8.acceptRanges", "internal/bytealg.MaxLen"], apart := false, laid := [("unicode/utf8.acceptRanges", laid_unicode_utf8_acceptRanges), ("unicode/utf8.first", laid_unicode_utf8_first)], narrowed := true }
def EvictorTwiceUptoSaid : Prop := evictorTwiceUptoRow.holds Tryz.pinned (OpenSpec.upto evictorTwiceSpec)

/-- 'admissionlaw39.EvictorCommands', WHERE WHAT IT READS IS OF BULK AT MOST 1048576: true; the input reads as it did. -/
def evictorCommandsUptoRow : OpenClaim := { program := "ytaihpefemjlilaagreatdoor", sum := "69d9f159e6b9f150eb6acce377a53d90ab64be1a0a03189e3264c206c1dd7e69", func := "admission/admissionlaw39.EvictorCommands", spec := "evictorCommands", inPlace := ["internal/bytealg.CountString", "internal/bytealg.IndexByteString", "internal/bytealg.IndexString", "internal/bytealg.Compare", "slices.overlaps[admission/api.Try]"], unfollowed := true, recurses := true, named := ["unicode/utf8.first", "unicode/utf8.acceptRanges", "internal/bytealg.MaxLen"], apart := false, laid := [("unicode/utf8.acceptRanges", laid_unicode_utf8_acceptRanges), ("unicode/utf8.first", laid_unicode_utf8_first)], narrowed := true }
def EvictorCommandsUptoSaid : Prop := evictorCommandsUptoRow.holds Tryz.pinned (OpenSpec.upto evictorCommandsSpec)

/-- 'admissionlaw39.EvictorAllowed', WHERE WHAT IT READS IS OF BULK AT MOST 1048576: true; the input reads as it did. -/
def evictorAllowedUptoRow : OpenClaim := { program := "ytaihpefemjlilaagreatdoor", sum := "69d9f159e6b9f150eb6acce377a53d90ab64be1a0a03189e3264c206c1dd7e69", func := "admission/admissionlaw39.EvictorAllowed", spec := "evictorAllowed", inPlace := ["internal/bytealg.CountString", "internal/bytealg.IndexByteString", "internal/bytealg.IndexString", "internal/bytealg.Compare", "slices.overlaps[admission/api.Try]"], unfollowed := true, recurses := true, named := ["unicode/utf8.first", "unicode/utf8.acceptRanges", "internal/bytealg.MaxLen"], apart := false, laid := [("unicode/utf8.acceptRanges", laid_unicode_utf8_acceptRanges), ("unicode/utf8.first", laid_unicode_utf8_first)], narrowed := true }
def EvictorAllowedUptoSaid : Prop := evictorAllowedUptoRow.holds Tryz.pinned (OpenSpec.upto evictorAllowedSpec)

/-- 'admissionlaw39.EvictorLimits', WHERE WHAT IT READS IS OF BULK AT MOST 1048576: true; the input reads as it did. -/
def evictorLimitsUptoRow : OpenClaim := { program := "ytaihpefemjlilaagreatdoor", sum := "69d9f159e6b9f150eb6acce377a53d90ab64be1a0a03189e3264c206c1dd7e69", func := "admission/admissionlaw39.EvictorLimits", spec := "evictorLimits", inPlace := ["internal/bytealg.CountString", "internal/bytealg.IndexByteString", "internal/bytealg.IndexString", "internal/bytealg.Compare", "slices.overlaps[admission/api.Try]"], unfollowed := true, recurses := true, named := ["unicode/utf8.first", "unicode/utf8.acceptRanges", "internal/bytealg.MaxLen"], apart := false, laid := [("unicode/utf8.acceptRanges", laid_unicode_utf8_acceptRanges), ("unicode/utf8.first", laid_unicode_utf8_first)], narrowed := true }
def EvictorLimitsUptoSaid : Prop := evictorLimitsUptoRow.holds Tryz.pinned (OpenSpec.upto evictorLimitsSpec)

/-- 'admissionlaw39.EvictorWanted', WHERE WHAT IT READS IS OF BULK AT MOST 1048576: true; the input reads as it did. -/
def evictorWantedUptoRow : OpenClaim := { program := "ytaihpefemjlilaagreatdoor", sum := "69d9f159e6b9f150eb6acce377a53d90ab64be1a0a03189e3264c206c1dd7e69", func := "admission/admissionlaw39.EvictorWanted", spec := "evictorWanted", inPlace := ["internal/bytealg.CountString", "internal/bytealg.IndexByteString", "internal/bytealg.IndexString", "internal/bytealg.Compare", "slices.overlaps[admission/api.Try]"], unfollowed := true, recurses := true, named := ["unicode/utf8.first", "unicode/utf8.acceptRanges", "internal/bytealg.MaxLen"], apart := false, laid := [("unicode/utf8.acceptRanges", laid_unicode_utf8_acceptRanges), ("unicode/utf8.first", laid_unicode_utf8_first)], narrowed := true }
def EvictorWantedUptoSaid : Prop := evictorWantedUptoRow.holds Tryz.pinned (OpenSpec.upto evictorWantedSpec)

/-- 'admissionlaw39.EvictorEnough', WHERE WHAT IT READS IS OF BULK AT MOST 1048576: true; the input reads as it did. -/
def evictorEnoughUptoRow : OpenClaim := { program := "ytaihpefemjlilaagreatdoor", sum := "69d9f159e6b9f150eb6acce377a53d90ab64be1a0a03189e3264c206c1dd7e69", func := "admission/admissionlaw39.EvictorEnough", spec := "evictorEnough", inPlace := ["internal/bytealg.CountString", "internal/bytealg.IndexByteString", "internal/bytealg.IndexString", "internal/bytealg.Compare", "slices.overlaps[admission/api.Try]"], unfollowed := true, recurses := true, named := ["unicode/utf8.first", "unicode/utf8.acceptRanges", "internal/bytealg.MaxLen"], apart := false, laid := [("unicode/utf8.acceptRanges", laid_unicode_utf8_acceptRanges), ("unicode/utf8.first", laid_unicode_utf8_first)], narrowed := true }
def EvictorEnoughUptoSaid : Prop := evictorEnoughUptoRow.holds Tryz.pinned (OpenSpec.upto evictorEnoughSpec)

end Rows
end Go.Proofs.YtaihpefemjlilaaGreatDoor
