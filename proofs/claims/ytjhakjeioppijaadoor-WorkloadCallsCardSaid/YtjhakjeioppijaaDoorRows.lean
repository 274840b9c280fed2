/-
  NARROWER THAN 'FOR EVERY INPUT', by the rows' own cells (each row's printed sentence says how): WorkloadValid: laid · WorkloadChanged: laid · WorkloadMark: laid · WorkloadFresh: laid · WorkloadCalls: laid · WorkloadRaw: laid · DisruptionCounts: laid · DisruptionOverdue: laid · DisruptionVictims: laid · DisruptionFirst: laid · DisruptionLater: laid · DisruptionRoom: laid.
  DERIVED. THE GIVEN ROWS OF THIS SEAT. 12 by the template 'for every input the law returns true; each argument reads behind the call as it read before'; 0 by the template 'total and deterministic' (their statements: YtjhakjeioppijaaDoorTotals.lean).
  GIVEN WITH THE SEED: the statements are not yours to turn. If you find one false, say at which input.
  Laid BY PROGRAM, IN A SANDBOX (cutbox-rows.mjs): the forced cells as the released guide's own fill.sh prints them over the translation 0986ceeec09dc9dc… (all of the seat's roots in one cut). By AI agents, Wed Nov 11 2026. No macro, syntax, notation, axiom, sorry.
-/
import Derived.Test.YtjhakjeioppijaaDoorChecked
import GoSem.PinnedTables
import GoSem.Claim
import GoSem.ClaimJoined
import GoSem.ClaimMapViews
import Derived.JoinedTies
import Derived.KernelRfl
namespace Go.Proofs.YtjhakjeioppijaaDoor
/- THE CELL 'sum', in the pinned program and in every row, IS THE sha256 OF THE DUMP (.gsa) THAT YtjhakjeioppijaaDoorProg.lean LOADS. Nothing in Lean hashes anything: it is a label: what it is worth is what the hold of that sum in a sandbox is worth. -/
noncomputable def Tryd.pinned : Pinned := { name := "ytjhakjeioppijaadoor", sum := "0986ceeec09dc9dc52ccfbe9db2f500e2a2cf603dabec0192778c4c240e4f1a4", checked := Tryd.checked }
namespace Rows
def none {H : Type} : Left H := { results := [], args := [] }

/- WHAT THE LISTED PACKAGE-LEVEL VARIABLES READ AS WHEN THE CALL BEGINS. Each datum BY PROGRAM (the guide's laid-datum.mjs) off the statement by which the dump's own 'gosem.cut.vars' lays the variable. In a bare row this is a premise. The card (YtjhakjeioppijaaDoorCards.lean) ties it to the program's text. -/
def laid_unicode_utf8_acceptRanges {H : Type} : DataW H := .agg [.agg [.lit (.int .u8 128), .lit (.int .u8 191)], .agg [.lit (.int .u8 160), .lit (.int .u8 191)], .agg [.lit (.int .u8 128), .lit (.int .u8 159)], .agg [.lit (.int .u8 144), .lit (.int .u8 191)], .agg [.lit (.int .u8 128), .lit (.int .u8 143)], .agg [.lit (.int .u8 0), .lit (.int .u8 0)], .agg [.lit (.int .u8 0), .lit (.int .u8 0)], .agg [.lit (.int .u8 0), .lit (.int .u8 0)], .agg [.lit (.int .u8 0), .lit (.int .u8 0)], .agg [.lit (.int .u8 0), .lit (.int .u8 0)], .agg [.lit (.int .u8 0), .lit (.int .u8 0)], .agg [.lit (.int .u8 0), .lit (.int .u8 0)], .agg [.lit (.int .u8 0), .lit (.int .u8 0)], .agg [.lit (.int .u8 0), .lit (.int .u8 0)], .agg [.lit (.int .u8 0), .lit (.int .u8 0)], .agg [.lit (.int .u8 0), .lit (.int .u8 0)]]
/-- One of Go's own tables, pinned by name: the form's constant. -/
def laid_unicode_utf8_first : DataW Unit := Go.Pinned.utf8First

/-- 'admissionlaw37.WorkloadValid': WHATEVER THE INPUT: true; the input reads as it did. -/
def workloadValidSpec : ChangeSpec := { name := "workloadValid", fn := fun _ => fun
  | [d1, d2, d3, d4, d5] => { results := [.lit (.bool true)], args := [d1, d2, d3, d4, d5] }
  | _ => none }
def workloadValidRow : OpenClaim := { program := "ytjhakjeioppijaadoor", sum := "0986ceeec09dc9dc52ccfbe9db2f500e2a2cf603dabec0192778c4c240e4f1a4", func := "admission/admissionlaw37.WorkloadValid", spec := "workloadValid", inPlace := ["internal/bytealg.IndexByteString", "internal/bytealg.IndexString", "internal/bytealg.CountString"], unfollowed := true, recurses := true, named := ["internal/bytealg.MaxLen", "unicode/utf8.first", "unicode/utf8.acceptRanges"], apart := false, laid := [("unicode/utf8.acceptRanges", laid_unicode_utf8_acceptRanges), ("unicode/utf8.first", laid_unicode_utf8_first)] }
def WorkloadValidSaid : Prop := workloadValidRow.holds Tryd.pinned (OpenSpec.ofChange workloadValidSpec)

/-- ITS FALSE NEIGHBOUR: 'it returns false'. Refute it at one input. -/
def workloadValidWrong : ChangeSpec := { name := "workloadValid", fn := fun _ => fun
  | [d1, d2, d3, d4, d5] => { results := [.lit (.bool false)], args := [d1, d2, d3, d4, d5] }
  | _ => none }
def WorkloadValidWrongFalsely : Prop := workloadValidRow.holds Tryd.pinned (OpenSpec.ofChange workloadValidWrong)

/-- 'admissionlaw37.WorkloadChanged': WHATEVER THE INPUT: true; the input reads as it did. -/
def workloadChangedSpec : ChangeSpec := { name := "workloadChanged", fn := fun _ => fun
  | [d1, d2, d3, d4] => { results := [.lit (.bool true)], args := [d1, d2, d3, d4] }
  | _ => none }
def workloadChangedRow : OpenClaim := { program := "ytjhakjeioppijaadoor", sum := "0986ceeec09dc9dc52ccfbe9db2f500e2a2cf603dabec0192778c4c240e4f1a4", func := "admission/admissionlaw37.WorkloadChanged", spec := "workloadChanged", inPlace := ["internal/bytealg.CountString", "internal/bytealg.IndexByteString", "internal/bytealg.IndexString"], unfollowed := true, recurses := true, named := ["unicode/utf8.first", "unicode/utf8.acceptRanges", "internal/bytealg.MaxLen"], apart := false, laid := [("unicode/utf8.acceptRanges", laid_unicode_utf8_acceptRanges), ("unicode/utf8.first", laid_unicode_utf8_first)] }
def WorkloadChangedSaid : Prop := workloadChangedRow.holds Tryd.pinned (OpenSpec.ofChange workloadChangedSpec)

/-- ITS FALSE NEIGHBOUR: 'it returns false'. Refute it at one input. -/
def workloadChangedWrong : ChangeSpec := { name := "workloadChanged", fn := fun _ => fun
  | [d1, d2, d3, d4] => { results := [.lit (.bool false)], args := [d1, d2, d3, d4] }
  | _ => none }
def WorkloadChangedWrongFalsely : Prop := workloadChangedRow.holds Tryd.pinned (OpenSpec.ofChange workloadChangedWrong)

/-- 'admissionlaw37.WorkloadMark': WHATEVER THE INPUT: true; the input reads as it did. -/
def workloadMarkSpec : ChangeSpec := { name := "workloadMark", fn := fun _ => fun
  | [d1, d2, d3, d4, d5] => { results := [.lit (.bool true)], args := [d1, d2, d3, d4, d5] }
  | _ => none }
def workloadMarkRow : OpenClaim := { program := "ytjhakjeioppijaadoor", sum := "0986ceeec09dc9dc52ccfbe9db2f500e2a2cf603dabec0192778c4c240e4f1a4", func := "admission/admissionlaw37.WorkloadMark", spec := "workloadMark", inPlace := ["internal/bytealg.CountString", "internal/bytealg.IndexByteString", "internal/bytealg.IndexString"], unfollowed := true, recurses := true, named := ["unicode/utf8.first", "unicode/utf8.acceptRanges", "internal/bytealg.MaxLen"], apart := false, laid := [("unicode/utf8.acceptRanges", laid_unicode_utf8_acceptRanges), ("unicode/utf8.first", laid_unicode_utf8_first)] }
def WorkloadMarkSaid : Prop := workloadMarkRow.holds Tryd.pinned (OpenSpec.ofChange workloadMarkSpec)

/-- ITS FALSE NEIGHBOUR: 'it returns false'. Refute it at one input. -/
def workloadMarkWrong : ChangeSpec := { name := "workloadMark", fn := fun _ => fun
  | [d1, d2, d3, d4, d5] => { results := [.lit (.bool false)], args := [d1, d2, d3, d4, d5] }
  | _ => none }
def WorkloadMarkWrongFalsely : Prop := workloadMarkRow.holds Tryd.pinned (OpenSpec.ofChange workloadMarkWrong)

/-- 'admissionlaw37.WorkloadFresh': WHATEVER THE INPUT: true; the input reads as it did. -/
def workloadFreshSpec : ChangeSpec := { name := "workloadFresh", fn := fun _ => fun
  | [d] => { results := [.lit (.bool true)], args := [d] }
  | _ => none }
def workloadFreshRow : OpenClaim := { program := "ytjhakjeioppijaadoor", sum := "0986ceeec09dc9dc52ccfbe9db2f500e2a2cf603dabec0192778c4c240e4f1a4", func := "admission/admissionlaw37.WorkloadFresh", spec := "workloadFresh", inPlace := ["internal/bytealg.CountString", "internal/bytealg.IndexByteString", "internal/bytealg.IndexString"], unfollowed := true, recurses := true, named := ["unicode/utf8.first", "unicode/utf8.acceptRanges", "internal/bytealg.MaxLen"], apart := false, laid := [("unicode/utf8.acceptRanges", laid_unicode_utf8_acceptRanges), ("unicode/utf8.first", laid_unicode_utf8_first)] }
def WorkloadFreshSaid : Prop := workloadFreshRow.holds Tryd.pinned (OpenSpec.ofChange workloadFreshSpec)

/-- ITS FALSE NEIGHBOUR: 'it returns false'. Refute it at one input. -/
def workloadFreshWrong : ChangeSpec := { name := "workloadFresh", fn := fun _ => fun
  | [d] => { results := [.lit (.bool false)], args := [d] }
  | _ => none }
def WorkloadFreshWrongFalsely : Prop := workloadFreshRow.holds Tryd.pinned (OpenSpec.ofChange workloadFreshWrong)

/-- 'admissionlaw37.WorkloadCalls': WHATEVER THE INPUT: true; the input reads as it did. -/
def workloadCallsSpec : ChangeSpec := { name := "workloadCalls", fn := fun _ => fun
  | [d1, d2] => { results := [.lit (.bool true)], args := [d1, d2] }
  | _ => none }
def workloadCallsRow : OpenClaim := { program := "ytjhakjeioppijaadoor", sum := "0986ceeec09dc9dc52ccfbe9db2f500e2a2cf603dabec0192778c4c240e4f1a4", func := "admission/admissionlaw37.WorkloadCalls", spec := "workloadCalls", inPlace := ["internal/bytealg.CountString", "internal/bytealg.IndexByteString", "internal/bytealg.IndexString"], unfollowed := true, recurses := true, named := ["unicode/utf8.first", "unicode/utf8.acceptRanges", "internal/bytealg.MaxLen"], apart := false, laid := [("unicode/utf8.acceptRanges", laid_unicode_utf8_acceptRanges), ("unicode/utf8.first", laid_unicode_utf8_first)] }
def WorkloadCallsSaid : Prop := workloadCallsRow.holds Tryd.pinned (OpenSpec.ofChange workloadCallsSpec)

/-- ITS FALSE NEIGHBOUR: 'it returns false'. Refute it at one input. -/
def workloadCallsWrong : ChangeSpec := { name := "workloadCalls", fn := fun _ => fun
  | [d1, d2] => { results := [.lit (.bool false)], args := [d1, d2] }
  | _ => none }
def WorkloadCallsWrongFalsely : Prop := workloadCallsRow.holds Tryd.pinned (OpenSpec.ofChange workloadCallsWrong)

/-- 'admissionlaw37.WorkloadRaw': WHATEVER THE INPUT: true; the input reads as it did. -/
def workloadRawSpec : ChangeSpec := { name := "workloadRaw", fn := fun _ => fun
  | [d1, d2, d3, d4, d5, d6, d7] => { results := [.lit (.bool true)], args := [d1, d2, d3, d4, d5, d6, d7] }
  | _ => none }
def workloadRawRow : OpenClaim := { program := "ytjhakjeioppijaadoor", sum := "0986ceeec09dc9dc52ccfbe9db2f500e2a2cf603dabec0192778c4c240e4f1a4", func := "admission/admissionlaw37.WorkloadRaw", spec := "workloadRaw", inPlace := ["internal/bytealg.IndexByteString", "internal/bytealg.IndexString", "internal/bytealg.CountString"], unfollowed := true, recurses := true, named := ["internal/bytealg.MaxLen", "unicode/utf8.first", "unicode/utf8.acceptRanges"], apart := false, laid := [("unicode/utf8.acceptRanges", laid_unicode_utf8_acceptRanges), ("unicode/utf8.first", laid_unicode_utf8_first)] }
def WorkloadRawSaid : Prop := workloadRawRow.holds Tryd.pinned (OpenSpec.ofChange workloadRawSpec)

/-- ITS FALSE NEIGHBOUR: 'it returns false'. Refute it at one input. -/
def workloadRawWrong : ChangeSpec := { name := "workloadRaw", fn := fun _ => fun
  | [d1, d2, d3, d4, d5, d6, d7] => { results := [.lit (.bool false)], args := [d1, d2, d3, d4, d5, d6, d7] }
  | _ => none }
def WorkloadRawWrongFalsely : Prop := workloadRawRow.holds Tryd.pinned (OpenSpec.ofChange workloadRawWrong)

/-- 'admissionlaw38.DisruptionCounts': WHATEVER THE INPUT: true; the input reads as it did. -/
def disruptionCountsSpec : ChangeSpec := { name := "disruptionCounts", fn := fun _ => fun
  | [d1, d2] => { results := [.lit (.bool true)], args := [d1, d2] }
  | _ => none }
def disruptionCountsRow : OpenClaim := { program := "ytjhakjeioppijaadoor", sum := "0986ceeec09dc9dc52ccfbe9db2f500e2a2cf603dabec0192778c4c240e4f1a4", func := "admission/admissionlaw38.DisruptionCounts", spec := "disruptionCounts", inPlace := ["internal/bytealg.CountString", "internal/bytealg.IndexByteString", "internal/bytealg.IndexString"], unfollowed := true, recurses := true, named := ["unicode/utf8.first", "unicode/utf8.acceptRanges", "internal/bytealg.MaxLen"], apart := false, laid := [("unicode/utf8.acceptRanges", laid_unicode_utf8_acceptRanges), ("unicode/utf8.first", laid_unicode_utf8_first)] }
def DisruptionCountsSaid : Prop := disruptionCountsRow.holds Tryd.pinned (OpenSpec.ofChange disruptionCountsSpec)

/-- ITS FALSE NEIGHBOUR: 'it returns false'. Refute it at one input. -/
def disruptionCountsWrong : ChangeSpec := { name := "disruptionCounts", fn := fun _ => fun
  | [d1, d2] => { results := [.lit (.bool false)], args := [d1, d2] }
  | _ => none }
def DisruptionCountsWrongFalsely : Prop := disruptionCountsRow.holds Tryd.pinned (OpenSpec.ofChange disruptionCountsWrong)

/-- 'admissionlaw38.DisruptionOverdue': WHATEVER THE INPUT: true; the input reads as it did. -/
def disruptionOverdueSpec : ChangeSpec := { name := "disruptionOverdue", fn := fun _ => fun
  | [d1, d2, d3] => { results := [.lit (.bool true)], args := [d1, d2, d3] }
  | _ => none }
def disruptionOverdueRow : OpenClaim := { program := "ytjhakjeioppijaadoor", sum := "0986ceeec09dc9dc52ccfbe9db2f500e2a2cf603dabec0192778c4c240e4f1a4", func := "admission/admissionlaw38.DisruptionOverdue", spec := "disruptionOverdue", inPlace := ["internal/bytealg.CountString", "internal/bytealg.IndexByteString", "internal/bytealg.IndexString"], unfollowed := true, recurses := true, named := ["unicode/utf8.first", "unicode/utf8.acceptRanges", "internal/bytealg.MaxLen"], apart := false, laid := [("unicode/utf8.acceptRanges", laid_unicode_utf8_acceptRanges), ("unicode/utf8.first", laid_unicode_utf8_first)] }
def DisruptionOverdueSaid : Prop := disruptionOverdueRow.holds Tryd.pinned (OpenSpec.ofChange disruptionOverdueSpec)

/-- ITS FALSE NEIGHBOUR: 'it returns false'. Refute it at one input. -/
def disruptionOverdueWrong : ChangeSpec := { name := "disruptionOverdue", fn := fun _ => fun
  | [d1, d2, d3] => { results := [.lit (.bool false)], args := [d1, d2, d3] }
  | _ => none }
def DisruptionOverdueWrongFalsely : Prop := disruptionOverdueRow.holds Tryd.pinned (OpenSpec.ofChange disruptionOverdueWrong)

/-- 'admissionlaw38.DisruptionVictims': WHATEVER THE INPUT: true; the input reads as it did. -/
def disruptionVictimsSpec : ChangeSpec := { name := "disruptionVictims", fn := fun _ => fun
  | [d] => { results := [.lit (.bool true)], args := [d] }
  | _ => none }
def disruptionVictimsRow : OpenClaim := { program := "ytjhakjeioppijaadoor", sum := "0986ceeec09dc9dc52ccfbe9db2f500e2a2cf603dabec0192778c4c240e4f1a4", func := "admission/admissionlaw38.DisruptionVictims", spec := "disruptionVictims", inPlace := ["internal/bytealg.CountString", "internal/bytealg.IndexByteString", "internal/bytealg.IndexString"], unfollowed := true, recurses := true, named := ["unicode/utf8.first", "unicode/utf8.acceptRanges", "internal/bytealg.MaxLen"], apart := false, laid := [("unicode/utf8.acceptRanges", laid_unicode_utf8_acceptRanges), ("unicode/utf8.first", laid_unicode_utf8_first)] }
def DisruptionVictimsSaid : Prop := disruptionVictimsRow.holds Tryd.pinned (OpenSpec.ofChange disruptionVictimsSpec)

/-- ITS FALSE NEIGHBOUR: 'it returns false'. Refute it at one input. -/
def disruptionVictimsWrong : ChangeSpec := { name := "disruptionVictims", fn := fun _ => fun
  | [d] => { results := [.lit (.bool false)], args := [d] }
  | _ => none }
def DisruptionVictimsWrongFalsely : Prop := disruptionVictimsRow.holds Tryd.pinned (OpenSpec.ofChange disruptionVictimsWrong)

/-- 'admissionlaw38.DisruptionFirst': WHATEVER THE INPUT: true; the input reads as it did. -/
def disruptionFirstSpec : ChangeSpec := { name := "disruptionFirst", fn := fun _ => fun
  | [d] => { results := [.lit (.bool true)], args := [d] }
  | _ => none }
def disruptionFirstRow : OpenClaim := { program := "ytjhakjeioppijaadoor", sum := "0986ceeec09dc9dc52ccfbe9db2f500e2a2cf603dabec0192778c4c240e4f1a4", func := "admission/admissionlaw38.DisruptionFirst", spec := "disruptionFirst", inPlace := ["internal/bytealg.CountString", "internal/bytealg.IndexByteString", "internal/bytealg.IndexString"], unfollowed := true, recurses := true, named := ["unicode/utf8.first", "unicode/utf8.acceptRanges", "internal/bytealg.MaxLen"], apart := false, laid := [("unicode/utf8.acceptRanges", laid_unicode_utf8_acceptRanges), ("unicode/utf8.first", laid_unicode_utf8_first)] }
def DisruptionFirstSaid : Prop := disruptionFirstRow.holds Tryd.pinned (OpenSpec.ofChange disruptionFirstSpec)

/-- ITS FALSE NEIGHBOUR: 'it returns false'. Refute it at one input. -/
def disruptionFirstWrong : ChangeSpec := { name := "disruptionFirst", fn := fun _ => fun
  | [d] => { results := [.lit (.bool false)], args := [d] }
  | _ => none }
def DisruptionFirstWrongFalsely : Prop := disruptionFirstRow.holds Tryd.pinned (OpenSpec.ofChange disruptionFirstWrong)

/-- 'admissionlaw38.DisruptionLater': WHATEVER THE INPUT: true; the input reads as it did. -/
def disruptionLaterSpec : ChangeSpec := { name := "disruptionLater", fn := fun _ => fun
  | [d1, d2, d3] => { results := [.lit (.bool true)], args := [d1, d2, d3] }
  | _ => none }
def disruptionLaterRow : OpenClaim := { program := "ytjhakjeioppijaadoor", sum := "0986ceeec09dc9dc52ccfbe9db2f500e2a2cf603dabec0192778c4c240e4f1a4", func := "admission/admissionlaw38.DisruptionLater", spec := "disruptionLater", inPlace := ["internal/bytealg.CountString", "internal/bytealg.IndexByteString", "internal/bytealg.IndexString"], unfollowed := true, recurses := true, named := ["unicode/utf8.first", "unicode/utf8.acceptRanges", "internal/bytealg.MaxLen"], apart := false, laid := [("unicode/utf8.acceptRanges", laid_unicode_utf8_acceptRanges), ("unicode/utf8.first", laid_unicode_utf8_first)] }
def DisruptionLaterSaid : Prop := disruptionLaterRow.holds Tryd.pinned (OpenSpec.ofChange disruptionLaterSpec)

/-- ITS FALSE NEIGHBOUR: 'it returns false'. Refute it at one input. -/
def disruptionLaterWrong : ChangeSpec := { name := "disruptionLater", fn := fun _ => fun
  | [d1, d2, d3] => { results := [.lit (.bool false)], args := [d1, d2, d3] }
  | _ => none }
def DisruptionLaterWrongFalsely : Prop := disruptionLaterRow.holds Tryd.pinned (OpenSpec.ofChange disruptionLaterWrong)

/-- 'admissionlaw38.DisruptionRoom': WHATEVER THE INPUT: true; the input reads as it did. -/
def disruptionRoomSpec : ChangeSpec := { name := "disruptionRoom", fn := fun _ => fun
  | [d] => { results := [.lit (.bool true)], args := [d] }
  | _ => none }
def disruptionRoomRow : OpenClaim := { program := "ytjhakjeioppijaadoor", sum := "0986ceeec09dc9dc52ccfbe9db2f500e2a2cf603dabec0192778c4c240e4f1a4", func := "admission/admissionlaw38.DisruptionRoom", spec := "disruptionRoom", inPlace := ["internal/bytealg.CountString", "internal/bytealg.IndexByteString", "internal/bytealg.IndexString"], unfollowed := true, recurses := true, named := ["unicode/utf8.first", "unicode/utf8.acceptRanges", "internal/bytealg.MaxLen"], apart := false, laid := [("unicode/utf8.acceptRanges", laid_unicode_utf8_acceptRanges), ("unicode/utf8.first", laid_unicode_utf8_first)] }
def DisruptionRoomSaid : Prop := disruptionRoomRow.holds Tryd.pinned (OpenSpec.ofChange disruptionRoomSpec)

/-- ITS FALSE NEIGHBOUR: 'it returns false'. Refute it at one input. -/
def disruptionRoomWrong : ChangeSpec := { name := "disruptionRoom", fn := fun _ => fun
  | [d] => { results := [.lit (.bool false)], args := [d] }
  | _ => none }
def DisruptionRoomWrongFalsely : Prop := disruptionRoomRow.holds Tryd.pinned (OpenSpec.ofChange disruptionRoomWrong)

/- THE SECOND FORM. 'bulk': how many values and letters a reading holds, each counted each time it is reached (what is shared counts as often as it is met; a slice's spare places count too). A statement '..UptoSaid' is the law's where the arguments, and the package variables that the reading takes, are together of bulk at most 1048576: NARROWER than '..Said'. Prove '..Said' where nothing that the law and all that it calls make is longer than what came in: it says more and counts as full. Else prove '..UptoSaid'. A law counts once. -/
mutual
def uptoBulk {H : Type} : DataW H → Nat
  | .lit (.string bytes) => bytes.length + 1
  | .lit _ => 1
  | .nil => 1
  | .ptr d => uptoBulk d + 1
  | .slice elems spare => uptoBulkAll elems + uptoBulkAll spare + 1
  | .agg parts => uptoBulkAll parts + 1
  | .iface _ d => uptoBulk d + 1
  | .map entries => uptoBulkEntries entries + 1
  | .held _ => 1
def uptoBulkAll {H : Type} : List (DataW H) → Nat
  | [] => 0
  | d :: r => uptoBulk d + uptoBulkAll r
def uptoBulkEntries {H : Type} : List (Lit × DataW H) → Nat
  | [] => 0
  | x :: r => uptoBulkEntry x + uptoBulkEntries r
def uptoBulkEntry {H : Type} : Lit × DataW H → Nat
  | (.string bytes, d) => bytes.length + uptoBulk d + 1
  | (_, d) => uptoBulk d + 1
 end
def uptoSmall : (H : Type) → List (DataW H) → Bool := fun _ ds => decide (uptoBulkAll ds ≤ 1048576)
def OpenSpec.upto (s : _root_.Go.ChangeSpec) : _root_.Go.OpenSpec := { _root_.Go.OpenSpec.ofChange s with cond := some uptoSmall }

/-- 'admissionlaw37.WorkloadValid', WHERE WHAT IT READS IS OF BULK AT MOST 1048576: true; the input reads as it did. -/
def workloadValidUptoRow : OpenClaim := { program := "ytjhakjeioppijaadoor", sum := "0986ceeec09dc9dc52ccfbe9db2f500e2a2cf603dabec0192778c4c240e4f1a4", func := "admission/admissionlaw37.WorkloadValid", spec := "workloadValid", inPlace := ["internal/bytealg.IndexByteString", "internal/bytealg.IndexString", "internal/bytealg.CountString"], unfollowed := true, recurses := true, named := ["internal/bytealg.MaxLen", "unicode/utf8.first", "unicode/utf8.acceptRanges"], apart := false, laid := [("unicode/utf8.acceptRanges", laid_unicode_utf8_acceptRanges), ("unicode/utf8.first", laid_unicode_utf8_first)], narrowed := true }
def WorkloadValidUptoSaid : Prop := workloadValidUptoRow.holds Tryd.pinned (OpenSpec.upto workloadValidSpec)

/-- 'admissionlaw37.WorkloadChanged', WHERE WHAT IT READS IS OF BULK AT MOST 1048576: true; the input reads as it did. -/
def workloadChangedUptoRow : OpenClaim := { program := "ytjhakjeioppijaadoor", sum := "0986ceeec09dc9dc52ccfbe9db2f500e2a2cf603dabec0192778c4c240e4f1a4", func := "admission/admissionlaw37.WorkloadChanged", spec := "workloadChanged", inPlace := ["internal/bytealg.CountString", "internal/bytealg.IndexByteString", "internal/bytealg.IndexString"], unfollowed := true, recurses := true, named := ["unicode/utf8.first", "unicode/utf8.acceptRanges", "internal/bytealg.MaxLen"], apart := false, laid := [("unicode/utf8.acceptRanges", laid_unicode_utf8_acceptRanges), ("unicode/utf8.first", laid_unicode_utf8_first)], narrowed := true }
def WorkloadChangedUptoSaid : Prop := workloadChangedUptoRow.holds Tryd.pinned (OpenSpec.upto workloadChangedSpec)

/-- 'admissionlaw37.WorkloadMark', WHERE WHAT IT READS IS OF BULK AT MOST 1048576: true; the input reads as it did. -/
def workloadMarkUptoRow : OpenClaim := { program := "ytjhakjeioppijaadoor", sum := "0986ceeec09dc9dc52ccfbe9db2f500e2a2cf603dabec0192778c4c240e4f1a4", func := "admission/admissionlaw37.WorkloadMark", spec := "workloadMark", inPlace := ["internal/bytealg.CountString", "internal/bytealg.IndexByteString", "internal/bytealg.IndexString"], unfollowed := true, recurses := true, named := ["unicode/utf8.first", "unicode/utf8.acceptRanges", "internal/bytealg.MaxLen"], apart := false, laid := [("unicode/utf8.acceptRanges", laid_unicode_utf8_acceptRanges), ("unicode/utf8.first", laid_unicode_utf8_first)], narrowed := true }
def WorkloadMarkUptoSaid : Prop := workloadMarkUptoRow.holds Tryd.pinned (OpenSpec.upto workloadMarkSpec)

/-- 'admissionlaw37.WorkloadFresh', WHERE WHAT IT READS IS OF BULK AT MOST 1048576: true; the input reads as it did. -/
def workloadFreshUptoRow : OpenClaim := { program := "ytjhakjeioppijaadoor", sum := "0986ceeec09dc9dc52ccfbe9db2f500e2a2cf603dabec0192778c4c240e4f1a4", func := "admission/admissionlaw37.WorkloadFresh", spec := "workloadFresh", inPlace := ["internal/bytealg.CountString", "internal/bytealg.IndexByteString", "internal/bytealg.IndexString"], unfollowed := true, recurses := true, named := ["unicode/utf8.first", "unicode/utf8.acceptRanges", "internal/bytealg.MaxLen"], apart := false, laid := [("unicode/utf8.acceptRanges", laid_unicode_utf8_acceptRanges), ("unicode/utf8.first", laid_unicode_utf8_first)], narrowed := true }
def WorkloadFreshUptoSaid : Prop := workloadFreshUptoRow.holds Tryd.pinned (OpenSpec.upto workloadFreshSpec)

/-- 'admissionlaw37.WorkloadCalls', WHERE WHAT IT READS IS OF BULK AT MOST 1048576: true; the input reads as it did. -/
def workloadCallsUptoRow : OpenClaim := { program := "ytjhakjeioppijaadoor", sum := "0986ceeec09dc9dc52ccfbe9db2f500e2a2cf603dabec0192778c4c240e4f1a4", func := "admission/admissionlaw37.WorkloadCalls", spec := "workloadCalls", inPlace := ["internal/bytealg.CountString", "internal/bytealg.IndexByteString", "internal/bytealg.IndexString"], unfollowed := true, recurses := true, named := ["unicode/utf8.first", "unicode/utf8.acceptRanges", "internal/bytealg.MaxLen"], apart := false, laid := [("unicode/utf8.acceptRanges", laid_unicode_utf8_acceptRanges), ("unicode/utf8.first", laid_unicode_utf8_first)], narrowed := true }
def WorkloadCallsUptoSaid : Prop := workloadCallsUptoRow.holds Tryd.pinned (OpenSpec.upto workloadCallsSpec)

/-- 'admissionlaw37.WorkloadRaw', WHERE WHAT IT READS IS OF BULK AT MOST 1048576: true; the input reads as it did. -/
def workloadRawUptoRow : OpenClaim := { program := "ytjhakjeioppijaadoor", sum := "0986ceeec09dc9dc52ccfbe9db2f500e2a2cf603dabec0192778c4c240e4f1a4", func := "admission/admissionlaw37.WorkloadRaw", spec := "workloadRaw", inPlace := ["internal/bytealg.IndexByteString", "internal/bytealg.IndexString", "internal/bytealg.CountString"], unfollowed := true, recurses := true, named := ["internal/bytealg.MaxLen", "unicode/utf8.first", "unicode/utf8.acceptRanges"], apart := false, laid := [("unicode/utf8.acceptRanges", laid_unicode_utf8_acceptRanges), ("unicode/utf8.first", laid_unicode_utf8_first)], narrowed := true }
def WorkloadRawUptoSaid : Prop := workloadRawUptoRow.holds Tryd.pinned (OpenSpec.upto workloadRawSpec)

/-- 'admissionlaw38.DisruptionCounts', WHERE WHAT IT READS IS OF BULK AT MOST 1048576: true; the input reads as it did. -/
def disruptionCountsUptoRow : OpenClaim := { program := "ytjhakjeioppijaadoor", sum := "0986ceeec09dc9dc52ccfbe9db2f500e2a2cf603dabec0192778c4c240e4f1a4", func := "admission/admissionlaw38.DisruptionCounts", spec := "disruptionCounts", inPlace := ["internal/bytealg.CountString", "internal/bytealg.IndexByteString", "internal/bytealg.IndexString"], unfollowed := true, recurses := true, named := ["unicode/utf8.first", "unicode/utf8.acceptRanges", "internal/bytealg.MaxLen"], apart := false, laid := [("unicode/utf8.acceptRanges", laid_unicode_utf8_acceptRanges), ("unicode/utf8.first", laid_unicode_utf8_first)], narrowed := true }
def DisruptionCountsUptoSaid : Prop := disruptionCountsUptoRow.holds Tryd.pinned (OpenSpec.upto disruptionCountsSpec)

/-- 'admissionlaw38.DisruptionOverdue', WHERE WHAT IT READS IS OF BULK AT MOST 1048576: true; the input reads as it did. -/
def disruptionOverdueUptoRow : OpenClaim := { program := "ytjhakjeioppijaadoor", sum := "0986ceeec09dc9dc52ccfbe9db2f500e2a2cf603dabec0192778c4c240e4f1a4", func := "admission/admissionlaw38.DisruptionOverdue", spec := "disruptionOverdue", inPlace := ["internal/bytealg.CountString", "internal/bytealg.IndexByteString", "internal/bytealg.IndexString"], unfollowed := true, recurses := true, named := ["unicode/utf8.first", "unicode/utf8.acceptRanges", "internal/bytealg.MaxLen"], apart := false, laid := [("unicode/utf8.acceptRanges", laid_unicode_utf8_acceptRanges), ("unicode/utf8.first", laid_unicode_utf8_first)], narrowed := true }
def DisruptionOverdueUptoSaid : Prop := disruptionOverdueUptoRow.holds Tryd.pinned (OpenSpec.upto disruptionOverdueSpec)

/-- 'admissionlaw38.DisruptionVictims', WHERE WHAT IT READS IS OF BULK AT MOST 1048576: true; the input reads as it did. -/
def disruptionVictimsUptoRow : OpenClaim := { program := "ytjhakjeioppijaadoor", sum := "0986ceeec09dc9dc52ccfbe9db2f500e2a2cf603dabec0192778c4c240e4f1a4", func := "admission/admissionlaw38.DisruptionVictims", spec := "disruptionVictims", inPlace := ["internal/bytealg.CountString", "internal/bytealg.IndexByteString", "internal/bytealg.IndexString"], unfollowed := true, recurses := true, named := ["unicode/utf8.first", "unicode/utf8.acceptRanges", "internal/bytealg.MaxLen"], apart := false, laid := [("unicode/utf8.acceptRanges", laid_unicode_utf8_acceptRanges), ("unicode/utf8.first", laid_unicode_utf8_first)], narrowed := true }
def DisruptionVictimsUptoSaid : Prop := disruptionVictimsUptoRow.holds Tryd.pinned (OpenSpec.upto disruptionVictimsSpec)

/-- 'admissionlaw38.DisruptionFirst', WHERE WHAT IT READS IS OF BULK AT MOST 1048576: true; the input reads as it did. -/
def disruptionFirstUptoRow : OpenClaim := { program := "ytjhakjeioppijaadoor", sum := "0986ceeec09dc9dc52ccfbe9db2f500e2a2cf603dabec0192778c4c240e4f1a4", func := "admission/admissionlaw38.DisruptionFirst", spec := "disruptionFirst", inPlace := ["internal/bytealg.CountString", "internal/bytealg.IndexByteString", "internal/bytealg.IndexString"], unfollowed := true, recurses := true, named := ["unicode/utf8.first", "unicode/utf8.acceptRanges", "internal/bytealg.MaxLen"], apart := false, laid := [("unicode/utf8.acceptRanges", laid_unicode_utf8_acceptRanges), ("unicode/utf8.first", laid_unicode_utf8_first)], narrowed := true }
def DisruptionFirstUptoSaid : Prop := disruptionFirstUptoRow.holds Tryd.pinned (OpenSpec.upto disruptionFirstSpec)

/-- 'admissionlaw38.DisruptionLater', WHERE WHAT IT READS IS OF BULK AT MOST 1048576: true; the input reads as it did. -/
def disruptionLaterUptoRow : OpenClaim := { program := "ytjhakjeioppijaadoor", sum := "0986ceeec09dc9dc52ccfbe9db2f500e2a2cf603dabec0192778c4c240e4f1a4", func := "admission/admissionlaw38.DisruptionLater", spec := "disruptionLater", inPlace := ["internal/bytealg.CountString", "internal/bytealg.IndexByteString", "internal/bytealg.IndexString"], unfollowed := true, recurses := true, named := ["unicode/utf8.first", "unicode/utf8.acceptRanges", "internal/bytealg.MaxLen"], apart := false, laid := [("unicode/utf8.acceptRanges", laid_unicode_utf8_acceptRanges), ("unicode/utf8.first", laid_unicode_utf8_first)], narrowed := true }
def DisruptionLaterUptoSaid : Prop := disruptionLaterUptoRow.holds Tryd.pinned (OpenSpec.upto disruptionLaterSpec)

/-- 'admissionlaw38.DisruptionRoom', WHERE WHAT IT READS IS OF BULK AT MOST 1048576: true; the input reads as it did. -/
def disruptionRoomUptoRow : OpenClaim := { program := "ytjhakjeioppijaadoor", sum := "0986ceeec09dc9dc52ccfbe9db2f500e2a2cf603dabec0192778c4c240e4f1a4", func := "admission/admissionlaw38.DisruptionRoom", spec := "disruptionRoom", inPlace := ["internal/bytealg.CountString", "internal/bytealg.IndexByteString", "internal/bytealg.IndexString"], unfollowed := true, recurses := true, named := ["unicode/utf8.first", "unicode/utf8.acceptRanges", "internal/bytealg.MaxLen"], apart := false, laid := [("unicode/utf8.acceptRanges", laid_unicode_utf8_acceptRanges), ("unicode/utf8.first", laid_unicode_utf8_first)], narrowed := true }
def DisruptionRoomUptoSaid : Prop := disruptionRoomUptoRow.holds Tryd.pinned (OpenSpec.upto disruptionRoomSpec)

end Rows
end Go.Proofs.YtjhakjeioppijaaDoor
