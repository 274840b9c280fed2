/-
  No cell of these rows narrows 'for every input' (looked for: loops, veiled, ifaces, maps, wideKeys, modest, calm, conditions, laid).
  DERIVED. THE GIVEN ROWS OF THIS SEAT. 4 by the template 'for every input the law returns true; each argument reads behind the call as it read before'; 0 by the template 'total and deterministic' (their statements: YtjjcdmjgbbaliaaTotals.lean).
  GIVEN WITH THE SEED: the statements are not yours to turn. If you find one false, say at which input.
  Laid BY PROGRAM, IN A SANDBOX (cutbox-rows.mjs): the forced cells as the released guide's own fill.sh prints them over the translation 2638002b8208823c… (all of the seat's roots in one cut). By AI agents, Wed Nov 11 2026. No macro, syntax, notation, axiom, sorry.
-/
import Derived.Test.YtjjcdmjgbbaliaaChecked
import GoSem.Claim
import GoSem.ClaimJoined
import GoSem.ClaimMapViews
import Derived.JoinedTies
import Derived.KernelRfl
namespace Go.Proofs.Ytjjcdmjgbbaliaa
/- THE CELL 'sum', in the pinned program and in every row, IS THE sha256 OF THE DUMP (.gsa) THAT YtjjcdmjgbbaliaaProg.lean LOADS. Nothing in Lean hashes anything: it is a label: what it is worth is what the hold of that sum in a sandbox is worth. -/
noncomputable def Try.pinned : Pinned := { name := "ytjjcdmjgbbaliaa", sum := "2638002b8208823c84f4bb6fd36b9a37a9d44ce9d085af4946a3e6abcb4933f9", checked := Try.checked }
namespace Rows
def none {H : Type} : Left H := { results := [], args := [] }

/-- 'admissionlaw03.PatternAll': WHATEVER THE INPUT: true; the input reads as it did. -/
def patternAllSpec : ChangeSpec := { name := "patternAll", fn := fun _ => fun
  | [d] => { results := [.lit (.bool true)], args := [d] }
  | _ => none }
def patternAllRow : OpenClaim := { program := "ytjjcdmjgbbaliaa", sum := "2638002b8208823c84f4bb6fd36b9a37a9d44ce9d085af4946a3e6abcb4933f9", func := "admission/admissionlaw03.PatternAll", spec := "patternAll", inPlace := ["internal/bytealg.IndexByteString", "internal/bytealg.IndexString"], unfollowed := true, recurses := true, named := ["internal/bytealg.MaxLen"], plainKeys := false, apart := false }
def PatternAllSaid : Prop := patternAllRow.holds Try.pinned (OpenSpec.ofChange patternAllSpec)

/-- ITS FALSE NEIGHBOUR: 'it returns false'. Refute it at one input. -/
def patternAllWrong : ChangeSpec := { name := "patternAll", fn := fun _ => fun
  | [d] => { results := [.lit (.bool false)], args := [d] }
  | _ => none }
def PatternAllWrongFalsely : Prop := patternAllRow.holds Try.pinned (OpenSpec.ofChange patternAllWrong)

/-- 'admissionlaw03.PatternJoins': WHATEVER THE INPUT: true; the input reads as it did. -/
def patternJoinsSpec : ChangeSpec := { name := "patternJoins", fn := fun _ => fun
  | [d1, d2, d3] => { results := [.lit (.bool true)], args := [d1, d2, d3] }
  | _ => none }
def patternJoinsRow : OpenClaim := { program := "ytjjcdmjgbbaliaa", sum := "2638002b8208823c84f4bb6fd36b9a37a9d44ce9d085af4946a3e6abcb4933f9", func := "admission/admissionlaw03.PatternJoins", spec := "patternJoins", inPlace := ["internal/bytealg.IndexByteString", "internal/bytealg.IndexString"], unfollowed := true, recurses := true, named := ["internal/bytealg.MaxLen"], plainKeys := false, apart := false }
def PatternJoinsSaid : Prop := patternJoinsRow.holds Try.pinned (OpenSpec.ofChange patternJoinsSpec)

/-- ITS FALSE NEIGHBOUR: 'it returns false'. Refute it at one input. -/
def patternJoinsWrong : ChangeSpec := { name := "patternJoins", fn := fun _ => fun
  | [d1, d2, d3] => { results := [.lit (.bool false)], args := [d1, d2, d3] }
  | _ => none }
def PatternJoinsWrongFalsely : Prop := patternJoinsRow.holds Try.pinned (OpenSpec.ofChange patternJoinsWrong)

/-- 'admissionlaw03.PatternReturns': WHATEVER THE INPUT: true; the input reads as it did. -/
def patternReturnsSpec : ChangeSpec := { name := "patternReturns", fn := fun _ => fun
  | [d1, d2, d3] => { results := [.lit (.bool true)], args := [d1, d2, d3] }
  | _ => none }
def patternReturnsRow : OpenClaim := { program := "ytjjcdmjgbbaliaa", sum := "2638002b8208823c84f4bb6fd36b9a37a9d44ce9d085af4946a3e6abcb4933f9", func := "admission/admissionlaw03.PatternReturns", spec := "patternReturns", inPlace := ["internal/bytealg.IndexByteString", "internal/bytealg.IndexString"], unfollowed := true, recurses := true, named := ["internal/bytealg.MaxLen"], plainKeys := false, apart := false }
def PatternReturnsSaid : Prop := patternReturnsRow.holds Try.pinned (OpenSpec.ofChange patternReturnsSpec)

/-- ITS FALSE NEIGHBOUR: 'it returns false'. Refute it at one input. -/
def patternReturnsWrong : ChangeSpec := { name := "patternReturns", fn := fun _ => fun
  | [d1, d2, d3] => { results := [.lit (.bool false)], args := [d1, d2, d3] }
  | _ => none }
def PatternReturnsWrongFalsely : Prop := patternReturnsRow.holds Try.pinned (OpenSpec.ofChange patternReturnsWrong)

/-- 'admissionlaw03.PatternMeets': WHATEVER THE INPUT: true; the input reads as it did. -/
def patternMeetsSpec : ChangeSpec := { name := "patternMeets", fn := fun _ => fun
  | [d1, d2, d3] => { results := [.lit (.bool true)], args := [d1, d2, d3] }
  | _ => none }
def patternMeetsRow : OpenClaim := { program := "ytjjcdmjgbbaliaa", sum := "2638002b8208823c84f4bb6fd36b9a37a9d44ce9d085af4946a3e6abcb4933f9", func := "admission/admissionlaw03.PatternMeets", spec := "patternMeets", inPlace := ["internal/bytealg.IndexByteString", "internal/bytealg.IndexString"], unfollowed := true, recurses := true, named := ["internal/bytealg.MaxLen"], plainKeys := false, apart := false }
def PatternMeetsSaid : Prop := patternMeetsRow.holds Try.pinned (OpenSpec.ofChange patternMeetsSpec)

/-- ITS FALSE NEIGHBOUR: 'it returns false'. Refute it at one input. -/
def patternMeetsWrong : ChangeSpec := { name := "patternMeets", fn := fun _ => fun
  | [d1, d2, d3] => { results := [.lit (.bool false)], args := [d1, d2, d3] }
  | _ => none }
def PatternMeetsWrongFalsely : Prop := patternMeetsRow.holds Try.pinned (OpenSpec.ofChange patternMeetsWrong)

/- THE SECOND FORM. 'bulk': how many values and letters a reading holds, each counted each time it is reached (what is shared counts as often as it is met; a slice's spare places count too). A statement '..UptoSaid' is the law's where the arguments, and the package variables that the reading takes, are together of bulk at most 1048576: NARROWER than '..Said'. Prove '..Said' where nothing that the law and all that it calls make is longer than what came in: it says more and counts as full. Else prove '..UptoSaid'. A law counts once. -/
mutual
def uptoBulk {H : Type} : DataW H → Nat
  | .lit (.string bytes) => bytes.length + 1
  | .lit _ => 1
  | .nil => 1
  | .ptr d => uptoBulk d + 1
  | .slice elems spare => uptoBulkAll elems + uptoBulkAll spare + 1
  | .agg parts => uptoBulkAll parts + 1
  | .iface _ d => uptoBulk d + 1
  | .map entries => uptoBulkEntries entries + 1
  | .held _ => 1
def uptoBulkAll {H : Type} : List (DataW H) → Nat
  | [] => 0
  | d :: r => uptoBulk d + uptoBulkAll r
def uptoBulkEntries {H : Type} : List (Lit × DataW H) → Nat
  | [] => 0
  | x :: r => uptoBulkEntry x + uptoBulkEntries r
def uptoBulkEntry {H : Type} : Lit × DataW H → Nat
  | (.string bytes, d) => bytes.length + uptoBulk d + 1
  | (_, d) => uptoBulk d + 1
 end
def uptoSmall : (H : Type) → List (DataW H) → Bool := fun _ ds => decide (uptoBulkAll ds ≤ 1048576)
def OpenSpec.upto (s : _root_.Go.ChangeSpec) : _root_.Go.OpenSpec := { _root_.Go.OpenSpec.ofChange s with cond := some uptoSmall }

/-- 'admissionlaw03.PatternAll', WHERE WHAT IT READS IS OF BULK AT MOST 1048576: true; the input reads as it did. -/
def patternAllUptoRow : OpenClaim := { program := "ytjjcdmjgbbaliaa", sum := "2638002b8208823c84f4bb6fd36b9a37a9d44ce9d085af4946a3e6abcb4933f9", func := "admission/admissionlaw03.PatternAll", spec := "patternAll", inPlace := ["internal/bytealg.IndexByteString", "internal/bytealg.IndexString"], unfollowed := true, recurses := true, named := ["internal/bytealg.MaxLen"], plainKeys := false, apart := false, narrowed := true }
def PatternAllUptoSaid : Prop := patternAllUptoRow.holds Try.pinned (OpenSpec.upto patternAllSpec)

/-- 'admissionlaw03.PatternJoins', WHERE WHAT IT READS IS OF BULK AT MOST 1048576: true; the input reads as it did. -/
def patternJoinsUptoRow : OpenClaim := { program := "ytjjcdmjgbbaliaa", sum := "2638002b8208823c84f4bb6fd36b9a37a9d44ce9d085af4946a3e6abcb4933f9", func := "admission/admissionlaw03.PatternJoins", spec := "patternJoins", inPlace := ["internal/bytealg.IndexByteString", "internal/bytealg.IndexString"], unfollowed := true, recurses := true, named := ["internal/bytealg.MaxLen"], plainKeys := false, apart := false, narrowed := true }
def PatternJoinsUptoSaid : Prop := patternJoinsUptoRow.holds Try.pinned (OpenSpec.upto patternJoinsSpec)

/-- 'admissionlaw03.PatternReturns', WHERE WHAT IT READS IS OF BULK AT MOST 1048576: true; the input reads as it did. -/
def patternReturnsUptoRow : OpenClaim := { program := "ytjjcdmjgbbaliaa", sum := "2638002b8208823c84f4bb6fd36b9a37a9d44ce9d085af4946a3e6abcb4933f9", func := "admission/admissionlaw03.PatternReturns", spec := "patternReturns", inPlace := ["internal/bytealg.IndexByteString", "internal/bytealg.IndexString"], unfollowed := true, recurses := true, named := ["internal/bytealg.MaxLen"], plainKeys := false, apart := false, narrowed := true }
def PatternReturnsUptoSaid : Prop := patternReturnsUptoRow.holds Try.pinned (OpenSpec.upto patternReturnsSpec)

/-- 'admissionlaw03.PatternMeets', WHERE WHAT IT READS IS OF BULK AT MOST 1048576: true; the input reads as it did. -/
def patternMeetsUptoRow : OpenClaim := { program := "ytjjcdmjgbbaliaa", sum := "2638002b8208823c84f4bb6fd36b9a37a9d44ce9d085af4946a3e6abcb4933f9", func := "admission/admissionlaw03.PatternMeets", spec := "patternMeets", inPlace := ["internal/bytealg.IndexByteString", "internal/bytealg.IndexString"], unfollowed := true, recurses := true, named := ["internal/bytealg.MaxLen"], plainKeys := false, apart := false, narrowed := true }
def PatternMeetsUptoSaid : Prop := patternMeetsUptoRow.holds Try.pinned (OpenSpec.upto patternMeetsSpec)

end Rows
end Go.Proofs.Ytjjcdmjgbbaliaa
