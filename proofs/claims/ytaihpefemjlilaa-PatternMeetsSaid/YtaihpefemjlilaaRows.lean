/-
  No cell of these rows narrows 'for every input' (looked for: loops, veiled, ifaces, maps, wideKeys, modest, calm, conditions, laid).
  DERIVED. THE GIVEN ROWS OF THIS SEAT. 2 by the template 'for every input the law returns true; each argument reads behind the call as it read before'; 0 by the template 'total and deterministic' (their statements: YtaihpefemjlilaaTotals.lean).
  GIVEN WITH THE SEED: the statements are not yours to turn. If you find one false, say at which input.
  Laid BY PROGRAM, IN A SANDBOX (cutbox-rows.mjs): the forced cells as the released guide's own fill.sh prints them over the translation c1b63a27e179e06b… (all of the seat's roots in one cut). By AI agents, Wed Nov 11 2026. No macro, syntax, notation, axiom, sorry.
-/
import Derived.Test.YtaihpefemjlilaaChecked
import GoSem.Claim
import GoSem.ClaimJoined
import GoSem.ClaimMapViews
import Derived.JoinedTies
import Derived.KernelRfl
namespace Go.Proofs.Ytaihpefemjlilaa
/- THE CELL 'sum', in the pinned program and in every row, IS THE sha256 OF THE DUMP (.gsa) THAT YtaihpefemjlilaaProg.lean LOADS. Nothing in Lean hashes anything: it is a label: what it is worth is what the hold of that sum in a sandbox is worth. -/
noncomputable def Try.pinned : Pinned := { name := "ytaihpefemjlilaa", sum := "c1b63a27e179e06b091017cf36d73c55ef7ea01bf71d7731a22b0c66abf615d3", checked := Try.checked }
namespace Rows
def none {H : Type} : Left H := { results := [], args := [] }

/-- 'admissionlaw39.EvictorWaits': WHATEVER THE INPUT: true; the input reads as it did. -/
def evictorWaitsSpec : ChangeSpec := { name := "evictorWaits", fn := fun _ => fun
  | [d1, d2] => { results := [.lit (.bool true)], args := [d1, d2] }
  | _ => none }
def evictorWaitsRow : OpenClaim := { program := "ytaihpefemjlilaa", sum := "c1b63a27e179e06b091017cf36d73c55ef7ea01bf71d7731a22b0c66abf615d3", func := "admission/admissionlaw39.EvictorWaits", spec := "evictorWaits", inPlace := ["internal/bytealg.Compare", "slices.overlaps[admission/api.Try]", "internal/bytealg.IndexByteString", "internal/bytealg.IndexString"], unfollowed := true, recurses := true, named := ["internal/bytealg.MaxLen"], plainKeys := false, apart := false }
def EvictorWaitsSaid : Prop := evictorWaitsRow.holds Try.pinned (OpenSpec.ofChange evictorWaitsSpec)

/-- ITS FALSE NEIGHBOUR: 'it returns false'. Refute it at one input. -/
def evictorWaitsWrong : ChangeSpec := { name := "evictorWaits", fn := fun _ => fun
  | [d1, d2] => { results := [.lit (.bool false)], args := [d1, d2] }
  | _ => none }
def EvictorWaitsWrongFalsely : Prop := evictorWaitsRow.holds Try.pinned (OpenSpec.ofChange evictorWaitsWrong)

/-- 'admissionlaw03.PatternMeets': WHATEVER THE INPUT: true; the input reads as it did. -/
def patternMeetsSpec : ChangeSpec := { name := "patternMeets", fn := fun _ => fun
  | [d1, d2, d3] => { results := [.lit (.bool true)], args := [d1, d2, d3] }
  | _ => none }
def patternMeetsRow : OpenClaim := { program := "ytaihpefemjlilaa", sum := "c1b63a27e179e06b091017cf36d73c55ef7ea01bf71d7731a22b0c66abf615d3", func := "admission/admissionlaw03.PatternMeets", spec := "patternMeets", inPlace := ["internal/bytealg.IndexByteString", "internal/bytealg.IndexString"], unfollowed := true, recurses := true, named := ["internal/bytealg.MaxLen"], plainKeys := false, apart := false }
def PatternMeetsSaid : Prop := patternMeetsRow.holds Try.pinned (OpenSpec.ofChange patternMeetsSpec)

/-- ITS FALSE NEIGHBOUR: 'it returns false'. Refute it at one input. -/
def patternMeetsWrong : ChangeSpec := { name := "patternMeets", fn := fun _ => fun
  | [d1, d2, d3] => { results := [.lit (.bool false)], args := [d1, d2, d3] }
  | _ => none }
def PatternMeetsWrongFalsely : Prop := patternMeetsRow.holds Try.pinned (OpenSpec.ofChange patternMeetsWrong)

/- THE SECOND FORM. 'bulk': how many values and letters a reading holds, each counted each time it is reached (what is shared counts as often as it is met; a slice's spare places count too). A statement '..UptoSaid' is the law's where the arguments, and the package variables that the reading takes, are together of bulk at most 1048576: NARROWER than '..Said'. Prove '..Said' where nothing that the law and all that it calls make is longer than what came in: it says more and counts as full. Else prove '..UptoSaid'. A law counts once. -/
mutual
def uptoBulk {H : Type} : DataW H → Nat
  | .lit (.string bytes) => bytes.length + 1
  | .lit _ => 1
  | .nil => 1
  | .ptr d => uptoBulk d + 1
  | .slice elems spare => uptoBulkAll elems + uptoBulkAll spare + 1
  | .agg parts => uptoBulkAll parts + 1
  | .iface _ d => uptoBulk d + 1
  | .map entries => uptoBulkEntries entries + 1
  | .held _ => 1
def uptoBulkAll {H : Type} : List (DataW H) → Nat
  | [] => 0
  | d :: r => uptoBulk d + uptoBulkAll r
def uptoBulkEntries {H : Type} : List (Lit × DataW H) → Nat
  | [] => 0
  | x :: r => uptoBulkEntry x + uptoBulkEntries r
def uptoBulkEntry {H : Type} : Lit × DataW H → Nat
  | (.string bytes, d) => bytes.length + uptoBulk d + 1
  | (_, d) => uptoBulk d + 1
 end
def uptoSmall : (H : Type) → List (DataW H) → Bool := fun _ ds => decide (uptoBulkAll ds ≤ 1048576)
def OpenSpec.upto (s : _root_.Go.ChangeSpec) : _root_.Go.OpenSpec := { _root_.Go.OpenSpec.ofChange s with cond := some uptoSmall }

/-- 'admissionlaw39.EvictorWaits', WHERE WHAT IT READS IS OF BULK AT MOST 1048576: true; the input reads as it did. -/
def evictorWaitsUptoRow : OpenClaim := { program := "ytaihpefemjlilaa", sum := "c1b63a27e179e06b091017cf36d73c55ef7ea01bf71d7731a22b0c66abf615d3", func := "admission/admissionlaw39.EvictorWaits", spec := "evictorWaits", inPlace := ["internal/bytealg.Compare", "slices.overlaps[admission/api.Try]", "internal/bytealg.IndexByteString", "internal/bytealg.IndexString"], unfollowed := true, recurses := true, named := ["internal/bytealg.MaxLen"], plainKeys := false, apart := false, narrowed := true }
def EvictorWaitsUptoSaid : Prop := evictorWaitsUptoRow.holds Try.pinned (OpenSpec.upto evictorWaitsSpec)

/-- 'admissionlaw03.PatternMeets', WHERE WHAT IT READS IS OF BULK AT MOST 1048576: true; the input reads as it did. -/
def patternMeetsUptoRow : OpenClaim := { program := "ytaihpefemjlilaa", sum := "c1b63a27e179e06b091017cf36d73c55ef7ea01bf71d7731a22b0c66abf615d3", func := "admission/admissionlaw03.PatternMeets", spec := "patternMeets", inPlace := ["internal/bytealg.IndexByteString", "internal/bytealg.IndexString"], unfollowed := true, recurses := true, named := ["internal/bytealg.MaxLen"], plainKeys := false, apart := false, narrowed := true }
def PatternMeetsUptoSaid : Prop := patternMeetsUptoRow.holds Try.pinned (OpenSpec.upto patternMeetsSpec)

end Rows
end Go.Proofs.Ytaihpefemjlilaa
