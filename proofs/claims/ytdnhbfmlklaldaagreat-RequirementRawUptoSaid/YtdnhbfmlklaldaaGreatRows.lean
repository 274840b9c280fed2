/-
  No cell of these rows narrows 'for every input' (looked for: loops, veiled, ifaces, maps, wideKeys, modest, calm, conditions, laid).
  DERIVED. THE GIVEN ROWS OF THIS SEAT. 10 by the template 'for every input the law returns true; each argument reads behind the call as it read before'; 0 by the template 'total and deterministic' (their statements: YtdnhbfmlklaldaaGreatTotals.lean).
  GIVEN WITH THE SEED: the statements are not yours to turn. If you find one false, say at which input.
  Laid BY PROGRAM, IN A SANDBOX (cutbox-rows.mjs): the forced cells as the released guide's own fill.sh prints them over the translation 69043b7a5236f77c… (all of the seat's roots in one cut). By AI agents, Wed Nov 11 2026. No macro, syntax, notation, axiom, sorry.
-/
import Derived.Test.YtdnhbfmlklaldaaGreatChecked
import GoSem.Claim
import GoSem.ClaimJoined
import GoSem.ClaimMapViews
import Derived.JoinedTies
import Derived.KernelRfl
namespace Go.Proofs.YtdnhbfmlklaldaaGreat
/- THE CELL 'sum', in the pinned program and in every row, IS THE sha256 OF THE DUMP (.gsa) THAT YtdnhbfmlklaldaaGreatProg.lean LOADS. Nothing in Lean hashes anything: it is a label: what it is worth is what the hold of that sum in a sandbox is worth. -/
noncomputable def Tryz.pinned : Pinned := { name := "ytdnhbfmlklaldaagreat", sum := "69043b7a5236f77cfbe380cea9575ec53e42d783eb65588d105f927dab3ad9e4", checked := Tryz.checked }
namespace Rows
def none {H : Type} : Left H := { results := [], args := [] }

/-- 'admissionlaw29.RequirementRaw': WHATEVER THE INPUT: true; the input reads as it did. -/
def requirementRawSpec : ChangeSpec := { name := "requirementRaw", fn := fun _ => fun
  | [d1, d2, d3, d4, d5] => { results := [.lit (.bool true)], args := [d1, d2, d3, d4, d5] }
  | _ => none }
def requirementRawRow : OpenClaim := { program := "ytdnhbfmlklaldaagreat", sum := "69043b7a5236f77cfbe380cea9575ec53e42d783eb65588d105f927dab3ad9e4", func := "admission/admissionlaw29.RequirementRaw", spec := "requirementRaw", inPlace := ["internal/bytealg.Compare"], unfollowed := true, recurses := true, apart := false }
def RequirementRawSaid : Prop := requirementRawRow.holds Tryz.pinned (OpenSpec.ofChange requirementRawSpec)

/-- ITS FALSE NEIGHBOUR: 'it returns false'. Refute it at one input. -/
def requirementRawWrong : ChangeSpec := { name := "requirementRaw", fn := fun _ => fun
  | [d1, d2, d3, d4, d5] => { results := [.lit (.bool false)], args := [d1, d2, d3, d4, d5] }
  | _ => none }
def RequirementRawWrongFalsely : Prop := requirementRawRow.holds Tryz.pinned (OpenSpec.ofChange requirementRawWrong)

/-- 'admissionlaw29.RequirementCheck': WHATEVER THE INPUT: true; the input reads as it did. -/
def requirementCheckSpec : ChangeSpec := { name := "requirementCheck", fn := fun _ => fun
  | [d] => { results := [.lit (.bool true)], args := [d] }
  | _ => none }
def requirementCheckRow : OpenClaim := { program := "ytdnhbfmlklaldaagreat", sum := "69043b7a5236f77cfbe380cea9575ec53e42d783eb65588d105f927dab3ad9e4", func := "admission/admissionlaw29.RequirementCheck", spec := "requirementCheck", inPlace := ["internal/bytealg.Compare"], unfollowed := true, recurses := true, apart := false }
def RequirementCheckSaid : Prop := requirementCheckRow.holds Tryz.pinned (OpenSpec.ofChange requirementCheckSpec)

/-- ITS FALSE NEIGHBOUR: 'it returns false'. Refute it at one input. -/
def requirementCheckWrong : ChangeSpec := { name := "requirementCheck", fn := fun _ => fun
  | [d] => { results := [.lit (.bool false)], args := [d] }
  | _ => none }
def RequirementCheckWrongFalsely : Prop := requirementCheckRow.holds Tryz.pinned (OpenSpec.ofChange requirementCheckWrong)

/-- 'admissionlaw29.RequirementBy': WHATEVER THE INPUT: true; the input reads as it did. -/
def requirementBySpec : ChangeSpec := { name := "requirementBy", fn := fun _ => fun
  | [d1, d2] => { results := [.lit (.bool true)], args := [d1, d2] }
  | _ => none }
def requirementByRow : OpenClaim := { program := "ytdnhbfmlklaldaagreat", sum := "69043b7a5236f77cfbe380cea9575ec53e42d783eb65588d105f927dab3ad9e4", func := "admission/admissionlaw29.RequirementBy", spec := "requirementBy", inPlace := ["internal/bytealg.Compare"], unfollowed := true, recurses := true, apart := false }
def RequirementBySaid : Prop := requirementByRow.holds Tryz.pinned (OpenSpec.ofChange requirementBySpec)

/-- ITS FALSE NEIGHBOUR: 'it returns false'. Refute it at one input. -/
def requirementByWrong : ChangeSpec := { name := "requirementBy", fn := fun _ => fun
  | [d1, d2] => { results := [.lit (.bool false)], args := [d1, d2] }
  | _ => none }
def RequirementByWrongFalsely : Prop := requirementByRow.holds Tryz.pinned (OpenSpec.ofChange requirementByWrong)

/-- 'admissionlaw29.RequirementExactly': WHATEVER THE INPUT: true; the input reads as it did. -/
def requirementExactlySpec : ChangeSpec := { name := "requirementExactly", fn := fun _ => fun
  | [d] => { results := [.lit (.bool true)], args := [d] }
  | _ => none }
def requirementExactlyRow : OpenClaim := { program := "ytdnhbfmlklaldaagreat", sum := "69043b7a5236f77cfbe380cea9575ec53e42d783eb65588d105f927dab3ad9e4", func := "admission/admissionlaw29.RequirementExactly", spec := "requirementExactly", inPlace := ["internal/bytealg.Compare"], unfollowed := true, recurses := true, apart := false }
def RequirementExactlySaid : Prop := requirementExactlyRow.holds Tryz.pinned (OpenSpec.ofChange requirementExactlySpec)

/-- ITS FALSE NEIGHBOUR: 'it returns false'. Refute it at one input. -/
def requirementExactlyWrong : ChangeSpec := { name := "requirementExactly", fn := fun _ => fun
  | [d] => { results := [.lit (.bool false)], args := [d] }
  | _ => none }
def RequirementExactlyWrongFalsely : Prop := requirementExactlyRow.holds Tryz.pinned (OpenSpec.ofChange requirementExactlyWrong)

/-- 'admissionlaw29.RequirementMore': WHATEVER THE INPUT: true; the input reads as it did. -/
def requirementMoreSpec : ChangeSpec := { name := "requirementMore", fn := fun _ => fun
  | [d1, d2] => { results := [.lit (.bool true)], args := [d1, d2] }
  | _ => none }
def requirementMoreRow : OpenClaim := { program := "ytdnhbfmlklaldaagreat", sum := "69043b7a5236f77cfbe380cea9575ec53e42d783eb65588d105f927dab3ad9e4", func := "admission/admissionlaw29.RequirementMore", spec := "requirementMore", inPlace := ["internal/bytealg.Compare"], unfollowed := true, recurses := true, apart := false }
def RequirementMoreSaid : Prop := requirementMoreRow.holds Tryz.pinned (OpenSpec.ofChange requirementMoreSpec)

/-- ITS FALSE NEIGHBOUR: 'it returns false'. Refute it at one input. -/
def requirementMoreWrong : ChangeSpec := { name := "requirementMore", fn := fun _ => fun
  | [d1, d2] => { results := [.lit (.bool false)], args := [d1, d2] }
  | _ => none }
def RequirementMoreWrongFalsely : Prop := requirementMoreRow.holds Tryz.pinned (OpenSpec.ofChange requirementMoreWrong)

/-- 'admissionlaw29.RequirementOwners': WHATEVER THE INPUT: true; the input reads as it did. -/
def requirementOwnersSpec : ChangeSpec := { name := "requirementOwners", fn := fun _ => fun
  | [d1, d2, d3] => { results := [.lit (.bool true)], args := [d1, d2, d3] }
  | _ => none }
def requirementOwnersRow : OpenClaim := { program := "ytdnhbfmlklaldaagreat", sum := "69043b7a5236f77cfbe380cea9575ec53e42d783eb65588d105f927dab3ad9e4", func := "admission/admissionlaw29.RequirementOwners", spec := "requirementOwners", inPlace := ["internal/bytealg.Compare"], unfollowed := true, recurses := true, apart := false }
def RequirementOwnersSaid : Prop := requirementOwnersRow.holds Tryz.pinned (OpenSpec.ofChange requirementOwnersSpec)

/-- ITS FALSE NEIGHBOUR: 'it returns false'. Refute it at one input. -/
def requirementOwnersWrong : ChangeSpec := { name := "requirementOwners", fn := fun _ => fun
  | [d1, d2, d3] => { results := [.lit (.bool false)], args := [d1, d2, d3] }
  | _ => none }
def RequirementOwnersWrongFalsely : Prop := requirementOwnersRow.holds Tryz.pinned (OpenSpec.ofChange requirementOwnersWrong)

/-- 'admissionlaw29.RequirementHostile': WHATEVER THE INPUT: true; the input reads as it did. -/
def requirementHostileSpec : ChangeSpec := { name := "requirementHostile", fn := fun _ => fun
  | [d1, d2] => { results := [.lit (.bool true)], args := [d1, d2] }
  | _ => none }
def requirementHostileRow : OpenClaim := { program := "ytdnhbfmlklaldaagreat", sum := "69043b7a5236f77cfbe380cea9575ec53e42d783eb65588d105f927dab3ad9e4", func := "admission/admissionlaw29.RequirementHostile", spec := "requirementHostile", inPlace := ["internal/bytealg.Compare"], unfollowed := true, recurses := true, apart := false }
def RequirementHostileSaid : Prop := requirementHostileRow.holds Tryz.pinned (OpenSpec.ofChange requirementHostileSpec)

/-- ITS FALSE NEIGHBOUR: 'it returns false'. Refute it at one input. -/
def requirementHostileWrong : ChangeSpec := { name := "requirementHostile", fn := fun _ => fun
  | [d1, d2] => { results := [.lit (.bool false)], args := [d1, d2] }
  | _ => none }
def RequirementHostileWrongFalsely : Prop := requirementHostileRow.holds Tryz.pinned (OpenSpec.ofChange requirementHostileWrong)

/-- 'admissionlaw29.RequirementClean': WHATEVER THE INPUT: true; the input reads as it did. -/
def requirementCleanSpec : ChangeSpec := { name := "requirementClean", fn := fun _ => fun
  | [d1, d2, d3] => { results := [.lit (.bool true)], args := [d1, d2, d3] }
  | _ => none }
def requirementCleanRow : OpenClaim := { program := "ytdnhbfmlklaldaagreat", sum := "69043b7a5236f77cfbe380cea9575ec53e42d783eb65588d105f927dab3ad9e4", func := "admission/admissionlaw29.RequirementClean", spec := "requirementClean", inPlace := ["internal/bytealg.Compare"], unfollowed := true, recurses := true, apart := false }
def RequirementCleanSaid : Prop := requirementCleanRow.holds Tryz.pinned (OpenSpec.ofChange requirementCleanSpec)

/-- ITS FALSE NEIGHBOUR: 'it returns false'. Refute it at one input. -/
def requirementCleanWrong : ChangeSpec := { name := "requirementClean", fn := fun _ => fun
  | [d1, d2, d3] => { results := [.lit (.bool false)], args := [d1, d2, d3] }
  | _ => none }
def RequirementCleanWrongFalsely : Prop := requirementCleanRow.holds Tryz.pinned (OpenSpec.ofChange requirementCleanWrong)

/-- 'admissionlaw29.RequirementFresh': WHATEVER THE INPUT: true; the input reads as it did. -/
def requirementFreshSpec : ChangeSpec := { name := "requirementFresh", fn := fun _ => fun
  | [d1, d2, d3] => { results := [.lit (.bool true)], args := [d1, d2, d3] }
  | _ => none }
def requirementFreshRow : OpenClaim := { program := "ytdnhbfmlklaldaagreat", sum := "69043b7a5236f77cfbe380cea9575ec53e42d783eb65588d105f927dab3ad9e4", func := "admission/admissionlaw29.RequirementFresh", spec := "requirementFresh", inPlace := ["internal/bytealg.Compare"], unfollowed := true, recurses := true, apart := false }
def RequirementFreshSaid : Prop := requirementFreshRow.holds Tryz.pinned (OpenSpec.ofChange requirementFreshSpec)

/-- ITS FALSE NEIGHBOUR: 'it returns false'. Refute it at one input. -/
def requirementFreshWrong : ChangeSpec := { name := "requirementFresh", fn := fun _ => fun
  | [d1, d2, d3] => { results := [.lit (.bool false)], args := [d1, d2, d3] }
  | _ => none }
def RequirementFreshWrongFalsely : Prop := requirementFreshRow.holds Tryz.pinned (OpenSpec.ofChange requirementFreshWrong)

/-- 'admissionlaw29.RequirementOrigins': WHATEVER THE INPUT: true; the input reads as it did. -/
def requirementOriginsSpec : ChangeSpec := { name := "requirementOrigins", fn := fun _ => fun
  | [d] => { results := [.lit (.bool true)], args := [d] }
  | _ => none }
def requirementOriginsRow : OpenClaim := { program := "ytdnhbfmlklaldaagreat", sum := "69043b7a5236f77cfbe380cea9575ec53e42d783eb65588d105f927dab3ad9e4", func := "admission/admissionlaw29.RequirementOrigins", spec := "requirementOrigins", inPlace := ["internal/bytealg.Compare"], unfollowed := true, recurses := true, apart := false }
def RequirementOriginsSaid : Prop := requirementOriginsRow.holds Tryz.pinned (OpenSpec.ofChange requirementOriginsSpec)

/-- ITS FALSE NEIGHBOUR: 'it returns false'. Refute it at one input. -/
def requirementOriginsWrong : ChangeSpec := { name := "requirementOrigins", fn := fun _ => fun
  | [d] => { results := [.lit (.bool false)], args := [d] }
  | _ => none }
def RequirementOriginsWrongFalsely : Prop := requirementOriginsRow.holds Tryz.pinned (OpenSpec.ofChange requirementOriginsWrong)

/- THE SECOND FORM. 'bulk': how many values and letters a reading holds, each counted each time it is reached (what is shared counts as often as it is met; a slice's spare places count too). A statement '..UptoSaid' is the law's where the arguments, and the package variables that the reading takes, are together of bulk at most 1048576: NARROWER than '..Said'. Prove '..Said' where nothing that the law and all that it calls make is longer than what came in: it says more and counts as full. Else prove '..UptoSaid'. A law counts once. -/
mutual
def uptoBulk {H : Type} : DataW H → Nat
  | .lit (.string bytes) => bytes.length + 1
  | .lit _ => 1
  | .nil => 1
  | .ptr d => uptoBulk d + 1
  | .slice elems spare => uptoBulkAll elems + uptoBulkAll spare + 1
  | .agg parts => uptoBulkAll parts + 1
  | .iface _ d => uptoBulk d + 1
  | .map entries => uptoBulkEntries entries + 1
  | .held _ => 1
def uptoBulkAll {H : Type} : List (DataW H) → Nat
  | [] => 0
  | d :: r => uptoBulk d + uptoBulkAll r
def uptoBulkEntries {H : Type} : List (Lit × DataW H) → Nat
  | [] => 0
  | x :: r => uptoBulkEntry x + uptoBulkEntries r
def uptoBulkEntry {H : Type} : Lit × DataW H → Nat
  | (.string bytes, d) => bytes.length + uptoBulk d + 1
  | (_, d) => uptoBulk d + 1
 end
def uptoSmall : (H : Type) → List (DataW H) → Bool := fun _ ds => decide (uptoBulkAll ds ≤ 1048576)
def OpenSpec.upto (s : _root_.Go.ChangeSpec) : _root_.Go.OpenSpec := { _root_.Go.OpenSpec.ofChange s with cond := some uptoSmall }

/-- 'admissionlaw29.RequirementRaw', WHERE WHAT IT READS IS OF BULK AT MOST 1048576: true; the input reads as it did. -/
def requirementRawUptoRow : OpenClaim := { program := "ytdnhbfmlklaldaagreat", sum := "69043b7a5236f77cfbe380cea9575ec53e42d783eb65588d105f927dab3ad9e4", func := "admission/admissionlaw29.RequirementRaw", spec := "requirementRaw", inPlace := ["internal/bytealg.Compare"], unfollowed := true, recurses := true, apart := false, narrowed := true }
def RequirementRawUptoSaid : Prop := requirementRawUptoRow.holds Tryz.pinned (OpenSpec.upto requirementRawSpec)

/-- 'admissionlaw29.RequirementCheck', WHERE WHAT IT READS IS OF BULK AT MOST 1048576: true; the input reads as it did. -/
def requirementCheckUptoRow : OpenClaim := { program := "ytdnhbfmlklaldaagreat", sum := "69043b7a5236f77cfbe380cea9575ec53e42d783eb65588d105f927dab3ad9e4", func := "admission/admissionlaw29.RequirementCheck", spec := "requirementCheck", inPlace := ["internal/bytealg.Compare"], unfollowed := true, recurses := true, apart := false, narrowed := true }
def RequirementCheckUptoSaid : Prop := requirementCheckUptoRow.holds Tryz.pinned (OpenSpec.upto requirementCheckSpec)

/-- 'admissionlaw29.RequirementBy', WHERE WHAT IT READS IS OF BULK AT MOST 1048576: true; the input reads as it did. -/
def requirementByUptoRow : OpenClaim := { program := "ytdnhbfmlklaldaagreat", sum := "69043b7a5236f77cfbe380cea9575ec53e42d783eb65588d105f927dab3ad9e4", func := "admission/admissionlaw29.RequirementBy", spec := "requirementBy", inPlace := ["internal/bytealg.Compare"], unfollowed := true, recurses := true, apart := false, narrowed := true }
def RequirementByUptoSaid : Prop := requirementByUptoRow.holds Tryz.pinned (OpenSpec.upto requirementBySpec)

/-- 'admissionlaw29.RequirementExactly', WHERE WHAT IT READS IS OF BULK AT MOST 1048576: true; the input reads as it did. -/
def requirementExactlyUptoRow : OpenClaim := { program := "ytdnhbfmlklaldaagreat", sum := "69043b7a5236f77cfbe380cea9575ec53e42d783eb65588d105f927dab3ad9e4", func := "admission/admissionlaw29.RequirementExactly", spec := "requirementExactly", inPlace := ["internal/bytealg.Compare"], unfollowed := true, recurses := true, apart := false, narrowed := true }
def RequirementExactlyUptoSaid : Prop := requirementExactlyUptoRow.holds Tryz.pinned (OpenSpec.upto requirementExactlySpec)

/-- 'admissionlaw29.RequirementMore', WHERE WHAT IT READS IS OF BULK AT MOST 1048576: true; the input reads as it did. -/
def requirementMoreUptoRow : OpenClaim := { program := "ytdnhbfmlklaldaagreat", sum := "69043b7a5236f77cfbe380cea9575ec53e42d783eb65588d105f927dab3ad9e4", func := "admission/admissionlaw29.RequirementMore", spec := "requirementMore", inPlace := ["internal/bytealg.Compare"], unfollowed := true, recurses := true, apart := false, narrowed := true }
def RequirementMoreUptoSaid : Prop := requirementMoreUptoRow.holds Tryz.pinned (OpenSpec.upto requirementMoreSpec)

/-- 'admissionlaw29.RequirementOwners', WHERE WHAT IT READS IS OF BULK AT MOST 1048576: true; the input reads as it did. -/
def requirementOwnersUptoRow : OpenClaim := { program := "ytdnhbfmlklaldaagreat", sum := "69043b7a5236f77cfbe380cea9575ec53e42d783eb65588d105f927dab3ad9e4", func := "admission/admissionlaw29.RequirementOwners", spec := "requirementOwners", inPlace := ["internal/bytealg.Compare"], unfollowed := true, recurses := true, apart := false, narrowed := true }
def RequirementOwnersUptoSaid : Prop := requirementOwnersUptoRow.holds Tryz.pinned (OpenSpec.upto requirementOwnersSpec)

/-- 'admissionlaw29.RequirementHostile', WHERE WHAT IT READS IS OF BULK AT MOST 1048576: true; the input reads as it did. -/
def requirementHostileUptoRow : OpenClaim := { program := "ytdnhbfmlklaldaagreat", sum := "69043b7a5236f77cfbe380cea9575ec53e42d783eb65588d105f927dab3ad9e4", func := "admission/admissionlaw29.RequirementHostile", spec := "requirementHostile", inPlace := ["internal/bytealg.Compare"], unfollowed := true, recurses := true, apart := false, narrowed := true }
def RequirementHostileUptoSaid : Prop := requirementHostileUptoRow.holds Tryz.pinned (OpenSpec.upto requirementHostileSpec)

/-- 'admissionlaw29.RequirementClean', WHERE WHAT IT READS IS OF BULK AT MOST 1048576: true; the input reads as it did. -/
def requirementCleanUptoRow : OpenClaim := { program := "ytdnhbfmlklaldaagreat", sum := "69043b7a5236f77cfbe380cea9575ec53e42d783eb65588d105f927dab3ad9e4", func := "admission/admissionlaw29.RequirementClean", spec := "requirementClean", inPlace := ["internal/bytealg.Compare"], unfollowed := true, recurses := true, apart := false, narrowed := true }
def RequirementCleanUptoSaid : Prop := requirementCleanUptoRow.holds Tryz.pinned (OpenSpec.upto requirementCleanSpec)

/-- 'admissionlaw29.RequirementFresh', WHERE WHAT IT READS IS OF BULK AT MOST 1048576: true; the input reads as it did. -/
def requirementFreshUptoRow : OpenClaim := { program := "ytdnhbfmlklaldaagreat", sum := "69043b7a5236f77cfbe380cea9575ec53e42d783eb65588d105f927dab3ad9e4", func := "admission/admissionlaw29.RequirementFresh", spec := "requirementFresh", inPlace := ["internal/bytealg.Compare"], unfollowed := true, recurses := true, apart := false, narrowed := true }
def RequirementFreshUptoSaid : Prop := requirementFreshUptoRow.holds Tryz.pinned (OpenSpec.upto requirementFreshSpec)

/-- 'admissionlaw29.RequirementOrigins', WHERE WHAT IT READS IS OF BULK AT MOST 1048576: true; the input reads as it did. -/
def requirementOriginsUptoRow : OpenClaim := { program := "ytdnhbfmlklaldaagreat", sum := "69043b7a5236f77cfbe380cea9575ec53e42d783eb65588d105f927dab3ad9e4", func := "admission/admissionlaw29.RequirementOrigins", spec := "requirementOrigins", inPlace := ["internal/bytealg.Compare"], unfollowed := true, recurses := true, apart := false, narrowed := true }
def RequirementOriginsUptoSaid : Prop := requirementOriginsUptoRow.holds Tryz.pinned (OpenSpec.upto requirementOriginsSpec)

end Rows
end Go.Proofs.YtdnhbfmlklaldaaGreat
