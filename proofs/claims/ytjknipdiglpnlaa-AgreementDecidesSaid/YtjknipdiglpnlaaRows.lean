/-
  No cell of these rows narrows 'for every input' (looked for: loops, veiled, ifaces, maps, wideKeys, modest, calm, conditions, laid).
  DERIVED. THE GIVEN ROWS OF THIS SEAT. 4 by the template 'for every input the law returns true; each argument reads behind the call as it read before'; 0 by the template 'total and deterministic' (their statements: YtjknipdiglpnlaaTotals.lean).
  GIVEN WITH THE SEED: the statements are not yours to turn. If you find one false, say at which input.
  Laid BY PROGRAM, IN A SANDBOX (cutbox-rows.mjs): the forced cells as the released guide's own fill.sh prints them over the translation cc950ceb5b66a61a… (all of the seat's roots in one cut). By AI agents, Wed Nov 11 2026. No macro, syntax, notation, axiom, sorry.
-/
import Derived.Test.YtjknipdiglpnlaaChecked
import GoSem.Claim
import GoSem.ClaimJoined
import GoSem.ClaimMapViews
import Derived.JoinedTies
import Derived.KernelRfl
namespace Go.Proofs.Ytjknipdiglpnlaa
/- THE CELL 'sum', in the pinned program and in every row, IS THE sha256 OF THE DUMP (.gsa) THAT YtjknipdiglpnlaaProg.lean LOADS. Nothing in Lean hashes anything: it is a label: what it is worth is what the hold of that sum in a sandbox is worth. -/
noncomputable def Try.pinned : Pinned := { name := "ytjknipdiglpnlaa", sum := "cc950ceb5b66a61a292099e84130fe149db22c6c45596404299466f43a68cbc5", checked := Try.checked }
namespace Rows
def none {H : Type} : Left H := { results := [], args := [] }

/-- 'admissionlaw15.AgreementDecides': WHATEVER THE INPUT: true; the input reads as it did. -/
def agreementDecidesSpec : ChangeSpec := { name := "agreementDecides", fn := fun _ => fun
  | [d1, d2, d3] => { results := [.lit (.bool true)], args := [d1, d2, d3] }
  | _ => none }
def agreementDecidesRow : OpenClaim := { program := "ytjknipdiglpnlaa", sum := "cc950ceb5b66a61a292099e84130fe149db22c6c45596404299466f43a68cbc5", func := "admission/admissionlaw15.AgreementDecides", spec := "agreementDecides", unfollowed := true, recurses := true, apart := false }
def AgreementDecidesSaid : Prop := agreementDecidesRow.holds Try.pinned (OpenSpec.ofChange agreementDecidesSpec)

/-- ITS FALSE NEIGHBOUR: 'it returns false'. Refute it at one input. -/
def agreementDecidesWrong : ChangeSpec := { name := "agreementDecides", fn := fun _ => fun
  | [d1, d2, d3] => { results := [.lit (.bool false)], args := [d1, d2, d3] }
  | _ => none }
def AgreementDecidesWrongFalsely : Prop := agreementDecidesRow.holds Try.pinned (OpenSpec.ofChange agreementDecidesWrong)

/-- 'admissionlaw15.AgreementSame': WHATEVER THE INPUT: true; the input reads as it did. -/
def agreementSameSpec : ChangeSpec := { name := "agreementSame", fn := fun _ => fun
  | [d1, d2, d3] => { results := [.lit (.bool true)], args := [d1, d2, d3] }
  | _ => none }
def agreementSameRow : OpenClaim := { program := "ytjknipdiglpnlaa", sum := "cc950ceb5b66a61a292099e84130fe149db22c6c45596404299466f43a68cbc5", func := "admission/admissionlaw15.AgreementSame", spec := "agreementSame", unfollowed := true, recurses := true, apart := false }
def AgreementSameSaid : Prop := agreementSameRow.holds Try.pinned (OpenSpec.ofChange agreementSameSpec)

/-- ITS FALSE NEIGHBOUR: 'it returns false'. Refute it at one input. -/
def agreementSameWrong : ChangeSpec := { name := "agreementSame", fn := fun _ => fun
  | [d1, d2, d3] => { results := [.lit (.bool false)], args := [d1, d2, d3] }
  | _ => none }
def AgreementSameWrongFalsely : Prop := agreementSameRow.holds Try.pinned (OpenSpec.ofChange agreementSameWrong)

/-- 'admissionlaw15.AgreementOrder': WHATEVER THE INPUT: true; the input reads as it did. -/
def agreementOrderSpec : ChangeSpec := { name := "agreementOrder", fn := fun _ => fun
  | [d1, d2, d3] => { results := [.lit (.bool true)], args := [d1, d2, d3] }
  | _ => none }
def agreementOrderRow : OpenClaim := { program := "ytjknipdiglpnlaa", sum := "cc950ceb5b66a61a292099e84130fe149db22c6c45596404299466f43a68cbc5", func := "admission/admissionlaw15.AgreementOrder", spec := "agreementOrder", unfollowed := true, recurses := true, apart := false }
def AgreementOrderSaid : Prop := agreementOrderRow.holds Try.pinned (OpenSpec.ofChange agreementOrderSpec)

/-- ITS FALSE NEIGHBOUR: 'it returns false'. Refute it at one input. -/
def agreementOrderWrong : ChangeSpec := { name := "agreementOrder", fn := fun _ => fun
  | [d1, d2, d3] => { results := [.lit (.bool false)], args := [d1, d2, d3] }
  | _ => none }
def AgreementOrderWrongFalsely : Prop := agreementOrderRow.holds Try.pinned (OpenSpec.ofChange agreementOrderWrong)

/-- 'admissionlaw15.AgreementHonest': WHATEVER THE INPUT: true; the input reads as it did. -/
def agreementHonestSpec : ChangeSpec := { name := "agreementHonest", fn := fun _ => fun
  | [d1, d2] => { results := [.lit (.bool true)], args := [d1, d2] }
  | _ => none }
def agreementHonestRow : OpenClaim := { program := "ytjknipdiglpnlaa", sum := "cc950ceb5b66a61a292099e84130fe149db22c6c45596404299466f43a68cbc5", func := "admission/admissionlaw15.AgreementHonest", spec := "agreementHonest", unfollowed := true, recurses := true, apart := false }
def AgreementHonestSaid : Prop := agreementHonestRow.holds Try.pinned (OpenSpec.ofChange agreementHonestSpec)

/-- ITS FALSE NEIGHBOUR: 'it returns false'. Refute it at one input. -/
def agreementHonestWrong : ChangeSpec := { name := "agreementHonest", fn := fun _ => fun
  | [d1, d2] => { results := [.lit (.bool false)], args := [d1, d2] }
  | _ => none }
def AgreementHonestWrongFalsely : Prop := agreementHonestRow.holds Try.pinned (OpenSpec.ofChange agreementHonestWrong)

/- THE SECOND FORM. 'bulk': how many values and letters a reading holds, each counted each time it is reached (what is shared counts as often as it is met; a slice's spare places count too). A statement '..UptoSaid' is the law's where the arguments, and the package variables that the reading takes, are together of bulk at most 1048576: NARROWER than '..Said'. Prove '..Said' where nothing that the law and all that it calls make is longer than what came in: it says more and counts as full. Else prove '..UptoSaid'. A law counts once. -/
mutual
def uptoBulk {H : Type} : DataW H → Nat
  | .lit (.string bytes) => bytes.length + 1
  | .lit _ => 1
  | .nil => 1
  | .ptr d => uptoBulk d + 1
  | .slice elems spare => uptoBulkAll elems + uptoBulkAll spare + 1
  | .agg parts => uptoBulkAll parts + 1
  | .iface _ d => uptoBulk d + 1
  | .map entries => uptoBulkEntries entries + 1
  | .held _ => 1
def uptoBulkAll {H : Type} : List (DataW H) → Nat
  | [] => 0
  | d :: r => uptoBulk d + uptoBulkAll r
def uptoBulkEntries {H : Type} : List (Lit × DataW H) → Nat
  | [] => 0
  | x :: r => uptoBulkEntry x + uptoBulkEntries r
def uptoBulkEntry {H : Type} : Lit × DataW H → Nat
  | (.string bytes, d) => bytes.length + uptoBulk d + 1
  | (_, d) => uptoBulk d + 1
 end
def uptoSmall : (H : Type) → List (DataW H) → Bool := fun _ ds => decide (uptoBulkAll ds ≤ 1048576)
def OpenSpec.upto (s : _root_.Go.ChangeSpec) : _root_.Go.OpenSpec := { _root_.Go.OpenSpec.ofChange s with cond := some uptoSmall }

/-- 'admissionlaw15.AgreementDecides', WHERE WHAT IT READS IS OF BULK AT MOST 1048576: true; the input reads as it did. -/
def agreementDecidesUptoRow : OpenClaim := { program := "ytjknipdiglpnlaa", sum := "cc950ceb5b66a61a292099e84130fe149db22c6c45596404299466f43a68cbc5", func := "admission/admissionlaw15.AgreementDecides", spec := "agreementDecides", unfollowed := true, recurses := true, apart := false, narrowed := true }
def AgreementDecidesUptoSaid : Prop := agreementDecidesUptoRow.holds Try.pinned (OpenSpec.upto agreementDecidesSpec)

/-- 'admissionlaw15.AgreementSame', WHERE WHAT IT READS IS OF BULK AT MOST 1048576: true; the input reads as it did. -/
def agreementSameUptoRow : OpenClaim := { program := "ytjknipdiglpnlaa", sum := "cc950ceb5b66a61a292099e84130fe149db22c6c45596404299466f43a68cbc5", func := "admission/admissionlaw15.AgreementSame", spec := "agreementSame", unfollowed := true, recurses := true, apart := false, narrowed := true }
def AgreementSameUptoSaid : Prop := agreementSameUptoRow.holds Try.pinned (OpenSpec.upto agreementSameSpec)

/-- 'admissionlaw15.AgreementOrder', WHERE WHAT IT READS IS OF BULK AT MOST 1048576: true; the input reads as it did. -/
def agreementOrderUptoRow : OpenClaim := { program := "ytjknipdiglpnlaa", sum := "cc950ceb5b66a61a292099e84130fe149db22c6c45596404299466f43a68cbc5", func := "admission/admissionlaw15.AgreementOrder", spec := "agreementOrder", unfollowed := true, recurses := true, apart := false, narrowed := true }
def AgreementOrderUptoSaid : Prop := agreementOrderUptoRow.holds Try.pinned (OpenSpec.upto agreementOrderSpec)

/-- 'admissionlaw15.AgreementHonest', WHERE WHAT IT READS IS OF BULK AT MOST 1048576: true; the input reads as it did. -/
def agreementHonestUptoRow : OpenClaim := { program := "ytjknipdiglpnlaa", sum := "cc950ceb5b66a61a292099e84130fe149db22c6c45596404299466f43a68cbc5", func := "admission/admissionlaw15.AgreementHonest", spec := "agreementHonest", unfollowed := true, recurses := true, apart := false, narrowed := true }
def AgreementHonestUptoSaid : Prop := agreementHonestUptoRow.holds Try.pinned (OpenSpec.upto agreementHonestSpec)

end Rows
end Go.Proofs.Ytjknipdiglpnlaa
