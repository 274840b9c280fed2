/-
  The law RulesCreation of the given program: for every input the call returns true, and each argument reads afterwards as it read before. No condition.
-/
import Derived.Test.YtjknipdiglpnlaaDoorTie
import Derived.Test.YtjknipdiglpnlaaDoorCards
import Derived.ProofKit
import Derived.OpenShut
import Derived.LaidMore
import Derived.Lay
import Derived.SevenTiedAt
import Derived.Stop.Joined
import Derived.Test.YtjknipdiglpnlaaDoorCdd2c7f00
import Derived.Test.YtjknipdiglpnlaaDoorC9c7f701f
import Derived.Test.YtjknipdiglpnlaaDoorC5ed110cf
import Derived.Test.YtjknipdiglpnlaaDoorCf4586d3c
import Derived.Test.YtjknipdiglpnlaaDoorC384a0e19
import Derived.Test.YtjknipdiglpnlaaDoorCb47ff2da
set_option linter.unusedSimpArgs false
set_option linter.unusedVariables false
namespace Go.Proofs.YtjknipdiglpnlaaDoor.rulesCreation
open Go.ChangeShapes Go.WideShapes Go.ChangeAt Go.RowKit Go.Am

theorem own:ownKnob Tryd.prog.godebug=none:=by kernel_rfl
theorem laid:laidOutB Tryd.prog=true:=by kernel_rfl
def shapes:List Ty:=[.sl (.int .i64)]
theorem shapes_ok:Ty.chkAll Tryd.prog shapes Tryd.f7.params.toList=true:=by kernel_rfl
theorem params_ok:z9lx Tryd.prog Tryd.f7.params.toList=true:=by kernel_rfl
set_option maxRecDepth 100000 in
theorem contract (H:Type) (enc:TypeId × Value→H) (W:World) (base:Nat) (args:Array Value) (ds gs:List (DataW H)) (before:List MemPlace)
  (hval : ∀ (j:Nat) t v,Tryd.f7.params[j]? = some t→args[j]? = some v→Value.okWide Tryd.prog W .any base t v)
  (hW:DataW.Whole enc Tryd.prog Tryd.f7.params.toList Rows.rulesCreationSpec.vars false W args.toList ds gs before) :
  Calls Tryd.prog 7 args W fun e W' => ∃ v,e = .returned v∧Rows.rulesCreationSpec.post enc Tryd.prog Tryd.f7 false true false false W args v W' :=
 zmj8 (tb:=4) shapes shapes_ok laid params_ok (by kernel_rfl) (by kernel_rfl) rfl hval hW (fun ds h=>by
  match ds,h with
  | [d0],_=>rfl) (z36x Tryd.func7 (by kernel_rfl) rfl) law_holds
set_option maxRecDepth 100000 in
theorem lifted (os:Os) (started:os.Started) (H:Type) (enc:TypeId × Value→H) :
  ReturnsInHanded {} Tryd.checked os 7 .any (fun w args=>(Rows.rulesCreationSpec.pre enc Tryd.prog Tryd.f7 Rows.rulesCreationRow.domain false w args∧laidMetH Tryd.prog Rows.rulesCreationRow.laid w)∧sizedMet enc Tryd.prog Tryd.f7 (OpenSpec.ofChange Rows.rulesCreationSpec) false w args)
   (Rows.rulesCreationSpec.post enc Tryd.prog Tryd.f7 false true false false):=by
 refine returnsInHanded_of_change_and (C:=Tryd.checked) (X:=fun w _=>laidMetH Tryd.prog Rows.rulesCreationRow.laid w) (fun _ _ _ hh h=>h.of_heap hh) own started (by kernel_rfl) Tryd.func7
  (ChangeSpec.witness_shaped (enc:=enc) (C:=Tryd.checked) (os:=os) (X:=fun w _=>laidMetH Tryd.prog Rows.rulesCreationRow.laid w) false (World.laidAll Tryd.prog os Rows.rulesCreationRow.laid) #[.slice none 0 0] 8 (World.laidAll_os _ _ _)
   (World.shaped_of_ZipB (by kernel_rfl) (by kernel_rfl)) (by kernel_rfl) (by kernel_rfl) (by kernel_rfl)
   (by rw [MakeChecks.laidMetH_plain _ _ _ (by kernel_rfl)]; exact laidMet_laidAll _ (by kernel_rfl) (by kernel_rfl))) ?_
 intro W base args ds gs before hval0 hW _ _ _ _
 exact contract H enc W base args ds gs before hval0 hW
theorem over:Rows.rulesCreationRow.holds Tryd.pinned (OpenSpec.ofChange Rows.rulesCreationSpec) :=
 OpenClaim.holds_of_wide 7 Tryd.f7 rfl rfl rfl rfl rfl rfl rfl ⟨rfl,rfl,rfl,rfl,rfl⟩ rfl rfl rfl rfl rfl (by kernel_rfl) Tryd.func7 (by kernel_rfl)
  (of_decide_eq_true (by kernel_rfl)) (by unfold Func.isWrapper; first|(rw [if_pos (by decide +kernel)]; kernel_rfl)|(rw [if_neg (by decide +kernel)]; exact ⟨rfl,rfl⟩))
  (fun os started H enc _=>lifted os started H enc)
theorem proved:Rows.RulesCreationCardSaid :=
 Claim7.holds_tied_plain_at .later [] [.data, .pinned] true (true, "b19006763515581b80bb5b3b415c04174b46b777b28bb317c2d8a97e242c49f3") false over (fun _ h => by cases h) (by kernel_rfl) (fun _ h => by cases h) rulesCreation_row_tie rfl ⟨rfl, rfl⟩ (by kernel_rfl) rfl
  (fun f fn hf hfn=>by
   obtain rfl : f = 7 := Option.some.inj ((show Tryd.prog.funcNamed "admission/admissionlaw13.RulesCreation" = some 7 by kernel_rfl).symm.trans hf) |>.symm
   obtain rfl:fn=Tryd.f7:=(Option.some.inj (Tryd.func7.symm.trans hfn)).symm
   exact ⟨by kernel_rfl,fun j t ht=>by
    have hm:t ∈ Tryd.f7.params.toList:=by simpa using Array.mem_of_getElem? ht
    have hall:(Tryd.f7.params.toList.all fun u => !Tryd.prog.wantsStandIn u)=true:=by kernel_rfl
    exact (show Tryd.prog.wantsStandIn t=false by simpa using List.all_eq_true.1 hall t hm)⟩)
  (by kernel_rfl)
#print axioms proved
end Go.Proofs.YtjknipdiglpnlaaDoor.rulesCreation
