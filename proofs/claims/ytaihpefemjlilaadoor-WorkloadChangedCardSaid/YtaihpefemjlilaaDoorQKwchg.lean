import Derived.Test.YtaihpefemjlilaaDoorTie
import Derived.Test.YtaihpefemjlilaaDoorCards
import Derived.ProofKit
import Derived.OpenShut
import Derived.LaidMore
import Derived.Lay
import Derived.SevenTiedAt
import Derived.Stop.Joined
import Derived.Test.YtaihpefemjlilaaDoorC51115a3f
import Derived.Test.YtaihpefemjlilaaDoorC46c001cc
import Derived.Test.YtaihpefemjlilaaDoorC2aaef907
import Derived.Test.YtaihpefemjlilaaDoorC320499bd
import Derived.Test.YtaihpefemjlilaaDoorC22951a68
import Derived.Test.YtaihpefemjlilaaDoorC4c1ab534
set_option linter.unusedSimpArgs false
set_option linter.unusedVariables false
namespace Go.Proofs.YtaihpefemjlilaaDoor.workloadChanged
open Go.ChangeShapes Go.WideShapes Go.ChangeAt Go.RowKit Go.Am

theorem own:ownKnob Tryd.prog.godebug=none:=by kernel_rfl
theorem laid:laidOutB Tryd.prog=true:=by kernel_rfl
def shapes:List Ty:=[.sl (.int .i64),.int .i64,.int .i64,.arr 32 (.int .u8)]
theorem shapes_ok:Ty.chkAll Tryd.prog shapes Tryd.f3.params.toList=true:=by kernel_rfl
theorem params_ok:z9lx Tryd.prog Tryd.f3.params.toList=true:=by kernel_rfl
set_option maxRecDepth 100000 in
theorem contract (H:Type) (enc:TypeId × Value→H) (W:World) (base:Nat) (args:Array Value) (ds gs:List (DataW H)) (before:List MemPlace)
  (hval : ∀ (j:Nat) t v,Tryd.f3.params[j]? = some t→args[j]? = some v→Value.okWide Tryd.prog W .any base t v)
  (hW:DataW.Whole enc Tryd.prog Tryd.f3.params.toList Rows.workloadChangedSpec.vars false W args.toList ds gs before) :
  Calls Tryd.prog 3 args W fun e W' => ∃ v,e = .returned v∧Rows.workloadChangedSpec.post enc Tryd.prog Tryd.f3 false true false false W args v W' :=
 zmj8 (tb:=4) shapes shapes_ok laid params_ok (by kernel_rfl) (by kernel_rfl) rfl hval hW (fun ds h=>by
  match ds,h with
  | [d0,d1,d2,d3],_=>rfl) (z36x Tryd.func3 (by kernel_rfl) rfl) law_holds
set_option maxRecDepth 100000 in
theorem lifted (os:Os) (started:os.Started) (H:Type) (enc:TypeId × Value→H) :
  ReturnsInHanded {} Tryd.checked os 3 .any (fun w args=>(Rows.workloadChangedSpec.pre enc Tryd.prog Tryd.f3 Rows.workloadChangedRow.domain false w args∧laidMetH Tryd.prog Rows.workloadChangedRow.laid w)∧sizedMet enc Tryd.prog Tryd.f3 (OpenSpec.ofChange Rows.workloadChangedSpec) false w args)
   (Rows.workloadChangedSpec.post enc Tryd.prog Tryd.f3 false true false false):=by
 refine returnsInHanded_of_change_and (C:=Tryd.checked) (X:=fun w _=>laidMetH Tryd.prog Rows.workloadChangedRow.laid w) (fun _ _ _ hh h=>h.of_heap hh) own started (by kernel_rfl) Tryd.func3
  (ChangeSpec.witness_shaped (enc:=enc) (C:=Tryd.checked) (os:=os) (X:=fun w _=>laidMetH Tryd.prog Rows.workloadChangedRow.laid w) false (World.laidAll Tryd.prog os Rows.workloadChangedRow.laid) #[.slice none 0 0,.int .i64 0,.int .i64 0,.agg (Array.replicate 32 (.int .u8 0))] 8 (World.laidAll_os _ _ _)
   (World.shaped_of_ZipB (by kernel_rfl) (by kernel_rfl)) (by kernel_rfl) (by kernel_rfl) (by kernel_rfl)
   (by rw [MakeChecks.laidMetH_plain _ _ _ (by kernel_rfl)]; exact laidMet_laidAll _ (by kernel_rfl) (by kernel_rfl))) ?_
 intro W base args ds gs before hval0 hW _ _ _ _
 exact contract H enc W base args ds gs before hval0 hW
theorem over:Rows.workloadChangedRow.holds Tryd.pinned (OpenSpec.ofChange Rows.workloadChangedSpec) :=
 OpenClaim.holds_of_wide 3 Tryd.f3 rfl rfl rfl rfl rfl rfl rfl ⟨rfl,rfl,rfl,rfl,rfl⟩ rfl rfl rfl rfl rfl (by kernel_rfl) Tryd.func3 (by kernel_rfl)
  (of_decide_eq_true (by kernel_rfl)) (by unfold Func.isWrapper; first|(rw [if_pos (by decide +kernel)]; kernel_rfl)|(rw [if_neg (by decide +kernel)]; exact ⟨rfl,rfl⟩))
  (fun os started H enc _=>lifted os started H enc)
theorem proved:Rows.WorkloadChangedCardSaid :=
 Claim7.holds_tied_plain_at .later [] [.data, .pinned] true (true, "34e32fca82ce32e5a50f65f1d06c7618d2620673891e1d1ba31c7ebf64448dda") false over (fun _ h => by cases h) (by kernel_rfl) (fun _ h => by cases h) workloadChanged_row_tie rfl ⟨rfl, rfl⟩ (by kernel_rfl) rfl
  (fun f fn hf hfn=>by
   obtain rfl : f = 3 := Option.some.inj ((show Tryd.prog.funcNamed "admission/admissionlaw37.WorkloadChanged" = some 3 by kernel_rfl).symm.trans hf) |>.symm
   obtain rfl:fn=Tryd.f3:=(Option.some.inj (Tryd.func3.symm.trans hfn)).symm
   exact ⟨by kernel_rfl,fun j t ht=>by
    have hm:t ∈ Tryd.f3.params.toList:=by simpa using Array.mem_of_getElem? ht
    have hall:(Tryd.f3.params.toList.all fun u => !Tryd.prog.wantsStandIn u)=true:=by kernel_rfl
    exact (show Tryd.prog.wantsStandIn t=false by simpa using List.all_eq_true.1 hall t hm)⟩)
  (by kernel_rfl)
#print axioms proved
end Go.Proofs.YtaihpefemjlilaaDoor.workloadChanged

