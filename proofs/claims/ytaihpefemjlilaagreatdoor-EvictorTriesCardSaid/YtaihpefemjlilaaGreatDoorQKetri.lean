import Derived.Test.YtaihpefemjlilaaGreatDoorTie
import Derived.Test.YtaihpefemjlilaaGreatDoorCards
import Derived.ProofKit
import Derived.OpenShut
import Derived.LaidMore
import Derived.Lay
import Derived.SevenTiedAt
import Derived.Stop.Joined
import Derived.Test.YtaihpefemjlilaaGreatDoorC93fe9752
import Derived.Test.YtaihpefemjlilaaGreatDoorCca1ba563
import Derived.Test.YtaihpefemjlilaaGreatDoorCab9f7e71
import Derived.Test.YtaihpefemjlilaaGreatDoorCbc0e19a5
import Derived.Test.YtaihpefemjlilaaGreatDoorCea1547b8
import Derived.Test.YtaihpefemjlilaaGreatDoorCcbf0dea8
import Derived.Test.YtaihpefemjlilaaGreatDoorC5c683c40
import Derived.Test.YtaihpefemjlilaaGreatDoorC4ff716fa
set_option linter.unusedSimpArgs false
set_option linter.unusedVariables false
namespace Go.Proofs.YtaihpefemjlilaaGreatDoor.evictorTries
open Go.ChangeShapes Go.WideShapes Go.ChangeAt Go.RowKit Go.Am

theorem own:ownKnob Tryz.prog.godebug=none:=by kernel_rfl
theorem laid:laidOutB Tryz.prog=true:=by kernel_rfl
def shapes:List Ty:=[.sl (.int .i64)]
theorem shapes_ok:Ty.chkAll Tryz.prog shapes Tryz.f3.params.toList=true:=by kernel_rfl
theorem params_ok:zh8k Tryz.prog Tryz.f3.params.toList=true:=by kernel_rfl
set_option maxRecDepth 100000 in
theorem contract (H:Type) (enc:TypeId × Value→H) (W:World) (base:Nat) (args:Array Value) (ds gs:List (DataW H)) (before:List MemPlace)
  (hval : ∀ (j:Nat) t v,Tryz.f3.params[j]? = some t→args[j]? = some v→Value.okWide Tryz.prog W .any base t v)
  (hW:DataW.Whole enc Tryz.prog Tryz.f3.params.toList Rows.evictorTriesSpec.vars false W args.toList ds gs before) :
  Calls Tryz.prog 3 args W fun e W' => ∃ v,e = .returned v∧Rows.evictorTriesSpec.post enc Tryz.prog Tryz.f3 false true false false W args v W' :=
 zmj8 (tb:=4) shapes shapes_ok laid params_ok (by kernel_rfl) (by kernel_rfl) rfl hval hW (fun ds h=>by
  match ds,h with
  | [d0],_=>rfl) (z36x Tryz.func3 (by kernel_rfl) rfl) law_holds
set_option maxRecDepth 100000 in
theorem lifted (os:Os) (started:os.Started) (H:Type) (enc:TypeId × Value→H) :
  ReturnsInHanded {} Tryz.checked os 3 .any (fun w args=>(Rows.evictorTriesSpec.pre enc Tryz.prog Tryz.f3 Rows.evictorTriesRow.domain false w args∧laidMetH Tryz.prog Rows.evictorTriesRow.laid w)∧sizedMet enc Tryz.prog Tryz.f3 (OpenSpec.ofChange Rows.evictorTriesSpec) false w args)
   (Rows.evictorTriesSpec.post enc Tryz.prog Tryz.f3 false true false false):=by
 refine returnsInHanded_of_change_and (C:=Tryz.checked) (X:=fun w _=>laidMetH Tryz.prog Rows.evictorTriesRow.laid w) (fun _ _ _ hh h=>h.of_heap hh) own started (by kernel_rfl) Tryz.func3
  (ChangeSpec.witness_shaped (enc:=enc) (C:=Tryz.checked) (os:=os) (X:=fun w _=>laidMetH Tryz.prog Rows.evictorTriesRow.laid w) false (World.laidAll Tryz.prog os Rows.evictorTriesRow.laid) #[.slice none 0 0] 8 (World.laidAll_os _ _ _)
   (World.shaped_of_ZipB (by kernel_rfl) (by kernel_rfl)) (by kernel_rfl) (by kernel_rfl) (by kernel_rfl)
   (by rw [MakeChecks.laidMetH_plain _ _ _ (by kernel_rfl)]; exact laidMet_laidAll _ (by kernel_rfl) (by kernel_rfl))) ?_
 intro W base args ds gs before hval0 hW _ _ _ _
 exact contract H enc W base args ds gs before hval0 hW
theorem over:Rows.evictorTriesRow.holds Tryz.pinned (OpenSpec.ofChange Rows.evictorTriesSpec) :=
 OpenClaim.holds_of_wide 3 Tryz.f3 rfl rfl rfl rfl rfl rfl rfl ⟨rfl,rfl,rfl,rfl,rfl⟩ rfl rfl rfl rfl rfl (by kernel_rfl) Tryz.func3 (by kernel_rfl)
  (of_decide_eq_true (by kernel_rfl)) (by unfold Func.isWrapper; first|(rw [if_pos (by decide +kernel)]; kernel_rfl)|(rw [if_neg (by decide +kernel)]; exact ⟨rfl,rfl⟩))
  (fun os started H enc _=>lifted os started H enc)
theorem proved:Rows.EvictorTriesCardSaid :=
 Claim7.holds_tied_plain_at .later [] [.data, .pinned] true (true, "343006315fde1af0908682b728d7d343337bbc4071691bcfdc48784915534211") false over (fun _ h => by cases h) (by kernel_rfl) (fun _ h => by cases h) evictorTries_row_tie rfl ⟨rfl, rfl⟩ (by kernel_rfl) rfl
  (fun f fn hf hfn=>by
   obtain rfl : f = 3 := Option.some.inj ((show Tryz.prog.funcNamed "admission/admissionlaw39.EvictorTries" = some 3 by kernel_rfl).symm.trans hf) |>.symm
   obtain rfl:fn=Tryz.f3:=(Option.some.inj (Tryz.func3.symm.trans hfn)).symm
   exact ⟨by kernel_rfl,fun j t ht=>by
    have hm:t ∈ Tryz.f3.params.toList:=by simpa using Array.mem_of_getElem? ht
    have hall:(Tryz.f3.params.toList.all fun u => !Tryz.prog.wantsStandIn u)=true:=by kernel_rfl
    exact (show Tryz.prog.wantsStandIn t=false by simpa using List.all_eq_true.1 hall t hm)⟩)
  (by kernel_rfl)
#print axioms proved
end Go.Proofs.YtaihpefemjlilaaGreatDoor.evictorTries

