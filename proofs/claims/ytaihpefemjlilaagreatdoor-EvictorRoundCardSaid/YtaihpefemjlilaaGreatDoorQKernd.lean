import Derived.Test.YtaihpefemjlilaaGreatDoorTie
import Derived.Test.YtaihpefemjlilaaGreatDoorCards
import Derived.ProofKit
import Derived.OpenShut
import Derived.LaidMore
import Derived.Lay
import Derived.SevenTiedAt
import Derived.Stop.Joined
import Derived.Test.YtaihpefemjlilaaGreatDoorC4bb2b95d
import Derived.Test.YtaihpefemjlilaaGreatDoorC1b265590
import Derived.Test.YtaihpefemjlilaaGreatDoorC2ceefa77
import Derived.Test.YtaihpefemjlilaaGreatDoorC3c839cb1
import Derived.Test.YtaihpefemjlilaaGreatDoorCd734b161
import Derived.Test.YtaihpefemjlilaaGreatDoorCb3c5e46e
import Derived.Test.YtaihpefemjlilaaGreatDoorC2e7c3fe1
import Derived.Test.YtaihpefemjlilaaGreatDoorC1321c039
import Derived.Test.YtaihpefemjlilaaGreatDoorC993bf049
import Derived.Test.YtaihpefemjlilaaGreatDoorC759e9627
set_option linter.unusedSimpArgs false
set_option linter.unusedVariables false
namespace Go.Proofs.YtaihpefemjlilaaGreatDoor.evictorRound
open Go.ChangeShapes Go.WideShapes Go.ChangeAt Go.RowKit Go.Am

theorem own:ownKnob Tryz.prog.godebug=none:=by kernel_rfl
theorem laid:laidOutB Tryz.prog=true:=by kernel_rfl
def shapes:List Ty:=[.sl (.int .i64),.sl (.int .i64)]
theorem shapes_ok:Ty.chkAll Tryz.prog shapes Tryz.f5.params.toList=true:=by kernel_rfl
theorem params_ok:zh8k Tryz.prog Tryz.f5.params.toList=true:=by kernel_rfl
set_option maxRecDepth 100000 in
theorem contract (H:Type) (enc:TypeId × Value→H) (W:World) (base:Nat) (args:Array Value) (ds gs:List (DataW H)) (before:List MemPlace)
  (hval : ∀ (j:Nat) t v,Tryz.f5.params[j]? = some t→args[j]? = some v→Value.okWide Tryz.prog W .any base t v)
  (hW:DataW.Whole enc Tryz.prog Tryz.f5.params.toList Rows.evictorRoundSpec.vars false W args.toList ds gs before) :
  Calls Tryz.prog 5 args W fun e W' => ∃ v,e = .returned v∧Rows.evictorRoundSpec.post enc Tryz.prog Tryz.f5 false true false false W args v W' :=
 zmj8 (tb:=4) shapes shapes_ok laid params_ok (by kernel_rfl) (by kernel_rfl) rfl hval hW (fun ds h=>by
  match ds,h with
  | [d0,d1],_=>rfl) (z36x Tryz.func5 (by kernel_rfl) rfl) law_holds
set_option maxRecDepth 100000 in
theorem lifted (os:Os) (started:os.Started) (H:Type) (enc:TypeId × Value→H) :
  ReturnsInHanded {} Tryz.checked os 5 .any (fun w args=>(Rows.evictorRoundSpec.pre enc Tryz.prog Tryz.f5 Rows.evictorRoundRow.domain false w args∧laidMetH Tryz.prog Rows.evictorRoundRow.laid w)∧sizedMet enc Tryz.prog Tryz.f5 (OpenSpec.ofChange Rows.evictorRoundSpec) false w args)
   (Rows.evictorRoundSpec.post enc Tryz.prog Tryz.f5 false true false false):=by
 refine returnsInHanded_of_change_and (C:=Tryz.checked) (X:=fun w _=>laidMetH Tryz.prog Rows.evictorRoundRow.laid w) (fun _ _ _ hh h=>h.of_heap hh) own started (by kernel_rfl) Tryz.func5
  (ChangeSpec.witness_shaped (enc:=enc) (C:=Tryz.checked) (os:=os) (X:=fun w _=>laidMetH Tryz.prog Rows.evictorRoundRow.laid w) false (World.laidAll Tryz.prog os Rows.evictorRoundRow.laid) #[.slice none 0 0,.slice none 0 0] 8 (World.laidAll_os _ _ _)
   (World.shaped_of_ZipB (by kernel_rfl) (by kernel_rfl)) (by kernel_rfl) (by kernel_rfl) (by kernel_rfl)
   (by rw [MakeChecks.laidMetH_plain _ _ _ (by kernel_rfl)]; exact laidMet_laidAll _ (by kernel_rfl) (by kernel_rfl))) ?_
 intro W base args ds gs before hval0 hW _ _ _ _
 exact contract H enc W base args ds gs before hval0 hW
theorem over:Rows.evictorRoundRow.holds Tryz.pinned (OpenSpec.ofChange Rows.evictorRoundSpec) :=
 OpenClaim.holds_of_wide 5 Tryz.f5 rfl rfl rfl rfl rfl rfl rfl ⟨rfl,rfl,rfl,rfl,rfl⟩ rfl rfl rfl rfl rfl (by kernel_rfl) Tryz.func5 (by kernel_rfl)
  (of_decide_eq_true (by kernel_rfl)) (by unfold Func.isWrapper; first|(rw [if_pos (by decide +kernel)]; kernel_rfl)|(rw [if_neg (by decide +kernel)]; exact ⟨rfl,rfl⟩))
  (fun os started H enc _=>lifted os started H enc)
theorem proved:Rows.EvictorRoundCardSaid :=
 Claim7.holds_tied_plain_at .later [] [.data, .pinned] true (true, "343006315fde1af0908682b728d7d343337bbc4071691bcfdc48784915534211") false over (fun _ h => by cases h) (by kernel_rfl) (fun _ h => by cases h) evictorRound_row_tie rfl ⟨rfl, rfl⟩ (by kernel_rfl) rfl
  (fun f fn hf hfn=>by
   obtain rfl : f = 5 := Option.some.inj ((show Tryz.prog.funcNamed "admission/admissionlaw39.EvictorRound" = some 5 by kernel_rfl).symm.trans hf) |>.symm
   obtain rfl:fn=Tryz.f5:=(Option.some.inj (Tryz.func5.symm.trans hfn)).symm
   exact ⟨by kernel_rfl,fun j t ht=>by
    have hm:t ∈ Tryz.f5.params.toList:=by simpa using Array.mem_of_getElem? ht
    have hall:(Tryz.f5.params.toList.all fun u => !Tryz.prog.wantsStandIn u)=true:=by kernel_rfl
    exact (show Tryz.prog.wantsStandIn t=false by simpa using List.all_eq_true.1 hall t hm)⟩)
  (by kernel_rfl)
#print axioms proved
end Go.Proofs.YtaihpefemjlilaaGreatDoor.evictorRound

