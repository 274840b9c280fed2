import Derived.Test.YtaihpefemjlilaaDoorTie
import Derived.Test.YtaihpefemjlilaaDoorCards
import Derived.ProofKit
import Derived.OpenShut
import Derived.LaidMore
import Derived.Lay
import Derived.SevenTiedAt
import Derived.Stop.Joined
import Derived.Test.YtaihpefemjlilaaDoorCc02078ea
import Derived.Test.YtaihpefemjlilaaDoorCf3c0fb57
import Derived.Test.YtaihpefemjlilaaDoorC6585a2f5
import Derived.Test.YtaihpefemjlilaaDoorC11682c8d
import Derived.Test.YtaihpefemjlilaaDoorC1468e658
import Derived.Test.YtaihpefemjlilaaDoorC30ca10ac
import Derived.Test.YtaihpefemjlilaaDoorCe0f86b22
set_option linter.unusedSimpArgs false
set_option linter.unusedVariables false
namespace Go.Proofs.YtaihpefemjlilaaDoor.patternOverlaps
open Go.ChangeShapes Go.WideShapes Go.ChangeAt Go.RowKit Go.Am

theorem own:ownKnob Tryd.prog.godebug=none:=by kernel_rfl
theorem laid:laidOutB Tryd.prog=true:=by kernel_rfl
def shapes:List Ty:=[.str,.str]
theorem shapes_ok:Ty.chkAll Tryd.prog shapes Tryd.f4.params.toList=true:=by kernel_rfl
theorem params_ok:z9lx Tryd.prog Tryd.f4.params.toList=true:=by kernel_rfl
set_option maxRecDepth 100000 in
theorem contract (H:Type) (enc:TypeId × Value→H) (W:World) (base:Nat) (args:Array Value) (ds gs:List (DataW H)) (before:List MemPlace)
  (hval : ∀ (j:Nat) t v,Tryd.f4.params[j]? = some t→args[j]? = some v→Value.okWide Tryd.prog W .any base t v)
  (hW:DataW.Whole enc Tryd.prog Tryd.f4.params.toList Rows.patternOverlapsSpec.vars false W args.toList ds gs before) :
  Calls Tryd.prog 4 args W fun e W' => ∃ v,e = .returned v∧Rows.patternOverlapsSpec.post enc Tryd.prog Tryd.f4 false true false false W args v W' :=
 zmj8 (tb:=4) shapes shapes_ok laid params_ok (by kernel_rfl) (by kernel_rfl) rfl hval hW (fun ds h=>by
  match ds,h with
  | [d0,d1],_=>rfl) (z36x Tryd.func4 (by kernel_rfl) rfl) law_holds
set_option maxRecDepth 100000 in
theorem lifted (os:Os) (started:os.Started) (H:Type) (enc:TypeId × Value→H) :
  ReturnsInHanded {} Tryd.checked os 4 .any (fun w args=>(Rows.patternOverlapsSpec.pre enc Tryd.prog Tryd.f4 Rows.patternOverlapsRow.domain false w args∧laidMetH Tryd.prog Rows.patternOverlapsRow.laid w)∧sizedMet enc Tryd.prog Tryd.f4 (OpenSpec.ofChange Rows.patternOverlapsSpec) false w args)
   (Rows.patternOverlapsSpec.post enc Tryd.prog Tryd.f4 false true false false):=by
 refine returnsInHanded_of_change_and (C:=Tryd.checked) (X:=fun w _=>laidMetH Tryd.prog Rows.patternOverlapsRow.laid w) (fun _ _ _ hh h=>h.of_heap hh) own started (by kernel_rfl) Tryd.func4
  (ChangeSpec.witness_shaped (enc:=enc) (C:=Tryd.checked) (os:=os) (X:=fun w _=>laidMetH Tryd.prog Rows.patternOverlapsRow.laid w) false (World.laidAll Tryd.prog os Rows.patternOverlapsRow.laid) #[.string ByteArray.empty,.string ByteArray.empty] 8 (World.laidAll_os _ _ _)
   (World.shaped_of_ZipB (by kernel_rfl) (by kernel_rfl)) (by kernel_rfl) (by kernel_rfl) (by kernel_rfl)
   (by rw [MakeChecks.laidMetH_plain _ _ _ (by kernel_rfl)]; exact laidMet_laidAll _ (by kernel_rfl) (by kernel_rfl))) ?_
 intro W base args ds gs before hval0 hW _ _ _ _
 exact contract H enc W base args ds gs before hval0 hW
theorem over:Rows.patternOverlapsRow.holds Tryd.pinned (OpenSpec.ofChange Rows.patternOverlapsSpec) :=
 OpenClaim.holds_of_wide 4 Tryd.f4 rfl rfl rfl rfl rfl rfl rfl ⟨rfl,rfl,rfl,rfl,rfl⟩ rfl rfl rfl rfl rfl (by kernel_rfl) Tryd.func4 (by kernel_rfl)
  (of_decide_eq_true (by kernel_rfl)) (by unfold Func.isWrapper; first|(rw [if_pos (by decide +kernel)]; kernel_rfl)|(rw [if_neg (by decide +kernel)]; exact ⟨rfl,rfl⟩))
  (fun os started H enc _=>lifted os started H enc)
theorem proved:Rows.PatternOverlapsCardSaid :=
 Claim7.holds_tied_plain_at .later [] [.data, .pinned] true (true, "34e32fca82ce32e5a50f65f1d06c7618d2620673891e1d1ba31c7ebf64448dda") false over (fun _ h => by cases h) (by kernel_rfl) (fun _ h => by cases h) patternOverlaps_row_tie rfl ⟨rfl, rfl⟩ (by kernel_rfl) rfl
  (fun f fn hf hfn=>by
   obtain rfl : f = 4 := Option.some.inj ((show Tryd.prog.funcNamed "admission/admissionlaw03.PatternOverlaps" = some 4 by kernel_rfl).symm.trans hf) |>.symm
   obtain rfl:fn=Tryd.f4:=(Option.some.inj (Tryd.func4.symm.trans hfn)).symm
   exact ⟨by kernel_rfl,fun j t ht=>by
    have hm:t ∈ Tryd.f4.params.toList:=by simpa using Array.mem_of_getElem? ht
    have hall:(Tryd.f4.params.toList.all fun u => !Tryd.prog.wantsStandIn u)=true:=by kernel_rfl
    exact (show Tryd.prog.wantsStandIn t=false by simpa using List.all_eq_true.1 hall t hm)⟩)
  (by kernel_rfl)
#print axioms proved
end Go.Proofs.YtaihpefemjlilaaDoor.patternOverlaps

