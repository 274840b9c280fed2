/-
  The law RulesWords of the given program: for every input the call returns true, and each argument reads afterwards as it read before. No condition.
-/
import Derived.Test.YtjknipdiglpnlaaDoorTie
import Derived.Test.YtjknipdiglpnlaaDoorCards
import Derived.ProofKit
import Derived.OpenShut
import Derived.LaidMore
import Derived.Lay
import Derived.SevenTiedAt
import Derived.Stop.Joined
import Derived.Test.YtjknipdiglpnlaaDoorCdd2c7f00
import Derived.Test.YtjknipdiglpnlaaDoorC9c7f701f
import Derived.Test.YtjknipdiglpnlaaDoorCf33b8964
import Derived.Test.YtjknipdiglpnlaaDoorC609eefa5
import Derived.Test.YtjknipdiglpnlaaDoorC9c12ccc4
import Derived.Test.YtjknipdiglpnlaaDoorCf890951a
set_option linter.unusedSimpArgs false
set_option linter.unusedVariables false
namespace Go.Proofs.YtjknipdiglpnlaaDoor.rulesWords
open Go.ChangeShapes Go.WideShapes Go.ChangeAt Go.RowKit Go.Am

theorem own:ownKnob Tryd.prog.godebug=none:=by kernel_rfl
theorem laid:laidOutB Tryd.prog=true:=by kernel_rfl
def shapes:List Ty:=[.st [.int .i64,.str,.str,.bool,.str,.str],.sl (.str),.sl (.int .i64)]
theorem shapes_ok:Ty.chkAll Tryd.prog shapes Tryd.f8.params.toList=true:=by kernel_rfl
theorem params_ok:z9lx Tryd.prog Tryd.f8.params.toList=true:=by kernel_rfl
set_option maxRecDepth 100000 in
theorem contract (H:Type) (enc:TypeId × Value→H) (W:World) (base:Nat) (args:Array Value) (ds gs:List (DataW H)) (before:List MemPlace)
  (hval : ∀ (j:Nat) t v,Tryd.f8.params[j]? = some t→args[j]? = some v→Value.okWide Tryd.prog W .any base t v)
  (hW:DataW.Whole enc Tryd.prog Tryd.f8.params.toList Rows.rulesWordsSpec.vars false W args.toList ds gs before) :
  Calls Tryd.prog 8 args W fun e W' => ∃ v,e = .returned v∧Rows.rulesWordsSpec.post enc Tryd.prog Tryd.f8 false true false false W args v W' :=
 zmj8 (tb:=4) shapes shapes_ok laid params_ok (by kernel_rfl) (by kernel_rfl) rfl hval hW (fun ds h=>by
  match ds,h with
  | [d0,d1,d2],_=>rfl) (z36x Tryd.func8 (by kernel_rfl) rfl) law_holds
set_option maxRecDepth 100000 in
theorem lifted (os:Os) (started:os.Started) (H:Type) (enc:TypeId × Value→H) :
  ReturnsInHanded {} Tryd.checked os 8 .any (fun w args=>(Rows.rulesWordsSpec.pre enc Tryd.prog Tryd.f8 Rows.rulesWordsRow.domain false w args∧laidMetH Tryd.prog Rows.rulesWordsRow.laid w)∧sizedMet enc Tryd.prog Tryd.f8 (OpenSpec.ofChange Rows.rulesWordsSpec) false w args)
   (Rows.rulesWordsSpec.post enc Tryd.prog Tryd.f8 false true false false):=by
 refine returnsInHanded_of_change_and (C:=Tryd.checked) (X:=fun w _=>laidMetH Tryd.prog Rows.rulesWordsRow.laid w) (fun _ _ _ hh h=>h.of_heap hh) own started (by kernel_rfl) Tryd.func8
  (ChangeSpec.witness_shaped (enc:=enc) (C:=Tryd.checked) (os:=os) (X:=fun w _=>laidMetH Tryd.prog Rows.rulesWordsRow.laid w) false (World.laidAll Tryd.prog os Rows.rulesWordsRow.laid) #[.agg #[.int .i64 0,.string ByteArray.empty,.string ByteArray.empty,.bool false,.string ByteArray.empty,.string ByteArray.empty],.slice none 0 0,.slice none 0 0] 8 (World.laidAll_os _ _ _)
   (World.shaped_of_ZipB (by kernel_rfl) (by kernel_rfl)) (by kernel_rfl) (by kernel_rfl) (by kernel_rfl)
   (by rw [MakeChecks.laidMetH_plain _ _ _ (by kernel_rfl)]; exact laidMet_laidAll _ (by kernel_rfl) (by kernel_rfl))) ?_
 intro W base args ds gs before hval0 hW _ _ _ _
 exact contract H enc W base args ds gs before hval0 hW
theorem over:Rows.rulesWordsRow.holds Tryd.pinned (OpenSpec.ofChange Rows.rulesWordsSpec) :=
 OpenClaim.holds_of_wide 8 Tryd.f8 rfl rfl rfl rfl rfl rfl rfl ⟨rfl,rfl,rfl,rfl,rfl⟩ rfl rfl rfl rfl rfl (by kernel_rfl) Tryd.func8 (by kernel_rfl)
  (of_decide_eq_true (by kernel_rfl)) (by unfold Func.isWrapper; first|(rw [if_pos (by decide +kernel)]; kernel_rfl)|(rw [if_neg (by decide +kernel)]; exact ⟨rfl,rfl⟩))
  (fun os started H enc _=>lifted os started H enc)
theorem proved:Rows.RulesWordsCardSaid :=
 Claim7.holds_tied_plain_at .later [] [.data, .pinned] true (true, "b19006763515581b80bb5b3b415c04174b46b777b28bb317c2d8a97e242c49f3") false over (fun _ h => by cases h) (by kernel_rfl) (fun _ h => by cases h) rulesWords_row_tie rfl ⟨rfl, rfl⟩ (by kernel_rfl) rfl
  (fun f fn hf hfn=>by
   obtain rfl : f = 8 := Option.some.inj ((show Tryd.prog.funcNamed "admission/admissionlaw13.RulesWords" = some 8 by kernel_rfl).symm.trans hf) |>.symm
   obtain rfl:fn=Tryd.f8:=(Option.some.inj (Tryd.func8.symm.trans hfn)).symm
   exact ⟨by kernel_rfl,fun j t ht=>by
    have hm:t ∈ Tryd.f8.params.toList:=by simpa using Array.mem_of_getElem? ht
    have hall:(Tryd.f8.params.toList.all fun u => !Tryd.prog.wantsStandIn u)=true:=by kernel_rfl
    exact (show Tryd.prog.wantsStandIn t=false by simpa using List.all_eq_true.1 hall t hm)⟩)
  (by kernel_rfl)
#print axioms proved
end Go.Proofs.YtjknipdiglpnlaaDoor.rulesWords
