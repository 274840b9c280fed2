/-
  The law OnetimeRecovers of the given program: for every input the call returns true, and each argument reads afterwards as it read before. No condition.
-/
import Derived.Test.YthkcgeokfcbllaaRows
import Derived.Test.YthkcgeokfcbllaaAmY
import Derived.Test.YthkcgeokfcbllaaUl
import Derived.Test.YthkcgeokfcbllaaFh
set_option linter.unusedSimpArgs false
set_option linter.unusedVariables false
namespace Go.Proofs.Ythkcgeokfcbllaa
open Go Go.Am

theorem rec_sig {x : List B8} {n : Int} {d : List B8} (hd : d.length = 32) : upto (recF (upto (sigF x n d) 68) n d) 68 = upto (endF x n) 68 := by
  unfold upto
  apply List.map_congr_left
  intro i hi
  have hi : i < 68 := by simpa using hi
  have hl := len_digits hd
  have hr := range_digits d (digits d)[i] (List.getElem_mem (by omega))
  rw [recF, endF, getD_get (by simp; omega), getD_get (show i < (digits d).length by omega)]
  have : ((List.range 68).map (sigF x n d))[i]'(by simp; omega) = sigF x n d i := by simp
  rw [this, sigF, getD_get (show i < (digits d).length by omega)]
  exact climb_climb (by omega) hr.1 hr.2 (by omega)
theorem take_fl16 {l : List (List B8)} (h : FN 16 l) (h68 : l.length = 68) : (fl l).take 1072 = fl (l.take 67) := by
  have e : fl l = fl (l.take 67) ++ fl (l.drop 67) := by rw [← fl_append, List.take_append_drop]
  have h' : FN 16 (l.take 67) := fun a ha => h a (List.mem_of_mem_take ha)
  have hl := len_flN h'
  rw [List.length_take] at hl
  rw [e]
  exact List.take_left' (by omega)
set_option maxRecDepth 20000 in
theorem runs_lawrecovers (x : List B8) (n : Int) (d : List B8) (hx : x.length = 16) (hd : d.length = 32) : Runs T24 a8 [.agg (x.map w8), .int .i64 n, .agg (d.map w8)] (.bool true) := by
  refine ⟨?_⟩
  have l1 : (pub x n).length = 16 := len_combine _ _
  have x16 : x.take 16 = x := List.take_of_length_le (by omega)
  have x32 : d.take 32 = d := List.take_of_length_le (by omega)
  have l16 : (pub x n).take 16 = pub x n := List.take_of_length_le (by omega)
  have hF := FN_upto (len_sigF x n d) 68
  have hL := len_upto (sigF x n d) 68
  have l3 := pure_fl (upto (sigF x n d) 68)
  have hc := c_recover_eq (n := n) (d := d) (k := some false) (l := upto (sigF x n d) 68) ⟨hd, by simp, hF⟩
  have hr : recD (upto (sigF x n d) 68) n d = .tup [.agg ((pub x n).map w8), .bool true] := by
    rw [recD, if_pos hL, rec_sig hd]; rfl
  rw [hr, hD, slD, hL] at hc
  have hF' : FN 16 ((upto (sigF x n d) 68).take 67) := fun a ha => hF a (List.mem_of_mem_take ha)
  have hL' : ((upto (sigF x n d) 68).take 67).length = 67 := by rw [List.length_take, hL]; rfl
  have l4 := pure_fl ((upto (sigF x n d) 68).take 67)
  have hc' := c_recover_eq (n := n) (d := d) (k := some false) (l := (upto (sigF x n d) 68).take 67) ⟨hd, by simp, hF'⟩
  have hr' : recD ((upto (sigF x n d) 68).take 67) n d = .tup [.agg ((rep 16 0#8).map w8), .bool false] := by
    rw [recD, if_neg (by rw [hL']; omega)]
  rw [hr', hD, slD, hL'] at hc'
  have ht := take_fl16 hF hL
  simp (disch := first | omega | (simp [-List.map_take, -List.map_drop, -List.map_set, -List.map_append, -List.drop_one] <;> omega) | fail) [-List.map_take, -List.map_drop, -List.map_set, -List.map_append, -List.drop_one, a8, hx, hd, x16, x32, l16, l1, l3, l4, ht, T24_awake, c_true_eq, T24_public, c_public_eq, T24_sign, c_sign_eq, T24_recover, hc, hc']
namespace onetimeRecovers
theorem law_holds (dvs : List DV) (h : Ty.Args [.arr 16 (.int .u8), .int .i64, .arr 32 (.int .u8)] dvs) : Am.Sem P 8 dvs (.bool true) := by
  obtain ⟨ds, l, rfl, h1, d2, l2, rfl, h2, d3, l3, rfl, h3, rfl⟩ := h
  obtain ⟨x, hx, rfl⟩ := ok_words h1
  obtain ⟨n, _, rfl⟩ := ok_i64 h2
  obtain ⟨d, hd, rfl⟩ := ok_words h3
  exact sem_runs mix T24_sound Try.func8 a8_ok (runs_lawrecovers x n d hx hd)
end onetimeRecovers
end Go.Proofs.Ythkcgeokfcbllaa
namespace Go.Proofs.Ythkcgeokfcbllaa.onetimeRecovers
open Go.ChangeShapes Go.WideShapes Go.ChangeAt Go.RowKit Go.Am

theorem own : ownKnob Try.prog.godebug = none := by kernel_rfl
theorem laid : laidOutB Try.prog = true := by kernel_rfl
def shapes : List Ty := [.arr 16 (.int .u8), .int .i64, .arr 32 (.int .u8)]
theorem shapes_ok : Ty.chkAll Try.prog shapes Try.f8.params.toList = true := by kernel_rfl
theorem params_ok : paramsOK Try.prog Try.f8.params.toList = true := by kernel_rfl
theorem contract (H : Type) (enc : TypeId × Value → H) (W : World) (base : Nat) (args : Array Value) (ds gs : List (DataW H)) (before : List MemPlace)
    (hval : ∀ (j : Nat) t v, Try.f8.params[j]? = some t → args[j]? = some v → Value.okWide Try.prog W .any base t v)
    (hW : DataW.Whole enc Try.prog Try.f8.params.toList Rows.onetimeRecoversSpec.vars false W args.toList ds gs before) :
    Calls Try.prog 8 args W fun e W' => ∃ v, e = .returned v ∧ Rows.onetimeRecoversSpec.post enc Try.prog Try.f8 false true false false W args v W' :=
  calls_law (tb := 4) shapes shapes_ok laid params_ok (by kernel_rfl) (by kernel_rfl) rfl hval hW (fun ds h => by
    match ds, h with
    | [d0, d1, d2], _ => rfl) (ent_of Try.func8 (by kernel_rfl) rfl) law_holds
set_option maxRecDepth 100000 in
theorem lifted (os : Os) (started : os.Started) (H : Type) (enc : TypeId × Value → H) :
    ReturnsInHanded {} Try.checked os 8 .any (Rows.onetimeRecoversSpec.pre6 enc Try.prog Try.f8 Rows.onetimeRecoversRow.domain false) (Rows.onetimeRecoversSpec.post enc Try.prog Try.f8 false true false false) := by
  refine returnsInHanded_of_change (C := Try.checked) own started (by kernel_rfl) Try.func8
    (ChangeSpec.witness6 (enc := enc) (C := Try.checked) false ⟨#[], #[.agg (Array.replicate 16 (.int .u8 0)), .int .i64 0, .agg (Array.replicate 32 (.int .u8 0))], []⟩ 8 (by kernel_rfl) (by kernel_rfl) (by kernel_rfl) (by kernel_rfl)) ?_
  intro W base args ds gs before hval hW _ _
  exact contract H enc W base args ds gs before hval hW
theorem over : Rows.onetimeRecoversRow.holds Try.pinned (OpenSpec.ofChange Rows.onetimeRecoversSpec) :=
  OpenClaim.holds_of_wide 8 Try.f8 rfl rfl rfl rfl rfl rfl rfl ⟨rfl, rfl, rfl, rfl, rfl⟩ rfl rfl rfl rfl rfl (by kernel_rfl) Try.func8 (by kernel_rfl)
    (of_decide_eq_true (by kernel_rfl)) (by unfold Func.isWrapper; first | (rw [if_pos (by decide +kernel)]; kernel_rfl) | (rw [if_neg (by decide +kernel)]; exact ⟨rfl, rfl⟩))
    (fun os started H enc _ => lifted os started H enc)
theorem proved : Rows.OnetimeRecoversSaid :=
  over
#print axioms proved
end Go.Proofs.Ythkcgeokfcbllaa.onetimeRecovers
