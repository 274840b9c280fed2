/-
  The law DigestSums: the program's Sum and the reference's are the same.
-/
import Derived.Test.YthkcgeokfcbllaaSh
import Derived.Test.YthkcgeokfcbllaaAmY
set_option linter.unusedSimpArgs false
set_option linter.unusedVariables false
namespace Go.Proofs.Ythkcgeokfcbllaa
open Go Go.Am

set_option maxRecDepth 100000 in
theorem sum_nil : ((sum []).getD 0 0, (sum []).getD 1 0, (sum []).getD 31 0) = (0xe3#8, 0xb0#8, 0x55#8) := by decide +kernel
noncomputable def T6 : Tbl := addT 33 (.pure c_sum) (addT 34 (.pure c_refsum) tbl0)
theorem T6_sum : T6 33 = .pure c_sum := by simp [T6]
theorem T6_refsum : T6 34 = .pure c_refsum := by simp [T6]
theorem T6_sound : T6.Sound P := addT_sound (con_sound fun a h => sem_sum a.1 a.2 h) (addT_sound (con_sound fun a h => sem_refsum a.1 a.2 h.1 h.2) tbl0_sound)
theorem runs_awake : Runs T6 a32 [] (.bool true) := by
  refine ⟨?_⟩
  have h := sum_nil
  simp only [Prod.mk.injEq] at h
  obtain ⟨h1, h2, h3⟩ := h
  have hl := len_sum []
  generalize hs : sum [] = s at *
  have e1 : s[0]'(by omega) = 227#8 := by simpa [List.getD_eq_getElem?_getD, hl] using h1
  have e2 : s[1]'(by omega) = 176#8 := by simpa [List.getD_eq_getElem?_getD, hl] using h2
  have e3 : s[31]'(by omega) = 85#8 := by simpa [List.getD_eq_getElem?_getD, hl] using h3
  simp (disch := first | omega | (simp [-List.map_take, -List.map_drop, -List.map_set, -List.map_append, -List.drop_one] <;> omega) | fail) [-List.map_take, -List.map_drop, -List.map_set, -List.map_append, -List.drop_one, a32, T6_sum, c_sum_nils, hs, hl, e1, e2, e3]
theorem sem_awake : Am.Sem P 32 [] (.bool true) := sem_runs mix T6_sound Try.func32 a32_ok runs_awake
noncomputable def c_true : List DV → Option DV := con (fun (_ : Unit) => True) (fun _ => []) (fun _ => .bool true)
theorem c_true_eq : c_true [] = some (.bool true) := con_eq (a := ()) (by simp) trivial
noncomputable def T7 : Tbl := addT 32 (.pure c_true) T6
theorem T7_awake : T7 32 = .pure c_true := by simp [T7]
theorem T7_sum : T7 33 = .pure c_sum := by simp [T7, T6]
theorem T7_refsum : T7 34 = .pure c_refsum := by simp [T7, T6]
theorem T7_sound : T7.Sound P := addT_sound (con_sound fun _ _ => sem_awake) T6_sound
theorem runs_law (k : Option Bool) (b : List B8) (hk : k = none → b = []) : Runs T7 a9 [bD k b] (.bool true) := by
  refine ⟨?_⟩
  by_cases h : b.length ≤ 5000
  · have h1 : ¬ (5000 : Int) < b.length := by omega
    have hp : pureD (bD k b) = true := pure_slD pureL_w8
    simp (disch := first | omega | (simp [-List.map_take, -List.map_drop, -List.map_set, -List.map_append, -List.drop_one] <;> omega) | fail) [-List.map_take, -List.map_drop, -List.map_set, -List.map_append, -List.drop_one, a9, lenD_bD hk, h1, T7_awake, T7_sum, T7_refsum, c_true_eq, c_sum_eq hk, c_refsum_eq hk (by omega), hp]
  · have h1 : (5000 : Int) < b.length := by omega
    simp (disch := first | omega | (simp [-List.map_take, -List.map_drop, -List.map_set, -List.map_append, -List.drop_one] <;> omega) | fail) [-List.map_take, -List.map_drop, -List.map_set, -List.map_append, -List.drop_one, a9, lenD_bD hk, h1]
theorem sem_law (k : Option Bool) (b : List B8) (hk : k = none → b = []) : Am.Sem P 9 [bD k b] (.bool true) := sem_runs mix T7_sound Try.func9 a9_ok (runs_law k b hk)
namespace digestSums
theorem law_holds (dvs : List DV) (h : Ty.Args [.sl (.int .u8)] dvs) : Am.Sem P 9 dvs (.bool true) := by
  obtain ⟨ds, l, rfl, h1, rfl⟩ := h
  obtain ⟨k, b, hk, rfl⟩ := ok_bytes h1
  exact sem_law k b hk
end digestSums
end Go.Proofs.Ythkcgeokfcbllaa
