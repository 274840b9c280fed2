/-
  The laws OnetimeClimbs, OnetimeSteps and OnetimeSigns on any arguments.
-/
import Derived.Test.YthkcgeokfcbllaaUl
set_option linter.unusedSimpArgs false
set_option linter.unusedVariables false
namespace Go.Proofs.Ythkcgeokfcbllaa
open Go Go.Am

theorem ok_halves {ds : List DV} (h : Ty.Ok (.sl (.arr 16 (.int .u8))) ds) : ∃ (k : Option Bool) (l : List (List B8)), (k = none → l = []) ∧ FN 16 l ∧ ds = [hD k l] := by
  obtain ⟨k, l, hk, hw, rfl⟩ := ok_sl (f := List.map w8) (R := fun a => a.length = 16) (fun ds h => ok_words h) h
  exact ⟨k, l, hk, hw, rfl⟩
theorem ok_ints {n : Nat} {ds : List DV} (h : Ty.Ok (.arr n (.int .i64)) ds) : ∃ l : List Int, l.length = n ∧ ds = l.map (DV.int .i64) := by
  obtain ⟨l, h1, _, h3⟩ := ok_arr (f := fun a : Int => [DV.int .i64 a]) (R := fun a => -9223372036854775808 ≤ a ∧ a ≤ 9223372036854775807) (fun ds h => ok_i64 h) h
  exact ⟨l, h1, by rw [h3, flatMap_one]⟩
namespace onetimeClimbs
theorem law_holds (dvs : List DV) (h : Ty.Args [.arr 16 (.int .u8), .arr 2 (.int .i64), .arr 3 (.int .i64)] dvs) : Am.Sem P 5 dvs (.bool true) := by
  obtain ⟨ds, l, rfl, h1, d2, l2, rfl, h2, d3, l3, rfl, h3, rfl⟩ := h
  obtain ⟨x, hx, rfl⟩ := ok_words h1
  obtain ⟨n, hn, rfl⟩ := ok_ints h2
  obtain ⟨a, ha, rfl⟩ := ok_ints h3
  match n, a, hn, ha with
  | [n0, n1], [a0, a1, a2], _, _ => exact sem_runs mix T23_sound Try.func5 a5_ok (runs_lawclimbs x n0 n1 a0 a1 a2 hx)
end onetimeClimbs
namespace onetimeSteps
theorem law_holds (dvs : List DV) (h : Ty.Args [.arr 16 (.int .u8), .arr 4 (.int .i64), .sl (.arr 16 (.int .u8))] dvs) : Am.Sem P 6 dvs (.bool true) := by
  obtain ⟨ds, l, rfl, h1, d2, l2, rfl, h2, d3, l3, rfl, h3, rfl⟩ := h
  obtain ⟨x, hx, rfl⟩ := ok_words h1
  obtain ⟨n, hn, rfl⟩ := ok_ints h2
  obtain ⟨k, l, hk, hl, rfl⟩ := ok_halves h3
  match n, hn with
  | [n0, n1, n2, n3], _ => exact sem_runs mix T23_sound Try.func6 a6_ok (runs_lawsteps x n0 n1 n2 n3 k l hx hk hl)
end onetimeSteps
namespace onetimeSigns
theorem law_holds (dvs : List DV) (h : Ty.Args [.st [.arr 16 (.int .u8), .int .i64], .arr 32 (.int .u8), .sl (.arr 16 (.int .u8))] dvs) : Am.Sem P 7 dvs (.bool true) := by
  obtain ⟨ds, l, rfl, h1, d2, l2, rfl, h2, d3, l3, rfl, h3, rfl⟩ := h
  obtain ⟨a, b, rfl, ha, a', b', rfl, hb, hb'⟩ := h1
  have hb' : b' = [] := hb'
  subst hb'
  obtain ⟨x, hx, rfl⟩ := ok_words ha
  obtain ⟨n, _, rfl⟩ := ok_i64 hb
  obtain ⟨d, hd, rfl⟩ := ok_words h2
  obtain ⟨k, l, hk, hl, rfl⟩ := ok_halves h3
  exact sem_runs mix T24_sound Try.func7 a7_ok (runs_lawsigns x n d k l hx hd hk hl)
end onetimeSigns
end Go.Proofs.Ythkcgeokfcbllaa
