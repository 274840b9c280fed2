/-
  The laws OnetimeDigits and OnetimeApart on any arguments.
-/
import Derived.Test.YthkcgeokfcbllaaUe
set_option linter.unusedSimpArgs false
set_option linter.unusedVariables false
namespace Go.Proofs.Ythkcgeokfcbllaa
open Go Go.Am

theorem sem_lawdigits (d : List B8) (hd : d.length = 32) : Am.Sem P 3 [.agg (d.map w8)] (.bool true) := sem_runs mix T21_sound Try.func3 a3_ok (runs_lawdigits d hd)
theorem sem_apart (d e : List B8) (hd : d.length = 32) (he : e.length = 32) : Am.Sem P 4 [.agg (d.map w8), .agg (e.map w8)] (.bool true) := sem_runs mix T21_sound Try.func4 a4_ok (runs_apart d e hd he)
namespace onetimeDigits
theorem law_holds (dvs : List DV) (h : Ty.Args [.arr 32 (.int .u8)] dvs) : Am.Sem P 3 dvs (.bool true) := by
  obtain ⟨ds, l, rfl, h1, rfl⟩ := h
  obtain ⟨x, hx, rfl⟩ := ok_words h1
  exact sem_lawdigits x hx
end onetimeDigits
namespace onetimeApart
theorem law_holds (dvs : List DV) (h : Ty.Args [.arr 32 (.int .u8), .arr 32 (.int .u8)] dvs) : Am.Sem P 4 dvs (.bool true) := by
  obtain ⟨ds, l, rfl, h1, d2, l2, rfl, h2, rfl⟩ := h
  obtain ⟨x, hx, rfl⟩ := ok_words h1
  obtain ⟨y, hy, rfl⟩ := ok_words h2
  exact sem_apart x y hx hy
end onetimeApart
end Go.Proofs.Ythkcgeokfcbllaa
