/-
  Functions of this claim, as the abstract machine has them. MADE BY A PROGRAM of mine.
-/
import Derived.Test.YthkcgeokfcbllaaAmW
import Derived.Test.YthkcgeokfcbllaaFe
set_option linter.unusedSimpArgs false
set_option linter.unusedVariables false
namespace Go.Proofs.Ythkcgeokfcbllaa
open Go Go.Am
-- 8 admission/admissionlaw08.OnetimeRecovers
def a8 : AFn where
  code := (.seq (.region false [⟨none, (some 3), .box (.t 0)⟩,
    ⟨none, (some 5), .box (.t 2)⟩,
    ⟨none, (some 6), .mov (.k (.bool false))⟩])
  (.seq (.region false [⟨none, (some 12), .load 16 true (.t 3)⟩,
    ⟨none, (some 13), .mov (.t 1)⟩,
    ⟨none, (some 14), .load 32 true (.t 5)⟩,
    ⟨none, (some 15), .call (.k (.fn (.func 30) [] [])) [(.t 12), (.t 13), (.t 14)]⟩,
    ⟨none, (some 7), .mov (.t 15)⟩])
  (.seq (.region false [⟨none, (some 17), .mov (.t 1)⟩,
    ⟨none, (some 18), .load 32 true (.t 5)⟩,
    ⟨none, (some 19), .mov (.t 7)⟩,
    ⟨none, (some 20), .call (.k (.fn (.func 25) [] [])) [(.t 17), (.t 18), (.t 19)]⟩,
    ⟨none, (some 16), .mov (.t 20)⟩,
    ⟨none, (some 21), .ext (.t 16) 0⟩,
    ⟨none, (some 22), .ext (.t 16) 1⟩,
    ⟨none, (some 8), .alloc (rep 16 (w8 0#8))⟩,
    ⟨none, none, .store 16 (.t 8) (.t 21)⟩,
    ⟨none, (some 9), .mov (.t 22)⟩])
  (.seq (.seq (.region true [⟨none, (some 23), .mov (.t 9)⟩,
    ⟨none, (some 24), .un .not (.t 23)⟩,
    ⟨none, (some 25), .mov (.t 24)⟩,
    ⟨(some (25, false)), (some 26), .load 16 true (.t 8)⟩,
    ⟨(some (25, false)), (some 27), .load 16 true (.t 3)⟩,
    ⟨(some (25, false)), (some 28), .mov (.t 1)⟩,
    ⟨(some (25, false)), (some 29), .call (.k (.fn (.func 27) [] [])) [(.t 27), (.t 28)]⟩,
    ⟨(some (25, false)), (some 30), .eqa true [(16, 0)] (.t 26) (.t 29)⟩,
    ⟨none, (some 31), .pick (.t 25) (.k (.bool true)) (.t 30)⟩,
    ⟨none, (some 32), .mov (.t 31)⟩,
    ⟨(some (32, false)), (some 33), .mov (.t 7)⟩,
    ⟨(some (32, false)), (some 34), .len (.t 33)⟩,
    ⟨(some (32, false)), (some 35), .bin .neq (.t 34) (.k (.int .i64 68))⟩,
    ⟨none, (some 36), .pick (.t 32) (.k (.bool true)) (.t 35)⟩])
  (.cond (.t 36) (.seq (.region false [⟨none, (some 6), .mov (.k (.bool false))⟩])
  .ret)
  .skip))
  (.seq (.region true [⟨none, (some 38), .mov (.t 1)⟩,
    ⟨none, (some 39), .load 32 true (.t 5)⟩,
    ⟨none, (some 40), .mov (.t 7)⟩,
    ⟨none, (some 41), .slcS 16 (.t 40) none (some (.k (.int .i64 67))) none⟩,
    ⟨none, (some 42), .call (.k (.fn (.func 25) [] [])) [(.t 38), (.t 39), (.t 41)]⟩,
    ⟨none, (some 37), .mov (.t 42)⟩,
    ⟨none, (some 43), .ext (.t 37) 0⟩,
    ⟨none, (some 44), .ext (.t 37) 1⟩,
    ⟨none, (some 10), .alloc (rep 16 (w8 0#8))⟩,
    ⟨none, none, .store 16 (.t 10) (.t 43)⟩,
    ⟨none, (some 11), .mov (.t 44)⟩])
  (.seq (.region false [⟨none, (some 45), .call (.k (.fn (.func 18) [] [])) []⟩,
    ⟨none, (some 46), .mov (.t 45)⟩,
    ⟨(some (46, true)), (some 47), .mov (.t 11)⟩,
    ⟨(some (46, true)), (some 48), .un .not (.t 47)⟩,
    ⟨none, (some 49), .pick (.t 46) (.t 48) (.k (.bool false))⟩,
    ⟨none, (some 6), .mov (.t 49)⟩])
  .ret))))))
  ntmps := 50
  res := [.tmp 6]

theorem a8_ok : compileFn P Try.f8 = some a8 := by kernel_rfl

end Go.Proofs.Ythkcgeokfcbllaa
