/-
  Functions of this claim, as the abstract machine has them. MADE BY A PROGRAM of mine.
-/
import Derived.Test.YtjhakjeioppijaaWg
set_option linter.unusedSimpArgs false
set_option linter.unusedVariables false
namespace Go.Proofs.Ytjhakjeioppijaa
open Go Go.Am
-- 8 admission/admissionlaw37.awake
def a8 : AFn where
  code := (.seq (.region false [⟨none, (some 0), .mov (.k (.bool false))⟩])
  (.seq (.region false [⟨none, (some 11), .build [.nils, .nils, (.int .i64 0)] [(2, 1, (.k (.int .i64 1)))]⟩,
    ⟨none, (some 12), .build (rep 32 (w8 0#8)) [(0, 1, (.k (w8 1#8)))]⟩,
    ⟨none, (some 13), .bsl 32 1 (rep 32 (w8 0#8)) [(0, 32, (.t 12))]⟩,
    ⟨none, (some 14), .build [(.str []), (.str []), (.int .i64 0), (.int .i64 0), (.int .i64 0), .nils] [(0, 1, (.k (.str [97]))), (1, 1, (.k (.str [98]))), (2, 1, (.k (.int .i64 1))), (5, 1, (.t 13))]⟩,
    ⟨none, (some 15), .call (.k (.fn (.func 4) [] [])) [(.t 11), (.t 14)]⟩,
    ⟨none, (some 10), .mov (.t 15)⟩,
    ⟨none, (some 16), .ext (.t 10) 0⟩,
    ⟨none, (some 17), .ext (.t 10) 1⟩,
    ⟨none, (some 1), .alloc [.nils, .nils, (.int .i64 0)]⟩,
    ⟨none, none, .store 3 (.t 1) (.t 16)⟩,
    ⟨none, (some 2), .mov (.t 17)⟩])
  (.seq (.region false [⟨none, (some 19), .load 3 true (.t 1)⟩,
    ⟨none, (some 20), .build (rep 32 (w8 0#8)) [(0, 1, (.k (w8 1#8)))]⟩,
    ⟨none, (some 21), .call (.k (.fn (.func 5) [] [])) [(.t 19), (.k (.int .i64 0)), (.t 20), (.k (.int .i64 5))]⟩,
    ⟨none, (some 18), .mov (.t 21)⟩,
    ⟨none, (some 22), .ext (.t 18) 0⟩,
    ⟨none, (some 23), .ext (.t 18) 1⟩,
    ⟨none, (some 24), .ext (.t 18) 2⟩,
    ⟨none, (some 3), .alloc [.nils, .nils, (.int .i64 0)]⟩,
    ⟨none, none, .store 3 (.t 3) (.t 22)⟩,
    ⟨none, (some 4), .mov (.t 23)⟩,
    ⟨none, (some 5), .mov (.t 24)⟩])
  (.seq (.region false [⟨none, (some 26), .load 3 true (.t 3)⟩,
    ⟨none, (some 27), .call (.k (.fn (.func 6) [] [])) [(.t 26), (.k (.int .i64 1)), (.k (.int .i64 6))]⟩,
    ⟨none, (some 25), .mov (.t 27)⟩,
    ⟨none, (some 28), .ext (.t 25) 0⟩,
    ⟨none, (some 29), .ext (.t 25) 1⟩,
    ⟨none, (some 6), .alloc [.nils, .nils, (.int .i64 0)]⟩,
    ⟨none, none, .store 3 (.t 6) (.t 28)⟩,
    ⟨none, (some 7), .mov (.t 29)⟩])
  (.seq (.region false [⟨none, (some 31), .load 3 true (.t 6)⟩,
    ⟨none, (some 32), .call (.k (.fn (.func 6) [] [])) [(.t 31), (.k (.int .i64 1)), (.k (.int .i64 7))]⟩,
    ⟨none, (some 30), .mov (.t 32)⟩,
    ⟨none, (some 33), .ext (.t 30) 0⟩,
    ⟨none, (some 34), .ext (.t 30) 1⟩,
    ⟨none, (some 8), .alloc [.nils, .nils, (.int .i64 0)]⟩,
    ⟨none, none, .store 3 (.t 8) (.t 33)⟩,
    ⟨none, (some 9), .mov (.t 34)⟩])
  (.seq (.region false [⟨none, (some 35), .mov (.t 2)⟩,
    ⟨none, (some 36), .bin .eql (.t 35) (.k (.int .i64 0))⟩,
    ⟨none, (some 37), .mov (.t 36)⟩,
    ⟨(some (37, true)), (some 38), .mov (.t 5)⟩,
    ⟨(some (37, true)), (some 39), .bin .eql (.t 38) (.k (.int .i64 0))⟩,
    ⟨none, (some 40), .pick (.t 37) (.t 39) (.k (.bool false))⟩,
    ⟨none, (some 41), .mov (.t 40)⟩,
    ⟨(some (41, true)), (some 42), .mov (.t 7)⟩,
    ⟨(some (41, true)), (some 43), .bin .eql (.t 42) (.k (.int .i64 0))⟩,
    ⟨none, (some 44), .pick (.t 41) (.t 43) (.k (.bool false))⟩,
    ⟨none, (some 45), .mov (.t 44)⟩,
    ⟨(some (45, true)), (some 46), .mov (.t 4)⟩,
    ⟨(some (45, true)), (some 47), .bin .eql (.t 46) (.k (.int .i64 1))⟩,
    ⟨none, (some 48), .pick (.t 45) (.t 47) (.k (.bool false))⟩,
    ⟨none, (some 49), .mov (.t 48)⟩,
    ⟨(some (49, true)), (some 50), .fld 1 (.t 6)⟩,
    ⟨(some (49, true)), (some 51), .load 1 false (.t 50)⟩,
    ⟨(some (49, true)), (some 52), .idxS 37 (.t 51) (.k (.int .i64 0))⟩,
    ⟨(some (49, true)), (some 53), .fld 34 (.t 52)⟩,
    ⟨(some (49, true)), (some 54), .load 1 false (.t 53)⟩,
    ⟨(some (49, true)), (some 55), .bin .eql (.t 54) (.k (.int .i64 2))⟩,
    ⟨none, (some 56), .pick (.t 49) (.t 55) (.k (.bool false))⟩,
    ⟨none, (some 57), .mov (.t 56)⟩,
    ⟨(some (57, true)), (some 58), .mov (.t 9)⟩,
    ⟨(some (57, true)), (some 59), .bin .eql (.t 58) (.k (.int .i64 30))⟩,
    ⟨none, (some 60), .pick (.t 57) (.t 59) (.k (.bool false))⟩,
    ⟨none, (some 61), .mov (.t 60)⟩,
    ⟨(some (61, true)), (some 62), .load 3 true (.t 6)⟩,
    ⟨(some (61, true)), (some 63), .call (.k (.fn (.func 9) [] [])) [(.t 62)]⟩,
    ⟨none, (some 64), .pick (.t 61) (.t 63) (.k (.bool false))⟩,
    ⟨none, (some 65), .mov (.t 64)⟩,
    ⟨(some (65, true)), (some 66), .load 3 true (.t 6)⟩,
    ⟨(some (65, true)), (some 67), .call (.k (.fn (.func 18) [] [])) [(.t 66), (.k (.int .i64 1))]⟩,
    ⟨(some (65, true)), (some 68), .bin .eql (.t 67) (.k (.int .i64 0))⟩,
    ⟨none, (some 69), .pick (.t 65) (.t 68) (.k (.bool false))⟩,
    ⟨none, (some 70), .mov (.t 69)⟩,
    ⟨(some (70, true)), (some 71), .load 3 true (.t 6)⟩,
    ⟨(some (70, true)), (some 72), .call (.k (.fn (.func 11) [] [])) [(.t 71), (.k (.str [97])), (.k (.str [98]))]⟩,
    ⟨(some (70, true)), (some 73), .bin .eql (.t 72) (.k (.int .i64 0))⟩,
    ⟨none, (some 74), .pick (.t 70) (.t 73) (.k (.bool false))⟩,
    ⟨none, (some 0), .mov (.t 74)⟩])
  .ret))))))
  ntmps := 75
  res := [.tmp 0]

theorem a8_ok : compileFn P Try.f8 = some a8 := by kernel_rfl

-- 3 admission/admissionlaw37.WorkloadLife
def a3L0 : ACode :=
  (.seq (.seq (.region false [⟨none, (some 31), .mov (.t 8)⟩,
    ⟨none, (some 32), .mov (.t 0)⟩,
    ⟨none, (some 33), .len (.t 32)⟩,
    ⟨none, (some 34), .bin .lss (.t 31) (.t 33)⟩,
    ⟨none, (some 35), .mov (.t 34)⟩,
    ⟨(some (35, true)), (some 36), .mov (.t 8)⟩,
    ⟨(some (35, true)), (some 37), .bin .lss (.t 36) (.k (.int .i64 12))⟩,
    ⟨none, (some 38), .pick (.t 35) (.t 37) (.k (.bool false))⟩])
  (.cond (.t 38) .skip
  (.exit 0)))
  (.seq (.block 1 (.seq (.region false [⟨none, (some 9), .mov (.k (.int .i64 0))⟩])
  (.seq (.region false [⟨none, (some 10), .alloc [.nils, .nils, (.int .i64 0)]⟩])
  (.seq (.region false [⟨none, (some 11), .mov (.k (.int .i64 0))⟩])
  (.seq (.seq (.region false [⟨none, (some 41), .mov (.t 0)⟩,
    ⟨none, (some 42), .mov (.t 8)⟩,
    ⟨none, (some 43), .idxS 1 (.t 41) (.t 42)⟩,
    ⟨none, (some 44), .load 1 false (.t 43)⟩,
    ⟨none, (some 45), .bin .and (.t 44) (.k (.int .i64 1))⟩,
    ⟨none, (some 46), .bin .eql (.t 45) (.k (.int .i64 0))⟩])
  (.cond (.t 46) (.seq (.region false [⟨none, (some 48), .load 3 true (.t 3)⟩,
    ⟨none, (some 49), .mov (.t 5)⟩,
    ⟨none, (some 50), .mov (.t 8)⟩,
    ⟨none, (some 51), .call (.k (.fn (.func 6) [] [])) [(.t 48), (.t 49), (.t 50)]⟩,
    ⟨none, (some 47), .mov (.t 51)⟩,
    ⟨none, (some 52), .ext (.t 47) 0⟩,
    ⟨none, (some 53), .ext (.t 47) 1⟩,
    ⟨none, none, .store 3 (.t 10) (.t 52)⟩,
    ⟨none, (some 9), .mov (.t 53)⟩])
  (.seq (.region false [⟨none, (some 54), .mov (.t 7)⟩,
    ⟨none, (some 55), .bin .neq (.t 54) (.k (.int .i64 1))⟩])
  (.cond (.t 55) (.region false [⟨none, (some 11), .mov (.k (.int .i64 30))⟩])
  (.region false [⟨none, (some 7), .mov (.k (.int .i64 2))⟩]))))
  (.seq (.region false [⟨none, (some 57), .load 3 true (.t 3)⟩,
    ⟨none, (some 58), .mov (.t 5)⟩,
    ⟨none, (some 59), .mov (.t 8)⟩,
    ⟨none, (some 60), .call (.k (.fn (.func 7) [] [])) [(.t 57), (.t 58), (.t 59)]⟩,
    ⟨none, (some 56), .mov (.t 60)⟩,
    ⟨none, (some 61), .ext (.t 56) 0⟩,
    ⟨none, (some 62), .ext (.t 56) 1⟩,
    ⟨none, none, .store 3 (.t 10) (.t 61)⟩,
    ⟨none, (some 9), .mov (.t 62)⟩])
  (.seq (.seq (.region false [⟨none, (some 63), .mov (.t 7)⟩,
    ⟨none, (some 64), .bin .eql (.t 63) (.k (.int .i64 3))⟩])
  (.cond (.t 64) (.region false [⟨none, (some 11), .mov (.k (.int .i64 30))⟩])
  .skip))
  (.region false [⟨none, (some 7), .mov (.k (.int .i64 3))⟩])))))
  (.seq (.seq (.region false [⟨none, (some 65), .mov (.t 9)⟩,
    ⟨none, (some 66), .mov (.t 11)⟩,
    ⟨none, (some 67), .bin .neq (.t 65) (.t 66)⟩])
  (.cond (.t 67) (.seq (.region false [⟨none, (some 2), .mov (.k (.bool false))⟩])
  .ret)
  .skip))
  (.seq (.seq (.region false [⟨none, (some 68), .mov (.t 9)⟩,
    ⟨none, (some 69), .bin .eql (.t 68) (.k (.int .i64 0))⟩])
  (.cond (.t 69) (.region false [⟨none, (some 70), .load 3 true (.t 10)⟩,
    ⟨none, none, .store 3 (.t 3) (.t 70)⟩])
  .skip))
  (.seq (.region false [⟨none, (some 71), .fld 1 (.t 3)⟩,
    ⟨none, (some 72), .load 1 false (.t 71)⟩,
    ⟨none, (some 73), .len (.t 72)⟩,
    ⟨none, (some 74), .bin .neq (.t 73) (.k (.int .i64 1))⟩,
    ⟨none, (some 75), .mov (.t 74)⟩,
    ⟨(some (75, false)), (some 76), .fld 1 (.t 3)⟩,
    ⟨(some (75, false)), (some 77), .load 1 false (.t 76)⟩,
    ⟨(some (75, false)), (some 78), .idxS 37 (.t 77) (.k (.int .i64 0))⟩,
    ⟨(some (75, false)), (some 79), .fld 34 (.t 78)⟩,
    ⟨(some (75, false)), (some 80), .load 1 false (.t 79)⟩,
    ⟨(some (75, false)), (some 81), .mov (.t 7)⟩,
    ⟨(some (75, false)), (some 82), .bin .neq (.t 80) (.t 81)⟩,
    ⟨none, (some 83), .pick (.t 75) (.k (.bool true)) (.t 82)⟩])
  (.cond (.t 83) (.seq (.region false [⟨none, (some 2), .mov (.k (.bool false))⟩])
  .ret)
  .skip)))))))))
  (.region false [⟨none, (some 39), .mov (.t 8)⟩,
    ⟨none, (some 40), .bin .add (.t 39) (.k (.int .i64 1))⟩,
    ⟨none, (some 8), .mov (.t 40)⟩])))
/-- 0:steps 3:c 5:id 7:state 8:i -/
def a3S0 (x0 x3 x5 x7 x8 : DV) (h : List AObj) : St := ⟨[x0, .junk, .junk, x3, .junk, x5, .junk, x7, x8] ++ js 76, h⟩

def a3 : AFn where
  code := (.seq (.region false [⟨none, (some 2), .mov (.k (.bool false))⟩])
  (.seq (.region false [⟨none, (some 13), .build [.nils, .nils, (.int .i64 0)] [(2, 1, (.k (.int .i64 1)))]⟩,
    ⟨none, (some 14), .build [(.str []), (.str []), (.int .i64 0), (.int .i64 0), (.int .i64 0), .nils] [(0, 1, (.k (.str [97]))), (1, 1, (.k (.str [98]))), (2, 1, (.k (.int .i64 1)))]⟩,
    ⟨none, (some 15), .call (.k (.fn (.func 4) [] [])) [(.t 13), (.t 14)]⟩,
    ⟨none, (some 12), .mov (.t 15)⟩,
    ⟨none, (some 16), .ext (.t 12) 0⟩,
    ⟨none, (some 17), .ext (.t 12) 1⟩,
    ⟨none, (some 3), .alloc [.nils, .nils, (.int .i64 0)]⟩,
    ⟨none, none, .store 3 (.t 3) (.t 16)⟩,
    ⟨none, (some 4), .mov (.t 17)⟩])
  (.seq (.region false [⟨none, (some 19), .load 3 true (.t 3)⟩,
    ⟨none, (some 20), .build (rep 32 (w8 0#8)) [(0, 1, (.k (w8 1#8)))]⟩,
    ⟨none, (some 21), .call (.k (.fn (.func 5) [] [])) [(.t 19), (.k (.int .i64 0)), (.t 20), (.k (.int .i64 0))]⟩,
    ⟨none, (some 18), .mov (.t 21)⟩,
    ⟨none, (some 22), .ext (.t 18) 0⟩,
    ⟨none, (some 23), .ext (.t 18) 1⟩,
    ⟨none, (some 24), .ext (.t 18) 2⟩,
    ⟨none, none, .store 3 (.t 3) (.t 22)⟩,
    ⟨none, (some 5), .mov (.t 23)⟩,
    ⟨none, (some 6), .mov (.t 24)⟩])
  (.seq (.seq (.region false [⟨none, (some 25), .mov (.t 4)⟩,
    ⟨none, (some 26), .bin .neq (.t 25) (.k (.int .i64 0))⟩,
    ⟨none, (some 27), .mov (.t 26)⟩,
    ⟨(some (27, false)), (some 28), .mov (.t 6)⟩,
    ⟨(some (27, false)), (some 29), .bin .neq (.t 28) (.k (.int .i64 0))⟩,
    ⟨none, (some 30), .pick (.t 27) (.k (.bool true)) (.t 29)⟩])
  (.cond (.t 30) (.seq (.region false [⟨none, (some 2), .mov (.k (.bool false))⟩])
  .ret)
  .skip))
  (.seq (.region false [⟨none, (some 7), .mov (.k (.int .i64 1))⟩])
  (.seq (.seq (.region false [⟨none, (some 8), .mov (.k (.int .i64 0))⟩])
  (.block 0 (.loop a3L0)))
  (.seq (.region false [⟨none, (some 84), .call (.k (.fn (.func 8) [] [])) []⟩,
    ⟨none, (some 2), .mov (.t 84)⟩])
  .ret)))))))
  ntmps := 85
  res := [.tmp 2]

theorem a3_ok : compileFn P Try.f3 = some a3 := by kernel_rfl

end Go.Proofs.Ytjhakjeioppijaa
