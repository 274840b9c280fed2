/-
  6 texts of mine in one.
-/
import Derived.Test.YtjhakjeioppijaaDoorC5f0ea989
import Derived.Test.YtjhakjeioppijaaDoorC950dc02d
import Derived.Test.YtjhakjeioppijaaDoorC0aefe577
import Derived.Test.YtjhakjeioppijaaDoorC05f1b330
import Derived.Test.YtjhakjeioppijaaDoorC9d4f9457
set_option linter.unusedSimpArgs false
set_option linter.unusedVariables false
namespace Go.Proofs.YtjhakjeioppijaaDoor
open Go Go.Am
def a17 : AFn where
  code := (.seq (.region false [⟨none, (some 0), .mov (.k (.bool false))⟩])
  (.seq (.region false [⟨none, (some 11), .build [.nils, .nils, (.int .i64 0)] [(2, 1, (.k (.int .i64 1)))]⟩,
    ⟨none, (some 12), .build (rep 32 (w8 0#8)) [(0, 1, (.k (w8 1#8)))]⟩,
    ⟨none, (some 13), .bsl 32 1 (rep 32 (w8 0#8)) [(0, 32, (.t 12))]⟩,
    ⟨none, (some 14), .build [(.str []), (.str []), (.int .i64 0), (.int .i64 0), (.int .i64 0), .nils] [(0, 1, (.k (.str [97]))), (1, 1, (.k (.str [98]))), (2, 1, (.k (.int .i64 1))), (5, 1, (.t 13))]⟩,
    ⟨none, (some 15), .call (.k (.fn (.func 35) [] [])) [(.t 11), (.t 14)]⟩,
    ⟨none, (some 10), .mov (.t 15)⟩,
    ⟨none, (some 16), .ext (.t 10) 0⟩,
    ⟨none, (some 17), .ext (.t 10) 1⟩,
    ⟨none, (some 1), .alloc [.nils, .nils, (.int .i64 0)]⟩,
    ⟨none, none, .store 3 (.t 1) (.t 16)⟩,
    ⟨none, (some 2), .mov (.t 17)⟩])
  (.seq (.region false [⟨none, (some 19), .load 3 true (.t 1)⟩,
    ⟨none, (some 20), .build (rep 32 (w8 0#8)) [(0, 1, (.k (w8 1#8)))]⟩,
    ⟨none, (some 21), .call (.k (.fn (.func 32) [] [])) [(.t 19), (.k (.int .i64 0)), (.t 20), (.k (.int .i64 5))]⟩,
    ⟨none, (some 18), .mov (.t 21)⟩,
    ⟨none, (some 22), .ext (.t 18) 0⟩,
    ⟨none, (some 23), .ext (.t 18) 1⟩,
    ⟨none, (some 24), .ext (.t 18) 2⟩,
    ⟨none, (some 3), .alloc [.nils, .nils, (.int .i64 0)]⟩,
    ⟨none, none, .store 3 (.t 3) (.t 22)⟩,
    ⟨none, (some 4), .mov (.t 23)⟩,
    ⟨none, (some 5), .mov (.t 24)⟩])
  (.seq (.region false [⟨none, (some 26), .load 3 true (.t 3)⟩,
    ⟨none, (some 27), .call (.k (.fn (.func 38) [] [])) [(.t 26), (.k (.int .i64 1)), (.k (.int .i64 6))]⟩,
    ⟨none, (some 25), .mov (.t 27)⟩,
    ⟨none, (some 28), .ext (.t 25) 0⟩,
    ⟨none, (some 29), .ext (.t 25) 1⟩,
    ⟨none, (some 6), .alloc [.nils, .nils, (.int .i64 0)]⟩,
    ⟨none, none, .store 3 (.t 6) (.t 28)⟩,
    ⟨none, (some 7), .mov (.t 29)⟩])
  (.seq (.region false [⟨none, (some 31), .load 3 true (.t 6)⟩,
    ⟨none, (some 32), .call (.k (.fn (.func 38) [] [])) [(.t 31), (.k (.int .i64 1)), (.k (.int .i64 7))]⟩,
    ⟨none, (some 30), .mov (.t 32)⟩,
    ⟨none, (some 33), .ext (.t 30) 0⟩,
    ⟨none, (some 34), .ext (.t 30) 1⟩,
    ⟨none, (some 8), .alloc [.nils, .nils, (.int .i64 0)]⟩,
    ⟨none, none, .store 3 (.t 8) (.t 33)⟩,
    ⟨none, (some 9), .mov (.t 34)⟩])
  (.seq (.region false [⟨none, (some 35), .mov (.t 2)⟩,
    ⟨none, (some 36), .bin .eql (.t 35) (.k (.int .i64 0))⟩,
    ⟨none, (some 37), .mov (.t 36)⟩,
    ⟨(some (37, true)), (some 38), .mov (.t 5)⟩,
    ⟨(some (37, true)), (some 39), .bin .eql (.t 38) (.k (.int .i64 0))⟩,
    ⟨none, (some 40), .pick (.t 37) (.t 39) (.k (.bool false))⟩,
    ⟨none, (some 41), .mov (.t 40)⟩,
    ⟨(some (41, true)), (some 42), .mov (.t 7)⟩,
    ⟨(some (41, true)), (some 43), .bin .eql (.t 42) (.k (.int .i64 0))⟩,
    ⟨none, (some 44), .pick (.t 41) (.t 43) (.k (.bool false))⟩,
    ⟨none, (some 45), .mov (.t 44)⟩,
    ⟨(some (45, true)), (some 46), .mov (.t 4)⟩,
    ⟨(some (45, true)), (some 47), .bin .eql (.t 46) (.k (.int .i64 1))⟩,
    ⟨none, (some 48), .pick (.t 45) (.t 47) (.k (.bool false))⟩,
    ⟨none, (some 49), .mov (.t 48)⟩,
    ⟨(some (49, true)), (some 50), .fld 1 (.t 6)⟩,
    ⟨(some (49, true)), (some 51), .load 1 false (.t 50)⟩,
    ⟨(some (49, true)), (some 52), .idxS 37 (.t 51) (.k (.int .i64 0))⟩,
    ⟨(some (49, true)), (some 53), .fld 34 (.t 52)⟩,
    ⟨(some (49, true)), (some 54), .load 1 false (.t 53)⟩,
    ⟨(some (49, true)), (some 55), .bin .eql (.t 54) (.k (.int .i64 2))⟩,
    ⟨none, (some 56), .pick (.t 49) (.t 55) (.k (.bool false))⟩,
    ⟨none, (some 57), .mov (.t 56)⟩,
    ⟨(some (57, true)), (some 58), .mov (.t 9)⟩,
    ⟨(some (57, true)), (some 59), .bin .eql (.t 58) (.k (.int .i64 30))⟩,
    ⟨none, (some 60), .pick (.t 57) (.t 59) (.k (.bool false))⟩,
    ⟨none, (some 61), .mov (.t 60)⟩,
    ⟨(some (61, true)), (some 62), .load 3 true (.t 6)⟩,
    ⟨(some (61, true)), (some 63), .call (.k (.fn (.func 20) [] [])) [(.t 62)]⟩,
    ⟨none, (some 64), .pick (.t 61) (.t 63) (.k (.bool false))⟩,
    ⟨none, (some 65), .mov (.t 64)⟩,
    ⟨(some (65, true)), (some 66), .load 3 true (.t 6)⟩,
    ⟨(some (65, true)), (some 67), .call (.k (.fn (.func 24) [] [])) [(.t 66), (.k (.int .i64 1))]⟩,
    ⟨(some (65, true)), (some 68), .bin .eql (.t 67) (.k (.int .i64 0))⟩,
    ⟨none, (some 69), .pick (.t 65) (.t 68) (.k (.bool false))⟩,
    ⟨none, (some 70), .mov (.t 69)⟩,
    ⟨(some (70, true)), (some 71), .load 3 true (.t 6)⟩,
    ⟨(some (70, true)), (some 72), .call (.k (.fn (.func 22) [] [])) [(.t 71), (.k (.str [97])), (.k (.str [98]))]⟩,
    ⟨(some (70, true)), (some 73), .bin .eql (.t 72) (.k (.int .i64 0))⟩,
    ⟨none, (some 74), .pick (.t 70) (.t 73) (.k (.bool false))⟩,
    ⟨none, (some 0), .mov (.t 74)⟩])
  .ret))))))
  ntmps := 75
  res := [.tmp 0]
theorem a17_ok : compileFn P Tryd.f17 = some a17 := by kernel_rfl
def a15L0 : ACode :=
  (.seq (.seq (.region false [⟨none, (some 4), .mov (.t 3)⟩,
    ⟨none, (some 5), .fld 0 (.t 1)⟩,
    ⟨none, (some 6), .load 1 false (.t 5)⟩,
    ⟨none, (some 7), .len (.t 6)⟩,
    ⟨none, (some 8), .bin .lss (.t 4) (.t 7)⟩])
  (.cond (.t 8) .skip
  (.exit 0)))
  (.seq (.block 1 (.seq (.region false [⟨none, (some 11), .fld 0 (.t 1)⟩,
    ⟨none, (some 12), .load 1 false (.t 11)⟩,
    ⟨none, (some 13), .mov (.t 3)⟩,
    ⟨none, (some 14), .idxS 6 (.t 12) (.t 13)⟩,
    ⟨none, (some 15), .load 6 true (.t 14)⟩,
    ⟨none, (some 16), .call (.k (.fn (.func 16) [] [])) [(.t 15)]⟩,
    ⟨none, (some 17), .un .not (.t 16)⟩])
  (.cond (.t 17) (.seq (.region false [⟨none, (some 2), .mov (.k (.bool false))⟩])
  .ret)
  .skip)))
  (.region false [⟨none, (some 9), .mov (.t 3)⟩,
    ⟨none, (some 10), .bin .add (.t 9) (.k (.int .i64 1))⟩,
    ⟨none, (some 3), .mov (.t 10)⟩])))
def a15S0 (x1 x3 : DV) (h : List AObj) : St := ⟨[.junk, x1, .junk, x3] ++ js 24, h⟩
def a15 : AFn where
  code := (.seq (.region false [⟨none, (some 1), .box (.t 0)⟩,
    ⟨none, (some 2), .mov (.k (.bool false))⟩])
  (.seq (.seq (.region false [⟨none, (some 3), .mov (.k (.int .i64 0))⟩])
  (.block 0 (.loop a15L0)))
  (.seq (.region false [⟨none, (some 18), .fld 0 (.t 1)⟩,
    ⟨none, (some 19), .load 1 false (.t 18)⟩,
    ⟨none, (some 20), .len (.t 19)⟩,
    ⟨none, (some 21), .bin .leq (.t 20) (.k (.int .i64 20))⟩,
    ⟨none, (some 22), .mov (.t 21)⟩,
    ⟨(some (22, true)), (some 23), .fld 1 (.t 1)⟩,
    ⟨(some (22, true)), (some 24), .load 1 false (.t 23)⟩,
    ⟨(some (22, true)), (some 25), .len (.t 24)⟩,
    ⟨(some (22, true)), (some 26), .bin .leq (.t 25) (.k (.int .i64 30))⟩,
    ⟨none, (some 27), .pick (.t 22) (.t 26) (.k (.bool false))⟩,
    ⟨none, (some 2), .mov (.t 27)⟩])
  .ret)))
  ntmps := 28
  res := [.tmp 2]
theorem a15_ok : compileFn P Tryd.f15 = some a15 := by kernel_rfl
def a16 : AFn where
  code := (.seq (.region false [⟨none, (some 1), .box (.t 0)⟩,
    ⟨none, (some 2), .mov (.k (.bool false))⟩])
  (.seq (.region false [⟨none, (some 3), .fld 0 (.t 1)⟩,
    ⟨none, (some 4), .load 1 false (.t 3)⟩,
    ⟨none, (some 5), .lenStr (.t 4)⟩,
    ⟨none, (some 6), .bin .leq (.t 5) (.k (.int .i64 300))⟩,
    ⟨none, (some 7), .mov (.t 6)⟩,
    ⟨(some (7, true)), (some 8), .fld 1 (.t 1)⟩,
    ⟨(some (7, true)), (some 9), .load 1 false (.t 8)⟩,
    ⟨(some (7, true)), (some 10), .lenStr (.t 9)⟩,
    ⟨(some (7, true)), (some 11), .bin .leq (.t 10) (.k (.int .i64 300))⟩,
    ⟨none, (some 12), .pick (.t 7) (.t 11) (.k (.bool false))⟩,
    ⟨none, (some 13), .mov (.t 12)⟩,
    ⟨(some (13, true)), (some 14), .fld 5 (.t 1)⟩,
    ⟨(some (13, true)), (some 15), .load 1 false (.t 14)⟩,
    ⟨(some (13, true)), (some 16), .len (.t 15)⟩,
    ⟨(some (13, true)), (some 17), .bin .leq (.t 16) (.k (.int .i64 12))⟩,
    ⟨none, (some 18), .pick (.t 13) (.t 17) (.k (.bool false))⟩,
    ⟨none, (some 2), .mov (.t 18)⟩])
  .ret))
  ntmps := 19
  res := [.tmp 2]
theorem a16_ok : compileFn P Tryd.f16 = some a16 := by kernel_rfl
def a3 : AFn where
  code := (.seq (.region false [⟨none, (some 5), .box (.t 0)⟩,
    ⟨none, (some 6), .box (.t 1)⟩,
    ⟨none, (some 10), .mov (.k (.bool false))⟩])
  (.seq (.seq (.region false [⟨none, (some 11), .load 3 true (.t 5)⟩,
    ⟨none, (some 12), .call (.k (.fn (.func 15) [] [])) [(.t 11)]⟩,
    ⟨none, (some 13), .un .not (.t 12)⟩,
    ⟨none, (some 14), .mov (.t 13)⟩,
    ⟨(some (14, false)), (some 15), .load 6 true (.t 6)⟩,
    ⟨(some (14, false)), (some 16), .call (.k (.fn (.func 16) [] [])) [(.t 15)]⟩,
    ⟨(some (14, false)), (some 17), .un .not (.t 16)⟩,
    ⟨none, (some 18), .pick (.t 14) (.k (.bool true)) (.t 17)⟩])
  (.cond (.t 18) (.seq (.region false [⟨none, (some 19), .call (.k (.fn (.func 17) [] [])) []⟩,
    ⟨none, (some 10), .mov (.t 19)⟩])
  .ret)
  .skip))
  (.seq (.region true [⟨none, (some 20), .load 6 true (.t 6)⟩,
    ⟨none, (some 22), .load 6 true (.t 6)⟩,
    ⟨none, (some 21), .callN (.k (.fn (.func 18) [] [])) [(.t 20)]⟩,
    ⟨none, (some 23), .callN (.k (.fn (.func 19) [] [])) [(.t 22)]⟩,
    ⟨none, (some 24), .eqb false (.t 21) (.t 23)⟩,
    ⟨none, (some 25), .mov (.t 24)⟩,
    ⟨(some (25, true)), (some 26), .load 3 true (.t 5)⟩,
    ⟨(some (25, true)), (some 28), .load 3 true (.t 5)⟩,
    ⟨(some (25, true)), (some 27), .callN (.k (.fn (.func 20) [] [])) [(.t 26)]⟩,
    ⟨(some (25, true)), (some 29), .callN (.k (.fn (.func 21) [] [])) [(.t 28)]⟩,
    ⟨(some (25, true)), (some 30), .eqb false (.t 27) (.t 29)⟩,
    ⟨none, (some 31), .pick (.t 25) (.t 30) (.k (.bool false))⟩,
    ⟨none, (some 32), .mov (.t 31)⟩,
    ⟨(some (32, true)), (some 33), .load 3 true (.t 5)⟩,
    ⟨(some (32, true)), (some 34), .mov (.t 2)⟩,
    ⟨(some (32, true)), (some 35), .mov (.t 3)⟩,
    ⟨(some (32, true)), (some 37), .load 3 true (.t 5)⟩,
    ⟨(some (32, true)), (some 38), .mov (.t 2)⟩,
    ⟨(some (32, true)), (some 39), .mov (.t 3)⟩,
    ⟨(some (32, true)), (some 36), .callN (.k (.fn (.func 22) [] [])) [(.t 33), (.t 34), (.t 35)]⟩,
    ⟨(some (32, true)), (some 40), .callN (.k (.fn (.func 23) [] [])) [(.t 37), (.t 38), (.t 39)]⟩,
    ⟨(some (32, true)), (some 41), .bin .eql (.t 36) (.t 40)⟩,
    ⟨none, (some 42), .pick (.t 32) (.t 41) (.k (.bool false))⟩,
    ⟨none, (some 43), .mov (.t 42)⟩,
    ⟨(some (43, true)), (some 44), .load 3 true (.t 5)⟩,
    ⟨(some (43, true)), (some 45), .mov (.t 4)⟩,
    ⟨(some (43, true)), (some 47), .load 3 true (.t 5)⟩,
    ⟨(some (43, true)), (some 48), .mov (.t 4)⟩,
    ⟨(some (43, true)), (some 46), .callN (.k (.fn (.func 24) [] [])) [(.t 44), (.t 45)]⟩,
    ⟨(some (43, true)), (some 49), .callN (.k (.fn (.func 25) [] [])) [(.t 47), (.t 48)]⟩,
    ⟨(some (43, true)), (some 50), .bin .eql (.t 46) (.t 49)⟩,
    ⟨none, (some 51), .pick (.t 43) (.t 50) (.k (.bool false))⟩,
    ⟨none, (some 52), .mov (.t 51)⟩,
    ⟨(some (52, true)), (some 53), .callN (.k (.fn (.func 17) [] [])) []⟩,
    ⟨none, (some 54), .pick (.t 52) (.t 53) (.k (.bool false))⟩,
    ⟨none, (some 10), .mov (.t 54)⟩])
  .ret)))
  ntmps := 55
  res := [.tmp 10]
theorem a3_ok : compileFn P Tryd.f3 = some a3 := by kernel_rfl
def a8 : AFn where
  code := (.seq (.region false [⟨none, (some 7), .box (.t 0)⟩,
    ⟨none, (some 8), .box (.t 1)⟩,
    ⟨none, (some 11), .box (.t 4)⟩,
    ⟨none, (some 14), .mov (.k (.bool false))⟩])
  (.seq (.seq (.region false [⟨none, (some 33), .load 3 true (.t 7)⟩,
    ⟨none, (some 34), .call (.k (.fn (.func 15) [] [])) [(.t 33)]⟩,
    ⟨none, (some 35), .un .not (.t 34)⟩,
    ⟨none, (some 36), .mov (.t 35)⟩,
    ⟨(some (36, false)), (some 37), .load 6 true (.t 8)⟩,
    ⟨(some (36, false)), (some 38), .call (.k (.fn (.func 16) [] [])) [(.t 37)]⟩,
    ⟨(some (36, false)), (some 39), .un .not (.t 38)⟩,
    ⟨none, (some 40), .pick (.t 36) (.k (.bool true)) (.t 39)⟩,
    ⟨none, (some 41), .mov (.t 40)⟩,
    ⟨(some (41, false)), (some 42), .mov (.t 6)⟩,
    ⟨(some (41, false)), (some 43), .len (.t 42)⟩,
    ⟨(some (41, false)), (some 44), .bin .gtr (.t 43) (.k (.int .i64 40))⟩,
    ⟨none, (some 45), .pick (.t 41) (.k (.bool true)) (.t 44)⟩])
  (.cond (.t 45) (.seq (.region false [⟨none, (some 46), .call (.k (.fn (.func 17) [] [])) []⟩,
    ⟨none, (some 14), .mov (.t 46)⟩])
  .ret)
  .skip))
  (.seq (.region false [⟨none, (some 48), .load 3 true (.t 7)⟩,
    ⟨none, (some 49), .load 6 true (.t 8)⟩,
    ⟨none, (some 50), .call (.k (.fn (.func 35) [] [])) [(.t 48), (.t 49)]⟩,
    ⟨none, (some 47), .mov (.t 50)⟩,
    ⟨none, (some 51), .ext (.t 47) 0⟩,
    ⟨none, (some 52), .ext (.t 47) 1⟩,
    ⟨none, (some 15), .alloc [.nils, .nils, (.int .i64 0)]⟩,
    ⟨none, none, .store 3 (.t 15) (.t 51)⟩,
    ⟨none, (some 16), .mov (.t 52)⟩])
  (.seq (.region false [⟨none, (some 54), .load 3 true (.t 7)⟩,
    ⟨none, (some 55), .load 6 true (.t 8)⟩,
    ⟨none, (some 56), .call (.k (.fn (.func 36) [] [])) [(.t 54), (.t 55)]⟩,
    ⟨none, (some 53), .mov (.t 56)⟩,
    ⟨none, (some 57), .ext (.t 53) 0⟩,
    ⟨none, (some 58), .ext (.t 53) 1⟩,
    ⟨none, (some 17), .alloc [.nils, .nils, (.int .i64 0)]⟩,
    ⟨none, none, .store 3 (.t 17) (.t 57)⟩,
    ⟨none, (some 18), .mov (.t 58)⟩])
  (.seq (.region false [⟨none, (some 60), .load 3 true (.t 7)⟩,
    ⟨none, (some 61), .mov (.t 3)⟩,
    ⟨none, (some 62), .load 32 true (.t 11)⟩,
    ⟨none, (some 63), .mov (.t 5)⟩,
    ⟨none, (some 64), .call (.k (.fn (.func 32) [] [])) [(.t 60), (.t 61), (.t 62), (.t 63)]⟩,
    ⟨none, (some 59), .mov (.t 64)⟩,
    ⟨none, (some 65), .ext (.t 59) 0⟩,
    ⟨none, (some 66), .ext (.t 59) 1⟩,
    ⟨none, (some 67), .ext (.t 59) 2⟩,
    ⟨none, (some 19), .alloc [.nils, .nils, (.int .i64 0)]⟩,
    ⟨none, none, .store 3 (.t 19) (.t 65)⟩,
    ⟨none, (some 20), .mov (.t 66)⟩,
    ⟨none, (some 21), .mov (.t 67)⟩])
  (.seq (.region false [⟨none, (some 69), .load 3 true (.t 7)⟩,
    ⟨none, (some 70), .mov (.t 3)⟩,
    ⟨none, (some 71), .load 32 true (.t 11)⟩,
    ⟨none, (some 72), .mov (.t 5)⟩,
    ⟨none, (some 73), .call (.k (.fn (.func 37) [] [])) [(.t 69), (.t 70), (.t 71), (.t 72)]⟩,
    ⟨none, (some 68), .mov (.t 73)⟩,
    ⟨none, (some 74), .ext (.t 68) 0⟩,
    ⟨none, (some 75), .ext (.t 68) 1⟩,
    ⟨none, (some 76), .ext (.t 68) 2⟩,
    ⟨none, (some 22), .alloc [.nils, .nils, (.int .i64 0)]⟩,
    ⟨none, none, .store 3 (.t 22) (.t 74)⟩,
    ⟨none, (some 23), .mov (.t 75)⟩,
    ⟨none, (some 24), .mov (.t 76)⟩])
  (.seq (.region false [⟨none, (some 78), .load 3 true (.t 7)⟩,
    ⟨none, (some 79), .mov (.t 2)⟩,
    ⟨none, (some 80), .mov (.t 5)⟩,
    ⟨none, (some 81), .call (.k (.fn (.func 40) [] [])) [(.t 78), (.t 79), (.t 80)]⟩,
    ⟨none, (some 77), .mov (.t 81)⟩,
    ⟨none, (some 82), .ext (.t 77) 0⟩,
    ⟨none, (some 83), .ext (.t 77) 1⟩,
    ⟨none, (some 25), .alloc [.nils, .nils, (.int .i64 0)]⟩,
    ⟨none, none, .store 3 (.t 25) (.t 82)⟩,
    ⟨none, (some 26), .mov (.t 83)⟩])
  (.seq (.region false [⟨none, (some 85), .load 3 true (.t 7)⟩,
    ⟨none, (some 86), .mov (.t 2)⟩,
    ⟨none, (some 87), .mov (.t 5)⟩,
    ⟨none, (some 88), .call (.k (.fn (.func 41) [] [])) [(.t 85), (.t 86), (.t 87)]⟩,
    ⟨none, (some 84), .mov (.t 88)⟩,
    ⟨none, (some 89), .ext (.t 84) 0⟩,
    ⟨none, (some 90), .ext (.t 84) 1⟩,
    ⟨none, (some 27), .alloc [.nils, .nils, (.int .i64 0)]⟩,
    ⟨none, none, .store 3 (.t 27) (.t 89)⟩,
    ⟨none, (some 28), .mov (.t 90)⟩])
  (.seq (.region false [⟨none, (some 92), .load 3 true (.t 7)⟩,
    ⟨none, (some 93), .mov (.t 2)⟩,
    ⟨none, (some 94), .call (.k (.fn (.func 31) [] [])) [(.t 92), (.t 93)]⟩,
    ⟨none, (some 91), .mov (.t 94)⟩,
    ⟨none, (some 95), .ext (.t 91) 0⟩,
    ⟨none, (some 96), .ext (.t 91) 1⟩,
    ⟨none, (some 29), .alloc [.nils, .nils, (.int .i64 0)]⟩,
    ⟨none, none, .store 3 (.t 29) (.t 95)⟩,
    ⟨none, (some 30), .mov (.t 96)⟩])
  (.seq (.region false [⟨none, (some 98), .load 3 true (.t 7)⟩,
    ⟨none, (some 99), .mov (.t 2)⟩,
    ⟨none, (some 100), .call (.k (.fn (.func 42) [] [])) [(.t 98), (.t 99)]⟩,
    ⟨none, (some 97), .mov (.t 100)⟩,
    ⟨none, (some 101), .ext (.t 97) 0⟩,
    ⟨none, (some 102), .ext (.t 97) 1⟩,
    ⟨none, (some 31), .alloc [.nils, .nils, (.int .i64 0)]⟩,
    ⟨none, none, .store 3 (.t 31) (.t 101)⟩,
    ⟨none, (some 32), .mov (.t 102)⟩])
  (.seq (.region true [⟨none, (some 103), .mov (.t 16)⟩,
    ⟨none, (some 104), .mov (.t 18)⟩,
    ⟨none, (some 105), .bin .eql (.t 103) (.t 104)⟩,
    ⟨none, (some 106), .mov (.t 105)⟩,
    ⟨(some (106, true)), (some 107), .load 3 true (.t 15)⟩,
    ⟨(some (106, true)), (some 108), .load 3 true (.t 17)⟩,
    ⟨(some (106, true)), (some 109), .callN (.k (.fn (.func 44) [] [])) [(.t 107), (.t 108)]⟩,
    ⟨none, (some 110), .pick (.t 106) (.t 109) (.k (.bool false))⟩,
    ⟨none, (some 111), .mov (.t 110)⟩,
    ⟨(some (111, true)), (some 112), .mov (.t 21)⟩,
    ⟨(some (111, true)), (some 113), .mov (.t 24)⟩,
    ⟨(some (111, true)), (some 114), .bin .eql (.t 112) (.t 113)⟩,
    ⟨none, (some 115), .pick (.t 111) (.t 114) (.k (.bool false))⟩,
    ⟨none, (some 116), .mov (.t 115)⟩,
    ⟨(some (116, true)), (some 117), .mov (.t 20)⟩,
    ⟨(some (116, true)), (some 118), .mov (.t 23)⟩,
    ⟨(some (116, true)), (some 119), .bin .eql (.t 117) (.t 118)⟩,
    ⟨none, (some 120), .pick (.t 116) (.t 119) (.k (.bool false))⟩,
    ⟨none, (some 121), .mov (.t 120)⟩,
    ⟨(some (121, true)), (some 122), .load 3 true (.t 19)⟩,
    ⟨(some (121, true)), (some 123), .load 3 true (.t 22)⟩,
    ⟨(some (121, true)), (some 124), .callN (.k (.fn (.func 44) [] [])) [(.t 122), (.t 123)]⟩,
    ⟨none, (some 125), .pick (.t 121) (.t 124) (.k (.bool false))⟩,
    ⟨none, (some 126), .mov (.t 125)⟩,
    ⟨(some (126, true)), (some 127), .mov (.t 26)⟩,
    ⟨(some (126, true)), (some 128), .mov (.t 28)⟩,
    ⟨(some (126, true)), (some 129), .bin .eql (.t 127) (.t 128)⟩,
    ⟨none, (some 130), .pick (.t 126) (.t 129) (.k (.bool false))⟩,
    ⟨none, (some 131), .mov (.t 130)⟩,
    ⟨(some (131, true)), (some 132), .load 3 true (.t 25)⟩,
    ⟨(some (131, true)), (some 133), .load 3 true (.t 27)⟩,
    ⟨(some (131, true)), (some 134), .callN (.k (.fn (.func 44) [] [])) [(.t 132), (.t 133)]⟩,
    ⟨none, (some 135), .pick (.t 131) (.t 134) (.k (.bool false))⟩,
    ⟨none, (some 136), .mov (.t 135)⟩,
    ⟨(some (136, true)), (some 137), .mov (.t 30)⟩,
    ⟨(some (136, true)), (some 138), .mov (.t 32)⟩,
    ⟨(some (136, true)), (some 139), .bin .eql (.t 137) (.t 138)⟩,
    ⟨none, (some 140), .pick (.t 136) (.t 139) (.k (.bool false))⟩,
    ⟨none, (some 141), .mov (.t 140)⟩,
    ⟨(some (141, true)), (some 142), .load 3 true (.t 29)⟩,
    ⟨(some (141, true)), (some 143), .load 3 true (.t 31)⟩,
    ⟨(some (141, true)), (some 144), .callN (.k (.fn (.func 44) [] [])) [(.t 142), (.t 143)]⟩,
    ⟨none, (some 145), .pick (.t 141) (.t 144) (.k (.bool false))⟩,
    ⟨none, (some 146), .mov (.t 145)⟩,
    ⟨(some (146, true)), (some 147), .load 3 true (.t 7)⟩,
    ⟨(some (146, true)), (some 148), .mov (.t 6)⟩,
    ⟨(some (146, true)), (some 149), .mov (.t 5)⟩,
    ⟨(some (146, true)), (some 151), .load 3 true (.t 7)⟩,
    ⟨(some (146, true)), (some 152), .mov (.t 6)⟩,
    ⟨(some (146, true)), (some 153), .mov (.t 5)⟩,
    ⟨(some (146, true)), (some 150), .callN (.k (.fn (.func 30) [] [])) [(.t 147), (.t 148), (.t 149)]⟩,
    ⟨(some (146, true)), (some 154), .callN (.k (.fn (.func 43) [] [])) [(.t 151), (.t 152), (.t 153)]⟩,
    ⟨(some (146, true)), (some 155), .callN (.k (.fn (.func 44) [] [])) [(.t 150), (.t 154)]⟩,
    ⟨none, (some 156), .pick (.t 146) (.t 155) (.k (.bool false))⟩,
    ⟨none, (some 157), .mov (.t 156)⟩,
    ⟨(some (157, true)), (some 158), .callN (.k (.fn (.func 17) [] [])) []⟩,
    ⟨none, (some 159), .pick (.t 157) (.t 158) (.k (.bool false))⟩,
    ⟨none, (some 14), .mov (.t 159)⟩])
  .ret)))))))))))
  ntmps := 160
  res := [.tmp 14]
theorem a8_ok : compileFn P Tryd.f8 = some a8 := by kernel_rfl
end Go.Proofs.YtjhakjeioppijaaDoor
set_option linter.unusedSimpArgs false
set_option linter.unusedVariables false
namespace Go.Proofs.YtjhakjeioppijaaDoor
open Go Go.Am
noncomputable def cDep (g : Clu → Grp → DV) : List DV → Option DV := con (fun _ => True) (fun p : Clu × Grp => [.agg (clC p.1), .agg (grC p.2)]) (fun p => g p.1 p.2)
theorem cDep_eq {f : Clu → Grp → DV} {c : Clu} {g : Grp} : cDep f [.agg (clC c), .agg (grC g)] = some (f c g) :=
  con_inj (f := fun p : Clu × Grp => [.agg (clC p.1), .agg (grC p.2)]) (by
    rintro ⟨a, b⟩ ⟨a', b'⟩ e
    simp only [List.cons.injEq, DV.agg.injEq, and_true] at e
    rw [clC_inj e.1, grC_inj e.2]) (c, g)
noncomputable def cSta (f : Clu → Int → Dg → Int → DV) : List DV → Option DV := con (fun _ => True) (fun p : Clu × Int × Dg × Int => [.agg (clC p.1), .int .i64 p.2.1, .agg (dgC p.2.2.1), .int .i64 p.2.2.2]) (fun p => f p.1 p.2.1 p.2.2.1 p.2.2.2)
theorem cSta_eq {f : Clu → Int → Dg → Int → DV} {c : Clu} {g t : Int} {d : Dg} : cSta f [.agg (clC c), .int .i64 g, .agg (dgC d), .int .i64 t] = some (f c g d t) :=
  con_inj (f := fun p : Clu × Int × Dg × Int => [.agg (clC p.1), .int .i64 p.2.1, .agg (dgC p.2.2.1), .int .i64 p.2.2.2]) (by
    rintro ⟨a, b, c, d⟩ ⟨a', b', c', d'⟩ e
    simp only [List.cons.injEq, DV.agg.injEq, DV.int.injEq, and_true, true_and] at e
    rw [clC_inj e.1, e.2.1, dgC_inj e.2.2.1, e.2.2.2]) (c, g, d, t)
noncomputable def cCii (f : Clu → Int → Int → DV) : List DV → Option DV := con (fun _ => True) (fun p : Clu × Int × Int => [.agg (clC p.1), .int .i64 p.2.1, .int .i64 p.2.2]) (fun p => f p.1 p.2.1 p.2.2)
theorem cCii_eq {f : Clu → Int → Int → DV} {c : Clu} {g t : Int} : cCii f [.agg (clC c), .int .i64 g, .int .i64 t] = some (f c g t) :=
  con_inj (f := fun p : Clu × Int × Int => [.agg (clC p.1), .int .i64 p.2.1, .int .i64 p.2.2]) (by
    rintro ⟨a, b, d⟩ ⟨a', b', d'⟩ e
    simp only [List.cons.injEq, DV.agg.injEq, DV.int.injEq, and_true, true_and] at e
    rw [clC_inj e.1, e.2.1, e.2.2]) (c, g, t)
noncomputable def T116 : Tbl := addT 35 (.pure (cDep deployB)) (addT 32 (.pure (cSta startB)) (addT 38 (.pure (cCii fun c i t => changeB c i t 2)) (addT 40 (.pure (cCii fun c i t => changeB c i t 3)) (addT 20 (.pure (cC1 validCB)) (addT 24 (.pure (cCi fun c i => .int .i64 (findIx c.i.l i))) (addT 22 (.pure (cCSS grpD)) tbl0))))))
theorem T116_d : T116 35 = .pure (cDep deployB) := by simp [T116]
theorem T116_s : T116 32 = .pure (cSta startB) := by simp [T116]
theorem T116_r : T116 38 = .pure (cCii fun c i t => changeB c i t 2) := by simp [T116]
theorem T116_v : T116 20 = .pure (cC1 validCB) := by simp [T116]
theorem T116_f : T116 24 = .pure (cCi fun c i => .int .i64 (findIx c.i.l i)) := by simp [T116]
theorem T116_g : T116 22 = .pure (cCSS grpD) := by simp [T116]
theorem T116_sound : T116.Sound P := addT_sound (con_sound fun p _ => sem_runs mix T112_sound Tryd.func35 a35_ok (runs_deploy p.1 p.2)) (addT_sound (con_sound fun p _ => sem_runs mix T112_sound Tryd.func32 a32_ok (runs_start p.1 p.2.1 p.2.2.1 p.2.2.2)) (addT_sound (con_sound fun p _ => sem_runs mix T114_sound Tryd.func38 a38_ok (runs_started p.1 p.2.1 p.2.2)) (addT_sound (con_sound fun p _ => sem_runs mix T115_sound Tryd.func40 a40_ok (runs_stop p.1 p.2.1 p.2.2)) (addT_sound (con_sound fun x _ => sem_runs mix T107_sound Tryd.func20 a20_ok (runs_valid x)) (addT_sound (con_sound fun x _ => sem_runs mix T104_sound Tryd.func24 a24_ok (runs_find x.1 x.2)) (addT_sound (con_sound fun x _ => sem_runs mix T102_sound Tryd.func22 a22_ok (runs_group x.1 x.2.1 x.2.2)) tbl0_sound))))))
def d1 : Dg := ⟨1#8 :: rep 31 0#8, by simp⟩
theorem d1_ne : d1 ≠ dg0 := by decide
structure OneG (c : Clu) (x : Grp) : Prop where
  g : c.g.l = [x]
  v : ValidG x
  a : x.ns = [97]
  b : x.im = [98]
theorem okCh_clone {x : Grp} (h : ValidG x) : ValidG x.clone := ⟨h.ns, h.im, h.w0, h.w1, h.l0, h.l1, h.d0, h.d1, h.n, h.ch⟩
theorem valid_one {c : Clu} {x : Grp} (hg : OneG c x) (hi : c.i.l = [] ∨ ∃ y, c.i.l = [y] ∧ SoundI 1 c.next y) (h1 : 1 ≤ c.next) (h2 : c.next ≤ 1099511627776) : ValidC c := by
  obtain ⟨⟨gk, gl, gh, gb⟩, ⟨ik, il, ih, ib⟩, n⟩ := c
  obtain ⟨e, hv, ea, eb⟩ := hg
  simp only at e hi h1 h2
  subst e
  refine ⟨by simp, ?_, h1, h2, fun i h => ?_, fun i h => ?_⟩
  · rcases hi with rfl | ⟨y, rfl, _⟩ <;> simp
  · simp only [List.length_singleton] at h
    obtain rfl : i = 0 := by omega
    exact ⟨hv, by simp [grpIx, ixI, fitG]⟩
  · rcases hi with rfl | ⟨y, rfl, hy⟩
    · simp at h
    · simp only [List.length_singleton] at h
      obtain rfl : i = 0 := by omega
      exact ⟨hy, fun h0 => by omega⟩
def cA : Clu := ⟨⟨none, [], fun _ => rfl, by simp⟩, ⟨none, [], fun _ => rfl, by simp⟩, 1⟩
theorem valid_cA : ValidC cA := ⟨by simp [cA], by simp [cA], by simp [cA], by simp [cA], fun i h => by simp [cA] at h, fun i h => by simp [cA] at h⟩
theorem deploy_one {g : Grp} (hv : ValidG g) (ha : g.ns = [97]) (hb : g.im = [98]) : ∃ c, deployP cA g = (c, 0) ∧ OneG c g.clone ∧ c.i.l = [] ∧ c.next = 1 := by
  refine ⟨⟨own (cA.g.l.map Grp.clone ++ [g.clone]), cA.i.clone, cA.next⟩, ?_, ?_, rfl, rfl⟩
  · rw [deployP, if_neg (by simp [valid_cA, hv]), if_pos (by simp [cA, grpIx, ixI]), if_neg (by simp [cA])]
  · exact ⟨by rw [own_l (by simp [cA])]; simp [cA], okCh_clone hv, ha, hb⟩
theorem start_one {c : Clu} {x : Grp} (hg : OneG c x) (hi : c.i.l = []) (hn : c.next = 1) {t : Int} (ht : timeOK t) : ∃ c', startP c 0 d1 t = (c', 1, 0) ∧ OneG c' x.clone ∧ c'.i.l = [⟨1, 0, d1, 1, t, -1⟩] ∧ c'.next = 2 := by
  have hv : ValidC c := valid_one hg (.inl hi) (by omega) (by omega)
  have hl : c.g.l.length = 1 := by rw [hg.g]; rfl
  refine ⟨⟨c.clone.g, own (c.i.l ++ [newI c 0 d1 t]), c.next + 1⟩, ?_, ?_, ?_, ?_⟩
  · rw [startP, if_neg (by simp [hv, d1_ne, ht]), if_neg (by rw [hl]; decide), if_neg (by rw [hi, hn]; decide), hn]
  · exact ⟨by simp [clone_gl, hg.g], okCh_clone hg.v, hg.a, hg.b⟩
  · rw [hi, own_l (by simp)]; simp [newI, hn]
  · simp [hn]
theorem change_one {c : Clu} {x : Grp} {y : Ins} (hg : OneG c x) (hi : c.i.l = [y]) (hn : c.next = 2) (hy : SoundI 1 2 y) (hid : y.id = 1) {t : Int} (ht : timeOK t) {to : Int} (hto : to = 2 ∨ to = 3) :
    (may to y.state = true ∧ ∃ c', changeP c 1 t to = (c', 0) ∧ OneG c' x.clone ∧ c'.i.l = [(y.st to).si t] ∧ c'.next = 2) ∨ (may to y.state = false ∧ changeP c 1 t to = (clu0, 30)) := by
  have hv : ValidC c := valid_one hg (.inr ⟨y, hi, hn ▸ hy⟩) (by omega) (by omega)
  have hf : findIx c.i.l 1 = 0 := by rw [hi]; simp [findIx, ixI, hid]
  cases hm : may to y.state with
  | true =>
    refine .inl ⟨rfl, ⟨c.clone.g, own (setI c.i.l 0 to t), c.next⟩, ?_, ?_, ?_, hn⟩
    · rw [changeP, if_neg (by simp [hv, ht]), hf, if_neg (by decide), if_pos (by rw [hi]; simp [hm])]
      rfl
    · exact ⟨by simp [clone_gl, hg.g], okCh_clone hg.v, hg.a, hg.b⟩
    · rw [hi, show setI [y] 0 to t = [(y.st to).si t] from rfl, own_l (by simp)]
  | false =>
    refine .inr ⟨rfl, ?_⟩
    rw [changeP, if_neg (by simp [hv, ht]), hf, if_neg (by decide), if_neg (by rw [hi]; simp [hm])]
def gA : Grp := ⟨[97], [98], 1, 0, 0, ⟨some true, [d1], by simp, by simp⟩⟩
theorem valid_gA : ValidG gA := ⟨by decide, by decide, by decide, by decide, by decide, by decide, by decide, by decide, by decide, fun i h => by
  have : i = 0 := by simp [gA] at h; exact h
  subst this
  exact ⟨d1_ne, by simp⟩⟩
end Go.Proofs.YtjhakjeioppijaaDoor
set_option linter.unusedSimpArgs false
set_option linter.unusedVariables false
namespace Go.Proofs.YtjhakjeioppijaaDoor
open Go Go.Am
theorem idx_one {x : Sl Ins} {y : Ins} (h : x.l = [y]) (H : List AObj) : idxSD H 37 (x.dv 37 inC) 0 = some (.ref (inC y)) := by
  have h0 : 0 < x.l.length := by rw [h]; simp
  have := idxSD_dv (h := H) (x := x) len_inC h0
  simp only [h, List.getElem_cons_zero] at this
  exact this
theorem sound_one {st t : Int} (h1 : 1 ≤ st) (h2 : st ≤ 3) (ht : timeOK t) : SoundI 1 2 ⟨1, 0, d1, st, t, -1⟩ := ⟨Int.le_refl _, by show (1 : Int) < 2; decide, Int.le_refl _, by show (0 : Int) < 1; decide, d1_ne, h1, h2, ht, .inl rfl⟩
theorem b0 : buildD [.nils, .nils, .int .i64 0] [(2, 1, .int .i64 1)] = some (.agg [.nils, .nils, .int .i64 1]) := rfl
theorem b1 : buildD (dgC dg0) [(0, 1, w8 1#8)] = some (.agg (dgC d1)) := rfl
theorem b2 : bslD 32 1 (dgC dg0) [(0, 32, .agg (dgC d1))] = some (.sl true 32 1 (dgC d1)) := rfl
set_option maxHeartbeats 2000000 in
theorem runs_awake37 : Runs T116 a17 [] (.bool true) := by
  obtain ⟨c1, e1, g1, i1, n1⟩ := deploy_one valid_gA rfl rfl
  obtain ⟨c2, e2, g2, i2, n2⟩ := start_one g1 i1 n1 (t := 5) (by decide)
  obtain ⟨c3, e3, g3, i3, n3⟩ : ∃ c', changeP c2 1 6 2 = (c', 0) ∧ OneG c' gA.clone.clone.clone ∧ c'.i.l = [⟨1, 0, d1, 2, 6, -1⟩] ∧ c'.next = 2 := by
    rcases change_one g2 i2 n2 (sound_one (by decide) (by decide) (by decide)) rfl (t := 6) (by decide) (to := 2) (.inl rfl) with ⟨_, h⟩ | ⟨h, _⟩
    · exact h
    · simp [may] at h
  have e4 : changeP c3 1 7 2 = (clu0, 30) := by
    rcases change_one g3 i3 n3 (sound_one (by decide) (by decide) (by decide)) rfl (t := 7) (by decide) (to := 2) (.inl rfl) with ⟨h, _⟩ | ⟨_, h⟩
    · simp [may] at h
    · exact h
  have v3 : ValidC c3 := valid_one g3 (.inr ⟨_, i3, by rw [n3]; exact sound_one (by decide) (by decide) (by decide)⟩) (by omega) (by omega)
  have h3 := idx_one i3
  have k1 : findIx c3.i.l 1 = 0 := by rw [i3]; simp [findIx, ixI]
  have k2 : grpIx c3.g.l [97] [98] = 0 := by rw [g3.g]; simp [grpIx, ixI, fitG, g3.a, g3.b]
  have f1 : cDep deployB [.agg [.nils, .nils, .int .i64 1], .agg [.str [97], .str [98], .int .i64 1, .int .i64 0, .int .i64 0, .sl true 32 1 (dgC d1)]] = some (deployB cA gA) := cDep_eq (c := cA) (g := gA)
  have b3 : buildD [.str [], .str [], .int .i64 0, .int .i64 0, .int .i64 0, .nils] [(0, 1, .str [97]), (1, 1, .str [98]), (2, 1, .int .i64 1), (5, 1, .sl true 32 1 (dgC d1))] = some (.agg [.str [97], .str [98], .int .i64 1, .int .i64 0, .int .i64 0, .sl true 32 1 (dgC d1)]) := rfl
  refine ⟨?_⟩
  simp (disch := first | omega | (simp [-List.map_take, -List.map_drop, -List.map_set, -List.map_append, -List.drop_one] <;> omega) | fail) [-List.map_take, -List.map_drop, -List.map_set, -List.map_append, -List.drop_one, a17, T116_d, T116_s, T116_r, T116_v, T116_f, T116_g, b0, b1, b2, b3, f1, cSta_eq, cCii_eq, cC1_eq, cCi_eq, cCSS_eq, deployB, startB, changeB, validCB, grpD, e1, e2, e3, e4, tv_true v3, h3, k1, k2]
noncomputable def cTrue : List DV → Option DV
  | [] => some (.bool true) | _ => none
theorem cTrue_eq : cTrue [] = some (.bool true) := rfl
theorem cTrue_sound {f : Nat} (h : Am.Sem P f [] (.bool true)) : (Con.pure cTrue).Sound P f := by
  intro args v e
  unfold cTrue at e
  split at e
  · simp at e; subst e; exact h
  · simp at e
end Go.Proofs.YtjhakjeioppijaaDoor
set_option linter.unusedSimpArgs false
set_option linter.unusedVariables false
namespace Go.Proofs.YtjhakjeioppijaaDoor
open Go Go.Am
theorem sameB_true {a b : Clu} (h : SameC a b) : sameB a b = true := tv_true h
theorem gl_fun : gl ∘ Grp.clone = gl := rfl
theorem clone_g_gl (c : Clu) : c.clone.g.l.map gl = c.g.l.map gl := by
  show (c.g.l.map Grp.clone).map gl = _
  rw [List.map_map, gl_fun]
theorem same_deploy (c : Clu) (g : Grp) : (deployP c g).2 = (deployR c g).2 ∧ SameC (deployP c g).1 (deployR c g).1 := by
  unfold deployP deployR
  by_cases h : ¬ ValidC c ∨ ¬ ValidG g
  · rw [if_pos h, if_pos h]; exact ⟨rfl, .refl _⟩
  rw [if_neg h, if_neg h]
  have hv : ValidC c := Classical.not_not.1 fun q => h (.inl q)
  have hn := hv.ng
  by_cases h1 : grpIx c.g.l g.ns g.im < 0
  · rw [if_pos h1, if_pos h1]
    by_cases h2 : 16 ≤ c.g.l.length
    · rw [if_pos h2, if_pos h2]; exact ⟨rfl, .refl _⟩
    · rw [if_neg h2, if_neg h2]
      refine ⟨rfl, ?_, rfl, rfl⟩
      show (own (c.g.l.map Grp.clone ++ [g.clone])).l.map gl = (own (c.g.l ++ [g])).l.map gl
      rw [own_l (by simp; omega), own_l (by simp; omega), List.map_append, List.map_append, List.map_map, gl_fun]
      rfl
  · rw [if_neg h1, if_neg h1]
    refine ⟨rfl, ?_, rfl, rfl⟩
    show (own ((c.g.l.map Grp.clone).set _ g.clone)).l.map gl = (own (c.g.l.set _ g)).l.map gl
    rw [own_l (by simp; omega), own_l (by simp; omega), List.map_set, List.map_set, List.map_map, gl_fun]
    rfl
theorem same_start (c : Clu) (gr : Int) (d : Dg) (t : Int) : (startP c gr d t).2 = (startR c gr d t).2 ∧ SameC (startP c gr d t).1 (startR c gr d t).1 := by
  unfold startP startR
  by_cases h : ¬ ValidC c ∨ d = dg0 ∨ ¬ timeOK t
  · rw [if_pos h, if_pos h]; exact ⟨rfl, .refl _⟩
  rw [if_neg h, if_neg h]
  by_cases h1 : gr < 0 ∨ (c.g.l.length : Int) ≤ gr
  · rw [if_pos h1, if_pos h1]; exact ⟨rfl, .refl _⟩
  rw [if_neg h1, if_neg h1]
  by_cases h2 : 200 ≤ c.i.l.length ∨ 1099511627776 ≤ c.next
  · rw [if_pos h2, if_pos h2]; exact ⟨rfl, .refl _⟩
  rw [if_neg h2, if_neg h2]
  exact ⟨rfl, clone_g_gl c, rfl, rfl⟩
theorem same_change (c : Clu) (id t a b to : Int) (hm : ∀ s, 1 ≤ s → s ≤ 3 → may to s = mayR a b s) : (changeP c id t to).2 = (chgR c id t a b to).2 ∧ SameC (changeP c id t to).1 (chgR c id t a b to).1 := by
  unfold changeP chgR
  by_cases h : ¬ ValidC c ∨ ¬ timeOK t
  · rw [if_pos h, if_pos h]; exact ⟨rfl, .refl _⟩
  rw [if_neg h, if_neg h]
  have hv : ValidC c := Classical.not_not.1 fun q => h (.inl q)
  by_cases h1 : findIx c.i.l id < 0
  · rw [if_pos h1, if_pos h1]; exact ⟨rfl, .refl _⟩
  rw [if_neg h1, if_neg h1]
  obtain ⟨k, hk, hke, _, _⟩ := ixI_pos (show 0 ≤ findIx c.i.l id by omega)
  have hke : findIx c.i.l id = k := hke
  have hs := (hv.i k hk).1
  have e : ((c.i.l[(findIx c.i.l id).toNat]?).map fun x => may to x.state) = ((c.i.l[(findIx c.i.l id).toNat]?).map fun x => mayR a b x.state) := by
    rw [hke, Int.toNat_natCast, List.getElem?_eq_getElem hk, Option.map_some, Option.map_some, hm _ hs.s0 hs.s1]
  rw [e]
  split
  · exact ⟨rfl, clone_g_gl c, rfl, rfl⟩
  · exact ⟨rfl, .refl _⟩
theorem same_stop (c : Clu) (id t : Int) : (changeP c id t 3).2 = (chgR c id t 1 2 3).2 ∧ SameC (changeP c id t 3).1 (chgR c id t 1 2 3).1 :=
  same_change c id t 1 2 3 fun s h1 h2 => by
    have : s = 1 ∨ s = 2 ∨ s = 3 := by omega
    rcases this with rfl | rfl | rfl <;> simp [may, mayR]
theorem same_remove (c : Clu) (id : Int) : (removeP c id).2 = (removeR c id).2 ∧ SameC (removeP c id).1 (removeR c id).1 := by
  unfold removeP removeR
  by_cases h : ¬ ValidC c
  · rw [if_pos h, if_pos h]; exact ⟨rfl, .refl _⟩
  rw [if_neg h, if_neg h]
  by_cases h1 : findIx c.i.l id < 0
  · rw [if_pos h1, if_pos h1]; exact ⟨rfl, .refl _⟩
  rw [if_neg h1, if_neg h1]
  exact ⟨rfl, clone_g_gl c, rfl, rfl⟩
theorem same_mark (c : Clu) (den : List Bool) (t : Int) : SameC (markP c den t) (markR c den t) := by
  unfold markP markR
  by_cases h : ¬ ValidC c ∨ ¬ timeOK t
  · rw [if_pos h, if_pos h]; exact ⟨clone_g_gl c, rfl, rfl⟩
  · rw [if_neg h, if_neg h]; exact ⟨clone_g_gl c, rfl, rfl⟩
noncomputable def cMkF (f : Clu → List Bool → Int → Clu) : List DV → Option DV := con (fun _ => True) (fun p : Clu × Sl Bool × Int => [.agg (clC p.1), p.2.1.dv 1 inB, .int .i64 p.2.2]) (fun p => .agg (clC (f p.1 p.2.1.l p.2.2)))
theorem cMkF_eq {f : Clu → List Bool → Int → Clu} {c : Clu} {d : Sl Bool} {t : Int} : cMkF f [.agg (clC c), d.dv 1 inB, .int .i64 t] = some (.agg (clC (f c d.l t))) :=
  con_inj (f := fun p : Clu × Sl Bool × Int => [.agg (clC p.1), p.2.1.dv 1 inB, .int .i64 p.2.2]) (by
    rintro ⟨a, b, c⟩ ⟨a', b', c'⟩ e
    simp only [List.cons.injEq, DV.agg.injEq, DV.int.injEq, and_true, true_and] at e
    rw [clC_inj e.1, dv_inj len_inB (by decide) (fun _ _ q => by simpa [inB] using q) e.2.1, e.2.2]) (c, d, t)
theorem refdeploy_sound : (Con.pure (cDep deployRB)).Sound P 36 := con_sound fun p _ => sem_runs mix T170_sound Tryd.func36 a36_ok (runs_refdeploy p.1 p.2)
theorem refstart_sound : (Con.pure (cSta startRB)).Sound P 37 := con_sound fun p _ => sem_runs mix T170_sound Tryd.func37 a37_ok (runs_refstart p.1 p.2.1 p.2.2.1 p.2.2.2)
theorem refstop_sound : (Con.pure (cCii fun c i t => chgRB c i t 1 2 3)).Sound P 41 := con_sound fun p _ => sem_runs mix T415_sound Tryd.func41 a41_ok (runs_refstop p.1 p.2.1 p.2.2)
theorem refremove_sound : (Con.pure (cCi removeRB)).Sound P 42 := con_sound fun p _ => sem_runs mix T170_sound Tryd.func42 a42_ok (runs_refremove p.1 p.2)
theorem refmark_sound : (Con.pure (cMkF markR)).Sound P 43 := con_sound fun p _ => sem_runs mix T170_sound Tryd.func43 a43_ok (runs_refmark p.1 p.2.1 p.2.2)
theorem deploy_sound37 : (Con.pure (cDep deployB)).Sound P 35 := con_sound fun p _ => sem_runs mix T112_sound Tryd.func35 a35_ok (runs_deploy p.1 p.2)
theorem start_sound37 : (Con.pure (cSta startB)).Sound P 32 := con_sound fun p _ => sem_runs mix T112_sound Tryd.func32 a32_ok (runs_start p.1 p.2.1 p.2.2.1 p.2.2.2)
theorem stop_sound37 : (Con.pure (cCii fun c i t => changeB c i t 3)).Sound P 40 := con_sound fun p _ => sem_runs mix T115_sound Tryd.func40 a40_ok (runs_stop p.1 p.2.1 p.2.2)
theorem remove_sound37 : (Con.pure (cCi removeB)).Sound P 31 := con_sound fun p _ => sem_runs mix T400_sound Tryd.func31 a31_ok (runs_remove p.1 p.2)
theorem mark_sound37 : (Con.pure (cMkF markP)).Sound P 30 := con_sound fun p _ => sem_runs mix T112_sound Tryd.func30 a30_ok (runs_mark p.1 p.2.1 p.2.2)
theorem awake_sound37 : (Con.pure cTrue).Sound P 17 := cTrue_sound (sem_runs mix T116_sound Tryd.func17 a17_ok runs_awake37)
end Go.Proofs.YtjhakjeioppijaaDoor
set_option linter.unusedSimpArgs false
set_option linter.unusedVariables false
namespace Go.Proofs.YtjhakjeioppijaaDoor
open Go Go.Am
structure GrpU where
  ns : List UInt8
  im : List UInt8
  want : Int
  least : Int
  down : Int
  ck : Option Bool
  cl : List Dg
  ch : ck = none → cl = []
def grU (g : GrpU) : List DV := [.str g.ns, .str g.im, .int .i64 g.want, .int .i64 g.least, .int .i64 g.down, slD g.ck 32 g.cl.length (g.cl.flatMap dgC)]
theorem len_grU (g : GrpU) : (grU g).length = 6 := by simp [grU]
def smallU (g : GrpU) : Bool := decide (g.ns.length ≤ 300) && decide (g.im.length ≤ 300) && decide (g.cl.length ≤ 12)
structure CluU where
  gk : Option Bool
  gl : List GrpU
  gh : gk = none → gl = []
  gb : gl.length ≤ 9223372036854775807
  ik : Option Bool
  il : List Ins
  ih : ik = none → il = []
  next : Int
def clU (u : CluU) : List DV := [slD u.gk 6 u.gl.length (u.gl.flatMap grU), slD u.ik 37 u.il.length (u.il.flatMap inC), .int .i64 u.next]
theorem pure_slD {k : Option Bool} {s n : Nat} {cs : List DV} (h : pureL cs = true) : pureD (slD k s n cs) = true := by
  cases k with
  | none => rfl
  | some b => exact h
theorem pure_grU (g : GrpU) : pureL (grU g) = true := by simp [grU, pureL, pureD, pure_slD (fm_pure pure_dgC g.cl)]
theorem pure_clU (u : CluU) : pureL (clU u) = true := by simp [clU, pureL, pureD, pure_slD (fm_pure pure_grU u.gl), pure_slD (fm_pure pure_inC u.il)]
theorem len_clU (u : CluU) : (clU u).length = 3 := by simp [clU]
def smallsU (l : List GrpU) : Bool := l.all smallU
def fewU (u : CluU) : Bool := u.gl.all smallU && decide (u.gl.length ≤ 20) && decide (u.il.length ≤ 30)
theorem small_to {g : GrpU} (h : smallU g = true) : ∃ x : Grp, grC x = grU g := by
  simp only [smallU, Bool.and_eq_true, decide_eq_true_eq] at h
  exact ⟨⟨g.ns, g.im, g.want, g.least, g.down, ⟨g.ck, g.cl, g.ch, by omega⟩⟩, rfl⟩
theorem smalls_to : ∀ {l : List GrpU}, l.all smallU = true → ∃ x : List Grp, x.length = l.length ∧ x.flatMap grC = l.flatMap grU
  | [], _ => ⟨[], rfl, rfl⟩
  | g :: l, h => by
    simp only [List.all_cons, Bool.and_eq_true] at h
    obtain ⟨x, hx⟩ := small_to h.1
    obtain ⟨xs, h1, h2⟩ := smalls_to h.2
    exact ⟨x :: xs, by simp [h1], by simp [hx, h2]⟩
theorem few_to {u : CluU} (h : fewU u = true) : ∃ c : Clu, clC c = clU u := by
  simp only [fewU, Bool.and_eq_true, decide_eq_true_eq] at h
  obtain ⟨x, h1, h2⟩ := smalls_to h.1.1
  refine ⟨⟨⟨u.gk, x, fun e => ?_, by omega⟩, ⟨u.ik, u.il, u.ih, by omega⟩, u.next⟩, ?_⟩
  · have := u.gh e
    rw [this] at h1
    exact List.length_eq_zero_iff.1 h1
  · simp only [clC, clU, Sl.dv, h1, h2]
def lenS : DV → Option Nat
  | .nils => some 0
  | .sl _ _ n _ => some n
  | _ => none
theorem lenS_D {d : DV} {n : Nat} (h : lenS d = some n) (H : List AObj) : lenD H d = some (.int .i64 n) := by
  cases d <;> simp [lenS] at h <;> subst h <;> rfl
theorem lenS_slD {k : Option Bool} {s n : Nat} {cs : List DV} (hk : k = none → n = 0) : lenS (slD k s n cs) = some n := by
  cases k with
  | none => simp [slD, lenS, hk rfl]
  | some b => rfl
def smB (a b : List UInt8) (n : Nat) : Bool := decide (a.length ≤ 300) && decide (b.length ≤ 300) && decide (n ≤ 12)
def smallC : List DV → Option DV
  | [.agg [.str a, .str b, _, _, _, d]] => (lenS d).map fun n => .bool (smB a b n)
  | _ => none
theorem runs_small (a b : List UInt8) (x y z d : DV) (n : Nat) (hd : lenS d = some n) : Runs tbl0 a16 [.agg [.str a, .str b, x, y, z, d]] (.bool (smB a b n)) := by
  refine ⟨?_⟩
  have hl := lenS_D hd
  by_cases h1 : a.length ≤ 300
  case neg =>
    have h1' : ¬ (a.length : Int) ≤ 300 := by omega
    simp (disch := first | omega | (simp [-List.map_take, -List.map_drop, -List.map_set, -List.map_append, -List.drop_one] <;> omega) | fail) [-List.map_take, -List.map_drop, -List.map_set, -List.map_append, -List.drop_one, a16, h1, h1', smB]
  have h1' : (a.length : Int) ≤ 300 := by omega
  by_cases h2 : b.length ≤ 300
  case neg =>
    have h2' : ¬ (b.length : Int) ≤ 300 := by omega
    simp (disch := first | omega | (simp [-List.map_take, -List.map_drop, -List.map_set, -List.map_append, -List.drop_one] <;> omega) | fail) [-List.map_take, -List.map_drop, -List.map_set, -List.map_append, -List.drop_one, a16, h1, h1', h2, h2', smB]
  have h2' : (b.length : Int) ≤ 300 := by omega
  by_cases h3 : n ≤ 12
  · have h3' : (n : Int) ≤ 12 := by omega
    simp (disch := first | omega | (simp [-List.map_take, -List.map_drop, -List.map_set, -List.map_append, -List.drop_one] <;> omega) | fail) [-List.map_take, -List.map_drop, -List.map_set, -List.map_append, -List.drop_one, a16, h1, h1', h2, h2', h3, h3', hl, smB]
  · have h3' : ¬ (n : Int) ≤ 12 := by omega
    simp (disch := first | omega | (simp [-List.map_take, -List.map_drop, -List.map_set, -List.map_append, -List.drop_one] <;> omega) | fail) [-List.map_take, -List.map_drop, -List.map_set, -List.map_append, -List.drop_one, a16, h1, h1', h2, h2', h3, h3', hl, smB]
theorem smallC_eq {g : GrpU} : smallC [.agg (grU g)] = some (.bool (smallU g)) := by
  have h := lenS_slD (k := g.ck) (s := 32) (n := g.cl.length) (cs := g.cl.flatMap dgC) (fun e => by rw [g.ch e]; rfl)
  simp only [smallC, grU, h, Option.map_some]
  simp [smB, smallU]
theorem smallC_sound : (Con.pure smallC).Sound P 16 := by
  intro args v e
  unfold smallC at e
  split at e
  · obtain ⟨n, hn, rfl⟩ := Option.map_eq_some_iff.1 e
    exact sem_runs mix tbl0_sound Tryd.func16 a16_ok (runs_small _ _ _ _ _ _ _ hn)
  · simp at e
noncomputable def T130 : Tbl := addT 16 (.pure smallC) tbl0
theorem T130_s : T130 16 = .pure smallC := by simp [T130]
theorem T130_sound : T130.Sound P := addT_sound smallC_sound tbl0_sound
theorem one_gU {u : CluU} : one 1 false (clU u) = some (slD u.gk 6 u.gl.length (u.gl.flatMap grU)) := rfl
theorem one_iU {u : CluU} : one 1 false ((clU u).drop 1) = some (slD u.ik 37 u.il.length (u.il.flatMap inC)) := rfl
theorem one_grU {g : GrpU} : one 6 true (grU g) = some (.agg (grU g)) := rfl
theorem idxU {k : Option Bool} {l : List GrpU} (hk : k = none → l = []) {i : Nat} (hi : i < l.length) (H : List AObj) : idxSD H 6 (slD k 6 l.length (l.flatMap grU)) i = some (.ref (grU l[i])) := by
  cases k with
  | none => rw [hk rfl] at hi; simp at hi
  | some b => rw [slD_some, idxSD_sl (by omega) (by omega), Int.toNat_natCast, fm_get len_grU hi]
def S130 (u : CluU) (i : Nat) : St := a15S0 (.mp 0 3 0) (.int .i64 i) [.cells (clU u)]
theorem runs_few (u : CluU) : Runs T130 a15 [.agg (clU u)] (.bool (fewU u)) := by
  refine ⟨?_⟩
  have hb := u.gb
  have hl1 : ∀ H, lenD H (slD u.gk 6 u.gl.length (u.gl.flatMap grU)) = some (.int .i64 u.gl.length) := fun H => lenD_slD (fun e => by rw [u.gh e]; rfl)
  have hl2 : ∀ H, lenD H (slD u.ik 37 u.il.length (u.il.flatMap inC)) = some (.int .i64 u.il.length) := fun H => lenD_slD (fun e => by rw [u.ih e]; rfl)
  have h3 := len_clU u
  have hpg : ∀ g, pureL (grU g) = true := pure_grU
  have hsg : ∀ H k g, snapL H k (grU g) = some (grU g) := fun H k g => snapL_clean (pure_grU g)
  simp (disch := first | omega | (simp [-List.map_take, -List.map_drop, -List.map_set, -List.map_append, -List.drop_one] <;> omega) | fail) [-List.map_take, -List.map_drop, -List.map_set, -List.map_append, -List.drop_one, a15, h3]
  refine W_loop (S130 u) (fun i => u.gl.length - i) (fun i => i ≤ u.gl.length ∧ smallsU (u.gl.take i) = true) 0 (weak_same (by simp (disch := first | omega | (simp [-List.map_take, -List.map_drop, -List.map_set, -List.map_append, -List.drop_one] <;> omega) | fail) [-List.map_take, -List.map_drop, -List.map_set, -List.map_append, -List.drop_one]) (by simp (disch := first | omega | (simp [-List.map_take, -List.map_drop, -List.map_set, -List.map_append, -List.drop_one] <;> omega) | fail) [-List.map_take, -List.map_drop, -List.map_set, -List.map_append, -List.drop_one])) ⟨by omega, rfl⟩ (fun i hi => ?_)
  obtain ⟨h1, h2⟩ := hi
  simp (disch := first | omega | (simp [-List.map_take, -List.map_drop, -List.map_set, -List.map_append, -List.drop_one] <;> omega) | fail) [-List.map_take, -List.map_drop, -List.map_set, -List.map_append, -List.drop_one, a15L0, a15S0, S130, h3, one_gU, hl1]
  by_cases h : i < u.gl.length
  · have h' : (i : Int) < u.gl.length := by omega
    have hg := idxU u.gh h
    cases e : smallU u.gl[i] with
    | true =>
      simp (disch := first | omega | (simp [-List.map_take, -List.map_drop, -List.map_set, -List.map_append, -List.drop_one] <;> omega) | fail) [-List.map_take, -List.map_drop, -List.map_set, -List.map_append, -List.drop_one, h', h, h3, one_gU, one_grU, hg, T130_s, smallC_eq, e, hpg, hsg]
      exact ⟨i + 1, weak_same (by simp (disch := first | omega | (simp [-List.map_take, -List.map_drop, -List.map_set, -List.map_append, -List.drop_one] <;> omega) | fail) [-List.map_take, -List.map_drop, -List.map_set, -List.map_append, -List.drop_one]) (by simp (disch := first | omega | (simp [-List.map_take, -List.map_drop, -List.map_set, -List.map_append, -List.drop_one] <;> omega) | fail) [-List.map_take, -List.map_drop, -List.map_set, -List.map_append, -List.drop_one]), by omega, by omega, by rw [take_snoc h, smallsU, List.all_append, show (u.gl.take i).all smallU = true from h2]; simp [e]⟩
    | false =>
      have hf : fewU u = false := by
        have : u.gl.all smallU = false := List.all_eq_false.2 ⟨u.gl[i], List.getElem_mem h, by rw [e]; simp⟩
        simp only [fewU, this, Bool.false_and]
      simp (disch := first | omega | (simp [-List.map_take, -List.map_drop, -List.map_set, -List.map_append, -List.drop_one] <;> omega) | fail) [-List.map_take, -List.map_drop, -List.map_set, -List.map_append, -List.drop_one, h', h, h3, one_gU, one_grU, hg, T130_s, smallC_eq, e, hf, hpg, hsg]
  · have h' : ¬ (i : Int) < u.gl.length := by omega
    have hall : u.gl.all smallU = true := by rwa [List.take_of_length_le (by omega), smallsU] at h2
    by_cases k1 : u.gl.length ≤ 20
    · have k1' : (u.gl.length : Int) ≤ 20 := by omega
      by_cases k2 : u.il.length ≤ 30
      · have k2' : (u.il.length : Int) ≤ 30 := by omega
        simp (disch := first | omega | (simp [-List.map_take, -List.map_drop, -List.map_set, -List.map_append, -List.drop_one] <;> omega) | fail) [-List.map_take, -List.map_drop, -List.map_set, -List.map_append, -List.drop_one, h, h', h3, one_gU, one_iU, hl1, hl2, k1, k1', k2, k2', fewU, hall]
      · have k2' : ¬ (u.il.length : Int) ≤ 30 := by omega
        simp (disch := first | omega | (simp [-List.map_take, -List.map_drop, -List.map_set, -List.map_append, -List.drop_one] <;> omega) | fail) [-List.map_take, -List.map_drop, -List.map_set, -List.map_append, -List.drop_one, h, h', h3, one_gU, one_iU, hl1, hl2, k1, k1', k2, k2', fewU, hall]
    · have k1' : ¬ (u.gl.length : Int) ≤ 20 := by omega
      simp (disch := first | omega | (simp [-List.map_take, -List.map_drop, -List.map_set, -List.map_append, -List.drop_one] <;> omega) | fail) [-List.map_take, -List.map_drop, -List.map_set, -List.map_append, -List.drop_one, h, h', h3, one_gU, one_iU, hl1, hl2, k1, k1', fewU, hall]
open Classical in
noncomputable def cAt (a : List DV) (v : DV) : List DV → Option DV := fun args => if args = a then some v else none
theorem cAt_eq {a : List DV} {v : DV} : cAt a v a = some v := if_pos rfl
theorem cAt_sound {f : Nat} {a : List DV} {v : DV} (h : Am.Sem P f a v) : (Con.pure (cAt a v)).Sound P f := by
  intro args w e
  unfold cAt at e
  split at e
  · rename_i ha; simp at e; subst ha e; exact h
  · simp at e
noncomputable def T131 (U : List DV) (bf : Bool) : Tbl := addT 15 (.pure (cAt [.agg U] (.bool bf))) (addT 16 (.pure smallC) (addT 17 (.pure cTrue) (addT 19 (.pure (cG1 validGB)) (addT 21 (.pure (cC1 validCB)) (addT 23 (.pure (cCSS grpD)) (addT 25 (.pure (cCi fun c i => .int .i64 (findIx c.i.l i))) T112))))))
section
variable {U : List DV} {bf : Bool}
theorem T131_few : T131 U bf 15 = .pure (cAt [.agg U] (.bool bf)) := by simp [T131]
theorem T131_small : T131 U bf 16 = .pure smallC := by simp [T131]
theorem T131_awake : T131 U bf 17 = .pure cTrue := by simp [T131]
theorem T131_rvg : T131 U bf 19 = .pure (cG1 validGB) := by simp [T131]
theorem T131_rv : T131 U bf 21 = .pure (cC1 validCB) := by simp [T131]
theorem T131_rg : T131 U bf 23 = .pure (cCSS grpD) := by simp [T131]
theorem T131_rf : T131 U bf 25 = .pure (cCi fun c i => .int .i64 (findIx c.i.l i)) := by simp [T131]
theorem T131_vg : T131 U bf 18 = .pure (cG1 validGB) := by simp [T131, T112]
theorem T131_v : T131 U bf 20 = .pure (cC1 validCB) := by simp [T131, T112]
theorem T131_g : T131 U bf 22 = .pure (cCSS grpD) := by simp [T131, T112]
theorem T131_f : T131 U bf 24 = .pure (cCi fun c i => .int .i64 (findIx c.i.l i)) := by simp [T131, T112]
theorem T131_sound (h : Am.Sem P 15 [.agg U] (.bool bf)) : (T131 U bf).Sound P := addT_sound (cAt_sound h) (addT_sound smallC_sound (addT_sound (cTrue_sound (sem_runs mix T116_sound Tryd.func17 a17_ok runs_awake37)) (addT_sound (con_sound fun x _ => sem_runs mix T120_sound Tryd.func19 a19_ok (runs_refvalidgroup x)) (addT_sound (con_sound fun x _ => sem_runs mix T121_sound Tryd.func21 a21_ok (runs_refvalid x)) (addT_sound (con_sound fun x _ => sem_runs mix tbl0_sound Tryd.func23 a23_ok (runs_refgroup x.1 x.2.1 x.2.2)) (addT_sound (con_sound fun x _ => sem_runs mix tbl0_sound Tryd.func25 a25_ok (runs_reffind x.1 x.2)) T112_sound))))))
end
theorem one3U {U : List DV} (h : U.length = 3) : one 3 true U = some (.agg U) := by simp [one, h, List.take_of_length_le]
theorem one6U {U : List DV} (h : U.length = 6) : one 6 true U = some (.agg U) := by simp [one, h, List.take_of_length_le]
set_option maxHeartbeats 2000000 in
theorem runs_lawvalid (U G : List DV) (bf bs : Bool) (hU : U.length = 3) (hG : G.length = 6) (ns im : List UInt8) (id : Int) (pU : pureL U = true) (pG : pureL G = true) (hs : smallC [.agg G] = some (.bool bs)) (hc : bf = true → ∃ c, U = clC c) (hg : bs = true → ∃ g, G = grC g) :
    Runs (T131 U bf) a3 [.agg U, .agg G, .str ns, .str im, .int .i64 id] (.bool true) := by
  have u3 := one3U hU
  have g6 := one6U hG
  have sU : ∀ H k, snapL H k U = some U := fun H k => snapL_clean pU
  have sG : ∀ H k, snapL H k G = some G := fun H k => snapL_clean pG
  refine ⟨?_⟩
  cases bf with
  | false => simp (disch := first | omega | (simp [-List.map_take, -List.map_drop, -List.map_set, -List.map_append, -List.drop_one] <;> omega) | fail) [-List.map_take, -List.map_drop, -List.map_set, -List.map_append, -List.drop_one, a3, hU, hG, u3, g6, pU, pG, sU, sG, T131_few, cAt_eq, T131_awake, cTrue_eq]
  | true =>
    cases bs with
    | false => simp (disch := first | omega | (simp [-List.map_take, -List.map_drop, -List.map_set, -List.map_append, -List.drop_one] <;> omega) | fail) [-List.map_take, -List.map_drop, -List.map_set, -List.map_append, -List.drop_one, a3, hU, hG, u3, g6, pU, pG, sU, sG, T131_few, cAt_eq, T131_small, hs, T131_awake, cTrue_eq]
    | true =>
      obtain ⟨c, rfl⟩ := hc rfl
      obtain ⟨g, rfl⟩ := hg rfl
      simp (disch := first | omega | (simp [-List.map_take, -List.map_drop, -List.map_set, -List.map_append, -List.drop_one] <;> omega) | fail) [-List.map_take, -List.map_drop, -List.map_set, -List.map_append, -List.drop_one, a3, T131_few, cAt_eq, T131_small, hs, T131_awake, cTrue_eq, T131_rvg, T131_rv, T131_rg, T131_rf, T131_vg, T131_v, T131_g, T131_f, cG1_eq, cC1_eq, cCSS_eq, cCi_eq, validGB, validCB, grpD]
abbrev tyDg : Ty := .arr 32 (.int .u8)
abbrev tyGr : Ty := .st [.str, .str, .int .i64, .int .i64, .int .i64, .sl tyDg]
abbrev tyIn : Ty := .st [.int .i64, .int .i64, tyDg, .int .i64, .int .i64, .int .i64]
abbrev tyCl : Ty := .st [.sl tyGr, .sl tyIn, .int .i64]
theorem ok_dg {ds : List DV} (h : Ty.Ok tyDg ds) : ∃ d : Dg, True ∧ ds = dgC d := by
  obtain ⟨b, h1, rfl⟩ := ok_words h
  exact ⟨⟨b, h1⟩, trivial, rfl⟩
theorem ok_int {ds : List DV} (h : Ty.Ok (.int .i64) ds) : ∃ n : Int, ds = [.int .i64 n] := by
  obtain ⟨n, _, h⟩ := ok_i64 h
  exact ⟨n, h⟩
theorem ok_st {ds : List DV} (h : Ty.Ok .str ds) : ∃ s, ds = [.str s] := h
theorem ok_gr {ds : List DV} (h : Ty.Ok tyGr ds) : ∃ g : GrpU, True ∧ ds = grU g := by
  simp only [tyGr, Ty.Ok, Ty.OkL] at h
  obtain ⟨a1, b1, rfl, h1, a2, b2, rfl, h2, a3, b3, rfl, h3, a4, b4, rfl, h4, a5, b5, rfl, h5, a6, b6, rfl, h6, rfl⟩ := h
  obtain ⟨ns, rfl⟩ := h1
  obtain ⟨im, rfl⟩ := h2
  obtain ⟨w, rfl, _⟩ := h3
  obtain ⟨le, rfl, _⟩ := h4
  obtain ⟨dn, rfl, _⟩ := h5
  obtain ⟨k, l, hk, _, rfl⟩ := ok_sl (e := tyDg) (f := dgC) (R := fun _ => True) (fun ds h => ok_dg h) (by simpa only [Ty.Ok] using h6)
  exact ⟨⟨ns, im, w, le, dn, k, l, hk⟩, trivial, rfl⟩
theorem ok_in {ds : List DV} (h : Ty.Ok tyIn ds) : ∃ x : Ins, True ∧ ds = inC x := by
  simp only [tyIn, Ty.Ok, Ty.OkL] at h
  obtain ⟨a1, b1, rfl, h1, a2, b2, rfl, h2, a3, b3, rfl, h3, a4, b4, rfl, h4, a5, b5, rfl, h5, a6, b6, rfl, h6, rfl⟩ := h
  obtain ⟨n1, rfl, _⟩ := h1
  obtain ⟨n2, rfl, _⟩ := h2
  obtain ⟨d, _, rfl⟩ := ok_dg (show Ty.Ok tyDg a3 by simpa only [Ty.Ok] using h3)
  obtain ⟨n4, rfl, _⟩ := h4
  obtain ⟨n5, rfl, _⟩ := h5
  obtain ⟨n6, rfl, _⟩ := h6
  exact ⟨⟨n1, n2, d, n4, n5, n6⟩, trivial, by simp [inC]⟩
theorem ok_cl {ds : List DV} (h : Ty.Ok tyCl ds) : ∃ u : CluU, ds = clU u := by
  rw [tyCl, Ty.Ok] at h
  simp only [Ty.OkL] at h
  obtain ⟨a1, b1, rfl, h1, a2, b2, rfl, h2, a3, b3, rfl, h3, rfl⟩ := h
  obtain ⟨gk, gl, gh, _, rfl, gb⟩ := ok_slb (e := tyGr) (f := grU) (R := fun _ => True) (fun ds h => ok_gr h) h1
  obtain ⟨ik, il, ih, _, rfl⟩ := ok_sl (e := tyIn) (f := inC) (R := fun _ => True) (fun ds h => ok_in h) h2
  obtain ⟨n, rfl⟩ := ok_int h3
  exact ⟨⟨gk, gl, gh, gb, ik, il, ih, n⟩, rfl⟩
namespace workloadValid
theorem law_holds (dvs) (h : Ty.Args [tyCl, tyGr, .str, .str, .int .i64] dvs) : Am.Sem P 3 dvs (.bool true) := by
  obtain ⟨d1, l1, rfl, h1, d2, l2, rfl, h2, d3, l3, rfl, h3, d4, l4, rfl, h4, d5, l5, rfl, h5, rfl⟩ := h
  obtain ⟨u, rfl⟩ := ok_cl h1
  obtain ⟨g, _, rfl⟩ := ok_gr h2
  obtain ⟨ns, rfl⟩ := ok_st h3
  obtain ⟨im, rfl⟩ := ok_st h4
  obtain ⟨id, rfl⟩ := ok_int h5
  exact sem_runs mix (T131_sound (sem_runs mix T130_sound Tryd.func15 a15_ok (runs_few u))) Tryd.func3 a3_ok
    (runs_lawvalid (clU u) (grU g) (fewU u) (smallU g) (len_clU u) (len_grU g) ns im id (pure_clU u) (pure_grU g) smallC_eq (fun e => by obtain ⟨c, hc⟩ := few_to e; exact ⟨c, hc.symm⟩) (fun e => by obtain ⟨x, hx⟩ := small_to e; exact ⟨x, hx.symm⟩))
end workloadValid
end Go.Proofs.YtjhakjeioppijaaDoor
set_option linter.unusedSimpArgs false
set_option linter.unusedVariables false
namespace Go.Proofs.YtjhakjeioppijaaDoor
open Go Go.Am
noncomputable def T430 (U : List DV) (bf : Bool) : Tbl := addT 15 (.pure (cAt [.agg U] (.bool bf))) (addT 16 (.pure smallC) (addT 17 (.pure cTrue) (addT 36 (.pure (cDep deployRB)) (addT 37 (.pure (cSta startRB)) (addT 41 (.pure (cCii fun c i t => chgRB c i t 1 2 3)) (addT 42 (.pure (cCi removeRB)) (addT 43 (.pure (cMkF markR)) (addT 35 (.pure (cDep deployB)) (addT 32 (.pure (cSta startB)) (addT 40 (.pure (cCii fun c i t => changeB c i t 3)) (addT 31 (.pure (cCi removeB)) (addT 30 (.pure (cMkF markP)) (addT 44 (.pure cCC) tbl0)))))))))))))
section
variable {U : List DV} {bf : Bool}
theorem T430_few : T430 U bf 15 = .pure (cAt [.agg U] (.bool bf)) := by simp [T430]
theorem T430_small : T430 U bf 16 = .pure smallC := by simp [T430]
theorem T430_awake : T430 U bf 17 = .pure cTrue := by simp [T430]
theorem T430_rd : T430 U bf 36 = .pure (cDep deployRB) := by simp [T430]
theorem T430_rs : T430 U bf 37 = .pure (cSta startRB) := by simp [T430]
theorem T430_rt : T430 U bf 41 = .pure (cCii fun c i t => chgRB c i t 1 2 3) := by simp [T430]
theorem T430_rr : T430 U bf 42 = .pure (cCi removeRB) := by simp [T430]
theorem T430_rm : T430 U bf 43 = .pure (cMkF markR) := by simp [T430]
theorem T430_pd : T430 U bf 35 = .pure (cDep deployB) := by simp [T430]
theorem T430_ps : T430 U bf 32 = .pure (cSta startB) := by simp [T430]
theorem T430_pt : T430 U bf 40 = .pure (cCii fun c i t => changeB c i t 3) := by simp [T430]
theorem T430_pr : T430 U bf 31 = .pure (cCi removeB) := by simp [T430]
theorem T430_pm : T430 U bf 30 = .pure (cMkF markP) := by simp [T430]
theorem T430_same : T430 U bf 44 = .pure cCC := by simp [T430]
theorem T430_sound (h : Am.Sem P 15 [.agg U] (.bool bf)) : (T430 U bf).Sound P := addT_sound (cAt_sound h) (addT_sound smallC_sound (addT_sound awake_sound37 (addT_sound refdeploy_sound (addT_sound refstart_sound (addT_sound refstop_sound (addT_sound refremove_sound (addT_sound refmark_sound (addT_sound deploy_sound37 (addT_sound start_sound37 (addT_sound stop_sound37 (addT_sound remove_sound37 (addT_sound mark_sound37 (addT_sound same_sound tbl0_sound)))))))))))))
end
structure Pair2 (p r : DV) (x y : Clu) (e : Int) : Prop where
  p : p = .tup [.agg (clC x), .int .i64 e]
  r : r = .tup [.agg (clC y), .int .i64 e]
  s : sameB x y = true
theorem pair_deploy (c : Clu) (g : Grp) : ∃ x y e, Pair2 (deployB c g) (deployRB c g) x y e := by
  obtain ⟨h1, h2⟩ := same_deploy c g
  exact ⟨_, _, _, rfl, by rw [deployRB, h1], sameB_true h2⟩
theorem pair_stop (c : Clu) (id t : Int) : ∃ x y e, Pair2 (changeB c id t 3) (chgRB c id t 1 2 3) x y e := by
  obtain ⟨h1, h2⟩ := same_stop c id t
  exact ⟨_, _, _, rfl, by rw [chgRB, h1], sameB_true h2⟩
theorem pair_remove (c : Clu) (id : Int) : ∃ x y e, Pair2 (removeB c id) (removeRB c id) x y e := by
  obtain ⟨h1, h2⟩ := same_remove c id
  exact ⟨_, _, _, rfl, by rw [removeRB, h1], sameB_true h2⟩
structure Pair3 (p r : DV) (x y : Clu) (i e : Int) : Prop where
  p : p = .tup [.agg (clC x), .int .i64 i, .int .i64 e]
  r : r = .tup [.agg (clC y), .int .i64 i, .int .i64 e]
  s : sameB x y = true
theorem pair_start (c : Clu) (gr : Int) (d : Dg) (t : Int) : ∃ x y i e, Pair3 (startB c gr d t) (startRB c gr d t) x y i e := by
  obtain ⟨h1, h2⟩ := same_start c gr d t
  exact ⟨_, _, _, _, rfl, by rw [startRB, h1], sameB_true h2⟩
set_option maxRecDepth 20000 in
set_option maxHeartbeats 4000000 in
theorem runs_lawraw (U G : List DV) (bf bs : Bool) (hU : U.length = 3) (hG : G.length = 6) (id gr : Int) (d : Dg) (t : Int) (mk : Option Bool) (ml : List Bool) (mh : mk = none → ml = []) (pU : pureL U = true) (pG : pureL G = true) (hs : smallC [.agg G] = some (.bool bs)) (hc : bf = true → ∃ c, U = clC c) (hg : bs = true → ∃ g, G = grC g) :
    Runs (T430 U bf) a8 [.agg U, .agg G, .int .i64 id, .int .i64 gr, .agg (dgC d), .int .i64 t, slD mk 1 ml.length (ml.flatMap inB)] (.bool true) := by
  have u3 := one3U hU
  have g6 := one6U hG
  have sU : ∀ H k, snapL H k U = some U := fun H k => snapL_clean pU
  have sG : ∀ H k, snapL H k G = some G := fun H k => snapL_clean pG
  have hlm : ∀ H, lenD H (slD mk 1 ml.length (ml.flatMap inB)) = some (.int .i64 ml.length) := fun H => lenD_slD (fun e => by rw [mh e]; rfl)
  have hpm : pureD (slD mk 1 ml.length (ml.flatMap inB)) = true := pure_slD (fm_pure pure_inB ml)
  refine ⟨?_⟩
  cases bf with
  | false => simp (disch := first | omega | (simp [-List.map_take, -List.map_drop, -List.map_set, -List.map_append, -List.drop_one] <;> omega) | fail) [-List.map_take, -List.map_drop, -List.map_set, -List.map_append, -List.drop_one, a8, hU, hG, u3, g6, pU, pG, sU, sG, hlm, hpm, T430_few, cAt_eq, T430_awake, cTrue_eq]
  | true =>
    cases bs with
    | false => simp (disch := first | omega | (simp [-List.map_take, -List.map_drop, -List.map_set, -List.map_append, -List.drop_one] <;> omega) | fail) [-List.map_take, -List.map_drop, -List.map_set, -List.map_append, -List.drop_one, a8, hU, hG, u3, g6, pU, pG, sU, sG, hlm, hpm, T430_few, cAt_eq, T430_small, hs, T430_awake, cTrue_eq]
    | true =>
      by_cases hm : 40 < ml.length
      · have hm' : (40 : Int) < ml.length := by omega
        simp (disch := first | omega | (simp [-List.map_take, -List.map_drop, -List.map_set, -List.map_append, -List.drop_one] <;> omega) | fail) [-List.map_take, -List.map_drop, -List.map_set, -List.map_append, -List.drop_one, a8, hU, hG, u3, g6, pU, pG, sU, sG, hlm, hpm, hm, hm', T430_few, cAt_eq, T430_small, hs, T430_awake, cTrue_eq]
      · have hm' : ¬ (40 : Int) < ml.length := by omega
        obtain ⟨c, rfl⟩ := hc rfl
        obtain ⟨g, rfl⟩ := hg rfl
        obtain ⟨m, hmd⟩ : ∃ m : Sl Bool, m.dv 1 inB = slD mk 1 ml.length (ml.flatMap inB) := ⟨⟨mk, ml, mh, by omega⟩, rfl⟩
        rw [← hmd] at hlm hpm ⊢
        obtain ⟨x1, y1, e1, P1⟩ := pair_deploy c g
        obtain ⟨x2, y2, i2, e2, P2⟩ := pair_start c gr d t
        obtain ⟨x3, y3, e3, P3⟩ := pair_stop c id t
        obtain ⟨x4, y4, e4, P4⟩ := pair_remove c id
        have P5 := sameB_true (same_mark c m.l t)
        obtain ⟨x5, h5⟩ : ∃ x, markP c m.l t = x := ⟨_, rfl⟩
        obtain ⟨y5, k5⟩ : ∃ x, markR c m.l t = x := ⟨_, rfl⟩
        rw [h5, k5] at P5
        have p1 := P1.p
        have r1 := P1.r
        have s1 := P1.s
        have p2 := P2.p
        have r2 := P2.r
        have s2 := P2.s
        have p3 := P3.p
        have r3 := P3.r
        have s3 := P3.s
        have p4 := P4.p
        have r4 := P4.r
        have s4 := P4.s
        simp (disch := first | omega | (simp [-List.map_take, -List.map_drop, -List.map_set, -List.map_append, -List.drop_one] <;> omega) | fail) [-List.map_take, -List.map_drop, -List.map_set, -List.map_append, -List.drop_one, a8, hlm, hpm, hm', T430_few, cAt_eq, T430_small, hs, T430_awake, cTrue_eq, T430_rd, T430_rs, T430_rt, T430_rr, T430_rm, T430_pd, T430_ps, T430_pt, T430_pr, T430_pm, T430_same, cDep_eq, cSta_eq, cCii_eq, cCi_eq, cMkF_eq, cCC_eq, p1, r1, s1, p2, r2, s2, p3, r3, s3, p4, r4, s4, h5, k5, P5]
namespace workloadRaw
theorem law_holds (dvs) (h : Ty.Args [tyCl, tyGr, .int .i64, .int .i64, tyDg, .int .i64, .sl .bool] dvs) : Am.Sem P 8 dvs (.bool true) := by
  obtain ⟨d1, l1, rfl, h1, d2, l2, rfl, h2, d3, l3, rfl, h3, d4, l4, rfl, h4, d5, l5, rfl, h5, d6, l6, rfl, h6, d7, l7, rfl, h7, rfl⟩ := h
  obtain ⟨u, rfl⟩ := ok_cl h1
  obtain ⟨g, _, rfl⟩ := ok_gr h2
  obtain ⟨id, rfl⟩ := ok_int h3
  obtain ⟨gr, rfl⟩ := ok_int h4
  obtain ⟨d, _, rfl⟩ := ok_dg h5
  obtain ⟨t, rfl⟩ := ok_int h6
  obtain ⟨k, l, h1, h2, rfl, hb⟩ := ok_slb (f := inB) (R := fun _ => True) (fun ds h => by obtain ⟨b, rfl⟩ := h; exact ⟨b, trivial, rfl⟩) h7
  exact sem_runs mix (T430_sound (sem_runs mix T130_sound Tryd.func15 a15_ok (runs_few u))) Tryd.func8 a8_ok
    (runs_lawraw (clU u) (grU g) (fewU u) (smallU g) (len_clU u) (len_grU g) id gr d t k l h1 (pure_clU u) (pure_grU g) smallC_eq (fun e => by obtain ⟨c, hc⟩ := few_to e; exact ⟨c, hc.symm⟩) (fun e => by obtain ⟨x, hx⟩ := small_to e; exact ⟨x, hx.symm⟩))
end workloadRaw
end Go.Proofs.YtjhakjeioppijaaDoor
