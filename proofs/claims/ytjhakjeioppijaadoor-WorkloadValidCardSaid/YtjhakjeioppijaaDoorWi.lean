/-
  Functions of this claim, as the abstract machine has them. MADE BY A PROGRAM of mine.
-/
import Derived.Test.YtjhakjeioppijaaDoorWgg
import Derived.Test.YtjhakjeioppijaaDoorWh
set_option linter.unusedSimpArgs false
set_option linter.unusedVariables false
namespace Go.Proofs.YtjhakjeioppijaaDoor
open Go Go.Am
-- 17 admission/admissionlaw37.awake
def a17 : AFn where
  code := (.seq (.region false [⟨none, (some 0), .mov (.k (.bool false))⟩])
  (.seq (.region false [⟨none, (some 11), .build [.nils, .nils, (.int .i64 0)] [(2, 1, (.k (.int .i64 1)))]⟩,
    ⟨none, (some 12), .build (rep 32 (w8 0#8)) [(0, 1, (.k (w8 1#8)))]⟩,
    ⟨none, (some 13), .bsl 32 1 (rep 32 (w8 0#8)) [(0, 32, (.t 12))]⟩,
    ⟨none, (some 14), .build [(.str []), (.str []), (.int .i64 0), (.int .i64 0), (.int .i64 0), .nils] [(0, 1, (.k (.str [97]))), (1, 1, (.k (.str [98]))), (2, 1, (.k (.int .i64 1))), (5, 1, (.t 13))]⟩,
    ⟨none, (some 15), .call (.k (.fn (.func 35) [] [])) [(.t 11), (.t 14)]⟩,
    ⟨none, (some 10), .mov (.t 15)⟩,
    ⟨none, (some 16), .ext (.t 10) 0⟩,
    ⟨none, (some 17), .ext (.t 10) 1⟩,
    ⟨none, (some 1), .alloc [.nils, .nils, (.int .i64 0)]⟩,
    ⟨none, none, .store 3 (.t 1) (.t 16)⟩,
    ⟨none, (some 2), .mov (.t 17)⟩])
  (.seq (.region false [⟨none, (some 19), .load 3 true (.t 1)⟩,
    ⟨none, (some 20), .build (rep 32 (w8 0#8)) [(0, 1, (.k (w8 1#8)))]⟩,
    ⟨none, (some 21), .call (.k (.fn (.func 32) [] [])) [(.t 19), (.k (.int .i64 0)), (.t 20), (.k (.int .i64 5))]⟩,
    ⟨none, (some 18), .mov (.t 21)⟩,
    ⟨none, (some 22), .ext (.t 18) 0⟩,
    ⟨none, (some 23), .ext (.t 18) 1⟩,
    ⟨none, (some 24), .ext (.t 18) 2⟩,
    ⟨none, (some 3), .alloc [.nils, .nils, (.int .i64 0)]⟩,
    ⟨none, none, .store 3 (.t 3) (.t 22)⟩,
    ⟨none, (some 4), .mov (.t 23)⟩,
    ⟨none, (some 5), .mov (.t 24)⟩])
  (.seq (.region false [⟨none, (some 26), .load 3 true (.t 3)⟩,
    ⟨none, (some 27), .call (.k (.fn (.func 38) [] [])) [(.t 26), (.k (.int .i64 1)), (.k (.int .i64 6))]⟩,
    ⟨none, (some 25), .mov (.t 27)⟩,
    ⟨none, (some 28), .ext (.t 25) 0⟩,
    ⟨none, (some 29), .ext (.t 25) 1⟩,
    ⟨none, (some 6), .alloc [.nils, .nils, (.int .i64 0)]⟩,
    ⟨none, none, .store 3 (.t 6) (.t 28)⟩,
    ⟨none, (some 7), .mov (.t 29)⟩])
  (.seq (.region false [⟨none, (some 31), .load 3 true (.t 6)⟩,
    ⟨none, (some 32), .call (.k (.fn (.func 38) [] [])) [(.t 31), (.k (.int .i64 1)), (.k (.int .i64 7))]⟩,
    ⟨none, (some 30), .mov (.t 32)⟩,
    ⟨none, (some 33), .ext (.t 30) 0⟩,
    ⟨none, (some 34), .ext (.t 30) 1⟩,
    ⟨none, (some 8), .alloc [.nils, .nils, (.int .i64 0)]⟩,
    ⟨none, none, .store 3 (.t 8) (.t 33)⟩,
    ⟨none, (some 9), .mov (.t 34)⟩])
  (.seq (.region false [⟨none, (some 35), .mov (.t 2)⟩,
    ⟨none, (some 36), .bin .eql (.t 35) (.k (.int .i64 0))⟩,
    ⟨none, (some 37), .mov (.t 36)⟩,
    ⟨(some (37, true)), (some 38), .mov (.t 5)⟩,
    ⟨(some (37, true)), (some 39), .bin .eql (.t 38) (.k (.int .i64 0))⟩,
    ⟨none, (some 40), .pick (.t 37) (.t 39) (.k (.bool false))⟩,
    ⟨none, (some 41), .mov (.t 40)⟩,
    ⟨(some (41, true)), (some 42), .mov (.t 7)⟩,
    ⟨(some (41, true)), (some 43), .bin .eql (.t 42) (.k (.int .i64 0))⟩,
    ⟨none, (some 44), .pick (.t 41) (.t 43) (.k (.bool false))⟩,
    ⟨none, (some 45), .mov (.t 44)⟩,
    ⟨(some (45, true)), (some 46), .mov (.t 4)⟩,
    ⟨(some (45, true)), (some 47), .bin .eql (.t 46) (.k (.int .i64 1))⟩,
    ⟨none, (some 48), .pick (.t 45) (.t 47) (.k (.bool false))⟩,
    ⟨none, (some 49), .mov (.t 48)⟩,
    ⟨(some (49, true)), (some 50), .fld 1 (.t 6)⟩,
    ⟨(some (49, true)), (some 51), .load 1 false (.t 50)⟩,
    ⟨(some (49, true)), (some 52), .idxS 37 (.t 51) (.k (.int .i64 0))⟩,
    ⟨(some (49, true)), (some 53), .fld 34 (.t 52)⟩,
    ⟨(some (49, true)), (some 54), .load 1 false (.t 53)⟩,
    ⟨(some (49, true)), (some 55), .bin .eql (.t 54) (.k (.int .i64 2))⟩,
    ⟨none, (some 56), .pick (.t 49) (.t 55) (.k (.bool false))⟩,
    ⟨none, (some 57), .mov (.t 56)⟩,
    ⟨(some (57, true)), (some 58), .mov (.t 9)⟩,
    ⟨(some (57, true)), (some 59), .bin .eql (.t 58) (.k (.int .i64 30))⟩,
    ⟨none, (some 60), .pick (.t 57) (.t 59) (.k (.bool false))⟩,
    ⟨none, (some 61), .mov (.t 60)⟩,
    ⟨(some (61, true)), (some 62), .load 3 true (.t 6)⟩,
    ⟨(some (61, true)), (some 63), .call (.k (.fn (.func 20) [] [])) [(.t 62)]⟩,
    ⟨none, (some 64), .pick (.t 61) (.t 63) (.k (.bool false))⟩,
    ⟨none, (some 65), .mov (.t 64)⟩,
    ⟨(some (65, true)), (some 66), .load 3 true (.t 6)⟩,
    ⟨(some (65, true)), (some 67), .call (.k (.fn (.func 24) [] [])) [(.t 66), (.k (.int .i64 1))]⟩,
    ⟨(some (65, true)), (some 68), .bin .eql (.t 67) (.k (.int .i64 0))⟩,
    ⟨none, (some 69), .pick (.t 65) (.t 68) (.k (.bool false))⟩,
    ⟨none, (some 70), .mov (.t 69)⟩,
    ⟨(some (70, true)), (some 71), .load 3 true (.t 6)⟩,
    ⟨(some (70, true)), (some 72), .call (.k (.fn (.func 22) [] [])) [(.t 71), (.k (.str [97])), (.k (.str [98]))]⟩,
    ⟨(some (70, true)), (some 73), .bin .eql (.t 72) (.k (.int .i64 0))⟩,
    ⟨none, (some 74), .pick (.t 70) (.t 73) (.k (.bool false))⟩,
    ⟨none, (some 0), .mov (.t 74)⟩])
  .ret))))))
  ntmps := 75
  res := [.tmp 0]

theorem a17_ok : compileFn P Tryd.f17 = some a17 := by kernel_rfl

-- 15 admission/admissionlaw37.few
def a15L0 : ACode :=
  (.seq (.seq (.region false [⟨none, (some 4), .mov (.t 3)⟩,
    ⟨none, (some 5), .fld 0 (.t 1)⟩,
    ⟨none, (some 6), .load 1 false (.t 5)⟩,
    ⟨none, (some 7), .len (.t 6)⟩,
    ⟨none, (some 8), .bin .lss (.t 4) (.t 7)⟩])
  (.cond (.t 8) .skip
  (.exit 0)))
  (.seq (.block 1 (.seq (.region false [⟨none, (some 11), .fld 0 (.t 1)⟩,
    ⟨none, (some 12), .load 1 false (.t 11)⟩,
    ⟨none, (some 13), .mov (.t 3)⟩,
    ⟨none, (some 14), .idxS 6 (.t 12) (.t 13)⟩,
    ⟨none, (some 15), .load 6 true (.t 14)⟩,
    ⟨none, (some 16), .call (.k (.fn (.func 16) [] [])) [(.t 15)]⟩,
    ⟨none, (some 17), .un .not (.t 16)⟩])
  (.cond (.t 17) (.seq (.region false [⟨none, (some 2), .mov (.k (.bool false))⟩])
  .ret)
  .skip)))
  (.region false [⟨none, (some 9), .mov (.t 3)⟩,
    ⟨none, (some 10), .bin .add (.t 9) (.k (.int .i64 1))⟩,
    ⟨none, (some 3), .mov (.t 10)⟩])))
/-- 1:c 3:i -/
def a15S0 (x1 x3 : DV) (h : List AObj) : St := ⟨[.junk, x1, .junk, x3] ++ js 24, h⟩

def a15 : AFn where
  code := (.seq (.region false [⟨none, (some 1), .box (.t 0)⟩,
    ⟨none, (some 2), .mov (.k (.bool false))⟩])
  (.seq (.seq (.region false [⟨none, (some 3), .mov (.k (.int .i64 0))⟩])
  (.block 0 (.loop a15L0)))
  (.seq (.region false [⟨none, (some 18), .fld 0 (.t 1)⟩,
    ⟨none, (some 19), .load 1 false (.t 18)⟩,
    ⟨none, (some 20), .len (.t 19)⟩,
    ⟨none, (some 21), .bin .leq (.t 20) (.k (.int .i64 20))⟩,
    ⟨none, (some 22), .mov (.t 21)⟩,
    ⟨(some (22, true)), (some 23), .fld 1 (.t 1)⟩,
    ⟨(some (22, true)), (some 24), .load 1 false (.t 23)⟩,
    ⟨(some (22, true)), (some 25), .len (.t 24)⟩,
    ⟨(some (22, true)), (some 26), .bin .leq (.t 25) (.k (.int .i64 30))⟩,
    ⟨none, (some 27), .pick (.t 22) (.t 26) (.k (.bool false))⟩,
    ⟨none, (some 2), .mov (.t 27)⟩])
  .ret)))
  ntmps := 28
  res := [.tmp 2]

theorem a15_ok : compileFn P Tryd.f15 = some a15 := by kernel_rfl

-- 16 admission/admissionlaw37.small
def a16 : AFn where
  code := (.seq (.region false [⟨none, (some 1), .box (.t 0)⟩,
    ⟨none, (some 2), .mov (.k (.bool false))⟩])
  (.seq (.region false [⟨none, (some 3), .fld 0 (.t 1)⟩,
    ⟨none, (some 4), .load 1 false (.t 3)⟩,
    ⟨none, (some 5), .lenStr (.t 4)⟩,
    ⟨none, (some 6), .bin .leq (.t 5) (.k (.int .i64 300))⟩,
    ⟨none, (some 7), .mov (.t 6)⟩,
    ⟨(some (7, true)), (some 8), .fld 1 (.t 1)⟩,
    ⟨(some (7, true)), (some 9), .load 1 false (.t 8)⟩,
    ⟨(some (7, true)), (some 10), .lenStr (.t 9)⟩,
    ⟨(some (7, true)), (some 11), .bin .leq (.t 10) (.k (.int .i64 300))⟩,
    ⟨none, (some 12), .pick (.t 7) (.t 11) (.k (.bool false))⟩,
    ⟨none, (some 13), .mov (.t 12)⟩,
    ⟨(some (13, true)), (some 14), .fld 5 (.t 1)⟩,
    ⟨(some (13, true)), (some 15), .load 1 false (.t 14)⟩,
    ⟨(some (13, true)), (some 16), .len (.t 15)⟩,
    ⟨(some (13, true)), (some 17), .bin .leq (.t 16) (.k (.int .i64 12))⟩,
    ⟨none, (some 18), .pick (.t 13) (.t 17) (.k (.bool false))⟩,
    ⟨none, (some 2), .mov (.t 18)⟩])
  .ret))
  ntmps := 19
  res := [.tmp 2]

theorem a16_ok : compileFn P Tryd.f16 = some a16 := by kernel_rfl

-- 33 admission/admissionlaw37.has
def a33L0 : ACode :=
  (.seq (.seq (.region false [⟨none, (some 6), .mov (.t 5)⟩,
    ⟨none, (some 7), .mov (.t 0)⟩,
    ⟨none, (some 8), .len (.t 7)⟩,
    ⟨none, (some 9), .bin .lss (.t 6) (.t 8)⟩])
  (.cond (.t 9) .skip
  (.exit 0)))
  (.seq (.block 1 (.seq (.region false [⟨none, (some 12), .mov (.t 0)⟩,
    ⟨none, (some 13), .mov (.t 5)⟩,
    ⟨none, (some 14), .idxS 1 (.t 12) (.t 13)⟩,
    ⟨none, (some 15), .load 1 false (.t 14)⟩,
    ⟨none, (some 16), .mov (.t 1)⟩,
    ⟨none, (some 17), .bin .eql (.t 15) (.t 16)⟩])
  (.cond (.t 17) (.seq (.region false [⟨none, (some 4), .mov (.k (.bool true))⟩])
  .ret)
  .skip)))
  (.region false [⟨none, (some 10), .mov (.t 5)⟩,
    ⟨none, (some 11), .bin .add (.t 10) (.k (.int .i64 1))⟩,
    ⟨none, (some 5), .mov (.t 11)⟩])))
/-- 0:l 1:n 5:i -/
def a33S0 (x0 x1 x5 : DV) (h : List AObj) : St := ⟨[x0, x1, .junk, .junk, .junk, x5] ++ js 12, h⟩

def a33 : AFn where
  code := (.seq (.region false [⟨none, (some 4), .mov (.k (.bool false))⟩])
  (.seq (.seq (.region false [⟨none, (some 5), .mov (.k (.int .i64 0))⟩])
  (.block 0 (.loop a33L0)))
  (.seq (.region false [⟨none, (some 4), .mov (.k (.bool false))⟩])
  .ret)))
  ntmps := 18
  res := [.tmp 4]

theorem a33_ok : compileFn P Tryd.f33 = some a33 := by kernel_rfl

-- 3 admission/admissionlaw37.WorkloadValid
def a3 : AFn where
  code := (.seq (.region false [⟨none, (some 5), .box (.t 0)⟩,
    ⟨none, (some 6), .box (.t 1)⟩,
    ⟨none, (some 10), .mov (.k (.bool false))⟩])
  (.seq (.seq (.region false [⟨none, (some 11), .load 3 true (.t 5)⟩,
    ⟨none, (some 12), .call (.k (.fn (.func 15) [] [])) [(.t 11)]⟩,
    ⟨none, (some 13), .un .not (.t 12)⟩,
    ⟨none, (some 14), .mov (.t 13)⟩,
    ⟨(some (14, false)), (some 15), .load 6 true (.t 6)⟩,
    ⟨(some (14, false)), (some 16), .call (.k (.fn (.func 16) [] [])) [(.t 15)]⟩,
    ⟨(some (14, false)), (some 17), .un .not (.t 16)⟩,
    ⟨none, (some 18), .pick (.t 14) (.k (.bool true)) (.t 17)⟩])
  (.cond (.t 18) (.seq (.region false [⟨none, (some 19), .call (.k (.fn (.func 17) [] [])) []⟩,
    ⟨none, (some 10), .mov (.t 19)⟩])
  .ret)
  .skip))
  (.seq (.region true [⟨none, (some 20), .load 6 true (.t 6)⟩,
    ⟨none, (some 22), .load 6 true (.t 6)⟩,
    ⟨none, (some 21), .callN (.k (.fn (.func 18) [] [])) [(.t 20)]⟩,
    ⟨none, (some 23), .callN (.k (.fn (.func 19) [] [])) [(.t 22)]⟩,
    ⟨none, (some 24), .eqb false (.t 21) (.t 23)⟩,
    ⟨none, (some 25), .mov (.t 24)⟩,
    ⟨(some (25, true)), (some 26), .load 3 true (.t 5)⟩,
    ⟨(some (25, true)), (some 28), .load 3 true (.t 5)⟩,
    ⟨(some (25, true)), (some 27), .callN (.k (.fn (.func 20) [] [])) [(.t 26)]⟩,
    ⟨(some (25, true)), (some 29), .callN (.k (.fn (.func 21) [] [])) [(.t 28)]⟩,
    ⟨(some (25, true)), (some 30), .eqb false (.t 27) (.t 29)⟩,
    ⟨none, (some 31), .pick (.t 25) (.t 30) (.k (.bool false))⟩,
    ⟨none, (some 32), .mov (.t 31)⟩,
    ⟨(some (32, true)), (some 33), .load 3 true (.t 5)⟩,
    ⟨(some (32, true)), (some 34), .mov (.t 2)⟩,
    ⟨(some (32, true)), (some 35), .mov (.t 3)⟩,
    ⟨(some (32, true)), (some 37), .load 3 true (.t 5)⟩,
    ⟨(some (32, true)), (some 38), .mov (.t 2)⟩,
    ⟨(some (32, true)), (some 39), .mov (.t 3)⟩,
    ⟨(some (32, true)), (some 36), .callN (.k (.fn (.func 22) [] [])) [(.t 33), (.t 34), (.t 35)]⟩,
    ⟨(some (32, true)), (some 40), .callN (.k (.fn (.func 23) [] [])) [(.t 37), (.t 38), (.t 39)]⟩,
    ⟨(some (32, true)), (some 41), .bin .eql (.t 36) (.t 40)⟩,
    ⟨none, (some 42), .pick (.t 32) (.t 41) (.k (.bool false))⟩,
    ⟨none, (some 43), .mov (.t 42)⟩,
    ⟨(some (43, true)), (some 44), .load 3 true (.t 5)⟩,
    ⟨(some (43, true)), (some 45), .mov (.t 4)⟩,
    ⟨(some (43, true)), (some 47), .load 3 true (.t 5)⟩,
    ⟨(some (43, true)), (some 48), .mov (.t 4)⟩,
    ⟨(some (43, true)), (some 46), .callN (.k (.fn (.func 24) [] [])) [(.t 44), (.t 45)]⟩,
    ⟨(some (43, true)), (some 49), .callN (.k (.fn (.func 25) [] [])) [(.t 47), (.t 48)]⟩,
    ⟨(some (43, true)), (some 50), .bin .eql (.t 46) (.t 49)⟩,
    ⟨none, (some 51), .pick (.t 43) (.t 50) (.k (.bool false))⟩,
    ⟨none, (some 52), .mov (.t 51)⟩,
    ⟨(some (52, true)), (some 53), .callN (.k (.fn (.func 17) [] [])) []⟩,
    ⟨none, (some 54), .pick (.t 52) (.t 53) (.k (.bool false))⟩,
    ⟨none, (some 10), .mov (.t 54)⟩])
  .ret)))
  ntmps := 55
  res := [.tmp 10]

theorem a3_ok : compileFn P Tryd.f3 = some a3 := by kernel_rfl

-- 8 admission/admissionlaw37.WorkloadRaw
def a8 : AFn where
  code := (.seq (.region false [⟨none, (some 7), .box (.t 0)⟩,
    ⟨none, (some 8), .box (.t 1)⟩,
    ⟨none, (some 11), .box (.t 4)⟩,
    ⟨none, (some 14), .mov (.k (.bool false))⟩])
  (.seq (.seq (.region false [⟨none, (some 33), .load 3 true (.t 7)⟩,
    ⟨none, (some 34), .call (.k (.fn (.func 15) [] [])) [(.t 33)]⟩,
    ⟨none, (some 35), .un .not (.t 34)⟩,
    ⟨none, (some 36), .mov (.t 35)⟩,
    ⟨(some (36, false)), (some 37), .load 6 true (.t 8)⟩,
    ⟨(some (36, false)), (some 38), .call (.k (.fn (.func 16) [] [])) [(.t 37)]⟩,
    ⟨(some (36, false)), (some 39), .un .not (.t 38)⟩,
    ⟨none, (some 40), .pick (.t 36) (.k (.bool true)) (.t 39)⟩,
    ⟨none, (some 41), .mov (.t 40)⟩,
    ⟨(some (41, false)), (some 42), .mov (.t 6)⟩,
    ⟨(some (41, false)), (some 43), .len (.t 42)⟩,
    ⟨(some (41, false)), (some 44), .bin .gtr (.t 43) (.k (.int .i64 40))⟩,
    ⟨none, (some 45), .pick (.t 41) (.k (.bool true)) (.t 44)⟩])
  (.cond (.t 45) (.seq (.region false [⟨none, (some 46), .call (.k (.fn (.func 17) [] [])) []⟩,
    ⟨none, (some 14), .mov (.t 46)⟩])
  .ret)
  .skip))
  (.seq (.region false [⟨none, (some 48), .load 3 true (.t 7)⟩,
    ⟨none, (some 49), .load 6 true (.t 8)⟩,
    ⟨none, (some 50), .call (.k (.fn (.func 35) [] [])) [(.t 48), (.t 49)]⟩,
    ⟨none, (some 47), .mov (.t 50)⟩,
    ⟨none, (some 51), .ext (.t 47) 0⟩,
    ⟨none, (some 52), .ext (.t 47) 1⟩,
    ⟨none, (some 15), .alloc [.nils, .nils, (.int .i64 0)]⟩,
    ⟨none, none, .store 3 (.t 15) (.t 51)⟩,
    ⟨none, (some 16), .mov (.t 52)⟩])
  (.seq (.region false [⟨none, (some 54), .load 3 true (.t 7)⟩,
    ⟨none, (some 55), .load 6 true (.t 8)⟩,
    ⟨none, (some 56), .call (.k (.fn (.func 36) [] [])) [(.t 54), (.t 55)]⟩,
    ⟨none, (some 53), .mov (.t 56)⟩,
    ⟨none, (some 57), .ext (.t 53) 0⟩,
    ⟨none, (some 58), .ext (.t 53) 1⟩,
    ⟨none, (some 17), .alloc [.nils, .nils, (.int .i64 0)]⟩,
    ⟨none, none, .store 3 (.t 17) (.t 57)⟩,
    ⟨none, (some 18), .mov (.t 58)⟩])
  (.seq (.region false [⟨none, (some 60), .load 3 true (.t 7)⟩,
    ⟨none, (some 61), .mov (.t 3)⟩,
    ⟨none, (some 62), .load 32 true (.t 11)⟩,
    ⟨none, (some 63), .mov (.t 5)⟩,
    ⟨none, (some 64), .call (.k (.fn (.func 32) [] [])) [(.t 60), (.t 61), (.t 62), (.t 63)]⟩,
    ⟨none, (some 59), .mov (.t 64)⟩,
    ⟨none, (some 65), .ext (.t 59) 0⟩,
    ⟨none, (some 66), .ext (.t 59) 1⟩,
    ⟨none, (some 67), .ext (.t 59) 2⟩,
    ⟨none, (some 19), .alloc [.nils, .nils, (.int .i64 0)]⟩,
    ⟨none, none, .store 3 (.t 19) (.t 65)⟩,
    ⟨none, (some 20), .mov (.t 66)⟩,
    ⟨none, (some 21), .mov (.t 67)⟩])
  (.seq (.region false [⟨none, (some 69), .load 3 true (.t 7)⟩,
    ⟨none, (some 70), .mov (.t 3)⟩,
    ⟨none, (some 71), .load 32 true (.t 11)⟩,
    ⟨none, (some 72), .mov (.t 5)⟩,
    ⟨none, (some 73), .call (.k (.fn (.func 37) [] [])) [(.t 69), (.t 70), (.t 71), (.t 72)]⟩,
    ⟨none, (some 68), .mov (.t 73)⟩,
    ⟨none, (some 74), .ext (.t 68) 0⟩,
    ⟨none, (some 75), .ext (.t 68) 1⟩,
    ⟨none, (some 76), .ext (.t 68) 2⟩,
    ⟨none, (some 22), .alloc [.nils, .nils, (.int .i64 0)]⟩,
    ⟨none, none, .store 3 (.t 22) (.t 74)⟩,
    ⟨none, (some 23), .mov (.t 75)⟩,
    ⟨none, (some 24), .mov (.t 76)⟩])
  (.seq (.region false [⟨none, (some 78), .load 3 true (.t 7)⟩,
    ⟨none, (some 79), .mov (.t 2)⟩,
    ⟨none, (some 80), .mov (.t 5)⟩,
    ⟨none, (some 81), .call (.k (.fn (.func 40) [] [])) [(.t 78), (.t 79), (.t 80)]⟩,
    ⟨none, (some 77), .mov (.t 81)⟩,
    ⟨none, (some 82), .ext (.t 77) 0⟩,
    ⟨none, (some 83), .ext (.t 77) 1⟩,
    ⟨none, (some 25), .alloc [.nils, .nils, (.int .i64 0)]⟩,
    ⟨none, none, .store 3 (.t 25) (.t 82)⟩,
    ⟨none, (some 26), .mov (.t 83)⟩])
  (.seq (.region false [⟨none, (some 85), .load 3 true (.t 7)⟩,
    ⟨none, (some 86), .mov (.t 2)⟩,
    ⟨none, (some 87), .mov (.t 5)⟩,
    ⟨none, (some 88), .call (.k (.fn (.func 41) [] [])) [(.t 85), (.t 86), (.t 87)]⟩,
    ⟨none, (some 84), .mov (.t 88)⟩,
    ⟨none, (some 89), .ext (.t 84) 0⟩,
    ⟨none, (some 90), .ext (.t 84) 1⟩,
    ⟨none, (some 27), .alloc [.nils, .nils, (.int .i64 0)]⟩,
    ⟨none, none, .store 3 (.t 27) (.t 89)⟩,
    ⟨none, (some 28), .mov (.t 90)⟩])
  (.seq (.region false [⟨none, (some 92), .load 3 true (.t 7)⟩,
    ⟨none, (some 93), .mov (.t 2)⟩,
    ⟨none, (some 94), .call (.k (.fn (.func 31) [] [])) [(.t 92), (.t 93)]⟩,
    ⟨none, (some 91), .mov (.t 94)⟩,
    ⟨none, (some 95), .ext (.t 91) 0⟩,
    ⟨none, (some 96), .ext (.t 91) 1⟩,
    ⟨none, (some 29), .alloc [.nils, .nils, (.int .i64 0)]⟩,
    ⟨none, none, .store 3 (.t 29) (.t 95)⟩,
    ⟨none, (some 30), .mov (.t 96)⟩])
  (.seq (.region false [⟨none, (some 98), .load 3 true (.t 7)⟩,
    ⟨none, (some 99), .mov (.t 2)⟩,
    ⟨none, (some 100), .call (.k (.fn (.func 42) [] [])) [(.t 98), (.t 99)]⟩,
    ⟨none, (some 97), .mov (.t 100)⟩,
    ⟨none, (some 101), .ext (.t 97) 0⟩,
    ⟨none, (some 102), .ext (.t 97) 1⟩,
    ⟨none, (some 31), .alloc [.nils, .nils, (.int .i64 0)]⟩,
    ⟨none, none, .store 3 (.t 31) (.t 101)⟩,
    ⟨none, (some 32), .mov (.t 102)⟩])
  (.seq (.region true [⟨none, (some 103), .mov (.t 16)⟩,
    ⟨none, (some 104), .mov (.t 18)⟩,
    ⟨none, (some 105), .bin .eql (.t 103) (.t 104)⟩,
    ⟨none, (some 106), .mov (.t 105)⟩,
    ⟨(some (106, true)), (some 107), .load 3 true (.t 15)⟩,
    ⟨(some (106, true)), (some 108), .load 3 true (.t 17)⟩,
    ⟨(some (106, true)), (some 109), .callN (.k (.fn (.func 44) [] [])) [(.t 107), (.t 108)]⟩,
    ⟨none, (some 110), .pick (.t 106) (.t 109) (.k (.bool false))⟩,
    ⟨none, (some 111), .mov (.t 110)⟩,
    ⟨(some (111, true)), (some 112), .mov (.t 21)⟩,
    ⟨(some (111, true)), (some 113), .mov (.t 24)⟩,
    ⟨(some (111, true)), (some 114), .bin .eql (.t 112) (.t 113)⟩,
    ⟨none, (some 115), .pick (.t 111) (.t 114) (.k (.bool false))⟩,
    ⟨none, (some 116), .mov (.t 115)⟩,
    ⟨(some (116, true)), (some 117), .mov (.t 20)⟩,
    ⟨(some (116, true)), (some 118), .mov (.t 23)⟩,
    ⟨(some (116, true)), (some 119), .bin .eql (.t 117) (.t 118)⟩,
    ⟨none, (some 120), .pick (.t 116) (.t 119) (.k (.bool false))⟩,
    ⟨none, (some 121), .mov (.t 120)⟩,
    ⟨(some (121, true)), (some 122), .load 3 true (.t 19)⟩,
    ⟨(some (121, true)), (some 123), .load 3 true (.t 22)⟩,
    ⟨(some (121, true)), (some 124), .callN (.k (.fn (.func 44) [] [])) [(.t 122), (.t 123)]⟩,
    ⟨none, (some 125), .pick (.t 121) (.t 124) (.k (.bool false))⟩,
    ⟨none, (some 126), .mov (.t 125)⟩,
    ⟨(some (126, true)), (some 127), .mov (.t 26)⟩,
    ⟨(some (126, true)), (some 128), .mov (.t 28)⟩,
    ⟨(some (126, true)), (some 129), .bin .eql (.t 127) (.t 128)⟩,
    ⟨none, (some 130), .pick (.t 126) (.t 129) (.k (.bool false))⟩,
    ⟨none, (some 131), .mov (.t 130)⟩,
    ⟨(some (131, true)), (some 132), .load 3 true (.t 25)⟩,
    ⟨(some (131, true)), (some 133), .load 3 true (.t 27)⟩,
    ⟨(some (131, true)), (some 134), .callN (.k (.fn (.func 44) [] [])) [(.t 132), (.t 133)]⟩,
    ⟨none, (some 135), .pick (.t 131) (.t 134) (.k (.bool false))⟩,
    ⟨none, (some 136), .mov (.t 135)⟩,
    ⟨(some (136, true)), (some 137), .mov (.t 30)⟩,
    ⟨(some (136, true)), (some 138), .mov (.t 32)⟩,
    ⟨(some (136, true)), (some 139), .bin .eql (.t 137) (.t 138)⟩,
    ⟨none, (some 140), .pick (.t 136) (.t 139) (.k (.bool false))⟩,
    ⟨none, (some 141), .mov (.t 140)⟩,
    ⟨(some (141, true)), (some 142), .load 3 true (.t 29)⟩,
    ⟨(some (141, true)), (some 143), .load 3 true (.t 31)⟩,
    ⟨(some (141, true)), (some 144), .callN (.k (.fn (.func 44) [] [])) [(.t 142), (.t 143)]⟩,
    ⟨none, (some 145), .pick (.t 141) (.t 144) (.k (.bool false))⟩,
    ⟨none, (some 146), .mov (.t 145)⟩,
    ⟨(some (146, true)), (some 147), .load 3 true (.t 7)⟩,
    ⟨(some (146, true)), (some 148), .mov (.t 6)⟩,
    ⟨(some (146, true)), (some 149), .mov (.t 5)⟩,
    ⟨(some (146, true)), (some 151), .load 3 true (.t 7)⟩,
    ⟨(some (146, true)), (some 152), .mov (.t 6)⟩,
    ⟨(some (146, true)), (some 153), .mov (.t 5)⟩,
    ⟨(some (146, true)), (some 150), .callN (.k (.fn (.func 30) [] [])) [(.t 147), (.t 148), (.t 149)]⟩,
    ⟨(some (146, true)), (some 154), .callN (.k (.fn (.func 43) [] [])) [(.t 151), (.t 152), (.t 153)]⟩,
    ⟨(some (146, true)), (some 155), .callN (.k (.fn (.func 44) [] [])) [(.t 150), (.t 154)]⟩,
    ⟨none, (some 156), .pick (.t 146) (.t 155) (.k (.bool false))⟩,
    ⟨none, (some 157), .mov (.t 156)⟩,
    ⟨(some (157, true)), (some 158), .callN (.k (.fn (.func 17) [] [])) []⟩,
    ⟨none, (some 159), .pick (.t 157) (.t 158) (.k (.bool false))⟩,
    ⟨none, (some 14), .mov (.t 159)⟩])
  .ret)))))))))))
  ntmps := 160
  res := [.tmp 14]

theorem a8_ok : compileFn P Tryd.f8 = some a8 := by kernel_rfl

end Go.Proofs.YtjhakjeioppijaaDoor
