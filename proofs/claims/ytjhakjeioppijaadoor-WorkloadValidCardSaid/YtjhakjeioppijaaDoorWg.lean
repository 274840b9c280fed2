/-
  Functions of this claim, as the abstract machine has them. MADE BY A PROGRAM of mine.
-/
import Derived.Test.YtjhakjeioppijaaDoorWf
set_option linter.unusedSimpArgs false
set_option linter.unusedVariables false
namespace Go.Proofs.YtjhakjeioppijaaDoor
open Go Go.Am
-- 103 slices.Index[[]admission/api.Digest,admission/api.Digest]
def a103L0 : ACode :=
  (.seq (.region false [⟨none, (some 9), .bin .lss (.t 8) (.t 7)⟩])
  (.seq (.cond (.t 9) .skip
  (.exit 0))
  (.seq (.block 1 (.seq (.region false [⟨none, (some 10), .mov (.t 8)⟩,
    ⟨none, (some 5), .mov (.t 10)⟩])
  (.seq (.region true [⟨none, (some 11), .load 32 true (.t 3)⟩,
    ⟨none, (some 12), .mov (.t 0)⟩,
    ⟨none, (some 13), .mov (.t 5)⟩,
    ⟨none, (some 14), .idxS 32 (.t 12) (.t 13)⟩,
    ⟨none, (some 15), .load 32 true (.t 14)⟩,
    ⟨none, (some 16), .eqa false [(32, 0)] (.t 11) (.t 15)⟩])
  (.cond (.t 16) (.seq (.region false [⟨none, (some 17), .mov (.t 5)⟩,
    ⟨none, (some 4), .mov (.t 17)⟩])
  .ret)
  .skip))))
  (.region false [⟨none, (some 18), .bin .add (.t 8) (.k (.int .i64 1))⟩,
    ⟨none, (some 8), .mov (.t 18)⟩]))))
/-- 0:s 3:v 7: 8: -/
def a103S0 (x0 x3 x7 x8 : DV) (h : List AObj) : St := ⟨[x0, .junk, .junk, x3, .junk, .junk, .junk, x7, x8] ++ js 10, h⟩

def a103 : AFn where
  code := (.seq (.region false [⟨none, (some 3), .box (.t 1)⟩,
    ⟨none, (some 4), .mov (.k (.int .i64 0))⟩])
  (.seq (.seq (.region false [⟨none, (some 6), .mov (.t 0)⟩,
    ⟨none, (some 7), .len (.t 6)⟩,
    ⟨none, (some 8), .mov (.k (.int .i64 0))⟩])
  (.block 0 (.loop a103L0)))
  (.seq (.region false [⟨none, (some 4), .mov (.k (.int .i64 (-1)))⟩])
  .ret)))
  ntmps := 19
  res := [.tmp 4]

theorem a103_ok : compileFn P Tryd.f103 = some a103 := by kernel_rfl

-- 61 slices.Contains[[]admission/api.Digest,admission/api.Digest]
def a61 : AFn where
  code := (.seq (.region false [⟨none, (some 3), .box (.t 1)⟩,
    ⟨none, (some 4), .mov (.k (.bool false))⟩])
  (.seq (.region false [⟨none, (some 5), .mov (.t 0)⟩,
    ⟨none, (some 6), .load 32 true (.t 3)⟩,
    ⟨none, (some 7), .call (.k (.fn (.func 103) [] [])) [(.t 5), (.t 6)]⟩,
    ⟨none, (some 8), .bin .geq (.t 7) (.k (.int .i64 0))⟩,
    ⟨none, (some 4), .mov (.t 8)⟩])
  .ret))
  ntmps := 9
  res := [.tmp 4]

theorem a61_ok : compileFn P Tryd.f61 = some a61 := by kernel_rfl

-- 66 slices.IndexFunc[[]admission/api.Group,admission/api.Group]
def a66L0 : ACode :=
  (.seq (.region false [⟨none, (some 9), .bin .lss (.t 8) (.t 7)⟩])
  (.seq (.cond (.t 9) .skip
  (.exit 0))
  (.seq (.block 1 (.seq (.region false [⟨none, (some 10), .mov (.t 8)⟩,
    ⟨none, (some 5), .mov (.t 10)⟩])
  (.seq (.region false [⟨none, (some 11), .mov (.t 1)⟩,
    ⟨none, (some 12), .mov (.t 0)⟩,
    ⟨none, (some 13), .mov (.t 5)⟩,
    ⟨none, (some 14), .idxS 6 (.t 12) (.t 13)⟩,
    ⟨none, (some 15), .load 6 true (.t 14)⟩,
    ⟨none, (some 16), .call (.t 11) [(.t 15)]⟩])
  (.cond (.t 16) (.seq (.region false [⟨none, (some 17), .mov (.t 5)⟩,
    ⟨none, (some 4), .mov (.t 17)⟩])
  .ret)
  .skip))))
  (.region false [⟨none, (some 18), .bin .add (.t 8) (.k (.int .i64 1))⟩,
    ⟨none, (some 8), .mov (.t 18)⟩]))))
/-- 0:s 1:f 7: 8: -/
def a66S0 (x0 x1 x7 x8 : DV) (h : List AObj) : St := ⟨[x0, x1] ++ js 5 ++ [x7, x8] ++ js 10, h⟩

def a66 : AFn where
  code := (.seq (.region false [⟨none, (some 4), .mov (.k (.int .i64 0))⟩])
  (.seq (.seq (.region false [⟨none, (some 6), .mov (.t 0)⟩,
    ⟨none, (some 7), .len (.t 6)⟩,
    ⟨none, (some 8), .mov (.k (.int .i64 0))⟩])
  (.block 0 (.loop a66L0)))
  (.seq (.region false [⟨none, (some 4), .mov (.k (.int .i64 (-1)))⟩])
  .ret)))
  ntmps := 19
  res := [.tmp 4]

theorem a66_ok : compileFn P Tryd.f66 = some a66 := by kernel_rfl

-- 68 slices.IndexFunc[[]admission/api.Instance,admission/api.Instance]
def a68L0 : ACode :=
  (.seq (.region false [⟨none, (some 9), .bin .lss (.t 8) (.t 7)⟩])
  (.seq (.cond (.t 9) .skip
  (.exit 0))
  (.seq (.block 1 (.seq (.region false [⟨none, (some 10), .mov (.t 8)⟩,
    ⟨none, (some 5), .mov (.t 10)⟩])
  (.seq (.region false [⟨none, (some 11), .mov (.t 1)⟩,
    ⟨none, (some 12), .mov (.t 0)⟩,
    ⟨none, (some 13), .mov (.t 5)⟩,
    ⟨none, (some 14), .idxS 37 (.t 12) (.t 13)⟩,
    ⟨none, (some 15), .load 37 true (.t 14)⟩,
    ⟨none, (some 16), .call (.t 11) [(.t 15)]⟩])
  (.cond (.t 16) (.seq (.region false [⟨none, (some 17), .mov (.t 5)⟩,
    ⟨none, (some 4), .mov (.t 17)⟩])
  .ret)
  .skip))))
  (.region false [⟨none, (some 18), .bin .add (.t 8) (.k (.int .i64 1))⟩,
    ⟨none, (some 8), .mov (.t 18)⟩]))))
/-- 0:s 1:f 7: 8: -/
def a68S0 (x0 x1 x7 x8 : DV) (h : List AObj) : St := ⟨[x0, x1] ++ js 5 ++ [x7, x8] ++ js 10, h⟩

def a68 : AFn where
  code := (.seq (.region false [⟨none, (some 4), .mov (.k (.int .i64 0))⟩])
  (.seq (.seq (.region false [⟨none, (some 6), .mov (.t 0)⟩,
    ⟨none, (some 7), .len (.t 6)⟩,
    ⟨none, (some 8), .mov (.k (.int .i64 0))⟩])
  (.block 0 (.loop a68L0)))
  (.seq (.region false [⟨none, (some 4), .mov (.k (.int .i64 (-1)))⟩])
  .ret)))
  ntmps := 19
  res := [.tmp 4]

theorem a68_ok : compileFn P Tryd.f68 = some a68 := by kernel_rfl

-- 67 admission/workload.Group$1
def a67 : AFn where
  code := (.seq (.region false [⟨none, (some 3), .box (.t 0)⟩,
    ⟨none, (some 4), .mov (.k (.bool false))⟩])
  (.seq (.region false [⟨none, (some 5), .fld 0 (.t 3)⟩,
    ⟨none, (some 6), .load 1 false (.t 5)⟩,
    ⟨none, (some 7), .load 1 false (.t 1)⟩,
    ⟨none, (some 8), .bin .eql (.t 6) (.t 7)⟩,
    ⟨none, (some 9), .mov (.t 8)⟩,
    ⟨(some (9, true)), (some 10), .fld 1 (.t 3)⟩,
    ⟨(some (9, true)), (some 11), .load 1 false (.t 10)⟩,
    ⟨(some (9, true)), (some 12), .load 1 false (.t 2)⟩,
    ⟨(some (9, true)), (some 13), .bin .eql (.t 11) (.t 12)⟩,
    ⟨none, (some 14), .pick (.t 9) (.t 13) (.k (.bool false))⟩,
    ⟨none, (some 4), .mov (.t 14)⟩])
  .ret))
  ntmps := 15
  res := [.tmp 4]

theorem a67_ok : compileFn P Tryd.f67 = some a67 := by kernel_rfl

-- 69 admission/workload.Find$1
def a69 : AFn where
  code := (.seq (.region false [⟨none, (some 2), .box (.t 0)⟩,
    ⟨none, (some 3), .mov (.k (.bool false))⟩])
  (.seq (.region false [⟨none, (some 4), .fld 0 (.t 2)⟩,
    ⟨none, (some 5), .load 1 false (.t 4)⟩,
    ⟨none, (some 6), .load 1 false (.t 1)⟩,
    ⟨none, (some 7), .bin .eql (.t 5) (.t 6)⟩,
    ⟨none, (some 3), .mov (.t 7)⟩])
  .ret))
  ntmps := 8
  res := [.tmp 3]

theorem a69_ok : compileFn P Tryd.f69 = some a69 := by kernel_rfl

-- 22 admission/workload.Group
def a22 : AFn where
  code := (.seq (.region false [⟨none, (some 3), .box (.t 0)⟩,
    ⟨none, (some 4), .box (.t 1)⟩,
    ⟨none, (some 5), .box (.t 2)⟩,
    ⟨none, (some 6), .mov (.k (.int .i64 0))⟩])
  (.seq (.region false [⟨none, (some 7), .fld 0 (.t 3)⟩,
    ⟨none, (some 8), .load 1 false (.t 7)⟩,
    ⟨none, (some 9), .mkf (.func 67) [] [(.t 4), (.t 5)]⟩,
    ⟨none, (some 10), .call (.k (.fn (.func 66) [] [])) [(.t 8), (.t 9)]⟩,
    ⟨none, (some 6), .mov (.t 10)⟩])
  .ret))
  ntmps := 11
  res := [.tmp 6]

theorem a22_ok : compileFn P Tryd.f22 = some a22 := by kernel_rfl

-- 24 admission/workload.Find
def a24 : AFn where
  code := (.seq (.region false [⟨none, (some 2), .box (.t 0)⟩,
    ⟨none, (some 3), .box (.t 1)⟩,
    ⟨none, (some 4), .mov (.k (.int .i64 0))⟩])
  (.seq (.region false [⟨none, (some 5), .fld 1 (.t 2)⟩,
    ⟨none, (some 6), .load 1 false (.t 5)⟩,
    ⟨none, (some 7), .mkf (.func 69) [] [(.t 3)]⟩,
    ⟨none, (some 8), .call (.k (.fn (.func 68) [] [])) [(.t 6), (.t 7)]⟩,
    ⟨none, (some 4), .mov (.t 8)⟩])
  .ret))
  ntmps := 9
  res := [.tmp 4]

theorem a24_ok : compileFn P Tryd.f24 = some a24 := by kernel_rfl

-- 70 admission/workload.timed
def a70 : AFn where
  code := (.seq (.region false [⟨none, (some 2), .mov (.k (.bool false))⟩])
  (.seq (.region false [⟨none, (some 3), .mov (.t 0)⟩,
    ⟨none, (some 4), .bin .geq (.t 3) (.k (.int .i64 0))⟩,
    ⟨none, (some 5), .mov (.t 4)⟩,
    ⟨(some (5, true)), (some 6), .mov (.t 0)⟩,
    ⟨(some (5, true)), (some 7), .bin .leq (.t 6) (.k (.int .i64 1099511627776))⟩,
    ⟨none, (some 8), .pick (.t 5) (.t 7) (.k (.bool false))⟩,
    ⟨none, (some 2), .mov (.t 8)⟩])
  .ret))
  ntmps := 9
  res := [.tmp 2]

theorem a70_ok : compileFn P Tryd.f70 = some a70 := by kernel_rfl

-- 64 admission/workload.sound
def a64 : AFn where
  code := (.seq (.region false [⟨none, (some 2), .box (.t 0)⟩,
    ⟨none, (some 3), .box (.t 1)⟩,
    ⟨none, (some 4), .mov (.k (.bool false))⟩])
  (.seq (.region false [⟨none, (some 5), .fld 0 (.t 3)⟩,
    ⟨none, (some 6), .load 1 false (.t 5)⟩,
    ⟨none, (some 7), .bin .geq (.t 6) (.k (.int .i64 1))⟩,
    ⟨none, (some 8), .mov (.t 7)⟩,
    ⟨(some (8, true)), (some 9), .fld 0 (.t 3)⟩,
    ⟨(some (8, true)), (some 10), .load 1 false (.t 9)⟩,
    ⟨(some (8, true)), (some 11), .fld 2 (.t 2)⟩,
    ⟨(some (8, true)), (some 12), .load 1 false (.t 11)⟩,
    ⟨(some (8, true)), (some 13), .bin .lss (.t 10) (.t 12)⟩,
    ⟨none, (some 14), .pick (.t 8) (.t 13) (.k (.bool false))⟩,
    ⟨none, (some 15), .mov (.t 14)⟩,
    ⟨(some (15, true)), (some 16), .fld 1 (.t 3)⟩,
    ⟨(some (15, true)), (some 17), .load 1 false (.t 16)⟩,
    ⟨(some (15, true)), (some 18), .bin .geq (.t 17) (.k (.int .i64 0))⟩,
    ⟨none, (some 19), .pick (.t 15) (.t 18) (.k (.bool false))⟩,
    ⟨none, (some 20), .mov (.t 19)⟩,
    ⟨(some (20, true)), (some 21), .fld 1 (.t 3)⟩,
    ⟨(some (20, true)), (some 22), .load 1 false (.t 21)⟩,
    ⟨(some (20, true)), (some 23), .fld 0 (.t 2)⟩,
    ⟨(some (20, true)), (some 24), .load 1 false (.t 23)⟩,
    ⟨(some (20, true)), (some 25), .len (.t 24)⟩,
    ⟨(some (20, true)), (some 26), .bin .lss (.t 22) (.t 25)⟩,
    ⟨none, (some 27), .pick (.t 20) (.t 26) (.k (.bool false))⟩,
    ⟨none, (some 28), .mov (.t 27)⟩,
    ⟨(some (28, true)), (some 29), .fld 2 (.t 3)⟩,
    ⟨(some (28, true)), (some 30), .load 32 true (.t 29)⟩,
    ⟨(some (28, true)), (some 31), .build (rep 32 (w8 0#8)) []⟩,
    ⟨(some (28, true)), (some 32), .eqa true [(32, 0)] (.t 30) (.t 31)⟩,
    ⟨none, (some 33), .pick (.t 28) (.t 32) (.k (.bool false))⟩,
    ⟨none, (some 34), .mov (.t 33)⟩,
    ⟨(some (34, true)), (some 35), .fld 34 (.t 3)⟩,
    ⟨(some (34, true)), (some 36), .load 1 false (.t 35)⟩,
    ⟨(some (34, true)), (some 37), .bin .geq (.t 36) (.k (.int .i64 1))⟩,
    ⟨none, (some 38), .pick (.t 34) (.t 37) (.k (.bool false))⟩,
    ⟨none, (some 39), .mov (.t 38)⟩,
    ⟨(some (39, true)), (some 40), .fld 34 (.t 3)⟩,
    ⟨(some (39, true)), (some 41), .load 1 false (.t 40)⟩,
    ⟨(some (39, true)), (some 42), .bin .leq (.t 41) (.k (.int .i64 3))⟩,
    ⟨none, (some 43), .pick (.t 39) (.t 42) (.k (.bool false))⟩,
    ⟨none, (some 44), .mov (.t 43)⟩,
    ⟨(some (44, true)), (some 45), .fld 35 (.t 3)⟩,
    ⟨(some (44, true)), (some 46), .load 1 false (.t 45)⟩,
    ⟨(some (44, true)), (some 47), .call (.k (.fn (.func 70) [] [])) [(.t 46)]⟩,
    ⟨none, (some 48), .pick (.t 44) (.t 47) (.k (.bool false))⟩,
    ⟨none, (some 49), .mov (.t 48)⟩,
    ⟨(some (49, true)), (some 50), .fld 36 (.t 3)⟩,
    ⟨(some (49, true)), (some 51), .load 1 false (.t 50)⟩,
    ⟨(some (49, true)), (some 52), .bin .eql (.t 51) (.k (.int .i64 (-1)))⟩,
    ⟨(some (49, true)), (some 53), .mov (.t 52)⟩,
    ⟨(some (53, false)), (some 54), .fld 36 (.t 3)⟩,
    ⟨(some (53, false)), (some 55), .load 1 false (.t 54)⟩,
    ⟨(some (53, false)), (some 56), .call (.k (.fn (.func 70) [] [])) [(.t 55)]⟩,
    ⟨(some (49, true)), (some 57), .pick (.t 53) (.k (.bool true)) (.t 56)⟩,
    ⟨none, (some 58), .pick (.t 49) (.t 57) (.k (.bool false))⟩,
    ⟨none, (some 4), .mov (.t 58)⟩])
  .ret))
  ntmps := 59
  res := [.tmp 4]

theorem a64_ok : compileFn P Tryd.f64 = some a64 := by kernel_rfl

-- 18 admission/workload.ValidGroup
def a18L0 : ACode :=
  (.seq (.region false [⟨none, (some 59), .bin .lss (.t 58) (.t 57)⟩])
  (.seq (.cond (.t 59) .skip
  (.exit 0))
  (.seq (.block 1 (.seq (.region false [⟨none, (some 60), .mov (.t 58)⟩,
    ⟨none, (some 61), .idxS 32 (.t 56) (.t 58)⟩,
    ⟨none, (some 62), .load 32 true (.t 61)⟩,
    ⟨none, (some 4), .alloc (rep 32 (w8 0#8))⟩,
    ⟨none, (some 3), .mov (.t 60)⟩,
    ⟨none, none, .store 32 (.t 4) (.t 62)⟩])
  (.seq (.region true [⟨none, (some 63), .load 32 true (.t 4)⟩,
    ⟨none, (some 64), .build (rep 32 (w8 0#8)) []⟩,
    ⟨none, (some 65), .eqa false [(32, 0)] (.t 63) (.t 64)⟩,
    ⟨none, (some 66), .mov (.t 65)⟩,
    ⟨(some (66, false)), (some 67), .fld 5 (.t 1)⟩,
    ⟨(some (66, false)), (some 68), .load 1 false (.t 67)⟩,
    ⟨(some (66, false)), (some 69), .mov (.t 3)⟩,
    ⟨(some (66, false)), (some 70), .slcS 32 (.t 68) none (some (.t 69)) none⟩,
    ⟨(some (66, false)), (some 71), .load 32 true (.t 4)⟩,
    ⟨(some (66, false)), (some 72), .callN (.k (.fn (.func 61) [] [])) [(.t 70), (.t 71)]⟩,
    ⟨none, (some 73), .pick (.t 66) (.k (.bool true)) (.t 72)⟩])
  (.cond (.t 73) (.seq (.region false [⟨none, (some 2), .mov (.k (.bool false))⟩])
  .ret)
  .skip))))
  (.region false [⟨none, (some 74), .bin .add (.t 58) (.k (.int .i64 1))⟩,
    ⟨none, (some 58), .mov (.t 74)⟩]))))
/-- 1:g 56: 57: 58: -/
def a18S0 (x1 x56 x57 x58 : DV) (h : List AObj) : St := ⟨[.junk, x1] ++ js 54 ++ [x56, x57, x58] ++ js 16, h⟩

def a18 : AFn where
  code := (.seq (.region false [⟨none, (some 1), .box (.t 0)⟩,
    ⟨none, (some 2), .mov (.k (.bool false))⟩])
  (.seq (.seq (.region false [⟨none, (some 5), .fld 0 (.t 1)⟩,
    ⟨none, (some 6), .load 1 false (.t 5)⟩,
    ⟨none, (some 7), .call (.k (.fn (.func 60) [] [])) [(.t 6)]⟩,
    ⟨none, (some 8), .un .not (.t 7)⟩,
    ⟨none, (some 9), .mov (.t 8)⟩,
    ⟨(some (9, false)), (some 10), .fld 1 (.t 1)⟩,
    ⟨(some (9, false)), (some 11), .load 1 false (.t 10)⟩,
    ⟨(some (9, false)), (some 12), .call (.k (.fn (.func 60) [] [])) [(.t 11)]⟩,
    ⟨(some (9, false)), (some 13), .un .not (.t 12)⟩,
    ⟨none, (some 14), .pick (.t 9) (.k (.bool true)) (.t 13)⟩,
    ⟨none, (some 15), .mov (.t 14)⟩,
    ⟨(some (15, false)), (some 16), .fld 2 (.t 1)⟩,
    ⟨(some (15, false)), (some 17), .load 1 false (.t 16)⟩,
    ⟨(some (15, false)), (some 18), .bin .lss (.t 17) (.k (.int .i64 0))⟩,
    ⟨none, (some 19), .pick (.t 15) (.k (.bool true)) (.t 18)⟩,
    ⟨none, (some 20), .mov (.t 19)⟩,
    ⟨(some (20, false)), (some 21), .fld 2 (.t 1)⟩,
    ⟨(some (20, false)), (some 22), .load 1 false (.t 21)⟩,
    ⟨(some (20, false)), (some 23), .bin .gtr (.t 22) (.k (.int .i64 8))⟩,
    ⟨none, (some 24), .pick (.t 20) (.k (.bool true)) (.t 23)⟩,
    ⟨none, (some 25), .mov (.t 24)⟩,
    ⟨(some (25, false)), (some 26), .fld 3 (.t 1)⟩,
    ⟨(some (25, false)), (some 27), .load 1 false (.t 26)⟩,
    ⟨(some (25, false)), (some 28), .bin .lss (.t 27) (.k (.int .i64 0))⟩,
    ⟨none, (some 29), .pick (.t 25) (.k (.bool true)) (.t 28)⟩,
    ⟨none, (some 30), .mov (.t 29)⟩,
    ⟨(some (30, false)), (some 31), .fld 3 (.t 1)⟩,
    ⟨(some (30, false)), (some 32), .load 1 false (.t 31)⟩,
    ⟨(some (30, false)), (some 33), .fld 2 (.t 1)⟩,
    ⟨(some (30, false)), (some 34), .load 1 false (.t 33)⟩,
    ⟨(some (30, false)), (some 35), .bin .gtr (.t 32) (.t 34)⟩,
    ⟨none, (some 36), .pick (.t 30) (.k (.bool true)) (.t 35)⟩,
    ⟨none, (some 37), .mov (.t 36)⟩,
    ⟨(some (37, false)), (some 38), .fld 4 (.t 1)⟩,
    ⟨(some (37, false)), (some 39), .load 1 false (.t 38)⟩,
    ⟨(some (37, false)), (some 40), .bin .lss (.t 39) (.k (.int .i64 0))⟩,
    ⟨none, (some 41), .pick (.t 37) (.k (.bool true)) (.t 40)⟩,
    ⟨none, (some 42), .mov (.t 41)⟩,
    ⟨(some (42, false)), (some 43), .fld 4 (.t 1)⟩,
    ⟨(some (42, false)), (some 44), .load 1 false (.t 43)⟩,
    ⟨(some (42, false)), (some 45), .fld 2 (.t 1)⟩,
    ⟨(some (42, false)), (some 46), .load 1 false (.t 45)⟩,
    ⟨(some (42, false)), (some 47), .bin .gtr (.t 44) (.t 46)⟩,
    ⟨none, (some 48), .pick (.t 42) (.k (.bool true)) (.t 47)⟩,
    ⟨none, (some 49), .mov (.t 48)⟩,
    ⟨(some (49, false)), (some 50), .fld 5 (.t 1)⟩,
    ⟨(some (49, false)), (some 51), .load 1 false (.t 50)⟩,
    ⟨(some (49, false)), (some 52), .len (.t 51)⟩,
    ⟨(some (49, false)), (some 53), .bin .gtr (.t 52) (.k (.int .i64 6))⟩,
    ⟨none, (some 54), .pick (.t 49) (.k (.bool true)) (.t 53)⟩])
  (.cond (.t 54) (.seq (.region false [⟨none, (some 2), .mov (.k (.bool false))⟩])
  .ret)
  .skip))
  (.seq (.seq (.region false [⟨none, (some 55), .fld 5 (.t 1)⟩,
    ⟨none, (some 56), .load 1 false (.t 55)⟩,
    ⟨none, (some 57), .len (.t 56)⟩,
    ⟨none, (some 58), .mov (.k (.int .i64 0))⟩])
  (.block 0 (.loop a18L0)))
  (.seq (.region false [⟨none, (some 2), .mov (.k (.bool true))⟩])
  .ret))))
  ntmps := 75
  res := [.tmp 2]

theorem a18_ok : compileFn P Tryd.f18 = some a18 := by kernel_rfl

-- 20 admission/workload.Valid
def a20L0 : ACode :=
  (.seq (.region false [⟨none, (some 31), .bin .lss (.t 30) (.t 29)⟩])
  (.seq (.cond (.t 31) .skip
  (.exit 0))
  (.seq (.block 1 (.seq (.region false [⟨none, (some 32), .mov (.t 30)⟩,
    ⟨none, (some 33), .idxS 6 (.t 28) (.t 30)⟩,
    ⟨none, (some 34), .load 6 true (.t 33)⟩,
    ⟨none, (some 4), .alloc [(.str []), (.str []), (.int .i64 0), (.int .i64 0), (.int .i64 0), .nils]⟩,
    ⟨none, (some 3), .mov (.t 32)⟩,
    ⟨none, none, .store 6 (.t 4) (.t 34)⟩])
  (.seq (.region false [⟨none, (some 35), .load 6 true (.t 4)⟩,
    ⟨none, (some 36), .call (.k (.fn (.func 18) [] [])) [(.t 35)]⟩,
    ⟨none, (some 37), .un .not (.t 36)⟩,
    ⟨none, (some 38), .mov (.t 37)⟩,
    ⟨(some (38, false)), (some 39), .load 3 true (.t 1)⟩,
    ⟨(some (38, false)), (some 40), .fld 0 (.t 4)⟩,
    ⟨(some (38, false)), (some 41), .load 1 false (.t 40)⟩,
    ⟨(some (38, false)), (some 42), .fld 1 (.t 4)⟩,
    ⟨(some (38, false)), (some 43), .load 1 false (.t 42)⟩,
    ⟨(some (38, false)), (some 44), .call (.k (.fn (.func 22) [] [])) [(.t 39), (.t 41), (.t 43)]⟩,
    ⟨(some (38, false)), (some 45), .mov (.t 3)⟩,
    ⟨(some (38, false)), (some 46), .bin .neq (.t 44) (.t 45)⟩,
    ⟨none, (some 47), .pick (.t 38) (.k (.bool true)) (.t 46)⟩])
  (.cond (.t 47) (.seq (.region false [⟨none, (some 2), .mov (.k (.bool false))⟩])
  .ret)
  .skip))))
  (.region false [⟨none, (some 48), .bin .add (.t 30) (.k (.int .i64 1))⟩,
    ⟨none, (some 30), .mov (.t 48)⟩]))))
/-- 1:c 28: 29: 30: -/
def a20S0 (x1 x28 x29 x30 : DV) (h : List AObj) : St := ⟨[.junk, x1] ++ js 26 ++ [x28, x29, x30] ++ js 47, h⟩

def a20L1 : ACode :=
  (.seq (.region false [⟨none, (some 53), .bin .lss (.t 52) (.t 51)⟩])
  (.seq (.cond (.t 53) .skip
  (.exit 2))
  (.seq (.block 3 (.seq (.region false [⟨none, (some 54), .mov (.t 52)⟩,
    ⟨none, (some 55), .idxS 37 (.t 50) (.t 52)⟩,
    ⟨none, (some 56), .load 37 true (.t 55)⟩,
    ⟨none, (some 6), .alloc [(.int .i64 0), (.int .i64 0), (w8 0#8), (w8 0#8), (w8 0#8), (w8 0#8), (w8 0#8), (w8 0#8), (w8 0#8), (w8 0#8), (w8 0#8), (w8 0#8), (w8 0#8), (w8 0#8), (w8 0#8), (w8 0#8), (w8 0#8), (w8 0#8), (w8 0#8), (w8 0#8), (w8 0#8), (w8 0#8), (w8 0#8), (w8 0#8), (w8 0#8), (w8 0#8), (w8 0#8), (w8 0#8), (w8 0#8), (w8 0#8), (w8 0#8), (w8 0#8), (w8 0#8), (w8 0#8), (.int .i64 0), (.int .i64 0), (.int .i64 0)]⟩,
    ⟨none, (some 5), .mov (.t 54)⟩,
    ⟨none, none, .store 37 (.t 6) (.t 56)⟩])
  (.seq (.region true [⟨none, (some 57), .load 3 true (.t 1)⟩,
    ⟨none, (some 58), .load 37 true (.t 6)⟩,
    ⟨none, (some 59), .callN (.k (.fn (.func 64) [] [])) [(.t 57), (.t 58)]⟩,
    ⟨none, (some 60), .un .not (.t 59)⟩,
    ⟨none, (some 61), .mov (.t 60)⟩,
    ⟨(some (61, false)), (some 62), .mov (.t 5)⟩,
    ⟨(some (61, false)), (some 63), .bin .gtr (.t 62) (.k (.int .i64 0))⟩,
    ⟨(some (61, false)), (some 64), .mov (.t 63)⟩,
    ⟨(some (64, true)), (some 65), .fld 0 (.t 6)⟩,
    ⟨(some (64, true)), (some 66), .load 1 false (.t 65)⟩,
    ⟨(some (64, true)), (some 67), .fld 1 (.t 1)⟩,
    ⟨(some (64, true)), (some 68), .load 1 false (.t 67)⟩,
    ⟨(some (64, true)), (some 69), .mov (.t 5)⟩,
    ⟨(some (64, true)), (some 70), .bin .sub (.t 69) (.k (.int .i64 1))⟩,
    ⟨(some (64, true)), (some 71), .idxS 37 (.t 68) (.t 70)⟩,
    ⟨(some (64, true)), (some 72), .fld 0 (.t 71)⟩,
    ⟨(some (64, true)), (some 73), .load 1 false (.t 72)⟩,
    ⟨(some (64, true)), (some 74), .bin .leq (.t 66) (.t 73)⟩,
    ⟨(some (61, false)), (some 75), .pick (.t 64) (.t 74) (.k (.bool false))⟩,
    ⟨none, (some 76), .pick (.t 61) (.k (.bool true)) (.t 75)⟩])
  (.cond (.t 76) (.seq (.region false [⟨none, (some 2), .mov (.k (.bool false))⟩])
  .ret)
  .skip))))
  (.region false [⟨none, (some 77), .bin .add (.t 52) (.k (.int .i64 1))⟩,
    ⟨none, (some 52), .mov (.t 77)⟩]))))
/-- 1:c 50: 51: 52: -/
def a20S1 (x1 x50 x51 x52 : DV) (h : List AObj) : St := ⟨[.junk, x1] ++ js 48 ++ [x50, x51, x52] ++ js 25, h⟩

def a20 : AFn where
  code := (.seq (.region false [⟨none, (some 1), .box (.t 0)⟩,
    ⟨none, (some 2), .mov (.k (.bool false))⟩])
  (.seq (.seq (.region false [⟨none, (some 7), .fld 0 (.t 1)⟩,
    ⟨none, (some 8), .load 1 false (.t 7)⟩,
    ⟨none, (some 9), .len (.t 8)⟩,
    ⟨none, (some 10), .bin .gtr (.t 9) (.k (.int .i64 16))⟩,
    ⟨none, (some 11), .mov (.t 10)⟩,
    ⟨(some (11, false)), (some 12), .fld 1 (.t 1)⟩,
    ⟨(some (11, false)), (some 13), .load 1 false (.t 12)⟩,
    ⟨(some (11, false)), (some 14), .len (.t 13)⟩,
    ⟨(some (11, false)), (some 15), .bin .gtr (.t 14) (.k (.int .i64 200))⟩,
    ⟨none, (some 16), .pick (.t 11) (.k (.bool true)) (.t 15)⟩,
    ⟨none, (some 17), .mov (.t 16)⟩,
    ⟨(some (17, false)), (some 18), .fld 2 (.t 1)⟩,
    ⟨(some (17, false)), (some 19), .load 1 false (.t 18)⟩,
    ⟨(some (17, false)), (some 20), .bin .lss (.t 19) (.k (.int .i64 1))⟩,
    ⟨none, (some 21), .pick (.t 17) (.k (.bool true)) (.t 20)⟩,
    ⟨none, (some 22), .mov (.t 21)⟩,
    ⟨(some (22, false)), (some 23), .fld 2 (.t 1)⟩,
    ⟨(some (22, false)), (some 24), .load 1 false (.t 23)⟩,
    ⟨(some (22, false)), (some 25), .bin .gtr (.t 24) (.k (.int .i64 1099511627776))⟩,
    ⟨none, (some 26), .pick (.t 22) (.k (.bool true)) (.t 25)⟩])
  (.cond (.t 26) (.seq (.region false [⟨none, (some 2), .mov (.k (.bool false))⟩])
  .ret)
  .skip))
  (.seq (.seq (.region false [⟨none, (some 27), .fld 0 (.t 1)⟩,
    ⟨none, (some 28), .load 1 false (.t 27)⟩,
    ⟨none, (some 29), .len (.t 28)⟩,
    ⟨none, (some 30), .mov (.k (.int .i64 0))⟩])
  (.block 0 (.loop a20L0)))
  (.seq (.seq (.region false [⟨none, (some 49), .fld 1 (.t 1)⟩,
    ⟨none, (some 50), .load 1 false (.t 49)⟩,
    ⟨none, (some 51), .len (.t 50)⟩,
    ⟨none, (some 52), .mov (.k (.int .i64 0))⟩])
  (.block 2 (.loop a20L1)))
  (.seq (.region false [⟨none, (some 2), .mov (.k (.bool true))⟩])
  .ret)))))
  ntmps := 78
  res := [.tmp 2]

theorem a20_ok : compileFn P Tryd.f20 = some a20 := by kernel_rfl

-- 75 slices.Clone[[]admission/api.Digest,admission/api.Digest]
def a75 : AFn where
  code := (.seq (.region false [⟨none, (some 2), .mov (.k .nils)⟩])
  (.seq (.seq (.region false [⟨none, (some 3), .mov (.t 0)⟩,
    ⟨none, (some 4), .eqn 0 false (.t 3) (.k .nils)⟩])
  (.cond (.t 4) (.seq (.region false [⟨none, (some 2), .mov (.k .nils)⟩])
  .ret)
  .skip))
  (.seq (.region false [⟨none, (some 5), .bsl 32 0 (rep 32 (w8 0#8)) []⟩,
    ⟨none, (some 6), .mov (.t 0)⟩,
    ⟨none, (some 7), .app 32 32 (.t 5) (.t 6)⟩,
    ⟨none, (some 2), .mov (.t 7)⟩])
  .ret)))
  ntmps := 8
  res := [.tmp 2]

theorem a75_ok : compileFn P Tryd.f75 = some a75 := by kernel_rfl

-- 105 slices.Clone[[]admission/api.Group,admission/api.Group]
def a105 : AFn where
  code := (.seq (.region false [⟨none, (some 2), .mov (.k .nils)⟩])
  (.seq (.seq (.region false [⟨none, (some 3), .mov (.t 0)⟩,
    ⟨none, (some 4), .eqn 0 false (.t 3) (.k .nils)⟩])
  (.cond (.t 4) (.seq (.region false [⟨none, (some 2), .mov (.k .nils)⟩])
  .ret)
  .skip))
  (.seq (.region false [⟨none, (some 5), .bsl 6 0 [(.str []), (.str []), (.int .i64 0), (.int .i64 0), (.int .i64 0), .nils] []⟩,
    ⟨none, (some 6), .mov (.t 0)⟩,
    ⟨none, (some 7), .app 6 80 (.t 5) (.t 6)⟩,
    ⟨none, (some 2), .mov (.t 7)⟩])
  .ret)))
  ntmps := 8
  res := [.tmp 2]

theorem a105_ok : compileFn P Tryd.f105 = some a105 := by kernel_rfl

-- 106 slices.Clone[[]admission/api.Instance,admission/api.Instance]
def a106 : AFn where
  code := (.seq (.region false [⟨none, (some 2), .mov (.k .nils)⟩])
  (.seq (.seq (.region false [⟨none, (some 3), .mov (.t 0)⟩,
    ⟨none, (some 4), .eqn 0 false (.t 3) (.k .nils)⟩])
  (.cond (.t 4) (.seq (.region false [⟨none, (some 2), .mov (.k .nils)⟩])
  .ret)
  .skip))
  (.seq (.region false [⟨none, (some 5), .bsl 37 0 [(.int .i64 0), (.int .i64 0), (w8 0#8), (w8 0#8), (w8 0#8), (w8 0#8), (w8 0#8), (w8 0#8), (w8 0#8), (w8 0#8), (w8 0#8), (w8 0#8), (w8 0#8), (w8 0#8), (w8 0#8), (w8 0#8), (w8 0#8), (w8 0#8), (w8 0#8), (w8 0#8), (w8 0#8), (w8 0#8), (w8 0#8), (w8 0#8), (w8 0#8), (w8 0#8), (w8 0#8), (w8 0#8), (w8 0#8), (w8 0#8), (w8 0#8), (w8 0#8), (w8 0#8), (w8 0#8), (.int .i64 0), (.int .i64 0), (.int .i64 0)] []⟩,
    ⟨none, (some 6), .mov (.t 0)⟩,
    ⟨none, (some 7), .app 37 72 (.t 5) (.t 6)⟩,
    ⟨none, (some 2), .mov (.t 7)⟩])
  .ret)))
  ntmps := 8
  res := [.tmp 2]

theorem a106_ok : compileFn P Tryd.f106 = some a106 := by kernel_rfl

-- 71 admission/workload.clone
def a71L0 : ACode :=
  (.seq (.region false [⟨none, (some 16), .bin .lss (.t 15) (.t 14)⟩])
  (.seq (.cond (.t 16) .skip
  (.exit 0))
  (.seq (.block 1 (.seq (.region false [⟨none, (some 17), .mov (.t 15)⟩,
    ⟨none, (some 3), .mov (.t 17)⟩])
  (.region true [⟨none, (some 18), .fld 0 (.t 1)⟩,
    ⟨none, (some 19), .load 1 false (.t 18)⟩,
    ⟨none, (some 20), .mov (.t 3)⟩,
    ⟨none, (some 21), .fld 0 (.t 1)⟩,
    ⟨none, (some 22), .load 1 false (.t 21)⟩,
    ⟨none, (some 23), .mov (.t 3)⟩,
    ⟨none, (some 24), .idxS 6 (.t 22) (.t 23)⟩,
    ⟨none, (some 25), .fld 5 (.t 24)⟩,
    ⟨none, (some 26), .load 1 false (.t 25)⟩,
    ⟨none, (some 27), .callN (.k (.fn (.func 75) [] [])) [(.t 26)]⟩,
    ⟨none, (some 28), .idxS 6 (.t 19) (.t 20)⟩,
    ⟨none, (some 29), .fld 5 (.t 28)⟩,
    ⟨none, none, .store 1 (.t 29) (.t 27)⟩])))
  (.region false [⟨none, (some 30), .bin .add (.t 15) (.k (.int .i64 1))⟩,
    ⟨none, (some 15), .mov (.t 30)⟩]))))
/-- 1:c 2: 14: 15: -/
def a71S0 (x1 x2 x14 x15 : DV) (h : List AObj) : St := ⟨[.junk, x1, x2] ++ js 11 ++ [x14, x15] ++ js 16, h⟩

def a71 : AFn where
  code := (.seq (.region false [⟨none, (some 1), .box (.t 0)⟩,
    ⟨none, (some 2), .alloc [.nils, .nils, (.int .i64 0)]⟩])
  (.seq (.region true [⟨none, (some 4), .fld 0 (.t 1)⟩,
    ⟨none, (some 5), .load 1 false (.t 4)⟩,
    ⟨none, (some 7), .fld 1 (.t 1)⟩,
    ⟨none, (some 8), .load 1 false (.t 7)⟩,
    ⟨none, (some 6), .callN (.k (.fn (.func 105) [] [])) [(.t 5)]⟩,
    ⟨none, (some 10), .fld 0 (.t 1)⟩,
    ⟨none, (some 9), .callN (.k (.fn (.func 106) [] [])) [(.t 8)]⟩,
    ⟨none, none, .store 1 (.t 10) (.t 6)⟩,
    ⟨none, (some 11), .fld 1 (.t 1)⟩,
    ⟨none, none, .store 1 (.t 11) (.t 9)⟩])
  (.seq (.seq (.region false [⟨none, (some 12), .fld 0 (.t 1)⟩,
    ⟨none, (some 13), .load 1 false (.t 12)⟩,
    ⟨none, (some 14), .len (.t 13)⟩,
    ⟨none, (some 15), .mov (.k (.int .i64 0))⟩])
  (.block 0 (.loop a71L0)))
  (.seq (.region false [⟨none, (some 31), .load 3 true (.t 1)⟩,
    ⟨none, none, .store 3 (.t 2) (.t 31)⟩])
  .ret))))
  ntmps := 32
  res := [.cell 2 3 true]

theorem a71_ok : compileFn P Tryd.f71 = some a71 := by kernel_rfl

-- 35 admission/workload.Deploy
def a35 : AFn where
  code := (.seq (.region false [⟨none, (some 2), .box (.t 0)⟩,
    ⟨none, (some 3), .box (.t 1)⟩,
    ⟨none, (some 4), .alloc [.nils, .nils, (.int .i64 0)]⟩,
    ⟨none, (some 5), .mov (.k (.int .i64 0))⟩])
  (.seq (.seq (.region false [⟨none, (some 7), .load 3 true (.t 2)⟩,
    ⟨none, (some 8), .call (.k (.fn (.func 20) [] [])) [(.t 7)]⟩,
    ⟨none, (some 9), .un .not (.t 8)⟩,
    ⟨none, (some 10), .mov (.t 9)⟩,
    ⟨(some (10, false)), (some 11), .load 6 true (.t 3)⟩,
    ⟨(some (10, false)), (some 12), .call (.k (.fn (.func 18) [] [])) [(.t 11)]⟩,
    ⟨(some (10, false)), (some 13), .un .not (.t 12)⟩,
    ⟨none, (some 14), .pick (.t 10) (.k (.bool true)) (.t 13)⟩])
  (.cond (.t 14) (.seq (.region false [⟨none, (some 15), .build [.nils, .nils, (.int .i64 0)] []⟩,
    ⟨none, none, .store 3 (.t 4) (.t 15)⟩,
    ⟨none, (some 5), .mov (.k (.int .i64 1))⟩])
  .ret)
  .skip))
  (.seq (.region false [⟨none, (some 16), .load 3 true (.t 2)⟩,
    ⟨none, (some 17), .fld 0 (.t 3)⟩,
    ⟨none, (some 18), .load 1 false (.t 17)⟩,
    ⟨none, (some 19), .fld 1 (.t 3)⟩,
    ⟨none, (some 20), .load 1 false (.t 19)⟩,
    ⟨none, (some 21), .call (.k (.fn (.func 22) [] [])) [(.t 16), (.t 18), (.t 20)]⟩,
    ⟨none, (some 6), .mov (.t 21)⟩])
  (.seq (.seq (.region false [⟨none, (some 22), .mov (.t 6)⟩,
    ⟨none, (some 23), .bin .lss (.t 22) (.k (.int .i64 0))⟩,
    ⟨none, (some 24), .mov (.t 23)⟩,
    ⟨(some (24, true)), (some 25), .fld 0 (.t 2)⟩,
    ⟨(some (24, true)), (some 26), .load 1 false (.t 25)⟩,
    ⟨(some (24, true)), (some 27), .len (.t 26)⟩,
    ⟨(some (24, true)), (some 28), .bin .geq (.t 27) (.k (.int .i64 16))⟩,
    ⟨none, (some 29), .pick (.t 24) (.t 28) (.k (.bool false))⟩])
  (.cond (.t 29) (.seq (.region false [⟨none, (some 30), .build [.nils, .nils, (.int .i64 0)] []⟩,
    ⟨none, none, .store 3 (.t 4) (.t 30)⟩,
    ⟨none, (some 5), .mov (.k (.int .i64 3))⟩])
  .ret)
  .skip))
  (.seq (.region false [⟨none, (some 31), .load 3 true (.t 2)⟩,
    ⟨none, (some 32), .call (.k (.fn (.func 71) [] [])) [(.t 31)]⟩,
    ⟨none, none, .store 3 (.t 2) (.t 32)⟩])
  (.seq (.region false [⟨none, (some 33), .fld 5 (.t 3)⟩,
    ⟨none, (some 34), .load 1 false (.t 33)⟩,
    ⟨none, (some 35), .call (.k (.fn (.func 75) [] [])) [(.t 34)]⟩,
    ⟨none, (some 36), .fld 5 (.t 3)⟩,
    ⟨none, none, .store 1 (.t 36) (.t 35)⟩])
  (.seq (.seq (.region false [⟨none, (some 37), .mov (.t 6)⟩,
    ⟨none, (some 38), .bin .lss (.t 37) (.k (.int .i64 0))⟩])
  (.cond (.t 38) (.region false [⟨none, (some 39), .fld 0 (.t 2)⟩,
    ⟨none, (some 40), .load 1 false (.t 39)⟩,
    ⟨none, (some 41), .load 6 true (.t 3)⟩,
    ⟨none, (some 42), .bsl 6 1 [(.str []), (.str []), (.int .i64 0), (.int .i64 0), (.int .i64 0), .nils] [(0, 6, (.t 41))]⟩,
    ⟨none, (some 43), .app 6 80 (.t 40) (.t 42)⟩,
    ⟨none, (some 44), .fld 0 (.t 2)⟩,
    ⟨none, none, .store 1 (.t 44) (.t 43)⟩])
  (.region false [⟨none, (some 45), .fld 0 (.t 2)⟩,
    ⟨none, (some 46), .load 1 false (.t 45)⟩,
    ⟨none, (some 47), .mov (.t 6)⟩,
    ⟨none, (some 48), .load 6 true (.t 3)⟩,
    ⟨none, (some 49), .idxS 6 (.t 46) (.t 47)⟩,
    ⟨none, none, .store 6 (.t 49) (.t 48)⟩])))
  (.seq (.region false [⟨none, (some 50), .load 3 true (.t 2)⟩,
    ⟨none, none, .store 3 (.t 4) (.t 50)⟩,
    ⟨none, (some 5), .mov (.k (.int .i64 0))⟩])
  .ret))))))))
  ntmps := 51
  res := [.cell 4 3 true, .tmp 5]

theorem a35_ok : compileFn P Tryd.f35 = some a35 := by kernel_rfl

-- 32 admission/workload.Start
def a32 : AFn where
  code := (.seq (.region false [⟨none, (some 4), .box (.t 0)⟩,
    ⟨none, (some 6), .box (.t 2)⟩,
    ⟨none, (some 8), .alloc [.nils, .nils, (.int .i64 0)]⟩,
    ⟨none, (some 9), .mov (.k (.int .i64 0))⟩,
    ⟨none, (some 10), .mov (.k (.int .i64 0))⟩])
  (.seq (.block 0 (.seq (.region false [⟨none, (some 13), .load 3 true (.t 4)⟩,
    ⟨none, (some 14), .call (.k (.fn (.func 20) [] [])) [(.t 13)]⟩,
    ⟨none, (some 15), .un .not (.t 14)⟩,
    ⟨none, (some 16), .mov (.t 15)⟩,
    ⟨(some (16, false)), (some 17), .load 32 true (.t 6)⟩,
    ⟨(some (16, false)), (some 18), .build (rep 32 (w8 0#8)) []⟩,
    ⟨(some (16, false)), (some 19), .eqa false [(32, 0)] (.t 17) (.t 18)⟩,
    ⟨none, (some 20), .pick (.t 16) (.k (.bool true)) (.t 19)⟩,
    ⟨none, (some 21), .mov (.t 20)⟩,
    ⟨(some (21, false)), (some 22), .mov (.t 3)⟩,
    ⟨(some (21, false)), (some 23), .call (.k (.fn (.func 70) [] [])) [(.t 22)]⟩,
    ⟨(some (21, false)), (some 24), .un .not (.t 23)⟩,
    ⟨none, (some 25), .pick (.t 21) (.k (.bool true)) (.t 24)⟩,
    ⟨none, (some 12), .mov (.t 25)⟩])
  (.cond (.t 12) (.seq (.region false [⟨none, (some 26), .build [.nils, .nils, (.int .i64 0)] []⟩,
    ⟨none, none, .store 3 (.t 8) (.t 26)⟩,
    ⟨none, (some 9), .mov (.k (.int .i64 0))⟩,
    ⟨none, (some 10), .mov (.k (.int .i64 1))⟩])
  .ret)
  (.seq (.region false [⟨none, (some 28), .mov (.t 1)⟩,
    ⟨none, (some 29), .bin .lss (.t 28) (.k (.int .i64 0))⟩,
    ⟨none, (some 30), .mov (.t 29)⟩,
    ⟨(some (30, false)), (some 31), .mov (.t 1)⟩,
    ⟨(some (30, false)), (some 32), .fld 0 (.t 4)⟩,
    ⟨(some (30, false)), (some 33), .load 1 false (.t 32)⟩,
    ⟨(some (30, false)), (some 34), .len (.t 33)⟩,
    ⟨(some (30, false)), (some 35), .bin .geq (.t 31) (.t 34)⟩,
    ⟨none, (some 36), .pick (.t 30) (.k (.bool true)) (.t 35)⟩,
    ⟨none, (some 27), .mov (.t 36)⟩])
  (.cond (.t 27) (.seq (.region false [⟨none, (some 37), .build [.nils, .nils, (.int .i64 0)] []⟩,
    ⟨none, none, .store 3 (.t 8) (.t 37)⟩,
    ⟨none, (some 9), .mov (.k (.int .i64 0))⟩,
    ⟨none, (some 10), .mov (.k (.int .i64 4))⟩])
  .ret)
  (.seq (.region false [⟨none, (some 39), .fld 1 (.t 4)⟩,
    ⟨none, (some 40), .load 1 false (.t 39)⟩,
    ⟨none, (some 41), .len (.t 40)⟩,
    ⟨none, (some 42), .bin .geq (.t 41) (.k (.int .i64 200))⟩,
    ⟨none, (some 43), .mov (.t 42)⟩,
    ⟨(some (43, false)), (some 44), .fld 2 (.t 4)⟩,
    ⟨(some (43, false)), (some 45), .load 1 false (.t 44)⟩,
    ⟨(some (43, false)), (some 46), .bin .geq (.t 45) (.k (.int .i64 1099511627776))⟩,
    ⟨none, (some 47), .pick (.t 43) (.k (.bool true)) (.t 46)⟩,
    ⟨none, (some 38), .mov (.t 47)⟩])
  (.cond (.t 38) (.seq (.region false [⟨none, (some 48), .build [.nils, .nils, (.int .i64 0)] []⟩,
    ⟨none, none, .store 3 (.t 8) (.t 48)⟩,
    ⟨none, (some 9), .mov (.k (.int .i64 0))⟩,
    ⟨none, (some 10), .mov (.k (.int .i64 3))⟩])
  .ret)
  .skip)))))))
  (.seq (.region false [⟨none, (some 49), .load 3 true (.t 4)⟩,
    ⟨none, (some 50), .call (.k (.fn (.func 71) [] [])) [(.t 49)]⟩,
    ⟨none, none, .store 3 (.t 4) (.t 50)⟩])
  (.seq (.region false [⟨none, (some 51), .fld 2 (.t 4)⟩,
    ⟨none, (some 52), .load 1 false (.t 51)⟩,
    ⟨none, (some 11), .mov (.t 52)⟩])
  (.seq (.region false [⟨none, (some 53), .fld 1 (.t 4)⟩,
    ⟨none, (some 54), .load 1 false (.t 53)⟩,
    ⟨none, (some 55), .mov (.t 11)⟩,
    ⟨none, (some 56), .mov (.t 1)⟩,
    ⟨none, (some 57), .load 32 true (.t 6)⟩,
    ⟨none, (some 58), .mov (.t 3)⟩,
    ⟨none, (some 59), .build [(.int .i64 0), (.int .i64 0), (w8 0#8), (w8 0#8), (w8 0#8), (w8 0#8), (w8 0#8), (w8 0#8), (w8 0#8), (w8 0#8), (w8 0#8), (w8 0#8), (w8 0#8), (w8 0#8), (w8 0#8), (w8 0#8), (w8 0#8), (w8 0#8), (w8 0#8), (w8 0#8), (w8 0#8), (w8 0#8), (w8 0#8), (w8 0#8), (w8 0#8), (w8 0#8), (w8 0#8), (w8 0#8), (w8 0#8), (w8 0#8), (w8 0#8), (w8 0#8), (w8 0#8), (w8 0#8), (.int .i64 0), (.int .i64 0), (.int .i64 0)] [(0, 1, (.t 55)), (1, 1, (.t 56)), (2, 32, (.t 57)), (34, 1, (.k (.int .i64 1))), (35, 1, (.t 58)), (36, 1, (.k (.int .i64 (-1))))]⟩,
    ⟨none, (some 60), .bsl 37 1 [(.int .i64 0), (.int .i64 0), (w8 0#8), (w8 0#8), (w8 0#8), (w8 0#8), (w8 0#8), (w8 0#8), (w8 0#8), (w8 0#8), (w8 0#8), (w8 0#8), (w8 0#8), (w8 0#8), (w8 0#8), (w8 0#8), (w8 0#8), (w8 0#8), (w8 0#8), (w8 0#8), (w8 0#8), (w8 0#8), (w8 0#8), (w8 0#8), (w8 0#8), (w8 0#8), (w8 0#8), (w8 0#8), (w8 0#8), (w8 0#8), (w8 0#8), (w8 0#8), (w8 0#8), (w8 0#8), (.int .i64 0), (.int .i64 0), (.int .i64 0)] [(0, 37, (.t 59))]⟩,
    ⟨none, (some 61), .app 37 72 (.t 54) (.t 60)⟩,
    ⟨none, (some 62), .fld 1 (.t 4)⟩,
    ⟨none, none, .store 1 (.t 62) (.t 61)⟩])
  (.seq (.region false [⟨none, (some 63), .fld 2 (.t 4)⟩,
    ⟨none, (some 64), .load 1 false (.t 63)⟩,
    ⟨none, (some 65), .bin .add (.t 64) (.k (.int .i64 1))⟩,
    ⟨none, (some 66), .fld 2 (.t 4)⟩,
    ⟨none, none, .store 1 (.t 66) (.t 65)⟩])
  (.seq (.region false [⟨none, (some 67), .load 3 true (.t 4)⟩,
    ⟨none, (some 68), .mov (.t 11)⟩,
    ⟨none, none, .store 3 (.t 8) (.t 67)⟩,
    ⟨none, (some 9), .mov (.t 68)⟩,
    ⟨none, (some 10), .mov (.k (.int .i64 0))⟩])
  .ret)))))))
  ntmps := 69
  res := [.cell 8 3 true, .tmp 9, .tmp 10]

theorem a32_ok : compileFn P Tryd.f32 = some a32 := by kernel_rfl

-- 78 admission/workload.change
def a78 : AFn where
  code := (.seq (.region false [⟨none, (some 5), .box (.t 0)⟩,
    ⟨none, (some 10), .alloc [.nils, .nils, (.int .i64 0)]⟩,
    ⟨none, (some 11), .mov (.k (.int .i64 0))⟩])
  (.seq (.seq (.region false [⟨none, (some 13), .load 3 true (.t 5)⟩,
    ⟨none, (some 14), .call (.k (.fn (.func 20) [] [])) [(.t 13)]⟩,
    ⟨none, (some 15), .un .not (.t 14)⟩,
    ⟨none, (some 16), .mov (.t 15)⟩,
    ⟨(some (16, false)), (some 17), .mov (.t 2)⟩,
    ⟨(some (16, false)), (some 18), .call (.k (.fn (.func 70) [] [])) [(.t 17)]⟩,
    ⟨(some (16, false)), (some 19), .un .not (.t 18)⟩,
    ⟨none, (some 20), .pick (.t 16) (.k (.bool true)) (.t 19)⟩])
  (.cond (.t 20) (.seq (.region false [⟨none, (some 21), .build [.nils, .nils, (.int .i64 0)] []⟩,
    ⟨none, none, .store 3 (.t 10) (.t 21)⟩,
    ⟨none, (some 11), .mov (.k (.int .i64 1))⟩])
  .ret)
  .skip))
  (.seq (.region false [⟨none, (some 22), .load 3 true (.t 5)⟩,
    ⟨none, (some 23), .mov (.t 1)⟩,
    ⟨none, (some 24), .call (.k (.fn (.func 24) [] [])) [(.t 22), (.t 23)]⟩,
    ⟨none, (some 12), .mov (.t 24)⟩])
  (.seq (.seq (.region false [⟨none, (some 25), .mov (.t 12)⟩,
    ⟨none, (some 26), .bin .lss (.t 25) (.k (.int .i64 0))⟩])
  (.cond (.t 26) (.seq (.region false [⟨none, (some 27), .build [.nils, .nils, (.int .i64 0)] []⟩,
    ⟨none, none, .store 3 (.t 10) (.t 27)⟩,
    ⟨none, (some 11), .mov (.k (.int .i64 4))⟩])
  .ret)
  .skip))
  (.seq (.seq (.region false [⟨none, (some 28), .mov (.t 4)⟩,
    ⟨none, (some 29), .fld 1 (.t 5)⟩,
    ⟨none, (some 30), .load 1 false (.t 29)⟩,
    ⟨none, (some 31), .mov (.t 12)⟩,
    ⟨none, (some 32), .idxS 37 (.t 30) (.t 31)⟩,
    ⟨none, (some 33), .fld 34 (.t 32)⟩,
    ⟨none, (some 34), .load 1 false (.t 33)⟩,
    ⟨none, (some 35), .call (.t 28) [(.t 34)]⟩,
    ⟨none, (some 36), .un .not (.t 35)⟩])
  (.cond (.t 36) (.seq (.region false [⟨none, (some 37), .build [.nils, .nils, (.int .i64 0)] []⟩,
    ⟨none, none, .store 3 (.t 10) (.t 37)⟩,
    ⟨none, (some 11), .mov (.k (.int .i64 30))⟩])
  .ret)
  .skip))
  (.seq (.region false [⟨none, (some 38), .load 3 true (.t 5)⟩,
    ⟨none, (some 39), .call (.k (.fn (.func 71) [] [])) [(.t 38)]⟩,
    ⟨none, none, .store 3 (.t 5) (.t 39)⟩])
  (.seq (.region true [⟨none, (some 40), .fld 1 (.t 5)⟩,
    ⟨none, (some 41), .load 1 false (.t 40)⟩,
    ⟨none, (some 42), .mov (.t 12)⟩,
    ⟨none, (some 43), .fld 1 (.t 5)⟩,
    ⟨none, (some 44), .load 1 false (.t 43)⟩,
    ⟨none, (some 45), .mov (.t 12)⟩,
    ⟨none, (some 46), .mov (.t 3)⟩,
    ⟨none, (some 47), .mov (.t 2)⟩,
    ⟨none, (some 48), .idxS 37 (.t 41) (.t 42)⟩,
    ⟨none, (some 49), .fld 34 (.t 48)⟩,
    ⟨none, none, .store 1 (.t 49) (.t 46)⟩,
    ⟨none, (some 50), .idxS 37 (.t 44) (.t 45)⟩,
    ⟨none, (some 51), .fld 35 (.t 50)⟩,
    ⟨none, none, .store 1 (.t 51) (.t 47)⟩,
    ⟨none, none, .apart (.t 5) (.t 49)⟩,
    ⟨none, none, .apart (.t 43) (.t 49)⟩])
  (.seq (.region false [⟨none, (some 52), .load 3 true (.t 5)⟩,
    ⟨none, none, .store 3 (.t 10) (.t 52)⟩,
    ⟨none, (some 11), .mov (.k (.int .i64 0))⟩])
  .ret))))))))
  ntmps := 53
  res := [.cell 10 3 true, .tmp 11]

theorem a78_ok : compileFn P Tryd.f78 = some a78 := by kernel_rfl

-- 79 admission/workload.Started$1
def a79 : AFn where
  code := (.seq (.region false [⟨none, (some 2), .mov (.k (.bool false))⟩])
  (.seq (.region false [⟨none, (some 3), .mov (.t 0)⟩,
    ⟨none, (some 4), .bin .eql (.t 3) (.k (.int .i64 1))⟩,
    ⟨none, (some 2), .mov (.t 4)⟩])
  .ret))
  ntmps := 5
  res := [.tmp 2]

theorem a79_ok : compileFn P Tryd.f79 = some a79 := by kernel_rfl

-- 81 admission/workload.Stop$1
def a81 : AFn where
  code := (.seq (.region false [⟨none, (some 2), .mov (.k (.bool false))⟩])
  (.seq (.region false [⟨none, (some 3), .mov (.t 0)⟩,
    ⟨none, (some 4), .bin .neq (.t 3) (.k (.int .i64 3))⟩,
    ⟨none, (some 2), .mov (.t 4)⟩])
  .ret))
  ntmps := 5
  res := [.tmp 2]

theorem a81_ok : compileFn P Tryd.f81 = some a81 := by kernel_rfl

-- 38 admission/workload.Started
def a38 : AFn where
  code := (.seq (.region false [⟨none, (some 3), .box (.t 0)⟩,
    ⟨none, (some 6), .alloc [.nils, .nils, (.int .i64 0)]⟩,
    ⟨none, (some 7), .mov (.k (.int .i64 0))⟩])
  (.seq (.region false [⟨none, (some 8), .load 3 true (.t 3)⟩,
    ⟨none, (some 9), .mov (.t 1)⟩,
    ⟨none, (some 10), .mov (.t 2)⟩,
    ⟨none, (some 11), .call (.k (.fn (.func 78) [] [])) [(.t 8), (.t 9), (.t 10), (.k (.int .i64 2)), (.k (.fn (.func 79) [] []))]⟩,
    ⟨none, (some 12), .ext (.t 11) 0⟩,
    ⟨none, (some 13), .ext (.t 11) 1⟩,
    ⟨none, none, .store 3 (.t 6) (.t 12)⟩,
    ⟨none, (some 7), .mov (.t 13)⟩])
  .ret))
  ntmps := 14
  res := [.cell 6 3 true, .tmp 7]

theorem a38_ok : compileFn P Tryd.f38 = some a38 := by kernel_rfl

-- 40 admission/workload.Stop
def a40 : AFn where
  code := (.seq (.region false [⟨none, (some 3), .box (.t 0)⟩,
    ⟨none, (some 6), .alloc [.nils, .nils, (.int .i64 0)]⟩,
    ⟨none, (some 7), .mov (.k (.int .i64 0))⟩])
  (.seq (.region false [⟨none, (some 8), .load 3 true (.t 3)⟩,
    ⟨none, (some 9), .mov (.t 1)⟩,
    ⟨none, (some 10), .mov (.t 2)⟩,
    ⟨none, (some 11), .call (.k (.fn (.func 78) [] [])) [(.t 8), (.t 9), (.t 10), (.k (.int .i64 3)), (.k (.fn (.func 81) [] []))]⟩,
    ⟨none, (some 12), .ext (.t 11) 0⟩,
    ⟨none, (some 13), .ext (.t 11) 1⟩,
    ⟨none, none, .store 3 (.t 6) (.t 12)⟩,
    ⟨none, (some 7), .mov (.t 13)⟩])
  .ret))
  ntmps := 14
  res := [.cell 6 3 true, .tmp 7]

theorem a40_ok : compileFn P Tryd.f40 = some a40 := by kernel_rfl

end Go.Proofs.YtjhakjeioppijaaDoor
