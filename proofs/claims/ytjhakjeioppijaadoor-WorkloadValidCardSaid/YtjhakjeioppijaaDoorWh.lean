/-
  Functions of this claim, as the abstract machine has them. MADE BY A PROGRAM of mine.
-/
import Derived.Test.YtjhakjeioppijaaDoorWff
set_option linter.unusedSimpArgs false
set_option linter.unusedVariables false
namespace Go.Proofs.YtjhakjeioppijaaDoor
open Go Go.Am
-- 63 admission/admissionref01.Has
def a63L0 : ACode :=
  (.seq (.seq (.region false [⟨none, (some 6), .mov (.t 5)⟩,
    ⟨none, (some 7), .mov (.t 0)⟩,
    ⟨none, (some 8), .len (.t 7)⟩,
    ⟨none, (some 9), .bin .lss (.t 6) (.t 8)⟩])
  (.cond (.t 9) .skip
  (.exit 0)))
  (.seq (.block 1 (.seq (.region true [⟨none, (some 12), .mov (.t 0)⟩,
    ⟨none, (some 13), .mov (.t 5)⟩,
    ⟨none, (some 14), .idxS 32 (.t 12) (.t 13)⟩,
    ⟨none, (some 15), .load 32 true (.t 14)⟩,
    ⟨none, (some 16), .load 32 true (.t 3)⟩,
    ⟨none, (some 17), .eqa false [(32, 0)] (.t 15) (.t 16)⟩])
  (.cond (.t 17) (.seq (.region false [⟨none, (some 4), .mov (.k (.bool true))⟩])
  .ret)
  .skip)))
  (.region false [⟨none, (some 10), .mov (.t 5)⟩,
    ⟨none, (some 11), .bin .add (.t 10) (.k (.int .i64 1))⟩,
    ⟨none, (some 5), .mov (.t 11)⟩])))
/-- 0:l 3:d 5:i -/
def a63S0 (x0 x3 x5 : DV) (h : List AObj) : St := ⟨[x0, .junk, .junk, x3, .junk, x5] ++ js 12, h⟩

def a63 : AFn where
  code := (.seq (.region false [⟨none, (some 3), .box (.t 1)⟩,
    ⟨none, (some 4), .mov (.k (.bool false))⟩])
  (.seq (.seq (.region false [⟨none, (some 5), .mov (.k (.int .i64 0))⟩])
  (.block 0 (.loop a63L0)))
  (.seq (.region false [⟨none, (some 4), .mov (.k (.bool false))⟩])
  .ret)))
  ntmps := 18
  res := [.tmp 4]

theorem a63_ok : compileFn P Tryd.f63 = some a63 := by kernel_rfl

-- 107 admission/admissionref01.Same
def a107L0 : ACode :=
  (.seq (.seq (.region false [⟨none, (some 11), .mov (.t 5)⟩,
    ⟨none, (some 12), .mov (.t 0)⟩,
    ⟨none, (some 13), .len (.t 12)⟩,
    ⟨none, (some 14), .bin .lss (.t 11) (.t 13)⟩])
  (.cond (.t 14) .skip
  (.exit 0)))
  (.seq (.block 1 (.seq (.region true [⟨none, (some 17), .mov (.t 0)⟩,
    ⟨none, (some 18), .mov (.t 5)⟩,
    ⟨none, (some 19), .idxS 32 (.t 17) (.t 18)⟩,
    ⟨none, (some 20), .load 32 true (.t 19)⟩,
    ⟨none, (some 21), .mov (.t 1)⟩,
    ⟨none, (some 22), .mov (.t 5)⟩,
    ⟨none, (some 23), .idxS 32 (.t 21) (.t 22)⟩,
    ⟨none, (some 24), .load 32 true (.t 23)⟩,
    ⟨none, (some 25), .eqa true [(32, 0)] (.t 20) (.t 24)⟩])
  (.cond (.t 25) (.seq (.region false [⟨none, (some 4), .mov (.k (.bool false))⟩])
  .ret)
  .skip)))
  (.region false [⟨none, (some 15), .mov (.t 5)⟩,
    ⟨none, (some 16), .bin .add (.t 15) (.k (.int .i64 1))⟩,
    ⟨none, (some 5), .mov (.t 16)⟩])))
/-- 0:a 1:b 5:i -/
def a107S0 (x0 x1 x5 : DV) (h : List AObj) : St := ⟨[x0, x1, .junk, .junk, .junk, x5] ++ js 20, h⟩

def a107 : AFn where
  code := (.seq (.region false [⟨none, (some 4), .mov (.k (.bool false))⟩])
  (.seq (.seq (.region false [⟨none, (some 6), .mov (.t 0)⟩,
    ⟨none, (some 7), .len (.t 6)⟩,
    ⟨none, (some 8), .mov (.t 1)⟩,
    ⟨none, (some 9), .len (.t 8)⟩,
    ⟨none, (some 10), .bin .neq (.t 7) (.t 9)⟩])
  (.cond (.t 10) (.seq (.region false [⟨none, (some 4), .mov (.k (.bool false))⟩])
  .ret)
  .skip))
  (.seq (.seq (.region false [⟨none, (some 5), .mov (.k (.int .i64 0))⟩])
  (.block 0 (.loop a107L0)))
  (.seq (.region false [⟨none, (some 4), .mov (.k (.bool true))⟩])
  .ret))))
  ntmps := 26
  res := [.tmp 4]

theorem a107_ok : compileFn P Tryd.f107 = some a107 := by kernel_rfl

-- 77 admission/admissionref02.Instant
def a77 : AFn where
  code := (.seq (.region false [⟨none, (some 2), .mov (.k (.bool false))⟩])
  (.seq (.region false [⟨none, (some 3), .mov (.t 0)⟩,
    ⟨none, (some 4), .bin .geq (.t 3) (.k (.int .i64 0))⟩,
    ⟨none, (some 5), .mov (.t 4)⟩,
    ⟨(some (5, true)), (some 6), .mov (.t 0)⟩,
    ⟨(some (5, true)), (some 7), .bin .leq (.t 6) (.k (.int .i64 1099511627776))⟩,
    ⟨none, (some 8), .pick (.t 5) (.t 7) (.k (.bool false))⟩,
    ⟨none, (some 2), .mov (.t 8)⟩])
  .ret))
  ntmps := 9
  res := [.tmp 2]

theorem a77_ok : compileFn P Tryd.f77 = some a77 := by kernel_rfl

-- 19 admission/admissionref37.ValidGroup
def a19L0 : ACode :=
  (.seq (.seq (.region false [⟨none, (some 54), .mov (.t 3)⟩,
    ⟨none, (some 55), .fld 5 (.t 1)⟩,
    ⟨none, (some 56), .load 1 false (.t 55)⟩,
    ⟨none, (some 57), .len (.t 56)⟩,
    ⟨none, (some 58), .bin .lss (.t 54) (.t 57)⟩])
  (.cond (.t 58) .skip
  (.exit 0)))
  (.seq (.block 1 (.seq (.region true [⟨none, (some 61), .fld 5 (.t 1)⟩,
    ⟨none, (some 62), .load 1 false (.t 61)⟩,
    ⟨none, (some 63), .mov (.t 3)⟩,
    ⟨none, (some 64), .idxS 32 (.t 62) (.t 63)⟩,
    ⟨none, (some 65), .load 32 true (.t 64)⟩,
    ⟨none, (some 66), .build (rep 32 (w8 0#8)) []⟩,
    ⟨none, (some 67), .eqa false [(32, 0)] (.t 65) (.t 66)⟩,
    ⟨none, (some 68), .mov (.t 67)⟩,
    ⟨(some (68, false)), (some 69), .fld 5 (.t 1)⟩,
    ⟨(some (68, false)), (some 70), .load 1 false (.t 69)⟩,
    ⟨(some (68, false)), (some 71), .mov (.t 3)⟩,
    ⟨(some (68, false)), (some 72), .slcS 32 (.t 70) none (some (.t 71)) none⟩,
    ⟨(some (68, false)), (some 73), .fld 5 (.t 1)⟩,
    ⟨(some (68, false)), (some 74), .load 1 false (.t 73)⟩,
    ⟨(some (68, false)), (some 75), .mov (.t 3)⟩,
    ⟨(some (68, false)), (some 76), .idxS 32 (.t 74) (.t 75)⟩,
    ⟨(some (68, false)), (some 77), .load 32 true (.t 76)⟩,
    ⟨(some (68, false)), (some 78), .callN (.k (.fn (.func 63) [] [])) [(.t 72), (.t 77)]⟩,
    ⟨none, (some 79), .pick (.t 68) (.k (.bool true)) (.t 78)⟩])
  (.cond (.t 79) (.seq (.region false [⟨none, (some 2), .mov (.k (.bool false))⟩])
  .ret)
  .skip)))
  (.region false [⟨none, (some 59), .mov (.t 3)⟩,
    ⟨none, (some 60), .bin .add (.t 59) (.k (.int .i64 1))⟩,
    ⟨none, (some 3), .mov (.t 60)⟩])))
/-- 1:g 3:i -/
def a19S0 (x1 x3 : DV) (h : List AObj) : St := ⟨[.junk, x1, .junk, x3] ++ js 76, h⟩

def a19 : AFn where
  code := (.seq (.region false [⟨none, (some 1), .box (.t 0)⟩,
    ⟨none, (some 2), .mov (.k (.bool false))⟩])
  (.seq (.seq (.region false [⟨none, (some 4), .fld 0 (.t 1)⟩,
    ⟨none, (some 5), .load 1 false (.t 4)⟩,
    ⟨none, (some 6), .call (.k (.fn (.func 62) [] [])) [(.t 5)]⟩,
    ⟨none, (some 7), .un .not (.t 6)⟩,
    ⟨none, (some 8), .mov (.t 7)⟩,
    ⟨(some (8, false)), (some 9), .fld 1 (.t 1)⟩,
    ⟨(some (8, false)), (some 10), .load 1 false (.t 9)⟩,
    ⟨(some (8, false)), (some 11), .call (.k (.fn (.func 62) [] [])) [(.t 10)]⟩,
    ⟨(some (8, false)), (some 12), .un .not (.t 11)⟩,
    ⟨none, (some 13), .pick (.t 8) (.k (.bool true)) (.t 12)⟩,
    ⟨none, (some 14), .mov (.t 13)⟩,
    ⟨(some (14, false)), (some 15), .fld 2 (.t 1)⟩,
    ⟨(some (14, false)), (some 16), .load 1 false (.t 15)⟩,
    ⟨(some (14, false)), (some 17), .bin .lss (.t 16) (.k (.int .i64 0))⟩,
    ⟨none, (some 18), .pick (.t 14) (.k (.bool true)) (.t 17)⟩,
    ⟨none, (some 19), .mov (.t 18)⟩,
    ⟨(some (19, false)), (some 20), .fld 2 (.t 1)⟩,
    ⟨(some (19, false)), (some 21), .load 1 false (.t 20)⟩,
    ⟨(some (19, false)), (some 22), .bin .gtr (.t 21) (.k (.int .i64 8))⟩,
    ⟨none, (some 23), .pick (.t 19) (.k (.bool true)) (.t 22)⟩,
    ⟨none, (some 24), .mov (.t 23)⟩,
    ⟨(some (24, false)), (some 25), .fld 3 (.t 1)⟩,
    ⟨(some (24, false)), (some 26), .load 1 false (.t 25)⟩,
    ⟨(some (24, false)), (some 27), .bin .lss (.t 26) (.k (.int .i64 0))⟩,
    ⟨none, (some 28), .pick (.t 24) (.k (.bool true)) (.t 27)⟩,
    ⟨none, (some 29), .mov (.t 28)⟩,
    ⟨(some (29, false)), (some 30), .fld 3 (.t 1)⟩,
    ⟨(some (29, false)), (some 31), .load 1 false (.t 30)⟩,
    ⟨(some (29, false)), (some 32), .fld 2 (.t 1)⟩,
    ⟨(some (29, false)), (some 33), .load 1 false (.t 32)⟩,
    ⟨(some (29, false)), (some 34), .bin .gtr (.t 31) (.t 33)⟩,
    ⟨none, (some 35), .pick (.t 29) (.k (.bool true)) (.t 34)⟩,
    ⟨none, (some 36), .mov (.t 35)⟩,
    ⟨(some (36, false)), (some 37), .fld 4 (.t 1)⟩,
    ⟨(some (36, false)), (some 38), .load 1 false (.t 37)⟩,
    ⟨(some (36, false)), (some 39), .bin .lss (.t 38) (.k (.int .i64 0))⟩,
    ⟨none, (some 40), .pick (.t 36) (.k (.bool true)) (.t 39)⟩,
    ⟨none, (some 41), .mov (.t 40)⟩,
    ⟨(some (41, false)), (some 42), .fld 4 (.t 1)⟩,
    ⟨(some (41, false)), (some 43), .load 1 false (.t 42)⟩,
    ⟨(some (41, false)), (some 44), .fld 2 (.t 1)⟩,
    ⟨(some (41, false)), (some 45), .load 1 false (.t 44)⟩,
    ⟨(some (41, false)), (some 46), .bin .gtr (.t 43) (.t 45)⟩,
    ⟨none, (some 47), .pick (.t 41) (.k (.bool true)) (.t 46)⟩,
    ⟨none, (some 48), .mov (.t 47)⟩,
    ⟨(some (48, false)), (some 49), .fld 5 (.t 1)⟩,
    ⟨(some (48, false)), (some 50), .load 1 false (.t 49)⟩,
    ⟨(some (48, false)), (some 51), .len (.t 50)⟩,
    ⟨(some (48, false)), (some 52), .bin .gtr (.t 51) (.k (.int .i64 6))⟩,
    ⟨none, (some 53), .pick (.t 48) (.k (.bool true)) (.t 52)⟩])
  (.cond (.t 53) (.seq (.region false [⟨none, (some 2), .mov (.k (.bool false))⟩])
  .ret)
  .skip))
  (.seq (.seq (.region false [⟨none, (some 3), .mov (.k (.int .i64 0))⟩])
  (.block 0 (.loop a19L0)))
  (.seq (.region false [⟨none, (some 2), .mov (.k (.bool true))⟩])
  .ret))))
  ntmps := 80
  res := [.tmp 2]

theorem a19_ok : compileFn P Tryd.f19 = some a19 := by kernel_rfl

-- 65 admission/admissionref37.instance
def a65 : AFn where
  code := (.seq (.region false [⟨none, (some 2), .box (.t 0)⟩,
    ⟨none, (some 3), .box (.t 1)⟩,
    ⟨none, (some 4), .mov (.k (.bool false))⟩])
  (.seq (.region false [⟨none, (some 5), .fld 0 (.t 3)⟩,
    ⟨none, (some 6), .load 1 false (.t 5)⟩,
    ⟨none, (some 7), .bin .geq (.t 6) (.k (.int .i64 1))⟩,
    ⟨none, (some 8), .mov (.t 7)⟩,
    ⟨(some (8, true)), (some 9), .fld 0 (.t 3)⟩,
    ⟨(some (8, true)), (some 10), .load 1 false (.t 9)⟩,
    ⟨(some (8, true)), (some 11), .fld 2 (.t 2)⟩,
    ⟨(some (8, true)), (some 12), .load 1 false (.t 11)⟩,
    ⟨(some (8, true)), (some 13), .bin .lss (.t 10) (.t 12)⟩,
    ⟨none, (some 14), .pick (.t 8) (.t 13) (.k (.bool false))⟩,
    ⟨none, (some 15), .mov (.t 14)⟩,
    ⟨(some (15, true)), (some 16), .fld 1 (.t 3)⟩,
    ⟨(some (15, true)), (some 17), .load 1 false (.t 16)⟩,
    ⟨(some (15, true)), (some 18), .bin .geq (.t 17) (.k (.int .i64 0))⟩,
    ⟨none, (some 19), .pick (.t 15) (.t 18) (.k (.bool false))⟩,
    ⟨none, (some 20), .mov (.t 19)⟩,
    ⟨(some (20, true)), (some 21), .fld 1 (.t 3)⟩,
    ⟨(some (20, true)), (some 22), .load 1 false (.t 21)⟩,
    ⟨(some (20, true)), (some 23), .fld 0 (.t 2)⟩,
    ⟨(some (20, true)), (some 24), .load 1 false (.t 23)⟩,
    ⟨(some (20, true)), (some 25), .len (.t 24)⟩,
    ⟨(some (20, true)), (some 26), .bin .lss (.t 22) (.t 25)⟩,
    ⟨none, (some 27), .pick (.t 20) (.t 26) (.k (.bool false))⟩,
    ⟨none, (some 28), .mov (.t 27)⟩,
    ⟨(some (28, true)), (some 29), .fld 2 (.t 3)⟩,
    ⟨(some (28, true)), (some 30), .load 32 true (.t 29)⟩,
    ⟨(some (28, true)), (some 31), .build (rep 32 (w8 0#8)) []⟩,
    ⟨(some (28, true)), (some 32), .eqa true [(32, 0)] (.t 30) (.t 31)⟩,
    ⟨none, (some 33), .pick (.t 28) (.t 32) (.k (.bool false))⟩,
    ⟨none, (some 34), .mov (.t 33)⟩,
    ⟨(some (34, true)), (some 35), .fld 34 (.t 3)⟩,
    ⟨(some (34, true)), (some 36), .load 1 false (.t 35)⟩,
    ⟨(some (34, true)), (some 37), .bin .geq (.t 36) (.k (.int .i64 1))⟩,
    ⟨none, (some 38), .pick (.t 34) (.t 37) (.k (.bool false))⟩,
    ⟨none, (some 39), .mov (.t 38)⟩,
    ⟨(some (39, true)), (some 40), .fld 34 (.t 3)⟩,
    ⟨(some (39, true)), (some 41), .load 1 false (.t 40)⟩,
    ⟨(some (39, true)), (some 42), .bin .leq (.t 41) (.k (.int .i64 3))⟩,
    ⟨none, (some 43), .pick (.t 39) (.t 42) (.k (.bool false))⟩,
    ⟨none, (some 44), .mov (.t 43)⟩,
    ⟨(some (44, true)), (some 45), .fld 35 (.t 3)⟩,
    ⟨(some (44, true)), (some 46), .load 1 false (.t 45)⟩,
    ⟨(some (44, true)), (some 47), .call (.k (.fn (.func 77) [] [])) [(.t 46)]⟩,
    ⟨none, (some 48), .pick (.t 44) (.t 47) (.k (.bool false))⟩,
    ⟨none, (some 49), .mov (.t 48)⟩,
    ⟨(some (49, true)), (some 50), .fld 36 (.t 3)⟩,
    ⟨(some (49, true)), (some 51), .load 1 false (.t 50)⟩,
    ⟨(some (49, true)), (some 52), .bin .geq (.t 51) (.k (.int .i64 (-1)))⟩,
    ⟨none, (some 53), .pick (.t 49) (.t 52) (.k (.bool false))⟩,
    ⟨none, (some 54), .mov (.t 53)⟩,
    ⟨(some (54, true)), (some 55), .fld 36 (.t 3)⟩,
    ⟨(some (54, true)), (some 56), .load 1 false (.t 55)⟩,
    ⟨(some (54, true)), (some 57), .bin .leq (.t 56) (.k (.int .i64 1099511627776))⟩,
    ⟨none, (some 58), .pick (.t 54) (.t 57) (.k (.bool false))⟩,
    ⟨none, (some 4), .mov (.t 58)⟩])
  .ret))
  ntmps := 59
  res := [.tmp 4]

theorem a65_ok : compileFn P Tryd.f65 = some a65 := by kernel_rfl

-- 21 admission/admissionref37.Valid
def a21L0 : ACode :=
  (.seq (.seq (.region false [⟨none, (some 25), .mov (.t 3)⟩,
    ⟨none, (some 26), .fld 0 (.t 1)⟩,
    ⟨none, (some 27), .load 1 false (.t 26)⟩,
    ⟨none, (some 28), .len (.t 27)⟩,
    ⟨none, (some 29), .bin .lss (.t 25) (.t 28)⟩])
  (.cond (.t 29) .skip
  (.exit 0)))
  (.seq (.block 1 (.seq (.region true [⟨none, (some 32), .fld 0 (.t 1)⟩,
    ⟨none, (some 33), .load 1 false (.t 32)⟩,
    ⟨none, (some 34), .mov (.t 3)⟩,
    ⟨none, (some 35), .idxS 6 (.t 33) (.t 34)⟩,
    ⟨none, (some 36), .load 6 true (.t 35)⟩,
    ⟨none, (some 37), .callN (.k (.fn (.func 19) [] [])) [(.t 36)]⟩,
    ⟨none, (some 38), .un .not (.t 37)⟩,
    ⟨none, (some 39), .mov (.t 38)⟩,
    ⟨(some (39, false)), (some 40), .load 3 true (.t 1)⟩,
    ⟨(some (39, false)), (some 41), .fld 0 (.t 1)⟩,
    ⟨(some (39, false)), (some 42), .load 1 false (.t 41)⟩,
    ⟨(some (39, false)), (some 43), .mov (.t 3)⟩,
    ⟨(some (39, false)), (some 44), .idxS 6 (.t 42) (.t 43)⟩,
    ⟨(some (39, false)), (some 45), .fld 0 (.t 44)⟩,
    ⟨(some (39, false)), (some 46), .load 1 false (.t 45)⟩,
    ⟨(some (39, false)), (some 47), .fld 0 (.t 1)⟩,
    ⟨(some (39, false)), (some 48), .load 1 false (.t 47)⟩,
    ⟨(some (39, false)), (some 49), .mov (.t 3)⟩,
    ⟨(some (39, false)), (some 50), .idxS 6 (.t 48) (.t 49)⟩,
    ⟨(some (39, false)), (some 51), .fld 1 (.t 50)⟩,
    ⟨(some (39, false)), (some 52), .load 1 false (.t 51)⟩,
    ⟨(some (39, false)), (some 54), .mov (.t 3)⟩,
    ⟨(some (39, false)), (some 53), .callN (.k (.fn (.func 23) [] [])) [(.t 40), (.t 46), (.t 52)]⟩,
    ⟨(some (39, false)), (some 55), .bin .neq (.t 53) (.t 54)⟩,
    ⟨none, (some 56), .pick (.t 39) (.k (.bool true)) (.t 55)⟩])
  (.cond (.t 56) (.seq (.region false [⟨none, (some 2), .mov (.k (.bool false))⟩])
  .ret)
  .skip)))
  (.region false [⟨none, (some 30), .mov (.t 3)⟩,
    ⟨none, (some 31), .bin .add (.t 30) (.k (.int .i64 1))⟩,
    ⟨none, (some 3), .mov (.t 31)⟩])))
/-- 1:c 3:i -/
def a21S0 (x1 x3 : DV) (h : List AObj) : St := ⟨[.junk, x1, .junk, x3] ++ js 88, h⟩

def a21L1 : ACode :=
  (.seq (.seq (.region false [⟨none, (some 57), .mov (.t 4)⟩,
    ⟨none, (some 58), .fld 1 (.t 1)⟩,
    ⟨none, (some 59), .load 1 false (.t 58)⟩,
    ⟨none, (some 60), .len (.t 59)⟩,
    ⟨none, (some 61), .bin .lss (.t 57) (.t 60)⟩])
  (.cond (.t 61) .skip
  (.exit 2)))
  (.seq (.block 3 (.seq (.region true [⟨none, (some 64), .load 3 true (.t 1)⟩,
    ⟨none, (some 65), .fld 1 (.t 1)⟩,
    ⟨none, (some 66), .load 1 false (.t 65)⟩,
    ⟨none, (some 67), .mov (.t 4)⟩,
    ⟨none, (some 68), .idxS 37 (.t 66) (.t 67)⟩,
    ⟨none, (some 69), .load 37 true (.t 68)⟩,
    ⟨none, (some 70), .callN (.k (.fn (.func 65) [] [])) [(.t 64), (.t 69)]⟩,
    ⟨none, (some 71), .un .not (.t 70)⟩,
    ⟨none, (some 72), .mov (.t 71)⟩,
    ⟨(some (72, false)), (some 73), .mov (.t 4)⟩,
    ⟨(some (72, false)), (some 74), .bin .gtr (.t 73) (.k (.int .i64 0))⟩,
    ⟨(some (72, false)), (some 75), .mov (.t 74)⟩,
    ⟨(some (75, true)), (some 76), .fld 1 (.t 1)⟩,
    ⟨(some (75, true)), (some 77), .load 1 false (.t 76)⟩,
    ⟨(some (75, true)), (some 78), .mov (.t 4)⟩,
    ⟨(some (75, true)), (some 79), .bin .sub (.t 78) (.k (.int .i64 1))⟩,
    ⟨(some (75, true)), (some 80), .idxS 37 (.t 77) (.t 79)⟩,
    ⟨(some (75, true)), (some 81), .fld 0 (.t 80)⟩,
    ⟨(some (75, true)), (some 82), .load 1 false (.t 81)⟩,
    ⟨(some (75, true)), (some 83), .fld 1 (.t 1)⟩,
    ⟨(some (75, true)), (some 84), .load 1 false (.t 83)⟩,
    ⟨(some (75, true)), (some 85), .mov (.t 4)⟩,
    ⟨(some (75, true)), (some 86), .idxS 37 (.t 84) (.t 85)⟩,
    ⟨(some (75, true)), (some 87), .fld 0 (.t 86)⟩,
    ⟨(some (75, true)), (some 88), .load 1 false (.t 87)⟩,
    ⟨(some (75, true)), (some 89), .bin .geq (.t 82) (.t 88)⟩,
    ⟨(some (72, false)), (some 90), .pick (.t 75) (.t 89) (.k (.bool false))⟩,
    ⟨none, (some 91), .pick (.t 72) (.k (.bool true)) (.t 90)⟩])
  (.cond (.t 91) (.seq (.region false [⟨none, (some 2), .mov (.k (.bool false))⟩])
  .ret)
  .skip)))
  (.region false [⟨none, (some 62), .mov (.t 4)⟩,
    ⟨none, (some 63), .bin .add (.t 62) (.k (.int .i64 1))⟩,
    ⟨none, (some 4), .mov (.t 63)⟩])))
/-- 1:c 4:i -/
def a21S1 (x1 x4 : DV) (h : List AObj) : St := ⟨[.junk, x1, .junk, .junk, x4] ++ js 87, h⟩

def a21 : AFn where
  code := (.seq (.region false [⟨none, (some 1), .box (.t 0)⟩,
    ⟨none, (some 2), .mov (.k (.bool false))⟩])
  (.seq (.seq (.region false [⟨none, (some 5), .fld 0 (.t 1)⟩,
    ⟨none, (some 6), .load 1 false (.t 5)⟩,
    ⟨none, (some 7), .len (.t 6)⟩,
    ⟨none, (some 8), .bin .gtr (.t 7) (.k (.int .i64 16))⟩,
    ⟨none, (some 9), .mov (.t 8)⟩,
    ⟨(some (9, false)), (some 10), .fld 1 (.t 1)⟩,
    ⟨(some (9, false)), (some 11), .load 1 false (.t 10)⟩,
    ⟨(some (9, false)), (some 12), .len (.t 11)⟩,
    ⟨(some (9, false)), (some 13), .bin .gtr (.t 12) (.k (.int .i64 200))⟩,
    ⟨none, (some 14), .pick (.t 9) (.k (.bool true)) (.t 13)⟩,
    ⟨none, (some 15), .mov (.t 14)⟩,
    ⟨(some (15, false)), (some 16), .fld 2 (.t 1)⟩,
    ⟨(some (15, false)), (some 17), .load 1 false (.t 16)⟩,
    ⟨(some (15, false)), (some 18), .bin .lss (.t 17) (.k (.int .i64 1))⟩,
    ⟨none, (some 19), .pick (.t 15) (.k (.bool true)) (.t 18)⟩,
    ⟨none, (some 20), .mov (.t 19)⟩,
    ⟨(some (20, false)), (some 21), .fld 2 (.t 1)⟩,
    ⟨(some (20, false)), (some 22), .load 1 false (.t 21)⟩,
    ⟨(some (20, false)), (some 23), .bin .gtr (.t 22) (.k (.int .i64 1099511627776))⟩,
    ⟨none, (some 24), .pick (.t 20) (.k (.bool true)) (.t 23)⟩])
  (.cond (.t 24) (.seq (.region false [⟨none, (some 2), .mov (.k (.bool false))⟩])
  .ret)
  .skip))
  (.seq (.seq (.region false [⟨none, (some 3), .mov (.k (.int .i64 0))⟩])
  (.block 0 (.loop a21L0)))
  (.seq (.seq (.region false [⟨none, (some 4), .mov (.k (.int .i64 0))⟩])
  (.block 2 (.loop a21L1)))
  (.seq (.region false [⟨none, (some 2), .mov (.k (.bool true))⟩])
  .ret)))))
  ntmps := 92
  res := [.tmp 2]

theorem a21_ok : compileFn P Tryd.f21 = some a21 := by kernel_rfl

-- 23 admission/admissionref37.Group
def a23L0 : ACode :=
  (.seq (.seq (.region false [⟨none, (some 8), .mov (.t 7)⟩,
    ⟨none, (some 9), .fld 0 (.t 3)⟩,
    ⟨none, (some 10), .load 1 false (.t 9)⟩,
    ⟨none, (some 11), .len (.t 10)⟩,
    ⟨none, (some 12), .bin .lss (.t 8) (.t 11)⟩])
  (.cond (.t 12) .skip
  (.exit 0)))
  (.seq (.block 1 (.seq (.region false [⟨none, (some 15), .fld 0 (.t 3)⟩,
    ⟨none, (some 16), .load 1 false (.t 15)⟩,
    ⟨none, (some 17), .mov (.t 7)⟩,
    ⟨none, (some 18), .idxS 6 (.t 16) (.t 17)⟩,
    ⟨none, (some 19), .fld 0 (.t 18)⟩,
    ⟨none, (some 20), .load 1 false (.t 19)⟩,
    ⟨none, (some 21), .mov (.t 1)⟩,
    ⟨none, (some 22), .bin .eql (.t 20) (.t 21)⟩,
    ⟨none, (some 23), .mov (.t 22)⟩,
    ⟨(some (23, true)), (some 24), .fld 0 (.t 3)⟩,
    ⟨(some (23, true)), (some 25), .load 1 false (.t 24)⟩,
    ⟨(some (23, true)), (some 26), .mov (.t 7)⟩,
    ⟨(some (23, true)), (some 27), .idxS 6 (.t 25) (.t 26)⟩,
    ⟨(some (23, true)), (some 28), .fld 1 (.t 27)⟩,
    ⟨(some (23, true)), (some 29), .load 1 false (.t 28)⟩,
    ⟨(some (23, true)), (some 30), .mov (.t 2)⟩,
    ⟨(some (23, true)), (some 31), .bin .eql (.t 29) (.t 30)⟩,
    ⟨none, (some 32), .pick (.t 23) (.t 31) (.k (.bool false))⟩])
  (.cond (.t 32) (.seq (.region false [⟨none, (some 33), .mov (.t 7)⟩,
    ⟨none, (some 6), .mov (.t 33)⟩])
  .ret)
  .skip)))
  (.region false [⟨none, (some 13), .mov (.t 7)⟩,
    ⟨none, (some 14), .bin .add (.t 13) (.k (.int .i64 1))⟩,
    ⟨none, (some 7), .mov (.t 14)⟩])))
/-- 1:namespace 2:image 3:c 7:i -/
def a23S0 (x1 x2 x3 x7 : DV) (h : List AObj) : St := ⟨[.junk, x1, x2, x3, .junk, .junk, .junk, x7] ++ js 26, h⟩

def a23 : AFn where
  code := (.seq (.region false [⟨none, (some 3), .box (.t 0)⟩,
    ⟨none, (some 6), .mov (.k (.int .i64 0))⟩])
  (.seq (.seq (.region false [⟨none, (some 7), .mov (.k (.int .i64 0))⟩])
  (.block 0 (.loop a23L0)))
  (.seq (.region false [⟨none, (some 6), .mov (.k (.int .i64 (-1)))⟩])
  .ret)))
  ntmps := 34
  res := [.tmp 6]

theorem a23_ok : compileFn P Tryd.f23 = some a23 := by kernel_rfl

-- 25 admission/admissionref37.Find
def a25L0 : ACode :=
  (.seq (.seq (.region false [⟨none, (some 6), .mov (.t 5)⟩,
    ⟨none, (some 7), .fld 1 (.t 2)⟩,
    ⟨none, (some 8), .load 1 false (.t 7)⟩,
    ⟨none, (some 9), .len (.t 8)⟩,
    ⟨none, (some 10), .bin .lss (.t 6) (.t 9)⟩])
  (.cond (.t 10) .skip
  (.exit 0)))
  (.seq (.block 1 (.seq (.region false [⟨none, (some 13), .fld 1 (.t 2)⟩,
    ⟨none, (some 14), .load 1 false (.t 13)⟩,
    ⟨none, (some 15), .mov (.t 5)⟩,
    ⟨none, (some 16), .idxS 37 (.t 14) (.t 15)⟩,
    ⟨none, (some 17), .fld 0 (.t 16)⟩,
    ⟨none, (some 18), .load 1 false (.t 17)⟩,
    ⟨none, (some 19), .mov (.t 1)⟩,
    ⟨none, (some 20), .bin .eql (.t 18) (.t 19)⟩])
  (.cond (.t 20) (.seq (.region false [⟨none, (some 21), .mov (.t 5)⟩,
    ⟨none, (some 4), .mov (.t 21)⟩])
  .ret)
  .skip)))
  (.region false [⟨none, (some 11), .mov (.t 5)⟩,
    ⟨none, (some 12), .bin .add (.t 11) (.k (.int .i64 1))⟩,
    ⟨none, (some 5), .mov (.t 12)⟩])))
/-- 1:id 2:c 5:i -/
def a25S0 (x1 x2 x5 : DV) (h : List AObj) : St := ⟨[.junk, x1, x2, .junk, .junk, x5] ++ js 16, h⟩

def a25 : AFn where
  code := (.seq (.region false [⟨none, (some 2), .box (.t 0)⟩,
    ⟨none, (some 4), .mov (.k (.int .i64 0))⟩])
  (.seq (.seq (.region false [⟨none, (some 5), .mov (.k (.int .i64 0))⟩])
  (.block 0 (.loop a25L0)))
  (.seq (.region false [⟨none, (some 4), .mov (.k (.int .i64 (-1)))⟩])
  .ret)))
  ntmps := 22
  res := [.tmp 4]

theorem a25_ok : compileFn P Tryd.f25 = some a25 := by kernel_rfl

-- 76 admission/admissionref37.Copy
def a76 : AFn where
  code := (.seq (.region false [⟨none, (some 1), .box (.t 0)⟩,
    ⟨none, (some 2), .alloc [.nils, .nils, (.int .i64 0)]⟩])
  (.seq (.region true [⟨none, (some 3), .fld 0 (.t 1)⟩,
    ⟨none, (some 4), .load 1 false (.t 3)⟩,
    ⟨none, (some 5), .app 6 80 (.k .nils) (.t 4)⟩,
    ⟨none, (some 6), .fld 1 (.t 1)⟩,
    ⟨none, (some 7), .load 1 false (.t 6)⟩,
    ⟨none, (some 8), .app 37 72 (.k .nils) (.t 7)⟩,
    ⟨none, (some 9), .fld 2 (.t 1)⟩,
    ⟨none, (some 10), .load 1 false (.t 9)⟩,
    ⟨none, (some 11), .build [.nils, .nils, (.int .i64 0)] [(0, 1, (.t 5)), (1, 1, (.t 8)), (2, 1, (.t 10))]⟩,
    ⟨none, none, .store 3 (.t 2) (.t 11)⟩,
    ⟨none, none, .apart (.t 1) (.t 5)⟩,
    ⟨none, none, .apart (.t 6) (.t 5)⟩,
    ⟨none, none, .apart (.t 1) (.t 5)⟩,
    ⟨none, none, .apart (.t 9) (.t 5)⟩,
    ⟨none, none, .apart (.t 1) (.t 8)⟩,
    ⟨none, none, .apart (.t 9) (.t 8)⟩])
  .ret))
  ntmps := 12
  res := [.cell 2 3 true]

theorem a76_ok : compileFn P Tryd.f76 = some a76 := by kernel_rfl

-- 36 admission/admissionref37.Deploy
def a36 : AFn where
  code := (.seq (.region false [⟨none, (some 2), .box (.t 0)⟩,
    ⟨none, (some 3), .box (.t 1)⟩,
    ⟨none, (some 4), .alloc [.nils, .nils, (.int .i64 0)]⟩,
    ⟨none, (some 5), .mov (.k (.int .i64 0))⟩])
  (.seq (.seq (.region false [⟨none, (some 8), .load 3 true (.t 2)⟩,
    ⟨none, (some 9), .call (.k (.fn (.func 21) [] [])) [(.t 8)]⟩,
    ⟨none, (some 10), .un .not (.t 9)⟩,
    ⟨none, (some 11), .mov (.t 10)⟩,
    ⟨(some (11, false)), (some 12), .load 6 true (.t 3)⟩,
    ⟨(some (11, false)), (some 13), .call (.k (.fn (.func 19) [] [])) [(.t 12)]⟩,
    ⟨(some (11, false)), (some 14), .un .not (.t 13)⟩,
    ⟨none, (some 15), .pick (.t 11) (.k (.bool true)) (.t 14)⟩])
  (.cond (.t 15) (.seq (.region false [⟨none, (some 16), .build [.nils, .nils, (.int .i64 0)] []⟩,
    ⟨none, none, .store 3 (.t 4) (.t 16)⟩,
    ⟨none, (some 5), .mov (.k (.int .i64 1))⟩])
  .ret)
  .skip))
  (.seq (.region true [⟨none, (some 17), .load 3 true (.t 2)⟩,
    ⟨none, (some 18), .call (.k (.fn (.func 76) [] [])) [(.t 17)]⟩,
    ⟨none, (some 19), .load 3 true (.t 2)⟩,
    ⟨none, (some 20), .fld 0 (.t 3)⟩,
    ⟨none, (some 21), .load 1 false (.t 20)⟩,
    ⟨none, (some 22), .fld 1 (.t 3)⟩,
    ⟨none, (some 23), .load 1 false (.t 22)⟩,
    ⟨none, (some 24), .call (.k (.fn (.func 23) [] [])) [(.t 19), (.t 21), (.t 23)]⟩,
    ⟨none, (some 6), .alloc [.nils, .nils, (.int .i64 0)]⟩,
    ⟨none, none, .store 3 (.t 6) (.t 18)⟩,
    ⟨none, (some 7), .mov (.t 24)⟩])
  (.seq (.seq (.region false [⟨none, (some 25), .mov (.t 7)⟩,
    ⟨none, (some 26), .bin .geq (.t 25) (.k (.int .i64 0))⟩])
  (.cond (.t 26) (.seq (.region false [⟨none, (some 27), .fld 0 (.t 6)⟩,
    ⟨none, (some 28), .load 1 false (.t 27)⟩,
    ⟨none, (some 29), .mov (.t 7)⟩,
    ⟨none, (some 30), .load 6 true (.t 3)⟩,
    ⟨none, (some 31), .idxS 6 (.t 28) (.t 29)⟩,
    ⟨none, none, .store 6 (.t 31) (.t 30)⟩])
  (.seq (.region false [⟨none, (some 32), .load 3 true (.t 6)⟩,
    ⟨none, none, .store 3 (.t 4) (.t 32)⟩,
    ⟨none, (some 5), .mov (.k (.int .i64 0))⟩])
  .ret))
  .skip))
  (.seq (.seq (.region false [⟨none, (some 33), .fld 0 (.t 2)⟩,
    ⟨none, (some 34), .load 1 false (.t 33)⟩,
    ⟨none, (some 35), .len (.t 34)⟩,
    ⟨none, (some 36), .bin .geq (.t 35) (.k (.int .i64 16))⟩])
  (.cond (.t 36) (.seq (.region false [⟨none, (some 37), .build [.nils, .nils, (.int .i64 0)] []⟩,
    ⟨none, none, .store 3 (.t 4) (.t 37)⟩,
    ⟨none, (some 5), .mov (.k (.int .i64 3))⟩])
  .ret)
  .skip))
  (.seq (.region false [⟨none, (some 38), .fld 0 (.t 6)⟩,
    ⟨none, (some 39), .load 1 false (.t 38)⟩,
    ⟨none, (some 40), .load 6 true (.t 3)⟩,
    ⟨none, (some 41), .bsl 6 1 [(.str []), (.str []), (.int .i64 0), (.int .i64 0), (.int .i64 0), .nils] [(0, 6, (.t 40))]⟩,
    ⟨none, (some 42), .app 6 80 (.t 39) (.t 41)⟩,
    ⟨none, (some 43), .fld 0 (.t 6)⟩,
    ⟨none, none, .store 1 (.t 43) (.t 42)⟩])
  (.seq (.region false [⟨none, (some 44), .load 3 true (.t 6)⟩,
    ⟨none, none, .store 3 (.t 4) (.t 44)⟩,
    ⟨none, (some 5), .mov (.k (.int .i64 0))⟩])
  .ret)))))))
  ntmps := 45
  res := [.cell 4 3 true, .tmp 5]

theorem a36_ok : compileFn P Tryd.f36 = some a36 := by kernel_rfl

-- 37 admission/admissionref37.Start
def a37 : AFn where
  code := (.seq (.region false [⟨none, (some 4), .box (.t 0)⟩,
    ⟨none, (some 6), .box (.t 2)⟩,
    ⟨none, (some 8), .alloc [.nils, .nils, (.int .i64 0)]⟩,
    ⟨none, (some 9), .mov (.k (.int .i64 0))⟩,
    ⟨none, (some 10), .mov (.k (.int .i64 0))⟩])
  (.seq (.seq (.region false [⟨none, (some 12), .load 3 true (.t 4)⟩,
    ⟨none, (some 13), .call (.k (.fn (.func 21) [] [])) [(.t 12)]⟩,
    ⟨none, (some 14), .un .not (.t 13)⟩,
    ⟨none, (some 15), .mov (.t 14)⟩,
    ⟨(some (15, false)), (some 16), .load 32 true (.t 6)⟩,
    ⟨(some (15, false)), (some 17), .build (rep 32 (w8 0#8)) []⟩,
    ⟨(some (15, false)), (some 18), .eqa false [(32, 0)] (.t 16) (.t 17)⟩,
    ⟨none, (some 19), .pick (.t 15) (.k (.bool true)) (.t 18)⟩,
    ⟨none, (some 20), .mov (.t 19)⟩,
    ⟨(some (20, false)), (some 21), .mov (.t 3)⟩,
    ⟨(some (20, false)), (some 22), .call (.k (.fn (.func 77) [] [])) [(.t 21)]⟩,
    ⟨(some (20, false)), (some 23), .un .not (.t 22)⟩,
    ⟨none, (some 24), .pick (.t 20) (.k (.bool true)) (.t 23)⟩])
  (.cond (.t 24) (.seq (.region false [⟨none, (some 25), .build [.nils, .nils, (.int .i64 0)] []⟩,
    ⟨none, none, .store 3 (.t 8) (.t 25)⟩,
    ⟨none, (some 9), .mov (.k (.int .i64 0))⟩,
    ⟨none, (some 10), .mov (.k (.int .i64 1))⟩])
  .ret)
  .skip))
  (.seq (.seq (.region false [⟨none, (some 26), .mov (.t 1)⟩,
    ⟨none, (some 27), .bin .lss (.t 26) (.k (.int .i64 0))⟩,
    ⟨none, (some 28), .mov (.t 27)⟩,
    ⟨(some (28, false)), (some 29), .mov (.t 1)⟩,
    ⟨(some (28, false)), (some 30), .fld 0 (.t 4)⟩,
    ⟨(some (28, false)), (some 31), .load 1 false (.t 30)⟩,
    ⟨(some (28, false)), (some 32), .len (.t 31)⟩,
    ⟨(some (28, false)), (some 33), .bin .geq (.t 29) (.t 32)⟩,
    ⟨none, (some 34), .pick (.t 28) (.k (.bool true)) (.t 33)⟩])
  (.cond (.t 34) (.seq (.region false [⟨none, (some 35), .build [.nils, .nils, (.int .i64 0)] []⟩,
    ⟨none, none, .store 3 (.t 8) (.t 35)⟩,
    ⟨none, (some 9), .mov (.k (.int .i64 0))⟩,
    ⟨none, (some 10), .mov (.k (.int .i64 4))⟩])
  .ret)
  .skip))
  (.seq (.seq (.region false [⟨none, (some 36), .fld 1 (.t 4)⟩,
    ⟨none, (some 37), .load 1 false (.t 36)⟩,
    ⟨none, (some 38), .len (.t 37)⟩,
    ⟨none, (some 39), .bin .geq (.t 38) (.k (.int .i64 200))⟩,
    ⟨none, (some 40), .mov (.t 39)⟩,
    ⟨(some (40, false)), (some 41), .fld 2 (.t 4)⟩,
    ⟨(some (40, false)), (some 42), .load 1 false (.t 41)⟩,
    ⟨(some (40, false)), (some 43), .bin .eql (.t 42) (.k (.int .i64 1099511627776))⟩,
    ⟨none, (some 44), .pick (.t 40) (.k (.bool true)) (.t 43)⟩])
  (.cond (.t 44) (.seq (.region false [⟨none, (some 45), .build [.nils, .nils, (.int .i64 0)] []⟩,
    ⟨none, none, .store 3 (.t 8) (.t 45)⟩,
    ⟨none, (some 9), .mov (.k (.int .i64 0))⟩,
    ⟨none, (some 10), .mov (.k (.int .i64 3))⟩])
  .ret)
  .skip))
  (.seq (.region false [⟨none, (some 46), .load 3 true (.t 4)⟩,
    ⟨none, (some 47), .call (.k (.fn (.func 76) [] [])) [(.t 46)]⟩,
    ⟨none, (some 11), .alloc [.nils, .nils, (.int .i64 0)]⟩,
    ⟨none, none, .store 3 (.t 11) (.t 47)⟩])
  (.seq (.region false [⟨none, (some 48), .fld 1 (.t 11)⟩,
    ⟨none, (some 49), .load 1 false (.t 48)⟩,
    ⟨none, (some 50), .fld 2 (.t 4)⟩,
    ⟨none, (some 51), .load 1 false (.t 50)⟩,
    ⟨none, (some 52), .mov (.t 1)⟩,
    ⟨none, (some 53), .load 32 true (.t 6)⟩,
    ⟨none, (some 54), .mov (.t 3)⟩,
    ⟨none, (some 55), .build [(.int .i64 0), (.int .i64 0), (w8 0#8), (w8 0#8), (w8 0#8), (w8 0#8), (w8 0#8), (w8 0#8), (w8 0#8), (w8 0#8), (w8 0#8), (w8 0#8), (w8 0#8), (w8 0#8), (w8 0#8), (w8 0#8), (w8 0#8), (w8 0#8), (w8 0#8), (w8 0#8), (w8 0#8), (w8 0#8), (w8 0#8), (w8 0#8), (w8 0#8), (w8 0#8), (w8 0#8), (w8 0#8), (w8 0#8), (w8 0#8), (w8 0#8), (w8 0#8), (w8 0#8), (w8 0#8), (.int .i64 0), (.int .i64 0), (.int .i64 0)] [(0, 1, (.t 51)), (1, 1, (.t 52)), (2, 32, (.t 53)), (34, 1, (.k (.int .i64 1))), (35, 1, (.t 54)), (36, 1, (.k (.int .i64 (-1))))]⟩,
    ⟨none, (some 56), .bsl 37 1 [(.int .i64 0), (.int .i64 0), (w8 0#8), (w8 0#8), (w8 0#8), (w8 0#8), (w8 0#8), (w8 0#8), (w8 0#8), (w8 0#8), (w8 0#8), (w8 0#8), (w8 0#8), (w8 0#8), (w8 0#8), (w8 0#8), (w8 0#8), (w8 0#8), (w8 0#8), (w8 0#8), (w8 0#8), (w8 0#8), (w8 0#8), (w8 0#8), (w8 0#8), (w8 0#8), (w8 0#8), (w8 0#8), (w8 0#8), (w8 0#8), (w8 0#8), (w8 0#8), (w8 0#8), (w8 0#8), (.int .i64 0), (.int .i64 0), (.int .i64 0)] [(0, 37, (.t 55))]⟩,
    ⟨none, (some 57), .app 37 72 (.t 49) (.t 56)⟩,
    ⟨none, (some 58), .fld 1 (.t 11)⟩,
    ⟨none, none, .store 1 (.t 58) (.t 57)⟩])
  (.seq (.region false [⟨none, (some 59), .fld 2 (.t 11)⟩,
    ⟨none, (some 60), .load 1 false (.t 59)⟩,
    ⟨none, (some 61), .bin .add (.t 60) (.k (.int .i64 1))⟩,
    ⟨none, (some 62), .fld 2 (.t 11)⟩,
    ⟨none, none, .store 1 (.t 62) (.t 61)⟩])
  (.seq (.region true [⟨none, (some 63), .load 3 true (.t 11)⟩,
    ⟨none, (some 64), .fld 2 (.t 4)⟩,
    ⟨none, (some 65), .load 1 false (.t 64)⟩,
    ⟨none, none, .store 3 (.t 8) (.t 63)⟩,
    ⟨none, (some 9), .mov (.t 65)⟩,
    ⟨none, (some 10), .mov (.k (.int .i64 0))⟩,
    ⟨none, none, .apart (.t 4) (.t 8)⟩,
    ⟨none, none, .apart (.t 64) (.t 8)⟩])
  .ret))))))))
  ntmps := 66
  res := [.cell 8 3 true, .tmp 9, .tmp 10]

theorem a37_ok : compileFn P Tryd.f37 = some a37 := by kernel_rfl

-- 80 admission/admissionref37.change
def a80 : AFn where
  code := (.seq (.region false [⟨none, (some 6), .box (.t 0)⟩,
    ⟨none, (some 12), .alloc [.nils, .nils, (.int .i64 0)]⟩,
    ⟨none, (some 13), .mov (.k (.int .i64 0))⟩])
  (.seq (.seq (.region false [⟨none, (some 17), .load 3 true (.t 6)⟩,
    ⟨none, (some 18), .call (.k (.fn (.func 21) [] [])) [(.t 17)]⟩,
    ⟨none, (some 19), .un .not (.t 18)⟩,
    ⟨none, (some 20), .mov (.t 19)⟩,
    ⟨(some (20, false)), (some 21), .mov (.t 2)⟩,
    ⟨(some (20, false)), (some 22), .call (.k (.fn (.func 77) [] [])) [(.t 21)]⟩,
    ⟨(some (20, false)), (some 23), .un .not (.t 22)⟩,
    ⟨none, (some 24), .pick (.t 20) (.k (.bool true)) (.t 23)⟩])
  (.cond (.t 24) (.seq (.region false [⟨none, (some 25), .build [.nils, .nils, (.int .i64 0)] []⟩,
    ⟨none, none, .store 3 (.t 12) (.t 25)⟩,
    ⟨none, (some 13), .mov (.k (.int .i64 1))⟩])
  .ret)
  .skip))
  (.seq (.region false [⟨none, (some 26), .load 3 true (.t 6)⟩,
    ⟨none, (some 27), .mov (.t 1)⟩,
    ⟨none, (some 28), .call (.k (.fn (.func 25) [] [])) [(.t 26), (.t 27)]⟩,
    ⟨none, (some 14), .mov (.t 28)⟩])
  (.seq (.seq (.region false [⟨none, (some 29), .mov (.t 14)⟩,
    ⟨none, (some 30), .bin .lss (.t 29) (.k (.int .i64 0))⟩])
  (.cond (.t 30) (.seq (.region false [⟨none, (some 31), .build [.nils, .nils, (.int .i64 0)] []⟩,
    ⟨none, none, .store 3 (.t 12) (.t 31)⟩,
    ⟨none, (some 13), .mov (.k (.int .i64 4))⟩])
  .ret)
  .skip))
  (.seq (.seq (.region false [⟨none, (some 32), .fld 1 (.t 6)⟩,
    ⟨none, (some 33), .load 1 false (.t 32)⟩,
    ⟨none, (some 34), .mov (.t 14)⟩,
    ⟨none, (some 35), .idxS 37 (.t 33) (.t 34)⟩,
    ⟨none, (some 36), .fld 34 (.t 35)⟩,
    ⟨none, (some 37), .load 1 false (.t 36)⟩,
    ⟨none, (some 15), .mov (.t 37)⟩])
  (.seq (.region false [⟨none, (some 38), .mov (.t 15)⟩,
    ⟨none, (some 39), .mov (.t 3)⟩,
    ⟨none, (some 40), .bin .neq (.t 38) (.t 39)⟩,
    ⟨none, (some 41), .mov (.t 40)⟩,
    ⟨(some (41, true)), (some 42), .mov (.t 15)⟩,
    ⟨(some (41, true)), (some 43), .mov (.t 4)⟩,
    ⟨(some (41, true)), (some 44), .bin .neq (.t 42) (.t 43)⟩,
    ⟨none, (some 45), .pick (.t 41) (.t 44) (.k (.bool false))⟩])
  (.cond (.t 45) (.seq (.region false [⟨none, (some 46), .build [.nils, .nils, (.int .i64 0)] []⟩,
    ⟨none, none, .store 3 (.t 12) (.t 46)⟩,
    ⟨none, (some 13), .mov (.k (.int .i64 30))⟩])
  .ret)
  .skip)))
  (.seq (.region false [⟨none, (some 47), .load 3 true (.t 6)⟩,
    ⟨none, (some 48), .call (.k (.fn (.func 76) [] [])) [(.t 47)]⟩,
    ⟨none, (some 16), .alloc [.nils, .nils, (.int .i64 0)]⟩,
    ⟨none, none, .store 3 (.t 16) (.t 48)⟩])
  (.seq (.region true [⟨none, (some 49), .fld 1 (.t 16)⟩,
    ⟨none, (some 50), .load 1 false (.t 49)⟩,
    ⟨none, (some 51), .mov (.t 14)⟩,
    ⟨none, (some 52), .fld 1 (.t 16)⟩,
    ⟨none, (some 53), .load 1 false (.t 52)⟩,
    ⟨none, (some 54), .mov (.t 14)⟩,
    ⟨none, (some 55), .mov (.t 5)⟩,
    ⟨none, (some 56), .mov (.t 2)⟩,
    ⟨none, (some 57), .idxS 37 (.t 50) (.t 51)⟩,
    ⟨none, (some 58), .fld 34 (.t 57)⟩,
    ⟨none, none, .store 1 (.t 58) (.t 55)⟩,
    ⟨none, (some 59), .idxS 37 (.t 53) (.t 54)⟩,
    ⟨none, (some 60), .fld 35 (.t 59)⟩,
    ⟨none, none, .store 1 (.t 60) (.t 56)⟩,
    ⟨none, none, .apart (.t 16) (.t 58)⟩,
    ⟨none, none, .apart (.t 52) (.t 58)⟩])
  (.seq (.region false [⟨none, (some 61), .load 3 true (.t 16)⟩,
    ⟨none, none, .store 3 (.t 12) (.t 61)⟩,
    ⟨none, (some 13), .mov (.k (.int .i64 0))⟩])
  .ret))))))))
  ntmps := 62
  res := [.cell 12 3 true, .tmp 13]

theorem a80_ok : compileFn P Tryd.f80 = some a80 := by kernel_rfl

-- 39 admission/admissionref37.Started
def a39 : AFn where
  code := (.seq (.region false [⟨none, (some 3), .box (.t 0)⟩,
    ⟨none, (some 6), .alloc [.nils, .nils, (.int .i64 0)]⟩,
    ⟨none, (some 7), .mov (.k (.int .i64 0))⟩])
  (.seq (.region false [⟨none, (some 8), .load 3 true (.t 3)⟩,
    ⟨none, (some 9), .mov (.t 1)⟩,
    ⟨none, (some 10), .mov (.t 2)⟩,
    ⟨none, (some 11), .call (.k (.fn (.func 80) [] [])) [(.t 8), (.t 9), (.t 10), (.k (.int .i64 1)), (.k (.int .i64 1)), (.k (.int .i64 2))]⟩,
    ⟨none, (some 12), .ext (.t 11) 0⟩,
    ⟨none, (some 13), .ext (.t 11) 1⟩,
    ⟨none, none, .store 3 (.t 6) (.t 12)⟩,
    ⟨none, (some 7), .mov (.t 13)⟩])
  .ret))
  ntmps := 14
  res := [.cell 6 3 true, .tmp 7]

theorem a39_ok : compileFn P Tryd.f39 = some a39 := by kernel_rfl

-- 41 admission/admissionref37.Stop
def a41 : AFn where
  code := (.seq (.region false [⟨none, (some 3), .box (.t 0)⟩,
    ⟨none, (some 6), .alloc [.nils, .nils, (.int .i64 0)]⟩,
    ⟨none, (some 7), .mov (.k (.int .i64 0))⟩])
  (.seq (.region false [⟨none, (some 8), .load 3 true (.t 3)⟩,
    ⟨none, (some 9), .mov (.t 1)⟩,
    ⟨none, (some 10), .mov (.t 2)⟩,
    ⟨none, (some 11), .call (.k (.fn (.func 80) [] [])) [(.t 8), (.t 9), (.t 10), (.k (.int .i64 1)), (.k (.int .i64 2)), (.k (.int .i64 3))]⟩,
    ⟨none, (some 12), .ext (.t 11) 0⟩,
    ⟨none, (some 13), .ext (.t 11) 1⟩,
    ⟨none, none, .store 3 (.t 6) (.t 12)⟩,
    ⟨none, (some 7), .mov (.t 13)⟩])
  .ret))
  ntmps := 14
  res := [.cell 6 3 true, .tmp 7]

theorem a41_ok : compileFn P Tryd.f41 = some a41 := by kernel_rfl

-- 42 admission/admissionref37.Remove
def a42 : AFn where
  code := (.seq (.region false [⟨none, (some 2), .box (.t 0)⟩,
    ⟨none, (some 4), .alloc [.nils, .nils, (.int .i64 0)]⟩,
    ⟨none, (some 5), .mov (.k (.int .i64 0))⟩])
  (.seq (.seq (.region false [⟨none, (some 8), .load 3 true (.t 2)⟩,
    ⟨none, (some 9), .call (.k (.fn (.func 21) [] [])) [(.t 8)]⟩,
    ⟨none, (some 10), .un .not (.t 9)⟩])
  (.cond (.t 10) (.seq (.region false [⟨none, (some 11), .build [.nils, .nils, (.int .i64 0)] []⟩,
    ⟨none, none, .store 3 (.t 4) (.t 11)⟩,
    ⟨none, (some 5), .mov (.k (.int .i64 1))⟩])
  .ret)
  .skip))
  (.seq (.region false [⟨none, (some 12), .load 3 true (.t 2)⟩,
    ⟨none, (some 13), .mov (.t 1)⟩,
    ⟨none, (some 14), .call (.k (.fn (.func 25) [] [])) [(.t 12), (.t 13)]⟩,
    ⟨none, (some 6), .mov (.t 14)⟩])
  (.seq (.seq (.region false [⟨none, (some 15), .mov (.t 6)⟩,
    ⟨none, (some 16), .bin .lss (.t 15) (.k (.int .i64 0))⟩])
  (.cond (.t 16) (.seq (.region false [⟨none, (some 17), .build [.nils, .nils, (.int .i64 0)] []⟩,
    ⟨none, none, .store 3 (.t 4) (.t 17)⟩,
    ⟨none, (some 5), .mov (.k (.int .i64 4))⟩])
  .ret)
  .skip))
  (.seq (.region false [⟨none, (some 18), .load 3 true (.t 2)⟩,
    ⟨none, (some 19), .call (.k (.fn (.func 76) [] [])) [(.t 18)]⟩,
    ⟨none, (some 7), .alloc [.nils, .nils, (.int .i64 0)]⟩,
    ⟨none, none, .store 3 (.t 7) (.t 19)⟩])
  (.seq (.region true [⟨none, (some 20), .fld 1 (.t 2)⟩,
    ⟨none, (some 21), .load 1 false (.t 20)⟩,
    ⟨none, (some 22), .mov (.t 6)⟩,
    ⟨none, (some 23), .slcS 37 (.t 21) none (some (.t 22)) none⟩,
    ⟨none, (some 24), .app 37 72 (.k .nils) (.t 23)⟩,
    ⟨none, (some 25), .fld 1 (.t 2)⟩,
    ⟨none, (some 26), .load 1 false (.t 25)⟩,
    ⟨none, (some 27), .mov (.t 6)⟩,
    ⟨none, (some 28), .bin .add (.t 27) (.k (.int .i64 1))⟩,
    ⟨none, (some 29), .slcS 37 (.t 26) (some (.t 28)) none none⟩,
    ⟨none, (some 30), .app 37 72 (.t 24) (.t 29)⟩,
    ⟨none, (some 31), .fld 1 (.t 7)⟩,
    ⟨none, none, .store 1 (.t 31) (.t 30)⟩,
    ⟨none, none, .apart (.t 2) (.t 24)⟩,
    ⟨none, none, .apart (.t 25) (.t 24)⟩,
    ⟨none, none, .apart (.t 26) (.t 24)⟩])
  (.seq (.region false [⟨none, (some 32), .load 3 true (.t 7)⟩,
    ⟨none, none, .store 3 (.t 4) (.t 32)⟩,
    ⟨none, (some 5), .mov (.k (.int .i64 0))⟩])
  .ret)))))))
  ntmps := 33
  res := [.cell 4 3 true, .tmp 5]

theorem a42_ok : compileFn P Tryd.f42 = some a42 := by kernel_rfl

-- 43 admission/admissionref37.Mark
def a43L0 : ACode :=
  (.seq (.seq (.region false [⟨none, (some 20), .mov (.t 8)⟩,
    ⟨none, (some 21), .fld 1 (.t 7)⟩,
    ⟨none, (some 22), .load 1 false (.t 21)⟩,
    ⟨none, (some 23), .len (.t 22)⟩,
    ⟨none, (some 24), .bin .lss (.t 20) (.t 23)⟩])
  (.cond (.t 24) .skip
  (.exit 0)))
  (.seq (.block 1 (.seq (.region false [⟨none, (some 27), .mov (.t 8)⟩,
    ⟨none, (some 28), .mov (.t 1)⟩,
    ⟨none, (some 29), .len (.t 28)⟩,
    ⟨none, (some 30), .bin .geq (.t 27) (.t 29)⟩,
    ⟨none, (some 31), .mov (.t 30)⟩,
    ⟨(some (31, false)), (some 32), .mov (.t 1)⟩,
    ⟨(some (31, false)), (some 33), .mov (.t 8)⟩,
    ⟨(some (31, false)), (some 34), .idxS 1 (.t 32) (.t 33)⟩,
    ⟨(some (31, false)), (some 35), .load 1 false (.t 34)⟩,
    ⟨(some (31, false)), (some 36), .un .not (.t 35)⟩,
    ⟨none, (some 37), .pick (.t 31) (.k (.bool true)) (.t 36)⟩])
  (.cond (.t 37) (.region false [⟨none, (some 38), .fld 1 (.t 7)⟩,
    ⟨none, (some 39), .load 1 false (.t 38)⟩,
    ⟨none, (some 40), .mov (.t 8)⟩,
    ⟨none, (some 41), .idxS 37 (.t 39) (.t 40)⟩,
    ⟨none, (some 42), .fld 36 (.t 41)⟩,
    ⟨none, none, .store 1 (.t 42) (.k (.int .i64 (-1)))⟩])
  (.seq (.region false [⟨none, (some 43), .fld 1 (.t 7)⟩,
    ⟨none, (some 44), .load 1 false (.t 43)⟩,
    ⟨none, (some 45), .mov (.t 8)⟩,
    ⟨none, (some 46), .idxS 37 (.t 44) (.t 45)⟩,
    ⟨none, (some 47), .fld 36 (.t 46)⟩,
    ⟨none, (some 48), .load 1 false (.t 47)⟩,
    ⟨none, (some 49), .bin .eql (.t 48) (.k (.int .i64 (-1)))⟩])
  (.cond (.t 49) (.region false [⟨none, (some 50), .fld 1 (.t 7)⟩,
    ⟨none, (some 51), .load 1 false (.t 50)⟩,
    ⟨none, (some 52), .mov (.t 8)⟩,
    ⟨none, (some 53), .mov (.t 2)⟩,
    ⟨none, (some 54), .idxS 37 (.t 51) (.t 52)⟩,
    ⟨none, (some 55), .fld 36 (.t 54)⟩,
    ⟨none, none, .store 1 (.t 55) (.t 53)⟩])
  .skip)))))
  (.region false [⟨none, (some 25), .mov (.t 8)⟩,
    ⟨none, (some 26), .bin .add (.t 25) (.k (.int .i64 1))⟩,
    ⟨none, (some 8), .mov (.t 26)⟩])))
/-- 1:denied 2:t 6: 7:out 8:i -/
def a43S0 (x1 x2 x6 x7 x8 : DV) (h : List AObj) : St := ⟨[.junk, x1, x2, .junk, .junk, .junk, x6, x7, x8] ++ js 48, h⟩

def a43 : AFn where
  code := (.seq (.region false [⟨none, (some 3), .box (.t 0)⟩,
    ⟨none, (some 6), .alloc [.nils, .nils, (.int .i64 0)]⟩])
  (.seq (.seq (.region false [⟨none, (some 9), .load 3 true (.t 3)⟩,
    ⟨none, (some 10), .call (.k (.fn (.func 21) [] [])) [(.t 9)]⟩,
    ⟨none, (some 11), .un .not (.t 10)⟩,
    ⟨none, (some 12), .mov (.t 11)⟩,
    ⟨(some (12, false)), (some 13), .mov (.t 2)⟩,
    ⟨(some (12, false)), (some 14), .call (.k (.fn (.func 77) [] [])) [(.t 13)]⟩,
    ⟨(some (12, false)), (some 15), .un .not (.t 14)⟩,
    ⟨none, (some 16), .pick (.t 12) (.k (.bool true)) (.t 15)⟩])
  (.cond (.t 16) (.seq (.region false [⟨none, (some 17), .load 3 true (.t 3)⟩,
    ⟨none, none, .store 3 (.t 6) (.t 17)⟩])
  .ret)
  .skip))
  (.seq (.region false [⟨none, (some 18), .load 3 true (.t 3)⟩,
    ⟨none, (some 19), .call (.k (.fn (.func 76) [] [])) [(.t 18)]⟩,
    ⟨none, (some 7), .alloc [.nils, .nils, (.int .i64 0)]⟩,
    ⟨none, none, .store 3 (.t 7) (.t 19)⟩])
  (.seq (.seq (.region false [⟨none, (some 8), .mov (.k (.int .i64 0))⟩])
  (.block 0 (.loop a43L0)))
  (.seq (.region false [⟨none, (some 56), .load 3 true (.t 7)⟩,
    ⟨none, none, .store 3 (.t 6) (.t 56)⟩])
  .ret)))))
  ntmps := 57
  res := [.cell 6 3 true]

theorem a43_ok : compileFn P Tryd.f43 = some a43 := by kernel_rfl

-- 82 admission/admissionref37.SameGroup
def a82 : AFn where
  code := (.seq (.region false [⟨none, (some 2), .box (.t 0)⟩,
    ⟨none, (some 3), .box (.t 1)⟩,
    ⟨none, (some 4), .mov (.k (.bool false))⟩])
  (.seq (.region false [⟨none, (some 5), .fld 0 (.t 2)⟩,
    ⟨none, (some 6), .load 1 false (.t 5)⟩,
    ⟨none, (some 7), .fld 0 (.t 3)⟩,
    ⟨none, (some 8), .load 1 false (.t 7)⟩,
    ⟨none, (some 9), .bin .eql (.t 6) (.t 8)⟩,
    ⟨none, (some 10), .mov (.t 9)⟩,
    ⟨(some (10, true)), (some 11), .fld 1 (.t 2)⟩,
    ⟨(some (10, true)), (some 12), .load 1 false (.t 11)⟩,
    ⟨(some (10, true)), (some 13), .fld 1 (.t 3)⟩,
    ⟨(some (10, true)), (some 14), .load 1 false (.t 13)⟩,
    ⟨(some (10, true)), (some 15), .bin .eql (.t 12) (.t 14)⟩,
    ⟨none, (some 16), .pick (.t 10) (.t 15) (.k (.bool false))⟩,
    ⟨none, (some 17), .mov (.t 16)⟩,
    ⟨(some (17, true)), (some 18), .fld 2 (.t 2)⟩,
    ⟨(some (17, true)), (some 19), .load 1 false (.t 18)⟩,
    ⟨(some (17, true)), (some 20), .fld 2 (.t 3)⟩,
    ⟨(some (17, true)), (some 21), .load 1 false (.t 20)⟩,
    ⟨(some (17, true)), (some 22), .bin .eql (.t 19) (.t 21)⟩,
    ⟨none, (some 23), .pick (.t 17) (.t 22) (.k (.bool false))⟩,
    ⟨none, (some 24), .mov (.t 23)⟩,
    ⟨(some (24, true)), (some 25), .fld 3 (.t 2)⟩,
    ⟨(some (24, true)), (some 26), .load 1 false (.t 25)⟩,
    ⟨(some (24, true)), (some 27), .fld 3 (.t 3)⟩,
    ⟨(some (24, true)), (some 28), .load 1 false (.t 27)⟩,
    ⟨(some (24, true)), (some 29), .bin .eql (.t 26) (.t 28)⟩,
    ⟨none, (some 30), .pick (.t 24) (.t 29) (.k (.bool false))⟩,
    ⟨none, (some 31), .mov (.t 30)⟩,
    ⟨(some (31, true)), (some 32), .fld 4 (.t 2)⟩,
    ⟨(some (31, true)), (some 33), .load 1 false (.t 32)⟩,
    ⟨(some (31, true)), (some 34), .fld 4 (.t 3)⟩,
    ⟨(some (31, true)), (some 35), .load 1 false (.t 34)⟩,
    ⟨(some (31, true)), (some 36), .bin .eql (.t 33) (.t 35)⟩,
    ⟨none, (some 37), .pick (.t 31) (.t 36) (.k (.bool false))⟩,
    ⟨none, (some 38), .mov (.t 37)⟩,
    ⟨(some (38, true)), (some 39), .fld 5 (.t 2)⟩,
    ⟨(some (38, true)), (some 40), .load 1 false (.t 39)⟩,
    ⟨(some (38, true)), (some 41), .fld 5 (.t 3)⟩,
    ⟨(some (38, true)), (some 42), .load 1 false (.t 41)⟩,
    ⟨(some (38, true)), (some 43), .call (.k (.fn (.func 107) [] [])) [(.t 40), (.t 42)]⟩,
    ⟨none, (some 44), .pick (.t 38) (.t 43) (.k (.bool false))⟩,
    ⟨none, (some 4), .mov (.t 44)⟩])
  .ret))
  ntmps := 45
  res := [.tmp 4]

theorem a82_ok : compileFn P Tryd.f82 = some a82 := by kernel_rfl

-- 44 admission/admissionref37.Same
def a44L0 : ACode :=
  (.seq (.seq (.region false [⟨none, (some 30), .mov (.t 5)⟩,
    ⟨none, (some 31), .fld 0 (.t 2)⟩,
    ⟨none, (some 32), .load 1 false (.t 31)⟩,
    ⟨none, (some 33), .len (.t 32)⟩,
    ⟨none, (some 34), .bin .lss (.t 30) (.t 33)⟩])
  (.cond (.t 34) .skip
  (.exit 0)))
  (.seq (.block 1 (.seq (.region true [⟨none, (some 37), .fld 0 (.t 2)⟩,
    ⟨none, (some 38), .load 1 false (.t 37)⟩,
    ⟨none, (some 39), .mov (.t 5)⟩,
    ⟨none, (some 40), .idxS 6 (.t 38) (.t 39)⟩,
    ⟨none, (some 41), .load 6 true (.t 40)⟩,
    ⟨none, (some 42), .fld 0 (.t 3)⟩,
    ⟨none, (some 43), .load 1 false (.t 42)⟩,
    ⟨none, (some 44), .mov (.t 5)⟩,
    ⟨none, (some 45), .idxS 6 (.t 43) (.t 44)⟩,
    ⟨none, (some 46), .load 6 true (.t 45)⟩,
    ⟨none, (some 47), .callN (.k (.fn (.func 82) [] [])) [(.t 41), (.t 46)]⟩,
    ⟨none, (some 48), .un .not (.t 47)⟩])
  (.cond (.t 48) (.seq (.region false [⟨none, (some 4), .mov (.k (.bool false))⟩])
  .ret)
  .skip)))
  (.region false [⟨none, (some 35), .mov (.t 5)⟩,
    ⟨none, (some 36), .bin .add (.t 35) (.k (.int .i64 1))⟩,
    ⟨none, (some 5), .mov (.t 36)⟩])))
/-- 2:a 3:b 5:i -/
def a44S0 (x2 x3 x5 : DV) (h : List AObj) : St := ⟨[.junk, .junk, x2, x3, .junk, x5] ++ js 61, h⟩

def a44L1 : ACode :=
  (.seq (.seq (.region false [⟨none, (some 49), .mov (.t 6)⟩,
    ⟨none, (some 50), .fld 1 (.t 2)⟩,
    ⟨none, (some 51), .load 1 false (.t 50)⟩,
    ⟨none, (some 52), .len (.t 51)⟩,
    ⟨none, (some 53), .bin .lss (.t 49) (.t 52)⟩])
  (.cond (.t 53) .skip
  (.exit 2)))
  (.seq (.block 3 (.seq (.region true [⟨none, (some 56), .fld 1 (.t 2)⟩,
    ⟨none, (some 57), .load 1 false (.t 56)⟩,
    ⟨none, (some 58), .mov (.t 6)⟩,
    ⟨none, (some 59), .idxS 37 (.t 57) (.t 58)⟩,
    ⟨none, (some 60), .load 37 true (.t 59)⟩,
    ⟨none, (some 61), .fld 1 (.t 3)⟩,
    ⟨none, (some 62), .load 1 false (.t 61)⟩,
    ⟨none, (some 63), .mov (.t 6)⟩,
    ⟨none, (some 64), .idxS 37 (.t 62) (.t 63)⟩,
    ⟨none, (some 65), .load 37 true (.t 64)⟩,
    ⟨none, (some 66), .eqa true [(37, 0)] (.t 60) (.t 65)⟩])
  (.cond (.t 66) (.seq (.region false [⟨none, (some 4), .mov (.k (.bool false))⟩])
  .ret)
  .skip)))
  (.region false [⟨none, (some 54), .mov (.t 6)⟩,
    ⟨none, (some 55), .bin .add (.t 54) (.k (.int .i64 1))⟩,
    ⟨none, (some 6), .mov (.t 55)⟩])))
/-- 2:a 3:b 6:i -/
def a44S1 (x2 x3 x6 : DV) (h : List AObj) : St := ⟨[.junk, .junk, x2, x3, .junk, .junk, x6] ++ js 60, h⟩

def a44 : AFn where
  code := (.seq (.region false [⟨none, (some 2), .box (.t 0)⟩,
    ⟨none, (some 3), .box (.t 1)⟩,
    ⟨none, (some 4), .mov (.k (.bool false))⟩])
  (.seq (.seq (.region false [⟨none, (some 7), .fld 0 (.t 2)⟩,
    ⟨none, (some 8), .load 1 false (.t 7)⟩,
    ⟨none, (some 9), .len (.t 8)⟩,
    ⟨none, (some 10), .fld 0 (.t 3)⟩,
    ⟨none, (some 11), .load 1 false (.t 10)⟩,
    ⟨none, (some 12), .len (.t 11)⟩,
    ⟨none, (some 13), .bin .neq (.t 9) (.t 12)⟩,
    ⟨none, (some 14), .mov (.t 13)⟩,
    ⟨(some (14, false)), (some 15), .fld 1 (.t 2)⟩,
    ⟨(some (14, false)), (some 16), .load 1 false (.t 15)⟩,
    ⟨(some (14, false)), (some 17), .len (.t 16)⟩,
    ⟨(some (14, false)), (some 18), .fld 1 (.t 3)⟩,
    ⟨(some (14, false)), (some 19), .load 1 false (.t 18)⟩,
    ⟨(some (14, false)), (some 20), .len (.t 19)⟩,
    ⟨(some (14, false)), (some 21), .bin .neq (.t 17) (.t 20)⟩,
    ⟨none, (some 22), .pick (.t 14) (.k (.bool true)) (.t 21)⟩,
    ⟨none, (some 23), .mov (.t 22)⟩,
    ⟨(some (23, false)), (some 24), .fld 2 (.t 2)⟩,
    ⟨(some (23, false)), (some 25), .load 1 false (.t 24)⟩,
    ⟨(some (23, false)), (some 26), .fld 2 (.t 3)⟩,
    ⟨(some (23, false)), (some 27), .load 1 false (.t 26)⟩,
    ⟨(some (23, false)), (some 28), .bin .neq (.t 25) (.t 27)⟩,
    ⟨none, (some 29), .pick (.t 23) (.k (.bool true)) (.t 28)⟩])
  (.cond (.t 29) (.seq (.region false [⟨none, (some 4), .mov (.k (.bool false))⟩])
  .ret)
  .skip))
  (.seq (.seq (.region false [⟨none, (some 5), .mov (.k (.int .i64 0))⟩])
  (.block 0 (.loop a44L0)))
  (.seq (.seq (.region false [⟨none, (some 6), .mov (.k (.int .i64 0))⟩])
  (.block 2 (.loop a44L1)))
  (.seq (.region false [⟨none, (some 4), .mov (.k (.bool true))⟩])
  .ret)))))
  ntmps := 67
  res := [.tmp 4]

theorem a44_ok : compileFn P Tryd.f44 = some a44 := by kernel_rfl

end Go.Proofs.YtjhakjeioppijaaDoor
