/-
  Functions of this claim, as the abstract machine has them. MADE BY A PROGRAM of mine.
-/
import Derived.Test.YthkcgeokfcbllaaAmW
import Derived.Test.YthkcgeokfcbllaaFa
set_option linter.unusedSimpArgs false
set_option linter.unusedVariables false
namespace Go.Proofs.Ythkcgeokfcbllaa
open Go Go.Am
-- 50 admission/onetime.base4
def a50 : AFn where
  code := (.seq (.region false [⟨none, (some 1), .box (.t 0)⟩,
    ⟨none, (some 2), .mov (.k .nilf)⟩])
  (.seq (.region false [⟨none, (some 3), .mkf (.func 62) [] [(.t 1)]⟩,
    ⟨none, (some 2), .mov (.t 3)⟩])
  .ret))
  ntmps := 4
  res := [.tmp 2]

theorem a50_ok : compileFn P Try.f50 = some a50 := by kernel_rfl

-- 16 admission/onetime.Digits
def a16L0 : ACode :=
  (.seq (.region false [⟨none, (some 13), .bin .lss (.t 12) (.t 11)⟩])
  (.seq (.cond (.t 13) .skip
  (.exit 0))
  (.seq (.block 1 (.seq (.region false [⟨none, (some 14), .idxS 1 (.t 10) (.t 12)⟩,
    ⟨none, (some 15), .load 1 false (.t 14)⟩,
    ⟨none, (some 6), .mov (.t 15)⟩])
  (.seq (.region false [⟨none, (some 16), .mov (.t 6)⟩,
    ⟨none, (some 17), .call (.k (.fn (.func 50) [] [])) [(.t 16)]⟩])
  (.block 2 (.rangeF (.t 17) 18 7 (.block 3 (.seq (.region false [⟨none, (some 19), .load 1 false (.t 3)⟩,
    ⟨none, (some 20), .mov (.t 7)⟩,
    ⟨none, (some 21), .bsl 1 1 [(.int .i64 0)] [(0, 1, (.t 20))]⟩,
    ⟨none, (some 22), .app 1 8 (.t 19) (.t 21)⟩,
    ⟨none, none, .store 1 (.t 3) (.t 22)⟩])
  (.region false [⟨none, (some 23), .load 1 false (.t 4)⟩,
    ⟨none, (some 24), .mov (.t 7)⟩,
    ⟨none, (some 25), .bin .sub (.k (.int .i64 3)) (.t 24)⟩,
    ⟨none, (some 26), .bin .add (.t 23) (.t 25)⟩,
    ⟨none, none, .store 1 (.t 4) (.t 26)⟩]))))))))
  (.region false [⟨none, (some 27), .bin .add (.t 12) (.k (.int .i64 1))⟩,
    ⟨none, (some 12), .mov (.t 27)⟩]))))
/-- 3:out 4:sum 10: 11: 12: -/
def a16S0 (x3 x4 x10 x11 x12 : DV) (h : List AObj) : St := ⟨[.junk, .junk, .junk, x3, x4] ++ js 5 ++ [x10, x11, x12] ++ js 24, h⟩

def a16 : AFn where
  code := (.seq (.region false [⟨none, (some 1), .box (.t 0)⟩,
    ⟨none, (some 2), .mov (.k .nils)⟩])
  (.seq (.region false [⟨none, (some 9), .mks 1 8 [(.int .i64 0)] (.k (.int .i64 0)) (.k (.int .i64 68))⟩,
    ⟨none, (some 3), .alloc [.nils]⟩,
    ⟨none, none, .store 1 (.t 3) (.t 9)⟩])
  (.seq (.region false [⟨none, (some 4), .alloc [(.int .i64 0)]⟩,
    ⟨none, none, .store 1 (.t 4) (.k (.int .i64 0))⟩])
  (.seq (.seq (.region false [⟨none, (some 10), .slcA 32 1 (.t 1) none (some (.k (.int .i64 16)))⟩,
    ⟨none, (some 11), .len (.t 10)⟩,
    ⟨none, (some 12), .mov (.k (.int .i64 0))⟩])
  (.block 0 (.loop a16L0)))
  (.seq (.seq (.region false [⟨none, (some 28), .load 1 false (.t 4)⟩,
    ⟨none, (some 29), .conv .u8 (.t 28)⟩,
    ⟨none, (some 30), .call (.k (.fn (.func 50) [] [])) [(.t 29)]⟩])
  (.block 4 (.rangeF (.t 30) 31 8 (.block 5 (.region false [⟨none, (some 32), .load 1 false (.t 3)⟩,
    ⟨none, (some 33), .mov (.t 8)⟩,
    ⟨none, (some 34), .bsl 1 1 [(.int .i64 0)] [(0, 1, (.t 33))]⟩,
    ⟨none, (some 35), .app 1 8 (.t 32) (.t 34)⟩,
    ⟨none, none, .store 1 (.t 3) (.t 35)⟩])))))
  (.seq (.region false [⟨none, (some 36), .load 1 false (.t 3)⟩,
    ⟨none, (some 2), .mov (.t 36)⟩])
  .ret))))))
  ntmps := 37
  res := [.tmp 2]

theorem a16_ok : compileFn P Try.f16 = some a16 := by kernel_rfl

-- 17 admission/admissionref08.Digits
def a17L1 : ACode :=
  (.seq (.seq (.region false [⟨none, (some 13), .mov (.t 6)⟩,
    ⟨none, (some 14), .bin .geq (.t 13) (.k (.int .i64 0))⟩])
  (.cond (.t 14) .skip
  (.exit 2)))
  (.seq (.block 3 (.seq (.region false [⟨none, (some 17), .mov (.t 5)⟩,
    ⟨none, (some 18), .idxA 32 1 (.t 1) (.t 17)⟩,
    ⟨none, (some 19), .load 1 false (.t 18)⟩,
    ⟨none, (some 20), .conv .i64 (.t 19)⟩,
    ⟨none, (some 21), .mov (.t 6)⟩,
    ⟨none, (some 22), .bin .mul (.k (.int .i64 2)) (.t 21)⟩,
    ⟨none, (some 23), .conv .u64 (.t 22)⟩,
    ⟨none, (some 24), .bin .shr (.t 20) (.t 23)⟩,
    ⟨none, (some 25), .bin .and (.t 24) (.k (.int .i64 3))⟩,
    ⟨none, (some 7), .mov (.t 25)⟩])
  (.seq (.region false [⟨none, (some 26), .mov (.t 3)⟩,
    ⟨none, (some 27), .mov (.t 7)⟩,
    ⟨none, (some 28), .bsl 1 1 [(.int .i64 0)] [(0, 1, (.t 27))]⟩,
    ⟨none, (some 29), .app 1 8 (.t 26) (.t 28)⟩,
    ⟨none, (some 3), .mov (.t 29)⟩])
  (.region false [⟨none, (some 30), .mov (.t 4)⟩,
    ⟨none, (some 31), .bin .add (.t 30) (.k (.int .i64 3))⟩,
    ⟨none, (some 32), .mov (.t 7)⟩,
    ⟨none, (some 33), .bin .sub (.t 31) (.t 32)⟩,
    ⟨none, (some 4), .mov (.t 33)⟩]))))
  (.region false [⟨none, (some 15), .mov (.t 6)⟩,
    ⟨none, (some 16), .bin .sub (.t 15) (.k (.int .i64 1))⟩,
    ⟨none, (some 6), .mov (.t 16)⟩])))
/-- 1:d 3:out 4:sum 5:i 6:k -/
def a17S1 (x1 x3 x4 x5 x6 : DV) (h : List AObj) : St := ⟨[.junk, x1, .junk, x3, x4, x5, x6] ++ js 41, h⟩

def a17L0 : ACode :=
  (.seq (.seq (.region false [⟨none, (some 9), .mov (.t 5)⟩,
    ⟨none, (some 10), .bin .lss (.t 9) (.k (.int .i64 16))⟩])
  (.cond (.t 10) .skip
  (.exit 0)))
  (.seq (.block 1 (.seq (.region false [⟨none, (some 6), .mov (.k (.int .i64 3))⟩])
  (.block 2 (.loop a17L1))))
  (.region false [⟨none, (some 11), .mov (.t 5)⟩,
    ⟨none, (some 12), .bin .add (.t 11) (.k (.int .i64 1))⟩,
    ⟨none, (some 5), .mov (.t 12)⟩])))
/-- 1:d 3:out 4:sum 5:i -/
def a17S0 (x1 x3 x4 x5 : DV) (h : List AObj) : St := ⟨[.junk, x1, .junk, x3, x4, x5] ++ js 42, h⟩

def a17L2 : ACode :=
  (.seq (.seq (.region false [⟨none, (some 34), .mov (.t 8)⟩,
    ⟨none, (some 35), .bin .geq (.t 34) (.k (.int .i64 0))⟩])
  (.cond (.t 35) .skip
  (.exit 4)))
  (.seq (.block 5 (.region false [⟨none, (some 38), .mov (.t 3)⟩,
    ⟨none, (some 39), .mov (.t 4)⟩,
    ⟨none, (some 40), .mov (.t 8)⟩,
    ⟨none, (some 41), .bin .mul (.k (.int .i64 2)) (.t 40)⟩,
    ⟨none, (some 42), .conv .u64 (.t 41)⟩,
    ⟨none, (some 43), .bin .shr (.t 39) (.t 42)⟩,
    ⟨none, (some 44), .bin .and (.t 43) (.k (.int .i64 3))⟩,
    ⟨none, (some 45), .bsl 1 1 [(.int .i64 0)] [(0, 1, (.t 44))]⟩,
    ⟨none, (some 46), .app 1 8 (.t 38) (.t 45)⟩,
    ⟨none, (some 3), .mov (.t 46)⟩]))
  (.region false [⟨none, (some 36), .mov (.t 8)⟩,
    ⟨none, (some 37), .bin .sub (.t 36) (.k (.int .i64 1))⟩,
    ⟨none, (some 8), .mov (.t 37)⟩])))
/-- 3:out 4:sum 8:k -/
def a17S2 (x3 x4 x8 : DV) (h : List AObj) : St := ⟨[.junk, .junk, .junk, x3, x4, .junk, .junk, .junk, x8] ++ js 39, h⟩

def a17 : AFn where
  code := (.seq (.region false [⟨none, (some 1), .box (.t 0)⟩,
    ⟨none, (some 2), .mov (.k .nils)⟩])
  (.seq (.region false [⟨none, (some 3), .mov (.k .nils)⟩])
  (.seq (.region false [⟨none, (some 4), .mov (.k (.int .i64 0))⟩])
  (.seq (.seq (.region false [⟨none, (some 5), .mov (.k (.int .i64 0))⟩])
  (.block 0 (.loop a17L0)))
  (.seq (.seq (.region false [⟨none, (some 8), .mov (.k (.int .i64 3))⟩])
  (.block 4 (.loop a17L2)))
  (.seq (.region false [⟨none, (some 47), .mov (.t 3)⟩,
    ⟨none, (some 2), .mov (.t 47)⟩])
  .ret))))))
  ntmps := 48
  res := [.tmp 2]

theorem a17_ok : compileFn P Try.f17 = some a17 := by kernel_rfl

-- 18 admission/admissionlaw08.awake
def a18 : AFn where
  code := (.seq (.region false [⟨none, (some 0), .mov (.k (.bool false))⟩])
  (.seq (.region false [⟨none, (some 2), .build (rep 32 (w8 0#8)) []⟩,
    ⟨none, (some 3), .call (.k (.fn (.func 16) [] [])) [(.t 2)]⟩,
    ⟨none, (some 1), .mov (.t 3)⟩])
  (.seq (.region false [⟨none, (some 4), .mov (.t 1)⟩,
    ⟨none, (some 5), .len (.t 4)⟩,
    ⟨none, (some 6), .bin .eql (.t 5) (.k (.int .i64 68))⟩,
    ⟨none, (some 7), .mov (.t 6)⟩,
    ⟨(some (7, true)), (some 8), .mov (.t 1)⟩,
    ⟨(some (7, true)), (some 9), .idxS 1 (.t 8) (.k (.int .i64 0))⟩,
    ⟨(some (7, true)), (some 10), .load 1 false (.t 9)⟩,
    ⟨(some (7, true)), (some 11), .bin .eql (.t 10) (.k (.int .i64 0))⟩,
    ⟨none, (some 12), .pick (.t 7) (.t 11) (.k (.bool false))⟩,
    ⟨none, (some 13), .mov (.t 12)⟩,
    ⟨(some (13, true)), (some 14), .mov (.t 1)⟩,
    ⟨(some (13, true)), (some 15), .idxS 1 (.t 14) (.k (.int .i64 64))⟩,
    ⟨(some (13, true)), (some 16), .load 1 false (.t 15)⟩,
    ⟨(some (13, true)), (some 17), .bin .eql (.t 16) (.k (.int .i64 3))⟩,
    ⟨none, (some 18), .pick (.t 13) (.t 17) (.k (.bool false))⟩,
    ⟨none, (some 19), .mov (.t 18)⟩,
    ⟨(some (19, true)), (some 20), .mov (.t 1)⟩,
    ⟨(some (19, true)), (some 21), .idxS 1 (.t 20) (.k (.int .i64 65))⟩,
    ⟨(some (19, true)), (some 22), .load 1 false (.t 21)⟩,
    ⟨(some (19, true)), (some 23), .bin .eql (.t 22) (.k (.int .i64 0))⟩,
    ⟨none, (some 24), .pick (.t 19) (.t 23) (.k (.bool false))⟩,
    ⟨none, (some 0), .mov (.t 24)⟩])
  .ret)))
  ntmps := 25
  res := [.tmp 0]

theorem a18_ok : compileFn P Try.f18 = some a18 := by kernel_rfl

-- 3 admission/admissionlaw08.OnetimeDigits
def a3L0 : ACode :=
  (.seq (.seq (.region false [⟨none, (some 15), .mov (.t 5)⟩,
    ⟨none, (some 16), .mov (.t 3)⟩,
    ⟨none, (some 17), .len (.t 16)⟩,
    ⟨none, (some 18), .bin .lss (.t 15) (.t 17)⟩])
  (.cond (.t 18) .skip
  (.exit 0)))
  (.seq (.block 1 (.seq (.region true [⟨none, (some 21), .mov (.t 3)⟩,
    ⟨none, (some 22), .mov (.t 5)⟩,
    ⟨none, (some 23), .idxS 1 (.t 21) (.t 22)⟩,
    ⟨none, (some 24), .load 1 false (.t 23)⟩,
    ⟨none, (some 25), .mov (.t 4)⟩,
    ⟨none, (some 26), .mov (.t 5)⟩,
    ⟨none, (some 27), .idxS 1 (.t 25) (.t 26)⟩,
    ⟨none, (some 28), .load 1 false (.t 27)⟩,
    ⟨none, (some 29), .bin .neq (.t 24) (.t 28)⟩,
    ⟨none, (some 30), .mov (.t 29)⟩,
    ⟨(some (30, false)), (some 31), .mov (.t 3)⟩,
    ⟨(some (30, false)), (some 32), .mov (.t 5)⟩,
    ⟨(some (30, false)), (some 33), .idxS 1 (.t 31) (.t 32)⟩,
    ⟨(some (30, false)), (some 34), .load 1 false (.t 33)⟩,
    ⟨(some (30, false)), (some 35), .bin .lss (.t 34) (.k (.int .i64 0))⟩,
    ⟨none, (some 36), .pick (.t 30) (.k (.bool true)) (.t 35)⟩,
    ⟨none, (some 37), .mov (.t 36)⟩,
    ⟨(some (37, false)), (some 38), .mov (.t 3)⟩,
    ⟨(some (37, false)), (some 39), .mov (.t 5)⟩,
    ⟨(some (37, false)), (some 40), .idxS 1 (.t 38) (.t 39)⟩,
    ⟨(some (37, false)), (some 41), .load 1 false (.t 40)⟩,
    ⟨(some (37, false)), (some 42), .bin .gtr (.t 41) (.k (.int .i64 3))⟩,
    ⟨none, (some 43), .pick (.t 37) (.k (.bool true)) (.t 42)⟩])
  (.cond (.t 43) (.seq (.region false [⟨none, (some 2), .mov (.k (.bool false))⟩])
  .ret)
  .skip)))
  (.region false [⟨none, (some 19), .mov (.t 5)⟩,
    ⟨none, (some 20), .bin .add (.t 19) (.k (.int .i64 1))⟩,
    ⟨none, (some 5), .mov (.t 20)⟩])))
/-- 3:a 4:b 5:i -/
def a3S0 (x3 x4 x5 : DV) (h : List AObj) : St := ⟨[.junk, .junk, .junk, x3, x4, x5] ++ js 39, h⟩

def a3 : AFn where
  code := (.seq (.region false [⟨none, (some 1), .box (.t 0)⟩,
    ⟨none, (some 2), .mov (.k (.bool false))⟩])
  (.seq (.region true [⟨none, (some 6), .load 32 true (.t 1)⟩,
    ⟨none, (some 7), .call (.k (.fn (.func 16) [] [])) [(.t 6)]⟩,
    ⟨none, (some 8), .load 32 true (.t 1)⟩,
    ⟨none, (some 9), .call (.k (.fn (.func 17) [] [])) [(.t 8)]⟩,
    ⟨none, (some 3), .mov (.t 7)⟩,
    ⟨none, (some 4), .mov (.t 9)⟩])
  (.seq (.seq (.region false [⟨none, (some 10), .mov (.t 3)⟩,
    ⟨none, (some 11), .len (.t 10)⟩,
    ⟨none, (some 12), .mov (.t 4)⟩,
    ⟨none, (some 13), .len (.t 12)⟩,
    ⟨none, (some 14), .bin .neq (.t 11) (.t 13)⟩])
  (.cond (.t 14) (.seq (.region false [⟨none, (some 2), .mov (.k (.bool false))⟩])
  .ret)
  .skip))
  (.seq (.seq (.region false [⟨none, (some 5), .mov (.k (.int .i64 0))⟩])
  (.block 0 (.loop a3L0)))
  (.seq (.region false [⟨none, (some 44), .call (.k (.fn (.func 18) [] [])) []⟩,
    ⟨none, (some 2), .mov (.t 44)⟩])
  .ret)))))
  ntmps := 45
  res := [.tmp 2]

theorem a3_ok : compileFn P Try.f3 = some a3 := by kernel_rfl

-- 4 admission/admissionlaw08.OnetimeApart
def a4L0 : ACode :=
  (.seq (.seq (.region false [⟨none, (some 12), .mov (.t 6)⟩,
    ⟨none, (some 13), .bin .lss (.t 12) (.k (.int .i64 16))⟩])
  (.cond (.t 13) .skip
  (.exit 0)))
  (.seq (.block 1 (.region true [⟨none, (some 16), .mov (.t 5)⟩,
    ⟨none, (some 17), .mov (.t 16)⟩,
    ⟨(some (17, true)), (some 18), .mov (.t 6)⟩,
    ⟨(some (17, true)), (some 19), .idxA 32 1 (.t 2) (.t 18)⟩,
    ⟨(some (17, true)), (some 20), .load 1 false (.t 19)⟩,
    ⟨(some (17, true)), (some 21), .mov (.t 6)⟩,
    ⟨(some (17, true)), (some 22), .idxA 32 1 (.t 3) (.t 21)⟩,
    ⟨(some (17, true)), (some 23), .load 1 false (.t 22)⟩,
    ⟨(some (17, true)), (some 24), .bin .eql (.t 20) (.t 23)⟩,
    ⟨none, (some 25), .pick (.t 17) (.t 24) (.k (.bool false))⟩,
    ⟨none, (some 5), .mov (.t 25)⟩]))
  (.region false [⟨none, (some 14), .mov (.t 6)⟩,
    ⟨none, (some 15), .bin .add (.t 14) (.k (.int .i64 1))⟩,
    ⟨none, (some 6), .mov (.t 15)⟩])))
/-- 2:a 3:b 5:same 6:i -/
def a4S0 (x2 x3 x5 x6 : DV) (h : List AObj) : St := ⟨[.junk, .junk, x2, x3, .junk, x5, x6] ++ js 71, h⟩

def a4L1 : ACode :=
  (.seq (.seq (.region false [⟨none, (some 35), .mov (.t 11)⟩,
    ⟨none, (some 36), .mov (.t 7)⟩,
    ⟨none, (some 37), .len (.t 36)⟩,
    ⟨none, (some 38), .bin .lss (.t 35) (.t 37)⟩])
  (.cond (.t 38) .skip
  (.exit 2)))
  (.seq (.block 3 (.region true [⟨none, (some 41), .mov (.t 9)⟩,
    ⟨none, (some 42), .mov (.t 41)⟩,
    ⟨(some (42, false)), (some 43), .mov (.t 7)⟩,
    ⟨(some (42, false)), (some 44), .mov (.t 11)⟩,
    ⟨(some (42, false)), (some 45), .idxS 1 (.t 43) (.t 44)⟩,
    ⟨(some (42, false)), (some 46), .load 1 false (.t 45)⟩,
    ⟨(some (42, false)), (some 47), .mov (.t 8)⟩,
    ⟨(some (42, false)), (some 48), .mov (.t 11)⟩,
    ⟨(some (42, false)), (some 49), .idxS 1 (.t 47) (.t 48)⟩,
    ⟨(some (42, false)), (some 50), .load 1 false (.t 49)⟩,
    ⟨(some (42, false)), (some 51), .bin .gtr (.t 46) (.t 50)⟩,
    ⟨none, (some 52), .pick (.t 42) (.k (.bool true)) (.t 51)⟩,
    ⟨none, (some 53), .mov (.t 10)⟩,
    ⟨none, (some 54), .mov (.t 53)⟩,
    ⟨(some (54, false)), (some 55), .mov (.t 7)⟩,
    ⟨(some (54, false)), (some 56), .mov (.t 11)⟩,
    ⟨(some (54, false)), (some 57), .idxS 1 (.t 55) (.t 56)⟩,
    ⟨(some (54, false)), (some 58), .load 1 false (.t 57)⟩,
    ⟨(some (54, false)), (some 59), .mov (.t 8)⟩,
    ⟨(some (54, false)), (some 60), .mov (.t 11)⟩,
    ⟨(some (54, false)), (some 61), .idxS 1 (.t 59) (.t 60)⟩,
    ⟨(some (54, false)), (some 62), .load 1 false (.t 61)⟩,
    ⟨(some (54, false)), (some 63), .bin .lss (.t 58) (.t 62)⟩,
    ⟨none, (some 64), .pick (.t 54) (.k (.bool true)) (.t 63)⟩,
    ⟨none, (some 9), .mov (.t 52)⟩,
    ⟨none, (some 10), .mov (.t 64)⟩]))
  (.region false [⟨none, (some 39), .mov (.t 11)⟩,
    ⟨none, (some 40), .bin .add (.t 39) (.k (.int .i64 1))⟩,
    ⟨none, (some 11), .mov (.t 40)⟩])))
/-- 5:same 7:x 8:y 9:more 10:less 11:i -/
def a4S1 (x5 x7 x8 x9 x10 x11 : DV) (h : List AObj) : St := ⟨js 5 ++ [x5, .junk, x7, x8, x9, x10, x11] ++ js 66, h⟩

def a4 : AFn where
  code := (.seq (.region false [⟨none, (some 2), .box (.t 0)⟩,
    ⟨none, (some 3), .box (.t 1)⟩,
    ⟨none, (some 4), .mov (.k (.bool false))⟩])
  (.seq (.region false [⟨none, (some 5), .mov (.k (.bool true))⟩])
  (.seq (.seq (.region false [⟨none, (some 6), .mov (.k (.int .i64 0))⟩])
  (.block 0 (.loop a4L0)))
  (.seq (.region true [⟨none, (some 26), .load 32 true (.t 2)⟩,
    ⟨none, (some 27), .call (.k (.fn (.func 16) [] [])) [(.t 26)]⟩,
    ⟨none, (some 28), .load 32 true (.t 3)⟩,
    ⟨none, (some 29), .call (.k (.fn (.func 16) [] [])) [(.t 28)]⟩,
    ⟨none, (some 7), .mov (.t 27)⟩,
    ⟨none, (some 8), .mov (.t 29)⟩])
  (.seq (.seq (.region false [⟨none, (some 30), .mov (.t 7)⟩,
    ⟨none, (some 31), .len (.t 30)⟩,
    ⟨none, (some 32), .mov (.t 8)⟩,
    ⟨none, (some 33), .len (.t 32)⟩,
    ⟨none, (some 34), .bin .neq (.t 31) (.t 33)⟩])
  (.cond (.t 34) (.seq (.region false [⟨none, (some 4), .mov (.k (.bool false))⟩])
  .ret)
  .skip))
  (.seq (.region false [⟨none, (some 9), .mov (.k (.bool false))⟩,
    ⟨none, (some 10), .mov (.k (.bool false))⟩])
  (.seq (.seq (.region false [⟨none, (some 11), .mov (.k (.int .i64 0))⟩])
  (.block 2 (.loop a4L1)))
  (.seq (.region false [⟨none, (some 65), .call (.k (.fn (.func 18) [] [])) []⟩,
    ⟨none, (some 66), .mov (.t 65)⟩,
    ⟨(some (66, true)), (some 67), .mov (.t 9)⟩,
    ⟨(some (66, true)), (some 68), .mov (.t 5)⟩,
    ⟨(some (66, true)), (some 69), .un .not (.t 68)⟩,
    ⟨(some (66, true)), (some 70), .eqb false (.t 67) (.t 69)⟩,
    ⟨none, (some 71), .pick (.t 66) (.t 70) (.k (.bool false))⟩,
    ⟨none, (some 72), .mov (.t 71)⟩,
    ⟨(some (72, true)), (some 73), .mov (.t 10)⟩,
    ⟨(some (72, true)), (some 74), .mov (.t 5)⟩,
    ⟨(some (72, true)), (some 75), .un .not (.t 74)⟩,
    ⟨(some (72, true)), (some 76), .eqb false (.t 73) (.t 75)⟩,
    ⟨none, (some 77), .pick (.t 72) (.t 76) (.k (.bool false))⟩,
    ⟨none, (some 4), .mov (.t 77)⟩])
  .ret))))))))
  ntmps := 78
  res := [.tmp 4]

theorem a4_ok : compileFn P Try.f4 = some a4 := by kernel_rfl

end Go.Proofs.Ythkcgeokfcbllaa
