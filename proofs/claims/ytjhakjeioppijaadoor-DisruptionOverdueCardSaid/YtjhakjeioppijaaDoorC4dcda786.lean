/-
  17 texts of mine in one.
-/
import Derived.Lib.AppendZeros
import Derived.WalkKit
import Derived.Test.YtjhakjeioppijaaDoorC5f0ea989
import Derived.Test.YtjhakjeioppijaaDoorC950dc02d
import Derived.Test.YtjhakjeioppijaaDoorC0aefe577
import Derived.Test.YtjhakjeioppijaaDoorC3dcfe18e
import Derived.Test.YtjhakjeioppijaaDoorCe716085a
/-
  Functions of this claim, as the abstract machine has them. MADE BY A PROGRAM of mine.
-/
set_option linter.unusedSimpArgs false
set_option linter.unusedVariables false
namespace Go.Proofs.YtjhakjeioppijaaDoor
open Go Go.Am
-- 83 admission/disruption.ids
def a83L0 : ACode :=
  (.seq (.region false [⟨none, (some 23), .bin .lss (.t 22) (.t 21)⟩])
  (.seq (.cond (.t 23) .skip
  (.exit 0))
  (.seq (.block 1 (.seq (.region false [⟨none, (some 24), .idxS 37 (.t 20) (.t 22)⟩,
    ⟨none, (some 25), .load 37 true (.t 24)⟩,
    ⟨none, (some 9), .alloc [(.int .i64 0), (.int .i64 0), (w8 0#8), (w8 0#8), (w8 0#8), (w8 0#8), (w8 0#8), (w8 0#8), (w8 0#8), (w8 0#8), (w8 0#8), (w8 0#8), (w8 0#8), (w8 0#8), (w8 0#8), (w8 0#8), (w8 0#8), (w8 0#8), (w8 0#8), (w8 0#8), (w8 0#8), (w8 0#8), (w8 0#8), (w8 0#8), (w8 0#8), (w8 0#8), (w8 0#8), (w8 0#8), (w8 0#8), (w8 0#8), (w8 0#8), (w8 0#8), (w8 0#8), (w8 0#8), (.int .i64 0), (.int .i64 0), (.int .i64 0)]⟩,
    ⟨none, none, .store 37 (.t 9) (.t 25)⟩])
  (.seq (.region true [⟨none, (some 26), .fld 1 (.t 9)⟩,
    ⟨none, (some 27), .load 1 false (.t 26)⟩,
    ⟨none, (some 28), .mov (.t 1)⟩,
    ⟨none, (some 29), .bin .eql (.t 27) (.t 28)⟩,
    ⟨none, (some 30), .mov (.t 29)⟩,
    ⟨(some (30, true)), (some 31), .mov (.t 2)⟩,
    ⟨(some (30, true)), (some 32), .fld 0 (.t 3)⟩,
    ⟨(some (30, true)), (some 33), .load 1 false (.t 32)⟩,
    ⟨(some (30, true)), (some 34), .mov (.t 1)⟩,
    ⟨(some (30, true)), (some 35), .idxS 6 (.t 33) (.t 34)⟩,
    ⟨(some (30, true)), (some 36), .load 6 true (.t 35)⟩,
    ⟨(some (30, true)), (some 37), .load 37 true (.t 9)⟩,
    ⟨(some (30, true)), (some 38), .callN (.t 31) [(.t 36), (.t 37)]⟩,
    ⟨none, (some 39), .pick (.t 30) (.t 38) (.k (.bool false))⟩])
  (.cond (.t 39) (.region false [⟨none, (some 40), .mov (.t 7)⟩,
    ⟨none, (some 41), .fld 0 (.t 9)⟩,
    ⟨none, (some 42), .load 1 false (.t 41)⟩,
    ⟨none, (some 43), .bsl 1 1 [(.int .i64 0)] [(0, 1, (.t 42))]⟩,
    ⟨none, (some 44), .app 1 8 (.t 40) (.t 43)⟩,
    ⟨none, (some 7), .mov (.t 44)⟩])
  .skip))))
  (.region false [⟨none, (some 45), .bin .add (.t 22) (.k (.int .i64 1))⟩,
    ⟨none, (some 22), .mov (.t 45)⟩]))))
/-- 1:group 2:selected 3:c 7:l 20: 21: 22: -/
def a83S0 (x1 x2 x3 x7 x20 x21 x22 : DV) (h : List AObj) : St := ⟨[.junk, x1, x2, x3, .junk, .junk, .junk, x7] ++ js 12 ++ [x20, x21, x22] ++ js 24, h⟩

def a83 : AFn where
  code := (.seq (.region false [⟨none, (some 3), .box (.t 0)⟩,
    ⟨none, (some 6), .mov (.k .nils)⟩])
  (.seq (.seq (.region false [⟨none, (some 10), .mov (.t 1)⟩,
    ⟨none, (some 11), .bin .lss (.t 10) (.k (.int .i64 0))⟩,
    ⟨none, (some 12), .mov (.t 11)⟩,
    ⟨(some (12, false)), (some 13), .mov (.t 1)⟩,
    ⟨(some (12, false)), (some 14), .fld 0 (.t 3)⟩,
    ⟨(some (12, false)), (some 15), .load 1 false (.t 14)⟩,
    ⟨(some (12, false)), (some 16), .len (.t 15)⟩,
    ⟨(some (12, false)), (some 17), .bin .geq (.t 13) (.t 16)⟩,
    ⟨none, (some 18), .pick (.t 12) (.k (.bool true)) (.t 17)⟩])
  (.cond (.t 18) (.seq (.region false [⟨none, (some 6), .mov (.k .nils)⟩])
  .ret)
  .skip))
  (.seq (.region false [⟨none, (some 7), .mov (.k .nils)⟩])
  (.seq (.seq (.region false [⟨none, (some 19), .fld 1 (.t 3)⟩,
    ⟨none, (some 20), .load 1 false (.t 19)⟩,
    ⟨none, (some 21), .len (.t 20)⟩,
    ⟨none, (some 22), .mov (.k (.int .i64 0))⟩])
  (.block 0 (.loop a83L0)))
  (.seq (.region false [⟨none, (some 46), .mov (.t 7)⟩,
    ⟨none, (some 6), .mov (.t 46)⟩])
  .ret)))))
  ntmps := 47
  res := [.tmp 6]

theorem a83_ok : compileFn P Tryd.f83 = some a83 := by kernel_rfl

-- 84 admission/disruption.running
def a84 : AFn where
  code := (.seq (.region false [⟨none, (some 2), .box (.t 0)⟩,
    ⟨none, (some 3), .box (.t 1)⟩,
    ⟨none, (some 4), .mov (.k (.bool false))⟩])
  (.seq (.region false [⟨none, (some 5), .fld 34 (.t 3)⟩,
    ⟨none, (some 6), .load 1 false (.t 5)⟩,
    ⟨none, (some 7), .bin .eql (.t 6) (.k (.int .i64 2))⟩,
    ⟨none, (some 4), .mov (.t 7)⟩])
  .ret))
  ntmps := 8
  res := [.tmp 4]

theorem a84_ok : compileFn P Tryd.f84 = some a84 := by kernel_rfl

-- 87 admission/disruption.chosen
def a87 : AFn where
  code := (.seq (.region false [⟨none, (some 2), .box (.t 0)⟩,
    ⟨none, (some 3), .box (.t 1)⟩,
    ⟨none, (some 4), .mov (.k (.bool false))⟩])
  (.seq (.region false [⟨none, (some 5), .fld 36 (.t 3)⟩,
    ⟨none, (some 6), .load 1 false (.t 5)⟩,
    ⟨none, (some 7), .bin .lss (.t 6) (.k (.int .i64 0))⟩,
    ⟨none, (some 8), .mov (.t 7)⟩,
    ⟨(some (8, true)), (some 9), .fld 5 (.t 2)⟩,
    ⟨(some (8, true)), (some 10), .load 1 false (.t 9)⟩,
    ⟨(some (8, true)), (some 11), .fld 2 (.t 3)⟩,
    ⟨(some (8, true)), (some 12), .load 32 true (.t 11)⟩,
    ⟨(some (8, true)), (some 13), .call (.k (.fn (.func 61) [] [])) [(.t 10), (.t 12)]⟩,
    ⟨none, (some 14), .pick (.t 8) (.t 13) (.k (.bool false))⟩,
    ⟨none, (some 4), .mov (.t 14)⟩])
  .ret))
  ntmps := 15
  res := [.tmp 4]

theorem a87_ok : compileFn P Tryd.f87 = some a87 := by kernel_rfl

-- 45 admission/disruption.Live
def a45 : AFn where
  code := (.seq (.region false [⟨none, (some 2), .box (.t 0)⟩,
    ⟨none, (some 4), .mov (.k (.int .i64 0))⟩])
  (.seq (.region false [⟨none, (some 5), .load 3 true (.t 2)⟩,
    ⟨none, (some 6), .mov (.t 1)⟩,
    ⟨none, (some 7), .call (.k (.fn (.func 83) [] [])) [(.t 5), (.t 6), (.k (.fn (.func 84) [] []))]⟩,
    ⟨none, (some 8), .len (.t 7)⟩,
    ⟨none, (some 4), .mov (.t 8)⟩])
  .ret))
  ntmps := 9
  res := [.tmp 4]

theorem a45_ok : compileFn P Tryd.f45 = some a45 := by kernel_rfl

-- 86 admission/disruption.Good$1
def a86 : AFn where
  code := (.seq (.region false [⟨none, (some 2), .box (.t 0)⟩,
    ⟨none, (some 3), .box (.t 1)⟩,
    ⟨none, (some 4), .mov (.k (.bool false))⟩])
  (.seq (.region false [⟨none, (some 5), .fld 34 (.t 3)⟩,
    ⟨none, (some 6), .load 1 false (.t 5)⟩,
    ⟨none, (some 7), .bin .neq (.t 6) (.k (.int .i64 3))⟩,
    ⟨none, (some 8), .mov (.t 7)⟩,
    ⟨(some (8, true)), (some 9), .load 6 true (.t 2)⟩,
    ⟨(some (8, true)), (some 10), .load 37 true (.t 3)⟩,
    ⟨(some (8, true)), (some 11), .call (.k (.fn (.func 87) [] [])) [(.t 9), (.t 10)]⟩,
    ⟨none, (some 12), .pick (.t 8) (.t 11) (.k (.bool false))⟩,
    ⟨none, (some 4), .mov (.t 12)⟩])
  .ret))
  ntmps := 13
  res := [.tmp 4]

theorem a86_ok : compileFn P Tryd.f86 = some a86 := by kernel_rfl

-- 48 admission/disruption.Good
def a48 : AFn where
  code := (.seq (.region false [⟨none, (some 2), .box (.t 0)⟩,
    ⟨none, (some 4), .mov (.k .nils)⟩])
  (.seq (.region false [⟨none, (some 5), .load 3 true (.t 2)⟩,
    ⟨none, (some 6), .mov (.t 1)⟩,
    ⟨none, (some 7), .call (.k (.fn (.func 83) [] [])) [(.t 5), (.t 6), (.k (.fn (.func 86) [] []))]⟩,
    ⟨none, (some 4), .mov (.t 7)⟩])
  .ret))
  ntmps := 8
  res := [.tmp 4]

theorem a48_ok : compileFn P Tryd.f48 = some a48 := by kernel_rfl

-- 50 admission/disruption.Room
def a50 : AFn where
  code := (.seq (.region false [⟨none, (some 2), .box (.t 0)⟩,
    ⟨none, (some 4), .mov (.k (.int .i64 0))⟩])
  (.seq (.seq (.region false [⟨none, (some 6), .mov (.t 1)⟩,
    ⟨none, (some 7), .bin .lss (.t 6) (.k (.int .i64 0))⟩,
    ⟨none, (some 8), .mov (.t 7)⟩,
    ⟨(some (8, false)), (some 9), .mov (.t 1)⟩,
    ⟨(some (8, false)), (some 10), .fld 0 (.t 2)⟩,
    ⟨(some (8, false)), (some 11), .load 1 false (.t 10)⟩,
    ⟨(some (8, false)), (some 12), .len (.t 11)⟩,
    ⟨(some (8, false)), (some 13), .bin .geq (.t 9) (.t 12)⟩,
    ⟨none, (some 14), .pick (.t 8) (.k (.bool true)) (.t 13)⟩])
  (.cond (.t 14) (.seq (.region false [⟨none, (some 4), .mov (.k (.int .i64 0))⟩])
  .ret)
  .skip))
  (.seq (.region false [⟨none, (some 15), .fld 0 (.t 2)⟩,
    ⟨none, (some 16), .load 1 false (.t 15)⟩,
    ⟨none, (some 17), .mov (.t 1)⟩,
    ⟨none, (some 18), .idxS 6 (.t 16) (.t 17)⟩,
    ⟨none, (some 19), .load 6 true (.t 18)⟩,
    ⟨none, (some 5), .alloc [(.str []), (.str []), (.int .i64 0), (.int .i64 0), (.int .i64 0), .nils]⟩,
    ⟨none, none, .store 6 (.t 5) (.t 19)⟩])
  (.seq (.region true [⟨none, (some 20), .load 3 true (.t 2)⟩,
    ⟨none, (some 21), .mov (.t 1)⟩,
    ⟨none, (some 23), .fld 3 (.t 5)⟩,
    ⟨none, (some 24), .load 1 false (.t 23)⟩,
    ⟨none, (some 25), .fld 2 (.t 5)⟩,
    ⟨none, (some 26), .load 1 false (.t 25)⟩,
    ⟨none, (some 27), .fld 4 (.t 5)⟩,
    ⟨none, (some 28), .load 1 false (.t 27)⟩,
    ⟨none, (some 29), .bin .sub (.t 26) (.t 28)⟩,
    ⟨none, (some 30), .mm true [(.t 24), (.t 29)]⟩,
    ⟨none, (some 22), .callN (.k (.fn (.func 45) [] [])) [(.t 20), (.t 21)]⟩,
    ⟨none, (some 31), .bin .sub (.t 22) (.t 30)⟩,
    ⟨none, (some 32), .mm true [(.t 31), (.k (.int .i64 0))]⟩,
    ⟨none, (some 4), .mov (.t 32)⟩])
  .ret))))
  ntmps := 33
  res := [.tmp 4]

theorem a50_ok : compileFn P Tryd.f50 = some a50 := by kernel_rfl

-- 93 admission/disruption.since
def a93 : AFn where
  code := (.seq (.region false [⟨none, (some 2), .box (.t 0)⟩,
    ⟨none, (some 3), .box (.t 1)⟩,
    ⟨none, (some 4), .mov (.k (.int .i64 0))⟩])
  (.seq (.region false [⟨none, (some 6), .fld 1 (.t 2)⟩,
    ⟨none, (some 7), .load 1 false (.t 6)⟩,
    ⟨none, (some 8), .mkf (.func 110) [] [(.t 3)]⟩,
    ⟨none, (some 9), .call (.k (.fn (.func 68) [] [])) [(.t 7), (.t 8)]⟩,
    ⟨none, (some 5), .mov (.t 9)⟩])
  (.seq (.region false [⟨none, (some 10), .fld 1 (.t 2)⟩,
    ⟨none, (some 11), .load 1 false (.t 10)⟩,
    ⟨none, (some 12), .mov (.t 5)⟩,
    ⟨none, (some 13), .idxS 37 (.t 11) (.t 12)⟩,
    ⟨none, (some 14), .fld 36 (.t 13)⟩,
    ⟨none, (some 15), .load 1 false (.t 14)⟩,
    ⟨none, (some 4), .mov (.t 15)⟩])
  .ret)))
  ntmps := 16
  res := [.tmp 4]

theorem a93_ok : compileFn P Tryd.f93 = some a93 := by kernel_rfl

-- 110 admission/disruption.since$1
def a110 : AFn where
  code := (.seq (.region false [⟨none, (some 2), .box (.t 0)⟩,
    ⟨none, (some 3), .mov (.k (.bool false))⟩])
  (.seq (.region false [⟨none, (some 4), .fld 0 (.t 2)⟩,
    ⟨none, (some 5), .load 1 false (.t 4)⟩,
    ⟨none, (some 6), .load 1 false (.t 1)⟩,
    ⟨none, (some 7), .bin .eql (.t 5) (.t 6)⟩,
    ⟨none, (some 3), .mov (.t 7)⟩])
  .ret))
  ntmps := 8
  res := [.tmp 3]

theorem a110_ok : compileFn P Tryd.f110 = some a110 := by kernel_rfl

-- 88 admission/disruption.Victims$1
def a88 : AFn where
  code := (.seq (.region false [⟨none, (some 2), .box (.t 0)⟩,
    ⟨none, (some 3), .box (.t 1)⟩,
    ⟨none, (some 4), .mov (.k (.bool false))⟩])
  (.seq (.region false [⟨none, (some 5), .load 6 true (.t 2)⟩,
    ⟨none, (some 6), .load 37 true (.t 3)⟩,
    ⟨none, (some 7), .call (.k (.fn (.func 84) [] [])) [(.t 5), (.t 6)]⟩,
    ⟨none, (some 8), .mov (.t 7)⟩,
    ⟨(some (8, true)), (some 9), .fld 36 (.t 3)⟩,
    ⟨(some (8, true)), (some 10), .load 1 false (.t 9)⟩,
    ⟨(some (8, true)), (some 11), .bin .geq (.t 10) (.k (.int .i64 0))⟩,
    ⟨none, (some 12), .pick (.t 8) (.t 11) (.k (.bool false))⟩,
    ⟨none, (some 4), .mov (.t 12)⟩])
  .ret))
  ntmps := 13
  res := [.tmp 4]

theorem a88_ok : compileFn P Tryd.f88 = some a88 := by kernel_rfl

-- 90 admission/disruption.Victims$2
def a90 : AFn where
  code := (.seq (.region false [⟨none, (some 5), .mov (.k (.int .i64 0))⟩])
  (.seq (.region true [⟨none, (some 6), .load 3 true (.t 2)⟩,
    ⟨none, (some 7), .mov (.t 0)⟩,
    ⟨none, (some 9), .load 3 true (.t 2)⟩,
    ⟨none, (some 10), .mov (.t 1)⟩,
    ⟨none, (some 13), .mov (.t 0)⟩,
    ⟨none, (some 14), .mov (.t 1)⟩,
    ⟨none, (some 8), .callN (.k (.fn (.func 93) [] [])) [(.t 6), (.t 7)]⟩,
    ⟨none, (some 11), .callN (.k (.fn (.func 93) [] [])) [(.t 9), (.t 10)]⟩,
    ⟨none, (some 12), .callN (.k (.fn (.func 92) [] [])) [(.t 8), (.t 11)]⟩,
    ⟨none, (some 15), .callN (.k (.fn (.func 94) [] [])) [(.t 13), (.t 14)]⟩,
    ⟨none, (some 16), .bsl 1 2 [(.int .i64 0)] [(0, 1, (.t 12)), (1, 1, (.t 15))]⟩,
    ⟨none, (some 17), .callN (.k (.fn (.func 91) [] [])) [(.t 16)]⟩,
    ⟨none, (some 5), .mov (.t 17)⟩])
  .ret))
  ntmps := 18
  res := [.tmp 5]

theorem a90_ok : compileFn P Tryd.f90 = some a90 := by kernel_rfl

-- 95 admission/disruption.Victims$3
def a95 : AFn where
  code := (.seq (.region false [⟨none, (some 2), .box (.t 0)⟩,
    ⟨none, (some 3), .box (.t 1)⟩,
    ⟨none, (some 4), .mov (.k (.bool false))⟩])
  (.seq (.region false [⟨none, (some 5), .load 6 true (.t 2)⟩,
    ⟨none, (some 6), .load 37 true (.t 3)⟩,
    ⟨none, (some 7), .call (.k (.fn (.func 84) [] [])) [(.t 5), (.t 6)]⟩,
    ⟨none, (some 8), .mov (.t 7)⟩,
    ⟨(some (8, true)), (some 9), .fld 36 (.t 3)⟩,
    ⟨(some (8, true)), (some 10), .load 1 false (.t 9)⟩,
    ⟨(some (8, true)), (some 11), .bin .lss (.t 10) (.k (.int .i64 0))⟩,
    ⟨none, (some 12), .pick (.t 8) (.t 11) (.k (.bool false))⟩,
    ⟨none, (some 13), .mov (.t 12)⟩,
    ⟨(some (13, true)), (some 14), .load 6 true (.t 2)⟩,
    ⟨(some (13, true)), (some 15), .load 37 true (.t 3)⟩,
    ⟨(some (13, true)), (some 16), .call (.k (.fn (.func 87) [] [])) [(.t 14), (.t 15)]⟩,
    ⟨(some (13, true)), (some 17), .un .not (.t 16)⟩,
    ⟨none, (some 18), .pick (.t 13) (.t 17) (.k (.bool false))⟩,
    ⟨none, (some 4), .mov (.t 18)⟩])
  .ret))
  ntmps := 19
  res := [.tmp 4]

theorem a95_ok : compileFn P Tryd.f95 = some a95 := by kernel_rfl

-- 96 admission/disruption.Victims$4
def a96 : AFn where
  code := (.seq (.region false [⟨none, (some 2), .box (.t 0)⟩,
    ⟨none, (some 3), .box (.t 1)⟩,
    ⟨none, (some 4), .mov (.k (.bool false))⟩])
  (.seq (.region false [⟨none, (some 5), .load 6 true (.t 2)⟩,
    ⟨none, (some 6), .load 37 true (.t 3)⟩,
    ⟨none, (some 7), .call (.k (.fn (.func 84) [] [])) [(.t 5), (.t 6)]⟩,
    ⟨none, (some 8), .mov (.t 7)⟩,
    ⟨(some (8, true)), (some 9), .load 6 true (.t 2)⟩,
    ⟨(some (8, true)), (some 10), .load 37 true (.t 3)⟩,
    ⟨(some (8, true)), (some 11), .call (.k (.fn (.func 87) [] [])) [(.t 9), (.t 10)]⟩,
    ⟨none, (some 12), .pick (.t 8) (.t 11) (.k (.bool false))⟩,
    ⟨none, (some 4), .mov (.t 12)⟩])
  .ret))
  ntmps := 13
  res := [.tmp 4]

theorem a96_ok : compileFn P Tryd.f96 = some a96 := by kernel_rfl

-- 52 admission/disruption.Victims
def a52 : AFn where
  code := (.seq (.region false [⟨none, (some 2), .box (.t 0)⟩,
    ⟨none, (some 4), .mov (.k .nils)⟩])
  (.seq (.seq (.region false [⟨none, (some 9), .mov (.t 1)⟩,
    ⟨none, (some 10), .bin .lss (.t 9) (.k (.int .i64 0))⟩,
    ⟨none, (some 11), .mov (.t 10)⟩,
    ⟨(some (11, false)), (some 12), .mov (.t 1)⟩,
    ⟨(some (11, false)), (some 13), .fld 0 (.t 2)⟩,
    ⟨(some (11, false)), (some 14), .load 1 false (.t 13)⟩,
    ⟨(some (11, false)), (some 15), .len (.t 14)⟩,
    ⟨(some (11, false)), (some 16), .bin .geq (.t 12) (.t 15)⟩,
    ⟨none, (some 17), .pick (.t 11) (.k (.bool true)) (.t 16)⟩])
  (.cond (.t 17) (.seq (.region false [⟨none, (some 4), .mov (.k .nils)⟩])
  .ret)
  .skip))
  (.seq (.region false [⟨none, (some 18), .load 3 true (.t 2)⟩,
    ⟨none, (some 19), .mov (.t 1)⟩,
    ⟨none, (some 20), .call (.k (.fn (.func 83) [] [])) [(.t 18), (.t 19), (.k (.fn (.func 88) [] []))]⟩,
    ⟨none, (some 5), .mov (.t 20)⟩])
  (.seq (.region false [⟨none, (some 21), .mov (.t 5)⟩,
    ⟨none, (some 22), .mkf (.func 90) [] [(.t 2)]⟩,
    ⟨none, (some 23), .call (.k (.fn (.func 89) [] [])) [(.t 21), (.t 22)]⟩])
  (.seq (.region false [⟨none, (some 24), .load 3 true (.t 2)⟩,
    ⟨none, (some 25), .mov (.t 1)⟩,
    ⟨none, (some 26), .call (.k (.fn (.func 83) [] [])) [(.t 24), (.t 25), (.k (.fn (.func 95) [] []))]⟩,
    ⟨none, (some 6), .mov (.t 26)⟩])
  (.seq (.region false [⟨none, (some 27), .load 3 true (.t 2)⟩,
    ⟨none, (some 28), .mov (.t 1)⟩,
    ⟨none, (some 29), .call (.k (.fn (.func 83) [] [])) [(.t 27), (.t 28), (.k (.fn (.func 96) [] []))]⟩,
    ⟨none, (some 7), .mov (.t 29)⟩])
  (.seq (.region false [⟨none, (some 30), .mov (.t 7)⟩,
    ⟨none, (some 31), .call (.k (.fn (.func 97) [] [])) [(.t 30)]⟩])
  (.seq (.region true [⟨none, (some 32), .load 3 true (.t 2)⟩,
    ⟨none, (some 33), .mov (.t 1)⟩,
    ⟨none, (some 36), .fld 0 (.t 2)⟩,
    ⟨none, (some 37), .load 1 false (.t 36)⟩,
    ⟨none, (some 38), .mov (.t 1)⟩,
    ⟨none, (some 39), .idxS 6 (.t 37) (.t 38)⟩,
    ⟨none, (some 40), .fld 2 (.t 39)⟩,
    ⟨none, (some 41), .load 1 false (.t 40)⟩,
    ⟨none, (some 34), .callN (.k (.fn (.func 48) [] [])) [(.t 32), (.t 33)]⟩,
    ⟨none, (some 35), .len (.t 34)⟩,
    ⟨none, (some 42), .bin .sub (.t 35) (.t 41)⟩,
    ⟨none, (some 43), .mm true [(.t 42), (.k (.int .i64 0))]⟩,
    ⟨none, (some 8), .mov (.t 43)⟩])
  (.seq (.region false [⟨none, (some 44), .mov (.t 5)⟩,
    ⟨none, (some 45), .mov (.t 6)⟩,
    ⟨none, (some 46), .mov (.t 7)⟩,
    ⟨none, (some 47), .mov (.t 8)⟩,
    ⟨none, (some 48), .mov (.t 7)⟩,
    ⟨none, (some 49), .len (.t 48)⟩,
    ⟨none, (some 50), .mm false [(.t 47), (.t 49)]⟩,
    ⟨none, (some 51), .slcS 1 (.t 46) none (some (.t 50)) none⟩,
    ⟨none, (some 52), .bsl 1 3 [.nils] [(0, 1, (.t 44)), (1, 1, (.t 45)), (2, 1, (.t 51))]⟩,
    ⟨none, (some 53), .call (.k (.fn (.func 98) [] [])) [(.t 52)]⟩,
    ⟨none, (some 4), .mov (.t 53)⟩])
  .ret)))))))))
  ntmps := 54
  res := [.tmp 4]

theorem a52_ok : compileFn P Tryd.f52 = some a52 := by kernel_rfl

-- 100 admission/disruption.elapsed
def a100 : AFn where
  code := (.seq (.region false [⟨none, (some 6), .mov (.k (.bool false))⟩])
  (.seq (.seq (.region false [⟨none, (some 7), .mov (.t 2)⟩,
    ⟨none, (some 8), .mov (.t 0)⟩,
    ⟨none, (some 9), .bin .geq (.t 7) (.t 8)⟩])
  (.cond (.t 9) (.seq (.region false [⟨none, (some 10), .mov (.t 2)⟩,
    ⟨none, (some 11), .mov (.t 0)⟩,
    ⟨none, (some 12), .bin .sub (.t 10) (.t 11)⟩,
    ⟨none, (some 13), .mov (.t 1)⟩,
    ⟨none, (some 14), .bin .geq (.t 12) (.t 13)⟩,
    ⟨none, (some 6), .mov (.t 14)⟩])
  .ret)
  .skip))
  (.seq (.region false [⟨none, (some 15), .mov (.t 1)⟩,
    ⟨none, (some 16), .bin .lss (.t 15) (.k (.int .i64 0))⟩,
    ⟨none, (some 17), .mov (.t 16)⟩,
    ⟨(some (17, true)), (some 18), .mov (.t 1)⟩,
    ⟨(some (17, true)), (some 19), .mov (.t 0)⟩,
    ⟨(some (17, true)), (some 20), .bin .add (.t 18) (.t 19)⟩,
    ⟨(some (17, true)), (some 21), .mov (.t 2)⟩,
    ⟨(some (17, true)), (some 22), .bin .leq (.t 20) (.t 21)⟩,
    ⟨none, (some 23), .pick (.t 17) (.t 22) (.k (.bool false))⟩,
    ⟨none, (some 6), .mov (.t 23)⟩])
  .ret)))
  ntmps := 24
  res := [.tmp 6]

theorem a100_ok : compileFn P Tryd.f100 = some a100 := by kernel_rfl

-- 56 admission/disruption.Overdue
def a56L0 : ACode :=
  (.seq (.region false [⟨none, (some 15), .bin .lss (.t 14) (.t 13)⟩])
  (.seq (.cond (.t 15) .skip
  (.exit 0))
  (.seq (.block 1 (.seq (.region false [⟨none, (some 16), .mov (.t 14)⟩,
    ⟨none, (some 17), .idxS 37 (.t 12) (.t 14)⟩,
    ⟨none, (some 18), .load 37 true (.t 17)⟩,
    ⟨none, (some 9), .alloc [(.int .i64 0), (.int .i64 0), (w8 0#8), (w8 0#8), (w8 0#8), (w8 0#8), (w8 0#8), (w8 0#8), (w8 0#8), (w8 0#8), (w8 0#8), (w8 0#8), (w8 0#8), (w8 0#8), (w8 0#8), (w8 0#8), (w8 0#8), (w8 0#8), (w8 0#8), (w8 0#8), (w8 0#8), (w8 0#8), (w8 0#8), (w8 0#8), (w8 0#8), (w8 0#8), (w8 0#8), (w8 0#8), (w8 0#8), (w8 0#8), (w8 0#8), (w8 0#8), (w8 0#8), (w8 0#8), (.int .i64 0), (.int .i64 0), (.int .i64 0)]⟩,
    ⟨none, (some 8), .mov (.t 16)⟩,
    ⟨none, none, .store 37 (.t 9) (.t 18)⟩])
  (.seq (.region false [⟨none, (some 10), .mov (.k (.int .i64 0))⟩])
  (.seq (.seq (.region false [⟨none, (some 19), .mov (.t 8)⟩,
    ⟨none, (some 20), .mov (.t 1)⟩,
    ⟨none, (some 21), .len (.t 20)⟩,
    ⟨none, (some 22), .bin .lss (.t 19) (.t 21)⟩])
  (.cond (.t 22) (.region false [⟨none, (some 23), .mov (.t 1)⟩,
    ⟨none, (some 24), .mov (.t 8)⟩,
    ⟨none, (some 25), .idxS 1 (.t 23) (.t 24)⟩,
    ⟨none, (some 26), .load 1 false (.t 25)⟩,
    ⟨none, (some 10), .mov (.t 26)⟩])
  .skip))
  (.seq (.region false [⟨none, (some 27), .fld 34 (.t 9)⟩,
    ⟨none, (some 28), .load 1 false (.t 27)⟩,
    ⟨none, (some 29), .bin .neq (.t 28) (.k (.int .i64 3))⟩,
    ⟨none, (some 30), .mov (.t 29)⟩,
    ⟨(some (30, true)), (some 31), .fld 36 (.t 9)⟩,
    ⟨(some (30, true)), (some 32), .load 1 false (.t 31)⟩,
    ⟨(some (30, true)), (some 33), .bin .geq (.t 32) (.k (.int .i64 0))⟩,
    ⟨none, (some 34), .pick (.t 30) (.t 33) (.k (.bool false))⟩,
    ⟨none, (some 35), .mov (.t 34)⟩,
    ⟨(some (35, true)), (some 36), .fld 36 (.t 9)⟩,
    ⟨(some (35, true)), (some 37), .load 1 false (.t 36)⟩,
    ⟨(some (35, true)), (some 38), .mov (.t 10)⟩,
    ⟨(some (35, true)), (some 39), .mov (.t 2)⟩,
    ⟨(some (35, true)), (some 40), .call (.k (.fn (.func 100) [] [])) [(.t 37), (.t 38), (.t 39)]⟩,
    ⟨none, (some 41), .pick (.t 35) (.t 40) (.k (.bool false))⟩])
  (.cond (.t 41) (.region false [⟨none, (some 42), .mov (.t 7)⟩,
    ⟨none, (some 43), .fld 0 (.t 9)⟩,
    ⟨none, (some 44), .load 1 false (.t 43)⟩,
    ⟨none, (some 45), .bsl 1 1 [(.int .i64 0)] [(0, 1, (.t 44))]⟩,
    ⟨none, (some 46), .app 1 8 (.t 42) (.t 45)⟩,
    ⟨none, (some 7), .mov (.t 46)⟩])
  .skip))))))
  (.region false [⟨none, (some 47), .bin .add (.t 14) (.k (.int .i64 1))⟩,
    ⟨none, (some 14), .mov (.t 47)⟩]))))
/-- 1:graces 2:t 7:l 12: 13: 14: -/
def a56S0 (x1 x2 x7 x12 x13 x14 : DV) (h : List AObj) : St := ⟨[.junk, x1, x2] ++ js 4 ++ [x7] ++ js 4 ++ [x12, x13, x14] ++ js 34, h⟩

def a56 : AFn where
  code := (.seq (.region false [⟨none, (some 3), .box (.t 0)⟩,
    ⟨none, (some 6), .mov (.k .nils)⟩])
  (.seq (.region false [⟨none, (some 7), .mov (.k .nils)⟩])
  (.seq (.seq (.region false [⟨none, (some 11), .fld 1 (.t 3)⟩,
    ⟨none, (some 12), .load 1 false (.t 11)⟩,
    ⟨none, (some 13), .len (.t 12)⟩,
    ⟨none, (some 14), .mov (.k (.int .i64 0))⟩])
  (.block 0 (.loop a56L0)))
  (.seq (.region false [⟨none, (some 48), .mov (.t 7)⟩,
    ⟨none, (some 6), .mov (.t 48)⟩])
  .ret))))
  ntmps := 49
  res := [.tmp 6]

theorem a56_ok : compileFn P Tryd.f56 = some a56 := by kernel_rfl

-- 89 slices.SortStableFunc[[]int,int]
def a89 : AFn where
  code := (.region false [⟨none, (some 4), .mov (.t 0)⟩,
    ⟨none, (some 5), .mov (.t 0)⟩,
    ⟨none, (some 6), .len (.t 5)⟩,
    ⟨none, (some 7), .mov (.t 1)⟩,
    ⟨none, (some 8), .call (.k (.fn (.func 108) [] [])) [(.t 4), (.t 6), (.t 7)]⟩])
  ntmps := 9
  res := []

theorem a89_ok : compileFn P Tryd.f89 = some a89 := by kernel_rfl

-- 108 slices.stableCmpFunc[int]
def a108L0 : ACode :=
  (.seq (.seq (.region false [⟨none, (some 11), .mov (.t 8)⟩,
    ⟨none, (some 12), .mov (.t 1)⟩,
    ⟨none, (some 13), .bin .leq (.t 11) (.t 12)⟩])
  (.cond (.t 13) .skip
  (.exit 0)))
  (.block 1 (.seq (.region false [⟨none, (some 14), .mov (.t 0)⟩,
    ⟨none, (some 15), .mov (.t 7)⟩,
    ⟨none, (some 16), .mov (.t 8)⟩,
    ⟨none, (some 17), .mov (.t 2)⟩,
    ⟨none, (some 18), .call (.k (.fn (.func 116) [] [])) [(.t 14), (.t 15), (.t 16), (.t 17)]⟩])
  (.seq (.region false [⟨none, (some 19), .mov (.t 8)⟩,
    ⟨none, (some 7), .mov (.t 19)⟩])
  (.region false [⟨none, (some 20), .mov (.t 8)⟩,
    ⟨none, (some 21), .mov (.t 6)⟩,
    ⟨none, (some 22), .bin .add (.t 20) (.t 21)⟩,
    ⟨none, (some 8), .mov (.t 22)⟩])))))
/-- 0:data 1:n 2:cmp 6:blockSize 7:a 8:b -/
def a108S0 (x0 x1 x2 x6 x7 x8 : DV) (h : List AObj) : St := ⟨[x0, x1, x2, .junk, .junk, .junk, x6, x7, x8] ++ js 54, h⟩

def a108L2 : ACode :=
  (.seq (.seq (.region false [⟨none, (some 33), .mov (.t 8)⟩,
    ⟨none, (some 34), .mov (.t 1)⟩,
    ⟨none, (some 35), .bin .leq (.t 33) (.t 34)⟩])
  (.cond (.t 35) .skip
  (.exit 4)))
  (.block 5 (.seq (.region false [⟨none, (some 36), .mov (.t 0)⟩,
    ⟨none, (some 37), .mov (.t 7)⟩,
    ⟨none, (some 38), .mov (.t 7)⟩,
    ⟨none, (some 39), .mov (.t 6)⟩,
    ⟨none, (some 40), .bin .add (.t 38) (.t 39)⟩,
    ⟨none, (some 41), .mov (.t 8)⟩,
    ⟨none, (some 42), .mov (.t 2)⟩,
    ⟨none, (some 43), .call (.k (.fn (.func 117) [] [])) [(.t 36), (.t 37), (.t 40), (.t 41), (.t 42)]⟩])
  (.seq (.region false [⟨none, (some 44), .mov (.t 8)⟩,
    ⟨none, (some 7), .mov (.t 44)⟩])
  (.region false [⟨none, (some 45), .mov (.t 8)⟩,
    ⟨none, (some 46), .mov (.t 6)⟩,
    ⟨none, (some 47), .bin .mul (.k (.int .i64 2)) (.t 46)⟩,
    ⟨none, (some 48), .bin .add (.t 45) (.t 47)⟩,
    ⟨none, (some 8), .mov (.t 48)⟩])))))
/-- 0:data 1:n 2:cmp 6:blockSize 7:a 8:b -/
def a108S2 (x0 x1 x2 x6 x7 x8 : DV) (h : List AObj) : St := ⟨[x0, x1, x2, .junk, .junk, .junk, x6, x7, x8] ++ js 54, h⟩

def a108L1 : ACode :=
  (.seq (.seq (.region false [⟨none, (some 28), .mov (.t 6)⟩,
    ⟨none, (some 29), .mov (.t 1)⟩,
    ⟨none, (some 30), .bin .lss (.t 28) (.t 29)⟩])
  (.cond (.t 30) .skip
  (.exit 2)))
  (.block 3 (.seq (.region false [⟨none, (some 31), .mov (.t 6)⟩,
    ⟨none, (some 32), .bin .mul (.k (.int .i64 2)) (.t 31)⟩,
    ⟨none, (some 7), .mov (.k (.int .i64 0))⟩,
    ⟨none, (some 8), .mov (.t 32)⟩])
  (.seq (.block 4 (.loop a108L2))
  (.seq (.seq (.region false [⟨none, (some 49), .mov (.t 7)⟩,
    ⟨none, (some 50), .mov (.t 6)⟩,
    ⟨none, (some 51), .bin .add (.t 49) (.t 50)⟩,
    ⟨none, (some 9), .mov (.t 51)⟩])
  (.seq (.region false [⟨none, (some 52), .mov (.t 9)⟩,
    ⟨none, (some 53), .mov (.t 1)⟩,
    ⟨none, (some 54), .bin .lss (.t 52) (.t 53)⟩])
  (.cond (.t 54) (.region false [⟨none, (some 55), .mov (.t 0)⟩,
    ⟨none, (some 56), .mov (.t 7)⟩,
    ⟨none, (some 57), .mov (.t 9)⟩,
    ⟨none, (some 58), .mov (.t 1)⟩,
    ⟨none, (some 59), .mov (.t 2)⟩,
    ⟨none, (some 60), .call (.k (.fn (.func 117) [] [])) [(.t 55), (.t 56), (.t 57), (.t 58), (.t 59)]⟩])
  .skip)))
  (.region false [⟨none, (some 61), .mov (.t 6)⟩,
    ⟨none, (some 62), .bin .mul (.t 61) (.k (.int .i64 2))⟩,
    ⟨none, (some 6), .mov (.t 62)⟩]))))))
/-- 0:data 1:n 2:cmp 6:blockSize -/
def a108S1 (x0 x1 x2 x6 : DV) (h : List AObj) : St := ⟨[x0, x1, x2, .junk, .junk, .junk, x6] ++ js 56, h⟩

def a108 : AFn where
  code := (.seq (.region false [⟨none, (some 6), .mov (.k (.int .i64 20))⟩])
  (.seq (.region false [⟨none, (some 10), .mov (.t 6)⟩,
    ⟨none, (some 7), .mov (.k (.int .i64 0))⟩,
    ⟨none, (some 8), .mov (.t 10)⟩])
  (.seq (.block 0 (.loop a108L0))
  (.seq (.region false [⟨none, (some 23), .mov (.t 0)⟩,
    ⟨none, (some 24), .mov (.t 7)⟩,
    ⟨none, (some 25), .mov (.t 1)⟩,
    ⟨none, (some 26), .mov (.t 2)⟩,
    ⟨none, (some 27), .call (.k (.fn (.func 116) [] [])) [(.t 23), (.t 24), (.t 25), (.t 26)]⟩])
  (.block 2 (.loop a108L1))))))
  ntmps := 63
  res := []

theorem a108_ok : compileFn P Tryd.f108 = some a108 := by kernel_rfl

-- 116 slices.insertionSortCmpFunc[int]
def a116L1 : ACode :=
  (.seq (.seq (.region true [⟨none, (some 18), .mov (.t 9)⟩,
    ⟨none, (some 19), .mov (.t 1)⟩,
    ⟨none, (some 20), .bin .gtr (.t 18) (.t 19)⟩,
    ⟨none, (some 21), .mov (.t 20)⟩,
    ⟨(some (21, true)), (some 22), .mov (.t 3)⟩,
    ⟨(some (21, true)), (some 23), .mov (.t 0)⟩,
    ⟨(some (21, true)), (some 24), .mov (.t 9)⟩,
    ⟨(some (21, true)), (some 25), .idxS 1 (.t 23) (.t 24)⟩,
    ⟨(some (21, true)), (some 26), .load 1 false (.t 25)⟩,
    ⟨(some (21, true)), (some 27), .mov (.t 0)⟩,
    ⟨(some (21, true)), (some 28), .mov (.t 9)⟩,
    ⟨(some (21, true)), (some 29), .bin .sub (.t 28) (.k (.int .i64 1))⟩,
    ⟨(some (21, true)), (some 30), .idxS 1 (.t 27) (.t 29)⟩,
    ⟨(some (21, true)), (some 31), .load 1 false (.t 30)⟩,
    ⟨(some (21, true)), (some 32), .callN (.t 22) [(.t 26), (.t 31)]⟩,
    ⟨(some (21, true)), (some 33), .bin .lss (.t 32) (.k (.int .i64 0))⟩,
    ⟨none, (some 34), .pick (.t 21) (.t 33) (.k (.bool false))⟩])
  (.cond (.t 34) .skip
  (.exit 2)))
  (.seq (.block 3 (.region true [⟨none, (some 37), .mov (.t 0)⟩,
    ⟨none, (some 38), .mov (.t 9)⟩,
    ⟨none, (some 39), .mov (.t 0)⟩,
    ⟨none, (some 40), .mov (.t 9)⟩,
    ⟨none, (some 41), .bin .sub (.t 40) (.k (.int .i64 1))⟩,
    ⟨none, (some 42), .mov (.t 0)⟩,
    ⟨none, (some 43), .mov (.t 9)⟩,
    ⟨none, (some 44), .bin .sub (.t 43) (.k (.int .i64 1))⟩,
    ⟨none, (some 45), .idxS 1 (.t 42) (.t 44)⟩,
    ⟨none, (some 46), .load 1 false (.t 45)⟩,
    ⟨none, (some 47), .mov (.t 0)⟩,
    ⟨none, (some 48), .mov (.t 9)⟩,
    ⟨none, (some 49), .idxS 1 (.t 47) (.t 48)⟩,
    ⟨none, (some 50), .load 1 false (.t 49)⟩,
    ⟨none, (some 51), .idxS 1 (.t 37) (.t 38)⟩,
    ⟨none, none, .store 1 (.t 51) (.t 46)⟩,
    ⟨none, (some 52), .idxS 1 (.t 39) (.t 41)⟩,
    ⟨none, none, .store 1 (.t 52) (.t 50)⟩]))
  (.region false [⟨none, (some 35), .mov (.t 9)⟩,
    ⟨none, (some 36), .bin .sub (.t 35) (.k (.int .i64 1))⟩,
    ⟨none, (some 9), .mov (.t 36)⟩])))
/-- 0:data 1:a 2:b 3:cmp 8:i 9:j -/
def a116S1 (x0 x1 x2 x3 x8 x9 : DV) (h : List AObj) : St := ⟨[x0, x1, x2, x3] ++ js 4 ++ [x8, x9] ++ js 43, h⟩

def a116L0 : ACode :=
  (.seq (.seq (.region false [⟨none, (some 12), .mov (.t 8)⟩,
    ⟨none, (some 13), .mov (.t 2)⟩,
    ⟨none, (some 14), .bin .lss (.t 12) (.t 13)⟩])
  (.cond (.t 14) .skip
  (.exit 0)))
  (.seq (.block 1 (.seq (.region false [⟨none, (some 17), .mov (.t 8)⟩,
    ⟨none, (some 9), .mov (.t 17)⟩])
  (.block 2 (.loop a116L1))))
  (.region false [⟨none, (some 15), .mov (.t 8)⟩,
    ⟨none, (some 16), .bin .add (.t 15) (.k (.int .i64 1))⟩,
    ⟨none, (some 8), .mov (.t 16)⟩])))
/-- 0:data 1:a 2:b 3:cmp 8:i -/
def a116S0 (x0 x1 x2 x3 x8 : DV) (h : List AObj) : St := ⟨[x0, x1, x2, x3] ++ js 4 ++ [x8] ++ js 44, h⟩

def a116 : AFn where
  code := (.seq (.region false [⟨none, (some 10), .mov (.t 1)⟩,
    ⟨none, (some 11), .bin .add (.t 10) (.k (.int .i64 1))⟩,
    ⟨none, (some 8), .mov (.t 11)⟩])
  (.block 0 (.loop a116L0)))
  ntmps := 53
  res := []

theorem a116_ok : compileFn P Tryd.f116 = some a116 := by kernel_rfl

-- 97 slices.Reverse[[]int,int]
def a97L0 : ACode :=
  (.seq (.seq (.region false [⟨none, (some 7), .mov (.t 2)⟩,
    ⟨none, (some 8), .mov (.t 3)⟩,
    ⟨none, (some 9), .bin .lss (.t 7) (.t 8)⟩])
  (.cond (.t 9) .skip
  (.exit 0)))
  (.seq (.block 1 (.region true [⟨none, (some 14), .mov (.t 0)⟩,
    ⟨none, (some 15), .mov (.t 2)⟩,
    ⟨none, (some 16), .mov (.t 0)⟩,
    ⟨none, (some 17), .mov (.t 3)⟩,
    ⟨none, (some 18), .mov (.t 0)⟩,
    ⟨none, (some 19), .mov (.t 3)⟩,
    ⟨none, (some 20), .idxS 1 (.t 18) (.t 19)⟩,
    ⟨none, (some 21), .load 1 false (.t 20)⟩,
    ⟨none, (some 22), .mov (.t 0)⟩,
    ⟨none, (some 23), .mov (.t 2)⟩,
    ⟨none, (some 24), .idxS 1 (.t 22) (.t 23)⟩,
    ⟨none, (some 25), .load 1 false (.t 24)⟩,
    ⟨none, (some 26), .idxS 1 (.t 14) (.t 15)⟩,
    ⟨none, none, .store 1 (.t 26) (.t 21)⟩,
    ⟨none, (some 27), .idxS 1 (.t 16) (.t 17)⟩,
    ⟨none, none, .store 1 (.t 27) (.t 25)⟩]))
  (.region false [⟨none, (some 10), .mov (.t 2)⟩,
    ⟨none, (some 11), .bin .add (.t 10) (.k (.int .i64 1))⟩,
    ⟨none, (some 12), .mov (.t 3)⟩,
    ⟨none, (some 13), .bin .sub (.t 12) (.k (.int .i64 1))⟩,
    ⟨none, (some 2), .mov (.t 11)⟩,
    ⟨none, (some 3), .mov (.t 13)⟩])))
/-- 0:s 2:i 3:j -/
def a97S0 (x0 x2 x3 : DV) (h : List AObj) : St := ⟨[x0, .junk, x2, x3] ++ js 24, h⟩

def a97 : AFn where
  code := (.seq (.region false [⟨none, (some 4), .mov (.t 0)⟩,
    ⟨none, (some 5), .len (.t 4)⟩,
    ⟨none, (some 6), .bin .sub (.t 5) (.k (.int .i64 1))⟩,
    ⟨none, (some 2), .mov (.k (.int .i64 0))⟩,
    ⟨none, (some 3), .mov (.t 6)⟩])
  (.block 0 (.loop a97L0)))
  ntmps := 28
  res := []

theorem a97_ok : compileFn P Tryd.f97 = some a97 := by kernel_rfl

-- 98 slices.Concat[[]int,int]
def a98L0 : ACode :=
  (.seq (.region false [⟨none, (some 12), .bin .lss (.t 11) (.t 10)⟩])
  (.seq (.cond (.t 12) .skip
  (.exit 0))
  (.seq (.block 1 (.seq (.region false [⟨none, (some 13), .idxS 1 (.t 9) (.t 11)⟩,
    ⟨none, (some 14), .load 1 false (.t 13)⟩,
    ⟨none, (some 5), .mov (.t 14)⟩])
  (.seq (.region false [⟨none, (some 15), .mov (.t 3)⟩,
    ⟨none, (some 16), .mov (.t 5)⟩,
    ⟨none, (some 17), .len (.t 16)⟩,
    ⟨none, (some 18), .bin .add (.t 15) (.t 17)⟩,
    ⟨none, (some 3), .mov (.t 18)⟩])
  (.seq (.region false [⟨none, (some 19), .mov (.t 3)⟩,
    ⟨none, (some 20), .bin .lss (.t 19) (.k (.int .i64 0))⟩])
  (.cond (.t 20) (.region false [⟨none, (some 21), .ext (.k .junk) 0⟩,
    ⟨none, none, .ext (.k .junk) 0⟩])
  .skip)))))
  (.region false [⟨none, (some 22), .bin .add (.t 11) (.k (.int .i64 1))⟩,
    ⟨none, (some 11), .mov (.t 22)⟩]))))
/-- 0:slices 3:size 9: 10: 11: -/
def a98S0 (x0 x3 x9 x10 x11 : DV) (h : List AObj) : St := ⟨[x0, .junk, .junk, x3] ++ js 5 ++ [x9, x10, x11] ++ js 24, h⟩

def a98L1 : ACode :=
  (.seq (.region false [⟨none, (some 28), .bin .lss (.t 27) (.t 26)⟩])
  (.seq (.cond (.t 28) .skip
  (.exit 2))
  (.seq (.block 3 (.seq (.region false [⟨none, (some 29), .idxS 1 (.t 25) (.t 27)⟩,
    ⟨none, (some 30), .load 1 false (.t 29)⟩,
    ⟨none, (some 8), .mov (.t 30)⟩])
  (.region false [⟨none, (some 31), .mov (.t 6)⟩,
    ⟨none, (some 32), .mov (.t 8)⟩,
    ⟨none, (some 33), .app 1 8 (.t 31) (.t 32)⟩,
    ⟨none, (some 6), .mov (.t 33)⟩])))
  (.region false [⟨none, (some 34), .bin .add (.t 27) (.k (.int .i64 1))⟩,
    ⟨none, (some 27), .mov (.t 34)⟩]))))
/-- 6:newslice 25: 26: 27: -/
def a98S1 (x6 x25 x26 x27 : DV) (h : List AObj) : St := ⟨js 6 ++ [x6] ++ js 18 ++ [x25, x26, x27] ++ js 8, h⟩

def a98 : AFn where
  code := (.seq (.region false [⟨none, (some 2), .mov (.k .nils)⟩])
  (.seq (.region false [⟨none, (some 3), .mov (.k (.int .i64 0))⟩])
  (.seq (.seq (.region false [⟨none, (some 9), .mov (.t 0)⟩,
    ⟨none, (some 10), .len (.t 9)⟩,
    ⟨none, (some 11), .mov (.k (.int .i64 0))⟩])
  (.block 0 (.loop a98L0)))
  (.seq (.region false [⟨none, (some 23), .mov (.t 3)⟩,
    ⟨none, (some 24), .call (.k (.fn (.func 112) [] [])) [(.k .nils), (.t 23)]⟩,
    ⟨none, (some 6), .mov (.t 24)⟩])
  (.seq (.seq (.region false [⟨none, (some 25), .mov (.t 0)⟩,
    ⟨none, (some 26), .len (.t 25)⟩,
    ⟨none, (some 27), .mov (.k (.int .i64 0))⟩])
  (.block 2 (.loop a98L1)))
  (.seq (.region false [⟨none, (some 35), .mov (.t 6)⟩,
    ⟨none, (some 2), .mov (.t 35)⟩])
  .ret))))))
  ntmps := 36
  res := [.tmp 2]

theorem a98_ok : compileFn P Tryd.f98 = some a98 := by kernel_rfl

-- 112 slices.Grow[[]int,int]
def a112 : AFn where
  code := (.seq (.region false [⟨none, (some 4), .mov (.k .nils)⟩])
  (.seq (.seq (.region false [⟨none, (some 5), .mov (.t 1)⟩,
    ⟨none, (some 6), .bin .lss (.t 5) (.k (.int .i64 0))⟩])
  (.cond (.t 6) (.region false [⟨none, (some 7), .ext (.k .junk) 0⟩,
    ⟨none, none, .ext (.k .junk) 0⟩])
  .skip))
  (.seq (.seq (.region false [⟨none, (some 8), .mov (.t 1)⟩,
    ⟨none, (some 9), .mov (.t 0)⟩,
    ⟨none, (some 10), .ext (.k .junk) 0⟩,
    ⟨none, (some 11), .mov (.t 0)⟩,
    ⟨none, (some 12), .len (.t 11)⟩,
    ⟨none, (some 13), .bin .sub (.t 10) (.t 12)⟩,
    ⟨none, (some 14), .bin .sub (.t 8) (.t 13)⟩,
    ⟨none, (some 1), .mov (.t 14)⟩])
  (.seq (.region false [⟨none, (some 15), .mov (.t 1)⟩,
    ⟨none, (some 16), .bin .gtr (.t 15) (.k (.int .i64 0))⟩])
  (.cond (.t 16) (.region false [⟨none, (some 17), .mov (.t 0)⟩,
    ⟨none, (some 18), .mov (.t 0)⟩,
    ⟨none, (some 19), .ext (.k .junk) 0⟩,
    ⟨none, (some 20), .slcS 1 (.t 17) none (some (.t 19)) none⟩,
    ⟨none, (some 21), .mov (.t 1)⟩,
    ⟨none, (some 22), .ext (.k .junk) 0⟩,
    ⟨none, (some 23), .mov (.t 0)⟩,
    ⟨none, (some 24), .len (.t 23)⟩,
    ⟨none, (some 25), .slcS 1 (.t 22) none (some (.t 24)) none⟩,
    ⟨none, (some 0), .mov (.t 25)⟩])
  .skip)))
  (.seq (.region false [⟨none, (some 26), .mov (.t 0)⟩,
    ⟨none, (some 4), .mov (.t 26)⟩])
  .ret))))
  ntmps := 27
  res := [.tmp 4]

theorem a112_ok : compileFn P Tryd.f112 = some a112 := by kernel_rfl

-- 91 cmp.Or[int]
def a91L0 : ACode :=
  (.seq (.region false [⟨none, (some 9), .bin .lss (.t 8) (.t 7)⟩])
  (.seq (.cond (.t 9) .skip
  (.exit 0))
  (.seq (.block 1 (.seq (.region false [⟨none, (some 10), .idxS 1 (.t 6) (.t 8)⟩,
    ⟨none, (some 11), .load 1 false (.t 10)⟩,
    ⟨none, (some 5), .mov (.t 11)⟩])
  (.seq (.region false [⟨none, (some 12), .mov (.t 5)⟩,
    ⟨none, (some 13), .mov (.t 3)⟩,
    ⟨none, (some 14), .bin .neq (.t 12) (.t 13)⟩])
  (.cond (.t 14) (.seq (.region false [⟨none, (some 15), .mov (.t 5)⟩,
    ⟨none, (some 2), .mov (.t 15)⟩])
  .ret)
  .skip))))
  (.region false [⟨none, (some 16), .bin .add (.t 8) (.k (.int .i64 1))⟩,
    ⟨none, (some 8), .mov (.t 16)⟩]))))
/-- 3:zero 6: 7: 8: -/
def a91S0 (x3 x6 x7 x8 : DV) (h : List AObj) : St := ⟨[.junk, .junk, .junk, x3, .junk, .junk, x6, x7, x8] ++ js 9, h⟩

def a91 : AFn where
  code := (.seq (.region false [⟨none, (some 2), .mov (.k (.int .i64 0))⟩])
  (.seq (.region false [⟨none, (some 3), .mov (.k (.int .i64 0))⟩])
  (.seq (.seq (.region false [⟨none, (some 6), .mov (.t 0)⟩,
    ⟨none, (some 7), .len (.t 6)⟩,
    ⟨none, (some 8), .mov (.k (.int .i64 0))⟩])
  (.block 0 (.loop a91L0)))
  (.seq (.region false [⟨none, (some 17), .mov (.t 3)⟩,
    ⟨none, (some 2), .mov (.t 17)⟩])
  .ret))))
  ntmps := 18
  res := [.tmp 2]

theorem a91_ok : compileFn P Tryd.f91 = some a91 := by kernel_rfl

-- 94 cmp.Compare[int]
def a94 : AFn where
  code := (.seq (.region false [⟨none, (some 4), .mov (.k (.int .i64 0))⟩])
  (.seq (.region false [⟨none, (some 7), .mov (.t 0)⟩,
    ⟨none, (some 8), .call (.k (.fn (.func 111) [] [])) [(.t 7)]⟩,
    ⟨none, (some 5), .mov (.t 8)⟩])
  (.seq (.region false [⟨none, (some 9), .mov (.t 1)⟩,
    ⟨none, (some 10), .call (.k (.fn (.func 111) [] [])) [(.t 9)]⟩,
    ⟨none, (some 6), .mov (.t 10)⟩])
  (.seq (.seq (.region false [⟨none, (some 11), .mov (.t 5)⟩])
  (.cond (.t 11) (.seq (.seq (.region false [⟨none, (some 12), .mov (.t 6)⟩])
  (.cond (.t 12) (.seq (.region false [⟨none, (some 4), .mov (.k (.int .i64 0))⟩])
  .ret)
  .skip))
  (.seq (.region false [⟨none, (some 4), .mov (.k (.int .i64 (-1)))⟩])
  .ret))
  .skip))
  (.seq (.seq (.region false [⟨none, (some 13), .mov (.t 6)⟩])
  (.cond (.t 13) (.seq (.region false [⟨none, (some 4), .mov (.k (.int .i64 1))⟩])
  .ret)
  .skip))
  (.seq (.seq (.region false [⟨none, (some 14), .mov (.t 0)⟩,
    ⟨none, (some 15), .mov (.t 1)⟩,
    ⟨none, (some 16), .bin .lss (.t 14) (.t 15)⟩])
  (.cond (.t 16) (.seq (.region false [⟨none, (some 4), .mov (.k (.int .i64 (-1)))⟩])
  .ret)
  .skip))
  (.seq (.seq (.region false [⟨none, (some 17), .mov (.t 0)⟩,
    ⟨none, (some 18), .mov (.t 1)⟩,
    ⟨none, (some 19), .bin .gtr (.t 17) (.t 18)⟩])
  (.cond (.t 19) (.seq (.region false [⟨none, (some 4), .mov (.k (.int .i64 1))⟩])
  .ret)
  .skip))
  (.seq (.region false [⟨none, (some 4), .mov (.k (.int .i64 0))⟩])
  .ret))))))))
  ntmps := 20
  res := [.tmp 4]

theorem a94_ok : compileFn P Tryd.f94 = some a94 := by kernel_rfl

-- 92 cmp.Compare[int64]
def a92 : AFn where
  code := (.seq (.region false [⟨none, (some 4), .mov (.k (.int .i64 0))⟩])
  (.seq (.region false [⟨none, (some 7), .mov (.t 0)⟩,
    ⟨none, (some 8), .call (.k (.fn (.func 109) [] [])) [(.t 7)]⟩,
    ⟨none, (some 5), .mov (.t 8)⟩])
  (.seq (.region false [⟨none, (some 9), .mov (.t 1)⟩,
    ⟨none, (some 10), .call (.k (.fn (.func 109) [] [])) [(.t 9)]⟩,
    ⟨none, (some 6), .mov (.t 10)⟩])
  (.seq (.seq (.region false [⟨none, (some 11), .mov (.t 5)⟩])
  (.cond (.t 11) (.seq (.seq (.region false [⟨none, (some 12), .mov (.t 6)⟩])
  (.cond (.t 12) (.seq (.region false [⟨none, (some 4), .mov (.k (.int .i64 0))⟩])
  .ret)
  .skip))
  (.seq (.region false [⟨none, (some 4), .mov (.k (.int .i64 (-1)))⟩])
  .ret))
  .skip))
  (.seq (.seq (.region false [⟨none, (some 13), .mov (.t 6)⟩])
  (.cond (.t 13) (.seq (.region false [⟨none, (some 4), .mov (.k (.int .i64 1))⟩])
  .ret)
  .skip))
  (.seq (.seq (.region false [⟨none, (some 14), .mov (.t 0)⟩,
    ⟨none, (some 15), .mov (.t 1)⟩,
    ⟨none, (some 16), .bin .lss (.t 14) (.t 15)⟩])
  (.cond (.t 16) (.seq (.region false [⟨none, (some 4), .mov (.k (.int .i64 (-1)))⟩])
  .ret)
  .skip))
  (.seq (.seq (.region false [⟨none, (some 17), .mov (.t 0)⟩,
    ⟨none, (some 18), .mov (.t 1)⟩,
    ⟨none, (some 19), .bin .gtr (.t 17) (.t 18)⟩])
  (.cond (.t 19) (.seq (.region false [⟨none, (some 4), .mov (.k (.int .i64 1))⟩])
  .ret)
  .skip))
  (.seq (.region false [⟨none, (some 4), .mov (.k (.int .i64 0))⟩])
  .ret))))))))
  ntmps := 20
  res := [.tmp 4]

theorem a92_ok : compileFn P Tryd.f92 = some a92 := by kernel_rfl

-- 111 cmp.isNaN[int]
def a111 : AFn where
  code := (.seq (.region false [⟨none, (some 2), .mov (.k (.bool false))⟩])
  (.seq (.region false [⟨none, (some 3), .mov (.t 0)⟩,
    ⟨none, (some 4), .mov (.t 0)⟩,
    ⟨none, (some 5), .bin .neq (.t 3) (.t 4)⟩,
    ⟨none, (some 2), .mov (.t 5)⟩])
  .ret))
  ntmps := 6
  res := [.tmp 2]

theorem a111_ok : compileFn P Tryd.f111 = some a111 := by kernel_rfl

-- 109 cmp.isNaN[int64]
def a109 : AFn where
  code := (.seq (.region false [⟨none, (some 2), .mov (.k (.bool false))⟩])
  (.seq (.region false [⟨none, (some 3), .mov (.t 0)⟩,
    ⟨none, (some 4), .mov (.t 0)⟩,
    ⟨none, (some 5), .bin .neq (.t 3) (.t 4)⟩,
    ⟨none, (some 2), .mov (.t 5)⟩])
  .ret))
  ntmps := 6
  res := [.tmp 2]

theorem a109_ok : compileFn P Tryd.f109 = some a109 := by kernel_rfl

end Go.Proofs.YtjhakjeioppijaaDoor
/-
  Disruption's small functions: which instances; comparisons; since.
-/
set_option linter.unusedSimpArgs false
set_option linter.unusedVariables false
namespace Go.Proofs.YtjhakjeioppijaaDoor
open Go Go.Am

/-! which instances -/
noncomputable def cSel (p : Grp → Ins → Bool) : List DV → Option DV := con (fun _ => True) (fun a : Grp × Ins => [.agg (grC a.1), .agg (inC a.2)]) (fun a => .bool (p a.1 a.2))
theorem cSel_eq {p : Grp → Ins → Bool} {g : Grp} {x : Ins} : cSel p [.agg (grC g), .agg (inC x)] = some (.bool (p g x)) :=
  con_inj (f := fun a : Grp × Ins => [.agg (grC a.1), .agg (inC a.2)]) (by
    rintro ⟨a, b⟩ ⟨c, d⟩ e
    simp only [List.cons.injEq, DV.agg.injEq, and_true] at e
    rw [grC_inj e.1, inC_inj e.2]) (g, x)
theorem cSel_sound {k : FuncId} {p : Grp → Ins → Bool} (h : ∀ g x, Am.Sem P k [.agg (grC g), .agg (inC x)] (.bool (p g x))) : (Con.pure (cSel p)).Sound P k := con_sound fun a _ => h a.1 a.2
theorem runs_running (g : Grp) (x : Ins) : Runs tbl0 a84 [.agg (grC g), .agg (inC x)] (.bool (sLive g x)) := by
  refine ⟨?_⟩
  by_cases h : x.state = 2
  · simp (disch := first | omega | (simp [-List.map_take, -List.map_drop, -List.map_set, -List.map_append, -List.drop_one] <;> omega) | fail) [-List.map_take, -List.map_drop, -List.map_set, -List.map_append, -List.drop_one, a84, sLive, h]
  · simp (disch := first | omega | (simp [-List.map_take, -List.map_drop, -List.map_set, -List.map_append, -List.drop_one] <;> omega) | fail) [-List.map_take, -List.map_drop, -List.map_set, -List.map_append, -List.drop_one, a84, sLive, h]
noncomputable def T200 : Tbl := addT 61 (.pure (cDgs hasB)) tbl0
theorem T200_c : T200 61 = .pure (cDgs hasB) := by simp [T200]
theorem T200_sound : T200.Sound P := addT_sound (con_sound fun p _ => sem_runs mix T100_sound Tryd.func61 a61_ok (runs_contdg p.1 p.2)) tbl0_sound
theorem runs_chosen (g : Grp) (x : Ins) : Runs T200 a87 [.agg (grC g), .agg (inC x)] (.bool (chos g x)) := by
  refine ⟨?_⟩
  by_cases h : x.den < 0
  · simp (disch := first | omega | (simp [-List.map_take, -List.map_drop, -List.map_set, -List.map_append, -List.drop_one] <;> omega) | fail) [-List.map_take, -List.map_drop, -List.map_set, -List.map_append, -List.drop_one, a87, chos, h, T200_c, cDgs_eq, hasB]
  · simp (disch := first | omega | (simp [-List.map_take, -List.map_drop, -List.map_set, -List.map_append, -List.drop_one] <;> omega) | fail) [-List.map_take, -List.map_drop, -List.map_set, -List.map_append, -List.drop_one, a87, chos, h]
noncomputable def T201 : Tbl := addT 84 (.pure (cSel sLive)) (addT 87 (.pure (cSel chos)) tbl0)
theorem T201_r : T201 84 = .pure (cSel sLive) := by simp [T201]
theorem T201_c : T201 87 = .pure (cSel chos) := by simp [T201]
theorem running_sound : (Con.pure (cSel sLive)).Sound P 84 := cSel_sound fun g x => sem_runs mix tbl0_sound Tryd.func84 a84_ok (runs_running g x)
theorem T201_sound : T201.Sound P := addT_sound running_sound (addT_sound (cSel_sound fun g x => sem_runs mix T200_sound Tryd.func87 a87_ok (runs_chosen g x)) tbl0_sound)
theorem runs_good1 (g : Grp) (x : Ins) : Runs T201 a86 [.agg (grC g), .agg (inC x)] (.bool (sGood g x)) := by
  refine ⟨?_⟩
  by_cases h : x.state = 3
  · simp (disch := first | omega | (simp [-List.map_take, -List.map_drop, -List.map_set, -List.map_append, -List.drop_one] <;> omega) | fail) [-List.map_take, -List.map_drop, -List.map_set, -List.map_append, -List.drop_one, a86, sGood, h, T201_c, cSel_eq]
  · simp (disch := first | omega | (simp [-List.map_take, -List.map_drop, -List.map_set, -List.map_append, -List.drop_one] <;> omega) | fail) [-List.map_take, -List.map_drop, -List.map_set, -List.map_append, -List.drop_one, a86, sGood, h, T201_c, cSel_eq]
theorem runs_vic1 (g : Grp) (x : Ins) : Runs T201 a88 [.agg (grC g), .agg (inC x)] (.bool (sDen g x)) := by
  refine ⟨?_⟩
  by_cases h : x.state = 2
  · simp (disch := first | omega | (simp [-List.map_take, -List.map_drop, -List.map_set, -List.map_append, -List.drop_one] <;> omega) | fail) [-List.map_take, -List.map_drop, -List.map_set, -List.map_append, -List.drop_one, a88, sDen, sLive, h, T201_r, cSel_eq]
  · simp (disch := first | omega | (simp [-List.map_take, -List.map_drop, -List.map_set, -List.map_append, -List.drop_one] <;> omega) | fail) [-List.map_take, -List.map_drop, -List.map_set, -List.map_append, -List.drop_one, a88, sDen, sLive, h, T201_r, cSel_eq]
theorem runs_vic3 (g : Grp) (x : Ins) : Runs T201 a95 [.agg (grC g), .agg (inC x)] (.bool (sRep g x)) := by
  refine ⟨?_⟩
  by_cases h : x.state = 2
  · by_cases h1 : x.den < 0
    · simp (disch := first | omega | (simp [-List.map_take, -List.map_drop, -List.map_set, -List.map_append, -List.drop_one] <;> omega) | fail) [-List.map_take, -List.map_drop, -List.map_set, -List.map_append, -List.drop_one, a95, sRep, sLive, h, h1, T201_r, T201_c, cSel_eq]
    · simp (disch := first | omega | (simp [-List.map_take, -List.map_drop, -List.map_set, -List.map_append, -List.drop_one] <;> omega) | fail) [-List.map_take, -List.map_drop, -List.map_set, -List.map_append, -List.drop_one, a95, sRep, sLive, h, h1, T201_r, T201_c, cSel_eq]
  · simp (disch := first | omega | (simp [-List.map_take, -List.map_drop, -List.map_set, -List.map_append, -List.drop_one] <;> omega) | fail) [-List.map_take, -List.map_drop, -List.map_set, -List.map_append, -List.drop_one, a95, sRep, sLive, h, T201_r, cSel_eq]
theorem runs_vic4 (g : Grp) (x : Ins) : Runs T201 a96 [.agg (grC g), .agg (inC x)] (.bool (sSpare g x)) := by
  refine ⟨?_⟩
  by_cases h : x.state = 2
  · simp (disch := first | omega | (simp [-List.map_take, -List.map_drop, -List.map_set, -List.map_append, -List.drop_one] <;> omega) | fail) [-List.map_take, -List.map_drop, -List.map_set, -List.map_append, -List.drop_one, a96, sSpare, sLive, h, T201_r, T201_c, cSel_eq]
  · simp (disch := first | omega | (simp [-List.map_take, -List.map_drop, -List.map_set, -List.map_append, -List.drop_one] <;> omega) | fail) [-List.map_take, -List.map_drop, -List.map_set, -List.map_append, -List.drop_one, a96, sSpare, sLive, h, T201_r, cSel_eq]
/-- the choices -/
inductive W5 where
  | live | good | den | rep | spare
def W5.fid : W5 → Nat
  | .live => 84
  | .good => 86
  | .den => 88
  | .rep => 95
  | .spare => 96
def W5.sel : W5 → Grp → Ins → Bool
  | .live => sLive
  | .good => sGood
  | .den => sDen
  | .rep => sRep
  | .spare => sSpare
theorem W5.inj {a b : W5} (h : a.fid = b.fid) : a = b := by cases a <;> cases b <;> first | rfl | (simp [W5.fid] at h)
noncomputable def T202 : Tbl := addT 84 (.pure (cSel sLive)) (addT 86 (.pure (cSel sGood)) (addT 88 (.pure (cSel sDen)) (addT 95 (.pure (cSel sRep)) (addT 96 (.pure (cSel sSpare)) tbl0))))
theorem T202_w (w : W5) : T202 w.fid = .pure (cSel w.sel) := by cases w <;> simp [T202, W5.fid, W5.sel]
theorem T202_sound : T202.Sound P := addT_sound running_sound (addT_sound (cSel_sound fun g x => sem_runs mix T201_sound Tryd.func86 a86_ok (runs_good1 g x)) (addT_sound (cSel_sound fun g x => sem_runs mix T201_sound Tryd.func88 a88_ok (runs_vic1 g x)) (addT_sound (cSel_sound fun g x => sem_runs mix T201_sound Tryd.func95 a95_ok (runs_vic3 g x)) (addT_sound (cSel_sound fun g x => sem_runs mix T201_sound Tryd.func96 a96_ok (runs_vic4 g x)) tbl0_sound))))

/-! comparisons -/
def cmpI (a b : Int) : Int := if a < b then -1 else if b < a then 1 else 0
def orI (a b : Int) : Int := if a = 0 then b else a
noncomputable def cNaN : List DV → Option DV := con (fun _ => True) (fun a : Int => [.int .i64 a]) (fun _ => .bool false)
theorem cNaN_eq {a : Int} : cNaN [.int .i64 a] = some (.bool false) :=
  con_inj (f := fun a : Int => [.int .i64 a]) (g := fun _ => .bool false) (by intro a b e; simpa using e) a
theorem runs_nan64 (a : Int) : Runs tbl0 a109 [.int .i64 a] (.bool false) := by
  refine ⟨?_⟩
  simp (disch := first | omega | (simp [-List.map_take, -List.map_drop, -List.map_set, -List.map_append, -List.drop_one] <;> omega) | fail) [-List.map_take, -List.map_drop, -List.map_set, -List.map_append, -List.drop_one, a109]
theorem runs_nan (a : Int) : Runs tbl0 a111 [.int .i64 a] (.bool false) := by
  refine ⟨?_⟩
  simp (disch := first | omega | (simp [-List.map_take, -List.map_drop, -List.map_set, -List.map_append, -List.drop_one] <;> omega) | fail) [-List.map_take, -List.map_drop, -List.map_set, -List.map_append, -List.drop_one, a111]
noncomputable def T203 : Tbl := addT 109 (.pure cNaN) (addT 111 (.pure cNaN) tbl0)
theorem T203_a : T203 109 = .pure cNaN := by simp [T203]
theorem T203_b : T203 111 = .pure cNaN := by simp [T203]
theorem T203_sound : T203.Sound P := addT_sound (con_sound fun a _ => sem_runs mix tbl0_sound Tryd.func109 a109_ok (runs_nan64 a)) (addT_sound (con_sound fun a _ => sem_runs mix tbl0_sound Tryd.func111 a111_ok (runs_nan a)) tbl0_sound)
noncomputable def cII (f : Int → Int → DV) : List DV → Option DV := con (fun _ => True) (fun a : Int × Int => [.int .i64 a.1, .int .i64 a.2]) (fun a => f a.1 a.2)
theorem cII_eq {f : Int → Int → DV} {a b : Int} : cII f [.int .i64 a, .int .i64 b] = some (f a b) :=
  con_inj (f := fun a : Int × Int => [.int .i64 a.1, .int .i64 a.2]) (g := fun a => f a.1 a.2) (by
    rintro ⟨a, b⟩ ⟨c, d⟩ e
    simp only [List.cons.injEq, DV.int.injEq, and_true, true_and] at e
    rw [e.1, e.2]) (a, b)
theorem runs_cmp64 (a b : Int) : Runs T203 a92 [.int .i64 a, .int .i64 b] (.int .i64 (cmpI a b)) := by
  refine ⟨?_⟩
  by_cases h : a < b
  · simp (disch := first | omega | (simp [-List.map_take, -List.map_drop, -List.map_set, -List.map_append, -List.drop_one] <;> omega) | fail) [-List.map_take, -List.map_drop, -List.map_set, -List.map_append, -List.drop_one, a92, T203_a, cNaN_eq, cmpI, h]
  · by_cases h' : b < a
    · simp (disch := first | omega | (simp [-List.map_take, -List.map_drop, -List.map_set, -List.map_append, -List.drop_one] <;> omega) | fail) [-List.map_take, -List.map_drop, -List.map_set, -List.map_append, -List.drop_one, a92, T203_a, cNaN_eq, cmpI, h, h']
    · simp (disch := first | omega | (simp [-List.map_take, -List.map_drop, -List.map_set, -List.map_append, -List.drop_one] <;> omega) | fail) [-List.map_take, -List.map_drop, -List.map_set, -List.map_append, -List.drop_one, a92, T203_a, cNaN_eq, cmpI, h, h']
theorem runs_cmp (a b : Int) : Runs T203 a94 [.int .i64 a, .int .i64 b] (.int .i64 (cmpI a b)) := by
  refine ⟨?_⟩
  by_cases h : a < b
  · simp (disch := first | omega | (simp [-List.map_take, -List.map_drop, -List.map_set, -List.map_append, -List.drop_one] <;> omega) | fail) [-List.map_take, -List.map_drop, -List.map_set, -List.map_append, -List.drop_one, a94, T203_b, cNaN_eq, cmpI, h]
  · by_cases h' : b < a
    · simp (disch := first | omega | (simp [-List.map_take, -List.map_drop, -List.map_set, -List.map_append, -List.drop_one] <;> omega) | fail) [-List.map_take, -List.map_drop, -List.map_set, -List.map_append, -List.drop_one, a94, T203_b, cNaN_eq, cmpI, h, h']
    · simp (disch := first | omega | (simp [-List.map_take, -List.map_drop, -List.map_set, -List.map_append, -List.drop_one] <;> omega) | fail) [-List.map_take, -List.map_drop, -List.map_set, -List.map_append, -List.drop_one, a94, T203_b, cNaN_eq, cmpI, h, h']
noncomputable def cOr : List DV → Option DV := con (fun _ => True) (fun a : Int × Int => [.sl true 1 2 [.int .i64 a.1, .int .i64 a.2]]) (fun a => .int .i64 (orI a.1 a.2))
theorem cOr_eq {a b : Int} : cOr [.sl true 1 2 [.int .i64 a, .int .i64 b]] = some (.int .i64 (orI a b)) :=
  con_inj (f := fun a : Int × Int => [.sl true 1 2 [.int .i64 a.1, .int .i64 a.2]]) (g := fun a => .int .i64 (orI a.1 a.2)) (by
    rintro ⟨a, b⟩ ⟨c, d⟩ e
    simp only [List.cons.injEq, DV.sl.injEq, DV.int.injEq, and_true, true_and] at e
    rw [e.1, e.2]) (a, b)
def S204 (a b : Int) (i : Nat) : St := a91S0 (.int .i64 0) (.sl true 1 2 [.int .i64 a, .int .i64 b]) (.int .i64 2) (.int .i64 i) []
theorem runs_or (a b : Int) : Runs tbl0 a91 [.sl true 1 2 [.int .i64 a, .int .i64 b]] (.int .i64 (orI a b)) := by
  refine ⟨?_⟩
  simp (disch := first | omega | (simp [-List.map_take, -List.map_drop, -List.map_set, -List.map_append, -List.drop_one] <;> omega) | fail) [-List.map_take, -List.map_drop, -List.map_set, -List.map_append, -List.drop_one, a91]
  refine W_loop (S204 a b) (fun i => 2 - i) (fun i => i ≤ 2 ∧ (0 < i → a = 0) ∧ (1 < i → b = 0)) 0 (weak_same (by simp (disch := first | omega | (simp [-List.map_take, -List.map_drop, -List.map_set, -List.map_append, -List.drop_one] <;> omega) | fail) [-List.map_take, -List.map_drop, -List.map_set, -List.map_append, -List.drop_one]) (by simp (disch := first | omega | (simp [-List.map_take, -List.map_drop, -List.map_set, -List.map_append, -List.drop_one] <;> omega) | fail) [-List.map_take, -List.map_drop, -List.map_set, -List.map_append, -List.drop_one])) ⟨by omega, fun h => by omega, fun h => by omega⟩ (fun i hi => ?_)
  obtain ⟨h1, h2, h3⟩ := hi
  simp (disch := first | omega | (simp [-List.map_take, -List.map_drop, -List.map_set, -List.map_append, -List.drop_one] <;> omega) | fail) [-List.map_take, -List.map_drop, -List.map_set, -List.map_append, -List.drop_one, a91L0, a91S0, S204]
  rcases (show i = 0 ∨ i = 1 ∨ i = 2 by omega) with rfl | rfl | rfl
  · by_cases e : a = 0
    · simp (disch := first | omega | (simp [-List.map_take, -List.map_drop, -List.map_set, -List.map_append, -List.drop_one] <;> omega) | fail) [-List.map_take, -List.map_drop, -List.map_set, -List.map_append, -List.drop_one, e]
      refine ⟨1, weak_same (by simp (disch := first | omega | (simp [-List.map_take, -List.map_drop, -List.map_set, -List.map_append, -List.drop_one] <;> omega) | fail) [-List.map_take, -List.map_drop, -List.map_set, -List.map_append, -List.drop_one]) (by simp (disch := first | omega | (simp [-List.map_take, -List.map_drop, -List.map_set, -List.map_append, -List.drop_one] <;> omega) | fail) [-List.map_take, -List.map_drop, -List.map_set, -List.map_append, -List.drop_one]), ?_⟩
      simp [e]
    · simp (disch := first | omega | (simp [-List.map_take, -List.map_drop, -List.map_set, -List.map_append, -List.drop_one] <;> omega) | fail) [-List.map_take, -List.map_drop, -List.map_set, -List.map_append, -List.drop_one, e, orI]
  · have ha := h2 (by omega)
    by_cases e : b = 0
    · simp (disch := first | omega | (simp [-List.map_take, -List.map_drop, -List.map_set, -List.map_append, -List.drop_one] <;> omega) | fail) [-List.map_take, -List.map_drop, -List.map_set, -List.map_append, -List.drop_one, e]
      refine ⟨2, weak_same (by simp (disch := first | omega | (simp [-List.map_take, -List.map_drop, -List.map_set, -List.map_append, -List.drop_one] <;> omega) | fail) [-List.map_take, -List.map_drop, -List.map_set, -List.map_append, -List.drop_one]) (by simp (disch := first | omega | (simp [-List.map_take, -List.map_drop, -List.map_set, -List.map_append, -List.drop_one] <;> omega) | fail) [-List.map_take, -List.map_drop, -List.map_set, -List.map_append, -List.drop_one]), ?_⟩
      simp [e, ha]
    · simp (disch := first | omega | (simp [-List.map_take, -List.map_drop, -List.map_set, -List.map_append, -List.drop_one] <;> omega) | fail) [-List.map_take, -List.map_drop, -List.map_set, -List.map_append, -List.drop_one, e, orI, ha]
  · have ha := h2 (by omega)
    have hb := h3 (by omega)
    simp (disch := first | omega | (simp [-List.map_take, -List.map_drop, -List.map_set, -List.map_append, -List.drop_one] <;> omega) | fail) [-List.map_take, -List.map_drop, -List.map_set, -List.map_append, -List.drop_one, orI, ha, hb]
end Go.Proofs.YtjhakjeioppijaaDoor
/-
  Disruption: the instances of a group that are selected; Live, Good, Room.
-/
set_option linter.unusedSimpArgs false
set_option linter.unusedVariables false
namespace Go.Proofs.YtjhakjeioppijaaDoor
open Go Go.Am

def idsL (c : Clu) (k : Int) (p : Grp → Ins → Bool) : List Ins := match grAt c k with
  | some g => selL c.i.l k (p g)
  | none => []
theorem idsP_eq {c : Clu} {k : Int} {p : Grp → Ins → Bool} : idsP c k p = (idsL c k p).map Ins.id := by unfold idsP idsL; cases grAt c k <;> rfl
def idC (l : List Ins) : List DV := (l.map Ins.id).flatMap inI
theorem idC_len (l : List Ins) : (idC l).length = l.length := by
  have := fm_len len_inI (l.map Ins.id)
  rw [idC, this]; simp
theorem idC_pure (l : List Ins) : pureL (idC l) = true := fm_pure pure_inI _
theorem belowL_id {n : Nat} {l : List Ins} : belowL n (idC l) = true := belowL_pure n _ (idC_pure l)
theorem belowL_idA {n : Nat} {l : List Ins} {y : Int} : belowL n (idC l ++ [.int .i64 y]) = true := belowL_pure n _ (pureL_append (idC_pure l) rfl)
theorem idC_app (l : List Ins) (x : Ins) : idC l ++ [.int .i64 x.id] = idC (l ++ [x]) := by simp [idC, inI]
theorem idC_one (x : Ins) : idC [x] = [.int .i64 x.id] := rfl
/-- the list that a call lays at the place n -/
def idV (n : Nat) (l : List Ins) : DV := if l = [] then .nils else .ms n l.length 0 1 l.length l.length
def idO (c : Clu) (l : List Ins) : List AObj := match l with
  | [] => [.cells (clC c)]
  | x :: r => [.cells (clC c), .cells (inC x), .cells (idC (x :: r))]
theorem idV_nil {n : Nat} : idV n [] = .nils := rfl
theorem idV_ne {n : Nat} {l : List Ins} (h : l ≠ []) : idV n l = .ms n l.length 0 1 l.length l.length := if_neg h
theorem idO_nil {c : Clu} : idO c [] = [.cells (clC c)] := rfl
theorem idO_cons {c : Clu} {x : Ins} {r : List Ins} : idO c (x :: r) = [.cells (clC c), .cells (inC x), .cells (idC (x :: r))] := rfl
/-- in the loop: the first i instances are through -/
structure DSi where
  i : Nat
  l : List Ins
def S210 (c : Clu) (k : Int) (f : DV) (a : DSi) : St := a83S0 (.int .i64 k) f (.mp 0 3 0) (idV 2 a.l) (c.i.dv 37 inC) (.int .i64 c.i.l.length) (.int .i64 a.i) (idO c a.l)
theorem selL_take {l : List Ins} {k : Int} {p : Ins → Bool} {i : Nat} (h : i < l.length) : selL (l.take (i + 1)) k p = selL (l.take i) k p ++ (if decide (l[i].grp = k) && p l[i] then [l[i]] else []) := by
  rw [List.take_succ_eq_append_getElem h, selL, List.filter_append]
  congr 1
  simp only [List.filter_cons, List.filter_nil]
theorem appX_id {h : List AObj} {l : List Ins} {c : List DV} {o x : AObj} {y : Int} (hl : 0 < l.length) (hb : l.length < 4294967296) : appX [o, x, .cells (idC l), .cells c] 1 8 (.ms 2 l.length 0 1 l.length l.length) 1 [.int .i64 y] = some (.ms 2 (l.length + 1) 0 1 (l.length + 1) (l.length + 1), [o, x, .cells (idC l ++ [.int .i64 y]), .cells c]) := by
  have := idC_len l
  rw [appX_own (by simp) (by omega) (by omega) (by simp) (by omega) (by simp [DV.one])]
  simp [objV, objAt, this]
set_option maxHeartbeats 1000000 in
theorem runs_ids (c : Clu) (k : Int) (w : W5) : RunsH T202 a83 [.agg (clC c), .int .i64 k, .fn (.func w.fid) [] []] [] (idV 2 (idsL c k w.sel)) (idO c (idsL c k w.sel)) := by
  refine ⟨?_⟩
  obtain ⟨f, hf⟩ : ∃ f, w.fid = f := ⟨_, rfl⟩
  have hT := T202_w w
  rw [hf] at hT
  rw [hf]
  obtain ⟨p, hp⟩ : ∃ p, w.sel = p := ⟨_, rfl⟩
  rw [hp] at hT
  rw [hp]
  by_cases h0 : k < 0
  · have hg : grAt c k = none := if_neg (by omega)
    simp (disch := first | omega | (simp [-List.map_take, -List.map_drop, -List.map_set, -List.map_append, -List.drop_one] <;> omega) | fail) [-List.map_take, -List.map_drop, -List.map_set, -List.map_append, -List.drop_one, a83, h0, idsL, hg, idV, idO]
  obtain ⟨K, rfl⟩ : ∃ K : Nat, k = K := ⟨k.toNat, by omega⟩
  by_cases h1 : c.g.l.length ≤ K
  · have hg : grAt c K = none := by
      rw [grAt, if_pos (by omega), Int.toNat_natCast, List.getElem?_eq_none_iff]; exact h1
    have h1' : (c.g.l.length : Int) ≤ K := by omega
    simp (disch := first | omega | (simp [-List.map_take, -List.map_drop, -List.map_set, -List.map_append, -List.drop_one] <;> omega) | fail) [-List.map_take, -List.map_drop, -List.map_set, -List.map_append, -List.drop_one, a83, h0, h1, h1', idsL, hg, idV, idO]
  have h2 : K < c.g.l.length := by omega
  have hg : grAt c K = some c.g.l[K] := by rw [grAt, if_pos (by omega), Int.toNat_natCast, List.getElem?_eq_getElem h2]
  have h1' : ¬ (c.g.l.length : Int) ≤ K := by omega
  have hG := fun h => idxSD_dv (x := c.g) (h := h) len_grC h2
  have hL : idsL c K p = selL c.i.l K (p c.g.l[K]) := by unfold idsL; rw [hg]
  rw [hL]
  obtain ⟨G, hGe⟩ : ∃ G, c.g.l[K] = G := ⟨_, rfl⟩
  rw [hGe] at hG
  rw [hGe]
  have hib := c.i.b
  simp (disch := first | omega | (simp [-List.map_take, -List.map_drop, -List.map_set, -List.map_append, -List.drop_one] <;> omega) | fail) [-List.map_take, -List.map_drop, -List.map_set, -List.map_append, -List.drop_one, a83, h0, h1, h1']
  refine W_loop (S210 c K (.fn (.func f) [] [])) (fun a => c.i.l.length - a.i) (fun a => a.i ≤ c.i.l.length ∧ a.l = selL (c.i.l.take a.i) K (p G)) ⟨0, []⟩ (weak_same (by simp (disch := first | omega | (simp [-List.map_take, -List.map_drop, -List.map_set, -List.map_append, -List.drop_one] <;> omega) | fail) [-List.map_take, -List.map_drop, -List.map_set, -List.map_append, -List.drop_one, S210, a83S0, idV_nil]) (by simp (disch := first | omega | (simp [-List.map_take, -List.map_drop, -List.map_set, -List.map_append, -List.drop_one] <;> omega) | fail) [-List.map_take, -List.map_drop, -List.map_set, -List.map_append, -List.drop_one, S210, idO_nil])) ⟨by simp, by simp [selL]⟩ (fun a ha => ?_)
  obtain ⟨i, l⟩ := a
  obtain ⟨r1, r2⟩ := ha
  simp only at r1 r2
  simp (disch := first | omega | (simp [-List.map_take, -List.map_drop, -List.map_set, -List.map_append, -List.drop_one] <;> omega) | fail) [-List.map_take, -List.map_drop, -List.map_set, -List.map_append, -List.drop_one, a83L0, a83S0, S210]
  by_cases h : i < c.i.l.length
  · have h' : (i : Int) < c.i.l.length := by omega
    have hi := fun H => idxSD_dv (x := c.i) (h := H) len_inC h
    have hs := selL_take (k := K) (p := p G) h
    obtain ⟨x, hx⟩ : ∃ x, c.i.l[i] = x := ⟨_, rfl⟩
    rw [hx] at hs
    have hll : l.length ≤ i := by rw [r2]; exact Nat.le_trans (List.length_filter_le _ _) (by simp; omega)
    have hc := idC_len l
    rw [← r2] at hs
    by_cases e1 : x.grp = K
    · cases e2 : p G x with
      | true =>
        have hs' : selL (c.i.l.take (i + 1)) K (p G) = l ++ [x] := by rw [hs]; simp [e1, e2]
        cases l with
        | nil =>
          simp (disch := first | omega | (simp [-List.map_take, -List.map_drop, -List.map_set, -List.map_append, -List.drop_one] <;> omega) | fail) [-List.map_take, -List.map_drop, -List.map_set, -List.map_append, -List.drop_one, idV_nil, idO_nil, h, h', hi, hx, hG, hT, cSel_eq, e1, e2]
          refine ⟨⟨i + 1, [x]⟩, weak_same (by simp (disch := first | omega | (simp [-List.map_take, -List.map_drop, -List.map_set, -List.map_append, -List.drop_one] <;> omega) | fail) [-List.map_take, -List.map_drop, -List.map_set, -List.map_append, -List.drop_one, S210, a83S0, idV]) (by simp (disch := first | omega | (simp [-List.map_take, -List.map_drop, -List.map_set, -List.map_append, -List.drop_one] <;> omega) | fail) [-List.map_take, -List.map_drop, -List.map_set, -List.map_append, -List.drop_one, S210, idO_cons, idC_one]), by simp; omega, by simp; omega, by simpa using hs'.symm⟩
        | cons y l =>
          have hne : idV 2 (y :: l) = .ms 2 (y :: l).length 0 1 (y :: l).length (y :: l).length := rfl
          obtain ⟨L, hL⟩ : ∃ L, y :: l = L := ⟨_, rfl⟩
          have hLl : 0 < L.length := by rw [← hL]; simp
          have hO : ∀ z, idO c (L ++ [z]) = [.cells (clC c), .cells (inC y), .cells (idC L ++ [.int .i64 z.id])] := fun z => by rw [idC_app, ← hL]; rfl
          rw [hne, idO_cons]
          rw [hL] at hll hc hs' ⊢
          have hap := fun H o z c y => appX_id (h := H) (l := L) (o := o) (x := z) (c := c) (y := y) hLl (by omega)
          simp (disch := first | omega | (simp [-List.map_take, -List.map_drop, -List.map_set, -List.map_append, -List.drop_one] <;> omega) | fail) [-List.map_take, -List.map_drop, -List.map_set, -List.map_append, -List.drop_one, h, h', hi, hx, hG, hT, cSel_eq, e1, e2, hap, hc]
          refine ⟨⟨i + 1, L ++ [x]⟩, weak_drop (tail := [.cells (inC x)]) (by simp (disch := first | omega | (simp [-List.map_take, -List.map_drop, -List.map_set, -List.map_append, -List.drop_one] <;> omega) | fail) [-List.map_take, -List.map_drop, -List.map_set, -List.map_append, -List.drop_one, S210, a83S0, idV]) (by simp (disch := first | omega | (simp [-List.map_take, -List.map_drop, -List.map_set, -List.map_append, -List.drop_one] <;> omega) | fail) [-List.map_take, -List.map_drop, -List.map_set, -List.map_append, -List.drop_one, S210, hO]) (by simp [S210, a83S0, hO]) (by simp [S210, a83S0, hO, idV, belowL, Am.below]) (by simp [S210, a83S0, hO, belowH, belowL_id, belowL_idA]), by simp; omega, by simp; omega, by simpa using hs'.symm⟩
      | false =>
        have hs' : selL (c.i.l.take (i + 1)) K (p G) = l := by rw [hs]; simp [e2]
        cases l with
        | nil =>
          simp (disch := first | omega | (simp [-List.map_take, -List.map_drop, -List.map_set, -List.map_append, -List.drop_one] <;> omega) | fail) [-List.map_take, -List.map_drop, -List.map_set, -List.map_append, -List.drop_one, idV_nil, idO_nil, h, h', hi, hx, hG, hT, cSel_eq, e1, e2]
          refine ⟨⟨i + 1, []⟩, weak_drop (tail := [.cells (inC x)]) (by simp (disch := first | omega | (simp [-List.map_take, -List.map_drop, -List.map_set, -List.map_append, -List.drop_one] <;> omega) | fail) [-List.map_take, -List.map_drop, -List.map_set, -List.map_append, -List.drop_one, S210, a83S0, idV]) (by simp (disch := first | omega | (simp [-List.map_take, -List.map_drop, -List.map_set, -List.map_append, -List.drop_one] <;> omega) | fail) [-List.map_take, -List.map_drop, -List.map_set, -List.map_append, -List.drop_one, S210, idO_nil]) (by simp [S210, a83S0, idO_nil]) (by simp [S210, a83S0, idO_nil, idV, belowL, Am.below]) (by simp [S210, a83S0, idO_nil, belowH, belowL_id]), by simp; omega, by simp; omega, by simpa using hs'.symm⟩
        | cons y l =>
          simp (disch := first | omega | (simp [-List.map_take, -List.map_drop, -List.map_set, -List.map_append, -List.drop_one] <;> omega) | fail) [-List.map_take, -List.map_drop, -List.map_set, -List.map_append, -List.drop_one, idV, idO_cons, h, h', hi, hx, hG, hT, cSel_eq, e1, e2]
          refine ⟨⟨i + 1, y :: l⟩, weak_drop (tail := [.cells (inC x)]) (by simp (disch := first | omega | (simp [-List.map_take, -List.map_drop, -List.map_set, -List.map_append, -List.drop_one] <;> omega) | fail) [-List.map_take, -List.map_drop, -List.map_set, -List.map_append, -List.drop_one, S210, a83S0, idV]) (by simp (disch := first | omega | (simp [-List.map_take, -List.map_drop, -List.map_set, -List.map_append, -List.drop_one] <;> omega) | fail) [-List.map_take, -List.map_drop, -List.map_set, -List.map_append, -List.drop_one, S210, idO_cons]) (by simp [S210, a83S0, idO_cons]) (by simp [S210, a83S0, idO_cons, idV, belowL, Am.below]) (by simp [S210, a83S0, idO_cons, belowH, belowL_id]), by simp; omega, by simp; omega, by simpa using hs'.symm⟩
    · have hs' : selL (c.i.l.take (i + 1)) K (p G) = l := by rw [hs]; simp [e1]
      cases l with
      | nil =>
        simp (disch := first | omega | (simp [-List.map_take, -List.map_drop, -List.map_set, -List.map_append, -List.drop_one] <;> omega) | fail) [-List.map_take, -List.map_drop, -List.map_set, -List.map_append, -List.drop_one, idV_nil, idO_nil, h, h', hi, hx, hG, hT, cSel_eq, e1]
        refine ⟨⟨i + 1, []⟩, weak_drop (tail := [.cells (inC x)]) (by simp (disch := first | omega | (simp [-List.map_take, -List.map_drop, -List.map_set, -List.map_append, -List.drop_one] <;> omega) | fail) [-List.map_take, -List.map_drop, -List.map_set, -List.map_append, -List.drop_one, S210, a83S0, idV]) (by simp (disch := first | omega | (simp [-List.map_take, -List.map_drop, -List.map_set, -List.map_append, -List.drop_one] <;> omega) | fail) [-List.map_take, -List.map_drop, -List.map_set, -List.map_append, -List.drop_one, S210, idO_nil]) (by simp [S210, a83S0, idO_nil]) (by simp [S210, a83S0, idO_nil, idV, belowL, Am.below]) (by simp [S210, a83S0, idO_nil, belowH, belowL_id]), by simp; omega, by simp; omega, by simpa using hs'.symm⟩
      | cons y l =>
        simp (disch := first | omega | (simp [-List.map_take, -List.map_drop, -List.map_set, -List.map_append, -List.drop_one] <;> omega) | fail) [-List.map_take, -List.map_drop, -List.map_set, -List.map_append, -List.drop_one, idV, idO_cons, h, h', hi, hx, hG, hT, cSel_eq, e1]
        refine ⟨⟨i + 1, y :: l⟩, weak_drop (tail := [.cells (inC x)]) (by simp (disch := first | omega | (simp [-List.map_take, -List.map_drop, -List.map_set, -List.map_append, -List.drop_one] <;> omega) | fail) [-List.map_take, -List.map_drop, -List.map_set, -List.map_append, -List.drop_one, S210, a83S0, idV]) (by simp (disch := first | omega | (simp [-List.map_take, -List.map_drop, -List.map_set, -List.map_append, -List.drop_one] <;> omega) | fail) [-List.map_take, -List.map_drop, -List.map_set, -List.map_append, -List.drop_one, S210, idO_cons]) (by simp [S210, a83S0, idO_cons]) (by simp [S210, a83S0, idO_cons, idV, belowL, Am.below]) (by simp [S210, a83S0, idO_cons, belowH, belowL_id]), by simp; omega, by simp; omega, by simpa using hs'.symm⟩
  · have h' : ¬ (i : Int) < c.i.l.length := by omega
    have e : selL c.i.l K (p G) = l := by rw [r2, List.take_of_length_le (by omega)]
    simp (disch := first | omega | (simp [-List.map_take, -List.map_drop, -List.map_set, -List.map_append, -List.drop_one] <;> omega) | fail) [-List.map_take, -List.map_drop, -List.map_set, -List.map_append, -List.drop_one, h, h', e]
end Go.Proofs.YtjhakjeioppijaaDoor
/-
  Disruption: Live, Good, Room; since and the order of victims.
-/
set_option linter.unusedSimpArgs false
set_option linter.unusedVariables false
namespace Go.Proofs.YtjhakjeioppijaaDoor
open Go Go.Am

/-! lists of numbers that are read -/
def liV (l : List Int) : DV := if l = [] then .nils else .sl false 1 l.length (l.flatMap inI)
theorem liV_nil : liV [] = .nils := rfl
theorem liV_ne {l : List Int} (h : l ≠ []) : liV l = .sl false 1 l.length (l.flatMap inI) := if_neg h
theorem liV_pure (l : List Int) : pureD (liV l) = true := by
  unfold liV; split
  · rfl
  · show pureL _ = true; exact fm_pure pure_inI l
theorem liV_len (H : List AObj) (l : List Int) : lenD H (liV l) = some (.int .i64 l.length) := by
  unfold liV; split
  · rename_i h; subst h; rfl
  · rfl
theorem liV_idx (H : List AObj) {l : List Int} {i : Nat} (hi : i < l.length) : idxSD H 1 (liV l) i = some (.ref [.int .i64 l[i]]) := by
  unfold liV; split
  · rename_i h; subst h; simp at hi
  · rw [idxSD_sl (by omega) (by omega), Int.toNat_natCast, fm_get len_inI hi]; rfl
theorem liV_one (l : List Int) : (liV l).one = true := by unfold liV; split <;> rfl
theorem liV_known (l : List Int) : (liV l).known = true := by unfold liV; split <;> rfl
theorem liV_cells (l : List Int) : (liV l).cells = [liV l] := by unfold liV; split <;> rfl
theorem liV_inj {a b : List Int} (h : liV a = liV b) : a = b := by
  unfold liV at h
  split at h <;> split at h
  · rename_i h1 h2; rw [h1, h2]
  · simp at h
  · simp at h
  · simp only [DV.sl.injEq] at h; exact inI_inj h.2.2.2
theorem liV_fz (n k : Nat) (H : List AObj) (l : List Int) : fz n H k (liV l) = some (liV l) := fz_clean (liV_pure l)
theorem liV_snap (k : Nat) (H : List AObj) (l : List Int) : snap H k (liV l) = some (liV l) := snap_clean (liV_pure l)
theorem liV_below (n : Nat) (l : List Int) : Am.below n (liV l) = true := below_pure n _ (liV_pure l)
attribute [simp] liV_pure liV_len liV_one liV_known liV_cells liV_fz liV_snap liV_below

theorem idV_sh {n m : Nat} {l : List Ins} : shD n (idV m l) = idV (n + m) l := by
  unfold idV; split <;> rfl
theorem idO_sh {n : Nat} {c : Clu} {l : List Ins} : (idO c l).map (shO n) = idO c l := by
  cases l with
  | nil => rw [idO_nil]; simp only [List.map_cons, List.map_nil, shO_cells, shL_pure n _ (pure_clC c)]
  | cons x r => rw [idO_cons]; simp only [List.map_cons, List.map_nil, shO_cells, shL_pure n _ (pure_clC c), shL_pure n _ (pure_inC x), shL_pure n _ (idC_pure _)]
noncomputable def cIds : List DV → Nat → Option (DV × List AObj) := conN (fun _ => True) (fun a : Clu × Int × W5 => [.agg (clC a.1), .int .i64 a.2.1, .fn (.func a.2.2.fid) [] []]) (fun a => (idV 2 (idsL a.1 a.2.1 a.2.2.sel), idO a.1 (idsL a.1 a.2.1 a.2.2.sel)))
theorem cIds_eq {c : Clu} {k : Int} (w : W5) {n : Nat} : cIds [.agg (clC c), .int .i64 k, .fn (.func w.fid) [] []] n = some (idV (n + 2) (idsL c k w.sel), idO c (idsL c k w.sel)) := by
  have := conN_eq (A := fun _ => True) (f := fun a : Clu × Int × W5 => [.agg (clC a.1), .int .i64 a.2.1, .fn (.func a.2.2.fid) [] []]) (g := fun a => (idV 2 (idsL a.1 a.2.1 a.2.2.sel), idO a.1 (idsL a.1 a.2.1 a.2.2.sel))) (by
    rintro ⟨a, b, c⟩ ⟨a', b', c'⟩ e
    simp only [List.cons.injEq, DV.agg.injEq, DV.int.injEq, DV.fn.injEq, Fn.func.injEq, and_true, true_and] at e
    rw [clC_inj e.1, e.2.1, W5.inj e.2.2]) (c, k, w) trivial n
  rw [idV_sh, idO_sh] at this
  exact this
theorem ids_sound : (Con.new cIds).Sound P 83 := conN_sound (fun a _ => by simp [pureL, pureD, pure_clC]) fun a _ => calls_runs mix T202_sound Tryd.func83 a83_ok (runs_ids a.1 a.2.1 a.2.2)
noncomputable def T211 : Tbl := addT 83 (.new cIds) tbl0
theorem T211_i : T211 83 = .new cIds := by simp [T211]
theorem T211_sound : T211.Sound P := addT_sound ids_sound tbl0_sound
theorem cIds_live {c : Clu} {k : Int} {n : Nat} : cIds [.agg (clC c), .int .i64 k, .fn (.func 84) [] []] n = some (idV (n + 2) (idsL c k sLive), idO c (idsL c k sLive)) := cIds_eq .live
theorem cIds_good {c : Clu} {k : Int} {n : Nat} : cIds [.agg (clC c), .int .i64 k, .fn (.func 86) [] []] n = some (idV (n + 2) (idsL c k sGood), idO c (idsL c k sGood)) := cIds_eq .good
theorem cIds_den {c : Clu} {k : Int} {n : Nat} : cIds [.agg (clC c), .int .i64 k, .fn (.func 88) [] []] n = some (idV (n + 2) (idsL c k sDen), idO c (idsL c k sDen)) := cIds_eq .den
theorem cIds_rep {c : Clu} {k : Int} {n : Nat} : cIds [.agg (clC c), .int .i64 k, .fn (.func 95) [] []] n = some (idV (n + 2) (idsL c k sRep), idO c (idsL c k sRep)) := cIds_eq .rep
theorem cIds_spare {c : Clu} {k : Int} {n : Nat} : cIds [.agg (clC c), .int .i64 k, .fn (.func 96) [] []] n = some (idV (n + 2) (idsL c k sSpare), idO c (idsL c k sSpare)) := cIds_eq .spare
theorem runs_live (c : Clu) (k : Int) : Runs T211 a45 [.agg (clC c), .int .i64 k] (.int .i64 (liveP c k)) := by
  refine ⟨?_⟩
  have e : liveP c k = (idsL c k sLive).length := by rw [liveP, idsP_eq, List.length_map]
  rw [e]
  cases hl : idsL c k sLive with
  | nil => simp (disch := first | omega | (simp [-List.map_take, -List.map_drop, -List.map_set, -List.map_append, -List.drop_one] <;> omega) | fail) [-List.map_take, -List.map_drop, -List.map_set, -List.map_append, -List.drop_one, a45, T211_i, cIds_live, hl, idV_nil, idO_nil]
  | cons x r =>
    have h1 := idC_len (x :: r)
    simp only [List.length_cons] at h1
    have h2 : idV 3 (x :: r) = .ms 3 (r.length + 1) 0 1 (r.length + 1) (r.length + 1) := rfl
    simp (disch := first | omega | (simp [-List.map_take, -List.map_drop, -List.map_set, -List.map_append, -List.drop_one] <;> omega) | fail) [-List.map_take, -List.map_drop, -List.map_set, -List.map_append, -List.drop_one, a45, T211_i, cIds_live, hl, h2, idO_cons, h1]
theorem idC_take (l : List Ins) : (idC l).take l.length = idC l := List.take_of_length_le (by rw [idC_len]; omega)
theorem runs_good (c : Clu) (k : Int) : Runs T211 a48 [.agg (clC c), .int .i64 k] (liV (goodP c k)) := by
  refine ⟨?_⟩
  have e : goodP c k = (idsL c k sGood).map Ins.id := by rw [goodP, idsP_eq]
  rw [e]
  cases hl : idsL c k sGood with
  | nil => simp (disch := first | omega | (simp [-List.map_take, -List.map_drop, -List.map_set, -List.map_append, -List.drop_one] <;> omega) | fail) [-List.map_take, -List.map_drop, -List.map_set, -List.map_append, -List.drop_one, a48, T211_i, cIds_good, hl, idV_nil, idO_nil, liV_nil]
  | cons x r =>
    have h1 := idC_len (x :: r)
    have h3 := idC_take (x :: r)
    simp only [List.length_cons] at h1 h3
    have h2 : idV 3 (x :: r) = .ms 3 (r.length + 1) 0 1 (r.length + 1) (r.length + 1) := rfl
    have h4 : liV (x.id :: r.map Ins.id) = .sl false 1 (r.length + 1) (idC (x :: r)) := by
      have : liV ((x :: r).map Ins.id) = .sl false 1 ((x :: r).map Ins.id).length (idC (x :: r)) := rfl
      simpa using this
    simp (disch := first | omega | (simp [-List.map_take, -List.map_drop, -List.map_set, -List.map_append, -List.drop_one] <;> omega) | fail) [-List.map_take, -List.map_drop, -List.map_set, -List.map_append, -List.drop_one, a48, T211_i, cIds_good, hl, h2, idO_cons, h1, h3, h4, snapL_clean (idC_pure _)]
noncomputable def cCk (f : Clu → Int → DV) : List DV → Option DV := con (fun _ => True) (fun a : Clu × Int => [.agg (clC a.1), .int .i64 a.2]) (fun a => f a.1 a.2)
theorem cCk_eq {f : Clu → Int → DV} {c : Clu} {k : Int} : cCk f [.agg (clC c), .int .i64 k] = some (f c k) :=
  con_inj (f := fun a : Clu × Int => [.agg (clC a.1), .int .i64 a.2]) (g := fun a => f a.1 a.2) (by
    rintro ⟨a, b⟩ ⟨c, d⟩ e
    simp only [List.cons.injEq, DV.agg.injEq, DV.int.injEq, and_true, true_and] at e
    rw [clC_inj e.1, e.2]) (c, k)
def liveD (c : Clu) (k : Int) : DV := .int .i64 (liveP c k)
def goodD (c : Clu) (k : Int) : DV := liV (goodP c k)
def roomD (c : Clu) (k : Int) : DV := .int .i64 (roomP c k)
noncomputable def T212 : Tbl := addT 45 (.pure (cCk liveD)) (addT 48 (.pure (cCk goodD)) tbl0)
theorem T212_l : T212 45 = .pure (cCk liveD) := by simp [T212]
theorem T212_g : T212 48 = .pure (cCk goodD) := by simp [T212]
theorem live_sound : (Con.pure (cCk liveD)).Sound P 45 := con_sound fun a _ => sem_runs mix T211_sound Tryd.func45 a45_ok (runs_live a.1 a.2)
theorem good_sound : (Con.pure (cCk goodD)).Sound P 48 := con_sound fun a _ => sem_runs mix T211_sound Tryd.func48 a48_ok (runs_good a.1 a.2)
theorem T212_sound : T212.Sound P := addT_sound live_sound (addT_sound good_sound tbl0_sound)
theorem grAt_neg {c : Clu} {k : Int} (h : k < 0) : grAt c k = none := if_neg (by omega)
theorem grAt_big {c : Clu} {K : Nat} (h : c.g.l.length ≤ K) : grAt c K = none := by
  rw [grAt, if_pos (by omega), Int.toNat_natCast, List.getElem?_eq_none_iff]; exact h
theorem grAt_in {c : Clu} {K : Nat} (h : K < c.g.l.length) : grAt c K = some c.g.l[K] := by rw [grAt, if_pos (by omega), Int.toNat_natCast, List.getElem?_eq_getElem h]
/-- what is needed of the limits -/
def LimOK (g : Grp) : Prop := (-1000000000 ≤ g.want ∧ g.want ≤ 1000000000) ∧ (-1000000000 ≤ g.least ∧ g.least ≤ 1000000000) ∧ -1000000000 ≤ g.down ∧ g.down ≤ 1000000000
theorem live_le {c : Clu} {k : Int} : liveP c k ≤ c.i.l.length := by
  unfold liveP idsP
  split
  · rw [List.length_map]; exact List.length_filter_le _ _
  · simp
theorem good_le {c : Clu} {k : Int} : (goodP c k).length ≤ c.i.l.length := by
  unfold goodP idsP
  split
  · rw [List.length_map]; exact List.length_filter_le _ _
  · simp
theorem runs_room (c : Clu) (k : Int) (hL : ∀ g ∈ c.g.l, LimOK g) : Runs T212 a50 [.agg (clC c), .int .i64 k] (roomD c k) := by
  refine ⟨?_⟩
  by_cases h0 : k < 0
  · have hr : roomP c k = 0 := by rw [roomP, grAt_neg h0]
    simp (disch := first | omega | (simp [-List.map_take, -List.map_drop, -List.map_set, -List.map_append, -List.drop_one] <;> omega) | fail) [-List.map_take, -List.map_drop, -List.map_set, -List.map_append, -List.drop_one, a50, h0, roomD, hr]
  obtain ⟨K, rfl⟩ : ∃ K : Nat, k = K := ⟨k.toNat, by omega⟩
  by_cases h1 : c.g.l.length ≤ K
  · have hr : roomP c K = 0 := by rw [roomP, grAt_big h1]
    have h1' : (c.g.l.length : Int) ≤ K := by omega
    simp (disch := first | omega | (simp [-List.map_take, -List.map_drop, -List.map_set, -List.map_append, -List.drop_one] <;> omega) | fail) [-List.map_take, -List.map_drop, -List.map_set, -List.map_append, -List.drop_one, a50, h0, h1, h1', roomD, hr]
  have h2 : K < c.g.l.length := by omega
  have h1' : ¬ (c.g.l.length : Int) ≤ K := by omega
  have hG := fun h => idxSD_dv (x := c.g) (h := h) len_grC h2
  have hlim := hL _ (List.getElem_mem h2)
  have hr : roomP c K = max ((liveP c K : Int) - max c.g.l[K].least (c.g.l[K].want - c.g.l[K].down)) 0 := by rw [roomP, grAt_in h2]
  obtain ⟨G, hGe⟩ : ∃ G, c.g.l[K] = G := ⟨_, rfl⟩
  rw [hGe] at hG hlim hr
  obtain ⟨⟨w1, w2⟩, ⟨l1, l2⟩, d1, d2⟩ := hlim
  have hll := live_le (c := c) (k := K)
  have hib := c.i.b
  obtain ⟨M, hM⟩ : ∃ M, max G.least (G.want - G.down) = M := ⟨_, rfl⟩
  rw [hM] at hr
  have m1 : -2000000000 ≤ M ∧ M ≤ 2000000000 := by omega
  simp (disch := first | omega | (simp [-List.map_take, -List.map_drop, -List.map_set, -List.map_append, -List.drop_one] <;> omega) | fail) [-List.map_take, -List.map_drop, -List.map_set, -List.map_append, -List.drop_one, a50, h0, h1, h1', hG, T212_l, cCk_eq, liveD, roomD, hr, storeO_gr, hM, E_mm2, mm2_max]
end Go.Proofs.YtjhakjeioppijaaDoor
/-
  Disruption: since, the order of victims, sorting.
-/
set_option linter.unusedSimpArgs false
set_option linter.unusedVariables false
namespace Go.Proofs.YtjhakjeioppijaaDoor
open Go Go.Am

/-! since -/
theorem runs_since1 (x : Ins) (id : Int) : Runs tbl0 a110 [.agg (inC x), .ref [.int .i64 id]] (.bool (decide (x.id = id))) := by
  refine ⟨?_⟩
  simp (disch := first | omega | (simp [-List.map_take, -List.map_drop, -List.map_set, -List.map_append, -List.drop_one] <;> omega) | fail) [-List.map_take, -List.map_drop, -List.map_set, -List.map_append, -List.drop_one, a110]
noncomputable def T213 : Tbl := addT 110 (.pure cFi1) tbl0
theorem T213_g : T213 110 = .pure cFi1 := by simp [T213]
theorem T213_sound : T213.Sound P := addT_sound (con_sound fun p _ => sem_runs mix tbl0_sound Tryd.func110 a110_ok (runs_since1 p.1 p.2)) tbl0_sound
abbrev fS (id : Int) : DV := .fn (.func 110) [] [.ref [.int .i64 id]]
def S213 (x : Sl Ins) (id : Int) (i : Nat) : St := a68S0 (x.dv 37 inC) (fS id) (.int .i64 x.l.length) (.int .i64 i) []
theorem runs_ixinS (x : Sl Ins) (id : Int) : Runs T213 a68 [x.dv 37 inC, fS id] (.int .i64 (findIx x.l id)) := by
  refine ⟨?_⟩
  have hb := x.b
  simp (disch := first | omega | (simp [-List.map_take, -List.map_drop, -List.map_set, -List.map_append, -List.drop_one] <;> omega) | fail) [-List.map_take, -List.map_drop, -List.map_set, -List.map_append, -List.drop_one, a68]
  refine W_loop (S213 x id) (fun i => x.l.length - i) (fun i => i ≤ x.l.length ∧ ∀ j (hj : j < x.l.length), j < i → decide (x.l[j].id = id) = false) 0 (weak_same (by simp (disch := first | omega | (simp [-List.map_take, -List.map_drop, -List.map_set, -List.map_append, -List.drop_one] <;> omega) | fail) [-List.map_take, -List.map_drop, -List.map_set, -List.map_append, -List.drop_one]) (by simp (disch := first | omega | (simp [-List.map_take, -List.map_drop, -List.map_set, -List.map_append, -List.drop_one] <;> omega) | fail) [-List.map_take, -List.map_drop, -List.map_set, -List.map_append, -List.drop_one])) ⟨by omega, fun j _ hj => by omega⟩ (fun i hi => ?_)
  obtain ⟨h1, h2⟩ := hi
  simp (disch := first | omega | (simp [-List.map_take, -List.map_drop, -List.map_set, -List.map_append, -List.drop_one] <;> omega) | fail) [-List.map_take, -List.map_drop, -List.map_set, -List.map_append, -List.drop_one, a68L0, a68S0, S213]
  by_cases h : i < x.l.length
  · have h' : (i : Int) < x.l.length := by omega
    have hg := idxSD_dv (x := x) (h := []) len_inC h
    by_cases e : x.l[i].id = id
    · have hr : findIx x.l id = i := ixI_at h (by simp [e]) h2
      simp (disch := first | omega | (simp [-List.map_take, -List.map_drop, -List.map_set, -List.map_append, -List.drop_one] <;> omega) | fail) [-List.map_take, -List.map_drop, -List.map_set, -List.map_append, -List.drop_one, h', h, hg, T213_g, cFi1_eq, e, hr]
    · simp (disch := first | omega | (simp [-List.map_take, -List.map_drop, -List.map_set, -List.map_append, -List.drop_one] <;> omega) | fail) [-List.map_take, -List.map_drop, -List.map_set, -List.map_append, -List.drop_one, h', h, hg, T213_g, cFi1_eq, e]
      refine ⟨i + 1, weak_same (by simp (disch := first | omega | (simp [-List.map_take, -List.map_drop, -List.map_set, -List.map_append, -List.drop_one] <;> omega) | fail) [-List.map_take, -List.map_drop, -List.map_set, -List.map_append, -List.drop_one]) (by simp (disch := first | omega | (simp [-List.map_take, -List.map_drop, -List.map_set, -List.map_append, -List.drop_one] <;> omega) | fail) [-List.map_take, -List.map_drop, -List.map_set, -List.map_append, -List.drop_one]), by omega, by omega, fun j hj hji => ?_⟩
      by_cases ej : j = i
      · subst ej; exact e
      · simpa using h2 j hj (by omega)
  · have h' : ¬ (i : Int) < x.l.length := by omega
    have hr : findIx x.l id = -1 := ixI_none (fun j hj => h2 j hj (by omega))
    simp (disch := first | omega | (simp [-List.map_take, -List.map_drop, -List.map_set, -List.map_append, -List.drop_one] <;> omega) | fail) [-List.map_take, -List.map_drop, -List.map_set, -List.map_append, -List.drop_one, h, h', hr]
noncomputable def cIxS : List DV → Option DV := con (fun _ => True) (fun p : Sl Ins × Int => [p.1.dv 37 inC, fS p.2]) (fun p => .int .i64 (findIx p.1.l p.2))
theorem cIxS_eq {x : Sl Ins} {id : Int} : cIxS [x.dv 37 inC, fS id] = some (.int .i64 (findIx x.l id)) :=
  con_inj (f := fun p : Sl Ins × Int => [p.1.dv 37 inC, fS p.2]) (by
    rintro ⟨a, b⟩ ⟨a', b'⟩ e
    simp only [List.cons.injEq, DV.fn.injEq, DV.ref.injEq, DV.int.injEq, and_true, true_and] at e
    rw [dv_inj len_inC (by decide) (fun _ _ => inC_inj) e.1, e.2]) (x, id)
noncomputable def T214 : Tbl := addT 68 (.pure cIxS) tbl0
theorem T214_g : T214 68 = .pure cIxS := by simp [T214]
theorem T214_sound : T214.Sound P := addT_sound (con_sound fun p _ => sem_runs mix T213_sound Tryd.func68 a68_ok (runs_ixinS p.1 p.2)) tbl0_sound
theorem since_ix {c : Clu} {id : Int} (h : 0 ≤ findIx c.i.l id) : ∃ (i : Nat) (hi : i < c.i.l.length), findIx c.i.l id = i ∧ c.i.l[i].den = sinceP c id := by
  obtain ⟨i, hi, e, p1, p2⟩ := ixI_pos h
  refine ⟨i, hi, e, ?_⟩
  have : c.i.l.find? (fun x => decide (x.id = id)) = some c.i.l[i] := by
    rw [List.find?_eq_some_iff_getElem]
    exact ⟨p1, i, hi, rfl, fun j hj => by simpa using p2 j (by omega) hj⟩
  rw [sinceP, this]
theorem runs_since (c : Clu) (id : Int) (h : 0 ≤ findIx c.i.l id) : Runs T214 a93 [.agg (clC c), .int .i64 id] (.int .i64 (sinceP c id)) := by
  refine ⟨?_⟩
  obtain ⟨i, hi, e1, e2⟩ := since_ix h
  have hg := fun H => idxSD_dv (x := c.i) (h := H) len_inC hi
  simp (disch := first | omega | (simp [-List.map_take, -List.map_drop, -List.map_set, -List.map_append, -List.drop_one] <;> omega) | fail) [-List.map_take, -List.map_drop, -List.map_set, -List.map_append, -List.drop_one, a93, T214_g, cIxS_eq, e1, hg, e2]
noncomputable def cSi : List DV → Option DV := con (fun a : Clu × Int => 0 ≤ findIx a.1.i.l a.2) (fun a : Clu × Int => [.agg (clC a.1), .int .i64 a.2]) (fun a => .int .i64 (sinceP a.1 a.2))
theorem cSi_eq {c : Clu} {id : Int} (h : 0 ≤ findIx c.i.l id) : cSi [.agg (clC c), .int .i64 id] = some (.int .i64 (sinceP c id)) :=
  con_eq (f := fun a : Clu × Int => [.agg (clC a.1), .int .i64 a.2]) (g := fun a => .int .i64 (sinceP a.1 a.2)) (by
    rintro ⟨a, b⟩ ⟨c, d⟩ e
    simp only [List.cons.injEq, DV.agg.injEq, DV.int.injEq, and_true, true_and] at e
    rw [clC_inj e.1, e.2]) (c, id) h
noncomputable def T215 : Tbl := addT 93 (.pure cSi) (addT 92 (.pure (cII fun a b => .int .i64 (cmpI a b))) (addT 94 (.pure (cII fun a b => .int .i64 (cmpI a b))) (addT 91 (.pure cOr) tbl0)))
theorem T215_s : T215 93 = .pure cSi := by simp [T215]
theorem T215_a : T215 92 = .pure (cII fun a b => .int .i64 (cmpI a b)) := by simp [T215]
theorem T215_b : T215 94 = .pure (cII fun a b => .int .i64 (cmpI a b)) := by simp [T215]
theorem T215_o : T215 91 = .pure cOr := by simp [T215]
theorem T215_sound : T215.Sound P := addT_sound (con_sound fun p h => sem_runs mix T214_sound Tryd.func93 a93_ok (runs_since p.1 p.2 h)) (addT_sound (con_sound fun p _ => sem_runs mix T203_sound Tryd.func92 a92_ok (runs_cmp64 p.1 p.2)) (addT_sound (con_sound fun p _ => sem_runs mix T203_sound Tryd.func94 a94_ok (runs_cmp p.1 p.2)) (addT_sound (con_sound fun p _ => sem_runs mix tbl0_sound Tryd.func91 a91_ok (runs_or p.1 p.2)) tbl0_sound)))
def cmpV (c : Clu) (a b : Int) : Int := orI (cmpI (sinceP c a) (sinceP c b)) (cmpI a b)
theorem cmpV_lt {c : Clu} {a b : Int} : cmpV c a b < 0 ↔ ltV c a b = true := by
  simp only [cmpV, orI, cmpI, ltV, Bool.or_eq_true, Bool.and_eq_true, decide_eq_true_eq]
  split <;> (try split at *) <;> (try split) <;> (try split) <;> omega
theorem runs_vic2 (c : Clu) (a b : Int) (ha : 0 ≤ findIx c.i.l a) (hb : 0 ≤ findIx c.i.l b) : Runs T215 a90 [.int .i64 a, .int .i64 b, .ref (clC c)] (.int .i64 (cmpV c a b)) := by
  refine ⟨?_⟩
  have h1 := cSi_eq ha
  have h2 := cSi_eq hb
  simp (disch := first | omega | (simp [-List.map_take, -List.map_drop, -List.map_set, -List.map_append, -List.drop_one] <;> omega) | fail) [-List.map_take, -List.map_drop, -List.map_set, -List.map_append, -List.drop_one, a90, T215_s, T215_a, T215_b, T215_o, h1, h2, cII_eq, cOr_eq, cmpV]
end Go.Proofs.YtjhakjeioppijaaDoor
/-
  Disruption: insertion sort, in place.
-/
set_option linter.unusedSimpArgs false
set_option linter.unusedVariables false
namespace Go.Proofs.YtjhakjeioppijaaDoor
open Go Go.Am

noncomputable def cV2 : List DV → Option DV := con (fun a : Clu × Int × Int => 0 ≤ findIx a.1.i.l a.2.1 ∧ 0 ≤ findIx a.1.i.l a.2.2) (fun a : Clu × Int × Int => [.int .i64 a.2.1, .int .i64 a.2.2, .ref (clC a.1)]) (fun a => .int .i64 (cmpV a.1 a.2.1 a.2.2))
theorem cV2_eq {c : Clu} {a b : Int} (ha : 0 ≤ findIx c.i.l a) (hb : 0 ≤ findIx c.i.l b) : cV2 [.int .i64 a, .int .i64 b, .ref (clC c)] = some (.int .i64 (cmpV c a b)) :=
  con_eq (f := fun a : Clu × Int × Int => [.int .i64 a.2.1, .int .i64 a.2.2, .ref (clC a.1)]) (g := fun a => .int .i64 (cmpV a.1 a.2.1 a.2.2)) (by
    rintro ⟨a, b, c⟩ ⟨d, e, f⟩ h
    simp only [List.cons.injEq, DV.ref.injEq, DV.int.injEq, and_true, true_and] at h
    rw [clC_inj h.2.2, h.1, h.2.1]) (c, a, b) ⟨ha, hb⟩
noncomputable def T216 : Tbl := addT 90 (.pure cV2) tbl0
theorem T216_v : T216 90 = .pure cV2 := by simp [T216]
theorem T216_sound : T216.Sound P := addT_sound (con_sound fun p h => sem_runs mix T215_sound Tryd.func90 a90_ok (runs_vic2 p.1 p.2.1 p.2.2 h.1 h.2)) tbl0_sound

theorem objV_pre0 {pre l : List AObj} {ver : Nat} : objV (pre ++ l) pre.length ver = objV l 0 ver := by
  unfold objV objAt; rw [List.getElem?_append_right (by omega), Nat.sub_self]
theorem set_pre0 {pre l : List AObj} {o : AObj} : (pre ++ l).set pre.length o = pre ++ l.set 0 o := by rw [List.set_append_right _ _ (by omega)]; simp
abbrev fV2 : DV := .fn (.func 90) [] [.mp 0 3 0]
/-- the state of an insertion -/
structure IP where
  A : List Int
  B : List Int
def insSt (pre : List AObj) (m n : Nat) (L : List Int) : List AObj := pre ++ [.cells (L.map (.int .i64))]
def S220 (pre : List AObj) (P : Nat) (n : Nat) (l : List Int) (lt : Int → Int → Bool) (i : Nat) : St := a116S0 (.ms P n 0 1 n n) (.int .i64 0) (.int .i64 n) fV2 (.int .i64 i) (pre ++ [.cells ((sortR lt (l.take i) ++ l.drop i).map (.int .i64))])
def S221 (pre : List AObj) (P : Nat) (n i : Nat) (x : Int) (R : List Int) (a : IP) : St := a116S1 (.ms P n 0 1 n n) (.int .i64 0) (.int .i64 n) fV2 (.int .i64 i) (.int .i64 a.A.length) (pre ++ [.cells ((a.A ++ x :: (a.B ++ R)).map (.int .i64))])
theorem sortR_len {lt : Int → Int → Bool} (l : List Int) : (sortR lt l).length = l.length := (sortR_perm l).length_eq
theorem sortR_one {lt : Int → Int → Bool} {l : List Int} (h : l.length ≤ 1) : sortR lt l = l := by
  match l, h with
  | [], _ => rfl
  | [a], _ => rfl
theorem swap_set {A B R : List Int} {x y : Int} : ((A ++ [y] ++ x :: (B ++ R)).set (A.length + 1) y).set A.length x = A ++ x :: (y :: B ++ R) := by
  rw [List.append_assoc, List.set_append_right _ _ (by omega), show A.length + 1 - A.length = 1 by omega, List.set_append_right _ _ (by omega), Nat.sub_self]
  rfl
theorem runs_ins (c : Clu) (pre : List AObj) (l : List Int) (hpre : ∀ X, objV (pre ++ X) 0 3 = some (clC c)) (hl : ∀ a ∈ l, 0 ≤ findIx c.i.l a) (hb : l.length ≤ 1000000) :
    RunsH T216 a116 [.ms pre.length l.length 0 1 l.length l.length, .int .i64 0, .int .i64 l.length, fV2] (pre ++ [.cells (l.map (.int .i64))]) (.tup []) (pre ++ [.cells ((sortR (ltV c) l).map (.int .i64))]) := by
  refine ⟨?_⟩
  obtain ⟨n, hn⟩ : ∃ n, l.length = n := ⟨_, rfl⟩
  obtain ⟨P0, hP⟩ : ∃ p, pre.length = p := ⟨_, rfl⟩
  obtain ⟨lt, hlt⟩ : ∃ lt, ltV c = lt := ⟨_, rfl⟩
  rw [hn, hlt]
  rw [hn] at hb
  simp (disch := first | omega | (simp [-List.map_take, -List.map_drop, -List.map_set, -List.map_append, -List.drop_one] <;> omega) | fail) [-List.map_take, -List.map_drop, -List.map_set, -List.map_append, -List.drop_one, a116]
  refine W_loop (S220 pre pre.length n l lt) (fun i => n + 1 - i) (fun i => 1 ≤ i ∧ (i ≤ n ∨ n = 0)) 1 (weak_same (by simp (disch := first | omega | (simp [-List.map_take, -List.map_drop, -List.map_set, -List.map_append, -List.drop_one] <;> omega) | fail) [-List.map_take, -List.map_drop, -List.map_set, -List.map_append, -List.drop_one, S220, a116S0]) ?_) ⟨by omega, by omega⟩ (fun i hi => ?_)
  · simp (disch := first | omega | (simp [-List.map_take, -List.map_drop, -List.map_set, -List.map_append, -List.drop_one] <;> omega) | fail) [-List.map_take, -List.map_drop, -List.map_set, -List.map_append, -List.drop_one, S220, a116S0]
    rw [sortR_one (by simp; omega), List.take_append_drop]
  obtain ⟨h1, h2⟩ := hi
  simp (disch := first | omega | (simp [-List.map_take, -List.map_drop, -List.map_set, -List.map_append, -List.drop_one] <;> omega) | fail) [-List.map_take, -List.map_drop, -List.map_set, -List.map_append, -List.drop_one, a116L0, a116S0, S220]
  by_cases h : i < n
  · have h' : (i : Int) < n := by omega
    have hil : i < l.length := by omega
    obtain ⟨x, hx⟩ : ∃ x, l[i] = x := ⟨_, rfl⟩
    have hd : l.drop i = x :: l.drop (i + 1) := by rw [List.drop_eq_getElem_cons hil, hx]
    obtain ⟨Q, hQ⟩ : ∃ Q, sortR lt (l.take i) = Q := ⟨_, rfl⟩
    have hQl : Q.length = i := by rw [← hQ, sortR_len]; simp; omega
    have hnext : sortR lt (l.take (i + 1)) = insR lt x Q := by rw [List.take_succ_eq_append_getElem hil, sortR_snoc, hQ, hx]
    have hQm : ∀ y ∈ Q, 0 ≤ findIx c.i.l y := fun y hy => hl y (List.mem_of_mem_take ((sortR_perm _).mem_iff.1 (hQ ▸ hy)))
    have hxm : 0 ≤ findIx c.i.l x := hl x (hx ▸ List.getElem_mem hil)
    obtain ⟨R, hR⟩ : ∃ R, l.drop (i + 1) = R := ⟨_, rfl⟩
    have hRl : R.length = n - (i + 1) := by rw [← hR]; simp; omega
    rw [hd, hQ, hR]
    simp (disch := first | omega | (simp [-List.map_take, -List.map_drop, -List.map_set, -List.map_append, -List.drop_one] <;> omega) | fail) [-List.map_take, -List.map_drop, -List.map_set, -List.map_append, -List.drop_one, h, h']
    refine W_loop (S221 pre pre.length n i x R) (fun a => a.A.length) (fun a => a.A ++ a.B = Q ∧ ∀ b ∈ a.B, lt x b = true) ⟨Q, []⟩ (weak_same (by simp (disch := first | omega | (simp [-List.map_take, -List.map_drop, -List.map_set, -List.map_append, -List.drop_one] <;> omega) | fail) [-List.map_take, -List.map_drop, -List.map_set, -List.map_append, -List.drop_one, S221, a116S1, hQl]) (by simp (disch := first | omega | (simp [-List.map_take, -List.map_drop, -List.map_set, -List.map_append, -List.drop_one] <;> omega) | fail) [-List.map_take, -List.map_drop, -List.map_set, -List.map_append, -List.drop_one, S221, a116S1])) ⟨by simp, by simp⟩ (fun a ha => ?_)
    obtain ⟨A, B⟩ := a
    obtain ⟨r1, r2⟩ := ha
    simp only at r1 r2
    simp (disch := first | omega | (simp [-List.map_take, -List.map_drop, -List.map_set, -List.map_append, -List.drop_one] <;> omega) | fail) [-List.map_take, -List.map_drop, -List.map_set, -List.map_append, -List.drop_one, a116L1, a116S1, S221]
    rcases (List.eq_nil_or_concat A) with rfl | ⟨A', y, rfl⟩
    · have e : insR lt x Q = x :: B := by rw [← r1]; exact insR_at r2 (.inl rfl)
      have hfin : sortR lt (l.take (i + 1)) ++ l.drop (i + 1) = x :: (B ++ R) := by rw [hnext, e, hR]; rfl
      simp (disch := first | omega | (simp [-List.map_take, -List.map_drop, -List.map_set, -List.map_append, -List.drop_one] <;> omega) | fail) [-List.map_take, -List.map_drop, -List.map_set, -List.map_append, -List.drop_one]
      refine ⟨i + 1, weak_same (by simp (disch := first | omega | (simp [-List.map_take, -List.map_drop, -List.map_set, -List.map_append, -List.drop_one] <;> omega) | fail) [-List.map_take, -List.map_drop, -List.map_set, -List.map_append, -List.drop_one, S220, a116S0]) (by simp (disch := first | omega | (simp [-List.map_take, -List.map_drop, -List.map_set, -List.map_append, -List.drop_one] <;> omega) | fail) [-List.map_take, -List.map_drop, -List.map_set, -List.map_append, -List.drop_one, S220, a116S0, hfin]), by omega, by omega, by omega⟩
    · rw [List.concat_eq_append] at r1
      have hly : 0 ≤ findIx c.i.l y := hQm y (by rw [← r1]; simp)
      have hAl : A'.length + 1 + B.length = i := by rw [← hQl, ← r1]; simp; omega
      obtain ⟨L, hL⟩ : ∃ L, A' ++ [y] ++ x :: (B ++ R) = L := ⟨_, rfl⟩
      have hLl : L.length = n := by rw [← hL]; simp; omega
      have g1 : ∀ h : A'.length < L.length, L[A'.length] = y := fun h => by subst hL; simp
      have g2 : ∀ h : A'.length + 1 < L.length, L[A'.length + 1] = x := fun h => by subst hL; simp [List.getElem_append_right]
      have hs := swap_set (A := A') (B := B) (R := R) (x := x) (y := y)
      rw [hL] at hs
      have hv := cV2_eq hxm hly
      have hq := cmpV_lt (c := c) (a := x) (b := y)
      rw [hlt] at hq
      cases hc : lt x y with
      | true =>
        have hq' : cmpV c x y < 0 := hq.2 hc
        simp (disch := first | omega | (simp [-List.map_take, -List.map_drop, -List.map_set, -List.map_append, -List.drop_one] <;> omega) | fail) [-List.map_take, -List.map_drop, -List.map_set, -List.map_append, -List.drop_one, hL, hLl, g1, g2, T216_v, hv, hpre, objV_pre0, set_pre0, hq', storeO_1_int, hs]
        refine ⟨⟨A', y :: B⟩, weak_same (by simp (disch := first | omega | (simp [-List.map_take, -List.map_drop, -List.map_set, -List.map_append, -List.drop_one] <;> omega) | fail) [-List.map_take, -List.map_drop, -List.map_set, -List.map_append, -List.drop_one, S221, a116S1]) (by simp (disch := first | omega | (simp [-List.map_take, -List.map_drop, -List.map_set, -List.map_append, -List.drop_one] <;> omega) | fail) [-List.map_take, -List.map_drop, -List.map_set, -List.map_append, -List.drop_one, S221, a116S1]), by simp, by simpa using r1, fun b hb => ?_⟩
        rcases List.mem_cons.1 hb with rfl | hb
        · exact hc
        · exact r2 b hb
      | false =>
        have hq' : ¬ cmpV c x y < 0 := fun q => by rw [hq.1 q] at hc; cases hc
        simp (disch := first | omega | (simp [-List.map_take, -List.map_drop, -List.map_set, -List.map_append, -List.drop_one] <;> omega) | fail) [-List.map_take, -List.map_drop, -List.map_set, -List.map_append, -List.drop_one, hL, hLl, g1, g2, T216_v, hv, hpre, objV_pre0, set_pre0, hq']
        have e : insR lt x Q = A' ++ [y] ++ x :: B := by rw [← r1]; exact insR_at r2 (.inr ⟨A', y, rfl, hc⟩)
        have hfin : sortR lt (l.take (i + 1)) ++ l.drop (i + 1) = L := by rw [hnext, e, hR, ← hL]; simp
        refine ⟨i + 1, weak_same (by simp (disch := first | omega | (simp [-List.map_take, -List.map_drop, -List.map_set, -List.map_append, -List.drop_one] <;> omega) | fail) [-List.map_take, -List.map_drop, -List.map_set, -List.map_append, -List.drop_one, S220, a116S0]) (by simp (disch := first | omega | (simp [-List.map_take, -List.map_drop, -List.map_set, -List.map_append, -List.drop_one] <;> omega) | fail) [-List.map_take, -List.map_drop, -List.map_set, -List.map_append, -List.drop_one, S220, a116S0, hfin]), by omega, by omega, by omega⟩
  · have h' : ¬ (i : Int) < n := by omega
    have e1 : l.drop i = [] := List.drop_of_length_le (by omega)
    have e2 : l.take i = l := List.take_of_length_le (by omega)
    simp (disch := first | omega | (simp [-List.map_take, -List.map_drop, -List.map_set, -List.map_append, -List.drop_one] <;> omega) | fail) [-List.map_take, -List.map_drop, -List.map_set, -List.map_append, -List.drop_one, h, h', e1, e2]
end Go.Proofs.YtjhakjeioppijaaDoor
/-
  slices.Grow of nil, at the level of worlds.
-/
set_option linter.unusedSimpArgs false
set_option linter.unusedVariables false
namespace Go.Proofs.YtjhakjeioppijaaDoor
open Go Go.RowKit Go.Am

theorem infoInt : (P.info? 3).map (fun i => (i.zero, i.size, i.bytes)) = some (some (.int .i64 0), 1, 8) := by kernel_rfl
set_option maxHeartbeats 2000000 in
set_option maxRecDepth 100000 in
theorem grow_zero (w : World) : Calls Tryd.prog 112 #[.slice none 0 0, .int .i64 0] w fun e w' => e = .returned (.slice none 0 0) ∧ w' = w := by
  go_enter Tryd.func112, Tryd.ntmps112
  go_wp2
  go_ret
  exact ⟨rfl, rfl⟩
set_option maxHeartbeats 2000000 in
set_option maxRecDepth 100000 in
theorem grow_pos (n : Nat) (w : World) (hn : 1 ≤ n) (hb : n ≤ 1000000) : Calls Tryd.prog 112 #[.slice none 0 0, .int .i64 n] w fun e w' =>
    ∃ cap, n ≤ cap ∧ e = .returned (.slice (some ⟨w.heap.size, 0, none⟩) 0 cap) ∧ w' = w.drew.alloc (.cells (Builtin.zeroCells (Value.int .i64 0).cells n ++ Builtin.zeroCells (Value.int .i64 0).cells (cap - n)) 3) := by
  obtain ⟨i0, hi, hz0, hz1, hz2⟩ := info_parts infoInt
  have happ := Lib.run_append_nil_zeros (P := P) w 35 3 35 3 i0 (.int .i64 0) .i64 .i64 Tryd.underlying35 Tryd.underlying3 hi hz0 n (by omega) (by omega) (by omega) (by rw [hz2]; omega)
  generalize hcap : grownCap w n 0 3 = cap2 at happ
  have hcapge : n ≤ cap2 := by rw [← hcap]; exact grownCap_ge w _ 0 3
  generalize hZ : (Builtin.zeroCells (Value.int .i64 0).cells n ++ Builtin.zeroCells (Value.int .i64 0).cells (cap2 - n)) = Z at happ
  go_enter Tryd.func112, Tryd.ntmps112
  go_wp2_with (at_builtin; refine Lib.wpList_append_run _ rfl _ _ _ _ rfl _ _ rfl rfl _ _ happ ?_)
  go_wp2
  go_ret
  exact ⟨cap2, hcapge, rfl, by rw [hZ]; rfl⟩

/-- what Grow lays -/
def growV (p n : Nat) : DV := if n = 0 then .nils else .ms p n 0 1 0 n
def growO (n : Nat) : List AObj := if n = 0 then [] else [.cells (reps n [.int .i64 0])]
theorem reps1_len (n : Nat) : (reps n [DV.int .i64 0]).length = n := by
  induction n with
  | zero => rfl
  | succ n ih => simp only [reps, List.length_append, ih]; simp; try omega
theorem calls_grow (n : Nat) (hb : n ≤ 1000000) : CallsA P 112 [.nils, .int .i64 n] [] (fun d h => d = growV 0 n ∧ h = growO n) := by
  refine fun X0 base w E vs hh hr => ?_
  obtain ⟨v1, v2, hv⟩ : ∃ v1 v2, vs = #[v1, v2] := by
    have h1 : vs.toList.length = 2 := hr.1
    match hq : vs.toList, h1 with
    | [v1, v2], _ => exact ⟨v1, v2, Array.ext' (by simpa using hq)⟩
  subst hv
  have r1 : Rep E (FX X0 E) w v1 .nils := hr.2 0 (by simp) (by simp)
  have r2 : Rep E (FX X0 E) w v2 (.int .i64 n) := hr.2 1 (by simp) (by simp)
  cases r1
  cases r2
  refine Does.of_ent (ent_of Tryd.func112 (by kernel_rfl) rfl) ?_
  by_cases h0 : n = 0
  · subst h0
    refine (grow_zero w).mono ?_
    rintro e w' ⟨rfl, rfl⟩
    exact ⟨_, .nils, [], E, rfl, ⟨rfl, rfl⟩, hh, .nils, .refl _ _ _ _⟩
  · refine (grow_pos n w (by omega) hb).mono ?_
    rintro e w' ⟨cap, hc, rfl, rfl⟩
    have hz : ∀ (E : Env) (X : Forb) (w : World), RepA E X w (Value.int .i64 0).cells.toList [.int .i64 0] := fun E X w => by
      refine ⟨rfl, fun i h1 h2 => ?_⟩
      have : i = 0 := by simp at h2; omega
      subst this
      exact .int _ _
    have hR := zeroCells_rep (hz E (FX X0 E) w.drew) (s := 1) rfl (by decide) n
    have hn := obj_new hh.drew hR (Builtin.zeroCells (Value.int .i64 0).cells (cap - n)).toList 3
    have he : ((Builtin.zeroCells (Value.int .i64 0).cells n).toList ++ (Builtin.zeroCells (Value.int .i64 0).cells (cap - n)).toList).toArray = Builtin.zeroCells (Value.int .i64 0).cells n ++ Builtin.zeroCells (Value.int .i64 0).cells (cap - n) := by apply Array.ext'; simp
    rw [he] at hn
    have hE : E = [] := List.eq_nil_of_length_eq_zero (by simpa using hh.len)
    subst hE
    refine ⟨_, .ms 0 n 0 1 0 n, [.cells (reps n [.int .i64 0])], _, rfl, ⟨by simp [growV, h0], by simp [growO, h0]⟩, hn.1, ?_, (trans_drew X0 base [] w).trans hn.2⟩
    have hl := reps1_len n
    have hs : (Builtin.zeroCells (Value.int .i64 0).cells n ++ Builtin.zeroCells (Value.int .i64 0).cells (cap - n)).size = cap := by
      simp [size_zeros, Value.cells]; omega
    exact ms_mk (b := w.drew.heap.size) (L := (reps n [DV.int .i64 0]).length) (arr := Builtin.zeroCells (Value.int .i64 0).cells n ++ Builtin.zeroCells (Value.int .i64 0).cells (cap - n)) (t := 3) (by simp) hl.symm (heap_alloc_new w.drew _) (by omega) (by omega) (fun _ => rfl) (by omega) (by rw [hs]; omega)
noncomputable def cGrow : List DV → Nat → Option (DV × List AObj) := conN (fun n : Nat => n ≤ 1000000) (fun n => [.nils, .int .i64 n]) (fun n => (growV 0 n, growO n))
theorem growV_sh {k n : Nat} : shD k (growV 0 n) = growV k n := by unfold growV; split <;> rfl
theorem growO_sh {k n : Nat} : (growO n).map (shO k) = growO n := by
  unfold growO; split
  · rfl
  · simp only [List.map_cons, List.map_nil, shO_cells]
    rw [shL_pure k _ ?_]
    induction n with
    | zero => rfl
    | succ n ih =>
      by_cases h : n = 0
      · subst h; rfl
      · exact pureL_append rfl (ih h)
theorem cGrow_eq {n k : Nat} (h : n ≤ 1000000) : cGrow [.nils, .int .i64 n] k = some (growV k n, growO n) := by
  have := conN_eq (A := fun n : Nat => n ≤ 1000000) (f := fun n => [.nils, .int .i64 n]) (g := fun n => (growV 0 n, growO n)) (fun a b e => by
    simp only [List.cons.injEq, DV.int.injEq, and_true, true_and, Int.natCast_inj] at e
    rw [e]) n h k
  rw [growV_sh, growO_sh] at this
  exact this
theorem grow_sound : (Con.new cGrow).Sound P 112 := conN_sound (fun n _ => rfl) fun n h => calls_grow n h
end Go.Proofs.YtjhakjeioppijaaDoor
/-
  Disruption: sorting, reversing, joining lists that a call has laid.
-/
set_option linter.unusedSimpArgs false
set_option linter.unusedVariables false
namespace Go.Proofs.YtjhakjeioppijaaDoor
open Go Go.Am

/-! a list of its own as the last object -/
def srtV (p : Nat) (l : List Int) : DV := if l = [] then .nils else .ms p l.length 0 1 l.length l.length
def srtH (pre : List AObj) (l : List Int) : List AObj := if l = [] then pre else pre ++ [.cells (l.map (.int .i64))]
theorem srtV_nil {p : Nat} : srtV p [] = .nils := rfl
theorem srtH_nil {pre : List AObj} : srtH pre [] = pre := rfl
theorem srtV_ne {p : Nat} {l : List Int} (h : l ≠ []) : srtV p l = .ms p l.length 0 1 l.length l.length := if_neg h
theorem srtH_ne {pre : List AObj} {l : List Int} (h : l ≠ []) : srtH pre l = pre ++ [.cells (l.map (.int .i64))] := if_neg h
theorem srt_inj {pre pre' : List AObj} {l l' : List Int} (h1 : srtV pre.length l = srtV pre'.length l') (h2 : srtH pre l = srtH pre' l') : pre = pre' ∧ l = l' := by
  by_cases e : l = []
  · by_cases e' : l' = []
    · subst e e'; exact ⟨h2, rfl⟩
    · subst e; rw [srtV_nil, srtV_ne e'] at h1; cases h1
  · by_cases e' : l' = []
    · subst e'; rw [srtV_nil, srtV_ne e] at h1; cases h1
    · rw [srtH_ne e, srtH_ne e'] at h2
      have h := List.append_inj' h2 rfl
      refine ⟨h.1, ?_⟩
      have h3 := h.2
      simp only [List.cons.injEq, AObj.cells.injEq, and_true, map_inj_i64] at h3
      exact h3
/-- what is sorted, and by what -/
structure SrtOK (a : Clu × List AObj × List Int) : Prop where
  h : ∀ X, objV (a.2.1 ++ X) 0 3 = some (clC a.1)
  l : ∀ x ∈ a.2.2, 0 ≤ findIx a.1.i.l x
  b : a.2.2.length ≤ 19
theorem SrtOK.c {a b : Clu × List AObj × List Int} (h1 : SrtOK a) (h2 : SrtOK b) (e : a.2.1 = b.2.1) : a.1 = b.1 := by
  have q1 := h1.h []
  have q2 := h2.h []
  rw [e, q2] at q1
  exact clC_inj (Option.some.inj q1).symm
noncomputable def cSrtG (f : Clu × List AObj × List Int → List DV) : List DV → List AObj → Option (DV × List AObj) := conH SrtOK (fun a => (f a, srtH a.2.1 a.2.2)) (fun a => (.tup [], srtH a.2.1 (sortR (ltV a.1) a.2.2)))
theorem cSrtG_eq {f : Clu × List AObj × List Int → List DV} (hf : ∀ a b, f a = f b → srtV a.2.1.length a.2.2 = srtV b.2.1.length b.2.2) {a : Clu × List AObj × List Int} (h : SrtOK a) : cSrtG f (f a) (srtH a.2.1 a.2.2) = some (.tup [], srtH a.2.1 (sortR (ltV a.1) a.2.2)) :=
  conH_eq' (A := SrtOK) (f := fun a => (f a, srtH a.2.1 a.2.2)) (g := fun a => (.tup [], srtH a.2.1 (sortR (ltV a.1) a.2.2))) (fun a b h1 h2 e => by
    simp only [Prod.mk.injEq] at e
    obtain ⟨p, q⟩ := srt_inj (hf a b e.1) e.2
    rw [p, q, h1.c h2 p]) a h
def fIns (a : Clu × List AObj × List Int) : List DV := [srtV a.2.1.length a.2.2, .int .i64 0, .int .i64 a.2.2.length, fV2]
def fStb (a : Clu × List AObj × List Int) : List DV := [srtV a.2.1.length a.2.2, .int .i64 a.2.2.length, fV2]
def fSrt (a : Clu × List AObj × List Int) : List DV := [srtV a.2.1.length a.2.2, fV2]
theorem cIns_eq {c : Clu} {pre : List AObj} {l : List Int} (h : SrtOK (c, pre, l)) : cSrtG fIns [srtV pre.length l, .int .i64 0, .int .i64 l.length, fV2] (srtH pre l) = some (.tup [], srtH pre (sortR (ltV c) l)) :=
  cSrtG_eq (f := fIns) (fun a b e => by simp only [fIns, List.cons.injEq] at e; exact e.1) h
theorem cStb_eq {c : Clu} {pre : List AObj} {l : List Int} (h : SrtOK (c, pre, l)) : cSrtG fStb [srtV pre.length l, .int .i64 l.length, fV2] (srtH pre l) = some (.tup [], srtH pre (sortR (ltV c) l)) :=
  cSrtG_eq (f := fStb) (fun a b e => by simp only [fStb, List.cons.injEq] at e; exact e.1) h
theorem cSrt_eq {c : Clu} {pre : List AObj} {l : List Int} (h : SrtOK (c, pre, l)) : cSrtG fSrt [srtV pre.length l, fV2] (srtH pre l) = some (.tup [], srtH pre (sortR (ltV c) l)) :=
  cSrtG_eq (f := fSrt) (fun a b e => by simp only [fSrt, List.cons.injEq] at e; exact e.1) h
theorem sortR_nil {lt : Int → Int → Bool} : sortR lt [] = [] := rfl
theorem sortR_ne {lt : Int → Int → Bool} {l : List Int} (h : l ≠ []) : sortR lt l ≠ [] := fun e => h (List.eq_nil_of_length_eq_zero (by rw [← sortR_len (lt := lt), e]; rfl))
theorem runs_ins0 (pre : List AObj) : RunsH T216 a116 [.nils, .int .i64 0, .int .i64 0, fV2] pre (.tup []) pre := by
  refine ⟨?_⟩
  simp (disch := first | omega | (simp [-List.map_take, -List.map_drop, -List.map_set, -List.map_append, -List.drop_one] <;> omega) | fail) [-List.map_take, -List.map_drop, -List.map_set, -List.map_append, -List.drop_one, a116]
  refine W_loop (fun _ : Unit => a116S0 .nils (.int .i64 0) (.int .i64 0) fV2 (.int .i64 1) pre) (fun _ => 0) (fun _ => True) () (weak_same (by simp (disch := first | omega | (simp [-List.map_take, -List.map_drop, -List.map_set, -List.map_append, -List.drop_one] <;> omega) | fail) [-List.map_take, -List.map_drop, -List.map_set, -List.map_append, -List.drop_one, a116S0]) (by simp (disch := first | omega | (simp [-List.map_take, -List.map_drop, -List.map_set, -List.map_append, -List.drop_one] <;> omega) | fail) [-List.map_take, -List.map_drop, -List.map_set, -List.map_append, -List.drop_one, a116S0])) trivial (fun i hi => ?_)
  simp (disch := first | omega | (simp [-List.map_take, -List.map_drop, -List.map_set, -List.map_append, -List.drop_one] <;> omega) | fail) [-List.map_take, -List.map_drop, -List.map_set, -List.map_append, -List.drop_one, a116L0, a116S0]
theorem runs_insG {a : Clu × List AObj × List Int} (h : SrtOK a) : RunsH T216 a116 (fIns a) (srtH a.2.1 a.2.2) (.tup []) (srtH a.2.1 (sortR (ltV a.1) a.2.2)) := by
  obtain ⟨c, pre, l⟩ := a
  by_cases e : l = []
  · subst e; exact runs_ins0 pre
  · have := runs_ins c pre l h.h h.l (by have := h.b; simp at this; omega)
    simp only [fIns, srtV_ne e, srtH_ne e, srtH_ne (sortR_ne e)]
    exact this
noncomputable def T217 : Tbl := addT 116 (.heap (cSrtG fIns)) tbl0
theorem T217_i : T217 116 = .heap (cSrtG fIns) := by simp [T217]
theorem T217_sound : T217.Sound P := addT_sound (conH_sound fun a h => calls_runs mix T216_sound Tryd.func116 a116_ok (runs_insG h)) tbl0_sound
theorem lenD_srt {pre : List AObj} {l : List Int} : lenD (srtH pre l) (srtV pre.length l) = some (.int .i64 l.length) := by
  by_cases e : l = []
  · subst e; rfl
  · rw [srtV_ne e, srtH_ne e]
    simp [objV_last]
theorem runs_stb {a : Clu × List AObj × List Int} (h : SrtOK a) : RunsH T217 a108 (fStb a) (srtH a.2.1 a.2.2) (.tup []) (srtH a.2.1 (sortR (ltV a.1) a.2.2)) := by
  obtain ⟨c, pre, l⟩ := a
  refine ⟨?_⟩
  have hb := h.b
  have he := cIns_eq h
  simp only at hb he ⊢
  obtain ⟨n, hn⟩ : ∃ n, l.length = n := ⟨_, rfl⟩
  rw [hn] at hb he
  simp only [fStb, hn]
  obtain ⟨V, hV⟩ : ∃ V, srtV pre.length l = V := ⟨_, rfl⟩
  rw [hV] at he ⊢
  obtain ⟨H, hH⟩ : ∃ H, srtH pre l = H := ⟨_, rfl⟩
  rw [hH] at he ⊢
  obtain ⟨K, hK⟩ : ∃ K, srtH pre (sortR (ltV c) l) = K := ⟨_, rfl⟩
  rw [hK] at he ⊢
  have h1 : ¬ (20 : Int) ≤ n := by omega
  have h2 : ¬ (20 : Int) < n := by omega
  simp (disch := first | omega | (simp [-List.map_take, -List.map_drop, -List.map_set, -List.map_append, -List.drop_one] <;> omega) | fail) [-List.map_take, -List.map_drop, -List.map_set, -List.map_append, -List.drop_one, a108]
  refine W_loop (fun _ : Unit => a108S0 V (.int .i64 n) fV2 (.int .i64 20) (.int .i64 0) (.int .i64 20) H) (fun _ => 0) (fun _ => True) () (weak_same (by simp (disch := first | omega | (simp [-List.map_take, -List.map_drop, -List.map_set, -List.map_append, -List.drop_one] <;> omega) | fail) [-List.map_take, -List.map_drop, -List.map_set, -List.map_append, -List.drop_one, a108S0]) (by simp (disch := first | omega | (simp [-List.map_take, -List.map_drop, -List.map_set, -List.map_append, -List.drop_one] <;> omega) | fail) [-List.map_take, -List.map_drop, -List.map_set, -List.map_append, -List.drop_one, a108S0])) trivial (fun i hi => ?_)
  simp (disch := first | omega | (simp [-List.map_take, -List.map_drop, -List.map_set, -List.map_append, -List.drop_one] <;> omega) | fail) [-List.map_take, -List.map_drop, -List.map_set, -List.map_append, -List.drop_one, a108L0, a108S0, h1, T217_i, he]
  refine W_loop (fun _ : Unit => a108S1 V (.int .i64 n) fV2 (.int .i64 20) K) (fun _ => 0) (fun _ => True) () ?_ trivial (fun i hi => ?_)
  · exact weak_same (by simp (disch := first | omega | (simp [-List.map_take, -List.map_drop, -List.map_set, -List.map_append, -List.drop_one] <;> omega) | fail) [-List.map_take, -List.map_drop, -List.map_set, -List.map_append, -List.drop_one, a108S1]) (by simp (disch := first | omega | (simp [-List.map_take, -List.map_drop, -List.map_set, -List.map_append, -List.drop_one] <;> omega) | fail) [-List.map_take, -List.map_drop, -List.map_set, -List.map_append, -List.drop_one, a108S1])
  simp (disch := first | omega | (simp [-List.map_take, -List.map_drop, -List.map_set, -List.map_append, -List.drop_one] <;> omega) | fail) [-List.map_take, -List.map_drop, -List.map_set, -List.map_append, -List.drop_one, a108L1, a108S1, h2]
end Go.Proofs.YtjhakjeioppijaaDoor
/-
  Disruption: SortStableFunc, Reverse, Concat.
-/
set_option linter.unusedSimpArgs false
set_option linter.unusedVariables false
namespace Go.Proofs.YtjhakjeioppijaaDoor
open Go Go.Am

noncomputable def T218 : Tbl := addT 108 (.heap (cSrtG fStb)) tbl0
theorem T218_s : T218 108 = .heap (cSrtG fStb) := by simp [T218]
theorem len_srtH {pre : List AObj} {l : List Int} : pre.length ≤ (srtH pre l).length := by
  by_cases e : l = []
  · subst e; exact Nat.le_refl _
  · rw [srtH_ne e]; simp
theorem T218_sound : T218.Sound P := addT_sound (conH_sound fun a h => calls_runs mix T217_sound Tryd.func108 a108_ok (runs_stb h)) tbl0_sound
theorem runs_srt {a : Clu × List AObj × List Int} (h : SrtOK a) : RunsH T218 a89 (fSrt a) (srtH a.2.1 a.2.2) (.tup []) (srtH a.2.1 (sortR (ltV a.1) a.2.2)) := by
  obtain ⟨c, pre, l⟩ := a
  refine ⟨?_⟩
  have he := cStb_eq h
  have hl := lenD_srt (pre := pre) (l := l)
  simp only at he hl ⊢
  simp only [fSrt]
  obtain ⟨V, hV⟩ : ∃ V, srtV pre.length l = V := ⟨_, rfl⟩
  rw [hV] at he hl ⊢
  obtain ⟨H, hH⟩ : ∃ H, srtH pre l = H := ⟨_, rfl⟩
  rw [hH] at he hl ⊢
  simp (disch := first | omega | (simp [-List.map_take, -List.map_drop, -List.map_set, -List.map_append, -List.drop_one] <;> omega) | fail) [-List.map_take, -List.map_drop, -List.map_set, -List.map_append, -List.drop_one, a89, T218_s, he, hl]
theorem sort_sound : (Con.heap (cSrtG fSrt)).Sound P 89 := conH_sound fun a h => calls_runs mix T218_sound Tryd.func89 a89_ok (runs_srt h)

/-! Reverse -/
structure RS where
  i : Nat
  j : Nat
  L : List Int
def S230 (pre : List AObj) (P n : Nat) (a : RS) : St := a97S0 (.ms P n 0 1 n n) (.int .i64 a.i) (.int .i64 a.j) (pre ++ [.cells (a.L.map (.int .i64))])
structure RInv (l : List Int) (n : Nat) (a : RS) : Prop where
  s : a.i + a.j + 1 = n
  ln : a.L.length = n
  g : ∀ k, k < n → a.L[k]? = if k < a.i ∨ a.j < k then l[n - 1 - k]? else l[k]?
theorem rinv_end {l : List Int} {n : Nat} {a : RS} (hl : l.length = n) (h : RInv l n a) (he : a.j ≤ a.i) : a.L = l.reverse := by
  apply List.ext_getElem?
  intro k
  by_cases hk : k < n
  · rw [h.g k hk, List.getElem?_reverse (by omega), hl]
    split
    · rfl
    · have := h.s
      have : n - 1 - k = k := by omega
      rw [this]
  · rw [List.getElem?_eq_none (by rw [h.ln]; omega), List.getElem?_eq_none (by rw [List.length_reverse]; omega)]
theorem rinv_next {l : List Int} {n : Nat} {i j : Nat} {L : List Int} (hl : l.length = n) (h : RInv l n ⟨i, j, L⟩) (hi : i < j) (x y : Int) (hx : L[i]? = some x) (hy : L[j]? = some y) : RInv l n ⟨i + 1, j - 1, (L.set i y).set j x⟩ := by
  obtain ⟨h1, h2, h3⟩ := h
  simp only at h1 h2 h3
  refine ⟨by simp only; omega, by simpa using h2, fun k hk => ?_⟩
  have gx := h3 i (by omega)
  have gy := h3 j (by omega)
  rw [if_neg (by omega), hx] at gx
  rw [if_neg (by omega), hy] at gy
  have hLk := h3 k hk
  simp only [List.getElem?_set, List.length_set]
  by_cases e1 : j = k
  · subst e1
    rw [if_pos rfl, if_pos (by omega), if_pos (by omega), show n - 1 - j = i by omega]
    exact gx
  · rw [if_neg e1]
    by_cases e2 : i = k
    · subst e2
      rw [if_pos rfl, if_pos (by omega), if_pos (by omega), show n - 1 - i = j by omega]
      exact gy
    · rw [if_neg e2, hLk]
      by_cases e3 : k < i ∨ j < k
      · rw [if_pos e3, if_pos (by omega)]
      · rw [if_neg e3, if_neg (by omega)]
theorem runs_rev (pre : List AObj) (l : List Int) (h0 : l ≠ []) (hb : l.length ≤ 1000000) : RunsH tbl0 a97 [.ms pre.length l.length 0 1 l.length l.length] (pre ++ [.cells (l.map (.int .i64))]) (.tup []) (pre ++ [.cells (l.reverse.map (.int .i64))]) := by
  refine ⟨?_⟩
  obtain ⟨n, hn⟩ : ∃ n, l.length = n := ⟨_, rfl⟩
  rw [hn] at hb ⊢
  obtain ⟨m, rfl⟩ : ∃ m, n = m + 1 := ⟨n - 1, by cases l with | nil => exact absurd rfl h0 | cons a l => simp at hn; omega⟩
  simp (disch := first | omega | (simp [-List.map_take, -List.map_drop, -List.map_set, -List.map_append, -List.drop_one] <;> omega) | fail) [-List.map_take, -List.map_drop, -List.map_set, -List.map_append, -List.drop_one, a97, objV_pre0, hn]
  refine W_loop (S230 pre pre.length (m + 1)) (fun a => a.j + 1 - a.i) (fun a => RInv l (m + 1) a) ⟨0, m, l⟩ (weak_same (by simp (disch := first | omega | (simp [-List.map_take, -List.map_drop, -List.map_set, -List.map_append, -List.drop_one] <;> omega) | fail) [-List.map_take, -List.map_drop, -List.map_set, -List.map_append, -List.drop_one, S230, a97S0]) (by simp (disch := first | omega | (simp [-List.map_take, -List.map_drop, -List.map_set, -List.map_append, -List.drop_one] <;> omega) | fail) [-List.map_take, -List.map_drop, -List.map_set, -List.map_append, -List.drop_one, S230, a97S0])) ⟨by simp, hn, fun k hk => by rw [if_neg (by simp only; omega)]⟩ (fun a ha => ?_)
  obtain ⟨i, j, L⟩ := a
  have hs := ha.s
  have hl := ha.ln
  simp only at hs hl
  simp (disch := first | omega | (simp [-List.map_take, -List.map_drop, -List.map_set, -List.map_append, -List.drop_one] <;> omega) | fail) [-List.map_take, -List.map_drop, -List.map_set, -List.map_append, -List.drop_one, a97L0, a97S0, S230]
  by_cases h : i < j
  · have h' : (i : Int) < j := by omega
    have hi : i < L.length := by omega
    have hj : j < L.length := by omega
    have hij : j < (L.set i L[j]).length := by rw [List.length_set]; exact hj
    have hj1 : ((j - 1 : Nat) : Int) = (j : Int) - 1 := by omega
    have hnx := rinv_next hn ha h L[i] L[j] (List.getElem?_eq_getElem hi) (List.getElem?_eq_getElem hj)
    simp (disch := first | omega | (simp [-List.map_take, -List.map_drop, -List.map_set, -List.map_append, -List.drop_one] <;> omega) | fail) [-List.map_take, -List.map_drop, -List.map_set, -List.map_append, -List.drop_one, h, h', hl, hi, hj, objV_pre0, set_pre0, storeO_1_int, List.length_set]
    refine ⟨⟨i + 1, j - 1, (L.set i L[j]).set j L[i]⟩, weak_same (by simp (disch := first | omega | (simp [-List.map_take, -List.map_drop, -List.map_set, -List.map_append, -List.drop_one] <;> omega) | fail) [-List.map_take, -List.map_drop, -List.map_set, -List.map_append, -List.drop_one, S230, a97S0, hj1]) (by simp (disch := first | omega | (simp [-List.map_take, -List.map_drop, -List.map_set, -List.map_append, -List.drop_one] <;> omega) | fail) [-List.map_take, -List.map_drop, -List.map_set, -List.map_append, -List.drop_one, S230, a97S0]), by simp only; omega, hnx⟩
  · have h' : ¬ (i : Int) < j := by omega
    have e := rinv_end hn ha (by simp only; omega)
    simp only at e
    simp (disch := first | omega | (simp [-List.map_take, -List.map_drop, -List.map_set, -List.map_append, -List.drop_one] <;> omega) | fail) [-List.map_take, -List.map_drop, -List.map_set, -List.map_append, -List.drop_one, h, h', e]
theorem runs_rev0 (pre : List AObj) : RunsH tbl0 a97 [.nils] pre (.tup []) pre := by
  refine ⟨?_⟩
  simp (disch := first | omega | (simp [-List.map_take, -List.map_drop, -List.map_set, -List.map_append, -List.drop_one] <;> omega) | fail) [-List.map_take, -List.map_drop, -List.map_set, -List.map_append, -List.drop_one, a97]
  refine W_loop (fun _ : Unit => a97S0 .nils (.int .i64 0) (.int .i64 (-1)) pre) (fun _ => 0) (fun _ => True) () (weak_same (by simp (disch := first | omega | (simp [-List.map_take, -List.map_drop, -List.map_set, -List.map_append, -List.drop_one] <;> omega) | fail) [-List.map_take, -List.map_drop, -List.map_set, -List.map_append, -List.drop_one, a97S0]) (by simp (disch := first | omega | (simp [-List.map_take, -List.map_drop, -List.map_set, -List.map_append, -List.drop_one] <;> omega) | fail) [-List.map_take, -List.map_drop, -List.map_set, -List.map_append, -List.drop_one, a97S0])) trivial (fun i hi => ?_)
  simp (disch := first | omega | (simp [-List.map_take, -List.map_drop, -List.map_set, -List.map_append, -List.drop_one] <;> omega) | fail) [-List.map_take, -List.map_drop, -List.map_set, -List.map_append, -List.drop_one, a97L0, a97S0]
noncomputable def cRev : List DV → List AObj → Option (DV × List AObj) := conH (fun a : List AObj × List Int => a.2.length ≤ 1000000) (fun a => ([srtV a.1.length a.2], srtH a.1 a.2)) (fun a => (.tup [], srtH a.1 a.2.reverse))
theorem cRev_eq {pre : List AObj} {l : List Int} (h : l.length ≤ 1000000) : cRev [srtV pre.length l] (srtH pre l) = some (.tup [], srtH pre l.reverse) :=
  conH_eq (A := fun a : List AObj × List Int => a.2.length ≤ 1000000) (f := fun a => ([srtV a.1.length a.2], srtH a.1 a.2)) (g := fun a => (.tup [], srtH a.1 a.2.reverse)) (fun a b e => by
    simp only [Prod.mk.injEq, List.cons.injEq, and_true] at e
    obtain ⟨p, q⟩ := srt_inj e.1 e.2
    rw [p, q]) (pre, l) h
theorem rev_sound : (Con.heap cRev).Sound P 97 := conH_sound fun a h => calls_runs mix tbl0_sound Tryd.func97 a97_ok (by
  obtain ⟨pre, l⟩ := a
  by_cases e : l = []
  · subst e; exact runs_rev0 pre
  · have := runs_rev pre l e h
    simp only [srtV_ne e, srtH_ne e, srtH_ne (show l.reverse ≠ [] by simpa using e)]
    exact this)
end Go.Proofs.YtjhakjeioppijaaDoor
/-
  Disruption: Concat.
-/
set_option linter.unusedSimpArgs false
set_option linter.unusedVariables false
namespace Go.Proofs.YtjhakjeioppijaaDoor
open Go Go.Am

/-- a list that can be read, whatever is laid behind -/
structure VisL (h : List AObj) (x : DV) (l : List Int) : Prop where
  len : ∀ X, lenD (h ++ X) x = some (.int .i64 l.length)
  vis : ∀ X, visY (h ++ X) x = some (l.length, l.map (.int .i64))
  one : x.one = true
structure CA where
  h : List AObj
  x : DV
  y : DV
  z : DV
  lx : List Int
  ly : List Int
  lz : List Int
structure CAOK (a : CA) : Prop where
  x : VisL a.h a.x a.lx
  y : VisL a.h a.y a.ly
  z : VisL a.h a.z a.lz
  b : a.lx.length + a.ly.length + a.lz.length ≤ 1000000
/-- the new list, with room for n numbers, u of them laid -/
def newV (p n k : Nat) : DV := if n = 0 then .nils else .ms p n 0 1 k n
def newH (pre : List AObj) (n : Nat) (u : List Int) : List AObj := if n = 0 then pre else pre ++ [.cells ((u ++ List.replicate (n - u.length) 0).map (.int .i64))]
theorem newH_form (pre : List AObj) (n : Nat) (u : List Int) : ∃ X, newH pre n u = pre ++ X := by
  unfold newH; split
  · exact ⟨[], by simp⟩
  · exact ⟨_, rfl⟩
theorem splice_mid {u v : List Int} {m : Nat} (hm : v.length ≤ m) : splice ((u ++ List.replicate m 0).map (DV.int .i64)) u.length (v.map (.int .i64)) = (u ++ v ++ List.replicate (m - v.length) 0).map (DV.int .i64) := by
  unfold splice
  rw [← List.map_take, ← List.map_drop, List.take_left' rfl, List.length_map, ← List.drop_drop, List.drop_left' rfl, List.drop_replicate, ← List.map_append, ← List.map_append]
theorem appX_new {pre : List AObj} {n : Nat} {u v : List Int} (h : u.length + v.length ≤ n) (hn : n ≤ 1000000) : appX (newH pre n u) 1 8 (newV pre.length n u.length) v.length (v.map (.int .i64)) = some (newV pre.length n (u.length + v.length), newH pre n (u ++ v)) := by
  by_cases h0 : n = 0
  · subst h0
    have hu : u = [] := List.eq_nil_of_length_eq_zero (by omega)
    have hv : v = [] := List.eq_nil_of_length_eq_zero (by omega)
    subst hu hv
    exact appX_nils0 (by decide) (by decide)
  · simp only [newV, newH, if_neg h0]
    have hl : ((u ++ List.replicate (n - u.length) 0).map (DV.int .i64)).length = n := by simp; omega
    have ho : objAt (pre ++ [.cells ((u ++ List.replicate (n - u.length) 0).map (DV.int .i64))]) pre.length = some ((u ++ List.replicate (n - u.length) 0).map (DV.int .i64)) := by simp [objAt]
    have hs := splice_mid (u := u) (v := v) (m := n - u.length) (by omega)
    have ha : (v.map (DV.int .i64)).all DV.one = true := by simp [DV.one]
    unfold appX
    rw [if_neg (by simp)]
    simp only [ho, Option.bind_some, hl, ha, and_true, if_true]
    by_cases hv : v.length = 0
    · have hv' : v = [] := List.eq_nil_of_length_eq_zero hv
      subst hv'
      simp
    · rw [if_neg hv, if_pos (by omega)]
      rw [set_pre0]
      simp only [Nat.zero_add, Nat.mul_one, hs, List.set_cons_zero, List.length_append, show n - u.length - v.length = n - (u.length + v.length) by omega]
theorem newV_zero {p n : Nat} : newV p n 0 = growV p n := rfl
theorem newH_zero {pre : List AObj} {n : Nat} : newH pre n [] = pre ++ growO n := by
  unfold newH growO; split
  · simp
  · have : reps n [DV.int .i64 0] = (List.replicate n 0).map (.int .i64) := by
      induction n with
      | zero => rfl
      | succ n ih =>
        by_cases h : n = 0
        · subst h; rfl
        · have := ih h
          simp only [reps] at this ⊢
          rw [List.replicate_succ, List.flatten_cons, this, List.replicate_succ]; rfl
    rw [this]; simp
noncomputable def T219 : Tbl := addT 112 (.new cGrow) tbl0
theorem T219_g : T219 112 = .new cGrow := by simp [T219]
theorem T219_sound : T219.Sound P := addT_sound grow_sound tbl0_sound
def sumTo (a b c : Nat) : Nat → Nat
  | 0 => 0
  | 1 => a
  | 2 => a + b
  | _ => a + b + c
def catTo (a b c : List Int) : Nat → List Int
  | 0 => []
  | 1 => a
  | 2 => a ++ b
  | _ => a ++ (b ++ c)
def S240 (a : CA) (i : Nat) : St := a98S0 (.sl true 1 3 [a.x, a.y, a.z]) (.int .i64 (sumTo a.lx.length a.ly.length a.lz.length i)) (.sl true 1 3 [a.x, a.y, a.z]) (.int .i64 3) (.int .i64 i) a.h
def S241 (a : CA) (n : Nat) (i : Nat) : St := a98S1 (newV a.h.length n (catTo a.lx a.ly a.lz i).length) (.sl true 1 3 [a.x, a.y, a.z]) (.int .i64 3) (.int .i64 i) (newH a.h n (catTo a.lx a.ly a.lz i))
set_option maxHeartbeats 1000000 in
theorem runs_concat (a : CA) (h : CAOK a) : RunsH T219 a98 [.sl true 1 3 [a.x, a.y, a.z]] a.h (srtV a.h.length (a.lx ++ (a.ly ++ a.lz))) (srtH a.h (a.lx ++ (a.ly ++ a.lz))) := by
  refine ⟨?_⟩
  obtain ⟨n, hn⟩ : ∃ n, a.lx.length + a.ly.length + a.lz.length = n := ⟨_, rfl⟩
  have hb := h.b
  rw [hn] at hb
  have lx := h.x.len []
  have ly := h.y.len []
  have lz := h.z.len []
  rw [List.append_nil] at lx ly lz
  have ox := h.x.one
  have oy := h.y.one
  have oz := h.z.one
  have n1 : ¬ (a.lx.length : Int) < 0 := by omega
  have n2 : ¬ (a.lx.length : Int) + (a.ly.length : Int) < 0 := by omega
  have n3 : ¬ (a.lx.length : Int) + (a.ly.length : Int) + (a.lz.length : Int) < 0 := by omega
  have hvx : ∀ n u, visY (newH a.h n u) a.x = some (a.lx.length, a.lx.map (.int .i64)) := fun n u => by obtain ⟨X, e⟩ := newH_form a.h n u; rw [e]; exact h.x.vis X
  have hvy : ∀ n u, visY (newH a.h n u) a.y = some (a.ly.length, a.ly.map (.int .i64)) := fun n u => by obtain ⟨X, e⟩ := newH_form a.h n u; rw [e]; exact h.y.vis X
  have hvz : ∀ n u, visY (newH a.h n u) a.z = some (a.lz.length, a.lz.map (.int .i64)) := fun n u => by obtain ⟨X, e⟩ := newH_form a.h n u; rw [e]; exact h.z.vis X
  simp (disch := first | omega | (simp [-List.map_take, -List.map_drop, -List.map_set, -List.map_append, -List.drop_one] <;> omega) | fail) [-List.map_take, -List.map_drop, -List.map_set, -List.map_append, -List.drop_one, a98]
  refine W_loop (S240 a) (fun i => 3 - i) (fun i => i ≤ 3) 0 (weak_same (by simp (disch := first | omega | (simp [-List.map_take, -List.map_drop, -List.map_set, -List.map_append, -List.drop_one] <;> omega) | fail) [-List.map_take, -List.map_drop, -List.map_set, -List.map_append, -List.drop_one, S240, a98S0, sumTo]) (by simp (disch := first | omega | (simp [-List.map_take, -List.map_drop, -List.map_set, -List.map_append, -List.drop_one] <;> omega) | fail) [-List.map_take, -List.map_drop, -List.map_set, -List.map_append, -List.drop_one, S240, a98S0])) (by omega) (fun i hi => ?_)
  simp (disch := first | omega | (simp [-List.map_take, -List.map_drop, -List.map_set, -List.map_append, -List.drop_one] <;> omega) | fail) [-List.map_take, -List.map_drop, -List.map_set, -List.map_append, -List.drop_one, a98L0, a98S0, S240]
  rcases (show i = 0 ∨ i = 1 ∨ i = 2 ∨ i = 3 by omega) with rfl | rfl | rfl | rfl
  · simp (disch := first | omega | (simp [-List.map_take, -List.map_drop, -List.map_set, -List.map_append, -List.drop_one] <;> omega) | fail) [-List.map_take, -List.map_drop, -List.map_set, -List.map_append, -List.drop_one, lx, ox, sumTo, n1]
    exact ⟨1, weak_same (by simp (disch := first | omega | (simp [-List.map_take, -List.map_drop, -List.map_set, -List.map_append, -List.drop_one] <;> omega) | fail) [-List.map_take, -List.map_drop, -List.map_set, -List.map_append, -List.drop_one, S240, a98S0, sumTo]) (by simp (disch := first | omega | (simp [-List.map_take, -List.map_drop, -List.map_set, -List.map_append, -List.drop_one] <;> omega) | fail) [-List.map_take, -List.map_drop, -List.map_set, -List.map_append, -List.drop_one, S240, a98S0]), by simp⟩
  · simp (disch := first | omega | (simp [-List.map_take, -List.map_drop, -List.map_set, -List.map_append, -List.drop_one] <;> omega) | fail) [-List.map_take, -List.map_drop, -List.map_set, -List.map_append, -List.drop_one, ly, oy, sumTo, n2]
    exact ⟨2, weak_same (by simp (disch := first | omega | (simp [-List.map_take, -List.map_drop, -List.map_set, -List.map_append, -List.drop_one] <;> omega) | fail) [-List.map_take, -List.map_drop, -List.map_set, -List.map_append, -List.drop_one, S240, a98S0, sumTo]) (by simp (disch := first | omega | (simp [-List.map_take, -List.map_drop, -List.map_set, -List.map_append, -List.drop_one] <;> omega) | fail) [-List.map_take, -List.map_drop, -List.map_set, -List.map_append, -List.drop_one, S240, a98S0]), by simp⟩
  · simp (disch := first | omega | (simp [-List.map_take, -List.map_drop, -List.map_set, -List.map_append, -List.drop_one] <;> omega) | fail) [-List.map_take, -List.map_drop, -List.map_set, -List.map_append, -List.drop_one, lz, oz, sumTo, n3]
    exact ⟨3, weak_same (by simp (disch := first | omega | (simp [-List.map_take, -List.map_drop, -List.map_set, -List.map_append, -List.drop_one] <;> omega) | fail) [-List.map_take, -List.map_drop, -List.map_set, -List.map_append, -List.drop_one, S240, a98S0, sumTo]) (by simp (disch := first | omega | (simp [-List.map_take, -List.map_drop, -List.map_set, -List.map_append, -List.drop_one] <;> omega) | fail) [-List.map_take, -List.map_drop, -List.map_set, -List.map_append, -List.drop_one, S240, a98S0]), by simp⟩
  · have hg := cGrow_eq (n := n) (k := a.h.length) hb
    simp (disch := first | omega | (simp [-List.map_take, -List.map_drop, -List.map_set, -List.map_append, -List.drop_one] <;> omega) | fail) [-List.map_take, -List.map_drop, -List.map_set, -List.map_append, -List.drop_one, sumTo, hn, T219_g, hg]
    refine W_loop (S241 a n) (fun i => 3 - i) (fun i => i ≤ 3) 0 (weak_same (by simp (disch := first | omega | (simp [-List.map_take, -List.map_drop, -List.map_set, -List.map_append, -List.drop_one] <;> omega) | fail) [-List.map_take, -List.map_drop, -List.map_set, -List.map_append, -List.drop_one, S241, a98S1, catTo, newV_zero]) (by simp (disch := first | omega | (simp [-List.map_take, -List.map_drop, -List.map_set, -List.map_append, -List.drop_one] <;> omega) | fail) [-List.map_take, -List.map_drop, -List.map_set, -List.map_append, -List.drop_one, S241, a98S1, catTo, newH_zero])) (by omega) (fun i hi => ?_)
    simp (disch := first | omega | (simp [-List.map_take, -List.map_drop, -List.map_set, -List.map_append, -List.drop_one] <;> omega) | fail) [-List.map_take, -List.map_drop, -List.map_set, -List.map_append, -List.drop_one, a98L1, a98S1, S241]
    rcases (show i = 0 ∨ i = 1 ∨ i = 2 ∨ i = 3 by omega) with rfl | rfl | rfl | rfl
    · have ha := appX_new (pre := a.h) (n := n) (u := []) (v := a.lx) (by simp; omega) hb
      simp only [List.nil_append, List.length_nil, Nat.zero_add] at ha
      simp (disch := first | omega | (simp [-List.map_take, -List.map_drop, -List.map_set, -List.map_append, -List.drop_one] <;> omega) | fail) [-List.map_take, -List.map_drop, -List.map_set, -List.map_append, -List.drop_one, catTo, ox, hvx, ha]
      exact ⟨1, weak_same (by simp (disch := first | omega | (simp [-List.map_take, -List.map_drop, -List.map_set, -List.map_append, -List.drop_one] <;> omega) | fail) [-List.map_take, -List.map_drop, -List.map_set, -List.map_append, -List.drop_one, S241, a98S1, catTo]) (by simp (disch := first | omega | (simp [-List.map_take, -List.map_drop, -List.map_set, -List.map_append, -List.drop_one] <;> omega) | fail) [-List.map_take, -List.map_drop, -List.map_set, -List.map_append, -List.drop_one, S241, a98S1, catTo]), by simp⟩
    · have ha := appX_new (pre := a.h) (n := n) (u := a.lx) (v := a.ly) (by omega) hb
      simp (disch := first | omega | (simp [-List.map_take, -List.map_drop, -List.map_set, -List.map_append, -List.drop_one] <;> omega) | fail) [-List.map_take, -List.map_drop, -List.map_set, -List.map_append, -List.drop_one, catTo, oy, hvy, ha]
      exact ⟨2, weak_same (by simp (disch := first | omega | (simp [-List.map_take, -List.map_drop, -List.map_set, -List.map_append, -List.drop_one] <;> omega) | fail) [-List.map_take, -List.map_drop, -List.map_set, -List.map_append, -List.drop_one, S241, a98S1, catTo]) (by simp (disch := first | omega | (simp [-List.map_take, -List.map_drop, -List.map_set, -List.map_append, -List.drop_one] <;> omega) | fail) [-List.map_take, -List.map_drop, -List.map_set, -List.map_append, -List.drop_one, S241, a98S1, catTo]), by simp⟩
    · have ha := appX_new (pre := a.h) (n := n) (u := a.lx ++ a.ly) (v := a.lz) (by simp; omega) hb
      simp only [List.length_append, List.append_assoc, Nat.add_assoc] at ha
      simp (disch := first | omega | (simp [-List.map_take, -List.map_drop, -List.map_set, -List.map_append, -List.drop_one] <;> omega) | fail) [-List.map_take, -List.map_drop, -List.map_set, -List.map_append, -List.drop_one, catTo, oz, hvz, ha, Nat.add_assoc]
      exact ⟨3, weak_same (by simp (disch := first | omega | (simp [-List.map_take, -List.map_drop, -List.map_set, -List.map_append, -List.drop_one] <;> omega) | fail) [-List.map_take, -List.map_drop, -List.map_set, -List.map_append, -List.drop_one, S241, a98S1, catTo]) (by simp (disch := first | omega | (simp [-List.map_take, -List.map_drop, -List.map_set, -List.map_append, -List.drop_one] <;> omega) | fail) [-List.map_take, -List.map_drop, -List.map_set, -List.map_append, -List.drop_one, S241, a98S1, catTo]), by simp⟩
    · have e1 : newV a.h.length n (a.lx ++ (a.ly ++ a.lz)).length = srtV a.h.length (a.lx ++ (a.ly ++ a.lz)) := by
        have hl : (a.lx ++ (a.ly ++ a.lz)).length = n := by simp only [List.length_append]; omega
        unfold newV srtV
        by_cases e : n = 0
        · rw [if_pos e, if_pos (List.eq_nil_of_length_eq_zero (by omega))]
        · rw [if_neg e, if_neg (fun q => e (by rw [← hl, q]; rfl)), hl]
      have e2 : newH a.h n (a.lx ++ (a.ly ++ a.lz)) = srtH a.h (a.lx ++ (a.ly ++ a.lz)) := by
        have hl : (a.lx ++ (a.ly ++ a.lz)).length = n := by simp only [List.length_append]; omega
        unfold newH srtH
        by_cases e : n = 0
        · rw [if_pos e, if_pos (List.eq_nil_of_length_eq_zero (by omega))]
        · rw [if_neg e, if_neg (fun q => e (by rw [← hl, q]; rfl)), hl, Nat.sub_self, List.replicate_zero, List.append_nil]
      simp only [List.length_append] at e1
      simp (disch := first | omega | (simp [-List.map_take, -List.map_drop, -List.map_set, -List.map_append, -List.drop_one] <;> omega) | fail) [-List.map_take, -List.map_drop, -List.map_set, -List.map_append, -List.drop_one, catTo, e1, e2]
end Go.Proofs.YtjhakjeioppijaaDoor
/-
  Disruption: Victims.
-/
set_option linter.unusedSimpArgs false
set_option linter.unusedVariables false
namespace Go.Proofs.YtjhakjeioppijaaDoor
open Go Go.Am

theorem concat_inj {a b : CA} (h1 : CAOK a) (h2 : CAOK b) (e : ([.sl true 1 3 [a.x, a.y, a.z]], a.h) = (([.sl true 1 3 [b.x, b.y, b.z]], b.h) : List DV × List AObj)) : (a.h, a.lx, a.ly, a.lz) = (b.h, b.lx, b.ly, b.lz) := by
  simp only [Prod.mk.injEq, List.cons.injEq, DV.sl.injEq, and_true, true_and] at e
  obtain ⟨⟨e1, e2, e3⟩, e4⟩ := e
  have f : ∀ {h : List AObj} {x : DV} {l l' : List Int}, VisL h x l → VisL h x l' → l = l' := fun p q => by
    have p1 := p.vis []
    rw [q.vis []] at p1
    simp only [Option.some.injEq, Prod.mk.injEq, map_inj_i64] at p1
    exact p1.2.symm
  have p1 := h1.x
  have p2 := h1.y
  have p3 := h1.z
  rw [e1, e4] at p1
  rw [e2, e4] at p2
  rw [e3, e4] at p3
  rw [f p1 h2.x, f p2 h2.y, f p3 h2.z, e4]
noncomputable def cCat : List DV → List AObj → Option (DV × List AObj) := conH CAOK (fun a => ([.sl true 1 3 [a.x, a.y, a.z]], a.h)) (fun a => (srtV a.h.length (a.lx ++ (a.ly ++ a.lz)), srtH a.h (a.lx ++ (a.ly ++ a.lz))))
theorem cCat_eq {a : CA} (h : CAOK a) : cCat [.sl true 1 3 [a.x, a.y, a.z]] a.h = some (srtV a.h.length (a.lx ++ (a.ly ++ a.lz)), srtH a.h (a.lx ++ (a.ly ++ a.lz))) :=
  conH_eq' (A := CAOK) (f := fun a => ([.sl true 1 3 [a.x, a.y, a.z]], a.h)) (g := fun a => (srtV a.h.length (a.lx ++ (a.ly ++ a.lz)), srtH a.h (a.lx ++ (a.ly ++ a.lz)))) (fun a b h1 h2 e => by
    have q := concat_inj h1 h2 e
    simp only [Prod.mk.injEq] at q
    obtain ⟨q1, q2, q3, q4⟩ := q
    rw [q1, q2, q3, q4]) a h
theorem cat_sound : (Con.heap cCat).Sound P 98 := conH_sound fun a h => calls_runs mix T219_sound Tryd.func98 a98_ok (runs_concat a h)

/-! heaps behind one another -/
def idP (pre : List AObj) (c : Clu) (l : List Ins) : List AObj := match l with
  | [] => pre ++ [.cells (clC c)]
  | x :: _ => pre ++ [.cells (clC c), .cells (inC x)]
theorem idC_map (l : List Ins) : idC l = (l.map Ins.id).map (.int .i64) := by
  induction l with
  | nil => rfl
  | cons a l ih => simp only [idC, List.map_cons, List.flatMap_cons] at ih ⊢; rw [ih]; rfl
theorem idO_srt {pre : List AObj} {c : Clu} {l : List Ins} : pre ++ idO c l = srtH (idP pre c l) (l.map Ins.id) := by
  cases l with
  | nil => rfl
  | cons x r => rw [idO_cons, idP, srtH_ne (by simp), ← idC_map]; simp
theorem idV_srt {pre : List AObj} {c : Clu} {l : List Ins} : idV (pre.length + 2) l = srtV (idP pre c l).length (l.map Ins.id) := by
  cases l with
  | nil => rfl
  | cons x r => rw [idV_ne (by simp), srtV_ne (by simp)]; simp [idP]
theorem idP_form (pre : List AObj) (c : Clu) (l : List Ins) : ∃ X, idP pre c l = pre ++ X := by
  cases l with
  | nil => exact ⟨_, rfl⟩
  | cons x r => exact ⟨_, rfl⟩
theorem srtH_form (pre : List AObj) (l : List Int) : ∃ X, srtH pre l = pre ++ X := by
  by_cases e : l = []
  · subst e; exact ⟨[], by simp [srtH_nil]⟩
  · exact ⟨_, srtH_ne e⟩
theorem srtV_sort {p : Nat} {l m : List Int} (h : m.length = l.length) : srtV p m = srtV p l := by
  by_cases e : l = []
  · subst e; rw [List.eq_nil_of_length_eq_zero h]
  · rw [srtV_ne e, srtV_ne (fun q => e (List.eq_nil_of_length_eq_zero (by rw [← h, q]; rfl))), h]
theorem visL_srt {H : List AObj} {p : Nat} {l m : List Int} (hl : m.length = l.length) (ho : l ≠ [] → H[p]? = some (.cells (m.map (.int .i64)))) : VisL H (srtV p l) m := by
  by_cases e : l = []
  · subst e
    have := List.eq_nil_of_length_eq_zero hl
    subst this
    exact ⟨fun X => rfl, fun X => rfl, rfl⟩
  · have h1 := ho e
    have hlt : p < H.length := (List.getElem?_eq_some_iff.1 h1).1
    have h2 : ∀ X ver, ver = l.length → objV (H ++ X) p ver = some (m.map (.int .i64)) := fun X ver hv => by
      unfold objV objAt
      rw [List.getElem?_append_left hlt, h1]
      simp [hl, hv]
    rw [srtV_ne e]
    refine ⟨fun X => ?_, fun X => ?_, rfl⟩
    · simp [h2 X _ rfl, hl]
    · rw [visY_ms, h2 X _ rfl]
      simp [hl, List.take_of_length_le]
theorem visL_take {H : List AObj} {p n K : Nat} {m : List Int} (hn : m.length = n) (hK : K ≤ n) (ho : H[p]? = some (.cells (m.map (.int .i64)))) : VisL H (.ms p n 0 1 K n) (m.take K) := by
  have hlt : p < H.length := (List.getElem?_eq_some_iff.1 ho).1
  have h2 : ∀ X, objV (H ++ X) p n = some (m.map (.int .i64)) := fun X => by
    unfold objV objAt
    rw [List.getElem?_append_left hlt, ho]
    simp [hn]
  refine ⟨fun X => ?_, fun X => ?_, rfl⟩
  · simp [h2 X, hn, Nat.min_eq_left hK]
  · rw [visY_ms, h2 X, Option.map_some, List.drop_zero, Nat.mul_one, List.length_take, hn, Nat.min_eq_left hK, List.map_take]
theorem snap_srt {pre : List AObj} {l : List Int} : snap (srtH pre l) 3 (srtV pre.length l) = some (liV l) := by
  by_cases e : l = []
  · subst e; rfl
  · rw [srtV_ne e, srtH_ne e, liV_ne e, snap_ms, objV_last, if_pos (by simp)]
    have : l.flatMap inI = l.map (.int .i64) := by
      clear e
      induction l with
      | nil => rfl
      | cons a l ih => rw [List.flatMap_cons, ih]; rfl
    rw [this]
    simp only [Option.bind_some, List.drop_zero, Nat.mul_one, List.take_of_length_le (show (l.map (DV.int .i64)).length ≤ l.length by simp), snapL_i64, Option.map_some]
theorem srt_last {pre : List AObj} {l : List Int} (h : l ≠ []) : (srtH pre l)[pre.length]? = some (.cells (l.map (.int .i64))) := by rw [srtH_ne h]; simp
theorem get_form {A B : List AObj} {p : Nat} {o : AObj} (h : A[p]? = some o) (hf : ∃ X, B = A ++ X) : B[p]? = some o := by
  obtain ⟨X, rfl⟩ := hf
  rw [List.getElem?_append_left (List.getElem?_eq_some_iff.1 h).1]; exact h
theorem form_trans {A B C : List AObj} (h1 : ∃ X, B = A ++ X) (h2 : ∃ X, C = B ++ X) : ∃ X, C = A ++ X := by
  obtain ⟨X, rfl⟩ := h1
  obtain ⟨Y, rfl⟩ := h2
  exact ⟨X ++ Y, by simp⟩
theorem cons_form {a : AObj} {B : List AObj} (h : ∃ X, B = [a] ++ X) : ∀ X, ∃ Y, B ++ X = a :: Y := fun X => by
  obtain ⟨Z, rfl⟩ := h
  exact ⟨_, rfl⟩
theorem obj0_form {c : Clu} {B : List AObj} (h : ∃ X, B = [.cells (clC c)] ++ X) (X : List AObj) : objV (B ++ X) 0 3 = some (clC c) := by
  obtain ⟨Y, e⟩ := cons_form h X
  rw [e, objV_zero, if_pos (len_clC c)]
noncomputable def T220 : Tbl := addT 83 (.new cIds) (addT 89 (.heap (cSrtG fSrt)) (addT 97 (.heap cRev) (addT 48 (.pure (cCk goodD)) (addT 98 (.heap cCat) tbl0))))
theorem T220_i : T220 83 = .new cIds := by simp [T220]
theorem T220_s : T220 89 = .heap (cSrtG fSrt) := by simp [T220]
theorem T220_r : T220 97 = .heap cRev := by simp [T220]
theorem T220_g : T220 48 = .pure (cCk goodD) := by simp [T220]
theorem T220_c : T220 98 = .heap cCat := by simp [T220]
theorem T220_sound : T220.Sound P := addT_sound ids_sound (addT_sound sort_sound (addT_sound rev_sound (addT_sound good_sound (addT_sound cat_sound tbl0_sound))))
structure VicOK (c : Clu) : Prop where
  n : c.i.l.length ≤ 19
  l : ∀ g ∈ c.g.l, LimOK g
theorem idsL_le {c : Clu} {k : Int} {p : Grp → Ins → Bool} : (idsL c k p).length ≤ c.i.l.length := by
  unfold idsL
  split
  · exact List.length_filter_le _ _
  · simp
theorem idsL_sub {c : Clu} {k : Int} {p : Grp → Ins → Bool} {x : Ins} (h : x ∈ idsL c k p) : x ∈ c.i.l := by
  unfold idsL at h
  split at h
  · exact selL_sub.subset h
  · simp at h
theorem findIx_mem {l : List Ins} {x : Ins} (h : x ∈ l) : 0 ≤ findIx l x.id := by
  by_cases hn : findIx l x.id < 0
  · obtain ⟨i, hi, rfl⟩ := List.getElem_of_mem h
    have := ixI_neg hn i hi
    simp at this
  · omega
theorem cells_srt {p : Nat} {l : List Int} : (srtV p l).cells = [srtV p l] := by unfold srtV; split <;> rfl
theorem known_srt {p : Nat} {l : List Int} : (srtV p l).known = true := by unfold srtV; split <;> rfl
set_option maxHeartbeats 1000000 in
theorem runs_victims (c : Clu) (k : Int) (hv : VicOK c) : Runs T220 a52 [.agg (clC c), .int .i64 k] (liV (victimsP c k)) := by
  refine ⟨?_⟩
  by_cases h0 : k < 0
  · have hr : victimsP c k = [] := by rw [victimsP, grAt_neg h0]
    simp (disch := first | omega | (simp [-List.map_take, -List.map_drop, -List.map_set, -List.map_append, -List.drop_one] <;> omega) | fail) [-List.map_take, -List.map_drop, -List.map_set, -List.map_append, -List.drop_one, a52, h0, hr, liV_nil]
  obtain ⟨K, rfl⟩ : ∃ K : Nat, k = K := ⟨k.toNat, by omega⟩
  by_cases h1 : c.g.l.length ≤ K
  · have hr : victimsP c K = [] := by rw [victimsP, grAt_big h1]
    have h1' : (c.g.l.length : Int) ≤ K := by omega
    simp (disch := first | omega | (simp [-List.map_take, -List.map_drop, -List.map_set, -List.map_append, -List.drop_one] <;> omega) | fail) [-List.map_take, -List.map_drop, -List.map_set, -List.map_append, -List.drop_one, a52, h0, h1, h1', hr, liV_nil]
  have h2 : K < c.g.l.length := by omega
  have h1' : ¬ (c.g.l.length : Int) ≤ K := by omega
  have hG := fun h => idxSD_dv (x := c.g) (h := h) len_grC h2
  have hlim := hv.l _ (List.getElem_mem h2)
  have hr : victimsP c K = sortR (ltV c) (idsP c K sDen) ++ (idsP c K sRep ++ (idsP c K sSpare).reverse.take ((goodP c K).length - c.g.l[K].want).toNat) := by rw [victimsP, grAt_in h2]
  obtain ⟨G, hGe⟩ : ∃ G, c.g.l[K] = G := ⟨_, rfl⟩
  rw [hGe] at hG hlim hr
  obtain ⟨⟨w1, w2⟩, -, -⟩ := hlim
  have hgl := good_le (c := c) (k := K)
  have hn := hv.n
  rw [idsP_eq, idsP_eq, idsP_eq] at hr
  -- the lists
  have bD := idsL_le (c := c) (k := K) (p := sDen)
  have bR := idsL_le (c := c) (k := K) (p := sRep)
  have bS := idsL_le (c := c) (k := K) (p := sSpare)
  have mD : ∀ x ∈ (idsL c K sDen).map Ins.id, 0 ≤ findIx c.i.l x := fun x hx => by
    obtain ⟨y, hy, rfl⟩ := List.mem_map.1 hx
    exact findIx_mem (idsL_sub hy)
  obtain ⟨D, hD⟩ : ∃ D, idsL c K sDen = D := ⟨_, rfl⟩
  obtain ⟨R, hR⟩ : ∃ R, idsL c K sRep = R := ⟨_, rfl⟩
  obtain ⟨S, hS⟩ : ∃ S, idsL c K sSpare = S := ⟨_, rfl⟩
  rw [hD] at hr bD mD
  rw [hR] at hr bR
  rw [hS] at hr bS
  obtain ⟨lD, hlD⟩ : ∃ l, D.map Ins.id = l := ⟨_, rfl⟩
  obtain ⟨lR, hlR⟩ : ∃ l, R.map Ins.id = l := ⟨_, rfl⟩
  obtain ⟨lS, hlS⟩ : ∃ l, S.map Ins.id = l := ⟨_, rfl⟩
  have nD : lD.length = D.length := by rw [← hlD, List.length_map]
  have nR : lR.length = R.length := by rw [← hlR, List.length_map]
  have nS : lS.length = S.length := by rw [← hlS, List.length_map]
  rw [hlD, hlR, hlS] at hr
  rw [hlD] at mD
  -- the heaps
  obtain ⟨preD, hpD⟩ : ∃ p, idP [.cells (clC c)] c D = p := ⟨_, rfl⟩
  have fD : ∃ X, preD = [.cells (clC c)] ++ X := hpD ▸ idP_form _ _ _
  have eD : AObj.cells (clC c) :: idO c D = srtH preD lD := by rw [← hpD, ← hlD]; exact idO_srt (pre := [.cells (clC c)])
  have vD : idV 3 D = srtV preD.length lD := by rw [← hpD, ← hlD]; exact idV_srt (pre := [.cells (clC c)])
  obtain ⟨sD, hsD⟩ : ∃ s, sortR (ltV c) lD = s := ⟨_, rfl⟩
  have nsD : sD.length = lD.length := by rw [← hsD, sortR_len]
  have hsort := cSrt_eq (c := c) (pre := preD) (l := lD) ⟨obj0_form fD, mD, by simp only; omega⟩
  rw [hsD] at hsort
  obtain ⟨V1, hV1⟩ : ∃ v, srtV preD.length lD = v := ⟨_, rfl⟩
  rw [hV1] at vD hsort
  obtain ⟨H0, hH0⟩ : ∃ h, srtH preD lD = h := ⟨_, rfl⟩
  rw [hH0] at eD hsort
  obtain ⟨H1, hH1⟩ : ∃ h, srtH preD sD = h := ⟨_, rfl⟩
  rw [hH1] at hsort
  have f1 : ∃ X, H1 = preD ++ X := hH1 ▸ srtH_form _ _
  obtain ⟨preR, hpR⟩ : ∃ p, idP H1 c R = p := ⟨_, rfl⟩
  have eR : H1 ++ idO c R = srtH preR lR := by rw [← hpR, ← hlR]; exact idO_srt
  have vR : idV (H1.length + 2) R = srtV preR.length lR := by rw [← hpR, ← hlR]; exact idV_srt
  obtain ⟨H2, hH2⟩ : ∃ h, srtH preR lR = h := ⟨_, rfl⟩
  rw [hH2] at eR
  have f2 : ∃ X, H2 = H1 ++ X := form_trans (hpR ▸ idP_form _ _ _) (hH2 ▸ srtH_form _ _)
  obtain ⟨V2, hV2⟩ : ∃ v, srtV preR.length lR = v := ⟨_, rfl⟩
  rw [hV2] at vR
  obtain ⟨preS, hpS⟩ : ∃ p, idP H2 c S = p := ⟨_, rfl⟩
  have eS : H2 ++ idO c S = srtH preS lS := by rw [← hpS, ← hlS]; exact idO_srt
  have vS : idV (H2.length + 2) S = srtV preS.length lS := by rw [← hpS, ← hlS]; exact idV_srt
  have hrev := cRev_eq (pre := preS) (l := lS) (by omega)
  obtain ⟨H3, hH3⟩ : ∃ h, srtH preS lS = h := ⟨_, rfl⟩
  rw [hH3] at eS hrev
  obtain ⟨H4, hH4⟩ : ∃ h, srtH preS lS.reverse = h := ⟨_, rfl⟩
  rw [hH4] at hrev
  have f4 : ∃ X, H4 = H2 ++ X := form_trans (hpS ▸ idP_form _ _ _) (hH4 ▸ srtH_form _ _)
  have f14 := form_trans f2 f4
  have o1 := obj0_form (form_trans fD f1) []
  have o2 := obj0_form (form_trans (form_trans fD f1) f2) []
  have o4 := obj0_form (form_trans (form_trans fD f1) f14) []
  rw [List.append_nil] at o1 o2 o4
  obtain ⟨V3, hV3⟩ : ∃ v, srtV preS.length lS = v := ⟨_, rfl⟩
  rw [hV3] at vS hrev
  -- how many
  obtain ⟨e, he⟩ : ∃ e, max ((goodP c K).length - G.want : Int) 0 = e := ⟨_, rfl⟩
  obtain ⟨m, hm⟩ : ∃ m : Nat, min e (lS.length : Int) = m := ⟨(min e (lS.length : Int)).toNat, by omega⟩
  have hml : m ≤ lS.length := by omega
  have htake : lS.reverse.take ((goodP c K).length - G.want).toNat = lS.reverse.take m := by
    by_cases q : ((goodP c K).length - G.want).toNat ≤ lS.length
    · rw [show ((goodP c K).length - G.want).toNat = m by omega]
    · rw [List.take_of_length_le (by simp; omega), List.take_of_length_le (by simp; omega)]
  rw [htake] at hr
  -- what is read at the end
  have L1 : VisL H4 V1 sD := by
    rw [← hV1]
    exact visL_srt nsD fun q => get_form (hH1 ▸ srt_last (fun q' => q (List.eq_nil_of_length_eq_zero (by rw [← nsD, q']; rfl)))) f14
  have L2 : VisL H4 V2 lR := by
    rw [← hV2]
    exact visL_srt rfl fun q => get_form (hH2 ▸ srt_last q) f4
  have L3 : lenD H4 V3 = some (.int .i64 lS.length) := by
    have : VisL H4 V3 lS.reverse := by
      rw [← hV3]
      exact visL_srt (by simp) fun q => by
        have := srt_last (pre := preS) (l := lS.reverse) (by simpa using q)
        rw [hH4] at this; exact this
    have := this.len []
    simpa using this
  obtain ⟨Z, hZ, hZv, hZk, hZc⟩ : ∃ Z, slcSD H4 1 V3 none (some (.int .i64 m)) none = some Z ∧ VisL H4 Z (lS.reverse.take m) ∧ Z.known = true ∧ Z.cells = [Z] := by
    by_cases q : lS = []
    · subst q
      have : m = 0 := by simpa using hml
      subst this
      refine ⟨.nils, ?_, ⟨fun X => rfl, fun X => rfl, rfl⟩, rfl, rfl⟩
      rw [← hV3, srtV_nil]
      exact slcSD_nils (boundsD_h (by omega) (by omega))
    · have hl := srt_last (pre := preS) (l := lS.reverse) (by simpa using q)
      rw [hH4] at hl
      have hvv := visL_take (n := lS.length) (K := m) (by simp) hml hl
      refine ⟨_, ?_, hvv, rfl, rfl⟩
      have ho : objV H4 preS.length lS.length = some (lS.reverse.map (.int .i64)) := by
        unfold objV objAt; rw [hl]; simp
      rw [← hV3, srtV_ne q, slcSD_ms (boundsD_h (by omega) (by omega)), ho]
      simp
  have hcat := cCat_eq (a := ⟨H4, V1, V2, Z, sD, lR, lS.reverse.take m⟩) ⟨L1, L2, hZv, by simp; omega⟩
  simp only at hcat
  have k1 : V1.known = true := hV1 ▸ known_srt
  have k2 : V2.known = true := hV2 ▸ known_srt
  have c1 : V1.cells = [V1] := hV1 ▸ cells_srt
  have c2 : V2.cells = [V2] := hV2 ▸ cells_srt
  have hbsl : bslD 1 3 [.nils] [(0, 1, V1), (1, 1, V2), (2, 1, Z)] = some (.sl true 1 3 [V1, V2, Z]) := by
    rw [bslD_of (by simp [k1, k2, hZk]) (by simp [seqD, c1, c2, hZc])]
    simp [seqD, c1, c2, hZc]
  rw [hr]
  have hsnap := snap_srt (pre := H4) (l := sD ++ (lR ++ lS.reverse.take m))
  rw [hsD]
  obtain ⟨A, hA⟩ : ∃ a, sD ++ (lR ++ lS.reverse.take m) = a := ⟨_, rfl⟩
  rw [hA] at hcat hsnap ⊢
  obtain ⟨V4, hV4⟩ : ∃ v, srtV H4.length A = v := ⟨_, rfl⟩
  obtain ⟨H5, hH5⟩ : ∃ h, srtH H4 A = h := ⟨_, rfl⟩
  rw [hV4, hH5] at hcat hsnap
  have hge : -2000000000 ≤ ((goodP c K).length : Int) - G.want ∧ ((goodP c K).length : Int) - G.want ≤ 2000000000 := by omega
  simp (disch := first | omega | (simp [-List.map_take, -List.map_drop, -List.map_set, -List.map_append, -List.drop_one] <;> omega) | fail) [-List.map_take, -List.map_drop, -List.map_set, -List.map_append, -List.drop_one, a52, h0, h1, h1', T220_i, T220_s, T220_r, T220_g, T220_c, cIds_den, cIds_rep, cIds_spare, hD, hR, hS, eD, vD, hsort, eR, vR, eS, vS, hrev, o1, o2, o4, hG, cCk_eq, goodD, E_mm2, mm2_max, mm2_min, he, hm, L3, hZ, k1, k2, hZk, hbsl, hcat, hsnap]
end Go.Proofs.YtjhakjeioppijaaDoor
/-
  Disruption: Overdue.
-/
set_option linter.unusedSimpArgs false
set_option linter.unusedVariables false
namespace Go.Proofs.YtjhakjeioppijaaDoor
open Go Go.Am

theorem nl_len (H : List AObj) (x : Nl) : lenD H x.dv = some (.int .i64 x.l.length) := sl_len ⟨x.k, x.l, x.h, 0⟩ H
theorem nl_idx (H : List AObj) (x : Nl) {i : Nat} (hi : i < x.l.length) : idxSD H 1 x.dv i = some (.ref [.int .i64 x.l[i]]) := sl_idx ⟨x.k, x.l, x.h, 0⟩ H hi
theorem nl_one (x : Nl) : x.dv.one = true := sl_one ⟨x.k, x.l, x.h, 0⟩
theorem nl_known (x : Nl) : x.dv.known = true := sl_known ⟨x.k, x.l, x.h, 0⟩
theorem nl_cells (x : Nl) : x.dv.cells = [x.dv] := sl_cells ⟨x.k, x.l, x.h, 0⟩
theorem below_nl {n : Nat} {x : Nl} : Am.below n x.dv = true := below_pure n _ (nl_pure x)
attribute [simp] below_nl nl_len nl_one nl_known nl_cells nl_pure
def okT (t : Int) : Prop := -2199023255552 ≤ t ∧ t ≤ 2199023255552
def ok64 (n : Int) : Prop := -9223372036854775808 ≤ n ∧ n ≤ 9223372036854775807
theorem runs_elapsed (s n t : Int) (h1 : 0 ≤ s ∧ okT s) (h2 : ok64 n) (h3 : okT t) : Runs tbl0 a100 [.int .i64 s, .int .i64 n, .int .i64 t] (.bool (decide (n ≤ t - s))) := by
  refine ⟨?_⟩
  obtain ⟨p0, p1, p2⟩ := h1
  obtain ⟨q1, q2⟩ := h2
  obtain ⟨r1, r2⟩ := h3
  by_cases h : s ≤ t
  · simp (disch := first | omega | (simp [-List.map_take, -List.map_drop, -List.map_set, -List.map_append, -List.drop_one] <;> omega) | fail) [-List.map_take, -List.map_drop, -List.map_set, -List.map_append, -List.drop_one, a100, h]
  · by_cases hn : n < 0
    · have e : decide (n + s ≤ t) = decide (n ≤ t - s) := decide_eq_decide.2 (by omega)
      simp (disch := first | omega | (simp [-List.map_take, -List.map_drop, -List.map_set, -List.map_append, -List.drop_one] <;> omega) | fail) [-List.map_take, -List.map_drop, -List.map_set, -List.map_append, -List.drop_one, a100, h, hn, e]
    · have e : decide (n ≤ t - s) = false := by simp; omega
      simp (disch := first | omega | (simp [-List.map_take, -List.map_drop, -List.map_set, -List.map_append, -List.drop_one] <;> omega) | fail) [-List.map_take, -List.map_drop, -List.map_set, -List.map_append, -List.drop_one, a100, h, hn, e]
noncomputable def cEla : List DV → Option DV := con (fun a : Int × Int × Int => (0 ≤ a.1 ∧ okT a.1) ∧ ok64 a.2.1 ∧ okT a.2.2) (fun a : Int × Int × Int => [.int .i64 a.1, .int .i64 a.2.1, .int .i64 a.2.2]) (fun a => .bool (decide (a.2.1 ≤ a.2.2 - a.1)))
theorem cEla_eq {s n t : Int} (h1 : 0 ≤ s ∧ okT s) (h2 : ok64 n) (h3 : okT t) : cEla [.int .i64 s, .int .i64 n, .int .i64 t] = some (.bool (decide (n ≤ t - s))) :=
  con_eq (f := fun a : Int × Int × Int => [.int .i64 a.1, .int .i64 a.2.1, .int .i64 a.2.2]) (g := fun a => .bool (decide (a.2.1 ≤ a.2.2 - a.1))) (by
    rintro ⟨a, b, c⟩ ⟨d, e, f⟩ h
    simp only [List.cons.injEq, DV.int.injEq, and_true, true_and] at h
    rw [h.1, h.2.1, h.2.2]) (s, n, t) ⟨h1, h2, h3⟩
noncomputable def T230 : Tbl := addT 100 (.pure cEla) tbl0
theorem T230_e : T230 100 = .pure cEla := by simp [T230]
theorem T230_sound : T230.Sound P := addT_sound (con_sound fun a h => sem_runs mix tbl0_sound Tryd.func100 a100_ok (runs_elapsed a.1 a.2.1 a.2.2 h.1 h.2.1 h.2.2)) tbl0_sound
theorem overP_snoc {x : Ins} {gr : List Int} {t : Int} : ∀ {l : List Ins} {j : Nat}, overP (l ++ [x]) j gr t = overP l j gr t ++ (if overB x (gr.getD (j + l.length) 0) t = true then [x.id] else [])
  | [], j => by simp only [List.nil_append, overP, List.length_nil, Nat.add_zero]
  | y :: l, j => by
    have ih := overP_snoc (x := x) (gr := gr) (t := t) (l := l) (j := j + 1)
    have e : j + 1 + l.length = j + (y :: l).length := by simp; omega
    rw [e] at ih
    simp only [List.cons_append, overP, ih]
    split <;> simp
theorem overP_len {gr : List Int} {t : Int} : ∀ {l : List Ins} {j : Nat}, (overP l j gr t).length ≤ l.length
  | [], _ => by simp [overP]
  | x :: l, j => by
    have := overP_len (gr := gr) (t := t) (l := l) (j := j + 1)
    rw [overP]
    split <;> simp <;> omega
structure OvOK (a : Clu × Nl × Int) : Prop where
  d : ∀ x ∈ a.1.i.l, okT x.den
  g : ∀ n ∈ a.2.1.l, ok64 n
  t : okT a.2.2
/-- numbers laid one after the other behind an instance -/
structure OS where
  i : Nat
  L : List Int
  x : Ins
def ovH (c : Clu) (a : OS) : List AObj := if a.L = [] then [.cells (clC c)] else [.cells (clC c), .cells (inC a.x), .cells (a.L.map (.int .i64))]
theorem ovH_nil {c : Clu} {i : Nat} {x : Ins} : ovH c ⟨i, [], x⟩ = [.cells (clC c)] := rfl
theorem ovH_ne {c : Clu} {i : Nat} {L : List Int} {x : Ins} (h : L ≠ []) : ovH c ⟨i, L, x⟩ = [.cells (clC c), .cells (inC x), .cells (L.map (.int .i64))] := if_neg h
theorem belowL_map64 {n : Nat} {l : List Int} : belowL n (l.map (.int .i64)) = true := belowL_i64
theorem belowL_idx {n : Nat} {l : List Int} {y : Int} : belowL n (l.map (DV.int .i64) ++ [.int .i64 y]) = true := belowL_pure n _ (pureL_append pureL_i64 rfl)
theorem appX_li {h : List AObj} {l : List Int} {c : List DV} {o x : AObj} {y : Int} (hl : 0 < l.length) (hb : l.length < 4294967296) : appX [o, x, .cells (l.map (.int .i64)), .cells c] 1 8 (.ms 2 l.length 0 1 l.length l.length) 1 [.int .i64 y] = some (.ms 2 (l.length + 1) 0 1 (l.length + 1) (l.length + 1), [o, x, .cells ((l ++ [y]).map (.int .i64)), .cells c]) := by
  have ho : objV [o, x, .cells (l.map (.int .i64)), .cells c] 2 l.length = some (l.map (.int .i64)) := by simp [objV, objAt]
  rw [appX_own (by simp) (by omega) (by omega) (by simp) (by omega) (by simp [DV.one]), ho, Option.map_some, List.map_append]
  rfl
def S231 (c : Clu) (g : Nl) (t : Int) (a : OS) : St := a56S0 g.dv (.int .i64 t) (srtV 2 a.L) (c.i.dv 37 inC) (.int .i64 c.i.l.length) (.int .i64 a.i) (ovH c a)
set_option maxHeartbeats 1000000 in
theorem runs_overdue (c : Clu) (g : Nl) (t : Int) (hv : OvOK (c, g, t)) : Runs T230 a56 [.agg (clC c), g.dv, .int .i64 t] (liV (overP c.i.l 0 g.l t)) := by
  refine ⟨?_⟩
  have hib := c.i.b
  have hgb := g.b
  simp (disch := first | omega | (simp [-List.map_take, -List.map_drop, -List.map_set, -List.map_append, -List.drop_one] <;> omega) | fail) [-List.map_take, -List.map_drop, -List.map_set, -List.map_append, -List.drop_one, a56]
  refine W_loop (S231 c g t) (fun a => c.i.l.length - a.i) (fun a => a.i ≤ c.i.l.length ∧ a.L = overP (c.i.l.take a.i) 0 g.l t) ⟨0, [], ⟨0, 0, dg0, 0, 0, 0⟩⟩ (weak_same (by simp (disch := first | omega | (simp [-List.map_take, -List.map_drop, -List.map_set, -List.map_append, -List.drop_one] <;> omega) | fail) [-List.map_take, -List.map_drop, -List.map_set, -List.map_append, -List.drop_one, S231, a56S0, srtV_nil]) (by simp (disch := first | omega | (simp [-List.map_take, -List.map_drop, -List.map_set, -List.map_append, -List.drop_one] <;> omega) | fail) [-List.map_take, -List.map_drop, -List.map_set, -List.map_append, -List.drop_one, S231, a56S0, ovH_nil])) ⟨by simp, by simp [overP]⟩ (fun a ha => ?_)
  obtain ⟨i, L, z⟩ := a
  obtain ⟨r1, r2⟩ := ha
  simp only at r1 r2
  simp (disch := first | omega | (simp [-List.map_take, -List.map_drop, -List.map_set, -List.map_append, -List.drop_one] <;> omega) | fail) [-List.map_take, -List.map_drop, -List.map_set, -List.map_append, -List.drop_one, a56L0, a56S0, S231]
  by_cases h : i < c.i.l.length
  · have h' : (i : Int) < c.i.l.length := by omega
    have hi := fun H => idxSD_dv (x := c.i) (h := H) len_inC h
    have hxd := hv.d _ (List.getElem_mem h)
    have hs : overP (c.i.l.take (i + 1)) 0 g.l t = L ++ (if overB c.i.l[i] (g.l.getD i 0) t = true then [c.i.l[i].id] else []) := by
      rw [List.take_succ_eq_append_getElem h, overP_snoc, ← r2]
      simp only [List.length_take, Nat.zero_add, Nat.min_eq_left (Nat.le_of_lt h)]
    have hll : L.length ≤ i := by rw [r2]; exact Nat.le_trans overP_len (by simp; omega)
    obtain ⟨x, hx⟩ : ∃ x, c.i.l[i] = x := ⟨_, rfl⟩
    simp only [hx] at hi hxd hs
    have hg : (i < g.l.length ∧ ∀ H, idxSD H 1 g.dv i = some (.ref [.int .i64 (g.l.getD i 0)])) ∨ ¬ i < g.l.length ∧ g.l.getD i 0 = 0 := by
      by_cases q : i < g.l.length
      · refine .inl ⟨q, fun H => ?_⟩
        rw [nl_idx H g q, List.getD_eq_getElem?_getD, List.getElem?_eq_getElem q]; rfl
      · refine .inr ⟨q, ?_⟩
        rw [List.getD_eq_getElem?_getD, List.getElem?_eq_none (by omega)]; rfl
    have hgo : ok64 (g.l.getD i 0) := by
      rw [List.getD_eq_getElem?_getD]
      by_cases q : i < g.l.length
      · rw [List.getElem?_eq_getElem q]; exact hv.g _ (List.getElem_mem q)
      · rw [List.getElem?_eq_none (by omega)]; exact ⟨by decide, by decide⟩
    obtain ⟨G, hG⟩ : ∃ G, g.l.getD i 0 = G := ⟨_, rfl⟩
    rw [hG] at hg hgo hs
    have hel := fun q : 0 ≤ x.den => cEla_eq (s := x.den) (n := G) (t := t) ⟨q, hxd⟩ hgo hv.t
    have hsn : overB x G t = (decide (x.state ≠ 3) && (decide (0 ≤ x.den) && decide (G ≤ t - x.den))) := rfl
    by_cases c1 : x.state = 3
    · have hB : overB x G t = false := by rw [hsn]; simp [c1]
      rcases hg with ⟨g1, g2⟩ | ⟨g1, g2⟩
      · have g1' : (i : Int) < g.l.length := by omega
        have hs' : overP (c.i.l.take (i + 1)) 0 g.l t = L := by rw [hs, hB]; simp
        by_cases hL : L = []
        · subst hL
          simp (disch := first | omega | (simp [-List.map_take, -List.map_drop, -List.map_set, -List.map_append, -List.drop_one] <;> omega) | fail) [-List.map_take, -List.map_drop, -List.map_set, -List.map_append, -List.drop_one, h, h', hi, srtV_nil, ovH_nil, T230_e, g1, g1', g2, c1]
          refine ⟨⟨i + 1, [], x⟩, weak_drop (tail := [.cells (inC x)]) (by simp (disch := first | omega | (simp [-List.map_take, -List.map_drop, -List.map_set, -List.map_append, -List.drop_one] <;> omega) | fail) [-List.map_take, -List.map_drop, -List.map_set, -List.map_append, -List.drop_one, S231, a56S0, srtV]) (by simp (disch := first | omega | (simp [-List.map_take, -List.map_drop, -List.map_set, -List.map_append, -List.drop_one] <;> omega) | fail) [-List.map_take, -List.map_drop, -List.map_set, -List.map_append, -List.drop_one, S231, a56S0, ovH]) (by simp [S231, a56S0, ovH]) (by simp [S231, a56S0, ovH, srtV, belowL, Am.below]) (by simp [S231, a56S0, ovH, belowH]), by simp; omega, by simp; omega, by rw [hs']⟩
        · have hSV := srtV_ne (p := 2) hL
          have hLp : 0 < L.length := by cases L with | nil => exact absurd rfl hL | cons a l => simp
          have hap := fun H o z c y => appX_li (h := H) (l := L) (o := o) (x := z) (c := c) (y := y) hLp (by omega)
          simp (disch := first | omega | (simp [-List.map_take, -List.map_drop, -List.map_set, -List.map_append, -List.drop_one] <;> omega) | fail) [-List.map_take, -List.map_drop, -List.map_set, -List.map_append, -List.drop_one, h, h', hi, hSV, ovH_ne hL, T230_e, hap, g1, g1', g2, c1]
          refine ⟨⟨i + 1, L, z⟩, weak_drop (tail := [.cells (inC x)]) (by simp (disch := first | omega | (simp [-List.map_take, -List.map_drop, -List.map_set, -List.map_append, -List.drop_one] <;> omega) | fail) [-List.map_take, -List.map_drop, -List.map_set, -List.map_append, -List.drop_one, S231, a56S0, srtV, hL]) (by simp (disch := first | omega | (simp [-List.map_take, -List.map_drop, -List.map_set, -List.map_append, -List.drop_one] <;> omega) | fail) [-List.map_take, -List.map_drop, -List.map_set, -List.map_append, -List.drop_one, S231, a56S0, ovH, hL]) (by simp [S231, a56S0, ovH, hL]) (by simp [S231, a56S0, ovH, hL, srtV, belowL, Am.below]) (by simp [S231, a56S0, ovH, hL, belowH, belowL_map64]), by simp; omega, by simp; omega, by rw [hs']⟩
      · subst g2
        have g1' : ¬ (i : Int) < g.l.length := by omega
        have hs' : overP (c.i.l.take (i + 1)) 0 g.l t = L := by rw [hs, hB]; simp
        by_cases hL : L = []
        · subst hL
          simp (disch := first | omega | (simp [-List.map_take, -List.map_drop, -List.map_set, -List.map_append, -List.drop_one] <;> omega) | fail) [-List.map_take, -List.map_drop, -List.map_set, -List.map_append, -List.drop_one, h, h', hi, srtV_nil, ovH_nil, T230_e, g1, g1', c1]
          refine ⟨⟨i + 1, [], x⟩, weak_drop (tail := [.cells (inC x)]) (by simp (disch := first | omega | (simp [-List.map_take, -List.map_drop, -List.map_set, -List.map_append, -List.drop_one] <;> omega) | fail) [-List.map_take, -List.map_drop, -List.map_set, -List.map_append, -List.drop_one, S231, a56S0, srtV]) (by simp (disch := first | omega | (simp [-List.map_take, -List.map_drop, -List.map_set, -List.map_append, -List.drop_one] <;> omega) | fail) [-List.map_take, -List.map_drop, -List.map_set, -List.map_append, -List.drop_one, S231, a56S0, ovH]) (by simp [S231, a56S0, ovH]) (by simp [S231, a56S0, ovH, srtV, belowL, Am.below]) (by simp [S231, a56S0, ovH, belowH]), by simp; omega, by simp; omega, by rw [hs']⟩
        · have hSV := srtV_ne (p := 2) hL
          have hLp : 0 < L.length := by cases L with | nil => exact absurd rfl hL | cons a l => simp
          have hap := fun H o z c y => appX_li (h := H) (l := L) (o := o) (x := z) (c := c) (y := y) hLp (by omega)
          simp (disch := first | omega | (simp [-List.map_take, -List.map_drop, -List.map_set, -List.map_append, -List.drop_one] <;> omega) | fail) [-List.map_take, -List.map_drop, -List.map_set, -List.map_append, -List.drop_one, h, h', hi, hSV, ovH_ne hL, T230_e, hap, g1, g1', c1]
          refine ⟨⟨i + 1, L, z⟩, weak_drop (tail := [.cells (inC x)]) (by simp (disch := first | omega | (simp [-List.map_take, -List.map_drop, -List.map_set, -List.map_append, -List.drop_one] <;> omega) | fail) [-List.map_take, -List.map_drop, -List.map_set, -List.map_append, -List.drop_one, S231, a56S0, srtV, hL]) (by simp (disch := first | omega | (simp [-List.map_take, -List.map_drop, -List.map_set, -List.map_append, -List.drop_one] <;> omega) | fail) [-List.map_take, -List.map_drop, -List.map_set, -List.map_append, -List.drop_one, S231, a56S0, ovH, hL]) (by simp [S231, a56S0, ovH, hL]) (by simp [S231, a56S0, ovH, hL, srtV, belowL, Am.below]) (by simp [S231, a56S0, ovH, hL, belowH, belowL_map64]), by simp; omega, by simp; omega, by rw [hs']⟩
    by_cases c2 : 0 ≤ x.den
    case neg =>
      have hB : overB x G t = false := by rw [hsn]; simp [c2]
      rcases hg with ⟨g1, g2⟩ | ⟨g1, g2⟩
      · have g1' : (i : Int) < g.l.length := by omega
        have hs' : overP (c.i.l.take (i + 1)) 0 g.l t = L := by rw [hs, hB]; simp
        by_cases hL : L = []
        · subst hL
          simp (disch := first | omega | (simp [-List.map_take, -List.map_drop, -List.map_set, -List.map_append, -List.drop_one] <;> omega) | fail) [-List.map_take, -List.map_drop, -List.map_set, -List.map_append, -List.drop_one, h, h', hi, srtV_nil, ovH_nil, T230_e, g1, g1', g2, c1, c2]
          refine ⟨⟨i + 1, [], x⟩, weak_drop (tail := [.cells (inC x)]) (by simp (disch := first | omega | (simp [-List.map_take, -List.map_drop, -List.map_set, -List.map_append, -List.drop_one] <;> omega) | fail) [-List.map_take, -List.map_drop, -List.map_set, -List.map_append, -List.drop_one, S231, a56S0, srtV]) (by simp (disch := first | omega | (simp [-List.map_take, -List.map_drop, -List.map_set, -List.map_append, -List.drop_one] <;> omega) | fail) [-List.map_take, -List.map_drop, -List.map_set, -List.map_append, -List.drop_one, S231, a56S0, ovH]) (by simp [S231, a56S0, ovH]) (by simp [S231, a56S0, ovH, srtV, belowL, Am.below]) (by simp [S231, a56S0, ovH, belowH]), by simp; omega, by simp; omega, by rw [hs']⟩
        · have hSV := srtV_ne (p := 2) hL
          have hLp : 0 < L.length := by cases L with | nil => exact absurd rfl hL | cons a l => simp
          have hap := fun H o z c y => appX_li (h := H) (l := L) (o := o) (x := z) (c := c) (y := y) hLp (by omega)
          simp (disch := first | omega | (simp [-List.map_take, -List.map_drop, -List.map_set, -List.map_append, -List.drop_one] <;> omega) | fail) [-List.map_take, -List.map_drop, -List.map_set, -List.map_append, -List.drop_one, h, h', hi, hSV, ovH_ne hL, T230_e, hap, g1, g1', g2, c1, c2]
          refine ⟨⟨i + 1, L, z⟩, weak_drop (tail := [.cells (inC x)]) (by simp (disch := first | omega | (simp [-List.map_take, -List.map_drop, -List.map_set, -List.map_append, -List.drop_one] <;> omega) | fail) [-List.map_take, -List.map_drop, -List.map_set, -List.map_append, -List.drop_one, S231, a56S0, srtV, hL]) (by simp (disch := first | omega | (simp [-List.map_take, -List.map_drop, -List.map_set, -List.map_append, -List.drop_one] <;> omega) | fail) [-List.map_take, -List.map_drop, -List.map_set, -List.map_append, -List.drop_one, S231, a56S0, ovH, hL]) (by simp [S231, a56S0, ovH, hL]) (by simp [S231, a56S0, ovH, hL, srtV, belowL, Am.below]) (by simp [S231, a56S0, ovH, hL, belowH, belowL_map64]), by simp; omega, by simp; omega, by rw [hs']⟩
      · subst g2
        have g1' : ¬ (i : Int) < g.l.length := by omega
        have hs' : overP (c.i.l.take (i + 1)) 0 g.l t = L := by rw [hs, hB]; simp
        by_cases hL : L = []
        · subst hL
          simp (disch := first | omega | (simp [-List.map_take, -List.map_drop, -List.map_set, -List.map_append, -List.drop_one] <;> omega) | fail) [-List.map_take, -List.map_drop, -List.map_set, -List.map_append, -List.drop_one, h, h', hi, srtV_nil, ovH_nil, T230_e, g1, g1', c1, c2]
          refine ⟨⟨i + 1, [], x⟩, weak_drop (tail := [.cells (inC x)]) (by simp (disch := first | omega | (simp [-List.map_take, -List.map_drop, -List.map_set, -List.map_append, -List.drop_one] <;> omega) | fail) [-List.map_take, -List.map_drop, -List.map_set, -List.map_append, -List.drop_one, S231, a56S0, srtV]) (by simp (disch := first | omega | (simp [-List.map_take, -List.map_drop, -List.map_set, -List.map_append, -List.drop_one] <;> omega) | fail) [-List.map_take, -List.map_drop, -List.map_set, -List.map_append, -List.drop_one, S231, a56S0, ovH]) (by simp [S231, a56S0, ovH]) (by simp [S231, a56S0, ovH, srtV, belowL, Am.below]) (by simp [S231, a56S0, ovH, belowH]), by simp; omega, by simp; omega, by rw [hs']⟩
        · have hSV := srtV_ne (p := 2) hL
          have hLp : 0 < L.length := by cases L with | nil => exact absurd rfl hL | cons a l => simp
          have hap := fun H o z c y => appX_li (h := H) (l := L) (o := o) (x := z) (c := c) (y := y) hLp (by omega)
          simp (disch := first | omega | (simp [-List.map_take, -List.map_drop, -List.map_set, -List.map_append, -List.drop_one] <;> omega) | fail) [-List.map_take, -List.map_drop, -List.map_set, -List.map_append, -List.drop_one, h, h', hi, hSV, ovH_ne hL, T230_e, hap, g1, g1', c1, c2]
          refine ⟨⟨i + 1, L, z⟩, weak_drop (tail := [.cells (inC x)]) (by simp (disch := first | omega | (simp [-List.map_take, -List.map_drop, -List.map_set, -List.map_append, -List.drop_one] <;> omega) | fail) [-List.map_take, -List.map_drop, -List.map_set, -List.map_append, -List.drop_one, S231, a56S0, srtV, hL]) (by simp (disch := first | omega | (simp [-List.map_take, -List.map_drop, -List.map_set, -List.map_append, -List.drop_one] <;> omega) | fail) [-List.map_take, -List.map_drop, -List.map_set, -List.map_append, -List.drop_one, S231, a56S0, ovH, hL]) (by simp [S231, a56S0, ovH, hL]) (by simp [S231, a56S0, ovH, hL, srtV, belowL, Am.below]) (by simp [S231, a56S0, ovH, hL, belowH, belowL_map64]), by simp; omega, by simp; omega, by rw [hs']⟩
    have hel := hel c2
    by_cases c3 : G ≤ t - x.den
    · have hB : overB x G t = true := by rw [hsn]; simp [c1, c2, c3]
      rcases hg with ⟨g1, g2⟩ | ⟨g1, g2⟩
      · have g1' : (i : Int) < g.l.length := by omega
        have hs' : overP (c.i.l.take (i + 1)) 0 g.l t = L ++ [x.id] := by rw [hs, hB]; simp
        by_cases hL : L = []
        · subst hL
          simp (disch := first | omega | (simp [-List.map_take, -List.map_drop, -List.map_set, -List.map_append, -List.drop_one] <;> omega) | fail) [-List.map_take, -List.map_drop, -List.map_set, -List.map_append, -List.drop_one, h, h', hi, srtV_nil, ovH_nil, T230_e, g1, g1', g2, c1, c2, c3, hel]
          refine ⟨⟨i + 1, [x.id], x⟩, weak_same (by simp (disch := first | omega | (simp [-List.map_take, -List.map_drop, -List.map_set, -List.map_append, -List.drop_one] <;> omega) | fail) [-List.map_take, -List.map_drop, -List.map_set, -List.map_append, -List.drop_one, S231, a56S0, srtV]) (by simp (disch := first | omega | (simp [-List.map_take, -List.map_drop, -List.map_set, -List.map_append, -List.drop_one] <;> omega) | fail) [-List.map_take, -List.map_drop, -List.map_set, -List.map_append, -List.drop_one, S231, a56S0, ovH]), by simp; omega, by simp; omega, by rw [hs']; rfl⟩
        · have hSV := srtV_ne (p := 2) hL
          have hLp : 0 < L.length := by cases L with | nil => exact absurd rfl hL | cons a l => simp
          have hap := fun H o z c y => appX_li (h := H) (l := L) (o := o) (x := z) (c := c) (y := y) hLp (by omega)
          simp (disch := first | omega | (simp [-List.map_take, -List.map_drop, -List.map_set, -List.map_append, -List.drop_one] <;> omega) | fail) [-List.map_take, -List.map_drop, -List.map_set, -List.map_append, -List.drop_one, h, h', hi, hSV, ovH_ne hL, T230_e, hap, g1, g1', g2, c1, c2, c3, hel]
          have hO : ovH c ⟨i + 1, L ++ [x.id], z⟩ = [.cells (clC c), .cells (inC z), .cells ((L ++ [x.id]).map (.int .i64))] := ovH_ne (by simp)
          have hV : srtV 2 (L ++ [x.id]) = .ms 2 (L.length + 1) 0 1 (L.length + 1) (L.length + 1) := by rw [srtV_ne (by simp), List.length_append]; rfl
          refine ⟨⟨i + 1, L ++ [x.id], z⟩, weak_drop (tail := [.cells (inC x)]) (by simp (disch := first | omega | (simp [-List.map_take, -List.map_drop, -List.map_set, -List.map_append, -List.drop_one] <;> omega) | fail) [-List.map_take, -List.map_drop, -List.map_set, -List.map_append, -List.drop_one, S231, a56S0, hV]) (by simp (disch := first | omega | (simp [-List.map_take, -List.map_drop, -List.map_set, -List.map_append, -List.drop_one] <;> omega) | fail) [-List.map_take, -List.map_drop, -List.map_set, -List.map_append, -List.drop_one, S231, a56S0, hO]) (Nat.zero_le _) (by simp (disch := first | omega | (simp [-List.map_take, -List.map_drop, -List.map_set, -List.map_append, -List.drop_one] <;> omega) | fail) [-List.map_take, -List.map_drop, -List.map_set, -List.map_append, -List.drop_one, S231, a56S0, hO, hV, belowL, Am.below]) (by simp (disch := first | omega | (simp [-List.map_take, -List.map_drop, -List.map_set, -List.map_append, -List.drop_one] <;> omega) | fail) [-List.map_take, -List.map_drop, -List.map_set, -List.map_append, -List.drop_one, S231, a56S0, hO, belowH, belowL_map64]), by simp; omega, by simp; omega, by rw [hs']⟩
      · subst g2
        have g1' : ¬ (i : Int) < g.l.length := by omega
        have c3' : x.den ≤ t := by omega
        have hs' : overP (c.i.l.take (i + 1)) 0 g.l t = L ++ [x.id] := by rw [hs, hB]; simp
        by_cases hL : L = []
        · subst hL
          simp (disch := first | omega | (simp [-List.map_take, -List.map_drop, -List.map_set, -List.map_append, -List.drop_one] <;> omega) | fail) [-List.map_take, -List.map_drop, -List.map_set, -List.map_append, -List.drop_one, h, h', hi, srtV_nil, ovH_nil, T230_e, g1, g1', c3', c1, c2, c3, hel]
          refine ⟨⟨i + 1, [x.id], x⟩, weak_same (by simp (disch := first | omega | (simp [-List.map_take, -List.map_drop, -List.map_set, -List.map_append, -List.drop_one] <;> omega) | fail) [-List.map_take, -List.map_drop, -List.map_set, -List.map_append, -List.drop_one, S231, a56S0, srtV]) (by simp (disch := first | omega | (simp [-List.map_take, -List.map_drop, -List.map_set, -List.map_append, -List.drop_one] <;> omega) | fail) [-List.map_take, -List.map_drop, -List.map_set, -List.map_append, -List.drop_one, S231, a56S0, ovH]), by simp; omega, by simp; omega, by rw [hs']; rfl⟩
        · have hSV := srtV_ne (p := 2) hL
          have hLp : 0 < L.length := by cases L with | nil => exact absurd rfl hL | cons a l => simp
          have hap := fun H o z c y => appX_li (h := H) (l := L) (o := o) (x := z) (c := c) (y := y) hLp (by omega)
          simp (disch := first | omega | (simp [-List.map_take, -List.map_drop, -List.map_set, -List.map_append, -List.drop_one] <;> omega) | fail) [-List.map_take, -List.map_drop, -List.map_set, -List.map_append, -List.drop_one, h, h', hi, hSV, ovH_ne hL, T230_e, hap, g1, g1', c3', c1, c2, c3, hel]
          have hO : ovH c ⟨i + 1, L ++ [x.id], z⟩ = [.cells (clC c), .cells (inC z), .cells ((L ++ [x.id]).map (.int .i64))] := ovH_ne (by simp)
          have hV : srtV 2 (L ++ [x.id]) = .ms 2 (L.length + 1) 0 1 (L.length + 1) (L.length + 1) := by rw [srtV_ne (by simp), List.length_append]; rfl
          refine ⟨⟨i + 1, L ++ [x.id], z⟩, weak_drop (tail := [.cells (inC x)]) (by simp (disch := first | omega | (simp [-List.map_take, -List.map_drop, -List.map_set, -List.map_append, -List.drop_one] <;> omega) | fail) [-List.map_take, -List.map_drop, -List.map_set, -List.map_append, -List.drop_one, S231, a56S0, hV]) (by simp (disch := first | omega | (simp [-List.map_take, -List.map_drop, -List.map_set, -List.map_append, -List.drop_one] <;> omega) | fail) [-List.map_take, -List.map_drop, -List.map_set, -List.map_append, -List.drop_one, S231, a56S0, hO]) (Nat.zero_le _) (by simp (disch := first | omega | (simp [-List.map_take, -List.map_drop, -List.map_set, -List.map_append, -List.drop_one] <;> omega) | fail) [-List.map_take, -List.map_drop, -List.map_set, -List.map_append, -List.drop_one, S231, a56S0, hO, hV, belowL, Am.below]) (by simp (disch := first | omega | (simp [-List.map_take, -List.map_drop, -List.map_set, -List.map_append, -List.drop_one] <;> omega) | fail) [-List.map_take, -List.map_drop, -List.map_set, -List.map_append, -List.drop_one, S231, a56S0, hO, belowH, belowL_map64]), by simp; omega, by simp; omega, by rw [hs']⟩
    · have hB : overB x G t = false := by rw [hsn]; simp [c1, c2, c3]
      rcases hg with ⟨g1, g2⟩ | ⟨g1, g2⟩
      · have g1' : (i : Int) < g.l.length := by omega
        have hs' : overP (c.i.l.take (i + 1)) 0 g.l t = L := by rw [hs, hB]; simp
        by_cases hL : L = []
        · subst hL
          simp (disch := first | omega | (simp [-List.map_take, -List.map_drop, -List.map_set, -List.map_append, -List.drop_one] <;> omega) | fail) [-List.map_take, -List.map_drop, -List.map_set, -List.map_append, -List.drop_one, h, h', hi, srtV_nil, ovH_nil, T230_e, g1, g1', g2, c1, c2, c3, hel]
          refine ⟨⟨i + 1, [], x⟩, weak_drop (tail := [.cells (inC x)]) (by simp (disch := first | omega | (simp [-List.map_take, -List.map_drop, -List.map_set, -List.map_append, -List.drop_one] <;> omega) | fail) [-List.map_take, -List.map_drop, -List.map_set, -List.map_append, -List.drop_one, S231, a56S0, srtV]) (by simp (disch := first | omega | (simp [-List.map_take, -List.map_drop, -List.map_set, -List.map_append, -List.drop_one] <;> omega) | fail) [-List.map_take, -List.map_drop, -List.map_set, -List.map_append, -List.drop_one, S231, a56S0, ovH]) (by simp [S231, a56S0, ovH]) (by simp [S231, a56S0, ovH, srtV, belowL, Am.below]) (by simp [S231, a56S0, ovH, belowH]), by simp; omega, by simp; omega, by rw [hs']⟩
        · have hSV := srtV_ne (p := 2) hL
          have hLp : 0 < L.length := by cases L with | nil => exact absurd rfl hL | cons a l => simp
          have hap := fun H o z c y => appX_li (h := H) (l := L) (o := o) (x := z) (c := c) (y := y) hLp (by omega)
          simp (disch := first | omega | (simp [-List.map_take, -List.map_drop, -List.map_set, -List.map_append, -List.drop_one] <;> omega) | fail) [-List.map_take, -List.map_drop, -List.map_set, -List.map_append, -List.drop_one, h, h', hi, hSV, ovH_ne hL, T230_e, hap, g1, g1', g2, c1, c2, c3, hel]
          refine ⟨⟨i + 1, L, z⟩, weak_drop (tail := [.cells (inC x)]) (by simp (disch := first | omega | (simp [-List.map_take, -List.map_drop, -List.map_set, -List.map_append, -List.drop_one] <;> omega) | fail) [-List.map_take, -List.map_drop, -List.map_set, -List.map_append, -List.drop_one, S231, a56S0, srtV, hL]) (by simp (disch := first | omega | (simp [-List.map_take, -List.map_drop, -List.map_set, -List.map_append, -List.drop_one] <;> omega) | fail) [-List.map_take, -List.map_drop, -List.map_set, -List.map_append, -List.drop_one, S231, a56S0, ovH, hL]) (by simp [S231, a56S0, ovH, hL]) (by simp [S231, a56S0, ovH, hL, srtV, belowL, Am.below]) (by simp [S231, a56S0, ovH, hL, belowH, belowL_map64]), by simp; omega, by simp; omega, by rw [hs']⟩
      · subst g2
        have g1' : ¬ (i : Int) < g.l.length := by omega
        have c3' : ¬ x.den ≤ t := by omega
        have hs' : overP (c.i.l.take (i + 1)) 0 g.l t = L := by rw [hs, hB]; simp
        by_cases hL : L = []
        · subst hL
          simp (disch := first | omega | (simp [-List.map_take, -List.map_drop, -List.map_set, -List.map_append, -List.drop_one] <;> omega) | fail) [-List.map_take, -List.map_drop, -List.map_set, -List.map_append, -List.drop_one, h, h', hi, srtV_nil, ovH_nil, T230_e, g1, g1', c3', c1, c2, c3, hel]
          refine ⟨⟨i + 1, [], x⟩, weak_drop (tail := [.cells (inC x)]) (by simp (disch := first | omega | (simp [-List.map_take, -List.map_drop, -List.map_set, -List.map_append, -List.drop_one] <;> omega) | fail) [-List.map_take, -List.map_drop, -List.map_set, -List.map_append, -List.drop_one, S231, a56S0, srtV]) (by simp (disch := first | omega | (simp [-List.map_take, -List.map_drop, -List.map_set, -List.map_append, -List.drop_one] <;> omega) | fail) [-List.map_take, -List.map_drop, -List.map_set, -List.map_append, -List.drop_one, S231, a56S0, ovH]) (by simp [S231, a56S0, ovH]) (by simp [S231, a56S0, ovH, srtV, belowL, Am.below]) (by simp [S231, a56S0, ovH, belowH]), by simp; omega, by simp; omega, by rw [hs']⟩
        · have hSV := srtV_ne (p := 2) hL
          have hLp : 0 < L.length := by cases L with | nil => exact absurd rfl hL | cons a l => simp
          have hap := fun H o z c y => appX_li (h := H) (l := L) (o := o) (x := z) (c := c) (y := y) hLp (by omega)
          simp (disch := first | omega | (simp [-List.map_take, -List.map_drop, -List.map_set, -List.map_append, -List.drop_one] <;> omega) | fail) [-List.map_take, -List.map_drop, -List.map_set, -List.map_append, -List.drop_one, h, h', hi, hSV, ovH_ne hL, T230_e, hap, g1, g1', c3', c1, c2, c3, hel]
          refine ⟨⟨i + 1, L, z⟩, weak_drop (tail := [.cells (inC x)]) (by simp (disch := first | omega | (simp [-List.map_take, -List.map_drop, -List.map_set, -List.map_append, -List.drop_one] <;> omega) | fail) [-List.map_take, -List.map_drop, -List.map_set, -List.map_append, -List.drop_one, S231, a56S0, srtV, hL]) (by simp (disch := first | omega | (simp [-List.map_take, -List.map_drop, -List.map_set, -List.map_append, -List.drop_one] <;> omega) | fail) [-List.map_take, -List.map_drop, -List.map_set, -List.map_append, -List.drop_one, S231, a56S0, ovH, hL]) (by simp [S231, a56S0, ovH, hL]) (by simp [S231, a56S0, ovH, hL, srtV, belowL, Am.below]) (by simp [S231, a56S0, ovH, hL, belowH, belowL_map64]), by simp; omega, by simp; omega, by rw [hs']⟩
  · have h' : ¬ (i : Int) < c.i.l.length := by omega
    have e : overP c.i.l 0 g.l t = L := by rw [r2, List.take_of_length_le (by omega)]
    rw [e]
    by_cases hL : L = []
    · subst hL
      simp (disch := first | omega | (simp [-List.map_take, -List.map_drop, -List.map_set, -List.map_append, -List.drop_one] <;> omega) | fail) [-List.map_take, -List.map_drop, -List.map_set, -List.map_append, -List.drop_one, h, h', ovH_nil, srtV_nil, liV_nil]
    · have := snap_srt (pre := [.cells (clC c), .cells (inC z)]) (l := L)
      rw [ovH_ne hL]
      rw [srtH_ne hL] at this
      simp only [List.cons_append, List.nil_append, List.length_cons, List.length_nil, Nat.zero_add] at this
      simp (disch := first | omega | (simp [-List.map_take, -List.map_drop, -List.map_set, -List.map_append, -List.drop_one] <;> omega) | fail) [-List.map_take, -List.map_drop, -List.map_set, -List.map_append, -List.drop_one, h, h', this]
end Go.Proofs.YtjhakjeioppijaaDoor
/-
  Functions of this claim, as the abstract machine has them. MADE BY A PROGRAM of mine.
-/
set_option linter.unusedSimpArgs false
set_option linter.unusedVariables false
namespace Go.Proofs.YtjhakjeioppijaaDoor
open Go Go.Am
-- 54 admission/admissionlaw38.awake
def a54L0 : ACode :=
  (.seq (.seq (.region false [⟨none, (some 8), .mov (.t 2)⟩,
    ⟨none, (some 9), .bin .leq (.t 8) (.k (.int .i64 3))⟩])
  (.cond (.t 9) .skip
  (.exit 0)))
  (.seq (.block 1 (.region false [⟨none, (some 12), .fld 1 (.t 1)⟩,
    ⟨none, (some 13), .load 1 false (.t 12)⟩,
    ⟨none, (some 14), .mov (.t 2)⟩,
    ⟨none, (some 15), .build (rep 32 (w8 0#8)) [(0, 1, (.k (w8 1#8)))]⟩,
    ⟨none, (some 16), .mov (.t 2)⟩,
    ⟨none, (some 17), .bin .sub (.t 16) (.k (.int .i64 2))⟩,
    ⟨none, (some 18), .build [(.int .i64 0), (.int .i64 0), (w8 0#8), (w8 0#8), (w8 0#8), (w8 0#8), (w8 0#8), (w8 0#8), (w8 0#8), (w8 0#8), (w8 0#8), (w8 0#8), (w8 0#8), (w8 0#8), (w8 0#8), (w8 0#8), (w8 0#8), (w8 0#8), (w8 0#8), (w8 0#8), (w8 0#8), (w8 0#8), (w8 0#8), (w8 0#8), (w8 0#8), (w8 0#8), (w8 0#8), (w8 0#8), (w8 0#8), (w8 0#8), (w8 0#8), (w8 0#8), (w8 0#8), (w8 0#8), (.int .i64 0), (.int .i64 0), (.int .i64 0)] [(0, 1, (.t 14)), (2, 32, (.t 15)), (34, 1, (.k (.int .i64 2))), (36, 1, (.t 17))]⟩,
    ⟨none, (some 19), .bsl 37 1 [(.int .i64 0), (.int .i64 0), (w8 0#8), (w8 0#8), (w8 0#8), (w8 0#8), (w8 0#8), (w8 0#8), (w8 0#8), (w8 0#8), (w8 0#8), (w8 0#8), (w8 0#8), (w8 0#8), (w8 0#8), (w8 0#8), (w8 0#8), (w8 0#8), (w8 0#8), (w8 0#8), (w8 0#8), (w8 0#8), (w8 0#8), (w8 0#8), (w8 0#8), (w8 0#8), (w8 0#8), (w8 0#8), (w8 0#8), (w8 0#8), (w8 0#8), (w8 0#8), (w8 0#8), (w8 0#8), (.int .i64 0), (.int .i64 0), (.int .i64 0)] [(0, 37, (.t 18))]⟩,
    ⟨none, (some 20), .app 37 72 (.t 13) (.t 19)⟩,
    ⟨none, (some 21), .fld 1 (.t 1)⟩,
    ⟨none, none, .store 1 (.t 21) (.t 20)⟩]))
  (.region false [⟨none, (some 10), .mov (.t 2)⟩,
    ⟨none, (some 11), .bin .add (.t 10) (.k (.int .i64 1))⟩,
    ⟨none, (some 2), .mov (.t 11)⟩])))
/-- 1:c 2:i -/
def a54S0 (x1 x2 : DV) (h : List AObj) : St := ⟨[.junk, x1, x2] ++ js 45, h⟩

def a54 : AFn where
  code := (.seq (.region false [⟨none, (some 0), .mov (.k (.bool false))⟩])
  (.seq (.region false [⟨none, (some 3), .build (rep 32 (w8 0#8)) [(0, 1, (.k (w8 1#8)))]⟩,
    ⟨none, (some 4), .bsl 32 1 (rep 32 (w8 0#8)) [(0, 32, (.t 3))]⟩,
    ⟨none, (some 5), .build [(.str []), (.str []), (.int .i64 0), (.int .i64 0), (.int .i64 0), .nils] [(0, 1, (.k (.str [97]))), (1, 1, (.k (.str [98]))), (2, 1, (.k (.int .i64 3))), (3, 1, (.k (.int .i64 2))), (4, 1, (.k (.int .i64 1))), (5, 1, (.t 4))]⟩,
    ⟨none, (some 6), .bsl 6 1 [(.str []), (.str []), (.int .i64 0), (.int .i64 0), (.int .i64 0), .nils] [(0, 6, (.t 5))]⟩,
    ⟨none, (some 7), .build [.nils, .nils, (.int .i64 0)] [(0, 1, (.t 6)), (2, 1, (.k (.int .i64 5)))]⟩,
    ⟨none, (some 1), .alloc [.nils, .nils, (.int .i64 0)]⟩,
    ⟨none, none, .store 3 (.t 1) (.t 7)⟩])
  (.seq (.seq (.region false [⟨none, (some 2), .mov (.k (.int .i64 1))⟩])
  (.block 0 (.loop a54L0)))
  (.seq (.region false [⟨none, (some 22), .load 3 true (.t 1)⟩,
    ⟨none, (some 23), .call (.k (.fn (.func 45) [] [])) [(.t 22), (.k (.int .i64 0))]⟩,
    ⟨none, (some 24), .bin .eql (.t 23) (.k (.int .i64 3))⟩,
    ⟨none, (some 25), .mov (.t 24)⟩,
    ⟨(some (25, true)), (some 26), .load 3 true (.t 1)⟩,
    ⟨(some (25, true)), (some 27), .call (.k (.fn (.func 50) [] [])) [(.t 26), (.k (.int .i64 0))]⟩,
    ⟨(some (25, true)), (some 28), .bin .eql (.t 27) (.k (.int .i64 1))⟩,
    ⟨none, (some 29), .pick (.t 25) (.t 28) (.k (.bool false))⟩,
    ⟨none, (some 30), .mov (.t 29)⟩,
    ⟨(some (30, true)), (some 31), .load 3 true (.t 1)⟩,
    ⟨(some (30, true)), (some 32), .call (.k (.fn (.func 48) [] [])) [(.t 31), (.k (.int .i64 0))]⟩,
    ⟨(some (30, true)), (some 33), .len (.t 32)⟩,
    ⟨(some (30, true)), (some 34), .bin .eql (.t 33) (.k (.int .i64 1))⟩,
    ⟨none, (some 35), .pick (.t 30) (.t 34) (.k (.bool false))⟩,
    ⟨none, (some 36), .mov (.t 35)⟩,
    ⟨(some (36, true)), (some 37), .load 3 true (.t 1)⟩,
    ⟨(some (36, true)), (some 38), .call (.k (.fn (.func 52) [] [])) [(.t 37), (.k (.int .i64 0))]⟩,
    ⟨(some (36, true)), (some 39), .len (.t 38)⟩,
    ⟨(some (36, true)), (some 40), .bin .eql (.t 39) (.k (.int .i64 2))⟩,
    ⟨none, (some 41), .pick (.t 36) (.t 40) (.k (.bool false))⟩,
    ⟨none, (some 42), .mov (.t 41)⟩,
    ⟨(some (42, true)), (some 43), .load 3 true (.t 1)⟩,
    ⟨(some (42, true)), (some 44), .call (.k (.fn (.func 56) [] [])) [(.t 43), (.k .nils), (.k (.int .i64 9))]⟩,
    ⟨(some (42, true)), (some 45), .len (.t 44)⟩,
    ⟨(some (42, true)), (some 46), .bin .eql (.t 45) (.k (.int .i64 2))⟩,
    ⟨none, (some 47), .pick (.t 42) (.t 46) (.k (.bool false))⟩,
    ⟨none, (some 0), .mov (.t 47)⟩])
  .ret))))
  ntmps := 48
  res := [.tmp 0]

theorem a54_ok : compileFn P Tryd.f54 = some a54 := by kernel_rfl

end Go.Proofs.YtjhakjeioppijaaDoor
/-
  Disruption: contracts of the program's functions; the sanity check of chapter 38.
-/
set_option linter.unusedSimpArgs false
set_option linter.unusedVariables false
namespace Go.Proofs.YtjhakjeioppijaaDoor
open Go Go.Am

def vicD (c : Clu) (k : Int) : DV := liV (victimsP c k)
noncomputable def cCkA (A : Clu → Prop) (f : Clu → Int → DV) : List DV → Option DV := con (fun a : Clu × Int => A a.1) (fun a : Clu × Int => [.agg (clC a.1), .int .i64 a.2]) (fun a => f a.1 a.2)
theorem cCkA_eq {A : Clu → Prop} {f : Clu → Int → DV} {c : Clu} {k : Int} (h : A c) : cCkA A f [.agg (clC c), .int .i64 k] = some (f c k) :=
  con_eq (f := fun a : Clu × Int => [.agg (clC a.1), .int .i64 a.2]) (g := fun a => f a.1 a.2) (by
    rintro ⟨a, b⟩ ⟨c, d⟩ e
    simp only [List.cons.injEq, DV.agg.injEq, DV.int.injEq, and_true, true_and] at e
    rw [clC_inj e.1, e.2]) (c, k) h
theorem vic_sound : (Con.pure (cCkA VicOK vicD)).Sound P 52 := con_sound fun a h => sem_runs mix T220_sound Tryd.func52 a52_ok (runs_victims a.1 a.2 h)
def LimC (c : Clu) : Prop := ∀ g ∈ c.g.l, LimOK g
theorem room_sound : (Con.pure (cCkA LimC roomD)).Sound P 50 := con_sound fun a h => sem_runs mix T212_sound Tryd.func50 a50_ok (runs_room a.1 a.2 h)
noncomputable def cOver : List DV → Option DV := con OvOK (fun a : Clu × Nl × Int => [.agg (clC a.1), a.2.1.dv, .int .i64 a.2.2]) (fun a => liV (overP a.1.i.l 0 a.2.1.l a.2.2))
theorem cOver_eq {c : Clu} {g : Nl} {t : Int} (h : OvOK (c, g, t)) : cOver [.agg (clC c), g.dv, .int .i64 t] = some (liV (overP c.i.l 0 g.l t)) :=
  con_eq (f := fun a : Clu × Nl × Int => [.agg (clC a.1), a.2.1.dv, .int .i64 a.2.2]) (g := fun a => liV (overP a.1.i.l 0 a.2.1.l a.2.2)) (by
    rintro ⟨a, b, c⟩ ⟨d, e, f⟩ h
    simp only [List.cons.injEq, DV.agg.injEq, DV.int.injEq, and_true, true_and] at h
    rw [clC_inj h.1, nl_inj h.2.1, h.2.2]) (c, g, t) h
theorem over_sound : (Con.pure cOver).Sound P 56 := con_sound fun a h => sem_runs mix T230_sound Tryd.func56 a56_ok (runs_overdue a.1 a.2.1 a.2.2 h)
noncomputable def T240 : Tbl := addT 45 (.pure (cCk liveD)) (addT 48 (.pure (cCk goodD)) (addT 50 (.pure (cCkA LimC roomD)) (addT 52 (.pure (cCkA VicOK vicD)) (addT 56 (.pure cOver) tbl0))))
theorem T240_l : T240 45 = .pure (cCk liveD) := by simp [T240]
theorem T240_g : T240 48 = .pure (cCk goodD) := by simp [T240]
theorem T240_r : T240 50 = .pure (cCkA LimC roomD) := by simp [T240]
theorem T240_v : T240 52 = .pure (cCkA VicOK vicD) := by simp [T240]
theorem T240_o : T240 56 = .pure cOver := by simp [T240]
theorem T240_sound : T240.Sound P := addT_sound live_sound (addT_sound good_sound (addT_sound room_sound (addT_sound vic_sound (addT_sound over_sound tbl0_sound))))

/-! the sanity check -/
def gE : Grp := ⟨[97], [98], 3, 2, 1, ⟨some true, [(dgW 1#8)], by simp, by simp⟩⟩
def iE (i : Int) : Ins := ⟨i, 0, (dgW 1#8), 2, 0, i - 2⟩
def lE : List Ins := [iE 1, iE 2, iE 3]
def cE : Clu := ⟨⟨some true, [gE], by simp, by simp⟩, ⟨some false, lE, by simp, by simp [lE]⟩, 5⟩
def GE : DV := .sl true 6 1 [.str [97], .str [98], .int .i64 3, .int .i64 2, .int .i64 1, .sl true 32 1 (dgC (dgW 1#8))]
theorem GE_eq : GE = cE.g.dv 6 grC := by simp [GE, cE, Sl.dv, slD, grC, gE]
def hE1 : List AObj := [.cells [GE, .ms 1 37 0 37 1 37, .int .i64 5], .cells (inC ⟨1, 0, (dgW 1#8), 2, 0, -1⟩)]
def hE2 : List AObj := [.cells [GE, .ms 1 74 0 37 2 74, .int .i64 5], .cells (inC ⟨1, 0, (dgW 1#8), 2, 0, -1⟩ ++ inC ⟨2, 0, (dgW 1#8), 2, 0, 0⟩)]
def hE3 : List AObj := [.cells [GE, .ms 1 111 0 37 3 111, .int .i64 5], .cells (inC ⟨1, 0, (dgW 1#8), 2, 0, -1⟩ ++ (inC ⟨2, 0, (dgW 1#8), 2, 0, 0⟩ ++ inC ⟨3, 0, (dgW 1#8), 2, 0, 1⟩))]
def S245 : Nat → St
  | 0 => a54S0 (.mp 0 3 0) (.int .i64 1) [.cells [GE, .nils, .int .i64 5]]
  | 1 => a54S0 (.mp 0 3 0) (.int .i64 2) hE1
  | 2 => a54S0 (.mp 0 3 0) (.int .i64 3) hE2
  | _ => a54S0 (.mp 0 3 0) (.int .i64 4) [.cells (clC cE)]
theorem fzE : fz 1 hE3 3 (.ms 1 111 0 37 3 111) = some (cE.i.dv 37 inC) := by
  have hl : (inC ⟨1, 0, (dgW 1#8), 2, 0, -1⟩ ++ (inC ⟨2, 0, (dgW 1#8), 2, 0, 0⟩ ++ inC ⟨3, 0, (dgW 1#8), 2, 0, 1⟩)).length = 111 := by simp
  have hp : pureL (inC ⟨1, 0, (dgW 1#8), 2, 0, -1⟩ ++ (inC ⟨2, 0, (dgW 1#8), 2, 0, 0⟩ ++ inC ⟨3, 0, (dgW 1#8), 2, 0, 1⟩)) = true := pureL_append (pure_inC _) (pureL_append (pure_inC _) (pure_inC _))
  have he : cE.i.dv 37 inC = .sl false 37 3 (inC ⟨1, 0, (dgW 1#8), 2, 0, -1⟩ ++ (inC ⟨2, 0, (dgW 1#8), 2, 0, 0⟩ ++ inC ⟨3, 0, (dgW 1#8), 2, 0, 1⟩)) := by
    show DV.sl false 37 3 _ = _
    congr 1
  rw [fz_ms (by omega), he]
  have ho : objV hE3 1 111 = some (inC ⟨1, 0, (dgW 1#8), 2, 0, -1⟩ ++ (inC ⟨2, 0, (dgW 1#8), 2, 0, 0⟩ ++ inC ⟨3, 0, (dgW 1#8), 2, 0, 1⟩)) := by
    unfold hE3
    rw [show (1 : Nat) = 0 + 1 from rfl, objV_succ, objV_zero, if_pos hl]
  rw [ho, Option.bind_some, List.drop_zero, List.take_of_length_le (by omega), fzLo_clean hp]
  rfl
theorem bE (n m : Int) : buildD [.int .i64 0, .int .i64 0, w8 0#8, w8 0#8, w8 0#8, w8 0#8, w8 0#8, w8 0#8, w8 0#8, w8 0#8, w8 0#8, w8 0#8, w8 0#8, w8 0#8, w8 0#8, w8 0#8, w8 0#8, w8 0#8, w8 0#8, w8 0#8, w8 0#8, w8 0#8, w8 0#8, w8 0#8, w8 0#8, w8 0#8, w8 0#8, w8 0#8, w8 0#8, w8 0#8, w8 0#8, w8 0#8, w8 0#8, w8 0#8, .int .i64 0, .int .i64 0, .int .i64 0] [(0, 1, .int .i64 n), (2, 32, .agg (dgC (dgW 1#8))), (34, 1, .int .i64 2), (36, 1, .int .i64 m)] = some (.agg (inC ⟨n, 0, (dgW 1#8), 2, 0, m⟩)) := rfl
theorem bsl_d1 {d : Dg} : bslD 32 1 (dgC dg0) [(0, 32, .agg (dgC d))] = some (.sl true 32 1 (dgC d)) := by
  rw [bslD_of (by simp [DV.known]) (by simp [seqD, DV.cells])]; simp [seqD, DV.cells]
theorem bgE : buildD [.str [], .str [], .int .i64 0, .int .i64 0, .int .i64 0, .nils] [(0, 1, .str [97]), (1, 1, .str [98]), (2, 1, .int .i64 3), (3, 1, .int .i64 2), (4, 1, .int .i64 1), (5, 1, .sl true 32 1 (dgC (dgW 1#8)))] = some (.agg (grC gE)) := by
  simp [grC, gE, Sl.dv, slD]
theorem bcE : buildD [.nils, .nils, .int .i64 0] [(0, 1, .sl true 6 1 [.str [97], .str [98], .int .i64 3, .int .i64 2, .int .i64 1, .sl true 32 1 (dgC (dgW 1#8))]), (2, 1, .int .i64 5)] = some (.agg [GE, .nils, .int .i64 5]) := rfl
theorem stE : storeO [.cells [.nils, .nils, .int .i64 0]] 0 3 0 (.agg [GE, .nils, .int .i64 5]) (some [.nils, .nils, .int .i64 0]) = some (.junk, [.cells [GE, .nils, .int .i64 5]]) := rfl
theorem limE : LimC cE := fun g hg => by
  have : g = gE := by simpa [cE] using hg
  subst this
  exact ⟨⟨by decide, by decide⟩, ⟨by decide, by decide⟩, by decide, by decide⟩
theorem vicE : VicOK cE := ⟨by decide, limE⟩
def nl0 : Nl := ⟨none, [], fun _ => rfl, by simp⟩
theorem ovE : OvOK (cE, nl0, 9) := by
  refine ⟨fun x hx => ?_, fun n hn => by simp [nl0] at hn, by decide, by decide⟩
  have : x = iE 1 ∨ x = iE 2 ∨ x = iE 3 := by simpa [cE, lE] using hx
  rcases this with rfl | rfl | rfl <;> exact ⟨by decide, by decide⟩
theorem e1E : liveP cE 0 = 3 := by decide +kernel
theorem e2E : roomP cE 0 = 1 := by decide +kernel
theorem e3E : (goodP cE 0).length = 1 := by decide +kernel
theorem e4E : (victimsP cE 0).length = 2 := by decide +kernel
theorem e5E : (overP cE.i.l 0 nl0.l 9).length = 2 := by decide +kernel
set_option maxHeartbeats 1000000 in
theorem runs_awake38 : Runs T240 a54 [] (.bool true) := by
  refine ⟨?_⟩
  simp (disch := first | omega | (simp [-List.map_take, -List.map_drop, -List.map_set, -List.map_append, -List.drop_one] <;> omega) | fail) [-List.map_take, -List.map_drop, -List.map_set, -List.map_append, -List.drop_one, a54, build_dg, bsl_d1, bgE, bsl_g, bcE, stE]
  refine W_loop S245 (fun i => 3 - i) (fun i => i ≤ 3) 0 (weak_same (by simp (disch := first | omega | (simp [-List.map_take, -List.map_drop, -List.map_set, -List.map_append, -List.drop_one] <;> omega) | fail) [-List.map_take, -List.map_drop, -List.map_set, -List.map_append, -List.drop_one, S245, a54S0]) (by simp (disch := first | omega | (simp [-List.map_take, -List.map_drop, -List.map_set, -List.map_append, -List.drop_one] <;> omega) | fail) [-List.map_take, -List.map_drop, -List.map_set, -List.map_append, -List.drop_one, S245, a54S0])) (by omega) (fun i hi => ?_)
  simp (disch := first | omega | (simp [-List.map_take, -List.map_drop, -List.map_set, -List.map_append, -List.drop_one] <;> omega) | fail) [-List.map_take, -List.map_drop, -List.map_set, -List.map_append, -List.drop_one, a54L0]
  rcases (show i = 0 ∨ i = 1 ∨ i = 2 ∨ i = 3 by omega) with rfl | rfl | rfl | rfl
  · simp (disch := first | omega | (simp [-List.map_take, -List.map_drop, -List.map_set, -List.map_append, -List.drop_one] <;> omega) | fail) [-List.map_take, -List.map_drop, -List.map_set, -List.map_append, -List.drop_one, S245, a54S0, build_dg, bE, bsl_i]
    refine ⟨1, weak_same (by simp (disch := first | omega | (simp [-List.map_take, -List.map_drop, -List.map_set, -List.map_append, -List.drop_one] <;> omega) | fail) [-List.map_take, -List.map_drop, -List.map_set, -List.map_append, -List.drop_one, S245, a54S0]) (by simp (disch := first | omega | (simp [-List.map_take, -List.map_drop, -List.map_set, -List.map_append, -List.drop_one] <;> omega) | fail) [-List.map_take, -List.map_drop, -List.map_set, -List.map_append, -List.drop_one, S245, a54S0, hE1]), by simp⟩
  · simp (disch := first | omega | (simp [-List.map_take, -List.map_drop, -List.map_set, -List.map_append, -List.drop_one] <;> omega) | fail) [-List.map_take, -List.map_drop, -List.map_set, -List.map_append, -List.drop_one, S245, a54S0, hE1, build_dg, bE, bsl_i]
    refine ⟨2, weak_same (by simp (disch := first | omega | (simp [-List.map_take, -List.map_drop, -List.map_set, -List.map_append, -List.drop_one] <;> omega) | fail) [-List.map_take, -List.map_drop, -List.map_set, -List.map_append, -List.drop_one, S245, a54S0]) (by simp (disch := first | omega | (simp [-List.map_take, -List.map_drop, -List.map_set, -List.map_append, -List.drop_one] <;> omega) | fail) [-List.map_take, -List.map_drop, -List.map_set, -List.map_append, -List.drop_one, S245, a54S0, hE2]), by simp⟩
  · simp (disch := first | omega | (simp [-List.map_take, -List.map_drop, -List.map_set, -List.map_append, -List.drop_one] <;> omega) | fail) [-List.map_take, -List.map_drop, -List.map_set, -List.map_append, -List.drop_one, S245, a54S0, hE2, build_dg, bE, bsl_i, List.append_assoc]
    refine ⟨3, ?_, by simp⟩
    exact weak_freeze (h := hE3) (Nat.zero_le _) (by simp [S245, a54S0, hE3]) (by repeat' (first | exact Or.inl rfl | exact Or.inr rfl | exact trivial | refine And.intro ?_ ?_)) ⟨⟨.inr (fz_clean rfl), .inr fzE, .inr rfl, trivial⟩, trivial⟩
  · have ho : cOver [.agg (clC cE), .nils, .int .i64 9] = some (liV (overP cE.i.l 0 nl0.l 9)) := cOver_eq ovE
    simp (disch := first | omega | (simp [-List.map_take, -List.map_drop, -List.map_set, -List.map_append, -List.drop_one] <;> omega) | fail) [-List.map_take, -List.map_drop, -List.map_set, -List.map_append, -List.drop_one, S245, a54S0, T240_l, T240_g, T240_r, T240_v, T240_o, cCk_eq, liveD, goodD, cCkA_eq limE, cCkA_eq vicE, roomD, vicD, e1E, e2E, e3E, e4E, e5E, ho]
noncomputable def cTru : List DV → Option DV
  | [] => some (.bool true) | _ => none
theorem cTru_eq : cTru [] = some (.bool true) := rfl
theorem cTru_sound {f : Nat} (h : Am.Sem P f [] (.bool true)) : (Con.pure cTru).Sound P f := by
  intro args v e
  unfold cTru at e
  split at e
  · simp at e; subst e; exact h
  · simp at e
end Go.Proofs.YtjhakjeioppijaaDoor
/-
  Disruption: made clusters.
-/
set_option linter.unusedSimpArgs false
set_option linter.unusedVariables false
namespace Go.Proofs.YtjhakjeioppijaaDoor
open Go Go.Am

theorem iLoop_at (ng : Nat) : ∀ (k : Nat) (l : List Ins) (n : Int) (t : Tp), (iLoop ng k l n t).2.2.at_ ≤ t.at_ + 7 * k
  | 0, l, n, t => by simp [iLoop]
  | k + 1, l, n, t => by
    have h1 := iLoop_at ng k (l ++ [iIns ng n t]) (n + (1 + tpN (iTp ng t) 2)) ((iTp ng t).adv 1)
    have h2 := iTp_at ng t
    show (iLoop ng k (l ++ [iIns ng n t]) (n + (1 + tpN (iTp ng t) 2)) ((iTp ng t).adv 1)).2.2.at_ ≤ _
    have h3 : ((iTp ng t).adv 1).at_ = (iTp ng t).at_ + 1 := rfl
    omega
theorem clusterV_at (t : Tp) (m : Int) (h0 : 0 ≤ m) (h1 : m ≤ 200) : (clusterV t m).2.at_ ≤ t.at_ + 2000 := by
  have m1 := tpN_lo (clD t).2 (m + 1)
  have m2 := tpN_hi (clD t).2 (n := m + 1) (by omega)
  have h2 := iLoop_at (clD t).1.g.l.length (tpN (clD t).2 (m + 1)).toNat [] (clD t).1.next ((clD t).2.adv 1)
  have h3 : ((clD t).2.adv 1).at_ = (clD t).2.at_ + 1 := rfl
  have q1 := tpN_lo (t.adv 1) 2
  have q2 := tpN_hi (t.adv 1) (n := 2) (by omega)
  have h4 : (clD t).2.at_ ≤ t.at_ + 2 + 15 * ((tpN (t.adv 1) 2).toNat + 1) := dLoop_at _ _ _
  show (iLoop (clD t).1.g.l.length (tpN (clD t).2 (m + 1)).toNat [] (clD t).1.next ((clD t).2.adv 1)).2.2.at_ ≤ _
  omega
theorem clusterV_len (t : Tp) (m : Int) (h0 : 0 ≤ m) (h1 : m ≤ 200) : (clusterV t m).1.i.l.length ≤ m := by
  obtain ⟨hc, hg⟩ := clD_ok t
  have m1 := tpN_lo (clD t).2 (m + 1)
  have m2 := tpN_hi (clD t).2 (n := m + 1) (by omega)
  have hgl : 1 ≤ (clD t).1.g.l.length := List.length_pos_iff.2 hg
  obtain ⟨-, -, -, k4⟩ := iLoop_ok hgl (tpN (clD t).2 (m + 1)).toNat [] (clD t).1.next ((clD t).2.adv 1) hc.n0 ⟨by simp, by simp⟩
  have hI : clI t m = iLoop (clD t).1.g.l.length (tpN (clD t).2 (m + 1)).toNat [] (clD t).1.next ((clD t).2.adv 1) := rfl
  rw [← hI] at k4
  have hil : (clusterV t m).1.i.l = (clI t m).1 := by
    simp only [clusterV]
    split
    · rename_i e; rw [e]; rfl
    · exact own_l (by rw [k4]; simp; omega)
  rw [hil, k4]; simp; omega
theorem limC_of {c : Clu} (hv : ValidC c) : LimC c := fun g hg => by
  obtain ⟨i, hi, rfl⟩ := List.getElem_of_mem hg
  have h := (hv.g i hi).1
  exact ⟨⟨by have := h.w0; omega, by have := h.w1; omega⟩, ⟨by have := h.l0; omega, by have := h.l1; have := h.w1; omega⟩, by have := h.d0; omega, by have := h.d1; have := h.w1; omega⟩
theorem vicOK_of {c : Clu} (hv : ValidC c) (h : c.i.l.length ≤ 19) : VicOK c := ⟨h, limC_of hv⟩
theorem grAt_some {c : Clu} {k : Int} (h0 : 0 ≤ k) (h1 : k < c.g.l.length) : ∃ g, grAt c k = some g := by
  have : k.toNat < c.g.l.length := by omega
  exact ⟨_, by rw [grAt, if_pos h0, List.getElem?_eq_getElem this]⟩

theorem refVic_len {g : Grp} {l : List Ins} {k : Int} : (refVic g l k).length ≤ 3 * l.length := by
  have h1 : (refDen l k).length ≤ l.length := by rw [refDen, (sortR_perm _).length_eq]; exact List.length_filter_le _ _
  have h2 : (refOther g l k).length ≤ l.length := List.length_filter_le _ _
  have h3 : (refSpare g l k).length ≤ l.length := List.length_filter_le _ _
  simp only [refVic, List.length_append, List.length_take, List.length_reverse]
  omega

theorem belowL_tp {n : Nat} {t : Tp} : belowL n (tpC t) = true := belowL_pure n _ (pure_tpC t)
theorem awake38_sound : (Con.pure cTru).Sound P 54 := cTru_sound (sem_runs mix T240_sound Tryd.func54 a54_ok runs_awake38)
theorem reffind_sound : (Con.pure (cCi fun c i => .int .i64 (findIx c.i.l i))).Sound P 25 := con_sound fun x _ => sem_runs mix tbl0_sound Tryd.func25 a25_ok (runs_reffind x.1 x.2)
end Go.Proofs.YtjhakjeioppijaaDoor
/-
  Functions of this claim, as the abstract machine has them. MADE BY A PROGRAM of mine.
-/
set_option linter.unusedSimpArgs false
set_option linter.unusedVariables false
namespace Go.Proofs.YtjhakjeioppijaaDoor
open Go Go.Am
-- 85 admission/admissionref28.SameInts
def a85L0 : ACode :=
  (.seq (.seq (.region false [⟨none, (some 11), .mov (.t 5)⟩,
    ⟨none, (some 12), .mov (.t 0)⟩,
    ⟨none, (some 13), .len (.t 12)⟩,
    ⟨none, (some 14), .bin .lss (.t 11) (.t 13)⟩])
  (.cond (.t 14) .skip
  (.exit 0)))
  (.seq (.block 1 (.seq (.region true [⟨none, (some 17), .mov (.t 0)⟩,
    ⟨none, (some 18), .mov (.t 5)⟩,
    ⟨none, (some 19), .idxS 1 (.t 17) (.t 18)⟩,
    ⟨none, (some 20), .load 1 false (.t 19)⟩,
    ⟨none, (some 21), .mov (.t 1)⟩,
    ⟨none, (some 22), .mov (.t 5)⟩,
    ⟨none, (some 23), .idxS 1 (.t 21) (.t 22)⟩,
    ⟨none, (some 24), .load 1 false (.t 23)⟩,
    ⟨none, (some 25), .bin .neq (.t 20) (.t 24)⟩])
  (.cond (.t 25) (.seq (.region false [⟨none, (some 4), .mov (.k (.bool false))⟩])
  .ret)
  .skip)))
  (.region false [⟨none, (some 15), .mov (.t 5)⟩,
    ⟨none, (some 16), .bin .add (.t 15) (.k (.int .i64 1))⟩,
    ⟨none, (some 5), .mov (.t 16)⟩])))
/-- 0:a 1:b 5:i -/
def a85S0 (x0 x1 x5 : DV) (h : List AObj) : St := ⟨[x0, x1, .junk, .junk, .junk, x5] ++ js 20, h⟩

def a85 : AFn where
  code := (.seq (.region false [⟨none, (some 4), .mov (.k (.bool false))⟩])
  (.seq (.seq (.region false [⟨none, (some 6), .mov (.t 0)⟩,
    ⟨none, (some 7), .len (.t 6)⟩,
    ⟨none, (some 8), .mov (.t 1)⟩,
    ⟨none, (some 9), .len (.t 8)⟩,
    ⟨none, (some 10), .bin .neq (.t 7) (.t 9)⟩])
  (.cond (.t 10) (.seq (.region false [⟨none, (some 4), .mov (.k (.bool false))⟩])
  .ret)
  .skip))
  (.seq (.seq (.region false [⟨none, (some 5), .mov (.k (.int .i64 0))⟩])
  (.block 0 (.loop a85L0)))
  (.seq (.region false [⟨none, (some 4), .mov (.k (.bool true))⟩])
  .ret))))
  ntmps := 26
  res := [.tmp 4]

theorem a85_ok : compileFn P Tryd.f85 = some a85 := by kernel_rfl

-- 47 admission/admissionlaw38.ints
def a47 : AFn where
  code := (.seq (.region false [⟨none, (some 4), .mov (.k (.bool false))⟩])
  (.seq (.region false [⟨none, (some 5), .mov (.t 0)⟩,
    ⟨none, (some 6), .mov (.t 1)⟩,
    ⟨none, (some 7), .call (.k (.fn (.func 85) [] [])) [(.t 5), (.t 6)]⟩,
    ⟨none, (some 4), .mov (.t 7)⟩])
  .ret))
  ntmps := 8
  res := [.tmp 4]

theorem a47_ok : compileFn P Tryd.f47 = some a47 := by kernel_rfl

-- 55 admission/admissioncase.Graces
def a55L0 : ACode :=
  (.seq (.seq (.region false [⟨none, (some 7), .mov (.t 6)⟩,
    ⟨none, (some 8), .fld 1 (.t 3)⟩,
    ⟨none, (some 9), .load 1 false (.t 8)⟩,
    ⟨none, (some 10), .len (.t 9)⟩,
    ⟨none, (some 11), .bin .lss (.t 7) (.t 10)⟩])
  (.cond (.t 11) .skip
  (.exit 0)))
  (.seq (.block 1 (.region false [⟨none, (some 14), .mov (.t 5)⟩,
    ⟨none, (some 15), .mov (.t 0)⟩,
    ⟨none, (some 16), .call (.k (.fn (.func 28) [] [])) [(.t 15), (.k (.int .i64 25))]⟩,
    ⟨none, (some 17), .bsl 1 1 [(.int .i64 0)] [(0, 1, (.t 16))]⟩,
    ⟨none, (some 18), .app 1 8 (.t 14) (.t 17)⟩,
    ⟨none, (some 5), .mov (.t 18)⟩]))
  (.region false [⟨none, (some 12), .mov (.t 6)⟩,
    ⟨none, (some 13), .bin .add (.t 12) (.k (.int .i64 1))⟩,
    ⟨none, (some 6), .mov (.t 13)⟩])))
/-- 0:t 3:c 5:out 6:i -/
def a55S0 (x0 x3 x5 x6 : DV) (h : List AObj) : St := ⟨[x0, .junk, .junk, x3, .junk, x5, x6] ++ js 13, h⟩

def a55 : AFn where
  code := (.seq (.region false [⟨none, (some 3), .box (.t 1)⟩,
    ⟨none, (some 4), .mov (.k .nils)⟩])
  (.seq (.region false [⟨none, (some 5), .mov (.k .nils)⟩])
  (.seq (.seq (.region false [⟨none, (some 6), .mov (.k (.int .i64 0))⟩])
  (.block 0 (.loop a55L0)))
  (.seq (.region false [⟨none, (some 19), .mov (.t 5)⟩,
    ⟨none, (some 4), .mov (.t 19)⟩])
  .ret))))
  ntmps := 20
  res := [.tmp 4]

theorem a55_ok : compileFn P Tryd.f55 = some a55 := by kernel_rfl

-- 57 admission/admissionref38.Overdue
def a57L0 : ACode :=
  (.seq (.seq (.region false [⟨none, (some 11), .mov (.t 8)⟩,
    ⟨none, (some 12), .fld 1 (.t 3)⟩,
    ⟨none, (some 13), .load 1 false (.t 12)⟩,
    ⟨none, (some 14), .len (.t 13)⟩,
    ⟨none, (some 15), .bin .lss (.t 11) (.t 14)⟩])
  (.cond (.t 15) .skip
  (.exit 0)))
  (.seq (.block 1 (.seq (.region false [⟨none, (some 18), .fld 1 (.t 3)⟩,
    ⟨none, (some 19), .load 1 false (.t 18)⟩,
    ⟨none, (some 20), .mov (.t 8)⟩,
    ⟨none, (some 21), .idxS 37 (.t 19) (.t 20)⟩,
    ⟨none, (some 22), .load 37 true (.t 21)⟩,
    ⟨none, (some 9), .alloc [(.int .i64 0), (.int .i64 0), (w8 0#8), (w8 0#8), (w8 0#8), (w8 0#8), (w8 0#8), (w8 0#8), (w8 0#8), (w8 0#8), (w8 0#8), (w8 0#8), (w8 0#8), (w8 0#8), (w8 0#8), (w8 0#8), (w8 0#8), (w8 0#8), (w8 0#8), (w8 0#8), (w8 0#8), (w8 0#8), (w8 0#8), (w8 0#8), (w8 0#8), (w8 0#8), (w8 0#8), (w8 0#8), (w8 0#8), (w8 0#8), (w8 0#8), (w8 0#8), (w8 0#8), (w8 0#8), (.int .i64 0), (.int .i64 0), (.int .i64 0)]⟩,
    ⟨none, none, .store 37 (.t 9) (.t 22)⟩,
    ⟨none, (some 10), .mov (.k (.int .i64 0))⟩])
  (.seq (.seq (.region false [⟨none, (some 23), .mov (.t 8)⟩,
    ⟨none, (some 24), .mov (.t 1)⟩,
    ⟨none, (some 25), .len (.t 24)⟩,
    ⟨none, (some 26), .bin .lss (.t 23) (.t 25)⟩])
  (.cond (.t 26) (.region false [⟨none, (some 27), .mov (.t 1)⟩,
    ⟨none, (some 28), .mov (.t 8)⟩,
    ⟨none, (some 29), .idxS 1 (.t 27) (.t 28)⟩,
    ⟨none, (some 30), .load 1 false (.t 29)⟩,
    ⟨none, (some 10), .mov (.t 30)⟩])
  .skip))
  (.seq (.region false [⟨none, (some 31), .fld 34 (.t 9)⟩,
    ⟨none, (some 32), .load 1 false (.t 31)⟩,
    ⟨none, (some 33), .bin .eql (.t 32) (.k (.int .i64 1))⟩,
    ⟨none, (some 34), .mov (.t 33)⟩,
    ⟨(some (34, false)), (some 35), .fld 34 (.t 9)⟩,
    ⟨(some (34, false)), (some 36), .load 1 false (.t 35)⟩,
    ⟨(some (34, false)), (some 37), .bin .eql (.t 36) (.k (.int .i64 2))⟩,
    ⟨none, (some 38), .pick (.t 34) (.k (.bool true)) (.t 37)⟩,
    ⟨none, (some 39), .mov (.t 38)⟩,
    ⟨(some (39, true)), (some 40), .fld 36 (.t 9)⟩,
    ⟨(some (39, true)), (some 41), .load 1 false (.t 40)⟩,
    ⟨(some (39, true)), (some 42), .bin .geq (.t 41) (.k (.int .i64 0))⟩,
    ⟨none, (some 43), .pick (.t 39) (.t 42) (.k (.bool false))⟩,
    ⟨none, (some 44), .mov (.t 43)⟩,
    ⟨(some (44, true)), (some 45), .mov (.t 2)⟩,
    ⟨(some (44, true)), (some 46), .fld 36 (.t 9)⟩,
    ⟨(some (44, true)), (some 47), .load 1 false (.t 46)⟩,
    ⟨(some (44, true)), (some 48), .bin .sub (.t 45) (.t 47)⟩,
    ⟨(some (44, true)), (some 49), .mov (.t 10)⟩,
    ⟨(some (44, true)), (some 50), .bin .geq (.t 48) (.t 49)⟩,
    ⟨none, (some 51), .pick (.t 44) (.t 50) (.k (.bool false))⟩])
  (.cond (.t 51) (.region false [⟨none, (some 52), .mov (.t 7)⟩,
    ⟨none, (some 53), .fld 0 (.t 9)⟩,
    ⟨none, (some 54), .load 1 false (.t 53)⟩,
    ⟨none, (some 55), .bsl 1 1 [(.int .i64 0)] [(0, 1, (.t 54))]⟩,
    ⟨none, (some 56), .app 1 8 (.t 52) (.t 55)⟩,
    ⟨none, (some 7), .mov (.t 56)⟩])
  .skip)))))
  (.region false [⟨none, (some 16), .mov (.t 8)⟩,
    ⟨none, (some 17), .bin .add (.t 16) (.k (.int .i64 1))⟩,
    ⟨none, (some 8), .mov (.t 17)⟩])))
/-- 1:graces 2:t 3:c 7:out 8:i -/
def a57S0 (x1 x2 x3 x7 x8 : DV) (h : List AObj) : St := ⟨[.junk, x1, x2, x3, .junk, .junk, .junk, x7, x8] ++ js 49, h⟩

def a57 : AFn where
  code := (.seq (.region false [⟨none, (some 3), .box (.t 0)⟩,
    ⟨none, (some 6), .mov (.k .nils)⟩])
  (.seq (.region false [⟨none, (some 7), .mov (.k .nils)⟩])
  (.seq (.seq (.region false [⟨none, (some 8), .mov (.k (.int .i64 0))⟩])
  (.block 0 (.loop a57L0)))
  (.seq (.region false [⟨none, (some 57), .mov (.t 7)⟩,
    ⟨none, (some 6), .mov (.t 57)⟩])
  .ret))))
  ntmps := 58
  res := [.tmp 6]

theorem a57_ok : compileFn P Tryd.f57 = some a57 := by kernel_rfl

end Go.Proofs.YtjhakjeioppijaaDoor
/-
  Disruption: made graces.
-/
set_option linter.unusedSimpArgs false
set_option linter.unusedVariables false
namespace Go.Proofs.YtjhakjeioppijaaDoor
open Go Go.Am

def graL (t : Tp) (n : Nat) : List Int := (List.range n).map fun i => tpN (t.adv i) 25
theorem graL_succ {t : Tp} {n : Nat} : graL t (n + 1) = graL t n ++ [tpN (t.adv n) 25] := by simp [graL, List.range_succ]
theorem graL_len {t : Tp} {n : Nat} : (graL t n).length = n := by simp [graL]
theorem graL_mem {t : Tp} {n : Nat} {x : Int} (h : x ∈ graL t n) : 0 ≤ x ∧ x < 25 := by
  obtain ⟨i, _, rfl⟩ := List.mem_map.1 h
  exact ⟨tpN_lo _ _, tpN_hi _ (by decide)⟩
noncomputable def T290 : Tbl := addT 28 (.tch cNext) tbl0
theorem T290_n : T290 28 = .tch cNext := by simp [T290]
theorem T290_sound : T290.Sound P := addT_sound next_sound tbl0_sound
theorem appX_l3 {l : List Int} {o x : AObj} {y : Int} (hl : 0 < l.length) (hb : l.length < 4294967296) : appX [o, x, .cells (l.map (.int .i64))] 1 8 (.ms 2 l.length 0 1 l.length l.length) 1 [.int .i64 y] = some (.ms 2 (l.length + 1) 0 1 (l.length + 1) (l.length + 1), [o, x, .cells ((l ++ [y]).map (.int .i64))]) := by
  have ho : objV [o, x, .cells (l.map (.int .i64))] 2 l.length = some (l.map (.int .i64)) := by simp [objV, objAt]
  rw [appX_own (by simp) (by omega) (by omega) (by simp) (by omega) (by simp [DV.one]), ho, Option.map_some, List.map_append]
  rfl
def gr3 (t : Tp) (c : Clu) (L : List Int) : List AObj := if L = [] then [.cells (tpC t), .cells (clC c)] else [.cells (tpC t), .cells (clC c), .cells (L.map (.int .i64))]
theorem gr3_nil {t : Tp} {c : Clu} : gr3 t c [] = [.cells (tpC t), .cells (clC c)] := rfl
theorem gr3_ne {t : Tp} {c : Clu} {L : List Int} (h : L ≠ []) : gr3 t c L = [.cells (tpC t), .cells (clC c), .cells (L.map (.int .i64))] := if_neg h
def S290 (t : Tp) (c : Clu) (i : Nat) : St := a55S0 (.mp 0 2 0) (.mp 1 3 0) (srtV 2 (graL t i)) (.int .i64 i) (gr3 (t.adv i) c (graL t i))
theorem runs_graces (t : Tp) (c : Clu) (ht : t.at_ < 4000000000) (hn : c.i.l.length ≤ 1000) : RunsF T290 a55 [.mp 0 2 0, .agg (clC c)] [.cells (tpC t)] (liV (graL t c.i.l.length)) [.cells (tpC (t.adv c.i.l.length))] := by
  refine ⟨?_⟩
  obtain ⟨n, hne⟩ : ∃ n, c.i.l.length = n := ⟨_, rfl⟩
  rw [hne] at hn ⊢
  simp (disch := first | omega | (simp [-List.map_take, -List.map_drop, -List.map_set, -List.map_append, -List.drop_one] <;> omega) | fail) [-List.map_take, -List.map_drop, -List.map_set, -List.map_append, -List.drop_one, a55]
  refine W_loop (S290 t c) (fun i => n - i) (fun i => i ≤ n) 0 (weak_same (by simp (disch := first | omega | (simp [-List.map_take, -List.map_drop, -List.map_set, -List.map_append, -List.drop_one] <;> omega) | fail) [-List.map_take, -List.map_drop, -List.map_set, -List.map_append, -List.drop_one, S290, a55S0, graL, srtV]) (by simp (disch := first | omega | (simp [-List.map_take, -List.map_drop, -List.map_set, -List.map_append, -List.drop_one] <;> omega) | fail) [-List.map_take, -List.map_drop, -List.map_set, -List.map_append, -List.drop_one, S290, a55S0, graL, gr3, adv_zero])) (by omega) (fun i hi => ?_)
  simp (disch := first | omega | (simp [-List.map_take, -List.map_drop, -List.map_set, -List.map_append, -List.drop_one] <;> omega) | fail) [-List.map_take, -List.map_drop, -List.map_set, -List.map_append, -List.drop_one, a55L0, a55S0, S290, hne]
  have hgl := graL_len (t := t) (n := i)
  have hgs := graL_succ (t := t) (n := i)
  have hN := cNext_pos (t := t.adv i) (n := 25) (by show t.at_ + i < _; omega) (by decide) (by decide)
  rw [adv_adv] at hN
  obtain ⟨L, hL⟩ : ∃ L, graL t i = L := ⟨_, rfl⟩
  rw [hL] at hgl hgs
  rw [hL]
  by_cases h : i < n
  · have h' : (i : Int) < n := by omega
    obtain ⟨y, hy⟩ : ∃ y, tpN (t.adv i) 25 = y := ⟨_, rfl⟩
    rw [hy] at hN hgs
    by_cases q : L = []
    · subst q
      simp (disch := first | omega | (simp [-List.map_take, -List.map_drop, -List.map_set, -List.map_append, -List.drop_one] <;> omega) | fail) [-List.map_take, -List.map_drop, -List.map_set, -List.map_append, -List.drop_one, hne, h, h', T290_n, hN, srtV_nil, gr3_nil]
      have hV : srtV 2 (graL t (i + 1)) = .ms 2 1 0 1 1 1 := by rw [hgs]; rfl
      have hH : gr3 (t.adv (i + 1)) c (graL t (i + 1)) = [.cells (tpC (t.adv (i + 1))), .cells (clC c), .cells [.int .i64 y]] := by rw [hgs]; rfl
      exact ⟨i + 1, weak_same (by simp (disch := first | omega | (simp [-List.map_take, -List.map_drop, -List.map_set, -List.map_append, -List.drop_one] <;> omega) | fail) [-List.map_take, -List.map_drop, -List.map_set, -List.map_append, -List.drop_one, S290, a55S0, hV]) (by simp (disch := first | omega | (simp [-List.map_take, -List.map_drop, -List.map_set, -List.map_append, -List.drop_one] <;> omega) | fail) [-List.map_take, -List.map_drop, -List.map_set, -List.map_append, -List.drop_one, S290, a55S0, hH]), by omega, by omega⟩
    · have hV := srtV_ne (p := 2) q
      have hLp : 0 < L.length := by cases L with | nil => exact absurd rfl q | cons a l => simp
      have hap := fun o x y => appX_l3 (l := L) (o := o) (x := x) (y := y) hLp (by omega)
      rw [hgl] at hV hap
      simp (disch := first | omega | (simp [-List.map_take, -List.map_drop, -List.map_set, -List.map_append, -List.drop_one] <;> omega) | fail) [-List.map_take, -List.map_drop, -List.map_set, -List.map_append, -List.drop_one, hne, h, h', T290_n, hN, hV, gr3_ne q, hgl, hap]
      have hV : srtV 2 (graL t (i + 1)) = .ms 2 (i + 1) 0 1 (i + 1) (i + 1) := by rw [hgs, srtV_ne (by simp), List.length_append, hgl]; rfl
      have hH : gr3 (t.adv (i + 1)) c (graL t (i + 1)) = [.cells (tpC (t.adv (i + 1))), .cells (clC c), .cells ((L ++ [y]).map (.int .i64))] := by rw [hgs, gr3_ne (by simp)]
      exact ⟨i + 1, weak_same (by simp (disch := first | omega | (simp [-List.map_take, -List.map_drop, -List.map_set, -List.map_append, -List.drop_one] <;> omega) | fail) [-List.map_take, -List.map_drop, -List.map_set, -List.map_append, -List.drop_one, S290, a55S0, hV]) (by simp (disch := first | omega | (simp [-List.map_take, -List.map_drop, -List.map_set, -List.map_append, -List.drop_one] <;> omega) | fail) [-List.map_take, -List.map_drop, -List.map_set, -List.map_append, -List.drop_one, S290, a55S0, hH]), by omega, by omega⟩
  · have h' : ¬ (i : Int) < n := by omega
    obtain rfl : i = n := by omega
    have hfz : ∀ k, fzL 1 k (tpC (t.adv i)) (tpC (t.adv i)) := fun k => fzL_clean (pure_tpC _)
    by_cases q : L = []
    · subst q
      simp (disch := first | omega | (simp [-List.map_take, -List.map_drop, -List.map_set, -List.map_append, -List.drop_one] <;> omega) | fail) [-List.map_take, -List.map_drop, -List.map_set, -List.map_append, -List.drop_one, hne, h, h', srtV_nil, gr3_nil, hL, liV_nil, hfz]
    · have hV := srtV_ne (p := 2) q
      rw [hgl] at hV
      have ht : (L.map (DV.int .i64)).take i = L.map (DV.int .i64) := List.take_of_length_le (by simp [hgl])
      have hli : liV L = .sl false 1 i (L.map (.int .i64)) := by
        have e : ∀ l : List Int, l.flatMap inI = l.map (.int .i64) := fun l => by
          induction l with
          | nil => rfl
          | cons a l ih => rw [List.flatMap_cons, ih]; rfl
        rw [liV_ne q, hgl, e]
      simp (disch := first | omega | (simp [-List.map_take, -List.map_drop, -List.map_set, -List.map_append, -List.drop_one] <;> omega) | fail) [-List.map_take, -List.map_drop, -List.map_set, -List.map_append, -List.drop_one, hne, h, h', hV, gr3_ne q, hgl, hL, hli, hfz, ht, fzLo_clean pureL_i64]
noncomputable def cGra : List DV → List DV → Option (DV × List DV) := conT (fun a : Tp × Clu => a.1.at_ < 4000000000 ∧ a.2.i.l.length ≤ 1000) (fun a => [.agg (clC a.2)]) (fun a => tpC a.1) (fun a => (liV (graL a.1 a.2.i.l.length), tpC (a.1.adv a.2.i.l.length)))
theorem cGra_eq {t : Tp} {c : Clu} (h1 : t.at_ < 4000000000) (h2 : c.i.l.length ≤ 1000) : cGra [.agg (clC c)] (tpC t) = some (liV (graL t c.i.l.length), tpC (t.adv c.i.l.length)) :=
  conT_eq (A := fun a : Tp × Clu => a.1.at_ < 4000000000 ∧ a.2.i.l.length ≤ 1000) (f := fun a => [.agg (clC a.2)]) (s := fun a => tpC a.1) (by
    rintro ⟨a, n⟩ ⟨b, m⟩ e1 e2
    simp only [List.cons.injEq, DV.agg.injEq, and_true] at e1
    rw [clC_inj e1, tpC_inj e2]) (t, c) ⟨h1, h2⟩
theorem gra_sound : (Con.tch cGra).Sound P 55 :=
  conT_sound (fun a _ => ⟨by simp [pureL, pureD, pure_clC], pure_tpC _, liV_pure _, pure_tpC _⟩) fun a h => calls_runsF mix T290_sound Tryd.func55 a55_ok (runs_graces a.1 a.2 h.1 h.2) (Nat.le_refl _)
def nlO (l : List Int) (h : l.length ≤ 1000000) : Nl := ⟨if l = [] then none else some false, l, fun e => by
  by_cases q : l = []
  · exact q
  · simp [q] at e, by omega⟩
theorem nlO_dv {l : List Int} (h : l.length ≤ 1000000) : (nlO l h).dv = liV l := by
  unfold nlO Nl.dv liV
  by_cases q : l = []
  · simp only [q, if_true]; rfl
  · simp only [q, if_false]; rfl
noncomputable def cLL (f : List Int → List Int → Bool) : List DV → Option DV := con (fun a : List Int × List Int => a.1.length ≤ 1000000 ∧ a.2.length ≤ 1000000) (fun a => [liV a.1, liV a.2]) (fun a => .bool (f a.1 a.2))
theorem cLL_eq {f : List Int → List Int → Bool} {a b : List Int} (h1 : a.length ≤ 1000000) (h2 : b.length ≤ 1000000) : cLL f [liV a, liV b] = some (.bool (f a b)) :=
  con_eq (f := fun a : List Int × List Int => [liV a.1, liV a.2]) (g := fun a => .bool (f a.1 a.2)) (by
    rintro ⟨a, b⟩ ⟨c, d⟩ e
    simp only [List.cons.injEq, and_true] at e
    rw [liV_inj e.1, liV_inj e.2]) (a, b) ⟨h1, h2⟩
end Go.Proofs.YtjhakjeioppijaaDoor
