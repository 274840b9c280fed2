/-
  Functions of this claim, as the abstract machine has them. MADE BY A PROGRAM of mine.
-/
import Derived.Test.YtjjcdmjgbbaliaaDoorAmZ
import Derived.Test.YtjjcdmjgbbaliaaDoorProg
import Derived.Test.YtjjcdmjgbbaliaaDoorPb
set_option linter.unusedSimpArgs false
set_option linter.unusedVariables false
namespace Go.Proofs.YtjjcdmjgbbaliaaDoor
open Go Go.Am
noncomputable abbrev P : Program := Tryd.prog
theorem mix : P.follows .mixedOrders = true := by kernel_rfl
-- 92 internal/stringslite.IndexByte
def a92 : AFn where
  code := (.seq (.region false [⟨none, (some 4), .mov (.k (.int .i64 0))⟩])
  (.seq (.region false [⟨none, (some 5), .mov (.t 0)⟩,
    ⟨none, (some 6), .mov (.t 1)⟩,
    ⟨none, (some 7), .call (.k (.fn (.func 116) [] [])) [(.t 5), (.t 6)]⟩,
    ⟨none, (some 4), .mov (.t 7)⟩])
  .ret))
  ntmps := 8
  res := [.tmp 4]

theorem a92_ok : compileFn P Tryd.f92 = some a92 := by kernel_rfl

-- 52 strings.IndexByte
def a52 : AFn where
  code := (.seq (.region false [⟨none, (some 4), .mov (.k (.int .i64 0))⟩])
  (.seq (.region false [⟨none, (some 5), .mov (.t 0)⟩,
    ⟨none, (some 6), .mov (.t 1)⟩,
    ⟨none, (some 7), .call (.k (.fn (.func 92) [] [])) [(.t 5), (.t 6)]⟩,
    ⟨none, (some 4), .mov (.t 7)⟩])
  .ret))
  ntmps := 8
  res := [.tmp 4]

theorem a52_ok : compileFn P Tryd.f52 = some a52 := by kernel_rfl

-- 117 internal/stringslite.Index
def a117L0 : ACode :=
  (.seq (.seq (.region false [⟨none, (some 57), .mov (.t 8)⟩,
    ⟨none, (some 58), .mov (.t 9)⟩,
    ⟨none, (some 59), .bin .lss (.t 57) (.t 58)⟩])
  (.cond (.t 59) .skip
  (.exit 1)))
  (.block 2 (.seq (.seq (.region false [⟨none, (some 60), .mov (.t 0)⟩,
    ⟨none, (some 61), .mov (.t 8)⟩,
    ⟨none, (some 62), .idxStr (.t 60) (.t 61)⟩,
    ⟨none, (some 63), .mov (.t 6)⟩,
    ⟨none, (some 64), .bin .neq (.t 62) (.t 63)⟩])
  (.cond (.t 64) (.seq (.region false [⟨none, (some 65), .mov (.t 0)⟩,
    ⟨none, (some 66), .mov (.t 8)⟩,
    ⟨none, (some 67), .bin .add (.t 66) (.k (.int .i64 1))⟩,
    ⟨none, (some 68), .mov (.t 9)⟩,
    ⟨none, (some 69), .slcStr (.t 65) (some (.t 67)) (some (.t 68))⟩,
    ⟨none, (some 70), .mov (.t 6)⟩,
    ⟨none, (some 71), .call (.k (.fn (.func 92) [] [])) [(.t 69), (.t 70)]⟩,
    ⟨none, (some 11), .mov (.t 71)⟩])
  (.seq (.seq (.region false [⟨none, (some 72), .mov (.t 11)⟩,
    ⟨none, (some 73), .bin .lss (.t 72) (.k (.int .i64 0))⟩])
  (.cond (.t 73) (.seq (.region false [⟨none, (some 4), .mov (.k (.int .i64 (-1)))⟩])
  .ret)
  .skip))
  (.region false [⟨none, (some 74), .mov (.t 8)⟩,
    ⟨none, (some 75), .mov (.t 11)⟩,
    ⟨none, (some 76), .bin .add (.t 75) (.k (.int .i64 1))⟩,
    ⟨none, (some 77), .bin .add (.t 74) (.t 76)⟩,
    ⟨none, (some 8), .mov (.t 77)⟩])))
  .skip))
  (.seq (.seq (.region false [⟨none, (some 78), .mov (.t 0)⟩,
    ⟨none, (some 79), .mov (.t 8)⟩,
    ⟨none, (some 80), .bin .add (.t 79) (.k (.int .i64 1))⟩,
    ⟨none, (some 81), .idxStr (.t 78) (.t 80)⟩,
    ⟨none, (some 82), .mov (.t 7)⟩,
    ⟨none, (some 83), .bin .eql (.t 81) (.t 82)⟩,
    ⟨none, (some 84), .mov (.t 83)⟩,
    ⟨(some (84, true)), (some 85), .mov (.t 0)⟩,
    ⟨(some (84, true)), (some 86), .mov (.t 8)⟩,
    ⟨(some (84, true)), (some 87), .mov (.t 8)⟩,
    ⟨(some (84, true)), (some 88), .mov (.t 5)⟩,
    ⟨(some (84, true)), (some 89), .bin .add (.t 87) (.t 88)⟩,
    ⟨(some (84, true)), (some 90), .slcStr (.t 85) (some (.t 86)) (some (.t 89))⟩,
    ⟨(some (84, true)), (some 91), .mov (.t 1)⟩,
    ⟨(some (84, true)), (some 92), .bin .eql (.t 90) (.t 91)⟩,
    ⟨none, (some 93), .pick (.t 84) (.t 92) (.k (.bool false))⟩])
  (.cond (.t 93) (.seq (.region false [⟨none, (some 94), .mov (.t 8)⟩,
    ⟨none, (some 4), .mov (.t 94)⟩])
  .ret)
  .skip))
  (.seq (.region false [⟨none, (some 95), .mov (.t 8)⟩,
    ⟨none, (some 96), .bin .add (.t 95) (.k (.int .i64 1))⟩,
    ⟨none, (some 8), .mov (.t 96)⟩])
  (.seq (.region false [⟨none, (some 97), .mov (.t 10)⟩,
    ⟨none, (some 98), .bin .add (.t 97) (.k (.int .i64 1))⟩,
    ⟨none, (some 10), .mov (.t 98)⟩])
  (.seq (.region false [⟨none, (some 99), .mov (.t 5)⟩,
    ⟨none, (some 100), .ext (.k .junk) 0⟩,
    ⟨none, (some 101), .bin .leq (.t 99) (.t 100)⟩,
    ⟨none, (some 102), .mov (.t 101)⟩,
    ⟨(some (102, true)), (some 103), .mov (.t 10)⟩,
    ⟨(some (102, true)), (some 104), .mov (.t 8)⟩,
    ⟨(some (102, true)), (some 105), .call (.k (.fn (.func 126) [] [])) [(.t 104)]⟩,
    ⟨(some (102, true)), (some 106), .bin .gtr (.t 103) (.t 105)⟩,
    ⟨none, (some 107), .pick (.t 102) (.t 106) (.k (.bool false))⟩])
  (.cond (.t 107) (.seq (.region false [⟨none, (some 108), .mov (.t 0)⟩,
    ⟨none, (some 109), .mov (.t 8)⟩,
    ⟨none, (some 110), .slcStr (.t 108) (some (.t 109)) none⟩,
    ⟨none, (some 111), .mov (.t 1)⟩,
    ⟨none, (some 112), .call (.k (.fn (.func 125) [] [])) [(.t 110), (.t 111)]⟩,
    ⟨none, (some 12), .mov (.t 112)⟩])
  (.seq (.seq (.region false [⟨none, (some 113), .mov (.t 12)⟩,
    ⟨none, (some 114), .bin .geq (.t 113) (.k (.int .i64 0))⟩])
  (.cond (.t 114) (.seq (.region false [⟨none, (some 115), .mov (.t 12)⟩,
    ⟨none, (some 116), .mov (.t 8)⟩,
    ⟨none, (some 117), .bin .add (.t 115) (.t 116)⟩,
    ⟨none, (some 4), .mov (.t 117)⟩])
  .ret)
  .skip))
  (.seq (.region false [⟨none, (some 4), .mov (.k (.int .i64 (-1)))⟩])
  .ret)))
  (.seq (.region false [⟨none, (some 118), .mov (.t 5)⟩,
    ⟨none, (some 119), .ext (.k .junk) 0⟩,
    ⟨none, (some 120), .bin .gtr (.t 118) (.t 119)⟩,
    ⟨none, (some 121), .mov (.t 120)⟩,
    ⟨(some (121, true)), (some 122), .mov (.t 10)⟩,
    ⟨(some (121, true)), (some 123), .mov (.t 8)⟩,
    ⟨(some (121, true)), (some 124), .bin .shr (.t 123) (.k (w64 4#64))⟩,
    ⟨(some (121, true)), (some 125), .bin .add (.k (.int .i64 4)) (.t 124)⟩,
    ⟨(some (121, true)), (some 126), .bin .geq (.t 122) (.t 125)⟩,
    ⟨none, (some 127), .pick (.t 121) (.t 126) (.k (.bool false))⟩,
    ⟨none, (some 128), .mov (.t 127)⟩,
    ⟨(some (128, true)), (some 129), .mov (.t 8)⟩,
    ⟨(some (128, true)), (some 130), .mov (.t 9)⟩,
    ⟨(some (128, true)), (some 131), .bin .lss (.t 129) (.t 130)⟩,
    ⟨none, (some 132), .pick (.t 128) (.t 131) (.k (.bool false))⟩])
  (.cond (.t 132) (.seq (.region false [⟨none, (some 133), .mov (.t 0)⟩,
    ⟨none, (some 134), .mov (.t 8)⟩,
    ⟨none, (some 135), .slcStr (.t 133) (some (.t 134)) none⟩,
    ⟨none, (some 136), .mov (.t 1)⟩,
    ⟨none, (some 137), .call (.k (.fn (.func 127) [] [])) [(.t 135), (.t 136)]⟩,
    ⟨none, (some 13), .mov (.t 137)⟩])
  (.seq (.seq (.region false [⟨none, (some 138), .mov (.t 13)⟩,
    ⟨none, (some 139), .bin .lss (.t 138) (.k (.int .i64 0))⟩])
  (.cond (.t 139) (.seq (.region false [⟨none, (some 4), .mov (.k (.int .i64 (-1)))⟩])
  .ret)
  .skip))
  (.seq (.region false [⟨none, (some 140), .mov (.t 8)⟩,
    ⟨none, (some 141), .mov (.t 13)⟩,
    ⟨none, (some 142), .bin .add (.t 140) (.t 141)⟩,
    ⟨none, (some 4), .mov (.t 142)⟩])
  .ret)))
  .skip))))))))))
/-- 0:s 1:substr 5:n 6:c0 7:c1 8:i 9:t 10:fails -/
def a117S0 (x0 x1 x5 x6 x7 x8 x9 x10 : DV) (h : List AObj) : St := ⟨[x0, x1, .junk, .junk, .junk, x5, x6, x7, x8, x9, x10] ++ js 132, h⟩

def a117 : AFn where
  code := (.seq (.region false [⟨none, (some 4), .mov (.k (.int .i64 0))⟩])
  (.seq (.region false [⟨none, (some 14), .mov (.t 1)⟩,
    ⟨none, (some 15), .lenStr (.t 14)⟩,
    ⟨none, (some 5), .mov (.t 15)⟩])
  (.seq (.block 0 (.seq (.region false [⟨none, (some 17), .mov (.t 5)⟩,
    ⟨none, (some 18), .bin .eql (.t 17) (.k (.int .i64 0))⟩,
    ⟨none, (some 19), .mov (.t 18)⟩,
    ⟨(some (19, false)), (some 20), .mov (.t 1)⟩,
    ⟨(some (19, false)), (some 21), .mov (.t 0)⟩,
    ⟨(some (19, false)), (some 22), .bin .eql (.t 20) (.t 21)⟩,
    ⟨none, (some 23), .pick (.t 19) (.k (.bool true)) (.t 22)⟩,
    ⟨none, (some 16), .mov (.t 23)⟩])
  (.cond (.t 16) (.seq (.region false [⟨none, (some 4), .mov (.k (.int .i64 0))⟩])
  .ret)
  (.seq (.region false [⟨none, (some 25), .mov (.t 5)⟩,
    ⟨none, (some 26), .bin .eql (.t 25) (.k (.int .i64 1))⟩,
    ⟨none, (some 24), .mov (.t 26)⟩])
  (.cond (.t 24) (.seq (.region false [⟨none, (some 27), .mov (.t 0)⟩,
    ⟨none, (some 28), .mov (.t 1)⟩,
    ⟨none, (some 29), .idxStr (.t 28) (.k (.int .i64 0))⟩,
    ⟨none, (some 30), .call (.k (.fn (.func 92) [] [])) [(.t 27), (.t 29)]⟩,
    ⟨none, (some 4), .mov (.t 30)⟩])
  .ret)
  (.seq (.region false [⟨none, (some 32), .mov (.t 5)⟩,
    ⟨none, (some 33), .mov (.t 0)⟩,
    ⟨none, (some 34), .lenStr (.t 33)⟩,
    ⟨none, (some 35), .bin .geq (.t 32) (.t 34)⟩,
    ⟨none, (some 31), .mov (.t 35)⟩])
  (.cond (.t 31) (.seq (.region false [⟨none, (some 4), .mov (.k (.int .i64 (-1)))⟩])
  .ret)
  (.seq (.region false [⟨none, (some 37), .mov (.t 5)⟩,
    ⟨none, (some 38), .ext (.k .junk) 0⟩,
    ⟨none, (some 39), .bin .leq (.t 37) (.t 38)⟩,
    ⟨none, (some 40), .mov (.t 39)⟩,
    ⟨(some (40, true)), (some 41), .mov (.t 0)⟩,
    ⟨(some (40, true)), (some 42), .lenStr (.t 41)⟩,
    ⟨(some (40, true)), (some 43), .bin .leq (.t 42) (.k (.int .i64 64))⟩,
    ⟨none, (some 44), .pick (.t 40) (.t 43) (.k (.bool false))⟩,
    ⟨none, (some 36), .mov (.t 44)⟩])
  (.cond (.t 36) (.seq (.region false [⟨none, (some 45), .mov (.t 0)⟩,
    ⟨none, (some 46), .mov (.t 1)⟩,
    ⟨none, (some 47), .call (.k (.fn (.func 125) [] [])) [(.t 45), (.t 46)]⟩,
    ⟨none, (some 4), .mov (.t 47)⟩])
  .ret)
  .skip)))))))))
  (.seq (.region false [⟨none, (some 48), .mov (.t 1)⟩,
    ⟨none, (some 49), .idxStr (.t 48) (.k (.int .i64 0))⟩,
    ⟨none, (some 6), .mov (.t 49)⟩])
  (.seq (.region false [⟨none, (some 50), .mov (.t 1)⟩,
    ⟨none, (some 51), .idxStr (.t 50) (.k (.int .i64 1))⟩,
    ⟨none, (some 7), .mov (.t 51)⟩])
  (.seq (.region false [⟨none, (some 8), .mov (.k (.int .i64 0))⟩])
  (.seq (.region false [⟨none, (some 52), .mov (.t 0)⟩,
    ⟨none, (some 53), .lenStr (.t 52)⟩,
    ⟨none, (some 54), .mov (.t 5)⟩,
    ⟨none, (some 55), .bin .sub (.t 53) (.t 54)⟩,
    ⟨none, (some 56), .bin .add (.t 55) (.k (.int .i64 1))⟩,
    ⟨none, (some 9), .mov (.t 56)⟩])
  (.seq (.region false [⟨none, (some 10), .mov (.k (.int .i64 0))⟩])
  (.seq (.block 1 (.loop a117L0))
  (.seq (.region false [⟨none, (some 4), .mov (.k (.int .i64 (-1)))⟩])
  .ret))))))))))
  ntmps := 143
  res := [.tmp 4]

theorem a117_ok : compileFn P Tryd.f117 = some a117 := by kernel_rfl

-- 120 strings.Index
def a120 : AFn where
  code := (.seq (.region false [⟨none, (some 4), .mov (.k (.int .i64 0))⟩])
  (.seq (.region false [⟨none, (some 5), .mov (.t 0)⟩,
    ⟨none, (some 6), .mov (.t 1)⟩,
    ⟨none, (some 7), .call (.k (.fn (.func 117) [] [])) [(.t 5), (.t 6)]⟩,
    ⟨none, (some 4), .mov (.t 7)⟩])
  .ret))
  ntmps := 8
  res := [.tmp 4]

theorem a120_ok : compileFn P Tryd.f120 = some a120 := by kernel_rfl

-- 97 strings.Contains
def a97 : AFn where
  code := (.seq (.region false [⟨none, (some 4), .mov (.k (.bool false))⟩])
  (.seq (.region false [⟨none, (some 5), .mov (.t 0)⟩,
    ⟨none, (some 6), .mov (.t 1)⟩,
    ⟨none, (some 7), .call (.k (.fn (.func 120) [] [])) [(.t 5), (.t 6)]⟩,
    ⟨none, (some 8), .bin .geq (.t 7) (.k (.int .i64 0))⟩,
    ⟨none, (some 4), .mov (.t 8)⟩])
  .ret))
  ntmps := 9
  res := [.tmp 4]

theorem a97_ok : compileFn P Tryd.f97 = some a97 := by kernel_rfl

-- 93 internal/stringslite.Cut
def a93 : AFn where
  code := (.seq (.region false [⟨none, (some 4), .mov (.k (.str []))⟩,
    ⟨none, (some 5), .mov (.k (.str []))⟩,
    ⟨none, (some 6), .mov (.k (.bool false))⟩])
  (.seq (.seq (.region false [⟨none, (some 8), .mov (.t 0)⟩,
    ⟨none, (some 9), .mov (.t 1)⟩,
    ⟨none, (some 10), .call (.k (.fn (.func 117) [] [])) [(.t 8), (.t 9)]⟩,
    ⟨none, (some 7), .mov (.t 10)⟩])
  (.seq (.region false [⟨none, (some 11), .mov (.t 7)⟩,
    ⟨none, (some 12), .bin .geq (.t 11) (.k (.int .i64 0))⟩])
  (.cond (.t 12) (.seq (.region true [⟨none, (some 13), .mov (.t 0)⟩,
    ⟨none, (some 14), .mov (.t 7)⟩,
    ⟨none, (some 15), .slcStr (.t 13) none (some (.t 14))⟩,
    ⟨none, (some 16), .mov (.t 0)⟩,
    ⟨none, (some 17), .mov (.t 7)⟩,
    ⟨none, (some 18), .mov (.t 1)⟩,
    ⟨none, (some 19), .lenStr (.t 18)⟩,
    ⟨none, (some 20), .bin .add (.t 17) (.t 19)⟩,
    ⟨none, (some 21), .slcStr (.t 16) (some (.t 20)) none⟩,
    ⟨none, (some 4), .mov (.t 15)⟩,
    ⟨none, (some 5), .mov (.t 21)⟩,
    ⟨none, (some 6), .mov (.k (.bool true))⟩])
  .ret)
  .skip)))
  (.seq (.region false [⟨none, (some 22), .mov (.t 0)⟩,
    ⟨none, (some 4), .mov (.t 22)⟩,
    ⟨none, (some 5), .mov (.k (.str []))⟩,
    ⟨none, (some 6), .mov (.k (.bool false))⟩])
  .ret)))
  ntmps := 23
  res := [.tmp 4, .tmp 5, .tmp 6]

theorem a93_ok : compileFn P Tryd.f93 = some a93 := by kernel_rfl

-- 53 strings.Cut
def a53 : AFn where
  code := (.seq (.region false [⟨none, (some 4), .mov (.k (.str []))⟩,
    ⟨none, (some 5), .mov (.k (.str []))⟩,
    ⟨none, (some 6), .mov (.k (.bool false))⟩])
  (.seq (.region false [⟨none, (some 7), .mov (.t 0)⟩,
    ⟨none, (some 8), .mov (.t 1)⟩,
    ⟨none, (some 9), .call (.k (.fn (.func 93) [] [])) [(.t 7), (.t 8)]⟩,
    ⟨none, (some 10), .ext (.t 9) 0⟩,
    ⟨none, (some 11), .ext (.t 9) 1⟩,
    ⟨none, (some 12), .ext (.t 9) 2⟩,
    ⟨none, (some 4), .mov (.t 10)⟩,
    ⟨none, (some 5), .mov (.t 11)⟩,
    ⟨none, (some 6), .mov (.t 12)⟩])
  .ret))
  ntmps := 13
  res := [.tmp 4, .tmp 5, .tmp 6]

theorem a53_ok : compileFn P Tryd.f53 = some a53 := by kernel_rfl

-- 121 internal/stringslite.HasPrefix
def a121 : AFn where
  code := (.seq (.region false [⟨none, (some 4), .mov (.k (.bool false))⟩])
  (.seq (.region false [⟨none, (some 5), .mov (.t 0)⟩,
    ⟨none, (some 6), .lenStr (.t 5)⟩,
    ⟨none, (some 7), .mov (.t 1)⟩,
    ⟨none, (some 8), .lenStr (.t 7)⟩,
    ⟨none, (some 9), .bin .geq (.t 6) (.t 8)⟩,
    ⟨none, (some 10), .mov (.t 9)⟩,
    ⟨(some (10, true)), (some 11), .mov (.t 0)⟩,
    ⟨(some (10, true)), (some 12), .mov (.t 1)⟩,
    ⟨(some (10, true)), (some 13), .lenStr (.t 12)⟩,
    ⟨(some (10, true)), (some 14), .slcStr (.t 11) none (some (.t 13))⟩,
    ⟨(some (10, true)), (some 15), .mov (.t 1)⟩,
    ⟨(some (10, true)), (some 16), .bin .eql (.t 14) (.t 15)⟩,
    ⟨none, (some 17), .pick (.t 10) (.t 16) (.k (.bool false))⟩,
    ⟨none, (some 4), .mov (.t 17)⟩])
  .ret))
  ntmps := 18
  res := [.tmp 4]

theorem a121_ok : compileFn P Tryd.f121 = some a121 := by kernel_rfl

-- 95 internal/stringslite.CutPrefix
def a95 : AFn where
  code := (.seq (.region false [⟨none, (some 4), .mov (.k (.str []))⟩,
    ⟨none, (some 5), .mov (.k (.bool false))⟩])
  (.seq (.seq (.region false [⟨none, (some 6), .mov (.t 0)⟩,
    ⟨none, (some 7), .mov (.t 1)⟩,
    ⟨none, (some 8), .call (.k (.fn (.func 121) [] [])) [(.t 6), (.t 7)]⟩,
    ⟨none, (some 9), .un .not (.t 8)⟩])
  (.cond (.t 9) (.seq (.region false [⟨none, (some 10), .mov (.t 0)⟩,
    ⟨none, (some 4), .mov (.t 10)⟩,
    ⟨none, (some 5), .mov (.k (.bool false))⟩])
  .ret)
  .skip))
  (.seq (.region false [⟨none, (some 11), .mov (.t 0)⟩,
    ⟨none, (some 12), .mov (.t 1)⟩,
    ⟨none, (some 13), .lenStr (.t 12)⟩,
    ⟨none, (some 14), .slcStr (.t 11) (some (.t 13)) none⟩,
    ⟨none, (some 4), .mov (.t 14)⟩,
    ⟨none, (some 5), .mov (.k (.bool true))⟩])
  .ret)))
  ntmps := 15
  res := [.tmp 4, .tmp 5]

theorem a95_ok : compileFn P Tryd.f95 = some a95 := by kernel_rfl

-- 56 strings.CutPrefix
def a56 : AFn where
  code := (.seq (.region false [⟨none, (some 4), .mov (.k (.str []))⟩,
    ⟨none, (some 5), .mov (.k (.bool false))⟩])
  (.seq (.region false [⟨none, (some 6), .mov (.t 0)⟩,
    ⟨none, (some 7), .mov (.t 1)⟩,
    ⟨none, (some 8), .call (.k (.fn (.func 95) [] [])) [(.t 6), (.t 7)]⟩,
    ⟨none, (some 9), .ext (.t 8) 0⟩,
    ⟨none, (some 10), .ext (.t 8) 1⟩,
    ⟨none, (some 4), .mov (.t 9)⟩,
    ⟨none, (some 5), .mov (.t 10)⟩])
  .ret))
  ntmps := 11
  res := [.tmp 4, .tmp 5]

theorem a56_ok : compileFn P Tryd.f56 = some a56 := by kernel_rfl

-- 16 admission/pattern.Path
def a16L0 : ACode :=
  (.seq (.seq (.region false [⟨none, (some 18), .mov (.t 3)⟩])
  (.cond (.t 18) .skip
  (.exit 0)))
  (.block 1 (.seq (.region false [⟨none, (some 4), .mov (.k (.str []))⟩])
  (.seq (.region false [⟨none, (some 20), .mov (.t 0)⟩,
    ⟨none, (some 21), .call (.k (.fn (.func 53) [] [])) [(.t 20), (.k (.str [47]))]⟩,
    ⟨none, (some 19), .mov (.t 21)⟩,
    ⟨none, (some 22), .ext (.t 19) 0⟩,
    ⟨none, (some 23), .ext (.t 19) 1⟩,
    ⟨none, (some 24), .ext (.t 19) 2⟩,
    ⟨none, (some 4), .mov (.t 22)⟩,
    ⟨none, (some 0), .mov (.t 23)⟩,
    ⟨none, (some 3), .mov (.t 24)⟩])
  (.seq (.region false [⟨none, (some 25), .mov (.t 4)⟩,
    ⟨none, (some 26), .bin .eql (.t 25) (.k (.str []))⟩,
    ⟨none, (some 27), .mov (.t 26)⟩,
    ⟨(some (27, false)), (some 28), .mov (.t 4)⟩,
    ⟨(some (27, false)), (some 29), .bin .eql (.t 28) (.k (.str [46]))⟩,
    ⟨none, (some 30), .pick (.t 27) (.k (.bool true)) (.t 29)⟩,
    ⟨none, (some 31), .mov (.t 30)⟩,
    ⟨(some (31, false)), (some 32), .mov (.t 4)⟩,
    ⟨(some (31, false)), (some 33), .bin .eql (.t 32) (.k (.str [46, 46]))⟩,
    ⟨none, (some 34), .pick (.t 31) (.k (.bool true)) (.t 33)⟩])
  (.cond (.t 34) (.seq (.region false [⟨none, (some 2), .mov (.k (.bool false))⟩])
  .ret)
  .skip))))))
/-- 0:s 3:more -/
def a16S0 (x0 x3 : DV) (h : List AObj) : St := ⟨[x0, .junk, .junk, x3] ++ js 31, h⟩

def a16 : AFn where
  code := (.seq (.region false [⟨none, (some 2), .mov (.k (.bool false))⟩])
  (.seq (.seq (.region false [⟨none, (some 5), .mov (.t 0)⟩,
    ⟨none, (some 6), .lenStr (.t 5)⟩,
    ⟨none, (some 7), .bin .lss (.t 6) (.k (.int .i64 1))⟩,
    ⟨none, (some 8), .mov (.t 7)⟩,
    ⟨(some (8, false)), (some 9), .mov (.t 0)⟩,
    ⟨(some (8, false)), (some 10), .lenStr (.t 9)⟩,
    ⟨(some (8, false)), (some 11), .bin .gtr (.t 10) (.k (.int .i64 200))⟩,
    ⟨none, (some 12), .pick (.t 8) (.k (.bool true)) (.t 11)⟩,
    ⟨none, (some 13), .mov (.t 12)⟩,
    ⟨(some (13, false)), (some 14), .mov (.t 0)⟩,
    ⟨(some (13, false)), (some 15), .call (.k (.fn (.func 52) [] [])) [(.t 14), (.k (w8 0#8))]⟩,
    ⟨(some (13, false)), (some 16), .bin .geq (.t 15) (.k (.int .i64 0))⟩,
    ⟨none, (some 17), .pick (.t 13) (.k (.bool true)) (.t 16)⟩])
  (.cond (.t 17) (.seq (.region false [⟨none, (some 2), .mov (.k (.bool false))⟩])
  .ret)
  .skip))
  (.seq (.seq (.region false [⟨none, (some 3), .mov (.k (.bool true))⟩])
  (.block 0 (.loop a16L0)))
  (.seq (.region false [⟨none, (some 2), .mov (.k (.bool true))⟩])
  .ret))))
  ntmps := 35
  res := [.tmp 2]

theorem a16_ok : compileFn P Tryd.f16 = some a16 := by kernel_rfl

-- 46 admission/pattern.parse
def a46L0 : ACode :=
  (.seq (.seq (.region false [⟨none, (some 19), .mov (.t 5)⟩,
    ⟨none, (some 20), .mov (.t 0)⟩,
    ⟨none, (some 21), .lenStr (.t 20)⟩,
    ⟨none, (some 22), .bin .lss (.t 19) (.t 21)⟩])
  (.cond (.t 22) .skip
  (.exit 0)))
  (.seq (.block 1 (.block 2 (.seq (.region false [⟨none, (some 33), .mov (.t 0)⟩,
    ⟨none, (some 34), .mov (.t 5)⟩,
    ⟨none, (some 35), .idxStr (.t 33) (.t 34)⟩,
    ⟨none, (some 36), .bin .eql (.t 35) (.k (w8 92#8))⟩,
    ⟨none, (some 32), .mov (.t 36)⟩])
  (.cond (.t 32) (.seq (.region false [⟨none, (some 37), .mov (.t 5)⟩,
    ⟨none, (some 38), .bin .add (.t 37) (.k (.int .i64 1))⟩,
    ⟨none, (some 5), .mov (.t 38)⟩])
  (.seq (.seq (.region false [⟨none, (some 39), .mov (.t 5)⟩,
    ⟨none, (some 40), .mov (.t 0)⟩,
    ⟨none, (some 41), .lenStr (.t 40)⟩,
    ⟨none, (some 42), .bin .eql (.t 39) (.t 41)⟩])
  (.cond (.t 42) (.seq (.region false [⟨none, (some 2), .mov (.k .nils)⟩,
    ⟨none, (some 3), .mov (.k (.bool false))⟩])
  .ret)
  .skip))
  (.region false [⟨none, (some 43), .mov (.t 4)⟩,
    ⟨none, (some 44), .mov (.t 0)⟩,
    ⟨none, (some 45), .mov (.t 5)⟩,
    ⟨none, (some 46), .idxStr (.t 44) (.t 45)⟩,
    ⟨none, (some 47), .build [(.int .i64 0), (w8 0#8)] [(0, 1, (.k (.int .i64 0))), (1, 1, (.t 46))]⟩,
    ⟨none, (some 48), .bsl 2 1 [(.int .i64 0), (w8 0#8)] [(0, 2, (.t 47))]⟩,
    ⟨none, (some 49), .app 2 16 (.t 43) (.t 48)⟩,
    ⟨none, (some 4), .mov (.t 49)⟩])))
  (.seq (.region false [⟨none, (some 51), .mov (.t 0)⟩,
    ⟨none, (some 52), .mov (.t 5)⟩,
    ⟨none, (some 53), .idxStr (.t 51) (.t 52)⟩,
    ⟨none, (some 54), .bin .eql (.t 53) (.k (w8 63#8))⟩,
    ⟨none, (some 50), .mov (.t 54)⟩])
  (.cond (.t 50) (.region false [⟨none, (some 55), .mov (.t 4)⟩,
    ⟨none, (some 56), .build [(.int .i64 0), (w8 0#8)] [(0, 1, (.k (.int .i64 1)))]⟩,
    ⟨none, (some 57), .bsl 2 1 [(.int .i64 0), (w8 0#8)] [(0, 2, (.t 56))]⟩,
    ⟨none, (some 58), .app 2 16 (.t 55) (.t 57)⟩,
    ⟨none, (some 4), .mov (.t 58)⟩])
  (.seq (.region false [⟨none, (some 60), .mov (.t 0)⟩,
    ⟨none, (some 61), .mov (.t 5)⟩,
    ⟨none, (some 62), .idxStr (.t 60) (.t 61)⟩,
    ⟨none, (some 63), .bin .eql (.t 62) (.k (w8 42#8))⟩,
    ⟨none, (some 64), .mov (.t 63)⟩,
    ⟨(some (64, true)), (some 65), .mov (.t 5)⟩,
    ⟨(some (64, true)), (some 66), .bin .add (.t 65) (.k (.int .i64 1))⟩,
    ⟨(some (64, true)), (some 67), .mov (.t 0)⟩,
    ⟨(some (64, true)), (some 68), .lenStr (.t 67)⟩,
    ⟨(some (64, true)), (some 69), .bin .lss (.t 66) (.t 68)⟩,
    ⟨none, (some 70), .pick (.t 64) (.t 69) (.k (.bool false))⟩,
    ⟨none, (some 71), .mov (.t 70)⟩,
    ⟨(some (71, true)), (some 72), .mov (.t 0)⟩,
    ⟨(some (71, true)), (some 73), .mov (.t 5)⟩,
    ⟨(some (71, true)), (some 74), .bin .add (.t 73) (.k (.int .i64 1))⟩,
    ⟨(some (71, true)), (some 75), .idxStr (.t 72) (.t 74)⟩,
    ⟨(some (71, true)), (some 76), .bin .eql (.t 75) (.k (w8 42#8))⟩,
    ⟨none, (some 77), .pick (.t 71) (.t 76) (.k (.bool false))⟩,
    ⟨none, (some 59), .mov (.t 77)⟩])
  (.cond (.t 59) (.seq (.region false [⟨none, (some 78), .mov (.t 5)⟩,
    ⟨none, (some 79), .bin .add (.t 78) (.k (.int .i64 1))⟩,
    ⟨none, (some 5), .mov (.t 79)⟩])
  (.region false [⟨none, (some 80), .mov (.t 4)⟩,
    ⟨none, (some 81), .build [(.int .i64 0), (w8 0#8)] [(0, 1, (.k (.int .i64 3)))]⟩,
    ⟨none, (some 82), .bsl 2 1 [(.int .i64 0), (w8 0#8)] [(0, 2, (.t 81))]⟩,
    ⟨none, (some 83), .app 2 16 (.t 80) (.t 82)⟩,
    ⟨none, (some 4), .mov (.t 83)⟩]))
  (.seq (.region false [⟨none, (some 85), .mov (.t 0)⟩,
    ⟨none, (some 86), .mov (.t 5)⟩,
    ⟨none, (some 87), .idxStr (.t 85) (.t 86)⟩,
    ⟨none, (some 88), .bin .eql (.t 87) (.k (w8 42#8))⟩,
    ⟨none, (some 84), .mov (.t 88)⟩])
  (.cond (.t 84) (.region false [⟨none, (some 89), .mov (.t 4)⟩,
    ⟨none, (some 90), .build [(.int .i64 0), (w8 0#8)] [(0, 1, (.k (.int .i64 2)))]⟩,
    ⟨none, (some 91), .bsl 2 1 [(.int .i64 0), (w8 0#8)] [(0, 2, (.t 90))]⟩,
    ⟨none, (some 92), .app 2 16 (.t 89) (.t 91)⟩,
    ⟨none, (some 4), .mov (.t 92)⟩])
  (.region false [⟨none, (some 25), .mov (.t 4)⟩,
    ⟨none, (some 26), .mov (.t 0)⟩,
    ⟨none, (some 27), .mov (.t 5)⟩,
    ⟨none, (some 28), .idxStr (.t 26) (.t 27)⟩,
    ⟨none, (some 29), .build [(.int .i64 0), (w8 0#8)] [(0, 1, (.k (.int .i64 0))), (1, 1, (.t 28))]⟩,
    ⟨none, (some 30), .bsl 2 1 [(.int .i64 0), (w8 0#8)] [(0, 2, (.t 29))]⟩,
    ⟨none, (some 31), .app 2 16 (.t 25) (.t 30)⟩,
    ⟨none, (some 4), .mov (.t 31)⟩])))))))))))
  (.region false [⟨none, (some 23), .mov (.t 5)⟩,
    ⟨none, (some 24), .bin .add (.t 23) (.k (.int .i64 1))⟩,
    ⟨none, (some 5), .mov (.t 24)⟩])))
/-- 0:p 4:out 5:i -/
def a46S0 (x0 x4 x5 : DV) (h : List AObj) : St := ⟨[x0, .junk, .junk, .junk, x4, x5] ++ js 88, h⟩

def a46 : AFn where
  code := (.seq (.region false [⟨none, (some 2), .mov (.k .nils)⟩,
    ⟨none, (some 3), .mov (.k (.bool false))⟩])
  (.seq (.seq (.region false [⟨none, (some 6), .mov (.t 0)⟩,
    ⟨none, (some 7), .lenStr (.t 6)⟩,
    ⟨none, (some 8), .bin .lss (.t 7) (.k (.int .i64 1))⟩,
    ⟨none, (some 9), .mov (.t 8)⟩,
    ⟨(some (9, false)), (some 10), .mov (.t 0)⟩,
    ⟨(some (9, false)), (some 11), .lenStr (.t 10)⟩,
    ⟨(some (9, false)), (some 12), .bin .gtr (.t 11) (.k (.int .i64 200))⟩,
    ⟨none, (some 13), .pick (.t 9) (.k (.bool true)) (.t 12)⟩,
    ⟨none, (some 14), .mov (.t 13)⟩,
    ⟨(some (14, false)), (some 15), .mov (.t 0)⟩,
    ⟨(some (14, false)), (some 16), .call (.k (.fn (.func 52) [] [])) [(.t 15), (.k (w8 0#8))]⟩,
    ⟨(some (14, false)), (some 17), .bin .geq (.t 16) (.k (.int .i64 0))⟩,
    ⟨none, (some 18), .pick (.t 14) (.k (.bool true)) (.t 17)⟩])
  (.cond (.t 18) (.seq (.region false [⟨none, (some 2), .mov (.k .nils)⟩,
    ⟨none, (some 3), .mov (.k (.bool false))⟩])
  .ret)
  .skip))
  (.seq (.region false [⟨none, (some 4), .mov (.k .nils)⟩])
  (.seq (.seq (.region false [⟨none, (some 5), .mov (.k (.int .i64 0))⟩])
  (.block 0 (.loop a46L0)))
  (.seq (.region false [⟨none, (some 93), .mov (.t 4)⟩,
    ⟨none, (some 2), .mov (.t 93)⟩,
    ⟨none, (some 3), .mov (.k (.bool true))⟩])
  .ret)))))
  ntmps := 94
  res := [.tmp 2, .tmp 3]

theorem a46_ok : compileFn P Tryd.f46 = some a46 := by kernel_rfl

-- 18 admission/pattern.Valid
def a18 : AFn where
  code := (.seq (.region false [⟨none, (some 2), .mov (.k (.bool false))⟩])
  (.seq (.region false [⟨none, (some 6), .mov (.t 0)⟩,
    ⟨none, (some 7), .call (.k (.fn (.func 46) [] [])) [(.t 6)]⟩,
    ⟨none, (some 5), .mov (.t 7)⟩,
    ⟨none, (some 8), .ext (.t 5) 0⟩,
    ⟨none, (some 9), .ext (.t 5) 1⟩,
    ⟨none, (some 3), .mov (.t 8)⟩,
    ⟨none, (some 4), .mov (.t 9)⟩])
  (.seq (.region false [⟨none, (some 10), .mov (.t 4)⟩,
    ⟨none, (some 2), .mov (.t 10)⟩])
  .ret)))
  ntmps := 11
  res := [.tmp 2]

theorem a18_ok : compileFn P Tryd.f18 = some a18 := by kernel_rfl

-- 47 (admission/pattern.part).class
def a47 : AFn where
  code := (.seq (.region false [⟨none, (some 1), .box (.t 0)⟩,
    ⟨none, (some 2), .mov (.k .nilf)⟩])
  (.seq (.seq (.region false [⟨none, (some 3), .fld 0 (.t 1)⟩,
    ⟨none, (some 4), .load 1 false (.t 3)⟩])
  (.block 0 (.seq (.region false [⟨none, (some 6), .bin .eql (.t 4) (.k (.int .i64 0))⟩,
    ⟨none, (some 5), .mov (.t 6)⟩])
  (.cond (.t 5) (.seq (.region false [⟨none, (some 7), .mkf (.func 89) [] [(.t 1)]⟩,
    ⟨none, (some 2), .mov (.t 7)⟩])
  .ret)
  (.seq (.region false [⟨none, (some 9), .bin .eql (.t 4) (.k (.int .i64 3))⟩,
    ⟨none, (some 8), .mov (.t 9)⟩])
  (.cond (.t 8) (.seq (.region false [⟨none, (some 2), .mov (.k (.fn (.func 90) [] []))⟩])
  .ret)
  .skip))))))
  (.seq (.region false [⟨none, (some 2), .mov (.k (.fn (.func 91) [] []))⟩])
  .ret)))
  ntmps := 10
  res := [.tmp 2]

theorem a47_ok : compileFn P Tryd.f47 = some a47 := by kernel_rfl

-- 89 (admission/pattern.part).class$1
def a89 : AFn where
  code := (.seq (.region false [⟨none, (some 3), .mov (.k (.bool false))⟩])
  (.seq (.region false [⟨none, (some 4), .mov (.t 0)⟩,
    ⟨none, (some 5), .fld 1 (.t 1)⟩,
    ⟨none, (some 6), .load 1 false (.t 5)⟩,
    ⟨none, (some 7), .bin .eql (.t 4) (.t 6)⟩,
    ⟨none, (some 3), .mov (.t 7)⟩])
  .ret))
  ntmps := 8
  res := [.tmp 3]

theorem a89_ok : compileFn P Tryd.f89 = some a89 := by kernel_rfl

-- 90 (admission/pattern.part).class$2
def a90 : AFn where
  code := (.seq (.region false [⟨none, (some 2), .mov (.k (.bool false))⟩])
  (.seq (.region false [⟨none, (some 2), .mov (.k (.bool true))⟩])
  .ret))
  ntmps := 3
  res := [.tmp 2]

theorem a90_ok : compileFn P Tryd.f90 = some a90 := by kernel_rfl

-- 91 (admission/pattern.part).class$3
def a91 : AFn where
  code := (.seq (.region false [⟨none, (some 2), .mov (.k (.bool false))⟩])
  (.seq (.region false [⟨none, (some 3), .mov (.t 0)⟩,
    ⟨none, (some 4), .bin .neq (.t 3) (.k (w8 47#8))⟩,
    ⟨none, (some 2), .mov (.t 4)⟩])
  .ret))
  ntmps := 5
  res := [.tmp 2]

theorem a91_ok : compileFn P Tryd.f91 = some a91 := by kernel_rfl

-- 48 (admission/pattern.part).repeats
def a48 : AFn where
  code := (.seq (.region false [⟨none, (some 1), .box (.t 0)⟩,
    ⟨none, (some 2), .mov (.k (.bool false))⟩])
  (.seq (.region false [⟨none, (some 3), .fld 0 (.t 1)⟩,
    ⟨none, (some 4), .load 1 false (.t 3)⟩,
    ⟨none, (some 5), .bin .eql (.t 4) (.k (.int .i64 2))⟩,
    ⟨none, (some 6), .mov (.t 5)⟩,
    ⟨(some (6, false)), (some 7), .fld 0 (.t 1)⟩,
    ⟨(some (6, false)), (some 8), .load 1 false (.t 7)⟩,
    ⟨(some (6, false)), (some 9), .bin .eql (.t 8) (.k (.int .i64 3))⟩,
    ⟨none, (some 10), .pick (.t 6) (.k (.bool true)) (.t 9)⟩,
    ⟨none, (some 2), .mov (.t 10)⟩])
  .ret))
  ntmps := 11
  res := [.tmp 2]

theorem a48_ok : compileFn P Tryd.f48 = some a48 := by kernel_rfl

-- 14 admission/pattern.Match
def a14L1 : ACode :=
  (.seq (.region false [⟨none, (some 55), .bin .lss (.t 54) (.t 53)⟩])
  (.seq (.cond (.t 55) .skip
  (.exit 2))
  (.seq (.block 3 (.seq (.region false [⟨none, (some 56), .mov (.t 54)⟩,
    ⟨none, (some 12), .mov (.t 56)⟩])
  (.block 4 (.seq (.region false [⟨none, (some 73), .load 2 true (.t 9)⟩,
    ⟨none, (some 74), .call (.k (.fn (.func 48) [] [])) [(.t 73)]⟩,
    ⟨none, (some 72), .mov (.t 74)⟩])
  (.cond (.t 72) (.region false [⟨none, (some 75), .mov (.t 11)⟩,
    ⟨none, (some 76), .mov (.t 12)⟩,
    ⟨none, (some 77), .bin .add (.t 76) (.k (.int .i64 1))⟩,
    ⟨none, (some 78), .mov (.t 7)⟩,
    ⟨none, (some 79), .mov (.t 12)⟩,
    ⟨none, (some 80), .bin .add (.t 79) (.k (.int .i64 1))⟩,
    ⟨none, (some 81), .idxS 1 (.t 78) (.t 80)⟩,
    ⟨none, (some 82), .load 1 false (.t 81)⟩,
    ⟨none, (some 83), .mov (.t 82)⟩,
    ⟨(some (83, false)), (some 84), .mov (.t 11)⟩,
    ⟨(some (83, false)), (some 85), .mov (.t 12)⟩,
    ⟨(some (83, false)), (some 86), .idxS 1 (.t 84) (.t 85)⟩,
    ⟨(some (83, false)), (some 87), .load 1 false (.t 86)⟩,
    ⟨(some (83, false)), (some 88), .mov (.t 87)⟩,
    ⟨(some (88, true)), (some 89), .mov (.t 10)⟩,
    ⟨(some (88, true)), (some 90), .mov (.t 1)⟩,
    ⟨(some (88, true)), (some 91), .mov (.t 12)⟩,
    ⟨(some (88, true)), (some 92), .idxStr (.t 90) (.t 91)⟩,
    ⟨(some (88, true)), (some 93), .call (.t 89) [(.t 92)]⟩,
    ⟨(some (83, false)), (some 94), .pick (.t 88) (.t 93) (.k (.bool false))⟩,
    ⟨none, (some 95), .pick (.t 83) (.k (.bool true)) (.t 94)⟩,
    ⟨none, (some 96), .idxS 1 (.t 75) (.t 77)⟩,
    ⟨none, none, .store 1 (.t 96) (.t 95)⟩])
  (.region false [⟨none, (some 57), .mov (.t 11)⟩,
    ⟨none, (some 58), .mov (.t 12)⟩,
    ⟨none, (some 59), .bin .add (.t 58) (.k (.int .i64 1))⟩,
    ⟨none, (some 60), .mov (.t 7)⟩,
    ⟨none, (some 61), .mov (.t 12)⟩,
    ⟨none, (some 62), .idxS 1 (.t 60) (.t 61)⟩,
    ⟨none, (some 63), .load 1 false (.t 62)⟩,
    ⟨none, (some 64), .mov (.t 63)⟩,
    ⟨(some (64, true)), (some 65), .mov (.t 10)⟩,
    ⟨(some (64, true)), (some 66), .mov (.t 1)⟩,
    ⟨(some (64, true)), (some 67), .mov (.t 12)⟩,
    ⟨(some (64, true)), (some 68), .idxStr (.t 66) (.t 67)⟩,
    ⟨(some (64, true)), (some 69), .call (.t 65) [(.t 68)]⟩,
    ⟨none, (some 70), .pick (.t 64) (.t 69) (.k (.bool false))⟩,
    ⟨none, (some 71), .idxS 1 (.t 57) (.t 59)⟩,
    ⟨none, none, .store 1 (.t 71) (.t 70)⟩]))))))
  (.region false [⟨none, (some 97), .bin .add (.t 54) (.k (.int .i64 1))⟩,
    ⟨none, (some 54), .mov (.t 97)⟩]))))
/-- 1:path 7:at 9:x 10:fits 11:next 31: 32: 33: 53: 54: -/
def a14S1 (x1 x7 x9 x10 x11 x31 x32 x33 x53 x54 : DV) (h : List AObj) : St := ⟨[.junk, x1] ++ js 5 ++ [x7, .junk, x9, x10, x11] ++ js 19 ++ [x31, x32, x33] ++ js 19 ++ [x53, x54] ++ js 50, h⟩

def a14L0 : ACode :=
  (.seq (.region false [⟨none, (some 34), .bin .lss (.t 33) (.t 32)⟩])
  (.seq (.cond (.t 34) .skip
  (.exit 0))
  (.seq (.block 1 (.seq (.region false [⟨none, (some 35), .idxS 2 (.t 31) (.t 33)⟩,
    ⟨none, (some 36), .load 2 true (.t 35)⟩,
    ⟨none, (some 9), .alloc [(.int .i64 0), (w8 0#8)]⟩,
    ⟨none, none, .store 2 (.t 9) (.t 36)⟩])
  (.seq (.region false [⟨none, (some 37), .load 2 true (.t 9)⟩,
    ⟨none, (some 38), .call (.k (.fn (.func 47) [] [])) [(.t 37)]⟩,
    ⟨none, (some 10), .mov (.t 38)⟩])
  (.seq (.region false [⟨none, (some 39), .mov (.t 1)⟩,
    ⟨none, (some 40), .lenStr (.t 39)⟩,
    ⟨none, (some 41), .bin .add (.t 40) (.k (.int .i64 1))⟩,
    ⟨none, (some 42), .mks 1 1 [(.bool false)] (.t 41) (.t 41)⟩,
    ⟨none, (some 11), .mov (.t 42)⟩])
  (.seq (.region false [⟨none, (some 43), .mov (.t 11)⟩,
    ⟨none, (some 44), .mov (.t 7)⟩,
    ⟨none, (some 45), .idxS 1 (.t 44) (.k (.int .i64 0))⟩,
    ⟨none, (some 46), .load 1 false (.t 45)⟩,
    ⟨none, (some 47), .mov (.t 46)⟩,
    ⟨(some (47, true)), (some 48), .load 2 true (.t 9)⟩,
    ⟨(some (47, true)), (some 49), .call (.k (.fn (.func 48) [] [])) [(.t 48)]⟩,
    ⟨none, (some 50), .pick (.t 47) (.t 49) (.k (.bool false))⟩,
    ⟨none, (some 51), .idxS 1 (.t 43) (.k (.int .i64 0))⟩,
    ⟨none, none, .store 1 (.t 51) (.t 50)⟩])
  (.seq (.seq (.region false [⟨none, (some 52), .mov (.t 1)⟩,
    ⟨none, (some 53), .lenStr (.t 52)⟩,
    ⟨none, (some 54), .mov (.k (.int .i64 0))⟩])
  (.block 2 (.loop a14L1)))
  (.region false [⟨none, (some 98), .mov (.t 11)⟩,
    ⟨none, (some 7), .mov (.t 98)⟩])))))))
  (.region false [⟨none, (some 99), .bin .add (.t 33) (.k (.int .i64 1))⟩,
    ⟨none, (some 33), .mov (.t 99)⟩]))))
/-- 1:path 7:at 31: 32: 33: -/
def a14S0 (x1 x7 x31 x32 x33 : DV) (h : List AObj) : St := ⟨[.junk, x1] ++ js 5 ++ [x7] ++ js 23 ++ [x31, x32, x33] ++ js 71, h⟩

def a14 : AFn where
  code := (.seq (.region false [⟨none, (some 4), .mov (.k (.bool false))⟩])
  (.seq (.region false [⟨none, (some 14), .mov (.t 0)⟩,
    ⟨none, (some 15), .call (.k (.fn (.func 46) [] [])) [(.t 14)]⟩,
    ⟨none, (some 13), .mov (.t 15)⟩,
    ⟨none, (some 16), .ext (.t 13) 0⟩,
    ⟨none, (some 17), .ext (.t 13) 1⟩,
    ⟨none, (some 5), .mov (.t 16)⟩,
    ⟨none, (some 6), .mov (.t 17)⟩])
  (.seq (.seq (.region false [⟨none, (some 18), .mov (.t 6)⟩,
    ⟨none, (some 19), .un .not (.t 18)⟩,
    ⟨none, (some 20), .mov (.t 19)⟩,
    ⟨(some (20, false)), (some 21), .mov (.t 1)⟩,
    ⟨(some (20, false)), (some 22), .call (.k (.fn (.func 16) [] [])) [(.t 21)]⟩,
    ⟨(some (20, false)), (some 23), .un .not (.t 22)⟩,
    ⟨none, (some 24), .pick (.t 20) (.k (.bool true)) (.t 23)⟩])
  (.cond (.t 24) (.seq (.region false [⟨none, (some 4), .mov (.k (.bool false))⟩])
  .ret)
  .skip))
  (.seq (.region false [⟨none, (some 25), .mov (.t 1)⟩,
    ⟨none, (some 26), .lenStr (.t 25)⟩,
    ⟨none, (some 27), .bin .add (.t 26) (.k (.int .i64 1))⟩,
    ⟨none, (some 28), .mks 1 1 [(.bool false)] (.t 27) (.t 27)⟩,
    ⟨none, (some 7), .mov (.t 28)⟩])
  (.seq (.region false [⟨none, (some 29), .mov (.t 7)⟩,
    ⟨none, (some 30), .idxS 1 (.t 29) (.k (.int .i64 0))⟩,
    ⟨none, none, .store 1 (.t 30) (.k (.bool true))⟩])
  (.seq (.seq (.region false [⟨none, (some 31), .mov (.t 5)⟩,
    ⟨none, (some 32), .len (.t 31)⟩,
    ⟨none, (some 33), .mov (.k (.int .i64 0))⟩])
  (.block 0 (.loop a14L0)))
  (.seq (.region false [⟨none, (some 100), .mov (.t 7)⟩,
    ⟨none, (some 101), .mov (.t 1)⟩,
    ⟨none, (some 102), .lenStr (.t 101)⟩,
    ⟨none, (some 103), .idxS 1 (.t 100) (.t 102)⟩,
    ⟨none, (some 104), .load 1 false (.t 103)⟩,
    ⟨none, (some 4), .mov (.t 104)⟩])
  .ret)))))))
  ntmps := 105
  res := [.tmp 4]

theorem a14_ok : compileFn P Tryd.f14 = some a14 := by kernel_rfl

-- 20 admission/pattern.Literal
def a20L0 : ACode :=
  (.seq (.seq (.region false [⟨none, (some 8), .mov (.t 4)⟩,
    ⟨none, (some 9), .mov (.t 0)⟩,
    ⟨none, (some 10), .lenStr (.t 9)⟩,
    ⟨none, (some 11), .bin .lss (.t 8) (.t 10)⟩])
  (.cond (.t 11) .skip
  (.exit 0)))
  (.seq (.block 1 (.seq (.seq (.region false [⟨none, (some 14), .mov (.t 0)⟩,
    ⟨none, (some 15), .mov (.t 4)⟩,
    ⟨none, (some 16), .idxStr (.t 14) (.t 15)⟩,
    ⟨none, (some 17), .bin .eql (.t 16) (.k (w8 92#8))⟩,
    ⟨none, (some 18), .mov (.t 17)⟩,
    ⟨(some (18, false)), (some 19), .mov (.t 0)⟩,
    ⟨(some (18, false)), (some 20), .mov (.t 4)⟩,
    ⟨(some (18, false)), (some 21), .idxStr (.t 19) (.t 20)⟩,
    ⟨(some (18, false)), (some 22), .bin .eql (.t 21) (.k (w8 42#8))⟩,
    ⟨none, (some 23), .pick (.t 18) (.k (.bool true)) (.t 22)⟩,
    ⟨none, (some 24), .mov (.t 23)⟩,
    ⟨(some (24, false)), (some 25), .mov (.t 0)⟩,
    ⟨(some (24, false)), (some 26), .mov (.t 4)⟩,
    ⟨(some (24, false)), (some 27), .idxStr (.t 25) (.t 26)⟩,
    ⟨(some (24, false)), (some 28), .bin .eql (.t 27) (.k (w8 63#8))⟩,
    ⟨none, (some 29), .pick (.t 24) (.k (.bool true)) (.t 28)⟩])
  (.cond (.t 29) (.region false [⟨none, (some 30), .mov (.t 3)⟩,
    ⟨none, (some 31), .bsl 1 1 [(w8 0#8)] [(0, 1, (.k (w8 92#8)))]⟩,
    ⟨none, (some 32), .app 1 1 (.t 30) (.t 31)⟩,
    ⟨none, (some 3), .mov (.t 32)⟩])
  .skip))
  (.region false [⟨none, (some 33), .mov (.t 3)⟩,
    ⟨none, (some 34), .mov (.t 0)⟩,
    ⟨none, (some 35), .mov (.t 4)⟩,
    ⟨none, (some 36), .idxStr (.t 34) (.t 35)⟩,
    ⟨none, (some 37), .bsl 1 1 [(w8 0#8)] [(0, 1, (.t 36))]⟩,
    ⟨none, (some 38), .app 1 1 (.t 33) (.t 37)⟩,
    ⟨none, (some 3), .mov (.t 38)⟩])))
  (.region false [⟨none, (some 12), .mov (.t 4)⟩,
    ⟨none, (some 13), .bin .add (.t 12) (.k (.int .i64 1))⟩,
    ⟨none, (some 4), .mov (.t 13)⟩])))
/-- 0:path 3:out 4:i -/
def a20S0 (x0 x3 x4 : DV) (h : List AObj) : St := ⟨[x0, .junk, .junk, x3, x4] ++ js 36, h⟩

def a20 : AFn where
  code := (.seq (.region false [⟨none, (some 2), .mov (.k (.str []))⟩])
  (.seq (.seq (.region false [⟨none, (some 5), .mov (.t 0)⟩,
    ⟨none, (some 6), .call (.k (.fn (.func 16) [] [])) [(.t 5)]⟩,
    ⟨none, (some 7), .un .not (.t 6)⟩])
  (.cond (.t 7) (.seq (.region false [⟨none, (some 2), .mov (.k (.str []))⟩])
  .ret)
  .skip))
  (.seq (.region false [⟨none, (some 3), .mov (.k .nils)⟩])
  (.seq (.seq (.region false [⟨none, (some 4), .mov (.k (.int .i64 0))⟩])
  (.block 0 (.loop a20L0)))
  (.seq (.region false [⟨none, (some 39), .mov (.t 3)⟩,
    ⟨none, (some 40), .cbs (.t 39)⟩,
    ⟨none, (some 2), .mov (.t 40)⟩])
  .ret)))))
  ntmps := 41
  res := [.tmp 2]

theorem a20_ok : compileFn P Tryd.f20 = some a20 := by kernel_rfl

-- 55 admission/pattern.directory
def a55 : AFn where
  code := (.seq (.region false [⟨none, (some 2), .mov (.k (.bool false))⟩])
  (.seq (.region false [⟨none, (some 3), .mov (.t 0)⟩,
    ⟨none, (some 4), .bin .eql (.t 3) (.k (.str []))⟩,
    ⟨none, (some 5), .mov (.t 4)⟩,
    ⟨(some (5, false)), (some 6), .mov (.t 0)⟩,
    ⟨(some (5, false)), (some 7), .call (.k (.fn (.func 16) [] [])) [(.t 6)]⟩,
    ⟨none, (some 8), .pick (.t 5) (.k (.bool true)) (.t 7)⟩,
    ⟨none, (some 2), .mov (.t 8)⟩])
  .ret))
  ntmps := 9
  res := [.tmp 2]

theorem a55_ok : compileFn P Tryd.f55 = some a55 := by kernel_rfl

-- 22 admission/pattern.Relocate
def a22 : AFn where
  code := (.seq (.region false [⟨none, (some 6), .mov (.k (.str []))⟩,
    ⟨none, (some 7), .mov (.k (.bool false))⟩])
  (.seq (.seq (.region false [⟨none, (some 10), .mov (.t 0)⟩,
    ⟨none, (some 11), .call (.k (.fn (.func 55) [] [])) [(.t 10)]⟩,
    ⟨none, (some 12), .un .not (.t 11)⟩,
    ⟨none, (some 13), .mov (.t 12)⟩,
    ⟨(some (13, false)), (some 14), .mov (.t 1)⟩,
    ⟨(some (13, false)), (some 15), .call (.k (.fn (.func 55) [] [])) [(.t 14)]⟩,
    ⟨(some (13, false)), (some 16), .un .not (.t 15)⟩,
    ⟨none, (some 17), .pick (.t 13) (.k (.bool true)) (.t 16)⟩,
    ⟨none, (some 18), .mov (.t 17)⟩,
    ⟨(some (18, false)), (some 19), .mov (.t 2)⟩,
    ⟨(some (18, false)), (some 20), .call (.k (.fn (.func 16) [] [])) [(.t 19)]⟩,
    ⟨(some (18, false)), (some 21), .un .not (.t 20)⟩,
    ⟨none, (some 22), .pick (.t 18) (.k (.bool true)) (.t 21)⟩])
  (.cond (.t 22) (.seq (.region false [⟨none, (some 6), .mov (.k (.str []))⟩,
    ⟨none, (some 7), .mov (.k (.bool false))⟩])
  .ret)
  .skip))
  (.seq (.region false [⟨none, (some 23), .mov (.t 2)⟩,
    ⟨none, (some 8), .mov (.t 23)⟩])
  (.seq (.seq (.region false [⟨none, (some 24), .mov (.t 0)⟩,
    ⟨none, (some 25), .bin .neq (.t 24) (.k (.str []))⟩])
  (.cond (.t 25) (.seq (.region false [⟨none, (some 9), .mov (.k (.bool false))⟩])
  (.seq (.region false [⟨none, (some 27), .mov (.t 2)⟩,
    ⟨none, (some 28), .mov (.t 0)⟩,
    ⟨none, (some 29), .bin .add (.t 28) (.k (.str [47]))⟩,
    ⟨none, (some 30), .call (.k (.fn (.func 56) [] [])) [(.t 27), (.t 29)]⟩,
    ⟨none, (some 26), .mov (.t 30)⟩,
    ⟨none, (some 31), .ext (.t 26) 0⟩,
    ⟨none, (some 32), .ext (.t 26) 1⟩,
    ⟨none, (some 8), .mov (.t 31)⟩,
    ⟨none, (some 9), .mov (.t 32)⟩])
  (.seq (.region false [⟨none, (some 33), .mov (.t 9)⟩,
    ⟨none, (some 34), .un .not (.t 33)⟩])
  (.cond (.t 34) (.seq (.region false [⟨none, (some 6), .mov (.k (.str []))⟩,
    ⟨none, (some 7), .mov (.k (.bool false))⟩])
  .ret)
  .skip))))
  .skip))
  (.seq (.seq (.region false [⟨none, (some 35), .mov (.t 1)⟩,
    ⟨none, (some 36), .bin .neq (.t 35) (.k (.str []))⟩])
  (.cond (.t 36) (.region false [⟨none, (some 37), .mov (.t 1)⟩,
    ⟨none, (some 38), .bin .add (.t 37) (.k (.str [47]))⟩,
    ⟨none, (some 39), .mov (.t 8)⟩,
    ⟨none, (some 40), .bin .add (.t 38) (.t 39)⟩,
    ⟨none, (some 8), .mov (.t 40)⟩])
  .skip))
  (.seq (.seq (.region false [⟨none, (some 41), .mov (.t 8)⟩,
    ⟨none, (some 42), .call (.k (.fn (.func 16) [] [])) [(.t 41)]⟩,
    ⟨none, (some 43), .un .not (.t 42)⟩])
  (.cond (.t 43) (.seq (.region false [⟨none, (some 6), .mov (.k (.str []))⟩,
    ⟨none, (some 7), .mov (.k (.bool false))⟩])
  .ret)
  .skip))
  (.seq (.region false [⟨none, (some 44), .mov (.t 8)⟩,
    ⟨none, (some 6), .mov (.t 44)⟩,
    ⟨none, (some 7), .mov (.k (.bool true))⟩])
  .ret)))))))
  ntmps := 45
  res := [.tmp 6, .tmp 7]

theorem a22_ok : compileFn P Tryd.f22 = some a22 := by kernel_rfl

-- 13 admission/admissionlaw03.awake
def a13 : AFn where
  code := (.seq (.region false [⟨none, (some 0), .mov (.k (.bool false))⟩])
  (.seq (.region false [⟨none, (some 1), .call (.k (.fn (.func 14) [] [])) [(.k (.str [115, 114, 99, 47, 42, 46, 99])), (.k (.str [115, 114, 99, 47, 97, 46, 99]))]⟩,
    ⟨none, (some 2), .mov (.t 1)⟩,
    ⟨(some (2, true)), (some 3), .call (.k (.fn (.func 14) [] [])) [(.k (.str [115, 114, 99, 47, 42, 46, 99])), (.k (.str [115, 114, 99, 47, 120, 47, 97, 46, 99]))]⟩,
    ⟨(some (2, true)), (some 4), .un .not (.t 3)⟩,
    ⟨none, (some 5), .pick (.t 2) (.t 4) (.k (.bool false))⟩,
    ⟨none, (some 6), .mov (.t 5)⟩,
    ⟨(some (6, true)), (some 7), .call (.k (.fn (.func 16) [] [])) [(.k (.str [97, 47, 98]))]⟩,
    ⟨none, (some 8), .pick (.t 6) (.t 7) (.k (.bool false))⟩,
    ⟨none, (some 0), .mov (.t 8)⟩])
  .ret))
  ntmps := 9
  res := [.tmp 0]

theorem a13_ok : compileFn P Tryd.f13 = some a13 := by kernel_rfl

end Go.Proofs.YtjjcdmjgbbaliaaDoor
