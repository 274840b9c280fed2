/-
  Functions of this claim, as the abstract machine has them. MADE BY A PROGRAM of mine.
-/
import Derived.Test.YtjhakjeioppijaaDoorAmAB
import Derived.Test.YtjhakjeioppijaaDoorProg
import Derived.Test.YtjhakjeioppijaaDoorPa
set_option linter.unusedSimpArgs false
set_option linter.unusedVariables false
namespace Go.Proofs.YtjhakjeioppijaaDoor
open Go Go.Am
noncomputable abbrev P : Program := Tryd.prog
theorem mix : P.follows .mixedOrders = true := by kernel_rfl
-- 113 internal/stringslite.IndexByte
def a113 : AFn where
  code := (.seq (.region false [⟨none, (some 4), .mov (.k (.int .i64 0))⟩])
  (.seq (.region false [⟨none, (some 5), .mov (.t 0)⟩,
    ⟨none, (some 6), .mov (.t 1)⟩,
    ⟨none, (some 7), .call (.k (.fn (.func 118) [] [])) [(.t 5), (.t 6)]⟩,
    ⟨none, (some 4), .mov (.t 7)⟩])
  .ret))
  ntmps := 8
  res := [.tmp 4]

theorem a113_ok : compileFn P Tryd.f113 = some a113 := by kernel_rfl

-- 101 strings.IndexByte
def a101 : AFn where
  code := (.seq (.region false [⟨none, (some 4), .mov (.k (.int .i64 0))⟩])
  (.seq (.region false [⟨none, (some 5), .mov (.t 0)⟩,
    ⟨none, (some 6), .mov (.t 1)⟩,
    ⟨none, (some 7), .call (.k (.fn (.func 113) [] [])) [(.t 5), (.t 6)]⟩,
    ⟨none, (some 4), .mov (.t 7)⟩])
  .ret))
  ntmps := 8
  res := [.tmp 4]

theorem a101_ok : compileFn P Tryd.f101 = some a101 := by kernel_rfl

-- 119 internal/stringslite.Index
def a119L0 : ACode :=
  (.seq (.seq (.region false [⟨none, (some 57), .mov (.t 8)⟩,
    ⟨none, (some 58), .mov (.t 9)⟩,
    ⟨none, (some 59), .bin .lss (.t 57) (.t 58)⟩])
  (.cond (.t 59) .skip
  (.exit 1)))
  (.block 2 (.seq (.seq (.region false [⟨none, (some 60), .mov (.t 0)⟩,
    ⟨none, (some 61), .mov (.t 8)⟩,
    ⟨none, (some 62), .idxStr (.t 60) (.t 61)⟩,
    ⟨none, (some 63), .mov (.t 6)⟩,
    ⟨none, (some 64), .bin .neq (.t 62) (.t 63)⟩])
  (.cond (.t 64) (.seq (.region false [⟨none, (some 65), .mov (.t 0)⟩,
    ⟨none, (some 66), .mov (.t 8)⟩,
    ⟨none, (some 67), .bin .add (.t 66) (.k (.int .i64 1))⟩,
    ⟨none, (some 68), .mov (.t 9)⟩,
    ⟨none, (some 69), .slcStr (.t 65) (some (.t 67)) (some (.t 68))⟩,
    ⟨none, (some 70), .mov (.t 6)⟩,
    ⟨none, (some 71), .call (.k (.fn (.func 113) [] [])) [(.t 69), (.t 70)]⟩,
    ⟨none, (some 11), .mov (.t 71)⟩])
  (.seq (.seq (.region false [⟨none, (some 72), .mov (.t 11)⟩,
    ⟨none, (some 73), .bin .lss (.t 72) (.k (.int .i64 0))⟩])
  (.cond (.t 73) (.seq (.region false [⟨none, (some 4), .mov (.k (.int .i64 (-1)))⟩])
  .ret)
  .skip))
  (.region false [⟨none, (some 74), .mov (.t 8)⟩,
    ⟨none, (some 75), .mov (.t 11)⟩,
    ⟨none, (some 76), .bin .add (.t 75) (.k (.int .i64 1))⟩,
    ⟨none, (some 77), .bin .add (.t 74) (.t 76)⟩,
    ⟨none, (some 8), .mov (.t 77)⟩])))
  .skip))
  (.seq (.seq (.region false [⟨none, (some 78), .mov (.t 0)⟩,
    ⟨none, (some 79), .mov (.t 8)⟩,
    ⟨none, (some 80), .bin .add (.t 79) (.k (.int .i64 1))⟩,
    ⟨none, (some 81), .idxStr (.t 78) (.t 80)⟩,
    ⟨none, (some 82), .mov (.t 7)⟩,
    ⟨none, (some 83), .bin .eql (.t 81) (.t 82)⟩,
    ⟨none, (some 84), .mov (.t 83)⟩,
    ⟨(some (84, true)), (some 85), .mov (.t 0)⟩,
    ⟨(some (84, true)), (some 86), .mov (.t 8)⟩,
    ⟨(some (84, true)), (some 87), .mov (.t 8)⟩,
    ⟨(some (84, true)), (some 88), .mov (.t 5)⟩,
    ⟨(some (84, true)), (some 89), .bin .add (.t 87) (.t 88)⟩,
    ⟨(some (84, true)), (some 90), .slcStr (.t 85) (some (.t 86)) (some (.t 89))⟩,
    ⟨(some (84, true)), (some 91), .mov (.t 1)⟩,
    ⟨(some (84, true)), (some 92), .bin .eql (.t 90) (.t 91)⟩,
    ⟨none, (some 93), .pick (.t 84) (.t 92) (.k (.bool false))⟩])
  (.cond (.t 93) (.seq (.region false [⟨none, (some 94), .mov (.t 8)⟩,
    ⟨none, (some 4), .mov (.t 94)⟩])
  .ret)
  .skip))
  (.seq (.region false [⟨none, (some 95), .mov (.t 8)⟩,
    ⟨none, (some 96), .bin .add (.t 95) (.k (.int .i64 1))⟩,
    ⟨none, (some 8), .mov (.t 96)⟩])
  (.seq (.region false [⟨none, (some 97), .mov (.t 10)⟩,
    ⟨none, (some 98), .bin .add (.t 97) (.k (.int .i64 1))⟩,
    ⟨none, (some 10), .mov (.t 98)⟩])
  (.seq (.region false [⟨none, (some 99), .mov (.t 5)⟩,
    ⟨none, (some 100), .ext (.k .junk) 0⟩,
    ⟨none, (some 101), .bin .leq (.t 99) (.t 100)⟩,
    ⟨none, (some 102), .mov (.t 101)⟩,
    ⟨(some (102, true)), (some 103), .mov (.t 10)⟩,
    ⟨(some (102, true)), (some 104), .mov (.t 8)⟩,
    ⟨(some (102, true)), (some 105), .call (.k (.fn (.func 125) [] [])) [(.t 104)]⟩,
    ⟨(some (102, true)), (some 106), .bin .gtr (.t 103) (.t 105)⟩,
    ⟨none, (some 107), .pick (.t 102) (.t 106) (.k (.bool false))⟩])
  (.cond (.t 107) (.seq (.region false [⟨none, (some 108), .mov (.t 0)⟩,
    ⟨none, (some 109), .mov (.t 8)⟩,
    ⟨none, (some 110), .slcStr (.t 108) (some (.t 109)) none⟩,
    ⟨none, (some 111), .mov (.t 1)⟩,
    ⟨none, (some 112), .call (.k (.fn (.func 124) [] [])) [(.t 110), (.t 111)]⟩,
    ⟨none, (some 12), .mov (.t 112)⟩])
  (.seq (.seq (.region false [⟨none, (some 113), .mov (.t 12)⟩,
    ⟨none, (some 114), .bin .geq (.t 113) (.k (.int .i64 0))⟩])
  (.cond (.t 114) (.seq (.region false [⟨none, (some 115), .mov (.t 12)⟩,
    ⟨none, (some 116), .mov (.t 8)⟩,
    ⟨none, (some 117), .bin .add (.t 115) (.t 116)⟩,
    ⟨none, (some 4), .mov (.t 117)⟩])
  .ret)
  .skip))
  (.seq (.region false [⟨none, (some 4), .mov (.k (.int .i64 (-1)))⟩])
  .ret)))
  (.seq (.region false [⟨none, (some 118), .mov (.t 5)⟩,
    ⟨none, (some 119), .ext (.k .junk) 0⟩,
    ⟨none, (some 120), .bin .gtr (.t 118) (.t 119)⟩,
    ⟨none, (some 121), .mov (.t 120)⟩,
    ⟨(some (121, true)), (some 122), .mov (.t 10)⟩,
    ⟨(some (121, true)), (some 123), .mov (.t 8)⟩,
    ⟨(some (121, true)), (some 124), .bin .shr (.t 123) (.k (w64 4#64))⟩,
    ⟨(some (121, true)), (some 125), .bin .add (.k (.int .i64 4)) (.t 124)⟩,
    ⟨(some (121, true)), (some 126), .bin .geq (.t 122) (.t 125)⟩,
    ⟨none, (some 127), .pick (.t 121) (.t 126) (.k (.bool false))⟩,
    ⟨none, (some 128), .mov (.t 127)⟩,
    ⟨(some (128, true)), (some 129), .mov (.t 8)⟩,
    ⟨(some (128, true)), (some 130), .mov (.t 9)⟩,
    ⟨(some (128, true)), (some 131), .bin .lss (.t 129) (.t 130)⟩,
    ⟨none, (some 132), .pick (.t 128) (.t 131) (.k (.bool false))⟩])
  (.cond (.t 132) (.seq (.region false [⟨none, (some 133), .mov (.t 0)⟩,
    ⟨none, (some 134), .mov (.t 8)⟩,
    ⟨none, (some 135), .slcStr (.t 133) (some (.t 134)) none⟩,
    ⟨none, (some 136), .mov (.t 1)⟩,
    ⟨none, (some 137), .call (.k (.fn (.func 126) [] [])) [(.t 135), (.t 136)]⟩,
    ⟨none, (some 13), .mov (.t 137)⟩])
  (.seq (.seq (.region false [⟨none, (some 138), .mov (.t 13)⟩,
    ⟨none, (some 139), .bin .lss (.t 138) (.k (.int .i64 0))⟩])
  (.cond (.t 139) (.seq (.region false [⟨none, (some 4), .mov (.k (.int .i64 (-1)))⟩])
  .ret)
  .skip))
  (.seq (.region false [⟨none, (some 140), .mov (.t 8)⟩,
    ⟨none, (some 141), .mov (.t 13)⟩,
    ⟨none, (some 142), .bin .add (.t 140) (.t 141)⟩,
    ⟨none, (some 4), .mov (.t 142)⟩])
  .ret)))
  .skip))))))))))
/-- 0:s 1:substr 5:n 6:c0 7:c1 8:i 9:t 10:fails -/
def a119S0 (x0 x1 x5 x6 x7 x8 x9 x10 : DV) (h : List AObj) : St := ⟨[x0, x1, .junk, .junk, .junk, x5, x6, x7, x8, x9, x10] ++ js 132, h⟩

def a119 : AFn where
  code := (.seq (.region false [⟨none, (some 4), .mov (.k (.int .i64 0))⟩])
  (.seq (.region false [⟨none, (some 14), .mov (.t 1)⟩,
    ⟨none, (some 15), .lenStr (.t 14)⟩,
    ⟨none, (some 5), .mov (.t 15)⟩])
  (.seq (.block 0 (.seq (.region false [⟨none, (some 17), .mov (.t 5)⟩,
    ⟨none, (some 18), .bin .eql (.t 17) (.k (.int .i64 0))⟩,
    ⟨none, (some 19), .mov (.t 18)⟩,
    ⟨(some (19, false)), (some 20), .mov (.t 1)⟩,
    ⟨(some (19, false)), (some 21), .mov (.t 0)⟩,
    ⟨(some (19, false)), (some 22), .bin .eql (.t 20) (.t 21)⟩,
    ⟨none, (some 23), .pick (.t 19) (.k (.bool true)) (.t 22)⟩,
    ⟨none, (some 16), .mov (.t 23)⟩])
  (.cond (.t 16) (.seq (.region false [⟨none, (some 4), .mov (.k (.int .i64 0))⟩])
  .ret)
  (.seq (.region false [⟨none, (some 25), .mov (.t 5)⟩,
    ⟨none, (some 26), .bin .eql (.t 25) (.k (.int .i64 1))⟩,
    ⟨none, (some 24), .mov (.t 26)⟩])
  (.cond (.t 24) (.seq (.region false [⟨none, (some 27), .mov (.t 0)⟩,
    ⟨none, (some 28), .mov (.t 1)⟩,
    ⟨none, (some 29), .idxStr (.t 28) (.k (.int .i64 0))⟩,
    ⟨none, (some 30), .call (.k (.fn (.func 113) [] [])) [(.t 27), (.t 29)]⟩,
    ⟨none, (some 4), .mov (.t 30)⟩])
  .ret)
  (.seq (.region false [⟨none, (some 32), .mov (.t 5)⟩,
    ⟨none, (some 33), .mov (.t 0)⟩,
    ⟨none, (some 34), .lenStr (.t 33)⟩,
    ⟨none, (some 35), .bin .geq (.t 32) (.t 34)⟩,
    ⟨none, (some 31), .mov (.t 35)⟩])
  (.cond (.t 31) (.seq (.region false [⟨none, (some 4), .mov (.k (.int .i64 (-1)))⟩])
  .ret)
  (.seq (.region false [⟨none, (some 37), .mov (.t 5)⟩,
    ⟨none, (some 38), .ext (.k .junk) 0⟩,
    ⟨none, (some 39), .bin .leq (.t 37) (.t 38)⟩,
    ⟨none, (some 40), .mov (.t 39)⟩,
    ⟨(some (40, true)), (some 41), .mov (.t 0)⟩,
    ⟨(some (40, true)), (some 42), .lenStr (.t 41)⟩,
    ⟨(some (40, true)), (some 43), .bin .leq (.t 42) (.k (.int .i64 64))⟩,
    ⟨none, (some 44), .pick (.t 40) (.t 43) (.k (.bool false))⟩,
    ⟨none, (some 36), .mov (.t 44)⟩])
  (.cond (.t 36) (.seq (.region false [⟨none, (some 45), .mov (.t 0)⟩,
    ⟨none, (some 46), .mov (.t 1)⟩,
    ⟨none, (some 47), .call (.k (.fn (.func 124) [] [])) [(.t 45), (.t 46)]⟩,
    ⟨none, (some 4), .mov (.t 47)⟩])
  .ret)
  .skip)))))))))
  (.seq (.region false [⟨none, (some 48), .mov (.t 1)⟩,
    ⟨none, (some 49), .idxStr (.t 48) (.k (.int .i64 0))⟩,
    ⟨none, (some 6), .mov (.t 49)⟩])
  (.seq (.region false [⟨none, (some 50), .mov (.t 1)⟩,
    ⟨none, (some 51), .idxStr (.t 50) (.k (.int .i64 1))⟩,
    ⟨none, (some 7), .mov (.t 51)⟩])
  (.seq (.region false [⟨none, (some 8), .mov (.k (.int .i64 0))⟩])
  (.seq (.region false [⟨none, (some 52), .mov (.t 0)⟩,
    ⟨none, (some 53), .lenStr (.t 52)⟩,
    ⟨none, (some 54), .mov (.t 5)⟩,
    ⟨none, (some 55), .bin .sub (.t 53) (.t 54)⟩,
    ⟨none, (some 56), .bin .add (.t 55) (.k (.int .i64 1))⟩,
    ⟨none, (some 9), .mov (.t 56)⟩])
  (.seq (.region false [⟨none, (some 10), .mov (.k (.int .i64 0))⟩])
  (.seq (.block 1 (.loop a119L0))
  (.seq (.region false [⟨none, (some 4), .mov (.k (.int .i64 (-1)))⟩])
  .ret))))))))))
  ntmps := 143
  res := [.tmp 4]

theorem a119_ok : compileFn P Tryd.f119 = some a119 := by kernel_rfl

-- 122 strings.Index
def a122 : AFn where
  code := (.seq (.region false [⟨none, (some 4), .mov (.k (.int .i64 0))⟩])
  (.seq (.region false [⟨none, (some 5), .mov (.t 0)⟩,
    ⟨none, (some 6), .mov (.t 1)⟩,
    ⟨none, (some 7), .call (.k (.fn (.func 119) [] [])) [(.t 5), (.t 6)]⟩,
    ⟨none, (some 4), .mov (.t 7)⟩])
  .ret))
  ntmps := 8
  res := [.tmp 4]

theorem a122_ok : compileFn P Tryd.f122 = some a122 := by kernel_rfl

-- 114 internal/stringslite.Cut
def a114 : AFn where
  code := (.seq (.region false [⟨none, (some 4), .mov (.k (.str []))⟩,
    ⟨none, (some 5), .mov (.k (.str []))⟩,
    ⟨none, (some 6), .mov (.k (.bool false))⟩])
  (.seq (.seq (.region false [⟨none, (some 8), .mov (.t 0)⟩,
    ⟨none, (some 9), .mov (.t 1)⟩,
    ⟨none, (some 10), .call (.k (.fn (.func 119) [] [])) [(.t 8), (.t 9)]⟩,
    ⟨none, (some 7), .mov (.t 10)⟩])
  (.seq (.region false [⟨none, (some 11), .mov (.t 7)⟩,
    ⟨none, (some 12), .bin .geq (.t 11) (.k (.int .i64 0))⟩])
  (.cond (.t 12) (.seq (.region true [⟨none, (some 13), .mov (.t 0)⟩,
    ⟨none, (some 14), .mov (.t 7)⟩,
    ⟨none, (some 15), .slcStr (.t 13) none (some (.t 14))⟩,
    ⟨none, (some 16), .mov (.t 0)⟩,
    ⟨none, (some 17), .mov (.t 7)⟩,
    ⟨none, (some 18), .mov (.t 1)⟩,
    ⟨none, (some 19), .lenStr (.t 18)⟩,
    ⟨none, (some 20), .bin .add (.t 17) (.t 19)⟩,
    ⟨none, (some 21), .slcStr (.t 16) (some (.t 20)) none⟩,
    ⟨none, (some 4), .mov (.t 15)⟩,
    ⟨none, (some 5), .mov (.t 21)⟩,
    ⟨none, (some 6), .mov (.k (.bool true))⟩])
  .ret)
  .skip)))
  (.seq (.region false [⟨none, (some 22), .mov (.t 0)⟩,
    ⟨none, (some 4), .mov (.t 22)⟩,
    ⟨none, (some 5), .mov (.k (.str []))⟩,
    ⟨none, (some 6), .mov (.k (.bool false))⟩])
  .ret)))
  ntmps := 23
  res := [.tmp 4, .tmp 5, .tmp 6]

theorem a114_ok : compileFn P Tryd.f114 = some a114 := by kernel_rfl

-- 102 strings.Cut
def a102 : AFn where
  code := (.seq (.region false [⟨none, (some 4), .mov (.k (.str []))⟩,
    ⟨none, (some 5), .mov (.k (.str []))⟩,
    ⟨none, (some 6), .mov (.k (.bool false))⟩])
  (.seq (.region false [⟨none, (some 7), .mov (.t 0)⟩,
    ⟨none, (some 8), .mov (.t 1)⟩,
    ⟨none, (some 9), .call (.k (.fn (.func 114) [] [])) [(.t 7), (.t 8)]⟩,
    ⟨none, (some 10), .ext (.t 9) 0⟩,
    ⟨none, (some 11), .ext (.t 9) 1⟩,
    ⟨none, (some 12), .ext (.t 9) 2⟩,
    ⟨none, (some 4), .mov (.t 10)⟩,
    ⟨none, (some 5), .mov (.t 11)⟩,
    ⟨none, (some 6), .mov (.t 12)⟩])
  .ret))
  ntmps := 13
  res := [.tmp 4, .tmp 5, .tmp 6]

theorem a102_ok : compileFn P Tryd.f102 = some a102 := by kernel_rfl

-- 60 admission/pattern.Path
def a60L0 : ACode :=
  (.seq (.seq (.region false [⟨none, (some 18), .mov (.t 3)⟩])
  (.cond (.t 18) .skip
  (.exit 0)))
  (.block 1 (.seq (.region false [⟨none, (some 4), .mov (.k (.str []))⟩])
  (.seq (.region false [⟨none, (some 20), .mov (.t 0)⟩,
    ⟨none, (some 21), .call (.k (.fn (.func 102) [] [])) [(.t 20), (.k (.str [47]))]⟩,
    ⟨none, (some 19), .mov (.t 21)⟩,
    ⟨none, (some 22), .ext (.t 19) 0⟩,
    ⟨none, (some 23), .ext (.t 19) 1⟩,
    ⟨none, (some 24), .ext (.t 19) 2⟩,
    ⟨none, (some 4), .mov (.t 22)⟩,
    ⟨none, (some 0), .mov (.t 23)⟩,
    ⟨none, (some 3), .mov (.t 24)⟩])
  (.seq (.region false [⟨none, (some 25), .mov (.t 4)⟩,
    ⟨none, (some 26), .bin .eql (.t 25) (.k (.str []))⟩,
    ⟨none, (some 27), .mov (.t 26)⟩,
    ⟨(some (27, false)), (some 28), .mov (.t 4)⟩,
    ⟨(some (27, false)), (some 29), .bin .eql (.t 28) (.k (.str [46]))⟩,
    ⟨none, (some 30), .pick (.t 27) (.k (.bool true)) (.t 29)⟩,
    ⟨none, (some 31), .mov (.t 30)⟩,
    ⟨(some (31, false)), (some 32), .mov (.t 4)⟩,
    ⟨(some (31, false)), (some 33), .bin .eql (.t 32) (.k (.str [46, 46]))⟩,
    ⟨none, (some 34), .pick (.t 31) (.k (.bool true)) (.t 33)⟩])
  (.cond (.t 34) (.seq (.region false [⟨none, (some 2), .mov (.k (.bool false))⟩])
  .ret)
  .skip))))))
/-- 0:s 3:more -/
def a60S0 (x0 x3 : DV) (h : List AObj) : St := ⟨[x0, .junk, .junk, x3] ++ js 31, h⟩

def a60 : AFn where
  code := (.seq (.region false [⟨none, (some 2), .mov (.k (.bool false))⟩])
  (.seq (.seq (.region false [⟨none, (some 5), .mov (.t 0)⟩,
    ⟨none, (some 6), .lenStr (.t 5)⟩,
    ⟨none, (some 7), .bin .lss (.t 6) (.k (.int .i64 1))⟩,
    ⟨none, (some 8), .mov (.t 7)⟩,
    ⟨(some (8, false)), (some 9), .mov (.t 0)⟩,
    ⟨(some (8, false)), (some 10), .lenStr (.t 9)⟩,
    ⟨(some (8, false)), (some 11), .bin .gtr (.t 10) (.k (.int .i64 200))⟩,
    ⟨none, (some 12), .pick (.t 8) (.k (.bool true)) (.t 11)⟩,
    ⟨none, (some 13), .mov (.t 12)⟩,
    ⟨(some (13, false)), (some 14), .mov (.t 0)⟩,
    ⟨(some (13, false)), (some 15), .call (.k (.fn (.func 101) [] [])) [(.t 14), (.k (w8 0#8))]⟩,
    ⟨(some (13, false)), (some 16), .bin .geq (.t 15) (.k (.int .i64 0))⟩,
    ⟨none, (some 17), .pick (.t 13) (.k (.bool true)) (.t 16)⟩])
  (.cond (.t 17) (.seq (.region false [⟨none, (some 2), .mov (.k (.bool false))⟩])
  .ret)
  .skip))
  (.seq (.seq (.region false [⟨none, (some 3), .mov (.k (.bool true))⟩])
  (.block 0 (.loop a60L0)))
  (.seq (.region false [⟨none, (some 2), .mov (.k (.bool true))⟩])
  .ret))))
  ntmps := 35
  res := [.tmp 2]

theorem a60_ok : compileFn P Tryd.f60 = some a60 := by kernel_rfl

end Go.Proofs.YtjhakjeioppijaaDoor
