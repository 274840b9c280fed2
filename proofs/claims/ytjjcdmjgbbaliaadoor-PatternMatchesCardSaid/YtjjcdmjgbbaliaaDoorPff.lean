/-
  Functions of this claim, as the abstract machine has them. MADE BY A PROGRAM of mine.
-/
import Derived.Test.YtjjcdmjgbbaliaaDoorAmZ
import Derived.Test.YtjjcdmjgbbaliaaDoorProg
import Derived.Test.YtjjcdmjgbbaliaaDoorPf
set_option linter.unusedSimpArgs false
set_option linter.unusedVariables false
namespace Go.Proofs.YtjjcdmjgbbaliaaDoor
open Go Go.Am
-- 119 strings.Count
def a119L0 : ACode :=
  (.block 1 (.seq (.region false [⟨none, (some 20), .mov (.t 0)⟩,
    ⟨none, (some 21), .mov (.t 1)⟩,
    ⟨none, (some 22), .call (.k (.fn (.func 120) [] [])) [(.t 20), (.t 21)]⟩,
    ⟨none, (some 6), .mov (.t 22)⟩])
  (.seq (.seq (.region false [⟨none, (some 23), .mov (.t 6)⟩,
    ⟨none, (some 24), .bin .eql (.t 23) (.k (.int .i64 (-1)))⟩])
  (.cond (.t 24) (.seq (.region false [⟨none, (some 25), .mov (.t 5)⟩,
    ⟨none, (some 4), .mov (.t 25)⟩])
  .ret)
  .skip))
  (.seq (.region false [⟨none, (some 26), .mov (.t 5)⟩,
    ⟨none, (some 27), .bin .add (.t 26) (.k (.int .i64 1))⟩,
    ⟨none, (some 5), .mov (.t 27)⟩])
  (.region false [⟨none, (some 28), .mov (.t 0)⟩,
    ⟨none, (some 29), .mov (.t 6)⟩,
    ⟨none, (some 30), .mov (.t 1)⟩,
    ⟨none, (some 31), .lenStr (.t 30)⟩,
    ⟨none, (some 32), .bin .add (.t 29) (.t 31)⟩,
    ⟨none, (some 33), .slcStr (.t 28) (some (.t 32)) none⟩,
    ⟨none, (some 0), .mov (.t 33)⟩])))))
/-- 0:s 1:substr 5:n -/
def a119S0 (x0 x1 x5 : DV) (h : List AObj) : St := ⟨[x0, x1, .junk, .junk, .junk, x5] ++ js 28, h⟩

def a119 : AFn where
  code := (.seq (.region false [⟨none, (some 4), .mov (.k (.int .i64 0))⟩])
  (.seq (.seq (.region false [⟨none, (some 7), .mov (.t 1)⟩,
    ⟨none, (some 8), .lenStr (.t 7)⟩,
    ⟨none, (some 9), .bin .eql (.t 8) (.k (.int .i64 0))⟩])
  (.cond (.t 9) (.seq (.region false [⟨none, (some 10), .mov (.t 0)⟩,
    ⟨none, (some 11), .call (.k (.fn (.func 128) [] [])) [(.t 10)]⟩,
    ⟨none, (some 12), .bin .add (.t 11) (.k (.int .i64 1))⟩,
    ⟨none, (some 4), .mov (.t 12)⟩])
  .ret)
  .skip))
  (.seq (.seq (.region false [⟨none, (some 13), .mov (.t 1)⟩,
    ⟨none, (some 14), .lenStr (.t 13)⟩,
    ⟨none, (some 15), .bin .eql (.t 14) (.k (.int .i64 1))⟩])
  (.cond (.t 15) (.seq (.region false [⟨none, (some 16), .mov (.t 0)⟩,
    ⟨none, (some 17), .mov (.t 1)⟩,
    ⟨none, (some 18), .idxStr (.t 17) (.k (.int .i64 0))⟩,
    ⟨none, (some 19), .call (.k (.fn (.func 130) [] [])) [(.t 16), (.t 18)]⟩,
    ⟨none, (some 4), .mov (.t 19)⟩])
  .ret)
  .skip))
  (.seq (.region false [⟨none, (some 5), .mov (.k (.int .i64 0))⟩])
  (.block 0 (.loop a119L0))))))
  ntmps := 34
  res := [.tmp 4]

theorem a119_ok : compileFn P Tryd.f119 = some a119 := by kernel_rfl

-- 94 strings.genSplit
def a94L0 : ACode :=
  (.seq (.seq (.region false [⟨none, (some 34), .mov (.t 10)⟩,
    ⟨none, (some 35), .mov (.t 3)⟩,
    ⟨none, (some 36), .bin .lss (.t 34) (.t 35)⟩])
  (.cond (.t 36) .skip
  (.exit 0)))
  (.block 1 (.seq (.region false [⟨none, (some 37), .mov (.t 0)⟩,
    ⟨none, (some 38), .mov (.t 1)⟩,
    ⟨none, (some 39), .call (.k (.fn (.func 120) [] [])) [(.t 37), (.t 38)]⟩,
    ⟨none, (some 11), .mov (.t 39)⟩])
  (.seq (.seq (.region false [⟨none, (some 40), .mov (.t 11)⟩,
    ⟨none, (some 41), .bin .lss (.t 40) (.k (.int .i64 0))⟩])
  (.cond (.t 41) (.exit 0)
  .skip))
  (.seq (.region false [⟨none, (some 42), .mov (.t 9)⟩,
    ⟨none, (some 43), .mov (.t 10)⟩,
    ⟨none, (some 44), .mov (.t 0)⟩,
    ⟨none, (some 45), .mov (.t 11)⟩,
    ⟨none, (some 46), .mov (.t 2)⟩,
    ⟨none, (some 47), .bin .add (.t 45) (.t 46)⟩,
    ⟨none, (some 48), .slcStr (.t 44) none (some (.t 47))⟩,
    ⟨none, (some 49), .idxS 1 (.t 42) (.t 43)⟩,
    ⟨none, none, .store 1 (.t 49) (.t 48)⟩])
  (.seq (.region false [⟨none, (some 50), .mov (.t 0)⟩,
    ⟨none, (some 51), .mov (.t 11)⟩,
    ⟨none, (some 52), .mov (.t 1)⟩,
    ⟨none, (some 53), .lenStr (.t 52)⟩,
    ⟨none, (some 54), .bin .add (.t 51) (.t 53)⟩,
    ⟨none, (some 55), .slcStr (.t 50) (some (.t 54)) none⟩,
    ⟨none, (some 0), .mov (.t 55)⟩])
  (.region false [⟨none, (some 56), .mov (.t 10)⟩,
    ⟨none, (some 57), .bin .add (.t 56) (.k (.int .i64 1))⟩,
    ⟨none, (some 10), .mov (.t 57)⟩])))))))
/-- 0:s 1:sep 2:sepSave 3:n 9:a 10:i -/
def a94S0 (x0 x1 x2 x3 x9 x10 : DV) (h : List AObj) : St := ⟨[x0, x1, x2, x3] ++ js 5 ++ [x9, x10] ++ js 55, h⟩

def a94 : AFn where
  code := (.seq (.region false [⟨none, (some 8), .mov (.k .nils)⟩])
  (.seq (.seq (.region false [⟨none, (some 12), .mov (.t 3)⟩,
    ⟨none, (some 13), .bin .eql (.t 12) (.k (.int .i64 0))⟩])
  (.cond (.t 13) (.seq (.region false [⟨none, (some 8), .mov (.k .nils)⟩])
  .ret)
  .skip))
  (.seq (.seq (.region false [⟨none, (some 14), .mov (.t 1)⟩,
    ⟨none, (some 15), .bin .eql (.t 14) (.k (.str []))⟩])
  (.cond (.t 15) (.seq (.region false [⟨none, (some 16), .mov (.t 0)⟩,
    ⟨none, (some 17), .mov (.t 3)⟩,
    ⟨none, (some 18), .call (.k (.fn (.func 118) [] [])) [(.t 16), (.t 17)]⟩,
    ⟨none, (some 8), .mov (.t 18)⟩])
  .ret)
  .skip))
  (.seq (.seq (.region false [⟨none, (some 19), .mov (.t 3)⟩,
    ⟨none, (some 20), .bin .lss (.t 19) (.k (.int .i64 0))⟩])
  (.cond (.t 20) (.region false [⟨none, (some 21), .mov (.t 0)⟩,
    ⟨none, (some 22), .mov (.t 1)⟩,
    ⟨none, (some 23), .call (.k (.fn (.func 119) [] [])) [(.t 21), (.t 22)]⟩,
    ⟨none, (some 24), .bin .add (.t 23) (.k (.int .i64 1))⟩,
    ⟨none, (some 3), .mov (.t 24)⟩])
  .skip))
  (.seq (.region false [⟨none, (some 25), .mov (.t 3)⟩,
    ⟨none, (some 26), .mov (.t 0)⟩,
    ⟨none, (some 27), .lenStr (.t 26)⟩,
    ⟨none, (some 28), .bin .add (.t 27) (.k (.int .i64 1))⟩,
    ⟨none, (some 29), .mm false [(.t 25), (.t 28)]⟩,
    ⟨none, (some 3), .mov (.t 29)⟩])
  (.seq (.region false [⟨none, (some 30), .mov (.t 3)⟩,
    ⟨none, (some 31), .mks 1 16 [(.str [])] (.t 30) (.t 30)⟩,
    ⟨none, (some 9), .mov (.t 31)⟩])
  (.seq (.region false [⟨none, (some 32), .mov (.t 3)⟩,
    ⟨none, (some 33), .bin .sub (.t 32) (.k (.int .i64 1))⟩,
    ⟨none, (some 3), .mov (.t 33)⟩])
  (.seq (.region false [⟨none, (some 10), .mov (.k (.int .i64 0))⟩])
  (.seq (.block 0 (.loop a94L0))
  (.seq (.region false [⟨none, (some 58), .mov (.t 9)⟩,
    ⟨none, (some 59), .mov (.t 10)⟩,
    ⟨none, (some 60), .mov (.t 0)⟩,
    ⟨none, (some 61), .idxS 1 (.t 58) (.t 59)⟩,
    ⟨none, none, .store 1 (.t 61) (.t 60)⟩])
  (.seq (.region false [⟨none, (some 62), .mov (.t 9)⟩,
    ⟨none, (some 63), .mov (.t 10)⟩,
    ⟨none, (some 64), .bin .add (.t 63) (.k (.int .i64 1))⟩,
    ⟨none, (some 65), .slcS 1 (.t 62) none (some (.t 64)) none⟩,
    ⟨none, (some 8), .mov (.t 65)⟩])
  .ret)))))))))))
  ntmps := 66
  res := [.tmp 8]

theorem a94_ok : compileFn P Tryd.f94 = some a94 := by kernel_rfl

-- 54 strings.Split
def a54 : AFn where
  code := (.seq (.region false [⟨none, (some 4), .mov (.k .nils)⟩])
  (.seq (.region false [⟨none, (some 5), .mov (.t 0)⟩,
    ⟨none, (some 6), .mov (.t 1)⟩,
    ⟨none, (some 7), .call (.k (.fn (.func 94) [] [])) [(.t 5), (.t 6), (.k (.int .i64 0)), (.k (.int .i64 (-1)))]⟩,
    ⟨none, (some 4), .mov (.t 7)⟩])
  .ret))
  ntmps := 8
  res := [.tmp 4]

theorem a54_ok : compileFn P Tryd.f54 = some a54 := by kernel_rfl

-- 17 admission/admissionref03.Path
def a17L0 : ACode :=
  (.seq (.seq (.region false [⟨none, (some 13), .mov (.t 3)⟩,
    ⟨none, (some 14), .mov (.t 0)⟩,
    ⟨none, (some 15), .lenStr (.t 14)⟩,
    ⟨none, (some 16), .bin .lss (.t 13) (.t 15)⟩])
  (.cond (.t 16) .skip
  (.exit 0)))
  (.seq (.block 1 (.seq (.region false [⟨none, (some 19), .mov (.t 0)⟩,
    ⟨none, (some 20), .mov (.t 3)⟩,
    ⟨none, (some 21), .idxStr (.t 19) (.t 20)⟩,
    ⟨none, (some 22), .bin .eql (.t 21) (.k (w8 0#8))⟩])
  (.cond (.t 22) (.seq (.region false [⟨none, (some 2), .mov (.k (.bool false))⟩])
  .ret)
  .skip)))
  (.region false [⟨none, (some 17), .mov (.t 3)⟩,
    ⟨none, (some 18), .bin .add (.t 17) (.k (.int .i64 1))⟩,
    ⟨none, (some 3), .mov (.t 18)⟩])))
/-- 0:s 3:i -/
def a17S0 (x0 x3 : DV) (h : List AObj) : St := ⟨[x0, .junk, .junk, x3] ++ js 46, h⟩

def a17L1 : ACode :=
  (.seq (.seq (.region false [⟨none, (some 25), .mov (.t 5)⟩,
    ⟨none, (some 26), .mov (.t 4)⟩,
    ⟨none, (some 27), .len (.t 26)⟩,
    ⟨none, (some 28), .bin .lss (.t 25) (.t 27)⟩])
  (.cond (.t 28) .skip
  (.exit 2)))
  (.seq (.block 3 (.seq (.region false [⟨none, (some 31), .mov (.t 4)⟩,
    ⟨none, (some 32), .mov (.t 5)⟩,
    ⟨none, (some 33), .idxS 1 (.t 31) (.t 32)⟩,
    ⟨none, (some 34), .load 1 false (.t 33)⟩,
    ⟨none, (some 35), .bin .eql (.t 34) (.k (.str []))⟩,
    ⟨none, (some 36), .mov (.t 35)⟩,
    ⟨(some (36, false)), (some 37), .mov (.t 4)⟩,
    ⟨(some (36, false)), (some 38), .mov (.t 5)⟩,
    ⟨(some (36, false)), (some 39), .idxS 1 (.t 37) (.t 38)⟩,
    ⟨(some (36, false)), (some 40), .load 1 false (.t 39)⟩,
    ⟨(some (36, false)), (some 41), .bin .eql (.t 40) (.k (.str [46]))⟩,
    ⟨none, (some 42), .pick (.t 36) (.k (.bool true)) (.t 41)⟩,
    ⟨none, (some 43), .mov (.t 42)⟩,
    ⟨(some (43, false)), (some 44), .mov (.t 4)⟩,
    ⟨(some (43, false)), (some 45), .mov (.t 5)⟩,
    ⟨(some (43, false)), (some 46), .idxS 1 (.t 44) (.t 45)⟩,
    ⟨(some (43, false)), (some 47), .load 1 false (.t 46)⟩,
    ⟨(some (43, false)), (some 48), .bin .eql (.t 47) (.k (.str [46, 46]))⟩,
    ⟨none, (some 49), .pick (.t 43) (.k (.bool true)) (.t 48)⟩])
  (.cond (.t 49) (.seq (.region false [⟨none, (some 2), .mov (.k (.bool false))⟩])
  .ret)
  .skip)))
  (.region false [⟨none, (some 29), .mov (.t 5)⟩,
    ⟨none, (some 30), .bin .add (.t 29) (.k (.int .i64 1))⟩,
    ⟨none, (some 5), .mov (.t 30)⟩])))
/-- 4:parts 5:i -/
def a17S1 (x4 x5 : DV) (h : List AObj) : St := ⟨js 4 ++ [x4, x5] ++ js 44, h⟩

def a17 : AFn where
  code := (.seq (.region false [⟨none, (some 2), .mov (.k (.bool false))⟩])
  (.seq (.seq (.region false [⟨none, (some 6), .mov (.t 0)⟩,
    ⟨none, (some 7), .bin .eql (.t 6) (.k (.str []))⟩,
    ⟨none, (some 8), .mov (.t 7)⟩,
    ⟨(some (8, false)), (some 9), .mov (.t 0)⟩,
    ⟨(some (8, false)), (some 10), .lenStr (.t 9)⟩,
    ⟨(some (8, false)), (some 11), .bin .gtr (.t 10) (.k (.int .i64 200))⟩,
    ⟨none, (some 12), .pick (.t 8) (.k (.bool true)) (.t 11)⟩])
  (.cond (.t 12) (.seq (.region false [⟨none, (some 2), .mov (.k (.bool false))⟩])
  .ret)
  .skip))
  (.seq (.seq (.region false [⟨none, (some 3), .mov (.k (.int .i64 0))⟩])
  (.block 0 (.loop a17L0)))
  (.seq (.region false [⟨none, (some 23), .mov (.t 0)⟩,
    ⟨none, (some 24), .call (.k (.fn (.func 54) [] [])) [(.t 23), (.k (.str [47]))]⟩,
    ⟨none, (some 4), .mov (.t 24)⟩])
  (.seq (.seq (.region false [⟨none, (some 5), .mov (.k (.int .i64 0))⟩])
  (.block 2 (.loop a17L1)))
  (.seq (.region false [⟨none, (some 2), .mov (.k (.bool true))⟩])
  .ret))))))
  ntmps := 50
  res := [.tmp 2]

theorem a17_ok : compileFn P Tryd.f17 = some a17 := by kernel_rfl

-- 49 admission/admissionref03.read
def a49L0 : ACode :=
  (.seq (.seq (.region false [⟨none, (some 14), .mov (.t 5)⟩,
    ⟨none, (some 15), .mov (.t 0)⟩,
    ⟨none, (some 16), .lenStr (.t 15)⟩,
    ⟨none, (some 17), .bin .lss (.t 14) (.t 16)⟩])
  (.cond (.t 17) .skip
  (.exit 0)))
  (.seq (.block 1 (.seq (.region false [⟨none, (some 20), .mov (.t 0)⟩,
    ⟨none, (some 21), .mov (.t 5)⟩,
    ⟨none, (some 22), .idxStr (.t 20) (.t 21)⟩,
    ⟨none, (some 6), .mov (.t 22)⟩])
  (.seq (.seq (.region false [⟨none, (some 23), .mov (.t 6)⟩,
    ⟨none, (some 24), .bin .eql (.t 23) (.k (w8 0#8))⟩])
  (.cond (.t 24) (.seq (.region false [⟨none, (some 2), .mov (.k .nils)⟩,
    ⟨none, (some 3), .mov (.k (.bool false))⟩])
  .ret)
  .skip))
  (.seq (.region false [⟨none, (some 25), .mov (.t 6)⟩])
  (.block 2 (.seq (.region false [⟨none, (some 32), .bin .eql (.t 25) (.k (w8 92#8))⟩,
    ⟨none, (some 31), .mov (.t 32)⟩])
  (.cond (.t 31) (.seq (.seq (.region false [⟨none, (some 33), .mov (.t 5)⟩,
    ⟨none, (some 34), .bin .add (.t 33) (.k (.int .i64 1))⟩,
    ⟨none, (some 35), .mov (.t 0)⟩,
    ⟨none, (some 36), .lenStr (.t 35)⟩,
    ⟨none, (some 37), .bin .eql (.t 34) (.t 36)⟩,
    ⟨none, (some 38), .mov (.t 37)⟩,
    ⟨(some (38, false)), (some 39), .mov (.t 0)⟩,
    ⟨(some (38, false)), (some 40), .mov (.t 5)⟩,
    ⟨(some (38, false)), (some 41), .bin .add (.t 40) (.k (.int .i64 1))⟩,
    ⟨(some (38, false)), (some 42), .idxStr (.t 39) (.t 41)⟩,
    ⟨(some (38, false)), (some 43), .bin .eql (.t 42) (.k (w8 0#8))⟩,
    ⟨none, (some 44), .pick (.t 38) (.k (.bool true)) (.t 43)⟩])
  (.cond (.t 44) (.seq (.region false [⟨none, (some 2), .mov (.k .nils)⟩,
    ⟨none, (some 3), .mov (.k (.bool false))⟩])
  .ret)
  .skip))
  (.seq (.region false [⟨none, (some 45), .mov (.t 5)⟩,
    ⟨none, (some 46), .bin .add (.t 45) (.k (.int .i64 1))⟩,
    ⟨none, (some 5), .mov (.t 46)⟩])
  (.region false [⟨none, (some 47), .mov (.t 4)⟩,
    ⟨none, (some 48), .mov (.t 0)⟩,
    ⟨none, (some 49), .mov (.t 5)⟩,
    ⟨none, (some 50), .idxStr (.t 48) (.t 49)⟩,
    ⟨none, (some 51), .build [(.int .i64 0), (w8 0#8)] [(0, 1, (.k (.int .i64 0))), (1, 1, (.t 50))]⟩,
    ⟨none, (some 52), .bsl 2 1 [(.int .i64 0), (w8 0#8)] [(0, 2, (.t 51))]⟩,
    ⟨none, (some 53), .app 2 16 (.t 47) (.t 52)⟩,
    ⟨none, (some 4), .mov (.t 53)⟩])))
  (.seq (.region false [⟨none, (some 55), .bin .eql (.t 25) (.k (w8 42#8))⟩,
    ⟨none, (some 54), .mov (.t 55)⟩])
  (.cond (.t 54) (.seq (.region false [⟨none, (some 56), .mov (.t 5)⟩,
    ⟨none, (some 57), .bin .add (.t 56) (.k (.int .i64 1))⟩,
    ⟨none, (some 58), .mov (.t 0)⟩,
    ⟨none, (some 59), .lenStr (.t 58)⟩,
    ⟨none, (some 60), .bin .lss (.t 57) (.t 59)⟩,
    ⟨none, (some 61), .mov (.t 60)⟩,
    ⟨(some (61, true)), (some 62), .mov (.t 0)⟩,
    ⟨(some (61, true)), (some 63), .mov (.t 5)⟩,
    ⟨(some (61, true)), (some 64), .bin .add (.t 63) (.k (.int .i64 1))⟩,
    ⟨(some (61, true)), (some 65), .idxStr (.t 62) (.t 64)⟩,
    ⟨(some (61, true)), (some 66), .bin .eql (.t 65) (.k (w8 42#8))⟩,
    ⟨none, (some 67), .pick (.t 61) (.t 66) (.k (.bool false))⟩])
  (.cond (.t 67) (.seq (.region false [⟨none, (some 68), .mov (.t 5)⟩,
    ⟨none, (some 69), .bin .add (.t 68) (.k (.int .i64 1))⟩,
    ⟨none, (some 5), .mov (.t 69)⟩])
  (.region false [⟨none, (some 70), .mov (.t 4)⟩,
    ⟨none, (some 71), .build [(.int .i64 0), (w8 0#8)] [(0, 1, (.k (.int .i64 3))), (1, 1, (.k (w8 0#8)))]⟩,
    ⟨none, (some 72), .bsl 2 1 [(.int .i64 0), (w8 0#8)] [(0, 2, (.t 71))]⟩,
    ⟨none, (some 73), .app 2 16 (.t 70) (.t 72)⟩,
    ⟨none, (some 4), .mov (.t 73)⟩]))
  (.region false [⟨none, (some 74), .mov (.t 4)⟩,
    ⟨none, (some 75), .build [(.int .i64 0), (w8 0#8)] [(0, 1, (.k (.int .i64 2))), (1, 1, (.k (w8 0#8)))]⟩,
    ⟨none, (some 76), .bsl 2 1 [(.int .i64 0), (w8 0#8)] [(0, 2, (.t 75))]⟩,
    ⟨none, (some 77), .app 2 16 (.t 74) (.t 76)⟩,
    ⟨none, (some 4), .mov (.t 77)⟩])))
  (.seq (.region false [⟨none, (some 79), .bin .eql (.t 25) (.k (w8 63#8))⟩,
    ⟨none, (some 78), .mov (.t 79)⟩])
  (.cond (.t 78) (.region false [⟨none, (some 80), .mov (.t 4)⟩,
    ⟨none, (some 81), .build [(.int .i64 0), (w8 0#8)] [(0, 1, (.k (.int .i64 1))), (1, 1, (.k (w8 0#8)))]⟩,
    ⟨none, (some 82), .bsl 2 1 [(.int .i64 0), (w8 0#8)] [(0, 2, (.t 81))]⟩,
    ⟨none, (some 83), .app 2 16 (.t 80) (.t 82)⟩,
    ⟨none, (some 4), .mov (.t 83)⟩])
  (.region false [⟨none, (some 26), .mov (.t 4)⟩,
    ⟨none, (some 27), .mov (.t 6)⟩,
    ⟨none, (some 28), .build [(.int .i64 0), (w8 0#8)] [(0, 1, (.k (.int .i64 0))), (1, 1, (.t 27))]⟩,
    ⟨none, (some 29), .bsl 2 1 [(.int .i64 0), (w8 0#8)] [(0, 2, (.t 28))]⟩,
    ⟨none, (some 30), .app 2 16 (.t 26) (.t 29)⟩,
    ⟨none, (some 4), .mov (.t 30)⟩]))))))))))))
  (.region false [⟨none, (some 18), .mov (.t 5)⟩,
    ⟨none, (some 19), .bin .add (.t 18) (.k (.int .i64 1))⟩,
    ⟨none, (some 5), .mov (.t 19)⟩])))
/-- 0:p 4:out 5:i -/
def a49S0 (x0 x4 x5 : DV) (h : List AObj) : St := ⟨[x0, .junk, .junk, .junk, x4, x5] ++ js 79, h⟩

def a49 : AFn where
  code := (.seq (.region false [⟨none, (some 2), .mov (.k .nils)⟩,
    ⟨none, (some 3), .mov (.k (.bool false))⟩])
  (.seq (.seq (.region false [⟨none, (some 7), .mov (.t 0)⟩,
    ⟨none, (some 8), .bin .eql (.t 7) (.k (.str []))⟩,
    ⟨none, (some 9), .mov (.t 8)⟩,
    ⟨(some (9, false)), (some 10), .mov (.t 0)⟩,
    ⟨(some (9, false)), (some 11), .lenStr (.t 10)⟩,
    ⟨(some (9, false)), (some 12), .bin .gtr (.t 11) (.k (.int .i64 200))⟩,
    ⟨none, (some 13), .pick (.t 9) (.k (.bool true)) (.t 12)⟩])
  (.cond (.t 13) (.seq (.region false [⟨none, (some 2), .mov (.k .nils)⟩,
    ⟨none, (some 3), .mov (.k (.bool false))⟩])
  .ret)
  .skip))
  (.seq (.region false [⟨none, (some 4), .mov (.k .nils)⟩])
  (.seq (.seq (.region false [⟨none, (some 5), .mov (.k (.int .i64 0))⟩])
  (.block 0 (.loop a49L0)))
  (.seq (.region false [⟨none, (some 84), .mov (.t 4)⟩,
    ⟨none, (some 2), .mov (.t 84)⟩,
    ⟨none, (some 3), .mov (.k (.bool true))⟩])
  .ret)))))
  ntmps := 85
  res := [.tmp 2, .tmp 3]

theorem a49_ok : compileFn P Tryd.f49 = some a49 := by kernel_rfl

-- 19 admission/admissionref03.Valid
def a19 : AFn where
  code := (.seq (.region false [⟨none, (some 2), .mov (.k (.bool false))⟩])
  (.seq (.region false [⟨none, (some 6), .mov (.t 0)⟩,
    ⟨none, (some 7), .call (.k (.fn (.func 49) [] [])) [(.t 6)]⟩,
    ⟨none, (some 5), .mov (.t 7)⟩,
    ⟨none, (some 8), .ext (.t 5) 0⟩,
    ⟨none, (some 9), .ext (.t 5) 1⟩,
    ⟨none, (some 3), .mov (.t 8)⟩,
    ⟨none, (some 4), .mov (.t 9)⟩])
  (.seq (.region false [⟨none, (some 10), .mov (.t 4)⟩,
    ⟨none, (some 2), .mov (.t 10)⟩])
  .ret)))
  ntmps := 11
  res := [.tmp 2]

theorem a19_ok : compileFn P Tryd.f19 = some a19 := by kernel_rfl

-- 50 (admission/admissionref03.part).long
def a50 : AFn where
  code := (.seq (.region false [⟨none, (some 1), .box (.t 0)⟩,
    ⟨none, (some 2), .mov (.k (.bool false))⟩])
  (.seq (.region false [⟨none, (some 3), .fld 0 (.t 1)⟩,
    ⟨none, (some 4), .load 1 false (.t 3)⟩,
    ⟨none, (some 5), .bin .geq (.t 4) (.k (.int .i64 2))⟩,
    ⟨none, (some 2), .mov (.t 5)⟩])
  .ret))
  ntmps := 6
  res := [.tmp 2]

theorem a50_ok : compileFn P Tryd.f50 = some a50 := by kernel_rfl

-- 51 (admission/admissionref03.part).takes
def a51 : AFn where
  code := (.seq (.region false [⟨none, (some 2), .box (.t 0)⟩,
    ⟨none, (some 4), .mov (.k (.bool false))⟩])
  (.seq (.region false [⟨none, (some 5), .fld 0 (.t 2)⟩,
    ⟨none, (some 6), .load 1 false (.t 5)⟩,
    ⟨none, (some 7), .bin .eql (.t 6) (.k (.int .i64 3))⟩,
    ⟨none, (some 8), .mov (.t 7)⟩,
    ⟨(some (8, false)), (some 9), .fld 0 (.t 2)⟩,
    ⟨(some (8, false)), (some 10), .load 1 false (.t 9)⟩,
    ⟨(some (8, false)), (some 11), .bin .eql (.t 10) (.k (.int .i64 0))⟩,
    ⟨(some (8, false)), (some 12), .mov (.t 11)⟩,
    ⟨(some (12, true)), (some 13), .fld 1 (.t 2)⟩,
    ⟨(some (12, true)), (some 14), .load 1 false (.t 13)⟩,
    ⟨(some (12, true)), (some 15), .mov (.t 1)⟩,
    ⟨(some (12, true)), (some 16), .bin .eql (.t 14) (.t 15)⟩,
    ⟨(some (8, false)), (some 17), .pick (.t 12) (.t 16) (.k (.bool false))⟩,
    ⟨none, (some 18), .pick (.t 8) (.k (.bool true)) (.t 17)⟩,
    ⟨none, (some 19), .mov (.t 18)⟩,
    ⟨(some (19, false)), (some 20), .fld 0 (.t 2)⟩,
    ⟨(some (19, false)), (some 21), .load 1 false (.t 20)⟩,
    ⟨(some (19, false)), (some 22), .bin .eql (.t 21) (.k (.int .i64 1))⟩,
    ⟨(some (19, false)), (some 23), .mov (.t 22)⟩,
    ⟨(some (23, false)), (some 24), .fld 0 (.t 2)⟩,
    ⟨(some (23, false)), (some 25), .load 1 false (.t 24)⟩,
    ⟨(some (23, false)), (some 26), .bin .eql (.t 25) (.k (.int .i64 2))⟩,
    ⟨(some (19, false)), (some 27), .pick (.t 23) (.k (.bool true)) (.t 26)⟩,
    ⟨(some (19, false)), (some 28), .mov (.t 27)⟩,
    ⟨(some (28, true)), (some 29), .mov (.t 1)⟩,
    ⟨(some (28, true)), (some 30), .bin .neq (.t 29) (.k (w8 47#8))⟩,
    ⟨(some (19, false)), (some 31), .pick (.t 28) (.t 30) (.k (.bool false))⟩,
    ⟨none, (some 32), .pick (.t 19) (.k (.bool true)) (.t 31)⟩,
    ⟨none, (some 4), .mov (.t 32)⟩])
  .ret))
  ntmps := 33
  res := [.tmp 4]

theorem a51_ok : compileFn P Tryd.f51 = some a51 := by kernel_rfl

-- 15 admission/admissionref03.Match
def a15L0 : ACode :=
  (.seq (.seq (.region false [⟨none, (some 31), .mov (.t 8)⟩,
    ⟨none, (some 32), .mov (.t 5)⟩,
    ⟨none, (some 33), .len (.t 32)⟩,
    ⟨none, (some 34), .bin .lss (.t 31) (.t 33)⟩,
    ⟨none, (some 35), .mov (.t 34)⟩,
    ⟨(some (35, true)), (some 36), .mov (.t 5)⟩,
    ⟨(some (35, true)), (some 37), .mov (.t 8)⟩,
    ⟨(some (35, true)), (some 38), .idxS 2 (.t 36) (.t 37)⟩,
    ⟨(some (35, true)), (some 39), .load 2 true (.t 38)⟩,
    ⟨(some (35, true)), (some 40), .call (.k (.fn (.func 50) [] [])) [(.t 39)]⟩,
    ⟨none, (some 41), .pick (.t 35) (.t 40) (.k (.bool false))⟩])
  (.cond (.t 41) .skip
  (.exit 0)))
  (.seq (.block 1 (.region false [⟨none, (some 44), .mov (.t 7)⟩,
    ⟨none, (some 45), .mov (.t 8)⟩,
    ⟨none, (some 46), .bin .add (.t 45) (.k (.int .i64 1))⟩,
    ⟨none, (some 47), .idxS 1 (.t 44) (.t 46)⟩,
    ⟨none, none, .store 1 (.t 47) (.k (.bool true))⟩]))
  (.region false [⟨none, (some 42), .mov (.t 8)⟩,
    ⟨none, (some 43), .bin .add (.t 42) (.k (.int .i64 1))⟩,
    ⟨none, (some 8), .mov (.t 43)⟩])))
/-- 1:path 5:l 7:at 8:k -/
def a15S0 (x1 x5 x7 x8 : DV) (h : List AObj) : St := ⟨[.junk, x1, .junk, .junk, .junk, x5, .junk, x7, x8] ++ js 108, h⟩

def a15L2 : ACode :=
  (.seq (.seq (.region false [⟨none, (some 58), .mov (.t 11)⟩,
    ⟨none, (some 59), .mov (.t 5)⟩,
    ⟨none, (some 60), .len (.t 59)⟩,
    ⟨none, (some 61), .bin .lss (.t 58) (.t 60)⟩])
  (.cond (.t 61) .skip
  (.exit 4)))
  (.seq (.block 5 (.seq (.region true [⟨none, (some 64), .mov (.t 7)⟩,
    ⟨none, (some 65), .mov (.t 11)⟩,
    ⟨none, (some 66), .idxS 1 (.t 64) (.t 65)⟩,
    ⟨none, (some 67), .load 1 false (.t 66)⟩,
    ⟨none, (some 68), .mov (.t 67)⟩,
    ⟨(some (68, true)), (some 69), .mov (.t 5)⟩,
    ⟨(some (68, true)), (some 70), .mov (.t 11)⟩,
    ⟨(some (68, true)), (some 71), .idxS 2 (.t 69) (.t 70)⟩,
    ⟨(some (68, true)), (some 72), .load 2 true (.t 71)⟩,
    ⟨(some (68, true)), (some 73), .mov (.t 1)⟩,
    ⟨(some (68, true)), (some 74), .mov (.t 9)⟩,
    ⟨(some (68, true)), (some 75), .idxStr (.t 73) (.t 74)⟩,
    ⟨(some (68, true)), (some 76), .call (.k (.fn (.func 51) [] [])) [(.t 72), (.t 75)]⟩,
    ⟨none, (some 77), .pick (.t 68) (.t 76) (.k (.bool false))⟩])
  (.cond (.t 77) (.seq (.region false [⟨none, (some 78), .mov (.t 5)⟩,
    ⟨none, (some 79), .mov (.t 11)⟩,
    ⟨none, (some 80), .idxS 2 (.t 78) (.t 79)⟩,
    ⟨none, (some 81), .load 2 true (.t 80)⟩,
    ⟨none, (some 82), .call (.k (.fn (.func 50) [] [])) [(.t 81)]⟩])
  (.cond (.t 82) (.region false [⟨none, (some 83), .mov (.t 10)⟩,
    ⟨none, (some 84), .mov (.t 11)⟩,
    ⟨none, (some 85), .idxS 1 (.t 83) (.t 84)⟩,
    ⟨none, none, .store 1 (.t 85) (.k (.bool true))⟩])
  (.region false [⟨none, (some 86), .mov (.t 10)⟩,
    ⟨none, (some 87), .mov (.t 11)⟩,
    ⟨none, (some 88), .bin .add (.t 87) (.k (.int .i64 1))⟩,
    ⟨none, (some 89), .idxS 1 (.t 86) (.t 88)⟩,
    ⟨none, none, .store 1 (.t 89) (.k (.bool true))⟩])))
  .skip)))
  (.region false [⟨none, (some 62), .mov (.t 11)⟩,
    ⟨none, (some 63), .bin .add (.t 62) (.k (.int .i64 1))⟩,
    ⟨none, (some 11), .mov (.t 63)⟩])))
/-- 1:path 5:l 7:at 9:i 10:next 11:k -/
def a15S2 (x1 x5 x7 x9 x10 x11 : DV) (h : List AObj) : St := ⟨[.junk, x1, .junk, .junk, .junk, x5, .junk, x7, .junk, x9, x10, x11] ++ js 105, h⟩

def a15L3 : ACode :=
  (.seq (.seq (.region false [⟨none, (some 90), .mov (.t 12)⟩,
    ⟨none, (some 91), .mov (.t 5)⟩,
    ⟨none, (some 92), .len (.t 91)⟩,
    ⟨none, (some 93), .bin .lss (.t 90) (.t 92)⟩])
  (.cond (.t 93) .skip
  (.exit 6)))
  (.seq (.block 7 (.seq (.region false [⟨none, (some 96), .mov (.t 10)⟩,
    ⟨none, (some 97), .mov (.t 12)⟩,
    ⟨none, (some 98), .idxS 1 (.t 96) (.t 97)⟩,
    ⟨none, (some 99), .load 1 false (.t 98)⟩,
    ⟨none, (some 100), .mov (.t 99)⟩,
    ⟨(some (100, true)), (some 101), .mov (.t 5)⟩,
    ⟨(some (100, true)), (some 102), .mov (.t 12)⟩,
    ⟨(some (100, true)), (some 103), .idxS 2 (.t 101) (.t 102)⟩,
    ⟨(some (100, true)), (some 104), .load 2 true (.t 103)⟩,
    ⟨(some (100, true)), (some 105), .call (.k (.fn (.func 50) [] [])) [(.t 104)]⟩,
    ⟨none, (some 106), .pick (.t 100) (.t 105) (.k (.bool false))⟩])
  (.cond (.t 106) (.region false [⟨none, (some 107), .mov (.t 10)⟩,
    ⟨none, (some 108), .mov (.t 12)⟩,
    ⟨none, (some 109), .bin .add (.t 108) (.k (.int .i64 1))⟩,
    ⟨none, (some 110), .idxS 1 (.t 107) (.t 109)⟩,
    ⟨none, none, .store 1 (.t 110) (.k (.bool true))⟩])
  .skip)))
  (.region false [⟨none, (some 94), .mov (.t 12)⟩,
    ⟨none, (some 95), .bin .add (.t 94) (.k (.int .i64 1))⟩,
    ⟨none, (some 12), .mov (.t 95)⟩])))
/-- 1:path 5:l 9:i 10:next 12:k -/
def a15S3 (x1 x5 x9 x10 x12 : DV) (h : List AObj) : St := ⟨[.junk, x1, .junk, .junk, .junk, x5, .junk, .junk, .junk, x9, x10, .junk, x12] ++ js 104, h⟩

def a15L1 : ACode :=
  (.seq (.seq (.region false [⟨none, (some 48), .mov (.t 9)⟩,
    ⟨none, (some 49), .mov (.t 1)⟩,
    ⟨none, (some 50), .lenStr (.t 49)⟩,
    ⟨none, (some 51), .bin .lss (.t 48) (.t 50)⟩])
  (.cond (.t 51) .skip
  (.exit 2)))
  (.seq (.block 3 (.seq (.region false [⟨none, (some 54), .mov (.t 5)⟩,
    ⟨none, (some 55), .len (.t 54)⟩,
    ⟨none, (some 56), .bin .add (.t 55) (.k (.int .i64 1))⟩,
    ⟨none, (some 57), .mks 1 1 [(.bool false)] (.t 56) (.t 56)⟩,
    ⟨none, (some 10), .mov (.t 57)⟩])
  (.seq (.seq (.region false [⟨none, (some 11), .mov (.k (.int .i64 0))⟩])
  (.block 4 (.loop a15L2)))
  (.seq (.seq (.region false [⟨none, (some 12), .mov (.k (.int .i64 0))⟩])
  (.block 6 (.loop a15L3)))
  (.region false [⟨none, (some 111), .mov (.t 10)⟩,
    ⟨none, (some 7), .mov (.t 111)⟩])))))
  (.region false [⟨none, (some 52), .mov (.t 9)⟩,
    ⟨none, (some 53), .bin .add (.t 52) (.k (.int .i64 1))⟩,
    ⟨none, (some 9), .mov (.t 53)⟩])))
/-- 1:path 5:l 7:at 9:i -/
def a15S1 (x1 x5 x7 x9 : DV) (h : List AObj) : St := ⟨[.junk, x1, .junk, .junk, .junk, x5, .junk, x7, .junk, x9] ++ js 107, h⟩

def a15 : AFn where
  code := (.seq (.region false [⟨none, (some 4), .mov (.k (.bool false))⟩])
  (.seq (.region false [⟨none, (some 14), .mov (.t 0)⟩,
    ⟨none, (some 15), .call (.k (.fn (.func 49) [] [])) [(.t 14)]⟩,
    ⟨none, (some 13), .mov (.t 15)⟩,
    ⟨none, (some 16), .ext (.t 13) 0⟩,
    ⟨none, (some 17), .ext (.t 13) 1⟩,
    ⟨none, (some 5), .mov (.t 16)⟩,
    ⟨none, (some 6), .mov (.t 17)⟩])
  (.seq (.seq (.region false [⟨none, (some 18), .mov (.t 6)⟩,
    ⟨none, (some 19), .un .not (.t 18)⟩,
    ⟨none, (some 20), .mov (.t 19)⟩,
    ⟨(some (20, false)), (some 21), .mov (.t 1)⟩,
    ⟨(some (20, false)), (some 22), .call (.k (.fn (.func 17) [] [])) [(.t 21)]⟩,
    ⟨(some (20, false)), (some 23), .un .not (.t 22)⟩,
    ⟨none, (some 24), .pick (.t 20) (.k (.bool true)) (.t 23)⟩])
  (.cond (.t 24) (.seq (.region false [⟨none, (some 4), .mov (.k (.bool false))⟩])
  .ret)
  .skip))
  (.seq (.region false [⟨none, (some 25), .mov (.t 5)⟩,
    ⟨none, (some 26), .len (.t 25)⟩,
    ⟨none, (some 27), .bin .add (.t 26) (.k (.int .i64 1))⟩,
    ⟨none, (some 28), .mks 1 1 [(.bool false)] (.t 27) (.t 27)⟩,
    ⟨none, (some 7), .mov (.t 28)⟩])
  (.seq (.region false [⟨none, (some 29), .mov (.t 7)⟩,
    ⟨none, (some 30), .idxS 1 (.t 29) (.k (.int .i64 0))⟩,
    ⟨none, none, .store 1 (.t 30) (.k (.bool true))⟩])
  (.seq (.seq (.region false [⟨none, (some 8), .mov (.k (.int .i64 0))⟩])
  (.block 0 (.loop a15L0)))
  (.seq (.seq (.region false [⟨none, (some 9), .mov (.k (.int .i64 0))⟩])
  (.block 2 (.loop a15L1)))
  (.seq (.region false [⟨none, (some 112), .mov (.t 7)⟩,
    ⟨none, (some 113), .mov (.t 5)⟩,
    ⟨none, (some 114), .len (.t 113)⟩,
    ⟨none, (some 115), .idxS 1 (.t 112) (.t 114)⟩,
    ⟨none, (some 116), .load 1 false (.t 115)⟩,
    ⟨none, (some 4), .mov (.t 116)⟩])
  .ret))))))))
  ntmps := 117
  res := [.tmp 4]

theorem a15_ok : compileFn P Tryd.f15 = some a15 := by kernel_rfl

-- 21 admission/admissionref03.Literal
def a21L0 : ACode :=
  (.seq (.seq (.region false [⟨none, (some 8), .mov (.t 4)⟩,
    ⟨none, (some 9), .mov (.t 0)⟩,
    ⟨none, (some 10), .lenStr (.t 9)⟩,
    ⟨none, (some 11), .bin .lss (.t 8) (.t 10)⟩])
  (.cond (.t 11) .skip
  (.exit 0)))
  (.seq (.block 1 (.seq (.seq (.region false [⟨none, (some 14), .mov (.t 0)⟩,
    ⟨none, (some 15), .mov (.t 4)⟩,
    ⟨none, (some 16), .idxStr (.t 14) (.t 15)⟩,
    ⟨none, (some 17), .bin .eql (.t 16) (.k (w8 92#8))⟩,
    ⟨none, (some 18), .mov (.t 17)⟩,
    ⟨(some (18, false)), (some 19), .mov (.t 0)⟩,
    ⟨(some (18, false)), (some 20), .mov (.t 4)⟩,
    ⟨(some (18, false)), (some 21), .idxStr (.t 19) (.t 20)⟩,
    ⟨(some (18, false)), (some 22), .bin .eql (.t 21) (.k (w8 42#8))⟩,
    ⟨none, (some 23), .pick (.t 18) (.k (.bool true)) (.t 22)⟩,
    ⟨none, (some 24), .mov (.t 23)⟩,
    ⟨(some (24, false)), (some 25), .mov (.t 0)⟩,
    ⟨(some (24, false)), (some 26), .mov (.t 4)⟩,
    ⟨(some (24, false)), (some 27), .idxStr (.t 25) (.t 26)⟩,
    ⟨(some (24, false)), (some 28), .bin .eql (.t 27) (.k (w8 63#8))⟩,
    ⟨none, (some 29), .pick (.t 24) (.k (.bool true)) (.t 28)⟩])
  (.cond (.t 29) (.region false [⟨none, (some 30), .mov (.t 3)⟩,
    ⟨none, (some 31), .bsl 1 1 [(w8 0#8)] [(0, 1, (.k (w8 92#8)))]⟩,
    ⟨none, (some 32), .app 1 1 (.t 30) (.t 31)⟩,
    ⟨none, (some 3), .mov (.t 32)⟩])
  .skip))
  (.region false [⟨none, (some 33), .mov (.t 3)⟩,
    ⟨none, (some 34), .mov (.t 0)⟩,
    ⟨none, (some 35), .mov (.t 4)⟩,
    ⟨none, (some 36), .idxStr (.t 34) (.t 35)⟩,
    ⟨none, (some 37), .bsl 1 1 [(w8 0#8)] [(0, 1, (.t 36))]⟩,
    ⟨none, (some 38), .app 1 1 (.t 33) (.t 37)⟩,
    ⟨none, (some 3), .mov (.t 38)⟩])))
  (.region false [⟨none, (some 12), .mov (.t 4)⟩,
    ⟨none, (some 13), .bin .add (.t 12) (.k (.int .i64 1))⟩,
    ⟨none, (some 4), .mov (.t 13)⟩])))
/-- 0:path 3:s 4:i -/
def a21S0 (x0 x3 x4 : DV) (h : List AObj) : St := ⟨[x0, .junk, .junk, x3, x4] ++ js 36, h⟩

def a21 : AFn where
  code := (.seq (.region false [⟨none, (some 2), .mov (.k (.str []))⟩])
  (.seq (.seq (.region false [⟨none, (some 5), .mov (.t 0)⟩,
    ⟨none, (some 6), .call (.k (.fn (.func 17) [] [])) [(.t 5)]⟩,
    ⟨none, (some 7), .un .not (.t 6)⟩])
  (.cond (.t 7) (.seq (.region false [⟨none, (some 2), .mov (.k (.str []))⟩])
  .ret)
  .skip))
  (.seq (.region false [⟨none, (some 3), .mov (.k .nils)⟩])
  (.seq (.seq (.region false [⟨none, (some 4), .mov (.k (.int .i64 0))⟩])
  (.block 0 (.loop a21L0)))
  (.seq (.region false [⟨none, (some 39), .mov (.t 3)⟩,
    ⟨none, (some 40), .cbs (.t 39)⟩,
    ⟨none, (some 2), .mov (.t 40)⟩])
  .ret)))))
  ntmps := 41
  res := [.tmp 2]

theorem a21_ok : compileFn P Tryd.f21 = some a21 := by kernel_rfl

-- 57 admission/admissionref03.Directory
def a57 : AFn where
  code := (.seq (.region false [⟨none, (some 2), .mov (.k (.bool false))⟩])
  (.seq (.region false [⟨none, (some 3), .mov (.t 0)⟩,
    ⟨none, (some 4), .bin .eql (.t 3) (.k (.str []))⟩,
    ⟨none, (some 5), .mov (.t 4)⟩,
    ⟨(some (5, false)), (some 6), .mov (.t 0)⟩,
    ⟨(some (5, false)), (some 7), .call (.k (.fn (.func 17) [] [])) [(.t 6)]⟩,
    ⟨none, (some 8), .pick (.t 5) (.k (.bool true)) (.t 7)⟩,
    ⟨none, (some 2), .mov (.t 8)⟩])
  .ret))
  ntmps := 9
  res := [.tmp 2]

theorem a57_ok : compileFn P Tryd.f57 = some a57 := by kernel_rfl

-- 58 admission/admissionref03.Rest
def a58 : AFn where
  code := (.seq (.region false [⟨none, (some 4), .mov (.k (.str []))⟩,
    ⟨none, (some 5), .mov (.k (.bool false))⟩])
  (.seq (.seq (.region false [⟨none, (some 6), .mov (.t 0)⟩,
    ⟨none, (some 7), .bin .eql (.t 6) (.k (.str []))⟩])
  (.cond (.t 7) (.seq (.region false [⟨none, (some 8), .mov (.t 1)⟩,
    ⟨none, (some 4), .mov (.t 8)⟩,
    ⟨none, (some 5), .mov (.k (.bool true))⟩])
  .ret)
  .skip))
  (.seq (.seq (.region false [⟨none, (some 9), .mov (.t 1)⟩,
    ⟨none, (some 10), .lenStr (.t 9)⟩,
    ⟨none, (some 11), .mov (.t 0)⟩,
    ⟨none, (some 12), .lenStr (.t 11)⟩,
    ⟨none, (some 13), .bin .add (.t 12) (.k (.int .i64 1))⟩,
    ⟨none, (some 14), .bin .gtr (.t 10) (.t 13)⟩,
    ⟨none, (some 15), .mov (.t 14)⟩,
    ⟨(some (15, true)), (some 16), .mov (.t 1)⟩,
    ⟨(some (15, true)), (some 17), .mov (.t 0)⟩,
    ⟨(some (15, true)), (some 18), .lenStr (.t 17)⟩,
    ⟨(some (15, true)), (some 19), .slcStr (.t 16) none (some (.t 18))⟩,
    ⟨(some (15, true)), (some 20), .mov (.t 0)⟩,
    ⟨(some (15, true)), (some 21), .bin .eql (.t 19) (.t 20)⟩,
    ⟨none, (some 22), .pick (.t 15) (.t 21) (.k (.bool false))⟩,
    ⟨none, (some 23), .mov (.t 22)⟩,
    ⟨(some (23, true)), (some 24), .mov (.t 1)⟩,
    ⟨(some (23, true)), (some 25), .mov (.t 0)⟩,
    ⟨(some (23, true)), (some 26), .lenStr (.t 25)⟩,
    ⟨(some (23, true)), (some 27), .idxStr (.t 24) (.t 26)⟩,
    ⟨(some (23, true)), (some 28), .bin .eql (.t 27) (.k (w8 47#8))⟩,
    ⟨none, (some 29), .pick (.t 23) (.t 28) (.k (.bool false))⟩])
  (.cond (.t 29) (.seq (.region false [⟨none, (some 30), .mov (.t 1)⟩,
    ⟨none, (some 31), .mov (.t 0)⟩,
    ⟨none, (some 32), .lenStr (.t 31)⟩,
    ⟨none, (some 33), .bin .add (.t 32) (.k (.int .i64 1))⟩,
    ⟨none, (some 34), .slcStr (.t 30) (some (.t 33)) none⟩,
    ⟨none, (some 4), .mov (.t 34)⟩,
    ⟨none, (some 5), .mov (.k (.bool true))⟩])
  .ret)
  .skip))
  (.seq (.region false [⟨none, (some 4), .mov (.k (.str []))⟩,
    ⟨none, (some 5), .mov (.k (.bool false))⟩])
  .ret))))
  ntmps := 35
  res := [.tmp 4, .tmp 5]

theorem a58_ok : compileFn P Tryd.f58 = some a58 := by kernel_rfl

-- 59 admission/admissionref03.Under
def a59 : AFn where
  code := (.seq (.region false [⟨none, (some 4), .mov (.k (.str []))⟩])
  (.seq (.seq (.region false [⟨none, (some 5), .mov (.t 0)⟩,
    ⟨none, (some 6), .bin .eql (.t 5) (.k (.str []))⟩])
  (.cond (.t 6) (.seq (.region false [⟨none, (some 7), .mov (.t 1)⟩,
    ⟨none, (some 4), .mov (.t 7)⟩])
  .ret)
  .skip))
  (.seq (.region false [⟨none, (some 8), .mov (.t 0)⟩,
    ⟨none, (some 9), .bin .add (.t 8) (.k (.str [47]))⟩,
    ⟨none, (some 10), .mov (.t 1)⟩,
    ⟨none, (some 11), .bin .add (.t 9) (.t 10)⟩,
    ⟨none, (some 4), .mov (.t 11)⟩])
  .ret)))
  ntmps := 12
  res := [.tmp 4]

theorem a59_ok : compileFn P Tryd.f59 = some a59 := by kernel_rfl

-- 23 admission/admissionref03.Relocate
def a23 : AFn where
  code := (.seq (.region false [⟨none, (some 6), .mov (.k (.str []))⟩,
    ⟨none, (some 7), .mov (.k (.bool false))⟩])
  (.seq (.seq (.region false [⟨none, (some 10), .mov (.t 0)⟩,
    ⟨none, (some 11), .call (.k (.fn (.func 57) [] [])) [(.t 10)]⟩,
    ⟨none, (some 12), .un .not (.t 11)⟩,
    ⟨none, (some 13), .mov (.t 12)⟩,
    ⟨(some (13, false)), (some 14), .mov (.t 1)⟩,
    ⟨(some (13, false)), (some 15), .call (.k (.fn (.func 57) [] [])) [(.t 14)]⟩,
    ⟨(some (13, false)), (some 16), .un .not (.t 15)⟩,
    ⟨none, (some 17), .pick (.t 13) (.k (.bool true)) (.t 16)⟩,
    ⟨none, (some 18), .mov (.t 17)⟩,
    ⟨(some (18, false)), (some 19), .mov (.t 2)⟩,
    ⟨(some (18, false)), (some 20), .call (.k (.fn (.func 17) [] [])) [(.t 19)]⟩,
    ⟨(some (18, false)), (some 21), .un .not (.t 20)⟩,
    ⟨none, (some 22), .pick (.t 18) (.k (.bool true)) (.t 21)⟩])
  (.cond (.t 22) (.seq (.region false [⟨none, (some 6), .mov (.k (.str []))⟩,
    ⟨none, (some 7), .mov (.k (.bool false))⟩])
  .ret)
  .skip))
  (.seq (.region false [⟨none, (some 24), .mov (.t 0)⟩,
    ⟨none, (some 25), .mov (.t 2)⟩,
    ⟨none, (some 26), .call (.k (.fn (.func 58) [] [])) [(.t 24), (.t 25)]⟩,
    ⟨none, (some 23), .mov (.t 26)⟩,
    ⟨none, (some 27), .ext (.t 23) 0⟩,
    ⟨none, (some 28), .ext (.t 23) 1⟩,
    ⟨none, (some 8), .mov (.t 27)⟩,
    ⟨none, (some 9), .mov (.t 28)⟩])
  (.seq (.seq (.region false [⟨none, (some 29), .mov (.t 9)⟩,
    ⟨none, (some 30), .un .not (.t 29)⟩,
    ⟨none, (some 31), .mov (.t 30)⟩,
    ⟨(some (31, false)), (some 32), .mov (.t 1)⟩,
    ⟨(some (31, false)), (some 33), .mov (.t 8)⟩,
    ⟨(some (31, false)), (some 34), .call (.k (.fn (.func 59) [] [])) [(.t 32), (.t 33)]⟩,
    ⟨(some (31, false)), (some 35), .call (.k (.fn (.func 17) [] [])) [(.t 34)]⟩,
    ⟨(some (31, false)), (some 36), .un .not (.t 35)⟩,
    ⟨none, (some 37), .pick (.t 31) (.k (.bool true)) (.t 36)⟩])
  (.cond (.t 37) (.seq (.region false [⟨none, (some 6), .mov (.k (.str []))⟩,
    ⟨none, (some 7), .mov (.k (.bool false))⟩])
  .ret)
  .skip))
  (.seq (.region false [⟨none, (some 38), .mov (.t 1)⟩,
    ⟨none, (some 39), .mov (.t 8)⟩,
    ⟨none, (some 40), .call (.k (.fn (.func 59) [] [])) [(.t 38), (.t 39)]⟩,
    ⟨none, (some 6), .mov (.t 40)⟩,
    ⟨none, (some 7), .mov (.k (.bool true))⟩])
  .ret)))))
  ntmps := 41
  res := [.tmp 6, .tmp 7]

theorem a23_ok : compileFn P Tryd.f23 = some a23 := by kernel_rfl

-- 4 admission/admissionlaw03.PatternPaths
def a4 : AFn where
  code := (.seq (.region false [⟨none, (some 4), .mov (.k (.bool false))⟩])
  (.seq (.seq (.region false [⟨none, (some 5), .mov (.t 0)⟩,
    ⟨none, (some 6), .lenStr (.t 5)⟩,
    ⟨none, (some 7), .bin .gtr (.t 6) (.k (.int .i64 500))⟩,
    ⟨none, (some 8), .mov (.t 7)⟩,
    ⟨(some (8, false)), (some 9), .mov (.t 1)⟩,
    ⟨(some (8, false)), (some 10), .lenStr (.t 9)⟩,
    ⟨(some (8, false)), (some 11), .bin .gtr (.t 10) (.k (.int .i64 500))⟩,
    ⟨none, (some 12), .pick (.t 8) (.k (.bool true)) (.t 11)⟩])
  (.cond (.t 12) (.seq (.region false [⟨none, (some 4), .mov (.k (.bool true))⟩])
  .ret)
  .skip))
  (.seq (.region false [⟨none, (some 13), .call (.k (.fn (.func 13) [] [])) []⟩,
    ⟨none, (some 14), .mov (.t 13)⟩,
    ⟨(some (14, true)), (some 15), .mov (.t 0)⟩,
    ⟨(some (14, true)), (some 16), .call (.k (.fn (.func 16) [] [])) [(.t 15)]⟩,
    ⟨(some (14, true)), (some 17), .mov (.t 0)⟩,
    ⟨(some (14, true)), (some 18), .call (.k (.fn (.func 17) [] [])) [(.t 17)]⟩,
    ⟨(some (14, true)), (some 19), .eqb false (.t 16) (.t 18)⟩,
    ⟨none, (some 20), .pick (.t 14) (.t 19) (.k (.bool false))⟩,
    ⟨none, (some 21), .mov (.t 20)⟩,
    ⟨(some (21, true)), (some 22), .mov (.t 1)⟩,
    ⟨(some (21, true)), (some 23), .call (.k (.fn (.func 18) [] [])) [(.t 22)]⟩,
    ⟨(some (21, true)), (some 24), .mov (.t 1)⟩,
    ⟨(some (21, true)), (some 25), .call (.k (.fn (.func 19) [] [])) [(.t 24)]⟩,
    ⟨(some (21, true)), (some 26), .eqb false (.t 23) (.t 25)⟩,
    ⟨none, (some 27), .pick (.t 21) (.t 26) (.k (.bool false))⟩,
    ⟨none, (some 4), .mov (.t 27)⟩])
  .ret)))
  ntmps := 28
  res := [.tmp 4]

theorem a4_ok : compileFn P Tryd.f4 = some a4 := by kernel_rfl

-- 3 admission/admissionlaw03.PatternMatches
def a3 : AFn where
  code := (.seq (.region false [⟨none, (some 4), .mov (.k (.bool false))⟩])
  (.seq (.seq (.region false [⟨none, (some 5), .mov (.t 1)⟩,
    ⟨none, (some 6), .lenStr (.t 5)⟩,
    ⟨none, (some 7), .bin .gtr (.t 6) (.k (.int .i64 500))⟩,
    ⟨none, (some 8), .mov (.t 7)⟩,
    ⟨(some (8, false)), (some 9), .mov (.t 0)⟩,
    ⟨(some (8, false)), (some 10), .lenStr (.t 9)⟩,
    ⟨(some (8, false)), (some 11), .bin .gtr (.t 10) (.k (.int .i64 500))⟩,
    ⟨none, (some 12), .pick (.t 8) (.k (.bool true)) (.t 11)⟩])
  (.cond (.t 12) (.seq (.region false [⟨none, (some 4), .mov (.k (.bool true))⟩])
  .ret)
  .skip))
  (.seq (.region false [⟨none, (some 13), .call (.k (.fn (.func 13) [] [])) []⟩,
    ⟨none, (some 14), .mov (.t 13)⟩,
    ⟨(some (14, true)), (some 15), .mov (.t 0)⟩,
    ⟨(some (14, true)), (some 16), .mov (.t 1)⟩,
    ⟨(some (14, true)), (some 17), .call (.k (.fn (.func 14) [] [])) [(.t 15), (.t 16)]⟩,
    ⟨(some (14, true)), (some 18), .mov (.t 0)⟩,
    ⟨(some (14, true)), (some 19), .mov (.t 1)⟩,
    ⟨(some (14, true)), (some 20), .call (.k (.fn (.func 15) [] [])) [(.t 18), (.t 19)]⟩,
    ⟨(some (14, true)), (some 21), .eqb false (.t 17) (.t 20)⟩,
    ⟨none, (some 22), .pick (.t 14) (.t 21) (.k (.bool false))⟩,
    ⟨none, (some 4), .mov (.t 22)⟩])
  .ret)))
  ntmps := 23
  res := [.tmp 4]

theorem a3_ok : compileFn P Tryd.f3 = some a3 := by kernel_rfl

-- 5 admission/admissionlaw03.PatternLiterals
def a5 : AFn where
  code := (.seq (.region false [⟨none, (some 4), .mov (.k (.bool false))⟩])
  (.seq (.seq (.region false [⟨none, (some 6), .mov (.t 0)⟩,
    ⟨none, (some 7), .lenStr (.t 6)⟩,
    ⟨none, (some 8), .bin .gtr (.t 7) (.k (.int .i64 500))⟩,
    ⟨none, (some 9), .mov (.t 8)⟩,
    ⟨(some (9, false)), (some 10), .mov (.t 1)⟩,
    ⟨(some (9, false)), (some 11), .lenStr (.t 10)⟩,
    ⟨(some (9, false)), (some 12), .bin .gtr (.t 11) (.k (.int .i64 500))⟩,
    ⟨none, (some 13), .pick (.t 9) (.k (.bool true)) (.t 12)⟩])
  (.cond (.t 13) (.seq (.region false [⟨none, (some 4), .mov (.k (.bool true))⟩])
  .ret)
  .skip))
  (.seq (.region false [⟨none, (some 14), .mov (.t 0)⟩,
    ⟨none, (some 15), .call (.k (.fn (.func 20) [] [])) [(.t 14)]⟩,
    ⟨none, (some 5), .mov (.t 15)⟩])
  (.seq (.seq (.region false [⟨none, (some 16), .mov (.t 5)⟩,
    ⟨none, (some 17), .mov (.t 0)⟩,
    ⟨none, (some 18), .call (.k (.fn (.func 21) [] [])) [(.t 17)]⟩,
    ⟨none, (some 19), .bin .neq (.t 16) (.t 18)⟩])
  (.cond (.t 19) (.seq (.region false [⟨none, (some 4), .mov (.k (.bool false))⟩])
  .ret)
  .skip))
  (.seq (.seq (.region false [⟨none, (some 20), .mov (.t 5)⟩,
    ⟨none, (some 21), .call (.k (.fn (.func 18) [] [])) [(.t 20)]⟩,
    ⟨none, (some 22), .un .not (.t 21)⟩])
  (.cond (.t 22) (.seq (.region false [⟨none, (some 23), .call (.k (.fn (.func 13) [] [])) []⟩,
    ⟨none, (some 24), .mov (.t 23)⟩,
    ⟨(some (24, true)), (some 25), .mov (.t 5)⟩,
    ⟨(some (24, true)), (some 26), .mov (.t 0)⟩,
    ⟨(some (24, true)), (some 27), .call (.k (.fn (.func 14) [] [])) [(.t 25), (.t 26)]⟩,
    ⟨(some (24, true)), (some 28), .un .not (.t 27)⟩,
    ⟨none, (some 29), .pick (.t 24) (.t 28) (.k (.bool false))⟩,
    ⟨none, (some 4), .mov (.t 29)⟩])
  .ret)
  .skip))
  (.seq (.region false [⟨none, (some 30), .call (.k (.fn (.func 13) [] [])) []⟩,
    ⟨none, (some 31), .mov (.t 30)⟩,
    ⟨(some (31, true)), (some 32), .mov (.t 5)⟩,
    ⟨(some (31, true)), (some 33), .mov (.t 0)⟩,
    ⟨(some (31, true)), (some 34), .call (.k (.fn (.func 14) [] [])) [(.t 32), (.t 33)]⟩,
    ⟨none, (some 35), .pick (.t 31) (.t 34) (.k (.bool false))⟩,
    ⟨none, (some 36), .mov (.t 35)⟩,
    ⟨(some (36, true)), (some 37), .mov (.t 5)⟩,
    ⟨(some (36, true)), (some 38), .mov (.t 1)⟩,
    ⟨(some (36, true)), (some 39), .call (.k (.fn (.func 14) [] [])) [(.t 37), (.t 38)]⟩,
    ⟨(some (36, true)), (some 40), .mov (.t 0)⟩,
    ⟨(some (36, true)), (some 41), .mov (.t 1)⟩,
    ⟨(some (36, true)), (some 42), .bin .eql (.t 40) (.t 41)⟩,
    ⟨(some (36, true)), (some 43), .eqb false (.t 39) (.t 42)⟩,
    ⟨none, (some 44), .pick (.t 36) (.t 43) (.k (.bool false))⟩,
    ⟨none, (some 4), .mov (.t 44)⟩])
  .ret))))))
  ntmps := 45
  res := [.tmp 4]

theorem a5_ok : compileFn P Tryd.f5 = some a5 := by kernel_rfl

-- 6 admission/admissionlaw03.PatternRelocates
def a6 : AFn where
  code := (.seq (.region false [⟨none, (some 6), .mov (.k (.bool false))⟩])
  (.seq (.seq (.region false [⟨none, (some 11), .mov (.t 2)⟩,
    ⟨none, (some 12), .lenStr (.t 11)⟩,
    ⟨none, (some 13), .bin .gtr (.t 12) (.k (.int .i64 500))⟩,
    ⟨none, (some 14), .mov (.t 13)⟩,
    ⟨(some (14, false)), (some 15), .mov (.t 0)⟩,
    ⟨(some (14, false)), (some 16), .lenStr (.t 15)⟩,
    ⟨(some (14, false)), (some 17), .bin .gtr (.t 16) (.k (.int .i64 500))⟩,
    ⟨none, (some 18), .pick (.t 14) (.k (.bool true)) (.t 17)⟩,
    ⟨none, (some 19), .mov (.t 18)⟩,
    ⟨(some (19, false)), (some 20), .mov (.t 1)⟩,
    ⟨(some (19, false)), (some 21), .lenStr (.t 20)⟩,
    ⟨(some (19, false)), (some 22), .bin .gtr (.t 21) (.k (.int .i64 500))⟩,
    ⟨none, (some 23), .pick (.t 19) (.k (.bool true)) (.t 22)⟩])
  (.cond (.t 23) (.seq (.region false [⟨none, (some 6), .mov (.k (.bool true))⟩])
  .ret)
  .skip))
  (.seq (.region false [⟨none, (some 25), .mov (.t 0)⟩,
    ⟨none, (some 26), .mov (.t 1)⟩,
    ⟨none, (some 27), .mov (.t 2)⟩,
    ⟨none, (some 28), .call (.k (.fn (.func 22) [] [])) [(.t 25), (.t 26), (.t 27)]⟩,
    ⟨none, (some 24), .mov (.t 28)⟩,
    ⟨none, (some 29), .ext (.t 24) 0⟩,
    ⟨none, (some 30), .ext (.t 24) 1⟩,
    ⟨none, (some 7), .mov (.t 29)⟩,
    ⟨none, (some 8), .mov (.t 30)⟩])
  (.seq (.region false [⟨none, (some 32), .mov (.t 0)⟩,
    ⟨none, (some 33), .mov (.t 1)⟩,
    ⟨none, (some 34), .mov (.t 2)⟩,
    ⟨none, (some 35), .call (.k (.fn (.func 23) [] [])) [(.t 32), (.t 33), (.t 34)]⟩,
    ⟨none, (some 31), .mov (.t 35)⟩,
    ⟨none, (some 36), .ext (.t 31) 0⟩,
    ⟨none, (some 37), .ext (.t 31) 1⟩,
    ⟨none, (some 9), .mov (.t 36)⟩,
    ⟨none, (some 10), .mov (.t 37)⟩])
  (.seq (.region false [⟨none, (some 38), .call (.k (.fn (.func 13) [] [])) []⟩,
    ⟨none, (some 39), .mov (.t 38)⟩,
    ⟨(some (39, true)), (some 40), .mov (.t 7)⟩,
    ⟨(some (39, true)), (some 41), .mov (.t 9)⟩,
    ⟨(some (39, true)), (some 42), .bin .eql (.t 40) (.t 41)⟩,
    ⟨none, (some 43), .pick (.t 39) (.t 42) (.k (.bool false))⟩,
    ⟨none, (some 44), .mov (.t 43)⟩,
    ⟨(some (44, true)), (some 45), .mov (.t 8)⟩,
    ⟨(some (44, true)), (some 46), .mov (.t 10)⟩,
    ⟨(some (44, true)), (some 47), .eqb false (.t 45) (.t 46)⟩,
    ⟨none, (some 48), .pick (.t 44) (.t 47) (.k (.bool false))⟩,
    ⟨none, (some 6), .mov (.t 48)⟩])
  .ret)))))
  ntmps := 49
  res := [.tmp 6]

theorem a6_ok : compileFn P Tryd.f6 = some a6 := by kernel_rfl

end Go.Proofs.YtjjcdmjgbbaliaaDoor
