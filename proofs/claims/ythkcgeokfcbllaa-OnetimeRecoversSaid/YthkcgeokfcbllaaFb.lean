/-
  Functions of this claim, as the abstract machine has them. MADE BY A PROGRAM of mine.
-/
import Derived.Test.YthkcgeokfcbllaaAmU
import Derived.Test.YthkcgeokfcbllaaFa
set_option linter.unusedSimpArgs false
set_option linter.unusedVariables false
namespace Go.Proofs.Ythkcgeokfcbllaa
open Go Go.Am
-- 35 admission/digest.Leaf
def a35 : AFn where
  code := (.seq (.region false [⟨none, (some 2), .alloc (rep 32 (w8 0#8))⟩])
  (.seq (.region false [⟨none, (some 3), .bsl 1 1 [(w8 0#8)] [(0, 1, (.k (w8 0#8)))]⟩,
    ⟨none, (some 4), .mov (.t 0)⟩,
    ⟨none, (some 5), .app 1 1 (.t 3) (.t 4)⟩,
    ⟨none, (some 6), .call (.k (.fn (.func 33) [] [])) [(.t 5)]⟩,
    ⟨none, none, .store 32 (.t 2) (.t 6)⟩])
  .ret))
  ntmps := 7
  res := [.cell 2 32 true]

theorem a35_ok : compileFn P Try.f35 = some a35 := by kernel_rfl

-- 36 admission/admissionref01.Leaf
def a36 : AFn where
  code := (.seq (.region false [⟨none, (some 2), .alloc (rep 32 (w8 0#8))⟩])
  (.seq (.region false [⟨none, (some 3), .bsl 1 1 [(w8 0#8)] [(0, 1, (.k (w8 0#8)))]⟩,
    ⟨none, (some 4), .mov (.t 0)⟩,
    ⟨none, (some 5), .app 1 1 (.t 3) (.t 4)⟩,
    ⟨none, (some 6), .call (.k (.fn (.func 34) [] [])) [(.t 5)]⟩,
    ⟨none, none, .store 32 (.t 2) (.t 6)⟩])
  .ret))
  ntmps := 7
  res := [.cell 2 32 true]

theorem a36_ok : compileFn P Try.f36 = some a36 := by kernel_rfl

-- 37 admission/digest.Node
def a37 : AFn where
  code := (.seq (.region false [⟨none, (some 2), .box (.t 0)⟩,
    ⟨none, (some 3), .box (.t 1)⟩,
    ⟨none, (some 4), .alloc (rep 32 (w8 0#8))⟩])
  (.seq (.region false [⟨none, (some 6), .bsl 1 1 [(w8 0#8)] [(0, 1, (.k (w8 1#8)))]⟩,
    ⟨none, (some 7), .slcA 32 1 (.t 2) none none⟩,
    ⟨none, (some 8), .app 1 1 (.t 6) (.t 7)⟩,
    ⟨none, (some 5), .mov (.t 8)⟩])
  (.seq (.region false [⟨none, (some 9), .mov (.t 5)⟩,
    ⟨none, (some 10), .slcA 32 1 (.t 3) none none⟩,
    ⟨none, (some 11), .app 1 1 (.t 9) (.t 10)⟩,
    ⟨none, (some 12), .call (.k (.fn (.func 33) [] [])) [(.t 11)]⟩,
    ⟨none, none, .store 32 (.t 4) (.t 12)⟩])
  .ret)))
  ntmps := 13
  res := [.cell 4 32 true]

theorem a37_ok : compileFn P Try.f37 = some a37 := by kernel_rfl

-- 38 admission/admissionref01.Node
def a38L0 : ACode :=
  (.seq (.seq (.region false [⟨none, (some 9), .mov (.t 6)⟩,
    ⟨none, (some 10), .bin .lss (.t 9) (.k (.int .i64 32))⟩])
  (.cond (.t 10) .skip
  (.exit 0)))
  (.seq (.block 1 (.region false [⟨none, (some 13), .mov (.t 5)⟩,
    ⟨none, (some 14), .mov (.t 6)⟩,
    ⟨none, (some 15), .idxA 32 1 (.t 2) (.t 14)⟩,
    ⟨none, (some 16), .load 1 false (.t 15)⟩,
    ⟨none, (some 17), .bsl 1 1 [(w8 0#8)] [(0, 1, (.t 16))]⟩,
    ⟨none, (some 18), .app 1 1 (.t 13) (.t 17)⟩,
    ⟨none, (some 5), .mov (.t 18)⟩]))
  (.region false [⟨none, (some 11), .mov (.t 6)⟩,
    ⟨none, (some 12), .bin .add (.t 11) (.k (.int .i64 1))⟩,
    ⟨none, (some 6), .mov (.t 12)⟩])))
/-- 2:a 3:b 4: 5:p 6:i -/
def a38S0 (x2 x3 x4 x5 x6 : DV) (h : List AObj) : St := ⟨[.junk, .junk, x2, x3, x4, x5, x6] ++ js 24, h⟩

def a38L1 : ACode :=
  (.seq (.seq (.region false [⟨none, (some 19), .mov (.t 7)⟩,
    ⟨none, (some 20), .bin .lss (.t 19) (.k (.int .i64 32))⟩])
  (.cond (.t 20) .skip
  (.exit 2)))
  (.seq (.block 3 (.region false [⟨none, (some 23), .mov (.t 5)⟩,
    ⟨none, (some 24), .mov (.t 7)⟩,
    ⟨none, (some 25), .idxA 32 1 (.t 3) (.t 24)⟩,
    ⟨none, (some 26), .load 1 false (.t 25)⟩,
    ⟨none, (some 27), .bsl 1 1 [(w8 0#8)] [(0, 1, (.t 26))]⟩,
    ⟨none, (some 28), .app 1 1 (.t 23) (.t 27)⟩,
    ⟨none, (some 5), .mov (.t 28)⟩]))
  (.region false [⟨none, (some 21), .mov (.t 7)⟩,
    ⟨none, (some 22), .bin .add (.t 21) (.k (.int .i64 1))⟩,
    ⟨none, (some 7), .mov (.t 22)⟩])))
/-- 3:b 4: 5:p 7:i -/
def a38S1 (x3 x4 x5 x7 : DV) (h : List AObj) : St := ⟨[.junk, .junk, .junk, x3, x4, x5, .junk, x7] ++ js 23, h⟩

def a38 : AFn where
  code := (.seq (.region false [⟨none, (some 2), .box (.t 0)⟩,
    ⟨none, (some 3), .box (.t 1)⟩,
    ⟨none, (some 4), .alloc (rep 32 (w8 0#8))⟩])
  (.seq (.region false [⟨none, (some 8), .bsl 1 1 [(w8 0#8)] [(0, 1, (.k (w8 1#8)))]⟩,
    ⟨none, (some 5), .mov (.t 8)⟩])
  (.seq (.seq (.region false [⟨none, (some 6), .mov (.k (.int .i64 0))⟩])
  (.block 0 (.loop a38L0)))
  (.seq (.seq (.region false [⟨none, (some 7), .mov (.k (.int .i64 0))⟩])
  (.block 2 (.loop a38L1)))
  (.seq (.region false [⟨none, (some 29), .mov (.t 5)⟩,
    ⟨none, (some 30), .call (.k (.fn (.func 34) [] [])) [(.t 29)]⟩,
    ⟨none, none, .store 32 (.t 4) (.t 30)⟩])
  .ret)))))
  ntmps := 31
  res := [.cell 4 32 true]

theorem a38_ok : compileFn P Try.f38 = some a38 := by kernel_rfl

-- 10 admission/admissionlaw01.DigestNodes
def a10 : AFn where
  code := (.seq (.region false [⟨none, (some 4), .box (.t 1)⟩,
    ⟨none, (some 5), .box (.t 2)⟩,
    ⟨none, (some 6), .mov (.k (.bool false))⟩])
  (.seq (.seq (.region false [⟨none, (some 7), .mov (.t 0)⟩,
    ⟨none, (some 8), .len (.t 7)⟩,
    ⟨none, (some 9), .bin .gtr (.t 8) (.k (.int .i64 5000))⟩])
  (.cond (.t 9) (.seq (.region false [⟨none, (some 6), .mov (.k (.bool true))⟩])
  .ret)
  .skip))
  (.seq (.region true [⟨none, (some 10), .call (.k (.fn (.func 32) [] [])) []⟩,
    ⟨none, (some 11), .mov (.t 10)⟩,
    ⟨(some (11, true)), (some 12), .mov (.t 0)⟩,
    ⟨(some (11, true)), (some 13), .call (.k (.fn (.func 35) [] [])) [(.t 12)]⟩,
    ⟨(some (11, true)), (some 14), .mov (.t 0)⟩,
    ⟨(some (11, true)), (some 15), .call (.k (.fn (.func 36) [] [])) [(.t 14)]⟩,
    ⟨(some (11, true)), (some 16), .eqa false [(32, 0)] (.t 13) (.t 15)⟩,
    ⟨none, (some 17), .pick (.t 11) (.t 16) (.k (.bool false))⟩,
    ⟨none, (some 18), .mov (.t 17)⟩,
    ⟨(some (18, true)), (some 19), .load 32 true (.t 4)⟩,
    ⟨(some (18, true)), (some 20), .load 32 true (.t 5)⟩,
    ⟨(some (18, true)), (some 21), .call (.k (.fn (.func 37) [] [])) [(.t 19), (.t 20)]⟩,
    ⟨(some (18, true)), (some 22), .load 32 true (.t 4)⟩,
    ⟨(some (18, true)), (some 23), .load 32 true (.t 5)⟩,
    ⟨(some (18, true)), (some 24), .call (.k (.fn (.func 38) [] [])) [(.t 22), (.t 23)]⟩,
    ⟨(some (18, true)), (some 25), .eqa false [(32, 0)] (.t 21) (.t 24)⟩,
    ⟨none, (some 26), .pick (.t 18) (.t 25) (.k (.bool false))⟩,
    ⟨none, (some 6), .mov (.t 26)⟩])
  .ret)))
  ntmps := 27
  res := [.tmp 6]

theorem a10_ok : compileFn P Try.f10 = some a10 := by kernel_rfl

-- 39 admission/digest.Half
def a39L0 : ACode :=
  (.seq (.region false [⟨none, (some 11), .bin .lss (.t 10) (.t 9)⟩])
  (.seq (.cond (.t 11) .skip
  (.exit 0))
  (.seq (.block 1 (.seq (.region false [⟨none, (some 12), .idxS 1 (.t 8) (.t 10)⟩,
    ⟨none, (some 13), .load 1 false (.t 12)⟩,
    ⟨none, (some 5), .mov (.t 13)⟩])
  (.region false [⟨none, (some 14), .mov (.t 3)⟩,
    ⟨none, (some 15), .mov (.t 5)⟩,
    ⟨none, (some 16), .app 1 1 (.t 14) (.t 15)⟩,
    ⟨none, (some 3), .mov (.t 16)⟩])))
  (.region false [⟨none, (some 17), .bin .add (.t 10) (.k (.int .i64 1))⟩,
    ⟨none, (some 10), .mov (.t 17)⟩]))))
/-- 2: 3:all 8: 9: 10: -/
def a39S0 (x2 x3 x8 x9 x10 : DV) (h : List AObj) : St := ⟨[.junk, .junk, x2, x3] ++ js 4 ++ [x8, x9, x10] ++ js 13, h⟩

def a39 : AFn where
  code := (.seq (.region false [⟨none, (some 2), .alloc (rep 16 (w8 0#8))⟩])
  (.seq (.region false [⟨none, (some 3), .mov (.k .nils)⟩])
  (.seq (.seq (.region false [⟨none, (some 8), .mov (.t 0)⟩,
    ⟨none, (some 9), .len (.t 8)⟩,
    ⟨none, (some 10), .mov (.k (.int .i64 0))⟩])
  (.block 0 (.loop a39L0)))
  (.seq (.region false [⟨none, (some 18), .mov (.t 3)⟩,
    ⟨none, (some 19), .call (.k (.fn (.func 33) [] [])) [(.t 18)]⟩,
    ⟨none, (some 6), .alloc (rep 32 (w8 0#8))⟩,
    ⟨none, none, .store 32 (.t 6) (.t 19)⟩])
  (.seq (.region false [⟨none, (some 7), .alloc (rep 16 (w8 0#8))⟩])
  (.seq (.region true [⟨none, (some 20), .slcA 16 1 (.t 7) none none⟩,
    ⟨none, (some 21), .slcA 32 1 (.t 6) none none⟩,
    ⟨none, (some 22), .cpy 1 (.t 20) (.t 21)⟩])
  (.seq (.region false [⟨none, (some 23), .load 16 true (.t 7)⟩,
    ⟨none, none, .store 16 (.t 2) (.t 23)⟩])
  .ret)))))))
  ntmps := 24
  res := [.cell 2 16 true]

theorem a39_ok : compileFn P Try.f39 = some a39 := by kernel_rfl

-- 52 admission/admissionref01.Half
def a52L0 : ACode :=
  (.seq (.seq (.region false [⟨none, (some 8), .mov (.t 4)⟩,
    ⟨none, (some 9), .mov (.t 0)⟩,
    ⟨none, (some 10), .len (.t 9)⟩,
    ⟨none, (some 11), .bin .lss (.t 8) (.t 10)⟩])
  (.cond (.t 11) .skip
  (.exit 0)))
  (.seq (.block 1 (.region false [⟨none, (some 14), .mov (.t 3)⟩,
    ⟨none, (some 15), .mov (.t 0)⟩,
    ⟨none, (some 16), .mov (.t 4)⟩,
    ⟨none, (some 17), .idxS 1 (.t 15) (.t 16)⟩,
    ⟨none, (some 18), .load 1 false (.t 17)⟩,
    ⟨none, (some 19), .app 1 1 (.t 14) (.t 18)⟩,
    ⟨none, (some 3), .mov (.t 19)⟩]))
  (.region false [⟨none, (some 12), .mov (.t 4)⟩,
    ⟨none, (some 13), .bin .add (.t 12) (.k (.int .i64 1))⟩,
    ⟨none, (some 4), .mov (.t 13)⟩])))
/-- 0:parts 2: 3:all 4:i -/
def a52S0 (x0 x2 x3 x4 : DV) (h : List AObj) : St := ⟨[x0, .junk, x2, x3, x4] ++ js 27, h⟩

def a52L1 : ACode :=
  (.seq (.seq (.region false [⟨none, (some 22), .mov (.t 7)⟩,
    ⟨none, (some 23), .bin .lss (.t 22) (.k (.int .i64 16))⟩])
  (.cond (.t 23) .skip
  (.exit 2)))
  (.seq (.block 3 (.region false [⟨none, (some 26), .mov (.t 7)⟩,
    ⟨none, (some 27), .mov (.t 7)⟩,
    ⟨none, (some 28), .idxA 32 1 (.t 5) (.t 27)⟩,
    ⟨none, (some 29), .load 1 false (.t 28)⟩,
    ⟨none, (some 30), .idxA 16 1 (.t 6) (.t 26)⟩,
    ⟨none, none, .store 1 (.t 30) (.t 29)⟩]))
  (.region false [⟨none, (some 24), .mov (.t 7)⟩,
    ⟨none, (some 25), .bin .add (.t 24) (.k (.int .i64 1))⟩,
    ⟨none, (some 7), .mov (.t 25)⟩])))
/-- 2: 5:d 6:h 7:i -/
def a52S1 (x2 x5 x6 x7 : DV) (h : List AObj) : St := ⟨[.junk, .junk, x2, .junk, .junk, x5, x6, x7] ++ js 24, h⟩

def a52 : AFn where
  code := (.seq (.region false [⟨none, (some 2), .alloc (rep 16 (w8 0#8))⟩])
  (.seq (.region false [⟨none, (some 3), .mov (.k .nils)⟩])
  (.seq (.seq (.region false [⟨none, (some 4), .mov (.k (.int .i64 0))⟩])
  (.block 0 (.loop a52L0)))
  (.seq (.region false [⟨none, (some 20), .mov (.t 3)⟩,
    ⟨none, (some 21), .call (.k (.fn (.func 34) [] [])) [(.t 20)]⟩,
    ⟨none, (some 5), .alloc (rep 32 (w8 0#8))⟩,
    ⟨none, none, .store 32 (.t 5) (.t 21)⟩])
  (.seq (.region false [⟨none, (some 6), .alloc (rep 16 (w8 0#8))⟩])
  (.seq (.seq (.region false [⟨none, (some 7), .mov (.k (.int .i64 0))⟩])
  (.block 2 (.loop a52L1)))
  (.seq (.region false [⟨none, (some 31), .load 16 true (.t 6)⟩,
    ⟨none, none, .store 16 (.t 2) (.t 31)⟩])
  .ret)))))))
  ntmps := 32
  res := [.cell 2 16 true]

theorem a52_ok : compileFn P Try.f52 = some a52 := by kernel_rfl

-- 11 admission/admissionlaw01.DigestHalves
def a11L0 : ACode :=
  (.seq (.seq (.region false [⟨none, (some 11), .mov (.t 4)⟩,
    ⟨none, (some 12), .mov (.t 0)⟩,
    ⟨none, (some 13), .len (.t 12)⟩,
    ⟨none, (some 14), .bin .lss (.t 11) (.t 13)⟩])
  (.cond (.t 14) .skip
  (.exit 0)))
  (.seq (.block 1 (.seq (.seq (.region false [⟨none, (some 17), .mov (.t 0)⟩,
    ⟨none, (some 18), .mov (.t 4)⟩,
    ⟨none, (some 19), .idxS 1 (.t 17) (.t 18)⟩,
    ⟨none, (some 20), .load 1 false (.t 19)⟩,
    ⟨none, (some 21), .len (.t 20)⟩,
    ⟨none, (some 22), .bin .gtr (.t 21) (.k (.int .i64 1000))⟩])
  (.cond (.t 22) (.seq (.region false [⟨none, (some 2), .mov (.k (.bool true))⟩])
  .ret)
  .skip))
  (.region false [⟨none, (some 23), .mov (.t 3)⟩,
    ⟨none, (some 24), .mov (.t 0)⟩,
    ⟨none, (some 25), .mov (.t 4)⟩,
    ⟨none, (some 26), .idxS 1 (.t 24) (.t 25)⟩,
    ⟨none, (some 27), .load 1 false (.t 26)⟩,
    ⟨none, (some 28), .app 1 1 (.t 23) (.t 27)⟩,
    ⟨none, (some 3), .mov (.t 28)⟩])))
  (.region false [⟨none, (some 15), .mov (.t 4)⟩,
    ⟨none, (some 16), .bin .add (.t 15) (.k (.int .i64 1))⟩,
    ⟨none, (some 4), .mov (.t 16)⟩])))
/-- 0:parts 3:all 4:i -/
def a11S0 (x0 x3 x4 : DV) (h : List AObj) : St := ⟨[x0, .junk, .junk, x3, x4] ++ js 47, h⟩

def a11L1 : ACode :=
  (.seq (.seq (.region false [⟨none, (some 33), .mov (.t 7)⟩,
    ⟨none, (some 34), .bin .lss (.t 33) (.k (.int .i64 16))⟩])
  (.cond (.t 34) .skip
  (.exit 2)))
  (.seq (.block 3 (.seq (.region true [⟨none, (some 37), .mov (.t 7)⟩,
    ⟨none, (some 38), .idxA 16 1 (.t 5) (.t 37)⟩,
    ⟨none, (some 39), .load 1 false (.t 38)⟩,
    ⟨none, (some 40), .mov (.t 7)⟩,
    ⟨none, (some 41), .idxA 32 1 (.t 6) (.t 40)⟩,
    ⟨none, (some 42), .load 1 false (.t 41)⟩,
    ⟨none, (some 43), .bin .neq (.t 39) (.t 42)⟩])
  (.cond (.t 43) (.seq (.region false [⟨none, (some 2), .mov (.k (.bool false))⟩])
  .ret)
  .skip)))
  (.region false [⟨none, (some 35), .mov (.t 7)⟩,
    ⟨none, (some 36), .bin .add (.t 35) (.k (.int .i64 1))⟩,
    ⟨none, (some 7), .mov (.t 36)⟩])))
/-- 3:all 5:h 6:d 7:i -/
def a11S1 (x3 x5 x6 x7 : DV) (h : List AObj) : St := ⟨[.junk, .junk, .junk, x3, .junk, x5, x6, x7] ++ js 44, h⟩

def a11 : AFn where
  code := (.seq (.region false [⟨none, (some 2), .mov (.k (.bool false))⟩])
  (.seq (.seq (.region false [⟨none, (some 8), .mov (.t 0)⟩,
    ⟨none, (some 9), .len (.t 8)⟩,
    ⟨none, (some 10), .bin .gtr (.t 9) (.k (.int .i64 50))⟩])
  (.cond (.t 10) (.seq (.region false [⟨none, (some 2), .mov (.k (.bool true))⟩])
  .ret)
  .skip))
  (.seq (.region false [⟨none, (some 3), .mov (.k .nils)⟩])
  (.seq (.seq (.region false [⟨none, (some 4), .mov (.k (.int .i64 0))⟩])
  (.block 0 (.loop a11L0)))
  (.seq (.region false [⟨none, (some 29), .mov (.t 0)⟩,
    ⟨none, (some 30), .call (.k (.fn (.func 39) [] [])) [(.t 29)]⟩,
    ⟨none, (some 31), .mov (.t 3)⟩,
    ⟨none, (some 32), .call (.k (.fn (.func 33) [] [])) [(.t 31)]⟩,
    ⟨none, (some 5), .alloc (rep 16 (w8 0#8))⟩,
    ⟨none, (some 6), .alloc (rep 32 (w8 0#8))⟩,
    ⟨none, none, .store 16 (.t 5) (.t 30)⟩,
    ⟨none, none, .store 32 (.t 6) (.t 32)⟩])
  (.seq (.seq (.region false [⟨none, (some 7), .mov (.k (.int .i64 0))⟩])
  (.block 2 (.loop a11L1)))
  (.seq (.region true [⟨none, (some 44), .call (.k (.fn (.func 32) [] [])) []⟩,
    ⟨none, (some 45), .mov (.t 44)⟩,
    ⟨(some (45, true)), (some 46), .load 16 true (.t 5)⟩,
    ⟨(some (45, true)), (some 47), .mov (.t 3)⟩,
    ⟨(some (45, true)), (some 48), .bsl 1 1 [.nils] [(0, 1, (.t 47))]⟩,
    ⟨(some (45, true)), (some 49), .call (.k (.fn (.func 39) [] [])) [(.t 48)]⟩,
    ⟨(some (45, true)), (some 50), .eqa false [(16, 0)] (.t 46) (.t 49)⟩,
    ⟨none, (some 51), .pick (.t 45) (.t 50) (.k (.bool false))⟩,
    ⟨none, (some 2), .mov (.t 51)⟩])
  .ret)))))))
  ntmps := 52
  res := [.tmp 2]

theorem a11_ok : compileFn P Try.f11 = some a11 := by kernel_rfl

end Go.Proofs.Ythkcgeokfcbllaa
