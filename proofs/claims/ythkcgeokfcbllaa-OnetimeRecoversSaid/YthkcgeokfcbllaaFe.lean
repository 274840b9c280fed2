/-
  Functions of this claim, as the abstract machine has them. MADE BY A PROGRAM of mine.
-/
import Derived.Test.YthkcgeokfcbllaaAmW
import Derived.Test.YthkcgeokfcbllaaFd
import Derived.Test.YthkcgeokfcbllaaFb
set_option linter.unusedSimpArgs false
set_option linter.unusedVariables false
namespace Go.Proofs.Ythkcgeokfcbllaa
open Go Go.Am
-- 51 admission/onetime.two
def a51 : AFn where
  code := (.seq (.region false [⟨none, (some 2), .mov (.k .nils)⟩])
  (.seq (.region false [⟨none, (some 3), .mov (.t 0)⟩,
    ⟨none, (some 4), .bin .shr (.t 3) (.k (w64 8#64))⟩,
    ⟨none, (some 5), .conv .u8 (.t 4)⟩,
    ⟨none, (some 6), .mov (.t 0)⟩,
    ⟨none, (some 7), .conv .u8 (.t 6)⟩,
    ⟨none, (some 8), .bsl 1 2 [(w8 0#8)] [(0, 1, (.t 5)), (1, 1, (.t 7))]⟩,
    ⟨none, (some 2), .mov (.t 8)⟩])
  .ret))
  ntmps := 9
  res := [.tmp 2]

theorem a51_ok : compileFn P Try.f51 = some a51 := by kernel_rfl

-- 20 admission/onetime.Secret
def a20 : AFn where
  code := (.seq (.region false [⟨none, (some 3), .box (.t 0)⟩,
    ⟨none, (some 6), .alloc (rep 16 (w8 0#8))⟩])
  (.seq (.region true [⟨none, (some 7), .bsl 1 1 [(w8 0#8)] [(0, 1, (.k (w8 3#8)))]⟩,
    ⟨none, (some 8), .slcA 16 1 (.t 3) none none⟩,
    ⟨none, (some 9), .mov (.t 1)⟩,
    ⟨none, (some 10), .call (.k (.fn (.func 51) [] [])) [(.t 9)]⟩,
    ⟨none, (some 11), .mov (.t 2)⟩,
    ⟨none, (some 12), .conv .u8 (.t 11)⟩,
    ⟨none, (some 13), .bsl 1 1 [(w8 0#8)] [(0, 1, (.t 12))]⟩,
    ⟨none, (some 14), .bsl 1 4 [.nils] [(0, 1, (.t 7)), (1, 1, (.t 8)), (2, 1, (.t 10)), (3, 1, (.t 13))]⟩,
    ⟨none, (some 15), .call (.k (.fn (.func 39) [] [])) [(.t 14)]⟩,
    ⟨none, none, .store 16 (.t 6) (.t 15)⟩])
  .ret))
  ntmps := 16
  res := [.cell 6 16 true]

theorem a20_ok : compileFn P Try.f20 = some a20 := by kernel_rfl

-- 21 admission/admissionref08.Secret
def a21 : AFn where
  code := (.seq (.region false [⟨none, (some 3), .box (.t 0)⟩,
    ⟨none, (some 6), .alloc (rep 16 (w8 0#8))⟩])
  (.seq (.region false [⟨none, (some 7), .bsl 1 1 [(w8 0#8)] [(0, 1, (.k (w8 3#8)))]⟩,
    ⟨none, (some 8), .slcA 16 1 (.t 3) none none⟩,
    ⟨none, (some 9), .mov (.t 1)⟩,
    ⟨none, (some 10), .bin .shr (.t 9) (.k (w64 8#64))⟩,
    ⟨none, (some 11), .conv .u8 (.t 10)⟩,
    ⟨none, (some 12), .mov (.t 1)⟩,
    ⟨none, (some 13), .conv .u8 (.t 12)⟩,
    ⟨none, (some 14), .mov (.t 2)⟩,
    ⟨none, (some 15), .conv .u8 (.t 14)⟩,
    ⟨none, (some 16), .bsl 1 3 [(w8 0#8)] [(0, 1, (.t 11)), (1, 1, (.t 13)), (2, 1, (.t 15))]⟩,
    ⟨none, (some 17), .bsl 1 3 [.nils] [(0, 1, (.t 7)), (1, 1, (.t 8)), (2, 1, (.t 16))]⟩,
    ⟨none, (some 18), .call (.k (.fn (.func 52) [] [])) [(.t 17)]⟩,
    ⟨none, none, .store 16 (.t 6) (.t 18)⟩])
  .ret))
  ntmps := 19
  res := [.cell 6 16 true]

theorem a21_ok : compileFn P Try.f21 = some a21 := by kernel_rfl

-- 19 admission/onetime.Climb
def a19L0 : ACode :=
  (.seq (.seq (.region false [⟨none, (some 20), .mov (.t 11)⟩,
    ⟨none, (some 21), .mov (.t 4)⟩,
    ⟨none, (some 22), .bin .lss (.t 20) (.t 21)⟩])
  (.cond (.t 22) .skip
  (.exit 0)))
  (.seq (.block 1 (.region true [⟨none, (some 25), .bsl 1 1 [(w8 0#8)] [(0, 1, (.k (w8 4#8)))]⟩,
    ⟨none, (some 26), .slcA 16 1 (.t 5) none none⟩,
    ⟨none, (some 27), .mov (.t 1)⟩,
    ⟨none, (some 28), .call (.k (.fn (.func 51) [] [])) [(.t 27)]⟩,
    ⟨none, (some 29), .mov (.t 2)⟩,
    ⟨none, (some 30), .conv .u8 (.t 29)⟩,
    ⟨none, (some 31), .mov (.t 11)⟩,
    ⟨none, (some 32), .conv .u8 (.t 31)⟩,
    ⟨none, (some 33), .bsl 1 2 [(w8 0#8)] [(0, 1, (.t 30)), (1, 1, (.t 32))]⟩,
    ⟨none, (some 34), .bsl 1 4 [.nils] [(0, 1, (.t 25)), (1, 1, (.t 26)), (2, 1, (.t 28)), (3, 1, (.t 33))]⟩,
    ⟨none, (some 35), .call (.k (.fn (.func 39) [] [])) [(.t 34)]⟩,
    ⟨none, none, .store 16 (.t 5) (.t 35)⟩]))
  (.region false [⟨none, (some 23), .mov (.t 11)⟩,
    ⟨none, (some 24), .bin .add (.t 23) (.k (.int .i64 1))⟩,
    ⟨none, (some 11), .mov (.t 24)⟩])))
/-- 1:leaf 2:chain 4:to 5:x 10: 11:at -/
def a19S0 (x1 x2 x4 x5 x10 x11 : DV) (h : List AObj) : St := ⟨[.junk, x1, x2, .junk, x4, x5] ++ js 4 ++ [x10, x11] ++ js 25, h⟩

def a19 : AFn where
  code := (.seq (.region false [⟨none, (some 5), .box (.t 0)⟩,
    ⟨none, (some 10), .alloc (rep 16 (w8 0#8))⟩])
  (.seq (.seq (.region false [⟨none, (some 12), .mov (.t 3)⟩,
    ⟨none, (some 13), .bin .lss (.t 12) (.k (.int .i64 0))⟩,
    ⟨none, (some 14), .mov (.t 13)⟩,
    ⟨(some (14, false)), (some 15), .mov (.t 4)⟩,
    ⟨(some (14, false)), (some 16), .bin .gtr (.t 15) (.k (.int .i64 3))⟩,
    ⟨none, (some 17), .pick (.t 14) (.k (.bool true)) (.t 16)⟩])
  (.cond (.t 17) (.seq (.region false [⟨none, (some 18), .load 16 true (.t 5)⟩,
    ⟨none, none, .store 16 (.t 10) (.t 18)⟩])
  .ret)
  .skip))
  (.seq (.seq (.region false [⟨none, (some 19), .mov (.t 3)⟩,
    ⟨none, (some 11), .mov (.t 19)⟩])
  (.block 0 (.loop a19L0)))
  (.seq (.region false [⟨none, (some 36), .load 16 true (.t 5)⟩,
    ⟨none, none, .store 16 (.t 10) (.t 36)⟩])
  .ret))))
  ntmps := 37
  res := [.cell 10 16 true]

theorem a19_ok : compileFn P Try.f19 = some a19 := by kernel_rfl

-- 22 admission/admissionref08.Climb
def a22L0 : ACode :=
  (.seq (.seq (.region false [⟨none, (some 20), .mov (.t 11)⟩,
    ⟨none, (some 21), .mov (.t 4)⟩,
    ⟨none, (some 22), .bin .lss (.t 20) (.t 21)⟩])
  (.cond (.t 22) .skip
  (.exit 0)))
  (.seq (.block 1 (.region false [⟨none, (some 25), .bsl 1 1 [(w8 0#8)] [(0, 1, (.k (w8 4#8)))]⟩,
    ⟨none, (some 26), .slcA 16 1 (.t 5) none none⟩,
    ⟨none, (some 27), .mov (.t 1)⟩,
    ⟨none, (some 28), .bin .shr (.t 27) (.k (w64 8#64))⟩,
    ⟨none, (some 29), .conv .u8 (.t 28)⟩,
    ⟨none, (some 30), .mov (.t 1)⟩,
    ⟨none, (some 31), .conv .u8 (.t 30)⟩,
    ⟨none, (some 32), .mov (.t 2)⟩,
    ⟨none, (some 33), .conv .u8 (.t 32)⟩,
    ⟨none, (some 34), .mov (.t 11)⟩,
    ⟨none, (some 35), .conv .u8 (.t 34)⟩,
    ⟨none, (some 36), .bsl 1 4 [(w8 0#8)] [(0, 1, (.t 29)), (1, 1, (.t 31)), (2, 1, (.t 33)), (3, 1, (.t 35))]⟩,
    ⟨none, (some 37), .bsl 1 3 [.nils] [(0, 1, (.t 25)), (1, 1, (.t 26)), (2, 1, (.t 36))]⟩,
    ⟨none, (some 38), .call (.k (.fn (.func 52) [] [])) [(.t 37)]⟩,
    ⟨none, none, .store 16 (.t 5) (.t 38)⟩]))
  (.region false [⟨none, (some 23), .mov (.t 11)⟩,
    ⟨none, (some 24), .bin .add (.t 23) (.k (.int .i64 1))⟩,
    ⟨none, (some 11), .mov (.t 24)⟩])))
/-- 1:leaf 2:chain 4:to 5:x 10: 11:i -/
def a22S0 (x1 x2 x4 x5 x10 x11 : DV) (h : List AObj) : St := ⟨[.junk, x1, x2, .junk, x4, x5] ++ js 4 ++ [x10, x11] ++ js 28, h⟩

def a22 : AFn where
  code := (.seq (.region false [⟨none, (some 5), .box (.t 0)⟩,
    ⟨none, (some 10), .alloc (rep 16 (w8 0#8))⟩])
  (.seq (.seq (.region false [⟨none, (some 12), .mov (.t 3)⟩,
    ⟨none, (some 13), .bin .lss (.t 12) (.k (.int .i64 0))⟩,
    ⟨none, (some 14), .mov (.t 13)⟩,
    ⟨(some (14, false)), (some 15), .mov (.t 4)⟩,
    ⟨(some (14, false)), (some 16), .bin .gtr (.t 15) (.k (.int .i64 3))⟩,
    ⟨none, (some 17), .pick (.t 14) (.k (.bool true)) (.t 16)⟩])
  (.cond (.t 17) (.seq (.region false [⟨none, (some 18), .load 16 true (.t 5)⟩,
    ⟨none, none, .store 16 (.t 10) (.t 18)⟩])
  .ret)
  .skip))
  (.seq (.seq (.region false [⟨none, (some 19), .mov (.t 3)⟩,
    ⟨none, (some 11), .mov (.t 19)⟩])
  (.block 0 (.loop a22L0)))
  (.seq (.region false [⟨none, (some 39), .load 16 true (.t 5)⟩,
    ⟨none, none, .store 16 (.t 10) (.t 39)⟩])
  .ret))))
  ntmps := 40
  res := [.cell 10 16 true]

theorem a22_ok : compileFn P Try.f22 = some a22 := by kernel_rfl

-- 23 admission/onetime.Combine
def a23L0 : ACode :=
  (.seq (.region false [⟨none, (some 15), .bin .lss (.t 14) (.t 13)⟩])
  (.seq (.cond (.t 15) .skip
  (.exit 0))
  (.seq (.block 1 (.seq (.region false [⟨none, (some 16), .idxS 16 (.t 12) (.t 14)⟩,
    ⟨none, (some 17), .load 16 true (.t 16)⟩,
    ⟨none, (some 7), .alloc (rep 16 (w8 0#8))⟩,
    ⟨none, none, .store 16 (.t 7) (.t 17)⟩])
  (.region false [⟨none, (some 18), .mov (.t 5)⟩,
    ⟨none, (some 19), .slcA 16 1 (.t 7) none none⟩,
    ⟨none, (some 20), .app 1 1 (.t 18) (.t 19)⟩,
    ⟨none, (some 5), .mov (.t 20)⟩])))
  (.region false [⟨none, (some 21), .bin .add (.t 14) (.k (.int .i64 1))⟩,
    ⟨none, (some 14), .mov (.t 21)⟩]))))
/-- 4: 5:all 12: 13: 14: -/
def a23S0 (x4 x5 x12 x13 x14 : DV) (h : List AObj) : St := ⟨js 4 ++ [x4, x5] ++ js 6 ++ [x12, x13, x14] ++ js 10, h⟩

def a23 : AFn where
  code := (.seq (.region false [⟨none, (some 4), .alloc (rep 16 (w8 0#8))⟩])
  (.seq (.region false [⟨none, (some 8), .bsl 1 1 [(w8 0#8)] [(0, 1, (.k (w8 5#8)))]⟩,
    ⟨none, (some 9), .mov (.t 0)⟩,
    ⟨none, (some 10), .call (.k (.fn (.func 51) [] [])) [(.t 9)]⟩,
    ⟨none, (some 11), .app 1 1 (.t 8) (.t 10)⟩,
    ⟨none, (some 5), .mov (.t 11)⟩])
  (.seq (.seq (.region false [⟨none, (some 12), .mov (.t 1)⟩,
    ⟨none, (some 13), .len (.t 12)⟩,
    ⟨none, (some 14), .mov (.k (.int .i64 0))⟩])
  (.block 0 (.loop a23L0)))
  (.seq (.region false [⟨none, (some 22), .mov (.t 5)⟩,
    ⟨none, (some 23), .bsl 1 1 [.nils] [(0, 1, (.t 22))]⟩,
    ⟨none, (some 24), .call (.k (.fn (.func 39) [] [])) [(.t 23)]⟩,
    ⟨none, none, .store 16 (.t 4) (.t 24)⟩])
  .ret))))
  ntmps := 25
  res := [.cell 4 16 true]

theorem a23_ok : compileFn P Try.f23 = some a23 := by kernel_rfl

-- 24 admission/admissionref08.Combine
def a24L0 : ACode :=
  (.seq (.seq (.region false [⟨none, (some 14), .mov (.t 6)⟩,
    ⟨none, (some 15), .mov (.t 1)⟩,
    ⟨none, (some 16), .len (.t 15)⟩,
    ⟨none, (some 17), .bin .lss (.t 14) (.t 16)⟩])
  (.cond (.t 17) .skip
  (.exit 0)))
  (.seq (.block 1 (.region false [⟨none, (some 20), .mov (.t 5)⟩,
    ⟨none, (some 21), .bsl 1 0 [(w8 0#8)] []⟩,
    ⟨none, (some 22), .mov (.t 1)⟩,
    ⟨none, (some 23), .mov (.t 6)⟩,
    ⟨none, (some 24), .idxS 16 (.t 22) (.t 23)⟩,
    ⟨none, (some 25), .slcA 16 1 (.t 24) none none⟩,
    ⟨none, (some 26), .app 1 1 (.t 21) (.t 25)⟩,
    ⟨none, (some 27), .bsl 1 1 [.nils] [(0, 1, (.t 26))]⟩,
    ⟨none, (some 28), .app 1 24 (.t 20) (.t 27)⟩,
    ⟨none, (some 5), .mov (.t 28)⟩]))
  (.region false [⟨none, (some 18), .mov (.t 6)⟩,
    ⟨none, (some 19), .bin .add (.t 18) (.k (.int .i64 1))⟩,
    ⟨none, (some 6), .mov (.t 19)⟩])))
/-- 1:ends 4: 5:parts 6:i -/
def a24S0 (x1 x4 x5 x6 : DV) (h : List AObj) : St := ⟨[.junk, x1, .junk, .junk, x4, x5, x6] ++ js 24, h⟩

def a24 : AFn where
  code := (.seq (.region false [⟨none, (some 4), .alloc (rep 16 (w8 0#8))⟩])
  (.seq (.region false [⟨none, (some 7), .mov (.t 0)⟩,
    ⟨none, (some 8), .bin .shr (.t 7) (.k (w64 8#64))⟩,
    ⟨none, (some 9), .conv .u8 (.t 8)⟩,
    ⟨none, (some 10), .mov (.t 0)⟩,
    ⟨none, (some 11), .conv .u8 (.t 10)⟩,
    ⟨none, (some 12), .bsl 1 3 [(w8 0#8)] [(0, 1, (.k (w8 5#8))), (1, 1, (.t 9)), (2, 1, (.t 11))]⟩,
    ⟨none, (some 13), .bsl 1 1 [.nils] [(0, 1, (.t 12))]⟩,
    ⟨none, (some 5), .mov (.t 13)⟩])
  (.seq (.seq (.region false [⟨none, (some 6), .mov (.k (.int .i64 0))⟩])
  (.block 0 (.loop a24L0)))
  (.seq (.region false [⟨none, (some 29), .mov (.t 5)⟩,
    ⟨none, (some 30), .call (.k (.fn (.func 52) [] [])) [(.t 29)]⟩,
    ⟨none, none, .store 16 (.t 4) (.t 30)⟩])
  .ret))))
  ntmps := 31
  res := [.cell 4 16 true]

theorem a24_ok : compileFn P Try.f24 = some a24 := by kernel_rfl

-- 27 admission/onetime.Public
def a27L0 : ACode :=
  (.seq (.region false [⟨none, (some 8), .bin .lss (.t 7) (.k (.int .i64 68))⟩])
  (.seq (.cond (.t 8) .skip
  (.exit 0))
  (.seq (.block 1 (.seq (.region false [⟨none, (some 9), .mov (.t 7)⟩,
    ⟨none, (some 6), .mov (.t 9)⟩])
  (.region false [⟨none, (some 10), .mov (.t 5)⟩,
    ⟨none, (some 11), .load 16 true (.t 2)⟩,
    ⟨none, (some 12), .mov (.t 1)⟩,
    ⟨none, (some 13), .mov (.t 6)⟩,
    ⟨none, (some 14), .call (.k (.fn (.func 20) [] [])) [(.t 11), (.t 12), (.t 13)]⟩,
    ⟨none, (some 15), .mov (.t 1)⟩,
    ⟨none, (some 16), .mov (.t 6)⟩,
    ⟨none, (some 17), .call (.k (.fn (.func 19) [] [])) [(.t 14), (.t 15), (.t 16), (.k (.int .i64 0)), (.k (.int .i64 3))]⟩,
    ⟨none, (some 18), .bsl 16 1 (rep 16 (w8 0#8)) [(0, 16, (.t 17))]⟩,
    ⟨none, (some 19), .app 16 16 (.t 10) (.t 18)⟩,
    ⟨none, (some 5), .mov (.t 19)⟩])))
  (.region false [⟨none, (some 20), .bin .add (.t 7) (.k (.int .i64 1))⟩,
    ⟨none, (some 7), .mov (.t 20)⟩]))))
/-- 1:leaf 2:seed 4: 5:ends 7: -/
def a27S0 (x1 x2 x4 x5 x7 : DV) (h : List AObj) : St := ⟨[.junk, x1, x2, .junk, x4, x5, .junk, x7] ++ js 16, h⟩

def a27 : AFn where
  code := (.seq (.region false [⟨none, (some 2), .box (.t 0)⟩,
    ⟨none, (some 4), .alloc (rep 16 (w8 0#8))⟩])
  (.seq (.region false [⟨none, (some 5), .mov (.k .nils)⟩])
  (.seq (.seq (.region false [⟨none, (some 7), .mov (.k (.int .i64 0))⟩])
  (.block 0 (.loop a27L0)))
  (.seq (.region false [⟨none, (some 21), .mov (.t 1)⟩,
    ⟨none, (some 22), .mov (.t 5)⟩,
    ⟨none, (some 23), .call (.k (.fn (.func 23) [] [])) [(.t 21), (.t 22)]⟩,
    ⟨none, none, .store 16 (.t 4) (.t 23)⟩])
  .ret))))
  ntmps := 24
  res := [.cell 4 16 true]

theorem a27_ok : compileFn P Try.f27 = some a27 := by kernel_rfl

-- 28 admission/admissionref08.Public
def a28L0 : ACode :=
  (.seq (.seq (.region false [⟨none, (some 7), .mov (.t 6)⟩,
    ⟨none, (some 8), .bin .lss (.t 7) (.k (.int .i64 68))⟩])
  (.cond (.t 8) .skip
  (.exit 0)))
  (.seq (.block 1 (.region false [⟨none, (some 11), .mov (.t 5)⟩,
    ⟨none, (some 12), .load 16 true (.t 2)⟩,
    ⟨none, (some 13), .mov (.t 1)⟩,
    ⟨none, (some 14), .mov (.t 6)⟩,
    ⟨none, (some 15), .call (.k (.fn (.func 21) [] [])) [(.t 12), (.t 13), (.t 14)]⟩,
    ⟨none, (some 16), .mov (.t 1)⟩,
    ⟨none, (some 17), .mov (.t 6)⟩,
    ⟨none, (some 18), .call (.k (.fn (.func 22) [] [])) [(.t 15), (.t 16), (.t 17), (.k (.int .i64 0)), (.k (.int .i64 3))]⟩,
    ⟨none, (some 19), .bsl 16 1 (rep 16 (w8 0#8)) [(0, 16, (.t 18))]⟩,
    ⟨none, (some 20), .app 16 16 (.t 11) (.t 19)⟩,
    ⟨none, (some 5), .mov (.t 20)⟩]))
  (.region false [⟨none, (some 9), .mov (.t 6)⟩,
    ⟨none, (some 10), .bin .add (.t 9) (.k (.int .i64 1))⟩,
    ⟨none, (some 6), .mov (.t 10)⟩])))
/-- 1:leaf 2:seed 4: 5:ends 6:i -/
def a28S0 (x1 x2 x4 x5 x6 : DV) (h : List AObj) : St := ⟨[.junk, x1, x2, .junk, x4, x5, x6] ++ js 17, h⟩

def a28 : AFn where
  code := (.seq (.region false [⟨none, (some 2), .box (.t 0)⟩,
    ⟨none, (some 4), .alloc (rep 16 (w8 0#8))⟩])
  (.seq (.region false [⟨none, (some 5), .mov (.k .nils)⟩])
  (.seq (.seq (.region false [⟨none, (some 6), .mov (.k (.int .i64 0))⟩])
  (.block 0 (.loop a28L0)))
  (.seq (.region false [⟨none, (some 21), .mov (.t 1)⟩,
    ⟨none, (some 22), .mov (.t 5)⟩,
    ⟨none, (some 23), .call (.k (.fn (.func 24) [] [])) [(.t 21), (.t 22)]⟩,
    ⟨none, none, .store 16 (.t 4) (.t 23)⟩])
  .ret))))
  ntmps := 24
  res := [.cell 4 16 true]

theorem a28_ok : compileFn P Try.f28 = some a28 := by kernel_rfl

-- 30 admission/onetime.Sign
def a30L0 : ACode :=
  (.seq (.region false [⟨none, (some 14), .bin .lss (.t 13) (.t 12)⟩])
  (.seq (.cond (.t 14) .skip
  (.exit 0))
  (.seq (.block 1 (.seq (.region false [⟨none, (some 15), .mov (.t 13)⟩,
    ⟨none, (some 16), .idxS 1 (.t 11) (.t 13)⟩,
    ⟨none, (some 17), .load 1 false (.t 16)⟩,
    ⟨none, (some 8), .mov (.t 15)⟩,
    ⟨none, (some 9), .mov (.t 17)⟩])
  (.region false [⟨none, (some 18), .mov (.t 7)⟩,
    ⟨none, (some 19), .load 16 true (.t 3)⟩,
    ⟨none, (some 20), .mov (.t 1)⟩,
    ⟨none, (some 21), .mov (.t 8)⟩,
    ⟨none, (some 22), .call (.k (.fn (.func 20) [] [])) [(.t 19), (.t 20), (.t 21)]⟩,
    ⟨none, (some 23), .mov (.t 1)⟩,
    ⟨none, (some 24), .mov (.t 8)⟩,
    ⟨none, (some 25), .mov (.t 9)⟩,
    ⟨none, (some 26), .call (.k (.fn (.func 19) [] [])) [(.t 22), (.t 23), (.t 24), (.k (.int .i64 0)), (.t 25)]⟩,
    ⟨none, (some 27), .bsl 16 1 (rep 16 (w8 0#8)) [(0, 16, (.t 26))]⟩,
    ⟨none, (some 28), .app 16 16 (.t 18) (.t 27)⟩,
    ⟨none, (some 7), .mov (.t 28)⟩])))
  (.region false [⟨none, (some 29), .bin .add (.t 13) (.k (.int .i64 1))⟩,
    ⟨none, (some 13), .mov (.t 29)⟩]))))
/-- 1:leaf 3:seed 7:out 11: 12: 13: -/
def a30S0 (x1 x3 x7 x11 x12 x13 : DV) (h : List AObj) : St := ⟨[.junk, x1, .junk, x3, .junk, .junk, .junk, x7, .junk, .junk, .junk, x11, x12, x13] ++ js 17, h⟩

def a30 : AFn where
  code := (.seq (.region false [⟨none, (some 3), .box (.t 0)⟩,
    ⟨none, (some 5), .box (.t 2)⟩,
    ⟨none, (some 6), .mov (.k .nils)⟩])
  (.seq (.region false [⟨none, (some 7), .mov (.k .nils)⟩])
  (.seq (.seq (.region false [⟨none, (some 10), .load 32 true (.t 5)⟩,
    ⟨none, (some 11), .call (.k (.fn (.func 16) [] [])) [(.t 10)]⟩,
    ⟨none, (some 12), .len (.t 11)⟩,
    ⟨none, (some 13), .mov (.k (.int .i64 0))⟩])
  (.block 0 (.loop a30L0)))
  (.seq (.region false [⟨none, (some 30), .mov (.t 7)⟩,
    ⟨none, (some 6), .mov (.t 30)⟩])
  .ret))))
  ntmps := 31
  res := [.tmp 6]

theorem a30_ok : compileFn P Try.f30 = some a30 := by kernel_rfl

-- 31 admission/admissionref08.Sign
def a31L0 : ACode :=
  (.seq (.seq (.region false [⟨none, (some 12), .mov (.t 9)⟩,
    ⟨none, (some 13), .bin .lss (.t 12) (.k (.int .i64 68))⟩])
  (.cond (.t 13) .skip
  (.exit 0)))
  (.seq (.block 1 (.region true [⟨none, (some 16), .mov (.t 8)⟩,
    ⟨none, (some 17), .load 16 true (.t 3)⟩,
    ⟨none, (some 18), .mov (.t 1)⟩,
    ⟨none, (some 19), .mov (.t 9)⟩,
    ⟨none, (some 20), .call (.k (.fn (.func 21) [] [])) [(.t 17), (.t 18), (.t 19)]⟩,
    ⟨none, (some 21), .mov (.t 1)⟩,
    ⟨none, (some 22), .mov (.t 9)⟩,
    ⟨none, (some 23), .mov (.t 7)⟩,
    ⟨none, (some 24), .mov (.t 9)⟩,
    ⟨none, (some 25), .idxS 1 (.t 23) (.t 24)⟩,
    ⟨none, (some 26), .load 1 false (.t 25)⟩,
    ⟨none, (some 27), .call (.k (.fn (.func 22) [] [])) [(.t 20), (.t 21), (.t 22), (.k (.int .i64 0)), (.t 26)]⟩,
    ⟨none, (some 28), .bsl 16 1 (rep 16 (w8 0#8)) [(0, 16, (.t 27))]⟩,
    ⟨none, (some 29), .app 16 16 (.t 16) (.t 28)⟩,
    ⟨none, (some 8), .mov (.t 29)⟩]))
  (.region false [⟨none, (some 14), .mov (.t 9)⟩,
    ⟨none, (some 15), .bin .add (.t 14) (.k (.int .i64 1))⟩,
    ⟨none, (some 9), .mov (.t 15)⟩])))
/-- 1:leaf 3:seed 7:l 8:out 9:i -/
def a31S0 (x1 x3 x7 x8 x9 : DV) (h : List AObj) : St := ⟨[.junk, x1, .junk, x3, .junk, .junk, .junk, x7, x8, x9] ++ js 21, h⟩

def a31 : AFn where
  code := (.seq (.region false [⟨none, (some 3), .box (.t 0)⟩,
    ⟨none, (some 5), .box (.t 2)⟩,
    ⟨none, (some 6), .mov (.k .nils)⟩])
  (.seq (.region false [⟨none, (some 10), .load 32 true (.t 5)⟩,
    ⟨none, (some 11), .call (.k (.fn (.func 17) [] [])) [(.t 10)]⟩,
    ⟨none, (some 7), .mov (.t 11)⟩])
  (.seq (.region false [⟨none, (some 8), .mov (.k .nils)⟩])
  (.seq (.seq (.region false [⟨none, (some 9), .mov (.k (.int .i64 0))⟩])
  (.block 0 (.loop a31L0)))
  (.seq (.region false [⟨none, (some 30), .mov (.t 8)⟩,
    ⟨none, (some 6), .mov (.t 30)⟩])
  .ret)))))
  ntmps := 31
  res := [.tmp 6]

theorem a31_ok : compileFn P Try.f31 = some a31 := by kernel_rfl

-- 25 admission/onetime.Recover
def a25L0 : ACode :=
  (.seq (.region false [⟨none, (some 19), .bin .lss (.t 18) (.t 17)⟩])
  (.seq (.cond (.t 19) .skip
  (.exit 0))
  (.seq (.block 1 (.seq (.region false [⟨none, (some 20), .mov (.t 18)⟩,
    ⟨none, (some 21), .idxS 1 (.t 16) (.t 18)⟩,
    ⟨none, (some 22), .load 1 false (.t 21)⟩,
    ⟨none, (some 9), .mov (.t 20)⟩,
    ⟨none, (some 10), .mov (.t 22)⟩])
  (.region false [⟨none, (some 23), .mov (.t 8)⟩,
    ⟨none, (some 24), .mov (.t 2)⟩,
    ⟨none, (some 25), .mov (.t 9)⟩,
    ⟨none, (some 26), .idxS 16 (.t 24) (.t 25)⟩,
    ⟨none, (some 27), .load 16 true (.t 26)⟩,
    ⟨none, (some 28), .mov (.t 0)⟩,
    ⟨none, (some 29), .mov (.t 9)⟩,
    ⟨none, (some 30), .mov (.t 10)⟩,
    ⟨none, (some 31), .call (.k (.fn (.func 19) [] [])) [(.t 27), (.t 28), (.t 29), (.t 30), (.k (.int .i64 3))]⟩,
    ⟨none, (some 32), .bsl 16 1 (rep 16 (w8 0#8)) [(0, 16, (.t 31))]⟩,
    ⟨none, (some 33), .app 16 16 (.t 23) (.t 32)⟩,
    ⟨none, (some 8), .mov (.t 33)⟩])))
  (.region false [⟨none, (some 34), .bin .add (.t 18) (.k (.int .i64 1))⟩,
    ⟨none, (some 18), .mov (.t 34)⟩]))))
/-- 0:leaf 2:sig 6: 8:ends 16: 17: 18: -/
def a25S0 (x0 x2 x6 x8 x16 x17 x18 : DV) (h : List AObj) : St := ⟨[x0, .junk, x2, .junk, .junk, .junk, x6, .junk, x8] ++ js 7 ++ [x16, x17, x18] ++ js 19, h⟩

def a25 : AFn where
  code := (.seq (.region false [⟨none, (some 4), .box (.t 1)⟩,
    ⟨none, (some 6), .alloc (rep 16 (w8 0#8))⟩,
    ⟨none, (some 7), .mov (.k (.bool false))⟩])
  (.seq (.seq (.region false [⟨none, (some 11), .mov (.t 2)⟩,
    ⟨none, (some 12), .len (.t 11)⟩,
    ⟨none, (some 13), .bin .neq (.t 12) (.k (.int .i64 68))⟩])
  (.cond (.t 13) (.seq (.region false [⟨none, (some 14), .build (rep 16 (w8 0#8)) []⟩,
    ⟨none, none, .store 16 (.t 6) (.t 14)⟩,
    ⟨none, (some 7), .mov (.k (.bool false))⟩])
  .ret)
  .skip))
  (.seq (.region false [⟨none, (some 8), .mov (.k .nils)⟩])
  (.seq (.seq (.region false [⟨none, (some 15), .load 32 true (.t 4)⟩,
    ⟨none, (some 16), .call (.k (.fn (.func 16) [] [])) [(.t 15)]⟩,
    ⟨none, (some 17), .len (.t 16)⟩,
    ⟨none, (some 18), .mov (.k (.int .i64 0))⟩])
  (.block 0 (.loop a25L0)))
  (.seq (.region false [⟨none, (some 35), .mov (.t 0)⟩,
    ⟨none, (some 36), .mov (.t 8)⟩,
    ⟨none, (some 37), .call (.k (.fn (.func 23) [] [])) [(.t 35), (.t 36)]⟩,
    ⟨none, none, .store 16 (.t 6) (.t 37)⟩,
    ⟨none, (some 7), .mov (.k (.bool true))⟩])
  .ret)))))
  ntmps := 38
  res := [.cell 6 16 true, .tmp 7]

theorem a25_ok : compileFn P Try.f25 = some a25 := by kernel_rfl

-- 26 admission/admissionref08.Recover
def a26L0 : ACode :=
  (.seq (.seq (.region false [⟨none, (some 17), .mov (.t 10)⟩,
    ⟨none, (some 18), .bin .lss (.t 17) (.k (.int .i64 68))⟩])
  (.cond (.t 18) .skip
  (.exit 0)))
  (.seq (.block 1 (.region true [⟨none, (some 21), .mov (.t 9)⟩,
    ⟨none, (some 22), .mov (.t 2)⟩,
    ⟨none, (some 23), .mov (.t 10)⟩,
    ⟨none, (some 24), .idxS 16 (.t 22) (.t 23)⟩,
    ⟨none, (some 25), .load 16 true (.t 24)⟩,
    ⟨none, (some 26), .mov (.t 0)⟩,
    ⟨none, (some 27), .mov (.t 10)⟩,
    ⟨none, (some 28), .mov (.t 8)⟩,
    ⟨none, (some 29), .mov (.t 10)⟩,
    ⟨none, (some 30), .idxS 1 (.t 28) (.t 29)⟩,
    ⟨none, (some 31), .load 1 false (.t 30)⟩,
    ⟨none, (some 32), .call (.k (.fn (.func 22) [] [])) [(.t 25), (.t 26), (.t 27), (.t 31), (.k (.int .i64 3))]⟩,
    ⟨none, (some 33), .bsl 16 1 (rep 16 (w8 0#8)) [(0, 16, (.t 32))]⟩,
    ⟨none, (some 34), .app 16 16 (.t 21) (.t 33)⟩,
    ⟨none, (some 9), .mov (.t 34)⟩]))
  (.region false [⟨none, (some 19), .mov (.t 10)⟩,
    ⟨none, (some 20), .bin .add (.t 19) (.k (.int .i64 1))⟩,
    ⟨none, (some 10), .mov (.t 20)⟩])))
/-- 0:leaf 2:sig 6: 8:l 9:ends 10:i -/
def a26S0 (x0 x2 x6 x8 x9 x10 : DV) (h : List AObj) : St := ⟨[x0, .junk, x2, .junk, .junk, .junk, x6, .junk, x8, x9, x10] ++ js 27, h⟩

def a26 : AFn where
  code := (.seq (.region false [⟨none, (some 4), .box (.t 1)⟩,
    ⟨none, (some 6), .alloc (rep 16 (w8 0#8))⟩,
    ⟨none, (some 7), .mov (.k (.bool false))⟩])
  (.seq (.seq (.region false [⟨none, (some 11), .mov (.t 2)⟩,
    ⟨none, (some 12), .len (.t 11)⟩,
    ⟨none, (some 13), .bin .neq (.t 12) (.k (.int .i64 68))⟩])
  (.cond (.t 13) (.seq (.region false [⟨none, (some 14), .build (rep 16 (w8 0#8)) []⟩,
    ⟨none, none, .store 16 (.t 6) (.t 14)⟩,
    ⟨none, (some 7), .mov (.k (.bool false))⟩])
  .ret)
  .skip))
  (.seq (.region false [⟨none, (some 15), .load 32 true (.t 4)⟩,
    ⟨none, (some 16), .call (.k (.fn (.func 17) [] [])) [(.t 15)]⟩,
    ⟨none, (some 8), .mov (.t 16)⟩])
  (.seq (.region false [⟨none, (some 9), .mov (.k .nils)⟩])
  (.seq (.seq (.region false [⟨none, (some 10), .mov (.k (.int .i64 0))⟩])
  (.block 0 (.loop a26L0)))
  (.seq (.region false [⟨none, (some 35), .mov (.t 0)⟩,
    ⟨none, (some 36), .mov (.t 9)⟩,
    ⟨none, (some 37), .call (.k (.fn (.func 24) [] [])) [(.t 35), (.t 36)]⟩,
    ⟨none, none, .store 16 (.t 6) (.t 37)⟩,
    ⟨none, (some 7), .mov (.k (.bool true))⟩])
  .ret))))))
  ntmps := 38
  res := [.cell 6 16 true, .tmp 7]

theorem a26_ok : compileFn P Try.f26 = some a26 := by kernel_rfl

-- 29 admission/admissionref08.Same
def a29L0 : ACode :=
  (.seq (.seq (.region false [⟨none, (some 11), .mov (.t 5)⟩,
    ⟨none, (some 12), .mov (.t 0)⟩,
    ⟨none, (some 13), .len (.t 12)⟩,
    ⟨none, (some 14), .bin .lss (.t 11) (.t 13)⟩])
  (.cond (.t 14) .skip
  (.exit 0)))
  (.seq (.block 1 (.seq (.region true [⟨none, (some 17), .mov (.t 0)⟩,
    ⟨none, (some 18), .mov (.t 5)⟩,
    ⟨none, (some 19), .idxS 16 (.t 17) (.t 18)⟩,
    ⟨none, (some 20), .load 16 true (.t 19)⟩,
    ⟨none, (some 21), .mov (.t 1)⟩,
    ⟨none, (some 22), .mov (.t 5)⟩,
    ⟨none, (some 23), .idxS 16 (.t 21) (.t 22)⟩,
    ⟨none, (some 24), .load 16 true (.t 23)⟩,
    ⟨none, (some 25), .eqa true [(16, 0)] (.t 20) (.t 24)⟩])
  (.cond (.t 25) (.seq (.region false [⟨none, (some 4), .mov (.k (.bool false))⟩])
  .ret)
  .skip)))
  (.region false [⟨none, (some 15), .mov (.t 5)⟩,
    ⟨none, (some 16), .bin .add (.t 15) (.k (.int .i64 1))⟩,
    ⟨none, (some 5), .mov (.t 16)⟩])))
/-- 0:a 1:b 5:i -/
def a29S0 (x0 x1 x5 : DV) (h : List AObj) : St := ⟨[x0, x1, .junk, .junk, .junk, x5] ++ js 20, h⟩

def a29 : AFn where
  code := (.seq (.region false [⟨none, (some 4), .mov (.k (.bool false))⟩])
  (.seq (.seq (.region false [⟨none, (some 6), .mov (.t 0)⟩,
    ⟨none, (some 7), .len (.t 6)⟩,
    ⟨none, (some 8), .mov (.t 1)⟩,
    ⟨none, (some 9), .len (.t 8)⟩,
    ⟨none, (some 10), .bin .neq (.t 7) (.t 9)⟩])
  (.cond (.t 10) (.seq (.region false [⟨none, (some 4), .mov (.k (.bool false))⟩])
  .ret)
  .skip))
  (.seq (.seq (.region false [⟨none, (some 5), .mov (.k (.int .i64 0))⟩])
  (.block 0 (.loop a29L0)))
  (.seq (.region false [⟨none, (some 4), .mov (.k (.bool true))⟩])
  .ret))))
  ntmps := 26
  res := [.tmp 4]

theorem a29_ok : compileFn P Try.f29 = some a29 := by kernel_rfl

-- 6 admission/admissionlaw08.OnetimeSteps
def a6 : AFn where
  code := (.seq (.region false [⟨none, (some 3), .box (.t 0)⟩,
    ⟨none, (some 4), .box (.t 1)⟩,
    ⟨none, (some 6), .mov (.k (.bool false))⟩])
  (.seq (.seq (.region false [⟨none, (some 7), .mov (.t 2)⟩,
    ⟨none, (some 8), .len (.t 7)⟩,
    ⟨none, (some 9), .bin .gtr (.t 8) (.k (.int .i64 100))⟩])
  (.cond (.t 9) (.seq (.region false [⟨none, (some 6), .mov (.k (.bool true))⟩])
  .ret)
  .skip))
  (.seq (.region true [⟨none, (some 10), .call (.k (.fn (.func 18) [] [])) []⟩,
    ⟨none, (some 11), .mov (.t 10)⟩,
    ⟨(some (11, true)), (some 12), .load 16 true (.t 3)⟩,
    ⟨(some (11, true)), (some 13), .idxA 4 1 (.t 4) (.k (.int .i64 0))⟩,
    ⟨(some (11, true)), (some 14), .load 1 false (.t 13)⟩,
    ⟨(some (11, true)), (some 15), .idxA 4 1 (.t 4) (.k (.int .i64 1))⟩,
    ⟨(some (11, true)), (some 16), .load 1 false (.t 15)⟩,
    ⟨(some (11, true)), (some 17), .call (.k (.fn (.func 20) [] [])) [(.t 12), (.t 14), (.t 16)]⟩,
    ⟨(some (11, true)), (some 18), .load 16 true (.t 3)⟩,
    ⟨(some (11, true)), (some 19), .idxA 4 1 (.t 4) (.k (.int .i64 0))⟩,
    ⟨(some (11, true)), (some 20), .load 1 false (.t 19)⟩,
    ⟨(some (11, true)), (some 21), .idxA 4 1 (.t 4) (.k (.int .i64 1))⟩,
    ⟨(some (11, true)), (some 22), .load 1 false (.t 21)⟩,
    ⟨(some (11, true)), (some 23), .call (.k (.fn (.func 21) [] [])) [(.t 18), (.t 20), (.t 22)]⟩,
    ⟨(some (11, true)), (some 24), .eqa false [(16, 0)] (.t 17) (.t 23)⟩,
    ⟨none, (some 25), .pick (.t 11) (.t 24) (.k (.bool false))⟩,
    ⟨none, (some 26), .mov (.t 25)⟩,
    ⟨(some (26, true)), (some 27), .load 16 true (.t 3)⟩,
    ⟨(some (26, true)), (some 28), .idxA 4 1 (.t 4) (.k (.int .i64 0))⟩,
    ⟨(some (26, true)), (some 29), .load 1 false (.t 28)⟩,
    ⟨(some (26, true)), (some 30), .idxA 4 1 (.t 4) (.k (.int .i64 1))⟩,
    ⟨(some (26, true)), (some 31), .load 1 false (.t 30)⟩,
    ⟨(some (26, true)), (some 32), .idxA 4 1 (.t 4) (.k (.int .i64 2))⟩,
    ⟨(some (26, true)), (some 33), .load 1 false (.t 32)⟩,
    ⟨(some (26, true)), (some 34), .idxA 4 1 (.t 4) (.k (.int .i64 3))⟩,
    ⟨(some (26, true)), (some 35), .load 1 false (.t 34)⟩,
    ⟨(some (26, true)), (some 36), .call (.k (.fn (.func 19) [] [])) [(.t 27), (.t 29), (.t 31), (.t 33), (.t 35)]⟩,
    ⟨(some (26, true)), (some 37), .load 16 true (.t 3)⟩,
    ⟨(some (26, true)), (some 38), .idxA 4 1 (.t 4) (.k (.int .i64 0))⟩,
    ⟨(some (26, true)), (some 39), .load 1 false (.t 38)⟩,
    ⟨(some (26, true)), (some 40), .idxA 4 1 (.t 4) (.k (.int .i64 1))⟩,
    ⟨(some (26, true)), (some 41), .load 1 false (.t 40)⟩,
    ⟨(some (26, true)), (some 42), .idxA 4 1 (.t 4) (.k (.int .i64 2))⟩,
    ⟨(some (26, true)), (some 43), .load 1 false (.t 42)⟩,
    ⟨(some (26, true)), (some 44), .idxA 4 1 (.t 4) (.k (.int .i64 3))⟩,
    ⟨(some (26, true)), (some 45), .load 1 false (.t 44)⟩,
    ⟨(some (26, true)), (some 46), .call (.k (.fn (.func 22) [] [])) [(.t 37), (.t 39), (.t 41), (.t 43), (.t 45)]⟩,
    ⟨(some (26, true)), (some 47), .eqa false [(16, 0)] (.t 36) (.t 46)⟩,
    ⟨none, (some 48), .pick (.t 26) (.t 47) (.k (.bool false))⟩,
    ⟨none, (some 49), .mov (.t 48)⟩,
    ⟨(some (49, true)), (some 50), .idxA 4 1 (.t 4) (.k (.int .i64 0))⟩,
    ⟨(some (49, true)), (some 51), .load 1 false (.t 50)⟩,
    ⟨(some (49, true)), (some 52), .mov (.t 2)⟩,
    ⟨(some (49, true)), (some 53), .call (.k (.fn (.func 23) [] [])) [(.t 51), (.t 52)]⟩,
    ⟨(some (49, true)), (some 54), .idxA 4 1 (.t 4) (.k (.int .i64 0))⟩,
    ⟨(some (49, true)), (some 55), .load 1 false (.t 54)⟩,
    ⟨(some (49, true)), (some 56), .mov (.t 2)⟩,
    ⟨(some (49, true)), (some 57), .call (.k (.fn (.func 24) [] [])) [(.t 55), (.t 56)]⟩,
    ⟨(some (49, true)), (some 58), .eqa false [(16, 0)] (.t 53) (.t 57)⟩,
    ⟨none, (some 59), .pick (.t 49) (.t 58) (.k (.bool false))⟩,
    ⟨none, (some 6), .mov (.t 59)⟩])
  .ret)))
  ntmps := 60
  res := [.tmp 6]

theorem a6_ok : compileFn P Try.f6 = some a6 := by kernel_rfl

-- 5 admission/admissionlaw08.OnetimeClimbs
def a5 : AFn where
  code := (.seq (.region false [⟨none, (some 3), .box (.t 0)⟩,
    ⟨none, (some 4), .box (.t 1)⟩,
    ⟨none, (some 5), .box (.t 2)⟩,
    ⟨none, (some 6), .mov (.k (.bool false))⟩])
  (.seq (.region true [⟨none, (some 13), .idxA 2 1 (.t 4) (.k (.int .i64 0))⟩,
    ⟨none, (some 14), .load 1 false (.t 13)⟩,
    ⟨none, (some 15), .idxA 2 1 (.t 4) (.k (.int .i64 1))⟩,
    ⟨none, (some 16), .load 1 false (.t 15)⟩,
    ⟨none, (some 7), .mov (.t 14)⟩,
    ⟨none, (some 8), .mov (.t 16)⟩])
  (.seq (.region true [⟨none, (some 17), .idxA 3 1 (.t 5) (.k (.int .i64 0))⟩,
    ⟨none, (some 18), .load 1 false (.t 17)⟩,
    ⟨none, (some 19), .bin .rem (.t 18) (.k (.int .i64 4))⟩,
    ⟨none, (some 20), .bin .add (.t 19) (.k (.int .i64 4))⟩,
    ⟨none, (some 21), .bin .rem (.t 20) (.k (.int .i64 4))⟩,
    ⟨none, (some 22), .idxA 3 1 (.t 5) (.k (.int .i64 1))⟩,
    ⟨none, (some 23), .load 1 false (.t 22)⟩,
    ⟨none, (some 24), .bin .rem (.t 23) (.k (.int .i64 4))⟩,
    ⟨none, (some 25), .bin .add (.t 24) (.k (.int .i64 4))⟩,
    ⟨none, (some 26), .bin .rem (.t 25) (.k (.int .i64 4))⟩,
    ⟨none, (some 27), .idxA 3 1 (.t 5) (.k (.int .i64 2))⟩,
    ⟨none, (some 28), .load 1 false (.t 27)⟩,
    ⟨none, (some 29), .bin .rem (.t 28) (.k (.int .i64 4))⟩,
    ⟨none, (some 30), .bin .add (.t 29) (.k (.int .i64 4))⟩,
    ⟨none, (some 31), .bin .rem (.t 30) (.k (.int .i64 4))⟩,
    ⟨none, (some 9), .mov (.t 21)⟩,
    ⟨none, (some 10), .mov (.t 26)⟩,
    ⟨none, (some 11), .mov (.t 31)⟩])
  (.seq (.seq (.region false [⟨none, (some 32), .mov (.t 9)⟩,
    ⟨none, (some 33), .mov (.t 10)⟩,
    ⟨none, (some 34), .bin .gtr (.t 32) (.t 33)⟩,
    ⟨none, (some 35), .mov (.t 34)⟩,
    ⟨(some (35, false)), (some 36), .mov (.t 10)⟩,
    ⟨(some (35, false)), (some 37), .mov (.t 11)⟩,
    ⟨(some (35, false)), (some 38), .bin .gtr (.t 36) (.t 37)⟩,
    ⟨none, (some 39), .pick (.t 35) (.k (.bool true)) (.t 38)⟩])
  (.cond (.t 39) (.seq (.region false [⟨none, (some 40), .call (.k (.fn (.func 18) [] [])) []⟩,
    ⟨none, (some 6), .mov (.t 40)⟩])
  .ret)
  .skip))
  (.seq (.region false [⟨none, (some 41), .load 16 true (.t 3)⟩,
    ⟨none, (some 42), .mov (.t 7)⟩,
    ⟨none, (some 43), .mov (.t 8)⟩,
    ⟨none, (some 44), .mov (.t 9)⟩,
    ⟨none, (some 45), .mov (.t 10)⟩,
    ⟨none, (some 46), .call (.k (.fn (.func 19) [] [])) [(.t 41), (.t 42), (.t 43), (.t 44), (.t 45)]⟩,
    ⟨none, (some 12), .alloc (rep 16 (w8 0#8))⟩,
    ⟨none, none, .store 16 (.t 12) (.t 46)⟩])
  (.seq (.region true [⟨none, (some 47), .call (.k (.fn (.func 18) [] [])) []⟩,
    ⟨none, (some 48), .mov (.t 47)⟩,
    ⟨(some (48, true)), (some 49), .load 16 true (.t 12)⟩,
    ⟨(some (48, true)), (some 50), .mov (.t 7)⟩,
    ⟨(some (48, true)), (some 51), .mov (.t 8)⟩,
    ⟨(some (48, true)), (some 52), .mov (.t 10)⟩,
    ⟨(some (48, true)), (some 53), .mov (.t 11)⟩,
    ⟨(some (48, true)), (some 54), .call (.k (.fn (.func 19) [] [])) [(.t 49), (.t 50), (.t 51), (.t 52), (.t 53)]⟩,
    ⟨(some (48, true)), (some 55), .load 16 true (.t 3)⟩,
    ⟨(some (48, true)), (some 56), .mov (.t 7)⟩,
    ⟨(some (48, true)), (some 57), .mov (.t 8)⟩,
    ⟨(some (48, true)), (some 58), .mov (.t 9)⟩,
    ⟨(some (48, true)), (some 59), .mov (.t 11)⟩,
    ⟨(some (48, true)), (some 60), .call (.k (.fn (.func 19) [] [])) [(.t 55), (.t 56), (.t 57), (.t 58), (.t 59)]⟩,
    ⟨(some (48, true)), (some 61), .eqa false [(16, 0)] (.t 54) (.t 60)⟩,
    ⟨none, (some 62), .pick (.t 48) (.t 61) (.k (.bool false))⟩,
    ⟨none, (some 63), .mov (.t 62)⟩,
    ⟨(some (63, true)), (some 64), .load 16 true (.t 3)⟩,
    ⟨(some (63, true)), (some 65), .mov (.t 7)⟩,
    ⟨(some (63, true)), (some 66), .mov (.t 8)⟩,
    ⟨(some (63, true)), (some 67), .mov (.t 11)⟩,
    ⟨(some (63, true)), (some 68), .mov (.t 11)⟩,
    ⟨(some (63, true)), (some 69), .call (.k (.fn (.func 19) [] [])) [(.t 64), (.t 65), (.t 66), (.t 67), (.t 68)]⟩,
    ⟨(some (63, true)), (some 70), .load 16 true (.t 3)⟩,
    ⟨(some (63, true)), (some 71), .eqa false [(16, 0)] (.t 69) (.t 70)⟩,
    ⟨none, (some 72), .pick (.t 63) (.t 71) (.k (.bool false))⟩,
    ⟨none, (some 6), .mov (.t 72)⟩])
  .ret))))))
  ntmps := 73
  res := [.tmp 6]

theorem a5_ok : compileFn P Try.f5 = some a5 := by kernel_rfl

-- 7 admission/admissionlaw08.OnetimeSigns
def a7 : AFn where
  code := (.seq (.region false [⟨none, (some 3), .box (.t 0)⟩,
    ⟨none, (some 4), .box (.t 1)⟩,
    ⟨none, (some 6), .mov (.k (.bool false))⟩])
  (.seq (.seq (.region false [⟨none, (some 11), .mov (.t 2)⟩,
    ⟨none, (some 12), .len (.t 11)⟩,
    ⟨none, (some 13), .bin .gtr (.t 12) (.k (.int .i64 100))⟩])
  (.cond (.t 13) (.seq (.region false [⟨none, (some 6), .mov (.k (.bool true))⟩])
  .ret)
  .skip))
  (.seq (.region false [⟨none, (some 15), .fld 16 (.t 3)⟩,
    ⟨none, (some 16), .load 1 false (.t 15)⟩,
    ⟨none, (some 17), .load 32 true (.t 4)⟩,
    ⟨none, (some 18), .mov (.t 2)⟩,
    ⟨none, (some 19), .call (.k (.fn (.func 25) [] [])) [(.t 16), (.t 17), (.t 18)]⟩,
    ⟨none, (some 14), .mov (.t 19)⟩,
    ⟨none, (some 20), .ext (.t 14) 0⟩,
    ⟨none, (some 21), .ext (.t 14) 1⟩,
    ⟨none, (some 7), .alloc (rep 16 (w8 0#8))⟩,
    ⟨none, none, .store 16 (.t 7) (.t 20)⟩,
    ⟨none, (some 8), .mov (.t 21)⟩])
  (.seq (.region false [⟨none, (some 23), .fld 16 (.t 3)⟩,
    ⟨none, (some 24), .load 1 false (.t 23)⟩,
    ⟨none, (some 25), .load 32 true (.t 4)⟩,
    ⟨none, (some 26), .mov (.t 2)⟩,
    ⟨none, (some 27), .call (.k (.fn (.func 26) [] [])) [(.t 24), (.t 25), (.t 26)]⟩,
    ⟨none, (some 22), .mov (.t 27)⟩,
    ⟨none, (some 28), .ext (.t 22) 0⟩,
    ⟨none, (some 29), .ext (.t 22) 1⟩,
    ⟨none, (some 9), .alloc (rep 16 (w8 0#8))⟩,
    ⟨none, none, .store 16 (.t 9) (.t 28)⟩,
    ⟨none, (some 10), .mov (.t 29)⟩])
  (.seq (.region true [⟨none, (some 30), .call (.k (.fn (.func 18) [] [])) []⟩,
    ⟨none, (some 31), .mov (.t 30)⟩,
    ⟨(some (31, true)), (some 32), .fld 0 (.t 3)⟩,
    ⟨(some (31, true)), (some 33), .load 16 true (.t 32)⟩,
    ⟨(some (31, true)), (some 34), .fld 16 (.t 3)⟩,
    ⟨(some (31, true)), (some 35), .load 1 false (.t 34)⟩,
    ⟨(some (31, true)), (some 36), .call (.k (.fn (.func 27) [] [])) [(.t 33), (.t 35)]⟩,
    ⟨(some (31, true)), (some 37), .fld 0 (.t 3)⟩,
    ⟨(some (31, true)), (some 38), .load 16 true (.t 37)⟩,
    ⟨(some (31, true)), (some 39), .fld 16 (.t 3)⟩,
    ⟨(some (31, true)), (some 40), .load 1 false (.t 39)⟩,
    ⟨(some (31, true)), (some 41), .call (.k (.fn (.func 28) [] [])) [(.t 38), (.t 40)]⟩,
    ⟨(some (31, true)), (some 42), .eqa false [(16, 0)] (.t 36) (.t 41)⟩,
    ⟨none, (some 43), .pick (.t 31) (.t 42) (.k (.bool false))⟩,
    ⟨none, (some 44), .mov (.t 43)⟩,
    ⟨(some (44, true)), (some 45), .fld 0 (.t 3)⟩,
    ⟨(some (44, true)), (some 46), .load 16 true (.t 45)⟩,
    ⟨(some (44, true)), (some 47), .fld 16 (.t 3)⟩,
    ⟨(some (44, true)), (some 48), .load 1 false (.t 47)⟩,
    ⟨(some (44, true)), (some 49), .load 32 true (.t 4)⟩,
    ⟨(some (44, true)), (some 50), .call (.k (.fn (.func 30) [] [])) [(.t 46), (.t 48), (.t 49)]⟩,
    ⟨(some (44, true)), (some 51), .fld 0 (.t 3)⟩,
    ⟨(some (44, true)), (some 52), .load 16 true (.t 51)⟩,
    ⟨(some (44, true)), (some 53), .fld 16 (.t 3)⟩,
    ⟨(some (44, true)), (some 54), .load 1 false (.t 53)⟩,
    ⟨(some (44, true)), (some 55), .load 32 true (.t 4)⟩,
    ⟨(some (44, true)), (some 56), .call (.k (.fn (.func 31) [] [])) [(.t 52), (.t 54), (.t 55)]⟩,
    ⟨(some (44, true)), (some 57), .call (.k (.fn (.func 29) [] [])) [(.t 50), (.t 56)]⟩,
    ⟨none, (some 58), .pick (.t 44) (.t 57) (.k (.bool false))⟩,
    ⟨none, (some 59), .mov (.t 58)⟩,
    ⟨(some (59, true)), (some 60), .load 16 true (.t 7)⟩,
    ⟨(some (59, true)), (some 61), .load 16 true (.t 9)⟩,
    ⟨(some (59, true)), (some 62), .eqa false [(16, 0)] (.t 60) (.t 61)⟩,
    ⟨none, (some 63), .pick (.t 59) (.t 62) (.k (.bool false))⟩,
    ⟨none, (some 64), .mov (.t 63)⟩,
    ⟨(some (64, true)), (some 65), .mov (.t 8)⟩,
    ⟨(some (64, true)), (some 66), .mov (.t 10)⟩,
    ⟨(some (64, true)), (some 67), .eqb false (.t 65) (.t 66)⟩,
    ⟨none, (some 68), .pick (.t 64) (.t 67) (.k (.bool false))⟩,
    ⟨none, (some 6), .mov (.t 68)⟩])
  .ret)))))
  ntmps := 69
  res := [.tmp 6]

theorem a7_ok : compileFn P Try.f7 = some a7 := by kernel_rfl

end Go.Proofs.Ythkcgeokfcbllaa
