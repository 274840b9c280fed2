/-
  Functions of this claim, as the abstract machine has them. MADE BY A PROGRAM of mine.
-/
import Derived.Test.YthkcgeokfcbllaaAmZ
import Derived.Test.YthkcgeokfcbllaaFb
set_option linter.unusedSimpArgs false
set_option linter.unusedVariables false
namespace Go.Proofs.Ythkcgeokfcbllaa
open Go Go.Am
-- 75 internal/stringslite.IndexByte
def a75 : AFn where
  code := (.seq (.region false [⟨none, (some 4), .mov (.k (.int .i64 0))⟩])
  (.seq (.region false [⟨none, (some 5), .mov (.t 0)⟩,
    ⟨none, (some 6), .mov (.t 1)⟩,
    ⟨none, (some 7), .call (.k (.fn (.func 77) [] [])) [(.t 5), (.t 6)]⟩,
    ⟨none, (some 4), .mov (.t 7)⟩])
  .ret))
  ntmps := 8
  res := [.tmp 4]

theorem a75_ok : compileFn P Try.f75 = some a75 := by kernel_rfl

-- 70 strings.IndexByte
def a70 : AFn where
  code := (.seq (.region false [⟨none, (some 4), .mov (.k (.int .i64 0))⟩])
  (.seq (.region false [⟨none, (some 5), .mov (.t 0)⟩,
    ⟨none, (some 6), .mov (.t 1)⟩,
    ⟨none, (some 7), .call (.k (.fn (.func 75) [] [])) [(.t 5), (.t 6)]⟩,
    ⟨none, (some 4), .mov (.t 7)⟩])
  .ret))
  ntmps := 8
  res := [.tmp 4]

theorem a70_ok : compileFn P Try.f70 = some a70 := by kernel_rfl

-- 74 internal/stringslite.HasPrefix
def a74 : AFn where
  code := (.seq (.region false [⟨none, (some 4), .mov (.k (.bool false))⟩])
  (.seq (.region false [⟨none, (some 5), .mov (.t 0)⟩,
    ⟨none, (some 6), .lenStr (.t 5)⟩,
    ⟨none, (some 7), .mov (.t 1)⟩,
    ⟨none, (some 8), .lenStr (.t 7)⟩,
    ⟨none, (some 9), .bin .geq (.t 6) (.t 8)⟩,
    ⟨none, (some 10), .mov (.t 9)⟩,
    ⟨(some (10, true)), (some 11), .mov (.t 0)⟩,
    ⟨(some (10, true)), (some 12), .mov (.t 1)⟩,
    ⟨(some (10, true)), (some 13), .lenStr (.t 12)⟩,
    ⟨(some (10, true)), (some 14), .slcStr (.t 11) none (some (.t 13))⟩,
    ⟨(some (10, true)), (some 15), .mov (.t 1)⟩,
    ⟨(some (10, true)), (some 16), .bin .eql (.t 14) (.t 15)⟩,
    ⟨none, (some 17), .pick (.t 10) (.t 16) (.k (.bool false))⟩,
    ⟨none, (some 4), .mov (.t 17)⟩])
  .ret))
  ntmps := 18
  res := [.tmp 4]

theorem a74_ok : compileFn P Try.f74 = some a74 := by kernel_rfl

-- 69 internal/stringslite.CutPrefix
def a69 : AFn where
  code := (.seq (.region false [⟨none, (some 4), .mov (.k (.str []))⟩,
    ⟨none, (some 5), .mov (.k (.bool false))⟩])
  (.seq (.seq (.region false [⟨none, (some 6), .mov (.t 0)⟩,
    ⟨none, (some 7), .mov (.t 1)⟩,
    ⟨none, (some 8), .call (.k (.fn (.func 74) [] [])) [(.t 6), (.t 7)]⟩,
    ⟨none, (some 9), .un .not (.t 8)⟩])
  (.cond (.t 9) (.seq (.region false [⟨none, (some 10), .mov (.t 0)⟩,
    ⟨none, (some 4), .mov (.t 10)⟩,
    ⟨none, (some 5), .mov (.k (.bool false))⟩])
  .ret)
  .skip))
  (.seq (.region false [⟨none, (some 11), .mov (.t 0)⟩,
    ⟨none, (some 12), .mov (.t 1)⟩,
    ⟨none, (some 13), .lenStr (.t 12)⟩,
    ⟨none, (some 14), .slcStr (.t 11) (some (.t 13)) none⟩,
    ⟨none, (some 4), .mov (.t 14)⟩,
    ⟨none, (some 5), .mov (.k (.bool true))⟩])
  .ret)))
  ntmps := 15
  res := [.tmp 4, .tmp 5]

theorem a69_ok : compileFn P Try.f69 = some a69 := by kernel_rfl

-- 57 strings.CutPrefix
def a57 : AFn where
  code := (.seq (.region false [⟨none, (some 4), .mov (.k (.str []))⟩,
    ⟨none, (some 5), .mov (.k (.bool false))⟩])
  (.seq (.region false [⟨none, (some 6), .mov (.t 0)⟩,
    ⟨none, (some 7), .mov (.t 1)⟩,
    ⟨none, (some 8), .call (.k (.fn (.func 69) [] [])) [(.t 6), (.t 7)]⟩,
    ⟨none, (some 9), .ext (.t 8) 0⟩,
    ⟨none, (some 10), .ext (.t 8) 1⟩,
    ⟨none, (some 4), .mov (.t 9)⟩,
    ⟨none, (some 5), .mov (.t 10)⟩])
  .ret))
  ntmps := 11
  res := [.tmp 4, .tmp 5]

theorem a57_ok : compileFn P Try.f57 = some a57 := by kernel_rfl

-- 58 admission/digest.unhex
def a58L0 : ACode :=
  (.seq (.region false [⟨none, (some 17), .bin .lss (.t 16) (.t 15)⟩])
  (.seq (.cond (.t 17) .skip
  (.exit 0))
  (.seq (.block 1 (.seq (.region false [⟨none, (some 18), .mov (.t 16)⟩,
    ⟨none, (some 5), .mov (.t 18)⟩])
  (.seq (.region true [⟨none, (some 19), .mov (.t 0)⟩,
    ⟨none, (some 20), .mov (.t 5)⟩,
    ⟨none, (some 21), .bin .mul (.k (.int .i64 2)) (.t 20)⟩,
    ⟨none, (some 22), .idxStr (.t 19) (.t 21)⟩,
    ⟨none, (some 23), .call (.k (.fn (.func 70) [] [])) [(.k (.str [48, 49, 50, 51, 52, 53, 54, 55, 56, 57, 97, 98, 99, 100, 101, 102])), (.t 22)]⟩,
    ⟨none, (some 24), .mov (.t 0)⟩,
    ⟨none, (some 25), .mov (.t 5)⟩,
    ⟨none, (some 26), .bin .mul (.k (.int .i64 2)) (.t 25)⟩,
    ⟨none, (some 27), .bin .add (.t 26) (.k (.int .i64 1))⟩,
    ⟨none, (some 28), .idxStr (.t 24) (.t 27)⟩,
    ⟨none, (some 29), .call (.k (.fn (.func 70) [] [])) [(.k (.str [48, 49, 50, 51, 52, 53, 54, 55, 56, 57, 97, 98, 99, 100, 101, 102])), (.t 28)]⟩,
    ⟨none, (some 6), .mov (.t 23)⟩,
    ⟨none, (some 7), .mov (.t 29)⟩])
  (.seq (.seq (.region false [⟨none, (some 30), .mov (.t 6)⟩,
    ⟨none, (some 31), .bin .lss (.t 30) (.k (.int .i64 0))⟩,
    ⟨none, (some 32), .mov (.t 31)⟩,
    ⟨(some (32, false)), (some 33), .mov (.t 7)⟩,
    ⟨(some (32, false)), (some 34), .bin .lss (.t 33) (.k (.int .i64 0))⟩,
    ⟨none, (some 35), .pick (.t 32) (.k (.bool true)) (.t 34)⟩])
  (.cond (.t 35) (.seq (.region false [⟨none, (some 4), .mov (.k (.bool false))⟩])
  .ret)
  .skip))
  (.region false [⟨none, (some 36), .mov (.t 1)⟩,
    ⟨none, (some 37), .mov (.t 5)⟩,
    ⟨none, (some 38), .mov (.t 6)⟩,
    ⟨none, (some 39), .bin .mul (.k (.int .i64 16)) (.t 38)⟩,
    ⟨none, (some 40), .mov (.t 7)⟩,
    ⟨none, (some 41), .bin .add (.t 39) (.t 40)⟩,
    ⟨none, (some 42), .conv .u8 (.t 41)⟩,
    ⟨none, (some 43), .idxS 1 (.t 36) (.t 37)⟩,
    ⟨none, none, .store 1 (.t 43) (.t 42)⟩])))))
  (.region false [⟨none, (some 44), .bin .add (.t 16) (.k (.int .i64 1))⟩,
    ⟨none, (some 16), .mov (.t 44)⟩]))))
/-- 0:s 1:b 15: 16: -/
def a58S0 (x0 x1 x15 x16 : DV) (h : List AObj) : St := ⟨[x0, x1] ++ js 13 ++ [x15, x16] ++ js 28, h⟩

def a58 : AFn where
  code := (.seq (.region false [⟨none, (some 4), .mov (.k (.bool false))⟩])
  (.seq (.seq (.region false [⟨none, (some 8), .mov (.t 0)⟩,
    ⟨none, (some 9), .lenStr (.t 8)⟩,
    ⟨none, (some 10), .mov (.t 1)⟩,
    ⟨none, (some 11), .len (.t 10)⟩,
    ⟨none, (some 12), .bin .mul (.k (.int .i64 2)) (.t 11)⟩,
    ⟨none, (some 13), .bin .neq (.t 9) (.t 12)⟩])
  (.cond (.t 13) (.seq (.region false [⟨none, (some 4), .mov (.k (.bool false))⟩])
  .ret)
  .skip))
  (.seq (.seq (.region false [⟨none, (some 14), .mov (.t 1)⟩,
    ⟨none, (some 15), .len (.t 14)⟩,
    ⟨none, (some 16), .mov (.k (.int .i64 0))⟩])
  (.block 0 (.loop a58L0)))
  (.seq (.region false [⟨none, (some 4), .mov (.k (.bool true))⟩])
  .ret))))
  ntmps := 45
  res := [.tmp 4]

theorem a58_ok : compileFn P Try.f58 = some a58 := by kernel_rfl

-- 42 admission/digest.Parse
def a42 : AFn where
  code := (.seq (.region false [⟨none, (some 2), .alloc (rep 32 (w8 0#8))⟩,
    ⟨none, (some 3), .mov (.k (.bool false))⟩])
  (.seq (.region false [⟨none, (some 4), .alloc (rep 32 (w8 0#8))⟩])
  (.seq (.region false [⟨none, (some 8), .mov (.t 0)⟩,
    ⟨none, (some 9), .call (.k (.fn (.func 57) [] [])) [(.t 8), (.k (.str [115, 104, 97, 50, 53, 54, 58]))]⟩,
    ⟨none, (some 7), .mov (.t 9)⟩,
    ⟨none, (some 10), .ext (.t 7) 0⟩,
    ⟨none, (some 11), .ext (.t 7) 1⟩,
    ⟨none, (some 5), .mov (.t 10)⟩,
    ⟨none, (some 6), .mov (.t 11)⟩])
  (.seq (.seq (.region false [⟨none, (some 12), .mov (.t 6)⟩,
    ⟨none, (some 13), .un .not (.t 12)⟩,
    ⟨none, (some 14), .mov (.t 13)⟩,
    ⟨(some (14, false)), (some 15), .mov (.t 5)⟩,
    ⟨(some (14, false)), (some 16), .slcA 32 1 (.t 4) none none⟩,
    ⟨(some (14, false)), (some 17), .call (.k (.fn (.func 58) [] [])) [(.t 15), (.t 16)]⟩,
    ⟨(some (14, false)), (some 18), .un .not (.t 17)⟩,
    ⟨none, (some 19), .pick (.t 14) (.k (.bool true)) (.t 18)⟩])
  (.cond (.t 19) (.seq (.region false [⟨none, (some 20), .build (rep 32 (w8 0#8)) []⟩,
    ⟨none, none, .store 32 (.t 2) (.t 20)⟩,
    ⟨none, (some 3), .mov (.k (.bool false))⟩])
  .ret)
  .skip))
  (.seq (.region false [⟨none, (some 21), .load 32 true (.t 4)⟩,
    ⟨none, none, .store 32 (.t 2) (.t 21)⟩,
    ⟨none, (some 3), .mov (.k (.bool true))⟩])
  .ret)))))
  ntmps := 22
  res := [.cell 2 32 true, .tmp 3]

theorem a42_ok : compileFn P Try.f42 = some a42 := by kernel_rfl

-- 44 admission/digest.ParseHalf
def a44 : AFn where
  code := (.seq (.region false [⟨none, (some 2), .alloc (rep 16 (w8 0#8))⟩,
    ⟨none, (some 3), .mov (.k (.bool false))⟩])
  (.seq (.region false [⟨none, (some 4), .alloc (rep 16 (w8 0#8))⟩])
  (.seq (.seq (.region false [⟨none, (some 5), .mov (.t 0)⟩,
    ⟨none, (some 6), .slcA 16 1 (.t 4) none none⟩,
    ⟨none, (some 7), .call (.k (.fn (.func 58) [] [])) [(.t 5), (.t 6)]⟩,
    ⟨none, (some 8), .un .not (.t 7)⟩])
  (.cond (.t 8) (.seq (.region false [⟨none, (some 9), .build (rep 16 (w8 0#8)) []⟩,
    ⟨none, none, .store 16 (.t 2) (.t 9)⟩,
    ⟨none, (some 3), .mov (.k (.bool false))⟩])
  .ret)
  .skip))
  (.seq (.region false [⟨none, (some 10), .load 16 true (.t 4)⟩,
    ⟨none, none, .store 16 (.t 2) (.t 10)⟩,
    ⟨none, (some 3), .mov (.k (.bool true))⟩])
  .ret))))
  ntmps := 11
  res := [.cell 2 16 true, .tmp 3]

theorem a44_ok : compileFn P Try.f44 = some a44 := by kernel_rfl

-- 60 admission/digest.hex
def a60L0 : ACode :=
  (.seq (.region false [⟨none, (some 9), .bin .lss (.t 8) (.t 7)⟩])
  (.seq (.cond (.t 9) .skip
  (.exit 0))
  (.seq (.block 1 (.seq (.region false [⟨none, (some 10), .idxS 1 (.t 6) (.t 8)⟩,
    ⟨none, (some 11), .load 1 false (.t 10)⟩,
    ⟨none, (some 5), .mov (.t 11)⟩])
  (.seq (.region false [⟨none, (some 12), .mov (.t 5)⟩,
    ⟨none, (some 13), .bin .shr (.t 12) (.k (w64 4#64))⟩,
    ⟨none, (some 14), .idxStr (.k (.str [48, 49, 50, 51, 52, 53, 54, 55, 56, 57, 97, 98, 99, 100, 101, 102])) (.t 13)⟩,
    ⟨none, (some 15), .call (.k (.fn (.func 72) [] [])) [(.t 3), (.t 14)]⟩])
  (.region false [⟨none, (some 16), .mov (.t 5)⟩,
    ⟨none, (some 17), .bin .and (.t 16) (.k (w8 15#8))⟩,
    ⟨none, (some 18), .idxStr (.k (.str [48, 49, 50, 51, 52, 53, 54, 55, 56, 57, 97, 98, 99, 100, 101, 102])) (.t 17)⟩,
    ⟨none, (some 19), .call (.k (.fn (.func 72) [] [])) [(.t 3), (.t 18)]⟩]))))
  (.region false [⟨none, (some 20), .bin .add (.t 8) (.k (.int .i64 1))⟩,
    ⟨none, (some 8), .mov (.t 20)⟩]))))
/-- 3:out 6: 7: 8: -/
def a60S0 (x3 x6 x7 x8 : DV) (h : List AObj) : St := ⟨[.junk, .junk, .junk, x3, .junk, .junk, x6, x7, x8] ++ js 13, h⟩

def a60 : AFn where
  code := (.seq (.region false [⟨none, (some 2), .mov (.k (.str []))⟩])
  (.seq (.region false [⟨none, (some 3), .alloc [.nilp, .nils]⟩])
  (.seq (.seq (.region false [⟨none, (some 6), .mov (.t 0)⟩,
    ⟨none, (some 7), .len (.t 6)⟩,
    ⟨none, (some 8), .mov (.k (.int .i64 0))⟩])
  (.block 0 (.loop a60L0)))
  (.seq (.region false [⟨none, (some 21), .call (.k (.fn (.func 73) [] [])) [(.t 3)]⟩,
    ⟨none, (some 2), .mov (.t 21)⟩])
  .ret))))
  ntmps := 22
  res := [.tmp 2]

theorem a60_ok : compileFn P Try.f60 = some a60 := by kernel_rfl

-- 46 admission/digest.Format
def a46 : AFn where
  code := (.seq (.region false [⟨none, (some 1), .box (.t 0)⟩,
    ⟨none, (some 2), .mov (.k (.str []))⟩])
  (.seq (.region false [⟨none, (some 3), .slcA 32 1 (.t 1) none none⟩,
    ⟨none, (some 4), .call (.k (.fn (.func 60) [] [])) [(.t 3)]⟩,
    ⟨none, (some 5), .bin .add (.k (.str [115, 104, 97, 50, 53, 54, 58])) (.t 4)⟩,
    ⟨none, (some 2), .mov (.t 5)⟩])
  .ret))
  ntmps := 6
  res := [.tmp 2]

theorem a46_ok : compileFn P Try.f46 = some a46 := by kernel_rfl

-- 48 admission/digest.FormatHalf
def a48 : AFn where
  code := (.seq (.region false [⟨none, (some 1), .box (.t 0)⟩,
    ⟨none, (some 2), .mov (.k (.str []))⟩])
  (.seq (.region false [⟨none, (some 3), .slcA 16 1 (.t 1) none none⟩,
    ⟨none, (some 4), .call (.k (.fn (.func 60) [] [])) [(.t 3)]⟩,
    ⟨none, (some 2), .mov (.t 4)⟩])
  .ret))
  ntmps := 5
  res := [.tmp 2]

theorem a48_ok : compileFn P Try.f48 = some a48 := by kernel_rfl

-- 61 admission/admissionref01.hex
def a61L0 : ACode :=
  (.seq (.seq (.region false [⟨none, (some 6), .mov (.t 5)⟩,
    ⟨none, (some 7), .mov (.t 0)⟩,
    ⟨none, (some 8), .len (.t 7)⟩,
    ⟨none, (some 9), .bin .lss (.t 6) (.t 8)⟩])
  (.cond (.t 9) .skip
  (.exit 0)))
  (.seq (.block 1 (.region true [⟨none, (some 12), .mov (.t 4)⟩,
    ⟨none, (some 13), .mov (.t 3)⟩,
    ⟨none, (some 14), .mov (.t 0)⟩,
    ⟨none, (some 15), .mov (.t 5)⟩,
    ⟨none, (some 16), .idxS 1 (.t 14) (.t 15)⟩,
    ⟨none, (some 17), .load 1 false (.t 16)⟩,
    ⟨none, (some 18), .bin .shr (.t 17) (.k (w64 4#64))⟩,
    ⟨none, (some 19), .idxStr (.t 13) (.t 18)⟩,
    ⟨none, (some 20), .mov (.t 3)⟩,
    ⟨none, (some 21), .mov (.t 0)⟩,
    ⟨none, (some 22), .mov (.t 5)⟩,
    ⟨none, (some 23), .idxS 1 (.t 21) (.t 22)⟩,
    ⟨none, (some 24), .load 1 false (.t 23)⟩,
    ⟨none, (some 25), .bin .and (.t 24) (.k (w8 15#8))⟩,
    ⟨none, (some 26), .idxStr (.t 20) (.t 25)⟩,
    ⟨none, (some 27), .bsl 1 2 [(w8 0#8)] [(0, 1, (.t 19)), (1, 1, (.t 26))]⟩,
    ⟨none, (some 28), .app 1 1 (.t 12) (.t 27)⟩,
    ⟨none, (some 4), .mov (.t 28)⟩]))
  (.region false [⟨none, (some 10), .mov (.t 5)⟩,
    ⟨none, (some 11), .bin .add (.t 10) (.k (.int .i64 1))⟩,
    ⟨none, (some 5), .mov (.t 11)⟩])))
/-- 0:b 3:digits 4:s 5:i -/
def a61S0 (x0 x3 x4 x5 : DV) (h : List AObj) : St := ⟨[x0, .junk, .junk, x3, x4, x5] ++ js 25, h⟩

def a61 : AFn where
  code := (.seq (.region false [⟨none, (some 2), .mov (.k (.str []))⟩])
  (.seq (.region false [⟨none, (some 3), .mov (.k (.str [48, 49, 50, 51, 52, 53, 54, 55, 56, 57, 97, 98, 99, 100, 101, 102]))⟩])
  (.seq (.region false [⟨none, (some 4), .mov (.k .nils)⟩])
  (.seq (.seq (.region false [⟨none, (some 5), .mov (.k (.int .i64 0))⟩])
  (.block 0 (.loop a61L0)))
  (.seq (.region false [⟨none, (some 29), .mov (.t 4)⟩,
    ⟨none, (some 30), .cbs (.t 29)⟩,
    ⟨none, (some 2), .mov (.t 30)⟩])
  .ret)))))
  ntmps := 31
  res := [.tmp 2]

theorem a61_ok : compileFn P Try.f61 = some a61 := by kernel_rfl

-- 71 admission/admissionref01.value
def a71 : AFn where
  code := (.seq (.region false [⟨none, (some 2), .mov (.k (.int .i64 0))⟩])
  (.seq (.seq (.region false [⟨none, (some 3), .mov (.t 0)⟩,
    ⟨none, (some 4), .bin .geq (.t 3) (.k (w8 48#8))⟩,
    ⟨none, (some 5), .mov (.t 4)⟩,
    ⟨(some (5, true)), (some 6), .mov (.t 0)⟩,
    ⟨(some (5, true)), (some 7), .bin .leq (.t 6) (.k (w8 57#8))⟩,
    ⟨none, (some 8), .pick (.t 5) (.t 7) (.k (.bool false))⟩])
  (.cond (.t 8) (.seq (.region false [⟨none, (some 9), .mov (.t 0)⟩,
    ⟨none, (some 10), .bin .sub (.t 9) (.k (w8 48#8))⟩,
    ⟨none, (some 11), .conv .i64 (.t 10)⟩,
    ⟨none, (some 2), .mov (.t 11)⟩])
  .ret)
  .skip))
  (.seq (.seq (.region false [⟨none, (some 12), .mov (.t 0)⟩,
    ⟨none, (some 13), .bin .geq (.t 12) (.k (w8 97#8))⟩,
    ⟨none, (some 14), .mov (.t 13)⟩,
    ⟨(some (14, true)), (some 15), .mov (.t 0)⟩,
    ⟨(some (14, true)), (some 16), .bin .leq (.t 15) (.k (w8 102#8))⟩,
    ⟨none, (some 17), .pick (.t 14) (.t 16) (.k (.bool false))⟩])
  (.cond (.t 17) (.seq (.region false [⟨none, (some 18), .mov (.t 0)⟩,
    ⟨none, (some 19), .bin .sub (.t 18) (.k (w8 97#8))⟩,
    ⟨none, (some 20), .conv .i64 (.t 19)⟩,
    ⟨none, (some 21), .bin .add (.t 20) (.k (.int .i64 10))⟩,
    ⟨none, (some 2), .mov (.t 21)⟩])
  .ret)
  .skip))
  (.seq (.region false [⟨none, (some 2), .mov (.k (.int .i64 16))⟩])
  .ret))))
  ntmps := 22
  res := [.tmp 2]

theorem a71_ok : compileFn P Try.f71 = some a71 := by kernel_rfl

-- 59 admission/admissionref01.unhex
def a59L0 : ACode :=
  (.seq (.seq (.region false [⟨none, (some 15), .mov (.t 7)⟩,
    ⟨none, (some 16), .mov (.t 1)⟩,
    ⟨none, (some 17), .bin .lss (.t 15) (.t 16)⟩])
  (.cond (.t 17) .skip
  (.exit 0)))
  (.seq (.block 1 (.seq (.region true [⟨none, (some 20), .mov (.t 0)⟩,
    ⟨none, (some 21), .mov (.t 7)⟩,
    ⟨none, (some 22), .bin .mul (.k (.int .i64 2)) (.t 21)⟩,
    ⟨none, (some 23), .idxStr (.t 20) (.t 22)⟩,
    ⟨none, (some 24), .call (.k (.fn (.func 71) [] [])) [(.t 23)]⟩,
    ⟨none, (some 25), .mov (.t 0)⟩,
    ⟨none, (some 26), .mov (.t 7)⟩,
    ⟨none, (some 27), .bin .mul (.k (.int .i64 2)) (.t 26)⟩,
    ⟨none, (some 28), .bin .add (.t 27) (.k (.int .i64 1))⟩,
    ⟨none, (some 29), .idxStr (.t 25) (.t 28)⟩,
    ⟨none, (some 30), .call (.k (.fn (.func 71) [] [])) [(.t 29)]⟩,
    ⟨none, (some 8), .mov (.t 24)⟩,
    ⟨none, (some 9), .mov (.t 30)⟩])
  (.seq (.seq (.region false [⟨none, (some 31), .mov (.t 8)⟩,
    ⟨none, (some 32), .bin .eql (.t 31) (.k (.int .i64 16))⟩,
    ⟨none, (some 33), .mov (.t 32)⟩,
    ⟨(some (33, false)), (some 34), .mov (.t 9)⟩,
    ⟨(some (33, false)), (some 35), .bin .eql (.t 34) (.k (.int .i64 16))⟩,
    ⟨none, (some 36), .pick (.t 33) (.k (.bool true)) (.t 35)⟩])
  (.cond (.t 36) (.seq (.region false [⟨none, (some 4), .mov (.k .nils)⟩,
    ⟨none, (some 5), .mov (.k (.bool false))⟩])
  .ret)
  .skip))
  (.region false [⟨none, (some 37), .mov (.t 6)⟩,
    ⟨none, (some 38), .mov (.t 8)⟩,
    ⟨none, (some 39), .bin .mul (.k (.int .i64 16)) (.t 38)⟩,
    ⟨none, (some 40), .mov (.t 9)⟩,
    ⟨none, (some 41), .bin .add (.t 39) (.t 40)⟩,
    ⟨none, (some 42), .conv .u8 (.t 41)⟩,
    ⟨none, (some 43), .bsl 1 1 [(w8 0#8)] [(0, 1, (.t 42))]⟩,
    ⟨none, (some 44), .app 1 1 (.t 37) (.t 43)⟩,
    ⟨none, (some 6), .mov (.t 44)⟩]))))
  (.region false [⟨none, (some 18), .mov (.t 7)⟩,
    ⟨none, (some 19), .bin .add (.t 18) (.k (.int .i64 1))⟩,
    ⟨none, (some 7), .mov (.t 19)⟩])))
/-- 0:s 1:n 6:out 7:i -/
def a59S0 (x0 x1 x6 x7 : DV) (h : List AObj) : St := ⟨[x0, x1] ++ js 4 ++ [x6, x7] ++ js 38, h⟩

def a59 : AFn where
  code := (.seq (.region false [⟨none, (some 4), .mov (.k .nils)⟩,
    ⟨none, (some 5), .mov (.k (.bool false))⟩])
  (.seq (.seq (.region false [⟨none, (some 10), .mov (.t 0)⟩,
    ⟨none, (some 11), .lenStr (.t 10)⟩,
    ⟨none, (some 12), .mov (.t 1)⟩,
    ⟨none, (some 13), .bin .mul (.k (.int .i64 2)) (.t 12)⟩,
    ⟨none, (some 14), .bin .neq (.t 11) (.t 13)⟩])
  (.cond (.t 14) (.seq (.region false [⟨none, (some 4), .mov (.k .nils)⟩,
    ⟨none, (some 5), .mov (.k (.bool false))⟩])
  .ret)
  .skip))
  (.seq (.region false [⟨none, (some 6), .mov (.k .nils)⟩])
  (.seq (.seq (.region false [⟨none, (some 7), .mov (.k (.int .i64 0))⟩])
  (.block 0 (.loop a59L0)))
  (.seq (.region false [⟨none, (some 45), .mov (.t 6)⟩,
    ⟨none, (some 4), .mov (.t 45)⟩,
    ⟨none, (some 5), .mov (.k (.bool true))⟩])
  .ret)))))
  ntmps := 46
  res := [.tmp 4, .tmp 5]

theorem a59_ok : compileFn P Try.f59 = some a59 := by kernel_rfl

-- 47 admission/admissionref01.Format
def a47L0 : ACode :=
  (.seq (.seq (.region false [⟨none, (some 5), .mov (.t 4)⟩,
    ⟨none, (some 6), .bin .lss (.t 5) (.k (.int .i64 32))⟩])
  (.cond (.t 6) .skip
  (.exit 0)))
  (.seq (.block 1 (.region false [⟨none, (some 9), .mov (.t 3)⟩,
    ⟨none, (some 10), .mov (.t 4)⟩,
    ⟨none, (some 11), .idxA 32 1 (.t 1) (.t 10)⟩,
    ⟨none, (some 12), .load 1 false (.t 11)⟩,
    ⟨none, (some 13), .bsl 1 1 [(w8 0#8)] [(0, 1, (.t 12))]⟩,
    ⟨none, (some 14), .app 1 1 (.t 9) (.t 13)⟩,
    ⟨none, (some 3), .mov (.t 14)⟩]))
  (.region false [⟨none, (some 7), .mov (.t 4)⟩,
    ⟨none, (some 8), .bin .add (.t 7) (.k (.int .i64 1))⟩,
    ⟨none, (some 4), .mov (.t 8)⟩])))
/-- 1:d 3:b 4:i -/
def a47S0 (x1 x3 x4 : DV) (h : List AObj) : St := ⟨[.junk, x1, .junk, x3, x4] ++ js 13, h⟩

def a47 : AFn where
  code := (.seq (.region false [⟨none, (some 1), .box (.t 0)⟩,
    ⟨none, (some 2), .mov (.k (.str []))⟩])
  (.seq (.region false [⟨none, (some 3), .mov (.k .nils)⟩])
  (.seq (.seq (.region false [⟨none, (some 4), .mov (.k (.int .i64 0))⟩])
  (.block 0 (.loop a47L0)))
  (.seq (.region false [⟨none, (some 15), .mov (.t 3)⟩,
    ⟨none, (some 16), .call (.k (.fn (.func 61) [] [])) [(.t 15)]⟩,
    ⟨none, (some 17), .bin .add (.k (.str [115, 104, 97, 50, 53, 54, 58])) (.t 16)⟩,
    ⟨none, (some 2), .mov (.t 17)⟩])
  .ret))))
  ntmps := 18
  res := [.tmp 2]

theorem a47_ok : compileFn P Try.f47 = some a47 := by kernel_rfl

-- 43 admission/admissionref01.Parse
def a43L0 : ACode :=
  (.seq (.seq (.region false [⟨none, (some 23), .mov (.t 7)⟩,
    ⟨none, (some 24), .mov (.t 5)⟩,
    ⟨none, (some 25), .len (.t 24)⟩,
    ⟨none, (some 26), .bin .lss (.t 23) (.t 25)⟩])
  (.cond (.t 26) .skip
  (.exit 0)))
  (.seq (.block 1 (.region false [⟨none, (some 29), .mov (.t 7)⟩,
    ⟨none, (some 30), .mov (.t 5)⟩,
    ⟨none, (some 31), .mov (.t 7)⟩,
    ⟨none, (some 32), .idxS 1 (.t 30) (.t 31)⟩,
    ⟨none, (some 33), .load 1 false (.t 32)⟩,
    ⟨none, (some 34), .idxA 32 1 (.t 4) (.t 29)⟩,
    ⟨none, none, .store 1 (.t 34) (.t 33)⟩]))
  (.region false [⟨none, (some 27), .mov (.t 7)⟩,
    ⟨none, (some 28), .bin .add (.t 27) (.k (.int .i64 1))⟩,
    ⟨none, (some 7), .mov (.t 28)⟩])))
/-- 2: 4:d 5:b 6:ok 7:i -/
def a43S0 (x2 x4 x5 x6 x7 : DV) (h : List AObj) : St := ⟨[.junk, .junk, x2, .junk, x4, x5, x6, x7] ++ js 29, h⟩

def a43 : AFn where
  code := (.seq (.region false [⟨none, (some 2), .alloc (rep 32 (w8 0#8))⟩,
    ⟨none, (some 3), .mov (.k (.bool false))⟩])
  (.seq (.region false [⟨none, (some 4), .alloc (rep 32 (w8 0#8))⟩])
  (.seq (.seq (.region false [⟨none, (some 8), .mov (.t 0)⟩,
    ⟨none, (some 9), .lenStr (.t 8)⟩,
    ⟨none, (some 10), .bin .neq (.t 9) (.k (.int .i64 71))⟩,
    ⟨none, (some 11), .mov (.t 10)⟩,
    ⟨(some (11, false)), (some 12), .mov (.t 0)⟩,
    ⟨(some (11, false)), (some 13), .slcStr (.t 12) none (some (.k (.int .i64 7)))⟩,
    ⟨(some (11, false)), (some 14), .bin .neq (.t 13) (.k (.str [115, 104, 97, 50, 53, 54, 58]))⟩,
    ⟨none, (some 15), .pick (.t 11) (.k (.bool true)) (.t 14)⟩])
  (.cond (.t 15) (.seq (.region false [⟨none, (some 16), .load 32 true (.t 4)⟩,
    ⟨none, none, .store 32 (.t 2) (.t 16)⟩,
    ⟨none, (some 3), .mov (.k (.bool false))⟩])
  .ret)
  .skip))
  (.seq (.region false [⟨none, (some 18), .mov (.t 0)⟩,
    ⟨none, (some 19), .slcStr (.t 18) (some (.k (.int .i64 7))) none⟩,
    ⟨none, (some 20), .call (.k (.fn (.func 59) [] [])) [(.t 19), (.k (.int .i64 32))]⟩,
    ⟨none, (some 17), .mov (.t 20)⟩,
    ⟨none, (some 21), .ext (.t 17) 0⟩,
    ⟨none, (some 22), .ext (.t 17) 1⟩,
    ⟨none, (some 5), .mov (.t 21)⟩,
    ⟨none, (some 6), .mov (.t 22)⟩])
  (.seq (.seq (.region false [⟨none, (some 7), .mov (.k (.int .i64 0))⟩])
  (.block 0 (.loop a43L0)))
  (.seq (.region false [⟨none, (some 35), .load 32 true (.t 4)⟩,
    ⟨none, (some 36), .mov (.t 6)⟩,
    ⟨none, none, .store 32 (.t 2) (.t 35)⟩,
    ⟨none, (some 3), .mov (.t 36)⟩])
  .ret))))))
  ntmps := 37
  res := [.cell 2 32 true, .tmp 3]

theorem a43_ok : compileFn P Try.f43 = some a43 := by kernel_rfl

-- 49 admission/admissionref01.FormatHalf
def a49L0 : ACode :=
  (.seq (.seq (.region false [⟨none, (some 5), .mov (.t 4)⟩,
    ⟨none, (some 6), .bin .lss (.t 5) (.k (.int .i64 16))⟩])
  (.cond (.t 6) .skip
  (.exit 0)))
  (.seq (.block 1 (.region false [⟨none, (some 9), .mov (.t 3)⟩,
    ⟨none, (some 10), .mov (.t 4)⟩,
    ⟨none, (some 11), .idxA 16 1 (.t 1) (.t 10)⟩,
    ⟨none, (some 12), .load 1 false (.t 11)⟩,
    ⟨none, (some 13), .bsl 1 1 [(w8 0#8)] [(0, 1, (.t 12))]⟩,
    ⟨none, (some 14), .app 1 1 (.t 9) (.t 13)⟩,
    ⟨none, (some 3), .mov (.t 14)⟩]))
  (.region false [⟨none, (some 7), .mov (.t 4)⟩,
    ⟨none, (some 8), .bin .add (.t 7) (.k (.int .i64 1))⟩,
    ⟨none, (some 4), .mov (.t 8)⟩])))
/-- 1:h 3:b 4:i -/
def a49S0 (x1 x3 x4 : DV) (h : List AObj) : St := ⟨[.junk, x1, .junk, x3, x4] ++ js 12, h⟩

def a49 : AFn where
  code := (.seq (.region false [⟨none, (some 1), .box (.t 0)⟩,
    ⟨none, (some 2), .mov (.k (.str []))⟩])
  (.seq (.region false [⟨none, (some 3), .mov (.k .nils)⟩])
  (.seq (.seq (.region false [⟨none, (some 4), .mov (.k (.int .i64 0))⟩])
  (.block 0 (.loop a49L0)))
  (.seq (.region false [⟨none, (some 15), .mov (.t 3)⟩,
    ⟨none, (some 16), .call (.k (.fn (.func 61) [] [])) [(.t 15)]⟩,
    ⟨none, (some 2), .mov (.t 16)⟩])
  .ret))))
  ntmps := 17
  res := [.tmp 2]

theorem a49_ok : compileFn P Try.f49 = some a49 := by kernel_rfl

-- 45 admission/admissionref01.ParseHalf
def a45L0 : ACode :=
  (.seq (.seq (.region false [⟨none, (some 13), .mov (.t 7)⟩,
    ⟨none, (some 14), .mov (.t 5)⟩,
    ⟨none, (some 15), .len (.t 14)⟩,
    ⟨none, (some 16), .bin .lss (.t 13) (.t 15)⟩])
  (.cond (.t 16) .skip
  (.exit 0)))
  (.seq (.block 1 (.region false [⟨none, (some 19), .mov (.t 7)⟩,
    ⟨none, (some 20), .mov (.t 5)⟩,
    ⟨none, (some 21), .mov (.t 7)⟩,
    ⟨none, (some 22), .idxS 1 (.t 20) (.t 21)⟩,
    ⟨none, (some 23), .load 1 false (.t 22)⟩,
    ⟨none, (some 24), .idxA 16 1 (.t 4) (.t 19)⟩,
    ⟨none, none, .store 1 (.t 24) (.t 23)⟩]))
  (.region false [⟨none, (some 17), .mov (.t 7)⟩,
    ⟨none, (some 18), .bin .add (.t 17) (.k (.int .i64 1))⟩,
    ⟨none, (some 7), .mov (.t 18)⟩])))
/-- 2: 4:h 5:b 6:ok 7:i -/
def a45S0 (x2 x4 x5 x6 x7 : DV) (h : List AObj) : St := ⟨[.junk, .junk, x2, .junk, x4, x5, x6, x7] ++ js 19, h⟩

def a45 : AFn where
  code := (.seq (.region false [⟨none, (some 2), .alloc (rep 16 (w8 0#8))⟩,
    ⟨none, (some 3), .mov (.k (.bool false))⟩])
  (.seq (.region false [⟨none, (some 4), .alloc (rep 16 (w8 0#8))⟩])
  (.seq (.region false [⟨none, (some 9), .mov (.t 0)⟩,
    ⟨none, (some 10), .call (.k (.fn (.func 59) [] [])) [(.t 9), (.k (.int .i64 16))]⟩,
    ⟨none, (some 8), .mov (.t 10)⟩,
    ⟨none, (some 11), .ext (.t 8) 0⟩,
    ⟨none, (some 12), .ext (.t 8) 1⟩,
    ⟨none, (some 5), .mov (.t 11)⟩,
    ⟨none, (some 6), .mov (.t 12)⟩])
  (.seq (.seq (.region false [⟨none, (some 7), .mov (.k (.int .i64 0))⟩])
  (.block 0 (.loop a45L0)))
  (.seq (.region false [⟨none, (some 25), .load 16 true (.t 4)⟩,
    ⟨none, (some 26), .mov (.t 6)⟩,
    ⟨none, none, .store 16 (.t 2) (.t 25)⟩,
    ⟨none, (some 3), .mov (.t 26)⟩])
  .ret)))))
  ntmps := 27
  res := [.cell 2 16 true, .tmp 3]

theorem a45_ok : compileFn P Try.f45 = some a45 := by kernel_rfl

-- 14 admission/admissionlaw01.DigestTexts
def a14 : AFn where
  code := (.seq (.region false [⟨none, (some 3), .box (.t 0)⟩,
    ⟨none, (some 4), .box (.t 1)⟩,
    ⟨none, (some 6), .mov (.k (.bool false))⟩])
  (.seq (.seq (.region false [⟨none, (some 15), .mov (.t 2)⟩,
    ⟨none, (some 16), .lenStr (.t 15)⟩,
    ⟨none, (some 17), .bin .gtr (.t 16) (.k (.int .i64 300))⟩])
  (.cond (.t 17) (.seq (.region false [⟨none, (some 6), .mov (.k (.bool true))⟩])
  .ret)
  .skip))
  (.seq (.region false [⟨none, (some 19), .mov (.t 2)⟩,
    ⟨none, (some 20), .call (.k (.fn (.func 42) [] [])) [(.t 19)]⟩,
    ⟨none, (some 18), .mov (.t 20)⟩,
    ⟨none, (some 21), .ext (.t 18) 0⟩,
    ⟨none, (some 22), .ext (.t 18) 1⟩,
    ⟨none, (some 7), .alloc (rep 32 (w8 0#8))⟩,
    ⟨none, none, .store 32 (.t 7) (.t 21)⟩,
    ⟨none, (some 8), .mov (.t 22)⟩])
  (.seq (.region false [⟨none, (some 24), .mov (.t 2)⟩,
    ⟨none, (some 25), .call (.k (.fn (.func 43) [] [])) [(.t 24)]⟩,
    ⟨none, (some 23), .mov (.t 25)⟩,
    ⟨none, (some 26), .ext (.t 23) 0⟩,
    ⟨none, (some 27), .ext (.t 23) 1⟩,
    ⟨none, (some 9), .alloc (rep 32 (w8 0#8))⟩,
    ⟨none, none, .store 32 (.t 9) (.t 26)⟩,
    ⟨none, (some 10), .mov (.t 27)⟩])
  (.seq (.region false [⟨none, (some 29), .mov (.t 2)⟩,
    ⟨none, (some 30), .call (.k (.fn (.func 44) [] [])) [(.t 29)]⟩,
    ⟨none, (some 28), .mov (.t 30)⟩,
    ⟨none, (some 31), .ext (.t 28) 0⟩,
    ⟨none, (some 32), .ext (.t 28) 1⟩,
    ⟨none, (some 11), .alloc (rep 16 (w8 0#8))⟩,
    ⟨none, none, .store 16 (.t 11) (.t 31)⟩,
    ⟨none, (some 12), .mov (.t 32)⟩])
  (.seq (.region false [⟨none, (some 34), .mov (.t 2)⟩,
    ⟨none, (some 35), .call (.k (.fn (.func 45) [] [])) [(.t 34)]⟩,
    ⟨none, (some 33), .mov (.t 35)⟩,
    ⟨none, (some 36), .ext (.t 33) 0⟩,
    ⟨none, (some 37), .ext (.t 33) 1⟩,
    ⟨none, (some 13), .alloc (rep 16 (w8 0#8))⟩,
    ⟨none, none, .store 16 (.t 13) (.t 36)⟩,
    ⟨none, (some 14), .mov (.t 37)⟩])
  (.seq (.region true [⟨none, (some 38), .call (.k (.fn (.func 32) [] [])) []⟩,
    ⟨none, (some 39), .mov (.t 38)⟩,
    ⟨(some (39, true)), (some 40), .load 32 true (.t 3)⟩,
    ⟨(some (39, true)), (some 41), .call (.k (.fn (.func 46) [] [])) [(.t 40)]⟩,
    ⟨(some (39, true)), (some 42), .load 32 true (.t 3)⟩,
    ⟨(some (39, true)), (some 43), .call (.k (.fn (.func 47) [] [])) [(.t 42)]⟩,
    ⟨(some (39, true)), (some 44), .bin .eql (.t 41) (.t 43)⟩,
    ⟨none, (some 45), .pick (.t 39) (.t 44) (.k (.bool false))⟩,
    ⟨none, (some 46), .mov (.t 45)⟩,
    ⟨(some (46, true)), (some 47), .load 16 true (.t 4)⟩,
    ⟨(some (46, true)), (some 48), .call (.k (.fn (.func 48) [] [])) [(.t 47)]⟩,
    ⟨(some (46, true)), (some 49), .load 16 true (.t 4)⟩,
    ⟨(some (46, true)), (some 50), .call (.k (.fn (.func 49) [] [])) [(.t 49)]⟩,
    ⟨(some (46, true)), (some 51), .bin .eql (.t 48) (.t 50)⟩,
    ⟨none, (some 52), .pick (.t 46) (.t 51) (.k (.bool false))⟩,
    ⟨none, (some 53), .mov (.t 52)⟩,
    ⟨(some (53, true)), (some 54), .load 32 true (.t 7)⟩,
    ⟨(some (53, true)), (some 55), .load 32 true (.t 9)⟩,
    ⟨(some (53, true)), (some 56), .eqa false [(32, 0)] (.t 54) (.t 55)⟩,
    ⟨none, (some 57), .pick (.t 53) (.t 56) (.k (.bool false))⟩,
    ⟨none, (some 58), .mov (.t 57)⟩,
    ⟨(some (58, true)), (some 59), .mov (.t 8)⟩,
    ⟨(some (58, true)), (some 60), .mov (.t 10)⟩,
    ⟨(some (58, true)), (some 61), .eqb false (.t 59) (.t 60)⟩,
    ⟨none, (some 62), .pick (.t 58) (.t 61) (.k (.bool false))⟩,
    ⟨none, (some 63), .mov (.t 62)⟩,
    ⟨(some (63, true)), (some 64), .load 16 true (.t 11)⟩,
    ⟨(some (63, true)), (some 65), .load 16 true (.t 13)⟩,
    ⟨(some (63, true)), (some 66), .eqa false [(16, 0)] (.t 64) (.t 65)⟩,
    ⟨none, (some 67), .pick (.t 63) (.t 66) (.k (.bool false))⟩,
    ⟨none, (some 68), .mov (.t 67)⟩,
    ⟨(some (68, true)), (some 69), .mov (.t 12)⟩,
    ⟨(some (68, true)), (some 70), .mov (.t 14)⟩,
    ⟨(some (68, true)), (some 71), .eqb false (.t 69) (.t 70)⟩,
    ⟨none, (some 72), .pick (.t 68) (.t 71) (.k (.bool false))⟩,
    ⟨none, (some 6), .mov (.t 72)⟩])
  .ret)))))))
  ntmps := 73
  res := [.tmp 6]

theorem a14_ok : compileFn P Try.f14 = some a14 := by kernel_rfl

-- 15 admission/admissionlaw01.DigestBack
def a15 : AFn where
  code := (.seq (.region false [⟨none, (some 3), .box (.t 0)⟩,
    ⟨none, (some 4), .box (.t 1)⟩,
    ⟨none, (some 6), .mov (.k (.bool false))⟩])
  (.seq (.seq (.region false [⟨none, (some 15), .mov (.t 2)⟩,
    ⟨none, (some 16), .lenStr (.t 15)⟩,
    ⟨none, (some 17), .bin .gtr (.t 16) (.k (.int .i64 300))⟩])
  (.cond (.t 17) (.seq (.region false [⟨none, (some 6), .mov (.k (.bool true))⟩])
  .ret)
  .skip))
  (.seq (.region false [⟨none, (some 19), .load 32 true (.t 3)⟩,
    ⟨none, (some 20), .call (.k (.fn (.func 46) [] [])) [(.t 19)]⟩,
    ⟨none, (some 21), .call (.k (.fn (.func 42) [] [])) [(.t 20)]⟩,
    ⟨none, (some 18), .mov (.t 21)⟩,
    ⟨none, (some 22), .ext (.t 18) 0⟩,
    ⟨none, (some 23), .ext (.t 18) 1⟩,
    ⟨none, (some 7), .alloc (rep 32 (w8 0#8))⟩,
    ⟨none, none, .store 32 (.t 7) (.t 22)⟩,
    ⟨none, (some 8), .mov (.t 23)⟩])
  (.seq (.region false [⟨none, (some 25), .load 16 true (.t 4)⟩,
    ⟨none, (some 26), .call (.k (.fn (.func 48) [] [])) [(.t 25)]⟩,
    ⟨none, (some 27), .call (.k (.fn (.func 44) [] [])) [(.t 26)]⟩,
    ⟨none, (some 24), .mov (.t 27)⟩,
    ⟨none, (some 28), .ext (.t 24) 0⟩,
    ⟨none, (some 29), .ext (.t 24) 1⟩,
    ⟨none, (some 9), .alloc (rep 16 (w8 0#8))⟩,
    ⟨none, none, .store 16 (.t 9) (.t 28)⟩,
    ⟨none, (some 10), .mov (.t 29)⟩])
  (.seq (.seq (.region false [⟨none, (some 30), .mov (.t 8)⟩,
    ⟨none, (some 31), .un .not (.t 30)⟩,
    ⟨none, (some 32), .mov (.t 31)⟩,
    ⟨(some (32, false)), (some 33), .mov (.t 10)⟩,
    ⟨(some (32, false)), (some 34), .un .not (.t 33)⟩,
    ⟨none, (some 35), .pick (.t 32) (.k (.bool true)) (.t 34)⟩,
    ⟨none, (some 36), .mov (.t 35)⟩,
    ⟨(some (36, false)), (some 37), .load 32 true (.t 7)⟩,
    ⟨(some (36, false)), (some 38), .load 32 true (.t 3)⟩,
    ⟨(some (36, false)), (some 39), .eqa true [(32, 0)] (.t 37) (.t 38)⟩,
    ⟨none, (some 40), .pick (.t 36) (.k (.bool true)) (.t 39)⟩,
    ⟨none, (some 41), .mov (.t 40)⟩,
    ⟨(some (41, false)), (some 42), .load 16 true (.t 9)⟩,
    ⟨(some (41, false)), (some 43), .load 16 true (.t 4)⟩,
    ⟨(some (41, false)), (some 44), .eqa true [(16, 0)] (.t 42) (.t 43)⟩,
    ⟨none, (some 45), .pick (.t 41) (.k (.bool true)) (.t 44)⟩])
  (.cond (.t 45) (.seq (.region false [⟨none, (some 6), .mov (.k (.bool false))⟩])
  .ret)
  .skip))
  (.seq (.seq (.region false [⟨none, (some 47), .mov (.t 2)⟩,
    ⟨none, (some 48), .call (.k (.fn (.func 42) [] [])) [(.t 47)]⟩,
    ⟨none, (some 46), .mov (.t 48)⟩,
    ⟨none, (some 49), .ext (.t 46) 0⟩,
    ⟨none, (some 50), .ext (.t 46) 1⟩,
    ⟨none, (some 11), .alloc (rep 32 (w8 0#8))⟩,
    ⟨none, none, .store 32 (.t 11) (.t 49)⟩,
    ⟨none, (some 12), .mov (.t 50)⟩])
  (.seq (.region false [⟨none, (some 51), .mov (.t 12)⟩,
    ⟨none, (some 52), .mov (.t 51)⟩,
    ⟨(some (52, true)), (some 53), .load 32 true (.t 11)⟩,
    ⟨(some (52, true)), (some 54), .call (.k (.fn (.func 46) [] [])) [(.t 53)]⟩,
    ⟨(some (52, true)), (some 55), .mov (.t 2)⟩,
    ⟨(some (52, true)), (some 56), .bin .neq (.t 54) (.t 55)⟩,
    ⟨none, (some 57), .pick (.t 52) (.t 56) (.k (.bool false))⟩])
  (.cond (.t 57) (.seq (.region false [⟨none, (some 6), .mov (.k (.bool false))⟩])
  .ret)
  .skip)))
  (.seq (.seq (.region false [⟨none, (some 59), .mov (.t 2)⟩,
    ⟨none, (some 60), .call (.k (.fn (.func 44) [] [])) [(.t 59)]⟩,
    ⟨none, (some 58), .mov (.t 60)⟩,
    ⟨none, (some 61), .ext (.t 58) 0⟩,
    ⟨none, (some 62), .ext (.t 58) 1⟩,
    ⟨none, (some 13), .alloc (rep 16 (w8 0#8))⟩,
    ⟨none, none, .store 16 (.t 13) (.t 61)⟩,
    ⟨none, (some 14), .mov (.t 62)⟩])
  (.seq (.region false [⟨none, (some 63), .mov (.t 14)⟩,
    ⟨none, (some 64), .mov (.t 63)⟩,
    ⟨(some (64, true)), (some 65), .load 16 true (.t 13)⟩,
    ⟨(some (64, true)), (some 66), .call (.k (.fn (.func 48) [] [])) [(.t 65)]⟩,
    ⟨(some (64, true)), (some 67), .mov (.t 2)⟩,
    ⟨(some (64, true)), (some 68), .bin .neq (.t 66) (.t 67)⟩,
    ⟨none, (some 69), .pick (.t 64) (.t 68) (.k (.bool false))⟩])
  (.cond (.t 69) (.seq (.region false [⟨none, (some 6), .mov (.k (.bool false))⟩])
  .ret)
  .skip)))
  (.seq (.region false [⟨none, (some 70), .call (.k (.fn (.func 32) [] [])) []⟩,
    ⟨none, (some 6), .mov (.t 70)⟩])
  .ret))))))))
  ntmps := 71
  res := [.tmp 6]

theorem a15_ok : compileFn P Try.f15 = some a15 := by kernel_rfl

end Go.Proofs.Ythkcgeokfcbllaa
