/-
  Functions of this claim, as the abstract machine has them. MADE BY A PROGRAM of mine.
-/
import Derived.Test.YthkcgeokfcbllaaAmU
import Derived.Test.YthkcgeokfcbllaaFb
set_option linter.unusedSimpArgs false
set_option linter.unusedVariables false
namespace Go.Proofs.Ythkcgeokfcbllaa
open Go Go.Am
-- 40 admission/digest.Tree
def a40 : AFn where
  code := (.seq (.region false [⟨none, (some 2), .alloc (rep 32 (w8 0#8))⟩])
  (.seq (.seq (.region false [⟨none, (some 4), .mov (.t 0)⟩,
    ⟨none, (some 5), .len (.t 4)⟩])
  (.block 0 (.seq (.region false [⟨none, (some 7), .bin .eql (.t 5) (.k (.int .i64 0))⟩,
    ⟨none, (some 6), .mov (.t 7)⟩])
  (.cond (.t 6) (.seq (.region false [⟨none, (some 8), .build (rep 32 (w8 0#8)) []⟩,
    ⟨none, none, .store 32 (.t 2) (.t 8)⟩])
  .ret)
  (.seq (.region false [⟨none, (some 10), .bin .eql (.t 5) (.k (.int .i64 1))⟩,
    ⟨none, (some 9), .mov (.t 10)⟩])
  (.cond (.t 9) (.seq (.region false [⟨none, (some 11), .mov (.t 0)⟩,
    ⟨none, (some 12), .idxS 32 (.t 11) (.k (.int .i64 0))⟩,
    ⟨none, (some 13), .load 32 true (.t 12)⟩,
    ⟨none, none, .store 32 (.t 2) (.t 13)⟩])
  .ret)
  .skip))))))
  (.seq (.region false [⟨none, (some 14), .mov (.t 0)⟩,
    ⟨none, (some 15), .len (.t 14)⟩,
    ⟨none, (some 16), .bin .sub (.t 15) (.k (.int .i64 1))⟩,
    ⟨none, (some 17), .conv .u64 (.t 16)⟩,
    ⟨none, (some 18), .call (.k (.fn (.func 56) [] [])) [(.t 17)]⟩,
    ⟨none, (some 19), .bin .sub (.t 18) (.k (.int .i64 1))⟩,
    ⟨none, (some 20), .bin .shl (.k (.int .i64 1)) (.t 19)⟩,
    ⟨none, (some 3), .mov (.t 20)⟩])
  (.seq (.region true [⟨none, (some 21), .mov (.t 0)⟩,
    ⟨none, (some 22), .mov (.t 3)⟩,
    ⟨none, (some 23), .slcS 32 (.t 21) none (some (.t 22)) none⟩,
    ⟨none, (some 24), .call (.k (.fn (.func 40) [] [])) [(.t 23)]⟩,
    ⟨none, (some 25), .mov (.t 0)⟩,
    ⟨none, (some 26), .mov (.t 3)⟩,
    ⟨none, (some 27), .slcS 32 (.t 25) (some (.t 26)) none none⟩,
    ⟨none, (some 28), .call (.k (.fn (.func 40) [] [])) [(.t 27)]⟩,
    ⟨none, (some 29), .call (.k (.fn (.func 37) [] [])) [(.t 24), (.t 28)]⟩,
    ⟨none, none, .store 32 (.t 2) (.t 29)⟩])
  .ret))))
  ntmps := 30
  res := [.cell 2 32 true]

theorem a40_ok : compileFn P Try.f40 = some a40 := by kernel_rfl

-- 41 admission/admissionref01.Tree
def a41L0 : ACode :=
  (.seq (.seq (.region false [⟨none, (some 14), .mov (.t 3)⟩,
    ⟨none, (some 15), .bin .mul (.k (.int .i64 2)) (.t 14)⟩,
    ⟨none, (some 16), .mov (.t 0)⟩,
    ⟨none, (some 17), .len (.t 16)⟩,
    ⟨none, (some 18), .bin .lss (.t 15) (.t 17)⟩])
  (.cond (.t 18) .skip
  (.exit 0)))
  (.block 1 (.region false [⟨none, (some 19), .mov (.t 3)⟩,
    ⟨none, (some 20), .bin .mul (.k (.int .i64 2)) (.t 19)⟩,
    ⟨none, (some 3), .mov (.t 20)⟩])))
/-- 0:l 2: 3:k -/
def a41S0 (x0 x2 x3 : DV) (h : List AObj) : St := ⟨[x0, .junk, x2, x3] ++ js 26, h⟩

def a41 : AFn where
  code := (.seq (.region false [⟨none, (some 2), .alloc (rep 32 (w8 0#8))⟩])
  (.seq (.seq (.region false [⟨none, (some 4), .mov (.t 0)⟩,
    ⟨none, (some 5), .len (.t 4)⟩,
    ⟨none, (some 6), .bin .eql (.t 5) (.k (.int .i64 0))⟩])
  (.cond (.t 6) (.seq (.region false [⟨none, (some 7), .build (rep 32 (w8 0#8)) []⟩,
    ⟨none, none, .store 32 (.t 2) (.t 7)⟩])
  .ret)
  .skip))
  (.seq (.seq (.region false [⟨none, (some 8), .mov (.t 0)⟩,
    ⟨none, (some 9), .len (.t 8)⟩,
    ⟨none, (some 10), .bin .eql (.t 9) (.k (.int .i64 1))⟩])
  (.cond (.t 10) (.seq (.region false [⟨none, (some 11), .mov (.t 0)⟩,
    ⟨none, (some 12), .idxS 32 (.t 11) (.k (.int .i64 0))⟩,
    ⟨none, (some 13), .load 32 true (.t 12)⟩,
    ⟨none, none, .store 32 (.t 2) (.t 13)⟩])
  .ret)
  .skip))
  (.seq (.region false [⟨none, (some 3), .mov (.k (.int .i64 1))⟩])
  (.seq (.block 0 (.loop a41L0))
  (.seq (.region true [⟨none, (some 21), .mov (.t 0)⟩,
    ⟨none, (some 22), .mov (.t 3)⟩,
    ⟨none, (some 23), .slcS 32 (.t 21) none (some (.t 22)) none⟩,
    ⟨none, (some 24), .call (.k (.fn (.func 41) [] [])) [(.t 23)]⟩,
    ⟨none, (some 25), .mov (.t 0)⟩,
    ⟨none, (some 26), .mov (.t 3)⟩,
    ⟨none, (some 27), .slcS 32 (.t 25) (some (.t 26)) none none⟩,
    ⟨none, (some 28), .call (.k (.fn (.func 41) [] [])) [(.t 27)]⟩,
    ⟨none, (some 29), .call (.k (.fn (.func 38) [] [])) [(.t 24), (.t 28)]⟩,
    ⟨none, none, .store 32 (.t 2) (.t 29)⟩])
  .ret))))))
  ntmps := 30
  res := [.cell 2 32 true]

theorem a41_ok : compileFn P Try.f41 = some a41 := by kernel_rfl

-- 56 math/bits.Len
def a56 : AFn where
  code := (.seq (.region false [⟨none, (some 2), .mov (.k (.int .i64 0))⟩])
  (.seq (.cond (.k (.bool false)) (.seq (.region false [⟨none, (some 3), .mov (.t 0)⟩,
    ⟨none, (some 4), .conv .u32 (.t 3)⟩,
    ⟨none, (some 5), .call (.k (.fn (.func 67) [] [])) [(.t 4)]⟩,
    ⟨none, (some 2), .mov (.t 5)⟩])
  .ret)
  .skip)
  (.seq (.region false [⟨none, (some 6), .mov (.t 0)⟩,
    ⟨none, (some 7), .call (.k (.fn (.func 68) [] [])) [(.t 6)]⟩,
    ⟨none, (some 2), .mov (.t 7)⟩])
  .ret)))
  ntmps := 8
  res := [.tmp 2]

theorem a56_ok : compileFn P Try.f56 = some a56 := by kernel_rfl

-- 68 math/bits.Len64
def a68 : AFn where
  code := (.seq (.region false [⟨none, (some 2), .mov (.k (.int .i64 0))⟩])
  (.seq (.seq (.region false [⟨none, (some 3), .mov (.t 0)⟩,
    ⟨none, (some 4), .bin .geq (.t 3) (.k (w64 4294967296#64))⟩])
  (.cond (.t 4) (.seq (.region false [⟨none, (some 5), .mov (.t 0)⟩,
    ⟨none, (some 6), .bin .shr (.t 5) (.k (w64 32#64))⟩,
    ⟨none, (some 0), .mov (.t 6)⟩])
  (.region false [⟨none, (some 2), .mov (.k (.int .i64 32))⟩]))
  .skip))
  (.seq (.seq (.region false [⟨none, (some 7), .mov (.t 0)⟩,
    ⟨none, (some 8), .bin .geq (.t 7) (.k (w64 65536#64))⟩])
  (.cond (.t 8) (.seq (.region false [⟨none, (some 9), .mov (.t 0)⟩,
    ⟨none, (some 10), .bin .shr (.t 9) (.k (w64 16#64))⟩,
    ⟨none, (some 0), .mov (.t 10)⟩])
  (.region false [⟨none, (some 11), .mov (.t 2)⟩,
    ⟨none, (some 12), .bin .add (.t 11) (.k (.int .i64 16))⟩,
    ⟨none, (some 2), .mov (.t 12)⟩]))
  .skip))
  (.seq (.seq (.region false [⟨none, (some 13), .mov (.t 0)⟩,
    ⟨none, (some 14), .bin .geq (.t 13) (.k (w64 256#64))⟩])
  (.cond (.t 14) (.seq (.region false [⟨none, (some 15), .mov (.t 0)⟩,
    ⟨none, (some 16), .bin .shr (.t 15) (.k (w64 8#64))⟩,
    ⟨none, (some 0), .mov (.t 16)⟩])
  (.region false [⟨none, (some 17), .mov (.t 2)⟩,
    ⟨none, (some 18), .bin .add (.t 17) (.k (.int .i64 8))⟩,
    ⟨none, (some 2), .mov (.t 18)⟩]))
  .skip))
  (.seq (.region false [⟨none, (some 19), .mov (.t 2)⟩,
    ⟨none, (some 20), .mov (.t 0)⟩,
    ⟨none, (some 21), .conv .u8 (.t 20)⟩,
    ⟨none, (some 22), .idxStr (.k (.str [0, 1, 2, 2, 3, 3, 3, 3, 4, 4, 4, 4, 4, 4, 4, 4, 5, 5, 5, 5, 5, 5, 5, 5, 5, 5, 5, 5, 5, 5, 5, 5, 6, 6, 6, 6, 6, 6, 6, 6, 6, 6, 6, 6, 6, 6, 6, 6, 6, 6, 6, 6, 6, 6, 6, 6, 6, 6, 6, 6, 6, 6, 6, 6, 7, 7, 7, 7, 7, 7, 7, 7, 7, 7, 7, 7, 7, 7, 7, 7, 7, 7, 7, 7, 7, 7, 7, 7, 7, 7, 7, 7, 7, 7, 7, 7, 7, 7, 7, 7, 7, 7, 7, 7, 7, 7, 7, 7, 7, 7, 7, 7, 7, 7, 7, 7, 7, 7, 7, 7, 7, 7, 7, 7, 7, 7, 7, 7, 8, 8, 8, 8, 8, 8, 8, 8, 8, 8, 8, 8, 8, 8, 8, 8, 8, 8, 8, 8, 8, 8, 8, 8, 8, 8, 8, 8, 8, 8, 8, 8, 8, 8, 8, 8, 8, 8, 8, 8, 8, 8, 8, 8, 8, 8, 8, 8, 8, 8, 8, 8, 8, 8, 8, 8, 8, 8, 8, 8, 8, 8, 8, 8, 8, 8, 8, 8, 8, 8, 8, 8, 8, 8, 8, 8, 8, 8, 8, 8, 8, 8, 8, 8, 8, 8, 8, 8, 8, 8, 8, 8, 8, 8, 8, 8, 8, 8, 8, 8, 8, 8, 8, 8, 8, 8, 8, 8, 8, 8, 8, 8, 8, 8, 8, 8, 8, 8, 8, 8, 8, 8, 8, 8, 8, 8, 8, 8])) (.t 21)⟩,
    ⟨none, (some 23), .conv .i64 (.t 22)⟩,
    ⟨none, (some 24), .bin .add (.t 19) (.t 23)⟩,
    ⟨none, (some 2), .mov (.t 24)⟩])
  .ret)))))
  ntmps := 25
  res := [.tmp 2]

theorem a68_ok : compileFn P Try.f68 = some a68 := by kernel_rfl

-- 12 admission/admissionlaw01.DigestTrees
def a12 : AFn where
  code := (.seq (.region false [⟨none, (some 2), .mov (.k (.bool false))⟩])
  (.seq (.seq (.region false [⟨none, (some 3), .mov (.t 0)⟩,
    ⟨none, (some 4), .len (.t 3)⟩,
    ⟨none, (some 5), .bin .gtr (.t 4) (.k (.int .i64 200))⟩])
  (.cond (.t 5) (.seq (.region false [⟨none, (some 2), .mov (.k (.bool true))⟩])
  .ret)
  .skip))
  (.seq (.region false [⟨none, (some 6), .call (.k (.fn (.func 32) [] [])) []⟩,
    ⟨none, (some 7), .mov (.t 6)⟩,
    ⟨(some (7, true)), (some 8), .mov (.t 0)⟩,
    ⟨(some (7, true)), (some 9), .call (.k (.fn (.func 40) [] [])) [(.t 8)]⟩,
    ⟨(some (7, true)), (some 10), .mov (.t 0)⟩,
    ⟨(some (7, true)), (some 11), .call (.k (.fn (.func 41) [] [])) [(.t 10)]⟩,
    ⟨(some (7, true)), (some 12), .eqa false [(32, 0)] (.t 9) (.t 11)⟩,
    ⟨none, (some 13), .pick (.t 7) (.t 12) (.k (.bool false))⟩,
    ⟨none, (some 2), .mov (.t 13)⟩])
  .ret)))
  ntmps := 14
  res := [.tmp 2]

theorem a12_ok : compileFn P Try.f12 = some a12 := by kernel_rfl

-- 13 admission/admissionlaw01.DigestSplits
def a13L0 : ACode :=
  (.seq (.seq (.region false [⟨none, (some 29), .mov (.t 3)⟩,
    ⟨none, (some 30), .bin .mul (.k (.int .i64 2)) (.t 29)⟩,
    ⟨none, (some 31), .mov (.t 0)⟩,
    ⟨none, (some 32), .len (.t 31)⟩,
    ⟨none, (some 33), .bin .lss (.t 30) (.t 32)⟩])
  (.cond (.t 33) .skip
  (.exit 0)))
  (.block 1 (.region false [⟨none, (some 34), .mov (.t 3)⟩,
    ⟨none, (some 35), .bin .mul (.k (.int .i64 2)) (.t 34)⟩,
    ⟨none, (some 3), .mov (.t 35)⟩])))
/-- 0:l 3:k -/
def a13S0 (x0 x3 : DV) (h : List AObj) : St := ⟨[x0, .junk, .junk, x3] ++ js 47, h⟩

def a13 : AFn where
  code := (.seq (.region false [⟨none, (some 2), .mov (.k (.bool false))⟩])
  (.seq (.seq (.region false [⟨none, (some 4), .mov (.t 0)⟩,
    ⟨none, (some 5), .len (.t 4)⟩,
    ⟨none, (some 6), .bin .gtr (.t 5) (.k (.int .i64 200))⟩])
  (.cond (.t 6) (.seq (.region false [⟨none, (some 2), .mov (.k (.bool true))⟩])
  .ret)
  .skip))
  (.seq (.seq (.region false [⟨none, (some 7), .mov (.t 0)⟩,
    ⟨none, (some 8), .len (.t 7)⟩,
    ⟨none, (some 9), .bin .eql (.t 8) (.k (.int .i64 0))⟩])
  (.cond (.t 9) (.seq (.region false [⟨none, (some 10), .call (.k (.fn (.func 32) [] [])) []⟩,
    ⟨none, (some 11), .mov (.t 10)⟩,
    ⟨(some (11, true)), (some 12), .mov (.t 0)⟩,
    ⟨(some (11, true)), (some 13), .call (.k (.fn (.func 40) [] [])) [(.t 12)]⟩,
    ⟨(some (11, true)), (some 14), .build (rep 32 (w8 0#8)) []⟩,
    ⟨(some (11, true)), (some 15), .eqa false [(32, 0)] (.t 13) (.t 14)⟩,
    ⟨none, (some 16), .pick (.t 11) (.t 15) (.k (.bool false))⟩,
    ⟨none, (some 2), .mov (.t 16)⟩])
  .ret)
  .skip))
  (.seq (.seq (.region false [⟨none, (some 17), .mov (.t 0)⟩,
    ⟨none, (some 18), .len (.t 17)⟩,
    ⟨none, (some 19), .bin .eql (.t 18) (.k (.int .i64 1))⟩])
  (.cond (.t 19) (.seq (.region true [⟨none, (some 20), .call (.k (.fn (.func 32) [] [])) []⟩,
    ⟨none, (some 21), .mov (.t 20)⟩,
    ⟨(some (21, true)), (some 22), .mov (.t 0)⟩,
    ⟨(some (21, true)), (some 23), .call (.k (.fn (.func 40) [] [])) [(.t 22)]⟩,
    ⟨(some (21, true)), (some 24), .mov (.t 0)⟩,
    ⟨(some (21, true)), (some 25), .idxS 32 (.t 24) (.k (.int .i64 0))⟩,
    ⟨(some (21, true)), (some 26), .load 32 true (.t 25)⟩,
    ⟨(some (21, true)), (some 27), .eqa false [(32, 0)] (.t 23) (.t 26)⟩,
    ⟨none, (some 28), .pick (.t 21) (.t 27) (.k (.bool false))⟩,
    ⟨none, (some 2), .mov (.t 28)⟩])
  .ret)
  .skip))
  (.seq (.region false [⟨none, (some 3), .mov (.k (.int .i64 1))⟩])
  (.seq (.block 0 (.loop a13L0))
  (.seq (.region true [⟨none, (some 36), .call (.k (.fn (.func 32) [] [])) []⟩,
    ⟨none, (some 37), .mov (.t 36)⟩,
    ⟨(some (37, true)), (some 38), .mov (.t 0)⟩,
    ⟨(some (37, true)), (some 39), .call (.k (.fn (.func 40) [] [])) [(.t 38)]⟩,
    ⟨(some (37, true)), (some 40), .mov (.t 0)⟩,
    ⟨(some (37, true)), (some 41), .mov (.t 3)⟩,
    ⟨(some (37, true)), (some 42), .slcS 32 (.t 40) none (some (.t 41)) none⟩,
    ⟨(some (37, true)), (some 43), .call (.k (.fn (.func 40) [] [])) [(.t 42)]⟩,
    ⟨(some (37, true)), (some 44), .mov (.t 0)⟩,
    ⟨(some (37, true)), (some 45), .mov (.t 3)⟩,
    ⟨(some (37, true)), (some 46), .slcS 32 (.t 44) (some (.t 45)) none none⟩,
    ⟨(some (37, true)), (some 47), .call (.k (.fn (.func 40) [] [])) [(.t 46)]⟩,
    ⟨(some (37, true)), (some 48), .call (.k (.fn (.func 37) [] [])) [(.t 43), (.t 47)]⟩,
    ⟨(some (37, true)), (some 49), .eqa false [(32, 0)] (.t 39) (.t 48)⟩,
    ⟨none, (some 50), .pick (.t 37) (.t 49) (.k (.bool false))⟩,
    ⟨none, (some 2), .mov (.t 50)⟩])
  .ret)))))))
  ntmps := 51
  res := [.tmp 2]

theorem a13_ok : compileFn P Try.f13 = some a13 := by kernel_rfl

end Go.Proofs.Ythkcgeokfcbllaa
