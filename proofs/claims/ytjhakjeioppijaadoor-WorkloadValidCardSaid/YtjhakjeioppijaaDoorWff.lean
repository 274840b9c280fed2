/-
  Functions of this claim, as the abstract machine has them. MADE BY A PROGRAM of mine.
-/
import Derived.Test.YtjhakjeioppijaaDoorWf
set_option linter.unusedSimpArgs false
set_option linter.unusedVariables false
namespace Go.Proofs.YtjhakjeioppijaaDoor
open Go Go.Am
-- 121 strings.Count
def a121L0 : ACode :=
  (.block 1 (.seq (.region false [⟨none, (some 20), .mov (.t 0)⟩,
    ⟨none, (some 21), .mov (.t 1)⟩,
    ⟨none, (some 22), .call (.k (.fn (.func 122) [] [])) [(.t 20), (.t 21)]⟩,
    ⟨none, (some 6), .mov (.t 22)⟩])
  (.seq (.seq (.region false [⟨none, (some 23), .mov (.t 6)⟩,
    ⟨none, (some 24), .bin .eql (.t 23) (.k (.int .i64 (-1)))⟩])
  (.cond (.t 24) (.seq (.region false [⟨none, (some 25), .mov (.t 5)⟩,
    ⟨none, (some 4), .mov (.t 25)⟩])
  .ret)
  .skip))
  (.seq (.region false [⟨none, (some 26), .mov (.t 5)⟩,
    ⟨none, (some 27), .bin .add (.t 26) (.k (.int .i64 1))⟩,
    ⟨none, (some 5), .mov (.t 27)⟩])
  (.region false [⟨none, (some 28), .mov (.t 0)⟩,
    ⟨none, (some 29), .mov (.t 6)⟩,
    ⟨none, (some 30), .mov (.t 1)⟩,
    ⟨none, (some 31), .lenStr (.t 30)⟩,
    ⟨none, (some 32), .bin .add (.t 29) (.t 31)⟩,
    ⟨none, (some 33), .slcStr (.t 28) (some (.t 32)) none⟩,
    ⟨none, (some 0), .mov (.t 33)⟩])))))
/-- 0:s 1:substr 5:n -/
def a121S0 (x0 x1 x5 : DV) (h : List AObj) : St := ⟨[x0, x1, .junk, .junk, .junk, x5] ++ js 28, h⟩

def a121 : AFn where
  code := (.seq (.region false [⟨none, (some 4), .mov (.k (.int .i64 0))⟩])
  (.seq (.seq (.region false [⟨none, (some 7), .mov (.t 1)⟩,
    ⟨none, (some 8), .lenStr (.t 7)⟩,
    ⟨none, (some 9), .bin .eql (.t 8) (.k (.int .i64 0))⟩])
  (.cond (.t 9) (.seq (.region false [⟨none, (some 10), .mov (.t 0)⟩,
    ⟨none, (some 11), .call (.k (.fn (.func 127) [] [])) [(.t 10)]⟩,
    ⟨none, (some 12), .bin .add (.t 11) (.k (.int .i64 1))⟩,
    ⟨none, (some 4), .mov (.t 12)⟩])
  .ret)
  .skip))
  (.seq (.seq (.region false [⟨none, (some 13), .mov (.t 1)⟩,
    ⟨none, (some 14), .lenStr (.t 13)⟩,
    ⟨none, (some 15), .bin .eql (.t 14) (.k (.int .i64 1))⟩])
  (.cond (.t 15) (.seq (.region false [⟨none, (some 16), .mov (.t 0)⟩,
    ⟨none, (some 17), .mov (.t 1)⟩,
    ⟨none, (some 18), .idxStr (.t 17) (.k (.int .i64 0))⟩,
    ⟨none, (some 19), .call (.k (.fn (.func 129) [] [])) [(.t 16), (.t 18)]⟩,
    ⟨none, (some 4), .mov (.t 19)⟩])
  .ret)
  .skip))
  (.seq (.region false [⟨none, (some 5), .mov (.k (.int .i64 0))⟩])
  (.block 0 (.loop a121L0))))))
  ntmps := 34
  res := [.tmp 4]

theorem a121_ok : compileFn P Tryd.f121 = some a121 := by kernel_rfl

-- 115 strings.genSplit
def a115L0 : ACode :=
  (.seq (.seq (.region false [⟨none, (some 34), .mov (.t 10)⟩,
    ⟨none, (some 35), .mov (.t 3)⟩,
    ⟨none, (some 36), .bin .lss (.t 34) (.t 35)⟩])
  (.cond (.t 36) .skip
  (.exit 0)))
  (.block 1 (.seq (.region false [⟨none, (some 37), .mov (.t 0)⟩,
    ⟨none, (some 38), .mov (.t 1)⟩,
    ⟨none, (some 39), .call (.k (.fn (.func 122) [] [])) [(.t 37), (.t 38)]⟩,
    ⟨none, (some 11), .mov (.t 39)⟩])
  (.seq (.seq (.region false [⟨none, (some 40), .mov (.t 11)⟩,
    ⟨none, (some 41), .bin .lss (.t 40) (.k (.int .i64 0))⟩])
  (.cond (.t 41) (.exit 0)
  .skip))
  (.seq (.region false [⟨none, (some 42), .mov (.t 9)⟩,
    ⟨none, (some 43), .mov (.t 10)⟩,
    ⟨none, (some 44), .mov (.t 0)⟩,
    ⟨none, (some 45), .mov (.t 11)⟩,
    ⟨none, (some 46), .mov (.t 2)⟩,
    ⟨none, (some 47), .bin .add (.t 45) (.t 46)⟩,
    ⟨none, (some 48), .slcStr (.t 44) none (some (.t 47))⟩,
    ⟨none, (some 49), .idxS 1 (.t 42) (.t 43)⟩,
    ⟨none, none, .store 1 (.t 49) (.t 48)⟩])
  (.seq (.region false [⟨none, (some 50), .mov (.t 0)⟩,
    ⟨none, (some 51), .mov (.t 11)⟩,
    ⟨none, (some 52), .mov (.t 1)⟩,
    ⟨none, (some 53), .lenStr (.t 52)⟩,
    ⟨none, (some 54), .bin .add (.t 51) (.t 53)⟩,
    ⟨none, (some 55), .slcStr (.t 50) (some (.t 54)) none⟩,
    ⟨none, (some 0), .mov (.t 55)⟩])
  (.region false [⟨none, (some 56), .mov (.t 10)⟩,
    ⟨none, (some 57), .bin .add (.t 56) (.k (.int .i64 1))⟩,
    ⟨none, (some 10), .mov (.t 57)⟩])))))))
/-- 0:s 1:sep 2:sepSave 3:n 9:a 10:i -/
def a115S0 (x0 x1 x2 x3 x9 x10 : DV) (h : List AObj) : St := ⟨[x0, x1, x2, x3] ++ js 5 ++ [x9, x10] ++ js 55, h⟩

def a115 : AFn where
  code := (.seq (.region false [⟨none, (some 8), .mov (.k .nils)⟩])
  (.seq (.seq (.region false [⟨none, (some 12), .mov (.t 3)⟩,
    ⟨none, (some 13), .bin .eql (.t 12) (.k (.int .i64 0))⟩])
  (.cond (.t 13) (.seq (.region false [⟨none, (some 8), .mov (.k .nils)⟩])
  .ret)
  .skip))
  (.seq (.seq (.region false [⟨none, (some 14), .mov (.t 1)⟩,
    ⟨none, (some 15), .bin .eql (.t 14) (.k (.str []))⟩])
  (.cond (.t 15) (.seq (.region false [⟨none, (some 16), .mov (.t 0)⟩,
    ⟨none, (some 17), .mov (.t 3)⟩,
    ⟨none, (some 18), .call (.k (.fn (.func 120) [] [])) [(.t 16), (.t 17)]⟩,
    ⟨none, (some 8), .mov (.t 18)⟩])
  .ret)
  .skip))
  (.seq (.seq (.region false [⟨none, (some 19), .mov (.t 3)⟩,
    ⟨none, (some 20), .bin .lss (.t 19) (.k (.int .i64 0))⟩])
  (.cond (.t 20) (.region false [⟨none, (some 21), .mov (.t 0)⟩,
    ⟨none, (some 22), .mov (.t 1)⟩,
    ⟨none, (some 23), .call (.k (.fn (.func 121) [] [])) [(.t 21), (.t 22)]⟩,
    ⟨none, (some 24), .bin .add (.t 23) (.k (.int .i64 1))⟩,
    ⟨none, (some 3), .mov (.t 24)⟩])
  .skip))
  (.seq (.region false [⟨none, (some 25), .mov (.t 3)⟩,
    ⟨none, (some 26), .mov (.t 0)⟩,
    ⟨none, (some 27), .lenStr (.t 26)⟩,
    ⟨none, (some 28), .bin .add (.t 27) (.k (.int .i64 1))⟩,
    ⟨none, (some 29), .mm false [(.t 25), (.t 28)]⟩,
    ⟨none, (some 3), .mov (.t 29)⟩])
  (.seq (.region false [⟨none, (some 30), .mov (.t 3)⟩,
    ⟨none, (some 31), .mks 1 16 [(.str [])] (.t 30) (.t 30)⟩,
    ⟨none, (some 9), .mov (.t 31)⟩])
  (.seq (.region false [⟨none, (some 32), .mov (.t 3)⟩,
    ⟨none, (some 33), .bin .sub (.t 32) (.k (.int .i64 1))⟩,
    ⟨none, (some 3), .mov (.t 33)⟩])
  (.seq (.region false [⟨none, (some 10), .mov (.k (.int .i64 0))⟩])
  (.seq (.block 0 (.loop a115L0))
  (.seq (.region false [⟨none, (some 58), .mov (.t 9)⟩,
    ⟨none, (some 59), .mov (.t 10)⟩,
    ⟨none, (some 60), .mov (.t 0)⟩,
    ⟨none, (some 61), .idxS 1 (.t 58) (.t 59)⟩,
    ⟨none, none, .store 1 (.t 61) (.t 60)⟩])
  (.seq (.region false [⟨none, (some 62), .mov (.t 9)⟩,
    ⟨none, (some 63), .mov (.t 10)⟩,
    ⟨none, (some 64), .bin .add (.t 63) (.k (.int .i64 1))⟩,
    ⟨none, (some 65), .slcS 1 (.t 62) none (some (.t 64)) none⟩,
    ⟨none, (some 8), .mov (.t 65)⟩])
  .ret)))))))))))
  ntmps := 66
  res := [.tmp 8]

theorem a115_ok : compileFn P Tryd.f115 = some a115 := by kernel_rfl

-- 104 strings.Split
def a104 : AFn where
  code := (.seq (.region false [⟨none, (some 4), .mov (.k .nils)⟩])
  (.seq (.region false [⟨none, (some 5), .mov (.t 0)⟩,
    ⟨none, (some 6), .mov (.t 1)⟩,
    ⟨none, (some 7), .call (.k (.fn (.func 115) [] [])) [(.t 5), (.t 6), (.k (.int .i64 0)), (.k (.int .i64 (-1)))]⟩,
    ⟨none, (some 4), .mov (.t 7)⟩])
  .ret))
  ntmps := 8
  res := [.tmp 4]

theorem a104_ok : compileFn P Tryd.f104 = some a104 := by kernel_rfl

-- 62 admission/admissionref03.Path
def a62L0 : ACode :=
  (.seq (.seq (.region false [⟨none, (some 13), .mov (.t 3)⟩,
    ⟨none, (some 14), .mov (.t 0)⟩,
    ⟨none, (some 15), .lenStr (.t 14)⟩,
    ⟨none, (some 16), .bin .lss (.t 13) (.t 15)⟩])
  (.cond (.t 16) .skip
  (.exit 0)))
  (.seq (.block 1 (.seq (.region false [⟨none, (some 19), .mov (.t 0)⟩,
    ⟨none, (some 20), .mov (.t 3)⟩,
    ⟨none, (some 21), .idxStr (.t 19) (.t 20)⟩,
    ⟨none, (some 22), .bin .eql (.t 21) (.k (w8 0#8))⟩])
  (.cond (.t 22) (.seq (.region false [⟨none, (some 2), .mov (.k (.bool false))⟩])
  .ret)
  .skip)))
  (.region false [⟨none, (some 17), .mov (.t 3)⟩,
    ⟨none, (some 18), .bin .add (.t 17) (.k (.int .i64 1))⟩,
    ⟨none, (some 3), .mov (.t 18)⟩])))
/-- 0:s 3:i -/
def a62S0 (x0 x3 : DV) (h : List AObj) : St := ⟨[x0, .junk, .junk, x3] ++ js 46, h⟩

def a62L1 : ACode :=
  (.seq (.seq (.region false [⟨none, (some 25), .mov (.t 5)⟩,
    ⟨none, (some 26), .mov (.t 4)⟩,
    ⟨none, (some 27), .len (.t 26)⟩,
    ⟨none, (some 28), .bin .lss (.t 25) (.t 27)⟩])
  (.cond (.t 28) .skip
  (.exit 2)))
  (.seq (.block 3 (.seq (.region false [⟨none, (some 31), .mov (.t 4)⟩,
    ⟨none, (some 32), .mov (.t 5)⟩,
    ⟨none, (some 33), .idxS 1 (.t 31) (.t 32)⟩,
    ⟨none, (some 34), .load 1 false (.t 33)⟩,
    ⟨none, (some 35), .bin .eql (.t 34) (.k (.str []))⟩,
    ⟨none, (some 36), .mov (.t 35)⟩,
    ⟨(some (36, false)), (some 37), .mov (.t 4)⟩,
    ⟨(some (36, false)), (some 38), .mov (.t 5)⟩,
    ⟨(some (36, false)), (some 39), .idxS 1 (.t 37) (.t 38)⟩,
    ⟨(some (36, false)), (some 40), .load 1 false (.t 39)⟩,
    ⟨(some (36, false)), (some 41), .bin .eql (.t 40) (.k (.str [46]))⟩,
    ⟨none, (some 42), .pick (.t 36) (.k (.bool true)) (.t 41)⟩,
    ⟨none, (some 43), .mov (.t 42)⟩,
    ⟨(some (43, false)), (some 44), .mov (.t 4)⟩,
    ⟨(some (43, false)), (some 45), .mov (.t 5)⟩,
    ⟨(some (43, false)), (some 46), .idxS 1 (.t 44) (.t 45)⟩,
    ⟨(some (43, false)), (some 47), .load 1 false (.t 46)⟩,
    ⟨(some (43, false)), (some 48), .bin .eql (.t 47) (.k (.str [46, 46]))⟩,
    ⟨none, (some 49), .pick (.t 43) (.k (.bool true)) (.t 48)⟩])
  (.cond (.t 49) (.seq (.region false [⟨none, (some 2), .mov (.k (.bool false))⟩])
  .ret)
  .skip)))
  (.region false [⟨none, (some 29), .mov (.t 5)⟩,
    ⟨none, (some 30), .bin .add (.t 29) (.k (.int .i64 1))⟩,
    ⟨none, (some 5), .mov (.t 30)⟩])))
/-- 4:parts 5:i -/
def a62S1 (x4 x5 : DV) (h : List AObj) : St := ⟨js 4 ++ [x4, x5] ++ js 44, h⟩

def a62 : AFn where
  code := (.seq (.region false [⟨none, (some 2), .mov (.k (.bool false))⟩])
  (.seq (.seq (.region false [⟨none, (some 6), .mov (.t 0)⟩,
    ⟨none, (some 7), .bin .eql (.t 6) (.k (.str []))⟩,
    ⟨none, (some 8), .mov (.t 7)⟩,
    ⟨(some (8, false)), (some 9), .mov (.t 0)⟩,
    ⟨(some (8, false)), (some 10), .lenStr (.t 9)⟩,
    ⟨(some (8, false)), (some 11), .bin .gtr (.t 10) (.k (.int .i64 200))⟩,
    ⟨none, (some 12), .pick (.t 8) (.k (.bool true)) (.t 11)⟩])
  (.cond (.t 12) (.seq (.region false [⟨none, (some 2), .mov (.k (.bool false))⟩])
  .ret)
  .skip))
  (.seq (.seq (.region false [⟨none, (some 3), .mov (.k (.int .i64 0))⟩])
  (.block 0 (.loop a62L0)))
  (.seq (.region false [⟨none, (some 23), .mov (.t 0)⟩,
    ⟨none, (some 24), .call (.k (.fn (.func 104) [] [])) [(.t 23), (.k (.str [47]))]⟩,
    ⟨none, (some 4), .mov (.t 24)⟩])
  (.seq (.seq (.region false [⟨none, (some 5), .mov (.k (.int .i64 0))⟩])
  (.block 2 (.loop a62L1)))
  (.seq (.region false [⟨none, (some 2), .mov (.k (.bool true))⟩])
  .ret))))))
  ntmps := 50
  res := [.tmp 2]

theorem a62_ok : compileFn P Tryd.f62 = some a62 := by kernel_rfl

end Go.Proofs.YtjhakjeioppijaaDoor
