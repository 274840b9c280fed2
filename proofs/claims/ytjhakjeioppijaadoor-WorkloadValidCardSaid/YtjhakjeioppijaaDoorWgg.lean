/-
  Functions of this claim, as the abstract machine has them. MADE BY A PROGRAM of mine.
-/
import Derived.Test.YtjhakjeioppijaaDoorWg
set_option linter.unusedSimpArgs false
set_option linter.unusedVariables false
namespace Go.Proofs.YtjhakjeioppijaaDoor
open Go Go.Am
-- 72 slices.Delete[[]admission/api.Instance,admission/api.Instance]
def a72 : AFn where
  code := (.seq (.region false [⟨none, (some 6), .mov (.k .nils)⟩])
  (.seq (.region false [⟨none, (some 8), .mov (.t 0)⟩,
    ⟨none, (some 9), .mov (.t 1)⟩,
    ⟨none, (some 10), .mov (.t 2)⟩,
    ⟨none, (some 11), .mov (.t 0)⟩,
    ⟨none, (some 12), .len (.t 11)⟩,
    ⟨none, (some 13), .slcS 37 (.t 8) (some (.t 9)) (some (.t 10)) (some (.t 12))⟩])
  (.seq (.seq (.region false [⟨none, (some 14), .mov (.t 1)⟩,
    ⟨none, (some 15), .mov (.t 2)⟩,
    ⟨none, (some 16), .bin .eql (.t 14) (.t 15)⟩])
  (.cond (.t 16) (.seq (.region false [⟨none, (some 17), .mov (.t 0)⟩,
    ⟨none, (some 6), .mov (.t 17)⟩])
  .ret)
  .skip))
  (.seq (.region false [⟨none, (some 18), .mov (.t 0)⟩,
    ⟨none, (some 19), .len (.t 18)⟩,
    ⟨none, (some 7), .mov (.t 19)⟩])
  (.seq (.region true [⟨none, (some 20), .mov (.t 0)⟩,
    ⟨none, (some 21), .mov (.t 1)⟩,
    ⟨none, (some 22), .slcS 37 (.t 20) none (some (.t 21)) none⟩,
    ⟨none, (some 23), .mov (.t 0)⟩,
    ⟨none, (some 24), .mov (.t 2)⟩,
    ⟨none, (some 25), .slcS 37 (.t 23) (some (.t 24)) none none⟩,
    ⟨none, (some 26), .app 37 72 (.t 22) (.t 25)⟩,
    ⟨none, (some 0), .mov (.t 26)⟩])
  (.seq (.region false [⟨none, (some 27), .mov (.t 0)⟩,
    ⟨none, (some 28), .mov (.t 0)⟩,
    ⟨none, (some 29), .len (.t 28)⟩,
    ⟨none, (some 30), .mov (.t 7)⟩,
    ⟨none, (some 31), .slcS 37 (.t 27) (some (.t 29)) (some (.t 30)) none⟩,
    ⟨none, none, .clr 37 [(.int .i64 0), (.int .i64 0), (w8 0#8), (w8 0#8), (w8 0#8), (w8 0#8), (w8 0#8), (w8 0#8), (w8 0#8), (w8 0#8), (w8 0#8), (w8 0#8), (w8 0#8), (w8 0#8), (w8 0#8), (w8 0#8), (w8 0#8), (w8 0#8), (w8 0#8), (w8 0#8), (w8 0#8), (w8 0#8), (w8 0#8), (w8 0#8), (w8 0#8), (w8 0#8), (w8 0#8), (w8 0#8), (w8 0#8), (w8 0#8), (w8 0#8), (w8 0#8), (w8 0#8), (w8 0#8), (.int .i64 0), (.int .i64 0), (.int .i64 0)] (.t 31)⟩])
  (.seq (.region false [⟨none, (some 32), .mov (.t 0)⟩,
    ⟨none, (some 6), .mov (.t 32)⟩])
  .ret)))))))
  ntmps := 33
  res := [.tmp 6]

theorem a72_ok : compileFn P Tryd.f72 = some a72 := by kernel_rfl

-- 31 admission/workload.Remove
def a31 : AFn where
  code := (.seq (.region false [⟨none, (some 2), .box (.t 0)⟩,
    ⟨none, (some 4), .alloc [.nils, .nils, (.int .i64 0)]⟩,
    ⟨none, (some 5), .mov (.k (.int .i64 0))⟩])
  (.seq (.seq (.region false [⟨none, (some 7), .load 3 true (.t 2)⟩,
    ⟨none, (some 8), .call (.k (.fn (.func 20) [] [])) [(.t 7)]⟩,
    ⟨none, (some 9), .un .not (.t 8)⟩])
  (.cond (.t 9) (.seq (.region false [⟨none, (some 10), .build [.nils, .nils, (.int .i64 0)] []⟩,
    ⟨none, none, .store 3 (.t 4) (.t 10)⟩,
    ⟨none, (some 5), .mov (.k (.int .i64 1))⟩])
  .ret)
  .skip))
  (.seq (.region false [⟨none, (some 11), .load 3 true (.t 2)⟩,
    ⟨none, (some 12), .mov (.t 1)⟩,
    ⟨none, (some 13), .call (.k (.fn (.func 24) [] [])) [(.t 11), (.t 12)]⟩,
    ⟨none, (some 6), .mov (.t 13)⟩])
  (.seq (.seq (.region false [⟨none, (some 14), .mov (.t 6)⟩,
    ⟨none, (some 15), .bin .lss (.t 14) (.k (.int .i64 0))⟩])
  (.cond (.t 15) (.seq (.region false [⟨none, (some 16), .build [.nils, .nils, (.int .i64 0)] []⟩,
    ⟨none, none, .store 3 (.t 4) (.t 16)⟩,
    ⟨none, (some 5), .mov (.k (.int .i64 4))⟩])
  .ret)
  .skip))
  (.seq (.region false [⟨none, (some 17), .load 3 true (.t 2)⟩,
    ⟨none, (some 18), .call (.k (.fn (.func 71) [] [])) [(.t 17)]⟩,
    ⟨none, none, .store 3 (.t 2) (.t 18)⟩])
  (.seq (.region false [⟨none, (some 19), .fld 1 (.t 2)⟩,
    ⟨none, (some 20), .load 1 false (.t 19)⟩,
    ⟨none, (some 21), .mov (.t 6)⟩,
    ⟨none, (some 22), .mov (.t 6)⟩,
    ⟨none, (some 23), .bin .add (.t 22) (.k (.int .i64 1))⟩,
    ⟨none, (some 24), .call (.k (.fn (.func 72) [] [])) [(.t 20), (.t 21), (.t 23)]⟩,
    ⟨none, (some 25), .fld 1 (.t 2)⟩,
    ⟨none, none, .store 1 (.t 25) (.t 24)⟩])
  (.seq (.region false [⟨none, (some 26), .load 3 true (.t 2)⟩,
    ⟨none, none, .store 3 (.t 4) (.t 26)⟩,
    ⟨none, (some 5), .mov (.k (.int .i64 0))⟩])
  .ret)))))))
  ntmps := 27
  res := [.cell 4 3 true, .tmp 5]

theorem a31_ok : compileFn P Tryd.f31 = some a31 := by kernel_rfl

-- 30 admission/workload.Mark
def a30L0 : ACode :=
  (.seq (.region false [⟨none, (some 26), .bin .lss (.t 25) (.t 24)⟩])
  (.seq (.cond (.t 26) .skip
  (.exit 0))
  (.seq (.block 1 (.seq (.region false [⟨none, (some 27), .mov (.t 25)⟩,
    ⟨none, (some 7), .mov (.t 27)⟩])
  (.seq (.region false [⟨none, (some 28), .fld 1 (.t 3)⟩,
    ⟨none, (some 29), .load 1 false (.t 28)⟩,
    ⟨none, (some 30), .mov (.t 7)⟩,
    ⟨none, (some 31), .idxS 37 (.t 29) (.t 30)⟩,
    ⟨none, (some 8), .mov (.t 31)⟩])
  (.seq (.region false [⟨none, (some 32), .mov (.t 7)⟩,
    ⟨none, (some 33), .mov (.t 1)⟩,
    ⟨none, (some 34), .len (.t 33)⟩,
    ⟨none, (some 35), .bin .lss (.t 32) (.t 34)⟩,
    ⟨none, (some 36), .mov (.t 35)⟩,
    ⟨(some (36, true)), (some 37), .mov (.t 1)⟩,
    ⟨(some (36, true)), (some 38), .mov (.t 7)⟩,
    ⟨(some (36, true)), (some 39), .idxS 1 (.t 37) (.t 38)⟩,
    ⟨(some (36, true)), (some 40), .load 1 false (.t 39)⟩,
    ⟨none, (some 41), .pick (.t 36) (.t 40) (.k (.bool false))⟩,
    ⟨none, (some 9), .mov (.t 41)⟩])
  (.block 2 (.seq (.region false [⟨none, (some 43), .mov (.t 9)⟩,
    ⟨none, (some 44), .un .not (.t 43)⟩,
    ⟨none, (some 42), .mov (.t 44)⟩])
  (.cond (.t 42) (.region false [⟨none, (some 45), .mov (.t 8)⟩,
    ⟨none, (some 46), .nilc (.t 45)⟩,
    ⟨none, (some 47), .fld 36 (.t 46)⟩,
    ⟨none, none, .store 1 (.t 47) (.k (.int .i64 (-1)))⟩])
  (.seq (.region false [⟨none, (some 49), .mov (.t 8)⟩,
    ⟨none, (some 50), .nilc (.t 49)⟩,
    ⟨none, (some 51), .fld 36 (.t 50)⟩,
    ⟨none, (some 52), .load 1 false (.t 51)⟩,
    ⟨none, (some 53), .bin .eql (.t 52) (.k (.int .i64 (-1)))⟩,
    ⟨none, (some 48), .mov (.t 53)⟩])
  (.cond (.t 48) (.region false [⟨none, (some 54), .mov (.t 8)⟩,
    ⟨none, (some 55), .mov (.t 2)⟩,
    ⟨none, (some 56), .nilc (.t 54)⟩,
    ⟨none, (some 57), .fld 36 (.t 56)⟩,
    ⟨none, none, .store 1 (.t 57) (.t 55)⟩])
  .skip)))))))))
  (.region false [⟨none, (some 58), .bin .add (.t 25) (.k (.int .i64 1))⟩,
    ⟨none, (some 25), .mov (.t 58)⟩]))))
/-- 1:denied 2:t 3:c 6: 24: 25: -/
def a30S0 (x1 x2 x3 x6 x24 x25 : DV) (h : List AObj) : St := ⟨[.junk, x1, x2, x3, .junk, .junk, x6] ++ js 17 ++ [x24, x25] ++ js 34, h⟩

def a30 : AFn where
  code := (.seq (.region false [⟨none, (some 3), .box (.t 0)⟩,
    ⟨none, (some 6), .alloc [.nils, .nils, (.int .i64 0)]⟩])
  (.seq (.seq (.region false [⟨none, (some 10), .load 3 true (.t 3)⟩,
    ⟨none, (some 11), .call (.k (.fn (.func 20) [] [])) [(.t 10)]⟩,
    ⟨none, (some 12), .un .not (.t 11)⟩,
    ⟨none, (some 13), .mov (.t 12)⟩,
    ⟨(some (13, false)), (some 14), .mov (.t 2)⟩,
    ⟨(some (13, false)), (some 15), .call (.k (.fn (.func 70) [] [])) [(.t 14)]⟩,
    ⟨(some (13, false)), (some 16), .un .not (.t 15)⟩,
    ⟨none, (some 17), .pick (.t 13) (.k (.bool true)) (.t 16)⟩])
  (.cond (.t 17) (.seq (.region false [⟨none, (some 18), .load 3 true (.t 3)⟩,
    ⟨none, (some 19), .call (.k (.fn (.func 71) [] [])) [(.t 18)]⟩,
    ⟨none, none, .store 3 (.t 6) (.t 19)⟩])
  .ret)
  .skip))
  (.seq (.region false [⟨none, (some 20), .load 3 true (.t 3)⟩,
    ⟨none, (some 21), .call (.k (.fn (.func 71) [] [])) [(.t 20)]⟩,
    ⟨none, none, .store 3 (.t 3) (.t 21)⟩])
  (.seq (.seq (.region false [⟨none, (some 22), .fld 1 (.t 3)⟩,
    ⟨none, (some 23), .load 1 false (.t 22)⟩,
    ⟨none, (some 24), .len (.t 23)⟩,
    ⟨none, (some 25), .mov (.k (.int .i64 0))⟩])
  (.block 0 (.loop a30L0)))
  (.seq (.region false [⟨none, (some 59), .load 3 true (.t 3)⟩,
    ⟨none, none, .store 3 (.t 6) (.t 59)⟩])
  .ret)))))
  ntmps := 60
  res := [.cell 6 3 true]

theorem a30_ok : compileFn P Tryd.f30 = some a30 := by kernel_rfl

end Go.Proofs.YtjhakjeioppijaaDoor
