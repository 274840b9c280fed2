/-
  39 texts of mine in one.
-/
import Derived.Lib.BytesEntry
import Derived.Shelf.RegionOpenPlain
import Derived.WalkKit
import Derived.Lib.Walk
import Derived.Lib.AppendZeros
import Derived.Lib.AppendZerosOnto
import Derived.Lib.Overlaps
import Derived.Laws.Externs
import Derived.Shelf.Spec.SlicesInsert
import Derived.Test.YtaihpefemjlilaaGreatDoorC93fe9752
import Derived.Test.YtaihpefemjlilaaGreatDoorCca1ba563
import Derived.Test.YtaihpefemjlilaaGreatDoorCab9f7e71
import Derived.Test.YtaihpefemjlilaaGreatDoorCbc0e19a5
import Derived.Test.YtaihpefemjlilaaGreatDoorCea1547b8
import Derived.Test.YtaihpefemjlilaaGreatDoorCcbf0dea8
set_option maxRecDepth 20000
set_option maxHeartbeats 4000000
open List renaming map_take → zA, map_drop → zB, map_set → zC, map_append → zD, drop_one → zE
open Bool renaming and_eq_true → y06, and_self → y0i, true_and → y0o, or_eq_true → y14
open Int renaming toNat_natCast → y0v
open List renaming getElem?_append_left → y00, getElem?_eq_getElem → y01, take_of_length_le → y02, length_append → y03, getElem?_append_right → y05, length_take → y07, length_drop → y08, getElem_cons_zero → y09, getElem?_set_self → y0a, set_append_right → y0b, getElem_of_mem → y0c, length_cons → y0d, cons_append → y0e, drop_of_length_le → y0f, pairwise_iff_getElem → y0g, getElem?_set_ne → y0h, getElem_of_eq → y0k, getElem_append_left → y0l, getElem?_eq_none → y0q, append_nil → y0r, length_map → y0s, pairwise_append → y0t, take_take → y0u, getElem?_eq_some_iff → y0w, getElem_map → y0x, drop_append → y0y, getElem_mem → y0z, pairwise_singleton → y10, length_set → y11, nil_append → y13, take_left' → y15, mem_append → y16, getElem_cons_succ → y17, length_singleton → y18, length_filter_le → y19, drop_zero → y1a, length_replicate → y1b, all_cons → y1c, map_cons → y1d, length_pos_iff → y1e, takeWhile_cons → y1f, length_reverse → y1g
open Nat renaming le_refl → y04, sub_self → y0m, mod_eq_of_lt → y0p, add_comm → y1h, zero_le → y1i, mul_add → y1j
open Option renaming bind_some → y0j, map_eq_some_iff → y0n, map_some → y12
namespace Go.Proofs.YtaihpefemjlilaaGreatDoor
section
set_option linter.unusedSimpArgs false
set_option linter.unusedVariables false
open Go Go.Am
def zvfu:ACode :=
 (.seq (.seq (.region false [⟨none,(some 38),.mov (.t 14)⟩,
  ⟨none,(some 39),.fld 33 (.t 11)⟩,
  ⟨none,(some 40),.load 1 false (.t 39)⟩,
  ⟨none,(some 41),.bin .lss (.t 38) (.t 40)⟩])
 (.cond (.t 41) .skip
 (.exit 0)))
 (.seq (.block 1 (.region false [⟨none,(some 44),.mov (.t 13)⟩,
  ⟨none,(some 45),.bin .mul (.k (.int .i64 2)) (.t 44)⟩,
  ⟨none,(some 13),.mov (.t 45)⟩]))
 (.region false [⟨none,(some 42),.mov (.t 14)⟩,
  ⟨none,(some 43),.bin .add (.t 42) (.k (.int .i64 1))⟩,
  ⟨none,(some 14),.mov (.t 43)⟩])))
def zs05 (x0 x3 x9 x11 x12 x13 x14:DV) (h:List AObj):St:=⟨[x0,.junk,.junk,x3]++js 5++[x9,.junk,x11,x12,x13,x14]++js 47,h⟩
def a16:AFn where
 code:=(.seq (.region false [⟨none,(some 6),.box (.t 2)⟩,
  ⟨none,(some 8),.mov (.k .nils)⟩])
 (.seq (.region false [⟨none,(some 16),.mov (.t 0)⟩,
  ⟨none,(some 17),.mov (.t 1)⟩,
  ⟨none,(some 18),.load 32 true (.t 6)⟩,
  ⟨none,(some 19),.call (.k (.fn (.func 45) [] [])) [(.t 16),(.t 17),(.t 18)]⟩,
  ⟨none,(some 15),.mov (.t 19)⟩,
  ⟨none,(some 20),.ext (.t 15) 0⟩,
  ⟨none,(some 21),.ext (.t 15) 1⟩,
  ⟨none,(some 9),.mov (.t 20)⟩,
  ⟨none,(some 10),.mov (.t 21)⟩])
 (.seq (.region false [⟨none,(some 22),.mov (.t 1)⟩,
  ⟨none,(some 23),.load 32 true (.t 6)⟩,
  ⟨none,(some 24),.build [(.int .i64 0),(w8 0#8),(w8 0#8),(w8 0#8),(w8 0#8),(w8 0#8),(w8 0#8),(w8 0#8),(w8 0#8),(w8 0#8),(w8 0#8),(w8 0#8),(w8 0#8),(w8 0#8),(w8 0#8),(w8 0#8),(w8 0#8),(w8 0#8),(w8 0#8),(w8 0#8),(w8 0#8),(w8 0#8),(w8 0#8),(w8 0#8),(w8 0#8),(w8 0#8),(w8 0#8),(w8 0#8),(w8 0#8),(w8 0#8),(w8 0#8),(w8 0#8),(w8 0#8),(.int .i64 0),(.int .i64 0)] [(0,1,(.t 22)),(1,32,(.t 23))]⟩,
  ⟨none,(some 25),.mov (.t 9)⟩,
  ⟨none,(some 11),.alloc [(.int .i64 0),(w8 0#8),(w8 0#8),(w8 0#8),(w8 0#8),(w8 0#8),(w8 0#8),(w8 0#8),(w8 0#8),(w8 0#8),(w8 0#8),(w8 0#8),(w8 0#8),(w8 0#8),(w8 0#8),(w8 0#8),(w8 0#8),(w8 0#8),(w8 0#8),(w8 0#8),(w8 0#8),(w8 0#8),(w8 0#8),(w8 0#8),(w8 0#8),(w8 0#8),(w8 0#8),(w8 0#8),(w8 0#8),(w8 0#8),(w8 0#8),(w8 0#8),(w8 0#8),(.int .i64 0),(.int .i64 0)]⟩,
  ⟨none,none,.store 35 (.t 11) (.t 24)⟩,
  ⟨none,(some 12),.mov (.t 25)⟩])
 (.seq (.seq (.region false [⟨none,(some 26),.mov (.t 10)⟩])
 (.cond (.t 26) (.region false [⟨none,(some 27),.mov (.t 0)⟩,
  ⟨none,(some 28),.mov (.t 9)⟩,
  ⟨none,(some 29),.idxS 35 (.t 27) (.t 28)⟩,
  ⟨none,(some 30),.load 35 true (.t 29)⟩,
  ⟨none,(some 31),.mov (.t 9)⟩,
  ⟨none,(some 32),.bin .add (.t 31) (.k (.int .i64 1))⟩,
  ⟨none,none,.store 35 (.t 11) (.t 30)⟩,
  ⟨none,(some 12),.mov (.t 32)⟩])
 .skip))
 (.seq (.region false [⟨none,(some 33),.fld 33 (.t 11)⟩,
  ⟨none,(some 34),.load 1 false (.t 33)⟩,
  ⟨none,(some 35),.bin .add (.t 34) (.k (.int .i64 1))⟩,
  ⟨none,(some 36),.mm false [(.t 35),(.k (.int .i64 16))]⟩,
  ⟨none,(some 37),.fld 33 (.t 11)⟩,
  ⟨none,none,.store 1 (.t 37) (.t 36)⟩])
 (.seq (.region false [⟨none,(some 13),.mov (.k (.int .i64 1))⟩])
 (.seq (.seq (.region false [⟨none,(some 14),.mov (.k (.int .i64 0))⟩])
 (.block 0 (.loop zvfu)))
 (.seq (.region false [⟨none,(some 46),.mov (.t 3)⟩,
  ⟨none,(some 47),.mov (.t 13)⟩,
  ⟨none,(some 48),.bin .add (.t 46) (.t 47)⟩,
  ⟨none,(some 49),.mm false [(.t 48),(.k (.int .i64 1099511627776))]⟩,
  ⟨none,(some 50),.fld 34 (.t 11)⟩,
  ⟨none,none,.store 1 (.t 50) (.t 49)⟩])
 (.seq (.region true [⟨none,(some 51),.mov (.t 0)⟩,
  ⟨none,(some 52),.mov (.t 9)⟩,
  ⟨none,(some 53),.slcS 35 (.t 51) none (some (.t 52)) none⟩,
  ⟨none,(some 54),.app 35 56 (.k .nils) (.t 53)⟩,
  ⟨none,(some 55),.load 35 true (.t 11)⟩,
  ⟨none,(some 56),.bsl 35 1 [(.int .i64 0),(w8 0#8),(w8 0#8),(w8 0#8),(w8 0#8),(w8 0#8),(w8 0#8),(w8 0#8),(w8 0#8),(w8 0#8),(w8 0#8),(w8 0#8),(w8 0#8),(w8 0#8),(w8 0#8),(w8 0#8),(w8 0#8),(w8 0#8),(w8 0#8),(w8 0#8),(w8 0#8),(w8 0#8),(w8 0#8),(w8 0#8),(w8 0#8),(w8 0#8),(w8 0#8),(w8 0#8),(w8 0#8),(w8 0#8),(w8 0#8),(w8 0#8),(w8 0#8),(.int .i64 0),(.int .i64 0)] [(0,35,(.t 55))]⟩,
  ⟨none,(some 57),.app 35 56 (.t 54) (.t 56)⟩,
  ⟨none,(some 58),.mov (.t 0)⟩,
  ⟨none,(some 59),.mov (.t 12)⟩,
  ⟨none,(some 60),.slcS 35 (.t 58) (some (.t 59)) none none⟩,
  ⟨none,(some 61),.app 35 56 (.t 57) (.t 60)⟩,
  ⟨none,(some 8),.mov (.t 61)⟩,
  ⟨none,none,.apart (.t 11) (.t 54)⟩,
  ⟨none,none,.apart (.t 58) (.t 54)⟩,
  ⟨none,none,.apart (.t 58) (.t 57)⟩])
 .ret)))))))))
 ntmps:=62
 res:=[.tmp 8]
theorem zddi:zsjc P Tryz.f16=some a16:=by kernel_rfl
def zjhm:ACode :=
 (.seq (.seq (.region false [⟨none,(some 9),.mov (.t 8)⟩,
  ⟨none,(some 10),.mov (.t 0)⟩,
  ⟨none,(some 11),.len (.t 10)⟩,
  ⟨none,(some 12),.bin .lss (.t 9) (.t 11)⟩])
 (.cond (.t 12) .skip
 (.exit 0)))
 (.seq (.block 1 (.seq (.region true [⟨none,(some 15),.mov (.t 0)⟩,
  ⟨none,(some 16),.mov (.t 8)⟩,
  ⟨none,(some 17),.idxS 35 (.t 15) (.t 16)⟩,
  ⟨none,(some 18),.fld 0 (.t 17)⟩,
  ⟨none,(some 19),.load 1 false (.t 18)⟩,
  ⟨none,(some 20),.mov (.t 1)⟩,
  ⟨none,(some 21),.bin .neq (.t 19) (.t 20)⟩,
  ⟨none,(some 22),.mov (.t 21)⟩,
  ⟨(some (22,false)),(some 23),.mov (.t 0)⟩,
  ⟨(some (22,false)),(some 24),.mov (.t 8)⟩,
  ⟨(some (22,false)),(some 25),.idxS 35 (.t 23) (.t 24)⟩,
  ⟨(some (22,false)),(some 26),.fld 1 (.t 25)⟩,
  ⟨(some (22,false)),(some 27),.load 32 true (.t 26)⟩,
  ⟨(some (22,false)),(some 28),.load 32 true (.t 5)⟩,
  ⟨(some (22,false)),(some 29),.eqa true [(32,0)] (.t 27) (.t 28)⟩,
  ⟨none,(some 30),.pick (.t 22) (.k (.bool true)) (.t 29)⟩])
 (.cond (.t 30) (.region false [⟨none,(some 31),.mov (.t 7)⟩,
  ⟨none,(some 32),.mov (.t 0)⟩,
  ⟨none,(some 33),.mov (.t 8)⟩,
  ⟨none,(some 34),.idxS 35 (.t 32) (.t 33)⟩,
  ⟨none,(some 35),.load 35 true (.t 34)⟩,
  ⟨none,(some 36),.bsl 35 1 [(.int .i64 0),(w8 0#8),(w8 0#8),(w8 0#8),(w8 0#8),(w8 0#8),(w8 0#8),(w8 0#8),(w8 0#8),(w8 0#8),(w8 0#8),(w8 0#8),(w8 0#8),(w8 0#8),(w8 0#8),(w8 0#8),(w8 0#8),(w8 0#8),(w8 0#8),(w8 0#8),(w8 0#8),(w8 0#8),(w8 0#8),(w8 0#8),(w8 0#8),(w8 0#8),(w8 0#8),(w8 0#8),(w8 0#8),(w8 0#8),(w8 0#8),(w8 0#8),(w8 0#8),(.int .i64 0),(.int .i64 0)] [(0,35,(.t 35))]⟩,
  ⟨none,(some 37),.app 35 56 (.t 31) (.t 36)⟩,
  ⟨none,(some 7),.mov (.t 37)⟩])
 .skip)))
 (.region false [⟨none,(some 13),.mov (.t 8)⟩,
  ⟨none,(some 14),.bin .add (.t 13) (.k (.int .i64 1))⟩,
  ⟨none,(some 8),.mov (.t 14)⟩])))
def zzg5 (x0 x1 x5 x7 x8:DV) (h:List AObj):St:=⟨[x0,x1,.junk,.junk,.junk,x5,.junk,x7,x8]++js 30,h⟩
def a18:AFn where
 code:=(.seq (.region false [⟨none,(some 5),.box (.t 2)⟩,
  ⟨none,(some 6),.mov (.k .nils)⟩])
 (.seq (.region false [⟨none,(some 7),.mov (.k .nils)⟩])
 (.seq (.seq (.region false [⟨none,(some 8),.mov (.k (.int .i64 0))⟩])
 (.block 0 (.loop zjhm)))
 (.seq (.region false [⟨none,(some 38),.mov (.t 7)⟩,
  ⟨none,(some 6),.mov (.t 38)⟩])
 .ret))))
 ntmps:=39
 res:=[.tmp 6]
theorem zt5q:zsjc P Tryz.f18=some a18:=by kernel_rfl
def zy4c:ACode :=
 (.seq (.seq (.region false [⟨none,(some 9),.mov (.t 8)⟩,
  ⟨none,(some 10),.mov (.t 0)⟩,
  ⟨none,(some 11),.len (.t 10)⟩,
  ⟨none,(some 12),.bin .lss (.t 9) (.t 11)⟩])
 (.cond (.t 12) .skip
 (.exit 0)))
 (.seq (.block 1 (.seq (.region false [⟨none,(some 15),.mov (.t 0)⟩,
  ⟨none,(some 16),.mov (.t 8)⟩,
  ⟨none,(some 17),.idxS 35 (.t 15) (.t 16)⟩,
  ⟨none,(some 18),.fld 0 (.t 17)⟩,
  ⟨none,(some 19),.load 1 false (.t 18)⟩,
  ⟨none,(some 20),.mov (.t 1)⟩,
  ⟨none,(some 21),.bin .neq (.t 19) (.t 20)⟩,
  ⟨none,(some 22),.mov (.t 21)⟩,
  ⟨(some (22,false)),(some 23),.mov (.t 2)⟩,
  ⟨(some (22,false)),(some 24),.mov (.t 0)⟩,
  ⟨(some (22,false)),(some 25),.mov (.t 8)⟩,
  ⟨(some (22,false)),(some 26),.idxS 35 (.t 24) (.t 25)⟩,
  ⟨(some (22,false)),(some 27),.fld 1 (.t 26)⟩,
  ⟨(some (22,false)),(some 28),.load 32 true (.t 27)⟩,
  ⟨(some (22,false)),(some 29),.call (.k (.fn (.func 50) [] [])) [(.t 23),(.t 28)]⟩,
  ⟨none,(some 30),.pick (.t 22) (.k (.bool true)) (.t 29)⟩])
 (.cond (.t 30) (.region false [⟨none,(some 31),.mov (.t 7)⟩,
  ⟨none,(some 32),.mov (.t 0)⟩,
  ⟨none,(some 33),.mov (.t 8)⟩,
  ⟨none,(some 34),.idxS 35 (.t 32) (.t 33)⟩,
  ⟨none,(some 35),.load 35 true (.t 34)⟩,
  ⟨none,(some 36),.bsl 35 1 [(.int .i64 0),(w8 0#8),(w8 0#8),(w8 0#8),(w8 0#8),(w8 0#8),(w8 0#8),(w8 0#8),(w8 0#8),(w8 0#8),(w8 0#8),(w8 0#8),(w8 0#8),(w8 0#8),(w8 0#8),(w8 0#8),(w8 0#8),(w8 0#8),(w8 0#8),(w8 0#8),(w8 0#8),(w8 0#8),(w8 0#8),(w8 0#8),(w8 0#8),(w8 0#8),(w8 0#8),(w8 0#8),(w8 0#8),(w8 0#8),(w8 0#8),(w8 0#8),(w8 0#8),(.int .i64 0),(.int .i64 0)] [(0,35,(.t 35))]⟩,
  ⟨none,(some 37),.app 35 56 (.t 31) (.t 36)⟩,
  ⟨none,(some 7),.mov (.t 37)⟩])
 .skip)))
 (.region false [⟨none,(some 13),.mov (.t 8)⟩,
  ⟨none,(some 14),.bin .add (.t 13) (.k (.int .i64 1))⟩,
  ⟨none,(some 8),.mov (.t 14)⟩])))
def zfgh (x0 x1 x2 x7 x8:DV) (h:List AObj):St:=⟨[x0,x1,x2]++js 4++[x7,x8]++js 30,h⟩
def a20:AFn where
 code:=(.seq (.region false [⟨none,(some 6),.mov (.k .nils)⟩])
 (.seq (.region false [⟨none,(some 7),.mov (.k .nils)⟩])
 (.seq (.seq (.region false [⟨none,(some 8),.mov (.k (.int .i64 0))⟩])
 (.block 0 (.loop zy4c)))
 (.seq (.region false [⟨none,(some 38),.mov (.t 7)⟩,
  ⟨none,(some 6),.mov (.t 38)⟩])
 .ret))))
 ntmps:=39
 res:=[.tmp 6]
theorem zfgm:zsjc P Tryz.f20=some a20:=by kernel_rfl
def zso2:ACode :=
 (.seq (.seq (.region false [⟨none,(some 11),.mov (.t 5)⟩,
  ⟨none,(some 12),.mov (.t 0)⟩,
  ⟨none,(some 13),.len (.t 12)⟩,
  ⟨none,(some 14),.bin .lss (.t 11) (.t 13)⟩])
 (.cond (.t 14) .skip
 (.exit 0)))
 (.seq (.block 1 (.seq (.region true [⟨none,(some 17),.mov (.t 0)⟩,
  ⟨none,(some 18),.mov (.t 5)⟩,
  ⟨none,(some 19),.idxS 35 (.t 17) (.t 18)⟩,
  ⟨none,(some 20),.load 35 true (.t 19)⟩,
  ⟨none,(some 21),.mov (.t 1)⟩,
  ⟨none,(some 22),.mov (.t 5)⟩,
  ⟨none,(some 23),.idxS 35 (.t 21) (.t 22)⟩,
  ⟨none,(some 24),.load 35 true (.t 23)⟩,
  ⟨none,(some 25),.eqa true [(35,0)] (.t 20) (.t 24)⟩])
 (.cond (.t 25) (.seq (.region false [⟨none,(some 4),.mov (.k (.bool false))⟩])
 .ret)
 .skip)))
 (.region false [⟨none,(some 15),.mov (.t 5)⟩,
  ⟨none,(some 16),.bin .add (.t 15) (.k (.int .i64 1))⟩,
  ⟨none,(some 5),.mov (.t 16)⟩])))
def zk4k (x0 x1 x5:DV) (h:List AObj):St:=⟨[x0,x1,.junk,.junk,.junk,x5]++js 20,h⟩
def a14:AFn where
 code:=(.seq (.region false [⟨none,(some 4),.mov (.k (.bool false))⟩])
 (.seq (.seq (.region false [⟨none,(some 6),.mov (.t 0)⟩,
  ⟨none,(some 7),.len (.t 6)⟩,
  ⟨none,(some 8),.mov (.t 1)⟩,
  ⟨none,(some 9),.len (.t 8)⟩,
  ⟨none,(some 10),.bin .neq (.t 7) (.t 9)⟩])
 (.cond (.t 10) (.seq (.region false [⟨none,(some 4),.mov (.k (.bool false))⟩])
 .ret)
 .skip))
 (.seq (.seq (.region false [⟨none,(some 5),.mov (.k (.int .i64 0))⟩])
 (.block 0 (.loop zso2)))
 (.seq (.region false [⟨none,(some 4),.mov (.k (.bool true))⟩])
 .ret))))
 ntmps:=26
 res:=[.tmp 4]
theorem zzfl:zsjc P Tryz.f14=some a14:=by kernel_rfl
def a3:AFn where
 code:=(.seq (.region false [⟨none,(some 2),.mov (.k (.bool false))⟩])
 (.seq (.region false [⟨none,(some 9),.mov (.t 0)⟩,
  ⟨none,(some 10),.call (.k (.fn (.func 12) [] [])) [(.t 9)]⟩,
  ⟨none,(some 8),.mov (.t 10)⟩,
  ⟨none,(some 11),.ext (.t 8) 0⟩,
  ⟨none,(some 12),.ext (.t 8) 1⟩,
  ⟨none,(some 3),.alloc [.nils,.nils,(.int .i64 0),(.int .i64 0),.nils,.nils,.nils,(.int .i64 0)]⟩,
  ⟨none,none,.store 8 (.t 3) (.t 11)⟩,
  ⟨none,(some 4),.mov (.t 12)⟩])
 (.seq (.region false [⟨none,(some 13),.mov (.t 4)⟩,
  ⟨none,(some 14),.call (.k (.fn (.func 13) [] [])) [(.t 13),(.k (.int .i64 3))]⟩,
  ⟨none,(some 15),.mov (.t 4)⟩,
  ⟨none,(some 16),.call (.k (.fn (.func 13) [] [])) [(.t 15),(.k (.int .i64 3))]⟩,
  ⟨none,(some 17),.bin .add (.k (.int .i64 1)) (.t 16)⟩,
  ⟨none,(some 18),.conv .u8 (.t 17)⟩,
  ⟨none,(some 19),.build (rep 32 (w8 0#8)) [(0,1,(.t 18))]⟩,
  ⟨none,(some 6),.alloc (rep 32 (w8 0#8))⟩,
  ⟨none,(some 5),.mov (.t 14)⟩,
  ⟨none,none,.store 32 (.t 6) (.t 19)⟩])
 (.seq (.region false [⟨none,(some 20),.mov (.t 4)⟩,
  ⟨none,(some 21),.call (.k (.fn (.func 13) [] [])) [(.t 20),(.k (.int .i64 3))]⟩,
  ⟨none,(some 22),.bin .add (.k (.int .i64 1)) (.t 21)⟩,
  ⟨none,(some 23),.conv .u8 (.t 22)⟩,
  ⟨none,(some 24),.build (rep 32 (w8 0#8)) [(0,1,(.t 23))]⟩,
  ⟨none,(some 25),.bsl 32 1 (rep 32 (w8 0#8)) [(0,32,(.t 24))]⟩,
  ⟨none,(some 7),.mov (.t 25)⟩])
 (.seq (.region true [⟨none,(some 26),.fld 5 (.t 3)⟩,
  ⟨none,(some 27),.load 1 false (.t 26)⟩,
  ⟨none,(some 28),.mov (.t 5)⟩,
  ⟨none,(some 29),.load 32 true (.t 6)⟩,
  ⟨none,(some 30),.fld 7 (.t 3)⟩,
  ⟨none,(some 31),.load 1 false (.t 30)⟩,
  ⟨none,(some 33),.fld 5 (.t 3)⟩,
  ⟨none,(some 34),.load 1 false (.t 33)⟩,
  ⟨none,(some 35),.mov (.t 5)⟩,
  ⟨none,(some 36),.load 32 true (.t 6)⟩,
  ⟨none,(some 37),.fld 7 (.t 3)⟩,
  ⟨none,(some 38),.load 1 false (.t 37)⟩,
  ⟨none,(some 32),.callN (.k (.fn (.func 15) [] [])) [(.t 27),(.t 28),(.t 29),(.t 31)]⟩,
  ⟨none,(some 39),.callN (.k (.fn (.func 16) [] [])) [(.t 34),(.t 35),(.t 36),(.t 38)]⟩,
  ⟨none,(some 40),.callN (.k (.fn (.func 14) [] [])) [(.t 32),(.t 39)]⟩,
  ⟨none,(some 41),.mov (.t 40)⟩,
  ⟨(some (41,true)),(some 42),.fld 5 (.t 3)⟩,
  ⟨(some (41,true)),(some 43),.load 1 false (.t 42)⟩,
  ⟨(some (41,true)),(some 44),.mov (.t 5)⟩,
  ⟨(some (41,true)),(some 45),.load 32 true (.t 6)⟩,
  ⟨(some (41,true)),(some 47),.fld 5 (.t 3)⟩,
  ⟨(some (41,true)),(some 48),.load 1 false (.t 47)⟩,
  ⟨(some (41,true)),(some 49),.mov (.t 5)⟩,
  ⟨(some (41,true)),(some 50),.load 32 true (.t 6)⟩,
  ⟨(some (41,true)),(some 46),.callN (.k (.fn (.func 17) [] [])) [(.t 43),(.t 44),(.t 45)]⟩,
  ⟨(some (41,true)),(some 51),.callN (.k (.fn (.func 18) [] [])) [(.t 48),(.t 49),(.t 50)]⟩,
  ⟨(some (41,true)),(some 52),.callN (.k (.fn (.func 14) [] [])) [(.t 46),(.t 51)]⟩,
  ⟨none,(some 53),.pick (.t 41) (.t 52) (.k (.bool false))⟩,
  ⟨none,(some 54),.mov (.t 53)⟩,
  ⟨(some (54,true)),(some 55),.fld 5 (.t 3)⟩,
  ⟨(some (54,true)),(some 56),.load 1 false (.t 55)⟩,
  ⟨(some (54,true)),(some 57),.mov (.t 5)⟩,
  ⟨(some (54,true)),(some 58),.mov (.t 7)⟩,
  ⟨(some (54,true)),(some 60),.fld 5 (.t 3)⟩,
  ⟨(some (54,true)),(some 61),.load 1 false (.t 60)⟩,
  ⟨(some (54,true)),(some 62),.mov (.t 5)⟩,
  ⟨(some (54,true)),(some 63),.mov (.t 7)⟩,
  ⟨(some (54,true)),(some 59),.callN (.k (.fn (.func 19) [] [])) [(.t 56),(.t 57),(.t 58)]⟩,
  ⟨(some (54,true)),(some 64),.callN (.k (.fn (.func 20) [] [])) [(.t 61),(.t 62),(.t 63)]⟩,
  ⟨(some (54,true)),(some 65),.callN (.k (.fn (.func 14) [] [])) [(.t 59),(.t 64)]⟩,
  ⟨none,(some 66),.pick (.t 54) (.t 65) (.k (.bool false))⟩,
  ⟨none,(some 67),.mov (.t 66)⟩,
  ⟨(some (67,true)),(some 68),.callN (.k (.fn (.func 21) [] [])) []⟩,
  ⟨none,(some 69),.pick (.t 67) (.t 68) (.k (.bool false))⟩,
  ⟨none,(some 2),.mov (.t 69)⟩])
 .ret)))))
 ntmps:=70
 res:=[.tmp 2]
theorem z842:zsjc P Tryz.f3=some a3:=by kernel_rfl
end
section
set_option linter.unusedSimpArgs false
set_option linter.unusedVariables false
open Go Go.Am
structure Cmd where
 kind:Int
 id:Int
 art:Dg
 deriving DecidableEq
structure Rnd where
 c:Clu
 o:List Cmd
def stI (t:Int) (x:Ins):Ins:=(x.st 3).si t
def z83c (l:List Ins) (id:Int):Dg:=match l.find? (fun x=>decide (x.id=id)) with
 | some x=>x.art
 | none=>dg0
open Classical in
noncomputable def zyao (t:Int) (s:Rnd) (id:Int):Rnd :=
 if (z5wo s.c id t 3).2=0 then ⟨(z5wo s.c id t 3).1,s.o++[⟨2,id,z83c s.c.i.l id⟩]⟩ else s
noncomputable def zepc (t:Int) (s:Rnd) (id:Int):Rnd:=⟨(zjqu s.c id t 3).1,s.o++[⟨2,id,z83c s.c.i.l id⟩]⟩
structure Vw (gs:List (List UInt8 × List UInt8 × Int × Int × Int × List Dg)) (s:Rnd) (l:List Ins) (n:Int) (o:List Cmd):Prop where
 v:ValidC s.c
 g:s.c.g.l.map gl=gs
 i:s.c.i.l=l
 n:s.c.next=n
 o:s.o=o
def mkS (t:Int) (V:List Int) (l:List Ins):List Ins:=l.map fun x=>if x.id ∈ V then stI t x else x
def zzoh (l:List Ins) (V:List Int):List Cmd:=V.map fun id=>⟨2,id,z83c l id⟩
theorem zo9a {t:Int} {V:List Int} {l:List Ins}:(mkS t V l).length=l.length:=by simp [mkS]
theorem z74g {l:List Ins} (hd:l.Pairwise (fun x y=>x.id<y.id)) {i:Nat} (h:i<l.length) (t:Int):l.set i (stI t l[i])=mkS t [l[i].id] l:=by
 apply List.ext_getElem (by simp [mkS])
 intro j h1 h2
 rw [List.getElem_set]
 simp only [mkS,y0x,List.mem_singleton]
 have hj:j<l.length:=by simpa using h1
 by_cases e:i=j
 ·subst e; simp
 ·rw [if_neg e,if_neg]
  intro q
  have:=y0g.1 hd
  rcases Nat.lt_or_gt_of_ne e with c|c
  ·have:=this i j h hj c; omega
  ·have:=this j i hj h c; omega
theorem z3z1 {c:Clu} (hv:ValidC c) {t:Int} (ht:zcie t) {i:Nat} (hi:i<c.i.l.length) (hs:c.i.l[i].state≠3) :
  z5wo c c.i.l[i].id t 3=(⟨c.clone.g,own (c.i.l.set i (stI t c.i.l[i])),c.next⟩,0)∧zjqu c c.i.l[i].id t 3=(⟨c.g.copy,own (c.i.l.set i (stI t c.i.l[i])),c.next⟩,0):=by
 have hf:z092 c.i.l c.i.l[i].id=i:=zvud (zyak hv).d hi
 have hset:setI c.i.l i 3 t=c.i.l.set i (stI t c.i.l[i]):=by rw [zgii hi]; rfl
 constructor
 ·unfold z5wo
  rw [if_neg (fun q=>q.elim (fun q=>q hv) (fun q=>q ht)),hf,if_neg (by omega),y0v,y01 hi,if_pos (by simp [may,hs]),hset]
 ·unfold zjqu
  rw [if_neg (fun q=>q.elim (fun q=>q hv) (fun q=>q ht)),hf,if_neg (by omega),y0v,y01 hi,if_pos (by simp [may,hs]),hset]
theorem zrl9 {n:Nat} {next t:Int} {x:Ins} (h:SoundI n next x) (ht:zcie t):SoundI n next (stI t x) :=
 ⟨h.id0,h.id1,h.g0,h.g1,h.art,by show (1:Int)≤3; decide,by show (3:Int)≤3; decide,ht,h.de⟩
theorem z4xv {c d:Clu} (hv:ValidC c) (hg:d.g.l.map gl=c.g.l.map gl) (hn:d.next=c.next) (hl:d.i.l.length=c.i.l.length) (h : ∀ i (h1:i<d.i.l.length) (h2:i<c.i.l.length),d.i.l[i].id=c.i.l[i].id∧SoundI c.g.l.length c.next d.i.l[i]):ValidC d:=by
 have hgl:d.g.l.length=c.g.l.length:=by have:=congrArg List.length hg; simpa using this
 have hge : ∀ i (h1:i<d.g.l.length) (h2:i<c.g.l.length),gl d.g.l[i]=gl c.g.l[i]:=fun i h1 h2=>by
  have:=y0k hg (i:=i) (by simpa using h1)
  simpa using this
 have hval : ∀ {a b:Grp},gl a=gl b→ValidG b→ValidG a:=fun {a b} e v=>by
  simp only [gl,Prod.mk.injEq] at e
  obtain ⟨e1,e2,e3,e4,e5,e6⟩:=e
  exact ⟨by rw [e1]; exact v.ns,by rw [e2]; exact v.im,by rw [e3]; exact v.w0,by rw [e3]; exact v.w1,by rw [e4]; exact v.l0,by rw [e4,e3]; exact v.l1,by rw [e5]; exact v.d0,by rw [e5,e3]; exact v.d1,by rw [e6]; exact v.n,by rw [e6]; exact v.ch⟩
 have hnm : ∀ ns im,z9w0 d.g.l ns im=z9w0 c.g.l ns im:=fun ns im=>zaam hgl (fun i h1 h2=>by
  have:=hge i h1 h2
  simp only [gl,Prod.mk.injEq] at this
  exact ⟨this.1,this.2.1⟩) ns im
 refine ⟨by rw [hgl]; exact hv.ng,by rw [hl]; exact hv.ni,by rw [hn]; exact hv.n0,by rw [hn]; exact hv.n1,fun i hi => ?_,fun i hi => ?_⟩
 ·obtain ⟨q1,q2⟩:=hv.g i (by omega)
  have e:=hge i hi (by omega)
  refine ⟨hval e q1,?_⟩
  have e':=e
  simp only [gl,Prod.mk.injEq] at e'
  rw [e'.1,e'.2.1,hnm]; exact q2
 ·obtain ⟨a1,a2⟩:=h i hi (by omega)
  rw [hgl,hn]
  refine ⟨a2,fun h0 => ?_⟩
  obtain ⟨b1,_⟩:=h (i-1) (by omega) (by omega)
  rw [a1,b1]
  exact (hv.i i (by omega)).2 h0
section
variable {gs:List (List UInt8 × List UInt8 × Int × Int × Int × List Dg)} {s:Rnd} {l:List Ins} {n:Int} {o:List Cmd} {t:Int}
theorem z1s1 (h:Vw gs s l n o) (ht:zcie t) {x:Ins} (hx:x ∈ l) (hs:x.state≠3) :
  Vw gs (zyao t s x.id) (mkS t [x.id] l) n (o++zzoh l [x.id])∧Vw gs (zepc t s x.id) (mkS t [x.id] l) n (o++zzoh l [x.id]):=by
 obtain ⟨i,hi,rfl⟩:=y0c hx
 obtain ⟨hv,hg,hl,hn,ho⟩:=h
 subst hl
 have hd:=(zyak hv).d
 obtain ⟨e1,e2⟩:=z3z1 hv ht hi hs
 have hb:(s.c.i.l.set i (stI t s.c.i.l[i])).length≤4294967296:=by rw [y11]; exact s.c.i.b
 have hol:=z3e9 hb
 have hsm:=z74g hd hi t
 have key : ∀ G:Sl Grp,G.l.map gl=s.c.g.l.map gl→ValidC ⟨G,own (s.c.i.l.set i (stI t s.c.i.l[i])),s.c.next⟩:=fun G hG=>by
  refine z4xv hv hG rfl (by show (own _).l.length=_; rw [hol,y11]) fun j h1 h2 => ?_
  have e:(own (s.c.i.l.set i (stI t s.c.i.l[i]))).l[j]=(s.c.i.l.set i (stI t s.c.i.l[i]))[j]'(by rw [y11]; exact h2):=y0k hol h1
  show (own (s.c.i.l.set i (stI t s.c.i.l[i]))).l[j].id=_∧_
  rw [e,List.getElem_set]
  split
  ·rename_i q; subst q
   exact ⟨rfl,zrl9 (hv.i i h2).1 ht⟩
  ·exact ⟨rfl,(hv.i j h2).1⟩
 have hc:s.c.clone.g.l.map gl=s.c.g.l.map gl:=by
  show (s.c.g.l.map Grp.clone).map gl=_
  exact z9hp _
 constructor
 ·unfold zyao
  rw [e1,if_pos rfl]
  exact ⟨key _ hc,by rw [← hg]; exact hc,by show (own _).l=_; rw [hol,hsm],hn,by rw [ho]; rfl⟩
 ·unfold zepc
  rw [e2]
  exact ⟨key _ rfl,hg,by show (own _).l=_; rw [hol,hsm],hn,by rw [ho]; rfl⟩
theorem zd62 (h:Vw gs s l n o) (ht:zcie t) {k:Nat} (hk:k<gs.length) {d:Dg} (hd:d≠dg0) (hl:l.length<200) (hn:n<1099511627776) :
  z4wu s.c k d t=((z4wu s.c k d t).1,n,0)∧z6qh s.c k d t=((z6qh s.c k d t).1,n,0) ∧
  (∀ o',Vw gs ⟨(z4wu s.c k d t).1,o'⟩ (l++[⟨n,k,d,1,t,-1⟩]) (n+1) o')∧(∀ o',Vw gs ⟨(z6qh s.c k d t).1,o'⟩ (l++[⟨n,k,d,1,t,-1⟩]) (n+1) o'):=by
 obtain ⟨hv,hg,hl',hn',ho⟩:=h
 subst hl' hn'
 have hgl:gs.length=s.c.g.l.length:=by rw [← hg]; simp
 have c1:¬ (¬ ValidC s.c∨d=dg0∨¬ zcie t):=fun q=>q.elim (fun q=>q hv) (fun q=>q.elim (fun q=>hd q) (fun q=>q ht))
 have c2:¬ ((k:Int)<0∨(s.c.g.l.length:Int)≤k):=by omega
 have c3:¬ (200≤s.c.i.l.length∨1099511627776≤s.c.next):=by omega
 have e1:z4wu s.c k d t=(⟨s.c.clone.g,own (s.c.i.l++[newI s.c k d t]),s.c.next+1⟩,s.c.next,0):=by rw [z4wu,if_neg c1,if_neg c2,if_neg c3]
 have e2:z6qh s.c k d t=(⟨s.c.g.copy,own (s.c.i.l++[newI s.c k d t]),s.c.next+1⟩,s.c.next,0):=by rw [z6qh,if_neg c1,if_neg c2,if_neg c3]
 have hb:(s.c.i.l++[newI s.c k d t]).length≤4294967296:=by simp; omega
 have hol:=z3e9 hb
 have hc:s.c.clone.g.l.map gl=s.c.g.l.map gl:=by
  show (s.c.g.l.map Grp.clone).map gl=_
  exact z9hp _
 have hclone:=z4xv (d:=⟨s.c.clone.g,s.c.i,s.c.next⟩) hv hc rfl rfl (fun i h1 h2=>⟨rfl,(hv.i i h2).1⟩)
 have key : ∀ G:Sl Grp,ValidC ⟨G,s.c.i,s.c.next⟩→G.l.length=s.c.g.l.length→ValidC ⟨G,own (s.c.i.l++[newI s.c k d t]),s.c.next+1⟩:=fun G hG hGl=>by
  refine ⟨hG.ng,by show (own _).l.length≤_; rw [hol]; simp; omega,by have:=hv.n0; show (1:Int)≤s.c.next+1; omega,by show s.c.next+1≤_; omega,hG.g,fun i hi => ?_⟩
  have hi':i<(s.c.i.l++[newI s.c k d t]).length:=by
   have:i<(own (s.c.i.l++[newI s.c k d t])).l.length:=hi
   rwa [hol] at this
  have e : ∀ j (h1:j<(own (s.c.i.l++[newI s.c k d t])).l.length) (h2:j<(s.c.i.l++[newI s.c k d t]).length),(own (s.c.i.l++[newI s.c k d t])).l[j]=(s.c.i.l++[newI s.c k d t])[j]:=fun j h1 h2=>y0k hol h1
  have hlen:(s.c.i.l++[newI s.c k d t]).length=s.c.i.l.length+1:=by simp
  show SoundI G.l.length (s.c.next+1) (own (s.c.i.l++[newI s.c k d t])).l[i] ∧ ∀ h0:0<i,(own (s.c.i.l++[newI s.c k d t])).l[i-1].id<(own (s.c.i.l++[newI s.c k d t])).l[i].id
  have hll:(own (s.c.i.l++[newI s.c k d t])).l.length=s.c.i.l.length+1:=by rw [hol,hlen]
  rw [e i hi hi']
  by_cases q:i<s.c.i.l.length
  ·rw [y0l q]
   obtain ⟨a1,a2⟩:=hv.i i q
   refine ⟨⟨a1.id0,by have:=a1.id1; omega,a1.g0,by rw [hGl]; exact a1.g1,a1.art,a1.s0,a1.s1,a1.si,a1.de⟩,fun h0 => ?_⟩
   rw [e (i-1) (by rw [hll]; omega) (by omega),y0l (by omega)]
   exact a2 h0
  ·have hii:i=s.c.i.l.length:=by omega
   subst hii
   rw [List.getElem_append_right (y04 _)]
   simp only [y0m,y09]
   refine ⟨⟨hv.n0,by show s.c.next<s.c.next+1; omega,by show (0:Int)≤k; omega,by show (k:Int)<G.l.length; omega,hd,by show (1:Int)≤1; decide,by show (1:Int)≤3; decide,ht,.inl rfl⟩,fun h0 => ?_⟩
   rw [e _ (by rw [hll]; omega) (by omega),y0l (by omega)]
   exact (hv.i _ (by omega)).1.id1
 have hcl:s.c.clone.g.l.length=s.c.g.l.length:=by show (s.c.g.l.map Grp.clone).length=_; simp
 refine ⟨by rw [e1],by rw [e2],fun o' => ?_,fun o' => ?_⟩
 ·rw [e1]
  exact ⟨key _ hclone hcl,by show s.c.clone.g.l.map gl=gs; rw [hc]; exact hg,by show (own _).l=_; rw [hol]; rfl,rfl,rfl⟩
 ·rw [e2]
  exact ⟨key _ (z4xv (d:=⟨s.c.g.copy,s.c.i,s.c.next⟩) hv rfl rfl rfl fun i h1 h2=>⟨rfl,(hv.i i h2).1⟩) rfl,hg,by show (own _).l=_; rw [hol]; rfl,rfl,rfl⟩
end
end
section
set_option linter.unusedSimpArgs false
set_option linter.unusedVariables false
set_option maxRecDepth 4000
open Go Go.Am
end
section
set_option linter.unusedSimpArgs false
set_option linter.unusedVariables false
open Go Go.Am
end
section
set_option linter.unusedSimpArgs false
set_option linter.unusedVariables false
set_option maxRecDepth 8000
open Go Go.Am
end
section
set_option linter.unusedSimpArgs false
set_option linter.unusedVariables false
set_option maxRecDepth 8000
open Go Go.Am
section
variable {α:Type} {lt:α→α→Bool}
end
def fl {α:Type} (f:α→List DV) (l:List α):List DV:=l.flatMap f
theorem z8lx {α:Type} {f:α→List DV} {K:Nat} (hu : ∀ a,(f a).length=K) (l:List α):(fl f l).length=l.length*K:=z1rq hu l
section
variable {α:Type} {f:α→List DV} {K:Nat}
end
section
variable {α:Type} {f:α→List DV} {K:Nat}
theorem zkaf {l m:List α}:fl f (l++m)=fl f l++fl f m:=by unfold fl; exact List.flatMap_append ..
theorem zvrp {h:List AObj} {id b m:Nat} {l:List α} {cs:List α} (hu : ∀ a,(f a).length=K) (h0:0<K) (hb:b≤16384) (ha : ∀ a,(f a).all DV.one=true) (hm:cs.length=m) (hbig:l.length+m≤4294967296) (ho:objV h id (l.length*K)=some (fl f l)) :
  appX h K b (.ms id (l.length*K) 0 K l.length (l.length*K)) m (cs.flatMap f)=some (.ms id ((l.length+m)*K) 0 K (l.length+m) ((l.length+m)*K),h.set id (.cells (fl f (l++cs)))):=by
 have hc:(cs.flatMap f).length=m*K:=by rw [z1rq hu,hm]
 rw [zbho rfl hb h0 (by rw [hc]) hbig (z9jy ha cs),ho,y12,hc,← Nat.add_mul,zkaf]
 rfl
end
section
variable {α:Type} {f:α→List DV} {K:Nat}
def oV (k K:Nat) (l:List α):DV:=if l=[] then .nils else .ms k (l.length*K) 0 K l.length (l.length*K)
def oT (f:α→List DV) (l:List α):List AObj:=if l=[] then [] else [.cells (fl f l)]
theorem zl8p {k:Nat}:oV k K ([]:List α) = .nils:=rfl
theorem zkrk:oT f []=[]:=rfl
theorem zpni {k:Nat} {l:List α} (h:l≠[]):oV k K l = .ms k (l.length*K) 0 K l.length (l.length*K):=if_neg h
theorem zu2l {l:List α} (h:l≠[]):oT f l=[.cells (fl f l)]:=if_neg h
theorem z612 {k b:Nat} {l cs:List α} {h:List AObj} (hp:h.length=k) (hu : ∀ a,(f a).length=K) (h0:0<K) (hb:b≤16384) (ha : ∀ a,(f a).all DV.one=true) (hbig:l.length+cs.length≤4294967296) :
  appX (h++oT f l) K b (oV k K l) cs.length (cs.flatMap f)=some (oV k K (l++cs),h++oT f (l++cs)):=by
 by_cases e:l=[]
 ·subst e
  rw [zl8p,zkrk,y0r,y13]
  by_cases e2:cs=[]
  ·subst e2
   rw [show ([]:List α).flatMap f=[] from rfl,List.length_nil,zw6v hb h0,zl8p,zkrk,y0r]
  ·have:=zsuq (h:=h) (s:=K) (b:=b) (m:=cs.length) (cs:=cs.flatMap f) hb h0 (by rw [z1rq hu]) (y1e.2 e2) (by simp at hbig; omega)
   rw [this,zpni e2,zu2l e2,z1rq hu,hp]; rfl
 ·have ho:objV (h++[AObj.cells (fl f l)]) k (l.length*K)=some (fl f l):=by
   unfold objV ziu0
   rw [y05 (by omega),show k-h.length=0 by omega]
   simp [z8lx hu]
  have:=zvrp (h:=h++[AObj.cells (fl f l)]) (id:=k) (b:=b) (l:=l) (m:=cs.length) (cs:=cs) hu h0 hb ha rfl hbig ho
  rw [zpni e,zu2l e,this,zpni (by simp [e]),zu2l (by simp [e]),y03,y0b _ _ (by omega),show k-h.length=0 by omega]
  rfl
theorem zte0 {k b:Nat} {l:List α} {x:α} {h:List AObj} (hp:h.length=k) (hu : ∀ a,(f a).length=K) (h0:0<K) (hb:b≤16384) (ha : ∀ a,(f a).all DV.one=true) (hbig:l.length+1≤4294967296) :
  appX (h++oT f l) K b (oV k K l) 1 (f x)=some (oV k K (l++[x]),h++oT f (l++[x])):=by
 have:=z612 (cs:=[x]) (b:=b) hp hu h0 hb ha hbig
 simpa using this
theorem zd81 {n:Nat} {l:List α} (hf : ∀ a,zbao (f a)=true):zlf2 n (oT f l)=true:=by
 unfold oT
 split
 ·rfl
 ·simp only [zlf2,fl,zmq5 _ _ (zp6k hf _),y0i]
theorem zv6o {k:Nat} {l:List α}:Am.below (k+(oT f l).length) (oV k K l)=true:=by
 unfold oV oT
 split<;>simp [Am.below]
end
def kLt (n:Nat):Nat→Bool:=fun id=>decide (id<n)
mutual
theorem zam2 {h:List AObj} (n:Nat) : ∀ (d:DV),Am.below n d=true→fzS (kLt n) h 3 d=some d
 | .agg cs,q=>by simp only [Am.below] at q; rw [zf3h,zw41 n cs q]; rfl
 | .tup cs,q=>by simp only [Am.below] at q; rw [zliz,zw41 n cs q]; rfl
 | .sl _ _ _ cs,q=>by simp only [Am.below] at q; rw [zfs9,zw41 n cs q]; rfl
 | .ref cs,q=>by simp only [Am.below] at q; rw [zeo2,zw41 n cs q]; rfl
 | .fn _ a b,q=>by simp only [Am.below,y06] at q; rw [z284,zw41 n a q.1,zw41 n b q.2]; rfl
 | .iface t v,q=>by
  simp only [Am.below] at q
  have:=zam2 (h:=h) n v q
  simp only [fzS,zcxt] at this ⊢
  rw [this]; rfl
 | .ms id ..,q=>by simp only [Am.below,decide_eq_true_eq] at q; rw [zi9r,if_pos (by simpa [kLt] using q)]
 | .mp id ..,q=>by simp only [Am.below,decide_eq_true_eq] at q; rw [zept,if_pos (by simpa [kLt] using q)]
 | .int ..,_=>zzxw rfl
 | .bool ..,_=>zzxw rfl
 | .str ..,_=>zzxw rfl
 | .nilp,_=>zzxw rfl
 | .nilm,_=>zzxw rfl
 | .nilf,_=>zzxw rfl
 | .nili,_=>zzxw rfl
 | .nils,_=>zzxw rfl
 | .junk,_=>zzxw rfl
theorem zw41 {h:List AObj} (n:Nat) : ∀ (l:List DV),belowL n l=true→fzSo (kLt n) h 3 l=some l
 | [],_=>zmvq
 | d::r,q=>by simp only [belowL,y06] at q; rw [zhuj,zam2 n d q.1,zw41 n r q.2]; rfl
end
theorem zd3c {h:List AObj} {n:Nat} {d:DV} (q:Am.below n d=true):mk1 (kLt n) h d=d:=zwy6 (zam2 n d q)
theorem zfxa {h:List AObj} {n:Nat} : ∀ {l:List DV},belowL n l=true→mkL (kLt n) h l=l
 | [],_=>rfl
 | d::r,q=>by simp only [belowL,y06] at q; rw [z8t0,zd3c q.1,zfxa q.2]
theorem z6z7 {h:List AObj} {n:Nat} : ∀ {l:List AObj} {i:Nat},i+l.length≤n→zlf2 n l=true→mkO (kLt n) h i l=l
 | [],i,_,_=>rfl
 | .cells a::r,i,hi,q=>by
  simp only [zlf2,y06] at q
  simp only [y0d] at hi
  rw [ztik,if_pos (by simp [kLt]; omega),zfxa q.1,z6z7 (by omega) q.2]
 | .dead::r,i,hi,q=>by
  simp only [zlf2] at q
  simp only [y0d] at hi
  rw [zsk4,z6z7 (by omega) q]
theorem z26m {K:Nat→Bool} {h:List AObj} : ∀ {a b:List AObj} {i:Nat},mkO K h i (a++b)=mkO K h i a++mkO K h (i+a.length) b
 | [],b,i=>rfl
 | .cells c::r,b,i=>by rw [y0e,ztik,ztik,z26m,y0e,y0d,Nat.add_assoc,y1h 1]
 | .dead::r,b,i=>by rw [y0e,zsk4,zsk4,z26m,y0e,y0d,Nat.add_assoc,y1h 1]
theorem zz5t {H:List AObj} {cs:List DV} {off:Nat} (hp:zbao cs=true):mk1 (kLt H.length) (H++[.cells cs]) (.mp H.length cs.length off) = .ref (cs.drop off):=by
 refine zwy6 ?_
 have ho:objV (H++[AObj.cells cs]) H.length cs.length=some cs:=by
  unfold objV ziu0
  rw [y05 (y04 _),y0m]; simp
 have hd:zbao (cs.drop off)=true:=by
  have : ∀ (l:List DV) (k:Nat),zbao l=true→zbao (l.drop k)=true:=by
   intro l
   induction l with
   | nil=>intro k _; simp [zbao]
   | cons d r ih =>
    intro k h
    simp only [zbao,y06] at h
    cases k with
    | zero=>simp [zbao,h]
    | succ k=>exact ih k h.2
  exact this _ _ hp
 rw [zept,if_neg (by simp [kLt]),ho,y0j,zl6f hd]; rfl
theorem zs10 {P:Program} {n0:Nat} {x:ACode} {Φ:AExit→St→Prop} {t t':List DV} {H:List AObj} {cs:List DV} (hH:zlf2 H.length H=true) (hn:n0≤H.length)
  (ht:znqe (mkL (kLt H.length) (H++[.cells cs]) t) t') (hb:belowL H.length t'=true) (h:V P n0 x Φ ⟨t',H⟩):V P n0 x Φ ⟨t,H++[.cells cs]⟩:=by
 refine V_mk (kLt H.length) ?_
 rw [z26m,z6z7 (by omega) hH,ztik,if_neg (by simp [kLt]),zfxb]
 exact zqfd (zju2 (tail:=[.dead]) ht rfl hn hb hH) h
theorem zrqk {P:Program} {f:FuncId} {fn:Func} (hf:P.funcs[f]? = some fn) {af:AFn} (hc:zsjc P fn=some af) {args:List DV} {h:List AObj} {v:DV} {k:List AObj} (hr:V P h.length af.code (retH af.res v k) ⟨zr5g af.ntmps args,h⟩):zwy1 P f args h (fun d k'=>d=v∧k'=k) :=
 zcpc hf hc (zftn (fun _ _ h=>h.out) hr)
open Classical in
noncomputable def ptH (a0:List DV) (h0:List AObj) (r:DV) (h1:List AObj):List DV→List AObj→Option (DV × List AObj):=fun a h=>if a=a0∧h=h0 then some (r,h1) else none
theorem zpvh {a0:List DV} {h0:List AObj} {r:DV} {h1:List AObj}:ptH a0 h0 r h1 a0 h0=some (r,h1):=if_pos ⟨rfl,rfl⟩
theorem zdmv {k:FuncId} {a0:List DV} {h0:List AObj} {r:DV} {h1:List AObj} (hc:zwy1 P k a0 h0 (fun d h=>d=r∧h=h1)):(Con.heap (ptH a0 h0 r h1)).Sound P k:=by
 intro args h v h' e
 unfold ptH at e
 split at e
 ·rename_i q
  simp only [Option.some.injEq,Prod.mk.injEq] at e
  obtain ⟨rfl,rfl⟩:=e
  rw [q.1,q.2]; exact hc
 ·cases e
theorem z0em {P:Program} {n0:Nat} {x:ACode} {Φ:AExit→St→Prop} {t t':List DV} {H R:List AObj} (hH:zlf2 H.length H=true) (hn:n0≤H.length)
  (ht:znqe (mkL (kLt H.length) (H++R) t) t') (hb:belowL H.length t'=true) (h:V P n0 x Φ ⟨t',H⟩):V P n0 x Φ ⟨t,H++R⟩:=by
 refine V_mk (kLt H.length) ?_
 rw [z26m,z6z7 (by omega) hH]
 exact zqfd (zju2 ht rfl hn hb hH) h
theorem zy42 {k K:Nat} {α:Type} {l:List α}:(oV k K l).cells=[oV k K l]:=by unfold oV; split<;>rfl
theorem z6jg {k K:Nat} {α:Type} {l:List α}:(oV k K l).one=true:=by unfold oV; split<;>rfl
end
section
set_option linter.unusedSimpArgs false
set_option linter.unusedVariables false
set_option maxRecDepth 20000
open Go Go.Am
def cmC (x:Cmd):List DV := .int .i64 x.kind :: .int .i64 x.id::dgC x.art
theorem zfq1 (x:Cmd):(cmC x).length=34:=by simp [cmC,z1t1]
theorem zoyx (x:Cmd):zbao (cmC x)=true:=by simp only [cmC,zbao,zyp8,y0o]; exact z3ot _
theorem z095 (x:Cmd):(cmC x).all DV.one=true:=by
 simp only [cmC,y1c,y06]
 exact ⟨rfl,rfl,by simp [dgC,zzst]⟩
structure EF where
 pre:List AObj
 hp : ∀ n,pre.length≤n→zlf2 n pre=true
 x0:DV
 x1:DV
 T:DV
 px0:zyp8 x0=true
 px1:zyp8 x1=true
 pT:zyp8 T=true
 t:Int
def EF.b (F:EF):Nat:=F.pre.length
def EF.rd (F:EF) (c:Clu) (q:DV):List DV:=[c.g.dv 6 grC,c.i.dv 37 inC,.int .i64 c.next,F.x0,F.x1,F.T,.int .i64 F.t,q]
def EF.G (F:EF) (c:Clu) (q:DV) (o:List Cmd):List AObj:=F.pre++(.cells (F.rd c q)::oT cmC o)
def EF.H (F:EF) (s:Rnd):List AObj:=F.G s.c (oV (F.b+1) 34 s.o) s.o
section
variable {F:EF} {c c':Clu} {q q':DV} {o:List Cmd}
theorem EF.set:(F.G c q o).set F.b (.cells (F.rd c' q'))=F.G c' q' o:=by
 unfold EF.G EF.b
 rw [y0b _ _ (y04 _),y0m]; rfl
theorem EF.app {x:Cmd} (hb:o.length+1≤4294967296):appX (F.G c q o) 34 48 (oV (F.b+1) 34 o) 1 (cmC x)=some (oV (F.b+1) 34 (o++[x]),F.G c q (o++[x])):=by
 have:=zte0 (k:=F.b+1) (K:=34) (b:=48) (f:=cmC) (l:=o) (x:=x) (h:=F.pre++[.cells (F.rd c q)]) (by simp [EF.b]) zfq1 (by decide) (by decide) z095 hb
 simp only [List.append_assoc,List.singleton_append] at this
 exact this
theorem EF.len:F.b<(F.G c q o).length:=by unfold EF.G EF.b; simp
theorem EF.belowL {n:Nat} (hq:Am.below n q=true):Am.belowL n (F.rd c q)=true:=by
 simp only [EF.rd,Am.belowL,z8b8 _ _ (z1vd c.g),z8b8 _ _ (zcha c.i),z8b8 _ _ F.px0,z8b8 _ _ F.px1,z8b8 _ _ F.pT,hq]
 rfl
end
theorem zrlz {n:Nat} : ∀ {a b:List AObj},zlf2 n a=true→zlf2 n b=true→zlf2 n (a++b)=true
 | [],_,_,h=>h
 | .cells c::r,b,h1,h2=>by
  simp only [zlf2,y06,y0e] at h1 ⊢
  exact ⟨h1.1,zrlz h1.2 h2⟩
 | .dead::r,b,h1,h2=>by
  simp only [zlf2,y0e] at h1 ⊢
  exact zrlz h1 h2
theorem EF.below (F:EF) (s:Rnd) {n:Nat} (hn:(F.H s).length≤n):zlf2 n (F.H s)=true:=by
 unfold EF.H EF.G at hn ⊢
 simp only [y03,y0d] at hn
 refine zrlz (F.hp n (by omega)) ?_
 simp only [zlf2,y06]
 refine ⟨EF.belowL ?_,zd81 zoyx⟩
 have:=zv6o (k:=F.b+1) (K:=34) (f:=cmC) (l:=s.o)
 by_cases h:s.o=[]
 ·rw [h,zl8p]; rfl
 ·rw [zpni h]
  simp only [Am.below,decide_eq_true_eq]
  rw [zu2l h] at hn
  simp only [y18] at hn
  unfold EF.b; omega
theorem EF.hlen (F:EF) (s:Rnd):(F.H s).length=F.b+1+(if s.o=[] then 0 else 1):=by
 unfold EF.H EF.G EF.b oT
 split<;>simp [*]
theorem EF.hle (F:EF) {s s1:Rnd} (h:s.o≠[]→s1.o≠[]):(F.H s).length≤(F.H s1).length:=by
 rw [EF.hlen,EF.hlen]
 by_cases q:s.o=[]
 ·rw [if_pos q]; omega
 ·rw [if_neg q,if_neg (h q)]; omega
theorem zkzr {c:Clu} {id t:Int} (h:(z5wo c id t 3).2=0) : ∃ (i:Nat) (_:i<c.i.l.length),z092 c.i.l id=i:=by
 unfold z5wo at h
 split at h
 ·simp at h
 ·split at h
  ·simp at h
  ·split at h
   ·rename_i h1 h2 h3
    refine ⟨(z092 c.i.l id).toNat,?_,by omega⟩
    rcases Nat.lt_or_ge (z092 c.i.l id).toNat c.i.l.length with q|q
    ·exact q
    ·rw [y0q q] at h3; simp at h3
   ·simp at h
end
section
set_option linter.unusedSimpArgs false
set_option linter.unusedVariables false
set_option maxRecDepth 20000
open Go Go.Am
def stgB (k:Int) (G:List Int) (b:Bool) (x:Ins):Bool:=decide (x.grp=k)&&(decide (x.state=1)&&(decide (x.id ∈ G) == b))
def stgL (k:Int) (G:List Int) (b:Bool) (l:List Ins):List Int:=(l.filter (stgB k G b)).map Ins.id
theorem zt4h {k:Int} {G:List Int} {b:Bool} {l:List Ins}:(stgL k G b l).length≤l.length:=by
 unfold stgL; rw [y0s]; exact y19 _ _
end
section
set_option linter.unusedSimpArgs false
set_option linter.unusedVariables false
set_option maxRecDepth 8000
open Go Go.Am
abbrev Str:=List UInt8
structure Tot {α:Type} (lt:α→α→Bool):Prop where
 irr : ∀ a,lt a a=false
 tr : ∀ a b c,lt a b=true→lt b c=true→lt a c=true
 tot : ∀ a b,lt a b=true∨a=b∨lt b a=true
section
variable {α:Type} [DecidableEq α] {lt:α→α→Bool}
end
theorem zrk4 : ∀ a:Str,Op.bytesLess a a=false
 | []=>rfl
 | a::l=>by simp [Op.bytesLess,zrk4 l]
theorem z8c3 : ∀ a b c:Str,Op.bytesLess a b=true→Op.bytesLess b c=true→Op.bytesLess a c=true
 | _,_,[],_,h=>by simp [Op.bytesLess] at h
 | [],_,_::_,_,_=>rfl
 | _::_,[],_::_,h,_=>by simp [Op.bytesLess] at h
 | a::x,b::y,c::z,h1,h2=>by
  simp only [Op.bytesLess,y14,y06,decide_eq_true_eq,beq_iff_eq] at *
  rcases h1 with h1|⟨h1,h1'⟩
  ·rcases h2 with h2|⟨h2,h2'⟩
   ·exact .inl (UInt8.lt_trans h1 h2)
   ·exact .inl (h2▸h1)
  ·rcases h2 with h2|⟨h2,h2'⟩
   ·exact .inl (h1▸h2)
   ·exact .inr ⟨h1.trans h2,z8c3 _ _ _ h1' h2'⟩
theorem zoet : ∀ a b:Str,Op.bytesLess a b=true∨a=b∨Op.bytesLess b a=true
 | [],[] => .inr (.inl rfl)
 | [],_::_ => .inl rfl
 | _::_,[] => .inr (.inr rfl)
 | a::x,b::y=>by
  simp only [Op.bytesLess,y14,y06,decide_eq_true_eq,beq_iff_eq]
  rcases UInt8.lt_or_lt_of_ne (a:=a) (b:=b) |> fun h=>(Classical.em (a=b)).imp_right h with e|e|e
  ·rcases zoet x y with q|q|q
   ·exact .inl (.inr ⟨e,q⟩)
   ·exact .inr (.inl (by rw [e,q]))
   ·exact .inr (.inr (.inr ⟨e.symm,q⟩))
  ·exact .inl (.inl e)
  ·exact .inr (.inr (.inl e))
theorem z3gj:Tot Op.bytesLess:=⟨zrk4,z8c3,zoet⟩
theorem zqwe {α β:Type} {lt:β→β→Bool} {f:α→β} (hf : ∀ a b,f a=f b→a=b) (o:Tot lt):Tot (fun a b=>lt (f a) (f b)) :=
 ⟨fun a=>o.irr _,fun a b c=>o.tr _ _ _,fun a b=>(o.tot (f a) (f b)).imp_right (Or.imp_left (hf a b))⟩
def zynh {α β:Type} [DecidableEq α] (l1:α→α→Bool) (l2:β→β→Bool) (a b:α × β):Bool:=if a.1=b.1 then l2 a.2 b.2 else l1 a.1 b.1
theorem zcht {α β:Type} [DecidableEq α] {l1:α→α→Bool} {l2:β→β→Bool} (o1:Tot l1) (o2:Tot l2):Tot (zynh l1 l2):=by
 refine ⟨fun a=>by simp [zynh,o2.irr],fun a b c h1 h2 => ?_,fun a b => ?_⟩
 ·unfold zynh at *
  by_cases e1:a.1=b.1
  ·by_cases e2:b.1=c.1
   ·rw [if_pos e1] at h1; rw [if_pos e2] at h2; rw [if_pos (e1.trans e2)]; exact o2.tr _ _ _ h1 h2
   ·rw [if_neg e2] at h2; rw [e1,if_neg e2]; exact h2
  ·rw [if_neg e1] at h1
   by_cases e2:b.1=c.1
   ·rw [← e2,if_neg e1]; exact h1
   ·rw [if_neg e2] at h2
    have h3:=o1.tr _ _ _ h1 h2
    rw [if_neg fun e=>by rw [e,o1.irr] at h3; cases h3]
    exact h3
 ·unfold zynh
  by_cases e:a.1=b.1
  ·rw [if_pos e,if_pos e.symm]
   rcases o2.tot a.2 b.2 with q|q|q
   ·exact .inl q
   ·exact .inr (.inl (Prod.ext e q))
   ·exact .inr (.inr q)
  ·rw [if_neg e,if_neg (fun q=>e q.symm)]
   rcases o1.tot a.1 b.1 with q|q|q
   ·exact .inl q
   ·exact absurd q e
   ·exact .inr (.inr q)
def dgU (d:Dg):List UInt8:=d.1.map fun b=>b.toNat.toUInt8
theorem zvz3 {a b:B8} (h:a.toNat.toUInt8=b.toNat.toUInt8):a=b:=by
 have ha:=a.isLt
 have hb:=b.isLt
 have h1:=congrArg UInt8.toNat h
 simp only [Nat.toUInt8_eq,UInt8.toNat_ofNat',y0p ha,y0p hb] at h1
 exact BitVec.eq_of_toNat_eq h1
theorem znyd (a b:Dg) (h:dgU a=dgU b):a=b:=Subtype.ext (List.map_inj_right (fun _ _=>zvz3) |>.1 h)
def dgLt (a b:Dg):Bool:=Op.bytesLess (dgU a) (dgU b)
theorem zc3a:Tot dgLt:=zqwe (lt:=Op.bytesLess) (f:=dgU) znyd z3gj
def u8L (l:List B8):List UInt8:=l.map fun b=>b.toNat.toUInt8
theorem zi7v {E:Env} {X:Forb} {w:World} {v:Value} {b:B8} (h:Rep E X w v (w8 b)):v = .int .u8 b.toNat:=by
 cases h; rfl
theorem zq08 {P:Program} {w:World} {a:Addr} {x:List B8} {cv:Nat→Value} (hc : ∀ i,i<(x.map w8).length→w.cell? (a.add i)=some (cv i)) {E:Env} {X:Forb} (hr : ∀ i (h:i<(x.map w8).length),Rep E X w (cv i) (x.map w8)[i]) :
  (Extern.Bytes.loadBytes a x.length .empty).run P w = .ok ⟨(u8L x).toArray⟩ w:=by
 have h:=Lib.run_loadBytesX (P:=P) (w:=w) (x.map fun b=>(b.toNat:Int)) a .empty (fun j y hy=>by
  obtain ⟨hj,e⟩:=y0w.1 hy
  have hj':j<x.length:=by simpa using hj
  have h1:=hc j (by simpa using hj')
  have h2:=hr j (by simpa using hj')
  rw [y0x] at h2
  rw [h1,zi7v h2]
  rw [y0x] at e
  rw [e])
 rw [y0s] at h
 rw [h]
 have e:Lib.bytesOf (x.map fun b=>(b.toNat:Int))=u8L x:=by simp [Lib.bytesOf,u8L,List.map_map,Function.comp_def]
 rw [e]
 simp
theorem zf9q {P : Program} {f : FuncId} {fn : Func} (hf : P.funcs[f]? = some fn) (h1 : (fn.name == "runtime.NumGoroutine") = false) (h2 : fn.body.isNone = true) (h3 : Extern.findNext fn = none) (h4 : Extern.find fn = some Extern.BytealgCompare.compare) (x y : List B8) (fx fy : Bool) :
  Am.Sem P f [.sl fx 1 x.length (x.map w8),.sl fy 1 y.length (y.map w8)] (.int .i64 (Lib.compareBytes (u8L x) (u8L y))):=by
 intro X w vs _ hr
 obtain ⟨v1,v2,rfl,hx,hy⟩:=zaih hr
 cases hx with
 | sl _ _ _ cap1 a1 _ cv1 hn1 hf1 hl1 hc1 hx1 hr1 =>
 cases hy with
 | sl _ _ _ cap2 a2 _ cv2 hn2 hf2 hl2 hc2 hx2 hr2 =>
 refine .inr ⟨_,w,?_,_,rfl,Rep.int .i64 _,BelowD.refl _ w⟩
 have hrun:(Extern.BytealgCompare.compare #[.slice (some a1) x.length cap1,.slice (some a2) y.length cap2]).run P w = .ok (.int .i64 (Lib.compareBytes (u8L x) (u8L y))) w:=by
  change Sem.run P (do pure (goInt (Extern.BytealgCompare.cmp (← Extern.Bytes.bytesOf (.slice (some a1) x.length cap1)) (← Extern.Bytes.bytesOf (.slice (some a2) y.length cap2))))) w=_
  simp only [Extern.Bytes.bytesOf,Sem.run_bind,Sem.run_pure,zq08 hc1 hr1,zq08 hc2 hr2,Result.andThen]
  rw [Lib.cmp_eq]
  rfl
 rw [run_callFunc_extern hf h1 h2 h3 h4,hrun]
 rfl
theorem zadq : ∀ (a b:List UInt8),Lib.compareBytes a b<0↔Op.bytesLess a b=true
 | [],[]=>by simp [Lib.compareBytes,Op.bytesLess]
 | [],_::_=>by simp [Lib.compareBytes,Op.bytesLess]
 | _::_,[]=>by simp [Lib.compareBytes,Op.bytesLess]
 | x::a,y::b=>by
  have ih:=zadq a b
  simp only [Lib.compareBytes,Op.bytesLess,y14,y06,decide_eq_true_eq,beq_iff_eq]
  by_cases h:x<y
  ·simp [h]
  ·by_cases h':y<x
   ·have:¬ x=y:=fun e=>by subst e; exact h h'
    simp [h,h',this]
   ·have:x=y:=UInt8.le_antisymm (UInt8.not_lt.1 h') (UInt8.not_lt.1 h)
    subst this; simp [ih]
abbrev BB:=(Bool × List B8) × (Bool × List B8)
def fBB (a:BB):List DV:=[.sl a.1.1 1 a.1.2.length (a.1.2.map w8),.sl a.2.1 1 a.2.2.length (a.2.2.map w8)]
noncomputable def cBc:List DV→Option DV:=con (fun _=>True) fBB (fun a => .int .i64 (Lib.compareBytes (u8L a.1.2) (u8L a.2.2)))
theorem zdrm {f g:Bool} {a b:List B8}:cBc [.sl f 1 a.length (a.map w8),.sl g 1 b.length (b.map w8)]=some (.int .i64 (Lib.compareBytes (u8L a) (u8L b))) :=
 zsn4 (f:=fBB) (g:=fun a => .int .i64 (Lib.compareBytes (u8L a.1.2) (u8L a.2.2))) (by
  rintro ⟨⟨a,b⟩,⟨c,d⟩⟩ ⟨⟨a',b'⟩,⟨c',d'⟩⟩ e
  simp only [fBB,List.cons.injEq,DV.sl.injEq,and_true,true_and] at e
  obtain ⟨⟨rfl,-,e1⟩,rfl,-,e2⟩:=e
  rw [zwcl] at e1 e2
  rw [e1,e2]) ((f,a),(g,b))
noncomputable def T520:Tbl:=addT 102 (.pure cBc) tbl0
theorem z2c4:T520 102 = .pure cBc:=by simp [T520]
theorem z4p8:T520.Sound P:=z0rp (z2au fun a _=>zf9q Tryz.func102 (by kernel_rfl) (by kernel_rfl) (by kernel_rfl) (by kernel_rfl) a.1.2 a.2.2 a.1.1 a.2.1) zr5o
theorem zag9 (a:BB):Runs T520 a72 (fBB a) (.int .i64 (Lib.compareBytes (u8L a.1.2) (u8L a.2.2))):=by
 refine ⟨?_⟩
 obtain ⟨⟨f,a⟩,⟨g,b⟩⟩:=a
 simp (disch:=first|omega|simp<;>omega|fail) [-zA,-zB,-zC,-zD,-zE,fBB,a72,z2c4,zdrm]
theorem zroj:(Con.pure cBc).Sound P 72:=z2au fun a _=>zljw mix z4p8 Tryz.func72 z0xs (zag9 a)
def zsy0 (a b:Dg):Int:=Lib.compareBytes (dgU a) (dgU b)
theorem zxr9 {a b:Dg}:zsy0 a b<0↔dgLt a b=true:=zadq _ _
theorem z1f4 {f g:Bool} {a b:Dg}:cBc [.sl f 1 32 (dgC a),.sl g 1 32 (dgC b)]=some (.int .i64 (zsy0 a b)):=by
 have:=zdrm (f:=f) (g:=g) (a:=a.1) (b:=b.1)
 rw [a.2,b.2] at this
 exact this
section
variable {α:Type} {f:α→List DV} {K:Nat}
end
end
section
set_option linter.unusedSimpArgs false
set_option linter.unusedVariables false
set_option maxRecDepth 20000
open Go Go.Am
section
variable {α:Type} {c:α→Int} {l:List α}
def kOf (c:α→Int) (l:List α):Nat:=(l.takeWhile fun x=>decide (c x<0)).length
def fOf (c:α→Int) (l:List α):Bool:=match l[kOf c l]? with
 | some x=>decide (c x=0)
 | none=>false
def Mono (c:α→Int) (l:List α):Prop := ∀ i j (hi:i<l.length) (hj:j<l.length),i<j→c l[j]<0→c l[i]<0
theorem zg29 (c:α→Int) (l:List α):kOf c l≤l.length:=(List.takeWhile_sublist _).length_le
theorem zgek : ∀ {l:List α} {i:Nat},i≤l.length→(∀ m (h:m<l.length),m<i→c l[m]<0)→(∀ h:i<l.length,¬ c l[i]<0)→kOf c l=i
 | [],i,h,_,_=>by simp at h; subst h; rfl
 | a::l,0,_,_,h=>by
  have:=h (by simp)
  simp only [y09] at this
  simp [kOf,y1f,this]
 | a::l,i+1,hi,h1,h2=>by
  have ha:=h1 0 (by simp) (by omega)
  simp only [y09] at ha
  have ih:=zgek (l:=l) (i:=i) (by simpa using hi) (fun m hm hmi=>by
   have:=h1 (m+1) (by simpa using hm) (by omega)
   simpa using this) (fun h=>by
   have:=h2 (by simpa using h)
   simpa using this)
  have ha':decide (c a<0)=true:=decide_eq_true ha
  unfold kOf at ih ⊢
  rw [y1f,ha',if_pos rfl,y0d,ih]
theorem zjjt {i:Nat} (hk:kOf c l=i) (h:i<l.length):fOf c l=decide (c l[i]=0):=by
 unfold fOf; rw [hk,y01 h]
theorem zj9m {i:Nat} (hk:kOf c l=i) (h:¬ i<l.length):fOf c l=false:=by
 unfold fOf; rw [hk,y0q (by omega)]
end
theorem z9q1 : ∀ (a b:List UInt8),Lib.compareBytes a b=0↔a=b
 | [],[]=>by simp [Lib.compareBytes]
 | [],_::_=>by simp [Lib.compareBytes]
 | _::_,[]=>by simp [Lib.compareBytes]
 | x::a,y::b=>by
  have ih:=z9q1 a b
  simp only [Lib.compareBytes,List.cons.injEq]
  by_cases h:x<y
  ·have:x≠y:=fun e=>by subst e; exact absurd h (by simp)
   simp [h,this]
  ·by_cases h':y<x
   ·have:x≠y:=fun e=>by subst e; exact absurd h' (by simp)
    simp [h,h',this]
   ·have:x=y:=by
     have h1:¬ x.toNat<y.toNat:=fun q=>h (UInt8.lt_iff_toNat_lt.2 q)
     have h2:¬ y.toNat<x.toNat:=fun q=>h' (UInt8.lt_iff_toNat_lt.2 q)
     exact UInt8.toNat_inj.1 (by omega)
    simp [h,h',this,ih]
theorem zuux {a b:Dg}:zsy0 a b=0↔a=b:=by
 unfold zsy0
 rw [z9q1]
 exact ⟨fun h=>znyd _ _ h,fun h=>by rw [h]⟩
structure Tri where
 grp:Int
 art:Dg
 fl:Int
 af:Int
 deriving DecidableEq
def trC (x:Tri):List DV := .int .i64 x.grp::(dgC x.art++[.int .i64 x.fl,.int .i64 x.af])
theorem zezj (x:Tri):(trC x).length=35:=by simp [trC,z1t1]
theorem z1zd (x:Tri):zbao (trC x)=true:=by
 simp only [trC,zbao,zyp8,y0o]
 exact zg0c (z3ot _) (by simp [zbao,zyp8])
theorem zms9 (x:Tri):(trC x).all DV.one=true:=by simp only [trC,y1c,List.all_append,zoxk,zzmf,List.all_nil,y0i]
theorem zst3 (x:Tri):(trC x).drop 1=dgC x.art++[.int .i64 x.fl,.int .i64 x.af]:=rfl
theorem zww5 : ∀ x:Tri,oneC 35 true (trC x)=some (.agg (trC x)):=fun x=>by simp [oneC,zezj,y02]
theorem z7fr {x:Tri}:oneC 1 false (trC x)=some (.int .i64 x.grp):=rfl
theorem z56z {a b:Tri} (e:trC a=trC b):a=b:=by
 obtain ⟨a1,a2,a3,a4⟩:=a
 obtain ⟨b1,b2,b3,b4⟩:=b
 simp only [trC,List.cons.injEq,DV.int.injEq,true_and] at e
 obtain ⟨e1,e2⟩:=e
 have h:=List.append_inj e2 (by rw [z1t1,z1t1])
 simp only [List.cons.injEq,DV.int.injEq,true_and,and_true] at h
 rw [e1,zib9 h.1,h.2.1,h.2.2]
def cmpT (g:Int) (d:Dg) (x:Tri):Int:=orI (cmpI x.grp g) (zsy0 x.art d)
noncomputable def znlu:Tbl:=addT 71 (.pure (cII fun a b => .int .i64 (cmpI a b))) (addT 72 (.pure cBc) (addT 70 (.pure cOr) tbl0))
theorem z2rr:znlu 71 = .pure (cII fun a b => .int .i64 (cmpI a b)):=by simp [znlu]
theorem z7qx:znlu 72 = .pure cBc:=by simp [znlu]
theorem zu8u:znlu 70 = .pure cOr:=by simp [znlu]
theorem znzo:znlu.Sound P:=z0rp (z2au fun p _=>zljw mix ztzm Tryz.func71 zbtg (zcof p.1 p.2)) (z0rp zroj (z0rp (z2au fun p _=>zljw mix zr5o Tryz.func70 zhcw (z5l8 p.1 p.2)) zr5o))
theorem zswn (x:Tri):((trC x).drop 1).take 32=dgC x.art:=by
 rw [zst3,y15 (z1t1 _)]
theorem ze4n (a b:Tri):Runs znlu a69 [.agg (trC a),.agg (trC b)] (.int .i64 (cmpT b.grp b.art a)):=by
 refine ⟨?_⟩
 have hb : ∀ h (x:Tri),boxD h (.agg (trC x))=some (.mp h.length 35 0,h++[.cells (trC x)]):=fun h x=>by rw [zn72,zezj]
 have hd : ∀ x:Tri,dgC x.art++[DV.int .i64 x.fl,.int .i64 x.af]=(trC x).drop 1:=fun x=>rfl
 simp (disch:=first|omega|simp<;>omega|fail) [-zA,-zB,-zC,-zD,-zE,a69,hb,z7fr,z2rr,zmei,z7qx,zswn,zezj,z3ot,z1f4,zu8u,z68y,cmpT]
noncomputable def cS1t:List DV→Option DV:=con (fun _=>True) (fun a:Tri × Tri=>[.agg (trC a.1),.agg (trC a.2)]) (fun a => .int .i64 (cmpT a.2.grp a.2.art a.1))
theorem z1ro {a b:Tri}:cS1t [.agg (trC a),.agg (trC b)]=some (.int .i64 (cmpT b.grp b.art a)) :=
 zsn4 (f:=fun a:Tri × Tri=>[.agg (trC a.1),.agg (trC a.2)]) (g:=fun a => .int .i64 (cmpT a.2.grp a.2.art a.1)) (by
  rintro ⟨a,b⟩ ⟨c,d⟩ e
  simp only [List.cons.injEq,DV.agg.injEq,and_true] at e
  rw [z56z e.1,z56z e.2]) (a,b)
noncomputable def zxgd:Tbl:=addT 69 (.pure cS1t) tbl0
theorem zrju:zxgd 69 = .pure cS1t:=by simp [zxgd]
theorem z0s4:zxgd.Sound P:=z0rp (z2au fun a _=>zljw mix znzo Tryz.func69 z713 (ze4n a.1 a.2)) zr5o
structure IJ where
 i:Nat
 j:Nat
def sfn:DV := .fn (.func 69) [] []
def zos4 (x:Sl Tri) (t:Tri) (a:IJ):St:=zd78 (x.dv 35 trC) sfn (.mp 0 35 0) (.int .i64 x.l.length) (.int .i64 a.i) (.int .i64 a.j) [.cells (trC t)]
theorem zm7q (x:Sl Tri):zyp8 (x.dv 35 trC)=true:=zxxb z1zd x
theorem z3um (i j:Nat):(max ((i:Int)+j) 0) >>> (1:Nat)=((i+j) / 2:Nat):=by
 rw [Int.max_eq_left (by omega),Int.shiftRight_eq_div_pow]; omega
theorem zfmw (x:Sl Tri) (t:Tri) (hm:Mono (cmpT t.grp t.art) x.l):Runs zxgd a68 [x.dv 35 trC,.agg (trC t),sfn] (.tup [.int .i64 (kOf (cmpT t.grp t.art) x.l),.bool (fOf (cmpT t.grp t.art) x.l)]):=by
 refine ⟨?_⟩
 have hb:=x.b
 have hbx : ∀ h (x:Tri),boxD h (.agg (trC x))=some (.mp h.length 35 0,h++[.cells (trC x)]):=fun h x=>by rw [zn72,zezj]
 have hlx : ∀ H,lenD H (x.dv 35 trC)=some (.int .i64 x.l.length):=fun H=>zupj
 simp (disch:=first|omega|simp<;>omega|fail) [-zA,-zB,-zC,-zD,-zE,a68,hbx,hlx,sfn]
 refine zlm5 (zos4 x t) (fun a=>a.j-a.i) (fun a=>a.i≤a.j∧a.j≤x.l.length∧(∀ m (h:m<x.l.length),m<a.i→cmpT t.grp t.art x.l[m]<0) ∧ ∀ m (h:m<x.l.length),a.j≤m→0≤cmpT t.grp t.art x.l[m]) ⟨0,x.l.length⟩ (z515 (by simp (disch:=first|omega|simp<;>omega|fail) [-zA,-zB,-zC,-zD,-zE,zos4,zd78,sfn]) (by simp (disch:=first|omega|simp<;>omega|fail) [-zA,-zB,-zC,-zD,-zE,zos4,zd78])) ⟨y1i _,y04 _,fun m _ h=>by simp at h,fun m h1 h2=>by have h2:x.l.length≤m:=h2; omega⟩ (fun a ha => ?_)
 obtain ⟨i,j⟩:=a
 obtain ⟨h1,h2,h3,h4⟩:=ha
 simp only at h1 h2 h3 h4
 simp only [zos4]
 by_cases g:i<j
 ·have g':(i:Int)<j:=by omega
  have hh:=z3um i j
  obtain ⟨k,hk⟩ : ∃ k,(i+j) / 2=k:=⟨_,rfl⟩
  rw [hk] at hh
  have hkl:k<x.l.length:=by omega
  have hx : ∀ H,zpsc H 35 (x.dv 35 trC) k=some (.ref (trC x.l[k])):=fun H=>zalo zezj hkl
  have hc:=z1ro (a:=x.l[k]) (b:=t)
  have hlo:cmpT t.grp t.art x.l[k]<0 → ∀ m (h:m<x.l.length),m<k+1→cmpT t.grp t.art x.l[m]<0:=fun e m hml hmk=>by
   by_cases q:m=k
   ·subst q; exact e
   ·exact hm m k hml hkl (by omega) e
  have hhi:¬ cmpT t.grp t.art x.l[k]<0 → ∀ m (h:m<x.l.length),k≤m→0≤cmpT t.grp t.art x.l[m]:=fun e m hml hkm=>by
   by_cases p:m=k
   ·subst p; omega
   ·by_cases q:cmpT t.grp t.art x.l[m]<0
    ·exact absurd (hm k m hkl hml (by omega) q) e
    ·omega
  obtain ⟨u,hu⟩ : ∃ u,x.l[k]=u:=⟨_,rfl⟩
  rw [hu] at hx hc hlo hhi
  obtain ⟨v,hv⟩ : ∃ v,cmpT t.grp t.art u=v:=⟨_,rfl⟩
  rw [hv] at hc hlo hhi
  have h1t:=zww5 t
  by_cases q:v<0
  ·have hlo:=hlo q
   simp (disch:=first|omega|simp<;>omega|fail) [-zA,-zB,-zC,-zD,-zE,z0bm,zd78,sfn,g,g',hh,hx,zww5,zezj,z1zd,zrju,hc,q]
   exact ⟨⟨k+1,j⟩,z515 (by simp (disch:=first|omega|simp<;>omega|fail) [-zA,-zB,-zC,-zD,-zE,zos4,zd78,sfn]) (by simp (disch:=first|omega|simp<;>omega|fail) [-zA,-zB,-zC,-zD,-zE,zos4,zd78]),by simp only; omega,by simp only; omega,by simp only; omega,hlo,fun m hml hjm=>h4 m hml hjm⟩
  ·have hhi:=hhi q
   have q':0≤v:=by omega
   simp (disch:=first|omega|simp<;>omega|fail) [-zA,-zB,-zC,-zD,-zE,z0bm,zd78,sfn,g,g',hh,hx,zww5,zezj,z1zd,zrju,hc,q,q']
   exact ⟨⟨i,k⟩,z515 (by simp (disch:=first|omega|simp<;>omega|fail) [-zA,-zB,-zC,-zD,-zE,zos4,zd78,sfn]) (by simp (disch:=first|omega|simp<;>omega|fail) [-zA,-zB,-zC,-zD,-zE,zos4,zd78]),by simp only; omega,by simp only; omega,by simp only; omega,fun m hml hmi=>h3 m hml hmi,hhi⟩
 ·have g':¬ (i:Int)<j:=by omega
  obtain rfl:i=j:=by omega
  have hk:=zgek (c:=cmpT t.grp t.art) h2 h3 (fun h=>by have:=h4 i h (y04 _); omega)
  have hf:=zjjt hk
  have hf':=zj9m hk
  rw [hk]
  by_cases e:i<x.l.length
  ·have e':(i:Int)<x.l.length:=by omega
   have hf:=hf e
   have hx : ∀ H,zpsc H 35 (x.dv 35 trC) i=some (.ref (trC x.l[i])):=fun H=>zalo zezj e
   have hc:=z1ro (a:=x.l[i]) (b:=t)
   obtain ⟨u,hu⟩ : ∃ u,x.l[i]=u:=⟨_,rfl⟩
   rw [hu] at hx hc hf
   rw [hf]
   obtain ⟨v,hv⟩ : ∃ v,cmpT t.grp t.art u=v:=⟨_,rfl⟩
   rw [hv] at hc
   rw [hv]
   simp (disch:=first|omega|simp<;>omega|fail) [-zA,-zB,-zC,-zD,-zE,z0bm,zd78,sfn,g,g',e,e',hx,zww5,zezj,z1zd,zrju,hc]
  ·have e':¬ (i:Int)<x.l.length:=by omega
   rw [hf' e]
   simp (disch:=first|omega|simp<;>omega|fail) [-zA,-zB,-zC,-zD,-zE,z0bm,zd78,sfn,g,g',e,e']
end
section
set_option linter.unusedSimpArgs false
set_option linter.unusedVariables false
set_option maxRecDepth 20000
open Go Go.Am
theorem zy87 {a b:List UInt8}:zhl4 .lss (.str a) (.str b)=some (.bool (Op.bytesLess a b)):=rfl
attribute [simp] zy87
def zavf (a b:Str):Int:=if Op.bytesLess a b then -1 else if Op.bytesLess b a then 1 else 0
theorem zrmv {a b:Str}:zhl4 .gtr (.str a) (.str b)=some (.bool (Op.bytesLess b a)):=by
 have e:zhl4 .gtr (.str a) (.str b)=some (.bool (!(Op.bytesLess a b||a == b))):=by simp [zhl4,zdnj]
 rw [e]
 congr 2
 rcases zoet a b with h|h|h
 ·have h':Op.bytesLess b a=false:=by
   cases q:Op.bytesLess b a with
   | false=>rfl
   | true=>have:=z8c3 _ _ _ h q; rw [zrk4] at this; cases this
  rw [h,h']; rfl
 ·subst h; simp [zrk4]
 ·have h':Op.bytesLess a b=false:=by
   cases q:Op.bytesLess a b with
   | false=>rfl
   | true=>have:=z8c3 _ _ _ h q; rw [zrk4] at this; cases this
  have hn:¬ a=b:=fun e=>by rw [e,zrk4] at h; cases h
  rw [h,h']; simp [hn]
attribute [simp] zrmv
def or3I (a b c:Int):Int:=if a=0 then (if b=0 then c else b) else a
theorem z5ha {a b:Str}:zavf a b<0↔Op.bytesLess a b=true:=by
 unfold zavf; split
 ·rename_i h; simp [h]
 ·rename_i h; simp [h]; split<;>decide
theorem zmen {a b:Str}:zavf a b=0↔a=b:=by
 unfold zavf
 rcases zoet a b with h|h|h
 ·simp only [h,if_true]; constructor
  ·intro q; omega
  ·intro q; rw [q,zrk4] at h; cases h
 ·subst h; simp [zrk4]
 ·have h':Op.bytesLess a b=false:=by
   cases q:Op.bytesLess a b with
   | false=>rfl
   | true=>have:=z8c3 _ _ _ h q; rw [zrk4] at this; cases this
  simp only [h,h',if_true]
  constructor
  ·intro q; simp at q
  ·intro q; rw [q,zrk4] at h; cases h
structure Ixe where
 ns:Str
 im:Str
 art:Dg
 ok:Bool
def ixZ:List DV:=dgC dg0++(.int .i64 0::(dgC dg0++[.str [],.str [],.nils,.nils,.int .i64 0]))
def ixC (x:Ixe):List DV := .str x.ns :: .str x.im::(dgC x.art++(.bool x.ok::ixZ))
theorem zuvx:ixZ.length=70:=by simp [ixZ,z1t1]
theorem zwe8 (x:Ixe):(ixC x).length=105:=by simp [ixC,z1t1,zuvx]
theorem zuwa:zbao ixZ=true:=by
 unfold ixZ
 refine zg0c (z3ot _) ?_
 simp only [zbao,zyp8,y0o]
 exact zg0c (z3ot _) rfl
theorem z0ob (x:Ixe):zbao (ixC x)=true:=by
 simp only [ixC,zbao,zyp8,y0o]
 exact zg0c (z3ot _) (by simp only [zbao,zyp8,zuwa,y0i])
theorem zect : ∀ x:Ixe,oneC 105 true (ixC x)=some (.agg (ixC x)):=fun x=>by simp [oneC,zwe8,y02]
structure Rqs where
 ns:Str
 im:Str
 art:Dg
def rqC (x:Rqs):List DV := .str x.ns :: .str x.im::dgC x.art
theorem zzeg (x:Rqs):(rqC x).length=34:=by simp [rqC,z1t1]
theorem zhqv (x:Rqs):zbao (rqC x)=true:=by simp only [rqC,zbao,zyp8,z3ot,y0i]
theorem zed4 : ∀ x:Rqs,oneC 34 true (rqC x)=some (.agg (rqC x)):=fun x=>by simp [oneC,zzeg,y02]
theorem z8s0 {x:Rqs}:oneC 1 false (rqC x)=some (.str x.ns):=rfl
theorem zonr {x:Rqs}:oneC 1 false ((rqC x).drop 1)=some (.str x.im):=rfl
theorem z82b {a b:Rqs} (e:rqC a=rqC b):a=b:=by
 obtain ⟨a1,a2,a3⟩:=a
 obtain ⟨b1,b2,b3⟩:=b
 simp only [rqC,List.cons.injEq,DV.str.injEq] at e
 rw [e.1,e.2.1,zib9 e.2.2]
def ixR (x:Ixe):Rqs:=⟨x.ns,x.im,x.art⟩
theorem zdyd (x:Ixe):oneC 34 true (ixC x)=some (.agg (rqC (ixR x))):=by
 have h:(ixC x).take 34=rqC (ixR x):=by
  have:ixC x=rqC (ixR x)++(.bool x.ok::ixZ):=by simp [ixC,rqC,ixR]
  rw [this,y15 (zzeg _)]
 simp only [oneC,if_true]
 rw [if_pos (by rw [zwe8]; decide),h]
theorem zv4z {a b:Ixe} (e:ixC a=ixC b):a=b:=by
 obtain ⟨a1,a2,a3,a4⟩:=a
 obtain ⟨b1,b2,b3,b4⟩:=b
 simp only [ixC,List.cons.injEq,DV.str.injEq] at e
 obtain ⟨e1,e2,e3⟩:=e
 have h:=List.append_inj e3 (by rw [z1t1,z1t1])
 simp only [List.cons.injEq,DV.bool.injEq,and_true] at h
 rw [e1,e2,zib9 h.1,h.2]
def cmpR (r:Rqs) (x:Ixe):Int:=or3I (zavf x.ns r.ns) (zavf x.im r.im) (zsy0 x.art r.art)
structure IK where
 i:Nat
 j:Nat
end
section
set_option linter.unusedSimpArgs false
set_option linter.unusedVariables false
set_option maxRecDepth 20000
open Go Go.Am
theorem zvgf (h:List AObj) (id:Nat) (d e:Dg):zy6o h id 32 0 (.agg (dgC d)) (some (dgC e))=some (.junk,h.set id (.cells (dgC d))):=zfc1 (z1t1 _) (z1t1 _) (by simp [dgC,zzst])
noncomputable def cBst:List DV→Option DV:=con (fun a:Sl Tri × Tri=>Mono (cmpT a.2.grp a.2.art) a.1.l) (fun a=>[a.1.dv 35 trC,.agg (trC a.2),sfn]) (fun a => .tup [.int .i64 (kOf (cmpT a.2.grp a.2.art) a.1.l),.bool (fOf (cmpT a.2.grp a.2.art) a.1.l)])
theorem z47i {x y:Sl Tri} (e:x.dv 35 trC=y.dv 35 trC):x=y:=zcq7 zezj (by decide) (fun _ _=>z56z) e
theorem zrpw {x y:Sl Ixe} (e:x.dv 105 ixC=y.dv 105 ixC):x=y:=zcq7 zwe8 (by decide) (fun _ _=>zv4z) e
theorem za1r {x:Sl Tri} {t:Tri} (h:Mono (cmpT t.grp t.art) x.l):cBst [x.dv 35 trC,.agg (trC t),sfn]=some (.tup [.int .i64 (kOf (cmpT t.grp t.art) x.l),.bool (fOf (cmpT t.grp t.art) x.l)]) :=
 zzno (A:=fun a:Sl Tri × Tri=>Mono (cmpT a.2.grp a.2.art) a.1.l) (f:=fun a=>[a.1.dv 35 trC,.agg (trC a.2),sfn]) (g:=fun a => .tup [.int .i64 (kOf (cmpT a.2.grp a.2.art) a.1.l),.bool (fOf (cmpT a.2.grp a.2.art) a.1.l)]) (by
  rintro ⟨a,b⟩ ⟨c,d⟩ e
  simp only [List.cons.injEq,DV.agg.injEq,and_true] at e
  rw [z47i e.1,z56z e.2]) (x,t) h
noncomputable def znec:Tbl:=addT 68 (.pure cBst) tbl0
theorem zn9u:znec 68 = .pure cBst:=by simp [znec]
theorem zy1n:znec.Sound P:=z0rp (z2au fun a h=>zljw mix z0s4 Tryz.func68 z20i (zfmw a.1 a.2 h)) zr5o
theorem z8tf {z:List DV} {a:Int} {d:Dg} (h1:z.length=35) (h2:z.drop 33=[.int .i64 0,.int .i64 0]):zvnk z [(0,1,.int .i64 a),(1,32,.agg (dgC d))]=some (.agg (trC ⟨a,d,0,0⟩)):=by
 have h3:(z.drop 1).drop 32=[.int .i64 0,.int .i64 0]:=by rw [List.drop_drop]; exact h2
 obtain ⟨b,r,rfl⟩ : ∃ b r,z=b::r:=by cases z with
  | nil=>simp at h1
  | cons b r=>exact ⟨b,r,rfl⟩
 have hl:r.length=34:=by simpa using h1
 have h4:r.drop 32=[.int .i64 0,.int .i64 0]:=h2
 simp [zvnk,zi03,zk7y,DV.known,DV.cells,z1t1,hl,h4,trC]
theorem ztjp (x:Sl Tri) (g:Int) (d:Dg) (hm:Mono (cmpT g d) x.l):Runs znec a42 [x.dv 35 trC,.int .i64 g,.agg (dgC d)] (.tup [.int .i64 (kOf (cmpT g d) x.l),.bool (fOf (cmpT g d) x.l)]):=by
 refine ⟨?_⟩
 have hb : ∀ h,boxD h (.agg (dgC d))=some (.mp h.length 32 0,h++[.cells (dgC d)]):=fun h=>by rw [zn72,z1t1]
 have h1d:oneC 32 true (dgC d)=some (.agg (dgC d)):=by simp [oneC,z1t1,y02]
 have hc:=za1r (x:=x) (t:=⟨g,d,0,0⟩) hm
 have hc:cBst [x.dv 35 trC,.agg (trC ⟨g,d,0,0⟩),.fn (.func 69) [] []]=some (.tup [.int .i64 (kOf (cmpT g d) x.l),.bool (fOf (cmpT g d) x.l)]):=hc
 have hr:DV.int .i64 g::(dgC d++[.int .i64 0,.int .i64 0])=trC ⟨g,d,0,0⟩:=rfl
 have hp:=zm7q x
 simp (disch:=first|omega|simp<;>omega|fail) [-zA,-zB,-zC,-zD,-zE,a42,hb,z1t1,h1d,z8tf,zn9u,hc,hp,z1zd]
noncomputable def cSrc:List DV→Option DV:=con (fun a:Sl Tri × Int × Dg=>Mono (cmpT a.2.1 a.2.2) a.1.l) (fun a=>[a.1.dv 35 trC,.int .i64 a.2.1,.agg (dgC a.2.2)]) (fun a => .tup [.int .i64 (kOf (cmpT a.2.1 a.2.2) a.1.l),.bool (fOf (cmpT a.2.1 a.2.2) a.1.l)])
theorem ztk4 {x:Sl Tri} {g:Int} {d:Dg} (h:Mono (cmpT g d) x.l):cSrc [x.dv 35 trC,.int .i64 g,.agg (dgC d)]=some (.tup [.int .i64 (kOf (cmpT g d) x.l),.bool (fOf (cmpT g d) x.l)]) :=
 zzno (A:=fun a:Sl Tri × Int × Dg=>Mono (cmpT a.2.1 a.2.2) a.1.l) (f:=fun a=>[a.1.dv 35 trC,.int .i64 a.2.1,.agg (dgC a.2.2)]) (g:=fun a => .tup [.int .i64 (kOf (cmpT a.2.1 a.2.2) a.1.l),.bool (fOf (cmpT a.2.1 a.2.2) a.1.l)]) (by
  rintro ⟨a,b,c⟩ ⟨a',b',c'⟩ e
  simp only [List.cons.injEq,DV.agg.injEq,DV.int.injEq,and_true,true_and] at e
  rw [z47i e.1,e.2.1,zib9 e.2.2]) (x,g,d) h
theorem zev6:(Con.pure cSrc).Sound P 42:=z2au fun a h=>zljw mix zy1n Tryz.func42 zl17 (ztjp a.1 a.2.1 a.2.2 h)
structure Idx where
 at_:Int
 e:Sl Ixe
def xiC (x:Idx):List DV:=[.int .i64 x.at_,x.e.dv 105 ixC]
theorem zt7p {a b:Idx} (e:xiC a=xiC b):a=b:=by
 obtain ⟨a1,a2⟩:=a
 obtain ⟨b1,b2⟩:=b
 simp only [xiC,List.cons.injEq,DV.int.injEq,true_and,and_true] at e
 rw [e.1,zrpw e.2]
def alwB (l:List Ixe) (r:Rqs):Bool:=fOf (cmpR r) l&&((l[kOf (cmpR r) l]?).map Ixe.ok).getD false
theorem zsfp {α:Type} {c:α→Int} {l:List α} (h:fOf c l=true) : ∃ hk:kOf c l<l.length,c l[kOf c l]=0:=by
 unfold fOf at h
 by_cases q:kOf c l<l.length
 ·rw [y01 q] at h
  exact ⟨q,by simpa using h⟩
 ·rw [y0q (by omega)] at h; simp at h
end
section
set_option linter.unusedSimpArgs false
set_option linter.unusedVariables false
set_option maxRecDepth 20000
open Go Go.Am
def zvlr (tr:List Tri) (k:Int) (d:Dg) (t:Int):Bool:=fOf (cmpT k d) tr&&decide (t<((tr[kOf (cmpT k d) tr]?).map Tri.af).getD 0)
def choB (tr:List Tri) (ix:List Ixe) (g:Grp) (k t:Int) (d:Dg):Bool := !zvlr tr k d t&&alwB ix ⟨g.ns,g.im,d⟩
def choF (tr:List Tri) (ix:List Ixe) (g:Grp) (k t:Int):Option Dg:=g.ch.l.find? (choB tr ix g k t)
def choC (tr:List Tri) (ix:List Ixe) (c:Clu) (k t:Int):Option Dg:=match grAt c k with
 | some g=>choF tr ix g k t
 | none=>none
structure ChOK (x:Idx) (tr:Sl Tri):Prop where
 t : ∀ k d,Mono (cmpT k d) tr.l
 x : ∀ r,Mono (cmpR r) x.e.l
end
section
set_option linter.unusedSimpArgs false
set_option linter.unusedVariables false
set_option maxRecDepth 20000
open Go Go.Am
structure EFX (F:EF) (x:Idx) (tr:Sl Tri):Prop where
 h0:F.x0 = .int .i64 x.at_
 h1:F.x1=x.e.dv 105 ixC
 hT:F.T=tr.dv 35 trC
 ok:ChOK x tr
noncomputable def zusy (tr:List Tri) (ix:List Ixe) (t:Int) (k:Int) (s:Rnd):Bool × Rnd:=match choC tr ix s.c k t with
 | none=>(false,s)
 | some d=>if (z4wu s.c k d t).2.2=0 then (true,⟨(z4wu s.c k d t).1,s.o++[⟨1,(z4wu s.c k d t).2.1,d⟩]⟩) else (false,s)
end
section
set_option linter.unusedSimpArgs false
set_option linter.unusedVariables false
set_option maxRecDepth 20000
open Go Go.Am
theorem zzaj {c:Clu} {k t:Int} {d:Dg} (h:(z4wu c k d t).2.2=0):(z4wu c k d t).1=⟨c.clone.g,own (c.i.l++[newI c k d t]),c.next+1⟩∧(z4wu c k d t).2.1=c.next∧c.i.l.length<200:=by
 unfold z4wu at h ⊢
 split at h
 ·simp at h
 ·rename_i h1
  rw [if_neg h1]
  split at h
  ·simp at h
  ·rename_i h2
   rw [if_neg h2]
   split at h
   ·simp at h
   ·rename_i h3
    rw [if_neg h3]
    exact ⟨rfl,rfl,by omega⟩
theorem zbq8 {c:Clu} {k:Int}:grAt c.clone k=(grAt c k).map Grp.clone:=by
 unfold grAt
 split
 ·show (c.g.l.map Grp.clone)[k.toNat]? = _
  rw [List.getElem?_map]
 ·rfl
theorem zu5r {tr:List Tri} {ix:List Ixe} {t k:Int} {s:Rnd} (h:(zusy tr ix t k s).1=true):(znqs (zusy tr ix t k s).2.c k).length=(znqs s.c k).length+1∧(zusy tr ix t k s).2.o.length=s.o.length+1∧(zusy tr ix t k s).2.o≠[]∧(zusy tr ix t k s).2.c.i.l.length=s.c.i.l.length+1:=by
 cases hc:choC tr ix s.c k t with
 | none=>unfold zusy at h; rw [hc] at h; simp at h
 | some d =>
  have hs:zusy tr ix t k s=if (z4wu s.c k d t).2.2=0 then (true,⟨(z4wu s.c k d t).1,s.o++[⟨1,(z4wu s.c k d t).2.1,d⟩]⟩) else (false,s):=by unfold zusy; rw [hc]
  by_cases h0:(z4wu s.c k d t).2.2=0
  ·rw [if_pos h0] at hs
   rw [hs]
   obtain ⟨e1,e2,e3⟩:=zzaj h0
   have hol:(own (s.c.i.l++[newI s.c k d t])).l=s.c.i.l++[newI s.c k d t]:=z3e9 (by simp; omega)
   refine ⟨?_,by simp,by simp,by simp only [e1]; rw [hol]; simp⟩
   simp only [e1]
   cases hg:grAt s.c k with
   | none=>unfold choC at hc; rw [hg] at hc; simp at hc
   | some g =>
    have hm:d ∈ g.ch.l:=by
     unfold choC at hc
     rw [hg] at hc
     exact List.mem_of_find?_eq_some hc
    have hg2:grAt ⟨s.c.clone.g,own (s.c.i.l++[newI s.c k d t]),s.c.next+1⟩ k=some g.clone:=by
     have:=zbq8 (c:=s.c) (k:=k)
     rw [hg] at this; exact this
    unfold znqs idsP
    rw [hg2,hg]
    simp only [hol,y0s]
    have e:z9qu g.clone=z9qu g:=rfl
    rw [e]
    unfold selL
    rw [List.filter_append,y03]
    have hn:(decide ((newI s.c k d t).grp=k)&&z9qu g (newI s.c k d t))=true:=by
     simp [newI,z9qu,chos,hm]
    simp [List.filter_cons,hn]
  ·rw [if_neg h0] at hs; rw [hs] at h; simp at h
noncomputable def zinu (tr:List Tri) (ix:List Ixe) (t k want:Int):Nat→Rnd→Rnd
 | 0,s=>s
 | m+1,s=>if (zusy tr ix t k s).1=true then zinu tr ix t k want m (zusy tr ix t k s).2 else s
noncomputable def filS (tr:List Tri) (ix:List Ixe) (t k want:Int) (s:Rnd):Rnd:=zinu tr ix t k want (want-(znqs s.c k).length).toNat s
noncomputable def grS1 (t k:Int) (s:Rnd):Rnd:=(stgL k (znqs s.c k) false s.c.i.l).foldl (zyao t) s
noncomputable def grS2 (t k want:Int) (s:Rnd):Rnd:=((stgL k (znqs s.c k) true s.c.i.l).reverse.take ((znqs s.c k).length-want).toNat).foldl (zyao t) s
noncomputable def grS3 (t k:Int) (s:Rnd):Rnd:=((zu3j s.c k).take (z17v s.c k).toNat).foldl (zyao t) s
noncomputable def grpS (tr:List Tri) (ix:List Ixe) (t k want:Int) (s:Rnd):Rnd:=filS tr ix t k want (grS3 t k (grS2 t k want (grS1 t k s)))
end
section
set_option linter.unusedSimpArgs false
set_option linter.unusedVariables false
set_option maxRecDepth 20000
open Go Go.Am
theorem exTH {k:Nat} {a0:List DV} {h0:List AObj} {r:DV} {h1:List AObj} {T:Tbl} (hs:T.Sound P) (hc:zwy1 P k a0 h0 (fun d h=>d=r∧h=h1)) :
  ∃ (T':Tbl) (f:List DV→List AObj→Option (DV × List AObj)),T'.Sound P∧T' k = .heap f∧f a0 h0=some (r,h1) ∧ ∀ j,j≠k→T' j=T j :=
 ⟨addT k (.heap (ptH a0 h0 r h1)) T,ptH a0 h0 r h1,z0rp (zdmv hc) hs,by simp [addT],zpvh,fun j hj=>by simp [addT,hj]⟩
theorem zqw0 {c:Clu} {k:Int} {sel:Grp→Ins→Bool}:(idsP c k sel).length≤c.i.l.length:=by
 unfold idsP
 split
 ·rw [y0s]; exact y19 _ _
 ·simp
theorem z9e8 {c:Clu} {k:Int}:(zu3j c k).length≤3*c.i.l.length:=by
 unfold zu3j
 split
 ·simp only [y03,zmgd,y07,y1g]
  have h1:=zqw0 (c:=c) (k:=k) (sel:=sDen)
  have h2:=zqw0 (c:=c) (k:=k) (sel:=sRep)
  have h3:=zqw0 (c:=c) (k:=k) (sel:=z7e4)
  omega
 ·simp
theorem z0v2 {tr:List Tri} {ix:List Ixe} {t k:Int} {s:Rnd} (h:(zusy tr ix t k s).1=false):(zusy tr ix t k s).2=s:=by
 unfold zusy at h ⊢
 split
 ·rfl
 ·rename_i d e
  rw [e] at h
  simp only at h
  split at h
  ·simp at h
  ·rename_i h2; rw [if_neg h2]
structure GrOK (t:Int) (s:Rnd) (k:Nat) (want:Int):Prop where
 hk:k<s.c.g.l.length
 hw:s.c.g.l[k].want=want
 w0 : -1000000000≤want
 w1:want≤10000
 hi:s.c.i.l.length≤200
 ho:s.o.length≤20000
 hv:VicOK (grS2 t k want (grS1 t k s)).c
end
section
set_option linter.unusedSimpArgs false
set_option linter.unusedVariables false
set_option maxRecDepth 20000
open Go Go.Am
section
variable (c:Clu) (g:Nl) (t:Int)
end
end
section
set_option linter.unusedSimpArgs false
set_option linter.unusedVariables false
set_option maxRecDepth 20000
open Go Go.Am
noncomputable def ze6v (c:Clu) (k:Nat):Int:=match c.g.l[k]? with
 | some g=>g.want
 | none=>0
noncomputable def rndS (tr:List Tri) (ix:List Ixe) (t:Int) (c:Clu):Nat→Rnd→Rnd
 | 0,s=>s
 | k+1,s=>grpS tr ix t k (ze6v c k) (rndS tr ix t c k s)
noncomputable def rnd0 (gr:List Int) (t:Int) (c:Clu):Rnd:=(ze9z c.i.l 0 gr t).foldl (zyao t) ⟨c.clone,[]⟩
structure RdA where
 c:Clu
 x:Idx
 tr:Sl Tri
 gr:Nl
 t:Int
structure RdOK (a:RdA):Prop where
 ch:ChOK a.x a.tr
 ov:OvOK (a.c,a.gr,a.t)
 hi:a.c.i.l.length≤200
 gp : ∀ k,k<a.c.g.l.length→GrOK a.t (rndS a.tr.l a.x.e.l a.t a.c k (rnd0 a.gr.l a.t a.c)) k (ze6v a.c k)
section
variable {c:Clu} {x:Idx} {tr:Sl Tri} {t:Int} {R:List DV} {hR:zbao R=true}
end
end
section
set_option linter.unusedSimpArgs false
set_option linter.unusedVariables false
set_option maxRecDepth 20000
open Go Go.Am
theorem znnr (x:Tri):(trC x).drop 33=[.int .i64 x.fl,.int .i64 x.af]:=by
 show ((dgC x.art++[DV.int .i64 x.fl,DV.int .i64 x.af]).drop 32)=_
 rw [y0y,y0f (by rw [z1t1]; omega),z1t1]; rfl
theorem zmda (x:Tri) (v:Int):(trC x).set 33 (.int .i64 v)=trC ⟨x.grp,x.art,v,x.af⟩:=by
 show DV.int .i64 x.grp::(dgC x.art++[DV.int .i64 x.fl,DV.int .i64 x.af]).set 32 _=_
 rw [y0b _ _ (by rw [z1t1]; omega),z1t1]; rfl
theorem zaat (x:Tri) (v:Int):(trC x).set 34 (.int .i64 v)=trC ⟨x.grp,x.art,x.fl,v⟩:=by
 show DV.int .i64 x.grp::(dgC x.art++[DV.int .i64 x.fl,DV.int .i64 x.af]).set 33 _=_
 rw [y0b _ _ (by rw [z1t1]; omega),z1t1]; rfl
theorem z7jg (x:Tri):oneC 1 false ((trC x).drop 33)=some (.int .i64 x.fl):=by rw [znnr]; rfl
theorem zvt0 (x:Tri) (v:Int) (h:List AObj) (id:Nat):zy6o h id 1 33 (.int .i64 v) (some (trC x))=some (.junk,h.set id (.cells (trC ⟨x.grp,x.art,v,x.af⟩))):=by
 rw [ziq3 (by rw [zezj]; omega),zmda]
theorem zr50 (x:Tri) (v:Int) (h:List AObj) (id:Nat):zy6o h id 1 34 (.int .i64 v) (some (trC x))=some (.junk,h.set id (.cells (trC ⟨x.grp,x.art,x.fl,v⟩))):=by
 rw [ziq3 (by rw [zezj]; omega),zaat]
theorem z72h {z:List DV} {x:Tri} (hz:z.length=35):bslD 35 1 z [(0,35,.agg (trC x))]=some (.sl true 35 1 (trC x)):=by
 rw [z7bw (by simp [DV.known]) (by simp [seqD,DV.cells,hz,zezj])]; simp [seqD,DV.cells,zezj]
theorem znij (x:Tri):RunsH tbl0 a44 [.nils,.int .i64 0,.sl true 35 1 (trC x)] [] (.ms 0 35 0 35 1 35) [.cells (trC x)]:=by
 refine ⟨?_⟩
 have h1:=zezj x
 have h2:=zms9 x
 simp (disch:=first|omega|simp<;>omega|fail) [-zA,-zB,-zC,-zD,-zE,a44,h1,h2]
noncomputable def cTi:List DV→Nat→Option (DV × List AObj):=conN (fun _=>True) (fun x:Tri=>[.nils,.int .i64 0,.sl true 35 1 (trC x)]) (fun x=>(.ms 0 35 0 35 1 35,[.cells (trC x)]))
theorem z3ze {x:Tri} {n:Nat}:cTi [.nils,.int .i64 0,.sl true 35 1 (trC x)] n=some (.ms n 35 0 35 1 35,[.cells (trC x)]):=by
 have:=zqtp (A:=fun _=>True) (f:=fun x:Tri=>[DV.nils,.int .i64 0,DV.sl true 35 1 (trC x)]) (g:=fun x=>(.ms 0 35 0 35 1 35,[.cells (trC x)])) (fun a b e=>by
  simp only [List.cons.injEq,and_true,DV.sl.injEq,true_and] at e
  rw [z56z e]) x trivial n
 rw [cTi,this]
 simp [shD,shO,zj45,z1zd]
end
section
set_option linter.unusedSimpArgs false
set_option linter.unusedVariables false
set_option maxRecDepth 100000
open Go Go.Am
def unW:List DV→Option (List B8)
 | []=>some []
 | .int .u8 n::r=>if 0≤n∧n<256 then (unW r).map (BitVec.ofInt 8 n :: ·) else none
 | _=>none
theorem zeu2 : ∀ {cs:List DV} {x:List B8},unW cs=some x→cs=x.map w8:=by
 intro cs
 induction cs with
 | nil=>intro x h; simp [unW] at h; subst h; rfl
 | cons d r ih =>
  intro x h
  unfold unW at h
  split at h
  ·rename_i e; cases e
  ·rename_i n r' e
   split at h
   ·rename_i hn
    simp only [List.cons.injEq] at e
    obtain ⟨rfl,rfl⟩:=e
    obtain ⟨y,hy,rfl⟩:=y0n.1 h
    rw [y1d,← ih hy]
    have e1:((BitVec.ofInt 8 n).toNat:Int)=n:=by rw [BitVec.toNat_ofInt]; simp; omega
    have e2:w8 (BitVec.ofInt 8 n) = .int .u8 n:=by unfold w8; rw [e1]
    rw [e2]
   ·simp at h
  ·simp at h
def bcC:List DV→Option DV
 | [.sl _ 1 n cs,.sl _ 1 m ds]=>match unW cs,unW ds with
  | some x,some y=>if n=x.length∧m=y.length then some (.int .i64 (Lib.compareBytes (u8L x) (u8L y))) else none
  | _,_=>none
 | _=>none
theorem zqer {P:Program} {f:FuncId} (h : ∀ (x y:List B8) (fx fy:Bool),Am.Sem P f [.sl fx 1 x.length (x.map w8),.sl fy 1 y.length (y.map w8)] (.int .i64 (Lib.compareBytes (u8L x) (u8L y)))) : ∀ args v,bcC args=some v→Am.Sem P f args v:=by
 intro args v e
 unfold bcC at e
 split at e
 ·rename_i f1 n cs f2 m ds
  split at e
  ·rename_i x y hx hy
   split at e
   ·rename_i hl
    obtain ⟨rfl,rfl⟩:=hl
    simp at e; subst e
    rw [zeu2 hx,zeu2 hy]
    exact h x y f1 f2
   ·simp at e
  ·simp at e
 ·simp at e
def zwn1:List DV→Option DV
 | [.nils,.int .i64 n]=>if n=0 then some .nils else none
 | _=>none
theorem z6hw : ∀ args v,zwn1 args=some v→Am.Sem P 136 args v:=by
 intro args v e
 unfold zwn1 at e
 split at e
 ·rename_i n
  split at e
  ·rename_i h0
   subst h0
   simp at e; subst e
   refine zzfj ((z58y 0 (by decide)).mono fun d h q => ?_)
   rw [q.1,q.2]; rfl
  ·simp at e
 ·simp at e
def evL:List (Nat × AFn):=[(15,a15),(17,a17),(19,a19),(21,a21),(23,a23),(25,a25),(42,a42),(43,a43),(44,a44),(46,a46),(47,a47),(48,a48),(49,a49),(51,a51),(52,a52),(53,a53),(54,a54),(55,a55),(68,a68),(69,a69),(70,a70),(71,a71),(72,a72),(76,a76),(77,a77),(78,a78),(79,a79),(80,a80),(81,a81),(82,a82),(83,a83),(84,a84),(85,a85),(86,a86),(87,a87),(88,a88),(89,a89),(90,a90),(101,a101),(104,a104),(105,a105),(106,a106),(107,a107),(108,a108),(109,a109),(110,a110),(111,a111),(112,a112),(113,a113),(114,a114),(115,a115),(116,a116),(117,a117),(118,a118),(119,a119),(120,a120),(121,a121),(122,a122),(123,a123),(124,a124),(125,a125),(128,a128),(129,a129),(130,a130),(131,a131),(132,a132),(133,a133),(134,a134),(135,a135),(138,a138),(139,a139),(140,a140),(141,a141),(142,a142),(147,a147),(148,a148),(149,a149),(154,a154),(155,a155),(156,a156),(159,a159),(163,a163)]
def evC:List (Nat × (List DV→Option DV)):=[(164,ixbC),(102,bcC),(136,zwn1)]
theorem zz1q:OKL P evL:=⟨⟨_,Tryz.func15,zz37⟩,⟨_,Tryz.func17,zcaf⟩,⟨_,Tryz.func19,zlqi⟩,⟨_,Tryz.func21,zyfb⟩,⟨_,Tryz.func23,ztyx⟩,⟨_,Tryz.func25,zgum⟩,⟨_,Tryz.func42,zl17⟩,⟨_,Tryz.func43,zbv8⟩,⟨_,Tryz.func44,zeo7⟩,⟨_,Tryz.func46,znv1⟩,⟨_,Tryz.func47,zzqr⟩,⟨_,Tryz.func48,zwi2⟩,⟨_,Tryz.func49,zdc4⟩,⟨_,Tryz.func51,z8rx⟩,⟨_,Tryz.func52,zil0⟩,⟨_,Tryz.func53,zq51⟩,⟨_,Tryz.func54,zq4q⟩,⟨_,Tryz.func55,ze8s⟩,⟨_,Tryz.func68,z20i⟩,⟨_,Tryz.func69,z713⟩,⟨_,Tryz.func70,zhcw⟩,⟨_,Tryz.func71,zbtg⟩,⟨_,Tryz.func72,z0xs⟩,⟨_,Tryz.func76,zuum⟩,⟨_,Tryz.func77,z20a⟩,⟨_,Tryz.func78,zetr⟩,⟨_,Tryz.func79,zaq4⟩,⟨_,Tryz.func80,zpfu⟩,⟨_,Tryz.func81,zgev⟩,⟨_,Tryz.func82,zftu⟩,⟨_,Tryz.func83,z6eh⟩,⟨_,Tryz.func84,z3cy⟩,⟨_,Tryz.func85,zu0j⟩,⟨_,Tryz.func86,z2i3⟩,⟨_,Tryz.func87,zfhg⟩,⟨_,Tryz.func88,zqgj⟩,⟨_,Tryz.func89,z42j⟩,⟨_,Tryz.func90,z9pi⟩,⟨_,Tryz.func101,zzmu⟩,⟨_,Tryz.func104,z0mt⟩,⟨_,Tryz.func105,z9rf⟩,⟨_,Tryz.func106,zex6⟩,⟨_,Tryz.func107,z38u⟩,⟨_,Tryz.func108,zh50⟩,⟨_,Tryz.func109,zoj0⟩,⟨_,Tryz.func110,z7w3⟩,⟨_,Tryz.func111,zmlq⟩,⟨_,Tryz.func112,zhnv⟩,⟨_,Tryz.func113,zz1e⟩,⟨_,Tryz.func114,zgcx⟩,⟨_,Tryz.func115,zv17⟩,⟨_,Tryz.func116,z3rp⟩,⟨_,Tryz.func117,zt1q⟩,⟨_,Tryz.func118,zasg⟩,⟨_,Tryz.func119,zaj0⟩,⟨_,Tryz.func120,zrxr⟩,⟨_,Tryz.func121,zfl0⟩,⟨_,Tryz.func122,z2hw⟩,⟨_,Tryz.func123,zw8s⟩,⟨_,Tryz.func124,ze8k⟩,⟨_,Tryz.func125,zdaz⟩,⟨_,Tryz.func128,zv7v⟩,⟨_,Tryz.func129,z1y5⟩,⟨_,Tryz.func130,zndb⟩,⟨_,Tryz.func131,zsra⟩,⟨_,Tryz.func132,zr93⟩,⟨_,Tryz.func133,zl8e⟩,⟨_,Tryz.func134,zccp⟩,⟨_,Tryz.func135,z8cr⟩,⟨_,Tryz.func138,zno0⟩,⟨_,Tryz.func139,zt91⟩,⟨_,Tryz.func140,zvf9⟩,⟨_,Tryz.func141,zjg6⟩,⟨_,Tryz.func142,ztmv⟩,⟨_,Tryz.func147,z5yk⟩,⟨_,Tryz.func148,zy1q⟩,⟨_,Tryz.func149,zdm8⟩,⟨_,Tryz.func154,zmbu⟩,⟨_,Tryz.func155,zvdi⟩,⟨_,Tryz.func156,z9pj⟩,⟨_,Tryz.func159,zp3e⟩,⟨_,Tryz.func163,zzcs⟩,trivial⟩
theorem zvar:OKC P evC:=⟨zk1r fun s c=>zrq5 Tryz.func164 (by kernel_rfl) (by kernel_rfl) (by kernel_rfl) (by kernel_rfl) s c,zqer fun x y fx fy=>zf9q Tryz.func102 (by kernel_rfl) (by kernel_rfl) (by kernel_rfl) (by kernel_rfl) x y fx fy,z6hw,trivial⟩
theorem zbgd:semE evL evC 400 21 []=some (.bool true):=by kernel_rfl
theorem zul1:Am.Sem P 21 [] (.bool true):=z4ur mix zz1q zvar zbgd
end
section
set_option linter.unusedSimpArgs false
set_option linter.unusedVariables false
open Go Go.Am
def S660 (x:Sl Dg) (d:Dg) (i:Nat):St:=zudq (x.dv 32 dgC) (.mp 0 32 0) (.int .i64 i) [.cells (dgC d)]
theorem zdpu (x:Sl Dg) (d:Dg):Runs tbl0 a50 [x.dv 32 dgC,.agg (dgC d)] (.bool (decide (d ∈ x.l))):=by
 refine ⟨?_⟩
 have hb:=x.b
 simp (disch:=first|omega|simp<;>omega|fail) [-zA,-zB,-zC,-zD,-zE,a50]
 refine zlm5 (S660 x d) (fun i=>x.l.length-i) (fun i=>i≤x.l.length ∧ ∀ j (hj:j<x.l.length),j<i→¬ x.l[j]=d) 0 (z515 (by simp (disch:=first|omega|simp<;>omega|fail) [-zA,-zB,-zC,-zD,-zE,S660,zudq]) (by simp (disch:=first|omega|simp<;>omega|fail) [-zA,-zB,-zC,-zD,-zE,S660,zudq])) ⟨by omega,fun j _ hj=>by omega⟩ (fun i hi => ?_)
 obtain ⟨h1,h2⟩:=hi
 simp (disch:=first|omega|simp<;>omega|fail) [-zA,-zB,-zC,-zD,-zE,z5j4,zudq,S660]
 by_cases h:i<x.l.length
 ·have h':(i:Int)<x.l.length:=by omega
  have hg : ∀ H,zpsc H 32 (x.dv 32 dgC) i=some (.ref (dgC x.l[i])):=fun H=>zalo z1t1 h
  by_cases e:x.l[i]=d
  ·have hm:d ∈ x.l:=e▸y0z h
   simp (disch:=first|omega|simp<;>omega|fail) [-zA,-zB,-zC,-zD,-zE,h',h,hg,e,hm]
  ·simp (disch:=first|omega|simp<;>omega|fail) [-zA,-zB,-zC,-zD,-zE,h',h,hg,e]
   refine ⟨i+1,z515 (by simp (disch:=first|omega|simp<;>omega|fail) [-zA,-zB,-zC,-zD,-zE,S660,zudq]) (by simp (disch:=first|omega|simp<;>omega|fail) [-zA,-zB,-zC,-zD,-zE,S660,zudq]),by omega,by omega,fun j hj hji => ?_⟩
   by_cases ej:j=i
   ·subst ej; exact e
   ·exact h2 j hj (by omega)
 ·have h':¬ (i:Int)<x.l.length:=by omega
  have hm:¬ d ∈ x.l:=fun hm=>by
   obtain ⟨j,hj,e⟩:=y0c hm
   exact h2 j hj (by omega) e
  simp (disch:=first|omega|simp<;>omega|fail) [-zA,-zB,-zC,-zD,-zE,h,h',hm]
noncomputable def cHas:List DV→Option DV:=con (fun _=>True) (fun a:Sl Dg × Dg=>[a.1.dv 32 dgC,.agg (dgC a.2)]) (fun a => .bool (decide (a.2 ∈ a.1.l)))
theorem zqi6 {x:Sl Dg} {d:Dg}:cHas [x.dv 32 dgC,.agg (dgC d)]=some (.bool (decide (d ∈ x.l))) :=
 zsn4 (f:=fun a:Sl Dg × Dg=>[a.1.dv 32 dgC,.agg (dgC a.2)]) (g:=fun a => .bool (decide (a.2 ∈ a.1.l))) (by
  rintro ⟨a,b⟩ ⟨c,d⟩ e
  simp only [List.cons.injEq,DV.agg.injEq,and_true] at e
  rw [z42k e.1,zib9 e.2]) (x,d)
theorem zi6e:(Con.pure cHas).Sound P 50:=z2au fun a _=>zljw mix zr5o Tryz.func50 z12y (zdpu a.1 a.2)
theorem zgo4 {a b:B8}:a.toNat.toUInt8<b.toNat.toUInt8↔a<b:=by
 have ha:=a.isLt
 have hb:=b.isLt
 rw [UInt8.lt_iff_toNat_lt,BitVec.lt_def]
 simp only [Nat.toUInt8_eq,UInt8.toNat_ofNat',y0p ha,y0p hb]
theorem z29k : ∀ (a b:List B8) (i:Nat) (h1:i<a.length) (h2:i<b.length),(∀ j (h1:j<a.length) (h2:j<b.length),j<i→a[j]=b[j])→¬ a[i]=b[i]→Op.bytesLess (a.map fun b=>b.toNat.toUInt8) (b.map fun b=>b.toNat.toUInt8)=decide (a[i]<b[i])
 | [],_,_,h1,_,_,_=>by simp at h1
 | _::_,[],_,_,h2,_,_=>by simp at h2
 | x::a,y::b,0,_,_,_,hn=>by
  simp only [y09] at hn ⊢
  have hxy:¬ x.toNat.toUInt8=y.toNat.toUInt8:=fun e=>hn (zvz3 e)
  simp only [y1d,Op.bytesLess,zgo4]
  simp [hxy,hn]
 | x::a,y::b,i+1,h1,h2,he,hn=>by
  have e0:=he 0 (by simp) (by simp) (by omega)
  simp only [y09] at e0
  subst e0
  have:=z29k a b i (by simpa using h1) (by simpa using h2) (fun j p q hj=>he (j+1) (Nat.succ_lt_succ p) (Nat.succ_lt_succ q) (by omega)) (by simpa using hn)
  simp only [y1d,Op.bytesLess,y17,this]
  simp
theorem zwa6 {a b:Dg} {i:Nat} (hi:i<32) (he : ∀ j (hj:j<32),j<i→a.1[j]'(by rw [a.2]; exact hj)=b.1[j]'(by rw [b.2]; exact hj)) (hn:¬ a.1[i]'(by rw [a.2]; exact hi)=b.1[i]'(by rw [b.2]; exact hi)):dgLt a b=decide (a.1[i]'(by rw [a.2]; exact hi)<b.1[i]'(by rw [b.2]; exact hi)) :=
 z29k a.1 b.1 i _ _ (fun j p q hj=>he j (by rw [a.2] at p; exact p) hj) hn
theorem zz16 {a b:Dg} (he : ∀ j (hj:j<32),a.1[j]'(by rw [a.2]; exact hj)=b.1[j]'(by rw [b.2]; exact hj)):a=b :=
 Subtype.ext (List.ext_getElem (by rw [a.2,b.2]) fun j p q=>he j (by rw [a.2] at p; exact p))
theorem z00n {a:Dg} {i:Nat} (hi:i<32):oneC 1 false ((dgC a).drop i)=some (w8 (a.1[i]'(by rw [a.2]; exact hi))):=by
 have hl:i<(dgC a).length:=by rw [z1t1]; exact hi
 rw [List.drop_eq_getElem_cons hl]
 simp [oneC,dgC]
def S661 (a b:Dg) (i:Nat):St:=zu12 (.mp 0 32 0) (.mp 1 32 0) (.int .i64 i) [.cells (dgC a),.cells (dgC b)]
theorem zy8c (a b:Dg):Runs tbl0 a75 [.agg (dgC a),.agg (dgC b)] (.bool (dgLt a b)):=by
 refine ⟨?_⟩
 simp (disch:=first|omega|simp<;>omega|fail) [-zA,-zB,-zC,-zD,-zE,a75]
 refine zlm5 (S661 a b) (fun i=>32-i) (fun i=>i≤32 ∧ ∀ j (hj:j<32),j<i→a.1[j]'(by rw [a.2]; exact hj)=b.1[j]'(by rw [b.2]; exact hj)) 0 (z515 (by simp (disch:=first|omega|simp<;>omega|fail) [-zA,-zB,-zC,-zD,-zE,S661,zu12]) (by simp (disch:=first|omega|simp<;>omega|fail) [-zA,-zB,-zC,-zD,-zE,S661,zu12])) ⟨by omega,fun j _ hj=>by omega⟩ (fun i hi => ?_)
 obtain ⟨h1,h2⟩:=hi
 simp only [S661]
 by_cases h:i<32
 ·have h':(i:Int)<32:=by omega
  have o1:=z00n (a:=a) h
  have o2:=z00n (a:=b) h
  have la:=z1t1 a
  have lb:=z1t1 b
  by_cases e:a.1[i]'(by rw [a.2]; exact h)=b.1[i]'(by rw [b.2]; exact h)
  ·rw [e] at o1
   simp (disch:=first|omega|simp<;>omega|fail) [-zA,-zB,-zC,-zD,-zE,zjzl,zu12,h,h',o1,o2,la,lb]
   refine ⟨i+1,z515 (by simp (disch:=first|omega|simp<;>omega|fail) [-zA,-zB,-zC,-zD,-zE,S661,zu12]) (by simp (disch:=first|omega|simp<;>omega|fail) [-zA,-zB,-zC,-zD,-zE,S661,zu12]),by omega,by omega,fun j hj hji => ?_⟩
   by_cases ej:j=i
   ·subst ej; exact e
   ·exact h2 j hj (by omega)
  ·have hr:=zwa6 h h2 e
   obtain ⟨u,hu⟩ : ∃ u,a.1[i]'(by rw [a.2]; exact h)=u:=⟨_,rfl⟩
   obtain ⟨v,hv⟩ : ∃ v,b.1[i]'(by rw [b.2]; exact h)=v:=⟨_,rfl⟩
   rw [hu] at o1 e hr
   rw [hv] at o2 e hr
   have e':(u == v)=false:=by simp [e]
   have e'':(u != v)=true:=by simp [e]
   simp (disch:=first|omega|simp<;>omega|fail) [-zA,-zB,-zC,-zD,-zE,zjzl,zu12,h,h',o1,o2,e,e',e'',hr,la,lb]
 ·have h':¬ (i:Int)<32:=by omega
  have he:a=b:=zz16 fun j hj=>h2 j hj (by omega)
  have hr:dgLt a b=false:=by rw [he]; exact zc3a.irr b
  simp (disch:=first|omega|simp<;>omega|fail) [-zA,-zB,-zC,-zD,-zE,zjzl,zu12,h,h',hr]
noncomputable def zta3:List DV→Option DV:=con (fun _=>True) (fun a:Dg × Dg=>[.agg (dgC a.1),.agg (dgC a.2)]) (fun a => .bool (dgLt a.1 a.2))
theorem z577 {a b:Dg}:zta3 [.agg (dgC a),.agg (dgC b)]=some (.bool (dgLt a b)) :=
 zsn4 (f:=fun a:Dg × Dg=>[.agg (dgC a.1),.agg (dgC a.2)]) (g:=fun a => .bool (dgLt a.1 a.2)) (by
  rintro ⟨a,b⟩ ⟨c,d⟩ e
  simp only [List.cons.injEq,DV.agg.injEq,and_true] at e
  rw [zib9 e.1,zib9 e.2]) (a,b)
theorem zp63:(Con.pure zta3).Sound P 75:=z2au fun a _=>zljw mix zr5o Tryz.func75 zrvd (zy8c a.1 a.2)
end
section
set_option linter.unusedSimpArgs false
set_option linter.unusedVariables false
set_option maxRecDepth 20000
open Go Go.Am
def lsP (a b:Rqs):Bool:=if a.ns=b.ns then (if a.im=b.im then dgLt a.art b.art else Op.bytesLess a.im b.im) else Op.bytesLess a.ns b.ns
noncomputable def zj8s:Tbl:=addT 75 (.pure zta3) tbl0
theorem zkv1:zj8s 75 = .pure zta3:=by simp [zj8s]
theorem zb6d:zj8s.Sound P:=z0rp zp63 zr5o
theorem zvpk (x:Rqs):oneC 32 true ((rqC x).drop 2)=some (.agg (dgC x.art)):=by
 have h:(rqC x).drop 2=dgC x.art:=rfl
 rw [h]; simp [oneC,z1t1,y02]
theorem zmwt (a b:Rqs):Runs zj8s a100 [.agg (rqC a),.agg (rqC b)] (.bool (lsP a b)):=by
 refine ⟨?_⟩
 have hb : ∀ h (x:Rqs),boxD h (.agg (rqC x))=some (.mp h.length 34 0,h++[.cells (rqC x)]):=fun h x=>by rw [zn72,zzeg]
 unfold lsP
 by_cases e1:a.ns=b.ns
 ·by_cases e2:a.im=b.im
  ·simp (disch:=first|omega|simp<;>omega|fail) [-zA,-zB,-zC,-zD,-zE,a100,hb,zzeg,z8s0,zonr,zvpk,e1,e2,zkv1,z577,z3ot]
  ·simp (disch:=first|omega|simp<;>omega|fail) [-zA,-zB,-zC,-zD,-zE,a100,hb,zzeg,z8s0,zonr,zvpk,e1,e2]
 ·simp (disch:=first|omega|simp<;>omega|fail) [-zA,-zB,-zC,-zD,-zE,a100,hb,zzeg,z8s0,zonr,zvpk,e1]
noncomputable def cLes:List DV→Option DV:=con (fun _=>True) (fun a:Rqs × Rqs=>[.agg (rqC a.1),.agg (rqC a.2)]) (fun a => .bool (lsP a.1 a.2))
theorem zl2q {a b:Rqs}:cLes [.agg (rqC a),.agg (rqC b)]=some (.bool (lsP a b)) :=
 zsn4 (f:=fun a:Rqs × Rqs=>[.agg (rqC a.1),.agg (rqC a.2)]) (g:=fun a => .bool (lsP a.1 a.2)) (by
  rintro ⟨a,b⟩ ⟨c,d⟩ e
  simp only [List.cons.injEq,DV.agg.injEq,and_true] at e
  rw [z82b e.1,z82b e.2]) (a,b)
noncomputable def z9sr:Tbl:=addT 100 (.pure cLes) tbl0
theorem zxqk:z9sr 100 = .pure cLes:=by simp [z9sr]
theorem zbxv:z9sr.Sound P:=z0rp (z2au fun a _=>zljw mix zb6d Tryz.func100 zec4 (zmwt a.1 a.2)) zr5o
theorem zaif {a b:Rqs}:lsP a b=decide (or3I (zavf a.ns b.ns) (zavf a.im b.im) (zsy0 a.art b.art)<0):=by
 unfold lsP or3I
 by_cases e1:a.ns=b.ns
 ·rw [if_pos e1,if_pos (zmen.2 e1)]
  by_cases e2:a.im=b.im
  ·rw [if_pos e2,if_pos (zmen.2 e2)]
   cases h:dgLt a.art b.art with
   | true=>exact (decide_eq_true (zxr9.2 h)).symm
   | false=>exact (decide_eq_false fun q=>by rw [zxr9.1 q] at h; cases h).symm
  ·rw [if_neg e2,if_neg (fun q=>e2 (zmen.1 q))]
   cases h:Op.bytesLess a.im b.im with
   | true=>exact (decide_eq_true (z5ha.2 h)).symm
   | false=>exact (decide_eq_false fun q=>by rw [z5ha.1 q] at h; cases h).symm
 ·rw [if_neg e1,if_neg (fun q=>e1 (zmen.1 q))]
  cases h:Op.bytesLess a.ns b.ns with
  | true=>exact (decide_eq_true (z5ha.2 h)).symm
  | false=>exact (decide_eq_false fun q=>by rw [z5ha.1 q] at h; cases h).symm
def insK (e:Rqs) (l:List Ixe):Nat→Nat
 | 0=>0
 | k+1=>match l[k]? with
  | some y=>if lsP e (ixR y)=true then insK e l k else k+1
  | none=>k+1
def insX (l:List Ixe) (e:Ixe):List Ixe:=l.take (insK (ixR e) l l.length)++([e]++l.drop (insK (ixR e) l l.length))
theorem z13x {e:Rqs} {l:List Ixe} : ∀ k,insK e l k≤k
 | 0=>y04 _
 | k+1=>by
  unfold insK
  split
  ·split
   ·have:=z13x (e:=e) (l:=l) k; omega
   ·omega
  ·omega
theorem z16q {l:List Ixe} {e:Ixe}:(insX l e).length=l.length+1:=by
 have:=z13x (e:=ixR e) (l:=l) l.length
 simp [insX]; omega
def isV (l:List Ixe):DV:=if l=[] then .nils else .sl false 105 l.length (l.flatMap ixC)
theorem zahc {id ver off k K:Nat} {l:List Ixe} (h:id≠k):z87v (.mp id ver off) (oV k K l)=true:=by
 unfold oV
 split
 ·simp [z87v,zi6q]
 ·simp [z87v,zi6q,h]
theorem zch3 {k K:Nat} {Y:Sl Ixe} {l:List Ixe}:z87v (Y.dv 105 ixC) (oV k K l)=true:=by
 obtain ⟨b,m,h,hb⟩:=Y
 cases b<;>(unfold oV; split<;>simp [z87v,zi6q,Sl.dv,slD])
theorem zhac (x:Ixe):(ixC x).all DV.one=true:=by
 simp only [ixC,ixZ,y1c,List.all_append,zoxk,y06,y0o]
 simp
theorem z2nl {a b c:AObj} {L:List Ixe} (hL:L≠[]) {k:Nat}:snap (a::b::c::oT ixC L) (k+1) (oV 3 105 L)=some (isV L):=by
 rw [zpni hL,zu2l hL,zve7]
 have ho:objV (a::b::c::[AObj.cells (fl ixC L)]) 3 (L.length*105)=some (fl ixC L):=by
  simp [objV,ziu0,z8lx zwe8]
 have ht:(fl ixC L).take (L.length*105)=L.flatMap ixC:=y02 (by rw [z8lx zwe8]; omega)
 rw [ho,y0j,y1a,ht,z619 (zp6k z0ob L),y12]
 unfold isV
 rw [if_neg hL]
theorem zxqy (x:Idx) (e:Ixe) (K:Nat) (κ:Int) (hκ:κ=K) (hK:K≤x.e.l.length) (hb:x.e.l.length≤100000) (a b c:AObj) :
  ∃ (Y1 Y2:Sl Ixe) (V1 V2 V3:DV) (X1 X2 X3:List AObj),
   (∀ H,z390 H 105 (x.e.dv 105 ixC) none (some (.int .i64 κ)) none=some (Y1.dv 105 ixC)) ∧
   (∀ H,z390 H 105 (x.e.dv 105 ixC) (some (.int .i64 κ)) none none=some (Y2.dv 105 ixC)) ∧
   (appX [a,b,c] 105 232 .nils Y1.l.length (Y1.l.flatMap ixC)=some (V1,a::b::c::X1)) ∧
   (appX (a::b::c::X1) 105 232 V1 1 (ixC e)=some (V2,a::b::c::X2)) ∧
   (appX (a::b::c::X2) 105 232 V2 Y2.l.length (Y2.l.flatMap ixC)=some (V3,a::b::c::X3)) ∧
   (z87v (.mp 1 105 0) V1=true∧z87v (.mp 0 2 0) V1=true∧z87v (.mp 0 2 1) V1=true∧z87v (x.e.dv 105 ixC) V1=true∧z87v (.mp 0 2 0) V2=true∧z87v (.mp 0 2 1) V2=true∧z87v (x.e.dv 105 ixC) V2=true) ∧
   V3.cells=[V3]∧V3.one=true∧(∀ a' c' k,snap (a'::b::c'::X3) (k+1) V3=some (isV (x.e.l.take K++([e]++x.e.l.drop K)))):=by
 subst hκ
 refine ⟨x.e.part 0 K (K == x.e.l.length),x.e.part K x.e.l.length (x.e.l.length == x.e.l.length),oV 3 105 (x.e.l.take K),oV 3 105 (x.e.l.take K++[e]),oV 3 105 (x.e.l.take K++[e]++x.e.l.drop K),oT ixC (x.e.l.take K),oT ixC (x.e.l.take K++[e]),oT ixC (x.e.l.take K++[e]++x.e.l.drop K),fun H=>z0ke zwe8 (by simp [zo77,iD]; omega) hK,fun H=>z0ke zwe8 (by simp [zo77,iD]; omega) (y04 _),?_,?_,?_,?_,zy42,z6jg,?_⟩
 ·have:=z612 (k:=3) (K:=105) (b:=232) (f:=ixC) (l:=[]) (cs:=x.e.l.take K) (h:=[a,b,c]) rfl zwe8 (by decide) (by decide) zhac (by simp; omega)
  simpa [zkrk,zl8p,Sl.part] using this
 ·have:=zte0 (k:=3) (K:=105) (b:=232) (f:=ixC) (l:=x.e.l.take K) (x:=e) (h:=[a,b,c]) rfl zwe8 (by decide) (by decide) zhac (by simp; omega)
  exact this
 ·have:=z612 (k:=3) (K:=105) (b:=232) (f:=ixC) (l:=x.e.l.take K++[e]) (cs:=x.e.l.drop K) (h:=[a,b,c]) rfl zwe8 (by decide) (by decide) zhac (by simp; omega)
  have e2:(x.e.part K x.e.l.length (x.e.l.length == x.e.l.length)).l=x.e.l.drop K:=by simp [Sl.part,y02]
  rw [e2]; exact this
 ·exact ⟨zahc (by decide),zahc (by decide),zahc (by decide),zch3,zahc (by decide),zahc (by decide),zch3⟩
 ·intro a' c' k
  rw [z2nl (by simp)]
  simp
theorem zgih {z:List DV} {x:Ixe} (hz:z.length=105):bslD 105 1 z [(0,105,.agg (ixC x))]=some (.sl true 105 1 (ixC x)):=by
 rw [z7bw (by simp [DV.known]) (by simp [seqD,DV.cells,hz,zwe8])]; simp [seqD,DV.cells,zwe8]
theorem st_e (x:Idx) (V:DV) (h1:V.cells=[V]) (h2:V.one=true) (H:List AObj):zy6o H 0 1 1 V (some (xiC x))=some (.junk,H.set 0 (.cells [.int .i64 x.at_,V])):=by
 rw [Am.storeO_1 h1 h2 (by show 1<2; decide)]; rfl
theorem st_x (n:Int) (V:DV) (h2:V.one=true) (H:List AObj):zy6o H 2 2 0 (.agg [.int .i64 n,V]) (some [.int .i64 0,.nils])=some (.junk,H.set 2 (.cells [.int .i64 n,V])):=zfc1 rfl rfl (by simp [h2])
theorem zy5o (n:Int) (V:DV):oneC 2 true [.int .i64 n,V]=some (.agg [.int .i64 n,V]):=rfl
def z5jo (x:Idx) (e:Ixe) (k:Nat):St:=zbq4 (.mp 0 2 0) (.mp 1 105 0) (.mp 2 2 0) (.int .i64 k) [.cells (xiC x),.cells (ixC e),.cells [.int .i64 0,.nils]]
theorem z6bp (x:Idx) (e:Ixe) (hb:x.e.l.length≤100000):Runs z9sr a67 [.agg (xiC x),.agg (ixC e)] (.agg [.int .i64 x.at_,isV (insX x.e.l e)]):=by
 refine ⟨?_⟩
 have hbx : ∀ h,boxD h (.agg (xiC x))=some (.mp h.length 2 0,h++[.cells (xiC x)]):=fun h=>by rw [zn72]; rfl
 have hbe : ∀ h (x:Ixe),boxD h (.agg (ixC x))=some (.mp h.length 105 0,h++[.cells (ixC x)]):=fun h x=>by rw [zn72,zwe8]
 have hx2:(xiC x).length=2:=rfl
 have hx1:oneC 1 false ((xiC x).drop 1)=some (x.e.dv 105 ixC):=rfl
 have hln : ∀ H,lenD H (x.e.dv 105 ixC)=some (.int .i64 x.e.l.length):=fun H=>zupj
 have hlx:=fun y=>zwe8 y
 simp (disch:=first|omega|simp<;>omega|fail) [-zA,-zB,-zC,-zD,-zE,a67,hbx,hbe,hx1,hx2,hln,hlx]
 refine zlm5 (z5jo x e) (fun k=>k) (fun k=>k≤x.e.l.length∧insK (ixR e) x.e.l x.e.l.length=insK (ixR e) x.e.l k) x.e.l.length (z515 (by simp (disch:=first|omega|simp<;>omega|fail) [-zA,-zB,-zC,-zD,-zE,z5jo,zbq4]) (by simp (disch:=first|omega|simp<;>omega|fail) [-zA,-zB,-zC,-zD,-zE,z5jo,zbq4])) ⟨y04 _,rfl⟩ (fun k hk => ?_)
 obtain ⟨h1,h2⟩:=hk
 simp only [z5jo]
 cases k with
 | zero =>
  obtain ⟨Y1,Y2,V1,V2,V3,X1,X2,X3,f1,f2,f3,f4,f5,⟨p1,p2,p3,p4,p5,p6,p7⟩,g1,g2,g3⟩:=zxqy x e 0 0 rfl (by omega) hb (.cells (xiC x)) (.cells (ixC e)) (.cells [.int .i64 0,.nils])
  have hin:insX x.e.l e=x.e.l.take 0++([e]++x.e.l.drop 0):=by unfold insX; rw [h2]; rfl
  rw [← hin] at g3
  have hst:=fun H=>st_e x V3 g1 g2 H
  have hsx:=fun n H=>st_x n V3 g2 H
  simp (disch:=first|omega|simp<;>omega|fail) [-zA,-zB,-zC,-zD,-zE,zfle,zbq4,hx1,hx2,hlx,f1,f2,zwaa zwe8,f3,f4,f5,p1,p2,p3,p4,p5,p6,p7,g1,g2,g3,zect,zgih,hst,zy5o,hsx]
 | succ k =>
  have h':(0:Int)<(k:Int)+1:=by omega
  have hlt:k<x.e.l.length:=by omega
  have hi : ∀ H,zpsc H 105 (x.e.dv 105 ixC) k=some (.ref (ixC x.e.l[k])):=fun H=>zalo zwe8 hlt
  have hsub:((k+1:Nat):Int)-1=k:=by omega
  have hnx:insK (ixR e) x.e.l (k+1)=if lsP (ixR e) (ixR x.e.l[k])=true then insK (ixR e) x.e.l k else k+1:=by
   conv=>lhs; unfold insK
   rw [y01 hlt]
  have hc:=zl2q (a:=ixR e) (b:=ixR x.e.l[k])
  obtain ⟨y,hy⟩ : ∃ y,x.e.l[k]=y:=⟨_,rfl⟩
  rw [hy] at hi hnx hc
  obtain ⟨b,hbb⟩ : ∃ b,lsP (ixR e) (ixR y)=b:=⟨_,rfl⟩
  rw [hbb] at hnx hc
  have hpr:=fun z=>zhqv z
  cases b with
  | true =>
   rw [if_pos rfl] at hnx
   simp (disch:=first|omega|simp<;>omega|fail) [-zA,-zB,-zC,-zD,-zE,zfle,zbq4,hx1,hx2,hlx,h',zdyd,hsub,hi,zxqk,hc,hpr]
   refine ⟨k,z515 (by simp (disch:=first|omega|simp<;>omega|fail) [-zA,-zB,-zC,-zD,-zE,z5jo,zbq4]) (by simp (disch:=first|omega|simp<;>omega|fail) [-zA,-zB,-zC,-zD,-zE,z5jo,zbq4]),by omega,by omega,by rw [h2,hnx]⟩
  | false =>
   rw [if_neg (by simp)] at hnx
   obtain ⟨Y1,Y2,V1,V2,V3,X1,X2,X3,f1,f2,f3,f4,f5,⟨p1,p2,p3,p4,p5,p6,p7⟩,g1,g2,g3⟩:=zxqy x e (k+1) ((k:Int)+1) (by omega) (by omega) hb (.cells (xiC x)) (.cells (ixC e)) (.cells [.int .i64 0,.nils])
   have hin:insX x.e.l e=x.e.l.take (k+1)++([e]++x.e.l.drop (k+1)):=by unfold insX; rw [h2,hnx]
   rw [← hin] at g3
   have hst:=fun H=>st_e x V3 g1 g2 H
   have hsx:=fun n H=>st_x n V3 g2 H
   simp (disch:=first|omega|simp<;>omega|fail) [-zA,-zB,-zC,-zD,-zE,zfle,zbq4,hx1,hx2,hlx,h',zdyd,hsub,hi,zxqk,hc,hpr,f1,f2,zwaa zwe8,f3,f4,f5,p1,p2,p3,p4,p5,p6,p7,g1,g2,g3,zect,zgih,hst,zy5o,hsx]
end
section
set_option linter.unusedSimpArgs false
set_option linter.unusedVariables false
set_option maxRecDepth 20000
open Go Go.Am
noncomputable def cInx:List DV→Option DV:=con (fun a:Idx × Ixe=>a.1.e.l.length≤100000) (fun a=>[.agg (xiC a.1),.agg (ixC a.2)]) (fun a => .agg [.int .i64 a.1.at_,isV (insX a.1.e.l a.2)])
theorem zcfr {x:Idx} {e:Ixe} (h:x.e.l.length≤100000):cInx [.agg (xiC x),.agg (ixC e)]=some (.agg [.int .i64 x.at_,isV (insX x.e.l e)]) :=
 zzno (A:=fun a:Idx × Ixe=>a.1.e.l.length≤100000) (f:=fun a=>[.agg (xiC a.1),.agg (ixC a.2)]) (g:=fun a => .agg [.int .i64 a.1.at_,isV (insX a.1.e.l a.2)]) (by
  rintro ⟨a,b⟩ ⟨c,d⟩ e
  simp only [List.cons.injEq,DV.agg.injEq,and_true] at e
  rw [zt7p e.1,zv4z e.2]) (x,e) h
noncomputable def zlb5:Tbl:=addT 13 (.tch z1m3) (addT 67 (.pure cInx) tbl0)
theorem ziaj:zlb5 13 = .tch z1m3:=by simp [zlb5]
theorem z6wa:zlb5 67 = .pure cInx:=by simp [zlb5]
theorem zqkx:zlb5.Sound P:=z0rp z51e (z0rp (z2au fun a h=>zljw mix zbxv Tryz.func67 zy8u (z6bp a.1 a.2 h)) zr5o)
def entI (t:Tp) (c:Clu) (m:Nat):Ixe:=match c.g.l[m / 3]? with
 | some g=>⟨g.ns,g.im,dgB (((m % 3:Nat):Int)+1),decide (0<tpN (t.adv m) 3)⟩
 | none=>⟨[],[],dg0,false⟩
def idxL (t:Tp) (c:Clu):Nat→List Ixe
 | 0=>[]
 | m+1=>insX (idxL t c m) (entI t c m)
theorem zjjk {t:Tp} {c:Clu} : ∀ m,(idxL t c m).length=m
 | 0=>rfl
 | m+1=>by rw [idxL,z16q,zjjk m]
def isS (l:List Ixe) (h:l.length≤100000):Sl Ixe:=⟨if l=[] then none else some false,l,fun e=>by
 by_cases q:l=[]
 ·exact q
 ·simp [q] at e,by omega⟩
theorem zz41 {l:List Ixe} (h:l.length≤100000):(isS l h).dv 105 ixC=isV l:=by
 unfold isS isV Sl.dv
 by_cases q:l=[]
 ·simp only [q,if_true]; rfl
 ·simp only [q,if_false]; rfl
theorem zm03 (l:List Ixe):zyp8 (isV l)=true:=by
 unfold isV
 split
 ·rfl
 ·simp only [zyp8]; exact zp6k z0ob l
theorem zcwq (l:List Ixe):(isV l).one=true:=by unfold isV; split<;>rfl
theorem zxtu {z:List DV} {r:Rqs} (hz:z.length=34):zvnk z [(0,1,.str r.ns),(1,1,.str r.im),(2,32,.agg (dgC r.art))]=some (.agg (rqC r)):=by
 rw [zwos (by simp [DV.known]) (by simp [seqD,DV.cells,hz,z1t1])]; simp [seqD,DV.cells,rqC]
theorem znbs:ixZ=[w8 0#8,w8 0#8,w8 0#8,w8 0#8,w8 0#8,w8 0#8,w8 0#8,w8 0#8,w8 0#8,w8 0#8,w8 0#8,w8 0#8,w8 0#8,w8 0#8,w8 0#8,w8 0#8,w8 0#8,w8 0#8,w8 0#8,w8 0#8,w8 0#8,w8 0#8,w8 0#8,w8 0#8,w8 0#8,w8 0#8,w8 0#8,w8 0#8,w8 0#8,w8 0#8,w8 0#8,w8 0#8,.int .i64 0,w8 0#8,w8 0#8,w8 0#8,w8 0#8,w8 0#8,w8 0#8,w8 0#8,w8 0#8,w8 0#8,w8 0#8,w8 0#8,w8 0#8,w8 0#8,w8 0#8,w8 0#8,w8 0#8,w8 0#8,w8 0#8,w8 0#8,w8 0#8,w8 0#8,w8 0#8,w8 0#8,w8 0#8,w8 0#8,w8 0#8,w8 0#8,w8 0#8,w8 0#8,w8 0#8,w8 0#8,w8 0#8,.str [],.str [],.nils,.nils,.int .i64 0]:=by
 kernel_rfl
theorem zcjk {z A B:List DV} (hz:z.length=105) (hA:A.length=34) (hB:B.length=69):zvnk z [(0,34,.agg A),(34,69,.agg B)]=some (.agg (A++(B++z.drop 103))):=by
 simp [zvnk,zi03,zk7y,DV.known,DV.cells,hA,hB,hz,List.take_append,y0y,y02,y0f]
theorem bd_v {r:List DV} {b:Bool}:zvnk (.bool false::r) [(0,1,.bool b)]=some (.agg (.bool b::r)):=by
 simp [zvnk,zi03,zk7y,DV.known,DV.cells]
theorem z10m {r:Rqs} {b:Bool}:zvnk [.str [],.str [],w8 0#8,w8 0#8,w8 0#8,w8 0#8,w8 0#8,w8 0#8,w8 0#8,w8 0#8,w8 0#8,w8 0#8,w8 0#8,w8 0#8,w8 0#8,w8 0#8,w8 0#8,w8 0#8,w8 0#8,w8 0#8,w8 0#8,w8 0#8,w8 0#8,w8 0#8,w8 0#8,w8 0#8,w8 0#8,w8 0#8,w8 0#8,w8 0#8,w8 0#8,w8 0#8,w8 0#8,w8 0#8,.bool false,w8 0#8,w8 0#8,w8 0#8,w8 0#8,w8 0#8,w8 0#8,w8 0#8,w8 0#8,w8 0#8,w8 0#8,w8 0#8,w8 0#8,w8 0#8,w8 0#8,w8 0#8,w8 0#8,w8 0#8,w8 0#8,w8 0#8,w8 0#8,w8 0#8,w8 0#8,w8 0#8,w8 0#8,w8 0#8,w8 0#8,w8 0#8,w8 0#8,w8 0#8,w8 0#8,w8 0#8,w8 0#8,.int .i64 0,w8 0#8,w8 0#8,w8 0#8,w8 0#8,w8 0#8,w8 0#8,w8 0#8,w8 0#8,w8 0#8,w8 0#8,w8 0#8,w8 0#8,w8 0#8,w8 0#8,w8 0#8,w8 0#8,w8 0#8,w8 0#8,w8 0#8,w8 0#8,w8 0#8,w8 0#8,w8 0#8,w8 0#8,w8 0#8,w8 0#8,w8 0#8,w8 0#8,w8 0#8,w8 0#8,w8 0#8,w8 0#8,.str [],.str [],.nils,.nils,.int .i64 0] [(0,34,.agg (rqC r)),(34,69,.agg (.bool b::[w8 0#8,w8 0#8,w8 0#8,w8 0#8,w8 0#8,w8 0#8,w8 0#8,w8 0#8,w8 0#8,w8 0#8,w8 0#8,w8 0#8,w8 0#8,w8 0#8,w8 0#8,w8 0#8,w8 0#8,w8 0#8,w8 0#8,w8 0#8,w8 0#8,w8 0#8,w8 0#8,w8 0#8,w8 0#8,w8 0#8,w8 0#8,w8 0#8,w8 0#8,w8 0#8,w8 0#8,w8 0#8,.int .i64 0,w8 0#8,w8 0#8,w8 0#8,w8 0#8,w8 0#8,w8 0#8,w8 0#8,w8 0#8,w8 0#8,w8 0#8,w8 0#8,w8 0#8,w8 0#8,w8 0#8,w8 0#8,w8 0#8,w8 0#8,w8 0#8,w8 0#8,w8 0#8,w8 0#8,w8 0#8,w8 0#8,w8 0#8,w8 0#8,w8 0#8,w8 0#8,w8 0#8,w8 0#8,w8 0#8,w8 0#8,w8 0#8,.str [],.str [],.nils]))]=some (.agg (ixC ⟨r.ns,r.im,r.art,b⟩)):=by
 rw [zcjk (by simp) (zzeg r) (by simp)]
 rw [show ixC ⟨r.ns,r.im,r.art,b⟩=rqC r++(.bool b::ixZ) from by simp [ixC,rqC]]
 refine congrArg (fun x=>some (DV.agg (rqC r++x))) (congrArg (DV.bool b :: ·) ?_)
 rw [znbs]
 rfl
theorem zdpk (V W:DV) (h2:V.one=true) (H:List AObj):zy6o H 3 2 0 (.agg [.int .i64 0,V]) (some [.int .i64 0,W])=some (.junk,H.set 3 (.cells [.int .i64 0,V])):=zfc1 rfl rfl (by simp [h2])
def zcyu (t:Tp) (c:Clu) (i k m:Nat):St:=zbmj (.mp 0 2 0) (.mp 1 3 0) (.mp 2 2 0) (.mp 3 2 0) (.int .i64 i) (.int .i64 k) [.cells (tpC (t.adv m)),.cells (clC c),.cells [.int .i64 0,.nils],.cells [.int .i64 0,isV (idxL t c m)]]
def z38w (t:Tp) (c:Clu) (i:Nat):St:=zly3 (.mp 0 2 0) (.mp 1 3 0) (.mp 2 2 0) (.mp 3 2 0) (.int .i64 i) [.cells (tpC (t.adv (3*i))),.cells (clC c),.cells [.int .i64 0,.nils],.cells [.int .i64 0,isV (idxL t c (3*i))]]
theorem zimd (t:Tp) (c:Clu) (ht:t.at_<4000000000) (hn:c.g.l.length≤1000):RunsF zlb5 a39 [.mp 0 2 0,.agg (clC c)] [.cells (tpC t)] (.agg [.int .i64 0,isV (idxL t c (3*c.g.l.length))]) [.cells (tpC (t.adv (3*c.g.l.length)))]:=by
 refine ⟨?_⟩
 have hbc : ∀ h,boxD h (.agg (clC c))=some (.mp h.length 3 0,h++[.cells (clC c)]):=fun h=>by rw [zn72]; rfl
 have hg1:oneC 1 false (clC c)=some (c.g.dv 6 grC):=rfl
 have hlg : ∀ H,lenD H (c.g.dv 6 grC)=some (.int .i64 c.g.l.length):=fun H=>zupj
 obtain ⟨n,hne⟩ : ∃ n,c.g.l.length=n:=⟨_,rfl⟩
 rw [hne] at hn hlg ⊢
 have hl3:(clC c).length=3:=rfl
 simp (disch:=first|omega|simp<;>omega|fail) [-zA,-zB,-zC,-zD,-zE,a39,hbc]
 refine zlm5 (z38w t c) (fun i=>n-i) (fun i=>i≤n) 0 (z515 (by simp (disch:=first|omega|simp<;>omega|fail) [-zA,-zB,-zC,-zD,-zE,z38w,zly3]) (by simp (disch:=first|omega|simp<;>omega|fail) [-zA,-zB,-zC,-zD,-zE,z38w,zly3,zbrh,idxL,isV])) (by omega) (fun i hi => ?_)
 simp only [z38w]
 by_cases h:i<n
 case neg =>
  have h':¬ (i:Int)<n:=by omega
  obtain rfl:i=n:=by omega
  have hone:=zcwq (idxL t c (3*i))
  have hpu:=zm03 (idxL t c (3*i))
  obtain ⟨V,hV⟩ : ∃ V,isV (idxL t c (3*i))=V:=⟨_,rfl⟩
  rw [hV] at hone hpu ⊢
  have hsx:=fun n H=>st_x n V hone H
  have hfz : ∀ n k (H:List AObj),fz n H k V=some V:=fun n k H=>zqge hpu
  have hfl : ∀ (H:List AObj),fzL 1 H (tpC (t.adv (3*i))) (tpC (t.adv (3*i))):=fun H=>znnb (zs7w _)
  simp (disch:=first|omega|simp<;>omega|fail) [-zA,-zB,-zC,-zD,-zE,znbh,zly3,h,h',hg1,hlg,hl3,zy5o,hsx,hfz,hfl]
 have h':(i:Int)<n:=by omega
 simp (disch:=first|omega|simp<;>omega|fail) [-zA,-zB,-zC,-zD,-zE,znbh,zly3,h,h',hg1,hlg,hl3]
 have hlt:i<c.g.l.length:=by omega
 have hG : ∀ H,zpsc H 6 (c.g.dv 6 grC) i=some (.ref (grC c.g.l[i])):=fun H=>zalo zry4 hlt
 have hgi:c.g.l[i]? = some c.g.l[i]:=y01 hlt
 obtain ⟨g,hge⟩ : ∃ g,c.g.l[i]=g:=⟨_,rfl⟩
 rw [hge] at hG hgi
 refine zlm5 (fun k=>zcyu t c i (k+1) (3*i+k)) (fun k=>3-k) (fun k=>k≤3) 0 (z515 (by simp (disch:=first|omega|simp<;>omega|fail) [-zA,-zB,-zC,-zD,-zE,zcyu,zbmj]) (by simp (disch:=first|omega|simp<;>omega|fail) [-zA,-zB,-zC,-zD,-zE,zcyu,zbmj])) (by omega) (fun k hk => ?_)
 simp only [zcyu]
 by_cases q:k<3
 case neg =>
  obtain rfl:k=3:=by omega
  simp (disch:=first|omega|simp<;>omega|fail) [-zA,-zB,-zC,-zD,-zE,z9mq,zbmj]
  refine ⟨i+1,z515 (by simp (disch:=first|omega|simp<;>omega|fail) [-zA,-zB,-zC,-zD,-zE,z38w,zly3]) (by simp (disch:=first|omega|simp<;>omega|fail) [-zA,-zB,-zC,-zD,-zE,z38w,zly3,y1j]),by omega,by omega⟩
 have q':(k:Int)+1≤3:=by omega
 obtain ⟨m,hm⟩ : ∃ m,3*i+k=m:=⟨_,rfl⟩
 have hm3:m / 3=i:=by omega
 have hmk:m % 3=k:=by omega
 have hent:entI t c m=⟨g.ns,g.im,dgB ((k:Int)+1),decide (0<tpN (t.adv m) 3)⟩:=by unfold entI; rw [hm3,hgi,hmk]
 have hnx:idxL t c (m+1)=insX (idxL t c m) (entI t c m):=rfl
 rw [hent] at hnx
 have hil:=zjjk (t:=t) (c:=c) m
 rw [hm]
 have hcI:=zcfr (x:=⟨0,isS (idxL t c m) (by omega)⟩) (e:=⟨g.ns,g.im,dgB ((k:Int)+1),decide (0<tpN (t.adv m) 3)⟩) (by show (idxL t c m).length≤_; omega)
 have hcI:cInx [.agg [.int .i64 0,isV (idxL t c m)],.agg (ixC ⟨g.ns,g.im,dgB ((k:Int)+1),decide (0<tpN (t.adv m) 3)⟩)]=some (.agg [.int .i64 0,isV (idxL t c (m+1))]):=by
  rw [hnx]
  have e:=zz41 (l:=idxL t c m) (by omega)
  simp only [xiC,e] at hcI
  exact hcI
 have hN:=z44h (t:=t.adv m) (n:=3) (by show t.at_+m<_; omega) (by decide) (by decide)
 rw [zjmf] at hN
 obtain ⟨b,hb⟩ : ∃ b,decide (0<tpN (t.adv m) 3)=b:=⟨_,rfl⟩
 obtain ⟨z,hz⟩ : ∃ z,tpN (t.adv m) 3=z:=⟨_,rfl⟩
 rw [hz] at hb hN
 rw [hz,hb] at hcI
 have hbr:=fun (x:List DV) (hx:x.length=34)=>zxtu (z:=x) (r:=⟨g.ns,g.im,dgB ((k:Int)+1)⟩) hx
 obtain ⟨r,hr⟩ : ∃ r:Rqs,(⟨g.ns,g.im,dgB ((k:Int)+1)⟩:Rqs)=r:=⟨_,rfl⟩
 have hbi:=z10m (r:=⟨g.ns,g.im,dgB ((k:Int)+1)⟩) (b:=b)
 rw [hr] at hbr hbi
 have hcI:cInx [.agg [.int .i64 0,isV (idxL t c m)],.agg (ixC ⟨r.ns,r.im,r.art,b⟩)]=some (.agg [.int .i64 0,isV (idxL t c (m+1))]):=by rw [← hr]; exact hcI
 have hpix:=fun x=>z0ob x
 have hfold:DV.str g.ns::DV.str g.im::dgC (dgB ((k:Int)+1))=rqC r:=by rw [← hr]; rfl
 have hsr : ∀ (H:List AObj) (id:Nat) (x:List DV),x.length=34→zy6o H id 34 0 (.agg (rqC r)) (some x)=some (.junk,H.set id (.cells (rqC r))):=fun H id x hx=>zfc1 (zzeg r) hx (by rw [← hr]; simp [rqC,dgC,zzst])
 have hst:=fun W H=>zdpk (isV (idxL t c (m+1))) W (zcwq _) H
 have pure_xe:=fun l=>zm03 l
 have hbd:zvnk (dgC dg0) [(0,1,w8 (BitVec.ofInt 8 ((k:Int)+1)))]=some (.agg (dgC (dgB ((k:Int)+1)))):=z7ni
 simp (disch:=first|omega|simp<;>omega|fail) [-zA,-zB,-zC,-zD,-zE,z9mq,zbmj,q,q',hg1,hG,grC,hbd,hbr,hfold,bd_v,hsr,zy5o,zed4,ziaj,hN,hb,hbi,z6wa,hcI,zzeg,zhqv,hst,pure_xe,hpix]
 have hm1:3*i+(k+1)=m+1:=by omega
 exact ⟨k+1,zju2 (tail:=[.cells (rqC r)]) (by simp (disch:=first|omega|simp<;>omega|fail) [-zA,-zB,-zC,-zD,-zE,zcyu,zbmj]) (by simp (disch:=first|omega|simp<;>omega|fail) [-zA,-zB,-zC,-zD,-zE,zcyu,zbmj,hm1]) (by simp (disch:=first|omega|simp<;>omega|fail) [-zA,-zB,-zC,-zD,-zE]) (by simp (disch:=first|omega|simp<;>omega|fail) [-zA,-zB,-zC,-zD,-zE,belowL,Am.below]) (by simp (disch:=first|omega|simp<;>omega|fail) [-zA,-zB,-zC,-zD,-zE,zlf2,belowL,Am.below,zmq5 _ _ (zs7w _),zmq5 _ _ (zy11 c),z8b8 _ _ (zm03 _)]),by omega,by omega⟩
noncomputable def cIdx:List DV→List DV→Option (DV × List DV):=conT (fun a:Tp × Clu=>a.1.at_<4000000000∧a.2.g.l.length≤1000) (fun a=>[.agg (clC a.2)]) (fun a=>tpC a.1) (fun a=>(.agg [.int .i64 0,isV (idxL a.1 a.2 (3*a.2.g.l.length))],tpC (a.1.adv (3*a.2.g.l.length))))
theorem zj2w {t:Tp} {c:Clu} (h1:t.at_<4000000000) (h2:c.g.l.length≤1000):cIdx [.agg (clC c)] (tpC t)=some (.agg [.int .i64 0,isV (idxL t c (3*c.g.l.length))],tpC (t.adv (3*c.g.l.length))) :=
 ztyo (A:=fun a:Tp × Clu=>a.1.at_<4000000000∧a.2.g.l.length≤1000) (f:=fun a=>[.agg (clC a.2)]) (s:=fun a=>tpC a.1) (by
  rintro ⟨a,n⟩ ⟨b,m⟩ e1 e2
  simp only [List.cons.injEq,DV.agg.injEq,and_true] at e1
  rw [zh7t e1,z15z e2]) (t,c) ⟨h1,h2⟩
theorem zkb9:(Con.tch cIdx).Sound P 39 :=
 z0tq (fun a _=>⟨by simp [zbao,zyp8,zy11],zs7w _,by simp [zyp8,zbao,zm03],zs7w _⟩) fun a h=>zizi mix zqkx Tryz.func39 zjwo (zimd a.1 a.2 h.1 h.2) (y04 _)
end
section
set_option linter.unusedSimpArgs false
set_option linter.unusedVariables false
set_option maxRecDepth 20000
open Go Go.Am
def trV (l:List Tri):DV:=if l=[] then .nils else .sl false 35 l.length (l.flatMap trC)
theorem znen (l:List Tri):zyp8 (trV l)=true:=by
 unfold trV
 split
 ·rfl
 ·simp only [zyp8]; exact zp6k z1zd l
def triS (t:Tp) (c:Clu):Nat→Tp × List Tri
 | 0=>(t,[])
 | m+1=>match c.g.l[m / 3]? with
  | some g=>if dgB (((m % 3:Nat):Int)+1) ∈ g.ch.l then
    (if tpN (triS t c m).1 3=0 then (((triS t c m).1).adv 3,(triS t c m).2++[⟨(m / 3:Nat),dgB (((m % 3:Nat):Int)+1),1+tpN (((triS t c m).1).adv 1) 4,tpN (((triS t c m).1).adv 2) 40⟩])
     else (((triS t c m).1).adv 1,(triS t c m).2)) else triS t c m
  | none=>triS t c m
theorem zso0 {t:Tp} {c:Clu} : ∀ m,(triS t c m).1.at_≤t.at_+3*m∧(triS t c m).2.length≤m
 | 0=>by simp [triS]
 | m+1=>by
  have ih:=zso0 (t:=t) (c:=c) m
  unfold triS
  split
  ·split
   ·split
    ·simp only [Tp.adv,y03,y18]; omega
    ·simp only [Tp.adv]; omega
   ·omega
  ·omega
def HT (u:Tp) (c:Clu) (L:List Tri):List AObj := .cells (tpC u) :: .cells (clC c)::oT trC L
section
variable {u u':Tp} {c:Clu} {L:List Tri} {X:List AObj}
theorem zglr:objV (HT u c L) 0 2=some (tpC u):=rfl
theorem HT_a:ziu0 (HT u c L) 0=some (tpC u):=rfl
theorem zjbe:objV (HT u c L) 1 3=some (clC c):=rfl
theorem zxru:(HT u c L).set 0 (.cells (tpC u'))=HT u' c L:=rfl
theorem z8by {y:Tri} (hb:L.length+1≤4294967296):appX (HT u c L) 35 56 (oV 2 35 L) 1 (trC y)=some (oV 2 35 (L++[y]),HT u c (L++[y])) :=
 zte0 (k:=2) (K:=35) (b:=56) (f:=trC) (l:=L) (x:=y) (h:=[.cells (tpC u),.cells (clC c)]) rfl zezj (by decide) (by decide) zms9 hb
theorem znca:(HT u c L).length=2+(oT trC L).length:=by simp [HT]; omega
theorem zygd:zlf2 (HT u c L).length (HT u c L)=true:=by
 show zlf2 _ ([.cells (tpC u),.cells (clC c)]++oT trC L)=true
 refine zrlz ?_ (zd81 z1zd)
 simp only [zlf2,zmq5 _ _ (zs7w u),zmq5 _ _ (zy11 c),y0i]
theorem zb15:Am.below (HT u c L).length (oV 2 35 L)=true:=by
 have:=zv6o (k:=2) (K:=35) (f:=trC) (l:=L)
 rw [znca]; exact this
theorem z4xe:mk1 (kLt 1) (HT u c L) (oV 2 35 L)=trV L:=by
 by_cases e:L=[]
 ·subst e; exact zhx5
 ·unfold trV
  rw [zpni e,if_neg e]
  refine zwy6 ?_
  rw [zi9r,if_neg (by simp [kLt])]
  have ho:objV (HT u c L) 2 (L.length*35)=some (fl trC L):=by
   unfold HT
   rw [zu2l e]
   simp [objV,ziu0,z8lx zezj]
  rw [ho,y0j,y1a]
  have ht:(fl trC L).take (L.length*35)=L.flatMap trC:=y02 (by rw [z8lx zezj]; omega)
  rw [ht,zl6f (zp6k z1zd L)]; rfl
end
noncomputable def zy43:Tbl:=addT 13 (.tch z1m3) (addT 50 (.pure cHas) tbl0)
theorem zrmg:zy43 13 = .tch z1m3:=by simp [zy43]
theorem zzv3:zy43 50 = .pure cHas:=by simp [zy43]
theorem zpan:zy43.Sound P:=z0rp z51e (z0rp zi6e zr5o)
theorem z5gt {z:List DV} {a f e:Int} {d:Dg} (hz:z.length=35):zvnk z [(0,1,.int .i64 a),(1,32,.agg (dgC d)),(33,1,.int .i64 f),(34,1,.int .i64 e)]=some (.agg (trC ⟨a,d,f,e⟩)):=by
 rw [zwos (by simp [DV.known]) (by simp [seqD,DV.cells,hz,z1t1])]; simp [seqD,DV.cells,trC]
theorem zsvy {z:List DV} {x:Tri} (hz:z.length=35):bslD 35 1 z [(0,35,.agg (trC x))]=some (.sl true 35 1 (trC x)):=by
 rw [z7bw (by simp [DV.known]) (by simp [seqD,DV.cells,hz,zezj])]; simp [seqD,DV.cells,zezj]
def zsl6 (t:Tp) (c:Clu) (i k m:Nat):St:=zcq1 (.mp 0 2 0) (.mp 1 3 0) (oV 2 35 (triS t c m).2) (.int .i64 i) (.int .i64 k) (HT (triS t c m).1 c (triS t c m).2)
def z6qg (t:Tp) (c:Clu) (i:Nat):St:=zuzy (.mp 0 2 0) (.mp 1 3 0) (oV 2 35 (triS t c (3*i)).2) (.int .i64 i) (HT (triS t c (3*i)).1 c (triS t c (3*i)).2)
theorem zu8w (t:Tp) (c:Clu) (ht:t.at_<4000000000) (hn:c.g.l.length≤1000):zwy1 P 40 [.mp 0 2 0,.agg (clC c)] [.cells (tpC t)] (fun d h=>d=trV (triS t c (3*c.g.l.length)).2∧h=[.cells (tpC (triS t c (3*c.g.l.length)).1)]):=by
 refine zrqk Tryz.func40 zt62 ?_
 have hbc : ∀ h,boxD h (.agg (clC c))=some (.mp h.length 3 0,h++[.cells (clC c)]):=fun h=>by rw [zn72]; rfl
 have hg1:oneC 1 false (clC c)=some (c.g.dv 6 grC):=rfl
 have hlg : ∀ H,lenD H (c.g.dv 6 grC)=some (.int .i64 c.g.l.length):=fun H=>zupj
 obtain ⟨n,hne⟩ : ∃ n,c.g.l.length=n:=⟨_,rfl⟩
 rw [hne] at hn hlg ⊢
 have hl3:(clC c).length=3:=rfl
 refine zbn1 (V_W mix zr5o ?_)
 simp (disch:=first|omega|simp<;>omega|fail) [-zA,-zB,-zC,-zD,-zE,a40,hbc]
 refine zbn1 (V_W mix zr5o ?_)
 simp (disch:=first|omega|simp<;>omega|fail) [-zA,-zB,-zC,-zD,-zE]
 refine zbn1 (zbn1 (V_W mix zr5o ?_))
 simp (disch:=first|omega|simp<;>omega|fail) [-zA,-zB,-zC,-zD,-zE]
 refine z3mo (ztbr (z6qg t c) (fun i=>n-i) (fun i=>i≤n) 0 (z515 (by simp (disch:=first|omega|simp<;>omega|fail) [-zA,-zB,-zC,-zD,-zE,z6qg,zuzy,triS,zl8p]) (by simp (disch:=first|omega|simp<;>omega|fail) [-zA,-zB,-zC,-zD,-zE,z6qg,zuzy,triS,HT,zkrk])) (y1i _) (fun i hi => ?_))
 simp only [z6qg]
 by_cases h:i<n
 case neg =>
  have h':¬ (i:Int)<n:=by omega
  obtain rfl:i=n:=by omega
  have hmk:=z4xe (u:=(triS t c (3*i)).1) (c:=c) (L:=(triS t c (3*i)).2)
  have h10:=zjbe (u:=(triS t c (3*i)).1) (c:=c) (L:=(triS t c (3*i)).2)
  have hpu:=znen (triS t c (3*i)).2
  have hHH:HT (triS t c (3*i)).1 c (triS t c (3*i)).2=[AObj.cells (tpC (triS t c (3*i)).1)]++(.cells (clC c)::oT trC (triS t c (3*i)).2):=rfl
  obtain ⟨u,hu⟩ : ∃ u,(triS t c (3*i)).1=u:=⟨_,rfl⟩
  obtain ⟨L,hL⟩ : ∃ L,(triS t c (3*i)).2=L:=⟨_,rfl⟩
  rw [hu,hL] at hmk h10 hHH
  rw [hL] at hpu
  rw [hu,hL]
  obtain ⟨H,hH⟩ : ∃ H,HT u c L=H:=⟨_,rfl⟩
  rw [hH] at hmk h10 hHH ⊢
  refine zbn1 (zbn1 (V_W mix zr5o ?_))
  simp (disch:=first|omega|simp<;>omega|fail) [-zA,-zB,-zC,-zD,-zE,z1eu,zuzy,h,h',h10,hg1,hlg]
  refine V_W mix zr5o ?_
  simp (disch:=first|omega|simp<;>omega|fail) [-zA,-zB,-zC,-zD,-zE]
  rw [hHH] at hmk ⊢
  simp only [y0e,y13] at hmk
  refine z0em (n0:=1) (H:=[.cells (tpC u)]) (R := .cells (clC c)::oT trC L) (t':=js 5++[trV L]++js 42) (by simp only [zlf2,zmq5 _ _ (zs7w u),y0i]) (by simp) ?_ (by simp (disch:=first|omega|simp<;>omega|fail) [-zA,-zB,-zC,-zD,-zE,belowL,Am.below,z8b8 _ _ hpu]) ?_
  ·simp (disch:=first|omega|simp<;>omega|fail) [-zA,-zB,-zC,-zD,-zE,hmk,-z1bt,-zdpe]
  refine zbn1 (V_W mix zr5o ?_)
  simp (disch:=first|omega|simp<;>omega|fail) [-zA,-zB,-zC,-zD,-zE]
  refine V_W mix zr5o ?_
  simp (disch:=first|omega|simp<;>omega|fail) [-zA,-zB,-zC,-zD,-zE,a40]
 have h':(i:Int)<n:=by omega
 have hlt:i<c.g.l.length:=by omega
 have hG : ∀ H,zpsc H 6 (c.g.dv 6 grC) i=some (.ref (grC c.g.l[i])):=fun H=>zalo zry4 hlt
 have hgi:c.g.l[i]? = some c.g.l[i]:=y01 hlt
 obtain ⟨g,hge⟩ : ∃ g,c.g.l[i]=g:=⟨_,rfl⟩
 rw [hge] at hG hgi
 have h10:=zjbe (u:=(triS t c (3*i)).1) (c:=c) (L:=(triS t c (3*i)).2)
 refine zbn1 (zbn1 (V_W mix zr5o ?_))
 simp (disch:=first|omega|simp<;>omega|fail) [-zA,-zB,-zC,-zD,-zE,z1eu,zuzy,h,h',h10,hg1,hlg]
 refine V_W mix zr5o ?_
 simp (disch:=first|omega|simp<;>omega|fail) [-zA,-zB,-zC,-zD,-zE]
 refine zbn1 (z3mo (zbn1 (V_W mix zr5o ?_)))
 simp (disch:=first|omega|simp<;>omega|fail) [-zA,-zB,-zC,-zD,-zE]
 refine z3mo (ztbr (fun k=>zsl6 t c i (k+1) (3*i+k)) (fun k=>3-k) (fun k=>k≤3) 0 (z515 (by simp (disch:=first|omega|simp<;>omega|fail) [-zA,-zB,-zC,-zD,-zE,zsl6,zcq1]) (by simp (disch:=first|omega|simp<;>omega|fail) [-zA,-zB,-zC,-zD,-zE,zsl6,zcq1])) (y1i _) (fun k hk => ?_))
 simp only [zsl6]
 by_cases q:k<3
 case neg =>
  obtain rfl:k=3:=by omega
  refine zbn1 (zbn1 (V_W mix zr5o ?_))
  simp (disch:=first|omega|simp<;>omega|fail) [-zA,-zB,-zC,-zD,-zE,zb4u,zcq1]
  refine V_W mix zr5o ?_
  simp (disch:=first|omega|simp<;>omega|fail) [-zA,-zB,-zC,-zD,-zE]
  refine V_W mix zr5o ?_
  simp (disch:=first|omega|simp<;>omega|fail) [-zA,-zB,-zC,-zD,-zE]
  refine ⟨i+1,z515 (by simp (disch:=first|omega|simp<;>omega|fail) [-zA,-zB,-zC,-zD,-zE,z6qg,zuzy,y1j]) (by simp (disch:=first|omega|simp<;>omega|fail) [-zA,-zB,-zC,-zD,-zE,z6qg,zuzy,y1j]),by omega,by omega⟩
 have q':(k:Int)+1≤3:=by omega
 obtain ⟨m,hm⟩ : ∃ m,3*i+k=m:=⟨_,rfl⟩
 have hm1:3*i+(k+1)=m+1:=by omega
 have hm3:m / 3=i:=by omega
 have hmk:m % 3=k:=by omega
 rw [hm]
 have hle:=zso0 (t:=t) (c:=c) m
 have hst:triS t c (m+1)=if dgB ((k:Int)+1) ∈ g.ch.l then
    (if tpN (triS t c m).1 3=0 then (((triS t c m).1).adv 3,(triS t c m).2++[⟨(i:Nat),dgB ((k:Int)+1),1+tpN (((triS t c m).1).adv 1) 4,tpN (((triS t c m).1).adv 2) 40⟩])
     else (((triS t c m).1).adv 1,(triS t c m).2)) else triS t c m:=by
  conv=>lhs; unfold triS
  rw [hm3,hgi,hmk]
 obtain ⟨T,hT⟩ : ∃ T,triS t c m=T:=⟨_,rfl⟩
 rw [hT] at hst hle ⊢
 obtain ⟨u,L⟩:=T
 simp only at hst hle ⊢
 obtain ⟨d,hd⟩ : ∃ d,dgB ((k:Int)+1)=d:=⟨_,rfl⟩
 have hbd:zvnk (dgC dg0) [(0,1,w8 (BitVec.ofInt 8 ((k:Int)+1)))]=some (.agg (dgC (dgB ((k:Int)+1)))):=z7ni
 rw [hd] at hst hbd
 have hsd : ∀ (h:List AObj) (id:Nat) (e:Dg),zy6o h id 32 0 (.agg (dgC d)) (some (dgC e))=some (.junk,h.set id (.cells (dgC d))):=fun h id e=>zfc1 (z1t1 _) (z1t1 _) (by simp [dgC,zzst])
 have h1d : ∀ d,oneC 32 true (dgC d)=some (.agg (dgC d)):=fun d=>by simp [oneC,z1t1,y02]
 have H00:=zglr (u:=u) (c:=c) (L:=L)
 have Ha:=HT_a (u:=u) (c:=c) (L:=L)
 have H10:=zjbe (u:=u) (c:=c) (L:=L)
 have Hset:=fun u'=>zxru (u:=u) (u':=u') (c:=c) (L:=L)
 have Hb:=zygd (u:=u) (c:=c) (L:=L)
 have HoV:=zb15 (u:=u) (c:=c) (L:=L)
 have Hl:=znca (u:=u) (c:=c) (L:=L)
 have e2 : ∀ h,mk1 (kLt (HT u c L).length) h (oV 2 35 L)=oV 2 35 L:=fun h=>zd3c HoV
 have e3 : ∀ h,mk1 (kLt (HT u c L).length) h (.mp 0 2 0) = .mp 0 2 0:=fun h=>zd3c (by simp only [Am.below,decide_eq_true_eq]; omega)
 have e4 : ∀ h,mk1 (kLt (HT u c L).length) h (.mp 1 3 0) = .mp 1 3 0:=fun h=>zd3c (by simp only [Am.below,decide_eq_true_eq]; omega)
 have ec:=zz5t (H:=HT u c L) (cs:=dgC d) (off:=0) (z3ot d)
 rw [z1t1,y1a] at ec
 have hN1:=z44h (t:=u) (n:=3) (by omega) (by decide) (by decide)
 have hcH:=zqi6 (x:=g.ch) (d:=d)
 have hnn:1≤(HT u c L).length:=by omega
 have hlt0:0<(HT u c L).length:=by omega
 have hlt1:1<(HT u c L).length:=by omega
 obtain ⟨H,hH⟩ : ∃ H,HT u c L=H:=⟨_,rfl⟩
 rw [hH] at H00 Ha H10 Hset Hb HoV Hl e2 e3 e4 ec hnn hlt0 hlt1 ⊢
 refine zbn1 (zbn1 (V_W mix zr5o ?_))
 simp (disch:=first|omega|simp<;>omega|fail) [-zA,-zB,-zC,-zD,-zE,zb4u,zcq1,q']
 refine V_W mix zr5o ?_
 simp (disch:=first|omega|simp<;>omega|fail) [-zA,-zB,-zC,-zD,-zE]
 refine zbn1 (z3mo (zbn1 (V_W mix zr5o ?_)))
 simp (disch:=first|omega|simp<;>omega|fail) [-zA,-zB,-zC,-zD,-zE,hbd,z4hl,hsd,z1t1]
 refine zs10 (n0:=1) (H:=H) (cs:=dgC d) (t':=[.mp 0 2 0,.junk,.junk,.mp 1 3 0,.junk,oV 2 35 L,.int .i64 i,.int .i64 ((k:Int)+1),.ref (dgC d)]++js 39) Hb hnn ?_ (by simp (disch:=first|omega|simp<;>omega|fail) [-zA,-zB,-zC,-zD,-zE,belowL,Am.below,HoV,hlt0,hlt1,zmq5 _ _ (z3ot d)]) ?_
 ·simp (disch:=first|omega|simp<;>omega|fail) [-zA,-zB,-zC,-zD,-zE,ec,e2,e3,e4,-z1bt,-zdpe]
 refine zbn1 (V_W mix zpan ?_)
 by_cases hmem:d ∈ g.ch.l
 case neg =>
  rw [if_neg hmem] at hst
  simp (disch:=first|omega|simp<;>omega|fail) [-zA,-zB,-zC,-zD,-zE,H10,hg1,hG,grC,h1d,zzv3,hcH,z3ot,hmem]
  refine V_W mix zr5o ?_
  simp (disch:=first|omega|simp<;>omega|fail) [-zA,-zB,-zC,-zD,-zE]
  refine V_W mix zr5o ?_
  simp (disch:=first|omega|simp<;>omega|fail) [-zA,-zB,-zC,-zD,-zE]
  refine ⟨k+1,z515 (by simp (disch:=first|omega|simp<;>omega|fail) [-zA,-zB,-zC,-zD,-zE,zsl6,zcq1,hm1,hst]) (by simp (disch:=first|omega|simp<;>omega|fail) [-zA,-zB,-zC,-zD,-zE,zsl6,zcq1,hm1,hst,hH]),by omega,by omega⟩
 rw [if_pos hmem] at hst
 by_cases hz:tpN u 3=0
 case neg =>
  rw [if_neg hz] at hst
  simp (disch:=first|omega|simp<;>omega|fail) [-zA,-zB,-zC,-zD,-zE,H10,hg1,hG,grC,h1d,zzv3,hcH,z3ot,hmem,zrmg,Ha,H00,hN1,Hset,hz]
  refine V_W mix zr5o ?_
  simp (disch:=first|omega|simp<;>omega|fail) [-zA,-zB,-zC,-zD,-zE]
  refine V_W mix zr5o ?_
  simp (disch:=first|omega|simp<;>omega|fail) [-zA,-zB,-zC,-zD,-zE]
  refine ⟨k+1,z515 (by simp (disch:=first|omega|simp<;>omega|fail) [-zA,-zB,-zC,-zD,-zE,zsl6,zcq1,hm1,hst]) (by simp (disch:=first|omega|simp<;>omega|fail) [-zA,-zB,-zC,-zD,-zE,zsl6,zcq1,hm1,hst]),by omega,by omega⟩
 rw [if_pos hz] at hst
 simp (disch:=first|omega|simp<;>omega|fail) [-zA,-zB,-zC,-zD,-zE,H10,hg1,hG,grC,h1d,zzv3,hcH,z3ot,hmem,zrmg,Ha,H00,hN1,Hset,hz]
 have hN2:=z44h (t:=u.adv 1) (n:=4) (by show u.at_+1<_; omega) (by decide) (by decide)
 have hN3:=z44h (t:=u.adv 2) (n:=40) (by show u.at_+2<_; omega) (by decide) (by decide)
 rw [zjmf] at hN2 hN3
 have b4:=z4rs (u.adv 1) 4
 have b4':=z2s7 (u.adv 1) (n:=4) (by decide)
 obtain ⟨f,hf⟩ : ∃ f,tpN (u.adv 1) 4=f:=⟨_,rfl⟩
 obtain ⟨a,ha⟩ : ∃ a,tpN (u.adv 2) 40=a:=⟨_,rfl⟩
 rw [hf] at hN2 hst b4 b4'
 rw [ha] at hN3 hst
 obtain ⟨y,hy⟩ : ∃ y:Tri,(⟨(i:Nat),d,1+f,a⟩:Tri)=y:=⟨_,rfl⟩
 have hbt:=fun (z:List DV) (hz:z.length=35)=>z5gt (z:=z) (a:=i) (f:=1+f) (e:=a) (d:=d) hz
 rw [hy] at hst hbt
 have hfo:DV.int .i64 (i:Int)::(dgC d++[DV.int .i64 (1+f),DV.int .i64 a])=trC y:=by rw [← hy]; rfl
 have hap:=z8by (u:=u.adv 3) (c:=c) (L:=L) (y:=y) (by omega)
 refine V_W mix zpan ?_
 simp (disch:=first|omega|simp<;>omega|fail) [-zA,-zB,-zC,-zD,-zE,h1d,zrmg,HT_a,zglr,hN2,hN3,zxru,hbt,hfo,zsvy,hap]
 refine V_W mix zr5o ?_
 simp (disch:=first|omega|simp<;>omega|fail) [-zA,-zB,-zC,-zD,-zE]
 exact ⟨k+1,z515 (by simp (disch:=first|omega|simp<;>omega|fail) [-zA,-zB,-zC,-zD,-zE,zsl6,zcq1,hm1,hst]) (by simp (disch:=first|omega|simp<;>omega|fail) [-zA,-zB,-zC,-zD,-zE,zsl6,zcq1,hm1,hst]),by omega,by omega⟩
noncomputable def cTri:List DV→List DV→Option (DV × List DV):=conT (fun a:Tp × Clu=>a.1.at_<4000000000∧a.2.g.l.length≤1000) (fun a=>[.agg (clC a.2)]) (fun a=>tpC a.1) (fun a=>(trV (triS a.1 a.2 (3*a.2.g.l.length)).2,tpC (triS a.1 a.2 (3*a.2.g.l.length)).1))
theorem zbtb {t:Tp} {c:Clu} (h1:t.at_<4000000000) (h2:c.g.l.length≤1000):cTri [.agg (clC c)] (tpC t)=some (trV (triS t c (3*c.g.l.length)).2,tpC (triS t c (3*c.g.l.length)).1) :=
 ztyo (A:=fun a:Tp × Clu=>a.1.at_<4000000000∧a.2.g.l.length≤1000) (f:=fun a=>[.agg (clC a.2)]) (s:=fun a=>tpC a.1) (by
  rintro ⟨a,n⟩ ⟨b,m⟩ e1 e2
  simp only [List.cons.injEq,DV.agg.injEq,and_true] at e1
  rw [zh7t e1,z15z e2]) (t,c) ⟨h1,h2⟩
theorem zka8:(Con.tch cTri).Sound P 40 :=
 z0tq (fun a _=>⟨by simp [zbao,zyp8,zy11],zs7w _,znen _,zs7w _⟩) fun a h=>zu8w a.1 a.2 h.1 h.2
end
section
set_option linter.unusedSimpArgs false
set_option linter.unusedVariables false
set_option maxRecDepth 20000
open Go Go.Am
structure Scn where
 c:Clu
 x:List Ixe
 tr:List Tri
 gr:List Int
 t:Int
def scnC (s:Scn):List DV:=[s.c.g.dv 6 grC,s.c.i.dv 37 inC,.int .i64 s.c.next,.int .i64 0,isV s.x,trV s.tr,liV s.gr,.int .i64 s.t]
noncomputable def scnV (u:Tp):Scn × Tp :=
 let c:=(zcpt u 8).1
 let w:=(zcpt u 8).2
 let n:=3*c.g.l.length
 let w1:=w.adv n
 let w2:=(triS w1 c n).1
 let w3:=w2.adv c.i.l.length
 (⟨c,idxL w c n,(triS w1 c n).2,graL w2 c.i.l.length,30+tpN w3 20⟩,w3.adv 1)
noncomputable def z8gk:Tbl:=addT 37 (.new zl5p) (addT 38 (.tch cClu) (addT 13 (.tch z1m3) (addT 39 (.tch cIdx) (addT 40 (.tch cTri) (addT 41 (.tch cGra) tbl0)))))
theorem z9vj:z8gk 37 = .new zl5p:=by simp [z8gk]
theorem zf0m:z8gk 38 = .tch cClu:=by simp [z8gk]
theorem zkp3:z8gk 13 = .tch z1m3:=by simp [z8gk]
theorem z6jf:z8gk 39 = .tch cIdx:=by simp [z8gk]
theorem zj0z:z8gk 40 = .tch cTri:=by simp [z8gk]
theorem zdoe:z8gk 41 = .tch cGra:=by simp [z8gk]
theorem zqvq:z8gk.Sound P:=z0rp ze95 (z0rp zwvn (z0rp z51e (z0rp zkb9 (z0rp zka8 (z0rp z10g zr5o)))))
theorem zq54 (l:List Tri):(trV l).one=true:=by unfold trV; split<;>rfl
theorem zdci (l:List Tri):(trV l).cells=[trV l]:=by unfold trV; split<;>rfl
def o8 (c:Clu) (a b d e f:DV):List DV:=[c.g.dv 6 grC,c.i.dv 37 inC,.int .i64 c.next,a,b,d,e,f]
theorem o8_b {c:Clu}:zvnk [.nils,.nils,.int .i64 0,.int .i64 0,.nils,.nils,.nils,.int .i64 0] [(0,3,.agg (clC c))]=some (.agg (o8 c (.int .i64 0) .nils .nils .nils (.int .i64 0))):=rfl
section
variable {c:Clu} {a b d e f:DV} {H:List AObj} {id:Nat}
theorem z6ng (h1:a.one=true) (h2:b.one=true) (h3:d.one=true) (h4:e.one=true) (h5:f.one=true):(o8 c a b d e f).all DV.one=true:=by simp [o8,z4ja,h1,h2,h3,h4,h5]
theorem zws3 (h1:a.one=true) (h2:b.one=true) (h3:d.one=true) (h4:e.one=true) (h5:f.one=true):zy6o H id 8 0 (.agg (o8 c a b d e f)) (some [.nils,.nils,.int .i64 0,.int .i64 0,.nils,.nils,.nils,.int .i64 0])=some (.junk,H.set id (.cells (o8 c a b d e f))):=zfc1 rfl rfl (z6ng h1 h2 h3 h4 h5)
theorem o8_3:oneC 3 true (o8 c a b d e f)=some (.agg (clC c)):=rfl
theorem o8_8:oneC 8 true (o8 c a b d e f)=some (.agg (o8 c a b d e f)):=rfl
theorem z3nx {x y:DV} (h1:x.one=true) (h2:y.one=true):zy6o H id 2 3 (.agg [x,y]) (some (o8 c a b d e f))=some (.junk,H.set id (.cells (o8 c x y d e f))):=by
 have h:(DV.agg [x,y]).cells.length=2∧3+2≤(o8 c a b d e f).length∧(DV.agg [x,y]).cells.all DV.one=true:=⟨rfl,by show 5≤8; decide,by simp [DV.cells,h1,h2]⟩
 exact (if_pos h).trans rfl
theorem zo9w {x:DV} (hc:x.cells=[x]) (ho:x.one=true):zy6o H id 1 5 x (some (o8 c a b d e f))=some (.junk,H.set id (.cells (o8 c a b x e f))):=by
 rw [Am.storeO_1 hc ho (by show 5<8; decide)]; rfl
theorem zdmn {x:DV} (hc:x.cells=[x]) (ho:x.one=true):zy6o H id 1 6 x (some (o8 c a b d e f))=some (.junk,H.set id (.cells (o8 c a b d x f))):=by
 rw [Am.storeO_1 hc ho (by show 6<8; decide)]; rfl
theorem z7tb {x:DV} (hc:x.cells=[x]) (ho:x.one=true):zy6o H id 1 7 x (some (o8 c a b d e f))=some (.junk,H.set id (.cells (o8 c a b d e x))):=by
 rw [Am.storeO_1 hc ho (by show 7<8; decide)]; rfl
end
theorem zfog (x:Nl):RunsH z8gk a12 [x.dv] [] (.tup [.agg (scnC (scnV (tp0 x 300)).1),.mp 1 2 0]) [.cells (scnC (scnV (tp0 x 300)).1),.cells (tpC (scnV (tp0 x 300)).2),.cells (scnC (scnV (tp0 x 300)).1)]:=by
 refine ⟨?_⟩
 obtain ⟨u,hu⟩ : ∃ u,tp0 x 300=u:=⟨_,rfl⟩
 have hua:u.at_=0:=by rw [← hu]; rfl
 obtain ⟨hv,hg⟩:=zlnb u 8 (by decide) (by decide)
 have hn9:=zukg u 8 (by decide) (by decide)
 have hat:=z2ep u 8 (by decide) (by decide)
 have hT:=fun m=>zwy3 (x:=x) (n:=300) (by decide) m
 rw [hu] at hT
 simp only [show ((300:Nat):Int)=300 from rfl] at hT
 rw [hu]
 have hsc:scnV u=(⟨(zcpt u 8).1,idxL (zcpt u 8).2 (zcpt u 8).1 (3*(zcpt u 8).1.g.l.length),(triS ((zcpt u 8).2.adv (3*(zcpt u 8).1.g.l.length)) (zcpt u 8).1 (3*(zcpt u 8).1.g.l.length)).2,graL (triS ((zcpt u 8).2.adv (3*(zcpt u 8).1.g.l.length)) (zcpt u 8).1 (3*(zcpt u 8).1.g.l.length)).1 (zcpt u 8).1.i.l.length,30+tpN ((triS ((zcpt u 8).2.adv (3*(zcpt u 8).1.g.l.length)) (zcpt u 8).1 (3*(zcpt u 8).1.g.l.length)).1.adv (zcpt u 8).1.i.l.length) 20⟩,((triS ((zcpt u 8).2.adv (3*(zcpt u 8).1.g.l.length)) (zcpt u 8).1 (3*(zcpt u 8).1.g.l.length)).1.adv (zcpt u 8).1.i.l.length).adv 1):=rfl
 rw [hsc]
 clear hsc
 have hC:=z9dl (t:=u) (m:=8) (by omega) (by decide) (by decide)
 obtain ⟨c,hc⟩ : ∃ c,(zcpt u 8).1=c:=⟨_,rfl⟩
 obtain ⟨w,hw⟩ : ∃ w,(zcpt u 8).2=w:=⟨_,rfl⟩
 rw [hc,hw] at hC
 rw [hc] at hv hg hn9
 rw [hw] at hat
 rw [hc,hw]
 have hng:=hv.ng
 have hI:=zj2w (t:=w) (c:=c) (by omega) (by omega)
 have hpI:=zm03 (idxL w c (3*c.g.l.length))
 have hoI:=zcwq (idxL w c (3*c.g.l.length))
 obtain ⟨n,hn⟩ : ∃ n,c.g.l.length=n:=⟨_,rfl⟩
 rw [hn] at hI hng hpI hoI
 rw [hn]
 have hTr:=zbtb (t:=w.adv (3*n)) (c:=c) (by show w.at_+3*n<_; omega) (by omega)
 rw [hn] at hTr
 have htl:=zso0 (t:=w.adv (3*n)) (c:=c) (3*n)
 have hwa:(w.adv (3*n)).at_=w.at_+3*n:=rfl
 obtain ⟨T,hTe⟩ : ∃ T,triS (w.adv (3*n)) c (3*n)=T:=⟨_,rfl⟩
 rw [hTe] at hTr htl
 rw [hTe]
 obtain ⟨w2,tr⟩:=T
 simp only at hTr htl ⊢
 have hG:=zxh3 (t:=w2) (c:=c) (by omega) (by omega)
 obtain ⟨X,hX⟩ : ∃ X,idxL w c (3*n)=X:=⟨_,rfl⟩
 rw [hX] at hI hpI hoI
 rw [hX]
 obtain ⟨m,hm⟩ : ∃ m,c.i.l.length=m:=⟨_,rfl⟩
 rw [hm] at hG hn9
 rw [hm]
 have hN:=z44h (t:=w2.adv m) (n:=20) (by show w2.at_+m<_; omega) (by decide) (by decide)
 have hz:=z2s7 (w2.adv m) (n:=20) (by decide)
 have hz0:=z4rs (w2.adv m) 20
 obtain ⟨z,hze⟩ : ∃ z,tpN (w2.adv m) 20=z:=⟨_,rfl⟩
 rw [hze] at hN hz hz0
 rw [hze]
 obtain ⟨w4,hw4⟩ : ∃ w4,(w2.adv m).adv 1=w4:=⟨_,rfl⟩
 rw [hw4] at hN
 rw [hw4]
 obtain ⟨g,hge⟩ : ∃ g,graL w2 m=g:=⟨_,rfl⟩
 rw [hge] at hG
 rw [hge]
 have hx:=zkx7 x
 have s2:=fun H=>z3nx (c:=c) (a := .int .i64 0) (b := .nils) (d := .nils) (e := .nils) (f := .int .i64 0) (H:=H) (id:=2) (x := .int .i64 0) (y:=isV X) rfl hoI
 have s5:=fun H=>zo9w (c:=c) (a := .int .i64 0) (b:=isV X) (d := .nils) (e := .nils) (f := .int .i64 0) (H:=H) (id:=2) (zdci tr) (zq54 tr)
 have s6:=fun H=>zdmn (c:=c) (a := .int .i64 0) (b:=isV X) (d:=trV tr) (e := .nils) (f := .int .i64 0) (H:=H) (id:=2) (zf8a g) (zj6i g)
 have s7:=fun H=>z7tb (c:=c) (a := .int .i64 0) (b:=isV X) (d:=trV tr) (e:=liV g) (f := .int .i64 0) (H:=H) (id:=2) (x := .int .i64 (30+z)) rfl rfl
 have s8:=fun H=>zws3 (c:=c) (a := .int .i64 0) (b:=isV X) (d:=trV tr) (e:=liV g) (f := .int .i64 (30+z)) (H:=H) (id:=0) rfl hoI (zq54 tr) (zj6i g) rfl
 have s0:=fun H=>zws3 (c:=c) (a := .int .i64 0) (b := .nils) (d := .nils) (e := .nils) (f := .int .i64 0) (H:=H) (id:=2) rfl rfl rfl rfl rfl
 have hlo : ∀ a b d e f,(o8 c a b d e f).length=8:=fun a b d e f=>rfl
 have hfin:scnC ⟨c,X,tr,g,30+z⟩=o8 c (.int .i64 0) (isV X) (trV tr) (liV g) (.int .i64 (30+z)):=rfl
 rw [hfin]
 simp (disch:=first|omega|simp<;>omega|fail) [-zA,-zB,-zC,-zD,-zE,o8_b,s0,s2,s5,s6,s7,s8,o8_3,o8_8,hlo,zy11,a12,z9vj,hT,zf0m,hC,z6jf,hI,zj0z,hTr,zdoe,hG,zkp3,hN,hx]
 done
end
section
set_option linter.unusedSimpArgs false
set_option linter.unusedVariables false
set_option maxRecDepth 20000
open Go Go.Am
theorem zenn:Tot lsP:=by
 have h:=zqwe (f:=fun a:Rqs=>(a.ns,(a.im,a.art))) (fun a b e=>by
  obtain ⟨a1,a2,a3⟩:=a
  obtain ⟨b1,b2,b3⟩:=b
  simp only [Prod.mk.injEq] at e
  rw [e.1,e.2.1,e.2.2]) (zcht z3gj (zcht z3gj zc3a))
 have e:(fun a b:Rqs=>zynh Op.bytesLess (zynh Op.bytesLess dgLt) (a.ns,(a.im,a.art)) (b.ns,(b.im,b.art)))=lsP:=by
  funext a b; rfl
 rw [e] at h
 exact h
def SrtX (l:List Ixe):Prop:=l.Pairwise fun a b=>lsP (ixR b) (ixR a)=false
theorem z7jw {a b c:Rqs} (h1:lsP b a=false) (h2:lsP b c=true):lsP a c=true:=by
 rcases zenn.tot a b with h|h|h
 ·exact zenn.tr _ _ _ h h2
 ·rw [h]; exact h2
 ·rw [h] at h1; cases h1
theorem z83d {a b e:Rqs} (h1:lsP b a=false) (h2:lsP e b=false):lsP e a=false:=by
 cases h:lsP e a with
 | false=>rfl
 | true =>
  rcases zenn.tot a b with q|q|q
  ·rw [zenn.tr _ _ _ h q] at h2; cases h2
  ·rw [q] at h; rw [h] at h2; cases h2
  ·rw [q] at h1; cases h1
theorem zd43 {e:Rqs} {l:List Ixe} : ∀ k,k≤l.length→(∀ j (hj:j<l.length),insK e l k≤j→j<k→lsP e (ixR l[j])=true)∧(∀ i (hi:i<l.length),i+1=insK e l k→lsP e (ixR l[i])=false)
 | 0,_=>⟨fun j hj _ h=>by omega,fun i hi h=>by simp [insK] at h⟩
 | k+1,hk=>by
  have hlt:k<l.length:=by omega
  have hu:insK e l (k+1)=if lsP e (ixR l[k])=true then insK e l k else k+1:=by
   conv=>lhs; unfold insK
   rw [y01 hlt]
  cases h:lsP e (ixR l[k]) with
  | true =>
   rw [h,if_pos rfl] at hu
   obtain ⟨a,b⟩:=zd43 (e:=e) (l:=l) k (by omega)
   rw [hu]
   refine ⟨fun j hj h1 h2 => ?_,b⟩
   by_cases ej:j=k
   ·subst ej; exact h
   ·exact a j hj h1 (by omega)
  | false =>
   rw [h,if_neg (by simp)] at hu
   rw [hu]
   refine ⟨fun j hj h1 h2=>by omega,fun i hi h1 => ?_⟩
   obtain rfl:i=k:=by omega
   exact h
theorem zhsg {l:List Ixe} {e:Ixe} (h:SrtX l):SrtX (insX l e):=by
 have hle:=z13x (e:=ixR e) (l:=l) l.length
 obtain ⟨s1,s2⟩:=zd43 (e:=ixR e) (l:=l) l.length (y04 _)
 unfold insX
 obtain ⟨k,hk⟩ : ∃ k,insK (ixR e) l l.length=k:=⟨_,rfl⟩
 rw [hk] at hle s1 s2 ⊢
 have hp:=y0g.1 h
 have before : ∀ i (hi:i<l.length),i<k→lsP (ixR e) (ixR l[i])=false:=fun i hi hik=>by
  by_cases q:i+1=k
  ·exact s2 i hi q
  ·exact z83d (hp i (k-1) hi (by omega) (by omega)) (s2 (k-1) (by omega) (by omega))
 have after : ∀ j (hj:j<l.length),k≤j→lsP (ixR l[j]) (ixR e)=false:=fun j hj hkj=>by
  cases q:lsP (ixR l[j]) (ixR e) with
  | false=>rfl
  | true =>
   have:=zenn.tr _ _ _ (s1 j hj hkj hj) q
   rw [zenn.irr] at this; cases this
 unfold SrtX
 rw [y0t,y0t]
 refine ⟨h.sublist (List.take_sublist _ _),⟨y10 _ _,h.sublist (List.drop_sublist _ _),fun a ha b hb => ?_⟩,fun a ha b hb => ?_⟩
 ·obtain rfl:a=e:=by simpa using ha
  obtain ⟨j,hj,rfl⟩:=y0c hb
  rw [List.getElem_drop]
  exact after _ _ (by omega)
 ·obtain ⟨i,hi,rfl⟩:=y0c ha
  rw [y07] at hi
  rw [List.getElem_take]
  rcases y16.1 hb with hb|hb
  ·obtain rfl:b=e:=by simpa using hb
   exact before _ _ (by omega)
  ·obtain ⟨j,hj,rfl⟩:=y0c hb
   rw [y08] at hj
   rw [List.getElem_drop]
   exact hp i (k+j) (by omega) (by omega) (by omega)
theorem z41v {t:Tp} {c:Clu} : ∀ m,SrtX (idxL t c m)
 | 0=>List.Pairwise.nil
 | m+1=>zhsg (z41v m)
theorem zqdf {r:Rqs} {x:Ixe}:cmpR r x<0↔lsP (ixR x) r=true:=by
 rw [zaif,decide_eq_true_eq]; rfl
theorem z4xb {l:List Ixe} (h:SrtX l) (r:Rqs):Mono (cmpR r) l:=by
 intro i j hi hj hij hc
 rw [zqdf] at hc ⊢
 exact z7jw (y0g.1 h i j hi hj hij) hc
def ltT (a b:Tri):Prop:=a.grp<b.grp∨(a.grp=b.grp∧dgLt a.art b.art=true)
theorem zgl2 {i j:Nat} (h:i<j) (hj:j<3):dgLt (dgB ((i:Int)+1)) (dgB ((j:Int)+1))=true:=by
 have:(i=0∧j=1)∨(i=0∧j=2)∨(i=1∧j=2):=by omega
 rcases this with ⟨rfl,rfl⟩|⟨rfl,rfl⟩|⟨rfl,rfl⟩<;>rfl
theorem z2rl {t:Tp} {c:Clu} : ∀ m,(triS t c m).2.Pairwise ltT ∧ ∀ y ∈ (triS t c m).2,∃ p:Nat,p<m∧y.grp=(p / 3:Nat)∧y.art=dgB (((p % 3:Nat):Int)+1)
 | 0=>⟨List.Pairwise.nil,fun y hy=>by simp [triS] at hy⟩
 | m+1=>by
  obtain ⟨h1,h2⟩:=z2rl (t:=t) (c:=c) m
  have up : ∀ y ∈ (triS t c m).2,∃ p:Nat,p<m+1∧y.grp=(p / 3:Nat)∧y.art=dgB (((p % 3:Nat):Int)+1):=fun y hy=>by
   obtain ⟨p,a,b⟩:=h2 y hy
   exact ⟨p,by omega,b⟩
  unfold triS
  split
  ·split
   ·split
    ·simp only
     rw [y0t]
     refine ⟨⟨h1,y10 _ _,fun a ha b hb => ?_⟩,fun y hy => ?_⟩
     ·obtain rfl:b=_:=by simpa using hb
      obtain ⟨p,p1,p2,p3⟩:=h2 a ha
      unfold ltT
      rw [p2,p3]
      simp only
      by_cases q:p / 3=m / 3
      ·exact .inr ⟨by omega,zgl2 (i:=p % 3) (j:=m % 3) (by omega) (by omega)⟩
      ·exact .inl (by omega)
     ·rcases y16.1 hy with hy|hy
      ·exact up y hy
      ·obtain rfl:y=_:=by simpa using hy
       exact ⟨m,by omega,rfl,rfl⟩
    ·exact ⟨h1,up⟩
   ·exact ⟨h1,up⟩
  ·exact ⟨h1,up⟩
theorem zyto {a b:Int}:cmpI a b<0↔a<b:=by unfold cmpI; split<;>(try split)<;>omega
theorem zybz {a b:Int}:cmpI a b=0↔a=b:=by unfold cmpI; split<;>(try split)<;>omega
theorem zc02 {g:Int} {d:Dg} {x:Tri}:cmpT g d x<0↔x.grp<g∨(x.grp=g∧dgLt x.art d=true):=by
 unfold cmpT orI
 by_cases e:x.grp=g
 ·rw [if_pos (zybz.2 e),zxr9]
  simp [e]
 ·rw [if_neg (fun q=>e (zybz.1 q)),zyto]
  simp [e]
theorem zc0u {l:List Tri} (h:l.Pairwise ltT) (k:Int) (d:Dg):Mono (cmpT k d) l:=by
 intro i j hi hj hij hc
 rw [zc02] at hc ⊢
 have:=y0g.1 h i j hi hj hij
 unfold ltT at this
 rcases this with a|⟨a1,a2⟩
 ·rcases hc with b|⟨b1,b2⟩
  ·exact .inl (by omega)
  ·exact .inl (by omega)
 ·rcases hc with b|⟨b1,b2⟩
  ·exact .inl (by omega)
  ·exact .inr ⟨by omega,zc3a.tr _ _ _ a2 b2⟩
end
section
set_option linter.unusedSimpArgs false
set_option linter.unusedVariables false
set_option maxRecDepth 20000
open Go Go.Am
structure RI (gs:List (List UInt8 × List UInt8 × Int × Int × Int × List Dg)) (s:Rnd) (B O:Nat):Prop where
 v:ValidC s.c
 g:s.c.g.l.map gl=gs
 b:s.c.i.l.length≤B
 o:s.o.length≤O
section
variable {gs:List (List UInt8 × List UInt8 × Int × Int × Int × List Dg)} {s:Rnd} {B O:Nat} {t:Int}
theorem zzee (h:RI gs s B O) {B' O':Nat} (hb:B≤B') (ho:O≤O'):RI gs s B' O':=⟨h.v,h.g,by have:=h.b; omega,by have:=h.o; omega⟩
theorem z7tf (h:RI gs s B O) (id:Int):RI gs (zyao t s id) B (O+1):=by
 by_cases h0:(z5wo s.c id t 3).2=0
 ·obtain ⟨i,hi,hf⟩:=zkzr h0
  have ht:zcie t:=by
   by_cases q:zcie t
   ·exact q
   ·unfold z5wo at h0; rw [if_pos (.inr q)] at h0; simp at h0
  have hst:s.c.i.l[i].state≠3:=by
   unfold z5wo at h0
   rw [if_neg (fun q=>q.elim (fun q=>q h.v) (fun q=>q ht)),hf,if_neg (by omega),y0v,y01 hi] at h0
   intro e
   simp [may,e] at h0
  have hid:s.c.i.l[i].id=id:=by
   obtain ⟨j,hj,e,p1,_⟩:=ziel (p:=fun x:Ins=>decide (x.id=id)) (l:=s.c.i.l) (by show (0:Int)≤z092 s.c.i.l id; rw [hf]; omega)
   have e:z092 s.c.i.l id=j:=e
   rw [hf] at e
   obtain rfl:i=j:=by omega
   simpa using p1
  have hv:=(z1s1 (gs:=gs) (s:=s) (l:=s.c.i.l) (n:=s.c.next) (o:=s.o) ⟨h.v,h.g,rfl,rfl,rfl⟩ ht (y0z hi) hst).1
  rw [hid] at hv
  exact ⟨hv.v,hv.g,by rw [hv.i,zo9a]; exact h.b,by rw [hv.o]; simp [zzoh]; exact h.o⟩
 ·have e:zyao t s id=s:=by unfold zyao; rw [if_neg h0]
  rw [e]; exact zzee h (y04 _) (by omega)
theorem z165 : ∀ {V:List Int} {s:Rnd} {O:Nat},RI gs s B O→RI gs (V.foldl (zyao t) s) B (O+V.length)
 | [],s,O,h=>h
 | a::V,s,O,h=>by
  have:=z165 (V:=V) (z7tf (t:=t) h a)
  rw [List.foldl_cons,y0d]
  exact zzee this (y04 _) (by omega)
theorem z3da (h:RI gs s B O) {tr:List Tri} {ix:List Ixe} {k:Int}:RI gs (zusy tr ix t k s).2 (B+1) (O+1):=by
 cases hb:(zusy tr ix t k s).1 with
 | false=>rw [z0v2 hb]; exact zzee h (by omega) (by omega)
 | true =>
  have hg:=zu5r hb
  cases hc:choC tr ix s.c k t with
  | none=>unfold zusy at hb; rw [hc] at hb; simp at hb
  | some d =>
   have hs:zusy tr ix t k s=if (z4wu s.c k d t).2.2=0 then (true,⟨(z4wu s.c k d t).1,s.o++[⟨1,(z4wu s.c k d t).2.1,d⟩]⟩) else (false,s):=by unfold zusy; rw [hc]
   by_cases h0:(z4wu s.c k d t).2.2=0
   ·rw [if_pos h0] at hs
    have hst:=h0
    unfold z4wu at hst
    split at hst
    ·simp at hst
    rename_i c1
    split at hst
    ·simp at hst
    rename_i c2
    split at hst
    ·simp at hst
    rename_i c3
    have ht:zcie t:=Classical.byContradiction fun q=>c1 (.inr (.inr q))
    have hd:d≠dg0:=fun q=>c1 (.inr (.inl q))
    obtain ⟨K,rfl⟩ : ∃ K:Nat,k=K:=⟨k.toNat,by omega⟩
    have hgl:gs.length=s.c.g.l.length:=by rw [← h.g]; simp
    have hv:=(zd62 (gs:=gs) (s:=s) (l:=s.c.i.l) (n:=s.c.next) (o:=s.o) ⟨h.v,h.g,rfl,rfl,rfl⟩ ht (k:=K) (by omega) hd (by omega) (by omega)).2.2.1
    have hv:=hv (s.o++[⟨1,(z4wu s.c K d t).2.1,d⟩])
    rw [hs]
    exact ⟨hv.v,hv.g,by rw [hv.i]; simp; exact h.b,by simp; exact h.o⟩
   ·rw [if_neg h0] at hs; rw [hs] at hb; simp at hb
theorem z6og {tr:List Tri} {ix:List Ixe} {k want:Int} : ∀ {m:Nat} {s:Rnd} {B O:Nat},RI gs s B O→RI gs (zinu tr ix t k want m s) (B+m) (O+m)
 | 0,s,B,O,h=>h
 | m+1,s,B,O,h=>by
  unfold zinu
  split
  ·exact zzee (z6og (m:=m) (z3da h)) (by omega) (by omega)
  ·exact zzee h (by omega) (by omega)
theorem zf4b (h:RI gs s B O) {tr:List Tri} {ix:List Ixe} {k want:Int}:RI gs (filS tr ix t k want s) (B+want.toNat) (O+want.toNat):=by
 unfold filS
 exact zzee (z6og h) (by omega) (by omega)
end
end
section
set_option linter.unusedSimpArgs false
set_option linter.unusedVariables false
set_option maxRecDepth 20000
open Go Go.Am
section
variable {gs:List (List UInt8 × List UInt8 × Int × Int × Int × List Dg)} {s:Rnd} {B O:Nat} {t:Int}
theorem zux2 (h:RI gs s B O) {k:Int}:RI gs (grS1 t k s) B (O+B):=by
 have h1:=zt4h (k:=k) (G:=znqs s.c k) (b:=false) (l:=s.c.i.l)
 have:=h.b
 exact zzee (z165 (t:=t) (V:=stgL k (znqs s.c k) false s.c.i.l) h) (y04 _) (by omega)
theorem znba (h:RI gs s B O) {k want:Int}:RI gs (grS2 t k want s) B (O+B):=by
 have h1:=zt4h (k:=k) (G:=znqs s.c k) (b:=true) (l:=s.c.i.l)
 have:=h.b
 have h2:((stgL k (znqs s.c k) true s.c.i.l).reverse.take ((znqs s.c k).length-want).toNat).length≤B:=by
  rw [y07,y1g]; omega
 exact zzee (z165 (t:=t) (V:=(stgL k (znqs s.c k) true s.c.i.l).reverse.take ((znqs s.c k).length-want).toNat) h) (y04 _) (by omega)
theorem zfti (h:RI gs s B O) {k:Int}:RI gs (grS3 t k s) B (O+3*B):=by
 have h1:=z9e8 (c:=s.c) (k:=k)
 have:=h.b
 have h2:((zu3j s.c k).take (z17v s.c k).toNat).length≤3*B:=by rw [y07]; omega
 exact zzee (z165 (t:=t) (V:=(zu3j s.c k).take (z17v s.c k).toNat) h) (y04 _) (by omega)
theorem z714 (h:RI gs s B O) {tr:List Tri} {ix:List Ixe} {k want:Int}:RI gs (grpS tr ix t k want s) (B+want.toNat) (O+5*B+want.toNat) :=
 zzee (zf4b (zfti (znba (zux2 h)))) (by omega) (by omega)
theorem z8wq (h:RI gs s B O) (hB:B≤19) (hO:O≤20000) {k:Nat} {want:Int} (hk:k<s.c.g.l.length) (hw:s.c.g.l[k].want=want):GrOK t s k want:=by
 obtain ⟨q,_⟩:=h.v.g k hk
 have w0:=q.w0
 have w1:=q.w1
 have hb:=h.b
 have ho:=h.o
 refine ⟨hk,hw,by omega,by omega,by omega,by omega,?_⟩
 have r:=znba (t:=t) (k:=k) (want:=want) (zux2 (t:=t) (k:=k) h)
 exact zt0b r.v (by have:=r.b; omega)
end
theorem z4ua {c d:Clu} (h:d.g.l.map gl=c.g.l.map gl) {k:Nat} (hk:k<c.g.l.length) : ∃ hk':k<d.g.l.length,d.g.l[k].want=ze6v c k:=by
 have hl:d.g.l.length=c.g.l.length:=by have:=congrArg List.length h; simpa using this
 refine ⟨by omega,?_⟩
 have e:gl (d.g.l[k]'(by omega))=gl c.g.l[k]:=by
  have:=y0k h (i:=k) (by simp; omega)
  simpa using this
 unfold ze6v
 rw [y01 hk]
 simp only [gl,Prod.mk.injEq] at e
 exact e.2.2.1
theorem z3g1 {c:Clu} {s0:Rnd} {tr:List Tri} {ix:List Ixe} {t:Int} {B0 O0:Nat} (h0:RI (c.g.l.map gl) s0 B0 O0) (hw : ∀ g ∈ c.g.l,g.want≤3) : ∀ {k:Nat},k≤c.g.l.length→k≤3→B0+9≤19→RI (c.g.l.map gl) (rndS tr ix t c k s0) (B0+3*k) (O0+100*k)
 | 0,_,_,_=>h0
 | k+1,hk,h3,hB=>by
  have ih:=z3g1 (tr:=tr) (ix:=ix) (t:=t) h0 hw (k:=k) (by omega) (by omega) hB
  have hwk:ze6v c k≤3:=by
   unfold ze6v
   rw [y01 (show k<c.g.l.length by omega)]
   exact hw _ (y0z _)
  exact zzee (z714 (tr:=tr) (ix:=ix) (t:=t) (k:=k) (want:=ze6v c k) ih) (by omega) (by omega)
theorem zwds {c:Clu} (hv:ValidC c):ValidC c.clone :=
 zqis hv (y:=c.i.clone) rfl fun i h1 h2=>⟨rfl,(hv.i i h2).1⟩
theorem zpyu {c:Clu} (hv:ValidC c) {gr:List Int} {t:Int}:RI (c.g.l.map gl) (rnd0 gr t c) c.i.l.length c.i.l.length:=by
 have h0:RI (c.g.l.map gl) ⟨c.clone,[]⟩ c.i.l.length 0:=⟨zwds hv,z9hp _,y04 _,y04 _⟩
 have hL:=z9p7 (gr:=gr) (t:=t) (l:=c.i.l) (j:=0)
 exact zzee (z165 (t:=t) (V:=ze9z c.i.l 0 gr t) h0) (y04 _) (by omega)
theorem zrko {a:RdA} (hv:ValidC a.c) (hn:a.c.g.l.length≤3) (hw : ∀ g ∈ a.c.g.l,g.want≤3) (hi:a.c.i.l.length≤10) (hch:ChOK a.x a.tr) (hov:OvOK (a.c,a.gr,a.t)):RdOK a:=by
 refine ⟨hch,hov,by omega,fun k hk => ?_⟩
 have h0:=zzee (zpyu (gr:=a.gr.l) (t:=a.t) hv) hi hi
 have h1:=z3g1 (tr:=a.tr.l) (ix:=a.x.e.l) (t:=a.t) h0 hw (k:=k) (by omega) (by omega) (by decide)
 obtain ⟨p,q⟩:=z4ua h1.g hk
 exact z8wq h1 (by omega) (by omega) p q
def Sml (c:Clu) (n:Nat):Prop:=(∀ x ∈ c.g.l,x.want≤3)∧c.g.l.length≤n
theorem zipw {c:Clu} {g:Grp} {n:Nat} (h:(zxl9 c g).2=0) (hc:Sml c n) (hn:n≤100) (hg:g.want≤3):Sml (zxl9 c g).1 (n+1):=by
 obtain ⟨h1,h2⟩:=hc
 unfold zxl9 at h ⊢
 split at h
 ·simp at h
 rename_i c1
 rw [if_neg c1]
 split at h
 ·rename_i c2
  rw [if_pos c2]
  split at h
  ·simp at h
  rename_i c3
  rw [if_neg c3]
  have hol:(own (c.g.l++[g])).l=c.g.l++[g]:=z3e9 (by simp; omega)
  refine ⟨fun x hx => ?_,by show (own _).l.length≤_; rw [hol]; simp; omega⟩
  have hx:x ∈ (own (c.g.l++[g])).l:=hx
  rw [hol] at hx
  rcases y16.1 hx with hx|hx
  ·exact h1 x hx
  ·obtain rfl:x=g:=by simpa using hx
   exact hg
 ·rename_i c2
  rw [if_neg c2]
  have hol:(own (c.g.l.set (z9w0 c.g.l g.ns g.im).toNat g)).l=c.g.l.set (z9w0 c.g.l g.ns g.im).toNat g:=z3e9 (by simp; omega)
  refine ⟨fun x hx => ?_,by show (own _).l.length≤_; rw [hol]; simp; omega⟩
  have hx:x ∈ (own (c.g.l.set (z9w0 c.g.l g.ns g.im).toNat g)).l:=hx
  rw [hol] at hx
  rcases List.mem_or_eq_of_mem_set hx with hx|hx
  ·exact h1 x hx
  ·rw [hx]; exact hg
theorem zk8v : ∀ (k:Nat) (c:Clu) (t:Tp) (n:Nat),Sml c n→n+k≤100→Sml (zp0i k c t).1 (n+k)
 | 0,c,t,n,h,_=>h
 | k+1,c,t,n,h,hn=>by
  have hw:(zlt0 t zdmg).1.want≤3:=by
   have:=z2s7 (t.adv 2) (n:=4) (by decide)
   show tpN (t.adv 2) 4≤3
   omega
  have h1:Sml (dOne c t) (n+1):=by
   unfold dOne
   split
   ·rename_i q; exact zipw q h (by omega) hw
   ·exact ⟨h.1,by have:=h.2; omega⟩
  have:=zk8v k (dOne c t) (zlt0 t zdmg).2 (n+1) h1 (by omega)
  show Sml (zp0i k (dOne c t) (zlt0 t zdmg).2).1 (n+(k+1))
  rw [show n+(k+1)=n+1+k by omega]
  exact this
theorem z7ak (t:Tp) (m:Int):Sml (zcpt t m).1 2:=by
 have h0:Sml (cl0 t) 0:=⟨fun x hx=>by simp [cl0,nilG] at hx,by simp [cl0,nilG]⟩
 have hz:=z2s7 (t.adv 1) (n:=2) (by decide)
 have hz0:=z4rs (t.adv 1) 2
 have h1:=zk8v ((tpN (t.adv 1) 2).toNat+1) (cl0 t) (t.adv 2) 0 h0 (by omega)
 exact ⟨h1.1,by have:=h1.2; show (clD t).1.g.l.length≤2; unfold clD; omega⟩
end
section
set_option linter.unusedSimpArgs false
set_option linter.unusedVariables false
set_option maxRecDepth 20000
open Go Go.Am
theorem zpl6 (s:Scn):zbao (scnC s)=true:=by
 simp only [scnC,zbao,zyp8,z1vd,zcha,zm03,znen,z4yh,y0i]
noncomputable def cScn:List DV→Nat→Option (DV × List AObj):=conN (fun _=>True) (fun x:Nl=>[x.dv]) (fun x=>(.tup [.agg (scnC (scnV (tp0 x 300)).1),.mp 1 2 0],[.cells (scnC (scnV (tp0 x 300)).1),.cells (tpC (scnV (tp0 x 300)).2),.cells (scnC (scnV (tp0 x 300)).1)]))
theorem zd92 {x:Nl} {n:Nat}:cScn [x.dv] n=some (.tup [.agg (scnC (scnV (tp0 x 300)).1),.mp (n+1) 2 0],[.cells (scnC (scnV (tp0 x 300)).1),.cells (tpC (scnV (tp0 x 300)).2),.cells (scnC (scnV (tp0 x 300)).1)]):=by
 have:=zqtp (A:=fun _=>True) (f:=fun x:Nl=>[x.dv]) (g:=fun x=>(DV.tup [.agg (scnC (scnV (tp0 x 300)).1),.mp 1 2 0],[AObj.cells (scnC (scnV (tp0 x 300)).1),.cells (tpC (scnV (tp0 x 300)).2),.cells (scnC (scnV (tp0 x 300)).1)])) (fun a b e=>by
  simp only [List.cons.injEq,and_true] at e
  rw [z2kw e]) x trivial n
 rw [cScn,this]
 simp [shD,shO,shL,zj45,zpl6,zs7w,y1h]
theorem zr8u:(Con.new cScn).Sound P 12:=z3ld (fun x _=>by simp [zbao,zkx7]) fun x _=>zv22 mix zqvq Tryz.func12 zqkh (zfog x)
end
section
set_option linter.unusedSimpArgs false
set_option linter.unusedVariables false
set_option maxRecDepth 20000
open Go Go.Am
end
section
set_option linter.unusedSimpArgs false
set_option linter.unusedVariables false
set_option maxRecDepth 20000
open Go Go.Am
def part (k:Int) (l:List Ins):List Ins:=l.filter fun x=>decide (x.grp=k)
section
variable {gs:List (List UInt8 × List UInt8 × Int × Int × Int × List Dg)} {B:Nat} {t:Int}
end
end
section
set_option linter.unusedSimpArgs false
set_option linter.unusedVariables false
set_option maxRecDepth 20000
open Go Go.Am
section
variable {c:Clu} {gr:List Int} {tr:List Tri} {ix:List Ixe} {t:Int} (hv:ValidC c) (hn:c.g.l.length≤3) (hw : ∀ g ∈ c.g.l,g.want≤3) (hi:c.i.l.length≤10) (hx:c.next≤1000000) (ht:zcie t)
end
end
section
set_option linter.unusedSimpArgs false
set_option linter.unusedVariables false
set_option maxRecDepth 20000
open Go Go.Am
theorem znuy (t:Tp) (m:Int) (h0:0≤m) (h1:m≤200):(zcpt t m).1.next≤1000000:=by
 obtain ⟨hc,hg⟩:=zfm1 t
 have m1:=z4rs (clD t).2 (m+1)
 have m2:=z2s7 (clD t).2 (n:=m+1) (by omega)
 have hgl:1≤(clD t).1.g.l.length:=y1e.2 hg
 obtain ⟨-,-,k3,-⟩:=zc7j hgl (tpN (clD t).2 (m+1)).toNat [] (clD t).1.next ((clD t).2.adv 1) hc.n0 ⟨by simp,by simp⟩
 have hn1:=hc.n1
 show (zgc4 (clD t).1.g.l.length (tpN (clD t).2 (m+1)).toNat [] (clD t).1.next ((clD t).2.adv 1)).2.1≤_
 omega
def trSl (l:List Tri) (h:l.length≤100000):Sl Tri:=⟨if l=[] then none else some false,l,fun e=>by
 by_cases q:l=[]
 ·exact q
 ·simp [q] at e,by omega⟩
theorem z3eh {l:List Tri} (h:l.length≤100000):(trSl l h).dv 35 trC=trV l:=by
 unfold trSl trV Sl.dv
 by_cases q:l=[]
 ·simp only [q,if_true]; rfl
 ·simp only [q,if_false]; rfl
structure ScnF (s:Scn) (a:RdA):Prop where
 ok:RdOK a
 c:a.c=s.c
 x0:a.x.at_=0
 x:a.x.e.dv 105 ixC=isV s.x
 tr:a.tr.dv 35 trC=trV s.tr
 gr:a.gr.dv=liV s.gr
 t:a.t=s.t
 v:ValidC a.c
 n:a.c.g.l.length≤3
 w : ∀ g ∈ a.c.g.l,g.want≤3
 i:a.c.i.l.length≤10
 nx:a.c.next≤1000000
 tm:zcie a.t
theorem ztew (u:Tp) (hu:u.at_=0) : ∃ a,ScnF (scnV u).1 a:=by
 obtain ⟨hv,hg⟩:=zlnb u 8 (by decide) (by decide)
 have hn9:=zukg u 8 (by decide) (by decide)
 have hat:=z2ep u 8 (by decide) (by decide)
 have hnx:=znuy u 8 (by decide) (by decide)
 obtain ⟨sw,sn⟩:=z7ak u 8
 obtain ⟨c,hc⟩ : ∃ c,(zcpt u 8).1=c:=⟨_,rfl⟩
 obtain ⟨w,hw⟩ : ∃ w,(zcpt u 8).2=w:=⟨_,rfl⟩
 rw [hc] at hv hg hn9 hnx sw sn
 have hi10:c.i.l.length≤10:=by omega
 have hil:=zjjk (t:=w) (c:=c) (3*c.g.l.length)
 have htl:=zso0 (t:=w.adv (3*c.g.l.length)) (c:=c) (3*c.g.l.length)
 have hts:=(z2rl (t:=w.adv (3*c.g.l.length)) (c:=c) (3*c.g.l.length)).1
 have hixs:=z41v (t:=w) (c:=c) (3*c.g.l.length)
 obtain ⟨w2,hw2⟩ : ∃ w2,(triS (w.adv (3*c.g.l.length)) c (3*c.g.l.length)).1=w2:=⟨_,rfl⟩
 have hgl:=zuov (t:=w2) (n:=c.i.l.length)
 have hz:=z2s7 (w2.adv c.i.l.length) (n:=20) (by decide)
 have hz0:=z4rs (w2.adv c.i.l.length) 20
 have htm:zcie (30+tpN (w2.adv c.i.l.length) 20):=⟨by omega,by omega⟩
 have hsc:(scnV u).1=⟨c,idxL w c (3*c.g.l.length),(triS (w.adv (3*c.g.l.length)) c (3*c.g.l.length)).2,graL w2 c.i.l.length,30+tpN (w2.adv c.i.l.length) 20⟩:=by rw [← hw2,← hc,← hw]; rfl
 rw [hsc]
 have hch:ChOK ⟨0,isS (idxL w c (3*c.g.l.length)) (by omega)⟩ (trSl (triS (w.adv (3*c.g.l.length)) c (3*c.g.l.length)).2 (by omega)):=⟨fun k d=>zc0u hts k d,fun r=>z4xb hixs r⟩
 have hov:OvOK (c,nlO (graL w2 c.i.l.length) (by omega),30+tpN (w2.adv c.i.l.length) 20):=by
  refine ⟨fun x hx => ?_,fun n hn => ?_,(show okT (30+tpN (w2.adv c.i.l.length) 20) from ⟨by omega,by omega⟩)⟩
  ·have hx:x ∈ c.i.l:=hx
   obtain ⟨j,hj,rfl⟩:=y0c hx
   rcases (hv.i j hj).1.de with e|e
   ·rw [e]; exact ⟨by decide,by decide⟩
   ·exact ⟨by have:=e.1; omega,by have:=e.2; omega⟩
  ·have hn:n ∈ graL w2 c.i.l.length:=hn
   have:=z3e0 hn
   exact ⟨by omega,by omega⟩
 exact ⟨⟨c,⟨0,isS (idxL w c (3*c.g.l.length)) (by omega)⟩,trSl (triS (w.adv (3*c.g.l.length)) c (3*c.g.l.length)).2 (by omega),nlO (graL w2 c.i.l.length) (by omega),30+tpN (w2.adv c.i.l.length) 20⟩,zrko hv (by show c.g.l.length≤3; omega) sw hi10 hch hov,rfl,rfl,zz41 (by omega),z3eh (by omega),zigl (by omega),rfl,hv,by show c.g.l.length≤3; omega,sw,hi10,hnx,htm⟩
end
section
set_option linter.unusedSimpArgs false
set_option linter.unusedVariables false
set_option maxRecDepth 20000
open Go Go.Am
instance decRqs:DecidableEq Rqs:=fun a b=>decidable_of_iff (a.ns=b.ns∧a.im=b.im∧a.art=b.art) (by
 obtain ⟨a1,a2,a3⟩:=a
 obtain ⟨b1,b2,b3⟩:=b
 simp)
theorem zkg1 {g:Int} {d:Dg} {x:Tri}:cmpT g d x=0↔x.grp=g∧x.art=d:=by
 unfold cmpT orI
 by_cases e:x.grp=g
 ·rw [if_pos (zybz.2 e),zuux]; simp [e]
 ·rw [if_neg (fun q=>e (zybz.1 q))]
  simp only [e,false_and,iff_false]
  exact fun q=>e (zybz.1 q)
noncomputable def zq2u:Tbl:=addT 75 (.pure zta3) tbl0
theorem z94u:zq2u 75 = .pure zta3:=by simp [zq2u]
theorem zs4r:zq2u.Sound P:=z0rp zp63 zr5o
theorem z9kc (x:Tri):oneC 32 true ((trC x).drop 1)=some (.agg (dgC x.art)):=by
 rw [zst3]; simp only [oneC,if_true]; rw [if_pos (by simp [z1t1]),y15 (z1t1 _)]
def zybp (x:Sl Tri) (g:Int) (d:Dg) (i:Nat):St:=z7h3 (x.dv 35 trC) (.int .i64 g) (.mp 0 32 0) (.int .i64 i) [.cells (dgC d)]
theorem z89k (x:Sl Tri) (g:Int) (d:Dg):Runs zq2u a45 [x.dv 35 trC,.int .i64 g,.agg (dgC d)] (.tup [.int .i64 (kOf (cmpT g d) x.l),.bool (fOf (cmpT g d) x.l)]):=by
 refine ⟨?_⟩
 have hb:=x.b
 have hbd : ∀ h,boxD h (.agg (dgC d))=some (.mp h.length 32 0,h++[.cells (dgC d)]):=fun h=>by rw [zn72,z1t1]
 have hlx : ∀ H,lenD H (x.dv 35 trC)=some (.int .i64 x.l.length):=fun H=>zupj
 simp (disch:=first|omega|simp<;>omega|fail) [-zA,-zB,-zC,-zD,-zE,a45,hbd]
 refine zlm5 (zybp x g d) (fun i=>x.l.length-i) (fun i=>i≤x.l.length ∧ ∀ j (hj:j<x.l.length),j<i→cmpT g d x.l[j]<0) 0 (z515 (by simp (disch:=first|omega|simp<;>omega|fail) [-zA,-zB,-zC,-zD,-zE,zybp,z7h3]) (by simp (disch:=first|omega|simp<;>omega|fail) [-zA,-zB,-zC,-zD,-zE,zybp,z7h3])) ⟨by omega,fun j _ hj=>by omega⟩ (fun i hi => ?_)
 obtain ⟨h1,h2⟩:=hi
 simp only [zybp]
 have hkk:=zgek (c:=cmpT g d) (l:=x.l) h1 (fun m hm hmi=>h2 m hm hmi)
 by_cases h:i<x.l.length
 case neg =>
  have h':¬ (i:Int)<x.l.length:=by omega
  have hk:=hkk (fun q=>absurd q h)
  have hf:=zj9m hk h
  simp (disch:=first|omega|simp<;>omega|fail) [-zA,-zB,-zC,-zD,-zE,zmv1,z7h3,h,h',hlx,hk,hf]
 have h':(i:Int)<x.l.length:=by omega
 have hg : ∀ H,zpsc H 35 (x.dv 35 trC) i=some (.ref (trC x.l[i])):=fun H=>zalo zezj h
 have hlt:=zc02 (g:=g) (d:=d) (x:=x.l[i])
 have h0:=zkg1 (g:=g) (d:=d) (x:=x.l[i])
 have hfo:=fun hk=>zjjt (c:=cmpT g d) (l:=x.l) (i:=i) hk h
 have step:cmpT g d x.l[i]<0 → ∀ j (hj:j<x.l.length),j<i+1→cmpT g d x.l[j]<0:=fun q j hj hji=>by
  by_cases ej:j=i
  ·subst ej; exact q
  ·exact h2 j hj (by omega)
 have hkk:¬ cmpT g d x.l[i]<0→kOf (cmpT g d) x.l=i:=fun q=>hkk (fun _=>q)
 obtain ⟨y,hy⟩ : ∃ y,x.l[i]=y:=⟨_,rfl⟩
 rw [hy] at hg hlt h0 hfo step hkk
 have hls:=z577 (a:=y.art) (b:=d)
 by_cases e1:y.grp<g
 ·simp (disch:=first|omega|simp<;>omega|fail) [-zA,-zB,-zC,-zD,-zE,zmv1,z7h3,h,h',hlx,hg,zezj,z7fr,e1]
  exact ⟨i+1,z515 (by simp (disch:=first|omega|simp<;>omega|fail) [-zA,-zB,-zC,-zD,-zE,zybp,z7h3]) (by simp (disch:=first|omega|simp<;>omega|fail) [-zA,-zB,-zC,-zD,-zE,zybp,z7h3]),by omega,by omega,step (hlt.2 (.inl e1))⟩
 by_cases e2:y.grp=g
 ·cases e3:dgLt y.art d with
  | true =>
   rw [e3] at hls
   simp (disch:=first|omega|simp<;>omega|fail) [-zA,-zB,-zC,-zD,-zE,zmv1,z7h3,h,h',hlx,hg,zezj,z7fr,z9kc,zwwo,z1t1,e1,e2,z94u,hls,z3ot]
   exact ⟨i+1,z515 (by simp (disch:=first|omega|simp<;>omega|fail) [-zA,-zB,-zC,-zD,-zE,zybp,z7h3]) (by simp (disch:=first|omega|simp<;>omega|fail) [-zA,-zB,-zC,-zD,-zE,zybp,z7h3]),by omega,by omega,step (hlt.2 (.inr ⟨e2,e3⟩))⟩
  | false =>
   rw [e3] at hls
   have hn:¬ cmpT g d y<0:=fun q=>by
    rcases hlt.1 q with q|q
    ·exact e1 q
    ·rw [q.2] at e3; cases e3
   have hk:=hkk hn
   have hf:=hfo hk
   have hd:decide (cmpT g d y=0)=decide (y.art=d):=decide_eq_decide.2 (by rw [h0]; simp [e2])
   rw [hd] at hf
   simp (disch:=first|omega|simp<;>omega|fail) [-zA,-zB,-zC,-zD,-zE,zmv1,z7h3,h,h',hlx,hg,zezj,z7fr,z9kc,zwwo,z1t1,e1,e2,z94u,hls,z3ot,hk,hf]
 ·have hn:¬ cmpT g d y<0:=fun q=>by
   rcases hlt.1 q with q|q
   ·exact e1 q
   ·exact e2 q.1
  have hk:=hkk hn
  have hf:=hfo hk
  have hd:decide (cmpT g d y=0)=false:=decide_eq_false fun q=>e2 (h0.1 q).1
  rw [hd] at hf
  simp (disch:=first|omega|simp<;>omega|fail) [-zA,-zB,-zC,-zD,-zE,zmv1,z7h3,h,h',hlx,hg,zezj,z7fr,e1,e2,hk,hf]
noncomputable def cFnd:List DV→Option DV:=con (fun _=>True) (fun a:Sl Tri × Int × Dg=>[a.1.dv 35 trC,.int .i64 a.2.1,.agg (dgC a.2.2)]) (fun a => .tup [.int .i64 (kOf (cmpT a.2.1 a.2.2) a.1.l),.bool (fOf (cmpT a.2.1 a.2.2) a.1.l)])
theorem zfnr {x:Sl Tri} {g:Int} {d:Dg}:cFnd [x.dv 35 trC,.int .i64 g,.agg (dgC d)]=some (.tup [.int .i64 (kOf (cmpT g d) x.l),.bool (fOf (cmpT g d) x.l)]) :=
 zsn4 (f:=fun a:Sl Tri × Int × Dg=>[a.1.dv 35 trC,.int .i64 a.2.1,.agg (dgC a.2.2)]) (g:=fun a => .tup [.int .i64 (kOf (cmpT a.2.1 a.2.2) a.1.l),.bool (fOf (cmpT a.2.1 a.2.2) a.1.l)]) (by
  rintro ⟨a,b,c⟩ ⟨a',b',c'⟩ e
  simp only [List.cons.injEq,DV.agg.injEq,DV.int.injEq,and_true,true_and] at e
  rw [z47i e.1,e.2.1,zib9 e.2.2]) (x,g,d)
theorem zpch:(Con.pure cFnd).Sound P 45:=z2au fun a _=>zljw mix zs4r Tryz.func45 z94d (z89k a.1 a.2.1 a.2.2)
end
section
set_option linter.unusedSimpArgs false
set_option linter.unusedVariables false
set_option maxRecDepth 100000
open Go Go.Am Go.Lib Go.RowKit
theorem zmh2 {P:Program} (w:World) (tS tR e:TypeId) (ht:P.underlying tS=some (.slice e)) (size:Nat) (hz : ∀ w,(Go.sizeOf e).run P w = .ok size w)
  (a b:Addr) (la ca lb cb:Nat) (hne:a.block≠b.block) (tA tB:TypeId) (kA kB:Nat)
  (hsa:w.shape? a.block=some (tA,kA)) (hsb:w.shape? b.block=some (tB,kB)) (hkA:kA≠0) (hkB:kB≠0)
  (hfb:w.frozen? b=false) (hfe:w.frozen? { block:=b.block,off:=kB }=false) :
  (Extern.SlicesOverlaps.overlaps #[tS,tS] #[tR] #[.slice (some a) la ca,.slice (some b) lb cb]).run P w = .ok (.bool false) w:=by
 have hnb:(a.block != b.block)=true:=by simpa using hne
 have hnb':(a.block == b.block)=false:=by simpa using hne
 change Sem.run P (α:=Value) (do
  let some t := (#[tS, tS] : Array TypeId)[0]? | stuck "slices.overlaps: no parameter types"
  let .slice elem ← underlying t | stuck "slices.overlaps: slice type expected"
  let size ← sizeOf elem
  match (some a:Option Addr),(some b:Option Addr) with
  | some a,some b =>
   if la=0∨lb=0∨size=0 then pure (Value.bool false)
   else if a.block != b.block&&(← frozen a)&&(← frozen b) then unsupported .addressObserved
   else do
    if a.block != b.block then do
     noView a; noView b
     if ← mayBeOne a b then return Value.bool ((← choose (.extern "sameAddr.stringBytes" 2)) == 1)
    pure (Value.bool (a.block == b.block&&a.off<b.off+lb*size&&b.off<a.off+la*size))
  | _,_=>pure (Value.bool false)) w=_
 by_cases h0:la=0∨lb=0∨size=0
 ·simp [run_underlying ht,hz,h0]
 ·cases kA with
  | zero=>exact absurd rfl hkA
  | succ kA =>
  cases kB with
  | zero=>exact absurd rfl hkB
  | succ kB =>
   cases hfa:w.frozen? a<;>cases hfa':w.frozen? { block:=a.block,off:=kA+1 }<;>simp [run_underlying ht,hz,h0,hnb,hnb',frozen,noView,viewAt,mayBeOne,stringish,shape,Sem.run,hsa,hsb,hfa,hfb,hfe,hfa']
theorem zbz3 (w:World) (a b:Addr) (la ca lb cb:Nat) (hne:a.block≠b.block) {tA tB:TypeId} {kA kB:Nat}
  (hsa:w.shape? a.block=some (tA,kA)) (hsb:w.shape? b.block=some (tB,kB)) (hkA:kA≠0) (hkB:kB≠0)
  (hfb:w.frozen? b=false) (hfe:w.frozen? { block:=b.block,off:=kB }=false) :
  (callFunc 73 #[.slice (some a) la ca,.slice (some b) lb cb]).run P w = .ok (.value (.bool false)) w:=by
 rw [run_callFunc_extern Tryz.func73 (by kernel_rfl) (by kernel_rfl) (by kernel_rfl) (e:=Extern.SlicesOverlaps.overlaps #[30,30] #[4]) (by kernel_rfl),
  zmh2 w 30 4 69 (by kernel_rfl) 35 (fun w=>zywv (by kernel_rfl) w) a b la ca lb cb hne tA tB kA kB hsa hsb hkA hkB hfb hfe]
 rfl
theorem zl2l {w:World} {b:Nat} {arr:Array Value} {t:TypeId} {fr:Nat × Nat} (h:w.heap[b]? = some (.cells arr t fr)):w.setRow b arr=w:=by
 cases w with
 | mk heap tape drawn os output =>
  simp only [World.setRow,World.mk.injEq,and_true]
  apply Array.ext_getElem?
  intro j
  rw [Array.getElem?_modify]
  split
  ·rename_i e; subst e; simp only at h; rw [h]; rfl
  ·rfl
theorem zv8d {E:Env} {X:Forb} {w:World} : ∀ (vs:List Value) {n:Nat},vs.length=n→RepA E X w vs (List.replicate n .junk):=fun vs n h=>⟨by simp [h],fun i h1 h2=>by simp only [List.getElem_replicate]; exact .junk _⟩
theorem zf9c {X0:Forb} {base:Nat} {w:World} {h:List AObj} {E:Env} (hh:HeapRel X0 base w h E) {id b:Nat} {l:List DV} {arr:Array Value} {t:TypeId} (ho:ziu0 h id=some l) (e1:E[id]? = some (some (b,l.length)))
  (e2:w.heap[b]? = some (.cells arr t (0,0))) (e4:RepA E (FX X0 E) w (arr.toList.take l.length) l) (m:Nat) (hm:l.length+m≤arr.size) :
  HeapRel X0 base w (h.set id (.cells (l++List.replicate m .junk))) (E.set id (some (b,l.length+m)))∧Trans X0 base E w (E.set id (some (b,l.length+m))) w:=by
 have hL:(l++List.replicate m DV.junk).length=l.length+m:=by simp
 have:=zgd1 hh ho e1 e2 (arr':=arr) rfl (l':=l++List.replicate m .junk) (by simp) (by rw [hL]; exact hm) (by
  rw [hL,List.take_add]
  exact e4.append (zv8d _ (by simp; omega)))
 rw [zl2l e2,hL] at this
 exact this
theorem zw1f:(Tryz.f44).ntmps=95:=rfl
end
section
set_option maxRecDepth 100000
set_option linter.unusedSimpArgs false
set_option linter.unusedVariables false
open Go Go.Am Go.Lib Go.RowKit
theorem z2o1 (b n c i:Nat) (va:Addr) (vc:Nat) (w w1 w2:World) (v1 v2:Value) (hi:i<n) (hroom:n+1≤c) (hn:n≤100000)
  (hov : ∀ lb cb,(callFunc 73 #[.slice (some va) 1 vc,.slice (some ⟨b,(i+1)*35,none⟩) lb cb]).run P w = .ok (.value (.bool false)) w)
  (hcp1:(Builtin.copy_ #[30,30] 3 #[.slice (some ⟨b,(i+1)*35,none⟩) (n+1-(i+1)) (c-(i+1)),.slice (some ⟨b,i*35,none⟩) (n+1-i) (c-i)]).run P w.drew = .ok v1 w1)
  (hcp2:(Builtin.copy_ #[30,30] 3 #[.slice (some ⟨b,i*35,none⟩) (n+1-i) (c-i),.slice (some va) 1 vc]).run P w1 = .ok v2 w2) :
  Calls P 44 #[.slice (some ⟨b,0,none⟩) n c,.int .i64 i,.slice (some va) 1 vc] w fun e w' =>
   e = .returned (.slice (some ⟨b,0,none⟩) (n+1) c)∧w'=w2:=by
 have t3:P.underlying 3=some (TypeDesc.int IntKind.i64):=by kernel_rfl
 have a3 : ∀ w,(isAgg 3).run P w = .ok false w:=fun w=>zyr8 (by kernel_rfl) w
 have z3 : ∀ w,(Go.sizeOf 3).run P w = .ok 1 w:=fun w=>zywv (by kernel_rfl) w
 have t4:P.underlying 4=some TypeDesc.bool:=by kernel_rfl
 have a4 : ∀ w,(isAgg 4).run P w = .ok false w:=fun w=>zyr8 (by kernel_rfl) w
 have z4 : ∀ w,(Go.sizeOf 4).run P w = .ok 1 w:=fun w=>zywv (by kernel_rfl) w
 have t9 : ∀ w,(Go.sizeOf 69).run P w = .ok 35 w:=fun w=>zywv (by kernel_rfl) w
 have t24:P.underlying 30=some (TypeDesc.slice 69):=by kernel_rfl
 have a24 : ∀ w,(isAgg 30).run P w = .ok false w:=fun w=>zyr8 (by kernel_rfl) w
 have z24 : ∀ w,(Go.sizeOf 30).run P w = .ok 1 w:=fun w=>zywv (by kernel_rfl) w
 have u3:=run_underlying t3; have u4:=run_underlying t4; have u24:=run_underlying t24
 have mixed:=mix
 have hz2:¬ ((i:Int)=(n:Int)):=by omega
 have hw1:IntKind.i64.wrap ((i:Int)+1)=(i:Int)+1:=by rw [IntKind.wrap_i64]; omega
 have hw2:IntKind.i64.wrap ((n:Int)+1)=(n:Int)+1:=by rw [IntKind.wrap_i64]; omega
 have hb1:(0:Int)≤(i:Int)+1:=by omega
 have hin:i≤n:=by omega
 have htn:((i:Int)+1).toNat=i+1:=by omega
 have htn2:((n:Int)+1).toNat=n+1:=by omega
 have hb2:¬ (c=i+1):=by omega
 have hb3:(i:Int)≤(n:Int)+1:=by omega
 have hb4:¬ (c=i):=by omega
 have hcc:¬ ((c:Int)<(n:Int)+1):=by omega
 go_enter Tryz.func44,zw1f
 go_wp2_with (simp only [hov])
 go_region_law_o (refine step_copy_runI rfl _ _ 30 30 rfl _ _ (by simp [Act.eval,Act.put]) (by simp [Act.eval,Act.put]) hcp1 ?_)
 go_wp2_with (at_builtin; refine wpList_copy_runI _ rfl _ _ 30 30 rfl _ _ rfl rfl hcp2 ?_)
 go_ret
 exact ⟨rfl,rfl⟩
theorem zz06 (b n c i N G:Nat) (va:Addr) (vc:Nat) (w w0 w1 w2:World) (v1 v2:Value) (hi:i<n) (hroom:c<n+1) (hc:n≤c) (hG:n+1≤G) (hn:n≤100000)
  (hap:(Builtin.append_ #[30,3] 30 #[.slice (some ⟨b,0,none⟩) i c,.int .i64 ((n:Int)+1-(i:Int))]).run P w = .ok (.slice (some ⟨N,0,none⟩) (n+1) G) w0)
  (hcp1:(Builtin.copy_ #[30,30] 3 #[.slice (some ⟨N,i*35,none⟩) (n+1-i) (G-i),.slice (some va) 1 vc]).run P w0 = .ok v1 w1)
  (hcp2:(Builtin.copy_ #[30,30] 3 #[.slice (some ⟨N,(i+1)*35,none⟩) (n+1-(i+1)) (G-(i+1)),.slice (some ⟨b,i*35,none⟩) (n-i) (c-i)]).run P w1.drew = .ok v2 w2) :
  Calls P 44 #[.slice (some ⟨b,0,none⟩) n c,.int .i64 i,.slice (some va) 1 vc] w fun e w' =>
   e = .returned (.slice (some ⟨N,0,none⟩) (n+1) G)∧w'=w2:=by
 have t3:P.underlying 3=some (TypeDesc.int IntKind.i64):=by kernel_rfl
 have a3 : ∀ w,(isAgg 3).run P w = .ok false w:=fun w=>zyr8 (by kernel_rfl) w
 have z3 : ∀ w,(Go.sizeOf 3).run P w = .ok 1 w:=fun w=>zywv (by kernel_rfl) w
 have t4:P.underlying 4=some TypeDesc.bool:=by kernel_rfl
 have a4 : ∀ w,(isAgg 4).run P w = .ok false w:=fun w=>zyr8 (by kernel_rfl) w
 have z4 : ∀ w,(Go.sizeOf 4).run P w = .ok 1 w:=fun w=>zywv (by kernel_rfl) w
 have t9 : ∀ w,(Go.sizeOf 69).run P w = .ok 35 w:=fun w=>zywv (by kernel_rfl) w
 have t24:P.underlying 30=some (TypeDesc.slice 69):=by kernel_rfl
 have a24 : ∀ w,(isAgg 30).run P w = .ok false w:=fun w=>zyr8 (by kernel_rfl) w
 have z24 : ∀ w,(Go.sizeOf 30).run P w = .ok 1 w:=fun w=>zywv (by kernel_rfl) w
 have u3:=run_underlying t3; have u4:=run_underlying t4; have u24:=run_underlying t24
 have mixed:=mix
 have hz2:¬ ((i:Int)=(n:Int)):=by omega
 have hz3:(c:Int)<(n:Int)+1:=by omega
 have hGi:¬ (G=i):=by omega
 have hGim:¬ (G=i+1):=by omega
 have hci:¬ (c=i):=by omega
 have hw1:IntKind.i64.wrap ((i:Int)+1)=(i:Int)+1:=by rw [IntKind.wrap_i64]; omega
 have hw2:IntKind.i64.wrap ((n:Int)+1)=(n:Int)+1:=by rw [IntKind.wrap_i64]; omega
 have hw3:IntKind.i64.wrap ((n:Int)+1-(i:Int))=(n:Int)+1-(i:Int):=by rw [IntKind.wrap_i64]; omega
 have hb1:(0:Int)≤(i:Int)+1:=by omega
 have hin:i≤n:=by omega
 have hic:(i:Int)≤(c:Int):=by omega
 have hic':i≤c:=by omega
 have hin1:i≤n+1:=by omega
 have htn:((i:Int)+1).toNat=i+1:=by omega
 have htn2:((n:Int)+1).toNat=n+1:=by omega
 have hb3:(i:Int)≤(n:Int):=by omega
 have hb4:(i:Int)≤(n:Int)+1:=by omega
 go_enter Tryz.func44,zw1f
 go_wp2_with (first
  | (at_builtin; refine Lib.wpList_append_run _ rfl _ _ _ _ rfl _ _ rfl rfl _ _ hap ?_)
  | (at_builtin; refine wpList_copy_runI _ rfl _ _ 30 30 rfl _ _ rfl rfl hcp1 ?_))
 go_region_law_o (refine step_copy_runI rfl _ _ 30 30 rfl (.slice (some ⟨N,(i+1)*35,none⟩) (n+1-(i+1)) (G-(i+1))) (.slice (some ⟨b,i*35,none⟩) (n-i) (c-i)) (by simp [Act.eval,Act.put]) (by simp [Act.eval,Act.put]) hcp2 ?_)
 go_wp2
 go_ret
 exact ⟨rfl,rfl⟩
end
section
set_option maxRecDepth 100000
set_option linter.unusedSimpArgs false
set_option linter.unusedVariables false
open Go Go.Am Go.Lib Go.RowKit
theorem z0ib {α:Type} (A B:List α) {n:Nat} (h:A.length=n):(A++B).drop n=B:=by subst h; simp
theorem zf54 {α:Type} (A B:List α) {n:Nat} (h:A.length=n):(A++B).take n=A:=by subst h; simp
theorem zonn {l xs J:List DV} {n i:Nat} (hl:l.length=n*35) (hx:xs.length=35) (hJ:J.length=35) (hi:i<n) :
  zk7y (zk7y (l++J) ((i+1)*35) (l.drop (i*35))) (i*35) xs=l.take (i*35)++xs++l.drop (i*35):=by
 have ha:(l.take (i*35)).length=i*35:=by rw [y07]; omega
 have hb:(l.drop (i*35)).length=(n-i)*35:=by rw [y08]; omega
 have hs:l=l.take (i*35)++l.drop (i*35):=(List.take_append_drop _ _).symm
 obtain ⟨A,hA⟩ : ∃ A,l.take (i*35)=A:=⟨_,rfl⟩
 obtain ⟨B,hB⟩ : ∃ B,l.drop (i*35)=B:=⟨_,rfl⟩
 rw [hA] at ha hs ⊢
 rw [hB] at hb hs ⊢
 have hin:zk7y (l++J) ((i+1)*35) B=(l++J).take ((i+1)*35)++B:=by
  unfold zk7y
  rw [y0f (by rw [y03,hl,hb,hJ]; omega),y0r]
 rw [hin]
 unfold zk7y
 have hT:((l++J).take ((i+1)*35)).length=(i+1)*35:=by rw [y07,y03,hl,hJ]; omega
 rw [z0ib _ _ (by rw [hT,hx]; omega),List.take_append_of_le_length (by omega),y0u,show min (i*35) ((i+1)*35)=i*35 by omega,hs,List.append_assoc A B J,zf54 A _ ha]
theorem zhvw {h:List AObj} {id:Nat} {l l':List DV} (ho:ziu0 h id=some l):ziu0 (h.set id (.cells l')) id=some l':=by
 have hlt:=z7ba ho
 unfold ziu0
 rw [y0a hlt]
theorem set_set {h:List AObj} {id:Nat} {a b:AObj}:(h.set id a).set id b=h.set id b:=List.set_set _
theorem zkbf {p:DV→Bool} {l:List DV} (h:l.all p=true) (n:Nat):(l.drop n).all p=true:=List.all_eq_true.2 fun x hx=>List.all_eq_true.1 h x (List.mem_of_mem_drop hx)
def InsQ (X0:Forb) (base:Nat) (w:World) (h:List AObj) (E:Env) (id n:Nat) (l':List DV) (e:Ending) (w':World):Prop :=
 ∃ v r h' E',e = .returned v∧(r = .ms id ((n+1)*35) 0 35 (n+1) ((n+1)*35)∧h'=h.set id (.cells l'))∧HeapRel X0 base w' h' E'∧Rep E' (FX X0 E') w' v r∧Trans X0 base E w E' w'
theorem z68q {X0:Forb} {base:Nat} {w:World} {h:List AObj} {E:Env} (hh:HeapRel X0 base w h E) {id n i:Nat} {l xs:List DV} (ho:ziu0 h id=some l) (hl:l.length=n*35) (hi:i<n) (hn:n≤100000)
  {b:Nat} {arr:Array Value} {ty:TypeId} {cap:Nat} (e1:E[id]? = some (some (b,l.length))) (e2:w.heap[b]? = some (.cells arr ty (0,0))) (e4:RepA E (FX X0 E) w (arr.toList.take l.length) l) (e3:cap*35≤arr.size) (hcap:n+1≤cap)
  {va:Addr} {vc:Nat} (hv:Rep E (FX X0 E) w (.slice (some va) 1 vc) (.sl true 35 1 xs)) (hx:xs.length=35) (h1l:l.all DV.one=true) (h1x:xs.all DV.one=true) :
  Calls P 44 #[.slice (some ⟨b,0,none⟩) n cap,.int .i64 i,.slice (some va) 1 vc] w (InsQ X0 base w h E id n (l.take (i*35)++xs++l.drop (i*35))):=by
 have hJ:(List.replicate 35 DV.junk).length=35:=y1b
 obtain ⟨hh1,tr1⟩:=zf9c hh ho e1 e2 e4 35 (by omega)
 obtain ⟨J,hJe⟩ : ∃ J,List.replicate 35 DV.junk=J:=⟨_,rfl⟩
 rw [hJe] at hh1 hJ
 obtain ⟨E1,hE1⟩ : ∃ E1,E.set id (some (b,l.length+35))=E1:=⟨_,rfl⟩
 rw [hE1] at hh1 tr1
 have hL:(l++J).length=(n+1)*35:=by rw [y03,hl,hJ]; omega
 have g1:E1[id]? = some (some (b,(n+1)*35)):=by
  rw [← hE1,y0a (y0w.1 e1).1,hl,Nat.add_mul,Nat.one_mul]
 have o1:ziu0 (h.set id (.cells (l++J))) id=some (l++J):=zhvw ho
 have rd:Rep E1 (FX X0 E1) w (.slice (some ⟨b,(i+1)*35,none⟩) (n+1-(i+1)) (cap-(i+1))) (.ms id ((n+1)*35) ((i+1)*35) 35 (n+1-(i+1)) 0) :=
  z6v0 g1 rfl e2 (by omega) (by omega) (fun _=>rfl) (by omega) (by omega)
 have rs:Rep E1 (FX X0 E1) w (.slice (some ⟨b,i*35,none⟩) (n+1-i) (cap-i)) (.ms id ((n+1)*35) (i*35) 35 (n+1-i) 0) :=
  z6v0 g1 rfl e2 (by omega) (by omega) (fun _=>rfl) (by omega) (by omega)
 have r0:Rep E1 (FX X0 E1) w (.slice (some ⟨b,0,none⟩) (n+1) cap) (.ms id ((n+1)*35) 0 35 (n+1) ((n+1)*35)) :=
  z6v0 g1 rfl e2 (by omega) (by omega) (fun _=>rfl) (by omega) (by omega)
 have rv:=tr1.rep hv
 have td:=zjji X0 base E1 w
 have tS:P.underlying 30=some (TypeDesc.slice 69):=by kernel_rfl
 have sS:szT P 69=some 35:=by kernel_rfl
 have hcs:(((l++J).drop (i*35)).take ((n+1-i)*35)).take (min (n+1-i) (n+1-(i+1))*35)=l.drop (i*35):=by
  rw [y0u,show min (min (n+1-i) (n+1-(i+1))*35) ((n+1-i)*35)=(n-i)*35 by omega,List.drop_append_of_le_length (by omega),zf54 _ _ (by rw [y08]; omega)]
 obtain ⟨v1,w1,E2,p1,p2,_,p4⟩:=zjpz hh1.drew tS sS (td.rep rd) (td.rep rs) (m:=n+1-i) (cs:=((l++J).drop (i*35)).take ((n+1-i)*35)) (by simp only [visY,visS,o1,y0j,hL,if_true]) o1 hL
  (by rw [hcs]; exact zkbf h1l _) (by rw [y07,y08,hL]; omega) (by omega) (fun ⟨_,h⟩=>by cases h) (u:=30) 3
 rw [hcs] at p2
 have o2:ziu0 ((h.set id (.cells (l++J))).set id (.cells (zk7y (l++J) ((i+1)*35) (l.drop (i*35))))) id=some (zk7y (l++J) ((i+1)*35) (l.drop (i*35))):=zhvw o1
 have hL2:(zk7y (l++J) ((i+1)*35) (l.drop (i*35))).length=(n+1)*35:=by rw [zb3x _ _ _ (by rw [y08,hL]; omega),hL]
 have hcx:xs.take (min 1 (n+1-i)*35)=xs:=y02 (by omega)
 obtain ⟨v2,w2,E3,q1,q2,_,q4⟩:=zjpz p2 tS sS (p4.rep (td.rep rs)) (p4.rep (td.rep rv)) (m:=1) (cs:=xs) rfl o2 hL2 (by rw [hcx]; exact h1x) (by omega) (by omega) (fun ⟨_,h⟩=>by cases h) (u:=30) 3
 rw [hcx,zonn hl hx hJ hi,set_set,set_set] at q2
 have hXb:va.block≠b:=by
  obtain ⟨a,c,vs,ea,_,_,_,hR,_,hX⟩:=ztqf hv
  cases ea
  exact fun e=>hX 0 (by omega) (.inr ⟨id,l.length,by rw [e]; exact e1⟩)
 have hva : ∃ tA kA,w.shape? va.block=some (tA,kA)∧kA≠0:=by
  obtain ⟨a,c,vs,ea,_,_,_,hR,hc,_⟩:=ztqf hv
  cases ea
  have hvs:=hR.1
  obtain ⟨u,hu⟩ : ∃ u,vs[0]? = some u:=⟨_,y01 (by omega)⟩
  have:=hc 0 u hu
  unfold World.cell? at this
  rw [z1lx] at this
  split at this
  ·rename_i arr' tA _ he
   refine ⟨tA,arr'.size,by unfold World.shape?; rw [he],?_⟩
   split at this
   ·cases this
   ·intro e
    have:=(Array.getElem?_eq_some_iff.1 this).1
    omega
  ·cases this
 obtain ⟨tA,kA,hsA,hkA⟩:=hva
 have hsB:w.shape? b=some (ty,arr.size):=by unfold World.shape?; rw [e2]
 have hfB : ∀ o,w.frozen? ⟨b,o,none⟩=false:=fun o=>by unfold World.frozen?; simp only [e2]; simp
 have hov : ∀ lb cb,(callFunc 73 #[.slice (some va) 1 vc,.slice (some ⟨b,(i+1)*35,none⟩) lb cb]).run P w = .ok (.value (.bool false)) w:=fun lb cb =>
  zbz3 w va ⟨b,(i+1)*35,none⟩ 1 vc lb cb hXb hsA hsB hkA (by omega) (hfB _) (hfB _)
 refine (z2o1 b n cap i va vc w w1 w2 v1 v2 hi hcap hn hov p1 q1).mono fun e w' ⟨ee,ew⟩ => ?_
 subst ee ew
 exact ⟨_,_,_,_,rfl,⟨rfl,rfl⟩,q2,q4.rep (p4.rep (td.rep r0)),((tr1.trans td).trans p4).trans q4⟩
end
section
set_option maxRecDepth 100000
set_option linter.unusedSimpArgs false
set_option linter.unusedVariables false
open Go Go.Am Go.Lib Go.RowKit
section
variable {X0:Forb} {base:Nat} {w:World} {h:List AObj} {E:Env}
theorem zl7z (hh:HeapRel X0 base w h E):HeapRel X0 base w (h++[.dead]) (E++[none])∧Trans X0 base E w (E++[none]) w:=by
 have hl:=hh.len
 have get : ∀ {j b L:Nat},(E++[none])[j]? = some (some (b,L))→E[j]? = some (some (b,L)):=fun {j b L} q=>by
  by_cases hj:j<E.length
  ·rwa [y00 hj] at q
  ·rw [y05 (by omega)] at q
   cases e:j-E.length with
   | zero=>rw [e] at q; simp at q
   | succ k=>rw [e] at q; simp at q
 have hfx : ∀ {b o},FX X0 (E++[none]) b o→FX X0 E b o:=by
  rintro b o (q|⟨j,L,q⟩)
  ·exact .inl q
  ·exact .inr ⟨j,L,get q⟩
 have tr:Trans X0 base E w (E++[none]) w:=⟨⟨by simp,fun j hj b L q=>⟨b,L,get q,y04 _,fun _=>⟨rfl,fun c t fr q=>⟨c,t,fr,q,rfl⟩⟩⟩⟩,⟨fun a v q hx=>⟨q,fun k=>hx (hfx k)⟩⟩,.refl _ _,.refl _,fun b hb q=>⟨rfl,fun j L k=>q j L (get k)⟩⟩
 refine ⟨⟨by simp [hl],fun b o q=>⟨(hh.x0 b o q).1,fun j L k=>(hh.x0 b o q).2 j L (get k)⟩,hh.size,fun j cs q => ?_,fun j q => ?_,fun j j' b L b' L' hne q k=>hh.apart _ _ _ _ _ _ hne (get q) (get k)⟩,tr⟩
 ·by_cases hj:j<h.length
  ·rw [y00 hj] at q
   obtain ⟨b,arr,t,k1,k2,k3,k4,k5⟩:=hh.cells j cs q
   exact ⟨b,arr,t,by rw [y00 (by omega)]; exact k1,k2,k3,k4,fun i h1 h2=>tr.rep (k5 i h1 h2)⟩
  ·rw [y05 (by omega)] at q
   cases e:j-h.length with
   | zero=>rw [e] at q; simp at q
   | succ k=>rw [e] at q; simp at q
 ·by_cases hj:j<h.length
  ·rw [y00 hj] at q
   rw [y00 (by omega)]
   exact hh.dead j q
  ·rw [y05 (by omega)] at q ⊢
   rw [hl]
   cases e:j-h.length with
   | zero=>rfl
   | succ k=>rw [e] at q; simp at q
theorem zlnw {l l':List DV} {id:Nat} (hh:HeapRel X0 base w (h++[.cells l']) E) (ho:ziu0 h id=some l) (hlt:l.length<l'.length) :
  ∃ E',HeapRel X0 base w (h.set id (.cells l')++[.dead]) E'∧Trans X0 base E w E' w∧E'[id]? = E[h.length]? := by
 have hl:E.length=h.length+1:=by rw [hh.len]; simp
 have hid:id<h.length:=z7ba ho
 obtain ⟨b,arr,t,k1,k2,k3,k4,k5⟩:=hh.cells h.length l' (by simp)
 obtain ⟨c,arr',t',m1,m2,m3,m4,m5⟩:=hh.cells id l (by rw [y00 hid]; exact zr1z ho)
 obtain ⟨E',hE⟩ : ∃ E',(E.set id (some (b,l'.length))).set h.length none=E':=⟨_,rfl⟩
 have hid':E'[id]? = some (some (b,l'.length)):=by rw [← hE,y0h (by omega),y0a (by omega)]
 have hN:E'[h.length]? = some none:=by rw [← hE,y0a (by simp; omega)]
 have hne : ∀ {j:Nat},j≠id→j≠h.length→E'[j]? = E[j]? := fun {j} a b=>by rw [← hE,y0h (by omega),y0h (by omega)]
 have get : ∀ {j x L:Nat},E'[j]? = some (some (x,L))→(j=id∧x=b∧L=l'.length)∨(j≠id∧j≠h.length∧E[j]? = some (some (x,L))):=fun {j x L} q=>by
  by_cases a:j=id
  ·subst a; rw [hid'] at q; simp at q; exact .inl ⟨rfl,q.1.symm,q.2.symm⟩
  ·by_cases a':j=h.length
   ·subst a'; rw [hN] at q; simp at q
   ·exact .inr ⟨a,a',by rw [← hne a a']; exact q⟩
 have blk : ∀ {j x L:Nat},E'[j]? = some (some (x,L)) → ∃ j' L',E[j']? = some (some (x,L')):=fun {j x L} q=>by
  rcases get q with ⟨_,rfl,_⟩|⟨_,_,q⟩
  ·exact ⟨_,_,k1⟩
  ·exact ⟨_,_,q⟩
 have hfx : ∀ {x o},FX X0 E' x o→FX X0 E x o:=by
  rintro x o (q|⟨j,L,q⟩)
  ·exact .inl q
  ·obtain ⟨j',L',q⟩:=blk q
   exact .inr ⟨j',L',q⟩
 have tr:Trans X0 base E w E' w:=by
  refine ⟨⟨by rw [← hE]; simp,fun j hj x L q => ?_⟩,⟨fun a v q hx=>⟨q,fun k=>hx (hfx k)⟩⟩,.refl _ _,.refl _,fun x hx q=>⟨rfl,fun j L k => ?_⟩⟩
  ·rcases get q with ⟨rfl,rfl,rfl⟩|⟨_,_,q⟩
   ·exact ⟨c,l.length,m1,by omega,fun e=>by omega⟩
   ·exact ⟨x,L,q,y04 _,fun _=>⟨rfl,fun c t fr q=>⟨c,t,fr,q,rfl⟩⟩⟩
  ·obtain ⟨j',L',k⟩:=blk k
   exact q j' L' k
 refine ⟨E',⟨by rw [← hE]; simp [hl],fun x o q=>⟨(hh.x0 x o q).1,fun j L k => ?_⟩,hh.size,fun j cs q => ?_,fun j q => ?_,fun j j' x L x' L' hd q k => ?_⟩,tr,by rw [hid',k1]⟩
 ·obtain ⟨j',L',k⟩:=blk k
  exact (hh.x0 x o q).2 j' L' k
 ·by_cases a:j=id
  ·subst a
   rw [y00 (by simpa using hid),y0a hid] at q
   simp at q; subst q
   exact ⟨b,arr,t,hid',k2,k3,k4,fun i h1 h2=>tr.rep (k5 i h1 h2)⟩
  ·by_cases a':j<h.length
   ·rw [y00 (by simpa using a'),y0h (by omega)] at q
    obtain ⟨x,ar,ty,q1,q2,q3,q4,q5⟩:=hh.cells j cs (by rw [y00 a']; exact q)
    exact ⟨x,ar,ty,by rw [hne a (by omega)]; exact q1,q2,q3,q4,fun i h1 h2=>tr.rep (q5 i h1 h2)⟩
   ·rw [y05 (by simp; omega)] at q
    cases e:j-(h.set id (.cells l')).length with
    | zero=>rw [e] at q; simp at q
    | succ k=>rw [e] at q; simp at q
 ·by_cases a:j=id
  ·subst a
   rw [y00 (by simpa using hid),y0a hid] at q
   simp at q
  ·by_cases a':j<h.length
   ·rw [y00 (by simpa using a'),y0h (by omega)] at q
    rw [hne a (by omega)]
    exact hh.dead j (by rw [y00 a']; exact q)
   ·rw [y05 (by simp; omega)] at q
    cases e:j-(h.set id (.cells l')).length with
    | zero =>
     simp at e
     have:j=h.length:=by omega
     subst this; exact hN
    | succ k=>rw [e] at q; simp at q
 ·rcases get q with ⟨r1,r2,_⟩|⟨r1,r2,r3⟩<;>rcases get k with ⟨s1,s2,_⟩|⟨s1,s2,s3⟩
  ·exact absurd (r1.trans s1.symm) hd
  ·rw [r2]; exact hh.apart _ _ _ _ _ _ (Ne.symm s2) k1 s3
  ·rw [s2]; exact hh.apart _ _ _ _ _ _ r2 r3 k1
  ·exact hh.apart _ _ _ _ _ _ hd r3 s3
end
end
section
set_option maxRecDepth 100000
set_option linter.unusedSimpArgs false
set_option linter.unusedVariables false
open Go Go.Am Go.Lib Go.RowKit
theorem zftk {l xs J:List DV} {n i:Nat} (hl:l.length=n*35) (hx:xs.length=35) (hJ:J.length=(n+1-i)*35) (hi:i<n) :
  zk7y (zk7y (l.take (i*35)++J) (i*35) xs) ((i+1)*35) (l.drop (i*35))=l.take (i*35)++xs++l.drop (i*35):=by
 have ha:(l.take (i*35)).length=i*35:=by rw [y07]; omega
 have hb:(l.drop (i*35)).length=(n-i)*35:=by rw [y08]; omega
 obtain ⟨A,hA⟩ : ∃ A,l.take (i*35)=A:=⟨_,rfl⟩
 obtain ⟨B,hB⟩ : ∃ B,l.drop (i*35)=B:=⟨_,rfl⟩
 rw [hA] at ha ⊢
 rw [hB] at hb ⊢
 have h1:zk7y (A++J) (i*35) xs=(A++xs)++J.drop 35:=by
  unfold zk7y
  rw [zf54 _ _ ha,y0y,y0f (by omega),y13]
  congr 2
  omega
 rw [h1]
 unfold zk7y
 rw [zf54 _ _ (by rw [y03]; omega),y0f (by simp only [y03,y08]; omega),y0r]
theorem zull {X0:Forb} {base:Nat} {w:World} {h:List AObj} {E:Env} (hh:HeapRel X0 base w h E) {id n i:Nat} {l xs:List DV} (ho:ziu0 h id=some l) (hl:l.length=n*35) (hi:i<n) (hn:n≤100000)
  {b:Nat} {arr:Array Value} {ty:TypeId} {cap:Nat} (e1:E[id]? = some (some (b,l.length))) (e2:w.heap[b]? = some (.cells arr ty (0,0))) (e4:RepA E (FX X0 E) w (arr.toList.take l.length) l) (e3:cap*35≤arr.size) (hc:n≤cap) (hcap:cap<n+1)
  {va:Addr} {vc:Nat} (hv:Rep E (FX X0 E) w (.slice (some va) 1 vc) (.sl true 35 1 xs)) (hx:xs.length=35) (h1l:l.all DV.one=true) (h1x:xs.all DV.one=true) :
  Calls P 44 #[.slice (some ⟨b,0,none⟩) n cap,.int .i64 i,.slice (some va) 1 vc] w (fun e w' =>
   ∃ v r h' E',e = .returned v∧(r = .ms id ((n+1)*35) 0 35 (n+1) ((n+1)*35)∧h'=h.set id (.cells (l.take (i*35)++xs++l.drop (i*35)))++[.dead])∧HeapRel X0 base w' h' E'∧Rep E' (FX X0 E') w' v r∧Trans X0 base E w E' w'):=by
 have tS:P.underlying 30=some (TypeDesc.slice 69):=by kernel_rfl
 have tI:P.underlying 3=some (TypeDesc.int IntKind.i64):=by kernel_rfl
 have sS:szT P 69=some 35:=by kernel_rfl
 obtain ⟨i0,hi0,hzs⟩:=y0n.1 (show (P.info? 69).map (·.size)=some 35 from sS)
 have hbb:(P.info? 69).map (fun i=>decide (i.bytes≤1000))=some true:=by kernel_rfl
 have hzz:(P.info? 69).map (fun i=>(i.zero.map (·.cells.size)))=some (some 35):=by kernel_rfl
 rw [hi0] at hbb hzz
 simp only [y12,Option.some.injEq,decide_eq_true_eq] at hbb hzz
 obtain ⟨z,hz0,hz1⟩:=y0n.1 hzz
 have hal:(arr.toList.take (i*35)).length=i*35:=by rw [y07,Array.length_toList]; omega
 have hold:(Builtin.firstCells i0.size i (.slice (some ⟨b,0,none⟩) i cap)).run P w.drew = .ok (arr.toList.take (i*35)).toArray w.drew:=by
  rw [hzs]
  exact run_firstCells_some w.drew 35 i ⟨b,0,none⟩ i cap _ hal (fun j v hj=>by
   rw [z689,Nat.zero_add,z4jt (w:=w.drew) (by exact e2)]
   rw [List.getElem?_take] at hj
   split at hj
   ·simpa using hj
   ·cases hj)
 have hik:i+(n+1-i)=n+1:=by omega
 have hap:=run_append_grow_zeros w 30 3 30 69 i0 z .i64 .i64 tS tI hi0 hz0 (some ⟨b,0,none⟩) i cap _ hold (n+1-i) (by omega) (by omega) (by omega) (by omega)
  (Nat.le_trans (Nat.mul_le_mul (show n+1-i≤100001 by omega) hbb) (by omega)) (growslice_fits (by omega) (Nat.le_trans (Nat.mul_le_mul (show i+(n+1-i)≤100001 by omega) hbb) (by omega)))
 rw [hik] at hap
 obtain ⟨G,hG⟩ : ∃ G,grownCap w (n+1) cap 69=G:=⟨_,rfl⟩
 have hGn:n+1≤G:=by rw [← hG]; exact grownCap_ge w _ _ _
 rw [hG] at hap
 obtain ⟨M1,hM1⟩ : ∃ M1,(Builtin.zeroCells z.cells (n+1-i)).toList=M1:=⟨_,rfl⟩
 obtain ⟨M2,hM2⟩ : ∃ M2,(Builtin.zeroCells z.cells (G-(n+1))).toList=M2:=⟨_,rfl⟩
 have hM1l:M1.length=(n+1-i)*35:=by rw [← hM1,Array.length_toList,size_zeroCells,hz1]
 have hM2l:M2.length=(G-(n+1))*35:=by rw [← hM2,Array.length_toList,size_zeroCells,hz1]
 have harr:(arr.toList.take (i*35)).toArray++Builtin.zeroCells z.cells (n+1-i)++Builtin.zeroCells z.cells (G-(n+1))=((arr.toList.take (i*35)++M1)++M2).toArray:=by
  rw [← hM1,← hM2]; apply Array.ext'; simp
 rw [harr] at hap
 have hRo:RepA E (FX X0 E) w (arr.toList.take (i*35)) (l.take (i*35)):=by
  have:=e4.take (i*35)
  rwa [y0u,show min (i*35) l.length=i*35 by omega] at this
 have td:=zjji X0 base E w
 obtain ⟨J,hJ⟩ : ∃ J,List.replicate ((n+1-i)*35) DV.junk=J:=⟨_,rfl⟩
 have hJl:J.length=(n+1-i)*35:=by rw [← hJ]; exact y1b
 have hRR:RepA E (FX X0 E) w.drew (arr.toList.take (i*35)++M1) (l.take (i*35)++J):=(hRo.mono td.env td.keep).append (by rw [← hJ]; exact zv8d _ hM1l)
 obtain ⟨hh0,tr0⟩:=zkum hh.drew hRR M2 69
 have hCl:(l.take (i*35)++J).length=(n+1)*35:=by rw [y03,hJl,y07]; omega
 have hEl:=hh.len
 obtain ⟨N,hN⟩ : ∃ N,w.heap.size=N:=⟨_,rfl⟩
 have hN':w.drew.heap.size=N:=hN
 rw [hCl,hN'] at hh0 tr0
 rw [hN] at hap
 have hAl:(arr.toList.take (i*35)++M1++M2).toArray.size=G*35:=by
  rw [List.size_toArray,y03,y03,hal,hM1l,hM2l]; omega
 obtain ⟨w0,hw0⟩ : ∃ w0,w.drew.alloc (.cells (arr.toList.take (i*35)++M1++M2).toArray 69)=w0:=⟨_,rfl⟩
 have hb0:w0.heap[N]? = some (.cells (arr.toList.take (i*35)++M1++M2).toArray 69 (0,0)):=by
  rw [← hw0,← hN']; exact heap_alloc_new w.drew _
 rw [hw0] at hh0 tr0 hap
 obtain ⟨E0,hE0⟩ : ∃ E0,E++[some (N,(n+1)*35)]=E0:=⟨_,rfl⟩
 rw [hE0] at hh0 tr0
 have g0:E0[h.length]? = some (some (N,(n+1)*35)):=by rw [← hE0,y05 (by omega),hEl,y0m]; rfl
 have t0:=td.trans tr0
 have oN:ziu0 (h++[.cells (l.take (i*35)++J)]) h.length=some (l.take (i*35)++J):=by unfold ziu0; simp
 have hid:=z7ba ho
 have oI : ∀ x,ziu0 (h++[x]) id=some l:=fun x=>by rw [z7ko (by omega)]; exact ho
 have ra:Rep E0 (FX X0 E0) w0 (.slice (some ⟨N,i*35,none⟩) (n+1-i) (G-i)) (.ms h.length ((n+1)*35) (i*35) 35 (n+1-i) 0) :=
  z6v0 g0 rfl hb0 (by omega) (by omega) (fun _=>rfl) (by omega) (by rw [hAl]; omega)
 have rb:Rep E0 (FX X0 E0) w0 (.slice (some ⟨N,(i+1)*35,none⟩) (n+1-(i+1)) (G-(i+1))) (.ms h.length ((n+1)*35) ((i+1)*35) 35 (n+1-(i+1)) 0) :=
  z6v0 g0 rfl hb0 (by omega) (by omega) (fun _=>rfl) (by omega) (by rw [hAl]; omega)
 have r0:Rep E0 (FX X0 E0) w0 (.slice (some ⟨N,0,none⟩) (n+1) G) (.ms h.length ((n+1)*35) 0 35 (n+1) 0) :=
  z6v0 g0 rfl hb0 (by omega) (by omega) (fun _=>rfl) (by omega) (by rw [hAl]; omega)
 have rs:Rep E (FX X0 E) w (.slice (some ⟨b,i*35,none⟩) (n-i) (cap-i)) (.ms id l.length (i*35) 35 (n-i) 0) :=
  z6v0 e1 rfl e2 (by omega) (by omega) (fun _=>rfl) (by omega) (by omega)
 have hcx:xs.take (min 1 (n+1-i)*35)=xs:=y02 (by omega)
 obtain ⟨v1,w1,E1,p1,p2,_,p4⟩:=zjpz hh0 tS sS ra (t0.rep hv) (m:=1) (cs:=xs) rfl oN hCl (by rw [hcx]; exact h1x) (by omega) (by omega) (fun ⟨_,h⟩=>by cases h) (u:=30) 3
 rw [hcx,y0b _ _ (by omega),y0m,List.set_cons_zero] at p2
 have hC1:(zk7y (l.take (i*35)++J) (i*35) xs).length=(n+1)*35:=by rw [zb3x _ _ _ (by omega),hCl]
 have o1:ziu0 (h++[.cells (zk7y (l.take (i*35)++J) (i*35) xs)]) h.length=some (zk7y (l.take (i*35)++J) (i*35) xs):=by unfold ziu0; simp
 have t1:=p4.trans (zjji X0 base E1 w1)
 have hcs:((l.drop (i*35)).take ((n-i)*35)).take (min (n-i) (n+1-(i+1))*35)=l.drop (i*35):=by
  rw [y0u,y02 (by rw [y08]; omega)]
 obtain ⟨v2,w2,E2,q1,q2,_,q4⟩:=zjpz p2.drew tS sS (t1.rep rb) (t1.rep (t0.rep rs)) (m:=n-i) (cs:=(l.drop (i*35)).take ((n-i)*35)) (by simp only [visY,visS,oI,y0j,if_true]) o1 hC1
  (by rw [hcs]; exact zkbf h1l _) (by rw [y07,y08]; omega) (by omega) (fun ⟨_,h⟩=>by cases h) (u:=30) 3
 rw [hcs,y0b _ _ (by omega),y0m,List.set_cons_zero,zftk hl hx hJl hi] at q2
 have hLl:(l.take (i*35)++xs++l.drop (i*35)).length=(n+1)*35:=by simp only [y03,y07,y08]; omega
 obtain ⟨E3,s1,s2,s3⟩:=zlnw q2 ho (by omega)
 have rr:=s2.rep (q4.rep (t1.rep r0))
 have oF:ziu0 (h.set id (.cells (l.take (i*35)++xs++l.drop (i*35)))++[.dead]) id=some (l.take (i*35)++xs++l.drop (i*35)):=by
  rw [z7ko (by simp; omega)]; exact zhvw ho
 have oL:ziu0 (h++[.cells (l.take (i*35)++xs++l.drop (i*35))]) h.length=some (l.take (i*35)++xs++l.drop (i*35)):=by unfold ziu0; simp
 obtain ⟨bb,ar,tt,cc,aa,k1,k2,k3,k4,k5,k6,k7,k8,k9,k10⟩:=zuh1 q2 (q4.rep (t1.rep r0)) oL hLl
 cases k5
 refine (zz06 b n cap i N G va vc w w0 w1 w2 v1 v2 hi hcap hc hGn hn ?_ p1 q1).mono fun e w' ⟨ee,ew⟩ => ?_
 ·rw [show (n:Int)+1-(i:Int)=((n+1-i:Nat):Int) by omega]
  exact hap
 subst ee ew
 refine ⟨_,_,_,_,rfl,⟨rfl,rfl⟩,s1,?_,((t0.trans t1).trans q4).trans s2⟩
 rw [hLl] at k1
 exact z6v0 (s3.trans k1) rfl k2 (by omega) (by omega) (fun hp=>k8 hp) (by omega) (by omega)
theorem zfge {h:List AObj} {id n i lim:Nat} {l xs:List DV} (ho:ziu0 h id=some l) (hl:l.length=n*35) (hi:i<n) (hn:n≤100000) (hx:xs.length=35) (h1l:l.all DV.one=true) (h1x:xs.all DV.one=true) :
  zwy1 P 44 [.ms id (n*35) 0 35 n lim,.int .i64 i,.sl true 35 1 xs] h
   (fun d k=>d = .ms id ((n+1)*35) 0 35 (n+1) ((n+1)*35)∧k=h.set id (.cells (l.take (i*35)++xs++l.drop (i*35)))++[.dead]):=by
 intro X0 base w E vs hh hr
 have hlen:=hr.1
 obtain ⟨v0,v1,v2,hvs⟩ : ∃ v0 v1 v2,vs = #[v0,v1,v2]:=by
  have:vs.toList.length=3:=hlen
  match hq:vs.toList,this with
  | [a,b,c],_=>exact ⟨a,b,c,by apply Array.ext'; rw [hq]⟩
 subst hvs
 have q0:=hr.2 0 (by simp) (by simp)
 have q1:=hr.2 1 (by simp) (by simp)
 have q2:=hr.2 2 (by simp) (by simp)
 simp only [y09,y17] at q0 q1 q2
 obtain ⟨b,arr,ty,cap,a,e1,e2,e3,e4,rfl,k1,k2,k3,k4,k5⟩:=zuh1 hh q0 ho hl
 obtain ⟨va,vc,us,rfl,u1,u2,u3,u4,u5,u6⟩:=ztqf q2
 cases q1
 have ha:=k3 (by omega)
 subst ha
 refine Does.of_ent (z36x Tryz.func44 rfl rfl) ?_
 by_cases hc:n+1≤cap
 ·refine (z68q hh ho hl hi hn e1 e2 e4 (by omega) hc q2 hx h1l h1x).mono fun e w' ⟨v,r,h',E',g1,⟨g2,g3⟩,g4,g5,g6⟩ => ?_
  subst g3
  obtain ⟨d1,d2⟩:=zl7z g4
  exact ⟨v,r,_,_,g1,⟨g2,rfl⟩,d1,d2.rep g5,g6.trans d2⟩
 ·exact zull hh ho hl hi hn e1 e2 e4 (by omega) k1 (by omega) q2 hx h1l h1x
end
end Go.Proofs.YtaihpefemjlilaaGreatDoor
