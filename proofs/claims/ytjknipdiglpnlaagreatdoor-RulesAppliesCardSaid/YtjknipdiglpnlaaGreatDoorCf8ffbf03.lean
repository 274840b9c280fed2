/-
  14 texts of mine in one.
-/
import Derived.Test.YtjknipdiglpnlaaGreatDoorCb4aa5538
import Derived.Test.YtjknipdiglpnlaaGreatDoorC7567e9ca
import Derived.Test.YtjknipdiglpnlaaGreatDoorC4caf267d
import Derived.Test.YtjknipdiglpnlaaGreatDoorC713d6067
set_option maxRecDepth 20000
set_option maxHeartbeats 4000000
open List renaming map_take → zA, map_drop → zB, map_set → zC, map_append → zD, drop_one → zE
set_option linter.unusedSimpArgs false
set_option linter.unusedVariables false
namespace Go.Proofs.YtjknipdiglpnlaaGreatDoor
open Go Go.Am
def z5en:ACode :=
 (.block 1 (.seq (.region false [⟨none,(some 20),.mov (.t 0)⟩,
  ⟨none,(some 21),.mov (.t 1)⟩,
  ⟨none,(some 22),.call (.k (.fn (.func 99) [] [])) [(.t 20),(.t 21)]⟩,
  ⟨none,(some 6),.mov (.t 22)⟩])
 (.seq (.seq (.region false [⟨none,(some 23),.mov (.t 6)⟩,
  ⟨none,(some 24),.bin .eql (.t 23) (.k (.int .i64 (-1)))⟩])
 (.cond (.t 24) (.seq (.region false [⟨none,(some 25),.mov (.t 5)⟩,
  ⟨none,(some 4),.mov (.t 25)⟩])
 .ret)
 .skip))
 (.seq (.region false [⟨none,(some 26),.mov (.t 5)⟩,
  ⟨none,(some 27),.bin .add (.t 26) (.k (.int .i64 1))⟩,
  ⟨none,(some 5),.mov (.t 27)⟩])
 (.region false [⟨none,(some 28),.mov (.t 0)⟩,
  ⟨none,(some 29),.mov (.t 6)⟩,
  ⟨none,(some 30),.mov (.t 1)⟩,
  ⟨none,(some 31),.lenStr (.t 30)⟩,
  ⟨none,(some 32),.bin .add (.t 29) (.t 31)⟩,
  ⟨none,(some 33),.slcStr (.t 28) (some (.t 32)) none⟩,
  ⟨none,(some 0),.mov (.t 33)⟩])))))
def a98:AFn where
 code:=(.seq (.region false [⟨none,(some 4),.mov (.k (.int .i64 0))⟩])
 (.seq (.seq (.region false [⟨none,(some 7),.mov (.t 1)⟩,
  ⟨none,(some 8),.lenStr (.t 7)⟩,
  ⟨none,(some 9),.bin .eql (.t 8) (.k (.int .i64 0))⟩])
 (.cond (.t 9) (.seq (.region false [⟨none,(some 10),.mov (.t 0)⟩,
  ⟨none,(some 11),.call (.k (.fn (.func 102) [] [])) [(.t 10)]⟩,
  ⟨none,(some 12),.bin .add (.t 11) (.k (.int .i64 1))⟩,
  ⟨none,(some 4),.mov (.t 12)⟩])
 .ret)
 .skip))
 (.seq (.seq (.region false [⟨none,(some 13),.mov (.t 1)⟩,
  ⟨none,(some 14),.lenStr (.t 13)⟩,
  ⟨none,(some 15),.bin .eql (.t 14) (.k (.int .i64 1))⟩])
 (.cond (.t 15) (.seq (.region false [⟨none,(some 16),.mov (.t 0)⟩,
  ⟨none,(some 17),.mov (.t 1)⟩,
  ⟨none,(some 18),.idxStr (.t 17) (.k (.int .i64 0))⟩,
  ⟨none,(some 19),.call (.k (.fn (.func 104) [] [])) [(.t 16),(.t 18)]⟩,
  ⟨none,(some 4),.mov (.t 19)⟩])
 .ret)
 .skip))
 (.seq (.region false [⟨none,(some 5),.mov (.k (.int .i64 0))⟩])
 (.block 0 (.loop z5en))))))
 ntmps:=34
 res:=[.tmp 4]
theorem zg8b:zsjc P Tryz.f98=some a98:=by kernel_rfl
def zzcy:ACode :=
 (.seq (.seq (.region false [⟨none,(some 34),.mov (.t 10)⟩,
  ⟨none,(some 35),.mov (.t 3)⟩,
  ⟨none,(some 36),.bin .lss (.t 34) (.t 35)⟩])
 (.cond (.t 36) .skip
 (.exit 0)))
 (.block 1 (.seq (.region false [⟨none,(some 37),.mov (.t 0)⟩,
  ⟨none,(some 38),.mov (.t 1)⟩,
  ⟨none,(some 39),.call (.k (.fn (.func 99) [] [])) [(.t 37),(.t 38)]⟩,
  ⟨none,(some 11),.mov (.t 39)⟩])
 (.seq (.seq (.region false [⟨none,(some 40),.mov (.t 11)⟩,
  ⟨none,(some 41),.bin .lss (.t 40) (.k (.int .i64 0))⟩])
 (.cond (.t 41) (.exit 0)
 .skip))
 (.seq (.region false [⟨none,(some 42),.mov (.t 9)⟩,
  ⟨none,(some 43),.mov (.t 10)⟩,
  ⟨none,(some 44),.mov (.t 0)⟩,
  ⟨none,(some 45),.mov (.t 11)⟩,
  ⟨none,(some 46),.mov (.t 2)⟩,
  ⟨none,(some 47),.bin .add (.t 45) (.t 46)⟩,
  ⟨none,(some 48),.slcStr (.t 44) none (some (.t 47))⟩,
  ⟨none,(some 49),.idxS 1 (.t 42) (.t 43)⟩,
  ⟨none,none,.store 1 (.t 49) (.t 48)⟩])
 (.seq (.region false [⟨none,(some 50),.mov (.t 0)⟩,
  ⟨none,(some 51),.mov (.t 11)⟩,
  ⟨none,(some 52),.mov (.t 1)⟩,
  ⟨none,(some 53),.lenStr (.t 52)⟩,
  ⟨none,(some 54),.bin .add (.t 51) (.t 53)⟩,
  ⟨none,(some 55),.slcStr (.t 50) (some (.t 54)) none⟩,
  ⟨none,(some 0),.mov (.t 55)⟩])
 (.region false [⟨none,(some 56),.mov (.t 10)⟩,
  ⟨none,(some 57),.bin .add (.t 56) (.k (.int .i64 1))⟩,
  ⟨none,(some 10),.mov (.t 57)⟩])))))))
def z1yv (x0 x1 x2 x3 x9 x10:DV) (h:List AObj):St:=⟨[x0,x1,x2,x3]++js 5++[x9,x10]++js 55,h⟩
def a93:AFn where
 code:=(.seq (.region false [⟨none,(some 8),.mov (.k .nils)⟩])
 (.seq (.seq (.region false [⟨none,(some 12),.mov (.t 3)⟩,
  ⟨none,(some 13),.bin .eql (.t 12) (.k (.int .i64 0))⟩])
 (.cond (.t 13) (.seq (.region false [⟨none,(some 8),.mov (.k .nils)⟩])
 .ret)
 .skip))
 (.seq (.seq (.region false [⟨none,(some 14),.mov (.t 1)⟩,
  ⟨none,(some 15),.bin .eql (.t 14) (.k (.str []))⟩])
 (.cond (.t 15) (.seq (.region false [⟨none,(some 16),.mov (.t 0)⟩,
  ⟨none,(some 17),.mov (.t 3)⟩,
  ⟨none,(some 18),.call (.k (.fn (.func 97) [] [])) [(.t 16),(.t 17)]⟩,
  ⟨none,(some 8),.mov (.t 18)⟩])
 .ret)
 .skip))
 (.seq (.seq (.region false [⟨none,(some 19),.mov (.t 3)⟩,
  ⟨none,(some 20),.bin .lss (.t 19) (.k (.int .i64 0))⟩])
 (.cond (.t 20) (.region false [⟨none,(some 21),.mov (.t 0)⟩,
  ⟨none,(some 22),.mov (.t 1)⟩,
  ⟨none,(some 23),.call (.k (.fn (.func 98) [] [])) [(.t 21),(.t 22)]⟩,
  ⟨none,(some 24),.bin .add (.t 23) (.k (.int .i64 1))⟩,
  ⟨none,(some 3),.mov (.t 24)⟩])
 .skip))
 (.seq (.region false [⟨none,(some 25),.mov (.t 3)⟩,
  ⟨none,(some 26),.mov (.t 0)⟩,
  ⟨none,(some 27),.lenStr (.t 26)⟩,
  ⟨none,(some 28),.bin .add (.t 27) (.k (.int .i64 1))⟩,
  ⟨none,(some 29),.mm false [(.t 25),(.t 28)]⟩,
  ⟨none,(some 3),.mov (.t 29)⟩])
 (.seq (.region false [⟨none,(some 30),.mov (.t 3)⟩,
  ⟨none,(some 31),.mks 1 16 [(.str [])] (.t 30) (.t 30)⟩,
  ⟨none,(some 9),.mov (.t 31)⟩])
 (.seq (.region false [⟨none,(some 32),.mov (.t 3)⟩,
  ⟨none,(some 33),.bin .sub (.t 32) (.k (.int .i64 1))⟩,
  ⟨none,(some 3),.mov (.t 33)⟩])
 (.seq (.region false [⟨none,(some 10),.mov (.k (.int .i64 0))⟩])
 (.seq (.block 0 (.loop zzcy))
 (.seq (.region false [⟨none,(some 58),.mov (.t 9)⟩,
  ⟨none,(some 59),.mov (.t 10)⟩,
  ⟨none,(some 60),.mov (.t 0)⟩,
  ⟨none,(some 61),.idxS 1 (.t 58) (.t 59)⟩,
  ⟨none,none,.store 1 (.t 61) (.t 60)⟩])
 (.seq (.region false [⟨none,(some 62),.mov (.t 9)⟩,
  ⟨none,(some 63),.mov (.t 10)⟩,
  ⟨none,(some 64),.bin .add (.t 63) (.k (.int .i64 1))⟩,
  ⟨none,(some 65),.slcS 1 (.t 62) none (some (.t 64)) none⟩,
  ⟨none,(some 8),.mov (.t 65)⟩])
 .ret)))))))))))
 ntmps:=66
 res:=[.tmp 8]
theorem zv7d:zsjc P Tryz.f93=some a93:=by kernel_rfl
def a86:AFn where
 code:=(.seq (.region false [⟨none,(some 4),.mov (.k .nils)⟩])
 (.seq (.region false [⟨none,(some 5),.mov (.t 0)⟩,
  ⟨none,(some 6),.mov (.t 1)⟩,
  ⟨none,(some 7),.call (.k (.fn (.func 93) [] [])) [(.t 5),(.t 6),(.k (.int .i64 0)),(.k (.int .i64 (-1)))]⟩,
  ⟨none,(some 4),.mov (.t 7)⟩])
 .ret))
 ntmps:=8
 res:=[.tmp 4]
theorem z2i3:zsjc P Tryz.f86=some a86:=by kernel_rfl
def zrz9:ACode :=
 (.seq (.seq (.region false [⟨none,(some 13),.mov (.t 3)⟩,
  ⟨none,(some 14),.mov (.t 0)⟩,
  ⟨none,(some 15),.lenStr (.t 14)⟩,
  ⟨none,(some 16),.bin .lss (.t 13) (.t 15)⟩])
 (.cond (.t 16) .skip
 (.exit 0)))
 (.seq (.block 1 (.seq (.region false [⟨none,(some 19),.mov (.t 0)⟩,
  ⟨none,(some 20),.mov (.t 3)⟩,
  ⟨none,(some 21),.idxStr (.t 19) (.t 20)⟩,
  ⟨none,(some 22),.bin .eql (.t 21) (.k (w8 0#8))⟩])
 (.cond (.t 22) (.seq (.region false [⟨none,(some 2),.mov (.k (.bool false))⟩])
 .ret)
 .skip)))
 (.region false [⟨none,(some 17),.mov (.t 3)⟩,
  ⟨none,(some 18),.bin .add (.t 17) (.k (.int .i64 1))⟩,
  ⟨none,(some 3),.mov (.t 18)⟩])))
def za58 (x0 x3:DV) (h:List AObj):St:=⟨[x0,.junk,.junk,x3]++js 46,h⟩
def z3h5:ACode :=
 (.seq (.seq (.region false [⟨none,(some 25),.mov (.t 5)⟩,
  ⟨none,(some 26),.mov (.t 4)⟩,
  ⟨none,(some 27),.len (.t 26)⟩,
  ⟨none,(some 28),.bin .lss (.t 25) (.t 27)⟩])
 (.cond (.t 28) .skip
 (.exit 2)))
 (.seq (.block 3 (.seq (.region false [⟨none,(some 31),.mov (.t 4)⟩,
  ⟨none,(some 32),.mov (.t 5)⟩,
  ⟨none,(some 33),.idxS 1 (.t 31) (.t 32)⟩,
  ⟨none,(some 34),.load 1 false (.t 33)⟩,
  ⟨none,(some 35),.bin .eql (.t 34) (.k (.str []))⟩,
  ⟨none,(some 36),.mov (.t 35)⟩,
  ⟨(some (36,false)),(some 37),.mov (.t 4)⟩,
  ⟨(some (36,false)),(some 38),.mov (.t 5)⟩,
  ⟨(some (36,false)),(some 39),.idxS 1 (.t 37) (.t 38)⟩,
  ⟨(some (36,false)),(some 40),.load 1 false (.t 39)⟩,
  ⟨(some (36,false)),(some 41),.bin .eql (.t 40) (.k (.str [46]))⟩,
  ⟨none,(some 42),.pick (.t 36) (.k (.bool true)) (.t 41)⟩,
  ⟨none,(some 43),.mov (.t 42)⟩,
  ⟨(some (43,false)),(some 44),.mov (.t 4)⟩,
  ⟨(some (43,false)),(some 45),.mov (.t 5)⟩,
  ⟨(some (43,false)),(some 46),.idxS 1 (.t 44) (.t 45)⟩,
  ⟨(some (43,false)),(some 47),.load 1 false (.t 46)⟩,
  ⟨(some (43,false)),(some 48),.bin .eql (.t 47) (.k (.str [46,46]))⟩,
  ⟨none,(some 49),.pick (.t 43) (.k (.bool true)) (.t 48)⟩])
 (.cond (.t 49) (.seq (.region false [⟨none,(some 2),.mov (.k (.bool false))⟩])
 .ret)
 .skip)))
 (.region false [⟨none,(some 29),.mov (.t 5)⟩,
  ⟨none,(some 30),.bin .add (.t 29) (.k (.int .i64 1))⟩,
  ⟨none,(some 5),.mov (.t 30)⟩])))
def z4io (x4 x5:DV) (h:List AObj):St:=⟨js 4++[x4,x5]++js 44,h⟩
def a71:AFn where
 code:=(.seq (.region false [⟨none,(some 2),.mov (.k (.bool false))⟩])
 (.seq (.seq (.region false [⟨none,(some 6),.mov (.t 0)⟩,
  ⟨none,(some 7),.bin .eql (.t 6) (.k (.str []))⟩,
  ⟨none,(some 8),.mov (.t 7)⟩,
  ⟨(some (8,false)),(some 9),.mov (.t 0)⟩,
  ⟨(some (8,false)),(some 10),.lenStr (.t 9)⟩,
  ⟨(some (8,false)),(some 11),.bin .gtr (.t 10) (.k (.int .i64 200))⟩,
  ⟨none,(some 12),.pick (.t 8) (.k (.bool true)) (.t 11)⟩])
 (.cond (.t 12) (.seq (.region false [⟨none,(some 2),.mov (.k (.bool false))⟩])
 .ret)
 .skip))
 (.seq (.seq (.region false [⟨none,(some 3),.mov (.k (.int .i64 0))⟩])
 (.block 0 (.loop zrz9)))
 (.seq (.region false [⟨none,(some 23),.mov (.t 0)⟩,
  ⟨none,(some 24),.call (.k (.fn (.func 86) [] [])) [(.t 23),(.k (.str [47]))]⟩,
  ⟨none,(some 4),.mov (.t 24)⟩])
 (.seq (.seq (.region false [⟨none,(some 5),.mov (.k (.int .i64 0))⟩])
 (.block 2 (.loop z3h5)))
 (.seq (.region false [⟨none,(some 2),.mov (.k (.bool true))⟩])
 .ret))))))
 ntmps:=50
 res:=[.tmp 2]
theorem zbtg:zsjc P Tryz.f71=some a71:=by kernel_rfl
def zubw:ACode :=
 (.seq (.seq (.region false [⟨none,(some 14),.mov (.t 5)⟩,
  ⟨none,(some 15),.mov (.t 0)⟩,
  ⟨none,(some 16),.lenStr (.t 15)⟩,
  ⟨none,(some 17),.bin .lss (.t 14) (.t 16)⟩])
 (.cond (.t 17) .skip
 (.exit 0)))
 (.seq (.block 1 (.seq (.region false [⟨none,(some 20),.mov (.t 0)⟩,
  ⟨none,(some 21),.mov (.t 5)⟩,
  ⟨none,(some 22),.idxStr (.t 20) (.t 21)⟩,
  ⟨none,(some 6),.mov (.t 22)⟩])
 (.seq (.seq (.region false [⟨none,(some 23),.mov (.t 6)⟩,
  ⟨none,(some 24),.bin .eql (.t 23) (.k (w8 0#8))⟩])
 (.cond (.t 24) (.seq (.region false [⟨none,(some 2),.mov (.k .nils)⟩,
  ⟨none,(some 3),.mov (.k (.bool false))⟩])
 .ret)
 .skip))
 (.seq (.region false [⟨none,(some 25),.mov (.t 6)⟩])
 (.block 2 (.seq (.region false [⟨none,(some 32),.bin .eql (.t 25) (.k (w8 92#8))⟩,
  ⟨none,(some 31),.mov (.t 32)⟩])
 (.cond (.t 31) (.seq (.seq (.region false [⟨none,(some 33),.mov (.t 5)⟩,
  ⟨none,(some 34),.bin .add (.t 33) (.k (.int .i64 1))⟩,
  ⟨none,(some 35),.mov (.t 0)⟩,
  ⟨none,(some 36),.lenStr (.t 35)⟩,
  ⟨none,(some 37),.bin .eql (.t 34) (.t 36)⟩,
  ⟨none,(some 38),.mov (.t 37)⟩,
  ⟨(some (38,false)),(some 39),.mov (.t 0)⟩,
  ⟨(some (38,false)),(some 40),.mov (.t 5)⟩,
  ⟨(some (38,false)),(some 41),.bin .add (.t 40) (.k (.int .i64 1))⟩,
  ⟨(some (38,false)),(some 42),.idxStr (.t 39) (.t 41)⟩,
  ⟨(some (38,false)),(some 43),.bin .eql (.t 42) (.k (w8 0#8))⟩,
  ⟨none,(some 44),.pick (.t 38) (.k (.bool true)) (.t 43)⟩])
 (.cond (.t 44) (.seq (.region false [⟨none,(some 2),.mov (.k .nils)⟩,
  ⟨none,(some 3),.mov (.k (.bool false))⟩])
 .ret)
 .skip))
 (.seq (.region false [⟨none,(some 45),.mov (.t 5)⟩,
  ⟨none,(some 46),.bin .add (.t 45) (.k (.int .i64 1))⟩,
  ⟨none,(some 5),.mov (.t 46)⟩])
 (.region false [⟨none,(some 47),.mov (.t 4)⟩,
  ⟨none,(some 48),.mov (.t 0)⟩,
  ⟨none,(some 49),.mov (.t 5)⟩,
  ⟨none,(some 50),.idxStr (.t 48) (.t 49)⟩,
  ⟨none,(some 51),.build [(.int .i64 0),(w8 0#8)] [(0,1,(.k (.int .i64 0))),(1,1,(.t 50))]⟩,
  ⟨none,(some 52),.bsl 2 1 [(.int .i64 0),(w8 0#8)] [(0,2,(.t 51))]⟩,
  ⟨none,(some 53),.app 2 16 (.t 47) (.t 52)⟩,
  ⟨none,(some 4),.mov (.t 53)⟩])))
 (.seq (.region false [⟨none,(some 55),.bin .eql (.t 25) (.k (w8 42#8))⟩,
  ⟨none,(some 54),.mov (.t 55)⟩])
 (.cond (.t 54) (.seq (.region false [⟨none,(some 56),.mov (.t 5)⟩,
  ⟨none,(some 57),.bin .add (.t 56) (.k (.int .i64 1))⟩,
  ⟨none,(some 58),.mov (.t 0)⟩,
  ⟨none,(some 59),.lenStr (.t 58)⟩,
  ⟨none,(some 60),.bin .lss (.t 57) (.t 59)⟩,
  ⟨none,(some 61),.mov (.t 60)⟩,
  ⟨(some (61,true)),(some 62),.mov (.t 0)⟩,
  ⟨(some (61,true)),(some 63),.mov (.t 5)⟩,
  ⟨(some (61,true)),(some 64),.bin .add (.t 63) (.k (.int .i64 1))⟩,
  ⟨(some (61,true)),(some 65),.idxStr (.t 62) (.t 64)⟩,
  ⟨(some (61,true)),(some 66),.bin .eql (.t 65) (.k (w8 42#8))⟩,
  ⟨none,(some 67),.pick (.t 61) (.t 66) (.k (.bool false))⟩])
 (.cond (.t 67) (.seq (.region false [⟨none,(some 68),.mov (.t 5)⟩,
  ⟨none,(some 69),.bin .add (.t 68) (.k (.int .i64 1))⟩,
  ⟨none,(some 5),.mov (.t 69)⟩])
 (.region false [⟨none,(some 70),.mov (.t 4)⟩,
  ⟨none,(some 71),.build [(.int .i64 0),(w8 0#8)] [(0,1,(.k (.int .i64 3))),(1,1,(.k (w8 0#8)))]⟩,
  ⟨none,(some 72),.bsl 2 1 [(.int .i64 0),(w8 0#8)] [(0,2,(.t 71))]⟩,
  ⟨none,(some 73),.app 2 16 (.t 70) (.t 72)⟩,
  ⟨none,(some 4),.mov (.t 73)⟩]))
 (.region false [⟨none,(some 74),.mov (.t 4)⟩,
  ⟨none,(some 75),.build [(.int .i64 0),(w8 0#8)] [(0,1,(.k (.int .i64 2))),(1,1,(.k (w8 0#8)))]⟩,
  ⟨none,(some 76),.bsl 2 1 [(.int .i64 0),(w8 0#8)] [(0,2,(.t 75))]⟩,
  ⟨none,(some 77),.app 2 16 (.t 74) (.t 76)⟩,
  ⟨none,(some 4),.mov (.t 77)⟩])))
 (.seq (.region false [⟨none,(some 79),.bin .eql (.t 25) (.k (w8 63#8))⟩,
  ⟨none,(some 78),.mov (.t 79)⟩])
 (.cond (.t 78) (.region false [⟨none,(some 80),.mov (.t 4)⟩,
  ⟨none,(some 81),.build [(.int .i64 0),(w8 0#8)] [(0,1,(.k (.int .i64 1))),(1,1,(.k (w8 0#8)))]⟩,
  ⟨none,(some 82),.bsl 2 1 [(.int .i64 0),(w8 0#8)] [(0,2,(.t 81))]⟩,
  ⟨none,(some 83),.app 2 16 (.t 80) (.t 82)⟩,
  ⟨none,(some 4),.mov (.t 83)⟩])
 (.region false [⟨none,(some 26),.mov (.t 4)⟩,
  ⟨none,(some 27),.mov (.t 6)⟩,
  ⟨none,(some 28),.build [(.int .i64 0),(w8 0#8)] [(0,1,(.k (.int .i64 0))),(1,1,(.t 27))]⟩,
  ⟨none,(some 29),.bsl 2 1 [(.int .i64 0),(w8 0#8)] [(0,2,(.t 28))]⟩,
  ⟨none,(some 30),.app 2 16 (.t 26) (.t 29)⟩,
  ⟨none,(some 4),.mov (.t 30)⟩]))))))))))))
 (.region false [⟨none,(some 18),.mov (.t 5)⟩,
  ⟨none,(some 19),.bin .add (.t 18) (.k (.int .i64 1))⟩,
  ⟨none,(some 5),.mov (.t 19)⟩])))
def ztza (x0 x4 x5:DV) (h:List AObj):St:=⟨[x0,.junk,.junk,.junk,x4,x5]++js 79,h⟩
def a83:AFn where
 code:=(.seq (.region false [⟨none,(some 2),.mov (.k .nils)⟩,
  ⟨none,(some 3),.mov (.k (.bool false))⟩])
 (.seq (.seq (.region false [⟨none,(some 7),.mov (.t 0)⟩,
  ⟨none,(some 8),.bin .eql (.t 7) (.k (.str []))⟩,
  ⟨none,(some 9),.mov (.t 8)⟩,
  ⟨(some (9,false)),(some 10),.mov (.t 0)⟩,
  ⟨(some (9,false)),(some 11),.lenStr (.t 10)⟩,
  ⟨(some (9,false)),(some 12),.bin .gtr (.t 11) (.k (.int .i64 200))⟩,
  ⟨none,(some 13),.pick (.t 9) (.k (.bool true)) (.t 12)⟩])
 (.cond (.t 13) (.seq (.region false [⟨none,(some 2),.mov (.k .nils)⟩,
  ⟨none,(some 3),.mov (.k (.bool false))⟩])
 .ret)
 .skip))
 (.seq (.region false [⟨none,(some 4),.mov (.k .nils)⟩])
 (.seq (.seq (.region false [⟨none,(some 5),.mov (.k (.int .i64 0))⟩])
 (.block 0 (.loop zubw)))
 (.seq (.region false [⟨none,(some 84),.mov (.t 4)⟩,
  ⟨none,(some 2),.mov (.t 84)⟩,
  ⟨none,(some 3),.mov (.k (.bool true))⟩])
 .ret)))))
 ntmps:=85
 res:=[.tmp 2,.tmp 3]
theorem z6eh:zsjc P Tryz.f83=some a83:=by kernel_rfl
def a68:AFn where
 code:=(.seq (.region false [⟨none,(some 2),.mov (.k (.bool false))⟩])
 (.seq (.region false [⟨none,(some 6),.mov (.t 0)⟩,
  ⟨none,(some 7),.call (.k (.fn (.func 83) [] [])) [(.t 6)]⟩,
  ⟨none,(some 5),.mov (.t 7)⟩,
  ⟨none,(some 8),.ext (.t 5) 0⟩,
  ⟨none,(some 9),.ext (.t 5) 1⟩,
  ⟨none,(some 3),.mov (.t 8)⟩,
  ⟨none,(some 4),.mov (.t 9)⟩])
 (.seq (.region false [⟨none,(some 10),.mov (.t 4)⟩,
  ⟨none,(some 2),.mov (.t 10)⟩])
 .ret)))
 ntmps:=11
 res:=[.tmp 2]
theorem z20i:zsjc P Tryz.f68=some a68:=by kernel_rfl
def a41:AFn where
 code:=(.seq (.region false [⟨none,(some 2),.mov (.k (.bool false))⟩])
 (.seq (.region false [⟨none,(some 3),.mov (.t 0)⟩,
  ⟨none,(some 4),.bin .eql (.t 3) (.k (.str []))⟩,
  ⟨none,(some 5),.mov (.t 4)⟩,
  ⟨(some (5,false)),(some 6),.mov (.t 0)⟩,
  ⟨(some (5,false)),(some 7),.call (.k (.fn (.func 71) [] [])) [(.t 6)]⟩,
  ⟨none,(some 8),.pick (.t 5) (.k (.bool true)) (.t 7)⟩,
  ⟨none,(some 2),.mov (.t 8)⟩])
 .ret))
 ntmps:=9
 res:=[.tmp 2]
theorem z5y8:zsjc P Tryz.f41=some a41:=by kernel_rfl
def a72:AFn where
 code:=(.seq (.region false [⟨none,(some 4),.mov (.k (.str []))⟩,
  ⟨none,(some 5),.mov (.k (.bool false))⟩])
 (.seq (.seq (.region false [⟨none,(some 6),.mov (.t 0)⟩,
  ⟨none,(some 7),.bin .eql (.t 6) (.k (.str []))⟩])
 (.cond (.t 7) (.seq (.region false [⟨none,(some 8),.mov (.t 1)⟩,
  ⟨none,(some 4),.mov (.t 8)⟩,
  ⟨none,(some 5),.mov (.k (.bool true))⟩])
 .ret)
 .skip))
 (.seq (.seq (.region false [⟨none,(some 9),.mov (.t 1)⟩,
  ⟨none,(some 10),.lenStr (.t 9)⟩,
  ⟨none,(some 11),.mov (.t 0)⟩,
  ⟨none,(some 12),.lenStr (.t 11)⟩,
  ⟨none,(some 13),.bin .add (.t 12) (.k (.int .i64 1))⟩,
  ⟨none,(some 14),.bin .gtr (.t 10) (.t 13)⟩,
  ⟨none,(some 15),.mov (.t 14)⟩,
  ⟨(some (15,true)),(some 16),.mov (.t 1)⟩,
  ⟨(some (15,true)),(some 17),.mov (.t 0)⟩,
  ⟨(some (15,true)),(some 18),.lenStr (.t 17)⟩,
  ⟨(some (15,true)),(some 19),.slcStr (.t 16) none (some (.t 18))⟩,
  ⟨(some (15,true)),(some 20),.mov (.t 0)⟩,
  ⟨(some (15,true)),(some 21),.bin .eql (.t 19) (.t 20)⟩,
  ⟨none,(some 22),.pick (.t 15) (.t 21) (.k (.bool false))⟩,
  ⟨none,(some 23),.mov (.t 22)⟩,
  ⟨(some (23,true)),(some 24),.mov (.t 1)⟩,
  ⟨(some (23,true)),(some 25),.mov (.t 0)⟩,
  ⟨(some (23,true)),(some 26),.lenStr (.t 25)⟩,
  ⟨(some (23,true)),(some 27),.idxStr (.t 24) (.t 26)⟩,
  ⟨(some (23,true)),(some 28),.bin .eql (.t 27) (.k (w8 47#8))⟩,
  ⟨none,(some 29),.pick (.t 23) (.t 28) (.k (.bool false))⟩])
 (.cond (.t 29) (.seq (.region false [⟨none,(some 30),.mov (.t 1)⟩,
  ⟨none,(some 31),.mov (.t 0)⟩,
  ⟨none,(some 32),.lenStr (.t 31)⟩,
  ⟨none,(some 33),.bin .add (.t 32) (.k (.int .i64 1))⟩,
  ⟨none,(some 34),.slcStr (.t 30) (some (.t 33)) none⟩,
  ⟨none,(some 4),.mov (.t 34)⟩,
  ⟨none,(some 5),.mov (.k (.bool true))⟩])
 .ret)
 .skip))
 (.seq (.region false [⟨none,(some 4),.mov (.k (.str []))⟩,
  ⟨none,(some 5),.mov (.k (.bool false))⟩])
 .ret))))
 ntmps:=35
 res:=[.tmp 4,.tmp 5]
theorem z0xs:zsjc P Tryz.f72=some a72:=by kernel_rfl
def a73:AFn where
 code:=(.seq (.region false [⟨none,(some 4),.mov (.k (.str []))⟩])
 (.seq (.seq (.region false [⟨none,(some 5),.mov (.t 0)⟩,
  ⟨none,(some 6),.bin .eql (.t 5) (.k (.str []))⟩])
 (.cond (.t 6) (.seq (.region false [⟨none,(some 7),.mov (.t 1)⟩,
  ⟨none,(some 4),.mov (.t 7)⟩])
 .ret)
 .skip))
 (.seq (.region false [⟨none,(some 8),.mov (.t 0)⟩,
  ⟨none,(some 9),.bin .add (.t 8) (.k (.str [47]))⟩,
  ⟨none,(some 10),.mov (.t 1)⟩,
  ⟨none,(some 11),.bin .add (.t 9) (.t 10)⟩,
  ⟨none,(some 4),.mov (.t 11)⟩])
 .ret)))
 ntmps:=12
 res:=[.tmp 4]
theorem zn06:zsjc P Tryz.f73=some a73:=by kernel_rfl
def a42:AFn where
 code:=(.seq (.region false [⟨none,(some 6),.mov (.k (.str []))⟩,
  ⟨none,(some 7),.mov (.k (.bool false))⟩])
 (.seq (.seq (.region false [⟨none,(some 10),.mov (.t 0)⟩,
  ⟨none,(some 11),.call (.k (.fn (.func 41) [] [])) [(.t 10)]⟩,
  ⟨none,(some 12),.un .not (.t 11)⟩,
  ⟨none,(some 13),.mov (.t 12)⟩,
  ⟨(some (13,false)),(some 14),.mov (.t 1)⟩,
  ⟨(some (13,false)),(some 15),.call (.k (.fn (.func 41) [] [])) [(.t 14)]⟩,
  ⟨(some (13,false)),(some 16),.un .not (.t 15)⟩,
  ⟨none,(some 17),.pick (.t 13) (.k (.bool true)) (.t 16)⟩,
  ⟨none,(some 18),.mov (.t 17)⟩,
  ⟨(some (18,false)),(some 19),.mov (.t 2)⟩,
  ⟨(some (18,false)),(some 20),.call (.k (.fn (.func 71) [] [])) [(.t 19)]⟩,
  ⟨(some (18,false)),(some 21),.un .not (.t 20)⟩,
  ⟨none,(some 22),.pick (.t 18) (.k (.bool true)) (.t 21)⟩])
 (.cond (.t 22) (.seq (.region false [⟨none,(some 6),.mov (.k (.str []))⟩,
  ⟨none,(some 7),.mov (.k (.bool false))⟩])
 .ret)
 .skip))
 (.seq (.region false [⟨none,(some 24),.mov (.t 0)⟩,
  ⟨none,(some 25),.mov (.t 2)⟩,
  ⟨none,(some 26),.call (.k (.fn (.func 72) [] [])) [(.t 24),(.t 25)]⟩,
  ⟨none,(some 23),.mov (.t 26)⟩,
  ⟨none,(some 27),.ext (.t 23) 0⟩,
  ⟨none,(some 28),.ext (.t 23) 1⟩,
  ⟨none,(some 8),.mov (.t 27)⟩,
  ⟨none,(some 9),.mov (.t 28)⟩])
 (.seq (.seq (.region false [⟨none,(some 29),.mov (.t 9)⟩,
  ⟨none,(some 30),.un .not (.t 29)⟩,
  ⟨none,(some 31),.mov (.t 30)⟩,
  ⟨(some (31,false)),(some 32),.mov (.t 1)⟩,
  ⟨(some (31,false)),(some 33),.mov (.t 8)⟩,
  ⟨(some (31,false)),(some 34),.call (.k (.fn (.func 73) [] [])) [(.t 32),(.t 33)]⟩,
  ⟨(some (31,false)),(some 35),.call (.k (.fn (.func 71) [] [])) [(.t 34)]⟩,
  ⟨(some (31,false)),(some 36),.un .not (.t 35)⟩,
  ⟨none,(some 37),.pick (.t 31) (.k (.bool true)) (.t 36)⟩])
 (.cond (.t 37) (.seq (.region false [⟨none,(some 6),.mov (.k (.str []))⟩,
  ⟨none,(some 7),.mov (.k (.bool false))⟩])
 .ret)
 .skip))
 (.seq (.region false [⟨none,(some 38),.mov (.t 1)⟩,
  ⟨none,(some 39),.mov (.t 8)⟩,
  ⟨none,(some 40),.call (.k (.fn (.func 73) [] [])) [(.t 38),(.t 39)]⟩,
  ⟨none,(some 6),.mov (.t 40)⟩,
  ⟨none,(some 7),.mov (.k (.bool true))⟩])
 .ret)))))
 ntmps:=41
 res:=[.tmp 6,.tmp 7]
theorem zl17:zsjc P Tryz.f42=some a42:=by kernel_rfl
end Go.Proofs.YtjknipdiglpnlaaGreatDoor
set_option linter.unusedSimpArgs false
set_option linter.unusedVariables false
namespace Go.Proofs.YtjknipdiglpnlaaGreatDoor
open Go Go.Am
def z5fx:ACode :=
 (.seq (.seq (.region false [⟨none,(some 27),.mov (.t 3)⟩,
  ⟨none,(some 28),.mov (.t 0)⟩,
  ⟨none,(some 29),.lenStr (.t 28)⟩,
  ⟨none,(some 30),.bin .lss (.t 27) (.t 29)⟩])
 (.cond (.t 30) .skip
 (.exit 0)))
 (.seq (.block 1 (.seq (.region false [⟨none,(some 33),.mov (.t 0)⟩,
  ⟨none,(some 34),.mov (.t 3)⟩,
  ⟨none,(some 35),.idxStr (.t 33) (.t 34)⟩,
  ⟨none,(some 4),.mov (.t 35)⟩])
 (.seq (.region false [⟨none,(some 36),.mov (.t 4)⟩,
  ⟨none,(some 37),.bin .geq (.t 36) (.k (w8 97#8))⟩,
  ⟨none,(some 38),.mov (.t 37)⟩,
  ⟨(some (38,true)),(some 39),.mov (.t 4)⟩,
  ⟨(some (38,true)),(some 40),.bin .leq (.t 39) (.k (w8 122#8))⟩,
  ⟨none,(some 41),.pick (.t 38) (.t 40) (.k (.bool false))⟩,
  ⟨none,(some 42),.mov (.t 41)⟩,
  ⟨(some (42,false)),(some 43),.mov (.t 4)⟩,
  ⟨(some (42,false)),(some 44),.bin .geq (.t 43) (.k (w8 48#8))⟩,
  ⟨(some (42,false)),(some 45),.mov (.t 44)⟩,
  ⟨(some (45,true)),(some 46),.mov (.t 4)⟩,
  ⟨(some (45,true)),(some 47),.bin .leq (.t 46) (.k (w8 57#8))⟩,
  ⟨(some (42,false)),(some 48),.pick (.t 45) (.t 47) (.k (.bool false))⟩,
  ⟨none,(some 49),.pick (.t 42) (.k (.bool true)) (.t 48)⟩,
  ⟨none,(some 50),.mov (.t 49)⟩,
  ⟨(some (50,false)),(some 51),.mov (.t 4)⟩,
  ⟨(some (50,false)),(some 52),.bin .eql (.t 51) (.k (w8 46#8))⟩,
  ⟨none,(some 53),.pick (.t 50) (.k (.bool true)) (.t 52)⟩,
  ⟨none,(some 54),.mov (.t 53)⟩,
  ⟨(some (54,false)),(some 55),.mov (.t 4)⟩,
  ⟨(some (54,false)),(some 56),.bin .eql (.t 55) (.k (w8 95#8))⟩,
  ⟨none,(some 57),.pick (.t 54) (.k (.bool true)) (.t 56)⟩,
  ⟨none,(some 58),.mov (.t 57)⟩,
  ⟨(some (58,false)),(some 59),.mov (.t 4)⟩,
  ⟨(some (58,false)),(some 60),.bin .eql (.t 59) (.k (w8 45#8))⟩,
  ⟨none,(some 61),.pick (.t 58) (.k (.bool true)) (.t 60)⟩,
  ⟨none,(some 62),.un .not (.t 61)⟩])
 (.cond (.t 62) (.seq (.region false [⟨none,(some 2),.mov (.k (.bool false))⟩])
 .ret)
 .skip))))
 (.region false [⟨none,(some 31),.mov (.t 3)⟩,
  ⟨none,(some 32),.bin .add (.t 31) (.k (.int .i64 1))⟩,
  ⟨none,(some 3),.mov (.t 32)⟩])))
def za02 (x0 x3:DV) (h:List AObj):St:=⟨[x0,.junk,.junk,x3]++js 59,h⟩
def a69:AFn where
 code:=(.seq (.region false [⟨none,(some 2),.mov (.k (.bool false))⟩])
 (.seq (.seq (.region false [⟨none,(some 5),.mov (.t 0)⟩,
  ⟨none,(some 6),.bin .eql (.t 5) (.k (.str []))⟩,
  ⟨none,(some 7),.mov (.t 6)⟩,
  ⟨(some (7,false)),(some 8),.mov (.t 0)⟩,
  ⟨(some (7,false)),(some 9),.lenStr (.t 8)⟩,
  ⟨(some (7,false)),(some 10),.bin .gtr (.t 9) (.k (.int .i64 64))⟩,
  ⟨none,(some 11),.pick (.t 7) (.k (.bool true)) (.t 10)⟩,
  ⟨none,(some 12),.mov (.t 11)⟩,
  ⟨(some (12,false)),(some 13),.mov (.t 0)⟩,
  ⟨(some (12,false)),(some 14),.idxStr (.t 13) (.k (.int .i64 0))⟩,
  ⟨(some (12,false)),(some 15),.bin .eql (.t 14) (.k (w8 46#8))⟩,
  ⟨none,(some 16),.pick (.t 12) (.k (.bool true)) (.t 15)⟩,
  ⟨none,(some 17),.mov (.t 16)⟩,
  ⟨(some (17,false)),(some 18),.mov (.t 0)⟩,
  ⟨(some (17,false)),(some 19),.idxStr (.t 18) (.k (.int .i64 0))⟩,
  ⟨(some (17,false)),(some 20),.bin .eql (.t 19) (.k (w8 95#8))⟩,
  ⟨none,(some 21),.pick (.t 17) (.k (.bool true)) (.t 20)⟩,
  ⟨none,(some 22),.mov (.t 21)⟩,
  ⟨(some (22,false)),(some 23),.mov (.t 0)⟩,
  ⟨(some (22,false)),(some 24),.idxStr (.t 23) (.k (.int .i64 0))⟩,
  ⟨(some (22,false)),(some 25),.bin .eql (.t 24) (.k (w8 45#8))⟩,
  ⟨none,(some 26),.pick (.t 22) (.k (.bool true)) (.t 25)⟩])
 (.cond (.t 26) (.seq (.region false [⟨none,(some 2),.mov (.k (.bool false))⟩])
 .ret)
 .skip))
 (.seq (.seq (.region false [⟨none,(some 3),.mov (.k (.int .i64 0))⟩])
 (.block 0 (.loop z5fx)))
 (.seq (.region false [⟨none,(some 2),.mov (.k (.bool true))⟩])
 .ret))))
 ntmps:=63
 res:=[.tmp 2]
theorem z713:zsjc P Tryz.f69=some a69:=by kernel_rfl
def a34:AFn where
 code:=(.seq (.region false [⟨none,(some 1),.box (.t 0)⟩,
  ⟨none,(some 2),.mov (.k (.bool false))⟩])
 (.seq (.seq (.region false [⟨none,(some 3),.fld 0 (.t 1)⟩,
  ⟨none,(some 4),.load 1 false (.t 3)⟩,
  ⟨none,(some 5),.bin .lss (.t 4) (.k (.int .i64 1))⟩,
  ⟨none,(some 6),.mov (.t 5)⟩,
  ⟨(some (6,false)),(some 7),.fld 0 (.t 1)⟩,
  ⟨(some (6,false)),(some 8),.load 1 false (.t 7)⟩,
  ⟨(some (6,false)),(some 9),.bin .gtr (.t 8) (.k (.int .i64 7))⟩,
  ⟨none,(some 10),.pick (.t 6) (.k (.bool true)) (.t 9)⟩,
  ⟨none,(some 11),.mov (.t 10)⟩,
  ⟨(some (11,false)),(some 12),.fld 1 (.t 1)⟩,
  ⟨(some (11,false)),(some 13),.load 1 false (.t 12)⟩,
  ⟨(some (11,false)),(some 14),.call (.k (.fn (.func 68) [] [])) [(.t 13)]⟩,
  ⟨(some (11,false)),(some 15),.un .not (.t 14)⟩,
  ⟨none,(some 16),.pick (.t 11) (.k (.bool true)) (.t 15)⟩])
 (.cond (.t 16) (.seq (.region false [⟨none,(some 2),.mov (.k (.bool false))⟩])
 .ret)
 .skip))
 (.seq (.seq (.region false [⟨none,(some 17),.fld 0 (.t 1)⟩,
  ⟨none,(some 18),.load 1 false (.t 17)⟩,
  ⟨none,(some 19),.bin .eql (.t 18) (.k (.int .i64 1))⟩])
 (.cond (.t 19) (.seq (.region false [⟨none,(some 20),.fld 2 (.t 1)⟩,
  ⟨none,(some 21),.load 1 false (.t 20)⟩,
  ⟨none,(some 22),.call (.k (.fn (.func 69) [] [])) [(.t 21)]⟩,
  ⟨none,(some 23),.mov (.t 22)⟩,
  ⟨(some (23,true)),(some 24),.fld 4 (.t 1)⟩,
  ⟨(some (23,true)),(some 25),.load 1 false (.t 24)⟩,
  ⟨(some (23,true)),(some 26),.call (.k (.fn (.func 41) [] [])) [(.t 25)]⟩,
  ⟨none,(some 27),.pick (.t 23) (.t 26) (.k (.bool false))⟩,
  ⟨none,(some 28),.mov (.t 27)⟩,
  ⟨(some (28,true)),(some 29),.fld 5 (.t 1)⟩,
  ⟨(some (28,true)),(some 30),.load 1 false (.t 29)⟩,
  ⟨(some (28,true)),(some 31),.call (.k (.fn (.func 41) [] [])) [(.t 30)]⟩,
  ⟨none,(some 32),.pick (.t 28) (.t 31) (.k (.bool false))⟩,
  ⟨none,(some 2),.mov (.t 32)⟩])
 .ret)
 .skip))
 (.seq (.region false [⟨none,(some 33),.fld 2 (.t 1)⟩,
  ⟨none,(some 34),.load 1 false (.t 33)⟩,
  ⟨none,(some 35),.bin .eql (.t 34) (.k (.str []))⟩,
  ⟨none,(some 36),.mov (.t 35)⟩,
  ⟨(some (36,true)),(some 37),.fld 4 (.t 1)⟩,
  ⟨(some (36,true)),(some 38),.load 1 false (.t 37)⟩,
  ⟨(some (36,true)),(some 39),.bin .eql (.t 38) (.k (.str []))⟩,
  ⟨none,(some 40),.pick (.t 36) (.t 39) (.k (.bool false))⟩,
  ⟨none,(some 41),.mov (.t 40)⟩,
  ⟨(some (41,true)),(some 42),.fld 5 (.t 1)⟩,
  ⟨(some (41,true)),(some 43),.load 1 false (.t 42)⟩,
  ⟨(some (41,true)),(some 44),.bin .eql (.t 43) (.k (.str []))⟩,
  ⟨none,(some 45),.pick (.t 41) (.t 44) (.k (.bool false))⟩,
  ⟨none,(some 46),.mov (.t 45)⟩,
  ⟨(some (46,true)),(some 47),.fld 3 (.t 1)⟩,
  ⟨(some (46,true)),(some 48),.load 1 false (.t 47)⟩,
  ⟨(some (46,true)),(some 49),.un .not (.t 48)⟩,
  ⟨none,(some 50),.pick (.t 46) (.t 49) (.k (.bool false))⟩,
  ⟨none,(some 2),.mov (.t 50)⟩])
 .ret))))
 ntmps:=51
 res:=[.tmp 2]
theorem zk28:zsjc P Tryz.f34=some a34:=by kernel_rfl
end Go.Proofs.YtjknipdiglpnlaaGreatDoor
set_option linter.unusedSimpArgs false
set_option linter.unusedVariables false
namespace Go.Proofs.YtjknipdiglpnlaaGreatDoor
open Go Go.Am
def a84:AFn where
 code:=(.seq (.region false [⟨none,(some 1),.box (.t 0)⟩,
  ⟨none,(some 2),.mov (.k (.bool false))⟩])
 (.seq (.region false [⟨none,(some 3),.fld 0 (.t 1)⟩,
  ⟨none,(some 4),.load 1 false (.t 3)⟩,
  ⟨none,(some 5),.bin .geq (.t 4) (.k (.int .i64 2))⟩,
  ⟨none,(some 2),.mov (.t 5)⟩])
 .ret))
 ntmps:=6
 res:=[.tmp 2]
theorem z3cy:zsjc P Tryz.f84=some a84:=by kernel_rfl
def a85:AFn where
 code:=(.seq (.region false [⟨none,(some 2),.box (.t 0)⟩,
  ⟨none,(some 4),.mov (.k (.bool false))⟩])
 (.seq (.region false [⟨none,(some 5),.fld 0 (.t 2)⟩,
  ⟨none,(some 6),.load 1 false (.t 5)⟩,
  ⟨none,(some 7),.bin .eql (.t 6) (.k (.int .i64 3))⟩,
  ⟨none,(some 8),.mov (.t 7)⟩,
  ⟨(some (8,false)),(some 9),.fld 0 (.t 2)⟩,
  ⟨(some (8,false)),(some 10),.load 1 false (.t 9)⟩,
  ⟨(some (8,false)),(some 11),.bin .eql (.t 10) (.k (.int .i64 0))⟩,
  ⟨(some (8,false)),(some 12),.mov (.t 11)⟩,
  ⟨(some (12,true)),(some 13),.fld 1 (.t 2)⟩,
  ⟨(some (12,true)),(some 14),.load 1 false (.t 13)⟩,
  ⟨(some (12,true)),(some 15),.mov (.t 1)⟩,
  ⟨(some (12,true)),(some 16),.bin .eql (.t 14) (.t 15)⟩,
  ⟨(some (8,false)),(some 17),.pick (.t 12) (.t 16) (.k (.bool false))⟩,
  ⟨none,(some 18),.pick (.t 8) (.k (.bool true)) (.t 17)⟩,
  ⟨none,(some 19),.mov (.t 18)⟩,
  ⟨(some (19,false)),(some 20),.fld 0 (.t 2)⟩,
  ⟨(some (19,false)),(some 21),.load 1 false (.t 20)⟩,
  ⟨(some (19,false)),(some 22),.bin .eql (.t 21) (.k (.int .i64 1))⟩,
  ⟨(some (19,false)),(some 23),.mov (.t 22)⟩,
  ⟨(some (23,false)),(some 24),.fld 0 (.t 2)⟩,
  ⟨(some (23,false)),(some 25),.load 1 false (.t 24)⟩,
  ⟨(some (23,false)),(some 26),.bin .eql (.t 25) (.k (.int .i64 2))⟩,
  ⟨(some (19,false)),(some 27),.pick (.t 23) (.k (.bool true)) (.t 26)⟩,
  ⟨(some (19,false)),(some 28),.mov (.t 27)⟩,
  ⟨(some (28,true)),(some 29),.mov (.t 1)⟩,
  ⟨(some (28,true)),(some 30),.bin .neq (.t 29) (.k (w8 47#8))⟩,
  ⟨(some (19,false)),(some 31),.pick (.t 28) (.t 30) (.k (.bool false))⟩,
  ⟨none,(some 32),.pick (.t 19) (.k (.bool true)) (.t 31)⟩,
  ⟨none,(some 4),.mov (.t 32)⟩])
 .ret))
 ntmps:=33
 res:=[.tmp 4]
theorem zu0j:zsjc P Tryz.f85=some a85:=by kernel_rfl
def zscl:ACode :=
 (.seq (.seq (.region false [⟨none,(some 31),.mov (.t 8)⟩,
  ⟨none,(some 32),.mov (.t 5)⟩,
  ⟨none,(some 33),.len (.t 32)⟩,
  ⟨none,(some 34),.bin .lss (.t 31) (.t 33)⟩,
  ⟨none,(some 35),.mov (.t 34)⟩,
  ⟨(some (35,true)),(some 36),.mov (.t 5)⟩,
  ⟨(some (35,true)),(some 37),.mov (.t 8)⟩,
  ⟨(some (35,true)),(some 38),.idxS 2 (.t 36) (.t 37)⟩,
  ⟨(some (35,true)),(some 39),.load 2 true (.t 38)⟩,
  ⟨(some (35,true)),(some 40),.call (.k (.fn (.func 84) [] [])) [(.t 39)]⟩,
  ⟨none,(some 41),.pick (.t 35) (.t 40) (.k (.bool false))⟩])
 (.cond (.t 41) .skip
 (.exit 0)))
 (.seq (.block 1 (.region false [⟨none,(some 44),.mov (.t 7)⟩,
  ⟨none,(some 45),.mov (.t 8)⟩,
  ⟨none,(some 46),.bin .add (.t 45) (.k (.int .i64 1))⟩,
  ⟨none,(some 47),.idxS 1 (.t 44) (.t 46)⟩,
  ⟨none,none,.store 1 (.t 47) (.k (.bool true))⟩]))
 (.region false [⟨none,(some 42),.mov (.t 8)⟩,
  ⟨none,(some 43),.bin .add (.t 42) (.k (.int .i64 1))⟩,
  ⟨none,(some 8),.mov (.t 43)⟩])))
def zeq8 (x1 x5 x7 x8:DV) (h:List AObj):St:=⟨[.junk,x1,.junk,.junk,.junk,x5,.junk,x7,x8]++js 108,h⟩
def zomp:ACode :=
 (.seq (.seq (.region false [⟨none,(some 58),.mov (.t 11)⟩,
  ⟨none,(some 59),.mov (.t 5)⟩,
  ⟨none,(some 60),.len (.t 59)⟩,
  ⟨none,(some 61),.bin .lss (.t 58) (.t 60)⟩])
 (.cond (.t 61) .skip
 (.exit 4)))
 (.seq (.block 5 (.seq (.region true [⟨none,(some 64),.mov (.t 7)⟩,
  ⟨none,(some 65),.mov (.t 11)⟩,
  ⟨none,(some 66),.idxS 1 (.t 64) (.t 65)⟩,
  ⟨none,(some 67),.load 1 false (.t 66)⟩,
  ⟨none,(some 68),.mov (.t 67)⟩,
  ⟨(some (68,true)),(some 69),.mov (.t 5)⟩,
  ⟨(some (68,true)),(some 70),.mov (.t 11)⟩,
  ⟨(some (68,true)),(some 71),.idxS 2 (.t 69) (.t 70)⟩,
  ⟨(some (68,true)),(some 72),.load 2 true (.t 71)⟩,
  ⟨(some (68,true)),(some 73),.mov (.t 1)⟩,
  ⟨(some (68,true)),(some 74),.mov (.t 9)⟩,
  ⟨(some (68,true)),(some 75),.idxStr (.t 73) (.t 74)⟩,
  ⟨(some (68,true)),(some 76),.callN (.k (.fn (.func 85) [] [])) [(.t 72),(.t 75)]⟩,
  ⟨none,(some 77),.pick (.t 68) (.t 76) (.k (.bool false))⟩])
 (.cond (.t 77) (.seq (.region false [⟨none,(some 78),.mov (.t 5)⟩,
  ⟨none,(some 79),.mov (.t 11)⟩,
  ⟨none,(some 80),.idxS 2 (.t 78) (.t 79)⟩,
  ⟨none,(some 81),.load 2 true (.t 80)⟩,
  ⟨none,(some 82),.call (.k (.fn (.func 84) [] [])) [(.t 81)]⟩])
 (.cond (.t 82) (.region false [⟨none,(some 83),.mov (.t 10)⟩,
  ⟨none,(some 84),.mov (.t 11)⟩,
  ⟨none,(some 85),.idxS 1 (.t 83) (.t 84)⟩,
  ⟨none,none,.store 1 (.t 85) (.k (.bool true))⟩])
 (.region false [⟨none,(some 86),.mov (.t 10)⟩,
  ⟨none,(some 87),.mov (.t 11)⟩,
  ⟨none,(some 88),.bin .add (.t 87) (.k (.int .i64 1))⟩,
  ⟨none,(some 89),.idxS 1 (.t 86) (.t 88)⟩,
  ⟨none,none,.store 1 (.t 89) (.k (.bool true))⟩])))
 .skip)))
 (.region false [⟨none,(some 62),.mov (.t 11)⟩,
  ⟨none,(some 63),.bin .add (.t 62) (.k (.int .i64 1))⟩,
  ⟨none,(some 11),.mov (.t 63)⟩])))
def zvj0 (x1 x5 x7 x9 x10 x11:DV) (h:List AObj):St:=⟨[.junk,x1,.junk,.junk,.junk,x5,.junk,x7,.junk,x9,x10,x11]++js 105,h⟩
def zpfu:ACode :=
 (.seq (.seq (.region false [⟨none,(some 90),.mov (.t 12)⟩,
  ⟨none,(some 91),.mov (.t 5)⟩,
  ⟨none,(some 92),.len (.t 91)⟩,
  ⟨none,(some 93),.bin .lss (.t 90) (.t 92)⟩])
 (.cond (.t 93) .skip
 (.exit 6)))
 (.seq (.block 7 (.seq (.region false [⟨none,(some 96),.mov (.t 10)⟩,
  ⟨none,(some 97),.mov (.t 12)⟩,
  ⟨none,(some 98),.idxS 1 (.t 96) (.t 97)⟩,
  ⟨none,(some 99),.load 1 false (.t 98)⟩,
  ⟨none,(some 100),.mov (.t 99)⟩,
  ⟨(some (100,true)),(some 101),.mov (.t 5)⟩,
  ⟨(some (100,true)),(some 102),.mov (.t 12)⟩,
  ⟨(some (100,true)),(some 103),.idxS 2 (.t 101) (.t 102)⟩,
  ⟨(some (100,true)),(some 104),.load 2 true (.t 103)⟩,
  ⟨(some (100,true)),(some 105),.call (.k (.fn (.func 84) [] [])) [(.t 104)]⟩,
  ⟨none,(some 106),.pick (.t 100) (.t 105) (.k (.bool false))⟩])
 (.cond (.t 106) (.region false [⟨none,(some 107),.mov (.t 10)⟩,
  ⟨none,(some 108),.mov (.t 12)⟩,
  ⟨none,(some 109),.bin .add (.t 108) (.k (.int .i64 1))⟩,
  ⟨none,(some 110),.idxS 1 (.t 107) (.t 109)⟩,
  ⟨none,none,.store 1 (.t 110) (.k (.bool true))⟩])
 .skip)))
 (.region false [⟨none,(some 94),.mov (.t 12)⟩,
  ⟨none,(some 95),.bin .add (.t 94) (.k (.int .i64 1))⟩,
  ⟨none,(some 12),.mov (.t 95)⟩])))
def z7fh (x1 x5 x9 x10 x12:DV) (h:List AObj):St:=⟨[.junk,x1,.junk,.junk,.junk,x5,.junk,.junk,.junk,x9,x10,.junk,x12]++js 104,h⟩
def zyoa:ACode :=
 (.seq (.seq (.region false [⟨none,(some 48),.mov (.t 9)⟩,
  ⟨none,(some 49),.mov (.t 1)⟩,
  ⟨none,(some 50),.lenStr (.t 49)⟩,
  ⟨none,(some 51),.bin .lss (.t 48) (.t 50)⟩])
 (.cond (.t 51) .skip
 (.exit 2)))
 (.seq (.block 3 (.seq (.region false [⟨none,(some 54),.mov (.t 5)⟩,
  ⟨none,(some 55),.len (.t 54)⟩,
  ⟨none,(some 56),.bin .add (.t 55) (.k (.int .i64 1))⟩,
  ⟨none,(some 57),.mks 1 1 [(.bool false)] (.t 56) (.t 56)⟩,
  ⟨none,(some 10),.mov (.t 57)⟩])
 (.seq (.seq (.region false [⟨none,(some 11),.mov (.k (.int .i64 0))⟩])
 (.block 4 (.loop zomp)))
 (.seq (.seq (.region false [⟨none,(some 12),.mov (.k (.int .i64 0))⟩])
 (.block 6 (.loop zpfu)))
 (.region false [⟨none,(some 111),.mov (.t 10)⟩,
  ⟨none,(some 7),.mov (.t 111)⟩])))))
 (.region false [⟨none,(some 52),.mov (.t 9)⟩,
  ⟨none,(some 53),.bin .add (.t 52) (.k (.int .i64 1))⟩,
  ⟨none,(some 9),.mov (.t 53)⟩])))
def z2y3 (x1 x5 x7 x9:DV) (h:List AObj):St:=⟨[.junk,x1,.junk,.junk,.junk,x5,.junk,x7,.junk,x9]++js 107,h⟩
def a64:AFn where
 code:=(.seq (.region false [⟨none,(some 4),.mov (.k (.bool false))⟩])
 (.seq (.region false [⟨none,(some 14),.mov (.t 0)⟩,
  ⟨none,(some 15),.call (.k (.fn (.func 83) [] [])) [(.t 14)]⟩,
  ⟨none,(some 13),.mov (.t 15)⟩,
  ⟨none,(some 16),.ext (.t 13) 0⟩,
  ⟨none,(some 17),.ext (.t 13) 1⟩,
  ⟨none,(some 5),.mov (.t 16)⟩,
  ⟨none,(some 6),.mov (.t 17)⟩])
 (.seq (.seq (.region false [⟨none,(some 18),.mov (.t 6)⟩,
  ⟨none,(some 19),.un .not (.t 18)⟩,
  ⟨none,(some 20),.mov (.t 19)⟩,
  ⟨(some (20,false)),(some 21),.mov (.t 1)⟩,
  ⟨(some (20,false)),(some 22),.call (.k (.fn (.func 71) [] [])) [(.t 21)]⟩,
  ⟨(some (20,false)),(some 23),.un .not (.t 22)⟩,
  ⟨none,(some 24),.pick (.t 20) (.k (.bool true)) (.t 23)⟩])
 (.cond (.t 24) (.seq (.region false [⟨none,(some 4),.mov (.k (.bool false))⟩])
 .ret)
 .skip))
 (.seq (.region false [⟨none,(some 25),.mov (.t 5)⟩,
  ⟨none,(some 26),.len (.t 25)⟩,
  ⟨none,(some 27),.bin .add (.t 26) (.k (.int .i64 1))⟩,
  ⟨none,(some 28),.mks 1 1 [(.bool false)] (.t 27) (.t 27)⟩,
  ⟨none,(some 7),.mov (.t 28)⟩])
 (.seq (.region false [⟨none,(some 29),.mov (.t 7)⟩,
  ⟨none,(some 30),.idxS 1 (.t 29) (.k (.int .i64 0))⟩,
  ⟨none,none,.store 1 (.t 30) (.k (.bool true))⟩])
 (.seq (.seq (.region false [⟨none,(some 8),.mov (.k (.int .i64 0))⟩])
 (.block 0 (.loop zscl)))
 (.seq (.seq (.region false [⟨none,(some 9),.mov (.k (.int .i64 0))⟩])
 (.block 2 (.loop zyoa)))
 (.seq (.region false [⟨none,(some 112),.mov (.t 7)⟩,
  ⟨none,(some 113),.mov (.t 5)⟩,
  ⟨none,(some 114),.len (.t 113)⟩,
  ⟨none,(some 115),.idxS 1 (.t 112) (.t 114)⟩,
  ⟨none,(some 116),.load 1 false (.t 115)⟩,
  ⟨none,(some 4),.mov (.t 116)⟩])
 .ret))))))))
 ntmps:=117
 res:=[.tmp 4]
theorem zerh:zsjc P Tryz.f64=some a64:=by kernel_rfl
def a29:AFn where
 code:=(.seq (.region false [⟨none,(some 2),.box (.t 0)⟩,
  ⟨none,(some 4),.mov (.k .nils)⟩])
 (.seq (.seq (.region false [⟨none,(some 5),.mov (.t 1)⟩])
 (.cond (.t 5) (.seq (.region false [⟨none,(some 6),.fld 2 (.t 2)⟩,
  ⟨none,(some 7),.load 1 false (.t 6)⟩,
  ⟨none,(some 4),.mov (.t 7)⟩])
 .ret)
 .skip))
 (.seq (.region false [⟨none,(some 8),.fld 1 (.t 2)⟩,
  ⟨none,(some 9),.load 1 false (.t 8)⟩,
  ⟨none,(some 4),.mov (.t 9)⟩])
 .ret)))
 ntmps:=10
 res:=[.tmp 4]
theorem ztig:zsjc P Tryz.f29=some a29:=by kernel_rfl
def zur0:ACode :=
 (.seq (.seq (.region false [⟨none,(some 57),.mov (.t 17)⟩,
  ⟨none,(some 58),.mov (.t 3)⟩,
  ⟨none,(some 59),.len (.t 58)⟩,
  ⟨none,(some 60),.bin .lss (.t 57) (.t 59)⟩])
 (.cond (.t 60) .skip
 (.exit 0)))
 (.seq (.block 1 (.seq (.region true [⟨none,(some 63),.mov (.t 3)⟩,
  ⟨none,(some 64),.mov (.t 17)⟩,
  ⟨none,(some 65),.idxS 3 (.t 63) (.t 64)⟩,
  ⟨none,(some 66),.fld 0 (.t 65)⟩,
  ⟨none,(some 67),.load 1 false (.t 66)⟩,
  ⟨none,(some 68),.fld 2 (.t 5)⟩,
  ⟨none,(some 69),.load 1 false (.t 68)⟩,
  ⟨none,(some 70),.bin .eql (.t 67) (.t 69)⟩])
 (.cond (.t 70) (.seq (.region true [⟨none,(some 72),.mov (.t 3)⟩,
  ⟨none,(some 73),.mov (.t 17)⟩,
  ⟨none,(some 74),.idxS 3 (.t 72) (.t 73)⟩,
  ⟨none,(some 75),.load 3 true (.t 74)⟩,
  ⟨none,(some 76),.fld 3 (.t 5)⟩,
  ⟨none,(some 77),.load 1 false (.t 76)⟩,
  ⟨none,(some 79),.mov (.t 13)⟩,
  ⟨none,(some 78),.callN (.k (.fn (.func 29) [] [])) [(.t 75),(.t 77)]⟩,
  ⟨none,(some 80),.callN (.k (.fn (.func 66) [] [])) [(.t 78),(.t 79)]⟩,
  ⟨none,(some 71),.mov (.t 80)⟩,
  ⟨none,(some 81),.ext (.t 71) 0⟩,
  ⟨none,(some 82),.ext (.t 71) 1⟩,
  ⟨none,(some 18),.alloc (rep 32 (w8 0#8))⟩,
  ⟨none,none,.store 32 (.t 18) (.t 81)⟩,
  ⟨none,(some 19),.mov (.t 82)⟩])
 (.seq (.region false [⟨none,(some 83),.mov (.t 19)⟩,
  ⟨none,(some 84),.mov (.t 83)⟩,
  ⟨(some (84,true)),(some 85),.load 32 true (.t 18)⟩,
  ⟨(some (84,true)),(some 86),.load 32 true (.t 15)⟩,
  ⟨(some (84,true)),(some 87),.eqa false [(32,0)] (.t 85) (.t 86)⟩,
  ⟨none,(some 88),.pick (.t 84) (.t 87) (.k (.bool false))⟩,
  ⟨none,(some 10),.mov (.t 88)⟩])
 .ret))
 .skip)))
 (.region false [⟨none,(some 61),.mov (.t 17)⟩,
  ⟨none,(some 62),.bin .add (.t 61) (.k (.int .i64 1))⟩,
  ⟨none,(some 17),.mov (.t 62)⟩])))
def zm1u (x3 x5 x13 x15 x17:DV) (h:List AObj):St:=⟨[.junk,.junk,.junk,x3,.junk,x5]++js 7++[x13,.junk,x15,.junk,x17]++js 71,h⟩
def a65:AFn where
 code:=(.seq (.region false [⟨none,(some 5),.box (.t 0)⟩,
  ⟨none,(some 7),.box (.t 2)⟩,
  ⟨none,(some 10),.mov (.k (.bool false))⟩])
 (.seq (.region false [⟨none,(some 21),.fld 4 (.t 5)⟩,
  ⟨none,(some 22),.load 1 false (.t 21)⟩,
  ⟨none,(some 23),.mov (.t 4)⟩,
  ⟨none,(some 24),.call (.k (.fn (.func 42) [] [])) [(.t 22),(.k (.str [])),(.t 23)]⟩,
  ⟨none,(some 20),.mov (.t 24)⟩,
  ⟨none,(some 25),.ext (.t 20) 0⟩,
  ⟨none,(some 26),.ext (.t 20) 1⟩,
  ⟨none,(some 11),.mov (.t 25)⟩,
  ⟨none,(some 12),.mov (.t 26)⟩])
 (.seq (.region false [⟨none,(some 28),.fld 4 (.t 5)⟩,
  ⟨none,(some 29),.load 1 false (.t 28)⟩,
  ⟨none,(some 30),.fld 5 (.t 5)⟩,
  ⟨none,(some 31),.load 1 false (.t 30)⟩,
  ⟨none,(some 32),.mov (.t 4)⟩,
  ⟨none,(some 33),.call (.k (.fn (.func 42) [] [])) [(.t 29),(.t 31),(.t 32)]⟩,
  ⟨none,(some 27),.mov (.t 33)⟩,
  ⟨none,(some 34),.ext (.t 27) 0⟩,
  ⟨none,(some 35),.ext (.t 27) 1⟩,
  ⟨none,(some 13),.mov (.t 34)⟩,
  ⟨none,(some 14),.mov (.t 35)⟩])
 (.seq (.seq (.region false [⟨none,(some 36),.mov (.t 12)⟩,
  ⟨none,(some 37),.un .not (.t 36)⟩,
  ⟨none,(some 38),.mov (.t 37)⟩,
  ⟨(some (38,false)),(some 39),.mov (.t 14)⟩,
  ⟨(some (38,false)),(some 40),.un .not (.t 39)⟩,
  ⟨none,(some 41),.pick (.t 38) (.k (.bool true)) (.t 40)⟩,
  ⟨none,(some 42),.mov (.t 41)⟩,
  ⟨(some (42,false)),(some 43),.fld 1 (.t 5)⟩,
  ⟨(some (42,false)),(some 44),.load 1 false (.t 43)⟩,
  ⟨(some (42,false)),(some 45),.mov (.t 11)⟩,
  ⟨(some (42,false)),(some 46),.call (.k (.fn (.func 64) [] [])) [(.t 44),(.t 45)]⟩,
  ⟨(some (42,false)),(some 47),.un .not (.t 46)⟩,
  ⟨none,(some 48),.pick (.t 42) (.k (.bool true)) (.t 47)⟩])
 (.cond (.t 48) (.seq (.region false [⟨none,(some 10),.mov (.k (.bool false))⟩])
 .ret)
 .skip))
 (.seq (.region false [⟨none,(some 50),.load 3 true (.t 7)⟩,
  ⟨none,(some 51),.mov (.t 1)⟩,
  ⟨none,(some 52),.call (.k (.fn (.func 29) [] [])) [(.t 50),(.t 51)]⟩,
  ⟨none,(some 53),.mov (.t 4)⟩,
  ⟨none,(some 54),.call (.k (.fn (.func 66) [] [])) [(.t 52),(.t 53)]⟩,
  ⟨none,(some 49),.mov (.t 54)⟩,
  ⟨none,(some 55),.ext (.t 49) 0⟩,
  ⟨none,(some 56),.ext (.t 49) 1⟩,
  ⟨none,(some 15),.alloc (rep 32 (w8 0#8))⟩,
  ⟨none,none,.store 32 (.t 15) (.t 55)⟩,
  ⟨none,(some 16),.mov (.t 56)⟩])
 (.seq (.seq (.region false [⟨none,(some 17),.mov (.k (.int .i64 0))⟩])
 (.block 0 (.loop zur0)))
 (.seq (.region false [⟨none,(some 10),.mov (.k (.bool false))⟩])
 .ret)))))))
 ntmps:=89
 res:=[.tmp 10]
theorem zh04:zsjc P Tryz.f65=some a65:=by kernel_rfl
def a31:AFn where
 code:=(.seq (.region false [⟨none,(some 5),.box (.t 0)⟩,
  ⟨none,(some 7),.box (.t 2)⟩,
  ⟨none,(some 10),.mov (.k (.bool false))⟩])
 (.seq (.seq (.region false [⟨none,(some 16),.fld 0 (.t 5)⟩,
  ⟨none,(some 17),.load 1 false (.t 16)⟩,
  ⟨none,(some 18),.bin .eql (.t 17) (.k (.int .i64 1))⟩])
 (.cond (.t 18) (.seq (.region false [⟨none,(some 19),.load 6 true (.t 5)⟩,
  ⟨none,(some 20),.mov (.t 1)⟩,
  ⟨none,(some 21),.load 3 true (.t 7)⟩,
  ⟨none,(some 22),.mov (.t 3)⟩,
  ⟨none,(some 23),.mov (.t 4)⟩,
  ⟨none,(some 24),.call (.k (.fn (.func 65) [] [])) [(.t 19),(.t 20),(.t 21),(.t 22),(.t 23)]⟩,
  ⟨none,(some 10),.mov (.t 24)⟩])
 .ret)
 .skip))
 (.seq (.region false [⟨none,(some 26),.fld 1 (.t 7)⟩,
  ⟨none,(some 27),.load 1 false (.t 26)⟩,
  ⟨none,(some 28),.mov (.t 4)⟩,
  ⟨none,(some 29),.call (.k (.fn (.func 66) [] [])) [(.t 27),(.t 28)]⟩,
  ⟨none,(some 25),.mov (.t 29)⟩,
  ⟨none,(some 30),.ext (.t 25) 0⟩,
  ⟨none,(some 31),.ext (.t 25) 1⟩,
  ⟨none,(some 11),.alloc (rep 32 (w8 0#8))⟩,
  ⟨none,none,.store 32 (.t 11) (.t 30)⟩,
  ⟨none,(some 12),.mov (.t 31)⟩])
 (.seq (.region false [⟨none,(some 33),.fld 2 (.t 7)⟩,
  ⟨none,(some 34),.load 1 false (.t 33)⟩,
  ⟨none,(some 35),.mov (.t 4)⟩,
  ⟨none,(some 36),.call (.k (.fn (.func 66) [] [])) [(.t 34),(.t 35)]⟩,
  ⟨none,(some 32),.mov (.t 36)⟩,
  ⟨none,(some 37),.ext (.t 32) 0⟩,
  ⟨none,(some 38),.ext (.t 32) 1⟩,
  ⟨none,(some 13),.alloc (rep 32 (w8 0#8))⟩,
  ⟨none,none,.store 32 (.t 13) (.t 37)⟩,
  ⟨none,(some 14),.mov (.t 38)⟩])
 (.seq (.region false [⟨none,(some 39),.fld 1 (.t 5)⟩,
  ⟨none,(some 40),.load 1 false (.t 39)⟩,
  ⟨none,(some 41),.mov (.t 4)⟩,
  ⟨none,(some 42),.call (.k (.fn (.func 64) [] [])) [(.t 40),(.t 41)]⟩,
  ⟨none,(some 15),.mov (.t 42)⟩])
 (.seq (.seq (.region false [⟨none,(some 43),.fld 0 (.t 5)⟩,
  ⟨none,(some 44),.load 1 false (.t 43)⟩])
 (.block 0 (.seq (.region false [⟨none,(some 46),.bin .eql (.t 44) (.k (.int .i64 2))⟩,
  ⟨none,(some 45),.mov (.t 46)⟩])
 (.cond (.t 45) (.seq (.region false [⟨none,(some 47),.mov (.t 15)⟩,
  ⟨none,(some 48),.mov (.t 47)⟩,
  ⟨(some (48,true)),(some 49),.mov (.t 12)⟩,
  ⟨(some (48,true)),(some 50),.un .not (.t 49)⟩,
  ⟨none,(some 51),.pick (.t 48) (.t 50) (.k (.bool false))⟩,
  ⟨none,(some 52),.mov (.t 51)⟩,
  ⟨(some (52,true)),(some 53),.mov (.t 14)⟩,
  ⟨none,(some 54),.pick (.t 52) (.t 53) (.k (.bool false))⟩,
  ⟨none,(some 10),.mov (.t 54)⟩])
 .ret)
 (.seq (.region false [⟨none,(some 56),.bin .eql (.t 44) (.k (.int .i64 3))⟩,
  ⟨none,(some 55),.mov (.t 56)⟩])
 (.cond (.t 55) (.seq (.region false [⟨none,(some 57),.mov (.t 15)⟩,
  ⟨none,(some 58),.mov (.t 57)⟩,
  ⟨(some (58,true)),(some 59),.mov (.t 12)⟩,
  ⟨none,(some 60),.pick (.t 58) (.t 59) (.k (.bool false))⟩,
  ⟨none,(some 61),.mov (.t 60)⟩,
  ⟨(some (61,true)),(some 62),.mov (.t 14)⟩,
  ⟨none,(some 63),.pick (.t 61) (.t 62) (.k (.bool false))⟩,
  ⟨none,(some 64),.mov (.t 63)⟩,
  ⟨(some (64,true)),(some 65),.load 32 true (.t 11)⟩,
  ⟨(some (64,true)),(some 66),.load 32 true (.t 13)⟩,
  ⟨(some (64,true)),(some 67),.eqa true [(32,0)] (.t 65) (.t 66)⟩,
  ⟨none,(some 68),.pick (.t 64) (.t 67) (.k (.bool false))⟩,
  ⟨none,(some 10),.mov (.t 68)⟩])
 .ret)
 (.seq (.region false [⟨none,(some 70),.bin .eql (.t 44) (.k (.int .i64 4))⟩,
  ⟨none,(some 69),.mov (.t 70)⟩])
 (.cond (.t 69) (.seq (.region false [⟨none,(some 71),.mov (.t 15)⟩,
  ⟨none,(some 72),.mov (.t 71)⟩,
  ⟨(some (72,true)),(some 73),.mov (.t 12)⟩,
  ⟨none,(some 74),.pick (.t 72) (.t 73) (.k (.bool false))⟩,
  ⟨none,(some 75),.mov (.t 74)⟩,
  ⟨(some (75,true)),(some 76),.mov (.t 14)⟩,
  ⟨(some (75,true)),(some 77),.un .not (.t 76)⟩,
  ⟨none,(some 78),.pick (.t 75) (.t 77) (.k (.bool false))⟩,
  ⟨none,(some 10),.mov (.t 78)⟩])
 .ret)
 (.seq (.region false [⟨none,(some 80),.bin .eql (.t 44) (.k (.int .i64 5))⟩,
  ⟨none,(some 79),.mov (.t 80)⟩])
 (.cond (.t 79) (.seq (.region false [⟨none,(some 81),.mov (.t 15)⟩,
  ⟨none,(some 10),.mov (.t 81)⟩])
 .ret)
 .skip))))))))))
 (.seq (.region false [⟨none,(some 10),.mov (.k (.bool false))⟩])
 .ret)))))))
 ntmps:=82
 res:=[.tmp 10]
theorem zjer:zsjc P Tryz.f31=some a31:=by kernel_rfl
def zk9n:ACode :=
 (.seq (.seq (.region false [⟨none,(some 10),.mov (.t 6)⟩,
  ⟨none,(some 11),.mov (.t 1)⟩,
  ⟨none,(some 12),.len (.t 11)⟩,
  ⟨none,(some 13),.bin .lss (.t 10) (.t 12)⟩])
 (.cond (.t 13) .skip
 (.exit 0)))
 (.seq (.block 1 (.seq (.region true [⟨none,(some 16),.fld 1 (.t 2)⟩,
  ⟨none,(some 17),.load 1 false (.t 16)⟩,
  ⟨none,(some 18),.mov (.t 1)⟩,
  ⟨none,(some 19),.mov (.t 6)⟩,
  ⟨none,(some 20),.idxS 1 (.t 18) (.t 19)⟩,
  ⟨none,(some 21),.load 1 false (.t 20)⟩,
  ⟨none,(some 22),.callN (.k (.fn (.func 64) [] [])) [(.t 17),(.t 21)]⟩])
 (.cond (.t 22) (.seq (.seq (.region false [⟨none,(some 23),.fld 0 (.t 2)⟩,
  ⟨none,(some 24),.load 1 false (.t 23)⟩,
  ⟨none,(some 25),.bin .eql (.t 24) (.k (.int .i64 6))⟩])
 (.cond (.t 25) (.seq (.region false [⟨none,(some 26),.mov (.t 1)⟩,
  ⟨none,(some 27),.mov (.t 6)⟩,
  ⟨none,(some 28),.idxS 1 (.t 26) (.t 27)⟩,
  ⟨none,(some 29),.load 1 false (.t 28)⟩,
  ⟨none,(some 4),.mov (.t 29)⟩,
  ⟨none,(some 5),.mov (.k (.bool true))⟩])
 .ret)
 .skip))
 (.seq (.region false [⟨none,(some 4),.mov (.k (.str []))⟩,
  ⟨none,(some 5),.mov (.k (.bool false))⟩])
 .ret))
 .skip)))
 (.region false [⟨none,(some 14),.mov (.t 6)⟩,
  ⟨none,(some 15),.bin .add (.t 14) (.k (.int .i64 1))⟩,
  ⟨none,(some 6),.mov (.t 15)⟩])))
def zd5d (x1 x2 x6:DV) (h:List AObj):St:=⟨[.junk,x1,x2,.junk,.junk,.junk,x6]++js 26,h⟩
def a30:AFn where
 code:=(.seq (.region false [⟨none,(some 2),.box (.t 0)⟩,
  ⟨none,(some 4),.mov (.k (.str []))⟩,
  ⟨none,(some 5),.mov (.k (.bool false))⟩])
 (.seq (.seq (.region false [⟨none,(some 7),.load 6 true (.t 2)⟩,
  ⟨none,(some 8),.call (.k (.fn (.func 34) [] [])) [(.t 7)]⟩,
  ⟨none,(some 9),.un .not (.t 8)⟩])
 (.cond (.t 9) (.seq (.region false [⟨none,(some 4),.mov (.k (.str []))⟩,
  ⟨none,(some 5),.mov (.k (.bool true))⟩])
 .ret)
 .skip))
 (.seq (.seq (.region false [⟨none,(some 6),.mov (.k (.int .i64 0))⟩])
 (.block 0 (.loop zk9n)))
 (.seq (.region true [⟨none,(some 30),.fld 0 (.t 2)⟩,
  ⟨none,(some 31),.load 1 false (.t 30)⟩,
  ⟨none,(some 32),.bin .eql (.t 31) (.k (.int .i64 7))⟩,
  ⟨none,(some 4),.mov (.k (.str []))⟩,
  ⟨none,(some 5),.mov (.t 32)⟩])
 .ret))))
 ntmps:=33
 res:=[.tmp 4,.tmp 5]
theorem z3f8:zsjc P Tryz.f30=some a30:=by kernel_rfl
def zv5f:ACode :=
 (.seq (.seq (.region false [⟨none,(some 20),.mov (.t 11)⟩,
  ⟨none,(some 21),.mov (.t 10)⟩,
  ⟨none,(some 22),.len (.t 21)⟩,
  ⟨none,(some 23),.bin .lss (.t 20) (.t 22)⟩])
 (.cond (.t 23) .skip
 (.exit 0)))
 (.seq (.block 1 (.region false [⟨none,(some 26),.mov (.t 9)⟩,
  ⟨none,(some 27),.mov (.t 10)⟩,
  ⟨none,(some 28),.mov (.t 11)⟩,
  ⟨none,(some 29),.idxS 33 (.t 27) (.t 28)⟩,
  ⟨none,(some 30),.fld 0 (.t 29)⟩,
  ⟨none,(some 31),.load 1 false (.t 30)⟩,
  ⟨none,(some 32),.bsl 1 1 [(.str [])] [(0,1,(.t 31))]⟩,
  ⟨none,(some 33),.app 1 16 (.t 26) (.t 32)⟩,
  ⟨none,(some 9),.mov (.t 33)⟩]))
 (.region false [⟨none,(some 24),.mov (.t 11)⟩,
  ⟨none,(some 25),.bin .add (.t 24) (.k (.int .i64 1))⟩,
  ⟨none,(some 11),.mov (.t 25)⟩])))
def z7en (x0 x1 x3 x6 x8 x9 x10 x11:DV) (h:List AObj):St:=⟨[x0,x1,.junk,x3,.junk,.junk,x6,.junk,x8,x9,x10,x11]++js 71,h⟩
def ze01:ACode :=
 (.seq (.seq (.region false [⟨none,(some 54),.mov (.t 16)⟩,
  ⟨none,(some 55),.mov (.t 9)⟩,
  ⟨none,(some 56),.len (.t 55)⟩,
  ⟨none,(some 57),.bin .lss (.t 54) (.t 56)⟩])
 (.cond (.t 57) .skip
 (.exit 4)))
 (.seq (.block 5 (.seq (.region true [⟨none,(some 60),.mov (.t 0)⟩,
  ⟨none,(some 61),.mov (.t 12)⟩,
  ⟨none,(some 62),.idxS 6 (.t 60) (.t 61)⟩,
  ⟨none,(some 63),.load 6 true (.t 62)⟩,
  ⟨none,(some 64),.mov (.t 1)⟩,
  ⟨none,(some 65),.load 3 true (.t 6)⟩,
  ⟨none,(some 66),.mov (.t 3)⟩,
  ⟨none,(some 67),.mov (.t 9)⟩,
  ⟨none,(some 68),.mov (.t 16)⟩,
  ⟨none,(some 69),.idxS 1 (.t 67) (.t 68)⟩,
  ⟨none,(some 70),.load 1 false (.t 69)⟩,
  ⟨none,(some 71),.callN (.k (.fn (.func 31) [] [])) [(.t 63),(.t 64),(.t 65),(.t 66),(.t 70)]⟩,
  ⟨none,(some 72),.un .not (.t 71)⟩])
 (.cond (.t 72) (.region false [⟨none,(some 73),.mov (.t 15)⟩,
  ⟨none,(some 74),.mov (.t 9)⟩,
  ⟨none,(some 75),.mov (.t 16)⟩,
  ⟨none,(some 76),.idxS 1 (.t 74) (.t 75)⟩,
  ⟨none,(some 77),.load 1 false (.t 76)⟩,
  ⟨none,(some 78),.bsl 1 1 [(.str [])] [(0,1,(.t 77))]⟩,
  ⟨none,(some 79),.app 1 16 (.t 73) (.t 78)⟩,
  ⟨none,(some 15),.mov (.t 79)⟩])
 .skip)))
 (.region false [⟨none,(some 58),.mov (.t 16)⟩,
  ⟨none,(some 59),.bin .add (.t 58) (.k (.int .i64 1))⟩,
  ⟨none,(some 16),.mov (.t 59)⟩])))
def ziyy (x0 x1 x3 x6 x8 x9 x12 x15 x16:DV) (h:List AObj):St:=⟨[x0,x1,.junk,x3,.junk,.junk,x6,.junk,x8,x9,.junk,.junk,x12,.junk,.junk,x15,x16]++js 66,h⟩
def zbj2:ACode :=
 (.seq (.seq (.region false [⟨none,(some 34),.mov (.t 12)⟩,
  ⟨none,(some 35),.mov (.t 0)⟩,
  ⟨none,(some 36),.len (.t 35)⟩,
  ⟨none,(some 37),.bin .lss (.t 34) (.t 36)⟩])
 (.cond (.t 37) .skip
 (.exit 2)))
 (.seq (.block 3 (.seq (.seq (.region false [⟨none,(some 41),.mov (.t 0)⟩,
  ⟨none,(some 42),.mov (.t 12)⟩,
  ⟨none,(some 43),.idxS 6 (.t 41) (.t 42)⟩,
  ⟨none,(some 44),.load 6 true (.t 43)⟩,
  ⟨none,(some 45),.mov (.t 9)⟩,
  ⟨none,(some 46),.call (.k (.fn (.func 30) [] [])) [(.t 44),(.t 45)]⟩,
  ⟨none,(some 40),.mov (.t 46)⟩,
  ⟨none,(some 47),.ext (.t 40) 0⟩,
  ⟨none,(some 48),.ext (.t 40) 1⟩,
  ⟨none,(some 13),.mov (.t 47)⟩,
  ⟨none,(some 14),.mov (.t 48)⟩])
 (.seq (.region false [⟨none,(some 49),.mov (.t 14)⟩])
 (.cond (.t 49) (.seq (.region false [⟨none,(some 50),.mov (.t 9)⟩,
  ⟨none,(some 51),.mov (.t 12)⟩,
  ⟨none,(some 52),.mov (.t 13)⟩,
  ⟨none,(some 53),.build [.nils,(.int .i64 0),(.str [])] [(0,1,(.t 50)),(1,1,(.t 51)),(2,1,(.t 52))]⟩,
  ⟨none,none,.store 3 (.t 8) (.t 53)⟩])
 .ret)
 .skip)))
 (.seq (.region false [⟨none,(some 15),.mov (.k .nils)⟩])
 (.seq (.seq (.region false [⟨none,(some 16),.mov (.k (.int .i64 0))⟩])
 (.block 4 (.loop ze01)))
 (.region false [⟨none,(some 80),.mov (.t 15)⟩,
  ⟨none,(some 9),.mov (.t 80)⟩])))))
 (.region false [⟨none,(some 38),.mov (.t 12)⟩,
  ⟨none,(some 39),.bin .add (.t 38) (.k (.int .i64 1))⟩,
  ⟨none,(some 12),.mov (.t 39)⟩])))
def zzr3 (x0 x1 x3 x6 x8 x9 x12:DV) (h:List AObj):St:=⟨[x0,x1,.junk,x3,.junk,.junk,x6,.junk,x8,x9,.junk,.junk,x12]++js 70,h⟩
def a11:AFn where
 code:=(.seq (.region false [⟨none,(some 6),.box (.t 2)⟩,
  ⟨none,(some 8),.alloc [.nils,(.int .i64 0),(.str [])]⟩])
 (.seq (.region false [⟨none,(some 9),.mov (.k .nils)⟩])
 (.seq (.region false [⟨none,(some 17),.load 3 true (.t 6)⟩,
  ⟨none,(some 18),.mov (.t 1)⟩,
  ⟨none,(some 19),.call (.k (.fn (.func 29) [] [])) [(.t 17),(.t 18)]⟩,
  ⟨none,(some 10),.mov (.t 19)⟩])
 (.seq (.seq (.region false [⟨none,(some 11),.mov (.k (.int .i64 0))⟩])
 (.block 0 (.loop zv5f)))
 (.seq (.seq (.region false [⟨none,(some 12),.mov (.k (.int .i64 0))⟩])
 (.block 2 (.loop zbj2)))
 (.seq (.region false [⟨none,(some 81),.mov (.t 9)⟩,
  ⟨none,(some 82),.build [.nils,(.int .i64 0),(.str [])] [(0,1,(.t 81)),(1,1,(.k (.int .i64 (-1))))]⟩,
  ⟨none,none,.store 3 (.t 8) (.t 82)⟩])
 .ret))))))
 ntmps:=83
 res:=[.cell 8 3 true]
theorem zbwx:zsjc P Tryz.f11=some a11:=by kernel_rfl
def zml0:ACode :=
 (.seq (.seq (.region false [⟨none,(some 5),.mov (.t 3)⟩,
  ⟨none,(some 6),.mov (.t 0)⟩,
  ⟨none,(some 7),.len (.t 6)⟩,
  ⟨none,(some 8),.bin .lss (.t 5) (.t 7)⟩])
 (.cond (.t 8) .skip
 (.exit 0)))
 (.seq (.block 1 (.seq (.region false [⟨none,(some 11),.mov (.t 0)⟩,
  ⟨none,(some 12),.mov (.t 3)⟩,
  ⟨none,(some 13),.idxS 6 (.t 11) (.t 12)⟩,
  ⟨none,(some 14),.load 6 true (.t 13)⟩,
  ⟨none,(some 15),.call (.k (.fn (.func 34) [] [])) [(.t 14)]⟩,
  ⟨none,(some 16),.un .not (.t 15)⟩])
 (.cond (.t 16) (.seq (.region false [⟨none,(some 2),.mov (.k (.bool false))⟩])
 .ret)
 .skip)))
 (.region false [⟨none,(some 9),.mov (.t 3)⟩,
  ⟨none,(some 10),.bin .add (.t 9) (.k (.int .i64 1))⟩,
  ⟨none,(some 3),.mov (.t 10)⟩])))
def z91a (x0 x3:DV) (h:List AObj):St:=⟨[x0,.junk,.junk,x3]++js 35,h⟩
def a13:AFn where
 code:=(.seq (.region false [⟨none,(some 2),.mov (.k (.bool false))⟩])
 (.seq (.seq (.region false [⟨none,(some 3),.mov (.k (.int .i64 0))⟩])
 (.block 0 (.loop zml0)))
 (.seq (.region false [⟨none,(some 17),.mov (.t 0)⟩,
  ⟨none,(some 18),.len (.t 17)⟩,
  ⟨none,(some 4),.mov (.t 18)⟩])
 (.seq (.region false [⟨none,(some 19),.mov (.t 4)⟩,
  ⟨none,(some 20),.bin .gtr (.t 19) (.k (.int .i64 0))⟩,
  ⟨none,(some 21),.mov (.t 20)⟩,
  ⟨(some (21,true)),(some 22),.mov (.t 0)⟩,
  ⟨(some (21,true)),(some 23),.mov (.t 4)⟩,
  ⟨(some (21,true)),(some 24),.bin .sub (.t 23) (.k (.int .i64 1))⟩,
  ⟨(some (21,true)),(some 25),.idxS 6 (.t 22) (.t 24)⟩,
  ⟨(some (21,true)),(some 26),.fld 0 (.t 25)⟩,
  ⟨(some (21,true)),(some 27),.load 1 false (.t 26)⟩,
  ⟨(some (21,true)),(some 28),.bin .eql (.t 27) (.k (.int .i64 6))⟩,
  ⟨none,(some 29),.pick (.t 21) (.t 28) (.k (.bool false))⟩,
  ⟨none,(some 30),.mov (.t 29)⟩,
  ⟨(some (30,true)),(some 31),.mov (.t 0)⟩,
  ⟨(some (30,true)),(some 32),.mov (.t 4)⟩,
  ⟨(some (30,true)),(some 33),.bin .sub (.t 32) (.k (.int .i64 1))⟩,
  ⟨(some (30,true)),(some 34),.idxS 6 (.t 31) (.t 33)⟩,
  ⟨(some (30,true)),(some 35),.fld 1 (.t 34)⟩,
  ⟨(some (30,true)),(some 36),.load 1 false (.t 35)⟩,
  ⟨(some (30,true)),(some 37),.bin .eql (.t 36) (.k (.str [42,42]))⟩,
  ⟨none,(some 38),.pick (.t 30) (.t 37) (.k (.bool false))⟩,
  ⟨none,(some 2),.mov (.t 38)⟩])
 .ret))))
 ntmps:=39
 res:=[.tmp 2]
theorem zm5y:zsjc P Tryz.f13=some a13:=by kernel_rfl
end Go.Proofs.YtjknipdiglpnlaaGreatDoor
set_option linter.unusedSimpArgs false
set_option linter.unusedVariables false
namespace Go.Proofs.YtjknipdiglpnlaaGreatDoor
open Go Go.Am
def a5L0:ACode :=
 (.seq (.seq (.region false [⟨none,(some 7),.mov (.t 3)⟩,
  ⟨none,(some 8),.mov (.t 0)⟩,
  ⟨none,(some 9),.len (.t 8)⟩,
  ⟨none,(some 10),.bin .lss (.t 7) (.t 9)⟩])
 (.cond (.t 10) .skip
 (.exit 0)))
 (.seq (.block 1 (.seq (.region false [⟨none,(some 13),.mov (.t 0)⟩,
  ⟨none,(some 14),.mov (.t 3)⟩,
  ⟨none,(some 15),.idxS 3 (.t 13) (.t 14)⟩,
  ⟨none,(some 16),.fld 1 (.t 15)⟩,
  ⟨none,(some 17),.load 1 false (.t 16)⟩,
  ⟨none,(some 18),.len (.t 17)⟩,
  ⟨none,(some 19),.bin .gtr (.t 18) (.k (.int .i64 40))⟩,
  ⟨none,(some 20),.mov (.t 19)⟩,
  ⟨(some (20,false)),(some 21),.mov (.t 0)⟩,
  ⟨(some (20,false)),(some 22),.mov (.t 3)⟩,
  ⟨(some (20,false)),(some 23),.idxS 3 (.t 21) (.t 22)⟩,
  ⟨(some (20,false)),(some 24),.fld 2 (.t 23)⟩,
  ⟨(some (20,false)),(some 25),.load 1 false (.t 24)⟩,
  ⟨(some (20,false)),(some 26),.len (.t 25)⟩,
  ⟨(some (20,false)),(some 27),.bin .gtr (.t 26) (.k (.int .i64 40))⟩,
  ⟨none,(some 28),.pick (.t 20) (.k (.bool true)) (.t 27)⟩])
 (.cond (.t 28) (.seq (.region false [⟨none,(some 2),.mov (.k (.bool false))⟩])
 .ret)
 .skip)))
 (.region false [⟨none,(some 11),.mov (.t 3)⟩,
  ⟨none,(some 12),.bin .add (.t 11) (.k (.int .i64 1))⟩,
  ⟨none,(some 3),.mov (.t 12)⟩])))
def a5S0 (x0 x3:DV) (h:List AObj):St:=⟨[x0,.junk,.junk,x3]++js 25,h⟩
def a5:AFn where
 code:=(.seq (.region false [⟨none,(some 2),.mov (.k (.bool false))⟩])
 (.seq (.seq (.region false [⟨none,(some 4),.mov (.t 0)⟩,
  ⟨none,(some 5),.len (.t 4)⟩,
  ⟨none,(some 6),.bin .gtr (.t 5) (.k (.int .i64 10))⟩])
 (.cond (.t 6) (.seq (.region false [⟨none,(some 2),.mov (.k (.bool false))⟩])
 .ret)
 .skip))
 (.seq (.seq (.region false [⟨none,(some 3),.mov (.k (.int .i64 0))⟩])
 (.block 0 (.loop a5L0)))
 (.seq (.region false [⟨none,(some 2),.mov (.k (.bool true))⟩])
 .ret))))
 ntmps:=29
 res:=[.tmp 2]
theorem zonh:zsjc P Tryz.f5=some a5:=by kernel_rfl
def a3L1:ACode :=
 (.seq (.region false [⟨none,(some 51),.bin .lss (.t 50) (.t 49)⟩])
 (.seq (.cond (.t 51) .skip
 (.exit 2))
 (.seq (.block 3 (.seq (.region false [⟨none,(some 52),.idxS 1 (.t 48) (.t 50)⟩,
  ⟨none,(some 53),.load 1 false (.t 52)⟩,
  ⟨none,(some 13),.mov (.t 53)⟩])
 (.seq (.region true [⟨none,(some 54),.mov (.t 13)⟩,
  ⟨none,(some 55),.fld 4 (.t 11)⟩,
  ⟨none,(some 56),.load 1 false (.t 55)⟩,
  ⟨none,(some 57),.fld 0 (.t 11)⟩,
  ⟨none,(some 58),.load 3 true (.t 57)⟩,
  ⟨none,(some 59),.fld 3 (.t 11)⟩,
  ⟨none,(some 60),.load 1 false (.t 59)⟩,
  ⟨none,(some 62),.mov (.t 13)⟩,
  ⟨none,(some 63),.fld 4 (.t 11)⟩,
  ⟨none,(some 64),.load 1 false (.t 63)⟩,
  ⟨none,(some 65),.fld 0 (.t 11)⟩,
  ⟨none,(some 66),.load 3 true (.t 65)⟩,
  ⟨none,(some 67),.fld 3 (.t 11)⟩,
  ⟨none,(some 68),.load 1 false (.t 67)⟩,
  ⟨none,(some 61),.callN (.k (.fn (.func 10) [] [])) [(.t 54),(.t 56),(.t 58),(.t 60)]⟩,
  ⟨none,(some 69),.callN (.k (.fn (.func 11) [] [])) [(.t 62),(.t 64),(.t 66),(.t 68)]⟩,
  ⟨none,(some 70),.callN (.k (.fn (.func 9) [] [])) [(.t 61),(.t 69)]⟩,
  ⟨none,(some 71),.un .not (.t 70)⟩,
  ⟨none,(some 72),.mov (.t 71)⟩,
  ⟨(some (72,false)),(some 73),.mov (.t 13)⟩,
  ⟨(some (72,false)),(some 75),.mov (.t 13)⟩,
  ⟨(some (72,false)),(some 74),.callN (.k (.fn (.func 12) [] [])) [(.t 73)]⟩,
  ⟨(some (72,false)),(some 76),.callN (.k (.fn (.func 13) [] [])) [(.t 75)]⟩,
  ⟨(some (72,false)),(some 77),.eqb true (.t 74) (.t 76)⟩,
  ⟨none,(some 78),.pick (.t 72) (.k (.bool true)) (.t 77)⟩])
 (.cond (.t 78) (.seq (.region false [⟨none,(some 6),.mov (.k (.bool false))⟩])
 .ret)
 .skip))))
 (.region false [⟨none,(some 79),.bin .add (.t 50) (.k (.int .i64 1))⟩,
  ⟨none,(some 50),.mov (.t 79)⟩]))))
def a3S1 (x0 x9 x11 x40 x41 x42 x48 x49 x50:DV) (h:List AObj):St:=⟨[x0]++js 8++[x9,.junk,x11]++js 28++[x40,x41,x42]++js 5++[x48,x49,x50]++js 31,h⟩
def a3L0:ACode :=
 (.seq (.region false [⟨none,(some 43),.bin .lss (.t 42) (.t 41)⟩])
 (.seq (.cond (.t 43) .skip
 (.exit 0))
 (.seq (.block 1 (.seq (.region false [⟨none,(some 44),.idxS 5 (.t 40) (.t 42)⟩,
  ⟨none,(some 45),.load 5 true (.t 44)⟩,
  ⟨none,(some 11),.alloc [(.str []),.nils,.nils,.nils,(.bool false)]⟩,
  ⟨none,none,.store 5 (.t 11) (.t 45)⟩])
 (.seq (.region false [⟨none,(some 46),.mov (.t 0)⟩,
  ⟨none,(some 47),.mov (.t 9)⟩,
  ⟨none,(some 48),.bsl 1 2 [.nils] [(0,1,(.t 46)),(1,1,(.t 47))]⟩,
  ⟨none,(some 49),.len (.t 48)⟩,
  ⟨none,(some 50),.mov (.k (.int .i64 0))⟩])
 (.block 2 (.loop a3L1)))))
 (.region false [⟨none,(some 80),.bin .add (.t 42) (.k (.int .i64 1))⟩,
  ⟨none,(some 42),.mov (.t 80)⟩]))))
def a3S0 (x0 x9 x40 x41 x42:DV) (h:List AObj):St:=⟨[x0]++js 8++[x9]++js 30++[x40,x41,x42]++js 39,h⟩
def a3:AFn where
 code:=(.seq (.region false [⟨none,(some 4),.box (.t 1)⟩,
  ⟨none,(some 6),.mov (.k (.bool false))⟩])
 (.seq (.seq (.region false [⟨none,(some 14),.mov (.t 0)⟩,
  ⟨none,(some 15),.call (.k (.fn (.func 4) [] [])) [(.t 14)]⟩,
  ⟨none,(some 16),.un .not (.t 15)⟩,
  ⟨none,(some 17),.mov (.t 16)⟩,
  ⟨(some (17,false)),(some 18),.fld 3 (.t 4)⟩,
  ⟨(some (17,false)),(some 19),.load 1 false (.t 18)⟩,
  ⟨(some (17,false)),(some 20),.call (.k (.fn (.func 5) [] [])) [(.t 19)]⟩,
  ⟨(some (17,false)),(some 21),.un .not (.t 20)⟩,
  ⟨none,(some 22),.pick (.t 17) (.k (.bool true)) (.t 21)⟩,
  ⟨none,(some 23),.mov (.t 22)⟩,
  ⟨(some (23,false)),(some 24),.fld 0 (.t 4)⟩,
  ⟨(some (23,false)),(some 25),.load 3 true (.t 24)⟩,
  ⟨(some (23,false)),(some 26),.bsl 3 1 [(.str []),.nils,.nils] [(0,3,(.t 25))]⟩,
  ⟨(some (23,false)),(some 27),.call (.k (.fn (.func 5) [] [])) [(.t 26)]⟩,
  ⟨(some (23,false)),(some 28),.un .not (.t 27)⟩,
  ⟨none,(some 29),.pick (.t 23) (.k (.bool true)) (.t 28)⟩])
 (.cond (.t 29) (.seq (.region false [⟨none,(some 6),.mov (.k (.bool true))⟩])
 .ret)
 .skip))
 (.seq (.region false [⟨none,(some 30),.mov (.t 2)⟩,
  ⟨none,(some 31),.build [.nils,(.int .i64 0)] [(0,1,(.t 30))]⟩,
  ⟨none,(some 32),.box (.t 31)⟩,
  ⟨none,(some 7),.mov (.t 32)⟩])
 (.seq (.region false [⟨none,(some 33),.mov (.t 7)⟩,
  ⟨none,(some 34),.call (.k (.fn (.func 6) [] [])) [(.t 33)]⟩,
  ⟨none,(some 8),.alloc [(.str []),.nils,.nils,.nils,(.bool false)]⟩,
  ⟨none,none,.store 5 (.t 8) (.t 34)⟩])
 (.seq (.region false [⟨none,(some 35),.mov (.t 7)⟩,
  ⟨none,(some 36),.call (.k (.fn (.func 8) [] [])) []⟩,
  ⟨none,(some 37),.call (.k (.fn (.func 7) [] [])) [(.t 35),(.t 36),(.k (.int .i64 6))]⟩,
  ⟨none,(some 9),.mov (.t 37)⟩])
 (.seq (.seq (.region false [⟨none,(some 38),.load 5 true (.t 4)⟩,
  ⟨none,(some 39),.load 5 true (.t 8)⟩,
  ⟨none,(some 40),.bsl 5 2 [(.str []),.nils,.nils,.nils,(.bool false)] [(0,5,(.t 38)),(5,5,(.t 39))]⟩,
  ⟨none,(some 41),.len (.t 40)⟩,
  ⟨none,(some 42),.mov (.k (.int .i64 0))⟩])
 (.block 0 (.loop a3L0)))
 (.seq (.region false [⟨none,(some 81),.call (.k (.fn (.func 14) [] [])) []⟩,
  ⟨none,(some 6),.mov (.t 81)⟩])
 .ret)))))))
 ntmps:=82
 res:=[.tmp 6]
theorem z842:zsjc P Tryz.f3=some a3:=by kernel_rfl
end Go.Proofs.YtjknipdiglpnlaaGreatDoor
set_option linter.unusedSimpArgs false
set_option linter.unusedVariables false
namespace Go.Proofs.YtjknipdiglpnlaaGreatDoor
open Go Go.Am
theorem zmqh {α:Type} {d:List α} {i:Nat} (h:i<d.length):d.take (i+1)=d.take i++[d[i]]:=by rw [List.take_add_one,List.getElem?_eq_getElem h]; rfl
def R (l:List Pt) (s:List UInt8) (k i:Nat):Bool:=if (l.getD k .dot).long then M l s (k+1) i else M l s k i
def nx (a tk lg:Nat→Bool):Nat→Nat→Bool
 | 0,_=>false
 | k+1,j=>nx a tk lg k j||(a k&&tk k&&(j == if lg k then k else k+1))
def fin (b lg:Nat→Bool):Nat→Bool
 | 0=>b 0
 | j+1=>b (j+1)||(fin b lg j&&lg j)
def ep (b lg:Nat→Bool) (k j:Nat):Bool:=if j≤k then fin b lg j else b j
theorem zie3 (a tk lg:Nat→Bool) : ∀ k,nx a tk lg k 0=(decide (0<k)&&lg 0&&a 0&&tk 0)
 | 0=>by simp [nx]
 | k+1=>by
  rw [nx,zie3 a tk lg k]
  by_cases hk:k=0
  ·subst hk; cases lg 0<;>cases a 0<;>cases tk 0<;>simp
  ·have h0:0<k:=by omega
   cases hl:lg k<;>cases a k<;>cases tk k<;>simp [h0,Ne.symm hk]
theorem zewj (a tk lg:Nat→Bool) (j:Nat) : ∀ k,nx a tk lg k (j+1)=((decide (j+1<k)&&lg (j+1)&&a (j+1)&&tk (j+1))||(decide (j<k) && !lg j&&a j&&tk j))
 | 0=>by simp [nx]
 | k+1=>by
  rw [nx,zewj a tk lg j k]
  by_cases h1:k=j+1
  ·subst h1
   have e0:j<j+1+1:=by omega
   cases lg (j+1)<;>cases a (j+1)<;>cases tk (j+1)<;>cases lg j<;>cases a j<;>cases tk j<;>simp [e0]
  ·by_cases h2:k=j
   ·subst h2
    have e0:¬ k+1<k:=by omega
    cases lg k<;>cases a k<;>cases tk k<;>simp [e0]
   ·have e1:decide (j+1<k+1)=decide (j<k):=by simp
    have e2:decide (j<k+1)=decide (j<k):=by simp; omega
    have e3:decide (j+1<k)=decide (j<k):=by simp; omega
    have e4:(j+1 == if lg k then k else k+1)=false:=by cases lg k<;>simp<;>omega
    rw [e1,e2,e3,e4]; simp
theorem zol2 {l:List Pt} {s:List UInt8} {i:Nat} (a tk lg:Nat→Bool) (ha : ∀ k,k≤l.length→a k=R l s k i) (ht : ∀ k,k<l.length→tk k=(l.getD k .dot).takes (bAt s i)) (hl : ∀ k,k<l.length→lg k=(l.getD k .dot).long) :
  ∀ j,j≤l.length→fin (nx a tk lg l.length) lg j=R l s j (i+1)
 | 0,_=>by
  rw [fin,zie3]
  by_cases h0:0<l.length
  ·rw [ha 0 (by omega),ht 0 h0,hl 0 h0]
   unfold R
   cases h:(l.getD 0 .dot).long with
   | false=>simp [zbas]
   | true=>simp only [h,if_true,zbwv h,zbas]; simp [h0]
  ·have e:(l.getD 0 .dot) = .dot:=by rw [List.getD_eq_getElem?_getD,List.getElem?_eq_none (by omega)]; rfl
   simp only [R,e]; simp [h0,Pt.long,zbas]
 | j+1,hj=>by
  have ih:=zol2 a tk lg ha ht hl j (by omega)
  have hj':j<l.length:=by omega
  rw [fin,zewj,ih,ha j (by omega),ht j hj',hl j hj']
  have e1:M l s (j+1) (i+1)=((R l s j (i+1)&&(l.getD j .dot).long)||(!(l.getD j .dot).long&&R l s j i&&(l.getD j .dot).takes (bAt s i))):=by
   unfold R
   cases h:(l.getD j .dot).long with
   | false=>simp [ze32 h]
   | true=>simp
  by_cases h1:j+1<l.length
  ·rw [ha (j+1) (by omega),ht (j+1) h1,hl (j+1) h1]
   cases h:(l.getD (j+1) .dot).long with
   | false =>
    have:R l s (j+1) (i+1)=M l s (j+1) (i+1):=by rw [R,if_neg (by rw [h]; simp)]
    rw [this,e1]
    cases (l.getD j .dot).long<;>cases R l s j (i+1)<;>cases R l s j i<;>simp [hj']
   | true =>
    have:R l s (j+1) (i+1)=(M l s (j+1) (i+1)||(R l s (j+1) i&&(l.getD (j+1) .dot).takes (bAt s i))):=by simp only [R,h,if_true]; exact zbwv h
    rw [this,e1]
    cases (l.getD j .dot).long<;>cases R l s j (i+1)<;>cases R l s j i<;>cases R l s (j+1) i<;>cases (l.getD (j+1) .dot).takes (bAt s i)<;>simp [hj',h1]
  ·have e:(l.getD (j+1) .dot) = .dot:=by rw [List.getD_eq_getElem?_getD,List.getElem?_eq_none (by omega)]; rfl
   have:R l s (j+1) (i+1)=M l s (j+1) (i+1):=by simp only [R,e]; simp [Pt.long]
   rw [this,e1]
   cases (l.getD j .dot).long<;>cases R l s j (i+1)<;>cases R l s j i<;>simp [hj',h1]
theorem z0fy (l:List Pt) (s:List UInt8) (i:Nat):R l s l.length i=M l s l.length i:=by
 have e:(l.getD l.length .dot) = .dot:=by rw [List.getD_eq_getElem?_getD,List.getElem?_eq_none (by omega)]; rfl
 simp only [R,e]; simp [Pt.long]
theorem zrib {l:List Pt} {s:List UInt8} {k:Nat} (h : ∀ i,i<k→(l.getD i .dot).long=true):M l s k 0=true:=by
 induction k with
 | zero=>rfl
 | succ k ih=>rw [z9av,h k (by omega),ih (fun i hi=>h i (by omega))]; rfl
theorem z82v {l:List Pt} {s:List UInt8} {k:Nat} (h:(l.getD k .dot).long=false) : ∀ j,k<j→M l s j 0=false
 | 0,hj=>by omega
 | j+1,hj=>by
  rw [z9av]
  by_cases e:j=k
  ·subst e; rw [h]; rfl
  ·rw [z82v h j (by omega)]; simp
theorem z3rn {l:List Pt} {s:List UInt8} {k:Nat} (hk : ∀ i,i<k→(l.getD i .dot).long=true) (h:(l.getD k .dot).long=false) (j:Nat):R l s j 0=decide (j≤k):=by
 unfold R
 by_cases hj:j≤k
 ·have h1:=zrib (s:=s) (k:=j) (fun i hi=>hk i (by omega))
  split
  ·rename_i hl; rw [z9av,hl,h1]; simp [hj]
  ·rw [h1]; simp [hj]
 ·split
  ·rw [z82v h (j+1) (by omega)]; simp [hj]
  ·rw [z82v h j (by omega)]; simp [hj]
theorem zejk {c:UInt8} {n:UInt8} (h:c≠n):c.toBitVec≠n.toBitVec:=fun e=>h (UInt8.toBitVec_inj.1 e)
theorem zbr2 {c:UInt8} (h1:c≠92) (h2:c≠42) (h3:c≠63) (r:List UInt8):prs (c::r)=(prs r).map fun l => .one c.toBitVec::l:=by
 have g1:c.toBitVec≠92#8:=zejk h1
 have g2:c.toBitVec≠42#8:=zejk h2
 have g3:c.toBitVec≠63#8:=zejk h3
 rw [prs.eq_def]; simp [g1,g2,g3]
theorem z32i (c:UInt8) (r:List UInt8):prs (92::c::r)=(prs r).map fun l => .one c.toBitVec::l:=by
 rw [prs.eq_def]; simp
theorem z2u1 (a b:List UInt8):noZ (a++b)=(noZ a&&noZ b):=by simp [noZ]
theorem z8rj {s:List UInt8} {i:Nat} (h:i<s.length):bAt s i=s[i].toBitVec:=by simp [bAt,List.getD_eq_getElem?_getD,List.getElem?_eq_getElem h]
end Go.Proofs.YtjknipdiglpnlaaGreatDoor
set_option linter.unusedSimpArgs false
set_option linter.unusedVariables false
namespace Go.Proofs.YtjknipdiglpnlaaGreatDoor
open Go Go.Am
def a94:AFn where
 code:=(.seq (.region false [⟨none,(some 4),.mov (.k (.int .i64 0))⟩])
 (.seq (.region false [⟨none,(some 5),.mov (.t 0)⟩,
  ⟨none,(some 6),.mov (.t 1)⟩,
  ⟨none,(some 7),.call (.k (.fn (.func 100) [] [])) [(.t 5),(.t 6)]⟩,
  ⟨none,(some 4),.mov (.t 7)⟩])
 .ret))
 ntmps:=8
 res:=[.tmp 4]
theorem ziuh:zsjc P Tryz.f94=some a94:=by kernel_rfl
def a87:AFn where
 code:=(.seq (.region false [⟨none,(some 4),.mov (.k (.int .i64 0))⟩])
 (.seq (.region false [⟨none,(some 5),.mov (.t 0)⟩,
  ⟨none,(some 6),.mov (.t 1)⟩,
  ⟨none,(some 7),.call (.k (.fn (.func 94) [] [])) [(.t 5),(.t 6)]⟩,
  ⟨none,(some 4),.mov (.t 7)⟩])
 .ret))
 ntmps:=8
 res:=[.tmp 4]
theorem zfhg:zsjc P Tryz.f87=some a87:=by kernel_rfl
def zhr2:ACode :=
 (.seq (.seq (.region false [⟨none,(some 57),.mov (.t 8)⟩,
  ⟨none,(some 58),.mov (.t 9)⟩,
  ⟨none,(some 59),.bin .lss (.t 57) (.t 58)⟩])
 (.cond (.t 59) .skip
 (.exit 1)))
 (.block 2 (.seq (.seq (.region false [⟨none,(some 60),.mov (.t 0)⟩,
  ⟨none,(some 61),.mov (.t 8)⟩,
  ⟨none,(some 62),.idxStr (.t 60) (.t 61)⟩,
  ⟨none,(some 63),.mov (.t 6)⟩,
  ⟨none,(some 64),.bin .neq (.t 62) (.t 63)⟩])
 (.cond (.t 64) (.seq (.region false [⟨none,(some 65),.mov (.t 0)⟩,
  ⟨none,(some 66),.mov (.t 8)⟩,
  ⟨none,(some 67),.bin .add (.t 66) (.k (.int .i64 1))⟩,
  ⟨none,(some 68),.mov (.t 9)⟩,
  ⟨none,(some 69),.slcStr (.t 65) (some (.t 67)) (some (.t 68))⟩,
  ⟨none,(some 70),.mov (.t 6)⟩,
  ⟨none,(some 71),.call (.k (.fn (.func 94) [] [])) [(.t 69),(.t 70)]⟩,
  ⟨none,(some 11),.mov (.t 71)⟩])
 (.seq (.seq (.region false [⟨none,(some 72),.mov (.t 11)⟩,
  ⟨none,(some 73),.bin .lss (.t 72) (.k (.int .i64 0))⟩])
 (.cond (.t 73) (.seq (.region false [⟨none,(some 4),.mov (.k (.int .i64 (-1)))⟩])
 .ret)
 .skip))
 (.region false [⟨none,(some 74),.mov (.t 8)⟩,
  ⟨none,(some 75),.mov (.t 11)⟩,
  ⟨none,(some 76),.bin .add (.t 75) (.k (.int .i64 1))⟩,
  ⟨none,(some 77),.bin .add (.t 74) (.t 76)⟩,
  ⟨none,(some 8),.mov (.t 77)⟩])))
 .skip))
 (.seq (.seq (.region false [⟨none,(some 78),.mov (.t 0)⟩,
  ⟨none,(some 79),.mov (.t 8)⟩,
  ⟨none,(some 80),.bin .add (.t 79) (.k (.int .i64 1))⟩,
  ⟨none,(some 81),.idxStr (.t 78) (.t 80)⟩,
  ⟨none,(some 82),.mov (.t 7)⟩,
  ⟨none,(some 83),.bin .eql (.t 81) (.t 82)⟩,
  ⟨none,(some 84),.mov (.t 83)⟩,
  ⟨(some (84,true)),(some 85),.mov (.t 0)⟩,
  ⟨(some (84,true)),(some 86),.mov (.t 8)⟩,
  ⟨(some (84,true)),(some 87),.mov (.t 8)⟩,
  ⟨(some (84,true)),(some 88),.mov (.t 5)⟩,
  ⟨(some (84,true)),(some 89),.bin .add (.t 87) (.t 88)⟩,
  ⟨(some (84,true)),(some 90),.slcStr (.t 85) (some (.t 86)) (some (.t 89))⟩,
  ⟨(some (84,true)),(some 91),.mov (.t 1)⟩,
  ⟨(some (84,true)),(some 92),.bin .eql (.t 90) (.t 91)⟩,
  ⟨none,(some 93),.pick (.t 84) (.t 92) (.k (.bool false))⟩])
 (.cond (.t 93) (.seq (.region false [⟨none,(some 94),.mov (.t 8)⟩,
  ⟨none,(some 4),.mov (.t 94)⟩])
 .ret)
 .skip))
 (.seq (.region false [⟨none,(some 95),.mov (.t 8)⟩,
  ⟨none,(some 96),.bin .add (.t 95) (.k (.int .i64 1))⟩,
  ⟨none,(some 8),.mov (.t 96)⟩])
 (.seq (.region false [⟨none,(some 97),.mov (.t 10)⟩,
  ⟨none,(some 98),.bin .add (.t 97) (.k (.int .i64 1))⟩,
  ⟨none,(some 10),.mov (.t 98)⟩])
 (.seq (.region false [⟨none,(some 99),.mov (.t 5)⟩,
  ⟨none,(some 100),.ext (.k .junk) 0⟩,
  ⟨none,(some 101),.bin .leq (.t 99) (.t 100)⟩,
  ⟨none,(some 102),.mov (.t 101)⟩,
  ⟨(some (102,true)),(some 103),.mov (.t 10)⟩,
  ⟨(some (102,true)),(some 104),.mov (.t 8)⟩,
  ⟨(some (102,true)),(some 105),.call (.k (.fn (.func 106) [] [])) [(.t 104)]⟩,
  ⟨(some (102,true)),(some 106),.bin .gtr (.t 103) (.t 105)⟩,
  ⟨none,(some 107),.pick (.t 102) (.t 106) (.k (.bool false))⟩])
 (.cond (.t 107) (.seq (.region false [⟨none,(some 108),.mov (.t 0)⟩,
  ⟨none,(some 109),.mov (.t 8)⟩,
  ⟨none,(some 110),.slcStr (.t 108) (some (.t 109)) none⟩,
  ⟨none,(some 111),.mov (.t 1)⟩,
  ⟨none,(some 112),.call (.k (.fn (.func 105) [] [])) [(.t 110),(.t 111)]⟩,
  ⟨none,(some 12),.mov (.t 112)⟩])
 (.seq (.seq (.region false [⟨none,(some 113),.mov (.t 12)⟩,
  ⟨none,(some 114),.bin .geq (.t 113) (.k (.int .i64 0))⟩])
 (.cond (.t 114) (.seq (.region false [⟨none,(some 115),.mov (.t 12)⟩,
  ⟨none,(some 116),.mov (.t 8)⟩,
  ⟨none,(some 117),.bin .add (.t 115) (.t 116)⟩,
  ⟨none,(some 4),.mov (.t 117)⟩])
 .ret)
 .skip))
 (.seq (.region false [⟨none,(some 4),.mov (.k (.int .i64 (-1)))⟩])
 .ret)))
 (.seq (.region false [⟨none,(some 118),.mov (.t 5)⟩,
  ⟨none,(some 119),.ext (.k .junk) 0⟩,
  ⟨none,(some 120),.bin .gtr (.t 118) (.t 119)⟩,
  ⟨none,(some 121),.mov (.t 120)⟩,
  ⟨(some (121,true)),(some 122),.mov (.t 10)⟩,
  ⟨(some (121,true)),(some 123),.mov (.t 8)⟩,
  ⟨(some (121,true)),(some 124),.bin .shr (.t 123) (.k (w64 4#64))⟩,
  ⟨(some (121,true)),(some 125),.bin .add (.k (.int .i64 4)) (.t 124)⟩,
  ⟨(some (121,true)),(some 126),.bin .geq (.t 122) (.t 125)⟩,
  ⟨none,(some 127),.pick (.t 121) (.t 126) (.k (.bool false))⟩,
  ⟨none,(some 128),.mov (.t 127)⟩,
  ⟨(some (128,true)),(some 129),.mov (.t 8)⟩,
  ⟨(some (128,true)),(some 130),.mov (.t 9)⟩,
  ⟨(some (128,true)),(some 131),.bin .lss (.t 129) (.t 130)⟩,
  ⟨none,(some 132),.pick (.t 128) (.t 131) (.k (.bool false))⟩])
 (.cond (.t 132) (.seq (.region false [⟨none,(some 133),.mov (.t 0)⟩,
  ⟨none,(some 134),.mov (.t 8)⟩,
  ⟨none,(some 135),.slcStr (.t 133) (some (.t 134)) none⟩,
  ⟨none,(some 136),.mov (.t 1)⟩,
  ⟨none,(some 137),.call (.k (.fn (.func 107) [] [])) [(.t 135),(.t 136)]⟩,
  ⟨none,(some 13),.mov (.t 137)⟩])
 (.seq (.seq (.region false [⟨none,(some 138),.mov (.t 13)⟩,
  ⟨none,(some 139),.bin .lss (.t 138) (.k (.int .i64 0))⟩])
 (.cond (.t 139) (.seq (.region false [⟨none,(some 4),.mov (.k (.int .i64 (-1)))⟩])
 .ret)
 .skip))
 (.seq (.region false [⟨none,(some 140),.mov (.t 8)⟩,
  ⟨none,(some 141),.mov (.t 13)⟩,
  ⟨none,(some 142),.bin .add (.t 140) (.t 141)⟩,
  ⟨none,(some 4),.mov (.t 142)⟩])
 .ret)))
 .skip))))))))))
def a101:AFn where
 code:=(.seq (.region false [⟨none,(some 4),.mov (.k (.int .i64 0))⟩])
 (.seq (.region false [⟨none,(some 14),.mov (.t 1)⟩,
  ⟨none,(some 15),.lenStr (.t 14)⟩,
  ⟨none,(some 5),.mov (.t 15)⟩])
 (.seq (.block 0 (.seq (.region false [⟨none,(some 17),.mov (.t 5)⟩,
  ⟨none,(some 18),.bin .eql (.t 17) (.k (.int .i64 0))⟩,
  ⟨none,(some 19),.mov (.t 18)⟩,
  ⟨(some (19,false)),(some 20),.mov (.t 1)⟩,
  ⟨(some (19,false)),(some 21),.mov (.t 0)⟩,
  ⟨(some (19,false)),(some 22),.bin .eql (.t 20) (.t 21)⟩,
  ⟨none,(some 23),.pick (.t 19) (.k (.bool true)) (.t 22)⟩,
  ⟨none,(some 16),.mov (.t 23)⟩])
 (.cond (.t 16) (.seq (.region false [⟨none,(some 4),.mov (.k (.int .i64 0))⟩])
 .ret)
 (.seq (.region false [⟨none,(some 25),.mov (.t 5)⟩,
  ⟨none,(some 26),.bin .eql (.t 25) (.k (.int .i64 1))⟩,
  ⟨none,(some 24),.mov (.t 26)⟩])
 (.cond (.t 24) (.seq (.region false [⟨none,(some 27),.mov (.t 0)⟩,
  ⟨none,(some 28),.mov (.t 1)⟩,
  ⟨none,(some 29),.idxStr (.t 28) (.k (.int .i64 0))⟩,
  ⟨none,(some 30),.call (.k (.fn (.func 94) [] [])) [(.t 27),(.t 29)]⟩,
  ⟨none,(some 4),.mov (.t 30)⟩])
 .ret)
 (.seq (.region false [⟨none,(some 32),.mov (.t 5)⟩,
  ⟨none,(some 33),.mov (.t 0)⟩,
  ⟨none,(some 34),.lenStr (.t 33)⟩,
  ⟨none,(some 35),.bin .geq (.t 32) (.t 34)⟩,
  ⟨none,(some 31),.mov (.t 35)⟩])
 (.cond (.t 31) (.seq (.region false [⟨none,(some 4),.mov (.k (.int .i64 (-1)))⟩])
 .ret)
 (.seq (.region false [⟨none,(some 37),.mov (.t 5)⟩,
  ⟨none,(some 38),.ext (.k .junk) 0⟩,
  ⟨none,(some 39),.bin .leq (.t 37) (.t 38)⟩,
  ⟨none,(some 40),.mov (.t 39)⟩,
  ⟨(some (40,true)),(some 41),.mov (.t 0)⟩,
  ⟨(some (40,true)),(some 42),.lenStr (.t 41)⟩,
  ⟨(some (40,true)),(some 43),.bin .leq (.t 42) (.k (.int .i64 64))⟩,
  ⟨none,(some 44),.pick (.t 40) (.t 43) (.k (.bool false))⟩,
  ⟨none,(some 36),.mov (.t 44)⟩])
 (.cond (.t 36) (.seq (.region false [⟨none,(some 45),.mov (.t 0)⟩,
  ⟨none,(some 46),.mov (.t 1)⟩,
  ⟨none,(some 47),.call (.k (.fn (.func 105) [] [])) [(.t 45),(.t 46)]⟩,
  ⟨none,(some 4),.mov (.t 47)⟩])
 .ret)
 .skip)))))))))
 (.seq (.region false [⟨none,(some 48),.mov (.t 1)⟩,
  ⟨none,(some 49),.idxStr (.t 48) (.k (.int .i64 0))⟩,
  ⟨none,(some 6),.mov (.t 49)⟩])
 (.seq (.region false [⟨none,(some 50),.mov (.t 1)⟩,
  ⟨none,(some 51),.idxStr (.t 50) (.k (.int .i64 1))⟩,
  ⟨none,(some 7),.mov (.t 51)⟩])
 (.seq (.region false [⟨none,(some 8),.mov (.k (.int .i64 0))⟩])
 (.seq (.region false [⟨none,(some 52),.mov (.t 0)⟩,
  ⟨none,(some 53),.lenStr (.t 52)⟩,
  ⟨none,(some 54),.mov (.t 5)⟩,
  ⟨none,(some 55),.bin .sub (.t 53) (.t 54)⟩,
  ⟨none,(some 56),.bin .add (.t 55) (.k (.int .i64 1))⟩,
  ⟨none,(some 9),.mov (.t 56)⟩])
 (.seq (.region false [⟨none,(some 10),.mov (.k (.int .i64 0))⟩])
 (.seq (.block 1 (.loop zhr2))
 (.seq (.region false [⟨none,(some 4),.mov (.k (.int .i64 (-1)))⟩])
 .ret))))))))))
 ntmps:=143
 res:=[.tmp 4]
theorem zzmu:zsjc P Tryz.f101=some a101:=by kernel_rfl
def a99:AFn where
 code:=(.seq (.region false [⟨none,(some 4),.mov (.k (.int .i64 0))⟩])
 (.seq (.region false [⟨none,(some 5),.mov (.t 0)⟩,
  ⟨none,(some 6),.mov (.t 1)⟩,
  ⟨none,(some 7),.call (.k (.fn (.func 101) [] [])) [(.t 5),(.t 6)]⟩,
  ⟨none,(some 4),.mov (.t 7)⟩])
 .ret))
 ntmps:=8
 res:=[.tmp 4]
theorem zcou:zsjc P Tryz.f99=some a99:=by kernel_rfl
def a95:AFn where
 code:=(.seq (.region false [⟨none,(some 4),.mov (.k (.str []))⟩,
  ⟨none,(some 5),.mov (.k (.str []))⟩,
  ⟨none,(some 6),.mov (.k (.bool false))⟩])
 (.seq (.seq (.region false [⟨none,(some 8),.mov (.t 0)⟩,
  ⟨none,(some 9),.mov (.t 1)⟩,
  ⟨none,(some 10),.call (.k (.fn (.func 101) [] [])) [(.t 8),(.t 9)]⟩,
  ⟨none,(some 7),.mov (.t 10)⟩])
 (.seq (.region false [⟨none,(some 11),.mov (.t 7)⟩,
  ⟨none,(some 12),.bin .geq (.t 11) (.k (.int .i64 0))⟩])
 (.cond (.t 12) (.seq (.region true [⟨none,(some 13),.mov (.t 0)⟩,
  ⟨none,(some 14),.mov (.t 7)⟩,
  ⟨none,(some 15),.slcStr (.t 13) none (some (.t 14))⟩,
  ⟨none,(some 16),.mov (.t 0)⟩,
  ⟨none,(some 17),.mov (.t 7)⟩,
  ⟨none,(some 18),.mov (.t 1)⟩,
  ⟨none,(some 19),.lenStr (.t 18)⟩,
  ⟨none,(some 20),.bin .add (.t 17) (.t 19)⟩,
  ⟨none,(some 21),.slcStr (.t 16) (some (.t 20)) none⟩,
  ⟨none,(some 4),.mov (.t 15)⟩,
  ⟨none,(some 5),.mov (.t 21)⟩,
  ⟨none,(some 6),.mov (.k (.bool true))⟩])
 .ret)
 .skip)))
 (.seq (.region false [⟨none,(some 22),.mov (.t 0)⟩,
  ⟨none,(some 4),.mov (.t 22)⟩,
  ⟨none,(some 5),.mov (.k (.str []))⟩,
  ⟨none,(some 6),.mov (.k (.bool false))⟩])
 .ret)))
 ntmps:=23
 res:=[.tmp 4,.tmp 5,.tmp 6]
theorem z4uo:zsjc P Tryz.f95=some a95:=by kernel_rfl
def a88:AFn where
 code:=(.seq (.region false [⟨none,(some 4),.mov (.k (.str []))⟩,
  ⟨none,(some 5),.mov (.k (.str []))⟩,
  ⟨none,(some 6),.mov (.k (.bool false))⟩])
 (.seq (.region false [⟨none,(some 7),.mov (.t 0)⟩,
  ⟨none,(some 8),.mov (.t 1)⟩,
  ⟨none,(some 9),.call (.k (.fn (.func 95) [] [])) [(.t 7),(.t 8)]⟩,
  ⟨none,(some 10),.ext (.t 9) 0⟩,
  ⟨none,(some 11),.ext (.t 9) 1⟩,
  ⟨none,(some 12),.ext (.t 9) 2⟩,
  ⟨none,(some 4),.mov (.t 10)⟩,
  ⟨none,(some 5),.mov (.t 11)⟩,
  ⟨none,(some 6),.mov (.t 12)⟩])
 .ret))
 ntmps:=13
 res:=[.tmp 4,.tmp 5,.tmp 6]
theorem zqgj:zsjc P Tryz.f88=some a88:=by kernel_rfl
def a96:AFn where
 code:=(.seq (.region false [⟨none,(some 4),.mov (.k (.bool false))⟩])
 (.seq (.region false [⟨none,(some 5),.mov (.t 0)⟩,
  ⟨none,(some 6),.lenStr (.t 5)⟩,
  ⟨none,(some 7),.mov (.t 1)⟩,
  ⟨none,(some 8),.lenStr (.t 7)⟩,
  ⟨none,(some 9),.bin .geq (.t 6) (.t 8)⟩,
  ⟨none,(some 10),.mov (.t 9)⟩,
  ⟨(some (10,true)),(some 11),.mov (.t 0)⟩,
  ⟨(some (10,true)),(some 12),.mov (.t 1)⟩,
  ⟨(some (10,true)),(some 13),.lenStr (.t 12)⟩,
  ⟨(some (10,true)),(some 14),.slcStr (.t 11) none (some (.t 13))⟩,
  ⟨(some (10,true)),(some 15),.mov (.t 1)⟩,
  ⟨(some (10,true)),(some 16),.bin .eql (.t 14) (.t 15)⟩,
  ⟨none,(some 17),.pick (.t 10) (.t 16) (.k (.bool false))⟩,
  ⟨none,(some 4),.mov (.t 17)⟩])
 .ret))
 ntmps:=18
 res:=[.tmp 4]
theorem z54d:zsjc P Tryz.f96=some a96:=by kernel_rfl
def a89:AFn where
 code:=(.seq (.region false [⟨none,(some 4),.mov (.k (.str []))⟩,
  ⟨none,(some 5),.mov (.k (.bool false))⟩])
 (.seq (.seq (.region false [⟨none,(some 6),.mov (.t 0)⟩,
  ⟨none,(some 7),.mov (.t 1)⟩,
  ⟨none,(some 8),.call (.k (.fn (.func 96) [] [])) [(.t 6),(.t 7)]⟩,
  ⟨none,(some 9),.un .not (.t 8)⟩])
 (.cond (.t 9) (.seq (.region false [⟨none,(some 10),.mov (.t 0)⟩,
  ⟨none,(some 4),.mov (.t 10)⟩,
  ⟨none,(some 5),.mov (.k (.bool false))⟩])
 .ret)
 .skip))
 (.seq (.region false [⟨none,(some 11),.mov (.t 0)⟩,
  ⟨none,(some 12),.mov (.t 1)⟩,
  ⟨none,(some 13),.lenStr (.t 12)⟩,
  ⟨none,(some 14),.slcStr (.t 11) (some (.t 13)) none⟩,
  ⟨none,(some 4),.mov (.t 14)⟩,
  ⟨none,(some 5),.mov (.k (.bool true))⟩])
 .ret)))
 ntmps:=15
 res:=[.tmp 4,.tmp 5]
theorem z42j:zsjc P Tryz.f89=some a89:=by kernel_rfl
def a77:AFn where
 code:=(.seq (.region false [⟨none,(some 4),.mov (.k (.str []))⟩,
  ⟨none,(some 5),.mov (.k (.bool false))⟩])
 (.seq (.region false [⟨none,(some 6),.mov (.t 0)⟩,
  ⟨none,(some 7),.mov (.t 1)⟩,
  ⟨none,(some 8),.call (.k (.fn (.func 89) [] [])) [(.t 6),(.t 7)]⟩,
  ⟨none,(some 9),.ext (.t 8) 0⟩,
  ⟨none,(some 10),.ext (.t 8) 1⟩,
  ⟨none,(some 4),.mov (.t 9)⟩,
  ⟨none,(some 5),.mov (.t 10)⟩])
 .ret))
 ntmps:=11
 res:=[.tmp 4,.tmp 5]
theorem z20a:zsjc P Tryz.f77=some a77:=by kernel_rfl
def z079:ACode :=
 (.seq (.seq (.region false [⟨none,(some 18),.mov (.t 3)⟩])
 (.cond (.t 18) .skip
 (.exit 0)))
 (.block 1 (.seq (.region false [⟨none,(some 4),.mov (.k (.str []))⟩])
 (.seq (.region false [⟨none,(some 20),.mov (.t 0)⟩,
  ⟨none,(some 21),.call (.k (.fn (.func 88) [] [])) [(.t 20),(.k (.str [47]))]⟩,
  ⟨none,(some 19),.mov (.t 21)⟩,
  ⟨none,(some 22),.ext (.t 19) 0⟩,
  ⟨none,(some 23),.ext (.t 19) 1⟩,
  ⟨none,(some 24),.ext (.t 19) 2⟩,
  ⟨none,(some 4),.mov (.t 22)⟩,
  ⟨none,(some 0),.mov (.t 23)⟩,
  ⟨none,(some 3),.mov (.t 24)⟩])
 (.seq (.region false [⟨none,(some 25),.mov (.t 4)⟩,
  ⟨none,(some 26),.bin .eql (.t 25) (.k (.str []))⟩,
  ⟨none,(some 27),.mov (.t 26)⟩,
  ⟨(some (27,false)),(some 28),.mov (.t 4)⟩,
  ⟨(some (27,false)),(some 29),.bin .eql (.t 28) (.k (.str [46]))⟩,
  ⟨none,(some 30),.pick (.t 27) (.k (.bool true)) (.t 29)⟩,
  ⟨none,(some 31),.mov (.t 30)⟩,
  ⟨(some (31,false)),(some 32),.mov (.t 4)⟩,
  ⟨(some (31,false)),(some 33),.bin .eql (.t 32) (.k (.str [46,46]))⟩,
  ⟨none,(some 34),.pick (.t 31) (.k (.bool true)) (.t 33)⟩])
 (.cond (.t 34) (.seq (.region false [⟨none,(some 2),.mov (.k (.bool false))⟩])
 .ret)
 .skip))))))
def zvff (x0 x3:DV) (h:List AObj):St:=⟨[x0,.junk,.junk,x3]++js 31,h⟩
def a76:AFn where
 code:=(.seq (.region false [⟨none,(some 2),.mov (.k (.bool false))⟩])
 (.seq (.seq (.region false [⟨none,(some 5),.mov (.t 0)⟩,
  ⟨none,(some 6),.lenStr (.t 5)⟩,
  ⟨none,(some 7),.bin .lss (.t 6) (.k (.int .i64 1))⟩,
  ⟨none,(some 8),.mov (.t 7)⟩,
  ⟨(some (8,false)),(some 9),.mov (.t 0)⟩,
  ⟨(some (8,false)),(some 10),.lenStr (.t 9)⟩,
  ⟨(some (8,false)),(some 11),.bin .gtr (.t 10) (.k (.int .i64 200))⟩,
  ⟨none,(some 12),.pick (.t 8) (.k (.bool true)) (.t 11)⟩,
  ⟨none,(some 13),.mov (.t 12)⟩,
  ⟨(some (13,false)),(some 14),.mov (.t 0)⟩,
  ⟨(some (13,false)),(some 15),.call (.k (.fn (.func 87) [] [])) [(.t 14),(.k (w8 0#8))]⟩,
  ⟨(some (13,false)),(some 16),.bin .geq (.t 15) (.k (.int .i64 0))⟩,
  ⟨none,(some 17),.pick (.t 13) (.k (.bool true)) (.t 16)⟩])
 (.cond (.t 17) (.seq (.region false [⟨none,(some 2),.mov (.k (.bool false))⟩])
 .ret)
 .skip))
 (.seq (.seq (.region false [⟨none,(some 3),.mov (.k (.bool true))⟩])
 (.block 0 (.loop z079)))
 (.seq (.region false [⟨none,(some 2),.mov (.k (.bool true))⟩])
 .ret))))
 ntmps:=35
 res:=[.tmp 2]
theorem zqxf:zsjc P Tryz.f76=some a76:=by kernel_rfl
def zoac:ACode :=
 (.seq (.seq (.region false [⟨none,(some 19),.mov (.t 5)⟩,
  ⟨none,(some 20),.mov (.t 0)⟩,
  ⟨none,(some 21),.lenStr (.t 20)⟩,
  ⟨none,(some 22),.bin .lss (.t 19) (.t 21)⟩])
 (.cond (.t 22) .skip
 (.exit 0)))
 (.seq (.block 1 (.block 2 (.seq (.region false [⟨none,(some 33),.mov (.t 0)⟩,
  ⟨none,(some 34),.mov (.t 5)⟩,
  ⟨none,(some 35),.idxStr (.t 33) (.t 34)⟩,
  ⟨none,(some 36),.bin .eql (.t 35) (.k (w8 92#8))⟩,
  ⟨none,(some 32),.mov (.t 36)⟩])
 (.cond (.t 32) (.seq (.region false [⟨none,(some 37),.mov (.t 5)⟩,
  ⟨none,(some 38),.bin .add (.t 37) (.k (.int .i64 1))⟩,
  ⟨none,(some 5),.mov (.t 38)⟩])
 (.seq (.seq (.region false [⟨none,(some 39),.mov (.t 5)⟩,
  ⟨none,(some 40),.mov (.t 0)⟩,
  ⟨none,(some 41),.lenStr (.t 40)⟩,
  ⟨none,(some 42),.bin .eql (.t 39) (.t 41)⟩])
 (.cond (.t 42) (.seq (.region false [⟨none,(some 2),.mov (.k .nils)⟩,
  ⟨none,(some 3),.mov (.k (.bool false))⟩])
 .ret)
 .skip))
 (.region false [⟨none,(some 43),.mov (.t 4)⟩,
  ⟨none,(some 44),.mov (.t 0)⟩,
  ⟨none,(some 45),.mov (.t 5)⟩,
  ⟨none,(some 46),.idxStr (.t 44) (.t 45)⟩,
  ⟨none,(some 47),.build [(.int .i64 0),(w8 0#8)] [(0,1,(.k (.int .i64 0))),(1,1,(.t 46))]⟩,
  ⟨none,(some 48),.bsl 2 1 [(.int .i64 0),(w8 0#8)] [(0,2,(.t 47))]⟩,
  ⟨none,(some 49),.app 2 16 (.t 43) (.t 48)⟩,
  ⟨none,(some 4),.mov (.t 49)⟩])))
 (.seq (.region false [⟨none,(some 51),.mov (.t 0)⟩,
  ⟨none,(some 52),.mov (.t 5)⟩,
  ⟨none,(some 53),.idxStr (.t 51) (.t 52)⟩,
  ⟨none,(some 54),.bin .eql (.t 53) (.k (w8 63#8))⟩,
  ⟨none,(some 50),.mov (.t 54)⟩])
 (.cond (.t 50) (.region false [⟨none,(some 55),.mov (.t 4)⟩,
  ⟨none,(some 56),.build [(.int .i64 0),(w8 0#8)] [(0,1,(.k (.int .i64 1)))]⟩,
  ⟨none,(some 57),.bsl 2 1 [(.int .i64 0),(w8 0#8)] [(0,2,(.t 56))]⟩,
  ⟨none,(some 58),.app 2 16 (.t 55) (.t 57)⟩,
  ⟨none,(some 4),.mov (.t 58)⟩])
 (.seq (.region false [⟨none,(some 60),.mov (.t 0)⟩,
  ⟨none,(some 61),.mov (.t 5)⟩,
  ⟨none,(some 62),.idxStr (.t 60) (.t 61)⟩,
  ⟨none,(some 63),.bin .eql (.t 62) (.k (w8 42#8))⟩,
  ⟨none,(some 64),.mov (.t 63)⟩,
  ⟨(some (64,true)),(some 65),.mov (.t 5)⟩,
  ⟨(some (64,true)),(some 66),.bin .add (.t 65) (.k (.int .i64 1))⟩,
  ⟨(some (64,true)),(some 67),.mov (.t 0)⟩,
  ⟨(some (64,true)),(some 68),.lenStr (.t 67)⟩,
  ⟨(some (64,true)),(some 69),.bin .lss (.t 66) (.t 68)⟩,
  ⟨none,(some 70),.pick (.t 64) (.t 69) (.k (.bool false))⟩,
  ⟨none,(some 71),.mov (.t 70)⟩,
  ⟨(some (71,true)),(some 72),.mov (.t 0)⟩,
  ⟨(some (71,true)),(some 73),.mov (.t 5)⟩,
  ⟨(some (71,true)),(some 74),.bin .add (.t 73) (.k (.int .i64 1))⟩,
  ⟨(some (71,true)),(some 75),.idxStr (.t 72) (.t 74)⟩,
  ⟨(some (71,true)),(some 76),.bin .eql (.t 75) (.k (w8 42#8))⟩,
  ⟨none,(some 77),.pick (.t 71) (.t 76) (.k (.bool false))⟩,
  ⟨none,(some 59),.mov (.t 77)⟩])
 (.cond (.t 59) (.seq (.region false [⟨none,(some 78),.mov (.t 5)⟩,
  ⟨none,(some 79),.bin .add (.t 78) (.k (.int .i64 1))⟩,
  ⟨none,(some 5),.mov (.t 79)⟩])
 (.region false [⟨none,(some 80),.mov (.t 4)⟩,
  ⟨none,(some 81),.build [(.int .i64 0),(w8 0#8)] [(0,1,(.k (.int .i64 3)))]⟩,
  ⟨none,(some 82),.bsl 2 1 [(.int .i64 0),(w8 0#8)] [(0,2,(.t 81))]⟩,
  ⟨none,(some 83),.app 2 16 (.t 80) (.t 82)⟩,
  ⟨none,(some 4),.mov (.t 83)⟩]))
 (.seq (.region false [⟨none,(some 85),.mov (.t 0)⟩,
  ⟨none,(some 86),.mov (.t 5)⟩,
  ⟨none,(some 87),.idxStr (.t 85) (.t 86)⟩,
  ⟨none,(some 88),.bin .eql (.t 87) (.k (w8 42#8))⟩,
  ⟨none,(some 84),.mov (.t 88)⟩])
 (.cond (.t 84) (.region false [⟨none,(some 89),.mov (.t 4)⟩,
  ⟨none,(some 90),.build [(.int .i64 0),(w8 0#8)] [(0,1,(.k (.int .i64 2)))]⟩,
  ⟨none,(some 91),.bsl 2 1 [(.int .i64 0),(w8 0#8)] [(0,2,(.t 90))]⟩,
  ⟨none,(some 92),.app 2 16 (.t 89) (.t 91)⟩,
  ⟨none,(some 4),.mov (.t 92)⟩])
 (.region false [⟨none,(some 25),.mov (.t 4)⟩,
  ⟨none,(some 26),.mov (.t 0)⟩,
  ⟨none,(some 27),.mov (.t 5)⟩,
  ⟨none,(some 28),.idxStr (.t 26) (.t 27)⟩,
  ⟨none,(some 29),.build [(.int .i64 0),(w8 0#8)] [(0,1,(.k (.int .i64 0))),(1,1,(.t 28))]⟩,
  ⟨none,(some 30),.bsl 2 1 [(.int .i64 0),(w8 0#8)] [(0,2,(.t 29))]⟩,
  ⟨none,(some 31),.app 2 16 (.t 25) (.t 30)⟩,
  ⟨none,(some 4),.mov (.t 31)⟩])))))))))))
 (.region false [⟨none,(some 23),.mov (.t 5)⟩,
  ⟨none,(some 24),.bin .add (.t 23) (.k (.int .i64 1))⟩,
  ⟨none,(some 5),.mov (.t 24)⟩])))
def zcu8 (x0 x4 x5:DV) (h:List AObj):St:=⟨[x0,.junk,.junk,.junk,x4,x5]++js 88,h⟩
def a78:AFn where
 code:=(.seq (.region false [⟨none,(some 2),.mov (.k .nils)⟩,
  ⟨none,(some 3),.mov (.k (.bool false))⟩])
 (.seq (.seq (.region false [⟨none,(some 6),.mov (.t 0)⟩,
  ⟨none,(some 7),.lenStr (.t 6)⟩,
  ⟨none,(some 8),.bin .lss (.t 7) (.k (.int .i64 1))⟩,
  ⟨none,(some 9),.mov (.t 8)⟩,
  ⟨(some (9,false)),(some 10),.mov (.t 0)⟩,
  ⟨(some (9,false)),(some 11),.lenStr (.t 10)⟩,
  ⟨(some (9,false)),(some 12),.bin .gtr (.t 11) (.k (.int .i64 200))⟩,
  ⟨none,(some 13),.pick (.t 9) (.k (.bool true)) (.t 12)⟩,
  ⟨none,(some 14),.mov (.t 13)⟩,
  ⟨(some (14,false)),(some 15),.mov (.t 0)⟩,
  ⟨(some (14,false)),(some 16),.call (.k (.fn (.func 87) [] [])) [(.t 15),(.k (w8 0#8))]⟩,
  ⟨(some (14,false)),(some 17),.bin .geq (.t 16) (.k (.int .i64 0))⟩,
  ⟨none,(some 18),.pick (.t 14) (.k (.bool true)) (.t 17)⟩])
 (.cond (.t 18) (.seq (.region false [⟨none,(some 2),.mov (.k .nils)⟩,
  ⟨none,(some 3),.mov (.k (.bool false))⟩])
 .ret)
 .skip))
 (.seq (.region false [⟨none,(some 4),.mov (.k .nils)⟩])
 (.seq (.seq (.region false [⟨none,(some 5),.mov (.k (.int .i64 0))⟩])
 (.block 0 (.loop zoac)))
 (.seq (.region false [⟨none,(some 93),.mov (.t 4)⟩,
  ⟨none,(some 2),.mov (.t 93)⟩,
  ⟨none,(some 3),.mov (.k (.bool true))⟩])
 .ret)))))
 ntmps:=94
 res:=[.tmp 2,.tmp 3]
theorem zetr:zsjc P Tryz.f78=some a78:=by kernel_rfl
def a61:AFn where
 code:=(.seq (.region false [⟨none,(some 2),.mov (.k (.bool false))⟩])
 (.seq (.region false [⟨none,(some 6),.mov (.t 0)⟩,
  ⟨none,(some 7),.call (.k (.fn (.func 78) [] [])) [(.t 6)]⟩,
  ⟨none,(some 5),.mov (.t 7)⟩,
  ⟨none,(some 8),.ext (.t 5) 0⟩,
  ⟨none,(some 9),.ext (.t 5) 1⟩,
  ⟨none,(some 3),.mov (.t 8)⟩,
  ⟨none,(some 4),.mov (.t 9)⟩])
 (.seq (.region false [⟨none,(some 10),.mov (.t 4)⟩,
  ⟨none,(some 2),.mov (.t 10)⟩])
 .ret)))
 ntmps:=11
 res:=[.tmp 2]
theorem zuuw:zsjc P Tryz.f61=some a61:=by kernel_rfl
def a79:AFn where
 code:=(.seq (.region false [⟨none,(some 1),.box (.t 0)⟩,
  ⟨none,(some 2),.mov (.k .nilf)⟩])
 (.seq (.seq (.region false [⟨none,(some 3),.fld 0 (.t 1)⟩,
  ⟨none,(some 4),.load 1 false (.t 3)⟩])
 (.block 0 (.seq (.region false [⟨none,(some 6),.bin .eql (.t 4) (.k (.int .i64 0))⟩,
  ⟨none,(some 5),.mov (.t 6)⟩])
 (.cond (.t 5) (.seq (.region false [⟨none,(some 7),.mkf (.func 90) [] [(.t 1)]⟩,
  ⟨none,(some 2),.mov (.t 7)⟩])
 .ret)
 (.seq (.region false [⟨none,(some 9),.bin .eql (.t 4) (.k (.int .i64 3))⟩,
  ⟨none,(some 8),.mov (.t 9)⟩])
 (.cond (.t 8) (.seq (.region false [⟨none,(some 2),.mov (.k (.fn (.func 91) [] []))⟩])
 .ret)
 .skip))))))
 (.seq (.region false [⟨none,(some 2),.mov (.k (.fn (.func 92) [] []))⟩])
 .ret)))
 ntmps:=10
 res:=[.tmp 2]
theorem zaq4:zsjc P Tryz.f79=some a79:=by kernel_rfl
def a90:AFn where
 code:=(.seq (.region false [⟨none,(some 3),.mov (.k (.bool false))⟩])
 (.seq (.region false [⟨none,(some 4),.mov (.t 0)⟩,
  ⟨none,(some 5),.fld 1 (.t 1)⟩,
  ⟨none,(some 6),.load 1 false (.t 5)⟩,
  ⟨none,(some 7),.bin .eql (.t 4) (.t 6)⟩,
  ⟨none,(some 3),.mov (.t 7)⟩])
 .ret))
 ntmps:=8
 res:=[.tmp 3]
theorem z9pi:zsjc P Tryz.f90=some a90:=by kernel_rfl
def a91:AFn where
 code:=(.seq (.region false [⟨none,(some 2),.mov (.k (.bool false))⟩])
 (.seq (.region false [⟨none,(some 2),.mov (.k (.bool true))⟩])
 .ret))
 ntmps:=3
 res:=[.tmp 2]
theorem z07s:zsjc P Tryz.f91=some a91:=by kernel_rfl
def a92:AFn where
 code:=(.seq (.region false [⟨none,(some 2),.mov (.k (.bool false))⟩])
 (.seq (.region false [⟨none,(some 3),.mov (.t 0)⟩,
  ⟨none,(some 4),.bin .neq (.t 3) (.k (w8 47#8))⟩,
  ⟨none,(some 2),.mov (.t 4)⟩])
 .ret))
 ntmps:=5
 res:=[.tmp 2]
theorem zypd:zsjc P Tryz.f92=some a92:=by kernel_rfl
def a80:AFn where
 code:=(.seq (.region false [⟨none,(some 1),.box (.t 0)⟩,
  ⟨none,(some 2),.mov (.k (.bool false))⟩])
 (.seq (.region false [⟨none,(some 3),.fld 0 (.t 1)⟩,
  ⟨none,(some 4),.load 1 false (.t 3)⟩,
  ⟨none,(some 5),.bin .eql (.t 4) (.k (.int .i64 2))⟩,
  ⟨none,(some 6),.mov (.t 5)⟩,
  ⟨(some (6,false)),(some 7),.fld 0 (.t 1)⟩,
  ⟨(some (6,false)),(some 8),.load 1 false (.t 7)⟩,
  ⟨(some (6,false)),(some 9),.bin .eql (.t 8) (.k (.int .i64 3))⟩,
  ⟨none,(some 10),.pick (.t 6) (.k (.bool true)) (.t 9)⟩,
  ⟨none,(some 2),.mov (.t 10)⟩])
 .ret))
 ntmps:=11
 res:=[.tmp 2]
theorem zzh9:zsjc P Tryz.f80=some a80:=by kernel_rfl
def znqb:ACode :=
 (.seq (.region false [⟨none,(some 55),.bin .lss (.t 54) (.t 53)⟩])
 (.seq (.cond (.t 55) .skip
 (.exit 2))
 (.seq (.block 3 (.seq (.region false [⟨none,(some 56),.mov (.t 54)⟩,
  ⟨none,(some 12),.mov (.t 56)⟩])
 (.block 4 (.seq (.region false [⟨none,(some 73),.load 2 true (.t 9)⟩,
  ⟨none,(some 74),.call (.k (.fn (.func 80) [] [])) [(.t 73)]⟩,
  ⟨none,(some 72),.mov (.t 74)⟩])
 (.cond (.t 72) (.region false [⟨none,(some 75),.mov (.t 11)⟩,
  ⟨none,(some 76),.mov (.t 12)⟩,
  ⟨none,(some 77),.bin .add (.t 76) (.k (.int .i64 1))⟩,
  ⟨none,(some 78),.mov (.t 7)⟩,
  ⟨none,(some 79),.mov (.t 12)⟩,
  ⟨none,(some 80),.bin .add (.t 79) (.k (.int .i64 1))⟩,
  ⟨none,(some 81),.idxS 1 (.t 78) (.t 80)⟩,
  ⟨none,(some 82),.load 1 false (.t 81)⟩,
  ⟨none,(some 83),.mov (.t 82)⟩,
  ⟨(some (83,false)),(some 84),.mov (.t 11)⟩,
  ⟨(some (83,false)),(some 85),.mov (.t 12)⟩,
  ⟨(some (83,false)),(some 86),.idxS 1 (.t 84) (.t 85)⟩,
  ⟨(some (83,false)),(some 87),.load 1 false (.t 86)⟩,
  ⟨(some (83,false)),(some 88),.mov (.t 87)⟩,
  ⟨(some (88,true)),(some 89),.mov (.t 10)⟩,
  ⟨(some (88,true)),(some 90),.mov (.t 1)⟩,
  ⟨(some (88,true)),(some 91),.mov (.t 12)⟩,
  ⟨(some (88,true)),(some 92),.idxStr (.t 90) (.t 91)⟩,
  ⟨(some (88,true)),(some 93),.call (.t 89) [(.t 92)]⟩,
  ⟨(some (83,false)),(some 94),.pick (.t 88) (.t 93) (.k (.bool false))⟩,
  ⟨none,(some 95),.pick (.t 83) (.k (.bool true)) (.t 94)⟩,
  ⟨none,(some 96),.idxS 1 (.t 75) (.t 77)⟩,
  ⟨none,none,.store 1 (.t 96) (.t 95)⟩])
 (.region false [⟨none,(some 57),.mov (.t 11)⟩,
  ⟨none,(some 58),.mov (.t 12)⟩,
  ⟨none,(some 59),.bin .add (.t 58) (.k (.int .i64 1))⟩,
  ⟨none,(some 60),.mov (.t 7)⟩,
  ⟨none,(some 61),.mov (.t 12)⟩,
  ⟨none,(some 62),.idxS 1 (.t 60) (.t 61)⟩,
  ⟨none,(some 63),.load 1 false (.t 62)⟩,
  ⟨none,(some 64),.mov (.t 63)⟩,
  ⟨(some (64,true)),(some 65),.mov (.t 10)⟩,
  ⟨(some (64,true)),(some 66),.mov (.t 1)⟩,
  ⟨(some (64,true)),(some 67),.mov (.t 12)⟩,
  ⟨(some (64,true)),(some 68),.idxStr (.t 66) (.t 67)⟩,
  ⟨(some (64,true)),(some 69),.call (.t 65) [(.t 68)]⟩,
  ⟨none,(some 70),.pick (.t 64) (.t 69) (.k (.bool false))⟩,
  ⟨none,(some 71),.idxS 1 (.t 57) (.t 59)⟩,
  ⟨none,none,.store 1 (.t 71) (.t 70)⟩]))))))
 (.region false [⟨none,(some 97),.bin .add (.t 54) (.k (.int .i64 1))⟩,
  ⟨none,(some 54),.mov (.t 97)⟩]))))
def zms4 (x1 x7 x9 x10 x11 x31 x32 x33 x53 x54:DV) (h:List AObj):St:=⟨[.junk,x1]++js 5++[x7,.junk,x9,x10,x11]++js 19++[x31,x32,x33]++js 19++[x53,x54]++js 50,h⟩
def zz44:ACode :=
 (.seq (.region false [⟨none,(some 34),.bin .lss (.t 33) (.t 32)⟩])
 (.seq (.cond (.t 34) .skip
 (.exit 0))
 (.seq (.block 1 (.seq (.region false [⟨none,(some 35),.idxS 2 (.t 31) (.t 33)⟩,
  ⟨none,(some 36),.load 2 true (.t 35)⟩,
  ⟨none,(some 9),.alloc [(.int .i64 0),(w8 0#8)]⟩,
  ⟨none,none,.store 2 (.t 9) (.t 36)⟩])
 (.seq (.region false [⟨none,(some 37),.load 2 true (.t 9)⟩,
  ⟨none,(some 38),.call (.k (.fn (.func 79) [] [])) [(.t 37)]⟩,
  ⟨none,(some 10),.mov (.t 38)⟩])
 (.seq (.region false [⟨none,(some 39),.mov (.t 1)⟩,
  ⟨none,(some 40),.lenStr (.t 39)⟩,
  ⟨none,(some 41),.bin .add (.t 40) (.k (.int .i64 1))⟩,
  ⟨none,(some 42),.mks 1 1 [(.bool false)] (.t 41) (.t 41)⟩,
  ⟨none,(some 11),.mov (.t 42)⟩])
 (.seq (.region false [⟨none,(some 43),.mov (.t 11)⟩,
  ⟨none,(some 44),.mov (.t 7)⟩,
  ⟨none,(some 45),.idxS 1 (.t 44) (.k (.int .i64 0))⟩,
  ⟨none,(some 46),.load 1 false (.t 45)⟩,
  ⟨none,(some 47),.mov (.t 46)⟩,
  ⟨(some (47,true)),(some 48),.load 2 true (.t 9)⟩,
  ⟨(some (47,true)),(some 49),.call (.k (.fn (.func 80) [] [])) [(.t 48)]⟩,
  ⟨none,(some 50),.pick (.t 47) (.t 49) (.k (.bool false))⟩,
  ⟨none,(some 51),.idxS 1 (.t 43) (.k (.int .i64 0))⟩,
  ⟨none,none,.store 1 (.t 51) (.t 50)⟩])
 (.seq (.seq (.region false [⟨none,(some 52),.mov (.t 1)⟩,
  ⟨none,(some 53),.lenStr (.t 52)⟩,
  ⟨none,(some 54),.mov (.k (.int .i64 0))⟩])
 (.block 2 (.loop znqb)))
 (.region false [⟨none,(some 98),.mov (.t 11)⟩,
  ⟨none,(some 7),.mov (.t 98)⟩])))))))
 (.region false [⟨none,(some 99),.bin .add (.t 33) (.k (.int .i64 1))⟩,
  ⟨none,(some 33),.mov (.t 99)⟩]))))
def z6ev (x1 x7 x31 x32 x33:DV) (h:List AObj):St:=⟨[.junk,x1]++js 5++[x7]++js 23++[x31,x32,x33]++js 71,h⟩
def a51:AFn where
 code:=(.seq (.region false [⟨none,(some 4),.mov (.k (.bool false))⟩])
 (.seq (.region false [⟨none,(some 14),.mov (.t 0)⟩,
  ⟨none,(some 15),.call (.k (.fn (.func 78) [] [])) [(.t 14)]⟩,
  ⟨none,(some 13),.mov (.t 15)⟩,
  ⟨none,(some 16),.ext (.t 13) 0⟩,
  ⟨none,(some 17),.ext (.t 13) 1⟩,
  ⟨none,(some 5),.mov (.t 16)⟩,
  ⟨none,(some 6),.mov (.t 17)⟩])
 (.seq (.seq (.region false [⟨none,(some 18),.mov (.t 6)⟩,
  ⟨none,(some 19),.un .not (.t 18)⟩,
  ⟨none,(some 20),.mov (.t 19)⟩,
  ⟨(some (20,false)),(some 21),.mov (.t 1)⟩,
  ⟨(some (20,false)),(some 22),.call (.k (.fn (.func 76) [] [])) [(.t 21)]⟩,
  ⟨(some (20,false)),(some 23),.un .not (.t 22)⟩,
  ⟨none,(some 24),.pick (.t 20) (.k (.bool true)) (.t 23)⟩])
 (.cond (.t 24) (.seq (.region false [⟨none,(some 4),.mov (.k (.bool false))⟩])
 .ret)
 .skip))
 (.seq (.region false [⟨none,(some 25),.mov (.t 1)⟩,
  ⟨none,(some 26),.lenStr (.t 25)⟩,
  ⟨none,(some 27),.bin .add (.t 26) (.k (.int .i64 1))⟩,
  ⟨none,(some 28),.mks 1 1 [(.bool false)] (.t 27) (.t 27)⟩,
  ⟨none,(some 7),.mov (.t 28)⟩])
 (.seq (.region false [⟨none,(some 29),.mov (.t 7)⟩,
  ⟨none,(some 30),.idxS 1 (.t 29) (.k (.int .i64 0))⟩,
  ⟨none,none,.store 1 (.t 30) (.k (.bool true))⟩])
 (.seq (.seq (.region false [⟨none,(some 31),.mov (.t 5)⟩,
  ⟨none,(some 32),.len (.t 31)⟩,
  ⟨none,(some 33),.mov (.k (.int .i64 0))⟩])
 (.block 0 (.loop zz44)))
 (.seq (.region false [⟨none,(some 100),.mov (.t 7)⟩,
  ⟨none,(some 101),.mov (.t 1)⟩,
  ⟨none,(some 102),.lenStr (.t 101)⟩,
  ⟨none,(some 103),.idxS 1 (.t 100) (.t 102)⟩,
  ⟨none,(some 104),.load 1 false (.t 103)⟩,
  ⟨none,(some 4),.mov (.t 104)⟩])
 .ret)))))))
 ntmps:=105
 res:=[.tmp 4]
theorem z8rx:zsjc P Tryz.f51=some a51:=by kernel_rfl
def a75:AFn where
 code:=(.seq (.region false [⟨none,(some 2),.mov (.k (.bool false))⟩])
 (.seq (.region false [⟨none,(some 3),.mov (.t 0)⟩,
  ⟨none,(some 4),.bin .eql (.t 3) (.k (.str []))⟩,
  ⟨none,(some 5),.mov (.t 4)⟩,
  ⟨(some (5,false)),(some 6),.mov (.t 0)⟩,
  ⟨(some (5,false)),(some 7),.call (.k (.fn (.func 76) [] [])) [(.t 6)]⟩,
  ⟨none,(some 8),.pick (.t 5) (.k (.bool true)) (.t 7)⟩,
  ⟨none,(some 2),.mov (.t 8)⟩])
 .ret))
 ntmps:=9
 res:=[.tmp 2]
theorem zrvd:zsjc P Tryz.f75=some a75:=by kernel_rfl
def a50:AFn where
 code:=(.seq (.region false [⟨none,(some 6),.mov (.k (.str []))⟩,
  ⟨none,(some 7),.mov (.k (.bool false))⟩])
 (.seq (.seq (.region false [⟨none,(some 10),.mov (.t 0)⟩,
  ⟨none,(some 11),.call (.k (.fn (.func 75) [] [])) [(.t 10)]⟩,
  ⟨none,(some 12),.un .not (.t 11)⟩,
  ⟨none,(some 13),.mov (.t 12)⟩,
  ⟨(some (13,false)),(some 14),.mov (.t 1)⟩,
  ⟨(some (13,false)),(some 15),.call (.k (.fn (.func 75) [] [])) [(.t 14)]⟩,
  ⟨(some (13,false)),(some 16),.un .not (.t 15)⟩,
  ⟨none,(some 17),.pick (.t 13) (.k (.bool true)) (.t 16)⟩,
  ⟨none,(some 18),.mov (.t 17)⟩,
  ⟨(some (18,false)),(some 19),.mov (.t 2)⟩,
  ⟨(some (18,false)),(some 20),.call (.k (.fn (.func 76) [] [])) [(.t 19)]⟩,
  ⟨(some (18,false)),(some 21),.un .not (.t 20)⟩,
  ⟨none,(some 22),.pick (.t 18) (.k (.bool true)) (.t 21)⟩])
 (.cond (.t 22) (.seq (.region false [⟨none,(some 6),.mov (.k (.str []))⟩,
  ⟨none,(some 7),.mov (.k (.bool false))⟩])
 .ret)
 .skip))
 (.seq (.region false [⟨none,(some 23),.mov (.t 2)⟩,
  ⟨none,(some 8),.mov (.t 23)⟩])
 (.seq (.seq (.region false [⟨none,(some 24),.mov (.t 0)⟩,
  ⟨none,(some 25),.bin .neq (.t 24) (.k (.str []))⟩])
 (.cond (.t 25) (.seq (.region false [⟨none,(some 9),.mov (.k (.bool false))⟩])
 (.seq (.region false [⟨none,(some 27),.mov (.t 2)⟩,
  ⟨none,(some 28),.mov (.t 0)⟩,
  ⟨none,(some 29),.bin .add (.t 28) (.k (.str [47]))⟩,
  ⟨none,(some 30),.call (.k (.fn (.func 77) [] [])) [(.t 27),(.t 29)]⟩,
  ⟨none,(some 26),.mov (.t 30)⟩,
  ⟨none,(some 31),.ext (.t 26) 0⟩,
  ⟨none,(some 32),.ext (.t 26) 1⟩,
  ⟨none,(some 8),.mov (.t 31)⟩,
  ⟨none,(some 9),.mov (.t 32)⟩])
 (.seq (.region false [⟨none,(some 33),.mov (.t 9)⟩,
  ⟨none,(some 34),.un .not (.t 33)⟩])
 (.cond (.t 34) (.seq (.region false [⟨none,(some 6),.mov (.k (.str []))⟩,
  ⟨none,(some 7),.mov (.k (.bool false))⟩])
 .ret)
 .skip))))
 .skip))
 (.seq (.seq (.region false [⟨none,(some 35),.mov (.t 1)⟩,
  ⟨none,(some 36),.bin .neq (.t 35) (.k (.str []))⟩])
 (.cond (.t 36) (.region false [⟨none,(some 37),.mov (.t 1)⟩,
  ⟨none,(some 38),.bin .add (.t 37) (.k (.str [47]))⟩,
  ⟨none,(some 39),.mov (.t 8)⟩,
  ⟨none,(some 40),.bin .add (.t 38) (.t 39)⟩,
  ⟨none,(some 8),.mov (.t 40)⟩])
 .skip))
 (.seq (.seq (.region false [⟨none,(some 41),.mov (.t 8)⟩,
  ⟨none,(some 42),.call (.k (.fn (.func 76) [] [])) [(.t 41)]⟩,
  ⟨none,(some 43),.un .not (.t 42)⟩])
 (.cond (.t 43) (.seq (.region false [⟨none,(some 6),.mov (.k (.str []))⟩,
  ⟨none,(some 7),.mov (.k (.bool false))⟩])
 .ret)
 .skip))
 (.seq (.region false [⟨none,(some 44),.mov (.t 8)⟩,
  ⟨none,(some 6),.mov (.t 44)⟩,
  ⟨none,(some 7),.mov (.k (.bool true))⟩])
 .ret)))))))
 ntmps:=45
 res:=[.tmp 6,.tmp 7]
theorem z12y:zsjc P Tryz.f50=some a50:=by kernel_rfl
end Go.Proofs.YtjknipdiglpnlaaGreatDoor
set_option linter.unusedSimpArgs false
set_option linter.unusedVariables false
namespace Go.Proofs.YtjknipdiglpnlaaGreatDoor
open Go Go.Am
theorem zpwu {a b c:ARes} {t:List DV} {h:List AObj}:outD [a,b,c] t h=(resD t h a).bind fun x=>(resD t h b).bind fun y=>(resD t h c).bind fun z=>snap h 3 (.tup [x,y,z]):=by
 simp only [outD,zxgc,zp5p,z2gc]
 cases resD t h a<;>cases resD t h b<;>cases resD t h c<;>rfl
attribute [simp] zpwu
def cS (g:List UInt8→DV):List DV→Option DV
 | [.str s]=>some (g s)|_=>none
def cSS (g:List UInt8→List UInt8→DV):List DV→Option DV
 | [.str s,.str p]=>some (g s p)|_=>none
def cSSS (g:List UInt8→List UInt8→List UInt8→DV):List DV→Option DV
 | [.str s,.str p,.str q]=>some (g s p q)|_=>none
def cS1 (g:List UInt8→UInt8→DV):List DV→Option DV
 | [.str s,.str [c]]=>some (g s c)|_=>none
def cS1b (g:List UInt8→UInt8→DV):List DV→Option DV
 | [.str s,.str [c]]=>if s.length≤100000 then some (g s c) else none|_=>none
def cSB (g:List UInt8→B8→DV):List DV→Option DV
 | [.str s,.int .u8 n]=>if 0≤n∧n<256 then some (g s (BitVec.ofInt 8 n)) else none|_=>none
theorem zk5k {g s}:cS g [.str s]=some (g s):=rfl
theorem z5o0 {g s p}:cSS g [.str s,.str p]=some (g s p):=rfl
theorem zfnp {g s p q}:cSSS g [.str s,.str p,.str q]=some (g s p q):=rfl
theorem z8u6 {g s c}:cS1 g [.str s,.str [c]]=some (g s c):=rfl
theorem zutz {g s c} (h:s.length≤100000):cS1b g [.str s,.str [c]]=some (g s c):=if_pos h
theorem zexc (c:B8):BitVec.ofInt 8 (c.toNat:Int)=c:=by simp
theorem zvdo {g s c}:cSB g [.str s,w8 c]=some (g s c):=by
 have:=c.isLt
 show (if 0≤(c.toNat:Int)∧(c.toNat:Int)<256 then some (g s (BitVec.ofInt 8 (c.toNat:Int))) else none)=_
 rw [if_pos (by omega),zexc]
theorem zzn8 {f:Nat} {g:List UInt8→DV} (h : ∀ s,Am.Sem P f [.str s] (g s)):(Con.pure (cS g)).Sound P f:=by
 intro args v e
 unfold cS at e
 split at e
 ·simp at e; subst e; exact h _
 ·simp at e
theorem zd7v {f:Nat} {g:List UInt8→List UInt8→DV} (h : ∀ s p,Am.Sem P f [.str s,.str p] (g s p)):(Con.pure (cSS g)).Sound P f:=by
 intro args v e
 unfold cSS at e
 split at e
 ·simp at e; subst e; exact h _ _
 ·simp at e
theorem ztgs {f:Nat} {g:List UInt8→List UInt8→List UInt8→DV} (h : ∀ s p q,Am.Sem P f [.str s,.str p,.str q] (g s p q)):(Con.pure (cSSS g)).Sound P f:=by
 intro args v e
 unfold cSSS at e
 split at e
 ·simp at e; subst e; exact h _ _ _
 ·simp at e
theorem zpzi {f:Nat} {g:List UInt8→UInt8→DV} (h : ∀ s c,Am.Sem P f [.str s,.str [c]] (g s c)):(Con.pure (cS1 g)).Sound P f:=by
 intro args v e
 unfold cS1 at e
 split at e
 ·simp at e; subst e; exact h _ _
 ·simp at e
theorem zb66 {f:Nat} {g:List UInt8→UInt8→DV} (h : ∀ s c,s.length≤100000→Am.Sem P f [.str s,.str [c]] (g s c)):(Con.pure (cS1b g)).Sound P f:=by
 intro args v e
 unfold cS1b at e
 split at e
 ·split at e
  ·rename_i hl; simp at e; subst e; exact h _ _ hl
  ·simp at e
 ·simp at e
theorem zboo {f:Nat} {g:List UInt8→B8→DV} (h : ∀ s c,Am.Sem P f [.str s,w8 c] (g s c)):(Con.pure (cSB g)).Sound P f:=by
 intro args v e
 unfold cSB at e
 split at e
 ·rename_i s n
  split at e
  ·rename_i hn
   simp at e; subst e
   have:=h s (BitVec.ofInt 8 n)
   have e2:w8 (BitVec.ofInt 8 n) = .int .u8 n:=by
    unfold w8
    have:((BitVec.ofInt 8 n).toNat:Int)=n:=by rw [BitVec.toNat_ofInt]; simp; omega
    rw [this]
   rwa [e2] at this
  ·simp at e
 ·simp at e
def ixD (s:List UInt8) (c:B8):DV := .int .i64 (Lib.indexByte s c.toNat.toUInt8)
def ix1 (s:List UInt8) (c:UInt8):DV := .int .i64 (Lib.indexByte s c)
def T50:Tbl:=addT 100 (.pure (cSB ixD)) tbl0
theorem zbvx:T50 100 = .pure (cSB ixD):=by simp [T50]
theorem z3fz:T50.Sound P:=z0rp (zboo fun s c=>zrq5 Tryz.func100 (by kernel_rfl) (by kernel_rfl) (by kernel_rfl) (by kernel_rfl) s c) zr5o
theorem z4gm (s:List UInt8) (c:B8):Runs T50 a94 [.str s,w8 c] (ixD s c):=by
 refine ⟨?_⟩
 simp (disch:=first|omega|simp<;>omega|fail) [-zA,-zB,-zC,-zD,-zE,a94,zbvx,zvdo,ixD]
def T51:Tbl:=addT 94 (.pure (cSB ixD)) T50
theorem zqfn:T51 94 = .pure (cSB ixD):=by simp [T51]
theorem zw21:T51.Sound P:=z0rp (zboo fun s c=>zljw mix z3fz Tryz.func94 ziuh (z4gm s c)) z3fz
theorem zbfo (s:List UInt8) (c:B8):Runs T51 a87 [.str s,w8 c] (ixD s c):=by
 refine ⟨?_⟩
 simp (disch:=first|omega|simp<;>omega|fail) [-zA,-zB,-zC,-zD,-zE,a87,zqfn,zvdo,ixD]
theorem zunq (s:List UInt8) (c:UInt8):Runs T51 a101 [.str s,.str [c]] (ix1 s c):=by
 refine ⟨?_⟩
 by_cases h:[c]=s
 ·subst h
  simp (disch:=first|omega|simp<;>omega|fail) [-zA,-zB,-zC,-zD,-zE,a101,ix1,Lib.indexByte]
 ·simp (disch:=first|omega|simp<;>omega|fail) [-zA,-zB,-zC,-zD,-zE,a101,h,zqfn,zvdo,ixD,ix1,zq22]
def T52:Tbl:=addT 101 (.pure (cS1 ix1)) T51
theorem zcmd:T52 101 = .pure (cS1 ix1):=by simp [T52]
theorem zyuf:T52.Sound P:=z0rp (zpzi fun s c=>zljw mix zw21 Tryz.func101 zzmu (zunq s c)) zw21
theorem zazq (s:List UInt8) (c:UInt8):Runs T52 a99 [.str s,.str [c]] (ix1 s c):=by
 refine ⟨?_⟩
 simp (disch:=first|omega|simp<;>omega|fail) [-zA,-zB,-zC,-zD,-zE,a99,zcmd,z8u6,ix1]
def cutR (s:List UInt8) (c:UInt8):DV :=
 if Lib.indexByte s c = -1 then .tup [.str s,.str [],.bool false] else .tup [.str (s.take (Lib.indexByte s c).toNat),.str (s.drop ((Lib.indexByte s c).toNat+1)),.bool true]
theorem z4vy {s:List UInt8} {c:UInt8}:Lib.indexByte s c<s.length:=by
 have hg:=Lib.indexByte_ge s c
 by_cases h:Lib.indexByte s c = -1
 ·omega
 ·have:=z8bu (s:=s) (c:=c) (o:=(Lib.indexByte s c).toNat) (by omega)
  omega
theorem zubo (s:List UInt8) (c:UInt8) (hs:s.length≤100000):Runs T52 a95 [.str s,.str [c]] (cutR s c):=by
 refine ⟨?_⟩
 have hg:=Lib.indexByte_ge s c
 have hlt:=z4vy (s:=s) (c:=c)
 by_cases h:Lib.indexByte s c = -1
 ·simp (disch:=first|omega|simp<;>omega|fail) [-zA,-zB,-zC,-zD,-zE,a95,zcmd,z8u6,ix1,h,cutR]
 ·obtain ⟨o,ho⟩ : ∃ o:Nat,Lib.indexByte s c=o:=⟨(Lib.indexByte s c).toNat,by omega⟩
  rw [ho] at hlt
  have h0:(0:Int)≤o:=by omega
  have hn:¬ (o:Int) = -1:=by omega
  have ho1:o≤s.length:=by omega
  have ho2:o+1≤s.length:=by omega
  have ho3:(o:Int)+1≤s.length:=by omega
  have e1:((o:Int)+1).toNat=o+1:=by omega
  have ht:(s.drop (o+1)).take (s.length-(o+1))=s.drop (o+1):=List.take_of_length_le (by simp)
  simp (disch:=first|omega|simp<;>omega|fail) [-zA,-zB,-zC,-zD,-zE,a95,zcmd,z8u6,ix1,ho,h0,hn,ho1,ho2,ho3,e1,ht,cutR]
def T54:Tbl:=addT 95 (.pure (cS1b cutR)) tbl0
theorem zjck:T54 95 = .pure (cS1b cutR):=by simp [T54]
theorem zjvy:T54.Sound P:=z0rp (zb66 fun s c h=>zljw mix zyuf Tryz.func95 z4uo (zubo s c h)) zr5o
theorem zmgr (s:List UInt8) (c:UInt8) (hs:s.length≤100000):Runs T54 a88 [.str s,.str [c]] (cutR s c):=by
 refine ⟨?_⟩
 by_cases h:Lib.indexByte s c = -1
 ·simp (disch:=first|omega|simp<;>omega|fail) [-zA,-zB,-zC,-zD,-zE,a88,zjck,zutz hs,cutR,h]
 ·simp (disch:=first|omega|simp<;>omega|fail) [-zA,-zB,-zC,-zD,-zE,a88,zjck,zutz hs,cutR,h]
def hpD (s p:List UInt8):DV := .bool (decide (s.take p.length=p))
theorem zhxj (s p:List UInt8):Runs tbl0 a96 [.str s,.str p] (hpD s p):=by
 refine ⟨?_⟩
 by_cases h:p.length≤s.length
 ·have h1:(p.length:Int)≤s.length:=by omega
  simp (disch:=first|omega|simp<;>omega|fail) [-zA,-zB,-zC,-zD,-zE,a96,h1,h,hpD]
 ·have h1:¬ (p.length:Int)≤s.length:=by omega
  have h2:¬ s.take p.length=p:=fun e=>by have:=congrArg List.length e; simp at this; omega
  simp (disch:=first|omega|simp<;>omega|fail) [-zA,-zB,-zC,-zD,-zE,a96,h1,h,h2,hpD]
def T55:Tbl:=addT 96 (.pure (cSS hpD)) tbl0
theorem zakv:T55 96 = .pure (cSS hpD):=by simp [T55]
theorem z02n:T55.Sound P:=z0rp (zd7v fun s p=>zljw mix zr5o Tryz.func96 z54d (zhxj s p)) zr5o
def cutD (s p:List UInt8):DV:=if s.take p.length=p then .tup [.str (s.drop p.length),.bool true] else .tup [.str s,.bool false]
theorem zzo3 (s p:List UInt8):Runs T55 a89 [.str s,.str p] (cutD s p):=by
 refine ⟨?_⟩
 by_cases h:s.take p.length=p
 ·have hl:p.length≤s.length:=by have:=congrArg List.length h; simp at this; omega
  have ht:(s.drop p.length).take (s.length-p.length)=s.drop p.length:=List.take_of_length_le (by simp)
  simp (disch:=first|omega|simp<;>omega|fail) [-zA,-zB,-zC,-zD,-zE,a89,zakv,z5o0,hpD,h,cutD,hl,ht]
 ·simp (disch:=first|omega|simp<;>omega|fail) [-zA,-zB,-zC,-zD,-zE,a89,zakv,z5o0,hpD,h,cutD]
def T56:Tbl:=addT 89 (.pure (cSS cutD)) tbl0
theorem zlrc:T56 89 = .pure (cSS cutD):=by simp [T56]
theorem z4p0:T56.Sound P:=z0rp (zd7v fun s p=>zljw mix z02n Tryz.func89 z42j (zzo3 s p)) zr5o
theorem zgsw (s p:List UInt8):Runs T56 a77 [.str s,.str p] (cutD s p):=by
 refine ⟨?_⟩
 by_cases h:s.take p.length=p
 ·simp (disch:=first|omega|simp<;>omega|fail) [-zA,-zB,-zC,-zD,-zE,a77,zlrc,z5o0,h,cutD]
 ·simp (disch:=first|omega|simp<;>omega|fail) [-zA,-zB,-zC,-zD,-zE,a77,zlrc,z5o0,h,cutD]
end Go.Proofs.YtjknipdiglpnlaaGreatDoor
set_option linter.unusedSimpArgs false
set_option linter.unusedVariables false
namespace Go.Proofs.YtjknipdiglpnlaaGreatDoor
open Go Go.Am
def za1j (s:List UInt8):DV := .bool (zj1f s)
def T57:Tbl:=addT 87 (.pure (cSB ixD)) (addT 88 (.pure (cS1b cutR)) tbl0)
theorem zogw:T57 87 = .pure (cSB ixD):=by simp [T57]
theorem zhm1:T57 88 = .pure (cS1b cutR):=by simp [T57]
theorem zhpa:T57.Sound P:=z0rp (zboo fun s c=>zljw mix zw21 Tryz.func87 zfhg (zbfo s c)) (z0rp (zb66 fun s c h=>zljw mix zjvy Tryz.func88 zqgj (zmgr s c h)) zr5o)
theorem ixD0 (s:List UInt8):cSB ixD [.str s,w8 0#8]=some (.int .i64 (Lib.indexByte s 0)):=zvdo
theorem zy3p {s:List UInt8} (h:Lib.indexByte s 0 ≠ -1):0≤Lib.indexByte s 0:=by have:=Lib.indexByte_ge s 0; omega
theorem zk50 {s:List UInt8} (h:Lib.indexByte s 0 = -1):noZ s=true:=by rw [zc5k,h]; rfl
theorem z5fc {s:List UInt8} (h:Lib.indexByte s 0 ≠ -1):noZ s=false:=by rw [zc5k]; simp [h]
def S9 (x:List UInt8 × Bool):St:=zvff (.str x.1) (.bool x.2) []
def m9 (x:List UInt8 × Bool):Nat:=x.1.length+(if x.2=true then 1 else 0)
def R9 (s:List UInt8) (x:List UInt8 × Bool):Prop:=x.1.length≤200∧(x.2=true→zj1f s=(z2fg x.1).all okC)∧(x.2=false→zj1f s=true)
theorem z08u (s:List UInt8):Runs T57 a76 [.str s] (za1j s):=by
 refine ⟨?_⟩
 by_cases h1:s.length<1
 ·have h1':(s.length:Int)<1:=by omega
  have hp:zj1f s=false:=by simp [zj1f]; omega
  simp (disch:=first|omega|simp<;>omega|fail) [-zA,-zB,-zC,-zD,-zE,a76,h1',za1j,hp]
 have h1':¬ (s.length:Int)<1:=by omega
 by_cases h2:200<s.length
 ·have h2':(200:Int)<s.length:=by omega
  have hp:zj1f s=false:=by simp [zj1f]; omega
  simp (disch:=first|omega|simp<;>omega|fail) [-zA,-zB,-zC,-zD,-zE,a76,h1',h2',za1j,hp]
 have h2':¬ (200:Int)<s.length:=by omega
 by_cases h3:Lib.indexByte s 0 = -1
 case neg =>
  have h3':=zy3p h3
  have hp:zj1f s=false:=by simp [zj1f,z5fc h3]
  simp (disch:=first|omega|simp<;>omega|fail) [-zA,-zB,-zC,-zD,-zE,a76,h1',h2',zogw,ixD0,h3',za1j,hp]
 have hp:zj1f s=(z2fg s).all okC:=by
  have g1:1≤s.length:=by omega
  have g2:s.length≤200:=by omega
  simp only [zj1f,g1,g2,zk50 h3,decide_true,Bool.true_and]
 simp (disch:=first|omega|simp<;>omega|fail) [-zA,-zB,-zC,-zD,-zE,a76,h1',h2',zogw,ixD0,h3]
 refine zlm5 S9 m9 (R9 s) (s,true) (z515 (by simp (disch:=first|omega|simp<;>omega|fail) [-zA,-zB,-zC,-zD,-zE]) (by simp (disch:=first|omega|simp<;>omega|fail) [-zA,-zB,-zC,-zD,-zE])) ⟨by show s.length≤200; omega,fun _=>hp,by simp⟩ (fun x hx => ?_)
 obtain ⟨r,more⟩:=x
 obtain ⟨hr,ha,hb⟩:=hx
 simp only at hr ha hb
 simp (disch:=first|omega|simp<;>omega|fail) [-zA,-zB,-zC,-zD,-zE,z079,zvff,S9]
 cases more with
 | false =>
  have hb:=hb rfl
  simp (disch:=first|omega|simp<;>omega|fail) [-zA,-zB,-zC,-zD,-zE,za1j,hb]
 | true =>
  have ha:=ha rfl
  have hc:=zutz (g:=cutR) (s:=r) (c:=47) (by omega)
  by_cases hi:Lib.indexByte r 47 = -1
  ·rw [cutR,if_pos hi] at hc
   rw [zbf3 hi] at ha
   by_cases e1:r=[]
   ·have hq:zj1f s=false:=by rw [ha,e1]; rfl
    subst e1
    simp (disch:=first|omega|simp<;>omega|fail) [-zA,-zB,-zC,-zD,-zE,zhm1,hc,za1j,hq]
   ·by_cases e2:r=[46]
    ·have hq:zj1f s=false:=by rw [ha,e2]; rfl
     subst e2
     simp (disch:=first|omega|simp<;>omega|fail) [-zA,-zB,-zC,-zD,-zE,zhm1,hc,za1j,hq]
    ·by_cases e3:r=[46,46]
     ·have hq:zj1f s=false:=by rw [ha,e3]; rfl
      subst e3
      simp (disch:=first|omega|simp<;>omega|fail) [-zA,-zB,-zC,-zD,-zE,zhm1,hc,za1j,hq]
     ·have hq:zj1f s=true:=by rw [ha]; simp [okC,e1,e2,e3]
      simp (disch:=first|omega|simp<;>omega|fail) [-zA,-zB,-zC,-zD,-zE,zhm1,hc,e1,e2,e3]
      exact ⟨[],.inl ⟨z515 (by simp (disch:=first|omega|simp<;>omega|fail) [-zA,-zB,-zC,-zD,-zE]) (by simp (disch:=first|omega|simp<;>omega|fail) [-zA,-zB,-zC,-zD,-zE]),by simp [m9],by simp [R9,hq]⟩⟩
  ·obtain ⟨o,ho⟩ : ∃ o:Nat,Lib.indexByte r 47=o:=⟨(Lib.indexByte r 47).toNat,by have:=Lib.indexByte_ge r 47; omega⟩
   have hlt:=z8bu ho
   rw [cutR,if_neg hi,ho] at hc
   rw [zjoj ho] at ha
   simp only [Int.toNat_natCast] at hc
   obtain ⟨y,hy⟩ : ∃ y,r.take o=y:=⟨_,rfl⟩
   rw [hy] at hc ha
   by_cases e1:y=[]
   ·have hq:zj1f s=false:=by rw [ha,e1]; rfl
    subst e1
    simp (disch:=first|omega|simp<;>omega|fail) [-zA,-zB,-zC,-zD,-zE,zhm1,hc,za1j,hq]
   ·by_cases e2:y=[46]
    ·have hq:zj1f s=false:=by rw [ha,e2]; rfl
     subst e2
     simp (disch:=first|omega|simp<;>omega|fail) [-zA,-zB,-zC,-zD,-zE,zhm1,hc,za1j,hq]
    ·by_cases e3:y=[46,46]
     ·have hq:zj1f s=false:=by rw [ha,e3]; rfl
      subst e3
      simp (disch:=first|omega|simp<;>omega|fail) [-zA,-zB,-zC,-zD,-zE,zhm1,hc,za1j,hq]
     ·have hq:zj1f s=(z2fg (r.drop (o+1))).all okC:=by rw [ha]; simp [okC,e1,e2,e3]
      simp (disch:=first|omega|simp<;>omega|fail) [-zA,-zB,-zC,-zD,-zE,zhm1,hc,e1,e2,e3]
      exact ⟨r.drop (o+1),.inr ⟨z515 (by simp (disch:=first|omega|simp<;>omega|fail) [-zA,-zB,-zC,-zD,-zE]) (by simp (disch:=first|omega|simp<;>omega|fail) [-zA,-zB,-zC,-zD,-zE]),by simp [m9]; omega,by simp only [List.length_drop]; omega,fun _=>hq,by simp⟩⟩
end Go.Proofs.YtjknipdiglpnlaaGreatDoor
set_option linter.unusedSimpArgs false
set_option linter.unusedVariables false
namespace Go.Proofs.YtjknipdiglpnlaaGreatDoor
open Go Go.Am
def ptC (x:Pt):List DV:=[.int .i64 x.kind,w8 x.chr]
def z6j5 (l:List Pt):List DV:=l.flatMap ptC
theorem z4u6 : ∀ (l:List Pt),(z6j5 l).length=2*l.length
 | []=>rfl
 | x::l=>by have:=z4u6 l; simp only [z6j5,List.flatMap_cons,List.length_append,ptC,List.length_cons,List.length_nil] at *; omega
theorem zip6 (l:List Pt) (x:Pt):z6j5 (l++[x])=z6j5 l++ptC x:=by simp [z6j5]
theorem zbvb {l:List Pt} (h:l≠[]):z6j5 l≠[]:=by
 intro e
 have:=z4u6 l
 rw [e] at this
 have:l.length=0:=by simp at this; omega
 exact h (List.length_eq_zero_iff.1 this)
theorem zcb5 : ∀ (l:List Pt),zbao (z6j5 l)=true
 | []=>rfl
 | x::l=>by
  have:=zcb5 l
  simp only [z6j5,List.flatMap_cons,ptC,List.cons_append,List.nil_append] at this ⊢
  simp [zbao,this,zyp8,w8]
theorem zyoh (h:List AObj) (k:Nat) (l:List Pt):z4tt h k (z6j5 l)=some (z6j5 l):=z619 (zcb5 l)
theorem zmw4 {c:UInt8} (h1:c≠92) (h2:c≠42) (h3:c≠63) (r:List UInt8):prs (c::r)=(prs r).map fun l => .one c.toBitVec::l:=zbr2 h1 h2 h3 r
theorem z28c (r:List UInt8):prs (63::r)=(prs r).map fun l => .dot::l:=by rw [prs.eq_def]; simp
theorem zt8b:prs [92]=none:=rfl
theorem zkwm:prs [42] = .some [.some]:=rfl
theorem zqqt (r:List UInt8):prs (42::42::r)=(prs r).map fun l => .whole::l:=by rw [prs.eq_def]; simp
theorem zpjv {d:UInt8} (h:d≠42) (r:List UInt8):prs (42::d::r)=(prs (d::r)).map fun l => .some::l:=by
 have g:d.toBitVec≠42#8:=zejk h
 rw [prs.eq_def]; simp [g]
def zoby:Option (List Pt)→DV
 | none => .tup [.nils,.bool false]
 | .some l => .tup [.sl false 2 l.length (z6j5 l),.bool true]
theorem zfht {s:List UInt8} {l:List Pt} (h0:s≠[]) (h:prs s = .some l):l≠[]:=by
 rintro rfl
 match s,h0 with
 | c::r,_ =>
  by_cases h1:c=92
  ·subst h1
   match r with
   | []=>simp [zt8b] at h
   | d::r=>rw [z32i] at h; cases e:prs r<;>simp [e] at h
  ·by_cases h2:c=42
   ·subst h2
    match r with
    | []=>simp [zkwm] at h
    | d::r =>
     by_cases h3:d=42
     ·subst h3; rw [zqqt] at h; cases e:prs r<;>simp [e] at h
     ·rw [zpjv h3] at h; cases e:prs (d::r)<;>simp [e] at h
   ·by_cases h3:c=63
    ·subst h3; rw [z28c] at h; cases e:prs r<;>simp [e] at h
    ·rw [zmw4 h1 h2 h3] at h; cases e:prs r<;>simp [e] at h
structure X15 where
 l:List Pt
 i:Nat
def S15 (p:List UInt8) (x:X15):St:=zcu8 (.str p) (ownD 0 2 .nils x.l.length (z6j5 x.l)) (.int .i64 x.i) (ownH (z6j5 x.l))
def m15 (p:List UInt8) (x:X15):Nat:=p.length-x.i
def R15 (p:List UInt8) (x:X15):Prop:=x.i≤p.length∧x.l.length≤x.i∧prs p=(prs (p.drop x.i)).map fun l=>x.l++l
theorem zq8c {p:List UInt8} {x:X15} (h:R15 p x) {n:Nat} {y:Pt} (hn:x.i<n) (hn':n≤p.length) (e:prs (p.drop x.i)=(prs (p.drop n)).map fun l=>y::l):R15 p ⟨x.l++[y],n⟩:=by
 obtain ⟨h1,h2,h3⟩:=h
 refine ⟨hn',by simp; omega,?_⟩
 rw [h3,e]
 cases prs (p.drop n)<;>simp
theorem zw4m {c:UInt8} {n:UInt8}:c.toBitVec=n.toBitVec↔c=n:=UInt8.toBitVec_inj
theorem z9ia {k:Int}:zvnk [.int .i64 0,w8 0#8] [(0,1,.int .i64 k)]=some (.agg [.int .i64 k,w8 0#8]):=rfl
theorem ztmv (p:List UInt8):Runs T57 a78 [.str p] (zoby (zfn1 p)):=by
 refine ⟨?_⟩
 by_cases h1:p.length<1
 ·have h1':(p.length:Int)<1:=by omega
  have hp:zfn1 p=none:=by rw [zfn1,if_neg (by omega)]
  simp (disch:=first|omega|simp<;>omega|fail) [-zA,-zB,-zC,-zD,-zE,a78,h1',hp,zoby]
 have h1':¬ (p.length:Int)<1:=by omega
 by_cases h2:200<p.length
 ·have h2':(200:Int)<p.length:=by omega
  have hp:zfn1 p=none:=by rw [zfn1,if_neg (by omega)]
  simp (disch:=first|omega|simp<;>omega|fail) [-zA,-zB,-zC,-zD,-zE,a78,h1',h2',hp,zoby]
 have h2':¬ (200:Int)<p.length:=by omega
 by_cases h3:Lib.indexByte p 0 = -1
 case neg =>
  have h3':=zy3p h3
  have hp:zfn1 p=none:=by rw [zfn1,if_neg (by rw [z5fc h3]; simp)]
  simp (disch:=first|omega|simp<;>omega|fail) [-zA,-zB,-zC,-zD,-zE,a78,h1',h2',zogw,ixD0,h3',hp,zoby]
 have hp:zfn1 p=prs p:=by rw [zfn1,if_pos ⟨by omega,by omega,zk50 h3⟩]
 simp (disch:=first|omega|simp<;>omega|fail) [-zA,-zB,-zC,-zD,-zE,a78,h1',h2',zogw,ixD0,h3]
 refine zlm5 (S15 p) (m15 p) (R15 p) ⟨[],0⟩ (z515 (by simp (disch:=first|omega|simp<;>omega|fail) [-zA,-zB,-zC,-zD,-zE,ownD,z6j5]) (by simp (disch:=first|omega|simp<;>omega|fail) [-zA,-zB,-zC,-zD,-zE,ownH,z6j5])) ⟨by simp,by simp,by simp⟩ (fun x hx => ?_)
 obtain ⟨l,i⟩:=x
 have hx':=hx
 obtain ⟨hi,hl,hpr⟩:=hx'
 simp only at hi hl hpr
 have hlen:=z4u6 l
 simp (disch:=first|omega|simp<;>omega|fail) [-zA,-zB,-zC,-zD,-zE,zoac,zcu8,S15]
 by_cases h:i<p.length
 ·have h4:(i:Int)<p.length:=by omega
  have hd:p.drop i=p[i]::p.drop (i+1):=List.drop_eq_getElem_cons h
  have e12:(i:Int)+1+1=i+2:=by omega
  by_cases c1:p[i]=92
  ·have b1:p[i].toBitVec=92#8:=zw4m.2 c1
   have b1q:(p[i].toBitVec == 92#8)=true:=by simp [b1]
   by_cases h5:i+1=p.length
   ·have h5':(i:Int)+1=p.length:=by omega
    have hq:prs p=none:=by rw [hpr,hd,c1,List.drop_eq_nil_of_le (by omega),zt8b]; rfl
    simp (disch:=first|omega|simp<;>omega|fail) [-zA,-zB,-zC,-zD,-zE,z9ia,h4,h,b1,b1q,h5',hp,hq,zoby]
   ·have h5':¬ (i:Int)+1=p.length:=by omega
    have h6:i+1<p.length:=by omega
    have hd2:p.drop (i+1)=p[i+1]::p.drop (i+2):=List.drop_eq_getElem_cons h6
    have hs:=zq8c (n:=i+2) (y := .one p[i+1].toBitVec) hx (by simp) (by omega) (by show prs (p.drop i)=_; rw [hd,hd2,c1,z32i])
    simp (disch:=first|omega|simp<;>omega|fail) [-zA,-zB,-zC,-zD,-zE,z9ia,h4,h,b1,b1q,h5',h6,hlen,e12]
    exact ⟨⟨l++[.one p[i+1].toBitVec],i+2⟩,z515 (by simp (disch:=first|omega|simp<;>omega|fail) [-zA,-zB,-zC,-zD,-zE,e12,zip6,ptC,Pt.kind,Pt.chr]) (by simp (disch:=first|omega|simp<;>omega|fail) [-zA,-zB,-zC,-zD,-zE,zip6,ptC,Pt.kind,Pt.chr]),by simp [m15]; omega,hs⟩
  ·have b1:¬ p[i].toBitVec=92#8:=fun e=>c1 (zw4m.1 e)
   have b1q:(p[i].toBitVec == 92#8)=false:=by simp [b1]
   by_cases c2:p[i]=63
   ·have b2:p[i].toBitVec=63#8:=zw4m.2 c2
    have b2q:(p[i].toBitVec == 63#8)=true:=by simp [b2]
    have hs:=zq8c (n:=i+1) (y := .dot) hx (by simp) (by omega) (by show prs (p.drop i)=_; rw [hd,c2,z28c])
    simp (disch:=first|omega|simp<;>omega|fail) [-zA,-zB,-zC,-zD,-zE,z9ia,h4,h,b1,b1q,b2,b2q,hlen]
    exact ⟨⟨l++[.dot],i+1⟩,z515 (by simp (disch:=first|omega|simp<;>omega|fail) [-zA,-zB,-zC,-zD,-zE,e12,zip6,ptC,Pt.kind,Pt.chr]) (by simp (disch:=first|omega|simp<;>omega|fail) [-zA,-zB,-zC,-zD,-zE,zip6,ptC,Pt.kind,Pt.chr]),by simp [m15]; omega,hs⟩
   ·have b2:¬ p[i].toBitVec=63#8:=fun e=>c2 (zw4m.1 e)
    have b2q:(p[i].toBitVec == 63#8)=false:=by simp [b2]
    by_cases c3:p[i]=42
    ·have b3:p[i].toBitVec=42#8:=zw4m.2 c3
     have b3q:(p[i].toBitVec == 42#8)=true:=by simp [b3]
     by_cases h6:i+1<p.length
     ·have h6':(i:Int)+1<p.length:=by omega
      have hd2:p.drop (i+1)=p[i+1]::p.drop (i+2):=List.drop_eq_getElem_cons h6
      by_cases c4:p[i+1]=42
      ·have b4:p[i+1].toBitVec=42#8:=zw4m.2 c4
       have b4q:(p[i+1].toBitVec == 42#8)=true:=by simp [b4]
       have hs:=zq8c (n:=i+2) (y := .whole) hx (by simp) (by omega) (by show prs (p.drop i)=_; rw [hd,hd2,c3,c4,zqqt])
       simp (disch:=first|omega|simp<;>omega|fail) [-zA,-zB,-zC,-zD,-zE,z9ia,h4,h,b1,b1q,b2,b2q,b3,b3q,h6,h6',b4,b4q,hlen,e12]
       exact ⟨⟨l++[.whole],i+2⟩,z515 (by simp (disch:=first|omega|simp<;>omega|fail) [-zA,-zB,-zC,-zD,-zE,e12,zip6,ptC,Pt.kind,Pt.chr]) (by simp (disch:=first|omega|simp<;>omega|fail) [-zA,-zB,-zC,-zD,-zE,zip6,ptC,Pt.kind,Pt.chr]),by simp [m15]; omega,hs⟩
      ·have b4:¬ p[i+1].toBitVec=42#8:=fun e=>c4 (zw4m.1 e)
       have b4q:(p[i+1].toBitVec == 42#8)=false:=by simp [b4]
       have hs:=zq8c (n:=i+1) (y := .some) hx (by simp) (by omega) (by show prs (p.drop i)=_; rw [hd,hd2,c3,zpjv c4])
       simp (disch:=first|omega|simp<;>omega|fail) [-zA,-zB,-zC,-zD,-zE,z9ia,h4,h,b1,b1q,b2,b2q,b3,b3q,h6,h6',b4,b4q,hlen,e12]
       exact ⟨⟨l++[.some],i+1⟩,z515 (by simp (disch:=first|omega|simp<;>omega|fail) [-zA,-zB,-zC,-zD,-zE,e12,zip6,ptC,Pt.kind,Pt.chr]) (by simp (disch:=first|omega|simp<;>omega|fail) [-zA,-zB,-zC,-zD,-zE,zip6,ptC,Pt.kind,Pt.chr]),by simp [m15]; omega,hs⟩
     ·have h6':¬ (i:Int)+1<p.length:=by omega
      have hs:=zq8c (n:=i+1) (y := .some) hx (by simp) (by omega) (by show prs (p.drop i)=_; rw [hd,c3,List.drop_eq_nil_of_le (by omega),zkwm]; rfl)
      simp (disch:=first|omega|simp<;>omega|fail) [-zA,-zB,-zC,-zD,-zE,z9ia,h4,h,b1,b1q,b2,b2q,b3,b3q,h6',hlen]
      exact ⟨⟨l++[.some],i+1⟩,z515 (by simp (disch:=first|omega|simp<;>omega|fail) [-zA,-zB,-zC,-zD,-zE,e12,zip6,ptC,Pt.kind,Pt.chr]) (by simp (disch:=first|omega|simp<;>omega|fail) [-zA,-zB,-zC,-zD,-zE,zip6,ptC,Pt.kind,Pt.chr]),by simp [m15]; omega,hs⟩
    ·have b3:¬ p[i].toBitVec=42#8:=fun e=>c3 (zw4m.1 e)
     have b3q:(p[i].toBitVec == 42#8)=false:=by simp [b3]
     have hs:=zq8c (n:=i+1) (y := .one p[i].toBitVec) hx (by simp) (by omega) (by show prs (p.drop i)=_; rw [hd,zmw4 c1 c3 c2])
     simp (disch:=first|omega|simp<;>omega|fail) [-zA,-zB,-zC,-zD,-zE,z9ia,h4,h,b1,b1q,b2,b2q,b3,b3q,hlen]
     exact ⟨⟨l++[.one p[i].toBitVec],i+1⟩,z515 (by simp (disch:=first|omega|simp<;>omega|fail) [-zA,-zB,-zC,-zD,-zE,e12,zip6,ptC,Pt.kind,Pt.chr]) (by simp (disch:=first|omega|simp<;>omega|fail) [-zA,-zB,-zC,-zD,-zE,zip6,ptC,Pt.kind,Pt.chr]),by simp [m15]; omega,hs⟩
 ·have h4:¬ (i:Int)<p.length:=by omega
  obtain rfl:i=p.length:=by omega
  rw [List.drop_length] at hpr
  have hq:prs p = .some l:=by rw [hpr]; simp [prs]
  have hne:=zfht (by intro e; rw [e] at h1; simp at h1) hq
  have ht:(z6j5 l).take (l.length*2)=z6j5 l:=List.take_of_length_le (by omega)
  simp (disch:=first|omega|simp<;>omega|fail) [-zA,-zB,-zC,-zD,-zE,h4,z8l3 (zbvb hne),zpgk (zbvb hne),hp,hq,zoby,ht,zyoh,hlen]
def z8r4 (p:List UInt8):DV:=zoby (zfn1 p)
def T58:Tbl:=addT 78 (.pure (cS z8r4)) tbl0
theorem z8i1:T58 78 = .pure (cS z8r4):=by simp [T58]
theorem zeib:T58.Sound P:=z0rp (zzn8 fun p=>zljw mix zhpa Tryz.func78 zetr (ztmv p)) zr5o
def z01o (p:List UInt8):DV := .bool (zfn1 p).isSome
theorem ztir (p:List UInt8):Runs T58 a61 [.str p] (z01o p):=by
 refine ⟨?_⟩
 cases h:zfn1 p with
 | none=>simp (disch:=first|omega|simp<;>omega|fail) [-zA,-zB,-zC,-zD,-zE,a61,z8i1,zk5k,z8r4,h,zoby,z01o]
 | some l=>simp (disch:=first|omega|simp<;>omega|fail) [-zA,-zB,-zC,-zD,-zE,a61,z8i1,zk5k,z8r4,h,zoby,z01o]
def zqvz (x:Pt):DV:=match x with
 | .one c => .fn (.func 90) [] [.ref [.int .i64 0,w8 c]]
 | .whole => .fn (.func 91) [] []
 | _ => .fn (.func 92) [] []
theorem z7ww {h:List AObj} {k:Nat} {f:Fn} {x:DV}:snap h (k+1) (.fn f [] [x])=(snap h (k+1) x).map fun y => .fn f [] [y]:=by
 simp only [snap,zcxt,zoyo]
 cases zcxt _ x<;>rfl
theorem zk6j {h:List AObj} {k:Nat} {f:Fn}:snap h k (.fn f [] [])=some (.fn f [] []):=by cases k<;>rfl
theorem z2em (x:Pt):Runs tbl0 a79 [.agg (ptC x)] (zqvz x):=by
 refine ⟨?_⟩
 cases x with
 | one c=>simp (disch:=first|omega|simp<;>omega|fail) [-zA,-zB,-zC,-zD,-zE,a79,ptC,Pt.kind,Pt.chr,zqvz,z7ww,zk6j]
 | dot=>simp (disch:=first|omega|simp<;>omega|fail) [-zA,-zB,-zC,-zD,-zE,a79,ptC,Pt.kind,Pt.chr,zqvz,z7ww,zk6j]
 | some=>simp (disch:=first|omega|simp<;>omega|fail) [-zA,-zB,-zC,-zD,-zE,a79,ptC,Pt.kind,Pt.chr,zqvz,z7ww,zk6j]
 | whole=>simp (disch:=first|omega|simp<;>omega|fail) [-zA,-zB,-zC,-zD,-zE,a79,ptC,Pt.kind,Pt.chr,zqvz,z7ww,zk6j]
theorem z439 (x:Pt):Runs tbl0 a80 [.agg (ptC x)] (.bool x.long):=by
 refine ⟨?_⟩
 cases x with
 | one c=>simp (disch:=first|omega|simp<;>omega|fail) [-zA,-zB,-zC,-zD,-zE,a80,ptC,Pt.kind,Pt.chr,Pt.long]
 | dot=>simp (disch:=first|omega|simp<;>omega|fail) [-zA,-zB,-zC,-zD,-zE,a80,ptC,Pt.kind,Pt.chr,Pt.long]
 | some=>simp (disch:=first|omega|simp<;>omega|fail) [-zA,-zB,-zC,-zD,-zE,a80,ptC,Pt.kind,Pt.chr,Pt.long]
 | whole=>simp (disch:=first|omega|simp<;>omega|fail) [-zA,-zB,-zC,-zD,-zE,a80,ptC,Pt.kind,Pt.chr,Pt.long]
theorem zakd (b c:B8):Runs tbl0 a90 [w8 b,.ref [.int .i64 0,w8 c]] (.bool (b == c)):=by
 refine ⟨?_⟩
 simp (disch:=first|omega|simp<;>omega|fail) [-zA,-zB,-zC,-zD,-zE,a90]
theorem ze07 (b:B8):Runs tbl0 a91 [w8 b] (.bool true):=by
 refine ⟨?_⟩
 simp (disch:=first|omega|simp<;>omega|fail) [-zA,-zB,-zC,-zD,-zE,a91]
theorem zacs (b:B8):Runs tbl0 a92 [w8 b] (.bool (b != 47#8)):=by
 refine ⟨?_⟩
 simp (disch:=first|omega|simp<;>omega|fail) [-zA,-zB,-zC,-zD,-zE,a92]
end Go.Proofs.YtjknipdiglpnlaaGreatDoor
set_option linter.unusedSimpArgs false
set_option linter.unusedVariables false
namespace Go.Proofs.YtjknipdiglpnlaaGreatDoor
open Go Go.Am
theorem zq5p {x y:Pt} (e:ptC x=ptC y):x=y:=by
 cases x<;>cases y<;>simp [ptC,Pt.kind,Pt.chr,z21y] at e ⊢ <;> exact e
noncomputable def zyoe:List DV→Option DV:=con (fun (_:Pt)=>True) (fun x=>[.agg (ptC x)]) zqvz
theorem zkt2 {x:Pt}:zyoe [.agg [.int .i64 x.kind,w8 x.chr]]=some (zqvz x) :=
 z400 (A:=fun (_:Pt)=>True) (a:=x) (f:=fun x=>[.agg (ptC x)]) (g:=zqvz) (by intro a b _ _ e; simp only [List.cons.injEq,DV.agg.injEq,and_true] at e; rw [zq5p e]) trivial
noncomputable def zupo:List DV→Option DV:=con (fun (_:Pt)=>True) (fun x=>[.agg (ptC x)]) (fun x => .bool x.long)
theorem zfa9 {x:Pt}:zupo [.agg [.int .i64 x.kind,w8 x.chr]]=some (.bool x.long) :=
 z400 (A:=fun (_:Pt)=>True) (a:=x) (f:=fun x=>[.agg (ptC x)]) (g:=fun x => .bool x.long) (by intro a b _ _ e; simp only [List.cons.injEq,DV.agg.injEq,and_true] at e; rw [zq5p e]) trivial
noncomputable def zst5:List DV→Option DV:=con (fun (_:B8 × B8)=>True) (fun a=>[w8 a.1,.ref [.int .i64 0,w8 a.2]]) (fun a => .bool (a.1 == a.2))
theorem zx1c {b c:B8}:zst5 [w8 b,.ref [.int .i64 0,w8 c]]=some (.bool (b == c)) :=
 z400 (A:=fun (_:B8 × B8)=>True) (a:=(b,c)) (f:=fun a=>[w8 a.1,.ref [.int .i64 0,w8 a.2]]) (g:=fun a => .bool (a.1 == a.2)) (by
  rintro ⟨a,b⟩ ⟨c,d⟩ _ _ e; simp only [List.cons.injEq,DV.ref.injEq,z21y,and_true,true_and] at e; obtain ⟨rfl,rfl⟩:=e; rfl) trivial
noncomputable def z22e:List DV→Option DV:=con (fun (_:B8)=>True) (fun a=>[w8 a]) (fun _ => .bool true)
theorem zx0u {b:B8}:z22e [w8 b]=some (.bool true) :=
 z400 (A:=fun (_:B8)=>True) (a:=b) (f:=fun a=>[w8 a]) (g:=fun _ => .bool true) (by intros; rfl) trivial
noncomputable def z489:List DV→Option DV:=con (fun (_:B8)=>True) (fun a=>[w8 a]) (fun a => .bool (a != 47#8))
theorem z936 {b:B8}:z489 [w8 b]=some (.bool (b != 47#8)) :=
 z400 (A:=fun (_:B8)=>True) (a:=b) (f:=fun a=>[w8 a]) (g:=fun a => .bool (a != 47#8)) (by intro a b _ _ e; simp only [List.cons.injEq,z21y,and_true] at e; rw [e]) trivial
noncomputable def T59:Tbl:=addT 79 (.pure zyoe) (addT 80 (.pure zupo) (addT 90 (.pure zst5) (addT 91 (.pure z22e) (addT 92 (.pure z489)
 (addT 78 (.pure (cS z8r4)) (addT 76 (.pure (cS za1j)) tbl0))))))
theorem zi6l:T59 79 = .pure zyoe:=by simp [T59]
theorem zzbb:T59 80 = .pure zupo:=by simp [T59]
theorem zi94:T59 90 = .pure zst5:=by simp [T59]
theorem zf3w:T59 91 = .pure z22e:=by simp [T59]
theorem zev5:T59 92 = .pure z489:=by simp [T59]
theorem znm8:T59 78 = .pure (cS z8r4):=by simp [T59]
theorem zhd4:T59 76 = .pure (cS za1j):=by simp [T59]
theorem zy0e:T59.Sound P :=
 z0rp (z2au fun x _=>zljw mix zr5o Tryz.func79 zaq4 (z2em x))
 (z0rp (z2au fun x _=>zljw mix zr5o Tryz.func80 zzh9 (z439 x))
 (z0rp (z2au fun a _=>zljw mix zr5o Tryz.func90 z9pi (zakd a.1 a.2))
 (z0rp (z2au fun a _=>zljw mix zr5o Tryz.func91 z07s (ze07 a))
 (z0rp (z2au fun a _=>zljw mix zr5o Tryz.func92 zypd (zacs a))
 (z0rp (zzn8 fun p=>zljw mix zhpa Tryz.func78 zetr (ztmv p))
 (z0rp (zzn8 fun p=>zljw mix zhpa Tryz.func76 zqxf (z08u p)) zr5o))))))
theorem z6ly {y:Pt} {b:B8} {h:List AObj}:z46a T59 false (zqvz y) [w8 b] h=some (.bool (y.takes b),h):=by
 cases y with
 | one c=>simp [zqvz,zxj6,zi94,zx1c,Pt.takes]
 | dot=>simp [zqvz,zxj6,zev5,z936,Pt.takes]
 | some=>simp [zqvz,zxj6,zev5,z936,Pt.takes]
 | whole=>simp [zqvz,zxj6,zf3w,zx0u,Pt.takes]
def zkxs (f:Nat→Bool) (n:Nat):List Bool:=(List.range (n+1)).map f
def inn (f:Nat→Bool) (i n:Nat):List Bool:=(List.range (n+1)).map fun j=>decide (j≤i)&&f j
def zdol (m:Nat):List Bool:=List.replicate m false
theorem z4jn (f:Nat→Bool) (n:Nat):(zkxs f n).length=n+1:=by simp [zkxs]
theorem zbo5 (f:Nat→Bool) (i n:Nat):(inn f i n).length=n+1:=by simp [inn]
theorem zj3v {f:Nat→Bool} {n i:Nat} (h:i<(zkxs f n).length):(zkxs f n)[i]=f i:=by simp [zkxs]
theorem zbgu {f:Nat→Bool} {n i:Nat} (h:i<(inn f i n).length):(inn f i n)[i]=f i:=by simp [inn]
theorem z09a (m:Nat):rep m (DV.bool false)=(zdol m).map DV.bool:=by simp [rep,zdol]
theorem zcql : ∀ (n:Nat) (s:List UInt8) (l:List Pt),s.length≤n→prs s = .some l→l.length≤s.length
 | _,[],l,_,h=>by simp [prs] at h; subst h; simp
 | 0,c::r,l,hn,h=>by simp at hn
 | n+1,c::r,l,hn,h=>by
  have hr:r.length≤n:=by simpa using hn
  have oneC : ∀ (q:List UInt8) (y:Pt),q.length≤r.length→(prs q).map (fun l=>y::l) = .some l→l.length≤(c::r).length:=by
   intro q y hq e
   obtain ⟨l',e1,e2⟩:=Option.map_eq_some_iff.1 e
   have:=zcql n q l' (by omega) e1
   rw [← e2]; simp; omega
  by_cases h1:c=92
  ·subst h1
   match r,h with
   | [],h=>simp [zt8b] at h
   | d::r,h=>rw [z32i] at h; exact oneC r _ (by simp) h
  ·by_cases h2:c=42
   ·subst h2
    match r,h with
    | [],h=>simp [zkwm] at h; subst h; simp
    | d::r,h =>
     by_cases h3:d=42
     ·subst h3; rw [zqqt] at h; exact oneC r _ (by simp) h
     ·rw [zpjv h3] at h; exact oneC _ _ (Nat.le_refl _) h
   ·by_cases h3:c=63
    ·subst h3; rw [z28c] at h; exact oneC r _ (Nat.le_refl _) h
    ·rw [zmw4 h1 h2 h3] at h; exact oneC r _ (Nat.le_refl _) h
theorem zxnm {p:List UInt8} {l:List Pt} (h:zfn1 p = .some l):l.length≤200:=by
 unfold zfn1 at h
 split at h
 ·rename_i hc
  have:=zcql _ p l (Nat.le_refl _) h
  omega
 ·simp at h
theorem zuv7 (f:Nat→Bool) (n:Nat):(zdol (n+1)).set 0 (f 0)=inn f 0 n:=by
 apply List.ext_getElem (by simp [zdol,inn])
 intro i h1 h2
 cases i with
 | zero=>simp [inn]
 | succ i=>simp [zdol,inn]
theorem z05s (l s) (n:Nat):(zdol (n+1)).set 0 true=zkxs (M l s 0) n:=by
 apply List.ext_getElem (by simp [zdol,zkxs])
 intro i h1 h2
 cases i with
 | zero=>simp [zkxs,zbas]
 | succ i=>simp [zdol,zkxs,zbas]
theorem zaip {f:Nat→Bool} {i n:Nat} (h:i<n):(inn f i n).set (i+1) (f (i+1))=inn f (i+1) n:=by
 apply List.ext_getElem (by simp [inn])
 intro j h1 h2
 rw [List.getElem_set]
 split
 ·rename_i e; subst e; simp [inn]
 ·rename_i e
  simp only [inn,List.getElem_map,List.getElem_range]
  by_cases hj:j≤i
  ·have:j≤i+1:=by omega
   simp [hj,this]
  ·have:¬ j≤i+1:=by omega
   simp [hj,this]
theorem zy1a (f:Nat→Bool) (n:Nat):inn f n n=zkxs f n:=by
 apply List.ext_getElem (by simp [inn,zkxs])
 intro j h1 h2
 have:j≤n:=by simp [inn] at h1; omega
 simp [inn,zkxs,this]
theorem zf0q {pre l:List AObj} {j ver:Nat}:objV (pre++l) (pre.length+j) ver=objV l j ver:=by
 simp only [objV,ziu0]; rw [List.getElem?_append_right (by omega)]; simp
theorem zr5s {pre l:List AObj} {ver:Nat}:objV (pre++l) pre.length ver=objV l 0 ver:=by
 have:=zf0q (pre:=pre) (l:=l) (j:=0) (ver:=ver)
 simpa using this
theorem z3nb {pre l:List AObj} {o:AObj}:(pre++l).set pre.length o=pre++l.set 0 o:=by rw [List.set_append_right _ _ (by omega)]; simp
theorem zm3y {pre l:List AObj} {j:Nat} {o:AObj}:(pre++l).set (pre.length+j) o=pre++l.set j o:=by rw [List.set_append_right _ _ (by omega)]; simp
theorem zhys : ∀ {l:List Pt} {k:Nat} (h:k<l.length),((z6j5 l).drop (k*2)).take 2=[.int .i64 l[k].kind,w8 l[k].chr]
 | x::l,0,_=>by simp [z6j5,ptC]
 | x::l,k+1,h=>by
  have:=zhys (l:=l) (k:=k) (by simpa using h)
  have e:z6j5 (x::l) = .int .i64 x.kind::w8 x.chr::z6j5 l:=by simp [z6j5,ptC]
  rw [e,show (k+1)*2=k*2+1+1 by omega]
  simpa using this
theorem z8ev {h:List AObj} {id off:Nat} {x:Bool} {l:List Bool} (hi:off<l.length):zy6o h id 1 off (.bool x) (some (l.map DV.bool))=some (.junk,h.set id (.cells ((l.set off x).map DV.bool))):=by
 rw [Am.storeO_1 rfl rfl (by simpa using hi),List.map_set]
theorem zfp3 (f:Nat→Bool) (n:Nat):(rep (n+1) (DV.bool false)).set 0 (.bool (f 0))=(inn f 0 n).map DV.bool:=by
 rw [z09a,← zuv7,List.map_set]
theorem zqiv (l s) (n:Nat):(rep (n+1) (DV.bool false)).set 0 (.bool true)=(zkxs (M l s 0) n).map DV.bool:=by
 rw [z09a,← z05s l s,List.map_set]
theorem zfvc {a b:DV}:oneC 2 true [a,b]=some (.agg [a,b]):=rfl
theorem z5hp {h:List AObj} {id:Nat} {a b c d:DV} (hc:c.one=true) (hd:d.one=true):zy6o h id 2 0 (.agg [c,d]) (some [a,b])=some (.junk,h.set id (.cells [c,d])):=zfc1 rfl rfl (by simp [hc,hd])
structure X8 where
 k:Nat
 pre:List AObj
def S8 (l:List Pt) (s:List UInt8) (x:X8):St :=
 z6ev (.str s) (.ms x.pre.length (s.length+1) 0 1 (s.length+1) (s.length+1)) (.sl false 2 l.length (z6j5 l)) (.int .i64 l.length) (.int .i64 x.k) (x.pre++[.cells ((zkxs (M l s x.k) s.length).map DV.bool)])
def S8b (l:List Pt) (s:List UInt8) (k:Nat) (y:Pt) (pre:List AObj) (i:Nat):St :=
 zms4 (.str s) (.ms pre.length (s.length+1) 0 1 (s.length+1) (s.length+1)) (.mp (pre.length+1) 2 0) (zqvz y) (.ms (pre.length+2) (s.length+1) 0 1 (s.length+1) (s.length+1)) (.sl false 2 l.length (z6j5 l)) (.int .i64 l.length) (.int .i64 k) (.int .i64 s.length) (.int .i64 i)
  (pre++[.cells ((zkxs (M l s k) s.length).map DV.bool),.cells [.int .i64 y.kind,w8 y.chr],.cells ((inn (M l s (k+1)) i s.length).map DV.bool)])
theorem z3jz (p s:List UInt8):Runs T59 a51 [.str p,.str s] (.bool (zenh p s)):=by
 refine ⟨?_⟩
 cases hp:zfn1 p with
 | none =>
  have hm:zenh p s=false:=by rw [zenh,hp]
  simp (disch:=first|omega|simp<;>omega|fail) [-zA,-zB,-zC,-zD,-zE,a51,znm8,zk5k,z8r4,hp,zoby,hm]
 | some l =>
 by_cases hs:zj1f s=true
 case neg =>
  have hs:zj1f s=false:=by simpa using hs
  have hm:zenh p s=false:=by rw [zenh,hp]; simp [hs]
  simp (disch:=first|omega|simp<;>omega|fail) [-zA,-zB,-zC,-zD,-zE,a51,znm8,zhd4,zk5k,z8r4,hp,zoby,za1j,hs,hm]
 have hm:zenh p s=M l s l.length s.length:=by rw [zenh,hp]; simp [hs]
 have hsl:s.length≤200:=by simp only [zj1f,Bool.and_eq_true,decide_eq_true_eq] at hs; omega
 have hlp:=zxnm hp
 have hlc:=z4u6 l
 simp (disch:=first|omega|simp<;>omega|fail) [-zA,-zB,-zC,-zD,-zE,a51,znm8,zhd4,zk5k,z8r4,hp,zoby,za1j,hs]
 refine zlm5 (S8 l s) (fun x=>l.length-x.k) (fun x=>x.k≤l.length) ⟨0,[]⟩ (z515 (by simp (disch:=first|omega|simp<;>omega|fail) [-zA,-zB,-zC,-zD,-zE]) (by simp (disch:=first|omega|simp<;>omega|fail) [-zA,-zB,-zC,-zD,-zE]; exact (zqiv l s _).symm)) (by simp) (fun x hx => ?_)
 obtain ⟨k,pre⟩:=x
 simp only at hx
 have hlr:=z4jn (M l s k) s.length
 simp (disch:=first|omega|simp<;>omega|fail) [-zA,-zB,-zC,-zD,-zE,zz44,z6ev,S8]
 by_cases h:k<l.length
 ·have h1:(k:Int)<l.length:=by omega
  have hg:=zhys h
  simp (disch:=first|omega|simp<;>omega|fail) [-zA,-zB,-zC,-zD,-zE,zfvc,z5hp,z8ev,h1,h,hg,zf0q,zr5s,zm3y,z3nb,zi6l,zkt2,hlr,zj3v,zzbb,zfa9]
  have hgd:l.getD k .dot=l[k]:=by rw [List.getD_eq_getElem?_getD,List.getElem?_eq_getElem h]; rfl
  obtain ⟨y,hy⟩ : ∃ y,l[k]=y:=⟨_,rfl⟩
  rw [hy] at hgd
  have hf0:M l s (k+1) 0=(y.long&&M l s k 0):=by rw [z9av,hgd]
  obtain ⟨b0,hb0⟩ : ∃ b0,M l s k 0=b0:=⟨_,rfl⟩
  cases b0
  all_goals
   rw [hb0] at hf0
   simp only [Bool.and_true,Bool.and_false] at hf0
   have hr0:=zfp3 (M l s (k+1)) s.length
   rw [hf0] at hr0
   simp (disch:=first|omega|simp<;>omega|fail) [-zA,-zB,-zC,-zD,-zE,zfvc,z5hp,z8ev,hy,hb0,zf0q,zr5s,zm3y,z3nb,zzbb,zfa9]
   refine zlm5 (S8b l s k y pre) (fun i=>s.length-i) (fun i=>i≤s.length) 0 (z515 (by simp (disch:=first|omega|simp<;>omega|fail) [-zA,-zB,-zC,-zD,-zE]) (by simp (disch:=first|omega|simp<;>omega|fail) [-zA,-zB,-zC,-zD,-zE,hr0])) (by omega) (fun i hi => ?_)
   have hli:=zbo5 (M l s (k+1)) i s.length
   simp (disch:=first|omega|simp<;>omega|fail) [-zA,-zB,-zC,-zD,-zE,znqb,zms4,S8b]
   by_cases hs1:i<s.length
   ·have hs2:(i:Int)<s.length:=by omega
    have hba:=z8rj hs1
    by_cases hlg:y.long=true
    ·have hM:=zbwv (l:=l) (s:=s) (k:=k) (i:=i) (by rw [hgd]; exact hlg)
     rw [hgd,hba] at hM
     obtain ⟨v1,hv1⟩ : ∃ v1,M l s k (i+1)=v1:=⟨_,rfl⟩
     obtain ⟨v2,hv2⟩ : ∃ v2,M l s (k+1) i=v2:=⟨_,rfl⟩
     rw [hv1,hv2] at hM
     cases v1<;>cases v2
     all_goals
      simp only [Bool.false_or,Bool.true_or,Bool.false_and,Bool.true_and] at hM
      have hset:=zaip (f:=M l s (k+1)) hs1
      rw [hM] at hset
      simp (disch:=first|omega|simp<;>omega|fail) [-zA,-zB,-zC,-zD,-zE,zfvc,z8ev,hs1,hs2,hlg,zf0q,zr5s,zm3y,z3nb,zzbb,zfa9,hlr,zj3v,hli,zbgu,z6ly,hv1,hv2]
      exact ⟨i+1,z515 (by simp (disch:=first|omega|simp<;>omega|fail) [-zA,-zB,-zC,-zD,-zE]) (by simp (disch:=first|omega|simp<;>omega|fail) [-zA,-zB,-zC,-zD,-zE,hset]),by omega,by omega⟩
    ·have hlg:y.long=false:=by simpa using hlg
     have hM:=ze32 (l:=l) (s:=s) (k:=k) (i:=i) (by rw [hgd]; exact hlg)
     rw [hgd,hba] at hM
     obtain ⟨v1,hv1⟩ : ∃ v1,M l s k i=v1:=⟨_,rfl⟩
     rw [hv1] at hM
     cases v1
     all_goals
      simp only [Bool.false_and,Bool.true_and] at hM
      have hset:=zaip (f:=M l s (k+1)) hs1
      rw [hM] at hset
      simp (disch:=first|omega|simp<;>omega|fail) [-zA,-zB,-zC,-zD,-zE,zfvc,z8ev,hs1,hs2,hlg,zf0q,zr5s,zm3y,z3nb,zzbb,zfa9,hlr,zj3v,hli,zbgu,z6ly,hv1]
      exact ⟨i+1,z515 (by simp (disch:=first|omega|simp<;>omega|fail) [-zA,-zB,-zC,-zD,-zE]) (by simp (disch:=first|omega|simp<;>omega|fail) [-zA,-zB,-zC,-zD,-zE,hset]),by omega,by omega⟩
   ·have hs2:¬ (i:Int)<s.length:=by omega
    obtain rfl:i=s.length:=by omega
    simp (disch:=first|omega|simp<;>omega|fail) [-zA,-zB,-zC,-zD,-zE,hs2]
    refine ⟨⟨k+1,pre++[.cells ((zkxs (M l s k) s.length).map DV.bool),.cells [.int .i64 y.kind,w8 y.chr]]⟩,z515 (by simp (disch:=first|omega|simp<;>omega|fail) [-zA,-zB,-zC,-zD,-zE]) (by simp (disch:=first|omega|simp<;>omega|fail) [-zA,-zB,-zC,-zD,-zE,zy1a]),by show l.length-(k+1)<l.length-k; omega,by show k+1≤l.length; omega⟩
 ·have h1:¬ (k:Int)<l.length:=by omega
  obtain rfl:k=l.length:=by omega
  simp (disch:=first|omega|simp<;>omega|fail) [-zA,-zB,-zC,-zD,-zE,h1,zr5s,hlr,zj3v,hm]
end Go.Proofs.YtjknipdiglpnlaaGreatDoor
set_option linter.unusedSimpArgs false
set_option linter.unusedVariables false
namespace Go.Proofs.YtjknipdiglpnlaaGreatDoor
open Go Go.Am
def lb (t:List UInt8):List B8:=t.map UInt8.toBitVec
def T60:Tbl:=addT 76 (.pure (cS za1j)) tbl0
theorem zh16:T60 76 = .pure (cS za1j):=by simp [T60]
theorem zbqx:T60.Sound P:=z0rp (zzn8 fun p=>zljw mix zhpa Tryz.func76 zqxf (z08u p)) zr5o
theorem zpps {s:List UInt8} (h:zj1f s=true):1≤s.length∧s.length≤200∧noZ s=true∧(z2fg s).all okC=true:=by
 simp only [zj1f,Bool.and_eq_true,decide_eq_true_eq] at h
 exact ⟨h.1.1.1,h.1.1.2,h.1.2,h.2⟩
def dirD (s:List UInt8):Bool:=s == []||zj1f s
def dirB (s:List UInt8):DV := .bool (dirD s)
theorem zl50 {s:List UInt8} (h:dirD s=true):s.length≤200:=by
 simp only [dirD,Bool.or_eq_true,beq_iff_eq] at h
 rcases h with rfl|h
 ·simp
 ·exact (zpps h).2.1
theorem z532 (s:List UInt8):Runs T60 a75 [.str s] (dirB s):=by
 refine ⟨?_⟩
 by_cases h:s=[]
 ·subst h; simp (disch:=first|omega|simp<;>omega|fail) [-zA,-zB,-zC,-zD,-zE,a75,dirB,dirD]
 ·have hd:dirD s=zj1f s:=by simp [dirD,h]
  simp (disch:=first|omega|simp<;>omega|fail) [-zA,-zB,-zC,-zD,-zE,a75,dirB,hd,h,zh16,zk5k,za1j]
def zukt (d r:List UInt8):List UInt8:=if d=[] then r else d++47::r
def z7z9 (d s:List UInt8):Option (List UInt8):=if d=[] then some s else if s.take (d.length+1)=d++[47] then some (s.drop (d.length+1)) else none
def relO (a b s:List UInt8):Option (List UInt8) :=
 if dirD a=true∧dirD b=true∧zj1f s=true then (z7z9 a s).bind fun r=>if zj1f (zukt b r)=true then some (zukt b r) else none else none
def optS:Option (List UInt8)→DV
 | none => .tup [.str [],.bool false]
 | some r => .tup [.str r,.bool true]
def relD (a b s:List UInt8):DV:=optS (relO a b s)
def T61:Tbl:=addT 75 (.pure (cS dirB)) (addT 77 (.pure (cSS cutD)) T60)
theorem z2x6:T61 76 = .pure (cS za1j):=by simp [T61,T60]
theorem zam5:T61 75 = .pure (cS dirB):=by simp [T61]
theorem zk2w:T61 77 = .pure (cSS cutD):=by simp [T61]
theorem zek7:T61.Sound P:=z0rp (zzn8 fun s=>zljw mix zbqx Tryz.func75 zrvd (z532 s)) (z0rp (zd7v fun s p=>zljw mix z4p0 Tryz.func77 z20a (zgsw s p)) zbqx)
theorem zpcq (a b s:List UInt8):Runs T61 a50 [.str a,.str b,.str s] (relD a b s):=by
 refine ⟨?_⟩
 by_cases ha:dirD a=true
 case neg =>
  have hr:relO a b s=none:=by rw [relO,if_neg (by simp [ha])]
  have ha:dirD a=false:=by simpa using ha
  simp (disch:=first|omega|simp<;>omega|fail) [-zA,-zB,-zC,-zD,-zE,a50,zam5,zk5k,dirB,ha,relD,hr,optS]
 by_cases hb:dirD b=true
 case neg =>
  have hr:relO a b s=none:=by rw [relO,if_neg (by simp [hb])]
  have hb:dirD b=false:=by simpa using hb
  simp (disch:=first|omega|simp<;>omega|fail) [-zA,-zB,-zC,-zD,-zE,a50,zam5,zk5k,dirB,ha,hb,relD,hr,optS]
 by_cases hs:zj1f s=true
 case neg =>
  have hr:relO a b s=none:=by rw [relO,if_neg (by simp [hs])]
  have hs:zj1f s=false:=by simpa using hs
  simp (disch:=first|omega|simp<;>omega|fail) [-zA,-zB,-zC,-zD,-zE,a50,zam5,z2x6,zk5k,dirB,za1j,ha,hb,hs,relD,hr,optS]
 have la:=zl50 ha
 have lb:=zl50 hb
 have ls:=(zpps hs).2.1
 have hr:relO a b s=(z7z9 a s).bind fun r=>if zj1f (zukt b r)=true then some (zukt b r) else none:=by rw [relO,if_pos ⟨ha,hb,hs⟩]
 have tail : ∀ r,r.length≤200→z7z9 a s=some r→((b=[]→zj1f r=true→relD a b s = .tup [.str r,.bool true])∧(b=[]→zj1f r=false→relD a b s = .tup [.str [],.bool false]) ∧
   (b≠[]→zj1f (b++47::r)=true→relD a b s = .tup [.str (b++47::r),.bool true])∧(b≠[]→zj1f (b++47::r)=false→relD a b s = .tup [.str [],.bool false])):=by
  intro r hl he
  rw [relD,hr,he,Option.bind_some]
  refine ⟨fun hb hp => ?_,fun hb hp => ?_,fun hb hp => ?_,fun hb hp => ?_⟩
  ·rw [zukt,if_pos hb,if_pos hp]; rfl
  ·rw [zukt,if_pos hb,if_neg (by simp [hp])]; rfl
  ·rw [zukt,if_neg hb,if_pos hp]; rfl
  ·rw [zukt,if_neg hb,if_neg (by simp [hp])]; rfl
 by_cases hae:a=[]
 ·subst hae
  obtain ⟨q1,q2,q3,q4⟩:=tail s ls rfl
  by_cases hbe:b=[]
  ·subst hbe
   have hd:=q1 rfl hs
   simp (disch:=first|omega|simp<;>omega|fail) [-zA,-zB,-zC,-zD,-zE,a50,zam5,z2x6,zk5k,dirB,za1j,ha,hs,hd]
  ·by_cases hu:zj1f (b++47::s)=true
   ·have hd:=q3 hbe hu
    simp (disch:=first|omega|simp<;>omega|fail) [-zA,-zB,-zC,-zD,-zE,a50,zam5,z2x6,zk5k,dirB,za1j,ha,hb,hs,hbe,hu,hd]
   ·have hu:zj1f (b++47::s)=false:=by simpa using hu
    have hd:=q4 hbe hu
    simp (disch:=first|omega|simp<;>omega|fail) [-zA,-zB,-zC,-zD,-zE,a50,zam5,z2x6,zk5k,dirB,za1j,ha,hb,hs,hbe,hu,hd]
 ·have hc:cSS cutD [.str s,.str (a++[47])]=some (cutD s (a++[47])):=rfl
  rw [cutD,List.length_append,List.length_singleton] at hc
  by_cases ht:s.take (a.length+1)=a++[47]
  case neg =>
   have hd:relD a b s = .tup [.str [],.bool false]:=by rw [relD,hr,z7z9,if_neg hae,if_neg ht]; rfl
   rw [if_neg ht] at hc
   simp (disch:=first|omega|simp<;>omega|fail) [-zA,-zB,-zC,-zD,-zE,a50,zam5,z2x6,zk2w,zk5k,dirB,za1j,ha,hb,hs,hae,hc,hd]
  rw [if_pos ht] at hc
  obtain ⟨r,hre⟩ : ∃ r,s.drop (a.length+1)=r:=⟨_,rfl⟩
  have hrl:r.length≤200:=by rw [← hre,List.length_drop]; omega
  rw [hre] at hc
  obtain ⟨q1,q2,q3,q4⟩:=tail r hrl (by rw [z7z9,if_neg hae,if_pos ht,hre])
  by_cases hbe:b=[]
  ·subst hbe
   by_cases hu:zj1f r=true
   ·have hd:=q1 rfl hu
    simp (disch:=first|omega|simp<;>omega|fail) [-zA,-zB,-zC,-zD,-zE,a50,zam5,z2x6,zk2w,zk5k,dirB,za1j,ha,hb,hs,hae,hc,hu,hd]
   ·have hu:zj1f r=false:=by simpa using hu
    have hd:=q2 rfl hu
    simp (disch:=first|omega|simp<;>omega|fail) [-zA,-zB,-zC,-zD,-zE,a50,zam5,z2x6,zk2w,zk5k,dirB,za1j,ha,hb,hs,hae,hc,hu,hd]
  ·by_cases hu:zj1f (b++47::r)=true
   ·have hd:=q3 hbe hu
    simp (disch:=first|omega|simp<;>omega|fail) [-zA,-zB,-zC,-zD,-zE,a50,zam5,z2x6,zk2w,zk5k,dirB,za1j,ha,hb,hs,hae,hc,hbe,hu,hd]
   ·have hu:zj1f (b++47::r)=false:=by simpa using hu
    have hd:=q4 hbe hu
    simp (disch:=first|omega|simp<;>omega|fail) [-zA,-zB,-zC,-zD,-zE,a50,zam5,z2x6,zk2w,zk5k,dirB,za1j,ha,hb,hs,hae,hc,hbe,hu,hd]
end Go.Proofs.YtjknipdiglpnlaaGreatDoor
set_option linter.unusedSimpArgs false
set_option linter.unusedVariables false
set_option maxRecDepth 4000
namespace Go.Proofs.YtjknipdiglpnlaaGreatDoor
open Go Go.Am
theorem zdx1 {a b:List UInt8}:zj1f (a++47::b)=(decide ((a++47::b).length≤200)&&noZ a&&noZ b&&(z2fg a).all okC&&(z2fg b).all okC):=by
 have h1:(1:Nat)≤(a++47::b).length:=by simp; omega
 have h2:noZ (47::b)=noZ b:=by simp [noZ]
 rw [zj1f,decide_eq_true h1,z2u1,zmnd,List.all_append,h2]
 cases decide ((a++47::b).length≤200)<;>cases noZ a<;>cases noZ b<;>cases (z2fg a).all okC<;>cases (z2fg b).all okC<;>rfl
theorem zrd6 {a b s r:List UInt8} (h:relO a b s=some r):zj1f r=true∧relO b a r=some s:=by
 unfold relO at h
 split at h
 ·rename_i hc
  obtain ⟨ha,hb,hs⟩:=hc
  obtain ⟨q,h1,h2⟩:=Option.bind_eq_some_iff.1 h
  split at h2
  ·rename_i hu
   simp only [Option.some.injEq] at h2
   subst h2
   refine ⟨hu,?_⟩
   have e1:z7z9 b (zukt b q)=some q:=by
    by_cases hb0:b=[]
    ·subst hb0; simp [z7z9,zukt]
    ·rw [zukt,if_neg hb0,z7z9,if_neg hb0]
     have t1:(b++47::q).take (b.length+1)=b++[47]:=by
      have:b++47::q=(b++[47])++q:=by simp
      rw [this]; exact List.take_left' (by simp)
     have t2:(b++47::q).drop (b.length+1)=q:=by
      have:b++47::q=(b++[47])++q:=by simp
      rw [this]; exact List.drop_left' (by simp)
     rw [if_pos t1,t2]
   have e2:zukt a q=s:=by
    by_cases ha0:a=[]
    ·rw [z7z9,if_pos ha0] at h1
     simp only [Option.some.injEq] at h1
     rw [zukt,if_pos ha0,h1]
    ·rw [z7z9,if_neg ha0] at h1
     split at h1
     ·rename_i ht
      simp only [Option.some.injEq] at h1
      rw [zukt,if_neg ha0,← h1]
      conv=>rhs; rw [← List.take_append_drop (a.length+1) s,ht]
      simp
     ·simp at h1
   rw [relO,if_pos ⟨hb,ha,hu⟩,e1,Option.bind_some,e2,if_pos hs]
  ·simp at h2
 ·simp at h
end Go.Proofs.YtjknipdiglpnlaaGreatDoor
set_option linter.unusedSimpArgs false
set_option linter.unusedVariables false
set_option maxRecDepth 4000
namespace Go.Proofs.YtjknipdiglpnlaaGreatDoor
open Go Go.Am
def zh9a (first:Bool) (b:UInt8):Bool:=((decide (97#8≤b.toBitVec)&&decide (b.toBitVec≤122#8))||(decide (48#8≤b.toBitVec)&&decide (b.toBitVec≤57#8)))||(!first&&(decide (b.toBitVec=46#8)||decide (b.toBitVec=95#8)||decide (b.toBitVec=45#8)))
def zt9v (s:Str):Bool:=decide (1≤s.length)&&decide (s.length≤64)&&(match s with|[]=>false|b::r=>zh9a true b&&r.all (zh9a false))
theorem zg1n {s:Str}:zt9v s=true↔1≤s.length∧s.length≤64 ∧ ∀ j (h:j<s.length),zh9a (decide (j=0)) s[j]=true:=by
 unfold zt9v
 cases s with
 | nil=>simp
 | cons b r =>
  simp only [Bool.and_eq_true,decide_eq_true_eq,List.all_eq_true,and_assoc]
  refine and_congr_right fun _=>and_congr_right fun _=>⟨fun ⟨h1,h2⟩ j hj => ?_,fun h=>⟨h 0 (by simp),fun x hx => ?_⟩⟩
  ·cases j with
   | zero=>simpa using h1
   | succ j=>simpa using h2 _ (List.getElem_mem (by simpa using hj))
  ·obtain ⟨j,hj,e⟩:=List.getElem_of_mem hx
   have:=h (j+1) (by simpa using hj)
   simpa [e] using this
def S610 (s:Str) (i:Nat):St:=zbk2 (.str s) (.int .i64 i) []
theorem zrln (s:Str):Runs tbl0 a62 [.str s] (.bool (zt9v s)):=by
 refine ⟨?_⟩
 by_cases h1:s.length<1
 ·have h1':(s.length:Int)<1:=by omega
  have hr:zt9v s=false:=by
   cases h:zt9v s with
   | false=>rfl
   | true=>have:=zg1n.1 h; omega
  simp (disch:=first|omega|simp<;>omega|fail) [-zA,-zB,-zC,-zD,-zE,a62,h1,h1',hr]
 by_cases h2:64<s.length
 ·have h1':¬ (s.length:Int)<1:=by omega
  have h2':(64:Int)<s.length:=by omega
  have hr:zt9v s=false:=by
   cases h:zt9v s with
   | false=>rfl
   | true=>have:=zg1n.1 h; omega
  simp (disch:=first|omega|simp<;>omega|fail) [-zA,-zB,-zC,-zD,-zE,a62,h1,h1',h2,h2',hr]
 have h1':¬ (s.length:Int)<1:=by omega
 have h2':¬ (64:Int)<s.length:=by omega
 simp (disch:=first|omega|simp<;>omega|fail) [-zA,-zB,-zC,-zD,-zE,a62,h1,h1',h2,h2']
 refine zlm5 (S610 s) (fun i=>s.length-i) (fun i=>i≤s.length ∧ ∀ j (h:j<s.length),j<i→zh9a (decide (j=0)) s[j]=true) 0 (z515 (by simp (disch:=first|omega|simp<;>omega|fail) [-zA,-zB,-zC,-zD,-zE,S610,zbk2]) (by simp (disch:=first|omega|simp<;>omega|fail) [-zA,-zB,-zC,-zD,-zE,S610,zbk2])) ⟨by omega,fun j _ h=>by omega⟩ (fun i hi => ?_)
 obtain ⟨k1,k2⟩:=hi
 simp only [S610]
 by_cases h:i<s.length
 case neg =>
  have h':¬ (i:Int)<s.length:=by omega
  have hr:zt9v s=true:=zg1n.2 ⟨by omega,by omega,fun j hj=>k2 j hj (by omega)⟩
  simp (disch:=first|omega|simp<;>omega|fail) [-zA,-zB,-zC,-zD,-zE,z1dk,zbk2,h,h',hr]
 have h':(i:Int)<s.length:=by omega
 obtain ⟨c,hc⟩ : ∃ c,s[i].toBitVec=c:=⟨_,rfl⟩
 have hn:zh9a (decide (i=0)) s[i]=(((decide (97#8≤c)&&decide (c≤122#8))||(decide (48#8≤c)&&decide (c≤57#8)))||(!decide (i=0)&&(decide (c=46#8)||decide (c=95#8)||decide (c=45#8)))):=by unfold zh9a; rw [hc]
 have acc:zh9a (decide (i=0)) s[i]=true → ∀ j (h:j<s.length),j<i+1→zh9a (decide (j=0)) s[j]=true:=fun e j hj hlt=>by
  by_cases q:j=i
  ·subst q; exact e
  ·exact k2 j hj (by omega)
 have rej:zh9a (decide (i=0)) s[i]=false→zt9v s=false:=fun e=>by
  cases q:zt9v s with
  | false=>rfl
  | true=>have:=(zg1n.1 q).2.2 i h; rw [e] at this; cases this
 by_cases a1:97#8≤c
 case neg =>
  by_cases a3:48#8≤c
  case neg =>
   by_cases z:i=0
   case pos =>
    subst z
    have hne:¬ s=[]:=fun q=>by rw [q] at h; simp at h
    have e:=rej (by rw [hn]; simp [a1,a3,hne])
    simp (disch:=first|omega|simp<;>omega|fail) [-zA,-zB,-zC,-zD,-zE,z1dk,zbk2,h,h',hc,e,a1,a3,hne]
   have zi:(0:Int)<i:=by omega
   have zn:0<i:=by omega
   by_cases b46:c=46#8
   case pos =>
    have d46:(c == 46#8)=true:=by simp [b46]
    have e:=acc (by rw [hn]; simp [a1,a3,z,zi,zn,b46])
    simp (disch:=first|omega|simp<;>omega|fail) [-zA,-zB,-zC,-zD,-zE,z1dk,zbk2,h,h',hc,a1,a3,z,zi,zn,b46]
    exact ⟨i+1,z515 (by simp (disch:=first|omega|simp<;>omega|fail) [-zA,-zB,-zC,-zD,-zE,S610,zbk2]) (by simp (disch:=first|omega|simp<;>omega|fail) [-zA,-zB,-zC,-zD,-zE,S610,zbk2]),by omega,⟨by omega,e⟩⟩
   have d46:(c == 46#8)=false:=by simp [b46]
   by_cases b95:c=95#8
   case pos =>
    have d95:(c == 95#8)=true:=by simp [b95]
    have e:=acc (by rw [hn]; simp [a1,a3,z,zi,zn,b46,d46,b95])
    simp (disch:=first|omega|simp<;>omega|fail) [-zA,-zB,-zC,-zD,-zE,z1dk,zbk2,h,h',hc,a1,a3,z,zi,zn,b46,d46,b95]
    exact ⟨i+1,z515 (by simp (disch:=first|omega|simp<;>omega|fail) [-zA,-zB,-zC,-zD,-zE,S610,zbk2]) (by simp (disch:=first|omega|simp<;>omega|fail) [-zA,-zB,-zC,-zD,-zE,S610,zbk2]),by omega,⟨by omega,e⟩⟩
   have d95:(c == 95#8)=false:=by simp [b95]
   by_cases b45:c=45#8
   case pos =>
    have d45:(c == 45#8)=true:=by simp [b45]
    have e:=acc (by rw [hn]; simp [a1,a3,z,zi,zn,b46,d46,b95,d95,b45])
    simp (disch:=first|omega|simp<;>omega|fail) [-zA,-zB,-zC,-zD,-zE,z1dk,zbk2,h,h',hc,a1,a3,z,zi,zn,b46,d46,b95,d95,b45]
    exact ⟨i+1,z515 (by simp (disch:=first|omega|simp<;>omega|fail) [-zA,-zB,-zC,-zD,-zE,S610,zbk2]) (by simp (disch:=first|omega|simp<;>omega|fail) [-zA,-zB,-zC,-zD,-zE,S610,zbk2]),by omega,⟨by omega,e⟩⟩
   have d45:(c == 45#8)=false:=by simp [b45]
   have e:=rej (by rw [hn]; simp [a1,a3,z,zi,zn,b46,d46,b95,d95,b45,d45])
   simp (disch:=first|omega|simp<;>omega|fail) [-zA,-zB,-zC,-zD,-zE,z1dk,zbk2,h,h',hc,e,a1,a3,z,zi,zn,b46,d46,b95,d95,b45,d45]
  by_cases a4:c≤57#8
  case neg =>
   by_cases z:i=0
   case pos =>
    subst z
    have hne:¬ s=[]:=fun q=>by rw [q] at h; simp at h
    have e:=rej (by rw [hn]; simp [a1,a3,a4,hne])
    simp (disch:=first|omega|simp<;>omega|fail) [-zA,-zB,-zC,-zD,-zE,z1dk,zbk2,h,h',hc,e,a1,a3,a4,hne]
   have zi:(0:Int)<i:=by omega
   have zn:0<i:=by omega
   by_cases b46:c=46#8
   case pos =>
    have d46:(c == 46#8)=true:=by simp [b46]
    have e:=acc (by rw [hn]; simp [a1,a3,a4,z,zi,zn,b46])
    simp (disch:=first|omega|simp<;>omega|fail) [-zA,-zB,-zC,-zD,-zE,z1dk,zbk2,h,h',hc,a1,a3,a4,z,zi,zn,b46]
    exact ⟨i+1,z515 (by simp (disch:=first|omega|simp<;>omega|fail) [-zA,-zB,-zC,-zD,-zE,S610,zbk2]) (by simp (disch:=first|omega|simp<;>omega|fail) [-zA,-zB,-zC,-zD,-zE,S610,zbk2]),by omega,⟨by omega,e⟩⟩
   have d46:(c == 46#8)=false:=by simp [b46]
   by_cases b95:c=95#8
   case pos =>
    have d95:(c == 95#8)=true:=by simp [b95]
    have e:=acc (by rw [hn]; simp [a1,a3,a4,z,zi,zn,b46,d46,b95])
    simp (disch:=first|omega|simp<;>omega|fail) [-zA,-zB,-zC,-zD,-zE,z1dk,zbk2,h,h',hc,a1,a3,a4,z,zi,zn,b46,d46,b95]
    exact ⟨i+1,z515 (by simp (disch:=first|omega|simp<;>omega|fail) [-zA,-zB,-zC,-zD,-zE,S610,zbk2]) (by simp (disch:=first|omega|simp<;>omega|fail) [-zA,-zB,-zC,-zD,-zE,S610,zbk2]),by omega,⟨by omega,e⟩⟩
   have d95:(c == 95#8)=false:=by simp [b95]
   by_cases b45:c=45#8
   case pos =>
    have d45:(c == 45#8)=true:=by simp [b45]
    have e:=acc (by rw [hn]; simp [a1,a3,a4,z,zi,zn,b46,d46,b95,d95,b45])
    simp (disch:=first|omega|simp<;>omega|fail) [-zA,-zB,-zC,-zD,-zE,z1dk,zbk2,h,h',hc,a1,a3,a4,z,zi,zn,b46,d46,b95,d95,b45]
    exact ⟨i+1,z515 (by simp (disch:=first|omega|simp<;>omega|fail) [-zA,-zB,-zC,-zD,-zE,S610,zbk2]) (by simp (disch:=first|omega|simp<;>omega|fail) [-zA,-zB,-zC,-zD,-zE,S610,zbk2]),by omega,⟨by omega,e⟩⟩
   have d45:(c == 45#8)=false:=by simp [b45]
   have e:=rej (by rw [hn]; simp [a1,a3,a4,z,zi,zn,b46,d46,b95,d95,b45,d45])
   simp (disch:=first|omega|simp<;>omega|fail) [-zA,-zB,-zC,-zD,-zE,z1dk,zbk2,h,h',hc,e,a1,a3,a4,z,zi,zn,b46,d46,b95,d95,b45,d45]
  have e:=acc (by rw [hn]; simp [a1,a3,a4])
  simp (disch:=first|omega|simp<;>omega|fail) [-zA,-zB,-zC,-zD,-zE,z1dk,zbk2,h,h',hc,a1,a3,a4]
  exact ⟨i+1,z515 (by simp (disch:=first|omega|simp<;>omega|fail) [-zA,-zB,-zC,-zD,-zE,S610,zbk2]) (by simp (disch:=first|omega|simp<;>omega|fail) [-zA,-zB,-zC,-zD,-zE,S610,zbk2]),by omega,⟨by omega,e⟩⟩
 by_cases a2:c≤122#8
 case neg =>
  by_cases a3:48#8≤c
  case neg =>
   by_cases z:i=0
   case pos =>
    subst z
    have hne:¬ s=[]:=fun q=>by rw [q] at h; simp at h
    have e:=rej (by rw [hn]; simp [a1,a2,a3,hne])
    simp (disch:=first|omega|simp<;>omega|fail) [-zA,-zB,-zC,-zD,-zE,z1dk,zbk2,h,h',hc,e,a1,a2,a3,hne]
   have zi:(0:Int)<i:=by omega
   have zn:0<i:=by omega
   by_cases b46:c=46#8
   case pos =>
    have d46:(c == 46#8)=true:=by simp [b46]
    have e:=acc (by rw [hn]; simp [a1,a2,a3,z,zi,zn,b46])
    simp (disch:=first|omega|simp<;>omega|fail) [-zA,-zB,-zC,-zD,-zE,z1dk,zbk2,h,h',hc,a1,a2,a3,z,zi,zn,b46]
    exact ⟨i+1,z515 (by simp (disch:=first|omega|simp<;>omega|fail) [-zA,-zB,-zC,-zD,-zE,S610,zbk2]) (by simp (disch:=first|omega|simp<;>omega|fail) [-zA,-zB,-zC,-zD,-zE,S610,zbk2]),by omega,⟨by omega,e⟩⟩
   have d46:(c == 46#8)=false:=by simp [b46]
   by_cases b95:c=95#8
   case pos =>
    have d95:(c == 95#8)=true:=by simp [b95]
    have e:=acc (by rw [hn]; simp [a1,a2,a3,z,zi,zn,b46,d46,b95])
    simp (disch:=first|omega|simp<;>omega|fail) [-zA,-zB,-zC,-zD,-zE,z1dk,zbk2,h,h',hc,a1,a2,a3,z,zi,zn,b46,d46,b95]
    exact ⟨i+1,z515 (by simp (disch:=first|omega|simp<;>omega|fail) [-zA,-zB,-zC,-zD,-zE,S610,zbk2]) (by simp (disch:=first|omega|simp<;>omega|fail) [-zA,-zB,-zC,-zD,-zE,S610,zbk2]),by omega,⟨by omega,e⟩⟩
   have d95:(c == 95#8)=false:=by simp [b95]
   by_cases b45:c=45#8
   case pos =>
    have d45:(c == 45#8)=true:=by simp [b45]
    have e:=acc (by rw [hn]; simp [a1,a2,a3,z,zi,zn,b46,d46,b95,d95,b45])
    simp (disch:=first|omega|simp<;>omega|fail) [-zA,-zB,-zC,-zD,-zE,z1dk,zbk2,h,h',hc,a1,a2,a3,z,zi,zn,b46,d46,b95,d95,b45]
    exact ⟨i+1,z515 (by simp (disch:=first|omega|simp<;>omega|fail) [-zA,-zB,-zC,-zD,-zE,S610,zbk2]) (by simp (disch:=first|omega|simp<;>omega|fail) [-zA,-zB,-zC,-zD,-zE,S610,zbk2]),by omega,⟨by omega,e⟩⟩
   have d45:(c == 45#8)=false:=by simp [b45]
   have e:=rej (by rw [hn]; simp [a1,a2,a3,z,zi,zn,b46,d46,b95,d95,b45,d45])
   simp (disch:=first|omega|simp<;>omega|fail) [-zA,-zB,-zC,-zD,-zE,z1dk,zbk2,h,h',hc,e,a1,a2,a3,z,zi,zn,b46,d46,b95,d95,b45,d45]
  by_cases a4:c≤57#8
  case neg =>
   by_cases z:i=0
   case pos =>
    subst z
    have hne:¬ s=[]:=fun q=>by rw [q] at h; simp at h
    have e:=rej (by rw [hn]; simp [a1,a2,a3,a4,hne])
    simp (disch:=first|omega|simp<;>omega|fail) [-zA,-zB,-zC,-zD,-zE,z1dk,zbk2,h,h',hc,e,a1,a2,a3,a4,hne]
   have zi:(0:Int)<i:=by omega
   have zn:0<i:=by omega
   by_cases b46:c=46#8
   case pos =>
    have d46:(c == 46#8)=true:=by simp [b46]
    have e:=acc (by rw [hn]; simp [a1,a2,a3,a4,z,zi,zn,b46])
    simp (disch:=first|omega|simp<;>omega|fail) [-zA,-zB,-zC,-zD,-zE,z1dk,zbk2,h,h',hc,a1,a2,a3,a4,z,zi,zn,b46]
    exact ⟨i+1,z515 (by simp (disch:=first|omega|simp<;>omega|fail) [-zA,-zB,-zC,-zD,-zE,S610,zbk2]) (by simp (disch:=first|omega|simp<;>omega|fail) [-zA,-zB,-zC,-zD,-zE,S610,zbk2]),by omega,⟨by omega,e⟩⟩
   have d46:(c == 46#8)=false:=by simp [b46]
   by_cases b95:c=95#8
   case pos =>
    have d95:(c == 95#8)=true:=by simp [b95]
    have e:=acc (by rw [hn]; simp [a1,a2,a3,a4,z,zi,zn,b46,d46,b95])
    simp (disch:=first|omega|simp<;>omega|fail) [-zA,-zB,-zC,-zD,-zE,z1dk,zbk2,h,h',hc,a1,a2,a3,a4,z,zi,zn,b46,d46,b95]
    exact ⟨i+1,z515 (by simp (disch:=first|omega|simp<;>omega|fail) [-zA,-zB,-zC,-zD,-zE,S610,zbk2]) (by simp (disch:=first|omega|simp<;>omega|fail) [-zA,-zB,-zC,-zD,-zE,S610,zbk2]),by omega,⟨by omega,e⟩⟩
   have d95:(c == 95#8)=false:=by simp [b95]
   by_cases b45:c=45#8
   case pos =>
    have d45:(c == 45#8)=true:=by simp [b45]
    have e:=acc (by rw [hn]; simp [a1,a2,a3,a4,z,zi,zn,b46,d46,b95,d95,b45])
    simp (disch:=first|omega|simp<;>omega|fail) [-zA,-zB,-zC,-zD,-zE,z1dk,zbk2,h,h',hc,a1,a2,a3,a4,z,zi,zn,b46,d46,b95,d95,b45]
    exact ⟨i+1,z515 (by simp (disch:=first|omega|simp<;>omega|fail) [-zA,-zB,-zC,-zD,-zE,S610,zbk2]) (by simp (disch:=first|omega|simp<;>omega|fail) [-zA,-zB,-zC,-zD,-zE,S610,zbk2]),by omega,⟨by omega,e⟩⟩
   have d45:(c == 45#8)=false:=by simp [b45]
   have e:=rej (by rw [hn]; simp [a1,a2,a3,a4,z,zi,zn,b46,d46,b95,d95,b45,d45])
   simp (disch:=first|omega|simp<;>omega|fail) [-zA,-zB,-zC,-zD,-zE,z1dk,zbk2,h,h',hc,e,a1,a2,a3,a4,z,zi,zn,b46,d46,b95,d95,b45,d45]
  have e:=acc (by rw [hn]; simp [a1,a2,a3,a4])
  simp (disch:=first|omega|simp<;>omega|fail) [-zA,-zB,-zC,-zD,-zE,z1dk,zbk2,h,h',hc,a1,a2,a3,a4]
  exact ⟨i+1,z515 (by simp (disch:=first|omega|simp<;>omega|fail) [-zA,-zB,-zC,-zD,-zE,S610,zbk2]) (by simp (disch:=first|omega|simp<;>omega|fail) [-zA,-zB,-zC,-zD,-zE,S610,zbk2]),by omega,⟨by omega,e⟩⟩
 have e:=acc (by rw [hn]; simp [a1,a2])
 simp (disch:=first|omega|simp<;>omega|fail) [-zA,-zB,-zC,-zD,-zE,z1dk,zbk2,h,h',hc,a1,a2]
 exact ⟨i+1,z515 (by simp (disch:=first|omega|simp<;>omega|fail) [-zA,-zB,-zC,-zD,-zE,S610,zbk2]) (by simp (disch:=first|omega|simp<;>omega|fail) [-zA,-zB,-zC,-zD,-zE,S610,zbk2]),by omega,⟨by omega,e⟩⟩
def zc84:List Str:=[[],[109,97,116,99,104],[99,114,101,97,116,101],[109,111,100,105,102,121],[100,101,108,101,116,101],[97,108,108,111,119],[100,105,115,97,108,108,111,119],[114,101,113,117,105,114,101]]
def zk3j (k:Int):Str:=if 0≤k∧k<8 then zc84.getD k.toNat [] else []
theorem zcgp {k:Int}:zk3j k≠[]↔1≤k∧k≤7:=by
 unfold zk3j
 by_cases h:0≤k∧k<8
 ·rw [if_pos h]
  obtain ⟨n,rfl⟩:=Int.eq_ofNat_of_zero_le h.1
  have hn:n<8:=by omega
  simp only [Int.toNat_natCast]
  rcases n with _|_|_|_|_|_|_|_|n<;>first|omega|simp [zc84]
 ·rw [if_neg h]; simp; omega
theorem z4iz (k:Int):Runs tbl0 a60 [.int .i64 k] (.str (zk3j k)):=by
 refine ⟨?_⟩
 by_cases h0:k<0
 ·have hr:zk3j k=[]:=if_neg (by omega)
  simp (disch:=first|omega|simp<;>omega|fail) [-zA,-zB,-zC,-zD,-zE,a60,h0,hr]
 by_cases h8:8≤k
 ·have hr:zk3j k=[]:=if_neg (by omega)
  simp (disch:=first|omega|simp<;>omega|fail) [-zA,-zB,-zC,-zD,-zE,a60,h0,h8,hr]
 obtain ⟨n,rfl⟩:=Int.eq_ofNat_of_zero_le (Int.not_lt.1 h0)
 have hn:n<8:=by omega
 rcases n with _|_|_|_|_|_|_|_|n
 all_goals first|omega|skip
 all_goals simp (disch:=first|omega|simp<;>omega|fail) [-zA,-zB,-zC,-zD,-zE,a60,zk3j,zc84]
def cWd:List DV→Option DV
 | [.int .i64 k]=>some (.str (zk3j k))|_=>none
theorem zjhb {k:Int}:cWd [.int .i64 k]=some (.str (zk3j k)):=rfl
theorem zubl:(Con.pure cWd).Sound P 60:=by
 intro args v e
 unfold cWd at e
 split at e
 ·simp at e; subst e; exact zljw mix zr5o Tryz.func60 z6e9 (z4iz _)
 ·simp at e
def zdxf:Tbl:=addT 76 (.pure (cS za1j)) tbl0
theorem zz8j:zdxf 76 = .pure (cS za1j):=by simp [zdxf]
theorem zunx:zdxf.Sound P:=z0rp (zzn8 fun p=>zljw mix zhpa Tryz.func76 zqxf (z08u p)) zr5o
theorem zpkv (s:Str):Runs zdxf a63 [.str s] (dirB s):=by
 refine ⟨?_⟩
 by_cases h:s=[]
 ·subst h
  have hd:dirB [] = .bool true:=rfl
  simp (disch:=first|omega|simp<;>omega|fail) [-zA,-zB,-zC,-zD,-zE,a63,hd]
 ·have hd:dirB s = .bool (zj1f s):=by simp [dirB,dirD,h]
  simp (disch:=first|omega|simp<;>omega|fail) [-zA,-zB,-zC,-zD,-zE,a63,h,hd,zz8j,zk5k,za1j]
def zd6f (s:Str):DV := .bool (zt9v s)
noncomputable def z4sn:Tbl:=addT 60 (.pure cWd) (addT 61 (.pure (cS z01o)) (addT 62 (.pure (cS zd6f)) (addT 63 (.pure (cS dirB)) tbl0)))
theorem zlo5:z4sn 60 = .pure cWd:=by simp [z4sn]
theorem zor1:z4sn 61 = .pure (cS z01o):=by simp [z4sn]
theorem zq2j:z4sn 62 = .pure (cS zd6f):=by simp [z4sn]
theorem z95a:z4sn 63 = .pure (cS dirB):=by simp [z4sn]
theorem zzy1:z4sn.Sound P:=z0rp zubl (z0rp (zzn8 fun s=>zljw mix zeib Tryz.func61 zuuw (ztir s)) (z0rp (zzn8 fun s=>zljw mix zr5o Tryz.func62 z0i3 (zrln s)) (z0rp (zzn8 fun s=>zljw mix zunx Tryz.func63 z2tu (zpkv s)) zr5o)))
def z8mn (r:Rul):Bool :=
 (!decide (zk3j r.kind=[]))&&(zfn1 r.pat).isSome&&(if r.kind=1 then zt9v r.frm&&dirD r.inn&&dirD r.to else decide (r.frm=[])&&decide (r.inn=[])&&decide (r.to=[]) && !r.prod)
theorem z7ip (r:Rul):Runs z4sn a28 [.agg (ruC r)] (.bool (z8mn r)):=by
 refine ⟨?_⟩
 obtain ⟨k,p,f,pr,i,t⟩:=r
 by_cases h1:zk3j k=[]
 ·simp (disch:=first|omega|simp<;>omega|fail) [-zA,-zB,-zC,-zD,-zE,a28,zlo5,zjhb,h1,z8mn]
 cases h2:(zfn1 p).isSome with
 | false=>simp (disch:=first|omega|simp<;>omega|fail) [-zA,-zB,-zC,-zD,-zE,a28,zlo5,zjhb,h1,zor1,zk5k,z01o,h2,z8mn]
 | true =>
 by_cases h3:k=1
 ·subst h3
  cases h4:zt9v f with
  | false=>simp (disch:=first|omega|simp<;>omega|fail) [-zA,-zB,-zC,-zD,-zE,a28,zlo5,zjhb,h1,zor1,zk5k,z01o,h2,z8mn,zq2j,zd6f,h4]
  | true =>
  cases h5:dirD i with
  | false=>simp (disch:=first|omega|simp<;>omega|fail) [-zA,-zB,-zC,-zD,-zE,a28,zlo5,zjhb,h1,zor1,zk5k,z01o,h2,z8mn,zq2j,zd6f,h4,z95a,dirB,h5]
  | true =>
  cases h6:dirD t with
  | false=>simp (disch:=first|omega|simp<;>omega|fail) [-zA,-zB,-zC,-zD,-zE,a28,zlo5,zjhb,h1,zor1,zk5k,z01o,h2,z8mn,zq2j,zd6f,h4,z95a,dirB,h5,h6]
  | true=>simp (disch:=first|omega|simp<;>omega|fail) [-zA,-zB,-zC,-zD,-zE,a28,zlo5,zjhb,h1,zor1,zk5k,z01o,h2,z8mn,zq2j,zd6f,h4,z95a,dirB,h5,h6]
 by_cases h4:f=[]
 case neg=>simp (disch:=first|omega|simp<;>omega|fail) [-zA,-zB,-zC,-zD,-zE,a28,zlo5,zjhb,h1,zor1,zk5k,z01o,h2,z8mn,h3,h4]
 by_cases h5:i=[]
 case neg=>simp (disch:=first|omega|simp<;>omega|fail) [-zA,-zB,-zC,-zD,-zE,a28,zlo5,zjhb,h1,zor1,zk5k,z01o,h2,z8mn,h3,h4,h5]
 by_cases h6:t=[]
 case neg=>simp (disch:=first|omega|simp<;>omega|fail) [-zA,-zB,-zC,-zD,-zE,a28,zlo5,zjhb,h1,zor1,zk5k,z01o,h2,z8mn,h3,h4,h5,h6]
 cases pr with
 | false=>simp (disch:=first|omega|simp<;>omega|fail) [-zA,-zB,-zC,-zD,-zE,a28,zlo5,zjhb,h1,zor1,zk5k,z01o,h2,z8mn,h3,h4,h5,h6]
 | true=>simp (disch:=first|omega|simp<;>omega|fail) [-zA,-zB,-zC,-zD,-zE,a28,zlo5,zjhb,h1,zor1,zk5k,z01o,h2,z8mn,h3,h4,h5,h6]
noncomputable def cVr:List DV→Option DV:=con (fun _=>True) (fun r:Rul=>[.agg (ruC r)]) (fun r => .bool (z8mn r))
theorem zrgx {a b:Rul} (e:[DV.agg (ruC a)]=[.agg (ruC b)]):a=b:=by
 simp only [List.cons.injEq,DV.agg.injEq,and_true] at e; exact z49a e
theorem zu0t {r:Rul}:cVr [.agg (ruC r)]=some (.bool (z8mn r)):=zsn4 (f:=fun r:Rul=>[.agg (ruC r)]) (g:=fun r => .bool (z8mn r)) (fun _ _ e=>zrgx e) r
theorem zl71:(Con.pure cVr).Sound P 28:=z2au fun r _=>zljw mix zzy1 Tryz.func28 z43f (z7ip r)
noncomputable def znbj:Tbl:=addT 28 (.pure cVr) tbl0
theorem zmf2:znbj 28 = .pure cVr:=by simp [znbj]
theorem zs7d:znbj.Sound P:=z0rp zl71 zr5o
theorem zzb3 (r:Rul):Runs znbj a33 [.agg (ruC r)] (.bool (!z8mn r)):=by
 refine ⟨?_⟩
 simp (disch:=first|omega|simp<;>omega|fail) [-zA,-zB,-zC,-zD,-zE,a33,zmf2,zu0t]
noncomputable def cSt1:List DV→Option DV:=con (fun _=>True) (fun r:Rul=>[.agg (ruC r)]) (fun r => .bool (!z8mn r))
theorem zron {r:Rul}:cSt1 [.agg (ruC r)]=some (.bool (!z8mn r)):=zsn4 (f:=fun r:Rul=>[.agg (ruC r)]) (g:=fun r => .bool (!z8mn r)) (fun _ _ e=>zrgx e) r
theorem zi8g:(Con.pure cSt1).Sound P 33:=z2au fun r _=>zljw mix zs7d Tryz.func33 zojn (zzb3 r)
noncomputable def z9i4:Tbl:=addT 33 (.pure cSt1) tbl0
theorem zqe3:z9i4 33 = .pure cSt1:=by simp [z9i4]
theorem zmya:z9i4.Sound P:=z0rp zi8g zr5o
def zhhe:DV := .fn (.func 33) [] []
theorem zwr8:zyp8 zhhe=true:=rfl
def z0ip (x:Sl Rul) (i:Nat):St:=zbq4 (x.dv 6 ruC) zhhe (.int .i64 x.l.length) (.int .i64 i) []
theorem z3w5 (x:Sl Rul):Runs z9i4 a67 [x.dv 6 ruC,zhhe] (.int .i64 (fIx (fun r => !z8mn r) x.l)):=by
 refine ⟨?_⟩
 have hb:=x.b
 simp (disch:=first|omega|simp<;>omega|fail) [-zA,-zB,-zC,-zD,-zE,a67]
 refine zlm5 (z0ip x) (fun i=>x.l.length-i) (fun i=>i≤x.l.length ∧ ∀ j (h:j<x.l.length),j<i→(!z8mn x.l[j])=false) 0 (z515 (by simp (disch:=first|omega|simp<;>omega|fail) [-zA,-zB,-zC,-zD,-zE,z0ip,zbq4]) (by simp (disch:=first|omega|simp<;>omega|fail) [-zA,-zB,-zC,-zD,-zE,z0ip,zbq4])) ⟨by omega,fun j _ hj=>by omega⟩ (fun i hi => ?_)
 obtain ⟨q1,q2⟩:=hi
 simp only [z0ip]
 by_cases q:i<x.l.length
 ·have g':(i:Int)<x.l.length:=by omega
  have hy : ∀ H,zpsc H 6 (x.dv 6 ruC) i=some (.ref (ruC x.l[i])):=fun H=>zalo zpvo q
  have hinv:(!z8mn x.l[i])=false → ∀ j (h:j<x.l.length),j<i+1→(!z8mn x.l[j])=false:=fun e j hj hji=>by
   by_cases ej:j=i
   ·subst ej; exact e
   ·exact q2 j hj (by omega)
  have hr:(!z8mn x.l[i])=true→fIx (fun r => !z8mn r) x.l=i:=fun e=>z67l q e q2
  obtain ⟨u,hu⟩ : ∃ u,x.l[i]=u:=⟨_,rfl⟩
  rw [hu] at hy hinv hr
  have hc:=zron (r:=u)
  cases e:z8mn u with
  | false =>
   have hr:=hr (by rw [e]; rfl)
   rw [e] at hc
   simp (disch:=first|omega|simp<;>omega|fail) [-zA,-zB,-zC,-zD,-zE,zfle,zbq4,q,g',hy,zhhe,zqe3,hc,hr]
  | true =>
   have hinv:=hinv (by rw [e]; rfl)
   rw [e] at hc
   simp (disch:=first|omega|simp<;>omega|fail) [-zA,-zB,-zC,-zD,-zE,zfle,zbq4,q,g',hy,zhhe,zqe3,hc]
   exact ⟨i+1,z515 (by simp (disch:=first|omega|simp<;>omega|fail) [-zA,-zB,-zC,-zD,-zE,z0ip,zbq4,zhhe]) (by simp (disch:=first|omega|simp<;>omega|fail) [-zA,-zB,-zC,-zD,-zE,z0ip,zbq4]),by omega,by omega,fun j h hj=>by simpa using hinv j h hj⟩
 ·have g':¬ (i:Int)<x.l.length:=by omega
  have hr:fIx (fun r => !z8mn r) x.l = -1:=zf0r fun a ha=>by
   obtain ⟨j,hj,e⟩:=List.getElem_of_mem ha
   have:=q2 j hj (by omega)
   rw [e] at this; exact this
  simp (disch:=first|omega|simp<;>omega|fail) [-zA,-zB,-zC,-zD,-zE,zfle,zbq4,q,g',hr]
noncomputable def cRix:List DV→Option DV:=con (fun _=>True) (fun x:Sl Rul=>[x.dv 6 ruC,zhhe]) (fun x => .int .i64 (fIx (fun r => !z8mn r) x.l))
theorem zsaa {x:Sl Rul}:cRix [x.dv 6 ruC,zhhe]=some (.int .i64 (fIx (fun r => !z8mn r) x.l)) :=
 zsn4 (f:=fun x:Sl Rul=>[x.dv 6 ruC,zhhe]) (g:=fun x => .int .i64 (fIx (fun r => !z8mn r) x.l)) (fun a b e=>by
  simp only [List.cons.injEq,and_true] at e; exact z041 e) x
noncomputable def z4gw:Tbl:=addT 67 (.pure cRix) tbl0
theorem z6d2:z4gw 67 = .pure cRix:=by simp [z4gw]
theorem zcm4:z4gw.Sound P:=z0rp (z2au fun x _=>zljw mix zmya Tryz.func67 zy8u (z3w5 x)) zr5o
theorem zs42 {α:Type} {p:α→Bool} {l:List α}:(0≤fIx p l)↔l.any p=true:=by
 rcases za4c p l with ⟨h1,h2⟩|⟨i,hi,h1,h2,_⟩
 ·rw [h1]
  refine ⟨fun q=>by omega,fun q => ?_⟩
  obtain ⟨a,ha,e⟩:=List.any_eq_true.1 q
  rw [h2 a ha] at e; cases e
 ·rw [h1]
  exact ⟨fun _=>List.any_eq_true.2 ⟨_,List.getElem_mem hi,h2⟩,fun _=>by omega⟩
theorem z2j9 (x:Sl Rul):Runs z4gw a32 [x.dv 6 ruC,zhhe] (.bool (x.l.any fun r => !z8mn r)):=by
 refine ⟨?_⟩
 have h:=zs42 (p:=fun r => !z8mn r) (l:=x.l)
 have hd:decide (0≤fIx (fun r => !z8mn r) x.l)=x.l.any fun r => !z8mn r:=by
  cases e:x.l.any fun r => !z8mn r with
  | true=>exact decide_eq_true (h.2 e)
  | false=>exact decide_eq_false fun q=>by rw [h.1 q] at e; cases e
 have hc:=zsaa (x:=x)
 have hz : ∀ K h,mk1 K h zhhe=zhhe:=fun K h=>zvft rfl
 simp (disch:=first|omega|simp<;>omega|fail) [-zA,-zB,-zC,-zD,-zE,a32,z6d2,hc,zwr8,hd]
noncomputable def cRcn:List DV→Option DV:=con (fun _=>True) (fun x:Sl Rul=>[x.dv 6 ruC,zhhe]) (fun x => .bool (x.l.any fun r => !z8mn r))
theorem zitv {x:Sl Rul}:cRcn [x.dv 6 ruC,zhhe]=some (.bool (x.l.any fun r => !z8mn r)) :=
 zsn4 (f:=fun x:Sl Rul=>[x.dv 6 ruC,zhhe]) (g:=fun x => .bool (x.l.any fun r => !z8mn r)) (fun a b e=>by
  simp only [List.cons.injEq,and_true] at e; exact z041 e) x
noncomputable def zpjz:Tbl:=addT 32 (.pure cRcn) tbl0
theorem zn6b:zpjz 32 = .pure cRcn:=by simp [zpjz]
theorem zwkl:zpjz.Sound P:=z0rp (z2au fun x _=>zljw mix zcm4 Tryz.func32 zvrg (z2j9 x)) zr5o
def ze5r:Str:=[42,42]
def zaba (l:List Rul):Bool:=match l.getLast? with
 | none=>false
 | some r=>l.all z8mn&&decide (r.kind=6)&&decide (r.pat=ze5r)
theorem zse4 (x:Sl Rul):Runs zpjz a12 [x.dv 6 ruC] (.bool (zaba x.l)):=by
 refine ⟨?_⟩
 have hb:=x.b
 have hl : ∀ H,lenD H (x.dv 6 ruC)=some (.int .i64 x.l.length):=fun H=>zupj
 have hc:=zitv (x:=x)
 simp only [zhhe] at hc
 by_cases h0:x.l=[]
 ·have hr:zaba x.l=false:=by rw [h0]; rfl
  rw [h0] at hl
  simp (disch:=first|omega|simp<;>omega|fail) [-zA,-zB,-zC,-zD,-zE,a12,hl,hr]
 have hn:x.l.length≠0:=fun q=>h0 (List.eq_nil_of_length_eq_zero q)
 have hn0:¬ (x.l.length:Int)=0:=by omega
 have hla:x.l.getLast? = some (x.l[x.l.length-1]'(by omega)):=by rw [List.getLast?_eq_getElem?,List.getElem?_eq_getElem (by omega)]
 have hy : ∀ H,zpsc H 6 (x.dv 6 ruC) ((x.l.length:Int)-1)=some (.ref (ruC (x.l[x.l.length-1]'(by omega)))):=fun H=>by
  have:=zalo (h:=H) (x:=x) (i:=x.l.length-1) zpvo (by omega)
  rwa [show ((x.l.length-1:Nat):Int)=(x.l.length:Int)-1 by omega] at this
 have hall:(x.l.any fun r => !z8mn r) = !x.l.all z8mn:=by
  rw [← List.not_all_eq_any_not]
 cases ha:x.l.all z8mn with
 | false =>
  have hr:zaba x.l=false:=by unfold zaba; rw [hla]; simp only [ha,Bool.false_and]
  rw [hall,ha] at hc
  simp (disch:=first|omega|simp<;>omega|fail) [-zA,-zB,-zC,-zD,-zE,a12,hl,hr,hn0,hn,h0,zn6b,hc]
 | true =>
  obtain ⟨u,hu⟩ : ∃ u,(x.l[x.l.length-1]'(by omega))=u:=⟨_,rfl⟩
  rw [hu] at hla hy
  have hr:zaba x.l=(decide (u.kind=6)&&decide (u.pat=ze5r)):=by unfold zaba; rw [hla]; simp only [ha,Bool.true_and]
  rw [hall,ha] at hc
  obtain ⟨N,hN⟩ : ∃ N,x.l.length=N:=⟨_,rfl⟩
  rw [hN] at hl hn0 hn hy hb
  rw [hr]
  by_cases h6:u.kind=6
  ·simp (disch:=first|omega|simp<;>omega|fail) [-zA,-zB,-zC,-zD,-zE,a12,hl,hn0,hn,h0,zn6b,hc,hy,h6,ze5r]
   try (congr)
  ·simp (disch:=first|omega|simp<;>omega|fail) [-zA,-zB,-zC,-zD,-zE,a12,hl,hn0,hn,h0,zn6b,hc,hy,h6,ze5r]
noncomputable def cStr:List DV→Option DV:=con (fun _=>True) (fun x:Sl Rul=>[x.dv 6 ruC]) (fun x => .bool (zaba x.l))
theorem zg71 {x:Sl Rul}:cStr [x.dv 6 ruC]=some (.bool (zaba x.l)) :=
 zsn4 (f:=fun x:Sl Rul=>[x.dv 6 ruC]) (g:=fun x => .bool (zaba x.l)) (fun a b e=>by
  simp only [List.cons.injEq,and_true] at e; exact z041 e) x
theorem zabo:(Con.pure cStr).Sound P 12:=z2au fun x _=>zljw mix zwkl Tryz.func12 zqkh (zse4 x)
end Go.Proofs.YtjknipdiglpnlaaGreatDoor
set_option linter.unusedSimpArgs false
set_option linter.unusedVariables false
namespace Go.Proofs.YtjknipdiglpnlaaGreatDoor
open Go Go.Am
def iV:DV→Option Int
 | .int .i64 n=>some n
 | _=>none
def mm2 (m:Bool) (x y:DV):Option DV:=(iV x).bind fun a=>(iV y).bind fun b=>some (.int .i64 (if m then max a b else min a b))
theorem zy6n {a b:Int}:mm2 false (.int .i64 a) (.int .i64 b)=some (.int .i64 (min a b)):=rfl
theorem zluv {T:Tbl} {dr m:Bool} {x y:Opd} {t:List DV} {h:List AObj}:zn3j T dr (.mm m [x,y]) t h=pr (mm2 m (ev t x) (ev t y)) h:=by
 simp only [zn3j,evOp]
 refine (congrArg (fun q=>Option.bind q _) (zd7r (g:=fun z=>iV (ev t z)) fun z _ => ?_)).trans ?_
 ·generalize ev t z=d
  cases d with
  | int k n=>cases k<;>rfl
  | _=>rfl
 ·simp only [zp5p,mm2]
  cases iV (ev t x)<;>cases iV (ev t y)<;>rfl
def cnD (s:List UInt8) (c:B8):DV := .int .i64 (Lib.countByte s c.toNat.toUInt8)
def cn1 (s:List UInt8) (c:UInt8):DV := .int .i64 (Lib.countByte s c)
def T70:Tbl:=addT 104 (.pure (cSB cnD)) tbl0
theorem zsdt:T70 104 = .pure (cSB cnD):=by simp [T70]
theorem zc9y:T70.Sound P:=z0rp (zboo fun s c=>zxuw Tryz.func104 (by kernel_rfl) (by kernel_rfl) (by kernel_rfl) (by kernel_rfl) s c) zr5o
theorem z1yh (s:List UInt8) (c:UInt8):Runs T70 a98 [.str s,.str [c]] (cn1 s c):=by
 refine ⟨?_⟩
 simp (disch:=first|omega|simp<;>omega|fail) [-zA,-zB,-zC,-zD,-zE,a98,zsdt,zvdo,cnD,cn1,zq22]
def T71:Tbl:=addT 98 (.pure (cS1 cn1)) (addT 99 (.pure (cS1 ix1)) tbl0)
theorem zovh:T71 98 = .pure (cS1 cn1):=by simp [T71]
theorem z7wv:T71 99 = .pure (cS1 ix1):=by simp [T71]
theorem zfkh:T71.Sound P:=z0rp (zpzi fun s c=>zljw mix zc9y Tryz.func98 zg8b (z1yh s c)) (z0rp (zpzi fun s c=>zljw mix zyuf Tryz.func99 zcou (zazq s c)) zr5o)
def strs (l:List (List UInt8)):List DV:=l.map DV.str
def zabr (s:List UInt8):DV := .sl false 1 (z2fg s).length (strs (z2fg s))
def z0du (l:List (List UInt8)) (i:Nat):List (List UInt8):=l.take i++List.replicate (l.length-i) []
theorem za0c {l:List (List UInt8)} {i:Nat} (h:i≤l.length):(z0du l i).length=l.length:=by simp [z0du]; omega
theorem zaz4 {l:List (List UInt8)} {i:Nat} (h:i<l.length):(z0du l i).set i l[i]=z0du l (i+1):=by
 unfold z0du
 have hl:(l.take i).length=i:=List.length_take_of_le (by omega)
 rw [List.set_append_right _ _ (by omega),hl,Nat.sub_self,zmqh h]
 obtain ⟨m,hm⟩ : ∃ m,l.length-i=m+1:=⟨l.length-i-1,by omega⟩
 rw [hm,show l.length-(i+1)=m by omega,List.replicate_succ,List.set_cons_zero,List.append_assoc]
 rfl
theorem z13y (l:List (List UInt8)):z0du l l.length=l:=by simp [z0du]
theorem zmfi (l:List (List UInt8)):rep l.length (DV.str [])=strs (z0du l 0):=by simp [rep,z0du,strs]
theorem zw6r {l:List (List UInt8)} {i:Nat} {x:List UInt8}:(strs l).set i (.str x)=strs (l.set i x):=by simp [strs,List.map_set]
theorem zy2g (l:List (List UInt8)):(strs l).length=l.length:=by simp [strs]
theorem zgvs : ∀ (l:List (List UInt8)),zbao (strs l)=true
 | []=>rfl
 | x::l=>by
  have:=zgvs l
  simp only [strs,List.map_cons] at this ⊢
  simp [zbao,zyp8,this]
theorem zpp8 (h:List AObj) (k:Nat) (l:List (List UInt8)):z4tt h k (strs l)=some (strs l):=z619 (zgvs l)
structure X94 where
 i:Nat
 r:List UInt8
def S94 (s:List UInt8) (x:X94):St:=z1yv (.str x.r) (.str [47]) (.int .i64 0) (.int .i64 ((z2fg s).length-1:Int)) (.ms 0 (z2fg s).length 0 1 (z2fg s).length (z2fg s).length) (.int .i64 x.i) [.cells (strs (z0du (z2fg s) x.i))]
def R94 (s:List UInt8) (x:X94):Prop:=x.r.length≤s.length∧x.i<(z2fg s).length∧(z2fg s).drop x.i=z2fg x.r
theorem zjnq (s:List UInt8) (c:UInt8):Lib.countByte s c≤s.length:=List.count_le_length
theorem z00p (s:List UInt8) (hs:s.length≤100000):Runs T71 a93 [.str s,.str [47],.int .i64 0,.int .i64 (-1)] (zabr s):=by
 refine ⟨?_⟩
 have hlc:=z9lv s
 have hcl:=zjnq s 47
 obtain ⟨n,hn⟩ : ∃ n,(z2fg s).length=n:=⟨_,rfl⟩
 have hmin:min ((Lib.countByte s 47:Int)+1) ((s.length:Int)+1)=n:=by omega
 have hn1:(Lib.countByte s 47:Int)+1=n:=by omega
 have hn2:min (n:Int) ((s.length:Int)+1)=n:=by omega
 simp (disch:=first|omega|simp<;>omega|fail) [-zA,-zB,-zC,-zD,-zE,zluv,zy6n,a93,zovh,z8u6,cn1,hn1,hn2]
 have hr0:=zmfi (z2fg s)
 rw [hn] at hr0
 refine zlm5 (S94 s) (fun x=>x.r.length) (R94 s) ⟨0,s⟩ (z515 (by simp (disch:=first|omega|simp<;>omega|fail) [-zA,-zB,-zC,-zD,-zE,hn]) (by simp (disch:=first|omega|simp<;>omega|fail) [-zA,-zB,-zC,-zD,-zE,hr0])) ⟨Nat.le_refl _,by show 0<(z2fg s).length; omega,rfl⟩ (fun x hx => ?_)
 obtain ⟨i,r⟩:=x
 have hx':=hx
 obtain ⟨hrl,hi,hd⟩:=hx'
 simp only at hrl hi hd
 have hle:=za0c (l:=z2fg s) (i:=i) (by omega)
 have hls:=zy2g (z0du (z2fg s) i)
 simp (disch:=first|omega|simp<;>omega|fail) [-zA,-zB,-zC,-zD,-zE,zzcy,z1yv,S94,hn]
 by_cases h:i+1<n
 ·have h1:(i:Int)<(n:Int)-1:=by omega
  have hin:i<n:=by omega
  have hlr:(z2fg r).length=n-i:=by rw [← hd,List.length_drop,hn]
  by_cases hix:Lib.indexByte r 47 = -1
  ·rw [zbf3 hix] at hlr
   simp at hlr; omega
  ·obtain ⟨o,ho⟩ : ∃ o:Nat,Lib.indexByte r 47=o:=⟨(Lib.indexByte r 47).toNat,by have:=Lib.indexByte_ge r 47; omega⟩
   have hlt:=z8bu ho
   have hneg:¬ (o:Int)<0:=by omega
   have hol:(o:Int)≤r.length:=by omega
   have hol1:o≤r.length:=by omega
   have hol2:o+1≤r.length:=by omega
   have hol3:(o:Int)+1≤r.length:=by omega
   have e1:((o:Int)+1).toNat=o+1:=by omega
   have ht:(r.drop (o+1)).take (r.length-(o+1))=r.drop (o+1):=List.take_of_length_le (by simp)
   have hcs:=zjoj ho
   have hget:(z2fg s)[i]'(by omega)=r.take o:=by
    have:(z2fg s)[i]? = some (r.take o):=by
     have:=congrArg (·[0]?) hd
     simp only [List.getElem?_drop,Nat.add_zero,hcs] at this
     simpa using this
    exact (List.getElem?_eq_some_iff.1 this).2
   have hset:(strs (z0du (z2fg s) i)).set i (.str (r.take o))=strs (z0du (z2fg s) (i+1)):=by
    rw [zw6r,← hget,zaz4 (by omega)]
   have hd2:(z2fg s).drop (i+1)=z2fg (r.drop (o+1)):=by
    rw [← List.drop_drop,hd,hcs]; rfl
   simp (disch:=first|omega|simp<;>omega|fail) [-zA,-zB,-zC,-zD,-zE,h1,hin,z7wv,z8u6,ix1,ho,hneg,hol,hol1,hol2,hol3,e1,ht,hls,hle,hn]
   exact ⟨⟨i+1,r.drop (o+1)⟩,z515 (by simp (disch:=first|omega|simp<;>omega|fail) [-zA,-zB,-zC,-zD,-zE,hn]) (by simp (disch:=first|omega|simp<;>omega|fail) [-zA,-zB,-zC,-zD,-zE,hset]),by simp; omega,by simp only [List.length_drop]; omega,by show i+1<(z2fg s).length; omega,hd2⟩
 ·have h1:¬ (i:Int)<(n:Int)-1:=by omega
  have hin:i<n:=by omega
  have hi1:i+1=n:=by omega
  have hi2:(i:Int)+1=n:=by omega
  have hlr:(z2fg r).length=1:=by rw [← hd,List.length_drop]; omega
  have hcr:z2fg r=[r]:=by
   by_cases hix:Lib.indexByte r 47 = -1
   ·exact zbf3 hix
   ·obtain ⟨o,ho⟩ : ∃ o:Nat,Lib.indexByte r 47=o:=⟨(Lib.indexByte r 47).toNat,by have:=Lib.indexByte_ge r 47; omega⟩
    rw [zjoj ho] at hlr
    have:=zf0z (r.drop (o+1))
    simp at hlr
    exact absurd hlr this
  have hget:(z2fg s)[i]'(by omega)=r:=by
   have:(z2fg s)[i]? = some r:=by
    have:=congrArg (·[0]?) hd
    simp only [List.getElem?_drop,Nat.add_zero,hcr] at this
    simpa using this
   exact (List.getElem?_eq_some_iff.1 this).2
  have hset:(strs (z0du (z2fg s) i)).set i (.str r)=strs (z2fg s):=by
   rw [zw6r]
   conv=>lhs; rw [← hget]
   rw [zaz4 (by omega),show i+1=(z2fg s).length by omega,z13y]
  have hlc2:=zy2g (z2fg s)
  have htk:(strs (z2fg s)).take n=strs (z2fg s):=List.take_of_length_le (by omega)
  simp (disch:=first|omega|simp<;>omega|fail) [-zA,-zB,-zC,-zD,-zE,h1,hin,hi2,hls,hle,hn,hset,zabr,hlc2,htk,zpp8]
def cGS:List DV→Option DV
 | [.str s,.str [47],.int .i64 0,.int .i64 (-1)]=>if s.length≤100000 then some (zabr s) else none|_=>none
theorem z0qy {s:List UInt8} (h:s.length≤100000):cGS [.str s,.str [47],.int .i64 0,.int .i64 (-1)]=some (zabr s):=if_pos h
def T72:Tbl:=addT 93 (.pure cGS) tbl0
theorem ze0j:T72 93 = .pure cGS:=by simp [T72]
theorem zegh:T72.Sound P:=by
 refine z0rp (fun args v e => ?_) zr5o
 unfold cGS at e
 split at e
 ·split at e
  ·rename_i hl; simp at e; subst e; exact zljw mix zfkh Tryz.func93 zv7d (z00p _ hl)
  ·simp at e
 ·simp at e
theorem z3aj (s:List UInt8) (hs:s.length≤100000):Runs T72 a86 [.str s,.str [47]] (zabr s):=by
 refine ⟨?_⟩
 simp (disch:=first|omega|simp<;>omega|fail) [-zA,-zB,-zC,-zD,-zE,a86,ze0j,z0qy,hs,zabr,zpp8]
def cSpl:List DV→Option DV
 | [.str s,.str [47]]=>if s.length≤100000 then some (zabr s) else none|_=>none
theorem ziwh {s:List UInt8} (h:s.length≤100000):cSpl [.str s,.str [47]]=some (zabr s):=if_pos h
def T73:Tbl:=addT 86 (.pure cSpl) tbl0
theorem zjkf:T73 86 = .pure cSpl:=by simp [T73]
theorem zfxp:T73.Sound P:=by
 refine z0rp (fun args v e => ?_) zr5o
 unfold cSpl at e
 split at e
 ·split at e
  ·rename_i hl; simp at e; subst e; exact zljw mix zegh Tryz.func86 z2i3 (z3aj _ hl)
  ·simp at e
 ·simp at e
def S17a (s:List UInt8) (i:Nat):St:=za58 (.str s) (.int .i64 i) []
def S17b (s:List UInt8) (i:Nat):St:=z4io (zabr s) (.int .i64 i) []
def R17a (s:List UInt8) (i:Nat):Prop:=i≤s.length∧noZ (s.take i)=true
def R17b (s:List UInt8) (i:Nat):Prop:=i≤(z2fg s).length∧((z2fg s).take i).all okC=true
theorem zkka {l:List (List UInt8)} {i:Nat} (h:i<l.length):oneC 1 false (((strs l).drop i).take 1)=some (.str l[i]):=zai5 h (by decide)
theorem z8tt {s:List UInt8} {i:Nat} (h:i<s.length):noZ (s.take (i+1))=(noZ (s.take i)&&s[i] != 0):=by
 rw [zmqh h,z2u1]; simp [noZ]
theorem z80k (s:List UInt8):Runs T73 a71 [.str s] (za1j s):=by
 refine ⟨?_⟩
 by_cases h1:s=[]
 ·subst h1
  simp (disch:=first|omega|simp<;>omega|fail) [-zA,-zB,-zC,-zD,-zE,a71,za1j,show zj1f []=false from rfl]
 by_cases h2:200<s.length
 ·have h2':(200:Int)<s.length:=by omega
  have hp:zj1f s=false:=by simp [zj1f]; omega
  simp (disch:=first|omega|simp<;>omega|fail) [-zA,-zB,-zC,-zD,-zE,a71,h1,h2',za1j,hp]
 have h2':¬ (200:Int)<s.length:=by omega
 have h3:1≤s.length:=by have:=List.length_pos_iff.2 h1; omega
 simp (disch:=first|omega|simp<;>omega|fail) [-zA,-zB,-zC,-zD,-zE,a71,h1,h2']
 refine zlm5 (S17a s) (fun i=>s.length-i) (R17a s) 0 (z515 (by simp (disch:=first|omega|simp<;>omega|fail) [-zA,-zB,-zC,-zD,-zE]) (by simp (disch:=first|omega|simp<;>omega|fail) [-zA,-zB,-zC,-zD,-zE])) ⟨by omega,rfl⟩ (fun i hi => ?_)
 obtain ⟨hi1,hi2⟩:=hi
 simp (disch:=first|omega|simp<;>omega|fail) [-zA,-zB,-zC,-zD,-zE,zrz9,za58,S17a]
 by_cases h:i<s.length
 ·have h4:(i:Int)<s.length:=by omega
  by_cases hz:s[i]=0
  ·have b1:s[i].toBitVec=0#8:=zw4m.2 hz
   have hnz:noZ s=false:=by
    rw [noZ,List.all_eq_false]
    exact ⟨s[i],List.getElem_mem h,by simp [hz]⟩
   have hp:zj1f s=false:=by simp [zj1f,hnz]
   simp (disch:=first|omega|simp<;>omega|fail) [-zA,-zB,-zC,-zD,-zE,h,h4,b1,za1j,hp]
  ·have b1:¬ s[i].toBitVec=0#8:=fun e=>hz (zw4m.1 e)
   have b1q:(s[i].toBitVec == 0#8)=false:=by simp [b1]
   simp (disch:=first|omega|simp<;>omega|fail) [-zA,-zB,-zC,-zD,-zE,h,h4,b1,b1q]
   exact ⟨i+1,z515 (by simp (disch:=first|omega|simp<;>omega|fail) [-zA,-zB,-zC,-zD,-zE]) (by simp (disch:=first|omega|simp<;>omega|fail) [-zA,-zB,-zC,-zD,-zE]),by omega,by omega,by rw [z8tt h,hi2]; simp [hz]⟩
 ·have h4:¬ (i:Int)<s.length:=by omega
  obtain rfl:i=s.length:=by omega
  rw [List.take_length] at hi2
  have hp:zj1f s=(z2fg s).all okC:=by
   simp only [zj1f,h3,show s.length≤200 by omega,hi2,decide_true,Bool.true_and]
  have hsp:=ziwh (s:=s) (by omega)
  have hcl:(z2fg s).length≤1000:=by have:=z9lv s; have:=zjnq s 47; omega
  simp (disch:=first|omega|simp<;>omega|fail) [-zA,-zB,-zC,-zD,-zE,h4,zjkf,hsp]
  refine zlm5 (S17b s) (fun i=>(z2fg s).length-i) (R17b s) 0 (z515 (by simp (disch:=first|omega|simp<;>omega|fail) [-zA,-zB,-zC,-zD,-zE,zabr]) (by simp (disch:=first|omega|simp<;>omega|fail) [-zA,-zB,-zC,-zD,-zE])) ⟨by omega,rfl⟩ (fun i hi => ?_)
  obtain ⟨hj1,hj2⟩:=hi
  simp (disch:=first|omega|simp<;>omega|fail) [-zA,-zB,-zC,-zD,-zE,z3h5,z4io,S17b,zabr]
  by_cases h5:i<(z2fg s).length
  ·have h6:(i:Int)<(z2fg s).length:=by omega
   have hg:=zkka h5
   obtain ⟨y,hy⟩ : ∃ y,(z2fg s)[i]=y:=⟨_,rfl⟩
   rw [hy] at hg
   have bad:okC y=false→zj1f s=false:=fun e=>by
    rw [hp,List.all_eq_false]
    exact ⟨(z2fg s)[i],List.getElem_mem h5,by rw [hy,e]; simp⟩
   by_cases e1:y=[]
   ·subst e1
    simp (disch:=first|omega|simp<;>omega|fail) [-zA,-zB,-zC,-zD,-zE,h5,h6,hg,za1j,bad rfl]
   ·by_cases e2:y=[46]
    ·subst e2
     simp (disch:=first|omega|simp<;>omega|fail) [-zA,-zB,-zC,-zD,-zE,h5,h6,hg,za1j,bad rfl]
    ·by_cases e3:y=[46,46]
     ·subst e3
      simp (disch:=first|omega|simp<;>omega|fail) [-zA,-zB,-zC,-zD,-zE,h5,h6,hg,za1j,bad rfl]
     ·simp (disch:=first|omega|simp<;>omega|fail) [-zA,-zB,-zC,-zD,-zE,h5,h6,hg,e1,e2,e3]
      refine ⟨i+1,z515 (by simp (disch:=first|omega|simp<;>omega|fail) [-zA,-zB,-zC,-zD,-zE,zabr]) (by simp (disch:=first|omega|simp<;>omega|fail) [-zA,-zB,-zC,-zD,-zE]),by omega,by omega,?_⟩
      rw [zmqh h5,List.all_append,hj2,hy]
      simp [okC,e1,e2,e3]
  ·have h6:¬ (i:Int)<(z2fg s).length:=by omega
   have:(z2fg s).take i=z2fg s:=List.take_of_length_le (by omega)
   rw [this] at hj2
   have hq:zj1f s=true:=by rw [hp,hj2]
   simp (disch:=first|omega|simp<;>omega|fail) [-zA,-zB,-zC,-zD,-zE,h5,h6,za1j,hq]
end Go.Proofs.YtjknipdiglpnlaaGreatDoor
