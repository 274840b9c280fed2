/-
  14 texts of mine in one.
-/
import Derived.Test.YtjknipdiglpnlaaDoorCdd2c7f00
import Derived.Test.YtjknipdiglpnlaaDoorC9c7f701f
import Derived.Test.YtjknipdiglpnlaaDoorCf33b8964
import Derived.Test.YtjknipdiglpnlaaDoorC609eefa5
set_option maxRecDepth 20000
set_option maxHeartbeats 4000000
open List renaming map_take → zA, map_drop → zB, map_set → zC, map_append → zD, drop_one → zE
set_option linter.unusedSimpArgs false
set_option linter.unusedVariables false
namespace Go.Proofs.YtjknipdiglpnlaaDoor
open Go Go.Am
def a164:AFn where
 code:=(.seq (.region false [⟨none,(some 4),.mov (.k (.int .i64 0))⟩])
 (.seq (.region false [⟨none,(some 5),.mov (.t 0)⟩,
  ⟨none,(some 6),.mov (.t 1)⟩,
  ⟨none,(some 7),.call (.k (.fn (.func 183) [] [])) [(.t 5),(.t 6)]⟩,
  ⟨none,(some 4),.mov (.t 7)⟩])
 .ret))
 ntmps:=8
 res:=[.tmp 4]
theorem zab2:zsjc P Tryd.f164=some a164:=by kernel_rfl
def a138:AFn where
 code:=(.seq (.region false [⟨none,(some 4),.mov (.k (.int .i64 0))⟩])
 (.seq (.region false [⟨none,(some 5),.mov (.t 0)⟩,
  ⟨none,(some 6),.mov (.t 1)⟩,
  ⟨none,(some 7),.call (.k (.fn (.func 164) [] [])) [(.t 5),(.t 6)]⟩,
  ⟨none,(some 4),.mov (.t 7)⟩])
 .ret))
 ntmps:=8
 res:=[.tmp 4]
theorem zno0:zsjc P Tryd.f138=some a138:=by kernel_rfl
def zdo7:ACode :=
 (.seq (.seq (.region false [⟨none,(some 57),.mov (.t 8)⟩,
  ⟨none,(some 58),.mov (.t 9)⟩,
  ⟨none,(some 59),.bin .lss (.t 57) (.t 58)⟩])
 (.cond (.t 59) .skip
 (.exit 1)))
 (.block 2 (.seq (.seq (.region false [⟨none,(some 60),.mov (.t 0)⟩,
  ⟨none,(some 61),.mov (.t 8)⟩,
  ⟨none,(some 62),.idxStr (.t 60) (.t 61)⟩,
  ⟨none,(some 63),.mov (.t 6)⟩,
  ⟨none,(some 64),.bin .neq (.t 62) (.t 63)⟩])
 (.cond (.t 64) (.seq (.region false [⟨none,(some 65),.mov (.t 0)⟩,
  ⟨none,(some 66),.mov (.t 8)⟩,
  ⟨none,(some 67),.bin .add (.t 66) (.k (.int .i64 1))⟩,
  ⟨none,(some 68),.mov (.t 9)⟩,
  ⟨none,(some 69),.slcStr (.t 65) (some (.t 67)) (some (.t 68))⟩,
  ⟨none,(some 70),.mov (.t 6)⟩,
  ⟨none,(some 71),.call (.k (.fn (.func 164) [] [])) [(.t 69),(.t 70)]⟩,
  ⟨none,(some 11),.mov (.t 71)⟩])
 (.seq (.seq (.region false [⟨none,(some 72),.mov (.t 11)⟩,
  ⟨none,(some 73),.bin .lss (.t 72) (.k (.int .i64 0))⟩])
 (.cond (.t 73) (.seq (.region false [⟨none,(some 4),.mov (.k (.int .i64 (-1)))⟩])
 .ret)
 .skip))
 (.region false [⟨none,(some 74),.mov (.t 8)⟩,
  ⟨none,(some 75),.mov (.t 11)⟩,
  ⟨none,(some 76),.bin .add (.t 75) (.k (.int .i64 1))⟩,
  ⟨none,(some 77),.bin .add (.t 74) (.t 76)⟩,
  ⟨none,(some 8),.mov (.t 77)⟩])))
 .skip))
 (.seq (.seq (.region false [⟨none,(some 78),.mov (.t 0)⟩,
  ⟨none,(some 79),.mov (.t 8)⟩,
  ⟨none,(some 80),.bin .add (.t 79) (.k (.int .i64 1))⟩,
  ⟨none,(some 81),.idxStr (.t 78) (.t 80)⟩,
  ⟨none,(some 82),.mov (.t 7)⟩,
  ⟨none,(some 83),.bin .eql (.t 81) (.t 82)⟩,
  ⟨none,(some 84),.mov (.t 83)⟩,
  ⟨(some (84,true)),(some 85),.mov (.t 0)⟩,
  ⟨(some (84,true)),(some 86),.mov (.t 8)⟩,
  ⟨(some (84,true)),(some 87),.mov (.t 8)⟩,
  ⟨(some (84,true)),(some 88),.mov (.t 5)⟩,
  ⟨(some (84,true)),(some 89),.bin .add (.t 87) (.t 88)⟩,
  ⟨(some (84,true)),(some 90),.slcStr (.t 85) (some (.t 86)) (some (.t 89))⟩,
  ⟨(some (84,true)),(some 91),.mov (.t 1)⟩,
  ⟨(some (84,true)),(some 92),.bin .eql (.t 90) (.t 91)⟩,
  ⟨none,(some 93),.pick (.t 84) (.t 92) (.k (.bool false))⟩])
 (.cond (.t 93) (.seq (.region false [⟨none,(some 94),.mov (.t 8)⟩,
  ⟨none,(some 4),.mov (.t 94)⟩])
 .ret)
 .skip))
 (.seq (.region false [⟨none,(some 95),.mov (.t 8)⟩,
  ⟨none,(some 96),.bin .add (.t 95) (.k (.int .i64 1))⟩,
  ⟨none,(some 8),.mov (.t 96)⟩])
 (.seq (.region false [⟨none,(some 97),.mov (.t 10)⟩,
  ⟨none,(some 98),.bin .add (.t 97) (.k (.int .i64 1))⟩,
  ⟨none,(some 10),.mov (.t 98)⟩])
 (.seq (.region false [⟨none,(some 99),.mov (.t 5)⟩,
  ⟨none,(some 100),.ext (.k .junk) 0⟩,
  ⟨none,(some 101),.bin .leq (.t 99) (.t 100)⟩,
  ⟨none,(some 102),.mov (.t 101)⟩,
  ⟨(some (102,true)),(some 103),.mov (.t 10)⟩,
  ⟨(some (102,true)),(some 104),.mov (.t 8)⟩,
  ⟨(some (102,true)),(some 105),.call (.k (.fn (.func 188) [] [])) [(.t 104)]⟩,
  ⟨(some (102,true)),(some 106),.bin .gtr (.t 103) (.t 105)⟩,
  ⟨none,(some 107),.pick (.t 102) (.t 106) (.k (.bool false))⟩])
 (.cond (.t 107) (.seq (.region false [⟨none,(some 108),.mov (.t 0)⟩,
  ⟨none,(some 109),.mov (.t 8)⟩,
  ⟨none,(some 110),.slcStr (.t 108) (some (.t 109)) none⟩,
  ⟨none,(some 111),.mov (.t 1)⟩,
  ⟨none,(some 112),.call (.k (.fn (.func 187) [] [])) [(.t 110),(.t 111)]⟩,
  ⟨none,(some 12),.mov (.t 112)⟩])
 (.seq (.seq (.region false [⟨none,(some 113),.mov (.t 12)⟩,
  ⟨none,(some 114),.bin .geq (.t 113) (.k (.int .i64 0))⟩])
 (.cond (.t 114) (.seq (.region false [⟨none,(some 115),.mov (.t 12)⟩,
  ⟨none,(some 116),.mov (.t 8)⟩,
  ⟨none,(some 117),.bin .add (.t 115) (.t 116)⟩,
  ⟨none,(some 4),.mov (.t 117)⟩])
 .ret)
 .skip))
 (.seq (.region false [⟨none,(some 4),.mov (.k (.int .i64 (-1)))⟩])
 .ret)))
 (.seq (.region false [⟨none,(some 118),.mov (.t 5)⟩,
  ⟨none,(some 119),.ext (.k .junk) 0⟩,
  ⟨none,(some 120),.bin .gtr (.t 118) (.t 119)⟩,
  ⟨none,(some 121),.mov (.t 120)⟩,
  ⟨(some (121,true)),(some 122),.mov (.t 10)⟩,
  ⟨(some (121,true)),(some 123),.mov (.t 8)⟩,
  ⟨(some (121,true)),(some 124),.bin .shr (.t 123) (.k (w64 4#64))⟩,
  ⟨(some (121,true)),(some 125),.bin .add (.k (.int .i64 4)) (.t 124)⟩,
  ⟨(some (121,true)),(some 126),.bin .geq (.t 122) (.t 125)⟩,
  ⟨none,(some 127),.pick (.t 121) (.t 126) (.k (.bool false))⟩,
  ⟨none,(some 128),.mov (.t 127)⟩,
  ⟨(some (128,true)),(some 129),.mov (.t 8)⟩,
  ⟨(some (128,true)),(some 130),.mov (.t 9)⟩,
  ⟨(some (128,true)),(some 131),.bin .lss (.t 129) (.t 130)⟩,
  ⟨none,(some 132),.pick (.t 128) (.t 131) (.k (.bool false))⟩])
 (.cond (.t 132) (.seq (.region false [⟨none,(some 133),.mov (.t 0)⟩,
  ⟨none,(some 134),.mov (.t 8)⟩,
  ⟨none,(some 135),.slcStr (.t 133) (some (.t 134)) none⟩,
  ⟨none,(some 136),.mov (.t 1)⟩,
  ⟨none,(some 137),.call (.k (.fn (.func 189) [] [])) [(.t 135),(.t 136)]⟩,
  ⟨none,(some 13),.mov (.t 137)⟩])
 (.seq (.seq (.region false [⟨none,(some 138),.mov (.t 13)⟩,
  ⟨none,(some 139),.bin .lss (.t 138) (.k (.int .i64 0))⟩])
 (.cond (.t 139) (.seq (.region false [⟨none,(some 4),.mov (.k (.int .i64 (-1)))⟩])
 .ret)
 .skip))
 (.seq (.region false [⟨none,(some 140),.mov (.t 8)⟩,
  ⟨none,(some 141),.mov (.t 13)⟩,
  ⟨none,(some 142),.bin .add (.t 140) (.t 141)⟩,
  ⟨none,(some 4),.mov (.t 142)⟩])
 .ret)))
 .skip))))))))))
def a178:AFn where
 code:=(.seq (.region false [⟨none,(some 4),.mov (.k (.int .i64 0))⟩])
 (.seq (.region false [⟨none,(some 14),.mov (.t 1)⟩,
  ⟨none,(some 15),.lenStr (.t 14)⟩,
  ⟨none,(some 5),.mov (.t 15)⟩])
 (.seq (.block 0 (.seq (.region false [⟨none,(some 17),.mov (.t 5)⟩,
  ⟨none,(some 18),.bin .eql (.t 17) (.k (.int .i64 0))⟩,
  ⟨none,(some 19),.mov (.t 18)⟩,
  ⟨(some (19,false)),(some 20),.mov (.t 1)⟩,
  ⟨(some (19,false)),(some 21),.mov (.t 0)⟩,
  ⟨(some (19,false)),(some 22),.bin .eql (.t 20) (.t 21)⟩,
  ⟨none,(some 23),.pick (.t 19) (.k (.bool true)) (.t 22)⟩,
  ⟨none,(some 16),.mov (.t 23)⟩])
 (.cond (.t 16) (.seq (.region false [⟨none,(some 4),.mov (.k (.int .i64 0))⟩])
 .ret)
 (.seq (.region false [⟨none,(some 25),.mov (.t 5)⟩,
  ⟨none,(some 26),.bin .eql (.t 25) (.k (.int .i64 1))⟩,
  ⟨none,(some 24),.mov (.t 26)⟩])
 (.cond (.t 24) (.seq (.region false [⟨none,(some 27),.mov (.t 0)⟩,
  ⟨none,(some 28),.mov (.t 1)⟩,
  ⟨none,(some 29),.idxStr (.t 28) (.k (.int .i64 0))⟩,
  ⟨none,(some 30),.call (.k (.fn (.func 164) [] [])) [(.t 27),(.t 29)]⟩,
  ⟨none,(some 4),.mov (.t 30)⟩])
 .ret)
 (.seq (.region false [⟨none,(some 32),.mov (.t 5)⟩,
  ⟨none,(some 33),.mov (.t 0)⟩,
  ⟨none,(some 34),.lenStr (.t 33)⟩,
  ⟨none,(some 35),.bin .geq (.t 32) (.t 34)⟩,
  ⟨none,(some 31),.mov (.t 35)⟩])
 (.cond (.t 31) (.seq (.region false [⟨none,(some 4),.mov (.k (.int .i64 (-1)))⟩])
 .ret)
 (.seq (.region false [⟨none,(some 37),.mov (.t 5)⟩,
  ⟨none,(some 38),.ext (.k .junk) 0⟩,
  ⟨none,(some 39),.bin .leq (.t 37) (.t 38)⟩,
  ⟨none,(some 40),.mov (.t 39)⟩,
  ⟨(some (40,true)),(some 41),.mov (.t 0)⟩,
  ⟨(some (40,true)),(some 42),.lenStr (.t 41)⟩,
  ⟨(some (40,true)),(some 43),.bin .leq (.t 42) (.k (.int .i64 64))⟩,
  ⟨none,(some 44),.pick (.t 40) (.t 43) (.k (.bool false))⟩,
  ⟨none,(some 36),.mov (.t 44)⟩])
 (.cond (.t 36) (.seq (.region false [⟨none,(some 45),.mov (.t 0)⟩,
  ⟨none,(some 46),.mov (.t 1)⟩,
  ⟨none,(some 47),.call (.k (.fn (.func 187) [] [])) [(.t 45),(.t 46)]⟩,
  ⟨none,(some 4),.mov (.t 47)⟩])
 .ret)
 .skip)))))))))
 (.seq (.region false [⟨none,(some 48),.mov (.t 1)⟩,
  ⟨none,(some 49),.idxStr (.t 48) (.k (.int .i64 0))⟩,
  ⟨none,(some 6),.mov (.t 49)⟩])
 (.seq (.region false [⟨none,(some 50),.mov (.t 1)⟩,
  ⟨none,(some 51),.idxStr (.t 50) (.k (.int .i64 1))⟩,
  ⟨none,(some 7),.mov (.t 51)⟩])
 (.seq (.region false [⟨none,(some 8),.mov (.k (.int .i64 0))⟩])
 (.seq (.region false [⟨none,(some 52),.mov (.t 0)⟩,
  ⟨none,(some 53),.lenStr (.t 52)⟩,
  ⟨none,(some 54),.mov (.t 5)⟩,
  ⟨none,(some 55),.bin .sub (.t 53) (.t 54)⟩,
  ⟨none,(some 56),.bin .add (.t 55) (.k (.int .i64 1))⟩,
  ⟨none,(some 9),.mov (.t 56)⟩])
 (.seq (.region false [⟨none,(some 10),.mov (.k (.int .i64 0))⟩])
 (.seq (.block 1 (.loop zdo7))
 (.seq (.region false [⟨none,(some 4),.mov (.k (.int .i64 (-1)))⟩])
 .ret))))))))))
 ntmps:=143
 res:=[.tmp 4]
theorem zh1o:zsjc P Tryd.f178=some a178:=by kernel_rfl
def a156:AFn where
 code:=(.seq (.region false [⟨none,(some 4),.mov (.k (.int .i64 0))⟩])
 (.seq (.region false [⟨none,(some 5),.mov (.t 0)⟩,
  ⟨none,(some 6),.mov (.t 1)⟩,
  ⟨none,(some 7),.call (.k (.fn (.func 178) [] [])) [(.t 5),(.t 6)]⟩,
  ⟨none,(some 4),.mov (.t 7)⟩])
 .ret))
 ntmps:=8
 res:=[.tmp 4]
theorem z9pj:zsjc P Tryd.f156=some a156:=by kernel_rfl
def a165:AFn where
 code:=(.seq (.region false [⟨none,(some 4),.mov (.k (.str []))⟩,
  ⟨none,(some 5),.mov (.k (.str []))⟩,
  ⟨none,(some 6),.mov (.k (.bool false))⟩])
 (.seq (.seq (.region false [⟨none,(some 8),.mov (.t 0)⟩,
  ⟨none,(some 9),.mov (.t 1)⟩,
  ⟨none,(some 10),.call (.k (.fn (.func 178) [] [])) [(.t 8),(.t 9)]⟩,
  ⟨none,(some 7),.mov (.t 10)⟩])
 (.seq (.region false [⟨none,(some 11),.mov (.t 7)⟩,
  ⟨none,(some 12),.bin .geq (.t 11) (.k (.int .i64 0))⟩])
 (.cond (.t 12) (.seq (.region true [⟨none,(some 13),.mov (.t 0)⟩,
  ⟨none,(some 14),.mov (.t 7)⟩,
  ⟨none,(some 15),.slcStr (.t 13) none (some (.t 14))⟩,
  ⟨none,(some 16),.mov (.t 0)⟩,
  ⟨none,(some 17),.mov (.t 7)⟩,
  ⟨none,(some 18),.mov (.t 1)⟩,
  ⟨none,(some 19),.lenStr (.t 18)⟩,
  ⟨none,(some 20),.bin .add (.t 17) (.t 19)⟩,
  ⟨none,(some 21),.slcStr (.t 16) (some (.t 20)) none⟩,
  ⟨none,(some 4),.mov (.t 15)⟩,
  ⟨none,(some 5),.mov (.t 21)⟩,
  ⟨none,(some 6),.mov (.k (.bool true))⟩])
 .ret)
 .skip)))
 (.seq (.region false [⟨none,(some 22),.mov (.t 0)⟩,
  ⟨none,(some 4),.mov (.t 22)⟩,
  ⟨none,(some 5),.mov (.k (.str []))⟩,
  ⟨none,(some 6),.mov (.k (.bool false))⟩])
 .ret)))
 ntmps:=23
 res:=[.tmp 4,.tmp 5,.tmp 6]
theorem zmc9:zsjc P Tryd.f165=some a165:=by kernel_rfl
def a139:AFn where
 code:=(.seq (.region false [⟨none,(some 4),.mov (.k (.str []))⟩,
  ⟨none,(some 5),.mov (.k (.str []))⟩,
  ⟨none,(some 6),.mov (.k (.bool false))⟩])
 (.seq (.region false [⟨none,(some 7),.mov (.t 0)⟩,
  ⟨none,(some 8),.mov (.t 1)⟩,
  ⟨none,(some 9),.call (.k (.fn (.func 165) [] [])) [(.t 7),(.t 8)]⟩,
  ⟨none,(some 10),.ext (.t 9) 0⟩,
  ⟨none,(some 11),.ext (.t 9) 1⟩,
  ⟨none,(some 12),.ext (.t 9) 2⟩,
  ⟨none,(some 4),.mov (.t 10)⟩,
  ⟨none,(some 5),.mov (.t 11)⟩,
  ⟨none,(some 6),.mov (.t 12)⟩])
 .ret))
 ntmps:=13
 res:=[.tmp 4,.tmp 5,.tmp 6]
theorem zt91:zsjc P Tryd.f139=some a139:=by kernel_rfl
def a190:AFn where
 code:=(.seq (.region false [⟨none,(some 4),.mov (.k (.bool false))⟩])
 (.seq (.region false [⟨none,(some 5),.mov (.t 0)⟩,
  ⟨none,(some 6),.lenStr (.t 5)⟩,
  ⟨none,(some 7),.mov (.t 1)⟩,
  ⟨none,(some 8),.lenStr (.t 7)⟩,
  ⟨none,(some 9),.bin .geq (.t 6) (.t 8)⟩,
  ⟨none,(some 10),.mov (.t 9)⟩,
  ⟨(some (10,true)),(some 11),.mov (.t 0)⟩,
  ⟨(some (10,true)),(some 12),.mov (.t 1)⟩,
  ⟨(some (10,true)),(some 13),.lenStr (.t 12)⟩,
  ⟨(some (10,true)),(some 14),.slcStr (.t 11) none (some (.t 13))⟩,
  ⟨(some (10,true)),(some 15),.mov (.t 1)⟩,
  ⟨(some (10,true)),(some 16),.bin .eql (.t 14) (.t 15)⟩,
  ⟨none,(some 17),.pick (.t 10) (.t 16) (.k (.bool false))⟩,
  ⟨none,(some 4),.mov (.t 17)⟩])
 .ret))
 ntmps:=18
 res:=[.tmp 4]
theorem z4jb:zsjc P Tryd.f190=some a190:=by kernel_rfl
def a179:AFn where
 code:=(.seq (.region false [⟨none,(some 4),.mov (.k (.str []))⟩,
  ⟨none,(some 5),.mov (.k (.bool false))⟩])
 (.seq (.seq (.region false [⟨none,(some 6),.mov (.t 0)⟩,
  ⟨none,(some 7),.mov (.t 1)⟩,
  ⟨none,(some 8),.call (.k (.fn (.func 190) [] [])) [(.t 6),(.t 7)]⟩,
  ⟨none,(some 9),.un .not (.t 8)⟩])
 (.cond (.t 9) (.seq (.region false [⟨none,(some 10),.mov (.t 0)⟩,
  ⟨none,(some 4),.mov (.t 10)⟩,
  ⟨none,(some 5),.mov (.k (.bool false))⟩])
 .ret)
 .skip))
 (.seq (.region false [⟨none,(some 11),.mov (.t 0)⟩,
  ⟨none,(some 12),.mov (.t 1)⟩,
  ⟨none,(some 13),.lenStr (.t 12)⟩,
  ⟨none,(some 14),.slcStr (.t 11) (some (.t 13)) none⟩,
  ⟨none,(some 4),.mov (.t 14)⟩,
  ⟨none,(some 5),.mov (.k (.bool true))⟩])
 .ret)))
 ntmps:=15
 res:=[.tmp 4,.tmp 5]
theorem zb5n:zsjc P Tryd.f179=some a179:=by kernel_rfl
def a159:AFn where
 code:=(.seq (.region false [⟨none,(some 4),.mov (.k (.str []))⟩,
  ⟨none,(some 5),.mov (.k (.bool false))⟩])
 (.seq (.region false [⟨none,(some 6),.mov (.t 0)⟩,
  ⟨none,(some 7),.mov (.t 1)⟩,
  ⟨none,(some 8),.call (.k (.fn (.func 179) [] [])) [(.t 6),(.t 7)]⟩,
  ⟨none,(some 9),.ext (.t 8) 0⟩,
  ⟨none,(some 10),.ext (.t 8) 1⟩,
  ⟨none,(some 4),.mov (.t 9)⟩,
  ⟨none,(some 5),.mov (.t 10)⟩])
 .ret))
 ntmps:=11
 res:=[.tmp 4,.tmp 5]
theorem zp3e:zsjc P Tryd.f159=some a159:=by kernel_rfl
def z3yv:ACode :=
 (.seq (.seq (.region false [⟨none,(some 18),.mov (.t 3)⟩])
 (.cond (.t 18) .skip
 (.exit 0)))
 (.block 1 (.seq (.region false [⟨none,(some 4),.mov (.k (.str []))⟩])
 (.seq (.region false [⟨none,(some 20),.mov (.t 0)⟩,
  ⟨none,(some 21),.call (.k (.fn (.func 139) [] [])) [(.t 20),(.k (.str [47]))]⟩,
  ⟨none,(some 19),.mov (.t 21)⟩,
  ⟨none,(some 22),.ext (.t 19) 0⟩,
  ⟨none,(some 23),.ext (.t 19) 1⟩,
  ⟨none,(some 24),.ext (.t 19) 2⟩,
  ⟨none,(some 4),.mov (.t 22)⟩,
  ⟨none,(some 0),.mov (.t 23)⟩,
  ⟨none,(some 3),.mov (.t 24)⟩])
 (.seq (.region false [⟨none,(some 25),.mov (.t 4)⟩,
  ⟨none,(some 26),.bin .eql (.t 25) (.k (.str []))⟩,
  ⟨none,(some 27),.mov (.t 26)⟩,
  ⟨(some (27,false)),(some 28),.mov (.t 4)⟩,
  ⟨(some (27,false)),(some 29),.bin .eql (.t 28) (.k (.str [46]))⟩,
  ⟨none,(some 30),.pick (.t 27) (.k (.bool true)) (.t 29)⟩,
  ⟨none,(some 31),.mov (.t 30)⟩,
  ⟨(some (31,false)),(some 32),.mov (.t 4)⟩,
  ⟨(some (31,false)),(some 33),.bin .eql (.t 32) (.k (.str [46,46]))⟩,
  ⟨none,(some 34),.pick (.t 31) (.k (.bool true)) (.t 33)⟩])
 (.cond (.t 34) (.seq (.region false [⟨none,(some 2),.mov (.k (.bool false))⟩])
 .ret)
 .skip))))))
def zlqy (x0 x3:DV) (h:List AObj):St:=⟨[x0,.junk,.junk,x3]++js 31,h⟩
def a89:AFn where
 code:=(.seq (.region false [⟨none,(some 2),.mov (.k (.bool false))⟩])
 (.seq (.seq (.region false [⟨none,(some 5),.mov (.t 0)⟩,
  ⟨none,(some 6),.lenStr (.t 5)⟩,
  ⟨none,(some 7),.bin .lss (.t 6) (.k (.int .i64 1))⟩,
  ⟨none,(some 8),.mov (.t 7)⟩,
  ⟨(some (8,false)),(some 9),.mov (.t 0)⟩,
  ⟨(some (8,false)),(some 10),.lenStr (.t 9)⟩,
  ⟨(some (8,false)),(some 11),.bin .gtr (.t 10) (.k (.int .i64 200))⟩,
  ⟨none,(some 12),.pick (.t 8) (.k (.bool true)) (.t 11)⟩,
  ⟨none,(some 13),.mov (.t 12)⟩,
  ⟨(some (13,false)),(some 14),.mov (.t 0)⟩,
  ⟨(some (13,false)),(some 15),.call (.k (.fn (.func 138) [] [])) [(.t 14),(.k (w8 0#8))]⟩,
  ⟨(some (13,false)),(some 16),.bin .geq (.t 15) (.k (.int .i64 0))⟩,
  ⟨none,(some 17),.pick (.t 13) (.k (.bool true)) (.t 16)⟩])
 (.cond (.t 17) (.seq (.region false [⟨none,(some 2),.mov (.k (.bool false))⟩])
 .ret)
 .skip))
 (.seq (.seq (.region false [⟨none,(some 3),.mov (.k (.bool true))⟩])
 (.block 0 (.loop z3yv)))
 (.seq (.region false [⟨none,(some 2),.mov (.k (.bool true))⟩])
 .ret))))
 ntmps:=35
 res:=[.tmp 2]
theorem z42j:zsjc P Tryd.f89=some a89:=by kernel_rfl
def zd5j:ACode :=
 (.seq (.seq (.region false [⟨none,(some 19),.mov (.t 5)⟩,
  ⟨none,(some 20),.mov (.t 0)⟩,
  ⟨none,(some 21),.lenStr (.t 20)⟩,
  ⟨none,(some 22),.bin .lss (.t 19) (.t 21)⟩])
 (.cond (.t 22) .skip
 (.exit 0)))
 (.seq (.block 1 (.block 2 (.seq (.region false [⟨none,(some 33),.mov (.t 0)⟩,
  ⟨none,(some 34),.mov (.t 5)⟩,
  ⟨none,(some 35),.idxStr (.t 33) (.t 34)⟩,
  ⟨none,(some 36),.bin .eql (.t 35) (.k (w8 92#8))⟩,
  ⟨none,(some 32),.mov (.t 36)⟩])
 (.cond (.t 32) (.seq (.region false [⟨none,(some 37),.mov (.t 5)⟩,
  ⟨none,(some 38),.bin .add (.t 37) (.k (.int .i64 1))⟩,
  ⟨none,(some 5),.mov (.t 38)⟩])
 (.seq (.seq (.region false [⟨none,(some 39),.mov (.t 5)⟩,
  ⟨none,(some 40),.mov (.t 0)⟩,
  ⟨none,(some 41),.lenStr (.t 40)⟩,
  ⟨none,(some 42),.bin .eql (.t 39) (.t 41)⟩])
 (.cond (.t 42) (.seq (.region false [⟨none,(some 2),.mov (.k .nils)⟩,
  ⟨none,(some 3),.mov (.k (.bool false))⟩])
 .ret)
 .skip))
 (.region false [⟨none,(some 43),.mov (.t 4)⟩,
  ⟨none,(some 44),.mov (.t 0)⟩,
  ⟨none,(some 45),.mov (.t 5)⟩,
  ⟨none,(some 46),.idxStr (.t 44) (.t 45)⟩,
  ⟨none,(some 47),.build [(.int .i64 0),(w8 0#8)] [(0,1,(.k (.int .i64 0))),(1,1,(.t 46))]⟩,
  ⟨none,(some 48),.bsl 2 1 [(.int .i64 0),(w8 0#8)] [(0,2,(.t 47))]⟩,
  ⟨none,(some 49),.app 2 16 (.t 43) (.t 48)⟩,
  ⟨none,(some 4),.mov (.t 49)⟩])))
 (.seq (.region false [⟨none,(some 51),.mov (.t 0)⟩,
  ⟨none,(some 52),.mov (.t 5)⟩,
  ⟨none,(some 53),.idxStr (.t 51) (.t 52)⟩,
  ⟨none,(some 54),.bin .eql (.t 53) (.k (w8 63#8))⟩,
  ⟨none,(some 50),.mov (.t 54)⟩])
 (.cond (.t 50) (.region false [⟨none,(some 55),.mov (.t 4)⟩,
  ⟨none,(some 56),.build [(.int .i64 0),(w8 0#8)] [(0,1,(.k (.int .i64 1)))]⟩,
  ⟨none,(some 57),.bsl 2 1 [(.int .i64 0),(w8 0#8)] [(0,2,(.t 56))]⟩,
  ⟨none,(some 58),.app 2 16 (.t 55) (.t 57)⟩,
  ⟨none,(some 4),.mov (.t 58)⟩])
 (.seq (.region false [⟨none,(some 60),.mov (.t 0)⟩,
  ⟨none,(some 61),.mov (.t 5)⟩,
  ⟨none,(some 62),.idxStr (.t 60) (.t 61)⟩,
  ⟨none,(some 63),.bin .eql (.t 62) (.k (w8 42#8))⟩,
  ⟨none,(some 64),.mov (.t 63)⟩,
  ⟨(some (64,true)),(some 65),.mov (.t 5)⟩,
  ⟨(some (64,true)),(some 66),.bin .add (.t 65) (.k (.int .i64 1))⟩,
  ⟨(some (64,true)),(some 67),.mov (.t 0)⟩,
  ⟨(some (64,true)),(some 68),.lenStr (.t 67)⟩,
  ⟨(some (64,true)),(some 69),.bin .lss (.t 66) (.t 68)⟩,
  ⟨none,(some 70),.pick (.t 64) (.t 69) (.k (.bool false))⟩,
  ⟨none,(some 71),.mov (.t 70)⟩,
  ⟨(some (71,true)),(some 72),.mov (.t 0)⟩,
  ⟨(some (71,true)),(some 73),.mov (.t 5)⟩,
  ⟨(some (71,true)),(some 74),.bin .add (.t 73) (.k (.int .i64 1))⟩,
  ⟨(some (71,true)),(some 75),.idxStr (.t 72) (.t 74)⟩,
  ⟨(some (71,true)),(some 76),.bin .eql (.t 75) (.k (w8 42#8))⟩,
  ⟨none,(some 77),.pick (.t 71) (.t 76) (.k (.bool false))⟩,
  ⟨none,(some 59),.mov (.t 77)⟩])
 (.cond (.t 59) (.seq (.region false [⟨none,(some 78),.mov (.t 5)⟩,
  ⟨none,(some 79),.bin .add (.t 78) (.k (.int .i64 1))⟩,
  ⟨none,(some 5),.mov (.t 79)⟩])
 (.region false [⟨none,(some 80),.mov (.t 4)⟩,
  ⟨none,(some 81),.build [(.int .i64 0),(w8 0#8)] [(0,1,(.k (.int .i64 3)))]⟩,
  ⟨none,(some 82),.bsl 2 1 [(.int .i64 0),(w8 0#8)] [(0,2,(.t 81))]⟩,
  ⟨none,(some 83),.app 2 16 (.t 80) (.t 82)⟩,
  ⟨none,(some 4),.mov (.t 83)⟩]))
 (.seq (.region false [⟨none,(some 85),.mov (.t 0)⟩,
  ⟨none,(some 86),.mov (.t 5)⟩,
  ⟨none,(some 87),.idxStr (.t 85) (.t 86)⟩,
  ⟨none,(some 88),.bin .eql (.t 87) (.k (w8 42#8))⟩,
  ⟨none,(some 84),.mov (.t 88)⟩])
 (.cond (.t 84) (.region false [⟨none,(some 89),.mov (.t 4)⟩,
  ⟨none,(some 90),.build [(.int .i64 0),(w8 0#8)] [(0,1,(.k (.int .i64 2)))]⟩,
  ⟨none,(some 91),.bsl 2 1 [(.int .i64 0),(w8 0#8)] [(0,2,(.t 90))]⟩,
  ⟨none,(some 92),.app 2 16 (.t 89) (.t 91)⟩,
  ⟨none,(some 4),.mov (.t 92)⟩])
 (.region false [⟨none,(some 25),.mov (.t 4)⟩,
  ⟨none,(some 26),.mov (.t 0)⟩,
  ⟨none,(some 27),.mov (.t 5)⟩,
  ⟨none,(some 28),.idxStr (.t 26) (.t 27)⟩,
  ⟨none,(some 29),.build [(.int .i64 0),(w8 0#8)] [(0,1,(.k (.int .i64 0))),(1,1,(.t 28))]⟩,
  ⟨none,(some 30),.bsl 2 1 [(.int .i64 0),(w8 0#8)] [(0,2,(.t 29))]⟩,
  ⟨none,(some 31),.app 2 16 (.t 25) (.t 30)⟩,
  ⟨none,(some 4),.mov (.t 31)⟩])))))))))))
 (.region false [⟨none,(some 23),.mov (.t 5)⟩,
  ⟨none,(some 24),.bin .add (.t 23) (.k (.int .i64 1))⟩,
  ⟨none,(some 5),.mov (.t 24)⟩])))
def zc10 (x0 x4 x5:DV) (h:List AObj):St:=⟨[x0,.junk,.junk,.junk,x4,x5]++js 88,h⟩
def a131:AFn where
 code:=(.seq (.region false [⟨none,(some 2),.mov (.k .nils)⟩,
  ⟨none,(some 3),.mov (.k (.bool false))⟩])
 (.seq (.seq (.region false [⟨none,(some 6),.mov (.t 0)⟩,
  ⟨none,(some 7),.lenStr (.t 6)⟩,
  ⟨none,(some 8),.bin .lss (.t 7) (.k (.int .i64 1))⟩,
  ⟨none,(some 9),.mov (.t 8)⟩,
  ⟨(some (9,false)),(some 10),.mov (.t 0)⟩,
  ⟨(some (9,false)),(some 11),.lenStr (.t 10)⟩,
  ⟨(some (9,false)),(some 12),.bin .gtr (.t 11) (.k (.int .i64 200))⟩,
  ⟨none,(some 13),.pick (.t 9) (.k (.bool true)) (.t 12)⟩,
  ⟨none,(some 14),.mov (.t 13)⟩,
  ⟨(some (14,false)),(some 15),.mov (.t 0)⟩,
  ⟨(some (14,false)),(some 16),.call (.k (.fn (.func 138) [] [])) [(.t 15),(.k (w8 0#8))]⟩,
  ⟨(some (14,false)),(some 17),.bin .geq (.t 16) (.k (.int .i64 0))⟩,
  ⟨none,(some 18),.pick (.t 14) (.k (.bool true)) (.t 17)⟩])
 (.cond (.t 18) (.seq (.region false [⟨none,(some 2),.mov (.k .nils)⟩,
  ⟨none,(some 3),.mov (.k (.bool false))⟩])
 .ret)
 .skip))
 (.seq (.region false [⟨none,(some 4),.mov (.k .nils)⟩])
 (.seq (.seq (.region false [⟨none,(some 5),.mov (.k (.int .i64 0))⟩])
 (.block 0 (.loop zd5j)))
 (.seq (.region false [⟨none,(some 93),.mov (.t 4)⟩,
  ⟨none,(some 2),.mov (.t 93)⟩,
  ⟨none,(some 3),.mov (.k (.bool true))⟩])
 .ret)))))
 ntmps:=94
 res:=[.tmp 2,.tmp 3]
theorem zsra:zsjc P Tryd.f131=some a131:=by kernel_rfl
def a77:AFn where
 code:=(.seq (.region false [⟨none,(some 2),.mov (.k (.bool false))⟩])
 (.seq (.region false [⟨none,(some 6),.mov (.t 0)⟩,
  ⟨none,(some 7),.call (.k (.fn (.func 131) [] [])) [(.t 6)]⟩,
  ⟨none,(some 5),.mov (.t 7)⟩,
  ⟨none,(some 8),.ext (.t 5) 0⟩,
  ⟨none,(some 9),.ext (.t 5) 1⟩,
  ⟨none,(some 3),.mov (.t 8)⟩,
  ⟨none,(some 4),.mov (.t 9)⟩])
 (.seq (.region false [⟨none,(some 10),.mov (.t 4)⟩,
  ⟨none,(some 2),.mov (.t 10)⟩])
 .ret)))
 ntmps:=11
 res:=[.tmp 2]
theorem z20a:zsjc P Tryd.f77=some a77:=by kernel_rfl
def a160:AFn where
 code:=(.seq (.region false [⟨none,(some 1),.box (.t 0)⟩,
  ⟨none,(some 2),.mov (.k .nilf)⟩])
 (.seq (.seq (.region false [⟨none,(some 3),.fld 0 (.t 1)⟩,
  ⟨none,(some 4),.load 1 false (.t 3)⟩])
 (.block 0 (.seq (.region false [⟨none,(some 6),.bin .eql (.t 4) (.k (.int .i64 0))⟩,
  ⟨none,(some 5),.mov (.t 6)⟩])
 (.cond (.t 5) (.seq (.region false [⟨none,(some 7),.mkf (.func 180) [] [(.t 1)]⟩,
  ⟨none,(some 2),.mov (.t 7)⟩])
 .ret)
 (.seq (.region false [⟨none,(some 9),.bin .eql (.t 4) (.k (.int .i64 3))⟩,
  ⟨none,(some 8),.mov (.t 9)⟩])
 (.cond (.t 8) (.seq (.region false [⟨none,(some 2),.mov (.k (.fn (.func 181) [] []))⟩])
 .ret)
 .skip))))))
 (.seq (.region false [⟨none,(some 2),.mov (.k (.fn (.func 182) [] []))⟩])
 .ret)))
 ntmps:=10
 res:=[.tmp 2]
theorem z2um:zsjc P Tryd.f160=some a160:=by kernel_rfl
def a180:AFn where
 code:=(.seq (.region false [⟨none,(some 3),.mov (.k (.bool false))⟩])
 (.seq (.region false [⟨none,(some 4),.mov (.t 0)⟩,
  ⟨none,(some 5),.fld 1 (.t 1)⟩,
  ⟨none,(some 6),.load 1 false (.t 5)⟩,
  ⟨none,(some 7),.bin .eql (.t 4) (.t 6)⟩,
  ⟨none,(some 3),.mov (.t 7)⟩])
 .ret))
 ntmps:=8
 res:=[.tmp 3]
theorem zpcn:zsjc P Tryd.f180=some a180:=by kernel_rfl
def a181:AFn where
 code:=(.seq (.region false [⟨none,(some 2),.mov (.k (.bool false))⟩])
 (.seq (.region false [⟨none,(some 2),.mov (.k (.bool true))⟩])
 .ret))
 ntmps:=3
 res:=[.tmp 2]
theorem zwin:zsjc P Tryd.f181=some a181:=by kernel_rfl
def a182:AFn where
 code:=(.seq (.region false [⟨none,(some 2),.mov (.k (.bool false))⟩])
 (.seq (.region false [⟨none,(some 3),.mov (.t 0)⟩,
  ⟨none,(some 4),.bin .neq (.t 3) (.k (w8 47#8))⟩,
  ⟨none,(some 2),.mov (.t 4)⟩])
 .ret))
 ntmps:=5
 res:=[.tmp 2]
theorem zbm0:zsjc P Tryd.f182=some a182:=by kernel_rfl
def a161:AFn where
 code:=(.seq (.region false [⟨none,(some 1),.box (.t 0)⟩,
  ⟨none,(some 2),.mov (.k (.bool false))⟩])
 (.seq (.region false [⟨none,(some 3),.fld 0 (.t 1)⟩,
  ⟨none,(some 4),.load 1 false (.t 3)⟩,
  ⟨none,(some 5),.bin .eql (.t 4) (.k (.int .i64 2))⟩,
  ⟨none,(some 6),.mov (.t 5)⟩,
  ⟨(some (6,false)),(some 7),.fld 0 (.t 1)⟩,
  ⟨(some (6,false)),(some 8),.load 1 false (.t 7)⟩,
  ⟨(some (6,false)),(some 9),.bin .eql (.t 8) (.k (.int .i64 3))⟩,
  ⟨none,(some 10),.pick (.t 6) (.k (.bool true)) (.t 9)⟩,
  ⟨none,(some 2),.mov (.t 10)⟩])
 .ret))
 ntmps:=11
 res:=[.tmp 2]
theorem zuwg:zsjc P Tryd.f161=some a161:=by kernel_rfl
def zfuq:ACode :=
 (.seq (.region false [⟨none,(some 55),.bin .lss (.t 54) (.t 53)⟩])
 (.seq (.cond (.t 55) .skip
 (.exit 2))
 (.seq (.block 3 (.seq (.region false [⟨none,(some 56),.mov (.t 54)⟩,
  ⟨none,(some 12),.mov (.t 56)⟩])
 (.block 4 (.seq (.region false [⟨none,(some 73),.load 2 true (.t 9)⟩,
  ⟨none,(some 74),.call (.k (.fn (.func 161) [] [])) [(.t 73)]⟩,
  ⟨none,(some 72),.mov (.t 74)⟩])
 (.cond (.t 72) (.region false [⟨none,(some 75),.mov (.t 11)⟩,
  ⟨none,(some 76),.mov (.t 12)⟩,
  ⟨none,(some 77),.bin .add (.t 76) (.k (.int .i64 1))⟩,
  ⟨none,(some 78),.mov (.t 7)⟩,
  ⟨none,(some 79),.mov (.t 12)⟩,
  ⟨none,(some 80),.bin .add (.t 79) (.k (.int .i64 1))⟩,
  ⟨none,(some 81),.idxS 1 (.t 78) (.t 80)⟩,
  ⟨none,(some 82),.load 1 false (.t 81)⟩,
  ⟨none,(some 83),.mov (.t 82)⟩,
  ⟨(some (83,false)),(some 84),.mov (.t 11)⟩,
  ⟨(some (83,false)),(some 85),.mov (.t 12)⟩,
  ⟨(some (83,false)),(some 86),.idxS 1 (.t 84) (.t 85)⟩,
  ⟨(some (83,false)),(some 87),.load 1 false (.t 86)⟩,
  ⟨(some (83,false)),(some 88),.mov (.t 87)⟩,
  ⟨(some (88,true)),(some 89),.mov (.t 10)⟩,
  ⟨(some (88,true)),(some 90),.mov (.t 1)⟩,
  ⟨(some (88,true)),(some 91),.mov (.t 12)⟩,
  ⟨(some (88,true)),(some 92),.idxStr (.t 90) (.t 91)⟩,
  ⟨(some (88,true)),(some 93),.call (.t 89) [(.t 92)]⟩,
  ⟨(some (83,false)),(some 94),.pick (.t 88) (.t 93) (.k (.bool false))⟩,
  ⟨none,(some 95),.pick (.t 83) (.k (.bool true)) (.t 94)⟩,
  ⟨none,(some 96),.idxS 1 (.t 75) (.t 77)⟩,
  ⟨none,none,.store 1 (.t 96) (.t 95)⟩])
 (.region false [⟨none,(some 57),.mov (.t 11)⟩,
  ⟨none,(some 58),.mov (.t 12)⟩,
  ⟨none,(some 59),.bin .add (.t 58) (.k (.int .i64 1))⟩,
  ⟨none,(some 60),.mov (.t 7)⟩,
  ⟨none,(some 61),.mov (.t 12)⟩,
  ⟨none,(some 62),.idxS 1 (.t 60) (.t 61)⟩,
  ⟨none,(some 63),.load 1 false (.t 62)⟩,
  ⟨none,(some 64),.mov (.t 63)⟩,
  ⟨(some (64,true)),(some 65),.mov (.t 10)⟩,
  ⟨(some (64,true)),(some 66),.mov (.t 1)⟩,
  ⟨(some (64,true)),(some 67),.mov (.t 12)⟩,
  ⟨(some (64,true)),(some 68),.idxStr (.t 66) (.t 67)⟩,
  ⟨(some (64,true)),(some 69),.call (.t 65) [(.t 68)]⟩,
  ⟨none,(some 70),.pick (.t 64) (.t 69) (.k (.bool false))⟩,
  ⟨none,(some 71),.idxS 1 (.t 57) (.t 59)⟩,
  ⟨none,none,.store 1 (.t 71) (.t 70)⟩]))))))
 (.region false [⟨none,(some 97),.bin .add (.t 54) (.k (.int .i64 1))⟩,
  ⟨none,(some 54),.mov (.t 97)⟩]))))
def zjov (x1 x7 x9 x10 x11 x31 x32 x33 x53 x54:DV) (h:List AObj):St:=⟨[.junk,x1]++js 5++[x7,.junk,x9,x10,x11]++js 19++[x31,x32,x33]++js 19++[x53,x54]++js 50,h⟩
def zcng:ACode :=
 (.seq (.region false [⟨none,(some 34),.bin .lss (.t 33) (.t 32)⟩])
 (.seq (.cond (.t 34) .skip
 (.exit 0))
 (.seq (.block 1 (.seq (.region false [⟨none,(some 35),.idxS 2 (.t 31) (.t 33)⟩,
  ⟨none,(some 36),.load 2 true (.t 35)⟩,
  ⟨none,(some 9),.alloc [(.int .i64 0),(w8 0#8)]⟩,
  ⟨none,none,.store 2 (.t 9) (.t 36)⟩])
 (.seq (.region false [⟨none,(some 37),.load 2 true (.t 9)⟩,
  ⟨none,(some 38),.call (.k (.fn (.func 160) [] [])) [(.t 37)]⟩,
  ⟨none,(some 10),.mov (.t 38)⟩])
 (.seq (.region false [⟨none,(some 39),.mov (.t 1)⟩,
  ⟨none,(some 40),.lenStr (.t 39)⟩,
  ⟨none,(some 41),.bin .add (.t 40) (.k (.int .i64 1))⟩,
  ⟨none,(some 42),.mks 1 1 [(.bool false)] (.t 41) (.t 41)⟩,
  ⟨none,(some 11),.mov (.t 42)⟩])
 (.seq (.region false [⟨none,(some 43),.mov (.t 11)⟩,
  ⟨none,(some 44),.mov (.t 7)⟩,
  ⟨none,(some 45),.idxS 1 (.t 44) (.k (.int .i64 0))⟩,
  ⟨none,(some 46),.load 1 false (.t 45)⟩,
  ⟨none,(some 47),.mov (.t 46)⟩,
  ⟨(some (47,true)),(some 48),.load 2 true (.t 9)⟩,
  ⟨(some (47,true)),(some 49),.call (.k (.fn (.func 161) [] [])) [(.t 48)]⟩,
  ⟨none,(some 50),.pick (.t 47) (.t 49) (.k (.bool false))⟩,
  ⟨none,(some 51),.idxS 1 (.t 43) (.k (.int .i64 0))⟩,
  ⟨none,none,.store 1 (.t 51) (.t 50)⟩])
 (.seq (.seq (.region false [⟨none,(some 52),.mov (.t 1)⟩,
  ⟨none,(some 53),.lenStr (.t 52)⟩,
  ⟨none,(some 54),.mov (.k (.int .i64 0))⟩])
 (.block 2 (.loop zfuq)))
 (.region false [⟨none,(some 98),.mov (.t 11)⟩,
  ⟨none,(some 7),.mov (.t 98)⟩])))))))
 (.region false [⟨none,(some 99),.bin .add (.t 33) (.k (.int .i64 1))⟩,
  ⟨none,(some 33),.mov (.t 99)⟩]))))
def zyf7 (x1 x7 x31 x32 x33:DV) (h:List AObj):St:=⟨[.junk,x1]++js 5++[x7]++js 23++[x31,x32,x33]++js 71,h⟩
def a118:AFn where
 code:=(.seq (.region false [⟨none,(some 4),.mov (.k (.bool false))⟩])
 (.seq (.region false [⟨none,(some 14),.mov (.t 0)⟩,
  ⟨none,(some 15),.call (.k (.fn (.func 131) [] [])) [(.t 14)]⟩,
  ⟨none,(some 13),.mov (.t 15)⟩,
  ⟨none,(some 16),.ext (.t 13) 0⟩,
  ⟨none,(some 17),.ext (.t 13) 1⟩,
  ⟨none,(some 5),.mov (.t 16)⟩,
  ⟨none,(some 6),.mov (.t 17)⟩])
 (.seq (.seq (.region false [⟨none,(some 18),.mov (.t 6)⟩,
  ⟨none,(some 19),.un .not (.t 18)⟩,
  ⟨none,(some 20),.mov (.t 19)⟩,
  ⟨(some (20,false)),(some 21),.mov (.t 1)⟩,
  ⟨(some (20,false)),(some 22),.call (.k (.fn (.func 89) [] [])) [(.t 21)]⟩,
  ⟨(some (20,false)),(some 23),.un .not (.t 22)⟩,
  ⟨none,(some 24),.pick (.t 20) (.k (.bool true)) (.t 23)⟩])
 (.cond (.t 24) (.seq (.region false [⟨none,(some 4),.mov (.k (.bool false))⟩])
 .ret)
 .skip))
 (.seq (.region false [⟨none,(some 25),.mov (.t 1)⟩,
  ⟨none,(some 26),.lenStr (.t 25)⟩,
  ⟨none,(some 27),.bin .add (.t 26) (.k (.int .i64 1))⟩,
  ⟨none,(some 28),.mks 1 1 [(.bool false)] (.t 27) (.t 27)⟩,
  ⟨none,(some 7),.mov (.t 28)⟩])
 (.seq (.region false [⟨none,(some 29),.mov (.t 7)⟩,
  ⟨none,(some 30),.idxS 1 (.t 29) (.k (.int .i64 0))⟩,
  ⟨none,none,.store 1 (.t 30) (.k (.bool true))⟩])
 (.seq (.seq (.region false [⟨none,(some 31),.mov (.t 5)⟩,
  ⟨none,(some 32),.len (.t 31)⟩,
  ⟨none,(some 33),.mov (.k (.int .i64 0))⟩])
 (.block 0 (.loop zcng)))
 (.seq (.region false [⟨none,(some 100),.mov (.t 7)⟩,
  ⟨none,(some 101),.mov (.t 1)⟩,
  ⟨none,(some 102),.lenStr (.t 101)⟩,
  ⟨none,(some 103),.idxS 1 (.t 100) (.t 102)⟩,
  ⟨none,(some 104),.load 1 false (.t 103)⟩,
  ⟨none,(some 4),.mov (.t 104)⟩])
 .ret)))))))
 ntmps:=105
 res:=[.tmp 4]
theorem zasg:zsjc P Tryd.f118=some a118:=by kernel_rfl
def a158:AFn where
 code:=(.seq (.region false [⟨none,(some 2),.mov (.k (.bool false))⟩])
 (.seq (.region false [⟨none,(some 3),.mov (.t 0)⟩,
  ⟨none,(some 4),.bin .eql (.t 3) (.k (.str []))⟩,
  ⟨none,(some 5),.mov (.t 4)⟩,
  ⟨(some (5,false)),(some 6),.mov (.t 0)⟩,
  ⟨(some (5,false)),(some 7),.call (.k (.fn (.func 89) [] [])) [(.t 6)]⟩,
  ⟨none,(some 8),.pick (.t 5) (.k (.bool true)) (.t 7)⟩,
  ⟨none,(some 2),.mov (.t 8)⟩])
 .ret))
 ntmps:=9
 res:=[.tmp 2]
theorem z0bv:zsjc P Tryd.f158=some a158:=by kernel_rfl
def a117:AFn where
 code:=(.seq (.region false [⟨none,(some 6),.mov (.k (.str []))⟩,
  ⟨none,(some 7),.mov (.k (.bool false))⟩])
 (.seq (.seq (.region false [⟨none,(some 10),.mov (.t 0)⟩,
  ⟨none,(some 11),.call (.k (.fn (.func 158) [] [])) [(.t 10)]⟩,
  ⟨none,(some 12),.un .not (.t 11)⟩,
  ⟨none,(some 13),.mov (.t 12)⟩,
  ⟨(some (13,false)),(some 14),.mov (.t 1)⟩,
  ⟨(some (13,false)),(some 15),.call (.k (.fn (.func 158) [] [])) [(.t 14)]⟩,
  ⟨(some (13,false)),(some 16),.un .not (.t 15)⟩,
  ⟨none,(some 17),.pick (.t 13) (.k (.bool true)) (.t 16)⟩,
  ⟨none,(some 18),.mov (.t 17)⟩,
  ⟨(some (18,false)),(some 19),.mov (.t 2)⟩,
  ⟨(some (18,false)),(some 20),.call (.k (.fn (.func 89) [] [])) [(.t 19)]⟩,
  ⟨(some (18,false)),(some 21),.un .not (.t 20)⟩,
  ⟨none,(some 22),.pick (.t 18) (.k (.bool true)) (.t 21)⟩])
 (.cond (.t 22) (.seq (.region false [⟨none,(some 6),.mov (.k (.str []))⟩,
  ⟨none,(some 7),.mov (.k (.bool false))⟩])
 .ret)
 .skip))
 (.seq (.region false [⟨none,(some 23),.mov (.t 2)⟩,
  ⟨none,(some 8),.mov (.t 23)⟩])
 (.seq (.seq (.region false [⟨none,(some 24),.mov (.t 0)⟩,
  ⟨none,(some 25),.bin .neq (.t 24) (.k (.str []))⟩])
 (.cond (.t 25) (.seq (.region false [⟨none,(some 9),.mov (.k (.bool false))⟩])
 (.seq (.region false [⟨none,(some 27),.mov (.t 2)⟩,
  ⟨none,(some 28),.mov (.t 0)⟩,
  ⟨none,(some 29),.bin .add (.t 28) (.k (.str [47]))⟩,
  ⟨none,(some 30),.call (.k (.fn (.func 159) [] [])) [(.t 27),(.t 29)]⟩,
  ⟨none,(some 26),.mov (.t 30)⟩,
  ⟨none,(some 31),.ext (.t 26) 0⟩,
  ⟨none,(some 32),.ext (.t 26) 1⟩,
  ⟨none,(some 8),.mov (.t 31)⟩,
  ⟨none,(some 9),.mov (.t 32)⟩])
 (.seq (.region false [⟨none,(some 33),.mov (.t 9)⟩,
  ⟨none,(some 34),.un .not (.t 33)⟩])
 (.cond (.t 34) (.seq (.region false [⟨none,(some 6),.mov (.k (.str []))⟩,
  ⟨none,(some 7),.mov (.k (.bool false))⟩])
 .ret)
 .skip))))
 .skip))
 (.seq (.seq (.region false [⟨none,(some 35),.mov (.t 1)⟩,
  ⟨none,(some 36),.bin .neq (.t 35) (.k (.str []))⟩])
 (.cond (.t 36) (.region false [⟨none,(some 37),.mov (.t 1)⟩,
  ⟨none,(some 38),.bin .add (.t 37) (.k (.str [47]))⟩,
  ⟨none,(some 39),.mov (.t 8)⟩,
  ⟨none,(some 40),.bin .add (.t 38) (.t 39)⟩,
  ⟨none,(some 8),.mov (.t 40)⟩])
 .skip))
 (.seq (.seq (.region false [⟨none,(some 41),.mov (.t 8)⟩,
  ⟨none,(some 42),.call (.k (.fn (.func 89) [] [])) [(.t 41)]⟩,
  ⟨none,(some 43),.un .not (.t 42)⟩])
 (.cond (.t 43) (.seq (.region false [⟨none,(some 6),.mov (.k (.str []))⟩,
  ⟨none,(some 7),.mov (.k (.bool false))⟩])
 .ret)
 .skip))
 (.seq (.region false [⟨none,(some 44),.mov (.t 8)⟩,
  ⟨none,(some 6),.mov (.t 44)⟩,
  ⟨none,(some 7),.mov (.k (.bool true))⟩])
 .ret)))))))
 ntmps:=45
 res:=[.tmp 6,.tmp 7]
theorem zt1q:zsjc P Tryd.f117=some a117:=by kernel_rfl
end Go.Proofs.YtjknipdiglpnlaaDoor
set_option linter.unusedSimpArgs false
set_option linter.unusedVariables false
namespace Go.Proofs.YtjknipdiglpnlaaDoor
open Go Go.Am
theorem zpwu {a b c:ARes} {t:List DV} {h:List AObj}:outD [a,b,c] t h=(resD t h a).bind fun x=>(resD t h b).bind fun y=>(resD t h c).bind fun z=>snap h 3 (.tup [x,y,z]):=by
 simp only [outD,zxgc,zp5p,z2gc]
 cases resD t h a<;>cases resD t h b<;>cases resD t h c<;>rfl
attribute [simp] zpwu
def cS (g:List UInt8→DV):List DV→Option DV
 | [.str s]=>some (g s)|_=>none
def cSS (g:List UInt8→List UInt8→DV):List DV→Option DV
 | [.str s,.str p]=>some (g s p)|_=>none
def cSSS (g:List UInt8→List UInt8→List UInt8→DV):List DV→Option DV
 | [.str s,.str p,.str q]=>some (g s p q)|_=>none
def cS1 (g:List UInt8→UInt8→DV):List DV→Option DV
 | [.str s,.str [c]]=>some (g s c)|_=>none
def cS1b (g:List UInt8→UInt8→DV):List DV→Option DV
 | [.str s,.str [c]]=>if s.length≤100000 then some (g s c) else none|_=>none
def cSB (g:List UInt8→B8→DV):List DV→Option DV
 | [.str s,.int .u8 n]=>if 0≤n∧n<256 then some (g s (BitVec.ofInt 8 n)) else none|_=>none
theorem zk5k {g s}:cS g [.str s]=some (g s):=rfl
theorem z5o0 {g s p}:cSS g [.str s,.str p]=some (g s p):=rfl
theorem zfnp {g s p q}:cSSS g [.str s,.str p,.str q]=some (g s p q):=rfl
theorem z8u6 {g s c}:cS1 g [.str s,.str [c]]=some (g s c):=rfl
theorem zutz {g s c} (h:s.length≤100000):cS1b g [.str s,.str [c]]=some (g s c):=if_pos h
theorem zexc (c:B8):BitVec.ofInt 8 (c.toNat:Int)=c:=by simp
theorem zvdo {g s c}:cSB g [.str s,w8 c]=some (g s c):=by
 have:=c.isLt
 show (if 0≤(c.toNat:Int)∧(c.toNat:Int)<256 then some (g s (BitVec.ofInt 8 (c.toNat:Int))) else none)=_
 rw [if_pos (by omega),zexc]
theorem zzn8 {f:Nat} {g:List UInt8→DV} (h : ∀ s,Am.Sem P f [.str s] (g s)):(Con.pure (cS g)).Sound P f:=by
 intro args v e
 unfold cS at e
 split at e
 ·simp at e; subst e; exact h _
 ·simp at e
theorem zd7v {f:Nat} {g:List UInt8→List UInt8→DV} (h : ∀ s p,Am.Sem P f [.str s,.str p] (g s p)):(Con.pure (cSS g)).Sound P f:=by
 intro args v e
 unfold cSS at e
 split at e
 ·simp at e; subst e; exact h _ _
 ·simp at e
theorem ztgs {f:Nat} {g:List UInt8→List UInt8→List UInt8→DV} (h : ∀ s p q,Am.Sem P f [.str s,.str p,.str q] (g s p q)):(Con.pure (cSSS g)).Sound P f:=by
 intro args v e
 unfold cSSS at e
 split at e
 ·simp at e; subst e; exact h _ _ _
 ·simp at e
theorem zpzi {f:Nat} {g:List UInt8→UInt8→DV} (h : ∀ s c,Am.Sem P f [.str s,.str [c]] (g s c)):(Con.pure (cS1 g)).Sound P f:=by
 intro args v e
 unfold cS1 at e
 split at e
 ·simp at e; subst e; exact h _ _
 ·simp at e
theorem zb66 {f:Nat} {g:List UInt8→UInt8→DV} (h : ∀ s c,s.length≤100000→Am.Sem P f [.str s,.str [c]] (g s c)):(Con.pure (cS1b g)).Sound P f:=by
 intro args v e
 unfold cS1b at e
 split at e
 ·split at e
  ·rename_i hl; simp at e; subst e; exact h _ _ hl
  ·simp at e
 ·simp at e
theorem zboo {f:Nat} {g:List UInt8→B8→DV} (h : ∀ s c,Am.Sem P f [.str s,w8 c] (g s c)):(Con.pure (cSB g)).Sound P f:=by
 intro args v e
 unfold cSB at e
 split at e
 ·rename_i s n
  split at e
  ·rename_i hn
   simp at e; subst e
   have:=h s (BitVec.ofInt 8 n)
   have e2:w8 (BitVec.ofInt 8 n) = .int .u8 n:=by
    unfold w8
    have:((BitVec.ofInt 8 n).toNat:Int)=n:=by rw [BitVec.toNat_ofInt]; simp; omega
    rw [this]
   rwa [e2] at this
  ·simp at e
 ·simp at e
def ixD (s:List UInt8) (c:B8):DV := .int .i64 (Lib.indexByte s c.toNat.toUInt8)
def ix1 (s:List UInt8) (c:UInt8):DV := .int .i64 (Lib.indexByte s c)
def T50:Tbl:=addT 183 (.pure (cSB ixD)) tbl0
theorem zbvx:T50 183 = .pure (cSB ixD):=by simp [T50]
theorem z3fz:T50.Sound P:=z0rp (zboo fun s c=>zrq5 Tryd.func183 (by kernel_rfl) (by kernel_rfl) (by kernel_rfl) (by kernel_rfl) s c) zr5o
theorem z4gm (s:List UInt8) (c:B8):Runs T50 a164 [.str s,w8 c] (ixD s c):=by
 refine ⟨?_⟩
 simp (disch:=first|omega|simp<;>omega|fail) [-zA,-zB,-zC,-zD,-zE,a164,zbvx,zvdo,ixD]
def T51:Tbl:=addT 164 (.pure (cSB ixD)) T50
theorem zqfn:T51 164 = .pure (cSB ixD):=by simp [T51]
theorem zw21:T51.Sound P:=z0rp (zboo fun s c=>zljw mix z3fz Tryd.func164 zab2 (z4gm s c)) z3fz
theorem zbfo (s:List UInt8) (c:B8):Runs T51 a138 [.str s,w8 c] (ixD s c):=by
 refine ⟨?_⟩
 simp (disch:=first|omega|simp<;>omega|fail) [-zA,-zB,-zC,-zD,-zE,a138,zqfn,zvdo,ixD]
theorem zunq (s:List UInt8) (c:UInt8):Runs T51 a178 [.str s,.str [c]] (ix1 s c):=by
 refine ⟨?_⟩
 by_cases h:[c]=s
 ·subst h
  simp (disch:=first|omega|simp<;>omega|fail) [-zA,-zB,-zC,-zD,-zE,a178,ix1,Lib.indexByte]
 ·simp (disch:=first|omega|simp<;>omega|fail) [-zA,-zB,-zC,-zD,-zE,a178,h,zqfn,zvdo,ixD,ix1,zq22]
def T52:Tbl:=addT 178 (.pure (cS1 ix1)) T51
theorem zcmd:T52 178 = .pure (cS1 ix1):=by simp [T52]
theorem zyuf:T52.Sound P:=z0rp (zpzi fun s c=>zljw mix zw21 Tryd.func178 zh1o (zunq s c)) zw21
theorem zazq (s:List UInt8) (c:UInt8):Runs T52 a156 [.str s,.str [c]] (ix1 s c):=by
 refine ⟨?_⟩
 simp (disch:=first|omega|simp<;>omega|fail) [-zA,-zB,-zC,-zD,-zE,a156,zcmd,z8u6,ix1]
def cutR (s:List UInt8) (c:UInt8):DV :=
 if Lib.indexByte s c = -1 then .tup [.str s,.str [],.bool false] else .tup [.str (s.take (Lib.indexByte s c).toNat),.str (s.drop ((Lib.indexByte s c).toNat+1)),.bool true]
theorem z4vy {s:List UInt8} {c:UInt8}:Lib.indexByte s c<s.length:=by
 have hg:=Lib.indexByte_ge s c
 by_cases h:Lib.indexByte s c = -1
 ·omega
 ·have:=z8bu (s:=s) (c:=c) (o:=(Lib.indexByte s c).toNat) (by omega)
  omega
theorem zubo (s:List UInt8) (c:UInt8) (hs:s.length≤100000):Runs T52 a165 [.str s,.str [c]] (cutR s c):=by
 refine ⟨?_⟩
 have hg:=Lib.indexByte_ge s c
 have hlt:=z4vy (s:=s) (c:=c)
 by_cases h:Lib.indexByte s c = -1
 ·simp (disch:=first|omega|simp<;>omega|fail) [-zA,-zB,-zC,-zD,-zE,a165,zcmd,z8u6,ix1,h,cutR]
 ·obtain ⟨o,ho⟩ : ∃ o:Nat,Lib.indexByte s c=o:=⟨(Lib.indexByte s c).toNat,by omega⟩
  rw [ho] at hlt
  have h0:(0:Int)≤o:=by omega
  have hn:¬ (o:Int) = -1:=by omega
  have ho1:o≤s.length:=by omega
  have ho2:o+1≤s.length:=by omega
  have ho3:(o:Int)+1≤s.length:=by omega
  have e1:((o:Int)+1).toNat=o+1:=by omega
  have ht:(s.drop (o+1)).take (s.length-(o+1))=s.drop (o+1):=List.take_of_length_le (by simp)
  simp (disch:=first|omega|simp<;>omega|fail) [-zA,-zB,-zC,-zD,-zE,a165,zcmd,z8u6,ix1,ho,h0,hn,ho1,ho2,ho3,e1,ht,cutR]
def T54:Tbl:=addT 165 (.pure (cS1b cutR)) tbl0
theorem zjck:T54 165 = .pure (cS1b cutR):=by simp [T54]
theorem zjvy:T54.Sound P:=z0rp (zb66 fun s c h=>zljw mix zyuf Tryd.func165 zmc9 (zubo s c h)) zr5o
theorem zmgr (s:List UInt8) (c:UInt8) (hs:s.length≤100000):Runs T54 a139 [.str s,.str [c]] (cutR s c):=by
 refine ⟨?_⟩
 by_cases h:Lib.indexByte s c = -1
 ·simp (disch:=first|omega|simp<;>omega|fail) [-zA,-zB,-zC,-zD,-zE,a139,zjck,zutz hs,cutR,h]
 ·simp (disch:=first|omega|simp<;>omega|fail) [-zA,-zB,-zC,-zD,-zE,a139,zjck,zutz hs,cutR,h]
def hpD (s p:List UInt8):DV := .bool (decide (s.take p.length=p))
theorem zhxj (s p:List UInt8):Runs tbl0 a190 [.str s,.str p] (hpD s p):=by
 refine ⟨?_⟩
 by_cases h:p.length≤s.length
 ·have h1:(p.length:Int)≤s.length:=by omega
  simp (disch:=first|omega|simp<;>omega|fail) [-zA,-zB,-zC,-zD,-zE,a190,h1,h,hpD]
 ·have h1:¬ (p.length:Int)≤s.length:=by omega
  have h2:¬ s.take p.length=p:=fun e=>by have:=congrArg List.length e; simp at this; omega
  simp (disch:=first|omega|simp<;>omega|fail) [-zA,-zB,-zC,-zD,-zE,a190,h1,h,h2,hpD]
def T55:Tbl:=addT 190 (.pure (cSS hpD)) tbl0
theorem zakv:T55 190 = .pure (cSS hpD):=by simp [T55]
theorem z02n:T55.Sound P:=z0rp (zd7v fun s p=>zljw mix zr5o Tryd.func190 z4jb (zhxj s p)) zr5o
def cutD (s p:List UInt8):DV:=if s.take p.length=p then .tup [.str (s.drop p.length),.bool true] else .tup [.str s,.bool false]
theorem zzo3 (s p:List UInt8):Runs T55 a179 [.str s,.str p] (cutD s p):=by
 refine ⟨?_⟩
 by_cases h:s.take p.length=p
 ·have hl:p.length≤s.length:=by have:=congrArg List.length h; simp at this; omega
  have ht:(s.drop p.length).take (s.length-p.length)=s.drop p.length:=List.take_of_length_le (by simp)
  simp (disch:=first|omega|simp<;>omega|fail) [-zA,-zB,-zC,-zD,-zE,a179,zakv,z5o0,hpD,h,cutD,hl,ht]
 ·simp (disch:=first|omega|simp<;>omega|fail) [-zA,-zB,-zC,-zD,-zE,a179,zakv,z5o0,hpD,h,cutD]
def T56:Tbl:=addT 179 (.pure (cSS cutD)) tbl0
theorem zlrc:T56 179 = .pure (cSS cutD):=by simp [T56]
theorem z4p0:T56.Sound P:=z0rp (zd7v fun s p=>zljw mix z02n Tryd.func179 zb5n (zzo3 s p)) zr5o
theorem zgsw (s p:List UInt8):Runs T56 a159 [.str s,.str p] (cutD s p):=by
 refine ⟨?_⟩
 by_cases h:s.take p.length=p
 ·simp (disch:=first|omega|simp<;>omega|fail) [-zA,-zB,-zC,-zD,-zE,a159,zlrc,z5o0,h,cutD]
 ·simp (disch:=first|omega|simp<;>omega|fail) [-zA,-zB,-zC,-zD,-zE,a159,zlrc,z5o0,h,cutD]
end Go.Proofs.YtjknipdiglpnlaaDoor
set_option linter.unusedSimpArgs false
set_option linter.unusedVariables false
namespace Go.Proofs.YtjknipdiglpnlaaDoor
open Go Go.Am
def za1j (s:List UInt8):DV := .bool (zj1f s)
def T57:Tbl:=addT 138 (.pure (cSB ixD)) (addT 139 (.pure (cS1b cutR)) tbl0)
theorem zogw:T57 138 = .pure (cSB ixD):=by simp [T57]
theorem zhm1:T57 139 = .pure (cS1b cutR):=by simp [T57]
theorem zhpa:T57.Sound P:=z0rp (zboo fun s c=>zljw mix zw21 Tryd.func138 zno0 (zbfo s c)) (z0rp (zb66 fun s c h=>zljw mix zjvy Tryd.func139 zt91 (zmgr s c h)) zr5o)
theorem ixD0 (s:List UInt8):cSB ixD [.str s,w8 0#8]=some (.int .i64 (Lib.indexByte s 0)):=zvdo
theorem zy3p {s:List UInt8} (h:Lib.indexByte s 0 ≠ -1):0≤Lib.indexByte s 0:=by have:=Lib.indexByte_ge s 0; omega
theorem zk50 {s:List UInt8} (h:Lib.indexByte s 0 = -1):noZ s=true:=by rw [zc5k,h]; rfl
theorem z5fc {s:List UInt8} (h:Lib.indexByte s 0 ≠ -1):noZ s=false:=by rw [zc5k]; simp [h]
def S9 (x:List UInt8 × Bool):St:=zlqy (.str x.1) (.bool x.2) []
def m9 (x:List UInt8 × Bool):Nat:=x.1.length+(if x.2=true then 1 else 0)
def R9 (s:List UInt8) (x:List UInt8 × Bool):Prop:=x.1.length≤200∧(x.2=true→zj1f s=(z2fg x.1).all okC)∧(x.2=false→zj1f s=true)
theorem z08u (s:List UInt8):Runs T57 a89 [.str s] (za1j s):=by
 refine ⟨?_⟩
 by_cases h1:s.length<1
 ·have h1':(s.length:Int)<1:=by omega
  have hp:zj1f s=false:=by simp [zj1f]; omega
  simp (disch:=first|omega|simp<;>omega|fail) [-zA,-zB,-zC,-zD,-zE,a89,h1',za1j,hp]
 have h1':¬ (s.length:Int)<1:=by omega
 by_cases h2:200<s.length
 ·have h2':(200:Int)<s.length:=by omega
  have hp:zj1f s=false:=by simp [zj1f]; omega
  simp (disch:=first|omega|simp<;>omega|fail) [-zA,-zB,-zC,-zD,-zE,a89,h1',h2',za1j,hp]
 have h2':¬ (200:Int)<s.length:=by omega
 by_cases h3:Lib.indexByte s 0 = -1
 case neg =>
  have h3':=zy3p h3
  have hp:zj1f s=false:=by simp [zj1f,z5fc h3]
  simp (disch:=first|omega|simp<;>omega|fail) [-zA,-zB,-zC,-zD,-zE,a89,h1',h2',zogw,ixD0,h3',za1j,hp]
 have hp:zj1f s=(z2fg s).all okC:=by
  have g1:1≤s.length:=by omega
  have g2:s.length≤200:=by omega
  simp only [zj1f,g1,g2,zk50 h3,decide_true,Bool.true_and]
 simp (disch:=first|omega|simp<;>omega|fail) [-zA,-zB,-zC,-zD,-zE,a89,h1',h2',zogw,ixD0,h3]
 refine zlm5 S9 m9 (R9 s) (s,true) (z515 (by simp (disch:=first|omega|simp<;>omega|fail) [-zA,-zB,-zC,-zD,-zE]) (by simp (disch:=first|omega|simp<;>omega|fail) [-zA,-zB,-zC,-zD,-zE])) ⟨by show s.length≤200; omega,fun _=>hp,by simp⟩ (fun x hx => ?_)
 obtain ⟨r,more⟩:=x
 obtain ⟨hr,ha,hb⟩:=hx
 simp only at hr ha hb
 simp (disch:=first|omega|simp<;>omega|fail) [-zA,-zB,-zC,-zD,-zE,z3yv,zlqy,S9]
 cases more with
 | false =>
  have hb:=hb rfl
  simp (disch:=first|omega|simp<;>omega|fail) [-zA,-zB,-zC,-zD,-zE,za1j,hb]
 | true =>
  have ha:=ha rfl
  have hc:=zutz (g:=cutR) (s:=r) (c:=47) (by omega)
  by_cases hi:Lib.indexByte r 47 = -1
  ·rw [cutR,if_pos hi] at hc
   rw [zbf3 hi] at ha
   by_cases e1:r=[]
   ·have hq:zj1f s=false:=by rw [ha,e1]; rfl
    subst e1
    simp (disch:=first|omega|simp<;>omega|fail) [-zA,-zB,-zC,-zD,-zE,zhm1,hc,za1j,hq]
   ·by_cases e2:r=[46]
    ·have hq:zj1f s=false:=by rw [ha,e2]; rfl
     subst e2
     simp (disch:=first|omega|simp<;>omega|fail) [-zA,-zB,-zC,-zD,-zE,zhm1,hc,za1j,hq]
    ·by_cases e3:r=[46,46]
     ·have hq:zj1f s=false:=by rw [ha,e3]; rfl
      subst e3
      simp (disch:=first|omega|simp<;>omega|fail) [-zA,-zB,-zC,-zD,-zE,zhm1,hc,za1j,hq]
     ·have hq:zj1f s=true:=by rw [ha]; simp [okC,e1,e2,e3]
      simp (disch:=first|omega|simp<;>omega|fail) [-zA,-zB,-zC,-zD,-zE,zhm1,hc,e1,e2,e3]
      exact ⟨[],.inl ⟨z515 (by simp (disch:=first|omega|simp<;>omega|fail) [-zA,-zB,-zC,-zD,-zE]) (by simp (disch:=first|omega|simp<;>omega|fail) [-zA,-zB,-zC,-zD,-zE]),by simp [m9],by simp [R9,hq]⟩⟩
  ·obtain ⟨o,ho⟩ : ∃ o:Nat,Lib.indexByte r 47=o:=⟨(Lib.indexByte r 47).toNat,by have:=Lib.indexByte_ge r 47; omega⟩
   have hlt:=z8bu ho
   rw [cutR,if_neg hi,ho] at hc
   rw [zjoj ho] at ha
   simp only [Int.toNat_natCast] at hc
   obtain ⟨y,hy⟩ : ∃ y,r.take o=y:=⟨_,rfl⟩
   rw [hy] at hc ha
   by_cases e1:y=[]
   ·have hq:zj1f s=false:=by rw [ha,e1]; rfl
    subst e1
    simp (disch:=first|omega|simp<;>omega|fail) [-zA,-zB,-zC,-zD,-zE,zhm1,hc,za1j,hq]
   ·by_cases e2:y=[46]
    ·have hq:zj1f s=false:=by rw [ha,e2]; rfl
     subst e2
     simp (disch:=first|omega|simp<;>omega|fail) [-zA,-zB,-zC,-zD,-zE,zhm1,hc,za1j,hq]
    ·by_cases e3:y=[46,46]
     ·have hq:zj1f s=false:=by rw [ha,e3]; rfl
      subst e3
      simp (disch:=first|omega|simp<;>omega|fail) [-zA,-zB,-zC,-zD,-zE,zhm1,hc,za1j,hq]
     ·have hq:zj1f s=(z2fg (r.drop (o+1))).all okC:=by rw [ha]; simp [okC,e1,e2,e3]
      simp (disch:=first|omega|simp<;>omega|fail) [-zA,-zB,-zC,-zD,-zE,zhm1,hc,e1,e2,e3]
      exact ⟨r.drop (o+1),.inr ⟨z515 (by simp (disch:=first|omega|simp<;>omega|fail) [-zA,-zB,-zC,-zD,-zE]) (by simp (disch:=first|omega|simp<;>omega|fail) [-zA,-zB,-zC,-zD,-zE]),by simp [m9]; omega,by simp only [List.length_drop]; omega,fun _=>hq,by simp⟩⟩
end Go.Proofs.YtjknipdiglpnlaaDoor
set_option linter.unusedSimpArgs false
set_option linter.unusedVariables false
namespace Go.Proofs.YtjknipdiglpnlaaDoor
open Go Go.Am
def ptC (x:Pt):List DV:=[.int .i64 x.kind,w8 x.chr]
def z6j5 (l:List Pt):List DV:=l.flatMap ptC
theorem z4u6 : ∀ (l:List Pt),(z6j5 l).length=2*l.length
 | []=>rfl
 | x::l=>by have:=z4u6 l; simp only [z6j5,List.flatMap_cons,List.length_append,ptC,List.length_cons,List.length_nil] at *; omega
theorem zip6 (l:List Pt) (x:Pt):z6j5 (l++[x])=z6j5 l++ptC x:=by simp [z6j5]
theorem zbvb {l:List Pt} (h:l≠[]):z6j5 l≠[]:=by
 intro e
 have:=z4u6 l
 rw [e] at this
 have:l.length=0:=by simp at this; omega
 exact h (List.length_eq_zero_iff.1 this)
theorem zcb5 : ∀ (l:List Pt),zbao (z6j5 l)=true
 | []=>rfl
 | x::l=>by
  have:=zcb5 l
  simp only [z6j5,List.flatMap_cons,ptC,List.cons_append,List.nil_append] at this ⊢
  simp [zbao,this,zyp8,w8]
theorem zyoh (h:List AObj) (k:Nat) (l:List Pt):z4tt h k (z6j5 l)=some (z6j5 l):=z619 (zcb5 l)
theorem zmw4 {c:UInt8} (h1:c≠92) (h2:c≠42) (h3:c≠63) (r:List UInt8):prs (c::r)=(prs r).map fun l => .one c.toBitVec::l:=zbr2 h1 h2 h3 r
theorem z28c (r:List UInt8):prs (63::r)=(prs r).map fun l => .dot::l:=by rw [prs.eq_def]; simp
theorem zt8b:prs [92]=none:=rfl
theorem zkwm:prs [42] = .some [.some]:=rfl
theorem zqqt (r:List UInt8):prs (42::42::r)=(prs r).map fun l => .whole::l:=by rw [prs.eq_def]; simp
theorem zpjv {d:UInt8} (h:d≠42) (r:List UInt8):prs (42::d::r)=(prs (d::r)).map fun l => .some::l:=by
 have g:d.toBitVec≠42#8:=zejk h
 rw [prs.eq_def]; simp [g]
def zoby:Option (List Pt)→DV
 | none => .tup [.nils,.bool false]
 | .some l => .tup [.sl false 2 l.length (z6j5 l),.bool true]
theorem zfht {s:List UInt8} {l:List Pt} (h0:s≠[]) (h:prs s = .some l):l≠[]:=by
 rintro rfl
 match s,h0 with
 | c::r,_ =>
  by_cases h1:c=92
  ·subst h1
   match r with
   | []=>simp [zt8b] at h
   | d::r=>rw [z32i] at h; cases e:prs r<;>simp [e] at h
  ·by_cases h2:c=42
   ·subst h2
    match r with
    | []=>simp [zkwm] at h
    | d::r =>
     by_cases h3:d=42
     ·subst h3; rw [zqqt] at h; cases e:prs r<;>simp [e] at h
     ·rw [zpjv h3] at h; cases e:prs (d::r)<;>simp [e] at h
   ·by_cases h3:c=63
    ·subst h3; rw [z28c] at h; cases e:prs r<;>simp [e] at h
    ·rw [zmw4 h1 h2 h3] at h; cases e:prs r<;>simp [e] at h
structure X15 where
 l:List Pt
 i:Nat
def S15 (p:List UInt8) (x:X15):St:=zc10 (.str p) (ownD 0 2 .nils x.l.length (z6j5 x.l)) (.int .i64 x.i) (ownH (z6j5 x.l))
def m15 (p:List UInt8) (x:X15):Nat:=p.length-x.i
def R15 (p:List UInt8) (x:X15):Prop:=x.i≤p.length∧x.l.length≤x.i∧prs p=(prs (p.drop x.i)).map fun l=>x.l++l
theorem zq8c {p:List UInt8} {x:X15} (h:R15 p x) {n:Nat} {y:Pt} (hn:x.i<n) (hn':n≤p.length) (e:prs (p.drop x.i)=(prs (p.drop n)).map fun l=>y::l):R15 p ⟨x.l++[y],n⟩:=by
 obtain ⟨h1,h2,h3⟩:=h
 refine ⟨hn',by simp; omega,?_⟩
 rw [h3,e]
 cases prs (p.drop n)<;>simp
theorem zw4m {c:UInt8} {n:UInt8}:c.toBitVec=n.toBitVec↔c=n:=UInt8.toBitVec_inj
theorem z9ia {k:Int}:zvnk [.int .i64 0,w8 0#8] [(0,1,.int .i64 k)]=some (.agg [.int .i64 k,w8 0#8]):=rfl
theorem ztmv (p:List UInt8):Runs T57 a131 [.str p] (zoby (zfn1 p)):=by
 refine ⟨?_⟩
 by_cases h1:p.length<1
 ·have h1':(p.length:Int)<1:=by omega
  have hp:zfn1 p=none:=by rw [zfn1,if_neg (by omega)]
  simp (disch:=first|omega|simp<;>omega|fail) [-zA,-zB,-zC,-zD,-zE,a131,h1',hp,zoby]
 have h1':¬ (p.length:Int)<1:=by omega
 by_cases h2:200<p.length
 ·have h2':(200:Int)<p.length:=by omega
  have hp:zfn1 p=none:=by rw [zfn1,if_neg (by omega)]
  simp (disch:=first|omega|simp<;>omega|fail) [-zA,-zB,-zC,-zD,-zE,a131,h1',h2',hp,zoby]
 have h2':¬ (200:Int)<p.length:=by omega
 by_cases h3:Lib.indexByte p 0 = -1
 case neg =>
  have h3':=zy3p h3
  have hp:zfn1 p=none:=by rw [zfn1,if_neg (by rw [z5fc h3]; simp)]
  simp (disch:=first|omega|simp<;>omega|fail) [-zA,-zB,-zC,-zD,-zE,a131,h1',h2',zogw,ixD0,h3',hp,zoby]
 have hp:zfn1 p=prs p:=by rw [zfn1,if_pos ⟨by omega,by omega,zk50 h3⟩]
 simp (disch:=first|omega|simp<;>omega|fail) [-zA,-zB,-zC,-zD,-zE,a131,h1',h2',zogw,ixD0,h3]
 refine zlm5 (S15 p) (m15 p) (R15 p) ⟨[],0⟩ (z515 (by simp (disch:=first|omega|simp<;>omega|fail) [-zA,-zB,-zC,-zD,-zE,ownD,z6j5]) (by simp (disch:=first|omega|simp<;>omega|fail) [-zA,-zB,-zC,-zD,-zE,ownH,z6j5])) ⟨by simp,by simp,by simp⟩ (fun x hx => ?_)
 obtain ⟨l,i⟩:=x
 have hx':=hx
 obtain ⟨hi,hl,hpr⟩:=hx'
 simp only at hi hl hpr
 have hlen:=z4u6 l
 simp (disch:=first|omega|simp<;>omega|fail) [-zA,-zB,-zC,-zD,-zE,zd5j,zc10,S15]
 by_cases h:i<p.length
 ·have h4:(i:Int)<p.length:=by omega
  have hd:p.drop i=p[i]::p.drop (i+1):=List.drop_eq_getElem_cons h
  have e12:(i:Int)+1+1=i+2:=by omega
  by_cases c1:p[i]=92
  ·have b1:p[i].toBitVec=92#8:=zw4m.2 c1
   have b1q:(p[i].toBitVec == 92#8)=true:=by simp [b1]
   by_cases h5:i+1=p.length
   ·have h5':(i:Int)+1=p.length:=by omega
    have hq:prs p=none:=by rw [hpr,hd,c1,List.drop_eq_nil_of_le (by omega),zt8b]; rfl
    simp (disch:=first|omega|simp<;>omega|fail) [-zA,-zB,-zC,-zD,-zE,z9ia,h4,h,b1,b1q,h5',hp,hq,zoby]
   ·have h5':¬ (i:Int)+1=p.length:=by omega
    have h6:i+1<p.length:=by omega
    have hd2:p.drop (i+1)=p[i+1]::p.drop (i+2):=List.drop_eq_getElem_cons h6
    have hs:=zq8c (n:=i+2) (y := .one p[i+1].toBitVec) hx (by simp) (by omega) (by show prs (p.drop i)=_; rw [hd,hd2,c1,z32i])
    simp (disch:=first|omega|simp<;>omega|fail) [-zA,-zB,-zC,-zD,-zE,z9ia,h4,h,b1,b1q,h5',h6,hlen,e12]
    exact ⟨⟨l++[.one p[i+1].toBitVec],i+2⟩,z515 (by simp (disch:=first|omega|simp<;>omega|fail) [-zA,-zB,-zC,-zD,-zE,e12,zip6,ptC,Pt.kind,Pt.chr]) (by simp (disch:=first|omega|simp<;>omega|fail) [-zA,-zB,-zC,-zD,-zE,zip6,ptC,Pt.kind,Pt.chr]),by simp [m15]; omega,hs⟩
  ·have b1:¬ p[i].toBitVec=92#8:=fun e=>c1 (zw4m.1 e)
   have b1q:(p[i].toBitVec == 92#8)=false:=by simp [b1]
   by_cases c2:p[i]=63
   ·have b2:p[i].toBitVec=63#8:=zw4m.2 c2
    have b2q:(p[i].toBitVec == 63#8)=true:=by simp [b2]
    have hs:=zq8c (n:=i+1) (y := .dot) hx (by simp) (by omega) (by show prs (p.drop i)=_; rw [hd,c2,z28c])
    simp (disch:=first|omega|simp<;>omega|fail) [-zA,-zB,-zC,-zD,-zE,z9ia,h4,h,b1,b1q,b2,b2q,hlen]
    exact ⟨⟨l++[.dot],i+1⟩,z515 (by simp (disch:=first|omega|simp<;>omega|fail) [-zA,-zB,-zC,-zD,-zE,e12,zip6,ptC,Pt.kind,Pt.chr]) (by simp (disch:=first|omega|simp<;>omega|fail) [-zA,-zB,-zC,-zD,-zE,zip6,ptC,Pt.kind,Pt.chr]),by simp [m15]; omega,hs⟩
   ·have b2:¬ p[i].toBitVec=63#8:=fun e=>c2 (zw4m.1 e)
    have b2q:(p[i].toBitVec == 63#8)=false:=by simp [b2]
    by_cases c3:p[i]=42
    ·have b3:p[i].toBitVec=42#8:=zw4m.2 c3
     have b3q:(p[i].toBitVec == 42#8)=true:=by simp [b3]
     by_cases h6:i+1<p.length
     ·have h6':(i:Int)+1<p.length:=by omega
      have hd2:p.drop (i+1)=p[i+1]::p.drop (i+2):=List.drop_eq_getElem_cons h6
      by_cases c4:p[i+1]=42
      ·have b4:p[i+1].toBitVec=42#8:=zw4m.2 c4
       have b4q:(p[i+1].toBitVec == 42#8)=true:=by simp [b4]
       have hs:=zq8c (n:=i+2) (y := .whole) hx (by simp) (by omega) (by show prs (p.drop i)=_; rw [hd,hd2,c3,c4,zqqt])
       simp (disch:=first|omega|simp<;>omega|fail) [-zA,-zB,-zC,-zD,-zE,z9ia,h4,h,b1,b1q,b2,b2q,b3,b3q,h6,h6',b4,b4q,hlen,e12]
       exact ⟨⟨l++[.whole],i+2⟩,z515 (by simp (disch:=first|omega|simp<;>omega|fail) [-zA,-zB,-zC,-zD,-zE,e12,zip6,ptC,Pt.kind,Pt.chr]) (by simp (disch:=first|omega|simp<;>omega|fail) [-zA,-zB,-zC,-zD,-zE,zip6,ptC,Pt.kind,Pt.chr]),by simp [m15]; omega,hs⟩
      ·have b4:¬ p[i+1].toBitVec=42#8:=fun e=>c4 (zw4m.1 e)
       have b4q:(p[i+1].toBitVec == 42#8)=false:=by simp [b4]
       have hs:=zq8c (n:=i+1) (y := .some) hx (by simp) (by omega) (by show prs (p.drop i)=_; rw [hd,hd2,c3,zpjv c4])
       simp (disch:=first|omega|simp<;>omega|fail) [-zA,-zB,-zC,-zD,-zE,z9ia,h4,h,b1,b1q,b2,b2q,b3,b3q,h6,h6',b4,b4q,hlen,e12]
       exact ⟨⟨l++[.some],i+1⟩,z515 (by simp (disch:=first|omega|simp<;>omega|fail) [-zA,-zB,-zC,-zD,-zE,e12,zip6,ptC,Pt.kind,Pt.chr]) (by simp (disch:=first|omega|simp<;>omega|fail) [-zA,-zB,-zC,-zD,-zE,zip6,ptC,Pt.kind,Pt.chr]),by simp [m15]; omega,hs⟩
     ·have h6':¬ (i:Int)+1<p.length:=by omega
      have hs:=zq8c (n:=i+1) (y := .some) hx (by simp) (by omega) (by show prs (p.drop i)=_; rw [hd,c3,List.drop_eq_nil_of_le (by omega),zkwm]; rfl)
      simp (disch:=first|omega|simp<;>omega|fail) [-zA,-zB,-zC,-zD,-zE,z9ia,h4,h,b1,b1q,b2,b2q,b3,b3q,h6',hlen]
      exact ⟨⟨l++[.some],i+1⟩,z515 (by simp (disch:=first|omega|simp<;>omega|fail) [-zA,-zB,-zC,-zD,-zE,e12,zip6,ptC,Pt.kind,Pt.chr]) (by simp (disch:=first|omega|simp<;>omega|fail) [-zA,-zB,-zC,-zD,-zE,zip6,ptC,Pt.kind,Pt.chr]),by simp [m15]; omega,hs⟩
    ·have b3:¬ p[i].toBitVec=42#8:=fun e=>c3 (zw4m.1 e)
     have b3q:(p[i].toBitVec == 42#8)=false:=by simp [b3]
     have hs:=zq8c (n:=i+1) (y := .one p[i].toBitVec) hx (by simp) (by omega) (by show prs (p.drop i)=_; rw [hd,zmw4 c1 c3 c2])
     simp (disch:=first|omega|simp<;>omega|fail) [-zA,-zB,-zC,-zD,-zE,z9ia,h4,h,b1,b1q,b2,b2q,b3,b3q,hlen]
     exact ⟨⟨l++[.one p[i].toBitVec],i+1⟩,z515 (by simp (disch:=first|omega|simp<;>omega|fail) [-zA,-zB,-zC,-zD,-zE,e12,zip6,ptC,Pt.kind,Pt.chr]) (by simp (disch:=first|omega|simp<;>omega|fail) [-zA,-zB,-zC,-zD,-zE,zip6,ptC,Pt.kind,Pt.chr]),by simp [m15]; omega,hs⟩
 ·have h4:¬ (i:Int)<p.length:=by omega
  obtain rfl:i=p.length:=by omega
  rw [List.drop_length] at hpr
  have hq:prs p = .some l:=by rw [hpr]; simp [prs]
  have hne:=zfht (by intro e; rw [e] at h1; simp at h1) hq
  have ht:(z6j5 l).take (l.length*2)=z6j5 l:=List.take_of_length_le (by omega)
  simp (disch:=first|omega|simp<;>omega|fail) [-zA,-zB,-zC,-zD,-zE,h4,z8l3 (zbvb hne),zpgk (zbvb hne),hp,hq,zoby,ht,zyoh,hlen]
def z8r4 (p:List UInt8):DV:=zoby (zfn1 p)
def T58:Tbl:=addT 131 (.pure (cS z8r4)) tbl0
theorem z8i1:T58 131 = .pure (cS z8r4):=by simp [T58]
theorem zeib:T58.Sound P:=z0rp (zzn8 fun p=>zljw mix zhpa Tryd.func131 zsra (ztmv p)) zr5o
def z01o (p:List UInt8):DV := .bool (zfn1 p).isSome
theorem ztir (p:List UInt8):Runs T58 a77 [.str p] (z01o p):=by
 refine ⟨?_⟩
 cases h:zfn1 p with
 | none=>simp (disch:=first|omega|simp<;>omega|fail) [-zA,-zB,-zC,-zD,-zE,a77,z8i1,zk5k,z8r4,h,zoby,z01o]
 | some l=>simp (disch:=first|omega|simp<;>omega|fail) [-zA,-zB,-zC,-zD,-zE,a77,z8i1,zk5k,z8r4,h,zoby,z01o]
def zqvz (x:Pt):DV:=match x with
 | .one c => .fn (.func 180) [] [.ref [.int .i64 0,w8 c]]
 | .whole => .fn (.func 181) [] []
 | _ => .fn (.func 182) [] []
theorem z7ww {h:List AObj} {k:Nat} {f:Fn} {x:DV}:snap h (k+1) (.fn f [] [x])=(snap h (k+1) x).map fun y => .fn f [] [y]:=by
 simp only [snap,zcxt,zoyo]
 cases zcxt _ x<;>rfl
theorem zk6j {h:List AObj} {k:Nat} {f:Fn}:snap h k (.fn f [] [])=some (.fn f [] []):=by cases k<;>rfl
theorem z2em (x:Pt):Runs tbl0 a160 [.agg (ptC x)] (zqvz x):=by
 refine ⟨?_⟩
 cases x with
 | one c=>simp (disch:=first|omega|simp<;>omega|fail) [-zA,-zB,-zC,-zD,-zE,a160,ptC,Pt.kind,Pt.chr,zqvz,z7ww,zk6j]
 | dot=>simp (disch:=first|omega|simp<;>omega|fail) [-zA,-zB,-zC,-zD,-zE,a160,ptC,Pt.kind,Pt.chr,zqvz,z7ww,zk6j]
 | some=>simp (disch:=first|omega|simp<;>omega|fail) [-zA,-zB,-zC,-zD,-zE,a160,ptC,Pt.kind,Pt.chr,zqvz,z7ww,zk6j]
 | whole=>simp (disch:=first|omega|simp<;>omega|fail) [-zA,-zB,-zC,-zD,-zE,a160,ptC,Pt.kind,Pt.chr,zqvz,z7ww,zk6j]
theorem z439 (x:Pt):Runs tbl0 a161 [.agg (ptC x)] (.bool x.long):=by
 refine ⟨?_⟩
 cases x with
 | one c=>simp (disch:=first|omega|simp<;>omega|fail) [-zA,-zB,-zC,-zD,-zE,a161,ptC,Pt.kind,Pt.chr,Pt.long]
 | dot=>simp (disch:=first|omega|simp<;>omega|fail) [-zA,-zB,-zC,-zD,-zE,a161,ptC,Pt.kind,Pt.chr,Pt.long]
 | some=>simp (disch:=first|omega|simp<;>omega|fail) [-zA,-zB,-zC,-zD,-zE,a161,ptC,Pt.kind,Pt.chr,Pt.long]
 | whole=>simp (disch:=first|omega|simp<;>omega|fail) [-zA,-zB,-zC,-zD,-zE,a161,ptC,Pt.kind,Pt.chr,Pt.long]
theorem zakd (b c:B8):Runs tbl0 a180 [w8 b,.ref [.int .i64 0,w8 c]] (.bool (b == c)):=by
 refine ⟨?_⟩
 simp (disch:=first|omega|simp<;>omega|fail) [-zA,-zB,-zC,-zD,-zE,a180]
theorem ze07 (b:B8):Runs tbl0 a181 [w8 b] (.bool true):=by
 refine ⟨?_⟩
 simp (disch:=first|omega|simp<;>omega|fail) [-zA,-zB,-zC,-zD,-zE,a181]
theorem zacs (b:B8):Runs tbl0 a182 [w8 b] (.bool (b != 47#8)):=by
 refine ⟨?_⟩
 simp (disch:=first|omega|simp<;>omega|fail) [-zA,-zB,-zC,-zD,-zE,a182]
end Go.Proofs.YtjknipdiglpnlaaDoor
set_option linter.unusedSimpArgs false
set_option linter.unusedVariables false
namespace Go.Proofs.YtjknipdiglpnlaaDoor
open Go Go.Am
theorem zq5p {x y:Pt} (e:ptC x=ptC y):x=y:=by
 cases x<;>cases y<;>simp [ptC,Pt.kind,Pt.chr,z21y] at e ⊢ <;> exact e
noncomputable def zyoe:List DV→Option DV:=con (fun (_:Pt)=>True) (fun x=>[.agg (ptC x)]) zqvz
theorem zkt2 {x:Pt}:zyoe [.agg [.int .i64 x.kind,w8 x.chr]]=some (zqvz x) :=
 z400 (A:=fun (_:Pt)=>True) (a:=x) (f:=fun x=>[.agg (ptC x)]) (g:=zqvz) (by intro a b _ _ e; simp only [List.cons.injEq,DV.agg.injEq,and_true] at e; rw [zq5p e]) trivial
noncomputable def zupo:List DV→Option DV:=con (fun (_:Pt)=>True) (fun x=>[.agg (ptC x)]) (fun x => .bool x.long)
theorem zfa9 {x:Pt}:zupo [.agg [.int .i64 x.kind,w8 x.chr]]=some (.bool x.long) :=
 z400 (A:=fun (_:Pt)=>True) (a:=x) (f:=fun x=>[.agg (ptC x)]) (g:=fun x => .bool x.long) (by intro a b _ _ e; simp only [List.cons.injEq,DV.agg.injEq,and_true] at e; rw [zq5p e]) trivial
noncomputable def zst5:List DV→Option DV:=con (fun (_:B8 × B8)=>True) (fun a=>[w8 a.1,.ref [.int .i64 0,w8 a.2]]) (fun a => .bool (a.1 == a.2))
theorem zx1c {b c:B8}:zst5 [w8 b,.ref [.int .i64 0,w8 c]]=some (.bool (b == c)) :=
 z400 (A:=fun (_:B8 × B8)=>True) (a:=(b,c)) (f:=fun a=>[w8 a.1,.ref [.int .i64 0,w8 a.2]]) (g:=fun a => .bool (a.1 == a.2)) (by
  rintro ⟨a,b⟩ ⟨c,d⟩ _ _ e; simp only [List.cons.injEq,DV.ref.injEq,z21y,and_true,true_and] at e; obtain ⟨rfl,rfl⟩:=e; rfl) trivial
noncomputable def z22e:List DV→Option DV:=con (fun (_:B8)=>True) (fun a=>[w8 a]) (fun _ => .bool true)
theorem zx0u {b:B8}:z22e [w8 b]=some (.bool true) :=
 z400 (A:=fun (_:B8)=>True) (a:=b) (f:=fun a=>[w8 a]) (g:=fun _ => .bool true) (by intros; rfl) trivial
noncomputable def z489:List DV→Option DV:=con (fun (_:B8)=>True) (fun a=>[w8 a]) (fun a => .bool (a != 47#8))
theorem z936 {b:B8}:z489 [w8 b]=some (.bool (b != 47#8)) :=
 z400 (A:=fun (_:B8)=>True) (a:=b) (f:=fun a=>[w8 a]) (g:=fun a => .bool (a != 47#8)) (by intro a b _ _ e; simp only [List.cons.injEq,z21y,and_true] at e; rw [e]) trivial
noncomputable def T59:Tbl:=addT 160 (.pure zyoe) (addT 161 (.pure zupo) (addT 180 (.pure zst5) (addT 181 (.pure z22e) (addT 182 (.pure z489)
 (addT 131 (.pure (cS z8r4)) (addT 89 (.pure (cS za1j)) tbl0))))))
theorem zi6l:T59 160 = .pure zyoe:=by simp [T59]
theorem zzbb:T59 161 = .pure zupo:=by simp [T59]
theorem zi94:T59 180 = .pure zst5:=by simp [T59]
theorem zf3w:T59 181 = .pure z22e:=by simp [T59]
theorem zev5:T59 182 = .pure z489:=by simp [T59]
theorem znm8:T59 131 = .pure (cS z8r4):=by simp [T59]
theorem zhd4:T59 89 = .pure (cS za1j):=by simp [T59]
theorem zy0e:T59.Sound P :=
 z0rp (z2au fun x _=>zljw mix zr5o Tryd.func160 z2um (z2em x))
 (z0rp (z2au fun x _=>zljw mix zr5o Tryd.func161 zuwg (z439 x))
 (z0rp (z2au fun a _=>zljw mix zr5o Tryd.func180 zpcn (zakd a.1 a.2))
 (z0rp (z2au fun a _=>zljw mix zr5o Tryd.func181 zwin (ze07 a))
 (z0rp (z2au fun a _=>zljw mix zr5o Tryd.func182 zbm0 (zacs a))
 (z0rp (zzn8 fun p=>zljw mix zhpa Tryd.func131 zsra (ztmv p))
 (z0rp (zzn8 fun p=>zljw mix zhpa Tryd.func89 z42j (z08u p)) zr5o))))))
theorem z6ly {y:Pt} {b:B8} {h:List AObj}:z46a T59 false (zqvz y) [w8 b] h=some (.bool (y.takes b),h):=by
 cases y with
 | one c=>simp [zqvz,zxj6,zi94,zx1c,Pt.takes]
 | dot=>simp [zqvz,zxj6,zev5,z936,Pt.takes]
 | some=>simp [zqvz,zxj6,zev5,z936,Pt.takes]
 | whole=>simp [zqvz,zxj6,zf3w,zx0u,Pt.takes]
def zkxs (f:Nat→Bool) (n:Nat):List Bool:=(List.range (n+1)).map f
def inn (f:Nat→Bool) (i n:Nat):List Bool:=(List.range (n+1)).map fun j=>decide (j≤i)&&f j
def zdol (m:Nat):List Bool:=List.replicate m false
theorem z4jn (f:Nat→Bool) (n:Nat):(zkxs f n).length=n+1:=by simp [zkxs]
theorem zbo5 (f:Nat→Bool) (i n:Nat):(inn f i n).length=n+1:=by simp [inn]
theorem zj3v {f:Nat→Bool} {n i:Nat} (h:i<(zkxs f n).length):(zkxs f n)[i]=f i:=by simp [zkxs]
theorem zbgu {f:Nat→Bool} {n i:Nat} (h:i<(inn f i n).length):(inn f i n)[i]=f i:=by simp [inn]
theorem z09a (m:Nat):rep m (DV.bool false)=(zdol m).map DV.bool:=by simp [rep,zdol]
theorem zcql : ∀ (n:Nat) (s:List UInt8) (l:List Pt),s.length≤n→prs s = .some l→l.length≤s.length
 | _,[],l,_,h=>by simp [prs] at h; subst h; simp
 | 0,c::r,l,hn,h=>by simp at hn
 | n+1,c::r,l,hn,h=>by
  have hr:r.length≤n:=by simpa using hn
  have oneC : ∀ (q:List UInt8) (y:Pt),q.length≤r.length→(prs q).map (fun l=>y::l) = .some l→l.length≤(c::r).length:=by
   intro q y hq e
   obtain ⟨l',e1,e2⟩:=Option.map_eq_some_iff.1 e
   have:=zcql n q l' (by omega) e1
   rw [← e2]; simp; omega
  by_cases h1:c=92
  ·subst h1
   match r,h with
   | [],h=>simp [zt8b] at h
   | d::r,h=>rw [z32i] at h; exact oneC r _ (by simp) h
  ·by_cases h2:c=42
   ·subst h2
    match r,h with
    | [],h=>simp [zkwm] at h; subst h; simp
    | d::r,h =>
     by_cases h3:d=42
     ·subst h3; rw [zqqt] at h; exact oneC r _ (by simp) h
     ·rw [zpjv h3] at h; exact oneC _ _ (Nat.le_refl _) h
   ·by_cases h3:c=63
    ·subst h3; rw [z28c] at h; exact oneC r _ (Nat.le_refl _) h
    ·rw [zmw4 h1 h2 h3] at h; exact oneC r _ (Nat.le_refl _) h
theorem zxnm {p:List UInt8} {l:List Pt} (h:zfn1 p = .some l):l.length≤200:=by
 unfold zfn1 at h
 split at h
 ·rename_i hc
  have:=zcql _ p l (Nat.le_refl _) h
  omega
 ·simp at h
theorem zuv7 (f:Nat→Bool) (n:Nat):(zdol (n+1)).set 0 (f 0)=inn f 0 n:=by
 apply List.ext_getElem (by simp [zdol,inn])
 intro i h1 h2
 cases i with
 | zero=>simp [inn]
 | succ i=>simp [zdol,inn]
theorem z05s (l s) (n:Nat):(zdol (n+1)).set 0 true=zkxs (M l s 0) n:=by
 apply List.ext_getElem (by simp [zdol,zkxs])
 intro i h1 h2
 cases i with
 | zero=>simp [zkxs,zbas]
 | succ i=>simp [zdol,zkxs,zbas]
theorem zaip {f:Nat→Bool} {i n:Nat} (h:i<n):(inn f i n).set (i+1) (f (i+1))=inn f (i+1) n:=by
 apply List.ext_getElem (by simp [inn])
 intro j h1 h2
 rw [List.getElem_set]
 split
 ·rename_i e; subst e; simp [inn]
 ·rename_i e
  simp only [inn,List.getElem_map,List.getElem_range]
  by_cases hj:j≤i
  ·have:j≤i+1:=by omega
   simp [hj,this]
  ·have:¬ j≤i+1:=by omega
   simp [hj,this]
theorem zy1a (f:Nat→Bool) (n:Nat):inn f n n=zkxs f n:=by
 apply List.ext_getElem (by simp [inn,zkxs])
 intro j h1 h2
 have:j≤n:=by simp [inn] at h1; omega
 simp [inn,zkxs,this]
theorem zf0q {pre l:List AObj} {j ver:Nat}:objV (pre++l) (pre.length+j) ver=objV l j ver:=by
 simp only [objV,ziu0]; rw [List.getElem?_append_right (by omega)]; simp
theorem zr5s {pre l:List AObj} {ver:Nat}:objV (pre++l) pre.length ver=objV l 0 ver:=by
 have:=zf0q (pre:=pre) (l:=l) (j:=0) (ver:=ver)
 simpa using this
theorem z3nb {pre l:List AObj} {o:AObj}:(pre++l).set pre.length o=pre++l.set 0 o:=by rw [List.set_append_right _ _ (by omega)]; simp
theorem zm3y {pre l:List AObj} {j:Nat} {o:AObj}:(pre++l).set (pre.length+j) o=pre++l.set j o:=by rw [List.set_append_right _ _ (by omega)]; simp
theorem zhys : ∀ {l:List Pt} {k:Nat} (h:k<l.length),((z6j5 l).drop (k*2)).take 2=[.int .i64 l[k].kind,w8 l[k].chr]
 | x::l,0,_=>by simp [z6j5,ptC]
 | x::l,k+1,h=>by
  have:=zhys (l:=l) (k:=k) (by simpa using h)
  have e:z6j5 (x::l) = .int .i64 x.kind::w8 x.chr::z6j5 l:=by simp [z6j5,ptC]
  rw [e,show (k+1)*2=k*2+1+1 by omega]
  simpa using this
theorem z8ev {h:List AObj} {id off:Nat} {x:Bool} {l:List Bool} (hi:off<l.length):zy6o h id 1 off (.bool x) (some (l.map DV.bool))=some (.junk,h.set id (.cells ((l.set off x).map DV.bool))):=by
 rw [Am.storeO_1 rfl rfl (by simpa using hi),List.map_set]
theorem zfp3 (f:Nat→Bool) (n:Nat):(rep (n+1) (DV.bool false)).set 0 (.bool (f 0))=(inn f 0 n).map DV.bool:=by
 rw [z09a,← zuv7,List.map_set]
theorem zqiv (l s) (n:Nat):(rep (n+1) (DV.bool false)).set 0 (.bool true)=(zkxs (M l s 0) n).map DV.bool:=by
 rw [z09a,← z05s l s,List.map_set]
theorem zfvc {a b:DV}:oneC 2 true [a,b]=some (.agg [a,b]):=rfl
theorem z0ay {h:List AObj} {id:Nat} {a b c d:DV} (hc:c.one=true) (hd:d.one=true):zy6o h id 2 0 (.agg [c,d]) (some [a,b])=some (.junk,h.set id (.cells [c,d])):=zfc1 rfl rfl (by simp [hc,hd])
structure X8 where
 k:Nat
 pre:List AObj
def S8 (l:List Pt) (s:List UInt8) (x:X8):St :=
 zyf7 (.str s) (.ms x.pre.length (s.length+1) 0 1 (s.length+1) (s.length+1)) (.sl false 2 l.length (z6j5 l)) (.int .i64 l.length) (.int .i64 x.k) (x.pre++[.cells ((zkxs (M l s x.k) s.length).map DV.bool)])
def S8b (l:List Pt) (s:List UInt8) (k:Nat) (y:Pt) (pre:List AObj) (i:Nat):St :=
 zjov (.str s) (.ms pre.length (s.length+1) 0 1 (s.length+1) (s.length+1)) (.mp (pre.length+1) 2 0) (zqvz y) (.ms (pre.length+2) (s.length+1) 0 1 (s.length+1) (s.length+1)) (.sl false 2 l.length (z6j5 l)) (.int .i64 l.length) (.int .i64 k) (.int .i64 s.length) (.int .i64 i)
  (pre++[.cells ((zkxs (M l s k) s.length).map DV.bool),.cells [.int .i64 y.kind,w8 y.chr],.cells ((inn (M l s (k+1)) i s.length).map DV.bool)])
theorem z3jz (p s:List UInt8):Runs T59 a118 [.str p,.str s] (.bool (zenh p s)):=by
 refine ⟨?_⟩
 cases hp:zfn1 p with
 | none =>
  have hm:zenh p s=false:=by rw [zenh,hp]
  simp (disch:=first|omega|simp<;>omega|fail) [-zA,-zB,-zC,-zD,-zE,a118,znm8,zk5k,z8r4,hp,zoby,hm]
 | some l =>
 by_cases hs:zj1f s=true
 case neg =>
  have hs:zj1f s=false:=by simpa using hs
  have hm:zenh p s=false:=by rw [zenh,hp]; simp [hs]
  simp (disch:=first|omega|simp<;>omega|fail) [-zA,-zB,-zC,-zD,-zE,a118,znm8,zhd4,zk5k,z8r4,hp,zoby,za1j,hs,hm]
 have hm:zenh p s=M l s l.length s.length:=by rw [zenh,hp]; simp [hs]
 have hsl:s.length≤200:=by simp only [zj1f,Bool.and_eq_true,decide_eq_true_eq] at hs; omega
 have hlp:=zxnm hp
 have hlc:=z4u6 l
 simp (disch:=first|omega|simp<;>omega|fail) [-zA,-zB,-zC,-zD,-zE,a118,znm8,zhd4,zk5k,z8r4,hp,zoby,za1j,hs]
 refine zlm5 (S8 l s) (fun x=>l.length-x.k) (fun x=>x.k≤l.length) ⟨0,[]⟩ (z515 (by simp (disch:=first|omega|simp<;>omega|fail) [-zA,-zB,-zC,-zD,-zE]) (by simp (disch:=first|omega|simp<;>omega|fail) [-zA,-zB,-zC,-zD,-zE]; exact (zqiv l s _).symm)) (by simp) (fun x hx => ?_)
 obtain ⟨k,pre⟩:=x
 simp only at hx
 have hlr:=z4jn (M l s k) s.length
 simp (disch:=first|omega|simp<;>omega|fail) [-zA,-zB,-zC,-zD,-zE,zcng,zyf7,S8]
 by_cases h:k<l.length
 ·have h1:(k:Int)<l.length:=by omega
  have hg:=zhys h
  simp (disch:=first|omega|simp<;>omega|fail) [-zA,-zB,-zC,-zD,-zE,zfvc,z0ay,z8ev,h1,h,hg,zf0q,zr5s,zm3y,z3nb,zi6l,zkt2,hlr,zj3v,zzbb,zfa9]
  have hgd:l.getD k .dot=l[k]:=by rw [List.getD_eq_getElem?_getD,List.getElem?_eq_getElem h]; rfl
  obtain ⟨y,hy⟩ : ∃ y,l[k]=y:=⟨_,rfl⟩
  rw [hy] at hgd
  have hf0:M l s (k+1) 0=(y.long&&M l s k 0):=by rw [z9av,hgd]
  obtain ⟨b0,hb0⟩ : ∃ b0,M l s k 0=b0:=⟨_,rfl⟩
  cases b0
  all_goals
   rw [hb0] at hf0
   simp only [Bool.and_true,Bool.and_false] at hf0
   have hr0:=zfp3 (M l s (k+1)) s.length
   rw [hf0] at hr0
   simp (disch:=first|omega|simp<;>omega|fail) [-zA,-zB,-zC,-zD,-zE,zfvc,z0ay,z8ev,hy,hb0,zf0q,zr5s,zm3y,z3nb,zzbb,zfa9]
   refine zlm5 (S8b l s k y pre) (fun i=>s.length-i) (fun i=>i≤s.length) 0 (z515 (by simp (disch:=first|omega|simp<;>omega|fail) [-zA,-zB,-zC,-zD,-zE]) (by simp (disch:=first|omega|simp<;>omega|fail) [-zA,-zB,-zC,-zD,-zE,hr0])) (by omega) (fun i hi => ?_)
   have hli:=zbo5 (M l s (k+1)) i s.length
   simp (disch:=first|omega|simp<;>omega|fail) [-zA,-zB,-zC,-zD,-zE,zfuq,zjov,S8b]
   by_cases hs1:i<s.length
   ·have hs2:(i:Int)<s.length:=by omega
    have hba:=z8rj hs1
    by_cases hlg:y.long=true
    ·have hM:=zbwv (l:=l) (s:=s) (k:=k) (i:=i) (by rw [hgd]; exact hlg)
     rw [hgd,hba] at hM
     obtain ⟨v1,hv1⟩ : ∃ v1,M l s k (i+1)=v1:=⟨_,rfl⟩
     obtain ⟨v2,hv2⟩ : ∃ v2,M l s (k+1) i=v2:=⟨_,rfl⟩
     rw [hv1,hv2] at hM
     cases v1<;>cases v2
     all_goals
      simp only [Bool.false_or,Bool.true_or,Bool.false_and,Bool.true_and] at hM
      have hset:=zaip (f:=M l s (k+1)) hs1
      rw [hM] at hset
      simp (disch:=first|omega|simp<;>omega|fail) [-zA,-zB,-zC,-zD,-zE,zfvc,z8ev,hs1,hs2,hlg,zf0q,zr5s,zm3y,z3nb,zzbb,zfa9,hlr,zj3v,hli,zbgu,z6ly,hv1,hv2]
      exact ⟨i+1,z515 (by simp (disch:=first|omega|simp<;>omega|fail) [-zA,-zB,-zC,-zD,-zE]) (by simp (disch:=first|omega|simp<;>omega|fail) [-zA,-zB,-zC,-zD,-zE,hset]),by omega,by omega⟩
    ·have hlg:y.long=false:=by simpa using hlg
     have hM:=ze32 (l:=l) (s:=s) (k:=k) (i:=i) (by rw [hgd]; exact hlg)
     rw [hgd,hba] at hM
     obtain ⟨v1,hv1⟩ : ∃ v1,M l s k i=v1:=⟨_,rfl⟩
     rw [hv1] at hM
     cases v1
     all_goals
      simp only [Bool.false_and,Bool.true_and] at hM
      have hset:=zaip (f:=M l s (k+1)) hs1
      rw [hM] at hset
      simp (disch:=first|omega|simp<;>omega|fail) [-zA,-zB,-zC,-zD,-zE,zfvc,z8ev,hs1,hs2,hlg,zf0q,zr5s,zm3y,z3nb,zzbb,zfa9,hlr,zj3v,hli,zbgu,z6ly,hv1]
      exact ⟨i+1,z515 (by simp (disch:=first|omega|simp<;>omega|fail) [-zA,-zB,-zC,-zD,-zE]) (by simp (disch:=first|omega|simp<;>omega|fail) [-zA,-zB,-zC,-zD,-zE,hset]),by omega,by omega⟩
   ·have hs2:¬ (i:Int)<s.length:=by omega
    obtain rfl:i=s.length:=by omega
    simp (disch:=first|omega|simp<;>omega|fail) [-zA,-zB,-zC,-zD,-zE,hs2]
    refine ⟨⟨k+1,pre++[.cells ((zkxs (M l s k) s.length).map DV.bool),.cells [.int .i64 y.kind,w8 y.chr]]⟩,z515 (by simp (disch:=first|omega|simp<;>omega|fail) [-zA,-zB,-zC,-zD,-zE]) (by simp (disch:=first|omega|simp<;>omega|fail) [-zA,-zB,-zC,-zD,-zE,zy1a]),by show l.length-(k+1)<l.length-k; omega,by show k+1≤l.length; omega⟩
 ·have h1:¬ (k:Int)<l.length:=by omega
  obtain rfl:k=l.length:=by omega
  simp (disch:=first|omega|simp<;>omega|fail) [-zA,-zB,-zC,-zD,-zE,h1,zr5s,hlr,zj3v,hm]
end Go.Proofs.YtjknipdiglpnlaaDoor
set_option linter.unusedSimpArgs false
set_option linter.unusedVariables false
namespace Go.Proofs.YtjknipdiglpnlaaDoor
open Go Go.Am
def lb (t:List UInt8):List B8:=t.map UInt8.toBitVec
def T60:Tbl:=addT 89 (.pure (cS za1j)) tbl0
theorem zh16:T60 89 = .pure (cS za1j):=by simp [T60]
theorem zbqx:T60.Sound P:=z0rp (zzn8 fun p=>zljw mix zhpa Tryd.func89 z42j (z08u p)) zr5o
theorem zpps {s:List UInt8} (h:zj1f s=true):1≤s.length∧s.length≤200∧noZ s=true∧(z2fg s).all okC=true:=by
 simp only [zj1f,Bool.and_eq_true,decide_eq_true_eq] at h
 exact ⟨h.1.1.1,h.1.1.2,h.1.2,h.2⟩
def dirD (s:List UInt8):Bool:=s == []||zj1f s
def dirB (s:List UInt8):DV := .bool (dirD s)
theorem zl50 {s:List UInt8} (h:dirD s=true):s.length≤200:=by
 simp only [dirD,Bool.or_eq_true,beq_iff_eq] at h
 rcases h with rfl|h
 ·simp
 ·exact (zpps h).2.1
theorem z532 (s:List UInt8):Runs T60 a158 [.str s] (dirB s):=by
 refine ⟨?_⟩
 by_cases h:s=[]
 ·subst h; simp (disch:=first|omega|simp<;>omega|fail) [-zA,-zB,-zC,-zD,-zE,a158,dirB,dirD]
 ·have hd:dirD s=zj1f s:=by simp [dirD,h]
  simp (disch:=first|omega|simp<;>omega|fail) [-zA,-zB,-zC,-zD,-zE,a158,dirB,hd,h,zh16,zk5k,za1j]
def zukt (d r:List UInt8):List UInt8:=if d=[] then r else d++47::r
def z7z9 (d s:List UInt8):Option (List UInt8):=if d=[] then some s else if s.take (d.length+1)=d++[47] then some (s.drop (d.length+1)) else none
def relO (a b s:List UInt8):Option (List UInt8) :=
 if dirD a=true∧dirD b=true∧zj1f s=true then (z7z9 a s).bind fun r=>if zj1f (zukt b r)=true then some (zukt b r) else none else none
def optS:Option (List UInt8)→DV
 | none => .tup [.str [],.bool false]
 | some r => .tup [.str r,.bool true]
def relD (a b s:List UInt8):DV:=optS (relO a b s)
def T61:Tbl:=addT 158 (.pure (cS dirB)) (addT 159 (.pure (cSS cutD)) T60)
theorem z2x6:T61 89 = .pure (cS za1j):=by simp [T61,T60]
theorem zam5:T61 158 = .pure (cS dirB):=by simp [T61]
theorem zk2w:T61 159 = .pure (cSS cutD):=by simp [T61]
theorem zek7:T61.Sound P:=z0rp (zzn8 fun s=>zljw mix zbqx Tryd.func158 z0bv (z532 s)) (z0rp (zd7v fun s p=>zljw mix z4p0 Tryd.func159 zp3e (zgsw s p)) zbqx)
theorem zpcq (a b s:List UInt8):Runs T61 a117 [.str a,.str b,.str s] (relD a b s):=by
 refine ⟨?_⟩
 by_cases ha:dirD a=true
 case neg =>
  have hr:relO a b s=none:=by rw [relO,if_neg (by simp [ha])]
  have ha:dirD a=false:=by simpa using ha
  simp (disch:=first|omega|simp<;>omega|fail) [-zA,-zB,-zC,-zD,-zE,a117,zam5,zk5k,dirB,ha,relD,hr,optS]
 by_cases hb:dirD b=true
 case neg =>
  have hr:relO a b s=none:=by rw [relO,if_neg (by simp [hb])]
  have hb:dirD b=false:=by simpa using hb
  simp (disch:=first|omega|simp<;>omega|fail) [-zA,-zB,-zC,-zD,-zE,a117,zam5,zk5k,dirB,ha,hb,relD,hr,optS]
 by_cases hs:zj1f s=true
 case neg =>
  have hr:relO a b s=none:=by rw [relO,if_neg (by simp [hs])]
  have hs:zj1f s=false:=by simpa using hs
  simp (disch:=first|omega|simp<;>omega|fail) [-zA,-zB,-zC,-zD,-zE,a117,zam5,z2x6,zk5k,dirB,za1j,ha,hb,hs,relD,hr,optS]
 have la:=zl50 ha
 have lb:=zl50 hb
 have ls:=(zpps hs).2.1
 have hr:relO a b s=(z7z9 a s).bind fun r=>if zj1f (zukt b r)=true then some (zukt b r) else none:=by rw [relO,if_pos ⟨ha,hb,hs⟩]
 have tail : ∀ r,r.length≤200→z7z9 a s=some r→((b=[]→zj1f r=true→relD a b s = .tup [.str r,.bool true])∧(b=[]→zj1f r=false→relD a b s = .tup [.str [],.bool false]) ∧
   (b≠[]→zj1f (b++47::r)=true→relD a b s = .tup [.str (b++47::r),.bool true])∧(b≠[]→zj1f (b++47::r)=false→relD a b s = .tup [.str [],.bool false])):=by
  intro r hl he
  rw [relD,hr,he,Option.bind_some]
  refine ⟨fun hb hp => ?_,fun hb hp => ?_,fun hb hp => ?_,fun hb hp => ?_⟩
  ·rw [zukt,if_pos hb,if_pos hp]; rfl
  ·rw [zukt,if_pos hb,if_neg (by simp [hp])]; rfl
  ·rw [zukt,if_neg hb,if_pos hp]; rfl
  ·rw [zukt,if_neg hb,if_neg (by simp [hp])]; rfl
 by_cases hae:a=[]
 ·subst hae
  obtain ⟨q1,q2,q3,q4⟩:=tail s ls rfl
  by_cases hbe:b=[]
  ·subst hbe
   have hd:=q1 rfl hs
   simp (disch:=first|omega|simp<;>omega|fail) [-zA,-zB,-zC,-zD,-zE,a117,zam5,z2x6,zk5k,dirB,za1j,ha,hs,hd]
  ·by_cases hu:zj1f (b++47::s)=true
   ·have hd:=q3 hbe hu
    simp (disch:=first|omega|simp<;>omega|fail) [-zA,-zB,-zC,-zD,-zE,a117,zam5,z2x6,zk5k,dirB,za1j,ha,hb,hs,hbe,hu,hd]
   ·have hu:zj1f (b++47::s)=false:=by simpa using hu
    have hd:=q4 hbe hu
    simp (disch:=first|omega|simp<;>omega|fail) [-zA,-zB,-zC,-zD,-zE,a117,zam5,z2x6,zk5k,dirB,za1j,ha,hb,hs,hbe,hu,hd]
 ·have hc:cSS cutD [.str s,.str (a++[47])]=some (cutD s (a++[47])):=rfl
  rw [cutD,List.length_append,List.length_singleton] at hc
  by_cases ht:s.take (a.length+1)=a++[47]
  case neg =>
   have hd:relD a b s = .tup [.str [],.bool false]:=by rw [relD,hr,z7z9,if_neg hae,if_neg ht]; rfl
   rw [if_neg ht] at hc
   simp (disch:=first|omega|simp<;>omega|fail) [-zA,-zB,-zC,-zD,-zE,a117,zam5,z2x6,zk2w,zk5k,dirB,za1j,ha,hb,hs,hae,hc,hd]
  rw [if_pos ht] at hc
  obtain ⟨r,hre⟩ : ∃ r,s.drop (a.length+1)=r:=⟨_,rfl⟩
  have hrl:r.length≤200:=by rw [← hre,List.length_drop]; omega
  rw [hre] at hc
  obtain ⟨q1,q2,q3,q4⟩:=tail r hrl (by rw [z7z9,if_neg hae,if_pos ht,hre])
  by_cases hbe:b=[]
  ·subst hbe
   by_cases hu:zj1f r=true
   ·have hd:=q1 rfl hu
    simp (disch:=first|omega|simp<;>omega|fail) [-zA,-zB,-zC,-zD,-zE,a117,zam5,z2x6,zk2w,zk5k,dirB,za1j,ha,hb,hs,hae,hc,hu,hd]
   ·have hu:zj1f r=false:=by simpa using hu
    have hd:=q2 rfl hu
    simp (disch:=first|omega|simp<;>omega|fail) [-zA,-zB,-zC,-zD,-zE,a117,zam5,z2x6,zk2w,zk5k,dirB,za1j,ha,hb,hs,hae,hc,hu,hd]
  ·by_cases hu:zj1f (b++47::r)=true
   ·have hd:=q3 hbe hu
    simp (disch:=first|omega|simp<;>omega|fail) [-zA,-zB,-zC,-zD,-zE,a117,zam5,z2x6,zk2w,zk5k,dirB,za1j,ha,hb,hs,hae,hc,hbe,hu,hd]
   ·have hu:zj1f (b++47::r)=false:=by simpa using hu
    have hd:=q4 hbe hu
    simp (disch:=first|omega|simp<;>omega|fail) [-zA,-zB,-zC,-zD,-zE,a117,zam5,z2x6,zk2w,zk5k,dirB,za1j,ha,hb,hs,hae,hc,hbe,hu,hd]
end Go.Proofs.YtjknipdiglpnlaaDoor
set_option linter.unusedSimpArgs false
set_option linter.unusedVariables false
set_option maxRecDepth 4000
namespace Go.Proofs.YtjknipdiglpnlaaDoor
open Go Go.Am
end Go.Proofs.YtjknipdiglpnlaaDoor
set_option linter.unusedSimpArgs false
set_option linter.unusedVariables false
set_option maxRecDepth 4000
namespace Go.Proofs.YtjknipdiglpnlaaDoor
open Go Go.Am
def zh9a (first:Bool) (b:UInt8):Bool:=((decide (97#8≤b.toBitVec)&&decide (b.toBitVec≤122#8))||(decide (48#8≤b.toBitVec)&&decide (b.toBitVec≤57#8)))||(!first&&(decide (b.toBitVec=46#8)||decide (b.toBitVec=95#8)||decide (b.toBitVec=45#8)))
def zt9v (s:Str):Bool:=decide (1≤s.length)&&decide (s.length≤64)&&(match s with|[]=>false|b::r=>zh9a true b&&r.all (zh9a false))
theorem zg1n {s:Str}:zt9v s=true↔1≤s.length∧s.length≤64 ∧ ∀ j (h:j<s.length),zh9a (decide (j=0)) s[j]=true:=by
 unfold zt9v
 cases s with
 | nil=>simp
 | cons b r =>
  simp only [Bool.and_eq_true,decide_eq_true_eq,List.all_eq_true,and_assoc]
  refine and_congr_right fun _=>and_congr_right fun _=>⟨fun ⟨h1,h2⟩ j hj => ?_,fun h=>⟨h 0 (by simp),fun x hx => ?_⟩⟩
  ·cases j with
   | zero=>simpa using h1
   | succ j=>simpa using h2 _ (List.getElem_mem (by simpa using hj))
  ·obtain ⟨j,hj,e⟩:=List.getElem_of_mem hx
   have:=h (j+1) (by simpa using hj)
   simpa [e] using this
def S610 (s:Str) (i:Nat):St:=zcu8 (.str s) (.int .i64 i) []
theorem zrln (s:Str):Runs tbl0 a78 [.str s] (.bool (zt9v s)):=by
 refine ⟨?_⟩
 by_cases h1:s.length<1
 ·have h1':(s.length:Int)<1:=by omega
  have hr:zt9v s=false:=by
   cases h:zt9v s with
   | false=>rfl
   | true=>have:=zg1n.1 h; omega
  simp (disch:=first|omega|simp<;>omega|fail) [-zA,-zB,-zC,-zD,-zE,a78,h1,h1',hr]
 by_cases h2:64<s.length
 ·have h1':¬ (s.length:Int)<1:=by omega
  have h2':(64:Int)<s.length:=by omega
  have hr:zt9v s=false:=by
   cases h:zt9v s with
   | false=>rfl
   | true=>have:=zg1n.1 h; omega
  simp (disch:=first|omega|simp<;>omega|fail) [-zA,-zB,-zC,-zD,-zE,a78,h1,h1',h2,h2',hr]
 have h1':¬ (s.length:Int)<1:=by omega
 have h2':¬ (64:Int)<s.length:=by omega
 simp (disch:=first|omega|simp<;>omega|fail) [-zA,-zB,-zC,-zD,-zE,a78,h1,h1',h2,h2']
 refine zlm5 (S610 s) (fun i=>s.length-i) (fun i=>i≤s.length ∧ ∀ j (h:j<s.length),j<i→zh9a (decide (j=0)) s[j]=true) 0 (z515 (by simp (disch:=first|omega|simp<;>omega|fail) [-zA,-zB,-zC,-zD,-zE,S610,zcu8]) (by simp (disch:=first|omega|simp<;>omega|fail) [-zA,-zB,-zC,-zD,-zE,S610,zcu8])) ⟨by omega,fun j _ h=>by omega⟩ (fun i hi => ?_)
 obtain ⟨k1,k2⟩:=hi
 simp only [S610]
 by_cases h:i<s.length
 case neg =>
  have h':¬ (i:Int)<s.length:=by omega
  have hr:zt9v s=true:=zg1n.2 ⟨by omega,by omega,fun j hj=>k2 j hj (by omega)⟩
  simp (disch:=first|omega|simp<;>omega|fail) [-zA,-zB,-zC,-zD,-zE,zoac,zcu8,h,h',hr]
 have h':(i:Int)<s.length:=by omega
 obtain ⟨c,hc⟩ : ∃ c,s[i].toBitVec=c:=⟨_,rfl⟩
 have hn:zh9a (decide (i=0)) s[i]=(((decide (97#8≤c)&&decide (c≤122#8))||(decide (48#8≤c)&&decide (c≤57#8)))||(!decide (i=0)&&(decide (c=46#8)||decide (c=95#8)||decide (c=45#8)))):=by unfold zh9a; rw [hc]
 have acc:zh9a (decide (i=0)) s[i]=true → ∀ j (h:j<s.length),j<i+1→zh9a (decide (j=0)) s[j]=true:=fun e j hj hlt=>by
  by_cases q:j=i
  ·subst q; exact e
  ·exact k2 j hj (by omega)
 have rej:zh9a (decide (i=0)) s[i]=false→zt9v s=false:=fun e=>by
  cases q:zt9v s with
  | false=>rfl
  | true=>have:=(zg1n.1 q).2.2 i h; rw [e] at this; cases this
 by_cases a1:97#8≤c
 case neg =>
  by_cases a3:48#8≤c
  case neg =>
   by_cases z:i=0
   case pos =>
    subst z
    have hne:¬ s=[]:=fun q=>by rw [q] at h; simp at h
    have e:=rej (by rw [hn]; simp [a1,a3,hne])
    simp (disch:=first|omega|simp<;>omega|fail) [-zA,-zB,-zC,-zD,-zE,zoac,zcu8,h,h',hc,e,a1,a3,hne]
   have zi:(0:Int)<i:=by omega
   have zn:0<i:=by omega
   by_cases b46:c=46#8
   case pos =>
    have d46:(c == 46#8)=true:=by simp [b46]
    have e:=acc (by rw [hn]; simp [a1,a3,z,zi,zn,b46])
    simp (disch:=first|omega|simp<;>omega|fail) [-zA,-zB,-zC,-zD,-zE,zoac,zcu8,h,h',hc,a1,a3,z,zi,zn,b46]
    exact ⟨i+1,z515 (by simp (disch:=first|omega|simp<;>omega|fail) [-zA,-zB,-zC,-zD,-zE,S610,zcu8]) (by simp (disch:=first|omega|simp<;>omega|fail) [-zA,-zB,-zC,-zD,-zE,S610,zcu8]),by omega,⟨by omega,e⟩⟩
   have d46:(c == 46#8)=false:=by simp [b46]
   by_cases b95:c=95#8
   case pos =>
    have d95:(c == 95#8)=true:=by simp [b95]
    have e:=acc (by rw [hn]; simp [a1,a3,z,zi,zn,b46,d46,b95])
    simp (disch:=first|omega|simp<;>omega|fail) [-zA,-zB,-zC,-zD,-zE,zoac,zcu8,h,h',hc,a1,a3,z,zi,zn,b46,d46,b95]
    exact ⟨i+1,z515 (by simp (disch:=first|omega|simp<;>omega|fail) [-zA,-zB,-zC,-zD,-zE,S610,zcu8]) (by simp (disch:=first|omega|simp<;>omega|fail) [-zA,-zB,-zC,-zD,-zE,S610,zcu8]),by omega,⟨by omega,e⟩⟩
   have d95:(c == 95#8)=false:=by simp [b95]
   by_cases b45:c=45#8
   case pos =>
    have d45:(c == 45#8)=true:=by simp [b45]
    have e:=acc (by rw [hn]; simp [a1,a3,z,zi,zn,b46,d46,b95,d95,b45])
    simp (disch:=first|omega|simp<;>omega|fail) [-zA,-zB,-zC,-zD,-zE,zoac,zcu8,h,h',hc,a1,a3,z,zi,zn,b46,d46,b95,d95,b45]
    exact ⟨i+1,z515 (by simp (disch:=first|omega|simp<;>omega|fail) [-zA,-zB,-zC,-zD,-zE,S610,zcu8]) (by simp (disch:=first|omega|simp<;>omega|fail) [-zA,-zB,-zC,-zD,-zE,S610,zcu8]),by omega,⟨by omega,e⟩⟩
   have d45:(c == 45#8)=false:=by simp [b45]
   have e:=rej (by rw [hn]; simp [a1,a3,z,zi,zn,b46,d46,b95,d95,b45,d45])
   simp (disch:=first|omega|simp<;>omega|fail) [-zA,-zB,-zC,-zD,-zE,zoac,zcu8,h,h',hc,e,a1,a3,z,zi,zn,b46,d46,b95,d95,b45,d45]
  by_cases a4:c≤57#8
  case neg =>
   by_cases z:i=0
   case pos =>
    subst z
    have hne:¬ s=[]:=fun q=>by rw [q] at h; simp at h
    have e:=rej (by rw [hn]; simp [a1,a3,a4,hne])
    simp (disch:=first|omega|simp<;>omega|fail) [-zA,-zB,-zC,-zD,-zE,zoac,zcu8,h,h',hc,e,a1,a3,a4,hne]
   have zi:(0:Int)<i:=by omega
   have zn:0<i:=by omega
   by_cases b46:c=46#8
   case pos =>
    have d46:(c == 46#8)=true:=by simp [b46]
    have e:=acc (by rw [hn]; simp [a1,a3,a4,z,zi,zn,b46])
    simp (disch:=first|omega|simp<;>omega|fail) [-zA,-zB,-zC,-zD,-zE,zoac,zcu8,h,h',hc,a1,a3,a4,z,zi,zn,b46]
    exact ⟨i+1,z515 (by simp (disch:=first|omega|simp<;>omega|fail) [-zA,-zB,-zC,-zD,-zE,S610,zcu8]) (by simp (disch:=first|omega|simp<;>omega|fail) [-zA,-zB,-zC,-zD,-zE,S610,zcu8]),by omega,⟨by omega,e⟩⟩
   have d46:(c == 46#8)=false:=by simp [b46]
   by_cases b95:c=95#8
   case pos =>
    have d95:(c == 95#8)=true:=by simp [b95]
    have e:=acc (by rw [hn]; simp [a1,a3,a4,z,zi,zn,b46,d46,b95])
    simp (disch:=first|omega|simp<;>omega|fail) [-zA,-zB,-zC,-zD,-zE,zoac,zcu8,h,h',hc,a1,a3,a4,z,zi,zn,b46,d46,b95]
    exact ⟨i+1,z515 (by simp (disch:=first|omega|simp<;>omega|fail) [-zA,-zB,-zC,-zD,-zE,S610,zcu8]) (by simp (disch:=first|omega|simp<;>omega|fail) [-zA,-zB,-zC,-zD,-zE,S610,zcu8]),by omega,⟨by omega,e⟩⟩
   have d95:(c == 95#8)=false:=by simp [b95]
   by_cases b45:c=45#8
   case pos =>
    have d45:(c == 45#8)=true:=by simp [b45]
    have e:=acc (by rw [hn]; simp [a1,a3,a4,z,zi,zn,b46,d46,b95,d95,b45])
    simp (disch:=first|omega|simp<;>omega|fail) [-zA,-zB,-zC,-zD,-zE,zoac,zcu8,h,h',hc,a1,a3,a4,z,zi,zn,b46,d46,b95,d95,b45]
    exact ⟨i+1,z515 (by simp (disch:=first|omega|simp<;>omega|fail) [-zA,-zB,-zC,-zD,-zE,S610,zcu8]) (by simp (disch:=first|omega|simp<;>omega|fail) [-zA,-zB,-zC,-zD,-zE,S610,zcu8]),by omega,⟨by omega,e⟩⟩
   have d45:(c == 45#8)=false:=by simp [b45]
   have e:=rej (by rw [hn]; simp [a1,a3,a4,z,zi,zn,b46,d46,b95,d95,b45,d45])
   simp (disch:=first|omega|simp<;>omega|fail) [-zA,-zB,-zC,-zD,-zE,zoac,zcu8,h,h',hc,e,a1,a3,a4,z,zi,zn,b46,d46,b95,d95,b45,d45]
  have e:=acc (by rw [hn]; simp [a1,a3,a4])
  simp (disch:=first|omega|simp<;>omega|fail) [-zA,-zB,-zC,-zD,-zE,zoac,zcu8,h,h',hc,a1,a3,a4]
  exact ⟨i+1,z515 (by simp (disch:=first|omega|simp<;>omega|fail) [-zA,-zB,-zC,-zD,-zE,S610,zcu8]) (by simp (disch:=first|omega|simp<;>omega|fail) [-zA,-zB,-zC,-zD,-zE,S610,zcu8]),by omega,⟨by omega,e⟩⟩
 by_cases a2:c≤122#8
 case neg =>
  by_cases a3:48#8≤c
  case neg =>
   by_cases z:i=0
   case pos =>
    subst z
    have hne:¬ s=[]:=fun q=>by rw [q] at h; simp at h
    have e:=rej (by rw [hn]; simp [a1,a2,a3,hne])
    simp (disch:=first|omega|simp<;>omega|fail) [-zA,-zB,-zC,-zD,-zE,zoac,zcu8,h,h',hc,e,a1,a2,a3,hne]
   have zi:(0:Int)<i:=by omega
   have zn:0<i:=by omega
   by_cases b46:c=46#8
   case pos =>
    have d46:(c == 46#8)=true:=by simp [b46]
    have e:=acc (by rw [hn]; simp [a1,a2,a3,z,zi,zn,b46])
    simp (disch:=first|omega|simp<;>omega|fail) [-zA,-zB,-zC,-zD,-zE,zoac,zcu8,h,h',hc,a1,a2,a3,z,zi,zn,b46]
    exact ⟨i+1,z515 (by simp (disch:=first|omega|simp<;>omega|fail) [-zA,-zB,-zC,-zD,-zE,S610,zcu8]) (by simp (disch:=first|omega|simp<;>omega|fail) [-zA,-zB,-zC,-zD,-zE,S610,zcu8]),by omega,⟨by omega,e⟩⟩
   have d46:(c == 46#8)=false:=by simp [b46]
   by_cases b95:c=95#8
   case pos =>
    have d95:(c == 95#8)=true:=by simp [b95]
    have e:=acc (by rw [hn]; simp [a1,a2,a3,z,zi,zn,b46,d46,b95])
    simp (disch:=first|omega|simp<;>omega|fail) [-zA,-zB,-zC,-zD,-zE,zoac,zcu8,h,h',hc,a1,a2,a3,z,zi,zn,b46,d46,b95]
    exact ⟨i+1,z515 (by simp (disch:=first|omega|simp<;>omega|fail) [-zA,-zB,-zC,-zD,-zE,S610,zcu8]) (by simp (disch:=first|omega|simp<;>omega|fail) [-zA,-zB,-zC,-zD,-zE,S610,zcu8]),by omega,⟨by omega,e⟩⟩
   have d95:(c == 95#8)=false:=by simp [b95]
   by_cases b45:c=45#8
   case pos =>
    have d45:(c == 45#8)=true:=by simp [b45]
    have e:=acc (by rw [hn]; simp [a1,a2,a3,z,zi,zn,b46,d46,b95,d95,b45])
    simp (disch:=first|omega|simp<;>omega|fail) [-zA,-zB,-zC,-zD,-zE,zoac,zcu8,h,h',hc,a1,a2,a3,z,zi,zn,b46,d46,b95,d95,b45]
    exact ⟨i+1,z515 (by simp (disch:=first|omega|simp<;>omega|fail) [-zA,-zB,-zC,-zD,-zE,S610,zcu8]) (by simp (disch:=first|omega|simp<;>omega|fail) [-zA,-zB,-zC,-zD,-zE,S610,zcu8]),by omega,⟨by omega,e⟩⟩
   have d45:(c == 45#8)=false:=by simp [b45]
   have e:=rej (by rw [hn]; simp [a1,a2,a3,z,zi,zn,b46,d46,b95,d95,b45,d45])
   simp (disch:=first|omega|simp<;>omega|fail) [-zA,-zB,-zC,-zD,-zE,zoac,zcu8,h,h',hc,e,a1,a2,a3,z,zi,zn,b46,d46,b95,d95,b45,d45]
  by_cases a4:c≤57#8
  case neg =>
   by_cases z:i=0
   case pos =>
    subst z
    have hne:¬ s=[]:=fun q=>by rw [q] at h; simp at h
    have e:=rej (by rw [hn]; simp [a1,a2,a3,a4,hne])
    simp (disch:=first|omega|simp<;>omega|fail) [-zA,-zB,-zC,-zD,-zE,zoac,zcu8,h,h',hc,e,a1,a2,a3,a4,hne]
   have zi:(0:Int)<i:=by omega
   have zn:0<i:=by omega
   by_cases b46:c=46#8
   case pos =>
    have d46:(c == 46#8)=true:=by simp [b46]
    have e:=acc (by rw [hn]; simp [a1,a2,a3,a4,z,zi,zn,b46])
    simp (disch:=first|omega|simp<;>omega|fail) [-zA,-zB,-zC,-zD,-zE,zoac,zcu8,h,h',hc,a1,a2,a3,a4,z,zi,zn,b46]
    exact ⟨i+1,z515 (by simp (disch:=first|omega|simp<;>omega|fail) [-zA,-zB,-zC,-zD,-zE,S610,zcu8]) (by simp (disch:=first|omega|simp<;>omega|fail) [-zA,-zB,-zC,-zD,-zE,S610,zcu8]),by omega,⟨by omega,e⟩⟩
   have d46:(c == 46#8)=false:=by simp [b46]
   by_cases b95:c=95#8
   case pos =>
    have d95:(c == 95#8)=true:=by simp [b95]
    have e:=acc (by rw [hn]; simp [a1,a2,a3,a4,z,zi,zn,b46,d46,b95])
    simp (disch:=first|omega|simp<;>omega|fail) [-zA,-zB,-zC,-zD,-zE,zoac,zcu8,h,h',hc,a1,a2,a3,a4,z,zi,zn,b46,d46,b95]
    exact ⟨i+1,z515 (by simp (disch:=first|omega|simp<;>omega|fail) [-zA,-zB,-zC,-zD,-zE,S610,zcu8]) (by simp (disch:=first|omega|simp<;>omega|fail) [-zA,-zB,-zC,-zD,-zE,S610,zcu8]),by omega,⟨by omega,e⟩⟩
   have d95:(c == 95#8)=false:=by simp [b95]
   by_cases b45:c=45#8
   case pos =>
    have d45:(c == 45#8)=true:=by simp [b45]
    have e:=acc (by rw [hn]; simp [a1,a2,a3,a4,z,zi,zn,b46,d46,b95,d95,b45])
    simp (disch:=first|omega|simp<;>omega|fail) [-zA,-zB,-zC,-zD,-zE,zoac,zcu8,h,h',hc,a1,a2,a3,a4,z,zi,zn,b46,d46,b95,d95,b45]
    exact ⟨i+1,z515 (by simp (disch:=first|omega|simp<;>omega|fail) [-zA,-zB,-zC,-zD,-zE,S610,zcu8]) (by simp (disch:=first|omega|simp<;>omega|fail) [-zA,-zB,-zC,-zD,-zE,S610,zcu8]),by omega,⟨by omega,e⟩⟩
   have d45:(c == 45#8)=false:=by simp [b45]
   have e:=rej (by rw [hn]; simp [a1,a2,a3,a4,z,zi,zn,b46,d46,b95,d95,b45,d45])
   simp (disch:=first|omega|simp<;>omega|fail) [-zA,-zB,-zC,-zD,-zE,zoac,zcu8,h,h',hc,e,a1,a2,a3,a4,z,zi,zn,b46,d46,b95,d95,b45,d45]
  have e:=acc (by rw [hn]; simp [a1,a2,a3,a4])
  simp (disch:=first|omega|simp<;>omega|fail) [-zA,-zB,-zC,-zD,-zE,zoac,zcu8,h,h',hc,a1,a2,a3,a4]
  exact ⟨i+1,z515 (by simp (disch:=first|omega|simp<;>omega|fail) [-zA,-zB,-zC,-zD,-zE,S610,zcu8]) (by simp (disch:=first|omega|simp<;>omega|fail) [-zA,-zB,-zC,-zD,-zE,S610,zcu8]),by omega,⟨by omega,e⟩⟩
 have e:=acc (by rw [hn]; simp [a1,a2])
 simp (disch:=first|omega|simp<;>omega|fail) [-zA,-zB,-zC,-zD,-zE,zoac,zcu8,h,h',hc,a1,a2]
 exact ⟨i+1,z515 (by simp (disch:=first|omega|simp<;>omega|fail) [-zA,-zB,-zC,-zD,-zE,S610,zcu8]) (by simp (disch:=first|omega|simp<;>omega|fail) [-zA,-zB,-zC,-zD,-zE,S610,zcu8]),by omega,⟨by omega,e⟩⟩
def zc84:List Str:=[[],[109,97,116,99,104],[99,114,101,97,116,101],[109,111,100,105,102,121],[100,101,108,101,116,101],[97,108,108,111,119],[100,105,115,97,108,108,111,119],[114,101,113,117,105,114,101]]
def zk3j (k:Int):Str:=if 0≤k∧k<8 then zc84.getD k.toNat [] else []
theorem zcgp {k:Int}:zk3j k≠[]↔1≤k∧k≤7:=by
 unfold zk3j
 by_cases h:0≤k∧k<8
 ·rw [if_pos h]
  obtain ⟨n,rfl⟩:=Int.eq_ofNat_of_zero_le h.1
  have hn:n<8:=by omega
  simp only [Int.toNat_natCast]
  rcases n with _|_|_|_|_|_|_|_|n<;>first|omega|simp [zc84]
 ·rw [if_neg h]; simp; omega
theorem z4iz (k:Int):Runs tbl0 a76 [.int .i64 k] (.str (zk3j k)):=by
 refine ⟨?_⟩
 by_cases h0:k<0
 ·have hr:zk3j k=[]:=if_neg (by omega)
  simp (disch:=first|omega|simp<;>omega|fail) [-zA,-zB,-zC,-zD,-zE,a76,h0,hr]
 by_cases h8:8≤k
 ·have hr:zk3j k=[]:=if_neg (by omega)
  simp (disch:=first|omega|simp<;>omega|fail) [-zA,-zB,-zC,-zD,-zE,a76,h0,h8,hr]
 obtain ⟨n,rfl⟩:=Int.eq_ofNat_of_zero_le (Int.not_lt.1 h0)
 have hn:n<8:=by omega
 rcases n with _|_|_|_|_|_|_|_|n
 all_goals first|omega|skip
 all_goals simp (disch:=first|omega|simp<;>omega|fail) [-zA,-zB,-zC,-zD,-zE,a76,zk3j,zc84]
def cWd:List DV→Option DV
 | [.int .i64 k]=>some (.str (zk3j k))|_=>none
theorem zjhb {k:Int}:cWd [.int .i64 k]=some (.str (zk3j k)):=rfl
theorem zubl:(Con.pure cWd).Sound P 76:=by
 intro args v e
 unfold cWd at e
 split at e
 ·simp at e; subst e; exact zljw mix zr5o Tryd.func76 zqxf (z4iz _)
 ·simp at e
def zdxf:Tbl:=addT 89 (.pure (cS za1j)) tbl0
theorem zz8j:zdxf 89 = .pure (cS za1j):=by simp [zdxf]
theorem zunx:zdxf.Sound P:=z0rp (zzn8 fun p=>zljw mix zhpa Tryd.func89 z42j (z08u p)) zr5o
theorem zpkv (s:Str):Runs zdxf a79 [.str s] (dirB s):=by
 refine ⟨?_⟩
 by_cases h:s=[]
 ·subst h
  have hd:dirB [] = .bool true:=rfl
  simp (disch:=first|omega|simp<;>omega|fail) [-zA,-zB,-zC,-zD,-zE,a79,hd]
 ·have hd:dirB s = .bool (zj1f s):=by simp [dirB,dirD,h]
  simp (disch:=first|omega|simp<;>omega|fail) [-zA,-zB,-zC,-zD,-zE,a79,h,hd,zz8j,zk5k,za1j]
def zd6f (s:Str):DV := .bool (zt9v s)
noncomputable def z4sn:Tbl:=addT 76 (.pure cWd) (addT 77 (.pure (cS z01o)) (addT 78 (.pure (cS zd6f)) (addT 79 (.pure (cS dirB)) tbl0)))
theorem zlo5:z4sn 76 = .pure cWd:=by simp [z4sn]
theorem zor1:z4sn 77 = .pure (cS z01o):=by simp [z4sn]
theorem zq2j:z4sn 78 = .pure (cS zd6f):=by simp [z4sn]
theorem z95a:z4sn 79 = .pure (cS dirB):=by simp [z4sn]
theorem zzy1:z4sn.Sound P:=z0rp zubl (z0rp (zzn8 fun s=>zljw mix zeib Tryd.func77 z20a (ztir s)) (z0rp (zzn8 fun s=>zljw mix zr5o Tryd.func78 zetr (zrln s)) (z0rp (zzn8 fun s=>zljw mix zunx Tryd.func79 zaq4 (zpkv s)) zr5o)))
def z8mn (r:Rul):Bool :=
 (!decide (zk3j r.kind=[]))&&(zfn1 r.pat).isSome&&(if r.kind=1 then zt9v r.frm&&dirD r.inn&&dirD r.to else decide (r.frm=[])&&decide (r.inn=[])&&decide (r.to=[]) && !r.prod)
theorem z7ip (r:Rul):Runs z4sn a29 [.agg (ruC r)] (.bool (z8mn r)):=by
 refine ⟨?_⟩
 obtain ⟨k,p,f,pr,i,t⟩:=r
 by_cases h1:zk3j k=[]
 ·simp (disch:=first|omega|simp<;>omega|fail) [-zA,-zB,-zC,-zD,-zE,a29,zlo5,zjhb,h1,z8mn]
 cases h2:(zfn1 p).isSome with
 | false=>simp (disch:=first|omega|simp<;>omega|fail) [-zA,-zB,-zC,-zD,-zE,a29,zlo5,zjhb,h1,zor1,zk5k,z01o,h2,z8mn]
 | true =>
 by_cases h3:k=1
 ·subst h3
  cases h4:zt9v f with
  | false=>simp (disch:=first|omega|simp<;>omega|fail) [-zA,-zB,-zC,-zD,-zE,a29,zlo5,zjhb,h1,zor1,zk5k,z01o,h2,z8mn,zq2j,zd6f,h4]
  | true =>
  cases h5:dirD i with
  | false=>simp (disch:=first|omega|simp<;>omega|fail) [-zA,-zB,-zC,-zD,-zE,a29,zlo5,zjhb,h1,zor1,zk5k,z01o,h2,z8mn,zq2j,zd6f,h4,z95a,dirB,h5]
  | true =>
  cases h6:dirD t with
  | false=>simp (disch:=first|omega|simp<;>omega|fail) [-zA,-zB,-zC,-zD,-zE,a29,zlo5,zjhb,h1,zor1,zk5k,z01o,h2,z8mn,zq2j,zd6f,h4,z95a,dirB,h5,h6]
  | true=>simp (disch:=first|omega|simp<;>omega|fail) [-zA,-zB,-zC,-zD,-zE,a29,zlo5,zjhb,h1,zor1,zk5k,z01o,h2,z8mn,zq2j,zd6f,h4,z95a,dirB,h5,h6]
 by_cases h4:f=[]
 case neg=>simp (disch:=first|omega|simp<;>omega|fail) [-zA,-zB,-zC,-zD,-zE,a29,zlo5,zjhb,h1,zor1,zk5k,z01o,h2,z8mn,h3,h4]
 by_cases h5:i=[]
 case neg=>simp (disch:=first|omega|simp<;>omega|fail) [-zA,-zB,-zC,-zD,-zE,a29,zlo5,zjhb,h1,zor1,zk5k,z01o,h2,z8mn,h3,h4,h5]
 by_cases h6:t=[]
 case neg=>simp (disch:=first|omega|simp<;>omega|fail) [-zA,-zB,-zC,-zD,-zE,a29,zlo5,zjhb,h1,zor1,zk5k,z01o,h2,z8mn,h3,h4,h5,h6]
 cases pr with
 | false=>simp (disch:=first|omega|simp<;>omega|fail) [-zA,-zB,-zC,-zD,-zE,a29,zlo5,zjhb,h1,zor1,zk5k,z01o,h2,z8mn,h3,h4,h5,h6]
 | true=>simp (disch:=first|omega|simp<;>omega|fail) [-zA,-zB,-zC,-zD,-zE,a29,zlo5,zjhb,h1,zor1,zk5k,z01o,h2,z8mn,h3,h4,h5,h6]
noncomputable def cVr:List DV→Option DV:=con (fun _=>True) (fun r:Rul=>[.agg (ruC r)]) (fun r => .bool (z8mn r))
theorem zrgx {a b:Rul} (e:[DV.agg (ruC a)]=[.agg (ruC b)]):a=b:=by
 simp only [List.cons.injEq,DV.agg.injEq,and_true] at e; exact z49a e
theorem zu0t {r:Rul}:cVr [.agg (ruC r)]=some (.bool (z8mn r)):=zsn4 (f:=fun r:Rul=>[.agg (ruC r)]) (g:=fun r => .bool (z8mn r)) (fun _ _ e=>zrgx e) r
theorem zl71:(Con.pure cVr).Sound P 29:=z2au fun r _=>zljw mix zzy1 Tryd.func29 ztig (z7ip r)
noncomputable def znbj:Tbl:=addT 29 (.pure cVr) tbl0
theorem zmf2:znbj 29 = .pure cVr:=by simp [znbj]
theorem zs7d:znbj.Sound P:=z0rp zl71 zr5o
theorem zzb3 (r:Rul):Runs znbj a69 [.agg (ruC r)] (.bool (!z8mn r)):=by
 refine ⟨?_⟩
 simp (disch:=first|omega|simp<;>omega|fail) [-zA,-zB,-zC,-zD,-zE,a69,zmf2,zu0t]
noncomputable def cSt1:List DV→Option DV:=con (fun _=>True) (fun r:Rul=>[.agg (ruC r)]) (fun r => .bool (!z8mn r))
theorem zron {r:Rul}:cSt1 [.agg (ruC r)]=some (.bool (!z8mn r)):=zsn4 (f:=fun r:Rul=>[.agg (ruC r)]) (g:=fun r => .bool (!z8mn r)) (fun _ _ e=>zrgx e) r
theorem zi8g:(Con.pure cSt1).Sound P 69:=z2au fun r _=>zljw mix zs7d Tryd.func69 z713 (zzb3 r)
noncomputable def z9i4:Tbl:=addT 69 (.pure cSt1) tbl0
theorem zqe3:z9i4 69 = .pure cSt1:=by simp [z9i4]
theorem zmya:z9i4.Sound P:=z0rp zi8g zr5o
def zhhe:DV := .fn (.func 69) [] []
theorem zwr8:zyp8 zhhe=true:=rfl
def z0ip (x:Sl Rul) (i:Nat):St:=z7nn (x.dv 6 ruC) zhhe (.int .i64 x.l.length) (.int .i64 i) []
theorem z3w5 (x:Sl Rul):Runs z9i4 a127 [x.dv 6 ruC,zhhe] (.int .i64 (fIx (fun r => !z8mn r) x.l)):=by
 refine ⟨?_⟩
 have hb:=x.b
 simp (disch:=first|omega|simp<;>omega|fail) [-zA,-zB,-zC,-zD,-zE,a127]
 refine zlm5 (z0ip x) (fun i=>x.l.length-i) (fun i=>i≤x.l.length ∧ ∀ j (h:j<x.l.length),j<i→(!z8mn x.l[j])=false) 0 (z515 (by simp (disch:=first|omega|simp<;>omega|fail) [-zA,-zB,-zC,-zD,-zE,z0ip,z7nn]) (by simp (disch:=first|omega|simp<;>omega|fail) [-zA,-zB,-zC,-zD,-zE,z0ip,z7nn])) ⟨by omega,fun j _ hj=>by omega⟩ (fun i hi => ?_)
 obtain ⟨q1,q2⟩:=hi
 simp only [z0ip]
 by_cases q:i<x.l.length
 ·have g':(i:Int)<x.l.length:=by omega
  have hy : ∀ H,zpsc H 6 (x.dv 6 ruC) i=some (.ref (ruC x.l[i])):=fun H=>zalo zpvo q
  have hinv:(!z8mn x.l[i])=false → ∀ j (h:j<x.l.length),j<i+1→(!z8mn x.l[j])=false:=fun e j hj hji=>by
   by_cases ej:j=i
   ·subst ej; exact e
   ·exact q2 j hj (by omega)
  have hr:(!z8mn x.l[i])=true→fIx (fun r => !z8mn r) x.l=i:=fun e=>z67l q e q2
  obtain ⟨u,hu⟩ : ∃ u,x.l[i]=u:=⟨_,rfl⟩
  rw [hu] at hy hinv hr
  have hc:=zron (r:=u)
  cases e:z8mn u with
  | false =>
   have hr:=hr (by rw [e]; rfl)
   rw [e] at hc
   simp (disch:=first|omega|simp<;>omega|fail) [-zA,-zB,-zC,-zD,-zE,zp34,z7nn,q,g',hy,zhhe,zqe3,hc,hr]
  | true =>
   have hinv:=hinv (by rw [e]; rfl)
   rw [e] at hc
   simp (disch:=first|omega|simp<;>omega|fail) [-zA,-zB,-zC,-zD,-zE,zp34,z7nn,q,g',hy,zhhe,zqe3,hc]
   exact ⟨i+1,z515 (by simp (disch:=first|omega|simp<;>omega|fail) [-zA,-zB,-zC,-zD,-zE,z0ip,z7nn,zhhe]) (by simp (disch:=first|omega|simp<;>omega|fail) [-zA,-zB,-zC,-zD,-zE,z0ip,z7nn]),by omega,by omega,fun j h hj=>by simpa using hinv j h hj⟩
 ·have g':¬ (i:Int)<x.l.length:=by omega
  have hr:fIx (fun r => !z8mn r) x.l = -1:=zf0r fun a ha=>by
   obtain ⟨j,hj,e⟩:=List.getElem_of_mem ha
   have:=q2 j hj (by omega)
   rw [e] at this; exact this
  simp (disch:=first|omega|simp<;>omega|fail) [-zA,-zB,-zC,-zD,-zE,zp34,z7nn,q,g',hr]
noncomputable def cRix:List DV→Option DV:=con (fun _=>True) (fun x:Sl Rul=>[x.dv 6 ruC,zhhe]) (fun x => .int .i64 (fIx (fun r => !z8mn r) x.l))
theorem zsaa {x:Sl Rul}:cRix [x.dv 6 ruC,zhhe]=some (.int .i64 (fIx (fun r => !z8mn r) x.l)) :=
 zsn4 (f:=fun x:Sl Rul=>[x.dv 6 ruC,zhhe]) (g:=fun x => .int .i64 (fIx (fun r => !z8mn r) x.l)) (fun a b e=>by
  simp only [List.cons.injEq,and_true] at e; exact z041 e) x
noncomputable def z4gw:Tbl:=addT 127 (.pure cRix) tbl0
theorem z6d2:z4gw 127 = .pure cRix:=by simp [z4gw]
theorem zcm4:z4gw.Sound P:=z0rp (z2au fun x _=>zljw mix zmya Tryd.func127 z6yq (z3w5 x)) zr5o
theorem zs42 {α:Type} {p:α→Bool} {l:List α}:(0≤fIx p l)↔l.any p=true:=by
 rcases za4c p l with ⟨h1,h2⟩|⟨i,hi,h1,h2,_⟩
 ·rw [h1]
  refine ⟨fun q=>by omega,fun q => ?_⟩
  obtain ⟨a,ha,e⟩:=List.any_eq_true.1 q
  rw [h2 a ha] at e; cases e
 ·rw [h1]
  exact ⟨fun _=>List.any_eq_true.2 ⟨_,List.getElem_mem hi,h2⟩,fun _=>by omega⟩
theorem z2j9 (x:Sl Rul):Runs z4gw a68 [x.dv 6 ruC,zhhe] (.bool (x.l.any fun r => !z8mn r)):=by
 refine ⟨?_⟩
 have h:=zs42 (p:=fun r => !z8mn r) (l:=x.l)
 have hd:decide (0≤fIx (fun r => !z8mn r) x.l)=x.l.any fun r => !z8mn r:=by
  cases e:x.l.any fun r => !z8mn r with
  | true=>exact decide_eq_true (h.2 e)
  | false=>exact decide_eq_false fun q=>by rw [h.1 q] at e; cases e
 have hc:=zsaa (x:=x)
 have hz : ∀ K h,mk1 K h zhhe=zhhe:=fun K h=>zvft rfl
 simp (disch:=first|omega|simp<;>omega|fail) [-zA,-zB,-zC,-zD,-zE,a68,z6d2,hc,zwr8,hd]
noncomputable def cRcn:List DV→Option DV:=con (fun _=>True) (fun x:Sl Rul=>[x.dv 6 ruC,zhhe]) (fun x => .bool (x.l.any fun r => !z8mn r))
theorem zitv {x:Sl Rul}:cRcn [x.dv 6 ruC,zhhe]=some (.bool (x.l.any fun r => !z8mn r)) :=
 zsn4 (f:=fun x:Sl Rul=>[x.dv 6 ruC,zhhe]) (g:=fun x => .bool (x.l.any fun r => !z8mn r)) (fun a b e=>by
  simp only [List.cons.injEq,and_true] at e; exact z041 e) x
noncomputable def zpjz:Tbl:=addT 68 (.pure cRcn) tbl0
theorem zn6b:zpjz 68 = .pure cRcn:=by simp [zpjz]
theorem zwkl:zpjz.Sound P:=z0rp (z2au fun x _=>zljw mix zcm4 Tryd.func68 z20i (z2j9 x)) zr5o
def ze5r:Str:=[42,42]
def zaba (l:List Rul):Bool:=match l.getLast? with
 | none=>false
 | some r=>l.all z8mn&&decide (r.kind=6)&&decide (r.pat=ze5r)
theorem zse4 (x:Sl Rul):Runs zpjz a21 [x.dv 6 ruC] (.bool (zaba x.l)):=by
 refine ⟨?_⟩
 have hb:=x.b
 have hl : ∀ H,lenD H (x.dv 6 ruC)=some (.int .i64 x.l.length):=fun H=>zupj
 have hc:=zitv (x:=x)
 simp only [zhhe] at hc
 by_cases h0:x.l=[]
 ·have hr:zaba x.l=false:=by rw [h0]; rfl
  rw [h0] at hl
  simp (disch:=first|omega|simp<;>omega|fail) [-zA,-zB,-zC,-zD,-zE,a21,hl,hr]
 have hn:x.l.length≠0:=fun q=>h0 (List.eq_nil_of_length_eq_zero q)
 have hn0:¬ (x.l.length:Int)=0:=by omega
 have hla:x.l.getLast? = some (x.l[x.l.length-1]'(by omega)):=by rw [List.getLast?_eq_getElem?,List.getElem?_eq_getElem (by omega)]
 have hy : ∀ H,zpsc H 6 (x.dv 6 ruC) ((x.l.length:Int)-1)=some (.ref (ruC (x.l[x.l.length-1]'(by omega)))):=fun H=>by
  have:=zalo (h:=H) (x:=x) (i:=x.l.length-1) zpvo (by omega)
  rwa [show ((x.l.length-1:Nat):Int)=(x.l.length:Int)-1 by omega] at this
 have hall:(x.l.any fun r => !z8mn r) = !x.l.all z8mn:=by
  rw [← List.not_all_eq_any_not]
 cases ha:x.l.all z8mn with
 | false =>
  have hr:zaba x.l=false:=by unfold zaba; rw [hla]; simp only [ha,Bool.false_and]
  rw [hall,ha] at hc
  simp (disch:=first|omega|simp<;>omega|fail) [-zA,-zB,-zC,-zD,-zE,a21,hl,hr,hn0,hn,h0,zn6b,hc]
 | true =>
  obtain ⟨u,hu⟩ : ∃ u,(x.l[x.l.length-1]'(by omega))=u:=⟨_,rfl⟩
  rw [hu] at hla hy
  have hr:zaba x.l=(decide (u.kind=6)&&decide (u.pat=ze5r)):=by unfold zaba; rw [hla]; simp only [ha,Bool.true_and]
  rw [hall,ha] at hc
  obtain ⟨N,hN⟩ : ∃ N,x.l.length=N:=⟨_,rfl⟩
  rw [hN] at hl hn0 hn hy hb
  rw [hr]
  by_cases h6:u.kind=6
  ·simp (disch:=first|omega|simp<;>omega|fail) [-zA,-zB,-zC,-zD,-zE,a21,hl,hn0,hn,h0,zn6b,hc,hy,h6,ze5r]
   try (congr)
  ·simp (disch:=first|omega|simp<;>omega|fail) [-zA,-zB,-zC,-zD,-zE,a21,hl,hn0,hn,h0,zn6b,hc,hy,h6,ze5r]
noncomputable def cStr:List DV→Option DV:=con (fun _=>True) (fun x:Sl Rul=>[x.dv 6 ruC]) (fun x => .bool (zaba x.l))
theorem zg71 {x:Sl Rul}:cStr [x.dv 6 ruC]=some (.bool (zaba x.l)) :=
 zsn4 (f:=fun x:Sl Rul=>[x.dv 6 ruC]) (g:=fun x => .bool (zaba x.l)) (fun a b e=>by
  simp only [List.cons.injEq,and_true] at e; exact z041 e) x
theorem zabo:(Con.pure cStr).Sound P 21:=z2au fun x _=>zljw mix zwkl Tryd.func21 zyfb (zse4 x)
end Go.Proofs.YtjknipdiglpnlaaDoor
set_option linter.unusedSimpArgs false
set_option linter.unusedVariables false
namespace Go.Proofs.YtjknipdiglpnlaaDoor
open Go Go.Am
def iV:DV→Option Int
 | .int .i64 n=>some n
 | _=>none
def mm2 (m:Bool) (x y:DV):Option DV:=(iV x).bind fun a=>(iV y).bind fun b=>some (.int .i64 (if m then max a b else min a b))
theorem zy6n {a b:Int}:mm2 false (.int .i64 a) (.int .i64 b)=some (.int .i64 (min a b)):=rfl
theorem zluv {T:Tbl} {dr m:Bool} {x y:Opd} {t:List DV} {h:List AObj}:zn3j T dr (.mm m [x,y]) t h=pr (mm2 m (ev t x) (ev t y)) h:=by
 simp only [zn3j,evOp]
 refine (congrArg (fun q=>Option.bind q _) (zd7r (g:=fun z=>iV (ev t z)) fun z _ => ?_)).trans ?_
 ·generalize ev t z=d
  cases d with
  | int k n=>cases k<;>rfl
  | _=>rfl
 ·simp only [zp5p,mm2]
  cases iV (ev t x)<;>cases iV (ev t y)<;>rfl
def cnD (s:List UInt8) (c:B8):DV := .int .i64 (Lib.countByte s c.toNat.toUInt8)
def cn1 (s:List UInt8) (c:UInt8):DV := .int .i64 (Lib.countByte s c)
def T70:Tbl:=addT 177 (.pure (cSB cnD)) tbl0
theorem zsdt:T70 177 = .pure (cSB cnD):=by simp [T70]
theorem zc9y:T70.Sound P:=z0rp (zboo fun s c=>zxuw Tryd.func177 (by kernel_rfl) (by kernel_rfl) (by kernel_rfl) (by kernel_rfl) s c) zr5o
theorem z1yh (s:List UInt8) (c:UInt8):Runs T70 a155 [.str s,.str [c]] (cn1 s c):=by
 refine ⟨?_⟩
 simp (disch:=first|omega|simp<;>omega|fail) [-zA,-zB,-zC,-zD,-zE,a155,zsdt,zvdo,cnD,cn1,zq22]
def T71:Tbl:=addT 155 (.pure (cS1 cn1)) (addT 156 (.pure (cS1 ix1)) tbl0)
theorem zovh:T71 155 = .pure (cS1 cn1):=by simp [T71]
theorem z7wv:T71 156 = .pure (cS1 ix1):=by simp [T71]
theorem zfkh:T71.Sound P:=z0rp (zpzi fun s c=>zljw mix zc9y Tryd.func155 zvdi (z1yh s c)) (z0rp (zpzi fun s c=>zljw mix zyuf Tryd.func156 z9pj (zazq s c)) zr5o)
def strs (l:List (List UInt8)):List DV:=l.map DV.str
def zabr (s:List UInt8):DV := .sl false 1 (z2fg s).length (strs (z2fg s))
def z0du (l:List (List UInt8)) (i:Nat):List (List UInt8):=l.take i++List.replicate (l.length-i) []
theorem za0c {l:List (List UInt8)} {i:Nat} (h:i≤l.length):(z0du l i).length=l.length:=by simp [z0du]; omega
theorem zaz4 {l:List (List UInt8)} {i:Nat} (h:i<l.length):(z0du l i).set i l[i]=z0du l (i+1):=by
 unfold z0du
 have hl:(l.take i).length=i:=List.length_take_of_le (by omega)
 rw [List.set_append_right _ _ (by omega),hl,Nat.sub_self,zmqh h]
 obtain ⟨m,hm⟩ : ∃ m,l.length-i=m+1:=⟨l.length-i-1,by omega⟩
 rw [hm,show l.length-(i+1)=m by omega,List.replicate_succ,List.set_cons_zero,List.append_assoc]
 rfl
theorem z13y (l:List (List UInt8)):z0du l l.length=l:=by simp [z0du]
theorem zmfi (l:List (List UInt8)):rep l.length (DV.str [])=strs (z0du l 0):=by simp [rep,z0du,strs]
theorem zw6r {l:List (List UInt8)} {i:Nat} {x:List UInt8}:(strs l).set i (.str x)=strs (l.set i x):=by simp [strs,List.map_set]
theorem zy2g (l:List (List UInt8)):(strs l).length=l.length:=by simp [strs]
theorem zgvs : ∀ (l:List (List UInt8)),zbao (strs l)=true
 | []=>rfl
 | x::l=>by
  have:=zgvs l
  simp only [strs,List.map_cons] at this ⊢
  simp [zbao,zyp8,this]
theorem zpp8 (h:List AObj) (k:Nat) (l:List (List UInt8)):z4tt h k (strs l)=some (strs l):=z619 (zgvs l)
structure X94 where
 i:Nat
 r:List UInt8
def S94 (s:List UInt8) (x:X94):St:=z3x7 (.str x.r) (.str [47]) (.int .i64 0) (.int .i64 ((z2fg s).length-1:Int)) (.ms 0 (z2fg s).length 0 1 (z2fg s).length (z2fg s).length) (.int .i64 x.i) [.cells (strs (z0du (z2fg s) x.i))]
def R94 (s:List UInt8) (x:X94):Prop:=x.r.length≤s.length∧x.i<(z2fg s).length∧(z2fg s).drop x.i=z2fg x.r
theorem zjnq (s:List UInt8) (c:UInt8):Lib.countByte s c≤s.length:=List.count_le_length
theorem z00p (s:List UInt8) (hs:s.length≤100000):Runs T71 a108 [.str s,.str [47],.int .i64 0,.int .i64 (-1)] (zabr s):=by
 refine ⟨?_⟩
 have hlc:=z9lv s
 have hcl:=zjnq s 47
 obtain ⟨n,hn⟩ : ∃ n,(z2fg s).length=n:=⟨_,rfl⟩
 have hmin:min ((Lib.countByte s 47:Int)+1) ((s.length:Int)+1)=n:=by omega
 have hn1:(Lib.countByte s 47:Int)+1=n:=by omega
 have hn2:min (n:Int) ((s.length:Int)+1)=n:=by omega
 simp (disch:=first|omega|simp<;>omega|fail) [-zA,-zB,-zC,-zD,-zE,zluv,zy6n,a108,zovh,z8u6,cn1,hn1,hn2]
 have hr0:=zmfi (z2fg s)
 rw [hn] at hr0
 refine zlm5 (S94 s) (fun x=>x.r.length) (R94 s) ⟨0,s⟩ (z515 (by simp (disch:=first|omega|simp<;>omega|fail) [-zA,-zB,-zC,-zD,-zE,hn]) (by simp (disch:=first|omega|simp<;>omega|fail) [-zA,-zB,-zC,-zD,-zE,hr0])) ⟨Nat.le_refl _,by show 0<(z2fg s).length; omega,rfl⟩ (fun x hx => ?_)
 obtain ⟨i,r⟩:=x
 have hx':=hx
 obtain ⟨hrl,hi,hd⟩:=hx'
 simp only at hrl hi hd
 have hle:=za0c (l:=z2fg s) (i:=i) (by omega)
 have hls:=zy2g (z0du (z2fg s) i)
 simp (disch:=first|omega|simp<;>omega|fail) [-zA,-zB,-zC,-zD,-zE,z990,z3x7,S94,hn]
 by_cases h:i+1<n
 ·have h1:(i:Int)<(n:Int)-1:=by omega
  have hin:i<n:=by omega
  have hlr:(z2fg r).length=n-i:=by rw [← hd,List.length_drop,hn]
  by_cases hix:Lib.indexByte r 47 = -1
  ·rw [zbf3 hix] at hlr
   simp at hlr; omega
  ·obtain ⟨o,ho⟩ : ∃ o:Nat,Lib.indexByte r 47=o:=⟨(Lib.indexByte r 47).toNat,by have:=Lib.indexByte_ge r 47; omega⟩
   have hlt:=z8bu ho
   have hneg:¬ (o:Int)<0:=by omega
   have hol:(o:Int)≤r.length:=by omega
   have hol1:o≤r.length:=by omega
   have hol2:o+1≤r.length:=by omega
   have hol3:(o:Int)+1≤r.length:=by omega
   have e1:((o:Int)+1).toNat=o+1:=by omega
   have ht:(r.drop (o+1)).take (r.length-(o+1))=r.drop (o+1):=List.take_of_length_le (by simp)
   have hcs:=zjoj ho
   have hget:(z2fg s)[i]'(by omega)=r.take o:=by
    have:(z2fg s)[i]? = some (r.take o):=by
     have:=congrArg (·[0]?) hd
     simp only [List.getElem?_drop,Nat.add_zero,hcs] at this
     simpa using this
    exact (List.getElem?_eq_some_iff.1 this).2
   have hset:(strs (z0du (z2fg s) i)).set i (.str (r.take o))=strs (z0du (z2fg s) (i+1)):=by
    rw [zw6r,← hget,zaz4 (by omega)]
   have hd2:(z2fg s).drop (i+1)=z2fg (r.drop (o+1)):=by
    rw [← List.drop_drop,hd,hcs]; rfl
   simp (disch:=first|omega|simp<;>omega|fail) [-zA,-zB,-zC,-zD,-zE,h1,hin,z7wv,z8u6,ix1,ho,hneg,hol,hol1,hol2,hol3,e1,ht,hls,hle,hn]
   exact ⟨⟨i+1,r.drop (o+1)⟩,z515 (by simp (disch:=first|omega|simp<;>omega|fail) [-zA,-zB,-zC,-zD,-zE,hn]) (by simp (disch:=first|omega|simp<;>omega|fail) [-zA,-zB,-zC,-zD,-zE,hset]),by simp; omega,by simp only [List.length_drop]; omega,by show i+1<(z2fg s).length; omega,hd2⟩
 ·have h1:¬ (i:Int)<(n:Int)-1:=by omega
  have hin:i<n:=by omega
  have hi1:i+1=n:=by omega
  have hi2:(i:Int)+1=n:=by omega
  have hlr:(z2fg r).length=1:=by rw [← hd,List.length_drop]; omega
  have hcr:z2fg r=[r]:=by
   by_cases hix:Lib.indexByte r 47 = -1
   ·exact zbf3 hix
   ·obtain ⟨o,ho⟩ : ∃ o:Nat,Lib.indexByte r 47=o:=⟨(Lib.indexByte r 47).toNat,by have:=Lib.indexByte_ge r 47; omega⟩
    rw [zjoj ho] at hlr
    have:=zf0z (r.drop (o+1))
    simp at hlr
    exact absurd hlr this
  have hget:(z2fg s)[i]'(by omega)=r:=by
   have:(z2fg s)[i]? = some r:=by
    have:=congrArg (·[0]?) hd
    simp only [List.getElem?_drop,Nat.add_zero,hcr] at this
    simpa using this
   exact (List.getElem?_eq_some_iff.1 this).2
  have hset:(strs (z0du (z2fg s) i)).set i (.str r)=strs (z2fg s):=by
   rw [zw6r]
   conv=>lhs; rw [← hget]
   rw [zaz4 (by omega),show i+1=(z2fg s).length by omega,z13y]
  have hlc2:=zy2g (z2fg s)
  have htk:(strs (z2fg s)).take n=strs (z2fg s):=List.take_of_length_le (by omega)
  simp (disch:=first|omega|simp<;>omega|fail) [-zA,-zB,-zC,-zD,-zE,h1,hin,hi2,hls,hle,hn,hset,zabr,hlc2,htk,zpp8]
def cGS:List DV→Option DV
 | [.str s,.str [47],.int .i64 0,.int .i64 (-1)]=>if s.length≤100000 then some (zabr s) else none|_=>none
theorem z0qy {s:List UInt8} (h:s.length≤100000):cGS [.str s,.str [47],.int .i64 0,.int .i64 (-1)]=some (zabr s):=if_pos h
def T72:Tbl:=addT 108 (.pure cGS) tbl0
theorem ze0j:T72 108 = .pure cGS:=by simp [T72]
theorem zegh:T72.Sound P:=by
 refine z0rp (fun args v e => ?_) zr5o
 unfold cGS at e
 split at e
 ·split at e
  ·rename_i hl; simp at e; subst e; exact zljw mix zfkh Tryd.func108 zh50 (z00p _ hl)
  ·simp at e
 ·simp at e
theorem z3aj (s:List UInt8) (hs:s.length≤100000):Runs T72 a57 [.str s,.str [47]] (zabr s):=by
 refine ⟨?_⟩
 simp (disch:=first|omega|simp<;>omega|fail) [-zA,-zB,-zC,-zD,-zE,a57,ze0j,z0qy,hs,zabr,zpp8]
def cSpl:List DV→Option DV
 | [.str s,.str [47]]=>if s.length≤100000 then some (zabr s) else none|_=>none
theorem ziwh {s:List UInt8} (h:s.length≤100000):cSpl [.str s,.str [47]]=some (zabr s):=if_pos h
def T73:Tbl:=addT 57 (.pure cSpl) tbl0
theorem zjkf:T73 57 = .pure cSpl:=by simp [T73]
theorem zfxp:T73.Sound P:=by
 refine z0rp (fun args v e => ?_) zr5o
 unfold cSpl at e
 split at e
 ·split at e
  ·rename_i hl; simp at e; subst e; exact zljw mix zegh Tryd.func57 zfce (z3aj _ hl)
  ·simp at e
 ·simp at e
def S17a (s:List UInt8) (i:Nat):St:=z98x (.str s) (.int .i64 i) []
def S17b (s:List UInt8) (i:Nat):St:=za34 (zabr s) (.int .i64 i) []
def R17a (s:List UInt8) (i:Nat):Prop:=i≤s.length∧noZ (s.take i)=true
def R17b (s:List UInt8) (i:Nat):Prop:=i≤(z2fg s).length∧((z2fg s).take i).all okC=true
theorem zkka {l:List (List UInt8)} {i:Nat} (h:i<l.length):oneC 1 false (((strs l).drop i).take 1)=some (.str l[i]):=zai5 h (by decide)
theorem z8tt {s:List UInt8} {i:Nat} (h:i<s.length):noZ (s.take (i+1))=(noZ (s.take i)&&s[i] != 0):=by
 rw [zmqh h,z2u1]; simp [noZ]
theorem z80k (s:List UInt8):Runs T73 a91 [.str s] (za1j s):=by
 refine ⟨?_⟩
 by_cases h1:s=[]
 ·subst h1
  simp (disch:=first|omega|simp<;>omega|fail) [-zA,-zB,-zC,-zD,-zE,a91,za1j,show zj1f []=false from rfl]
 by_cases h2:200<s.length
 ·have h2':(200:Int)<s.length:=by omega
  have hp:zj1f s=false:=by simp [zj1f]; omega
  simp (disch:=first|omega|simp<;>omega|fail) [-zA,-zB,-zC,-zD,-zE,a91,h1,h2',za1j,hp]
 have h2':¬ (200:Int)<s.length:=by omega
 have h3:1≤s.length:=by have:=List.length_pos_iff.2 h1; omega
 simp (disch:=first|omega|simp<;>omega|fail) [-zA,-zB,-zC,-zD,-zE,a91,h1,h2']
 refine zlm5 (S17a s) (fun i=>s.length-i) (R17a s) 0 (z515 (by simp (disch:=first|omega|simp<;>omega|fail) [-zA,-zB,-zC,-zD,-zE]) (by simp (disch:=first|omega|simp<;>omega|fail) [-zA,-zB,-zC,-zD,-zE])) ⟨by omega,rfl⟩ (fun i hi => ?_)
 obtain ⟨hi1,hi2⟩:=hi
 simp (disch:=first|omega|simp<;>omega|fail) [-zA,-zB,-zC,-zD,-zE,zycq,z98x,S17a]
 by_cases h:i<s.length
 ·have h4:(i:Int)<s.length:=by omega
  by_cases hz:s[i]=0
  ·have b1:s[i].toBitVec=0#8:=zw4m.2 hz
   have hnz:noZ s=false:=by
    rw [noZ,List.all_eq_false]
    exact ⟨s[i],List.getElem_mem h,by simp [hz]⟩
   have hp:zj1f s=false:=by simp [zj1f,hnz]
   simp (disch:=first|omega|simp<;>omega|fail) [-zA,-zB,-zC,-zD,-zE,h,h4,b1,za1j,hp]
  ·have b1:¬ s[i].toBitVec=0#8:=fun e=>hz (zw4m.1 e)
   have b1q:(s[i].toBitVec == 0#8)=false:=by simp [b1]
   simp (disch:=first|omega|simp<;>omega|fail) [-zA,-zB,-zC,-zD,-zE,h,h4,b1,b1q]
   exact ⟨i+1,z515 (by simp (disch:=first|omega|simp<;>omega|fail) [-zA,-zB,-zC,-zD,-zE]) (by simp (disch:=first|omega|simp<;>omega|fail) [-zA,-zB,-zC,-zD,-zE]),by omega,by omega,by rw [z8tt h,hi2]; simp [hz]⟩
 ·have h4:¬ (i:Int)<s.length:=by omega
  obtain rfl:i=s.length:=by omega
  rw [List.take_length] at hi2
  have hp:zj1f s=(z2fg s).all okC:=by
   simp only [zj1f,h3,show s.length≤200 by omega,hi2,decide_true,Bool.true_and]
  have hsp:=ziwh (s:=s) (by omega)
  have hcl:(z2fg s).length≤1000:=by have:=z9lv s; have:=zjnq s 47; omega
  simp (disch:=first|omega|simp<;>omega|fail) [-zA,-zB,-zC,-zD,-zE,h4,zjkf,hsp]
  refine zlm5 (S17b s) (fun i=>(z2fg s).length-i) (R17b s) 0 (z515 (by simp (disch:=first|omega|simp<;>omega|fail) [-zA,-zB,-zC,-zD,-zE,zabr]) (by simp (disch:=first|omega|simp<;>omega|fail) [-zA,-zB,-zC,-zD,-zE])) ⟨by omega,rfl⟩ (fun i hi => ?_)
  obtain ⟨hj1,hj2⟩:=hi
  simp (disch:=first|omega|simp<;>omega|fail) [-zA,-zB,-zC,-zD,-zE,z723,za34,S17b,zabr]
  by_cases h5:i<(z2fg s).length
  ·have h6:(i:Int)<(z2fg s).length:=by omega
   have hg:=zkka h5
   obtain ⟨y,hy⟩ : ∃ y,(z2fg s)[i]=y:=⟨_,rfl⟩
   rw [hy] at hg
   have bad:okC y=false→zj1f s=false:=fun e=>by
    rw [hp,List.all_eq_false]
    exact ⟨(z2fg s)[i],List.getElem_mem h5,by rw [hy,e]; simp⟩
   by_cases e1:y=[]
   ·subst e1
    simp (disch:=first|omega|simp<;>omega|fail) [-zA,-zB,-zC,-zD,-zE,h5,h6,hg,za1j,bad rfl]
   ·by_cases e2:y=[46]
    ·subst e2
     simp (disch:=first|omega|simp<;>omega|fail) [-zA,-zB,-zC,-zD,-zE,h5,h6,hg,za1j,bad rfl]
    ·by_cases e3:y=[46,46]
     ·subst e3
      simp (disch:=first|omega|simp<;>omega|fail) [-zA,-zB,-zC,-zD,-zE,h5,h6,hg,za1j,bad rfl]
     ·simp (disch:=first|omega|simp<;>omega|fail) [-zA,-zB,-zC,-zD,-zE,h5,h6,hg,e1,e2,e3]
      refine ⟨i+1,z515 (by simp (disch:=first|omega|simp<;>omega|fail) [-zA,-zB,-zC,-zD,-zE,zabr]) (by simp (disch:=first|omega|simp<;>omega|fail) [-zA,-zB,-zC,-zD,-zE]),by omega,by omega,?_⟩
      rw [zmqh h5,List.all_append,hj2,hy]
      simp [okC,e1,e2,e3]
  ·have h6:¬ (i:Int)<(z2fg s).length:=by omega
   have:(z2fg s).take i=z2fg s:=List.take_of_length_le (by omega)
   rw [this] at hj2
   have hq:zj1f s=true:=by rw [hp,hj2]
   simp (disch:=first|omega|simp<;>omega|fail) [-zA,-zB,-zC,-zD,-zE,h5,h6,za1j,hq]
end Go.Proofs.YtjknipdiglpnlaaDoor
set_option linter.unusedSimpArgs false
set_option linter.unusedVariables false
namespace Go.Proofs.YtjknipdiglpnlaaDoor
open Go Go.Am
structure Y49 where
 l:List Pt
 i:Nat
def S49 (p:List UInt8) (x:Y49):St:=zzkc (.str p) (ownD 0 2 .nils x.l.length (z6j5 x.l)) (.int .i64 x.i) (ownH (z6j5 x.l))
def m49 (p:List UInt8) (x:Y49):Nat:=p.length-x.i
def R49 (p:List UInt8) (x:Y49):Prop:=R15 p ⟨x.l,x.i⟩∧noZ (p.take x.i)=true
theorem zqwg {p:List UInt8} {i:Nat} (h:i<p.length) (hz:p[i]=0):noZ p=false:=by
 rw [noZ,List.all_eq_false]
 exact ⟨p[i],List.getElem_mem h,by simp [hz]⟩
theorem zhap {p:List UInt8} (h:noZ p=false):zfn1 p=none:=by rw [zfn1,if_neg (by rw [h]; simp)]
theorem zaig {p:List UInt8} {i:Nat} (h:i+1<p.length) (h0:noZ (p.take i)=true) (h1:p[i]≠0) (h2:p[i+1]≠0):noZ (p.take (i+2))=true:=by
 rw [z8tt h,z8tt (by omega),h0]; simp [h1,h2]
theorem zuqg {p:List UInt8} {i:Nat} (h:i<p.length) (h0:noZ (p.take i)=true) (h1:p[i]≠0):noZ (p.take (i+1))=true:=by
 rw [z8tt h,h0]; simp [h1]
theorem znf3 (p:List UInt8):Runs tbl0 a132 [.str p] (z8r4 p):=by
 refine ⟨?_⟩
 by_cases h1:p=[]
 ·subst h1
  simp (disch:=first|omega|simp<;>omega|fail) [-zA,-zB,-zC,-zD,-zE,a132,z8r4,show zfn1 []=none from rfl,zoby]
 by_cases h2:200<p.length
 ·have h2':(200:Int)<p.length:=by omega
  have hp:zfn1 p=none:=by rw [zfn1,if_neg (by omega)]
  simp (disch:=first|omega|simp<;>omega|fail) [-zA,-zB,-zC,-zD,-zE,a132,h1,h2',z8r4,hp,zoby]
 have h2':¬ (200:Int)<p.length:=by omega
 have h3:1≤p.length:=by have:=List.length_pos_iff.2 h1; omega
 simp (disch:=first|omega|simp<;>omega|fail) [-zA,-zB,-zC,-zD,-zE,a132,h1,h2']
 refine zlm5 (S49 p) (m49 p) (R49 p) ⟨[],0⟩ (z515 (by simp (disch:=first|omega|simp<;>omega|fail) [-zA,-zB,-zC,-zD,-zE,ownD,z6j5]) (by simp (disch:=first|omega|simp<;>omega|fail) [-zA,-zB,-zC,-zD,-zE,ownH,z6j5])) ⟨⟨by simp,by simp,by simp⟩,rfl⟩ (fun x hx => ?_)
 obtain ⟨l,i⟩:=x
 obtain ⟨hx,hnz⟩:=hx
 have hx':=hx
 obtain ⟨hi,hl,hpr⟩:=hx'
 simp only at hi hl hpr hnz
 have hlen:=z4u6 l
 simp (disch:=first|omega|simp<;>omega|fail) [-zA,-zB,-zC,-zD,-zE,z1gp,zzkc,S49]
 by_cases h:i<p.length
 ·have h4:(i:Int)<p.length:=by omega
  have hd:p.drop i=p[i]::p.drop (i+1):=List.drop_eq_getElem_cons h
  have e12:(i:Int)+1+1=i+2:=by omega
  by_cases c0:p[i]=0
  ·have b0:p[i].toBitVec=0#8:=zw4m.2 c0
   have hp:=zhap (zqwg h c0)
   simp (disch:=first|omega|simp<;>omega|fail) [-zA,-zB,-zC,-zD,-zE,h4,h,b0,z8r4,hp,zoby]
  have b0:¬ p[i].toBitVec=0#8:=fun e=>c0 (zw4m.1 e)
  have b0q:(p[i].toBitVec == 0#8)=false:=by simp [b0]
  by_cases c1:p[i]=92
  ·have b1:p[i].toBitVec=92#8:=zw4m.2 c1
   by_cases h5:i+1=p.length
   ·have h5':(i:Int)+1=p.length:=by omega
    have hq:prs p=none:=by rw [hpr,hd,c1,List.drop_eq_nil_of_le (by omega),zt8b]; rfl
    have hp:zfn1 p=none:=by unfold zfn1; split<;>first|exact hq|rfl
    simp (disch:=first|omega|simp<;>omega|fail) [-zA,-zB,-zC,-zD,-zE,h4,h,b1,h5',z8r4,hp,zoby]
   ·have h5':¬ (i:Int)+1=p.length:=by omega
    have h6:i+1<p.length:=by omega
    by_cases c5:p[i+1]=0
    ·have b5:p[i+1].toBitVec=0#8:=zw4m.2 c5
     have hp:=zhap (zqwg h6 c5)
     simp (disch:=first|omega|simp<;>omega|fail) [-zA,-zB,-zC,-zD,-zE,h4,h,b1,h5',h6,b5,z8r4,hp,zoby]
    have b5:¬ p[i+1].toBitVec=0#8:=fun e=>c5 (zw4m.1 e)
    have b5q:(p[i+1].toBitVec == 0#8)=false:=by simp [b5]
    have hd2:p.drop (i+1)=p[i+1]::p.drop (i+2):=List.drop_eq_getElem_cons h6
    have hs:=zq8c (n:=i+2) (y := .one p[i+1].toBitVec) hx (by simp) (by omega) (by show prs (p.drop i)=_; rw [hd,hd2,c1,z32i])
    simp (disch:=first|omega|simp<;>omega|fail) [-zA,-zB,-zC,-zD,-zE,h4,h,b1,h5',h6,b5,b5q,hlen,e12]
    exact ⟨⟨l++[.one p[i+1].toBitVec],i+2⟩,z515 (by simp (disch:=first|omega|simp<;>omega|fail) [-zA,-zB,-zC,-zD,-zE,e12,zip6,ptC,Pt.kind,Pt.chr]) (by simp (disch:=first|omega|simp<;>omega|fail) [-zA,-zB,-zC,-zD,-zE,zip6,ptC,Pt.kind,Pt.chr]),by simp [m49]; omega,hs,zaig h6 hnz c0 c5⟩
  ·have b1:¬ p[i].toBitVec=92#8:=fun e=>c1 (zw4m.1 e)
   have b1q:(p[i].toBitVec == 92#8)=false:=by simp [b1]
   by_cases c3:p[i]=42
   ·have b3:p[i].toBitVec=42#8:=zw4m.2 c3
    by_cases h6:i+1<p.length
    ·have h6':(i:Int)+1<p.length:=by omega
     have hd2:p.drop (i+1)=p[i+1]::p.drop (i+2):=List.drop_eq_getElem_cons h6
     by_cases c4:p[i+1]=42
     ·have b4:p[i+1].toBitVec=42#8:=zw4m.2 c4
      have hs:=zq8c (n:=i+2) (y := .whole) hx (by simp) (by omega) (by show prs (p.drop i)=_; rw [hd,hd2,c3,c4,zqqt])
      simp (disch:=first|omega|simp<;>omega|fail) [-zA,-zB,-zC,-zD,-zE,z9ia,h4,h,b0,b0q,b1,b1q,b3,h6,h6',b4,hlen,e12]
      exact ⟨⟨l++[.whole],i+2⟩,z515 (by simp (disch:=first|omega|simp<;>omega|fail) [-zA,-zB,-zC,-zD,-zE,e12,zip6,ptC,Pt.kind,Pt.chr]) (by simp (disch:=first|omega|simp<;>omega|fail) [-zA,-zB,-zC,-zD,-zE,zip6,ptC,Pt.kind,Pt.chr]),by simp [m49]; omega,hs,zaig h6 hnz c0 (by rw [c4]; decide)⟩
     ·have b4:¬ p[i+1].toBitVec=42#8:=fun e=>c4 (zw4m.1 e)
      have b4q:(p[i+1].toBitVec == 42#8)=false:=by simp [b4]
      have hs:=zq8c (n:=i+1) (y := .some) hx (by simp) (by omega) (by show prs (p.drop i)=_; rw [hd,hd2,c3,zpjv c4])
      simp (disch:=first|omega|simp<;>omega|fail) [-zA,-zB,-zC,-zD,-zE,z9ia,h4,h,b0,b0q,b1,b1q,b3,h6,h6',b4,b4q,hlen]
      exact ⟨⟨l++[.some],i+1⟩,z515 (by simp (disch:=first|omega|simp<;>omega|fail) [-zA,-zB,-zC,-zD,-zE,zip6,ptC,Pt.kind,Pt.chr]) (by simp (disch:=first|omega|simp<;>omega|fail) [-zA,-zB,-zC,-zD,-zE,zip6,ptC,Pt.kind,Pt.chr]),by simp [m49]; omega,hs,zuqg h hnz c0⟩
    ·have h6':¬ (i:Int)+1<p.length:=by omega
     have hs:=zq8c (n:=i+1) (y := .some) hx (by simp) (by omega) (by show prs (p.drop i)=_; rw [hd,c3,List.drop_eq_nil_of_le (by omega),zkwm]; rfl)
     simp (disch:=first|omega|simp<;>omega|fail) [-zA,-zB,-zC,-zD,-zE,z9ia,h4,h,b0,b0q,b1,b1q,b3,h6',hlen]
     exact ⟨⟨l++[.some],i+1⟩,z515 (by simp (disch:=first|omega|simp<;>omega|fail) [-zA,-zB,-zC,-zD,-zE,zip6,ptC,Pt.kind,Pt.chr]) (by simp (disch:=first|omega|simp<;>omega|fail) [-zA,-zB,-zC,-zD,-zE,zip6,ptC,Pt.kind,Pt.chr]),by simp [m49]; omega,hs,zuqg h hnz c0⟩
   ·have b3:¬ p[i].toBitVec=42#8:=fun e=>c3 (zw4m.1 e)
    have b3q:(p[i].toBitVec == 42#8)=false:=by simp [b3]
    by_cases c2:p[i]=63
    ·have b2:p[i].toBitVec=63#8:=zw4m.2 c2
     have hs:=zq8c (n:=i+1) (y := .dot) hx (by simp) (by omega) (by show prs (p.drop i)=_; rw [hd,c2,z28c])
     simp (disch:=first|omega|simp<;>omega|fail) [-zA,-zB,-zC,-zD,-zE,z9ia,h4,h,b0,b0q,b1,b1q,b2,b3,b3q,hlen]
     exact ⟨⟨l++[.dot],i+1⟩,z515 (by simp (disch:=first|omega|simp<;>omega|fail) [-zA,-zB,-zC,-zD,-zE,zip6,ptC,Pt.kind,Pt.chr]) (by simp (disch:=first|omega|simp<;>omega|fail) [-zA,-zB,-zC,-zD,-zE,zip6,ptC,Pt.kind,Pt.chr]),by simp [m49]; omega,hs,zuqg h hnz c0⟩
    ·have b2:¬ p[i].toBitVec=63#8:=fun e=>c2 (zw4m.1 e)
     have b2q:(p[i].toBitVec == 63#8)=false:=by simp [b2]
     have hs:=zq8c (n:=i+1) (y := .one p[i].toBitVec) hx (by simp) (by omega) (by show prs (p.drop i)=_; rw [hd,zmw4 c1 c3 c2])
     simp (disch:=first|omega|simp<;>omega|fail) [-zA,-zB,-zC,-zD,-zE,z9ia,h4,h,b0,b0q,b1,b1q,b2,b2q,b3,b3q,hlen]
     exact ⟨⟨l++[.one p[i].toBitVec],i+1⟩,z515 (by simp (disch:=first|omega|simp<;>omega|fail) [-zA,-zB,-zC,-zD,-zE,zip6,ptC,Pt.kind,Pt.chr]) (by simp (disch:=first|omega|simp<;>omega|fail) [-zA,-zB,-zC,-zD,-zE,zip6,ptC,Pt.kind,Pt.chr]),by simp [m49]; omega,hs,zuqg h hnz c0⟩
 ·have h4:¬ (i:Int)<p.length:=by omega
  obtain rfl:i=p.length:=by omega
  rw [List.drop_length] at hpr
  rw [List.take_length] at hnz
  have hq:prs p = .some l:=by rw [hpr]; simp [prs]
  have hp:zfn1 p = .some l:=by rw [zfn1,if_pos ⟨by omega,by omega,hnz⟩,hq]
  have hne:=zfht h1 hq
  have ht:(z6j5 l).take (l.length*2)=z6j5 l:=List.take_of_length_le (by omega)
  simp (disch:=first|omega|simp<;>omega|fail) [-zA,-zB,-zC,-zD,-zE,h4,z8l3 (zbvb hne),zpgk (zbvb hne),z8r4,hp,zoby,ht,zyoh,hlen]
def T75:Tbl:=addT 132 (.pure (cS z8r4)) tbl0
theorem zuzw:T75 132 = .pure (cS z8r4):=by simp [T75]
theorem zkpo:T75.Sound P:=z0rp (zzn8 fun p=>zljw mix zr5o Tryd.func132 zr93 (znf3 p)) zr5o
theorem zkeg (p:List UInt8):Runs T75 a80 [.str p] (z01o p):=by
 refine ⟨?_⟩
 cases h:zfn1 p with
 | none=>simp (disch:=first|omega|simp<;>omega|fail) [-zA,-zB,-zC,-zD,-zE,a80,zuzw,zk5k,z8r4,h,zoby,z01o]
 | some l=>simp (disch:=first|omega|simp<;>omega|fail) [-zA,-zB,-zC,-zD,-zE,a80,zuzw,zk5k,z8r4,h,zoby,z01o]
end Go.Proofs.YtjknipdiglpnlaaDoor
set_option linter.unusedSimpArgs false
set_option linter.unusedVariables false
namespace Go.Proofs.YtjknipdiglpnlaaDoor
open Go Go.Am
def T80:Tbl:=addT 91 (.pure (cS za1j)) tbl0
theorem zti8:T80 91 = .pure (cS za1j):=by simp [T80]
theorem zpnl:T80.Sound P:=z0rp (zzn8 fun p=>zljw mix zfxp Tryd.func91 z07s (z80k p)) zr5o
theorem z0t3 (s:List UInt8):Runs T80 a71 [.str s] (dirB s):=by
 refine ⟨?_⟩
 by_cases h:s=[]
 ·subst h; simp (disch:=first|omega|simp<;>omega|fail) [-zA,-zB,-zC,-zD,-zE,a71,dirB,dirD]
 ·have hd:dirD s=zj1f s:=by simp [dirD,h]
  simp (disch:=first|omega|simp<;>omega|fail) [-zA,-zB,-zC,-zD,-zE,a71,dirB,hd,h,zti8,zk5k,za1j]
end Go.Proofs.YtjknipdiglpnlaaDoor
set_option linter.unusedSimpArgs false
set_option linter.unusedVariables false
set_option maxRecDepth 8000
namespace Go.Proofs.YtjknipdiglpnlaaDoor
open Go Go.Am
def zajr:List Ent→Str→Option Dg
 | [],_=>none
 | e::r,p=>if e.path=p then some e.dg else zajr r p
theorem zc1r {p:Str} : ∀ {l:List Ent} {i:Nat} (hi:i<l.length),l[i].path=p→(∀ j (h:j<l.length),j<i→l[j].path≠p)→zajr l p=some l[i].dg
 | a::l,0,_,h,_=>by simp only [List.getElem_cons_zero] at h; simp [zajr,h]
 | a::l,i+1,hi,h,h2=>by
  have ha:a.path≠p:=h2 0 (by simp) (by omega)
  have ih:=zc1r (l:=l) (i:=i) (by simpa using hi) (by simpa using h) fun j hj hji=>by
   have:=h2 (j+1) (by simpa using hj) (by omega)
   simpa using this
  simp [zajr,ha,ih]
theorem zkqa {p:Str} : ∀ {l:List Ent},(∀ a ∈ l,a.path≠p)→zajr l p=none
 | [],_=>rfl
 | a::l,h=>by simp [zajr,h a (by simp),zkqa (l:=l) fun b hb=>h b (by simp [hb])]
def dgO (o:Option Dg):Dg:=o.getD dg0
def zqrh (o:Option Dg):DV := .tup [.agg (dgC (dgO o)),.bool o.isSome]
def zb8b (x:Sl Ent) (p:Str) (i:Nat):St:=zlqw (.str p) (.mp 0 32 0) (x.dv 33 enC) (.int .i64 x.l.length) (.int .i64 i) [.cells (dgC dg0)]
theorem z3xx (x:Sl Ent) (p:Str):Runs tbl0 a119 [x.dv 33 enC,.str p] (zqrh (zajr x.l p)):=by
 refine ⟨?_⟩
 have hb:=x.b
 have hbd : ∀ k,zvnk (dgC dg0) k=zvnk (rep 32 (w8 0#8)) k:=fun k=>by rw [z4hl]
 have hb0:zvnk (dgC dg0) []=some (.agg (dgC dg0)):=rfl
 simp (disch:=first|omega|simp<;>omega|fail) [-zA,-zB,-zC,-zD,-zE,a119,z4hl]
 refine zlm5 (zb8b x p) (fun i=>x.l.length-i) (fun i=>i≤x.l.length ∧ ∀ j (h:j<x.l.length),j<i→x.l[j].path≠p) 0 (z515 (by simp (disch:=first|omega|simp<;>omega|fail) [-zA,-zB,-zC,-zD,-zE,zb8b,zlqw]) (by simp (disch:=first|omega|simp<;>omega|fail) [-zA,-zB,-zC,-zD,-zE,zb8b,zlqw,z4hl])) ⟨by omega,fun j _ hj=>by omega⟩ (fun i hi => ?_)
 obtain ⟨q1,q2⟩:=hi
 simp only [zb8b]
 by_cases q:i<x.l.length
 ·have g':(i:Int)<x.l.length:=by omega
  have hy : ∀ H,zpsc H 33 (x.dv 33 enC) i=some (.ref (enC x.l[i])):=fun H=>zalo zuso q
  have hinv:x.l[i].path≠p → ∀ j (h:j<x.l.length),j<i+1→x.l[j].path≠p:=fun e j hj hji=>by
   by_cases ej:j=i
   ·subst ej; exact e
   ·exact q2 j hj (by omega)
  have hr:x.l[i].path=p→zajr x.l p=some x.l[i].dg:=fun e=>zc1r q e q2
  obtain ⟨u,hu⟩ : ∃ u,x.l[i]=u:=⟨_,rfl⟩
  rw [hu] at hy hinv hr
  by_cases e:u.path=p
  ·have hr:=hr e
   simp (disch:=first|omega|simp<;>omega|fail) [-zA,-zB,-zC,-zD,-zE,z4kg,zlqw,q,g',hy,e,hr,zqrh,dgO]
  ·have hinv:=hinv e
   simp (disch:=first|omega|simp<;>omega|fail) [-zA,-zB,-zC,-zD,-zE,z4kg,zlqw,q,g',hy,e]
   exact ⟨i+1,zju2 (tail:=[.cells (enC u)]) (by simp (disch:=first|omega|simp<;>omega|fail) [-zA,-zB,-zC,-zD,-zE,zb8b,zlqw]) (by simp (disch:=first|omega|simp<;>omega|fail) [-zA,-zB,-zC,-zD,-zE,zb8b,zlqw]) (by simp (disch:=first|omega|simp<;>omega|fail) [-zA,-zB,-zC,-zD,-zE]) (by simp (disch:=first|omega|simp<;>omega|fail) [-zA,-zB,-zC,-zD,-zE,zb8b,zlqw,z1r6,Am.below,zb48,js]) (by simp only [zlf2,zbw6,Bool.and_self]),by omega,by omega,hinv⟩
 ·have g':¬ (i:Int)<x.l.length:=by omega
  have hr:zajr x.l p=none:=zkqa fun a ha=>by
   obtain ⟨j,hj,e⟩:=List.getElem_of_mem ha
   have:=q2 j hj (by omega)
   rw [e] at this; exact this
  simp (disch:=first|omega|simp<;>omega|fail) [-zA,-zB,-zC,-zD,-zE,z4kg,zlqw,q,g',hr,z4hl,hb0,zqrh,dgO]
noncomputable def cLoo:List DV→Option DV:=con (fun _=>True) (fun a:Sl Ent × Str=>[a.1.dv 33 enC,.str a.2]) (fun a=>zqrh (zajr a.1.l a.2))
theorem zfl1 {x:Sl Ent} {p:Str}:cLoo [x.dv 33 enC,.str p]=some (zqrh (zajr x.l p)) :=
 zsn4 (f:=fun a:Sl Ent × Str=>[a.1.dv 33 enC,.str a.2]) (g:=fun a=>zqrh (zajr a.1.l a.2)) (by
  rintro ⟨a,b⟩ ⟨c,d⟩ e
  simp only [List.cons.injEq,DV.str.injEq,and_true] at e
  rw [zdvs e.1,e.2]) (x,p)
theorem z9xq:(Con.pure cLoo).Sound P 119:=z2au fun a _=>zljw mix zr5o Tryd.func119 zaj0 (z3xx a.1 a.2)
def z46z (p s:List UInt8):DV := .bool (zenh p s)
structure Sd where
 self:Lnk
 files:Sl Ent
 done:Sl Lnk
def sdC (s:Sd) (q:DV):List DV:=[.str s.self.step,s.self.m.dv 33 enC,s.self.p.dv 33 enC,s.files.dv 33 enC,s.done.dv 3 lkC,q]
noncomputable def zbnj:Tbl:=addT 119 (.pure cLoo) (addT 118 (.pure (cSS z46z)) (addT 117 (.pure (cSSS relD)) tbl0))
theorem zymb:zbnj 119 = .pure cLoo:=by simp [zbnj]
theorem zskg:zbnj 118 = .pure (cSS z46z):=by simp [zbnj]
theorem z4t1:zbnj 117 = .pure (cSSS relD):=by simp [zbnj]
theorem z1ax:zbnj.Sound P:=z0rp z9xq (z0rp (zd7v fun p s=>zljw mix zy0e Tryd.func118 zasg (z3jz p s)) (z0rp (ztgs fun a b s=>zljw mix zek7 Tryd.func117 zt1q (zpcq a b s)) zr5o))
def matB (r:Rul) (fs own:List Ent) (p:Str):Bool:=match relO r.inn [] p with
 | none=>false
 | some rest=>zenh r.pat rest&&(match relO [] r.to rest with
  | none=>false
  | some there=>(zajr fs there).isSome&&decide (dgO (zajr fs there)=dgO (zajr own p)))
theorem zb1d {s:Sd} {q:DV}:oneC 1 false ((sdC s q).drop 3)=some (s.files.dv 33 enC):=rfl
theorem z84t (r:Rul) (fs:Sl Ent) (s:Sd) (q:DV) (p:Str):Runs zbnj a116 [.str p,.ref (ruC r),.ref [fs.dv 33 enC],.ref [.ref (sdC s q)]] (.bool (matB r fs.l s.files.l p)):=by
 refine ⟨?_⟩
 have hr : ∀ o,optS o=match o with|none => .tup [.str [],.bool false]|some s => .tup [.str s,.bool true]:=fun o=>by cases o<;>rfl
 cases h1:relO r.inn [] p with
 | none=>simp (disch:=first|omega|simp<;>omega|fail) [-zA,-zB,-zC,-zD,-zE,a116,z4t1,zfnp,relD,h1,optS,matB]
 | some rest =>
  cases h2:zenh r.pat rest with
  | false=>simp (disch:=first|omega|simp<;>omega|fail) [-zA,-zB,-zC,-zD,-zE,a116,z4t1,zfnp,relD,h1,optS,matB,zskg,z5o0,z46z,h2]
  | true =>
   cases h3:relO [] r.to rest with
   | none=>simp (disch:=first|omega|simp<;>omega|fail) [-zA,-zB,-zC,-zD,-zE,a116,z4t1,zfnp,relD,h1,optS,matB,zskg,z5o0,z46z,h2,h3]
   | some there =>
    cases h4:zajr fs.l there with
    | none=>simp (disch:=first|omega|simp<;>omega|fail) [-zA,-zB,-zC,-zD,-zE,a116,z4t1,zfnp,relD,h1,optS,matB,zskg,z5o0,z46z,h2,h3,zymb,zfl1,zqrh,h4,zb1d,z4hl,dgO]
    | some d=>simp (disch:=first|omega|simp<;>omega|fail) [-zA,-zB,-zC,-zD,-zE,a116,z4t1,zfnp,relD,h1,optS,matB,zskg,z5o0,z46z,h2,h3,zymb,zfl1,zqrh,h4,zb1d,z4hl,dgO]
def acB:Nat→Bool→Bool→Bool→Bool
 | 0,b,a,_ => !b&&a
 | 1,b,a,e=>b&&a && !e
 | _,b,a,_=>b && !a
def acF (k:Nat):Nat:=match k with|0=>121|1=>122|_=>123
theorem zvk5 (b a e:Bool):Runs tbl0 a121 [.bool b,.bool a,.bool e] (.bool (acB 0 b a e)):=by
 refine ⟨?_⟩
 cases b<;>simp (disch:=first|omega|simp<;>omega|fail) [-zA,-zB,-zC,-zD,-zE,a121,acB]
theorem z4r8 (b a e:Bool):Runs tbl0 a122 [.bool b,.bool a,.bool e] (.bool (acB 1 b a e)):=by
 refine ⟨?_⟩
 cases b<;>cases a<;>cases e<;>simp (disch:=first|omega|simp<;>omega|fail) [-zA,-zB,-zC,-zD,-zE,a122,acB]
theorem zk7n (b a e:Bool):Runs tbl0 a123 [.bool b,.bool a,.bool e] (.bool (acB 2 b a e)):=by
 refine ⟨?_⟩
 cases b<;>simp (disch:=first|omega|simp<;>omega|fail) [-zA,-zB,-zC,-zD,-zE,a123,acB]
def cAc (k:Nat):List DV→Option DV
 | [.bool b,.bool a,.bool e]=>some (.bool (acB k b a e))|_=>none
theorem zc4w {k:Nat} {b a e:Bool}:cAc k [.bool b,.bool a,.bool e]=some (.bool (acB k b a e)):=rfl
theorem z144 {f k:Nat} (h : ∀ b a e,Am.Sem P f [.bool b,.bool a,.bool e] (.bool (acB k b a e))):(Con.pure (cAc k)).Sound P f:=by
 intro args v q
 unfold cAc at q
 split at q
 ·simp at q; subst q; exact h _ _ _
 ·simp at q
noncomputable def zpgo:Tbl:=addT 121 (.pure (cAc 0)) (addT 122 (.pure (cAc 1)) (addT 123 (.pure (cAc 2)) zbnj))
theorem z8qy:zpgo 119 = .pure cLoo:=by simp [zpgo,zbnj]
theorem zctv:zpgo 118 = .pure (cSS z46z):=by simp [zpgo,zbnj]
theorem zakk:zpgo.Sound P :=
 z0rp (z144 fun b a e=>zljw mix zr5o Tryd.func121 zfl0 (zvk5 b a e))
 (z0rp (z144 fun b a e=>zljw mix zr5o Tryd.func122 z2hw (z4r8 b a e))
 (z0rp (z144 fun b a e=>zljw mix zr5o Tryd.func123 zw8s (zk7n b a e)) z1ax))
def chgB (k:Nat) (pat:Str) (m p:List Ent) (x:Str):Bool :=
 zenh pat x&&acB k (zajr m x).isSome (zajr p x).isSome (decide (dgO (zajr m x)=dgO (zajr p x)))
theorem z3ap {s:Sd} {q:DV}:oneC 1 false ((sdC s q).drop 1)=some (s.self.m.dv 33 enC):=rfl
theorem zfo1 {s:Sd} {q:DV}:oneC 1 false ((sdC s q).drop 2)=some (s.self.p.dv 33 enC):=rfl
theorem zyd1 (k:Nat) (hk:k<3) (pat:Str) (s:Sd) (q:DV) (p:Str):Runs zpgo a162 [.str p,.ref [.ref (sdC s q)],.ref [.str pat],.ref [.fn (.func (acF k)) [] []]] (.bool (chgB k pat s.self.m.l s.self.p.l p)):=by
 refine ⟨?_⟩
 obtain ⟨A,hA⟩ : ∃ A,zajr s.self.m.l p=A:=⟨_,rfl⟩
 obtain ⟨B,hB⟩ : ∃ B,zajr s.self.p.l p=B:=⟨_,rfl⟩
 have hac : ∀ k,k<3 → ∃ k',k=k'∧zpgo (acF k') = .pure (cAc k'):=fun k h=>by
  rcases k with _|_|_|k<;>first|omega|exact ⟨_,rfl,by simp [acF,zpgo]⟩
 obtain ⟨_,rfl,hT⟩:=hac k hk
 obtain ⟨g,hg⟩ : ∃ g,acF k=g:=⟨_,rfl⟩
 rw [hg] at hT ⊢
 cases h2:zenh pat p with
 | false=>simp (disch:=first|omega|simp<;>omega|fail) [-zA,-zB,-zC,-zD,-zE,a162,chgB,zctv,z5o0,z46z,h2,z8qy,zfl1,zqrh,hA,hB,z3ap,zfo1,z4hl]
 | true=>simp (disch:=first|omega|simp<;>omega|fail) [-zA,-zB,-zC,-zD,-zE,a162,chgB,zctv,z5o0,z46z,h2,z8qy,zfl1,zqrh,hA,hB,z3ap,zfo1,z4hl,hT,zc4w]
theorem z8uq (r:Rul) (p:Str):Runs zbnj a124 [.str p,.ref (ruC r)] (.bool (zenh r.pat p)):=by
 refine ⟨?_⟩
 simp (disch:=first|omega|simp<;>omega|fail) [-zA,-zB,-zC,-zD,-zE,a124,zskg,z5o0,z46z]
theorem zamt (r:Rul) (p:Str):Runs zbnj a126 [.str p,.ref (ruC r)] (.bool (zenh r.pat p)):=by
 refine ⟨?_⟩
 simp (disch:=first|omega|simp<;>omega|fail) [-zA,-zB,-zC,-zD,-zE,a126,zskg,z5o0,z46z]
theorem zm65 (r:Rul) (fs:Sl Ent) (s:Sd) (q:DV) (p:Str):Am.Sem P 116 [.str p,.ref (ruC r),.ref [fs.dv 33 enC],.ref [.ref (sdC s q)]] (.bool (matB r fs.l s.files.l p)):=zljw mix z1ax Tryd.func116 z3rp (z84t r fs s q p)
theorem zxto (k:Nat) (hk:k<3) (pat:Str) (s:Sd) (q:DV) (p:Str):Am.Sem P 162 [.str p,.ref [.ref (sdC s q)],.ref [.str pat],.ref [.fn (.func (acF k)) [] []]] (.bool (chgB k pat s.self.m.l s.self.p.l p)):=zljw mix zakk Tryd.func162 zro9 (zyd1 k hk pat s q p)
theorem zqks (r:Rul) (p:Str):Am.Sem P 124 [.str p,.ref (ruC r)] (.bool (zenh r.pat p)):=zljw mix z1ax Tryd.func124 ze8k (z8uq r p)
theorem zb64 (r:Rul) (p:Str):Am.Sem P 126 [.str p,.ref (ruC r)] (.bool (zenh r.pat p)):=zljw mix z1ax Tryd.func126 zq5w (zamt r p)
end Go.Proofs.YtjknipdiglpnlaaDoor
set_option linter.unusedSimpArgs false
set_option linter.unusedVariables false
set_option maxRecDepth 8000
namespace Go.Proofs.YtjknipdiglpnlaaDoor
open Go Go.Am
open Classical in
noncomputable def cPd (g:Nat) (p:Str→Bool):List DV→Option DV
 | .str x::cap=>if Am.Sem P g (.str x::cap) (.bool (p x)) then some (.bool (p x)) else none
 | _=>none
theorem zoqy {g:Nat} {p:Str→Bool} {x:Str} {cap:List DV} (h:Am.Sem P g (.str x::cap) (.bool (p x))):cPd g p (.str x::cap)=some (.bool (p x)):=if_pos h
theorem zlx6 {g:Nat} {p:Str→Bool}:(Con.pure (cPd g p)).Sound P g:=by
 intro args v e
 unfold cPd at e
 split at e
 ·split at e
  ·rename_i h; simp at e; subst e; exact h
  ·simp at e
 ·simp at e
open Classical in
noncomputable def ptP (a0:List DV) (r:DV):List DV→Option DV:=fun a=>if a=a0 then some r else none
theorem zr20 {a0:List DV} {r:DV}:ptP a0 r a0=some r:=if_pos rfl
theorem zc2x {k:FuncId} {a0:List DV} {r:DV} (hc:Am.Sem P k a0 r):(Con.pure (ptP a0 r)).Sound P k:=by
 intro args v e
 unfold ptP at e
 split at e
 ·rename_i q; simp at e; subst e q; exact hc
 ·simp at e
noncomputable def TP (g:Nat) (p:Str→Bool):Tbl:=addT g (.pure (cPd g p)) tbl0
theorem TP_g {g:Nat} {p:Str→Bool}:TP g p g = .pure (cPd g p):=by simp [TP]
theorem zdr5 {g:Nat} {p:Str→Bool}:(TP g p).Sound P:=z0rp zlx6 zr5o
def zhr1 (x:Sl Str) (fn:DV) (i:Nat):St:=zc4d (x.dv 1 stC) fn (.int .i64 x.l.length) (.int .i64 i) []
theorem znei (x:Sl Str) {g:Nat} {cap:List DV} {p:Str→Bool} (hcap:zbao cap=true) (h : ∀ s,Am.Sem P g (.str s::cap) (.bool (p s))) :
  Runs (TP g p) a163 [x.dv 1 stC,.fn (.func g) [] cap] (.int .i64 (fIx p x.l)):=by
 refine ⟨?_⟩
 have hb:=x.b
 obtain ⟨T,hT⟩ : ∃ T,TP g p=T:=⟨_,rfl⟩
 have hTg:T g = .pure (cPd g p):=by rw [← hT,TP_g]
 rw [hT]
 have hl : ∀ H,lenD H (x.dv 1 stC)=some (.int .i64 x.l.length):=fun H=>zupj
 simp (disch:=first|omega|simp<;>omega|fail) [-zA,-zB,-zC,-zD,-zE,a163,hl]
 refine zlm5 (zhr1 x (.fn (.func g) [] cap)) (fun i=>x.l.length-i) (fun i=>i≤x.l.length ∧ ∀ j (h:j<x.l.length),j<i→p x.l[j]=false) 0 (z515 (by simp (disch:=first|omega|simp<;>omega|fail) [-zA,-zB,-zC,-zD,-zE,zhr1,zc4d]) (by simp (disch:=first|omega|simp<;>omega|fail) [-zA,-zB,-zC,-zD,-zE,zhr1,zc4d])) ⟨by omega,fun j _ hj=>by omega⟩ (fun i hi => ?_)
 obtain ⟨q1,q2⟩:=hi
 simp only [zhr1]
 by_cases q:i<x.l.length
 ·have g':(i:Int)<x.l.length:=by omega
  have hy : ∀ H,zpsc H 1 (x.dv 1 stC) i=some (.ref (stC x.l[i])):=fun H=>zalo zqv6 q
  have hinv:p x.l[i]=false → ∀ j (h:j<x.l.length),j<i+1→p x.l[j]=false:=fun e j hj hji=>by
   by_cases ej:j=i
   ·subst ej; exact e
   ·exact q2 j hj (by omega)
  have hr:p x.l[i]=true→fIx p x.l=i:=fun e=>z67l q e q2
  obtain ⟨u,hu⟩ : ∃ u,x.l[i]=u:=⟨_,rfl⟩
  rw [hu] at hy hinv hr
  have hc:=zoqy (h u)
  cases e:p u with
  | true =>
   have hr:=hr e
   rw [e] at hc
   simp (disch:=first|omega|simp<;>omega|fail) [-zA,-zB,-zC,-zD,-zE,zo65,zc4d,q,g',hy,stC,hTg,hcap,hc,hr]
  | false =>
   have hinv:=hinv e
   rw [e] at hc
   simp (disch:=first|omega|simp<;>omega|fail) [-zA,-zB,-zC,-zD,-zE,zo65,zc4d,q,g',hy,stC,hTg,hcap,hc]
   exact ⟨i+1,z515 (by simp (disch:=first|omega|simp<;>omega|fail) [-zA,-zB,-zC,-zD,-zE,zhr1,zc4d]) (by simp (disch:=first|omega|simp<;>omega|fail) [-zA,-zB,-zC,-zD,-zE,zhr1,zc4d]),by omega,by omega,fun j h hj=>hinv j h hj⟩
 ·have g':¬ (i:Int)<x.l.length:=by omega
  have hr:fIx p x.l = -1:=zf0r fun a ha=>by
   obtain ⟨j,hj,e⟩:=List.getElem_of_mem ha
   have:=q2 j hj (by omega)
   rw [e] at this; exact this
  simp (disch:=first|omega|simp<;>omega|fail) [-zA,-zB,-zC,-zD,-zE,zo65,zc4d,q,g',hr]
theorem z5fx (x:Sl Str) {g:Nat} {cap:List DV} {p:Str→Bool} (hcap:zbao cap=true) (h : ∀ s,Am.Sem P g (.str s::cap) (.bool (p s))):Am.Sem P 163 [x.dv 1 stC,.fn (.func g) [] cap] (.int .i64 (fIx p x.l)) :=
 zljw mix zdr5 Tryd.func163 zzcs (znei x hcap h)
noncomputable def TI (k:Nat) (a0:List DV) (r:DV):Tbl:=addT k (.pure (ptP a0 r)) tbl0
theorem TI_k {k:Nat} {a0:List DV} {r:DV}:TI k a0 r k = .pure (ptP a0 r):=by simp [TI]
theorem zyyb {k:Nat} {a0:List DV} {r:DV} (hc:Am.Sem P k a0 r):(TI k a0 r).Sound P:=z0rp (zc2x hc) zr5o
theorem zq8h (x:Sl Str) {g:Nat} {cap:List DV} {p:Str→Bool} (hcap:zbao cap=true) :
  Runs (TI 163 [x.dv 1 stC,.fn (.func g) [] cap] (.int .i64 (fIx p x.l))) a125 [x.dv 1 stC,.fn (.func g) [] cap] (.bool (x.l.any p)):=by
 refine ⟨?_⟩
 have h:=zs42 (p:=p) (l:=x.l)
 have hd:decide (0≤fIx p x.l)=x.l.any p:=by
  cases e:x.l.any p with
  | true=>exact decide_eq_true (h.2 e)
  | false=>exact decide_eq_false fun q=>by rw [h.1 q] at e; cases e
 have hfp:zyp8 (.fn (.func g) [] cap)=true:=by simp [zyp8,zbao,hcap]
 simp (disch:=first|omega|simp<;>omega|fail) [-zA,-zB,-zC,-zD,-zE,a125,TI_k,zr20,hfp,hcap,hd]
theorem z7il (x:Sl Str) {g:Nat} {cap:List DV} {p:Str→Bool} (hcap:zbao cap=true) (h : ∀ s,Am.Sem P g (.str s::cap) (.bool (p s))):Am.Sem P 125 [x.dv 1 stC,.fn (.func g) [] cap] (.bool (x.l.any p)) :=
 zljw mix (zyyb (z5fx x hcap h)) Tryd.func125 zdaz (zq8h x hcap)
def sts (l:List Str):List DV:=l.map DV.str
theorem z8p2 (l:List Str):(sts l).length=l.length:=by simp [sts]
theorem z2sf (a b:List Str):sts (a++b)=sts a++sts b:=by simp [sts]
theorem z77x (l:List Str):zbao (sts l)=true:=by
 unfold sts; exact zgzn fun _=>rfl
theorem z8we (l:List Str):l.flatMap stC=sts l:=by
 induction l with
 | nil=>rfl
 | cons a l ih=>rw [List.flatMap_cons,ih]; rfl
def repE (n:Nat):List Str:=List.replicate n []
def qD (k N m:Nat):DV := .ms k N 0 1 m N
def zwyd (p:Str→Bool) (l:List Str):List Str:=l.filter fun a => !p a
theorem zbdz (p:Str→Bool) (l:List Str):(zwyd p l).length≤l.length:=List.length_filter_le ..
theorem zjbt {p:Str→Bool} {l:List Str} (h : ∀ a ∈ l,p a=false):zwyd p l=l:=List.filter_eq_self.2 fun a ha=>by rw [h a ha]; rfl
theorem zvyh {p:Str→Bool} {l:List Str} {x:Str}:zwyd p (l++[x])=zwyd p l++(if p x then [] else [x]):=by
 unfold zwyd; rw [List.filter_append]
 cases h:p x<;>simp [h]
structure CloQ (pre:List AObj) (N:Nat) (g:Nat) (capI:List DV) (p:Str→Bool):Prop where
 sn : ∀ L:List Str,L.length=N → ∃ cap,z4tt (pre++[.cells (sts L)]) 3 capI=some cap∧zbao cap=true ∧ ∀ s,Am.Sem P g (.str s::cap) (.bool (p s))
 ne:g≠163
structure DS where
 K:List Str
 M:List Str
 j:Nat
structure DSok (p:Str→Bool) (A:List Str) (a:DS):Prop where
 k:a.K=zwyd p (A.take a.j)
 l:a.K.length+a.M.length=a.j
 m:1≤a.M.length
 j:a.j≤A.length
def ztmt (pre:List AObj) (A R:List Str) (N n:Nat) (fn:DV) (a:DS):St:=zn0w (qD pre.length N n) fn (.int .i64 a.K.length) (.int .i64 a.j) (pre++[.cells (sts (a.K++(a.M++(A.drop a.j++R))))])
theorem z123 {pre:List AObj} {A R:List Str} {N:Nat} (hN:A.length+R.length=N) (hb:A.length≤4294967296):snap (pre++[.cells (sts (A++R))]) 3 (qD pre.length N A.length)=some ((own A).dv 1 stC):=by
 have ho:objV (pre++[AObj.cells (sts (A++R))]) pre.length N=some (sts (A++R)):=by
  unfold objV ziu0
  rw [List.getElem?_append_right (Nat.le_refl _),Nat.sub_self]; simp [z8p2,hN]
 rw [zqrs hb,z8we,qD,zve7,ho,Option.bind_some,List.drop_zero]
 have ht:(sts (A++R)).take (A.length*1)=sts A:=by rw [Nat.mul_one,z2sf,List.take_left' (z8p2 A)]
 rw [ht,z619 (z77x A)]; rfl
theorem zkfv (pre:List AObj) (A R:List Str) (N:Nat) (hN:A.length+R.length=N) (hA:N≤65536) {g:Nat} {capI:List DV} {p:Str→Bool} (hF:CloQ pre N g capI p) :
  V P (pre++[AObj.cells (sts (A++R))]).length a157.code (retH a157.res (qD pre.length N (zwyd p A).length) (pre++[.cells (sts (zwyd p A++(repE (A.length-(zwyd p A).length)++R)))])) ⟨zr5g a157.ntmps [qD pre.length N A.length,.fn (.func g) [] capI],pre++[.cells (sts (A++R))]⟩:=by
 obtain ⟨hF,hne⟩:=hF
 obtain ⟨cap0,hc1,hc2,hc3⟩:=hF (A++R) (by rw [List.length_append,hN])
 have hsq:=z123 (pre:=pre) (A:=A) (R:=R) (N:=N) hN (by omega)
 have hsem:=z5fx (own A) hc2 hc3
 rw [z3e9 (by omega)] at hsem
 have hfn:snap (pre++[.cells (sts (A++R))]) 3 (.fn (.func g) [] capI)=some (.fn (.func g) [] cap0):=by rw [zxbs,hc1]; rfl
 have hpq : ∀ m,zyp8 (qD pre.length N m)=false:=fun m=>rfl
 have hTI:=zyyb hsem
 obtain ⟨a0,ha0⟩ : ∃ a0,[(own A).dv 1 stC,DV.fn (.func g) [] cap0]=a0:=⟨_,rfl⟩
 have hTk:TI 163 a0 (.int .i64 (fIx p A)) 163 = .pure (ptP a0 (.int .i64 (fIx p A))):=TI_k
 have hpt:ptP a0 (.int .i64 (fIx p A)) [(own A).dv 1 stC,DV.fn (.func g) [] cap0]=some (.int .i64 (fIx p A)):=by rw [ha0]; exact zr20
 rw [ha0] at hTI
 obtain ⟨T,hT⟩ : ∃ T,TI 163 a0 (.int .i64 (fIx p A))=T:=⟨_,rfl⟩
 rw [hT] at hTI hTk
 obtain ⟨X,hX⟩ : ∃ X,fIx p A=X:=⟨_,rfl⟩
 rw [hX] at hTk hpt
 refine zbn1 (V_W mix zr5o ?_)
 simp (disch:=first|omega|simp<;>omega|fail) [-zA,-zB,-zC,-zD,-zE,a157]
 refine zbn1 (V_W mix hTI ?_)
 simp (disch:=first|omega|simp<;>omega|fail) [-zA,-zB,-zC,-zD,-zE,hTk,hpq,hsq,hfn,hpt]
 refine zbn1 (zbn1 (V_W mix zr5o ?_))
 simp (disch:=first|omega|simp<;>omega|fail) [-zA,-zB,-zC,-zD,-zE]
 refine V_W mix zr5o ?_
 rcases za4c p A with ⟨f1,f2⟩|⟨i,hi,f1,f2,f3⟩
 ·rw [hX] at f1
  subst f1
  have hk:=zjbt f2
  rw [hk,Nat.sub_self]
  simp (disch:=first|omega|simp<;>omega|fail) [-zA,-zB,-zC,-zD,-zE,repE]
 rw [hX] at f1
 subst f1
 have hi1:¬ (i:Int) = -1:=by omega
 simp (disch:=first|omega|simp<;>omega|fail) [-zA,-zB,-zC,-zD,-zE,hi1]
 refine zbn1 (zbn1 (V_W mix zr5o ?_))
 simp (disch:=first|omega|simp<;>omega|fail) [-zA,-zB,-zC,-zD,-zE]
 obtain ⟨fn,hfnq⟩ : ∃ fn,DV.fn (.func g) [] capI=fn:=⟨_,rfl⟩
 obtain ⟨n,hn⟩ : ∃ n,A.length=n:=⟨_,rfl⟩
 have hki:zwyd p (A.take i)=A.take i:=zjbt fun a ha=>by
  obtain ⟨j,hj,e⟩:=List.getElem_of_mem ha
  rw [List.length_take] at hj
  rw [← e,List.getElem_take]; exact f3 j (by omega) (by omega)
 have hil:(A.take i).length=i:=by rw [List.length_take]; omega
 have hsp:A.take i++([A[i]]++(A.drop (i+1)++R))=A++R:=by
  rw [List.singleton_append,← List.cons_append,← List.drop_eq_getElem_cons hi,← List.append_assoc,List.take_append_drop]
 have hkA:zwyd p (A.take (i+1))=A.take i:=by
  rw [List.take_succ_eq_append_getElem hi,zvyh,f2,hki]; simp
 rw [hfnq,hn]
 refine z3mo (ztbr (ztmt pre A R N n fn) (fun a=>n-a.j) (DSok p A) ⟨A.take i,[A[i]],i+1⟩ (z515 (by simp (disch:=first|omega|simp<;>omega|fail) [-zA,-zB,-zC,-zD,-zE,ztmt,zn0w,hil]) (by simp only [ztmt,zn0w]; rw [hsp])) ⟨hkA.symm,by simp only [List.length_singleton]; omega,by simp,by simp only; omega⟩ (fun a ha => ?_))
 obtain ⟨K,M,j⟩:=a
 obtain ⟨a1,a2,a3,a4⟩:=ha
 simp only at a1 a2 a3 a4
 simp only [ztmt]
 refine zbn1 (V_W mix zr5o ?_)
 by_cases h:j<n
 case neg =>
  have h':¬ (j:Int)<n:=by omega
  have hK:zwyd p A=K:=by rw [a1,List.take_of_length_le (by omega)]
  have hd:A.drop j=[]:=List.drop_of_length_le (by omega)
  have hKl:K.length+M.length=n:=by omega
  rw [hd,List.nil_append]
  obtain ⟨c,hc⟩ : ∃ c,K.length=c:=⟨_,rfl⟩
  have hfl:(sts (K++(M++R))).length=N:=by rw [z8p2]; simp only [List.length_append]; omega
  have hs1 : ∀ H,ziwb H 1 (.ms pre.length N 0 1 n N) (some (.int .i64 c)) none none=(objV H pre.length N).map fun _ => .ms pre.length N c 1 (n-c) N:=fun H=>by
   rw [zam4 (l:=c) (m:=n) (by simp [zo77,iD]; omega),Nat.zero_add,Nat.mul_one]
  have hs2 : ∀ H,ziwb H 1 (.ms pre.length N 0 1 n N) none (some (.int .i64 c)) none=(objV H pre.length N).map fun _ => .ms pre.length N 0 1 c N:=fun H=>by
   rw [zam4 (l:=0) (m:=c) (by simp [zo77,iD]; omega),Nat.zero_mul,Nat.zero_add,Nat.sub_zero]
  have hcl : ∀ H,clrD H 1 [.str []] (.ms pre.length N c 1 (n-c) N)=(objV H pre.length N).map fun l=>(.tup [],H.set pre.length (.cells (zk7y l c (reps (n-c) [.str []])))):=fun H=>z7ty rfl (by decide) rfl (by omega)
  have hrp : ∀ m,reps m [DV.str []]=sts (repE m):=fun m=>by
   unfold repE
   induction m with
   | zero=>rfl
   | succ m ih=>rw [List.replicate_succ]; show _++reps m _=_; rw [ih]; rfl
  have hspl:zk7y (sts (K++(M++R))) c (reps (n-c) [.str []])=sts (K++(repE (n-c)++R)):=by
   rw [hrp]
   unfold zk7y
   simp only [z2sf]
   rw [List.take_left' (by rw [z8p2,hc]),z8p2,repE,List.length_replicate]
   have:(sts K++(sts M++sts R)).drop (c+(n-c))=sts R:=by
    rw [← List.append_assoc,List.drop_left' (by rw [List.length_append,z8p2,z8p2]; omega)]
   rw [this,List.append_assoc]
  have hfl2:(sts (K++(repE (n-c)++R))).length=N:=by rw [z8p2]; simp only [List.length_append,repE,List.length_replicate]; omega
  rw [hK,hc]
  obtain ⟨X1,hX1⟩ : ∃ X1,sts (K++(M++R))=X1:=⟨_,rfl⟩
  obtain ⟨X2,hX2⟩ : ∃ X2,sts (K++(repE (n-c)++R))=X2:=⟨_,rfl⟩
  rw [hX1] at hfl hspl
  rw [hX2] at hfl2 hspl
  rw [zmcu] at hspl
  rw [hX1,hX2]
  simp (disch:=first|omega|simp<;>omega|fail) [-zA,-zB,-zC,-zD,-zE,zyjy,zn0w,qD,h,h',hfl,zjj2,z1zn]
  refine zbn1 (V_W mix zr5o ?_)
  simp (disch:=first|omega|simp<;>omega|fail) [-zA,-zB,-zC,-zD,-zE,hs1,hcl,hspl,hfl,zjj2,z1zn,zxft]
  refine zbn1 (V_W mix zr5o ?_)
  simp (disch:=first|omega|simp<;>omega|fail) [-zA,-zB,-zC,-zD,-zE,hs2,hfl2,zjj2,z1zn]
  refine V_W mix zr5o ?_
  simp (disch:=first|omega|simp<;>omega|fail) [-zA,-zB,-zC,-zD,-zE]
 have h':(j:Int)<n:=by omega
 have hjl:j<A.length:=by omega
 obtain ⟨x,hx⟩ : ∃ x,A[j]=x:=⟨_,rfl⟩
 have hd:A.drop j=x::A.drop (j+1):=by rw [List.drop_eq_getElem_cons hjl,hx]
 have hk1:zwyd p (A.take (j+1))=K++(if p x then [] else [x]):=by rw [List.take_succ_eq_append_getElem hjl,zvyh,← a1,hx]
 obtain ⟨D,hD⟩ : ∃ D,A.drop (j+1)=D:=⟨_,rfl⟩
 have hDl:D.length=n-(j+1):=by rw [← hD,List.length_drop,hn]
 rw [hD] at hd
 rw [hd]
 obtain ⟨L,hL⟩ : ∃ L,K++(M++(x::D++R))=L:=⟨_,rfl⟩
 have hLl:L.length=N:=by rw [← hL]; simp; omega
 have hjL : ∀ h:j<L.length,L[j]=x:=fun h=>by
  subst hL
  rw [List.getElem_append_right (by omega),List.getElem_append_right (by omega)]
  simp [show j-K.length-M.length=0 by omega]
 rw [hL]
 obtain ⟨cap,hp1,hp2,hp3⟩:=hF L hLl
 have hcd0:=zoqy (hp3 x)
 have hcd : ∀ H,zyo0 (cPd g p) (.str x::capI) (pre++[.cells (sts L)])=H→H=some (.bool (p x)):=fun H e=>by
  rw [← e]
  cases hI:zbao capI with
  | true =>
   have e1:capI=cap:=by rw [z619 hI] at hp1; exact Option.some.inj hp1
   rw [z7h3 (by simp only [zbao,zyp8,hI,Bool.and_self]),e1,hcd0]
  | false=>rw [zl41 (by simp only [zbao,hI,Bool.and_false]),zrz6,hp1,zpcv]; simp [hcd0]
 have hcd:=hcd _ rfl
 have hjN:j<L.length:=by omega
 have o1:oneC 1 false ((sts L).drop j)=some (.str x):=by unfold sts; rw [z68l hjN,hjL]
 have hGl:(sts L).length=N:=by rw [z8p2,hLl]
 obtain ⟨c,hc⟩ : ∃ c,K.length=c:=⟨_,rfl⟩
 have hcn:c<n:=by omega
 have hcn':(c:Int)<n:=by omega
 have hst : ∀ h:List AObj,zy6o h pre.length 1 c (.str x) (some (sts L))=some (.junk,h.set pre.length (.cells (sts (L.set c x)))):=fun h=>by
  rw [Am.storeO_1 rfl rfl (by omega)]
  unfold sts
  rw [List.map_set]
 obtain ⟨G,hG⟩ : ∃ G,sts L=G:=⟨_,rfl⟩
 rw [hG] at hGl hcd hst o1
 rw [hG,hc]
 have hTP:=zdr5 (g:=g) (p:=p)
 have hTg:=TP_g (g:=g) (p:=p)
 obtain ⟨T2,hT2⟩ : ∃ T2,TP g p=T2:=⟨_,rfl⟩
 rw [hT2] at hTP hTg
 simp (disch:=first|omega|simp<;>omega|fail) [-zA,-zB,-zC,-zD,-zE,zyjy,zn0w,qD,h,h',hGl,zjj2,z1zn]
 refine zbn1 (z3mo (zbn1 (V_W mix zr5o ?_)))
 simp (disch:=first|omega|simp<;>omega|fail) [-zA,-zB,-zC,-zD,-zE,h,h',hGl,zjj2,z1zn,o1]
 rw [← hfnq]
 refine zbn1 (V_W mix hTP ?_)
 cases hsm:p x with
 | true =>
  rw [hsm] at hcd hk1
  have hfin:sts (K++((M++[x])++(A.drop (j+1)++R)))=G:=by rw [hD,← hG,← hL]; simp
  simp (disch:=first|omega|simp<;>omega|fail) [-zA,-zB,-zC,-zD,-zE,hTg,hcd,-ztar]
  refine V_W mix zr5o ?_
  simp (disch:=first|omega|simp<;>omega|fail) [-zA,-zB,-zC,-zD,-zE]
  refine V_W mix zr5o ?_
  simp (disch:=first|omega|simp<;>omega|fail) [-zA,-zB,-zC,-zD,-zE]
  exact ⟨⟨K,M++[x],j+1⟩,z515 (by simp (disch:=first|omega|simp<;>omega|fail) [-zA,-zB,-zC,-zD,-zE,ztmt,zn0w,qD,hc,hfnq]) (by simp only [ztmt,zn0w]; rw [hfin]),by simp only; omega,⟨by simpa using hk1.symm,by simp only [List.length_append,List.length_singleton]; omega,by simp,by simp only; omega⟩⟩
 | false =>
  rw [hsm] at hcd hk1
  obtain ⟨m0,M',rfl⟩ : ∃ m0 M',M=m0::M':=by
   cases M with
   | nil=>simp at a3
   | cons m0 M'=>exact ⟨m0,M',rfl⟩
  have hset:sts (L.set c x)=sts ((K++[x])++((M'++[x])++(D++R))):=by
   rw [← hL,← hc,List.set_append_right _ _ (Nat.le_refl _),Nat.sub_self]; simp
  simp (disch:=first|omega|simp<;>omega|fail) [-zA,-zB,-zC,-zD,-zE,hTg,hcd,-ztar]
  refine V_W mix zr5o ?_
  simp (disch:=first|omega|simp<;>omega|fail) [-zA,-zB,-zC,-zD,-zE,hGl,zjj2,z1zn,hst,zxft,hcn,hcn',hset]
  refine V_W mix zr5o ?_
  simp (disch:=first|omega|simp<;>omega|fail) [-zA,-zB,-zC,-zD,-zE]
  exact ⟨⟨K++[x],M'++[x],j+1⟩,z515 (by simp (disch:=first|omega|simp<;>omega|fail) [-zA,-zB,-zC,-zD,-zE,ztmt,zn0w,qD,hc,hfnq]) (by simp only [ztmt,zn0w]; rw [hD]; simp),by simp only; omega,⟨by simpa using hk1.symm,by simp only [List.length_append,List.length_singleton]; simp only [List.length_cons] at a2; omega,by simp,by simp only; omega⟩⟩
theorem zb6u (pre:List AObj) (A R:List Str) (N:Nat) (hN:A.length+R.length=N) (hA:N≤65536) {g:Nat} {capI:List DV} {p:Str→Bool} (hF:CloQ pre N g capI p) :
  zwy1 P 157 [qD pre.length N A.length,.fn (.func g) [] capI] (pre++[.cells (sts (A++R))]) (fun d h=>d=qD pre.length N (zwyd p A).length∧h=pre++[.cells (sts (zwyd p A++(repE (A.length-(zwyd p A).length)++R)))]) :=
 zrqk Tryd.func157 z75b (zkfv pre A R N hN hA hF)
end Go.Proofs.YtjknipdiglpnlaaDoor
set_option linter.unusedSimpArgs false
set_option linter.unusedVariables false
set_option maxRecDepth 8000
namespace Go.Proofs.YtjknipdiglpnlaaDoor
open Go Go.Am
theorem zys6 (x:Sl Lnk):zyp8 (x.dv 3 lkC)=true:=zxxb z53g x
theorem zi59 {x y:Sl Lnk} (e:x.dv 3 lkC=y.dv 3 lkC):x=y:=zcq7 z9tw (by decide) (fun _ _=>zja4) e
def qV (N m:Nat):DV:=if N=0 then .nils else qD 3 N m
def qT (N:Nat) (L:List Str):List AObj:=if N=0 then [] else [.cells (sts L)]
structure Fr where
 a:List DV
 b:List DV
 pa:zbao a=true
 pb:zbao b=true
 s:Sd
 N:Nat
 hN:N≤65536
def Fr.H (F:Fr) (Q R:List Str):List AObj:=[.cells F.a,.cells F.b,.cells (sdC F.s (qV F.N Q.length))]++qT F.N (Q++R)
theorem z28u {n:Nat} {s:Sd} {q:DV} (h:Am.below n q=true):z1r6 n (sdC s q)=true:=by
 simp only [sdC,z1r6,Am.below,zb48,z8b8 n _ (zys6 _),h,Bool.and_self]
theorem Fr.below (F:Fr) (Q R:List Str) {n:Nat} (hn:(F.H Q R).length≤n):zlf2 n (F.H Q R)=true:=by
 unfold Fr.H at hn ⊢
 by_cases h:F.N=0
 ·rw [qV,qT,if_pos h,if_pos h] at *
  simp only [List.append_nil,zlf2,zmq5 n _ F.pa,zmq5 n _ F.pb,z28u (show Am.below n .nils=true from rfl),Bool.and_self]
 ·rw [qV,qT,if_neg h,if_neg h] at *
  have h3:Am.below n (qD 3 F.N Q.length)=true:=by simp only [qD,Am.below]; simp at hn; simp; omega
  simp only [List.cons_append,List.nil_append,zlf2,zmq5 n _ F.pa,zmq5 n _ F.pb,z28u h3,zmq5 n _ (z77x _),Bool.and_self]
theorem Fr.len (F:Fr) (Q R:List Str):2<(F.H Q R).length∧(F.N≠0→3<(F.H Q R).length):=by
 unfold Fr.H qT
 split
 ·rename_i h; exact ⟨by simp,fun q=>absurd h q⟩
 ·exact ⟨by simp,fun _=>by simp⟩
theorem zwrr (s:Sd) (q:DV):(sdC s q).length=6:=rfl
theorem Fr.hO (F:Fr) (Q R:List Str) (X:List AObj):objV (F.H Q R++X) 2 6=some (sdC F.s (qV F.N Q.length)):=rfl
theorem Fr.hO0 (F:Fr) (Q R:List Str):objV (F.H Q R) 2 6=some (sdC F.s (qV F.N Q.length)):=rfl
theorem zi9h {s:Sd} {q:DV}:oneC 1 false ((sdC s q).drop 5)=some q:=rfl
theorem zse0 {h:List AObj} {k:Nat} {s:Sd} {q:DV}:z4tt h k (sdC s q)=(snap h k q).map fun q'=>sdC s q':=by
 have e : ∀ (x:Sl Ent),snap h k (x.dv 33 enC)=some (x.dv 33 enC):=fun x=>z6nl (zru8 x)
 have e2:snap h k (s.done.dv 3 lkC)=some (s.done.dv 3 lkC):=z6nl (zys6 _)
 simp only [sdC,zrz6,zpcv,e,e2,zfu7,Option.bind_some,Option.map_some]
 cases snap h k q<;>rfl
theorem z65m {s:Sd} {q:DV} (h:zyp8 q=true):zbao (sdC s q)=true:=by
 simp only [sdC,zbao,zyp8,zru8,zys6,h,Bool.and_self]
structure Clo (s:Sd) (g:Nat) (capI:List DV) (p:Str→Bool):Prop where
 sn : ∀ (H:List AObj) (q q':DV),objV H 2 6=some (sdC s q)→(∀ k,snap H (k+1) q=some q')→zyp8 q'=true → ∃ cap,z4tt H 3 capI=some cap∧zbao cap=true ∧ ∀ x,Am.Sem P g (.str x::cap) (.bool (p x))
 ne:g≠163
theorem zwpy {H:List AObj} {N m k:Nat} {L:List Str} (ho:objV H 3 N=some (sts L)):snap H (k+1) (qD 3 N m)=some (.sl false 1 m ((sts L).take (m*1))):=by
 have hp:zbao ((sts L).take (m*1))=true:=by
  unfold sts; rw [← List.map_take]; exact z77x _
 rw [qD,zve7,ho,Option.bind_some,List.drop_zero,z619 hp]; rfl
theorem Clo.q {s:Sd} {g:Nat} {capI:List DV} {p:Str→Bool} (h:Clo s g capI p) (a b:List DV) (N m:Nat):CloQ [.cells a,.cells b,.cells (sdC s (qD 3 N m))] N g capI p:=by
 refine ⟨fun L hL => ?_,h.ne⟩
 have ho:objV ([AObj.cells a,.cells b,.cells (sdC s (qD 3 N m))]++[.cells (sts L)]) 3 N=some (sts L):=by
  show (if (sts L).length=N then some (sts L) else none)=_
  rw [if_pos (by rw [z8p2,hL])]
 refine h.sn _ (qD 3 N m) _ rfl (fun k=>zwpy ho) ?_
 simp only [zyp8]
 unfold sts; rw [← List.map_take]; exact z77x _
theorem zw4a:(nilS:Sl Str).dv 1 stC = .nils:=rfl
theorem zr82 (H:List AObj) {g:Nat} {capI cap:List DV} {p:Str→Bool} (h1:z4tt H 3 capI=some cap) (h2:zbao cap=true) :
  RunsH (TI 163 [.nils,.fn (.func g) [] cap] (.int .i64 (-1))) a157 [.nils,.fn (.func g) [] capI] H .nils H:=by
 refine ⟨?_⟩
 have hfn:snap H 3 (.fn (.func g) [] capI)=some (.fn (.func g) [] cap):=by rw [zxbs,h1]; rfl
 obtain ⟨a0,ha0⟩ : ∃ a0,[DV.nils,DV.fn (.func g) [] cap]=a0:=⟨_,rfl⟩
 have hTk:TI 163 a0 (.int .i64 (-1)) 163 = .pure (ptP a0 (.int .i64 (-1))):=TI_k
 have hpt:ptP a0 (.int .i64 (-1)) [DV.nils,DV.fn (.func g) [] cap]=some (.int .i64 (-1)):=by rw [ha0]; exact zr20
 rw [ha0]
 obtain ⟨T,hT⟩ : ∃ T,TI 163 a0 (.int .i64 (-1))=T:=⟨_,rfl⟩
 rw [hT] at hTk ⊢
 have hcall:zyo0 (ptP a0 (.int .i64 (-1))) [DV.nils,.fn (.func g) [] capI] H=some (.int .i64 (-1)):=by
  cases hI:zbao capI with
  | true =>
   have e1:capI=cap:=by rw [z619 hI] at h1; exact Option.some.inj h1
   rw [z7h3 (by simp [zbao,zyp8,hI]),e1,hpt]
  | false=>rw [zl41 (by simp [zbao,zyp8,hI]),zrz6,z7d7,zrz6,hfn]; simp [hpt]
 simp (disch:=first|omega|simp<;>omega|fail) [-zA,-zB,-zC,-zD,-zE,a157,hTk,hcall,-ztar]
theorem zvu6 (H:List AObj) {g:Nat} {capI cap:List DV} {p:Str→Bool} (h1:z4tt H 3 capI=some cap) (h2:zbao cap=true) (h3 : ∀ x,Am.Sem P g (.str x::cap) (.bool (p x))) :
  zwy1 P 157 [.nils,.fn (.func g) [] capI] H (fun d h=>d = .nils∧h=H):=by
 have hs:=z5fx nilS h2 h3
 rw [zw4a] at hs
 exact zv22 mix (zyyb hs) Tryd.func157 z75b (zr82 (p:=p) H h1 h2)
theorem z5ht {h:List AObj} {id:Nat} {s:Sd} {q v:DV} (hc:v.cells=[v]) (ho:v.one=true):zy6o h id 1 5 v (some (sdC s q))=some (.junk,h.set id (.cells (sdC s v))):=by
 rw [Am.storeO_1 hc ho (by rw [zwrr]; decide)]; rfl
theorem zcie (F:Fr) (Q R:List Str) (hL:Q.length+R.length=F.N) {g:Nat} {capI:List DV} {p:Str→Bool} (hF:Clo F.s g capI p) :
  zwy1 P 115 [.mp 2 6 0,.fn (.func g) [] capI] (F.H Q R) (fun d h=>d = .tup []∧h=F.H (zwyd p Q) (repE (Q.length-(zwyd p Q).length)++R)):=by
 by_cases h0:F.N=0
 ·have hQ:Q=[]:=List.eq_nil_of_length_eq_zero (by omega)
  have hR:R=[]:=List.eq_nil_of_length_eq_zero (by omega)
  subst hQ hR
  obtain ⟨cap,h1,h2,h3⟩:=hF.sn (F.H [] []) .nils .nils (by unfold Fr.H; rw [qV,if_pos h0]; rfl) (fun k=>z7d7) rfl
  have hc:=zvu6 (F.H [] []) h1 h2 h3
  have hO:=F.hO0 [] []
  have e:F.H (zwyd p []) (repE (([]:List Str).length-(zwyd p []).length)++[])=F.H [] []:=rfl
  have eq0:qV F.N ([]:List Str).length = .nils:=by rw [qV,if_pos h0]
  rw [eq0] at hO
  have hset:(F.H [] []).set 2 (.cells (sdC F.s .nils))=F.H [] []:=by unfold Fr.H; rw [eq0]; rfl
  rw [e]
  obtain ⟨H,hH⟩ : ∃ H,F.H [] []=H:=⟨_,rfl⟩
  rw [hH] at hc hO hset ⊢
  refine zv22 mix (z84q hc) Tryd.func115 zv17 (show RunsH _ _ _ _ _ _ from ⟨?_⟩)
  have hst:zy6o H 2 1 5 .nils (some (sdC F.s .nils))=some (.junk,H.set 2 (.cells (sdC F.s .nils))):=z5ht rfl rfl
  simp (disch:=first|omega|simp<;>omega|fail) [-zA,-zB,-zC,-zD,-zE,a115,hO,zi9h,TH_k,zpvh,hst,hset]
 ·have hq : ∀ m,qV F.N m=qD 3 F.N m:=fun m=>by rw [qV,if_neg h0]
  have hc:=zb6u [.cells F.a,.cells F.b,.cells (sdC F.s (qD 3 F.N Q.length))] Q R F.N hL F.hN (hF.q F.a F.b F.N Q.length)
  obtain ⟨c,hcc⟩ : ∃ c,(zwyd p Q).length=c:=⟨_,rfl⟩
  have e1:F.H Q R=[.cells F.a,.cells F.b,.cells (sdC F.s (qD 3 F.N Q.length)),.cells (sts (Q++R))]:=by unfold Fr.H; rw [hq,qT,if_neg h0]; rfl
  have e2:F.H (zwyd p Q) (repE (Q.length-c)++R)=[.cells F.a,.cells F.b,.cells (sdC F.s (qD 3 F.N c)),.cells (sts (zwyd p Q++(repE (Q.length-c)++R)))]:=by unfold Fr.H; rw [hq,qT,if_neg h0,hcc]; rfl
  rw [hcc]
  rw [e1,e2]
  simp only [List.length_cons,List.length_nil,Nat.zero_add,Nat.reduceAdd,List.cons_append,List.nil_append,hcc] at hc
  obtain ⟨X,hX⟩ : ∃ X,sts (zwyd p Q++(repE (Q.length-c)++R))=X:=⟨_,rfl⟩
  obtain ⟨Y,hY⟩ : ∃ Y,sts (Q++R)=Y:=⟨_,rfl⟩
  rw [hX,hY] at hc
  rw [hX,hY]
  refine zv22 mix (z84q hc) Tryd.func115 zv17 (show RunsH _ _ _ _ _ _ from ⟨?_⟩)
  have hst : ∀ (h:List AObj) (q:DV),zy6o h 2 1 5 (qD 3 F.N c) (some (sdC F.s q))=some (.junk,h.set 2 (.cells (sdC F.s (qD 3 F.N c)))):=fun h q=>z5ht rfl rfl
  have hob : ∀ (m:Nat) (Z:List DV),objV [.cells F.a,.cells F.b,.cells (sdC F.s (qD 3 F.N m)),.cells Z] 2 6=some (sdC F.s (qD 3 F.N m)):=fun m Z=>rfl
  simp (disch:=first|omega|simp<;>omega|fail) [-zA,-zB,-zC,-zD,-zE,a115,hob,zi9h,TH_k,zpvh,hst]
end Go.Proofs.YtjknipdiglpnlaaDoor
