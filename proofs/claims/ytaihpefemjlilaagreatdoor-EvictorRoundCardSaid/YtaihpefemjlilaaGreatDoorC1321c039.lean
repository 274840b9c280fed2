import Derived.Lib.BytesEntry
import Derived.Test.YtaihpefemjlilaaGreatDoorC4bb2b95d
import Derived.Test.YtaihpefemjlilaaGreatDoorC1b265590
import Derived.Test.YtaihpefemjlilaaGreatDoorC2ceefa77
import Derived.Test.YtaihpefemjlilaaGreatDoorC3c839cb1
import Derived.Test.YtaihpefemjlilaaGreatDoorCd734b161
import Derived.Test.YtaihpefemjlilaaGreatDoorCb3c5e46e
import Derived.Test.YtaihpefemjlilaaGreatDoorC2e7c3fe1
set_option linter.unusedSimpArgs false
set_option linter.unusedVariables false
set_option maxRecDepth 20000
set_option maxHeartbeats 4000000
open List renaming map_take → zA, map_drop → zB, map_set → zC, map_append → zD, drop_one → zE
open Bool renaming and_eq_true → y00, true_and → y0f, or_eq_true → y0l
open Int renaming toNat_natCast → y0g
open List renaming length_cons → y01, take_of_length_le → y03, getElem?_eq_getElem → y04, cons_append → y05, length_set → y06, getElem_append_left → y07, getElem_cons_zero → y08, take_succ_eq_append_getElem → y0a, drop_zero → y0b, getElem_of_eq → y0c, length_append → y0d, getElem?_append_right → y0e, append_assoc → y0h, getElem_map → y0i, append_nil → y0j, length_map → y0k, set_append_right → y0m, getElem?_eq_none → y0n, length_filter_le → y0o, map_congr_left → y0p, getElem_of_mem → y0q, takeWhile_cons → y0r
open Nat renaming le_refl → y02, sub_self → y0s, zero_le → y0t
open Option renaming bind_some → y09
namespace Go.Proofs.YtaihpefemjlilaaGreatDoor
open Go Go.Am
open Option renaming none → yg, some → yh
open AOp renaming mov → qA, pick → qB, bin → qC, eqa → qD, eqb → qE, eqn → qF, un → qG, load → qH, store → qI, idxS → qJ, idxA → qK, fld → qL, getf → qM, idxV → qN, idxStr → qO, slcS → qP, slcStr → qQ, alloc → qR, box → qS, build → qT, bsl → qU, len → qV, lenStr → qW, app → qX, cpy → qY, apart → qZ, nilc → qd, ext → qe, call → qf, callN → qg, callT → qh, mm → qi
open ACode renaming skip → qj, region → qk, seq → ql, cond → qm, block → qn, loop → qo, exit → qp, ret → qq
@[simp] def yz70:List DV:=[(.int .i64 0),(w8 0#8),(w8 0#8),(w8 0#8),(w8 0#8),(w8 0#8),(w8 0#8),(w8 0#8),(w8 0#8),(w8 0#8),(w8 0#8),(w8 0#8),(w8 0#8),(w8 0#8),(w8 0#8),(w8 0#8),(w8 0#8),(w8 0#8),(w8 0#8),(w8 0#8),(w8 0#8),(w8 0#8),(w8 0#8),(w8 0#8),(w8 0#8),(w8 0#8),(w8 0#8),(w8 0#8),(w8 0#8),(w8 0#8),(w8 0#8),(w8 0#8),(w8 0#8),(.int .i64 0),(.int .i64 0)]
@[simp] def yz71:List DV:=[(.int .i64 0),(.int .i64 0),(w8 0#8),(w8 0#8),(w8 0#8),(w8 0#8),(w8 0#8),(w8 0#8),(w8 0#8),(w8 0#8),(w8 0#8),(w8 0#8),(w8 0#8),(w8 0#8),(w8 0#8),(w8 0#8),(w8 0#8),(w8 0#8),(w8 0#8),(w8 0#8),(w8 0#8),(w8 0#8),(w8 0#8),(w8 0#8),(w8 0#8),(w8 0#8),(w8 0#8),(w8 0#8),(w8 0#8),(w8 0#8),(w8 0#8),(w8 0#8),(w8 0#8),(w8 0#8)]
@[simp] def yz72:List DV:=[(.str []),(.str []),(w8 0#8),(w8 0#8),(w8 0#8),(w8 0#8),(w8 0#8),(w8 0#8),(w8 0#8),(w8 0#8),(w8 0#8),(w8 0#8),(w8 0#8),(w8 0#8),(w8 0#8),(w8 0#8),(w8 0#8),(w8 0#8),(w8 0#8),(w8 0#8),(w8 0#8),(w8 0#8),(w8 0#8),(w8 0#8),(w8 0#8),(w8 0#8),(w8 0#8),(w8 0#8),(w8 0#8),(w8 0#8),(w8 0#8),(w8 0#8),(w8 0#8),(w8 0#8)]
@[simp] def yz73:List DV:=[(.int .i64 0),(.int .i64 0),(w8 0#8),(w8 0#8),(w8 0#8),(w8 0#8),(w8 0#8),(w8 0#8),(w8 0#8),(w8 0#8),(w8 0#8),(w8 0#8),(w8 0#8),(w8 0#8),(w8 0#8),(w8 0#8),(w8 0#8),(w8 0#8),(w8 0#8),(w8 0#8),(w8 0#8),(w8 0#8),(w8 0#8),(w8 0#8),(w8 0#8),(w8 0#8),(w8 0#8),(w8 0#8),(w8 0#8),(w8 0#8),(w8 0#8),(w8 0#8),(w8 0#8),(w8 0#8),(.int .i64 0),(.int .i64 0),(.int .i64 0)]
theorem yVW7 {n0:Nat} {x:ACode} {Φ:AExit→St→Prop} {st:St} (h:W tbl0 n0 x Φ st):V P n0 x Φ st:=V_W mix zr5o h
theorem yVS7 {n0:Nat} {x y:ACode} {Φ:AExit→St→Prop} {st:St} (h:W tbl0 n0 x (z2pk P n0 y Φ) st):V P n0 (.seq x y) Φ st:=zbn1 (V_W mix zr5o h)
section
def z0bm:ACode :=
 (.seq (.seq (.region false [⟨none,(some 15),.mov (.t 9)⟩,
  ⟨none,(some 16),.mov (.t 10)⟩,
  ⟨none,(some 17),.bin .lss (.t 15) (.t 16)⟩])
 (.cond (.t 17) .skip
 (.exit 0)))
 (.block 1 (.seq (.region false [⟨none,(some 18),.mov (.t 9)⟩,
  ⟨none,(some 19),.mov (.t 10)⟩,
  ⟨none,(some 20),.bin .add (.t 18) (.t 19)⟩,
  ⟨none,(some 21),.conv .u64 (.t 20)⟩,
  ⟨none,(some 22),.bin .shr (.t 21) (.k (w64 1#64))⟩,
  ⟨none,(some 23),.conv .i64 (.t 22)⟩,
  ⟨none,(some 11),.mov (.t 23)⟩])
 (.seq (.region true [⟨none,(some 24),.mov (.t 2)⟩,
  ⟨none,(some 25),.mov (.t 0)⟩,
  ⟨none,(some 26),.mov (.t 11)⟩,
  ⟨none,(some 27),.idxS 35 (.t 25) (.t 26)⟩,
  ⟨none,(some 28),.load 35 true (.t 27)⟩,
  ⟨none,(some 29),.load 35 true (.t 4)⟩,
  ⟨none,(some 30),.callE (.t 24) [(.t 28),(.t 29)]⟩,
  ⟨none,(some 31),.bin .lss (.t 30) (.k (.int .i64 0))⟩])
 (.cond (.t 31) (.region false [⟨none,(some 32),.mov (.t 11)⟩,
  ⟨none,(some 33),.bin .add (.t 32) (.k (.int .i64 1))⟩,
  ⟨none,(some 9),.mov (.t 33)⟩])
 (.region false [⟨none,(some 34),.mov (.t 11)⟩,
  ⟨none,(some 10),.mov (.t 34)⟩]))))))
def zd78 (x0 x2 x4 x8 x9 x10:DV) (h:List AObj):St:=⟨[x0,.junk,x2,.junk,x4,.junk,.junk,.junk,x8,x9,x10]++js 38,h⟩
def a68:AFn:=⟨(ql (yc [yZ 4 1,yR 6 (.int .i64 0),yR 7 (.bool false)]) (ql (yc [yL 12 0,yS 13 12,yL 8 13]) (ql (yc [yL 14 8,yR 9 (.int .i64 0),yL 10 14]) (ql (qn 0 (qo z0bm)) (ql (qk true [yL 35 9,yL 36 9,yL 37 8,yO 38 .lss 36 37,yL 39 38,⟨yh (39,true),yh 40,qA (.t 2)⟩,⟨yh (39,true),yh 41,qA (.t 0)⟩,⟨yh (39,true),yh 42,qA (.t 9)⟩,⟨yh (39,true),yh 43,qJ 35 (.t 41) (.t 42)⟩,⟨yh (39,true),yh 44,qH 35 true (.t 43)⟩,⟨yh (39,true),yh 45,qH 35 true (.t 4)⟩,⟨yh (39,true),yh 46,.callE (.t 40) [.t 44,.t 45]⟩,⟨yh (39,true),yh 47,qC .eql (.t 46) (.k (.int .i64 0))⟩,yX 48 39 47,yL 6 35,yL 7 48]) qq))))),49,[.tmp 6,.tmp 7]⟩
theorem z20i:zsjc P Tryz.f68=some a68:=by kernel_rfl
def a69:AFn:=⟨(ql (yc [yZ 2 0,yZ 3 1,yR 4 (.int .i64 0)]) (ql (qk true [yN 5 0 2,yM 6 1 false 5,yN 7 0 3,yM 8 1 false 7,yN 10 1 2,⟨yg,yh 11,.slcA 32 1 (.t 10) yg yg⟩,yN 12 1 3,⟨yg,yh 13,.slcA 32 1 (.t 12) yg yg⟩,yV 9 71 [.t 6,.t 8],yV 14 72 [.t 11,.t 13],⟨yg,yh 15,qU 1 2 [(.int .i64 0)] [(0,1,(.t 9)),(1,1,(.t 14))]⟩,yV 16 70 [.t 15],yL 4 16]) qq)),17,[.tmp 4]⟩
theorem z713:zsjc P Tryz.f69=some a69:=by kernel_rfl
def a72:AFn:=⟨(ql (yc [yR 4 (.int .i64 0)]) (ql (yc [yL 5 0,yL 6 1,yU 7 102 [.t 5,.t 6],yL 4 7]) qq)),8,[.tmp 4]⟩
theorem z0xs:zsjc P Tryz.f72=some a72:=by kernel_rfl
def a42:AFn:=⟨(ql (yc [yZ 5 2,yR 6 (.int .i64 0),yR 7 (.bool false)]) (ql (yc [yL 8 0,yL 9 1,yM 10 32 true 5,⟨yg,yh 11,qT yz70 [(0,1,(.t 9)),(1,32,(.t 10))]⟩,⟨yg,yh 12,qf (.k (.fn (.func 68) [] [])) [.t 8,.t 11,(.k (.fn (.func 69) [] []))]⟩,yP 13 12 0,yP 14 12 1,yL 6 13,yL 7 14]) qq)),15,[.tmp 6,.tmp 7]⟩
theorem zl17:zsjc P Tryz.f42=some a42:=by kernel_rfl
def a43:AFn:=⟨(ql (yc [yR 2 .nils]) (ql (ql (yc [yL 3 0,⟨yg,yh 4,qF 0 false (.t 3) (.k .nils)⟩]) (yd 4 (ql (yc [yR 2 .nils]) qq) qj)) (ql (yc [⟨yg,yh 5,qU 35 0 yz70 []⟩,yL 6 0,⟨yg,yh 7,qX 35 56 (.t 5) (.t 6)⟩,yL 2 7]) qq))),8,[.tmp 2]⟩
theorem zbv8:zsjc P Tryz.f43=some a43:=by kernel_rfl
def a44:AFn:=⟨(ql (yc [yR 6 .nils]) (ql (yc [yL 10 0,yL 11 1,⟨yg,yh 12,qP 35 (.t 10) (yh (.t 11)) yg yg⟩]) (ql (yc [yL 13 2,yS 14 13,yL 7 14]) (ql (ql (yc [yL 15 7,⟨yg,yh 16,qC .eql (.t 15) (.k (.int .i64 0))⟩]) (yd 16 (ql (yc [yL 17 0,yL 6 17]) qq) qj)) (ql (yc [yL 18 0,yS 19 18,yL 8 19]) (ql (ql (yc [yL 20 1,yL 21 8,yO 22 .eql 20 21]) (yd 22 (ql (yc [yL 23 0,yL 24 2,⟨yg,yh 25,qX 35 56 (.t 23) (.t 24)⟩,yL 6 25]) qq) qj)) (ql (ql (yc [yL 26 8,yL 27 7,yO 28 .add 26 27,yL 29 0,⟨yg,yh 30,qe (.k .junk) 0⟩,yO 31 .gtr 28 30]) (yd 31 (ql (yc [yL 32 0,yL 33 1,⟨yg,yh 34,qP 35 (.t 32) yg (yh (.t 33)) yg⟩,yL 35 8,yL 36 7,yO 37 .add 35 36,yL 38 1,yO 39 .sub 37 38,⟨yg,yh 40,qe (.k .junk) 0⟩,yL 9 40]) (ql (yc [yL 41 9,yL 42 1,⟨yg,yh 43,qP 35 (.t 41) (yh (.t 42)) yg yg⟩,yL 44 2,⟨yg,yh 45,qY 35 (.t 43) (.t 44)⟩]) (ql (qk true [yL 46 9,yL 47 1,yL 48 7,yO 49 .add 47 48,⟨yg,yh 50,qP 35 (.t 46) (yh (.t 49)) yg yg⟩,yL 51 0,yL 52 1,⟨yg,yh 53,qP 35 (.t 51) (yh (.t 52)) yg yg⟩,⟨yg,yh 54,qY 35 (.t 50) (.t 53)⟩]) (ql (yc [yL 55 9,yL 6 55]) qq)))) qj)) (ql (yc [yL 56 0,yL 57 8,yL 58 7,yO 59 .add 57 58,⟨yg,yh 60,qP 35 (.t 56) yg (yh (.t 59)) yg⟩,yL 0 60]) (ql (ql (yc [yL 61 2,yL 62 0,yL 63 1,yL 64 7,yO 65 .add 63 64,⟨yg,yh 66,qP 35 (.t 62) (yh (.t 65)) yg yg⟩,yU 67 73 [.t 61,.t 66],⟨yg,yh 68,qG .not (.t 67)⟩]) (yd 68 (ql (qk true [yL 69 0,yL 70 1,yL 71 7,yO 72 .add 70 71,⟨yg,yh 73,qP 35 (.t 69) (yh (.t 72)) yg yg⟩,yL 74 0,yL 75 1,⟨yg,yh 76,qP 35 (.t 74) (yh (.t 75)) yg yg⟩,⟨yg,yh 77,qY 35 (.t 73) (.t 76)⟩]) (ql (yc [yL 78 0,yL 79 1,⟨yg,yh 80,qP 35 (.t 78) (yh (.t 79)) yg yg⟩,yL 81 2,⟨yg,yh 82,qY 35 (.t 80) (.t 81)⟩]) (ql (yc [yL 83 0,yL 6 83]) qq))) qj)) (ql (yc [yL 84 0,yL 85 8,⟨yg,yh 86,qP 35 (.t 84) (yh (.t 85)) yg yg⟩,yL 87 2,⟨yg,yh 88,qY 35 (.t 86) (.t 87)⟩]) (ql (yc [yL 89 0,yL 90 1,⟨yg,yh 91,qP 35 (.t 89) (yh (.t 90)) yg yg⟩,yL 92 7,yU 93 74 [.t 91,.t 92]]) (ql (yc [yL 94 0,yL 6 94]) qq)))))))))))),95,[.tmp 6]⟩
theorem zeo7:zsjc P Tryz.f44=some a44:=by kernel_rfl
def a15:AFn:=⟨(ql (yc [yZ 6 2,yR 8 .nils]) (ql (yc [yL 14 0,yL 15 1,yM 16 32 true 6,yU 17 42 [.t 14,.t 15,.t 16],yL 13 17,yP 18 13 0,yP 19 13 1,yL 9 18,yL 10 19]) (ql (yc [yL 20 0,yU 21 43 [.t 20],yL 11 21]) (ql (ql (yc [yL 22 10,⟨yg,yh 23,qG .not (.t 22)⟩]) (yd 23 (yc [yL 24 11,yL 25 9,yL 26 1,yM 27 32 true 6,⟨yg,yh 28,qT yz70 [(0,1,(.t 26)),(1,32,(.t 27))]⟩,⟨yg,yh 29,qU 35 1 yz70 [(0,35,(.t 28))]⟩,yU 30 44 [.t 24,.t 25,.t 29],yL 11 30]) qj)) (ql (yc [yL 31 11,yL 32 9,yQ 33 35 31 32,yL 12 33]) (ql (yc [yL 34 12,yL 35 12,yT 36 35,yN 37 33 36,yM 38 1 false 37,⟨yg,yh 39,qC .add (.t 38) (.k (.int .i64 1))⟩,⟨yg,yh 40,qi false [.t 39,(.k (.int .i64 16))]⟩,yT 41 34,yN 42 33 41,ya 1 42 40]) (ql (yc [yL 43 12,yL 44 3,yL 45 12,yT 46 45,yN 47 33 46,yM 48 1 false 47,⟨yg,yh 49,qC .shl (.k (.int .i64 1)) (.t 48)⟩,yO 50 .add 44 49,⟨yg,yh 51,qi false [.t 50,(.k (.int .i64 1099511627776))]⟩,yT 52 43,yN 53 34 52,ya 1 53 51]) (ql (yc [yL 54 11,yL 8 54]) qq)))))))),55,[.tmp 8]⟩
theorem zz37:zsjc P Tryz.f15=some a15:=by kernel_rfl
def a47:AFn:=⟨(ql (yc [yZ 3 0,yR 4 (.bool false)]) (ql (yc [yN 5 0 3,yM 6 1 false 5,yM 7 1 false 1,yO 8 .eql 6 7,yL 9 8,⟨yh (9,true),yh 10,qL 1 (.t 3)⟩,⟨yh (9,true),yh 11,qH 32 true (.t 10)⟩,⟨yh (9,true),yh 12,qH 32 true (.t 2)⟩,⟨yh (9,true),yh 13,qD false [(32,0)] (.t 11) (.t 12)⟩,yX 14 9 13,yL 4 14]) qq)),15,[.tmp 4]⟩
theorem zzqr:zsjc P Tryz.f47=some a47:=by kernel_rfl
def z079:ACode :=
 (.seq (.region false [⟨none,(some 9),.bin .lss (.t 8) (.t 7)⟩])
 (.seq (.cond (.t 9) .skip
 (.exit 0))
 (.seq (.block 1 (.seq (.region false [⟨none,(some 10),.mov (.t 8)⟩,
  ⟨none,(some 5),.mov (.t 10)⟩])
 (.seq (.region false [⟨none,(some 11),.mov (.t 1)⟩,
  ⟨none,(some 12),.mov (.t 0)⟩,
  ⟨none,(some 13),.mov (.t 5)⟩,
  ⟨none,(some 14),.idxS 35 (.t 12) (.t 13)⟩,
  ⟨none,(some 15),.load 35 true (.t 14)⟩,
  ⟨none,(some 16),.call (.t 11) [(.t 15)]⟩])
 (.cond (.t 16) (.seq (.region false [⟨none,(some 17),.mov (.t 5)⟩,
  ⟨none,(some 4),.mov (.t 17)⟩])
 .ret)
 .skip))))
 (.region false [⟨none,(some 18),.bin .add (.t 8) (.k (.int .i64 1))⟩,
  ⟨none,(some 8),.mov (.t 18)⟩]))))
def a76:AFn:=⟨(ql (yc [yR 4 (.int .i64 0)]) (ql (ql (yc [yL 6 0,yS 7 6,yR 8 (.int .i64 0)]) (qn 0 (qo z079))) (ql (yc [yR 4 (.int .i64 (-1))]) qq))),19,[.tmp 4]⟩
theorem zuum:zsjc P Tryz.f76=some a76:=by kernel_rfl
def zec8:ACode :=
 (.seq (.seq (.region false [⟨none,(some 16),.mov (.t 6)⟩,
  ⟨none,(some 17),.mov (.t 0)⟩,
  ⟨none,(some 18),.len (.t 17)⟩,
  ⟨none,(some 19),.bin .lss (.t 16) (.t 18)⟩])
 (.cond (.t 19) .skip
 (.exit 0)))
 (.seq (.block 1 (.seq (.region false [⟨none,(some 22),.mov (.t 0)⟩,
  ⟨none,(some 23),.mov (.t 6)⟩,
  ⟨none,(some 24),.idxS 35 (.t 22) (.t 23)⟩,
  ⟨none,(some 25),.load 35 true (.t 24)⟩,
  ⟨none,(some 7),.alloc yz70⟩,
  ⟨none,none,.store 35 (.t 7) (.t 25)⟩])
 (.seq (.region false [⟨none,(some 26),.mov (.t 1)⟩,
  ⟨none,(some 27),.load 35 true (.t 7)⟩,
  ⟨none,(some 28),.call (.t 26) [(.t 27)]⟩,
  ⟨none,(some 29),.un .not (.t 28)⟩])
 (.cond (.t 29) (.seq (.region false [⟨none,(some 30),.mov (.t 0)⟩,
  ⟨none,(some 31),.mov (.t 5)⟩,
  ⟨none,(some 32),.load 35 true (.t 7)⟩,
  ⟨none,(some 33),.idxS 35 (.t 30) (.t 31)⟩,
  ⟨none,none,.store 35 (.t 33) (.t 32)⟩])
 (.region false [⟨none,(some 34),.mov (.t 5)⟩,
  ⟨none,(some 35),.bin .add (.t 34) (.k (.int .i64 1))⟩,
  ⟨none,(some 5),.mov (.t 35)⟩]))
 .skip))))
 (.region false [⟨none,(some 20),.mov (.t 6)⟩,
  ⟨none,(some 21),.bin .add (.t 20) (.k (.int .i64 1))⟩,
  ⟨none,(some 6),.mov (.t 21)⟩])))
def a46:AFn:=⟨(ql (yc [yR 4 .nils]) (ql (yc [yL 8 0,yL 9 1,yU 10 76 [.t 8,.t 9],yL 5 10]) (ql (ql (yc [yL 11 5,⟨yg,yh 12,qC .eql (.t 11) (.k (.int .i64 (-1)))⟩]) (yd 12 (ql (yc [yL 13 0,yL 4 13]) qq) qj)) (ql (ql (yc [yL 14 5,⟨yg,yh 15,qC .add (.t 14) (.k (.int .i64 1))⟩,yL 6 15]) (qn 0 (qo zec8))) (ql (yc [yL 36 0,yL 37 5,⟨yg,yh 38,qP 35 (.t 36) (yh (.t 37)) yg yg⟩,⟨yg,yg,.clr 35 yz70 (.t 38)⟩]) (ql (yc [yL 39 0,yL 40 5,⟨yg,yh 41,qP 35 (.t 39) yg (yh (.t 40)) yg⟩,yL 4 41]) qq)))))),42,[.tmp 4]⟩
theorem znv1:zsjc P Tryz.f46=some a46:=by kernel_rfl
def a17:AFn:=⟨(ql (yc [yZ 4 1,yZ 5 2,yR 6 .nils]) (ql (yc [yL 7 0,yU 8 43 [.t 7],⟨yg,yh 9,.mkf (.func 47) [] [.t 4,.t 5]⟩,yU 10 46 [.t 8,.t 9],yL 6 10]) qq)),11,[.tmp 6]⟩
theorem zcaf:zsjc P Tryz.f17=some a17:=by kernel_rfl
def a48:AFn:=⟨(ql (yc [yZ 3 0,yR 4 (.bool false)]) (ql (yc [yN 5 0 3,yM 6 1 false 5,yM 7 1 false 1,yO 8 .eql 6 7,yL 9 8,⟨yh (9,true),yh 10,qH 1 false (.t 2)⟩,⟨yh (9,true),yh 11,qL 1 (.t 3)⟩,⟨yh (9,true),yh 12,qH 32 true (.t 11)⟩,⟨yh (9,true),yh 13,qf (.k (.fn (.func 49) [] [])) [.t 10,.t 12]⟩,⟨yh (9,true),yh 14,qG .not (.t 13)⟩,yX 15 9 14,yL 4 15]) qq)),16,[.tmp 4]⟩
theorem zwi2:zsjc P Tryz.f48=some a48:=by kernel_rfl
def a19:AFn:=⟨(ql (yc [yZ 4 1,yZ 5 2,yR 6 .nils]) (ql (yc [yL 7 0,yU 8 43 [.t 7],⟨yg,yh 9,.mkf (.func 48) [] [.t 4,.t 5]⟩,yU 10 46 [.t 8,.t 9],yL 6 10]) qq)),11,[.tmp 6]⟩
theorem zlqi:zsjc P Tryz.f19=some a19:=by kernel_rfl
def z7sf:ACode :=
 (.seq (.seq (.region false [⟨none,(some 15),.mov (.t 9)⟩,
  ⟨none,(some 16),.mov (.t 10)⟩,
  ⟨none,(some 17),.bin .lss (.t 15) (.t 16)⟩])
 (.cond (.t 17) .skip
 (.exit 0)))
 (.block 1 (.seq (.region false [⟨none,(some 18),.mov (.t 9)⟩,
  ⟨none,(some 19),.mov (.t 10)⟩,
  ⟨none,(some 20),.bin .add (.t 18) (.t 19)⟩,
  ⟨none,(some 21),.conv .u64 (.t 20)⟩,
  ⟨none,(some 22),.bin .shr (.t 21) (.k (w64 1#64))⟩,
  ⟨none,(some 23),.conv .i64 (.t 22)⟩,
  ⟨none,(some 11),.mov (.t 23)⟩])
 (.seq (.region true [⟨none,(some 24),.mov (.t 2)⟩,
  ⟨none,(some 25),.mov (.t 0)⟩,
  ⟨none,(some 26),.mov (.t 11)⟩,
  ⟨none,(some 27),.idxS 105 (.t 25) (.t 26)⟩,
  ⟨none,(some 28),.load 105 true (.t 27)⟩,
  ⟨none,(some 29),.load 34 true (.t 4)⟩,
  ⟨none,(some 30),.callE (.t 24) [(.t 28),(.t 29)]⟩,
  ⟨none,(some 31),.bin .lss (.t 30) (.k (.int .i64 0))⟩])
 (.cond (.t 31) (.region false [⟨none,(some 32),.mov (.t 11)⟩,
  ⟨none,(some 33),.bin .add (.t 32) (.k (.int .i64 1))⟩,
  ⟨none,(some 9),.mov (.t 33)⟩])
 (.region false [⟨none,(some 34),.mov (.t 11)⟩,
  ⟨none,(some 10),.mov (.t 34)⟩]))))))
def zq0a (x0 x2 x4 x8 x9 x10:DV) (h:List AObj):St:=⟨[x0,.junk,x2,.junk,x4,.junk,.junk,.junk,x8,x9,x10]++js 38,h⟩
def a104:AFn:=⟨(ql (yc [yZ 4 1,yR 6 (.int .i64 0),yR 7 (.bool false)]) (ql (yc [yL 12 0,yS 13 12,yL 8 13]) (ql (yc [yL 14 8,yR 9 (.int .i64 0),yL 10 14]) (ql (qn 0 (qo z7sf)) (ql (qk true [yL 35 9,yL 36 9,yL 37 8,yO 38 .lss 36 37,yL 39 38,⟨yh (39,true),yh 40,qA (.t 2)⟩,⟨yh (39,true),yh 41,qA (.t 0)⟩,⟨yh (39,true),yh 42,qA (.t 9)⟩,⟨yh (39,true),yh 43,qJ 105 (.t 41) (.t 42)⟩,⟨yh (39,true),yh 44,qH 105 true (.t 43)⟩,⟨yh (39,true),yh 45,qH 34 true (.t 4)⟩,⟨yh (39,true),yh 46,.callE (.t 40) [.t 44,.t 45]⟩,⟨yh (39,true),yh 47,qC .eql (.t 46) (.k (.int .i64 0))⟩,yX 48 39 47,yL 6 35,yL 7 48]) qq))))),49,[.tmp 6,.tmp 7]⟩
theorem z0mt:zsjc P Tryz.f104=some a104:=by kernel_rfl
def a105:AFn:=⟨(ql (yc [yZ 2 0,yZ 3 1,yR 4 (.int .i64 0)]) (ql (yc [yN 5 0 2,yM 6 34 true 5,yM 7 34 true 3,yU 8 106 [.t 6,.t 7],yL 4 8]) qq)),9,[.tmp 4]⟩
theorem z9rf:zsjc P Tryz.f105=some a105:=by kernel_rfl
def a106:AFn:=⟨(ql (yc [yZ 2 0,yZ 3 1,yR 4 (.int .i64 0)]) (ql (qk true [yN 5 0 2,yM 6 1 false 5,yN 7 0 3,yM 8 1 false 7,yN 10 1 2,yM 11 1 false 10,yN 12 1 3,yM 13 1 false 12,yN 15 2 2,⟨yg,yh 16,.slcA 32 1 (.t 15) yg yg⟩,yN 17 2 3,⟨yg,yh 18,.slcA 32 1 (.t 17) yg yg⟩,yV 9 128 [.t 6,.t 8],yV 14 128 [.t 11,.t 13],yV 19 72 [.t 16,.t 18],⟨yg,yh 20,qU 1 3 [(.int .i64 0)] [(0,1,(.t 9)),(1,1,(.t 14)),(2,1,(.t 19))]⟩,yV 21 70 [.t 20],yL 4 21]) qq)),22,[.tmp 4]⟩
theorem zex6:zsjc P Tryz.f106=some a106:=by kernel_rfl
def a128:AFn:=⟨(ql (yc [yR 4 (.int .i64 0)]) (ql (yc [yL 7 0,yU 8 138 [.t 7],yL 5 8]) (ql (yc [yL 9 1,yU 10 138 [.t 9],yL 6 10]) (ql (ql (yc [yL 11 5]) (yd 11 (ql (ql (yc [yL 12 6]) (yd 12 (ql (yc [yR 4 (.int .i64 0)]) qq) qj)) (ql (yc [yR 4 (.int .i64 (-1))]) qq)) qj)) (ql (ql (yc [yL 13 6]) (yd 13 (ql (yc [yR 4 (.int .i64 1)]) qq) qj)) (ql (ql (yc [yL 14 0,yL 15 1,yO 16 .lss 14 15]) (yd 16 (ql (yc [yR 4 (.int .i64 (-1))]) qq) qj)) (ql (ql (yc [yL 17 0,yL 18 1,yO 19 .gtr 17 18]) (yd 19 (ql (yc [yR 4 (.int .i64 1)]) qq) qj)) (ql (yc [yR 4 (.int .i64 0)]) qq)))))))),20,[.tmp 4]⟩
theorem zv7v:zsjc P Tryz.f128=some a128:=by kernel_rfl
def a138:AFn:=⟨(ql (yc [yR 2 (.bool false)]) (ql (yc [yL 3 0,yL 4 0,yO 5 .neq 3 4,yL 2 5]) qq)),6,[.tmp 2]⟩
theorem zno0:zsjc P Tryz.f138=some a138:=by kernel_rfl
def a78:AFn:=⟨(ql (yc [yZ 2 0,yZ 3 1,yR 4 (.int .i64 0),yR 5 (.bool false)]) (ql (yc [yN 6 1 2,yM 7 1 false 6,yM 8 34 true 3,⟨yg,yh 9,qf (.k (.fn (.func 104) [] [])) [.t 7,.t 8,(.k (.fn (.func 105) [] []))]⟩,yP 10 9 0,yP 11 9 1,yL 4 10,yL 5 11]) qq)),12,[.tmp 4,.tmp 5]⟩
theorem zetr:zsjc P Tryz.f78=some a78:=by kernel_rfl
def a51:AFn:=⟨(ql (yc [yZ 2 0,yZ 3 1,yR 4 (.bool false)]) (ql (yc [yM 8 2 true 2,yM 9 34 true 3,yU 10 78 [.t 8,.t 9],yL 7 10,yP 11 7 0,yP 12 7 1,yL 5 11,yL 6 12]) (ql (yc [yL 13 6,yL 14 13,⟨yh (14,true),yh 15,qL 1 (.t 2)⟩,⟨yh (14,true),yh 16,qH 1 false (.t 15)⟩,⟨yh (14,true),yh 17,qA (.t 5)⟩,⟨yh (14,true),yh 18,qJ 105 (.t 16) (.t 17)⟩,⟨yh (14,true),yh 19,qL 34 (.t 18)⟩,⟨yh (14,true),yh 20,qL 0 (.t 19)⟩,⟨yh (14,true),yh 21,qH 1 false (.t 20)⟩,yX 22 14 21,yL 4 22]) qq))),23,[.tmp 4]⟩
theorem z8rx:zsjc P Tryz.f51=some a51:=by kernel_rfl
def zyu0:ACode :=
 (.seq (.region false [⟨none,(some 36),.bin .lss (.t 35) (.t 34)⟩])
 (.seq (.cond (.t 36) .skip
 (.exit 0))
 (.seq (.block 1 (.seq (.region false [⟨none,(some 37),.idxS 32 (.t 33) (.t 35)⟩,
  ⟨none,(some 38),.load 32 true (.t 37)⟩,
  ⟨none,(some 14),.alloc (rep 32 (w8 0#8))⟩,
  ⟨none,none,.store 32 (.t 14) (.t 38)⟩])
 (.seq (.region false [⟨none,(some 40),.mov (.t 2)⟩,
  ⟨none,(some 41),.mov (.t 3)⟩,
  ⟨none,(some 42),.load 32 true (.t 14)⟩,
  ⟨none,(some 43),.call (.k (.fn (.func 42) [] [])) [(.t 40),(.t 41),(.t 42)]⟩,
  ⟨none,(some 39),.mov (.t 43)⟩,
  ⟨none,(some 44),.ext (.t 39) 0⟩,
  ⟨none,(some 45),.ext (.t 39) 1⟩,
  ⟨none,(some 15),.mov (.t 44)⟩,
  ⟨none,(some 16),.mov (.t 45)⟩])
 (.seq (.seq (.region false [⟨none,(some 46),.mov (.t 16)⟩,
  ⟨none,(some 47),.mov (.t 46)⟩,
  ⟨(some (47,true)),(some 48),.mov (.t 2)⟩,
  ⟨(some (47,true)),(some 49),.mov (.t 15)⟩,
  ⟨(some (47,true)),(some 50),.idxS 35 (.t 48) (.t 49)⟩,
  ⟨(some (47,true)),(some 51),.fld 34 (.t 50)⟩,
  ⟨(some (47,true)),(some 52),.load 1 false (.t 51)⟩,
  ⟨(some (47,true)),(some 53),.mov (.t 4)⟩,
  ⟨(some (47,true)),(some 54),.bin .gtr (.t 52) (.t 53)⟩,
  ⟨none,(some 55),.pick (.t 47) (.t 54) (.k (.bool false))⟩])
 (.cond (.t 55) (.exit 1)
 .skip))
 (.seq (.region false [⟨none,(some 56),.load 2 true (.t 6)⟩,
  ⟨none,(some 57),.fld 0 (.t 12)⟩,
  ⟨none,(some 58),.load 1 false (.t 57)⟩,
  ⟨none,(some 59),.fld 1 (.t 12)⟩,
  ⟨none,(some 60),.load 1 false (.t 59)⟩,
  ⟨none,(some 61),.load 32 true (.t 14)⟩,
  ⟨none,(some 62),.build yz72 [(0,1,(.t 58)),(1,1,(.t 60)),(2,32,(.t 61))]⟩,
  ⟨none,(some 63),.call (.k (.fn (.func 51) [] [])) [(.t 56),(.t 62)]⟩])
 (.cond (.t 63) (.seq (.region false [⟨none,(some 64),.load 32 true (.t 14)⟩,
  ⟨none,none,.store 32 (.t 10) (.t 64)⟩,
  ⟨none,(some 11),.mov (.k (.bool true))⟩])
 .ret)
 .skip))))))
 (.region false [⟨none,(some 65),.bin .add (.t 35) (.k (.int .i64 1))⟩,
  ⟨none,(some 35),.mov (.t 65)⟩]))))
def zm3v (x2 x3 x4 x6 x10 x12 x33 x34 x35:DV) (h:List AObj):St:=⟨[.junk,.junk,x2,x3,x4,.junk,x6,.junk,.junk,.junk,x10,.junk,x12]++js 20++[x33,x34,x35]++js 31,h⟩
def a23:AFn:=⟨(ql (yc [yZ 5 0,yZ 6 1,⟨yg,yh 10,qR (rep 32 (w8 0#8))⟩,yR 11 (.bool false)]) (ql (ql (yc [yL 17 3,⟨yg,yh 18,qC .lss (.t 17) (.k (.int .i64 0))⟩,yL 19 18,⟨yh (19,false),yh 20,qA (.t 3)⟩,⟨yh (19,false),yh 21,qL 0 (.t 5)⟩,⟨yh (19,false),yh 22,qH 1 false (.t 21)⟩,⟨yh (19,false),yh 23,qV (.t 22)⟩,⟨yh (19,false),yh 24,qC .geq (.t 20) (.t 23)⟩,yY 25 19 24]) (yd 25 (ql (yc [⟨yg,yh 26,qT (rep 32 (w8 0#8)) []⟩,ya 32 10 26,yR 11 (.bool false)]) qq) qj)) (ql (yc [yN 27 0 5,yM 28 1 false 27,yL 29 3,yQ 30 6 28 29,yM 31 6 true 30,⟨yg,yh 12,qR [(.str []),(.str []),(.int .i64 0),(.int .i64 0),(.int .i64 0),.nils]⟩,ya 6 12 31]) (ql (ql (yc [yN 32 5 12,yM 33 1 false 32,yS 34 33,yR 35 (.int .i64 0)]) (qn 0 (qo zyu0))) (ql (yc [⟨yg,yh 66,qT (rep 32 (w8 0#8)) []⟩,ya 32 10 66,yR 11 (.bool false)]) qq))))),67,[.cell 10 32 true,.tmp 11]⟩
theorem ztyx:zsjc P Tryz.f23=some a23:=by kernel_rfl
def z5oa:ACode :=
 (.seq (.region false [⟨none,(some 16),.bin .lss (.t 15) (.t 14)⟩])
 (.seq (.cond (.t 16) .skip
 (.exit 0))
 (.seq (.block 1 (.seq (.region false [⟨none,(some 17),.mov (.t 15)⟩,
  ⟨none,(some 3),.mov (.t 17)⟩])
 (.region true [⟨none,(some 18),.fld 0 (.t 1)⟩,
  ⟨none,(some 19),.load 1 false (.t 18)⟩,
  ⟨none,(some 20),.mov (.t 3)⟩,
  ⟨none,(some 21),.fld 0 (.t 1)⟩,
  ⟨none,(some 22),.load 1 false (.t 21)⟩,
  ⟨none,(some 23),.mov (.t 3)⟩,
  ⟨none,(some 24),.idxS 6 (.t 22) (.t 23)⟩,
  ⟨none,(some 25),.fld 5 (.t 24)⟩,
  ⟨none,(some 26),.load 1 false (.t 25)⟩,
  ⟨none,(some 27),.callN (.k (.fn (.func 81) [] [])) [(.t 26)]⟩,
  ⟨none,(some 28),.idxS 6 (.t 19) (.t 20)⟩,
  ⟨none,(some 29),.fld 5 (.t 28)⟩,
  ⟨none,none,.store 1 (.t 29) (.t 27)⟩])))
 (.region false [⟨none,(some 30),.bin .add (.t 15) (.k (.int .i64 1))⟩,
  ⟨none,(some 15),.mov (.t 30)⟩]))))
def zv4w (x1 x2 x14 x15:DV) (h:List AObj):St:=⟨[.junk,x1,x2]++js 11++[x14,x15]++js 16,h⟩
def a52:AFn:=⟨(ql (yc [yZ 1 0,⟨yg,yh 2,qR [.nils,.nils,(.int .i64 0)]⟩]) (ql (qk true [yN 4 0 1,yM 5 1 false 4,yN 7 1 1,yM 8 1 false 7,yV 6 79 [.t 5],yN 10 0 1,yV 9 80 [.t 8],ya 1 10 6,yN 11 1 1,ya 1 11 9]) (ql (ql (yc [yN 12 0 1,yM 13 1 false 12,yS 14 13,yR 15 (.int .i64 0)]) (qn 0 (qo z5oa))) (ql (yc [yM 31 3 true 1,ya 3 2 31]) qq)))),32,[.cell 2 3 true]⟩
theorem zil0:zsjc P Tryz.f52=some a52:=by kernel_rfl
def zt7b:ACode :=
 (.seq (.region false [⟨none,(some 12),.bin .lss (.t 11) (.t 10)⟩])
 (.seq (.cond (.t 12) .skip
 (.exit 0))
 (.seq (.block 1 (.seq (.region false [⟨none,(some 13),.idxS 1 (.t 9) (.t 11)⟩,
  ⟨none,(some 14),.load 1 false (.t 13)⟩,
  ⟨none,(some 5),.mov (.t 14)⟩])
 (.seq (.region false [⟨none,(some 15),.mov (.t 0)⟩,
  ⟨none,(some 16),.nilc (.t 15)⟩,
  ⟨none,(some 17),.fld 0 (.t 16)⟩,
  ⟨none,(some 18),.load 3 true (.t 17)⟩,
  ⟨none,(some 19),.mov (.t 5)⟩,
  ⟨none,(some 20),.call (.k (.fn (.func 82) [] [])) [(.t 18),(.t 19)]⟩,
  ⟨none,(some 6),.mov (.t 20)⟩])
 (.seq (.region true [⟨none,(some 22),.mov (.t 0)⟩,
  ⟨none,(some 23),.nilc (.t 22)⟩,
  ⟨none,(some 24),.fld 0 (.t 23)⟩,
  ⟨none,(some 25),.load 3 true (.t 24)⟩,
  ⟨none,(some 26),.mov (.t 5)⟩,
  ⟨none,(some 27),.mov (.t 0)⟩,
  ⟨none,(some 28),.nilc (.t 27)⟩,
  ⟨none,(some 29),.fld 6 (.t 28)⟩,
  ⟨none,(some 30),.load 1 false (.t 29)⟩,
  ⟨none,(some 31),.callN (.k (.fn (.func 83) [] [])) [(.t 25),(.t 26),(.t 30)]⟩,
  ⟨none,(some 21),.mov (.t 31)⟩,
  ⟨none,(some 32),.ext (.t 21) 0⟩,
  ⟨none,(some 33),.ext (.t 21) 1⟩,
  ⟨none,(some 7),.alloc [.nils,.nils,(.int .i64 0)]⟩,
  ⟨none,none,.store 3 (.t 7) (.t 32)⟩,
  ⟨none,(some 8),.mov (.t 33)⟩])
 (.seq (.seq (.region false [⟨none,(some 34),.mov (.t 8)⟩,
  ⟨none,(some 35),.bin .neq (.t 34) (.k (.int .i64 0))⟩])
 (.cond (.t 35) (.exit 1)
 .skip))
 (.seq (.region true [⟨none,(some 36),.mov (.t 0)⟩,
  ⟨none,(some 37),.mov (.t 0)⟩,
  ⟨none,(some 38),.nilc (.t 37)⟩,
  ⟨none,(some 39),.fld 7 (.t 38)⟩,
  ⟨none,(some 40),.load 1 false (.t 39)⟩,
  ⟨none,(some 41),.mov (.t 5)⟩,
  ⟨none,(some 42),.mov (.t 0)⟩,
  ⟨none,(some 43),.nilc (.t 42)⟩,
  ⟨none,(some 44),.fld 0 (.t 43)⟩,
  ⟨none,(some 45),.fld 1 (.t 44)⟩,
  ⟨none,(some 46),.load 1 false (.t 45)⟩,
  ⟨none,(some 47),.mov (.t 6)⟩,
  ⟨none,(some 48),.idxS 37 (.t 46) (.t 47)⟩,
  ⟨none,(some 49),.fld 2 (.t 48)⟩,
  ⟨none,(some 50),.load 32 true (.t 49)⟩,
  ⟨none,(some 51),.build yz71 [(0,1,(.k (.int .i64 2))),(1,1,(.t 41)),(2,32,(.t 50))]⟩,
  ⟨none,(some 52),.bsl 34 1 yz71 [(0,34,(.t 51))]⟩,
  ⟨none,(some 53),.app 34 48 (.t 40) (.t 52)⟩,
  ⟨none,(some 54),.nilc (.t 36)⟩,
  ⟨none,(some 55),.fld 7 (.t 54)⟩,
  ⟨none,none,.store 1 (.t 55) (.t 53)⟩])
 (.region false [⟨none,(some 56),.mov (.t 0)⟩,
  ⟨none,(some 57),.load 3 true (.t 7)⟩,
  ⟨none,(some 58),.nilc (.t 56)⟩,
  ⟨none,(some 59),.fld 0 (.t 58)⟩,
  ⟨none,none,.store 3 (.t 59) (.t 57)⟩])))))))
 (.region false [⟨none,(some 60),.bin .add (.t 11) (.k (.int .i64 1))⟩,
  ⟨none,(some 11),.mov (.t 60)⟩]))))
def znp4 (x0 x9 x10 x11:DV) (h:List AObj):St:=⟨[x0]++js 8++[x9,x10,x11]++js 49,h⟩
def a53:AFn:=⟨(ql (yc [yL 9 1,yS 10 9,yR 11 (.int .i64 0)]) (qn 0 (qo zt7b))),61,[]⟩
theorem zq51:zsjc P Tryz.f53=some a53:=by kernel_rfl
def a90:AFn:=⟨(ql (yc [yR 4 (.bool false)]) (ql (qk true [yL 11 0,yT 12 11,yN 13 0 12,yM 14 3 true 13,yL 15 0,yT 16 15,yN 17 3 16,yM 18 2 true 17,yL 19 0,yT 20 19,yN 21 5 20,yM 22 1 false 21,yL 23 1,yL 24 0,yT 25 24,yN 26 6 25,yM 27 1 false 26,yV 28 23 [.t 14,.t 18,.t 22,.t 23,.t 27],yL 10 28,yP 29 10 0,yP 30 10 1,⟨yg,yh 5,qR (rep 32 (w8 0#8))⟩,ya 32 5 29,yL 6 30]) (ql (ql (yc [yL 31 6,⟨yg,yh 32,qG .not (.t 31)⟩]) (yd 32 (ql (yc [yR 4 (.bool false)]) qq) qj)) (ql (qk true [yL 34 0,yT 35 34,yN 36 0 35,yM 37 3 true 36,yL 38 1,yM 39 32 true 5,yL 40 0,yT 41 40,yN 42 6 41,yM 43 1 false 42,yV 44 125 [.t 37,.t 38,.t 39,.t 43],yL 33 44,yP 45 33 0,yP 46 33 1,yP 47 33 2,⟨yg,yh 7,qR [.nils,.nils,(.int .i64 0)]⟩,ya 3 7 45,yL 8 46,yL 9 47]) (ql (ql (yc [yL 48 9,⟨yg,yh 49,qC .neq (.t 48) (.k (.int .i64 0))⟩]) (yd 49 (ql (yc [yR 4 (.bool false)]) qq) qj)) (ql (yc [yL 50 0,yM 51 3 true 7,yT 52 50,yN 53 0 52,ya 3 53 51]) (ql (qk true [yL 54 0,yL 55 0,yT 56 55,yN 57 7 56,yM 58 1 false 57,yL 59 8,yM 60 32 true 5,⟨yg,yh 61,qT yz71 [(0,1,(.k (.int .i64 1))),(1,1,(.t 59)),(2,32,(.t 60))]⟩,⟨yg,yh 62,qU 34 1 yz71 [(0,34,(.t 61))]⟩,⟨yg,yh 63,qX 34 48 (.t 58) (.t 62)⟩,yT 64 54,yN 65 7 64,ya 1 65 63]) (ql (yc [yR 4 (.bool true)]) qq)))))))),66,[.tmp 4]⟩
theorem z9pi:zsjc P Tryz.f90=some a90:=by kernel_rfl
def z7q2:ACode :=
 (.seq (.region false [⟨none,(some 24),.bin .lss (.t 23) (.t 22)⟩])
 (.seq (.cond (.t 24) .skip
 (.exit 0))
 (.seq (.block 1 (.seq (.region false [⟨none,(some 25),.idxS 37 (.t 21) (.t 23)⟩,
  ⟨none,(some 26),.load 37 true (.t 25)⟩,
  ⟨none,(some 10),.alloc yz73⟩,
  ⟨none,none,.store 37 (.t 10) (.t 26)⟩])
 (.seq (.region false [⟨none,(some 27),.fld 1 (.t 10)⟩,
  ⟨none,(some 28),.load 1 false (.t 27)⟩,
  ⟨none,(some 29),.mov (.t 1)⟩,
  ⟨none,(some 30),.bin .eql (.t 28) (.t 29)⟩,
  ⟨none,(some 31),.mov (.t 30)⟩,
  ⟨(some (31,true)),(some 32),.fld 34 (.t 10)⟩,
  ⟨(some (31,true)),(some 33),.load 1 false (.t 32)⟩,
  ⟨(some (31,true)),(some 34),.bin .eql (.t 33) (.k (.int .i64 1))⟩,
  ⟨none,(some 35),.pick (.t 31) (.t 34) (.k (.bool false))⟩,
  ⟨none,(some 36),.mov (.t 35)⟩,
  ⟨(some (36,true)),(some 37),.mov (.t 7)⟩,
  ⟨(some (36,true)),(some 38),.fld 0 (.t 10)⟩,
  ⟨(some (36,true)),(some 39),.load 1 false (.t 38)⟩,
  ⟨(some (36,true)),(some 40),.call (.k (.fn (.func 111) [] [])) [(.t 37),(.t 39)]⟩,
  ⟨(some (36,true)),(some 41),.mov (.t 2)⟩,
  ⟨(some (36,true)),(some 42),.eqb false (.t 40) (.t 41)⟩,
  ⟨none,(some 43),.pick (.t 36) (.t 42) (.k (.bool false))⟩])
 (.cond (.t 43) (.region false [⟨none,(some 44),.mov (.t 8)⟩,
  ⟨none,(some 45),.fld 0 (.t 10)⟩,
  ⟨none,(some 46),.load 1 false (.t 45)⟩,
  ⟨none,(some 47),.bsl 1 1 [(.int .i64 0)] [(0,1,(.t 46))]⟩,
  ⟨none,(some 48),.app 1 8 (.t 44) (.t 47)⟩,
  ⟨none,(some 8),.mov (.t 48)⟩])
 .skip))))
 (.region false [⟨none,(some 49),.bin .add (.t 23) (.k (.int .i64 1))⟩,
  ⟨none,(some 23),.mov (.t 49)⟩]))))
def zvu2 (x1 x2 x7 x8 x21 x22 x23:DV) (h:List AObj):St:=⟨[.junk,x1,x2]++js 4++[x7,x8]++js 12++[x21,x22,x23]++js 27,h⟩
def a85:AFn:=⟨(ql (yc [yR 6 .nils]) (ql (yc [yL 11 0,yT 12 11,yN 13 0 12,yM 14 3 true 13,yL 15 1,yU 16 87 [.t 14,.t 15],yL 7 16]) (ql (yc [yR 8 .nils]) (ql (ql (yc [yL 17 0,yT 18 17,yN 19 0 18,yN 20 1 19,yM 21 1 false 20,yS 22 21,yR 23 (.int .i64 0)]) (qn 0 (qo z7q2))) (ql (yc [yL 50 8,yL 6 50]) qq))))),51,[.tmp 6]⟩
theorem zu0j:zsjc P Tryz.f85=some a85:=by kernel_rfl
def z44u:ACode :=
 (.seq (.seq (.region false [⟨none,(some 64),.mov (.t 0)⟩,
  ⟨none,(some 65),.nilc (.t 64)⟩,
  ⟨none,(some 66),.fld 0 (.t 65)⟩,
  ⟨none,(some 67),.load 3 true (.t 66)⟩,
  ⟨none,(some 68),.mov (.t 1)⟩,
  ⟨none,(some 69),.call (.k (.fn (.func 87) [] [])) [(.t 67),(.t 68)]⟩,
  ⟨none,(some 70),.len (.t 69)⟩,
  ⟨none,(some 71),.mov (.t 4)⟩,
  ⟨none,(some 72),.bin .lss (.t 70) (.t 71)⟩])
 (.cond (.t 72) .skip
 (.exit 0)))
 (.block 1 (.seq (.region false [⟨none,(some 73),.mov (.t 0)⟩,
  ⟨none,(some 74),.mov (.t 1)⟩,
  ⟨none,(some 75),.call (.k (.fn (.func 90) [] [])) [(.t 73),(.t 74)]⟩,
  ⟨none,(some 76),.un .not (.t 75)⟩])
 (.cond (.t 76) (.exit 0)
 .skip))))
def zh8t (x0 x1 x4:DV) (h:List AObj):St:=⟨[x0,x1,.junk,.junk,x4]++js 72,h⟩
def a55:AFn:=⟨(ql (yc [yL 8 0,yT 9 8,yN 10 0 9,yN 11 0 10,yM 12 1 false 11,yL 13 1,yQ 14 6 12 13,yN 15 2 14,yM 16 1 false 15,yL 4 16]) (ql (yc [yL 17 0,yL 18 0,yL 19 1,yU 20 85 [.t 18,.t 19,(.k (.bool false))],yU 21 53 [.t 17,.t 20]]) (ql (yc [yL 22 0,yL 23 1,yU 24 85 [.t 22,.t 23,(.k (.bool true))],yL 5 24]) (ql (yc [yL 25 5,yU 26 86 [.t 25]]) (ql (yc [yL 27 0,yT 28 27,yN 29 0 28,yM 30 3 true 29,yL 31 1,yU 32 87 [.t 30,.t 31],yS 33 32,yL 34 4,yO 35 .sub 33 34,⟨yg,yh 36,qi true [.t 35,(.k (.int .i64 0))]⟩,yL 6 36]) (ql (yc [yL 37 0,yL 38 5,yL 39 6,yL 40 5,yS 41 40,⟨yg,yh 42,qi false [.t 39,.t 41]⟩,⟨yg,yh 43,qP 1 (.t 38) yg (yh (.t 42)) yg⟩,yU 44 53 [.t 37,.t 43]]) (ql (yc [yL 45 0,yT 46 45,yN 47 0 46,yM 48 3 true 47,yL 49 1,yU 50 88 [.t 48,.t 49],yL 7 50]) (ql (yc [yL 51 0,yL 52 7,yL 53 0,yT 54 53,yN 55 0 54,yM 56 3 true 55,yL 57 1,yU 58 89 [.t 56,.t 57],yL 59 7,yS 60 59,⟨yg,yh 61,qi false [.t 58,.t 60]⟩,⟨yg,yh 62,qP 1 (.t 52) yg (yh (.t 61)) yg⟩,yU 63 53 [.t 51,.t 62]]) (qn 0 (qo z44u)))))))))),77,[]⟩
theorem ze8s:zsjc P Tryz.f55=some a55:=by kernel_rfl
def zr8m:ACode :=
 (.seq (.region false [⟨none,(some 31),.bin .lss (.t 30) (.t 29)⟩])
 (.seq (.cond (.t 31) .skip
 (.exit 0))
 (.seq (.block 1 (.seq (.region false [⟨none,(some 32),.mov (.t 30)⟩,
  ⟨none,(some 13),.mov (.t 32)⟩])
 (.region false [⟨none,(some 33),.mov (.t 12)⟩,
  ⟨none,(some 34),.mov (.t 13)⟩,
  ⟨none,(some 35),.call (.k (.fn (.func 55) [] [])) [(.t 33),(.t 34)]⟩])))
 (.region false [⟨none,(some 36),.bin .add (.t 30) (.k (.int .i64 1))⟩,
  ⟨none,(some 30),.mov (.t 36)⟩]))))
def z3xo (x10 x12 x29 x30:DV) (h:List AObj):St:=⟨js 10++[x10,.junk,x12]++js 16++[x29,x30]++js 14,h⟩
def a25:AFn:=⟨(ql (yc [yZ 5 0,yZ 6 1,⟨yg,yh 10,qR [.nils,.nils,(.int .i64 0)]⟩,yR 11 .nils]) (ql (qk true [yM 14 3 true 5,yM 16 2 true 6,yL 17 2,yL 18 4,yV 15 52 [.t 14],⟨yg,yh 19,qT [.nils,.nils,(.int .i64 0),(.int .i64 0),.nils,.nils,(.int .i64 0),.nils] [(0,3,(.t 15)),(3,2,(.t 16)),(5,1,(.t 17)),(6,1,(.t 18))]⟩,yZ 20 19,yL 12 20]) (ql (yc [yL 21 12,yM 22 3 true 5,yL 23 3,yL 24 4,yU 25 54 [.t 22,.t 23,.t 24],yU 26 53 [.t 21,.t 25]]) (ql (ql (yc [yN 27 0 5,yM 28 1 false 27,yS 29 28,yR 30 (.int .i64 0)]) (qn 0 (qo zr8m))) (ql (qk true [yL 37 12,yT 38 37,yN 39 0 38,yM 40 3 true 39,yL 41 12,yT 42 41,yN 43 7 42,yM 44 1 false 43,ya 3 10 40,yL 11 44,⟨yg,yg,qZ (.t 41) (.t 10)⟩,⟨yg,yg,qZ (.t 42) (.t 10)⟩,⟨yg,yg,qZ (.t 43) (.t 10)⟩]) qq))))),45,[.cell 10 3 true,.tmp 11]⟩
theorem zgum:zsjc P Tryz.f25=some a25:=by kernel_rfl
def a111:AFn:=⟨(ql (yc [yR 4 (.bool false)]) (ql (yc [yL 5 0,yL 6 1,yU 7 132 [.t 5,.t 6],⟨yg,yh 8,qC .geq (.t 7) (.k (.int .i64 0))⟩,yL 4 8]) qq)),9,[.tmp 4]⟩
theorem zmlq:zsjc P Tryz.f111=some a111:=by kernel_rfl
def z1gp:ACode :=
 (.seq (.region false [⟨none,(some 9),.bin .lss (.t 8) (.t 7)⟩])
 (.seq (.cond (.t 9) .skip
 (.exit 0))
 (.seq (.block 1 (.seq (.region false [⟨none,(some 10),.mov (.t 8)⟩,
  ⟨none,(some 5),.mov (.t 10)⟩])
 (.seq (.region false [⟨none,(some 11),.mov (.t 1)⟩,
  ⟨none,(some 12),.mov (.t 0)⟩,
  ⟨none,(some 13),.mov (.t 5)⟩,
  ⟨none,(some 14),.idxS 1 (.t 12) (.t 13)⟩,
  ⟨none,(some 15),.load 1 false (.t 14)⟩,
  ⟨none,(some 16),.bin .eql (.t 11) (.t 15)⟩])
 (.cond (.t 16) (.seq (.region false [⟨none,(some 17),.mov (.t 5)⟩,
  ⟨none,(some 4),.mov (.t 17)⟩])
 .ret)
 .skip))))
 (.region false [⟨none,(some 18),.bin .add (.t 8) (.k (.int .i64 1))⟩,
  ⟨none,(some 8),.mov (.t 18)⟩]))))
def zzkc (x0 x1 x7 x8:DV) (h:List AObj):St:=⟨[x0,x1]++js 5++[x7,x8]++js 10,h⟩
def a132:AFn:=⟨(ql (yc [yR 4 (.int .i64 0)]) (ql (ql (yc [yL 6 0,yS 7 6,yR 8 (.int .i64 0)]) (qn 0 (qo z1gp))) (ql (yc [yR 4 (.int .i64 (-1))]) qq))),19,[.tmp 4]⟩
theorem zr93:zsjc P Tryz.f132=some a132:=by kernel_rfl
end
section
def a21:AFn:=⟨(ql (yc [yR 0 (.bool false)]) (ql (yc [⟨yg,yh 6,qT (rep 32 (w8 0#8)) [(0,1,(.k (w8 1#8)))]⟩,⟨yg,yh 7,qU 32 1 (rep 32 (w8 0#8)) [(0,32,(.t 6))]⟩,⟨yg,yh 8,qT [(.str []),(.str []),(.int .i64 0),(.int .i64 0),(.int .i64 0),.nils] [(0,1,(.k (.str [97]))),(1,1,(.k (.str [98]))),(2,1,(.k (.int .i64 2))),(3,1,(.k (.int .i64 1))),(4,1,(.k (.int .i64 1))),(5,1,(.t 7))]⟩,⟨yg,yh 9,qU 6 1 [(.str []),(.str []),(.int .i64 0),(.int .i64 0),(.int .i64 0),.nils] [(0,6,(.t 8))]⟩,⟨yg,yh 10,qT [.nils,.nils,(.int .i64 0)] [(0,1,(.t 9)),(2,1,(.k (.int .i64 1)))]⟩,⟨yg,yh 1,qR [.nils,.nils,(.int .i64 0)]⟩,ya 3 1 10]) (ql (yc [⟨yg,yh 11,qT (rep 32 (w8 0#8)) [(0,1,(.k (w8 1#8)))]⟩,⟨yg,yh 12,qT yz72 [(0,1,(.k (.str [97]))),(1,1,(.k (.str [98]))),(2,32,(.t 11))]⟩,⟨yg,yh 13,qT [(.bool false),(w8 0#8),(w8 0#8),(w8 0#8),(w8 0#8),(w8 0#8),(w8 0#8),(w8 0#8),(w8 0#8),(w8 0#8),(w8 0#8),(w8 0#8),(w8 0#8),(w8 0#8),(w8 0#8),(w8 0#8),(w8 0#8),(w8 0#8),(w8 0#8),(w8 0#8),(w8 0#8),(w8 0#8),(w8 0#8),(w8 0#8),(w8 0#8),(w8 0#8),(w8 0#8),(w8 0#8),(w8 0#8),(w8 0#8),(w8 0#8),(w8 0#8),(w8 0#8),(.int .i64 0),(w8 0#8),(w8 0#8),(w8 0#8),(w8 0#8),(w8 0#8),(w8 0#8),(w8 0#8),(w8 0#8),(w8 0#8),(w8 0#8),(w8 0#8),(w8 0#8),(w8 0#8),(w8 0#8),(w8 0#8),(w8 0#8),(w8 0#8),(w8 0#8),(w8 0#8),(w8 0#8),(w8 0#8),(w8 0#8),(w8 0#8),(w8 0#8),(w8 0#8),(w8 0#8),(w8 0#8),(w8 0#8),(w8 0#8),(w8 0#8),(w8 0#8),(w8 0#8),(.str []),(.str []),.nils] [(0,1,(.k (.bool true)))]⟩,⟨yg,yh 14,qT [(.str []),(.str []),(w8 0#8),(w8 0#8),(w8 0#8),(w8 0#8),(w8 0#8),(w8 0#8),(w8 0#8),(w8 0#8),(w8 0#8),(w8 0#8),(w8 0#8),(w8 0#8),(w8 0#8),(w8 0#8),(w8 0#8),(w8 0#8),(w8 0#8),(w8 0#8),(w8 0#8),(w8 0#8),(w8 0#8),(w8 0#8),(w8 0#8),(w8 0#8),(w8 0#8),(w8 0#8),(w8 0#8),(w8 0#8),(w8 0#8),(w8 0#8),(w8 0#8),(w8 0#8),(.bool false),(w8 0#8),(w8 0#8),(w8 0#8),(w8 0#8),(w8 0#8),(w8 0#8),(w8 0#8),(w8 0#8),(w8 0#8),(w8 0#8),(w8 0#8),(w8 0#8),(w8 0#8),(w8 0#8),(w8 0#8),(w8 0#8),(w8 0#8),(w8 0#8),(w8 0#8),(w8 0#8),(w8 0#8),(w8 0#8),(w8 0#8),(w8 0#8),(w8 0#8),(w8 0#8),(w8 0#8),(w8 0#8),(w8 0#8),(w8 0#8),(w8 0#8),(w8 0#8),(.int .i64 0),(w8 0#8),(w8 0#8),(w8 0#8),(w8 0#8),(w8 0#8),(w8 0#8),(w8 0#8),(w8 0#8),(w8 0#8),(w8 0#8),(w8 0#8),(w8 0#8),(w8 0#8),(w8 0#8),(w8 0#8),(w8 0#8),(w8 0#8),(w8 0#8),(w8 0#8),(w8 0#8),(w8 0#8),(w8 0#8),(w8 0#8),(w8 0#8),(w8 0#8),(w8 0#8),(w8 0#8),(w8 0#8),(w8 0#8),(w8 0#8),(w8 0#8),(w8 0#8),(.str []),(.str []),.nils,.nils,(.int .i64 0)] [(0,34,(.t 12)),(34,69,(.t 13))]⟩,⟨yg,yh 15,qU 105 1 [(.str []),(.str []),(w8 0#8),(w8 0#8),(w8 0#8),(w8 0#8),(w8 0#8),(w8 0#8),(w8 0#8),(w8 0#8),(w8 0#8),(w8 0#8),(w8 0#8),(w8 0#8),(w8 0#8),(w8 0#8),(w8 0#8),(w8 0#8),(w8 0#8),(w8 0#8),(w8 0#8),(w8 0#8),(w8 0#8),(w8 0#8),(w8 0#8),(w8 0#8),(w8 0#8),(w8 0#8),(w8 0#8),(w8 0#8),(w8 0#8),(w8 0#8),(w8 0#8),(w8 0#8),(.bool false),(w8 0#8),(w8 0#8),(w8 0#8),(w8 0#8),(w8 0#8),(w8 0#8),(w8 0#8),(w8 0#8),(w8 0#8),(w8 0#8),(w8 0#8),(w8 0#8),(w8 0#8),(w8 0#8),(w8 0#8),(w8 0#8),(w8 0#8),(w8 0#8),(w8 0#8),(w8 0#8),(w8 0#8),(w8 0#8),(w8 0#8),(w8 0#8),(w8 0#8),(w8 0#8),(w8 0#8),(w8 0#8),(w8 0#8),(w8 0#8),(w8 0#8),(w8 0#8),(.int .i64 0),(w8 0#8),(w8 0#8),(w8 0#8),(w8 0#8),(w8 0#8),(w8 0#8),(w8 0#8),(w8 0#8),(w8 0#8),(w8 0#8),(w8 0#8),(w8 0#8),(w8 0#8),(w8 0#8),(w8 0#8),(w8 0#8),(w8 0#8),(w8 0#8),(w8 0#8),(w8 0#8),(w8 0#8),(w8 0#8),(w8 0#8),(w8 0#8),(w8 0#8),(w8 0#8),(w8 0#8),(w8 0#8),(w8 0#8),(w8 0#8),(w8 0#8),(w8 0#8),(.str []),(.str []),.nils,.nils,(.int .i64 0)] [(0,105,(.t 14))]⟩,⟨yg,yh 16,qT [(.int .i64 0),.nils] [(1,1,(.t 15))]⟩,⟨yg,yh 2,qR [(.int .i64 0),.nils]⟩,ya 2 2 16]) (ql (yc [yM 18 3 true 1,yM 19 2 true 2,yU 20 25 [.t 18,.t 19,(.k .nils),(.k .nils),(.k (.int .i64 5))],yL 17 20,yP 21 17 0,yP 22 17 1,⟨yg,yh 3,qR [.nils,.nils,(.int .i64 0)]⟩,ya 3 3 21,yL 4 22]) (ql (yc [⟨yg,yh 23,qT (rep 32 (w8 0#8)) [(0,1,(.k (w8 1#8)))]⟩,yU 24 15 [(.k .nils),(.k (.int .i64 0)),.t 23,(.k (.int .i64 5))],yL 5 24]) (ql (yc [yL 25 4,yS 26 25,⟨yg,yh 27,qC .eql (.t 26) (.k (.int .i64 2))⟩,yL 28 27,⟨yh (28,true),yh 29,qL 1 (.t 3)⟩,⟨yh (28,true),yh 30,qH 1 false (.t 29)⟩,⟨yh (28,true),yh 31,qV (.t 30)⟩,⟨yh (28,true),yh 32,qC .eql (.t 31) (.k (.int .i64 2))⟩,yX 33 28 32,yL 34 33,⟨yh (34,true),yh 35,qA (.t 5)⟩,⟨yh (34,true),yh 36,qV (.t 35)⟩,⟨yh (34,true),yh 37,qC .eql (.t 36) (.k (.int .i64 1))⟩,yX 38 34 37,yL 39 38,⟨yh (39,true),yh 40,qA (.t 5)⟩,⟨yh (39,true),yh 41,qJ 35 (.t 40) (.k (.int .i64 0))⟩,⟨yh (39,true),yh 42,qL 34 (.t 41)⟩,⟨yh (39,true),yh 43,qH 1 false (.t 42)⟩,⟨yh (39,true),yh 44,qC .eql (.t 43) (.k (.int .i64 7))⟩,yX 45 39 44,yL 46 45,⟨yh (46,true),yh 47,qA (.t 5)⟩,⟨yh (46,true),yh 48,qT (rep 32 (w8 0#8)) [(0,1,(.k (w8 1#8)))]⟩,⟨yh (46,true),yh 49,qf (.k (.fn (.func 17) [] [])) [.t 47,(.k (.int .i64 0)),.t 48]⟩,⟨yh (46,true),yh 50,qV (.t 49)⟩,⟨yh (46,true),yh 51,qC .eql (.t 50) (.k (.int .i64 0))⟩,yX 52 46 51,yL 53 52,⟨yh (53,true),yh 54,qA (.t 5)⟩,⟨yh (53,true),yh 55,qf (.k (.fn (.func 19) [] [])) [.t 54,(.k (.int .i64 0)),(.k .nils)]⟩,⟨yh (53,true),yh 56,qV (.t 55)⟩,⟨yh (53,true),yh 57,qC .eql (.t 56) (.k (.int .i64 0))⟩,yX 58 53 57,yL 0 58]) qq)))))),59,[.tmp 0]⟩
theorem zyfb:zsjc P Tryz.f21=some a21:=by kernel_rfl
end
section
def a5:AFn:=⟨(ql (yc [yR 4 (.bool false)]) (ql (yc [yL 12 0,yU 13 12 [.t 12],yL 11 13,yP 14 11 0,yP 15 11 1,⟨yg,yh 5,qR [.nils,.nils,(.int .i64 0),(.int .i64 0),.nils,.nils,.nils,(.int .i64 0)]⟩,ya 8 5 14,yL 6 15]) (ql (ql (yc [yL 16 6,yU 17 13 [.t 16,(.k (.int .i64 4))],⟨yg,yh 18,qC .eql (.t 17) (.k (.int .i64 0))⟩]) (yd 18 (yc [yL 19 1,yN 20 6 5,ya 1 20 19]) qj)) (ql (yc [yN 22 0 5,yM 23 3 true 22,yN 24 3 5,yM 25 2 true 24,yN 26 5 5,yM 27 1 false 26,yN 28 6 5,yM 29 1 false 28,yN 30 7 5,yM 31 1 false 30,yU 32 25 [.t 23,.t 25,.t 27,.t 29,.t 31],yL 21 32,yP 33 21 0,yP 34 21 1,⟨yg,yh 7,qR [.nils,.nils,(.int .i64 0)]⟩,ya 3 7 33,yL 8 34]) (ql (yc [yN 36 0 5,yM 37 3 true 36,yN 38 3 5,yM 39 2 true 38,yN 40 5 5,yM 41 1 false 40,yN 42 6 5,yM 43 1 false 42,yN 44 7 5,yM 45 1 false 44,yU 46 26 [.t 37,.t 39,.t 41,.t 43,.t 45],yL 35 46,yP 47 35 0,yP 48 35 1,⟨yg,yh 9,qR [.nils,.nils,(.int .i64 0)]⟩,ya 3 9 47,yL 10 48]) (ql (yc [yM 49 3 true 7,yM 50 3 true 9,yU 51 27 [.t 49,.t 50],yL 52 51,⟨yh (52,true),yh 53,qA (.t 8)⟩,⟨yh (52,true),yh 54,qA (.t 10)⟩,⟨yh (52,true),yh 55,qf (.k (.fn (.func 28) [] [])) [.t 53,.t 54]⟩,yX 56 52 55,yL 57 56,⟨yh (57,true),yh 58,qf (.k (.fn (.func 21) [] [])) []⟩,yX 59 57 58,yL 4 59]) qq)))))),60,[.tmp 4]⟩
theorem zonh:zsjc P Tryz.f5=some a5:=by kernel_rfl
end
section
def zjzl:ACode :=
 (.seq (.seq (.region false [⟨none,(some 6),.mov (.t 5)⟩,
  ⟨none,(some 7),.bin .lss (.t 6) (.k (.int .i64 32))⟩])
 (.cond (.t 7) .skip
 (.exit 0)))
 (.seq (.block 1 (.seq (.region true [⟨none,(some 10),.mov (.t 5)⟩,
  ⟨none,(some 11),.idxA 32 1 (.t 2) (.t 10)⟩,
  ⟨none,(some 12),.load 1 false (.t 11)⟩,
  ⟨none,(some 13),.mov (.t 5)⟩,
  ⟨none,(some 14),.idxA 32 1 (.t 3) (.t 13)⟩,
  ⟨none,(some 15),.load 1 false (.t 14)⟩,
  ⟨none,(some 16),.bin .neq (.t 12) (.t 15)⟩])
 (.cond (.t 16) (.seq (.region true [⟨none,(some 17),.mov (.t 5)⟩,
  ⟨none,(some 18),.idxA 32 1 (.t 2) (.t 17)⟩,
  ⟨none,(some 19),.load 1 false (.t 18)⟩,
  ⟨none,(some 20),.mov (.t 5)⟩,
  ⟨none,(some 21),.idxA 32 1 (.t 3) (.t 20)⟩,
  ⟨none,(some 22),.load 1 false (.t 21)⟩,
  ⟨none,(some 23),.bin .lss (.t 19) (.t 22)⟩,
  ⟨none,(some 4),.mov (.t 23)⟩])
 .ret)
 .skip)))
 (.region false [⟨none,(some 8),.mov (.t 5)⟩,
  ⟨none,(some 9),.bin .add (.t 8) (.k (.int .i64 1))⟩,
  ⟨none,(some 5),.mov (.t 9)⟩])))
def zu12 (x2 x3 x5:DV) (h:List AObj):St:=⟨[.junk,.junk,x2,x3,.junk,x5]++js 18,h⟩
def a75:AFn:=⟨(ql (yc [yZ 2 0,yZ 3 1,yR 4 (.bool false)]) (ql (ql (yc [yR 5 (.int .i64 0)]) (qn 0 (qo zjzl))) (ql (yc [yR 4 (.bool false)]) qq))),24,[.tmp 4]⟩
theorem zrvd:zsjc P Tryz.f75=some a75:=by kernel_rfl
def a100:AFn:=⟨(ql (yc [yZ 2 0,yZ 3 1,yR 4 (.bool false)]) (ql (ql (yc [yN 5 0 2,yM 6 1 false 5,yN 7 0 3,yM 8 1 false 7,yO 9 .neq 6 8]) (yd 9 (ql (yc [yN 10 0 2,yM 11 1 false 10,yN 12 0 3,yM 13 1 false 12,yO 14 .lss 11 13,yL 4 14]) qq) qj)) (ql (ql (yc [yN 15 1 2,yM 16 1 false 15,yN 17 1 3,yM 18 1 false 17,yO 19 .neq 16 18]) (yd 19 (ql (yc [yN 20 1 2,yM 21 1 false 20,yN 22 1 3,yM 23 1 false 22,yO 24 .lss 21 23,yL 4 24]) qq) qj)) (ql (yc [yN 25 2 2,yM 26 32 true 25,yN 27 2 3,yM 28 32 true 27,yU 29 75 [.t 26,.t 28],yL 4 29]) qq)))),30,[.tmp 4]⟩
theorem zec4:zsjc P Tryz.f100=some a100:=by kernel_rfl
def zfle:ACode :=
 (.seq (.seq (.region true [⟨none,(some 9),.mov (.t 5)⟩,
  ⟨none,(some 10),.bin .gtr (.t 9) (.k (.int .i64 0))⟩,
  ⟨none,(some 11),.mov (.t 10)⟩,
  ⟨(some (11,true)),(some 12),.fld 0 (.t 3)⟩,
  ⟨(some (11,true)),(some 13),.load 34 true (.t 12)⟩,
  ⟨(some (11,true)),(some 14),.fld 1 (.t 2)⟩,
  ⟨(some (11,true)),(some 15),.load 1 false (.t 14)⟩,
  ⟨(some (11,true)),(some 16),.mov (.t 5)⟩,
  ⟨(some (11,true)),(some 17),.bin .sub (.t 16) (.k (.int .i64 1))⟩,
  ⟨(some (11,true)),(some 18),.idxS 105 (.t 15) (.t 17)⟩,
  ⟨(some (11,true)),(some 19),.fld 0 (.t 18)⟩,
  ⟨(some (11,true)),(some 20),.load 34 true (.t 19)⟩,
  ⟨(some (11,true)),(some 21),.callN (.k (.fn (.func 100) [] [])) [(.t 13),(.t 20)]⟩,
  ⟨none,(some 22),.pick (.t 11) (.t 21) (.k (.bool false))⟩])
 (.cond (.t 22) .skip
 (.exit 0)))
 (.block 1 (.region false [⟨none,(some 23),.mov (.t 5)⟩,
  ⟨none,(some 24),.bin .sub (.t 23) (.k (.int .i64 1))⟩,
  ⟨none,(some 5),.mov (.t 24)⟩])))
def zbq4 (x2 x3 x4 x5:DV) (h:List AObj):St:=⟨[.junk,.junk,x2,x3,x4,x5]++js 34,h⟩
def a67:AFn:=⟨(ql (yc [yZ 2 0,yZ 3 1,⟨yg,yh 4,qR [(.int .i64 0),.nils]⟩]) (ql (yc [yN 6 1 2,yM 7 1 false 6,yS 8 7,yL 5 8]) (ql (qn 0 (qo zfle)) (ql (qk true [yN 25 1 2,yM 26 1 false 25,yL 27 5,⟨yg,yh 28,qP 105 (.t 26) yg (yh (.t 27)) yg⟩,⟨yg,yh 29,qX 105 232 (.k .nils) (.t 28)⟩,yM 30 105 true 3,⟨yg,yh 31,qU 105 1 [(.str []),(.str []),(w8 0#8),(w8 0#8),(w8 0#8),(w8 0#8),(w8 0#8),(w8 0#8),(w8 0#8),(w8 0#8),(w8 0#8),(w8 0#8),(w8 0#8),(w8 0#8),(w8 0#8),(w8 0#8),(w8 0#8),(w8 0#8),(w8 0#8),(w8 0#8),(w8 0#8),(w8 0#8),(w8 0#8),(w8 0#8),(w8 0#8),(w8 0#8),(w8 0#8),(w8 0#8),(w8 0#8),(w8 0#8),(w8 0#8),(w8 0#8),(w8 0#8),(w8 0#8),(.bool false),(w8 0#8),(w8 0#8),(w8 0#8),(w8 0#8),(w8 0#8),(w8 0#8),(w8 0#8),(w8 0#8),(w8 0#8),(w8 0#8),(w8 0#8),(w8 0#8),(w8 0#8),(w8 0#8),(w8 0#8),(w8 0#8),(w8 0#8),(w8 0#8),(w8 0#8),(w8 0#8),(w8 0#8),(w8 0#8),(w8 0#8),(w8 0#8),(w8 0#8),(w8 0#8),(w8 0#8),(w8 0#8),(w8 0#8),(w8 0#8),(w8 0#8),(w8 0#8),(.int .i64 0),(w8 0#8),(w8 0#8),(w8 0#8),(w8 0#8),(w8 0#8),(w8 0#8),(w8 0#8),(w8 0#8),(w8 0#8),(w8 0#8),(w8 0#8),(w8 0#8),(w8 0#8),(w8 0#8),(w8 0#8),(w8 0#8),(w8 0#8),(w8 0#8),(w8 0#8),(w8 0#8),(w8 0#8),(w8 0#8),(w8 0#8),(w8 0#8),(w8 0#8),(w8 0#8),(w8 0#8),(w8 0#8),(w8 0#8),(w8 0#8),(w8 0#8),(w8 0#8),(.str []),(.str []),.nils,.nils,(.int .i64 0)] [(0,105,(.t 30))]⟩,⟨yg,yh 32,qX 105 232 (.t 29) (.t 31)⟩,yN 33 1 2,yM 34 1 false 33,yL 35 5,⟨yg,yh 36,qP 105 (.t 34) (yh (.t 35)) yg yg⟩,⟨yg,yh 37,qX 105 232 (.t 32) (.t 36)⟩,yN 38 1 2,ya 1 38 37,⟨yg,yg,qZ (.t 3) (.t 29)⟩,⟨yg,yg,qZ (.t 2) (.t 29)⟩,⟨yg,yg,qZ (.t 33) (.t 29)⟩,⟨yg,yg,qZ (.t 34) (.t 29)⟩,⟨yg,yg,qZ (.t 2) (.t 32)⟩,⟨yg,yg,qZ (.t 33) (.t 32)⟩,⟨yg,yg,qZ (.t 34) (.t 32)⟩]) (ql (yc [yM 39 2 true 2,ya 2 4 39]) qq))))),40,[.cell 4 2 true]⟩
theorem zy8u:zsjc P Tryz.f67=some a67:=by kernel_rfl
def z9mq:ACode :=
 (.seq (.seq (.region false [⟨none,(some 16),.mov (.t 7)⟩,
  ⟨none,(some 17),.bin .leq (.t 16) (.k (.int .i64 3))⟩])
 (.cond (.t 17) .skip
 (.exit 2)))
 (.seq (.block 3 (.seq (.region true [⟨none,(some 20),.fld 0 (.t 3)⟩,
  ⟨none,(some 21),.load 1 false (.t 20)⟩,
  ⟨none,(some 22),.mov (.t 6)⟩,
  ⟨none,(some 23),.idxS 6 (.t 21) (.t 22)⟩,
  ⟨none,(some 24),.fld 0 (.t 23)⟩,
  ⟨none,(some 25),.load 1 false (.t 24)⟩,
  ⟨none,(some 26),.fld 0 (.t 3)⟩,
  ⟨none,(some 27),.load 1 false (.t 26)⟩,
  ⟨none,(some 28),.mov (.t 6)⟩,
  ⟨none,(some 29),.idxS 6 (.t 27) (.t 28)⟩,
  ⟨none,(some 30),.fld 1 (.t 29)⟩,
  ⟨none,(some 31),.load 1 false (.t 30)⟩,
  ⟨none,(some 32),.mov (.t 7)⟩,
  ⟨none,(some 33),.conv .u8 (.t 32)⟩,
  ⟨none,(some 34),.build (rep 32 (w8 0#8)) [(0,1,(.t 33))]⟩,
  ⟨none,(some 35),.build yz72 [(0,1,(.t 25)),(1,1,(.t 31)),(2,32,(.t 34))]⟩,
  ⟨none,(some 8),.alloc yz72⟩,
  ⟨none,none,.store 34 (.t 8) (.t 35)⟩])
 (.region true [⟨none,(some 36),.load 2 true (.t 5)⟩,
  ⟨none,(some 37),.load 34 true (.t 8)⟩,
  ⟨none,(some 38),.mov (.t 0)⟩,
  ⟨none,(some 39),.callT (.k (.fn (.func 13) [] [])) [(.t 38),(.k (.int .i64 3))]⟩,
  ⟨none,(some 40),.bin .gtr (.t 39) (.k (.int .i64 0))⟩,
  ⟨none,(some 41),.build [(.bool false),(w8 0#8),(w8 0#8),(w8 0#8),(w8 0#8),(w8 0#8),(w8 0#8),(w8 0#8),(w8 0#8),(w8 0#8),(w8 0#8),(w8 0#8),(w8 0#8),(w8 0#8),(w8 0#8),(w8 0#8),(w8 0#8),(w8 0#8),(w8 0#8),(w8 0#8),(w8 0#8),(w8 0#8),(w8 0#8),(w8 0#8),(w8 0#8),(w8 0#8),(w8 0#8),(w8 0#8),(w8 0#8),(w8 0#8),(w8 0#8),(w8 0#8),(w8 0#8),(.int .i64 0),(w8 0#8),(w8 0#8),(w8 0#8),(w8 0#8),(w8 0#8),(w8 0#8),(w8 0#8),(w8 0#8),(w8 0#8),(w8 0#8),(w8 0#8),(w8 0#8),(w8 0#8),(w8 0#8),(w8 0#8),(w8 0#8),(w8 0#8),(w8 0#8),(w8 0#8),(w8 0#8),(w8 0#8),(w8 0#8),(w8 0#8),(w8 0#8),(w8 0#8),(w8 0#8),(w8 0#8),(w8 0#8),(w8 0#8),(w8 0#8),(w8 0#8),(w8 0#8),(.str []),(.str []),.nils] [(0,1,(.t 40))]⟩,
  ⟨none,(some 42),.build [(.str []),(.str []),(w8 0#8),(w8 0#8),(w8 0#8),(w8 0#8),(w8 0#8),(w8 0#8),(w8 0#8),(w8 0#8),(w8 0#8),(w8 0#8),(w8 0#8),(w8 0#8),(w8 0#8),(w8 0#8),(w8 0#8),(w8 0#8),(w8 0#8),(w8 0#8),(w8 0#8),(w8 0#8),(w8 0#8),(w8 0#8),(w8 0#8),(w8 0#8),(w8 0#8),(w8 0#8),(w8 0#8),(w8 0#8),(w8 0#8),(w8 0#8),(w8 0#8),(w8 0#8),(.bool false),(w8 0#8),(w8 0#8),(w8 0#8),(w8 0#8),(w8 0#8),(w8 0#8),(w8 0#8),(w8 0#8),(w8 0#8),(w8 0#8),(w8 0#8),(w8 0#8),(w8 0#8),(w8 0#8),(w8 0#8),(w8 0#8),(w8 0#8),(w8 0#8),(w8 0#8),(w8 0#8),(w8 0#8),(w8 0#8),(w8 0#8),(w8 0#8),(w8 0#8),(w8 0#8),(w8 0#8),(w8 0#8),(w8 0#8),(w8 0#8),(w8 0#8),(w8 0#8),(.int .i64 0),(w8 0#8),(w8 0#8),(w8 0#8),(w8 0#8),(w8 0#8),(w8 0#8),(w8 0#8),(w8 0#8),(w8 0#8),(w8 0#8),(w8 0#8),(w8 0#8),(w8 0#8),(w8 0#8),(w8 0#8),(w8 0#8),(w8 0#8),(w8 0#8),(w8 0#8),(w8 0#8),(w8 0#8),(w8 0#8),(w8 0#8),(w8 0#8),(w8 0#8),(w8 0#8),(w8 0#8),(w8 0#8),(w8 0#8),(w8 0#8),(w8 0#8),(w8 0#8),(.str []),(.str []),.nils,.nils,(.int .i64 0)] [(0,34,(.t 37)),(34,69,(.t 41))]⟩,
  ⟨none,(some 43),.callN (.k (.fn (.func 67) [] [])) [(.t 36),(.t 42)]⟩,
  ⟨none,none,.store 2 (.t 5) (.t 43)⟩,
  ⟨none,none,.apart (.t 5) (.t 38)⟩,
  ⟨none,none,.apart (.t 8) (.t 38)⟩])))
 (.region false [⟨none,(some 18),.mov (.t 7)⟩,
  ⟨none,(some 19),.bin .add (.t 18) (.k (.int .i64 1))⟩,
  ⟨none,(some 7),.mov (.t 19)⟩])))
def zbmj (x0 x3 x4 x5 x6 x7:DV) (h:List AObj):St:=⟨[x0,.junk,.junk,x3,x4,x5,x6,x7]++js 37,h⟩
def znbh:ACode :=
 (.seq (.seq (.region false [⟨none,(some 9),.mov (.t 6)⟩,
  ⟨none,(some 10),.fld 0 (.t 3)⟩,
  ⟨none,(some 11),.load 1 false (.t 10)⟩,
  ⟨none,(some 12),.len (.t 11)⟩,
  ⟨none,(some 13),.bin .lss (.t 9) (.t 12)⟩])
 (.cond (.t 13) .skip
 (.exit 0)))
 (.seq (.block 1 (.seq (.region false [⟨none,(some 7),.mov (.k (.int .i64 1))⟩])
 (.block 2 (.loop z9mq))))
 (.region false [⟨none,(some 14),.mov (.t 6)⟩,
  ⟨none,(some 15),.bin .add (.t 14) (.k (.int .i64 1))⟩,
  ⟨none,(some 6),.mov (.t 15)⟩])))
def zly3 (x0 x3 x4 x5 x6:DV) (h:List AObj):St:=⟨[x0,.junk,.junk,x3,x4,x5,x6]++js 38,h⟩
def a39:AFn:=⟨(ql (yc [yZ 3 1,⟨yg,yh 4,qR [(.int .i64 0),.nils]⟩]) (ql (yc [⟨yg,yh 5,qR [(.int .i64 0),.nils]⟩]) (ql (ql (yc [yR 6 (.int .i64 0)]) (qn 0 (qo znbh))) (ql (yc [yM 44 2 true 5,ya 2 4 44]) qq)))),45,[.cell 4 2 true]⟩
theorem zjwo:zsjc P Tryz.f39=some a39:=by kernel_rfl
def zb4u:ACode :=
 (.seq (.seq (.region false [⟨none,(some 16),.mov (.t 7)⟩,
  ⟨none,(some 17),.bin .leq (.t 16) (.k (.int .i64 3))⟩])
 (.cond (.t 17) .skip
 (.exit 2)))
 (.seq (.block 3 (.seq (.region false [⟨none,(some 20),.mov (.t 7)⟩,
  ⟨none,(some 21),.conv .u8 (.t 20)⟩,
  ⟨none,(some 22),.build (rep 32 (w8 0#8)) [(0,1,(.t 21))]⟩,
  ⟨none,(some 8),.alloc (rep 32 (w8 0#8))⟩,
  ⟨none,none,.store 32 (.t 8) (.t 22)⟩])
 (.seq (.region true [⟨none,(some 23),.fld 0 (.t 3)⟩,
  ⟨none,(some 24),.load 1 false (.t 23)⟩,
  ⟨none,(some 25),.mov (.t 6)⟩,
  ⟨none,(some 26),.idxS 6 (.t 24) (.t 25)⟩,
  ⟨none,(some 27),.fld 5 (.t 26)⟩,
  ⟨none,(some 28),.load 1 false (.t 27)⟩,
  ⟨none,(some 29),.load 32 true (.t 8)⟩,
  ⟨none,(some 30),.callN (.k (.fn (.func 50) [] [])) [(.t 28),(.t 29)]⟩,
  ⟨none,(some 31),.mov (.t 30)⟩,
  ⟨(some (31,true)),(some 32),.mov (.t 0)⟩,
  ⟨(some (31,true)),(some 33),.callT (.k (.fn (.func 13) [] [])) [(.t 32),(.k (.int .i64 3))]⟩,
  ⟨(some (31,true)),(some 34),.bin .eql (.t 33) (.k (.int .i64 0))⟩,
  ⟨none,(some 35),.pick (.t 31) (.t 34) (.k (.bool false))⟩])
 (.cond (.t 35) (.region true [⟨none,(some 36),.mov (.t 5)⟩,
  ⟨none,(some 37),.mov (.t 6)⟩,
  ⟨none,(some 38),.load 32 true (.t 8)⟩,
  ⟨none,(some 39),.mov (.t 0)⟩,
  ⟨none,(some 40),.callT (.k (.fn (.func 13) [] [])) [(.t 39),(.k (.int .i64 4))]⟩,
  ⟨none,(some 41),.bin .add (.k (.int .i64 1)) (.t 40)⟩,
  ⟨none,(some 42),.mov (.t 0)⟩,
  ⟨none,(some 43),.callT (.k (.fn (.func 13) [] [])) [(.t 42),(.k (.int .i64 40))]⟩,
  ⟨none,(some 44),.build yz70 [(0,1,(.t 37)),(1,32,(.t 38)),(33,1,(.t 41)),(34,1,(.t 43))]⟩,
  ⟨none,(some 45),.bsl 35 1 yz70 [(0,35,(.t 44))]⟩,
  ⟨none,(some 46),.app 35 56 (.t 36) (.t 45)⟩,
  ⟨none,(some 5),.mov (.t 46)⟩,
  ⟨none,none,.apart (.t 8) (.t 39)⟩,
  ⟨none,none,.apart (.t 8) (.t 42)⟩])
 .skip))))
 (.region false [⟨none,(some 18),.mov (.t 7)⟩,
  ⟨none,(some 19),.bin .add (.t 18) (.k (.int .i64 1))⟩,
  ⟨none,(some 7),.mov (.t 19)⟩])))
def zcq1 (x0 x3 x5 x6 x7:DV) (h:List AObj):St:=⟨[x0,.junk,.junk,x3,.junk,x5,x6,x7]++js 40,h⟩
def z1eu:ACode :=
 (.seq (.seq (.region false [⟨none,(some 9),.mov (.t 6)⟩,
  ⟨none,(some 10),.fld 0 (.t 3)⟩,
  ⟨none,(some 11),.load 1 false (.t 10)⟩,
  ⟨none,(some 12),.len (.t 11)⟩,
  ⟨none,(some 13),.bin .lss (.t 9) (.t 12)⟩])
 (.cond (.t 13) .skip
 (.exit 0)))
 (.seq (.block 1 (.seq (.region false [⟨none,(some 7),.mov (.k (.int .i64 1))⟩])
 (.block 2 (.loop zb4u))))
 (.region false [⟨none,(some 14),.mov (.t 6)⟩,
  ⟨none,(some 15),.bin .add (.t 14) (.k (.int .i64 1))⟩,
  ⟨none,(some 6),.mov (.t 15)⟩])))
def zuzy (x0 x3 x5 x6:DV) (h:List AObj):St:=⟨[x0,.junk,.junk,x3,.junk,x5,x6]++js 41,h⟩
def a40:AFn:=⟨(ql (yc [yZ 3 1,yR 4 .nils]) (ql (yc [yR 5 .nils]) (ql (ql (yc [yR 6 (.int .i64 0)]) (qn 0 (qo z1eu))) (ql (yc [yL 47 5,yL 4 47]) qq)))),48,[.tmp 4]⟩
theorem zt62:zsjc P Tryz.f40=some a40:=by kernel_rfl
def a12:AFn:=⟨(ql (yc [⟨yg,yh 2,qR [.nils,.nils,(.int .i64 0),(.int .i64 0),.nils,.nils,.nils,(.int .i64 0)]⟩,yR 3 .nilp]) (ql (yc [yL 6 0,yU 7 37 [.t 6,(.k (.int .i64 300))],yL 4 7]) (ql (yc [yL 8 4,yU 9 38 [.t 8,(.k (.int .i64 8))],⟨yg,yh 10,qT [.nils,.nils,(.int .i64 0),(.int .i64 0),.nils,.nils,.nils,(.int .i64 0)] [(0,3,(.t 9))]⟩,⟨yg,yh 5,qR [.nils,.nils,(.int .i64 0),(.int .i64 0),.nils,.nils,.nils,(.int .i64 0)]⟩,ya 8 5 10]) (ql (yc [yL 11 4,yN 12 0 5,yM 13 3 true 12,yU 14 39 [.t 11,.t 13],yN 15 3 5,ya 2 15 14]) (ql (qk true [yL 16 4,yN 17 0 5,yM 18 3 true 17,⟨yg,yh 19,qh (.k (.fn (.func 40) [] [])) [.t 16,.t 18]⟩,yL 20 4,yN 21 0 5,yM 22 3 true 21,⟨yg,yh 23,qh (.k (.fn (.func 41) [] [])) [.t 20,.t 22]⟩,yL 24 4,⟨yg,yh 25,qh (.k (.fn (.func 13) [] [])) [.t 24,(.k (.int .i64 20))]⟩,⟨yg,yh 26,qC .add (.k (.int .i64 30)) (.t 25)⟩,yN 27 5 5,ya 1 27 19,yN 28 6 5,ya 1 28 23,yN 29 7 5,ya 1 29 26,⟨yg,yg,qZ (.t 5) (.t 16)⟩,⟨yg,yg,qZ (.t 21) (.t 16)⟩,⟨yg,yg,qZ (.t 5) (.t 20)⟩,⟨yg,yg,qZ (.t 5) (.t 24)⟩]) (ql (yc [yM 30 8 true 5,yL 31 4,ya 8 2 30,yL 3 31]) qq)))))),32,[.cell 2 8 true,.tmp 3]⟩
theorem zqkh:zsjc P Tryz.f12=some a12:=by kernel_rfl
end
section
def z1dk:ACode :=
 (.seq (.seq (.region false [⟨none,(some 6),.mov (.t 5)⟩,
  ⟨none,(some 7),.fld 1 (.t 2)⟩,
  ⟨none,(some 8),.load 1 false (.t 7)⟩,
  ⟨none,(some 9),.len (.t 8)⟩,
  ⟨none,(some 10),.bin .lss (.t 6) (.t 9)⟩])
 (.cond (.t 10) .skip
 (.exit 0)))
 (.seq (.block 1 (.seq (.region true [⟨none,(some 13),.fld 1 (.t 2)⟩,
  ⟨none,(some 14),.load 1 false (.t 13)⟩,
  ⟨none,(some 15),.mov (.t 5)⟩,
  ⟨none,(some 16),.idxS 105 (.t 14) (.t 15)⟩,
  ⟨none,(some 17),.fld 0 (.t 16)⟩,
  ⟨none,(some 18),.load 34 true (.t 17)⟩,
  ⟨none,(some 19),.load 34 true (.t 3)⟩,
  ⟨none,(some 20),.eqa false [(2,1),(32,0)] (.t 18) (.t 19)⟩])
 (.cond (.t 20) (.seq (.region false [⟨none,(some 21),.mov (.t 5)⟩,
  ⟨none,(some 4),.mov (.t 21)⟩])
 .ret)
 .skip)))
 (.region false [⟨none,(some 11),.mov (.t 5)⟩,
  ⟨none,(some 12),.bin .add (.t 11) (.k (.int .i64 1))⟩,
  ⟨none,(some 5),.mov (.t 12)⟩])))
def zbk2 (x2 x3 x5:DV) (h:List AObj):St:=⟨[.junk,.junk,x2,x3,.junk,x5]++js 16,h⟩
def a62:AFn:=⟨(ql (yc [yZ 2 0,yZ 3 1,yR 4 (.int .i64 0)]) (ql (ql (yc [yR 5 (.int .i64 0)]) (qn 0 (qo z1dk))) (ql (yc [yR 4 (.int .i64 (-1))]) qq))),22,[.tmp 4]⟩
theorem z0i3:zsjc P Tryz.f62=some a62:=by kernel_rfl
def a31:AFn:=⟨(ql (yc [yZ 2 0,yZ 3 1,yR 4 (.bool false)]) (ql (yc [yM 6 2 true 2,yM 7 34 true 3,yU 8 62 [.t 6,.t 7],yL 5 8]) (ql (yc [yL 9 5,⟨yg,yh 10,qC .geq (.t 9) (.k (.int .i64 0))⟩,yL 11 10,⟨yh (11,true),yh 12,qL 1 (.t 2)⟩,⟨yh (11,true),yh 13,qH 1 false (.t 12)⟩,⟨yh (11,true),yh 14,qA (.t 5)⟩,⟨yh (11,true),yh 15,qJ 105 (.t 13) (.t 14)⟩,⟨yh (11,true),yh 16,qL 34 (.t 15)⟩,⟨yh (11,true),yh 17,qL 0 (.t 16)⟩,⟨yh (11,true),yh 18,qH 1 false (.t 17)⟩,yX 19 11 18,yL 4 19]) qq))),20,[.tmp 4]⟩
theorem zjer:zsjc P Tryz.f31=some a31:=by kernel_rfl
def zmv1:ACode :=
 (.seq (.seq (.region true [⟨none,(some 9),.mov (.t 8)⟩,
  ⟨none,(some 10),.mov (.t 0)⟩,
  ⟨none,(some 11),.len (.t 10)⟩,
  ⟨none,(some 12),.bin .lss (.t 9) (.t 11)⟩,
  ⟨none,(some 13),.mov (.t 12)⟩,
  ⟨(some (13,true)),(some 14),.mov (.t 0)⟩,
  ⟨(some (13,true)),(some 15),.mov (.t 8)⟩,
  ⟨(some (13,true)),(some 16),.idxS 35 (.t 14) (.t 15)⟩,
  ⟨(some (13,true)),(some 17),.fld 0 (.t 16)⟩,
  ⟨(some (13,true)),(some 18),.load 1 false (.t 17)⟩,
  ⟨(some (13,true)),(some 19),.mov (.t 1)⟩,
  ⟨(some (13,true)),(some 20),.bin .lss (.t 18) (.t 19)⟩,
  ⟨(some (13,true)),(some 21),.mov (.t 20)⟩,
  ⟨(some (21,false)),(some 22),.mov (.t 0)⟩,
  ⟨(some (21,false)),(some 23),.mov (.t 8)⟩,
  ⟨(some (21,false)),(some 24),.idxS 35 (.t 22) (.t 23)⟩,
  ⟨(some (21,false)),(some 25),.fld 0 (.t 24)⟩,
  ⟨(some (21,false)),(some 26),.load 1 false (.t 25)⟩,
  ⟨(some (21,false)),(some 27),.mov (.t 1)⟩,
  ⟨(some (21,false)),(some 28),.bin .eql (.t 26) (.t 27)⟩,
  ⟨(some (21,false)),(some 29),.mov (.t 28)⟩,
  ⟨(some (29,true)),(some 30),.mov (.t 0)⟩,
  ⟨(some (29,true)),(some 31),.mov (.t 8)⟩,
  ⟨(some (29,true)),(some 32),.idxS 35 (.t 30) (.t 31)⟩,
  ⟨(some (29,true)),(some 33),.fld 1 (.t 32)⟩,
  ⟨(some (29,true)),(some 34),.load 32 true (.t 33)⟩,
  ⟨(some (29,true)),(some 35),.load 32 true (.t 5)⟩,
  ⟨(some (29,true)),(some 36),.callN (.k (.fn (.func 75) [] [])) [(.t 34),(.t 35)]⟩,
  ⟨(some (21,false)),(some 37),.pick (.t 29) (.t 36) (.k (.bool false))⟩,
  ⟨(some (13,true)),(some 38),.pick (.t 21) (.k (.bool true)) (.t 37)⟩,
  ⟨none,(some 39),.pick (.t 13) (.t 38) (.k (.bool false))⟩])
 (.cond (.t 39) .skip
 (.exit 0)))
 (.block 1 (.region false [⟨none,(some 40),.mov (.t 8)⟩,
  ⟨none,(some 41),.bin .add (.t 40) (.k (.int .i64 1))⟩,
  ⟨none,(some 8),.mov (.t 41)⟩])))
def z7h3 (x0 x1 x5 x8:DV) (h:List AObj):St:=⟨[x0,x1,.junk,.junk,.junk,x5,.junk,.junk,x8]++js 56,h⟩
def a45:AFn:=⟨(ql (yc [yZ 5 2,yR 6 (.int .i64 0),yR 7 (.bool false)]) (ql (yc [yR 8 (.int .i64 0)]) (ql (qn 0 (qo zmv1)) (ql (qk true [yL 42 8,yL 43 8,yL 44 0,yS 45 44,yO 46 .lss 43 45,yL 47 46,⟨yh (47,true),yh 48,qA (.t 0)⟩,⟨yh (47,true),yh 49,qA (.t 8)⟩,⟨yh (47,true),yh 50,qJ 35 (.t 48) (.t 49)⟩,⟨yh (47,true),yh 51,qL 0 (.t 50)⟩,⟨yh (47,true),yh 52,qH 1 false (.t 51)⟩,⟨yh (47,true),yh 53,qA (.t 1)⟩,⟨yh (47,true),yh 54,qC .eql (.t 52) (.t 53)⟩,yX 55 47 54,yL 56 55,⟨yh (56,true),yh 57,qA (.t 0)⟩,⟨yh (56,true),yh 58,qA (.t 8)⟩,⟨yh (56,true),yh 59,qJ 35 (.t 57) (.t 58)⟩,⟨yh (56,true),yh 60,qL 1 (.t 59)⟩,⟨yh (56,true),yh 61,qH 32 true (.t 60)⟩,⟨yh (56,true),yh 62,qH 32 true (.t 5)⟩,⟨yh (56,true),yh 63,qD false [(32,0)] (.t 61) (.t 62)⟩,yX 64 56 63,yL 6 42,yL 7 64]) qq)))),65,[.tmp 6,.tmp 7]⟩
theorem z94d:zsjc P Tryz.f45=some a45:=by kernel_rfl
def zqw7:ACode :=
 (.seq (.seq (.region false [⟨none,(some 32),.mov (.t 13)⟩,
  ⟨none,(some 33),.fld 5 (.t 12)⟩,
  ⟨none,(some 34),.load 1 false (.t 33)⟩,
  ⟨none,(some 35),.len (.t 34)⟩,
  ⟨none,(some 36),.bin .lss (.t 32) (.t 35)⟩])
 (.cond (.t 36) .skip
 (.exit 0)))
 (.seq (.block 1 (.seq (.region false [⟨none,(some 40),.mov (.t 2)⟩,
  ⟨none,(some 41),.mov (.t 3)⟩,
  ⟨none,(some 42),.fld 5 (.t 12)⟩,
  ⟨none,(some 43),.load 1 false (.t 42)⟩,
  ⟨none,(some 44),.mov (.t 13)⟩,
  ⟨none,(some 45),.idxS 32 (.t 43) (.t 44)⟩,
  ⟨none,(some 46),.load 32 true (.t 45)⟩,
  ⟨none,(some 47),.call (.k (.fn (.func 45) [] [])) [(.t 40),(.t 41),(.t 46)]⟩,
  ⟨none,(some 39),.mov (.t 47)⟩,
  ⟨none,(some 48),.ext (.t 39) 0⟩,
  ⟨none,(some 49),.ext (.t 39) 1⟩,
  ⟨none,(some 14),.mov (.t 48)⟩,
  ⟨none,(some 15),.mov (.t 49)⟩])
 (.seq (.region false [⟨none,(some 50),.mov (.t 15)⟩,
  ⟨none,(some 51),.mov (.t 50)⟩,
  ⟨(some (51,true)),(some 52),.mov (.t 2)⟩,
  ⟨(some (51,true)),(some 53),.mov (.t 14)⟩,
  ⟨(some (51,true)),(some 54),.idxS 35 (.t 52) (.t 53)⟩,
  ⟨(some (51,true)),(some 55),.fld 34 (.t 54)⟩,
  ⟨(some (51,true)),(some 56),.load 1 false (.t 55)⟩,
  ⟨(some (51,true)),(some 57),.mov (.t 4)⟩,
  ⟨(some (51,true)),(some 58),.bin .gtr (.t 56) (.t 57)⟩,
  ⟨none,(some 59),.pick (.t 51) (.t 58) (.k (.bool false))⟩,
  ⟨none,(some 16),.mov (.t 59)⟩])
 (.seq (.region true [⟨none,(some 60),.mov (.t 16)⟩,
  ⟨none,(some 61),.un .not (.t 60)⟩,
  ⟨none,(some 62),.mov (.t 61)⟩,
  ⟨(some (62,true)),(some 63),.load 2 true (.t 6)⟩,
  ⟨(some (62,true)),(some 64),.fld 0 (.t 12)⟩,
  ⟨(some (62,true)),(some 65),.load 1 false (.t 64)⟩,
  ⟨(some (62,true)),(some 66),.fld 1 (.t 12)⟩,
  ⟨(some (62,true)),(some 67),.load 1 false (.t 66)⟩,
  ⟨(some (62,true)),(some 68),.fld 5 (.t 12)⟩,
  ⟨(some (62,true)),(some 69),.load 1 false (.t 68)⟩,
  ⟨(some (62,true)),(some 70),.mov (.t 13)⟩,
  ⟨(some (62,true)),(some 71),.idxS 32 (.t 69) (.t 70)⟩,
  ⟨(some (62,true)),(some 72),.load 32 true (.t 71)⟩,
  ⟨(some (62,true)),(some 73),.build yz72 [(0,1,(.t 65)),(1,1,(.t 67)),(2,32,(.t 72))]⟩,
  ⟨(some (62,true)),(some 74),.callN (.k (.fn (.func 31) [] [])) [(.t 63),(.t 73)]⟩,
  ⟨none,(some 75),.pick (.t 62) (.t 74) (.k (.bool false))⟩])
 (.cond (.t 75) (.seq (.region false [⟨none,(some 76),.fld 5 (.t 12)⟩,
  ⟨none,(some 77),.load 1 false (.t 76)⟩,
  ⟨none,(some 78),.mov (.t 13)⟩,
  ⟨none,(some 79),.idxS 32 (.t 77) (.t 78)⟩,
  ⟨none,(some 80),.load 32 true (.t 79)⟩,
  ⟨none,none,.store 32 (.t 10) (.t 80)⟩,
  ⟨none,(some 11),.mov (.k (.bool true))⟩])
 .ret)
 .skip)))))
 (.region false [⟨none,(some 37),.mov (.t 13)⟩,
  ⟨none,(some 38),.bin .add (.t 37) (.k (.int .i64 1))⟩,
  ⟨none,(some 13),.mov (.t 38)⟩])))
def zben (x2 x3 x4 x6 x10 x12 x13:DV) (h:List AObj):St:=⟨[.junk,.junk,x2,x3,x4,.junk,x6,.junk,.junk,.junk,x10,.junk,x12,x13]++js 68,h⟩
def a24:AFn:=⟨(ql (yc [yZ 5 0,yZ 6 1,⟨yg,yh 10,qR (rep 32 (w8 0#8))⟩,yR 11 (.bool false)]) (ql (ql (yc [yL 17 3,⟨yg,yh 18,qC .lss (.t 17) (.k (.int .i64 0))⟩,yL 19 18,⟨yh (19,false),yh 20,qA (.t 3)⟩,⟨yh (19,false),yh 21,qL 0 (.t 5)⟩,⟨yh (19,false),yh 22,qH 1 false (.t 21)⟩,⟨yh (19,false),yh 23,qV (.t 22)⟩,⟨yh (19,false),yh 24,qC .geq (.t 20) (.t 23)⟩,yY 25 19 24]) (yd 25 (ql (yc [⟨yg,yh 26,qT (rep 32 (w8 0#8)) []⟩,ya 32 10 26,yR 11 (.bool false)]) qq) qj)) (ql (yc [yN 27 0 5,yM 28 1 false 27,yL 29 3,yQ 30 6 28 29,yM 31 6 true 30,⟨yg,yh 12,qR [(.str []),(.str []),(.int .i64 0),(.int .i64 0),(.int .i64 0),.nils]⟩,ya 6 12 31]) (ql (ql (yc [yR 13 (.int .i64 0)]) (qn 0 (qo zqw7))) (ql (yc [⟨yg,yh 81,qT (rep 32 (w8 0#8)) []⟩,ya 32 10 81,yR 11 (.bool false)]) qq))))),82,[.cell 10 32 true,.tmp 11]⟩
theorem zcoa:zsjc P Tryz.f24=some a24:=by kernel_rfl
def a56:AFn:=⟨(ql (qk true [yL 5 0,yT 6 5,yN 7 0 6,yN 8 1 7,yM 9 1 false 8,yL 10 0,yT 11 10,yN 12 0 11,yM 13 3 true 12,yL 14 1,yV 15 30 [.t 13,.t 14],yQ 16 37 9 15,yM 17 37 true 16,⟨yg,yh 4,qR yz73⟩,ya 37 4 17]) (ql (qk true [yL 19 0,yL 20 0,yT 21 20,yN 22 0 21,yM 23 3 true 22,yL 24 1,yL 25 0,yT 26 25,yN 27 4 26,yM 28 1 false 27,yV 29 33 [.t 23,.t 24,.t 28],yL 18 29,yP 30 18 0,yP 31 18 1,yT 32 19,yN 33 0 32,ya 3 33 30]) (qk true [yL 34 0,yL 35 0,yT 36 35,yN 37 3 36,yM 38 1 false 37,yL 39 1,yN 40 2 4,yM 41 32 true 40,⟨yg,yh 42,qT yz71 [(0,1,(.k (.int .i64 2))),(1,1,(.t 39)),(2,32,(.t 41))]⟩,⟨yg,yh 43,qU 34 1 yz71 [(0,34,(.t 42))]⟩,⟨yg,yh 44,qX 34 48 (.t 38) (.t 43)⟩,yT 45 34,yN 46 3 45,ya 1 46 44]))),47,[]⟩
theorem zcwb:zsjc P Tryz.f56=some a56:=by kernel_rfl
def za9c:ACode :=
 (.seq (.seq (.region false [⟨none,(some 26),.mov (.t 9)⟩,
  ⟨none,(some 27),.fld 1 (.t 8)⟩,
  ⟨none,(some 28),.load 1 false (.t 27)⟩,
  ⟨none,(some 29),.len (.t 28)⟩,
  ⟨none,(some 30),.bin .lss (.t 26) (.t 29)⟩])
 (.cond (.t 30) .skip
 (.exit 0)))
 (.seq (.block 1 (.seq (.region false [⟨none,(some 33),.fld 1 (.t 8)⟩,
  ⟨none,(some 34),.load 1 false (.t 33)⟩,
  ⟨none,(some 35),.mov (.t 9)⟩,
  ⟨none,(some 36),.idxS 37 (.t 34) (.t 35)⟩,
  ⟨none,(some 37),.load 37 true (.t 36)⟩,
  ⟨none,(some 10),.alloc yz73⟩,
  ⟨none,none,.store 37 (.t 10) (.t 37)⟩])
 (.seq (.region false [⟨none,(some 38),.fld 1 (.t 10)⟩,
  ⟨none,(some 39),.load 1 false (.t 38)⟩,
  ⟨none,(some 40),.mov (.t 3)⟩,
  ⟨none,(some 41),.bin .eql (.t 39) (.t 40)⟩,
  ⟨none,(some 42),.mov (.t 41)⟩,
  ⟨(some (42,true)),(some 43),.fld 34 (.t 10)⟩,
  ⟨(some (42,true)),(some 44),.load 1 false (.t 43)⟩,
  ⟨(some (42,true)),(some 45),.bin .eql (.t 44) (.k (.int .i64 1))⟩,
  ⟨none,(some 46),.pick (.t 42) (.t 45) (.k (.bool false))⟩,
  ⟨none,(some 47),.mov (.t 46)⟩,
  ⟨(some (47,true)),(some 48),.fld 36 (.t 10)⟩,
  ⟨(some (47,true)),(some 49),.load 1 false (.t 48)⟩,
  ⟨(some (47,true)),(some 50),.bin .geq (.t 49) (.k (.int .i64 0))⟩,
  ⟨(some (47,true)),(some 51),.mov (.t 50)⟩,
  ⟨(some (51,false)),(some 52),.load 3 true (.t 8)⟩,
  ⟨(some (51,false)),(some 53),.load 37 true (.t 10)⟩,
  ⟨(some (51,false)),(some 54),.call (.k (.fn (.func 91) [] [])) [(.t 52),(.t 53)]⟩,
  ⟨(some (51,false)),(some 55),.un .not (.t 54)⟩,
  ⟨(some (47,true)),(some 56),.pick (.t 51) (.k (.bool true)) (.t 55)⟩,
  ⟨none,(some 57),.pick (.t 47) (.t 56) (.k (.bool false))⟩])
 (.cond (.t 57) (.region false [⟨none,(some 58),.mov (.t 0)⟩,
  ⟨none,(some 59),.fld 0 (.t 10)⟩,
  ⟨none,(some 60),.load 1 false (.t 59)⟩,
  ⟨none,(some 61),.call (.k (.fn (.func 56) [] [])) [(.t 58),(.t 60)]⟩])
 .skip))))
 (.region false [⟨none,(some 31),.mov (.t 9)⟩,
  ⟨none,(some 32),.bin .add (.t 31) (.k (.int .i64 1))⟩,
  ⟨none,(some 9),.mov (.t 32)⟩])))
def zv18 (x0 x2 x3 x5 x8 x9:DV) (h:List AObj):St:=⟨[x0,.junk,x2,x3,.junk,x5,.junk,.junk,x8,x9]++js 192,h⟩
def z93n:ACode :=
 (.seq (.seq (.region false [⟨none,(some 76),.mov (.t 12)⟩,
  ⟨none,(some 77),.bin .geq (.t 76) (.k (.int .i64 0))⟩])
 (.cond (.t 77) .skip
 (.exit 2)))
 (.seq (.block 3 (.seq (.region false [⟨none,(some 80),.fld 1 (.t 8)⟩,
  ⟨none,(some 81),.load 1 false (.t 80)⟩,
  ⟨none,(some 82),.mov (.t 12)⟩,
  ⟨none,(some 83),.idxS 37 (.t 81) (.t 82)⟩,
  ⟨none,(some 84),.load 37 true (.t 83)⟩,
  ⟨none,(some 13),.alloc yz73⟩,
  ⟨none,none,.store 37 (.t 13) (.t 84)⟩])
 (.seq (.region false [⟨none,(some 85),.mov (.t 0)⟩,
  ⟨none,(some 86),.nilc (.t 85)⟩,
  ⟨none,(some 87),.fld 0 (.t 86)⟩,
  ⟨none,(some 88),.load 3 true (.t 87)⟩,
  ⟨none,(some 89),.mov (.t 3)⟩,
  ⟨none,(some 90),.call (.k (.fn (.func 36) [] [])) [(.t 88),(.t 89)]⟩,
  ⟨none,(some 91),.len (.t 90)⟩,
  ⟨none,(some 92),.mov (.t 11)⟩,
  ⟨none,(some 93),.bin .gtr (.t 91) (.t 92)⟩,
  ⟨none,(some 94),.mov (.t 93)⟩,
  ⟨(some (94,true)),(some 95),.fld 1 (.t 13)⟩,
  ⟨(some (94,true)),(some 96),.load 1 false (.t 95)⟩,
  ⟨(some (94,true)),(some 97),.mov (.t 3)⟩,
  ⟨(some (94,true)),(some 98),.bin .eql (.t 96) (.t 97)⟩,
  ⟨none,(some 99),.pick (.t 94) (.t 98) (.k (.bool false))⟩,
  ⟨none,(some 100),.mov (.t 99)⟩,
  ⟨(some (100,true)),(some 101),.fld 34 (.t 13)⟩,
  ⟨(some (100,true)),(some 102),.load 1 false (.t 101)⟩,
  ⟨(some (100,true)),(some 103),.bin .eql (.t 102) (.k (.int .i64 1))⟩,
  ⟨none,(some 104),.pick (.t 100) (.t 103) (.k (.bool false))⟩,
  ⟨none,(some 105),.mov (.t 104)⟩,
  ⟨(some (105,true)),(some 106),.load 3 true (.t 8)⟩,
  ⟨(some (105,true)),(some 107),.load 37 true (.t 13)⟩,
  ⟨(some (105,true)),(some 108),.call (.k (.fn (.func 64) [] [])) [(.t 106),(.t 107)]⟩,
  ⟨none,(some 109),.pick (.t 105) (.t 108) (.k (.bool false))⟩])
 (.cond (.t 109) (.region false [⟨none,(some 110),.mov (.t 0)⟩,
  ⟨none,(some 111),.fld 0 (.t 13)⟩,
  ⟨none,(some 112),.load 1 false (.t 111)⟩,
  ⟨none,(some 113),.call (.k (.fn (.func 56) [] [])) [(.t 110),(.t 112)]⟩])
 .skip))))
 (.region false [⟨none,(some 78),.mov (.t 12)⟩,
  ⟨none,(some 79),.bin .sub (.t 78) (.k (.int .i64 1))⟩,
  ⟨none,(some 12),.mov (.t 79)⟩])))
def zavw (x0 x2 x3 x5 x8 x11 x12:DV) (h:List AObj):St:=⟨[x0,.junk,x2,x3,.junk,x5,.junk,.junk,x8,.junk,.junk,x11,x12]++js 189,h⟩
def zr68:ACode :=
 (.seq (.seq (.region false [⟨none,(some 126),.mov (.t 16)⟩,
  ⟨none,(some 127),.mov (.t 14)⟩,
  ⟨none,(some 128),.len (.t 127)⟩,
  ⟨none,(some 129),.bin .lss (.t 126) (.t 128)⟩,
  ⟨none,(some 130),.mov (.t 129)⟩,
  ⟨(some (130,true)),(some 131),.mov (.t 16)⟩,
  ⟨(some (130,true)),(some 132),.mov (.t 15)⟩,
  ⟨(some (130,true)),(some 133),.bin .lss (.t 131) (.t 132)⟩,
  ⟨none,(some 134),.pick (.t 130) (.t 133) (.k (.bool false))⟩])
 (.cond (.t 134) .skip
 (.exit 4)))
 (.seq (.block 5 (.region false [⟨none,(some 137),.mov (.t 0)⟩,
  ⟨none,(some 138),.mov (.t 14)⟩,
  ⟨none,(some 139),.mov (.t 16)⟩,
  ⟨none,(some 140),.idxS 1 (.t 138) (.t 139)⟩,
  ⟨none,(some 141),.load 1 false (.t 140)⟩,
  ⟨none,(some 142),.call (.k (.fn (.func 56) [] [])) [(.t 137),(.t 141)]⟩]))
 (.region false [⟨none,(some 135),.mov (.t 16)⟩,
  ⟨none,(some 136),.bin .add (.t 135) (.k (.int .i64 1))⟩,
  ⟨none,(some 16),.mov (.t 136)⟩])))
def z0nm (x0 x2 x3 x5 x11 x14 x15 x16:DV) (h:List AObj):St:=⟨[x0,.junk,x2,x3,.junk,x5]++js 5++[x11,.junk,.junk,x14,x15,x16]++js 185,h⟩
def z49e:ACode :=
 (.seq (.seq (.region false [⟨none,(some 143),.mov (.t 0)⟩,
  ⟨none,(some 144),.nilc (.t 143)⟩,
  ⟨none,(some 145),.fld 0 (.t 144)⟩,
  ⟨none,(some 146),.load 3 true (.t 145)⟩,
  ⟨none,(some 147),.mov (.t 3)⟩,
  ⟨none,(some 148),.call (.k (.fn (.func 36) [] [])) [(.t 146),(.t 147)]⟩,
  ⟨none,(some 149),.len (.t 148)⟩,
  ⟨none,(some 150),.mov (.t 11)⟩,
  ⟨none,(some 151),.bin .lss (.t 149) (.t 150)⟩])
 (.cond (.t 151) .skip
 (.exit 6)))
 (.block 7 (.seq (.region true [⟨none,(some 153),.mov (.t 0)⟩,
  ⟨none,(some 154),.nilc (.t 153)⟩,
  ⟨none,(some 155),.fld 0 (.t 154)⟩,
  ⟨none,(some 156),.load 3 true (.t 155)⟩,
  ⟨none,(some 157),.load 2 true (.t 5)⟩,
  ⟨none,(some 158),.mov (.t 2)⟩,
  ⟨none,(some 159),.mov (.t 3)⟩,
  ⟨none,(some 160),.mov (.t 0)⟩,
  ⟨none,(some 161),.nilc (.t 160)⟩,
  ⟨none,(some 162),.fld 4 (.t 161)⟩,
  ⟨none,(some 163),.load 1 false (.t 162)⟩,
  ⟨none,(some 164),.callN (.k (.fn (.func 24) [] [])) [(.t 156),(.t 157),(.t 158),(.t 159),(.t 163)]⟩,
  ⟨none,(some 152),.mov (.t 164)⟩,
  ⟨none,(some 165),.ext (.t 152) 0⟩,
  ⟨none,(some 166),.ext (.t 152) 1⟩,
  ⟨none,(some 17),.alloc (rep 32 (w8 0#8))⟩,
  ⟨none,none,.store 32 (.t 17) (.t 165)⟩,
  ⟨none,(some 18),.mov (.t 166)⟩])
 (.seq (.seq (.region false [⟨none,(some 167),.mov (.t 18)⟩,
  ⟨none,(some 168),.un .not (.t 167)⟩])
 (.cond (.t 168) .ret
 .skip))
 (.seq (.region true [⟨none,(some 170),.mov (.t 0)⟩,
  ⟨none,(some 171),.nilc (.t 170)⟩,
  ⟨none,(some 172),.fld 0 (.t 171)⟩,
  ⟨none,(some 173),.load 3 true (.t 172)⟩,
  ⟨none,(some 174),.mov (.t 3)⟩,
  ⟨none,(some 175),.load 32 true (.t 17)⟩,
  ⟨none,(some 176),.mov (.t 0)⟩,
  ⟨none,(some 177),.nilc (.t 176)⟩,
  ⟨none,(some 178),.fld 4 (.t 177)⟩,
  ⟨none,(some 179),.load 1 false (.t 178)⟩,
  ⟨none,(some 180),.callN (.k (.fn (.func 93) [] [])) [(.t 173),(.t 174),(.t 175),(.t 179)]⟩,
  ⟨none,(some 169),.mov (.t 180)⟩,
  ⟨none,(some 181),.ext (.t 169) 0⟩,
  ⟨none,(some 182),.ext (.t 169) 1⟩,
  ⟨none,(some 183),.ext (.t 169) 2⟩,
  ⟨none,(some 19),.alloc [.nils,.nils,(.int .i64 0)]⟩,
  ⟨none,none,.store 3 (.t 19) (.t 181)⟩,
  ⟨none,(some 20),.mov (.t 182)⟩,
  ⟨none,(some 21),.mov (.t 183)⟩])
 (.seq (.seq (.region false [⟨none,(some 184),.mov (.t 21)⟩,
  ⟨none,(some 185),.bin .neq (.t 184) (.k (.int .i64 0))⟩])
 (.cond (.t 185) .ret
 .skip))
 (.seq (.region false [⟨none,(some 186),.mov (.t 0)⟩,
  ⟨none,(some 187),.load 3 true (.t 19)⟩,
  ⟨none,(some 188),.nilc (.t 186)⟩,
  ⟨none,(some 189),.fld 0 (.t 188)⟩,
  ⟨none,none,.store 3 (.t 189) (.t 187)⟩])
 (.region true [⟨none,(some 190),.mov (.t 0)⟩,
  ⟨none,(some 191),.mov (.t 0)⟩,
  ⟨none,(some 192),.nilc (.t 191)⟩,
  ⟨none,(some 193),.fld 3 (.t 192)⟩,
  ⟨none,(some 194),.load 1 false (.t 193)⟩,
  ⟨none,(some 195),.mov (.t 20)⟩,
  ⟨none,(some 196),.load 32 true (.t 17)⟩,
  ⟨none,(some 197),.build yz71 [(0,1,(.k (.int .i64 1))),(1,1,(.t 195)),(2,32,(.t 196))]⟩,
  ⟨none,(some 198),.bsl 34 1 yz71 [(0,34,(.t 197))]⟩,
  ⟨none,(some 199),.app 34 48 (.t 194) (.t 198)⟩,
  ⟨none,(some 200),.nilc (.t 190)⟩,
  ⟨none,(some 201),.fld 3 (.t 200)⟩,
  ⟨none,none,.store 1 (.t 201) (.t 199)⟩]))))))))
def z01y (x0 x2 x3 x5 x11:DV) (h:List AObj):St:=⟨[x0,.junk,x2,x3,.junk,x5]++js 5++[x11]++js 190,h⟩
def a57:AFn:=⟨(ql (yc [yZ 5 1]) (ql (yc [yL 22 0,yT 23 22,yN 24 0 23,yM 25 3 true 24,⟨yg,yh 8,qR [.nils,.nils,(.int .i64 0)]⟩,ya 3 8 25]) (ql (ql (yc [yR 9 (.int .i64 0)]) (qn 0 (qo za9c))) (ql (yc [yN 62 0 8,yM 63 1 false 62,yL 64 3,yQ 65 6 63 64,yN 66 2 65,yM 67 1 false 66,yL 11 67]) (ql (yc [yL 68 0,yT 69 68,yN 70 0 69,yM 71 3 true 70,ya 3 8 71]) (ql (ql (yc [yN 72 1 8,yM 73 1 false 72,yS 74 73,⟨yg,yh 75,qC .sub (.t 74) (.k (.int .i64 1))⟩,yL 12 75]) (qn 2 (qo z93n))) (ql (qk true [yL 114 0,yT 115 114,yN 116 0 115,yM 117 3 true 116,yL 118 3,yL 120 0,yT 121 120,yN 122 0 121,yM 123 3 true 122,yL 124 3,yV 119 92 [.t 117,.t 118],yV 125 35 [.t 123,.t 124],yL 14 119,yL 15 125]) (ql (ql (yc [yR 16 (.int .i64 0)]) (qn 4 (qo zr68))) (qn 6 (qo z49e)))))))))),202,[]⟩
theorem zfce:zsjc P Tryz.f57=some a57:=by kernel_rfl
def zr3y:ACode :=
 (.seq (.seq (.region false [⟨none,(some 24),.mov (.t 14)⟩,
  ⟨none,(some 25),.mov (.t 13)⟩,
  ⟨none,(some 26),.len (.t 25)⟩,
  ⟨none,(some 27),.bin .lss (.t 24) (.t 26)⟩])
 (.cond (.t 27) .skip
 (.exit 0)))
 (.seq (.block 1 (.region false [⟨none,(some 30),.mov (.t 12)⟩,
  ⟨none,(some 31),.mov (.t 13)⟩,
  ⟨none,(some 32),.mov (.t 14)⟩,
  ⟨none,(some 33),.idxS 1 (.t 31) (.t 32)⟩,
  ⟨none,(some 34),.load 1 false (.t 33)⟩,
  ⟨none,(some 35),.call (.k (.fn (.func 56) [] [])) [(.t 30),(.t 34)]⟩]))
 (.region false [⟨none,(some 28),.mov (.t 14)⟩,
  ⟨none,(some 29),.bin .add (.t 28) (.k (.int .i64 1))⟩,
  ⟨none,(some 14),.mov (.t 29)⟩])))
def zhlx (x2 x5 x6 x10 x12 x13 x14:DV) (h:List AObj):St:=⟨[.junk,.junk,x2,.junk,.junk,x5,x6,.junk,.junk,.junk,x10,.junk,x12,x13,x14]++js 41,h⟩
def zmzd:ACode :=
 (.seq (.seq (.region false [⟨none,(some 36),.mov (.t 15)⟩,
  ⟨none,(some 37),.fld 0 (.t 5)⟩,
  ⟨none,(some 38),.load 1 false (.t 37)⟩,
  ⟨none,(some 39),.len (.t 38)⟩,
  ⟨none,(some 40),.bin .lss (.t 36) (.t 39)⟩])
 (.cond (.t 40) .skip
 (.exit 2)))
 (.seq (.block 3 (.region false [⟨none,(some 43),.mov (.t 12)⟩,
  ⟨none,(some 44),.load 2 true (.t 6)⟩,
  ⟨none,(some 45),.mov (.t 2)⟩,
  ⟨none,(some 46),.mov (.t 15)⟩,
  ⟨none,(some 47),.call (.k (.fn (.func 57) [] [])) [(.t 43),(.t 44),(.t 45),(.t 46)]⟩]))
 (.region false [⟨none,(some 41),.mov (.t 15)⟩,
  ⟨none,(some 42),.bin .add (.t 41) (.k (.int .i64 1))⟩,
  ⟨none,(some 15),.mov (.t 42)⟩])))
def zbwj (x2 x5 x6 x10 x12 x15:DV) (h:List AObj):St:=⟨[.junk,.junk,x2,.junk,.junk,x5,x6,.junk,.junk,.junk,x10,.junk,x12,.junk,.junk,x15]++js 40,h⟩
def a26:AFn:=⟨(ql (yc [yZ 5 0,yZ 6 1,⟨yg,yh 10,qR [.nils,.nils,(.int .i64 0)]⟩,yR 11 .nils]) (ql (yc [yM 16 3 true 5,yL 17 4,⟨yg,yh 18,qT [.nils,.nils,(.int .i64 0),.nils,(.int .i64 0)] [(0,3,(.t 16)),(4,1,(.t 17))]⟩,yZ 19 18,yL 12 19]) (ql (yc [yM 20 3 true 5,yL 21 3,yL 22 4,yU 23 32 [.t 20,.t 21,.t 22],yL 13 23]) (ql (ql (yc [yR 14 (.int .i64 0)]) (qn 0 (qo zr3y))) (ql (ql (yc [yR 15 (.int .i64 0)]) (qn 2 (qo zmzd))) (ql (qk true [yL 48 12,yT 49 48,yN 50 0 49,yM 51 3 true 50,yL 52 12,yT 53 52,yN 54 3 53,yM 55 1 false 54,ya 3 10 51,yL 11 55,⟨yg,yg,qZ (.t 52) (.t 10)⟩,⟨yg,yg,qZ (.t 53) (.t 10)⟩,⟨yg,yg,qZ (.t 54) (.t 10)⟩]) qq)))))),56,[.cell 10 3 true,.tmp 11]⟩
theorem z9gs:zsjc P Tryz.f26=some a26:=by kernel_rfl
def zkwz:ACode :=
 (.seq (.seq (.region false [⟨none,(some 11),.mov (.t 5)⟩,
  ⟨none,(some 12),.mov (.t 0)⟩,
  ⟨none,(some 13),.len (.t 12)⟩,
  ⟨none,(some 14),.bin .lss (.t 11) (.t 13)⟩])
 (.cond (.t 14) .skip
 (.exit 0)))
 (.seq (.block 1 (.seq (.region true [⟨none,(some 17),.mov (.t 0)⟩,
  ⟨none,(some 18),.mov (.t 5)⟩,
  ⟨none,(some 19),.idxS 34 (.t 17) (.t 18)⟩,
  ⟨none,(some 20),.load 34 true (.t 19)⟩,
  ⟨none,(some 21),.mov (.t 1)⟩,
  ⟨none,(some 22),.mov (.t 5)⟩,
  ⟨none,(some 23),.idxS 34 (.t 21) (.t 22)⟩,
  ⟨none,(some 24),.load 34 true (.t 23)⟩,
  ⟨none,(some 25),.eqa true [(34,0)] (.t 20) (.t 24)⟩])
 (.cond (.t 25) (.seq (.region false [⟨none,(some 4),.mov (.k (.bool false))⟩])
 .ret)
 .skip)))
 (.region false [⟨none,(some 15),.mov (.t 5)⟩,
  ⟨none,(some 16),.bin .add (.t 15) (.k (.int .i64 1))⟩,
  ⟨none,(some 5),.mov (.t 16)⟩])))
def zuuu (x0 x1 x5:DV) (h:List AObj):St:=⟨[x0,x1,.junk,.junk,.junk,x5]++js 20,h⟩
def a28:AFn:=⟨(ql (yc [yR 4 (.bool false)]) (ql (ql (yc [yL 6 0,yS 7 6,yL 8 1,yS 9 8,yO 10 .neq 7 9]) (yd 10 (ql (yc [yR 4 (.bool false)]) qq) qj)) (ql (ql (yc [yR 5 (.int .i64 0)]) (qn 0 (qo zkwz))) (ql (yc [yR 4 (.bool true)]) qq)))),26,[.tmp 4]⟩
theorem z43f:zsjc P Tryz.f28=some a28:=by kernel_rfl
end
section
structure Cmd where
 kind:Int
 id:Int
 art:Dg
 deriving DecidableEq
structure Rnd where
 c:Clu
 o:List Cmd
def stI (t:Int) (x:Ins):Ins:=(x.st 3).si t
def z83c (l:List Ins) (id:Int):Dg:=match l.find? (fun x=>decide (x.id=id)) with
 | some x=>x.art
 | none=>dg0
open Classical in
noncomputable def zyao (t:Int) (s:Rnd) (id:Int):Rnd :=
 if (z5wo s.c id t 3).2=0 then ⟨(z5wo s.c id t 3).1,s.o++[⟨2,id,z83c s.c.i.l id⟩]⟩ else s
noncomputable def zepc (t:Int) (s:Rnd) (id:Int):Rnd:=⟨(zjqu s.c id t 3).1,s.o++[⟨2,id,z83c s.c.i.l id⟩]⟩
structure Vw (gs:List (List UInt8 × List UInt8 × Int × Int × Int × List Dg)) (s:Rnd) (l:List Ins) (n:Int) (o:List Cmd):Prop where
 v:ValidC s.c
 g:s.c.g.l.map gl=gs
 i:s.c.i.l=l
 n:s.c.next=n
 o:s.o=o
def mkS (t:Int) (V:List Int) (l:List Ins):List Ins:=l.map fun x=>if x.id ∈ V then stI t x else x
def zzoh (l:List Ins) (V:List Int):List Cmd:=V.map fun id=>⟨2,id,z83c l id⟩
theorem z4j6 (t:Int) (x:Ins):(stI t x).id=x.id:=rfl
theorem zkj5 (t:Int) (x:Ins):(stI t x).art=x.art:=rfl
theorem zgls (t:Int) (x:Ins):(stI t x).state=3:=rfl
theorem zo9a {t:Int} {V:List Int} {l:List Ins}:(mkS t V l).length=l.length:=by simp [mkS]
theorem zw7f {t:Int} {l:List Ins}:mkS t [] l=l:=by simp [mkS]
theorem zg4k {l:List Ins}:l.Pairwise (fun x y=>x.id<y.id)↔(l.map Ins.id).Pairwise (· < ·):=by rw [List.pairwise_map]
theorem zq16 {t:Int} {V:List Int} {l:List Ins} {id:Int}:z83c (mkS t V l) id=z83c l id:=by
 unfold z83c mkS;induction l with
 | nil=>rfl
 | cons a l ih =>
  rw [List.map_cons,List.find?_cons,List.find?_cons];by_cases h:a.id=id
  ·by_cases hm:a.id ∈ V
   ·rw [if_pos hm];simp [z4j6,h,zkj5]
   ·rw [if_neg hm]; simp [h]
  ·have b:decide ((if a.id ∈ V then stI t a else a).id=id)=false:=by split<;>simp [z4j6,h]
   rw [b,decide_eq_false h];exact ih
theorem z74g {l:List Ins} (hd:l.Pairwise (fun x y=>x.id<y.id)) {i:Nat} (h:i<l.length) (t:Int):l.set i (stI t l[i])=mkS t [l[i].id] l:=by
 apply List.ext_getElem (by simp [mkS])
 intro j h1 h2;rw [List.getElem_set];simp only [mkS,y0i,List.mem_singleton];have a:j<l.length:=by simpa using h1
 by_cases e:i=j
 ·subst e; simp
 ·rw [if_neg e,if_neg];intro q;have:=List.pairwise_iff_getElem.1 hd;rcases Nat.lt_or_gt_of_ne e with c|c
  ·have:=this i j h a c; omega
  ·have:=this j i a h c; omega
theorem z6fc {t:Int} {a:Int} {V:List Int} {l:List Ins} (h:a ∉ V):mkS t V (mkS t [a] l)=mkS t (a::V) l:=by
 unfold mkS;rw [List.map_map];refine y0p fun x _ => ?_
 simp only [Function.comp,List.mem_singleton,List.mem_cons];by_cases e:x.id=a
 ·simp [e,z4j6,h]
 ·simp [e]
theorem z3z1 {c:Clu} (hv:ValidC c) {t:Int} (ht:zcie t) {i:Nat} (hi:i<c.i.l.length) (hs:c.i.l[i].state≠3) :
  z5wo c c.i.l[i].id t 3=(⟨c.clone.g,own (c.i.l.set i (stI t c.i.l[i])),c.next⟩,0)∧zjqu c c.i.l[i].id t 3=(⟨c.g.copy,own (c.i.l.set i (stI t c.i.l[i])),c.next⟩,0):=by
 have b:z092 c.i.l c.i.l[i].id=i:=zvud (zyak hv).d hi;have a:setI c.i.l i 3 t=c.i.l.set i (stI t c.i.l[i]):=by rw [z2jl hi]; rfl
 constructor
 ·unfold z5wo;rw [if_neg (fun q=>q.elim (fun q=>q hv) (fun q=>q ht)),b,if_neg (by omega),y0g,y04 hi,if_pos (by simp [may,hs]),a]
 ·unfold zjqu;rw [if_neg (fun q=>q.elim (fun q=>q hv) (fun q=>q ht)),b,if_neg (by omega),y0g,y04 hi,if_pos (by simp [may,hs]),a]
theorem zrl9 {n:Nat} {next t:Int} {x:Ins} (h:SoundI n next x) (ht:zcie t):SoundI n next (stI t x) :=
 ⟨h.id0,h.id1,h.g0,h.g1,h.art,by show (1:Int)≤3; decide,by show (3:Int)≤3; decide,ht,h.de⟩
theorem z4xv {c d:Clu} (hv:ValidC c) (hg:d.g.l.map gl=c.g.l.map gl) (hn:d.next=c.next) (hl:d.i.l.length=c.i.l.length) (h : ∀ i (h1:i<d.i.l.length) (h2:i<c.i.l.length),d.i.l[i].id=c.i.l[i].id∧SoundI c.g.l.length c.next d.i.l[i]):ValidC d:=by
 have f:d.g.l.length=c.g.l.length:=by have:=congrArg List.length hg; simpa using this
 have j : ∀ i (h1:i<d.g.l.length) (h2:i<c.g.l.length),gl d.g.l[i]=gl c.g.l[i]:=fun i h1 h2=>by
  have:=y0c hg (i:=i) (by simpa using h1)
  simpa using this
 have k : ∀ {a b:Grp},gl a=gl b→ValidG b→ValidG a:=fun {a b} e v=>by
  simp only [gl,Prod.mk.injEq] at e;obtain ⟨w,x,m,q,r,s⟩:=e;exact ⟨by rw [w]; exact v.ns,by rw [x]; exact v.im,by rw [m]; exact v.w0,by rw [m]; exact v.w1,by rw [q]; exact v.l0,by rw [q,m]; exact v.l1,by rw [r]; exact v.d0,by rw [r,m]; exact v.d1,by rw [s]; exact v.n,by rw [s]; exact v.ch⟩
 have p : ∀ ns im,z9w0 d.g.l ns im=z9w0 c.g.l ns im:=fun ns im=>zaam f (fun i h1 h2=>by
  have:=j i h1 h2;simp only [gl,Prod.mk.injEq] at this;exact ⟨this.1,this.2.1⟩) ns im
 refine ⟨by rw [f]; exact hv.ng,by rw [hl]; exact hv.ni,by rw [hn]; exact hv.n0,by rw [hn]; exact hv.n1,fun i hi => ?_,fun i hi => ?_⟩
 ·obtain ⟨y,z⟩:=hv.g i (by omega)
  have e:=j i hi (by omega)
  refine ⟨k e y,?_⟩;have o:=e;simp only [gl,Prod.mk.injEq] at o;rw [o.1,o.2.1,p]; exact z
 ·obtain ⟨t,u⟩:=h i hi (by omega)
  rw [f,hn];refine ⟨u,fun h0 => ?_⟩
  obtain ⟨b1,_⟩:=h (i-1) (by omega) (by omega)
  rw [t,b1];exact (hv.i i (by omega)).2 h0
section
variable {gs:List (List UInt8 × List UInt8 × Int × Int × Int × List Dg)} {s:Rnd} {l:List Ins} {n:Int} {o:List Cmd} {t:Int}
theorem z1s1 (h:Vw gs s l n o) (ht:zcie t) {x:Ins} (hx:x ∈ l) (hs:x.state≠3) :
  Vw gs (zyao t s x.id) (mkS t [x.id] l) n (o++zzoh l [x.id])∧Vw gs (zepc t s x.id) (mkS t [x.id] l) n (o++zzoh l [x.id]):=by
 obtain ⟨i,u,rfl⟩:=y0q hx;obtain ⟨k,r,C,v,w⟩:=h;subst C;have B:=(zyak k).d;obtain ⟨y,z⟩:=z3z1 k ht u hs;have A:(s.c.i.l.set i (stI t s.c.i.l[i])).length≤4294967296:=by rw [y06]; exact s.c.i.b
 have a:=z3e9 A;have f:=z74g B u t;have m : ∀ G:Sl Grp,G.l.map gl=s.c.g.l.map gl→ValidC ⟨G,own (s.c.i.l.set i (stI t s.c.i.l[i])),s.c.next⟩:=fun G hG=>by
  refine z4xv k hG rfl (by show (own _).l.length=_; rw [a,y06]) fun j h1 h2 => ?_
  have e:(own (s.c.i.l.set i (stI t s.c.i.l[i]))).l[j]=(s.c.i.l.set i (stI t s.c.i.l[i]))[j]'(by rw [y06]; exact h2):=y0c a h1
  show (own (s.c.i.l.set i (stI t s.c.i.l[i]))).l[j].id=_∧_;rw [e,List.getElem_set];split
  ·rename_i q; subst q
   exact ⟨rfl,zrl9 (k.i i h2).1 ht⟩
  ·exact ⟨rfl,(k.i j h2).1⟩
 have p:s.c.clone.g.l.map gl=s.c.g.l.map gl:=by
  show (s.c.g.l.map Grp.clone).map gl=_;exact z9hp _
 constructor
 ·unfold zyao;rw [y,if_pos rfl];exact ⟨m _ p,by rw [← r]; exact p,by show (own _).l=_; rw [a,f],v,by rw [w]; rfl⟩
 ·unfold zepc;rw [z];exact ⟨m _ rfl,r,by show (own _).l=_; rw [a,f],v,by rw [w]; rfl⟩
theorem zlsc {V W:List Int}:zzoh (mkS t W l) V=zzoh l V:=by
 unfold zzoh;refine y0p fun id _ => ?_
 rw [zq16]
theorem z40n (ht:zcie t) : ∀ {V:List Int} {s s':Rnd} {l:List Ins} {o:List Cmd},Vw gs s l n o→Vw gs s' l n o→V.Nodup→(∀ id ∈ V,∃ x ∈ l,x.id=id∧x.state≠3) →
  Vw gs (V.foldl (zyao t) s) (mkS t V l) n (o++zzoh l V)∧Vw gs (V.foldl (zepc t) s') (mkS t V l) n (o++zzoh l V)
 | [],s,s',l,o,h,h',_,_=>by
  have e:o++zzoh l []=o:=by simp [zzoh]
  rw [zw7f,e]; exact ⟨h,h'⟩
 | a::V,s,s',l,o,h,h',hn,hV=>by
  obtain ⟨x,f,rfl,d⟩:=hV a (by simp)
  rw [List.nodup_cons] at hn;have i:=(z1s1 h ht f d).1;have j:=(z1s1 h' ht f d).2;have g:=z40n ht i j hn.2 (fun id hid=>by
   obtain ⟨y,k,e,c⟩:=hV id (by simp [hid])
   have b:y.id≠x.id:=fun q=>hn.1 (by rw [← q,e]; exact hid)
   refine ⟨y,List.mem_map.2 ⟨y,k,by simp [b]⟩,e,c⟩)
  rw [z6fc hn.1,zlsc,y0h] at g;exact g
theorem zd62 (h:Vw gs s l n o) (ht:zcie t) {k:Nat} (hk:k<gs.length) {d:Dg} (hd:d≠dg0) (hl:l.length<200) (hn:n<1099511627776) :
  z4wu s.c k d t=((z4wu s.c k d t).1,n,0)∧z6qh s.c k d t=((z6qh s.c k d t).1,n,0) ∧
  (∀ o',Vw gs ⟨(z4wu s.c k d t).1,o'⟩ (l++[⟨n,k,d,1,t,-1⟩]) (n+1) o')∧(∀ o',Vw gs ⟨(z6qh s.c k d t).1,o'⟩ (l++[⟨n,k,d,1,t,-1⟩]) (n+1) o'):=by
 obtain ⟨m,w,z,A,L⟩:=h;subst z A;have K:gs.length=s.c.g.l.length:=by rw [← w]; simp
 have B:¬ (¬ ValidC s.c∨d=dg0∨¬ zcie t):=fun q=>q.elim (fun q=>q m) (fun q=>q.elim (fun q=>hd q) (fun q=>q ht))
 have C:¬ ((k:Int)<0∨(s.c.g.l.length:Int)≤k):=by omega
 have D:¬ (200≤s.c.i.l.length∨1099511627776≤s.c.next):=by omega
 have E:z4wu s.c k d t=(⟨s.c.clone.g,own (s.c.i.l++[newI s.c k d t]),s.c.next+1⟩,s.c.next,0):=by rw [z4wu,if_neg B,if_neg C,if_neg D]
 have F:z6qh s.c k d t=(⟨s.c.g.copy,own (s.c.i.l++[newI s.c k d t]),s.c.next+1⟩,s.c.next,0):=by rw [z6qh,if_neg B,if_neg C,if_neg D]
 have J:(s.c.i.l++[newI s.c k d t]).length≤4294967296:=by simp; omega
 have a:=z3e9 J;have H:s.c.clone.g.l.map gl=s.c.g.l.map gl:=by
  show (s.c.g.l.map Grp.clone).map gl=_;exact z9hp _
 have f:=z4xv (d:=⟨s.c.clone.g,s.c.i,s.c.next⟩) m H rfl rfl (fun i h1 h2=>⟨rfl,(m.i i h2).1⟩)
 have u : ∀ G:Sl Grp,ValidC ⟨G,s.c.i,s.c.next⟩→G.l.length=s.c.g.l.length→ValidC ⟨G,own (s.c.i.l++[newI s.c k d t]),s.c.next+1⟩:=fun G hG hGl=>by
  refine ⟨hG.ng,by show (own _).l.length≤_; rw [a]; simp; omega,by have:=m.n0; show (1:Int)≤s.c.next+1; omega,by show s.c.next+1≤_; omega,hG.g,fun i hi => ?_⟩
  have x:i<(s.c.i.l++[newI s.c k d t]).length:=by
   have:i<(own (s.c.i.l++[newI s.c k d t])).l.length:=hi
   rwa [a] at this
  have e : ∀ j (h1:j<(own (s.c.i.l++[newI s.c k d t])).l.length) (h2:j<(s.c.i.l++[newI s.c k d t]).length),(own (s.c.i.l++[newI s.c k d t])).l[j]=(s.c.i.l++[newI s.c k d t])[j]:=fun j h1 h2=>y0c a h1
  have p:(s.c.i.l++[newI s.c k d t]).length=s.c.i.l.length+1:=by simp
  show SoundI G.l.length (s.c.next+1) (own (s.c.i.l++[newI s.c k d t])).l[i] ∧ ∀ h0:0<i,(own (s.c.i.l++[newI s.c k d t])).l[i-1].id<(own (s.c.i.l++[newI s.c k d t])).l[i].id;have r:(own (s.c.i.l++[newI s.c k d t])).l.length=s.c.i.l.length+1:=by rw [a,p]
  rw [e i hi x];by_cases q:i<s.c.i.l.length
  ·rw [y07 q];obtain ⟨b,I⟩:=m.i i q;refine ⟨⟨b.id0,by have:=b.id1; omega,b.g0,by rw [hGl]; exact b.g1,b.art,b.s0,b.s1,b.si,b.de⟩,fun h0 => ?_⟩
   rw [e (i-1) (by rw [r]; omega) (by omega),y07 (by omega)]
   exact I h0
  ·have y:i=s.c.i.l.length:=by omega
   subst y;rw [List.getElem_append_right (y02 _)];simp only [y0s,y08];refine ⟨⟨m.n0,by show s.c.next<s.c.next+1; omega,by show (0:Int)≤k; omega,by show (k:Int)<G.l.length; omega,hd,by show (1:Int)≤1; decide,by show (1:Int)≤3; decide,ht,.inl rfl⟩,fun h0 => ?_⟩
   rw [e _ (by rw [r]; omega) (by omega),y07 (by omega)]
   exact (m.i _ (by omega)).1.id1
 have v:s.c.clone.g.l.length=s.c.g.l.length:=by show (s.c.g.l.map Grp.clone).length=_; simp
 refine ⟨by rw [E],by rw [F],fun o' => ?_,fun o' => ?_⟩
 ·rw [E];exact ⟨u _ f v,by show s.c.clone.g.l.map gl=gs; rw [H]; exact w,by show (own _).l=_; rw [a]; rfl,rfl,rfl⟩
 ·rw [F];exact ⟨u _ (z4xv (d:=⟨s.c.g.copy,s.c.i,s.c.next⟩) m rfl rfl rfl fun i h1 h2=>⟨rfl,(m.i i h2).1⟩) rfl,w,by show (own _).l=_; rw [a]; rfl,rfl,rfl⟩
end
end
section
set_option maxRecDepth 4000
def zscv (c:Clu) (oi:List AObj) (i:Nat):St:=zv4w (.mp 0 3 0) (.mp 1 3 0) (.int .i64 c.g.l.length) (.int .i64 i) (.cells [mutD 2 6 c.g grC,I3 c,.int .i64 c.next] :: .cells [.nils,.nils,.int .i64 0] :: .cells ((gsi c.g.l i).flatMap grC)::oi)
def zznu (c:Clu):St:=zv4w (.mp 0 3 0) (.mp 1 3 0) (.int .i64 c.g.clone.l.length) (.int .i64 0) (.cells [c.g.clone.dv 6 grC,mutD 2 37 c.i inC,.int .i64 c.next] :: .cells [.nils,.nils,.int .i64 0]::mutO c.i inC)
theorem z7a8 (c:Clu):RunsH T110 a52 [.agg (clC c)] [] (zpsa c) (zvu3 c):=by
 refine ⟨?_⟩;have x:=c.g.b;by_cases hg:c.g.l=[]
 ·have d:=zpj6 (id:=2) (s:=6) (f:=grC) hg;have e:=z4ry (f:=grC) hg;have j:=zpj6 (id:=2) (s:=6) (f:=grC) (zv4y hg);have k:=z4ry (f:=grC) (zv4y hg);have q:=zh8h hg;have r:c.g.clone.l.length=0:=by rw [show c.g.clone.l=c.g.l from rfl,hg]; rfl
  simp (disch:=first|omega|simp<;>omega|fail) [-zE,a52,zunk,z1hi,zm2v,zrvm,clC,d,e,zbcp];refine zlm5 (fun _:Nat=>zznu c) (fun _=>0) (fun _=>True) 0 (yWS (by simp [-zE,zznu])) trivial (fun _ _ => ?_)
  simp (disch:=first|omega|simp<;>omega|fail) [-zE,z5oa,zv4w,zznu,r,zpsa,zvu3,I3,e,j,k,q]
 ·have d:=z2ra (id:=2) (s:=6) (f:=grC) hg;have e:=z895 (f:=grC) hg;have j:=z2ra (id:=2) (s:=6) (f:=grC) (zkrv hg);have k:=z895 (f:=grC) (zkrv hg);have t:=z1rq zry4 c.g.l;simp (disch:=first|omega|simp<;>omega|fail) [-zE,a52,zunk,z1hi,zm2v,zrvm,clC,d,e,t,zbcp];refine zlm5 (zscv c (mutO c.i inC)) (fun i=>c.g.l.length-i) (fun i=>i≤c.g.l.length) 0 (yWS (by simp [-zE,z7fj,I3,d,e])) (by omega) (fun i hi => ?_)
  have n:=z1rq zry4 (gsi c.g.l i);have u:=zirn (l:=c.g.l) (i:=i);rw [u] at n;simp (disch:=first|omega|simp<;>omega|fail) [-zE,z5oa,zv4w,zscv,d];by_cases h:i<c.g.l.length
  ·have m:(i:Int)<c.g.l.length:=by omega
   have a:i<(gsi c.g.l i).length:=by omega
   have v:i*6+5<c.g.l.length*6:=by omega
   have o:=zfof a;rw [zlpw h a] at o;have p:=ztq3 a (y:=c.g.l[i].ch.clone);rw [zlpw h a,show c.g.l[i].withCh c.g.l[i].ch.clone=c.g.l[i].clone from rfl,zhwq h] at p
   simp (disch:=first|omega|simp<;>omega|fail) [-zE,m,h,n,o,zvdg,zgv2,zbcp,v,p];exact ⟨i+1,yWS (by simp [-zE,d]),by omega,by omega⟩
  ·have m:¬ (i:Int)<c.g.l.length:=by omega
   have w:=zxdi (l:=c.g.l) (i:=i) (by omega)
   simp (disch:=first|omega|simp<;>omega|fail) [-zE,h,m,w,zpsa,zvu3,I3,e,j,k,zbo5]
end
section
theorem z7g3 (s:Int):Runs tbl0 a110 [.int .i64 s] (.bool (decide (s≠3))):=by
 refine ⟨?_⟩;simp (disch:=first|omega|simp<;>omega|fail) [-zE,a110]
def cIbs (g:Int→Bool):List DV→Option DV
 | [.int .i64 s]=>some (.bool (g s))|_=>none
theorem zsye {g:Int→Bool} {s:Int}:cIbs g [.int .i64 s]=some (.bool (g s)):=rfl
theorem zrcw {f:Nat} {g:Int→Bool} (h : ∀ s,Am.Sem P f [.int .i64 s] (.bool (g s))):(Con.pure (cIbs g)).Sound P f:=by
 intro args v e;unfold cIbs at e;split at e
 ·simp at e; subst e; exact h _
 ·simp at e
noncomputable def z6i5:Tbl:=addT 110 (.pure (cIbs fun s=>decide (s≠3))) T112
theorem zuap:z6i5 110 = .pure (cIbs fun s=>decide (s≠3)):=by simp [z6i5]
theorem zpdn:z6i5 129 = .pure (cC1 zwdn):=by simp [z6i5,T112]
theorem zzhw:z6i5 131 = .new cNC:=by simp [z6i5,T112]
theorem zp4z:z6i5 130 = .pure cTm:=by simp [z6i5,T112]
theorem zvk3:z6i5 82 = .pure (cCi fun c i => .int .i64 (z092 c.i.l i)):=by simp [z6i5,T112]
theorem z6cp:z6i5.Sound P:=z0rp (zrcw fun s=>zljw mix zr5o Tryz.func110 z7w3 (z7g3 s)) zw51
noncomputable def znop (c:Clu) (id t to:Int):DV := .tup [.agg (clC (z5wo c id t to).1),.int .i64 (z5wo c id t to).2]
theorem zlnv {c:Clu} (hv:ValidC c) {k:Nat} (hk:k<c.i.l.length):c.g.l≠[]:=by
 intro e;have b:=(hv.i k hk).1.g0;have a:=(hv.i k hk).1.g1;rw [e] at a; simp at a; omega
theorem ztam (c:Clu) (id t:Int):Runs z6i5 a109 [.agg (clC c),.int .i64 id,.int .i64 t,.int .i64 3,.fn (.func 110) [] []] (znop c id t 3):=by
 refine ⟨?_⟩;by_cases hv:ValidC c
 case neg =>
  have j:z5wo c id t 3=(clu0,1):=by rw [z5wo,if_pos (.inl hv)]
  simp (disch:=first|omega|simp<;>omega|fail) [-zE,a109,zpdn,zf0o,zwdn,zp4z,zixp,zvk3,z3mn,znop,zewf hv,j,z3cj]
 by_cases ht:zcie t
 case neg =>
  have j:z5wo c id t 3=(clu0,1):=by rw [z5wo,if_pos (.inr ht)]
  simp (disch:=first|omega|simp<;>omega|fail) [-zE,a109,zpdn,zf0o,zwdn,zp4z,zixp,zvk3,z3mn,znop,zogs hv,zewf ht,j,z3cj]
 have p:¬ (¬ ValidC c∨¬ zcie t):=fun h=>h.elim (fun h=>h hv) (fun h=>h ht)
 by_cases hx:z092 c.i.l id<0
 ·have j:z5wo c id t 3=(clu0,4):=by rw [z5wo,if_neg p,if_pos hx]
  simp (disch:=first|omega|simp<;>omega|fail) [-zE,a109,zpdn,zf0o,zwdn,zp4z,zixp,zvk3,z3mn,znop,zogs hv,zogs ht,hx,j,z3cj]
 obtain ⟨k,m,a,_,_⟩:=ziel (show 0≤z092 c.i.l id by omega)
 have a:z092 c.i.l id=k:=a;have v:¬ (k:Int)<0:=by omega
 have u:(k:Int)<c.i.l.length:=by omega
 obtain ⟨x,q⟩ : ∃ x,c.i.l[k]=x:=⟨_,rfl⟩;have r : ∀ H,zpsc H 37 (c.i.dv 37 inC) k=some (.ref (inC x)):=fun H=>by rw [zalo z6gw m,q]
 have d:c.i.l[k]? = some x:=by rw [y04 m,q]
 by_cases hm:x.state≠3
 case neg =>
  have j:z5wo c id t 3=(clu0,30):=by rw [z5wo,if_neg p,if_neg hx,a]; simp [d,may]; simpa using hm
  have o:x.state=3:=by simpa using hm
  simp (disch:=first|omega|simp<;>omega|fail) [-zE,a109,zpdn,zf0o,zwdn,zp4z,zixp,zvk3,z3mn,znop,zogs hv,zogs ht,a,v,u,m,r,zuap,zsye,o,j,z3cj]
 have j:z5wo c id t 3=(⟨c.clone.g,own (c.i.l.set k ((x.st 3).si t)),c.next⟩,0):=by
  rw [z5wo,if_neg p,if_neg hx,a,if_pos (by simp [d,may]; simpa using hm)]
  simp only [y0g,setI,d]
 have o:¬ x.state=3:=by simpa using hm
 have K:=zqrs (l:=c.i.l.set k ((x.st 3).si t)) (s:=37) (f:=inC) (by rw [y06]; exact c.i.b)
 have I : ∀ l:List Grp,(l.flatMap grC).length=l.length*6:=z1rq zry4;have J : ∀ l:List Ins,(l.flatMap inC).length=l.length*37:=z1rq z6gw;have w:=zlnv hv m;have y:c.i.l≠[]:=by intro e; rw [e] at m; simp at m
 have z:=z895 (f:=grC) w;have A:=z2ra (id:=4) (s:=6) (f:=grC) (zkrv w);have B:=z895 (f:=grC) (zkrv w);have C:=zpgv w;have D:=zq57 (l:=c.g.l.map Grp.clone) (n:=c.g.l.length) (by simp)
 have F:=z2ra (id:=5) (s:=37) (f:=inC) y;have G:=z895 (f:=inC) y;have L : ∀ H id,zy6o H id 1 (k*37+34) (.int .i64 3) (some (c.i.l.flatMap inC))=some (.junk,H.set id (.cells ((c.i.l.set k (x.st 3)).flatMap inC))):=fun H id=>by rw [zajs m,q]
 have N : ∀ H id,zy6o H id 1 (k*37+35) (.int .i64 t) (some ((c.i.l.set k (x.st 3)).flatMap inC))=some (.junk,H.set id (.cells ((c.i.l.set k ((x.st 3).si t)).flatMap inC))):=fun H id=>by
  rw [zjzz (by rw [y06]; exact m),List.getElem_set_self,List.set_set]
 have E:=z5fn (l:=c.i.l.set k ((x.st 3).si t)) (n:=c.i.l.length) (by rw [y06]; exact y02 _)
 simp (disch:=first|omega|simp<;>omega|fail) [-zE,a109,zpdn,zf0o,zwdn,zp4z,zixp,zvk3,z3mn,znop,zogs hv,zogs ht,a,v,u,m,r,zuap,zsye,o,zzhw,z1a8,clW,z,A,B,C,D,E,F,G,I,J,zbo5,zbcp,L,N,j,zdhs,K]
noncomputable def z9ju (M:Nat) (to:Int):List DV→Option DV:=con (fun _=>True) (fun p:Clu × Int × Int=>[.agg (clC p.1),.int .i64 p.2.1,.int .i64 p.2.2,.int .i64 to,.fn (.func M) [] []]) (fun p=>znop p.1 p.2.1 p.2.2 to)
theorem z44l {M:Nat} {to:Int} {c:Clu} {id t:Int}:z9ju M to [.agg (clC c),.int .i64 id,.int .i64 t,.int .i64 to,.fn (.func M) [] []]=some (znop c id t to) :=
 zsn4 (f:=fun p:Clu × Int × Int=>[.agg (clC p.1),.int .i64 p.2.1,.int .i64 p.2.2,.int .i64 to,.fn (.func M) [] []]) (by
  rintro ⟨a,b,c⟩ ⟨a',b',c'⟩ e;simp only [List.cons.injEq,DV.agg.injEq,DV.int.injEq,and_true,true_and] at e;rw [zh7t e.1,e.2.1,e.2.2]) (c,id,t)
noncomputable def zev7:Tbl:=addT 109 (.pure (z9ju 110 3)) tbl0
theorem zngr:zev7 109 = .pure (z9ju 110 3):=by simp [zev7]
theorem zobd:zev7.Sound P:=z0rp (z2au fun p _=>zljw mix z6cp Tryz.func109 zoj0 (ztam p.1 p.2.1 p.2.2)) zr5o
theorem zj99 (c:Clu) (id t:Int):Runs zev7 a83 [.agg (clC c),.int .i64 id,.int .i64 t] (znop c id t 3):=by
 refine ⟨?_⟩;simp (disch:=first|omega|simp<;>omega|fail) [-zE,a83,zngr,z44l,znop]
end
section
set_option maxRecDepth 8000
theorem zxl1 {α:Type} {f:α→List DV} {s id:Nat} {x:Sl α} {H:List AObj} (hu : ∀ a,(f a).length=s) (hp : ∀ a,zbao (f a)=true) (ho:x.l≠[]→objV H id (x.l.length*s)=some (x.l.flatMap f)):snap H 3 (mutD id s x f)=some (x.clone.dv s f):=by
 by_cases h:x.l=[]
 ·rw [zpj6 h]; exact z6nl (zxxb hp _)
 ·have c:=z1rq hu x.l;have b:(x.l.flatMap f).take (x.l.length*s)=x.l.flatMap f:=y03 (by omega)
  rw [z2ra h,zve7,ho h,y09,y0b,b,z619 (zp6k hp _)];simp [Sl.clone,Sl.dv,slD,h]
theorem z2hc (c:Clu):Am.Sem P 52 [.agg (clC c)] (.agg (clC c.clone)) :=
 zzfj ((zv22 mix z5g0 Tryz.func52 zil0 (z7a8 c)).mono fun d h' e=>by
  obtain ⟨rfl,rfl⟩:=e;have hg:snap (zvu3 c) 3 (mutD 2 6 c.clone.g grC)=some (c.clone.g.clone.dv 6 grC):=zxl1 zry4 zxeb fun h=>by
   unfold zvu3;rw [z895 h];show (if (c.clone.g.l.flatMap grC).length=c.clone.g.l.length*6 then some (c.clone.g.l.flatMap grC) else none)=_
   rw [if_pos (z1rq zry4 _)]
  have hi:snap (zvu3 c) 3 (I3 c)=some (c.i.clone.dv 37 inC):=zxl1 z6gw z9kv fun h=>by
   unfold zvu3;rw [z895 h];by_cases q:c.clone.g.l=[]
   ·have q':c.g.l=[]:=by simpa [zbo5] using q
    rw [z4ry q,z4ry q'];show (if (c.i.l.flatMap inC).length=c.i.l.length*37 then some (c.i.l.flatMap inC) else none)=_
    rw [if_pos (z1rq z6gw _)]
   ·have q':c.g.l≠[]:=by simpa [zbo5] using q
    rw [z895 q,z895 q'];show (if (c.i.l.flatMap inC).length=c.i.l.length*37 then some (c.i.l.flatMap inC) else none)=_
    rw [if_pos (z1rq z6gw _)]
  have f:c.clone.g.clone.dv 6 grC=c.clone.g.dv 6 grC:=by
   have e:c.clone.g.k=c.g.clone.k:=rfl;obtain ⟨⟨k,l,h,b⟩,i,n⟩:=c;cases l with
   | nil=>cases k<;>simp [Clu.clone,Sl.clone,Sl.dv]
   | cons a l=>simp [Clu.clone,Sl.clone,Sl.dv]
  unfold zpsa;rw [zqb3,zrz6,hg,zrz6,hi,zrz6,zdef,zfu7,f]
  rfl)
noncomputable def cEvc:List DV→Option DV:=con (fun _=>True) (fun c:Clu=>[.agg (clC c)]) (fun c => .agg (clC c.clone))
theorem zewe {c:Clu}:cEvc [.agg (clC c)]=some (.agg (clC c.clone)):=zsn4 (f:=fun c:Clu=>[.agg (clC c)]) (g:=fun c => .agg (clC c.clone)) (fun a b e=>by
 simp only [List.cons.injEq,DV.agg.injEq,and_true] at e;exact zh7t e) c
theorem znvc:(Con.pure cEvc).Sound P 52:=z2au fun c _=>z2hc c
end
section
set_option maxRecDepth 8000
def fl {α:Type} (f:α→List DV) (l:List α):List DV:=l.flatMap f
theorem z8lx {α:Type} {f:α→List DV} {K:Nat} (hu : ∀ a,(f a).length=K) (l:List α):(fl f l).length=l.length*K:=z1rq hu l
section
variable {α:Type} {f:α→List DV} {K:Nat}
theorem zkaf {l m:List α}:fl f (l++m)=fl f l++fl f m:=by unfold fl; exact List.flatMap_append ..
theorem zvrp {h:List AObj} {id b m:Nat} {l:List α} {cs:List α} (hu : ∀ a,(f a).length=K) (h0:0<K) (hb:b≤16384) (ha : ∀ a,(f a).all DV.one=true) (hm:cs.length=m) (hbig:l.length+m≤4294967296) (ho:objV h id (l.length*K)=some (fl f l)) :
  appX h K b (.ms id (l.length*K) 0 K l.length (l.length*K)) m (cs.flatMap f)=some (.ms id ((l.length+m)*K) 0 K (l.length+m) ((l.length+m)*K),h.set id (.cells (fl f (l++cs)))):=by
 have c:(cs.flatMap f).length=m*K:=by rw [z1rq hu,hm]
 rw [zbho rfl hb h0 (by rw [c]) hbig (z9jy ha cs),ho,Option.map_some,c,← Nat.add_mul,zkaf]
 rfl
end
section
variable {α:Type} {f:α→List DV} {K:Nat}
def oV (k K:Nat) (l:List α):DV:=if l=[] then .nils else .ms k (l.length*K) 0 K l.length (l.length*K)
def oT (f:α→List DV) (l:List α):List AObj:=if l=[] then [] else [.cells (fl f l)]
theorem zl8p {k:Nat}:oV k K ([]:List α) = .nils:=rfl
theorem zkrk:oT f []=[]:=rfl
theorem zpni {k:Nat} {l:List α} (h:l≠[]):oV k K l = .ms k (l.length*K) 0 K l.length (l.length*K):=if_neg h
theorem zu2l {l:List α} (h:l≠[]):oT f l=[.cells (fl f l)]:=if_neg h
theorem z612 {k b:Nat} {l cs:List α} {h:List AObj} (hp:h.length=k) (hu : ∀ a,(f a).length=K) (h0:0<K) (hb:b≤16384) (ha : ∀ a,(f a).all DV.one=true) (hbig:l.length+cs.length≤4294967296) :
  appX (h++oT f l) K b (oV k K l) cs.length (cs.flatMap f)=some (oV k K (l++cs),h++oT f (l++cs)):=by
 by_cases e:l=[]
 ·subst e;rw [zl8p,zkrk,y0j,List.nil_append];by_cases e2:cs=[]
  ·subst e2;rw [show ([]:List α).flatMap f=[] from rfl,List.length_nil,zw6v hb h0,zl8p,zkrk,y0j]
  ·have:=zsuq (h:=h) (s:=K) (b:=b) (m:=cs.length) (cs:=cs.flatMap f) hb h0 (by rw [z1rq hu]) (List.length_pos_iff.2 e2) (by simp at hbig; omega)
   rw [this,zpni e2,zu2l e2,z1rq hu,hp]; rfl
 ·have c:objV (h++[AObj.cells (fl f l)]) k (l.length*K)=some (fl f l):=by
   unfold objV ziu0;rw [y0e (by omega),show k-h.length=0 by omega]
   simp [z8lx hu]
  have:=zvrp (h:=h++[AObj.cells (fl f l)]) (id:=k) (b:=b) (l:=l) (m:=cs.length) (cs:=cs) hu h0 hb ha rfl hbig c;rw [zpni e,zu2l e,this,zpni (by simp [e]),zu2l (by simp [e]),y0d,y0m _ _ (by omega),show k-h.length=0 by omega]
  rfl
theorem zte0 {k b:Nat} {l:List α} {x:α} {h:List AObj} (hp:h.length=k) (hu : ∀ a,(f a).length=K) (h0:0<K) (hb:b≤16384) (ha : ∀ a,(f a).all DV.one=true) (hbig:l.length+1≤4294967296) :
  appX (h++oT f l) K b (oV k K l) 1 (f x)=some (oV k K (l++[x]),h++oT f (l++[x])):=by
 have:=z612 (cs:=[x]) (b:=b) hp hu h0 hb ha hbig;simpa using this
theorem zd81 {n:Nat} {l:List α} (hf : ∀ a,zbao (f a)=true):zlf2 n (oT f l)=true:=by
 unfold oT;split
 ·rfl
 ·simp only [zlf2,fl,zmq5 _ _ (zp6k hf _),Bool.and_self]
theorem zv6o {k:Nat} {l:List α}:Am.below (k+(oT f l).length) (oV k K l)=true:=by
 unfold oV oT;split<;>simp [Am.below]
end
def kLt (n:Nat):Nat→Bool:=fun id=>decide (id<n)
mutual
theorem zam2 {h:List AObj} (n:Nat) : ∀ (d:DV),Am.below n d=true→fzS (kLt n) h 3 d=some d
 | .agg cs,q=>by simp only [Am.below] at q; rw [zf3h,zw41 n cs q]; rfl
 | .tup cs,q=>by simp only [Am.below] at q; rw [zliz,zw41 n cs q]; rfl
 | .sl _ _ _ cs,q=>by simp only [Am.below] at q; rw [zfs9,zw41 n cs q]; rfl
 | .ref cs,q=>by simp only [Am.below] at q; rw [zeo2,zw41 n cs q]; rfl
 | .fn _ a b,q=>by simp only [Am.below,y00] at q; rw [z284,zw41 n a q.1,zw41 n b q.2]; rfl
 | .iface t v,q=>by
  simp only [Am.below] at q
  have:=zam2 (h:=h) n v q
  simp only [fzS,zcxt] at this ⊢
  rw [this]; rfl
 | .ms id ..,q=>by simp only [Am.below,decide_eq_true_eq] at q; rw [zi9r,if_pos (by simpa [kLt] using q)]
 | .mp id ..,q=>by simp only [Am.below,decide_eq_true_eq] at q; rw [zept,if_pos (by simpa [kLt] using q)]
 | .int ..,_=>zzxw rfl
 | .bool ..,_=>zzxw rfl
 | .str ..,_=>zzxw rfl
 | .nilp,_=>zzxw rfl
 | .nilm,_=>zzxw rfl
 | .nilf,_=>zzxw rfl
 | .nili,_=>zzxw rfl
 | .nils,_=>zzxw rfl
 | .junk,_=>zzxw rfl
theorem zw41 {h:List AObj} (n:Nat) : ∀ (l:List DV),belowL n l=true→fzSo (kLt n) h 3 l=some l
 | [],_=>zmvq
 | d::r,q=>by simp only [belowL,y00] at q; rw [zhuj,zam2 n d q.1,zw41 n r q.2]; rfl
end
theorem zd3c {h:List AObj} {n:Nat} {d:DV} (q:Am.below n d=true):mk1 (kLt n) h d=d:=zwy6 (zam2 n d q)
theorem zfxa {h:List AObj} {n:Nat} : ∀ {l:List DV},belowL n l=true→mkL (kLt n) h l=l
 | [],_=>rfl
 | d::r,q=>by simp only [belowL,y00] at q; rw [z8t0,zd3c q.1,zfxa q.2]
theorem z6z7 {h:List AObj} {n:Nat} : ∀ {l:List AObj} {i:Nat},i+l.length≤n→zlf2 n l=true→mkO (kLt n) h i l=l
 | [],i,_,_=>rfl
 | .cells a::r,i,hi,q=>by
  simp only [zlf2,y00] at q;simp only [y01] at hi;rw [ztik,if_pos (by simp [kLt]; omega),zfxa q.1,z6z7 (by omega) q.2]
 | .dead::r,i,hi,q=>by
  simp only [zlf2] at q;simp only [y01] at hi;rw [zsk4,z6z7 (by omega) q]
theorem z26m {K:Nat→Bool} {h:List AObj} : ∀ {a b:List AObj} {i:Nat},mkO K h i (a++b)=mkO K h i a++mkO K h (i+a.length) b
 | [],b,i=>rfl
 | .cells c::r,b,i=>by rw [y05,ztik,ztik,z26m,y05,y01,Nat.add_assoc,Nat.add_comm 1]
 | .dead::r,b,i=>by rw [y05,zsk4,zsk4,z26m,y05,y01,Nat.add_assoc,Nat.add_comm 1]
theorem zz5t {H:List AObj} {cs:List DV} {off:Nat} (hp:zbao cs=true):mk1 (kLt H.length) (H++[.cells cs]) (.mp H.length cs.length off) = .ref (cs.drop off):=by
 refine zwy6 ?_;have b:objV (H++[AObj.cells cs]) H.length cs.length=some cs:=by
  unfold objV ziu0;rw [y0e (y02 _),y0s]; simp
 have a:zbao (cs.drop off)=true:=by
  have : ∀ (l:List DV) (k:Nat),zbao l=true→zbao (l.drop k)=true:=by
   intro l;induction l with
   | nil=>intro k _; simp [zbao]
   | cons d r ih =>
    intro k h;simp only [zbao,y00] at h;cases k with
    | zero=>simp [zbao,h]
    | succ k=>exact ih k h.2
  exact this _ _ hp
 rw [zept,if_neg (by simp [kLt]),b,y09,zl6f a]; rfl
theorem zs10 {P:Program} {n0:Nat} {x:ACode} {Φ:AExit→St→Prop} {t t':List DV} {H:List AObj} {cs:List DV} (hH:zlf2 H.length H=true) (hn:n0≤H.length)
  (ht:znqe (mkL (kLt H.length) (H++[.cells cs]) t) t') (hb:belowL H.length t'=true) (h:V P n0 x Φ ⟨t',H⟩):V P n0 x Φ ⟨t,H++[.cells cs]⟩:=by
 refine V_mk (kLt H.length) ?_;rw [z26m,z6z7 (by omega) hH,ztik,if_neg (by simp [kLt]),zfxb]
 exact zqfd (zju2 (tail:=[.dead]) ht rfl hn hb hH) h
theorem zrqk {P:Program} {f:FuncId} {fn:Func} (hf:P.funcs[f]? = some fn) {af:AFn} (hc:zsjc P fn=some af) {args:List DV} {h:List AObj} {v:DV} {k:List AObj} (hr:V P h.length af.code (retH af.res v k) ⟨zr5g af.ntmps args,h⟩):zwy1 P f args h (fun d k'=>d=v∧k'=k) :=
 zcpc hf hc (zftn (fun _ _ h=>h.out) hr)
open Classical in
noncomputable def ptH (a0:List DV) (h0:List AObj) (r:DV) (h1:List AObj):List DV→List AObj→Option (DV × List AObj):=fun a h=>if a=a0∧h=h0 then some (r,h1) else none
theorem zpvh {a0:List DV} {h0:List AObj} {r:DV} {h1:List AObj}:ptH a0 h0 r h1 a0 h0=some (r,h1):=if_pos ⟨rfl,rfl⟩
theorem zdmv {k:FuncId} {a0:List DV} {h0:List AObj} {r:DV} {h1:List AObj} (hc:zwy1 P k a0 h0 (fun d h=>d=r∧h=h1)):(Con.heap (ptH a0 h0 r h1)).Sound P k:=by
 intro args h v h' e;unfold ptH at e;split at e
 ·rename_i q
  simp only [Option.some.injEq,Prod.mk.injEq] at e;obtain ⟨rfl,rfl⟩:=e;rw [q.1,q.2]; exact hc
 ·cases e
theorem z0em {P:Program} {n0:Nat} {x:ACode} {Φ:AExit→St→Prop} {t t':List DV} {H R:List AObj} (hH:zlf2 H.length H=true) (hn:n0≤H.length)
  (ht:znqe (mkL (kLt H.length) (H++R) t) t') (hb:belowL H.length t'=true) (h:V P n0 x Φ ⟨t',H⟩):V P n0 x Φ ⟨t,H++R⟩:=by
 refine V_mk (kLt H.length) ?_;rw [z26m,z6z7 (by omega) hH]
 exact zqfd (zju2 ht rfl hn hb hH) h
theorem zy42 {k K:Nat} {α:Type} {l:List α}:(oV k K l).cells=[oV k K l]:=by unfold oV; split<;>rfl
theorem z6jg {k K:Nat} {α:Type} {l:List α}:(oV k K l).one=true:=by unfold oV; split<;>rfl
theorem zh5h {H R:List AObj} {cs cs':List DV} {id off:Nat} (ho:objV (H++R) id cs.length=some cs) (hid:H.length≤id) (hf:fzSo (kLt H.length) (H++R) 2 (cs.drop off)=some cs'):mk1 (kLt H.length) (H++R) (.mp id cs.length off) = .ref cs':=by
 refine zwy6 ?_;rw [zept,if_neg (by simp [kLt]; omega),ho,y09,hf]; rfl
end
section
def cmC (x:Cmd):List DV := .int .i64 x.kind :: .int .i64 x.id::dgC x.art
theorem zfq1 (x:Cmd):(cmC x).length=34:=by simp [cmC,z1t1]
theorem zoyx (x:Cmd):zbao (cmC x)=true:=by simp only [cmC,zbao,zyp8,y0f]; exact z3ot _
theorem z095 (x:Cmd):(cmC x).all DV.one=true:=by
 simp only [cmC,List.all_cons,y00];exact ⟨rfl,rfl,by simp [dgC,zzst]⟩
structure EF where
 pre:List AObj
 hp : ∀ n,pre.length≤n→zlf2 n pre=true
 x0:DV
 x1:DV
 T:DV
 px0:zyp8 x0=true
 px1:zyp8 x1=true
 pT:zyp8 T=true
 t:Int
def EF.b (F:EF):Nat:=F.pre.length
def EF.rd (F:EF) (c:Clu) (q:DV):List DV:=[c.g.dv 6 grC,c.i.dv 37 inC,.int .i64 c.next,F.x0,F.x1,F.T,.int .i64 F.t,q]
def EF.G (F:EF) (c:Clu) (q:DV) (o:List Cmd):List AObj:=F.pre++(.cells (F.rd c q)::oT cmC o)
def EF.H (F:EF) (s:Rnd):List AObj:=F.G s.c (oV (F.b+1) 34 s.o) s.o
section
variable {F:EF} {c c':Clu} {q q':DV} {o:List Cmd}
theorem EF.len_rd:(F.rd c q).length=8:=rfl
theorem EF.obj {X:List AObj}:objV (F.G c q o++X) F.b 8=some (F.rd c q):=by
 unfold EF.G EF.b;rw [y0h,zjj2]; rfl
theorem EF.obj0:objV (F.G c q o) F.b 8=some (F.rd c q):=by
 have:=EF.obj (F:=F) (c:=c) (q:=q) (o:=o) (X:=[])
 rwa [y0j] at this
theorem EF.set:(F.G c q o).set F.b (.cells (F.rd c' q'))=F.G c' q' o:=by
 unfold EF.G EF.b;rw [y0m _ _ (y02 _),y0s]; rfl
theorem EF.app {x:Cmd} (hb:o.length+1≤4294967296):appX (F.G c q o) 34 48 (oV (F.b+1) 34 o) 1 (cmC x)=some (oV (F.b+1) 34 (o++[x]),F.G c q (o++[x])):=by
 have:=zte0 (k:=F.b+1) (K:=34) (b:=48) (f:=cmC) (l:=o) (x:=x) (h:=F.pre++[.cells (F.rd c q)]) (by simp [EF.b]) zfq1 (by decide) (by decide) z095 hb
 simp only [y0h,List.singleton_append] at this;exact this
theorem EF.st7 {H:List AObj} {id:Nat} (hc:q'.cells=[q']) (ho:q'.one=true):zy6o H id 1 7 q' (some (F.rd c q))=some (.junk,H.set id (.cells (F.rd c q'))):=by
 rw [Am.storeO_1 hc ho (by rw [EF.len_rd]; decide)]; rfl
theorem EF.st0 {H:List AObj} {id:Nat}:zy6o H id 3 0 (.agg (clC c')) (some (F.rd c q))=some (.junk,H.set id (.cells (F.rd c' q))):=by
 have h:(DV.agg (clC c')).cells.length=3∧0+3≤(F.rd c q).length∧(DV.agg (clC c')).cells.all DV.one=true:=⟨rfl,by rw [EF.len_rd]; decide,by show (clC c').all DV.one=true; simp [clC,z4ja]⟩
 exact (if_pos h).trans rfl
theorem EF.one3:oneC 3 true (F.rd c q)=some (.agg (clC c)):=rfl
theorem EF.one1:oneC 1 false ((F.rd c q).drop 1)=some (c.i.dv 37 inC):=rfl
theorem EF.one0:oneC 1 false (F.rd c q)=some (c.g.dv 6 grC):=rfl
theorem EF.one7:oneC 1 false ((F.rd c q).drop 7)=some q:=rfl
theorem EF.one6:oneC 1 false ((F.rd c q).drop 6)=some (.int .i64 F.t):=rfl
theorem EF.oneX:oneC 2 true ((F.rd c q).drop 3)=some (.agg [F.x0,F.x1]):=rfl
theorem EF.len:F.b<(F.G c q o).length:=by unfold EF.G EF.b; simp
theorem EF.belowL {n:Nat} (hq:Am.below n q=true):Am.belowL n (F.rd c q)=true:=by
 simp only [EF.rd,Am.belowL,z8b8 _ _ (z1vd c.g),z8b8 _ _ (zcha c.i),z8b8 _ _ F.px0,z8b8 _ _ F.px1,z8b8 _ _ F.pT,hq]
 rfl
end
theorem zrlz {n:Nat} : ∀ {a b:List AObj},zlf2 n a=true→zlf2 n b=true→zlf2 n (a++b)=true
 | [],_,_,h=>h
 | .cells c::r,b,h1,h2=>by
  simp only [zlf2,y00,y05] at h1 ⊢;exact ⟨h1.1,zrlz h1.2 h2⟩
 | .dead::r,b,h1,h2=>by
  simp only [zlf2,y05] at h1 ⊢;exact zrlz h1 h2
theorem EF.below (F:EF) (s:Rnd) {n:Nat} (hn:(F.H s).length≤n):zlf2 n (F.H s)=true:=by
 unfold EF.H EF.G at hn ⊢;simp only [y0d,y01] at hn;refine zrlz (F.hp n (by omega)) ?_
 simp only [zlf2,y00];refine ⟨EF.belowL ?_,zd81 zoyx⟩;have:=zv6o (k:=F.b+1) (K:=34) (f:=cmC) (l:=s.o);by_cases h:s.o=[]
 ·rw [h,zl8p]; rfl
 ·rw [zpni h];simp only [Am.below,decide_eq_true_eq];rw [zu2l h] at hn;simp only [List.length_singleton] at hn;unfold EF.b; omega
noncomputable def zgjw:Tbl:=addT 82 (.pure (cCi fun c i => .int .i64 (z092 c.i.l i))) (addT 83 (.pure (cCii fun c i t=>znop c i t 3)) tbl0)
theorem z8d8:zgjw 82 = .pure (cCi fun c i => .int .i64 (z092 c.i.l i)):=by simp [zgjw]
theorem zpj4:zgjw 83 = .pure (cCii fun c i t=>znop c i t 3):=by simp [zgjw]
theorem z439:zgjw.Sound P:=z0rp (z2au fun x _=>zljw mix zw83 Tryz.func82 zftu (z7dp x.1 x.2)) (z0rp (z2au fun p _=>zljw mix zobd Tryz.func83 z6eh (zj99 p.1 p.2.1 p.2.2)) zr5o)
noncomputable def znlw (F:EF) (x:Sl Int) (s:Rnd) (i:Nat):St:=znp4 (.mp F.b 8 0) (x.dv 1 inI) (.int .i64 x.l.length) (.int .i64 i) (F.H ((x.l.take i).foldl (zyao F.t) s))
theorem zcsc (t:Int) : ∀ (V:List Int) (s:Rnd),(V.foldl (zyao t) s).o.length≤s.o.length+V.length
 | [],s=>by simp
 | a::V,s=>by
  have:=zcsc t V (zyao t s a);have h1:(zyao t s a).o.length≤s.o.length+1:=by unfold zyao; split<;>simp
  simp only [List.foldl_cons,y01]; omega
theorem zwy8 (t:Int) : ∀ (V:List Int) (s:Rnd),s.o≠[]→(V.foldl (zyao t) s).o≠[]
 | [],s,h=>h
 | a::V,s,h=>zwy8 t V _ (by unfold zyao; split<;>simp [h])
theorem EF.hlen (F:EF) (s:Rnd):(F.H s).length=F.b+1+(if s.o=[] then 0 else 1):=by
 unfold EF.H EF.G EF.b oT;split<;>simp [*]
theorem EF.hle (F:EF) {s s1:Rnd} (h:s.o≠[]→s1.o≠[]):(F.H s).length≤(F.H s1).length:=by
 rw [EF.hlen,EF.hlen];by_cases q:s.o=[]
 ·rw [if_pos q]; omega
 ·rw [if_neg q,if_neg (h q)]; omega
theorem zz9a {α:Type} {p:α→Bool} : ∀ {l:List α} {i:Nat} (hi:i<l.length),ixI p l=i→l.find? p=some l[i]:=by
 intro l i hi h;obtain ⟨j,c,e,a,b⟩:=ziel (p:=p) (l:=l) (by omega)
 obtain rfl:i=j:=by omega
 rw [List.find?_eq_some_iff_getElem];exact ⟨a,i,hi,rfl,fun m hm=>by rw [b m (by omega) hm]; rfl⟩
theorem z3dx {z:List DV} {a b:Int} {d:Dg} (hz:z.length=34):zvnk z [(0,1,.int .i64 a),(1,1,.int .i64 b),(2,32,.agg (dgC d))]=some (.agg (cmC ⟨a,b,d⟩)):=by
 rw [zwos (by simp [DV.known]) (by simp [seqD,hz,DV.cells])]; simp [seqD,DV.cells,cmC]
theorem zz6m {z:List DV} {x:Cmd} (hz:z.length=34):bslD 34 1 z [(0,34,.agg (cmC x))]=some (.sl true 34 1 (cmC x)):=by
 rw [z7bw (by simp [DV.known]) (by simp [seqD,DV.cells,hz,zfq1])]; simp [seqD,DV.cells,zfq1]
theorem zkzr {c:Clu} {id t:Int} (h:(z5wo c id t 3).2=0) : ∃ (i:Nat) (_:i<c.i.l.length),z092 c.i.l id=i:=by
 unfold z5wo at h;split at h
 ·simp at h
 ·split at h
  ·simp at h
  ·split at h
   ·rename_i h1 h2 h3
    refine ⟨(z092 c.i.l id).toNat,?_,by omega⟩
    rcases Nat.lt_or_ge (z092 c.i.l id).toNat c.i.l.length with q|q
    ·exact q
    ·rw [y0n q] at h3; simp at h3
   ·simp at h
theorem zm7y {c:Clu} {id:Int} {i:Nat} (hi:i<c.i.l.length) (h:z092 c.i.l id=i):z83c c.i.l id=c.i.l[i].art:=by
 unfold z83c; rw [zz9a hi h]
theorem z39y (F:EF) (x:Sl Int) (s:Rnd) (hb:s.o.length+x.l.length≤100000):zwy1 P 53 [.mp F.b 8 0,x.dv 1 inI] (F.H s) (fun d h=>d = .tup []∧h=F.H (x.l.foldl (zyao F.t) s)):=by
 refine zrqk Tryz.func53 zq51 ?_;have a0 : ∀ H,lenD H (x.dv 1 inI)=some (.int .i64 x.l.length):=fun H=>zupj
 have b4:=x.b;refine yVS7 ?_;simp (disch:=first|omega|simp<;>omega|fail) [-zE,a53,a0];refine z3mo (ztbr (znlw F x s) (fun i=>x.l.length-i) (fun i=>i≤x.l.length) 0 (yWS (by simp [-zE,znlw,znp4])) (y0t _) (fun i hi => ?_))
 simp only [znlw];have N:=zcsc F.t (x.l.take i) s;rw [List.length_take] at N;obtain ⟨j,v⟩ : ∃ j,(x.l.take i).foldl (zyao F.t) s=j:=⟨_,rfl⟩;rw [v] at N ⊢;have hO : ∀ X,objV (F.H j++X) F.b 8=some (F.rd j.c (oV (F.b+1) 34 j.o)):=fun X=>EF.obj
 have B:objV (F.H j) F.b 8=some (F.rd j.c (oV (F.b+1) 34 j.o)):=EF.obj0;refine yVS7 ?_;by_cases g:i<x.l.length
 case neg =>
  have Q:¬ (i:Int)<x.l.length:=by omega
  have hs:j=x.l.foldl (zyao F.t) s:=by rw [← v,y03 (by omega)]
  rw [← hs];simp (disch:=first|omega|simp<;>omega|fail) [-zE,zt7b,znp4,g,Q];refine yVS7 ?_;simp (disch:=first|omega|simp<;>omega|fail) [-zE]
 have Q:(i:Int)<x.l.length:=by omega
 have hx : ∀ H,zpsc H 1 (x.dv 1 inI) i=some (.ref (inI x.l[i])):=fun H=>zalo zg97 g
 have hn:(x.l.take (i+1)).foldl (zyao F.t) s=zyao F.t j x.l[i]:=by rw [y0a g,List.foldl_append,v]; rfl
 obtain ⟨m,Y⟩ : ∃ m,x.l[i]=m:=⟨_,rfl⟩;rw [Y] at hx hn;have Z:(F.H s).length≤(F.H j).length:=F.hle fun h=>by rw [← v]; exact zwy8 _ _ _ h
 have V:=F.below j (y02 _);have L:F.b<(F.H j).length:=EF.len;have E:=z3mn (g:=fun c i=>DV.int .i64 (z092 c.i.l i)) (x:=j.c) (a:=m)
 have r:=zl2e (f:=fun c i t=>znop c i t 3) (c:=j.c) (g:=m) (t:=F.t)
 have r:cCii (fun c i t=>znop c i t 3) [.agg (clC j.c),.int .i64 m,.int .i64 F.t]=some (.tup [.agg (clC (z5wo j.c m F.t 3).1),.int .i64 (z5wo j.c m F.t 3).2]):=r
 have n:zyao F.t j m=if (z5wo j.c m F.t 3).2=0 then ⟨(z5wo j.c m F.t 3).1,j.o++[⟨2,m,z83c j.c.i.l m⟩]⟩ else j:=rfl
 obtain ⟨p,W⟩ : ∃ p,(z5wo j.c m F.t 3).1=p:=⟨_,rfl⟩;obtain ⟨e,he⟩ : ∃ e,(z5wo j.c m F.t 3).2=e:=⟨_,rfl⟩;rw [W,he] at r n;obtain ⟨O,A⟩ : ∃ O,z092 j.c.i.l m=O:=⟨_,rfl⟩;rw [A] at E;have ec:=zz5t (H:=F.H j) (cs:=clC p) (off:=0) (zy11 p);have e1 : ∀ h,mk1 (kLt (F.H j).length) h (.mp F.b 8 0) = .mp F.b 8 0:=fun h=>zd3c (by simp only [Am.below,decide_eq_true_eq]; exact L)
 have e2 : ∀ h,mk1 (kLt (F.H j).length) h (x.dv 1 inI)=x.dv 1 inI:=fun h=>zvft (zxxb zyj0 x)
 have y:=fun x=>EF.app (F:=F) (c:=j.c) (q:=oV (F.b+1) 34 j.o) (o:=j.o) (x:=x) (by omega)
 have b3 : ∀ (h:List AObj) (m:Nat),zy6o h m 3 0 (.agg (clC p)) (some [.nils,.nils,.int .i64 0])=some (.junk,h.set m (.cells (clC p))):=fun h m=>zfc1 rfl rfl (by simp [clC,z4ja])
 simp (disch:=first|omega|simp<;>omega|fail) [-zE,zt7b,znp4,g,Q];refine yVS7 ?_;simp (disch:=first|omega|simp<;>omega|fail) [-zE];refine zbn1 (z3mo (yVS7 ?_));simp (disch:=first|omega|simp<;>omega|fail) [-zE,hx,inI];refine zbn1 (V_W mix z439 ?_);simp (disch:=first|omega|simp<;>omega|fail) [-zE,B,EF.one3,z8d8,E];refine zbn1 (V_W mix z439 ?_);simp (disch:=first|omega|simp<;>omega|fail) [-zE,B,EF.one3,EF.one6,zpj4,r,b3];refine zs10 (n0:=(F.H s).length) (H:=F.H j) (cs:=clC p) (t':=[.mp F.b 8 0]++js 4++[.int .i64 m,.int .i64 O,.ref (clC p),.int .i64 e,x.dv 1 inI,.int .i64 x.l.length,.int .i64 i]++js 49) V Z ?_ (by simp (disch:=first|omega|simp<;>omega|fail) [-zE,belowL,Am.below,L,zmq5 _ _ (zy11 p),z8b8 _ _ (zxxb zyj0 x)]) ?_
 ·rw [zlha,y0b] at ec;simp (disch:=first|omega|simp<;>omega|fail) [-zE,ec,e1,e2,-z1bt,-zdpe]
 refine yVS7 ?_;by_cases h0:e=0
 case neg =>
  rw [if_neg h0] at n;simp (disch:=first|omega|simp<;>omega|fail) [-zE,h0];refine yVW7 ?_;simp (disch:=first|omega|simp<;>omega|fail) [-zE];exact ⟨i+1,yWS (by simp [-zE,znlw,znp4,hn,n]),by omega,by omega⟩
 subst h0;rw [if_pos rfl] at n;obtain ⟨k,hk,I⟩:=zkzr he;rw [A] at I;subst I;have w:=zm7y hk A;have J : ∀ H,zpsc H 37 (j.c.i.dv 37 inC) k=some (.ref (inC j.c.i.l[k])):=fun H=>zalo z6gw hk
 obtain ⟨u,hu⟩ : ∃ u,j.c.i.l[k]=u:=⟨_,rfl⟩;rw [hu] at w J;rw [w] at n;obtain ⟨C,hC⟩ : ∃ C:Cmd,(⟨2,m,u.art⟩:Cmd)=C:=⟨_,rfl⟩;have D:=fun z (hz:z.length=34)=>z3dx (z:=z) (a:=2) (b:=m) (d:=u.art) hz
 have a3:DV.int .i64 2 :: .int .i64 m::dgC u.art=cmC C:=by rw [← hC]; rfl
 rw [hC] at n D;have y:=y C;have a1:=zy42 (k:=F.b+1) (K:=34) (l:=j.o++[C]);have a2:=z6jg (k:=F.b+1) (K:=34) (l:=j.o++[C]);have R:F.H j=F.G j.c (oV (F.b+1) 34 j.o) j.o:=rfl;have S:objV (F.G j.c (oV (F.b+1) 34 j.o) (j.o++[C])) F.b 8=some (F.rd j.c (oV (F.b+1) 34 j.o)):=EF.obj0;have T:objV (F.G j.c (oV (F.b+1) 34 j.o) j.o) F.b 8=some (F.rd j.c (oV (F.b+1) 34 j.o)):=EF.obj0;have U:objV (F.G j.c (oV (F.b+1) 34 (j.o++[C])) (j.o++[C])) F.b 8=some (F.rd j.c (oV (F.b+1) 34 (j.o++[C]))):=EF.obj0;rw [R];simp (disch:=first|omega|simp<;>omega|fail) [-zE];refine yVS7 ?_;simp (disch:=first|omega|simp<;>omega|fail) [-zE,T,EF.one7,EF.one1,J,zm6n,D,a3,zz6m,y,S,EF.st7 a1 a2,EF.set];refine yVW7 ?_;simp (disch:=first|omega|simp<;>omega|fail) [-zE,U,zei9,EF.st0,EF.set];refine yVW7 ?_;simp (disch:=first|omega|simp<;>omega|fail) [-zE];exact ⟨i+1,yWS (by simp [-zE,znlw,znp4,hn,n,EF.H]),by omega,by omega⟩
end
section
def zcjm (l:List Int) (v:Int) (i:Nat):St:=zzkc (liV l) (.int .i64 v) (.int .i64 l.length) (.int .i64 i) []
theorem z9w2 (l:List Int) (v:Int) (hb:l.length≤4294967296):Runs tbl0 a132 [liV l,.int .i64 v] (.int .i64 (ixI (fun e=>decide (v=e)) l)):=by
 refine ⟨?_⟩;simp (disch:=first|omega|simp<;>omega|fail) [-zE,a132];refine zlm5 (zcjm l v) (fun i=>l.length-i) (fun i=>i≤l.length ∧ ∀ j (hj:j<l.length),j<i→decide (v=l[j])=false) 0 (yWS (by simp [-zE,zcjm,zzkc])) ⟨by omega,fun j _ hj=>by omega⟩ (fun i hi => ?_)
 obtain ⟨k,d⟩:=hi;simp only [zcjm];by_cases h:i<l.length
 ·have a:(i:Int)<l.length:=by omega
  have f:=fun H=>zcq2 H h
  have c:v=l[i]→ixI (fun e=>decide (v=e)) l=i:=fun e=>zy9u h (by simp [← e]) d
  have b:¬ v=l[i] → ∀ j (hj:j<l.length),j<i+1→decide (v=l[j])=false:=fun e j hj hji=>by
   by_cases ej:j=i
   ·subst ej; exact decide_eq_false e
   ·exact d j hj (by omega)
  obtain ⟨u,g⟩ : ∃ u,l[i]=u:=⟨_,rfl⟩;rw [g] at f c b;by_cases e:v=u
  ·rw [c e];simp (disch:=first|omega|simp<;>omega|fail) [-zE,z1gp,zzkc,h,a,f,e]
  ·have b:=b e;simp (disch:=first|omega|simp<;>omega|fail) [-zE,z1gp,zzkc,h,a,f,e];exact ⟨i+1,yWS (by simp [-zE,zcjm,zzkc]),by omega,by omega,by simpa using b⟩
 ·have a:¬ (i:Int)<l.length:=by omega
  have c:ixI (fun e=>decide (v=e)) l = -1:=zfki (fun j hj=>d j hj (by omega))
  rw [c];simp (disch:=first|omega|simp<;>omega|fail) [-zE,z1gp,zzkc,h,a]
noncomputable def cIxi:List DV→Option DV:=con (fun a:List Int × Int=>a.1.length≤4294967296) (fun a=>[liV a.1,.int .i64 a.2]) (fun a => .int .i64 (ixI (fun e=>decide (a.2=e)) a.1))
theorem z8bt {a b:List Int × Int} (e:[liV a.1,DV.int .i64 a.2]=[liV b.1,.int .i64 b.2]):a=b:=by
 obtain ⟨c,d⟩:=a;obtain ⟨b1,b2⟩:=b;simp only [List.cons.injEq,DV.int.injEq,and_true,true_and] at e;rw [zqdh e.1,e.2]
theorem zbm1 {l:List Int} {v:Int} (h:l.length≤4294967296):cIxi [liV l,.int .i64 v]=some (.int .i64 (ixI (fun e=>decide (v=e)) l)) :=
 zzno (A:=fun a:List Int × Int=>a.1.length≤4294967296) (f:=fun a=>[liV a.1,.int .i64 a.2]) (g:=fun a => .int .i64 (ixI (fun e=>decide (a.2=e)) a.1)) (fun a b e=>by rw [z8bt e]) (l,v) h
noncomputable def zk7r:Tbl:=addT 132 (.pure cIxi) tbl0
theorem z95w:zk7r 132 = .pure cIxi:=by simp [zk7r]
theorem zej2:zk7r.Sound P:=z0rp (z2au fun a h=>zljw mix zr5o Tryz.func132 zr93 (z9w2 a.1 a.2 h)) zr5o
theorem zwhy {l:List Int} {v:Int}:0≤ixI (fun e=>decide (v=e)) l↔v ∈ l:=by
 constructor
 ·intro h;obtain ⟨i,a,_,e,_⟩:=ziel h;simp at e;rw [e]; exact List.getElem_mem a
 ·intro h;obtain ⟨i,a,e⟩:=y0q h;have:=zkgb (fun e=>decide (v=e)) l
  by_cases hn:ixI (fun e=>decide (v=e)) l<0
  ·have:=z378 hn i a;simp [e] at this
  ·omega
theorem z3zn (l:List Int) (v:Int) (hb:l.length≤4294967296):Runs zk7r a111 [liV l,.int .i64 v] (.bool (decide (v ∈ l))):=by
 refine ⟨?_⟩;have b:=zwhy (l:=l) (v:=v);have a:=zbm1 (v:=v) hb;obtain ⟨k,d⟩ : ∃ k,ixI (fun e=>decide (v=e)) l=k:=⟨_,rfl⟩
 rw [d] at b a;have c:decide (v ∈ l)=decide (0≤k):=decide_eq_decide.2 b.symm;rw [c];simp (disch:=first|omega|simp<;>omega|fail) [-zE,a111,z95w,a]
noncomputable def cCni:List DV→Option DV:=con (fun a:List Int × Int=>a.1.length≤4294967296) (fun a=>[liV a.1,.int .i64 a.2]) (fun a => .bool (decide (a.2 ∈ a.1)))
theorem zyyx {l:List Int} {v:Int} (h:l.length≤4294967296):cCni [liV l,.int .i64 v]=some (.bool (decide (v ∈ l))) :=
 zzno (A:=fun a:List Int × Int=>a.1.length≤4294967296) (f:=fun a=>[liV a.1,.int .i64 a.2]) (g:=fun a => .bool (decide (a.2 ∈ a.1))) (fun a b e=>by rw [z8bt e]) (l,v) h
theorem z798:(Con.pure cCni).Sound P 111:=z2au fun a h=>zljw mix zej2 Tryz.func111 zmlq (z3zn a.1 a.2 h)
def stgB (k:Int) (G:List Int) (b:Bool) (x:Ins):Bool:=decide (x.grp=k)&&(decide (x.state=1)&&(decide (x.id ∈ G) == b))
def stgL (k:Int) (G:List Int) (b:Bool) (l:List Ins):List Int:=(l.filter (stgB k G b)).map Ins.id
theorem zt4h {k:Int} {G:List Int} {b:Bool} {l:List Ins}:(stgL k G b l).length≤l.length:=by
 unfold stgL; rw [y0k]; exact y0o _ _
theorem zhxg {k:Int} {G:List Int} {b:Bool} {l:List Ins} {x:Ins}:stgL k G b (l++[x])=stgL k G b l++(if stgB k G b x then [x.id] else []):=by
 unfold stgL;rw [List.filter_append,List.map_append];cases h:stgB k G b x<;>simp [h]
noncomputable def zw9z:Tbl:=addT 87 (.pure (cCk z3tq)) (addT 111 (.pure cCni) tbl0)
theorem zn8d:zw9z 87 = .pure (cCk z3tq):=by simp [zw9z]
theorem zbre:zw9z 111 = .pure cCni:=by simp [zw9z]
theorem zmri:zw9z.Sound P:=z0rp zjal (z0rp z798 zr5o)
def zvel (F:EF) (s:Rnd) (k:Int) (b:Bool) (G:List Int) (i:Nat):St:=zvu2 (.int .i64 k) (.bool b) (liV G) (oV (F.H s).length 1 (stgL k G b (s.c.i.l.take i))) (s.c.i.dv 37 inC) (.int .i64 s.c.i.l.length) (.int .i64 i) (F.H s++oT inI (stgL k G b (s.c.i.l.take i)))
theorem zxjm {H:List AObj} {L:List Int}:mk1 (kLt H.length) (H++oT inI L) (oV H.length 1 L)=liV L:=by
 by_cases e:L=[]
 ·subst e; exact zhx5
 ·rw [zpni e,zu2l e,zefw e];refine zwy6 ?_;rw [zi9r,if_neg (by simp [kLt])]
  have a:objV (H++[.cells (fl inI L)]) H.length (L.length*1)=some (fl inI L):=by
   rw [zjj2,z1zn,if_pos (z8lx zg97 L)]
  rw [a,y09,y0b];have b:(fl inI L).take (L.length*1)=L.flatMap inI:=y03 (by rw [z8lx zg97]; omega)
  rw [b,zl6f (zp6k zyj0 L)]; rfl
theorem zitv (F:EF) (s:Rnd) (k:Int) (b:Bool) (hl:s.c.i.l.length≤100000) {n0:Nat} {Φ:AExit→St→Prop} (hn0:n0=(F.H s).length)
  (fin:V P n0 (.seq (.region false [⟨none,(some 50),.mov (.t 8)⟩,⟨none,(some 6),.mov (.t 50)⟩]) .ret) Φ ⟨js 8++[oV (F.H s).length 1 (stgL k (znqs s.c k) b s.c.i.l)]++js 42,F.H s++oT inI (stgL k (znqs s.c k) b s.c.i.l)⟩) :
  V P n0 a85.code Φ ⟨zr5g a85.ntmps [.mp F.b 8 0,.int .i64 k,.bool b],F.H s⟩:=by
 subst hn0;have A:objV (F.H s) F.b 8=some (F.rd s.c (oV (F.b+1) 34 s.o)):=EF.obj0;have R:=ztaz (f:=z3tq) (c:=s.c) (k:=k);have S:z3tq s.c k=liV (znqs s.c k):=rfl;rw [S] at R;have U : ∀ H,lenD H (s.c.i.dv 37 inC)=some (.int .i64 s.c.i.l.length):=fun H=>zupj
 have a0:=F.below s (y02 _);have a1:F.b<(F.H s).length:=EF.len;have B:(znqs s.c k).length≤4294967296:=by
  unfold znqs idsP;split
  ·rw [y0k];have:=y0o (fun x:Ins=>decide (x.grp=k)&&z9qu (by assumption) x) s.c.i.l
   unfold selL; omega
  ·simp
 obtain ⟨G,hG⟩ : ∃ G,znqs s.c k=G:=⟨_,rfl⟩;rw [hG] at R fin B;have W : ∀ L:List Int,zlf2 (F.H s++oT inI L).length (F.H s++oT inI L)=true:=fun L=>zrlz (F.below s (by simp)) (zd81 zyj0)
 refine yVS7 ?_;simp (disch:=first|omega|simp<;>omega|fail) [-zE,a85];refine zbn1 (V_W mix zmri ?_);simp (disch:=first|omega|simp<;>omega|fail) [-zE,A,EF.one3,zn8d,R];refine yVS7 ?_;simp (disch:=first|omega|simp<;>omega|fail) [-zE];refine zbn1 (yVS7 ?_);simp (disch:=first|omega|simp<;>omega|fail) [-zE,A,EF.one1,U];have h0:stgL k G b []=[]:=rfl;have T : ∀ n,Am.below n (liV G)=true:=fun n=>z8b8 _ _ (z4yh G)
 have X : ∀ n,Am.below n (s.c.i.dv 37 inC)=true:=fun n=>z8b8 _ _ (zcha s.c.i)
 refine z3mo (ztbr (zvel F s k b G) (fun i=>s.c.i.l.length-i) (fun i=>i≤s.c.i.l.length) 0 (z515 (by simp (disch:=first|omega|simp<;>omega|fail) [-zE,zvel,zvu2,h0,zl8p]) (by simp (disch:=first|omega|simp<;>omega|fail) [-zE,zvel,zvu2,h0,zkrk])) (y0t _) (fun i hi => ?_))
 simp only [zvel];by_cases g:i<s.c.i.l.length
 case neg =>
  have Q:¬ (i:Int)<s.c.i.l.length:=by omega
  rw [y03 (by omega)]
  refine yVS7 ?_;simp (disch:=first|omega|simp<;>omega|fail) [-zE,z7q2,zvu2,g,Q];refine yVS7 ?_;simp (disch:=first|omega|simp<;>omega|fail) [-zE];exact zqfd (z515 (by simp (disch:=first|omega|simp<;>omega|fail) [-zE]) rfl) fin
 have Q:(i:Int)<s.c.i.l.length:=by omega
 have hx : ∀ H,zpsc H 37 (s.c.i.dv 37 inC) i=some (.ref (inC s.c.i.l[i])):=fun H=>zalo z6gw g
 have I:stgL k G b (s.c.i.l.take (i+1))=stgL k G b (s.c.i.l.take i)++(if stgB k G b s.c.i.l[i] then [s.c.i.l[i].id] else []):=by
  rw [y0a g,zhxg]
 have w:=zt4h (k:=k) (G:=G) (b:=b) (l:=s.c.i.l.take i);rw [List.length_take] at w;obtain ⟨u,hu⟩ : ∃ u,s.c.i.l[i]=u:=⟨_,rfl⟩;rw [hu] at hx I;obtain ⟨L,hL⟩ : ∃ L,stgL k G b (s.c.i.l.take i)=L:=⟨_,rfl⟩;rw [hL] at I w ⊢;have m:=zyyx (v:=u.id) B;have j:appX (F.H s++oT inI L) 1 8 (oV (F.H s).length 1 L) 1 [.int .i64 u.id]=some (oV (F.H s).length 1 (L++[u.id]),F.H s++oT inI (L++[u.id])) :=
  zte0 (k:=(F.H s).length) (K:=1) (b:=8) (f:=inI) (l:=L) (x:=u.id) (h:=F.H s) rfl zg97 (by decide) (by decide) (fun _=>rfl) (by omega)
 have d:Am.below (F.H s++oT inI L).length (oV (F.H s).length 1 L)=true:=by
  have:=zv6o (k:=(F.H s).length) (K:=1) (f:=inI) (l:=L)
  rwa [← y0d] at this
 have O:=zz5t (H:=F.H s++oT inI L) (cs:=inC u) (off:=0) (z9kv u);have Y : ∀ h,mk1 (kLt (F.H s++oT inI L).length) h (liV G)=liV G:=fun h=>zvft (z4yh G)
 have J : ∀ h,mk1 (kLt (F.H s++oT inI L).length) h (oV (F.H s).length 1 L)=oV (F.H s).length 1 L:=fun h=>zd3c d
 have Z : ∀ h,mk1 (kLt (F.H s++oT inI L).length) h (s.c.i.dv 37 inC)=s.c.i.dv 37 inC:=fun h=>zvft (zcha s.c.i)
 have C : ∀ (h:List AObj) (id:Nat) (z:List DV),z.length=37→zy6o h id 37 0 (.agg (inC u)) (some z)=some (.junk,h.set id (.cells (inC u))):=fun h id z hz=>zfc1 (z6gw u) hz (z8go u)
 have p:(F.H s).length≤(F.H s++oT inI L).length:=by simp
 have r:=W L;obtain ⟨N,y⟩ : ∃ N,(F.H s).length=N:=⟨_,rfl⟩;rw [y] at j d J p ⊢;obtain ⟨H,E⟩ : ∃ H,F.H s++oT inI L=H:=⟨_,rfl⟩;rw [E] at j d O Y J Z p r ⊢;refine yVS7 ?_;simp (disch:=first|omega|simp<;>omega|fail) [-zE,z7q2,zvu2,g,Q];refine yVS7 ?_;simp (disch:=first|omega|simp<;>omega|fail) [-zE];refine zbn1 (z3mo (yVS7 ?_));simp (disch:=first|omega|simp<;>omega|fail) [-zE,hx,zisq,C];refine zs10 (n0:=N) (H:=H) (cs:=inC u) (t':=[.junk,.int .i64 k,.bool b]++js 4++[liV G,oV N 1 L,.junk,.ref (inC u)]++js 10++[s.c.i.dv 37 inC,.int .i64 s.c.i.l.length,.int .i64 i]++js 27) r p ?_ (by simp (disch:=first|omega|simp<;>omega|fail) [-zE,belowL,Am.below,T,d,X,zmq5 _ _ (z9kv u)]) ?_
 ·rw [z6gw,y0b] at O;simp (disch:=first|omega|simp<;>omega|fail) [-zE,O,Y,J,Z,-z1bt,-zdpe]
 have q:stgB k G b u=(decide (u.grp=k)&&(decide (u.state=1)&&(decide (u.id ∈ G) == b))):=rfl;obtain ⟨M,hM⟩ : ∃ M,decide (u.id ∈ G)=M:=⟨_,rfl⟩;rw [hM] at m q;have a:stgB k G b u=false→L=stgL k G b (s.c.i.l.take (i+1)):=fun e=>by rw [I,e]; simp
 have D:stgB k G b u=true→L++[u.id]=stgL k G b (s.c.i.l.take (i+1)):=fun e=>by rw [I,e]; simp
 refine zbn1 (V_W mix zmri ?_);by_cases h1:u.grp=k
 case neg =>
  have e:=a (by rw [q,decide_eq_false h1]; rfl)
  simp (disch:=first|omega|simp<;>omega|fail) [-zE,zyv0,h1];refine yVW7 ?_;simp (disch:=first|omega|simp<;>omega|fail) [-zE];refine yVW7 ?_;simp (disch:=first|omega|simp<;>omega|fail) [-zE];refine ⟨i+1,z515 (by simp (disch:=first|omega|simp<;>omega|fail) [-zE,zvel,zvu2,← e,y]) (by simp (disch:=first|omega|simp<;>omega|fail) [-zE,zvel,zvu2,← e,E]),by omega,by omega⟩
 by_cases h2:u.state=1
 case neg =>
  have e:=a (by rw [q,decide_eq_false h2]; simp)
  simp (disch:=first|omega|simp<;>omega|fail) [-zE,zyv0,h1,zvh3,h2];refine yVW7 ?_;simp (disch:=first|omega|simp<;>omega|fail) [-zE];refine yVW7 ?_;simp (disch:=first|omega|simp<;>omega|fail) [-zE];refine ⟨i+1,z515 (by simp (disch:=first|omega|simp<;>omega|fail) [-zE,zvel,zvu2,← e,y]) (by simp (disch:=first|omega|simp<;>omega|fail) [-zE,zvel,zvu2,← e,E]),by omega,by omega⟩
 rw [decide_eq_true h1,decide_eq_true h2,y0f,y0f] at q;cases hMb:(M == b) with
 | false =>
  have e:=a (by rw [q,hMb])
  simp (disch:=first|omega|simp<;>omega|fail) [-zE,zyv0,h1,zvh3,h2,zgz3,zbre,m,hMb];refine yVW7 ?_;simp (disch:=first|omega|simp<;>omega|fail) [-zE];refine yVW7 ?_;simp (disch:=first|omega|simp<;>omega|fail) [-zE];refine ⟨i+1,z515 (by simp (disch:=first|omega|simp<;>omega|fail) [-zE,zvel,zvu2,← e,y]) (by simp (disch:=first|omega|simp<;>omega|fail) [-zE,zvel,zvu2,← e,E]),by omega,by omega⟩
 | true =>
  have e:=D (by rw [q,hMb])
  simp (disch:=first|omega|simp<;>omega|fail) [-zE,zyv0,h1,zvh3,h2,zgz3,zbre,m,hMb];refine yVW7 ?_;simp (disch:=first|omega|simp<;>omega|fail) [-zE,zgz3,j];refine yVW7 ?_;simp (disch:=first|omega|simp<;>omega|fail) [-zE];refine ⟨i+1,yWS (by simp [-zE,zvel,zvu2,← e,y]),by omega,by omega⟩
theorem zaos (F:EF) (s:Rnd) (k:Int) (b:Bool) (hl:s.c.i.l.length≤100000):zwy1 P 85 [.mp F.b 8 0,.int .i64 k,.bool b] (F.H s) (fun d h=>d=liV (stgL k (znqs s.c k) b s.c.i.l)∧h=F.H s):=by
 refine zrqk Tryz.func85 zu0j (zitv F s k b hl rfl ?_);have a:=F.below s (y02 _);obtain ⟨L,g⟩ : ∃ L,stgL k (znqs s.c k) b s.c.i.l=L:=⟨_,rfl⟩;rw [g];have f:=zxjm (H:=F.H s) (L:=L);have e : ∀ n,Am.below n (liV L)=true:=fun n=>z8b8 _ _ (z4yh L)
 refine z0em (H:=F.H s) (R:=oT inI L) (t':=js 8++[liV L]++js 42) a (y02 _) ?_ (by simp (disch:=first|omega|simp<;>omega|fail) [-zE,belowL,Am.below,e]) ?_
 ·simp (disch:=first|omega|simp<;>omega|fail) [-zE,f,-z1bt,-zdpe]
 refine yVS7 ?_;simp (disch:=first|omega|simp<;>omega|fail) [-zE];refine yVW7 ?_;simp (disch:=first|omega|simp<;>omega|fail) [-zE,a85]
theorem z7b5 (F:EF) (s:Rnd) (k:Int) (b:Bool) (hl:s.c.i.l.length≤100000):zwy1 P 85 [.mp F.b 8 0,.int .i64 k,.bool b] (F.H s) (fun d h=>d=oV (F.H s).length 1 (stgL k (znqs s.c k) b s.c.i.l)∧h=F.H s++oT inI (stgL k (znqs s.c k) b s.c.i.l)):=by
 refine zrqk Tryz.func85 zu0j (zitv F s k b hl rfl ?_);obtain ⟨L,a⟩ : ∃ L,stgL k (znqs s.c k) b s.c.i.l=L:=⟨_,rfl⟩;rw [a];refine yVS7 ?_;simp (disch:=first|omega|simp<;>omega|fail) [-zE];refine yVW7 ?_;simp (disch:=first|omega|simp<;>omega|fail) [-zE,a85]
end
section
set_option maxRecDepth 8000
abbrev Str:=List UInt8
structure Tot {α:Type} (lt:α→α→Bool):Prop where
 irr : ∀ a,lt a a=false
 tr : ∀ a b c,lt a b=true→lt b c=true→lt a c=true
 tot : ∀ a b,lt a b=true∨a=b∨lt b a=true
theorem zrk4 : ∀ a:Str,Op.bytesLess a a=false
 | []=>rfl
 | a::l=>by simp [Op.bytesLess,zrk4 l]
theorem z8c3 : ∀ a b c:Str,Op.bytesLess a b=true→Op.bytesLess b c=true→Op.bytesLess a c=true
 | _,_,[],_,h=>by simp [Op.bytesLess] at h
 | [],_,_::_,_,_=>rfl
 | _::_,[],_::_,h,_=>by simp [Op.bytesLess] at h
 | a::x,b::y,c::z,h1,h2=>by
  simp only [Op.bytesLess,y0l,y00,decide_eq_true_eq,beq_iff_eq] at *;rcases h1 with h1|⟨h1,h1'⟩
  ·rcases h2 with h2|⟨h2,h2'⟩
   ·exact .inl (UInt8.lt_trans h1 h2)
   ·exact .inl (h2▸h1)
  ·rcases h2 with h2|⟨h2,h2'⟩
   ·exact .inl (h1▸h2)
   ·exact .inr ⟨h1.trans h2,z8c3 _ _ _ h1' h2'⟩
theorem zoet : ∀ a b:Str,Op.bytesLess a b=true∨a=b∨Op.bytesLess b a=true
 | [],[] => .inr (.inl rfl)
 | [],_::_ => .inl rfl
 | _::_,[] => .inr (.inr rfl)
 | a::x,b::y=>by
  simp only [Op.bytesLess,y0l,y00,decide_eq_true_eq,beq_iff_eq];rcases UInt8.lt_or_lt_of_ne (a:=a) (b:=b) |> fun h=>(Classical.em (a=b)).imp_right h with e|e|e
  ·rcases zoet x y with q|q|q
   ·exact .inl (.inr ⟨e,q⟩)
   ·exact .inr (.inl (by rw [e,q]))
   ·exact .inr (.inr (.inr ⟨e.symm,q⟩))
  ·exact .inl (.inl e)
  ·exact .inr (.inr (.inl e))
theorem z3gj:Tot Op.bytesLess:=⟨zrk4,z8c3,zoet⟩
theorem zqwe {α β:Type} {lt:β→β→Bool} {f:α→β} (hf : ∀ a b,f a=f b→a=b) (o:Tot lt):Tot (fun a b=>lt (f a) (f b)) :=
 ⟨fun a=>o.irr _,fun a b c=>o.tr _ _ _,fun a b=>(o.tot (f a) (f b)).imp_right (Or.imp_left (hf a b))⟩
def zynh {α β:Type} [DecidableEq α] (l1:α→α→Bool) (l2:β→β→Bool) (a b:α × β):Bool:=if a.1=b.1 then l2 a.2 b.2 else l1 a.1 b.1
theorem zcht {α β:Type} [DecidableEq α] {l1:α→α→Bool} {l2:β→β→Bool} (o1:Tot l1) (o2:Tot l2):Tot (zynh l1 l2):=by
 refine ⟨fun a=>by simp [zynh,o2.irr],fun a b c h1 h2 => ?_,fun a b => ?_⟩
 ·unfold zynh at *;by_cases e1:a.1=b.1
  ·by_cases e2:b.1=c.1
   ·rw [if_pos e1] at h1; rw [if_pos e2] at h2; rw [if_pos (e1.trans e2)]; exact o2.tr _ _ _ h1 h2
   ·rw [if_neg e2] at h2; rw [e1,if_neg e2]; exact h2
  ·rw [if_neg e1] at h1;by_cases e2:b.1=c.1
   ·rw [← e2,if_neg e1]; exact h1
   ·rw [if_neg e2] at h2;have d:=o1.tr _ _ _ h1 h2;rw [if_neg fun e=>by rw [e,o1.irr] at d; cases d]
    exact d
 ·unfold zynh;by_cases e:a.1=b.1
  ·rw [if_pos e,if_pos e.symm];rcases o2.tot a.2 b.2 with q|q|q
   ·exact .inl q
   ·exact .inr (.inl (Prod.ext e q))
   ·exact .inr (.inr q)
  ·rw [if_neg e,if_neg (fun q=>e q.symm)]
   rcases o1.tot a.1 b.1 with q|q|q
   ·exact .inl q
   ·exact absurd q e
   ·exact .inr (.inr q)
def dgU (d:Dg):List UInt8:=d.1.map fun b=>b.toNat.toUInt8
theorem zvz3 {a b:B8} (h:a.toNat.toUInt8=b.toNat.toUInt8):a=b:=by
 have d:=a.isLt;have e:=b.isLt;have c:=congrArg UInt8.toNat h;simp only [Nat.toUInt8_eq,UInt8.toNat_ofNat',Nat.mod_eq_of_lt d,Nat.mod_eq_of_lt e] at c;exact BitVec.eq_of_toNat_eq c
theorem znyd (a b:Dg) (h:dgU a=dgU b):a=b:=Subtype.ext (List.map_inj_right (fun _ _=>zvz3) |>.1 h)
def dgLt (a b:Dg):Bool:=Op.bytesLess (dgU a) (dgU b)
theorem zc3a:Tot dgLt:=zqwe (lt:=Op.bytesLess) (f:=dgU) znyd z3gj
def u8L (l:List B8):List UInt8:=l.map fun b=>b.toNat.toUInt8
theorem zi7v {E:Env} {X:Forb} {w:World} {v:Value} {b:B8} (h:Rep E X w v (w8 b)):v = .int .u8 b.toNat:=by
 cases h; rfl
theorem zq08 {P:Program} {w:World} {a:Addr} {x:List B8} {cv:Nat→Value} (hc : ∀ i,i<(x.map w8).length→w.cell? (a.add i)=some (cv i)) {E:Env} {X:Forb} (hr : ∀ i (h:i<(x.map w8).length),Rep E X w (cv i) (x.map w8)[i]) :
  (Extern.Bytes.loadBytes a x.length .empty).run P w = .ok ⟨(u8L x).toArray⟩ w:=by
 have h:=Lib.run_loadBytesX (P:=P) (w:=w) (x.map fun b=>(b.toNat:Int)) a .empty (fun j y hy=>by
  obtain ⟨g,e⟩:=List.getElem?_eq_some_iff.1 hy;have c:j<x.length:=by simpa using g
  have f:=hc j (by simpa using c)
  have d:=hr j (by simpa using c)
  rw [y0i] at d;rw [f,zi7v d];rw [y0i] at e;rw [e])
 rw [y0k] at h;rw [h];have e:Lib.bytesOf (x.map fun b=>(b.toNat:Int))=u8L x:=by simp [Lib.bytesOf,u8L,List.map_map,Function.comp_def]
 rw [e];simp
theorem zf9q {P : Program} {f : FuncId} {fn : Func} (hf : P.funcs[f]? = some fn) (h1 : (fn.name == "runtime.NumGoroutine") = false) (h2 : fn.body.isNone = true) (h3 : Extern.findNext fn = none) (h4 : Extern.find fn = some Extern.BytealgCompare.compare) (x y : List B8) (fx fy : Bool) :
  Am.Sem P f [.sl fx 1 x.length (x.map w8),.sl fy 1 y.length (y.map w8)] (.int .i64 (Lib.compareBytes (u8L x) (u8L y))):=by
 intro X w vs _ hr;obtain ⟨d,e,rfl,b,c⟩:=zaih hr;cases b with
 | sl _ _ _ cap1 a1 _ cv1 hn1 hf1 hl1 hc1 hx1 hr1 =>
 cases c with
 | sl _ _ _ cap2 a2 _ cv2 hn2 hf2 hl2 hc2 hx2 hr2 =>
 refine .inr ⟨_,w,?_,_,rfl,Rep.int .i64 _,BelowD.refl _ w⟩;have a:(Extern.BytealgCompare.compare #[.slice (some a1) x.length cap1,.slice (some a2) y.length cap2]).run P w = .ok (.int .i64 (Lib.compareBytes (u8L x) (u8L y))) w:=by
  change Sem.run P (do pure (goInt (Extern.BytealgCompare.cmp (← Extern.Bytes.bytesOf (.slice (some a1) x.length cap1)) (← Extern.Bytes.bytesOf (.slice (some a2) y.length cap2))))) w=_
  simp only [Extern.Bytes.bytesOf,Sem.run_bind,Sem.run_pure,zq08 hc1 hr1,zq08 hc2 hr2,Result.andThen];rw [Lib.cmp_eq]
  rfl
 rw [run_callFunc_extern hf h1 h2 h3 h4,a]
 rfl
theorem zadq : ∀ (a b:List UInt8),Lib.compareBytes a b<0↔Op.bytesLess a b=true
 | [],[]=>by simp [Lib.compareBytes,Op.bytesLess]
 | [],_::_=>by simp [Lib.compareBytes,Op.bytesLess]
 | _::_,[]=>by simp [Lib.compareBytes,Op.bytesLess]
 | x::a,y::b=>by
  have ih:=zadq a b;simp only [Lib.compareBytes,Op.bytesLess,y0l,y00,decide_eq_true_eq,beq_iff_eq];by_cases h:x<y
  ·simp [h]
  ·by_cases h':y<x
   ·have:¬ x=y:=fun e=>by subst e; exact h h'
    simp [h,h',this]
   ·have:x=y:=UInt8.le_antisymm (UInt8.not_lt.1 h') (UInt8.not_lt.1 h);subst this; simp [ih]
abbrev BB:=(Bool × List B8) × (Bool × List B8)
def fBB (a:BB):List DV:=[.sl a.1.1 1 a.1.2.length (a.1.2.map w8),.sl a.2.1 1 a.2.2.length (a.2.2.map w8)]
noncomputable def cBc:List DV→Option DV:=con (fun _=>True) fBB (fun a => .int .i64 (Lib.compareBytes (u8L a.1.2) (u8L a.2.2)))
theorem zdrm {f g:Bool} {a b:List B8}:cBc [.sl f 1 a.length (a.map w8),.sl g 1 b.length (b.map w8)]=some (.int .i64 (Lib.compareBytes (u8L a) (u8L b))) :=
 zsn4 (f:=fBB) (g:=fun a => .int .i64 (Lib.compareBytes (u8L a.1.2) (u8L a.2.2))) (by
  rintro ⟨⟨a,b⟩,⟨c,d⟩⟩ ⟨⟨a',b'⟩,⟨c',d'⟩⟩ e;simp only [fBB,List.cons.injEq,DV.sl.injEq,and_true,true_and] at e;obtain ⟨⟨rfl,-,e1⟩,rfl,-,e2⟩:=e;rw [zwcl] at e1 e2;rw [e1,e2]) ((f,a),(g,b))
noncomputable def T520:Tbl:=addT 102 (.pure cBc) tbl0
theorem z2c4:T520 102 = .pure cBc:=by simp [T520]
theorem z4p8:T520.Sound P:=z0rp (z2au fun a _=>zf9q Tryz.func102 (by kernel_rfl) (by kernel_rfl) (by kernel_rfl) (by kernel_rfl) a.1.2 a.2.2 a.1.1 a.2.1) zr5o
theorem zag9 (a:BB):Runs T520 a72 (fBB a) (.int .i64 (Lib.compareBytes (u8L a.1.2) (u8L a.2.2))):=by
 refine ⟨?_⟩;obtain ⟨⟨f,a⟩,⟨g,b⟩⟩:=a;simp (disch:=first|omega|simp<;>omega|fail) [-zE,fBB,a72,z2c4,zdrm]
theorem zroj:(Con.pure cBc).Sound P 72:=z2au fun a _=>zljw mix z4p8 Tryz.func72 z0xs (zag9 a)
def zsy0 (a b:Dg):Int:=Lib.compareBytes (dgU a) (dgU b)
theorem zxr9 {a b:Dg}:zsy0 a b<0↔dgLt a b=true:=zadq _ _
theorem z1f4 {f g:Bool} {a b:Dg}:cBc [.sl f 1 32 (dgC a),.sl g 1 32 (dgC b)]=some (.int .i64 (zsy0 a b)):=by
 have:=zdrm (f:=f) (g:=g) (a:=a.1) (b:=b.1);rw [a.2,b.2] at this;exact this
end
section
section
variable {α:Type} {c:α→Int} {l:List α}
def kOf (c:α→Int) (l:List α):Nat:=(l.takeWhile fun x=>decide (c x<0)).length
def fOf (c:α→Int) (l:List α):Bool:=match l[kOf c l]? with
 | some x=>decide (c x=0)
 | none=>false
def Mono (c:α→Int) (l:List α):Prop := ∀ i j (hi:i<l.length) (hj:j<l.length),i<j→c l[j]<0→c l[i]<0
theorem zgek : ∀ {l:List α} {i:Nat},i≤l.length→(∀ m (h:m<l.length),m<i→c l[m]<0)→(∀ h:i<l.length,¬ c l[i]<0)→kOf c l=i
 | [],i,h,_,_=>by simp at h; subst h; rfl
 | a::l,0,_,_,h=>by
  have:=h (by simp)
  simp only [y08] at this;simp [kOf,y0r,this]
 | a::l,i+1,hi,h1,h2=>by
  have ha:=h1 0 (by simp) (by omega)
  simp only [y08] at ha;have ih:=zgek (l:=l) (i:=i) (by simpa using hi) (fun m hm hmi=>by
   have:=h1 (m+1) (by simpa using hm) (by omega)
   simpa using this) (fun h=>by
   have:=h2 (by simpa using h)
   simpa using this)
  have ha':decide (c a<0)=true:=decide_eq_true ha;unfold kOf at ih ⊢;rw [y0r,ha',if_pos rfl,y01,ih]
theorem zjjt {i:Nat} (hk:kOf c l=i) (h:i<l.length):fOf c l=decide (c l[i]=0):=by
 unfold fOf; rw [hk,y04 h]
theorem zj9m {i:Nat} (hk:kOf c l=i) (h:¬ i<l.length):fOf c l=false:=by
 unfold fOf; rw [hk,y0n (by omega)]
end
theorem z9q1 : ∀ (a b:List UInt8),Lib.compareBytes a b=0↔a=b
 | [],[]=>by simp [Lib.compareBytes]
 | [],_::_=>by simp [Lib.compareBytes]
 | _::_,[]=>by simp [Lib.compareBytes]
 | x::a,y::b=>by
  have ih:=z9q1 a b;simp only [Lib.compareBytes,List.cons.injEq];by_cases h:x<y
  ·have:x≠y:=fun e=>by subst e; exact absurd h (by simp)
   simp [h,this]
  ·by_cases h':y<x
   ·have:x≠y:=fun e=>by subst e; exact absurd h' (by simp)
    simp [h,h',this]
   ·have:x=y:=by
     have c:¬ x.toNat<y.toNat:=fun q=>h (UInt8.lt_iff_toNat_lt.2 q)
     have d:¬ y.toNat<x.toNat:=fun q=>h' (UInt8.lt_iff_toNat_lt.2 q)
     exact UInt8.toNat_inj.1 (by omega)
    simp [h,h',this,ih]
theorem zuux {a b:Dg}:zsy0 a b=0↔a=b:=by
 unfold zsy0;rw [z9q1];exact ⟨fun h=>znyd _ _ h,fun h=>by rw [h]⟩
structure Tri where
 grp:Int
 art:Dg
 fl:Int
 af:Int
 deriving DecidableEq
def trC (x:Tri):List DV := .int .i64 x.grp::(dgC x.art++[.int .i64 x.fl,.int .i64 x.af])
theorem zezj (x:Tri):(trC x).length=35:=by simp [trC,z1t1]
theorem z1zd (x:Tri):zbao (trC x)=true:=by
 simp only [trC,zbao,zyp8,y0f];exact zg0c (z3ot _) (by simp [zbao,zyp8])
theorem zms9 (x:Tri):(trC x).all DV.one=true:=by simp only [trC,List.all_cons,List.all_append,zoxk,zzmf,List.all_nil,Bool.and_self]
theorem zst3 (x:Tri):(trC x).drop 1=dgC x.art++[.int .i64 x.fl,.int .i64 x.af]:=rfl
theorem zww5 : ∀ x:Tri,oneC 35 true (trC x)=some (.agg (trC x)):=fun x=>by simp [oneC,zezj,y03]
theorem z7fr {x:Tri}:oneC 1 false (trC x)=some (.int .i64 x.grp):=rfl
theorem z56z {a b:Tri} (e:trC a=trC b):a=b:=by
 obtain ⟨f,g,i,a4⟩:=a;obtain ⟨b1,b2,j,k⟩:=b;simp only [trC,List.cons.injEq,DV.int.injEq,true_and] at e;obtain ⟨c,d⟩:=e;have h:=List.append_inj d (by rw [z1t1,z1t1])
 simp only [List.cons.injEq,DV.int.injEq,true_and,and_true] at h;rw [c,zib9 h.1,h.2.1,h.2.2]
def cmpT (g:Int) (d:Dg) (x:Tri):Int:=orI (cmpI x.grp g) (zsy0 x.art d)
noncomputable def znlu:Tbl:=addT 71 (.pure (cII fun a b => .int .i64 (cmpI a b))) (addT 72 (.pure cBc) (addT 70 (.pure cOr) tbl0))
theorem z2rr:znlu 71 = .pure (cII fun a b => .int .i64 (cmpI a b)):=by simp [znlu]
theorem z7qx:znlu 72 = .pure cBc:=by simp [znlu]
theorem zu8u:znlu 70 = .pure cOr:=by simp [znlu]
theorem znzo:znlu.Sound P:=z0rp (z2au fun p _=>zljw mix ztzm Tryz.func71 zbtg (zcof p.1 p.2)) (z0rp zroj (z0rp (z2au fun p _=>zljw mix zr5o Tryz.func70 zhcw (z5l8 p.1 p.2)) zr5o))
theorem zswn (x:Tri):((trC x).drop 1).take 32=dgC x.art:=by
 rw [zst3,List.take_left' (z1t1 _)]
theorem ze4n (a b:Tri):Runs znlu a69 [.agg (trC a),.agg (trC b)] (.int .i64 (cmpT b.grp b.art a)):=by
 refine ⟨?_⟩;have c : ∀ h (x:Tri),boxD h (.agg (trC x))=some (.mp h.length 35 0,h++[.cells (trC x)]):=fun h x=>by rw [zn72,zezj]
 have d : ∀ x:Tri,dgC x.art++[DV.int .i64 x.fl,.int .i64 x.af]=(trC x).drop 1:=fun x=>rfl
 simp (disch:=first|omega|simp<;>omega|fail) [-zE,a69,c,z7fr,z2rr,zmei,z7qx,zswn,zezj,z3ot,z1f4,zu8u,z68y,cmpT]
noncomputable def cS1t:List DV→Option DV:=con (fun _=>True) (fun a:Tri × Tri=>[.agg (trC a.1),.agg (trC a.2)]) (fun a => .int .i64 (cmpT a.2.grp a.2.art a.1))
theorem z1ro {a b:Tri}:cS1t [.agg (trC a),.agg (trC b)]=some (.int .i64 (cmpT b.grp b.art a)) :=
 zsn4 (f:=fun a:Tri × Tri=>[.agg (trC a.1),.agg (trC a.2)]) (g:=fun a => .int .i64 (cmpT a.2.grp a.2.art a.1)) (by
  rintro ⟨a,b⟩ ⟨c,d⟩ e;simp only [List.cons.injEq,DV.agg.injEq,and_true] at e;rw [z56z e.1,z56z e.2]) (a,b)
noncomputable def zxgd:Tbl:=addT 69 (.pure cS1t) tbl0
theorem zrju:zxgd 69 = .pure cS1t:=by simp [zxgd]
theorem z0s4:zxgd.Sound P:=z0rp (z2au fun a _=>zljw mix znzo Tryz.func69 z713 (ze4n a.1 a.2)) zr5o
structure IJ where
 i:Nat
 j:Nat
def sfn:DV := .fn (.func 69) [] []
def zos4 (x:Sl Tri) (t:Tri) (a:IJ):St:=zd78 (x.dv 35 trC) sfn (.mp 0 35 0) (.int .i64 x.l.length) (.int .i64 a.i) (.int .i64 a.j) [.cells (trC t)]
theorem zm7q (x:Sl Tri):zyp8 (x.dv 35 trC)=true:=zxxb z1zd x
theorem z3um (i j:Nat):(max ((i:Int)+j) 0) >>> (1:Nat)=((i+j) / 2:Nat):=by
 rw [Int.max_eq_left (by omega),Int.shiftRight_eq_div_pow]; omega
theorem zfmw (x:Sl Tri) (t:Tri) (hm:Mono (cmpT t.grp t.art) x.l):Runs zxgd a68 [x.dv 35 trC,.agg (trC t),sfn] (.tup [.int .i64 (kOf (cmpT t.grp t.art) x.l),.bool (fOf (cmpT t.grp t.art) x.l)]):=by
 refine ⟨?_⟩;have O:=x.b;have E : ∀ h (x:Tri),boxD h (.agg (trC x))=some (.mp h.length 35 0,h++[.cells (trC x)]):=fun h x=>by rw [zn72,zezj]
 have I : ∀ H,lenD H (x.dv 35 trC)=some (.int .i64 x.l.length):=fun H=>zupj
 simp (disch:=first|omega|simp<;>omega|fail) [-zE,a68,E,I,sfn];refine zlm5 (zos4 x t) (fun a=>a.j-a.i) (fun a=>a.i≤a.j∧a.j≤x.l.length∧(∀ m (h:m<x.l.length),m<a.i→cmpT t.grp t.art x.l[m]<0) ∧ ∀ m (h:m<x.l.length),a.j≤m→0≤cmpT t.grp t.art x.l[m]) ⟨0,x.l.length⟩ (yWS (by simp [-zE,zos4,zd78,sfn])) ⟨y0t _,y02 _,fun m _ h=>by simp at h,fun m K w=>by have w:x.l.length≤m:=w; omega⟩ (fun a ha => ?_)
 obtain ⟨i,j⟩:=a;obtain ⟨K,w,C,D⟩:=ha;simp only at K w C D;simp only [zos4];by_cases g:i<j
 ·have s:(i:Int)<j:=by omega
  have G:=z3um i j;obtain ⟨k,y⟩ : ∃ k,(i+j) / 2=k:=⟨_,rfl⟩;rw [y] at G;have o:k<x.l.length:=by omega
  have r : ∀ H,zpsc H 35 (x.dv 35 trC) k=some (.ref (trC x.l[k])):=fun H=>zalo zezj o
  have n:=z1ro (a:=x.l[k]) (b:=t);have f:cmpT t.grp t.art x.l[k]<0 → ∀ m (h:m<x.l.length),m<k+1→cmpT t.grp t.art x.l[m]<0:=fun e m hml hmk=>by
   by_cases q:m=k
   ·subst q; exact e
   ·exact hm m k hml o (by omega) e
  have d:¬ cmpT t.grp t.art x.l[k]<0 → ∀ m (h:m<x.l.length),k≤m→0≤cmpT t.grp t.art x.l[m]:=fun e m hml hkm=>by
   by_cases p:m=k
   ·subst p; omega
   ·by_cases q:cmpT t.grp t.art x.l[m]<0
    ·exact absurd (hm k m o hml (by omega) q) e
    ·omega
  obtain ⟨u,J⟩ : ∃ u,x.l[k]=u:=⟨_,rfl⟩;rw [J] at r n f d;obtain ⟨v,A⟩ : ∃ v,cmpT t.grp t.art u=v:=⟨_,rfl⟩;rw [A] at n f d;have L:=zww5 t;by_cases q:v<0
  ·have f:=f q;simp (disch:=first|omega|simp<;>omega|fail) [-zE,z0bm,zd78,sfn,g,s,G,r,zww5,zezj,z1zd,zrju,n,q];exact ⟨⟨k+1,j⟩,yWS (by simp [-zE,zos4,zd78,sfn]),by simp only; omega,by simp only; omega,by simp only; omega,f,fun m hml hjm=>D m hml hjm⟩
  ·have d:=d q;have N:0≤v:=by omega
   simp (disch:=first|omega|simp<;>omega|fail) [-zE,z0bm,zd78,sfn,g,s,G,r,zww5,zezj,z1zd,zrju,n,q,N];exact ⟨⟨i,k⟩,yWS (by simp [-zE,zos4,zd78,sfn]),by simp only; omega,by simp only; omega,by simp only; omega,fun m hml hmi=>C m hml hmi,d⟩
 ·have s:¬ (i:Int)<j:=by omega
  obtain rfl:i=j:=by omega
  have y:=zgek (c:=cmpT t.grp t.art) w C (fun h=>by have:=D i h (y02 _); omega)
  have z:=zjjt y;have F:=zj9m y;rw [y];by_cases e:i<x.l.length
  ·have B:(i:Int)<x.l.length:=by omega
   have z:=z e;have r : ∀ H,zpsc H 35 (x.dv 35 trC) i=some (.ref (trC x.l[i])):=fun H=>zalo zezj e
   have n:=z1ro (a:=x.l[i]) (b:=t);obtain ⟨u,J⟩ : ∃ u,x.l[i]=u:=⟨_,rfl⟩;rw [J] at r n z;rw [z];obtain ⟨v,A⟩ : ∃ v,cmpT t.grp t.art u=v:=⟨_,rfl⟩;rw [A] at n;rw [A];simp (disch:=first|omega|simp<;>omega|fail) [-zE,z0bm,zd78,sfn,g,s,e,B,r,zww5,zezj,z1zd,zrju,n]
  ·have B:¬ (i:Int)<x.l.length:=by omega
   rw [F e];simp (disch:=first|omega|simp<;>omega|fail) [-zE,z0bm,zd78,sfn,g,s,e,B]
end
end Go.Proofs.YtaihpefemjlilaaGreatDoor

