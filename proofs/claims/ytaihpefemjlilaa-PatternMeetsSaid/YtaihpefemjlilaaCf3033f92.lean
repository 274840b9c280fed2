/-
  18 texts of mine in one.
-/
import Derived.Lib.IndexLaws
import Derived.Test.YtaihpefemjlilaaProg
import Derived.Test.YtaihpefemjlilaaC9aa0e7c0
import Derived.Test.YtaihpefemjlilaaCe1ff8d1d
import Derived.Test.YtaihpefemjlilaaC124427f9
import Derived.Test.YtaihpefemjlilaaCd5f6f8e5
set_option maxRecDepth 20000
set_option maxHeartbeats 4000000
open List renaming map_take → zA, map_drop → zB, map_set → zC, map_append → zD, drop_one → zE
open Bool renaming and_eq_true → y01, true_and → y0y
open List renaming getD_eq_getElem?_getD → y00, getElem?_eq_getElem → y03, length_cons → y04, cons_append → y05, getElem?_eq_some_iff → y06, take_of_length_le → y07, mem_map → y08, mem_append_left → y09, getElem?_append_right → y0a, drop_eq_getElem_cons → y0b, getElem?_append_left → y0c, mem_append → y0d, length_append → y0e, flatMap_cons → y0f, mem_cons → y0g, ext_getElem → y0h, append_inj_left' → y0i, mem_cons_of_mem → y0j, reverse_append → y0k, dropLast_concat_getLast → y0l, set_cons_succ → y0m, map_cons → y0n, take_append_getElem → y0o, take_length → y0p, all_eq_true → y0q, nil_append → y0r, length_map → y0s, drop_eq_nil_of_le → y0t, append_inj_right' → y0v, getElem?_eq_none → y0w, set_append_right → y0x, map_set → y10
open Nat renaming le_refl → y02, add_zero → y0z
open Option renaming map_eq_some_iff → y0u
namespace Go.Proofs.Ytaihpefemjlilaa
section
set_option linter.unusedSimpArgs false
set_option linter.unusedVariables false
open Go Go.Am
abbrev B8:=BitVec 8
inductive Pt where
 | one (c:B8)|dot|some|whole
deriving DecidableEq
def Pt.kind:Pt→Int
 | .one _=>0 | .dot=>1 | .some=>2 | .whole=>3
def Pt.chr:Pt→B8
 | .one c=>c|_=>0#8
def Pt.long:Pt→Bool
 | .some=>true | .whole=>true|_=>false
def Pt.takes:Pt→B8→Bool
 | .one c,b=>b == c | .whole,_=>true|_,b=>b != 47#8
def bAt (s:List UInt8) (i:Nat):B8:=(s.getD i 0).toBitVec
def row (x:Pt) (s:List UInt8) (prev:Nat→Bool):Nat→Bool
 | 0=>x.long&&prev 0
 | i+1=>if x.long then prev (i+1)||(row x s prev i&&x.takes (bAt s i)) else prev i&&x.takes (bAt s i)
def M (l:List Pt) (s:List UInt8):Nat→Nat→Bool
 | 0=>fun i=>i == 0
 | k+1=>row (l.getD k .dot) s (M l s k)
theorem zbas (l s) (i:Nat):M l s 0 i=(i == 0):=rfl
theorem z9av (l s) (k:Nat):M l s (k+1) 0=((l.getD k .dot).long&&M l s k 0):=rfl
theorem zbwv {l s} {k i:Nat} (h:(l.getD k .dot).long=true):M l s (k+1) (i+1)=(M l s k (i+1)||(M l s (k+1) i&&(l.getD k .dot).takes (bAt s i))):=by
 show row _ _ _ (i+1)=_
 rw [row,if_pos h]; rfl
theorem ze32 {l s} {k i:Nat} (h:(l.getD k .dot).long=false):M l s (k+1) (i+1)=(M l s k i&&(l.getD k .dot).takes (bAt s i)):=by
 show row _ _ _ (i+1)=_
 rw [row,if_neg (by rw [h]; simp)]
def prs:List UInt8→Option (List Pt)
 | [] => .some []
 | c::r =>
  if c.toBitVec=92#8 then
   match r with
   | []=>none
   | d::r'=>(prs r').map fun l => .one d.toBitVec::l
  else if c.toBitVec=42#8 then
   match r with
   | [] => .some [.some]
   | d::r'=>if d.toBitVec=42#8 then (prs r').map fun l => .whole::l else (prs (d::r')).map fun l => .some::l
  else if c.toBitVec=63#8 then (prs r).map fun l => .dot::l
  else (prs r).map fun l => .one c.toBitVec::l
def noZ (s:List UInt8):Bool:=s.all fun c=>c != 0
def zfn1 (p:List UInt8):Option (List Pt):=if 1≤p.length∧p.length≤200∧noZ p=true then prs p else none
def z2fg:List UInt8→List (List UInt8)
 | []=>[[]]
 | c::r=>if c=47 then []::z2fg r else
  match z2fg r with
  | []=>[[c]]
  | h::t=>(c::h)::t
def okC (x:List UInt8):Bool:=x != []&&x != [46]&&x != [46,46]
def zj1f (s:List UInt8):Bool:=decide (1≤s.length)&&decide (s.length≤200)&&noZ s&&(z2fg s).all okC
def zenh (p s:List UInt8):Bool:=match zfn1 p with
 | none=>false
 | .some l=>zj1f s&&M l s l.length s.length
theorem zq22 (c:UInt8):c.toBitVec.toNat.toUInt8=c:=by simp
theorem zf0z : ∀ (s:List UInt8),z2fg s≠[]
 | []=>by simp [z2fg]
 | c::r=>by
  rw [z2fg]
  split
  ·simp
  ·split<;>simp
theorem zjyx (r:List UInt8):z2fg (47::r)=[]::z2fg r:=by simp [z2fg]
theorem zyty {c:UInt8} {r h:List UInt8} {t:List (List UInt8)} (hc:c≠47) (hr:z2fg r=h::t):z2fg (c::r)=(c::h)::t:=by simp [z2fg,hc,hr]
theorem zzaw (r:List UInt8) : ∃ h t,z2fg r=h::t:=by
 cases e:z2fg r with
 | nil=>exact absurd e (zf0z r)
 | cons h t=>exact ⟨h,t,rfl⟩
theorem z1q7 (b:UInt8) (l:List UInt8) (c:UInt8):Lib.indexByte (b::l) c=if b=c then 0 else if Lib.indexByte l c = -1 then -1 else Lib.indexByte l c+1:=by
 simp [Lib.indexByte]
theorem zbf3 : ∀ {s:List UInt8},Lib.indexByte s 47 = -1→z2fg s=[s]
 | [],_=>rfl
 | c::r,h=>by
  rw [z1q7] at h
  split at h
  ·simp at h
  ·rename_i hc
   split at h
   ·rename_i hr; exact zyty hc (zbf3 hr)
   ·have:=Lib.indexByte_ge r 47; omega
theorem zjoj : ∀ {s:List UInt8} {o:Nat},Lib.indexByte s 47=o→z2fg s=s.take o::z2fg (s.drop (o+1))
 | [],o,h=>by simp [Lib.indexByte] at h
 | c::r,o,h=>by
  rw [z1q7] at h
  split at h
  ·rename_i hc
   have:o=0:=by omega
   subst this; subst hc
   simp [zjyx]
  ·rename_i hc
   split at h
   ·omega
   ·obtain ⟨o',rfl⟩ : ∃ o',o=o'+1:=⟨o-1,by have:=Lib.indexByte_ge r 47; omega⟩
    have:=zjoj (s:=r) (o:=o') (by omega)
    rw [zyty hc this]
    simp
theorem zc5k : ∀ (s:List UInt8),noZ s=decide (Lib.indexByte s 0 = -1)
 | []=>rfl
 | c::r=>by
  have ih:=zc5k r
  have hg:=Lib.indexByte_ge r 0
  have e:noZ (c::r)=(c != 0&&noZ r):=by simp [noZ]
  rw [e,ih,z1q7]
  by_cases hc:c=0
  ·simp [hc]
  ·by_cases hr:Lib.indexByte r 0 = -1
   ·simp [hc,hr]
   ·simp [hc,hr]; omega
theorem z8bu {s:List UInt8} {c:UInt8} {o:Nat} (h:Lib.indexByte s c=o):o<s.length:=by
 have:=(Lib.indexByte_some h).1
 exact (y06.1 this).1
end
section
set_option linter.unusedSimpArgs false
set_option linter.unusedVariables false
open Go Go.Am
noncomputable abbrev P:Program:=Try.prog
theorem mix:P.follows .mixedOrders=true:=by kernel_rfl
def a64:AFn where
 code:=(.seq (.region false [⟨none,(some 4),.mov (.k (.int .i64 0))⟩])
 (.seq (.region false [⟨none,(some 5),.mov (.t 0)⟩,
  ⟨none,(some 6),.mov (.t 1)⟩,
  ⟨none,(some 7),.call (.k (.fn (.func 87) [] [])) [(.t 5),(.t 6)]⟩,
  ⟨none,(some 4),.mov (.t 7)⟩])
 .ret))
 ntmps:=8
 res:=[.tmp 4]
theorem zerh:zsjc P Try.f64=some a64:=by kernel_rfl
def a41:AFn where
 code:=(.seq (.region false [⟨none,(some 4),.mov (.k (.int .i64 0))⟩])
 (.seq (.region false [⟨none,(some 5),.mov (.t 0)⟩,
  ⟨none,(some 6),.mov (.t 1)⟩,
  ⟨none,(some 7),.call (.k (.fn (.func 64) [] [])) [(.t 5),(.t 6)]⟩,
  ⟨none,(some 4),.mov (.t 7)⟩])
 .ret))
 ntmps:=8
 res:=[.tmp 4]
theorem z5y8:zsjc P Try.f41=some a41:=by kernel_rfl
def z2r1:ACode :=
 (.seq (.seq (.region false [⟨none,(some 57),.mov (.t 8)⟩,
  ⟨none,(some 58),.mov (.t 9)⟩,
  ⟨none,(some 59),.bin .lss (.t 57) (.t 58)⟩])
 (.cond (.t 59) .skip
 (.exit 1)))
 (.block 2 (.seq (.seq (.region false [⟨none,(some 60),.mov (.t 0)⟩,
  ⟨none,(some 61),.mov (.t 8)⟩,
  ⟨none,(some 62),.idxStr (.t 60) (.t 61)⟩,
  ⟨none,(some 63),.mov (.t 6)⟩,
  ⟨none,(some 64),.bin .neq (.t 62) (.t 63)⟩])
 (.cond (.t 64) (.seq (.region false [⟨none,(some 65),.mov (.t 0)⟩,
  ⟨none,(some 66),.mov (.t 8)⟩,
  ⟨none,(some 67),.bin .add (.t 66) (.k (.int .i64 1))⟩,
  ⟨none,(some 68),.mov (.t 9)⟩,
  ⟨none,(some 69),.slcStr (.t 65) (some (.t 67)) (some (.t 68))⟩,
  ⟨none,(some 70),.mov (.t 6)⟩,
  ⟨none,(some 71),.call (.k (.fn (.func 64) [] [])) [(.t 69),(.t 70)]⟩,
  ⟨none,(some 11),.mov (.t 71)⟩])
 (.seq (.seq (.region false [⟨none,(some 72),.mov (.t 11)⟩,
  ⟨none,(some 73),.bin .lss (.t 72) (.k (.int .i64 0))⟩])
 (.cond (.t 73) (.seq (.region false [⟨none,(some 4),.mov (.k (.int .i64 (-1)))⟩])
 .ret)
 .skip))
 (.region false [⟨none,(some 74),.mov (.t 8)⟩,
  ⟨none,(some 75),.mov (.t 11)⟩,
  ⟨none,(some 76),.bin .add (.t 75) (.k (.int .i64 1))⟩,
  ⟨none,(some 77),.bin .add (.t 74) (.t 76)⟩,
  ⟨none,(some 8),.mov (.t 77)⟩])))
 .skip))
 (.seq (.seq (.region false [⟨none,(some 78),.mov (.t 0)⟩,
  ⟨none,(some 79),.mov (.t 8)⟩,
  ⟨none,(some 80),.bin .add (.t 79) (.k (.int .i64 1))⟩,
  ⟨none,(some 81),.idxStr (.t 78) (.t 80)⟩,
  ⟨none,(some 82),.mov (.t 7)⟩,
  ⟨none,(some 83),.bin .eql (.t 81) (.t 82)⟩,
  ⟨none,(some 84),.mov (.t 83)⟩,
  ⟨(some (84,true)),(some 85),.mov (.t 0)⟩,
  ⟨(some (84,true)),(some 86),.mov (.t 8)⟩,
  ⟨(some (84,true)),(some 87),.mov (.t 8)⟩,
  ⟨(some (84,true)),(some 88),.mov (.t 5)⟩,
  ⟨(some (84,true)),(some 89),.bin .add (.t 87) (.t 88)⟩,
  ⟨(some (84,true)),(some 90),.slcStr (.t 85) (some (.t 86)) (some (.t 89))⟩,
  ⟨(some (84,true)),(some 91),.mov (.t 1)⟩,
  ⟨(some (84,true)),(some 92),.bin .eql (.t 90) (.t 91)⟩,
  ⟨none,(some 93),.pick (.t 84) (.t 92) (.k (.bool false))⟩])
 (.cond (.t 93) (.seq (.region false [⟨none,(some 94),.mov (.t 8)⟩,
  ⟨none,(some 4),.mov (.t 94)⟩])
 .ret)
 .skip))
 (.seq (.region false [⟨none,(some 95),.mov (.t 8)⟩,
  ⟨none,(some 96),.bin .add (.t 95) (.k (.int .i64 1))⟩,
  ⟨none,(some 8),.mov (.t 96)⟩])
 (.seq (.region false [⟨none,(some 97),.mov (.t 10)⟩,
  ⟨none,(some 98),.bin .add (.t 97) (.k (.int .i64 1))⟩,
  ⟨none,(some 10),.mov (.t 98)⟩])
 (.seq (.region false [⟨none,(some 99),.mov (.t 5)⟩,
  ⟨none,(some 100),.ext (.k .junk) 0⟩,
  ⟨none,(some 101),.bin .leq (.t 99) (.t 100)⟩,
  ⟨none,(some 102),.mov (.t 101)⟩,
  ⟨(some (102,true)),(some 103),.mov (.t 10)⟩,
  ⟨(some (102,true)),(some 104),.mov (.t 8)⟩,
  ⟨(some (102,true)),(some 105),.call (.k (.fn (.func 99) [] [])) [(.t 104)]⟩,
  ⟨(some (102,true)),(some 106),.bin .gtr (.t 103) (.t 105)⟩,
  ⟨none,(some 107),.pick (.t 102) (.t 106) (.k (.bool false))⟩])
 (.cond (.t 107) (.seq (.region false [⟨none,(some 108),.mov (.t 0)⟩,
  ⟨none,(some 109),.mov (.t 8)⟩,
  ⟨none,(some 110),.slcStr (.t 108) (some (.t 109)) none⟩,
  ⟨none,(some 111),.mov (.t 1)⟩,
  ⟨none,(some 112),.call (.k (.fn (.func 98) [] [])) [(.t 110),(.t 111)]⟩,
  ⟨none,(some 12),.mov (.t 112)⟩])
 (.seq (.seq (.region false [⟨none,(some 113),.mov (.t 12)⟩,
  ⟨none,(some 114),.bin .geq (.t 113) (.k (.int .i64 0))⟩])
 (.cond (.t 114) (.seq (.region false [⟨none,(some 115),.mov (.t 12)⟩,
  ⟨none,(some 116),.mov (.t 8)⟩,
  ⟨none,(some 117),.bin .add (.t 115) (.t 116)⟩,
  ⟨none,(some 4),.mov (.t 117)⟩])
 .ret)
 .skip))
 (.seq (.region false [⟨none,(some 4),.mov (.k (.int .i64 (-1)))⟩])
 .ret)))
 (.seq (.region false [⟨none,(some 118),.mov (.t 5)⟩,
  ⟨none,(some 119),.ext (.k .junk) 0⟩,
  ⟨none,(some 120),.bin .gtr (.t 118) (.t 119)⟩,
  ⟨none,(some 121),.mov (.t 120)⟩,
  ⟨(some (121,true)),(some 122),.mov (.t 10)⟩,
  ⟨(some (121,true)),(some 123),.mov (.t 8)⟩,
  ⟨(some (121,true)),(some 124),.bin .shr (.t 123) (.k (w64 4#64))⟩,
  ⟨(some (121,true)),(some 125),.bin .add (.k (.int .i64 4)) (.t 124)⟩,
  ⟨(some (121,true)),(some 126),.bin .geq (.t 122) (.t 125)⟩,
  ⟨none,(some 127),.pick (.t 121) (.t 126) (.k (.bool false))⟩,
  ⟨none,(some 128),.mov (.t 127)⟩,
  ⟨(some (128,true)),(some 129),.mov (.t 8)⟩,
  ⟨(some (128,true)),(some 130),.mov (.t 9)⟩,
  ⟨(some (128,true)),(some 131),.bin .lss (.t 129) (.t 130)⟩,
  ⟨none,(some 132),.pick (.t 128) (.t 131) (.k (.bool false))⟩])
 (.cond (.t 132) (.seq (.region false [⟨none,(some 133),.mov (.t 0)⟩,
  ⟨none,(some 134),.mov (.t 8)⟩,
  ⟨none,(some 135),.slcStr (.t 133) (some (.t 134)) none⟩,
  ⟨none,(some 136),.mov (.t 1)⟩,
  ⟨none,(some 137),.call (.k (.fn (.func 100) [] [])) [(.t 135),(.t 136)]⟩,
  ⟨none,(some 13),.mov (.t 137)⟩])
 (.seq (.seq (.region false [⟨none,(some 138),.mov (.t 13)⟩,
  ⟨none,(some 139),.bin .lss (.t 138) (.k (.int .i64 0))⟩])
 (.cond (.t 139) (.seq (.region false [⟨none,(some 4),.mov (.k (.int .i64 (-1)))⟩])
 .ret)
 .skip))
 (.seq (.region false [⟨none,(some 140),.mov (.t 8)⟩,
  ⟨none,(some 141),.mov (.t 13)⟩,
  ⟨none,(some 142),.bin .add (.t 140) (.t 141)⟩,
  ⟨none,(some 4),.mov (.t 142)⟩])
 .ret)))
 .skip))))))))))
def a88:AFn where
 code:=(.seq (.region false [⟨none,(some 4),.mov (.k (.int .i64 0))⟩])
 (.seq (.region false [⟨none,(some 14),.mov (.t 1)⟩,
  ⟨none,(some 15),.lenStr (.t 14)⟩,
  ⟨none,(some 5),.mov (.t 15)⟩])
 (.seq (.block 0 (.seq (.region false [⟨none,(some 17),.mov (.t 5)⟩,
  ⟨none,(some 18),.bin .eql (.t 17) (.k (.int .i64 0))⟩,
  ⟨none,(some 19),.mov (.t 18)⟩,
  ⟨(some (19,false)),(some 20),.mov (.t 1)⟩,
  ⟨(some (19,false)),(some 21),.mov (.t 0)⟩,
  ⟨(some (19,false)),(some 22),.bin .eql (.t 20) (.t 21)⟩,
  ⟨none,(some 23),.pick (.t 19) (.k (.bool true)) (.t 22)⟩,
  ⟨none,(some 16),.mov (.t 23)⟩])
 (.cond (.t 16) (.seq (.region false [⟨none,(some 4),.mov (.k (.int .i64 0))⟩])
 .ret)
 (.seq (.region false [⟨none,(some 25),.mov (.t 5)⟩,
  ⟨none,(some 26),.bin .eql (.t 25) (.k (.int .i64 1))⟩,
  ⟨none,(some 24),.mov (.t 26)⟩])
 (.cond (.t 24) (.seq (.region false [⟨none,(some 27),.mov (.t 0)⟩,
  ⟨none,(some 28),.mov (.t 1)⟩,
  ⟨none,(some 29),.idxStr (.t 28) (.k (.int .i64 0))⟩,
  ⟨none,(some 30),.call (.k (.fn (.func 64) [] [])) [(.t 27),(.t 29)]⟩,
  ⟨none,(some 4),.mov (.t 30)⟩])
 .ret)
 (.seq (.region false [⟨none,(some 32),.mov (.t 5)⟩,
  ⟨none,(some 33),.mov (.t 0)⟩,
  ⟨none,(some 34),.lenStr (.t 33)⟩,
  ⟨none,(some 35),.bin .geq (.t 32) (.t 34)⟩,
  ⟨none,(some 31),.mov (.t 35)⟩])
 (.cond (.t 31) (.seq (.region false [⟨none,(some 4),.mov (.k (.int .i64 (-1)))⟩])
 .ret)
 (.seq (.region false [⟨none,(some 37),.mov (.t 5)⟩,
  ⟨none,(some 38),.ext (.k .junk) 0⟩,
  ⟨none,(some 39),.bin .leq (.t 37) (.t 38)⟩,
  ⟨none,(some 40),.mov (.t 39)⟩,
  ⟨(some (40,true)),(some 41),.mov (.t 0)⟩,
  ⟨(some (40,true)),(some 42),.lenStr (.t 41)⟩,
  ⟨(some (40,true)),(some 43),.bin .leq (.t 42) (.k (.int .i64 64))⟩,
  ⟨none,(some 44),.pick (.t 40) (.t 43) (.k (.bool false))⟩,
  ⟨none,(some 36),.mov (.t 44)⟩])
 (.cond (.t 36) (.seq (.region false [⟨none,(some 45),.mov (.t 0)⟩,
  ⟨none,(some 46),.mov (.t 1)⟩,
  ⟨none,(some 47),.call (.k (.fn (.func 98) [] [])) [(.t 45),(.t 46)]⟩,
  ⟨none,(some 4),.mov (.t 47)⟩])
 .ret)
 .skip)))))))))
 (.seq (.region false [⟨none,(some 48),.mov (.t 1)⟩,
  ⟨none,(some 49),.idxStr (.t 48) (.k (.int .i64 0))⟩,
  ⟨none,(some 6),.mov (.t 49)⟩])
 (.seq (.region false [⟨none,(some 50),.mov (.t 1)⟩,
  ⟨none,(some 51),.idxStr (.t 50) (.k (.int .i64 1))⟩,
  ⟨none,(some 7),.mov (.t 51)⟩])
 (.seq (.region false [⟨none,(some 8),.mov (.k (.int .i64 0))⟩])
 (.seq (.region false [⟨none,(some 52),.mov (.t 0)⟩,
  ⟨none,(some 53),.lenStr (.t 52)⟩,
  ⟨none,(some 54),.mov (.t 5)⟩,
  ⟨none,(some 55),.bin .sub (.t 53) (.t 54)⟩,
  ⟨none,(some 56),.bin .add (.t 55) (.k (.int .i64 1))⟩,
  ⟨none,(some 9),.mov (.t 56)⟩])
 (.seq (.region false [⟨none,(some 10),.mov (.k (.int .i64 0))⟩])
 (.seq (.block 1 (.loop z2r1))
 (.seq (.region false [⟨none,(some 4),.mov (.k (.int .i64 (-1)))⟩])
 .ret))))))))))
 ntmps:=143
 res:=[.tmp 4]
theorem zqgj:zsjc P Try.f88=some a88:=by kernel_rfl
def a65:AFn where
 code:=(.seq (.region false [⟨none,(some 4),.mov (.k (.str []))⟩,
  ⟨none,(some 5),.mov (.k (.str []))⟩,
  ⟨none,(some 6),.mov (.k (.bool false))⟩])
 (.seq (.seq (.region false [⟨none,(some 8),.mov (.t 0)⟩,
  ⟨none,(some 9),.mov (.t 1)⟩,
  ⟨none,(some 10),.call (.k (.fn (.func 88) [] [])) [(.t 8),(.t 9)]⟩,
  ⟨none,(some 7),.mov (.t 10)⟩])
 (.seq (.region false [⟨none,(some 11),.mov (.t 7)⟩,
  ⟨none,(some 12),.bin .geq (.t 11) (.k (.int .i64 0))⟩])
 (.cond (.t 12) (.seq (.region true [⟨none,(some 13),.mov (.t 0)⟩,
  ⟨none,(some 14),.mov (.t 7)⟩,
  ⟨none,(some 15),.slcStr (.t 13) none (some (.t 14))⟩,
  ⟨none,(some 16),.mov (.t 0)⟩,
  ⟨none,(some 17),.mov (.t 7)⟩,
  ⟨none,(some 18),.mov (.t 1)⟩,
  ⟨none,(some 19),.lenStr (.t 18)⟩,
  ⟨none,(some 20),.bin .add (.t 17) (.t 19)⟩,
  ⟨none,(some 21),.slcStr (.t 16) (some (.t 20)) none⟩,
  ⟨none,(some 4),.mov (.t 15)⟩,
  ⟨none,(some 5),.mov (.t 21)⟩,
  ⟨none,(some 6),.mov (.k (.bool true))⟩])
 .ret)
 .skip)))
 (.seq (.region false [⟨none,(some 22),.mov (.t 0)⟩,
  ⟨none,(some 4),.mov (.t 22)⟩,
  ⟨none,(some 5),.mov (.k (.str []))⟩,
  ⟨none,(some 6),.mov (.k (.bool false))⟩])
 .ret)))
 ntmps:=23
 res:=[.tmp 4,.tmp 5,.tmp 6]
theorem zh04:zsjc P Try.f65=some a65:=by kernel_rfl
def a43:AFn where
 code:=(.seq (.region false [⟨none,(some 4),.mov (.k (.str []))⟩,
  ⟨none,(some 5),.mov (.k (.str []))⟩,
  ⟨none,(some 6),.mov (.k (.bool false))⟩])
 (.seq (.region false [⟨none,(some 7),.mov (.t 0)⟩,
  ⟨none,(some 8),.mov (.t 1)⟩,
  ⟨none,(some 9),.call (.k (.fn (.func 65) [] [])) [(.t 7),(.t 8)]⟩,
  ⟨none,(some 10),.ext (.t 9) 0⟩,
  ⟨none,(some 11),.ext (.t 9) 1⟩,
  ⟨none,(some 12),.ext (.t 9) 2⟩,
  ⟨none,(some 4),.mov (.t 10)⟩,
  ⟨none,(some 5),.mov (.t 11)⟩,
  ⟨none,(some 6),.mov (.t 12)⟩])
 .ret))
 ntmps:=13
 res:=[.tmp 4,.tmp 5,.tmp 6]
theorem zbv8:zsjc P Try.f43=some a43:=by kernel_rfl
def zyu0:ACode :=
 (.seq (.seq (.region false [⟨none,(some 18),.mov (.t 3)⟩])
 (.cond (.t 18) .skip
 (.exit 0)))
 (.block 1 (.seq (.region false [⟨none,(some 4),.mov (.k (.str []))⟩])
 (.seq (.region false [⟨none,(some 20),.mov (.t 0)⟩,
  ⟨none,(some 21),.call (.k (.fn (.func 43) [] [])) [(.t 20),(.k (.str [47]))]⟩,
  ⟨none,(some 19),.mov (.t 21)⟩,
  ⟨none,(some 22),.ext (.t 19) 0⟩,
  ⟨none,(some 23),.ext (.t 19) 1⟩,
  ⟨none,(some 24),.ext (.t 19) 2⟩,
  ⟨none,(some 4),.mov (.t 22)⟩,
  ⟨none,(some 0),.mov (.t 23)⟩,
  ⟨none,(some 3),.mov (.t 24)⟩])
 (.seq (.region false [⟨none,(some 25),.mov (.t 4)⟩,
  ⟨none,(some 26),.bin .eql (.t 25) (.k (.str []))⟩,
  ⟨none,(some 27),.mov (.t 26)⟩,
  ⟨(some (27,false)),(some 28),.mov (.t 4)⟩,
  ⟨(some (27,false)),(some 29),.bin .eql (.t 28) (.k (.str [46]))⟩,
  ⟨none,(some 30),.pick (.t 27) (.k (.bool true)) (.t 29)⟩,
  ⟨none,(some 31),.mov (.t 30)⟩,
  ⟨(some (31,false)),(some 32),.mov (.t 4)⟩,
  ⟨(some (31,false)),(some 33),.bin .eql (.t 32) (.k (.str [46,46]))⟩,
  ⟨none,(some 34),.pick (.t 31) (.k (.bool true)) (.t 33)⟩])
 (.cond (.t 34) (.seq (.region false [⟨none,(some 2),.mov (.k (.bool false))⟩])
 .ret)
 .skip))))))
def zm3v (x0 x3:DV) (h:List AObj):St:=⟨[x0,.junk,.junk,x3]++js 31,h⟩
def a23:AFn where
 code:=(.seq (.region false [⟨none,(some 2),.mov (.k (.bool false))⟩])
 (.seq (.seq (.region false [⟨none,(some 5),.mov (.t 0)⟩,
  ⟨none,(some 6),.lenStr (.t 5)⟩,
  ⟨none,(some 7),.bin .lss (.t 6) (.k (.int .i64 1))⟩,
  ⟨none,(some 8),.mov (.t 7)⟩,
  ⟨(some (8,false)),(some 9),.mov (.t 0)⟩,
  ⟨(some (8,false)),(some 10),.lenStr (.t 9)⟩,
  ⟨(some (8,false)),(some 11),.bin .gtr (.t 10) (.k (.int .i64 200))⟩,
  ⟨none,(some 12),.pick (.t 8) (.k (.bool true)) (.t 11)⟩,
  ⟨none,(some 13),.mov (.t 12)⟩,
  ⟨(some (13,false)),(some 14),.mov (.t 0)⟩,
  ⟨(some (13,false)),(some 15),.call (.k (.fn (.func 41) [] [])) [(.t 14),(.k (w8 0#8))]⟩,
  ⟨(some (13,false)),(some 16),.bin .geq (.t 15) (.k (.int .i64 0))⟩,
  ⟨none,(some 17),.pick (.t 13) (.k (.bool true)) (.t 16)⟩])
 (.cond (.t 17) (.seq (.region false [⟨none,(some 2),.mov (.k (.bool false))⟩])
 .ret)
 .skip))
 (.seq (.seq (.region false [⟨none,(some 3),.mov (.k (.bool true))⟩])
 (.block 0 (.loop zyu0)))
 (.seq (.region false [⟨none,(some 2),.mov (.k (.bool true))⟩])
 .ret))))
 ntmps:=35
 res:=[.tmp 2]
theorem ztyx:zsjc P Try.f23=some a23:=by kernel_rfl
def zihe:ACode :=
 (.seq (.seq (.region false [⟨none,(some 19),.mov (.t 5)⟩,
  ⟨none,(some 20),.mov (.t 0)⟩,
  ⟨none,(some 21),.lenStr (.t 20)⟩,
  ⟨none,(some 22),.bin .lss (.t 19) (.t 21)⟩])
 (.cond (.t 22) .skip
 (.exit 0)))
 (.seq (.block 1 (.block 2 (.seq (.region false [⟨none,(some 33),.mov (.t 0)⟩,
  ⟨none,(some 34),.mov (.t 5)⟩,
  ⟨none,(some 35),.idxStr (.t 33) (.t 34)⟩,
  ⟨none,(some 36),.bin .eql (.t 35) (.k (w8 92#8))⟩,
  ⟨none,(some 32),.mov (.t 36)⟩])
 (.cond (.t 32) (.seq (.region false [⟨none,(some 37),.mov (.t 5)⟩,
  ⟨none,(some 38),.bin .add (.t 37) (.k (.int .i64 1))⟩,
  ⟨none,(some 5),.mov (.t 38)⟩])
 (.seq (.seq (.region false [⟨none,(some 39),.mov (.t 5)⟩,
  ⟨none,(some 40),.mov (.t 0)⟩,
  ⟨none,(some 41),.lenStr (.t 40)⟩,
  ⟨none,(some 42),.bin .eql (.t 39) (.t 41)⟩])
 (.cond (.t 42) (.seq (.region false [⟨none,(some 2),.mov (.k .nils)⟩,
  ⟨none,(some 3),.mov (.k (.bool false))⟩])
 .ret)
 .skip))
 (.region false [⟨none,(some 43),.mov (.t 4)⟩,
  ⟨none,(some 44),.mov (.t 0)⟩,
  ⟨none,(some 45),.mov (.t 5)⟩,
  ⟨none,(some 46),.idxStr (.t 44) (.t 45)⟩,
  ⟨none,(some 47),.build [(.int .i64 0),(w8 0#8)] [(0,1,(.k (.int .i64 0))),(1,1,(.t 46))]⟩,
  ⟨none,(some 48),.bsl 2 1 [(.int .i64 0),(w8 0#8)] [(0,2,(.t 47))]⟩,
  ⟨none,(some 49),.app 2 16 (.t 43) (.t 48)⟩,
  ⟨none,(some 4),.mov (.t 49)⟩])))
 (.seq (.region false [⟨none,(some 51),.mov (.t 0)⟩,
  ⟨none,(some 52),.mov (.t 5)⟩,
  ⟨none,(some 53),.idxStr (.t 51) (.t 52)⟩,
  ⟨none,(some 54),.bin .eql (.t 53) (.k (w8 63#8))⟩,
  ⟨none,(some 50),.mov (.t 54)⟩])
 (.cond (.t 50) (.region false [⟨none,(some 55),.mov (.t 4)⟩,
  ⟨none,(some 56),.build [(.int .i64 0),(w8 0#8)] [(0,1,(.k (.int .i64 1)))]⟩,
  ⟨none,(some 57),.bsl 2 1 [(.int .i64 0),(w8 0#8)] [(0,2,(.t 56))]⟩,
  ⟨none,(some 58),.app 2 16 (.t 55) (.t 57)⟩,
  ⟨none,(some 4),.mov (.t 58)⟩])
 (.seq (.region false [⟨none,(some 60),.mov (.t 0)⟩,
  ⟨none,(some 61),.mov (.t 5)⟩,
  ⟨none,(some 62),.idxStr (.t 60) (.t 61)⟩,
  ⟨none,(some 63),.bin .eql (.t 62) (.k (w8 42#8))⟩,
  ⟨none,(some 64),.mov (.t 63)⟩,
  ⟨(some (64,true)),(some 65),.mov (.t 5)⟩,
  ⟨(some (64,true)),(some 66),.bin .add (.t 65) (.k (.int .i64 1))⟩,
  ⟨(some (64,true)),(some 67),.mov (.t 0)⟩,
  ⟨(some (64,true)),(some 68),.lenStr (.t 67)⟩,
  ⟨(some (64,true)),(some 69),.bin .lss (.t 66) (.t 68)⟩,
  ⟨none,(some 70),.pick (.t 64) (.t 69) (.k (.bool false))⟩,
  ⟨none,(some 71),.mov (.t 70)⟩,
  ⟨(some (71,true)),(some 72),.mov (.t 0)⟩,
  ⟨(some (71,true)),(some 73),.mov (.t 5)⟩,
  ⟨(some (71,true)),(some 74),.bin .add (.t 73) (.k (.int .i64 1))⟩,
  ⟨(some (71,true)),(some 75),.idxStr (.t 72) (.t 74)⟩,
  ⟨(some (71,true)),(some 76),.bin .eql (.t 75) (.k (w8 42#8))⟩,
  ⟨none,(some 77),.pick (.t 71) (.t 76) (.k (.bool false))⟩,
  ⟨none,(some 59),.mov (.t 77)⟩])
 (.cond (.t 59) (.seq (.region false [⟨none,(some 78),.mov (.t 5)⟩,
  ⟨none,(some 79),.bin .add (.t 78) (.k (.int .i64 1))⟩,
  ⟨none,(some 5),.mov (.t 79)⟩])
 (.region false [⟨none,(some 80),.mov (.t 4)⟩,
  ⟨none,(some 81),.build [(.int .i64 0),(w8 0#8)] [(0,1,(.k (.int .i64 3)))]⟩,
  ⟨none,(some 82),.bsl 2 1 [(.int .i64 0),(w8 0#8)] [(0,2,(.t 81))]⟩,
  ⟨none,(some 83),.app 2 16 (.t 80) (.t 82)⟩,
  ⟨none,(some 4),.mov (.t 83)⟩]))
 (.seq (.region false [⟨none,(some 85),.mov (.t 0)⟩,
  ⟨none,(some 86),.mov (.t 5)⟩,
  ⟨none,(some 87),.idxStr (.t 85) (.t 86)⟩,
  ⟨none,(some 88),.bin .eql (.t 87) (.k (w8 42#8))⟩,
  ⟨none,(some 84),.mov (.t 88)⟩])
 (.cond (.t 84) (.region false [⟨none,(some 89),.mov (.t 4)⟩,
  ⟨none,(some 90),.build [(.int .i64 0),(w8 0#8)] [(0,1,(.k (.int .i64 2)))]⟩,
  ⟨none,(some 91),.bsl 2 1 [(.int .i64 0),(w8 0#8)] [(0,2,(.t 90))]⟩,
  ⟨none,(some 92),.app 2 16 (.t 89) (.t 91)⟩,
  ⟨none,(some 4),.mov (.t 92)⟩])
 (.region false [⟨none,(some 25),.mov (.t 4)⟩,
  ⟨none,(some 26),.mov (.t 0)⟩,
  ⟨none,(some 27),.mov (.t 5)⟩,
  ⟨none,(some 28),.idxStr (.t 26) (.t 27)⟩,
  ⟨none,(some 29),.build [(.int .i64 0),(w8 0#8)] [(0,1,(.k (.int .i64 0))),(1,1,(.t 28))]⟩,
  ⟨none,(some 30),.bsl 2 1 [(.int .i64 0),(w8 0#8)] [(0,2,(.t 29))]⟩,
  ⟨none,(some 31),.app 2 16 (.t 25) (.t 30)⟩,
  ⟨none,(some 4),.mov (.t 31)⟩])))))))))))
 (.region false [⟨none,(some 23),.mov (.t 5)⟩,
  ⟨none,(some 24),.bin .add (.t 23) (.k (.int .i64 1))⟩,
  ⟨none,(some 5),.mov (.t 24)⟩])))
def z0ci (x0 x4 x5:DV) (h:List AObj):St:=⟨[x0,.junk,.junk,.junk,x4,x5]++js 88,h⟩
def a19:AFn where
 code:=(.seq (.region false [⟨none,(some 2),.mov (.k .nils)⟩,
  ⟨none,(some 3),.mov (.k (.bool false))⟩])
 (.seq (.seq (.region false [⟨none,(some 6),.mov (.t 0)⟩,
  ⟨none,(some 7),.lenStr (.t 6)⟩,
  ⟨none,(some 8),.bin .lss (.t 7) (.k (.int .i64 1))⟩,
  ⟨none,(some 9),.mov (.t 8)⟩,
  ⟨(some (9,false)),(some 10),.mov (.t 0)⟩,
  ⟨(some (9,false)),(some 11),.lenStr (.t 10)⟩,
  ⟨(some (9,false)),(some 12),.bin .gtr (.t 11) (.k (.int .i64 200))⟩,
  ⟨none,(some 13),.pick (.t 9) (.k (.bool true)) (.t 12)⟩,
  ⟨none,(some 14),.mov (.t 13)⟩,
  ⟨(some (14,false)),(some 15),.mov (.t 0)⟩,
  ⟨(some (14,false)),(some 16),.call (.k (.fn (.func 41) [] [])) [(.t 15),(.k (w8 0#8))]⟩,
  ⟨(some (14,false)),(some 17),.bin .geq (.t 16) (.k (.int .i64 0))⟩,
  ⟨none,(some 18),.pick (.t 14) (.k (.bool true)) (.t 17)⟩])
 (.cond (.t 18) (.seq (.region false [⟨none,(some 2),.mov (.k .nils)⟩,
  ⟨none,(some 3),.mov (.k (.bool false))⟩])
 .ret)
 .skip))
 (.seq (.region false [⟨none,(some 4),.mov (.k .nils)⟩])
 (.seq (.seq (.region false [⟨none,(some 5),.mov (.k (.int .i64 0))⟩])
 (.block 0 (.loop zihe)))
 (.seq (.region false [⟨none,(some 93),.mov (.t 4)⟩,
  ⟨none,(some 2),.mov (.t 93)⟩,
  ⟨none,(some 3),.mov (.k (.bool true))⟩])
 .ret)))))
 ntmps:=94
 res:=[.tmp 2,.tmp 3]
theorem zlqi:zsjc P Try.f19=some a19:=by kernel_rfl
def a11:AFn where
 code:=(.seq (.region false [⟨none,(some 2),.mov (.k (.bool false))⟩])
 (.seq (.region false [⟨none,(some 6),.mov (.t 0)⟩,
  ⟨none,(some 7),.call (.k (.fn (.func 19) [] [])) [(.t 6)]⟩,
  ⟨none,(some 5),.mov (.t 7)⟩,
  ⟨none,(some 8),.ext (.t 5) 0⟩,
  ⟨none,(some 9),.ext (.t 5) 1⟩,
  ⟨none,(some 3),.mov (.t 8)⟩,
  ⟨none,(some 4),.mov (.t 9)⟩])
 (.seq (.region false [⟨none,(some 10),.mov (.t 4)⟩,
  ⟨none,(some 2),.mov (.t 10)⟩])
 .ret)))
 ntmps:=11
 res:=[.tmp 2]
theorem zbwx:zsjc P Try.f11=some a11:=by kernel_rfl
def a24:AFn where
 code:=(.seq (.region false [⟨none,(some 1),.box (.t 0)⟩,
  ⟨none,(some 2),.mov (.k .nilf)⟩])
 (.seq (.seq (.region false [⟨none,(some 3),.fld 0 (.t 1)⟩,
  ⟨none,(some 4),.load 1 false (.t 3)⟩])
 (.block 0 (.seq (.region false [⟨none,(some 6),.bin .eql (.t 4) (.k (.int .i64 0))⟩,
  ⟨none,(some 5),.mov (.t 6)⟩])
 (.cond (.t 5) (.seq (.region false [⟨none,(some 7),.mkf (.func 44) [] [(.t 1)]⟩,
  ⟨none,(some 2),.mov (.t 7)⟩])
 .ret)
 (.seq (.region false [⟨none,(some 9),.bin .eql (.t 4) (.k (.int .i64 3))⟩,
  ⟨none,(some 8),.mov (.t 9)⟩])
 (.cond (.t 8) (.seq (.region false [⟨none,(some 2),.mov (.k (.fn (.func 45) [] []))⟩])
 .ret)
 .skip))))))
 (.seq (.region false [⟨none,(some 2),.mov (.k (.fn (.func 46) [] []))⟩])
 .ret)))
 ntmps:=10
 res:=[.tmp 2]
theorem zcoa:zsjc P Try.f24=some a24:=by kernel_rfl
def a44:AFn where
 code:=(.seq (.region false [⟨none,(some 3),.mov (.k (.bool false))⟩])
 (.seq (.region false [⟨none,(some 4),.mov (.t 0)⟩,
  ⟨none,(some 5),.fld 1 (.t 1)⟩,
  ⟨none,(some 6),.load 1 false (.t 5)⟩,
  ⟨none,(some 7),.bin .eql (.t 4) (.t 6)⟩,
  ⟨none,(some 3),.mov (.t 7)⟩])
 .ret))
 ntmps:=8
 res:=[.tmp 3]
theorem zeo7:zsjc P Try.f44=some a44:=by kernel_rfl
def a45:AFn where
 code:=(.seq (.region false [⟨none,(some 2),.mov (.k (.bool false))⟩])
 (.seq (.region false [⟨none,(some 2),.mov (.k (.bool true))⟩])
 .ret))
 ntmps:=3
 res:=[.tmp 2]
theorem z94d:zsjc P Try.f45=some a45:=by kernel_rfl
def a46:AFn where
 code:=(.seq (.region false [⟨none,(some 2),.mov (.k (.bool false))⟩])
 (.seq (.region false [⟨none,(some 3),.mov (.t 0)⟩,
  ⟨none,(some 4),.bin .neq (.t 3) (.k (w8 47#8))⟩,
  ⟨none,(some 2),.mov (.t 4)⟩])
 .ret))
 ntmps:=5
 res:=[.tmp 2]
theorem znv1:zsjc P Try.f46=some a46:=by kernel_rfl
def a25:AFn where
 code:=(.seq (.region false [⟨none,(some 1),.box (.t 0)⟩,
  ⟨none,(some 2),.mov (.k (.bool false))⟩])
 (.seq (.region false [⟨none,(some 3),.fld 0 (.t 1)⟩,
  ⟨none,(some 4),.load 1 false (.t 3)⟩,
  ⟨none,(some 5),.bin .eql (.t 4) (.k (.int .i64 2))⟩,
  ⟨none,(some 6),.mov (.t 5)⟩,
  ⟨(some (6,false)),(some 7),.fld 0 (.t 1)⟩,
  ⟨(some (6,false)),(some 8),.load 1 false (.t 7)⟩,
  ⟨(some (6,false)),(some 9),.bin .eql (.t 8) (.k (.int .i64 3))⟩,
  ⟨none,(some 10),.pick (.t 6) (.k (.bool true)) (.t 9)⟩,
  ⟨none,(some 2),.mov (.t 10)⟩])
 .ret))
 ntmps:=11
 res:=[.tmp 2]
theorem zgum:zsjc P Try.f25=some a25:=by kernel_rfl
def a9L1:ACode :=
 (.seq (.region false [⟨none,(some 55),.bin .lss (.t 54) (.t 53)⟩])
 (.seq (.cond (.t 55) .skip
 (.exit 2))
 (.seq (.block 3 (.seq (.region false [⟨none,(some 56),.mov (.t 54)⟩,
  ⟨none,(some 12),.mov (.t 56)⟩])
 (.block 4 (.seq (.region false [⟨none,(some 73),.load 2 true (.t 9)⟩,
  ⟨none,(some 74),.call (.k (.fn (.func 25) [] [])) [(.t 73)]⟩,
  ⟨none,(some 72),.mov (.t 74)⟩])
 (.cond (.t 72) (.region false [⟨none,(some 75),.mov (.t 11)⟩,
  ⟨none,(some 76),.mov (.t 12)⟩,
  ⟨none,(some 77),.bin .add (.t 76) (.k (.int .i64 1))⟩,
  ⟨none,(some 78),.mov (.t 7)⟩,
  ⟨none,(some 79),.mov (.t 12)⟩,
  ⟨none,(some 80),.bin .add (.t 79) (.k (.int .i64 1))⟩,
  ⟨none,(some 81),.idxS 1 (.t 78) (.t 80)⟩,
  ⟨none,(some 82),.load 1 false (.t 81)⟩,
  ⟨none,(some 83),.mov (.t 82)⟩,
  ⟨(some (83,false)),(some 84),.mov (.t 11)⟩,
  ⟨(some (83,false)),(some 85),.mov (.t 12)⟩,
  ⟨(some (83,false)),(some 86),.idxS 1 (.t 84) (.t 85)⟩,
  ⟨(some (83,false)),(some 87),.load 1 false (.t 86)⟩,
  ⟨(some (83,false)),(some 88),.mov (.t 87)⟩,
  ⟨(some (88,true)),(some 89),.mov (.t 10)⟩,
  ⟨(some (88,true)),(some 90),.mov (.t 1)⟩,
  ⟨(some (88,true)),(some 91),.mov (.t 12)⟩,
  ⟨(some (88,true)),(some 92),.idxStr (.t 90) (.t 91)⟩,
  ⟨(some (88,true)),(some 93),.call (.t 89) [(.t 92)]⟩,
  ⟨(some (83,false)),(some 94),.pick (.t 88) (.t 93) (.k (.bool false))⟩,
  ⟨none,(some 95),.pick (.t 83) (.k (.bool true)) (.t 94)⟩,
  ⟨none,(some 96),.idxS 1 (.t 75) (.t 77)⟩,
  ⟨none,none,.store 1 (.t 96) (.t 95)⟩])
 (.region false [⟨none,(some 57),.mov (.t 11)⟩,
  ⟨none,(some 58),.mov (.t 12)⟩,
  ⟨none,(some 59),.bin .add (.t 58) (.k (.int .i64 1))⟩,
  ⟨none,(some 60),.mov (.t 7)⟩,
  ⟨none,(some 61),.mov (.t 12)⟩,
  ⟨none,(some 62),.idxS 1 (.t 60) (.t 61)⟩,
  ⟨none,(some 63),.load 1 false (.t 62)⟩,
  ⟨none,(some 64),.mov (.t 63)⟩,
  ⟨(some (64,true)),(some 65),.mov (.t 10)⟩,
  ⟨(some (64,true)),(some 66),.mov (.t 1)⟩,
  ⟨(some (64,true)),(some 67),.mov (.t 12)⟩,
  ⟨(some (64,true)),(some 68),.idxStr (.t 66) (.t 67)⟩,
  ⟨(some (64,true)),(some 69),.call (.t 65) [(.t 68)]⟩,
  ⟨none,(some 70),.pick (.t 64) (.t 69) (.k (.bool false))⟩,
  ⟨none,(some 71),.idxS 1 (.t 57) (.t 59)⟩,
  ⟨none,none,.store 1 (.t 71) (.t 70)⟩]))))))
 (.region false [⟨none,(some 97),.bin .add (.t 54) (.k (.int .i64 1))⟩,
  ⟨none,(some 54),.mov (.t 97)⟩]))))
def a9S1 (x1 x7 x9 x10 x11 x31 x32 x33 x53 x54:DV) (h:List AObj):St:=⟨[.junk,x1]++js 5++[x7,.junk,x9,x10,x11]++js 19++[x31,x32,x33]++js 19++[x53,x54]++js 50,h⟩
def a9L0:ACode :=
 (.seq (.region false [⟨none,(some 34),.bin .lss (.t 33) (.t 32)⟩])
 (.seq (.cond (.t 34) .skip
 (.exit 0))
 (.seq (.block 1 (.seq (.region false [⟨none,(some 35),.idxS 2 (.t 31) (.t 33)⟩,
  ⟨none,(some 36),.load 2 true (.t 35)⟩,
  ⟨none,(some 9),.alloc [(.int .i64 0),(w8 0#8)]⟩,
  ⟨none,none,.store 2 (.t 9) (.t 36)⟩])
 (.seq (.region false [⟨none,(some 37),.load 2 true (.t 9)⟩,
  ⟨none,(some 38),.call (.k (.fn (.func 24) [] [])) [(.t 37)]⟩,
  ⟨none,(some 10),.mov (.t 38)⟩])
 (.seq (.region false [⟨none,(some 39),.mov (.t 1)⟩,
  ⟨none,(some 40),.lenStr (.t 39)⟩,
  ⟨none,(some 41),.bin .add (.t 40) (.k (.int .i64 1))⟩,
  ⟨none,(some 42),.mks 1 1 [(.bool false)] (.t 41) (.t 41)⟩,
  ⟨none,(some 11),.mov (.t 42)⟩])
 (.seq (.region false [⟨none,(some 43),.mov (.t 11)⟩,
  ⟨none,(some 44),.mov (.t 7)⟩,
  ⟨none,(some 45),.idxS 1 (.t 44) (.k (.int .i64 0))⟩,
  ⟨none,(some 46),.load 1 false (.t 45)⟩,
  ⟨none,(some 47),.mov (.t 46)⟩,
  ⟨(some (47,true)),(some 48),.load 2 true (.t 9)⟩,
  ⟨(some (47,true)),(some 49),.call (.k (.fn (.func 25) [] [])) [(.t 48)]⟩,
  ⟨none,(some 50),.pick (.t 47) (.t 49) (.k (.bool false))⟩,
  ⟨none,(some 51),.idxS 1 (.t 43) (.k (.int .i64 0))⟩,
  ⟨none,none,.store 1 (.t 51) (.t 50)⟩])
 (.seq (.seq (.region false [⟨none,(some 52),.mov (.t 1)⟩,
  ⟨none,(some 53),.lenStr (.t 52)⟩,
  ⟨none,(some 54),.mov (.k (.int .i64 0))⟩])
 (.block 2 (.loop a9L1)))
 (.region false [⟨none,(some 98),.mov (.t 11)⟩,
  ⟨none,(some 7),.mov (.t 98)⟩])))))))
 (.region false [⟨none,(some 99),.bin .add (.t 33) (.k (.int .i64 1))⟩,
  ⟨none,(some 33),.mov (.t 99)⟩]))))
def a9S0 (x1 x7 x31 x32 x33:DV) (h:List AObj):St:=⟨[.junk,x1]++js 5++[x7]++js 23++[x31,x32,x33]++js 71,h⟩
def a9:AFn where
 code:=(.seq (.region false [⟨none,(some 4),.mov (.k (.bool false))⟩])
 (.seq (.region false [⟨none,(some 14),.mov (.t 0)⟩,
  ⟨none,(some 15),.call (.k (.fn (.func 19) [] [])) [(.t 14)]⟩,
  ⟨none,(some 13),.mov (.t 15)⟩,
  ⟨none,(some 16),.ext (.t 13) 0⟩,
  ⟨none,(some 17),.ext (.t 13) 1⟩,
  ⟨none,(some 5),.mov (.t 16)⟩,
  ⟨none,(some 6),.mov (.t 17)⟩])
 (.seq (.seq (.region false [⟨none,(some 18),.mov (.t 6)⟩,
  ⟨none,(some 19),.un .not (.t 18)⟩,
  ⟨none,(some 20),.mov (.t 19)⟩,
  ⟨(some (20,false)),(some 21),.mov (.t 1)⟩,
  ⟨(some (20,false)),(some 22),.call (.k (.fn (.func 23) [] [])) [(.t 21)]⟩,
  ⟨(some (20,false)),(some 23),.un .not (.t 22)⟩,
  ⟨none,(some 24),.pick (.t 20) (.k (.bool true)) (.t 23)⟩])
 (.cond (.t 24) (.seq (.region false [⟨none,(some 4),.mov (.k (.bool false))⟩])
 .ret)
 .skip))
 (.seq (.region false [⟨none,(some 25),.mov (.t 1)⟩,
  ⟨none,(some 26),.lenStr (.t 25)⟩,
  ⟨none,(some 27),.bin .add (.t 26) (.k (.int .i64 1))⟩,
  ⟨none,(some 28),.mks 1 1 [(.bool false)] (.t 27) (.t 27)⟩,
  ⟨none,(some 7),.mov (.t 28)⟩])
 (.seq (.region false [⟨none,(some 29),.mov (.t 7)⟩,
  ⟨none,(some 30),.idxS 1 (.t 29) (.k (.int .i64 0))⟩,
  ⟨none,none,.store 1 (.t 30) (.k (.bool true))⟩])
 (.seq (.seq (.region false [⟨none,(some 31),.mov (.t 5)⟩,
  ⟨none,(some 32),.len (.t 31)⟩,
  ⟨none,(some 33),.mov (.k (.int .i64 0))⟩])
 (.block 0 (.loop a9L0)))
 (.seq (.region false [⟨none,(some 100),.mov (.t 7)⟩,
  ⟨none,(some 101),.mov (.t 1)⟩,
  ⟨none,(some 102),.lenStr (.t 101)⟩,
  ⟨none,(some 103),.idxS 1 (.t 100) (.t 102)⟩,
  ⟨none,(some 104),.load 1 false (.t 103)⟩,
  ⟨none,(some 4),.mov (.t 104)⟩])
 .ret)))))))
 ntmps:=105
 res:=[.tmp 4]
theorem z528:zsjc P Try.f9=some a9:=by kernel_rfl
def z382:ACode :=
 (.seq (.seq (.region false [⟨none,(some 8),.mov (.t 4)⟩,
  ⟨none,(some 9),.mov (.t 0)⟩,
  ⟨none,(some 10),.lenStr (.t 9)⟩,
  ⟨none,(some 11),.bin .lss (.t 8) (.t 10)⟩])
 (.cond (.t 11) .skip
 (.exit 0)))
 (.seq (.block 1 (.seq (.seq (.region false [⟨none,(some 14),.mov (.t 0)⟩,
  ⟨none,(some 15),.mov (.t 4)⟩,
  ⟨none,(some 16),.idxStr (.t 14) (.t 15)⟩,
  ⟨none,(some 17),.bin .eql (.t 16) (.k (w8 92#8))⟩,
  ⟨none,(some 18),.mov (.t 17)⟩,
  ⟨(some (18,false)),(some 19),.mov (.t 0)⟩,
  ⟨(some (18,false)),(some 20),.mov (.t 4)⟩,
  ⟨(some (18,false)),(some 21),.idxStr (.t 19) (.t 20)⟩,
  ⟨(some (18,false)),(some 22),.bin .eql (.t 21) (.k (w8 42#8))⟩,
  ⟨none,(some 23),.pick (.t 18) (.k (.bool true)) (.t 22)⟩,
  ⟨none,(some 24),.mov (.t 23)⟩,
  ⟨(some (24,false)),(some 25),.mov (.t 0)⟩,
  ⟨(some (24,false)),(some 26),.mov (.t 4)⟩,
  ⟨(some (24,false)),(some 27),.idxStr (.t 25) (.t 26)⟩,
  ⟨(some (24,false)),(some 28),.bin .eql (.t 27) (.k (w8 63#8))⟩,
  ⟨none,(some 29),.pick (.t 24) (.k (.bool true)) (.t 28)⟩])
 (.cond (.t 29) (.region false [⟨none,(some 30),.mov (.t 3)⟩,
  ⟨none,(some 31),.bsl 1 1 [(w8 0#8)] [(0,1,(.k (w8 92#8)))]⟩,
  ⟨none,(some 32),.app 1 1 (.t 30) (.t 31)⟩,
  ⟨none,(some 3),.mov (.t 32)⟩])
 .skip))
 (.region false [⟨none,(some 33),.mov (.t 3)⟩,
  ⟨none,(some 34),.mov (.t 0)⟩,
  ⟨none,(some 35),.mov (.t 4)⟩,
  ⟨none,(some 36),.idxStr (.t 34) (.t 35)⟩,
  ⟨none,(some 37),.bsl 1 1 [(w8 0#8)] [(0,1,(.t 36))]⟩,
  ⟨none,(some 38),.app 1 1 (.t 33) (.t 37)⟩,
  ⟨none,(some 3),.mov (.t 38)⟩])))
 (.region false [⟨none,(some 12),.mov (.t 4)⟩,
  ⟨none,(some 13),.bin .add (.t 12) (.k (.int .i64 1))⟩,
  ⟨none,(some 4),.mov (.t 13)⟩])))
def z9o7 (x0 x3 x4:DV) (h:List AObj):St:=⟨[x0,.junk,.junk,x3,x4]++js 36,h⟩
def a10:AFn where
 code:=(.seq (.region false [⟨none,(some 2),.mov (.k (.str []))⟩])
 (.seq (.seq (.region false [⟨none,(some 5),.mov (.t 0)⟩,
  ⟨none,(some 6),.call (.k (.fn (.func 23) [] [])) [(.t 5)]⟩,
  ⟨none,(some 7),.un .not (.t 6)⟩])
 (.cond (.t 7) (.seq (.region false [⟨none,(some 2),.mov (.k (.str []))⟩])
 .ret)
 .skip))
 (.seq (.region false [⟨none,(some 3),.mov (.k .nils)⟩])
 (.seq (.seq (.region false [⟨none,(some 4),.mov (.k (.int .i64 0))⟩])
 (.block 0 (.loop z382)))
 (.seq (.region false [⟨none,(some 39),.mov (.t 3)⟩,
  ⟨none,(some 40),.cbs (.t 39)⟩,
  ⟨none,(some 2),.mov (.t 40)⟩])
 .ret)))))
 ntmps:=41
 res:=[.tmp 2]
theorem z1ee:zsjc P Try.f10=some a10:=by kernel_rfl
def a12:AFn where
 code:=(.seq (.region false [⟨none,(some 0),.mov (.k (.bool false))⟩])
 (.seq (.region false [⟨none,(some 1),.call (.k (.fn (.func 9) [] [])) [(.k (.str [115,114,99,47,42,46,99])),(.k (.str [115,114,99,47,97,46,99]))]⟩,
  ⟨none,(some 2),.mov (.t 1)⟩,
  ⟨(some (2,true)),(some 3),.call (.k (.fn (.func 9) [] [])) [(.k (.str [115,114,99,47,42,46,99])),(.k (.str [115,114,99,47,120,47,97,46,99]))]⟩,
  ⟨(some (2,true)),(some 4),.un .not (.t 3)⟩,
  ⟨none,(some 5),.pick (.t 2) (.t 4) (.k (.bool false))⟩,
  ⟨none,(some 6),.mov (.t 5)⟩,
  ⟨(some (6,true)),(some 7),.call (.k (.fn (.func 23) [] [])) [(.k (.str [97,47,98]))]⟩,
  ⟨none,(some 8),.pick (.t 6) (.t 7) (.k (.bool false))⟩,
  ⟨none,(some 0),.mov (.t 8)⟩])
 .ret))
 ntmps:=9
 res:=[.tmp 0]
theorem zqkh:zsjc P Try.f12=some a12:=by kernel_rfl
end
section
set_option linter.unusedSimpArgs false
set_option linter.unusedVariables false
open Go Go.Am
def a20:AFn where
 code:=(.seq (.region false [⟨none,(some 6),.box (.t 2)⟩,
  ⟨none,(some 7),.box (.t 3)⟩,
  ⟨none,(some 8),.mov (.k .nils)⟩])
 (.seq (.seq (.region true [⟨none,(some 12),.mov (.t 0)⟩,
  ⟨none,(some 13),.nilc (.t 12)⟩,
  ⟨none,(some 14),.fld 2 (.t 13)⟩,
  ⟨none,(some 15),.load 1 false (.t 14)⟩,
  ⟨none,(some 16),.load 3 true (.t 6)⟩,
  ⟨none,(some 17),.mlk true ((.agg [(.int .i64 0),(.int .i64 0),(.int .i64 0),(w8 0#8)])) (.t 15) (.t 16)⟩,
  ⟨none,(some 11),.mov (.t 17)⟩,
  ⟨none,(some 18),.ext (.t 11) 0⟩,
  ⟨none,(some 19),.ext (.t 11) 1⟩,
  ⟨none,(some 9),.alloc [(.int .i64 0),(.int .i64 0),(.int .i64 0),(w8 0#8)]⟩,
  ⟨none,none,.store 4 (.t 9) (.t 18)⟩,
  ⟨none,(some 10),.mov (.t 19)⟩])
 (.seq (.region false [⟨none,(some 20),.mov (.t 10)⟩])
 (.cond (.t 20) (.seq (.region false [⟨none,(some 21),.mov (.t 1)⟩,
  ⟨none,(some 8),.mov (.t 21)⟩])
 .ret)
 .skip)))
 (.seq (.region true [⟨none,(some 22),.mov (.t 0)⟩,
  ⟨none,(some 23),.nilc (.t 22)⟩,
  ⟨none,(some 24),.fld 2 (.t 23)⟩,
  ⟨none,(some 25),.load 1 false (.t 24)⟩,
  ⟨none,(some 26),.load 3 true (.t 6)⟩,
  ⟨none,(some 27),.load 4 true (.t 7)⟩,
  ⟨none,none,.mst (.t 25) (.t 26) (.t 27)⟩])
 (.seq (.region false [⟨none,(some 28),.mov (.t 1)⟩,
  ⟨none,(some 29),.load 3 true (.t 6)⟩,
  ⟨none,(some 30),.bsl 3 1 [(.int .i64 0),(.int .i64 0),(.int .i64 0)] [(0,3,(.t 29))]⟩,
  ⟨none,(some 31),.app 3 24 (.t 28) (.t 30)⟩,
  ⟨none,(some 1),.mov (.t 31)⟩])
 (.seq (.seq (.region true [⟨none,(some 32),.fld 0 (.t 6)⟩,
  ⟨none,(some 33),.load 1 false (.t 32)⟩,
  ⟨none,(some 34),.mov (.t 0)⟩,
  ⟨none,(some 35),.nilc (.t 34)⟩,
  ⟨none,(some 36),.fld 0 (.t 35)⟩,
  ⟨none,(some 37),.load 1 false (.t 36)⟩,
  ⟨none,(some 38),.len (.t 37)⟩,
  ⟨none,(some 39),.bin .lss (.t 33) (.t 38)⟩,
  ⟨none,(some 40),.mov (.t 39)⟩,
  ⟨(some (40,true)),(some 41),.mov (.t 0)⟩,
  ⟨(some (40,true)),(some 42),.nilc (.t 41)⟩,
  ⟨(some (40,true)),(some 43),.fld 0 (.t 42)⟩,
  ⟨(some (40,true)),(some 44),.load 1 false (.t 43)⟩,
  ⟨(some (40,true)),(some 45),.fld 0 (.t 6)⟩,
  ⟨(some (40,true)),(some 46),.load 1 false (.t 45)⟩,
  ⟨(some (40,true)),(some 47),.idxS 2 (.t 44) (.t 46)⟩,
  ⟨(some (40,true)),(some 48),.load 2 true (.t 47)⟩,
  ⟨(some (40,true)),(some 49),.callN (.k (.fn (.func 25) [] [])) [(.t 48)]⟩,
  ⟨none,(some 50),.pick (.t 40) (.t 49) (.k (.bool false))⟩])
 (.cond (.t 50) (.region false [⟨none,(some 51),.mov (.t 0)⟩,
  ⟨none,(some 52),.mov (.t 1)⟩,
  ⟨none,(some 53),.fld 0 (.t 6)⟩,
  ⟨none,(some 54),.load 1 false (.t 53)⟩,
  ⟨none,(some 55),.bin .add (.t 54) (.k (.int .i64 1))⟩,
  ⟨none,(some 56),.fld 1 (.t 6)⟩,
  ⟨none,(some 57),.load 1 false (.t 56)⟩,
  ⟨none,(some 58),.fld 2 (.t 6)⟩,
  ⟨none,(some 59),.load 1 false (.t 58)⟩,
  ⟨none,(some 60),.build [(.int .i64 0),(.int .i64 0),(.int .i64 0)] [(0,1,(.t 55)),(1,1,(.t 57)),(2,1,(.t 59))]⟩,
  ⟨none,(some 61),.load 3 true (.t 6)⟩,
  ⟨none,(some 62),.build [(.int .i64 0),(.int .i64 0),(.int .i64 0),(w8 0#8)] [(0,3,(.t 61))]⟩,
  ⟨none,(some 63),.call (.k (.fn (.func 20) [] [])) [(.t 51),(.t 52),(.t 60),(.t 62)]⟩,
  ⟨none,(some 1),.mov (.t 63)⟩])
 .skip))
 (.seq (.seq (.region true [⟨none,(some 64),.fld 1 (.t 6)⟩,
  ⟨none,(some 65),.load 1 false (.t 64)⟩,
  ⟨none,(some 66),.mov (.t 0)⟩,
  ⟨none,(some 67),.nilc (.t 66)⟩,
  ⟨none,(some 68),.fld 1 (.t 67)⟩,
  ⟨none,(some 69),.load 1 false (.t 68)⟩,
  ⟨none,(some 70),.len (.t 69)⟩,
  ⟨none,(some 71),.bin .lss (.t 65) (.t 70)⟩,
  ⟨none,(some 72),.mov (.t 71)⟩,
  ⟨(some (72,true)),(some 73),.mov (.t 0)⟩,
  ⟨(some (72,true)),(some 74),.nilc (.t 73)⟩,
  ⟨(some (72,true)),(some 75),.fld 1 (.t 74)⟩,
  ⟨(some (72,true)),(some 76),.load 1 false (.t 75)⟩,
  ⟨(some (72,true)),(some 77),.fld 1 (.t 6)⟩,
  ⟨(some (72,true)),(some 78),.load 1 false (.t 77)⟩,
  ⟨(some (72,true)),(some 79),.idxS 2 (.t 76) (.t 78)⟩,
  ⟨(some (72,true)),(some 80),.load 2 true (.t 79)⟩,
  ⟨(some (72,true)),(some 81),.callN (.k (.fn (.func 25) [] [])) [(.t 80)]⟩,
  ⟨none,(some 82),.pick (.t 72) (.t 81) (.k (.bool false))⟩])
 (.cond (.t 82) (.region false [⟨none,(some 83),.mov (.t 0)⟩,
  ⟨none,(some 84),.mov (.t 1)⟩,
  ⟨none,(some 85),.fld 0 (.t 6)⟩,
  ⟨none,(some 86),.load 1 false (.t 85)⟩,
  ⟨none,(some 87),.fld 1 (.t 6)⟩,
  ⟨none,(some 88),.load 1 false (.t 87)⟩,
  ⟨none,(some 89),.bin .add (.t 88) (.k (.int .i64 1))⟩,
  ⟨none,(some 90),.fld 2 (.t 6)⟩,
  ⟨none,(some 91),.load 1 false (.t 90)⟩,
  ⟨none,(some 92),.build [(.int .i64 0),(.int .i64 0),(.int .i64 0)] [(0,1,(.t 86)),(1,1,(.t 89)),(2,1,(.t 91))]⟩,
  ⟨none,(some 93),.load 3 true (.t 6)⟩,
  ⟨none,(some 94),.build [(.int .i64 0),(.int .i64 0),(.int .i64 0),(w8 0#8)] [(0,3,(.t 93))]⟩,
  ⟨none,(some 95),.call (.k (.fn (.func 20) [] [])) [(.t 83),(.t 84),(.t 92),(.t 94)]⟩,
  ⟨none,(some 1),.mov (.t 95)⟩])
 .skip))
 (.seq (.region false [⟨none,(some 96),.mov (.t 1)⟩,
  ⟨none,(some 8),.mov (.t 96)⟩])
 .ret)))))))
 ntmps:=97
 res:=[.tmp 8]
theorem zfgm:zsjc P Try.f20=some a20:=by kernel_rfl
def a42:AFn where
 code:=(.seq (.region false [⟨none,(some 4),.mov (.k (.int .i64 0))⟩,
  ⟨none,(some 5),.mov (.k (.bool false))⟩])
 (.seq (.block 0 (.seq (.region false [⟨none,(some 7),.mov (.t 1)⟩,
  ⟨none,(some 8),.bin .eql (.t 7) (.k (w8 47#8))⟩,
  ⟨none,(some 6),.mov (.t 8)⟩])
 (.cond (.t 6) (.seq (.region false [⟨none,(some 9),.mov (.t 0)⟩,
  ⟨none,(some 10),.bin .eql (.t 9) (.k (.int .i64 3))⟩,
  ⟨none,(some 4),.mov (.k (.int .i64 0))⟩,
  ⟨none,(some 5),.mov (.t 10)⟩])
 .ret)
 (.seq (.region false [⟨none,(some 12),.mov (.t 1)⟩,
  ⟨none,(some 13),.bin .eql (.t 12) (.k (w8 46#8))⟩,
  ⟨none,(some 14),.mov (.t 13)⟩,
  ⟨(some (14,true)),(some 15),.mov (.t 0)⟩,
  ⟨(some (14,true)),(some 16),.bin .neq (.t 15) (.k (.int .i64 3))⟩,
  ⟨none,(some 17),.pick (.t 14) (.t 16) (.k (.bool false))⟩,
  ⟨none,(some 11),.mov (.t 17)⟩])
 (.cond (.t 11) (.seq (.region false [⟨none,(some 18),.mov (.t 0)⟩,
  ⟨none,(some 19),.bin .add (.t 18) (.k (.int .i64 1))⟩,
  ⟨none,(some 4),.mov (.t 19)⟩,
  ⟨none,(some 5),.mov (.k (.bool true))⟩])
 .ret)
 .skip)))))
 (.seq (.region false [⟨none,(some 4),.mov (.k (.int .i64 3))⟩,
  ⟨none,(some 5),.mov (.k (.bool true))⟩])
 .ret)))
 ntmps:=20
 res:=[.tmp 4,.tmp 5]
theorem zl17:zsjc P Try.f42=some a42:=by kernel_rfl
def zved:ACode :=
 (.seq (.region false [⟨none,(some 66),.bin .lss (.t 65) (.t 64)⟩])
 (.seq (.cond (.t 66) .skip
 (.exit 0))
 (.seq (.block 1 (.seq (.region false [⟨none,(some 67),.idxS 1 (.t 63) (.t 65)⟩,
  ⟨none,(some 68),.load 1 false (.t 67)⟩,
  ⟨none,(some 11),.mov (.t 68)⟩])
 (.seq (.region false [⟨none,(some 70),.fld 2 (.t 5)⟩,
  ⟨none,(some 71),.load 1 false (.t 70)⟩,
  ⟨none,(some 72),.mov (.t 11)⟩,
  ⟨none,(some 73),.call (.k (.fn (.func 42) [] [])) [(.t 71),(.t 72)]⟩,
  ⟨none,(some 69),.mov (.t 73)⟩,
  ⟨none,(some 74),.ext (.t 69) 0⟩,
  ⟨none,(some 75),.ext (.t 69) 1⟩,
  ⟨none,(some 12),.mov (.t 74)⟩,
  ⟨none,(some 13),.mov (.t 75)⟩])
 (.seq (.seq (.region false [⟨none,(some 76),.mov (.t 13)⟩,
  ⟨none,(some 77),.un .not (.t 76)⟩,
  ⟨none,(some 78),.mov (.t 77)⟩,
  ⟨(some (78,false)),(some 79),.load 2 true (.t 7)⟩,
  ⟨(some (78,false)),(some 80),.call (.k (.fn (.func 24) [] [])) [(.t 79)]⟩,
  ⟨(some (78,false)),(some 81),.mov (.t 11)⟩,
  ⟨(some (78,false)),(some 82),.call (.t 80) [(.t 81)]⟩,
  ⟨(some (78,false)),(some 83),.un .not (.t 82)⟩,
  ⟨none,(some 84),.pick (.t 78) (.k (.bool true)) (.t 83)⟩,
  ⟨none,(some 85),.mov (.t 84)⟩,
  ⟨(some (85,false)),(some 86),.load 2 true (.t 8)⟩,
  ⟨(some (85,false)),(some 87),.call (.k (.fn (.func 24) [] [])) [(.t 86)]⟩,
  ⟨(some (85,false)),(some 88),.mov (.t 11)⟩,
  ⟨(some (85,false)),(some 89),.call (.t 87) [(.t 88)]⟩,
  ⟨(some (85,false)),(some 90),.un .not (.t 89)⟩,
  ⟨none,(some 91),.pick (.t 85) (.k (.bool true)) (.t 90)⟩])
 (.cond (.t 91) (.exit 1)
 .skip))
 (.seq (.region false [⟨none,(some 92),.fld 0 (.t 5)⟩,
  ⟨none,(some 93),.load 1 false (.t 92)⟩,
  ⟨none,(some 94),.fld 1 (.t 5)⟩,
  ⟨none,(some 95),.load 1 false (.t 94)⟩,
  ⟨none,(some 96),.mov (.t 12)⟩,
  ⟨none,(some 97),.build [(.int .i64 0),(.int .i64 0),(.int .i64 0)] [(0,1,(.t 93)),(1,1,(.t 95)),(2,1,(.t 96))]⟩,
  ⟨none,(some 14),.alloc [(.int .i64 0),(.int .i64 0),(.int .i64 0)]⟩,
  ⟨none,none,.store 3 (.t 14) (.t 97)⟩])
 (.seq (.seq (.region false [⟨none,(some 98),.load 2 true (.t 7)⟩,
  ⟨none,(some 99),.call (.k (.fn (.func 25) [] [])) [(.t 98)]⟩,
  ⟨none,(some 100),.un .not (.t 99)⟩])
 (.cond (.t 100) (.region false [⟨none,(some 101),.fld 0 (.t 14)⟩,
  ⟨none,(some 102),.load 1 false (.t 101)⟩,
  ⟨none,(some 103),.bin .add (.t 102) (.k (.int .i64 1))⟩,
  ⟨none,(some 104),.fld 0 (.t 14)⟩,
  ⟨none,none,.store 1 (.t 104) (.t 103)⟩])
 .skip))
 (.seq (.seq (.region false [⟨none,(some 105),.load 2 true (.t 8)⟩,
  ⟨none,(some 106),.call (.k (.fn (.func 25) [] [])) [(.t 105)]⟩,
  ⟨none,(some 107),.un .not (.t 106)⟩])
 (.cond (.t 107) (.region false [⟨none,(some 108),.fld 1 (.t 14)⟩,
  ⟨none,(some 109),.load 1 false (.t 108)⟩,
  ⟨none,(some 110),.bin .add (.t 109) (.k (.int .i64 1))⟩,
  ⟨none,(some 111),.fld 1 (.t 14)⟩,
  ⟨none,none,.store 1 (.t 111) (.t 110)⟩])
 .skip))
 (.region false [⟨none,(some 112),.mov (.t 0)⟩,
  ⟨none,(some 113),.mov (.t 1)⟩,
  ⟨none,(some 114),.load 3 true (.t 14)⟩,
  ⟨none,(some 115),.load 3 true (.t 5)⟩,
  ⟨none,(some 116),.mov (.t 11)⟩,
  ⟨none,(some 117),.build [(.int .i64 0),(.int .i64 0),(.int .i64 0),(w8 0#8)] [(0,3,(.t 115)),(3,1,(.t 116))]⟩,
  ⟨none,(some 118),.call (.k (.fn (.func 20) [] [])) [(.t 112),(.t 113),(.t 114),(.t 117)]⟩,
  ⟨none,(some 1),.mov (.t 118)⟩]))))))))
 (.region false [⟨none,(some 119),.bin .add (.t 65) (.k (.int .i64 1))⟩,
  ⟨none,(some 65),.mov (.t 119)⟩]))))
def z38d (x0 x1 x5 x7 x8 x63 x64 x65:DV) (h:List AObj):St:=⟨[x0,x1,.junk,.junk,.junk,x5,.junk,x7,x8]++js 54++[x63,x64,x65]++js 55,h⟩
def a22:AFn where
 code:=(.seq (.region false [⟨none,(some 5),.box (.t 2)⟩,
  ⟨none,(some 6),.mov (.k .nils)⟩])
 (.seq (.seq (.region true [⟨none,(some 15),.fld 0 (.t 5)⟩,
  ⟨none,(some 16),.load 1 false (.t 15)⟩,
  ⟨none,(some 17),.mov (.t 0)⟩,
  ⟨none,(some 18),.nilc (.t 17)⟩,
  ⟨none,(some 19),.fld 0 (.t 18)⟩,
  ⟨none,(some 20),.load 1 false (.t 19)⟩,
  ⟨none,(some 21),.len (.t 20)⟩,
  ⟨none,(some 22),.bin .eql (.t 16) (.t 21)⟩,
  ⟨none,(some 23),.mov (.t 22)⟩,
  ⟨(some (23,false)),(some 24),.fld 1 (.t 5)⟩,
  ⟨(some (23,false)),(some 25),.load 1 false (.t 24)⟩,
  ⟨(some (23,false)),(some 26),.mov (.t 0)⟩,
  ⟨(some (23,false)),(some 27),.nilc (.t 26)⟩,
  ⟨(some (23,false)),(some 28),.fld 1 (.t 27)⟩,
  ⟨(some (23,false)),(some 29),.load 1 false (.t 28)⟩,
  ⟨(some (23,false)),(some 30),.len (.t 29)⟩,
  ⟨(some (23,false)),(some 31),.bin .eql (.t 25) (.t 30)⟩,
  ⟨none,(some 32),.pick (.t 23) (.k (.bool true)) (.t 31)⟩])
 (.cond (.t 32) (.seq (.region false [⟨none,(some 33),.mov (.t 1)⟩,
  ⟨none,(some 6),.mov (.t 33)⟩])
 .ret)
 .skip))
 (.seq (.region true [⟨none,(some 34),.mov (.t 0)⟩,
  ⟨none,(some 35),.nilc (.t 34)⟩,
  ⟨none,(some 36),.fld 0 (.t 35)⟩,
  ⟨none,(some 37),.load 1 false (.t 36)⟩,
  ⟨none,(some 38),.fld 0 (.t 5)⟩,
  ⟨none,(some 39),.load 1 false (.t 38)⟩,
  ⟨none,(some 40),.idxS 2 (.t 37) (.t 39)⟩,
  ⟨none,(some 41),.load 2 true (.t 40)⟩,
  ⟨none,(some 42),.mov (.t 0)⟩,
  ⟨none,(some 43),.nilc (.t 42)⟩,
  ⟨none,(some 44),.fld 1 (.t 43)⟩,
  ⟨none,(some 45),.load 1 false (.t 44)⟩,
  ⟨none,(some 46),.fld 1 (.t 5)⟩,
  ⟨none,(some 47),.load 1 false (.t 46)⟩,
  ⟨none,(some 48),.idxS 2 (.t 45) (.t 47)⟩,
  ⟨none,(some 49),.load 2 true (.t 48)⟩,
  ⟨none,(some 7),.alloc [(.int .i64 0),(w8 0#8)]⟩,
  ⟨none,(some 8),.alloc [(.int .i64 0),(w8 0#8)]⟩,
  ⟨none,none,.store 2 (.t 7) (.t 41)⟩,
  ⟨none,none,.store 2 (.t 8) (.t 49)⟩,
  ⟨none,none,.apart (.t 42) (.t 7)⟩,
  ⟨none,none,.apart (.t 43) (.t 7)⟩,
  ⟨none,none,.apart (.t 44) (.t 7)⟩,
  ⟨none,none,.apart (.t 5) (.t 7)⟩,
  ⟨none,none,.apart (.t 46) (.t 7)⟩,
  ⟨none,none,.apart (.t 45) (.t 7)⟩,
  ⟨none,none,.apart (.t 48) (.t 7)⟩])
 (.seq (.region false [⟨none,(some 50),.bsl 1 2 [(w8 0#8)] [(0,1,(.k (w8 97#8))),(1,1,(.k (w8 47#8)))]⟩,
  ⟨none,(some 9),.mov (.t 50)⟩])
 (.seq (.seq (.region false [⟨none,(some 51),.fld 0 (.t 7)⟩,
  ⟨none,(some 52),.load 1 false (.t 51)⟩,
  ⟨none,(some 53),.bin .eql (.t 52) (.k (.int .i64 0))⟩])
 (.cond (.t 53) (.region false [⟨none,(some 54),.fld 1 (.t 7)⟩,
  ⟨none,(some 55),.load 1 false (.t 54)⟩,
  ⟨none,(some 56),.bsl 1 1 [(w8 0#8)] [(0,1,(.t 55))]⟩,
  ⟨none,(some 9),.mov (.t 56)⟩])
 (.seq (.region false [⟨none,(some 57),.fld 0 (.t 8)⟩,
  ⟨none,(some 58),.load 1 false (.t 57)⟩,
  ⟨none,(some 59),.bin .eql (.t 58) (.k (.int .i64 0))⟩])
 (.cond (.t 59) (.region false [⟨none,(some 60),.fld 1 (.t 8)⟩,
  ⟨none,(some 61),.load 1 false (.t 60)⟩,
  ⟨none,(some 62),.bsl 1 1 [(w8 0#8)] [(0,1,(.t 61))]⟩,
  ⟨none,(some 9),.mov (.t 62)⟩])
 .skip))))
 (.seq (.seq (.region false [⟨none,(some 63),.mov (.t 9)⟩,
  ⟨none,(some 64),.len (.t 63)⟩,
  ⟨none,(some 65),.mov (.k (.int .i64 0))⟩])
 (.block 0 (.loop zved)))
 (.seq (.region false [⟨none,(some 120),.mov (.t 1)⟩,
  ⟨none,(some 6),.mov (.t 120)⟩])
 .ret)))))))
 ntmps:=121
 res:=[.tmp 6]
theorem zi98:zsjc P Try.f22=some a22:=by kernel_rfl
def zkw5:ACode :=
 (.seq (.seq (.region false [⟨none,(some 11),.load 3 true (.t 3)⟩,
  ⟨none,(some 12),.load 3 true (.t 6)⟩,
  ⟨none,(some 13),.eqa true [(3,0)] (.t 11) (.t 12)⟩])
 (.cond (.t 13) .skip
 (.exit 0)))
 (.seq (.block 1 (.seq (.region true [⟨none,(some 14),.mov (.t 0)⟩,
  ⟨none,(some 15),.nilc (.t 14)⟩,
  ⟨none,(some 16),.fld 2 (.t 15)⟩,
  ⟨none,(some 17),.load 1 false (.t 16)⟩,
  ⟨none,(some 18),.load 3 true (.t 3)⟩,
  ⟨none,(some 19),.mlk false ((.agg [(.int .i64 0),(.int .i64 0),(.int .i64 0),(w8 0#8)])) (.t 17) (.t 18)⟩,
  ⟨none,(some 7),.alloc [(.int .i64 0),(.int .i64 0),(.int .i64 0),(w8 0#8)]⟩,
  ⟨none,none,.store 4 (.t 7) (.t 19)⟩])
 (.seq (.seq (.region false [⟨none,(some 20),.fld 3 (.t 7)⟩,
  ⟨none,(some 21),.load 1 false (.t 20)⟩,
  ⟨none,(some 22),.bin .neq (.t 21) (.k (w8 0#8))⟩])
 (.cond (.t 22) (.region false [⟨none,(some 23),.mov (.t 5)⟩,
  ⟨none,(some 24),.fld 3 (.t 7)⟩,
  ⟨none,(some 25),.load 1 false (.t 24)⟩,
  ⟨none,(some 26),.bsl 1 1 [(w8 0#8)] [(0,1,(.t 25))]⟩,
  ⟨none,(some 27),.app 1 1 (.t 23) (.t 26)⟩,
  ⟨none,(some 5),.mov (.t 27)⟩])
 .skip))
 (.region false [⟨none,(some 28),.fld 0 (.t 7)⟩,
  ⟨none,(some 29),.load 3 true (.t 28)⟩,
  ⟨none,none,.store 3 (.t 3) (.t 29)⟩]))))
 (.seq (.region false [⟨none,(some 30),.load 3 true (.t 6)⟩])
 (.region false [⟨none,(some 6),.alloc [(.int .i64 0),(.int .i64 0),(.int .i64 0)]⟩,
  ⟨none,none,.store 3 (.t 6) (.t 30)⟩]))))
def zepj (x0 x3 x5 x6:DV) (h:List AObj):St:=⟨[x0,.junk,.junk,x3,.junk,x5,x6]++js 50,h⟩
def zf5r:ACode :=
 (.seq (.seq (.region false [⟨none,(some 34),.mov (.t 8)⟩,
  ⟨none,(some 35),.mov (.t 9)⟩,
  ⟨none,(some 36),.bin .lss (.t 34) (.t 35)⟩])
 (.cond (.t 36) .skip
 (.exit 2)))
 (.seq (.block 3 (.region true [⟨none,(some 41),.mov (.t 5)⟩,
  ⟨none,(some 42),.mov (.t 8)⟩,
  ⟨none,(some 43),.mov (.t 5)⟩,
  ⟨none,(some 44),.mov (.t 9)⟩,
  ⟨none,(some 45),.mov (.t 5)⟩,
  ⟨none,(some 46),.mov (.t 9)⟩,
  ⟨none,(some 47),.idxS 1 (.t 45) (.t 46)⟩,
  ⟨none,(some 48),.load 1 false (.t 47)⟩,
  ⟨none,(some 49),.mov (.t 5)⟩,
  ⟨none,(some 50),.mov (.t 8)⟩,
  ⟨none,(some 51),.idxS 1 (.t 49) (.t 50)⟩,
  ⟨none,(some 52),.load 1 false (.t 51)⟩,
  ⟨none,(some 53),.idxS 1 (.t 41) (.t 42)⟩,
  ⟨none,none,.store 1 (.t 53) (.t 48)⟩,
  ⟨none,(some 54),.idxS 1 (.t 43) (.t 44)⟩,
  ⟨none,none,.store 1 (.t 54) (.t 52)⟩]))
 (.region false [⟨none,(some 37),.mov (.t 8)⟩,
  ⟨none,(some 38),.bin .add (.t 37) (.k (.int .i64 1))⟩,
  ⟨none,(some 39),.mov (.t 9)⟩,
  ⟨none,(some 40),.bin .sub (.t 39) (.k (.int .i64 1))⟩,
  ⟨none,(some 8),.mov (.t 38)⟩,
  ⟨none,(some 9),.mov (.t 40)⟩])))
def zva1 (x5 x8 x9:DV) (h:List AObj):St:=⟨js 5++[x5,.junk,.junk,x8,x9]++js 47,h⟩
def a21:AFn where
 code:=(.seq (.region false [⟨none,(some 3),.box (.t 1)⟩,
  ⟨none,(some 4),.mov (.k (.str []))⟩])
 (.seq (.region false [⟨none,(some 5),.mov (.k .nils)⟩])
 (.seq (.seq (.region false [⟨none,(some 10),.build [(.int .i64 0),(.int .i64 0),(.int .i64 0)] []⟩,
  ⟨none,(some 6),.alloc [(.int .i64 0),(.int .i64 0),(.int .i64 0)]⟩,
  ⟨none,none,.store 3 (.t 6) (.t 10)⟩])
 (.block 0 (.loop zkw5)))
 (.seq (.seq (.region false [⟨none,(some 31),.mov (.t 5)⟩,
  ⟨none,(some 32),.len (.t 31)⟩,
  ⟨none,(some 33),.bin .sub (.t 32) (.k (.int .i64 1))⟩,
  ⟨none,(some 8),.mov (.k (.int .i64 0))⟩,
  ⟨none,(some 9),.mov (.t 33)⟩])
 (.block 2 (.loop zf5r)))
 (.seq (.region false [⟨none,(some 55),.mov (.t 5)⟩,
  ⟨none,(some 56),.cbs (.t 55)⟩,
  ⟨none,(some 4),.mov (.t 56)⟩])
 .ret)))))
 ntmps:=57
 res:=[.tmp 4]
theorem zyfb:zsjc P Try.f21=some a21:=by kernel_rfl
def a8L1:ACode :=
 (.seq (.region false [⟨none,(some 50),.bin .lss (.t 49) (.t 48)⟩])
 (.seq (.cond (.t 50) .skip
 (.exit 2))
 (.seq (.block 3 (.seq (.region false [⟨none,(some 51),.idxS 3 (.t 47) (.t 49)⟩,
  ⟨none,(some 52),.load 3 true (.t 51)⟩,
  ⟨none,(some 15),.alloc [(.int .i64 0),(.int .i64 0),(.int .i64 0)]⟩,
  ⟨none,none,.store 3 (.t 15) (.t 52)⟩])
 (.seq (.region false [⟨none,(some 53),.load 3 true (.t 15)⟩,
  ⟨none,(some 54),.mov (.t 6)⟩,
  ⟨none,(some 55),.len (.t 54)⟩,
  ⟨none,(some 56),.mov (.t 8)⟩,
  ⟨none,(some 57),.len (.t 56)⟩,
  ⟨none,(some 58),.build [(.int .i64 0),(.int .i64 0),(.int .i64 0)] [(0,1,(.t 55)),(1,1,(.t 57)),(2,1,(.k (.int .i64 3)))]⟩,
  ⟨none,(some 59),.eqa false [(3,0)] (.t 53) (.t 58)⟩])
 (.cond (.t 59) (.seq (.region false [⟨none,(some 60),.mov (.t 10)⟩,
  ⟨none,(some 61),.load 3 true (.t 15)⟩,
  ⟨none,(some 62),.call (.k (.fn (.func 21) [] [])) [(.t 60),(.t 61)]⟩,
  ⟨none,(some 4),.mov (.t 62)⟩,
  ⟨none,(some 5),.mov (.k (.bool true))⟩])
 .ret)
 .skip))))
 (.region false [⟨none,(some 63),.bin .add (.t 49) (.k (.int .i64 1))⟩,
  ⟨none,(some 49),.mov (.t 63)⟩]))))
def a8S1 (x6 x8 x10 x11 x12 x13 x47 x48 x49:DV) (h:List AObj):St:=⟨js 6++[x6,.junk,x8,.junk,x10,x11,x12,x13]++js 33++[x47,x48,x49]++js 26,h⟩
def a8L2:ACode :=
 (.seq (.region false [⟨none,(some 67),.bin .lss (.t 66) (.t 65)⟩])
 (.seq (.cond (.t 67) .skip
 (.exit 4))
 (.seq (.block 5 (.seq (.region false [⟨none,(some 68),.idxS 3 (.t 64) (.t 66)⟩,
  ⟨none,(some 69),.load 3 true (.t 68)⟩,
  ⟨none,(some 17),.alloc [(.int .i64 0),(.int .i64 0),(.int .i64 0)]⟩,
  ⟨none,none,.store 3 (.t 17) (.t 69)⟩])
 (.region false [⟨none,(some 70),.mov (.t 10)⟩,
  ⟨none,(some 71),.mov (.t 13)⟩,
  ⟨none,(some 72),.load 3 true (.t 17)⟩,
  ⟨none,(some 73),.call (.k (.fn (.func 22) [] [])) [(.t 70),(.t 71),(.t 72)]⟩,
  ⟨none,(some 13),.mov (.t 73)⟩])))
 (.region false [⟨none,(some 74),.bin .add (.t 66) (.k (.int .i64 1))⟩,
  ⟨none,(some 66),.mov (.t 74)⟩]))))
def a8S2 (x6 x8 x10 x12 x13 x64 x65 x66:DV) (h:List AObj):St:=⟨js 6++[x6,.junk,x8,.junk,x10,.junk,x12,x13]++js 50++[x64,x65,x66]++js 9,h⟩
def a8L0:ACode :=
 (.seq (.seq (.region false [⟨none,(some 43),.mov (.t 12)⟩,
  ⟨none,(some 44),.bin .leq (.t 43) (.k (.int .i64 200))⟩])
 (.cond (.t 44) .skip
 (.exit 0)))
 (.seq (.block 1 (.seq (.region false [⟨none,(some 13),.mov (.k .nils)⟩])
 (.seq (.seq (.region false [⟨none,(some 47),.mov (.t 11)⟩,
  ⟨none,(some 48),.len (.t 47)⟩,
  ⟨none,(some 49),.mov (.k (.int .i64 0))⟩])
 (.block 2 (.loop a8L1)))
 (.seq (.seq (.region false [⟨none,(some 64),.mov (.t 11)⟩,
  ⟨none,(some 65),.len (.t 64)⟩,
  ⟨none,(some 66),.mov (.k (.int .i64 0))⟩])
 (.block 4 (.loop a8L2)))
 (.region false [⟨none,(some 75),.mov (.t 13)⟩,
  ⟨none,(some 11),.mov (.t 75)⟩])))))
 (.region false [⟨none,(some 45),.mov (.t 12)⟩,
  ⟨none,(some 46),.bin .add (.t 45) (.k (.int .i64 1))⟩,
  ⟨none,(some 12),.mov (.t 46)⟩])))
def a8S0 (x6 x8 x10 x11 x12:DV) (h:List AObj):St:=⟨js 6++[x6,.junk,x8,.junk,x10,x11,x12]++js 63,h⟩
def a8:AFn where
 code:=(.seq (.region false [⟨none,(some 4),.mov (.k (.str []))⟩,
  ⟨none,(some 5),.mov (.k (.bool false))⟩])
 (.seq (.region false [⟨none,(some 19),.mov (.t 0)⟩,
  ⟨none,(some 20),.call (.k (.fn (.func 19) [] [])) [(.t 19)]⟩,
  ⟨none,(some 18),.mov (.t 20)⟩,
  ⟨none,(some 21),.ext (.t 18) 0⟩,
  ⟨none,(some 22),.ext (.t 18) 1⟩,
  ⟨none,(some 6),.mov (.t 21)⟩,
  ⟨none,(some 7),.mov (.t 22)⟩])
 (.seq (.region false [⟨none,(some 24),.mov (.t 1)⟩,
  ⟨none,(some 25),.call (.k (.fn (.func 19) [] [])) [(.t 24)]⟩,
  ⟨none,(some 23),.mov (.t 25)⟩,
  ⟨none,(some 26),.ext (.t 23) 0⟩,
  ⟨none,(some 27),.ext (.t 23) 1⟩,
  ⟨none,(some 8),.mov (.t 26)⟩,
  ⟨none,(some 9),.mov (.t 27)⟩])
 (.seq (.seq (.region false [⟨none,(some 28),.mov (.t 7)⟩,
  ⟨none,(some 29),.un .not (.t 28)⟩,
  ⟨none,(some 30),.mov (.t 29)⟩,
  ⟨(some (30,false)),(some 31),.mov (.t 9)⟩,
  ⟨(some (30,false)),(some 32),.un .not (.t 31)⟩,
  ⟨none,(some 33),.pick (.t 30) (.k (.bool true)) (.t 32)⟩])
 (.cond (.t 33) (.seq (.region false [⟨none,(some 4),.mov (.k (.str []))⟩,
  ⟨none,(some 5),.mov (.k (.bool false))⟩])
 .ret)
 .skip))
 (.seq (.region false [⟨none,(some 34),.mov (.t 6)⟩,
  ⟨none,(some 35),.mov (.t 8)⟩,
  ⟨none,(some 36),.mkm⟩,
  ⟨none,(some 37),.build [.nils,.nils,.nilm] [(0,1,(.t 34)),(1,1,(.t 35)),(2,1,(.t 36))]⟩,
  ⟨none,(some 38),.box (.t 37)⟩,
  ⟨none,(some 10),.mov (.t 38)⟩])
 (.seq (.region false [⟨none,(some 39),.mov (.t 10)⟩,
  ⟨none,(some 40),.build [(.int .i64 0),(.int .i64 0),(.int .i64 0)] []⟩,
  ⟨none,(some 41),.build [(.int .i64 0),(.int .i64 0),(.int .i64 0),(w8 0#8)] []⟩,
  ⟨none,(some 42),.call (.k (.fn (.func 20) [] [])) [(.t 39),(.k .nils),(.t 40),(.t 41)]⟩,
  ⟨none,(some 11),.mov (.t 42)⟩])
 (.seq (.seq (.region false [⟨none,(some 12),.mov (.k (.int .i64 0))⟩])
 (.block 0 (.loop a8L0)))
 (.seq (.region false [⟨none,(some 4),.mov (.k (.str []))⟩,
  ⟨none,(some 5),.mov (.k (.bool false))⟩])
 .ret))))))))
 ntmps:=76
 res:=[.tmp 4,.tmp 5]
theorem zwbl:zsjc P Try.f8=some a8:=by kernel_rfl
end
section
set_option linter.unusedSimpArgs false
set_option linter.unusedVariables false
open Go Go.Am
theorem zmqh {α:Type} {d:List α} {i:Nat} (h:i<d.length):d.take (i+1)=d.take i++[d[i]]:=by rw [List.take_add_one,y03 h]; rfl
def R (l:List Pt) (s:List UInt8) (k i:Nat):Bool:=if (l.getD k .dot).long then M l s (k+1) i else M l s k i
theorem z0fy (l:List Pt) (s:List UInt8) (i:Nat):R l s l.length i=M l s l.length i:=by
 have e:(l.getD l.length .dot) = .dot:=by rw [y00,y0w (by omega)]; rfl
 simp only [R,e]; simp [Pt.long]
def litC (c:UInt8):List UInt8:=if c=92∨c=42∨c=63 then [92,c] else [c]
def litS (s:List UInt8):List UInt8:=s.flatMap litC
def ones (s:List UInt8):List Pt:=s.map fun c => .one c.toBitVec
theorem zejk {c:UInt8} {n:UInt8} (h:c≠n):c.toBitVec≠n.toBitVec:=fun e=>h (UInt8.toBitVec_inj.1 e)
theorem zbr2 {c:UInt8} (h1:c≠92) (h2:c≠42) (h3:c≠63) (r:List UInt8):prs (c::r)=(prs r).map fun l => .one c.toBitVec::l:=by
 have g1:c.toBitVec≠92#8:=zejk h1
 have g2:c.toBitVec≠42#8:=zejk h2
 have g3:c.toBitVec≠63#8:=zejk h3
 rw [prs.eq_def]; simp [g1,g2,g3]
theorem z32i (c:UInt8) (r:List UInt8):prs (92::c::r)=(prs r).map fun l => .one c.toBitVec::l:=by
 rw [prs.eq_def]; simp
theorem zkgj : ∀ (s r:List UInt8),prs (litS s++r)=(prs r).map fun l=>ones s++l
 | [],r=>by cases h:prs r<;>simp [litS,ones,h]
 | c::s,r=>by
  have ih:=zkgj s r
  have e:litS (c::s)++r=litC c++(litS s++r):=by simp [litS]
  rw [e]
  by_cases h:c=92∨c=42∨c=63
  ·rw [litC,if_pos h]
   show prs (92::c::(litS s++r))=_
   rw [z32i,ih]
   cases prs r<;>simp [ones]
  ·rw [litC,if_neg h]
   simp only [not_or] at h
   show prs (c::(litS s++r))=_
   rw [zbr2 h.1 h.2.1 h.2.2,ih]
   cases prs r<;>simp [ones]
theorem zu7t (s:List UInt8):prs (litS s) = .some (ones s):=by
 have:=zkgj s []
 simpa [prs] using this
theorem z2u1 (a b:List UInt8):noZ (a++b)=(noZ a&&noZ b):=by simp [noZ]
theorem zvwa : ∀ (s:List UInt8),noZ (litS s)=noZ s
 | []=>rfl
 | c::s=>by
  have e:litS (c::s)=litC c++litS s:=by simp [litS]
  have e2:noZ (c::s)=(c != 0&&noZ s):=by simp [noZ]
  rw [e,z2u1,zvwa s,e2]
  by_cases h:c=92∨c=42∨c=63
  ·rw [litC,if_pos h]; simp [noZ]
  ·rw [litC,if_neg h]; simp [noZ]
theorem zdjr (c:UInt8):1≤(litC c).length∧(litC c).length≤2:=by
 unfold litC; split<;>simp
theorem zkm1 : ∀ (s:List UInt8),s.length≤(litS s).length∧(litS s).length≤2*s.length
 | []=>by simp [litS]
 | c::s=>by
  have e:litS (c::s)=litC c++litS s:=by simp [litS]
  have:=zdjr c
  have:=zkm1 s
  rw [e]; simp; omega
theorem zhir {s:List UInt8} {i:Nat} (h:i<s.length):litS (s.take (i+1))=litS (s.take i)++litC s[i]:=by
 unfold litS
 rw [List.take_add_one,y03 h,List.flatMap_append]
 simp
theorem z8rj {s:List UInt8} {i:Nat} (h:i<s.length):bAt s i=s[i].toBitVec:=by simp [bAt,y00,y03 h]
theorem z7ue (s o:List UInt8) : ∀ k i,k≤s.length→i≤o.length→M (ones s) o k i=(decide (k=i)&&decide (s.take k=o.take i))
 | 0,i,_,_=>by rw [zbas]; cases i<;>simp
 | k+1,0,hk,_=>by
  rw [z9av]
  have:((ones s).getD k .dot).long=false:=by
   rw [y00]; simp [ones]
   rw [y03 (by omega)]; rfl
  rw [this]; simp
 | k+1,i+1,hk,hi=>by
  have e1:(ones s).getD k .dot = .one s[k].toBitVec:=by
   rw [y00]; simp [ones]
   rw [y03 (by omega)]; rfl
  rw [ze32 (by rw [e1]; rfl),e1,z7ue s o k i (by omega) (by omega),z8rj (by omega)]
  simp only [Pt.takes]
  by_cases hki:k=i
  ·subst hki
   have h1:=zmqh (d:=s) (i:=k) (by omega)
   have h2:=zmqh (d:=o) (i:=k) (by omega)
   rw [h1,h2]
   by_cases he:s.take k=o.take k
   ·rw [he]
    by_cases hc:s[k]=o[k]
    ·simp [hc]
    ·have:o[k].toBitVec≠s[k].toBitVec:=fun e=>hc (UInt8.toBitVec_inj.1 e).symm
     simp [-y0o,hc,this]
   ·have:s.take k++[s[k]]≠o.take k++[o[k]]:=fun e=>he (y0i e rfl)
    simp [-y0o,he,this]
  ·simp [hki]
theorem zkvn (s o:List UInt8):M (ones s) o s.length o.length=decide (s=o):=by
 rw [z7ue s o _ _ (y02 _) (y02 _),y0p,y0p]
 by_cases h:s=o
 ·subst h; simp
 ·simp [h]
theorem z6cn (s:List UInt8):(ones s).length=s.length:=by simp [ones]
end
section
set_option linter.unusedSimpArgs false
set_option linter.unusedVariables false
open Go Go.Am
theorem zpwu {a b c:ARes} {t:List DV} {h:List AObj}:outD [a,b,c] t h=(resD t h a).bind fun x=>(resD t h b).bind fun y=>(resD t h c).bind fun z=>snap h 3 (.tup [x,y,z]):=by
 simp only [outD,zxgc,zp5p,z2gc]
 cases resD t h a<;>cases resD t h b<;>cases resD t h c<;>rfl
attribute [simp] zpwu
def cS (g:List UInt8→DV):List DV→Option DV
 | [.str s]=>some (g s)|_=>none
def cSS (g:List UInt8→List UInt8→DV):List DV→Option DV
 | [.str s,.str p]=>some (g s p)|_=>none
def cS1 (g:List UInt8→UInt8→DV):List DV→Option DV
 | [.str s,.str [c]]=>some (g s c)|_=>none
def cS1b (g:List UInt8→UInt8→DV):List DV→Option DV
 | [.str s,.str [c]]=>if s.length≤100000 then some (g s c) else none|_=>none
def cSB (g:List UInt8→B8→DV):List DV→Option DV
 | [.str s,.int .u8 n]=>if 0≤n∧n<256 then some (g s (BitVec.ofInt 8 n)) else none|_=>none
theorem zk5k {g s}:cS g [.str s]=some (g s):=rfl
theorem z5o0 {g s p}:cSS g [.str s,.str p]=some (g s p):=rfl
theorem z8u6 {g s c}:cS1 g [.str s,.str [c]]=some (g s c):=rfl
theorem zutz {g s c} (h:s.length≤100000):cS1b g [.str s,.str [c]]=some (g s c):=if_pos h
theorem zexc (c:B8):BitVec.ofInt 8 (c.toNat:Int)=c:=by simp
theorem zvdo {g s c}:cSB g [.str s,w8 c]=some (g s c):=by
 have:=c.isLt
 show (if 0≤(c.toNat:Int)∧(c.toNat:Int)<256 then some (g s (BitVec.ofInt 8 (c.toNat:Int))) else none)=_
 rw [if_pos (by omega),zexc]
theorem zzn8 {f:Nat} {g:List UInt8→DV} (h : ∀ s,Am.Sem P f [.str s] (g s)):(Con.pure (cS g)).Sound P f:=by
 intro args v e
 unfold cS at e
 split at e
 ·simp at e; subst e; exact h _
 ·simp at e
theorem zd7v {f:Nat} {g:List UInt8→List UInt8→DV} (h : ∀ s p,Am.Sem P f [.str s,.str p] (g s p)):(Con.pure (cSS g)).Sound P f:=by
 intro args v e
 unfold cSS at e
 split at e
 ·simp at e; subst e; exact h _ _
 ·simp at e
theorem zpzi {f:Nat} {g:List UInt8→UInt8→DV} (h : ∀ s c,Am.Sem P f [.str s,.str [c]] (g s c)):(Con.pure (cS1 g)).Sound P f:=by
 intro args v e
 unfold cS1 at e
 split at e
 ·simp at e; subst e; exact h _ _
 ·simp at e
theorem zb66 {f:Nat} {g:List UInt8→UInt8→DV} (h : ∀ s c,s.length≤100000→Am.Sem P f [.str s,.str [c]] (g s c)):(Con.pure (cS1b g)).Sound P f:=by
 intro args v e
 unfold cS1b at e
 split at e
 ·split at e
  ·rename_i hl; simp at e; subst e; exact h _ _ hl
  ·simp at e
 ·simp at e
theorem zboo {f:Nat} {g:List UInt8→B8→DV} (h : ∀ s c,Am.Sem P f [.str s,w8 c] (g s c)):(Con.pure (cSB g)).Sound P f:=by
 intro args v e
 unfold cSB at e
 split at e
 ·rename_i s n
  split at e
  ·rename_i hn
   simp at e; subst e
   have:=h s (BitVec.ofInt 8 n)
   have e2:w8 (BitVec.ofInt 8 n) = .int .u8 n:=by
    unfold w8
    have:((BitVec.ofInt 8 n).toNat:Int)=n:=by rw [BitVec.toNat_ofInt]; simp; omega
    rw [this]
   rwa [e2] at this
  ·simp at e
 ·simp at e
def ixD (s:List UInt8) (c:B8):DV := .int .i64 (Lib.indexByte s c.toNat.toUInt8)
def ix1 (s:List UInt8) (c:UInt8):DV := .int .i64 (Lib.indexByte s c)
def T50:Tbl:=addT 87 (.pure (cSB ixD)) tbl0
theorem zbvx:T50 87 = .pure (cSB ixD):=by simp [T50]
theorem z3fz:T50.Sound P:=z0rp (zboo fun s c=>zrq5 Try.func87 (by kernel_rfl) (by kernel_rfl) (by kernel_rfl) (by kernel_rfl) s c) zr5o
theorem z4gm (s:List UInt8) (c:B8):Runs T50 a64 [.str s,w8 c] (ixD s c):=by
 refine ⟨?_⟩
 simp (disch:=first|omega|simp<;>omega|fail) [-zA,-zB,-zC,-zD,-zE,a64,zbvx,zvdo,ixD]
def T51:Tbl:=addT 64 (.pure (cSB ixD)) T50
theorem zqfn:T51 64 = .pure (cSB ixD):=by simp [T51]
theorem zw21:T51.Sound P:=z0rp (zboo fun s c=>zljw mix z3fz Try.func64 zerh (z4gm s c)) z3fz
theorem zbfo (s:List UInt8) (c:B8):Runs T51 a41 [.str s,w8 c] (ixD s c):=by
 refine ⟨?_⟩
 simp (disch:=first|omega|simp<;>omega|fail) [-zA,-zB,-zC,-zD,-zE,a41,zqfn,zvdo,ixD]
theorem zunq (s:List UInt8) (c:UInt8):Runs T51 a88 [.str s,.str [c]] (ix1 s c):=by
 refine ⟨?_⟩
 by_cases h:[c]=s
 ·subst h
  simp (disch:=first|omega|simp<;>omega|fail) [-zA,-zB,-zC,-zD,-zE,a88,ix1,Lib.indexByte]
 ·simp (disch:=first|omega|simp<;>omega|fail) [-zA,-zB,-zC,-zD,-zE,a88,h,zqfn,zvdo,ixD,ix1,zq22]
def T52:Tbl:=addT 88 (.pure (cS1 ix1)) T51
theorem zcmd:T52 88 = .pure (cS1 ix1):=by simp [T52]
theorem zyuf:T52.Sound P:=z0rp (zpzi fun s c=>zljw mix zw21 Try.func88 zqgj (zunq s c)) zw21
def cutR (s:List UInt8) (c:UInt8):DV :=
 if Lib.indexByte s c = -1 then .tup [.str s,.str [],.bool false] else .tup [.str (s.take (Lib.indexByte s c).toNat),.str (s.drop ((Lib.indexByte s c).toNat+1)),.bool true]
theorem z4vy {s:List UInt8} {c:UInt8}:Lib.indexByte s c<s.length:=by
 have hg:=Lib.indexByte_ge s c
 by_cases h:Lib.indexByte s c = -1
 ·omega
 ·have:=z8bu (s:=s) (c:=c) (o:=(Lib.indexByte s c).toNat) (by omega)
  omega
theorem zubo (s:List UInt8) (c:UInt8) (hs:s.length≤100000):Runs T52 a65 [.str s,.str [c]] (cutR s c):=by
 refine ⟨?_⟩
 have hg:=Lib.indexByte_ge s c
 have hlt:=z4vy (s:=s) (c:=c)
 by_cases h:Lib.indexByte s c = -1
 ·simp (disch:=first|omega|simp<;>omega|fail) [-zA,-zB,-zC,-zD,-zE,a65,zcmd,z8u6,ix1,h,cutR]
 ·obtain ⟨o,ho⟩ : ∃ o:Nat,Lib.indexByte s c=o:=⟨(Lib.indexByte s c).toNat,by omega⟩
  rw [ho] at hlt
  have h0:(0:Int)≤o:=by omega
  have hn:¬ (o:Int) = -1:=by omega
  have ho1:o≤s.length:=by omega
  have ho2:o+1≤s.length:=by omega
  have ho3:(o:Int)+1≤s.length:=by omega
  have e1:((o:Int)+1).toNat=o+1:=by omega
  have ht:(s.drop (o+1)).take (s.length-(o+1))=s.drop (o+1):=y07 (by simp)
  simp (disch:=first|omega|simp<;>omega|fail) [-zA,-zB,-zC,-zD,-zE,a65,zcmd,z8u6,ix1,ho,h0,hn,ho1,ho2,ho3,e1,ht,cutR]
def T54:Tbl:=addT 65 (.pure (cS1b cutR)) tbl0
theorem zjck:T54 65 = .pure (cS1b cutR):=by simp [T54]
theorem zjvy:T54.Sound P:=z0rp (zb66 fun s c h=>zljw mix zyuf Try.func65 zh04 (zubo s c h)) zr5o
theorem zmgr (s:List UInt8) (c:UInt8) (hs:s.length≤100000):Runs T54 a43 [.str s,.str [c]] (cutR s c):=by
 refine ⟨?_⟩
 by_cases h:Lib.indexByte s c = -1
 ·simp (disch:=first|omega|simp<;>omega|fail) [-zA,-zB,-zC,-zD,-zE,a43,zjck,zutz hs,cutR,h]
 ·simp (disch:=first|omega|simp<;>omega|fail) [-zA,-zB,-zC,-zD,-zE,a43,zjck,zutz hs,cutR,h]
end
section
set_option linter.unusedSimpArgs false
set_option linter.unusedVariables false
open Go Go.Am
def za1j (s:List UInt8):DV := .bool (zj1f s)
def T57:Tbl:=addT 41 (.pure (cSB ixD)) (addT 43 (.pure (cS1b cutR)) tbl0)
theorem zogw:T57 41 = .pure (cSB ixD):=by simp [T57]
theorem zhm1:T57 43 = .pure (cS1b cutR):=by simp [T57]
theorem zhpa:T57.Sound P:=z0rp (zboo fun s c=>zljw mix zw21 Try.func41 z5y8 (zbfo s c)) (z0rp (zb66 fun s c h=>zljw mix zjvy Try.func43 zbv8 (zmgr s c h)) zr5o)
theorem ixD0 (s:List UInt8):cSB ixD [.str s,w8 0#8]=some (.int .i64 (Lib.indexByte s 0)):=zvdo
theorem zy3p {s:List UInt8} (h:Lib.indexByte s 0 ≠ -1):0≤Lib.indexByte s 0:=by have:=Lib.indexByte_ge s 0; omega
theorem zk50 {s:List UInt8} (h:Lib.indexByte s 0 = -1):noZ s=true:=by rw [zc5k,h]; rfl
theorem z5fc {s:List UInt8} (h:Lib.indexByte s 0 ≠ -1):noZ s=false:=by rw [zc5k]; simp [h]
def S9 (x:List UInt8 × Bool):St:=zm3v (.str x.1) (.bool x.2) []
def m9 (x:List UInt8 × Bool):Nat:=x.1.length+(if x.2=true then 1 else 0)
def R9 (s:List UInt8) (x:List UInt8 × Bool):Prop:=x.1.length≤200∧(x.2=true→zj1f s=(z2fg x.1).all okC)∧(x.2=false→zj1f s=true)
theorem zqqw (s:List UInt8):Runs T57 a23 [.str s] (za1j s):=by
 refine ⟨?_⟩
 by_cases h1:s.length<1
 ·have h1':(s.length:Int)<1:=by omega
  have hp:zj1f s=false:=by simp [zj1f]; omega
  simp (disch:=first|omega|simp<;>omega|fail) [-zA,-zB,-zC,-zD,-zE,a23,h1',za1j,hp]
 have h1':¬ (s.length:Int)<1:=by omega
 by_cases h2:200<s.length
 ·have h2':(200:Int)<s.length:=by omega
  have hp:zj1f s=false:=by simp [zj1f]; omega
  simp (disch:=first|omega|simp<;>omega|fail) [-zA,-zB,-zC,-zD,-zE,a23,h1',h2',za1j,hp]
 have h2':¬ (200:Int)<s.length:=by omega
 by_cases h3:Lib.indexByte s 0 = -1
 case neg =>
  have h3':=zy3p h3
  have hp:zj1f s=false:=by simp [zj1f,z5fc h3]
  simp (disch:=first|omega|simp<;>omega|fail) [-zA,-zB,-zC,-zD,-zE,a23,h1',h2',zogw,ixD0,h3',za1j,hp]
 have hp:zj1f s=(z2fg s).all okC:=by
  have g1:1≤s.length:=by omega
  have g2:s.length≤200:=by omega
  simp only [zj1f,g1,g2,zk50 h3,decide_true,y0y]
 simp (disch:=first|omega|simp<;>omega|fail) [-zA,-zB,-zC,-zD,-zE,a23,h1',h2',zogw,ixD0,h3]
 refine zlm5 S9 m9 (R9 s) (s,true) (z515 (by simp (disch:=first|omega|simp<;>omega|fail) [-zA,-zB,-zC,-zD,-zE]) (by simp (disch:=first|omega|simp<;>omega|fail) [-zA,-zB,-zC,-zD,-zE])) ⟨by show s.length≤200; omega,fun _=>hp,by simp⟩ (fun x hx => ?_)
 obtain ⟨r,more⟩:=x
 obtain ⟨hr,ha,hb⟩:=hx
 simp only at hr ha hb
 simp (disch:=first|omega|simp<;>omega|fail) [-zA,-zB,-zC,-zD,-zE,zyu0,zm3v,S9]
 cases more with
 | false =>
  have hb:=hb rfl
  simp (disch:=first|omega|simp<;>omega|fail) [-zA,-zB,-zC,-zD,-zE,za1j,hb]
 | true =>
  have ha:=ha rfl
  have hc:=zutz (g:=cutR) (s:=r) (c:=47) (by omega)
  by_cases hi:Lib.indexByte r 47 = -1
  ·rw [cutR,if_pos hi] at hc
   rw [zbf3 hi] at ha
   by_cases e1:r=[]
   ·have hq:zj1f s=false:=by rw [ha,e1]; rfl
    subst e1
    simp (disch:=first|omega|simp<;>omega|fail) [-zA,-zB,-zC,-zD,-zE,zhm1,hc,za1j,hq]
   ·by_cases e2:r=[46]
    ·have hq:zj1f s=false:=by rw [ha,e2]; rfl
     subst e2
     simp (disch:=first|omega|simp<;>omega|fail) [-zA,-zB,-zC,-zD,-zE,zhm1,hc,za1j,hq]
    ·by_cases e3:r=[46,46]
     ·have hq:zj1f s=false:=by rw [ha,e3]; rfl
      subst e3
      simp (disch:=first|omega|simp<;>omega|fail) [-zA,-zB,-zC,-zD,-zE,zhm1,hc,za1j,hq]
     ·have hq:zj1f s=true:=by rw [ha]; simp [okC,e1,e2,e3]
      simp (disch:=first|omega|simp<;>omega|fail) [-zA,-zB,-zC,-zD,-zE,zhm1,hc,e1,e2,e3]
      exact ⟨[],.inl ⟨z515 (by simp (disch:=first|omega|simp<;>omega|fail) [-zA,-zB,-zC,-zD,-zE]) (by simp (disch:=first|omega|simp<;>omega|fail) [-zA,-zB,-zC,-zD,-zE]),by simp [m9],by simp [R9,hq]⟩⟩
  ·obtain ⟨o,ho⟩ : ∃ o:Nat,Lib.indexByte r 47=o:=⟨(Lib.indexByte r 47).toNat,by have:=Lib.indexByte_ge r 47; omega⟩
   have hlt:=z8bu ho
   rw [cutR,if_neg hi,ho] at hc
   rw [zjoj ho] at ha
   simp only [Int.toNat_natCast] at hc
   obtain ⟨y,hy⟩ : ∃ y,r.take o=y:=⟨_,rfl⟩
   rw [hy] at hc ha
   by_cases e1:y=[]
   ·have hq:zj1f s=false:=by rw [ha,e1]; rfl
    subst e1
    simp (disch:=first|omega|simp<;>omega|fail) [-zA,-zB,-zC,-zD,-zE,zhm1,hc,za1j,hq]
   ·by_cases e2:y=[46]
    ·have hq:zj1f s=false:=by rw [ha,e2]; rfl
     subst e2
     simp (disch:=first|omega|simp<;>omega|fail) [-zA,-zB,-zC,-zD,-zE,zhm1,hc,za1j,hq]
    ·by_cases e3:y=[46,46]
     ·have hq:zj1f s=false:=by rw [ha,e3]; rfl
      subst e3
      simp (disch:=first|omega|simp<;>omega|fail) [-zA,-zB,-zC,-zD,-zE,zhm1,hc,za1j,hq]
     ·have hq:zj1f s=(z2fg (r.drop (o+1))).all okC:=by rw [ha]; simp [okC,e1,e2,e3]
      simp (disch:=first|omega|simp<;>omega|fail) [-zA,-zB,-zC,-zD,-zE,zhm1,hc,e1,e2,e3]
      exact ⟨r.drop (o+1),.inr ⟨z515 (by simp (disch:=first|omega|simp<;>omega|fail) [-zA,-zB,-zC,-zD,-zE]) (by simp (disch:=first|omega|simp<;>omega|fail) [-zA,-zB,-zC,-zD,-zE]),by simp [m9]; omega,by simp only [List.length_drop]; omega,fun _=>hq,by simp⟩⟩
end
section
set_option linter.unusedSimpArgs false
set_option linter.unusedVariables false
open Go Go.Am
def ptC (x:Pt):List DV:=[.int .i64 x.kind,w8 x.chr]
def z6j5 (l:List Pt):List DV:=l.flatMap ptC
theorem z4u6 : ∀ (l:List Pt),(z6j5 l).length=2*l.length
 | []=>rfl
 | x::l=>by have:=z4u6 l; simp only [z6j5,y0f,y0e,ptC,y04,List.length_nil] at *; omega
theorem zip6 (l:List Pt) (x:Pt):z6j5 (l++[x])=z6j5 l++ptC x:=by simp [z6j5]
theorem zbvb {l:List Pt} (h:l≠[]):z6j5 l≠[]:=by
 intro e
 have:=z4u6 l
 rw [e] at this
 have:l.length=0:=by simp at this; omega
 exact h (List.length_eq_zero_iff.1 this)
theorem zcb5 : ∀ (l:List Pt),zbao (z6j5 l)=true
 | []=>rfl
 | x::l=>by
  have:=zcb5 l
  simp only [z6j5,y0f,ptC,y05,y0r] at this ⊢
  simp [zbao,this,zyp8,w8]
theorem zyoh (h:List AObj) (k:Nat) (l:List Pt):z4tt h k (z6j5 l)=some (z6j5 l):=z619 (zcb5 l)
theorem zmw4 {c:UInt8} (h1:c≠92) (h2:c≠42) (h3:c≠63) (r:List UInt8):prs (c::r)=(prs r).map fun l => .one c.toBitVec::l:=zbr2 h1 h2 h3 r
theorem z28c (r:List UInt8):prs (63::r)=(prs r).map fun l => .dot::l:=by rw [prs.eq_def]; simp
theorem zt8b:prs [92]=none:=rfl
theorem zkwm:prs [42] = .some [.some]:=rfl
theorem zqqt (r:List UInt8):prs (42::42::r)=(prs r).map fun l => .whole::l:=by rw [prs.eq_def]; simp
theorem zpjv {d:UInt8} (h:d≠42) (r:List UInt8):prs (42::d::r)=(prs (d::r)).map fun l => .some::l:=by
 have g:d.toBitVec≠42#8:=zejk h
 rw [prs.eq_def]; simp [g]
def zoby:Option (List Pt)→DV
 | none => .tup [.nils,.bool false]
 | .some l => .tup [.sl false 2 l.length (z6j5 l),.bool true]
theorem zfht {s:List UInt8} {l:List Pt} (h0:s≠[]) (h:prs s = .some l):l≠[]:=by
 rintro rfl
 match s,h0 with
 | c::r,_ =>
  by_cases h1:c=92
  ·subst h1
   match r with
   | []=>simp [zt8b] at h
   | d::r=>rw [z32i] at h; cases e:prs r<;>simp [e] at h
  ·by_cases h2:c=42
   ·subst h2
    match r with
    | []=>simp [zkwm] at h
    | d::r =>
     by_cases h3:d=42
     ·subst h3; rw [zqqt] at h; cases e:prs r<;>simp [e] at h
     ·rw [zpjv h3] at h; cases e:prs (d::r)<;>simp [e] at h
   ·by_cases h3:c=63
    ·subst h3; rw [z28c] at h; cases e:prs r<;>simp [e] at h
    ·rw [zmw4 h1 h2 h3] at h; cases e:prs r<;>simp [e] at h
structure X15 where
 l:List Pt
 i:Nat
def S15 (p:List UInt8) (x:X15):St:=z0ci (.str p) (ownD 0 2 .nils x.l.length (z6j5 x.l)) (.int .i64 x.i) (ownH (z6j5 x.l))
def m15 (p:List UInt8) (x:X15):Nat:=p.length-x.i
def R15 (p:List UInt8) (x:X15):Prop:=x.i≤p.length∧x.l.length≤x.i∧prs p=(prs (p.drop x.i)).map fun l=>x.l++l
theorem zq8c {p:List UInt8} {x:X15} (h:R15 p x) {n:Nat} {y:Pt} (hn:x.i<n) (hn':n≤p.length) (e:prs (p.drop x.i)=(prs (p.drop n)).map fun l=>y::l):R15 p ⟨x.l++[y],n⟩:=by
 obtain ⟨h1,h2,h3⟩:=h
 refine ⟨hn',by simp; omega,?_⟩
 rw [h3,e]
 cases prs (p.drop n)<;>simp
theorem zw4m {c:UInt8} {n:UInt8}:c.toBitVec=n.toBitVec↔c=n:=UInt8.toBitVec_inj
theorem z9ia {k:Int}:zvnk [.int .i64 0,w8 0#8] [(0,1,.int .i64 k)]=some (.agg [.int .i64 k,w8 0#8]):=rfl
theorem ztmv (p:List UInt8):Runs T57 a19 [.str p] (zoby (zfn1 p)):=by
 refine ⟨?_⟩
 by_cases h1:p.length<1
 ·have h1':(p.length:Int)<1:=by omega
  have hp:zfn1 p=none:=by rw [zfn1,if_neg (by omega)]
  simp (disch:=first|omega|simp<;>omega|fail) [-zA,-zB,-zC,-zD,-zE,a19,h1',hp,zoby]
 have h1':¬ (p.length:Int)<1:=by omega
 by_cases h2:200<p.length
 ·have h2':(200:Int)<p.length:=by omega
  have hp:zfn1 p=none:=by rw [zfn1,if_neg (by omega)]
  simp (disch:=first|omega|simp<;>omega|fail) [-zA,-zB,-zC,-zD,-zE,a19,h1',h2',hp,zoby]
 have h2':¬ (200:Int)<p.length:=by omega
 by_cases h3:Lib.indexByte p 0 = -1
 case neg =>
  have h3':=zy3p h3
  have hp:zfn1 p=none:=by rw [zfn1,if_neg (by rw [z5fc h3]; simp)]
  simp (disch:=first|omega|simp<;>omega|fail) [-zA,-zB,-zC,-zD,-zE,a19,h1',h2',zogw,ixD0,h3',hp,zoby]
 have hp:zfn1 p=prs p:=by rw [zfn1,if_pos ⟨by omega,by omega,zk50 h3⟩]
 simp (disch:=first|omega|simp<;>omega|fail) [-zA,-zB,-zC,-zD,-zE,a19,h1',h2',zogw,ixD0,h3]
 refine zlm5 (S15 p) (m15 p) (R15 p) ⟨[],0⟩ (z515 (by simp (disch:=first|omega|simp<;>omega|fail) [-zA,-zB,-zC,-zD,-zE,ownD,z6j5]) (by simp (disch:=first|omega|simp<;>omega|fail) [-zA,-zB,-zC,-zD,-zE,ownH,z6j5])) ⟨by simp,by simp,by simp⟩ (fun x hx => ?_)
 obtain ⟨l,i⟩:=x
 have hx':=hx
 obtain ⟨hi,hl,hpr⟩:=hx'
 simp only at hi hl hpr
 have hlen:=z4u6 l
 simp (disch:=first|omega|simp<;>omega|fail) [-zA,-zB,-zC,-zD,-zE,zihe,z0ci,S15]
 by_cases h:i<p.length
 ·have h4:(i:Int)<p.length:=by omega
  have hd:p.drop i=p[i]::p.drop (i+1):=y0b h
  have e12:(i:Int)+1+1=i+2:=by omega
  by_cases c1:p[i]=92
  ·have b1:p[i].toBitVec=92#8:=zw4m.2 c1
   have b1q:(p[i].toBitVec == 92#8)=true:=by simp [b1]
   by_cases h5:i+1=p.length
   ·have h5':(i:Int)+1=p.length:=by omega
    have hq:prs p=none:=by rw [hpr,hd,c1,y0t (by omega),zt8b]; rfl
    simp (disch:=first|omega|simp<;>omega|fail) [-zA,-zB,-zC,-zD,-zE,z9ia,h4,h,b1,b1q,h5',hp,hq,zoby]
   ·have h5':¬ (i:Int)+1=p.length:=by omega
    have h6:i+1<p.length:=by omega
    have hd2:p.drop (i+1)=p[i+1]::p.drop (i+2):=y0b h6
    have hs:=zq8c (n:=i+2) (y := .one p[i+1].toBitVec) hx (by simp) (by omega) (by show prs (p.drop i)=_; rw [hd,hd2,c1,z32i])
    simp (disch:=first|omega|simp<;>omega|fail) [-zA,-zB,-zC,-zD,-zE,z9ia,h4,h,b1,b1q,h5',h6,hlen,e12]
    exact ⟨⟨l++[.one p[i+1].toBitVec],i+2⟩,z515 (by simp (disch:=first|omega|simp<;>omega|fail) [-zA,-zB,-zC,-zD,-zE,e12,zip6,ptC,Pt.kind,Pt.chr]) (by simp (disch:=first|omega|simp<;>omega|fail) [-zA,-zB,-zC,-zD,-zE,zip6,ptC,Pt.kind,Pt.chr]),by simp [m15]; omega,hs⟩
  ·have b1:¬ p[i].toBitVec=92#8:=fun e=>c1 (zw4m.1 e)
   have b1q:(p[i].toBitVec == 92#8)=false:=by simp [b1]
   by_cases c2:p[i]=63
   ·have b2:p[i].toBitVec=63#8:=zw4m.2 c2
    have b2q:(p[i].toBitVec == 63#8)=true:=by simp [b2]
    have hs:=zq8c (n:=i+1) (y := .dot) hx (by simp) (by omega) (by show prs (p.drop i)=_; rw [hd,c2,z28c])
    simp (disch:=first|omega|simp<;>omega|fail) [-zA,-zB,-zC,-zD,-zE,z9ia,h4,h,b1,b1q,b2,b2q,hlen]
    exact ⟨⟨l++[.dot],i+1⟩,z515 (by simp (disch:=first|omega|simp<;>omega|fail) [-zA,-zB,-zC,-zD,-zE,e12,zip6,ptC,Pt.kind,Pt.chr]) (by simp (disch:=first|omega|simp<;>omega|fail) [-zA,-zB,-zC,-zD,-zE,zip6,ptC,Pt.kind,Pt.chr]),by simp [m15]; omega,hs⟩
   ·have b2:¬ p[i].toBitVec=63#8:=fun e=>c2 (zw4m.1 e)
    have b2q:(p[i].toBitVec == 63#8)=false:=by simp [b2]
    by_cases c3:p[i]=42
    ·have b3:p[i].toBitVec=42#8:=zw4m.2 c3
     have b3q:(p[i].toBitVec == 42#8)=true:=by simp [b3]
     by_cases h6:i+1<p.length
     ·have h6':(i:Int)+1<p.length:=by omega
      have hd2:p.drop (i+1)=p[i+1]::p.drop (i+2):=y0b h6
      by_cases c4:p[i+1]=42
      ·have b4:p[i+1].toBitVec=42#8:=zw4m.2 c4
       have b4q:(p[i+1].toBitVec == 42#8)=true:=by simp [b4]
       have hs:=zq8c (n:=i+2) (y := .whole) hx (by simp) (by omega) (by show prs (p.drop i)=_; rw [hd,hd2,c3,c4,zqqt])
       simp (disch:=first|omega|simp<;>omega|fail) [-zA,-zB,-zC,-zD,-zE,z9ia,h4,h,b1,b1q,b2,b2q,b3,b3q,h6,h6',b4,b4q,hlen,e12]
       exact ⟨⟨l++[.whole],i+2⟩,z515 (by simp (disch:=first|omega|simp<;>omega|fail) [-zA,-zB,-zC,-zD,-zE,e12,zip6,ptC,Pt.kind,Pt.chr]) (by simp (disch:=first|omega|simp<;>omega|fail) [-zA,-zB,-zC,-zD,-zE,zip6,ptC,Pt.kind,Pt.chr]),by simp [m15]; omega,hs⟩
      ·have b4:¬ p[i+1].toBitVec=42#8:=fun e=>c4 (zw4m.1 e)
       have b4q:(p[i+1].toBitVec == 42#8)=false:=by simp [b4]
       have hs:=zq8c (n:=i+1) (y := .some) hx (by simp) (by omega) (by show prs (p.drop i)=_; rw [hd,hd2,c3,zpjv c4])
       simp (disch:=first|omega|simp<;>omega|fail) [-zA,-zB,-zC,-zD,-zE,z9ia,h4,h,b1,b1q,b2,b2q,b3,b3q,h6,h6',b4,b4q,hlen,e12]
       exact ⟨⟨l++[.some],i+1⟩,z515 (by simp (disch:=first|omega|simp<;>omega|fail) [-zA,-zB,-zC,-zD,-zE,e12,zip6,ptC,Pt.kind,Pt.chr]) (by simp (disch:=first|omega|simp<;>omega|fail) [-zA,-zB,-zC,-zD,-zE,zip6,ptC,Pt.kind,Pt.chr]),by simp [m15]; omega,hs⟩
     ·have h6':¬ (i:Int)+1<p.length:=by omega
      have hs:=zq8c (n:=i+1) (y := .some) hx (by simp) (by omega) (by show prs (p.drop i)=_; rw [hd,c3,y0t (by omega),zkwm]; rfl)
      simp (disch:=first|omega|simp<;>omega|fail) [-zA,-zB,-zC,-zD,-zE,z9ia,h4,h,b1,b1q,b2,b2q,b3,b3q,h6',hlen]
      exact ⟨⟨l++[.some],i+1⟩,z515 (by simp (disch:=first|omega|simp<;>omega|fail) [-zA,-zB,-zC,-zD,-zE,e12,zip6,ptC,Pt.kind,Pt.chr]) (by simp (disch:=first|omega|simp<;>omega|fail) [-zA,-zB,-zC,-zD,-zE,zip6,ptC,Pt.kind,Pt.chr]),by simp [m15]; omega,hs⟩
    ·have b3:¬ p[i].toBitVec=42#8:=fun e=>c3 (zw4m.1 e)
     have b3q:(p[i].toBitVec == 42#8)=false:=by simp [b3]
     have hs:=zq8c (n:=i+1) (y := .one p[i].toBitVec) hx (by simp) (by omega) (by show prs (p.drop i)=_; rw [hd,zmw4 c1 c3 c2])
     simp (disch:=first|omega|simp<;>omega|fail) [-zA,-zB,-zC,-zD,-zE,z9ia,h4,h,b1,b1q,b2,b2q,b3,b3q,hlen]
     exact ⟨⟨l++[.one p[i].toBitVec],i+1⟩,z515 (by simp (disch:=first|omega|simp<;>omega|fail) [-zA,-zB,-zC,-zD,-zE,e12,zip6,ptC,Pt.kind,Pt.chr]) (by simp (disch:=first|omega|simp<;>omega|fail) [-zA,-zB,-zC,-zD,-zE,zip6,ptC,Pt.kind,Pt.chr]),by simp [m15]; omega,hs⟩
 ·have h4:¬ (i:Int)<p.length:=by omega
  obtain rfl:i=p.length:=by omega
  rw [List.drop_length] at hpr
  have hq:prs p = .some l:=by rw [hpr]; simp [prs]
  have hne:=zfht (by intro e; rw [e] at h1; simp at h1) hq
  have ht:(z6j5 l).take (l.length*2)=z6j5 l:=y07 (by omega)
  simp (disch:=first|omega|simp<;>omega|fail) [-zA,-zB,-zC,-zD,-zE,h4,z8l3 (zbvb hne),zpgk (zbvb hne),hp,hq,zoby,ht,zyoh,hlen]
def z8r4 (p:List UInt8):DV:=zoby (zfn1 p)
def T58:Tbl:=addT 19 (.pure (cS z8r4)) tbl0
theorem z8i1:T58 19 = .pure (cS z8r4):=by simp [T58]
theorem zeib:T58.Sound P:=z0rp (zzn8 fun p=>zljw mix zhpa Try.func19 zlqi (ztmv p)) zr5o
def z01o (p:List UInt8):DV := .bool (zfn1 p).isSome
theorem ztir (p:List UInt8):Runs T58 a11 [.str p] (z01o p):=by
 refine ⟨?_⟩
 cases h:zfn1 p with
 | none=>simp (disch:=first|omega|simp<;>omega|fail) [-zA,-zB,-zC,-zD,-zE,a11,z8i1,zk5k,z8r4,h,zoby,z01o]
 | some l=>simp (disch:=first|omega|simp<;>omega|fail) [-zA,-zB,-zC,-zD,-zE,a11,z8i1,zk5k,z8r4,h,zoby,z01o]
def zqvz (x:Pt):DV:=match x with
 | .one c => .fn (.func 44) [] [.ref [.int .i64 0,w8 c]]
 | .whole => .fn (.func 45) [] []
 | _ => .fn (.func 46) [] []
theorem z7ww {h:List AObj} {k:Nat} {f:Fn} {x:DV}:snap h (k+1) (.fn f [] [x])=(snap h (k+1) x).map fun y => .fn f [] [y]:=by
 simp only [snap,zcxt,zoyo]
 cases zcxt _ x<;>rfl
theorem zvvi {h:List AObj} {k:Nat} {f:Fn}:snap h k (.fn f [] [])=some (.fn f [] []):=by cases k<;>rfl
theorem z2em (x:Pt):Runs tbl0 a24 [.agg (ptC x)] (zqvz x):=by
 refine ⟨?_⟩
 cases x with
 | one c=>simp (disch:=first|omega|simp<;>omega|fail) [-zA,-zB,-zC,-zD,-zE,a24,ptC,Pt.kind,Pt.chr,zqvz,z7ww,zvvi]
 | dot=>simp (disch:=first|omega|simp<;>omega|fail) [-zA,-zB,-zC,-zD,-zE,a24,ptC,Pt.kind,Pt.chr,zqvz,z7ww,zvvi]
 | some=>simp (disch:=first|omega|simp<;>omega|fail) [-zA,-zB,-zC,-zD,-zE,a24,ptC,Pt.kind,Pt.chr,zqvz,z7ww,zvvi]
 | whole=>simp (disch:=first|omega|simp<;>omega|fail) [-zA,-zB,-zC,-zD,-zE,a24,ptC,Pt.kind,Pt.chr,zqvz,z7ww,zvvi]
theorem z439 (x:Pt):Runs tbl0 a25 [.agg (ptC x)] (.bool x.long):=by
 refine ⟨?_⟩
 cases x with
 | one c=>simp (disch:=first|omega|simp<;>omega|fail) [-zA,-zB,-zC,-zD,-zE,a25,ptC,Pt.kind,Pt.chr,Pt.long]
 | dot=>simp (disch:=first|omega|simp<;>omega|fail) [-zA,-zB,-zC,-zD,-zE,a25,ptC,Pt.kind,Pt.chr,Pt.long]
 | some=>simp (disch:=first|omega|simp<;>omega|fail) [-zA,-zB,-zC,-zD,-zE,a25,ptC,Pt.kind,Pt.chr,Pt.long]
 | whole=>simp (disch:=first|omega|simp<;>omega|fail) [-zA,-zB,-zC,-zD,-zE,a25,ptC,Pt.kind,Pt.chr,Pt.long]
theorem zakd (b c:B8):Runs tbl0 a44 [w8 b,.ref [.int .i64 0,w8 c]] (.bool (b == c)):=by
 refine ⟨?_⟩
 simp (disch:=first|omega|simp<;>omega|fail) [-zA,-zB,-zC,-zD,-zE,a44]
theorem zl0d (b:B8):Runs tbl0 a45 [w8 b] (.bool true):=by
 refine ⟨?_⟩
 simp (disch:=first|omega|simp<;>omega|fail) [-zA,-zB,-zC,-zD,-zE,a45]
theorem zacs (b:B8):Runs tbl0 a46 [w8 b] (.bool (b != 47#8)):=by
 refine ⟨?_⟩
 simp (disch:=first|omega|simp<;>omega|fail) [-zA,-zB,-zC,-zD,-zE,a46]
end
section
set_option linter.unusedSimpArgs false
set_option linter.unusedVariables false
open Go Go.Am
abbrev Q:=Nat × Nat × Nat
abbrev Stp:=Q × B8
def qC (x:Q):List DV:=[.int .i64 x.1,.int .i64 x.2.1,.int .i64 x.2.2]
def qK (x:Q):List Int:=[x.1,x.2.1,x.2.2]
def stC (s:Stp):List DV:=[.int .i64 s.1.1,.int .i64 s.1.2.1,.int .i64 s.1.2.2,w8 s.2]
def mvS (s:Stp):MV := .agg [.int .i64 s.1.1,.int .i64 s.1.2.1,.int .i64 s.1.2.2,.int .u8 s.2.toNat]
abbrev Came:=List (Q × Stp)
def cM (C:Came):MapD:=C.map fun e=>(qK e.1,mvS e.2)
def getC:Came→Q→Option Stp
 | [],_=>none
 | (y,s)::r,x=>if y=x then some s else getC r x
theorem z6dq {x y:Q}:qK x=qK y↔x=y:=by
 obtain ⟨a,b,c⟩:=x
 obtain ⟨d,e,f⟩:=y
 simp only [qK,List.cons.injEq,Prod.mk.injEq,and_true]
 omega
theorem zsqh : ∀ (C:Came) (x:Q),zqrh (cM C) (qK x)=(getC C x).map mvS
 | [],_=>rfl
 | (y,s)::r,x=>by
  have ih:=zsqh r x
  simp only [cM,y0n,zqrh,getC,z6dq] at ih ⊢
  by_cases e:y=x
  ·simp [e]
  ·rw [if_neg e,if_neg e]; exact ih
theorem zbb3 (s:Stp):(mvS s).dv = .agg (stC s):=rfl
theorem zt3q (C:Came) (x:Q) (s:Stp):cM C++[(qK x,mvS s)]=cM (C++[(x,s)]):=by simp [cM]
def lC (L:List Q):List DV:=L.flatMap qC
theorem zsql : ∀ (L:List Q),(lC L).length=L.length*3
 | []=>rfl
 | x::L=>by
  have:=zsql L
  simp only [lC,y0f,y0e,y04] at this ⊢
  rw [this]; simp [qC]; omega
theorem zh5g (L:List Q) (x:Q):lC (L++[x])=lC L++qC x:=by simp [lC]
def lV (G:Nat) (L:List Q):DV:=if L=[] then .nils else .ms G (L.length*3) 0 3 L.length (L.length*3)
theorem zg8e {G:Nat}:lV G [] = .nils:=rfl
theorem zi7d {G:Nat} {L:List Q} (h:L≠[]):lV G L = .ms G (L.length*3) 0 3 L.length (L.length*3):=if_neg h
theorem zdcc {G:Nat} {L:List Q}:(lV G L).one=true:=by unfold lV; split<;>rfl
theorem z566 {G:Nat} {L:List Q}:(lV G L).cells=[lV G L]:=by unfold lV; split<;>rfl
theorem zrk1 {G:Nat} {L:List Q}:(lV G L).known=true:=by unfold lV; split<;>rfl
attribute [simp] zdcc z566 zrk1
def lA (h:List AObj) (G:Nat) (L:List Q) (x:Q):List AObj:=if L=[] then h++[.cells (qC x)] else h.set G (.cells (lC (L++[x])))
def lG (h:List AObj) (G:Nat) (L:List Q):Nat:=if L=[] then h.length else G
theorem zh68 {h:List AObj} {G:Nat} {L:List Q} {x:Q} (ho:L≠[]→ziu0 h G=some (lC L)) (hn:L.length≤1000000) :
  appX h 3 24 (lV G L) 1 (qC x)=some (lV (lG h G L) (L++[x]),lA h G L x):=by
 by_cases e:L=[]
 ·subst e
  rw [zg8e,zsuq (by omega) (by omega) (by simp [qC]) (by omega) (by omega),zi7d (by simp)]
  simp [lG,lA,qC]
 ·rw [zi7d e,zbho rfl (by omega) (by omega) (by simp [qC]) (by omega) (by simp [qC]),zw28 (ho e) (zsql L),zi7d (by simp)]
  have e3:L.length*3+(qC x).length=(L++[x]).length*3:=by simp [qC]; omega
  simp only [Option.map_some,lG,lA,if_neg e,zh5g,e3]
  simp
theorem zajq : ∀ (h:List AObj) (b:Nat) (m:MapD),(zn2r h b m).length=h.length
 | [],_,_=>rfl
 | .mapo b' n::r,b,m=>by
  simp only [zn2r]; split
  ·rfl
  ·simp [zajq r b m]
 | .cells c::r,b,m=>by simp [zn2r,zajq r b m]
 | .dead::r,b,m=>by simp [zn2r,zajq r b m]
theorem zgk8 : ∀ (h:List AObj) (b:Nat) (m:MapD) (i:Nat),ziu0 (zn2r h b m) i=ziu0 h i
 | [],_,_,_=>rfl
 | .mapo b' n::r,b,m,i=>by
  simp only [zn2r]; split
  ·cases i<;>rfl
  ·cases i with
   | zero=>rfl
   | succ i=>exact zgk8 r b m i
 | .cells c::r,b,m,i=>by
  cases i with
  | zero=>rfl
  | succ i=>exact zgk8 r b m i
 | .dead::r,b,m,i=>by
  cases i with
  | zero=>rfl
  | succ i=>exact zgk8 r b m i
theorem zhoh : ∀ {h:List AObj} {b:Nat} {n:MapD} (m:MapD),zfel h b=some n→zfel (zn2r h b m) b=some m
 | [],_,_,_,e=>by simp [zfel] at e
 | .mapo b' n::r,b,_,m,e=>by
  simp only [zfel] at e
  simp only [zn2r]
  split
  ·simp [zfel]
  ·rename_i q
   rw [if_neg q] at e
   simp only [zfel,if_neg q]
   exact zhoh m e
 | .cells c::r,b,_,m,e=>by simp only [zn2r,zfel] at e ⊢; exact zhoh m e
 | .dead::r,b,_,m,e=>by simp only [zn2r,zfel] at e ⊢; exact zhoh m e
theorem zjf6 : ∀ {h:List AObj} {b:Nat} {n:MapD} (r:List AObj),zfel h b=some n→zfel (h++r) b=some n
 | [],_,_,_,e=>by simp [zfel] at e
 | .mapo b' n::r,b,_,s,e=>by
  simp only [y05,zfel] at e ⊢
  split
  ·rename_i q; rw [if_pos q] at e; exact e
  ·rename_i q; rw [if_neg q] at e; exact zjf6 s e
 | .cells c::r,b,_,s,e=>by simp only [y05,zfel] at e ⊢; exact zjf6 s e
 | .dead::r,b,_,s,e=>by simp only [y05,zfel] at e ⊢; exact zjf6 s e
theorem zv2a : ∀ {h:List AObj} {b id:Nat} {n:MapD} {l c:List DV},zfel h b=some n→ziu0 h id=some l→zfel (h.set id (.cells c)) b=some n
 | [],_,_,_,_,_,e,_=>by simp [zfel] at e
 | .mapo b' n::r,b,id,_,l,c,e,ho=>by
  cases id with
  | zero=>simp [ziu0] at ho
  | succ i =>
   simp only [y0m,zfel] at e ⊢
   split
   ·rename_i q; rw [if_pos q] at e; exact e
   ·rename_i q; rw [if_neg q] at e; exact zv2a e ho
 | .cells d::r,b,id,_,l,c,e,ho=>by
  simp only [zfel] at e
  cases id with
  | zero=>simpa only [List.set_cons_zero,zfel] using e
  | succ i=>simp only [y0m,zfel]; exact zv2a e ho
 | .dead::r,b,id,_,l,c,e,ho=>by
  simp only [zfel] at e
  cases id with
  | zero=>simp [ziu0] at ho
  | succ i=>simp only [y0m,zfel]; exact zv2a e ho
theorem z7ko {h r:List AObj} {id:Nat} {l:List DV} (e:ziu0 h id=some l):ziu0 (h++r) id=some l:=by
 unfold ziu0 at e ⊢
 split at e
 ·rename_i q; rw [y0c (y06.1 q).1,q]; exact e
 ·simp at e
theorem zn8w {h r:List AObj} {id:Nat} (e:id<h.length):ziu0 (h++r) id=ziu0 h id:=by
 unfold ziu0; rw [y0c e]
theorem zzga {h r:List AObj} {id:Nat}:ziu0 (h++r) (h.length+id)=ziu0 r id:=by
 unfold ziu0; rw [y0a (by omega)]; simp
theorem zhvw {h:List AObj} {id:Nat} {l c:List DV} (e:ziu0 h id=some l):ziu0 (h.set id (.cells c)) id=some c:=by
 unfold ziu0 at e ⊢
 split at e
 ·rename_i q; rw [List.getElem?_set_self (y06.1 q).1]
 ·simp at e
theorem z4sf {h:List AObj} {id:Nat} {l:List DV} (e:ziu0 h id=some l):id<h.length:=by
 unfold ziu0 at e
 split at e
 ·rename_i q; exact (y06.1 q).1
 ·simp at e
structure LH (m:MapD) (B G:Nat) (L:List Q) (h:List AObj):Prop where
 mo:zfel h B=some m
 lo:L≠[]→ziu0 h G=some (lC L)
structure Fr (h:List AObj) (G:Nat) (L:List Q) (h':List AObj) (G':Nat) (L':List Q):Prop where
 len:h.length≤h'.length
 oth : ∀ id,id<h.length→¬ (L≠[]∧id=G)→ziu0 h' id=ziu0 h id
 new:L'≠[]→(L≠[]∧G'=G)∨h.length≤G'
theorem Fr.refl (h:List AObj) (G:Nat) (L:List Q):Fr h G L h G L:=⟨y02 _,fun _ _ _=>rfl,fun e => .inl ⟨e,rfl⟩⟩
theorem Fr.trans {h h1 h2:List AObj} {G G1 G2:Nat} {L L1 L2:List Q} (a:Fr h G L h1 G1 L1) (b:Fr h1 G1 L1 h2 G2 L2):Fr h G L h2 G2 L2:=by
 refine ⟨Nat.le_trans a.len b.len,fun id hid hn => ?_,fun e => ?_⟩
 ·rw [b.oth id (Nat.lt_of_lt_of_le hid a.len) (fun q => ?_),a.oth id hid hn]
  rcases a.new q.1 with ⟨g1,g2⟩|g
  ·exact hn ⟨g1,by rw [q.2,g2]⟩
  ·have:=q.2; omega
 ·rcases b.new e with ⟨g1,g2⟩|g
  ·rcases a.new g1 with ⟨g3,g4⟩|g3
   ·exact .inl ⟨g3,by rw [g2,g4]⟩
   ·exact .inr (by rw [g2]; exact g3)
  ·exact .inr (Nat.le_trans a.len g)
theorem Fr.at_ {h h':List AObj} {G G':Nat} {L L':List Q} (a:Fr h G L h' G' L') {id:Nat} {l:List DV} (e:ziu0 h id=some l) (hn:L≠[]→id≠G):ziu0 h' id=some l:=by
 rw [a.oth id (z4sf e) fun q=>hn q.1 q.2]; exact e
theorem LH.app {m:MapD} {B G:Nat} {L:List Q} {h:List AObj} (q:LH m B G L h) (r:List AObj):LH m B G L (h++r):=⟨zjf6 r q.mo,fun e=>z7ko (q.lo e)⟩
theorem LH.put {m:MapD} {B G:Nat} {L:List Q} {h:List AObj} (q:LH m B G L h) (m':MapD):LH m' B G L (zn2r h B m'):=⟨zhoh m' q.mo,fun e=>by rw [zgk8]; exact q.lo e⟩
theorem LH.snoc {m:MapD} {B G:Nat} {L:List Q} {h:List AObj} (q:LH m B G L h) (x:Q):LH m B (lG h G L) (L++[x]) (lA h G L x):=by
 unfold lA lG
 by_cases e:L=[]
 ·subst e
  simp only [if_true]
  refine ⟨zjf6 _ q.mo,fun _ => ?_⟩
  have:=zzga (h:=h) (r:=[.cells (qC x)]) (id:=0)
  rw [y0z] at this
  rw [this]; simp [ziu0,lC]
 ·simp only [if_neg e]
  exact ⟨zv2a q.mo (q.lo e),fun _=>zhvw (q.lo e)⟩
theorem Fr.app (h r:List AObj) (G:Nat) (L:List Q):Fr h G L (h++r) G L:=⟨by simp,fun id hid _=>zn8w hid,fun e => .inl ⟨e,rfl⟩⟩
theorem Fr.put (h:List AObj) (B:Nat) (m:MapD) (G:Nat) (L:List Q):Fr h G L (zn2r h B m) G L:=⟨by rw [zajq]; exact y02 _,fun id _ _=>zgk8 h B m id,fun e => .inl ⟨e,rfl⟩⟩
theorem Fr.snoc (h:List AObj) (G:Nat) (L:List Q) (x:Q):Fr h G L (lA h G L x) (lG h G L) (L++[x]):=by
 unfold lA lG
 by_cases e:L=[]
 ·subst e
  simp only [if_true]
  exact ⟨by simp,fun id hid _=>zn8w hid,fun _ => .inr (y02 _)⟩
 ·simp only [if_neg e]
  exact ⟨by simp,fun id _ hn=>ztfj (fun q=>hn ⟨e,q.symm⟩),fun _ => .inl ⟨e,rfl⟩⟩
open Classical in
noncomputable def ptH (a0:List DV) (h0:List AObj) (r:DV) (h1:List AObj) (a:List DV) (h:List AObj):Option (DV × List AObj):=if a=a0∧h=h0 then some (r,h1) else none
theorem zpvh {a0:List DV} {h0:List AObj} {r:DV} {h1:List AObj}:ptH a0 h0 r h1 a0 h0=some (r,h1):=if_pos ⟨rfl,rfl⟩
theorem zdmv {k:Nat} {a0:List DV} {h0:List AObj} {r:DV} {h1:List AObj} (hc:zwy1 P k a0 h0 (fun d h=>d=r∧h=h1)):(Con.heap (ptH a0 h0 r h1)).Sound P k:=by
 intro a h v h' e
 unfold ptH at e
 split at e
 ·rename_i q
  obtain ⟨rfl,rfl⟩:=q
  simp only [Option.some.injEq,Prod.mk.injEq] at e
  obtain ⟨rfl,rfl⟩:=e
  exact hc
 ·simp at e
theorem exTH {k:Nat} {a0:List DV} {h0:List AObj} {r:DV} {h1:List AObj} {T:Tbl} (hs:T.Sound P) (hc:zwy1 P k a0 h0 (fun d h=>d=r∧h=h1)) :
  ∃ (T':Tbl) (f:List DV→List AObj→Option (DV × List AObj)),T'.Sound P∧T' k = .heap f∧f a0 h0=some (r,h1) ∧ ∀ j,j≠k→T' j=T j :=
 ⟨addT k (.heap (ptH a0 h0 r h1)) T,ptH a0 h0 r h1,z0rp (zdmv hc) hs,by simp [addT],zpvh,fun j hj=>by simp [addT,hj]⟩
end
section
set_option linter.unusedSimpArgs false
set_option linter.unusedVariables false
open Go Go.Am
theorem zq5p {x y:Pt} (e:ptC x=ptC y):x=y:=by
 cases x<;>cases y<;>simp [ptC,Pt.kind,Pt.chr,z21y] at e ⊢ <;> exact e
noncomputable def zyoe:List DV→Option DV:=con (fun (_:Pt)=>True) (fun x=>[.agg (ptC x)]) zqvz
theorem zkt2 {x:Pt}:zyoe [.agg [.int .i64 x.kind,w8 x.chr]]=some (zqvz x) :=
 z400 (A:=fun (_:Pt)=>True) (a:=x) (f:=fun x=>[.agg (ptC x)]) (g:=zqvz) (by intro a b _ _ e; simp only [List.cons.injEq,DV.agg.injEq,and_true] at e; rw [zq5p e]) trivial
noncomputable def zupo:List DV→Option DV:=con (fun (_:Pt)=>True) (fun x=>[.agg (ptC x)]) (fun x => .bool x.long)
theorem zfa9 {x:Pt}:zupo [.agg [.int .i64 x.kind,w8 x.chr]]=some (.bool x.long) :=
 z400 (A:=fun (_:Pt)=>True) (a:=x) (f:=fun x=>[.agg (ptC x)]) (g:=fun x => .bool x.long) (by intro a b _ _ e; simp only [List.cons.injEq,DV.agg.injEq,and_true] at e; rw [zq5p e]) trivial
noncomputable def zst5:List DV→Option DV:=con (fun (_:B8 × B8)=>True) (fun a=>[w8 a.1,.ref [.int .i64 0,w8 a.2]]) (fun a => .bool (a.1 == a.2))
theorem zebc {b c:B8}:zst5 [w8 b,.ref [.int .i64 0,w8 c]]=some (.bool (b == c)) :=
 z400 (A:=fun (_:B8 × B8)=>True) (a:=(b,c)) (f:=fun a=>[w8 a.1,.ref [.int .i64 0,w8 a.2]]) (g:=fun a => .bool (a.1 == a.2)) (by
  rintro ⟨a,b⟩ ⟨c,d⟩ _ _ e; simp only [List.cons.injEq,DV.ref.injEq,z21y,and_true,true_and] at e; obtain ⟨rfl,rfl⟩:=e; rfl) trivial
noncomputable def z22e:List DV→Option DV:=con (fun (_:B8)=>True) (fun a=>[w8 a]) (fun _ => .bool true)
theorem zx0u {b:B8}:z22e [w8 b]=some (.bool true) :=
 z400 (A:=fun (_:B8)=>True) (a:=b) (f:=fun a=>[w8 a]) (g:=fun _ => .bool true) (by intros; rfl) trivial
noncomputable def z489:List DV→Option DV:=con (fun (_:B8)=>True) (fun a=>[w8 a]) (fun a => .bool (a != 47#8))
theorem z936 {b:B8}:z489 [w8 b]=some (.bool (b != 47#8)) :=
 z400 (A:=fun (_:B8)=>True) (a:=b) (f:=fun a=>[w8 a]) (g:=fun a => .bool (a != 47#8)) (by intro a b _ _ e; simp only [List.cons.injEq,z21y,and_true] at e; rw [e]) trivial
noncomputable def T59:Tbl:=addT 24 (.pure zyoe) (addT 25 (.pure zupo) (addT 44 (.pure zst5) (addT 45 (.pure z22e) (addT 46 (.pure z489)
 (addT 19 (.pure (cS z8r4)) (addT 23 (.pure (cS za1j)) tbl0))))))
theorem zi6l:T59 24 = .pure zyoe:=by simp [T59]
theorem zzbb:T59 25 = .pure zupo:=by simp [T59]
theorem zi94:T59 44 = .pure zst5:=by simp [T59]
theorem zf3w:T59 45 = .pure z22e:=by simp [T59]
theorem zev5:T59 46 = .pure z489:=by simp [T59]
theorem znm8:T59 19 = .pure (cS z8r4):=by simp [T59]
theorem zhd4:T59 23 = .pure (cS za1j):=by simp [T59]
theorem zy0e:T59.Sound P :=
 z0rp (z2au fun x _=>zljw mix zr5o Try.func24 zcoa (z2em x))
 (z0rp (z2au fun x _=>zljw mix zr5o Try.func25 zgum (z439 x))
 (z0rp (z2au fun a _=>zljw mix zr5o Try.func44 zeo7 (zakd a.1 a.2))
 (z0rp (z2au fun a _=>zljw mix zr5o Try.func45 z94d (zl0d a))
 (z0rp (z2au fun a _=>zljw mix zr5o Try.func46 znv1 (zacs a))
 (z0rp (zzn8 fun p=>zljw mix zhpa Try.func19 zlqi (ztmv p))
 (z0rp (zzn8 fun p=>zljw mix zhpa Try.func23 ztyx (zqqw p)) zr5o))))))
theorem z6ly {y:Pt} {b:B8} {h:List AObj}:z46a T59 false (zqvz y) [w8 b] h=some (.bool (y.takes b),h):=by
 cases y with
 | one c=>simp [zqvz,zxj6,zi94,zebc,Pt.takes]
 | dot=>simp [zqvz,zxj6,zev5,z936,Pt.takes]
 | some=>simp [zqvz,zxj6,zev5,z936,Pt.takes]
 | whole=>simp [zqvz,zxj6,zf3w,zx0u,Pt.takes]
def zkxs (f:Nat→Bool) (n:Nat):List Bool:=(List.range (n+1)).map f
def inn (f:Nat→Bool) (i n:Nat):List Bool:=(List.range (n+1)).map fun j=>decide (j≤i)&&f j
def zdol (m:Nat):List Bool:=List.replicate m false
theorem z4jn (f:Nat→Bool) (n:Nat):(zkxs f n).length=n+1:=by simp [zkxs]
theorem zbo5 (f:Nat→Bool) (i n:Nat):(inn f i n).length=n+1:=by simp [inn]
theorem zj3v {f:Nat→Bool} {n i:Nat} (h:i<(zkxs f n).length):(zkxs f n)[i]=f i:=by simp [zkxs]
theorem zbgu {f:Nat→Bool} {n i:Nat} (h:i<(inn f i n).length):(inn f i n)[i]=f i:=by simp [inn]
theorem z09a (m:Nat):rep m (DV.bool false)=(zdol m).map DV.bool:=by simp [rep,zdol]
theorem zcql : ∀ (n:Nat) (s:List UInt8) (l:List Pt),s.length≤n→prs s = .some l→l.length≤s.length
 | _,[],l,_,h=>by simp [prs] at h; subst h; simp
 | 0,c::r,l,hn,h=>by simp at hn
 | n+1,c::r,l,hn,h=>by
  have hr:r.length≤n:=by simpa using hn
  have oneC : ∀ (q:List UInt8) (y:Pt),q.length≤r.length→(prs q).map (fun l=>y::l) = .some l→l.length≤(c::r).length:=by
   intro q y hq e
   obtain ⟨l',e1,e2⟩:=y0u.1 e
   have:=zcql n q l' (by omega) e1
   rw [← e2]; simp; omega
  by_cases h1:c=92
  ·subst h1
   match r,h with
   | [],h=>simp [zt8b] at h
   | d::r,h=>rw [z32i] at h; exact oneC r _ (by simp) h
  ·by_cases h2:c=42
   ·subst h2
    match r,h with
    | [],h=>simp [zkwm] at h; subst h; simp
    | d::r,h =>
     by_cases h3:d=42
     ·subst h3; rw [zqqt] at h; exact oneC r _ (by simp) h
     ·rw [zpjv h3] at h; exact oneC _ _ (y02 _) h
   ·by_cases h3:c=63
    ·subst h3; rw [z28c] at h; exact oneC r _ (y02 _) h
    ·rw [zmw4 h1 h2 h3] at h; exact oneC r _ (y02 _) h
theorem zxnm {p:List UInt8} {l:List Pt} (h:zfn1 p = .some l):l.length≤200:=by
 unfold zfn1 at h
 split at h
 ·rename_i hc
  have:=zcql _ p l (y02 _) h
  omega
 ·simp at h
theorem zuv7 (f:Nat→Bool) (n:Nat):(zdol (n+1)).set 0 (f 0)=inn f 0 n:=by
 apply y0h (by simp [zdol,inn])
 intro i h1 h2
 cases i with
 | zero=>simp [inn]
 | succ i=>simp [zdol,inn]
theorem z05s (l s) (n:Nat):(zdol (n+1)).set 0 true=zkxs (M l s 0) n:=by
 apply y0h (by simp [zdol,zkxs])
 intro i h1 h2
 cases i with
 | zero=>simp [zkxs,zbas]
 | succ i=>simp [zdol,zkxs,zbas]
theorem zaip {f:Nat→Bool} {i n:Nat} (h:i<n):(inn f i n).set (i+1) (f (i+1))=inn f (i+1) n:=by
 apply y0h (by simp [inn])
 intro j h1 h2
 rw [List.getElem_set]
 split
 ·rename_i e; subst e; simp [inn]
 ·rename_i e
  simp only [inn,List.getElem_map,List.getElem_range]
  by_cases hj:j≤i
  ·have:j≤i+1:=by omega
   simp [hj,this]
  ·have:¬ j≤i+1:=by omega
   simp [hj,this]
theorem zy1a (f:Nat→Bool) (n:Nat):inn f n n=zkxs f n:=by
 apply y0h (by simp [inn,zkxs])
 intro j h1 h2
 have:j≤n:=by simp [inn] at h1; omega
 simp [inn,zkxs,this]
theorem zf0q {pre l:List AObj} {j ver:Nat}:objV (pre++l) (pre.length+j) ver=objV l j ver:=by
 simp only [objV,ziu0]; rw [y0a (by omega)]; simp
theorem zjj2 {pre l:List AObj} {ver:Nat}:objV (pre++l) pre.length ver=objV l 0 ver:=by
 have:=zf0q (pre:=pre) (l:=l) (j:=0) (ver:=ver)
 simpa using this
theorem zxft {pre l:List AObj} {o:AObj}:(pre++l).set pre.length o=pre++l.set 0 o:=by rw [y0x _ _ (by omega)]; simp
theorem zm3y {pre l:List AObj} {j:Nat} {o:AObj}:(pre++l).set (pre.length+j) o=pre++l.set j o:=by rw [y0x _ _ (by omega)]; simp
theorem zhys : ∀ {l:List Pt} {k:Nat} (h:k<l.length),((z6j5 l).drop (k*2)).take 2=[.int .i64 l[k].kind,w8 l[k].chr]
 | x::l,0,_=>by simp [z6j5,ptC]
 | x::l,k+1,h=>by
  have:=zhys (l:=l) (k:=k) (by simpa using h)
  have e:z6j5 (x::l) = .int .i64 x.kind::w8 x.chr::z6j5 l:=by simp [z6j5,ptC]
  rw [e,show (k+1)*2=k*2+1+1 by omega]
  simpa using this
theorem z8ev {h:List AObj} {id off:Nat} {x:Bool} {l:List Bool} (hi:off<l.length):zy6o h id 1 off (.bool x) (some (l.map DV.bool))=some (.junk,h.set id (.cells ((l.set off x).map DV.bool))):=by
 rw [zltg rfl rfl (by simpa using hi),y10]
theorem zfp3 (f:Nat→Bool) (n:Nat):(rep (n+1) (DV.bool false)).set 0 (.bool (f 0))=(inn f 0 n).map DV.bool:=by
 rw [z09a,← zuv7,y10]
theorem zqiv (l s) (n:Nat):(rep (n+1) (DV.bool false)).set 0 (.bool true)=(zkxs (M l s 0) n).map DV.bool:=by
 rw [z09a,← z05s l s,y10]
theorem zfvc {a b:DV}:oneC 2 true [a,b]=some (.agg [a,b]):=rfl
theorem z0ay {h:List AObj} {id:Nat} {a b c d:DV} (hc:c.one=true) (hd:d.one=true):zy6o h id 2 0 (.agg [c,d]) (some [a,b])=some (.junk,h.set id (.cells [c,d])):=zfc1 rfl rfl (by simp [hc,hd])
structure X8 where
 k:Nat
 pre:List AObj
def S8 (l:List Pt) (s:List UInt8) (x:X8):St :=
 a9S0 (.str s) (.ms x.pre.length (s.length+1) 0 1 (s.length+1) (s.length+1)) (.sl false 2 l.length (z6j5 l)) (.int .i64 l.length) (.int .i64 x.k) (x.pre++[.cells ((zkxs (M l s x.k) s.length).map DV.bool)])
def S8b (l:List Pt) (s:List UInt8) (k:Nat) (y:Pt) (pre:List AObj) (i:Nat):St :=
 a9S1 (.str s) (.ms pre.length (s.length+1) 0 1 (s.length+1) (s.length+1)) (.mp (pre.length+1) 2 0) (zqvz y) (.ms (pre.length+2) (s.length+1) 0 1 (s.length+1) (s.length+1)) (.sl false 2 l.length (z6j5 l)) (.int .i64 l.length) (.int .i64 k) (.int .i64 s.length) (.int .i64 i)
  (pre++[.cells ((zkxs (M l s k) s.length).map DV.bool),.cells [.int .i64 y.kind,w8 y.chr],.cells ((inn (M l s (k+1)) i s.length).map DV.bool)])
theorem z3jz (p s:List UInt8):Runs T59 a9 [.str p,.str s] (.bool (zenh p s)):=by
 refine ⟨?_⟩
 cases hp:zfn1 p with
 | none =>
  have hm:zenh p s=false:=by rw [zenh,hp]
  simp (disch:=first|omega|simp<;>omega|fail) [-zA,-zB,-zC,-zD,-zE,a9,znm8,zk5k,z8r4,hp,zoby,hm]
 | some l =>
 by_cases hs:zj1f s=true
 case neg =>
  have hs:zj1f s=false:=by simpa using hs
  have hm:zenh p s=false:=by rw [zenh,hp]; simp [hs]
  simp (disch:=first|omega|simp<;>omega|fail) [-zA,-zB,-zC,-zD,-zE,a9,znm8,zhd4,zk5k,z8r4,hp,zoby,za1j,hs,hm]
 have hm:zenh p s=M l s l.length s.length:=by rw [zenh,hp]; simp [hs]
 have hsl:s.length≤200:=by simp only [zj1f,y01,decide_eq_true_eq] at hs; omega
 have hlp:=zxnm hp
 have hlc:=z4u6 l
 simp (disch:=first|omega|simp<;>omega|fail) [-zA,-zB,-zC,-zD,-zE,a9,znm8,zhd4,zk5k,z8r4,hp,zoby,za1j,hs]
 refine zlm5 (S8 l s) (fun x=>l.length-x.k) (fun x=>x.k≤l.length) ⟨0,[]⟩ (z515 (by simp (disch:=first|omega|simp<;>omega|fail) [-zA,-zB,-zC,-zD,-zE]) (by simp (disch:=first|omega|simp<;>omega|fail) [-zA,-zB,-zC,-zD,-zE]; exact (zqiv l s _).symm)) (by simp) (fun x hx => ?_)
 obtain ⟨k,pre⟩:=x
 simp only at hx
 have hlr:=z4jn (M l s k) s.length
 simp (disch:=first|omega|simp<;>omega|fail) [-zA,-zB,-zC,-zD,-zE,a9L0,a9S0,S8]
 by_cases h:k<l.length
 ·have h1:(k:Int)<l.length:=by omega
  have hg:=zhys h
  simp (disch:=first|omega|simp<;>omega|fail) [-zA,-zB,-zC,-zD,-zE,zfvc,z0ay,z8ev,h1,h,hg,zf0q,zjj2,zm3y,zxft,zi6l,zkt2,hlr,zj3v,zzbb,zfa9]
  have hgd:l.getD k .dot=l[k]:=by rw [y00,y03 h]; rfl
  obtain ⟨y,hy⟩ : ∃ y,l[k]=y:=⟨_,rfl⟩
  rw [hy] at hgd
  have hf0:M l s (k+1) 0=(y.long&&M l s k 0):=by rw [z9av,hgd]
  obtain ⟨b0,hb0⟩ : ∃ b0,M l s k 0=b0:=⟨_,rfl⟩
  cases b0
  all_goals
   rw [hb0] at hf0
   simp only [Bool.and_true,Bool.and_false] at hf0
   have hr0:=zfp3 (M l s (k+1)) s.length
   rw [hf0] at hr0
   simp (disch:=first|omega|simp<;>omega|fail) [-zA,-zB,-zC,-zD,-zE,zfvc,z0ay,z8ev,hy,hb0,zf0q,zjj2,zm3y,zxft,zzbb,zfa9]
   refine zlm5 (S8b l s k y pre) (fun i=>s.length-i) (fun i=>i≤s.length) 0 (z515 (by simp (disch:=first|omega|simp<;>omega|fail) [-zA,-zB,-zC,-zD,-zE]) (by simp (disch:=first|omega|simp<;>omega|fail) [-zA,-zB,-zC,-zD,-zE,hr0])) (by omega) (fun i hi => ?_)
   have hli:=zbo5 (M l s (k+1)) i s.length
   simp (disch:=first|omega|simp<;>omega|fail) [-zA,-zB,-zC,-zD,-zE,a9L1,a9S1,S8b]
   by_cases hs1:i<s.length
   ·have hs2:(i:Int)<s.length:=by omega
    have hba:=z8rj hs1
    by_cases hlg:y.long=true
    ·have hM:=zbwv (l:=l) (s:=s) (k:=k) (i:=i) (by rw [hgd]; exact hlg)
     rw [hgd,hba] at hM
     obtain ⟨v1,hv1⟩ : ∃ v1,M l s k (i+1)=v1:=⟨_,rfl⟩
     obtain ⟨v2,hv2⟩ : ∃ v2,M l s (k+1) i=v2:=⟨_,rfl⟩
     rw [hv1,hv2] at hM
     cases v1<;>cases v2
     all_goals
      simp only [Bool.false_or,Bool.true_or,Bool.false_and,y0y] at hM
      have hset:=zaip (f:=M l s (k+1)) hs1
      rw [hM] at hset
      simp (disch:=first|omega|simp<;>omega|fail) [-zA,-zB,-zC,-zD,-zE,zfvc,z8ev,hs1,hs2,hlg,zf0q,zjj2,zm3y,zxft,zzbb,zfa9,hlr,zj3v,hli,zbgu,z6ly,hv1,hv2]
      exact ⟨i+1,z515 (by simp (disch:=first|omega|simp<;>omega|fail) [-zA,-zB,-zC,-zD,-zE]) (by simp (disch:=first|omega|simp<;>omega|fail) [-zA,-zB,-zC,-zD,-zE,hset]),by omega,by omega⟩
    ·have hlg:y.long=false:=by simpa using hlg
     have hM:=ze32 (l:=l) (s:=s) (k:=k) (i:=i) (by rw [hgd]; exact hlg)
     rw [hgd,hba] at hM
     obtain ⟨v1,hv1⟩ : ∃ v1,M l s k i=v1:=⟨_,rfl⟩
     rw [hv1] at hM
     cases v1
     all_goals
      simp only [Bool.false_and,y0y] at hM
      have hset:=zaip (f:=M l s (k+1)) hs1
      rw [hM] at hset
      simp (disch:=first|omega|simp<;>omega|fail) [-zA,-zB,-zC,-zD,-zE,zfvc,z8ev,hs1,hs2,hlg,zf0q,zjj2,zm3y,zxft,zzbb,zfa9,hlr,zj3v,hli,zbgu,z6ly,hv1]
      exact ⟨i+1,z515 (by simp (disch:=first|omega|simp<;>omega|fail) [-zA,-zB,-zC,-zD,-zE]) (by simp (disch:=first|omega|simp<;>omega|fail) [-zA,-zB,-zC,-zD,-zE,hset]),by omega,by omega⟩
   ·have hs2:¬ (i:Int)<s.length:=by omega
    obtain rfl:i=s.length:=by omega
    simp (disch:=first|omega|simp<;>omega|fail) [-zA,-zB,-zC,-zD,-zE,hs2]
    refine ⟨⟨k+1,pre++[.cells ((zkxs (M l s k) s.length).map DV.bool),.cells [.int .i64 y.kind,w8 y.chr]]⟩,z515 (by simp (disch:=first|omega|simp<;>omega|fail) [-zA,-zB,-zC,-zD,-zE]) (by simp (disch:=first|omega|simp<;>omega|fail) [-zA,-zB,-zC,-zD,-zE,zy1a]),by show l.length-(k+1)<l.length-k; omega,by show k+1≤l.length; omega⟩
 ·have h1:¬ (k:Int)<l.length:=by omega
  obtain rfl:k=l.length:=by omega
  simp (disch:=first|omega|simp<;>omega|fail) [-zA,-zB,-zC,-zD,-zE,h1,zjj2,hlr,zj3v,hm]
end
section
set_option linter.unusedSimpArgs false
set_option linter.unusedVariables false
open Go Go.Am
theorem ziv7 {α:Type} [DecidableEq α] : ∀ {l m:List α},l.Nodup→(∀ x ∈ l,x ∈ m)→l.length≤m.length
 | [],m,_,_=>Nat.zero_le _
 | x::l,m,hn,hm=>by
  obtain ⟨h1,h2⟩:=List.nodup_cons.1 hn
  have hx:=hm x (by simp)
  have:=ziv7 (m:=m.erase x) h2 (fun y hy=>by
   have hne:y≠x:=fun e=>h1 (e▸hy)
   exact (List.mem_erase_of_ne hne).2 (hm y (by simp [hy])))
  rw [List.length_erase_of_mem hx] at this
  have:=List.length_pos_of_mem hx
  simp only [y04]
  omega
def boxL (n m:Nat):List Q:=(List.range (n+1)).flatMap fun i=>(List.range (m+1)).flatMap fun j=>(List.range 4).map fun k=>(i,j,k)
theorem z0bp {α β:Type} {f:α→List β} {c:Nat} (hf : ∀ a,(f a).length=c) : ∀ (l:List α),(l.flatMap f).length=l.length*c
 | []=>by simp
 | a::l=>by rw [y0f,y0e,hf,z0bp hf l,y04,Nat.add_mul]; omega
theorem zlpf (n m:Nat):(boxL n m).length=(n+1)*((m+1)*4):=by
 unfold boxL
 rw [z0bp (c:=(m+1)*4) (fun i=>by rw [z0bp (c:=4) (fun j=>by simp)]; simp),List.length_range]
def z4ew (n m:Nat) (x:Q):Prop:=x.1≤n∧x.2.1≤m∧x.2.2≤3
theorem z1w8 {n m:Nat} {x:Q} (h:z4ew n m x):x ∈ boxL n m:=by
 obtain ⟨i,j,k⟩:=x
 obtain ⟨h1,h2,h3⟩:=h
 simp only at h1 h2 h3
 simp only [boxL,List.mem_flatMap,List.mem_range,y08,Prod.mk.injEq]
 exact ⟨i,by omega,j,by omega,k,by omega,rfl,rfl,rfl⟩
structure CI (n m:Nat) (C:Came):Prop where
 box : ∀ e ∈ C,z4ew n m e.1
 nd:(C.map (·.1)).Nodup
theorem CI.len {n m:Nat} {C:Came} (h:CI n m C) (hn:n≤200) (hm:m≤200):C.length≤161604:=by
 have h1:=ziv7 (m:=boxL n m) h.nd (fun x hx=>by
  obtain ⟨e,he,rfl⟩:=y08.1 hx
  exact z1w8 (h.box e he))
 rw [zlpf,y0s] at h1
 have h2:(n+1)*((m+1)*4)≤201*(201*4):=Nat.mul_le_mul (by omega) (by omega)
 omega
theorem zjus : ∀ {C:Came} {x:Q},getC C x=none ↔ ∀ e ∈ C,e.1≠x
 | [],x=>by simp [getC]
 | (y,s)::r,x=>by
  have ih:=zjus (C:=r) (x:=x)
  simp only [getC]
  by_cases e:y=x
  ·simp [e]
  ·simp [e,ih]
theorem CI.snoc {n m:Nat} {C:Came} (h:CI n m C) {x:Q} {s:Stp} (hx:z4ew n m x) (hn:getC C x=none):CI n m (C++[(x,s)]):=by
 refine ⟨fun e he => ?_,?_⟩
 ·simp only [y0d,List.mem_singleton] at he
  rcases he with he|rfl
  ·exact h.box e he
  ·exact hx
 ·rw [List.map_append,List.nodup_append]
  refine ⟨h.nd,by simp,fun a ha b hb e => ?_⟩
  obtain ⟨q,hq,rfl⟩:=y08.1 ha
  simp at hb
  exact zjus.1 hn q hq (e.trans hb)
def lgP (p:List Pt) (i:Nat):Bool:=decide (i<p.length)&&(p.getD i .dot).long
def vis (p q:List Pt):Nat→Came→List Q→Q→Stp→Came × List Q
 | 0,C,L,_,_=>(C,L)
 | n+1,C,L,x,s=>if (getC C x).isSome=true then (C,L) else
  let a:=(C++[(x,s)],L++[x])
  let b:=if lgP p x.1=true then vis p q n a.1 a.2 (x.1+1,x.2.1,x.2.2) (x,0#8) else a
  if lgP q x.2.1=true then vis p q n b.1 b.2 (x.1,x.2.1+1,x.2.2) (x,0#8) else b
theorem ztmq {p q:List Pt} {n:Nat} {C:Came} {L:List Q} {x:Q} {s:Stp} (h:(getC C x).isSome=true):vis p q (n+1) C L x s=(C,L):=by rw [vis,if_pos h]
theorem z5aj {p q:List Pt} {n:Nat} {C:Came} {L:List Q} {x:Q} {s:Stp} (h:getC C x=none):vis p q (n+1) C L x s =
  (let b:=if lgP p x.1=true then vis p q n (C++[(x,s)]) (L++[x]) (x.1+1,x.2.1,x.2.2) (x,0#8) else (C++[(x,s)],L++[x])
   if lgP q x.2.1=true then vis p q n b.1 b.2 (x.1,x.2.1+1,x.2.2) (x,0#8) else b):=by rw [vis,if_neg (by simp [h])]
def pV (l:List Pt):DV := .sl false 2 l.length (z6j5 l)
structure CL (n m:Nat) (a:Came × List Q):Prop where
 ci:CI n m a.1
 le:a.2.length≤a.1.length
theorem zlxe (p q:List Pt) : ∀ (n:Nat) (C:Came) (L:List Q) (x:Q) (s:Stp),CL p.length q.length (C,L)→z4ew p.length q.length x→CL p.length q.length (vis p q n C L x s)
 | 0,C,L,x,s,h,hx=>h
 | n+1,C,L,x,s,h,hx=>by
  cases hg:getC C x with
  | some v=>rw [ztmq (by simp [hg])]; exact h
  | none =>
   rw [z5aj hg]
   have h1:CL p.length q.length (C++[(x,s)],L++[x]):=⟨h.ci.snoc hx hg,by have:=h.le; simp at this ⊢; exact this⟩
   have h2:CL p.length q.length (if lgP p x.1=true then vis p q n (C++[(x,s)]) (L++[x]) (x.1+1,x.2.1,x.2.2) (x,0#8) else (C++[(x,s)],L++[x])):=by
    split
    ·rename_i hl
     simp only [lgP,y01,decide_eq_true_eq] at hl
     exact zlxe p q n _ _ _ _ h1 ⟨by simp only; omega,hx.2.1,hx.2.2⟩
    ·exact h1
   simp only
   split
   ·rename_i hl
    simp only [lgP,y01,decide_eq_true_eq] at hl
    exact zlxe p q n _ _ _ _ h2 ⟨hx.1,by simp only; omega,hx.2.2⟩
   ·exact h2
def hV (h:List AObj) (x:Q) (s:Stp):List AObj:=h++[.cells (qC x),.cells (stC s),.cells [.int .i64 0,.int .i64 0,.int .i64 0,w8 0#8]]
def hW (h:List AObj) (B:Nat) (C:Came) (G:Nat) (L:List Q) (x:Q) (s:Stp):List AObj:=lA (zn2r (hV h x s) B (cM (C++[(x,s)]))) G L x
def gW (h:List AObj) (x:Q) (s:Stp) (B:Nat) (C:Came) (G:Nat) (L:List Q):Nat:=lG (zn2r (hV h x s) B (cM (C++[(x,s)]))) G L
theorem zchh {h:List AObj} {B:Nat} {C:Came} {G:Nat} {L:List Q} {x:Q} {s:Stp} (q:LH (cM C) B G L h):LH (cM (C++[(x,s)])) B (gW h x s B C G L) (L++[x]) (hW h B C G L x s):=((q.app _).put _).snoc x
theorem zrn1 (h:List AObj) (B:Nat) (C:Came) (G:Nat) (L:List Q) (x:Q) (s:Stp):Fr h G L (hW h B C G L x s) (gW h x s B C G L) (L++[x]):=((Fr.app h _ G L).trans (Fr.put _ B _ G L)).trans (Fr.snoc _ G L x)
theorem hW_x (h:List AObj) (B:Nat) (C:Came) (G:Nat) (L:List Q) (x:Q) (s:Stp) (hG:L≠[]→G<h.length):ziu0 (hW h B C G L x s) h.length=some (qC x)∧(gW h x s B C G L≠h.length)∧h.length<(hW h B C G L x s).length:=by
 have e0:ziu0 (zn2r (hV h x s) B (cM (C++[(x,s)]))) h.length=some (qC x):=by
  rw [zgk8]
  have:=zzga (h:=h) (r:=[.cells (qC x),.cells (stC s),.cells [.int .i64 0,.int .i64 0,.int .i64 0,w8 0#8]]) (id:=0)
  rw [y0z] at this
  exact this
 have e1:(zn2r (hV h x s) B (cM (C++[(x,s)]))).length=h.length+3:=by rw [zajq]; simp [hV]
 have hf:=Fr.snoc (zn2r (hV h x s) B (cM (C++[(x,s)]))) G L x
 have hne:gW h x s B C G L≠h.length:=by
  unfold gW lG
  split
  ·omega
  ·rename_i q; have:=hG q; omega
 refine ⟨hf.at_ e0 (fun q=>by have:=hG q; omega),hne,?_⟩
 have:=hf.len
 unfold hW
 omega
end
section
set_option linter.unusedSimpArgs false
set_option linter.unusedVariables false
open Go Go.Am
theorem zl58 {p:List Pt} {i:Nat} (h:i<p.length):lgP p i=p[i].long:=by simp [lgP,h,y00,y03 h]
theorem zcgi {p:List Pt} {i:Nat} (h:¬ i<p.length):lgP p i=false:=by simp [lgP,h]
theorem zfr7 {a b c:Int}:zvnk [.int .i64 0,.int .i64 0,.int .i64 0,w8 0#8] [(0,3,.agg [.int .i64 a,.int .i64 b,.int .i64 c])]=some (.agg [.int .i64 a,.int .i64 b,.int .i64 c,w8 0#8]):=rfl
theorem zjwp {a b c:DV}:oneC 3 true [a,b,c]=some (.agg [a,b,c]):=rfl
theorem zpdr {a b c d:DV}:oneC 4 true [a,b,c,d]=some (.agg [a,b,c,d]):=rfl
theorem zeo3 {h:List AObj} {id:Nat} {a b c d a' b' c' d':DV} (h1:a'.one=true) (h2:b'.one=true) (h3:c'.one=true) (h4:d'.one=true):zy6o h id 4 0 (.agg [a',b',c',d']) (some [a,b,c,d])=some (.junk,h.set id (.cells [a',b',c',d'])):=zfc1 rfl rfl (by simp [h1,h2,h3,h4])
theorem zybb {f:FuncId} {fn:Func} (hf:P.funcs[f]? = some fn) {af:AFn} (hc:zsjc P fn=some af) {args:List DV} {h k:List AObj} {v:DV} (hr:V P h.length af.code (retH af.res v k) ⟨zr5g af.ntmps args,h⟩):zwy1 P f args h (fun d k'=>d=v∧k'=k) :=
 zcpc hf hc (zftn (fun _ _ h=>h.out) hr)
theorem z3ok (s:Stp):mvOf (.agg [.int .i64 s.1.1,.int .i64 s.1.2.1,.int .i64 s.1.2.2,w8 s.2])=some (mvS s):=rfl
theorem zrln (C:Came) (x:Q) (s:Stp):cM C++[([(x.1:Int),(x.2.1:Int),(x.2.2:Int)],mvS s)]=cM (C++[(x,s)]):=zt3q C x s
def sV (S X:Nat) (v:DV) (h:List AObj):St:=⟨[.mp S 3 0,v,.junk,.junk,.junk,.junk,.mp X 3 0]++js 90,h⟩
structure MidV (S X:Nat) (v:DV) (h:List AObj) (e:AExit) (s:St):Prop where
 ex:e = .normal ∧ ∀ n0,Weak n0 s (sV S X v h)
theorem zapw (p q:List Pt) (hp:p.length≤200) (hq:q.length≤200) (S B:Nat) : ∀ (n:Nat) (C:Came) (L:List Q) (x:Q) (s:Stp) (h:List AObj) (G:Nat),
  (p.length-x.1)+(q.length-x.2.1)<n→z4ew p.length q.length x→CL p.length q.length (C,L)→LH (cM C) B G L h→ziu0 h S=some [pV p,pV q,.mapv B]→(L≠[]→S≠G) →
  ∃ G' h',zwy1 P 20 [.mp S 3 0,lV G L,.agg (qC x),.agg (stC s)] h (fun d k=>d=lV G' (vis p q n C L x s).2∧k=h')∧LH (cM (vis p q n C L x s).1) B G' (vis p q n C L x s).2 h'∧Fr h G L h' G' (vis p q n C L x s).2
 | 0,C,L,x,s,h,G,hn,_,_,_,_,_=>absurd hn (by omega)
 | n+1,C,L,x,s,h,G,hn,hx,hc,hl,hs,hG=>by
  have hmo:=hl.mo
  have hlk:=zsqh C x
  simp only [qK] at hlk
  have vS : ∀ r,objV (h++r) S 3=some [pV p,pV q,.mapv B]:=fun r=>zw28 (z7ko hs) rfl
  have vM : ∀ r,zfel (h++r) B=some (cM C):=fun r=>zjf6 r hmo
  cases hg:getC C x with
  | some v =>
   rw [ztmq (by simp [hg])]
   rw [hg] at hlk
   refine ⟨G,h++[.cells (qC x),.cells (stC s),.cells (stC v)],zybb Try.func20 zfgm ?_,hl.app _,Fr.app _ _ _ _⟩
   refine V_W mix zy0e ?_
   simp (disch:=first|omega|simp<;>omega|fail) [-zA,-zB,-zC,-zD,-zE,a20,qC,stC,zf0q,zjj2,zm3y,zxft,vS,vM,hlk,lkD,zbb3,zeo3,zjwp,zpdr]
  | none =>
   rw [z5aj hg]
   rw [hg] at hlk
   have hL:L.length≤1000000:=by have h1:=hc.le; have h2:=hc.ci.len hp hq; simp only at h1 h2; omega
   have h1:=zchh (x:=x) (s:=s) hl
   have f1:=zrn1 h B C G L x s
   obtain ⟨x1,x2,x3⟩:=hW_x h B C G L x s (fun e=>z4sf (hl.lo e))
   have hSl:=z4sf hs
   have s1:=f1.at_ hs hG
   have c1:CL p.length q.length (C++[(x,s)],L++[x]):=⟨hc.ci.snoc hx hg,by have:=hc.le; simp at this ⊢; exact this⟩
   have n1:S≠gW h x s B C G L:=fun e=>by
    rcases f1.new (by simp) with ⟨g1,g2⟩|g
    ·exact hG g1 (e.trans g2)
    ·omega
   have happ:=zh68 (h:=zn2r (hV h x s) B (cM (C++[(x,s)]))) (G:=G) (L:=L) (x:=x) (fun e=>by rw [zgk8]; exact z7ko (hl.lo e)) hL
   change _=some (lV (gW h x s B C G L) (L++[x]),hW h B C G L x s) at happ
   generalize hh1:hW h B C G L x s=k1 at h1 f1 x1 x3 s1 happ
   generalize hg1:gW h x s B C G L=G1 at h1 f1 x2 n1 happ
   obtain ⟨b,hb⟩ : ∃ b,(if lgP p x.1=true then vis p q n (C++[(x,s)]) (L++[x]) (x.1+1,x.2.1,x.2.2) (x,0#8) else (C++[(x,s)],L++[x]))=b:=⟨_,rfl⟩
   obtain ⟨G2,k2,t1,t2,t3,t4,t5⟩ : ∃ G2 k2,(lgP p x.1=true→zwy1 P 20 [.mp S 3 0,lV G1 (L++[x]),.agg (qC (x.1+1,x.2.1,x.2.2)),.agg (stC (x,0#8))] k1 (fun d k=>d=lV G2 b.2∧k=k2))∧(lgP p x.1=false→b.2=L++[x]∧G2=G1∧k2=k1)∧LH (cM b.1) B G2 b.2 k2∧Fr k1 G1 (L++[x]) k2 G2 b.2∧CL p.length q.length b:=by
    by_cases e:lgP p x.1=true
    ·rw [if_pos e] at hb
     have e':=e
     simp only [lgP,y01,decide_eq_true_eq] at e'
     have hbx:z4ew p.length q.length (x.1+1,x.2.1,x.2.2):=⟨by simp only; omega,hx.2.1,hx.2.2⟩
     obtain ⟨G2,k2,r1,r2,r3⟩:=zapw p q hp hq S B n (C++[(x,s)]) (L++[x]) (x.1+1,x.2.1,x.2.2) (x,0#8) k1 G1 (by simp only; omega) hbx c1 h1 s1 (fun _=>n1)
     have r4:=zlxe p q n (C++[(x,s)]) (L++[x]) (x.1+1,x.2.1,x.2.2) (x,0#8) c1 hbx
     rw [hb] at r1 r2 r3 r4
     exact ⟨G2,k2,fun _=>r1,(fun q=>by rw [q] at e; cases e),r2,r3,r4⟩
    ·rw [if_neg e] at hb
     subst hb
     exact ⟨G1,k1,fun q=>absurd q e,fun _=>⟨rfl,rfl,rfl⟩,h1,.refl _ _ _,c1⟩
   have s2:=t4.at_ s1 (fun _=>n1)
   have x4:=t4.at_ x1 (fun _=>Ne.symm x2)
   have n2:b.2≠[]→S≠G2:=fun q e=>by
    rcases t4.new q with ⟨_,g2⟩|g
    ·exact n1 (e.trans g2)
    ·have:=z4sf s1; omega
   have n3:b.2≠[]→h.length≠G2:=fun q e=>by
    rcases t4.new q with ⟨_,g2⟩|g
    ·exact x2 (e.trans g2).symm
    ·omega
   rw [hb]
   obtain ⟨d,hd⟩ : ∃ d,(if lgP q x.2.1=true then vis p q n b.1 b.2 (x.1,x.2.1+1,x.2.2) (x,0#8) else b)=d:=⟨_,rfl⟩
   obtain ⟨G3,k3,u1,u2,u3,u4⟩ : ∃ G3 k3,(lgP q x.2.1=true→zwy1 P 20 [.mp S 3 0,lV G2 b.2,.agg (qC (x.1,x.2.1+1,x.2.2)),.agg (stC (x,0#8))] k2 (fun v k=>v=lV G3 d.2∧k=k3))∧(lgP q x.2.1=false→d.2=b.2∧G3=G2∧k3=k2)∧LH (cM d.1) B G3 d.2 k3∧Fr k2 G2 b.2 k3 G3 d.2:=by
    by_cases e:lgP q x.2.1=true
    ·rw [if_pos e] at hd
     have e':=e
     simp only [lgP,y01,decide_eq_true_eq] at e'
     have hbx:z4ew p.length q.length (x.1,x.2.1+1,x.2.2):=⟨hx.1,by simp only; omega,hx.2.2⟩
     obtain ⟨G3,k3,r1,r2,r3⟩:=zapw p q hp hq S B n b.1 b.2 (x.1,x.2.1+1,x.2.2) (x,0#8) k2 G2 (by simp only; omega) hbx t5 t3 s2 n2
     rw [hd] at r1 r2 r3
     exact ⟨G3,k3,fun _=>r1,(fun q=>by rw [q] at e; cases e),r2,r3⟩
    ·rw [if_neg e] at hd
     subst hd
     exact ⟨G2,k2,fun q=>absurd q e,fun _=>⟨rfl,rfl,rfl⟩,t3,.refl _ _ _⟩
   simp only [hd]
   refine ⟨G3,k3,zybb Try.func20 zfgm ?_,u3,(f1.trans t4).trans u4⟩
   clear u3 u4 t5
   have vX:objV k1 h.length 3=some (qC x):=zw28 x1 rfl
   have vX2:objV k2 h.length 3=some (qC x):=zw28 x4 rfl
   have vS1:objV k1 S 3=some [pV p,pV q,.mapv B]:=zw28 s1 rfl
   have vS2:objV k2 S 3=some [pV p,pV q,.mapv B]:=zw28 s2 rfl
   have vX0:objV (zn2r (hV h x s) B (cM (C++[(x,s)]))) h.length 3=some (qC x):=zw28 (by
    rw [zgk8]
    have:=zzga (h:=h) (r:=[.cells (qC x),.cells (stC s),.cells [.int .i64 0,.int .i64 0,.int .i64 0,w8 0#8]]) (id:=0)
    rw [y0z] at this
    exact this) rfl
   simp only [a20]
   refine zbn1 (V_W mix zy0e ?_)
   simp (disch:=first|omega|simp<;>omega|fail) [-zA,-zB,-zC,-zD,-zE,qC,stC]
   refine zbn1 (V_W mix zy0e ?_)
   simp (disch:=first|omega|simp<;>omega|fail) [-zA,-zB,-zC,-zD,-zE,zf0q,zjj2,zm3y,zxft,vS,vM,hlk,lkD,zeo3,zjwp,zpdr]
   refine zbn1 (V_W mix zy0e ?_)
   simp (disch:=first|omega|simp<;>omega|fail) [-zA,-zB,-zC,-zD,-zE,zf0q,zjj2,zm3y,zxft,vS,vM,hlk,lkD,zeo3,zjwp,zpdr,z3ok,zrln]
   refine zqfd (st':=⟨[.mp S 3 0,lV G L,.junk,.junk,.junk,.junk,.mp h.length 3 0]++js 90,zn2r (hV h x s) B (cM (C++[(x,s)]))⟩) (z515 (by simp (disch:=first|omega|simp<;>omega|fail) [-zA,-zB,-zC,-zD,-zE]) (by simp (disch:=first|omega|simp<;>omega|fail) [-zA,-zB,-zC,-zD,-zE,hV,qC,stC])) ?_
   simp only [qC] at happ vX0 vX vX2
   refine zbn1 (V_W mix zy0e ?_)
   simp (disch:=first|omega|simp<;>omega|fail) [-zA,-zB,-zC,-zD,-zE,zjwp,vX0,happ]
   refine zqfd (st':=sV S h.length (lV G1 (L++[x])) k1) (z515 (by simp (disch:=first|omega|simp<;>omega|fail) [-zA,-zB,-zC,-zD,-zE,sV]) (by simp (disch:=first|omega|simp<;>omega|fail) [-zA,-zB,-zC,-zD,-zE])) ?_
   simp only [sV]
   refine zbn1 (zftn (Φ:=MidV S h.length (lV G2 b.2) k2) (fun e st ⟨he,hw⟩ => ?_) ?_)
   ·subst he
    refine zqfd (hw _) ?_
    simp only [sV]
    by_cases e:x.2.1<q.length
    ·have e':(x.2.1:Int)<q.length:=by omega
     have hgc:=zhys e
     have hlg:=zl58 e
     cases hlo:q[x.2.1].long with
     | true =>
      rw [hlo] at hlg
      obtain ⟨TA,fA,sA,a1,a2,a3⟩:=exTH zy0e (u1 hlg)
      simp only [qC,stC] at a2
      push_cast at a2
      refine V_W mix sA ?_
      simp (disch:=first|omega|simp<;>omega|fail) [-zA,-zB,-zC,-zD,-zE,e',e,vX2,vS2,pV,hgc,zfvc,zjwp,zpdr,zfr7,a3,zzbb,zfa9,hlo,a1,a2]
     | false =>
      rw [hlo] at hlg
      obtain ⟨g0,g1,g2⟩:=u2 hlg
      refine V_W mix zy0e ?_
      simp (disch:=first|omega|simp<;>omega|fail) [-zA,-zB,-zC,-zD,-zE,e',e,vX2,vS2,pV,hgc,zfvc,zjwp,zpdr,zzbb,zfa9,hlo,g0,g1,g2]
    ·have e':¬ (x.2.1:Int)<q.length:=by omega
     obtain ⟨g0,g1,g2⟩:=u2 (zcgi e)
     refine V_W mix zy0e ?_
     simp (disch:=first|omega|simp<;>omega|fail) [-zA,-zB,-zC,-zD,-zE,e',vX2,vS2,pV,g0,g1,g2]
   ·by_cases e:x.1<p.length
    ·have e':(x.1:Int)<p.length:=by omega
     have hgc:=zhys e
     have hlg:=zl58 e
     cases hlo:p[x.1].long with
     | true =>
      rw [hlo] at hlg
      obtain ⟨TA,fA,sA,a1,a2,a3⟩:=exTH zy0e (t1 hlg)
      simp only [qC,stC] at a2
      push_cast at a2
      refine V_W mix sA ?_
      simp (disch:=first|omega|simp<;>omega|fail) [-zA,-zB,-zC,-zD,-zE,e',e,vX,vS1,pV,hgc,zfvc,zjwp,zpdr,zfr7,a3,zzbb,zfa9,hlo,a1,a2]
      exact ⟨rfl,fun _=>z515 (by simp (disch:=first|omega|simp<;>omega|fail) [-zA,-zB,-zC,-zD,-zE,sV]) (by simp (disch:=first|omega|simp<;>omega|fail) [-zA,-zB,-zC,-zD,-zE])⟩
     | false =>
      rw [hlo] at hlg
      obtain ⟨g0,g1,g2⟩:=t2 hlg
      refine V_W mix zy0e ?_
      simp (disch:=first|omega|simp<;>omega|fail) [-zA,-zB,-zC,-zD,-zE,e',e,vX,vS1,pV,hgc,zfvc,zjwp,zpdr,zzbb,zfa9,hlo]
      exact ⟨rfl,fun _=>z515 (by simp (disch:=first|omega|simp<;>omega|fail) [-zA,-zB,-zC,-zD,-zE,sV,g0,g1]) (by simp (disch:=first|omega|simp<;>omega|fail) [-zA,-zB,-zC,-zD,-zE,g2])⟩
    ·have e':¬ (x.1:Int)<p.length:=by omega
     obtain ⟨g0,g1,g2⟩:=t2 (zcgi e)
     refine V_W mix zy0e ?_
     simp (disch:=first|omega|simp<;>omega|fail) [-zA,-zB,-zC,-zD,-zE,e',vX,vS1,pV]
     exact ⟨rfl,fun _=>z515 (by simp (disch:=first|omega|simp<;>omega|fail) [-zA,-zB,-zC,-zD,-zE,sV,g0,g1]) (by simp (disch:=first|omega|simp<;>omega|fail) [-zA,-zB,-zC,-zD,-zE,g2])⟩
end
section
set_option linter.unusedSimpArgs false
set_option linter.unusedVariables false
open Go Go.Am
def aft (k:Nat) (c:B8):Option Nat:=if c=47#8 then (if k=3 then some 0 else none) else if c=46#8∧k≠3 then some (k+1) else some 3
def extD (k:Nat) (c:B8):DV := .tup [.int .i64 ((aft k c).getD 0),.bool (aft k c).isSome]
theorem zbdh (k:Nat) (c:B8) (hk:k≤3):Runs tbl0 a42 [.int .i64 k,w8 c] (extD k c):=by
 refine ⟨?_⟩
 by_cases h1:c=47#8
 ·have h1q:(c == 47#8)=true:=by simp [h1]
  by_cases h2:k=3
  ·have h2':(k:Int)=3:=by omega
   simp (disch:=first|omega|simp<;>omega|fail) [-zA,-zB,-zC,-zD,-zE,a42,h1,h1q,h2,h2',extD,aft]
  ·have h2':¬ (k:Int)=3:=by omega
   simp (disch:=first|omega|simp<;>omega|fail) [-zA,-zB,-zC,-zD,-zE,a42,h1,h1q,h2,h2',extD,aft]
 ·have h1q:(c == 47#8)=false:=by simp [h1]
  by_cases h3:c=46#8
  ·have h3q:(c == 46#8)=true:=by simp [h3]
   by_cases h2:k=3
   ·have h2':(k:Int)=3:=by omega
    simp (disch:=first|omega|simp<;>omega|fail) [-zA,-zB,-zC,-zD,-zE,a42,h1,h1q,h2,h2',h3,h3q,extD,aft]
   ·have h2':¬ (k:Int)=3:=by omega
    simp (disch:=first|omega|simp<;>omega|fail) [-zA,-zB,-zC,-zD,-zE,a42,h1,h1q,h2,h2',h3,h3q,extD,aft]
  ·have h3q:(c == 46#8)=false:=by simp [h3]
   simp (disch:=first|omega|simp<;>omega|fail) [-zA,-zB,-zC,-zD,-zE,a42,h1,h1q,h3,h3q,extD,aft]
noncomputable def cExt:List DV→Option DV:=con (fun a:Nat × B8=>a.1≤3) (fun a=>[.int .i64 a.1,w8 a.2]) (fun a=>extD a.1 a.2)
theorem z0oi {k:Nat} {c:B8} (h:k≤3):cExt [.int .i64 k,w8 c]=some (extD k c) :=
 z400 (A:=fun a:Nat × B8=>a.1≤3) (a:=(k,c)) (f:=fun a=>[.int .i64 a.1,w8 a.2]) (g:=fun a=>extD a.1 a.2) (by
  rintro ⟨a,b⟩ ⟨c,d⟩ _ _ e
  simp only [List.cons.injEq,DV.int.injEq,z21y,and_true,true_and] at e
  obtain ⟨e1,rfl⟩:=e
  have:a=c:=by omega
  subst this; rfl) h
noncomputable def TX:Tbl:=addT 42 (.pure cExt) T59
theorem zk4o:TX 42 = .pure cExt:=by simp [TX]
theorem ze36:TX 24 = .pure zyoe:=by simp [TX,T59]
theorem zvgr:TX 25 = .pure zupo:=by simp [TX,zzbb]
theorem zx3h:TX 44 = .pure zst5:=by simp [TX,zi94]
theorem z3ek:TX 45 = .pure z22e:=by simp [TX,zf3w]
theorem z999:TX 46 = .pure z489:=by simp [TX,zev5]
theorem zume:TX.Sound P:=z0rp (z2au fun a h=>zljw mix zr5o Try.func42 zl17 (zbdh a.1 a.2 h)) zy0e
theorem zv7f {k:Nat} {c:B8} {n:Nat} (hk:k≤3) (h:aft k c=some n):n≤3:=by
 unfold aft at h
 split at h
 ·split at h<;>simp at h; omega
 ·split at h
  ·simp at h; omega
  ·simp at h; omega
def adv (l:List Pt) (i:Nat):Nat:=if (l.getD i .dot).long=true then i else i+1
def fu:Nat:=401
def stp1 (p q:List Pt) (x:Q) (A:Came × List Q) (c:B8):Came × List Q :=
 match aft x.2.2 c with
 | none=>A
 | some k=>if (p.getD x.1 .dot).takes c=true∧(q.getD x.2.1 .dot).takes c=true then vis p q fu A.1 A.2 (adv p x.1,adv q x.2.1,k) (x,c) else A
def mvs (p q:List Pt) (cs:Pt→Pt→List B8) (A:Came × List Q) (x:Q):Came × List Q :=
 if x.1<p.length∧x.2.1<q.length then (cs (p.getD x.1 .dot) (q.getD x.2.1 .dot)).foldl (stp1 p q x) A else A
theorem z9l4 {p q:List Pt} {x:Q} {A:Came × List Q} {c:B8} (hx:z4ew p.length q.length x) (h1:x.1<p.length) (h2:x.2.1<q.length) (h:CL p.length q.length A):CL p.length q.length (stp1 p q x A c):=by
 unfold stp1
 split
 ·exact h
 ·rename_i k hk
  split
  ·refine zlxe p q fu _ _ _ _ h ⟨?_,?_,zv7f hx.2.2 hk⟩
   ·unfold adv; dsimp only; split<;>omega
   ·unfold adv; dsimp only; split<;>omega
  ·exact h
theorem z0z6 {p q:List Pt} {x:Q} (hx:z4ew p.length q.length x) (h1:x.1<p.length) (h2:x.2.1<q.length) : ∀ (cs:List B8) (A:Came × List Q),CL p.length q.length A→CL p.length q.length (cs.foldl (stp1 p q x) A)
 | [],A,h=>h
 | c::cs,A,h=>z0z6 hx h1 h2 cs _ (z9l4 hx h1 h2 h)
theorem zrnz {p q:List Pt} {cs:Pt→Pt→List B8} {x:Q} {A:Came × List Q} (hx:z4ew p.length q.length x) (h:CL p.length q.length A):CL p.length q.length (mvs p q cs A x):=by
 unfold mvs
 split
 ·rename_i e; exact z0z6 hx e.1 e.2 _ _ h
 ·exact h
def chP:Pt→Pt→List B8
 | .one c,_=>[c]
 | _,.one c=>[c]
 | _,_=>[97#8,47#8]
theorem zpon {a b:Pt} (h:a.kind=0):chP a b=[a.chr]:=by cases a<;>simp [Pt.kind] at h; rfl
theorem zzqz {a b:Pt} (h:¬ a.kind=0) (h':b.kind=0):chP a b=[b.chr]:=by cases a<;>simp [Pt.kind] at h<;>cases b<;>simp [Pt.kind] at h'<;>rfl
theorem zn0n {a b:Pt} (h:¬ a.kind=0) (h':¬ b.kind=0):chP a b=[97#8,47#8]:=by cases a<;>simp [Pt.kind] at h<;>cases b<;>simp [Pt.kind] at h'<;>rfl
end
section
set_option linter.unusedSimpArgs false
set_option linter.unusedVariables false
open Go Go.Am
theorem ze3y {rs:List ARes} {v:DV} {k:List AObj} {Ψ:DV→List AObj→Prop} (hq:Ψ v k) (e:AExit) (st:St) (h:retH rs v k e st):RetA rs Ψ e st:=by
 have h:=h.out
 cases e with
 | normal=>obtain ⟨d,h1,h2,h3⟩:=h; exact ⟨d,h1,by rw [h2,h3]; exact hq⟩
 | ret=>obtain ⟨d,h1,h2,h3⟩:=h; exact ⟨d,h1,by rw [h2,h3]; exact hq⟩
 | exit i=>exact h.elim
theorem zss1 (a b:Pt):(chP a b).length≤2:=by cases a<;>cases b<;>simp [chP]
theorem zpb2 {y:Pt} {b:B8} {h:List AObj}:z46a TX false (zqvz y) [w8 b] h=some (.bool (y.takes b),h):=by
 cases y with
 | one c=>simp [zqvz,zxj6,zx3h,zebc,Pt.takes]
 | dot=>simp [zqvz,zxj6,z999,z936,Pt.takes]
 | some=>simp [zqvz,zxj6,z999,z936,Pt.takes]
 | whole=>simp [zqvz,zxj6,z3ek,zx0u,Pt.takes]
theorem sto0 {h:List AObj} {id:Nat} {a b c:DV} {n:Int}:zy6o h id 1 0 (.int .i64 n) (some [a,b,c])=some (.junk,h.set id (.cells [.int .i64 n,b,c])):=by rw [zltg rfl rfl (by simp)]; rfl
theorem sto1 {h:List AObj} {id:Nat} {a b c:DV} {n:Int}:zy6o h id 1 1 (.int .i64 n) (some [a,b,c])=some (.junk,h.set id (.cells [a,.int .i64 n,c])):=by rw [zltg rfl rfl (by simp)]; rfl
theorem z8we {h:List AObj} {id:Nat} {a b c a' b' c':DV} (h1:a'.one=true) (h2:b'.one=true) (h3:c'.one=true):zy6o h id 3 0 (.agg [a',b',c']) (some [a,b,c])=some (.junk,h.set id (.cells [a',b',c'])):=zfc1 rfl rfl (by simp [h1,h2,h3])
theorem zlwt {a b c:Int}:zvnk [.int .i64 0,.int .i64 0,.int .i64 0] [(0,1,.int .i64 a),(1,1,.int .i64 b),(2,1,.int .i64 c)]=some (.agg [.int .i64 a,.int .i64 b,.int .i64 c]):=rfl
theorem zwp0 {a b c:Int} {d:B8}:zvnk [.int .i64 0,.int .i64 0,.int .i64 0,w8 0#8] [(0,3,.agg [.int .i64 a,.int .i64 b,.int .i64 c]),(3,1,w8 d)]=some (.agg [.int .i64 a,.int .i64 b,.int .i64 c,w8 d]):=rfl
def sB (S X:Nat) (cs:List B8) (v:DV) (h:List AObj) (i:Nat):St:=z38d (.mp S 3 0) v (.mp X 3 0) (.mp (X+1) 2 0) (.mp (X+2) 2 0) (.sl true 1 cs.length (cs.map w8)) (.int .i64 cs.length) (.int .i64 i) h
def MvP (p q:List Pt) (cs:Pt→Pt→List B8) (B:Nat) (C:Came) (L:List Q) (x:Q) (h:List AObj) (G:Nat) (d:DV) (k:List AObj):Prop :=
 ∃ G',d=lV G' (mvs p q cs (C,L) x).2∧LH (cM (mvs p q cs (C,L) x).1) B G' (mvs p q cs (C,L) x).2 k∧Fr h G L k G' (mvs p q cs (C,L) x).2
structure XB where
 i:Nat
 A:Came × List Q
 G:Nat
 h:List AObj
structure RB (p q:List Pt) (x:Q) (cs:List B8) (B:Nat) (C:Came) (L:List Q) (G:Nat) (h1:List AObj) (a:XB):Prop where
 le:a.i≤cs.length
 eq:a.A=(cs.take a.i).foldl (stp1 p q x) (C,L)
 l:LH (cM a.A.1) B a.G a.A.2 a.h
 f:Fr h1 G L a.h a.G a.A.2
def sC (S X:Nat) (cs:List B8) (v:DV) (h:List AObj):St:=⟨[.mp S 3 0,v,.junk,.junk,.junk,.mp X 3 0,.junk,.mp (X+1) 2 0,.mp (X+2) 2 0,.sl true 1 cs.length (cs.map w8)]++js 111,h⟩
structure MidC (S X:Nat) (cs:List B8) (v:DV) (h:List AObj) (e:AExit) (s:St):Prop where
 ex:e = .normal ∧ ∀ n0,Weak n0 s (sC S X cs v h)
theorem z0la (p q:List Pt) (hp:p.length≤200) (hq:q.length≤200) (S B:Nat) (C:Came) (L:List Q) (x:Q) (h:List AObj) (G:Nat)
  (hx:z4ew p.length q.length x) (hc:CL p.length q.length (C,L)) (hl:LH (cM C) B G L h) (hs:ziu0 h S=some [pV p,pV q,.mapv B]) (hG:L≠[]→S≠G) :
  zwy1 P 22 [.mp S 3 0,lV G L,.agg (qC x)] h (MvP p q chP B C L x h G):=by
 have vS : ∀ r,objV (h++r) S 3=some [pV p,pV q,.mapv B]:=fun r=>zw28 (z7ko hs) rfl
 have e1:((x.1:Int)=p.length)↔x.1=p.length:=by omega
 have e2:((x.2.1:Int)=q.length)↔x.2.1=q.length:=by omega
 obtain ⟨b1,b2,b3⟩:=hx
 by_cases h1:x.1=p.length
 ·have hm:mvs p q chP (C,L) x=(C,L):=by unfold mvs; rw [if_neg (by omega)]
  refine zcpc Try.func22 zi98 (zftn (ze3y (v:=lV G L) (k:=h++[.cells (qC x)]) (by unfold MvP; rw [hm]; exact ⟨G,rfl,hl.app _,Fr.app _ _ _ _⟩)) (V_W mix zume ?_))
  simp (disch:=first|omega|simp<;>omega|fail) [-zA,-zB,-zC,-zD,-zE,a22,qC,pV,zf0q,zjj2,vS,h1]
 by_cases h2:x.2.1=q.length
 ·have hm:mvs p q chP (C,L) x=(C,L):=by unfold mvs; rw [if_neg (by omega)]
  have h1':¬ (x.1:Int)=p.length:=by omega
  refine zcpc Try.func22 zi98 (zftn (ze3y (v:=lV G L) (k:=h++[.cells (qC x)]) (by unfold MvP; rw [hm]; exact ⟨G,rfl,hl.app _,Fr.app _ _ _ _⟩)) (V_W mix zume ?_))
  simp (disch:=first|omega|simp<;>omega|fail) [-zA,-zB,-zC,-zD,-zE,a22,qC,pV,zf0q,zjj2,vS,h1',h2]
 have h1':¬ (x.1:Int)=p.length:=by omega
 have h2':¬ (x.2.1:Int)=q.length:=by omega
 have g1:x.1<p.length:=by omega
 have g2:x.2.1<q.length:=by omega
 have ga:=zhys g1
 have gb:=zhys g2
 have da:p.getD x.1 .dot=p[x.1]:=by rw [y00,y03 g1]; rfl
 have db:q.getD x.2.1 .dot=q[x.2.1]:=by rw [y00,y03 g2]; rfl
 obtain ⟨a,ha⟩ : ∃ a,p[x.1]=a:=⟨_,rfl⟩
 obtain ⟨b,hb⟩ : ∃ b,q[x.2.1]=b:=⟨_,rfl⟩
 rw [ha] at ga da
 rw [hb] at gb db
 refine zcpc Try.func22 zi98 ?_
 simp only [a22]
 refine zbn1 (V_W mix zume ?_)
 simp (disch:=first|omega|simp<;>omega|fail) [-zA,-zB,-zC,-zD,-zE,qC]
 refine zbn1 (V_W mix zume ?_)
 simp (disch:=first|omega|simp<;>omega|fail) [-zA,-zB,-zC,-zD,-zE,pV,zf0q,zjj2,vS,h1',h2']
 refine zbn1 (V_W mix zume ?_)
 have hSl:=z4sf hs
 have hSn:¬ h.length+1=S:=by omega
 simp (disch:=first|omega|simp<;>omega|fail) [-zA,-zB,-zC,-zD,-zE,pV,zf0q,zjj2,vS,g1,g2,ga,gb,zfvc,z0ay,zm3y,zxft,hSn]
 obtain ⟨h3,hh3⟩ : ∃ h3,h++[AObj.cells [.int .i64 x.1,.int .i64 x.2.1,.int .i64 x.2.2],.cells [.int .i64 a.kind,w8 a.chr],.cells [.int .i64 b.kind,w8 b.chr]]=h3:=⟨_,rfl⟩
 rw [hh3]
 have l3:LH (cM C) B G L h3:=by rw [← hh3]; exact hl.app _
 have f3:Fr h G L h3 G L:=by rw [← hh3]; exact Fr.app _ _ _ _
 have o0:ziu0 h3 h.length=some (qC x):=by
  rw [← hh3]; exact zzga (h:=h) (id:=0)
 have o1:ziu0 h3 (h.length+1)=some [.int .i64 a.kind,w8 a.chr]:=by
  rw [← hh3]; exact zzga (h:=h) (id:=1)
 have o2:ziu0 h3 (h.length+2)=some [.int .i64 b.kind,w8 b.chr]:=by
  rw [← hh3]; exact zzga (h:=h) (id:=2)
 have oS:=f3.at_ hs hG
 have nG : ∀ j,L≠[]→h.length+j≠G:=fun j e=>by have:=z4sf (hl.lo e); omega
 have v1:objV h3 (h.length+1) 2=some [.int .i64 a.kind,w8 a.chr]:=zw28 o1 rfl
 have v2:objV h3 (h.length+2) 2=some [.int .i64 b.kind,w8 b.chr]:=zw28 o2 rfl
 refine zbn1 (V_W mix zume ?_)
 simp (disch:=first|omega|simp<;>omega|fail) [-zA,-zB,-zC,-zD,-zE]
 refine zbn1 (zftn (Φ:=MidC S h.length (chP a b) (lV G L) h3) (fun e s ⟨he,hw⟩ => ?_) ?_)
 rotate_left 1
 ·by_cases k1:a.kind=0
  ·refine V_W mix zume ?_
   simp (disch:=first|omega|simp<;>omega|fail) [-zA,-zB,-zC,-zD,-zE,v1,k1]
   exact ⟨rfl,fun _=>z515 (by simp (disch:=first|omega|simp<;>omega|fail) [-zA,-zB,-zC,-zD,-zE,sC,zpon k1]) (by simp (disch:=first|omega|simp<;>omega|fail) [-zA,-zB,-zC,-zD,-zE])⟩
  ·by_cases k2:b.kind=0
   ·refine V_W mix zume ?_
    simp (disch:=first|omega|simp<;>omega|fail) [-zA,-zB,-zC,-zD,-zE,v1,v2,k1,k2]
    exact ⟨rfl,fun _=>z515 (by simp (disch:=first|omega|simp<;>omega|fail) [-zA,-zB,-zC,-zD,-zE,sC,zzqz k1 k2]) (by simp (disch:=first|omega|simp<;>omega|fail) [-zA,-zB,-zC,-zD,-zE])⟩
   ·refine V_W mix zume ?_
    simp (disch:=first|omega|simp<;>omega|fail) [-zA,-zB,-zC,-zD,-zE,v1,v2,k1,k2]
    exact ⟨rfl,fun _=>z515 (by simp (disch:=first|omega|simp<;>omega|fail) [-zA,-zB,-zC,-zD,-zE,sC,zn0n k1 k2]) (by simp (disch:=first|omega|simp<;>omega|fail) [-zA,-zB,-zC,-zD,-zE])⟩
 subst he
 refine zqfd (hw _) ?_
 have hmv:mvs p q chP (C,L) x=(chP a b).foldl (stp1 p q x) (C,L):=by unfold mvs; rw [if_pos ⟨g1,g2⟩,da,db]
 have hc2:(chP a b).length≤2:=zss1 a b
 generalize chP a b=cs at hmv hc2
 simp only [sC]
 refine zbn1 (zbn1 (V_W mix zume ?_))
 simp (disch:=first|omega|simp<;>omega|fail) [-zA,-zB,-zC,-zD,-zE]
 refine z3mo (ztbr (fun a:XB=>sB S h.length cs (lV a.G a.A.2) a.h a.i) (fun a=>cs.length-a.i) (RB p q x cs B C L G h3) ⟨0,(C,L),G,h3⟩ (z515 (by simp (disch:=first|omega|simp<;>omega|fail) [-zA,-zB,-zC,-zD,-zE,sB,z38d]) (by simp (disch:=first|omega|simp<;>omega|fail) [-zA,-zB,-zC,-zD,-zE,sB,z38d])) ⟨by simp,by simp,l3,.refl _ _ _⟩ (fun y hy => ?_))
 obtain ⟨i,A,G',k⟩:=y
 obtain ⟨q1,q2,q3,q4⟩:=hy
 simp only at q1 q2 q3 q4
 simp only [zved,z38d,sB]
 refine zbn1 (V_W mix zume ?_)
 simp (disch:=first|omega|simp<;>omega|fail) [-zA,-zB,-zC,-zD,-zE]
 by_cases hi:i<cs.length
 ·have hi':(i:Int)<cs.length:=by omega
  have hx':z4ew p.length q.length x:=⟨b1,b2,b3⟩
  have hcl:CL p.length q.length A:=by rw [q2]; exact z0z6 hx' g1 g2 _ _ hc
  have hcs:cs.take (i+1)=cs.take i++[cs[i]]:=zmqh hi
  obtain ⟨c,hcc⟩ : ∃ c,cs[i]=c:=⟨_,rfl⟩
  rw [hcc] at hcs
  have q2':(cs.take (i+1)).foldl (stp1 p q x) (C,L)=stp1 p q x A c:=by rw [hcs,List.foldl_append,← q2]; rfl
  have w0:objV k h.length 3=some (qC x):=zw28 (q4.at_ o0 (fun e=>nG 0 e)) rfl
  have w1:objV k (h.length+1) 2=some [.int .i64 a.kind,w8 a.chr]:=zw28 (q4.at_ o1 (nG 1)) rfl
  have w2:objV k (h.length+2) 2=some [.int .i64 b.kind,w8 b.chr]:=zw28 (q4.at_ o2 (nG 2)) rfl
  have hcx:cExt [.int .i64 x.2.2,w8 c]=some (extD x.2.2 c):=z0oi b3
  simp only [qC] at w0
  refine zbn1 (V_W mix zume ?_)
  simp (disch:=first|omega|simp<;>omega|fail) [-zA,-zB,-zC,-zD,-zE,hi',hi]
  refine zbn1 (z3mo ?_)
  refine zbn1 (V_W mix zume ?_)
  simp (disch:=first|omega|simp<;>omega|fail) [-zA,-zB,-zC,-zD,-zE,hi',hi,hcc]
  refine zbn1 (V_W mix zume ?_)
  simp (disch:=first|omega|simp<;>omega|fail) [-zA,-zB,-zC,-zD,-zE,w0,zk4o,hcx,extD]
  by_cases hok:(aft x.2.2 c).isSome=true∧a.takes c=true∧b.takes c=true
  ·obtain ⟨k1,k2,k3⟩:=hok
   obtain ⟨nm,hnm⟩:=Option.isSome_iff_exists.1 k1
   have hst:stp1 p q x A c=vis p q fu A.1 A.2 (adv p x.1,adv q x.2.1,nm) (x,c):=by unfold stp1; rw [hnm]; simp only [da,db,k2,k3,and_self,if_true]
   refine zbn1 (V_W mix zume ?_)
   simp (disch:=first|omega|simp<;>omega|fail) [-zA,-zB,-zC,-zD,-zE,w1,w2,hnm,zfvc,ze36,zkt2,zpb2,k2,k3]
   have hla:lgP p x.1=a.long:=by rw [zl58 g1,ha]
   have hlb:lgP q x.2.1=b.long:=by rw [zl58 g2,hb]
   have hbx:z4ew p.length q.length (adv p x.1,adv q x.2.1,nm):=⟨by unfold adv; dsimp only; split<;>omega,by unfold adv; dsimp only; split<;>omega,zv7f b3 hnm⟩
   have hSk:=q4.at_ oS hG
   have nS:A.2≠[]→S≠G':=fun e q=>by
    rcases q4.new e with ⟨r1,r2⟩|r
    ·exact hG r1 (q.trans r2)
    ·have:=z4sf oS; omega
   obtain ⟨G4,k4,t1,t2,t3⟩:=zapw p q hp hq S B fu A.1 A.2 (adv p x.1,adv q x.2.1,nm) (x,c) (k++[.cells (qC (adv p x.1,adv q x.2.1,nm))]) G' (by unfold fu; omega) hbx hcl (q3.app _) (z7ko hSk) nS
   rw [← hst,← q2'] at t1 t2 t3
   obtain ⟨TA,fA,sA,a1,a2,a3⟩:=exTH zume t1
   have w0' : ∀ r,objV (k++r) h.length 3=some [.int .i64 x.1,.int .i64 x.2.1,.int .i64 x.2.2]:=fun r=>zw28 (z7ko (q4.at_ o0 (fun e=>nG 0 e))) rfl
   have w1' : ∀ r,objV (k++r) (h.length+1) 2=some [.int .i64 a.kind,w8 a.chr]:=fun r=>zw28 (z7ko (q4.at_ o1 (nG 1))) rfl
   have w2' : ∀ r,objV (k++r) (h.length+2) 2=some [.int .i64 b.kind,w8 b.chr]:=fun r=>zw28 (z7ko (q4.at_ o2 (nG 2))) rfl
   have hfin:RB p q x cs B C L G h3 ⟨i+1,(cs.take (i+1)).foldl (stp1 p q x) (C,L),G4,k4⟩:=⟨by simp only; omega,rfl,t2,(q4.trans (Fr.app _ _ _ _)).trans t3⟩
   generalize (cs.take (i+1)).foldl (stp1 p q x) (C,L)=A4 at t1 t2 t3 a2 hfin
   have adp:adv p x.1=if a.long=true then x.1 else x.1+1:=by unfold adv; rw [da]
   have adq:adv q x.2.1=if b.long=true then x.2.1 else x.2.1+1:=by unfold adv; rw [db]
   rw [adp,adq] at a2
   have T1:TA 25 = .pure zupo:=by rw [a3 _ (by decide),zvgr]
   cases la:a.long<;>cases lb:b.long
   all_goals
    simp only [la,lb,if_true,Bool.false_eq_true,if_false,qC,stC] at a2
    push_cast at a2
    refine V_W mix sA ?_
    simp (disch:=first|omega|simp<;>omega|fail) [-zA,-zB,-zC,-zD,-zE,w0,w1,w2,w0',w1',w2',hnm,zfvc,zjwp,zpdr,zlwt,zwp0,z8we,sto0,sto1,zjj2,zxft,T1,zfa9,la,lb,a1,a2]
    refine V_W mix zume ?_
    simp (disch:=first|omega|simp<;>omega|fail) [-zA,-zB,-zC,-zD,-zE]
    exact ⟨⟨i+1,A4,G4,k4⟩,z515 (by simp (disch:=first|omega|simp<;>omega|fail) [-zA,-zB,-zC,-zD,-zE]) (by simp (disch:=first|omega|simp<;>omega|fail) [-zA,-zB,-zC,-zD,-zE]),by simp only; omega,hfin⟩
  ·have hst:stp1 p q x A c=A:=by
    unfold stp1
    split
    ·rfl
    ·rename_i nm hnm
     rw [da,db,if_neg (fun e=>hok ⟨by rw [hnm]; rfl,e.1,e.2⟩)]
   rw [hst] at q2'
   have hfin:RB p q x cs B C L G h3 ⟨i+1,A,G',k⟩:=⟨by simp only; omega,q2'.symm,q3,q4⟩
   refine zbn1 (V_W mix zume ?_)
   cases hn:aft x.2.2 c with
   | none =>
    simp (disch:=first|omega|simp<;>omega|fail) [-zA,-zB,-zC,-zD,-zE,hn]
    refine V_W mix zume ?_
    simp (disch:=first|omega|simp<;>omega|fail) [-zA,-zB,-zC,-zD,-zE]
    exact ⟨⟨i+1,A,G',k⟩,z515 (by simp (disch:=first|omega|simp<;>omega|fail) [-zA,-zB,-zC,-zD,-zE]) (by simp (disch:=first|omega|simp<;>omega|fail) [-zA,-zB,-zC,-zD,-zE]),by simp only; omega,hfin⟩
   | some nm =>
    cases ka:a.takes c with
    | false =>
     simp (disch:=first|omega|simp<;>omega|fail) [-zA,-zB,-zC,-zD,-zE,hn,w1,w2,zfvc,ze36,zkt2,zpb2,ka]
     refine V_W mix zume ?_
     simp (disch:=first|omega|simp<;>omega|fail) [-zA,-zB,-zC,-zD,-zE]
     exact ⟨⟨i+1,A,G',k⟩,z515 (by simp (disch:=first|omega|simp<;>omega|fail) [-zA,-zB,-zC,-zD,-zE]) (by simp (disch:=first|omega|simp<;>omega|fail) [-zA,-zB,-zC,-zD,-zE]),by simp only; omega,hfin⟩
    | true =>
     have kb:b.takes c=false:=by
      cases kb:b.takes c with
      | false=>rfl
      | true=>exact absurd ⟨by rw [hn]; rfl,ka,kb⟩ hok
     simp (disch:=first|omega|simp<;>omega|fail) [-zA,-zB,-zC,-zD,-zE,hn,w1,w2,zfvc,ze36,zkt2,zpb2,ka,kb]
     refine V_W mix zume ?_
     simp (disch:=first|omega|simp<;>omega|fail) [-zA,-zB,-zC,-zD,-zE]
     exact ⟨⟨i+1,A,G',k⟩,z515 (by simp (disch:=first|omega|simp<;>omega|fail) [-zA,-zB,-zC,-zD,-zE]) (by simp (disch:=first|omega|simp<;>omega|fail) [-zA,-zB,-zC,-zD,-zE]),by simp only; omega,hfin⟩
 ·have hi':¬ (i:Int)<cs.length:=by omega
  refine zbn1 (V_W mix zume ?_)
  simp (disch:=first|omega|simp<;>omega|fail) [-zA,-zB,-zC,-zD,-zE,hi',hi]
  refine zftn (ze3y (v:=lV G' A.2) (k:=k) ?_) (V_W mix zume ?_)
  ·rw [y07 (by omega),← hmv] at q2
   subst q2
   exact ⟨G',rfl,q3,f3.trans q4⟩
  ·simp (disch:=first|omega|simp<;>omega|fail) [-zA,-zB,-zC,-zD,-zE]
end
section
set_option linter.unusedSimpArgs false
set_option linter.unusedVariables false
open Go Go.Am
def kC (C:Came):List Q:=C.map (·.1)
theorem z729 (C r:Came):kC (C++r)=kC C++kC r:=by simp [kC]
theorem zcii {C:Came} {x:Q}:getC C x=none↔x ∉ kC C:=by
 rw [zjus]
 constructor
 ·intro h hx
  obtain ⟨e,he,rfl⟩:=y08.1 hx
  exact h e he rfl
 ·intro h e he q
  exact h (y08.2 ⟨e,he,q⟩)
theorem zfzm {C:Came} {x:Q} (h:(getC C x).isSome=true):x ∈ kC C:=Classical.byContradiction fun e=>by rw [zcii.2 e] at h; simp at h
theorem znjp : ∀ {C:Came} {x:Q} {s:Stp},(kC C).Nodup→(x,s) ∈ C→getC C x=some s
 | (y,t)::r,x,s,hn,h=>by
  simp only [kC,y0n,List.nodup_cons] at hn
  simp only [getC]
  rcases y0g.1 h with e|h
  ·cases e; simp
  ·have:y≠x:=fun e=>hn.1 (e▸y08.2 ⟨_,h,rfl⟩)
   rw [if_neg this]
   exact znjp hn.2 h
theorem zn0o (p q:List Pt) : ∀ (n:Nat) (C:Came) (L:List Q) (x:Q) (s:Stp),∃ r:Came,vis p q n C L x s=(C++r,L++kC r)
 | 0,C,L,x,s=>⟨[],by simp [vis,kC]⟩
 | n+1,C,L,x,s=>by
  cases hg:getC C x with
  | some v=>exact ⟨[],by rw [ztmq (by simp [hg])]; simp [kC]⟩
  | none =>
   rw [z5aj hg]
   have h1 : ∃ r:Came,(if lgP p x.1=true then vis p q n (C++[(x,s)]) (L++[x]) (x.1+1,x.2.1,x.2.2) (x,0#8) else (C++[(x,s)],L++[x]))=(C++r,L++kC r):=by
    split
    ·obtain ⟨r,hr⟩:=zn0o p q n (C++[(x,s)]) (L++[x]) (x.1+1,x.2.1,x.2.2) (x,0#8)
     exact ⟨(x,s)::r,by rw [hr]; simp [kC]⟩
    ·exact ⟨[(x,s)],by simp [kC]⟩
   obtain ⟨r,hr⟩:=h1
   rw [hr]
   simp only
   split
   ·obtain ⟨r2,hr2⟩:=zn0o p q n (C++r) (L++kC r) (x.1,x.2.1+1,x.2.2) (x,0#8)
    exact ⟨r++r2,by rw [hr2,z729]; simp⟩
   ·exact ⟨r,rfl⟩
theorem zedd {p q:List Pt} {n:Nat} {C:Came} {L:List Q} {x:Q} {s:Stp} {y:Q} (h:y ∈ kC C):y ∈ kC (vis p q n C L x s).1:=by
 obtain ⟨r,hr⟩:=zn0o p q n C L x s
 rw [hr,z729]; exact y09 _ h
structure Es (p q:List Pt) (y:Q) (C:Came):Prop where
 a:lgP p y.1=true→(y.1+1,y.2.1,y.2.2) ∈ kC C
 b:lgP q y.2.1=true→(y.1,y.2.1+1,y.2.2) ∈ kC C
theorem Es.mono {p q:List Pt} {y:Q} {C C':Came} (h:Es p q y C) (hs : ∀ z,z ∈ kC C→z ∈ kC C'):Es p q y C':=⟨fun e=>hs _ (h.a e),fun e=>hs _ (h.b e)⟩
theorem zthm {p:List Pt} {i:Nat} (h:lgP p i=true):i<p.length:=by simp only [lgP,y01,decide_eq_true_eq] at h; exact h.1
theorem z3m9 (p q:List Pt) : ∀ (n:Nat) (C:Came) (L:List Q) (x:Q) (s:Stp),(p.length-x.1)+(q.length-x.2.1)<n→x ∈ kC (vis p q n C L x s).1 ∧ ∀ y,y ∈ kC (vis p q n C L x s).1→y ∈ kC C∨Es p q y (vis p q n C L x s).1
 | 0,C,L,x,s,h=>absurd h (by omega)
 | n+1,C,L,x,s,h=>by
  cases hg:getC C x with
  | some v=>rw [ztmq (by simp [hg])]; exact ⟨zfzm (by simp [hg]),fun y hy => .inl hy⟩
  | none =>
   rw [z5aj hg]
   have h1 : ∃ b:Came × List Q,(if lgP p x.1=true then vis p q n (C++[(x,s)]) (L++[x]) (x.1+1,x.2.1,x.2.2) (x,0#8) else (C++[(x,s)],L++[x]))=b∧(∀ y,y ∈ kC (C++[(x,s)])→y ∈ kC b.1)∧(lgP p x.1=true→(x.1+1,x.2.1,x.2.2) ∈ kC b.1) ∧ ∀ y,y ∈ kC b.1→y ∈ kC (C++[(x,s)])∨Es p q y b.1:=by
    by_cases e:lgP p x.1=true
    ·rw [if_pos e]
     have:=zthm e
     obtain ⟨g1,g2⟩:=z3m9 p q n (C++[(x,s)]) (L++[x]) (x.1+1,x.2.1,x.2.2) (x,0#8) (by simp only; omega)
     exact ⟨_,rfl,fun y hy=>zedd hy,fun _=>g1,g2⟩
    ·rw [if_neg e]
     exact ⟨_,rfl,fun y hy=>hy,fun q=>absurd q e,fun y hy => .inl hy⟩
   obtain ⟨b,hb,b1,b2,b3⟩:=h1
   rw [hb]
   have h2 : ∃ d:Came × List Q,(if lgP q x.2.1=true then vis p q n b.1 b.2 (x.1,x.2.1+1,x.2.2) (x,0#8) else b)=d∧(∀ y,y ∈ kC b.1→y ∈ kC d.1)∧(lgP q x.2.1=true→(x.1,x.2.1+1,x.2.2) ∈ kC d.1) ∧ ∀ y,y ∈ kC d.1→y ∈ kC b.1∨Es p q y d.1:=by
    by_cases e:lgP q x.2.1=true
    ·rw [if_pos e]
     have:=zthm e
     obtain ⟨g1,g2⟩:=z3m9 p q n b.1 b.2 (x.1,x.2.1+1,x.2.2) (x,0#8) (by simp only; omega)
     exact ⟨_,rfl,fun y hy=>zedd hy,fun _=>g1,g2⟩
    ·rw [if_neg e]
     exact ⟨_,rfl,fun y hy=>hy,fun q=>absurd q e,fun y hy => .inl hy⟩
   obtain ⟨d,hd,d1,d2,d3⟩:=h2
   simp only [hd]
   have hxm:x ∈ kC (C++[(x,s)]):=by simp [kC]
   refine ⟨d1 _ (b1 _ hxm),fun y hy => ?_⟩
   rcases d3 y hy with g|g
   ·rcases b3 y g with g'|g'
    ·rw [z729] at g'
     rcases y0d.1 g' with g'|g'
     ·exact .inl g'
     ·simp [kC] at g'; subst g'
      exact .inr ⟨fun e=>d1 _ (b2 e),d2⟩
    ·exact .inr (g'.mono d1)
   ·exact .inr g
def Ecl (p q:List Pt) (C:Came):Prop := ∀ y ∈ kC C,Es p q y C
theorem zp9x {p q:List Pt} {n:Nat} {C:Came} {L:List Q} {x:Q} {s:Stp} (h:Ecl p q C) (hn:(p.length-x.1)+(q.length-x.2.1)<n):Ecl p q (vis p q n C L x s).1:=fun y hy=>by
 rcases (z3m9 p q n C L x s hn).2 y hy with g|g
 ·exact (h y g).mono fun z hz=>zedd hz
 ·exact g
def cB (c:B8):List UInt8:=if c=0#8 then [] else [⟨c⟩]
def oQ:Q:=(0,0,0)
def edge (p q:List Pt) (f:Q) (c:B8) (y:Q):Prop :=
 (c=0#8∧((lgP p f.1=true∧y=(f.1+1,f.2.1,f.2.2))∨(lgP q f.2.1=true∧y=(f.1,f.2.1+1,f.2.2)))) ∨
 (c≠0#8∧f.1<p.length∧f.2.1<q.length∧(p.getD f.1 .dot).takes c=true∧(q.getD f.2.1 .dot).takes c=true ∧ ∃ k,aft f.2.2 c=some k∧y=(adv p f.1,adv q f.2.1,k))
def zv0a (p q:List Pt):Came→Prop
 | []=>True
 | (y,s)::r=>zv0a p q r∧y ∉ kC r∧((r=[]∧y=oQ)∨(s.1 ∈ kC r∧edge p q s.1 s.2 y))
def Good (p q:List Pt) (C:Came):Prop:=zv0a p q C.reverse
def wdR:Came→Q→List UInt8
 | [],_=>[]
 | (y,s)::r,x=>if y=x then (if r=[] then [] else wdR r s.1++cB s.2) else wdR r x
def wd (C:Came) (x:Q):List UInt8:=wdR C.reverse x
theorem zp1x (C:Came) (x:Q):x ∈ kC C.reverse↔x ∈ kC C:=by simp [kC]
theorem Good.snoc {p q:List Pt} {C:Came} {x:Q} {s:Stp} (h:Good p q C) (hn:getC C x=none) (hs:(C=[]∧x=oQ)∨(s.1 ∈ kC C∧edge p q s.1 s.2 x)):Good p q (C++[(x,s)]):=by
 unfold Good
 rw [y0k]
 refine ⟨h,fun e=>zcii.1 hn ((zp1x C x).1 e),?_⟩
 rcases hs with ⟨rfl,rfl⟩|⟨g1,g2⟩
 ·exact .inl ⟨rfl,rfl⟩
 ·exact .inr ⟨(zp1x C _).2 g1,g2⟩
theorem z784 (p q:List Pt) : ∀ (n:Nat) (C:Came) (L:List Q) (x:Q) (s:Stp),Good p q C→((C=[]∧x=oQ)∨(s.1 ∈ kC C∧edge p q s.1 s.2 x))→Good p q (vis p q n C L x s).1
 | 0,C,L,x,s,h,_=>h
 | n+1,C,L,x,s,h,hs=>by
  cases hg:getC C x with
  | some v=>rw [ztmq (by simp [hg])]; exact h
  | none =>
   rw [z5aj hg]
   have h1:=h.snoc hg hs
   have hxm:x ∈ kC (C++[(x,s)]):=by simp [kC]
   have h2:Good p q (if lgP p x.1=true then vis p q n (C++[(x,s)]) (L++[x]) (x.1+1,x.2.1,x.2.2) (x,0#8) else (C++[(x,s)],L++[x])).1∧x ∈ kC (if lgP p x.1=true then vis p q n (C++[(x,s)]) (L++[x]) (x.1+1,x.2.1,x.2.2) (x,0#8) else (C++[(x,s)],L++[x])).1:=by
    split
    ·rename_i hl
     exact ⟨z784 p q n _ _ _ _ h1 (.inr ⟨hxm,.inl ⟨rfl,.inl ⟨hl,rfl⟩⟩⟩),zedd hxm⟩
    ·exact ⟨h1,hxm⟩
   simp only
   split
   ·rename_i hl
    exact z784 p q n _ _ _ _ h2.1 (.inr ⟨h2.2,.inl ⟨rfl,.inr ⟨hl,rfl⟩⟩⟩)
   ·exact h2.1
theorem zkal {C:Came} {e:Q × Stp} {x:Q} (h:e.1≠x):wd (C++[e]) x=wd C x:=by
 unfold wd
 rw [y0k]
 show wdR (e::C.reverse) x=_
 obtain ⟨y,s⟩:=e
 rw [wdR,if_neg h]
theorem z2wh {C:Came} {x:Q} {s:Stp} (h:C≠[]):wd (C++[(x,s)]) x=wd C s.1++cB s.2:=by
 unfold wd
 rw [y0k]
 show wdR ((x,s)::C.reverse) x=_
 rw [wdR,if_pos rfl,if_neg (by simpa using h)]
theorem zum0 {x:Q} {s:Stp}:wd [(x,s)] x=[]:=by
 show wdR [(x,s)] x=[]
 rw [wdR,if_pos rfl,if_pos rfl]
def Len (m:Nat) (A:Came × List Q):Prop := ∀ y ∈ A.2,y ∈ kC A.1∧(wd A.1 y).length=m
theorem Len.snoc {m:Nat} {C:Came} {L:List Q} {x:Q} {s:Stp} (h:Len m (C,L)) (hn:getC C x=none) (hw:(wd (C++[(x,s)]) x).length=m):Len m (C++[(x,s)],L++[x]):=fun y hy=>by
 simp only at hy ⊢
 rcases y0d.1 hy with g|g
 ·obtain ⟨g1,g2⟩:=h y g
  have hne:x≠y:=fun e=>zcii.1 hn (e▸g1)
  rw [zkal (by exact hne)]
  exact ⟨by rw [z729]; exact y09 _ g1,g2⟩
 ·simp at g; subst g
  exact ⟨by simp [kC],hw⟩
theorem zhe2 (p q:List Pt) (m:Nat) : ∀ (n:Nat) (C:Came) (L:List Q) (x:Q) (s:Stp),Len m (C,L)→((C=[]∧m=0)∨(C≠[]∧s.1 ∈ kC C∧(wd C s.1++cB s.2).length=m)) →
  Len m (vis p q n C L x s) ∧ ∀ y ∈ kC C,wd (vis p q n C L x s).1 y=wd C y
 | 0,C,L,x,s,h,_=>⟨h,fun _ _=>rfl⟩
 | n+1,C,L,x,s,h,hs=>by
  cases hg:getC C x with
  | some v=>rw [ztmq (by simp [hg])]; exact ⟨h,fun _ _=>rfl⟩
  | none =>
   rw [z5aj hg]
   have hw:(wd (C++[(x,s)]) x).length=m:=by
    rcases hs with ⟨rfl,rfl⟩|⟨g1,_,g2⟩
    ·show (wd [(x,s)] x).length=0
     rw [zum0]; rfl
    ·rw [z2wh g1]; exact g2
   have h1:=h.snoc hg hw
   have hold : ∀ y ∈ kC C,wd (C++[(x,s)]) y=wd C y:=fun y hy=>zkal (by
    show x≠y
    intro e; exact zcii.1 hg (e▸hy))
   have hxm:x ∈ kC (C++[(x,s)]):=by simp [kC]
   have hne:C++[(x,s)]≠[]:=by simp
   have hx0:(wd (C++[(x,s)]) x++cB 0#8).length=m:=by simp [cB,hw]
   have h2 : ∃ b:Came × List Q,(if lgP p x.1=true then vis p q n (C++[(x,s)]) (L++[x]) (x.1+1,x.2.1,x.2.2) (x,0#8) else (C++[(x,s)],L++[x]))=b∧Len m b∧(∀ y ∈ kC (C++[(x,s)]),y ∈ kC b.1∧wd b.1 y=wd (C++[(x,s)]) y):=by
    split
    ·obtain ⟨g1,g2⟩:=zhe2 p q m n (C++[(x,s)]) (L++[x]) (x.1+1,x.2.1,x.2.2) (x,0#8) h1 (.inr ⟨hne,hxm,hx0⟩)
     exact ⟨_,rfl,g1,fun y hy=>⟨zedd hy,g2 y hy⟩⟩
    ·exact ⟨_,rfl,h1,fun y hy=>⟨hy,rfl⟩⟩
   obtain ⟨b,hb,b1,b2⟩:=h2
   rw [hb]
   have hCm : ∀ y ∈ kC C,y ∈ kC (C++[(x,s)]):=fun y hy=>by rw [z729]; exact y09 _ hy
   simp only
   split
   ·have hbn:b.1≠[]:=fun e=>by have:=(b2 x hxm).1; rw [e] at this; simp [kC] at this
    obtain ⟨g1,g2⟩:=zhe2 p q m n b.1 b.2 (x.1,x.2.1+1,x.2.2) (x,0#8) b1 (.inr ⟨hbn,(b2 x hxm).1,by rw [(b2 x hxm).2]; exact hx0⟩)
    exact ⟨g1,fun y hy=>by rw [g2 y (b2 y (hCm y hy)).1,(b2 y (hCm y hy)).2,hold y hy]⟩
   ·exact ⟨b1,fun y hy=>by rw [(b2 y (hCm y hy)).2,hold y hy]⟩
end
section
set_option linter.unusedSimpArgs false
set_option linter.unusedVariables false
open Go Go.Am
theorem zg9s {s t:List UInt8} {i:Nat} (h:i<s.length):bAt (s++t) i=bAt s i:=by
 unfold bAt; rw [y00,y00,y0c h]
theorem zthk {s:List UInt8} {c:UInt8}:bAt (s++[c]) s.length=c.toBitVec:=by
 unfold bAt; rw [y00,y0a (y02 _)]; simp
theorem z074 {x:Pt} {s t:List UInt8} {f g:Nat→Bool} : ∀ (i:Nat),i≤s.length→(∀ j,j≤i→f j=g j)→row x (s++t) f i=row x s g i
 | 0,_,h=>by simp [row,h 0 (y02 _)]
 | i+1,hi,h=>by
  rw [row,row,z074 i (by omega) (fun j hj=>h j (by omega)),h (i+1) (y02 _),h i (by omega),zg9s (by omega)]
theorem z216 {l:List Pt} {s t:List UInt8} : ∀ (k i:Nat),i≤s.length→M l (s++t) k i=M l s k i
 | 0,_,_=>rfl
 | k+1,i,hi=>z074 i hi fun j hj=>z216 k j (by omega)
theorem zwnv {p:List Pt} {i:Nat} (h:lgP p i=true):(p.getD i .dot).long=true:=by simp only [lgP,y01] at h; exact h.2
theorem zasa {p:List Pt} {i:Nat} (h:(p.getD i .dot).long=true):lgP p i=true:=by
 simp only [lgP,y01,decide_eq_true_eq]
 refine ⟨?_,h⟩
 rcases Nat.lt_or_ge i p.length with g|g
 ·exact g
 ·rw [y00,y0w g] at h; simp [Pt.long] at h
theorem M_up {l:List Pt} {s:List UInt8} {k i:Nat} (hl:(l.getD k .dot).long=true) (h:M l s k i=true):M l s (k+1) i=true:=by
 cases i with
 | zero=>rw [z9av,hl,h]; rfl
 | succ i=>rw [zbwv hl,h]; rfl
theorem M_R {l:List Pt} {s:List UInt8} {k i:Nat} (h:M l s k i=true):R l s k i=true:=by
 unfold R
 split
 ·rename_i hl; exact M_up hl h
 ·exact h
theorem zyuu {p:List Pt} {s:List UInt8} {k i:Nat} (hl:lgP p k=true) (h:R p s k i=true):R p s (k+1) i=true:=by
 unfold R at h
 rw [if_pos (zwnv hl)] at h
 exact M_R h
theorem z0xn {p:List Pt} {w:List UInt8} {k:Nat} {c:UInt8} (h:R p w k w.length=true) (ht:(p.getD k .dot).takes c.toBitVec=true):R p (w++[c]) (adv p k) (w.length+1)=true:=by
 have hb:=zthk (s:=w) (c:=c)
 by_cases hl:(p.getD k .dot).long=true
 ·unfold adv; rw [if_pos hl]
  unfold R at h ⊢
  rw [if_pos hl] at h ⊢
  rw [zbwv hl,z216 (k+1) w.length (y02 _),h,hb,ht]; simp
 ·have hl':(p.getD k .dot).long=false:=by simpa using hl
  unfold adv; rw [if_neg hl]
  unfold R at h
  rw [if_neg hl] at h
  apply M_R
  rw [ze32 hl',z216 k w.length (y02 _),h,hb,ht]; rfl
def er (p:List Pt) (a b:Nat):Prop:=a≤b ∧ ∀ t,a≤t→t<b→lgP p t=true
theorem er.refl (p:List Pt) (a:Nat):er p a a:=⟨y02 _,fun t h1 h2=>by omega⟩
theorem er.step {p:List Pt} {a b:Nat} (h:er p a b) (hl:lgP p b=true):er p a (b+1):=⟨by have:=h.1; omega,fun t h1 h2=>by
 by_cases e:t=b
 ·subst e; exact hl
 ·exact h.2 t h1 (by omega)⟩
theorem zg5o {p:List Pt} {w:List UInt8} {c:UInt8} : ∀ (k:Nat),k≤p.length→M p (w++[c]) k (w.length+1)=true → ∃ i,i<p.length∧R p w i w.length=true∧(p.getD i .dot).takes c.toBitVec=true∧er p (adv p i) k
 | 0,_,h=>by rw [zbas] at h; simp at h
 | k+1,hk,h=>by
  have hb:=zthk (s:=w) (c:=c)
  by_cases hl:(p.getD k .dot).long=true
  ·rw [zbwv hl,Bool.or_eq_true] at h
   rcases h with h|h
   ·obtain ⟨i,g1,g2,g3,g4⟩:=zg5o k (by omega) h
    exact ⟨i,g1,g2,g3,g4.step (zasa hl)⟩
   ·rw [y01,z216 (k+1) w.length (y02 _),hb] at h
    refine ⟨k,by omega,by unfold R; rw [if_pos hl]; exact h.1,h.2,?_⟩
    unfold adv; rw [if_pos hl]; exact (er.refl p k).step (zasa hl)
  ·have hl':(p.getD k .dot).long=false:=by simpa using hl
   rw [ze32 hl',y01,z216 k w.length (y02 _),hb] at h
   refine ⟨k,by omega,by unfold R; rw [if_neg hl]; exact h.1,h.2,?_⟩
   unfold adv; rw [if_neg hl]; exact er.refl p _
theorem z7dp {p:List Pt} {w:List UInt8} {c:UInt8} {k:Nat} (hk:k≤p.length) (h:R p (w++[c]) k (w.length+1)=true) : ∃ i,i<p.length∧R p w i w.length=true∧(p.getD i .dot).takes c.toBitVec=true∧er p (adv p i) k:=by
 unfold R at h
 split at h
 ·rename_i hl
  have hb:=zthk (s:=w) (c:=c)
  rw [zbwv hl,Bool.or_eq_true] at h
  rcases h with h|h
  ·exact zg5o k hk h
  ·rw [y01,z216 (k+1) w.length (y02 _),hb] at h
   refine ⟨k,zthm (zasa hl),by unfold R; rw [if_pos hl]; exact h.1,h.2,?_⟩
   unfold adv; rw [if_pos hl]; exact er.refl p k
 ·exact zg5o k hk h
theorem zowh {p:List Pt} {w:List UInt8} : ∀ (k:Nat),M p w k 0=true→er p 0 k
 | 0,_=>er.refl p 0
 | k+1,h=>by
  rw [z9av,y01] at h
  exact (zowh k h.2).step (zasa h.1)
theorem ziei {p:List Pt} {w:List UInt8} {k:Nat} (h:R p w k 0=true):er p 0 k:=by
 unfold R at h
 split at h
 ·have:=zowh (k+1) h
  exact ⟨by omega,fun t h1 h2=>this.2 t h1 (by omega)⟩
 ·exact zowh k h
def nmF:Nat→List UInt8→Option Nat
 | k,[]=>some k
 | k,c::w=>(aft k c.toBitVec).bind fun k'=>nmF k' w
theorem zs8j : ∀ (w:List UInt8) (k:Nat) (c:UInt8),nmF k (w++[c])=(nmF k w).bind fun k'=>aft k' c.toBitVec
 | [],k,c=>by simp [nmF]
 | d::w,k,c=>by
  simp only [y05,nmF]
  cases aft k d.toBitVec with
  | none=>rfl
  | some k'=>exact zs8j w k' c
def clC (x:List UInt8):Nat:=if x=[] then 0 else if x=[46] then 1 else if x=[46,46] then 2 else 3
theorem zz9v (x:List UInt8):okC x=true↔clC x=3:=by
 unfold okC clC
 by_cases h1:x=[]
 ·simp [h1]
 ·by_cases h2:x=[46]
  ·simp [h2]
  ·by_cases h3:x=[46,46]
   ·simp [h3]
   ·simp [h1,h2,h3]
theorem z2e6 (x:List UInt8) (c:UInt8) (hc:c≠47):aft (clC x) c.toBitVec=some (clC (x++[c])):=by
 have hc':c.toBitVec≠47#8:=zejk hc
 unfold aft
 rw [if_neg hc']
 by_cases h46:c=46
 ·subst h46
  have e46:(46:UInt8).toBitVec=46#8:=rfl
  unfold clC
  by_cases h1:x=[]
  ·subst h1; simp
  ·by_cases h2:x=[46]
   ·subst h2; simp
   ·by_cases h3:x=[46,46]
    ·subst h3; simp
    ·have g1:¬ x++[46]=[]:=by simp
     have g2:¬ x++[46]=[46]:=by simp [h1]
     have g3:¬ x++[46]=[46,46]:=by
      intro e
      have:x++[46]=[46]++[46]:=e
      exact h2 (y0i this rfl)
     simp [h1,h2,h3]
     intro e; exact h2 (y0i (show x++[46]=[46]++[46] from e) rfl)
 ·have h46':¬ c.toBitVec=46#8:=zejk h46
  rw [if_neg (by simp [h46'])]
  unfold clC
  have g1:¬ x++[c]=[]:=by simp
  have g2:¬ x++[c]=[46]:=by
   intro e
   have:x++[c]=[]++[46]:=e
   have:=y0v this rfl
   simp at this; exact h46 this
  have g3:¬ x++[c]=[46,46]:=by
   intro e
   have:x++[c]=[46]++[46]:=e
   have:=y0v this rfl
   simp at this; exact h46 this
  rw [if_neg g1,if_neg g2,if_neg g3]
theorem zj90 : ∀ (w x:List UInt8) (k:Nat),nmF (clC x) w=some k ↔ ∃ l,∃ (y:List UInt8),(match z2fg w with|[]=>[]|h::t=>(x++h)::t)=l++[y]∧l.all okC=true∧clC y=k
 | [],x,k=>by
  simp only [nmF,z2fg,List.append_nil,Option.some.injEq]
  constructor
  ·rintro rfl; exact ⟨[],x,rfl,rfl,rfl⟩
  ·rintro ⟨l,y,h1,_,h3⟩
   cases l with
   | nil=>simp at h1; subst h1; exact h3
   | cons a l=>simp at h1
 | c::w,x,k=>by
  by_cases hc:c=47
  ·subst hc
   have e47:(47:UInt8).toBitVec=47#8:=rfl
   simp only [nmF,zjyx,List.append_nil,e47,aft,if_true]
   obtain ⟨h,t,e⟩:=zzaw w
   have ih:=zj90 w [] k
   rw [e] at ih
   simp only [y0r] at ih
   have c0:clC []=0:=rfl
   rw [c0] at ih
   by_cases hx:clC x=3
   ·rw [if_pos hx,Option.bind_some,ih,e]
    constructor
    ·rintro ⟨l,y,h1,h2,h3⟩
     exact ⟨x::l,y,by rw [h1]; rfl,by simp [(zz9v x).2 hx,h2],h3⟩
    ·rintro ⟨l,y,h1,h2,h3⟩
     cases l with
     | nil=>simp at h1
     | cons a l =>
      simp only [y05,List.cons.injEq] at h1
      obtain ⟨rfl,h1⟩:=h1
      simp only [List.all_cons,y01] at h2
      exact ⟨l,y,h1,h2.2,h3⟩
   ·rw [if_neg hx]
    simp only [Option.bind_none]
    constructor
    ·intro q; simp at q
    ·rintro ⟨l,y,h1,h2,h3⟩
     rw [e] at h1
     cases l with
     | nil=>simp at h1
     | cons a l =>
      simp only [y05,List.cons.injEq] at h1
      obtain ⟨rfl,h1⟩:=h1
      simp only [List.all_cons,y01] at h2
      exact absurd ((zz9v x).1 h2.1) hx
  ·obtain ⟨h,t,e⟩:=zzaw w
   have ih:=zj90 w (x++[c]) k
   rw [e] at ih
   simp only [nmF,z2e6 x c hc,Option.bind_some,zyty hc e]
   rw [ih]
   simp
theorem zuur (w:List UInt8):nmF 0 w=some 3↔(z2fg w).all okC=true:=by
 have:=zj90 w [] 3
 have c0:clC []=0:=rfl
 rw [c0] at this
 rw [this]
 obtain ⟨h,t,e⟩:=zzaw w
 rw [e]
 simp only [y0r]
 constructor
 ·rintro ⟨l,y,h1,h2,h3⟩
  rw [h1,List.all_append,h2]
  simp [(zz9v y).2 h3]
 ·intro hh
  have hne:h::t≠[]:=by simp
  refine ⟨(h::t).dropLast,(h::t).getLast hne,(y0l hne).symm,?_,?_⟩
  ·rw [y0q] at hh ⊢
   exact fun z hz=>hh z (List.dropLast_subset _ hz)
  ·rw [y0q] at hh
   exact (zz9v _).1 (hh _ (List.getLast_mem hne))
theorem z9ex {w:List UInt8}:zj1f w=true↔nmF 0 w=some 3∧noZ w=true∧w.length≤200:=by
 rw [zuur]
 simp only [zj1f,y01,decide_eq_true_eq]
 constructor
 ·rintro ⟨⟨⟨h1,h2⟩,h3⟩,h4⟩; exact ⟨h4,h3,h2⟩
 ·rintro ⟨h4,h3,h2⟩
  refine ⟨⟨⟨?_,h2⟩,h3⟩,h4⟩
  cases w with
  | nil=>simp [z2fg,okC] at h4
  | cons c w=>simp
structure Rw (p q:List Pt) (w:List UInt8) (x:Q):Prop where
 a:R p w x.1 w.length=true
 b:R q w x.2.1 w.length=true
 n:nmF 0 w=some x.2.2
 z:noZ w=true
theorem Rw.first (p q:List Pt):Rw p q [] oQ:=⟨M_R rfl,M_R rfl,rfl,rfl⟩
theorem z2zp {w:List UInt8} {c:UInt8} (h:noZ w=true) (hc:c≠0):noZ (w++[c])=true:=by rw [z2u1,h]; simp [noZ,hc]
theorem Rw.edge {p q:List Pt} {w:List UInt8} {f y:Q} {c:B8} (h:Rw p q w f) (he:edge p q f c y):Rw p q (w++cB c) y:=by
 rcases he with ⟨rfl,he⟩|⟨hc,h1,h2,h3,h4,k,h5,rfl⟩
 ·have e:w++cB 0#8=w:=by simp [cB]
  rw [e]
  rcases he with ⟨hl,rfl⟩|⟨hl,rfl⟩
  ·exact ⟨zyuu hl h.a,h.b,h.n,h.z⟩
  ·exact ⟨h.a,zyuu hl h.b,h.n,h.z⟩
 ·have e:cB c=[⟨c⟩]:=if_neg hc
  rw [e]
  have hl:(w++[(⟨c⟩:UInt8)]).length=w.length+1:=by simp
  refine ⟨by rw [hl]; exact z0xn h.a h3,by rw [hl]; exact z0xn h.b h4,?_,z2zp h.z fun e=>hc (by have:=congrArg UInt8.toBitVec e; exact this)⟩
  rw [zs8j,h.n]
  exact h5
theorem zb7e {p q:List Pt} : ∀ (r:Came),zv0a p q r → ∀ x ∈ kC r,Rw p q (wdR r x) x
 | [],_,x,hx=>by simp [kC] at hx
 | (y,s)::r,h,x,hx=>by
  obtain ⟨h1,h2,h3⟩:=h
  rw [wdR]
  by_cases e:y=x
  ·subst e
   rw [if_pos rfl]
   rcases h3 with ⟨rfl,rfl⟩|⟨g1,g2⟩
   ·rw [if_pos rfl]; exact Rw.first p q
   ·have:r≠[]:=fun e=>by rw [e] at g1; simp [kC] at g1
    rw [if_neg this]
    exact (zb7e r h1 s.1 g1).edge g2
  ·rw [if_neg e]
   have:x ∈ kC r:=by
    simp only [kC,y0n,y0g] at hx
    rcases hx with hx|hx
    ·exact absurd hx.symm e
    ·exact hx
   exact zb7e r h1 x this
theorem Good.rw {p q:List Pt} {C:Came} (h:Good p q C) {x:Q} (hx:x ∈ kC C):Rw p q (wd C x) x:=zb7e C.reverse h x ((zp1x C x).2 hx)
end
section
set_option linter.unusedSimpArgs false
set_option linter.unusedVariables false
open Go Go.Am
def lay (p q:List Pt) (cs:Pt→Pt→List B8) (A:Came × List Q):Came × List Q:=A.2.foldl (mvs p q cs) (A.1,[])
def lay0 (p q:List Pt):Came × List Q:=vis p q fu [] [] oQ (oQ,0#8)
def layN (p q:List Pt) (cs:Pt→Pt→List B8):Nat→Came × List Q
 | 0=>lay0 p q
 | n+1=>lay p q cs (layN p q cs n)
def NZ (p q:List Pt) (cs:Pt→Pt→List B8):Prop := ∀ i j,i<p.length→j<q.length → ∀ c ∈ cs (p.getD i .dot) (q.getD j .dot),c≠0#8
def Cl (p q:List Pt) (cs:Pt→Pt→List B8) (x:Q) (C:Came):Prop:=x.1<p.length→x.2.1<q.length → ∀ c ∈ cs (p.getD x.1 .dot) (q.getD x.2.1 .dot),(p.getD x.1 .dot).takes c=true→(q.getD x.2.1 .dot).takes c=true →
 ∀ k,aft x.2.2 c=some k→(adv p x.1,adv q x.2.1,k) ∈ kC C
structure Fi (p q:List Pt) (n:Nat) (C0:Came) (A:Came × List Q):Prop where
 good:Good p q A.1
 cl:CL p.length q.length A
 ecl:Ecl p q A.1
 len:Len (n+1) A
 app : ∃ r,A=(C0++r,kC r)
 old : ∀ y ∈ kC C0,wd A.1 y=wd C0 y
theorem Fi.sub {p q:List Pt} {n:Nat} {C0:Came} {A:Came × List Q} (h:Fi p q n C0 A) {y:Q} (hy:y ∈ kC C0):y ∈ kC A.1:=by
 obtain ⟨r,rfl⟩:=h.app
 simp only [z729]; exact y09 _ hy
theorem zwdp {p q:List Pt} (hp:p.length≤200) (hq:q.length≤200) {n:Nat} {C0:Came} {A:Came × List Q} (h:Fi p q n C0 A) {x:Q} (hx:x ∈ kC C0) (hw:(wd C0 x).length=n) (h1:x.1<p.length) (h2:x.2.1<q.length) (h3:x.2.2≤3) {c:B8} (hc:c≠0#8) :
  Fi p q n C0 (stp1 p q x A c)∧(∀ y,y ∈ kC A.1→y ∈ kC (stp1 p q x A c).1)∧((p.getD x.1 .dot).takes c=true→(q.getD x.2.1 .dot).takes c=true → ∀ k,aft x.2.2 c=some k→(adv p x.1,adv q x.2.1,k) ∈ kC (stp1 p q x A c).1):=by
 unfold stp1
 cases hk:aft x.2.2 c with
 | none=>exact ⟨h,fun y hy=>hy,fun _ _ k e=>by simp at e⟩
 | some k =>
  dsimp only
  split
  ·rename_i ht
   have hxa:=h.sub hx
   have hne:A.1≠[]:=fun e=>by rw [e] at hxa; simp [kC] at hxa
   have hbx:z4ew p.length q.length (adv p x.1,adv q x.2.1,k):=⟨by unfold adv; dsimp only; split<;>omega,by unfold adv; dsimp only; split<;>omega,zv7f h3 hk⟩
   have hfu:p.length-(adv p x.1,adv q x.2.1,k).1+(q.length-(adv p x.1,adv q x.2.1,k).2.1)<fu:=by unfold fu; simp only; omega
   obtain ⟨g1,g2⟩:=zhe2 p q (n+1) fu A.1 A.2 (adv p x.1,adv q x.2.1,k) (x,c) h.len (.inr ⟨hne,hxa,by rw [h.old x hx]; simp [cB,hc,hw]⟩)
   obtain ⟨r0,hr0⟩:=h.app
   obtain ⟨r,hr⟩:=zn0o p q fu A.1 A.2 (adv p x.1,adv q x.2.1,k) (x,c)
   refine ⟨⟨z784 p q fu _ _ _ _ h.good (.inr ⟨hxa,.inr ⟨hc,h1,h2,ht.1,ht.2,k,hk,rfl⟩⟩),zlxe p q fu _ _ _ _ h.cl hbx,zp9x h.ecl hfu,g1,⟨r0++r,?_⟩,fun y hy => ?_⟩,fun y hy=>zedd hy,fun _ _ k' e => ?_⟩
   ·rw [hr,hr0]; simp [z729]
   ·rw [g2 y (h.sub hy),h.old y hy]
   ·simp only [Option.some.injEq] at e
    subst e
    exact (z3m9 p q fu _ _ _ _ hfu).1
  ·rename_i ht
   exact ⟨h,fun y hy=>hy,fun a b=>absurd ⟨a,b⟩ ht⟩
theorem zqng {p q:List Pt} (hp:p.length≤200) (hq:q.length≤200) {n:Nat} {C0:Came} {x:Q} (hx:x ∈ kC C0) (hw:(wd C0 x).length=n) (h1:x.1<p.length) (h2:x.2.1<q.length) (h3:x.2.2≤3) : ∀ (l:List B8) (A:Came × List Q),Fi p q n C0 A→(∀ c ∈ l,c≠0#8) →
  Fi p q n C0 (l.foldl (stp1 p q x) A)∧(∀ y,y ∈ kC A.1→y ∈ kC (l.foldl (stp1 p q x) A).1)∧(∀ c ∈ l,(p.getD x.1 .dot).takes c=true→(q.getD x.2.1 .dot).takes c=true → ∀ k,aft x.2.2 c=some k→(adv p x.1,adv q x.2.1,k) ∈ kC (l.foldl (stp1 p q x) A).1)
 | [],A,h,_=>⟨h,fun y hy=>hy,fun c hc=>by simp at hc⟩
 | c::l,A,h,hz=>by
  obtain ⟨g1,g2,g3⟩:=zwdp hp hq h hx hw h1 h2 h3 (hz c (by simp))
  obtain ⟨k1,k2,k3⟩:=zqng hp hq hx hw h1 h2 h3 l _ g1 fun c hc=>hz c (by simp [hc])
  refine ⟨k1,fun y hy=>k2 y (g2 y hy),fun d hd t1 t2 k e => ?_⟩
  rcases y0g.1 hd with rfl|hd
  ·exact k2 _ (g3 t1 t2 k e)
  ·exact k3 d hd t1 t2 k e
theorem zyb6 {p q:List Pt} (hp:p.length≤200) (hq:q.length≤200) {cs:Pt→Pt→List B8} (hz:NZ p q cs) {n:Nat} {C0:Came} {x:Q} (hx:x ∈ kC C0) (hw:(wd C0 x).length=n) (h3:x.2.2≤3) {A:Came × List Q} (h:Fi p q n C0 A) :
  Fi p q n C0 (mvs p q cs A x)∧(∀ y,y ∈ kC A.1→y ∈ kC (mvs p q cs A x).1)∧Cl p q cs x (mvs p q cs A x).1:=by
 unfold mvs
 split
 ·rename_i e
  obtain ⟨g1,g2,g3⟩:=zqng hp hq hx hw e.1 e.2 h3 _ A h (hz _ _ e.1 e.2)
  exact ⟨g1,g2,fun _ _=>g3⟩
 ·rename_i e
  exact ⟨h,fun y hy=>hy,fun a b=>absurd ⟨a,b⟩ e⟩
theorem zz2e {p q:List Pt} (hp:p.length≤200) (hq:q.length≤200) {cs:Pt→Pt→List B8} (hz:NZ p q cs) {n:Nat} {C0:Came} : ∀ (l:List Q) (A:Came × List Q),Fi p q n C0 A→(∀ x ∈ l,x ∈ kC C0∧(wd C0 x).length=n∧x.2.2≤3) →
  Fi p q n C0 (l.foldl (mvs p q cs) A)∧(∀ y,y ∈ kC A.1→y ∈ kC (l.foldl (mvs p q cs) A).1) ∧ ∀ x ∈ l,Cl p q cs x (l.foldl (mvs p q cs) A).1
 | [],A,h,_=>⟨h,fun y hy=>hy,fun x hx=>by simp at hx⟩
 | x::l,A,h,hl=>by
  obtain ⟨x1,x2,x3⟩:=hl x (by simp)
  obtain ⟨g1,g2,g3⟩:=zyb6 hp hq hz x1 x2 x3 h
  obtain ⟨k1,k2,k3⟩:=zz2e hp hq hz l _ g1 fun y hy=>hl y (by simp [hy])
  refine ⟨k1,fun y hy=>k2 y (g2 y hy),fun y hy => ?_⟩
  rcases y0g.1 hy with rfl|hy
  ·exact fun a b c hc t1 t2 k e=>k2 _ (g3 a b c hc t1 t2 k e)
  ·exact k3 y hy
structure LI (p q:List Pt) (cs:Pt→Pt→List B8) (n:Nat) (A:Came × List Q):Prop where
 good:Good p q A.1
 cl:CL p.length q.length A
 ecl:Ecl p q A.1
 len:Len n A
 clo : ∀ x ∈ kC A.1,x ∈ A.2∨Cl p q cs x A.1
 o:oQ ∈ kC A.1
theorem z49r {n m:Nat} {C:Came} (h:CI n m C) {x:Q} (hx:x ∈ kC C):z4ew n m x:=by
 obtain ⟨e,he,rfl⟩:=y08.1 hx
 exact h.box e he
theorem z9tu {p q:List Pt} (hp:p.length≤200) (hq:q.length≤200) {cs:Pt→Pt→List B8} (hz:NZ p q cs) {n:Nat} {A:Came × List Q} (h:LI p q cs n A) :
  LI p q cs (n+1) (lay p q cs A)∧(∀ x ∈ kC A.1,Cl p q cs x (lay p q cs A).1)∧kC (lay p q cs A).1=kC A.1++(lay p q cs A).2:=by
 have h0:Fi p q n A.1 (A.1,[]):=⟨h.good,⟨h.cl.ci,by simp⟩,h.ecl,fun y hy=>by simp at hy,⟨[],by simp [kC]⟩,fun _ _=>rfl⟩
 obtain ⟨g1,g2,g3⟩:=zz2e hp hq hz A.2 _ h0 fun x hx=>⟨(h.len x hx).1,(h.len x hx).2,(z49r h.cl.ci (h.len x hx).1).2.2⟩
 obtain ⟨r,hr⟩:=g1.app
 have hcl : ∀ x ∈ kC A.1,Cl p q cs x (lay p q cs A).1:=fun x hx=>by
  rcases h.clo x hx with e|e
  ·exact g3 x e
  ·exact fun a b c hc t1 t2 k e'=>g2 _ (e a b c hc t1 t2 k e')
 have hk:kC (lay p q cs A).1=kC A.1++(lay p q cs A).2:=by
  unfold lay; rw [hr]; simp [z729]
 refine ⟨⟨g1.good,g1.cl,g1.ecl,g1.len,fun x hx => ?_,g2 _ h.o⟩,hcl,hk⟩
 have hx':x ∈ kC (lay p q cs A).1:=hx
 rw [hk] at hx'
 rcases y0d.1 hx' with e|e
 ·exact .inr (hcl x e)
 ·exact .inl e
theorem z5gf (p q:List Pt) (hp:p.length≤200) (hq:q.length≤200) (cs:Pt→Pt→List B8):LI p q cs 0 (lay0 p q)∧kC (lay0 p q).1=(lay0 p q).2:=by
 have hfu:p.length-oQ.1+(q.length-oQ.2.1)<fu:=by unfold fu oQ; simp only; omega
 have h0:CL p.length q.length ([],[]):=⟨⟨fun e he=>by simp at he,by simp⟩,by simp⟩
 obtain ⟨r,hr⟩:=zn0o p q fu [] [] oQ (oQ,0#8)
 have hk:kC (lay0 p q).1=(lay0 p q).2:=by unfold lay0; rw [hr]; simp
 refine ⟨⟨z784 p q fu _ _ _ _ trivial (.inl ⟨rfl,rfl⟩),zlxe p q fu _ _ _ _ h0 ⟨by simp [oQ],by simp [oQ],by simp [oQ]⟩,zp9x (fun y hy=>by simp [kC] at hy) hfu,(zhe2 p q 0 fu [] [] oQ (oQ,0#8) (fun y hy=>by simp at hy) (.inl ⟨rfl,rfl⟩)).1,fun x hx => .inl ?_,(z3m9 p q fu _ _ _ _ hfu).1⟩,hk⟩
 have hx':x ∈ kC (lay0 p q).1:=hx
 rw [hk] at hx'; exact hx'
theorem z35k (p q:List Pt) (hp:p.length≤200) (hq:q.length≤200) {cs:Pt→Pt→List B8} (hz:NZ p q cs) : ∀ (n:Nat),LI p q cs n (layN p q cs n)
 | 0=>(z5gf p q hp hq cs).1
 | n+1=>(z9tu hp hq hz (z35k p q hp hq hz n)).1
theorem zfqe (p q:List Pt) (hp:p.length≤200) (hq:q.length≤200) {cs:Pt→Pt→List B8} (hz:NZ p q cs) : ∀ (n:Nat) (x:Q),x ∈ kC (layN p q cs n).1 ↔ ∃ m,m≤n∧x ∈ (layN p q cs m).2
 | 0,x=>by
  have:=(z5gf p q hp hq cs).2
  show x ∈ kC (lay0 p q).1↔_
  rw [this]
  constructor
  ·exact fun h=>⟨0,y02 _,h⟩
  ·rintro ⟨m,hm,h⟩
   obtain rfl:m=0:=by omega
   exact h
 | n+1,x=>by
  have:=(z9tu hp hq hz (z35k p q hp hq hz n)).2.2
  show x ∈ kC (lay p q cs (layN p q cs n)).1↔_
  rw [this,y0d,zfqe p q hp hq hz n x]
  constructor
  ·rintro (⟨m,hm,h⟩|h)
   ·exact ⟨m,by omega,h⟩
   ·exact ⟨n+1,y02 _,h⟩
  ·rintro ⟨m,hm,h⟩
   by_cases e:m=n+1
   ·subst e; exact .inr h
   ·exact .inl ⟨m,by omega,h⟩
def Dom (p q:List Pt) (cs:Pt→Pt→List B8):Prop := ∀ i j,i<p.length→j<q.length → ∀ c,(p.getD i .dot).takes c=true→(q.getD j .dot).takes c=true → ∀ k k' n,(k'=k∨k'=3)→aft k c=some n →
 ∃ d ∈ cs (p.getD i .dot) (q.getD j .dot),(p.getD i .dot).takes d=true∧(q.getD j .dot).takes d=true ∧ ∃ n',aft k' d=some n'∧(n'=n∨n'=3)
theorem zuqu {p q:List Pt} {C:Came} (h:Ecl p q C) {a b k:Nat} (hx:(a,b,k) ∈ kC C) : ∀ (d:Nat),er p a (a+d)→(a+d,b,k) ∈ kC C
 | 0,_=>hx
 | d+1,he=>(h _ (zuqu h hx d ⟨by omega,fun t h1 h2=>he.2 t h1 (by omega)⟩)).a (he.2 (a+d) (by omega) (by omega))
theorem zk2b {p q:List Pt} {C:Came} (h:Ecl p q C) {a b k:Nat} (hx:(a,b,k) ∈ kC C) : ∀ (d:Nat),er q b (b+d)→(a,b+d,k) ∈ kC C
 | 0,_=>hx
 | d+1,he=>(h _ (zk2b h hx d ⟨by omega,fun t h1 h2=>he.2 t h1 (by omega)⟩)).b (he.2 (b+d) (by omega) (by omega))
theorem z049 {p q:List Pt} {C:Came} (h:Ecl p q C) {a b k i j:Nat} (hx:(a,b,k) ∈ kC C) (h1:er p a i) (h2:er q b j):(i,j,k) ∈ kC C:=by
 obtain ⟨d,rfl⟩ : ∃ d,i=a+d:=⟨i-a,by have:=h1.1; omega⟩
 obtain ⟨e,rfl⟩ : ∃ e,j=b+e:=⟨j-b,by have:=h2.1; omega⟩
 exact zk2b h (zuqu h hx d h1) e h2
theorem zwru (p q:List Pt) (hp:p.length≤200) (hq:q.length≤200) {cs:Pt→Pt→List B8} (hz:NZ p q cs) (hd:Dom p q cs) : ∀ (n:Nat) (w:List UInt8),w.length=n → ∀ i j k,i≤p.length→j≤q.length→R p w i w.length=true→R q w j w.length=true→nmF 0 w=some k →
  ∃ k',(k'=k∨k'=3)∧(i,j,k') ∈ kC (layN p q cs n).1
 | 0,w,hw,i,j,k,hi,hj,h1,h2,h3=>by
  obtain rfl:=List.eq_nil_of_length_eq_zero hw
  simp [nmF] at h3
  subst h3
  have hI:=z35k p q hp hq hz 0
  exact ⟨0,.inl rfl,z049 hI.ecl hI.o (ziei h1) (ziei h2)⟩
 | n+1,w,hw,i,j,k,hi,hj,h1,h2,h3=>by
  obtain ⟨v,c,rfl⟩ : ∃ v c,w=v++[c]:=by
   have hne:w≠[]:=by rintro rfl; simp at hw
   exact ⟨w.dropLast,w.getLast hne,(y0l hne).symm⟩
  have hl:(v++[c]).length=v.length+1:=by simp
  rw [hl] at h1 h2 hw
  rw [zs8j] at h3
  simp only [Option.bind_eq_some_iff] at h3
  obtain ⟨k1,h4,h5⟩:=h3
  obtain ⟨i1,a1,a2,a3,a4⟩:=z7dp hi h1
  obtain ⟨j1,b1,b2,b3,b4⟩:=z7dp hj h2
  obtain ⟨k1',e1,e2⟩:=zwru p q hp hq hz hd n v (by omega) i1 j1 k1 (by omega) (by omega) a2 b2 h4
  obtain ⟨d,d1,d2,d3,n',d4,d5⟩:=hd i1 j1 a1 b1 _ a3 b3 k1 k1' k e1 h5
  have hs:=z9tu hp hq hz (z35k p q hp hq hz n)
  have:=hs.2.1 _ e2 a1 b1 d d1 d2 d3 n' d4
  exact ⟨n',d5,z049 hs.1.ecl this a4 b4⟩
def Com (p q:List Pt):Prop := ∃ w:List UInt8,w.length≤200∧M p w p.length w.length=true∧M q w q.length w.length=true∧nmF 0 w=some 3
theorem Com.symm {p q:List Pt} (h:Com p q):Com q p:=let ⟨w,a,b,c,d⟩:=h; ⟨w,a,c,b,d⟩
def gQ (p q:List Pt):Q:=(p.length,q.length,3)
structure Fnd (p q:List Pt) (w:List UInt8):Prop where
 a:M p w p.length w.length=true
 b:M q w q.length w.length=true
 c:zj1f w=true
theorem z5xa {p q:List Pt} (hp:p.length≤200) (hq:q.length≤200) {cs:Pt→Pt→List B8} (hz:NZ p q cs) {n:Nat} (hn:n≤200) (h:gQ p q ∈ (layN p q cs n).2):Fnd p q (wd (layN p q cs n).1 (gQ p q)):=by
 have hI:=z35k p q hp hq hz n
 obtain ⟨h1,h2⟩:=hI.len _ h
 obtain ⟨a,b,c,d⟩:=hI.good.rw h1
 refine ⟨by rw [← z0fy]; exact a,by rw [← z0fy]; exact b,z9ex.2 ⟨c,d,by omega⟩⟩
theorem z1mn {p q:List Pt} (hp:p.length≤200) (hq:q.length≤200) {cs:Pt→Pt→List B8} (hz:NZ p q cs) (hd:Dom p q cs):(∃ n,n≤200∧gQ p q ∈ (layN p q cs n).2)↔Com p q:=by
 constructor
 ·rintro ⟨n,hn,h⟩
  have:=z5xa hp hq hz hn h
  have h3:=z9ex.1 this.c
  exact ⟨_,h3.2.2,this.a,this.b,h3.1⟩
 ·rintro ⟨w,h1,h2,h3,h4⟩
  obtain ⟨k',e1,e2⟩:=zwru p q hp hq hz hd w.length w rfl p.length q.length 3 (y02 _) (y02 _) (by rw [z0fy]; exact h2) (by rw [z0fy]; exact h3) h4
  obtain rfl:k'=3:=by rcases e1 with e|e<;>exact e
  obtain ⟨m,hm,h⟩:=(zfqe p q hp hq hz _ _).1 e2
  exact ⟨m,by omega,h⟩
end
section
set_option linter.unusedSimpArgs false
set_option linter.unusedVariables false
open Go Go.Am
def Lz (p:List Pt):Prop := ∀ c,Pt.one c ∈ p→c≠0#8
theorem zam0 {p:List Pt} {i:Nat} (h:i<p.length):p.getD i .dot ∈ p:=by
 rw [y00,y03 h]; exact List.getElem_mem h
theorem z3f2 {p q:List Pt} (hp:Lz p) (hq:Lz q):NZ p q chP:=by
 intro i j hi hj c hc
 have h1:=zam0 hi
 have h2:=zam0 hj
 generalize p.getD i .dot=a at h1 hc
 generalize q.getD j .dot=b at h2 hc
 have two:c ∈ [97#8,47#8]→c≠0#8:=by
  intro h
  simp at h
  rcases h with rfl|rfl<;>decide
 cases a with
 | one d=>simp [chP] at hc; subst hc; exact hp _ h1
 | dot=>cases b with
  | one d=>simp [chP] at hc; subst hc; exact hq _ h2
  | dot=>exact two hc
  | some=>exact two hc
  | whole=>exact two hc
 | some=>cases b with
  | one d=>simp [chP] at hc; subst hc; exact hq _ h2
  | dot=>exact two hc
  | some=>exact two hc
  | whole=>exact two hc
 | whole=>cases b with
  | one d=>simp [chP] at hc; subst hc; exact hq _ h2
  | dot=>exact two hc
  | some=>exact two hc
  | whole=>exact two hc
theorem zbch {k k' n:Nat} {c:B8} (h:k'=k∨k'=3) (e:aft k c=some n) : ∃ n',aft k' c=some n'∧(n'=n∨n'=3):=by
 rcases h with rfl|rfl
 ·exact ⟨n,e,.inl rfl⟩
 ·unfold aft at e ⊢
  split at e
  ·rename_i hc
   split at e
   ·simp at e; subst e
    exact ⟨0,by simp [hc],.inl rfl⟩
   ·simp at e
  ·rename_i hc
   exact ⟨3,by simp [hc],.inr rfl⟩
theorem zczo {a b:Pt} (ha : ∀ c,a ≠ .one c) (hb : ∀ c,b ≠ .one c) {l:List B8} {o:B8} (h1:47#8 ∈ l) (h2:o ∈ l) (ho:o≠47#8) (ho':o≠46#8) {c:B8} (t1:a.takes c=true) (t2:b.takes c=true) {k k' n:Nat} (hk:k'=k∨k'=3) (e:aft k c=some n) :
  ∃ d ∈ l,a.takes d=true∧b.takes d=true ∧ ∃ n',aft k' d=some n'∧(n'=n∨n'=3):=by
 by_cases hc:c=47#8
 ·subst hc
  exact ⟨_,h1,t1,t2,zbch hk e⟩
 ·have tk : ∀ x:Pt,(∀ c,x ≠ .one c)→x.takes o=true:=by
   intro x hx
   cases x with
   | one d=>exact absurd rfl (hx d)
   | dot=>simp [Pt.takes,ho]
   | some=>simp [Pt.takes,ho]
   | whole=>rfl
  exact ⟨o,h2,tk a ha,tk b hb,3,by unfold aft; simp [ho,ho'],.inr rfl⟩
theorem zxl6 (p q:List Pt):Dom p q chP:=by
 intro i j hi hj c t1 t2 k k' n hk e
 generalize p.getD i .dot=a at t1 ⊢
 generalize q.getD j .dot=b at t2 ⊢
 have one1 : ∀ d,a = .one d∨b = .one d→chP a b=[d] → ∃ d ∈ chP a b,a.takes d=true∧b.takes d=true ∧ ∃ n',aft k' d=some n'∧(n'=n∨n'=3):=by
  intro d hd hch
  have:c=d:=by
   rcases hd with rfl|rfl
   ·simpa [Pt.takes] using t1
   ·simpa [Pt.takes] using t2
  subst this
  rw [hch]
  exact ⟨c,by simp,t1,t2,zbch hk e⟩
 cases a with
 | one d=>exact one1 d (.inl rfl) rfl
 | dot=>cases b with
  | one d=>exact one1 d (.inr rfl) rfl
  | _=>exact zczo (o:=97#8) (by intro c; simp) (by intro c; simp) (by simp [chP]) (by simp [chP]) (by decide) (by decide) t1 t2 hk e
 | some=>cases b with
  | one d=>exact one1 d (.inr rfl) rfl
  | _=>exact zczo (o:=97#8) (by intro c; simp) (by intro c; simp) (by simp [chP]) (by simp [chP]) (by decide) (by decide) t1 t2 hk e
 | whole=>cases b with
  | one d=>exact one1 d (.inr rfl) rfl
  | _=>exact zczo (o:=97#8) (by intro c; simp) (by intro c; simp) (by simp [chP]) (by simp [chP]) (by decide) (by decide) t1 t2 hk e
theorem z4rg : ∀ (n:Nat) (s:List UInt8) (l:List Pt),s.length≤n→prs s = .some l → ∀ c,Pt.one c ∈ l → ∃ u ∈ s,u.toBitVec=c
 | n,[],l,_,h,c,hc=>by simp [prs] at h; subst h; simp at hc
 | 0,c::r,l,hn,_,_,_=>by simp at hn
 | n+1,u::r,l,hn,h,c,hc=>by
  have ih:=z4rg n
  have go : ∀ (r':List UInt8) (y:Pt),r'.length≤n→(∀ v ∈ r',v ∈ u::r)→(prs r').map (fun l=>y::l) = .some l→(∀ c,y = .one c → ∃ v ∈ u::r,v.toBitVec=c) → ∃ v ∈ u::r,v.toBitVec=c:=by
   intro r' y hr hs hm hy
   obtain ⟨l',h1,rfl⟩:=y0u.1 hm
   rcases y0g.1 hc with e|e
   ·exact hy c e.symm
   ·obtain ⟨v,hv,e'⟩:=ih r' l' hr h1 c e
    exact ⟨v,hs v hv,e'⟩
  simp only [y04] at hn
  by_cases h1:u=92
  ·subst h1
   match r,h with
   | [],h=>simp [zt8b] at h
   | d::r,h =>
    rw [z32i] at h
    simp only [y04] at hn
    exact go r _ (by omega) (fun v hv=>by simp [hv]) h (fun c e=>by cases e; exact ⟨d,by simp,rfl⟩)
  ·by_cases h2:u=42
   ·subst h2
    match r,h with
    | [],h =>
     rw [zkwm] at h; cases h
     simp at hc
    | d::r,h =>
     simp only [y04] at hn
     by_cases h3:d=42
     ·subst h3; rw [zqqt] at h
      exact go r _ (by omega) (fun v hv=>by simp [hv]) h (fun c e=>by cases e)
     ·rw [zpjv h3] at h
      exact go (d::r) _ (by simp only [y04]; omega) (fun v hv=>y0j _ hv) h (fun c e=>by cases e)
   ·by_cases h3:u=63
    ·subst h3; rw [z28c] at h
     exact go r _ (by omega) (fun v hv=>y0j _ hv) h (fun c e=>by cases e)
    ·rw [zmw4 h1 h2 h3] at h
     exact go r _ (by omega) (fun v hv=>y0j _ hv) h (fun c e=>by cases e; exact ⟨u,by simp,rfl⟩)
theorem zxh0 {s:List UInt8} {l:List Pt} (h:zfn1 s = .some l) {c:B8} (hc:Pt.one c ∈ l) : ∃ u ∈ s,u.toBitVec=c:=by
 unfold zfn1 at h
 split at h
 ·exact z4rg s.length s l (y02 _) h c hc
 ·simp at h
theorem z590 {s:List UInt8} {l:List Pt} (h:zfn1 s = .some l):Lz l:=by
 intro c hc e
 obtain ⟨u,hu,e'⟩:=zxh0 h hc
 unfold zfn1 at h
 split at h
 ·rename_i g
  have:=g.2.2
  unfold noZ at this
  rw [y0q] at this
  have:=this u hu
  simp at this
  exact this (UInt8.toBitVec_inj.1 (e'.trans e))
 ·simp at h
end
section
set_option linter.unusedSimpArgs false
set_option linter.unusedVariables false
open Go Go.Am
def lb (t:List UInt8):List B8:=t.map UInt8.toBitVec
theorem z719 (t:List UInt8):(lb t).length=t.length:=by simp [lb]
theorem z13s (a b:List UInt8):lb (a++b)=lb a++lb b:=by simp [lb]
theorem zf6e : ∀ (l:List UInt8),z9pr ((lb l).map w8)=some l
 | []=>rfl
 | x::l=>by
  have:=zf6e l
  simp only [lb,y0n,w8,z9pr] at *
  rw [this]
  simp
def litR (s:List UInt8):DV := .str (if zj1f s=true then litS s else [])
def T60:Tbl:=addT 23 (.pure (cS za1j)) tbl0
theorem zh16:T60 23 = .pure (cS za1j):=by simp [T60]
theorem zbqx:T60.Sound P:=z0rp (zzn8 fun p=>zljw mix zhpa Try.func23 ztyx (zqqw p)) zr5o
theorem zpps {s:List UInt8} (h:zj1f s=true):1≤s.length∧s.length≤200∧noZ s=true∧(z2fg s).all okC=true:=by
 simp only [zj1f,y01,decide_eq_true_eq] at h
 exact ⟨h.1.1.1,h.1.1.2,h.1.2,h.2⟩
def S12 (s:List UInt8) (i:Nat):St:=z9o7 (.str s) (ownD 0 1 .nils (litS (s.take i)).length ((lb (litS (s.take i))).map w8)) (.int .i64 i) (ownH ((lb (litS (s.take i))).map w8))
theorem ze9u (s:List UInt8):Runs T60 a10 [.str s] (litR s):=by
 refine ⟨?_⟩
 by_cases hp:zj1f s=true
 case neg =>
  have hp:zj1f s=false:=by simpa using hp
  simp (disch:=first|omega|simp<;>omega|fail) [-zA,-zB,-zC,-zD,-zE,a10,zh16,zk5k,za1j,hp,litR]
 obtain ⟨g1,g2,_,_⟩:=zpps hp
 simp (disch:=first|omega|simp<;>omega|fail) [-zA,-zB,-zC,-zD,-zE,a10,zh16,zk5k,za1j,hp]
 refine zlm5 (S12 s) (fun i=>s.length-i) (fun i=>i≤s.length) 0 (z515 (by simp (disch:=first|omega|simp<;>omega|fail) [-zA,-zB,-zC,-zD,-zE,litS,ownD,lb]) (by simp (disch:=first|omega|simp<;>omega|fail) [-zA,-zB,-zC,-zD,-zE,litS,ownH,lb])) (by omega) (fun i hi => ?_)
 have hl1:=zkm1 (s.take i)
 have hl2:=z719 (litS (s.take i))
 rw [List.length_take_of_le hi] at hl1
 simp (disch:=first|omega|simp<;>omega|fail) [-zA,-zB,-zC,-zD,-zE,z382,z9o7,S12]
 by_cases h:i<s.length
 ·have h1:(i:Int)<s.length:=by omega
  have hsu:=zhir h
  by_cases hc:s[i]=92∨s[i]=42∨s[i]=63
  ·have e5:(litS (s.take (i+1))).length=(litS (s.take i)).length+1+1:=by rw [hsu,litC,if_pos hc]; simp
   have e6:lb (litS (s.take (i+1)))=lb (litS (s.take i))++[92#8,s[i].toBitVec]:=by rw [hsu,litC,if_pos hc,z13s]; rfl
   have hl3:((lb (litS (s.take i))++[92#8]).map w8).length=(litS (s.take i)).length+1:=by rw [y0s,y0e,hl2]; rfl
   rcases hc with hc|hc|hc
   ·have b1:s[i].toBitVec=92#8:=zw4m.2 hc
    rw [b1] at e6
    simp (disch:=first|omega|simp<;>omega|fail) [-zA,-zB,-zC,-zD,-zE,h,h1,b1,hl2]
    exact ⟨i+1,z515 (by simp (disch:=first|omega|simp<;>omega|fail) [-zA,-zB,-zC,-zD,-zE,e5,e6]) (by simp (disch:=first|omega|simp<;>omega|fail) [-zA,-zB,-zC,-zD,-zE,e6]),by omega,by omega⟩
   ·have b1:s[i].toBitVec=42#8:=zw4m.2 hc
    rw [b1] at e6
    simp (disch:=first|omega|simp<;>omega|fail) [-zA,-zB,-zC,-zD,-zE,h,h1,b1,hl2]
    exact ⟨i+1,z515 (by simp (disch:=first|omega|simp<;>omega|fail) [-zA,-zB,-zC,-zD,-zE,e5,e6]) (by simp (disch:=first|omega|simp<;>omega|fail) [-zA,-zB,-zC,-zD,-zE,e6]),by omega,by omega⟩
   ·have b1:s[i].toBitVec=63#8:=zw4m.2 hc
    rw [b1] at e6
    simp (disch:=first|omega|simp<;>omega|fail) [-zA,-zB,-zC,-zD,-zE,h,h1,b1,hl2]
    exact ⟨i+1,z515 (by simp (disch:=first|omega|simp<;>omega|fail) [-zA,-zB,-zC,-zD,-zE,e5,e6]) (by simp (disch:=first|omega|simp<;>omega|fail) [-zA,-zB,-zC,-zD,-zE,e6]),by omega,by omega⟩
  ·have e5:(litS (s.take (i+1))).length=(litS (s.take i)).length+1:=by rw [hsu,litC,if_neg hc]; simp
   have e6:lb (litS (s.take (i+1)))=lb (litS (s.take i))++[s[i].toBitVec]:=by rw [hsu,litC,if_neg hc,z13s]; rfl
   simp only [not_or] at hc
   have b1:¬ s[i].toBitVec=92#8:=fun e=>hc.1 (zw4m.1 e)
   have b2:¬ s[i].toBitVec=42#8:=fun e=>hc.2.1 (zw4m.1 e)
   have b3:¬ s[i].toBitVec=63#8:=fun e=>hc.2.2 (zw4m.1 e)
   have b1q:(s[i].toBitVec == 92#8)=false:=by simp [b1]
   have b2q:(s[i].toBitVec == 42#8)=false:=by simp [b2]
   have b3q:(s[i].toBitVec == 63#8)=false:=by simp [b3]
   simp (disch:=first|omega|simp<;>omega|fail) [-zA,-zB,-zC,-zD,-zE,h,h1,b1,b2,b3,b1q,b2q,b3q,hl2]
   exact ⟨i+1,z515 (by simp (disch:=first|omega|simp<;>omega|fail) [-zA,-zB,-zC,-zD,-zE,e5,e6]) (by simp (disch:=first|omega|simp<;>omega|fail) [-zA,-zB,-zC,-zD,-zE,e6]),by omega,by omega⟩
 ·have h1:¬ (i:Int)<s.length:=by omega
  obtain rfl:i=s.length:=by omega
  rw [y0p] at hl1 hl2
  have hne:(lb (litS s)).map w8≠[]:=by intro e; have:=congrArg List.length e; rw [y0s,hl2] at this; simp only [List.length_nil] at this; omega
  have ht:(lb (litS s)).take (litS s).length=lb (litS s):=y07 (by omega)
  simp (disch:=first|omega|simp<;>omega|fail) [-zA,-zB,-zC,-zD,-zE,h1,z8l3 hne,zpgk hne,hl2,ht,zf6e,litR,hp]
end
end Go.Proofs.Ytaihpefemjlilaa
