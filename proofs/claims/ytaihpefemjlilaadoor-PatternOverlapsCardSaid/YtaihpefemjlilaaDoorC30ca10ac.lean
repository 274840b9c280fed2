/-
  14 texts of mine in one.
-/
import Derived.Lib.IndexLaws
import Derived.Test.YtaihpefemjlilaaDoorProg
import Derived.Test.YtaihpefemjlilaaDoorCc02078ea
import Derived.Test.YtaihpefemjlilaaDoorCf3c0fb57
import Derived.Test.YtaihpefemjlilaaDoorC6585a2f5
import Derived.Test.YtaihpefemjlilaaDoorC11682c8d
import Derived.Test.YtaihpefemjlilaaDoorC1468e658
set_option maxRecDepth 20000
set_option maxHeartbeats 4000000
open List renaming map_take → zA, map_drop → zB, map_set → zC, map_append → zD, drop_one → zE
open Bool renaming and_eq_true → y03, true_and → y0i
open List renaming getD_eq_getElem?_getD → y00, getElem?_eq_getElem → y01, getElem?_eq_some_iff → y02, drop_eq_getElem_cons → y05, flatMap_cons → y06, take_of_length_le → y07, length_cons → y08, cons_append → y09, ext_getElem → y0a, getElem?_eq_none → y0b, length_append → y0c, set_cons_succ → y0d, getElem?_append_right → y0e, getElem?_append_left → y0f, drop_eq_nil_of_le → y0g, set_append_right → y0h, map_set → y0k, mem_map → y0l
open Nat renaming le_refl → y04, add_zero → y0j
namespace Go.Proofs.YtaihpefemjlilaaDoor
section
set_option linter.unusedSimpArgs false
set_option linter.unusedVariables false
open Go Go.Am
abbrev B8:=BitVec 8
inductive Pt where
 | one (c:B8)|dot|some|whole
deriving DecidableEq
def Pt.kind:Pt→Int
 | .one _=>0 | .dot=>1 | .some=>2 | .whole=>3
def Pt.chr:Pt→B8
 | .one c=>c|_=>0#8
def Pt.long:Pt→Bool
 | .some=>true | .whole=>true|_=>false
def Pt.takes:Pt→B8→Bool
 | .one c,b=>b == c | .whole,_=>true|_,b=>b != 47#8
def bAt (s:List UInt8) (i:Nat):B8:=(s.getD i 0).toBitVec
def row (x:Pt) (s:List UInt8) (prev:Nat→Bool):Nat→Bool
 | 0=>x.long&&prev 0
 | i+1=>if x.long then prev (i+1)||(row x s prev i&&x.takes (bAt s i)) else prev i&&x.takes (bAt s i)
def M (l:List Pt) (s:List UInt8):Nat→Nat→Bool
 | 0=>fun i=>i == 0
 | k+1=>row (l.getD k .dot) s (M l s k)
theorem zbas (l s) (i:Nat):M l s 0 i=(i == 0):=rfl
theorem z9av (l s) (k:Nat):M l s (k+1) 0=((l.getD k .dot).long&&M l s k 0):=rfl
theorem zbwv {l s} {k i:Nat} (h:(l.getD k .dot).long=true):M l s (k+1) (i+1)=(M l s k (i+1)||(M l s (k+1) i&&(l.getD k .dot).takes (bAt s i))):=by
 show row _ _ _ (i+1)=_
 rw [row,if_pos h]; rfl
theorem ze32 {l s} {k i:Nat} (h:(l.getD k .dot).long=false):M l s (k+1) (i+1)=(M l s k i&&(l.getD k .dot).takes (bAt s i)):=by
 show row _ _ _ (i+1)=_
 rw [row,if_neg (by rw [h]; simp)]
def prs:List UInt8→Option (List Pt)
 | [] => .some []
 | c::r =>
  if c.toBitVec=92#8 then
   match r with
   | []=>none
   | d::r'=>(prs r').map fun l => .one d.toBitVec::l
  else if c.toBitVec=42#8 then
   match r with
   | [] => .some [.some]
   | d::r'=>if d.toBitVec=42#8 then (prs r').map fun l => .whole::l else (prs (d::r')).map fun l => .some::l
  else if c.toBitVec=63#8 then (prs r).map fun l => .dot::l
  else (prs r).map fun l => .one c.toBitVec::l
def noZ (s:List UInt8):Bool:=s.all fun c=>c != 0
def zfn1 (p:List UInt8):Option (List Pt):=if 1≤p.length∧p.length≤200∧noZ p=true then prs p else none
def z2fg:List UInt8→List (List UInt8)
 | []=>[[]]
 | c::r=>if c=47 then []::z2fg r else
  match z2fg r with
  | []=>[[c]]
  | h::t=>(c::h)::t
def okC (x:List UInt8):Bool:=x != []&&x != [46]&&x != [46,46]
def zj1f (s:List UInt8):Bool:=decide (1≤s.length)&&decide (s.length≤200)&&noZ s&&(z2fg s).all okC
def zenh (p s:List UInt8):Bool:=match zfn1 p with
 | none=>false
 | .some l=>zj1f s&&M l s l.length s.length
theorem zq22 (c:UInt8):c.toBitVec.toNat.toUInt8=c:=by simp
theorem zf0z : ∀ (s:List UInt8),z2fg s≠[]
 | []=>by simp [z2fg]
 | c::r=>by
  rw [z2fg]
  split
  ·simp
  ·split<;>simp
theorem zjyx (r:List UInt8):z2fg (47::r)=[]::z2fg r:=by simp [z2fg]
theorem zyty {c:UInt8} {r h:List UInt8} {t:List (List UInt8)} (hc:c≠47) (hr:z2fg r=h::t):z2fg (c::r)=(c::h)::t:=by simp [z2fg,hc,hr]
theorem zzaw (r:List UInt8) : ∃ h t,z2fg r=h::t:=by
 cases e:z2fg r with
 | nil=>exact absurd e (zf0z r)
 | cons h t=>exact ⟨h,t,rfl⟩
theorem z1q7 (b:UInt8) (l:List UInt8) (c:UInt8):Lib.indexByte (b::l) c=if b=c then 0 else if Lib.indexByte l c = -1 then -1 else Lib.indexByte l c+1:=by
 simp [Lib.indexByte]
theorem zbf3 : ∀ {s:List UInt8},Lib.indexByte s 47 = -1→z2fg s=[s]
 | [],_=>rfl
 | c::r,h=>by
  rw [z1q7] at h
  split at h
  ·simp at h
  ·rename_i hc
   split at h
   ·rename_i hr; exact zyty hc (zbf3 hr)
   ·have:=Lib.indexByte_ge r 47; omega
theorem zjoj : ∀ {s:List UInt8} {o:Nat},Lib.indexByte s 47=o→z2fg s=s.take o::z2fg (s.drop (o+1))
 | [],o,h=>by simp [Lib.indexByte] at h
 | c::r,o,h=>by
  rw [z1q7] at h
  split at h
  ·rename_i hc
   have:o=0:=by omega
   subst this; subst hc
   simp [zjyx]
  ·rename_i hc
   split at h
   ·omega
   ·obtain ⟨o',rfl⟩ : ∃ o',o=o'+1:=⟨o-1,by have:=Lib.indexByte_ge r 47; omega⟩
    have:=zjoj (s:=r) (o:=o') (by omega)
    rw [zyty hc this]
    simp
theorem z9lv : ∀ (s:List UInt8),(z2fg s).length=Lib.countByte s 47+1
 | []=>rfl
 | c::r=>by
  have ih:=z9lv r
  obtain ⟨h,t,e⟩:=zzaw r
  by_cases hc:c=47
  ·subst hc; rw [zjyx]; simp [ih,Lib.countByte]
  ·rw [zyty hc e]
   rw [e] at ih
   simp [Lib.countByte,List.count_cons,hc] at ih ⊢
   exact ih
theorem zc5k : ∀ (s:List UInt8),noZ s=decide (Lib.indexByte s 0 = -1)
 | []=>rfl
 | c::r=>by
  have ih:=zc5k r
  have hg:=Lib.indexByte_ge r 0
  have e:noZ (c::r)=(c != 0&&noZ r):=by simp [noZ]
  rw [e,ih,z1q7]
  by_cases hc:c=0
  ·simp [hc]
  ·by_cases hr:Lib.indexByte r 0 = -1
   ·simp [hc,hr]
   ·simp [hc,hr]; omega
theorem z8bu {s:List UInt8} {c:UInt8} {o:Nat} (h:Lib.indexByte s c=o):o<s.length:=by
 have:=(Lib.indexByte_some h).1
 exact (y02.1 this).1
end
section
set_option linter.unusedSimpArgs false
set_option linter.unusedVariables false
open Go Go.Am
theorem zmqh {α:Type} {d:List α} {i:Nat} (h:i<d.length):d.take (i+1)=d.take i++[d[i]]:=by rw [List.take_add_one,y01 h]; rfl
def R (l:List Pt) (s:List UInt8) (k i:Nat):Bool:=if (l.getD k .dot).long then M l s (k+1) i else M l s k i
def nx (a tk lg:Nat→Bool):Nat→Nat→Bool
 | 0,_=>false
 | k+1,j=>nx a tk lg k j||(a k&&tk k&&(j == if lg k then k else k+1))
def fin (b lg:Nat→Bool):Nat→Bool
 | 0=>b 0
 | j+1=>b (j+1)||(fin b lg j&&lg j)
def ep (b lg:Nat→Bool) (k j:Nat):Bool:=if j≤k then fin b lg j else b j
theorem zie3 (a tk lg:Nat→Bool) : ∀ k,nx a tk lg k 0=(decide (0<k)&&lg 0&&a 0&&tk 0)
 | 0=>by simp [nx]
 | k+1=>by
  rw [nx,zie3 a tk lg k]
  by_cases hk:k=0
  ·subst hk; cases lg 0<;>cases a 0<;>cases tk 0<;>simp
  ·have h0:0<k:=by omega
   cases hl:lg k<;>cases a k<;>cases tk k<;>simp [h0,Ne.symm hk]
theorem zewj (a tk lg:Nat→Bool) (j:Nat) : ∀ k,nx a tk lg k (j+1)=((decide (j+1<k)&&lg (j+1)&&a (j+1)&&tk (j+1))||(decide (j<k) && !lg j&&a j&&tk j))
 | 0=>by simp [nx]
 | k+1=>by
  rw [nx,zewj a tk lg j k]
  by_cases h1:k=j+1
  ·subst h1
   have e0:j<j+1+1:=by omega
   cases lg (j+1)<;>cases a (j+1)<;>cases tk (j+1)<;>cases lg j<;>cases a j<;>cases tk j<;>simp [e0]
  ·by_cases h2:k=j
   ·subst h2
    have e0:¬ k+1<k:=by omega
    cases lg k<;>cases a k<;>cases tk k<;>simp [e0]
   ·have e1:decide (j+1<k+1)=decide (j<k):=by simp
    have e2:decide (j<k+1)=decide (j<k):=by simp; omega
    have e3:decide (j+1<k)=decide (j<k):=by simp; omega
    have e4:(j+1 == if lg k then k else k+1)=false:=by cases lg k<;>simp<;>omega
    rw [e1,e2,e3,e4]; simp
theorem zol2 {l:List Pt} {s:List UInt8} {i:Nat} (a tk lg:Nat→Bool) (ha : ∀ k,k≤l.length→a k=R l s k i) (ht : ∀ k,k<l.length→tk k=(l.getD k .dot).takes (bAt s i)) (hl : ∀ k,k<l.length→lg k=(l.getD k .dot).long) :
  ∀ j,j≤l.length→fin (nx a tk lg l.length) lg j=R l s j (i+1)
 | 0,_=>by
  rw [fin,zie3]
  by_cases h0:0<l.length
  ·rw [ha 0 (by omega),ht 0 h0,hl 0 h0]
   unfold R
   cases h:(l.getD 0 .dot).long with
   | false=>simp [zbas]
   | true=>simp only [h,if_true,zbwv h,zbas]; simp [h0]
  ·have e:(l.getD 0 .dot) = .dot:=by rw [y00,y0b (by omega)]; rfl
   simp only [R,e]; simp [h0,Pt.long,zbas]
 | j+1,hj=>by
  have ih:=zol2 a tk lg ha ht hl j (by omega)
  have hj':j<l.length:=by omega
  rw [fin,zewj,ih,ha j (by omega),ht j hj',hl j hj']
  have e1:M l s (j+1) (i+1)=((R l s j (i+1)&&(l.getD j .dot).long)||(!(l.getD j .dot).long&&R l s j i&&(l.getD j .dot).takes (bAt s i))):=by
   unfold R
   cases h:(l.getD j .dot).long with
   | false=>simp [ze32 h]
   | true=>simp
  by_cases h1:j+1<l.length
  ·rw [ha (j+1) (by omega),ht (j+1) h1,hl (j+1) h1]
   cases h:(l.getD (j+1) .dot).long with
   | false =>
    have:R l s (j+1) (i+1)=M l s (j+1) (i+1):=by rw [R,if_neg (by rw [h]; simp)]
    rw [this,e1]
    cases (l.getD j .dot).long<;>cases R l s j (i+1)<;>cases R l s j i<;>simp [hj']
   | true =>
    have:R l s (j+1) (i+1)=(M l s (j+1) (i+1)||(R l s (j+1) i&&(l.getD (j+1) .dot).takes (bAt s i))):=by simp only [R,h,if_true]; exact zbwv h
    rw [this,e1]
    cases (l.getD j .dot).long<;>cases R l s j (i+1)<;>cases R l s j i<;>cases R l s (j+1) i<;>cases (l.getD (j+1) .dot).takes (bAt s i)<;>simp [hj',h1]
  ·have e:(l.getD (j+1) .dot) = .dot:=by rw [y00,y0b (by omega)]; rfl
   have:R l s (j+1) (i+1)=M l s (j+1) (i+1):=by simp only [R,e]; simp [Pt.long]
   rw [this,e1]
   cases (l.getD j .dot).long<;>cases R l s j (i+1)<;>cases R l s j i<;>simp [hj',h1]
theorem z0fy (l:List Pt) (s:List UInt8) (i:Nat):R l s l.length i=M l s l.length i:=by
 have e:(l.getD l.length .dot) = .dot:=by rw [y00,y0b (by omega)]; rfl
 simp only [R,e]; simp [Pt.long]
theorem zrib {l:List Pt} {s:List UInt8} {k:Nat} (h : ∀ i,i<k→(l.getD i .dot).long=true):M l s k 0=true:=by
 induction k with
 | zero=>rfl
 | succ k ih=>rw [z9av,h k (by omega),ih (fun i hi=>h i (by omega))]; rfl
theorem z82v {l:List Pt} {s:List UInt8} {k:Nat} (h:(l.getD k .dot).long=false) : ∀ j,k<j→M l s j 0=false
 | 0,hj=>by omega
 | j+1,hj=>by
  rw [z9av]
  by_cases e:j=k
  ·subst e; rw [h]; rfl
  ·rw [z82v h j (by omega)]; simp
theorem z3rn {l:List Pt} {s:List UInt8} {k:Nat} (hk : ∀ i,i<k→(l.getD i .dot).long=true) (h:(l.getD k .dot).long=false) (j:Nat):R l s j 0=decide (j≤k):=by
 unfold R
 by_cases hj:j≤k
 ·have h1:=zrib (s:=s) (k:=j) (fun i hi=>hk i (by omega))
  split
  ·rename_i hl; rw [z9av,hl,h1]; simp [hj]
  ·rw [h1]; simp [hj]
 ·split
  ·rw [z82v h (j+1) (by omega)]; simp [hj]
  ·rw [z82v h j (by omega)]; simp [hj]
theorem zejk {c:UInt8} {n:UInt8} (h:c≠n):c.toBitVec≠n.toBitVec:=fun e=>h (UInt8.toBitVec_inj.1 e)
theorem zbr2 {c:UInt8} (h1:c≠92) (h2:c≠42) (h3:c≠63) (r:List UInt8):prs (c::r)=(prs r).map fun l => .one c.toBitVec::l:=by
 have g1:c.toBitVec≠92#8:=zejk h1
 have g2:c.toBitVec≠42#8:=zejk h2
 have g3:c.toBitVec≠63#8:=zejk h3
 rw [prs.eq_def]; simp [g1,g2,g3]
theorem z32i (c:UInt8) (r:List UInt8):prs (92::c::r)=(prs r).map fun l => .one c.toBitVec::l:=by
 rw [prs.eq_def]; simp
theorem z2u1 (a b:List UInt8):noZ (a++b)=(noZ a&&noZ b):=by simp [noZ]
theorem z8rj {s:List UInt8} {i:Nat} (h:i<s.length):bAt s i=s[i].toBitVec:=by simp [bAt,y00,y01 h]
end
section
set_option linter.unusedSimpArgs false
set_option linter.unusedVariables false
open Go Go.Am
noncomputable abbrev P:Program:=Tryd.prog
theorem mix:P.follows .mixedOrders=true:=by kernel_rfl
def a65:AFn where
 code:=(.seq (.region false [⟨none,(some 4),.mov (.k (.int .i64 0))⟩])
 (.seq (.region false [⟨none,(some 5),.mov (.t 0)⟩,
  ⟨none,(some 6),.mov (.t 1)⟩,
  ⟨none,(some 7),.call (.k (.fn (.func 74) [] [])) [(.t 5),(.t 6)]⟩,
  ⟨none,(some 4),.mov (.t 7)⟩])
 .ret))
 ntmps:=8
 res:=[.tmp 4]
theorem zh04:zsjc P Tryd.f65=some a65:=by kernel_rfl
def a51:AFn where
 code:=(.seq (.region false [⟨none,(some 4),.mov (.k (.int .i64 0))⟩])
 (.seq (.region false [⟨none,(some 5),.mov (.t 0)⟩,
  ⟨none,(some 6),.mov (.t 1)⟩,
  ⟨none,(some 7),.call (.k (.fn (.func 65) [] [])) [(.t 5),(.t 6)]⟩,
  ⟨none,(some 4),.mov (.t 7)⟩])
 .ret))
 ntmps:=8
 res:=[.tmp 4]
theorem z8rx:zsjc P Tryd.f51=some a51:=by kernel_rfl
def zjzl:ACode :=
 (.seq (.seq (.region false [⟨none,(some 57),.mov (.t 8)⟩,
  ⟨none,(some 58),.mov (.t 9)⟩,
  ⟨none,(some 59),.bin .lss (.t 57) (.t 58)⟩])
 (.cond (.t 59) .skip
 (.exit 1)))
 (.block 2 (.seq (.seq (.region false [⟨none,(some 60),.mov (.t 0)⟩,
  ⟨none,(some 61),.mov (.t 8)⟩,
  ⟨none,(some 62),.idxStr (.t 60) (.t 61)⟩,
  ⟨none,(some 63),.mov (.t 6)⟩,
  ⟨none,(some 64),.bin .neq (.t 62) (.t 63)⟩])
 (.cond (.t 64) (.seq (.region false [⟨none,(some 65),.mov (.t 0)⟩,
  ⟨none,(some 66),.mov (.t 8)⟩,
  ⟨none,(some 67),.bin .add (.t 66) (.k (.int .i64 1))⟩,
  ⟨none,(some 68),.mov (.t 9)⟩,
  ⟨none,(some 69),.slcStr (.t 65) (some (.t 67)) (some (.t 68))⟩,
  ⟨none,(some 70),.mov (.t 6)⟩,
  ⟨none,(some 71),.call (.k (.fn (.func 65) [] [])) [(.t 69),(.t 70)]⟩,
  ⟨none,(some 11),.mov (.t 71)⟩])
 (.seq (.seq (.region false [⟨none,(some 72),.mov (.t 11)⟩,
  ⟨none,(some 73),.bin .lss (.t 72) (.k (.int .i64 0))⟩])
 (.cond (.t 73) (.seq (.region false [⟨none,(some 4),.mov (.k (.int .i64 (-1)))⟩])
 .ret)
 .skip))
 (.region false [⟨none,(some 74),.mov (.t 8)⟩,
  ⟨none,(some 75),.mov (.t 11)⟩,
  ⟨none,(some 76),.bin .add (.t 75) (.k (.int .i64 1))⟩,
  ⟨none,(some 77),.bin .add (.t 74) (.t 76)⟩,
  ⟨none,(some 8),.mov (.t 77)⟩])))
 .skip))
 (.seq (.seq (.region false [⟨none,(some 78),.mov (.t 0)⟩,
  ⟨none,(some 79),.mov (.t 8)⟩,
  ⟨none,(some 80),.bin .add (.t 79) (.k (.int .i64 1))⟩,
  ⟨none,(some 81),.idxStr (.t 78) (.t 80)⟩,
  ⟨none,(some 82),.mov (.t 7)⟩,
  ⟨none,(some 83),.bin .eql (.t 81) (.t 82)⟩,
  ⟨none,(some 84),.mov (.t 83)⟩,
  ⟨(some (84,true)),(some 85),.mov (.t 0)⟩,
  ⟨(some (84,true)),(some 86),.mov (.t 8)⟩,
  ⟨(some (84,true)),(some 87),.mov (.t 8)⟩,
  ⟨(some (84,true)),(some 88),.mov (.t 5)⟩,
  ⟨(some (84,true)),(some 89),.bin .add (.t 87) (.t 88)⟩,
  ⟨(some (84,true)),(some 90),.slcStr (.t 85) (some (.t 86)) (some (.t 89))⟩,
  ⟨(some (84,true)),(some 91),.mov (.t 1)⟩,
  ⟨(some (84,true)),(some 92),.bin .eql (.t 90) (.t 91)⟩,
  ⟨none,(some 93),.pick (.t 84) (.t 92) (.k (.bool false))⟩])
 (.cond (.t 93) (.seq (.region false [⟨none,(some 94),.mov (.t 8)⟩,
  ⟨none,(some 4),.mov (.t 94)⟩])
 .ret)
 .skip))
 (.seq (.region false [⟨none,(some 95),.mov (.t 8)⟩,
  ⟨none,(some 96),.bin .add (.t 95) (.k (.int .i64 1))⟩,
  ⟨none,(some 8),.mov (.t 96)⟩])
 (.seq (.region false [⟨none,(some 97),.mov (.t 10)⟩,
  ⟨none,(some 98),.bin .add (.t 97) (.k (.int .i64 1))⟩,
  ⟨none,(some 10),.mov (.t 98)⟩])
 (.seq (.region false [⟨none,(some 99),.mov (.t 5)⟩,
  ⟨none,(some 100),.ext (.k .junk) 0⟩,
  ⟨none,(some 101),.bin .leq (.t 99) (.t 100)⟩,
  ⟨none,(some 102),.mov (.t 101)⟩,
  ⟨(some (102,true)),(some 103),.mov (.t 10)⟩,
  ⟨(some (102,true)),(some 104),.mov (.t 8)⟩,
  ⟨(some (102,true)),(some 105),.call (.k (.fn (.func 79) [] [])) [(.t 104)]⟩,
  ⟨(some (102,true)),(some 106),.bin .gtr (.t 103) (.t 105)⟩,
  ⟨none,(some 107),.pick (.t 102) (.t 106) (.k (.bool false))⟩])
 (.cond (.t 107) (.seq (.region false [⟨none,(some 108),.mov (.t 0)⟩,
  ⟨none,(some 109),.mov (.t 8)⟩,
  ⟨none,(some 110),.slcStr (.t 108) (some (.t 109)) none⟩,
  ⟨none,(some 111),.mov (.t 1)⟩,
  ⟨none,(some 112),.call (.k (.fn (.func 78) [] [])) [(.t 110),(.t 111)]⟩,
  ⟨none,(some 12),.mov (.t 112)⟩])
 (.seq (.seq (.region false [⟨none,(some 113),.mov (.t 12)⟩,
  ⟨none,(some 114),.bin .geq (.t 113) (.k (.int .i64 0))⟩])
 (.cond (.t 114) (.seq (.region false [⟨none,(some 115),.mov (.t 12)⟩,
  ⟨none,(some 116),.mov (.t 8)⟩,
  ⟨none,(some 117),.bin .add (.t 115) (.t 116)⟩,
  ⟨none,(some 4),.mov (.t 117)⟩])
 .ret)
 .skip))
 (.seq (.region false [⟨none,(some 4),.mov (.k (.int .i64 (-1)))⟩])
 .ret)))
 (.seq (.region false [⟨none,(some 118),.mov (.t 5)⟩,
  ⟨none,(some 119),.ext (.k .junk) 0⟩,
  ⟨none,(some 120),.bin .gtr (.t 118) (.t 119)⟩,
  ⟨none,(some 121),.mov (.t 120)⟩,
  ⟨(some (121,true)),(some 122),.mov (.t 10)⟩,
  ⟨(some (121,true)),(some 123),.mov (.t 8)⟩,
  ⟨(some (121,true)),(some 124),.bin .shr (.t 123) (.k (w64 4#64))⟩,
  ⟨(some (121,true)),(some 125),.bin .add (.k (.int .i64 4)) (.t 124)⟩,
  ⟨(some (121,true)),(some 126),.bin .geq (.t 122) (.t 125)⟩,
  ⟨none,(some 127),.pick (.t 121) (.t 126) (.k (.bool false))⟩,
  ⟨none,(some 128),.mov (.t 127)⟩,
  ⟨(some (128,true)),(some 129),.mov (.t 8)⟩,
  ⟨(some (128,true)),(some 130),.mov (.t 9)⟩,
  ⟨(some (128,true)),(some 131),.bin .lss (.t 129) (.t 130)⟩,
  ⟨none,(some 132),.pick (.t 128) (.t 131) (.k (.bool false))⟩])
 (.cond (.t 132) (.seq (.region false [⟨none,(some 133),.mov (.t 0)⟩,
  ⟨none,(some 134),.mov (.t 8)⟩,
  ⟨none,(some 135),.slcStr (.t 133) (some (.t 134)) none⟩,
  ⟨none,(some 136),.mov (.t 1)⟩,
  ⟨none,(some 137),.call (.k (.fn (.func 80) [] [])) [(.t 135),(.t 136)]⟩,
  ⟨none,(some 13),.mov (.t 137)⟩])
 (.seq (.seq (.region false [⟨none,(some 138),.mov (.t 13)⟩,
  ⟨none,(some 139),.bin .lss (.t 138) (.k (.int .i64 0))⟩])
 (.cond (.t 139) (.seq (.region false [⟨none,(some 4),.mov (.k (.int .i64 (-1)))⟩])
 .ret)
 .skip))
 (.seq (.region false [⟨none,(some 140),.mov (.t 8)⟩,
  ⟨none,(some 141),.mov (.t 13)⟩,
  ⟨none,(some 142),.bin .add (.t 140) (.t 141)⟩,
  ⟨none,(some 4),.mov (.t 142)⟩])
 .ret)))
 .skip))))))))))
def a75:AFn where
 code:=(.seq (.region false [⟨none,(some 4),.mov (.k (.int .i64 0))⟩])
 (.seq (.region false [⟨none,(some 14),.mov (.t 1)⟩,
  ⟨none,(some 15),.lenStr (.t 14)⟩,
  ⟨none,(some 5),.mov (.t 15)⟩])
 (.seq (.block 0 (.seq (.region false [⟨none,(some 17),.mov (.t 5)⟩,
  ⟨none,(some 18),.bin .eql (.t 17) (.k (.int .i64 0))⟩,
  ⟨none,(some 19),.mov (.t 18)⟩,
  ⟨(some (19,false)),(some 20),.mov (.t 1)⟩,
  ⟨(some (19,false)),(some 21),.mov (.t 0)⟩,
  ⟨(some (19,false)),(some 22),.bin .eql (.t 20) (.t 21)⟩,
  ⟨none,(some 23),.pick (.t 19) (.k (.bool true)) (.t 22)⟩,
  ⟨none,(some 16),.mov (.t 23)⟩])
 (.cond (.t 16) (.seq (.region false [⟨none,(some 4),.mov (.k (.int .i64 0))⟩])
 .ret)
 (.seq (.region false [⟨none,(some 25),.mov (.t 5)⟩,
  ⟨none,(some 26),.bin .eql (.t 25) (.k (.int .i64 1))⟩,
  ⟨none,(some 24),.mov (.t 26)⟩])
 (.cond (.t 24) (.seq (.region false [⟨none,(some 27),.mov (.t 0)⟩,
  ⟨none,(some 28),.mov (.t 1)⟩,
  ⟨none,(some 29),.idxStr (.t 28) (.k (.int .i64 0))⟩,
  ⟨none,(some 30),.call (.k (.fn (.func 65) [] [])) [(.t 27),(.t 29)]⟩,
  ⟨none,(some 4),.mov (.t 30)⟩])
 .ret)
 (.seq (.region false [⟨none,(some 32),.mov (.t 5)⟩,
  ⟨none,(some 33),.mov (.t 0)⟩,
  ⟨none,(some 34),.lenStr (.t 33)⟩,
  ⟨none,(some 35),.bin .geq (.t 32) (.t 34)⟩,
  ⟨none,(some 31),.mov (.t 35)⟩])
 (.cond (.t 31) (.seq (.region false [⟨none,(some 4),.mov (.k (.int .i64 (-1)))⟩])
 .ret)
 (.seq (.region false [⟨none,(some 37),.mov (.t 5)⟩,
  ⟨none,(some 38),.ext (.k .junk) 0⟩,
  ⟨none,(some 39),.bin .leq (.t 37) (.t 38)⟩,
  ⟨none,(some 40),.mov (.t 39)⟩,
  ⟨(some (40,true)),(some 41),.mov (.t 0)⟩,
  ⟨(some (40,true)),(some 42),.lenStr (.t 41)⟩,
  ⟨(some (40,true)),(some 43),.bin .leq (.t 42) (.k (.int .i64 64))⟩,
  ⟨none,(some 44),.pick (.t 40) (.t 43) (.k (.bool false))⟩,
  ⟨none,(some 36),.mov (.t 44)⟩])
 (.cond (.t 36) (.seq (.region false [⟨none,(some 45),.mov (.t 0)⟩,
  ⟨none,(some 46),.mov (.t 1)⟩,
  ⟨none,(some 47),.call (.k (.fn (.func 78) [] [])) [(.t 45),(.t 46)]⟩,
  ⟨none,(some 4),.mov (.t 47)⟩])
 .ret)
 .skip)))))))))
 (.seq (.region false [⟨none,(some 48),.mov (.t 1)⟩,
  ⟨none,(some 49),.idxStr (.t 48) (.k (.int .i64 0))⟩,
  ⟨none,(some 6),.mov (.t 49)⟩])
 (.seq (.region false [⟨none,(some 50),.mov (.t 1)⟩,
  ⟨none,(some 51),.idxStr (.t 50) (.k (.int .i64 1))⟩,
  ⟨none,(some 7),.mov (.t 51)⟩])
 (.seq (.region false [⟨none,(some 8),.mov (.k (.int .i64 0))⟩])
 (.seq (.region false [⟨none,(some 52),.mov (.t 0)⟩,
  ⟨none,(some 53),.lenStr (.t 52)⟩,
  ⟨none,(some 54),.mov (.t 5)⟩,
  ⟨none,(some 55),.bin .sub (.t 53) (.t 54)⟩,
  ⟨none,(some 56),.bin .add (.t 55) (.k (.int .i64 1))⟩,
  ⟨none,(some 9),.mov (.t 56)⟩])
 (.seq (.region false [⟨none,(some 10),.mov (.k (.int .i64 0))⟩])
 (.seq (.block 1 (.loop zjzl))
 (.seq (.region false [⟨none,(some 4),.mov (.k (.int .i64 (-1)))⟩])
 .ret))))))))))
 ntmps:=143
 res:=[.tmp 4]
theorem zrvd:zsjc P Tryd.f75=some a75:=by kernel_rfl
def a73:AFn where
 code:=(.seq (.region false [⟨none,(some 4),.mov (.k (.int .i64 0))⟩])
 (.seq (.region false [⟨none,(some 5),.mov (.t 0)⟩,
  ⟨none,(some 6),.mov (.t 1)⟩,
  ⟨none,(some 7),.call (.k (.fn (.func 75) [] [])) [(.t 5),(.t 6)]⟩,
  ⟨none,(some 4),.mov (.t 7)⟩])
 .ret))
 ntmps:=8
 res:=[.tmp 4]
theorem zn06:zsjc P Tryd.f73=some a73:=by kernel_rfl
def a64:AFn where
 code:=(.seq (.region false [⟨none,(some 4),.mov (.k (.bool false))⟩])
 (.seq (.region false [⟨none,(some 5),.mov (.t 0)⟩,
  ⟨none,(some 6),.mov (.t 1)⟩,
  ⟨none,(some 7),.call (.k (.fn (.func 73) [] [])) [(.t 5),(.t 6)]⟩,
  ⟨none,(some 8),.bin .geq (.t 7) (.k (.int .i64 0))⟩,
  ⟨none,(some 4),.mov (.t 8)⟩])
 .ret))
 ntmps:=9
 res:=[.tmp 4]
theorem zerh:zsjc P Tryd.f64=some a64:=by kernel_rfl
def a66:AFn where
 code:=(.seq (.region false [⟨none,(some 4),.mov (.k (.str []))⟩,
  ⟨none,(some 5),.mov (.k (.str []))⟩,
  ⟨none,(some 6),.mov (.k (.bool false))⟩])
 (.seq (.seq (.region false [⟨none,(some 8),.mov (.t 0)⟩,
  ⟨none,(some 9),.mov (.t 1)⟩,
  ⟨none,(some 10),.call (.k (.fn (.func 75) [] [])) [(.t 8),(.t 9)]⟩,
  ⟨none,(some 7),.mov (.t 10)⟩])
 (.seq (.region false [⟨none,(some 11),.mov (.t 7)⟩,
  ⟨none,(some 12),.bin .geq (.t 11) (.k (.int .i64 0))⟩])
 (.cond (.t 12) (.seq (.region true [⟨none,(some 13),.mov (.t 0)⟩,
  ⟨none,(some 14),.mov (.t 7)⟩,
  ⟨none,(some 15),.slcStr (.t 13) none (some (.t 14))⟩,
  ⟨none,(some 16),.mov (.t 0)⟩,
  ⟨none,(some 17),.mov (.t 7)⟩,
  ⟨none,(some 18),.mov (.t 1)⟩,
  ⟨none,(some 19),.lenStr (.t 18)⟩,
  ⟨none,(some 20),.bin .add (.t 17) (.t 19)⟩,
  ⟨none,(some 21),.slcStr (.t 16) (some (.t 20)) none⟩,
  ⟨none,(some 4),.mov (.t 15)⟩,
  ⟨none,(some 5),.mov (.t 21)⟩,
  ⟨none,(some 6),.mov (.k (.bool true))⟩])
 .ret)
 .skip)))
 (.seq (.region false [⟨none,(some 22),.mov (.t 0)⟩,
  ⟨none,(some 4),.mov (.t 22)⟩,
  ⟨none,(some 5),.mov (.k (.str []))⟩,
  ⟨none,(some 6),.mov (.k (.bool false))⟩])
 .ret)))
 ntmps:=23
 res:=[.tmp 4,.tmp 5,.tmp 6]
theorem z3a6:zsjc P Tryd.f66=some a66:=by kernel_rfl
def a52:AFn where
 code:=(.seq (.region false [⟨none,(some 4),.mov (.k (.str []))⟩,
  ⟨none,(some 5),.mov (.k (.str []))⟩,
  ⟨none,(some 6),.mov (.k (.bool false))⟩])
 (.seq (.region false [⟨none,(some 7),.mov (.t 0)⟩,
  ⟨none,(some 8),.mov (.t 1)⟩,
  ⟨none,(some 9),.call (.k (.fn (.func 66) [] [])) [(.t 7),(.t 8)]⟩,
  ⟨none,(some 10),.ext (.t 9) 0⟩,
  ⟨none,(some 11),.ext (.t 9) 1⟩,
  ⟨none,(some 12),.ext (.t 9) 2⟩,
  ⟨none,(some 4),.mov (.t 10)⟩,
  ⟨none,(some 5),.mov (.t 11)⟩,
  ⟨none,(some 6),.mov (.t 12)⟩])
 .ret))
 ntmps:=13
 res:=[.tmp 4,.tmp 5,.tmp 6]
theorem zil0:zsjc P Tryd.f52=some a52:=by kernel_rfl
def zqw7:ACode :=
 (.seq (.seq (.region false [⟨none,(some 18),.mov (.t 3)⟩])
 (.cond (.t 18) .skip
 (.exit 0)))
 (.block 1 (.seq (.region false [⟨none,(some 4),.mov (.k (.str []))⟩])
 (.seq (.region false [⟨none,(some 20),.mov (.t 0)⟩,
  ⟨none,(some 21),.call (.k (.fn (.func 52) [] [])) [(.t 20),(.k (.str [47]))]⟩,
  ⟨none,(some 19),.mov (.t 21)⟩,
  ⟨none,(some 22),.ext (.t 19) 0⟩,
  ⟨none,(some 23),.ext (.t 19) 1⟩,
  ⟨none,(some 24),.ext (.t 19) 2⟩,
  ⟨none,(some 4),.mov (.t 22)⟩,
  ⟨none,(some 0),.mov (.t 23)⟩,
  ⟨none,(some 3),.mov (.t 24)⟩])
 (.seq (.region false [⟨none,(some 25),.mov (.t 4)⟩,
  ⟨none,(some 26),.bin .eql (.t 25) (.k (.str []))⟩,
  ⟨none,(some 27),.mov (.t 26)⟩,
  ⟨(some (27,false)),(some 28),.mov (.t 4)⟩,
  ⟨(some (27,false)),(some 29),.bin .eql (.t 28) (.k (.str [46]))⟩,
  ⟨none,(some 30),.pick (.t 27) (.k (.bool true)) (.t 29)⟩,
  ⟨none,(some 31),.mov (.t 30)⟩,
  ⟨(some (31,false)),(some 32),.mov (.t 4)⟩,
  ⟨(some (31,false)),(some 33),.bin .eql (.t 32) (.k (.str [46,46]))⟩,
  ⟨none,(some 34),.pick (.t 31) (.k (.bool true)) (.t 33)⟩])
 (.cond (.t 34) (.seq (.region false [⟨none,(some 2),.mov (.k (.bool false))⟩])
 .ret)
 .skip))))))
def zben (x0 x3:DV) (h:List AObj):St:=⟨[x0,.junk,.junk,x3]++js 31,h⟩
def a24:AFn where
 code:=(.seq (.region false [⟨none,(some 2),.mov (.k (.bool false))⟩])
 (.seq (.seq (.region false [⟨none,(some 5),.mov (.t 0)⟩,
  ⟨none,(some 6),.lenStr (.t 5)⟩,
  ⟨none,(some 7),.bin .lss (.t 6) (.k (.int .i64 1))⟩,
  ⟨none,(some 8),.mov (.t 7)⟩,
  ⟨(some (8,false)),(some 9),.mov (.t 0)⟩,
  ⟨(some (8,false)),(some 10),.lenStr (.t 9)⟩,
  ⟨(some (8,false)),(some 11),.bin .gtr (.t 10) (.k (.int .i64 200))⟩,
  ⟨none,(some 12),.pick (.t 8) (.k (.bool true)) (.t 11)⟩,
  ⟨none,(some 13),.mov (.t 12)⟩,
  ⟨(some (13,false)),(some 14),.mov (.t 0)⟩,
  ⟨(some (13,false)),(some 15),.call (.k (.fn (.func 51) [] [])) [(.t 14),(.k (w8 0#8))]⟩,
  ⟨(some (13,false)),(some 16),.bin .geq (.t 15) (.k (.int .i64 0))⟩,
  ⟨none,(some 17),.pick (.t 13) (.k (.bool true)) (.t 16)⟩])
 (.cond (.t 17) (.seq (.region false [⟨none,(some 2),.mov (.k (.bool false))⟩])
 .ret)
 .skip))
 (.seq (.seq (.region false [⟨none,(some 3),.mov (.k (.bool true))⟩])
 (.block 0 (.loop zqw7)))
 (.seq (.region false [⟨none,(some 2),.mov (.k (.bool true))⟩])
 .ret))))
 ntmps:=35
 res:=[.tmp 2]
theorem zcoa:zsjc P Tryd.f24=some a24:=by kernel_rfl
def zx0e:ACode :=
 (.seq (.seq (.region false [⟨none,(some 19),.mov (.t 5)⟩,
  ⟨none,(some 20),.mov (.t 0)⟩,
  ⟨none,(some 21),.lenStr (.t 20)⟩,
  ⟨none,(some 22),.bin .lss (.t 19) (.t 21)⟩])
 (.cond (.t 22) .skip
 (.exit 0)))
 (.seq (.block 1 (.block 2 (.seq (.region false [⟨none,(some 33),.mov (.t 0)⟩,
  ⟨none,(some 34),.mov (.t 5)⟩,
  ⟨none,(some 35),.idxStr (.t 33) (.t 34)⟩,
  ⟨none,(some 36),.bin .eql (.t 35) (.k (w8 92#8))⟩,
  ⟨none,(some 32),.mov (.t 36)⟩])
 (.cond (.t 32) (.seq (.region false [⟨none,(some 37),.mov (.t 5)⟩,
  ⟨none,(some 38),.bin .add (.t 37) (.k (.int .i64 1))⟩,
  ⟨none,(some 5),.mov (.t 38)⟩])
 (.seq (.seq (.region false [⟨none,(some 39),.mov (.t 5)⟩,
  ⟨none,(some 40),.mov (.t 0)⟩,
  ⟨none,(some 41),.lenStr (.t 40)⟩,
  ⟨none,(some 42),.bin .eql (.t 39) (.t 41)⟩])
 (.cond (.t 42) (.seq (.region false [⟨none,(some 2),.mov (.k .nils)⟩,
  ⟨none,(some 3),.mov (.k (.bool false))⟩])
 .ret)
 .skip))
 (.region false [⟨none,(some 43),.mov (.t 4)⟩,
  ⟨none,(some 44),.mov (.t 0)⟩,
  ⟨none,(some 45),.mov (.t 5)⟩,
  ⟨none,(some 46),.idxStr (.t 44) (.t 45)⟩,
  ⟨none,(some 47),.build [(.int .i64 0),(w8 0#8)] [(0,1,(.k (.int .i64 0))),(1,1,(.t 46))]⟩,
  ⟨none,(some 48),.bsl 2 1 [(.int .i64 0),(w8 0#8)] [(0,2,(.t 47))]⟩,
  ⟨none,(some 49),.app 2 16 (.t 43) (.t 48)⟩,
  ⟨none,(some 4),.mov (.t 49)⟩])))
 (.seq (.region false [⟨none,(some 51),.mov (.t 0)⟩,
  ⟨none,(some 52),.mov (.t 5)⟩,
  ⟨none,(some 53),.idxStr (.t 51) (.t 52)⟩,
  ⟨none,(some 54),.bin .eql (.t 53) (.k (w8 63#8))⟩,
  ⟨none,(some 50),.mov (.t 54)⟩])
 (.cond (.t 50) (.region false [⟨none,(some 55),.mov (.t 4)⟩,
  ⟨none,(some 56),.build [(.int .i64 0),(w8 0#8)] [(0,1,(.k (.int .i64 1)))]⟩,
  ⟨none,(some 57),.bsl 2 1 [(.int .i64 0),(w8 0#8)] [(0,2,(.t 56))]⟩,
  ⟨none,(some 58),.app 2 16 (.t 55) (.t 57)⟩,
  ⟨none,(some 4),.mov (.t 58)⟩])
 (.seq (.region false [⟨none,(some 60),.mov (.t 0)⟩,
  ⟨none,(some 61),.mov (.t 5)⟩,
  ⟨none,(some 62),.idxStr (.t 60) (.t 61)⟩,
  ⟨none,(some 63),.bin .eql (.t 62) (.k (w8 42#8))⟩,
  ⟨none,(some 64),.mov (.t 63)⟩,
  ⟨(some (64,true)),(some 65),.mov (.t 5)⟩,
  ⟨(some (64,true)),(some 66),.bin .add (.t 65) (.k (.int .i64 1))⟩,
  ⟨(some (64,true)),(some 67),.mov (.t 0)⟩,
  ⟨(some (64,true)),(some 68),.lenStr (.t 67)⟩,
  ⟨(some (64,true)),(some 69),.bin .lss (.t 66) (.t 68)⟩,
  ⟨none,(some 70),.pick (.t 64) (.t 69) (.k (.bool false))⟩,
  ⟨none,(some 71),.mov (.t 70)⟩,
  ⟨(some (71,true)),(some 72),.mov (.t 0)⟩,
  ⟨(some (71,true)),(some 73),.mov (.t 5)⟩,
  ⟨(some (71,true)),(some 74),.bin .add (.t 73) (.k (.int .i64 1))⟩,
  ⟨(some (71,true)),(some 75),.idxStr (.t 72) (.t 74)⟩,
  ⟨(some (71,true)),(some 76),.bin .eql (.t 75) (.k (w8 42#8))⟩,
  ⟨none,(some 77),.pick (.t 71) (.t 76) (.k (.bool false))⟩,
  ⟨none,(some 59),.mov (.t 77)⟩])
 (.cond (.t 59) (.seq (.region false [⟨none,(some 78),.mov (.t 5)⟩,
  ⟨none,(some 79),.bin .add (.t 78) (.k (.int .i64 1))⟩,
  ⟨none,(some 5),.mov (.t 79)⟩])
 (.region false [⟨none,(some 80),.mov (.t 4)⟩,
  ⟨none,(some 81),.build [(.int .i64 0),(w8 0#8)] [(0,1,(.k (.int .i64 3)))]⟩,
  ⟨none,(some 82),.bsl 2 1 [(.int .i64 0),(w8 0#8)] [(0,2,(.t 81))]⟩,
  ⟨none,(some 83),.app 2 16 (.t 80) (.t 82)⟩,
  ⟨none,(some 4),.mov (.t 83)⟩]))
 (.seq (.region false [⟨none,(some 85),.mov (.t 0)⟩,
  ⟨none,(some 86),.mov (.t 5)⟩,
  ⟨none,(some 87),.idxStr (.t 85) (.t 86)⟩,
  ⟨none,(some 88),.bin .eql (.t 87) (.k (w8 42#8))⟩,
  ⟨none,(some 84),.mov (.t 88)⟩])
 (.cond (.t 84) (.region false [⟨none,(some 89),.mov (.t 4)⟩,
  ⟨none,(some 90),.build [(.int .i64 0),(w8 0#8)] [(0,1,(.k (.int .i64 2)))]⟩,
  ⟨none,(some 91),.bsl 2 1 [(.int .i64 0),(w8 0#8)] [(0,2,(.t 90))]⟩,
  ⟨none,(some 92),.app 2 16 (.t 89) (.t 91)⟩,
  ⟨none,(some 4),.mov (.t 92)⟩])
 (.region false [⟨none,(some 25),.mov (.t 4)⟩,
  ⟨none,(some 26),.mov (.t 0)⟩,
  ⟨none,(some 27),.mov (.t 5)⟩,
  ⟨none,(some 28),.idxStr (.t 26) (.t 27)⟩,
  ⟨none,(some 29),.build [(.int .i64 0),(w8 0#8)] [(0,1,(.k (.int .i64 0))),(1,1,(.t 28))]⟩,
  ⟨none,(some 30),.bsl 2 1 [(.int .i64 0),(w8 0#8)] [(0,2,(.t 29))]⟩,
  ⟨none,(some 31),.app 2 16 (.t 25) (.t 30)⟩,
  ⟨none,(some 4),.mov (.t 31)⟩])))))))))))
 (.region false [⟨none,(some 23),.mov (.t 5)⟩,
  ⟨none,(some 24),.bin .add (.t 23) (.k (.int .i64 1))⟩,
  ⟨none,(some 5),.mov (.t 24)⟩])))
def z8ja (x0 x4 x5:DV) (h:List AObj):St:=⟨[x0,.junk,.junk,.junk,x4,x5]++js 88,h⟩
def a32:AFn where
 code:=(.seq (.region false [⟨none,(some 2),.mov (.k .nils)⟩,
  ⟨none,(some 3),.mov (.k (.bool false))⟩])
 (.seq (.seq (.region false [⟨none,(some 6),.mov (.t 0)⟩,
  ⟨none,(some 7),.lenStr (.t 6)⟩,
  ⟨none,(some 8),.bin .lss (.t 7) (.k (.int .i64 1))⟩,
  ⟨none,(some 9),.mov (.t 8)⟩,
  ⟨(some (9,false)),(some 10),.mov (.t 0)⟩,
  ⟨(some (9,false)),(some 11),.lenStr (.t 10)⟩,
  ⟨(some (9,false)),(some 12),.bin .gtr (.t 11) (.k (.int .i64 200))⟩,
  ⟨none,(some 13),.pick (.t 9) (.k (.bool true)) (.t 12)⟩,
  ⟨none,(some 14),.mov (.t 13)⟩,
  ⟨(some (14,false)),(some 15),.mov (.t 0)⟩,
  ⟨(some (14,false)),(some 16),.call (.k (.fn (.func 51) [] [])) [(.t 15),(.k (w8 0#8))]⟩,
  ⟨(some (14,false)),(some 17),.bin .geq (.t 16) (.k (.int .i64 0))⟩,
  ⟨none,(some 18),.pick (.t 14) (.k (.bool true)) (.t 17)⟩])
 (.cond (.t 18) (.seq (.region false [⟨none,(some 2),.mov (.k .nils)⟩,
  ⟨none,(some 3),.mov (.k (.bool false))⟩])
 .ret)
 .skip))
 (.seq (.region false [⟨none,(some 4),.mov (.k .nils)⟩])
 (.seq (.seq (.region false [⟨none,(some 5),.mov (.k (.int .i64 0))⟩])
 (.block 0 (.loop zx0e)))
 (.seq (.region false [⟨none,(some 93),.mov (.t 4)⟩,
  ⟨none,(some 2),.mov (.t 93)⟩,
  ⟨none,(some 3),.mov (.k (.bool true))⟩])
 .ret)))))
 ntmps:=94
 res:=[.tmp 2,.tmp 3]
theorem zvrg:zsjc P Tryd.f32=some a32:=by kernel_rfl
def a63:AFn where
 code:=(.seq (.region false [⟨none,(some 1),.box (.t 0)⟩,
  ⟨none,(some 2),.mov (.k .nilf)⟩])
 (.seq (.seq (.region false [⟨none,(some 3),.fld 0 (.t 1)⟩,
  ⟨none,(some 4),.load 1 false (.t 3)⟩])
 (.block 0 (.seq (.region false [⟨none,(some 6),.bin .eql (.t 4) (.k (.int .i64 0))⟩,
  ⟨none,(some 5),.mov (.t 6)⟩])
 (.cond (.t 5) (.seq (.region false [⟨none,(some 7),.mkf (.func 70) [] [(.t 1)]⟩,
  ⟨none,(some 2),.mov (.t 7)⟩])
 .ret)
 (.seq (.region false [⟨none,(some 9),.bin .eql (.t 4) (.k (.int .i64 3))⟩,
  ⟨none,(some 8),.mov (.t 9)⟩])
 (.cond (.t 8) (.seq (.region false [⟨none,(some 2),.mov (.k (.fn (.func 71) [] []))⟩])
 .ret)
 .skip))))))
 (.seq (.region false [⟨none,(some 2),.mov (.k (.fn (.func 72) [] []))⟩])
 .ret)))
 ntmps:=10
 res:=[.tmp 2]
theorem z2tu:zsjc P Tryd.f63=some a63:=by kernel_rfl
def a70:AFn where
 code:=(.seq (.region false [⟨none,(some 3),.mov (.k (.bool false))⟩])
 (.seq (.region false [⟨none,(some 4),.mov (.t 0)⟩,
  ⟨none,(some 5),.fld 1 (.t 1)⟩,
  ⟨none,(some 6),.load 1 false (.t 5)⟩,
  ⟨none,(some 7),.bin .eql (.t 4) (.t 6)⟩,
  ⟨none,(some 3),.mov (.t 7)⟩])
 .ret))
 ntmps:=8
 res:=[.tmp 3]
theorem zhcw:zsjc P Tryd.f70=some a70:=by kernel_rfl
def a71:AFn where
 code:=(.seq (.region false [⟨none,(some 2),.mov (.k (.bool false))⟩])
 (.seq (.region false [⟨none,(some 2),.mov (.k (.bool true))⟩])
 .ret))
 ntmps:=3
 res:=[.tmp 2]
theorem zbtg:zsjc P Tryd.f71=some a71:=by kernel_rfl
def a72:AFn where
 code:=(.seq (.region false [⟨none,(some 2),.mov (.k (.bool false))⟩])
 (.seq (.region false [⟨none,(some 3),.mov (.t 0)⟩,
  ⟨none,(some 4),.bin .neq (.t 3) (.k (w8 47#8))⟩,
  ⟨none,(some 2),.mov (.t 4)⟩])
 .ret))
 ntmps:=5
 res:=[.tmp 2]
theorem z0xs:zsjc P Tryd.f72=some a72:=by kernel_rfl
def a61:AFn where
 code:=(.seq (.region false [⟨none,(some 1),.box (.t 0)⟩,
  ⟨none,(some 2),.mov (.k (.bool false))⟩])
 (.seq (.region false [⟨none,(some 3),.fld 0 (.t 1)⟩,
  ⟨none,(some 4),.load 1 false (.t 3)⟩,
  ⟨none,(some 5),.bin .eql (.t 4) (.k (.int .i64 2))⟩,
  ⟨none,(some 6),.mov (.t 5)⟩,
  ⟨(some (6,false)),(some 7),.fld 0 (.t 1)⟩,
  ⟨(some (6,false)),(some 8),.load 1 false (.t 7)⟩,
  ⟨(some (6,false)),(some 9),.bin .eql (.t 8) (.k (.int .i64 3))⟩,
  ⟨none,(some 10),.pick (.t 6) (.k (.bool true)) (.t 9)⟩,
  ⟨none,(some 2),.mov (.t 10)⟩])
 .ret))
 ntmps:=11
 res:=[.tmp 2]
theorem zuuw:zsjc P Tryd.f61=some a61:=by kernel_rfl
def zcuu:ACode :=
 (.seq (.region false [⟨none,(some 55),.bin .lss (.t 54) (.t 53)⟩])
 (.seq (.cond (.t 55) .skip
 (.exit 2))
 (.seq (.block 3 (.seq (.region false [⟨none,(some 56),.mov (.t 54)⟩,
  ⟨none,(some 12),.mov (.t 56)⟩])
 (.block 4 (.seq (.region false [⟨none,(some 73),.load 2 true (.t 9)⟩,
  ⟨none,(some 74),.call (.k (.fn (.func 61) [] [])) [(.t 73)]⟩,
  ⟨none,(some 72),.mov (.t 74)⟩])
 (.cond (.t 72) (.region false [⟨none,(some 75),.mov (.t 11)⟩,
  ⟨none,(some 76),.mov (.t 12)⟩,
  ⟨none,(some 77),.bin .add (.t 76) (.k (.int .i64 1))⟩,
  ⟨none,(some 78),.mov (.t 7)⟩,
  ⟨none,(some 79),.mov (.t 12)⟩,
  ⟨none,(some 80),.bin .add (.t 79) (.k (.int .i64 1))⟩,
  ⟨none,(some 81),.idxS 1 (.t 78) (.t 80)⟩,
  ⟨none,(some 82),.load 1 false (.t 81)⟩,
  ⟨none,(some 83),.mov (.t 82)⟩,
  ⟨(some (83,false)),(some 84),.mov (.t 11)⟩,
  ⟨(some (83,false)),(some 85),.mov (.t 12)⟩,
  ⟨(some (83,false)),(some 86),.idxS 1 (.t 84) (.t 85)⟩,
  ⟨(some (83,false)),(some 87),.load 1 false (.t 86)⟩,
  ⟨(some (83,false)),(some 88),.mov (.t 87)⟩,
  ⟨(some (88,true)),(some 89),.mov (.t 10)⟩,
  ⟨(some (88,true)),(some 90),.mov (.t 1)⟩,
  ⟨(some (88,true)),(some 91),.mov (.t 12)⟩,
  ⟨(some (88,true)),(some 92),.idxStr (.t 90) (.t 91)⟩,
  ⟨(some (88,true)),(some 93),.call (.t 89) [(.t 92)]⟩,
  ⟨(some (83,false)),(some 94),.pick (.t 88) (.t 93) (.k (.bool false))⟩,
  ⟨none,(some 95),.pick (.t 83) (.k (.bool true)) (.t 94)⟩,
  ⟨none,(some 96),.idxS 1 (.t 75) (.t 77)⟩,
  ⟨none,none,.store 1 (.t 96) (.t 95)⟩])
 (.region false [⟨none,(some 57),.mov (.t 11)⟩,
  ⟨none,(some 58),.mov (.t 12)⟩,
  ⟨none,(some 59),.bin .add (.t 58) (.k (.int .i64 1))⟩,
  ⟨none,(some 60),.mov (.t 7)⟩,
  ⟨none,(some 61),.mov (.t 12)⟩,
  ⟨none,(some 62),.idxS 1 (.t 60) (.t 61)⟩,
  ⟨none,(some 63),.load 1 false (.t 62)⟩,
  ⟨none,(some 64),.mov (.t 63)⟩,
  ⟨(some (64,true)),(some 65),.mov (.t 10)⟩,
  ⟨(some (64,true)),(some 66),.mov (.t 1)⟩,
  ⟨(some (64,true)),(some 67),.mov (.t 12)⟩,
  ⟨(some (64,true)),(some 68),.idxStr (.t 66) (.t 67)⟩,
  ⟨(some (64,true)),(some 69),.call (.t 65) [(.t 68)]⟩,
  ⟨none,(some 70),.pick (.t 64) (.t 69) (.k (.bool false))⟩,
  ⟨none,(some 71),.idxS 1 (.t 57) (.t 59)⟩,
  ⟨none,none,.store 1 (.t 71) (.t 70)⟩]))))))
 (.region false [⟨none,(some 97),.bin .add (.t 54) (.k (.int .i64 1))⟩,
  ⟨none,(some 54),.mov (.t 97)⟩]))))
def ztjq (x1 x7 x9 x10 x11 x31 x32 x33 x53 x54:DV) (h:List AObj):St:=⟨[.junk,x1]++js 5++[x7,.junk,x9,x10,x11]++js 19++[x31,x32,x33]++js 19++[x53,x54]++js 50,h⟩
def znqz:ACode :=
 (.seq (.region false [⟨none,(some 34),.bin .lss (.t 33) (.t 32)⟩])
 (.seq (.cond (.t 34) .skip
 (.exit 0))
 (.seq (.block 1 (.seq (.region false [⟨none,(some 35),.idxS 2 (.t 31) (.t 33)⟩,
  ⟨none,(some 36),.load 2 true (.t 35)⟩,
  ⟨none,(some 9),.alloc [(.int .i64 0),(w8 0#8)]⟩,
  ⟨none,none,.store 2 (.t 9) (.t 36)⟩])
 (.seq (.region false [⟨none,(some 37),.load 2 true (.t 9)⟩,
  ⟨none,(some 38),.call (.k (.fn (.func 63) [] [])) [(.t 37)]⟩,
  ⟨none,(some 10),.mov (.t 38)⟩])
 (.seq (.region false [⟨none,(some 39),.mov (.t 1)⟩,
  ⟨none,(some 40),.lenStr (.t 39)⟩,
  ⟨none,(some 41),.bin .add (.t 40) (.k (.int .i64 1))⟩,
  ⟨none,(some 42),.mks 1 1 [(.bool false)] (.t 41) (.t 41)⟩,
  ⟨none,(some 11),.mov (.t 42)⟩])
 (.seq (.region false [⟨none,(some 43),.mov (.t 11)⟩,
  ⟨none,(some 44),.mov (.t 7)⟩,
  ⟨none,(some 45),.idxS 1 (.t 44) (.k (.int .i64 0))⟩,
  ⟨none,(some 46),.load 1 false (.t 45)⟩,
  ⟨none,(some 47),.mov (.t 46)⟩,
  ⟨(some (47,true)),(some 48),.load 2 true (.t 9)⟩,
  ⟨(some (47,true)),(some 49),.call (.k (.fn (.func 61) [] [])) [(.t 48)]⟩,
  ⟨none,(some 50),.pick (.t 47) (.t 49) (.k (.bool false))⟩,
  ⟨none,(some 51),.idxS 1 (.t 43) (.k (.int .i64 0))⟩,
  ⟨none,none,.store 1 (.t 51) (.t 50)⟩])
 (.seq (.seq (.region false [⟨none,(some 52),.mov (.t 1)⟩,
  ⟨none,(some 53),.lenStr (.t 52)⟩,
  ⟨none,(some 54),.mov (.k (.int .i64 0))⟩])
 (.block 2 (.loop zcuu)))
 (.region false [⟨none,(some 98),.mov (.t 11)⟩,
  ⟨none,(some 7),.mov (.t 98)⟩])))))))
 (.region false [⟨none,(some 99),.bin .add (.t 33) (.k (.int .i64 1))⟩,
  ⟨none,(some 33),.mov (.t 99)⟩]))))
def zbv9 (x1 x7 x31 x32 x33:DV) (h:List AObj):St:=⟨[.junk,x1]++js 5++[x7]++js 23++[x31,x32,x33]++js 71,h⟩
def a42:AFn where
 code:=(.seq (.region false [⟨none,(some 4),.mov (.k (.bool false))⟩])
 (.seq (.region false [⟨none,(some 14),.mov (.t 0)⟩,
  ⟨none,(some 15),.call (.k (.fn (.func 32) [] [])) [(.t 14)]⟩,
  ⟨none,(some 13),.mov (.t 15)⟩,
  ⟨none,(some 16),.ext (.t 13) 0⟩,
  ⟨none,(some 17),.ext (.t 13) 1⟩,
  ⟨none,(some 5),.mov (.t 16)⟩,
  ⟨none,(some 6),.mov (.t 17)⟩])
 (.seq (.seq (.region false [⟨none,(some 18),.mov (.t 6)⟩,
  ⟨none,(some 19),.un .not (.t 18)⟩,
  ⟨none,(some 20),.mov (.t 19)⟩,
  ⟨(some (20,false)),(some 21),.mov (.t 1)⟩,
  ⟨(some (20,false)),(some 22),.call (.k (.fn (.func 24) [] [])) [(.t 21)]⟩,
  ⟨(some (20,false)),(some 23),.un .not (.t 22)⟩,
  ⟨none,(some 24),.pick (.t 20) (.k (.bool true)) (.t 23)⟩])
 (.cond (.t 24) (.seq (.region false [⟨none,(some 4),.mov (.k (.bool false))⟩])
 .ret)
 .skip))
 (.seq (.region false [⟨none,(some 25),.mov (.t 1)⟩,
  ⟨none,(some 26),.lenStr (.t 25)⟩,
  ⟨none,(some 27),.bin .add (.t 26) (.k (.int .i64 1))⟩,
  ⟨none,(some 28),.mks 1 1 [(.bool false)] (.t 27) (.t 27)⟩,
  ⟨none,(some 7),.mov (.t 28)⟩])
 (.seq (.region false [⟨none,(some 29),.mov (.t 7)⟩,
  ⟨none,(some 30),.idxS 1 (.t 29) (.k (.int .i64 0))⟩,
  ⟨none,none,.store 1 (.t 30) (.k (.bool true))⟩])
 (.seq (.seq (.region false [⟨none,(some 31),.mov (.t 5)⟩,
  ⟨none,(some 32),.len (.t 31)⟩,
  ⟨none,(some 33),.mov (.k (.int .i64 0))⟩])
 (.block 0 (.loop znqz)))
 (.seq (.region false [⟨none,(some 100),.mov (.t 7)⟩,
  ⟨none,(some 101),.mov (.t 1)⟩,
  ⟨none,(some 102),.lenStr (.t 101)⟩,
  ⟨none,(some 103),.idxS 1 (.t 100) (.t 102)⟩,
  ⟨none,(some 104),.load 1 false (.t 103)⟩,
  ⟨none,(some 4),.mov (.t 104)⟩])
 .ret)))))))
 ntmps:=105
 res:=[.tmp 4]
theorem zl17:zsjc P Tryd.f42=some a42:=by kernel_rfl
def a16:AFn where
 code:=(.seq (.region false [⟨none,(some 0),.mov (.k (.bool false))⟩])
 (.seq (.region false [⟨none,(some 1),.call (.k (.fn (.func 42) [] [])) [(.k (.str [115,114,99,47,42,46,99])),(.k (.str [115,114,99,47,97,46,99]))]⟩,
  ⟨none,(some 2),.mov (.t 1)⟩,
  ⟨(some (2,true)),(some 3),.call (.k (.fn (.func 42) [] [])) [(.k (.str [115,114,99,47,42,46,99])),(.k (.str [115,114,99,47,120,47,97,46,99]))]⟩,
  ⟨(some (2,true)),(some 4),.un .not (.t 3)⟩,
  ⟨none,(some 5),.pick (.t 2) (.t 4) (.k (.bool false))⟩,
  ⟨none,(some 6),.mov (.t 5)⟩,
  ⟨(some (6,true)),(some 7),.call (.k (.fn (.func 24) [] [])) [(.k (.str [97,47,98]))]⟩,
  ⟨none,(some 8),.pick (.t 6) (.t 7) (.k (.bool false))⟩,
  ⟨none,(some 0),.mov (.t 8)⟩])
 .ret))
 ntmps:=9
 res:=[.tmp 0]
theorem zddi:zsjc P Tryd.f16=some a16:=by kernel_rfl
end
section
set_option linter.unusedSimpArgs false
set_option linter.unusedVariables false
open Go Go.Am
def zg0d:ACode :=
 (.block 1 (.seq (.region false [⟨none,(some 20),.mov (.t 0)⟩,
  ⟨none,(some 21),.mov (.t 1)⟩,
  ⟨none,(some 22),.call (.k (.fn (.func 73) [] [])) [(.t 20),(.t 21)]⟩,
  ⟨none,(some 6),.mov (.t 22)⟩])
 (.seq (.seq (.region false [⟨none,(some 23),.mov (.t 6)⟩,
  ⟨none,(some 24),.bin .eql (.t 23) (.k (.int .i64 (-1)))⟩])
 (.cond (.t 24) (.seq (.region false [⟨none,(some 25),.mov (.t 5)⟩,
  ⟨none,(some 4),.mov (.t 25)⟩])
 .ret)
 .skip))
 (.seq (.region false [⟨none,(some 26),.mov (.t 5)⟩,
  ⟨none,(some 27),.bin .add (.t 26) (.k (.int .i64 1))⟩,
  ⟨none,(some 5),.mov (.t 27)⟩])
 (.region false [⟨none,(some 28),.mov (.t 0)⟩,
  ⟨none,(some 29),.mov (.t 6)⟩,
  ⟨none,(some 30),.mov (.t 1)⟩,
  ⟨none,(some 31),.lenStr (.t 30)⟩,
  ⟨none,(some 32),.bin .add (.t 29) (.t 31)⟩,
  ⟨none,(some 33),.slcStr (.t 28) (some (.t 32)) none⟩,
  ⟨none,(some 0),.mov (.t 33)⟩])))))
def a77:AFn where
 code:=(.seq (.region false [⟨none,(some 4),.mov (.k (.int .i64 0))⟩])
 (.seq (.seq (.region false [⟨none,(some 7),.mov (.t 1)⟩,
  ⟨none,(some 8),.lenStr (.t 7)⟩,
  ⟨none,(some 9),.bin .eql (.t 8) (.k (.int .i64 0))⟩])
 (.cond (.t 9) (.seq (.region false [⟨none,(some 10),.mov (.t 0)⟩,
  ⟨none,(some 11),.call (.k (.fn (.func 81) [] [])) [(.t 10)]⟩,
  ⟨none,(some 12),.bin .add (.t 11) (.k (.int .i64 1))⟩,
  ⟨none,(some 4),.mov (.t 12)⟩])
 .ret)
 .skip))
 (.seq (.seq (.region false [⟨none,(some 13),.mov (.t 1)⟩,
  ⟨none,(some 14),.lenStr (.t 13)⟩,
  ⟨none,(some 15),.bin .eql (.t 14) (.k (.int .i64 1))⟩])
 (.cond (.t 15) (.seq (.region false [⟨none,(some 16),.mov (.t 0)⟩,
  ⟨none,(some 17),.mov (.t 1)⟩,
  ⟨none,(some 18),.idxStr (.t 17) (.k (.int .i64 0))⟩,
  ⟨none,(some 19),.call (.k (.fn (.func 83) [] [])) [(.t 16),(.t 18)]⟩,
  ⟨none,(some 4),.mov (.t 19)⟩])
 .ret)
 .skip))
 (.seq (.region false [⟨none,(some 5),.mov (.k (.int .i64 0))⟩])
 (.block 0 (.loop zg0d))))))
 ntmps:=34
 res:=[.tmp 4]
theorem z20a:zsjc P Tryd.f77=some a77:=by kernel_rfl
def zfle:ACode :=
 (.seq (.seq (.region false [⟨none,(some 34),.mov (.t 10)⟩,
  ⟨none,(some 35),.mov (.t 3)⟩,
  ⟨none,(some 36),.bin .lss (.t 34) (.t 35)⟩])
 (.cond (.t 36) .skip
 (.exit 0)))
 (.block 1 (.seq (.region false [⟨none,(some 37),.mov (.t 0)⟩,
  ⟨none,(some 38),.mov (.t 1)⟩,
  ⟨none,(some 39),.call (.k (.fn (.func 73) [] [])) [(.t 37),(.t 38)]⟩,
  ⟨none,(some 11),.mov (.t 39)⟩])
 (.seq (.seq (.region false [⟨none,(some 40),.mov (.t 11)⟩,
  ⟨none,(some 41),.bin .lss (.t 40) (.k (.int .i64 0))⟩])
 (.cond (.t 41) (.exit 0)
 .skip))
 (.seq (.region false [⟨none,(some 42),.mov (.t 9)⟩,
  ⟨none,(some 43),.mov (.t 10)⟩,
  ⟨none,(some 44),.mov (.t 0)⟩,
  ⟨none,(some 45),.mov (.t 11)⟩,
  ⟨none,(some 46),.mov (.t 2)⟩,
  ⟨none,(some 47),.bin .add (.t 45) (.t 46)⟩,
  ⟨none,(some 48),.slcStr (.t 44) none (some (.t 47))⟩,
  ⟨none,(some 49),.idxS 1 (.t 42) (.t 43)⟩,
  ⟨none,none,.store 1 (.t 49) (.t 48)⟩])
 (.seq (.region false [⟨none,(some 50),.mov (.t 0)⟩,
  ⟨none,(some 51),.mov (.t 11)⟩,
  ⟨none,(some 52),.mov (.t 1)⟩,
  ⟨none,(some 53),.lenStr (.t 52)⟩,
  ⟨none,(some 54),.bin .add (.t 51) (.t 53)⟩,
  ⟨none,(some 55),.slcStr (.t 50) (some (.t 54)) none⟩,
  ⟨none,(some 0),.mov (.t 55)⟩])
 (.region false [⟨none,(some 56),.mov (.t 10)⟩,
  ⟨none,(some 57),.bin .add (.t 56) (.k (.int .i64 1))⟩,
  ⟨none,(some 10),.mov (.t 57)⟩])))))))
def zbq4 (x0 x1 x2 x3 x9 x10:DV) (h:List AObj):St:=⟨[x0,x1,x2,x3]++js 5++[x9,x10]++js 55,h⟩
def a67:AFn where
 code:=(.seq (.region false [⟨none,(some 8),.mov (.k .nils)⟩])
 (.seq (.seq (.region false [⟨none,(some 12),.mov (.t 3)⟩,
  ⟨none,(some 13),.bin .eql (.t 12) (.k (.int .i64 0))⟩])
 (.cond (.t 13) (.seq (.region false [⟨none,(some 8),.mov (.k .nils)⟩])
 .ret)
 .skip))
 (.seq (.seq (.region false [⟨none,(some 14),.mov (.t 1)⟩,
  ⟨none,(some 15),.bin .eql (.t 14) (.k (.str []))⟩])
 (.cond (.t 15) (.seq (.region false [⟨none,(some 16),.mov (.t 0)⟩,
  ⟨none,(some 17),.mov (.t 3)⟩,
  ⟨none,(some 18),.call (.k (.fn (.func 76) [] [])) [(.t 16),(.t 17)]⟩,
  ⟨none,(some 8),.mov (.t 18)⟩])
 .ret)
 .skip))
 (.seq (.seq (.region false [⟨none,(some 19),.mov (.t 3)⟩,
  ⟨none,(some 20),.bin .lss (.t 19) (.k (.int .i64 0))⟩])
 (.cond (.t 20) (.region false [⟨none,(some 21),.mov (.t 0)⟩,
  ⟨none,(some 22),.mov (.t 1)⟩,
  ⟨none,(some 23),.call (.k (.fn (.func 77) [] [])) [(.t 21),(.t 22)]⟩,
  ⟨none,(some 24),.bin .add (.t 23) (.k (.int .i64 1))⟩,
  ⟨none,(some 3),.mov (.t 24)⟩])
 .skip))
 (.seq (.region false [⟨none,(some 25),.mov (.t 3)⟩,
  ⟨none,(some 26),.mov (.t 0)⟩,
  ⟨none,(some 27),.lenStr (.t 26)⟩,
  ⟨none,(some 28),.bin .add (.t 27) (.k (.int .i64 1))⟩,
  ⟨none,(some 29),.mm false [(.t 25),(.t 28)]⟩,
  ⟨none,(some 3),.mov (.t 29)⟩])
 (.seq (.region false [⟨none,(some 30),.mov (.t 3)⟩,
  ⟨none,(some 31),.mks 1 16 [(.str [])] (.t 30) (.t 30)⟩,
  ⟨none,(some 9),.mov (.t 31)⟩])
 (.seq (.region false [⟨none,(some 32),.mov (.t 3)⟩,
  ⟨none,(some 33),.bin .sub (.t 32) (.k (.int .i64 1))⟩,
  ⟨none,(some 3),.mov (.t 33)⟩])
 (.seq (.region false [⟨none,(some 10),.mov (.k (.int .i64 0))⟩])
 (.seq (.block 0 (.loop zfle))
 (.seq (.region false [⟨none,(some 58),.mov (.t 9)⟩,
  ⟨none,(some 59),.mov (.t 10)⟩,
  ⟨none,(some 60),.mov (.t 0)⟩,
  ⟨none,(some 61),.idxS 1 (.t 58) (.t 59)⟩,
  ⟨none,none,.store 1 (.t 61) (.t 60)⟩])
 (.seq (.region false [⟨none,(some 62),.mov (.t 9)⟩,
  ⟨none,(some 63),.mov (.t 10)⟩,
  ⟨none,(some 64),.bin .add (.t 63) (.k (.int .i64 1))⟩,
  ⟨none,(some 65),.slcS 1 (.t 62) none (some (.t 64)) none⟩,
  ⟨none,(some 8),.mov (.t 65)⟩])
 .ret)))))))))))
 ntmps:=66
 res:=[.tmp 8]
theorem zy8u:zsjc P Tryd.f67=some a67:=by kernel_rfl
def a54:AFn where
 code:=(.seq (.region false [⟨none,(some 4),.mov (.k .nils)⟩])
 (.seq (.region false [⟨none,(some 5),.mov (.t 0)⟩,
  ⟨none,(some 6),.mov (.t 1)⟩,
  ⟨none,(some 7),.call (.k (.fn (.func 67) [] [])) [(.t 5),(.t 6),(.k (.int .i64 0)),(.k (.int .i64 (-1)))]⟩,
  ⟨none,(some 4),.mov (.t 7)⟩])
 .ret))
 ntmps:=8
 res:=[.tmp 4]
theorem zq4q:zsjc P Tryd.f54=some a54:=by kernel_rfl
def zr3y:ACode :=
 (.seq (.seq (.region false [⟨none,(some 13),.mov (.t 3)⟩,
  ⟨none,(some 14),.mov (.t 0)⟩,
  ⟨none,(some 15),.lenStr (.t 14)⟩,
  ⟨none,(some 16),.bin .lss (.t 13) (.t 15)⟩])
 (.cond (.t 16) .skip
 (.exit 0)))
 (.seq (.block 1 (.seq (.region false [⟨none,(some 19),.mov (.t 0)⟩,
  ⟨none,(some 20),.mov (.t 3)⟩,
  ⟨none,(some 21),.idxStr (.t 19) (.t 20)⟩,
  ⟨none,(some 22),.bin .eql (.t 21) (.k (w8 0#8))⟩])
 (.cond (.t 22) (.seq (.region false [⟨none,(some 2),.mov (.k (.bool false))⟩])
 .ret)
 .skip)))
 (.region false [⟨none,(some 17),.mov (.t 3)⟩,
  ⟨none,(some 18),.bin .add (.t 17) (.k (.int .i64 1))⟩,
  ⟨none,(some 3),.mov (.t 18)⟩])))
def zhlx (x0 x3:DV) (h:List AObj):St:=⟨[x0,.junk,.junk,x3]++js 46,h⟩
def zmzd:ACode :=
 (.seq (.seq (.region false [⟨none,(some 25),.mov (.t 5)⟩,
  ⟨none,(some 26),.mov (.t 4)⟩,
  ⟨none,(some 27),.len (.t 26)⟩,
  ⟨none,(some 28),.bin .lss (.t 25) (.t 27)⟩])
 (.cond (.t 28) .skip
 (.exit 2)))
 (.seq (.block 3 (.seq (.region false [⟨none,(some 31),.mov (.t 4)⟩,
  ⟨none,(some 32),.mov (.t 5)⟩,
  ⟨none,(some 33),.idxS 1 (.t 31) (.t 32)⟩,
  ⟨none,(some 34),.load 1 false (.t 33)⟩,
  ⟨none,(some 35),.bin .eql (.t 34) (.k (.str []))⟩,
  ⟨none,(some 36),.mov (.t 35)⟩,
  ⟨(some (36,false)),(some 37),.mov (.t 4)⟩,
  ⟨(some (36,false)),(some 38),.mov (.t 5)⟩,
  ⟨(some (36,false)),(some 39),.idxS 1 (.t 37) (.t 38)⟩,
  ⟨(some (36,false)),(some 40),.load 1 false (.t 39)⟩,
  ⟨(some (36,false)),(some 41),.bin .eql (.t 40) (.k (.str [46]))⟩,
  ⟨none,(some 42),.pick (.t 36) (.k (.bool true)) (.t 41)⟩,
  ⟨none,(some 43),.mov (.t 42)⟩,
  ⟨(some (43,false)),(some 44),.mov (.t 4)⟩,
  ⟨(some (43,false)),(some 45),.mov (.t 5)⟩,
  ⟨(some (43,false)),(some 46),.idxS 1 (.t 44) (.t 45)⟩,
  ⟨(some (43,false)),(some 47),.load 1 false (.t 46)⟩,
  ⟨(some (43,false)),(some 48),.bin .eql (.t 47) (.k (.str [46,46]))⟩,
  ⟨none,(some 49),.pick (.t 43) (.k (.bool true)) (.t 48)⟩])
 (.cond (.t 49) (.seq (.region false [⟨none,(some 2),.mov (.k (.bool false))⟩])
 .ret)
 .skip)))
 (.region false [⟨none,(some 29),.mov (.t 5)⟩,
  ⟨none,(some 30),.bin .add (.t 29) (.k (.int .i64 1))⟩,
  ⟨none,(some 5),.mov (.t 30)⟩])))
def z58v (x4 x5:DV) (h:List AObj):St:=⟨js 4++[x4,x5]++js 44,h⟩
def a26:AFn where
 code:=(.seq (.region false [⟨none,(some 2),.mov (.k (.bool false))⟩])
 (.seq (.seq (.region false [⟨none,(some 6),.mov (.t 0)⟩,
  ⟨none,(some 7),.bin .eql (.t 6) (.k (.str []))⟩,
  ⟨none,(some 8),.mov (.t 7)⟩,
  ⟨(some (8,false)),(some 9),.mov (.t 0)⟩,
  ⟨(some (8,false)),(some 10),.lenStr (.t 9)⟩,
  ⟨(some (8,false)),(some 11),.bin .gtr (.t 10) (.k (.int .i64 200))⟩,
  ⟨none,(some 12),.pick (.t 8) (.k (.bool true)) (.t 11)⟩])
 (.cond (.t 12) (.seq (.region false [⟨none,(some 2),.mov (.k (.bool false))⟩])
 .ret)
 .skip))
 (.seq (.seq (.region false [⟨none,(some 3),.mov (.k (.int .i64 0))⟩])
 (.block 0 (.loop zr3y)))
 (.seq (.region false [⟨none,(some 23),.mov (.t 0)⟩,
  ⟨none,(some 24),.call (.k (.fn (.func 54) [] [])) [(.t 23),(.k (.str [47]))]⟩,
  ⟨none,(some 4),.mov (.t 24)⟩])
 (.seq (.seq (.region false [⟨none,(some 5),.mov (.k (.int .i64 0))⟩])
 (.block 2 (.loop zmzd)))
 (.seq (.region false [⟨none,(some 2),.mov (.k (.bool true))⟩])
 .ret))))))
 ntmps:=50
 res:=[.tmp 2]
theorem z9gs:zsjc P Tryd.f26=some a26:=by kernel_rfl
def zlo9:ACode :=
 (.seq (.seq (.region false [⟨none,(some 14),.mov (.t 5)⟩,
  ⟨none,(some 15),.mov (.t 0)⟩,
  ⟨none,(some 16),.lenStr (.t 15)⟩,
  ⟨none,(some 17),.bin .lss (.t 14) (.t 16)⟩])
 (.cond (.t 17) .skip
 (.exit 0)))
 (.seq (.block 1 (.seq (.region false [⟨none,(some 20),.mov (.t 0)⟩,
  ⟨none,(some 21),.mov (.t 5)⟩,
  ⟨none,(some 22),.idxStr (.t 20) (.t 21)⟩,
  ⟨none,(some 6),.mov (.t 22)⟩])
 (.seq (.seq (.region false [⟨none,(some 23),.mov (.t 6)⟩,
  ⟨none,(some 24),.bin .eql (.t 23) (.k (w8 0#8))⟩])
 (.cond (.t 24) (.seq (.region false [⟨none,(some 2),.mov (.k .nils)⟩,
  ⟨none,(some 3),.mov (.k (.bool false))⟩])
 .ret)
 .skip))
 (.seq (.region false [⟨none,(some 25),.mov (.t 6)⟩])
 (.block 2 (.seq (.region false [⟨none,(some 32),.bin .eql (.t 25) (.k (w8 92#8))⟩,
  ⟨none,(some 31),.mov (.t 32)⟩])
 (.cond (.t 31) (.seq (.seq (.region false [⟨none,(some 33),.mov (.t 5)⟩,
  ⟨none,(some 34),.bin .add (.t 33) (.k (.int .i64 1))⟩,
  ⟨none,(some 35),.mov (.t 0)⟩,
  ⟨none,(some 36),.lenStr (.t 35)⟩,
  ⟨none,(some 37),.bin .eql (.t 34) (.t 36)⟩,
  ⟨none,(some 38),.mov (.t 37)⟩,
  ⟨(some (38,false)),(some 39),.mov (.t 0)⟩,
  ⟨(some (38,false)),(some 40),.mov (.t 5)⟩,
  ⟨(some (38,false)),(some 41),.bin .add (.t 40) (.k (.int .i64 1))⟩,
  ⟨(some (38,false)),(some 42),.idxStr (.t 39) (.t 41)⟩,
  ⟨(some (38,false)),(some 43),.bin .eql (.t 42) (.k (w8 0#8))⟩,
  ⟨none,(some 44),.pick (.t 38) (.k (.bool true)) (.t 43)⟩])
 (.cond (.t 44) (.seq (.region false [⟨none,(some 2),.mov (.k .nils)⟩,
  ⟨none,(some 3),.mov (.k (.bool false))⟩])
 .ret)
 .skip))
 (.seq (.region false [⟨none,(some 45),.mov (.t 5)⟩,
  ⟨none,(some 46),.bin .add (.t 45) (.k (.int .i64 1))⟩,
  ⟨none,(some 5),.mov (.t 46)⟩])
 (.region false [⟨none,(some 47),.mov (.t 4)⟩,
  ⟨none,(some 48),.mov (.t 0)⟩,
  ⟨none,(some 49),.mov (.t 5)⟩,
  ⟨none,(some 50),.idxStr (.t 48) (.t 49)⟩,
  ⟨none,(some 51),.build [(.int .i64 0),(w8 0#8)] [(0,1,(.k (.int .i64 0))),(1,1,(.t 50))]⟩,
  ⟨none,(some 52),.bsl 2 1 [(.int .i64 0),(w8 0#8)] [(0,2,(.t 51))]⟩,
  ⟨none,(some 53),.app 2 16 (.t 47) (.t 52)⟩,
  ⟨none,(some 4),.mov (.t 53)⟩])))
 (.seq (.region false [⟨none,(some 55),.bin .eql (.t 25) (.k (w8 42#8))⟩,
  ⟨none,(some 54),.mov (.t 55)⟩])
 (.cond (.t 54) (.seq (.region false [⟨none,(some 56),.mov (.t 5)⟩,
  ⟨none,(some 57),.bin .add (.t 56) (.k (.int .i64 1))⟩,
  ⟨none,(some 58),.mov (.t 0)⟩,
  ⟨none,(some 59),.lenStr (.t 58)⟩,
  ⟨none,(some 60),.bin .lss (.t 57) (.t 59)⟩,
  ⟨none,(some 61),.mov (.t 60)⟩,
  ⟨(some (61,true)),(some 62),.mov (.t 0)⟩,
  ⟨(some (61,true)),(some 63),.mov (.t 5)⟩,
  ⟨(some (61,true)),(some 64),.bin .add (.t 63) (.k (.int .i64 1))⟩,
  ⟨(some (61,true)),(some 65),.idxStr (.t 62) (.t 64)⟩,
  ⟨(some (61,true)),(some 66),.bin .eql (.t 65) (.k (w8 42#8))⟩,
  ⟨none,(some 67),.pick (.t 61) (.t 66) (.k (.bool false))⟩])
 (.cond (.t 67) (.seq (.region false [⟨none,(some 68),.mov (.t 5)⟩,
  ⟨none,(some 69),.bin .add (.t 68) (.k (.int .i64 1))⟩,
  ⟨none,(some 5),.mov (.t 69)⟩])
 (.region false [⟨none,(some 70),.mov (.t 4)⟩,
  ⟨none,(some 71),.build [(.int .i64 0),(w8 0#8)] [(0,1,(.k (.int .i64 3))),(1,1,(.k (w8 0#8)))]⟩,
  ⟨none,(some 72),.bsl 2 1 [(.int .i64 0),(w8 0#8)] [(0,2,(.t 71))]⟩,
  ⟨none,(some 73),.app 2 16 (.t 70) (.t 72)⟩,
  ⟨none,(some 4),.mov (.t 73)⟩]))
 (.region false [⟨none,(some 74),.mov (.t 4)⟩,
  ⟨none,(some 75),.build [(.int .i64 0),(w8 0#8)] [(0,1,(.k (.int .i64 2))),(1,1,(.k (w8 0#8)))]⟩,
  ⟨none,(some 76),.bsl 2 1 [(.int .i64 0),(w8 0#8)] [(0,2,(.t 75))]⟩,
  ⟨none,(some 77),.app 2 16 (.t 74) (.t 76)⟩,
  ⟨none,(some 4),.mov (.t 77)⟩])))
 (.seq (.region false [⟨none,(some 79),.bin .eql (.t 25) (.k (w8 63#8))⟩,
  ⟨none,(some 78),.mov (.t 79)⟩])
 (.cond (.t 78) (.region false [⟨none,(some 80),.mov (.t 4)⟩,
  ⟨none,(some 81),.build [(.int .i64 0),(w8 0#8)] [(0,1,(.k (.int .i64 1))),(1,1,(.k (w8 0#8)))]⟩,
  ⟨none,(some 82),.bsl 2 1 [(.int .i64 0),(w8 0#8)] [(0,2,(.t 81))]⟩,
  ⟨none,(some 83),.app 2 16 (.t 80) (.t 82)⟩,
  ⟨none,(some 4),.mov (.t 83)⟩])
 (.region false [⟨none,(some 26),.mov (.t 4)⟩,
  ⟨none,(some 27),.mov (.t 6)⟩,
  ⟨none,(some 28),.build [(.int .i64 0),(w8 0#8)] [(0,1,(.k (.int .i64 0))),(1,1,(.t 27))]⟩,
  ⟨none,(some 29),.bsl 2 1 [(.int .i64 0),(w8 0#8)] [(0,2,(.t 28))]⟩,
  ⟨none,(some 30),.app 2 16 (.t 26) (.t 29)⟩,
  ⟨none,(some 4),.mov (.t 30)⟩]))))))))))))
 (.region false [⟨none,(some 18),.mov (.t 5)⟩,
  ⟨none,(some 19),.bin .add (.t 18) (.k (.int .i64 1))⟩,
  ⟨none,(some 5),.mov (.t 19)⟩])))
def zp5l (x0 x4 x5:DV) (h:List AObj):St:=⟨[x0,.junk,.junk,.junk,x4,x5]++js 79,h⟩
def a36:AFn where
 code:=(.seq (.region false [⟨none,(some 2),.mov (.k .nils)⟩,
  ⟨none,(some 3),.mov (.k (.bool false))⟩])
 (.seq (.seq (.region false [⟨none,(some 7),.mov (.t 0)⟩,
  ⟨none,(some 8),.bin .eql (.t 7) (.k (.str []))⟩,
  ⟨none,(some 9),.mov (.t 8)⟩,
  ⟨(some (9,false)),(some 10),.mov (.t 0)⟩,
  ⟨(some (9,false)),(some 11),.lenStr (.t 10)⟩,
  ⟨(some (9,false)),(some 12),.bin .gtr (.t 11) (.k (.int .i64 200))⟩,
  ⟨none,(some 13),.pick (.t 9) (.k (.bool true)) (.t 12)⟩])
 (.cond (.t 13) (.seq (.region false [⟨none,(some 2),.mov (.k .nils)⟩,
  ⟨none,(some 3),.mov (.k (.bool false))⟩])
 .ret)
 .skip))
 (.seq (.region false [⟨none,(some 4),.mov (.k .nils)⟩])
 (.seq (.seq (.region false [⟨none,(some 5),.mov (.k (.int .i64 0))⟩])
 (.block 0 (.loop zlo9)))
 (.seq (.region false [⟨none,(some 84),.mov (.t 4)⟩,
  ⟨none,(some 2),.mov (.t 84)⟩,
  ⟨none,(some 3),.mov (.k (.bool true))⟩])
 .ret)))))
 ntmps:=85
 res:=[.tmp 2,.tmp 3]
theorem zj68:zsjc P Tryd.f36=some a36:=by kernel_rfl
def a43:AFn where
 code:=(.seq (.region false [⟨none,(some 1),.box (.t 0)⟩,
  ⟨none,(some 2),.mov (.k (.bool false))⟩])
 (.seq (.region false [⟨none,(some 3),.fld 0 (.t 1)⟩,
  ⟨none,(some 4),.load 1 false (.t 3)⟩,
  ⟨none,(some 5),.bin .geq (.t 4) (.k (.int .i64 2))⟩,
  ⟨none,(some 2),.mov (.t 5)⟩])
 .ret))
 ntmps:=6
 res:=[.tmp 2]
theorem zbv8:zsjc P Tryd.f43=some a43:=by kernel_rfl
def a40:AFn where
 code:=(.seq (.region false [⟨none,(some 2),.box (.t 0)⟩,
  ⟨none,(some 4),.mov (.k (.bool false))⟩])
 (.seq (.region false [⟨none,(some 5),.fld 0 (.t 2)⟩,
  ⟨none,(some 6),.load 1 false (.t 5)⟩,
  ⟨none,(some 7),.bin .eql (.t 6) (.k (.int .i64 3))⟩,
  ⟨none,(some 8),.mov (.t 7)⟩,
  ⟨(some (8,false)),(some 9),.fld 0 (.t 2)⟩,
  ⟨(some (8,false)),(some 10),.load 1 false (.t 9)⟩,
  ⟨(some (8,false)),(some 11),.bin .eql (.t 10) (.k (.int .i64 0))⟩,
  ⟨(some (8,false)),(some 12),.mov (.t 11)⟩,
  ⟨(some (12,true)),(some 13),.fld 1 (.t 2)⟩,
  ⟨(some (12,true)),(some 14),.load 1 false (.t 13)⟩,
  ⟨(some (12,true)),(some 15),.mov (.t 1)⟩,
  ⟨(some (12,true)),(some 16),.bin .eql (.t 14) (.t 15)⟩,
  ⟨(some (8,false)),(some 17),.pick (.t 12) (.t 16) (.k (.bool false))⟩,
  ⟨none,(some 18),.pick (.t 8) (.k (.bool true)) (.t 17)⟩,
  ⟨none,(some 19),.mov (.t 18)⟩,
  ⟨(some (19,false)),(some 20),.fld 0 (.t 2)⟩,
  ⟨(some (19,false)),(some 21),.load 1 false (.t 20)⟩,
  ⟨(some (19,false)),(some 22),.bin .eql (.t 21) (.k (.int .i64 1))⟩,
  ⟨(some (19,false)),(some 23),.mov (.t 22)⟩,
  ⟨(some (23,false)),(some 24),.fld 0 (.t 2)⟩,
  ⟨(some (23,false)),(some 25),.load 1 false (.t 24)⟩,
  ⟨(some (23,false)),(some 26),.bin .eql (.t 25) (.k (.int .i64 2))⟩,
  ⟨(some (19,false)),(some 27),.pick (.t 23) (.k (.bool true)) (.t 26)⟩,
  ⟨(some (19,false)),(some 28),.mov (.t 27)⟩,
  ⟨(some (28,true)),(some 29),.mov (.t 1)⟩,
  ⟨(some (28,true)),(some 30),.bin .neq (.t 29) (.k (w8 47#8))⟩,
  ⟨(some (19,false)),(some 31),.pick (.t 28) (.t 30) (.k (.bool false))⟩,
  ⟨none,(some 32),.pick (.t 19) (.k (.bool true)) (.t 31)⟩,
  ⟨none,(some 4),.mov (.t 32)⟩])
 .ret))
 ntmps:=33
 res:=[.tmp 4]
theorem zn9f:zsjc P Tryd.f40=some a40:=by kernel_rfl
def z4pl:ACode :=
 (.seq (.seq (.region false [⟨none,(some 31),.mov (.t 8)⟩,
  ⟨none,(some 32),.mov (.t 5)⟩,
  ⟨none,(some 33),.len (.t 32)⟩,
  ⟨none,(some 34),.bin .lss (.t 31) (.t 33)⟩,
  ⟨none,(some 35),.mov (.t 34)⟩,
  ⟨(some (35,true)),(some 36),.mov (.t 5)⟩,
  ⟨(some (35,true)),(some 37),.mov (.t 8)⟩,
  ⟨(some (35,true)),(some 38),.idxS 2 (.t 36) (.t 37)⟩,
  ⟨(some (35,true)),(some 39),.load 2 true (.t 38)⟩,
  ⟨(some (35,true)),(some 40),.call (.k (.fn (.func 43) [] [])) [(.t 39)]⟩,
  ⟨none,(some 41),.pick (.t 35) (.t 40) (.k (.bool false))⟩])
 (.cond (.t 41) .skip
 (.exit 0)))
 (.seq (.block 1 (.region false [⟨none,(some 44),.mov (.t 7)⟩,
  ⟨none,(some 45),.mov (.t 8)⟩,
  ⟨none,(some 46),.bin .add (.t 45) (.k (.int .i64 1))⟩,
  ⟨none,(some 47),.idxS 1 (.t 44) (.t 46)⟩,
  ⟨none,none,.store 1 (.t 47) (.k (.bool true))⟩]))
 (.region false [⟨none,(some 42),.mov (.t 8)⟩,
  ⟨none,(some 43),.bin .add (.t 42) (.k (.int .i64 1))⟩,
  ⟨none,(some 8),.mov (.t 43)⟩])))
def zhcc (x1 x5 x7 x8:DV) (h:List AObj):St:=⟨[.junk,x1,.junk,.junk,.junk,x5,.junk,x7,x8]++js 108,h⟩
def zxsn:ACode :=
 (.seq (.seq (.region false [⟨none,(some 58),.mov (.t 11)⟩,
  ⟨none,(some 59),.mov (.t 5)⟩,
  ⟨none,(some 60),.len (.t 59)⟩,
  ⟨none,(some 61),.bin .lss (.t 58) (.t 60)⟩])
 (.cond (.t 61) .skip
 (.exit 4)))
 (.seq (.block 5 (.seq (.region true [⟨none,(some 64),.mov (.t 7)⟩,
  ⟨none,(some 65),.mov (.t 11)⟩,
  ⟨none,(some 66),.idxS 1 (.t 64) (.t 65)⟩,
  ⟨none,(some 67),.load 1 false (.t 66)⟩,
  ⟨none,(some 68),.mov (.t 67)⟩,
  ⟨(some (68,true)),(some 69),.mov (.t 5)⟩,
  ⟨(some (68,true)),(some 70),.mov (.t 11)⟩,
  ⟨(some (68,true)),(some 71),.idxS 2 (.t 69) (.t 70)⟩,
  ⟨(some (68,true)),(some 72),.load 2 true (.t 71)⟩,
  ⟨(some (68,true)),(some 73),.mov (.t 1)⟩,
  ⟨(some (68,true)),(some 74),.mov (.t 9)⟩,
  ⟨(some (68,true)),(some 75),.idxStr (.t 73) (.t 74)⟩,
  ⟨(some (68,true)),(some 76),.callN (.k (.fn (.func 40) [] [])) [(.t 72),(.t 75)]⟩,
  ⟨none,(some 77),.pick (.t 68) (.t 76) (.k (.bool false))⟩])
 (.cond (.t 77) (.seq (.region false [⟨none,(some 78),.mov (.t 5)⟩,
  ⟨none,(some 79),.mov (.t 11)⟩,
  ⟨none,(some 80),.idxS 2 (.t 78) (.t 79)⟩,
  ⟨none,(some 81),.load 2 true (.t 80)⟩,
  ⟨none,(some 82),.call (.k (.fn (.func 43) [] [])) [(.t 81)]⟩])
 (.cond (.t 82) (.region false [⟨none,(some 83),.mov (.t 10)⟩,
  ⟨none,(some 84),.mov (.t 11)⟩,
  ⟨none,(some 85),.idxS 1 (.t 83) (.t 84)⟩,
  ⟨none,none,.store 1 (.t 85) (.k (.bool true))⟩])
 (.region false [⟨none,(some 86),.mov (.t 10)⟩,
  ⟨none,(some 87),.mov (.t 11)⟩,
  ⟨none,(some 88),.bin .add (.t 87) (.k (.int .i64 1))⟩,
  ⟨none,(some 89),.idxS 1 (.t 86) (.t 88)⟩,
  ⟨none,none,.store 1 (.t 89) (.k (.bool true))⟩])))
 .skip)))
 (.region false [⟨none,(some 62),.mov (.t 11)⟩,
  ⟨none,(some 63),.bin .add (.t 62) (.k (.int .i64 1))⟩,
  ⟨none,(some 11),.mov (.t 63)⟩])))
def zr0a (x1 x5 x7 x9 x10 x11:DV) (h:List AObj):St:=⟨[.junk,x1,.junk,.junk,.junk,x5,.junk,x7,.junk,x9,x10,x11]++js 105,h⟩
def zok9:ACode :=
 (.seq (.seq (.region false [⟨none,(some 90),.mov (.t 12)⟩,
  ⟨none,(some 91),.mov (.t 5)⟩,
  ⟨none,(some 92),.len (.t 91)⟩,
  ⟨none,(some 93),.bin .lss (.t 90) (.t 92)⟩])
 (.cond (.t 93) .skip
 (.exit 6)))
 (.seq (.block 7 (.seq (.region false [⟨none,(some 96),.mov (.t 10)⟩,
  ⟨none,(some 97),.mov (.t 12)⟩,
  ⟨none,(some 98),.idxS 1 (.t 96) (.t 97)⟩,
  ⟨none,(some 99),.load 1 false (.t 98)⟩,
  ⟨none,(some 100),.mov (.t 99)⟩,
  ⟨(some (100,true)),(some 101),.mov (.t 5)⟩,
  ⟨(some (100,true)),(some 102),.mov (.t 12)⟩,
  ⟨(some (100,true)),(some 103),.idxS 2 (.t 101) (.t 102)⟩,
  ⟨(some (100,true)),(some 104),.load 2 true (.t 103)⟩,
  ⟨(some (100,true)),(some 105),.call (.k (.fn (.func 43) [] [])) [(.t 104)]⟩,
  ⟨none,(some 106),.pick (.t 100) (.t 105) (.k (.bool false))⟩])
 (.cond (.t 106) (.region false [⟨none,(some 107),.mov (.t 10)⟩,
  ⟨none,(some 108),.mov (.t 12)⟩,
  ⟨none,(some 109),.bin .add (.t 108) (.k (.int .i64 1))⟩,
  ⟨none,(some 110),.idxS 1 (.t 107) (.t 109)⟩,
  ⟨none,none,.store 1 (.t 110) (.k (.bool true))⟩])
 .skip)))
 (.region false [⟨none,(some 94),.mov (.t 12)⟩,
  ⟨none,(some 95),.bin .add (.t 94) (.k (.int .i64 1))⟩,
  ⟨none,(some 12),.mov (.t 95)⟩])))
def ziu5 (x1 x5 x9 x10 x12:DV) (h:List AObj):St:=⟨[.junk,x1,.junk,.junk,.junk,x5,.junk,.junk,.junk,x9,x10,.junk,x12]++js 104,h⟩
def zi2l:ACode :=
 (.seq (.seq (.region false [⟨none,(some 48),.mov (.t 9)⟩,
  ⟨none,(some 49),.mov (.t 1)⟩,
  ⟨none,(some 50),.lenStr (.t 49)⟩,
  ⟨none,(some 51),.bin .lss (.t 48) (.t 50)⟩])
 (.cond (.t 51) .skip
 (.exit 2)))
 (.seq (.block 3 (.seq (.region false [⟨none,(some 54),.mov (.t 5)⟩,
  ⟨none,(some 55),.len (.t 54)⟩,
  ⟨none,(some 56),.bin .add (.t 55) (.k (.int .i64 1))⟩,
  ⟨none,(some 57),.mks 1 1 [(.bool false)] (.t 56) (.t 56)⟩,
  ⟨none,(some 10),.mov (.t 57)⟩])
 (.seq (.seq (.region false [⟨none,(some 11),.mov (.k (.int .i64 0))⟩])
 (.block 4 (.loop zxsn)))
 (.seq (.seq (.region false [⟨none,(some 12),.mov (.k (.int .i64 0))⟩])
 (.block 6 (.loop zok9)))
 (.region false [⟨none,(some 111),.mov (.t 10)⟩,
  ⟨none,(some 7),.mov (.t 111)⟩])))))
 (.region false [⟨none,(some 52),.mov (.t 9)⟩,
  ⟨none,(some 53),.bin .add (.t 52) (.k (.int .i64 1))⟩,
  ⟨none,(some 9),.mov (.t 53)⟩])))
def zrxb (x1 x5 x7 x9:DV) (h:List AObj):St:=⟨[.junk,x1,.junk,.junk,.junk,x5,.junk,x7,.junk,x9]++js 107,h⟩
def a17:AFn where
 code:=(.seq (.region false [⟨none,(some 4),.mov (.k (.bool false))⟩])
 (.seq (.region false [⟨none,(some 14),.mov (.t 0)⟩,
  ⟨none,(some 15),.call (.k (.fn (.func 36) [] [])) [(.t 14)]⟩,
  ⟨none,(some 13),.mov (.t 15)⟩,
  ⟨none,(some 16),.ext (.t 13) 0⟩,
  ⟨none,(some 17),.ext (.t 13) 1⟩,
  ⟨none,(some 5),.mov (.t 16)⟩,
  ⟨none,(some 6),.mov (.t 17)⟩])
 (.seq (.seq (.region false [⟨none,(some 18),.mov (.t 6)⟩,
  ⟨none,(some 19),.un .not (.t 18)⟩,
  ⟨none,(some 20),.mov (.t 19)⟩,
  ⟨(some (20,false)),(some 21),.mov (.t 1)⟩,
  ⟨(some (20,false)),(some 22),.call (.k (.fn (.func 26) [] [])) [(.t 21)]⟩,
  ⟨(some (20,false)),(some 23),.un .not (.t 22)⟩,
  ⟨none,(some 24),.pick (.t 20) (.k (.bool true)) (.t 23)⟩])
 (.cond (.t 24) (.seq (.region false [⟨none,(some 4),.mov (.k (.bool false))⟩])
 .ret)
 .skip))
 (.seq (.region false [⟨none,(some 25),.mov (.t 5)⟩,
  ⟨none,(some 26),.len (.t 25)⟩,
  ⟨none,(some 27),.bin .add (.t 26) (.k (.int .i64 1))⟩,
  ⟨none,(some 28),.mks 1 1 [(.bool false)] (.t 27) (.t 27)⟩,
  ⟨none,(some 7),.mov (.t 28)⟩])
 (.seq (.region false [⟨none,(some 29),.mov (.t 7)⟩,
  ⟨none,(some 30),.idxS 1 (.t 29) (.k (.int .i64 0))⟩,
  ⟨none,none,.store 1 (.t 30) (.k (.bool true))⟩])
 (.seq (.seq (.region false [⟨none,(some 8),.mov (.k (.int .i64 0))⟩])
 (.block 0 (.loop z4pl)))
 (.seq (.seq (.region false [⟨none,(some 9),.mov (.k (.int .i64 0))⟩])
 (.block 2 (.loop zi2l)))
 (.seq (.region false [⟨none,(some 112),.mov (.t 7)⟩,
  ⟨none,(some 113),.mov (.t 5)⟩,
  ⟨none,(some 114),.len (.t 113)⟩,
  ⟨none,(some 115),.idxS 1 (.t 112) (.t 114)⟩,
  ⟨none,(some 116),.load 1 false (.t 115)⟩,
  ⟨none,(some 4),.mov (.t 116)⟩])
 .ret))))))))
 ntmps:=117
 res:=[.tmp 4]
theorem zcaf:zsjc P Tryd.f17=some a17:=by kernel_rfl
end
section
set_option linter.unusedSimpArgs false
set_option linter.unusedVariables false
open Go Go.Am
def a33:AFn where
 code:=(.seq (.region false [⟨none,(some 6),.box (.t 2)⟩,
  ⟨none,(some 7),.box (.t 3)⟩,
  ⟨none,(some 8),.mov (.k .nils)⟩])
 (.seq (.seq (.region true [⟨none,(some 12),.mov (.t 0)⟩,
  ⟨none,(some 13),.nilc (.t 12)⟩,
  ⟨none,(some 14),.fld 2 (.t 13)⟩,
  ⟨none,(some 15),.load 1 false (.t 14)⟩,
  ⟨none,(some 16),.load 3 true (.t 6)⟩,
  ⟨none,(some 17),.mlk true ((.agg [(.int .i64 0),(.int .i64 0),(.int .i64 0),(w8 0#8)])) (.t 15) (.t 16)⟩,
  ⟨none,(some 11),.mov (.t 17)⟩,
  ⟨none,(some 18),.ext (.t 11) 0⟩,
  ⟨none,(some 19),.ext (.t 11) 1⟩,
  ⟨none,(some 9),.alloc [(.int .i64 0),(.int .i64 0),(.int .i64 0),(w8 0#8)]⟩,
  ⟨none,none,.store 4 (.t 9) (.t 18)⟩,
  ⟨none,(some 10),.mov (.t 19)⟩])
 (.seq (.region false [⟨none,(some 20),.mov (.t 10)⟩])
 (.cond (.t 20) (.seq (.region false [⟨none,(some 21),.mov (.t 1)⟩,
  ⟨none,(some 8),.mov (.t 21)⟩])
 .ret)
 .skip)))
 (.seq (.region true [⟨none,(some 22),.mov (.t 0)⟩,
  ⟨none,(some 23),.nilc (.t 22)⟩,
  ⟨none,(some 24),.fld 2 (.t 23)⟩,
  ⟨none,(some 25),.load 1 false (.t 24)⟩,
  ⟨none,(some 26),.load 3 true (.t 6)⟩,
  ⟨none,(some 27),.load 4 true (.t 7)⟩,
  ⟨none,none,.mst (.t 25) (.t 26) (.t 27)⟩])
 (.seq (.region false [⟨none,(some 28),.mov (.t 1)⟩,
  ⟨none,(some 29),.load 3 true (.t 6)⟩,
  ⟨none,(some 30),.bsl 3 1 [(.int .i64 0),(.int .i64 0),(.int .i64 0)] [(0,3,(.t 29))]⟩,
  ⟨none,(some 31),.app 3 24 (.t 28) (.t 30)⟩,
  ⟨none,(some 1),.mov (.t 31)⟩])
 (.seq (.seq (.region true [⟨none,(some 32),.fld 0 (.t 6)⟩,
  ⟨none,(some 33),.load 1 false (.t 32)⟩,
  ⟨none,(some 34),.mov (.t 0)⟩,
  ⟨none,(some 35),.nilc (.t 34)⟩,
  ⟨none,(some 36),.fld 0 (.t 35)⟩,
  ⟨none,(some 37),.load 1 false (.t 36)⟩,
  ⟨none,(some 38),.len (.t 37)⟩,
  ⟨none,(some 39),.bin .lss (.t 33) (.t 38)⟩,
  ⟨none,(some 40),.mov (.t 39)⟩,
  ⟨(some (40,true)),(some 41),.mov (.t 0)⟩,
  ⟨(some (40,true)),(some 42),.nilc (.t 41)⟩,
  ⟨(some (40,true)),(some 43),.fld 0 (.t 42)⟩,
  ⟨(some (40,true)),(some 44),.load 1 false (.t 43)⟩,
  ⟨(some (40,true)),(some 45),.fld 0 (.t 6)⟩,
  ⟨(some (40,true)),(some 46),.load 1 false (.t 45)⟩,
  ⟨(some (40,true)),(some 47),.idxS 2 (.t 44) (.t 46)⟩,
  ⟨(some (40,true)),(some 48),.load 2 true (.t 47)⟩,
  ⟨(some (40,true)),(some 49),.callN (.k (.fn (.func 61) [] [])) [(.t 48)]⟩,
  ⟨none,(some 50),.pick (.t 40) (.t 49) (.k (.bool false))⟩])
 (.cond (.t 50) (.region false [⟨none,(some 51),.mov (.t 0)⟩,
  ⟨none,(some 52),.mov (.t 1)⟩,
  ⟨none,(some 53),.fld 0 (.t 6)⟩,
  ⟨none,(some 54),.load 1 false (.t 53)⟩,
  ⟨none,(some 55),.bin .add (.t 54) (.k (.int .i64 1))⟩,
  ⟨none,(some 56),.fld 1 (.t 6)⟩,
  ⟨none,(some 57),.load 1 false (.t 56)⟩,
  ⟨none,(some 58),.fld 2 (.t 6)⟩,
  ⟨none,(some 59),.load 1 false (.t 58)⟩,
  ⟨none,(some 60),.build [(.int .i64 0),(.int .i64 0),(.int .i64 0)] [(0,1,(.t 55)),(1,1,(.t 57)),(2,1,(.t 59))]⟩,
  ⟨none,(some 61),.load 3 true (.t 6)⟩,
  ⟨none,(some 62),.build [(.int .i64 0),(.int .i64 0),(.int .i64 0),(w8 0#8)] [(0,3,(.t 61))]⟩,
  ⟨none,(some 63),.call (.k (.fn (.func 33) [] [])) [(.t 51),(.t 52),(.t 60),(.t 62)]⟩,
  ⟨none,(some 1),.mov (.t 63)⟩])
 .skip))
 (.seq (.seq (.region true [⟨none,(some 64),.fld 1 (.t 6)⟩,
  ⟨none,(some 65),.load 1 false (.t 64)⟩,
  ⟨none,(some 66),.mov (.t 0)⟩,
  ⟨none,(some 67),.nilc (.t 66)⟩,
  ⟨none,(some 68),.fld 1 (.t 67)⟩,
  ⟨none,(some 69),.load 1 false (.t 68)⟩,
  ⟨none,(some 70),.len (.t 69)⟩,
  ⟨none,(some 71),.bin .lss (.t 65) (.t 70)⟩,
  ⟨none,(some 72),.mov (.t 71)⟩,
  ⟨(some (72,true)),(some 73),.mov (.t 0)⟩,
  ⟨(some (72,true)),(some 74),.nilc (.t 73)⟩,
  ⟨(some (72,true)),(some 75),.fld 1 (.t 74)⟩,
  ⟨(some (72,true)),(some 76),.load 1 false (.t 75)⟩,
  ⟨(some (72,true)),(some 77),.fld 1 (.t 6)⟩,
  ⟨(some (72,true)),(some 78),.load 1 false (.t 77)⟩,
  ⟨(some (72,true)),(some 79),.idxS 2 (.t 76) (.t 78)⟩,
  ⟨(some (72,true)),(some 80),.load 2 true (.t 79)⟩,
  ⟨(some (72,true)),(some 81),.callN (.k (.fn (.func 61) [] [])) [(.t 80)]⟩,
  ⟨none,(some 82),.pick (.t 72) (.t 81) (.k (.bool false))⟩])
 (.cond (.t 82) (.region false [⟨none,(some 83),.mov (.t 0)⟩,
  ⟨none,(some 84),.mov (.t 1)⟩,
  ⟨none,(some 85),.fld 0 (.t 6)⟩,
  ⟨none,(some 86),.load 1 false (.t 85)⟩,
  ⟨none,(some 87),.fld 1 (.t 6)⟩,
  ⟨none,(some 88),.load 1 false (.t 87)⟩,
  ⟨none,(some 89),.bin .add (.t 88) (.k (.int .i64 1))⟩,
  ⟨none,(some 90),.fld 2 (.t 6)⟩,
  ⟨none,(some 91),.load 1 false (.t 90)⟩,
  ⟨none,(some 92),.build [(.int .i64 0),(.int .i64 0),(.int .i64 0)] [(0,1,(.t 86)),(1,1,(.t 89)),(2,1,(.t 91))]⟩,
  ⟨none,(some 93),.load 3 true (.t 6)⟩,
  ⟨none,(some 94),.build [(.int .i64 0),(.int .i64 0),(.int .i64 0),(w8 0#8)] [(0,3,(.t 93))]⟩,
  ⟨none,(some 95),.call (.k (.fn (.func 33) [] [])) [(.t 83),(.t 84),(.t 92),(.t 94)]⟩,
  ⟨none,(some 1),.mov (.t 95)⟩])
 .skip))
 (.seq (.region false [⟨none,(some 96),.mov (.t 1)⟩,
  ⟨none,(some 8),.mov (.t 96)⟩])
 .ret)))))))
 ntmps:=97
 res:=[.tmp 8]
theorem zojn:zsjc P Tryd.f33=some a33:=by kernel_rfl
def ztv8:ACode :=
 (.seq (.region false [⟨none,(some 66),.bin .lss (.t 65) (.t 64)⟩])
 (.seq (.cond (.t 66) .skip
 (.exit 0))
 (.seq (.block 1 (.seq (.region false [⟨none,(some 67),.idxS 1 (.t 63) (.t 65)⟩,
  ⟨none,(some 68),.load 1 false (.t 67)⟩,
  ⟨none,(some 11),.mov (.t 68)⟩])
 (.seq (.region false [⟨none,(some 70),.fld 2 (.t 5)⟩,
  ⟨none,(some 71),.load 1 false (.t 70)⟩,
  ⟨none,(some 72),.mov (.t 11)⟩,
  ⟨none,(some 73),.call (.k (.fn (.func 62) [] [])) [(.t 71),(.t 72)]⟩,
  ⟨none,(some 69),.mov (.t 73)⟩,
  ⟨none,(some 74),.ext (.t 69) 0⟩,
  ⟨none,(some 75),.ext (.t 69) 1⟩,
  ⟨none,(some 12),.mov (.t 74)⟩,
  ⟨none,(some 13),.mov (.t 75)⟩])
 (.seq (.seq (.region false [⟨none,(some 76),.mov (.t 13)⟩,
  ⟨none,(some 77),.un .not (.t 76)⟩,
  ⟨none,(some 78),.mov (.t 77)⟩,
  ⟨(some (78,false)),(some 79),.load 2 true (.t 7)⟩,
  ⟨(some (78,false)),(some 80),.call (.k (.fn (.func 63) [] [])) [(.t 79)]⟩,
  ⟨(some (78,false)),(some 81),.mov (.t 11)⟩,
  ⟨(some (78,false)),(some 82),.call (.t 80) [(.t 81)]⟩,
  ⟨(some (78,false)),(some 83),.un .not (.t 82)⟩,
  ⟨none,(some 84),.pick (.t 78) (.k (.bool true)) (.t 83)⟩,
  ⟨none,(some 85),.mov (.t 84)⟩,
  ⟨(some (85,false)),(some 86),.load 2 true (.t 8)⟩,
  ⟨(some (85,false)),(some 87),.call (.k (.fn (.func 63) [] [])) [(.t 86)]⟩,
  ⟨(some (85,false)),(some 88),.mov (.t 11)⟩,
  ⟨(some (85,false)),(some 89),.call (.t 87) [(.t 88)]⟩,
  ⟨(some (85,false)),(some 90),.un .not (.t 89)⟩,
  ⟨none,(some 91),.pick (.t 85) (.k (.bool true)) (.t 90)⟩])
 (.cond (.t 91) (.exit 1)
 .skip))
 (.seq (.region false [⟨none,(some 92),.fld 0 (.t 5)⟩,
  ⟨none,(some 93),.load 1 false (.t 92)⟩,
  ⟨none,(some 94),.fld 1 (.t 5)⟩,
  ⟨none,(some 95),.load 1 false (.t 94)⟩,
  ⟨none,(some 96),.mov (.t 12)⟩,
  ⟨none,(some 97),.build [(.int .i64 0),(.int .i64 0),(.int .i64 0)] [(0,1,(.t 93)),(1,1,(.t 95)),(2,1,(.t 96))]⟩,
  ⟨none,(some 14),.alloc [(.int .i64 0),(.int .i64 0),(.int .i64 0)]⟩,
  ⟨none,none,.store 3 (.t 14) (.t 97)⟩])
 (.seq (.seq (.region false [⟨none,(some 98),.load 2 true (.t 7)⟩,
  ⟨none,(some 99),.call (.k (.fn (.func 61) [] [])) [(.t 98)]⟩,
  ⟨none,(some 100),.un .not (.t 99)⟩])
 (.cond (.t 100) (.region false [⟨none,(some 101),.fld 0 (.t 14)⟩,
  ⟨none,(some 102),.load 1 false (.t 101)⟩,
  ⟨none,(some 103),.bin .add (.t 102) (.k (.int .i64 1))⟩,
  ⟨none,(some 104),.fld 0 (.t 14)⟩,
  ⟨none,none,.store 1 (.t 104) (.t 103)⟩])
 .skip))
 (.seq (.seq (.region false [⟨none,(some 105),.load 2 true (.t 8)⟩,
  ⟨none,(some 106),.call (.k (.fn (.func 61) [] [])) [(.t 105)]⟩,
  ⟨none,(some 107),.un .not (.t 106)⟩])
 (.cond (.t 107) (.region false [⟨none,(some 108),.fld 1 (.t 14)⟩,
  ⟨none,(some 109),.load 1 false (.t 108)⟩,
  ⟨none,(some 110),.bin .add (.t 109) (.k (.int .i64 1))⟩,
  ⟨none,(some 111),.fld 1 (.t 14)⟩,
  ⟨none,none,.store 1 (.t 111) (.t 110)⟩])
 .skip))
 (.region false [⟨none,(some 112),.mov (.t 0)⟩,
  ⟨none,(some 113),.mov (.t 1)⟩,
  ⟨none,(some 114),.load 3 true (.t 14)⟩,
  ⟨none,(some 115),.load 3 true (.t 5)⟩,
  ⟨none,(some 116),.mov (.t 11)⟩,
  ⟨none,(some 117),.build [(.int .i64 0),(.int .i64 0),(.int .i64 0),(w8 0#8)] [(0,3,(.t 115)),(3,1,(.t 116))]⟩,
  ⟨none,(some 118),.call (.k (.fn (.func 33) [] [])) [(.t 112),(.t 113),(.t 114),(.t 117)]⟩,
  ⟨none,(some 1),.mov (.t 118)⟩]))))))))
 (.region false [⟨none,(some 119),.bin .add (.t 65) (.k (.int .i64 1))⟩,
  ⟨none,(some 65),.mov (.t 119)⟩]))))
def zbg2 (x0 x1 x5 x7 x8 x63 x64 x65:DV) (h:List AObj):St:=⟨[x0,x1,.junk,.junk,.junk,x5,.junk,x7,x8]++js 54++[x63,x64,x65]++js 55,h⟩
def a35:AFn where
 code:=(.seq (.region false [⟨none,(some 5),.box (.t 2)⟩,
  ⟨none,(some 6),.mov (.k .nils)⟩])
 (.seq (.seq (.region true [⟨none,(some 15),.fld 0 (.t 5)⟩,
  ⟨none,(some 16),.load 1 false (.t 15)⟩,
  ⟨none,(some 17),.mov (.t 0)⟩,
  ⟨none,(some 18),.nilc (.t 17)⟩,
  ⟨none,(some 19),.fld 0 (.t 18)⟩,
  ⟨none,(some 20),.load 1 false (.t 19)⟩,
  ⟨none,(some 21),.len (.t 20)⟩,
  ⟨none,(some 22),.bin .eql (.t 16) (.t 21)⟩,
  ⟨none,(some 23),.mov (.t 22)⟩,
  ⟨(some (23,false)),(some 24),.fld 1 (.t 5)⟩,
  ⟨(some (23,false)),(some 25),.load 1 false (.t 24)⟩,
  ⟨(some (23,false)),(some 26),.mov (.t 0)⟩,
  ⟨(some (23,false)),(some 27),.nilc (.t 26)⟩,
  ⟨(some (23,false)),(some 28),.fld 1 (.t 27)⟩,
  ⟨(some (23,false)),(some 29),.load 1 false (.t 28)⟩,
  ⟨(some (23,false)),(some 30),.len (.t 29)⟩,
  ⟨(some (23,false)),(some 31),.bin .eql (.t 25) (.t 30)⟩,
  ⟨none,(some 32),.pick (.t 23) (.k (.bool true)) (.t 31)⟩])
 (.cond (.t 32) (.seq (.region false [⟨none,(some 33),.mov (.t 1)⟩,
  ⟨none,(some 6),.mov (.t 33)⟩])
 .ret)
 .skip))
 (.seq (.region true [⟨none,(some 34),.mov (.t 0)⟩,
  ⟨none,(some 35),.nilc (.t 34)⟩,
  ⟨none,(some 36),.fld 0 (.t 35)⟩,
  ⟨none,(some 37),.load 1 false (.t 36)⟩,
  ⟨none,(some 38),.fld 0 (.t 5)⟩,
  ⟨none,(some 39),.load 1 false (.t 38)⟩,
  ⟨none,(some 40),.idxS 2 (.t 37) (.t 39)⟩,
  ⟨none,(some 41),.load 2 true (.t 40)⟩,
  ⟨none,(some 42),.mov (.t 0)⟩,
  ⟨none,(some 43),.nilc (.t 42)⟩,
  ⟨none,(some 44),.fld 1 (.t 43)⟩,
  ⟨none,(some 45),.load 1 false (.t 44)⟩,
  ⟨none,(some 46),.fld 1 (.t 5)⟩,
  ⟨none,(some 47),.load 1 false (.t 46)⟩,
  ⟨none,(some 48),.idxS 2 (.t 45) (.t 47)⟩,
  ⟨none,(some 49),.load 2 true (.t 48)⟩,
  ⟨none,(some 7),.alloc [(.int .i64 0),(w8 0#8)]⟩,
  ⟨none,(some 8),.alloc [(.int .i64 0),(w8 0#8)]⟩,
  ⟨none,none,.store 2 (.t 7) (.t 41)⟩,
  ⟨none,none,.store 2 (.t 8) (.t 49)⟩,
  ⟨none,none,.apart (.t 42) (.t 7)⟩,
  ⟨none,none,.apart (.t 43) (.t 7)⟩,
  ⟨none,none,.apart (.t 44) (.t 7)⟩,
  ⟨none,none,.apart (.t 5) (.t 7)⟩,
  ⟨none,none,.apart (.t 46) (.t 7)⟩,
  ⟨none,none,.apart (.t 45) (.t 7)⟩,
  ⟨none,none,.apart (.t 48) (.t 7)⟩])
 (.seq (.region false [⟨none,(some 50),.bsl 1 2 [(w8 0#8)] [(0,1,(.k (w8 97#8))),(1,1,(.k (w8 47#8)))]⟩,
  ⟨none,(some 9),.mov (.t 50)⟩])
 (.seq (.seq (.region false [⟨none,(some 51),.fld 0 (.t 7)⟩,
  ⟨none,(some 52),.load 1 false (.t 51)⟩,
  ⟨none,(some 53),.bin .eql (.t 52) (.k (.int .i64 0))⟩])
 (.cond (.t 53) (.region false [⟨none,(some 54),.fld 1 (.t 7)⟩,
  ⟨none,(some 55),.load 1 false (.t 54)⟩,
  ⟨none,(some 56),.bsl 1 1 [(w8 0#8)] [(0,1,(.t 55))]⟩,
  ⟨none,(some 9),.mov (.t 56)⟩])
 (.seq (.region false [⟨none,(some 57),.fld 0 (.t 8)⟩,
  ⟨none,(some 58),.load 1 false (.t 57)⟩,
  ⟨none,(some 59),.bin .eql (.t 58) (.k (.int .i64 0))⟩])
 (.cond (.t 59) (.region false [⟨none,(some 60),.fld 1 (.t 8)⟩,
  ⟨none,(some 61),.load 1 false (.t 60)⟩,
  ⟨none,(some 62),.bsl 1 1 [(w8 0#8)] [(0,1,(.t 61))]⟩,
  ⟨none,(some 9),.mov (.t 62)⟩])
 .skip))))
 (.seq (.seq (.region false [⟨none,(some 63),.mov (.t 9)⟩,
  ⟨none,(some 64),.len (.t 63)⟩,
  ⟨none,(some 65),.mov (.k (.int .i64 0))⟩])
 (.block 0 (.loop ztv8)))
 (.seq (.region false [⟨none,(some 120),.mov (.t 1)⟩,
  ⟨none,(some 6),.mov (.t 120)⟩])
 .ret)))))))
 ntmps:=121
 res:=[.tmp 6]
theorem zxwh:zsjc P Tryd.f35=some a35:=by kernel_rfl
def zx6w:ACode :=
 (.seq (.seq (.region false [⟨none,(some 11),.load 3 true (.t 3)⟩,
  ⟨none,(some 12),.load 3 true (.t 6)⟩,
  ⟨none,(some 13),.eqa true [(3,0)] (.t 11) (.t 12)⟩])
 (.cond (.t 13) .skip
 (.exit 0)))
 (.seq (.block 1 (.seq (.region true [⟨none,(some 14),.mov (.t 0)⟩,
  ⟨none,(some 15),.nilc (.t 14)⟩,
  ⟨none,(some 16),.fld 2 (.t 15)⟩,
  ⟨none,(some 17),.load 1 false (.t 16)⟩,
  ⟨none,(some 18),.load 3 true (.t 3)⟩,
  ⟨none,(some 19),.mlk false ((.agg [(.int .i64 0),(.int .i64 0),(.int .i64 0),(w8 0#8)])) (.t 17) (.t 18)⟩,
  ⟨none,(some 7),.alloc [(.int .i64 0),(.int .i64 0),(.int .i64 0),(w8 0#8)]⟩,
  ⟨none,none,.store 4 (.t 7) (.t 19)⟩])
 (.seq (.seq (.region false [⟨none,(some 20),.fld 3 (.t 7)⟩,
  ⟨none,(some 21),.load 1 false (.t 20)⟩,
  ⟨none,(some 22),.bin .neq (.t 21) (.k (w8 0#8))⟩])
 (.cond (.t 22) (.region false [⟨none,(some 23),.mov (.t 5)⟩,
  ⟨none,(some 24),.fld 3 (.t 7)⟩,
  ⟨none,(some 25),.load 1 false (.t 24)⟩,
  ⟨none,(some 26),.bsl 1 1 [(w8 0#8)] [(0,1,(.t 25))]⟩,
  ⟨none,(some 27),.app 1 1 (.t 23) (.t 26)⟩,
  ⟨none,(some 5),.mov (.t 27)⟩])
 .skip))
 (.region false [⟨none,(some 28),.fld 0 (.t 7)⟩,
  ⟨none,(some 29),.load 3 true (.t 28)⟩,
  ⟨none,none,.store 3 (.t 3) (.t 29)⟩]))))
 (.seq (.region false [⟨none,(some 30),.load 3 true (.t 6)⟩])
 (.region false [⟨none,(some 6),.alloc [(.int .i64 0),(.int .i64 0),(.int .i64 0)]⟩,
  ⟨none,none,.store 3 (.t 6) (.t 30)⟩]))))
def z225 (x0 x3 x5 x6:DV) (h:List AObj):St:=⟨[x0,.junk,.junk,x3,.junk,x5,x6]++js 50,h⟩
def zqi6:ACode :=
 (.seq (.seq (.region false [⟨none,(some 34),.mov (.t 8)⟩,
  ⟨none,(some 35),.mov (.t 9)⟩,
  ⟨none,(some 36),.bin .lss (.t 34) (.t 35)⟩])
 (.cond (.t 36) .skip
 (.exit 2)))
 (.seq (.block 3 (.region true [⟨none,(some 41),.mov (.t 5)⟩,
  ⟨none,(some 42),.mov (.t 8)⟩,
  ⟨none,(some 43),.mov (.t 5)⟩,
  ⟨none,(some 44),.mov (.t 9)⟩,
  ⟨none,(some 45),.mov (.t 5)⟩,
  ⟨none,(some 46),.mov (.t 9)⟩,
  ⟨none,(some 47),.idxS 1 (.t 45) (.t 46)⟩,
  ⟨none,(some 48),.load 1 false (.t 47)⟩,
  ⟨none,(some 49),.mov (.t 5)⟩,
  ⟨none,(some 50),.mov (.t 8)⟩,
  ⟨none,(some 51),.idxS 1 (.t 49) (.t 50)⟩,
  ⟨none,(some 52),.load 1 false (.t 51)⟩,
  ⟨none,(some 53),.idxS 1 (.t 41) (.t 42)⟩,
  ⟨none,none,.store 1 (.t 53) (.t 48)⟩,
  ⟨none,(some 54),.idxS 1 (.t 43) (.t 44)⟩,
  ⟨none,none,.store 1 (.t 54) (.t 52)⟩]))
 (.region false [⟨none,(some 37),.mov (.t 8)⟩,
  ⟨none,(some 38),.bin .add (.t 37) (.k (.int .i64 1))⟩,
  ⟨none,(some 39),.mov (.t 9)⟩,
  ⟨none,(some 40),.bin .sub (.t 39) (.k (.int .i64 1))⟩,
  ⟨none,(some 8),.mov (.t 38)⟩,
  ⟨none,(some 9),.mov (.t 40)⟩])))
def zlpo (x5 x8 x9:DV) (h:List AObj):St:=⟨js 5++[x5,.junk,.junk,x8,x9]++js 47,h⟩
def a34:AFn where
 code:=(.seq (.region false [⟨none,(some 3),.box (.t 1)⟩,
  ⟨none,(some 4),.mov (.k (.str []))⟩])
 (.seq (.region false [⟨none,(some 5),.mov (.k .nils)⟩])
 (.seq (.seq (.region false [⟨none,(some 10),.build [(.int .i64 0),(.int .i64 0),(.int .i64 0)] []⟩,
  ⟨none,(some 6),.alloc [(.int .i64 0),(.int .i64 0),(.int .i64 0)]⟩,
  ⟨none,none,.store 3 (.t 6) (.t 10)⟩])
 (.block 0 (.loop zx6w)))
 (.seq (.seq (.region false [⟨none,(some 31),.mov (.t 5)⟩,
  ⟨none,(some 32),.len (.t 31)⟩,
  ⟨none,(some 33),.bin .sub (.t 32) (.k (.int .i64 1))⟩,
  ⟨none,(some 8),.mov (.k (.int .i64 0))⟩,
  ⟨none,(some 9),.mov (.t 33)⟩])
 (.block 2 (.loop zqi6)))
 (.seq (.region false [⟨none,(some 55),.mov (.t 5)⟩,
  ⟨none,(some 56),.cbs (.t 55)⟩,
  ⟨none,(some 4),.mov (.t 56)⟩])
 .ret)))))
 ntmps:=57
 res:=[.tmp 4]
theorem zk28:zsjc P Tryd.f34=some a34:=by kernel_rfl
def a62:AFn where
 code:=(.seq (.region false [⟨none,(some 4),.mov (.k (.int .i64 0))⟩,
  ⟨none,(some 5),.mov (.k (.bool false))⟩])
 (.seq (.block 0 (.seq (.region false [⟨none,(some 7),.mov (.t 1)⟩,
  ⟨none,(some 8),.bin .eql (.t 7) (.k (w8 47#8))⟩,
  ⟨none,(some 6),.mov (.t 8)⟩])
 (.cond (.t 6) (.seq (.region false [⟨none,(some 9),.mov (.t 0)⟩,
  ⟨none,(some 10),.bin .eql (.t 9) (.k (.int .i64 3))⟩,
  ⟨none,(some 4),.mov (.k (.int .i64 0))⟩,
  ⟨none,(some 5),.mov (.t 10)⟩])
 .ret)
 (.seq (.region false [⟨none,(some 12),.mov (.t 1)⟩,
  ⟨none,(some 13),.bin .eql (.t 12) (.k (w8 46#8))⟩,
  ⟨none,(some 14),.mov (.t 13)⟩,
  ⟨(some (14,true)),(some 15),.mov (.t 0)⟩,
  ⟨(some (14,true)),(some 16),.bin .neq (.t 15) (.k (.int .i64 3))⟩,
  ⟨none,(some 17),.pick (.t 14) (.t 16) (.k (.bool false))⟩,
  ⟨none,(some 11),.mov (.t 17)⟩])
 (.cond (.t 11) (.seq (.region false [⟨none,(some 18),.mov (.t 0)⟩,
  ⟨none,(some 19),.bin .add (.t 18) (.k (.int .i64 1))⟩,
  ⟨none,(some 4),.mov (.t 19)⟩,
  ⟨none,(some 5),.mov (.k (.bool true))⟩])
 .ret)
 .skip)))))
 (.seq (.region false [⟨none,(some 4),.mov (.k (.int .i64 3))⟩,
  ⟨none,(some 5),.mov (.k (.bool true))⟩])
 .ret)))
 ntmps:=20
 res:=[.tmp 4,.tmp 5]
theorem z0i3:zsjc P Tryd.f62=some a62:=by kernel_rfl
def zf22:ACode :=
 (.seq (.region false [⟨none,(some 50),.bin .lss (.t 49) (.t 48)⟩])
 (.seq (.cond (.t 50) .skip
 (.exit 2))
 (.seq (.block 3 (.seq (.region false [⟨none,(some 51),.idxS 3 (.t 47) (.t 49)⟩,
  ⟨none,(some 52),.load 3 true (.t 51)⟩,
  ⟨none,(some 15),.alloc [(.int .i64 0),(.int .i64 0),(.int .i64 0)]⟩,
  ⟨none,none,.store 3 (.t 15) (.t 52)⟩])
 (.seq (.region false [⟨none,(some 53),.load 3 true (.t 15)⟩,
  ⟨none,(some 54),.mov (.t 6)⟩,
  ⟨none,(some 55),.len (.t 54)⟩,
  ⟨none,(some 56),.mov (.t 8)⟩,
  ⟨none,(some 57),.len (.t 56)⟩,
  ⟨none,(some 58),.build [(.int .i64 0),(.int .i64 0),(.int .i64 0)] [(0,1,(.t 55)),(1,1,(.t 57)),(2,1,(.k (.int .i64 3)))]⟩,
  ⟨none,(some 59),.eqa false [(3,0)] (.t 53) (.t 58)⟩])
 (.cond (.t 59) (.seq (.region false [⟨none,(some 60),.mov (.t 10)⟩,
  ⟨none,(some 61),.load 3 true (.t 15)⟩,
  ⟨none,(some 62),.call (.k (.fn (.func 34) [] [])) [(.t 60),(.t 61)]⟩,
  ⟨none,(some 4),.mov (.t 62)⟩,
  ⟨none,(some 5),.mov (.k (.bool true))⟩])
 .ret)
 .skip))))
 (.region false [⟨none,(some 63),.bin .add (.t 49) (.k (.int .i64 1))⟩,
  ⟨none,(some 49),.mov (.t 63)⟩]))))
def zqdd (x6 x8 x10 x11 x12 x13 x47 x48 x49:DV) (h:List AObj):St:=⟨js 6++[x6,.junk,x8,.junk,x10,x11,x12,x13]++js 33++[x47,x48,x49]++js 26,h⟩
def z2ml:ACode :=
 (.seq (.region false [⟨none,(some 67),.bin .lss (.t 66) (.t 65)⟩])
 (.seq (.cond (.t 67) .skip
 (.exit 4))
 (.seq (.block 5 (.seq (.region false [⟨none,(some 68),.idxS 3 (.t 64) (.t 66)⟩,
  ⟨none,(some 69),.load 3 true (.t 68)⟩,
  ⟨none,(some 17),.alloc [(.int .i64 0),(.int .i64 0),(.int .i64 0)]⟩,
  ⟨none,none,.store 3 (.t 17) (.t 69)⟩])
 (.region false [⟨none,(some 70),.mov (.t 10)⟩,
  ⟨none,(some 71),.mov (.t 13)⟩,
  ⟨none,(some 72),.load 3 true (.t 17)⟩,
  ⟨none,(some 73),.call (.k (.fn (.func 35) [] [])) [(.t 70),(.t 71),(.t 72)]⟩,
  ⟨none,(some 13),.mov (.t 73)⟩])))
 (.region false [⟨none,(some 74),.bin .add (.t 66) (.k (.int .i64 1))⟩,
  ⟨none,(some 66),.mov (.t 74)⟩]))))
def z7k1 (x6 x8 x10 x12 x13 x64 x65 x66:DV) (h:List AObj):St:=⟨js 6++[x6,.junk,x8,.junk,x10,.junk,x12,x13]++js 50++[x64,x65,x66]++js 9,h⟩
def zso2:ACode :=
 (.seq (.seq (.region false [⟨none,(some 43),.mov (.t 12)⟩,
  ⟨none,(some 44),.bin .leq (.t 43) (.k (.int .i64 200))⟩])
 (.cond (.t 44) .skip
 (.exit 0)))
 (.seq (.block 1 (.seq (.region false [⟨none,(some 13),.mov (.k .nils)⟩])
 (.seq (.seq (.region false [⟨none,(some 47),.mov (.t 11)⟩,
  ⟨none,(some 48),.len (.t 47)⟩,
  ⟨none,(some 49),.mov (.k (.int .i64 0))⟩])
 (.block 2 (.loop zf22)))
 (.seq (.seq (.region false [⟨none,(some 64),.mov (.t 11)⟩,
  ⟨none,(some 65),.len (.t 64)⟩,
  ⟨none,(some 66),.mov (.k (.int .i64 0))⟩])
 (.block 4 (.loop z2ml)))
 (.region false [⟨none,(some 75),.mov (.t 13)⟩,
  ⟨none,(some 11),.mov (.t 75)⟩])))))
 (.region false [⟨none,(some 45),.mov (.t 12)⟩,
  ⟨none,(some 46),.bin .add (.t 45) (.k (.int .i64 1))⟩,
  ⟨none,(some 12),.mov (.t 46)⟩])))
def zk4k (x6 x8 x10 x11 x12:DV) (h:List AObj):St:=⟨js 6++[x6,.junk,x8,.junk,x10,x11,x12]++js 63,h⟩
def a14:AFn where
 code:=(.seq (.region false [⟨none,(some 4),.mov (.k (.str []))⟩,
  ⟨none,(some 5),.mov (.k (.bool false))⟩])
 (.seq (.region false [⟨none,(some 19),.mov (.t 0)⟩,
  ⟨none,(some 20),.call (.k (.fn (.func 32) [] [])) [(.t 19)]⟩,
  ⟨none,(some 18),.mov (.t 20)⟩,
  ⟨none,(some 21),.ext (.t 18) 0⟩,
  ⟨none,(some 22),.ext (.t 18) 1⟩,
  ⟨none,(some 6),.mov (.t 21)⟩,
  ⟨none,(some 7),.mov (.t 22)⟩])
 (.seq (.region false [⟨none,(some 24),.mov (.t 1)⟩,
  ⟨none,(some 25),.call (.k (.fn (.func 32) [] [])) [(.t 24)]⟩,
  ⟨none,(some 23),.mov (.t 25)⟩,
  ⟨none,(some 26),.ext (.t 23) 0⟩,
  ⟨none,(some 27),.ext (.t 23) 1⟩,
  ⟨none,(some 8),.mov (.t 26)⟩,
  ⟨none,(some 9),.mov (.t 27)⟩])
 (.seq (.seq (.region false [⟨none,(some 28),.mov (.t 7)⟩,
  ⟨none,(some 29),.un .not (.t 28)⟩,
  ⟨none,(some 30),.mov (.t 29)⟩,
  ⟨(some (30,false)),(some 31),.mov (.t 9)⟩,
  ⟨(some (30,false)),(some 32),.un .not (.t 31)⟩,
  ⟨none,(some 33),.pick (.t 30) (.k (.bool true)) (.t 32)⟩])
 (.cond (.t 33) (.seq (.region false [⟨none,(some 4),.mov (.k (.str []))⟩,
  ⟨none,(some 5),.mov (.k (.bool false))⟩])
 .ret)
 .skip))
 (.seq (.region false [⟨none,(some 34),.mov (.t 6)⟩,
  ⟨none,(some 35),.mov (.t 8)⟩,
  ⟨none,(some 36),.mkm⟩,
  ⟨none,(some 37),.build [.nils,.nils,.nilm] [(0,1,(.t 34)),(1,1,(.t 35)),(2,1,(.t 36))]⟩,
  ⟨none,(some 38),.box (.t 37)⟩,
  ⟨none,(some 10),.mov (.t 38)⟩])
 (.seq (.region false [⟨none,(some 39),.mov (.t 10)⟩,
  ⟨none,(some 40),.build [(.int .i64 0),(.int .i64 0),(.int .i64 0)] []⟩,
  ⟨none,(some 41),.build [(.int .i64 0),(.int .i64 0),(.int .i64 0),(w8 0#8)] []⟩,
  ⟨none,(some 42),.call (.k (.fn (.func 33) [] [])) [(.t 39),(.k .nils),(.t 40),(.t 41)]⟩,
  ⟨none,(some 11),.mov (.t 42)⟩])
 (.seq (.seq (.region false [⟨none,(some 12),.mov (.k (.int .i64 0))⟩])
 (.block 0 (.loop zso2)))
 (.seq (.region false [⟨none,(some 4),.mov (.k (.str []))⟩,
  ⟨none,(some 5),.mov (.k (.bool false))⟩])
 .ret))))))))
 ntmps:=76
 res:=[.tmp 4,.tmp 5]
theorem zzfl:zsjc P Tryd.f14=some a14:=by kernel_rfl
def a38:AFn where
 code:=(.seq (.region false [⟨none,(some 7),.box (.t 2)⟩,
  ⟨none,(some 10),.mov (.k .nils)⟩])
 (.seq (.seq (.region false [⟨none,(some 11),.mov (.t 1)⟩,
  ⟨none,(some 12),.load 3 true (.t 7)⟩,
  ⟨none,(some 13),.mlk false ((.bool false)) (.t 11) (.t 12)⟩])
 (.cond (.t 13) (.seq (.region false [⟨none,(some 14),.mov (.t 0)⟩,
  ⟨none,(some 10),.mov (.t 14)⟩])
 .ret)
 .skip))
 (.seq (.region false [⟨none,(some 15),.mov (.t 1)⟩,
  ⟨none,(some 16),.load 3 true (.t 7)⟩,
  ⟨none,none,.mst (.t 15) (.t 16) (.k (.bool true))⟩])
 (.seq (.region false [⟨none,(some 17),.mov (.t 0)⟩,
  ⟨none,(some 18),.load 3 true (.t 7)⟩,
  ⟨none,(some 19),.bsl 3 1 [(.int .i64 0),(.int .i64 0),(.int .i64 0)] [(0,3,(.t 18))]⟩,
  ⟨none,(some 20),.app 3 24 (.t 17) (.t 19)⟩,
  ⟨none,(some 0),.mov (.t 20)⟩])
 (.seq (.seq (.region false [⟨none,(some 21),.fld 0 (.t 7)⟩,
  ⟨none,(some 22),.load 1 false (.t 21)⟩,
  ⟨none,(some 23),.mov (.t 3)⟩,
  ⟨none,(some 24),.len (.t 23)⟩,
  ⟨none,(some 25),.bin .lss (.t 22) (.t 24)⟩,
  ⟨none,(some 26),.mov (.t 25)⟩,
  ⟨(some (26,true)),(some 27),.mov (.t 3)⟩,
  ⟨(some (26,true)),(some 28),.fld 0 (.t 7)⟩,
  ⟨(some (26,true)),(some 29),.load 1 false (.t 28)⟩,
  ⟨(some (26,true)),(some 30),.idxS 2 (.t 27) (.t 29)⟩,
  ⟨(some (26,true)),(some 31),.load 2 true (.t 30)⟩,
  ⟨(some (26,true)),(some 32),.call (.k (.fn (.func 43) [] [])) [(.t 31)]⟩,
  ⟨none,(some 33),.pick (.t 26) (.t 32) (.k (.bool false))⟩])
 (.cond (.t 33) (.region false [⟨none,(some 34),.mov (.t 0)⟩,
  ⟨none,(some 35),.mov (.t 1)⟩,
  ⟨none,(some 36),.fld 0 (.t 7)⟩,
  ⟨none,(some 37),.load 1 false (.t 36)⟩,
  ⟨none,(some 38),.bin .add (.t 37) (.k (.int .i64 1))⟩,
  ⟨none,(some 39),.fld 1 (.t 7)⟩,
  ⟨none,(some 40),.load 1 false (.t 39)⟩,
  ⟨none,(some 41),.fld 2 (.t 7)⟩,
  ⟨none,(some 42),.load 1 false (.t 41)⟩,
  ⟨none,(some 43),.build [(.int .i64 0),(.int .i64 0),(.int .i64 0)] [(0,1,(.t 38)),(1,1,(.t 40)),(2,1,(.t 42))]⟩,
  ⟨none,(some 44),.mov (.t 3)⟩,
  ⟨none,(some 45),.mov (.t 4)⟩,
  ⟨none,(some 46),.call (.k (.fn (.func 38) [] [])) [(.t 34),(.t 35),(.t 43),(.t 44),(.t 45)]⟩,
  ⟨none,(some 0),.mov (.t 46)⟩])
 .skip))
 (.seq (.seq (.region false [⟨none,(some 47),.fld 1 (.t 7)⟩,
  ⟨none,(some 48),.load 1 false (.t 47)⟩,
  ⟨none,(some 49),.mov (.t 4)⟩,
  ⟨none,(some 50),.len (.t 49)⟩,
  ⟨none,(some 51),.bin .lss (.t 48) (.t 50)⟩,
  ⟨none,(some 52),.mov (.t 51)⟩,
  ⟨(some (52,true)),(some 53),.mov (.t 4)⟩,
  ⟨(some (52,true)),(some 54),.fld 1 (.t 7)⟩,
  ⟨(some (52,true)),(some 55),.load 1 false (.t 54)⟩,
  ⟨(some (52,true)),(some 56),.idxS 2 (.t 53) (.t 55)⟩,
  ⟨(some (52,true)),(some 57),.load 2 true (.t 56)⟩,
  ⟨(some (52,true)),(some 58),.call (.k (.fn (.func 43) [] [])) [(.t 57)]⟩,
  ⟨none,(some 59),.pick (.t 52) (.t 58) (.k (.bool false))⟩])
 (.cond (.t 59) (.region false [⟨none,(some 60),.mov (.t 0)⟩,
  ⟨none,(some 61),.mov (.t 1)⟩,
  ⟨none,(some 62),.fld 0 (.t 7)⟩,
  ⟨none,(some 63),.load 1 false (.t 62)⟩,
  ⟨none,(some 64),.fld 1 (.t 7)⟩,
  ⟨none,(some 65),.load 1 false (.t 64)⟩,
  ⟨none,(some 66),.bin .add (.t 65) (.k (.int .i64 1))⟩,
  ⟨none,(some 67),.fld 2 (.t 7)⟩,
  ⟨none,(some 68),.load 1 false (.t 67)⟩,
  ⟨none,(some 69),.build [(.int .i64 0),(.int .i64 0),(.int .i64 0)] [(0,1,(.t 63)),(1,1,(.t 66)),(2,1,(.t 68))]⟩,
  ⟨none,(some 70),.mov (.t 3)⟩,
  ⟨none,(some 71),.mov (.t 4)⟩,
  ⟨none,(some 72),.call (.k (.fn (.func 38) [] [])) [(.t 60),(.t 61),(.t 69),(.t 70),(.t 71)]⟩,
  ⟨none,(some 0),.mov (.t 72)⟩])
 .skip))
 (.seq (.region false [⟨none,(some 73),.mov (.t 0)⟩,
  ⟨none,(some 10),.mov (.t 73)⟩])
 .ret)))))))
 ntmps:=74
 res:=[.tmp 10]
theorem zclx:zsjc P Tryd.f38=some a38:=by kernel_rfl
def a39:AFn where
 code:=(.seq (.region false [⟨none,(some 4),.mov (.k (.int .i64 0))⟩])
 (.seq (.seq (.region false [⟨none,(some 5),.mov (.t 1)⟩,
  ⟨none,(some 6),.bin .eql (.t 5) (.k (w8 47#8))⟩])
 (.cond (.t 6) (.seq (.seq (.region false [⟨none,(some 7),.mov (.t 0)⟩,
  ⟨none,(some 8),.bin .neq (.t 7) (.k (.int .i64 3))⟩])
 (.cond (.t 8) (.seq (.region false [⟨none,(some 4),.mov (.k (.int .i64 (-1)))⟩])
 .ret)
 .skip))
 (.seq (.region false [⟨none,(some 4),.mov (.k (.int .i64 0))⟩])
 .ret))
 .skip))
 (.seq (.seq (.region false [⟨none,(some 9),.mov (.t 1)⟩,
  ⟨none,(some 10),.bin .eql (.t 9) (.k (w8 46#8))⟩,
  ⟨none,(some 11),.mov (.t 10)⟩,
  ⟨(some (11,true)),(some 12),.mov (.t 0)⟩,
  ⟨(some (11,true)),(some 13),.bin .lss (.t 12) (.k (.int .i64 2))⟩,
  ⟨none,(some 14),.pick (.t 11) (.t 13) (.k (.bool false))⟩])
 (.cond (.t 14) (.seq (.region false [⟨none,(some 15),.mov (.t 0)⟩,
  ⟨none,(some 16),.bin .add (.t 15) (.k (.int .i64 1))⟩,
  ⟨none,(some 4),.mov (.t 16)⟩])
 .ret)
 .skip))
 (.seq (.region false [⟨none,(some 4),.mov (.k (.int .i64 3))⟩])
 .ret))))
 ntmps:=17
 res:=[.tmp 4]
theorem zjwo:zsjc P Tryd.f39=some a39:=by kernel_rfl
def a41:AFn where
 code:=(.seq (.region false [⟨none,(some 4),.mov (.k (.int .i64 0))⟩])
 (.seq (.seq (.region false [⟨none,(some 5),.mov (.t 0)⟩,
  ⟨none,(some 6),.mov (.t 1)⟩,
  ⟨none,(some 7),.idxS 2 (.t 5) (.t 6)⟩,
  ⟨none,(some 8),.load 2 true (.t 7)⟩,
  ⟨none,(some 9),.call (.k (.fn (.func 43) [] [])) [(.t 8)]⟩])
 (.cond (.t 9) (.seq (.region false [⟨none,(some 10),.mov (.t 1)⟩,
  ⟨none,(some 4),.mov (.t 10)⟩])
 .ret)
 .skip))
 (.seq (.region false [⟨none,(some 11),.mov (.t 1)⟩,
  ⟨none,(some 12),.bin .add (.t 11) (.k (.int .i64 1))⟩,
  ⟨none,(some 4),.mov (.t 12)⟩])
 .ret)))
 ntmps:=13
 res:=[.tmp 4]
theorem z5y8:zsjc P Tryd.f41=some a41:=by kernel_rfl
def z01n:ACode :=
 (.seq (.seq (.region false [⟨none,(some 13),.mov (.t 7)⟩,
  ⟨none,(some 14),.mov (.t 6)⟩,
  ⟨none,(some 15),.lenStr (.t 14)⟩,
  ⟨none,(some 16),.bin .lss (.t 13) (.t 15)⟩])
 (.cond (.t 16) .skip
 (.exit 0)))
 (.seq (.block 1 (.seq (.region true [⟨none,(some 19),.mov (.t 5)⟩,
  ⟨none,(some 20),.cbs (.t 19)⟩,
  ⟨none,(some 21),.mov (.t 6)⟩,
  ⟨none,(some 22),.mov (.t 7)⟩,
  ⟨none,(some 23),.mov (.t 7)⟩,
  ⟨none,(some 24),.bin .add (.t 23) (.k (.int .i64 1))⟩,
  ⟨none,(some 25),.slcStr (.t 21) (some (.t 22)) (some (.t 24))⟩,
  ⟨none,(some 26),.callN (.k (.fn (.func 64) [] [])) [(.t 20),(.t 25)]⟩,
  ⟨none,(some 27),.un .not (.t 26)⟩])
 (.cond (.t 27) (.region false [⟨none,(some 28),.mov (.t 5)⟩,
  ⟨none,(some 29),.mov (.t 6)⟩,
  ⟨none,(some 30),.mov (.t 7)⟩,
  ⟨none,(some 31),.idxStr (.t 29) (.t 30)⟩,
  ⟨none,(some 32),.bsl 1 1 [(w8 0#8)] [(0,1,(.t 31))]⟩,
  ⟨none,(some 33),.app 1 1 (.t 28) (.t 32)⟩,
  ⟨none,(some 5),.mov (.t 33)⟩])
 .skip)))
 (.region false [⟨none,(some 17),.mov (.t 7)⟩,
  ⟨none,(some 18),.bin .add (.t 17) (.k (.int .i64 1))⟩,
  ⟨none,(some 7),.mov (.t 18)⟩])))
def zznl (x5 x6 x7:DV) (h:List AObj):St:=⟨js 5++[x5,x6,x7]++js 44,h⟩
def z0dk:ACode :=
 (.seq (.seq (.region false [⟨none,(some 34),.mov (.t 8)⟩,
  ⟨none,(some 35),.bin .lss (.t 34) (.k (.int .i64 256))⟩])
 (.cond (.t 35) .skip
 (.exit 2)))
 (.seq (.block 3 (.seq (.region false [⟨none,(some 38),.mov (.t 5)⟩,
  ⟨none,(some 39),.cbs (.t 38)⟩,
  ⟨none,(some 40),.mov (.t 8)⟩,
  ⟨none,(some 41),.conv .u8 (.t 40)⟩,
  ⟨none,(some 42),.bsl 1 1 [(w8 0#8)] [(0,1,(.t 41))]⟩,
  ⟨none,(some 43),.cbs (.t 42)⟩,
  ⟨none,(some 44),.call (.k (.fn (.func 64) [] [])) [(.t 39),(.t 43)]⟩,
  ⟨none,(some 45),.un .not (.t 44)⟩])
 (.cond (.t 45) (.seq (.region false [⟨none,(some 46),.mov (.t 5)⟩,
  ⟨none,(some 47),.mov (.t 8)⟩,
  ⟨none,(some 48),.conv .u8 (.t 47)⟩,
  ⟨none,(some 49),.bsl 1 1 [(w8 0#8)] [(0,1,(.t 48))]⟩,
  ⟨none,(some 50),.app 1 1 (.t 46) (.t 49)⟩,
  ⟨none,(some 4),.mov (.t 50)⟩])
 .ret)
 .skip)))
 (.region false [⟨none,(some 36),.mov (.t 8)⟩,
  ⟨none,(some 37),.bin .add (.t 36) (.k (.int .i64 1))⟩,
  ⟨none,(some 8),.mov (.t 37)⟩])))
def zv9l (x5 x8:DV) (h:List AObj):St:=⟨js 5++[x5,.junk,.junk,x8]++js 43,h⟩
def a37:AFn where
 code:=(.seq (.region false [⟨none,(some 4),.mov (.k .nils)⟩])
 (.seq (.region false [⟨none,(some 9),.bsl 1 2 [(w8 0#8)] [(0,1,(.k (w8 47#8))),(1,1,(.k (w8 46#8)))]⟩,
  ⟨none,(some 5),.mov (.t 9)⟩])
 (.seq (.region false [⟨none,(some 10),.mov (.t 0)⟩,
  ⟨none,(some 11),.mov (.t 1)⟩,
  ⟨none,(some 12),.bin .add (.t 10) (.t 11)⟩,
  ⟨none,(some 6),.mov (.t 12)⟩])
 (.seq (.seq (.region false [⟨none,(some 7),.mov (.k (.int .i64 0))⟩])
 (.block 0 (.loop z01n)))
 (.seq (.seq (.region false [⟨none,(some 8),.mov (.k (.int .i64 1))⟩])
 (.block 2 (.loop z0dk)))
 (.seq (.region false [⟨none,(some 51),.mov (.t 5)⟩,
  ⟨none,(some 4),.mov (.t 51)⟩])
 .ret))))))
 ntmps:=52
 res:=[.tmp 4]
theorem z554:zsjc P Tryd.f37=some a37:=by kernel_rfl
def zfed:ACode :=
 (.seq (.seq (.region false [⟨none,(some 74),.mov (.t 16)⟩,
  ⟨none,(some 75),.mov (.t 9)⟩,
  ⟨none,(some 76),.len (.t 75)⟩,
  ⟨none,(some 77),.bin .lss (.t 74) (.t 76)⟩])
 (.cond (.t 77) .skip
 (.exit 4)))
 (.seq (.block 5 (.seq (.region true [⟨none,(some 80),.fld 2 (.t 15)⟩,
  ⟨none,(some 81),.load 1 false (.t 80)⟩,
  ⟨none,(some 82),.mov (.t 9)⟩,
  ⟨none,(some 83),.mov (.t 16)⟩,
  ⟨none,(some 84),.idxS 1 (.t 82) (.t 83)⟩,
  ⟨none,(some 85),.load 1 false (.t 84)⟩,
  ⟨none,(some 86),.callN (.k (.fn (.func 39) [] [])) [(.t 81),(.t 85)]⟩,
  ⟨none,(some 17),.mov (.t 86)⟩])
 (.seq (.region true [⟨none,(some 87),.mov (.t 17)⟩,
  ⟨none,(some 88),.bin .geq (.t 87) (.k (.int .i64 0))⟩,
  ⟨none,(some 89),.mov (.t 88)⟩,
  ⟨(some (89,true)),(some 90),.mov (.t 5)⟩,
  ⟨(some (89,true)),(some 91),.fld 0 (.t 15)⟩,
  ⟨(some (89,true)),(some 92),.load 1 false (.t 91)⟩,
  ⟨(some (89,true)),(some 93),.idxS 2 (.t 90) (.t 92)⟩,
  ⟨(some (89,true)),(some 94),.load 2 true (.t 93)⟩,
  ⟨(some (89,true)),(some 95),.mov (.t 9)⟩,
  ⟨(some (89,true)),(some 96),.mov (.t 16)⟩,
  ⟨(some (89,true)),(some 97),.idxS 1 (.t 95) (.t 96)⟩,
  ⟨(some (89,true)),(some 98),.load 1 false (.t 97)⟩,
  ⟨(some (89,true)),(some 99),.callN (.k (.fn (.func 40) [] [])) [(.t 94),(.t 98)]⟩,
  ⟨none,(some 100),.pick (.t 89) (.t 99) (.k (.bool false))⟩,
  ⟨none,(some 101),.mov (.t 100)⟩,
  ⟨(some (101,true)),(some 102),.mov (.t 7)⟩,
  ⟨(some (101,true)),(some 103),.fld 1 (.t 15)⟩,
  ⟨(some (101,true)),(some 104),.load 1 false (.t 103)⟩,
  ⟨(some (101,true)),(some 105),.idxS 2 (.t 102) (.t 104)⟩,
  ⟨(some (101,true)),(some 106),.load 2 true (.t 105)⟩,
  ⟨(some (101,true)),(some 107),.mov (.t 9)⟩,
  ⟨(some (101,true)),(some 108),.mov (.t 16)⟩,
  ⟨(some (101,true)),(some 109),.idxS 1 (.t 107) (.t 108)⟩,
  ⟨(some (101,true)),(some 110),.load 1 false (.t 109)⟩,
  ⟨(some (101,true)),(some 111),.callN (.k (.fn (.func 40) [] [])) [(.t 106),(.t 110)]⟩,
  ⟨none,(some 112),.pick (.t 101) (.t 111) (.k (.bool false))⟩])
 (.cond (.t 112) (.region true [⟨none,(some 113),.mov (.t 13)⟩,
  ⟨none,(some 114),.mov (.t 10)⟩,
  ⟨none,(some 115),.mov (.t 5)⟩,
  ⟨none,(some 116),.fld 0 (.t 15)⟩,
  ⟨none,(some 117),.load 1 false (.t 116)⟩,
  ⟨none,(some 119),.mov (.t 7)⟩,
  ⟨none,(some 120),.fld 1 (.t 15)⟩,
  ⟨none,(some 121),.load 1 false (.t 120)⟩,
  ⟨none,(some 123),.mov (.t 17)⟩,
  ⟨none,(some 125),.mov (.t 5)⟩,
  ⟨none,(some 126),.mov (.t 7)⟩,
  ⟨none,(some 118),.callN (.k (.fn (.func 41) [] [])) [(.t 115),(.t 117)]⟩,
  ⟨none,(some 122),.callN (.k (.fn (.func 41) [] [])) [(.t 119),(.t 121)]⟩,
  ⟨none,(some 124),.build [(.int .i64 0),(.int .i64 0),(.int .i64 0)] [(0,1,(.t 118)),(1,1,(.t 122)),(2,1,(.t 123))]⟩,
  ⟨none,(some 127),.callE (.k (.fn (.func 38) [] [])) [(.t 113),(.t 114),(.t 124),(.t 125),(.t 126)]⟩,
  ⟨none,(some 13),.mov (.t 127)⟩])
 .skip))))
 (.region false [⟨none,(some 78),.mov (.t 16)⟩,
  ⟨none,(some 79),.bin .add (.t 78) (.k (.int .i64 1))⟩,
  ⟨none,(some 16),.mov (.t 79)⟩])))
def zse9 (x5 x7 x9 x10 x11 x12 x13 x14 x15 x16:DV) (h:List AObj):St:=⟨js 5++[x5,.junk,x7,.junk,x9,x10,x11,x12,x13,x14,x15,x16]++js 119,h⟩
def zujz:ACode :=
 (.seq (.seq (.region false [⟨none,(some 52),.mov (.t 14)⟩,
  ⟨none,(some 53),.mov (.t 11)⟩,
  ⟨none,(some 54),.len (.t 53)⟩,
  ⟨none,(some 55),.bin .lss (.t 52) (.t 54)⟩])
 (.cond (.t 55) .skip
 (.exit 2)))
 (.seq (.block 3 (.seq (.region false [⟨none,(some 58),.mov (.t 11)⟩,
  ⟨none,(some 59),.mov (.t 14)⟩,
  ⟨none,(some 60),.idxS 3 (.t 58) (.t 59)⟩,
  ⟨none,(some 61),.load 3 true (.t 60)⟩,
  ⟨none,(some 15),.alloc [(.int .i64 0),(.int .i64 0),(.int .i64 0)]⟩,
  ⟨none,none,.store 3 (.t 15) (.t 61)⟩])
 (.seq (.seq (.region false [⟨none,(some 62),.fld 0 (.t 15)⟩,
  ⟨none,(some 63),.load 1 false (.t 62)⟩,
  ⟨none,(some 64),.mov (.t 5)⟩,
  ⟨none,(some 65),.len (.t 64)⟩,
  ⟨none,(some 66),.bin .eql (.t 63) (.t 65)⟩,
  ⟨none,(some 67),.mov (.t 66)⟩,
  ⟨(some (67,false)),(some 68),.fld 1 (.t 15)⟩,
  ⟨(some (67,false)),(some 69),.load 1 false (.t 68)⟩,
  ⟨(some (67,false)),(some 70),.mov (.t 7)⟩,
  ⟨(some (67,false)),(some 71),.len (.t 70)⟩,
  ⟨(some (67,false)),(some 72),.bin .eql (.t 69) (.t 71)⟩,
  ⟨none,(some 73),.pick (.t 67) (.k (.bool true)) (.t 72)⟩])
 (.cond (.t 73) (.exit 3)
 .skip))
 (.seq (.region false [⟨none,(some 16),.mov (.k (.int .i64 0))⟩])
 (.block 4 (.loop zfed))))))
 (.region false [⟨none,(some 56),.mov (.t 14)⟩,
  ⟨none,(some 57),.bin .add (.t 56) (.k (.int .i64 1))⟩,
  ⟨none,(some 14),.mov (.t 57)⟩])))
def zqpn (x5 x7 x9 x10 x11 x12 x13 x14:DV) (h:List AObj):St:=⟨js 5++[x5,.junk,x7,.junk,x9,x10,x11,x12,x13,x14]++js 121,h⟩
def zywk:ACode :=
 (.seq (.seq (.region false [⟨none,(some 43),.mov (.t 12)⟩,
  ⟨none,(some 44),.bin .lss (.t 43) (.k (.int .i64 200))⟩,
  ⟨none,(some 45),.mov (.t 44)⟩,
  ⟨(some (45,true)),(some 46),.mov (.t 11)⟩,
  ⟨(some (45,true)),(some 47),.len (.t 46)⟩,
  ⟨(some (45,true)),(some 48),.bin .gtr (.t 47) (.k (.int .i64 0))⟩,
  ⟨none,(some 49),.pick (.t 45) (.t 48) (.k (.bool false))⟩])
 (.cond (.t 49) .skip
 (.exit 0)))
 (.seq (.block 1 (.seq (.region false [⟨none,(some 13),.mov (.k .nils)⟩])
 (.seq (.seq (.region false [⟨none,(some 14),.mov (.k (.int .i64 0))⟩])
 (.block 2 (.loop zujz)))
 (.seq (.seq (.region false [⟨none,(some 128),.mov (.t 10)⟩,
  ⟨none,(some 129),.mov (.t 5)⟩,
  ⟨none,(some 130),.len (.t 129)⟩,
  ⟨none,(some 131),.mov (.t 7)⟩,
  ⟨none,(some 132),.len (.t 131)⟩,
  ⟨none,(some 133),.build [(.int .i64 0),(.int .i64 0),(.int .i64 0)] [(0,1,(.t 130)),(1,1,(.t 132)),(2,1,(.k (.int .i64 3)))]⟩,
  ⟨none,(some 134),.mlk false ((.bool false)) (.t 128) (.t 133)⟩])
 (.cond (.t 134) (.seq (.region false [⟨none,(some 4),.mov (.k (.bool true))⟩])
 .ret)
 .skip))
 (.region false [⟨none,(some 135),.mov (.t 13)⟩,
  ⟨none,(some 11),.mov (.t 135)⟩])))))
 (.region false [⟨none,(some 50),.mov (.t 12)⟩,
  ⟨none,(some 51),.bin .add (.t 50) (.k (.int .i64 1))⟩,
  ⟨none,(some 12),.mov (.t 51)⟩])))
def z3g7 (x5 x7 x9 x10 x11 x12:DV) (h:List AObj):St:=⟨js 5++[x5,.junk,x7,.junk,x9,x10,x11,x12]++js 123,h⟩
def a15:AFn where
 code:=(.seq (.region false [⟨none,(some 4),.mov (.k (.bool false))⟩])
 (.seq (.region false [⟨none,(some 19),.mov (.t 0)⟩,
  ⟨none,(some 20),.call (.k (.fn (.func 36) [] [])) [(.t 19)]⟩,
  ⟨none,(some 18),.mov (.t 20)⟩,
  ⟨none,(some 21),.ext (.t 18) 0⟩,
  ⟨none,(some 22),.ext (.t 18) 1⟩,
  ⟨none,(some 5),.mov (.t 21)⟩,
  ⟨none,(some 6),.mov (.t 22)⟩])
 (.seq (.region false [⟨none,(some 24),.mov (.t 1)⟩,
  ⟨none,(some 25),.call (.k (.fn (.func 36) [] [])) [(.t 24)]⟩,
  ⟨none,(some 23),.mov (.t 25)⟩,
  ⟨none,(some 26),.ext (.t 23) 0⟩,
  ⟨none,(some 27),.ext (.t 23) 1⟩,
  ⟨none,(some 7),.mov (.t 26)⟩,
  ⟨none,(some 8),.mov (.t 27)⟩])
 (.seq (.seq (.region false [⟨none,(some 28),.mov (.t 6)⟩,
  ⟨none,(some 29),.un .not (.t 28)⟩,
  ⟨none,(some 30),.mov (.t 29)⟩,
  ⟨(some (30,false)),(some 31),.mov (.t 8)⟩,
  ⟨(some (30,false)),(some 32),.un .not (.t 31)⟩,
  ⟨none,(some 33),.pick (.t 30) (.k (.bool true)) (.t 32)⟩])
 (.cond (.t 33) (.seq (.region false [⟨none,(some 4),.mov (.k (.bool false))⟩])
 .ret)
 .skip))
 (.seq (.region false [⟨none,(some 34),.mov (.t 0)⟩,
  ⟨none,(some 35),.mov (.t 1)⟩,
  ⟨none,(some 36),.call (.k (.fn (.func 37) [] [])) [(.t 34),(.t 35)]⟩,
  ⟨none,(some 9),.mov (.t 36)⟩])
 (.seq (.region false [⟨none,(some 37),.mkm⟩,
  ⟨none,(some 10),.mov (.t 37)⟩])
 (.seq (.region false [⟨none,(some 38),.mov (.t 10)⟩,
  ⟨none,(some 39),.build [(.int .i64 0),(.int .i64 0),(.int .i64 0)] [(0,1,(.k (.int .i64 0))),(1,1,(.k (.int .i64 0))),(2,1,(.k (.int .i64 0)))]⟩,
  ⟨none,(some 40),.mov (.t 5)⟩,
  ⟨none,(some 41),.mov (.t 7)⟩,
  ⟨none,(some 42),.call (.k (.fn (.func 38) [] [])) [(.k .nils),(.t 38),(.t 39),(.t 40),(.t 41)]⟩,
  ⟨none,(some 11),.mov (.t 42)⟩])
 (.seq (.seq (.region false [⟨none,(some 12),.mov (.k (.int .i64 0))⟩])
 (.block 0 (.loop zywk)))
 (.seq (.region false [⟨none,(some 4),.mov (.k (.bool false))⟩])
 .ret)))))))))
 ntmps:=136
 res:=[.tmp 4]
theorem zz37:zsjc P Tryd.f15=some a15:=by kernel_rfl
def a4:AFn where
 code:=(.seq (.region false [⟨none,(some 4),.mov (.k (.bool false))⟩])
 (.seq (.seq (.region false [⟨none,(some 7),.mov (.t 0)⟩,
  ⟨none,(some 8),.lenStr (.t 7)⟩,
  ⟨none,(some 9),.bin .gtr (.t 8) (.k (.int .i64 24))⟩,
  ⟨none,(some 10),.mov (.t 9)⟩,
  ⟨(some (10,false)),(some 11),.mov (.t 1)⟩,
  ⟨(some (10,false)),(some 12),.lenStr (.t 11)⟩,
  ⟨(some (10,false)),(some 13),.bin .gtr (.t 12) (.k (.int .i64 24))⟩,
  ⟨none,(some 14),.pick (.t 10) (.k (.bool true)) (.t 13)⟩])
 (.cond (.t 14) (.seq (.region false [⟨none,(some 4),.mov (.k (.bool true))⟩])
 .ret)
 .skip))
 (.seq (.region false [⟨none,(some 16),.mov (.t 0)⟩,
  ⟨none,(some 17),.mov (.t 1)⟩,
  ⟨none,(some 18),.call (.k (.fn (.func 14) [] [])) [(.t 16),(.t 17)]⟩,
  ⟨none,(some 15),.mov (.t 18)⟩,
  ⟨none,(some 19),.ext (.t 15) 0⟩,
  ⟨none,(some 20),.ext (.t 15) 1⟩,
  ⟨none,(some 5),.mov (.t 19)⟩,
  ⟨none,(some 6),.mov (.t 20)⟩])
 (.seq (.seq (.region false [⟨none,(some 21),.mov (.t 6)⟩,
  ⟨none,(some 22),.mov (.t 0)⟩,
  ⟨none,(some 23),.mov (.t 1)⟩,
  ⟨none,(some 24),.call (.k (.fn (.func 15) [] [])) [(.t 22),(.t 23)]⟩,
  ⟨none,(some 25),.eqb true (.t 21) (.t 24)⟩])
 (.cond (.t 25) (.seq (.region false [⟨none,(some 4),.mov (.k (.bool false))⟩])
 .ret)
 .skip))
 (.seq (.seq (.region false [⟨none,(some 26),.mov (.t 6)⟩,
  ⟨none,(some 27),.un .not (.t 26)⟩])
 (.cond (.t 27) (.seq (.region false [⟨none,(some 28),.call (.k (.fn (.func 16) [] [])) []⟩,
  ⟨none,(some 29),.mov (.t 28)⟩,
  ⟨(some (29,true)),(some 30),.mov (.t 5)⟩,
  ⟨(some (29,true)),(some 31),.bin .eql (.t 30) (.k (.str []))⟩,
  ⟨none,(some 32),.pick (.t 29) (.t 31) (.k (.bool false))⟩,
  ⟨none,(some 4),.mov (.t 32)⟩])
 .ret)
 .skip))
 (.seq (.region false [⟨none,(some 33),.call (.k (.fn (.func 16) [] [])) []⟩,
  ⟨none,(some 34),.mov (.t 33)⟩,
  ⟨(some (34,true)),(some 35),.mov (.t 0)⟩,
  ⟨(some (34,true)),(some 36),.mov (.t 5)⟩,
  ⟨(some (34,true)),(some 37),.call (.k (.fn (.func 17) [] [])) [(.t 35),(.t 36)]⟩,
  ⟨none,(some 38),.pick (.t 34) (.t 37) (.k (.bool false))⟩,
  ⟨none,(some 39),.mov (.t 38)⟩,
  ⟨(some (39,true)),(some 40),.mov (.t 1)⟩,
  ⟨(some (39,true)),(some 41),.mov (.t 5)⟩,
  ⟨(some (39,true)),(some 42),.call (.k (.fn (.func 17) [] [])) [(.t 40),(.t 41)]⟩,
  ⟨none,(some 43),.pick (.t 39) (.t 42) (.k (.bool false))⟩,
  ⟨none,(some 4),.mov (.t 43)⟩])
 .ret))))))
 ntmps:=44
 res:=[.tmp 4]
theorem zn8d:zsjc P Tryd.f4=some a4:=by kernel_rfl
end
section
set_option linter.unusedSimpArgs false
set_option linter.unusedVariables false
open Go Go.Am
theorem zpwu {a b c:ARes} {t:List DV} {h:List AObj}:outD [a,b,c] t h=(resD t h a).bind fun x=>(resD t h b).bind fun y=>(resD t h c).bind fun z=>snap h 3 (.tup [x,y,z]):=by
 simp only [outD,zxgc,zp5p,z2gc]
 cases resD t h a<;>cases resD t h b<;>cases resD t h c<;>rfl
attribute [simp] zpwu
def cS (g:List UInt8→DV):List DV→Option DV
 | [.str s]=>some (g s)|_=>none
def cSS (g:List UInt8→List UInt8→DV):List DV→Option DV
 | [.str s,.str p]=>some (g s p)|_=>none
def cS1 (g:List UInt8→UInt8→DV):List DV→Option DV
 | [.str s,.str [c]]=>some (g s c)|_=>none
def cS1b (g:List UInt8→UInt8→DV):List DV→Option DV
 | [.str s,.str [c]]=>if s.length≤100000 then some (g s c) else none|_=>none
def cSB (g:List UInt8→B8→DV):List DV→Option DV
 | [.str s,.int .u8 n]=>if 0≤n∧n<256 then some (g s (BitVec.ofInt 8 n)) else none|_=>none
theorem zk5k {g s}:cS g [.str s]=some (g s):=rfl
theorem z5o0 {g s p}:cSS g [.str s,.str p]=some (g s p):=rfl
theorem z8u6 {g s c}:cS1 g [.str s,.str [c]]=some (g s c):=rfl
theorem zutz {g s c} (h:s.length≤100000):cS1b g [.str s,.str [c]]=some (g s c):=if_pos h
theorem zexc (c:B8):BitVec.ofInt 8 (c.toNat:Int)=c:=by simp
theorem zvdo {g s c}:cSB g [.str s,w8 c]=some (g s c):=by
 have:=c.isLt
 show (if 0≤(c.toNat:Int)∧(c.toNat:Int)<256 then some (g s (BitVec.ofInt 8 (c.toNat:Int))) else none)=_
 rw [if_pos (by omega),zexc]
theorem zzn8 {f:Nat} {g:List UInt8→DV} (h : ∀ s,Am.Sem P f [.str s] (g s)):(Con.pure (cS g)).Sound P f:=by
 intro args v e
 unfold cS at e
 split at e
 ·simp at e; subst e; exact h _
 ·simp at e
theorem zd7v {f:Nat} {g:List UInt8→List UInt8→DV} (h : ∀ s p,Am.Sem P f [.str s,.str p] (g s p)):(Con.pure (cSS g)).Sound P f:=by
 intro args v e
 unfold cSS at e
 split at e
 ·simp at e; subst e; exact h _ _
 ·simp at e
theorem zpzi {f:Nat} {g:List UInt8→UInt8→DV} (h : ∀ s c,Am.Sem P f [.str s,.str [c]] (g s c)):(Con.pure (cS1 g)).Sound P f:=by
 intro args v e
 unfold cS1 at e
 split at e
 ·simp at e; subst e; exact h _ _
 ·simp at e
theorem zb66 {f:Nat} {g:List UInt8→UInt8→DV} (h : ∀ s c,s.length≤100000→Am.Sem P f [.str s,.str [c]] (g s c)):(Con.pure (cS1b g)).Sound P f:=by
 intro args v e
 unfold cS1b at e
 split at e
 ·split at e
  ·rename_i hl; simp at e; subst e; exact h _ _ hl
  ·simp at e
 ·simp at e
theorem zboo {f:Nat} {g:List UInt8→B8→DV} (h : ∀ s c,Am.Sem P f [.str s,w8 c] (g s c)):(Con.pure (cSB g)).Sound P f:=by
 intro args v e
 unfold cSB at e
 split at e
 ·rename_i s n
  split at e
  ·rename_i hn
   simp at e; subst e
   have:=h s (BitVec.ofInt 8 n)
   have e2:w8 (BitVec.ofInt 8 n) = .int .u8 n:=by
    unfold w8
    have:((BitVec.ofInt 8 n).toNat:Int)=n:=by rw [BitVec.toNat_ofInt]; simp; omega
    rw [this]
   rwa [e2] at this
  ·simp at e
 ·simp at e
def ixD (s:List UInt8) (c:B8):DV := .int .i64 (Lib.indexByte s c.toNat.toUInt8)
def ix1 (s:List UInt8) (c:UInt8):DV := .int .i64 (Lib.indexByte s c)
def T50:Tbl:=addT 74 (.pure (cSB ixD)) tbl0
theorem zbvx:T50 74 = .pure (cSB ixD):=by simp [T50]
theorem z3fz:T50.Sound P:=z0rp (zboo fun s c=>zrq5 Tryd.func74 (by kernel_rfl) (by kernel_rfl) (by kernel_rfl) (by kernel_rfl) s c) zr5o
theorem z4gm (s:List UInt8) (c:B8):Runs T50 a65 [.str s,w8 c] (ixD s c):=by
 refine ⟨?_⟩
 simp (disch:=first|omega|simp<;>omega|fail) [-zA,-zB,-zC,-zD,-zE,a65,zbvx,zvdo,ixD]
def T51:Tbl:=addT 65 (.pure (cSB ixD)) T50
theorem zqfn:T51 65 = .pure (cSB ixD):=by simp [T51]
theorem zw21:T51.Sound P:=z0rp (zboo fun s c=>zljw mix z3fz Tryd.func65 zh04 (z4gm s c)) z3fz
theorem zbfo (s:List UInt8) (c:B8):Runs T51 a51 [.str s,w8 c] (ixD s c):=by
 refine ⟨?_⟩
 simp (disch:=first|omega|simp<;>omega|fail) [-zA,-zB,-zC,-zD,-zE,a51,zqfn,zvdo,ixD]
theorem zunq (s:List UInt8) (c:UInt8):Runs T51 a75 [.str s,.str [c]] (ix1 s c):=by
 refine ⟨?_⟩
 by_cases h:[c]=s
 ·subst h
  simp (disch:=first|omega|simp<;>omega|fail) [-zA,-zB,-zC,-zD,-zE,a75,ix1,Lib.indexByte]
 ·simp (disch:=first|omega|simp<;>omega|fail) [-zA,-zB,-zC,-zD,-zE,a75,h,zqfn,zvdo,ixD,ix1,zq22]
def T52:Tbl:=addT 75 (.pure (cS1 ix1)) T51
theorem zcmd:T52 75 = .pure (cS1 ix1):=by simp [T52]
theorem zyuf:T52.Sound P:=z0rp (zpzi fun s c=>zljw mix zw21 Tryd.func75 zrvd (zunq s c)) zw21
theorem zazq (s:List UInt8) (c:UInt8):Runs T52 a73 [.str s,.str [c]] (ix1 s c):=by
 refine ⟨?_⟩
 simp (disch:=first|omega|simp<;>omega|fail) [-zA,-zB,-zC,-zD,-zE,a73,zcmd,z8u6,ix1]
def T53:Tbl:=addT 73 (.pure (cS1 ix1)) T52
theorem z69f:T53 73 = .pure (cS1 ix1):=by simp [T53]
theorem ztsk:T53.Sound P:=z0rp (zpzi fun s c=>zljw mix zyuf Tryd.func73 zn06 (zazq s c)) zyuf
def conD (s:List UInt8) (c:UInt8):DV := .bool (s.contains c)
theorem z0dc (c:UInt8) : ∀ (s:List UInt8),decide (0≤Lib.indexByte s c)=s.contains c
 | []=>rfl
 | b::s=>by
  have ih:=z0dc c s
  have hg:=Lib.indexByte_ge s c
  rw [z1q7]
  by_cases hb:b=c
  ·simp [hb]
  ·have hb':¬ c=b:=fun e=>hb e.symm
   rw [if_neg hb]
   by_cases hr:Lib.indexByte s c = -1
   ·simp [hr] at ih ⊢; exact ⟨hb',ih⟩
   ·have h0:0≤Lib.indexByte s c:=by omega
    have h1:0≤Lib.indexByte s c+1:=by omega
    simp [h0,hr,h1] at ih ⊢; exact .inr ih
theorem zuti (s:List UInt8) (c:UInt8):Runs T53 a64 [.str s,.str [c]] (conD s c):=by
 refine ⟨?_⟩
 have:0≤Lib.indexByte s c↔c ∈ s:=by simpa using z0dc c s
 simp (disch:=first|omega|simp<;>omega|fail) [-zA,-zB,-zC,-zD,-zE,a64,z69f,z8u6,ix1,conD,this]
def cutR (s:List UInt8) (c:UInt8):DV :=
 if Lib.indexByte s c = -1 then .tup [.str s,.str [],.bool false] else .tup [.str (s.take (Lib.indexByte s c).toNat),.str (s.drop ((Lib.indexByte s c).toNat+1)),.bool true]
theorem z4vy {s:List UInt8} {c:UInt8}:Lib.indexByte s c<s.length:=by
 have hg:=Lib.indexByte_ge s c
 by_cases h:Lib.indexByte s c = -1
 ·omega
 ·have:=z8bu (s:=s) (c:=c) (o:=(Lib.indexByte s c).toNat) (by omega)
  omega
theorem zubo (s:List UInt8) (c:UInt8) (hs:s.length≤100000):Runs T52 a66 [.str s,.str [c]] (cutR s c):=by
 refine ⟨?_⟩
 have hg:=Lib.indexByte_ge s c
 have hlt:=z4vy (s:=s) (c:=c)
 by_cases h:Lib.indexByte s c = -1
 ·simp (disch:=first|omega|simp<;>omega|fail) [-zA,-zB,-zC,-zD,-zE,a66,zcmd,z8u6,ix1,h,cutR]
 ·obtain ⟨o,ho⟩ : ∃ o:Nat,Lib.indexByte s c=o:=⟨(Lib.indexByte s c).toNat,by omega⟩
  rw [ho] at hlt
  have h0:(0:Int)≤o:=by omega
  have hn:¬ (o:Int) = -1:=by omega
  have ho1:o≤s.length:=by omega
  have ho2:o+1≤s.length:=by omega
  have ho3:(o:Int)+1≤s.length:=by omega
  have e1:((o:Int)+1).toNat=o+1:=by omega
  have ht:(s.drop (o+1)).take (s.length-(o+1))=s.drop (o+1):=y07 (by simp)
  simp (disch:=first|omega|simp<;>omega|fail) [-zA,-zB,-zC,-zD,-zE,a66,zcmd,z8u6,ix1,ho,h0,hn,ho1,ho2,ho3,e1,ht,cutR]
def T54:Tbl:=addT 66 (.pure (cS1b cutR)) tbl0
theorem zjck:T54 66 = .pure (cS1b cutR):=by simp [T54]
theorem zjvy:T54.Sound P:=z0rp (zb66 fun s c h=>zljw mix zyuf Tryd.func66 z3a6 (zubo s c h)) zr5o
theorem zmgr (s:List UInt8) (c:UInt8) (hs:s.length≤100000):Runs T54 a52 [.str s,.str [c]] (cutR s c):=by
 refine ⟨?_⟩
 by_cases h:Lib.indexByte s c = -1
 ·simp (disch:=first|omega|simp<;>omega|fail) [-zA,-zB,-zC,-zD,-zE,a52,zjck,zutz hs,cutR,h]
 ·simp (disch:=first|omega|simp<;>omega|fail) [-zA,-zB,-zC,-zD,-zE,a52,zjck,zutz hs,cutR,h]
end
section
set_option linter.unusedSimpArgs false
set_option linter.unusedVariables false
open Go Go.Am
def za1j (s:List UInt8):DV := .bool (zj1f s)
def T57:Tbl:=addT 51 (.pure (cSB ixD)) (addT 52 (.pure (cS1b cutR)) tbl0)
theorem zogw:T57 51 = .pure (cSB ixD):=by simp [T57]
theorem zhm1:T57 52 = .pure (cS1b cutR):=by simp [T57]
theorem zhpa:T57.Sound P:=z0rp (zboo fun s c=>zljw mix zw21 Tryd.func51 z8rx (zbfo s c)) (z0rp (zb66 fun s c h=>zljw mix zjvy Tryd.func52 zil0 (zmgr s c h)) zr5o)
theorem ixD0 (s:List UInt8):cSB ixD [.str s,w8 0#8]=some (.int .i64 (Lib.indexByte s 0)):=zvdo
theorem zy3p {s:List UInt8} (h:Lib.indexByte s 0 ≠ -1):0≤Lib.indexByte s 0:=by have:=Lib.indexByte_ge s 0; omega
theorem zk50 {s:List UInt8} (h:Lib.indexByte s 0 = -1):noZ s=true:=by rw [zc5k,h]; rfl
theorem z5fc {s:List UInt8} (h:Lib.indexByte s 0 ≠ -1):noZ s=false:=by rw [zc5k]; simp [h]
def S9 (x:List UInt8 × Bool):St:=zben (.str x.1) (.bool x.2) []
def m9 (x:List UInt8 × Bool):Nat:=x.1.length+(if x.2=true then 1 else 0)
def R9 (s:List UInt8) (x:List UInt8 × Bool):Prop:=x.1.length≤200∧(x.2=true→zj1f s=(z2fg x.1).all okC)∧(x.2=false→zj1f s=true)
theorem zqqw (s:List UInt8):Runs T57 a24 [.str s] (za1j s):=by
 refine ⟨?_⟩
 by_cases h1:s.length<1
 ·have h1':(s.length:Int)<1:=by omega
  have hp:zj1f s=false:=by simp [zj1f]; omega
  simp (disch:=first|omega|simp<;>omega|fail) [-zA,-zB,-zC,-zD,-zE,a24,h1',za1j,hp]
 have h1':¬ (s.length:Int)<1:=by omega
 by_cases h2:200<s.length
 ·have h2':(200:Int)<s.length:=by omega
  have hp:zj1f s=false:=by simp [zj1f]; omega
  simp (disch:=first|omega|simp<;>omega|fail) [-zA,-zB,-zC,-zD,-zE,a24,h1',h2',za1j,hp]
 have h2':¬ (200:Int)<s.length:=by omega
 by_cases h3:Lib.indexByte s 0 = -1
 case neg =>
  have h3':=zy3p h3
  have hp:zj1f s=false:=by simp [zj1f,z5fc h3]
  simp (disch:=first|omega|simp<;>omega|fail) [-zA,-zB,-zC,-zD,-zE,a24,h1',h2',zogw,ixD0,h3',za1j,hp]
 have hp:zj1f s=(z2fg s).all okC:=by
  have g1:1≤s.length:=by omega
  have g2:s.length≤200:=by omega
  simp only [zj1f,g1,g2,zk50 h3,decide_true,y0i]
 simp (disch:=first|omega|simp<;>omega|fail) [-zA,-zB,-zC,-zD,-zE,a24,h1',h2',zogw,ixD0,h3]
 refine zlm5 S9 m9 (R9 s) (s,true) (z515 (by simp (disch:=first|omega|simp<;>omega|fail) [-zA,-zB,-zC,-zD,-zE]) (by simp (disch:=first|omega|simp<;>omega|fail) [-zA,-zB,-zC,-zD,-zE])) ⟨by show s.length≤200; omega,fun _=>hp,by simp⟩ (fun x hx => ?_)
 obtain ⟨r,more⟩:=x
 obtain ⟨hr,ha,hb⟩:=hx
 simp only at hr ha hb
 simp (disch:=first|omega|simp<;>omega|fail) [-zA,-zB,-zC,-zD,-zE,zqw7,zben,S9]
 cases more with
 | false =>
  have hb:=hb rfl
  simp (disch:=first|omega|simp<;>omega|fail) [-zA,-zB,-zC,-zD,-zE,za1j,hb]
 | true =>
  have ha:=ha rfl
  have hc:=zutz (g:=cutR) (s:=r) (c:=47) (by omega)
  by_cases hi:Lib.indexByte r 47 = -1
  ·rw [cutR,if_pos hi] at hc
   rw [zbf3 hi] at ha
   by_cases e1:r=[]
   ·have hq:zj1f s=false:=by rw [ha,e1]; rfl
    subst e1
    simp (disch:=first|omega|simp<;>omega|fail) [-zA,-zB,-zC,-zD,-zE,zhm1,hc,za1j,hq]
   ·by_cases e2:r=[46]
    ·have hq:zj1f s=false:=by rw [ha,e2]; rfl
     subst e2
     simp (disch:=first|omega|simp<;>omega|fail) [-zA,-zB,-zC,-zD,-zE,zhm1,hc,za1j,hq]
    ·by_cases e3:r=[46,46]
     ·have hq:zj1f s=false:=by rw [ha,e3]; rfl
      subst e3
      simp (disch:=first|omega|simp<;>omega|fail) [-zA,-zB,-zC,-zD,-zE,zhm1,hc,za1j,hq]
     ·have hq:zj1f s=true:=by rw [ha]; simp [okC,e1,e2,e3]
      simp (disch:=first|omega|simp<;>omega|fail) [-zA,-zB,-zC,-zD,-zE,zhm1,hc,e1,e2,e3]
      exact ⟨[],.inl ⟨z515 (by simp (disch:=first|omega|simp<;>omega|fail) [-zA,-zB,-zC,-zD,-zE]) (by simp (disch:=first|omega|simp<;>omega|fail) [-zA,-zB,-zC,-zD,-zE]),by simp [m9],by simp [R9,hq]⟩⟩
  ·obtain ⟨o,ho⟩ : ∃ o:Nat,Lib.indexByte r 47=o:=⟨(Lib.indexByte r 47).toNat,by have:=Lib.indexByte_ge r 47; omega⟩
   have hlt:=z8bu ho
   rw [cutR,if_neg hi,ho] at hc
   rw [zjoj ho] at ha
   simp only [Int.toNat_natCast] at hc
   obtain ⟨y,hy⟩ : ∃ y,r.take o=y:=⟨_,rfl⟩
   rw [hy] at hc ha
   by_cases e1:y=[]
   ·have hq:zj1f s=false:=by rw [ha,e1]; rfl
    subst e1
    simp (disch:=first|omega|simp<;>omega|fail) [-zA,-zB,-zC,-zD,-zE,zhm1,hc,za1j,hq]
   ·by_cases e2:y=[46]
    ·have hq:zj1f s=false:=by rw [ha,e2]; rfl
     subst e2
     simp (disch:=first|omega|simp<;>omega|fail) [-zA,-zB,-zC,-zD,-zE,zhm1,hc,za1j,hq]
    ·by_cases e3:y=[46,46]
     ·have hq:zj1f s=false:=by rw [ha,e3]; rfl
      subst e3
      simp (disch:=first|omega|simp<;>omega|fail) [-zA,-zB,-zC,-zD,-zE,zhm1,hc,za1j,hq]
     ·have hq:zj1f s=(z2fg (r.drop (o+1))).all okC:=by rw [ha]; simp [okC,e1,e2,e3]
      simp (disch:=first|omega|simp<;>omega|fail) [-zA,-zB,-zC,-zD,-zE,zhm1,hc,e1,e2,e3]
      exact ⟨r.drop (o+1),.inr ⟨z515 (by simp (disch:=first|omega|simp<;>omega|fail) [-zA,-zB,-zC,-zD,-zE]) (by simp (disch:=first|omega|simp<;>omega|fail) [-zA,-zB,-zC,-zD,-zE]),by simp [m9]; omega,by simp only [List.length_drop]; omega,fun _=>hq,by simp⟩⟩
end
section
set_option linter.unusedSimpArgs false
set_option linter.unusedVariables false
open Go Go.Am
def ptC (x:Pt):List DV:=[.int .i64 x.kind,w8 x.chr]
def z6j5 (l:List Pt):List DV:=l.flatMap ptC
theorem z4u6 : ∀ (l:List Pt),(z6j5 l).length=2*l.length
 | []=>rfl
 | x::l=>by have:=z4u6 l; simp only [z6j5,y06,y0c,ptC,y08,List.length_nil] at *; omega
theorem zip6 (l:List Pt) (x:Pt):z6j5 (l++[x])=z6j5 l++ptC x:=by simp [z6j5]
theorem zbvb {l:List Pt} (h:l≠[]):z6j5 l≠[]:=by
 intro e
 have:=z4u6 l
 rw [e] at this
 have:l.length=0:=by simp at this; omega
 exact h (List.length_eq_zero_iff.1 this)
theorem zcb5 : ∀ (l:List Pt),zbao (z6j5 l)=true
 | []=>rfl
 | x::l=>by
  have:=zcb5 l
  simp only [z6j5,y06,ptC,y09,List.nil_append] at this ⊢
  simp [zbao,this,zyp8,w8]
theorem zyoh (h:List AObj) (k:Nat) (l:List Pt):z4tt h k (z6j5 l)=some (z6j5 l):=z619 (zcb5 l)
theorem zmw4 {c:UInt8} (h1:c≠92) (h2:c≠42) (h3:c≠63) (r:List UInt8):prs (c::r)=(prs r).map fun l => .one c.toBitVec::l:=zbr2 h1 h2 h3 r
theorem z28c (r:List UInt8):prs (63::r)=(prs r).map fun l => .dot::l:=by rw [prs.eq_def]; simp
theorem zt8b:prs [92]=none:=rfl
theorem zkwm:prs [42] = .some [.some]:=rfl
theorem zqqt (r:List UInt8):prs (42::42::r)=(prs r).map fun l => .whole::l:=by rw [prs.eq_def]; simp
theorem zpjv {d:UInt8} (h:d≠42) (r:List UInt8):prs (42::d::r)=(prs (d::r)).map fun l => .some::l:=by
 have g:d.toBitVec≠42#8:=zejk h
 rw [prs.eq_def]; simp [g]
def zoby:Option (List Pt)→DV
 | none => .tup [.nils,.bool false]
 | .some l => .tup [.sl false 2 l.length (z6j5 l),.bool true]
theorem zfht {s:List UInt8} {l:List Pt} (h0:s≠[]) (h:prs s = .some l):l≠[]:=by
 rintro rfl
 match s,h0 with
 | c::r,_ =>
  by_cases h1:c=92
  ·subst h1
   match r with
   | []=>simp [zt8b] at h
   | d::r=>rw [z32i] at h; cases e:prs r<;>simp [e] at h
  ·by_cases h2:c=42
   ·subst h2
    match r with
    | []=>simp [zkwm] at h
    | d::r =>
     by_cases h3:d=42
     ·subst h3; rw [zqqt] at h; cases e:prs r<;>simp [e] at h
     ·rw [zpjv h3] at h; cases e:prs (d::r)<;>simp [e] at h
   ·by_cases h3:c=63
    ·subst h3; rw [z28c] at h; cases e:prs r<;>simp [e] at h
    ·rw [zmw4 h1 h2 h3] at h; cases e:prs r<;>simp [e] at h
structure X15 where
 l:List Pt
 i:Nat
def S15 (p:List UInt8) (x:X15):St:=z8ja (.str p) (ownD 0 2 .nils x.l.length (z6j5 x.l)) (.int .i64 x.i) (ownH (z6j5 x.l))
def m15 (p:List UInt8) (x:X15):Nat:=p.length-x.i
def R15 (p:List UInt8) (x:X15):Prop:=x.i≤p.length∧x.l.length≤x.i∧prs p=(prs (p.drop x.i)).map fun l=>x.l++l
theorem zq8c {p:List UInt8} {x:X15} (h:R15 p x) {n:Nat} {y:Pt} (hn:x.i<n) (hn':n≤p.length) (e:prs (p.drop x.i)=(prs (p.drop n)).map fun l=>y::l):R15 p ⟨x.l++[y],n⟩:=by
 obtain ⟨h1,h2,h3⟩:=h
 refine ⟨hn',by simp; omega,?_⟩
 rw [h3,e]
 cases prs (p.drop n)<;>simp
theorem zw4m {c:UInt8} {n:UInt8}:c.toBitVec=n.toBitVec↔c=n:=UInt8.toBitVec_inj
theorem z9ia {k:Int}:zvnk [.int .i64 0,w8 0#8] [(0,1,.int .i64 k)]=some (.agg [.int .i64 k,w8 0#8]):=rfl
theorem ztmv (p:List UInt8):Runs T57 a32 [.str p] (zoby (zfn1 p)):=by
 refine ⟨?_⟩
 by_cases h1:p.length<1
 ·have h1':(p.length:Int)<1:=by omega
  have hp:zfn1 p=none:=by rw [zfn1,if_neg (by omega)]
  simp (disch:=first|omega|simp<;>omega|fail) [-zA,-zB,-zC,-zD,-zE,a32,h1',hp,zoby]
 have h1':¬ (p.length:Int)<1:=by omega
 by_cases h2:200<p.length
 ·have h2':(200:Int)<p.length:=by omega
  have hp:zfn1 p=none:=by rw [zfn1,if_neg (by omega)]
  simp (disch:=first|omega|simp<;>omega|fail) [-zA,-zB,-zC,-zD,-zE,a32,h1',h2',hp,zoby]
 have h2':¬ (200:Int)<p.length:=by omega
 by_cases h3:Lib.indexByte p 0 = -1
 case neg =>
  have h3':=zy3p h3
  have hp:zfn1 p=none:=by rw [zfn1,if_neg (by rw [z5fc h3]; simp)]
  simp (disch:=first|omega|simp<;>omega|fail) [-zA,-zB,-zC,-zD,-zE,a32,h1',h2',zogw,ixD0,h3',hp,zoby]
 have hp:zfn1 p=prs p:=by rw [zfn1,if_pos ⟨by omega,by omega,zk50 h3⟩]
 simp (disch:=first|omega|simp<;>omega|fail) [-zA,-zB,-zC,-zD,-zE,a32,h1',h2',zogw,ixD0,h3]
 refine zlm5 (S15 p) (m15 p) (R15 p) ⟨[],0⟩ (z515 (by simp (disch:=first|omega|simp<;>omega|fail) [-zA,-zB,-zC,-zD,-zE,ownD,z6j5]) (by simp (disch:=first|omega|simp<;>omega|fail) [-zA,-zB,-zC,-zD,-zE,ownH,z6j5])) ⟨by simp,by simp,by simp⟩ (fun x hx => ?_)
 obtain ⟨l,i⟩:=x
 have hx':=hx
 obtain ⟨hi,hl,hpr⟩:=hx'
 simp only at hi hl hpr
 have hlen:=z4u6 l
 simp (disch:=first|omega|simp<;>omega|fail) [-zA,-zB,-zC,-zD,-zE,zx0e,z8ja,S15]
 by_cases h:i<p.length
 ·have h4:(i:Int)<p.length:=by omega
  have hd:p.drop i=p[i]::p.drop (i+1):=y05 h
  have e12:(i:Int)+1+1=i+2:=by omega
  by_cases c1:p[i]=92
  ·have b1:p[i].toBitVec=92#8:=zw4m.2 c1
   have b1q:(p[i].toBitVec == 92#8)=true:=by simp [b1]
   by_cases h5:i+1=p.length
   ·have h5':(i:Int)+1=p.length:=by omega
    have hq:prs p=none:=by rw [hpr,hd,c1,y0g (by omega),zt8b]; rfl
    simp (disch:=first|omega|simp<;>omega|fail) [-zA,-zB,-zC,-zD,-zE,z9ia,h4,h,b1,b1q,h5',hp,hq,zoby]
   ·have h5':¬ (i:Int)+1=p.length:=by omega
    have h6:i+1<p.length:=by omega
    have hd2:p.drop (i+1)=p[i+1]::p.drop (i+2):=y05 h6
    have hs:=zq8c (n:=i+2) (y := .one p[i+1].toBitVec) hx (by simp) (by omega) (by show prs (p.drop i)=_; rw [hd,hd2,c1,z32i])
    simp (disch:=first|omega|simp<;>omega|fail) [-zA,-zB,-zC,-zD,-zE,z9ia,h4,h,b1,b1q,h5',h6,hlen,e12]
    exact ⟨⟨l++[.one p[i+1].toBitVec],i+2⟩,z515 (by simp (disch:=first|omega|simp<;>omega|fail) [-zA,-zB,-zC,-zD,-zE,e12,zip6,ptC,Pt.kind,Pt.chr]) (by simp (disch:=first|omega|simp<;>omega|fail) [-zA,-zB,-zC,-zD,-zE,zip6,ptC,Pt.kind,Pt.chr]),by simp [m15]; omega,hs⟩
  ·have b1:¬ p[i].toBitVec=92#8:=fun e=>c1 (zw4m.1 e)
   have b1q:(p[i].toBitVec == 92#8)=false:=by simp [b1]
   by_cases c2:p[i]=63
   ·have b2:p[i].toBitVec=63#8:=zw4m.2 c2
    have b2q:(p[i].toBitVec == 63#8)=true:=by simp [b2]
    have hs:=zq8c (n:=i+1) (y := .dot) hx (by simp) (by omega) (by show prs (p.drop i)=_; rw [hd,c2,z28c])
    simp (disch:=first|omega|simp<;>omega|fail) [-zA,-zB,-zC,-zD,-zE,z9ia,h4,h,b1,b1q,b2,b2q,hlen]
    exact ⟨⟨l++[.dot],i+1⟩,z515 (by simp (disch:=first|omega|simp<;>omega|fail) [-zA,-zB,-zC,-zD,-zE,e12,zip6,ptC,Pt.kind,Pt.chr]) (by simp (disch:=first|omega|simp<;>omega|fail) [-zA,-zB,-zC,-zD,-zE,zip6,ptC,Pt.kind,Pt.chr]),by simp [m15]; omega,hs⟩
   ·have b2:¬ p[i].toBitVec=63#8:=fun e=>c2 (zw4m.1 e)
    have b2q:(p[i].toBitVec == 63#8)=false:=by simp [b2]
    by_cases c3:p[i]=42
    ·have b3:p[i].toBitVec=42#8:=zw4m.2 c3
     have b3q:(p[i].toBitVec == 42#8)=true:=by simp [b3]
     by_cases h6:i+1<p.length
     ·have h6':(i:Int)+1<p.length:=by omega
      have hd2:p.drop (i+1)=p[i+1]::p.drop (i+2):=y05 h6
      by_cases c4:p[i+1]=42
      ·have b4:p[i+1].toBitVec=42#8:=zw4m.2 c4
       have b4q:(p[i+1].toBitVec == 42#8)=true:=by simp [b4]
       have hs:=zq8c (n:=i+2) (y := .whole) hx (by simp) (by omega) (by show prs (p.drop i)=_; rw [hd,hd2,c3,c4,zqqt])
       simp (disch:=first|omega|simp<;>omega|fail) [-zA,-zB,-zC,-zD,-zE,z9ia,h4,h,b1,b1q,b2,b2q,b3,b3q,h6,h6',b4,b4q,hlen,e12]
       exact ⟨⟨l++[.whole],i+2⟩,z515 (by simp (disch:=first|omega|simp<;>omega|fail) [-zA,-zB,-zC,-zD,-zE,e12,zip6,ptC,Pt.kind,Pt.chr]) (by simp (disch:=first|omega|simp<;>omega|fail) [-zA,-zB,-zC,-zD,-zE,zip6,ptC,Pt.kind,Pt.chr]),by simp [m15]; omega,hs⟩
      ·have b4:¬ p[i+1].toBitVec=42#8:=fun e=>c4 (zw4m.1 e)
       have b4q:(p[i+1].toBitVec == 42#8)=false:=by simp [b4]
       have hs:=zq8c (n:=i+1) (y := .some) hx (by simp) (by omega) (by show prs (p.drop i)=_; rw [hd,hd2,c3,zpjv c4])
       simp (disch:=first|omega|simp<;>omega|fail) [-zA,-zB,-zC,-zD,-zE,z9ia,h4,h,b1,b1q,b2,b2q,b3,b3q,h6,h6',b4,b4q,hlen,e12]
       exact ⟨⟨l++[.some],i+1⟩,z515 (by simp (disch:=first|omega|simp<;>omega|fail) [-zA,-zB,-zC,-zD,-zE,e12,zip6,ptC,Pt.kind,Pt.chr]) (by simp (disch:=first|omega|simp<;>omega|fail) [-zA,-zB,-zC,-zD,-zE,zip6,ptC,Pt.kind,Pt.chr]),by simp [m15]; omega,hs⟩
     ·have h6':¬ (i:Int)+1<p.length:=by omega
      have hs:=zq8c (n:=i+1) (y := .some) hx (by simp) (by omega) (by show prs (p.drop i)=_; rw [hd,c3,y0g (by omega),zkwm]; rfl)
      simp (disch:=first|omega|simp<;>omega|fail) [-zA,-zB,-zC,-zD,-zE,z9ia,h4,h,b1,b1q,b2,b2q,b3,b3q,h6',hlen]
      exact ⟨⟨l++[.some],i+1⟩,z515 (by simp (disch:=first|omega|simp<;>omega|fail) [-zA,-zB,-zC,-zD,-zE,e12,zip6,ptC,Pt.kind,Pt.chr]) (by simp (disch:=first|omega|simp<;>omega|fail) [-zA,-zB,-zC,-zD,-zE,zip6,ptC,Pt.kind,Pt.chr]),by simp [m15]; omega,hs⟩
    ·have b3:¬ p[i].toBitVec=42#8:=fun e=>c3 (zw4m.1 e)
     have b3q:(p[i].toBitVec == 42#8)=false:=by simp [b3]
     have hs:=zq8c (n:=i+1) (y := .one p[i].toBitVec) hx (by simp) (by omega) (by show prs (p.drop i)=_; rw [hd,zmw4 c1 c3 c2])
     simp (disch:=first|omega|simp<;>omega|fail) [-zA,-zB,-zC,-zD,-zE,z9ia,h4,h,b1,b1q,b2,b2q,b3,b3q,hlen]
     exact ⟨⟨l++[.one p[i].toBitVec],i+1⟩,z515 (by simp (disch:=first|omega|simp<;>omega|fail) [-zA,-zB,-zC,-zD,-zE,e12,zip6,ptC,Pt.kind,Pt.chr]) (by simp (disch:=first|omega|simp<;>omega|fail) [-zA,-zB,-zC,-zD,-zE,zip6,ptC,Pt.kind,Pt.chr]),by simp [m15]; omega,hs⟩
 ·have h4:¬ (i:Int)<p.length:=by omega
  obtain rfl:i=p.length:=by omega
  rw [List.drop_length] at hpr
  have hq:prs p = .some l:=by rw [hpr]; simp [prs]
  have hne:=zfht (by intro e; rw [e] at h1; simp at h1) hq
  have ht:(z6j5 l).take (l.length*2)=z6j5 l:=y07 (by omega)
  simp (disch:=first|omega|simp<;>omega|fail) [-zA,-zB,-zC,-zD,-zE,h4,z8l3 (zbvb hne),zpgk (zbvb hne),hp,hq,zoby,ht,zyoh,hlen]
def z8r4 (p:List UInt8):DV:=zoby (zfn1 p)
def zqvz (x:Pt):DV:=match x with
 | .one c => .fn (.func 70) [] [.ref [.int .i64 0,w8 c]]
 | .whole => .fn (.func 71) [] []
 | _ => .fn (.func 72) [] []
theorem z7ww {h:List AObj} {k:Nat} {f:Fn} {x:DV}:snap h (k+1) (.fn f [] [x])=(snap h (k+1) x).map fun y => .fn f [] [y]:=by
 simp only [snap,zcxt,zoyo]
 cases zcxt _ x<;>rfl
theorem zvvi {h:List AObj} {k:Nat} {f:Fn}:snap h k (.fn f [] [])=some (.fn f [] []):=by cases k<;>rfl
theorem z2em (x:Pt):Runs tbl0 a63 [.agg (ptC x)] (zqvz x):=by
 refine ⟨?_⟩
 cases x with
 | one c=>simp (disch:=first|omega|simp<;>omega|fail) [-zA,-zB,-zC,-zD,-zE,a63,ptC,Pt.kind,Pt.chr,zqvz,z7ww,zvvi]
 | dot=>simp (disch:=first|omega|simp<;>omega|fail) [-zA,-zB,-zC,-zD,-zE,a63,ptC,Pt.kind,Pt.chr,zqvz,z7ww,zvvi]
 | some=>simp (disch:=first|omega|simp<;>omega|fail) [-zA,-zB,-zC,-zD,-zE,a63,ptC,Pt.kind,Pt.chr,zqvz,z7ww,zvvi]
 | whole=>simp (disch:=first|omega|simp<;>omega|fail) [-zA,-zB,-zC,-zD,-zE,a63,ptC,Pt.kind,Pt.chr,zqvz,z7ww,zvvi]
theorem z439 (x:Pt):Runs tbl0 a61 [.agg (ptC x)] (.bool x.long):=by
 refine ⟨?_⟩
 cases x with
 | one c=>simp (disch:=first|omega|simp<;>omega|fail) [-zA,-zB,-zC,-zD,-zE,a61,ptC,Pt.kind,Pt.chr,Pt.long]
 | dot=>simp (disch:=first|omega|simp<;>omega|fail) [-zA,-zB,-zC,-zD,-zE,a61,ptC,Pt.kind,Pt.chr,Pt.long]
 | some=>simp (disch:=first|omega|simp<;>omega|fail) [-zA,-zB,-zC,-zD,-zE,a61,ptC,Pt.kind,Pt.chr,Pt.long]
 | whole=>simp (disch:=first|omega|simp<;>omega|fail) [-zA,-zB,-zC,-zD,-zE,a61,ptC,Pt.kind,Pt.chr,Pt.long]
theorem zakd (b c:B8):Runs tbl0 a70 [w8 b,.ref [.int .i64 0,w8 c]] (.bool (b == c)):=by
 refine ⟨?_⟩
 simp (disch:=first|omega|simp<;>omega|fail) [-zA,-zB,-zC,-zD,-zE,a70]
theorem zl0d (b:B8):Runs tbl0 a71 [w8 b] (.bool true):=by
 refine ⟨?_⟩
 simp (disch:=first|omega|simp<;>omega|fail) [-zA,-zB,-zC,-zD,-zE,a71]
theorem zacs (b:B8):Runs tbl0 a72 [w8 b] (.bool (b != 47#8)):=by
 refine ⟨?_⟩
 simp (disch:=first|omega|simp<;>omega|fail) [-zA,-zB,-zC,-zD,-zE,a72]
end
section
set_option linter.unusedSimpArgs false
set_option linter.unusedVariables false
open Go Go.Am
abbrev Q:=Nat × Nat × Nat
abbrev Stp:=Q × B8
def qC (x:Q):List DV:=[.int .i64 x.1,.int .i64 x.2.1,.int .i64 x.2.2]
def qK (x:Q):List Int:=[x.1,x.2.1,x.2.2]
def stC (s:Stp):List DV:=[.int .i64 s.1.1,.int .i64 s.1.2.1,.int .i64 s.1.2.2,w8 s.2]
def mvS (s:Stp):MV := .agg [.int .i64 s.1.1,.int .i64 s.1.2.1,.int .i64 s.1.2.2,.int .u8 s.2.toNat]
abbrev Came:=List (Q × Stp)
def cM (C:Came):MapD:=C.map fun e=>(qK e.1,mvS e.2)
def sM (C:Came):MapD:=C.map fun e=>(qK e.1,.one (.bool true))
def getC:Came→Q→Option Stp
 | [],_=>none
 | (y,s)::r,x=>if y=x then some s else getC r x
theorem z6dq {x y:Q}:qK x=qK y↔x=y:=by
 obtain ⟨a,b,c⟩:=x
 obtain ⟨d,e,f⟩:=y
 simp only [qK,List.cons.injEq,Prod.mk.injEq,and_true]
 omega
theorem zsqh : ∀ (C:Came) (x:Q),zqrh (cM C) (qK x)=(getC C x).map mvS
 | [],_=>rfl
 | (y,s)::r,x=>by
  have ih:=zsqh r x
  simp only [cM,List.map_cons,zqrh,getC,z6dq] at ih ⊢
  by_cases e:y=x
  ·simp [e]
  ·rw [if_neg e,if_neg e]; exact ih
theorem zlaq : ∀ (C:Came) (x:Q),zqrh (sM C) (qK x)=(getC C x).map fun _ => .one (.bool true)
 | [],_=>rfl
 | (y,s)::r,x=>by
  have ih:=zlaq r x
  simp only [sM,List.map_cons,zqrh,getC,z6dq] at ih ⊢
  by_cases e:y=x
  ·simp [e]
  ·rw [if_neg e,if_neg e]; exact ih
theorem zbb3 (s:Stp):(mvS s).dv = .agg (stC s):=rfl
theorem zt3q (C:Came) (x:Q) (s:Stp):cM C++[(qK x,mvS s)]=cM (C++[(x,s)]):=by simp [cM]
theorem z4mz (C:Came) (x:Q) (s:Stp):sM C++[(qK x,.one (.bool true))]=sM (C++[(x,s)]):=by simp [sM]
def lC (L:List Q):List DV:=L.flatMap qC
theorem zsql : ∀ (L:List Q),(lC L).length=L.length*3
 | []=>rfl
 | x::L=>by
  have:=zsql L
  simp only [lC,y06,y0c,y08] at this ⊢
  rw [this]; simp [qC]; omega
theorem zh5g (L:List Q) (x:Q):lC (L++[x])=lC L++qC x:=by simp [lC]
def lV (G:Nat) (L:List Q):DV:=if L=[] then .nils else .ms G (L.length*3) 0 3 L.length (L.length*3)
theorem zg8e {G:Nat}:lV G [] = .nils:=rfl
theorem zi7d {G:Nat} {L:List Q} (h:L≠[]):lV G L = .ms G (L.length*3) 0 3 L.length (L.length*3):=if_neg h
theorem zdcc {G:Nat} {L:List Q}:(lV G L).one=true:=by unfold lV; split<;>rfl
theorem z566 {G:Nat} {L:List Q}:(lV G L).cells=[lV G L]:=by unfold lV; split<;>rfl
theorem zrk1 {G:Nat} {L:List Q}:(lV G L).known=true:=by unfold lV; split<;>rfl
attribute [simp] zdcc z566 zrk1
def lA (h:List AObj) (G:Nat) (L:List Q) (x:Q):List AObj:=if L=[] then h++[.cells (qC x)] else h.set G (.cells (lC (L++[x])))
def lG (h:List AObj) (G:Nat) (L:List Q):Nat:=if L=[] then h.length else G
theorem zh68 {h:List AObj} {G:Nat} {L:List Q} {x:Q} (ho:L≠[]→ziu0 h G=some (lC L)) (hn:L.length≤1000000) :
  appX h 3 24 (lV G L) 1 (qC x)=some (lV (lG h G L) (L++[x]),lA h G L x):=by
 by_cases e:L=[]
 ·subst e
  rw [zg8e,zsuq (by omega) (by omega) (by simp [qC]) (by omega) (by omega),zi7d (by simp)]
  simp [lG,lA,qC]
 ·rw [zi7d e,zbho rfl (by omega) (by omega) (by simp [qC]) (by omega) (by simp [qC]),zw28 (ho e) (zsql L),zi7d (by simp)]
  have e3:L.length*3+(qC x).length=(L++[x]).length*3:=by simp [qC]; omega
  simp only [Option.map_some,lG,lA,if_neg e,zh5g,e3]
  simp
theorem zajq : ∀ (h:List AObj) (b:Nat) (m:MapD),(zn2r h b m).length=h.length
 | [],_,_=>rfl
 | .mapo b' n::r,b,m=>by
  simp only [zn2r]; split
  ·rfl
  ·simp [zajq r b m]
 | .cells c::r,b,m=>by simp [zn2r,zajq r b m]
 | .dead::r,b,m=>by simp [zn2r,zajq r b m]
theorem zgk8 : ∀ (h:List AObj) (b:Nat) (m:MapD) (i:Nat),ziu0 (zn2r h b m) i=ziu0 h i
 | [],_,_,_=>rfl
 | .mapo b' n::r,b,m,i=>by
  simp only [zn2r]; split
  ·cases i<;>rfl
  ·cases i with
   | zero=>rfl
   | succ i=>exact zgk8 r b m i
 | .cells c::r,b,m,i=>by
  cases i with
  | zero=>rfl
  | succ i=>exact zgk8 r b m i
 | .dead::r,b,m,i=>by
  cases i with
  | zero=>rfl
  | succ i=>exact zgk8 r b m i
theorem zhoh : ∀ {h:List AObj} {b:Nat} {n:MapD} (m:MapD),zfel h b=some n→zfel (zn2r h b m) b=some m
 | [],_,_,_,e=>by simp [zfel] at e
 | .mapo b' n::r,b,_,m,e=>by
  simp only [zfel] at e
  simp only [zn2r]
  split
  ·simp [zfel]
  ·rename_i q
   rw [if_neg q] at e
   simp only [zfel,if_neg q]
   exact zhoh m e
 | .cells c::r,b,_,m,e=>by simp only [zn2r,zfel] at e ⊢; exact zhoh m e
 | .dead::r,b,_,m,e=>by simp only [zn2r,zfel] at e ⊢; exact zhoh m e
theorem zjf6 : ∀ {h:List AObj} {b:Nat} {n:MapD} (r:List AObj),zfel h b=some n→zfel (h++r) b=some n
 | [],_,_,_,e=>by simp [zfel] at e
 | .mapo b' n::r,b,_,s,e=>by
  simp only [y09,zfel] at e ⊢
  split
  ·rename_i q; rw [if_pos q] at e; exact e
  ·rename_i q; rw [if_neg q] at e; exact zjf6 s e
 | .cells c::r,b,_,s,e=>by simp only [y09,zfel] at e ⊢; exact zjf6 s e
 | .dead::r,b,_,s,e=>by simp only [y09,zfel] at e ⊢; exact zjf6 s e
theorem zv2a : ∀ {h:List AObj} {b id:Nat} {n:MapD} {l c:List DV},zfel h b=some n→ziu0 h id=some l→zfel (h.set id (.cells c)) b=some n
 | [],_,_,_,_,_,e,_=>by simp [zfel] at e
 | .mapo b' n::r,b,id,_,l,c,e,ho=>by
  cases id with
  | zero=>simp [ziu0] at ho
  | succ i =>
   simp only [y0d,zfel] at e ⊢
   split
   ·rename_i q; rw [if_pos q] at e; exact e
   ·rename_i q; rw [if_neg q] at e; exact zv2a e ho
 | .cells d::r,b,id,_,l,c,e,ho=>by
  simp only [zfel] at e
  cases id with
  | zero=>simpa only [List.set_cons_zero,zfel] using e
  | succ i=>simp only [y0d,zfel]; exact zv2a e ho
 | .dead::r,b,id,_,l,c,e,ho=>by
  simp only [zfel] at e
  cases id with
  | zero=>simp [ziu0] at ho
  | succ i=>simp only [y0d,zfel]; exact zv2a e ho
theorem z7ko {h r:List AObj} {id:Nat} {l:List DV} (e:ziu0 h id=some l):ziu0 (h++r) id=some l:=by
 unfold ziu0 at e ⊢
 split at e
 ·rename_i q; rw [y0f (y02.1 q).1,q]; exact e
 ·simp at e
theorem zn8w {h r:List AObj} {id:Nat} (e:id<h.length):ziu0 (h++r) id=ziu0 h id:=by
 unfold ziu0; rw [y0f e]
theorem zzga {h r:List AObj} {id:Nat}:ziu0 (h++r) (h.length+id)=ziu0 r id:=by
 unfold ziu0; rw [y0e (by omega)]; simp
theorem zhvw {h:List AObj} {id:Nat} {l c:List DV} (e:ziu0 h id=some l):ziu0 (h.set id (.cells c)) id=some c:=by
 unfold ziu0 at e ⊢
 split at e
 ·rename_i q; rw [List.getElem?_set_self (y02.1 q).1]
 ·simp at e
theorem z4sf {h:List AObj} {id:Nat} {l:List DV} (e:ziu0 h id=some l):id<h.length:=by
 unfold ziu0 at e
 split at e
 ·rename_i q; exact (y02.1 q).1
 ·simp at e
structure LH (m:MapD) (B G:Nat) (L:List Q) (h:List AObj):Prop where
 mo:zfel h B=some m
 lo:L≠[]→ziu0 h G=some (lC L)
structure Fr (h:List AObj) (G:Nat) (L:List Q) (h':List AObj) (G':Nat) (L':List Q):Prop where
 len:h.length≤h'.length
 oth : ∀ id,id<h.length→¬ (L≠[]∧id=G)→ziu0 h' id=ziu0 h id
 new:L'≠[]→(L≠[]∧G'=G)∨h.length≤G'
theorem Fr.refl (h:List AObj) (G:Nat) (L:List Q):Fr h G L h G L:=⟨y04 _,fun _ _ _=>rfl,fun e => .inl ⟨e,rfl⟩⟩
theorem Fr.trans {h h1 h2:List AObj} {G G1 G2:Nat} {L L1 L2:List Q} (a:Fr h G L h1 G1 L1) (b:Fr h1 G1 L1 h2 G2 L2):Fr h G L h2 G2 L2:=by
 refine ⟨Nat.le_trans a.len b.len,fun id hid hn => ?_,fun e => ?_⟩
 ·rw [b.oth id (Nat.lt_of_lt_of_le hid a.len) (fun q => ?_),a.oth id hid hn]
  rcases a.new q.1 with ⟨g1,g2⟩|g
  ·exact hn ⟨g1,by rw [q.2,g2]⟩
  ·have:=q.2; omega
 ·rcases b.new e with ⟨g1,g2⟩|g
  ·rcases a.new g1 with ⟨g3,g4⟩|g3
   ·exact .inl ⟨g3,by rw [g2,g4]⟩
   ·exact .inr (by rw [g2]; exact g3)
  ·exact .inr (Nat.le_trans a.len g)
theorem Fr.at_ {h h':List AObj} {G G':Nat} {L L':List Q} (a:Fr h G L h' G' L') {id:Nat} {l:List DV} (e:ziu0 h id=some l) (hn:L≠[]→id≠G):ziu0 h' id=some l:=by
 rw [a.oth id (z4sf e) fun q=>hn q.1 q.2]; exact e
theorem LH.app {m:MapD} {B G:Nat} {L:List Q} {h:List AObj} (q:LH m B G L h) (r:List AObj):LH m B G L (h++r):=⟨zjf6 r q.mo,fun e=>z7ko (q.lo e)⟩
theorem LH.put {m:MapD} {B G:Nat} {L:List Q} {h:List AObj} (q:LH m B G L h) (m':MapD):LH m' B G L (zn2r h B m'):=⟨zhoh m' q.mo,fun e=>by rw [zgk8]; exact q.lo e⟩
theorem LH.snoc {m:MapD} {B G:Nat} {L:List Q} {h:List AObj} (q:LH m B G L h) (x:Q):LH m B (lG h G L) (L++[x]) (lA h G L x):=by
 unfold lA lG
 by_cases e:L=[]
 ·subst e
  simp only [if_true]
  refine ⟨zjf6 _ q.mo,fun _ => ?_⟩
  have:=zzga (h:=h) (r:=[.cells (qC x)]) (id:=0)
  rw [y0j] at this
  rw [this]; simp [ziu0,lC]
 ·simp only [if_neg e]
  exact ⟨zv2a q.mo (q.lo e),fun _=>zhvw (q.lo e)⟩
theorem Fr.app (h r:List AObj) (G:Nat) (L:List Q):Fr h G L (h++r) G L:=⟨by simp,fun id hid _=>zn8w hid,fun e => .inl ⟨e,rfl⟩⟩
theorem Fr.put (h:List AObj) (B:Nat) (m:MapD) (G:Nat) (L:List Q):Fr h G L (zn2r h B m) G L:=⟨by rw [zajq]; exact y04 _,fun id _ _=>zgk8 h B m id,fun e => .inl ⟨e,rfl⟩⟩
theorem Fr.snoc (h:List AObj) (G:Nat) (L:List Q) (x:Q):Fr h G L (lA h G L x) (lG h G L) (L++[x]):=by
 unfold lA lG
 by_cases e:L=[]
 ·subst e
  simp only [if_true]
  exact ⟨by simp,fun id hid _=>zn8w hid,fun _ => .inr (y04 _)⟩
 ·simp only [if_neg e]
  exact ⟨by simp,fun id _ hn=>ztfj (fun q=>hn ⟨e,q.symm⟩),fun _ => .inl ⟨e,rfl⟩⟩
open Classical in
noncomputable def ptH (a0:List DV) (h0:List AObj) (r:DV) (h1:List AObj) (a:List DV) (h:List AObj):Option (DV × List AObj):=if a=a0∧h=h0 then some (r,h1) else none
theorem zpvh {a0:List DV} {h0:List AObj} {r:DV} {h1:List AObj}:ptH a0 h0 r h1 a0 h0=some (r,h1):=if_pos ⟨rfl,rfl⟩
theorem zdmv {k:Nat} {a0:List DV} {h0:List AObj} {r:DV} {h1:List AObj} (hc:zwy1 P k a0 h0 (fun d h=>d=r∧h=h1)):(Con.heap (ptH a0 h0 r h1)).Sound P k:=by
 intro a h v h' e
 unfold ptH at e
 split at e
 ·rename_i q
  obtain ⟨rfl,rfl⟩:=q
  simp only [Option.some.injEq,Prod.mk.injEq] at e
  obtain ⟨rfl,rfl⟩:=e
  exact hc
 ·simp at e
theorem exTH {k:Nat} {a0:List DV} {h0:List AObj} {r:DV} {h1:List AObj} {T:Tbl} (hs:T.Sound P) (hc:zwy1 P k a0 h0 (fun d h=>d=r∧h=h1)) :
  ∃ (T':Tbl) (f:List DV→List AObj→Option (DV × List AObj)),T'.Sound P∧T' k = .heap f∧f a0 h0=some (r,h1) ∧ ∀ j,j≠k→T' j=T j :=
 ⟨addT k (.heap (ptH a0 h0 r h1)) T,ptH a0 h0 r h1,z0rp (zdmv hc) hs,by simp [addT],zpvh,fun j hj=>by simp [addT,hj]⟩
end
section
set_option linter.unusedSimpArgs false
set_option linter.unusedVariables false
open Go Go.Am
theorem zq5p {x y:Pt} (e:ptC x=ptC y):x=y:=by
 cases x<;>cases y<;>simp [ptC,Pt.kind,Pt.chr,z21y] at e ⊢ <;> exact e
noncomputable def zyoe:List DV→Option DV:=con (fun (_:Pt)=>True) (fun x=>[.agg (ptC x)]) zqvz
theorem zkt2 {x:Pt}:zyoe [.agg [.int .i64 x.kind,w8 x.chr]]=some (zqvz x) :=
 z400 (A:=fun (_:Pt)=>True) (a:=x) (f:=fun x=>[.agg (ptC x)]) (g:=zqvz) (by intro a b _ _ e; simp only [List.cons.injEq,DV.agg.injEq,and_true] at e; rw [zq5p e]) trivial
noncomputable def zupo:List DV→Option DV:=con (fun (_:Pt)=>True) (fun x=>[.agg (ptC x)]) (fun x => .bool x.long)
theorem zfa9 {x:Pt}:zupo [.agg [.int .i64 x.kind,w8 x.chr]]=some (.bool x.long) :=
 z400 (A:=fun (_:Pt)=>True) (a:=x) (f:=fun x=>[.agg (ptC x)]) (g:=fun x => .bool x.long) (by intro a b _ _ e; simp only [List.cons.injEq,DV.agg.injEq,and_true] at e; rw [zq5p e]) trivial
noncomputable def zst5:List DV→Option DV:=con (fun (_:B8 × B8)=>True) (fun a=>[w8 a.1,.ref [.int .i64 0,w8 a.2]]) (fun a => .bool (a.1 == a.2))
theorem zebc {b c:B8}:zst5 [w8 b,.ref [.int .i64 0,w8 c]]=some (.bool (b == c)) :=
 z400 (A:=fun (_:B8 × B8)=>True) (a:=(b,c)) (f:=fun a=>[w8 a.1,.ref [.int .i64 0,w8 a.2]]) (g:=fun a => .bool (a.1 == a.2)) (by
  rintro ⟨a,b⟩ ⟨c,d⟩ _ _ e; simp only [List.cons.injEq,DV.ref.injEq,z21y,and_true,true_and] at e; obtain ⟨rfl,rfl⟩:=e; rfl) trivial
noncomputable def z22e:List DV→Option DV:=con (fun (_:B8)=>True) (fun a=>[w8 a]) (fun _ => .bool true)
theorem zx0u {b:B8}:z22e [w8 b]=some (.bool true) :=
 z400 (A:=fun (_:B8)=>True) (a:=b) (f:=fun a=>[w8 a]) (g:=fun _ => .bool true) (by intros; rfl) trivial
noncomputable def z489:List DV→Option DV:=con (fun (_:B8)=>True) (fun a=>[w8 a]) (fun a => .bool (a != 47#8))
theorem z936 {b:B8}:z489 [w8 b]=some (.bool (b != 47#8)) :=
 z400 (A:=fun (_:B8)=>True) (a:=b) (f:=fun a=>[w8 a]) (g:=fun a => .bool (a != 47#8)) (by intro a b _ _ e; simp only [List.cons.injEq,z21y,and_true] at e; rw [e]) trivial
noncomputable def T59:Tbl:=addT 63 (.pure zyoe) (addT 61 (.pure zupo) (addT 70 (.pure zst5) (addT 71 (.pure z22e) (addT 72 (.pure z489)
 (addT 32 (.pure (cS z8r4)) (addT 24 (.pure (cS za1j)) tbl0))))))
theorem zi6l:T59 63 = .pure zyoe:=by simp [T59]
theorem zzbb:T59 61 = .pure zupo:=by simp [T59]
theorem zi94:T59 70 = .pure zst5:=by simp [T59]
theorem zf3w:T59 71 = .pure z22e:=by simp [T59]
theorem zev5:T59 72 = .pure z489:=by simp [T59]
theorem znm8:T59 32 = .pure (cS z8r4):=by simp [T59]
theorem zhd4:T59 24 = .pure (cS za1j):=by simp [T59]
theorem zy0e:T59.Sound P :=
 z0rp (z2au fun x _=>zljw mix zr5o Tryd.func63 z2tu (z2em x))
 (z0rp (z2au fun x _=>zljw mix zr5o Tryd.func61 zuuw (z439 x))
 (z0rp (z2au fun a _=>zljw mix zr5o Tryd.func70 zhcw (zakd a.1 a.2))
 (z0rp (z2au fun a _=>zljw mix zr5o Tryd.func71 zbtg (zl0d a))
 (z0rp (z2au fun a _=>zljw mix zr5o Tryd.func72 z0xs (zacs a))
 (z0rp (zzn8 fun p=>zljw mix zhpa Tryd.func32 zvrg (ztmv p))
 (z0rp (zzn8 fun p=>zljw mix zhpa Tryd.func24 zcoa (zqqw p)) zr5o))))))
theorem z6ly {y:Pt} {b:B8} {h:List AObj}:z46a T59 false (zqvz y) [w8 b] h=some (.bool (y.takes b),h):=by
 cases y with
 | one c=>simp [zqvz,zxj6,zi94,zebc,Pt.takes]
 | dot=>simp [zqvz,zxj6,zev5,z936,Pt.takes]
 | some=>simp [zqvz,zxj6,zev5,z936,Pt.takes]
 | whole=>simp [zqvz,zxj6,zf3w,zx0u,Pt.takes]
def zkxs (f:Nat→Bool) (n:Nat):List Bool:=(List.range (n+1)).map f
def inn (f:Nat→Bool) (i n:Nat):List Bool:=(List.range (n+1)).map fun j=>decide (j≤i)&&f j
def zdol (m:Nat):List Bool:=List.replicate m false
theorem z4jn (f:Nat→Bool) (n:Nat):(zkxs f n).length=n+1:=by simp [zkxs]
theorem zht0 (f:Nat→Bool) (i n:Nat):(inn f i n).length=n+1:=by simp [inn]
theorem zj3v {f:Nat→Bool} {n i:Nat} (h:i<(zkxs f n).length):(zkxs f n)[i]=f i:=by simp [zkxs]
theorem zbgu {f:Nat→Bool} {n i:Nat} (h:i<(inn f i n).length):(inn f i n)[i]=f i:=by simp [inn]
theorem z09a (m:Nat):rep m (DV.bool false)=(zdol m).map DV.bool:=by simp [rep,zdol]
theorem zcql : ∀ (n:Nat) (s:List UInt8) (l:List Pt),s.length≤n→prs s = .some l→l.length≤s.length
 | _,[],l,_,h=>by simp [prs] at h; subst h; simp
 | 0,c::r,l,hn,h=>by simp at hn
 | n+1,c::r,l,hn,h=>by
  have hr:r.length≤n:=by simpa using hn
  have oneC : ∀ (q:List UInt8) (y:Pt),q.length≤r.length→(prs q).map (fun l=>y::l) = .some l→l.length≤(c::r).length:=by
   intro q y hq e
   obtain ⟨l',e1,e2⟩:=Option.map_eq_some_iff.1 e
   have:=zcql n q l' (by omega) e1
   rw [← e2]; simp; omega
  by_cases h1:c=92
  ·subst h1
   match r,h with
   | [],h=>simp [zt8b] at h
   | d::r,h=>rw [z32i] at h; exact oneC r _ (by simp) h
  ·by_cases h2:c=42
   ·subst h2
    match r,h with
    | [],h=>simp [zkwm] at h; subst h; simp
    | d::r,h =>
     by_cases h3:d=42
     ·subst h3; rw [zqqt] at h; exact oneC r _ (by simp) h
     ·rw [zpjv h3] at h; exact oneC _ _ (y04 _) h
   ·by_cases h3:c=63
    ·subst h3; rw [z28c] at h; exact oneC r _ (y04 _) h
    ·rw [zmw4 h1 h2 h3] at h; exact oneC r _ (y04 _) h
theorem zxnm {p:List UInt8} {l:List Pt} (h:zfn1 p = .some l):l.length≤200:=by
 unfold zfn1 at h
 split at h
 ·rename_i hc
  have:=zcql _ p l (y04 _) h
  omega
 ·simp at h
theorem zuv7 (f:Nat→Bool) (n:Nat):(zdol (n+1)).set 0 (f 0)=inn f 0 n:=by
 apply y0a (by simp [zdol,inn])
 intro i h1 h2
 cases i with
 | zero=>simp [inn]
 | succ i=>simp [zdol,inn]
theorem z05s (l s) (n:Nat):(zdol (n+1)).set 0 true=zkxs (M l s 0) n:=by
 apply y0a (by simp [zdol,zkxs])
 intro i h1 h2
 cases i with
 | zero=>simp [zkxs,zbas]
 | succ i=>simp [zdol,zkxs,zbas]
theorem zaip {f:Nat→Bool} {i n:Nat} (h:i<n):(inn f i n).set (i+1) (f (i+1))=inn f (i+1) n:=by
 apply y0a (by simp [inn])
 intro j h1 h2
 rw [List.getElem_set]
 split
 ·rename_i e; subst e; simp [inn]
 ·rename_i e
  simp only [inn,List.getElem_map,List.getElem_range]
  by_cases hj:j≤i
  ·have:j≤i+1:=by omega
   simp [hj,this]
  ·have:¬ j≤i+1:=by omega
   simp [hj,this]
theorem zy1a (f:Nat→Bool) (n:Nat):inn f n n=zkxs f n:=by
 apply y0a (by simp [inn,zkxs])
 intro j h1 h2
 have:j≤n:=by simp [inn] at h1; omega
 simp [inn,zkxs,this]
theorem zf0q {pre l:List AObj} {j ver:Nat}:objV (pre++l) (pre.length+j) ver=objV l j ver:=by
 simp only [objV,ziu0]; rw [y0e (by omega)]; simp
theorem zjj2 {pre l:List AObj} {ver:Nat}:objV (pre++l) pre.length ver=objV l 0 ver:=by
 have:=zf0q (pre:=pre) (l:=l) (j:=0) (ver:=ver)
 simpa using this
theorem zxft {pre l:List AObj} {o:AObj}:(pre++l).set pre.length o=pre++l.set 0 o:=by rw [y0h _ _ (by omega)]; simp
theorem zm3y {pre l:List AObj} {j:Nat} {o:AObj}:(pre++l).set (pre.length+j) o=pre++l.set j o:=by rw [y0h _ _ (by omega)]; simp
theorem zhys : ∀ {l:List Pt} {k:Nat} (h:k<l.length),((z6j5 l).drop (k*2)).take 2=[.int .i64 l[k].kind,w8 l[k].chr]
 | x::l,0,_=>by simp [z6j5,ptC]
 | x::l,k+1,h=>by
  have:=zhys (l:=l) (k:=k) (by simpa using h)
  have e:z6j5 (x::l) = .int .i64 x.kind::w8 x.chr::z6j5 l:=by simp [z6j5,ptC]
  rw [e,show (k+1)*2=k*2+1+1 by omega]
  simpa using this
theorem z8ev {h:List AObj} {id off:Nat} {x:Bool} {l:List Bool} (hi:off<l.length):zy6o h id 1 off (.bool x) (some (l.map DV.bool))=some (.junk,h.set id (.cells ((l.set off x).map DV.bool))):=by
 rw [zltg rfl rfl (by simpa using hi),y0k]
theorem zfp3 (f:Nat→Bool) (n:Nat):(rep (n+1) (DV.bool false)).set 0 (.bool (f 0))=(inn f 0 n).map DV.bool:=by
 rw [z09a,← zuv7,y0k]
theorem zqiv (l s) (n:Nat):(rep (n+1) (DV.bool false)).set 0 (.bool true)=(zkxs (M l s 0) n).map DV.bool:=by
 rw [z09a,← z05s l s,y0k]
theorem zfvc {a b:DV}:oneC 2 true [a,b]=some (.agg [a,b]):=rfl
theorem z5hp {h:List AObj} {id:Nat} {a b c d:DV} (hc:c.one=true) (hd:d.one=true):zy6o h id 2 0 (.agg [c,d]) (some [a,b])=some (.junk,h.set id (.cells [c,d])):=zfc1 rfl rfl (by simp [hc,hd])
structure X8 where
 k:Nat
 pre:List AObj
def S8 (l:List Pt) (s:List UInt8) (x:X8):St :=
 zbv9 (.str s) (.ms x.pre.length (s.length+1) 0 1 (s.length+1) (s.length+1)) (.sl false 2 l.length (z6j5 l)) (.int .i64 l.length) (.int .i64 x.k) (x.pre++[.cells ((zkxs (M l s x.k) s.length).map DV.bool)])
def S8b (l:List Pt) (s:List UInt8) (k:Nat) (y:Pt) (pre:List AObj) (i:Nat):St :=
 ztjq (.str s) (.ms pre.length (s.length+1) 0 1 (s.length+1) (s.length+1)) (.mp (pre.length+1) 2 0) (zqvz y) (.ms (pre.length+2) (s.length+1) 0 1 (s.length+1) (s.length+1)) (.sl false 2 l.length (z6j5 l)) (.int .i64 l.length) (.int .i64 k) (.int .i64 s.length) (.int .i64 i)
  (pre++[.cells ((zkxs (M l s k) s.length).map DV.bool),.cells [.int .i64 y.kind,w8 y.chr],.cells ((inn (M l s (k+1)) i s.length).map DV.bool)])
theorem z3jz (p s:List UInt8):Runs T59 a42 [.str p,.str s] (.bool (zenh p s)):=by
 refine ⟨?_⟩
 cases hp:zfn1 p with
 | none =>
  have hm:zenh p s=false:=by rw [zenh,hp]
  simp (disch:=first|omega|simp<;>omega|fail) [-zA,-zB,-zC,-zD,-zE,a42,znm8,zk5k,z8r4,hp,zoby,hm]
 | some l =>
 by_cases hs:zj1f s=true
 case neg =>
  have hs:zj1f s=false:=by simpa using hs
  have hm:zenh p s=false:=by rw [zenh,hp]; simp [hs]
  simp (disch:=first|omega|simp<;>omega|fail) [-zA,-zB,-zC,-zD,-zE,a42,znm8,zhd4,zk5k,z8r4,hp,zoby,za1j,hs,hm]
 have hm:zenh p s=M l s l.length s.length:=by rw [zenh,hp]; simp [hs]
 have hsl:s.length≤200:=by simp only [zj1f,y03,decide_eq_true_eq] at hs; omega
 have hlp:=zxnm hp
 have hlc:=z4u6 l
 simp (disch:=first|omega|simp<;>omega|fail) [-zA,-zB,-zC,-zD,-zE,a42,znm8,zhd4,zk5k,z8r4,hp,zoby,za1j,hs]
 refine zlm5 (S8 l s) (fun x=>l.length-x.k) (fun x=>x.k≤l.length) ⟨0,[]⟩ (z515 (by simp (disch:=first|omega|simp<;>omega|fail) [-zA,-zB,-zC,-zD,-zE]) (by simp (disch:=first|omega|simp<;>omega|fail) [-zA,-zB,-zC,-zD,-zE]; exact (zqiv l s _).symm)) (by simp) (fun x hx => ?_)
 obtain ⟨k,pre⟩:=x
 simp only at hx
 have hlr:=z4jn (M l s k) s.length
 simp (disch:=first|omega|simp<;>omega|fail) [-zA,-zB,-zC,-zD,-zE,znqz,zbv9,S8]
 by_cases h:k<l.length
 ·have h1:(k:Int)<l.length:=by omega
  have hg:=zhys h
  simp (disch:=first|omega|simp<;>omega|fail) [-zA,-zB,-zC,-zD,-zE,zfvc,z5hp,z8ev,h1,h,hg,zf0q,zjj2,zm3y,zxft,zi6l,zkt2,hlr,zj3v,zzbb,zfa9]
  have hgd:l.getD k .dot=l[k]:=by rw [y00,y01 h]; rfl
  obtain ⟨y,hy⟩ : ∃ y,l[k]=y:=⟨_,rfl⟩
  rw [hy] at hgd
  have hf0:M l s (k+1) 0=(y.long&&M l s k 0):=by rw [z9av,hgd]
  obtain ⟨b0,hb0⟩ : ∃ b0,M l s k 0=b0:=⟨_,rfl⟩
  cases b0
  all_goals
   rw [hb0] at hf0
   simp only [Bool.and_true,Bool.and_false] at hf0
   have hr0:=zfp3 (M l s (k+1)) s.length
   rw [hf0] at hr0
   simp (disch:=first|omega|simp<;>omega|fail) [-zA,-zB,-zC,-zD,-zE,zfvc,z5hp,z8ev,hy,hb0,zf0q,zjj2,zm3y,zxft,zzbb,zfa9]
   refine zlm5 (S8b l s k y pre) (fun i=>s.length-i) (fun i=>i≤s.length) 0 (z515 (by simp (disch:=first|omega|simp<;>omega|fail) [-zA,-zB,-zC,-zD,-zE]) (by simp (disch:=first|omega|simp<;>omega|fail) [-zA,-zB,-zC,-zD,-zE,hr0])) (by omega) (fun i hi => ?_)
   have hli:=zht0 (M l s (k+1)) i s.length
   simp (disch:=first|omega|simp<;>omega|fail) [-zA,-zB,-zC,-zD,-zE,zcuu,ztjq,S8b]
   by_cases hs1:i<s.length
   ·have hs2:(i:Int)<s.length:=by omega
    have hba:=z8rj hs1
    by_cases hlg:y.long=true
    ·have hM:=zbwv (l:=l) (s:=s) (k:=k) (i:=i) (by rw [hgd]; exact hlg)
     rw [hgd,hba] at hM
     obtain ⟨v1,hv1⟩ : ∃ v1,M l s k (i+1)=v1:=⟨_,rfl⟩
     obtain ⟨v2,hv2⟩ : ∃ v2,M l s (k+1) i=v2:=⟨_,rfl⟩
     rw [hv1,hv2] at hM
     cases v1<;>cases v2
     all_goals
      simp only [Bool.false_or,Bool.true_or,Bool.false_and,y0i] at hM
      have hset:=zaip (f:=M l s (k+1)) hs1
      rw [hM] at hset
      simp (disch:=first|omega|simp<;>omega|fail) [-zA,-zB,-zC,-zD,-zE,zfvc,z8ev,hs1,hs2,hlg,zf0q,zjj2,zm3y,zxft,zzbb,zfa9,hlr,zj3v,hli,zbgu,z6ly,hv1,hv2]
      exact ⟨i+1,z515 (by simp (disch:=first|omega|simp<;>omega|fail) [-zA,-zB,-zC,-zD,-zE]) (by simp (disch:=first|omega|simp<;>omega|fail) [-zA,-zB,-zC,-zD,-zE,hset]),by omega,by omega⟩
    ·have hlg:y.long=false:=by simpa using hlg
     have hM:=ze32 (l:=l) (s:=s) (k:=k) (i:=i) (by rw [hgd]; exact hlg)
     rw [hgd,hba] at hM
     obtain ⟨v1,hv1⟩ : ∃ v1,M l s k i=v1:=⟨_,rfl⟩
     rw [hv1] at hM
     cases v1
     all_goals
      simp only [Bool.false_and,y0i] at hM
      have hset:=zaip (f:=M l s (k+1)) hs1
      rw [hM] at hset
      simp (disch:=first|omega|simp<;>omega|fail) [-zA,-zB,-zC,-zD,-zE,zfvc,z8ev,hs1,hs2,hlg,zf0q,zjj2,zm3y,zxft,zzbb,zfa9,hlr,zj3v,hli,zbgu,z6ly,hv1]
      exact ⟨i+1,z515 (by simp (disch:=first|omega|simp<;>omega|fail) [-zA,-zB,-zC,-zD,-zE]) (by simp (disch:=first|omega|simp<;>omega|fail) [-zA,-zB,-zC,-zD,-zE,hset]),by omega,by omega⟩
   ·have hs2:¬ (i:Int)<s.length:=by omega
    obtain rfl:i=s.length:=by omega
    simp (disch:=first|omega|simp<;>omega|fail) [-zA,-zB,-zC,-zD,-zE,hs2]
    refine ⟨⟨k+1,pre++[.cells ((zkxs (M l s k) s.length).map DV.bool),.cells [.int .i64 y.kind,w8 y.chr]]⟩,z515 (by simp (disch:=first|omega|simp<;>omega|fail) [-zA,-zB,-zC,-zD,-zE]) (by simp (disch:=first|omega|simp<;>omega|fail) [-zA,-zB,-zC,-zD,-zE,zy1a]),by show l.length-(k+1)<l.length-k; omega,by show k+1≤l.length; omega⟩
 ·have h1:¬ (k:Int)<l.length:=by omega
  obtain rfl:k=l.length:=by omega
  simp (disch:=first|omega|simp<;>omega|fail) [-zA,-zB,-zC,-zD,-zE,h1,zjj2,hlr,zj3v,hm]
end
section
set_option linter.unusedSimpArgs false
set_option linter.unusedVariables false
open Go Go.Am
theorem ziv7 {α:Type} [DecidableEq α] : ∀ {l m:List α},l.Nodup→(∀ x ∈ l,x ∈ m)→l.length≤m.length
 | [],m,_,_=>Nat.zero_le _
 | x::l,m,hn,hm=>by
  obtain ⟨h1,h2⟩:=List.nodup_cons.1 hn
  have hx:=hm x (by simp)
  have:=ziv7 (m:=m.erase x) h2 (fun y hy=>by
   have hne:y≠x:=fun e=>h1 (e▸hy)
   exact (List.mem_erase_of_ne hne).2 (hm y (by simp [hy])))
  rw [List.length_erase_of_mem hx] at this
  have:=List.length_pos_of_mem hx
  simp only [y08]
  omega
def boxL (n m:Nat):List Q:=(List.range (n+1)).flatMap fun i=>(List.range (m+1)).flatMap fun j=>(List.range 4).map fun k=>(i,j,k)
theorem z0bp {α β:Type} {f:α→List β} {c:Nat} (hf : ∀ a,(f a).length=c) : ∀ (l:List α),(l.flatMap f).length=l.length*c
 | []=>by simp
 | a::l=>by rw [y06,y0c,hf,z0bp hf l,y08,Nat.add_mul]; omega
theorem zlpf (n m:Nat):(boxL n m).length=(n+1)*((m+1)*4):=by
 unfold boxL
 rw [z0bp (c:=(m+1)*4) (fun i=>by rw [z0bp (c:=4) (fun j=>by simp)]; simp),List.length_range]
def z4ew (n m:Nat) (x:Q):Prop:=x.1≤n∧x.2.1≤m∧x.2.2≤3
theorem z1w8 {n m:Nat} {x:Q} (h:z4ew n m x):x ∈ boxL n m:=by
 obtain ⟨i,j,k⟩:=x
 obtain ⟨h1,h2,h3⟩:=h
 simp only at h1 h2 h3
 simp only [boxL,List.mem_flatMap,List.mem_range,y0l,Prod.mk.injEq]
 exact ⟨i,by omega,j,by omega,k,by omega,rfl,rfl,rfl⟩
structure CI (n m:Nat) (C:Came):Prop where
 box : ∀ e ∈ C,z4ew n m e.1
 nd:(C.map (·.1)).Nodup
theorem CI.len {n m:Nat} {C:Came} (h:CI n m C) (hn:n≤200) (hm:m≤200):C.length≤161604:=by
 have h1:=ziv7 (m:=boxL n m) h.nd (fun x hx=>by
  obtain ⟨e,he,rfl⟩:=y0l.1 hx
  exact z1w8 (h.box e he))
 rw [zlpf,List.length_map] at h1
 have h2:(n+1)*((m+1)*4)≤201*(201*4):=Nat.mul_le_mul (by omega) (by omega)
 omega
theorem zjus : ∀ {C:Came} {x:Q},getC C x=none ↔ ∀ e ∈ C,e.1≠x
 | [],x=>by simp [getC]
 | (y,s)::r,x=>by
  have ih:=zjus (C:=r) (x:=x)
  simp only [getC]
  by_cases e:y=x
  ·simp [e]
  ·simp [e,ih]
theorem CI.snoc {n m:Nat} {C:Came} (h:CI n m C) {x:Q} {s:Stp} (hx:z4ew n m x) (hn:getC C x=none):CI n m (C++[(x,s)]):=by
 refine ⟨fun e he => ?_,?_⟩
 ·simp only [List.mem_append,List.mem_singleton] at he
  rcases he with he|rfl
  ·exact h.box e he
  ·exact hx
 ·rw [List.map_append,List.nodup_append]
  refine ⟨h.nd,by simp,fun a ha b hb e => ?_⟩
  obtain ⟨q,hq,rfl⟩:=y0l.1 ha
  simp at hb
  exact zjus.1 hn q hq (e.trans hb)
def lgP (p:List Pt) (i:Nat):Bool:=decide (i<p.length)&&(p.getD i .dot).long
def vis (p q:List Pt):Nat→Came→List Q→Q→Stp→Came × List Q
 | 0,C,L,_,_=>(C,L)
 | n+1,C,L,x,s=>if (getC C x).isSome=true then (C,L) else
  let a:=(C++[(x,s)],L++[x])
  let b:=if lgP p x.1=true then vis p q n a.1 a.2 (x.1+1,x.2.1,x.2.2) (x,0#8) else a
  if lgP q x.2.1=true then vis p q n b.1 b.2 (x.1,x.2.1+1,x.2.2) (x,0#8) else b
theorem ztmq {p q:List Pt} {n:Nat} {C:Came} {L:List Q} {x:Q} {s:Stp} (h:(getC C x).isSome=true):vis p q (n+1) C L x s=(C,L):=by rw [vis,if_pos h]
theorem z5aj {p q:List Pt} {n:Nat} {C:Came} {L:List Q} {x:Q} {s:Stp} (h:getC C x=none):vis p q (n+1) C L x s =
  (let b:=if lgP p x.1=true then vis p q n (C++[(x,s)]) (L++[x]) (x.1+1,x.2.1,x.2.2) (x,0#8) else (C++[(x,s)],L++[x])
   if lgP q x.2.1=true then vis p q n b.1 b.2 (x.1,x.2.1+1,x.2.2) (x,0#8) else b):=by rw [vis,if_neg (by simp [h])]
def pV (l:List Pt):DV := .sl false 2 l.length (z6j5 l)
structure CL (n m:Nat) (a:Came × List Q):Prop where
 ci:CI n m a.1
 le:a.2.length≤a.1.length
theorem zlxe (p q:List Pt) : ∀ (n:Nat) (C:Came) (L:List Q) (x:Q) (s:Stp),CL p.length q.length (C,L)→z4ew p.length q.length x→CL p.length q.length (vis p q n C L x s)
 | 0,C,L,x,s,h,hx=>h
 | n+1,C,L,x,s,h,hx=>by
  cases hg:getC C x with
  | some v=>rw [ztmq (by simp [hg])]; exact h
  | none =>
   rw [z5aj hg]
   have h1:CL p.length q.length (C++[(x,s)],L++[x]):=⟨h.ci.snoc hx hg,by have:=h.le; simp at this ⊢; exact this⟩
   have h2:CL p.length q.length (if lgP p x.1=true then vis p q n (C++[(x,s)]) (L++[x]) (x.1+1,x.2.1,x.2.2) (x,0#8) else (C++[(x,s)],L++[x])):=by
    split
    ·rename_i hl
     simp only [lgP,y03,decide_eq_true_eq] at hl
     exact zlxe p q n _ _ _ _ h1 ⟨by simp only; omega,hx.2.1,hx.2.2⟩
    ·exact h1
   simp only
   split
   ·rename_i hl
    simp only [lgP,y03,decide_eq_true_eq] at hl
    exact zlxe p q n _ _ _ _ h2 ⟨hx.1,by simp only; omega,hx.2.2⟩
   ·exact h2
def hV (h:List AObj) (x:Q) (s:Stp):List AObj:=h++[.cells (qC x),.cells (stC s),.cells [.int .i64 0,.int .i64 0,.int .i64 0,w8 0#8]]
def hW (h:List AObj) (B:Nat) (C:Came) (G:Nat) (L:List Q) (x:Q) (s:Stp):List AObj:=lA (zn2r (hV h x s) B (cM (C++[(x,s)]))) G L x
def gW (h:List AObj) (x:Q) (s:Stp) (B:Nat) (C:Came) (G:Nat) (L:List Q):Nat:=lG (zn2r (hV h x s) B (cM (C++[(x,s)]))) G L
theorem zchh {h:List AObj} {B:Nat} {C:Came} {G:Nat} {L:List Q} {x:Q} {s:Stp} (q:LH (cM C) B G L h):LH (cM (C++[(x,s)])) B (gW h x s B C G L) (L++[x]) (hW h B C G L x s):=((q.app _).put _).snoc x
theorem zrn1 (h:List AObj) (B:Nat) (C:Came) (G:Nat) (L:List Q) (x:Q) (s:Stp):Fr h G L (hW h B C G L x s) (gW h x s B C G L) (L++[x]):=((Fr.app h _ G L).trans (Fr.put _ B _ G L)).trans (Fr.snoc _ G L x)
theorem hW_x (h:List AObj) (B:Nat) (C:Came) (G:Nat) (L:List Q) (x:Q) (s:Stp) (hG:L≠[]→G<h.length):ziu0 (hW h B C G L x s) h.length=some (qC x)∧(gW h x s B C G L≠h.length)∧h.length<(hW h B C G L x s).length:=by
 have e0:ziu0 (zn2r (hV h x s) B (cM (C++[(x,s)]))) h.length=some (qC x):=by
  rw [zgk8]
  have:=zzga (h:=h) (r:=[.cells (qC x),.cells (stC s),.cells [.int .i64 0,.int .i64 0,.int .i64 0,w8 0#8]]) (id:=0)
  rw [y0j] at this
  exact this
 have e1:(zn2r (hV h x s) B (cM (C++[(x,s)]))).length=h.length+3:=by rw [zajq]; simp [hV]
 have hf:=Fr.snoc (zn2r (hV h x s) B (cM (C++[(x,s)]))) G L x
 have hne:gW h x s B C G L≠h.length:=by
  unfold gW lG
  split
  ·omega
  ·rename_i q; have:=hG q; omega
 refine ⟨hf.at_ e0 (fun q=>by have:=hG q; omega),hne,?_⟩
 have:=hf.len
 unfold hW
 omega
end
section
set_option linter.unusedSimpArgs false
set_option linter.unusedVariables false
open Go Go.Am
theorem zl58 {p:List Pt} {i:Nat} (h:i<p.length):lgP p i=p[i].long:=by simp [lgP,h,y00,y01 h]
theorem zcgi {p:List Pt} {i:Nat} (h:¬ i<p.length):lgP p i=false:=by simp [lgP,h]
theorem zfr7 {a b c:Int}:zvnk [.int .i64 0,.int .i64 0,.int .i64 0,w8 0#8] [(0,3,.agg [.int .i64 a,.int .i64 b,.int .i64 c])]=some (.agg [.int .i64 a,.int .i64 b,.int .i64 c,w8 0#8]):=rfl
theorem zjwp {a b c:DV}:oneC 3 true [a,b,c]=some (.agg [a,b,c]):=rfl
theorem zpdr {a b c d:DV}:oneC 4 true [a,b,c,d]=some (.agg [a,b,c,d]):=rfl
theorem zeo3 {h:List AObj} {id:Nat} {a b c d a' b' c' d':DV} (h1:a'.one=true) (h2:b'.one=true) (h3:c'.one=true) (h4:d'.one=true):zy6o h id 4 0 (.agg [a',b',c',d']) (some [a,b,c,d])=some (.junk,h.set id (.cells [a',b',c',d'])):=zfc1 rfl rfl (by simp [h1,h2,h3,h4])
theorem zybb {f:FuncId} {fn:Func} (hf:P.funcs[f]? = some fn) {af:AFn} (hc:zsjc P fn=some af) {args:List DV} {h k:List AObj} {v:DV} (hr:V P h.length af.code (retH af.res v k) ⟨zr5g af.ntmps args,h⟩):zwy1 P f args h (fun d k'=>d=v∧k'=k) :=
 zcpc hf hc (zftn (fun _ _ h=>h.out) hr)
theorem z3ok (s:Stp):mvOf (.agg [.int .i64 s.1.1,.int .i64 s.1.2.1,.int .i64 s.1.2.2,w8 s.2])=some (mvS s):=rfl
theorem zrln (C:Came) (x:Q) (s:Stp):cM C++[([(x.1:Int),(x.2.1:Int),(x.2.2:Int)],mvS s)]=cM (C++[(x,s)]):=zt3q C x s
def sV (S X:Nat) (v:DV) (h:List AObj):St:=⟨[.mp S 3 0,v,.junk,.junk,.junk,.junk,.mp X 3 0]++js 90,h⟩
structure MidV (S X:Nat) (v:DV) (h:List AObj) (e:AExit) (s:St):Prop where
 ex:e = .normal ∧ ∀ n0,Weak n0 s (sV S X v h)
theorem zapw (p q:List Pt) (hp:p.length≤200) (hq:q.length≤200) (S B:Nat) : ∀ (n:Nat) (C:Came) (L:List Q) (x:Q) (s:Stp) (h:List AObj) (G:Nat),
  (p.length-x.1)+(q.length-x.2.1)<n→z4ew p.length q.length x→CL p.length q.length (C,L)→LH (cM C) B G L h→ziu0 h S=some [pV p,pV q,.mapv B]→(L≠[]→S≠G) →
  ∃ G' h',zwy1 P 33 [.mp S 3 0,lV G L,.agg (qC x),.agg (stC s)] h (fun d k=>d=lV G' (vis p q n C L x s).2∧k=h')∧LH (cM (vis p q n C L x s).1) B G' (vis p q n C L x s).2 h'∧Fr h G L h' G' (vis p q n C L x s).2
 | 0,C,L,x,s,h,G,hn,_,_,_,_,_=>absurd hn (by omega)
 | n+1,C,L,x,s,h,G,hn,hx,hc,hl,hs,hG=>by
  have hmo:=hl.mo
  have hlk:=zsqh C x
  simp only [qK] at hlk
  have vS : ∀ r,objV (h++r) S 3=some [pV p,pV q,.mapv B]:=fun r=>zw28 (z7ko hs) rfl
  have vM : ∀ r,zfel (h++r) B=some (cM C):=fun r=>zjf6 r hmo
  cases hg:getC C x with
  | some v =>
   rw [ztmq (by simp [hg])]
   rw [hg] at hlk
   refine ⟨G,h++[.cells (qC x),.cells (stC s),.cells (stC v)],zybb Tryd.func33 zojn ?_,hl.app _,Fr.app _ _ _ _⟩
   refine V_W mix zy0e ?_
   simp (disch:=first|omega|simp<;>omega|fail) [-zA,-zB,-zC,-zD,-zE,a33,qC,stC,zf0q,zjj2,zm3y,zxft,vS,vM,hlk,lkD,zbb3,zeo3,zjwp,zpdr]
  | none =>
   rw [z5aj hg]
   rw [hg] at hlk
   have hL:L.length≤1000000:=by have h1:=hc.le; have h2:=hc.ci.len hp hq; simp only at h1 h2; omega
   have h1:=zchh (x:=x) (s:=s) hl
   have f1:=zrn1 h B C G L x s
   obtain ⟨x1,x2,x3⟩:=hW_x h B C G L x s (fun e=>z4sf (hl.lo e))
   have hSl:=z4sf hs
   have s1:=f1.at_ hs hG
   have c1:CL p.length q.length (C++[(x,s)],L++[x]):=⟨hc.ci.snoc hx hg,by have:=hc.le; simp at this ⊢; exact this⟩
   have n1:S≠gW h x s B C G L:=fun e=>by
    rcases f1.new (by simp) with ⟨g1,g2⟩|g
    ·exact hG g1 (e.trans g2)
    ·omega
   have happ:=zh68 (h:=zn2r (hV h x s) B (cM (C++[(x,s)]))) (G:=G) (L:=L) (x:=x) (fun e=>by rw [zgk8]; exact z7ko (hl.lo e)) hL
   change _=some (lV (gW h x s B C G L) (L++[x]),hW h B C G L x s) at happ
   generalize hh1:hW h B C G L x s=k1 at h1 f1 x1 x3 s1 happ
   generalize hg1:gW h x s B C G L=G1 at h1 f1 x2 n1 happ
   obtain ⟨b,hb⟩ : ∃ b,(if lgP p x.1=true then vis p q n (C++[(x,s)]) (L++[x]) (x.1+1,x.2.1,x.2.2) (x,0#8) else (C++[(x,s)],L++[x]))=b:=⟨_,rfl⟩
   obtain ⟨G2,k2,t1,t2,t3,t4,t5⟩ : ∃ G2 k2,(lgP p x.1=true→zwy1 P 33 [.mp S 3 0,lV G1 (L++[x]),.agg (qC (x.1+1,x.2.1,x.2.2)),.agg (stC (x,0#8))] k1 (fun d k=>d=lV G2 b.2∧k=k2))∧(lgP p x.1=false→b.2=L++[x]∧G2=G1∧k2=k1)∧LH (cM b.1) B G2 b.2 k2∧Fr k1 G1 (L++[x]) k2 G2 b.2∧CL p.length q.length b:=by
    by_cases e:lgP p x.1=true
    ·rw [if_pos e] at hb
     have e':=e
     simp only [lgP,y03,decide_eq_true_eq] at e'
     have hbx:z4ew p.length q.length (x.1+1,x.2.1,x.2.2):=⟨by simp only; omega,hx.2.1,hx.2.2⟩
     obtain ⟨G2,k2,r1,r2,r3⟩:=zapw p q hp hq S B n (C++[(x,s)]) (L++[x]) (x.1+1,x.2.1,x.2.2) (x,0#8) k1 G1 (by simp only; omega) hbx c1 h1 s1 (fun _=>n1)
     have r4:=zlxe p q n (C++[(x,s)]) (L++[x]) (x.1+1,x.2.1,x.2.2) (x,0#8) c1 hbx
     rw [hb] at r1 r2 r3 r4
     exact ⟨G2,k2,fun _=>r1,(fun q=>by rw [q] at e; cases e),r2,r3,r4⟩
    ·rw [if_neg e] at hb
     subst hb
     exact ⟨G1,k1,fun q=>absurd q e,fun _=>⟨rfl,rfl,rfl⟩,h1,.refl _ _ _,c1⟩
   have s2:=t4.at_ s1 (fun _=>n1)
   have x4:=t4.at_ x1 (fun _=>Ne.symm x2)
   have n2:b.2≠[]→S≠G2:=fun q e=>by
    rcases t4.new q with ⟨_,g2⟩|g
    ·exact n1 (e.trans g2)
    ·have:=z4sf s1; omega
   have n3:b.2≠[]→h.length≠G2:=fun q e=>by
    rcases t4.new q with ⟨_,g2⟩|g
    ·exact x2 (e.trans g2).symm
    ·omega
   rw [hb]
   obtain ⟨d,hd⟩ : ∃ d,(if lgP q x.2.1=true then vis p q n b.1 b.2 (x.1,x.2.1+1,x.2.2) (x,0#8) else b)=d:=⟨_,rfl⟩
   obtain ⟨G3,k3,u1,u2,u3,u4⟩ : ∃ G3 k3,(lgP q x.2.1=true→zwy1 P 33 [.mp S 3 0,lV G2 b.2,.agg (qC (x.1,x.2.1+1,x.2.2)),.agg (stC (x,0#8))] k2 (fun v k=>v=lV G3 d.2∧k=k3))∧(lgP q x.2.1=false→d.2=b.2∧G3=G2∧k3=k2)∧LH (cM d.1) B G3 d.2 k3∧Fr k2 G2 b.2 k3 G3 d.2:=by
    by_cases e:lgP q x.2.1=true
    ·rw [if_pos e] at hd
     have e':=e
     simp only [lgP,y03,decide_eq_true_eq] at e'
     have hbx:z4ew p.length q.length (x.1,x.2.1+1,x.2.2):=⟨hx.1,by simp only; omega,hx.2.2⟩
     obtain ⟨G3,k3,r1,r2,r3⟩:=zapw p q hp hq S B n b.1 b.2 (x.1,x.2.1+1,x.2.2) (x,0#8) k2 G2 (by simp only; omega) hbx t5 t3 s2 n2
     rw [hd] at r1 r2 r3
     exact ⟨G3,k3,fun _=>r1,(fun q=>by rw [q] at e; cases e),r2,r3⟩
    ·rw [if_neg e] at hd
     subst hd
     exact ⟨G2,k2,fun q=>absurd q e,fun _=>⟨rfl,rfl,rfl⟩,t3,.refl _ _ _⟩
   simp only [hd]
   refine ⟨G3,k3,zybb Tryd.func33 zojn ?_,u3,(f1.trans t4).trans u4⟩
   clear u3 u4 t5
   have vX:objV k1 h.length 3=some (qC x):=zw28 x1 rfl
   have vX2:objV k2 h.length 3=some (qC x):=zw28 x4 rfl
   have vS1:objV k1 S 3=some [pV p,pV q,.mapv B]:=zw28 s1 rfl
   have vS2:objV k2 S 3=some [pV p,pV q,.mapv B]:=zw28 s2 rfl
   have vX0:objV (zn2r (hV h x s) B (cM (C++[(x,s)]))) h.length 3=some (qC x):=zw28 (by
    rw [zgk8]
    have:=zzga (h:=h) (r:=[.cells (qC x),.cells (stC s),.cells [.int .i64 0,.int .i64 0,.int .i64 0,w8 0#8]]) (id:=0)
    rw [y0j] at this
    exact this) rfl
   simp only [a33]
   refine zbn1 (V_W mix zy0e ?_)
   simp (disch:=first|omega|simp<;>omega|fail) [-zA,-zB,-zC,-zD,-zE,qC,stC]
   refine zbn1 (V_W mix zy0e ?_)
   simp (disch:=first|omega|simp<;>omega|fail) [-zA,-zB,-zC,-zD,-zE,zf0q,zjj2,zm3y,zxft,vS,vM,hlk,lkD,zeo3,zjwp,zpdr]
   refine zbn1 (V_W mix zy0e ?_)
   simp (disch:=first|omega|simp<;>omega|fail) [-zA,-zB,-zC,-zD,-zE,zf0q,zjj2,zm3y,zxft,vS,vM,hlk,lkD,zeo3,zjwp,zpdr,z3ok,zrln]
   refine zqfd (st':=⟨[.mp S 3 0,lV G L,.junk,.junk,.junk,.junk,.mp h.length 3 0]++js 90,zn2r (hV h x s) B (cM (C++[(x,s)]))⟩) (z515 (by simp (disch:=first|omega|simp<;>omega|fail) [-zA,-zB,-zC,-zD,-zE]) (by simp (disch:=first|omega|simp<;>omega|fail) [-zA,-zB,-zC,-zD,-zE,hV,qC,stC])) ?_
   simp only [qC] at happ vX0 vX vX2
   refine zbn1 (V_W mix zy0e ?_)
   simp (disch:=first|omega|simp<;>omega|fail) [-zA,-zB,-zC,-zD,-zE,zjwp,vX0,happ]
   refine zqfd (st':=sV S h.length (lV G1 (L++[x])) k1) (z515 (by simp (disch:=first|omega|simp<;>omega|fail) [-zA,-zB,-zC,-zD,-zE,sV]) (by simp (disch:=first|omega|simp<;>omega|fail) [-zA,-zB,-zC,-zD,-zE])) ?_
   simp only [sV]
   refine zbn1 (zftn (Φ:=MidV S h.length (lV G2 b.2) k2) (fun e st ⟨he,hw⟩ => ?_) ?_)
   ·subst he
    refine zqfd (hw _) ?_
    simp only [sV]
    by_cases e:x.2.1<q.length
    ·have e':(x.2.1:Int)<q.length:=by omega
     have hgc:=zhys e
     have hlg:=zl58 e
     cases hlo:q[x.2.1].long with
     | true =>
      rw [hlo] at hlg
      obtain ⟨TA,fA,sA,a1,a2,a3⟩:=exTH zy0e (u1 hlg)
      simp only [qC,stC] at a2
      push_cast at a2
      refine V_W mix sA ?_
      simp (disch:=first|omega|simp<;>omega|fail) [-zA,-zB,-zC,-zD,-zE,e',e,vX2,vS2,pV,hgc,zfvc,zjwp,zpdr,zfr7,a3,zzbb,zfa9,hlo,a1,a2]
     | false =>
      rw [hlo] at hlg
      obtain ⟨g0,g1,g2⟩:=u2 hlg
      refine V_W mix zy0e ?_
      simp (disch:=first|omega|simp<;>omega|fail) [-zA,-zB,-zC,-zD,-zE,e',e,vX2,vS2,pV,hgc,zfvc,zjwp,zpdr,zzbb,zfa9,hlo,g0,g1,g2]
    ·have e':¬ (x.2.1:Int)<q.length:=by omega
     obtain ⟨g0,g1,g2⟩:=u2 (zcgi e)
     refine V_W mix zy0e ?_
     simp (disch:=first|omega|simp<;>omega|fail) [-zA,-zB,-zC,-zD,-zE,e',vX2,vS2,pV,g0,g1,g2]
   ·by_cases e:x.1<p.length
    ·have e':(x.1:Int)<p.length:=by omega
     have hgc:=zhys e
     have hlg:=zl58 e
     cases hlo:p[x.1].long with
     | true =>
      rw [hlo] at hlg
      obtain ⟨TA,fA,sA,a1,a2,a3⟩:=exTH zy0e (t1 hlg)
      simp only [qC,stC] at a2
      push_cast at a2
      refine V_W mix sA ?_
      simp (disch:=first|omega|simp<;>omega|fail) [-zA,-zB,-zC,-zD,-zE,e',e,vX,vS1,pV,hgc,zfvc,zjwp,zpdr,zfr7,a3,zzbb,zfa9,hlo,a1,a2]
      exact ⟨rfl,fun _=>z515 (by simp (disch:=first|omega|simp<;>omega|fail) [-zA,-zB,-zC,-zD,-zE,sV]) (by simp (disch:=first|omega|simp<;>omega|fail) [-zA,-zB,-zC,-zD,-zE])⟩
     | false =>
      rw [hlo] at hlg
      obtain ⟨g0,g1,g2⟩:=t2 hlg
      refine V_W mix zy0e ?_
      simp (disch:=first|omega|simp<;>omega|fail) [-zA,-zB,-zC,-zD,-zE,e',e,vX,vS1,pV,hgc,zfvc,zjwp,zpdr,zzbb,zfa9,hlo]
      exact ⟨rfl,fun _=>z515 (by simp (disch:=first|omega|simp<;>omega|fail) [-zA,-zB,-zC,-zD,-zE,sV,g0,g1]) (by simp (disch:=first|omega|simp<;>omega|fail) [-zA,-zB,-zC,-zD,-zE,g2])⟩
    ·have e':¬ (x.1:Int)<p.length:=by omega
     obtain ⟨g0,g1,g2⟩:=t2 (zcgi e)
     refine V_W mix zy0e ?_
     simp (disch:=first|omega|simp<;>omega|fail) [-zA,-zB,-zC,-zD,-zE,e',vX,vS1,pV]
     exact ⟨rfl,fun _=>z515 (by simp (disch:=first|omega|simp<;>omega|fail) [-zA,-zB,-zC,-zD,-zE,sV,g0,g1]) (by simp (disch:=first|omega|simp<;>omega|fail) [-zA,-zB,-zC,-zD,-zE,g2])⟩
end
section
set_option linter.unusedSimpArgs false
set_option linter.unusedVariables false
open Go Go.Am
def aft (k:Nat) (c:B8):Option Nat:=if c=47#8 then (if k=3 then some 0 else none) else if c=46#8∧k≠3 then some (k+1) else some 3
def extD (k:Nat) (c:B8):DV := .tup [.int .i64 ((aft k c).getD 0),.bool (aft k c).isSome]
theorem zbdh (k:Nat) (c:B8) (hk:k≤3):Runs tbl0 a62 [.int .i64 k,w8 c] (extD k c):=by
 refine ⟨?_⟩
 by_cases h1:c=47#8
 ·have h1q:(c == 47#8)=true:=by simp [h1]
  by_cases h2:k=3
  ·have h2':(k:Int)=3:=by omega
   simp (disch:=first|omega|simp<;>omega|fail) [-zA,-zB,-zC,-zD,-zE,a62,h1,h1q,h2,h2',extD,aft]
  ·have h2':¬ (k:Int)=3:=by omega
   simp (disch:=first|omega|simp<;>omega|fail) [-zA,-zB,-zC,-zD,-zE,a62,h1,h1q,h2,h2',extD,aft]
 ·have h1q:(c == 47#8)=false:=by simp [h1]
  by_cases h3:c=46#8
  ·have h3q:(c == 46#8)=true:=by simp [h3]
   by_cases h2:k=3
   ·have h2':(k:Int)=3:=by omega
    simp (disch:=first|omega|simp<;>omega|fail) [-zA,-zB,-zC,-zD,-zE,a62,h1,h1q,h2,h2',h3,h3q,extD,aft]
   ·have h2':¬ (k:Int)=3:=by omega
    simp (disch:=first|omega|simp<;>omega|fail) [-zA,-zB,-zC,-zD,-zE,a62,h1,h1q,h2,h2',h3,h3q,extD,aft]
  ·have h3q:(c == 46#8)=false:=by simp [h3]
   simp (disch:=first|omega|simp<;>omega|fail) [-zA,-zB,-zC,-zD,-zE,a62,h1,h1q,h3,h3q,extD,aft]
noncomputable def cExt:List DV→Option DV:=con (fun a:Nat × B8=>a.1≤3) (fun a=>[.int .i64 a.1,w8 a.2]) (fun a=>extD a.1 a.2)
theorem z0oi {k:Nat} {c:B8} (h:k≤3):cExt [.int .i64 k,w8 c]=some (extD k c) :=
 z400 (A:=fun a:Nat × B8=>a.1≤3) (a:=(k,c)) (f:=fun a=>[.int .i64 a.1,w8 a.2]) (g:=fun a=>extD a.1 a.2) (by
  rintro ⟨a,b⟩ ⟨c,d⟩ _ _ e
  simp only [List.cons.injEq,DV.int.injEq,z21y,and_true,true_and] at e
  obtain ⟨e1,rfl⟩:=e
  have:a=c:=by omega
  subst this; rfl) h
noncomputable def TX:Tbl:=addT 62 (.pure cExt) T59
theorem zk4o:TX 62 = .pure cExt:=by simp [TX]
theorem ze36:TX 63 = .pure zyoe:=by simp [TX,T59]
theorem zvgr:TX 61 = .pure zupo:=by simp [TX,zzbb]
theorem zx3h:TX 70 = .pure zst5:=by simp [TX,zi94]
theorem z3ek:TX 71 = .pure z22e:=by simp [TX,zf3w]
theorem z999:TX 72 = .pure z489:=by simp [TX,zev5]
theorem zume:TX.Sound P:=z0rp (z2au fun a h=>zljw mix zr5o Tryd.func62 z0i3 (zbdh a.1 a.2 h)) zy0e
theorem zv7f {k:Nat} {c:B8} {n:Nat} (hk:k≤3) (h:aft k c=some n):n≤3:=by
 unfold aft at h
 split at h
 ·split at h<;>simp at h; omega
 ·split at h
  ·simp at h; omega
  ·simp at h; omega
def adv (l:List Pt) (i:Nat):Nat:=if (l.getD i .dot).long=true then i else i+1
def fu:Nat:=401
def stp1 (p q:List Pt) (x:Q) (A:Came × List Q) (c:B8):Came × List Q :=
 match aft x.2.2 c with
 | none=>A
 | some k=>if (p.getD x.1 .dot).takes c=true∧(q.getD x.2.1 .dot).takes c=true then vis p q fu A.1 A.2 (adv p x.1,adv q x.2.1,k) (x,c) else A
def mvs (p q:List Pt) (cs:Pt→Pt→List B8) (A:Came × List Q) (x:Q):Came × List Q :=
 if x.1<p.length∧x.2.1<q.length then (cs (p.getD x.1 .dot) (q.getD x.2.1 .dot)).foldl (stp1 p q x) A else A
theorem z9l4 {p q:List Pt} {x:Q} {A:Came × List Q} {c:B8} (hx:z4ew p.length q.length x) (h1:x.1<p.length) (h2:x.2.1<q.length) (h:CL p.length q.length A):CL p.length q.length (stp1 p q x A c):=by
 unfold stp1
 split
 ·exact h
 ·rename_i k hk
  split
  ·refine zlxe p q fu _ _ _ _ h ⟨?_,?_,zv7f hx.2.2 hk⟩
   ·unfold adv; dsimp only; split<;>omega
   ·unfold adv; dsimp only; split<;>omega
  ·exact h
theorem z0z6 {p q:List Pt} {x:Q} (hx:z4ew p.length q.length x) (h1:x.1<p.length) (h2:x.2.1<q.length) : ∀ (cs:List B8) (A:Came × List Q),CL p.length q.length A→CL p.length q.length (cs.foldl (stp1 p q x) A)
 | [],A,h=>h
 | c::cs,A,h=>z0z6 hx h1 h2 cs _ (z9l4 hx h1 h2 h)
theorem zrnz {p q:List Pt} {cs:Pt→Pt→List B8} {x:Q} {A:Came × List Q} (hx:z4ew p.length q.length x) (h:CL p.length q.length A):CL p.length q.length (mvs p q cs A x):=by
 unfold mvs
 split
 ·rename_i e; exact z0z6 hx e.1 e.2 _ _ h
 ·exact h
def chP:Pt→Pt→List B8
 | .one c,_=>[c]
 | _,.one c=>[c]
 | _,_=>[97#8,47#8]
theorem zpon {a b:Pt} (h:a.kind=0):chP a b=[a.chr]:=by cases a<;>simp [Pt.kind] at h; rfl
theorem zzqz {a b:Pt} (h:¬ a.kind=0) (h':b.kind=0):chP a b=[b.chr]:=by cases a<;>simp [Pt.kind] at h<;>cases b<;>simp [Pt.kind] at h'<;>rfl
theorem zn0n {a b:Pt} (h:¬ a.kind=0) (h':¬ b.kind=0):chP a b=[97#8,47#8]:=by cases a<;>simp [Pt.kind] at h<;>cases b<;>simp [Pt.kind] at h'<;>rfl
end
section
set_option linter.unusedSimpArgs false
set_option linter.unusedVariables false
open Go Go.Am
theorem ze3y {rs:List ARes} {v:DV} {k:List AObj} {Ψ:DV→List AObj→Prop} (hq:Ψ v k) (e:AExit) (st:St) (h:retH rs v k e st):RetA rs Ψ e st:=by
 have h:=h.out
 cases e with
 | normal=>obtain ⟨d,h1,h2,h3⟩:=h; exact ⟨d,h1,by rw [h2,h3]; exact hq⟩
 | ret=>obtain ⟨d,h1,h2,h3⟩:=h; exact ⟨d,h1,by rw [h2,h3]; exact hq⟩
 | exit i=>exact h.elim
theorem zss1 (a b:Pt):(chP a b).length≤2:=by cases a<;>cases b<;>simp [chP]
theorem zpb2 {y:Pt} {b:B8} {h:List AObj}:z46a TX false (zqvz y) [w8 b] h=some (.bool (y.takes b),h):=by
 cases y with
 | one c=>simp [zqvz,zxj6,zx3h,zebc,Pt.takes]
 | dot=>simp [zqvz,zxj6,z999,z936,Pt.takes]
 | some=>simp [zqvz,zxj6,z999,z936,Pt.takes]
 | whole=>simp [zqvz,zxj6,z3ek,zx0u,Pt.takes]
theorem sto0 {h:List AObj} {id:Nat} {a b c:DV} {n:Int}:zy6o h id 1 0 (.int .i64 n) (some [a,b,c])=some (.junk,h.set id (.cells [.int .i64 n,b,c])):=by rw [zltg rfl rfl (by simp)]; rfl
theorem sto1 {h:List AObj} {id:Nat} {a b c:DV} {n:Int}:zy6o h id 1 1 (.int .i64 n) (some [a,b,c])=some (.junk,h.set id (.cells [a,.int .i64 n,c])):=by rw [zltg rfl rfl (by simp)]; rfl
theorem z8we {h:List AObj} {id:Nat} {a b c a' b' c':DV} (h1:a'.one=true) (h2:b'.one=true) (h3:c'.one=true):zy6o h id 3 0 (.agg [a',b',c']) (some [a,b,c])=some (.junk,h.set id (.cells [a',b',c'])):=zfc1 rfl rfl (by simp [h1,h2,h3])
theorem zlwt {a b c:Int}:zvnk [.int .i64 0,.int .i64 0,.int .i64 0] [(0,1,.int .i64 a),(1,1,.int .i64 b),(2,1,.int .i64 c)]=some (.agg [.int .i64 a,.int .i64 b,.int .i64 c]):=rfl
theorem zwp0 {a b c:Int} {d:B8}:zvnk [.int .i64 0,.int .i64 0,.int .i64 0,w8 0#8] [(0,3,.agg [.int .i64 a,.int .i64 b,.int .i64 c]),(3,1,w8 d)]=some (.agg [.int .i64 a,.int .i64 b,.int .i64 c,w8 d]):=rfl
def sB (S X:Nat) (cs:List B8) (v:DV) (h:List AObj) (i:Nat):St:=zbg2 (.mp S 3 0) v (.mp X 3 0) (.mp (X+1) 2 0) (.mp (X+2) 2 0) (.sl true 1 cs.length (cs.map w8)) (.int .i64 cs.length) (.int .i64 i) h
def MvP (p q:List Pt) (cs:Pt→Pt→List B8) (B:Nat) (C:Came) (L:List Q) (x:Q) (h:List AObj) (G:Nat) (d:DV) (k:List AObj):Prop :=
 ∃ G',d=lV G' (mvs p q cs (C,L) x).2∧LH (cM (mvs p q cs (C,L) x).1) B G' (mvs p q cs (C,L) x).2 k∧Fr h G L k G' (mvs p q cs (C,L) x).2
structure XB where
 i:Nat
 A:Came × List Q
 G:Nat
 h:List AObj
structure RB (p q:List Pt) (x:Q) (cs:List B8) (B:Nat) (C:Came) (L:List Q) (G:Nat) (h1:List AObj) (a:XB):Prop where
 le:a.i≤cs.length
 eq:a.A=(cs.take a.i).foldl (stp1 p q x) (C,L)
 l:LH (cM a.A.1) B a.G a.A.2 a.h
 f:Fr h1 G L a.h a.G a.A.2
def sC (S X:Nat) (cs:List B8) (v:DV) (h:List AObj):St:=⟨[.mp S 3 0,v,.junk,.junk,.junk,.mp X 3 0,.junk,.mp (X+1) 2 0,.mp (X+2) 2 0,.sl true 1 cs.length (cs.map w8)]++js 111,h⟩
structure MidC (S X:Nat) (cs:List B8) (v:DV) (h:List AObj) (e:AExit) (s:St):Prop where
 ex:e = .normal ∧ ∀ n0,Weak n0 s (sC S X cs v h)
theorem z0la (p q:List Pt) (hp:p.length≤200) (hq:q.length≤200) (S B:Nat) (C:Came) (L:List Q) (x:Q) (h:List AObj) (G:Nat)
  (hx:z4ew p.length q.length x) (hc:CL p.length q.length (C,L)) (hl:LH (cM C) B G L h) (hs:ziu0 h S=some [pV p,pV q,.mapv B]) (hG:L≠[]→S≠G) :
  zwy1 P 35 [.mp S 3 0,lV G L,.agg (qC x)] h (MvP p q chP B C L x h G):=by
 have vS : ∀ r,objV (h++r) S 3=some [pV p,pV q,.mapv B]:=fun r=>zw28 (z7ko hs) rfl
 have e1:((x.1:Int)=p.length)↔x.1=p.length:=by omega
 have e2:((x.2.1:Int)=q.length)↔x.2.1=q.length:=by omega
 obtain ⟨b1,b2,b3⟩:=hx
 by_cases h1:x.1=p.length
 ·have hm:mvs p q chP (C,L) x=(C,L):=by unfold mvs; rw [if_neg (by omega)]
  refine zcpc Tryd.func35 zxwh (zftn (ze3y (v:=lV G L) (k:=h++[.cells (qC x)]) (by unfold MvP; rw [hm]; exact ⟨G,rfl,hl.app _,Fr.app _ _ _ _⟩)) (V_W mix zume ?_))
  simp (disch:=first|omega|simp<;>omega|fail) [-zA,-zB,-zC,-zD,-zE,a35,qC,pV,zf0q,zjj2,vS,h1]
 by_cases h2:x.2.1=q.length
 ·have hm:mvs p q chP (C,L) x=(C,L):=by unfold mvs; rw [if_neg (by omega)]
  have h1':¬ (x.1:Int)=p.length:=by omega
  refine zcpc Tryd.func35 zxwh (zftn (ze3y (v:=lV G L) (k:=h++[.cells (qC x)]) (by unfold MvP; rw [hm]; exact ⟨G,rfl,hl.app _,Fr.app _ _ _ _⟩)) (V_W mix zume ?_))
  simp (disch:=first|omega|simp<;>omega|fail) [-zA,-zB,-zC,-zD,-zE,a35,qC,pV,zf0q,zjj2,vS,h1',h2]
 have h1':¬ (x.1:Int)=p.length:=by omega
 have h2':¬ (x.2.1:Int)=q.length:=by omega
 have g1:x.1<p.length:=by omega
 have g2:x.2.1<q.length:=by omega
 have ga:=zhys g1
 have gb:=zhys g2
 have da:p.getD x.1 .dot=p[x.1]:=by rw [y00,y01 g1]; rfl
 have db:q.getD x.2.1 .dot=q[x.2.1]:=by rw [y00,y01 g2]; rfl
 obtain ⟨a,ha⟩ : ∃ a,p[x.1]=a:=⟨_,rfl⟩
 obtain ⟨b,hb⟩ : ∃ b,q[x.2.1]=b:=⟨_,rfl⟩
 rw [ha] at ga da
 rw [hb] at gb db
 refine zcpc Tryd.func35 zxwh ?_
 simp only [a35]
 refine zbn1 (V_W mix zume ?_)
 simp (disch:=first|omega|simp<;>omega|fail) [-zA,-zB,-zC,-zD,-zE,qC]
 refine zbn1 (V_W mix zume ?_)
 simp (disch:=first|omega|simp<;>omega|fail) [-zA,-zB,-zC,-zD,-zE,pV,zf0q,zjj2,vS,h1',h2']
 refine zbn1 (V_W mix zume ?_)
 have hSl:=z4sf hs
 have hSn:¬ h.length+1=S:=by omega
 simp (disch:=first|omega|simp<;>omega|fail) [-zA,-zB,-zC,-zD,-zE,pV,zf0q,zjj2,vS,g1,g2,ga,gb,zfvc,z5hp,zm3y,zxft,hSn]
 obtain ⟨h3,hh3⟩ : ∃ h3,h++[AObj.cells [.int .i64 x.1,.int .i64 x.2.1,.int .i64 x.2.2],.cells [.int .i64 a.kind,w8 a.chr],.cells [.int .i64 b.kind,w8 b.chr]]=h3:=⟨_,rfl⟩
 rw [hh3]
 have l3:LH (cM C) B G L h3:=by rw [← hh3]; exact hl.app _
 have f3:Fr h G L h3 G L:=by rw [← hh3]; exact Fr.app _ _ _ _
 have o0:ziu0 h3 h.length=some (qC x):=by
  rw [← hh3]; exact zzga (h:=h) (id:=0)
 have o1:ziu0 h3 (h.length+1)=some [.int .i64 a.kind,w8 a.chr]:=by
  rw [← hh3]; exact zzga (h:=h) (id:=1)
 have o2:ziu0 h3 (h.length+2)=some [.int .i64 b.kind,w8 b.chr]:=by
  rw [← hh3]; exact zzga (h:=h) (id:=2)
 have oS:=f3.at_ hs hG
 have nG : ∀ j,L≠[]→h.length+j≠G:=fun j e=>by have:=z4sf (hl.lo e); omega
 have v1:objV h3 (h.length+1) 2=some [.int .i64 a.kind,w8 a.chr]:=zw28 o1 rfl
 have v2:objV h3 (h.length+2) 2=some [.int .i64 b.kind,w8 b.chr]:=zw28 o2 rfl
 refine zbn1 (V_W mix zume ?_)
 simp (disch:=first|omega|simp<;>omega|fail) [-zA,-zB,-zC,-zD,-zE]
 refine zbn1 (zftn (Φ:=MidC S h.length (chP a b) (lV G L) h3) (fun e s ⟨he,hw⟩ => ?_) ?_)
 rotate_left 1
 ·by_cases k1:a.kind=0
  ·refine V_W mix zume ?_
   simp (disch:=first|omega|simp<;>omega|fail) [-zA,-zB,-zC,-zD,-zE,v1,k1]
   exact ⟨rfl,fun _=>z515 (by simp (disch:=first|omega|simp<;>omega|fail) [-zA,-zB,-zC,-zD,-zE,sC,zpon k1]) (by simp (disch:=first|omega|simp<;>omega|fail) [-zA,-zB,-zC,-zD,-zE])⟩
  ·by_cases k2:b.kind=0
   ·refine V_W mix zume ?_
    simp (disch:=first|omega|simp<;>omega|fail) [-zA,-zB,-zC,-zD,-zE,v1,v2,k1,k2]
    exact ⟨rfl,fun _=>z515 (by simp (disch:=first|omega|simp<;>omega|fail) [-zA,-zB,-zC,-zD,-zE,sC,zzqz k1 k2]) (by simp (disch:=first|omega|simp<;>omega|fail) [-zA,-zB,-zC,-zD,-zE])⟩
   ·refine V_W mix zume ?_
    simp (disch:=first|omega|simp<;>omega|fail) [-zA,-zB,-zC,-zD,-zE,v1,v2,k1,k2]
    exact ⟨rfl,fun _=>z515 (by simp (disch:=first|omega|simp<;>omega|fail) [-zA,-zB,-zC,-zD,-zE,sC,zn0n k1 k2]) (by simp (disch:=first|omega|simp<;>omega|fail) [-zA,-zB,-zC,-zD,-zE])⟩
 subst he
 refine zqfd (hw _) ?_
 have hmv:mvs p q chP (C,L) x=(chP a b).foldl (stp1 p q x) (C,L):=by unfold mvs; rw [if_pos ⟨g1,g2⟩,da,db]
 have hc2:(chP a b).length≤2:=zss1 a b
 generalize chP a b=cs at hmv hc2
 simp only [sC]
 refine zbn1 (zbn1 (V_W mix zume ?_))
 simp (disch:=first|omega|simp<;>omega|fail) [-zA,-zB,-zC,-zD,-zE]
 refine z3mo (ztbr (fun a:XB=>sB S h.length cs (lV a.G a.A.2) a.h a.i) (fun a=>cs.length-a.i) (RB p q x cs B C L G h3) ⟨0,(C,L),G,h3⟩ (z515 (by simp (disch:=first|omega|simp<;>omega|fail) [-zA,-zB,-zC,-zD,-zE,sB,zbg2]) (by simp (disch:=first|omega|simp<;>omega|fail) [-zA,-zB,-zC,-zD,-zE,sB,zbg2])) ⟨by simp,by simp,l3,.refl _ _ _⟩ (fun y hy => ?_))
 obtain ⟨i,A,G',k⟩:=y
 obtain ⟨q1,q2,q3,q4⟩:=hy
 simp only at q1 q2 q3 q4
 simp only [ztv8,zbg2,sB]
 refine zbn1 (V_W mix zume ?_)
 simp (disch:=first|omega|simp<;>omega|fail) [-zA,-zB,-zC,-zD,-zE]
 by_cases hi:i<cs.length
 ·have hi':(i:Int)<cs.length:=by omega
  have hx':z4ew p.length q.length x:=⟨b1,b2,b3⟩
  have hcl:CL p.length q.length A:=by rw [q2]; exact z0z6 hx' g1 g2 _ _ hc
  have hcs:cs.take (i+1)=cs.take i++[cs[i]]:=zmqh hi
  obtain ⟨c,hcc⟩ : ∃ c,cs[i]=c:=⟨_,rfl⟩
  rw [hcc] at hcs
  have q2':(cs.take (i+1)).foldl (stp1 p q x) (C,L)=stp1 p q x A c:=by rw [hcs,List.foldl_append,← q2]; rfl
  have w0:objV k h.length 3=some (qC x):=zw28 (q4.at_ o0 (fun e=>nG 0 e)) rfl
  have w1:objV k (h.length+1) 2=some [.int .i64 a.kind,w8 a.chr]:=zw28 (q4.at_ o1 (nG 1)) rfl
  have w2:objV k (h.length+2) 2=some [.int .i64 b.kind,w8 b.chr]:=zw28 (q4.at_ o2 (nG 2)) rfl
  have hcx:cExt [.int .i64 x.2.2,w8 c]=some (extD x.2.2 c):=z0oi b3
  simp only [qC] at w0
  refine zbn1 (V_W mix zume ?_)
  simp (disch:=first|omega|simp<;>omega|fail) [-zA,-zB,-zC,-zD,-zE,hi',hi]
  refine zbn1 (z3mo ?_)
  refine zbn1 (V_W mix zume ?_)
  simp (disch:=first|omega|simp<;>omega|fail) [-zA,-zB,-zC,-zD,-zE,hi',hi,hcc]
  refine zbn1 (V_W mix zume ?_)
  simp (disch:=first|omega|simp<;>omega|fail) [-zA,-zB,-zC,-zD,-zE,w0,zk4o,hcx,extD]
  by_cases hok:(aft x.2.2 c).isSome=true∧a.takes c=true∧b.takes c=true
  ·obtain ⟨k1,k2,k3⟩:=hok
   obtain ⟨nm,hnm⟩:=Option.isSome_iff_exists.1 k1
   have hst:stp1 p q x A c=vis p q fu A.1 A.2 (adv p x.1,adv q x.2.1,nm) (x,c):=by unfold stp1; rw [hnm]; simp only [da,db,k2,k3,and_self,if_true]
   refine zbn1 (V_W mix zume ?_)
   simp (disch:=first|omega|simp<;>omega|fail) [-zA,-zB,-zC,-zD,-zE,w1,w2,hnm,zfvc,ze36,zkt2,zpb2,k2,k3]
   have hla:lgP p x.1=a.long:=by rw [zl58 g1,ha]
   have hlb:lgP q x.2.1=b.long:=by rw [zl58 g2,hb]
   have hbx:z4ew p.length q.length (adv p x.1,adv q x.2.1,nm):=⟨by unfold adv; dsimp only; split<;>omega,by unfold adv; dsimp only; split<;>omega,zv7f b3 hnm⟩
   have hSk:=q4.at_ oS hG
   have nS:A.2≠[]→S≠G':=fun e q=>by
    rcases q4.new e with ⟨r1,r2⟩|r
    ·exact hG r1 (q.trans r2)
    ·have:=z4sf oS; omega
   obtain ⟨G4,k4,t1,t2,t3⟩:=zapw p q hp hq S B fu A.1 A.2 (adv p x.1,adv q x.2.1,nm) (x,c) (k++[.cells (qC (adv p x.1,adv q x.2.1,nm))]) G' (by unfold fu; omega) hbx hcl (q3.app _) (z7ko hSk) nS
   rw [← hst,← q2'] at t1 t2 t3
   obtain ⟨TA,fA,sA,a1,a2,a3⟩:=exTH zume t1
   have w0' : ∀ r,objV (k++r) h.length 3=some [.int .i64 x.1,.int .i64 x.2.1,.int .i64 x.2.2]:=fun r=>zw28 (z7ko (q4.at_ o0 (fun e=>nG 0 e))) rfl
   have w1' : ∀ r,objV (k++r) (h.length+1) 2=some [.int .i64 a.kind,w8 a.chr]:=fun r=>zw28 (z7ko (q4.at_ o1 (nG 1))) rfl
   have w2' : ∀ r,objV (k++r) (h.length+2) 2=some [.int .i64 b.kind,w8 b.chr]:=fun r=>zw28 (z7ko (q4.at_ o2 (nG 2))) rfl
   have hfin:RB p q x cs B C L G h3 ⟨i+1,(cs.take (i+1)).foldl (stp1 p q x) (C,L),G4,k4⟩:=⟨by simp only; omega,rfl,t2,(q4.trans (Fr.app _ _ _ _)).trans t3⟩
   generalize (cs.take (i+1)).foldl (stp1 p q x) (C,L)=A4 at t1 t2 t3 a2 hfin
   have adp:adv p x.1=if a.long=true then x.1 else x.1+1:=by unfold adv; rw [da]
   have adq:adv q x.2.1=if b.long=true then x.2.1 else x.2.1+1:=by unfold adv; rw [db]
   rw [adp,adq] at a2
   have T1:TA 61 = .pure zupo:=by rw [a3 _ (by decide),zvgr]
   cases la:a.long<;>cases lb:b.long
   all_goals
    simp only [la,lb,if_true,Bool.false_eq_true,if_false,qC,stC] at a2
    push_cast at a2
    refine V_W mix sA ?_
    simp (disch:=first|omega|simp<;>omega|fail) [-zA,-zB,-zC,-zD,-zE,w0,w1,w2,w0',w1',w2',hnm,zfvc,zjwp,zpdr,zlwt,zwp0,z8we,sto0,sto1,zjj2,zxft,T1,zfa9,la,lb,a1,a2]
    refine V_W mix zume ?_
    simp (disch:=first|omega|simp<;>omega|fail) [-zA,-zB,-zC,-zD,-zE]
    exact ⟨⟨i+1,A4,G4,k4⟩,z515 (by simp (disch:=first|omega|simp<;>omega|fail) [-zA,-zB,-zC,-zD,-zE]) (by simp (disch:=first|omega|simp<;>omega|fail) [-zA,-zB,-zC,-zD,-zE]),by simp only; omega,hfin⟩
  ·have hst:stp1 p q x A c=A:=by
    unfold stp1
    split
    ·rfl
    ·rename_i nm hnm
     rw [da,db,if_neg (fun e=>hok ⟨by rw [hnm]; rfl,e.1,e.2⟩)]
   rw [hst] at q2'
   have hfin:RB p q x cs B C L G h3 ⟨i+1,A,G',k⟩:=⟨by simp only; omega,q2'.symm,q3,q4⟩
   refine zbn1 (V_W mix zume ?_)
   cases hn:aft x.2.2 c with
   | none =>
    simp (disch:=first|omega|simp<;>omega|fail) [-zA,-zB,-zC,-zD,-zE,hn]
    refine V_W mix zume ?_
    simp (disch:=first|omega|simp<;>omega|fail) [-zA,-zB,-zC,-zD,-zE]
    exact ⟨⟨i+1,A,G',k⟩,z515 (by simp (disch:=first|omega|simp<;>omega|fail) [-zA,-zB,-zC,-zD,-zE]) (by simp (disch:=first|omega|simp<;>omega|fail) [-zA,-zB,-zC,-zD,-zE]),by simp only; omega,hfin⟩
   | some nm =>
    cases ka:a.takes c with
    | false =>
     simp (disch:=first|omega|simp<;>omega|fail) [-zA,-zB,-zC,-zD,-zE,hn,w1,w2,zfvc,ze36,zkt2,zpb2,ka]
     refine V_W mix zume ?_
     simp (disch:=first|omega|simp<;>omega|fail) [-zA,-zB,-zC,-zD,-zE]
     exact ⟨⟨i+1,A,G',k⟩,z515 (by simp (disch:=first|omega|simp<;>omega|fail) [-zA,-zB,-zC,-zD,-zE]) (by simp (disch:=first|omega|simp<;>omega|fail) [-zA,-zB,-zC,-zD,-zE]),by simp only; omega,hfin⟩
    | true =>
     have kb:b.takes c=false:=by
      cases kb:b.takes c with
      | false=>rfl
      | true=>exact absurd ⟨by rw [hn]; rfl,ka,kb⟩ hok
     simp (disch:=first|omega|simp<;>omega|fail) [-zA,-zB,-zC,-zD,-zE,hn,w1,w2,zfvc,ze36,zkt2,zpb2,ka,kb]
     refine V_W mix zume ?_
     simp (disch:=first|omega|simp<;>omega|fail) [-zA,-zB,-zC,-zD,-zE]
     exact ⟨⟨i+1,A,G',k⟩,z515 (by simp (disch:=first|omega|simp<;>omega|fail) [-zA,-zB,-zC,-zD,-zE]) (by simp (disch:=first|omega|simp<;>omega|fail) [-zA,-zB,-zC,-zD,-zE]),by simp only; omega,hfin⟩
 ·have hi':¬ (i:Int)<cs.length:=by omega
  refine zbn1 (V_W mix zume ?_)
  simp (disch:=first|omega|simp<;>omega|fail) [-zA,-zB,-zC,-zD,-zE,hi',hi]
  refine zftn (ze3y (v:=lV G' A.2) (k:=k) ?_) (V_W mix zume ?_)
  ·rw [y07 (by omega),← hmv] at q2
   subst q2
   exact ⟨G',rfl,q3,f3.trans q4⟩
  ·simp (disch:=first|omega|simp<;>omega|fail) [-zA,-zB,-zC,-zD,-zE]
end
end Go.Proofs.YtaihpefemjlilaaDoor
