/-
  56 texts of mine in one.
-/
import Derived.Lib.IndexLaws
import Derived.Test.YtaihpefemjlilaaProg
import Derived.Lib.AppendZeros
import Derived.WalkKit
import Derived.Lib.BytesEntry
import Derived.Test.YtaihpefemjlilaaCeea056a4
import Derived.Test.YtaihpefemjlilaaCe215dd6a
import Derived.Test.YtaihpefemjlilaaCa70e4ebb
import Derived.Test.YtaihpefemjlilaaCa3048db6
set_option maxRecDepth 20000
set_option maxHeartbeats 4000000
open List renaming map_take → zA, map_drop → zB, map_set → zC, map_append → zD, drop_one → zE
set_option linter.unusedSimpArgs false
set_option linter.unusedVariables false
namespace Go.Proofs.Ytaihpefemjlilaa
open Go Go.Am
abbrev B8:=BitVec 8
inductive Pt where
 | one (c:B8)|dot|some|whole
deriving DecidableEq
def Pt.kind:Pt→Int
 | .one _=>0 | .dot=>1 | .some=>2 | .whole=>3
def noZ (s:List UInt8):Bool:=s.all fun c=>c != 0
def z2fg:List UInt8→List (List UInt8)
 | []=>[[]]
 | c::r=>if c=47 then []::z2fg r else
  match z2fg r with
  | []=>[[c]]
  | h::t=>(c::h)::t
def okC (x:List UInt8):Bool:=x != []&&x != [46]&&x != [46,46]
def zj1f (s:List UInt8):Bool:=decide (1≤s.length)&&decide (s.length≤200)&&noZ s&&(z2fg s).all okC
end Go.Proofs.Ytaihpefemjlilaa
set_option linter.unusedSimpArgs false
set_option linter.unusedVariables false
namespace Go.Proofs.Ytaihpefemjlilaa
open Go Go.Am
abbrev Dg:={ a:List B8 // a.length=32 }
def dgC (d:Dg):List DV:=d.1.map w8
def dg0:Dg:=⟨rep 32 0#8,by simp [rep]⟩
theorem z1t1 (d:Dg):(dgC d).length=32:=by simp [dgC,d.2]
theorem z3ot (d:Dg):zbao (dgC d)=true:=zdqb
theorem zib9 {a b:Dg} (h:dgC a=dgC b):a=b:=Subtype.ext (by rw [dgC,dgC,zwcl] at h; exact h)
structure Sl (α:Type) where
 k:Option Bool
 l:List α
 h:k=none→l=[]
 b:l.length≤4294967296
def Sl.dv {α:Type} (x:Sl α) (s:Nat) (f:α→List DV):DV:=slD x.k s x.l.length (x.l.flatMap f)
section
variable {α:Type} {f:α→List DV} {s:Nat} {h:List AObj} {x:Sl α} {n k:Nat}
theorem z1rq (hu : ∀ a,(f a).length=s) : ∀ (l:List α),(l.flatMap f).length=l.length*s
 | []=>by simp
 | a::l=>by rw [List.flatMap_cons,List.length_append,hu,z1rq hu l,List.length_cons,Nat.add_mul]; omega
theorem zkb2 (hu : ∀ a,(f a).length=s) : ∀ (l:List α) (i:Nat),(l.flatMap f).drop (i*s)=(l.drop i).flatMap f
 | [],i=>by simp
 | a::l,0=>by simp
 | a::l,i+1=>by
  have ha:=hu a
  rw [List.flatMap_cons,List.drop_append,List.drop_of_length_le (by rw [ha,Nat.add_mul]; omega),ha,show (i+1)*s-s=i*s from by rw [Nat.add_mul]; omega,zkb2 hu l,List.nil_append,List.drop_succ_cons]
theorem zdao (hu : ∀ a,(f a).length=s) {l:List α} {i:Nat} (hi:i<l.length):((l.flatMap f).drop (i*s)).take s=f l[i]:=by
 rw [zkb2 hu,List.drop_eq_getElem_cons hi,List.flatMap_cons,List.take_left' (hu _)]
theorem zg0c : ∀ {a b:List DV},zbao a=true→zbao b=true→zbao (a++b)=true
 | [],_,_,h=>h
 | d::r,b,h1,h2=>by simp only [List.cons_append,zbao,Bool.and_eq_true] at *; exact ⟨h1.1,zg0c h1.2 h2⟩
theorem zp6k (hp : ∀ a,zbao (f a)=true) : ∀ (l:List α),zbao (l.flatMap f)=true
 | []=>rfl
 | a::l=>by rw [List.flatMap_cons]; exact zg0c (hp a) (zp6k hp l)
theorem zxxb (hp : ∀ a,zbao (f a)=true) (x:Sl α):zyp8 (x.dv s f)=true:=by
 obtain ⟨k,l,h,hb1⟩:=x
 cases k with
 | none=>rfl
 | some b=>show zbao _=true; exact zp6k hp l
theorem z4ja (x:Sl α):(x.dv s f).one=true:=by obtain ⟨k,l,h,hb1⟩:=x; cases k<;>rfl
theorem ztw5 (x:Sl α):(x.dv s f).known=true:=by obtain ⟨k,l,h,hb1⟩:=x; cases k<;>rfl
theorem zs9p (x:Sl α):(x.dv s f).cells=[x.dv s f]:=by obtain ⟨k,l,h,hb1⟩:=x; cases k<;>rfl
theorem zupj:lenD h (x.dv s f)=some (.int .i64 x.l.length):=by
 obtain ⟨k,l,h,hb1⟩:=x
 cases k with
 | none=>cases h rfl; rfl
 | some b=>rfl
theorem zalo (hu : ∀ a,(f a).length=s) {i:Nat} (hi:i<x.l.length):zpsc h s (x.dv s f) i=some (.ref (f x.l[i])):=by
 obtain ⟨k,l,h,hb1⟩:=x
 cases k with
 | none=>cases h rfl; simp at hi
 | some b =>
  simp only [Sl.dv,zip4]
  rw [zsu0 (by omega) (by simp only at hi; omega),Int.toNat_natCast,zdao hu hi]
theorem z2x3:zrfk h (x.dv s f)=some (0,x.k.isNone):=by obtain ⟨k,l,h,hb1⟩:=x; cases k<;>rfl
end
structure Grp where
 ns:List UInt8
 im:List UInt8
 want:Int
 least:Int
 down:Int
 ch:Sl Dg
def grC (g:Grp):List DV:=[.str g.ns,.str g.im,.int .i64 g.want,.int .i64 g.least,.int .i64 g.down,g.ch.dv 32 dgC]
structure Ins where
 id:Int
 grp:Int
 art:Dg
 state:Int
 since:Int
 den:Int
 deriving DecidableEq
def inC (x:Ins):List DV := .int .i64 x.id :: .int .i64 x.grp::(dgC x.art++[.int .i64 x.state,.int .i64 x.since,.int .i64 x.den])
structure Clu where
 g:Sl Grp
 i:Sl Ins
 next:Int
def clC (c:Clu):List DV:=[c.g.dv 6 grC,c.i.dv 37 inC,.int .i64 c.next]
theorem zry4 (g:Grp):(grC g).length=6:=by simp [grC]
theorem z6gw (x:Ins):(inC x).length=37:=by simp [inC,z1t1]
theorem zlha (c:Clu):(clC c).length=3:=by simp [clC]
theorem zpfc (x:Sl Dg):zyp8 (x.dv 32 dgC)=true:=zxxb z3ot x
theorem zxeb (g:Grp):zbao (grC g)=true:=by simp [grC,zbao,zyp8,zpfc]
theorem z9kv (x:Ins):zbao (inC x)=true:=by
 simp only [inC,zbao,zyp8,Bool.true_and]
 exact zg0c (z3ot _) (by simp [zbao,zyp8])
theorem z1vd (x:Sl Grp):zyp8 (x.dv 6 grC)=true:=zxxb zxeb x
theorem zcha (x:Sl Ins):zyp8 (x.dv 37 inC)=true:=zxxb z9kv x
theorem zy11 (c:Clu):zbao (clC c)=true:=by simp [clC,zbao,zyp8,z1vd,zcha]
theorem zrji (x:Ins):(inC x).drop 2=dgC x.art++[.int .i64 x.state,.int .i64 x.since,.int .i64 x.den]:=rfl
theorem zlh1 (x:Ins):(inC x).drop 34=[.int .i64 x.state,.int .i64 x.since,.int .i64 x.den]:=by
 rw [show (34:Nat)=2+32 from rfl,← List.drop_drop,zrji,List.drop_left' (z1t1 _)]
theorem z3vc (x:Ins):(inC x).drop 35=[.int .i64 x.since,.int .i64 x.den]:=by
 rw [show (35:Nat)=34+1 from rfl,← List.drop_drop,zlh1]; rfl
theorem zlte (x:Ins):(inC x).drop 36=[.int .i64 x.den]:=by
 rw [show (36:Nat)=34+2 from rfl,← List.drop_drop,zlh1]; rfl
section
variable {x:Ins} {g:Grp} {c:Clu} {d:Dg} {r:List DV}
theorem zgz3:oneC 1 false (inC x)=some (.int .i64 x.id):=rfl
theorem zyv0:oneC 1 false ((inC x).drop 1)=some (.int .i64 x.grp):=rfl
theorem zm6n:oneC 32 true ((inC x).drop 2)=some (.agg (dgC x.art)):=by
 rw [zrji]; simp only [oneC,if_true]; rw [if_pos (by simp [z1t1]),List.take_left' (z1t1 _)]
theorem zvh3:oneC 1 false ((inC x).drop 34)=some (.int .i64 x.state):=by rw [zlh1]; rfl
theorem zmwz:oneC 1 false ((inC x).drop 35)=some (.int .i64 x.since):=by rw [z3vc]; rfl
theorem z0hu:oneC 1 false ((inC x).drop 36)=some (.int .i64 x.den):=by rw [zlte]; rfl
theorem zisq:oneC 37 true (inC x)=some (.agg (inC x)):=by simp [oneC,z6gw,List.take_of_length_le]
theorem zuce:oneC 6 true (grC g)=some (.agg (grC g)):=rfl
theorem zn7v:oneC 1 false (grC g)=some (.str g.ns):=rfl
theorem zuiq:oneC 1 false ((grC g).drop 1)=some (.str g.im):=rfl
theorem zhlv:oneC 1 false ((grC g).drop 2)=some (.int .i64 g.want):=rfl
theorem z9em:oneC 1 false ((grC g).drop 3)=some (.int .i64 g.least):=rfl
theorem z8ho:oneC 1 false ((grC g).drop 4)=some (.int .i64 g.down):=rfl
theorem zmm6:oneC 1 false ((grC g).drop 5)=some (g.ch.dv 32 dgC):=rfl
theorem zei9:oneC 3 true (clC c)=some (.agg (clC c)):=rfl
theorem zhtb:oneC 1 false (clC c)=some (c.g.dv 6 grC):=rfl
theorem zxyh:oneC 1 false ((clC c).drop 1)=some (c.i.dv 37 inC):=rfl
theorem zmuj:oneC 1 false ((clC c).drop 2)=some (.int .i64 c.next):=rfl
theorem zwwo:oneC 32 true (dgC d)=some (.agg (dgC d)):=by simp [oneC,z1t1,List.take_of_length_le]
theorem zkf8 {off n:Nat} {a:Bool} (hl:off+n≤37):zhj0 off n a (.agg (inC x))=oneC n a ((inC x).drop off):=by simp [zhj0,z6gw,hl]
theorem z28g {off n:Nat} {a:Bool} (hl:off+n≤6):zhj0 off n a (.agg (grC g))=oneC n a ((grC g).drop off):=by simp [zhj0,zry4,hl]
theorem z715 {off n:Nat} {a:Bool} (hl:off+n≤3):zhj0 off n a (.agg (clC c))=oneC n a ((clC c).drop off):=by simp [zhj0,zlha,hl]
end
attribute [simp] z1t1 zry4 z6gw zlha zupj z2x3 z4ja ztw5 zs9p zgz3 zyv0 zm6n zvh3 zmwz z0hu zisq zuce zn7v zuiq zhlv z9em z8ho zmm6 zei9 zhtb zxyh zmuj zwwo zkf8 z28g z715 z3ot zxeb z9kv zy11 zpfc z1vd zcha
theorem zid2 : ∀ {ks1 ks2:List Nat} {a1 a2 b1 b2:List DV},a1.length=ks1.length→b1.length=ks1.length→z32s (ks1++ks2) (a1++a2) (b1++b2)=(z32s ks1 a1 b1).bind fun p=>(z32s ks2 a2 b2).map fun q=>p&&q
 | [],ks2,[],a2,[],b2,_,_=>by simp [z32s]
 | k::ks1,ks2,x::a1,a2,y::b1,b2,h1,h2=>by
  simp only [List.cons_append,z32s,zid2 (ks1:=ks1) (a1:=a1) (b1:=b1) (by simpa using h1) (by simpa using h2)]
  cases znnj k x y<;>simp only [Option.bind_none,Option.bind_some]
  cases z32s ks1 a1 b1<;>simp only [Option.bind_none,Option.bind_some,Option.map_none,Option.map_some]
  cases z32s ks2 a2 b2<;>simp only [Option.map_none,Option.map_some,Bool.and_assoc]
theorem zyiz {a b:Dg}:z32s (z86x [(32,0)]) (dgC a) (dgC b)=some (decide (a=b)):=by
 rw [dgC,dgC,zgre a.2 b.2]
 simp only [Subtype.ext_iff]
theorem zbik {a b c a' b' c':Int}:z32s [0,0,0] [.int .i64 a,.int .i64 b,.int .i64 c] [.int .i64 a',.int .i64 b',.int .i64 c']=some (decide (a=a'∧b=b'∧c=c')):=by
 simp [z32s,znnj]; rfl
theorem z540 {a b a' b':Int}:z32s [0,0] [.int .i64 a,.int .i64 b] [.int .i64 a',.int .i64 b']=some (decide (a=a'∧b=b')):=by
 simp [z32s,znnj]; rfl
theorem zmar {x y:Ins}:z32s (z86x [(37,0)]) (inC x) (inC y)=some (decide (x=y)):=by
 have e:z86x [(37,0)]=[0,0]++(z86x [(32,0)]++[0,0,0]):=by decide
 have e1 : ∀ x:Ins,inC x=[.int .i64 x.id,.int .i64 x.grp]++(dgC x.art++[.int .i64 x.state,.int .i64 x.since,.int .i64 x.den]):=fun _=>rfl
 rw [e,e1,e1,zid2 rfl rfl,zid2 (by simp [z1t1,z86x]) (by simp [z1t1,z86x]),zyiz,z540,zbik]
 obtain ⟨a,b,c,d,e,f⟩:=x
 obtain ⟨a',b',c',d',e',f'⟩:=y
 simp only [Option.bind_some,Option.map_some,Ins.mk.injEq,Option.some.injEq,Bool.decide_and,Bool.and_assoc]
theorem zii6:List.map w8 (rep 32 0#8)=dgC dg0:=rfl
attribute [simp] zyiz zmar zii6
def ixI {α:Type} (p:α→Bool):List α→Int
 | [] => -1
 | a::l=>if p a=true then 0 else if ixI p l<0 then -1 else ixI p l+1
end Go.Proofs.Ytaihpefemjlilaa
set_option linter.unusedSimpArgs false
set_option linter.unusedVariables false
namespace Go.Proofs.Ytaihpefemjlilaa
open Go Go.Am
noncomputable abbrev P:Program:=Try.prog
theorem mix:P.follows .mixedOrders=true:=by kernel_rfl
def a64:AFn where
 code:=(.seq (.region false [⟨none,(some 4),.mov (.k (.int .i64 0))⟩])
 (.seq (.region false [⟨none,(some 5),.mov (.t 0)⟩,
  ⟨none,(some 6),.mov (.t 1)⟩,
  ⟨none,(some 7),.call (.k (.fn (.func 87) [] [])) [(.t 5),(.t 6)]⟩,
  ⟨none,(some 4),.mov (.t 7)⟩])
 .ret))
 ntmps:=8
 res:=[.tmp 4]
theorem zerh:zsjc P Try.f64=some a64:=by kernel_rfl
def a41:AFn where
 code:=(.seq (.region false [⟨none,(some 4),.mov (.k (.int .i64 0))⟩])
 (.seq (.region false [⟨none,(some 5),.mov (.t 0)⟩,
  ⟨none,(some 6),.mov (.t 1)⟩,
  ⟨none,(some 7),.call (.k (.fn (.func 64) [] [])) [(.t 5),(.t 6)]⟩,
  ⟨none,(some 4),.mov (.t 7)⟩])
 .ret))
 ntmps:=8
 res:=[.tmp 4]
theorem z5y8:zsjc P Try.f41=some a41:=by kernel_rfl
def z2r1:ACode :=
 (.seq (.seq (.region false [⟨none,(some 57),.mov (.t 8)⟩,
  ⟨none,(some 58),.mov (.t 9)⟩,
  ⟨none,(some 59),.bin .lss (.t 57) (.t 58)⟩])
 (.cond (.t 59) .skip
 (.exit 1)))
 (.block 2 (.seq (.seq (.region false [⟨none,(some 60),.mov (.t 0)⟩,
  ⟨none,(some 61),.mov (.t 8)⟩,
  ⟨none,(some 62),.idxStr (.t 60) (.t 61)⟩,
  ⟨none,(some 63),.mov (.t 6)⟩,
  ⟨none,(some 64),.bin .neq (.t 62) (.t 63)⟩])
 (.cond (.t 64) (.seq (.region false [⟨none,(some 65),.mov (.t 0)⟩,
  ⟨none,(some 66),.mov (.t 8)⟩,
  ⟨none,(some 67),.bin .add (.t 66) (.k (.int .i64 1))⟩,
  ⟨none,(some 68),.mov (.t 9)⟩,
  ⟨none,(some 69),.slcStr (.t 65) (some (.t 67)) (some (.t 68))⟩,
  ⟨none,(some 70),.mov (.t 6)⟩,
  ⟨none,(some 71),.call (.k (.fn (.func 64) [] [])) [(.t 69),(.t 70)]⟩,
  ⟨none,(some 11),.mov (.t 71)⟩])
 (.seq (.seq (.region false [⟨none,(some 72),.mov (.t 11)⟩,
  ⟨none,(some 73),.bin .lss (.t 72) (.k (.int .i64 0))⟩])
 (.cond (.t 73) (.seq (.region false [⟨none,(some 4),.mov (.k (.int .i64 (-1)))⟩])
 .ret)
 .skip))
 (.region false [⟨none,(some 74),.mov (.t 8)⟩,
  ⟨none,(some 75),.mov (.t 11)⟩,
  ⟨none,(some 76),.bin .add (.t 75) (.k (.int .i64 1))⟩,
  ⟨none,(some 77),.bin .add (.t 74) (.t 76)⟩,
  ⟨none,(some 8),.mov (.t 77)⟩])))
 .skip))
 (.seq (.seq (.region false [⟨none,(some 78),.mov (.t 0)⟩,
  ⟨none,(some 79),.mov (.t 8)⟩,
  ⟨none,(some 80),.bin .add (.t 79) (.k (.int .i64 1))⟩,
  ⟨none,(some 81),.idxStr (.t 78) (.t 80)⟩,
  ⟨none,(some 82),.mov (.t 7)⟩,
  ⟨none,(some 83),.bin .eql (.t 81) (.t 82)⟩,
  ⟨none,(some 84),.mov (.t 83)⟩,
  ⟨(some (84,true)),(some 85),.mov (.t 0)⟩,
  ⟨(some (84,true)),(some 86),.mov (.t 8)⟩,
  ⟨(some (84,true)),(some 87),.mov (.t 8)⟩,
  ⟨(some (84,true)),(some 88),.mov (.t 5)⟩,
  ⟨(some (84,true)),(some 89),.bin .add (.t 87) (.t 88)⟩,
  ⟨(some (84,true)),(some 90),.slcStr (.t 85) (some (.t 86)) (some (.t 89))⟩,
  ⟨(some (84,true)),(some 91),.mov (.t 1)⟩,
  ⟨(some (84,true)),(some 92),.bin .eql (.t 90) (.t 91)⟩,
  ⟨none,(some 93),.pick (.t 84) (.t 92) (.k (.bool false))⟩])
 (.cond (.t 93) (.seq (.region false [⟨none,(some 94),.mov (.t 8)⟩,
  ⟨none,(some 4),.mov (.t 94)⟩])
 .ret)
 .skip))
 (.seq (.region false [⟨none,(some 95),.mov (.t 8)⟩,
  ⟨none,(some 96),.bin .add (.t 95) (.k (.int .i64 1))⟩,
  ⟨none,(some 8),.mov (.t 96)⟩])
 (.seq (.region false [⟨none,(some 97),.mov (.t 10)⟩,
  ⟨none,(some 98),.bin .add (.t 97) (.k (.int .i64 1))⟩,
  ⟨none,(some 10),.mov (.t 98)⟩])
 (.seq (.region false [⟨none,(some 99),.mov (.t 5)⟩,
  ⟨none,(some 100),.ext (.k .junk) 0⟩,
  ⟨none,(some 101),.bin .leq (.t 99) (.t 100)⟩,
  ⟨none,(some 102),.mov (.t 101)⟩,
  ⟨(some (102,true)),(some 103),.mov (.t 10)⟩,
  ⟨(some (102,true)),(some 104),.mov (.t 8)⟩,
  ⟨(some (102,true)),(some 105),.call (.k (.fn (.func 99) [] [])) [(.t 104)]⟩,
  ⟨(some (102,true)),(some 106),.bin .gtr (.t 103) (.t 105)⟩,
  ⟨none,(some 107),.pick (.t 102) (.t 106) (.k (.bool false))⟩])
 (.cond (.t 107) (.seq (.region false [⟨none,(some 108),.mov (.t 0)⟩,
  ⟨none,(some 109),.mov (.t 8)⟩,
  ⟨none,(some 110),.slcStr (.t 108) (some (.t 109)) none⟩,
  ⟨none,(some 111),.mov (.t 1)⟩,
  ⟨none,(some 112),.call (.k (.fn (.func 98) [] [])) [(.t 110),(.t 111)]⟩,
  ⟨none,(some 12),.mov (.t 112)⟩])
 (.seq (.seq (.region false [⟨none,(some 113),.mov (.t 12)⟩,
  ⟨none,(some 114),.bin .geq (.t 113) (.k (.int .i64 0))⟩])
 (.cond (.t 114) (.seq (.region false [⟨none,(some 115),.mov (.t 12)⟩,
  ⟨none,(some 116),.mov (.t 8)⟩,
  ⟨none,(some 117),.bin .add (.t 115) (.t 116)⟩,
  ⟨none,(some 4),.mov (.t 117)⟩])
 .ret)
 .skip))
 (.seq (.region false [⟨none,(some 4),.mov (.k (.int .i64 (-1)))⟩])
 .ret)))
 (.seq (.region false [⟨none,(some 118),.mov (.t 5)⟩,
  ⟨none,(some 119),.ext (.k .junk) 0⟩,
  ⟨none,(some 120),.bin .gtr (.t 118) (.t 119)⟩,
  ⟨none,(some 121),.mov (.t 120)⟩,
  ⟨(some (121,true)),(some 122),.mov (.t 10)⟩,
  ⟨(some (121,true)),(some 123),.mov (.t 8)⟩,
  ⟨(some (121,true)),(some 124),.bin .shr (.t 123) (.k (w64 4#64))⟩,
  ⟨(some (121,true)),(some 125),.bin .add (.k (.int .i64 4)) (.t 124)⟩,
  ⟨(some (121,true)),(some 126),.bin .geq (.t 122) (.t 125)⟩,
  ⟨none,(some 127),.pick (.t 121) (.t 126) (.k (.bool false))⟩,
  ⟨none,(some 128),.mov (.t 127)⟩,
  ⟨(some (128,true)),(some 129),.mov (.t 8)⟩,
  ⟨(some (128,true)),(some 130),.mov (.t 9)⟩,
  ⟨(some (128,true)),(some 131),.bin .lss (.t 129) (.t 130)⟩,
  ⟨none,(some 132),.pick (.t 128) (.t 131) (.k (.bool false))⟩])
 (.cond (.t 132) (.seq (.region false [⟨none,(some 133),.mov (.t 0)⟩,
  ⟨none,(some 134),.mov (.t 8)⟩,
  ⟨none,(some 135),.slcStr (.t 133) (some (.t 134)) none⟩,
  ⟨none,(some 136),.mov (.t 1)⟩,
  ⟨none,(some 137),.call (.k (.fn (.func 100) [] [])) [(.t 135),(.t 136)]⟩,
  ⟨none,(some 13),.mov (.t 137)⟩])
 (.seq (.seq (.region false [⟨none,(some 138),.mov (.t 13)⟩,
  ⟨none,(some 139),.bin .lss (.t 138) (.k (.int .i64 0))⟩])
 (.cond (.t 139) (.seq (.region false [⟨none,(some 4),.mov (.k (.int .i64 (-1)))⟩])
 .ret)
 .skip))
 (.seq (.region false [⟨none,(some 140),.mov (.t 8)⟩,
  ⟨none,(some 141),.mov (.t 13)⟩,
  ⟨none,(some 142),.bin .add (.t 140) (.t 141)⟩,
  ⟨none,(some 4),.mov (.t 142)⟩])
 .ret)))
 .skip))))))))))
def a88:AFn where
 code:=(.seq (.region false [⟨none,(some 4),.mov (.k (.int .i64 0))⟩])
 (.seq (.region false [⟨none,(some 14),.mov (.t 1)⟩,
  ⟨none,(some 15),.lenStr (.t 14)⟩,
  ⟨none,(some 5),.mov (.t 15)⟩])
 (.seq (.block 0 (.seq (.region false [⟨none,(some 17),.mov (.t 5)⟩,
  ⟨none,(some 18),.bin .eql (.t 17) (.k (.int .i64 0))⟩,
  ⟨none,(some 19),.mov (.t 18)⟩,
  ⟨(some (19,false)),(some 20),.mov (.t 1)⟩,
  ⟨(some (19,false)),(some 21),.mov (.t 0)⟩,
  ⟨(some (19,false)),(some 22),.bin .eql (.t 20) (.t 21)⟩,
  ⟨none,(some 23),.pick (.t 19) (.k (.bool true)) (.t 22)⟩,
  ⟨none,(some 16),.mov (.t 23)⟩])
 (.cond (.t 16) (.seq (.region false [⟨none,(some 4),.mov (.k (.int .i64 0))⟩])
 .ret)
 (.seq (.region false [⟨none,(some 25),.mov (.t 5)⟩,
  ⟨none,(some 26),.bin .eql (.t 25) (.k (.int .i64 1))⟩,
  ⟨none,(some 24),.mov (.t 26)⟩])
 (.cond (.t 24) (.seq (.region false [⟨none,(some 27),.mov (.t 0)⟩,
  ⟨none,(some 28),.mov (.t 1)⟩,
  ⟨none,(some 29),.idxStr (.t 28) (.k (.int .i64 0))⟩,
  ⟨none,(some 30),.call (.k (.fn (.func 64) [] [])) [(.t 27),(.t 29)]⟩,
  ⟨none,(some 4),.mov (.t 30)⟩])
 .ret)
 (.seq (.region false [⟨none,(some 32),.mov (.t 5)⟩,
  ⟨none,(some 33),.mov (.t 0)⟩,
  ⟨none,(some 34),.lenStr (.t 33)⟩,
  ⟨none,(some 35),.bin .geq (.t 32) (.t 34)⟩,
  ⟨none,(some 31),.mov (.t 35)⟩])
 (.cond (.t 31) (.seq (.region false [⟨none,(some 4),.mov (.k (.int .i64 (-1)))⟩])
 .ret)
 (.seq (.region false [⟨none,(some 37),.mov (.t 5)⟩,
  ⟨none,(some 38),.ext (.k .junk) 0⟩,
  ⟨none,(some 39),.bin .leq (.t 37) (.t 38)⟩,
  ⟨none,(some 40),.mov (.t 39)⟩,
  ⟨(some (40,true)),(some 41),.mov (.t 0)⟩,
  ⟨(some (40,true)),(some 42),.lenStr (.t 41)⟩,
  ⟨(some (40,true)),(some 43),.bin .leq (.t 42) (.k (.int .i64 64))⟩,
  ⟨none,(some 44),.pick (.t 40) (.t 43) (.k (.bool false))⟩,
  ⟨none,(some 36),.mov (.t 44)⟩])
 (.cond (.t 36) (.seq (.region false [⟨none,(some 45),.mov (.t 0)⟩,
  ⟨none,(some 46),.mov (.t 1)⟩,
  ⟨none,(some 47),.call (.k (.fn (.func 98) [] [])) [(.t 45),(.t 46)]⟩,
  ⟨none,(some 4),.mov (.t 47)⟩])
 .ret)
 .skip)))))))))
 (.seq (.region false [⟨none,(some 48),.mov (.t 1)⟩,
  ⟨none,(some 49),.idxStr (.t 48) (.k (.int .i64 0))⟩,
  ⟨none,(some 6),.mov (.t 49)⟩])
 (.seq (.region false [⟨none,(some 50),.mov (.t 1)⟩,
  ⟨none,(some 51),.idxStr (.t 50) (.k (.int .i64 1))⟩,
  ⟨none,(some 7),.mov (.t 51)⟩])
 (.seq (.region false [⟨none,(some 8),.mov (.k (.int .i64 0))⟩])
 (.seq (.region false [⟨none,(some 52),.mov (.t 0)⟩,
  ⟨none,(some 53),.lenStr (.t 52)⟩,
  ⟨none,(some 54),.mov (.t 5)⟩,
  ⟨none,(some 55),.bin .sub (.t 53) (.t 54)⟩,
  ⟨none,(some 56),.bin .add (.t 55) (.k (.int .i64 1))⟩,
  ⟨none,(some 9),.mov (.t 56)⟩])
 (.seq (.region false [⟨none,(some 10),.mov (.k (.int .i64 0))⟩])
 (.seq (.block 1 (.loop z2r1))
 (.seq (.region false [⟨none,(some 4),.mov (.k (.int .i64 (-1)))⟩])
 .ret))))))))))
 ntmps:=143
 res:=[.tmp 4]
theorem zqgj:zsjc P Try.f88=some a88:=by kernel_rfl
def a65:AFn where
 code:=(.seq (.region false [⟨none,(some 4),.mov (.k (.str []))⟩,
  ⟨none,(some 5),.mov (.k (.str []))⟩,
  ⟨none,(some 6),.mov (.k (.bool false))⟩])
 (.seq (.seq (.region false [⟨none,(some 8),.mov (.t 0)⟩,
  ⟨none,(some 9),.mov (.t 1)⟩,
  ⟨none,(some 10),.call (.k (.fn (.func 88) [] [])) [(.t 8),(.t 9)]⟩,
  ⟨none,(some 7),.mov (.t 10)⟩])
 (.seq (.region false [⟨none,(some 11),.mov (.t 7)⟩,
  ⟨none,(some 12),.bin .geq (.t 11) (.k (.int .i64 0))⟩])
 (.cond (.t 12) (.seq (.region true [⟨none,(some 13),.mov (.t 0)⟩,
  ⟨none,(some 14),.mov (.t 7)⟩,
  ⟨none,(some 15),.slcStr (.t 13) none (some (.t 14))⟩,
  ⟨none,(some 16),.mov (.t 0)⟩,
  ⟨none,(some 17),.mov (.t 7)⟩,
  ⟨none,(some 18),.mov (.t 1)⟩,
  ⟨none,(some 19),.lenStr (.t 18)⟩,
  ⟨none,(some 20),.bin .add (.t 17) (.t 19)⟩,
  ⟨none,(some 21),.slcStr (.t 16) (some (.t 20)) none⟩,
  ⟨none,(some 4),.mov (.t 15)⟩,
  ⟨none,(some 5),.mov (.t 21)⟩,
  ⟨none,(some 6),.mov (.k (.bool true))⟩])
 .ret)
 .skip)))
 (.seq (.region false [⟨none,(some 22),.mov (.t 0)⟩,
  ⟨none,(some 4),.mov (.t 22)⟩,
  ⟨none,(some 5),.mov (.k (.str []))⟩,
  ⟨none,(some 6),.mov (.k (.bool false))⟩])
 .ret)))
 ntmps:=23
 res:=[.tmp 4,.tmp 5,.tmp 6]
theorem zh04:zsjc P Try.f65=some a65:=by kernel_rfl
def a43:AFn where
 code:=(.seq (.region false [⟨none,(some 4),.mov (.k (.str []))⟩,
  ⟨none,(some 5),.mov (.k (.str []))⟩,
  ⟨none,(some 6),.mov (.k (.bool false))⟩])
 (.seq (.region false [⟨none,(some 7),.mov (.t 0)⟩,
  ⟨none,(some 8),.mov (.t 1)⟩,
  ⟨none,(some 9),.call (.k (.fn (.func 65) [] [])) [(.t 7),(.t 8)]⟩,
  ⟨none,(some 10),.ext (.t 9) 0⟩,
  ⟨none,(some 11),.ext (.t 9) 1⟩,
  ⟨none,(some 12),.ext (.t 9) 2⟩,
  ⟨none,(some 4),.mov (.t 10)⟩,
  ⟨none,(some 5),.mov (.t 11)⟩,
  ⟨none,(some 6),.mov (.t 12)⟩])
 .ret))
 ntmps:=13
 res:=[.tmp 4,.tmp 5,.tmp 6]
theorem zbv8:zsjc P Try.f43=some a43:=by kernel_rfl
def zyu0:ACode :=
 (.seq (.seq (.region false [⟨none,(some 18),.mov (.t 3)⟩])
 (.cond (.t 18) .skip
 (.exit 0)))
 (.block 1 (.seq (.region false [⟨none,(some 4),.mov (.k (.str []))⟩])
 (.seq (.region false [⟨none,(some 20),.mov (.t 0)⟩,
  ⟨none,(some 21),.call (.k (.fn (.func 43) [] [])) [(.t 20),(.k (.str [47]))]⟩,
  ⟨none,(some 19),.mov (.t 21)⟩,
  ⟨none,(some 22),.ext (.t 19) 0⟩,
  ⟨none,(some 23),.ext (.t 19) 1⟩,
  ⟨none,(some 24),.ext (.t 19) 2⟩,
  ⟨none,(some 4),.mov (.t 22)⟩,
  ⟨none,(some 0),.mov (.t 23)⟩,
  ⟨none,(some 3),.mov (.t 24)⟩])
 (.seq (.region false [⟨none,(some 25),.mov (.t 4)⟩,
  ⟨none,(some 26),.bin .eql (.t 25) (.k (.str []))⟩,
  ⟨none,(some 27),.mov (.t 26)⟩,
  ⟨(some (27,false)),(some 28),.mov (.t 4)⟩,
  ⟨(some (27,false)),(some 29),.bin .eql (.t 28) (.k (.str [46]))⟩,
  ⟨none,(some 30),.pick (.t 27) (.k (.bool true)) (.t 29)⟩,
  ⟨none,(some 31),.mov (.t 30)⟩,
  ⟨(some (31,false)),(some 32),.mov (.t 4)⟩,
  ⟨(some (31,false)),(some 33),.bin .eql (.t 32) (.k (.str [46,46]))⟩,
  ⟨none,(some 34),.pick (.t 31) (.k (.bool true)) (.t 33)⟩])
 (.cond (.t 34) (.seq (.region false [⟨none,(some 2),.mov (.k (.bool false))⟩])
 .ret)
 .skip))))))
def a23:AFn where
 code:=(.seq (.region false [⟨none,(some 2),.mov (.k (.bool false))⟩])
 (.seq (.seq (.region false [⟨none,(some 5),.mov (.t 0)⟩,
  ⟨none,(some 6),.lenStr (.t 5)⟩,
  ⟨none,(some 7),.bin .lss (.t 6) (.k (.int .i64 1))⟩,
  ⟨none,(some 8),.mov (.t 7)⟩,
  ⟨(some (8,false)),(some 9),.mov (.t 0)⟩,
  ⟨(some (8,false)),(some 10),.lenStr (.t 9)⟩,
  ⟨(some (8,false)),(some 11),.bin .gtr (.t 10) (.k (.int .i64 200))⟩,
  ⟨none,(some 12),.pick (.t 8) (.k (.bool true)) (.t 11)⟩,
  ⟨none,(some 13),.mov (.t 12)⟩,
  ⟨(some (13,false)),(some 14),.mov (.t 0)⟩,
  ⟨(some (13,false)),(some 15),.call (.k (.fn (.func 41) [] [])) [(.t 14),(.k (w8 0#8))]⟩,
  ⟨(some (13,false)),(some 16),.bin .geq (.t 15) (.k (.int .i64 0))⟩,
  ⟨none,(some 17),.pick (.t 13) (.k (.bool true)) (.t 16)⟩])
 (.cond (.t 17) (.seq (.region false [⟨none,(some 2),.mov (.k (.bool false))⟩])
 .ret)
 .skip))
 (.seq (.seq (.region false [⟨none,(some 3),.mov (.k (.bool true))⟩])
 (.block 0 (.loop zyu0)))
 (.seq (.region false [⟨none,(some 2),.mov (.k (.bool true))⟩])
 .ret))))
 ntmps:=35
 res:=[.tmp 2]
theorem ztyx:zsjc P Try.f23=some a23:=by kernel_rfl
end Go.Proofs.Ytaihpefemjlilaa
set_option linter.unusedSimpArgs false
set_option linter.unusedVariables false
namespace Go.Proofs.Ytaihpefemjlilaa
open Go Go.Am
theorem zpwu {a b c:ARes} {t:List DV} {h:List AObj}:outD [a,b,c] t h=(resD t h a).bind fun x=>(resD t h b).bind fun y=>(resD t h c).bind fun z=>snap h 3 (.tup [x,y,z]):=by
 simp only [outD,zxgc,zp5p,z2gc]
 cases resD t h a<;>cases resD t h b<;>cases resD t h c<;>rfl
attribute [simp] zpwu
end Go.Proofs.Ytaihpefemjlilaa
set_option linter.unusedSimpArgs false
set_option linter.unusedVariables false
namespace Go.Proofs.Ytaihpefemjlilaa
open Go Go.Am
end Go.Proofs.Ytaihpefemjlilaa
set_option linter.unusedSimpArgs false
set_option linter.unusedVariables false
namespace Go.Proofs.Ytaihpefemjlilaa
open Go Go.Am
end Go.Proofs.Ytaihpefemjlilaa
set_option linter.unusedSimpArgs false
set_option linter.unusedVariables false
namespace Go.Proofs.Ytaihpefemjlilaa
open Go Go.Am
def iV:DV→Option Int
 | .int .i64 n=>some n
 | _=>none
def mm2 (m:Bool) (x y:DV):Option DV:=(iV x).bind fun a=>(iV y).bind fun b=>some (.int .i64 (if m then max a b else min a b))
theorem zy6n {a b:Int}:mm2 false (.int .i64 a) (.int .i64 b)=some (.int .i64 (min a b)):=rfl
theorem zluv {T:Tbl} {dr m:Bool} {x y:Opd} {t:List DV} {h:List AObj}:zn3j T dr (.mm m [x,y]) t h=pr (mm2 m (ev t x) (ev t y)) h:=by
 simp only [zn3j,evOp]
 refine (congrArg (fun q=>Option.bind q _) (zd7r (g:=fun z=>iV (ev t z)) fun z _ => ?_)).trans ?_
 ·generalize ev t z=d
  cases d with
  | int k n=>cases k<;>rfl
  | _=>rfl
 ·simp only [zp5p,mm2]
  cases iV (ev t x)<;>cases iV (ev t y)<;>rfl
structure X94 where
 i:Nat
 r:List UInt8
end Go.Proofs.Ytaihpefemjlilaa
set_option linter.unusedSimpArgs false
set_option linter.unusedVariables false
namespace Go.Proofs.Ytaihpefemjlilaa
open Go Go.Am
def okCh (l:List Dg):Prop := ∀ i (h:i<l.length),l[i]≠dg0∧l[i] ∉ l.take i
structure ValidG (g:Grp):Prop where
 ns:zj1f g.ns=true
 im:zj1f g.im=true
 w0:0≤g.want
 w1:g.want≤8
 l0:0≤g.least
 l1:g.least≤g.want
 d0:0≤g.down
 d1:g.down≤g.want
 n:g.ch.l.length≤6
 ch:okCh g.ch.l
def fitG (ns im:List UInt8) (g:Grp):Bool:=decide (g.ns=ns)&&decide (g.im=im)
def z9w0 (l:List Grp) (ns im:List UInt8):Int:=ixI (fitG ns im) l
def z092 (l:List Ins) (id:Int):Int:=ixI (fun x=>decide (x.id=id)) l
abbrev zcie (t:Int):Prop:=0≤t∧t≤1099511627776
structure SoundI (n:Nat) (next:Int) (x:Ins):Prop where
 id0:1≤x.id
 id1:x.id<next
 g0:0≤x.grp
 g1:x.grp<n
 art:x.art≠dg0
 s0:1≤x.state
 s1:x.state≤3
 si:zcie x.since
 de:x.den = -1∨zcie x.den
structure ValidC (c:Clu):Prop where
 ng:c.g.l.length≤16
 ni:c.i.l.length≤200
 n0:1≤c.next
 n1:c.next≤1099511627776
 g : ∀ i (h:i<c.g.l.length),ValidG c.g.l[i]∧z9w0 c.g.l c.g.l[i].ns c.g.l[i].im=i
 i : ∀ i (h:i<c.i.l.length),SoundI c.g.l.length c.next c.i.l[i]∧(∀ h0:0<i,c.i.l[i-1].id<c.i.l[i].id)
def Sl.clone {α:Type} (x:Sl α):Sl α:=⟨if x.l=[] then x.k.map fun _=>true else some false,x.l,fun e=>by
 by_cases h:x.l=[]
 ·exact h
 ·simp [h] at e,x.b⟩
def own {α:Type} (l:List α):Sl α:=if h:l.length≤4294967296 then ⟨some false,l,by simp,h⟩ else ⟨none,[],fun _=>rfl,by simp⟩
def Grp.clone (g:Grp):Grp:={ g with ch:=g.ch.clone }
def Clu.clone (c:Clu):Clu:=⟨⟨c.g.clone.k,c.g.l.map Grp.clone,fun e=>by simp [show c.g.l=[] from c.g.clone.h e],by have:=c.g.b; simpa using this⟩,c.i.clone,c.next⟩
def gl (g:Grp):List UInt8 × List UInt8 × Int × Int × Int × List Dg:=(g.ns,g.im,g.want,g.least,g.down,g.ch.l)
structure SameC (a b:Clu):Prop where
 g:a.g.l.map gl=b.g.l.map gl
 i:a.i.l=b.i.l
 n:a.next=b.next
theorem SameC.refl (a:Clu):SameC a a:=⟨rfl,rfl,rfl⟩
def Ins.st (x:Ins) (v:Int):Ins:=⟨x.id,x.grp,x.art,v,x.since,x.den⟩
def Ins.si (x:Ins) (v:Int):Ins:=⟨x.id,x.grp,x.art,x.state,v,x.den⟩
def Ins.de (x:Ins) (v:Int):Ins:=⟨x.id,x.grp,x.art,x.state,x.since,v⟩
end Go.Proofs.Ytaihpefemjlilaa
set_option linter.unusedSimpArgs false
set_option linter.unusedVariables false
namespace Go.Proofs.Ytaihpefemjlilaa
open Go Go.Am
def zicw:ACode :=
 (.seq (.region false [⟨none,(some 9),.bin .lss (.t 8) (.t 7)⟩])
 (.seq (.cond (.t 9) .skip
 (.exit 0))
 (.seq (.block 1 (.seq (.region false [⟨none,(some 10),.mov (.t 8)⟩,
  ⟨none,(some 5),.mov (.t 10)⟩])
 (.seq (.region true [⟨none,(some 11),.load 32 true (.t 3)⟩,
  ⟨none,(some 12),.mov (.t 0)⟩,
  ⟨none,(some 13),.mov (.t 5)⟩,
  ⟨none,(some 14),.idxS 32 (.t 12) (.t 13)⟩,
  ⟨none,(some 15),.load 32 true (.t 14)⟩,
  ⟨none,(some 16),.eqa false [(32,0)] (.t 11) (.t 15)⟩])
 (.cond (.t 16) (.seq (.region false [⟨none,(some 17),.mov (.t 5)⟩,
  ⟨none,(some 4),.mov (.t 17)⟩])
 .ret)
 .skip))))
 (.region false [⟨none,(some 18),.bin .add (.t 8) (.k (.int .i64 1))⟩,
  ⟨none,(some 8),.mov (.t 18)⟩]))))
def a63:AFn where
 code:=(.seq (.region false [⟨none,(some 3),.box (.t 1)⟩,
  ⟨none,(some 4),.mov (.k (.int .i64 0))⟩])
 (.seq (.seq (.region false [⟨none,(some 6),.mov (.t 0)⟩,
  ⟨none,(some 7),.len (.t 6)⟩,
  ⟨none,(some 8),.mov (.k (.int .i64 0))⟩])
 (.block 0 (.loop zicw)))
 (.seq (.region false [⟨none,(some 4),.mov (.k (.int .i64 (-1)))⟩])
 .ret)))
 ntmps:=19
 res:=[.tmp 4]
theorem z2tu:zsjc P Try.f63=some a63:=by kernel_rfl
def a40:AFn where
 code:=(.seq (.region false [⟨none,(some 3),.box (.t 1)⟩,
  ⟨none,(some 4),.mov (.k (.bool false))⟩])
 (.seq (.region false [⟨none,(some 5),.mov (.t 0)⟩,
  ⟨none,(some 6),.load 32 true (.t 3)⟩,
  ⟨none,(some 7),.call (.k (.fn (.func 63) [] [])) [(.t 5),(.t 6)]⟩,
  ⟨none,(some 8),.bin .geq (.t 7) (.k (.int .i64 0))⟩,
  ⟨none,(some 4),.mov (.t 8)⟩])
 .ret))
 ntmps:=9
 res:=[.tmp 4]
theorem zn9f:zsjc P Try.f40=some a40:=by kernel_rfl
def z990:ACode :=
 (.seq (.region false [⟨none,(some 9),.bin .lss (.t 8) (.t 7)⟩])
 (.seq (.cond (.t 9) .skip
 (.exit 0))
 (.seq (.block 1 (.seq (.region false [⟨none,(some 10),.mov (.t 8)⟩,
  ⟨none,(some 5),.mov (.t 10)⟩])
 (.seq (.region false [⟨none,(some 11),.mov (.t 1)⟩,
  ⟨none,(some 12),.mov (.t 0)⟩,
  ⟨none,(some 13),.mov (.t 5)⟩,
  ⟨none,(some 14),.idxS 6 (.t 12) (.t 13)⟩,
  ⟨none,(some 15),.load 6 true (.t 14)⟩,
  ⟨none,(some 16),.call (.t 11) [(.t 15)]⟩])
 (.cond (.t 16) (.seq (.region false [⟨none,(some 17),.mov (.t 5)⟩,
  ⟨none,(some 4),.mov (.t 17)⟩])
 .ret)
 .skip))))
 (.region false [⟨none,(some 18),.bin .add (.t 8) (.k (.int .i64 1))⟩,
  ⟨none,(some 8),.mov (.t 18)⟩]))))
def a108:AFn where
 code:=(.seq (.region false [⟨none,(some 4),.mov (.k (.int .i64 0))⟩])
 (.seq (.seq (.region false [⟨none,(some 6),.mov (.t 0)⟩,
  ⟨none,(some 7),.len (.t 6)⟩,
  ⟨none,(some 8),.mov (.k (.int .i64 0))⟩])
 (.block 0 (.loop z990)))
 (.seq (.region false [⟨none,(some 4),.mov (.k (.int .i64 (-1)))⟩])
 .ret)))
 ntmps:=19
 res:=[.tmp 4]
theorem zh50:zsjc P Try.f108=some a108:=by kernel_rfl
def zfle:ACode :=
 (.seq (.region false [⟨none,(some 9),.bin .lss (.t 8) (.t 7)⟩])
 (.seq (.cond (.t 9) .skip
 (.exit 0))
 (.seq (.block 1 (.seq (.region false [⟨none,(some 10),.mov (.t 8)⟩,
  ⟨none,(some 5),.mov (.t 10)⟩])
 (.seq (.region false [⟨none,(some 11),.mov (.t 1)⟩,
  ⟨none,(some 12),.mov (.t 0)⟩,
  ⟨none,(some 13),.mov (.t 5)⟩,
  ⟨none,(some 14),.idxS 37 (.t 12) (.t 13)⟩,
  ⟨none,(some 15),.load 37 true (.t 14)⟩,
  ⟨none,(some 16),.call (.t 11) [(.t 15)]⟩])
 (.cond (.t 16) (.seq (.region false [⟨none,(some 17),.mov (.t 5)⟩,
  ⟨none,(some 4),.mov (.t 17)⟩])
 .ret)
 .skip))))
 (.region false [⟨none,(some 18),.bin .add (.t 8) (.k (.int .i64 1))⟩,
  ⟨none,(some 8),.mov (.t 18)⟩]))))
def a67:AFn where
 code:=(.seq (.region false [⟨none,(some 4),.mov (.k (.int .i64 0))⟩])
 (.seq (.seq (.region false [⟨none,(some 6),.mov (.t 0)⟩,
  ⟨none,(some 7),.len (.t 6)⟩,
  ⟨none,(some 8),.mov (.k (.int .i64 0))⟩])
 (.block 0 (.loop zfle)))
 (.seq (.region false [⟨none,(some 4),.mov (.k (.int .i64 (-1)))⟩])
 .ret)))
 ntmps:=19
 res:=[.tmp 4]
theorem zy8u:zsjc P Try.f67=some a67:=by kernel_rfl
def a109:AFn where
 code:=(.seq (.region false [⟨none,(some 3),.box (.t 0)⟩,
  ⟨none,(some 4),.mov (.k (.bool false))⟩])
 (.seq (.region false [⟨none,(some 5),.fld 0 (.t 3)⟩,
  ⟨none,(some 6),.load 1 false (.t 5)⟩,
  ⟨none,(some 7),.load 1 false (.t 1)⟩,
  ⟨none,(some 8),.bin .eql (.t 6) (.t 7)⟩,
  ⟨none,(some 9),.mov (.t 8)⟩,
  ⟨(some (9,true)),(some 10),.fld 1 (.t 3)⟩,
  ⟨(some (9,true)),(some 11),.load 1 false (.t 10)⟩,
  ⟨(some (9,true)),(some 12),.load 1 false (.t 2)⟩,
  ⟨(some (9,true)),(some 13),.bin .eql (.t 11) (.t 12)⟩,
  ⟨none,(some 14),.pick (.t 9) (.t 13) (.k (.bool false))⟩,
  ⟨none,(some 4),.mov (.t 14)⟩])
 .ret))
 ntmps:=15
 res:=[.tmp 4]
theorem zoj0:zsjc P Try.f109=some a109:=by kernel_rfl
def a68:AFn where
 code:=(.seq (.region false [⟨none,(some 2),.box (.t 0)⟩,
  ⟨none,(some 3),.mov (.k (.bool false))⟩])
 (.seq (.region false [⟨none,(some 4),.fld 0 (.t 2)⟩,
  ⟨none,(some 5),.load 1 false (.t 4)⟩,
  ⟨none,(some 6),.load 1 false (.t 1)⟩,
  ⟨none,(some 7),.bin .eql (.t 5) (.t 6)⟩,
  ⟨none,(some 3),.mov (.t 7)⟩])
 .ret))
 ntmps:=8
 res:=[.tmp 3]
theorem z20i:zsjc P Try.f68=some a68:=by kernel_rfl
def a102:AFn where
 code:=(.seq (.region false [⟨none,(some 3),.box (.t 0)⟩,
  ⟨none,(some 4),.box (.t 1)⟩,
  ⟨none,(some 5),.box (.t 2)⟩,
  ⟨none,(some 6),.mov (.k (.int .i64 0))⟩])
 (.seq (.region false [⟨none,(some 7),.fld 0 (.t 3)⟩,
  ⟨none,(some 8),.load 1 false (.t 7)⟩,
  ⟨none,(some 9),.mkf (.func 109) [] [(.t 4),(.t 5)]⟩,
  ⟨none,(some 10),.call (.k (.fn (.func 108) [] [])) [(.t 8),(.t 9)]⟩,
  ⟨none,(some 6),.mov (.t 10)⟩])
 .ret))
 ntmps:=11
 res:=[.tmp 6]
theorem zh4k:zsjc P Try.f102=some a102:=by kernel_rfl
def a53:AFn where
 code:=(.seq (.region false [⟨none,(some 2),.box (.t 0)⟩,
  ⟨none,(some 3),.box (.t 1)⟩,
  ⟨none,(some 4),.mov (.k (.int .i64 0))⟩])
 (.seq (.region false [⟨none,(some 5),.fld 1 (.t 2)⟩,
  ⟨none,(some 6),.load 1 false (.t 5)⟩,
  ⟨none,(some 7),.mkf (.func 68) [] [(.t 3)]⟩,
  ⟨none,(some 8),.call (.k (.fn (.func 67) [] [])) [(.t 6),(.t 7)]⟩,
  ⟨none,(some 4),.mov (.t 8)⟩])
 .ret))
 ntmps:=9
 res:=[.tmp 4]
theorem zq51:zsjc P Try.f53=some a53:=by kernel_rfl
def a90:AFn where
 code:=(.seq (.region false [⟨none,(some 2),.mov (.k (.bool false))⟩])
 (.seq (.region false [⟨none,(some 3),.mov (.t 0)⟩,
  ⟨none,(some 4),.bin .geq (.t 3) (.k (.int .i64 0))⟩,
  ⟨none,(some 5),.mov (.t 4)⟩,
  ⟨(some (5,true)),(some 6),.mov (.t 0)⟩,
  ⟨(some (5,true)),(some 7),.bin .leq (.t 6) (.k (.int .i64 1099511627776))⟩,
  ⟨none,(some 8),.pick (.t 5) (.t 7) (.k (.bool false))⟩,
  ⟨none,(some 2),.mov (.t 8)⟩])
 .ret))
 ntmps:=9
 res:=[.tmp 2]
theorem z9pi:zsjc P Try.f90=some a90:=by kernel_rfl
def a103:AFn where
 code:=(.seq (.region false [⟨none,(some 2),.box (.t 0)⟩,
  ⟨none,(some 3),.box (.t 1)⟩,
  ⟨none,(some 4),.mov (.k (.bool false))⟩])
 (.seq (.region false [⟨none,(some 5),.fld 0 (.t 3)⟩,
  ⟨none,(some 6),.load 1 false (.t 5)⟩,
  ⟨none,(some 7),.bin .geq (.t 6) (.k (.int .i64 1))⟩,
  ⟨none,(some 8),.mov (.t 7)⟩,
  ⟨(some (8,true)),(some 9),.fld 0 (.t 3)⟩,
  ⟨(some (8,true)),(some 10),.load 1 false (.t 9)⟩,
  ⟨(some (8,true)),(some 11),.fld 2 (.t 2)⟩,
  ⟨(some (8,true)),(some 12),.load 1 false (.t 11)⟩,
  ⟨(some (8,true)),(some 13),.bin .lss (.t 10) (.t 12)⟩,
  ⟨none,(some 14),.pick (.t 8) (.t 13) (.k (.bool false))⟩,
  ⟨none,(some 15),.mov (.t 14)⟩,
  ⟨(some (15,true)),(some 16),.fld 1 (.t 3)⟩,
  ⟨(some (15,true)),(some 17),.load 1 false (.t 16)⟩,
  ⟨(some (15,true)),(some 18),.bin .geq (.t 17) (.k (.int .i64 0))⟩,
  ⟨none,(some 19),.pick (.t 15) (.t 18) (.k (.bool false))⟩,
  ⟨none,(some 20),.mov (.t 19)⟩,
  ⟨(some (20,true)),(some 21),.fld 1 (.t 3)⟩,
  ⟨(some (20,true)),(some 22),.load 1 false (.t 21)⟩,
  ⟨(some (20,true)),(some 23),.fld 0 (.t 2)⟩,
  ⟨(some (20,true)),(some 24),.load 1 false (.t 23)⟩,
  ⟨(some (20,true)),(some 25),.len (.t 24)⟩,
  ⟨(some (20,true)),(some 26),.bin .lss (.t 22) (.t 25)⟩,
  ⟨none,(some 27),.pick (.t 20) (.t 26) (.k (.bool false))⟩,
  ⟨none,(some 28),.mov (.t 27)⟩,
  ⟨(some (28,true)),(some 29),.fld 2 (.t 3)⟩,
  ⟨(some (28,true)),(some 30),.load 32 true (.t 29)⟩,
  ⟨(some (28,true)),(some 31),.build (rep 32 (w8 0#8)) []⟩,
  ⟨(some (28,true)),(some 32),.eqa true [(32,0)] (.t 30) (.t 31)⟩,
  ⟨none,(some 33),.pick (.t 28) (.t 32) (.k (.bool false))⟩,
  ⟨none,(some 34),.mov (.t 33)⟩,
  ⟨(some (34,true)),(some 35),.fld 34 (.t 3)⟩,
  ⟨(some (34,true)),(some 36),.load 1 false (.t 35)⟩,
  ⟨(some (34,true)),(some 37),.bin .geq (.t 36) (.k (.int .i64 1))⟩,
  ⟨none,(some 38),.pick (.t 34) (.t 37) (.k (.bool false))⟩,
  ⟨none,(some 39),.mov (.t 38)⟩,
  ⟨(some (39,true)),(some 40),.fld 34 (.t 3)⟩,
  ⟨(some (39,true)),(some 41),.load 1 false (.t 40)⟩,
  ⟨(some (39,true)),(some 42),.bin .leq (.t 41) (.k (.int .i64 3))⟩,
  ⟨none,(some 43),.pick (.t 39) (.t 42) (.k (.bool false))⟩,
  ⟨none,(some 44),.mov (.t 43)⟩,
  ⟨(some (44,true)),(some 45),.fld 35 (.t 3)⟩,
  ⟨(some (44,true)),(some 46),.load 1 false (.t 45)⟩,
  ⟨(some (44,true)),(some 47),.call (.k (.fn (.func 90) [] [])) [(.t 46)]⟩,
  ⟨none,(some 48),.pick (.t 44) (.t 47) (.k (.bool false))⟩,
  ⟨none,(some 49),.mov (.t 48)⟩,
  ⟨(some (49,true)),(some 50),.fld 36 (.t 3)⟩,
  ⟨(some (49,true)),(some 51),.load 1 false (.t 50)⟩,
  ⟨(some (49,true)),(some 52),.bin .eql (.t 51) (.k (.int .i64 (-1)))⟩,
  ⟨(some (49,true)),(some 53),.mov (.t 52)⟩,
  ⟨(some (53,false)),(some 54),.fld 36 (.t 3)⟩,
  ⟨(some (53,false)),(some 55),.load 1 false (.t 54)⟩,
  ⟨(some (53,false)),(some 56),.call (.k (.fn (.func 90) [] [])) [(.t 55)]⟩,
  ⟨(some (49,true)),(some 57),.pick (.t 53) (.k (.bool true)) (.t 56)⟩,
  ⟨none,(some 58),.pick (.t 49) (.t 57) (.k (.bool false))⟩,
  ⟨none,(some 4),.mov (.t 58)⟩])
 .ret))
 ntmps:=59
 res:=[.tmp 4]
theorem zawu:zsjc P Try.f103=some a103:=by kernel_rfl
def zhr2:ACode :=
 (.seq (.region false [⟨none,(some 59),.bin .lss (.t 58) (.t 57)⟩])
 (.seq (.cond (.t 59) .skip
 (.exit 0))
 (.seq (.block 1 (.seq (.region false [⟨none,(some 60),.mov (.t 58)⟩,
  ⟨none,(some 61),.idxS 32 (.t 56) (.t 58)⟩,
  ⟨none,(some 62),.load 32 true (.t 61)⟩,
  ⟨none,(some 4),.alloc (rep 32 (w8 0#8))⟩,
  ⟨none,(some 3),.mov (.t 60)⟩,
  ⟨none,none,.store 32 (.t 4) (.t 62)⟩])
 (.seq (.region true [⟨none,(some 63),.load 32 true (.t 4)⟩,
  ⟨none,(some 64),.build (rep 32 (w8 0#8)) []⟩,
  ⟨none,(some 65),.eqa false [(32,0)] (.t 63) (.t 64)⟩,
  ⟨none,(some 66),.mov (.t 65)⟩,
  ⟨(some (66,false)),(some 67),.fld 5 (.t 1)⟩,
  ⟨(some (66,false)),(some 68),.load 1 false (.t 67)⟩,
  ⟨(some (66,false)),(some 69),.mov (.t 3)⟩,
  ⟨(some (66,false)),(some 70),.slcS 32 (.t 68) none (some (.t 69)) none⟩,
  ⟨(some (66,false)),(some 71),.load 32 true (.t 4)⟩,
  ⟨(some (66,false)),(some 72),.callN (.k (.fn (.func 40) [] [])) [(.t 70),(.t 71)]⟩,
  ⟨none,(some 73),.pick (.t 66) (.k (.bool true)) (.t 72)⟩])
 (.cond (.t 73) (.seq (.region false [⟨none,(some 2),.mov (.k (.bool false))⟩])
 .ret)
 .skip))))
 (.region false [⟨none,(some 74),.bin .add (.t 58) (.k (.int .i64 1))⟩,
  ⟨none,(some 58),.mov (.t 74)⟩]))))
def a101:AFn where
 code:=(.seq (.region false [⟨none,(some 1),.box (.t 0)⟩,
  ⟨none,(some 2),.mov (.k (.bool false))⟩])
 (.seq (.seq (.region false [⟨none,(some 5),.fld 0 (.t 1)⟩,
  ⟨none,(some 6),.load 1 false (.t 5)⟩,
  ⟨none,(some 7),.call (.k (.fn (.func 23) [] [])) [(.t 6)]⟩,
  ⟨none,(some 8),.un .not (.t 7)⟩,
  ⟨none,(some 9),.mov (.t 8)⟩,
  ⟨(some (9,false)),(some 10),.fld 1 (.t 1)⟩,
  ⟨(some (9,false)),(some 11),.load 1 false (.t 10)⟩,
  ⟨(some (9,false)),(some 12),.call (.k (.fn (.func 23) [] [])) [(.t 11)]⟩,
  ⟨(some (9,false)),(some 13),.un .not (.t 12)⟩,
  ⟨none,(some 14),.pick (.t 9) (.k (.bool true)) (.t 13)⟩,
  ⟨none,(some 15),.mov (.t 14)⟩,
  ⟨(some (15,false)),(some 16),.fld 2 (.t 1)⟩,
  ⟨(some (15,false)),(some 17),.load 1 false (.t 16)⟩,
  ⟨(some (15,false)),(some 18),.bin .lss (.t 17) (.k (.int .i64 0))⟩,
  ⟨none,(some 19),.pick (.t 15) (.k (.bool true)) (.t 18)⟩,
  ⟨none,(some 20),.mov (.t 19)⟩,
  ⟨(some (20,false)),(some 21),.fld 2 (.t 1)⟩,
  ⟨(some (20,false)),(some 22),.load 1 false (.t 21)⟩,
  ⟨(some (20,false)),(some 23),.bin .gtr (.t 22) (.k (.int .i64 8))⟩,
  ⟨none,(some 24),.pick (.t 20) (.k (.bool true)) (.t 23)⟩,
  ⟨none,(some 25),.mov (.t 24)⟩,
  ⟨(some (25,false)),(some 26),.fld 3 (.t 1)⟩,
  ⟨(some (25,false)),(some 27),.load 1 false (.t 26)⟩,
  ⟨(some (25,false)),(some 28),.bin .lss (.t 27) (.k (.int .i64 0))⟩,
  ⟨none,(some 29),.pick (.t 25) (.k (.bool true)) (.t 28)⟩,
  ⟨none,(some 30),.mov (.t 29)⟩,
  ⟨(some (30,false)),(some 31),.fld 3 (.t 1)⟩,
  ⟨(some (30,false)),(some 32),.load 1 false (.t 31)⟩,
  ⟨(some (30,false)),(some 33),.fld 2 (.t 1)⟩,
  ⟨(some (30,false)),(some 34),.load 1 false (.t 33)⟩,
  ⟨(some (30,false)),(some 35),.bin .gtr (.t 32) (.t 34)⟩,
  ⟨none,(some 36),.pick (.t 30) (.k (.bool true)) (.t 35)⟩,
  ⟨none,(some 37),.mov (.t 36)⟩,
  ⟨(some (37,false)),(some 38),.fld 4 (.t 1)⟩,
  ⟨(some (37,false)),(some 39),.load 1 false (.t 38)⟩,
  ⟨(some (37,false)),(some 40),.bin .lss (.t 39) (.k (.int .i64 0))⟩,
  ⟨none,(some 41),.pick (.t 37) (.k (.bool true)) (.t 40)⟩,
  ⟨none,(some 42),.mov (.t 41)⟩,
  ⟨(some (42,false)),(some 43),.fld 4 (.t 1)⟩,
  ⟨(some (42,false)),(some 44),.load 1 false (.t 43)⟩,
  ⟨(some (42,false)),(some 45),.fld 2 (.t 1)⟩,
  ⟨(some (42,false)),(some 46),.load 1 false (.t 45)⟩,
  ⟨(some (42,false)),(some 47),.bin .gtr (.t 44) (.t 46)⟩,
  ⟨none,(some 48),.pick (.t 42) (.k (.bool true)) (.t 47)⟩,
  ⟨none,(some 49),.mov (.t 48)⟩,
  ⟨(some (49,false)),(some 50),.fld 5 (.t 1)⟩,
  ⟨(some (49,false)),(some 51),.load 1 false (.t 50)⟩,
  ⟨(some (49,false)),(some 52),.len (.t 51)⟩,
  ⟨(some (49,false)),(some 53),.bin .gtr (.t 52) (.k (.int .i64 6))⟩,
  ⟨none,(some 54),.pick (.t 49) (.k (.bool true)) (.t 53)⟩])
 (.cond (.t 54) (.seq (.region false [⟨none,(some 2),.mov (.k (.bool false))⟩])
 .ret)
 .skip))
 (.seq (.seq (.region false [⟨none,(some 55),.fld 5 (.t 1)⟩,
  ⟨none,(some 56),.load 1 false (.t 55)⟩,
  ⟨none,(some 57),.len (.t 56)⟩,
  ⟨none,(some 58),.mov (.k (.int .i64 0))⟩])
 (.block 0 (.loop zhr2)))
 (.seq (.region false [⟨none,(some 2),.mov (.k (.bool true))⟩])
 .ret))))
 ntmps:=75
 res:=[.tmp 2]
theorem zzmu:zsjc P Try.f101=some a101:=by kernel_rfl
def z3yv:ACode :=
 (.seq (.region false [⟨none,(some 31),.bin .lss (.t 30) (.t 29)⟩])
 (.seq (.cond (.t 31) .skip
 (.exit 0))
 (.seq (.block 1 (.seq (.region false [⟨none,(some 32),.mov (.t 30)⟩,
  ⟨none,(some 33),.idxS 6 (.t 28) (.t 30)⟩,
  ⟨none,(some 34),.load 6 true (.t 33)⟩,
  ⟨none,(some 4),.alloc [(.str []),(.str []),(.int .i64 0),(.int .i64 0),(.int .i64 0),.nils]⟩,
  ⟨none,(some 3),.mov (.t 32)⟩,
  ⟨none,none,.store 6 (.t 4) (.t 34)⟩])
 (.seq (.region false [⟨none,(some 35),.load 6 true (.t 4)⟩,
  ⟨none,(some 36),.call (.k (.fn (.func 101) [] [])) [(.t 35)]⟩,
  ⟨none,(some 37),.un .not (.t 36)⟩,
  ⟨none,(some 38),.mov (.t 37)⟩,
  ⟨(some (38,false)),(some 39),.load 3 true (.t 1)⟩,
  ⟨(some (38,false)),(some 40),.fld 0 (.t 4)⟩,
  ⟨(some (38,false)),(some 41),.load 1 false (.t 40)⟩,
  ⟨(some (38,false)),(some 42),.fld 1 (.t 4)⟩,
  ⟨(some (38,false)),(some 43),.load 1 false (.t 42)⟩,
  ⟨(some (38,false)),(some 44),.call (.k (.fn (.func 102) [] [])) [(.t 39),(.t 41),(.t 43)]⟩,
  ⟨(some (38,false)),(some 45),.mov (.t 3)⟩,
  ⟨(some (38,false)),(some 46),.bin .neq (.t 44) (.t 45)⟩,
  ⟨none,(some 47),.pick (.t 38) (.k (.bool true)) (.t 46)⟩])
 (.cond (.t 47) (.seq (.region false [⟨none,(some 2),.mov (.k (.bool false))⟩])
 .ret)
 .skip))))
 (.region false [⟨none,(some 48),.bin .add (.t 30) (.k (.int .i64 1))⟩,
  ⟨none,(some 30),.mov (.t 48)⟩]))))
def z0w5:ACode :=
 (.seq (.region false [⟨none,(some 53),.bin .lss (.t 52) (.t 51)⟩])
 (.seq (.cond (.t 53) .skip
 (.exit 2))
 (.seq (.block 3 (.seq (.region false [⟨none,(some 54),.mov (.t 52)⟩,
  ⟨none,(some 55),.idxS 37 (.t 50) (.t 52)⟩,
  ⟨none,(some 56),.load 37 true (.t 55)⟩,
  ⟨none,(some 6),.alloc [(.int .i64 0),(.int .i64 0),(w8 0#8),(w8 0#8),(w8 0#8),(w8 0#8),(w8 0#8),(w8 0#8),(w8 0#8),(w8 0#8),(w8 0#8),(w8 0#8),(w8 0#8),(w8 0#8),(w8 0#8),(w8 0#8),(w8 0#8),(w8 0#8),(w8 0#8),(w8 0#8),(w8 0#8),(w8 0#8),(w8 0#8),(w8 0#8),(w8 0#8),(w8 0#8),(w8 0#8),(w8 0#8),(w8 0#8),(w8 0#8),(w8 0#8),(w8 0#8),(w8 0#8),(w8 0#8),(.int .i64 0),(.int .i64 0),(.int .i64 0)]⟩,
  ⟨none,(some 5),.mov (.t 54)⟩,
  ⟨none,none,.store 37 (.t 6) (.t 56)⟩])
 (.seq (.region true [⟨none,(some 57),.load 3 true (.t 1)⟩,
  ⟨none,(some 58),.load 37 true (.t 6)⟩,
  ⟨none,(some 59),.callN (.k (.fn (.func 103) [] [])) [(.t 57),(.t 58)]⟩,
  ⟨none,(some 60),.un .not (.t 59)⟩,
  ⟨none,(some 61),.mov (.t 60)⟩,
  ⟨(some (61,false)),(some 62),.mov (.t 5)⟩,
  ⟨(some (61,false)),(some 63),.bin .gtr (.t 62) (.k (.int .i64 0))⟩,
  ⟨(some (61,false)),(some 64),.mov (.t 63)⟩,
  ⟨(some (64,true)),(some 65),.fld 0 (.t 6)⟩,
  ⟨(some (64,true)),(some 66),.load 1 false (.t 65)⟩,
  ⟨(some (64,true)),(some 67),.fld 1 (.t 1)⟩,
  ⟨(some (64,true)),(some 68),.load 1 false (.t 67)⟩,
  ⟨(some (64,true)),(some 69),.mov (.t 5)⟩,
  ⟨(some (64,true)),(some 70),.bin .sub (.t 69) (.k (.int .i64 1))⟩,
  ⟨(some (64,true)),(some 71),.idxS 37 (.t 68) (.t 70)⟩,
  ⟨(some (64,true)),(some 72),.fld 0 (.t 71)⟩,
  ⟨(some (64,true)),(some 73),.load 1 false (.t 72)⟩,
  ⟨(some (64,true)),(some 74),.bin .leq (.t 66) (.t 73)⟩,
  ⟨(some (61,false)),(some 75),.pick (.t 64) (.t 74) (.k (.bool false))⟩,
  ⟨none,(some 76),.pick (.t 61) (.k (.bool true)) (.t 75)⟩])
 (.cond (.t 76) (.seq (.region false [⟨none,(some 2),.mov (.k (.bool false))⟩])
 .ret)
 .skip))))
 (.region false [⟨none,(some 77),.bin .add (.t 52) (.k (.int .i64 1))⟩,
  ⟨none,(some 52),.mov (.t 77)⟩]))))
def a89:AFn where
 code:=(.seq (.region false [⟨none,(some 1),.box (.t 0)⟩,
  ⟨none,(some 2),.mov (.k (.bool false))⟩])
 (.seq (.seq (.region false [⟨none,(some 7),.fld 0 (.t 1)⟩,
  ⟨none,(some 8),.load 1 false (.t 7)⟩,
  ⟨none,(some 9),.len (.t 8)⟩,
  ⟨none,(some 10),.bin .gtr (.t 9) (.k (.int .i64 16))⟩,
  ⟨none,(some 11),.mov (.t 10)⟩,
  ⟨(some (11,false)),(some 12),.fld 1 (.t 1)⟩,
  ⟨(some (11,false)),(some 13),.load 1 false (.t 12)⟩,
  ⟨(some (11,false)),(some 14),.len (.t 13)⟩,
  ⟨(some (11,false)),(some 15),.bin .gtr (.t 14) (.k (.int .i64 200))⟩,
  ⟨none,(some 16),.pick (.t 11) (.k (.bool true)) (.t 15)⟩,
  ⟨none,(some 17),.mov (.t 16)⟩,
  ⟨(some (17,false)),(some 18),.fld 2 (.t 1)⟩,
  ⟨(some (17,false)),(some 19),.load 1 false (.t 18)⟩,
  ⟨(some (17,false)),(some 20),.bin .lss (.t 19) (.k (.int .i64 1))⟩,
  ⟨none,(some 21),.pick (.t 17) (.k (.bool true)) (.t 20)⟩,
  ⟨none,(some 22),.mov (.t 21)⟩,
  ⟨(some (22,false)),(some 23),.fld 2 (.t 1)⟩,
  ⟨(some (22,false)),(some 24),.load 1 false (.t 23)⟩,
  ⟨(some (22,false)),(some 25),.bin .gtr (.t 24) (.k (.int .i64 1099511627776))⟩,
  ⟨none,(some 26),.pick (.t 22) (.k (.bool true)) (.t 25)⟩])
 (.cond (.t 26) (.seq (.region false [⟨none,(some 2),.mov (.k (.bool false))⟩])
 .ret)
 .skip))
 (.seq (.seq (.region false [⟨none,(some 27),.fld 0 (.t 1)⟩,
  ⟨none,(some 28),.load 1 false (.t 27)⟩,
  ⟨none,(some 29),.len (.t 28)⟩,
  ⟨none,(some 30),.mov (.k (.int .i64 0))⟩])
 (.block 0 (.loop z3yv)))
 (.seq (.seq (.region false [⟨none,(some 49),.fld 1 (.t 1)⟩,
  ⟨none,(some 50),.load 1 false (.t 49)⟩,
  ⟨none,(some 51),.len (.t 50)⟩,
  ⟨none,(some 52),.mov (.k (.int .i64 0))⟩])
 (.block 2 (.loop z0w5)))
 (.seq (.region false [⟨none,(some 2),.mov (.k (.bool true))⟩])
 .ret)))))
 ntmps:=78
 res:=[.tmp 2]
theorem z42j:zsjc P Try.f89=some a89:=by kernel_rfl
def a52:AFn where
 code:=(.seq (.region false [⟨none,(some 2),.mov (.k .nils)⟩])
 (.seq (.seq (.region false [⟨none,(some 3),.mov (.t 0)⟩,
  ⟨none,(some 4),.eqn 0 false (.t 3) (.k .nils)⟩])
 (.cond (.t 4) (.seq (.region false [⟨none,(some 2),.mov (.k .nils)⟩])
 .ret)
 .skip))
 (.seq (.region false [⟨none,(some 5),.bsl 32 0 (rep 32 (w8 0#8)) []⟩,
  ⟨none,(some 6),.mov (.t 0)⟩,
  ⟨none,(some 7),.app 32 32 (.t 5) (.t 6)⟩,
  ⟨none,(some 2),.mov (.t 7)⟩])
 .ret)))
 ntmps:=8
 res:=[.tmp 2]
theorem zil0:zsjc P Try.f52=some a52:=by kernel_rfl
def a50:AFn where
 code:=(.seq (.region false [⟨none,(some 2),.mov (.k .nils)⟩])
 (.seq (.seq (.region false [⟨none,(some 3),.mov (.t 0)⟩,
  ⟨none,(some 4),.eqn 0 false (.t 3) (.k .nils)⟩])
 (.cond (.t 4) (.seq (.region false [⟨none,(some 2),.mov (.k .nils)⟩])
 .ret)
 .skip))
 (.seq (.region false [⟨none,(some 5),.bsl 6 0 [(.str []),(.str []),(.int .i64 0),(.int .i64 0),(.int .i64 0),.nils] []⟩,
  ⟨none,(some 6),.mov (.t 0)⟩,
  ⟨none,(some 7),.app 6 80 (.t 5) (.t 6)⟩,
  ⟨none,(some 2),.mov (.t 7)⟩])
 .ret)))
 ntmps:=8
 res:=[.tmp 2]
theorem z12y:zsjc P Try.f50=some a50:=by kernel_rfl
def a51:AFn where
 code:=(.seq (.region false [⟨none,(some 2),.mov (.k .nils)⟩])
 (.seq (.seq (.region false [⟨none,(some 3),.mov (.t 0)⟩,
  ⟨none,(some 4),.eqn 0 false (.t 3) (.k .nils)⟩])
 (.cond (.t 4) (.seq (.region false [⟨none,(some 2),.mov (.k .nils)⟩])
 .ret)
 .skip))
 (.seq (.region false [⟨none,(some 5),.bsl 37 0 [(.int .i64 0),(.int .i64 0),(w8 0#8),(w8 0#8),(w8 0#8),(w8 0#8),(w8 0#8),(w8 0#8),(w8 0#8),(w8 0#8),(w8 0#8),(w8 0#8),(w8 0#8),(w8 0#8),(w8 0#8),(w8 0#8),(w8 0#8),(w8 0#8),(w8 0#8),(w8 0#8),(w8 0#8),(w8 0#8),(w8 0#8),(w8 0#8),(w8 0#8),(w8 0#8),(w8 0#8),(w8 0#8),(w8 0#8),(w8 0#8),(w8 0#8),(w8 0#8),(w8 0#8),(w8 0#8),(.int .i64 0),(.int .i64 0),(.int .i64 0)] []⟩,
  ⟨none,(some 6),.mov (.t 0)⟩,
  ⟨none,(some 7),.app 37 72 (.t 5) (.t 6)⟩,
  ⟨none,(some 2),.mov (.t 7)⟩])
 .ret)))
 ntmps:=8
 res:=[.tmp 2]
theorem z8rx:zsjc P Try.f51=some a51:=by kernel_rfl
def zycq:ACode :=
 (.seq (.region false [⟨none,(some 16),.bin .lss (.t 15) (.t 14)⟩])
 (.seq (.cond (.t 16) .skip
 (.exit 0))
 (.seq (.block 1 (.seq (.region false [⟨none,(some 17),.mov (.t 15)⟩,
  ⟨none,(some 3),.mov (.t 17)⟩])
 (.region true [⟨none,(some 18),.fld 0 (.t 1)⟩,
  ⟨none,(some 19),.load 1 false (.t 18)⟩,
  ⟨none,(some 20),.mov (.t 3)⟩,
  ⟨none,(some 21),.fld 0 (.t 1)⟩,
  ⟨none,(some 22),.load 1 false (.t 21)⟩,
  ⟨none,(some 23),.mov (.t 3)⟩,
  ⟨none,(some 24),.idxS 6 (.t 22) (.t 23)⟩,
  ⟨none,(some 25),.fld 5 (.t 24)⟩,
  ⟨none,(some 26),.load 1 false (.t 25)⟩,
  ⟨none,(some 27),.callN (.k (.fn (.func 52) [] [])) [(.t 26)]⟩,
  ⟨none,(some 28),.idxS 6 (.t 19) (.t 20)⟩,
  ⟨none,(some 29),.fld 5 (.t 28)⟩,
  ⟨none,none,.store 1 (.t 29) (.t 27)⟩])))
 (.region false [⟨none,(some 30),.bin .add (.t 15) (.k (.int .i64 1))⟩,
  ⟨none,(some 15),.mov (.t 30)⟩]))))
def a91:AFn where
 code:=(.seq (.region false [⟨none,(some 1),.box (.t 0)⟩,
  ⟨none,(some 2),.alloc [.nils,.nils,(.int .i64 0)]⟩])
 (.seq (.region true [⟨none,(some 4),.fld 0 (.t 1)⟩,
  ⟨none,(some 5),.load 1 false (.t 4)⟩,
  ⟨none,(some 7),.fld 1 (.t 1)⟩,
  ⟨none,(some 8),.load 1 false (.t 7)⟩,
  ⟨none,(some 6),.callN (.k (.fn (.func 50) [] [])) [(.t 5)]⟩,
  ⟨none,(some 10),.fld 0 (.t 1)⟩,
  ⟨none,(some 9),.callN (.k (.fn (.func 51) [] [])) [(.t 8)]⟩,
  ⟨none,none,.store 1 (.t 10) (.t 6)⟩,
  ⟨none,(some 11),.fld 1 (.t 1)⟩,
  ⟨none,none,.store 1 (.t 11) (.t 9)⟩])
 (.seq (.seq (.region false [⟨none,(some 12),.fld 0 (.t 1)⟩,
  ⟨none,(some 13),.load 1 false (.t 12)⟩,
  ⟨none,(some 14),.len (.t 13)⟩,
  ⟨none,(some 15),.mov (.k (.int .i64 0))⟩])
 (.block 0 (.loop zycq)))
 (.seq (.region false [⟨none,(some 31),.load 3 true (.t 1)⟩,
  ⟨none,none,.store 3 (.t 2) (.t 31)⟩])
 .ret))))
 ntmps:=32
 res:=[.cell 2 3 true]
theorem z07s:zsjc P Try.f91=some a91:=by kernel_rfl
def a86:AFn where
 code:=(.seq (.region false [⟨none,(some 4),.box (.t 0)⟩,
  ⟨none,(some 6),.box (.t 2)⟩,
  ⟨none,(some 8),.alloc [.nils,.nils,(.int .i64 0)]⟩,
  ⟨none,(some 9),.mov (.k (.int .i64 0))⟩,
  ⟨none,(some 10),.mov (.k (.int .i64 0))⟩])
 (.seq (.block 0 (.seq (.region false [⟨none,(some 13),.load 3 true (.t 4)⟩,
  ⟨none,(some 14),.call (.k (.fn (.func 89) [] [])) [(.t 13)]⟩,
  ⟨none,(some 15),.un .not (.t 14)⟩,
  ⟨none,(some 16),.mov (.t 15)⟩,
  ⟨(some (16,false)),(some 17),.load 32 true (.t 6)⟩,
  ⟨(some (16,false)),(some 18),.build (rep 32 (w8 0#8)) []⟩,
  ⟨(some (16,false)),(some 19),.eqa false [(32,0)] (.t 17) (.t 18)⟩,
  ⟨none,(some 20),.pick (.t 16) (.k (.bool true)) (.t 19)⟩,
  ⟨none,(some 21),.mov (.t 20)⟩,
  ⟨(some (21,false)),(some 22),.mov (.t 3)⟩,
  ⟨(some (21,false)),(some 23),.call (.k (.fn (.func 90) [] [])) [(.t 22)]⟩,
  ⟨(some (21,false)),(some 24),.un .not (.t 23)⟩,
  ⟨none,(some 25),.pick (.t 21) (.k (.bool true)) (.t 24)⟩,
  ⟨none,(some 12),.mov (.t 25)⟩])
 (.cond (.t 12) (.seq (.region false [⟨none,(some 26),.build [.nils,.nils,(.int .i64 0)] []⟩,
  ⟨none,none,.store 3 (.t 8) (.t 26)⟩,
  ⟨none,(some 9),.mov (.k (.int .i64 0))⟩,
  ⟨none,(some 10),.mov (.k (.int .i64 1))⟩])
 .ret)
 (.seq (.region false [⟨none,(some 28),.mov (.t 1)⟩,
  ⟨none,(some 29),.bin .lss (.t 28) (.k (.int .i64 0))⟩,
  ⟨none,(some 30),.mov (.t 29)⟩,
  ⟨(some (30,false)),(some 31),.mov (.t 1)⟩,
  ⟨(some (30,false)),(some 32),.fld 0 (.t 4)⟩,
  ⟨(some (30,false)),(some 33),.load 1 false (.t 32)⟩,
  ⟨(some (30,false)),(some 34),.len (.t 33)⟩,
  ⟨(some (30,false)),(some 35),.bin .geq (.t 31) (.t 34)⟩,
  ⟨none,(some 36),.pick (.t 30) (.k (.bool true)) (.t 35)⟩,
  ⟨none,(some 27),.mov (.t 36)⟩])
 (.cond (.t 27) (.seq (.region false [⟨none,(some 37),.build [.nils,.nils,(.int .i64 0)] []⟩,
  ⟨none,none,.store 3 (.t 8) (.t 37)⟩,
  ⟨none,(some 9),.mov (.k (.int .i64 0))⟩,
  ⟨none,(some 10),.mov (.k (.int .i64 4))⟩])
 .ret)
 (.seq (.region false [⟨none,(some 39),.fld 1 (.t 4)⟩,
  ⟨none,(some 40),.load 1 false (.t 39)⟩,
  ⟨none,(some 41),.len (.t 40)⟩,
  ⟨none,(some 42),.bin .geq (.t 41) (.k (.int .i64 200))⟩,
  ⟨none,(some 43),.mov (.t 42)⟩,
  ⟨(some (43,false)),(some 44),.fld 2 (.t 4)⟩,
  ⟨(some (43,false)),(some 45),.load 1 false (.t 44)⟩,
  ⟨(some (43,false)),(some 46),.bin .geq (.t 45) (.k (.int .i64 1099511627776))⟩,
  ⟨none,(some 47),.pick (.t 43) (.k (.bool true)) (.t 46)⟩,
  ⟨none,(some 38),.mov (.t 47)⟩])
 (.cond (.t 38) (.seq (.region false [⟨none,(some 48),.build [.nils,.nils,(.int .i64 0)] []⟩,
  ⟨none,none,.store 3 (.t 8) (.t 48)⟩,
  ⟨none,(some 9),.mov (.k (.int .i64 0))⟩,
  ⟨none,(some 10),.mov (.k (.int .i64 3))⟩])
 .ret)
 .skip)))))))
 (.seq (.region false [⟨none,(some 49),.load 3 true (.t 4)⟩,
  ⟨none,(some 50),.call (.k (.fn (.func 91) [] [])) [(.t 49)]⟩,
  ⟨none,none,.store 3 (.t 4) (.t 50)⟩])
 (.seq (.region false [⟨none,(some 51),.fld 2 (.t 4)⟩,
  ⟨none,(some 52),.load 1 false (.t 51)⟩,
  ⟨none,(some 11),.mov (.t 52)⟩])
 (.seq (.region false [⟨none,(some 53),.fld 1 (.t 4)⟩,
  ⟨none,(some 54),.load 1 false (.t 53)⟩,
  ⟨none,(some 55),.mov (.t 11)⟩,
  ⟨none,(some 56),.mov (.t 1)⟩,
  ⟨none,(some 57),.load 32 true (.t 6)⟩,
  ⟨none,(some 58),.mov (.t 3)⟩,
  ⟨none,(some 59),.build [(.int .i64 0),(.int .i64 0),(w8 0#8),(w8 0#8),(w8 0#8),(w8 0#8),(w8 0#8),(w8 0#8),(w8 0#8),(w8 0#8),(w8 0#8),(w8 0#8),(w8 0#8),(w8 0#8),(w8 0#8),(w8 0#8),(w8 0#8),(w8 0#8),(w8 0#8),(w8 0#8),(w8 0#8),(w8 0#8),(w8 0#8),(w8 0#8),(w8 0#8),(w8 0#8),(w8 0#8),(w8 0#8),(w8 0#8),(w8 0#8),(w8 0#8),(w8 0#8),(w8 0#8),(w8 0#8),(.int .i64 0),(.int .i64 0),(.int .i64 0)] [(0,1,(.t 55)),(1,1,(.t 56)),(2,32,(.t 57)),(34,1,(.k (.int .i64 1))),(35,1,(.t 58)),(36,1,(.k (.int .i64 (-1))))]⟩,
  ⟨none,(some 60),.bsl 37 1 [(.int .i64 0),(.int .i64 0),(w8 0#8),(w8 0#8),(w8 0#8),(w8 0#8),(w8 0#8),(w8 0#8),(w8 0#8),(w8 0#8),(w8 0#8),(w8 0#8),(w8 0#8),(w8 0#8),(w8 0#8),(w8 0#8),(w8 0#8),(w8 0#8),(w8 0#8),(w8 0#8),(w8 0#8),(w8 0#8),(w8 0#8),(w8 0#8),(w8 0#8),(w8 0#8),(w8 0#8),(w8 0#8),(w8 0#8),(w8 0#8),(w8 0#8),(w8 0#8),(w8 0#8),(w8 0#8),(.int .i64 0),(.int .i64 0),(.int .i64 0)] [(0,37,(.t 59))]⟩,
  ⟨none,(some 61),.app 37 72 (.t 54) (.t 60)⟩,
  ⟨none,(some 62),.fld 1 (.t 4)⟩,
  ⟨none,none,.store 1 (.t 62) (.t 61)⟩])
 (.seq (.region false [⟨none,(some 63),.fld 2 (.t 4)⟩,
  ⟨none,(some 64),.load 1 false (.t 63)⟩,
  ⟨none,(some 65),.bin .add (.t 64) (.k (.int .i64 1))⟩,
  ⟨none,(some 66),.fld 2 (.t 4)⟩,
  ⟨none,none,.store 1 (.t 66) (.t 65)⟩])
 (.seq (.region false [⟨none,(some 67),.load 3 true (.t 4)⟩,
  ⟨none,(some 68),.mov (.t 11)⟩,
  ⟨none,none,.store 3 (.t 8) (.t 67)⟩,
  ⟨none,(some 9),.mov (.t 68)⟩,
  ⟨none,(some 10),.mov (.k (.int .i64 0))⟩])
 .ret)))))))
 ntmps:=69
 res:=[.cell 8 3 true,.tmp 9,.tmp 10]
theorem z2i3:zsjc P Try.f86=some a86:=by kernel_rfl
def a69:AFn where
 code:=(.seq (.region false [⟨none,(some 5),.box (.t 0)⟩,
  ⟨none,(some 10),.alloc [.nils,.nils,(.int .i64 0)]⟩,
  ⟨none,(some 11),.mov (.k (.int .i64 0))⟩])
 (.seq (.seq (.region false [⟨none,(some 13),.load 3 true (.t 5)⟩,
  ⟨none,(some 14),.call (.k (.fn (.func 89) [] [])) [(.t 13)]⟩,
  ⟨none,(some 15),.un .not (.t 14)⟩,
  ⟨none,(some 16),.mov (.t 15)⟩,
  ⟨(some (16,false)),(some 17),.mov (.t 2)⟩,
  ⟨(some (16,false)),(some 18),.call (.k (.fn (.func 90) [] [])) [(.t 17)]⟩,
  ⟨(some (16,false)),(some 19),.un .not (.t 18)⟩,
  ⟨none,(some 20),.pick (.t 16) (.k (.bool true)) (.t 19)⟩])
 (.cond (.t 20) (.seq (.region false [⟨none,(some 21),.build [.nils,.nils,(.int .i64 0)] []⟩,
  ⟨none,none,.store 3 (.t 10) (.t 21)⟩,
  ⟨none,(some 11),.mov (.k (.int .i64 1))⟩])
 .ret)
 .skip))
 (.seq (.region false [⟨none,(some 22),.load 3 true (.t 5)⟩,
  ⟨none,(some 23),.mov (.t 1)⟩,
  ⟨none,(some 24),.call (.k (.fn (.func 53) [] [])) [(.t 22),(.t 23)]⟩,
  ⟨none,(some 12),.mov (.t 24)⟩])
 (.seq (.seq (.region false [⟨none,(some 25),.mov (.t 12)⟩,
  ⟨none,(some 26),.bin .lss (.t 25) (.k (.int .i64 0))⟩])
 (.cond (.t 26) (.seq (.region false [⟨none,(some 27),.build [.nils,.nils,(.int .i64 0)] []⟩,
  ⟨none,none,.store 3 (.t 10) (.t 27)⟩,
  ⟨none,(some 11),.mov (.k (.int .i64 4))⟩])
 .ret)
 .skip))
 (.seq (.seq (.region false [⟨none,(some 28),.mov (.t 4)⟩,
  ⟨none,(some 29),.fld 1 (.t 5)⟩,
  ⟨none,(some 30),.load 1 false (.t 29)⟩,
  ⟨none,(some 31),.mov (.t 12)⟩,
  ⟨none,(some 32),.idxS 37 (.t 30) (.t 31)⟩,
  ⟨none,(some 33),.fld 34 (.t 32)⟩,
  ⟨none,(some 34),.load 1 false (.t 33)⟩,
  ⟨none,(some 35),.call (.t 28) [(.t 34)]⟩,
  ⟨none,(some 36),.un .not (.t 35)⟩])
 (.cond (.t 36) (.seq (.region false [⟨none,(some 37),.build [.nils,.nils,(.int .i64 0)] []⟩,
  ⟨none,none,.store 3 (.t 10) (.t 37)⟩,
  ⟨none,(some 11),.mov (.k (.int .i64 30))⟩])
 .ret)
 .skip))
 (.seq (.region false [⟨none,(some 38),.load 3 true (.t 5)⟩,
  ⟨none,(some 39),.call (.k (.fn (.func 91) [] [])) [(.t 38)]⟩,
  ⟨none,none,.store 3 (.t 5) (.t 39)⟩])
 (.seq (.region true [⟨none,(some 40),.fld 1 (.t 5)⟩,
  ⟨none,(some 41),.load 1 false (.t 40)⟩,
  ⟨none,(some 42),.mov (.t 12)⟩,
  ⟨none,(some 43),.fld 1 (.t 5)⟩,
  ⟨none,(some 44),.load 1 false (.t 43)⟩,
  ⟨none,(some 45),.mov (.t 12)⟩,
  ⟨none,(some 46),.mov (.t 3)⟩,
  ⟨none,(some 47),.mov (.t 2)⟩,
  ⟨none,(some 48),.idxS 37 (.t 41) (.t 42)⟩,
  ⟨none,(some 49),.fld 34 (.t 48)⟩,
  ⟨none,none,.store 1 (.t 49) (.t 46)⟩,
  ⟨none,(some 50),.idxS 37 (.t 44) (.t 45)⟩,
  ⟨none,(some 51),.fld 35 (.t 50)⟩,
  ⟨none,none,.store 1 (.t 51) (.t 47)⟩,
  ⟨none,none,.apart (.t 5) (.t 49)⟩,
  ⟨none,none,.apart (.t 43) (.t 49)⟩])
 (.seq (.region false [⟨none,(some 52),.load 3 true (.t 5)⟩,
  ⟨none,none,.store 3 (.t 10) (.t 52)⟩,
  ⟨none,(some 11),.mov (.k (.int .i64 0))⟩])
 .ret))))))))
 ntmps:=53
 res:=[.cell 10 3 true,.tmp 11]
theorem z713:zsjc P Try.f69=some a69:=by kernel_rfl
def a70:AFn where
 code:=(.seq (.region false [⟨none,(some 2),.mov (.k (.bool false))⟩])
 (.seq (.region false [⟨none,(some 3),.mov (.t 0)⟩,
  ⟨none,(some 4),.bin .neq (.t 3) (.k (.int .i64 3))⟩,
  ⟨none,(some 2),.mov (.t 4)⟩])
 .ret))
 ntmps:=5
 res:=[.tmp 2]
theorem zhcw:zsjc P Try.f70=some a70:=by kernel_rfl
def a54:AFn where
 code:=(.seq (.region false [⟨none,(some 3),.box (.t 0)⟩,
  ⟨none,(some 6),.alloc [.nils,.nils,(.int .i64 0)]⟩,
  ⟨none,(some 7),.mov (.k (.int .i64 0))⟩])
 (.seq (.region false [⟨none,(some 8),.load 3 true (.t 3)⟩,
  ⟨none,(some 9),.mov (.t 1)⟩,
  ⟨none,(some 10),.mov (.t 2)⟩,
  ⟨none,(some 11),.call (.k (.fn (.func 69) [] [])) [(.t 8),(.t 9),(.t 10),(.k (.int .i64 3)),(.k (.fn (.func 70) [] []))]⟩,
  ⟨none,(some 12),.ext (.t 11) 0⟩,
  ⟨none,(some 13),.ext (.t 11) 1⟩,
  ⟨none,none,.store 3 (.t 6) (.t 12)⟩,
  ⟨none,(some 7),.mov (.t 13)⟩])
 .ret))
 ntmps:=14
 res:=[.cell 6 3 true,.tmp 7]
theorem zq4q:zsjc P Try.f54=some a54:=by kernel_rfl
end Go.Proofs.Ytaihpefemjlilaa
set_option linter.unusedSimpArgs false
set_option linter.unusedVariables false
namespace Go.Proofs.Ytaihpefemjlilaa
open Go Go.Am
end Go.Proofs.Ytaihpefemjlilaa
set_option linter.unusedSimpArgs false
set_option linter.unusedVariables false
namespace Go.Proofs.Ytaihpefemjlilaa
open Go Go.Am
theorem z1ch {α:Type} {f:α→List DV} {s:Nat} (hu : ∀ a,(f a).length=s) (h0:0<s) (hi : ∀ a b,f a=f b→a=b) : ∀ {l l':List α},l.flatMap f=l'.flatMap f→l=l'
 | [],[],_=>rfl
 | [],b::l',e=>by have:=congrArg List.length e; simp [hu] at this; omega
 | a::l,[],e=>by have:=congrArg List.length e; simp [hu] at this; omega
 | a::l,b::l',e=>by
  rw [List.flatMap_cons,List.flatMap_cons] at e
  have:=List.append_inj e (by rw [hu,hu])
  rw [hi _ _ this.1,z1ch hu h0 hi this.2]
theorem zcq7 {α:Type} {f:α→List DV} {s:Nat} (hu : ∀ a,(f a).length=s) (h0:0<s) (hi : ∀ a b,f a=f b→a=b) {x y:Sl α} (e:x.dv s f=y.dv s f):x=y:=by
 obtain ⟨k,l,h,hb⟩:=x
 obtain ⟨k',l',h',hb'⟩:=y
 cases k with
 | none =>
  cases k' with
  | none=>cases h rfl; cases h' rfl; rfl
  | some b=>simp [Sl.dv,slD] at e
 | some b =>
  cases k' with
  | none=>simp [Sl.dv,slD] at e
  | some b' =>
   simp only [Sl.dv,slD,DV.sl.injEq] at e
   obtain ⟨rfl,_,_,e⟩:=e
   cases z1ch hu h0 hi e
   rfl
theorem z42k {x y:Sl Dg} (e:x.dv 32 dgC=y.dv 32 dgC):x=y:=zcq7 z1t1 (by decide) (fun _ _=>zib9) e
theorem zs5w {a b:Grp} (e:grC a=grC b):a=b:=by
 obtain ⟨a1,a2,a3,a4,a5,a6⟩:=a
 obtain ⟨b1,b2,b3,b4,b5,b6⟩:=b
 simp only [grC,List.cons.injEq,DV.str.injEq,DV.int.injEq,true_and,and_true] at e
 obtain ⟨rfl,rfl,rfl,rfl,rfl,e⟩:=e
 rw [z42k e]
theorem zpbj {a b:Ins} (e:inC a=inC b):a=b:=by
 have h:=zmar (x:=a) (y:=b)
 rw [← e,zmar] at h
 simpa using h
theorem zh7t {a b:Clu} (e:clC a=clC b):a=b:=by
 obtain ⟨a1,a2,a3⟩:=a
 obtain ⟨b1,b2,b3⟩:=b
 simp only [clC,List.cons.injEq,DV.int.injEq,true_and,and_true] at e
 obtain ⟨e1,e2,rfl⟩:=e
 rw [zcq7 zry4 (by decide) (fun _ _=>zs5w) e1,zcq7 z6gw (by decide) (fun _ _=>zpbj) e2]
theorem zsn4 {α:Type} {f:α→List DV} {g:α→DV} (hi : ∀ a b,f a=f b→a=b) (a:α):con (fun _=>True) f g (f a)=some (g a):=zzno (fun a b e=>by rw [hi a b e]) a trivial
theorem znxs {h:List AObj} {k:Nat} {f:Fn} {x y:DV}:snap h (k+1) (.fn f [] [x,y])=(snap h (k+1) x).bind fun a=>(snap h (k+1) y).map fun b => .fn f [] [a,b]:=by
 simp only [snap,zcxt,zoyo]
 cases zcxt _ x<;>simp only [Option.bind_some,Option.bind_none]
 ·rfl
 ·cases zcxt _ y<;>rfl
theorem zxh4 {h:List AObj} {k:Nat} {f:Fn} {x:DV}:snap h (k+1) (.fn f [] [x])=(snap h (k+1) x).map fun y => .fn f [] [y]:=by
 simp only [snap,zcxt,zoyo]
 cases zcxt _ x<;>rfl
theorem zsqc {α:Type} {h:List AObj} {k s:Nat} {f:α→List DV} {x:Sl α} (hp : ∀ a,zbao (f a)=true):snap h k (x.dv s f)=some (x.dv s f):=z6nl (zxxb hp x)
theorem z7y9 {h:List AObj} {k:Nat} {x:Sl Dg}:snap h k (x.dv 32 dgC)=some (x.dv 32 dgC):=zsqc z3ot
theorem zpud {h:List AObj} {k:Nat} {x:Sl Grp}:snap h k (x.dv 6 grC)=some (x.dv 6 grC):=zsqc zxeb
theorem z347 {h:List AObj} {k:Nat} {x:Sl Ins}:snap h k (x.dv 37 inC)=some (x.dv 37 inC):=zsqc z9kv
theorem z3ju {h:List AObj} {k:Nat} {c:Clu}:z4tt h k (clC c)=some (clC c):=z619 (zy11 c)
theorem z8p0 {h:List AObj} {k:Nat} {c:Grp}:z4tt h k (grC c)=some (grC c):=z619 (zxeb c)
theorem zgd2 {h:List AObj} {k:Nat} {c:Ins}:z4tt h k (inC c)=some (inC c):=z619 (z9kv c)
theorem z3om {h:List AObj} {k:Nat} {c:Dg}:z4tt h k (dgC c)=some (dgC c):=z619 (z3ot c)
attribute [simp] znxs zxh4 z7y9 zpud z347 z3ju z8p0 zgd2 z3om
end Go.Proofs.Ytaihpefemjlilaa
set_option linter.unusedSimpArgs false
set_option linter.unusedVariables false
namespace Go.Proofs.Ytaihpefemjlilaa
open Go Go.Am
theorem zoxk {d:Dg}:(dgC d).all DV.one=true:=zzst
theorem zes9 {h:List AObj} {id:Nat} {d:Dg} {l:List DV} (hl:l.length=32):zy6o h id 32 0 (.agg (dgC d)) (some l)=some (.junk,h.set id (.cells (dgC d))):=zfc1 (z1t1 d) hl zzst
theorem zec3 {h:List AObj} {id:Nat} {x:Ins} {l:List DV} (hl:l.length=37):zy6o h id 37 0 (.agg (inC x)) (some l)=some (.junk,h.set id (.cells (inC x))):=zfc1 (z6gw x) hl (by simp only [inC,List.all_cons,List.all_append,zoxk,zzmf,List.all_nil,Bool.and_self])
theorem zm4y {h:List AObj} {id:Nat} {x:Grp} {l:List DV} (hl:l.length=6):zy6o h id 6 0 (.agg (grC x)) (some l)=some (.junk,h.set id (.cells (grC x))):=zfc1 (zry4 x) hl (by simp only [grC,List.all_cons,zzmf,zxyr,z4ja,List.all_nil,Bool.and_self])
theorem zpff {h:List AObj} {id:Nat} {x:Clu} {l:List DV} (hl:l.length=3):zy6o h id 3 0 (.agg (clC x)) (some l)=some (.junk,h.set id (.cells (clC x))):=zfc1 (zlha x) hl (by simp only [clC,List.all_cons,zzmf,z4ja,List.all_nil,Bool.and_self])
mutual
theorem z8b8 (n:Nat) : ∀ (d:DV),zyp8 d=true→Am.below n d=true
 | .agg cs,h=>by simp only [zyp8] at h; simp only [Am.below]; exact zmq5 n cs h
 | .tup cs,h=>by simp only [zyp8] at h; simp only [Am.below]; exact zmq5 n cs h
 | .sl _ _ _ cs,h=>by simp only [zyp8] at h; simp only [Am.below]; exact zmq5 n cs h
 | .ref cs,h=>by simp only [zyp8] at h; simp only [Am.below]; exact zmq5 n cs h
 | .fn _ a b,h=>by simp only [zyp8,Bool.and_eq_true] at h; simp only [Am.below,Bool.and_eq_true]; exact ⟨zmq5 n a h.1,zmq5 n b h.2⟩
 | .iface _ v,h=>by simp only [zyp8] at h; simp only [Am.below]; exact z8b8 n v h
 | .ms ..,h=>by simp [zyp8] at h
 | .mp ..,h=>by simp [zyp8] at h
 | .int ..,_=>rfl
 | .bool ..,_=>rfl
 | .str ..,_=>rfl
 | .nilp,_=>rfl
 | .nilm,_=>rfl
 | .nilf,_=>rfl
 | .nili,_=>rfl
 | .nils,_=>rfl
 | .junk,_=>rfl
theorem zmq5 (n:Nat) : ∀ (l:List DV),zbao l=true→belowL n l=true
 | [],_=>rfl
 | d::r,h=>by simp only [zbao,Bool.and_eq_true] at h; simp only [belowL,Bool.and_eq_true]; exact ⟨z8b8 n d h.1,zmq5 n r h.2⟩
end
theorem zni3 {n:Nat} {g:Grp}:belowL n (grC g)=true:=zmq5 n _ (zxeb g)
theorem zye5 {n:Nat} {g:Clu}:belowL n (clC g)=true:=zmq5 n _ (zy11 g)
theorem z9u0 {n:Nat} {g:Ins}:belowL n (inC g)=true:=zmq5 n _ (z9kv g)
theorem zbw6 {n:Nat} {g:Dg}:belowL n (dgC g)=true:=zmq5 n _ (z3ot g)
theorem z2h4 {n:Nat} {x:Sl Dg}:Am.below n (x.dv 32 dgC)=true:=z8b8 n _ (zpfc x)
theorem zb7c {n:Nat} {x:Sl Grp}:Am.below n (x.dv 6 grC)=true:=z8b8 n _ (z1vd x)
theorem zphd {n:Nat} {x:Sl Ins}:Am.below n (x.dv 37 inC)=true:=z8b8 n _ (zcha x)
attribute [simp] zni3 zye5 z9u0 zbw6 z2h4 zb7c zphd zes9 zec3 zm4y zpff
end Go.Proofs.Ytaihpefemjlilaa
set_option linter.unusedSimpArgs false
set_option linter.unusedVariables false
namespace Go.Proofs.Ytaihpefemjlilaa
open Go Go.Am
def mutD {α:Type} (id s:Nat) (x:Sl α) (f:α→List DV):DV:=if x.l=[] then x.clone.dv s f else .ms id (x.l.length*s) 0 s x.l.length (x.l.length*s)
theorem zpj6 {α:Type} {id s:Nat} {x:Sl α} {f:α→List DV} (h:x.l=[]):mutD id s x f=x.clone.dv s f:=if_pos h
theorem z2ra {α:Type} {id s:Nat} {x:Sl α} {f:α→List DV} (h:x.l≠[]):mutD id s x f = .ms id (x.l.length*s) 0 s x.l.length (x.l.length*s):=if_neg h
theorem z9jy {α:Type} {f:α→List DV} (h : ∀ a,(f a).all DV.one=true) : ∀ (l:List α),(l.flatMap f).all DV.one=true
 | []=>rfl
 | a::l=>by rw [List.flatMap_cons,List.all_append,h,z9jy h l]; rfl
theorem zbq1 (g:Grp):(grC g).all DV.one=true:=by simp only [grC,List.all_cons,zzmf,zxyr,z4ja,List.all_nil,Bool.and_self]
theorem z8go (x:Ins):(inC x).all DV.one=true:=by simp only [inC,List.all_cons,List.all_append,zoxk,zzmf,List.all_nil,Bool.and_self]
end Go.Proofs.Ytaihpefemjlilaa
set_option linter.unusedSimpArgs false
set_option linter.unusedVariables false
namespace Go.Proofs.Ytaihpefemjlilaa
open Go Go.Am
theorem zbvn {a b c v:DV}:zk7y [a,b,c] 0 [v]=[v,b,c]:=rfl
theorem zgna {a b c v:DV}:zk7y [a,b,c] 1 [v]=[a,v,c]:=rfl
theorem ztfh {a b c v:DV}:zk7y [a,b,c] 2 [v]=[a,b,v]:=rfl
attribute [simp] zbvn zgna ztfh
theorem zngo {a b c:DV}:oneC 3 true [a,b,c]=some (.agg [a,b,c]):=rfl
theorem z9oo {h:List AObj} {id:Nat} {a b c:DV} {l:List DV} (hl:l.length=3) (h1:a.one=true) (h2:b.one=true) (h3:c.one=true):zy6o h id 3 0 (.agg [a,b,c]) (some l)=some (.junk,h.set id (.cells [a,b,c])):=zfc1 rfl hl (by simp [h1,h2,h3])
attribute [simp] zngo z9oo
theorem zpq0 {α:Type} {id s:Nat} {x:Sl α} {f:α→List DV}:(mutD id s x f).one=true:=by
 by_cases h:x.l=[]
 ·rw [zpj6 h]; exact z4ja _
 ·rw [z2ra h]; rfl
theorem zflp {α:Type} {id s:Nat} {x:Sl α} {f:α→List DV}:(mutD id s x f).cells=[mutD id s x f]:=by
 by_cases h:x.l=[]
 ·rw [zpj6 h]; exact zs9p _
 ·rw [z2ra h]; rfl
theorem zpel {α:Type} {id s:Nat} {x:Sl α} {f:α→List DV}:(mutD id s x f).known=true:=by
 by_cases h:x.l=[]
 ·rw [zpj6 h]; exact ztw5 _
 ·rw [z2ra h]; rfl
attribute [simp] zpq0 zflp zpel
end Go.Proofs.Ytaihpefemjlilaa
set_option linter.unusedSimpArgs false
set_option linter.unusedVariables false
namespace Go.Proofs.Ytaihpefemjlilaa
open Go Go.Am
theorem z4c0 {h:List AObj} {k:Nat} {l:List Grp}:z4tt h k (l.flatMap grC)=some (l.flatMap grC):=z619 (zp6k zxeb l)
theorem zodk {h:List AObj} {k:Nat} {l:List Ins}:z4tt h k (l.flatMap inC)=some (l.flatMap inC):=z619 (zp6k z9kv l)
theorem zk3i {g:Grp}:(grC g).take 6=grC g:=List.take_of_length_le (by simp)
theorem z6oi {g:Ins}:(inC g).take 37=inC g:=List.take_of_length_le (by simp)
attribute [simp] zk3i z6oi z4c0 zodk zbq1 z8go zoxk
end Go.Proofs.Ytaihpefemjlilaa
set_option linter.unusedSimpArgs false
set_option linter.unusedVariables false
namespace Go.Proofs.Ytaihpefemjlilaa
open Go Go.Am
end Go.Proofs.Ytaihpefemjlilaa
set_option linter.unusedSimpArgs false
set_option linter.unusedVariables false
namespace Go.Proofs.Ytaihpefemjlilaa
open Go Go.Am
end Go.Proofs.Ytaihpefemjlilaa
set_option linter.unusedSimpArgs false
set_option linter.unusedVariables false
namespace Go.Proofs.Ytaihpefemjlilaa
open Go Go.Am
def a5:AFn where
 code:=(.seq (.region false [⟨none,(some 4),.mov (.k (.int .i64 0))⟩])
 (.seq (.region false [⟨none,(some 5),.mov (.t 0)⟩,
  ⟨none,(some 6),.mov (.t 1)⟩,
  ⟨none,(some 7),.bin .rem (.t 5) (.t 6)⟩,
  ⟨none,(some 8),.mov (.t 1)⟩,
  ⟨none,(some 9),.bin .add (.t 7) (.t 8)⟩,
  ⟨none,(some 10),.mov (.t 1)⟩,
  ⟨none,(some 11),.bin .rem (.t 9) (.t 10)⟩,
  ⟨none,(some 4),.mov (.t 11)⟩])
 .ret))
 ntmps:=12
 res:=[.tmp 4]
theorem zonh:zsjc P Try.f5=some a5:=by kernel_rfl
end Go.Proofs.Ytaihpefemjlilaa
set_option linter.unusedSimpArgs false
set_option linter.unusedVariables false
namespace Go.Proofs.Ytaihpefemjlilaa
open Go Go.Am
structure Tp where
 k:Option Bool
 l:List Int
 h:k=none→l=[]
 at_:Nat
def inI (n:Int):List DV:=[.int .i64 n]
def Tp.sl (t:Tp):DV:=slD t.k 1 t.l.length (t.l.flatMap inI)
def tpC (t:Tp):List DV:=[t.sl,.int .i64 t.at_]
def Tp.adv (t:Tp) (m:Nat):Tp:={ t with at_:=t.at_+m }
theorem zyj0 (n:Int):zbao (inI n)=true:=rfl
theorem z5yb (t:Tp):zyp8 t.sl=true:=by
 obtain ⟨k,l,h,a⟩:=t
 cases k with
 | none=>rfl
 | some b=>show zbao _=true; exact zp6k zyj0 l
theorem zl4f (t:Tp):(tpC t).length=2:=by simp [tpC]
theorem zwhz (t:Tp) (H:List AObj):lenD H t.sl=some (.int .i64 t.l.length):=zjc6 (fun e=>by rw [t.h e]; rfl)
theorem zxr4 (t:Tp):t.sl.one=true:=by obtain ⟨k,l,h,a⟩:=t; cases k<;>rfl
theorem zn8z (t:Tp):t.sl.known=true:=by obtain ⟨k,l,h,a⟩:=t; cases k<;>rfl
theorem zymw (t:Tp):t.sl.cells=[t.sl]:=by obtain ⟨k,l,h,a⟩:=t; cases k<;>rfl
theorem zpy8 (t:Tp) (n k:Nat) (H:List AObj):fz n H k t.sl=some t.sl:=zqge (z5yb t)
attribute [simp] zwhz zxr4 zn8z zymw zpy8 zl4f
theorem z1rh (t:Tp) (m:Nat):(t.adv m).sl=t.sl:=by simp [Tp.adv,Tp.sl]
theorem zpza (t:Tp) (m:Nat):(t.adv m).at_=t.at_+m:=by simp [Tp.adv]
theorem zk2k (t:Tp) (m:Nat):(t.adv m).l=t.l:=by simp [Tp.adv]
attribute [simp] z1rh zpza zk2k
theorem zhly (x n:Int) (h:1≤n) (h2:n≤4294967296):IntKind.i64.wrap (x.tmod n+n)=x.tmod n+n∧(x.tmod n+n).tmod n=x % n:=by
 have h1:=Int.tmod_lt_of_pos x (show 0<n by omega)
 have h3 : -n<x.tmod n:=by
  have:=Int.lt_tmod_of_pos x (show 0<n by omega)
  omega
 refine ⟨znmn (by omega) (by omega),?_⟩
 rw [Int.tmod_eq_emod_of_nonneg (by omega),Int.add_emod_right]
 rw [Int.tmod_eq_emod]
 split
 ·simp
 ·rw [Int.natAbs_of_nonneg (show 0≤n by omega)]; simp
def dgW (b:BitVec 8):Dg:=⟨b::rep 31 0#8,by simp [rep]⟩
theorem z38l (n k:Int) (h1:1≤k) (h2:k≤4294967296):Runs tbl0 a5 [.int .i64 n,.int .i64 k] (.int .i64 (n % k)):=by
 refine ⟨?_⟩
 obtain ⟨f1,f2⟩:=zhly n k h1 h2
 have h0:k≠0:=by omega
 simp (disch:=first|omega|simp<;>omega|fail) [-zA,-zB,-zC,-zD,-zE,a5,h0,f1,f2,-Int.tmod_eq_emod_of_nonneg]
noncomputable def zqmv:List DV→Option DV
 | [.int .i64 n,.int .i64 k]=>if 1≤k∧k≤4294967296 then some (.int .i64 (n % k)) else none
 | _=>none
theorem zcb9 {n k:Int} (h1:1≤k) (h2:k≤4294967296):zqmv [.int .i64 n,.int .i64 k]=some (.int .i64 (n % k)):=if_pos ⟨h1,h2⟩
theorem zt30:(Con.pure zqmv).Sound P 5:=by
 intro args v e
 unfold zqmv at e
 split at e
 ·obtain ⟨⟨h1,h2⟩,e⟩:=Option.ite_none_right_eq_some.1 e
  simp at e; subst e
  exact zljw mix zr5o Try.func5 zonh (z38l _ _ h1 h2)
 ·simp at e
structure Nl where
 k:Option Bool
 l:List Int
 h:k=none→l=[]
 b:l.length≤9223372036854775807
def Nl.dv (x:Nl):DV:=slD x.k 1 x.l.length (x.l.flatMap inI)
theorem zkx7 (x:Nl):zyp8 x.dv=true:=z5yb ⟨x.k,x.l,x.h,0⟩
end Go.Proofs.Ytaihpefemjlilaa
set_option linter.unusedSimpArgs false
set_option linter.unusedVariables false
namespace Go.Proofs.Ytaihpefemjlilaa
open Go Go.Am
structure GS where
 k:Nat
 t:Tp
 l:List Dg
 d:Dg
structure GC where
 ns:List UInt8
 im:List UInt8
 want:Int
 least:Int
 down:Int
end Go.Proofs.Ytaihpefemjlilaa
set_option linter.unusedSimpArgs false
set_option linter.unusedVariables false
namespace Go.Proofs.Ytaihpefemjlilaa
open Go Go.Am
def cpD {α:Type} (id s:Nat) (x:Sl α):DV:=if x.l=[] then .nils else .ms id (x.l.length*s) 0 s x.l.length (x.l.length*s)
theorem zbn2 {α:Type} {id s:Nat} {x:Sl α}:(cpD id s x).one=true:=by unfold cpD; split<;>rfl
theorem zjy1 {α:Type} {id s:Nat} {x:Sl α}:(cpD id s x).cells=[cpD id s x]:=by unfold cpD; split<;>rfl
theorem zufi {α:Type} {id s:Nat} {x:Sl α}:(cpD id s x).known=true:=by unfold cpD; split<;>rfl
attribute [simp] zbn2 zjy1 zufi
end Go.Proofs.Ytaihpefemjlilaa
set_option linter.unusedSimpArgs false
set_option linter.unusedVariables false
namespace Go.Proofs.Ytaihpefemjlilaa
open Go Go.Am
def nilI:Sl Ins:=⟨none,[],fun _=>rfl,by simp⟩
structure DS where
 k:Nat
 c:Clu
 t:Tp
structure IS where
 k:Nat
 l:List Ins
 n:Int
 t:Tp
 x:Ins
end Go.Proofs.Ytaihpefemjlilaa
set_option linter.unusedSimpArgs false
set_option linter.unusedVariables false
namespace Go.Proofs.Ytaihpefemjlilaa
open Go Go.Am
structure UG (l:List Grp):Prop where
 n:l.length≤16
 g : ∀ i (h:i<l.length),ValidG l[i]∧z9w0 l l[i].ns l[i].im=i
structure CG (c:Clu):Prop where
 u:UG c.g.l
 i:c.i=nilI
 n0:1≤c.next
 n1:c.next≤4
structure IG (ng:Nat) (l:List Ins) (n:Int):Prop where
 s : ∀ x ∈ l,SoundI ng n x
 o:l.Pairwise fun a b=>a.id<b.id
end Go.Proofs.Ytaihpefemjlilaa
set_option linter.unusedSimpArgs false
set_option linter.unusedVariables false
namespace Go.Proofs.Ytaihpefemjlilaa
open Go Go.Am
section
variable {α β:Type} {lt:α→α→Bool}
end
def selL (l:List Ins) (k:Int) (p:Ins→Bool):List Ins:=l.filter fun x=>decide (x.grp=k)&&p x
def zj6b (g:Grp) (x:Ins):Bool:=(decide (x.state=1)||decide (x.state=2))&&(decide (x.den = -1)&&decide (x.art ∈ g.ch.l))
def z56d (g:Grp) (l:List Ins) (k:Int):List Ins:=selL l k (fun x=>decide (x.state=2)&&zj6b g x)
structure GoodI (l:List Ins):Prop where
 s : ∀ x ∈ l,1≤x.state∧x.state≤3 ∧ -1≤x.den
 d:l.Pairwise (fun x y=>x.id<y.id)
end Go.Proofs.Ytaihpefemjlilaa
set_option linter.unusedSimpArgs false
set_option linter.unusedVariables false
namespace Go.Proofs.Ytaihpefemjlilaa
open Go Go.Am
structure VicFacts (g:Grp) (l:List Ins) (k:Int) (v:List Int):Prop where
 oneC : ∀ x ∈ l,x.grp=k→x.state=2→zj6b g x=false→v.count x.id=1
 le : ∀ x ∈ l,x.grp=k→x.state=2→zj6b g x=true→v.count x.id≤1
 sum:((z56d g l k).map fun x=>v.count x.id).sum=min ((selL l k (zj6b g)).length-g.want).toNat (z56d g l k).length
 len:v.length=(selL l k fun x=>decide (x.state=2) && !zj6b g x).length+((z56d g l k).map fun x=>v.count x.id).sum
end Go.Proofs.Ytaihpefemjlilaa
set_option linter.unusedSimpArgs false
set_option linter.unusedVariables false
namespace Go.Proofs.Ytaihpefemjlilaa
open Go Go.Am
def runB (k:Int) (x:Ins):Bool:=decide (x.grp=k)&&decide (x.state=2)
def z6xi (x:Ins):Ins:=(x.st 3).si 50
def zzoq (k:Int):List Ins→Nat→List Ins
 | [],_=>[]
 | x::r,0=>x::r
 | x::r,n+1=>if runB k x=true then z6xi x::zzoq k r n else x::zzoq k r (n+1)
def lim3 (g:Grp):Int × Int × Int:=(g.want,g.least,g.down)
structure Stp (c d:Clu) (k:Int) (n:Nat):Prop where
 v:ValidC d
 i:d.i.l=zzoq k c.i.l n
 n:d.next=c.next
 g:d.g.l.map lim3=c.g.l.map lim3
end Go.Proofs.Ytaihpefemjlilaa
set_option linter.unusedSimpArgs false
set_option linter.unusedVariables false
namespace Go.Proofs.Ytaihpefemjlilaa
open Go Go.Am
def zcng:ACode :=
 (.seq (.region false [⟨none,(some 23),.bin .lss (.t 22) (.t 21)⟩])
 (.seq (.cond (.t 23) .skip
 (.exit 0))
 (.seq (.block 1 (.seq (.region false [⟨none,(some 24),.idxS 37 (.t 20) (.t 22)⟩,
  ⟨none,(some 25),.load 37 true (.t 24)⟩,
  ⟨none,(some 9),.alloc [(.int .i64 0),(.int .i64 0),(w8 0#8),(w8 0#8),(w8 0#8),(w8 0#8),(w8 0#8),(w8 0#8),(w8 0#8),(w8 0#8),(w8 0#8),(w8 0#8),(w8 0#8),(w8 0#8),(w8 0#8),(w8 0#8),(w8 0#8),(w8 0#8),(w8 0#8),(w8 0#8),(w8 0#8),(w8 0#8),(w8 0#8),(w8 0#8),(w8 0#8),(w8 0#8),(w8 0#8),(w8 0#8),(w8 0#8),(w8 0#8),(w8 0#8),(w8 0#8),(w8 0#8),(w8 0#8),(.int .i64 0),(.int .i64 0),(.int .i64 0)]⟩,
  ⟨none,none,.store 37 (.t 9) (.t 25)⟩])
 (.seq (.region true [⟨none,(some 26),.fld 1 (.t 9)⟩,
  ⟨none,(some 27),.load 1 false (.t 26)⟩,
  ⟨none,(some 28),.mov (.t 1)⟩,
  ⟨none,(some 29),.bin .eql (.t 27) (.t 28)⟩,
  ⟨none,(some 30),.mov (.t 29)⟩,
  ⟨(some (30,true)),(some 31),.mov (.t 2)⟩,
  ⟨(some (30,true)),(some 32),.fld 0 (.t 3)⟩,
  ⟨(some (30,true)),(some 33),.load 1 false (.t 32)⟩,
  ⟨(some (30,true)),(some 34),.mov (.t 1)⟩,
  ⟨(some (30,true)),(some 35),.idxS 6 (.t 33) (.t 34)⟩,
  ⟨(some (30,true)),(some 36),.load 6 true (.t 35)⟩,
  ⟨(some (30,true)),(some 37),.load 37 true (.t 9)⟩,
  ⟨(some (30,true)),(some 38),.callE (.t 31) [(.t 36),(.t 37)]⟩,
  ⟨none,(some 39),.pick (.t 30) (.t 38) (.k (.bool false))⟩])
 (.cond (.t 39) (.region false [⟨none,(some 40),.mov (.t 7)⟩,
  ⟨none,(some 41),.fld 0 (.t 9)⟩,
  ⟨none,(some 42),.load 1 false (.t 41)⟩,
  ⟨none,(some 43),.bsl 1 1 [(.int .i64 0)] [(0,1,(.t 42))]⟩,
  ⟨none,(some 44),.app 1 8 (.t 40) (.t 43)⟩,
  ⟨none,(some 7),.mov (.t 44)⟩])
 .skip))))
 (.region false [⟨none,(some 45),.bin .add (.t 22) (.k (.int .i64 1))⟩,
  ⟨none,(some 22),.mov (.t 45)⟩]))))
def a72:AFn where
 code:=(.seq (.region false [⟨none,(some 3),.box (.t 0)⟩,
  ⟨none,(some 6),.mov (.k .nils)⟩])
 (.seq (.seq (.region false [⟨none,(some 10),.mov (.t 1)⟩,
  ⟨none,(some 11),.bin .lss (.t 10) (.k (.int .i64 0))⟩,
  ⟨none,(some 12),.mov (.t 11)⟩,
  ⟨(some (12,false)),(some 13),.mov (.t 1)⟩,
  ⟨(some (12,false)),(some 14),.fld 0 (.t 3)⟩,
  ⟨(some (12,false)),(some 15),.load 1 false (.t 14)⟩,
  ⟨(some (12,false)),(some 16),.len (.t 15)⟩,
  ⟨(some (12,false)),(some 17),.bin .geq (.t 13) (.t 16)⟩,
  ⟨none,(some 18),.pick (.t 12) (.k (.bool true)) (.t 17)⟩])
 (.cond (.t 18) (.seq (.region false [⟨none,(some 6),.mov (.k .nils)⟩])
 .ret)
 .skip))
 (.seq (.region false [⟨none,(some 7),.mov (.k .nils)⟩])
 (.seq (.seq (.region false [⟨none,(some 19),.fld 1 (.t 3)⟩,
  ⟨none,(some 20),.load 1 false (.t 19)⟩,
  ⟨none,(some 21),.len (.t 20)⟩,
  ⟨none,(some 22),.mov (.k (.int .i64 0))⟩])
 (.block 0 (.loop zcng)))
 (.seq (.region false [⟨none,(some 46),.mov (.t 7)⟩,
  ⟨none,(some 6),.mov (.t 46)⟩])
 .ret)))))
 ntmps:=47
 res:=[.tmp 6]
theorem z0xs:zsjc P Try.f72=some a72:=by kernel_rfl
def a76:AFn where
 code:=(.seq (.region false [⟨none,(some 2),.box (.t 0)⟩,
  ⟨none,(some 3),.box (.t 1)⟩,
  ⟨none,(some 4),.mov (.k (.bool false))⟩])
 (.seq (.region false [⟨none,(some 5),.fld 34 (.t 3)⟩,
  ⟨none,(some 6),.load 1 false (.t 5)⟩,
  ⟨none,(some 7),.bin .eql (.t 6) (.k (.int .i64 2))⟩,
  ⟨none,(some 4),.mov (.t 7)⟩])
 .ret))
 ntmps:=8
 res:=[.tmp 4]
theorem zqxf:zsjc P Try.f76=some a76:=by kernel_rfl
def a74:AFn where
 code:=(.seq (.region false [⟨none,(some 2),.box (.t 0)⟩,
  ⟨none,(some 3),.box (.t 1)⟩,
  ⟨none,(some 4),.mov (.k (.bool false))⟩])
 (.seq (.region false [⟨none,(some 5),.fld 36 (.t 3)⟩,
  ⟨none,(some 6),.load 1 false (.t 5)⟩,
  ⟨none,(some 7),.bin .lss (.t 6) (.k (.int .i64 0))⟩,
  ⟨none,(some 8),.mov (.t 7)⟩,
  ⟨(some (8,true)),(some 9),.fld 5 (.t 2)⟩,
  ⟨(some (8,true)),(some 10),.load 1 false (.t 9)⟩,
  ⟨(some (8,true)),(some 11),.fld 2 (.t 3)⟩,
  ⟨(some (8,true)),(some 12),.load 32 true (.t 11)⟩,
  ⟨(some (8,true)),(some 13),.call (.k (.fn (.func 40) [] [])) [(.t 10),(.t 12)]⟩,
  ⟨none,(some 14),.pick (.t 8) (.t 13) (.k (.bool false))⟩,
  ⟨none,(some 4),.mov (.t 14)⟩])
 .ret))
 ntmps:=15
 res:=[.tmp 4]
theorem z26r:zsjc P Try.f74=some a74:=by kernel_rfl
def a84:AFn where
 code:=(.seq (.region false [⟨none,(some 2),.box (.t 0)⟩,
  ⟨none,(some 4),.mov (.k (.int .i64 0))⟩])
 (.seq (.region false [⟨none,(some 5),.load 3 true (.t 2)⟩,
  ⟨none,(some 6),.mov (.t 1)⟩,
  ⟨none,(some 7),.call (.k (.fn (.func 72) [] [])) [(.t 5),(.t 6),(.k (.fn (.func 76) [] []))]⟩,
  ⟨none,(some 8),.len (.t 7)⟩,
  ⟨none,(some 4),.mov (.t 8)⟩])
 .ret))
 ntmps:=9
 res:=[.tmp 4]
theorem z3cy:zsjc P Try.f84=some a84:=by kernel_rfl
def a73:AFn where
 code:=(.seq (.region false [⟨none,(some 2),.box (.t 0)⟩,
  ⟨none,(some 3),.box (.t 1)⟩,
  ⟨none,(some 4),.mov (.k (.bool false))⟩])
 (.seq (.region false [⟨none,(some 5),.fld 34 (.t 3)⟩,
  ⟨none,(some 6),.load 1 false (.t 5)⟩,
  ⟨none,(some 7),.bin .neq (.t 6) (.k (.int .i64 3))⟩,
  ⟨none,(some 8),.mov (.t 7)⟩,
  ⟨(some (8,true)),(some 9),.load 6 true (.t 2)⟩,
  ⟨(some (8,true)),(some 10),.load 37 true (.t 3)⟩,
  ⟨(some (8,true)),(some 11),.call (.k (.fn (.func 74) [] [])) [(.t 9),(.t 10)]⟩,
  ⟨none,(some 12),.pick (.t 8) (.t 11) (.k (.bool false))⟩,
  ⟨none,(some 4),.mov (.t 12)⟩])
 .ret))
 ntmps:=13
 res:=[.tmp 4]
theorem zn06:zsjc P Try.f73=some a73:=by kernel_rfl
def a58:AFn where
 code:=(.seq (.region false [⟨none,(some 2),.box (.t 0)⟩,
  ⟨none,(some 4),.mov (.k .nils)⟩])
 (.seq (.region false [⟨none,(some 5),.load 3 true (.t 2)⟩,
  ⟨none,(some 6),.mov (.t 1)⟩,
  ⟨none,(some 7),.call (.k (.fn (.func 72) [] [])) [(.t 5),(.t 6),(.k (.fn (.func 73) [] []))]⟩,
  ⟨none,(some 4),.mov (.t 7)⟩])
 .ret))
 ntmps:=8
 res:=[.tmp 4]
theorem zt5h:zsjc P Try.f58=some a58:=by kernel_rfl
def a60:AFn where
 code:=(.seq (.region false [⟨none,(some 2),.box (.t 0)⟩,
  ⟨none,(some 4),.mov (.k (.int .i64 0))⟩])
 (.seq (.seq (.region false [⟨none,(some 6),.mov (.t 1)⟩,
  ⟨none,(some 7),.bin .lss (.t 6) (.k (.int .i64 0))⟩,
  ⟨none,(some 8),.mov (.t 7)⟩,
  ⟨(some (8,false)),(some 9),.mov (.t 1)⟩,
  ⟨(some (8,false)),(some 10),.fld 0 (.t 2)⟩,
  ⟨(some (8,false)),(some 11),.load 1 false (.t 10)⟩,
  ⟨(some (8,false)),(some 12),.len (.t 11)⟩,
  ⟨(some (8,false)),(some 13),.bin .geq (.t 9) (.t 12)⟩,
  ⟨none,(some 14),.pick (.t 8) (.k (.bool true)) (.t 13)⟩])
 (.cond (.t 14) (.seq (.region false [⟨none,(some 4),.mov (.k (.int .i64 0))⟩])
 .ret)
 .skip))
 (.seq (.region false [⟨none,(some 15),.fld 0 (.t 2)⟩,
  ⟨none,(some 16),.load 1 false (.t 15)⟩,
  ⟨none,(some 17),.mov (.t 1)⟩,
  ⟨none,(some 18),.idxS 6 (.t 16) (.t 17)⟩,
  ⟨none,(some 19),.load 6 true (.t 18)⟩,
  ⟨none,(some 5),.alloc [(.str []),(.str []),(.int .i64 0),(.int .i64 0),(.int .i64 0),.nils]⟩,
  ⟨none,none,.store 6 (.t 5) (.t 19)⟩])
 (.seq (.region true [⟨none,(some 20),.load 3 true (.t 2)⟩,
  ⟨none,(some 21),.mov (.t 1)⟩,
  ⟨none,(some 23),.fld 3 (.t 5)⟩,
  ⟨none,(some 24),.load 1 false (.t 23)⟩,
  ⟨none,(some 25),.fld 2 (.t 5)⟩,
  ⟨none,(some 26),.load 1 false (.t 25)⟩,
  ⟨none,(some 27),.fld 4 (.t 5)⟩,
  ⟨none,(some 28),.load 1 false (.t 27)⟩,
  ⟨none,(some 29),.bin .sub (.t 26) (.t 28)⟩,
  ⟨none,(some 30),.mm true [(.t 24),(.t 29)]⟩,
  ⟨none,(some 22),.callN (.k (.fn (.func 84) [] [])) [(.t 20),(.t 21)]⟩,
  ⟨none,(some 31),.bin .sub (.t 22) (.t 30)⟩,
  ⟨none,(some 32),.mm true [(.t 31),(.k (.int .i64 0))]⟩,
  ⟨none,(some 4),.mov (.t 32)⟩])
 .ret))))
 ntmps:=33
 res:=[.tmp 4]
theorem z6e9:zsjc P Try.f60=some a60:=by kernel_rfl
def a80:AFn where
 code:=(.seq (.region false [⟨none,(some 2),.box (.t 0)⟩,
  ⟨none,(some 3),.box (.t 1)⟩,
  ⟨none,(some 4),.mov (.k (.int .i64 0))⟩])
 (.seq (.region false [⟨none,(some 6),.fld 1 (.t 2)⟩,
  ⟨none,(some 7),.load 1 false (.t 6)⟩,
  ⟨none,(some 8),.mkf (.func 95) [] [(.t 3)]⟩,
  ⟨none,(some 9),.call (.k (.fn (.func 67) [] [])) [(.t 7),(.t 8)]⟩,
  ⟨none,(some 5),.mov (.t 9)⟩])
 (.seq (.region false [⟨none,(some 10),.fld 1 (.t 2)⟩,
  ⟨none,(some 11),.load 1 false (.t 10)⟩,
  ⟨none,(some 12),.mov (.t 5)⟩,
  ⟨none,(some 13),.idxS 37 (.t 11) (.t 12)⟩,
  ⟨none,(some 14),.fld 36 (.t 13)⟩,
  ⟨none,(some 15),.load 1 false (.t 14)⟩,
  ⟨none,(some 4),.mov (.t 15)⟩])
 .ret)))
 ntmps:=16
 res:=[.tmp 4]
theorem zpfu:zsjc P Try.f80=some a80:=by kernel_rfl
def a95:AFn where
 code:=(.seq (.region false [⟨none,(some 2),.box (.t 0)⟩,
  ⟨none,(some 3),.mov (.k (.bool false))⟩])
 (.seq (.region false [⟨none,(some 4),.fld 0 (.t 2)⟩,
  ⟨none,(some 5),.load 1 false (.t 4)⟩,
  ⟨none,(some 6),.load 1 false (.t 1)⟩,
  ⟨none,(some 7),.bin .eql (.t 5) (.t 6)⟩,
  ⟨none,(some 3),.mov (.t 7)⟩])
 .ret))
 ntmps:=8
 res:=[.tmp 3]
theorem z4uo:zsjc P Try.f95=some a95:=by kernel_rfl
def a75:AFn where
 code:=(.seq (.region false [⟨none,(some 2),.box (.t 0)⟩,
  ⟨none,(some 3),.box (.t 1)⟩,
  ⟨none,(some 4),.mov (.k (.bool false))⟩])
 (.seq (.region false [⟨none,(some 5),.load 6 true (.t 2)⟩,
  ⟨none,(some 6),.load 37 true (.t 3)⟩,
  ⟨none,(some 7),.call (.k (.fn (.func 76) [] [])) [(.t 5),(.t 6)]⟩,
  ⟨none,(some 8),.mov (.t 7)⟩,
  ⟨(some (8,true)),(some 9),.fld 36 (.t 3)⟩,
  ⟨(some (8,true)),(some 10),.load 1 false (.t 9)⟩,
  ⟨(some (8,true)),(some 11),.bin .geq (.t 10) (.k (.int .i64 0))⟩,
  ⟨none,(some 12),.pick (.t 8) (.t 11) (.k (.bool false))⟩,
  ⟨none,(some 4),.mov (.t 12)⟩])
 .ret))
 ntmps:=13
 res:=[.tmp 4]
theorem zrvd:zsjc P Try.f75=some a75:=by kernel_rfl
def a78:AFn where
 code:=(.seq (.region false [⟨none,(some 5),.mov (.k (.int .i64 0))⟩])
 (.seq (.region true [⟨none,(some 6),.load 3 true (.t 2)⟩,
  ⟨none,(some 7),.mov (.t 0)⟩,
  ⟨none,(some 9),.load 3 true (.t 2)⟩,
  ⟨none,(some 10),.mov (.t 1)⟩,
  ⟨none,(some 13),.mov (.t 0)⟩,
  ⟨none,(some 14),.mov (.t 1)⟩,
  ⟨none,(some 8),.callN (.k (.fn (.func 80) [] [])) [(.t 6),(.t 7)]⟩,
  ⟨none,(some 11),.callN (.k (.fn (.func 80) [] [])) [(.t 9),(.t 10)]⟩,
  ⟨none,(some 12),.callN (.k (.fn (.func 79) [] [])) [(.t 8),(.t 11)]⟩,
  ⟨none,(some 15),.callN (.k (.fn (.func 29) [] [])) [(.t 13),(.t 14)]⟩,
  ⟨none,(some 16),.bsl 1 2 [(.int .i64 0)] [(0,1,(.t 12)),(1,1,(.t 15))]⟩,
  ⟨none,(some 17),.callN (.k (.fn (.func 28) [] [])) [(.t 16)]⟩,
  ⟨none,(some 5),.mov (.t 17)⟩])
 .ret))
 ntmps:=18
 res:=[.tmp 5]
theorem zetr:zsjc P Try.f78=some a78:=by kernel_rfl
def a81:AFn where
 code:=(.seq (.region false [⟨none,(some 2),.box (.t 0)⟩,
  ⟨none,(some 3),.box (.t 1)⟩,
  ⟨none,(some 4),.mov (.k (.bool false))⟩])
 (.seq (.region false [⟨none,(some 5),.load 6 true (.t 2)⟩,
  ⟨none,(some 6),.load 37 true (.t 3)⟩,
  ⟨none,(some 7),.call (.k (.fn (.func 76) [] [])) [(.t 5),(.t 6)]⟩,
  ⟨none,(some 8),.mov (.t 7)⟩,
  ⟨(some (8,true)),(some 9),.fld 36 (.t 3)⟩,
  ⟨(some (8,true)),(some 10),.load 1 false (.t 9)⟩,
  ⟨(some (8,true)),(some 11),.bin .lss (.t 10) (.k (.int .i64 0))⟩,
  ⟨none,(some 12),.pick (.t 8) (.t 11) (.k (.bool false))⟩,
  ⟨none,(some 13),.mov (.t 12)⟩,
  ⟨(some (13,true)),(some 14),.load 6 true (.t 2)⟩,
  ⟨(some (13,true)),(some 15),.load 37 true (.t 3)⟩,
  ⟨(some (13,true)),(some 16),.call (.k (.fn (.func 74) [] [])) [(.t 14),(.t 15)]⟩,
  ⟨(some (13,true)),(some 17),.un .not (.t 16)⟩,
  ⟨none,(some 18),.pick (.t 13) (.t 17) (.k (.bool false))⟩,
  ⟨none,(some 4),.mov (.t 18)⟩])
 .ret))
 ntmps:=19
 res:=[.tmp 4]
theorem zgev:zsjc P Try.f81=some a81:=by kernel_rfl
def a82:AFn where
 code:=(.seq (.region false [⟨none,(some 2),.box (.t 0)⟩,
  ⟨none,(some 3),.box (.t 1)⟩,
  ⟨none,(some 4),.mov (.k (.bool false))⟩])
 (.seq (.region false [⟨none,(some 5),.load 6 true (.t 2)⟩,
  ⟨none,(some 6),.load 37 true (.t 3)⟩,
  ⟨none,(some 7),.call (.k (.fn (.func 76) [] [])) [(.t 5),(.t 6)]⟩,
  ⟨none,(some 8),.mov (.t 7)⟩,
  ⟨(some (8,true)),(some 9),.load 6 true (.t 2)⟩,
  ⟨(some (8,true)),(some 10),.load 37 true (.t 3)⟩,
  ⟨(some (8,true)),(some 11),.call (.k (.fn (.func 74) [] [])) [(.t 9),(.t 10)]⟩,
  ⟨none,(some 12),.pick (.t 8) (.t 11) (.k (.bool false))⟩,
  ⟨none,(some 4),.mov (.t 12)⟩])
 .ret))
 ntmps:=13
 res:=[.tmp 4]
theorem zftu:zsjc P Try.f82=some a82:=by kernel_rfl
def a59:AFn where
 code:=(.seq (.region false [⟨none,(some 2),.box (.t 0)⟩,
  ⟨none,(some 4),.mov (.k .nils)⟩])
 (.seq (.seq (.region false [⟨none,(some 9),.mov (.t 1)⟩,
  ⟨none,(some 10),.bin .lss (.t 9) (.k (.int .i64 0))⟩,
  ⟨none,(some 11),.mov (.t 10)⟩,
  ⟨(some (11,false)),(some 12),.mov (.t 1)⟩,
  ⟨(some (11,false)),(some 13),.fld 0 (.t 2)⟩,
  ⟨(some (11,false)),(some 14),.load 1 false (.t 13)⟩,
  ⟨(some (11,false)),(some 15),.len (.t 14)⟩,
  ⟨(some (11,false)),(some 16),.bin .geq (.t 12) (.t 15)⟩,
  ⟨none,(some 17),.pick (.t 11) (.k (.bool true)) (.t 16)⟩])
 (.cond (.t 17) (.seq (.region false [⟨none,(some 4),.mov (.k .nils)⟩])
 .ret)
 .skip))
 (.seq (.region false [⟨none,(some 18),.load 3 true (.t 2)⟩,
  ⟨none,(some 19),.mov (.t 1)⟩,
  ⟨none,(some 20),.call (.k (.fn (.func 72) [] [])) [(.t 18),(.t 19),(.k (.fn (.func 75) [] []))]⟩,
  ⟨none,(some 5),.mov (.t 20)⟩])
 (.seq (.region false [⟨none,(some 21),.mov (.t 5)⟩,
  ⟨none,(some 22),.mkf (.func 78) [] [(.t 2)]⟩,
  ⟨none,(some 23),.call (.k (.fn (.func 77) [] [])) [(.t 21),(.t 22)]⟩])
 (.seq (.region false [⟨none,(some 24),.load 3 true (.t 2)⟩,
  ⟨none,(some 25),.mov (.t 1)⟩,
  ⟨none,(some 26),.call (.k (.fn (.func 72) [] [])) [(.t 24),(.t 25),(.k (.fn (.func 81) [] []))]⟩,
  ⟨none,(some 6),.mov (.t 26)⟩])
 (.seq (.region false [⟨none,(some 27),.load 3 true (.t 2)⟩,
  ⟨none,(some 28),.mov (.t 1)⟩,
  ⟨none,(some 29),.call (.k (.fn (.func 72) [] [])) [(.t 27),(.t 28),(.k (.fn (.func 82) [] []))]⟩,
  ⟨none,(some 7),.mov (.t 29)⟩])
 (.seq (.region false [⟨none,(some 30),.mov (.t 7)⟩,
  ⟨none,(some 31),.call (.k (.fn (.func 57) [] [])) [(.t 30)]⟩])
 (.seq (.region true [⟨none,(some 32),.load 3 true (.t 2)⟩,
  ⟨none,(some 33),.mov (.t 1)⟩,
  ⟨none,(some 36),.fld 0 (.t 2)⟩,
  ⟨none,(some 37),.load 1 false (.t 36)⟩,
  ⟨none,(some 38),.mov (.t 1)⟩,
  ⟨none,(some 39),.idxS 6 (.t 37) (.t 38)⟩,
  ⟨none,(some 40),.fld 2 (.t 39)⟩,
  ⟨none,(some 41),.load 1 false (.t 40)⟩,
  ⟨none,(some 34),.callN (.k (.fn (.func 58) [] [])) [(.t 32),(.t 33)]⟩,
  ⟨none,(some 35),.len (.t 34)⟩,
  ⟨none,(some 42),.bin .sub (.t 35) (.t 41)⟩,
  ⟨none,(some 43),.mm true [(.t 42),(.k (.int .i64 0))]⟩,
  ⟨none,(some 8),.mov (.t 43)⟩])
 (.seq (.region false [⟨none,(some 44),.mov (.t 5)⟩,
  ⟨none,(some 45),.mov (.t 6)⟩,
  ⟨none,(some 46),.mov (.t 7)⟩,
  ⟨none,(some 47),.mov (.t 8)⟩,
  ⟨none,(some 48),.mov (.t 7)⟩,
  ⟨none,(some 49),.len (.t 48)⟩,
  ⟨none,(some 50),.mm false [(.t 47),(.t 49)]⟩,
  ⟨none,(some 51),.slcS 1 (.t 46) none (some (.t 50)) none⟩,
  ⟨none,(some 52),.bsl 1 3 [.nils] [(0,1,(.t 44)),(1,1,(.t 45)),(2,1,(.t 51))]⟩,
  ⟨none,(some 53),.call (.k (.fn (.func 83) [] [])) [(.t 52)]⟩,
  ⟨none,(some 4),.mov (.t 53)⟩])
 .ret)))))))))
 ntmps:=54
 res:=[.tmp 4]
theorem zwsz:zsjc P Try.f59=some a59:=by kernel_rfl
def a55:AFn where
 code:=(.seq (.region false [⟨none,(some 6),.mov (.k (.bool false))⟩])
 (.seq (.seq (.region false [⟨none,(some 7),.mov (.t 2)⟩,
  ⟨none,(some 8),.mov (.t 0)⟩,
  ⟨none,(some 9),.bin .geq (.t 7) (.t 8)⟩])
 (.cond (.t 9) (.seq (.region false [⟨none,(some 10),.mov (.t 2)⟩,
  ⟨none,(some 11),.mov (.t 0)⟩,
  ⟨none,(some 12),.bin .sub (.t 10) (.t 11)⟩,
  ⟨none,(some 13),.mov (.t 1)⟩,
  ⟨none,(some 14),.bin .geq (.t 12) (.t 13)⟩,
  ⟨none,(some 6),.mov (.t 14)⟩])
 .ret)
 .skip))
 (.seq (.region false [⟨none,(some 15),.mov (.t 1)⟩,
  ⟨none,(some 16),.bin .lss (.t 15) (.k (.int .i64 0))⟩,
  ⟨none,(some 17),.mov (.t 16)⟩,
  ⟨(some (17,true)),(some 18),.mov (.t 1)⟩,
  ⟨(some (17,true)),(some 19),.mov (.t 0)⟩,
  ⟨(some (17,true)),(some 20),.bin .add (.t 18) (.t 19)⟩,
  ⟨(some (17,true)),(some 21),.mov (.t 2)⟩,
  ⟨(some (17,true)),(some 22),.bin .leq (.t 20) (.t 21)⟩,
  ⟨none,(some 23),.pick (.t 17) (.t 22) (.k (.bool false))⟩,
  ⟨none,(some 6),.mov (.t 23)⟩])
 .ret)))
 ntmps:=24
 res:=[.tmp 6]
theorem ze8s:zsjc P Try.f55=some a55:=by kernel_rfl
def ztv8:ACode :=
 (.seq (.region false [⟨none,(some 15),.bin .lss (.t 14) (.t 13)⟩])
 (.seq (.cond (.t 15) .skip
 (.exit 0))
 (.seq (.block 1 (.seq (.region false [⟨none,(some 16),.mov (.t 14)⟩,
  ⟨none,(some 17),.idxS 37 (.t 12) (.t 14)⟩,
  ⟨none,(some 18),.load 37 true (.t 17)⟩,
  ⟨none,(some 9),.alloc [(.int .i64 0),(.int .i64 0),(w8 0#8),(w8 0#8),(w8 0#8),(w8 0#8),(w8 0#8),(w8 0#8),(w8 0#8),(w8 0#8),(w8 0#8),(w8 0#8),(w8 0#8),(w8 0#8),(w8 0#8),(w8 0#8),(w8 0#8),(w8 0#8),(w8 0#8),(w8 0#8),(w8 0#8),(w8 0#8),(w8 0#8),(w8 0#8),(w8 0#8),(w8 0#8),(w8 0#8),(w8 0#8),(w8 0#8),(w8 0#8),(w8 0#8),(w8 0#8),(w8 0#8),(w8 0#8),(.int .i64 0),(.int .i64 0),(.int .i64 0)]⟩,
  ⟨none,(some 8),.mov (.t 16)⟩,
  ⟨none,none,.store 37 (.t 9) (.t 18)⟩])
 (.seq (.region false [⟨none,(some 10),.mov (.k (.int .i64 0))⟩])
 (.seq (.seq (.region false [⟨none,(some 19),.mov (.t 8)⟩,
  ⟨none,(some 20),.mov (.t 1)⟩,
  ⟨none,(some 21),.len (.t 20)⟩,
  ⟨none,(some 22),.bin .lss (.t 19) (.t 21)⟩])
 (.cond (.t 22) (.region false [⟨none,(some 23),.mov (.t 1)⟩,
  ⟨none,(some 24),.mov (.t 8)⟩,
  ⟨none,(some 25),.idxS 1 (.t 23) (.t 24)⟩,
  ⟨none,(some 26),.load 1 false (.t 25)⟩,
  ⟨none,(some 10),.mov (.t 26)⟩])
 .skip))
 (.seq (.region false [⟨none,(some 27),.fld 34 (.t 9)⟩,
  ⟨none,(some 28),.load 1 false (.t 27)⟩,
  ⟨none,(some 29),.bin .neq (.t 28) (.k (.int .i64 3))⟩,
  ⟨none,(some 30),.mov (.t 29)⟩,
  ⟨(some (30,true)),(some 31),.fld 36 (.t 9)⟩,
  ⟨(some (30,true)),(some 32),.load 1 false (.t 31)⟩,
  ⟨(some (30,true)),(some 33),.bin .geq (.t 32) (.k (.int .i64 0))⟩,
  ⟨none,(some 34),.pick (.t 30) (.t 33) (.k (.bool false))⟩,
  ⟨none,(some 35),.mov (.t 34)⟩,
  ⟨(some (35,true)),(some 36),.fld 36 (.t 9)⟩,
  ⟨(some (35,true)),(some 37),.load 1 false (.t 36)⟩,
  ⟨(some (35,true)),(some 38),.mov (.t 10)⟩,
  ⟨(some (35,true)),(some 39),.mov (.t 2)⟩,
  ⟨(some (35,true)),(some 40),.call (.k (.fn (.func 55) [] [])) [(.t 37),(.t 38),(.t 39)]⟩,
  ⟨none,(some 41),.pick (.t 35) (.t 40) (.k (.bool false))⟩])
 (.cond (.t 41) (.region false [⟨none,(some 42),.mov (.t 7)⟩,
  ⟨none,(some 43),.fld 0 (.t 9)⟩,
  ⟨none,(some 44),.load 1 false (.t 43)⟩,
  ⟨none,(some 45),.bsl 1 1 [(.int .i64 0)] [(0,1,(.t 44))]⟩,
  ⟨none,(some 46),.app 1 8 (.t 42) (.t 45)⟩,
  ⟨none,(some 7),.mov (.t 46)⟩])
 .skip))))))
 (.region false [⟨none,(some 47),.bin .add (.t 14) (.k (.int .i64 1))⟩,
  ⟨none,(some 14),.mov (.t 47)⟩]))))
def a35:AFn where
 code:=(.seq (.region false [⟨none,(some 3),.box (.t 0)⟩,
  ⟨none,(some 6),.mov (.k .nils)⟩])
 (.seq (.region false [⟨none,(some 7),.mov (.k .nils)⟩])
 (.seq (.seq (.region false [⟨none,(some 11),.fld 1 (.t 3)⟩,
  ⟨none,(some 12),.load 1 false (.t 11)⟩,
  ⟨none,(some 13),.len (.t 12)⟩,
  ⟨none,(some 14),.mov (.k (.int .i64 0))⟩])
 (.block 0 (.loop ztv8)))
 (.seq (.region false [⟨none,(some 48),.mov (.t 7)⟩,
  ⟨none,(some 6),.mov (.t 48)⟩])
 .ret))))
 ntmps:=49
 res:=[.tmp 6]
theorem zxwh:zsjc P Try.f35=some a35:=by kernel_rfl
def a77:AFn where
 code:=(.region false [⟨none,(some 4),.mov (.t 0)⟩,
  ⟨none,(some 5),.mov (.t 0)⟩,
  ⟨none,(some 6),.len (.t 5)⟩,
  ⟨none,(some 7),.mov (.t 1)⟩,
  ⟨none,(some 8),.call (.k (.fn (.func 93) [] [])) [(.t 4),(.t 6),(.t 7)]⟩])
 ntmps:=9
 res:=[]
theorem z20a:zsjc P Try.f77=some a77:=by kernel_rfl
def z52a:ACode :=
 (.seq (.seq (.region false [⟨none,(some 11),.mov (.t 8)⟩,
  ⟨none,(some 12),.mov (.t 1)⟩,
  ⟨none,(some 13),.bin .leq (.t 11) (.t 12)⟩])
 (.cond (.t 13) .skip
 (.exit 0)))
 (.block 1 (.seq (.region false [⟨none,(some 14),.mov (.t 0)⟩,
  ⟨none,(some 15),.mov (.t 7)⟩,
  ⟨none,(some 16),.mov (.t 8)⟩,
  ⟨none,(some 17),.mov (.t 2)⟩,
  ⟨none,(some 18),.call (.k (.fn (.func 104) [] [])) [(.t 14),(.t 15),(.t 16),(.t 17)]⟩])
 (.seq (.region false [⟨none,(some 19),.mov (.t 8)⟩,
  ⟨none,(some 7),.mov (.t 19)⟩])
 (.region false [⟨none,(some 20),.mov (.t 8)⟩,
  ⟨none,(some 21),.mov (.t 6)⟩,
  ⟨none,(some 22),.bin .add (.t 20) (.t 21)⟩,
  ⟨none,(some 8),.mov (.t 22)⟩])))))
def zd10:ACode :=
 (.seq (.seq (.region false [⟨none,(some 33),.mov (.t 8)⟩,
  ⟨none,(some 34),.mov (.t 1)⟩,
  ⟨none,(some 35),.bin .leq (.t 33) (.t 34)⟩])
 (.cond (.t 35) .skip
 (.exit 4)))
 (.block 5 (.seq (.region false [⟨none,(some 36),.mov (.t 0)⟩,
  ⟨none,(some 37),.mov (.t 7)⟩,
  ⟨none,(some 38),.mov (.t 7)⟩,
  ⟨none,(some 39),.mov (.t 6)⟩,
  ⟨none,(some 40),.bin .add (.t 38) (.t 39)⟩,
  ⟨none,(some 41),.mov (.t 8)⟩,
  ⟨none,(some 42),.mov (.t 2)⟩,
  ⟨none,(some 43),.call (.k (.fn (.func 105) [] [])) [(.t 36),(.t 37),(.t 40),(.t 41),(.t 42)]⟩])
 (.seq (.region false [⟨none,(some 44),.mov (.t 8)⟩,
  ⟨none,(some 7),.mov (.t 44)⟩])
 (.region false [⟨none,(some 45),.mov (.t 8)⟩,
  ⟨none,(some 46),.mov (.t 6)⟩,
  ⟨none,(some 47),.bin .mul (.k (.int .i64 2)) (.t 46)⟩,
  ⟨none,(some 48),.bin .add (.t 45) (.t 47)⟩,
  ⟨none,(some 8),.mov (.t 48)⟩])))))
def zj55:ACode :=
 (.seq (.seq (.region false [⟨none,(some 28),.mov (.t 6)⟩,
  ⟨none,(some 29),.mov (.t 1)⟩,
  ⟨none,(some 30),.bin .lss (.t 28) (.t 29)⟩])
 (.cond (.t 30) .skip
 (.exit 2)))
 (.block 3 (.seq (.region false [⟨none,(some 31),.mov (.t 6)⟩,
  ⟨none,(some 32),.bin .mul (.k (.int .i64 2)) (.t 31)⟩,
  ⟨none,(some 7),.mov (.k (.int .i64 0))⟩,
  ⟨none,(some 8),.mov (.t 32)⟩])
 (.seq (.block 4 (.loop zd10))
 (.seq (.seq (.region false [⟨none,(some 49),.mov (.t 7)⟩,
  ⟨none,(some 50),.mov (.t 6)⟩,
  ⟨none,(some 51),.bin .add (.t 49) (.t 50)⟩,
  ⟨none,(some 9),.mov (.t 51)⟩])
 (.seq (.region false [⟨none,(some 52),.mov (.t 9)⟩,
  ⟨none,(some 53),.mov (.t 1)⟩,
  ⟨none,(some 54),.bin .lss (.t 52) (.t 53)⟩])
 (.cond (.t 54) (.region false [⟨none,(some 55),.mov (.t 0)⟩,
  ⟨none,(some 56),.mov (.t 7)⟩,
  ⟨none,(some 57),.mov (.t 9)⟩,
  ⟨none,(some 58),.mov (.t 1)⟩,
  ⟨none,(some 59),.mov (.t 2)⟩,
  ⟨none,(some 60),.call (.k (.fn (.func 105) [] [])) [(.t 55),(.t 56),(.t 57),(.t 58),(.t 59)]⟩])
 .skip)))
 (.region false [⟨none,(some 61),.mov (.t 6)⟩,
  ⟨none,(some 62),.bin .mul (.t 61) (.k (.int .i64 2))⟩,
  ⟨none,(some 6),.mov (.t 62)⟩]))))))
def a93:AFn where
 code:=(.seq (.region false [⟨none,(some 6),.mov (.k (.int .i64 20))⟩])
 (.seq (.region false [⟨none,(some 10),.mov (.t 6)⟩,
  ⟨none,(some 7),.mov (.k (.int .i64 0))⟩,
  ⟨none,(some 8),.mov (.t 10)⟩])
 (.seq (.block 0 (.loop z52a))
 (.seq (.region false [⟨none,(some 23),.mov (.t 0)⟩,
  ⟨none,(some 24),.mov (.t 7)⟩,
  ⟨none,(some 25),.mov (.t 1)⟩,
  ⟨none,(some 26),.mov (.t 2)⟩,
  ⟨none,(some 27),.call (.k (.fn (.func 104) [] [])) [(.t 23),(.t 24),(.t 25),(.t 26)]⟩])
 (.block 2 (.loop zj55))))))
 ntmps:=63
 res:=[]
theorem zv7d:zsjc P Try.f93=some a93:=by kernel_rfl
def zf8u:ACode :=
 (.seq (.seq (.region true [⟨none,(some 18),.mov (.t 9)⟩,
  ⟨none,(some 19),.mov (.t 1)⟩,
  ⟨none,(some 20),.bin .gtr (.t 18) (.t 19)⟩,
  ⟨none,(some 21),.mov (.t 20)⟩,
  ⟨(some (21,true)),(some 22),.mov (.t 3)⟩,
  ⟨(some (21,true)),(some 23),.mov (.t 0)⟩,
  ⟨(some (21,true)),(some 24),.mov (.t 9)⟩,
  ⟨(some (21,true)),(some 25),.idxS 1 (.t 23) (.t 24)⟩,
  ⟨(some (21,true)),(some 26),.load 1 false (.t 25)⟩,
  ⟨(some (21,true)),(some 27),.mov (.t 0)⟩,
  ⟨(some (21,true)),(some 28),.mov (.t 9)⟩,
  ⟨(some (21,true)),(some 29),.bin .sub (.t 28) (.k (.int .i64 1))⟩,
  ⟨(some (21,true)),(some 30),.idxS 1 (.t 27) (.t 29)⟩,
  ⟨(some (21,true)),(some 31),.load 1 false (.t 30)⟩,
  ⟨(some (21,true)),(some 32),.callE (.t 22) [(.t 26),(.t 31)]⟩,
  ⟨(some (21,true)),(some 33),.bin .lss (.t 32) (.k (.int .i64 0))⟩,
  ⟨none,(some 34),.pick (.t 21) (.t 33) (.k (.bool false))⟩])
 (.cond (.t 34) .skip
 (.exit 2)))
 (.seq (.block 3 (.region true [⟨none,(some 37),.mov (.t 0)⟩,
  ⟨none,(some 38),.mov (.t 9)⟩,
  ⟨none,(some 39),.mov (.t 0)⟩,
  ⟨none,(some 40),.mov (.t 9)⟩,
  ⟨none,(some 41),.bin .sub (.t 40) (.k (.int .i64 1))⟩,
  ⟨none,(some 42),.mov (.t 0)⟩,
  ⟨none,(some 43),.mov (.t 9)⟩,
  ⟨none,(some 44),.bin .sub (.t 43) (.k (.int .i64 1))⟩,
  ⟨none,(some 45),.idxS 1 (.t 42) (.t 44)⟩,
  ⟨none,(some 46),.load 1 false (.t 45)⟩,
  ⟨none,(some 47),.mov (.t 0)⟩,
  ⟨none,(some 48),.mov (.t 9)⟩,
  ⟨none,(some 49),.idxS 1 (.t 47) (.t 48)⟩,
  ⟨none,(some 50),.load 1 false (.t 49)⟩,
  ⟨none,(some 51),.idxS 1 (.t 37) (.t 38)⟩,
  ⟨none,none,.store 1 (.t 51) (.t 46)⟩,
  ⟨none,(some 52),.idxS 1 (.t 39) (.t 41)⟩,
  ⟨none,none,.store 1 (.t 52) (.t 50)⟩]))
 (.region false [⟨none,(some 35),.mov (.t 9)⟩,
  ⟨none,(some 36),.bin .sub (.t 35) (.k (.int .i64 1))⟩,
  ⟨none,(some 9),.mov (.t 36)⟩])))
def z7sf:ACode :=
 (.seq (.seq (.region false [⟨none,(some 12),.mov (.t 8)⟩,
  ⟨none,(some 13),.mov (.t 2)⟩,
  ⟨none,(some 14),.bin .lss (.t 12) (.t 13)⟩])
 (.cond (.t 14) .skip
 (.exit 0)))
 (.seq (.block 1 (.seq (.region false [⟨none,(some 17),.mov (.t 8)⟩,
  ⟨none,(some 9),.mov (.t 17)⟩])
 (.block 2 (.loop zf8u))))
 (.region false [⟨none,(some 15),.mov (.t 8)⟩,
  ⟨none,(some 16),.bin .add (.t 15) (.k (.int .i64 1))⟩,
  ⟨none,(some 8),.mov (.t 16)⟩])))
def a104:AFn where
 code:=(.seq (.region false [⟨none,(some 10),.mov (.t 1)⟩,
  ⟨none,(some 11),.bin .add (.t 10) (.k (.int .i64 1))⟩,
  ⟨none,(some 8),.mov (.t 11)⟩])
 (.block 0 (.loop z7sf)))
 ntmps:=53
 res:=[]
theorem z0mt:zsjc P Try.f104=some a104:=by kernel_rfl
def za9c:ACode :=
 (.seq (.seq (.region false [⟨none,(some 7),.mov (.t 2)⟩,
  ⟨none,(some 8),.mov (.t 3)⟩,
  ⟨none,(some 9),.bin .lss (.t 7) (.t 8)⟩])
 (.cond (.t 9) .skip
 (.exit 0)))
 (.seq (.block 1 (.region true [⟨none,(some 14),.mov (.t 0)⟩,
  ⟨none,(some 15),.mov (.t 2)⟩,
  ⟨none,(some 16),.mov (.t 0)⟩,
  ⟨none,(some 17),.mov (.t 3)⟩,
  ⟨none,(some 18),.mov (.t 0)⟩,
  ⟨none,(some 19),.mov (.t 3)⟩,
  ⟨none,(some 20),.idxS 1 (.t 18) (.t 19)⟩,
  ⟨none,(some 21),.load 1 false (.t 20)⟩,
  ⟨none,(some 22),.mov (.t 0)⟩,
  ⟨none,(some 23),.mov (.t 2)⟩,
  ⟨none,(some 24),.idxS 1 (.t 22) (.t 23)⟩,
  ⟨none,(some 25),.load 1 false (.t 24)⟩,
  ⟨none,(some 26),.idxS 1 (.t 14) (.t 15)⟩,
  ⟨none,none,.store 1 (.t 26) (.t 21)⟩,
  ⟨none,(some 27),.idxS 1 (.t 16) (.t 17)⟩,
  ⟨none,none,.store 1 (.t 27) (.t 25)⟩]))
 (.region false [⟨none,(some 10),.mov (.t 2)⟩,
  ⟨none,(some 11),.bin .add (.t 10) (.k (.int .i64 1))⟩,
  ⟨none,(some 12),.mov (.t 3)⟩,
  ⟨none,(some 13),.bin .sub (.t 12) (.k (.int .i64 1))⟩,
  ⟨none,(some 2),.mov (.t 11)⟩,
  ⟨none,(some 3),.mov (.t 13)⟩])))
def a57:AFn where
 code:=(.seq (.region false [⟨none,(some 4),.mov (.t 0)⟩,
  ⟨none,(some 5),.len (.t 4)⟩,
  ⟨none,(some 6),.bin .sub (.t 5) (.k (.int .i64 1))⟩,
  ⟨none,(some 2),.mov (.k (.int .i64 0))⟩,
  ⟨none,(some 3),.mov (.t 6)⟩])
 (.block 0 (.loop za9c)))
 ntmps:=28
 res:=[]
theorem zfce:zsjc P Try.f57=some a57:=by kernel_rfl
def zubw:ACode :=
 (.seq (.region false [⟨none,(some 12),.bin .lss (.t 11) (.t 10)⟩])
 (.seq (.cond (.t 12) .skip
 (.exit 0))
 (.seq (.block 1 (.seq (.region false [⟨none,(some 13),.idxS 1 (.t 9) (.t 11)⟩,
  ⟨none,(some 14),.load 1 false (.t 13)⟩,
  ⟨none,(some 5),.mov (.t 14)⟩])
 (.seq (.region false [⟨none,(some 15),.mov (.t 3)⟩,
  ⟨none,(some 16),.mov (.t 5)⟩,
  ⟨none,(some 17),.len (.t 16)⟩,
  ⟨none,(some 18),.bin .add (.t 15) (.t 17)⟩,
  ⟨none,(some 3),.mov (.t 18)⟩])
 (.seq (.region false [⟨none,(some 19),.mov (.t 3)⟩,
  ⟨none,(some 20),.bin .lss (.t 19) (.k (.int .i64 0))⟩])
 (.cond (.t 20) (.region false [⟨none,(some 21),.ext (.k .junk) 0⟩,
  ⟨none,none,.ext (.k .junk) 0⟩])
 .skip)))))
 (.region false [⟨none,(some 22),.bin .add (.t 11) (.k (.int .i64 1))⟩,
  ⟨none,(some 11),.mov (.t 22)⟩]))))
def za50:ACode :=
 (.seq (.region false [⟨none,(some 28),.bin .lss (.t 27) (.t 26)⟩])
 (.seq (.cond (.t 28) .skip
 (.exit 2))
 (.seq (.block 3 (.seq (.region false [⟨none,(some 29),.idxS 1 (.t 25) (.t 27)⟩,
  ⟨none,(some 30),.load 1 false (.t 29)⟩,
  ⟨none,(some 8),.mov (.t 30)⟩])
 (.region false [⟨none,(some 31),.mov (.t 6)⟩,
  ⟨none,(some 32),.mov (.t 8)⟩,
  ⟨none,(some 33),.app 1 8 (.t 31) (.t 32)⟩,
  ⟨none,(some 6),.mov (.t 33)⟩])))
 (.region false [⟨none,(some 34),.bin .add (.t 27) (.k (.int .i64 1))⟩,
  ⟨none,(some 27),.mov (.t 34)⟩]))))
def a83:AFn where
 code:=(.seq (.region false [⟨none,(some 2),.mov (.k .nils)⟩])
 (.seq (.region false [⟨none,(some 3),.mov (.k (.int .i64 0))⟩])
 (.seq (.seq (.region false [⟨none,(some 9),.mov (.t 0)⟩,
  ⟨none,(some 10),.len (.t 9)⟩,
  ⟨none,(some 11),.mov (.k (.int .i64 0))⟩])
 (.block 0 (.loop zubw)))
 (.seq (.region false [⟨none,(some 23),.mov (.t 3)⟩,
  ⟨none,(some 24),.call (.k (.fn (.func 96) [] [])) [(.k .nils),(.t 23)]⟩,
  ⟨none,(some 6),.mov (.t 24)⟩])
 (.seq (.seq (.region false [⟨none,(some 25),.mov (.t 0)⟩,
  ⟨none,(some 26),.len (.t 25)⟩,
  ⟨none,(some 27),.mov (.k (.int .i64 0))⟩])
 (.block 2 (.loop za50)))
 (.seq (.region false [⟨none,(some 35),.mov (.t 6)⟩,
  ⟨none,(some 2),.mov (.t 35)⟩])
 .ret))))))
 ntmps:=36
 res:=[.tmp 2]
theorem z6eh:zsjc P Try.f83=some a83:=by kernel_rfl
def zkwz:ACode :=
 (.seq (.region false [⟨none,(some 9),.bin .lss (.t 8) (.t 7)⟩])
 (.seq (.cond (.t 9) .skip
 (.exit 0))
 (.seq (.block 1 (.seq (.region false [⟨none,(some 10),.idxS 1 (.t 6) (.t 8)⟩,
  ⟨none,(some 11),.load 1 false (.t 10)⟩,
  ⟨none,(some 5),.mov (.t 11)⟩])
 (.seq (.region false [⟨none,(some 12),.mov (.t 5)⟩,
  ⟨none,(some 13),.mov (.t 3)⟩,
  ⟨none,(some 14),.bin .neq (.t 12) (.t 13)⟩])
 (.cond (.t 14) (.seq (.region false [⟨none,(some 15),.mov (.t 5)⟩,
  ⟨none,(some 2),.mov (.t 15)⟩])
 .ret)
 .skip))))
 (.region false [⟨none,(some 16),.bin .add (.t 8) (.k (.int .i64 1))⟩,
  ⟨none,(some 8),.mov (.t 16)⟩]))))
def zuuu (x3 x6 x7 x8:DV) (h:List AObj):St:=⟨[.junk,.junk,.junk,x3,.junk,.junk,x6,x7,x8]++js 9,h⟩
def a28:AFn where
 code:=(.seq (.region false [⟨none,(some 2),.mov (.k (.int .i64 0))⟩])
 (.seq (.region false [⟨none,(some 3),.mov (.k (.int .i64 0))⟩])
 (.seq (.seq (.region false [⟨none,(some 6),.mov (.t 0)⟩,
  ⟨none,(some 7),.len (.t 6)⟩,
  ⟨none,(some 8),.mov (.k (.int .i64 0))⟩])
 (.block 0 (.loop zkwz)))
 (.seq (.region false [⟨none,(some 17),.mov (.t 3)⟩,
  ⟨none,(some 2),.mov (.t 17)⟩])
 .ret))))
 ntmps:=18
 res:=[.tmp 2]
theorem z43f:zsjc P Try.f28=some a28:=by kernel_rfl
def a29:AFn where
 code:=(.seq (.region false [⟨none,(some 4),.mov (.k (.int .i64 0))⟩])
 (.seq (.region false [⟨none,(some 7),.mov (.t 0)⟩,
  ⟨none,(some 8),.call (.k (.fn (.func 47) [] [])) [(.t 7)]⟩,
  ⟨none,(some 5),.mov (.t 8)⟩])
 (.seq (.region false [⟨none,(some 9),.mov (.t 1)⟩,
  ⟨none,(some 10),.call (.k (.fn (.func 47) [] [])) [(.t 9)]⟩,
  ⟨none,(some 6),.mov (.t 10)⟩])
 (.seq (.seq (.region false [⟨none,(some 11),.mov (.t 5)⟩])
 (.cond (.t 11) (.seq (.seq (.region false [⟨none,(some 12),.mov (.t 6)⟩])
 (.cond (.t 12) (.seq (.region false [⟨none,(some 4),.mov (.k (.int .i64 0))⟩])
 .ret)
 .skip))
 (.seq (.region false [⟨none,(some 4),.mov (.k (.int .i64 (-1)))⟩])
 .ret))
 .skip))
 (.seq (.seq (.region false [⟨none,(some 13),.mov (.t 6)⟩])
 (.cond (.t 13) (.seq (.region false [⟨none,(some 4),.mov (.k (.int .i64 1))⟩])
 .ret)
 .skip))
 (.seq (.seq (.region false [⟨none,(some 14),.mov (.t 0)⟩,
  ⟨none,(some 15),.mov (.t 1)⟩,
  ⟨none,(some 16),.bin .lss (.t 14) (.t 15)⟩])
 (.cond (.t 16) (.seq (.region false [⟨none,(some 4),.mov (.k (.int .i64 (-1)))⟩])
 .ret)
 .skip))
 (.seq (.seq (.region false [⟨none,(some 17),.mov (.t 0)⟩,
  ⟨none,(some 18),.mov (.t 1)⟩,
  ⟨none,(some 19),.bin .gtr (.t 17) (.t 18)⟩])
 (.cond (.t 19) (.seq (.region false [⟨none,(some 4),.mov (.k (.int .i64 1))⟩])
 .ret)
 .skip))
 (.seq (.region false [⟨none,(some 4),.mov (.k (.int .i64 0))⟩])
 .ret))))))))
 ntmps:=20
 res:=[.tmp 4]
theorem ztig:zsjc P Try.f29=some a29:=by kernel_rfl
def a79:AFn where
 code:=(.seq (.region false [⟨none,(some 4),.mov (.k (.int .i64 0))⟩])
 (.seq (.region false [⟨none,(some 7),.mov (.t 0)⟩,
  ⟨none,(some 8),.call (.k (.fn (.func 94) [] [])) [(.t 7)]⟩,
  ⟨none,(some 5),.mov (.t 8)⟩])
 (.seq (.region false [⟨none,(some 9),.mov (.t 1)⟩,
  ⟨none,(some 10),.call (.k (.fn (.func 94) [] [])) [(.t 9)]⟩,
  ⟨none,(some 6),.mov (.t 10)⟩])
 (.seq (.seq (.region false [⟨none,(some 11),.mov (.t 5)⟩])
 (.cond (.t 11) (.seq (.seq (.region false [⟨none,(some 12),.mov (.t 6)⟩])
 (.cond (.t 12) (.seq (.region false [⟨none,(some 4),.mov (.k (.int .i64 0))⟩])
 .ret)
 .skip))
 (.seq (.region false [⟨none,(some 4),.mov (.k (.int .i64 (-1)))⟩])
 .ret))
 .skip))
 (.seq (.seq (.region false [⟨none,(some 13),.mov (.t 6)⟩])
 (.cond (.t 13) (.seq (.region false [⟨none,(some 4),.mov (.k (.int .i64 1))⟩])
 .ret)
 .skip))
 (.seq (.seq (.region false [⟨none,(some 14),.mov (.t 0)⟩,
  ⟨none,(some 15),.mov (.t 1)⟩,
  ⟨none,(some 16),.bin .lss (.t 14) (.t 15)⟩])
 (.cond (.t 16) (.seq (.region false [⟨none,(some 4),.mov (.k (.int .i64 (-1)))⟩])
 .ret)
 .skip))
 (.seq (.seq (.region false [⟨none,(some 17),.mov (.t 0)⟩,
  ⟨none,(some 18),.mov (.t 1)⟩,
  ⟨none,(some 19),.bin .gtr (.t 17) (.t 18)⟩])
 (.cond (.t 19) (.seq (.region false [⟨none,(some 4),.mov (.k (.int .i64 1))⟩])
 .ret)
 .skip))
 (.seq (.region false [⟨none,(some 4),.mov (.k (.int .i64 0))⟩])
 .ret))))))))
 ntmps:=20
 res:=[.tmp 4]
theorem zaq4:zsjc P Try.f79=some a79:=by kernel_rfl
def a47:AFn where
 code:=(.seq (.region false [⟨none,(some 2),.mov (.k (.bool false))⟩])
 (.seq (.region false [⟨none,(some 3),.mov (.t 0)⟩,
  ⟨none,(some 4),.mov (.t 0)⟩,
  ⟨none,(some 5),.bin .neq (.t 3) (.t 4)⟩,
  ⟨none,(some 2),.mov (.t 5)⟩])
 .ret))
 ntmps:=6
 res:=[.tmp 2]
theorem zzqr:zsjc P Try.f47=some a47:=by kernel_rfl
def a94:AFn where
 code:=(.seq (.region false [⟨none,(some 2),.mov (.k (.bool false))⟩])
 (.seq (.region false [⟨none,(some 3),.mov (.t 0)⟩,
  ⟨none,(some 4),.mov (.t 0)⟩,
  ⟨none,(some 5),.bin .neq (.t 3) (.t 4)⟩,
  ⟨none,(some 2),.mov (.t 5)⟩])
 .ret))
 ntmps:=6
 res:=[.tmp 2]
theorem ziuh:zsjc P Try.f94=some a94:=by kernel_rfl
end Go.Proofs.Ytaihpefemjlilaa
set_option linter.unusedSimpArgs false
set_option linter.unusedVariables false
namespace Go.Proofs.Ytaihpefemjlilaa
open Go Go.Am
inductive W5 where
 | live|good|den|rep|spare
def W5.fid:W5→Nat
 | .live=>76
 | .good=>73
 | .den=>75
 | .rep=>81
 | .spare=>82
theorem W5.inj {a b:W5} (h:a.fid=b.fid):a=b:=by cases a<;>cases b<;>first|rfl|(simp [W5.fid] at h)
def cmpI (a b:Int):Int:=if a<b then -1 else if b<a then 1 else 0
def orI (a b:Int):Int:=if a=0 then b else a
noncomputable def cNaN:List DV→Option DV:=con (fun _=>True) (fun a:Int=>[.int .i64 a]) (fun _ => .bool false)
theorem z0kw {a:Int}:cNaN [.int .i64 a]=some (.bool false) :=
 zsn4 (f:=fun a:Int=>[.int .i64 a]) (g:=fun _ => .bool false) (by intro a b e; simpa using e) a
theorem zimq (a:Int):Runs tbl0 a94 [.int .i64 a] (.bool false):=by
 refine ⟨?_⟩
 simp (disch:=first|omega|simp<;>omega|fail) [-zA,-zB,-zC,-zD,-zE,a94]
theorem zc8m (a:Int):Runs tbl0 a47 [.int .i64 a] (.bool false):=by
 refine ⟨?_⟩
 simp (disch:=first|omega|simp<;>omega|fail) [-zA,-zB,-zC,-zD,-zE,a47]
noncomputable def T203:Tbl:=addT 94 (.pure cNaN) (addT 47 (.pure cNaN) tbl0)
theorem z43x:T203 47 = .pure cNaN:=by simp [T203]
theorem ztzm:T203.Sound P:=z0rp (z2au fun a _=>zljw mix zr5o Try.func94 ziuh (zimq a)) (z0rp (z2au fun a _=>zljw mix zr5o Try.func47 zzqr (zc8m a)) zr5o)
noncomputable def cII (f:Int→Int→DV):List DV→Option DV:=con (fun _=>True) (fun a:Int × Int=>[.int .i64 a.1,.int .i64 a.2]) (fun a=>f a.1 a.2)
theorem zmei {f:Int→Int→DV} {a b:Int}:cII f [.int .i64 a,.int .i64 b]=some (f a b) :=
 zsn4 (f:=fun a:Int × Int=>[.int .i64 a.1,.int .i64 a.2]) (g:=fun a=>f a.1 a.2) (by
  rintro ⟨a,b⟩ ⟨c,d⟩ e
  simp only [List.cons.injEq,DV.int.injEq,and_true,true_and] at e
  rw [e.1,e.2]) (a,b)
theorem zcof (a b:Int):Runs T203 a29 [.int .i64 a,.int .i64 b] (.int .i64 (cmpI a b)):=by
 refine ⟨?_⟩
 by_cases h:a<b
 ·simp (disch:=first|omega|simp<;>omega|fail) [-zA,-zB,-zC,-zD,-zE,a29,z43x,z0kw,cmpI,h]
 ·by_cases h':b<a
  ·simp (disch:=first|omega|simp<;>omega|fail) [-zA,-zB,-zC,-zD,-zE,a29,z43x,z0kw,cmpI,h,h']
  ·simp (disch:=first|omega|simp<;>omega|fail) [-zA,-zB,-zC,-zD,-zE,a29,z43x,z0kw,cmpI,h,h']
noncomputable def cOr:List DV→Option DV:=con (fun _=>True) (fun a:Int × Int=>[.sl true 1 2 [.int .i64 a.1,.int .i64 a.2]]) (fun a => .int .i64 (orI a.1 a.2))
theorem z68y {a b:Int}:cOr [.sl true 1 2 [.int .i64 a,.int .i64 b]]=some (.int .i64 (orI a b)) :=
 zsn4 (f:=fun a:Int × Int=>[.sl true 1 2 [.int .i64 a.1,.int .i64 a.2]]) (g:=fun a => .int .i64 (orI a.1 a.2)) (by
  rintro ⟨a,b⟩ ⟨c,d⟩ e
  simp only [List.cons.injEq,DV.sl.injEq,DV.int.injEq,and_true,true_and] at e
  rw [e.1,e.2]) (a,b)
def S204 (a b:Int) (i:Nat):St:=zuuu (.int .i64 0) (.sl true 1 2 [.int .i64 a,.int .i64 b]) (.int .i64 2) (.int .i64 i) []
theorem z5l8 (a b:Int):Runs tbl0 a28 [.sl true 1 2 [.int .i64 a,.int .i64 b]] (.int .i64 (orI a b)):=by
 refine ⟨?_⟩
 simp (disch:=first|omega|simp<;>omega|fail) [-zA,-zB,-zC,-zD,-zE,a28]
 refine zlm5 (S204 a b) (fun i=>2-i) (fun i=>i≤2∧(0<i→a=0)∧(1<i→b=0)) 0 (z515 (by simp (disch:=first|omega|simp<;>omega|fail) [-zA,-zB,-zC,-zD,-zE]) (by simp (disch:=first|omega|simp<;>omega|fail) [-zA,-zB,-zC,-zD,-zE])) ⟨by omega,fun h=>by omega,fun h=>by omega⟩ (fun i hi => ?_)
 obtain ⟨h1,h2,h3⟩:=hi
 simp (disch:=first|omega|simp<;>omega|fail) [-zA,-zB,-zC,-zD,-zE,zkwz,zuuu,S204]
 rcases (show i=0∨i=1∨i=2 by omega) with rfl|rfl|rfl
 ·by_cases e:a=0
  ·simp (disch:=first|omega|simp<;>omega|fail) [-zA,-zB,-zC,-zD,-zE,e]
   refine ⟨1,z515 (by simp (disch:=first|omega|simp<;>omega|fail) [-zA,-zB,-zC,-zD,-zE]) (by simp (disch:=first|omega|simp<;>omega|fail) [-zA,-zB,-zC,-zD,-zE]),?_⟩
   simp [e]
  ·simp (disch:=first|omega|simp<;>omega|fail) [-zA,-zB,-zC,-zD,-zE,e,orI]
 ·have ha:=h2 (by omega)
  by_cases e:b=0
  ·simp (disch:=first|omega|simp<;>omega|fail) [-zA,-zB,-zC,-zD,-zE,e]
   refine ⟨2,z515 (by simp (disch:=first|omega|simp<;>omega|fail) [-zA,-zB,-zC,-zD,-zE]) (by simp (disch:=first|omega|simp<;>omega|fail) [-zA,-zB,-zC,-zD,-zE]),?_⟩
   simp [e,ha]
  ·simp (disch:=first|omega|simp<;>omega|fail) [-zA,-zB,-zC,-zD,-zE,e,orI,ha]
 ·have ha:=h2 (by omega)
  have hb:=h3 (by omega)
  simp (disch:=first|omega|simp<;>omega|fail) [-zA,-zB,-zC,-zD,-zE,orI,ha,hb]
end Go.Proofs.Ytaihpefemjlilaa
set_option linter.unusedSimpArgs false
set_option linter.unusedVariables false
namespace Go.Proofs.Ytaihpefemjlilaa
open Go Go.Am
structure DSi where
 i:Nat
 l:List Ins
end Go.Proofs.Ytaihpefemjlilaa
set_option linter.unusedSimpArgs false
set_option linter.unusedVariables false
namespace Go.Proofs.Ytaihpefemjlilaa
open Go Go.Am
def liV (l:List Int):DV:=if l=[] then .nils else .sl false 1 l.length (l.flatMap inI)
theorem z4yh (l:List Int):zyp8 (liV l)=true:=by
 unfold liV; split
 ·rfl
 ·show zbao _=true; exact zp6k zyj0 l
theorem zo8b (H:List AObj) (l:List Int):lenD H (liV l)=some (.int .i64 l.length):=by
 unfold liV; split
 ·rename_i h; subst h; rfl
 ·rfl
theorem zj6i (l:List Int):(liV l).one=true:=by unfold liV; split<;>rfl
theorem z2h8 (l:List Int):(liV l).known=true:=by unfold liV; split<;>rfl
theorem zf8a (l:List Int):(liV l).cells=[liV l]:=by unfold liV; split<;>rfl
theorem zuw8 (n k:Nat) (H:List AObj) (l:List Int):fz n H k (liV l)=some (liV l):=zqge (z4yh l)
theorem zzkh (k:Nat) (H:List AObj) (l:List Int):snap H k (liV l)=some (liV l):=z6nl (z4yh l)
theorem zlhx (n:Nat) (l:List Int):Am.below n (liV l)=true:=z8b8 n _ (z4yh l)
attribute [simp] z4yh zo8b zj6i z2h8 zf8a zuw8 zzkh zlhx
def zb68 (g:Grp):Prop:=(-1000000000≤g.want∧g.want≤1000000000)∧(-1000000000≤g.least∧g.least≤1000000000) ∧ -1000000000≤g.down∧g.down≤1000000000
end Go.Proofs.Ytaihpefemjlilaa
set_option linter.unusedSimpArgs false
set_option linter.unusedVariables false
namespace Go.Proofs.Ytaihpefemjlilaa
open Go Go.Am
end Go.Proofs.Ytaihpefemjlilaa
set_option linter.unusedSimpArgs false
set_option linter.unusedVariables false
set_option maxRecDepth 4000
namespace Go.Proofs.Ytaihpefemjlilaa
open Go Go.Am
structure IP where
 A:List Int
 B:List Int
end Go.Proofs.Ytaihpefemjlilaa
set_option linter.unusedSimpArgs false
set_option linter.unusedVariables false
namespace Go.Proofs.Ytaihpefemjlilaa
open Go Go.RowKit Go.Am
theorem zupw:(P.info? 3).map (fun i=>(i.zero,i.size,i.bytes))=some (some (.int .i64 0),1,8):=by kernel_rfl
set_option maxRecDepth 100000 in
theorem z4t9 (w:World):Calls Try.prog 96 #[.slice none 0 0,.int .i64 0] w fun e w'=>e = .returned (.slice none 0 0)∧w'=w:=by
 go_enter Try.func96,Try.ntmps96
 go_wp2
 go_ret
 exact ⟨rfl,rfl⟩
set_option maxRecDepth 100000 in
theorem zv1e (n:Nat) (w:World) (hn:1≤n) (hb:n≤1000000):Calls Try.prog 96 #[.slice none 0 0,.int .i64 n] w fun e w' =>
  ∃ cap,n≤cap∧e = .returned (.slice (some ⟨w.heap.size,0,none⟩) 0 cap)∧w'=w.drew.alloc (.cells (Builtin.zeroCells (Value.int .i64 0).cells n++Builtin.zeroCells (Value.int .i64 0).cells (cap-n)) 3):=by
 obtain ⟨i0,hi,hz0,hz1,hz2⟩:=info_parts zupw
 have happ:=Lib.run_append_nil_zeros (P:=P) w 100 3 100 3 i0 (.int .i64 0) .i64 .i64 Try.underlying100 Try.underlying3 hi hz0 n (by omega) (by omega) (by omega) (by rw [hz2]; omega)
 generalize hcap:grownCap w n 0 3=cap2 at happ
 have hcapge:n≤cap2:=by rw [← hcap]; exact grownCap_ge w _ 0 3
 generalize hZ:(Builtin.zeroCells (Value.int .i64 0).cells n++Builtin.zeroCells (Value.int .i64 0).cells (cap2-n))=Z at happ
 go_enter Try.func96,Try.ntmps96
 go_wp2_with (at_builtin; refine Lib.wpList_append_run _ rfl _ _ _ _ rfl _ _ rfl rfl _ _ happ ?_)
 go_wp2
 go_ret
 exact ⟨cap2,hcapge,rfl,by rw [hZ]; rfl⟩
def z8h2 (p n:Nat):DV:=if n=0 then .nils else .ms p n 0 1 0 n
def zuiy (n:Nat):List AObj:=if n=0 then [] else [.cells (reps n [.int .i64 0])]
theorem zfbw (n:Nat):(reps n [DV.int .i64 0]).length=n:=by
 induction n with
 | zero=>rfl
 | succ n ih=>simp only [reps,List.length_append,ih]; simp; try omega
theorem z58y (n:Nat) (hb:n≤1000000):zwy1 P 96 [.nils,.int .i64 n] [] (fun d h=>d=z8h2 0 n∧h=zuiy n):=by
 refine fun X0 base w E vs hh hr => ?_
 obtain ⟨v1,v2,hv⟩ : ∃ v1 v2,vs = #[v1,v2]:=by
  have h1:vs.toList.length=2:=hr.1
  match hq:vs.toList,h1 with
  | [v1,v2],_=>exact ⟨v1,v2,Array.ext' (by simpa using hq)⟩
 subst hv
 have r1:Rep E (FX X0 E) w v1 .nils:=hr.2 0 (by simp) (by simp)
 have r2:Rep E (FX X0 E) w v2 (.int .i64 n):=hr.2 1 (by simp) (by simp)
 cases r1
 cases r2
 refine Does.of_ent (z36x Try.func96 (by kernel_rfl) rfl) ?_
 by_cases h0:n=0
 ·subst h0
  refine (z4t9 w).mono ?_
  rintro e w' ⟨rfl,rfl⟩
  exact ⟨_,.nils,[],E,rfl,⟨rfl,rfl⟩,hh,.nils,.refl _ _ _ _⟩
 ·refine (zv1e n w (by omega) hb).mono ?_
  rintro e w' ⟨cap,hc,rfl,rfl⟩
  have hz : ∀ (E:Env) (X:Forb) (w:World),RepA E X w (Value.int .i64 0).cells.toList [.int .i64 0]:=fun E X w=>by
   refine ⟨rfl,fun i h1 h2 => ?_⟩
   have:i=0:=by simp at h2; omega
   subst this
   exact .int _ _
  have hR:=zr6e (hz E (FX X0 E) w.drew) (s:=1) rfl (by decide) n
  have hn:=zkum hh.drew hR (Builtin.zeroCells (Value.int .i64 0).cells (cap-n)).toList 3
  have he:((Builtin.zeroCells (Value.int .i64 0).cells n).toList++(Builtin.zeroCells (Value.int .i64 0).cells (cap-n)).toList).toArray=Builtin.zeroCells (Value.int .i64 0).cells n++Builtin.zeroCells (Value.int .i64 0).cells (cap-n):=by apply Array.ext'; simp
  rw [he] at hn
  have hE:E=[]:=List.eq_nil_of_length_eq_zero (by simpa using hh.len)
  subst hE
  refine ⟨_,.ms 0 n 0 1 0 n,[.cells (reps n [.int .i64 0])],_,rfl,⟨by simp [z8h2,h0],by simp [zuiy,h0]⟩,hn.1,?_,(zjji X0 base [] w).trans hn.2⟩
  have hl:=zfbw n
  have hs:(Builtin.zeroCells (Value.int .i64 0).cells n++Builtin.zeroCells (Value.int .i64 0).cells (cap-n)).size=cap:=by
   simp [zle2,Value.cells]; omega
  exact z6v0 (b:=w.drew.heap.size) (L:=(reps n [DV.int .i64 0]).length) (arr:=Builtin.zeroCells (Value.int .i64 0).cells n++Builtin.zeroCells (Value.int .i64 0).cells (cap-n)) (t:=3) (by simp) hl.symm (heap_alloc_new w.drew _) (by omega) (by omega) (fun _=>rfl) (by omega) (by rw [hs]; omega)
end Go.Proofs.Ytaihpefemjlilaa
set_option linter.unusedSimpArgs false
set_option linter.unusedVariables false
namespace Go.Proofs.Ytaihpefemjlilaa
open Go Go.Am
structure SrtOK (a:Clu × List AObj × List Int):Prop where
 h : ∀ X,objV (a.2.1++X) 0 3=some (clC a.1)
 l : ∀ x ∈ a.2.2,0≤z092 a.1.i.l x
 b:a.2.2.length≤19
theorem SrtOK.c {a b:Clu × List AObj × List Int} (h1:SrtOK a) (h2:SrtOK b) (e:a.2.1=b.2.1):a.1=b.1:=by
 have q1:=h1.h []
 have q2:=h2.h []
 rw [e,q2] at q1
 exact zh7t (Option.some.inj q1).symm
end Go.Proofs.Ytaihpefemjlilaa
set_option linter.unusedSimpArgs false
set_option linter.unusedVariables false
namespace Go.Proofs.Ytaihpefemjlilaa
open Go Go.Am
structure RS where
 i:Nat
 j:Nat
 L:List Int
structure RInv (l:List Int) (n:Nat) (a:RS):Prop where
 s:a.i+a.j+1=n
 ln:a.L.length=n
 g : ∀ k,k<n→a.L[k]? = if k<a.i∨a.j<k then l[n-1-k]? else l[k]?
end Go.Proofs.Ytaihpefemjlilaa
set_option linter.unusedSimpArgs false
set_option linter.unusedVariables false
namespace Go.Proofs.Ytaihpefemjlilaa
open Go Go.Am
structure VisL (h:List AObj) (x:DV) (l:List Int):Prop where
 len : ∀ X,lenD (h++X) x=some (.int .i64 l.length)
 vis : ∀ X,visY (h++X) x=some (l.length,l.map (.int .i64))
 oneC:x.one=true
structure CA where
 h:List AObj
 x:DV
 y:DV
 z:DV
 lx:List Int
 ly:List Int
 lz:List Int
structure CAOK (a:CA):Prop where
 x:VisL a.h a.x a.lx
 y:VisL a.h a.y a.ly
 z:VisL a.h a.z a.lz
 b:a.lx.length+a.ly.length+a.lz.length≤1000000
end Go.Proofs.Ytaihpefemjlilaa
set_option linter.unusedSimpArgs false
set_option linter.unusedVariables false
namespace Go.Proofs.Ytaihpefemjlilaa
open Go Go.Am
structure VicOK (c:Clu):Prop where
 n:c.i.l.length≤19
 l : ∀ g ∈ c.g.l,zb68 g
end Go.Proofs.Ytaihpefemjlilaa
set_option linter.unusedSimpArgs false
set_option linter.unusedVariables false
namespace Go.Proofs.Ytaihpefemjlilaa
open Go Go.Am
theorem ziny (H:List AObj) (x:Nl):lenD H x.dv=some (.int .i64 x.l.length):=zwhz ⟨x.k,x.l,x.h,0⟩ H
theorem zhx7 (x:Nl):x.dv.one=true:=zxr4 ⟨x.k,x.l,x.h,0⟩
theorem zxy5 (x:Nl):x.dv.known=true:=zn8z ⟨x.k,x.l,x.h,0⟩
theorem ztqv (x:Nl):x.dv.cells=[x.dv]:=zymw ⟨x.k,x.l,x.h,0⟩
theorem zdvk {n:Nat} {x:Nl}:Am.below n x.dv=true:=z8b8 n _ (zkx7 x)
attribute [simp] zdvk ziny zhx7 zxy5 ztqv zkx7
def okT (t:Int):Prop := -2199023255552≤t∧t≤2199023255552
def ok64 (n:Int):Prop := -9223372036854775808≤n∧n≤9223372036854775807
structure OvOK (a:Clu × Nl × Int):Prop where
 d : ∀ x ∈ a.1.i.l,okT x.den
 g : ∀ n ∈ a.2.1.l,ok64 n
 t:okT a.2.2
structure OS where
 i:Nat
 L:List Int
 x:Ins
end Go.Proofs.Ytaihpefemjlilaa
set_option linter.unusedSimpArgs false
set_option linter.unusedVariables false
namespace Go.Proofs.Ytaihpefemjlilaa
open Go Go.Am
end Go.Proofs.Ytaihpefemjlilaa
set_option linter.unusedSimpArgs false
set_option linter.unusedVariables false
namespace Go.Proofs.Ytaihpefemjlilaa
open Go Go.Am
noncomputable def cTru:List DV→Option DV
 | []=>some (.bool true)|_=>none
theorem zi1x {f:Nat} (h:Am.Sem P f [] (.bool true)):(Con.pure cTru).Sound P f:=by
 intro args v e
 unfold cTru at e
 split at e
 ·simp at e; subst e; exact h
 ·simp at e
end Go.Proofs.Ytaihpefemjlilaa
set_option linter.unusedSimpArgs false
set_option linter.unusedVariables false
namespace Go.Proofs.Ytaihpefemjlilaa
open Go Go.Am
end Go.Proofs.Ytaihpefemjlilaa
set_option linter.unusedSimpArgs false
set_option linter.unusedVariables false
namespace Go.Proofs.Ytaihpefemjlilaa
open Go Go.Am
end Go.Proofs.Ytaihpefemjlilaa
set_option linter.unusedSimpArgs false
set_option linter.unusedVariables false
namespace Go.Proofs.Ytaihpefemjlilaa
open Go Go.Am
end Go.Proofs.Ytaihpefemjlilaa
set_option linter.unusedSimpArgs false
set_option linter.unusedVariables false
namespace Go.Proofs.Ytaihpefemjlilaa
open Go Go.Am
end Go.Proofs.Ytaihpefemjlilaa
set_option linter.unusedSimpArgs false
set_option linter.unusedVariables false
namespace Go.Proofs.Ytaihpefemjlilaa
open Go Go.Am
def d1:Dg:=⟨1#8::rep 31 0#8,by simp⟩
structure OneG (c:Clu) (x:Grp):Prop where
 g:c.g.l=[x]
 v:ValidG x
 a:x.ns=[97]
 b:x.im=[98]
end Go.Proofs.Ytaihpefemjlilaa
set_option linter.unusedSimpArgs false
set_option linter.unusedVariables false
namespace Go.Proofs.Ytaihpefemjlilaa
open Go Go.Am
def zr3y:ACode :=
 (.seq (.seq (.region false [⟨none,(some 15),.mov (.t 9)⟩,
  ⟨none,(some 16),.mov (.t 10)⟩,
  ⟨none,(some 17),.bin .lss (.t 15) (.t 16)⟩])
 (.cond (.t 17) .skip
 (.exit 0)))
 (.block 1 (.seq (.region false [⟨none,(some 18),.mov (.t 9)⟩,
  ⟨none,(some 19),.mov (.t 10)⟩,
  ⟨none,(some 20),.bin .add (.t 18) (.t 19)⟩,
  ⟨none,(some 21),.conv .u64 (.t 20)⟩,
  ⟨none,(some 22),.bin .shr (.t 21) (.k (w64 1#64))⟩,
  ⟨none,(some 23),.conv .i64 (.t 22)⟩,
  ⟨none,(some 11),.mov (.t 23)⟩])
 (.seq (.region true [⟨none,(some 24),.mov (.t 2)⟩,
  ⟨none,(some 25),.mov (.t 0)⟩,
  ⟨none,(some 26),.mov (.t 11)⟩,
  ⟨none,(some 27),.idxS 35 (.t 25) (.t 26)⟩,
  ⟨none,(some 28),.load 35 true (.t 27)⟩,
  ⟨none,(some 29),.load 35 true (.t 4)⟩,
  ⟨none,(some 30),.callE (.t 24) [(.t 28),(.t 29)]⟩,
  ⟨none,(some 31),.bin .lss (.t 30) (.k (.int .i64 0))⟩])
 (.cond (.t 31) (.region false [⟨none,(some 32),.mov (.t 11)⟩,
  ⟨none,(some 33),.bin .add (.t 32) (.k (.int .i64 1))⟩,
  ⟨none,(some 9),.mov (.t 33)⟩])
 (.region false [⟨none,(some 34),.mov (.t 11)⟩,
  ⟨none,(some 10),.mov (.t 34)⟩]))))))
def zhlx (x0 x2 x4 x8 x9 x10:DV) (h:List AObj):St:=⟨[x0,.junk,x2,.junk,x4,.junk,.junk,.junk,x8,x9,x10]++js 38,h⟩
def a26:AFn where
 code:=(.seq (.region false [⟨none,(some 4),.box (.t 1)⟩,
  ⟨none,(some 6),.mov (.k (.int .i64 0))⟩,
  ⟨none,(some 7),.mov (.k (.bool false))⟩])
 (.seq (.region false [⟨none,(some 12),.mov (.t 0)⟩,
  ⟨none,(some 13),.len (.t 12)⟩,
  ⟨none,(some 8),.mov (.t 13)⟩])
 (.seq (.region false [⟨none,(some 14),.mov (.t 8)⟩,
  ⟨none,(some 9),.mov (.k (.int .i64 0))⟩,
  ⟨none,(some 10),.mov (.t 14)⟩])
 (.seq (.block 0 (.loop zr3y))
 (.seq (.region true [⟨none,(some 35),.mov (.t 9)⟩,
  ⟨none,(some 36),.mov (.t 9)⟩,
  ⟨none,(some 37),.mov (.t 8)⟩,
  ⟨none,(some 38),.bin .lss (.t 36) (.t 37)⟩,
  ⟨none,(some 39),.mov (.t 38)⟩,
  ⟨(some (39,true)),(some 40),.mov (.t 2)⟩,
  ⟨(some (39,true)),(some 41),.mov (.t 0)⟩,
  ⟨(some (39,true)),(some 42),.mov (.t 9)⟩,
  ⟨(some (39,true)),(some 43),.idxS 35 (.t 41) (.t 42)⟩,
  ⟨(some (39,true)),(some 44),.load 35 true (.t 43)⟩,
  ⟨(some (39,true)),(some 45),.load 35 true (.t 4)⟩,
  ⟨(some (39,true)),(some 46),.callE (.t 40) [(.t 44),(.t 45)]⟩,
  ⟨(some (39,true)),(some 47),.bin .eql (.t 46) (.k (.int .i64 0))⟩,
  ⟨none,(some 48),.pick (.t 39) (.t 47) (.k (.bool false))⟩,
  ⟨none,(some 6),.mov (.t 35)⟩,
  ⟨none,(some 7),.mov (.t 48)⟩])
 .ret)))))
 ntmps:=49
 res:=[.tmp 6,.tmp 7]
theorem z9gs:zsjc P Try.f26=some a26:=by kernel_rfl
def a27:AFn where
 code:=(.seq (.region false [⟨none,(some 2),.box (.t 0)⟩,
  ⟨none,(some 3),.box (.t 1)⟩,
  ⟨none,(some 4),.mov (.k (.int .i64 0))⟩])
 (.seq (.region true [⟨none,(some 5),.fld 0 (.t 2)⟩,
  ⟨none,(some 6),.load 1 false (.t 5)⟩,
  ⟨none,(some 7),.fld 0 (.t 3)⟩,
  ⟨none,(some 8),.load 1 false (.t 7)⟩,
  ⟨none,(some 10),.fld 1 (.t 2)⟩,
  ⟨none,(some 11),.slcA 32 1 (.t 10) none none⟩,
  ⟨none,(some 12),.fld 1 (.t 3)⟩,
  ⟨none,(some 13),.slcA 32 1 (.t 12) none none⟩,
  ⟨none,(some 9),.callN (.k (.fn (.func 29) [] [])) [(.t 6),(.t 8)]⟩,
  ⟨none,(some 14),.callN (.k (.fn (.func 30) [] [])) [(.t 11),(.t 13)]⟩,
  ⟨none,(some 15),.bsl 1 2 [(.int .i64 0)] [(0,1,(.t 9)),(1,1,(.t 14))]⟩,
  ⟨none,(some 16),.callN (.k (.fn (.func 28) [] [])) [(.t 15)]⟩,
  ⟨none,(some 4),.mov (.t 16)⟩])
 .ret))
 ntmps:=17
 res:=[.tmp 4]
theorem z3hx:zsjc P Try.f27=some a27:=by kernel_rfl
def a30:AFn where
 code:=(.seq (.region false [⟨none,(some 4),.mov (.k (.int .i64 0))⟩])
 (.seq (.region false [⟨none,(some 5),.mov (.t 0)⟩,
  ⟨none,(some 6),.mov (.t 1)⟩,
  ⟨none,(some 7),.call (.k (.fn (.func 48) [] [])) [(.t 5),(.t 6)]⟩,
  ⟨none,(some 4),.mov (.t 7)⟩])
 .ret))
 ntmps:=8
 res:=[.tmp 4]
theorem z3f8:zsjc P Try.f30=some a30:=by kernel_rfl
def a13:AFn where
 code:=(.seq (.region false [⟨none,(some 5),.box (.t 2)⟩,
  ⟨none,(some 6),.mov (.k (.int .i64 0))⟩,
  ⟨none,(some 7),.mov (.k (.bool false))⟩])
 (.seq (.region false [⟨none,(some 8),.mov (.t 0)⟩,
  ⟨none,(some 9),.mov (.t 1)⟩,
  ⟨none,(some 10),.load 32 true (.t 5)⟩,
  ⟨none,(some 11),.build [(.int .i64 0),(w8 0#8),(w8 0#8),(w8 0#8),(w8 0#8),(w8 0#8),(w8 0#8),(w8 0#8),(w8 0#8),(w8 0#8),(w8 0#8),(w8 0#8),(w8 0#8),(w8 0#8),(w8 0#8),(w8 0#8),(w8 0#8),(w8 0#8),(w8 0#8),(w8 0#8),(w8 0#8),(w8 0#8),(w8 0#8),(w8 0#8),(w8 0#8),(w8 0#8),(w8 0#8),(w8 0#8),(w8 0#8),(w8 0#8),(w8 0#8),(w8 0#8),(w8 0#8),(.int .i64 0),(.int .i64 0)] [(0,1,(.t 9)),(1,32,(.t 10))]⟩,
  ⟨none,(some 12),.call (.k (.fn (.func 26) [] [])) [(.t 8),(.t 11),(.k (.fn (.func 27) [] []))]⟩,
  ⟨none,(some 13),.ext (.t 12) 0⟩,
  ⟨none,(some 14),.ext (.t 12) 1⟩,
  ⟨none,(some 6),.mov (.t 13)⟩,
  ⟨none,(some 7),.mov (.t 14)⟩])
 .ret))
 ntmps:=15
 res:=[.tmp 6,.tmp 7]
theorem zm5y:zsjc P Try.f13=some a13:=by kernel_rfl
def a14:AFn where
 code:=(.seq (.region false [⟨none,(some 2),.mov (.k .nils)⟩])
 (.seq (.seq (.region false [⟨none,(some 3),.mov (.t 0)⟩,
  ⟨none,(some 4),.eqn 0 false (.t 3) (.k .nils)⟩])
 (.cond (.t 4) (.seq (.region false [⟨none,(some 2),.mov (.k .nils)⟩])
 .ret)
 .skip))
 (.seq (.region false [⟨none,(some 5),.bsl 35 0 [(.int .i64 0),(w8 0#8),(w8 0#8),(w8 0#8),(w8 0#8),(w8 0#8),(w8 0#8),(w8 0#8),(w8 0#8),(w8 0#8),(w8 0#8),(w8 0#8),(w8 0#8),(w8 0#8),(w8 0#8),(w8 0#8),(w8 0#8),(w8 0#8),(w8 0#8),(w8 0#8),(w8 0#8),(w8 0#8),(w8 0#8),(w8 0#8),(w8 0#8),(w8 0#8),(w8 0#8),(w8 0#8),(w8 0#8),(w8 0#8),(w8 0#8),(w8 0#8),(w8 0#8),(.int .i64 0),(.int .i64 0)] []⟩,
  ⟨none,(some 6),.mov (.t 0)⟩,
  ⟨none,(some 7),.app 35 56 (.t 5) (.t 6)⟩,
  ⟨none,(some 2),.mov (.t 7)⟩])
 .ret)))
 ntmps:=8
 res:=[.tmp 2]
theorem zzfl:zsjc P Try.f14=some a14:=by kernel_rfl
def a15:AFn where
 code:=(.seq (.region false [⟨none,(some 6),.mov (.k .nils)⟩])
 (.seq (.region false [⟨none,(some 10),.mov (.t 0)⟩,
  ⟨none,(some 11),.mov (.t 1)⟩,
  ⟨none,(some 12),.slcS 35 (.t 10) (some (.t 11)) none none⟩])
 (.seq (.region false [⟨none,(some 13),.mov (.t 2)⟩,
  ⟨none,(some 14),.len (.t 13)⟩,
  ⟨none,(some 7),.mov (.t 14)⟩])
 (.seq (.seq (.region false [⟨none,(some 15),.mov (.t 7)⟩,
  ⟨none,(some 16),.bin .eql (.t 15) (.k (.int .i64 0))⟩])
 (.cond (.t 16) (.seq (.region false [⟨none,(some 17),.mov (.t 0)⟩,
  ⟨none,(some 6),.mov (.t 17)⟩])
 .ret)
 .skip))
 (.seq (.region false [⟨none,(some 18),.mov (.t 0)⟩,
  ⟨none,(some 19),.len (.t 18)⟩,
  ⟨none,(some 8),.mov (.t 19)⟩])
 (.seq (.seq (.region false [⟨none,(some 20),.mov (.t 1)⟩,
  ⟨none,(some 21),.mov (.t 8)⟩,
  ⟨none,(some 22),.bin .eql (.t 20) (.t 21)⟩])
 (.cond (.t 22) (.seq (.region false [⟨none,(some 23),.mov (.t 0)⟩,
  ⟨none,(some 24),.mov (.t 2)⟩,
  ⟨none,(some 25),.app 35 56 (.t 23) (.t 24)⟩,
  ⟨none,(some 6),.mov (.t 25)⟩])
 .ret)
 .skip))
 (.seq (.seq (.region false [⟨none,(some 26),.mov (.t 8)⟩,
  ⟨none,(some 27),.mov (.t 7)⟩,
  ⟨none,(some 28),.bin .add (.t 26) (.t 27)⟩,
  ⟨none,(some 29),.mov (.t 0)⟩,
  ⟨none,(some 30),.ext (.k .junk) 0⟩,
  ⟨none,(some 31),.bin .gtr (.t 28) (.t 30)⟩])
 (.cond (.t 31) (.seq (.region false [⟨none,(some 32),.mov (.t 0)⟩,
  ⟨none,(some 33),.mov (.t 1)⟩,
  ⟨none,(some 34),.slcS 35 (.t 32) none (some (.t 33)) none⟩,
  ⟨none,(some 35),.mov (.t 8)⟩,
  ⟨none,(some 36),.mov (.t 7)⟩,
  ⟨none,(some 37),.bin .add (.t 35) (.t 36)⟩,
  ⟨none,(some 38),.mov (.t 1)⟩,
  ⟨none,(some 39),.bin .sub (.t 37) (.t 38)⟩,
  ⟨none,(some 40),.ext (.k .junk) 0⟩,
  ⟨none,(some 9),.mov (.t 40)⟩])
 (.seq (.region false [⟨none,(some 41),.mov (.t 9)⟩,
  ⟨none,(some 42),.mov (.t 1)⟩,
  ⟨none,(some 43),.slcS 35 (.t 41) (some (.t 42)) none none⟩,
  ⟨none,(some 44),.mov (.t 2)⟩,
  ⟨none,(some 45),.cpy 35 (.t 43) (.t 44)⟩])
 (.seq (.region true [⟨none,(some 46),.mov (.t 9)⟩,
  ⟨none,(some 47),.mov (.t 1)⟩,
  ⟨none,(some 48),.mov (.t 7)⟩,
  ⟨none,(some 49),.bin .add (.t 47) (.t 48)⟩,
  ⟨none,(some 50),.slcS 35 (.t 46) (some (.t 49)) none none⟩,
  ⟨none,(some 51),.mov (.t 0)⟩,
  ⟨none,(some 52),.mov (.t 1)⟩,
  ⟨none,(some 53),.slcS 35 (.t 51) (some (.t 52)) none none⟩,
  ⟨none,(some 54),.cpy 35 (.t 50) (.t 53)⟩])
 (.seq (.region false [⟨none,(some 55),.mov (.t 9)⟩,
  ⟨none,(some 6),.mov (.t 55)⟩])
 .ret))))
 .skip))
 (.seq (.region false [⟨none,(some 56),.mov (.t 0)⟩,
  ⟨none,(some 57),.mov (.t 8)⟩,
  ⟨none,(some 58),.mov (.t 7)⟩,
  ⟨none,(some 59),.bin .add (.t 57) (.t 58)⟩,
  ⟨none,(some 60),.slcS 35 (.t 56) none (some (.t 59)) none⟩,
  ⟨none,(some 0),.mov (.t 60)⟩])
 (.seq (.seq (.region false [⟨none,(some 61),.mov (.t 2)⟩,
  ⟨none,(some 62),.mov (.t 0)⟩,
  ⟨none,(some 63),.mov (.t 1)⟩,
  ⟨none,(some 64),.mov (.t 7)⟩,
  ⟨none,(some 65),.bin .add (.t 63) (.t 64)⟩,
  ⟨none,(some 66),.slcS 35 (.t 62) (some (.t 65)) none none⟩,
  ⟨none,(some 67),.call (.k (.fn (.func 31) [] [])) [(.t 61),(.t 66)]⟩,
  ⟨none,(some 68),.un .not (.t 67)⟩])
 (.cond (.t 68) (.seq (.region true [⟨none,(some 69),.mov (.t 0)⟩,
  ⟨none,(some 70),.mov (.t 1)⟩,
  ⟨none,(some 71),.mov (.t 7)⟩,
  ⟨none,(some 72),.bin .add (.t 70) (.t 71)⟩,
  ⟨none,(some 73),.slcS 35 (.t 69) (some (.t 72)) none none⟩,
  ⟨none,(some 74),.mov (.t 0)⟩,
  ⟨none,(some 75),.mov (.t 1)⟩,
  ⟨none,(some 76),.slcS 35 (.t 74) (some (.t 75)) none none⟩,
  ⟨none,(some 77),.cpy 35 (.t 73) (.t 76)⟩])
 (.seq (.region false [⟨none,(some 78),.mov (.t 0)⟩,
  ⟨none,(some 79),.mov (.t 1)⟩,
  ⟨none,(some 80),.slcS 35 (.t 78) (some (.t 79)) none none⟩,
  ⟨none,(some 81),.mov (.t 2)⟩,
  ⟨none,(some 82),.cpy 35 (.t 80) (.t 81)⟩])
 (.seq (.region false [⟨none,(some 83),.mov (.t 0)⟩,
  ⟨none,(some 6),.mov (.t 83)⟩])
 .ret)))
 .skip))
 (.seq (.region false [⟨none,(some 84),.mov (.t 0)⟩,
  ⟨none,(some 85),.mov (.t 8)⟩,
  ⟨none,(some 86),.slcS 35 (.t 84) (some (.t 85)) none none⟩,
  ⟨none,(some 87),.mov (.t 2)⟩,
  ⟨none,(some 88),.cpy 35 (.t 86) (.t 87)⟩])
 (.seq (.region false [⟨none,(some 89),.mov (.t 0)⟩,
  ⟨none,(some 90),.mov (.t 1)⟩,
  ⟨none,(some 91),.slcS 35 (.t 89) (some (.t 90)) none none⟩,
  ⟨none,(some 92),.mov (.t 7)⟩,
  ⟨none,(some 93),.call (.k (.fn (.func 32) [] [])) [(.t 91),(.t 92)]⟩])
 (.seq (.region false [⟨none,(some 94),.mov (.t 0)⟩,
  ⟨none,(some 6),.mov (.t 94)⟩])
 .ret))))))))))))
 ntmps:=95
 res:=[.tmp 6]
theorem zz37:zsjc P Try.f15=some a15:=by kernel_rfl
def a6:AFn where
 code:=(.seq (.region false [⟨none,(some 6),.box (.t 2)⟩,
  ⟨none,(some 8),.mov (.k .nils)⟩])
 (.seq (.region false [⟨none,(some 14),.mov (.t 0)⟩,
  ⟨none,(some 15),.mov (.t 1)⟩,
  ⟨none,(some 16),.load 32 true (.t 6)⟩,
  ⟨none,(some 17),.call (.k (.fn (.func 13) [] [])) [(.t 14),(.t 15),(.t 16)]⟩,
  ⟨none,(some 13),.mov (.t 17)⟩,
  ⟨none,(some 18),.ext (.t 13) 0⟩,
  ⟨none,(some 19),.ext (.t 13) 1⟩,
  ⟨none,(some 9),.mov (.t 18)⟩,
  ⟨none,(some 10),.mov (.t 19)⟩])
 (.seq (.region false [⟨none,(some 20),.mov (.t 0)⟩,
  ⟨none,(some 21),.call (.k (.fn (.func 14) [] [])) [(.t 20)]⟩,
  ⟨none,(some 11),.mov (.t 21)⟩])
 (.seq (.seq (.region false [⟨none,(some 22),.mov (.t 10)⟩,
  ⟨none,(some 23),.un .not (.t 22)⟩])
 (.cond (.t 23) (.region false [⟨none,(some 24),.mov (.t 11)⟩,
  ⟨none,(some 25),.mov (.t 9)⟩,
  ⟨none,(some 26),.mov (.t 1)⟩,
  ⟨none,(some 27),.load 32 true (.t 6)⟩,
  ⟨none,(some 28),.build [(.int .i64 0),(w8 0#8),(w8 0#8),(w8 0#8),(w8 0#8),(w8 0#8),(w8 0#8),(w8 0#8),(w8 0#8),(w8 0#8),(w8 0#8),(w8 0#8),(w8 0#8),(w8 0#8),(w8 0#8),(w8 0#8),(w8 0#8),(w8 0#8),(w8 0#8),(w8 0#8),(w8 0#8),(w8 0#8),(w8 0#8),(w8 0#8),(w8 0#8),(w8 0#8),(w8 0#8),(w8 0#8),(w8 0#8),(w8 0#8),(w8 0#8),(w8 0#8),(w8 0#8),(.int .i64 0),(.int .i64 0)] [(0,1,(.t 26)),(1,32,(.t 27))]⟩,
  ⟨none,(some 29),.bsl 35 1 [(.int .i64 0),(w8 0#8),(w8 0#8),(w8 0#8),(w8 0#8),(w8 0#8),(w8 0#8),(w8 0#8),(w8 0#8),(w8 0#8),(w8 0#8),(w8 0#8),(w8 0#8),(w8 0#8),(w8 0#8),(w8 0#8),(w8 0#8),(w8 0#8),(w8 0#8),(w8 0#8),(w8 0#8),(w8 0#8),(w8 0#8),(w8 0#8),(w8 0#8),(w8 0#8),(w8 0#8),(w8 0#8),(w8 0#8),(w8 0#8),(w8 0#8),(w8 0#8),(w8 0#8),(.int .i64 0),(.int .i64 0)] [(0,35,(.t 28))]⟩,
  ⟨none,(some 30),.call (.k (.fn (.func 15) [] [])) [(.t 24),(.t 25),(.t 29)]⟩,
  ⟨none,(some 11),.mov (.t 30)⟩])
 .skip))
 (.seq (.region false [⟨none,(some 31),.mov (.t 11)⟩,
  ⟨none,(some 32),.mov (.t 9)⟩,
  ⟨none,(some 33),.idxS 35 (.t 31) (.t 32)⟩,
  ⟨none,(some 12),.mov (.t 33)⟩])
 (.seq (.region false [⟨none,(some 34),.mov (.t 12)⟩,
  ⟨none,(some 35),.mov (.t 12)⟩,
  ⟨none,(some 36),.nilc (.t 35)⟩,
  ⟨none,(some 37),.fld 33 (.t 36)⟩,
  ⟨none,(some 38),.load 1 false (.t 37)⟩,
  ⟨none,(some 39),.bin .add (.t 38) (.k (.int .i64 1))⟩,
  ⟨none,(some 40),.mm false [(.t 39),(.k (.int .i64 16))]⟩,
  ⟨none,(some 41),.nilc (.t 34)⟩,
  ⟨none,(some 42),.fld 33 (.t 41)⟩,
  ⟨none,none,.store 1 (.t 42) (.t 40)⟩])
 (.seq (.region false [⟨none,(some 43),.mov (.t 12)⟩,
  ⟨none,(some 44),.mov (.t 3)⟩,
  ⟨none,(some 45),.mov (.t 12)⟩,
  ⟨none,(some 46),.nilc (.t 45)⟩,
  ⟨none,(some 47),.fld 33 (.t 46)⟩,
  ⟨none,(some 48),.load 1 false (.t 47)⟩,
  ⟨none,(some 49),.bin .shl (.k (.int .i64 1)) (.t 48)⟩,
  ⟨none,(some 50),.bin .add (.t 44) (.t 49)⟩,
  ⟨none,(some 51),.mm false [(.t 50),(.k (.int .i64 1099511627776))]⟩,
  ⟨none,(some 52),.nilc (.t 43)⟩,
  ⟨none,(some 53),.fld 34 (.t 52)⟩,
  ⟨none,none,.store 1 (.t 53) (.t 51)⟩])
 (.seq (.region false [⟨none,(some 54),.mov (.t 11)⟩,
  ⟨none,(some 8),.mov (.t 54)⟩])
 .ret))))))))
 ntmps:=55
 res:=[.tmp 8]
theorem zc7x:zsjc P Try.f6=some a6:=by kernel_rfl
def a38:AFn where
 code:=(.seq (.region false [⟨none,(some 3),.box (.t 0)⟩,
  ⟨none,(some 4),.mov (.k (.bool false))⟩])
 (.seq (.region false [⟨none,(some 5),.fld 0 (.t 3)⟩,
  ⟨none,(some 6),.load 1 false (.t 5)⟩,
  ⟨none,(some 7),.load 1 false (.t 1)⟩,
  ⟨none,(some 8),.bin .eql (.t 6) (.t 7)⟩,
  ⟨none,(some 9),.mov (.t 8)⟩,
  ⟨(some (9,true)),(some 10),.fld 1 (.t 3)⟩,
  ⟨(some (9,true)),(some 11),.load 32 true (.t 10)⟩,
  ⟨(some (9,true)),(some 12),.load 32 true (.t 2)⟩,
  ⟨(some (9,true)),(some 13),.eqa false [(32,0)] (.t 11) (.t 12)⟩,
  ⟨none,(some 14),.pick (.t 9) (.t 13) (.k (.bool false))⟩,
  ⟨none,(some 4),.mov (.t 14)⟩])
 .ret))
 ntmps:=15
 res:=[.tmp 4]
theorem zclx:zsjc P Try.f38=some a38:=by kernel_rfl
def z1dk:ACode :=
 (.seq (.region false [⟨none,(some 9),.bin .lss (.t 8) (.t 7)⟩])
 (.seq (.cond (.t 9) .skip
 (.exit 0))
 (.seq (.block 1 (.seq (.region false [⟨none,(some 10),.mov (.t 8)⟩,
  ⟨none,(some 5),.mov (.t 10)⟩])
 (.seq (.region false [⟨none,(some 11),.mov (.t 1)⟩,
  ⟨none,(some 12),.mov (.t 0)⟩,
  ⟨none,(some 13),.mov (.t 5)⟩,
  ⟨none,(some 14),.idxS 35 (.t 12) (.t 13)⟩,
  ⟨none,(some 15),.load 35 true (.t 14)⟩,
  ⟨none,(some 16),.call (.t 11) [(.t 15)]⟩])
 (.cond (.t 16) (.seq (.region false [⟨none,(some 17),.mov (.t 5)⟩,
  ⟨none,(some 4),.mov (.t 17)⟩])
 .ret)
 .skip))))
 (.region false [⟨none,(some 18),.bin .add (.t 8) (.k (.int .i64 1))⟩,
  ⟨none,(some 8),.mov (.t 18)⟩]))))
def a62:AFn where
 code:=(.seq (.region false [⟨none,(some 4),.mov (.k (.int .i64 0))⟩])
 (.seq (.seq (.region false [⟨none,(some 6),.mov (.t 0)⟩,
  ⟨none,(some 7),.len (.t 6)⟩,
  ⟨none,(some 8),.mov (.k (.int .i64 0))⟩])
 (.block 0 (.loop z1dk)))
 (.seq (.region false [⟨none,(some 4),.mov (.k (.int .i64 (-1)))⟩])
 .ret)))
 ntmps:=19
 res:=[.tmp 4]
theorem z0i3:zsjc P Try.f62=some a62:=by kernel_rfl
def z01n:ACode :=
 (.seq (.seq (.region false [⟨none,(some 16),.mov (.t 6)⟩,
  ⟨none,(some 17),.mov (.t 0)⟩,
  ⟨none,(some 18),.len (.t 17)⟩,
  ⟨none,(some 19),.bin .lss (.t 16) (.t 18)⟩])
 (.cond (.t 19) .skip
 (.exit 0)))
 (.seq (.block 1 (.seq (.region false [⟨none,(some 22),.mov (.t 0)⟩,
  ⟨none,(some 23),.mov (.t 6)⟩,
  ⟨none,(some 24),.idxS 35 (.t 22) (.t 23)⟩,
  ⟨none,(some 25),.load 35 true (.t 24)⟩,
  ⟨none,(some 7),.alloc [(.int .i64 0),(w8 0#8),(w8 0#8),(w8 0#8),(w8 0#8),(w8 0#8),(w8 0#8),(w8 0#8),(w8 0#8),(w8 0#8),(w8 0#8),(w8 0#8),(w8 0#8),(w8 0#8),(w8 0#8),(w8 0#8),(w8 0#8),(w8 0#8),(w8 0#8),(w8 0#8),(w8 0#8),(w8 0#8),(w8 0#8),(w8 0#8),(w8 0#8),(w8 0#8),(w8 0#8),(w8 0#8),(w8 0#8),(w8 0#8),(w8 0#8),(w8 0#8),(w8 0#8),(.int .i64 0),(.int .i64 0)]⟩,
  ⟨none,none,.store 35 (.t 7) (.t 25)⟩])
 (.seq (.region false [⟨none,(some 26),.mov (.t 1)⟩,
  ⟨none,(some 27),.load 35 true (.t 7)⟩,
  ⟨none,(some 28),.call (.t 26) [(.t 27)]⟩,
  ⟨none,(some 29),.un .not (.t 28)⟩])
 (.cond (.t 29) (.seq (.region false [⟨none,(some 30),.mov (.t 0)⟩,
  ⟨none,(some 31),.mov (.t 5)⟩,
  ⟨none,(some 32),.load 35 true (.t 7)⟩,
  ⟨none,(some 33),.idxS 35 (.t 30) (.t 31)⟩,
  ⟨none,none,.store 35 (.t 33) (.t 32)⟩])
 (.region false [⟨none,(some 34),.mov (.t 5)⟩,
  ⟨none,(some 35),.bin .add (.t 34) (.k (.int .i64 1))⟩,
  ⟨none,(some 5),.mov (.t 35)⟩]))
 .skip))))
 (.region false [⟨none,(some 20),.mov (.t 6)⟩,
  ⟨none,(some 21),.bin .add (.t 20) (.k (.int .i64 1))⟩,
  ⟨none,(some 6),.mov (.t 21)⟩])))
def a37:AFn where
 code:=(.seq (.region false [⟨none,(some 4),.mov (.k .nils)⟩])
 (.seq (.region false [⟨none,(some 8),.mov (.t 0)⟩,
  ⟨none,(some 9),.mov (.t 1)⟩,
  ⟨none,(some 10),.call (.k (.fn (.func 62) [] [])) [(.t 8),(.t 9)]⟩,
  ⟨none,(some 5),.mov (.t 10)⟩])
 (.seq (.seq (.region false [⟨none,(some 11),.mov (.t 5)⟩,
  ⟨none,(some 12),.bin .eql (.t 11) (.k (.int .i64 (-1)))⟩])
 (.cond (.t 12) (.seq (.region false [⟨none,(some 13),.mov (.t 0)⟩,
  ⟨none,(some 4),.mov (.t 13)⟩])
 .ret)
 .skip))
 (.seq (.seq (.region false [⟨none,(some 14),.mov (.t 5)⟩,
  ⟨none,(some 15),.bin .add (.t 14) (.k (.int .i64 1))⟩,
  ⟨none,(some 6),.mov (.t 15)⟩])
 (.block 0 (.loop z01n)))
 (.seq (.region false [⟨none,(some 36),.mov (.t 0)⟩,
  ⟨none,(some 37),.mov (.t 5)⟩,
  ⟨none,(some 38),.slcS 35 (.t 36) (some (.t 37)) none none⟩,
  ⟨none,none,.clr 35 [(.int .i64 0),(w8 0#8),(w8 0#8),(w8 0#8),(w8 0#8),(w8 0#8),(w8 0#8),(w8 0#8),(w8 0#8),(w8 0#8),(w8 0#8),(w8 0#8),(w8 0#8),(w8 0#8),(w8 0#8),(w8 0#8),(w8 0#8),(w8 0#8),(w8 0#8),(w8 0#8),(w8 0#8),(w8 0#8),(w8 0#8),(w8 0#8),(w8 0#8),(w8 0#8),(w8 0#8),(w8 0#8),(w8 0#8),(w8 0#8),(w8 0#8),(w8 0#8),(w8 0#8),(.int .i64 0),(.int .i64 0)] (.t 38)⟩])
 (.seq (.region false [⟨none,(some 39),.mov (.t 0)⟩,
  ⟨none,(some 40),.mov (.t 5)⟩,
  ⟨none,(some 41),.slcS 35 (.t 39) none (some (.t 40)) none⟩,
  ⟨none,(some 4),.mov (.t 41)⟩])
 .ret))))))
 ntmps:=42
 res:=[.tmp 4]
theorem z554:zsjc P Try.f37=some a37:=by kernel_rfl
def a17:AFn where
 code:=(.seq (.region false [⟨none,(some 4),.box (.t 1)⟩,
  ⟨none,(some 5),.box (.t 2)⟩,
  ⟨none,(some 6),.mov (.k .nils)⟩])
 (.seq (.region false [⟨none,(some 7),.mov (.t 0)⟩,
  ⟨none,(some 8),.call (.k (.fn (.func 14) [] [])) [(.t 7)]⟩,
  ⟨none,(some 9),.mkf (.func 38) [] [(.t 4),(.t 5)]⟩,
  ⟨none,(some 10),.call (.k (.fn (.func 37) [] [])) [(.t 8),(.t 9)]⟩,
  ⟨none,(some 6),.mov (.t 10)⟩])
 .ret))
 ntmps:=11
 res:=[.tmp 6]
theorem zcaf:zsjc P Try.f17=some a17:=by kernel_rfl
def a39:AFn where
 code:=(.seq (.region false [⟨none,(some 3),.box (.t 0)⟩,
  ⟨none,(some 4),.mov (.k (.bool false))⟩])
 (.seq (.region false [⟨none,(some 5),.fld 0 (.t 3)⟩,
  ⟨none,(some 6),.load 1 false (.t 5)⟩,
  ⟨none,(some 7),.load 1 false (.t 1)⟩,
  ⟨none,(some 8),.bin .eql (.t 6) (.t 7)⟩,
  ⟨none,(some 9),.mov (.t 8)⟩,
  ⟨(some (9,true)),(some 10),.load 1 false (.t 2)⟩,
  ⟨(some (9,true)),(some 11),.fld 1 (.t 3)⟩,
  ⟨(some (9,true)),(some 12),.load 32 true (.t 11)⟩,
  ⟨(some (9,true)),(some 13),.call (.k (.fn (.func 40) [] [])) [(.t 10),(.t 12)]⟩,
  ⟨(some (9,true)),(some 14),.un .not (.t 13)⟩,
  ⟨none,(some 15),.pick (.t 9) (.t 14) (.k (.bool false))⟩,
  ⟨none,(some 4),.mov (.t 15)⟩])
 .ret))
 ntmps:=16
 res:=[.tmp 4]
theorem zjwo:zsjc P Try.f39=some a39:=by kernel_rfl
def a18:AFn where
 code:=(.seq (.region false [⟨none,(some 4),.box (.t 1)⟩,
  ⟨none,(some 5),.box (.t 2)⟩,
  ⟨none,(some 6),.mov (.k .nils)⟩])
 (.seq (.region false [⟨none,(some 7),.mov (.t 0)⟩,
  ⟨none,(some 8),.call (.k (.fn (.func 14) [] [])) [(.t 7)]⟩,
  ⟨none,(some 9),.mkf (.func 39) [] [(.t 4),(.t 5)]⟩,
  ⟨none,(some 10),.call (.k (.fn (.func 37) [] [])) [(.t 8),(.t 9)]⟩,
  ⟨none,(some 6),.mov (.t 10)⟩])
 .ret))
 ntmps:=11
 res:=[.tmp 6]
theorem zt5q:zsjc P Try.f18=some a18:=by kernel_rfl
def zocj:ACode :=
 (.seq (.seq (.region false [⟨none,(some 15),.mov (.t 9)⟩,
  ⟨none,(some 16),.mov (.t 10)⟩,
  ⟨none,(some 17),.bin .lss (.t 15) (.t 16)⟩])
 (.cond (.t 17) .skip
 (.exit 0)))
 (.block 1 (.seq (.region false [⟨none,(some 18),.mov (.t 9)⟩,
  ⟨none,(some 19),.mov (.t 10)⟩,
  ⟨none,(some 20),.bin .add (.t 18) (.t 19)⟩,
  ⟨none,(some 21),.conv .u64 (.t 20)⟩,
  ⟨none,(some 22),.bin .shr (.t 21) (.k (w64 1#64))⟩,
  ⟨none,(some 23),.conv .i64 (.t 22)⟩,
  ⟨none,(some 11),.mov (.t 23)⟩])
 (.seq (.region true [⟨none,(some 24),.mov (.t 2)⟩,
  ⟨none,(some 25),.mov (.t 0)⟩,
  ⟨none,(some 26),.mov (.t 11)⟩,
  ⟨none,(some 27),.idxS 105 (.t 25) (.t 26)⟩,
  ⟨none,(some 28),.load 105 true (.t 27)⟩,
  ⟨none,(some 29),.load 34 true (.t 4)⟩,
  ⟨none,(some 30),.callE (.t 24) [(.t 28),(.t 29)]⟩,
  ⟨none,(some 31),.bin .lss (.t 30) (.k (.int .i64 0))⟩])
 (.cond (.t 31) (.region false [⟨none,(some 32),.mov (.t 11)⟩,
  ⟨none,(some 33),.bin .add (.t 32) (.k (.int .i64 1))⟩,
  ⟨none,(some 9),.mov (.t 33)⟩])
 (.region false [⟨none,(some 34),.mov (.t 11)⟩,
  ⟨none,(some 10),.mov (.t 34)⟩]))))))
def a111:AFn where
 code:=(.seq (.region false [⟨none,(some 4),.box (.t 1)⟩,
  ⟨none,(some 6),.mov (.k (.int .i64 0))⟩,
  ⟨none,(some 7),.mov (.k (.bool false))⟩])
 (.seq (.region false [⟨none,(some 12),.mov (.t 0)⟩,
  ⟨none,(some 13),.len (.t 12)⟩,
  ⟨none,(some 8),.mov (.t 13)⟩])
 (.seq (.region false [⟨none,(some 14),.mov (.t 8)⟩,
  ⟨none,(some 9),.mov (.k (.int .i64 0))⟩,
  ⟨none,(some 10),.mov (.t 14)⟩])
 (.seq (.block 0 (.loop zocj))
 (.seq (.region true [⟨none,(some 35),.mov (.t 9)⟩,
  ⟨none,(some 36),.mov (.t 9)⟩,
  ⟨none,(some 37),.mov (.t 8)⟩,
  ⟨none,(some 38),.bin .lss (.t 36) (.t 37)⟩,
  ⟨none,(some 39),.mov (.t 38)⟩,
  ⟨(some (39,true)),(some 40),.mov (.t 2)⟩,
  ⟨(some (39,true)),(some 41),.mov (.t 0)⟩,
  ⟨(some (39,true)),(some 42),.mov (.t 9)⟩,
  ⟨(some (39,true)),(some 43),.idxS 105 (.t 41) (.t 42)⟩,
  ⟨(some (39,true)),(some 44),.load 105 true (.t 43)⟩,
  ⟨(some (39,true)),(some 45),.load 34 true (.t 4)⟩,
  ⟨(some (39,true)),(some 46),.callE (.t 40) [(.t 44),(.t 45)]⟩,
  ⟨(some (39,true)),(some 47),.bin .eql (.t 46) (.k (.int .i64 0))⟩,
  ⟨none,(some 48),.pick (.t 39) (.t 47) (.k (.bool false))⟩,
  ⟨none,(some 6),.mov (.t 35)⟩,
  ⟨none,(some 7),.mov (.t 48)⟩])
 .ret)))))
 ntmps:=49
 res:=[.tmp 6,.tmp 7]
theorem zmlq:zsjc P Try.f111=some a111:=by kernel_rfl
def a112:AFn where
 code:=(.seq (.region false [⟨none,(some 2),.box (.t 0)⟩,
  ⟨none,(some 3),.box (.t 1)⟩,
  ⟨none,(some 4),.mov (.k (.int .i64 0))⟩])
 (.seq (.region false [⟨none,(some 5),.fld 0 (.t 2)⟩,
  ⟨none,(some 6),.load 34 true (.t 5)⟩,
  ⟨none,(some 7),.load 34 true (.t 3)⟩,
  ⟨none,(some 8),.call (.k (.fn (.func 113) [] [])) [(.t 6),(.t 7)]⟩,
  ⟨none,(some 4),.mov (.t 8)⟩])
 .ret))
 ntmps:=9
 res:=[.tmp 4]
theorem zhnv:zsjc P Try.f112=some a112:=by kernel_rfl
def a113:AFn where
 code:=(.seq (.region false [⟨none,(some 2),.box (.t 0)⟩,
  ⟨none,(some 3),.box (.t 1)⟩,
  ⟨none,(some 4),.mov (.k (.int .i64 0))⟩])
 (.seq (.region true [⟨none,(some 5),.fld 0 (.t 2)⟩,
  ⟨none,(some 6),.load 1 false (.t 5)⟩,
  ⟨none,(some 7),.fld 0 (.t 3)⟩,
  ⟨none,(some 8),.load 1 false (.t 7)⟩,
  ⟨none,(some 10),.fld 1 (.t 2)⟩,
  ⟨none,(some 11),.load 1 false (.t 10)⟩,
  ⟨none,(some 12),.fld 1 (.t 3)⟩,
  ⟨none,(some 13),.load 1 false (.t 12)⟩,
  ⟨none,(some 15),.fld 2 (.t 2)⟩,
  ⟨none,(some 16),.slcA 32 1 (.t 15) none none⟩,
  ⟨none,(some 17),.fld 2 (.t 3)⟩,
  ⟨none,(some 18),.slcA 32 1 (.t 17) none none⟩,
  ⟨none,(some 9),.callN (.k (.fn (.func 115) [] [])) [(.t 6),(.t 8)]⟩,
  ⟨none,(some 14),.callN (.k (.fn (.func 115) [] [])) [(.t 11),(.t 13)]⟩,
  ⟨none,(some 19),.callN (.k (.fn (.func 30) [] [])) [(.t 16),(.t 18)]⟩,
  ⟨none,(some 20),.bsl 1 3 [(.int .i64 0)] [(0,1,(.t 9)),(1,1,(.t 14)),(2,1,(.t 19))]⟩,
  ⟨none,(some 21),.callN (.k (.fn (.func 28) [] [])) [(.t 20)]⟩,
  ⟨none,(some 4),.mov (.t 21)⟩])
 .ret))
 ntmps:=22
 res:=[.tmp 4]
theorem zz1e:zsjc P Try.f113=some a113:=by kernel_rfl
def a115:AFn where
 code:=(.seq (.region false [⟨none,(some 4),.mov (.k (.int .i64 0))⟩])
 (.seq (.region false [⟨none,(some 7),.mov (.t 0)⟩,
  ⟨none,(some 8),.call (.k (.fn (.func 116) [] [])) [(.t 7)]⟩,
  ⟨none,(some 5),.mov (.t 8)⟩])
 (.seq (.region false [⟨none,(some 9),.mov (.t 1)⟩,
  ⟨none,(some 10),.call (.k (.fn (.func 116) [] [])) [(.t 9)]⟩,
  ⟨none,(some 6),.mov (.t 10)⟩])
 (.seq (.seq (.region false [⟨none,(some 11),.mov (.t 5)⟩])
 (.cond (.t 11) (.seq (.seq (.region false [⟨none,(some 12),.mov (.t 6)⟩])
 (.cond (.t 12) (.seq (.region false [⟨none,(some 4),.mov (.k (.int .i64 0))⟩])
 .ret)
 .skip))
 (.seq (.region false [⟨none,(some 4),.mov (.k (.int .i64 (-1)))⟩])
 .ret))
 .skip))
 (.seq (.seq (.region false [⟨none,(some 13),.mov (.t 6)⟩])
 (.cond (.t 13) (.seq (.region false [⟨none,(some 4),.mov (.k (.int .i64 1))⟩])
 .ret)
 .skip))
 (.seq (.seq (.region false [⟨none,(some 14),.mov (.t 0)⟩,
  ⟨none,(some 15),.mov (.t 1)⟩,
  ⟨none,(some 16),.bin .lss (.t 14) (.t 15)⟩])
 (.cond (.t 16) (.seq (.region false [⟨none,(some 4),.mov (.k (.int .i64 (-1)))⟩])
 .ret)
 .skip))
 (.seq (.seq (.region false [⟨none,(some 17),.mov (.t 0)⟩,
  ⟨none,(some 18),.mov (.t 1)⟩,
  ⟨none,(some 19),.bin .gtr (.t 17) (.t 18)⟩])
 (.cond (.t 19) (.seq (.region false [⟨none,(some 4),.mov (.k (.int .i64 1))⟩])
 .ret)
 .skip))
 (.seq (.region false [⟨none,(some 4),.mov (.k (.int .i64 0))⟩])
 .ret))))))))
 ntmps:=20
 res:=[.tmp 4]
theorem zv17:zsjc P Try.f115=some a115:=by kernel_rfl
def a116:AFn where
 code:=(.seq (.region false [⟨none,(some 2),.mov (.k (.bool false))⟩])
 (.seq (.region false [⟨none,(some 3),.mov (.t 0)⟩,
  ⟨none,(some 4),.mov (.t 0)⟩,
  ⟨none,(some 5),.bin .neq (.t 3) (.t 4)⟩,
  ⟨none,(some 2),.mov (.t 5)⟩])
 .ret))
 ntmps:=6
 res:=[.tmp 2]
theorem z3rp:zsjc P Try.f116=some a116:=by kernel_rfl
def a106:AFn where
 code:=(.seq (.region false [⟨none,(some 2),.box (.t 0)⟩,
  ⟨none,(some 3),.box (.t 1)⟩,
  ⟨none,(some 4),.mov (.k (.int .i64 0))⟩,
  ⟨none,(some 5),.mov (.k (.bool false))⟩])
 (.seq (.region false [⟨none,(some 6),.fld 1 (.t 2)⟩,
  ⟨none,(some 7),.load 1 false (.t 6)⟩,
  ⟨none,(some 8),.load 34 true (.t 3)⟩,
  ⟨none,(some 9),.call (.k (.fn (.func 111) [] [])) [(.t 7),(.t 8),(.k (.fn (.func 112) [] []))]⟩,
  ⟨none,(some 10),.ext (.t 9) 0⟩,
  ⟨none,(some 11),.ext (.t 9) 1⟩,
  ⟨none,(some 4),.mov (.t 10)⟩,
  ⟨none,(some 5),.mov (.t 11)⟩])
 .ret))
 ntmps:=12
 res:=[.tmp 4,.tmp 5]
theorem zex6:zsjc P Try.f106=some a106:=by kernel_rfl
def a97:AFn where
 code:=(.seq (.region false [⟨none,(some 2),.box (.t 0)⟩,
  ⟨none,(some 3),.box (.t 1)⟩,
  ⟨none,(some 4),.mov (.k (.bool false))⟩])
 (.seq (.region false [⟨none,(some 8),.load 2 true (.t 2)⟩,
  ⟨none,(some 9),.load 34 true (.t 3)⟩,
  ⟨none,(some 10),.call (.k (.fn (.func 106) [] [])) [(.t 8),(.t 9)]⟩,
  ⟨none,(some 7),.mov (.t 10)⟩,
  ⟨none,(some 11),.ext (.t 7) 0⟩,
  ⟨none,(some 12),.ext (.t 7) 1⟩,
  ⟨none,(some 5),.mov (.t 11)⟩,
  ⟨none,(some 6),.mov (.t 12)⟩])
 (.seq (.region false [⟨none,(some 13),.mov (.t 6)⟩,
  ⟨none,(some 14),.mov (.t 13)⟩,
  ⟨(some (14,true)),(some 15),.fld 1 (.t 2)⟩,
  ⟨(some (14,true)),(some 16),.load 1 false (.t 15)⟩,
  ⟨(some (14,true)),(some 17),.mov (.t 5)⟩,
  ⟨(some (14,true)),(some 18),.idxS 105 (.t 16) (.t 17)⟩,
  ⟨(some (14,true)),(some 19),.fld 34 (.t 18)⟩,
  ⟨(some (14,true)),(some 20),.fld 0 (.t 19)⟩,
  ⟨(some (14,true)),(some 21),.load 1 false (.t 20)⟩,
  ⟨none,(some 22),.pick (.t 14) (.t 21) (.k (.bool false))⟩,
  ⟨none,(some 4),.mov (.t 22)⟩])
 .ret)))
 ntmps:=23
 res:=[.tmp 4]
theorem z0a8:zsjc P Try.f97=some a97:=by kernel_rfl
def z7q2:ACode :=
 (.seq (.region false [⟨none,(some 36),.bin .lss (.t 35) (.t 34)⟩])
 (.seq (.cond (.t 36) .skip
 (.exit 0))
 (.seq (.block 1 (.seq (.region false [⟨none,(some 37),.idxS 32 (.t 33) (.t 35)⟩,
  ⟨none,(some 38),.load 32 true (.t 37)⟩,
  ⟨none,(some 14),.alloc (rep 32 (w8 0#8))⟩,
  ⟨none,none,.store 32 (.t 14) (.t 38)⟩])
 (.seq (.region false [⟨none,(some 40),.mov (.t 2)⟩,
  ⟨none,(some 41),.mov (.t 3)⟩,
  ⟨none,(some 42),.load 32 true (.t 14)⟩,
  ⟨none,(some 43),.call (.k (.fn (.func 13) [] [])) [(.t 40),(.t 41),(.t 42)]⟩,
  ⟨none,(some 39),.mov (.t 43)⟩,
  ⟨none,(some 44),.ext (.t 39) 0⟩,
  ⟨none,(some 45),.ext (.t 39) 1⟩,
  ⟨none,(some 15),.mov (.t 44)⟩,
  ⟨none,(some 16),.mov (.t 45)⟩])
 (.seq (.seq (.region false [⟨none,(some 46),.mov (.t 16)⟩,
  ⟨none,(some 47),.mov (.t 46)⟩,
  ⟨(some (47,true)),(some 48),.mov (.t 2)⟩,
  ⟨(some (47,true)),(some 49),.mov (.t 15)⟩,
  ⟨(some (47,true)),(some 50),.idxS 35 (.t 48) (.t 49)⟩,
  ⟨(some (47,true)),(some 51),.fld 34 (.t 50)⟩,
  ⟨(some (47,true)),(some 52),.load 1 false (.t 51)⟩,
  ⟨(some (47,true)),(some 53),.mov (.t 4)⟩,
  ⟨(some (47,true)),(some 54),.bin .gtr (.t 52) (.t 53)⟩,
  ⟨none,(some 55),.pick (.t 47) (.t 54) (.k (.bool false))⟩])
 (.cond (.t 55) (.exit 1)
 .skip))
 (.seq (.region false [⟨none,(some 56),.load 2 true (.t 6)⟩,
  ⟨none,(some 57),.fld 0 (.t 12)⟩,
  ⟨none,(some 58),.load 1 false (.t 57)⟩,
  ⟨none,(some 59),.fld 1 (.t 12)⟩,
  ⟨none,(some 60),.load 1 false (.t 59)⟩,
  ⟨none,(some 61),.load 32 true (.t 14)⟩,
  ⟨none,(some 62),.build [(.str []),(.str []),(w8 0#8),(w8 0#8),(w8 0#8),(w8 0#8),(w8 0#8),(w8 0#8),(w8 0#8),(w8 0#8),(w8 0#8),(w8 0#8),(w8 0#8),(w8 0#8),(w8 0#8),(w8 0#8),(w8 0#8),(w8 0#8),(w8 0#8),(w8 0#8),(w8 0#8),(w8 0#8),(w8 0#8),(w8 0#8),(w8 0#8),(w8 0#8),(w8 0#8),(w8 0#8),(w8 0#8),(w8 0#8),(w8 0#8),(w8 0#8),(w8 0#8),(w8 0#8)] [(0,1,(.t 58)),(1,1,(.t 60)),(2,32,(.t 61))]⟩,
  ⟨none,(some 63),.call (.k (.fn (.func 97) [] [])) [(.t 56),(.t 62)]⟩])
 (.cond (.t 63) (.seq (.region false [⟨none,(some 64),.load 32 true (.t 14)⟩,
  ⟨none,none,.store 32 (.t 10) (.t 64)⟩,
  ⟨none,(some 11),.mov (.k (.bool true))⟩])
 .ret)
 .skip))))))
 (.region false [⟨none,(some 65),.bin .add (.t 35) (.k (.int .i64 1))⟩,
  ⟨none,(some 35),.mov (.t 65)⟩]))))
def a85:AFn where
 code:=(.seq (.region false [⟨none,(some 5),.box (.t 0)⟩,
  ⟨none,(some 6),.box (.t 1)⟩,
  ⟨none,(some 10),.alloc (rep 32 (w8 0#8))⟩,
  ⟨none,(some 11),.mov (.k (.bool false))⟩])
 (.seq (.seq (.region false [⟨none,(some 17),.mov (.t 3)⟩,
  ⟨none,(some 18),.bin .lss (.t 17) (.k (.int .i64 0))⟩,
  ⟨none,(some 19),.mov (.t 18)⟩,
  ⟨(some (19,false)),(some 20),.mov (.t 3)⟩,
  ⟨(some (19,false)),(some 21),.fld 0 (.t 5)⟩,
  ⟨(some (19,false)),(some 22),.load 1 false (.t 21)⟩,
  ⟨(some (19,false)),(some 23),.len (.t 22)⟩,
  ⟨(some (19,false)),(some 24),.bin .geq (.t 20) (.t 23)⟩,
  ⟨none,(some 25),.pick (.t 19) (.k (.bool true)) (.t 24)⟩])
 (.cond (.t 25) (.seq (.region false [⟨none,(some 26),.build (rep 32 (w8 0#8)) []⟩,
  ⟨none,none,.store 32 (.t 10) (.t 26)⟩,
  ⟨none,(some 11),.mov (.k (.bool false))⟩])
 .ret)
 .skip))
 (.seq (.region false [⟨none,(some 27),.fld 0 (.t 5)⟩,
  ⟨none,(some 28),.load 1 false (.t 27)⟩,
  ⟨none,(some 29),.mov (.t 3)⟩,
  ⟨none,(some 30),.idxS 6 (.t 28) (.t 29)⟩,
  ⟨none,(some 31),.load 6 true (.t 30)⟩,
  ⟨none,(some 12),.alloc [(.str []),(.str []),(.int .i64 0),(.int .i64 0),(.int .i64 0),.nils]⟩,
  ⟨none,none,.store 6 (.t 12) (.t 31)⟩])
 (.seq (.seq (.region false [⟨none,(some 32),.fld 5 (.t 12)⟩,
  ⟨none,(some 33),.load 1 false (.t 32)⟩,
  ⟨none,(some 34),.len (.t 33)⟩,
  ⟨none,(some 35),.mov (.k (.int .i64 0))⟩])
 (.block 0 (.loop z7q2)))
 (.seq (.region false [⟨none,(some 66),.build (rep 32 (w8 0#8)) []⟩,
  ⟨none,none,.store 32 (.t 10) (.t 66)⟩,
  ⟨none,(some 11),.mov (.k (.bool false))⟩])
 .ret)))))
 ntmps:=67
 res:=[.cell 10 32 true,.tmp 11]
theorem zu0j:zsjc P Try.f85=some a85:=by kernel_rfl
def zcr2:ACode :=
 (.seq (.region false [⟨none,(some 16),.bin .lss (.t 15) (.t 14)⟩])
 (.seq (.cond (.t 16) .skip
 (.exit 0))
 (.seq (.block 1 (.seq (.region false [⟨none,(some 17),.mov (.t 15)⟩,
  ⟨none,(some 3),.mov (.t 17)⟩])
 (.region true [⟨none,(some 18),.fld 0 (.t 1)⟩,
  ⟨none,(some 19),.load 1 false (.t 18)⟩,
  ⟨none,(some 20),.mov (.t 3)⟩,
  ⟨none,(some 21),.fld 0 (.t 1)⟩,
  ⟨none,(some 22),.load 1 false (.t 21)⟩,
  ⟨none,(some 23),.mov (.t 3)⟩,
  ⟨none,(some 24),.idxS 6 (.t 22) (.t 23)⟩,
  ⟨none,(some 25),.fld 5 (.t 24)⟩,
  ⟨none,(some 26),.load 1 false (.t 25)⟩,
  ⟨none,(some 27),.callN (.k (.fn (.func 52) [] [])) [(.t 26)]⟩,
  ⟨none,(some 28),.idxS 6 (.t 19) (.t 20)⟩,
  ⟨none,(some 29),.fld 5 (.t 28)⟩,
  ⟨none,none,.store 1 (.t 29) (.t 27)⟩])))
 (.region false [⟨none,(some 30),.bin .add (.t 15) (.k (.int .i64 1))⟩,
  ⟨none,(some 15),.mov (.t 30)⟩]))))
def a33:AFn where
 code:=(.seq (.region false [⟨none,(some 1),.box (.t 0)⟩,
  ⟨none,(some 2),.alloc [.nils,.nils,(.int .i64 0)]⟩])
 (.seq (.region true [⟨none,(some 4),.fld 0 (.t 1)⟩,
  ⟨none,(some 5),.load 1 false (.t 4)⟩,
  ⟨none,(some 7),.fld 1 (.t 1)⟩,
  ⟨none,(some 8),.load 1 false (.t 7)⟩,
  ⟨none,(some 6),.callN (.k (.fn (.func 50) [] [])) [(.t 5)]⟩,
  ⟨none,(some 10),.fld 0 (.t 1)⟩,
  ⟨none,(some 9),.callN (.k (.fn (.func 51) [] [])) [(.t 8)]⟩,
  ⟨none,none,.store 1 (.t 10) (.t 6)⟩,
  ⟨none,(some 11),.fld 1 (.t 1)⟩,
  ⟨none,none,.store 1 (.t 11) (.t 9)⟩])
 (.seq (.seq (.region false [⟨none,(some 12),.fld 0 (.t 1)⟩,
  ⟨none,(some 13),.load 1 false (.t 12)⟩,
  ⟨none,(some 14),.len (.t 13)⟩,
  ⟨none,(some 15),.mov (.k (.int .i64 0))⟩])
 (.block 0 (.loop zcr2)))
 (.seq (.region false [⟨none,(some 31),.load 3 true (.t 1)⟩,
  ⟨none,none,.store 3 (.t 2) (.t 31)⟩])
 .ret))))
 ntmps:=32
 res:=[.cell 2 3 true]
theorem zojn:zsjc P Try.f33=some a33:=by kernel_rfl
def zx6w:ACode :=
 (.seq (.region false [⟨none,(some 12),.bin .lss (.t 11) (.t 10)⟩])
 (.seq (.cond (.t 12) .skip
 (.exit 0))
 (.seq (.block 1 (.seq (.region false [⟨none,(some 13),.idxS 1 (.t 9) (.t 11)⟩,
  ⟨none,(some 14),.load 1 false (.t 13)⟩,
  ⟨none,(some 5),.mov (.t 14)⟩])
 (.seq (.region false [⟨none,(some 15),.mov (.t 0)⟩,
  ⟨none,(some 16),.nilc (.t 15)⟩,
  ⟨none,(some 17),.fld 0 (.t 16)⟩,
  ⟨none,(some 18),.load 3 true (.t 17)⟩,
  ⟨none,(some 19),.mov (.t 5)⟩,
  ⟨none,(some 20),.call (.k (.fn (.func 53) [] [])) [(.t 18),(.t 19)]⟩,
  ⟨none,(some 6),.mov (.t 20)⟩])
 (.seq (.region true [⟨none,(some 22),.mov (.t 0)⟩,
  ⟨none,(some 23),.nilc (.t 22)⟩,
  ⟨none,(some 24),.fld 0 (.t 23)⟩,
  ⟨none,(some 25),.load 3 true (.t 24)⟩,
  ⟨none,(some 26),.mov (.t 5)⟩,
  ⟨none,(some 27),.mov (.t 0)⟩,
  ⟨none,(some 28),.nilc (.t 27)⟩,
  ⟨none,(some 29),.fld 6 (.t 28)⟩,
  ⟨none,(some 30),.load 1 false (.t 29)⟩,
  ⟨none,(some 31),.callN (.k (.fn (.func 54) [] [])) [(.t 25),(.t 26),(.t 30)]⟩,
  ⟨none,(some 21),.mov (.t 31)⟩,
  ⟨none,(some 32),.ext (.t 21) 0⟩,
  ⟨none,(some 33),.ext (.t 21) 1⟩,
  ⟨none,(some 7),.alloc [.nils,.nils,(.int .i64 0)]⟩,
  ⟨none,none,.store 3 (.t 7) (.t 32)⟩,
  ⟨none,(some 8),.mov (.t 33)⟩])
 (.seq (.seq (.region false [⟨none,(some 34),.mov (.t 8)⟩,
  ⟨none,(some 35),.bin .neq (.t 34) (.k (.int .i64 0))⟩])
 (.cond (.t 35) (.exit 1)
 .skip))
 (.seq (.region true [⟨none,(some 36),.mov (.t 0)⟩,
  ⟨none,(some 37),.mov (.t 0)⟩,
  ⟨none,(some 38),.nilc (.t 37)⟩,
  ⟨none,(some 39),.fld 7 (.t 38)⟩,
  ⟨none,(some 40),.load 1 false (.t 39)⟩,
  ⟨none,(some 41),.mov (.t 5)⟩,
  ⟨none,(some 42),.mov (.t 0)⟩,
  ⟨none,(some 43),.nilc (.t 42)⟩,
  ⟨none,(some 44),.fld 0 (.t 43)⟩,
  ⟨none,(some 45),.fld 1 (.t 44)⟩,
  ⟨none,(some 46),.load 1 false (.t 45)⟩,
  ⟨none,(some 47),.mov (.t 6)⟩,
  ⟨none,(some 48),.idxS 37 (.t 46) (.t 47)⟩,
  ⟨none,(some 49),.fld 2 (.t 48)⟩,
  ⟨none,(some 50),.load 32 true (.t 49)⟩,
  ⟨none,(some 51),.build [(.int .i64 0),(.int .i64 0),(w8 0#8),(w8 0#8),(w8 0#8),(w8 0#8),(w8 0#8),(w8 0#8),(w8 0#8),(w8 0#8),(w8 0#8),(w8 0#8),(w8 0#8),(w8 0#8),(w8 0#8),(w8 0#8),(w8 0#8),(w8 0#8),(w8 0#8),(w8 0#8),(w8 0#8),(w8 0#8),(w8 0#8),(w8 0#8),(w8 0#8),(w8 0#8),(w8 0#8),(w8 0#8),(w8 0#8),(w8 0#8),(w8 0#8),(w8 0#8),(w8 0#8),(w8 0#8)] [(0,1,(.k (.int .i64 2))),(1,1,(.t 41)),(2,32,(.t 50))]⟩,
  ⟨none,(some 52),.bsl 34 1 [(.int .i64 0),(.int .i64 0),(w8 0#8),(w8 0#8),(w8 0#8),(w8 0#8),(w8 0#8),(w8 0#8),(w8 0#8),(w8 0#8),(w8 0#8),(w8 0#8),(w8 0#8),(w8 0#8),(w8 0#8),(w8 0#8),(w8 0#8),(w8 0#8),(w8 0#8),(w8 0#8),(w8 0#8),(w8 0#8),(w8 0#8),(w8 0#8),(w8 0#8),(w8 0#8),(w8 0#8),(w8 0#8),(w8 0#8),(w8 0#8),(w8 0#8),(w8 0#8),(w8 0#8),(w8 0#8)] [(0,34,(.t 51))]⟩,
  ⟨none,(some 53),.app 34 48 (.t 40) (.t 52)⟩,
  ⟨none,(some 54),.nilc (.t 36)⟩,
  ⟨none,(some 55),.fld 7 (.t 54)⟩,
  ⟨none,none,.store 1 (.t 55) (.t 53)⟩])
 (.region false [⟨none,(some 56),.mov (.t 0)⟩,
  ⟨none,(some 57),.load 3 true (.t 7)⟩,
  ⟨none,(some 58),.nilc (.t 56)⟩,
  ⟨none,(some 59),.fld 0 (.t 58)⟩,
  ⟨none,none,.store 3 (.t 59) (.t 57)⟩])))))))
 (.region false [⟨none,(some 60),.bin .add (.t 11) (.k (.int .i64 1))⟩,
  ⟨none,(some 11),.mov (.t 60)⟩]))))
def a34:AFn where
 code:=(.seq (.region false [⟨none,(some 9),.mov (.t 1)⟩,
  ⟨none,(some 10),.len (.t 9)⟩,
  ⟨none,(some 11),.mov (.k (.int .i64 0))⟩])
 (.block 0 (.loop zx6w)))
 ntmps:=61
 res:=[]
theorem zk28:zsjc P Try.f34=some a34:=by kernel_rfl
def a61:AFn where
 code:=(.seq (.region false [⟨none,(some 4),.mov (.k (.bool false))⟩])
 (.seq (.region true [⟨none,(some 11),.mov (.t 0)⟩,
  ⟨none,(some 12),.nilc (.t 11)⟩,
  ⟨none,(some 13),.fld 0 (.t 12)⟩,
  ⟨none,(some 14),.load 3 true (.t 13)⟩,
  ⟨none,(some 15),.mov (.t 0)⟩,
  ⟨none,(some 16),.nilc (.t 15)⟩,
  ⟨none,(some 17),.fld 3 (.t 16)⟩,
  ⟨none,(some 18),.load 2 true (.t 17)⟩,
  ⟨none,(some 19),.mov (.t 0)⟩,
  ⟨none,(some 20),.nilc (.t 19)⟩,
  ⟨none,(some 21),.fld 5 (.t 20)⟩,
  ⟨none,(some 22),.load 1 false (.t 21)⟩,
  ⟨none,(some 23),.mov (.t 1)⟩,
  ⟨none,(some 24),.mov (.t 0)⟩,
  ⟨none,(some 25),.nilc (.t 24)⟩,
  ⟨none,(some 26),.fld 6 (.t 25)⟩,
  ⟨none,(some 27),.load 1 false (.t 26)⟩,
  ⟨none,(some 28),.callN (.k (.fn (.func 85) [] [])) [(.t 14),(.t 18),(.t 22),(.t 23),(.t 27)]⟩,
  ⟨none,(some 10),.mov (.t 28)⟩,
  ⟨none,(some 29),.ext (.t 10) 0⟩,
  ⟨none,(some 30),.ext (.t 10) 1⟩,
  ⟨none,(some 5),.alloc (rep 32 (w8 0#8))⟩,
  ⟨none,none,.store 32 (.t 5) (.t 29)⟩,
  ⟨none,(some 6),.mov (.t 30)⟩])
 (.seq (.seq (.region false [⟨none,(some 31),.mov (.t 6)⟩,
  ⟨none,(some 32),.un .not (.t 31)⟩])
 (.cond (.t 32) (.seq (.region false [⟨none,(some 4),.mov (.k (.bool false))⟩])
 .ret)
 .skip))
 (.seq (.region true [⟨none,(some 34),.mov (.t 0)⟩,
  ⟨none,(some 35),.nilc (.t 34)⟩,
  ⟨none,(some 36),.fld 0 (.t 35)⟩,
  ⟨none,(some 37),.load 3 true (.t 36)⟩,
  ⟨none,(some 38),.mov (.t 1)⟩,
  ⟨none,(some 39),.load 32 true (.t 5)⟩,
  ⟨none,(some 40),.mov (.t 0)⟩,
  ⟨none,(some 41),.nilc (.t 40)⟩,
  ⟨none,(some 42),.fld 6 (.t 41)⟩,
  ⟨none,(some 43),.load 1 false (.t 42)⟩,
  ⟨none,(some 44),.callN (.k (.fn (.func 86) [] [])) [(.t 37),(.t 38),(.t 39),(.t 43)]⟩,
  ⟨none,(some 33),.mov (.t 44)⟩,
  ⟨none,(some 45),.ext (.t 33) 0⟩,
  ⟨none,(some 46),.ext (.t 33) 1⟩,
  ⟨none,(some 47),.ext (.t 33) 2⟩,
  ⟨none,(some 7),.alloc [.nils,.nils,(.int .i64 0)]⟩,
  ⟨none,none,.store 3 (.t 7) (.t 45)⟩,
  ⟨none,(some 8),.mov (.t 46)⟩,
  ⟨none,(some 9),.mov (.t 47)⟩])
 (.seq (.seq (.region false [⟨none,(some 48),.mov (.t 9)⟩,
  ⟨none,(some 49),.bin .neq (.t 48) (.k (.int .i64 0))⟩])
 (.cond (.t 49) (.seq (.region false [⟨none,(some 4),.mov (.k (.bool false))⟩])
 .ret)
 .skip))
 (.seq (.region false [⟨none,(some 50),.mov (.t 0)⟩,
  ⟨none,(some 51),.load 3 true (.t 7)⟩,
  ⟨none,(some 52),.nilc (.t 50)⟩,
  ⟨none,(some 53),.fld 0 (.t 52)⟩,
  ⟨none,none,.store 3 (.t 53) (.t 51)⟩])
 (.seq (.region true [⟨none,(some 54),.mov (.t 0)⟩,
  ⟨none,(some 55),.mov (.t 0)⟩,
  ⟨none,(some 56),.nilc (.t 55)⟩,
  ⟨none,(some 57),.fld 7 (.t 56)⟩,
  ⟨none,(some 58),.load 1 false (.t 57)⟩,
  ⟨none,(some 59),.mov (.t 8)⟩,
  ⟨none,(some 60),.load 32 true (.t 5)⟩,
  ⟨none,(some 61),.build [(.int .i64 0),(.int .i64 0),(w8 0#8),(w8 0#8),(w8 0#8),(w8 0#8),(w8 0#8),(w8 0#8),(w8 0#8),(w8 0#8),(w8 0#8),(w8 0#8),(w8 0#8),(w8 0#8),(w8 0#8),(w8 0#8),(w8 0#8),(w8 0#8),(w8 0#8),(w8 0#8),(w8 0#8),(w8 0#8),(w8 0#8),(w8 0#8),(w8 0#8),(w8 0#8),(w8 0#8),(w8 0#8),(w8 0#8),(w8 0#8),(w8 0#8),(w8 0#8),(w8 0#8),(w8 0#8)] [(0,1,(.k (.int .i64 1))),(1,1,(.t 59)),(2,32,(.t 60))]⟩,
  ⟨none,(some 62),.bsl 34 1 [(.int .i64 0),(.int .i64 0),(w8 0#8),(w8 0#8),(w8 0#8),(w8 0#8),(w8 0#8),(w8 0#8),(w8 0#8),(w8 0#8),(w8 0#8),(w8 0#8),(w8 0#8),(w8 0#8),(w8 0#8),(w8 0#8),(w8 0#8),(w8 0#8),(w8 0#8),(w8 0#8),(w8 0#8),(w8 0#8),(w8 0#8),(w8 0#8),(w8 0#8),(w8 0#8),(w8 0#8),(w8 0#8),(w8 0#8),(w8 0#8),(w8 0#8),(w8 0#8),(w8 0#8),(w8 0#8)] [(0,34,(.t 61))]⟩,
  ⟨none,(some 63),.app 34 48 (.t 58) (.t 62)⟩,
  ⟨none,(some 64),.nilc (.t 54)⟩,
  ⟨none,(some 65),.fld 7 (.t 64)⟩,
  ⟨none,none,.store 1 (.t 65) (.t 63)⟩])
 (.seq (.region false [⟨none,(some 4),.mov (.k (.bool true))⟩])
 .ret))))))))
 ntmps:=66
 res:=[.tmp 4]
theorem zuuw:zsjc P Try.f61=some a61:=by kernel_rfl
def zvgs:ACode :=
 (.seq (.region false [⟨none,(some 24),.bin .lss (.t 23) (.t 22)⟩])
 (.seq (.cond (.t 24) .skip
 (.exit 0))
 (.seq (.block 1 (.seq (.region false [⟨none,(some 25),.idxS 37 (.t 21) (.t 23)⟩,
  ⟨none,(some 26),.load 37 true (.t 25)⟩,
  ⟨none,(some 10),.alloc [(.int .i64 0),(.int .i64 0),(w8 0#8),(w8 0#8),(w8 0#8),(w8 0#8),(w8 0#8),(w8 0#8),(w8 0#8),(w8 0#8),(w8 0#8),(w8 0#8),(w8 0#8),(w8 0#8),(w8 0#8),(w8 0#8),(w8 0#8),(w8 0#8),(w8 0#8),(w8 0#8),(w8 0#8),(w8 0#8),(w8 0#8),(w8 0#8),(w8 0#8),(w8 0#8),(w8 0#8),(w8 0#8),(w8 0#8),(w8 0#8),(w8 0#8),(w8 0#8),(w8 0#8),(w8 0#8),(.int .i64 0),(.int .i64 0),(.int .i64 0)]⟩,
  ⟨none,none,.store 37 (.t 10) (.t 26)⟩])
 (.seq (.region false [⟨none,(some 27),.fld 1 (.t 10)⟩,
  ⟨none,(some 28),.load 1 false (.t 27)⟩,
  ⟨none,(some 29),.mov (.t 1)⟩,
  ⟨none,(some 30),.bin .eql (.t 28) (.t 29)⟩,
  ⟨none,(some 31),.mov (.t 30)⟩,
  ⟨(some (31,true)),(some 32),.fld 34 (.t 10)⟩,
  ⟨(some (31,true)),(some 33),.load 1 false (.t 32)⟩,
  ⟨(some (31,true)),(some 34),.bin .eql (.t 33) (.k (.int .i64 1))⟩,
  ⟨none,(some 35),.pick (.t 31) (.t 34) (.k (.bool false))⟩,
  ⟨none,(some 36),.mov (.t 35)⟩,
  ⟨(some (36,true)),(some 37),.mov (.t 7)⟩,
  ⟨(some (36,true)),(some 38),.fld 0 (.t 10)⟩,
  ⟨(some (36,true)),(some 39),.load 1 false (.t 38)⟩,
  ⟨(some (36,true)),(some 40),.call (.k (.fn (.func 71) [] [])) [(.t 37),(.t 39)]⟩,
  ⟨(some (36,true)),(some 41),.mov (.t 2)⟩,
  ⟨(some (36,true)),(some 42),.eqb false (.t 40) (.t 41)⟩,
  ⟨none,(some 43),.pick (.t 36) (.t 42) (.k (.bool false))⟩])
 (.cond (.t 43) (.region false [⟨none,(some 44),.mov (.t 8)⟩,
  ⟨none,(some 45),.fld 0 (.t 10)⟩,
  ⟨none,(some 46),.load 1 false (.t 45)⟩,
  ⟨none,(some 47),.bsl 1 1 [(.int .i64 0)] [(0,1,(.t 46))]⟩,
  ⟨none,(some 48),.app 1 8 (.t 44) (.t 47)⟩,
  ⟨none,(some 8),.mov (.t 48)⟩])
 .skip))))
 (.region false [⟨none,(some 49),.bin .add (.t 23) (.k (.int .i64 1))⟩,
  ⟨none,(some 23),.mov (.t 49)⟩]))))
def a56:AFn where
 code:=(.seq (.region false [⟨none,(some 6),.mov (.k .nils)⟩])
 (.seq (.region false [⟨none,(some 11),.mov (.t 0)⟩,
  ⟨none,(some 12),.nilc (.t 11)⟩,
  ⟨none,(some 13),.fld 0 (.t 12)⟩,
  ⟨none,(some 14),.load 3 true (.t 13)⟩,
  ⟨none,(some 15),.mov (.t 1)⟩,
  ⟨none,(some 16),.call (.k (.fn (.func 58) [] [])) [(.t 14),(.t 15)]⟩,
  ⟨none,(some 7),.mov (.t 16)⟩])
 (.seq (.region false [⟨none,(some 8),.mov (.k .nils)⟩])
 (.seq (.seq (.region false [⟨none,(some 17),.mov (.t 0)⟩,
  ⟨none,(some 18),.nilc (.t 17)⟩,
  ⟨none,(some 19),.fld 0 (.t 18)⟩,
  ⟨none,(some 20),.fld 1 (.t 19)⟩,
  ⟨none,(some 21),.load 1 false (.t 20)⟩,
  ⟨none,(some 22),.len (.t 21)⟩,
  ⟨none,(some 23),.mov (.k (.int .i64 0))⟩])
 (.block 0 (.loop zvgs)))
 (.seq (.region false [⟨none,(some 50),.mov (.t 8)⟩,
  ⟨none,(some 6),.mov (.t 50)⟩])
 .ret)))))
 ntmps:=51
 res:=[.tmp 6]
theorem zcwb:zsjc P Try.f56=some a56:=by kernel_rfl
def zlo9:ACode :=
 (.seq (.seq (.region false [⟨none,(some 64),.mov (.t 0)⟩,
  ⟨none,(some 65),.nilc (.t 64)⟩,
  ⟨none,(some 66),.fld 0 (.t 65)⟩,
  ⟨none,(some 67),.load 3 true (.t 66)⟩,
  ⟨none,(some 68),.mov (.t 1)⟩,
  ⟨none,(some 69),.call (.k (.fn (.func 58) [] [])) [(.t 67),(.t 68)]⟩,
  ⟨none,(some 70),.len (.t 69)⟩,
  ⟨none,(some 71),.mov (.t 4)⟩,
  ⟨none,(some 72),.bin .lss (.t 70) (.t 71)⟩])
 (.cond (.t 72) .skip
 (.exit 0)))
 (.block 1 (.seq (.region false [⟨none,(some 73),.mov (.t 0)⟩,
  ⟨none,(some 74),.mov (.t 1)⟩,
  ⟨none,(some 75),.call (.k (.fn (.func 61) [] [])) [(.t 73),(.t 74)]⟩,
  ⟨none,(some 76),.un .not (.t 75)⟩])
 (.cond (.t 76) (.exit 0)
 .skip))))
def a36:AFn where
 code:=(.seq (.region false [⟨none,(some 8),.mov (.t 0)⟩,
  ⟨none,(some 9),.nilc (.t 8)⟩,
  ⟨none,(some 10),.fld 0 (.t 9)⟩,
  ⟨none,(some 11),.fld 0 (.t 10)⟩,
  ⟨none,(some 12),.load 1 false (.t 11)⟩,
  ⟨none,(some 13),.mov (.t 1)⟩,
  ⟨none,(some 14),.idxS 6 (.t 12) (.t 13)⟩,
  ⟨none,(some 15),.fld 2 (.t 14)⟩,
  ⟨none,(some 16),.load 1 false (.t 15)⟩,
  ⟨none,(some 4),.mov (.t 16)⟩])
 (.seq (.region false [⟨none,(some 17),.mov (.t 0)⟩,
  ⟨none,(some 18),.mov (.t 0)⟩,
  ⟨none,(some 19),.mov (.t 1)⟩,
  ⟨none,(some 20),.call (.k (.fn (.func 56) [] [])) [(.t 18),(.t 19),(.k (.bool false))]⟩,
  ⟨none,(some 21),.call (.k (.fn (.func 34) [] [])) [(.t 17),(.t 20)]⟩])
 (.seq (.region false [⟨none,(some 22),.mov (.t 0)⟩,
  ⟨none,(some 23),.mov (.t 1)⟩,
  ⟨none,(some 24),.call (.k (.fn (.func 56) [] [])) [(.t 22),(.t 23),(.k (.bool true))]⟩,
  ⟨none,(some 5),.mov (.t 24)⟩])
 (.seq (.region false [⟨none,(some 25),.mov (.t 5)⟩,
  ⟨none,(some 26),.call (.k (.fn (.func 57) [] [])) [(.t 25)]⟩])
 (.seq (.region false [⟨none,(some 27),.mov (.t 0)⟩,
  ⟨none,(some 28),.nilc (.t 27)⟩,
  ⟨none,(some 29),.fld 0 (.t 28)⟩,
  ⟨none,(some 30),.load 3 true (.t 29)⟩,
  ⟨none,(some 31),.mov (.t 1)⟩,
  ⟨none,(some 32),.call (.k (.fn (.func 58) [] [])) [(.t 30),(.t 31)]⟩,
  ⟨none,(some 33),.len (.t 32)⟩,
  ⟨none,(some 34),.mov (.t 4)⟩,
  ⟨none,(some 35),.bin .sub (.t 33) (.t 34)⟩,
  ⟨none,(some 36),.mm true [(.t 35),(.k (.int .i64 0))]⟩,
  ⟨none,(some 6),.mov (.t 36)⟩])
 (.seq (.region false [⟨none,(some 37),.mov (.t 0)⟩,
  ⟨none,(some 38),.mov (.t 5)⟩,
  ⟨none,(some 39),.mov (.t 6)⟩,
  ⟨none,(some 40),.mov (.t 5)⟩,
  ⟨none,(some 41),.len (.t 40)⟩,
  ⟨none,(some 42),.mm false [(.t 39),(.t 41)]⟩,
  ⟨none,(some 43),.slcS 1 (.t 38) none (some (.t 42)) none⟩,
  ⟨none,(some 44),.call (.k (.fn (.func 34) [] [])) [(.t 37),(.t 43)]⟩])
 (.seq (.region false [⟨none,(some 45),.mov (.t 0)⟩,
  ⟨none,(some 46),.nilc (.t 45)⟩,
  ⟨none,(some 47),.fld 0 (.t 46)⟩,
  ⟨none,(some 48),.load 3 true (.t 47)⟩,
  ⟨none,(some 49),.mov (.t 1)⟩,
  ⟨none,(some 50),.call (.k (.fn (.func 59) [] [])) [(.t 48),(.t 49)]⟩,
  ⟨none,(some 7),.mov (.t 50)⟩])
 (.seq (.region false [⟨none,(some 51),.mov (.t 0)⟩,
  ⟨none,(some 52),.mov (.t 7)⟩,
  ⟨none,(some 53),.mov (.t 0)⟩,
  ⟨none,(some 54),.nilc (.t 53)⟩,
  ⟨none,(some 55),.fld 0 (.t 54)⟩,
  ⟨none,(some 56),.load 3 true (.t 55)⟩,
  ⟨none,(some 57),.mov (.t 1)⟩,
  ⟨none,(some 58),.call (.k (.fn (.func 60) [] [])) [(.t 56),(.t 57)]⟩,
  ⟨none,(some 59),.mov (.t 7)⟩,
  ⟨none,(some 60),.len (.t 59)⟩,
  ⟨none,(some 61),.mm false [(.t 58),(.t 60)]⟩,
  ⟨none,(some 62),.slcS 1 (.t 52) none (some (.t 61)) none⟩,
  ⟨none,(some 63),.call (.k (.fn (.func 34) [] [])) [(.t 51),(.t 62)]⟩])
 (.block 0 (.loop zlo9))))))))))
 ntmps:=77
 res:=[]
theorem zj68:zsjc P Try.f36=some a36:=by kernel_rfl
def zvfu:ACode :=
 (.seq (.region false [⟨none,(some 31),.bin .lss (.t 30) (.t 29)⟩])
 (.seq (.cond (.t 31) .skip
 (.exit 0))
 (.seq (.block 1 (.seq (.region false [⟨none,(some 32),.mov (.t 30)⟩,
  ⟨none,(some 13),.mov (.t 32)⟩])
 (.region false [⟨none,(some 33),.mov (.t 12)⟩,
  ⟨none,(some 34),.mov (.t 13)⟩,
  ⟨none,(some 35),.call (.k (.fn (.func 36) [] [])) [(.t 33),(.t 34)]⟩])))
 (.region false [⟨none,(some 36),.bin .add (.t 30) (.k (.int .i64 1))⟩,
  ⟨none,(some 30),.mov (.t 36)⟩]))))
def a16:AFn where
 code:=(.seq (.region false [⟨none,(some 5),.box (.t 0)⟩,
  ⟨none,(some 6),.box (.t 1)⟩,
  ⟨none,(some 10),.alloc [.nils,.nils,(.int .i64 0)]⟩,
  ⟨none,(some 11),.mov (.k .nils)⟩])
 (.seq (.region true [⟨none,(some 14),.load 3 true (.t 5)⟩,
  ⟨none,(some 16),.load 2 true (.t 6)⟩,
  ⟨none,(some 17),.mov (.t 2)⟩,
  ⟨none,(some 18),.mov (.t 4)⟩,
  ⟨none,(some 15),.callN (.k (.fn (.func 33) [] [])) [(.t 14)]⟩,
  ⟨none,(some 19),.build [.nils,.nils,(.int .i64 0),(.int .i64 0),.nils,.nils,(.int .i64 0),.nils] [(0,3,(.t 15)),(3,2,(.t 16)),(5,1,(.t 17)),(6,1,(.t 18))]⟩,
  ⟨none,(some 20),.box (.t 19)⟩,
  ⟨none,(some 12),.mov (.t 20)⟩])
 (.seq (.region false [⟨none,(some 21),.mov (.t 12)⟩,
  ⟨none,(some 22),.load 3 true (.t 5)⟩,
  ⟨none,(some 23),.mov (.t 3)⟩,
  ⟨none,(some 24),.mov (.t 4)⟩,
  ⟨none,(some 25),.call (.k (.fn (.func 35) [] [])) [(.t 22),(.t 23),(.t 24)]⟩,
  ⟨none,(some 26),.call (.k (.fn (.func 34) [] [])) [(.t 21),(.t 25)]⟩])
 (.seq (.seq (.region false [⟨none,(some 27),.fld 0 (.t 5)⟩,
  ⟨none,(some 28),.load 1 false (.t 27)⟩,
  ⟨none,(some 29),.len (.t 28)⟩,
  ⟨none,(some 30),.mov (.k (.int .i64 0))⟩])
 (.block 0 (.loop zvfu)))
 (.seq (.region true [⟨none,(some 37),.mov (.t 12)⟩,
  ⟨none,(some 38),.nilc (.t 37)⟩,
  ⟨none,(some 39),.fld 0 (.t 38)⟩,
  ⟨none,(some 40),.load 3 true (.t 39)⟩,
  ⟨none,(some 41),.mov (.t 12)⟩,
  ⟨none,(some 42),.nilc (.t 41)⟩,
  ⟨none,(some 43),.fld 7 (.t 42)⟩,
  ⟨none,(some 44),.load 1 false (.t 43)⟩,
  ⟨none,none,.store 3 (.t 10) (.t 40)⟩,
  ⟨none,(some 11),.mov (.t 44)⟩,
  ⟨none,none,.apart (.t 41) (.t 10)⟩,
  ⟨none,none,.apart (.t 42) (.t 10)⟩,
  ⟨none,none,.apart (.t 43) (.t 10)⟩])
 .ret)))))
 ntmps:=45
 res:=[.cell 10 3 true,.tmp 11]
theorem zddi:zsjc P Try.f16=some a16:=by kernel_rfl
def a71:AFn where
 code:=(.seq (.region false [⟨none,(some 4),.mov (.k (.bool false))⟩])
 (.seq (.region false [⟨none,(some 5),.mov (.t 0)⟩,
  ⟨none,(some 6),.mov (.t 1)⟩,
  ⟨none,(some 7),.call (.k (.fn (.func 92) [] [])) [(.t 5),(.t 6)]⟩,
  ⟨none,(some 8),.bin .geq (.t 7) (.k (.int .i64 0))⟩,
  ⟨none,(some 4),.mov (.t 8)⟩])
 .ret))
 ntmps:=9
 res:=[.tmp 4]
theorem zbtg:zsjc P Try.f71=some a71:=by kernel_rfl
def zrck:ACode :=
 (.seq (.region false [⟨none,(some 9),.bin .lss (.t 8) (.t 7)⟩])
 (.seq (.cond (.t 9) .skip
 (.exit 0))
 (.seq (.block 1 (.seq (.region false [⟨none,(some 10),.mov (.t 8)⟩,
  ⟨none,(some 5),.mov (.t 10)⟩])
 (.seq (.region false [⟨none,(some 11),.mov (.t 1)⟩,
  ⟨none,(some 12),.mov (.t 0)⟩,
  ⟨none,(some 13),.mov (.t 5)⟩,
  ⟨none,(some 14),.idxS 1 (.t 12) (.t 13)⟩,
  ⟨none,(some 15),.load 1 false (.t 14)⟩,
  ⟨none,(some 16),.bin .eql (.t 11) (.t 15)⟩])
 (.cond (.t 16) (.seq (.region false [⟨none,(some 17),.mov (.t 5)⟩,
  ⟨none,(some 4),.mov (.t 17)⟩])
 .ret)
 .skip))))
 (.region false [⟨none,(some 18),.bin .add (.t 8) (.k (.int .i64 1))⟩,
  ⟨none,(some 8),.mov (.t 18)⟩]))))
def a92:AFn where
 code:=(.seq (.region false [⟨none,(some 4),.mov (.k (.int .i64 0))⟩])
 (.seq (.seq (.region false [⟨none,(some 6),.mov (.t 0)⟩,
  ⟨none,(some 7),.len (.t 6)⟩,
  ⟨none,(some 8),.mov (.k (.int .i64 0))⟩])
 (.block 0 (.loop zrck)))
 (.seq (.region false [⟨none,(some 4),.mov (.k (.int .i64 (-1)))⟩])
 .ret)))
 ntmps:=19
 res:=[.tmp 4]
theorem zypd:zsjc P Try.f92=some a92:=by kernel_rfl
end Go.Proofs.Ytaihpefemjlilaa
set_option linter.unusedSimpArgs false
set_option linter.unusedVariables false
namespace Go.Proofs.Ytaihpefemjlilaa
open Go Go.Am
def a7:AFn where
 code:=(.seq (.region false [⟨none,(some 0),.mov (.k (.bool false))⟩])
 (.seq (.region false [⟨none,(some 6),.build (rep 32 (w8 0#8)) [(0,1,(.k (w8 1#8)))]⟩,
  ⟨none,(some 7),.bsl 32 1 (rep 32 (w8 0#8)) [(0,32,(.t 6))]⟩,
  ⟨none,(some 8),.build [(.str []),(.str []),(.int .i64 0),(.int .i64 0),(.int .i64 0),.nils] [(0,1,(.k (.str [97]))),(1,1,(.k (.str [98]))),(2,1,(.k (.int .i64 2))),(3,1,(.k (.int .i64 1))),(4,1,(.k (.int .i64 1))),(5,1,(.t 7))]⟩,
  ⟨none,(some 9),.bsl 6 1 [(.str []),(.str []),(.int .i64 0),(.int .i64 0),(.int .i64 0),.nils] [(0,6,(.t 8))]⟩,
  ⟨none,(some 10),.build [.nils,.nils,(.int .i64 0)] [(0,1,(.t 9)),(2,1,(.k (.int .i64 1)))]⟩,
  ⟨none,(some 1),.alloc [.nils,.nils,(.int .i64 0)]⟩,
  ⟨none,none,.store 3 (.t 1) (.t 10)⟩])
 (.seq (.region false [⟨none,(some 11),.build (rep 32 (w8 0#8)) [(0,1,(.k (w8 1#8)))]⟩,
  ⟨none,(some 12),.build [(.str []),(.str []),(w8 0#8),(w8 0#8),(w8 0#8),(w8 0#8),(w8 0#8),(w8 0#8),(w8 0#8),(w8 0#8),(w8 0#8),(w8 0#8),(w8 0#8),(w8 0#8),(w8 0#8),(w8 0#8),(w8 0#8),(w8 0#8),(w8 0#8),(w8 0#8),(w8 0#8),(w8 0#8),(w8 0#8),(w8 0#8),(w8 0#8),(w8 0#8),(w8 0#8),(w8 0#8),(w8 0#8),(w8 0#8),(w8 0#8),(w8 0#8),(w8 0#8),(w8 0#8)] [(0,1,(.k (.str [97]))),(1,1,(.k (.str [98]))),(2,32,(.t 11))]⟩,
  ⟨none,(some 13),.build [(.bool false),(w8 0#8),(w8 0#8),(w8 0#8),(w8 0#8),(w8 0#8),(w8 0#8),(w8 0#8),(w8 0#8),(w8 0#8),(w8 0#8),(w8 0#8),(w8 0#8),(w8 0#8),(w8 0#8),(w8 0#8),(w8 0#8),(w8 0#8),(w8 0#8),(w8 0#8),(w8 0#8),(w8 0#8),(w8 0#8),(w8 0#8),(w8 0#8),(w8 0#8),(w8 0#8),(w8 0#8),(w8 0#8),(w8 0#8),(w8 0#8),(w8 0#8),(w8 0#8),(.int .i64 0),(w8 0#8),(w8 0#8),(w8 0#8),(w8 0#8),(w8 0#8),(w8 0#8),(w8 0#8),(w8 0#8),(w8 0#8),(w8 0#8),(w8 0#8),(w8 0#8),(w8 0#8),(w8 0#8),(w8 0#8),(w8 0#8),(w8 0#8),(w8 0#8),(w8 0#8),(w8 0#8),(w8 0#8),(w8 0#8),(w8 0#8),(w8 0#8),(w8 0#8),(w8 0#8),(w8 0#8),(w8 0#8),(w8 0#8),(w8 0#8),(w8 0#8),(w8 0#8),(.str []),(.str []),.nils] [(0,1,(.k (.bool true)))]⟩,
  ⟨none,(some 14),.build [(.str []),(.str []),(w8 0#8),(w8 0#8),(w8 0#8),(w8 0#8),(w8 0#8),(w8 0#8),(w8 0#8),(w8 0#8),(w8 0#8),(w8 0#8),(w8 0#8),(w8 0#8),(w8 0#8),(w8 0#8),(w8 0#8),(w8 0#8),(w8 0#8),(w8 0#8),(w8 0#8),(w8 0#8),(w8 0#8),(w8 0#8),(w8 0#8),(w8 0#8),(w8 0#8),(w8 0#8),(w8 0#8),(w8 0#8),(w8 0#8),(w8 0#8),(w8 0#8),(w8 0#8),(.bool false),(w8 0#8),(w8 0#8),(w8 0#8),(w8 0#8),(w8 0#8),(w8 0#8),(w8 0#8),(w8 0#8),(w8 0#8),(w8 0#8),(w8 0#8),(w8 0#8),(w8 0#8),(w8 0#8),(w8 0#8),(w8 0#8),(w8 0#8),(w8 0#8),(w8 0#8),(w8 0#8),(w8 0#8),(w8 0#8),(w8 0#8),(w8 0#8),(w8 0#8),(w8 0#8),(w8 0#8),(w8 0#8),(w8 0#8),(w8 0#8),(w8 0#8),(w8 0#8),(.int .i64 0),(w8 0#8),(w8 0#8),(w8 0#8),(w8 0#8),(w8 0#8),(w8 0#8),(w8 0#8),(w8 0#8),(w8 0#8),(w8 0#8),(w8 0#8),(w8 0#8),(w8 0#8),(w8 0#8),(w8 0#8),(w8 0#8),(w8 0#8),(w8 0#8),(w8 0#8),(w8 0#8),(w8 0#8),(w8 0#8),(w8 0#8),(w8 0#8),(w8 0#8),(w8 0#8),(w8 0#8),(w8 0#8),(w8 0#8),(w8 0#8),(w8 0#8),(w8 0#8),(.str []),(.str []),.nils,.nils,(.int .i64 0)] [(0,34,(.t 12)),(34,69,(.t 13))]⟩,
  ⟨none,(some 15),.bsl 105 1 [(.str []),(.str []),(w8 0#8),(w8 0#8),(w8 0#8),(w8 0#8),(w8 0#8),(w8 0#8),(w8 0#8),(w8 0#8),(w8 0#8),(w8 0#8),(w8 0#8),(w8 0#8),(w8 0#8),(w8 0#8),(w8 0#8),(w8 0#8),(w8 0#8),(w8 0#8),(w8 0#8),(w8 0#8),(w8 0#8),(w8 0#8),(w8 0#8),(w8 0#8),(w8 0#8),(w8 0#8),(w8 0#8),(w8 0#8),(w8 0#8),(w8 0#8),(w8 0#8),(w8 0#8),(.bool false),(w8 0#8),(w8 0#8),(w8 0#8),(w8 0#8),(w8 0#8),(w8 0#8),(w8 0#8),(w8 0#8),(w8 0#8),(w8 0#8),(w8 0#8),(w8 0#8),(w8 0#8),(w8 0#8),(w8 0#8),(w8 0#8),(w8 0#8),(w8 0#8),(w8 0#8),(w8 0#8),(w8 0#8),(w8 0#8),(w8 0#8),(w8 0#8),(w8 0#8),(w8 0#8),(w8 0#8),(w8 0#8),(w8 0#8),(w8 0#8),(w8 0#8),(w8 0#8),(.int .i64 0),(w8 0#8),(w8 0#8),(w8 0#8),(w8 0#8),(w8 0#8),(w8 0#8),(w8 0#8),(w8 0#8),(w8 0#8),(w8 0#8),(w8 0#8),(w8 0#8),(w8 0#8),(w8 0#8),(w8 0#8),(w8 0#8),(w8 0#8),(w8 0#8),(w8 0#8),(w8 0#8),(w8 0#8),(w8 0#8),(w8 0#8),(w8 0#8),(w8 0#8),(w8 0#8),(w8 0#8),(w8 0#8),(w8 0#8),(w8 0#8),(w8 0#8),(w8 0#8),(.str []),(.str []),.nils,.nils,(.int .i64 0)] [(0,105,(.t 14))]⟩,
  ⟨none,(some 16),.build [(.int .i64 0),.nils] [(1,1,(.t 15))]⟩,
  ⟨none,(some 2),.alloc [(.int .i64 0),.nils]⟩,
  ⟨none,none,.store 2 (.t 2) (.t 16)⟩])
 (.seq (.region false [⟨none,(some 18),.load 3 true (.t 1)⟩,
  ⟨none,(some 19),.load 2 true (.t 2)⟩,
  ⟨none,(some 20),.call (.k (.fn (.func 16) [] [])) [(.t 18),(.t 19),(.k .nils),(.k .nils),(.k (.int .i64 5))]⟩,
  ⟨none,(some 17),.mov (.t 20)⟩,
  ⟨none,(some 21),.ext (.t 17) 0⟩,
  ⟨none,(some 22),.ext (.t 17) 1⟩,
  ⟨none,(some 3),.alloc [.nils,.nils,(.int .i64 0)]⟩,
  ⟨none,none,.store 3 (.t 3) (.t 21)⟩,
  ⟨none,(some 4),.mov (.t 22)⟩])
 (.seq (.region false [⟨none,(some 23),.build (rep 32 (w8 0#8)) [(0,1,(.k (w8 1#8)))]⟩,
  ⟨none,(some 24),.call (.k (.fn (.func 6) [] [])) [(.k .nils),(.k (.int .i64 0)),(.t 23),(.k (.int .i64 5))]⟩,
  ⟨none,(some 5),.mov (.t 24)⟩])
 (.seq (.region false [⟨none,(some 25),.mov (.t 4)⟩,
  ⟨none,(some 26),.len (.t 25)⟩,
  ⟨none,(some 27),.bin .eql (.t 26) (.k (.int .i64 2))⟩,
  ⟨none,(some 28),.mov (.t 27)⟩,
  ⟨(some (28,true)),(some 29),.fld 1 (.t 3)⟩,
  ⟨(some (28,true)),(some 30),.load 1 false (.t 29)⟩,
  ⟨(some (28,true)),(some 31),.len (.t 30)⟩,
  ⟨(some (28,true)),(some 32),.bin .eql (.t 31) (.k (.int .i64 2))⟩,
  ⟨none,(some 33),.pick (.t 28) (.t 32) (.k (.bool false))⟩,
  ⟨none,(some 34),.mov (.t 33)⟩,
  ⟨(some (34,true)),(some 35),.mov (.t 5)⟩,
  ⟨(some (34,true)),(some 36),.len (.t 35)⟩,
  ⟨(some (34,true)),(some 37),.bin .eql (.t 36) (.k (.int .i64 1))⟩,
  ⟨none,(some 38),.pick (.t 34) (.t 37) (.k (.bool false))⟩,
  ⟨none,(some 39),.mov (.t 38)⟩,
  ⟨(some (39,true)),(some 40),.mov (.t 5)⟩,
  ⟨(some (39,true)),(some 41),.idxS 35 (.t 40) (.k (.int .i64 0))⟩,
  ⟨(some (39,true)),(some 42),.fld 34 (.t 41)⟩,
  ⟨(some (39,true)),(some 43),.load 1 false (.t 42)⟩,
  ⟨(some (39,true)),(some 44),.bin .eql (.t 43) (.k (.int .i64 7))⟩,
  ⟨none,(some 45),.pick (.t 39) (.t 44) (.k (.bool false))⟩,
  ⟨none,(some 46),.mov (.t 45)⟩,
  ⟨(some (46,true)),(some 47),.mov (.t 5)⟩,
  ⟨(some (46,true)),(some 48),.build (rep 32 (w8 0#8)) [(0,1,(.k (w8 1#8)))]⟩,
  ⟨(some (46,true)),(some 49),.call (.k (.fn (.func 17) [] [])) [(.t 47),(.k (.int .i64 0)),(.t 48)]⟩,
  ⟨(some (46,true)),(some 50),.len (.t 49)⟩,
  ⟨(some (46,true)),(some 51),.bin .eql (.t 50) (.k (.int .i64 0))⟩,
  ⟨none,(some 52),.pick (.t 46) (.t 51) (.k (.bool false))⟩,
  ⟨none,(some 53),.mov (.t 52)⟩,
  ⟨(some (53,true)),(some 54),.mov (.t 5)⟩,
  ⟨(some (53,true)),(some 55),.call (.k (.fn (.func 18) [] [])) [(.t 54),(.k (.int .i64 0)),(.k .nils)]⟩,
  ⟨(some (53,true)),(some 56),.len (.t 55)⟩,
  ⟨(some (53,true)),(some 57),.bin .eql (.t 56) (.k (.int .i64 0))⟩,
  ⟨none,(some 58),.pick (.t 53) (.t 57) (.k (.bool false))⟩,
  ⟨none,(some 0),.mov (.t 58)⟩])
 .ret))))))
 ntmps:=59
 res:=[.tmp 0]
theorem zdfl:zsjc P Try.f7=some a7:=by kernel_rfl
end Go.Proofs.Ytaihpefemjlilaa
set_option linter.unusedSimpArgs false
set_option linter.unusedVariables false
namespace Go.Proofs.Ytaihpefemjlilaa
open Go Go.Am
def a3L0:ACode :=
 (.seq (.seq (.region false [⟨none,(some 15),.mov (.t 8)⟩,
  ⟨none,(some 16),.mov (.t 0)⟩,
  ⟨none,(some 17),.bin .lss (.t 15) (.t 16)⟩])
 (.cond (.t 17) .skip
 (.exit 0)))
 (.seq (.block 1 (.seq (.region false [⟨none,(some 20),.mov (.t 6)⟩,
  ⟨none,(some 21),.build (rep 32 (w8 0#8)) [(0,1,(.k (w8 2#8)))]⟩,
  ⟨none,(some 22),.mov (.t 5)⟩,
  ⟨none,(some 23),.call (.k (.fn (.func 6) [] [])) [(.t 20),(.k (.int .i64 1)),(.t 21),(.t 22)]⟩,
  ⟨none,(some 6),.mov (.t 23)⟩])
 (.seq (.region false [⟨none,(some 24),.mov (.t 8)⟩,
  ⟨none,(some 25),.bin .lss (.t 24) (.k (.int .i64 16))⟩])
 (.cond (.t 25) (.region false [⟨none,(some 26),.mov (.t 7)⟩,
  ⟨none,(some 27),.bin .mul (.k (.int .i64 2)) (.t 26)⟩,
  ⟨none,(some 7),.mov (.t 27)⟩])
 .skip))))
 (.region false [⟨none,(some 18),.mov (.t 8)⟩,
  ⟨none,(some 19),.bin .add (.t 18) (.k (.int .i64 1))⟩,
  ⟨none,(some 8),.mov (.t 19)⟩])))
def a3S0 (x0 x5 x6 x7 x8:DV) (h:List AObj):St:=⟨[x0]++js 4++[x5,x6,x7,x8]++js 59,h⟩
def a3:AFn where
 code:=(.seq (.region false [⟨none,(some 4),.mov (.k (.bool false))⟩])
 (.seq (.region false [⟨none,(some 10),.mov (.t 0)⟩,
  ⟨none,(some 11),.call (.k (.fn (.func 5) [] [])) [(.t 10),(.k (.int .i64 20))]⟩,
  ⟨none,(some 12),.bin .add (.k (.int .i64 1)) (.t 11)⟩,
  ⟨none,(some 0),.mov (.t 12)⟩])
 (.seq (.region false [⟨none,(some 13),.mov (.t 1)⟩,
  ⟨none,(some 14),.call (.k (.fn (.func 5) [] [])) [(.t 13),(.k (.int .i64 1000))]⟩,
  ⟨none,(some 5),.mov (.t 14)⟩])
 (.seq (.region false [⟨none,(some 6),.mov (.k .nils)⟩])
 (.seq (.region false [⟨none,(some 7),.mov (.k (.int .i64 1))⟩])
 (.seq (.seq (.region false [⟨none,(some 8),.mov (.k (.int .i64 0))⟩])
 (.block 0 (.loop a3L0)))
 (.seq (.region false [⟨none,(some 28),.mov (.t 6)⟩,
  ⟨none,(some 29),.build (rep 32 (w8 0#8)) [(0,1,(.k (w8 2#8)))]⟩,
  ⟨none,(some 30),.call (.k (.fn (.func 6) [] [])) [(.t 28),(.k (.int .i64 1)),(.t 29),(.k (.int .i64 1099511627776))]⟩,
  ⟨none,(some 9),.mov (.t 30)⟩])
 (.seq (.region false [⟨none,(some 31),.mov (.t 6)⟩,
  ⟨none,(some 32),.len (.t 31)⟩,
  ⟨none,(some 33),.bin .eql (.t 32) (.k (.int .i64 1))⟩,
  ⟨none,(some 34),.mov (.t 33)⟩,
  ⟨(some (34,true)),(some 35),.mov (.t 6)⟩,
  ⟨(some (34,true)),(some 36),.idxS 35 (.t 35) (.k (.int .i64 0))⟩,
  ⟨(some (34,true)),(some 37),.fld 34 (.t 36)⟩,
  ⟨(some (34,true)),(some 38),.load 1 false (.t 37)⟩,
  ⟨(some (34,true)),(some 39),.mov (.t 5)⟩,
  ⟨(some (34,true)),(some 40),.mov (.t 7)⟩,
  ⟨(some (34,true)),(some 41),.bin .add (.t 39) (.t 40)⟩,
  ⟨(some (34,true)),(some 42),.bin .eql (.t 38) (.t 41)⟩,
  ⟨none,(some 43),.pick (.t 34) (.t 42) (.k (.bool false))⟩,
  ⟨none,(some 44),.mov (.t 43)⟩,
  ⟨(some (44,true)),(some 45),.mov (.t 6)⟩,
  ⟨(some (44,true)),(some 46),.idxS 35 (.t 45) (.k (.int .i64 0))⟩,
  ⟨(some (44,true)),(some 47),.fld 33 (.t 46)⟩,
  ⟨(some (44,true)),(some 48),.load 1 false (.t 47)⟩,
  ⟨(some (44,true)),(some 49),.mov (.t 0)⟩,
  ⟨(some (44,true)),(some 50),.mm false [(.t 49),(.k (.int .i64 16))]⟩,
  ⟨(some (44,true)),(some 51),.bin .eql (.t 48) (.t 50)⟩,
  ⟨none,(some 52),.pick (.t 44) (.t 51) (.k (.bool false))⟩,
  ⟨none,(some 53),.mov (.t 52)⟩,
  ⟨(some (53,true)),(some 54),.mov (.t 9)⟩,
  ⟨(some (53,true)),(some 55),.len (.t 54)⟩,
  ⟨(some (53,true)),(some 56),.bin .eql (.t 55) (.k (.int .i64 1))⟩,
  ⟨none,(some 57),.pick (.t 53) (.t 56) (.k (.bool false))⟩,
  ⟨none,(some 58),.mov (.t 57)⟩,
  ⟨(some (58,true)),(some 59),.mov (.t 9)⟩,
  ⟨(some (58,true)),(some 60),.idxS 35 (.t 59) (.k (.int .i64 0))⟩,
  ⟨(some (58,true)),(some 61),.fld 34 (.t 60)⟩,
  ⟨(some (58,true)),(some 62),.load 1 false (.t 61)⟩,
  ⟨(some (58,true)),(some 63),.bin .eql (.t 62) (.k (.int .i64 1099511627776))⟩,
  ⟨none,(some 64),.pick (.t 58) (.t 63) (.k (.bool false))⟩,
  ⟨none,(some 65),.mov (.t 64)⟩,
  ⟨(some (65,true)),(some 66),.call (.k (.fn (.func 7) [] [])) []⟩,
  ⟨none,(some 67),.pick (.t 65) (.t 66) (.k (.bool false))⟩,
  ⟨none,(some 4),.mov (.t 67)⟩])
 .ret))))))))
 ntmps:=68
 res:=[.tmp 4]
theorem z842:zsjc P Try.f3=some a3:=by kernel_rfl
end Go.Proofs.Ytaihpefemjlilaa
set_option linter.unusedSimpArgs false
set_option linter.unusedVariables false
namespace Go.Proofs.Ytaihpefemjlilaa
open Go Go.Am
structure Cmd where
 kind:Int
 id:Int
 art:Dg
 deriving DecidableEq
structure Rnd where
 c:Clu
 o:List Cmd
structure Vw (gs:List (List UInt8 × List UInt8 × Int × Int × Int × List Dg)) (s:Rnd) (l:List Ins) (n:Int) (o:List Cmd):Prop where
 v:ValidC s.c
 g:s.c.g.l.map gl=gs
 i:s.c.i.l=l
 n:s.c.next=n
 o:s.o=o
section
variable {gs:List (List UInt8 × List UInt8 × Int × Int × Int × List Dg)} {s:Rnd} {l:List Ins} {n:Int} {o:List Cmd} {t:Int}
end
end Go.Proofs.Ytaihpefemjlilaa
set_option linter.unusedSimpArgs false
set_option linter.unusedVariables false
set_option maxRecDepth 4000
namespace Go.Proofs.Ytaihpefemjlilaa
open Go Go.Am
end Go.Proofs.Ytaihpefemjlilaa
set_option linter.unusedSimpArgs false
set_option linter.unusedVariables false
namespace Go.Proofs.Ytaihpefemjlilaa
open Go Go.Am
end Go.Proofs.Ytaihpefemjlilaa
set_option linter.unusedSimpArgs false
set_option linter.unusedVariables false
set_option maxRecDepth 8000
namespace Go.Proofs.Ytaihpefemjlilaa
open Go Go.Am
end Go.Proofs.Ytaihpefemjlilaa
set_option linter.unusedSimpArgs false
set_option linter.unusedVariables false
set_option maxRecDepth 8000
namespace Go.Proofs.Ytaihpefemjlilaa
open Go Go.Am
section
variable {α:Type} {lt:α→α→Bool}
end
def fl {α:Type} (f:α→List DV) (l:List α):List DV:=l.flatMap f
theorem z8lx {α:Type} {f:α→List DV} {K:Nat} (hu : ∀ a,(f a).length=K) (l:List α):(fl f l).length=l.length*K:=z1rq hu l
section
variable {α:Type} {f:α→List DV} {K:Nat}
end
section
variable {α:Type} {f:α→List DV} {K:Nat}
theorem zkaf {l m:List α}:fl f (l++m)=fl f l++fl f m:=by unfold fl; exact List.flatMap_append ..
theorem zvrp {h:List AObj} {id b m:Nat} {l:List α} {cs:List α} (hu : ∀ a,(f a).length=K) (h0:0<K) (hb:b≤16384) (ha : ∀ a,(f a).all DV.one=true) (hm:cs.length=m) (hbig:l.length+m≤4294967296) (ho:objV h id (l.length*K)=some (fl f l)) :
  appX h K b (.ms id (l.length*K) 0 K l.length (l.length*K)) m (cs.flatMap f)=some (.ms id ((l.length+m)*K) 0 K (l.length+m) ((l.length+m)*K),h.set id (.cells (fl f (l++cs)))):=by
 have hc:(cs.flatMap f).length=m*K:=by rw [z1rq hu,hm]
 rw [zbho rfl hb h0 (by rw [hc]) hbig (z9jy ha cs),ho,Option.map_some,hc,← Nat.add_mul,zkaf]
 rfl
end
section
variable {α:Type} {f:α→List DV} {K:Nat}
def oV (k K:Nat) (l:List α):DV:=if l=[] then .nils else .ms k (l.length*K) 0 K l.length (l.length*K)
def oT (f:α→List DV) (l:List α):List AObj:=if l=[] then [] else [.cells (fl f l)]
theorem zl8p {k:Nat}:oV k K ([]:List α) = .nils:=rfl
theorem zkrk:oT f []=[]:=rfl
theorem zpni {k:Nat} {l:List α} (h:l≠[]):oV k K l = .ms k (l.length*K) 0 K l.length (l.length*K):=if_neg h
theorem zu2l {l:List α} (h:l≠[]):oT f l=[.cells (fl f l)]:=if_neg h
theorem z612 {k b:Nat} {l cs:List α} {h:List AObj} (hp:h.length=k) (hu : ∀ a,(f a).length=K) (h0:0<K) (hb:b≤16384) (ha : ∀ a,(f a).all DV.one=true) (hbig:l.length+cs.length≤4294967296) :
  appX (h++oT f l) K b (oV k K l) cs.length (cs.flatMap f)=some (oV k K (l++cs),h++oT f (l++cs)):=by
 by_cases e:l=[]
 ·subst e
  rw [zl8p,zkrk,List.append_nil,List.nil_append]
  by_cases e2:cs=[]
  ·subst e2
   rw [show ([]:List α).flatMap f=[] from rfl,List.length_nil,zw6v hb h0,zl8p,zkrk,List.append_nil]
  ·have:=zsuq (h:=h) (s:=K) (b:=b) (m:=cs.length) (cs:=cs.flatMap f) hb h0 (by rw [z1rq hu]) (List.length_pos_iff.2 e2) (by simp at hbig; omega)
   rw [this,zpni e2,zu2l e2,z1rq hu,hp]; rfl
 ·have ho:objV (h++[AObj.cells (fl f l)]) k (l.length*K)=some (fl f l):=by
   unfold objV ziu0
   rw [List.getElem?_append_right (by omega),show k-h.length=0 by omega]
   simp [z8lx hu]
  have:=zvrp (h:=h++[AObj.cells (fl f l)]) (id:=k) (b:=b) (l:=l) (m:=cs.length) (cs:=cs) hu h0 hb ha rfl hbig ho
  rw [zpni e,zu2l e,this,zpni (by simp [e]),zu2l (by simp [e]),List.length_append,List.set_append_right _ _ (by omega),show k-h.length=0 by omega]
  rfl
theorem zte0 {k b:Nat} {l:List α} {x:α} {h:List AObj} (hp:h.length=k) (hu : ∀ a,(f a).length=K) (h0:0<K) (hb:b≤16384) (ha : ∀ a,(f a).all DV.one=true) (hbig:l.length+1≤4294967296) :
  appX (h++oT f l) K b (oV k K l) 1 (f x)=some (oV k K (l++[x]),h++oT f (l++[x])):=by
 have:=z612 (cs:=[x]) (b:=b) hp hu h0 hb ha hbig
 simpa using this
theorem zd81 {n:Nat} {l:List α} (hf : ∀ a,zbao (f a)=true):zlf2 n (oT f l)=true:=by
 unfold oT
 split
 ·rfl
 ·simp only [zlf2,fl,zmq5 _ _ (zp6k hf _),Bool.and_self]
theorem zv6o {k:Nat} {l:List α}:Am.below (k+(oT f l).length) (oV k K l)=true:=by
 unfold oV oT
 split<;>simp [Am.below]
end
def kLt (n:Nat):Nat→Bool:=fun id=>decide (id<n)
mutual
theorem zw9i {h:List AObj} (n:Nat) : ∀ (d:DV),Am.below n d=true→fzS (kLt n) h 3 d=some d
 | .agg cs,q=>by simp only [Am.below] at q; rw [zf3h,zw41 n cs q]; rfl
 | .tup cs,q=>by simp only [Am.below] at q; rw [zliz,zw41 n cs q]; rfl
 | .sl _ _ _ cs,q=>by simp only [Am.below] at q; rw [zfs9,zw41 n cs q]; rfl
 | .ref cs,q=>by simp only [Am.below] at q; rw [zeo2,zw41 n cs q]; rfl
 | .fn _ a b,q=>by simp only [Am.below,Bool.and_eq_true] at q; rw [z284,zw41 n a q.1,zw41 n b q.2]; rfl
 | .iface t v,q=>by
  simp only [Am.below] at q
  have:=zw9i (h:=h) n v q
  simp only [fzS,zcxt] at this ⊢
  rw [this]; rfl
 | .ms id ..,q=>by simp only [Am.below,decide_eq_true_eq] at q; rw [zi9r,if_pos (by simpa [kLt] using q)]
 | .mp id ..,q=>by simp only [Am.below,decide_eq_true_eq] at q; rw [zept,if_pos (by simpa [kLt] using q)]
 | .int ..,_=>zzxw rfl
 | .bool ..,_=>zzxw rfl
 | .str ..,_=>zzxw rfl
 | .nilp,_=>zzxw rfl
 | .nilm,_=>zzxw rfl
 | .nilf,_=>zzxw rfl
 | .nili,_=>zzxw rfl
 | .nils,_=>zzxw rfl
 | .junk,_=>zzxw rfl
theorem zw41 {h:List AObj} (n:Nat) : ∀ (l:List DV),belowL n l=true→fzSo (kLt n) h 3 l=some l
 | [],_=>zmvq
 | d::r,q=>by simp only [belowL,Bool.and_eq_true] at q; rw [zhuj,zw9i n d q.1,zw41 n r q.2]; rfl
end
end Go.Proofs.Ytaihpefemjlilaa
set_option linter.unusedSimpArgs false
set_option linter.unusedVariables false
set_option maxRecDepth 20000
namespace Go.Proofs.Ytaihpefemjlilaa
open Go Go.Am
def cmC (x:Cmd):List DV := .int .i64 x.kind :: .int .i64 x.id::dgC x.art
theorem zfq1 (x:Cmd):(cmC x).length=34:=by simp [cmC,z1t1]
theorem zoyx (x:Cmd):zbao (cmC x)=true:=by simp only [cmC,zbao,zyp8,Bool.true_and]; exact z3ot _
theorem z095 (x:Cmd):(cmC x).all DV.one=true:=by
 simp only [cmC,List.all_cons,Bool.and_eq_true]
 exact ⟨rfl,rfl,by simp [dgC,zzst]⟩
structure EF where
 pre:List AObj
 hp : ∀ n,pre.length≤n→zlf2 n pre=true
 x0:DV
 x1:DV
 T:DV
 px0:zyp8 x0=true
 px1:zyp8 x1=true
 pT:zyp8 T=true
 t:Int
def EF.b (F:EF):Nat:=F.pre.length
def EF.rd (F:EF) (c:Clu) (q:DV):List DV:=[c.g.dv 6 grC,c.i.dv 37 inC,.int .i64 c.next,F.x0,F.x1,F.T,.int .i64 F.t,q]
def EF.G (F:EF) (c:Clu) (q:DV) (o:List Cmd):List AObj:=F.pre++(.cells (F.rd c q)::oT cmC o)
def EF.H (F:EF) (s:Rnd):List AObj:=F.G s.c (oV (F.b+1) 34 s.o) s.o
section
variable {F:EF} {c c':Clu} {q q':DV} {o:List Cmd}
theorem EF.set:(F.G c q o).set F.b (.cells (F.rd c' q'))=F.G c' q' o:=by
 unfold EF.G EF.b
 rw [List.set_append_right _ _ (Nat.le_refl _),Nat.sub_self]; rfl
theorem EF.app {x:Cmd} (hb:o.length+1≤4294967296):appX (F.G c q o) 34 48 (oV (F.b+1) 34 o) 1 (cmC x)=some (oV (F.b+1) 34 (o++[x]),F.G c q (o++[x])):=by
 have:=zte0 (k:=F.b+1) (K:=34) (b:=48) (f:=cmC) (l:=o) (x:=x) (h:=F.pre++[.cells (F.rd c q)]) (by simp [EF.b]) zfq1 (by decide) (by decide) z095 hb
 simp only [List.append_assoc,List.singleton_append] at this
 exact this
theorem EF.len:F.b<(F.G c q o).length:=by unfold EF.G EF.b; simp
theorem EF.belowL {n:Nat} (hq:Am.below n q=true):Am.belowL n (F.rd c q)=true:=by
 simp only [EF.rd,Am.belowL,z8b8 _ _ (z1vd c.g),z8b8 _ _ (zcha c.i),z8b8 _ _ F.px0,z8b8 _ _ F.px1,z8b8 _ _ F.pT,hq]
 rfl
end
theorem zrlz {n:Nat} : ∀ {a b:List AObj},zlf2 n a=true→zlf2 n b=true→zlf2 n (a++b)=true
 | [],_,_,h=>h
 | .cells c::r,b,h1,h2=>by
  simp only [zlf2,Bool.and_eq_true,List.cons_append] at h1 ⊢
  exact ⟨h1.1,zrlz h1.2 h2⟩
 | .dead::r,b,h1,h2=>by
  simp only [zlf2,List.cons_append] at h1 ⊢
  exact zrlz h1 h2
theorem EF.below (F:EF) (s:Rnd) {n:Nat} (hn:(F.H s).length≤n):zlf2 n (F.H s)=true:=by
 unfold EF.H EF.G at hn ⊢
 simp only [List.length_append,List.length_cons] at hn
 refine zrlz (F.hp n (by omega)) ?_
 simp only [zlf2,Bool.and_eq_true]
 refine ⟨EF.belowL ?_,zd81 zoyx⟩
 have:=zv6o (k:=F.b+1) (K:=34) (f:=cmC) (l:=s.o)
 by_cases h:s.o=[]
 ·rw [h,zl8p]; rfl
 ·rw [zpni h]
  simp only [Am.below,decide_eq_true_eq]
  rw [zu2l h] at hn
  simp only [List.length_singleton] at hn
  unfold EF.b; omega
end Go.Proofs.Ytaihpefemjlilaa
set_option linter.unusedSimpArgs false
set_option linter.unusedVariables false
set_option maxRecDepth 20000
namespace Go.Proofs.Ytaihpefemjlilaa
open Go Go.Am
end Go.Proofs.Ytaihpefemjlilaa
set_option linter.unusedSimpArgs false
set_option linter.unusedVariables false
set_option maxRecDepth 8000
namespace Go.Proofs.Ytaihpefemjlilaa
open Go Go.Am
abbrev Str:=List UInt8
structure Tot {α:Type} (lt:α→α→Bool):Prop where
 irr : ∀ a,lt a a=false
 tr : ∀ a b c,lt a b=true→lt b c=true→lt a c=true
 tot : ∀ a b,lt a b=true∨a=b∨lt b a=true
section
variable {α:Type} [DecidableEq α] {lt:α→α→Bool}
end
theorem zrk4 : ∀ a:Str,Op.bytesLess a a=false
 | []=>rfl
 | a::l=>by simp [Op.bytesLess,zrk4 l]
theorem z8c3 : ∀ a b c:Str,Op.bytesLess a b=true→Op.bytesLess b c=true→Op.bytesLess a c=true
 | _,_,[],_,h=>by simp [Op.bytesLess] at h
 | [],_,_::_,_,_=>rfl
 | _::_,[],_::_,h,_=>by simp [Op.bytesLess] at h
 | a::x,b::y,c::z,h1,h2=>by
  simp only [Op.bytesLess,Bool.or_eq_true,Bool.and_eq_true,decide_eq_true_eq,beq_iff_eq] at *
  rcases h1 with h1|⟨h1,h1'⟩
  ·rcases h2 with h2|⟨h2,h2'⟩
   ·exact .inl (UInt8.lt_trans h1 h2)
   ·exact .inl (h2▸h1)
  ·rcases h2 with h2|⟨h2,h2'⟩
   ·exact .inl (h1▸h2)
   ·exact .inr ⟨h1.trans h2,z8c3 _ _ _ h1' h2'⟩
theorem zoet : ∀ a b:Str,Op.bytesLess a b=true∨a=b∨Op.bytesLess b a=true
 | [],[] => .inr (.inl rfl)
 | [],_::_ => .inl rfl
 | _::_,[] => .inr (.inr rfl)
 | a::x,b::y=>by
  simp only [Op.bytesLess,Bool.or_eq_true,Bool.and_eq_true,decide_eq_true_eq,beq_iff_eq]
  rcases UInt8.lt_or_lt_of_ne (a:=a) (b:=b) |> fun h=>(Classical.em (a=b)).imp_right h with e|e|e
  ·rcases zoet x y with q|q|q
   ·exact .inl (.inr ⟨e,q⟩)
   ·exact .inr (.inl (by rw [e,q]))
   ·exact .inr (.inr (.inr ⟨e.symm,q⟩))
  ·exact .inl (.inl e)
  ·exact .inr (.inr (.inl e))
def dgU (d:Dg):List UInt8:=d.1.map fun b=>b.toNat.toUInt8
theorem zvz3 {a b:B8} (h:a.toNat.toUInt8=b.toNat.toUInt8):a=b:=by
 have ha:=a.isLt
 have hb:=b.isLt
 have h1:=congrArg UInt8.toNat h
 simp only [Nat.toUInt8_eq,UInt8.toNat_ofNat',Nat.mod_eq_of_lt ha,Nat.mod_eq_of_lt hb] at h1
 exact BitVec.eq_of_toNat_eq h1
theorem znyd (a b:Dg) (h:dgU a=dgU b):a=b:=Subtype.ext (List.map_inj_right (fun _ _=>zvz3) |>.1 h)
def u8L (l:List B8):List UInt8:=l.map fun b=>b.toNat.toUInt8
theorem zi7v {E:Env} {X:Forb} {w:World} {v:Value} {b:B8} (h:Rep E X w v (w8 b)):v = .int .u8 b.toNat:=by
 cases h; rfl
theorem zq08 {P:Program} {w:World} {a:Addr} {x:List B8} {cv:Nat→Value} (hc : ∀ i,i<(x.map w8).length→w.cell? (a.add i)=some (cv i)) {E:Env} {X:Forb} (hr : ∀ i (h:i<(x.map w8).length),Rep E X w (cv i) (x.map w8)[i]) :
  (Extern.Bytes.loadBytes a x.length .empty).run P w = .ok ⟨(u8L x).toArray⟩ w:=by
 have h:=Lib.run_loadBytesX (P:=P) (w:=w) (x.map fun b=>(b.toNat:Int)) a .empty (fun j y hy=>by
  obtain ⟨hj,e⟩:=List.getElem?_eq_some_iff.1 hy
  have hj':j<x.length:=by simpa using hj
  have h1:=hc j (by simpa using hj')
  have h2:=hr j (by simpa using hj')
  rw [List.getElem_map] at h2
  rw [h1,zi7v h2]
  rw [List.getElem_map] at e
  rw [e])
 rw [List.length_map] at h
 rw [h]
 have e:Lib.bytesOf (x.map fun b=>(b.toNat:Int))=u8L x:=by simp [Lib.bytesOf,u8L,List.map_map,Function.comp_def]
 rw [e]
 simp
theorem zf9q {P : Program} {f : FuncId} {fn : Func} (hf : P.funcs[f]? = some fn) (h1 : (fn.name == "runtime.NumGoroutine") = false) (h2 : fn.body.isNone = true) (h3 : Extern.findNext fn = none) (h4 : Extern.find fn = some Extern.BytealgCompare.compare) (x y : List B8) (fx fy : Bool) :
  Am.Sem P f [.sl fx 1 x.length (x.map w8),.sl fy 1 y.length (y.map w8)] (.int .i64 (Lib.compareBytes (u8L x) (u8L y))):=by
 intro X w vs _ hr
 obtain ⟨v1,v2,rfl,hx,hy⟩:=zaih hr
 cases hx with
 | sl _ _ _ cap1 a1 _ cv1 hn1 hf1 hl1 hc1 hx1 hr1 =>
 cases hy with
 | sl _ _ _ cap2 a2 _ cv2 hn2 hf2 hl2 hc2 hx2 hr2 =>
 refine .inr ⟨_,w,?_,_,rfl,Rep.int .i64 _,BelowD.refl _ w⟩
 have hrun:(Extern.BytealgCompare.compare #[.slice (some a1) x.length cap1,.slice (some a2) y.length cap2]).run P w = .ok (.int .i64 (Lib.compareBytes (u8L x) (u8L y))) w:=by
  change Sem.run P (do pure (goInt (Extern.BytealgCompare.cmp (← Extern.Bytes.bytesOf (.slice (some a1) x.length cap1)) (← Extern.Bytes.bytesOf (.slice (some a2) y.length cap2))))) w=_
  simp only [Extern.Bytes.bytesOf,Sem.run_bind,Sem.run_pure,zq08 hc1 hr1,zq08 hc2 hr2,Result.andThen]
  rw [Lib.cmp_eq]
  rfl
 rw [run_callFunc_extern hf h1 h2 h3 h4,hrun]
 rfl
abbrev BB:=(Bool × List B8) × (Bool × List B8)
def fBB (a:BB):List DV:=[.sl a.1.1 1 a.1.2.length (a.1.2.map w8),.sl a.2.1 1 a.2.2.length (a.2.2.map w8)]
noncomputable def cBc:List DV→Option DV:=con (fun _=>True) fBB (fun a => .int .i64 (Lib.compareBytes (u8L a.1.2) (u8L a.2.2)))
theorem zdrm {f g:Bool} {a b:List B8}:cBc [.sl f 1 a.length (a.map w8),.sl g 1 b.length (b.map w8)]=some (.int .i64 (Lib.compareBytes (u8L a) (u8L b))) :=
 zsn4 (f:=fBB) (g:=fun a => .int .i64 (Lib.compareBytes (u8L a.1.2) (u8L a.2.2))) (by
  rintro ⟨⟨a,b⟩,⟨c,d⟩⟩ ⟨⟨a',b'⟩,⟨c',d'⟩⟩ e
  simp only [fBB,List.cons.injEq,DV.sl.injEq,and_true,true_and] at e
  obtain ⟨⟨rfl,-,e1⟩,rfl,-,e2⟩:=e
  rw [zwcl] at e1 e2
  rw [e1,e2]) ((f,a),(g,b))
noncomputable def T520:Tbl:=addT 48 (.pure cBc) tbl0
theorem z2c4:T520 48 = .pure cBc:=by simp [T520]
theorem z4p8:T520.Sound P:=z0rp (z2au fun a _=>zf9q Try.func48 (by kernel_rfl) (by kernel_rfl) (by kernel_rfl) (by kernel_rfl) a.1.2 a.2.2 a.1.1 a.2.1) zr5o
theorem zag9 (a:BB):Runs T520 a30 (fBB a) (.int .i64 (Lib.compareBytes (u8L a.1.2) (u8L a.2.2))):=by
 refine ⟨?_⟩
 obtain ⟨⟨f,a⟩,⟨g,b⟩⟩:=a
 simp (disch:=first|omega|simp<;>omega|fail) [-zA,-zB,-zC,-zD,-zE,fBB,a30,z2c4,zdrm]
theorem zroj:(Con.pure cBc).Sound P 30:=z2au fun a _=>zljw mix z4p8 Try.func30 z3f8 (zag9 a)
def zsy0 (a b:Dg):Int:=Lib.compareBytes (dgU a) (dgU b)
theorem z1f4 {f g:Bool} {a b:Dg}:cBc [.sl f 1 32 (dgC a),.sl g 1 32 (dgC b)]=some (.int .i64 (zsy0 a b)):=by
 have:=zdrm (f:=f) (g:=g) (a:=a.1) (b:=b.1)
 rw [a.2,b.2] at this
 exact this
section
variable {α:Type} {f:α→List DV} {K:Nat}
end
end Go.Proofs.Ytaihpefemjlilaa
