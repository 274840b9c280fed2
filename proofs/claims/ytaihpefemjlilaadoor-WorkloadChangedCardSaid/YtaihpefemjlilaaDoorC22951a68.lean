/-
  16 texts of mine in one.
-/
import Derived.Lib.IndexLaws
import Derived.Test.YtaihpefemjlilaaDoorProg
import Derived.Test.YtaihpefemjlilaaDoorC51115a3f
import Derived.Test.YtaihpefemjlilaaDoorC46c001cc
import Derived.Test.YtaihpefemjlilaaDoorC2aaef907
import Derived.Test.YtaihpefemjlilaaDoorC320499bd
set_option maxRecDepth 20000
set_option maxHeartbeats 4000000
open List renaming map_take → zA, map_drop → zB, map_set → zC, map_append → zD, drop_one → zE
open Bool renaming and_eq_true → y07, and_self → y0b, true_and → y0t
open List renaming take_of_length_le → y00, flatMap_cons → y01, drop_eq_getElem_cons → y02, drop_of_length_le → y03, set_eq_take_append_cons_drop → y04, take_append_of_le_length → y05, drop_drop → y06, length_drop → y08, all_cons → y0a, length_pos_iff → y0c, getElem?_eq_some_iff → y0d, all_nil → y0e, append_assoc → y0f, drop_append → y0h, all_append → y0j, length_append → y0k, take_append → y0l, getElem_mem → y0n, length_map → y0p, set_append_right → y0r, length_singleton → y0s, map_cons → y0u, flatMap_append → y0v
open Nat renaming add_mul → y0g, le_refl → y0q
open Option renaming bind_some → y09, map_some → y0i, bind_none → y0m, map_none → y0o
namespace Go.Proofs.YtaihpefemjlilaaDoor
section
set_option linter.unusedSimpArgs false
set_option linter.unusedVariables false
open Go Go.Am
abbrev B8:=BitVec 8
inductive Pt where
 | one (c:B8)|dot|some|whole
deriving DecidableEq
def Pt.long:Pt→Bool
 | .some=>true | .whole=>true|_=>false
def Pt.takes:Pt→B8→Bool
 | .one c,b=>b == c | .whole,_=>true|_,b=>b != 47#8
def bAt (s:List UInt8) (i:Nat):B8:=(s.getD i 0).toBitVec
def row (x:Pt) (s:List UInt8) (prev:Nat→Bool):Nat→Bool
 | 0=>x.long&&prev 0
 | i+1=>if x.long then prev (i+1)||(row x s prev i&&x.takes (bAt s i)) else prev i&&x.takes (bAt s i)
def M (l:List Pt) (s:List UInt8):Nat→Nat→Bool
 | 0=>fun i=>i == 0
 | k+1=>row (l.getD k .dot) s (M l s k)
def noZ (s:List UInt8):Bool:=s.all fun c=>c != 0
def z2fg:List UInt8→List (List UInt8)
 | []=>[[]]
 | c::r=>if c=47 then []::z2fg r else
  match z2fg r with
  | []=>[[c]]
  | h::t=>(c::h)::t
def okC (x:List UInt8):Bool:=x != []&&x != [46]&&x != [46,46]
def zj1f (s:List UInt8):Bool:=decide (1≤s.length)&&decide (s.length≤200)&&noZ s&&(z2fg s).all okC
theorem zq22 (c:UInt8):c.toBitVec.toNat.toUInt8=c:=by simp
theorem zf0z : ∀ (s:List UInt8),z2fg s≠[]
 | []=>by simp [z2fg]
 | c::r=>by
  rw [z2fg]
  split
  ·simp
  ·split<;>simp
theorem zjyx (r:List UInt8):z2fg (47::r)=[]::z2fg r:=by simp [z2fg]
theorem zyty {c:UInt8} {r h:List UInt8} {t:List (List UInt8)} (hc:c≠47) (hr:z2fg r=h::t):z2fg (c::r)=(c::h)::t:=by simp [z2fg,hc,hr]
theorem zzaw (r:List UInt8) : ∃ h t,z2fg r=h::t:=by
 cases e:z2fg r with
 | nil=>exact absurd e (zf0z r)
 | cons h t=>exact ⟨h,t,rfl⟩
theorem z1q7 (b:UInt8) (l:List UInt8) (c:UInt8):Lib.indexByte (b::l) c=if b=c then 0 else if Lib.indexByte l c = -1 then -1 else Lib.indexByte l c+1:=by
 simp [Lib.indexByte]
theorem zbf3 : ∀ {s:List UInt8},Lib.indexByte s 47 = -1→z2fg s=[s]
 | [],_=>rfl
 | c::r,h=>by
  rw [z1q7] at h
  split at h
  ·simp at h
  ·rename_i hc
   split at h
   ·rename_i hr; exact zyty hc (zbf3 hr)
   ·have:=Lib.indexByte_ge r 47; omega
theorem zjoj : ∀ {s:List UInt8} {o:Nat},Lib.indexByte s 47=o→z2fg s=s.take o::z2fg (s.drop (o+1))
 | [],o,h=>by simp [Lib.indexByte] at h
 | c::r,o,h=>by
  rw [z1q7] at h
  split at h
  ·rename_i hc
   have:o=0:=by omega
   subst this; subst hc
   simp [zjyx]
  ·rename_i hc
   split at h
   ·omega
   ·obtain ⟨o',rfl⟩ : ∃ o',o=o'+1:=⟨o-1,by have:=Lib.indexByte_ge r 47; omega⟩
    have:=zjoj (s:=r) (o:=o') (by omega)
    rw [zyty hc this]
    simp
theorem z9lv : ∀ (s:List UInt8),(z2fg s).length=Lib.countByte s 47+1
 | []=>rfl
 | c::r=>by
  have ih:=z9lv r
  obtain ⟨h,t,e⟩:=zzaw r
  by_cases hc:c=47
  ·subst hc; rw [zjyx]; simp [ih,Lib.countByte]
  ·rw [zyty hc e]
   rw [e] at ih
   simp [Lib.countByte,List.count_cons,hc] at ih ⊢
   exact ih
theorem zc5k : ∀ (s:List UInt8),noZ s=decide (Lib.indexByte s 0 = -1)
 | []=>rfl
 | c::r=>by
  have ih:=zc5k r
  have hg:=Lib.indexByte_ge r 0
  have e:noZ (c::r)=(c != 0&&noZ r):=by simp [noZ]
  rw [e,ih,z1q7]
  by_cases hc:c=0
  ·simp [hc]
  ·by_cases hr:Lib.indexByte r 0 = -1
   ·simp [hc,hr]
   ·simp [hc,hr]; omega
theorem z8bu {s:List UInt8} {c:UInt8} {o:Nat} (h:Lib.indexByte s c=o):o<s.length:=by
 have:=(Lib.indexByte_some h).1
 exact (y0d.1 this).1
end
section
set_option linter.unusedSimpArgs false
set_option linter.unusedVariables false
open Go Go.Am
abbrev Dg:={ a:List B8 // a.length=32 }
def dgC (d:Dg):List DV:=d.1.map w8
def dg0:Dg:=⟨rep 32 0#8,by simp [rep]⟩
theorem z1t1 (d:Dg):(dgC d).length=32:=by simp [dgC,d.2]
theorem z3ot (d:Dg):zbao (dgC d)=true:=zdqb
theorem zib9 {a b:Dg} (h:dgC a=dgC b):a=b:=Subtype.ext (by rw [dgC,dgC,zwcl] at h; exact h)
structure Sl (α:Type) where
 k:Option Bool
 l:List α
 h:k=none→l=[]
 b:l.length≤4294967296
def Sl.dv {α:Type} (x:Sl α) (s:Nat) (f:α→List DV):DV:=slD x.k s x.l.length (x.l.flatMap f)
section
variable {α:Type} {f:α→List DV} {s:Nat} {h:List AObj} {x:Sl α} {n k:Nat}
theorem z707 {b:Bool} {l:List α} {h:some b=none→l=[]} {hb:l.length≤4294967296}:(⟨some b,l,h,hb⟩:Sl α).dv s f = .sl b s l.length (l.flatMap f):=rfl
theorem z5oj {h:none=none→([]:List α)=[]} {hb:([]:List α).length≤4294967296}:(⟨none,[],h,hb⟩:Sl α).dv s f = .nils:=rfl
theorem z1rq (hu : ∀ a,(f a).length=s) : ∀ (l:List α),(l.flatMap f).length=l.length*s
 | []=>by simp
 | a::l=>by rw [y01,y0k,hu,z1rq hu l,List.length_cons,y0g]; omega
theorem z10w (hu : ∀ a,(f a).length=s) : ∀ (l:List α) (i:Nat),(l.flatMap f).take (i*s)=(l.take i).flatMap f
 | [],i=>by simp
 | a::l,0=>by simp
 | a::l,i+1=>by
  have ha:=hu a
  rw [y01,y0l,y00 (by rw [ha,y0g]; omega),ha,show (i+1)*s-s=i*s from by rw [y0g]; omega,z10w hu l,List.take_succ_cons,y01]
theorem zkb2 (hu : ∀ a,(f a).length=s) : ∀ (l:List α) (i:Nat),(l.flatMap f).drop (i*s)=(l.drop i).flatMap f
 | [],i=>by simp
 | a::l,0=>by simp
 | a::l,i+1=>by
  have ha:=hu a
  rw [y01,y0h,y03 (by rw [ha,y0g]; omega),ha,show (i+1)*s-s=i*s from by rw [y0g]; omega,zkb2 hu l,List.nil_append,List.drop_succ_cons]
theorem zdao (hu : ∀ a,(f a).length=s) {l:List α} {i:Nat} (hi:i<l.length):((l.flatMap f).drop (i*s)).take s=f l[i]:=by
 rw [zkb2 hu,y02 hi,y01,List.take_left' (hu _)]
theorem zg0c : ∀ {a b:List DV},zbao a=true→zbao b=true→zbao (a++b)=true
 | [],_,_,h=>h
 | d::r,b,h1,h2=>by simp only [List.cons_append,zbao,y07] at *; exact ⟨h1.1,zg0c h1.2 h2⟩
theorem zp6k (hp : ∀ a,zbao (f a)=true) : ∀ (l:List α),zbao (l.flatMap f)=true
 | []=>rfl
 | a::l=>by rw [y01]; exact zg0c (hp a) (zp6k hp l)
theorem z47w (hu : ∀ a,(f a).length=s) {l:List α} {i:Nat} (hi:i<l.length) (b:α):zk7y (l.flatMap f) (i*s) (f b)=(l.set i b).flatMap f:=by
 unfold zk7y
 rw [z10w hu,hu b,show i*s+s=(i+1)*s by rw [y0g,Nat.one_mul],zkb2 hu,y04,if_pos hi]
 simp
theorem zxxb (hp : ∀ a,zbao (f a)=true) (x:Sl α):zyp8 (x.dv s f)=true:=by
 obtain ⟨k,l,h,hb1⟩:=x
 cases k with
 | none=>rfl
 | some b=>show zbao _=true; exact zp6k hp l
theorem z4ja (x:Sl α):(x.dv s f).one=true:=by obtain ⟨k,l,h,hb1⟩:=x; cases k<;>rfl
theorem ztw5 (x:Sl α):(x.dv s f).known=true:=by obtain ⟨k,l,h,hb1⟩:=x; cases k<;>rfl
theorem zs9p (x:Sl α):(x.dv s f).cells=[x.dv s f]:=by obtain ⟨k,l,h,hb1⟩:=x; cases k<;>rfl
theorem zupj:lenD h (x.dv s f)=some (.int .i64 x.l.length):=by
 obtain ⟨k,l,h,hb1⟩:=x
 cases k with
 | none=>cases h rfl; rfl
 | some b=>rfl
theorem zalo (hu : ∀ a,(f a).length=s) {i:Nat} (hi:i<x.l.length):zpsc h s (x.dv s f) i=some (.ref (f x.l[i])):=by
 obtain ⟨k,l,h,hb1⟩:=x
 cases k with
 | none=>cases h rfl; simp at hi
 | some b =>
  simp only [Sl.dv,zip4]
  rw [zsu0 (by omega) (by simp only at hi; omega),Int.toNat_natCast,zdao hu hi]
def Sl.part (x:Sl α) (i j:Nat) (b:Bool):Sl α:=⟨x.k.map fun c=>c&&b,(x.l.drop i).take (j-i),fun e=>by simp at e; simp [x.h e],by have:=x.b; simp; omega⟩
theorem z0ke (hu : ∀ a,(f a).length=s) {lo hi:Option DV} {i j:Nat} (hb:zo77 x.l.length lo hi=some (i,j)) (hij:j≤x.l.length):ziwb h s (x.dv s f) lo hi none=some ((x.part i j (j == x.l.length)).dv s f):=by
 obtain ⟨k,l,h,hb1⟩:=x
 cases k with
 | none=>cases h rfl; simp at hb hij; simp only [Sl.dv,z6vl,Sl.part,y0o]; rw [zmk5 hb]
 | some b =>
  simp only at hb hij
  simp only [Sl.dv,zip4,Sl.part,y0i]
  rw [zygc hb,zkb2 hu,z10w hu]
  simp only [List.length_take,y08]
  congr 2
  omega
theorem z2x3:zrfk h (x.dv s f)=some (0,x.k.isNone):=by obtain ⟨k,l,h,hb1⟩:=x; cases k<;>rfl
end
structure Grp where
 ns:List UInt8
 im:List UInt8
 want:Int
 least:Int
 down:Int
 ch:Sl Dg
def grC (g:Grp):List DV:=[.str g.ns,.str g.im,.int .i64 g.want,.int .i64 g.least,.int .i64 g.down,g.ch.dv 32 dgC]
structure Ins where
 id:Int
 grp:Int
 art:Dg
 state:Int
 since:Int
 den:Int
 deriving DecidableEq
def inC (x:Ins):List DV := .int .i64 x.id :: .int .i64 x.grp::(dgC x.art++[.int .i64 x.state,.int .i64 x.since,.int .i64 x.den])
structure Clu where
 g:Sl Grp
 i:Sl Ins
 next:Int
def clC (c:Clu):List DV:=[c.g.dv 6 grC,c.i.dv 37 inC,.int .i64 c.next]
theorem zry4 (g:Grp):(grC g).length=6:=by simp [grC]
theorem z6gw (x:Ins):(inC x).length=37:=by simp [inC,z1t1]
theorem zlha (c:Clu):(clC c).length=3:=by simp [clC]
theorem zpfc (x:Sl Dg):zyp8 (x.dv 32 dgC)=true:=zxxb z3ot x
theorem zxeb (g:Grp):zbao (grC g)=true:=by simp [grC,zbao,zyp8,zpfc]
theorem z9kv (x:Ins):zbao (inC x)=true:=by
 simp only [inC,zbao,zyp8,y0t]
 exact zg0c (z3ot _) (by simp [zbao,zyp8])
theorem z1vd (x:Sl Grp):zyp8 (x.dv 6 grC)=true:=zxxb zxeb x
theorem zcha (x:Sl Ins):zyp8 (x.dv 37 inC)=true:=zxxb z9kv x
theorem zy11 (c:Clu):zbao (clC c)=true:=by simp [clC,zbao,zyp8,z1vd,zcha]
theorem zrji (x:Ins):(inC x).drop 2=dgC x.art++[.int .i64 x.state,.int .i64 x.since,.int .i64 x.den]:=rfl
theorem zlh1 (x:Ins):(inC x).drop 34=[.int .i64 x.state,.int .i64 x.since,.int .i64 x.den]:=by
 rw [show (34:Nat)=2+32 from rfl,← y06,zrji,List.drop_left' (z1t1 _)]
theorem z3vc (x:Ins):(inC x).drop 35=[.int .i64 x.since,.int .i64 x.den]:=by
 rw [show (35:Nat)=34+1 from rfl,← y06,zlh1]; rfl
theorem zlte (x:Ins):(inC x).drop 36=[.int .i64 x.den]:=by
 rw [show (36:Nat)=34+2 from rfl,← y06,zlh1]; rfl
section
variable {x:Ins} {g:Grp} {c:Clu} {d:Dg} {r:List DV}
theorem zgz3:oneC 1 false (inC x)=some (.int .i64 x.id):=rfl
theorem zyv0:oneC 1 false ((inC x).drop 1)=some (.int .i64 x.grp):=rfl
theorem zm6n:oneC 32 true ((inC x).drop 2)=some (.agg (dgC x.art)):=by
 rw [zrji]; simp only [oneC,if_true]; rw [if_pos (by simp [z1t1]),List.take_left' (z1t1 _)]
theorem zvh3:oneC 1 false ((inC x).drop 34)=some (.int .i64 x.state):=by rw [zlh1]; rfl
theorem zmwz:oneC 1 false ((inC x).drop 35)=some (.int .i64 x.since):=by rw [z3vc]; rfl
theorem z0hu:oneC 1 false ((inC x).drop 36)=some (.int .i64 x.den):=by rw [zlte]; rfl
theorem zisq:oneC 37 true (inC x)=some (.agg (inC x)):=by simp [oneC,z6gw,y00]
theorem zuce:oneC 6 true (grC g)=some (.agg (grC g)):=rfl
theorem zn7v:oneC 1 false (grC g)=some (.str g.ns):=rfl
theorem zuiq:oneC 1 false ((grC g).drop 1)=some (.str g.im):=rfl
theorem zhlv:oneC 1 false ((grC g).drop 2)=some (.int .i64 g.want):=rfl
theorem z9em:oneC 1 false ((grC g).drop 3)=some (.int .i64 g.least):=rfl
theorem z8ho:oneC 1 false ((grC g).drop 4)=some (.int .i64 g.down):=rfl
theorem zmm6:oneC 1 false ((grC g).drop 5)=some (g.ch.dv 32 dgC):=rfl
theorem zei9:oneC 3 true (clC c)=some (.agg (clC c)):=rfl
theorem zhtb:oneC 1 false (clC c)=some (c.g.dv 6 grC):=rfl
theorem zxyh:oneC 1 false ((clC c).drop 1)=some (c.i.dv 37 inC):=rfl
theorem zawu:oneC 1 false ((clC c).drop 2)=some (.int .i64 c.next):=rfl
theorem zwwo:oneC 32 true (dgC d)=some (.agg (dgC d)):=by simp [oneC,z1t1,y00]
theorem zkf8 {off n:Nat} {a:Bool} (hl:off+n≤37):zhj0 off n a (.agg (inC x))=oneC n a ((inC x).drop off):=by simp [zhj0,z6gw,hl]
theorem z28g {off n:Nat} {a:Bool} (hl:off+n≤6):zhj0 off n a (.agg (grC g))=oneC n a ((grC g).drop off):=by simp [zhj0,zry4,hl]
theorem z715 {off n:Nat} {a:Bool} (hl:off+n≤3):zhj0 off n a (.agg (clC c))=oneC n a ((clC c).drop off):=by simp [zhj0,zlha,hl]
end
attribute [simp] z1t1 zry4 z6gw zlha zupj z2x3 z4ja ztw5 zs9p zgz3 zyv0 zm6n zvh3 zmwz z0hu zisq zuce zn7v zuiq zhlv z9em z8ho zmm6 zei9 zhtb zxyh zawu zwwo zkf8 z28g z715 z3ot zxeb z9kv zy11 zpfc z1vd zcha
theorem zid2 : ∀ {ks1 ks2:List Nat} {a1 a2 b1 b2:List DV},a1.length=ks1.length→b1.length=ks1.length→z32s (ks1++ks2) (a1++a2) (b1++b2)=(z32s ks1 a1 b1).bind fun p=>(z32s ks2 a2 b2).map fun q=>p&&q
 | [],ks2,[],a2,[],b2,_,_=>by simp [z32s]
 | k::ks1,ks2,x::a1,a2,y::b1,b2,h1,h2=>by
  simp only [List.cons_append,z32s,zid2 (ks1:=ks1) (a1:=a1) (b1:=b1) (by simpa using h1) (by simpa using h2)]
  cases znnj k x y<;>simp only [y0m,y09]
  cases z32s ks1 a1 b1<;>simp only [y0m,y09,y0o,y0i]
  cases z32s ks2 a2 b2<;>simp only [y0o,y0i,Bool.and_assoc]
theorem zyiz {a b:Dg}:z32s (zi5g [(32,0)]) (dgC a) (dgC b)=some (decide (a=b)):=by
 rw [dgC,dgC,zgre a.2 b.2]
 simp only [Subtype.ext_iff]
theorem zbik {a b c a' b' c':Int}:z32s [0,0,0] [.int .i64 a,.int .i64 b,.int .i64 c] [.int .i64 a',.int .i64 b',.int .i64 c']=some (decide (a=a'∧b=b'∧c=c')):=by
 simp [z32s,znnj]; rfl
theorem z540 {a b a' b':Int}:z32s [0,0] [.int .i64 a,.int .i64 b] [.int .i64 a',.int .i64 b']=some (decide (a=a'∧b=b')):=by
 simp [z32s,znnj]; rfl
theorem zmar {x y:Ins}:z32s (zi5g [(37,0)]) (inC x) (inC y)=some (decide (x=y)):=by
 have e:zi5g [(37,0)]=[0,0]++(zi5g [(32,0)]++[0,0,0]):=by decide
 have e1 : ∀ x:Ins,inC x=[.int .i64 x.id,.int .i64 x.grp]++(dgC x.art++[.int .i64 x.state,.int .i64 x.since,.int .i64 x.den]):=fun _=>rfl
 rw [e,e1,e1,zid2 rfl rfl,zid2 (by simp [z1t1,zi5g]) (by simp [z1t1,zi5g]),zyiz,z540,zbik]
 obtain ⟨a,b,c,d,e,f⟩:=x
 obtain ⟨a',b',c',d',e',f'⟩:=y
 simp only [y09,y0i,Ins.mk.injEq,Option.some.injEq,Bool.decide_and,Bool.and_assoc]
theorem zii6:List.map w8 (rep 32 0#8)=dgC dg0:=rfl
attribute [simp] zyiz zmar zii6
def ixI {α:Type} (p:α→Bool):List α→Int
 | [] => -1
 | a::l=>if p a=true then 0 else if ixI p l<0 then -1 else ixI p l+1
theorem zkgb {α:Type} (p:α→Bool) : ∀ l:List α,-1≤ixI p l
 | []=>by simp [ixI]
 | a::l=>by have:=zkgb p l; simp only [ixI]; split<;>(try split)<;>omega
theorem zy9u {α:Type} {p:α→Bool} : ∀ {l:List α} {i:Nat} (hi:i<l.length),p l[i]=true→(∀ j (hj:j<l.length),j<i→p l[j]=false)→ixI p l=i
 | a::l,0,hi,h1,h2=>by simp at h1; simp [ixI,h1]
 | a::l,i+1,hi,h1,h2=>by
  have h0:p a=false:=h2 0 (by simp) (by omega)
  have ih:=zy9u (p:=p) (l:=l) (i:=i) (by simpa using hi) (by simpa using h1) (fun j hj hji=>h2 (j+1) (by simpa using hj) (by omega))
  simp only [ixI,h0,Bool.false_eq_true,if_false,ih]
  rw [if_neg (by omega)]; omega
theorem zfki {α:Type} {p:α→Bool} : ∀ {l:List α},(∀ j (hj:j<l.length),p l[j]=false)→ixI p l = -1
 | [],_=>rfl
 | a::l,h=>by
  have h0:p a=false:=h 0 (by simp)
  have ih:=zfki (p:=p) (l:=l) (fun j hj=>h (j+1) (by simpa using hj))
  simp [ixI,h0,ih]
theorem z378 {α:Type} {p:α→Bool} : ∀ {l:List α},ixI p l<0 → ∀ j (hj:j<l.length),p l[j]=false
 | [],_,j,hj=>by simp at hj
 | a::l,h,j,hj=>by
  simp only [ixI] at h
  split at h
  ·omega
  ·rename_i h0
   split at h
   ·rename_i h1
    cases j with
    | zero=>simpa using h0
    | succ j=>simpa using z378 h1 j (by simpa using hj)
   ·omega
theorem zgr5 {α:Type} {p:α→Bool} : ∀ {l:List α},0≤ixI p l → ∃ (i:Nat) (hi:i<l.length),ixI p l=i∧p l[i]=true ∧ ∀ j (hj:j<l.length),j<i→p l[j]=false
 | [],h=>by simp [ixI] at h
 | a::l,h=>by
  by_cases h0:p a=true
  ·exact ⟨0,by simp,by simp [ixI,h0],by simpa using h0,fun j _ hj=>by omega⟩
  ·have hh:=h
   simp only [ixI] at hh
   rw [if_neg h0] at hh
   split at hh
   ·omega
   ·rename_i h1
    obtain ⟨i,hi,e1,e2,e3⟩:=zgr5 (p:=p) (l:=l) (by omega)
    refine ⟨i+1,by simpa using hi,?_,by simpa using e2,fun j hj hji => ?_⟩
    ·simp only [ixI,h0,if_false,if_neg h1,e1,Bool.false_eq_true]; omega
    ·cases j with
     | zero=>simpa using h0
     | succ j=>simpa using e3 j (by simpa using hj) (by omega)
end
section
set_option linter.unusedSimpArgs false
set_option linter.unusedVariables false
open Go Go.Am
noncomputable abbrev P:Program:=Tryd.prog
theorem mix:P.follows .mixedOrders=true:=by kernel_rfl
def a65:AFn where
 code:=(.seq (.region false [⟨none,(some 4),.mov (.k (.int .i64 0))⟩])
 (.seq (.region false [⟨none,(some 5),.mov (.t 0)⟩,
  ⟨none,(some 6),.mov (.t 1)⟩,
  ⟨none,(some 7),.call (.k (.fn (.func 74) [] [])) [(.t 5),(.t 6)]⟩,
  ⟨none,(some 4),.mov (.t 7)⟩])
 .ret))
 ntmps:=8
 res:=[.tmp 4]
theorem zh04:zsjc P Tryd.f65=some a65:=by kernel_rfl
def a51:AFn where
 code:=(.seq (.region false [⟨none,(some 4),.mov (.k (.int .i64 0))⟩])
 (.seq (.region false [⟨none,(some 5),.mov (.t 0)⟩,
  ⟨none,(some 6),.mov (.t 1)⟩,
  ⟨none,(some 7),.call (.k (.fn (.func 65) [] [])) [(.t 5),(.t 6)]⟩,
  ⟨none,(some 4),.mov (.t 7)⟩])
 .ret))
 ntmps:=8
 res:=[.tmp 4]
theorem z8rx:zsjc P Tryd.f51=some a51:=by kernel_rfl
def zjzl:ACode :=
 (.seq (.seq (.region false [⟨none,(some 57),.mov (.t 8)⟩,
  ⟨none,(some 58),.mov (.t 9)⟩,
  ⟨none,(some 59),.bin .lss (.t 57) (.t 58)⟩])
 (.cond (.t 59) .skip
 (.exit 1)))
 (.block 2 (.seq (.seq (.region false [⟨none,(some 60),.mov (.t 0)⟩,
  ⟨none,(some 61),.mov (.t 8)⟩,
  ⟨none,(some 62),.idxStr (.t 60) (.t 61)⟩,
  ⟨none,(some 63),.mov (.t 6)⟩,
  ⟨none,(some 64),.bin .neq (.t 62) (.t 63)⟩])
 (.cond (.t 64) (.seq (.region false [⟨none,(some 65),.mov (.t 0)⟩,
  ⟨none,(some 66),.mov (.t 8)⟩,
  ⟨none,(some 67),.bin .add (.t 66) (.k (.int .i64 1))⟩,
  ⟨none,(some 68),.mov (.t 9)⟩,
  ⟨none,(some 69),.slcStr (.t 65) (some (.t 67)) (some (.t 68))⟩,
  ⟨none,(some 70),.mov (.t 6)⟩,
  ⟨none,(some 71),.call (.k (.fn (.func 65) [] [])) [(.t 69),(.t 70)]⟩,
  ⟨none,(some 11),.mov (.t 71)⟩])
 (.seq (.seq (.region false [⟨none,(some 72),.mov (.t 11)⟩,
  ⟨none,(some 73),.bin .lss (.t 72) (.k (.int .i64 0))⟩])
 (.cond (.t 73) (.seq (.region false [⟨none,(some 4),.mov (.k (.int .i64 (-1)))⟩])
 .ret)
 .skip))
 (.region false [⟨none,(some 74),.mov (.t 8)⟩,
  ⟨none,(some 75),.mov (.t 11)⟩,
  ⟨none,(some 76),.bin .add (.t 75) (.k (.int .i64 1))⟩,
  ⟨none,(some 77),.bin .add (.t 74) (.t 76)⟩,
  ⟨none,(some 8),.mov (.t 77)⟩])))
 .skip))
 (.seq (.seq (.region false [⟨none,(some 78),.mov (.t 0)⟩,
  ⟨none,(some 79),.mov (.t 8)⟩,
  ⟨none,(some 80),.bin .add (.t 79) (.k (.int .i64 1))⟩,
  ⟨none,(some 81),.idxStr (.t 78) (.t 80)⟩,
  ⟨none,(some 82),.mov (.t 7)⟩,
  ⟨none,(some 83),.bin .eql (.t 81) (.t 82)⟩,
  ⟨none,(some 84),.mov (.t 83)⟩,
  ⟨(some (84,true)),(some 85),.mov (.t 0)⟩,
  ⟨(some (84,true)),(some 86),.mov (.t 8)⟩,
  ⟨(some (84,true)),(some 87),.mov (.t 8)⟩,
  ⟨(some (84,true)),(some 88),.mov (.t 5)⟩,
  ⟨(some (84,true)),(some 89),.bin .add (.t 87) (.t 88)⟩,
  ⟨(some (84,true)),(some 90),.slcStr (.t 85) (some (.t 86)) (some (.t 89))⟩,
  ⟨(some (84,true)),(some 91),.mov (.t 1)⟩,
  ⟨(some (84,true)),(some 92),.bin .eql (.t 90) (.t 91)⟩,
  ⟨none,(some 93),.pick (.t 84) (.t 92) (.k (.bool false))⟩])
 (.cond (.t 93) (.seq (.region false [⟨none,(some 94),.mov (.t 8)⟩,
  ⟨none,(some 4),.mov (.t 94)⟩])
 .ret)
 .skip))
 (.seq (.region false [⟨none,(some 95),.mov (.t 8)⟩,
  ⟨none,(some 96),.bin .add (.t 95) (.k (.int .i64 1))⟩,
  ⟨none,(some 8),.mov (.t 96)⟩])
 (.seq (.region false [⟨none,(some 97),.mov (.t 10)⟩,
  ⟨none,(some 98),.bin .add (.t 97) (.k (.int .i64 1))⟩,
  ⟨none,(some 10),.mov (.t 98)⟩])
 (.seq (.region false [⟨none,(some 99),.mov (.t 5)⟩,
  ⟨none,(some 100),.ext (.k .junk) 0⟩,
  ⟨none,(some 101),.bin .leq (.t 99) (.t 100)⟩,
  ⟨none,(some 102),.mov (.t 101)⟩,
  ⟨(some (102,true)),(some 103),.mov (.t 10)⟩,
  ⟨(some (102,true)),(some 104),.mov (.t 8)⟩,
  ⟨(some (102,true)),(some 105),.call (.k (.fn (.func 79) [] [])) [(.t 104)]⟩,
  ⟨(some (102,true)),(some 106),.bin .gtr (.t 103) (.t 105)⟩,
  ⟨none,(some 107),.pick (.t 102) (.t 106) (.k (.bool false))⟩])
 (.cond (.t 107) (.seq (.region false [⟨none,(some 108),.mov (.t 0)⟩,
  ⟨none,(some 109),.mov (.t 8)⟩,
  ⟨none,(some 110),.slcStr (.t 108) (some (.t 109)) none⟩,
  ⟨none,(some 111),.mov (.t 1)⟩,
  ⟨none,(some 112),.call (.k (.fn (.func 78) [] [])) [(.t 110),(.t 111)]⟩,
  ⟨none,(some 12),.mov (.t 112)⟩])
 (.seq (.seq (.region false [⟨none,(some 113),.mov (.t 12)⟩,
  ⟨none,(some 114),.bin .geq (.t 113) (.k (.int .i64 0))⟩])
 (.cond (.t 114) (.seq (.region false [⟨none,(some 115),.mov (.t 12)⟩,
  ⟨none,(some 116),.mov (.t 8)⟩,
  ⟨none,(some 117),.bin .add (.t 115) (.t 116)⟩,
  ⟨none,(some 4),.mov (.t 117)⟩])
 .ret)
 .skip))
 (.seq (.region false [⟨none,(some 4),.mov (.k (.int .i64 (-1)))⟩])
 .ret)))
 (.seq (.region false [⟨none,(some 118),.mov (.t 5)⟩,
  ⟨none,(some 119),.ext (.k .junk) 0⟩,
  ⟨none,(some 120),.bin .gtr (.t 118) (.t 119)⟩,
  ⟨none,(some 121),.mov (.t 120)⟩,
  ⟨(some (121,true)),(some 122),.mov (.t 10)⟩,
  ⟨(some (121,true)),(some 123),.mov (.t 8)⟩,
  ⟨(some (121,true)),(some 124),.bin .shr (.t 123) (.k (w64 4#64))⟩,
  ⟨(some (121,true)),(some 125),.bin .add (.k (.int .i64 4)) (.t 124)⟩,
  ⟨(some (121,true)),(some 126),.bin .geq (.t 122) (.t 125)⟩,
  ⟨none,(some 127),.pick (.t 121) (.t 126) (.k (.bool false))⟩,
  ⟨none,(some 128),.mov (.t 127)⟩,
  ⟨(some (128,true)),(some 129),.mov (.t 8)⟩,
  ⟨(some (128,true)),(some 130),.mov (.t 9)⟩,
  ⟨(some (128,true)),(some 131),.bin .lss (.t 129) (.t 130)⟩,
  ⟨none,(some 132),.pick (.t 128) (.t 131) (.k (.bool false))⟩])
 (.cond (.t 132) (.seq (.region false [⟨none,(some 133),.mov (.t 0)⟩,
  ⟨none,(some 134),.mov (.t 8)⟩,
  ⟨none,(some 135),.slcStr (.t 133) (some (.t 134)) none⟩,
  ⟨none,(some 136),.mov (.t 1)⟩,
  ⟨none,(some 137),.call (.k (.fn (.func 80) [] [])) [(.t 135),(.t 136)]⟩,
  ⟨none,(some 13),.mov (.t 137)⟩])
 (.seq (.seq (.region false [⟨none,(some 138),.mov (.t 13)⟩,
  ⟨none,(some 139),.bin .lss (.t 138) (.k (.int .i64 0))⟩])
 (.cond (.t 139) (.seq (.region false [⟨none,(some 4),.mov (.k (.int .i64 (-1)))⟩])
 .ret)
 .skip))
 (.seq (.region false [⟨none,(some 140),.mov (.t 8)⟩,
  ⟨none,(some 141),.mov (.t 13)⟩,
  ⟨none,(some 142),.bin .add (.t 140) (.t 141)⟩,
  ⟨none,(some 4),.mov (.t 142)⟩])
 .ret)))
 .skip))))))))))
def a75:AFn where
 code:=(.seq (.region false [⟨none,(some 4),.mov (.k (.int .i64 0))⟩])
 (.seq (.region false [⟨none,(some 14),.mov (.t 1)⟩,
  ⟨none,(some 15),.lenStr (.t 14)⟩,
  ⟨none,(some 5),.mov (.t 15)⟩])
 (.seq (.block 0 (.seq (.region false [⟨none,(some 17),.mov (.t 5)⟩,
  ⟨none,(some 18),.bin .eql (.t 17) (.k (.int .i64 0))⟩,
  ⟨none,(some 19),.mov (.t 18)⟩,
  ⟨(some (19,false)),(some 20),.mov (.t 1)⟩,
  ⟨(some (19,false)),(some 21),.mov (.t 0)⟩,
  ⟨(some (19,false)),(some 22),.bin .eql (.t 20) (.t 21)⟩,
  ⟨none,(some 23),.pick (.t 19) (.k (.bool true)) (.t 22)⟩,
  ⟨none,(some 16),.mov (.t 23)⟩])
 (.cond (.t 16) (.seq (.region false [⟨none,(some 4),.mov (.k (.int .i64 0))⟩])
 .ret)
 (.seq (.region false [⟨none,(some 25),.mov (.t 5)⟩,
  ⟨none,(some 26),.bin .eql (.t 25) (.k (.int .i64 1))⟩,
  ⟨none,(some 24),.mov (.t 26)⟩])
 (.cond (.t 24) (.seq (.region false [⟨none,(some 27),.mov (.t 0)⟩,
  ⟨none,(some 28),.mov (.t 1)⟩,
  ⟨none,(some 29),.idxStr (.t 28) (.k (.int .i64 0))⟩,
  ⟨none,(some 30),.call (.k (.fn (.func 65) [] [])) [(.t 27),(.t 29)]⟩,
  ⟨none,(some 4),.mov (.t 30)⟩])
 .ret)
 (.seq (.region false [⟨none,(some 32),.mov (.t 5)⟩,
  ⟨none,(some 33),.mov (.t 0)⟩,
  ⟨none,(some 34),.lenStr (.t 33)⟩,
  ⟨none,(some 35),.bin .geq (.t 32) (.t 34)⟩,
  ⟨none,(some 31),.mov (.t 35)⟩])
 (.cond (.t 31) (.seq (.region false [⟨none,(some 4),.mov (.k (.int .i64 (-1)))⟩])
 .ret)
 (.seq (.region false [⟨none,(some 37),.mov (.t 5)⟩,
  ⟨none,(some 38),.ext (.k .junk) 0⟩,
  ⟨none,(some 39),.bin .leq (.t 37) (.t 38)⟩,
  ⟨none,(some 40),.mov (.t 39)⟩,
  ⟨(some (40,true)),(some 41),.mov (.t 0)⟩,
  ⟨(some (40,true)),(some 42),.lenStr (.t 41)⟩,
  ⟨(some (40,true)),(some 43),.bin .leq (.t 42) (.k (.int .i64 64))⟩,
  ⟨none,(some 44),.pick (.t 40) (.t 43) (.k (.bool false))⟩,
  ⟨none,(some 36),.mov (.t 44)⟩])
 (.cond (.t 36) (.seq (.region false [⟨none,(some 45),.mov (.t 0)⟩,
  ⟨none,(some 46),.mov (.t 1)⟩,
  ⟨none,(some 47),.call (.k (.fn (.func 78) [] [])) [(.t 45),(.t 46)]⟩,
  ⟨none,(some 4),.mov (.t 47)⟩])
 .ret)
 .skip)))))))))
 (.seq (.region false [⟨none,(some 48),.mov (.t 1)⟩,
  ⟨none,(some 49),.idxStr (.t 48) (.k (.int .i64 0))⟩,
  ⟨none,(some 6),.mov (.t 49)⟩])
 (.seq (.region false [⟨none,(some 50),.mov (.t 1)⟩,
  ⟨none,(some 51),.idxStr (.t 50) (.k (.int .i64 1))⟩,
  ⟨none,(some 7),.mov (.t 51)⟩])
 (.seq (.region false [⟨none,(some 8),.mov (.k (.int .i64 0))⟩])
 (.seq (.region false [⟨none,(some 52),.mov (.t 0)⟩,
  ⟨none,(some 53),.lenStr (.t 52)⟩,
  ⟨none,(some 54),.mov (.t 5)⟩,
  ⟨none,(some 55),.bin .sub (.t 53) (.t 54)⟩,
  ⟨none,(some 56),.bin .add (.t 55) (.k (.int .i64 1))⟩,
  ⟨none,(some 9),.mov (.t 56)⟩])
 (.seq (.region false [⟨none,(some 10),.mov (.k (.int .i64 0))⟩])
 (.seq (.block 1 (.loop zjzl))
 (.seq (.region false [⟨none,(some 4),.mov (.k (.int .i64 (-1)))⟩])
 .ret))))))))))
 ntmps:=143
 res:=[.tmp 4]
theorem zrvd:zsjc P Tryd.f75=some a75:=by kernel_rfl
def a66:AFn where
 code:=(.seq (.region false [⟨none,(some 4),.mov (.k (.str []))⟩,
  ⟨none,(some 5),.mov (.k (.str []))⟩,
  ⟨none,(some 6),.mov (.k (.bool false))⟩])
 (.seq (.seq (.region false [⟨none,(some 8),.mov (.t 0)⟩,
  ⟨none,(some 9),.mov (.t 1)⟩,
  ⟨none,(some 10),.call (.k (.fn (.func 75) [] [])) [(.t 8),(.t 9)]⟩,
  ⟨none,(some 7),.mov (.t 10)⟩])
 (.seq (.region false [⟨none,(some 11),.mov (.t 7)⟩,
  ⟨none,(some 12),.bin .geq (.t 11) (.k (.int .i64 0))⟩])
 (.cond (.t 12) (.seq (.region true [⟨none,(some 13),.mov (.t 0)⟩,
  ⟨none,(some 14),.mov (.t 7)⟩,
  ⟨none,(some 15),.slcStr (.t 13) none (some (.t 14))⟩,
  ⟨none,(some 16),.mov (.t 0)⟩,
  ⟨none,(some 17),.mov (.t 7)⟩,
  ⟨none,(some 18),.mov (.t 1)⟩,
  ⟨none,(some 19),.lenStr (.t 18)⟩,
  ⟨none,(some 20),.bin .add (.t 17) (.t 19)⟩,
  ⟨none,(some 21),.slcStr (.t 16) (some (.t 20)) none⟩,
  ⟨none,(some 4),.mov (.t 15)⟩,
  ⟨none,(some 5),.mov (.t 21)⟩,
  ⟨none,(some 6),.mov (.k (.bool true))⟩])
 .ret)
 .skip)))
 (.seq (.region false [⟨none,(some 22),.mov (.t 0)⟩,
  ⟨none,(some 4),.mov (.t 22)⟩,
  ⟨none,(some 5),.mov (.k (.str []))⟩,
  ⟨none,(some 6),.mov (.k (.bool false))⟩])
 .ret)))
 ntmps:=23
 res:=[.tmp 4,.tmp 5,.tmp 6]
theorem z3a6:zsjc P Tryd.f66=some a66:=by kernel_rfl
def a52:AFn where
 code:=(.seq (.region false [⟨none,(some 4),.mov (.k (.str []))⟩,
  ⟨none,(some 5),.mov (.k (.str []))⟩,
  ⟨none,(some 6),.mov (.k (.bool false))⟩])
 (.seq (.region false [⟨none,(some 7),.mov (.t 0)⟩,
  ⟨none,(some 8),.mov (.t 1)⟩,
  ⟨none,(some 9),.call (.k (.fn (.func 66) [] [])) [(.t 7),(.t 8)]⟩,
  ⟨none,(some 10),.ext (.t 9) 0⟩,
  ⟨none,(some 11),.ext (.t 9) 1⟩,
  ⟨none,(some 12),.ext (.t 9) 2⟩,
  ⟨none,(some 4),.mov (.t 10)⟩,
  ⟨none,(some 5),.mov (.t 11)⟩,
  ⟨none,(some 6),.mov (.t 12)⟩])
 .ret))
 ntmps:=13
 res:=[.tmp 4,.tmp 5,.tmp 6]
theorem zil0:zsjc P Tryd.f52=some a52:=by kernel_rfl
def zqw7:ACode :=
 (.seq (.seq (.region false [⟨none,(some 18),.mov (.t 3)⟩])
 (.cond (.t 18) .skip
 (.exit 0)))
 (.block 1 (.seq (.region false [⟨none,(some 4),.mov (.k (.str []))⟩])
 (.seq (.region false [⟨none,(some 20),.mov (.t 0)⟩,
  ⟨none,(some 21),.call (.k (.fn (.func 52) [] [])) [(.t 20),(.k (.str [47]))]⟩,
  ⟨none,(some 19),.mov (.t 21)⟩,
  ⟨none,(some 22),.ext (.t 19) 0⟩,
  ⟨none,(some 23),.ext (.t 19) 1⟩,
  ⟨none,(some 24),.ext (.t 19) 2⟩,
  ⟨none,(some 4),.mov (.t 22)⟩,
  ⟨none,(some 0),.mov (.t 23)⟩,
  ⟨none,(some 3),.mov (.t 24)⟩])
 (.seq (.region false [⟨none,(some 25),.mov (.t 4)⟩,
  ⟨none,(some 26),.bin .eql (.t 25) (.k (.str []))⟩,
  ⟨none,(some 27),.mov (.t 26)⟩,
  ⟨(some (27,false)),(some 28),.mov (.t 4)⟩,
  ⟨(some (27,false)),(some 29),.bin .eql (.t 28) (.k (.str [46]))⟩,
  ⟨none,(some 30),.pick (.t 27) (.k (.bool true)) (.t 29)⟩,
  ⟨none,(some 31),.mov (.t 30)⟩,
  ⟨(some (31,false)),(some 32),.mov (.t 4)⟩,
  ⟨(some (31,false)),(some 33),.bin .eql (.t 32) (.k (.str [46,46]))⟩,
  ⟨none,(some 34),.pick (.t 31) (.k (.bool true)) (.t 33)⟩])
 (.cond (.t 34) (.seq (.region false [⟨none,(some 2),.mov (.k (.bool false))⟩])
 .ret)
 .skip))))))
def zben (x0 x3:DV) (h:List AObj):St:=⟨[x0,.junk,.junk,x3]++js 31,h⟩
def a24:AFn where
 code:=(.seq (.region false [⟨none,(some 2),.mov (.k (.bool false))⟩])
 (.seq (.seq (.region false [⟨none,(some 5),.mov (.t 0)⟩,
  ⟨none,(some 6),.lenStr (.t 5)⟩,
  ⟨none,(some 7),.bin .lss (.t 6) (.k (.int .i64 1))⟩,
  ⟨none,(some 8),.mov (.t 7)⟩,
  ⟨(some (8,false)),(some 9),.mov (.t 0)⟩,
  ⟨(some (8,false)),(some 10),.lenStr (.t 9)⟩,
  ⟨(some (8,false)),(some 11),.bin .gtr (.t 10) (.k (.int .i64 200))⟩,
  ⟨none,(some 12),.pick (.t 8) (.k (.bool true)) (.t 11)⟩,
  ⟨none,(some 13),.mov (.t 12)⟩,
  ⟨(some (13,false)),(some 14),.mov (.t 0)⟩,
  ⟨(some (13,false)),(some 15),.call (.k (.fn (.func 51) [] [])) [(.t 14),(.k (w8 0#8))]⟩,
  ⟨(some (13,false)),(some 16),.bin .geq (.t 15) (.k (.int .i64 0))⟩,
  ⟨none,(some 17),.pick (.t 13) (.k (.bool true)) (.t 16)⟩])
 (.cond (.t 17) (.seq (.region false [⟨none,(some 2),.mov (.k (.bool false))⟩])
 .ret)
 .skip))
 (.seq (.seq (.region false [⟨none,(some 3),.mov (.k (.bool true))⟩])
 (.block 0 (.loop zqw7)))
 (.seq (.region false [⟨none,(some 2),.mov (.k (.bool true))⟩])
 .ret))))
 ntmps:=35
 res:=[.tmp 2]
theorem zcoa:zsjc P Tryd.f24=some a24:=by kernel_rfl
end
section
set_option linter.unusedSimpArgs false
set_option linter.unusedVariables false
open Go Go.Am
theorem zmqh {α:Type} {d:List α} {i:Nat} (h:i<d.length):d.take (i+1)=d.take i++[d[i]]:=by rw [List.take_add_one,List.getElem?_eq_getElem h]; rfl
theorem zw4m {c:UInt8} {n:UInt8}:c.toBitVec=n.toBitVec↔c=n:=UInt8.toBitVec_inj
theorem z2u1 (a b:List UInt8):noZ (a++b)=(noZ a&&noZ b):=by simp [noZ]
theorem zpwu {a b c:ARes} {t:List DV} {h:List AObj}:outD [a,b,c] t h=(resD t h a).bind fun x=>(resD t h b).bind fun y=>(resD t h c).bind fun z=>snap h 3 (.tup [x,y,z]):=by
 simp only [outD,zxgc,zp5p,z2gc]
 cases resD t h a<;>cases resD t h b<;>cases resD t h c<;>rfl
attribute [simp] zpwu
def cS (g:List UInt8→DV):List DV→Option DV
 | [.str s]=>some (g s)|_=>none
def cS1 (g:List UInt8→UInt8→DV):List DV→Option DV
 | [.str s,.str [c]]=>some (g s c)|_=>none
def cS1b (g:List UInt8→UInt8→DV):List DV→Option DV
 | [.str s,.str [c]]=>if s.length≤100000 then some (g s c) else none|_=>none
def cSB (g:List UInt8→B8→DV):List DV→Option DV
 | [.str s,.int .u8 n]=>if 0≤n∧n<256 then some (g s (BitVec.ofInt 8 n)) else none|_=>none
theorem zk5k {g s}:cS g [.str s]=some (g s):=rfl
theorem z8u6 {g s c}:cS1 g [.str s,.str [c]]=some (g s c):=rfl
theorem zutz {g s c} (h:s.length≤100000):cS1b g [.str s,.str [c]]=some (g s c):=if_pos h
theorem zexc (c:B8):BitVec.ofInt 8 (c.toNat:Int)=c:=by simp
theorem zvdo {g s c}:cSB g [.str s,w8 c]=some (g s c):=by
 have:=c.isLt
 show (if 0≤(c.toNat:Int)∧(c.toNat:Int)<256 then some (g s (BitVec.ofInt 8 (c.toNat:Int))) else none)=_
 rw [if_pos (by omega),zexc]
theorem zzn8 {f:Nat} {g:List UInt8→DV} (h : ∀ s,Am.Sem P f [.str s] (g s)):(Con.pure (cS g)).Sound P f:=by
 intro args v e
 unfold cS at e
 split at e
 ·simp at e; subst e; exact h _
 ·simp at e
theorem zpzi {f:Nat} {g:List UInt8→UInt8→DV} (h : ∀ s c,Am.Sem P f [.str s,.str [c]] (g s c)):(Con.pure (cS1 g)).Sound P f:=by
 intro args v e
 unfold cS1 at e
 split at e
 ·simp at e; subst e; exact h _ _
 ·simp at e
theorem zb66 {f:Nat} {g:List UInt8→UInt8→DV} (h : ∀ s c,s.length≤100000→Am.Sem P f [.str s,.str [c]] (g s c)):(Con.pure (cS1b g)).Sound P f:=by
 intro args v e
 unfold cS1b at e
 split at e
 ·split at e
  ·rename_i hl; simp at e; subst e; exact h _ _ hl
  ·simp at e
 ·simp at e
theorem zboo {f:Nat} {g:List UInt8→B8→DV} (h : ∀ s c,Am.Sem P f [.str s,w8 c] (g s c)):(Con.pure (cSB g)).Sound P f:=by
 intro args v e
 unfold cSB at e
 split at e
 ·rename_i s n
  split at e
  ·rename_i hn
   simp at e; subst e
   have:=h s (BitVec.ofInt 8 n)
   have e2:w8 (BitVec.ofInt 8 n) = .int .u8 n:=by
    unfold w8
    have:((BitVec.ofInt 8 n).toNat:Int)=n:=by rw [BitVec.toNat_ofInt]; simp; omega
    rw [this]
   rwa [e2] at this
  ·simp at e
 ·simp at e
def ixD (s:List UInt8) (c:B8):DV := .int .i64 (Lib.indexByte s c.toNat.toUInt8)
def ix1 (s:List UInt8) (c:UInt8):DV := .int .i64 (Lib.indexByte s c)
def T50:Tbl:=addT 74 (.pure (cSB ixD)) tbl0
theorem zbvx:T50 74 = .pure (cSB ixD):=by simp [T50]
theorem z3fz:T50.Sound P:=z0rp (zboo fun s c=>zrq5 Tryd.func74 (by kernel_rfl) (by kernel_rfl) (by kernel_rfl) (by kernel_rfl) s c) zr5o
theorem z4gm (s:List UInt8) (c:B8):Runs T50 a65 [.str s,w8 c] (ixD s c):=by
 refine ⟨?_⟩
 simp (disch:=first|omega|simp<;>omega|fail) [-zA,-zB,-zC,-zD,-zE,a65,zbvx,zvdo,ixD]
def T51:Tbl:=addT 65 (.pure (cSB ixD)) T50
theorem zqfn:T51 65 = .pure (cSB ixD):=by simp [T51]
theorem zw21:T51.Sound P:=z0rp (zboo fun s c=>zljw mix z3fz Tryd.func65 zh04 (z4gm s c)) z3fz
theorem zbfo (s:List UInt8) (c:B8):Runs T51 a51 [.str s,w8 c] (ixD s c):=by
 refine ⟨?_⟩
 simp (disch:=first|omega|simp<;>omega|fail) [-zA,-zB,-zC,-zD,-zE,a51,zqfn,zvdo,ixD]
theorem zunq (s:List UInt8) (c:UInt8):Runs T51 a75 [.str s,.str [c]] (ix1 s c):=by
 refine ⟨?_⟩
 by_cases h:[c]=s
 ·subst h
  simp (disch:=first|omega|simp<;>omega|fail) [-zA,-zB,-zC,-zD,-zE,a75,ix1,Lib.indexByte]
 ·simp (disch:=first|omega|simp<;>omega|fail) [-zA,-zB,-zC,-zD,-zE,a75,h,zqfn,zvdo,ixD,ix1,zq22]
def T52:Tbl:=addT 75 (.pure (cS1 ix1)) T51
theorem zcmd:T52 75 = .pure (cS1 ix1):=by simp [T52]
theorem zyuf:T52.Sound P:=z0rp (zpzi fun s c=>zljw mix zw21 Tryd.func75 zrvd (zunq s c)) zw21
def cutR (s:List UInt8) (c:UInt8):DV :=
 if Lib.indexByte s c = -1 then .tup [.str s,.str [],.bool false] else .tup [.str (s.take (Lib.indexByte s c).toNat),.str (s.drop ((Lib.indexByte s c).toNat+1)),.bool true]
theorem z4vy {s:List UInt8} {c:UInt8}:Lib.indexByte s c<s.length:=by
 have hg:=Lib.indexByte_ge s c
 by_cases h:Lib.indexByte s c = -1
 ·omega
 ·have:=z8bu (s:=s) (c:=c) (o:=(Lib.indexByte s c).toNat) (by omega)
  omega
theorem zubo (s:List UInt8) (c:UInt8) (hs:s.length≤100000):Runs T52 a66 [.str s,.str [c]] (cutR s c):=by
 refine ⟨?_⟩
 have hg:=Lib.indexByte_ge s c
 have hlt:=z4vy (s:=s) (c:=c)
 by_cases h:Lib.indexByte s c = -1
 ·simp (disch:=first|omega|simp<;>omega|fail) [-zA,-zB,-zC,-zD,-zE,a66,zcmd,z8u6,ix1,h,cutR]
 ·obtain ⟨o,ho⟩ : ∃ o:Nat,Lib.indexByte s c=o:=⟨(Lib.indexByte s c).toNat,by omega⟩
  rw [ho] at hlt
  have h0:(0:Int)≤o:=by omega
  have hn:¬ (o:Int) = -1:=by omega
  have ho1:o≤s.length:=by omega
  have ho2:o+1≤s.length:=by omega
  have ho3:(o:Int)+1≤s.length:=by omega
  have e1:((o:Int)+1).toNat=o+1:=by omega
  have ht:(s.drop (o+1)).take (s.length-(o+1))=s.drop (o+1):=y00 (by simp)
  simp (disch:=first|omega|simp<;>omega|fail) [-zA,-zB,-zC,-zD,-zE,a66,zcmd,z8u6,ix1,ho,h0,hn,ho1,ho2,ho3,e1,ht,cutR]
def T54:Tbl:=addT 66 (.pure (cS1b cutR)) tbl0
theorem zjck:T54 66 = .pure (cS1b cutR):=by simp [T54]
theorem zjvy:T54.Sound P:=z0rp (zb66 fun s c h=>zljw mix zyuf Tryd.func66 z3a6 (zubo s c h)) zr5o
theorem zmgr (s:List UInt8) (c:UInt8) (hs:s.length≤100000):Runs T54 a52 [.str s,.str [c]] (cutR s c):=by
 refine ⟨?_⟩
 by_cases h:Lib.indexByte s c = -1
 ·simp (disch:=first|omega|simp<;>omega|fail) [-zA,-zB,-zC,-zD,-zE,a52,zjck,zutz hs,cutR,h]
 ·simp (disch:=first|omega|simp<;>omega|fail) [-zA,-zB,-zC,-zD,-zE,a52,zjck,zutz hs,cutR,h]
end
section
set_option linter.unusedSimpArgs false
set_option linter.unusedVariables false
open Go Go.Am
def za1j (s:List UInt8):DV := .bool (zj1f s)
def T57:Tbl:=addT 51 (.pure (cSB ixD)) (addT 52 (.pure (cS1b cutR)) tbl0)
theorem zogw:T57 51 = .pure (cSB ixD):=by simp [T57]
theorem zhm1:T57 52 = .pure (cS1b cutR):=by simp [T57]
theorem zhpa:T57.Sound P:=z0rp (zboo fun s c=>zljw mix zw21 Tryd.func51 z8rx (zbfo s c)) (z0rp (zb66 fun s c h=>zljw mix zjvy Tryd.func52 zil0 (zmgr s c h)) zr5o)
theorem ixD0 (s:List UInt8):cSB ixD [.str s,w8 0#8]=some (.int .i64 (Lib.indexByte s 0)):=zvdo
theorem zy3p {s:List UInt8} (h:Lib.indexByte s 0 ≠ -1):0≤Lib.indexByte s 0:=by have:=Lib.indexByte_ge s 0; omega
theorem zk50 {s:List UInt8} (h:Lib.indexByte s 0 = -1):noZ s=true:=by rw [zc5k,h]; rfl
theorem z5fc {s:List UInt8} (h:Lib.indexByte s 0 ≠ -1):noZ s=false:=by rw [zc5k]; simp [h]
def S9 (x:List UInt8 × Bool):St:=zben (.str x.1) (.bool x.2) []
def m9 (x:List UInt8 × Bool):Nat:=x.1.length+(if x.2=true then 1 else 0)
def R9 (s:List UInt8) (x:List UInt8 × Bool):Prop:=x.1.length≤200∧(x.2=true→zj1f s=(z2fg x.1).all okC)∧(x.2=false→zj1f s=true)
theorem zqqw (s:List UInt8):Runs T57 a24 [.str s] (za1j s):=by
 refine ⟨?_⟩
 by_cases h1:s.length<1
 ·have h1':(s.length:Int)<1:=by omega
  have hp:zj1f s=false:=by simp [zj1f]; omega
  simp (disch:=first|omega|simp<;>omega|fail) [-zA,-zB,-zC,-zD,-zE,a24,h1',za1j,hp]
 have h1':¬ (s.length:Int)<1:=by omega
 by_cases h2:200<s.length
 ·have h2':(200:Int)<s.length:=by omega
  have hp:zj1f s=false:=by simp [zj1f]; omega
  simp (disch:=first|omega|simp<;>omega|fail) [-zA,-zB,-zC,-zD,-zE,a24,h1',h2',za1j,hp]
 have h2':¬ (200:Int)<s.length:=by omega
 by_cases h3:Lib.indexByte s 0 = -1
 case neg =>
  have h3':=zy3p h3
  have hp:zj1f s=false:=by simp [zj1f,z5fc h3]
  simp (disch:=first|omega|simp<;>omega|fail) [-zA,-zB,-zC,-zD,-zE,a24,h1',h2',zogw,ixD0,h3',za1j,hp]
 have hp:zj1f s=(z2fg s).all okC:=by
  have g1:1≤s.length:=by omega
  have g2:s.length≤200:=by omega
  simp only [zj1f,g1,g2,zk50 h3,decide_true,y0t]
 simp (disch:=first|omega|simp<;>omega|fail) [-zA,-zB,-zC,-zD,-zE,a24,h1',h2',zogw,ixD0,h3]
 refine zlm5 S9 m9 (R9 s) (s,true) (z515 (by simp (disch:=first|omega|simp<;>omega|fail) [-zA,-zB,-zC,-zD,-zE]) (by simp (disch:=first|omega|simp<;>omega|fail) [-zA,-zB,-zC,-zD,-zE])) ⟨by show s.length≤200; omega,fun _=>hp,by simp⟩ (fun x hx => ?_)
 obtain ⟨r,more⟩:=x
 obtain ⟨hr,ha,hb⟩:=hx
 simp only at hr ha hb
 simp (disch:=first|omega|simp<;>omega|fail) [-zA,-zB,-zC,-zD,-zE,zqw7,zben,S9]
 cases more with
 | false =>
  have hb:=hb rfl
  simp (disch:=first|omega|simp<;>omega|fail) [-zA,-zB,-zC,-zD,-zE,za1j,hb]
 | true =>
  have ha:=ha rfl
  have hc:=zutz (g:=cutR) (s:=r) (c:=47) (by omega)
  by_cases hi:Lib.indexByte r 47 = -1
  ·rw [cutR,if_pos hi] at hc
   rw [zbf3 hi] at ha
   by_cases e1:r=[]
   ·have hq:zj1f s=false:=by rw [ha,e1]; rfl
    subst e1
    simp (disch:=first|omega|simp<;>omega|fail) [-zA,-zB,-zC,-zD,-zE,zhm1,hc,za1j,hq]
   ·by_cases e2:r=[46]
    ·have hq:zj1f s=false:=by rw [ha,e2]; rfl
     subst e2
     simp (disch:=first|omega|simp<;>omega|fail) [-zA,-zB,-zC,-zD,-zE,zhm1,hc,za1j,hq]
    ·by_cases e3:r=[46,46]
     ·have hq:zj1f s=false:=by rw [ha,e3]; rfl
      subst e3
      simp (disch:=first|omega|simp<;>omega|fail) [-zA,-zB,-zC,-zD,-zE,zhm1,hc,za1j,hq]
     ·have hq:zj1f s=true:=by rw [ha]; simp [okC,e1,e2,e3]
      simp (disch:=first|omega|simp<;>omega|fail) [-zA,-zB,-zC,-zD,-zE,zhm1,hc,e1,e2,e3]
      exact ⟨[],.inl ⟨z515 (by simp (disch:=first|omega|simp<;>omega|fail) [-zA,-zB,-zC,-zD,-zE]) (by simp (disch:=first|omega|simp<;>omega|fail) [-zA,-zB,-zC,-zD,-zE]),by simp [m9],by simp [R9,hq]⟩⟩
  ·obtain ⟨o,ho⟩ : ∃ o:Nat,Lib.indexByte r 47=o:=⟨(Lib.indexByte r 47).toNat,by have:=Lib.indexByte_ge r 47; omega⟩
   have hlt:=z8bu ho
   rw [cutR,if_neg hi,ho] at hc
   rw [zjoj ho] at ha
   simp only [Int.toNat_natCast] at hc
   obtain ⟨y,hy⟩ : ∃ y,r.take o=y:=⟨_,rfl⟩
   rw [hy] at hc ha
   by_cases e1:y=[]
   ·have hq:zj1f s=false:=by rw [ha,e1]; rfl
    subst e1
    simp (disch:=first|omega|simp<;>omega|fail) [-zA,-zB,-zC,-zD,-zE,zhm1,hc,za1j,hq]
   ·by_cases e2:y=[46]
    ·have hq:zj1f s=false:=by rw [ha,e2]; rfl
     subst e2
     simp (disch:=first|omega|simp<;>omega|fail) [-zA,-zB,-zC,-zD,-zE,zhm1,hc,za1j,hq]
    ·by_cases e3:y=[46,46]
     ·have hq:zj1f s=false:=by rw [ha,e3]; rfl
      subst e3
      simp (disch:=first|omega|simp<;>omega|fail) [-zA,-zB,-zC,-zD,-zE,zhm1,hc,za1j,hq]
     ·have hq:zj1f s=(z2fg (r.drop (o+1))).all okC:=by rw [ha]; simp [okC,e1,e2,e3]
      simp (disch:=first|omega|simp<;>omega|fail) [-zA,-zB,-zC,-zD,-zE,zhm1,hc,e1,e2,e3]
      exact ⟨r.drop (o+1),.inr ⟨z515 (by simp (disch:=first|omega|simp<;>omega|fail) [-zA,-zB,-zC,-zD,-zE]) (by simp (disch:=first|omega|simp<;>omega|fail) [-zA,-zB,-zC,-zD,-zE]),by simp [m9]; omega,by simp only [y08]; omega,fun _=>hq,by simp⟩⟩
end
section
set_option linter.unusedSimpArgs false
set_option linter.unusedVariables false
open Go Go.Am
def a73:AFn where
 code:=(.seq (.region false [⟨none,(some 4),.mov (.k (.int .i64 0))⟩])
 (.seq (.region false [⟨none,(some 5),.mov (.t 0)⟩,
  ⟨none,(some 6),.mov (.t 1)⟩,
  ⟨none,(some 7),.call (.k (.fn (.func 75) [] [])) [(.t 5),(.t 6)]⟩,
  ⟨none,(some 4),.mov (.t 7)⟩])
 .ret))
 ntmps:=8
 res:=[.tmp 4]
theorem zn06:zsjc P Tryd.f73=some a73:=by kernel_rfl
def zg0d:ACode :=
 (.block 1 (.seq (.region false [⟨none,(some 20),.mov (.t 0)⟩,
  ⟨none,(some 21),.mov (.t 1)⟩,
  ⟨none,(some 22),.call (.k (.fn (.func 73) [] [])) [(.t 20),(.t 21)]⟩,
  ⟨none,(some 6),.mov (.t 22)⟩])
 (.seq (.seq (.region false [⟨none,(some 23),.mov (.t 6)⟩,
  ⟨none,(some 24),.bin .eql (.t 23) (.k (.int .i64 (-1)))⟩])
 (.cond (.t 24) (.seq (.region false [⟨none,(some 25),.mov (.t 5)⟩,
  ⟨none,(some 4),.mov (.t 25)⟩])
 .ret)
 .skip))
 (.seq (.region false [⟨none,(some 26),.mov (.t 5)⟩,
  ⟨none,(some 27),.bin .add (.t 26) (.k (.int .i64 1))⟩,
  ⟨none,(some 5),.mov (.t 27)⟩])
 (.region false [⟨none,(some 28),.mov (.t 0)⟩,
  ⟨none,(some 29),.mov (.t 6)⟩,
  ⟨none,(some 30),.mov (.t 1)⟩,
  ⟨none,(some 31),.lenStr (.t 30)⟩,
  ⟨none,(some 32),.bin .add (.t 29) (.t 31)⟩,
  ⟨none,(some 33),.slcStr (.t 28) (some (.t 32)) none⟩,
  ⟨none,(some 0),.mov (.t 33)⟩])))))
def a77:AFn where
 code:=(.seq (.region false [⟨none,(some 4),.mov (.k (.int .i64 0))⟩])
 (.seq (.seq (.region false [⟨none,(some 7),.mov (.t 1)⟩,
  ⟨none,(some 8),.lenStr (.t 7)⟩,
  ⟨none,(some 9),.bin .eql (.t 8) (.k (.int .i64 0))⟩])
 (.cond (.t 9) (.seq (.region false [⟨none,(some 10),.mov (.t 0)⟩,
  ⟨none,(some 11),.call (.k (.fn (.func 81) [] [])) [(.t 10)]⟩,
  ⟨none,(some 12),.bin .add (.t 11) (.k (.int .i64 1))⟩,
  ⟨none,(some 4),.mov (.t 12)⟩])
 .ret)
 .skip))
 (.seq (.seq (.region false [⟨none,(some 13),.mov (.t 1)⟩,
  ⟨none,(some 14),.lenStr (.t 13)⟩,
  ⟨none,(some 15),.bin .eql (.t 14) (.k (.int .i64 1))⟩])
 (.cond (.t 15) (.seq (.region false [⟨none,(some 16),.mov (.t 0)⟩,
  ⟨none,(some 17),.mov (.t 1)⟩,
  ⟨none,(some 18),.idxStr (.t 17) (.k (.int .i64 0))⟩,
  ⟨none,(some 19),.call (.k (.fn (.func 83) [] [])) [(.t 16),(.t 18)]⟩,
  ⟨none,(some 4),.mov (.t 19)⟩])
 .ret)
 .skip))
 (.seq (.region false [⟨none,(some 5),.mov (.k (.int .i64 0))⟩])
 (.block 0 (.loop zg0d))))))
 ntmps:=34
 res:=[.tmp 4]
theorem z20a:zsjc P Tryd.f77=some a77:=by kernel_rfl
def zfle:ACode :=
 (.seq (.seq (.region false [⟨none,(some 34),.mov (.t 10)⟩,
  ⟨none,(some 35),.mov (.t 3)⟩,
  ⟨none,(some 36),.bin .lss (.t 34) (.t 35)⟩])
 (.cond (.t 36) .skip
 (.exit 0)))
 (.block 1 (.seq (.region false [⟨none,(some 37),.mov (.t 0)⟩,
  ⟨none,(some 38),.mov (.t 1)⟩,
  ⟨none,(some 39),.call (.k (.fn (.func 73) [] [])) [(.t 37),(.t 38)]⟩,
  ⟨none,(some 11),.mov (.t 39)⟩])
 (.seq (.seq (.region false [⟨none,(some 40),.mov (.t 11)⟩,
  ⟨none,(some 41),.bin .lss (.t 40) (.k (.int .i64 0))⟩])
 (.cond (.t 41) (.exit 0)
 .skip))
 (.seq (.region false [⟨none,(some 42),.mov (.t 9)⟩,
  ⟨none,(some 43),.mov (.t 10)⟩,
  ⟨none,(some 44),.mov (.t 0)⟩,
  ⟨none,(some 45),.mov (.t 11)⟩,
  ⟨none,(some 46),.mov (.t 2)⟩,
  ⟨none,(some 47),.bin .add (.t 45) (.t 46)⟩,
  ⟨none,(some 48),.slcStr (.t 44) none (some (.t 47))⟩,
  ⟨none,(some 49),.idxS 1 (.t 42) (.t 43)⟩,
  ⟨none,none,.store 1 (.t 49) (.t 48)⟩])
 (.seq (.region false [⟨none,(some 50),.mov (.t 0)⟩,
  ⟨none,(some 51),.mov (.t 11)⟩,
  ⟨none,(some 52),.mov (.t 1)⟩,
  ⟨none,(some 53),.lenStr (.t 52)⟩,
  ⟨none,(some 54),.bin .add (.t 51) (.t 53)⟩,
  ⟨none,(some 55),.slcStr (.t 50) (some (.t 54)) none⟩,
  ⟨none,(some 0),.mov (.t 55)⟩])
 (.region false [⟨none,(some 56),.mov (.t 10)⟩,
  ⟨none,(some 57),.bin .add (.t 56) (.k (.int .i64 1))⟩,
  ⟨none,(some 10),.mov (.t 57)⟩])))))))
def zbq4 (x0 x1 x2 x3 x9 x10:DV) (h:List AObj):St:=⟨[x0,x1,x2,x3]++js 5++[x9,x10]++js 55,h⟩
def a67:AFn where
 code:=(.seq (.region false [⟨none,(some 8),.mov (.k .nils)⟩])
 (.seq (.seq (.region false [⟨none,(some 12),.mov (.t 3)⟩,
  ⟨none,(some 13),.bin .eql (.t 12) (.k (.int .i64 0))⟩])
 (.cond (.t 13) (.seq (.region false [⟨none,(some 8),.mov (.k .nils)⟩])
 .ret)
 .skip))
 (.seq (.seq (.region false [⟨none,(some 14),.mov (.t 1)⟩,
  ⟨none,(some 15),.bin .eql (.t 14) (.k (.str []))⟩])
 (.cond (.t 15) (.seq (.region false [⟨none,(some 16),.mov (.t 0)⟩,
  ⟨none,(some 17),.mov (.t 3)⟩,
  ⟨none,(some 18),.call (.k (.fn (.func 76) [] [])) [(.t 16),(.t 17)]⟩,
  ⟨none,(some 8),.mov (.t 18)⟩])
 .ret)
 .skip))
 (.seq (.seq (.region false [⟨none,(some 19),.mov (.t 3)⟩,
  ⟨none,(some 20),.bin .lss (.t 19) (.k (.int .i64 0))⟩])
 (.cond (.t 20) (.region false [⟨none,(some 21),.mov (.t 0)⟩,
  ⟨none,(some 22),.mov (.t 1)⟩,
  ⟨none,(some 23),.call (.k (.fn (.func 77) [] [])) [(.t 21),(.t 22)]⟩,
  ⟨none,(some 24),.bin .add (.t 23) (.k (.int .i64 1))⟩,
  ⟨none,(some 3),.mov (.t 24)⟩])
 .skip))
 (.seq (.region false [⟨none,(some 25),.mov (.t 3)⟩,
  ⟨none,(some 26),.mov (.t 0)⟩,
  ⟨none,(some 27),.lenStr (.t 26)⟩,
  ⟨none,(some 28),.bin .add (.t 27) (.k (.int .i64 1))⟩,
  ⟨none,(some 29),.mm false [(.t 25),(.t 28)]⟩,
  ⟨none,(some 3),.mov (.t 29)⟩])
 (.seq (.region false [⟨none,(some 30),.mov (.t 3)⟩,
  ⟨none,(some 31),.mks 1 16 [(.str [])] (.t 30) (.t 30)⟩,
  ⟨none,(some 9),.mov (.t 31)⟩])
 (.seq (.region false [⟨none,(some 32),.mov (.t 3)⟩,
  ⟨none,(some 33),.bin .sub (.t 32) (.k (.int .i64 1))⟩,
  ⟨none,(some 3),.mov (.t 33)⟩])
 (.seq (.region false [⟨none,(some 10),.mov (.k (.int .i64 0))⟩])
 (.seq (.block 0 (.loop zfle))
 (.seq (.region false [⟨none,(some 58),.mov (.t 9)⟩,
  ⟨none,(some 59),.mov (.t 10)⟩,
  ⟨none,(some 60),.mov (.t 0)⟩,
  ⟨none,(some 61),.idxS 1 (.t 58) (.t 59)⟩,
  ⟨none,none,.store 1 (.t 61) (.t 60)⟩])
 (.seq (.region false [⟨none,(some 62),.mov (.t 9)⟩,
  ⟨none,(some 63),.mov (.t 10)⟩,
  ⟨none,(some 64),.bin .add (.t 63) (.k (.int .i64 1))⟩,
  ⟨none,(some 65),.slcS 1 (.t 62) none (some (.t 64)) none⟩,
  ⟨none,(some 8),.mov (.t 65)⟩])
 .ret)))))))))))
 ntmps:=66
 res:=[.tmp 8]
theorem zy8u:zsjc P Tryd.f67=some a67:=by kernel_rfl
def a54:AFn where
 code:=(.seq (.region false [⟨none,(some 4),.mov (.k .nils)⟩])
 (.seq (.region false [⟨none,(some 5),.mov (.t 0)⟩,
  ⟨none,(some 6),.mov (.t 1)⟩,
  ⟨none,(some 7),.call (.k (.fn (.func 67) [] [])) [(.t 5),(.t 6),(.k (.int .i64 0)),(.k (.int .i64 (-1)))]⟩,
  ⟨none,(some 4),.mov (.t 7)⟩])
 .ret))
 ntmps:=8
 res:=[.tmp 4]
theorem zq4q:zsjc P Tryd.f54=some a54:=by kernel_rfl
def zr3y:ACode :=
 (.seq (.seq (.region false [⟨none,(some 13),.mov (.t 3)⟩,
  ⟨none,(some 14),.mov (.t 0)⟩,
  ⟨none,(some 15),.lenStr (.t 14)⟩,
  ⟨none,(some 16),.bin .lss (.t 13) (.t 15)⟩])
 (.cond (.t 16) .skip
 (.exit 0)))
 (.seq (.block 1 (.seq (.region false [⟨none,(some 19),.mov (.t 0)⟩,
  ⟨none,(some 20),.mov (.t 3)⟩,
  ⟨none,(some 21),.idxStr (.t 19) (.t 20)⟩,
  ⟨none,(some 22),.bin .eql (.t 21) (.k (w8 0#8))⟩])
 (.cond (.t 22) (.seq (.region false [⟨none,(some 2),.mov (.k (.bool false))⟩])
 .ret)
 .skip)))
 (.region false [⟨none,(some 17),.mov (.t 3)⟩,
  ⟨none,(some 18),.bin .add (.t 17) (.k (.int .i64 1))⟩,
  ⟨none,(some 3),.mov (.t 18)⟩])))
def zhlx (x0 x3:DV) (h:List AObj):St:=⟨[x0,.junk,.junk,x3]++js 46,h⟩
def zmzd:ACode :=
 (.seq (.seq (.region false [⟨none,(some 25),.mov (.t 5)⟩,
  ⟨none,(some 26),.mov (.t 4)⟩,
  ⟨none,(some 27),.len (.t 26)⟩,
  ⟨none,(some 28),.bin .lss (.t 25) (.t 27)⟩])
 (.cond (.t 28) .skip
 (.exit 2)))
 (.seq (.block 3 (.seq (.region false [⟨none,(some 31),.mov (.t 4)⟩,
  ⟨none,(some 32),.mov (.t 5)⟩,
  ⟨none,(some 33),.idxS 1 (.t 31) (.t 32)⟩,
  ⟨none,(some 34),.load 1 false (.t 33)⟩,
  ⟨none,(some 35),.bin .eql (.t 34) (.k (.str []))⟩,
  ⟨none,(some 36),.mov (.t 35)⟩,
  ⟨(some (36,false)),(some 37),.mov (.t 4)⟩,
  ⟨(some (36,false)),(some 38),.mov (.t 5)⟩,
  ⟨(some (36,false)),(some 39),.idxS 1 (.t 37) (.t 38)⟩,
  ⟨(some (36,false)),(some 40),.load 1 false (.t 39)⟩,
  ⟨(some (36,false)),(some 41),.bin .eql (.t 40) (.k (.str [46]))⟩,
  ⟨none,(some 42),.pick (.t 36) (.k (.bool true)) (.t 41)⟩,
  ⟨none,(some 43),.mov (.t 42)⟩,
  ⟨(some (43,false)),(some 44),.mov (.t 4)⟩,
  ⟨(some (43,false)),(some 45),.mov (.t 5)⟩,
  ⟨(some (43,false)),(some 46),.idxS 1 (.t 44) (.t 45)⟩,
  ⟨(some (43,false)),(some 47),.load 1 false (.t 46)⟩,
  ⟨(some (43,false)),(some 48),.bin .eql (.t 47) (.k (.str [46,46]))⟩,
  ⟨none,(some 49),.pick (.t 43) (.k (.bool true)) (.t 48)⟩])
 (.cond (.t 49) (.seq (.region false [⟨none,(some 2),.mov (.k (.bool false))⟩])
 .ret)
 .skip)))
 (.region false [⟨none,(some 29),.mov (.t 5)⟩,
  ⟨none,(some 30),.bin .add (.t 29) (.k (.int .i64 1))⟩,
  ⟨none,(some 5),.mov (.t 30)⟩])))
def z58v (x4 x5:DV) (h:List AObj):St:=⟨js 4++[x4,x5]++js 44,h⟩
def a26:AFn where
 code:=(.seq (.region false [⟨none,(some 2),.mov (.k (.bool false))⟩])
 (.seq (.seq (.region false [⟨none,(some 6),.mov (.t 0)⟩,
  ⟨none,(some 7),.bin .eql (.t 6) (.k (.str []))⟩,
  ⟨none,(some 8),.mov (.t 7)⟩,
  ⟨(some (8,false)),(some 9),.mov (.t 0)⟩,
  ⟨(some (8,false)),(some 10),.lenStr (.t 9)⟩,
  ⟨(some (8,false)),(some 11),.bin .gtr (.t 10) (.k (.int .i64 200))⟩,
  ⟨none,(some 12),.pick (.t 8) (.k (.bool true)) (.t 11)⟩])
 (.cond (.t 12) (.seq (.region false [⟨none,(some 2),.mov (.k (.bool false))⟩])
 .ret)
 .skip))
 (.seq (.seq (.region false [⟨none,(some 3),.mov (.k (.int .i64 0))⟩])
 (.block 0 (.loop zr3y)))
 (.seq (.region false [⟨none,(some 23),.mov (.t 0)⟩,
  ⟨none,(some 24),.call (.k (.fn (.func 54) [] [])) [(.t 23),(.k (.str [47]))]⟩,
  ⟨none,(some 4),.mov (.t 24)⟩])
 (.seq (.seq (.region false [⟨none,(some 5),.mov (.k (.int .i64 0))⟩])
 (.block 2 (.loop zmzd)))
 (.seq (.region false [⟨none,(some 2),.mov (.k (.bool true))⟩])
 .ret))))))
 ntmps:=50
 res:=[.tmp 2]
theorem z9gs:zsjc P Tryd.f26=some a26:=by kernel_rfl
end
section
set_option linter.unusedSimpArgs false
set_option linter.unusedVariables false
open Go Go.Am
theorem zazq (s:List UInt8) (c:UInt8):Runs T52 a73 [.str s,.str [c]] (ix1 s c):=by
 refine ⟨?_⟩
 simp (disch:=first|omega|simp<;>omega|fail) [-zA,-zB,-zC,-zD,-zE,a73,zcmd,z8u6,ix1]
def iV:DV→Option Int
 | .int .i64 n=>some n
 | _=>none
def mm2 (m:Bool) (x y:DV):Option DV:=(iV x).bind fun a=>(iV y).bind fun b=>some (.int .i64 (if m then max a b else min a b))
theorem zy6n {a b:Int}:mm2 false (.int .i64 a) (.int .i64 b)=some (.int .i64 (min a b)):=rfl
theorem zluv {T:Tbl} {dr m:Bool} {x y:Opd} {t:List DV} {h:List AObj}:zn3j T dr (.mm m [x,y]) t h=pr (mm2 m (ev t x) (ev t y)) h:=by
 simp only [zn3j,evOp]
 refine (congrArg (fun q=>Option.bind q _) (zd7r (g:=fun z=>iV (ev t z)) fun z _ => ?_)).trans ?_
 ·generalize ev t z=d
  cases d with
  | int k n=>cases k<;>rfl
  | _=>rfl
 ·simp only [zp5p,mm2]
  cases iV (ev t x)<;>cases iV (ev t y)<;>rfl
def cnD (s:List UInt8) (c:B8):DV := .int .i64 (Lib.countByte s c.toNat.toUInt8)
def cn1 (s:List UInt8) (c:UInt8):DV := .int .i64 (Lib.countByte s c)
def T70:Tbl:=addT 83 (.pure (cSB cnD)) tbl0
theorem zsdt:T70 83 = .pure (cSB cnD):=by simp [T70]
theorem zc9y:T70.Sound P:=z0rp (zboo fun s c=>zxuw Tryd.func83 (by kernel_rfl) (by kernel_rfl) (by kernel_rfl) (by kernel_rfl) s c) zr5o
theorem z1yh (s:List UInt8) (c:UInt8):Runs T70 a77 [.str s,.str [c]] (cn1 s c):=by
 refine ⟨?_⟩
 simp (disch:=first|omega|simp<;>omega|fail) [-zA,-zB,-zC,-zD,-zE,a77,zsdt,zvdo,cnD,cn1,zq22]
def T71:Tbl:=addT 77 (.pure (cS1 cn1)) (addT 73 (.pure (cS1 ix1)) tbl0)
theorem zovh:T71 77 = .pure (cS1 cn1):=by simp [T71]
theorem z7wv:T71 73 = .pure (cS1 ix1):=by simp [T71]
theorem zfkh:T71.Sound P:=z0rp (zpzi fun s c=>zljw mix zc9y Tryd.func77 z20a (z1yh s c)) (z0rp (zpzi fun s c=>zljw mix zyuf Tryd.func73 zn06 (zazq s c)) zr5o)
def strs (l:List (List UInt8)):List DV:=l.map DV.str
def zabr (s:List UInt8):DV := .sl false 1 (z2fg s).length (strs (z2fg s))
def z0du (l:List (List UInt8)) (i:Nat):List (List UInt8):=l.take i++List.replicate (l.length-i) []
theorem za0c {l:List (List UInt8)} {i:Nat} (h:i≤l.length):(z0du l i).length=l.length:=by simp [z0du]; omega
theorem zaz4 {l:List (List UInt8)} {i:Nat} (h:i<l.length):(z0du l i).set i l[i]=z0du l (i+1):=by
 unfold z0du
 have hl:(l.take i).length=i:=List.length_take_of_le (by omega)
 rw [y0r _ _ (by omega),hl,Nat.sub_self,zmqh h]
 obtain ⟨m,hm⟩ : ∃ m,l.length-i=m+1:=⟨l.length-i-1,by omega⟩
 rw [hm,show l.length-(i+1)=m by omega,List.replicate_succ,List.set_cons_zero,y0f]
 rfl
theorem z13y (l:List (List UInt8)):z0du l l.length=l:=by simp [z0du]
theorem zmfi (l:List (List UInt8)):rep l.length (DV.str [])=strs (z0du l 0):=by simp [rep,z0du,strs]
theorem zw6r {l:List (List UInt8)} {i:Nat} {x:List UInt8}:(strs l).set i (.str x)=strs (l.set i x):=by simp [strs,List.map_set]
theorem zy2g (l:List (List UInt8)):(strs l).length=l.length:=by simp [strs]
theorem zgvs : ∀ (l:List (List UInt8)),zbao (strs l)=true
 | []=>rfl
 | x::l=>by
  have:=zgvs l
  simp only [strs,y0u] at this ⊢
  simp [zbao,zyp8,this]
theorem zpp8 (h:List AObj) (k:Nat) (l:List (List UInt8)):z4tt h k (strs l)=some (strs l):=z619 (zgvs l)
structure X94 where
 i:Nat
 r:List UInt8
def S94 (s:List UInt8) (x:X94):St:=zbq4 (.str x.r) (.str [47]) (.int .i64 0) (.int .i64 ((z2fg s).length-1:Int)) (.ms 0 (z2fg s).length 0 1 (z2fg s).length (z2fg s).length) (.int .i64 x.i) [.cells (strs (z0du (z2fg s) x.i))]
def R94 (s:List UInt8) (x:X94):Prop:=x.r.length≤s.length∧x.i<(z2fg s).length∧(z2fg s).drop x.i=z2fg x.r
theorem zjnq (s:List UInt8) (c:UInt8):Lib.countByte s c≤s.length:=List.count_le_length
theorem z00p (s:List UInt8) (hs:s.length≤100000):Runs T71 a67 [.str s,.str [47],.int .i64 0,.int .i64 (-1)] (zabr s):=by
 refine ⟨?_⟩
 have hlc:=z9lv s
 have hcl:=zjnq s 47
 obtain ⟨n,hn⟩ : ∃ n,(z2fg s).length=n:=⟨_,rfl⟩
 have hmin:min ((Lib.countByte s 47:Int)+1) ((s.length:Int)+1)=n:=by omega
 have hn1:(Lib.countByte s 47:Int)+1=n:=by omega
 have hn2:min (n:Int) ((s.length:Int)+1)=n:=by omega
 simp (disch:=first|omega|simp<;>omega|fail) [-zA,-zB,-zC,-zD,-zE,zluv,zy6n,a67,zovh,z8u6,cn1,hn1,hn2]
 have hr0:=zmfi (z2fg s)
 rw [hn] at hr0
 refine zlm5 (S94 s) (fun x=>x.r.length) (R94 s) ⟨0,s⟩ (z515 (by simp (disch:=first|omega|simp<;>omega|fail) [-zA,-zB,-zC,-zD,-zE,hn]) (by simp (disch:=first|omega|simp<;>omega|fail) [-zA,-zB,-zC,-zD,-zE,hr0])) ⟨y0q _,by show 0<(z2fg s).length; omega,rfl⟩ (fun x hx => ?_)
 obtain ⟨i,r⟩:=x
 have hx':=hx
 obtain ⟨hrl,hi,hd⟩:=hx'
 simp only at hrl hi hd
 have hle:=za0c (l:=z2fg s) (i:=i) (by omega)
 have hls:=zy2g (z0du (z2fg s) i)
 simp (disch:=first|omega|simp<;>omega|fail) [-zA,-zB,-zC,-zD,-zE,zfle,zbq4,S94,hn]
 by_cases h:i+1<n
 ·have h1:(i:Int)<(n:Int)-1:=by omega
  have hin:i<n:=by omega
  have hlr:(z2fg r).length=n-i:=by rw [← hd,y08,hn]
  by_cases hix:Lib.indexByte r 47 = -1
  ·rw [zbf3 hix] at hlr
   simp at hlr; omega
  ·obtain ⟨o,ho⟩ : ∃ o:Nat,Lib.indexByte r 47=o:=⟨(Lib.indexByte r 47).toNat,by have:=Lib.indexByte_ge r 47; omega⟩
   have hlt:=z8bu ho
   have hneg:¬ (o:Int)<0:=by omega
   have hol:(o:Int)≤r.length:=by omega
   have hol1:o≤r.length:=by omega
   have hol2:o+1≤r.length:=by omega
   have hol3:(o:Int)+1≤r.length:=by omega
   have e1:((o:Int)+1).toNat=o+1:=by omega
   have ht:(r.drop (o+1)).take (r.length-(o+1))=r.drop (o+1):=y00 (by simp)
   have hcs:=zjoj ho
   have hget:(z2fg s)[i]'(by omega)=r.take o:=by
    have:(z2fg s)[i]? = some (r.take o):=by
     have:=congrArg (·[0]?) hd
     simp only [List.getElem?_drop,Nat.add_zero,hcs] at this
     simpa using this
    exact (y0d.1 this).2
   have hset:(strs (z0du (z2fg s) i)).set i (.str (r.take o))=strs (z0du (z2fg s) (i+1)):=by
    rw [zw6r,← hget,zaz4 (by omega)]
   have hd2:(z2fg s).drop (i+1)=z2fg (r.drop (o+1)):=by
    rw [← y06,hd,hcs]; rfl
   simp (disch:=first|omega|simp<;>omega|fail) [-zA,-zB,-zC,-zD,-zE,h1,hin,z7wv,z8u6,ix1,ho,hneg,hol,hol1,hol2,hol3,e1,ht,hls,hle,hn]
   exact ⟨⟨i+1,r.drop (o+1)⟩,z515 (by simp (disch:=first|omega|simp<;>omega|fail) [-zA,-zB,-zC,-zD,-zE,hn]) (by simp (disch:=first|omega|simp<;>omega|fail) [-zA,-zB,-zC,-zD,-zE,hset]),by simp; omega,by simp only [y08]; omega,by show i+1<(z2fg s).length; omega,hd2⟩
 ·have h1:¬ (i:Int)<(n:Int)-1:=by omega
  have hin:i<n:=by omega
  have hi1:i+1=n:=by omega
  have hi2:(i:Int)+1=n:=by omega
  have hlr:(z2fg r).length=1:=by rw [← hd,y08]; omega
  have hcr:z2fg r=[r]:=by
   by_cases hix:Lib.indexByte r 47 = -1
   ·exact zbf3 hix
   ·obtain ⟨o,ho⟩ : ∃ o:Nat,Lib.indexByte r 47=o:=⟨(Lib.indexByte r 47).toNat,by have:=Lib.indexByte_ge r 47; omega⟩
    rw [zjoj ho] at hlr
    have:=zf0z (r.drop (o+1))
    simp at hlr
    exact absurd hlr this
  have hget:(z2fg s)[i]'(by omega)=r:=by
   have:(z2fg s)[i]? = some r:=by
    have:=congrArg (·[0]?) hd
    simp only [List.getElem?_drop,Nat.add_zero,hcr] at this
    simpa using this
   exact (y0d.1 this).2
  have hset:(strs (z0du (z2fg s) i)).set i (.str r)=strs (z2fg s):=by
   rw [zw6r]
   conv=>lhs; rw [← hget]
   rw [zaz4 (by omega),show i+1=(z2fg s).length by omega,z13y]
  have hlc2:=zy2g (z2fg s)
  have htk:(strs (z2fg s)).take n=strs (z2fg s):=y00 (by omega)
  simp (disch:=first|omega|simp<;>omega|fail) [-zA,-zB,-zC,-zD,-zE,h1,hin,hi2,hls,hle,hn,hset,zabr,hlc2,htk,zpp8]
def cGS:List DV→Option DV
 | [.str s,.str [47],.int .i64 0,.int .i64 (-1)]=>if s.length≤100000 then some (zabr s) else none|_=>none
theorem z0qy {s:List UInt8} (h:s.length≤100000):cGS [.str s,.str [47],.int .i64 0,.int .i64 (-1)]=some (zabr s):=if_pos h
def T72:Tbl:=addT 67 (.pure cGS) tbl0
theorem ze0j:T72 67 = .pure cGS:=by simp [T72]
theorem zegh:T72.Sound P:=by
 refine z0rp (fun args v e => ?_) zr5o
 unfold cGS at e
 split at e
 ·split at e
  ·rename_i hl; simp at e; subst e; exact zljw mix zfkh Tryd.func67 zy8u (z00p _ hl)
  ·simp at e
 ·simp at e
theorem z3aj (s:List UInt8) (hs:s.length≤100000):Runs T72 a54 [.str s,.str [47]] (zabr s):=by
 refine ⟨?_⟩
 simp (disch:=first|omega|simp<;>omega|fail) [-zA,-zB,-zC,-zD,-zE,a54,ze0j,z0qy,hs,zabr,zpp8]
def cSpl:List DV→Option DV
 | [.str s,.str [47]]=>if s.length≤100000 then some (zabr s) else none|_=>none
theorem ziwh {s:List UInt8} (h:s.length≤100000):cSpl [.str s,.str [47]]=some (zabr s):=if_pos h
def T73:Tbl:=addT 54 (.pure cSpl) tbl0
theorem zjkf:T73 54 = .pure cSpl:=by simp [T73]
theorem zfxp:T73.Sound P:=by
 refine z0rp (fun args v e => ?_) zr5o
 unfold cSpl at e
 split at e
 ·split at e
  ·rename_i hl; simp at e; subst e; exact zljw mix zegh Tryd.func54 zq4q (z3aj _ hl)
  ·simp at e
 ·simp at e
def S17a (s:List UInt8) (i:Nat):St:=zhlx (.str s) (.int .i64 i) []
def S17b (s:List UInt8) (i:Nat):St:=z58v (zabr s) (.int .i64 i) []
def R17a (s:List UInt8) (i:Nat):Prop:=i≤s.length∧noZ (s.take i)=true
def R17b (s:List UInt8) (i:Nat):Prop:=i≤(z2fg s).length∧((z2fg s).take i).all okC=true
theorem zkka {l:List (List UInt8)} {i:Nat} (h:i<l.length):oneC 1 false (((strs l).drop i).take 1)=some (.str l[i]):=zai5 h (by decide)
theorem z8tt {s:List UInt8} {i:Nat} (h:i<s.length):noZ (s.take (i+1))=(noZ (s.take i)&&s[i] != 0):=by
 rw [zmqh h,z2u1]; simp [noZ]
theorem z80k (s:List UInt8):Runs T73 a26 [.str s] (za1j s):=by
 refine ⟨?_⟩
 by_cases h1:s=[]
 ·subst h1
  simp (disch:=first|omega|simp<;>omega|fail) [-zA,-zB,-zC,-zD,-zE,a26,za1j,show zj1f []=false from rfl]
 by_cases h2:200<s.length
 ·have h2':(200:Int)<s.length:=by omega
  have hp:zj1f s=false:=by simp [zj1f]; omega
  simp (disch:=first|omega|simp<;>omega|fail) [-zA,-zB,-zC,-zD,-zE,a26,h1,h2',za1j,hp]
 have h2':¬ (200:Int)<s.length:=by omega
 have h3:1≤s.length:=by have:=y0c.2 h1; omega
 simp (disch:=first|omega|simp<;>omega|fail) [-zA,-zB,-zC,-zD,-zE,a26,h1,h2']
 refine zlm5 (S17a s) (fun i=>s.length-i) (R17a s) 0 (z515 (by simp (disch:=first|omega|simp<;>omega|fail) [-zA,-zB,-zC,-zD,-zE]) (by simp (disch:=first|omega|simp<;>omega|fail) [-zA,-zB,-zC,-zD,-zE])) ⟨by omega,rfl⟩ (fun i hi => ?_)
 obtain ⟨hi1,hi2⟩:=hi
 simp (disch:=first|omega|simp<;>omega|fail) [-zA,-zB,-zC,-zD,-zE,zr3y,zhlx,S17a]
 by_cases h:i<s.length
 ·have h4:(i:Int)<s.length:=by omega
  by_cases hz:s[i]=0
  ·have b1:s[i].toBitVec=0#8:=zw4m.2 hz
   have hnz:noZ s=false:=by
    rw [noZ,List.all_eq_false]
    exact ⟨s[i],y0n h,by simp [hz]⟩
   have hp:zj1f s=false:=by simp [zj1f,hnz]
   simp (disch:=first|omega|simp<;>omega|fail) [-zA,-zB,-zC,-zD,-zE,h,h4,b1,za1j,hp]
  ·have b1:¬ s[i].toBitVec=0#8:=fun e=>hz (zw4m.1 e)
   have b1q:(s[i].toBitVec == 0#8)=false:=by simp [b1]
   simp (disch:=first|omega|simp<;>omega|fail) [-zA,-zB,-zC,-zD,-zE,h,h4,b1,b1q]
   exact ⟨i+1,z515 (by simp (disch:=first|omega|simp<;>omega|fail) [-zA,-zB,-zC,-zD,-zE]) (by simp (disch:=first|omega|simp<;>omega|fail) [-zA,-zB,-zC,-zD,-zE]),by omega,by omega,by rw [z8tt h,hi2]; simp [hz]⟩
 ·have h4:¬ (i:Int)<s.length:=by omega
  obtain rfl:i=s.length:=by omega
  rw [List.take_length] at hi2
  have hp:zj1f s=(z2fg s).all okC:=by
   simp only [zj1f,h3,show s.length≤200 by omega,hi2,decide_true,y0t]
  have hsp:=ziwh (s:=s) (by omega)
  have hcl:(z2fg s).length≤1000:=by have:=z9lv s; have:=zjnq s 47; omega
  simp (disch:=first|omega|simp<;>omega|fail) [-zA,-zB,-zC,-zD,-zE,h4,zjkf,hsp]
  refine zlm5 (S17b s) (fun i=>(z2fg s).length-i) (R17b s) 0 (z515 (by simp (disch:=first|omega|simp<;>omega|fail) [-zA,-zB,-zC,-zD,-zE,zabr]) (by simp (disch:=first|omega|simp<;>omega|fail) [-zA,-zB,-zC,-zD,-zE])) ⟨by omega,rfl⟩ (fun i hi => ?_)
  obtain ⟨hj1,hj2⟩:=hi
  simp (disch:=first|omega|simp<;>omega|fail) [-zA,-zB,-zC,-zD,-zE,zmzd,z58v,S17b,zabr]
  by_cases h5:i<(z2fg s).length
  ·have h6:(i:Int)<(z2fg s).length:=by omega
   have hg:=zkka h5
   obtain ⟨y,hy⟩ : ∃ y,(z2fg s)[i]=y:=⟨_,rfl⟩
   rw [hy] at hg
   have bad:okC y=false→zj1f s=false:=fun e=>by
    rw [hp,List.all_eq_false]
    exact ⟨(z2fg s)[i],y0n h5,by rw [hy,e]; simp⟩
   by_cases e1:y=[]
   ·subst e1
    simp (disch:=first|omega|simp<;>omega|fail) [-zA,-zB,-zC,-zD,-zE,h5,h6,hg,za1j,bad rfl]
   ·by_cases e2:y=[46]
    ·subst e2
     simp (disch:=first|omega|simp<;>omega|fail) [-zA,-zB,-zC,-zD,-zE,h5,h6,hg,za1j,bad rfl]
    ·by_cases e3:y=[46,46]
     ·subst e3
      simp (disch:=first|omega|simp<;>omega|fail) [-zA,-zB,-zC,-zD,-zE,h5,h6,hg,za1j,bad rfl]
     ·simp (disch:=first|omega|simp<;>omega|fail) [-zA,-zB,-zC,-zD,-zE,h5,h6,hg,e1,e2,e3]
      refine ⟨i+1,z515 (by simp (disch:=first|omega|simp<;>omega|fail) [-zA,-zB,-zC,-zD,-zE,zabr]) (by simp (disch:=first|omega|simp<;>omega|fail) [-zA,-zB,-zC,-zD,-zE]),by omega,by omega,?_⟩
      rw [zmqh h5,y0j,hj2,hy]
      simp [okC,e1,e2,e3]
  ·have h6:¬ (i:Int)<(z2fg s).length:=by omega
   have:(z2fg s).take i=z2fg s:=y00 (by omega)
   rw [this] at hj2
   have hq:zj1f s=true:=by rw [hp,hj2]
   simp (disch:=first|omega|simp<;>omega|fail) [-zA,-zB,-zC,-zD,-zE,h5,h6,za1j,hq]
end
section
set_option linter.unusedSimpArgs false
set_option linter.unusedVariables false
open Go Go.Am
open Classical in
noncomputable def tv (p:Prop):Bool:=decide p
theorem zogs {p:Prop} (h:p):tv p=true:=by simp [tv,h]
theorem zewf {p:Prop} (h:¬ p):tv p=false:=by simp [tv,h]
def okCh (l:List Dg):Prop := ∀ i (h:i<l.length),l[i]≠dg0∧l[i] ∉ l.take i
structure ValidG (g:Grp):Prop where
 ns:zj1f g.ns=true
 im:zj1f g.im=true
 w0:0≤g.want
 w1:g.want≤8
 l0:0≤g.least
 l1:g.least≤g.want
 d0:0≤g.down
 d1:g.down≤g.want
 n:g.ch.l.length≤6
 ch:okCh g.ch.l
def fitG (ns im:List UInt8) (g:Grp):Bool:=decide (g.ns=ns)&&decide (g.im=im)
def z9w0 (l:List Grp) (ns im:List UInt8):Int:=ixI (fitG ns im) l
def z092 (l:List Ins) (id:Int):Int:=ixI (fun x=>decide (x.id=id)) l
abbrev zcie (t:Int):Prop:=0≤t∧t≤1099511627776
structure SoundI (n:Nat) (next:Int) (x:Ins):Prop where
 id0:1≤x.id
 id1:x.id<next
 g0:0≤x.grp
 g1:x.grp<n
 art:x.art≠dg0
 s0:1≤x.state
 s1:x.state≤3
 si:zcie x.since
 de:x.den = -1∨zcie x.den
structure ValidC (c:Clu):Prop where
 ng:c.g.l.length≤16
 ni:c.i.l.length≤200
 n0:1≤c.next
 n1:c.next≤1099511627776
 g : ∀ i (h:i<c.g.l.length),ValidG c.g.l[i]∧z9w0 c.g.l c.g.l[i].ns c.g.l[i].im=i
 i : ∀ i (h:i<c.i.l.length),SoundI c.g.l.length c.next c.i.l[i]∧(∀ h0:0<i,c.i.l[i-1].id<c.i.l[i].id)
def Sl.clone {α:Type} (x:Sl α):Sl α:=⟨if x.l=[] then x.k.map fun _=>true else some false,x.l,fun e=>by
 by_cases h:x.l=[]
 ·exact h
 ·simp [h] at e,x.b⟩
def own {α:Type} (l:List α):Sl α:=if h:l.length≤4294967296 then ⟨some false,l,by simp,h⟩ else ⟨none,[],fun _=>rfl,by simp⟩
theorem z3e9 {α:Type} {l:List α} (h:l.length≤4294967296):(own l).l=l:=by rw [own,dif_pos h]
theorem zqrs {α:Type} {l:List α} {s:Nat} {f:α→List DV} (h:l.length≤4294967296):(own l).dv s f = .sl false s l.length (l.flatMap f):=by rw [own,dif_pos h]; rfl
def Grp.clone (g:Grp):Grp:={ g with ch:=g.ch.clone }
def clu0:Clu:=⟨⟨none,[],fun _=>rfl,by simp⟩,⟨none,[],fun _=>rfl,by simp⟩,0⟩
def Clu.clone (c:Clu):Clu:=⟨⟨c.g.clone.k,c.g.l.map Grp.clone,fun e=>by simp [show c.g.l=[] from c.g.clone.h e],by have:=c.g.b; simpa using this⟩,c.i.clone,c.next⟩
def gl (g:Grp):List UInt8 × List UInt8 × Int × Int × Int × List Dg:=(g.ns,g.im,g.want,g.least,g.down,g.ch.l)
structure SameC (a b:Clu):Prop where
 g:a.g.l.map gl=b.g.l.map gl
 i:a.i.l=b.i.l
 n:a.next=b.next
open Classical in
noncomputable def zeu8 (c:Clu) (g:Grp):Clu × Int :=
 if ¬ ValidC c∨¬ ValidG g then (clu0,1)
 else if z9w0 c.g.l g.ns g.im<0 then
  (if 16≤c.g.l.length then (clu0,3) else (⟨own (c.g.l.map Grp.clone++[g.clone]),c.i.clone,c.next⟩,0))
 else (⟨own ((c.g.l.map Grp.clone).set (z9w0 c.g.l g.ns g.im).toNat g.clone),c.i.clone,c.next⟩,0)
def newI (c:Clu) (group:Int) (d:Dg) (t:Int):Ins:=⟨c.next,group,d,1,t,-1⟩
open Classical in
noncomputable def z4wu (c:Clu) (group:Int) (d:Dg) (t:Int):Clu × Int × Int :=
 if ¬ ValidC c∨d=dg0∨¬ zcie t then (clu0,0,1)
 else if group<0∨c.g.l.length≤group then (clu0,0,4)
 else if 200≤c.i.l.length∨1099511627776≤c.next then (clu0,0,3)
 else (⟨c.clone.g,own (c.i.l++[newI c group d t]),c.next+1⟩,c.next,0)
def may (to s:Int):Bool:=if to=2 then decide (s=1) else decide (s≠3)
def Ins.st (x:Ins) (v:Int):Ins:=⟨x.id,x.grp,x.art,v,x.since,x.den⟩
def Ins.si (x:Ins) (v:Int):Ins:=⟨x.id,x.grp,x.art,x.state,v,x.den⟩
def Ins.de (x:Ins) (v:Int):Ins:=⟨x.id,x.grp,x.art,x.state,x.since,v⟩
def setI (l:List Ins) (i:Nat) (to t:Int):List Ins:=match l[i]? with
 | some x=>l.set i ((x.st to).si t)
 | none=>l
open Classical in
noncomputable def z5wo (c:Clu) (id t to:Int):Clu × Int :=
 if ¬ ValidC c∨¬ zcie t then (clu0,1)
 else if z092 c.i.l id<0 then (clu0,4)
 else if ((c.i.l[(z092 c.i.l id).toNat]?).map fun x=>may to x.state)=some true then (⟨c.clone.g,own (setI c.i.l (z092 c.i.l id).toNat to t),c.next⟩,0)
 else (clu0,30)
end
section
set_option linter.unusedSimpArgs false
set_option linter.unusedVariables false
open Go Go.Am
def zt7b:ACode :=
 (.seq (.region false [⟨none,(some 9),.bin .lss (.t 8) (.t 7)⟩])
 (.seq (.cond (.t 9) .skip
 (.exit 0))
 (.seq (.block 1 (.seq (.region false [⟨none,(some 10),.mov (.t 8)⟩,
  ⟨none,(some 5),.mov (.t 10)⟩])
 (.seq (.region true [⟨none,(some 11),.load 32 true (.t 3)⟩,
  ⟨none,(some 12),.mov (.t 0)⟩,
  ⟨none,(some 13),.mov (.t 5)⟩,
  ⟨none,(some 14),.idxS 32 (.t 12) (.t 13)⟩,
  ⟨none,(some 15),.load 32 true (.t 14)⟩,
  ⟨none,(some 16),.eqa false [(32,0)] (.t 11) (.t 15)⟩])
 (.cond (.t 16) (.seq (.region false [⟨none,(some 17),.mov (.t 5)⟩,
  ⟨none,(some 4),.mov (.t 17)⟩])
 .ret)
 .skip))))
 (.region false [⟨none,(some 18),.bin .add (.t 8) (.k (.int .i64 1))⟩,
  ⟨none,(some 8),.mov (.t 18)⟩]))))
def znp4 (x0 x3 x7 x8:DV) (h:List AObj):St:=⟨[x0,.junk,.junk,x3,.junk,.junk,.junk,x7,x8]++js 10,h⟩
def a53:AFn where
 code:=(.seq (.region false [⟨none,(some 3),.box (.t 1)⟩,
  ⟨none,(some 4),.mov (.k (.int .i64 0))⟩])
 (.seq (.seq (.region false [⟨none,(some 6),.mov (.t 0)⟩,
  ⟨none,(some 7),.len (.t 6)⟩,
  ⟨none,(some 8),.mov (.k (.int .i64 0))⟩])
 (.block 0 (.loop zt7b)))
 (.seq (.region false [⟨none,(some 4),.mov (.k (.int .i64 (-1)))⟩])
 .ret)))
 ntmps:=19
 res:=[.tmp 4]
theorem zq51:zsjc P Tryd.f53=some a53:=by kernel_rfl
def a25:AFn where
 code:=(.seq (.region false [⟨none,(some 3),.box (.t 1)⟩,
  ⟨none,(some 4),.mov (.k (.bool false))⟩])
 (.seq (.region false [⟨none,(some 5),.mov (.t 0)⟩,
  ⟨none,(some 6),.load 32 true (.t 3)⟩,
  ⟨none,(some 7),.call (.k (.fn (.func 53) [] [])) [(.t 5),(.t 6)]⟩,
  ⟨none,(some 8),.bin .geq (.t 7) (.k (.int .i64 0))⟩,
  ⟨none,(some 4),.mov (.t 8)⟩])
 .ret))
 ntmps:=9
 res:=[.tmp 4]
theorem zgum:zsjc P Tryd.f25=some a25:=by kernel_rfl
def zzdb:ACode :=
 (.seq (.region false [⟨none,(some 9),.bin .lss (.t 8) (.t 7)⟩])
 (.seq (.cond (.t 9) .skip
 (.exit 0))
 (.seq (.block 1 (.seq (.region false [⟨none,(some 10),.mov (.t 8)⟩,
  ⟨none,(some 5),.mov (.t 10)⟩])
 (.seq (.region false [⟨none,(some 11),.mov (.t 1)⟩,
  ⟨none,(some 12),.mov (.t 0)⟩,
  ⟨none,(some 13),.mov (.t 5)⟩,
  ⟨none,(some 14),.idxS 6 (.t 12) (.t 13)⟩,
  ⟨none,(some 15),.load 6 true (.t 14)⟩,
  ⟨none,(some 16),.call (.t 11) [(.t 15)]⟩])
 (.cond (.t 16) (.seq (.region false [⟨none,(some 17),.mov (.t 5)⟩,
  ⟨none,(some 4),.mov (.t 17)⟩])
 .ret)
 .skip))))
 (.region false [⟨none,(some 18),.bin .add (.t 8) (.k (.int .i64 1))⟩,
  ⟨none,(some 8),.mov (.t 18)⟩]))))
def zgz1 (x0 x1 x7 x8:DV) (h:List AObj):St:=⟨[x0,x1]++js 5++[x7,x8]++js 10,h⟩
def a47:AFn where
 code:=(.seq (.region false [⟨none,(some 4),.mov (.k (.int .i64 0))⟩])
 (.seq (.seq (.region false [⟨none,(some 6),.mov (.t 0)⟩,
  ⟨none,(some 7),.len (.t 6)⟩,
  ⟨none,(some 8),.mov (.k (.int .i64 0))⟩])
 (.block 0 (.loop zzdb)))
 (.seq (.region false [⟨none,(some 4),.mov (.k (.int .i64 (-1)))⟩])
 .ret)))
 ntmps:=19
 res:=[.tmp 4]
theorem zzqr:zsjc P Tryd.f47=some a47:=by kernel_rfl
def zor5:ACode :=
 (.seq (.region false [⟨none,(some 9),.bin .lss (.t 8) (.t 7)⟩])
 (.seq (.cond (.t 9) .skip
 (.exit 0))
 (.seq (.block 1 (.seq (.region false [⟨none,(some 10),.mov (.t 8)⟩,
  ⟨none,(some 5),.mov (.t 10)⟩])
 (.seq (.region false [⟨none,(some 11),.mov (.t 1)⟩,
  ⟨none,(some 12),.mov (.t 0)⟩,
  ⟨none,(some 13),.mov (.t 5)⟩,
  ⟨none,(some 14),.idxS 37 (.t 12) (.t 13)⟩,
  ⟨none,(some 15),.load 37 true (.t 14)⟩,
  ⟨none,(some 16),.call (.t 11) [(.t 15)]⟩])
 (.cond (.t 16) (.seq (.region false [⟨none,(some 17),.mov (.t 5)⟩,
  ⟨none,(some 4),.mov (.t 17)⟩])
 .ret)
 .skip))))
 (.region false [⟨none,(some 18),.bin .add (.t 8) (.k (.int .i64 1))⟩,
  ⟨none,(some 8),.mov (.t 18)⟩]))))
def zrp1 (x0 x1 x7 x8:DV) (h:List AObj):St:=⟨[x0,x1]++js 5++[x7,x8]++js 10,h⟩
def a59:AFn where
 code:=(.seq (.region false [⟨none,(some 4),.mov (.k (.int .i64 0))⟩])
 (.seq (.seq (.region false [⟨none,(some 6),.mov (.t 0)⟩,
  ⟨none,(some 7),.len (.t 6)⟩,
  ⟨none,(some 8),.mov (.k (.int .i64 0))⟩])
 (.block 0 (.loop zor5)))
 (.seq (.region false [⟨none,(some 4),.mov (.k (.int .i64 (-1)))⟩])
 .ret)))
 ntmps:=19
 res:=[.tmp 4]
theorem zwsz:zsjc P Tryd.f59=some a59:=by kernel_rfl
def a48:AFn where
 code:=(.seq (.region false [⟨none,(some 3),.box (.t 0)⟩,
  ⟨none,(some 4),.mov (.k (.bool false))⟩])
 (.seq (.region false [⟨none,(some 5),.fld 0 (.t 3)⟩,
  ⟨none,(some 6),.load 1 false (.t 5)⟩,
  ⟨none,(some 7),.load 1 false (.t 1)⟩,
  ⟨none,(some 8),.bin .eql (.t 6) (.t 7)⟩,
  ⟨none,(some 9),.mov (.t 8)⟩,
  ⟨(some (9,true)),(some 10),.fld 1 (.t 3)⟩,
  ⟨(some (9,true)),(some 11),.load 1 false (.t 10)⟩,
  ⟨(some (9,true)),(some 12),.load 1 false (.t 2)⟩,
  ⟨(some (9,true)),(some 13),.bin .eql (.t 11) (.t 12)⟩,
  ⟨none,(some 14),.pick (.t 9) (.t 13) (.k (.bool false))⟩,
  ⟨none,(some 4),.mov (.t 14)⟩])
 .ret))
 ntmps:=15
 res:=[.tmp 4]
theorem zwi2:zsjc P Tryd.f48=some a48:=by kernel_rfl
def a60:AFn where
 code:=(.seq (.region false [⟨none,(some 2),.box (.t 0)⟩,
  ⟨none,(some 3),.mov (.k (.bool false))⟩])
 (.seq (.region false [⟨none,(some 4),.fld 0 (.t 2)⟩,
  ⟨none,(some 5),.load 1 false (.t 4)⟩,
  ⟨none,(some 6),.load 1 false (.t 1)⟩,
  ⟨none,(some 7),.bin .eql (.t 5) (.t 6)⟩,
  ⟨none,(some 3),.mov (.t 7)⟩])
 .ret))
 ntmps:=8
 res:=[.tmp 3]
theorem z6e9:zsjc P Tryd.f60=some a60:=by kernel_rfl
def a20:AFn where
 code:=(.seq (.region false [⟨none,(some 3),.box (.t 0)⟩,
  ⟨none,(some 4),.box (.t 1)⟩,
  ⟨none,(some 5),.box (.t 2)⟩,
  ⟨none,(some 6),.mov (.k (.int .i64 0))⟩])
 (.seq (.region false [⟨none,(some 7),.fld 0 (.t 3)⟩,
  ⟨none,(some 8),.load 1 false (.t 7)⟩,
  ⟨none,(some 9),.mkf (.func 48) [] [(.t 4),(.t 5)]⟩,
  ⟨none,(some 10),.call (.k (.fn (.func 47) [] [])) [(.t 8),(.t 9)]⟩,
  ⟨none,(some 6),.mov (.t 10)⟩])
 .ret))
 ntmps:=11
 res:=[.tmp 6]
theorem zfgm:zsjc P Tryd.f20=some a20:=by kernel_rfl
def a31:AFn where
 code:=(.seq (.region false [⟨none,(some 2),.box (.t 0)⟩,
  ⟨none,(some 3),.box (.t 1)⟩,
  ⟨none,(some 4),.mov (.k (.int .i64 0))⟩])
 (.seq (.region false [⟨none,(some 5),.fld 1 (.t 2)⟩,
  ⟨none,(some 6),.load 1 false (.t 5)⟩,
  ⟨none,(some 7),.mkf (.func 60) [] [(.t 3)]⟩,
  ⟨none,(some 8),.call (.k (.fn (.func 59) [] [])) [(.t 6),(.t 7)]⟩,
  ⟨none,(some 4),.mov (.t 8)⟩])
 .ret))
 ntmps:=9
 res:=[.tmp 4]
theorem zjer:zsjc P Tryd.f31=some a31:=by kernel_rfl
def a49:AFn where
 code:=(.seq (.region false [⟨none,(some 2),.mov (.k (.bool false))⟩])
 (.seq (.region false [⟨none,(some 3),.mov (.t 0)⟩,
  ⟨none,(some 4),.bin .geq (.t 3) (.k (.int .i64 0))⟩,
  ⟨none,(some 5),.mov (.t 4)⟩,
  ⟨(some (5,true)),(some 6),.mov (.t 0)⟩,
  ⟨(some (5,true)),(some 7),.bin .leq (.t 6) (.k (.int .i64 1099511627776))⟩,
  ⟨none,(some 8),.pick (.t 5) (.t 7) (.k (.bool false))⟩,
  ⟨none,(some 2),.mov (.t 8)⟩])
 .ret))
 ntmps:=9
 res:=[.tmp 2]
theorem zdc4:zsjc P Tryd.f49=some a49:=by kernel_rfl
def a21:AFn where
 code:=(.seq (.region false [⟨none,(some 2),.box (.t 0)⟩,
  ⟨none,(some 3),.box (.t 1)⟩,
  ⟨none,(some 4),.mov (.k (.bool false))⟩])
 (.seq (.region false [⟨none,(some 5),.fld 0 (.t 3)⟩,
  ⟨none,(some 6),.load 1 false (.t 5)⟩,
  ⟨none,(some 7),.bin .geq (.t 6) (.k (.int .i64 1))⟩,
  ⟨none,(some 8),.mov (.t 7)⟩,
  ⟨(some (8,true)),(some 9),.fld 0 (.t 3)⟩,
  ⟨(some (8,true)),(some 10),.load 1 false (.t 9)⟩,
  ⟨(some (8,true)),(some 11),.fld 2 (.t 2)⟩,
  ⟨(some (8,true)),(some 12),.load 1 false (.t 11)⟩,
  ⟨(some (8,true)),(some 13),.bin .lss (.t 10) (.t 12)⟩,
  ⟨none,(some 14),.pick (.t 8) (.t 13) (.k (.bool false))⟩,
  ⟨none,(some 15),.mov (.t 14)⟩,
  ⟨(some (15,true)),(some 16),.fld 1 (.t 3)⟩,
  ⟨(some (15,true)),(some 17),.load 1 false (.t 16)⟩,
  ⟨(some (15,true)),(some 18),.bin .geq (.t 17) (.k (.int .i64 0))⟩,
  ⟨none,(some 19),.pick (.t 15) (.t 18) (.k (.bool false))⟩,
  ⟨none,(some 20),.mov (.t 19)⟩,
  ⟨(some (20,true)),(some 21),.fld 1 (.t 3)⟩,
  ⟨(some (20,true)),(some 22),.load 1 false (.t 21)⟩,
  ⟨(some (20,true)),(some 23),.fld 0 (.t 2)⟩,
  ⟨(some (20,true)),(some 24),.load 1 false (.t 23)⟩,
  ⟨(some (20,true)),(some 25),.len (.t 24)⟩,
  ⟨(some (20,true)),(some 26),.bin .lss (.t 22) (.t 25)⟩,
  ⟨none,(some 27),.pick (.t 20) (.t 26) (.k (.bool false))⟩,
  ⟨none,(some 28),.mov (.t 27)⟩,
  ⟨(some (28,true)),(some 29),.fld 2 (.t 3)⟩,
  ⟨(some (28,true)),(some 30),.load 32 true (.t 29)⟩,
  ⟨(some (28,true)),(some 31),.build (rep 32 (w8 0#8)) []⟩,
  ⟨(some (28,true)),(some 32),.eqa true [(32,0)] (.t 30) (.t 31)⟩,
  ⟨none,(some 33),.pick (.t 28) (.t 32) (.k (.bool false))⟩,
  ⟨none,(some 34),.mov (.t 33)⟩,
  ⟨(some (34,true)),(some 35),.fld 34 (.t 3)⟩,
  ⟨(some (34,true)),(some 36),.load 1 false (.t 35)⟩,
  ⟨(some (34,true)),(some 37),.bin .geq (.t 36) (.k (.int .i64 1))⟩,
  ⟨none,(some 38),.pick (.t 34) (.t 37) (.k (.bool false))⟩,
  ⟨none,(some 39),.mov (.t 38)⟩,
  ⟨(some (39,true)),(some 40),.fld 34 (.t 3)⟩,
  ⟨(some (39,true)),(some 41),.load 1 false (.t 40)⟩,
  ⟨(some (39,true)),(some 42),.bin .leq (.t 41) (.k (.int .i64 3))⟩,
  ⟨none,(some 43),.pick (.t 39) (.t 42) (.k (.bool false))⟩,
  ⟨none,(some 44),.mov (.t 43)⟩,
  ⟨(some (44,true)),(some 45),.fld 35 (.t 3)⟩,
  ⟨(some (44,true)),(some 46),.load 1 false (.t 45)⟩,
  ⟨(some (44,true)),(some 47),.call (.k (.fn (.func 49) [] [])) [(.t 46)]⟩,
  ⟨none,(some 48),.pick (.t 44) (.t 47) (.k (.bool false))⟩,
  ⟨none,(some 49),.mov (.t 48)⟩,
  ⟨(some (49,true)),(some 50),.fld 36 (.t 3)⟩,
  ⟨(some (49,true)),(some 51),.load 1 false (.t 50)⟩,
  ⟨(some (49,true)),(some 52),.bin .eql (.t 51) (.k (.int .i64 (-1)))⟩,
  ⟨(some (49,true)),(some 53),.mov (.t 52)⟩,
  ⟨(some (53,false)),(some 54),.fld 36 (.t 3)⟩,
  ⟨(some (53,false)),(some 55),.load 1 false (.t 54)⟩,
  ⟨(some (53,false)),(some 56),.call (.k (.fn (.func 49) [] [])) [(.t 55)]⟩,
  ⟨(some (49,true)),(some 57),.pick (.t 53) (.k (.bool true)) (.t 56)⟩,
  ⟨none,(some 58),.pick (.t 49) (.t 57) (.k (.bool false))⟩,
  ⟨none,(some 4),.mov (.t 58)⟩])
 .ret))
 ntmps:=59
 res:=[.tmp 4]
theorem zyfb:zsjc P Tryd.f21=some a21:=by kernel_rfl
def zv5f:ACode :=
 (.seq (.region false [⟨none,(some 59),.bin .lss (.t 58) (.t 57)⟩])
 (.seq (.cond (.t 59) .skip
 (.exit 0))
 (.seq (.block 1 (.seq (.region false [⟨none,(some 60),.mov (.t 58)⟩,
  ⟨none,(some 61),.idxS 32 (.t 56) (.t 58)⟩,
  ⟨none,(some 62),.load 32 true (.t 61)⟩,
  ⟨none,(some 4),.alloc (rep 32 (w8 0#8))⟩,
  ⟨none,(some 3),.mov (.t 60)⟩,
  ⟨none,none,.store 32 (.t 4) (.t 62)⟩])
 (.seq (.region true [⟨none,(some 63),.load 32 true (.t 4)⟩,
  ⟨none,(some 64),.build (rep 32 (w8 0#8)) []⟩,
  ⟨none,(some 65),.eqa false [(32,0)] (.t 63) (.t 64)⟩,
  ⟨none,(some 66),.mov (.t 65)⟩,
  ⟨(some (66,false)),(some 67),.fld 5 (.t 1)⟩,
  ⟨(some (66,false)),(some 68),.load 1 false (.t 67)⟩,
  ⟨(some (66,false)),(some 69),.mov (.t 3)⟩,
  ⟨(some (66,false)),(some 70),.slcS 32 (.t 68) none (some (.t 69)) none⟩,
  ⟨(some (66,false)),(some 71),.load 32 true (.t 4)⟩,
  ⟨(some (66,false)),(some 72),.callN (.k (.fn (.func 25) [] [])) [(.t 70),(.t 71)]⟩,
  ⟨none,(some 73),.pick (.t 66) (.k (.bool true)) (.t 72)⟩])
 (.cond (.t 73) (.seq (.region false [⟨none,(some 2),.mov (.k (.bool false))⟩])
 .ret)
 .skip))))
 (.region false [⟨none,(some 74),.bin .add (.t 58) (.k (.int .i64 1))⟩,
  ⟨none,(some 58),.mov (.t 74)⟩]))))
def z7en (x1 x56 x57 x58:DV) (h:List AObj):St:=⟨[.junk,x1]++js 54++[x56,x57,x58]++js 16,h⟩
def a11:AFn where
 code:=(.seq (.region false [⟨none,(some 1),.box (.t 0)⟩,
  ⟨none,(some 2),.mov (.k (.bool false))⟩])
 (.seq (.seq (.region false [⟨none,(some 5),.fld 0 (.t 1)⟩,
  ⟨none,(some 6),.load 1 false (.t 5)⟩,
  ⟨none,(some 7),.call (.k (.fn (.func 24) [] [])) [(.t 6)]⟩,
  ⟨none,(some 8),.un .not (.t 7)⟩,
  ⟨none,(some 9),.mov (.t 8)⟩,
  ⟨(some (9,false)),(some 10),.fld 1 (.t 1)⟩,
  ⟨(some (9,false)),(some 11),.load 1 false (.t 10)⟩,
  ⟨(some (9,false)),(some 12),.call (.k (.fn (.func 24) [] [])) [(.t 11)]⟩,
  ⟨(some (9,false)),(some 13),.un .not (.t 12)⟩,
  ⟨none,(some 14),.pick (.t 9) (.k (.bool true)) (.t 13)⟩,
  ⟨none,(some 15),.mov (.t 14)⟩,
  ⟨(some (15,false)),(some 16),.fld 2 (.t 1)⟩,
  ⟨(some (15,false)),(some 17),.load 1 false (.t 16)⟩,
  ⟨(some (15,false)),(some 18),.bin .lss (.t 17) (.k (.int .i64 0))⟩,
  ⟨none,(some 19),.pick (.t 15) (.k (.bool true)) (.t 18)⟩,
  ⟨none,(some 20),.mov (.t 19)⟩,
  ⟨(some (20,false)),(some 21),.fld 2 (.t 1)⟩,
  ⟨(some (20,false)),(some 22),.load 1 false (.t 21)⟩,
  ⟨(some (20,false)),(some 23),.bin .gtr (.t 22) (.k (.int .i64 8))⟩,
  ⟨none,(some 24),.pick (.t 20) (.k (.bool true)) (.t 23)⟩,
  ⟨none,(some 25),.mov (.t 24)⟩,
  ⟨(some (25,false)),(some 26),.fld 3 (.t 1)⟩,
  ⟨(some (25,false)),(some 27),.load 1 false (.t 26)⟩,
  ⟨(some (25,false)),(some 28),.bin .lss (.t 27) (.k (.int .i64 0))⟩,
  ⟨none,(some 29),.pick (.t 25) (.k (.bool true)) (.t 28)⟩,
  ⟨none,(some 30),.mov (.t 29)⟩,
  ⟨(some (30,false)),(some 31),.fld 3 (.t 1)⟩,
  ⟨(some (30,false)),(some 32),.load 1 false (.t 31)⟩,
  ⟨(some (30,false)),(some 33),.fld 2 (.t 1)⟩,
  ⟨(some (30,false)),(some 34),.load 1 false (.t 33)⟩,
  ⟨(some (30,false)),(some 35),.bin .gtr (.t 32) (.t 34)⟩,
  ⟨none,(some 36),.pick (.t 30) (.k (.bool true)) (.t 35)⟩,
  ⟨none,(some 37),.mov (.t 36)⟩,
  ⟨(some (37,false)),(some 38),.fld 4 (.t 1)⟩,
  ⟨(some (37,false)),(some 39),.load 1 false (.t 38)⟩,
  ⟨(some (37,false)),(some 40),.bin .lss (.t 39) (.k (.int .i64 0))⟩,
  ⟨none,(some 41),.pick (.t 37) (.k (.bool true)) (.t 40)⟩,
  ⟨none,(some 42),.mov (.t 41)⟩,
  ⟨(some (42,false)),(some 43),.fld 4 (.t 1)⟩,
  ⟨(some (42,false)),(some 44),.load 1 false (.t 43)⟩,
  ⟨(some (42,false)),(some 45),.fld 2 (.t 1)⟩,
  ⟨(some (42,false)),(some 46),.load 1 false (.t 45)⟩,
  ⟨(some (42,false)),(some 47),.bin .gtr (.t 44) (.t 46)⟩,
  ⟨none,(some 48),.pick (.t 42) (.k (.bool true)) (.t 47)⟩,
  ⟨none,(some 49),.mov (.t 48)⟩,
  ⟨(some (49,false)),(some 50),.fld 5 (.t 1)⟩,
  ⟨(some (49,false)),(some 51),.load 1 false (.t 50)⟩,
  ⟨(some (49,false)),(some 52),.len (.t 51)⟩,
  ⟨(some (49,false)),(some 53),.bin .gtr (.t 52) (.k (.int .i64 6))⟩,
  ⟨none,(some 54),.pick (.t 49) (.k (.bool true)) (.t 53)⟩])
 (.cond (.t 54) (.seq (.region false [⟨none,(some 2),.mov (.k (.bool false))⟩])
 .ret)
 .skip))
 (.seq (.seq (.region false [⟨none,(some 55),.fld 5 (.t 1)⟩,
  ⟨none,(some 56),.load 1 false (.t 55)⟩,
  ⟨none,(some 57),.len (.t 56)⟩,
  ⟨none,(some 58),.mov (.k (.int .i64 0))⟩])
 (.block 0 (.loop zv5f)))
 (.seq (.region false [⟨none,(some 2),.mov (.k (.bool true))⟩])
 .ret))))
 ntmps:=75
 res:=[.tmp 2]
theorem zbwx:zsjc P Tryd.f11=some a11:=by kernel_rfl
def a9L0:ACode :=
 (.seq (.region false [⟨none,(some 31),.bin .lss (.t 30) (.t 29)⟩])
 (.seq (.cond (.t 31) .skip
 (.exit 0))
 (.seq (.block 1 (.seq (.region false [⟨none,(some 32),.mov (.t 30)⟩,
  ⟨none,(some 33),.idxS 6 (.t 28) (.t 30)⟩,
  ⟨none,(some 34),.load 6 true (.t 33)⟩,
  ⟨none,(some 4),.alloc [(.str []),(.str []),(.int .i64 0),(.int .i64 0),(.int .i64 0),.nils]⟩,
  ⟨none,(some 3),.mov (.t 32)⟩,
  ⟨none,none,.store 6 (.t 4) (.t 34)⟩])
 (.seq (.region false [⟨none,(some 35),.load 6 true (.t 4)⟩,
  ⟨none,(some 36),.call (.k (.fn (.func 11) [] [])) [(.t 35)]⟩,
  ⟨none,(some 37),.un .not (.t 36)⟩,
  ⟨none,(some 38),.mov (.t 37)⟩,
  ⟨(some (38,false)),(some 39),.load 3 true (.t 1)⟩,
  ⟨(some (38,false)),(some 40),.fld 0 (.t 4)⟩,
  ⟨(some (38,false)),(some 41),.load 1 false (.t 40)⟩,
  ⟨(some (38,false)),(some 42),.fld 1 (.t 4)⟩,
  ⟨(some (38,false)),(some 43),.load 1 false (.t 42)⟩,
  ⟨(some (38,false)),(some 44),.call (.k (.fn (.func 20) [] [])) [(.t 39),(.t 41),(.t 43)]⟩,
  ⟨(some (38,false)),(some 45),.mov (.t 3)⟩,
  ⟨(some (38,false)),(some 46),.bin .neq (.t 44) (.t 45)⟩,
  ⟨none,(some 47),.pick (.t 38) (.k (.bool true)) (.t 46)⟩])
 (.cond (.t 47) (.seq (.region false [⟨none,(some 2),.mov (.k (.bool false))⟩])
 .ret)
 .skip))))
 (.region false [⟨none,(some 48),.bin .add (.t 30) (.k (.int .i64 1))⟩,
  ⟨none,(some 30),.mov (.t 48)⟩]))))
def a9S0 (x1 x28 x29 x30:DV) (h:List AObj):St:=⟨[.junk,x1]++js 26++[x28,x29,x30]++js 47,h⟩
def a9L1:ACode :=
 (.seq (.region false [⟨none,(some 53),.bin .lss (.t 52) (.t 51)⟩])
 (.seq (.cond (.t 53) .skip
 (.exit 2))
 (.seq (.block 3 (.seq (.region false [⟨none,(some 54),.mov (.t 52)⟩,
  ⟨none,(some 55),.idxS 37 (.t 50) (.t 52)⟩,
  ⟨none,(some 56),.load 37 true (.t 55)⟩,
  ⟨none,(some 6),.alloc [(.int .i64 0),(.int .i64 0),(w8 0#8),(w8 0#8),(w8 0#8),(w8 0#8),(w8 0#8),(w8 0#8),(w8 0#8),(w8 0#8),(w8 0#8),(w8 0#8),(w8 0#8),(w8 0#8),(w8 0#8),(w8 0#8),(w8 0#8),(w8 0#8),(w8 0#8),(w8 0#8),(w8 0#8),(w8 0#8),(w8 0#8),(w8 0#8),(w8 0#8),(w8 0#8),(w8 0#8),(w8 0#8),(w8 0#8),(w8 0#8),(w8 0#8),(w8 0#8),(w8 0#8),(w8 0#8),(.int .i64 0),(.int .i64 0),(.int .i64 0)]⟩,
  ⟨none,(some 5),.mov (.t 54)⟩,
  ⟨none,none,.store 37 (.t 6) (.t 56)⟩])
 (.seq (.region true [⟨none,(some 57),.load 3 true (.t 1)⟩,
  ⟨none,(some 58),.load 37 true (.t 6)⟩,
  ⟨none,(some 59),.callN (.k (.fn (.func 21) [] [])) [(.t 57),(.t 58)]⟩,
  ⟨none,(some 60),.un .not (.t 59)⟩,
  ⟨none,(some 61),.mov (.t 60)⟩,
  ⟨(some (61,false)),(some 62),.mov (.t 5)⟩,
  ⟨(some (61,false)),(some 63),.bin .gtr (.t 62) (.k (.int .i64 0))⟩,
  ⟨(some (61,false)),(some 64),.mov (.t 63)⟩,
  ⟨(some (64,true)),(some 65),.fld 0 (.t 6)⟩,
  ⟨(some (64,true)),(some 66),.load 1 false (.t 65)⟩,
  ⟨(some (64,true)),(some 67),.fld 1 (.t 1)⟩,
  ⟨(some (64,true)),(some 68),.load 1 false (.t 67)⟩,
  ⟨(some (64,true)),(some 69),.mov (.t 5)⟩,
  ⟨(some (64,true)),(some 70),.bin .sub (.t 69) (.k (.int .i64 1))⟩,
  ⟨(some (64,true)),(some 71),.idxS 37 (.t 68) (.t 70)⟩,
  ⟨(some (64,true)),(some 72),.fld 0 (.t 71)⟩,
  ⟨(some (64,true)),(some 73),.load 1 false (.t 72)⟩,
  ⟨(some (64,true)),(some 74),.bin .leq (.t 66) (.t 73)⟩,
  ⟨(some (61,false)),(some 75),.pick (.t 64) (.t 74) (.k (.bool false))⟩,
  ⟨none,(some 76),.pick (.t 61) (.k (.bool true)) (.t 75)⟩])
 (.cond (.t 76) (.seq (.region false [⟨none,(some 2),.mov (.k (.bool false))⟩])
 .ret)
 .skip))))
 (.region false [⟨none,(some 77),.bin .add (.t 52) (.k (.int .i64 1))⟩,
  ⟨none,(some 52),.mov (.t 77)⟩]))))
def a9S1 (x1 x50 x51 x52:DV) (h:List AObj):St:=⟨[.junk,x1]++js 48++[x50,x51,x52]++js 25,h⟩
def a9:AFn where
 code:=(.seq (.region false [⟨none,(some 1),.box (.t 0)⟩,
  ⟨none,(some 2),.mov (.k (.bool false))⟩])
 (.seq (.seq (.region false [⟨none,(some 7),.fld 0 (.t 1)⟩,
  ⟨none,(some 8),.load 1 false (.t 7)⟩,
  ⟨none,(some 9),.len (.t 8)⟩,
  ⟨none,(some 10),.bin .gtr (.t 9) (.k (.int .i64 16))⟩,
  ⟨none,(some 11),.mov (.t 10)⟩,
  ⟨(some (11,false)),(some 12),.fld 1 (.t 1)⟩,
  ⟨(some (11,false)),(some 13),.load 1 false (.t 12)⟩,
  ⟨(some (11,false)),(some 14),.len (.t 13)⟩,
  ⟨(some (11,false)),(some 15),.bin .gtr (.t 14) (.k (.int .i64 200))⟩,
  ⟨none,(some 16),.pick (.t 11) (.k (.bool true)) (.t 15)⟩,
  ⟨none,(some 17),.mov (.t 16)⟩,
  ⟨(some (17,false)),(some 18),.fld 2 (.t 1)⟩,
  ⟨(some (17,false)),(some 19),.load 1 false (.t 18)⟩,
  ⟨(some (17,false)),(some 20),.bin .lss (.t 19) (.k (.int .i64 1))⟩,
  ⟨none,(some 21),.pick (.t 17) (.k (.bool true)) (.t 20)⟩,
  ⟨none,(some 22),.mov (.t 21)⟩,
  ⟨(some (22,false)),(some 23),.fld 2 (.t 1)⟩,
  ⟨(some (22,false)),(some 24),.load 1 false (.t 23)⟩,
  ⟨(some (22,false)),(some 25),.bin .gtr (.t 24) (.k (.int .i64 1099511627776))⟩,
  ⟨none,(some 26),.pick (.t 22) (.k (.bool true)) (.t 25)⟩])
 (.cond (.t 26) (.seq (.region false [⟨none,(some 2),.mov (.k (.bool false))⟩])
 .ret)
 .skip))
 (.seq (.seq (.region false [⟨none,(some 27),.fld 0 (.t 1)⟩,
  ⟨none,(some 28),.load 1 false (.t 27)⟩,
  ⟨none,(some 29),.len (.t 28)⟩,
  ⟨none,(some 30),.mov (.k (.int .i64 0))⟩])
 (.block 0 (.loop a9L0)))
 (.seq (.seq (.region false [⟨none,(some 49),.fld 1 (.t 1)⟩,
  ⟨none,(some 50),.load 1 false (.t 49)⟩,
  ⟨none,(some 51),.len (.t 50)⟩,
  ⟨none,(some 52),.mov (.k (.int .i64 0))⟩])
 (.block 2 (.loop a9L1)))
 (.seq (.region false [⟨none,(some 2),.mov (.k (.bool true))⟩])
 .ret)))))
 ntmps:=78
 res:=[.tmp 2]
theorem z528:zsjc P Tryd.f9=some a9:=by kernel_rfl
def a56:AFn where
 code:=(.seq (.region false [⟨none,(some 2),.mov (.k .nils)⟩])
 (.seq (.seq (.region false [⟨none,(some 3),.mov (.t 0)⟩,
  ⟨none,(some 4),.eqn 0 false (.t 3) (.k .nils)⟩])
 (.cond (.t 4) (.seq (.region false [⟨none,(some 2),.mov (.k .nils)⟩])
 .ret)
 .skip))
 (.seq (.region false [⟨none,(some 5),.bsl 32 0 (rep 32 (w8 0#8)) []⟩,
  ⟨none,(some 6),.mov (.t 0)⟩,
  ⟨none,(some 7),.app 32 32 (.t 5) (.t 6)⟩,
  ⟨none,(some 2),.mov (.t 7)⟩])
 .ret)))
 ntmps:=8
 res:=[.tmp 2]
theorem zcwb:zsjc P Tryd.f56=some a56:=by kernel_rfl
def a68:AFn where
 code:=(.seq (.region false [⟨none,(some 2),.mov (.k .nils)⟩])
 (.seq (.seq (.region false [⟨none,(some 3),.mov (.t 0)⟩,
  ⟨none,(some 4),.eqn 0 false (.t 3) (.k .nils)⟩])
 (.cond (.t 4) (.seq (.region false [⟨none,(some 2),.mov (.k .nils)⟩])
 .ret)
 .skip))
 (.seq (.region false [⟨none,(some 5),.bsl 6 0 [(.str []),(.str []),(.int .i64 0),(.int .i64 0),(.int .i64 0),.nils] []⟩,
  ⟨none,(some 6),.mov (.t 0)⟩,
  ⟨none,(some 7),.app 6 80 (.t 5) (.t 6)⟩,
  ⟨none,(some 2),.mov (.t 7)⟩])
 .ret)))
 ntmps:=8
 res:=[.tmp 2]
theorem z20i:zsjc P Tryd.f68=some a68:=by kernel_rfl
def a69:AFn where
 code:=(.seq (.region false [⟨none,(some 2),.mov (.k .nils)⟩])
 (.seq (.seq (.region false [⟨none,(some 3),.mov (.t 0)⟩,
  ⟨none,(some 4),.eqn 0 false (.t 3) (.k .nils)⟩])
 (.cond (.t 4) (.seq (.region false [⟨none,(some 2),.mov (.k .nils)⟩])
 .ret)
 .skip))
 (.seq (.region false [⟨none,(some 5),.bsl 37 0 [(.int .i64 0),(.int .i64 0),(w8 0#8),(w8 0#8),(w8 0#8),(w8 0#8),(w8 0#8),(w8 0#8),(w8 0#8),(w8 0#8),(w8 0#8),(w8 0#8),(w8 0#8),(w8 0#8),(w8 0#8),(w8 0#8),(w8 0#8),(w8 0#8),(w8 0#8),(w8 0#8),(w8 0#8),(w8 0#8),(w8 0#8),(w8 0#8),(w8 0#8),(w8 0#8),(w8 0#8),(w8 0#8),(w8 0#8),(w8 0#8),(w8 0#8),(w8 0#8),(w8 0#8),(w8 0#8),(.int .i64 0),(.int .i64 0),(.int .i64 0)] []⟩,
  ⟨none,(some 6),.mov (.t 0)⟩,
  ⟨none,(some 7),.app 37 72 (.t 5) (.t 6)⟩,
  ⟨none,(some 2),.mov (.t 7)⟩])
 .ret)))
 ntmps:=8
 res:=[.tmp 2]
theorem z713:zsjc P Tryd.f69=some a69:=by kernel_rfl
def z44u:ACode :=
 (.seq (.region false [⟨none,(some 16),.bin .lss (.t 15) (.t 14)⟩])
 (.seq (.cond (.t 16) .skip
 (.exit 0))
 (.seq (.block 1 (.seq (.region false [⟨none,(some 17),.mov (.t 15)⟩,
  ⟨none,(some 3),.mov (.t 17)⟩])
 (.region true [⟨none,(some 18),.fld 0 (.t 1)⟩,
  ⟨none,(some 19),.load 1 false (.t 18)⟩,
  ⟨none,(some 20),.mov (.t 3)⟩,
  ⟨none,(some 21),.fld 0 (.t 1)⟩,
  ⟨none,(some 22),.load 1 false (.t 21)⟩,
  ⟨none,(some 23),.mov (.t 3)⟩,
  ⟨none,(some 24),.idxS 6 (.t 22) (.t 23)⟩,
  ⟨none,(some 25),.fld 5 (.t 24)⟩,
  ⟨none,(some 26),.load 1 false (.t 25)⟩,
  ⟨none,(some 27),.callN (.k (.fn (.func 56) [] [])) [(.t 26)]⟩,
  ⟨none,(some 28),.idxS 6 (.t 19) (.t 20)⟩,
  ⟨none,(some 29),.fld 5 (.t 28)⟩,
  ⟨none,none,.store 1 (.t 29) (.t 27)⟩])))
 (.region false [⟨none,(some 30),.bin .add (.t 15) (.k (.int .i64 1))⟩,
  ⟨none,(some 15),.mov (.t 30)⟩]))))
def zh8t (x1 x2 x14 x15:DV) (h:List AObj):St:=⟨[.junk,x1,x2]++js 11++[x14,x15]++js 16,h⟩
def a55:AFn where
 code:=(.seq (.region false [⟨none,(some 1),.box (.t 0)⟩,
  ⟨none,(some 2),.alloc [.nils,.nils,(.int .i64 0)]⟩])
 (.seq (.region true [⟨none,(some 4),.fld 0 (.t 1)⟩,
  ⟨none,(some 5),.load 1 false (.t 4)⟩,
  ⟨none,(some 7),.fld 1 (.t 1)⟩,
  ⟨none,(some 8),.load 1 false (.t 7)⟩,
  ⟨none,(some 6),.callN (.k (.fn (.func 68) [] [])) [(.t 5)]⟩,
  ⟨none,(some 10),.fld 0 (.t 1)⟩,
  ⟨none,(some 9),.callN (.k (.fn (.func 69) [] [])) [(.t 8)]⟩,
  ⟨none,none,.store 1 (.t 10) (.t 6)⟩,
  ⟨none,(some 11),.fld 1 (.t 1)⟩,
  ⟨none,none,.store 1 (.t 11) (.t 9)⟩])
 (.seq (.seq (.region false [⟨none,(some 12),.fld 0 (.t 1)⟩,
  ⟨none,(some 13),.load 1 false (.t 12)⟩,
  ⟨none,(some 14),.len (.t 13)⟩,
  ⟨none,(some 15),.mov (.k (.int .i64 0))⟩])
 (.block 0 (.loop z44u)))
 (.seq (.region false [⟨none,(some 31),.load 3 true (.t 1)⟩,
  ⟨none,none,.store 3 (.t 2) (.t 31)⟩])
 .ret))))
 ntmps:=32
 res:=[.cell 2 3 true]
theorem ze8s:zsjc P Tryd.f55=some a55:=by kernel_rfl
def a28:AFn where
 code:=(.seq (.region false [⟨none,(some 2),.box (.t 0)⟩,
  ⟨none,(some 3),.box (.t 1)⟩,
  ⟨none,(some 4),.alloc [.nils,.nils,(.int .i64 0)]⟩,
  ⟨none,(some 5),.mov (.k (.int .i64 0))⟩])
 (.seq (.seq (.region false [⟨none,(some 7),.load 3 true (.t 2)⟩,
  ⟨none,(some 8),.call (.k (.fn (.func 9) [] [])) [(.t 7)]⟩,
  ⟨none,(some 9),.un .not (.t 8)⟩,
  ⟨none,(some 10),.mov (.t 9)⟩,
  ⟨(some (10,false)),(some 11),.load 6 true (.t 3)⟩,
  ⟨(some (10,false)),(some 12),.call (.k (.fn (.func 11) [] [])) [(.t 11)]⟩,
  ⟨(some (10,false)),(some 13),.un .not (.t 12)⟩,
  ⟨none,(some 14),.pick (.t 10) (.k (.bool true)) (.t 13)⟩])
 (.cond (.t 14) (.seq (.region false [⟨none,(some 15),.build [.nils,.nils,(.int .i64 0)] []⟩,
  ⟨none,none,.store 3 (.t 4) (.t 15)⟩,
  ⟨none,(some 5),.mov (.k (.int .i64 1))⟩])
 .ret)
 .skip))
 (.seq (.region false [⟨none,(some 16),.load 3 true (.t 2)⟩,
  ⟨none,(some 17),.fld 0 (.t 3)⟩,
  ⟨none,(some 18),.load 1 false (.t 17)⟩,
  ⟨none,(some 19),.fld 1 (.t 3)⟩,
  ⟨none,(some 20),.load 1 false (.t 19)⟩,
  ⟨none,(some 21),.call (.k (.fn (.func 20) [] [])) [(.t 16),(.t 18),(.t 20)]⟩,
  ⟨none,(some 6),.mov (.t 21)⟩])
 (.seq (.seq (.region false [⟨none,(some 22),.mov (.t 6)⟩,
  ⟨none,(some 23),.bin .lss (.t 22) (.k (.int .i64 0))⟩,
  ⟨none,(some 24),.mov (.t 23)⟩,
  ⟨(some (24,true)),(some 25),.fld 0 (.t 2)⟩,
  ⟨(some (24,true)),(some 26),.load 1 false (.t 25)⟩,
  ⟨(some (24,true)),(some 27),.len (.t 26)⟩,
  ⟨(some (24,true)),(some 28),.bin .geq (.t 27) (.k (.int .i64 16))⟩,
  ⟨none,(some 29),.pick (.t 24) (.t 28) (.k (.bool false))⟩])
 (.cond (.t 29) (.seq (.region false [⟨none,(some 30),.build [.nils,.nils,(.int .i64 0)] []⟩,
  ⟨none,none,.store 3 (.t 4) (.t 30)⟩,
  ⟨none,(some 5),.mov (.k (.int .i64 3))⟩])
 .ret)
 .skip))
 (.seq (.region false [⟨none,(some 31),.load 3 true (.t 2)⟩,
  ⟨none,(some 32),.call (.k (.fn (.func 55) [] [])) [(.t 31)]⟩,
  ⟨none,none,.store 3 (.t 2) (.t 32)⟩])
 (.seq (.region false [⟨none,(some 33),.fld 5 (.t 3)⟩,
  ⟨none,(some 34),.load 1 false (.t 33)⟩,
  ⟨none,(some 35),.call (.k (.fn (.func 56) [] [])) [(.t 34)]⟩,
  ⟨none,(some 36),.fld 5 (.t 3)⟩,
  ⟨none,none,.store 1 (.t 36) (.t 35)⟩])
 (.seq (.seq (.region false [⟨none,(some 37),.mov (.t 6)⟩,
  ⟨none,(some 38),.bin .lss (.t 37) (.k (.int .i64 0))⟩])
 (.cond (.t 38) (.region false [⟨none,(some 39),.fld 0 (.t 2)⟩,
  ⟨none,(some 40),.load 1 false (.t 39)⟩,
  ⟨none,(some 41),.load 6 true (.t 3)⟩,
  ⟨none,(some 42),.bsl 6 1 [(.str []),(.str []),(.int .i64 0),(.int .i64 0),(.int .i64 0),.nils] [(0,6,(.t 41))]⟩,
  ⟨none,(some 43),.app 6 80 (.t 40) (.t 42)⟩,
  ⟨none,(some 44),.fld 0 (.t 2)⟩,
  ⟨none,none,.store 1 (.t 44) (.t 43)⟩])
 (.region false [⟨none,(some 45),.fld 0 (.t 2)⟩,
  ⟨none,(some 46),.load 1 false (.t 45)⟩,
  ⟨none,(some 47),.mov (.t 6)⟩,
  ⟨none,(some 48),.load 6 true (.t 3)⟩,
  ⟨none,(some 49),.idxS 6 (.t 46) (.t 47)⟩,
  ⟨none,none,.store 6 (.t 49) (.t 48)⟩])))
 (.seq (.region false [⟨none,(some 50),.load 3 true (.t 2)⟩,
  ⟨none,none,.store 3 (.t 4) (.t 50)⟩,
  ⟨none,(some 5),.mov (.k (.int .i64 0))⟩])
 .ret))))))))
 ntmps:=51
 res:=[.cell 4 3 true,.tmp 5]
theorem z43f:zsjc P Tryd.f28=some a28:=by kernel_rfl
def a29:AFn where
 code:=(.seq (.region false [⟨none,(some 4),.box (.t 0)⟩,
  ⟨none,(some 6),.box (.t 2)⟩,
  ⟨none,(some 8),.alloc [.nils,.nils,(.int .i64 0)]⟩,
  ⟨none,(some 9),.mov (.k (.int .i64 0))⟩,
  ⟨none,(some 10),.mov (.k (.int .i64 0))⟩])
 (.seq (.block 0 (.seq (.region false [⟨none,(some 13),.load 3 true (.t 4)⟩,
  ⟨none,(some 14),.call (.k (.fn (.func 9) [] [])) [(.t 13)]⟩,
  ⟨none,(some 15),.un .not (.t 14)⟩,
  ⟨none,(some 16),.mov (.t 15)⟩,
  ⟨(some (16,false)),(some 17),.load 32 true (.t 6)⟩,
  ⟨(some (16,false)),(some 18),.build (rep 32 (w8 0#8)) []⟩,
  ⟨(some (16,false)),(some 19),.eqa false [(32,0)] (.t 17) (.t 18)⟩,
  ⟨none,(some 20),.pick (.t 16) (.k (.bool true)) (.t 19)⟩,
  ⟨none,(some 21),.mov (.t 20)⟩,
  ⟨(some (21,false)),(some 22),.mov (.t 3)⟩,
  ⟨(some (21,false)),(some 23),.call (.k (.fn (.func 49) [] [])) [(.t 22)]⟩,
  ⟨(some (21,false)),(some 24),.un .not (.t 23)⟩,
  ⟨none,(some 25),.pick (.t 21) (.k (.bool true)) (.t 24)⟩,
  ⟨none,(some 12),.mov (.t 25)⟩])
 (.cond (.t 12) (.seq (.region false [⟨none,(some 26),.build [.nils,.nils,(.int .i64 0)] []⟩,
  ⟨none,none,.store 3 (.t 8) (.t 26)⟩,
  ⟨none,(some 9),.mov (.k (.int .i64 0))⟩,
  ⟨none,(some 10),.mov (.k (.int .i64 1))⟩])
 .ret)
 (.seq (.region false [⟨none,(some 28),.mov (.t 1)⟩,
  ⟨none,(some 29),.bin .lss (.t 28) (.k (.int .i64 0))⟩,
  ⟨none,(some 30),.mov (.t 29)⟩,
  ⟨(some (30,false)),(some 31),.mov (.t 1)⟩,
  ⟨(some (30,false)),(some 32),.fld 0 (.t 4)⟩,
  ⟨(some (30,false)),(some 33),.load 1 false (.t 32)⟩,
  ⟨(some (30,false)),(some 34),.len (.t 33)⟩,
  ⟨(some (30,false)),(some 35),.bin .geq (.t 31) (.t 34)⟩,
  ⟨none,(some 36),.pick (.t 30) (.k (.bool true)) (.t 35)⟩,
  ⟨none,(some 27),.mov (.t 36)⟩])
 (.cond (.t 27) (.seq (.region false [⟨none,(some 37),.build [.nils,.nils,(.int .i64 0)] []⟩,
  ⟨none,none,.store 3 (.t 8) (.t 37)⟩,
  ⟨none,(some 9),.mov (.k (.int .i64 0))⟩,
  ⟨none,(some 10),.mov (.k (.int .i64 4))⟩])
 .ret)
 (.seq (.region false [⟨none,(some 39),.fld 1 (.t 4)⟩,
  ⟨none,(some 40),.load 1 false (.t 39)⟩,
  ⟨none,(some 41),.len (.t 40)⟩,
  ⟨none,(some 42),.bin .geq (.t 41) (.k (.int .i64 200))⟩,
  ⟨none,(some 43),.mov (.t 42)⟩,
  ⟨(some (43,false)),(some 44),.fld 2 (.t 4)⟩,
  ⟨(some (43,false)),(some 45),.load 1 false (.t 44)⟩,
  ⟨(some (43,false)),(some 46),.bin .geq (.t 45) (.k (.int .i64 1099511627776))⟩,
  ⟨none,(some 47),.pick (.t 43) (.k (.bool true)) (.t 46)⟩,
  ⟨none,(some 38),.mov (.t 47)⟩])
 (.cond (.t 38) (.seq (.region false [⟨none,(some 48),.build [.nils,.nils,(.int .i64 0)] []⟩,
  ⟨none,none,.store 3 (.t 8) (.t 48)⟩,
  ⟨none,(some 9),.mov (.k (.int .i64 0))⟩,
  ⟨none,(some 10),.mov (.k (.int .i64 3))⟩])
 .ret)
 .skip)))))))
 (.seq (.region false [⟨none,(some 49),.load 3 true (.t 4)⟩,
  ⟨none,(some 50),.call (.k (.fn (.func 55) [] [])) [(.t 49)]⟩,
  ⟨none,none,.store 3 (.t 4) (.t 50)⟩])
 (.seq (.region false [⟨none,(some 51),.fld 2 (.t 4)⟩,
  ⟨none,(some 52),.load 1 false (.t 51)⟩,
  ⟨none,(some 11),.mov (.t 52)⟩])
 (.seq (.region false [⟨none,(some 53),.fld 1 (.t 4)⟩,
  ⟨none,(some 54),.load 1 false (.t 53)⟩,
  ⟨none,(some 55),.mov (.t 11)⟩,
  ⟨none,(some 56),.mov (.t 1)⟩,
  ⟨none,(some 57),.load 32 true (.t 6)⟩,
  ⟨none,(some 58),.mov (.t 3)⟩,
  ⟨none,(some 59),.build [(.int .i64 0),(.int .i64 0),(w8 0#8),(w8 0#8),(w8 0#8),(w8 0#8),(w8 0#8),(w8 0#8),(w8 0#8),(w8 0#8),(w8 0#8),(w8 0#8),(w8 0#8),(w8 0#8),(w8 0#8),(w8 0#8),(w8 0#8),(w8 0#8),(w8 0#8),(w8 0#8),(w8 0#8),(w8 0#8),(w8 0#8),(w8 0#8),(w8 0#8),(w8 0#8),(w8 0#8),(w8 0#8),(w8 0#8),(w8 0#8),(w8 0#8),(w8 0#8),(w8 0#8),(w8 0#8),(.int .i64 0),(.int .i64 0),(.int .i64 0)] [(0,1,(.t 55)),(1,1,(.t 56)),(2,32,(.t 57)),(34,1,(.k (.int .i64 1))),(35,1,(.t 58)),(36,1,(.k (.int .i64 (-1))))]⟩,
  ⟨none,(some 60),.bslO 37 1 [(.int .i64 0),(.int .i64 0),(w8 0#8),(w8 0#8),(w8 0#8),(w8 0#8),(w8 0#8),(w8 0#8),(w8 0#8),(w8 0#8),(w8 0#8),(w8 0#8),(w8 0#8),(w8 0#8),(w8 0#8),(w8 0#8),(w8 0#8),(w8 0#8),(w8 0#8),(w8 0#8),(w8 0#8),(w8 0#8),(w8 0#8),(w8 0#8),(w8 0#8),(w8 0#8),(w8 0#8),(w8 0#8),(w8 0#8),(w8 0#8),(w8 0#8),(w8 0#8),(w8 0#8),(w8 0#8),(.int .i64 0),(.int .i64 0),(.int .i64 0)] [(0,37,(.t 59))]⟩,
  ⟨none,(some 61),.app 37 72 (.t 54) (.t 60)⟩,
  ⟨none,(some 62),.fld 1 (.t 4)⟩,
  ⟨none,none,.store 1 (.t 62) (.t 61)⟩])
 (.seq (.region false [⟨none,(some 63),.fld 2 (.t 4)⟩,
  ⟨none,(some 64),.load 1 false (.t 63)⟩,
  ⟨none,(some 65),.bin .add (.t 64) (.k (.int .i64 1))⟩,
  ⟨none,(some 66),.fld 2 (.t 4)⟩,
  ⟨none,none,.store 1 (.t 66) (.t 65)⟩])
 (.seq (.region false [⟨none,(some 67),.load 3 true (.t 4)⟩,
  ⟨none,(some 68),.mov (.t 11)⟩,
  ⟨none,none,.store 3 (.t 8) (.t 67)⟩,
  ⟨none,(some 9),.mov (.t 68)⟩,
  ⟨none,(some 10),.mov (.k (.int .i64 0))⟩])
 .ret)))))))
 ntmps:=69
 res:=[.cell 8 3 true,.tmp 9,.tmp 10]
theorem ztig:zsjc P Tryd.f29=some a29:=by kernel_rfl
def a57:AFn where
 code:=(.seq (.region false [⟨none,(some 5),.box (.t 0)⟩,
  ⟨none,(some 10),.alloc [.nils,.nils,(.int .i64 0)]⟩,
  ⟨none,(some 11),.mov (.k (.int .i64 0))⟩])
 (.seq (.seq (.region false [⟨none,(some 13),.load 3 true (.t 5)⟩,
  ⟨none,(some 14),.call (.k (.fn (.func 9) [] [])) [(.t 13)]⟩,
  ⟨none,(some 15),.un .not (.t 14)⟩,
  ⟨none,(some 16),.mov (.t 15)⟩,
  ⟨(some (16,false)),(some 17),.mov (.t 2)⟩,
  ⟨(some (16,false)),(some 18),.call (.k (.fn (.func 49) [] [])) [(.t 17)]⟩,
  ⟨(some (16,false)),(some 19),.un .not (.t 18)⟩,
  ⟨none,(some 20),.pick (.t 16) (.k (.bool true)) (.t 19)⟩])
 (.cond (.t 20) (.seq (.region false [⟨none,(some 21),.build [.nils,.nils,(.int .i64 0)] []⟩,
  ⟨none,none,.store 3 (.t 10) (.t 21)⟩,
  ⟨none,(some 11),.mov (.k (.int .i64 1))⟩])
 .ret)
 .skip))
 (.seq (.region false [⟨none,(some 22),.load 3 true (.t 5)⟩,
  ⟨none,(some 23),.mov (.t 1)⟩,
  ⟨none,(some 24),.call (.k (.fn (.func 31) [] [])) [(.t 22),(.t 23)]⟩,
  ⟨none,(some 12),.mov (.t 24)⟩])
 (.seq (.seq (.region false [⟨none,(some 25),.mov (.t 12)⟩,
  ⟨none,(some 26),.bin .lss (.t 25) (.k (.int .i64 0))⟩])
 (.cond (.t 26) (.seq (.region false [⟨none,(some 27),.build [.nils,.nils,(.int .i64 0)] []⟩,
  ⟨none,none,.store 3 (.t 10) (.t 27)⟩,
  ⟨none,(some 11),.mov (.k (.int .i64 4))⟩])
 .ret)
 .skip))
 (.seq (.seq (.region false [⟨none,(some 28),.mov (.t 4)⟩,
  ⟨none,(some 29),.fld 1 (.t 5)⟩,
  ⟨none,(some 30),.load 1 false (.t 29)⟩,
  ⟨none,(some 31),.mov (.t 12)⟩,
  ⟨none,(some 32),.idxS 37 (.t 30) (.t 31)⟩,
  ⟨none,(some 33),.fld 34 (.t 32)⟩,
  ⟨none,(some 34),.load 1 false (.t 33)⟩,
  ⟨none,(some 35),.call (.t 28) [(.t 34)]⟩,
  ⟨none,(some 36),.un .not (.t 35)⟩])
 (.cond (.t 36) (.seq (.region false [⟨none,(some 37),.build [.nils,.nils,(.int .i64 0)] []⟩,
  ⟨none,none,.store 3 (.t 10) (.t 37)⟩,
  ⟨none,(some 11),.mov (.k (.int .i64 30))⟩])
 .ret)
 .skip))
 (.seq (.region false [⟨none,(some 38),.load 3 true (.t 5)⟩,
  ⟨none,(some 39),.call (.k (.fn (.func 55) [] [])) [(.t 38)]⟩,
  ⟨none,none,.store 3 (.t 5) (.t 39)⟩])
 (.seq (.region true [⟨none,(some 40),.fld 1 (.t 5)⟩,
  ⟨none,(some 41),.load 1 false (.t 40)⟩,
  ⟨none,(some 42),.mov (.t 12)⟩,
  ⟨none,(some 43),.fld 1 (.t 5)⟩,
  ⟨none,(some 44),.load 1 false (.t 43)⟩,
  ⟨none,(some 45),.mov (.t 12)⟩,
  ⟨none,(some 46),.mov (.t 3)⟩,
  ⟨none,(some 47),.mov (.t 2)⟩,
  ⟨none,(some 48),.idxS 37 (.t 41) (.t 42)⟩,
  ⟨none,(some 49),.fld 34 (.t 48)⟩,
  ⟨none,none,.store 1 (.t 49) (.t 46)⟩,
  ⟨none,(some 50),.idxS 37 (.t 44) (.t 45)⟩,
  ⟨none,(some 51),.fld 35 (.t 50)⟩,
  ⟨none,none,.store 1 (.t 51) (.t 47)⟩,
  ⟨none,none,.apart (.t 5) (.t 49)⟩,
  ⟨none,none,.apart (.t 43) (.t 49)⟩])
 (.seq (.region false [⟨none,(some 52),.load 3 true (.t 5)⟩,
  ⟨none,none,.store 3 (.t 10) (.t 52)⟩,
  ⟨none,(some 11),.mov (.k (.int .i64 0))⟩])
 .ret))))))))
 ntmps:=53
 res:=[.cell 10 3 true,.tmp 11]
theorem zfce:zsjc P Tryd.f57=some a57:=by kernel_rfl
def a58:AFn where
 code:=(.seq (.region false [⟨none,(some 2),.mov (.k (.bool false))⟩])
 (.seq (.region false [⟨none,(some 3),.mov (.t 0)⟩,
  ⟨none,(some 4),.bin .eql (.t 3) (.k (.int .i64 1))⟩,
  ⟨none,(some 2),.mov (.t 4)⟩])
 .ret))
 ntmps:=5
 res:=[.tmp 2]
theorem zt5h:zsjc P Tryd.f58=some a58:=by kernel_rfl
def a30:AFn where
 code:=(.seq (.region false [⟨none,(some 3),.box (.t 0)⟩,
  ⟨none,(some 6),.alloc [.nils,.nils,(.int .i64 0)]⟩,
  ⟨none,(some 7),.mov (.k (.int .i64 0))⟩])
 (.seq (.region false [⟨none,(some 8),.load 3 true (.t 3)⟩,
  ⟨none,(some 9),.mov (.t 1)⟩,
  ⟨none,(some 10),.mov (.t 2)⟩,
  ⟨none,(some 11),.call (.k (.fn (.func 57) [] [])) [(.t 8),(.t 9),(.t 10),(.k (.int .i64 2)),(.k (.fn (.func 58) [] []))]⟩,
  ⟨none,(some 12),.ext (.t 11) 0⟩,
  ⟨none,(some 13),.ext (.t 11) 1⟩,
  ⟨none,none,.store 3 (.t 6) (.t 12)⟩,
  ⟨none,(some 7),.mov (.t 13)⟩])
 .ret))
 ntmps:=14
 res:=[.cell 6 3 true,.tmp 7]
theorem z3f8:zsjc P Tryd.f30=some a30:=by kernel_rfl
end
section
set_option linter.unusedSimpArgs false
set_option linter.unusedVariables false
open Go Go.Am
def zcoh:ACode :=
 (.seq (.seq (.region false [⟨none,(some 6),.mov (.t 5)⟩,
  ⟨none,(some 7),.mov (.t 0)⟩,
  ⟨none,(some 8),.len (.t 7)⟩,
  ⟨none,(some 9),.bin .lss (.t 6) (.t 8)⟩])
 (.cond (.t 9) .skip
 (.exit 0)))
 (.seq (.block 1 (.seq (.region true [⟨none,(some 12),.mov (.t 0)⟩,
  ⟨none,(some 13),.mov (.t 5)⟩,
  ⟨none,(some 14),.idxS 32 (.t 12) (.t 13)⟩,
  ⟨none,(some 15),.load 32 true (.t 14)⟩,
  ⟨none,(some 16),.load 32 true (.t 3)⟩,
  ⟨none,(some 17),.eqa false [(32,0)] (.t 15) (.t 16)⟩])
 (.cond (.t 17) (.seq (.region false [⟨none,(some 4),.mov (.k (.bool true))⟩])
 .ret)
 .skip)))
 (.region false [⟨none,(some 10),.mov (.t 5)⟩,
  ⟨none,(some 11),.bin .add (.t 10) (.k (.int .i64 1))⟩,
  ⟨none,(some 5),.mov (.t 11)⟩])))
def zpkh (x0 x3 x5:DV) (h:List AObj):St:=⟨[x0,.junk,.junk,x3,.junk,x5]++js 12,h⟩
def a27:AFn where
 code:=(.seq (.region false [⟨none,(some 3),.box (.t 1)⟩,
  ⟨none,(some 4),.mov (.k (.bool false))⟩])
 (.seq (.seq (.region false [⟨none,(some 5),.mov (.k (.int .i64 0))⟩])
 (.block 0 (.loop zcoh)))
 (.seq (.region false [⟨none,(some 4),.mov (.k (.bool false))⟩])
 .ret)))
 ntmps:=18
 res:=[.tmp 4]
theorem z3hx:zsjc P Tryd.f27=some a27:=by kernel_rfl
def a50:AFn where
 code:=(.seq (.region false [⟨none,(some 2),.mov (.k (.bool false))⟩])
 (.seq (.region false [⟨none,(some 3),.mov (.t 0)⟩,
  ⟨none,(some 4),.bin .geq (.t 3) (.k (.int .i64 0))⟩,
  ⟨none,(some 5),.mov (.t 4)⟩,
  ⟨(some (5,true)),(some 6),.mov (.t 0)⟩,
  ⟨(some (5,true)),(some 7),.bin .leq (.t 6) (.k (.int .i64 1099511627776))⟩,
  ⟨none,(some 8),.pick (.t 5) (.t 7) (.k (.bool false))⟩,
  ⟨none,(some 2),.mov (.t 8)⟩])
 .ret))
 ntmps:=9
 res:=[.tmp 2]
theorem z12y:zsjc P Tryd.f50=some a50:=by kernel_rfl
def z9ex:ACode :=
 (.seq (.seq (.region false [⟨none,(some 54),.mov (.t 3)⟩,
  ⟨none,(some 55),.fld 5 (.t 1)⟩,
  ⟨none,(some 56),.load 1 false (.t 55)⟩,
  ⟨none,(some 57),.len (.t 56)⟩,
  ⟨none,(some 58),.bin .lss (.t 54) (.t 57)⟩])
 (.cond (.t 58) .skip
 (.exit 0)))
 (.seq (.block 1 (.seq (.region true [⟨none,(some 61),.fld 5 (.t 1)⟩,
  ⟨none,(some 62),.load 1 false (.t 61)⟩,
  ⟨none,(some 63),.mov (.t 3)⟩,
  ⟨none,(some 64),.idxS 32 (.t 62) (.t 63)⟩,
  ⟨none,(some 65),.load 32 true (.t 64)⟩,
  ⟨none,(some 66),.build (rep 32 (w8 0#8)) []⟩,
  ⟨none,(some 67),.eqa false [(32,0)] (.t 65) (.t 66)⟩,
  ⟨none,(some 68),.mov (.t 67)⟩,
  ⟨(some (68,false)),(some 69),.fld 5 (.t 1)⟩,
  ⟨(some (68,false)),(some 70),.load 1 false (.t 69)⟩,
  ⟨(some (68,false)),(some 71),.mov (.t 3)⟩,
  ⟨(some (68,false)),(some 72),.slcS 32 (.t 70) none (some (.t 71)) none⟩,
  ⟨(some (68,false)),(some 73),.fld 5 (.t 1)⟩,
  ⟨(some (68,false)),(some 74),.load 1 false (.t 73)⟩,
  ⟨(some (68,false)),(some 75),.mov (.t 3)⟩,
  ⟨(some (68,false)),(some 76),.idxS 32 (.t 74) (.t 75)⟩,
  ⟨(some (68,false)),(some 77),.load 32 true (.t 76)⟩,
  ⟨(some (68,false)),(some 78),.callN (.k (.fn (.func 27) [] [])) [(.t 72),(.t 77)]⟩,
  ⟨none,(some 79),.pick (.t 68) (.k (.bool true)) (.t 78)⟩])
 (.cond (.t 79) (.seq (.region false [⟨none,(some 2),.mov (.k (.bool false))⟩])
 .ret)
 .skip)))
 (.region false [⟨none,(some 59),.mov (.t 3)⟩,
  ⟨none,(some 60),.bin .add (.t 59) (.k (.int .i64 1))⟩,
  ⟨none,(some 3),.mov (.t 60)⟩])))
def z6m2 (x1 x3:DV) (h:List AObj):St:=⟨[.junk,x1,.junk,x3]++js 76,h⟩
def a12:AFn where
 code:=(.seq (.region false [⟨none,(some 1),.box (.t 0)⟩,
  ⟨none,(some 2),.mov (.k (.bool false))⟩])
 (.seq (.seq (.region false [⟨none,(some 4),.fld 0 (.t 1)⟩,
  ⟨none,(some 5),.load 1 false (.t 4)⟩,
  ⟨none,(some 6),.call (.k (.fn (.func 26) [] [])) [(.t 5)]⟩,
  ⟨none,(some 7),.un .not (.t 6)⟩,
  ⟨none,(some 8),.mov (.t 7)⟩,
  ⟨(some (8,false)),(some 9),.fld 1 (.t 1)⟩,
  ⟨(some (8,false)),(some 10),.load 1 false (.t 9)⟩,
  ⟨(some (8,false)),(some 11),.call (.k (.fn (.func 26) [] [])) [(.t 10)]⟩,
  ⟨(some (8,false)),(some 12),.un .not (.t 11)⟩,
  ⟨none,(some 13),.pick (.t 8) (.k (.bool true)) (.t 12)⟩,
  ⟨none,(some 14),.mov (.t 13)⟩,
  ⟨(some (14,false)),(some 15),.fld 2 (.t 1)⟩,
  ⟨(some (14,false)),(some 16),.load 1 false (.t 15)⟩,
  ⟨(some (14,false)),(some 17),.bin .lss (.t 16) (.k (.int .i64 0))⟩,
  ⟨none,(some 18),.pick (.t 14) (.k (.bool true)) (.t 17)⟩,
  ⟨none,(some 19),.mov (.t 18)⟩,
  ⟨(some (19,false)),(some 20),.fld 2 (.t 1)⟩,
  ⟨(some (19,false)),(some 21),.load 1 false (.t 20)⟩,
  ⟨(some (19,false)),(some 22),.bin .gtr (.t 21) (.k (.int .i64 8))⟩,
  ⟨none,(some 23),.pick (.t 19) (.k (.bool true)) (.t 22)⟩,
  ⟨none,(some 24),.mov (.t 23)⟩,
  ⟨(some (24,false)),(some 25),.fld 3 (.t 1)⟩,
  ⟨(some (24,false)),(some 26),.load 1 false (.t 25)⟩,
  ⟨(some (24,false)),(some 27),.bin .lss (.t 26) (.k (.int .i64 0))⟩,
  ⟨none,(some 28),.pick (.t 24) (.k (.bool true)) (.t 27)⟩,
  ⟨none,(some 29),.mov (.t 28)⟩,
  ⟨(some (29,false)),(some 30),.fld 3 (.t 1)⟩,
  ⟨(some (29,false)),(some 31),.load 1 false (.t 30)⟩,
  ⟨(some (29,false)),(some 32),.fld 2 (.t 1)⟩,
  ⟨(some (29,false)),(some 33),.load 1 false (.t 32)⟩,
  ⟨(some (29,false)),(some 34),.bin .gtr (.t 31) (.t 33)⟩,
  ⟨none,(some 35),.pick (.t 29) (.k (.bool true)) (.t 34)⟩,
  ⟨none,(some 36),.mov (.t 35)⟩,
  ⟨(some (36,false)),(some 37),.fld 4 (.t 1)⟩,
  ⟨(some (36,false)),(some 38),.load 1 false (.t 37)⟩,
  ⟨(some (36,false)),(some 39),.bin .lss (.t 38) (.k (.int .i64 0))⟩,
  ⟨none,(some 40),.pick (.t 36) (.k (.bool true)) (.t 39)⟩,
  ⟨none,(some 41),.mov (.t 40)⟩,
  ⟨(some (41,false)),(some 42),.fld 4 (.t 1)⟩,
  ⟨(some (41,false)),(some 43),.load 1 false (.t 42)⟩,
  ⟨(some (41,false)),(some 44),.fld 2 (.t 1)⟩,
  ⟨(some (41,false)),(some 45),.load 1 false (.t 44)⟩,
  ⟨(some (41,false)),(some 46),.bin .gtr (.t 43) (.t 45)⟩,
  ⟨none,(some 47),.pick (.t 41) (.k (.bool true)) (.t 46)⟩,
  ⟨none,(some 48),.mov (.t 47)⟩,
  ⟨(some (48,false)),(some 49),.fld 5 (.t 1)⟩,
  ⟨(some (48,false)),(some 50),.load 1 false (.t 49)⟩,
  ⟨(some (48,false)),(some 51),.len (.t 50)⟩,
  ⟨(some (48,false)),(some 52),.bin .gtr (.t 51) (.k (.int .i64 6))⟩,
  ⟨none,(some 53),.pick (.t 48) (.k (.bool true)) (.t 52)⟩])
 (.cond (.t 53) (.seq (.region false [⟨none,(some 2),.mov (.k (.bool false))⟩])
 .ret)
 .skip))
 (.seq (.seq (.region false [⟨none,(some 3),.mov (.k (.int .i64 0))⟩])
 (.block 0 (.loop z9ex)))
 (.seq (.region false [⟨none,(some 2),.mov (.k (.bool true))⟩])
 .ret))))
 ntmps:=80
 res:=[.tmp 2]
theorem zqkh:zsjc P Tryd.f12=some a12:=by kernel_rfl
def a23:AFn where
 code:=(.seq (.region false [⟨none,(some 2),.box (.t 0)⟩,
  ⟨none,(some 3),.box (.t 1)⟩,
  ⟨none,(some 4),.mov (.k (.bool false))⟩])
 (.seq (.region false [⟨none,(some 5),.fld 0 (.t 3)⟩,
  ⟨none,(some 6),.load 1 false (.t 5)⟩,
  ⟨none,(some 7),.bin .geq (.t 6) (.k (.int .i64 1))⟩,
  ⟨none,(some 8),.mov (.t 7)⟩,
  ⟨(some (8,true)),(some 9),.fld 0 (.t 3)⟩,
  ⟨(some (8,true)),(some 10),.load 1 false (.t 9)⟩,
  ⟨(some (8,true)),(some 11),.fld 2 (.t 2)⟩,
  ⟨(some (8,true)),(some 12),.load 1 false (.t 11)⟩,
  ⟨(some (8,true)),(some 13),.bin .lss (.t 10) (.t 12)⟩,
  ⟨none,(some 14),.pick (.t 8) (.t 13) (.k (.bool false))⟩,
  ⟨none,(some 15),.mov (.t 14)⟩,
  ⟨(some (15,true)),(some 16),.fld 1 (.t 3)⟩,
  ⟨(some (15,true)),(some 17),.load 1 false (.t 16)⟩,
  ⟨(some (15,true)),(some 18),.bin .geq (.t 17) (.k (.int .i64 0))⟩,
  ⟨none,(some 19),.pick (.t 15) (.t 18) (.k (.bool false))⟩,
  ⟨none,(some 20),.mov (.t 19)⟩,
  ⟨(some (20,true)),(some 21),.fld 1 (.t 3)⟩,
  ⟨(some (20,true)),(some 22),.load 1 false (.t 21)⟩,
  ⟨(some (20,true)),(some 23),.fld 0 (.t 2)⟩,
  ⟨(some (20,true)),(some 24),.load 1 false (.t 23)⟩,
  ⟨(some (20,true)),(some 25),.len (.t 24)⟩,
  ⟨(some (20,true)),(some 26),.bin .lss (.t 22) (.t 25)⟩,
  ⟨none,(some 27),.pick (.t 20) (.t 26) (.k (.bool false))⟩,
  ⟨none,(some 28),.mov (.t 27)⟩,
  ⟨(some (28,true)),(some 29),.fld 2 (.t 3)⟩,
  ⟨(some (28,true)),(some 30),.load 32 true (.t 29)⟩,
  ⟨(some (28,true)),(some 31),.build (rep 32 (w8 0#8)) []⟩,
  ⟨(some (28,true)),(some 32),.eqa true [(32,0)] (.t 30) (.t 31)⟩,
  ⟨none,(some 33),.pick (.t 28) (.t 32) (.k (.bool false))⟩,
  ⟨none,(some 34),.mov (.t 33)⟩,
  ⟨(some (34,true)),(some 35),.fld 34 (.t 3)⟩,
  ⟨(some (34,true)),(some 36),.load 1 false (.t 35)⟩,
  ⟨(some (34,true)),(some 37),.bin .geq (.t 36) (.k (.int .i64 1))⟩,
  ⟨none,(some 38),.pick (.t 34) (.t 37) (.k (.bool false))⟩,
  ⟨none,(some 39),.mov (.t 38)⟩,
  ⟨(some (39,true)),(some 40),.fld 34 (.t 3)⟩,
  ⟨(some (39,true)),(some 41),.load 1 false (.t 40)⟩,
  ⟨(some (39,true)),(some 42),.bin .leq (.t 41) (.k (.int .i64 3))⟩,
  ⟨none,(some 43),.pick (.t 39) (.t 42) (.k (.bool false))⟩,
  ⟨none,(some 44),.mov (.t 43)⟩,
  ⟨(some (44,true)),(some 45),.fld 35 (.t 3)⟩,
  ⟨(some (44,true)),(some 46),.load 1 false (.t 45)⟩,
  ⟨(some (44,true)),(some 47),.call (.k (.fn (.func 50) [] [])) [(.t 46)]⟩,
  ⟨none,(some 48),.pick (.t 44) (.t 47) (.k (.bool false))⟩,
  ⟨none,(some 49),.mov (.t 48)⟩,
  ⟨(some (49,true)),(some 50),.fld 36 (.t 3)⟩,
  ⟨(some (49,true)),(some 51),.load 1 false (.t 50)⟩,
  ⟨(some (49,true)),(some 52),.bin .geq (.t 51) (.k (.int .i64 (-1)))⟩,
  ⟨none,(some 53),.pick (.t 49) (.t 52) (.k (.bool false))⟩,
  ⟨none,(some 54),.mov (.t 53)⟩,
  ⟨(some (54,true)),(some 55),.fld 36 (.t 3)⟩,
  ⟨(some (54,true)),(some 56),.load 1 false (.t 55)⟩,
  ⟨(some (54,true)),(some 57),.bin .leq (.t 56) (.k (.int .i64 1099511627776))⟩,
  ⟨none,(some 58),.pick (.t 54) (.t 57) (.k (.bool false))⟩,
  ⟨none,(some 4),.mov (.t 58)⟩])
 .ret))
 ntmps:=59
 res:=[.tmp 4]
theorem ztyx:zsjc P Tryd.f23=some a23:=by kernel_rfl
def z382:ACode :=
 (.seq (.seq (.region false [⟨none,(some 25),.mov (.t 3)⟩,
  ⟨none,(some 26),.fld 0 (.t 1)⟩,
  ⟨none,(some 27),.load 1 false (.t 26)⟩,
  ⟨none,(some 28),.len (.t 27)⟩,
  ⟨none,(some 29),.bin .lss (.t 25) (.t 28)⟩])
 (.cond (.t 29) .skip
 (.exit 0)))
 (.seq (.block 1 (.seq (.region true [⟨none,(some 32),.fld 0 (.t 1)⟩,
  ⟨none,(some 33),.load 1 false (.t 32)⟩,
  ⟨none,(some 34),.mov (.t 3)⟩,
  ⟨none,(some 35),.idxS 6 (.t 33) (.t 34)⟩,
  ⟨none,(some 36),.load 6 true (.t 35)⟩,
  ⟨none,(some 37),.callN (.k (.fn (.func 12) [] [])) [(.t 36)]⟩,
  ⟨none,(some 38),.un .not (.t 37)⟩,
  ⟨none,(some 39),.mov (.t 38)⟩,
  ⟨(some (39,false)),(some 40),.load 3 true (.t 1)⟩,
  ⟨(some (39,false)),(some 41),.fld 0 (.t 1)⟩,
  ⟨(some (39,false)),(some 42),.load 1 false (.t 41)⟩,
  ⟨(some (39,false)),(some 43),.mov (.t 3)⟩,
  ⟨(some (39,false)),(some 44),.idxS 6 (.t 42) (.t 43)⟩,
  ⟨(some (39,false)),(some 45),.fld 0 (.t 44)⟩,
  ⟨(some (39,false)),(some 46),.load 1 false (.t 45)⟩,
  ⟨(some (39,false)),(some 47),.fld 0 (.t 1)⟩,
  ⟨(some (39,false)),(some 48),.load 1 false (.t 47)⟩,
  ⟨(some (39,false)),(some 49),.mov (.t 3)⟩,
  ⟨(some (39,false)),(some 50),.idxS 6 (.t 48) (.t 49)⟩,
  ⟨(some (39,false)),(some 51),.fld 1 (.t 50)⟩,
  ⟨(some (39,false)),(some 52),.load 1 false (.t 51)⟩,
  ⟨(some (39,false)),(some 54),.mov (.t 3)⟩,
  ⟨(some (39,false)),(some 53),.callN (.k (.fn (.func 22) [] [])) [(.t 40),(.t 46),(.t 52)]⟩,
  ⟨(some (39,false)),(some 55),.bin .neq (.t 53) (.t 54)⟩,
  ⟨none,(some 56),.pick (.t 39) (.k (.bool true)) (.t 55)⟩])
 (.cond (.t 56) (.seq (.region false [⟨none,(some 2),.mov (.k (.bool false))⟩])
 .ret)
 .skip)))
 (.region false [⟨none,(some 30),.mov (.t 3)⟩,
  ⟨none,(some 31),.bin .add (.t 30) (.k (.int .i64 1))⟩,
  ⟨none,(some 3),.mov (.t 31)⟩])))
def z9o7 (x1 x3:DV) (h:List AObj):St:=⟨[.junk,x1,.junk,x3]++js 88,h⟩
def zln2:ACode :=
 (.seq (.seq (.region false [⟨none,(some 57),.mov (.t 4)⟩,
  ⟨none,(some 58),.fld 1 (.t 1)⟩,
  ⟨none,(some 59),.load 1 false (.t 58)⟩,
  ⟨none,(some 60),.len (.t 59)⟩,
  ⟨none,(some 61),.bin .lss (.t 57) (.t 60)⟩])
 (.cond (.t 61) .skip
 (.exit 2)))
 (.seq (.block 3 (.seq (.region true [⟨none,(some 64),.load 3 true (.t 1)⟩,
  ⟨none,(some 65),.fld 1 (.t 1)⟩,
  ⟨none,(some 66),.load 1 false (.t 65)⟩,
  ⟨none,(some 67),.mov (.t 4)⟩,
  ⟨none,(some 68),.idxS 37 (.t 66) (.t 67)⟩,
  ⟨none,(some 69),.load 37 true (.t 68)⟩,
  ⟨none,(some 70),.callN (.k (.fn (.func 23) [] [])) [(.t 64),(.t 69)]⟩,
  ⟨none,(some 71),.un .not (.t 70)⟩,
  ⟨none,(some 72),.mov (.t 71)⟩,
  ⟨(some (72,false)),(some 73),.mov (.t 4)⟩,
  ⟨(some (72,false)),(some 74),.bin .gtr (.t 73) (.k (.int .i64 0))⟩,
  ⟨(some (72,false)),(some 75),.mov (.t 74)⟩,
  ⟨(some (75,true)),(some 76),.fld 1 (.t 1)⟩,
  ⟨(some (75,true)),(some 77),.load 1 false (.t 76)⟩,
  ⟨(some (75,true)),(some 78),.mov (.t 4)⟩,
  ⟨(some (75,true)),(some 79),.bin .sub (.t 78) (.k (.int .i64 1))⟩,
  ⟨(some (75,true)),(some 80),.idxS 37 (.t 77) (.t 79)⟩,
  ⟨(some (75,true)),(some 81),.fld 0 (.t 80)⟩,
  ⟨(some (75,true)),(some 82),.load 1 false (.t 81)⟩,
  ⟨(some (75,true)),(some 83),.fld 1 (.t 1)⟩,
  ⟨(some (75,true)),(some 84),.load 1 false (.t 83)⟩,
  ⟨(some (75,true)),(some 85),.mov (.t 4)⟩,
  ⟨(some (75,true)),(some 86),.idxS 37 (.t 84) (.t 85)⟩,
  ⟨(some (75,true)),(some 87),.fld 0 (.t 86)⟩,
  ⟨(some (75,true)),(some 88),.load 1 false (.t 87)⟩,
  ⟨(some (75,true)),(some 89),.bin .geq (.t 82) (.t 88)⟩,
  ⟨(some (72,false)),(some 90),.pick (.t 75) (.t 89) (.k (.bool false))⟩,
  ⟨none,(some 91),.pick (.t 72) (.k (.bool true)) (.t 90)⟩])
 (.cond (.t 91) (.seq (.region false [⟨none,(some 2),.mov (.k (.bool false))⟩])
 .ret)
 .skip)))
 (.region false [⟨none,(some 62),.mov (.t 4)⟩,
  ⟨none,(some 63),.bin .add (.t 62) (.k (.int .i64 1))⟩,
  ⟨none,(some 4),.mov (.t 63)⟩])))
def zxy2 (x1 x4:DV) (h:List AObj):St:=⟨[.junk,x1,.junk,.junk,x4]++js 87,h⟩
def a10:AFn where
 code:=(.seq (.region false [⟨none,(some 1),.box (.t 0)⟩,
  ⟨none,(some 2),.mov (.k (.bool false))⟩])
 (.seq (.seq (.region false [⟨none,(some 5),.fld 0 (.t 1)⟩,
  ⟨none,(some 6),.load 1 false (.t 5)⟩,
  ⟨none,(some 7),.len (.t 6)⟩,
  ⟨none,(some 8),.bin .gtr (.t 7) (.k (.int .i64 16))⟩,
  ⟨none,(some 9),.mov (.t 8)⟩,
  ⟨(some (9,false)),(some 10),.fld 1 (.t 1)⟩,
  ⟨(some (9,false)),(some 11),.load 1 false (.t 10)⟩,
  ⟨(some (9,false)),(some 12),.len (.t 11)⟩,
  ⟨(some (9,false)),(some 13),.bin .gtr (.t 12) (.k (.int .i64 200))⟩,
  ⟨none,(some 14),.pick (.t 9) (.k (.bool true)) (.t 13)⟩,
  ⟨none,(some 15),.mov (.t 14)⟩,
  ⟨(some (15,false)),(some 16),.fld 2 (.t 1)⟩,
  ⟨(some (15,false)),(some 17),.load 1 false (.t 16)⟩,
  ⟨(some (15,false)),(some 18),.bin .lss (.t 17) (.k (.int .i64 1))⟩,
  ⟨none,(some 19),.pick (.t 15) (.k (.bool true)) (.t 18)⟩,
  ⟨none,(some 20),.mov (.t 19)⟩,
  ⟨(some (20,false)),(some 21),.fld 2 (.t 1)⟩,
  ⟨(some (20,false)),(some 22),.load 1 false (.t 21)⟩,
  ⟨(some (20,false)),(some 23),.bin .gtr (.t 22) (.k (.int .i64 1099511627776))⟩,
  ⟨none,(some 24),.pick (.t 20) (.k (.bool true)) (.t 23)⟩])
 (.cond (.t 24) (.seq (.region false [⟨none,(some 2),.mov (.k (.bool false))⟩])
 .ret)
 .skip))
 (.seq (.seq (.region false [⟨none,(some 3),.mov (.k (.int .i64 0))⟩])
 (.block 0 (.loop z382)))
 (.seq (.seq (.region false [⟨none,(some 4),.mov (.k (.int .i64 0))⟩])
 (.block 2 (.loop zln2)))
 (.seq (.region false [⟨none,(some 2),.mov (.k (.bool true))⟩])
 .ret)))))
 ntmps:=92
 res:=[.tmp 2]
theorem z1ee:zsjc P Tryd.f10=some a10:=by kernel_rfl
def zved:ACode :=
 (.seq (.seq (.region false [⟨none,(some 8),.mov (.t 7)⟩,
  ⟨none,(some 9),.fld 0 (.t 3)⟩,
  ⟨none,(some 10),.load 1 false (.t 9)⟩,
  ⟨none,(some 11),.len (.t 10)⟩,
  ⟨none,(some 12),.bin .lss (.t 8) (.t 11)⟩])
 (.cond (.t 12) .skip
 (.exit 0)))
 (.seq (.block 1 (.seq (.region false [⟨none,(some 15),.fld 0 (.t 3)⟩,
  ⟨none,(some 16),.load 1 false (.t 15)⟩,
  ⟨none,(some 17),.mov (.t 7)⟩,
  ⟨none,(some 18),.idxS 6 (.t 16) (.t 17)⟩,
  ⟨none,(some 19),.fld 0 (.t 18)⟩,
  ⟨none,(some 20),.load 1 false (.t 19)⟩,
  ⟨none,(some 21),.mov (.t 1)⟩,
  ⟨none,(some 22),.bin .eql (.t 20) (.t 21)⟩,
  ⟨none,(some 23),.mov (.t 22)⟩,
  ⟨(some (23,true)),(some 24),.fld 0 (.t 3)⟩,
  ⟨(some (23,true)),(some 25),.load 1 false (.t 24)⟩,
  ⟨(some (23,true)),(some 26),.mov (.t 7)⟩,
  ⟨(some (23,true)),(some 27),.idxS 6 (.t 25) (.t 26)⟩,
  ⟨(some (23,true)),(some 28),.fld 1 (.t 27)⟩,
  ⟨(some (23,true)),(some 29),.load 1 false (.t 28)⟩,
  ⟨(some (23,true)),(some 30),.mov (.t 2)⟩,
  ⟨(some (23,true)),(some 31),.bin .eql (.t 29) (.t 30)⟩,
  ⟨none,(some 32),.pick (.t 23) (.t 31) (.k (.bool false))⟩])
 (.cond (.t 32) (.seq (.region false [⟨none,(some 33),.mov (.t 7)⟩,
  ⟨none,(some 6),.mov (.t 33)⟩])
 .ret)
 .skip)))
 (.region false [⟨none,(some 13),.mov (.t 7)⟩,
  ⟨none,(some 14),.bin .add (.t 13) (.k (.int .i64 1))⟩,
  ⟨none,(some 7),.mov (.t 14)⟩])))
def z38d (x1 x2 x3 x7:DV) (h:List AObj):St:=⟨[.junk,x1,x2,x3,.junk,.junk,.junk,x7]++js 26,h⟩
def a22:AFn where
 code:=(.seq (.region false [⟨none,(some 3),.box (.t 0)⟩,
  ⟨none,(some 6),.mov (.k (.int .i64 0))⟩])
 (.seq (.seq (.region false [⟨none,(some 7),.mov (.k (.int .i64 0))⟩])
 (.block 0 (.loop zved)))
 (.seq (.region false [⟨none,(some 6),.mov (.k (.int .i64 (-1)))⟩])
 .ret)))
 ntmps:=34
 res:=[.tmp 6]
theorem zi98:zsjc P Tryd.f22=some a22:=by kernel_rfl
def a44:AFn where
 code:=(.seq (.region false [⟨none,(some 1),.box (.t 0)⟩,
  ⟨none,(some 2),.alloc [.nils,.nils,(.int .i64 0)]⟩])
 (.seq (.region true [⟨none,(some 3),.fld 0 (.t 1)⟩,
  ⟨none,(some 4),.load 1 false (.t 3)⟩,
  ⟨none,(some 5),.app 6 80 (.k .nils) (.t 4)⟩,
  ⟨none,(some 6),.fld 1 (.t 1)⟩,
  ⟨none,(some 7),.load 1 false (.t 6)⟩,
  ⟨none,(some 8),.app 37 72 (.k .nils) (.t 7)⟩,
  ⟨none,(some 9),.fld 2 (.t 1)⟩,
  ⟨none,(some 10),.load 1 false (.t 9)⟩,
  ⟨none,(some 11),.build [.nils,.nils,(.int .i64 0)] [(0,1,(.t 5)),(1,1,(.t 8)),(2,1,(.t 10))]⟩,
  ⟨none,none,.store 3 (.t 2) (.t 11)⟩,
  ⟨none,none,.apart (.t 1) (.t 5)⟩,
  ⟨none,none,.apart (.t 6) (.t 5)⟩,
  ⟨none,none,.apart (.t 1) (.t 5)⟩,
  ⟨none,none,.apart (.t 9) (.t 5)⟩,
  ⟨none,none,.apart (.t 1) (.t 8)⟩,
  ⟨none,none,.apart (.t 9) (.t 8)⟩])
 .ret))
 ntmps:=12
 res:=[.cell 2 3 true]
theorem zeo7:zsjc P Tryd.f44=some a44:=by kernel_rfl
def a18:AFn where
 code:=(.seq (.region false [⟨none,(some 2),.box (.t 0)⟩,
  ⟨none,(some 3),.box (.t 1)⟩,
  ⟨none,(some 4),.alloc [.nils,.nils,(.int .i64 0)]⟩,
  ⟨none,(some 5),.mov (.k (.int .i64 0))⟩])
 (.seq (.seq (.region false [⟨none,(some 8),.load 3 true (.t 2)⟩,
  ⟨none,(some 9),.call (.k (.fn (.func 10) [] [])) [(.t 8)]⟩,
  ⟨none,(some 10),.un .not (.t 9)⟩,
  ⟨none,(some 11),.mov (.t 10)⟩,
  ⟨(some (11,false)),(some 12),.load 6 true (.t 3)⟩,
  ⟨(some (11,false)),(some 13),.call (.k (.fn (.func 12) [] [])) [(.t 12)]⟩,
  ⟨(some (11,false)),(some 14),.un .not (.t 13)⟩,
  ⟨none,(some 15),.pick (.t 11) (.k (.bool true)) (.t 14)⟩])
 (.cond (.t 15) (.seq (.region false [⟨none,(some 16),.build [.nils,.nils,(.int .i64 0)] []⟩,
  ⟨none,none,.store 3 (.t 4) (.t 16)⟩,
  ⟨none,(some 5),.mov (.k (.int .i64 1))⟩])
 .ret)
 .skip))
 (.seq (.region true [⟨none,(some 17),.load 3 true (.t 2)⟩,
  ⟨none,(some 19),.load 3 true (.t 2)⟩,
  ⟨none,(some 20),.fld 0 (.t 3)⟩,
  ⟨none,(some 21),.load 1 false (.t 20)⟩,
  ⟨none,(some 22),.fld 1 (.t 3)⟩,
  ⟨none,(some 23),.load 1 false (.t 22)⟩,
  ⟨none,(some 18),.callN (.k (.fn (.func 44) [] [])) [(.t 17)]⟩,
  ⟨none,(some 24),.callN (.k (.fn (.func 22) [] [])) [(.t 19),(.t 21),(.t 23)]⟩,
  ⟨none,(some 6),.alloc [.nils,.nils,(.int .i64 0)]⟩,
  ⟨none,none,.store 3 (.t 6) (.t 18)⟩,
  ⟨none,(some 7),.mov (.t 24)⟩])
 (.seq (.seq (.region false [⟨none,(some 25),.mov (.t 7)⟩,
  ⟨none,(some 26),.bin .geq (.t 25) (.k (.int .i64 0))⟩])
 (.cond (.t 26) (.seq (.region false [⟨none,(some 27),.fld 0 (.t 6)⟩,
  ⟨none,(some 28),.load 1 false (.t 27)⟩,
  ⟨none,(some 29),.mov (.t 7)⟩,
  ⟨none,(some 30),.load 6 true (.t 3)⟩,
  ⟨none,(some 31),.idxS 6 (.t 28) (.t 29)⟩,
  ⟨none,none,.store 6 (.t 31) (.t 30)⟩])
 (.seq (.region false [⟨none,(some 32),.load 3 true (.t 6)⟩,
  ⟨none,none,.store 3 (.t 4) (.t 32)⟩,
  ⟨none,(some 5),.mov (.k (.int .i64 0))⟩])
 .ret))
 .skip))
 (.seq (.seq (.region false [⟨none,(some 33),.fld 0 (.t 2)⟩,
  ⟨none,(some 34),.load 1 false (.t 33)⟩,
  ⟨none,(some 35),.len (.t 34)⟩,
  ⟨none,(some 36),.bin .geq (.t 35) (.k (.int .i64 16))⟩])
 (.cond (.t 36) (.seq (.region false [⟨none,(some 37),.build [.nils,.nils,(.int .i64 0)] []⟩,
  ⟨none,none,.store 3 (.t 4) (.t 37)⟩,
  ⟨none,(some 5),.mov (.k (.int .i64 3))⟩])
 .ret)
 .skip))
 (.seq (.region false [⟨none,(some 38),.fld 0 (.t 6)⟩,
  ⟨none,(some 39),.load 1 false (.t 38)⟩,
  ⟨none,(some 40),.load 6 true (.t 3)⟩,
  ⟨none,(some 41),.bsl 6 1 [(.str []),(.str []),(.int .i64 0),(.int .i64 0),(.int .i64 0),.nils] [(0,6,(.t 40))]⟩,
  ⟨none,(some 42),.app 6 80 (.t 39) (.t 41)⟩,
  ⟨none,(some 43),.fld 0 (.t 6)⟩,
  ⟨none,none,.store 1 (.t 43) (.t 42)⟩])
 (.seq (.region false [⟨none,(some 44),.load 3 true (.t 6)⟩,
  ⟨none,none,.store 3 (.t 4) (.t 44)⟩,
  ⟨none,(some 5),.mov (.k (.int .i64 0))⟩])
 .ret)))))))
 ntmps:=45
 res:=[.cell 4 3 true,.tmp 5]
theorem zt5q:zsjc P Tryd.f18=some a18:=by kernel_rfl
end
section
set_option linter.unusedSimpArgs false
set_option linter.unusedVariables false
open Go Go.Am
theorem z1ch {α:Type} {f:α→List DV} {s:Nat} (hu : ∀ a,(f a).length=s) (h0:0<s) (hi : ∀ a b,f a=f b→a=b) : ∀ {l l':List α},l.flatMap f=l'.flatMap f→l=l'
 | [],[],_=>rfl
 | [],b::l',e=>by have:=congrArg List.length e; simp [hu] at this; omega
 | a::l,[],e=>by have:=congrArg List.length e; simp [hu] at this; omega
 | a::l,b::l',e=>by
  rw [y01,y01] at e
  have:=List.append_inj e (by rw [hu,hu])
  rw [hi _ _ this.1,z1ch hu h0 hi this.2]
theorem zcq7 {α:Type} {f:α→List DV} {s:Nat} (hu : ∀ a,(f a).length=s) (h0:0<s) (hi : ∀ a b,f a=f b→a=b) {x y:Sl α} (e:x.dv s f=y.dv s f):x=y:=by
 obtain ⟨k,l,h,hb⟩:=x
 obtain ⟨k',l',h',hb'⟩:=y
 cases k with
 | none =>
  cases k' with
  | none=>cases h rfl; cases h' rfl; rfl
  | some b=>simp [Sl.dv,slD] at e
 | some b =>
  cases k' with
  | none=>simp [Sl.dv,slD] at e
  | some b' =>
   simp only [Sl.dv,slD,DV.sl.injEq] at e
   obtain ⟨rfl,_,_,e⟩:=e
   cases z1ch hu h0 hi e
   rfl
theorem z42k {x y:Sl Dg} (e:x.dv 32 dgC=y.dv 32 dgC):x=y:=zcq7 z1t1 (by decide) (fun _ _=>zib9) e
theorem zs5w {a b:Grp} (e:grC a=grC b):a=b:=by
 obtain ⟨a1,a2,a3,a4,a5,a6⟩:=a
 obtain ⟨b1,b2,b3,b4,b5,b6⟩:=b
 simp only [grC,List.cons.injEq,DV.str.injEq,DV.int.injEq,true_and,and_true] at e
 obtain ⟨rfl,rfl,rfl,rfl,rfl,e⟩:=e
 rw [z42k e]
theorem zpbj {a b:Ins} (e:inC a=inC b):a=b:=by
 have h:=zmar (x:=a) (y:=b)
 rw [← e,zmar] at h
 simpa using h
theorem zh7t {a b:Clu} (e:clC a=clC b):a=b:=by
 obtain ⟨a1,a2,a3⟩:=a
 obtain ⟨b1,b2,b3⟩:=b
 simp only [clC,List.cons.injEq,DV.int.injEq,true_and,and_true] at e
 obtain ⟨e1,e2,rfl⟩:=e
 rw [zcq7 zry4 (by decide) (fun _ _=>zs5w) e1,zcq7 z6gw (by decide) (fun _ _=>zpbj) e2]
theorem zsn4 {α:Type} {f:α→List DV} {g:α→DV} (hi : ∀ a b,f a=f b→a=b) (a:α):con (fun _=>True) f g (f a)=some (g a):=zzno (fun a b e=>by rw [hi a b e]) a trivial
def ixDg (x:Sl Dg) (d:Dg):Int:=ixI (fun e=>decide (d=e)) x.l
def S100 (x:Sl Dg) (d:Dg) (i:Nat):St:=znp4 (x.dv 32 dgC) (.mp 0 32 0) (.int .i64 x.l.length) (.int .i64 i) [.cells (dgC d)]
theorem z178 (x:Sl Dg) (d:Dg):Runs tbl0 a53 [x.dv 32 dgC,.agg (dgC d)] (.int .i64 (ixDg x d)):=by
 refine ⟨?_⟩
 have hb:=x.b
 simp (disch:=first|omega|simp<;>omega|fail) [-zA,-zB,-zC,-zD,-zE,a53]
 refine zlm5 (S100 x d) (fun i=>x.l.length-i) (fun i=>i≤x.l.length ∧ ∀ j (hj:j<x.l.length),j<i→decide (d=x.l[j])=false) 0 (z515 (by simp (disch:=first|omega|simp<;>omega|fail) [-zA,-zB,-zC,-zD,-zE]) (by simp (disch:=first|omega|simp<;>omega|fail) [-zA,-zB,-zC,-zD,-zE])) ⟨by omega,fun j _ hj=>by omega⟩ (fun i hi => ?_)
 obtain ⟨h1,h2⟩:=hi
 simp (disch:=first|omega|simp<;>omega|fail) [-zA,-zB,-zC,-zD,-zE,zt7b,znp4,S100]
 by_cases h:i<x.l.length
 ·have h':(i:Int)<x.l.length:=by omega
  have hg:=zalo (x:=x) (h:=[AObj.cells (dgC d)]) z1t1 h
  by_cases e:d=x.l[i]
  ·have hr:ixDg x d=i:=zy9u h (by simp [← e]) h2
   simp (disch:=first|omega|simp<;>omega|fail) [-zA,-zB,-zC,-zD,-zE,h',h,hg,← e,hr]
  ·simp (disch:=first|omega|simp<;>omega|fail) [-zA,-zB,-zC,-zD,-zE,h',h,hg,e]
   refine ⟨i+1,z515 (by simp (disch:=first|omega|simp<;>omega|fail) [-zA,-zB,-zC,-zD,-zE]) (by simp (disch:=first|omega|simp<;>omega|fail) [-zA,-zB,-zC,-zD,-zE]),by omega,by omega,fun j hj hji => ?_⟩
   by_cases ej:j=i
   ·subst ej; exact e
   ·simpa using h2 j hj (by omega)
 ·have h':¬ (i:Int)<x.l.length:=by omega
  have hr:ixDg x d = -1:=zfki (fun j hj=>h2 j hj (by omega))
  simp (disch:=first|omega|simp<;>omega|fail) [-zA,-zB,-zC,-zD,-zE,h,h',hr]
noncomputable def cDgs (g:Sl Dg→Dg→DV):List DV→Option DV:=con (fun _=>True) (fun p:Sl Dg × Dg=>[p.1.dv 32 dgC,.agg (dgC p.2)]) (fun p=>g p.1 p.2)
theorem ztlh {g:Sl Dg→Dg→DV} {x:Sl Dg} {d:Dg}:cDgs g [x.dv 32 dgC,.agg (dgC d)]=some (g x d) :=
 zsn4 (f:=fun p:Sl Dg × Dg=>[p.1.dv 32 dgC,.agg (dgC p.2)]) (by
  rintro ⟨a,b⟩ ⟨c,d⟩ e
  simp only [List.cons.injEq,DV.agg.injEq,and_true] at e
  rw [z42k e.1,zib9 e.2]) (x,d)
noncomputable def T100:Tbl:=addT 53 (.pure (cDgs fun x d => .int .i64 (ixDg x d))) tbl0
theorem zi1j:T100 53 = .pure (cDgs fun x d => .int .i64 (ixDg x d)):=by simp [T100]
theorem zntx:T100.Sound P:=z0rp (z2au fun p _=>zljw mix zr5o Tryd.func53 zq51 (z178 p.1 p.2)) zr5o
theorem zlqg {x:Sl Dg} {d:Dg}:0≤ixDg x d↔d ∈ x.l:=by
 constructor
 ·intro h
  obtain ⟨i,hi,_,e,_⟩:=zgr5 h
  simp at e
  rw [e]; exact y0n hi
 ·intro h
  obtain ⟨i,hi,e⟩:=List.getElem_of_mem h
  have:=zkgb (fun e=>decide (d=e)) x.l
  by_cases hn:ixDg x d<0
  ·have:=z378 hn i hi
   simp [e] at this
  ·omega
def hasB (x:Sl Dg) (d:Dg):DV := .bool (decide (d ∈ x.l))
theorem zntt (x:Sl Dg) (d:Dg):Runs T100 a25 [x.dv 32 dgC,.agg (dgC d)] (hasB x d):=by
 refine ⟨?_⟩
 simp (disch:=first|omega|simp<;>omega|fail) [-zA,-zB,-zC,-zD,-zE,a25,zi1j,ztlh,hasB,zlqg]
theorem zdh1 (g:Grp) (ns im:List UInt8):Runs tbl0 a48 [.agg (grC g),.ref [.str ns],.ref [.str im]] (.bool (fitG ns im g)):=by
 refine ⟨?_⟩
 by_cases e:g.ns=ns
 ·simp (disch:=first|omega|simp<;>omega|fail) [-zA,-zB,-zC,-zD,-zE,a48,fitG,e]
 ·simp (disch:=first|omega|simp<;>omega|fail) [-zA,-zB,-zC,-zD,-zE,a48,fitG,e]
noncomputable def cGr1:List DV→Option DV:=con (fun _=>True) (fun p:Grp × List UInt8 × List UInt8=>[.agg (grC p.1),.ref [.str p.2.1],.ref [.str p.2.2]]) (fun p => .bool (fitG p.2.1 p.2.2 p.1))
theorem zpi1 {g:Grp} {ns im:List UInt8}:cGr1 [.agg (grC g),.ref [.str ns],.ref [.str im]]=some (.bool (fitG ns im g)) :=
 zsn4 (f:=fun p:Grp × List UInt8 × List UInt8=>[.agg (grC p.1),.ref [.str p.2.1],.ref [.str p.2.2]]) (by
  rintro ⟨a,b,c⟩ ⟨a',b',c'⟩ e
  simp only [List.cons.injEq,DV.agg.injEq,DV.ref.injEq,DV.str.injEq,and_true] at e
  rw [zs5w e.1,e.2.1,e.2.2]) (g,ns,im)
noncomputable def T101:Tbl:=addT 48 (.pure cGr1) tbl0
theorem zh4i:T101 48 = .pure cGr1:=by simp [T101]
theorem zq6f:T101.Sound P:=z0rp (z2au fun p _=>zljw mix zr5o Tryd.func48 zwi2 (zdh1 p.1 p.2.1 p.2.2)) zr5o
abbrev fG (ns im:List UInt8):DV := .fn (.func 48) [] [.ref [.str ns],.ref [.str im]]
def S101 (x:Sl Grp) (ns im:List UInt8) (i:Nat):St:=zgz1 (x.dv 6 grC) (fG ns im) (.int .i64 x.l.length) (.int .i64 i) []
theorem zr1c (x:Sl Grp) (ns im:List UInt8):Runs T101 a47 [x.dv 6 grC,fG ns im] (.int .i64 (z9w0 x.l ns im)):=by
 refine ⟨?_⟩
 have hb:=x.b
 simp (disch:=first|omega|simp<;>omega|fail) [-zA,-zB,-zC,-zD,-zE,a47]
 refine zlm5 (S101 x ns im) (fun i=>x.l.length-i) (fun i=>i≤x.l.length ∧ ∀ j (hj:j<x.l.length),j<i→fitG ns im x.l[j]=false) 0 (z515 (by simp (disch:=first|omega|simp<;>omega|fail) [-zA,-zB,-zC,-zD,-zE]) (by simp (disch:=first|omega|simp<;>omega|fail) [-zA,-zB,-zC,-zD,-zE])) ⟨by omega,fun j _ hj=>by omega⟩ (fun i hi => ?_)
 obtain ⟨h1,h2⟩:=hi
 simp (disch:=first|omega|simp<;>omega|fail) [-zA,-zB,-zC,-zD,-zE,zzdb,zgz1,S101]
 by_cases h:i<x.l.length
 ·have h':(i:Int)<x.l.length:=by omega
  have hg:=zalo (x:=x) (h:=[]) zry4 h
  cases e:fitG ns im x.l[i] with
  | true =>
   have hr:z9w0 x.l ns im=i:=zy9u h e h2
   simp (disch:=first|omega|simp<;>omega|fail) [-zA,-zB,-zC,-zD,-zE,h',h,hg,zh4i,zpi1,e,hr]
  | false =>
   simp (disch:=first|omega|simp<;>omega|fail) [-zA,-zB,-zC,-zD,-zE,h',h,hg,zh4i,zpi1,e]
   refine ⟨i+1,z515 (by simp (disch:=first|omega|simp<;>omega|fail) [-zA,-zB,-zC,-zD,-zE]) (by simp (disch:=first|omega|simp<;>omega|fail) [-zA,-zB,-zC,-zD,-zE]),by omega,by omega,fun j hj hji => ?_⟩
   by_cases ej:j=i
   ·subst ej; exact e
   ·exact h2 j hj (by omega)
 ·have h':¬ (i:Int)<x.l.length:=by omega
  have hr:z9w0 x.l ns im = -1:=zfki (fun j hj=>h2 j hj (by omega))
  simp (disch:=first|omega|simp<;>omega|fail) [-zA,-zB,-zC,-zD,-zE,h,h',hr]
noncomputable def cIxG:List DV→Option DV:=con (fun _=>True) (fun p:Sl Grp × List UInt8 × List UInt8=>[p.1.dv 6 grC,fG p.2.1 p.2.2]) (fun p => .int .i64 (z9w0 p.1.l p.2.1 p.2.2))
theorem zhaz {x:Sl Grp} {ns im:List UInt8}:cIxG [x.dv 6 grC,fG ns im]=some (.int .i64 (z9w0 x.l ns im)) :=
 zsn4 (f:=fun p:Sl Grp × List UInt8 × List UInt8=>[p.1.dv 6 grC,fG p.2.1 p.2.2]) (by
  rintro ⟨a,b,c⟩ ⟨a',b',c'⟩ e
  simp only [List.cons.injEq,DV.fn.injEq,DV.ref.injEq,DV.str.injEq,and_true,true_and] at e
  rw [zcq7 zry4 (by decide) (fun _ _=>zs5w) e.1,e.2.1,e.2.2]) (x,ns,im)
noncomputable def T102:Tbl:=addT 47 (.pure cIxG) tbl0
theorem zyt6:T102 47 = .pure cIxG:=by simp [T102]
theorem z149:T102.Sound P:=z0rp (z2au fun p _=>zljw mix zq6f Tryd.func47 zzqr (zr1c p.1 p.2.1 p.2.2)) zr5o
theorem znxs {h:List AObj} {k:Nat} {f:Fn} {x y:DV}:snap h (k+1) (.fn f [] [x,y])=(snap h (k+1) x).bind fun a=>(snap h (k+1) y).map fun b => .fn f [] [a,b]:=by
 simp only [snap,zcxt,zoyo]
 cases zcxt _ x<;>simp only [y09,y0m]
 ·rfl
 ·cases zcxt _ y<;>rfl
theorem zxh4 {h:List AObj} {k:Nat} {f:Fn} {x:DV}:snap h (k+1) (.fn f [] [x])=(snap h (k+1) x).map fun y => .fn f [] [y]:=by
 simp only [snap,zcxt,zoyo]
 cases zcxt _ x<;>rfl
theorem zsqc {α:Type} {h:List AObj} {k s:Nat} {f:α→List DV} {x:Sl α} (hp : ∀ a,zbao (f a)=true):snap h k (x.dv s f)=some (x.dv s f):=z6nl (zxxb hp x)
theorem z8lx {h:List AObj} {k:Nat} {x:Sl Dg}:snap h k (x.dv 32 dgC)=some (x.dv 32 dgC):=zsqc z3ot
theorem zpud {h:List AObj} {k:Nat} {x:Sl Grp}:snap h k (x.dv 6 grC)=some (x.dv 6 grC):=zsqc zxeb
theorem z347 {h:List AObj} {k:Nat} {x:Sl Ins}:snap h k (x.dv 37 inC)=some (x.dv 37 inC):=zsqc z9kv
theorem z3ju {h:List AObj} {k:Nat} {c:Clu}:z4tt h k (clC c)=some (clC c):=z619 (zy11 c)
theorem z8p0 {h:List AObj} {k:Nat} {c:Grp}:z4tt h k (grC c)=some (grC c):=z619 (zxeb c)
theorem znh5 {h:List AObj} {k:Nat} {c:Ins}:z4tt h k (inC c)=some (inC c):=z619 (z9kv c)
theorem z3om {h:List AObj} {k:Nat} {c:Dg}:z4tt h k (dgC c)=some (dgC c):=z619 (z3ot c)
attribute [simp] znxs zxh4 z8lx zpud z347 z3ju z8p0 znh5 z3om
theorem zy3o (c:Clu) (ns im:List UInt8):Runs T102 a20 [.agg (clC c),.str ns,.str im] (.int .i64 (z9w0 c.g.l ns im)):=by
 refine ⟨?_⟩
 simp (disch:=first|omega|simp<;>omega|fail) [-zA,-zB,-zC,-zD,-zE,a20,zyt6,zhaz]
theorem zytc (x:Ins) (id:Int):Runs tbl0 a60 [.agg (inC x),.ref [.int .i64 id]] (.bool (decide (x.id=id))):=by
 refine ⟨?_⟩
 simp (disch:=first|omega|simp<;>omega|fail) [-zA,-zB,-zC,-zD,-zE,a60]
noncomputable def cFi1:List DV→Option DV:=con (fun _=>True) (fun p:Ins × Int=>[.agg (inC p.1),.ref [.int .i64 p.2]]) (fun p => .bool (decide (p.1.id=p.2)))
theorem zbqj {x:Ins} {id:Int}:cFi1 [.agg (inC x),.ref [.int .i64 id]]=some (.bool (decide (x.id=id))) :=
 zsn4 (f:=fun p:Ins × Int=>[.agg (inC p.1),.ref [.int .i64 p.2]]) (by
  rintro ⟨a,b⟩ ⟨a',b'⟩ e
  simp only [List.cons.injEq,DV.agg.injEq,DV.ref.injEq,DV.int.injEq,and_true,true_and] at e
  rw [zpbj e.1,e.2]) (x,id)
noncomputable def T103:Tbl:=addT 60 (.pure cFi1) tbl0
theorem z0q2:T103 60 = .pure cFi1:=by simp [T103]
theorem zmr5:T103.Sound P:=z0rp (z2au fun p _=>zljw mix zr5o Tryd.func60 z6e9 (zytc p.1 p.2)) zr5o
abbrev fI (id:Int):DV := .fn (.func 60) [] [.ref [.int .i64 id]]
def S103 (x:Sl Ins) (id:Int) (i:Nat):St:=zrp1 (x.dv 37 inC) (fI id) (.int .i64 x.l.length) (.int .i64 i) []
theorem zxrr (x:Sl Ins) (id:Int):Runs T103 a59 [x.dv 37 inC,fI id] (.int .i64 (z092 x.l id)):=by
 refine ⟨?_⟩
 have hb:=x.b
 simp (disch:=first|omega|simp<;>omega|fail) [-zA,-zB,-zC,-zD,-zE,a59]
 refine zlm5 (S103 x id) (fun i=>x.l.length-i) (fun i=>i≤x.l.length ∧ ∀ j (hj:j<x.l.length),j<i→decide (x.l[j].id=id)=false) 0 (z515 (by simp (disch:=first|omega|simp<;>omega|fail) [-zA,-zB,-zC,-zD,-zE]) (by simp (disch:=first|omega|simp<;>omega|fail) [-zA,-zB,-zC,-zD,-zE])) ⟨by omega,fun j _ hj=>by omega⟩ (fun i hi => ?_)
 obtain ⟨h1,h2⟩:=hi
 simp (disch:=first|omega|simp<;>omega|fail) [-zA,-zB,-zC,-zD,-zE,zor5,zrp1,S103]
 by_cases h:i<x.l.length
 ·have h':(i:Int)<x.l.length:=by omega
  have hg:=zalo (x:=x) (h:=[]) z6gw h
  by_cases e:x.l[i].id=id
  ·have hr:z092 x.l id=i:=zy9u h (by simp [e]) h2
   simp (disch:=first|omega|simp<;>omega|fail) [-zA,-zB,-zC,-zD,-zE,h',h,hg,z0q2,zbqj,e,hr]
  ·simp (disch:=first|omega|simp<;>omega|fail) [-zA,-zB,-zC,-zD,-zE,h',h,hg,z0q2,zbqj,e]
   refine ⟨i+1,z515 (by simp (disch:=first|omega|simp<;>omega|fail) [-zA,-zB,-zC,-zD,-zE]) (by simp (disch:=first|omega|simp<;>omega|fail) [-zA,-zB,-zC,-zD,-zE]),by omega,by omega,fun j hj hji => ?_⟩
   by_cases ej:j=i
   ·subst ej; exact e
   ·simpa using h2 j hj (by omega)
 ·have h':¬ (i:Int)<x.l.length:=by omega
  have hr:z092 x.l id = -1:=zfki (fun j hj=>h2 j hj (by omega))
  simp (disch:=first|omega|simp<;>omega|fail) [-zA,-zB,-zC,-zD,-zE,h,h',hr]
noncomputable def cIxI:List DV→Option DV:=con (fun _=>True) (fun p:Sl Ins × Int=>[p.1.dv 37 inC,fI p.2]) (fun p => .int .i64 (z092 p.1.l p.2))
theorem z1a0 {x:Sl Ins} {id:Int}:cIxI [x.dv 37 inC,fI id]=some (.int .i64 (z092 x.l id)) :=
 zsn4 (f:=fun p:Sl Ins × Int=>[p.1.dv 37 inC,fI p.2]) (by
  rintro ⟨a,b⟩ ⟨a',b'⟩ e
  simp only [List.cons.injEq,DV.fn.injEq,DV.ref.injEq,DV.int.injEq,and_true,true_and] at e
  rw [zcq7 z6gw (by decide) (fun _ _=>zpbj) e.1,e.2]) (x,id)
noncomputable def T104:Tbl:=addT 59 (.pure cIxI) tbl0
theorem z2cd:T104 59 = .pure cIxI:=by simp [T104]
theorem zw83:T104.Sound P:=z0rp (z2au fun p _=>zljw mix zmr5 Tryd.func59 zwsz (zxrr p.1 p.2)) zr5o
theorem z7dp (c:Clu) (id:Int):Runs T104 a31 [.agg (clC c),.int .i64 id] (.int .i64 (z092 c.i.l id)):=by
 refine ⟨?_⟩
 simp (disch:=first|omega|simp<;>omega|fail) [-zA,-zB,-zC,-zD,-zE,a31,z2cd,z1a0]
end
section
set_option linter.unusedSimpArgs false
set_option linter.unusedVariables false
open Go Go.Am
theorem z4qz (t:Int):Runs tbl0 a49 [.int .i64 t] (.bool (tv (zcie t))):=by
 refine ⟨?_⟩
 by_cases h0:0≤t
 ·by_cases h1:t≤1099511627776
  ·simp (disch:=first|omega|simp<;>omega|fail) [-zA,-zB,-zC,-zD,-zE,a49,h0,h1,zogs (show zcie t from ⟨h0,h1⟩)]
  ·simp (disch:=first|omega|simp<;>omega|fail) [-zA,-zB,-zC,-zD,-zE,a49,h0,h1,zewf (show ¬ zcie t from fun h=>h1 h.2)]
 ·simp (disch:=first|omega|simp<;>omega|fail) [-zA,-zB,-zC,-zD,-zE,a49,h0,zewf (show ¬ zcie t from fun h=>h0 h.1)]
noncomputable def cTm:List DV→Option DV
 | [.int .i64 t]=>some (.bool (tv (zcie t)))|_=>none
theorem zixp {t:Int}:cTm [.int .i64 t]=some (.bool (tv (zcie t))):=rfl
theorem zayt {f:Nat} (h : ∀ t,Am.Sem P f [.int .i64 t] (.bool (tv (zcie t)))):(Con.pure cTm).Sound P f:=by
 intro args v e
 unfold cTm at e
 split at e
 ·simp at e; subst e; exact h _
 ·simp at e
noncomputable def T105:Tbl:=addT 49 (.pure cTm) tbl0
theorem zuf2:T105 49 = .pure cTm:=by simp [T105]
theorem z3s1:T105.Sound P:=z0rp (zayt fun t=>zljw mix zr5o Tryd.func49 zdc4 (z4qz t)) zr5o
theorem zoxk {d:Dg}:(dgC d).all DV.one=true:=zzst
theorem zes9 {h:List AObj} {id:Nat} {d:Dg} {l:List DV} (hl:l.length=32):zy6o h id 32 0 (.agg (dgC d)) (some l)=some (.junk,h.set id (.cells (dgC d))):=zfc1 (z1t1 d) hl zzst
theorem zec3 {h:List AObj} {id:Nat} {x:Ins} {l:List DV} (hl:l.length=37):zy6o h id 37 0 (.agg (inC x)) (some l)=some (.junk,h.set id (.cells (inC x))):=zfc1 (z6gw x) hl (by simp only [inC,y0a,y0j,zoxk,zzmf,y0e,y0b])
theorem zm4y {h:List AObj} {id:Nat} {x:Grp} {l:List DV} (hl:l.length=6):zy6o h id 6 0 (.agg (grC x)) (some l)=some (.junk,h.set id (.cells (grC x))):=zfc1 (zry4 x) hl (by simp only [grC,y0a,zzmf,zxyr,z4ja,y0e,y0b])
theorem zpff {h:List AObj} {id:Nat} {x:Clu} {l:List DV} (hl:l.length=3):zy6o h id 3 0 (.agg (clC x)) (some l)=some (.junk,h.set id (.cells (clC x))):=zfc1 (zlha x) hl (by simp only [clC,y0a,zzmf,z4ja,y0e,y0b])
mutual
theorem z8b8 (n:Nat) : ∀ (d:DV),zyp8 d=true→Am.below n d=true
 | .agg cs,h=>by simp only [zyp8] at h; simp only [Am.below]; exact zmq5 n cs h
 | .tup cs,h=>by simp only [zyp8] at h; simp only [Am.below]; exact zmq5 n cs h
 | .sl _ _ _ cs,h=>by simp only [zyp8] at h; simp only [Am.below]; exact zmq5 n cs h
 | .ref cs,h=>by simp only [zyp8] at h; simp only [Am.below]; exact zmq5 n cs h
 | .fn _ a b,h=>by simp only [zyp8,y07] at h; simp only [Am.below,y07]; exact ⟨zmq5 n a h.1,zmq5 n b h.2⟩
 | .iface _ v,h=>by simp only [zyp8] at h; simp only [Am.below]; exact z8b8 n v h
 | .ms ..,h=>by simp [zyp8] at h
 | .mp ..,h=>by simp [zyp8] at h
 | .int ..,_=>rfl
 | .bool ..,_=>rfl
 | .str ..,_=>rfl
 | .nilp,_=>rfl
 | .nilm,_=>rfl
 | .nilf,_=>rfl
 | .nili,_=>rfl
 | .nils,_=>rfl
 | .junk,_=>rfl
theorem zmq5 (n:Nat) : ∀ (l:List DV),zbao l=true→belowL n l=true
 | [],_=>rfl
 | d::r,h=>by simp only [zbao,y07] at h; simp only [belowL,y07]; exact ⟨z8b8 n d h.1,zmq5 n r h.2⟩
end
theorem zni3 {n:Nat} {g:Grp}:belowL n (grC g)=true:=zmq5 n _ (zxeb g)
theorem zye5 {n:Nat} {g:Clu}:belowL n (clC g)=true:=zmq5 n _ (zy11 g)
theorem z9u0 {n:Nat} {g:Ins}:belowL n (inC g)=true:=zmq5 n _ (z9kv g)
theorem zbw6 {n:Nat} {g:Dg}:belowL n (dgC g)=true:=zmq5 n _ (z3ot g)
theorem z2h4 {n:Nat} {x:Sl Dg}:Am.below n (x.dv 32 dgC)=true:=z8b8 n _ (zpfc x)
theorem zb7c {n:Nat} {x:Sl Grp}:Am.below n (x.dv 6 grC)=true:=z8b8 n _ (z1vd x)
theorem zphd {n:Nat} {x:Sl Ins}:Am.below n (x.dv 37 inC)=true:=z8b8 n _ (zcha x)
attribute [simp] zni3 zye5 z9u0 zbw6 z2h4 zb7c zphd zes9 zec3 zm4y zpff
noncomputable abbrev zmtb (c:Clu) (x:Ins):DV := .bool (tv (SoundI c.g.l.length c.next x))
theorem zwmi (c:Clu) (x:Ins):Runs T105 a21 [.agg (clC c),.agg (inC x)] (zmtb c x):=by
 refine ⟨?_⟩
 by_cases k0:1≤x.id
 case neg =>
  have hn:¬ SoundI c.g.l.length c.next x:=fun h=>k0 h.id0
  simp (disch:=first|omega|simp<;>omega|fail) [-zA,-zB,-zC,-zD,-zE,a21,zuf2,zixp,zmtb,zewf hn,k0]
 by_cases k1:x.id<c.next
 case neg =>
  have hn:¬ SoundI c.g.l.length c.next x:=fun h=>k1 h.id1
  simp (disch:=first|omega|simp<;>omega|fail) [-zA,-zB,-zC,-zD,-zE,a21,zuf2,zixp,zmtb,zewf hn,k0,k1]
 by_cases k2:0≤x.grp
 case neg =>
  have hn:¬ SoundI c.g.l.length c.next x:=fun h=>k2 h.g0
  simp (disch:=first|omega|simp<;>omega|fail) [-zA,-zB,-zC,-zD,-zE,a21,zuf2,zixp,zmtb,zewf hn,k0,k1,k2]
 by_cases k3:x.grp<c.g.l.length
 case neg =>
  have hn:¬ SoundI c.g.l.length c.next x:=fun h=>k3 h.g1
  simp (disch:=first|omega|simp<;>omega|fail) [-zA,-zB,-zC,-zD,-zE,a21,zuf2,zixp,zmtb,zewf hn,k0,k1,k2,k3]
 by_cases k4:¬ x.art=dg0
 case neg =>
  have k4:x.art=dg0:=Classical.not_not.1 k4
  have hn:¬ SoundI c.g.l.length c.next x:=fun h=>h.art k4
  simp (disch:=first|omega|simp<;>omega|fail) [-zA,-zB,-zC,-zD,-zE,a21,zuf2,zixp,zmtb,zewf hn,k0,k1,k2,k3,k4]
 by_cases k5:1≤x.state
 case neg =>
  have hn:¬ SoundI c.g.l.length c.next x:=fun h=>k5 h.s0
  simp (disch:=first|omega|simp<;>omega|fail) [-zA,-zB,-zC,-zD,-zE,a21,zuf2,zixp,zmtb,zewf hn,k0,k1,k2,k3,k4,k5]
 by_cases k6:x.state≤3
 case neg =>
  have hn:¬ SoundI c.g.l.length c.next x:=fun h=>k6 h.s1
  simp (disch:=first|omega|simp<;>omega|fail) [-zA,-zB,-zC,-zD,-zE,a21,zuf2,zixp,zmtb,zewf hn,k0,k1,k2,k3,k4,k5,k6]
 by_cases k7:zcie x.since
 case neg =>
  have hn:¬ SoundI c.g.l.length c.next x:=fun h=>k7 h.si
  simp (disch:=first|omega|simp<;>omega|fail) [-zA,-zB,-zC,-zD,-zE,a21,zuf2,zixp,zmtb,zewf hn,k0,k1,k2,k3,k4,k5,k6,zewf k7]
 by_cases k8:x.den = -1
 ·have hy:SoundI c.g.l.length c.next x:=⟨k0,k1,k2,k3,k4,k5,k6,k7,.inl k8⟩
  simp (disch:=first|omega|simp<;>omega|fail) [-zA,-zB,-zC,-zD,-zE,a21,zuf2,zixp,zmtb,zogs hy,k0,k1,k2,k3,k4,k5,k6,zogs k7,k8]
 by_cases k9:zcie x.den
 ·have hy:SoundI c.g.l.length c.next x:=⟨k0,k1,k2,k3,k4,k5,k6,k7,.inr k9⟩
  simp (disch:=first|omega|simp<;>omega|fail) [-zA,-zB,-zC,-zD,-zE,a21,zuf2,zixp,zmtb,zogs hy,k0,k1,k2,k3,k4,k5,k6,zogs k7,k8,zogs k9]
 ·have hn:¬ SoundI c.g.l.length c.next x:=fun h=>h.de.elim k8 k9
  simp (disch:=first|omega|simp<;>omega|fail) [-zA,-zB,-zC,-zD,-zE,a21,zuf2,zixp,zmtb,zewf hn,k0,k1,k2,k3,k4,k5,k6,zogs k7,k8,zewf k9]
noncomputable def T106:Tbl:=addT 24 (.pure (cS za1j)) (addT 25 (.pure (cDgs hasB)) tbl0)
theorem zic2:T106 24 = .pure (cS za1j):=by simp [T106]
theorem zqlq:T106 25 = .pure (cDgs hasB):=by simp [T106]
theorem z2gv:T106.Sound P:=z0rp (zzn8 fun s=>zljw mix zhpa Tryd.func24 zcoa (zqqw s)) (z0rp (z2au fun p _=>zljw mix zntx Tryd.func25 zgum (zntt p.1 p.2)) zr5o)
noncomputable abbrev zoy9 (g:Grp):DV := .bool (tv (ValidG g))
def S106 (g:Grp) (i:Nat):St:=z7en (.mp 0 6 0) (g.ch.dv 32 dgC) (.int .i64 g.ch.l.length) (.int .i64 i) [.cells (grC g)]
theorem zuuc {α:Type} {x:Sl α} {j:Nat} {b:Bool}:(x.part 0 j b).l=x.l.take j:=by simp [Sl.part]
theorem z78j {α:Type} {x:Sl α} {s:Nat} {f:α→List DV} {h:List AObj} (hu : ∀ a,(f a).length=s) {j:Nat} (hj:j≤x.l.length):ziwb h s (x.dv s f) none (some (.int .i64 j)) none=some ((x.part 0 j (j == x.l.length)).dv s f) :=
 z0ke hu (by
  have h1:(j:Int)≤x.l.length:=by omega
  simp [zo77,iD,h1]) hj
theorem zzqf (g:Grp):Runs T106 a11 [.agg (grC g)] (zoy9 g):=by
 refine ⟨?_⟩
 have hb:=g.ch.b
 by_cases k0:zj1f g.ns=true
 case neg =>
  have hn:¬ ValidG g:=fun h=>k0 h.ns
  have k0:zj1f g.ns=false:=by simpa using k0
  simp (disch:=first|omega|simp<;>omega|fail) [-zA,-zB,-zC,-zD,-zE,a11,zic2,zk5k,za1j,zoy9,zewf hn,k0]
 by_cases k1:zj1f g.im=true
 case neg =>
  have hn:¬ ValidG g:=fun h=>k1 h.im
  have k1:zj1f g.im=false:=by simpa using k1
  simp (disch:=first|omega|simp<;>omega|fail) [-zA,-zB,-zC,-zD,-zE,a11,zic2,zk5k,za1j,zoy9,zewf hn,k0,k1]
 by_cases k2:0≤g.want
 case neg =>
  have hn:¬ ValidG g:=fun h=>k2 h.w0
  have k2':g.want<0:=by omega
  simp (disch:=first|omega|simp<;>omega|fail) [-zA,-zB,-zC,-zD,-zE,a11,zic2,zk5k,za1j,zoy9,zewf hn,k0,k1,k2,k2']
 have k2':¬ g.want<0:=by omega
 by_cases k3:g.want≤8
 case neg =>
  have hn:¬ ValidG g:=fun h=>k3 h.w1
  have k3':8<g.want:=by omega
  simp (disch:=first|omega|simp<;>omega|fail) [-zA,-zB,-zC,-zD,-zE,a11,zic2,zk5k,za1j,zoy9,zewf hn,k0,k1,k2,k2',k3,k3']
 have k3':¬ 8<g.want:=by omega
 by_cases k4:0≤g.least
 case neg =>
  have hn:¬ ValidG g:=fun h=>k4 h.l0
  have k4':g.least<0:=by omega
  simp (disch:=first|omega|simp<;>omega|fail) [-zA,-zB,-zC,-zD,-zE,a11,zic2,zk5k,za1j,zoy9,zewf hn,k0,k1,k2,k2',k3,k3',k4,k4']
 have k4':¬ g.least<0:=by omega
 by_cases k5:g.least≤g.want
 case neg =>
  have hn:¬ ValidG g:=fun h=>k5 h.l1
  have k5':g.want<g.least:=by omega
  simp (disch:=first|omega|simp<;>omega|fail) [-zA,-zB,-zC,-zD,-zE,a11,zic2,zk5k,za1j,zoy9,zewf hn,k0,k1,k2,k2',k3,k3',k4,k4',k5,k5']
 have k5':¬ g.want<g.least:=by omega
 by_cases k6:0≤g.down
 case neg =>
  have hn:¬ ValidG g:=fun h=>k6 h.d0
  have k6':g.down<0:=by omega
  simp (disch:=first|omega|simp<;>omega|fail) [-zA,-zB,-zC,-zD,-zE,a11,zic2,zk5k,za1j,zoy9,zewf hn,k0,k1,k2,k2',k3,k3',k4,k4',k5,k5',k6,k6']
 have k6':¬ g.down<0:=by omega
 by_cases k7:g.down≤g.want
 case neg =>
  have hn:¬ ValidG g:=fun h=>k7 h.d1
  have k7':g.want<g.down:=by omega
  simp (disch:=first|omega|simp<;>omega|fail) [-zA,-zB,-zC,-zD,-zE,a11,zic2,zk5k,za1j,zoy9,zewf hn,k0,k1,k2,k2',k3,k3',k4,k4',k5,k5',k6,k6',k7,k7']
 have k7':¬ g.want<g.down:=by omega
 by_cases k8:g.ch.l.length≤6
 case neg =>
  have hn:¬ ValidG g:=fun h=>k8 h.n
  have k8':¬ (g.ch.l.length:Int)≤6:=by omega
  have k8'':(6:Int)<g.ch.l.length:=by omega
  simp (disch:=first|omega|simp<;>omega|fail) [-zA,-zB,-zC,-zD,-zE,a11,zic2,zk5k,za1j,zoy9,zewf hn,k0,k1,k2,k2',k3,k3',k4,k4',k5,k5',k6,k6',k7,k7',k8,k8',k8'']
 have k8':(g.ch.l.length:Int)≤6:=by omega
 have k8'':¬ (6:Int)<g.ch.l.length:=by omega
 simp (disch:=first|omega|simp<;>omega|fail) [-zA,-zB,-zC,-zD,-zE,a11,zic2,zk5k,za1j,k0,k1,k2,k2',k3,k3',k4,k4',k5,k5',k6,k6',k7,k7',k8,k8',k8'']
 refine zlm5 (S106 g) (fun i=>g.ch.l.length-i) (fun i=>i≤g.ch.l.length ∧ ∀ j (hj:j<g.ch.l.length),j<i→g.ch.l[j]≠dg0∧g.ch.l[j] ∉ g.ch.l.take j) 0 (z515 (by simp (disch:=first|omega|simp<;>omega|fail) [-zA,-zB,-zC,-zD,-zE]) (by simp (disch:=first|omega|simp<;>omega|fail) [-zA,-zB,-zC,-zD,-zE])) ⟨by omega,fun j _ hj=>by omega⟩ (fun i hi => ?_)
 obtain ⟨h1,h2⟩:=hi
 simp (disch:=first|omega|simp<;>omega|fail) [-zA,-zB,-zC,-zD,-zE,zv5f,z7en,S106]
 by_cases h:i<g.ch.l.length
 ·have h':(i:Int)<g.ch.l.length:=by omega
  have hg : ∀ H,zpsc H 32 (g.ch.dv 32 dgC) i=some (.ref (dgC g.ch.l[i])):=fun H=>zalo z1t1 h
  have hsl : ∀ H,ziwb H 32 (g.ch.dv 32 dgC) none (some (.int .i64 i)) none=some ((g.ch.part 0 i (i == g.ch.l.length)).dv 32 dgC):=fun H=>z78j z1t1 (by omega)
  by_cases e:g.ch.l[i]=dg0
  ·have hn:¬ ValidG g:=fun hv=>(hv.ch i h).1 e
   simp (disch:=first|omega|simp<;>omega|fail) [-zA,-zB,-zC,-zD,-zE,h',h,hg,e,zoy9,zewf hn]
  ·by_cases e2:g.ch.l[i] ∈ g.ch.l.take i
   ·have hn:¬ ValidG g:=fun hv=>(hv.ch i h).2 e2
    simp (disch:=first|omega|simp<;>omega|fail) [-zA,-zB,-zC,-zD,-zE,h',h,hg,hsl,e,zqlq,ztlh,hasB,zuuc,e2,zoy9,zewf hn]
   ·simp (disch:=first|omega|simp<;>omega|fail) [-zA,-zB,-zC,-zD,-zE,h',h,hg,hsl,e,zqlq,ztlh,hasB,zuuc,e2]
    refine ⟨i+1,zju2 (tail:=[.cells (dgC g.ch.l[i])]) (by simp (disch:=first|omega|simp<;>omega|fail) [-zA,-zB,-zC,-zD,-zE]) (by simp (disch:=first|omega|simp<;>omega|fail) [-zA,-zB,-zC,-zD,-zE]) (by simp (disch:=first|omega|simp<;>omega|fail) [-zA,-zB,-zC,-zD,-zE]) (by simp (disch:=first|omega|simp<;>omega|fail) [-zA,-zB,-zC,-zD,-zE,belowL,Am.below]) (by simp (disch:=first|omega|simp<;>omega|fail) [-zA,-zB,-zC,-zD,-zE,zlf2]),by omega,by omega,fun j hj hji => ?_⟩
    by_cases ej:j=i
    ·subst ej; exact ⟨e,e2⟩
    ·exact h2 j hj (by omega)
 ·have h':¬ (i:Int)<g.ch.l.length:=by omega
  have hy:ValidG g:=⟨k0,k1,k2,k3,k4,k5,k6,k7,k8,fun j hj=>h2 j hj (by omega)⟩
  simp (disch:=first|omega|simp<;>omega|fail) [-zA,-zB,-zC,-zD,-zE,h,h',zoy9,zogs hy]
noncomputable def cG1 (g:Grp→DV):List DV→Option DV:=con (fun _=>True) (fun x:Grp=>[.agg (grC x)]) g
theorem zoex {g:Grp→DV} {x:Grp}:cG1 g [.agg (grC x)]=some (g x) :=
 zsn4 (f:=fun x:Grp=>[.agg (grC x)]) (fun a b e=>by simp only [List.cons.injEq,DV.agg.injEq,and_true] at e; exact zs5w e) x
noncomputable def cC1 (g:Clu→DV):List DV→Option DV:=con (fun _=>True) (fun x:Clu=>[.agg (clC x)]) g
theorem zf0o {g:Clu→DV} {x:Clu}:cC1 g [.agg (clC x)]=some (g x) :=
 zsn4 (f:=fun x:Clu=>[.agg (clC x)]) (fun a b e=>by simp only [List.cons.injEq,DV.agg.injEq,and_true] at e; exact zh7t e) x
noncomputable def cCSS (g:Clu→List UInt8→List UInt8→DV):List DV→Option DV:=con (fun _=>True) (fun x:Clu × List UInt8 × List UInt8=>[.agg (clC x.1),.str x.2.1,.str x.2.2]) (fun x=>g x.1 x.2.1 x.2.2)
theorem zojl {g:Clu→List UInt8→List UInt8→DV} {x:Clu} {a b:List UInt8}:cCSS g [.agg (clC x),.str a,.str b]=some (g x a b) :=
 zsn4 (f:=fun x:Clu × List UInt8 × List UInt8=>[.agg (clC x.1),.str x.2.1,.str x.2.2]) (by
  rintro ⟨a,b,c⟩ ⟨a',b',c'⟩ e
  simp only [List.cons.injEq,DV.agg.injEq,DV.str.injEq,and_true] at e
  rw [zh7t e.1,e.2.1,e.2.2]) (x,a,b)
noncomputable def cCI (g:Clu→Ins→DV):List DV→Option DV:=con (fun _=>True) (fun x:Clu × Ins=>[.agg (clC x.1),.agg (inC x.2)]) (fun x=>g x.1 x.2)
theorem ziv1 {g:Clu→Ins→DV} {x:Clu} {a:Ins}:cCI g [.agg (clC x),.agg (inC a)]=some (g x a) :=
 zsn4 (f:=fun x:Clu × Ins=>[.agg (clC x.1),.agg (inC x.2)]) (by
  rintro ⟨a,b⟩ ⟨a',b'⟩ e
  simp only [List.cons.injEq,DV.agg.injEq,and_true] at e
  rw [zh7t e.1,zpbj e.2]) (x,a)
noncomputable def cCi (g:Clu→Int→DV):List DV→Option DV:=con (fun _=>True) (fun x:Clu × Int=>[.agg (clC x.1),.int .i64 x.2]) (fun x=>g x.1 x.2)
theorem z3mn {g:Clu→Int→DV} {x:Clu} {a:Int}:cCi g [.agg (clC x),.int .i64 a]=some (g x a) :=
 zsn4 (f:=fun x:Clu × Int=>[.agg (clC x.1),.int .i64 x.2]) (by
  rintro ⟨a,b⟩ ⟨a',b'⟩ e
  simp only [List.cons.injEq,DV.agg.injEq,DV.int.injEq,and_true,true_and] at e
  rw [zh7t e.1,e.2]) (x,a)
abbrev grpD (c:Clu) (ns im:List UInt8):DV := .int .i64 (z9w0 c.g.l ns im)
noncomputable def T107:Tbl:=addT 11 (.pure (cG1 zoy9)) (addT 20 (.pure (cCSS grpD)) (addT 21 (.pure (cCI zmtb)) tbl0))
theorem zlw8:T107 11 = .pure (cG1 zoy9):=by simp [T107]
theorem z17r:T107 20 = .pure (cCSS grpD):=by simp [T107]
theorem zd7t:T107 21 = .pure (cCI zmtb):=by simp [T107]
theorem zmu9:T107.Sound P:=z0rp (z2au fun x _=>zljw mix z2gv Tryd.func11 zbwx (zzqf x)) (z0rp (z2au fun x _=>zljw mix z149 Tryd.func20 zfgm (zy3o x.1 x.2.1 x.2.2)) (z0rp (z2au fun x _=>zljw mix z3s1 Tryd.func21 zyfb (zwmi x.1 x.2)) zr5o))
noncomputable abbrev zwdn (c:Clu):DV := .bool (tv (ValidC c))
def S107 (c:Clu) (i:Nat):St:=a9S0 (.mp 0 3 0) (c.g.dv 6 grC) (.int .i64 c.g.l.length) (.int .i64 i) [.cells (clC c)]
def S108 (c:Clu) (i:Nat):St:=a9S1 (.mp 0 3 0) (c.i.dv 37 inC) (.int .i64 c.i.l.length) (.int .i64 i) [.cells (clC c)]
theorem ztir (c:Clu):Runs T107 a9 [.agg (clC c)] (zwdn c):=by
 refine ⟨?_⟩
 have hbg:=c.g.b
 have hbi:=c.i.b
 by_cases k0:(16:Int)<c.g.l.length
 ·have hn:¬ ValidC c:=fun h=>by have:=h.ng; omega
  simp (disch:=first|omega|simp<;>omega|fail) [-zA,-zB,-zC,-zD,-zE,a9,k0,zwdn,zewf hn]
 by_cases k1:(200:Int)<c.i.l.length
 ·have hn:¬ ValidC c:=fun h=>by have:=h.ni; omega
  simp (disch:=first|omega|simp<;>omega|fail) [-zA,-zB,-zC,-zD,-zE,a9,k0,k1,zwdn,zewf hn]
 by_cases k2:c.next<1
 ·have hn:¬ ValidC c:=fun h=>by have:=h.n0; omega
  simp (disch:=first|omega|simp<;>omega|fail) [-zA,-zB,-zC,-zD,-zE,a9,k0,k1,k2,zwdn,zewf hn]
 by_cases k3:1099511627776<c.next
 ·have hn:¬ ValidC c:=fun h=>by have:=h.n1; omega
  simp (disch:=first|omega|simp<;>omega|fail) [-zA,-zB,-zC,-zD,-zE,a9,k0,k1,k2,k3,zwdn,zewf hn]
 simp (disch:=first|omega|simp<;>omega|fail) [-zA,-zB,-zC,-zD,-zE,a9,k0,k1,k2,k3]
 refine zlm5 (S107 c) (fun i=>c.g.l.length-i) (fun i=>i≤c.g.l.length ∧ ∀ j (hj:j<c.g.l.length),j<i→ValidG c.g.l[j]∧z9w0 c.g.l c.g.l[j].ns c.g.l[j].im=j) 0 (z515 (by simp (disch:=first|omega|simp<;>omega|fail) [-zA,-zB,-zC,-zD,-zE]) (by simp (disch:=first|omega|simp<;>omega|fail) [-zA,-zB,-zC,-zD,-zE])) ⟨by omega,fun j _ hj=>by omega⟩ (fun i hi => ?_)
 obtain ⟨h1,h2⟩:=hi
 simp (disch:=first|omega|simp<;>omega|fail) [-zA,-zB,-zC,-zD,-zE,a9L0,a9S0,S107]
 by_cases h:i<c.g.l.length
 ·have h':(i:Int)<c.g.l.length:=by omega
  have hg : ∀ H,zpsc H 6 (c.g.dv 6 grC) i=some (.ref (grC c.g.l[i])):=fun H=>zalo zry4 h
  by_cases e:ValidG c.g.l[i]
  ·by_cases e2:z9w0 c.g.l c.g.l[i].ns c.g.l[i].im=i
   ·simp (disch:=first|omega|simp<;>omega|fail) [-zA,-zB,-zC,-zD,-zE,h',h,hg,zlw8,zoex,zoy9,zogs e,z17r,zojl,grpD,e2]
    refine ⟨i+1,zju2 (tail:=[.cells (grC c.g.l[i])]) (by simp (disch:=first|omega|simp<;>omega|fail) [-zA,-zB,-zC,-zD,-zE]) (by simp (disch:=first|omega|simp<;>omega|fail) [-zA,-zB,-zC,-zD,-zE]) (by simp (disch:=first|omega|simp<;>omega|fail) [-zA,-zB,-zC,-zD,-zE]) (by simp (disch:=first|omega|simp<;>omega|fail) [-zA,-zB,-zC,-zD,-zE,belowL,Am.below]) (by simp (disch:=first|omega|simp<;>omega|fail) [-zA,-zB,-zC,-zD,-zE,zlf2]),by omega,by omega,fun j hj hji => ?_⟩
    by_cases ej:j=i
    ·subst ej; exact ⟨e,e2⟩
    ·exact h2 j hj (by omega)
   ·have hn:¬ ValidC c:=fun hv=>e2 (hv.g i h).2
    simp (disch:=first|omega|simp<;>omega|fail) [-zA,-zB,-zC,-zD,-zE,h',h,hg,zlw8,zoex,zoy9,zogs e,z17r,zojl,grpD,e2,zwdn,zewf hn]
  ·have hn:¬ ValidC c:=fun hv=>e (hv.g i h).1
   simp (disch:=first|omega|simp<;>omega|fail) [-zA,-zB,-zC,-zD,-zE,h',h,hg,zlw8,zoex,zoy9,zewf e,zwdn,zewf hn]
 have h':¬ (i:Int)<c.g.l.length:=by omega
 have hG : ∀ j (hj:j<c.g.l.length),ValidG c.g.l[j]∧z9w0 c.g.l c.g.l[j].ns c.g.l[j].im=j:=fun j hj=>h2 j hj (by omega)
 simp (disch:=first|omega|simp<;>omega|fail) [-zA,-zB,-zC,-zD,-zE,h,h']
 refine zlm5 (S108 c) (fun i=>c.i.l.length-i) (fun i=>i≤c.i.l.length ∧ ∀ j (hj:j<c.i.l.length),j<i→SoundI c.g.l.length c.next c.i.l[j]∧(∀ h0:0<j,c.i.l[j-1].id<c.i.l[j].id)) 0 (z515 (by simp (disch:=first|omega|simp<;>omega|fail) [-zA,-zB,-zC,-zD,-zE]) (by simp (disch:=first|omega|simp<;>omega|fail) [-zA,-zB,-zC,-zD,-zE])) ⟨by omega,fun j _ hj=>by omega⟩ (fun i hi => ?_)
 obtain ⟨h1,h2⟩:=hi
 simp (disch:=first|omega|simp<;>omega|fail) [-zA,-zB,-zC,-zD,-zE,a9L1,a9S1,S108]
 by_cases h:i<c.i.l.length
 ·have h':(i:Int)<c.i.l.length:=by omega
  have hg : ∀ H,zpsc H 37 (c.i.dv 37 inC) i=some (.ref (inC c.i.l[i])):=fun H=>zalo z6gw h
  by_cases e:SoundI c.g.l.length c.next c.i.l[i]
  ·by_cases e0:i=0
   ·have e0':¬ (0:Int)<i:=by omega
    have e0'':¬ 0<i:=by omega
    simp (disch:=first|omega|simp<;>omega|fail) [-zA,-zB,-zC,-zD,-zE,h',h,hg,zd7t,ziv1,zmtb,zogs e,e0',e0'']
    refine ⟨i+1,zju2 (tail:=[.cells (inC c.i.l[i])]) (by simp (disch:=first|omega|simp<;>omega|fail) [-zA,-zB,-zC,-zD,-zE]) (by simp (disch:=first|omega|simp<;>omega|fail) [-zA,-zB,-zC,-zD,-zE]) (by simp (disch:=first|omega|simp<;>omega|fail) [-zA,-zB,-zC,-zD,-zE]) (by simp (disch:=first|omega|simp<;>omega|fail) [-zA,-zB,-zC,-zD,-zE,belowL,Am.below]) (by simp (disch:=first|omega|simp<;>omega|fail) [-zA,-zB,-zC,-zD,-zE,zlf2]),by omega,by omega,fun j hj hji => ?_⟩
    obtain rfl:j=i:=by omega
    exact ⟨e,fun h0=>by omega⟩
   ·have e0':(0:Int)<i:=by omega
    have e0'':0<i:=by omega
    have em:(i:Int)-1=(i-1:Nat):=by omega
    have hg2 : ∀ H,zpsc H 37 (c.i.dv 37 inC) ((i-1:Nat):Int)=some (.ref (inC c.i.l[i-1])):=fun H=>zalo z6gw (by omega)
    by_cases e2:c.i.l[i].id≤c.i.l[i-1].id
    ·have hn:¬ ValidC c:=fun hv=>by have:=(hv.i i h).2 (by omega); omega
     simp (disch:=first|omega|simp<;>omega|fail) [-zA,-zB,-zC,-zD,-zE,h',h,hg,zd7t,ziv1,zmtb,zogs e,e0',e0'',em,hg2,e2,zwdn,zewf hn]
    ·simp (disch:=first|omega|simp<;>omega|fail) [-zA,-zB,-zC,-zD,-zE,h',h,hg,zd7t,ziv1,zmtb,zogs e,e0',e0'',em,hg2,e2]
     refine ⟨i+1,zju2 (tail:=[.cells (inC c.i.l[i])]) (by simp (disch:=first|omega|simp<;>omega|fail) [-zA,-zB,-zC,-zD,-zE]) (by simp (disch:=first|omega|simp<;>omega|fail) [-zA,-zB,-zC,-zD,-zE]) (by simp (disch:=first|omega|simp<;>omega|fail) [-zA,-zB,-zC,-zD,-zE]) (by simp (disch:=first|omega|simp<;>omega|fail) [-zA,-zB,-zC,-zD,-zE,belowL,Am.below]) (by simp (disch:=first|omega|simp<;>omega|fail) [-zA,-zB,-zC,-zD,-zE,zlf2]),by omega,by omega,fun j hj hji => ?_⟩
     by_cases ej:j=i
     ·subst ej; exact ⟨e,fun _=>by omega⟩
     ·exact h2 j hj (by omega)
  ·have hn:¬ ValidC c:=fun hv=>e (hv.i i h).1
   simp (disch:=first|omega|simp<;>omega|fail) [-zA,-zB,-zC,-zD,-zE,h',h,hg,zd7t,ziv1,zmtb,zewf e,zwdn,zewf hn]
 ·have h':¬ (i:Int)<c.i.l.length:=by omega
  have hy:ValidC c:=⟨by omega,by omega,by omega,by omega,hG,fun j hj=>h2 j hj (by omega)⟩
  simp (disch:=first|omega|simp<;>omega|fail) [-zA,-zB,-zC,-zD,-zE,h,h',zwdn,zogs hy]
end
section
set_option linter.unusedSimpArgs false
set_option linter.unusedVariables false
open Go Go.Am
def mutD {α:Type} (id s:Nat) (x:Sl α) (f:α→List DV):DV:=if x.l=[] then x.clone.dv s f else .ms id (x.l.length*s) 0 s x.l.length (x.l.length*s)
def mutO {α:Type} (x:Sl α) (f:α→List DV):List AObj:=if x.l=[] then [] else [.cells (x.l.flatMap f)]
theorem zpj6 {α:Type} {id s:Nat} {x:Sl α} {f:α→List DV} (h:x.l=[]):mutD id s x f=x.clone.dv s f:=if_pos h
theorem z2ra {α:Type} {id s:Nat} {x:Sl α} {f:α→List DV} (h:x.l≠[]):mutD id s x f = .ms id (x.l.length*s) 0 s x.l.length (x.l.length*s):=if_neg h
theorem zrou {α:Type} {x:Sl α} {f:α→List DV} (h:x.l=[]):mutO x f=[]:=if_pos h
theorem z895 {α:Type} {x:Sl α} {f:α→List DV} (h:x.l≠[]):mutO x f=[.cells (x.l.flatMap f)]:=if_neg h
theorem z9jy {α:Type} {f:α→List DV} (h : ∀ a,(f a).all DV.one=true) : ∀ (l:List α),(l.flatMap f).all DV.one=true
 | []=>rfl
 | a::l=>by rw [y01,y0j,h,z9jy h l]; rfl
theorem zbq1 (g:Grp):(grC g).all DV.one=true:=by simp only [grC,y0a,zzmf,zxyr,z4ja,y0e,y0b]
theorem z8go (x:Ins):(inC x).all DV.one=true:=by simp only [inC,y0a,y0j,zoxk,zzmf,y0e,y0b]
theorem zp9z (x:Sl Dg):RunsH tbl0 a56 [x.dv 32 dgC] [] (mutD 0 32 x dgC) (mutO x dgC):=by
 refine ⟨?_⟩
 obtain ⟨k,l,h,hb⟩:=x
 cases k with
 | none =>
  have hl:l=[]:=h rfl
  subst hl
  simp (disch:=first|omega|simp<;>omega|fail) [-zA,-zB,-zC,-zD,-zE,a56,z5oj]
  exact ⟨by rw [zpj6 rfl]; rfl,zrou rfl⟩
 | some b =>
  have hb:l.length≤4294967296:=hb
  by_cases hl:l=[]
  ·subst hl; simp (disch:=first|omega|simp<;>omega|fail) [-zA,-zB,-zC,-zD,-zE,a56,z707,mutD,mutO,Sl.clone]
  ·have h1:=z1rq z1t1 l
   have h2:=z9jy (f:=dgC) (fun _=>zoxk) l
   have h3:0<l.length:=y0c.2 hl
   simp (disch:=first|omega|simp<;>omega|fail) [-zA,-zB,-zC,-zD,-zE,a56,z707,mutD,mutO,hl,h1,h2,h3]
theorem zvl5 (x:Sl Grp):RunsH tbl0 a68 [x.dv 6 grC] [] (mutD 0 6 x grC) (mutO x grC):=by
 refine ⟨?_⟩
 obtain ⟨k,l,h,hb⟩:=x
 cases k with
 | none =>
  have hl:l=[]:=h rfl
  subst hl
  simp (disch:=first|omega|simp<;>omega|fail) [-zA,-zB,-zC,-zD,-zE,a68,z5oj]
  exact ⟨by rw [zpj6 rfl]; rfl,zrou rfl⟩
 | some b =>
  have hb:l.length≤4294967296:=hb
  by_cases hl:l=[]
  ·subst hl; simp (disch:=first|omega|simp<;>omega|fail) [-zA,-zB,-zC,-zD,-zE,a68,z707,mutD,mutO,Sl.clone]
  ·have h1:=z1rq zry4 l
   have h2:=z9jy (f:=grC) (zbq1) l
   have h3:0<l.length:=y0c.2 hl
   simp (disch:=first|omega|simp<;>omega|fail) [-zA,-zB,-zC,-zD,-zE,a68,z707,mutD,mutO,hl,h1,h2,h3]
theorem ze8u (x:Sl Ins):RunsH tbl0 a69 [x.dv 37 inC] [] (mutD 0 37 x inC) (mutO x inC):=by
 refine ⟨?_⟩
 obtain ⟨k,l,h,hb⟩:=x
 cases k with
 | none =>
  have hl:l=[]:=h rfl
  subst hl
  simp (disch:=first|omega|simp<;>omega|fail) [-zA,-zB,-zC,-zD,-zE,a69,z5oj]
  exact ⟨by rw [zpj6 rfl]; rfl,zrou rfl⟩
 | some b =>
  have hb:l.length≤4294967296:=hb
  by_cases hl:l=[]
  ·subst hl; simp (disch:=first|omega|simp<;>omega|fail) [-zA,-zB,-zC,-zD,-zE,a69,z707,mutD,mutO,Sl.clone]
  ·have h1:=z1rq z6gw l
   have h2:=z9jy (f:=inC) (z8go) l
   have h3:0<l.length:=y0c.2 hl
   simp (disch:=first|omega|simp<;>omega|fail) [-zA,-zB,-zC,-zD,-zE,a69,z707,mutD,mutO,hl,h1,h2,h3]
end
section
set_option linter.unusedSimpArgs false
set_option linter.unusedVariables false
open Go Go.Am
theorem zaip {α:Type} {n s:Nat} {x:Sl α} {f:α→List DV} (hp : ∀ a,zbao (f a)=true):shD n (mutD 0 s x f)=mutD n s x f:=by
 by_cases h:x.l=[]
 ·rw [zpj6 h,zpj6 h]; exact za7m n _ (zxxb hp _)
 ·rw [z2ra h,z2ra h]; rfl
theorem zxjt {α:Type} {n:Nat} {x:Sl α} {f:α→List DV} (hp : ∀ a,zbao (f a)=true):(mutO x f).map (shO n)=mutO x f:=by
 by_cases h:x.l=[]
 ·rw [zrou h]; rfl
 ·rw [z895 h]; simp only [y0u,List.map_nil,z05k,zj45 n _ (zp6k hp _)]
noncomputable def cNG:List DV→Nat→Option (DV × List AObj):=conN (fun _=>True) (fun x:Sl Grp=>[x.dv 6 grC]) (fun x=>(mutD 0 6 x grC,mutO x grC))
noncomputable def cNI:List DV→Nat→Option (DV × List AObj):=conN (fun _=>True) (fun x:Sl Ins=>[x.dv 37 inC]) (fun x=>(mutD 0 37 x inC,mutO x inC))
theorem zm2v {x:Sl Grp} {n:Nat}:cNG [x.dv 6 grC] n=some (mutD n 6 x grC,mutO x grC):=by
 have:=zqtp (A:=fun _=>True) (f:=fun x:Sl Grp=>[x.dv 6 grC]) (g:=fun x=>(mutD 0 6 x grC,mutO x grC)) (fun a b e=>by
  simp only [List.cons.injEq,and_true] at e
  rw [zcq7 zry4 (by decide) (fun _ _=>zs5w) e]) x trivial n
 rw [zaip zxeb,zxjt zxeb] at this
 exact this
theorem zrvm {x:Sl Ins} {n:Nat}:cNI [x.dv 37 inC] n=some (mutD n 37 x inC,mutO x inC):=by
 have:=zqtp (A:=fun _=>True) (f:=fun x:Sl Ins=>[x.dv 37 inC]) (g:=fun x=>(mutD 0 37 x inC,mutO x inC)) (fun a b e=>by
  simp only [List.cons.injEq,and_true] at e
  rw [zcq7 z6gw (by decide) (fun _ _=>zpbj) e]) x trivial n
 rw [zaip z9kv,zxjt z9kv] at this
 exact this
noncomputable def cCD:List DV→Option DV:=con (fun _=>True) (fun x:Sl Dg=>[x.dv 32 dgC]) (fun x=>x.clone.dv 32 dgC)
theorem zgv2 {x:Sl Dg}:cCD [x.dv 32 dgC]=some (x.clone.dv 32 dgC) :=
 zsn4 (f:=fun x:Sl Dg=>[x.dv 32 dgC]) (fun a b e=>by simp only [List.cons.injEq,and_true] at e; exact z42k e) x
theorem zspn (x:Sl Dg):Am.Sem P 56 [x.dv 32 dgC] (x.clone.dv 32 dgC) :=
 zzfj ((zv22 mix zr5o Tryd.func56 zcwb (zp9z x)).mono fun d h' e=>by
  obtain ⟨rfl,rfl⟩:=e
  by_cases h:x.l=[]
  ·rw [zpj6 h]; exact z8lx
  ·have hl:=z1rq z1t1 x.l
   have ht:(x.l.flatMap dgC).take (x.l.length*32)=x.l.flatMap dgC:=y00 (by omega)
   rw [z2ra h,z895 h,zve7,z1zn,if_pos hl,y09,List.drop_zero,ht,z619 (zp6k z3ot _)]
   simp [Sl.clone,Sl.dv,slD,h])
noncomputable def T110:Tbl:=addT 68 (.new cNG) (addT 69 (.new cNI) (addT 56 (.pure cCD) tbl0))
theorem zunk:T110 68 = .new cNG:=by simp [T110]
theorem z1hi:T110 69 = .new cNI:=by simp [T110]
theorem zvdg:T110 56 = .pure cCD:=by simp [T110]
theorem z5g0:T110.Sound P:=z0rp (z3ld (fun x _=>by simp) fun x _=>zv22 mix zr5o Tryd.func68 z20i (zvl5 x)) (z0rp (z3ld (fun x _=>by simp) fun x _=>zv22 mix zr5o Tryd.func69 z713 (ze8u x)) (z0rp (z2au fun x _=>zspn x) zr5o))
def gsi (l:List Grp) (i:Nat):List Grp:=(l.take i).map Grp.clone++l.drop i
theorem z7fj (l:List Grp):gsi l 0=l:=rfl
theorem zxdi {l:List Grp} {i:Nat} (h:l.length≤i):gsi l i=l.map Grp.clone:=by rw [gsi,y00 h,y03 h,List.append_nil]
theorem zirn {l:List Grp} {i:Nat}:(gsi l i).length=l.length:=by simp [gsi]; omega
theorem zlpw {l:List Grp} {i:Nat} (h:i<l.length) (h':i<(gsi l i).length):(gsi l i)[i]=l[i]:=by
 simp only [gsi]
 rw [List.getElem_append_right (by simp; omega)]
 simp [Nat.min_eq_left (Nat.le_of_lt h)]
theorem zhwq {l:List Grp} {i:Nat} (h:i<l.length):(gsi l i).set i l[i].clone=gsi l (i+1):=by
 simp only [gsi]
 have hl:((l.take i).map Grp.clone).length=i:=by simp; omega
 rw [y0r _ _ (by omega),hl,Nat.sub_self,zmqh h,List.map_append,y02 h,List.set_cons_zero,y0f]
 rfl
theorem zfof {l:List Grp} {i:Nat} (h:i<l.length):oneC 1 false ((l.flatMap grC).drop (i*6+5))=some (l[i].ch.dv 32 dgC):=by
 rw [← y06,zkb2 zry4,y02 h,y01]
 rfl
def Grp.withCh (g:Grp) (y:Sl Dg):Grp:=⟨g.ns,g.im,g.want,g.least,g.down,y⟩
theorem ztq3 {l:List Grp} {i:Nat} (h:i<l.length) {y:Sl Dg}:zk7y (l.flatMap grC) (i*6+5) [y.dv 32 dgC]=(l.set i (l[i].withCh y)).flatMap grC:=by
 unfold zk7y
 rw [y0s,show i*6+5+1=(i+1)*6 by omega,zkb2 zry4,List.take_add,z10w zry4,zkb2 zry4,y02 h,y01,y04,if_pos h,y0v,y01]
 rw [y05 (by rw [zry4]; omega)]
 simp only [y0f]
 rfl
theorem zbcp {h:List AObj} {id off:Nat} {v:DV} {l:List DV} (hc:v.cells=[v]) (ho:v.one=true) (hl:off<l.length):zy6o h id 1 off v (some l)=some (.junk,h.set id (.cells (zk7y l off [v]))):=by
 simp only [zy6o,hc,List.length_cons,List.length_nil,y0a,y0e,ho,y0b]
 first|done|rw [if_pos ⟨trivial,by omega,trivial⟩]
theorem zbvn {a b c v:DV}:zk7y [a,b,c] 0 [v]=[v,b,c]:=rfl
theorem zgna {a b c v:DV}:zk7y [a,b,c] 1 [v]=[a,v,c]:=rfl
theorem ztfh {a b c v:DV}:zk7y [a,b,c] 2 [v]=[a,b,v]:=rfl
attribute [simp] zbvn zgna ztfh
def I3 (c:Clu):DV:=mutD (2+(mutO c.g grC).length) 37 c.i inC
def zpsa (c:Clu):DV := .agg [mutD 2 6 c.clone.g grC,I3 c,.int .i64 c.next]
def zvu3 (c:Clu):List AObj := .cells [mutD 2 6 c.clone.g grC,I3 c,.int .i64 c.next] :: .cells [mutD 2 6 c.clone.g grC,I3 c,.int .i64 c.next]::(mutO c.clone.g grC++mutO c.i inC)
theorem zbo5 (c:Clu):c.clone.g.l=c.g.l.map Grp.clone:=rfl
theorem zkrv {c:Clu} (h:c.g.l≠[]):c.clone.g.l≠[]:=by simpa [zbo5] using h
theorem zv4y {c:Clu} (h:c.g.l=[]):c.clone.g.l=[]:=by simp [zbo5,h]
theorem zh8h {c:Clu} (h:c.g.l=[]):c.clone.g.clone.dv 6 grC=c.g.clone.dv 6 grC:=by
 simp [Sl.clone,Clu.clone,h,Sl.dv]
theorem zngo {a b c:DV}:oneC 3 true [a,b,c]=some (.agg [a,b,c]):=rfl
theorem z9oo {h:List AObj} {id:Nat} {a b c:DV} {l:List DV} (hl:l.length=3) (h1:a.one=true) (h2:b.one=true) (h3:c.one=true):zy6o h id 3 0 (.agg [a,b,c]) (some l)=some (.junk,h.set id (.cells [a,b,c])):=zfc1 rfl hl (by simp [h1,h2,h3])
attribute [simp] zngo z9oo
def S110 (c:Clu) (oi:List AObj) (i:Nat):St:=zh8t (.mp 0 3 0) (.mp 1 3 0) (.int .i64 c.g.l.length) (.int .i64 i) (.cells [mutD 2 6 c.g grC,I3 c,.int .i64 c.next] :: .cells [.nils,.nils,.int .i64 0] :: .cells ((gsi c.g.l i).flatMap grC)::oi)
theorem zpq0 {α:Type} {id s:Nat} {x:Sl α} {f:α→List DV}:(mutD id s x f).one=true:=by
 by_cases h:x.l=[]
 ·rw [zpj6 h]; exact z4ja _
 ·rw [z2ra h]; rfl
theorem zflp {α:Type} {id s:Nat} {x:Sl α} {f:α→List DV}:(mutD id s x f).cells=[mutD id s x f]:=by
 by_cases h:x.l=[]
 ·rw [zpj6 h]; exact zs9p _
 ·rw [z2ra h]; rfl
theorem zpel {α:Type} {id s:Nat} {x:Sl α} {f:α→List DV}:(mutD id s x f).known=true:=by
 by_cases h:x.l=[]
 ·rw [zpj6 h]; exact ztw5 _
 ·rw [z2ra h]; rfl
attribute [simp] zpq0 zflp zpel
def S111 (c:Clu):St:=zh8t (.mp 0 3 0) (.mp 1 3 0) (.int .i64 c.g.clone.l.length) (.int .i64 0) (.cells [c.g.clone.dv 6 grC,mutD 2 37 c.i inC,.int .i64 c.next] :: .cells [.nils,.nils,.int .i64 0]::mutO c.i inC)
theorem z9io (c:Clu):RunsH T110 a55 [.agg (clC c)] [] (zpsa c) (zvu3 c):=by
 refine ⟨?_⟩
 have hbg:=c.g.b
 by_cases hg:c.g.l=[]
 ·have e1:=zpj6 (id:=2) (s:=6) (f:=grC) hg
  have e2:=zrou (f:=grC) hg
  have e3:=zpj6 (id:=2) (s:=6) (f:=grC) (zv4y hg)
  have e4:=zrou (f:=grC) (zv4y hg)
  have e5:=zh8h hg
  have e6:c.g.clone.l.length=0:=by rw [show c.g.clone.l=c.g.l from rfl,hg]; rfl
  simp (disch:=first|omega|simp<;>omega|fail) [-zA,-zB,-zC,-zD,-zE,a55,zunk,z1hi,zm2v,zrvm,clC,e1,e2,zbcp]
  refine zlm5 (fun _:Nat=>S111 c) (fun _=>0) (fun _=>True) 0 (z515 (by simp (disch:=first|omega|simp<;>omega|fail) [-zA,-zB,-zC,-zD,-zE,S111]) (by simp (disch:=first|omega|simp<;>omega|fail) [-zA,-zB,-zC,-zD,-zE,S111])) trivial (fun _ _ => ?_)
  simp (disch:=first|omega|simp<;>omega|fail) [-zA,-zB,-zC,-zD,-zE,z44u,zh8t,S111,e6,zpsa,zvu3,I3,e2,e3,e4,e5]
 ·have e1:=z2ra (id:=2) (s:=6) (f:=grC) hg
  have e2:=z895 (f:=grC) hg
  have e3:=z2ra (id:=2) (s:=6) (f:=grC) (zkrv hg)
  have e4:=z895 (f:=grC) (zkrv hg)
  have h1:=z1rq zry4 c.g.l
  simp (disch:=first|omega|simp<;>omega|fail) [-zA,-zB,-zC,-zD,-zE,a55,zunk,z1hi,zm2v,zrvm,clC,e1,e2,h1,zbcp]
  refine zlm5 (S110 c (mutO c.i inC)) (fun i=>c.g.l.length-i) (fun i=>i≤c.g.l.length) 0 (z515 (by simp (disch:=first|omega|simp<;>omega|fail) [-zA,-zB,-zC,-zD,-zE,I3,e1,e2]) (by simp (disch:=first|omega|simp<;>omega|fail) [-zA,-zB,-zC,-zD,-zE,z7fj,I3,e1,e2])) (by omega) (fun i hi => ?_)
  have h2:=z1rq zry4 (gsi c.g.l i)
  have h3:=zirn (l:=c.g.l) (i:=i)
  rw [h3] at h2
  simp (disch:=first|omega|simp<;>omega|fail) [-zA,-zB,-zC,-zD,-zE,z44u,zh8t,S110,e1]
  by_cases h:i<c.g.l.length
  ·have h':(i:Int)<c.g.l.length:=by omega
   have hi2:i<(gsi c.g.l i).length:=by omega
   have h5:i*6+5<c.g.l.length*6:=by omega
   have hc:=zfof hi2
   rw [zlpw h hi2] at hc
   have hs:=ztq3 hi2 (y:=c.g.l[i].ch.clone)
   rw [zlpw h hi2,show c.g.l[i].withCh c.g.l[i].ch.clone=c.g.l[i].clone from rfl,zhwq h] at hs
   simp (disch:=first|omega|simp<;>omega|fail) [-zA,-zB,-zC,-zD,-zE,h',h,h2,hc,zvdg,zgv2,zbcp,h5,hs]
   exact ⟨i+1,z515 (by simp (disch:=first|omega|simp<;>omega|fail) [-zA,-zB,-zC,-zD,-zE,e1]) (by simp (disch:=first|omega|simp<;>omega|fail) [-zA,-zB,-zC,-zD,-zE,e1]),by omega,by omega⟩
  ·have h':¬ (i:Int)<c.g.l.length:=by omega
   have ha:=zxdi (l:=c.g.l) (i:=i) (by omega)
   simp (disch:=first|omega|simp<;>omega|fail) [-zA,-zB,-zC,-zD,-zE,h,h',ha,zpsa,zvu3,I3,e2,e3,e4,zbo5]
end
section
set_option linter.unusedSimpArgs false
set_option linter.unusedVariables false
open Go Go.Am
def clW (n:Nat) (c:Clu):List DV:=[mutD (n+2) 6 c.clone.g grC,mutD (n+(2+(mutO c.g grC).length)) 37 c.i inC,.int .i64 c.next]
theorem zmt6 {α:Type} {n id s:Nat} {x:Sl α} {f:α→List DV} (hp : ∀ a,zbao (f a)=true):shD n (mutD id s x f)=mutD (n+id) s x f:=by
 by_cases h:x.l=[]
 ·rw [zpj6 h,zpj6 h]; exact za7m n _ (zxxb hp _)
 ·rw [z2ra h,z2ra h]; rfl
noncomputable def cNC:List DV→Nat→Option (DV × List AObj):=conN (fun _=>True) (fun c:Clu=>[.agg (clC c)]) (fun c=>(zpsa c,zvu3 c))
theorem z1a8 {c:Clu} {n:Nat}:cNC [.agg (clC c)] n=some (.agg (clW n c),.cells (clW n c) :: .cells (clW n c)::(mutO c.clone.g grC++mutO c.i inC)):=by
 have:=zqtp (A:=fun _=>True) (f:=fun x:Clu=>[.agg (clC x)]) (g:=fun c=>(zpsa c,zvu3 c)) (fun a b e=>by
  simp only [List.cons.injEq,DV.agg.injEq,and_true] at e
  rw [zh7t e]) c trivial n
 simp only [zpsa,zvu3,I3,z820,zz2n,z623,zmt6 zxeb,zmt6 z9kv,z96c,y0u,List.map_append,z05k,zxjt zxeb,zxjt z9kv] at this
 exact this
noncomputable def T112:Tbl:=addT 9 (.pure (cC1 zwdn)) (addT 11 (.pure (cG1 zoy9)) (addT 20 (.pure (cCSS grpD)) (addT 55 (.new cNC) (addT 56 (.pure cCD) (addT 49 (.pure cTm) (addT 31 (.pure (cCi fun c i => .int .i64 (z092 c.i.l i))) tbl0))))))
theorem zfnc:T112 9 = .pure (cC1 zwdn):=by simp [T112]
theorem zhw4:T112 11 = .pure (cG1 zoy9):=by simp [T112]
theorem zr2o:T112 20 = .pure (cCSS grpD):=by simp [T112]
theorem zulc:T112 55 = .new cNC:=by simp [T112]
theorem zd8j:T112 56 = .pure cCD:=by simp [T112]
theorem zb4g:T112 49 = .pure cTm:=by simp [T112]
theorem zw51:T112.Sound P:=z0rp (z2au fun x _=>zljw mix zmu9 Tryd.func9 z528 (ztir x)) (z0rp (z2au fun x _=>zljw mix z2gv Tryd.func11 zbwx (zzqf x)) (z0rp (z2au fun x _=>zljw mix z149 Tryd.func20 zfgm (zy3o x.1 x.2.1 x.2.2)) (z0rp (z3ld (fun x _=>by simp) fun x _=>zv22 mix z5g0 Tryd.func55 ze8s (z9io x)) (z0rp (z2au fun x _=>zspn x) (z0rp (zayt fun t=>zljw mix zr5o Tryd.func49 zdc4 (z4qz t)) (z0rp (z2au fun x _=>zljw mix zw83 Tryd.func31 zjer (z7dp x.1 x.2)) zr5o))))))
theorem zdhs {g:Sl Grp} {i:Sl Ins} {n:Int}:clC ⟨g,i,n⟩=[g.dv 6 grC,i.dv 37 inC,.int .i64 n]:=rfl
theorem z3cj:clC clu0=[.nils,.nils,.int .i64 0]:=rfl
noncomputable def z5em (c:Clu) (g:Grp):DV := .tup [.agg (clC (zeu8 c g).1),.int .i64 (zeu8 c g).2]
theorem zzd8 {g:Grp} {y:Sl Dg}:zk7y (grC g) 5 [y.dv 32 dgC]=grC (g.withCh y):=rfl
theorem zr87 {g:Grp}:g.withCh g.ch.clone=g.clone:=rfl
theorem zjad {α:Type} {x:Sl α} {s b m:Nat} {f:α→List DV} {h:List AObj} {cs:List DV} (hx:x.l=[]) (hb:b≤16384) (h0:0<s) (hm:m*s=cs.length) (hm0:0<m) (hbig:m≤4294967296) :
  appX h s b (x.clone.dv s f) m cs=some (.ms h.length cs.length 0 s m cs.length,h++[.cells cs]):=by
 obtain ⟨k,l,hk,hl⟩:=x
 cases (show l=[] from hx)
 cases k with
 | none=>exact zsuq hb h0 hm hm0 hbig
 | some q =>
  have:=ztup (h:=h) (s:=s) (b:=b) (n:=0) (m:=m) (ds:=[]) (cs:=cs) hb h0 hm hm0 (by omega)
  simp only [List.length_nil,Nat.zero_add,List.nil_append] at this
  exact this
theorem z4c0 {h:List AObj} {k:Nat} {l:List Grp}:z4tt h k (l.flatMap grC)=some (l.flatMap grC):=z619 (zp6k zxeb l)
theorem zodk {h:List AObj} {k:Nat} {l:List Ins}:z4tt h k (l.flatMap inC)=some (l.flatMap inC):=z619 (zp6k z9kv l)
theorem zq57 {l:List Grp} {n:Nat} (h:l.length≤n):(l.flatMap grC).take (n*6)=l.flatMap grC:=by rw [z10w zry4,y00 h]
theorem z5fn {l:List Ins} {n:Nat} (h:l.length≤n):(l.flatMap inC).take (n*37)=l.flatMap inC:=by rw [z10w z6gw,y00 h]
theorem zv6z {α:Type} {x:Sl α} {s:Nat} {f:α→List DV} (h:x.l≠[]):x.clone.dv s f = .sl false s x.l.length (x.l.flatMap f):=by simp [Sl.clone,Sl.dv,slD,h]
theorem zdxy {h:List AObj} {id off:Nat} {x:Grp} {l:List DV} (hl:off+6≤l.length):zy6o h id 6 off (.agg (grC x)) (some l)=some (.junk,h.set id (.cells (zk7y l off (grC x)))):=by
 have e:(DV.agg (grC x)).cells=grC x:=rfl
 simp only [zy6o,e,zbq1,zry4]
 rw [if_pos ⟨trivial,hl,trivial⟩]
theorem zk3i {g:Grp}:(grC g).take 6=grC g:=y00 (by simp)
theorem z6oi {g:Ins}:(inC g).take 37=inC g:=y00 (by simp)
attribute [simp] zk3i z6oi z4c0 zodk zbq1 z8go zoxk
theorem z4qu {z:List DV} {g:Grp} (hz:z.length=6):bslD 6 1 z [(0,6,.agg (grC g))]=some (.sl true 6 1 (grC g)):=by
 rw [z7bw (by simp [DV.known]) (by simp [seqD,hz,DV.cells])]; simp [seqD,DV.cells]
theorem zy08 (c:Clu) (g:Grp):Runs T112 a28 [.agg (clC c),.agg (grC g)] (z5em c g):=by
 refine ⟨?_⟩
 by_cases hv:ValidC c
 case neg =>
  have hd:zeu8 c g=(clu0,1):=by rw [zeu8,if_pos (.inl hv)]
  simp (disch:=first|omega|simp<;>omega|fail) [-zA,-zB,-zC,-zD,-zE,a28,zfnc,zf0o,zwdn,zewf hv,z5em,hd,z3cj]
 by_cases hvg:ValidG g
 case neg =>
  have hd:zeu8 c g=(clu0,1):=by rw [zeu8,if_pos (.inr hvg)]
  simp (disch:=first|omega|simp<;>omega|fail) [-zA,-zB,-zC,-zD,-zE,a28,zfnc,zf0o,zwdn,zogs hv,zhw4,zoex,zoy9,zewf hvg,z5em,hd,z3cj]
 have hnn:¬ (¬ ValidC c∨¬ ValidG g):=fun h=>h.elim (fun h=>h hv) (fun h=>h hvg)
 have hng:=hv.ng
 by_cases hx:z9w0 c.g.l g.ns g.im<0
 ·by_cases hl:16≤c.g.l.length
  ·have hl':(16:Int)≤c.g.l.length:=by omega
   have hd:zeu8 c g=(clu0,3):=by rw [zeu8,if_neg hnn,if_pos hx,if_pos hl]
   simp (disch:=first|omega|simp<;>omega|fail) [-zA,-zB,-zC,-zD,-zE,a28,zfnc,zf0o,zwdn,zogs hv,zhw4,zoex,zoy9,zogs hvg,zr2o,zojl,grpD,hx,hl',hl,z5em,hd,z3cj]
  ·have hl':¬ (16:Int)≤c.g.l.length:=by omega
   have hd:zeu8 c g=(⟨own (c.g.l.map Grp.clone++[g.clone]),c.i.clone,c.next⟩,0):=by rw [zeu8,if_neg hnn,if_pos hx,if_neg hl]
   have ho:=zqrs (l:=c.g.l.map Grp.clone++[g.clone]) (s:=6) (f:=grC) (by simp; omega)
   have ha : ∀ l:List Grp,(l.flatMap grC).length=l.length*6:=z1rq zry4
   have hb : ∀ l:List Ins,(l.flatMap inC).length=l.length*37:=z1rq z6gw
   have hgl:c.clone.g.l.length=c.g.l.length:=by simp [zbo5]
   by_cases hg:c.g.l=[]
   ·have e2:=zrou (f:=grC) hg
    have e3:=zpj6 (id:=5) (s:=6) (f:=grC) (zv4y hg)
    have e4:=zrou (f:=grC) (zv4y hg)
    have e5:=fun h cs=>zjad (x:=c.clone.g) (s:=6) (b:=80) (m:=1) (f:=grC) (h:=h) (cs:=grC cs) (zv4y hg) (by decide) (by decide) (by simp) (by decide) (by decide)
    have hm:c.g.l.map Grp.clone=[]:=by rw [hg]; rfl
    have ho:(own (c.g.l.map Grp.clone++[g.clone])).dv 6 grC = .sl false 6 1 (grC g.clone):=by rw [ho,hm]; simp
    by_cases hi:c.i.l=[]
    ·have f1:=fun id=>zpj6 (id:=id) (s:=37) (f:=inC) hi
     have f2:=zrou (f:=inC) hi
     simp (disch:=first|omega|simp<;>omega|fail) [-zA,-zB,-zC,-zD,-zE,a28,zfnc,zf0o,zwdn,zogs hv,zhw4,zoex,zoy9,zogs hvg,zr2o,zojl,grpD,hx,hl',hl,zulc,z1a8,zd8j,zgv2,clW,zbcp,zzd8,zr87,z4qu,z5em,hd,zdhs,ho,e2,e3,e4,e5,f1,f2]
    ·have f1:=fun id=>z2ra (id:=id) (s:=37) (f:=inC) hi
     have f2:=z895 (f:=inC) hi
     have f3:=zv6z (s:=37) (f:=inC) hi
     have f4:=z5fn (l:=c.i.l) (y0q _)
     simp (disch:=first|omega|simp<;>omega|fail) [-zA,-zB,-zC,-zD,-zE,a28,zfnc,zf0o,zwdn,zogs hv,zhw4,zoex,zoy9,zogs hvg,zr2o,zojl,grpD,hx,hl',hl,zulc,z1a8,zd8j,zgv2,clW,zbcp,zzd8,zr87,z4qu,z5em,hd,zdhs,ho,e2,e3,e4,e5,f1,f2,f3,f4,hb]
   ·have e2:=z895 (f:=grC) hg
    have e3:=z2ra (id:=5) (s:=6) (f:=grC) (zkrv hg)
    have e4:=z895 (f:=grC) (zkrv hg)
    have e6:(c.g.l.length+1)*6=c.g.l.length*6+6:=by omega
    have e7:((c.g.l.map Grp.clone).flatMap grC++grC g.clone).take ((c.g.l.length+1)*6)=(c.g.l.map Grp.clone).flatMap grC++grC g.clone:=y00 (by rw [y0k,ha,zry4,y0p]; omega)
    have e11 : ∀ H k,z4tt H k ((c.g.l.map Grp.clone).flatMap grC++grC g.clone)=some ((c.g.l.map Grp.clone).flatMap grC++grC g.clone):=fun H k=>z619 (zg0c (zp6k zxeb _) (zxeb _))
    by_cases hi:c.i.l=[]
    ·have f1:=fun id=>zpj6 (id:=id) (s:=37) (f:=inC) hi
     have f2:=zrou (f:=inC) hi
     simp (disch:=first|omega|simp<;>omega|fail) [-zA,-zB,-zC,-zD,-zE,a28,zfnc,zf0o,zwdn,zogs hv,zhw4,zoex,zoy9,zogs hvg,zr2o,zojl,grpD,hx,hl',hl,zulc,z1a8,zd8j,zgv2,clW,zbcp,zzd8,zr87,z4qu,z5em,hd,zdhs,ho,e2,e3,e4,e11,f1,f2,ha,hb,zbo5,e7]
    ·have f1:=fun id=>z2ra (id:=id) (s:=37) (f:=inC) hi
     have f2:=z895 (f:=inC) hi
     have f3:=zv6z (s:=37) (f:=inC) hi
     have f4:=z5fn (l:=c.i.l) (y0q _)
     simp (disch:=first|omega|simp<;>omega|fail) [-zA,-zB,-zC,-zD,-zE,a28,zfnc,zf0o,zwdn,zogs hv,zhw4,zoex,zoy9,zogs hvg,zr2o,zojl,grpD,hx,hl',hl,zulc,z1a8,zd8j,zgv2,clW,zbcp,zzd8,zr87,z4qu,z5em,hd,zdhs,ho,e2,e3,e4,e11,f1,f2,f3,f4,ha,hb,zbo5,e7]
 ·obtain ⟨k,hk,hke,hkf,_⟩:=zgr5 (show 0≤z9w0 c.g.l g.ns g.im by omega)
  have hke:z9w0 c.g.l g.ns g.im=k:=hke
  have hd:zeu8 c g=(⟨own ((c.g.l.map Grp.clone).set k g.clone),c.i.clone,c.next⟩,0):=by rw [zeu8,if_neg hnn,if_neg hx,hke]; rfl
  have ho:=zqrs (l:=(c.g.l.map Grp.clone).set k g.clone) (s:=6) (f:=grC) (by simp; omega)
  have ha : ∀ l:List Grp,(l.flatMap grC).length=l.length*6:=z1rq zry4
  have hb : ∀ l:List Ins,(l.flatMap inC).length=l.length*37:=z1rq z6gw
  have hg:c.g.l≠[]:=by intro e; rw [e] at hk; simp at hk
  have e2:=z895 (f:=grC) hg
  have e3:=z2ra (id:=5) (s:=6) (f:=grC) (zkrv hg)
  have e4:=z895 (f:=grC) (zkrv hg)
  have hx':¬ (k:Int)<0:=by omega
  have hk':(k:Int)<c.g.l.length:=by omega
  have e8:zk7y ((c.g.l.map Grp.clone).flatMap grC) (k*6) (grC g.clone)=((c.g.l.map Grp.clone).set k g.clone).flatMap grC:=z47w zry4 (by simpa using hk) _
  have e9:=zq57 (l:=(c.g.l.map Grp.clone).set k g.clone) (n:=c.g.l.length) (by simp)
  have e10 : ∀ H id,zy6o H id 6 (k*6) (.agg (grC g.clone)) (some ((c.g.l.map Grp.clone).flatMap grC))=some (.junk,H.set id (.cells (((c.g.l.map Grp.clone).set k g.clone).flatMap grC))):=fun H id=>by
   rw [zdxy (by rw [ha,y0p]; omega),e8]
  by_cases hi:c.i.l=[]
  ·have f1:=fun id=>zpj6 (id:=id) (s:=37) (f:=inC) hi
   have f2:=zrou (f:=inC) hi
   simp (disch:=first|omega|simp<;>omega|fail) [-zA,-zB,-zC,-zD,-zE,a28,zfnc,zf0o,zwdn,zogs hv,zhw4,zoex,zoy9,zogs hvg,zr2o,zojl,grpD,hke,hx',hk',hk,zulc,z1a8,zd8j,zgv2,clW,zbcp,zzd8,zr87,z5em,hd,zdhs,ho,e2,e3,e4,e9,e10,f1,f2,ha,hb,zbo5]
  ·have f1:=fun id=>z2ra (id:=id) (s:=37) (f:=inC) hi
   have f2:=z895 (f:=inC) hi
   have f3:=zv6z (s:=37) (f:=inC) hi
   have f4:=z5fn (l:=c.i.l) (y0q _)
   simp (disch:=first|omega|simp<;>omega|fail) [-zA,-zB,-zC,-zD,-zE,a28,zfnc,zf0o,zwdn,zogs hv,zhw4,zoex,zoy9,zogs hvg,zr2o,zojl,grpD,hke,hx',hk',hk,zulc,z1a8,zd8j,zgv2,clW,zbcp,zzd8,zr87,z5em,hd,zdhs,ho,e2,e3,e4,e9,e10,f1,f2,f3,f4,ha,hb,zbo5]
end
section
set_option linter.unusedSimpArgs false
set_option linter.unusedVariables false
open Go Go.Am
theorem z5pt {c:Clu}:c.clone.g.clone.dv 6 grC=c.clone.g.dv 6 grC:=by
 by_cases h:c.g.l=[]
 ·simp only [Sl.clone,Clu.clone,Sl.dv,h,List.map_nil,if_true]
  cases c.g.k<;>rfl
 ·simp [Sl.clone,Clu.clone,Sl.dv,h]
theorem zpgv {c:Clu} (h:c.g.l≠[]):c.clone.g.dv 6 grC = .sl false 6 c.g.l.length ((c.g.l.map Grp.clone).flatMap grC):=by
 rw [← z5pt,zv6z (zkrv h),zbo5,y0p]
theorem zd00 {z:List DV} {x:Ins} (hz:z.length=37):bslD 37 1 z [(0,37,.agg (inC x))]=some (.sl true 37 1 (inC x)):=by
 rw [z7bw (by simp [DV.known]) (by simp [seqD,hz,DV.cells])]; simp [seqD,DV.cells]
theorem zfu8 {z:List DV} {a b s i e:Int} {d:Dg} (hz:z.length=37):zvnk z [(0,1,.int .i64 a),(1,1,.int .i64 b),(2,32,.agg (dgC d)),(34,1,.int .i64 s),(35,1,.int .i64 i),(36,1,.int .i64 e)]=some (.agg (inC ⟨a,b,d,s,i,e⟩)):=by
 rw [zwos (by simp [DV.known]) (by simp [seqD,hz,DV.cells])]; simp [seqD,DV.cells,inC]
noncomputable def z4xq (c:Clu) (g:Int) (d:Dg) (t:Int):DV := .tup [.agg (clC (z4wu c g d t).1),.int .i64 (z4wu c g d t).2.1,.int .i64 (z4wu c g d t).2.2]
theorem z1bv (c:Clu) (gr:Int) (d:Dg) (t:Int):Runs T112 a29 [.agg (clC c),.int .i64 gr,.agg (dgC d),.int .i64 t] (z4xq c gr d t):=by
 refine ⟨?_⟩
 by_cases hv:ValidC c
 case neg =>
  have hd:z4wu c gr d t=(clu0,0,1):=by rw [z4wu,if_pos (.inl hv)]
  simp (disch:=first|omega|simp<;>omega|fail) [-zA,-zB,-zC,-zD,-zE,a29,zfnc,zf0o,zwdn,zb4g,zixp,z4xq,zewf hv,hd,z3cj]
 by_cases hz:d=dg0
 ·have hd:z4wu c gr d t=(clu0,0,1):=by rw [z4wu,if_pos (.inr (.inl hz))]
  simp (disch:=first|omega|simp<;>omega|fail) [-zA,-zB,-zC,-zD,-zE,a29,zfnc,zf0o,zwdn,zb4g,zixp,z4xq,zogs hv,hz,hd,z3cj]
  simp [← hz,hd,z3cj]
 by_cases ht:zcie t
 case neg =>
  have hd:z4wu c gr d t=(clu0,0,1):=by rw [z4wu,if_pos (.inr (.inr ht))]
  simp (disch:=first|omega|simp<;>omega|fail) [-zA,-zB,-zC,-zD,-zE,a29,zfnc,zf0o,zwdn,zb4g,zixp,z4xq,zogs hv,hz,zewf ht,hd,z3cj]
 have hnn:¬ (¬ ValidC c∨d=dg0∨¬ zcie t):=fun h=>h.elim (fun h=>h hv) (fun h=>h.elim hz (fun h=>h ht))
 have hni:=hv.ni
 have hn0:=hv.n0
 by_cases g0:gr<0
 ·have hd:z4wu c gr d t=(clu0,0,4):=by rw [z4wu,if_neg hnn,if_pos (.inl g0)]
  simp (disch:=first|omega|simp<;>omega|fail) [-zA,-zB,-zC,-zD,-zE,a29,zfnc,zf0o,zwdn,zb4g,zixp,z4xq,zogs hv,hz,zogs ht,g0,hd,z3cj]
 by_cases g1:(c.g.l.length:Int)≤gr
 ·have hd:z4wu c gr d t=(clu0,0,4):=by rw [z4wu,if_neg hnn,if_pos (.inr g1)]
  simp (disch:=first|omega|simp<;>omega|fail) [-zA,-zB,-zC,-zD,-zE,a29,zfnc,zf0o,zwdn,zb4g,zixp,z4xq,zogs hv,hz,zogs ht,g0,g1,hd,z3cj]
 have hnn2:¬ (gr<0∨(c.g.l.length:Int)≤gr):=fun h=>h.elim g0 g1
 by_cases l0:200≤c.i.l.length
 ·have l0':(200:Int)≤c.i.l.length:=by omega
  have hd:z4wu c gr d t=(clu0,0,3):=by rw [z4wu,if_neg hnn,if_neg hnn2,if_pos (.inl l0)]
  simp (disch:=first|omega|simp<;>omega|fail) [-zA,-zB,-zC,-zD,-zE,a29,zfnc,zf0o,zwdn,zb4g,zixp,z4xq,zogs hv,hz,zogs ht,g0,g1,l0',l0,hd,z3cj]
 have l0':¬ (200:Int)≤c.i.l.length:=by omega
 by_cases l1:1099511627776≤c.next
 ·have hd:z4wu c gr d t=(clu0,0,3):=by rw [z4wu,if_neg hnn,if_neg hnn2,if_pos (.inr l1)]
  simp (disch:=first|omega|simp<;>omega|fail) [-zA,-zB,-zC,-zD,-zE,a29,zfnc,zf0o,zwdn,zb4g,zixp,z4xq,zogs hv,hz,zogs ht,g0,g1,l0',l0,l1,hd,z3cj]
 have hnn3:¬ (200≤c.i.l.length∨1099511627776≤c.next):=fun h=>h.elim l0 l1
 have hd:z4wu c gr d t=(⟨c.clone.g,own (c.i.l++[newI c gr d t]),c.next+1⟩,c.next,0):=by rw [z4wu,if_neg hnn,if_neg hnn2,if_neg hnn3]
 have ho:=zqrs (l:=c.i.l++[newI c gr d t]) (s:=37) (f:=inC) (by simp; omega)
 have ha : ∀ l:List Grp,(l.flatMap grC).length=l.length*6:=z1rq zry4
 have hb : ∀ l:List Ins,(l.flatMap inC).length=l.length*37:=z1rq z6gw
 have e12:DV.int .i64 c.next::DV.int .i64 gr::(dgC d++[DV.int .i64 1,DV.int .i64 t,DV.int .i64 (-1)])=inC (newI c gr d t):=rfl
 have hg:c.g.l≠[]:=by intro e; rw [e] at g1; simp at g1; omega
 have e2:=z895 (f:=grC) hg
 have e3:=z2ra (id:=5) (s:=6) (f:=grC) (zkrv hg)
 have e4:=z895 (f:=grC) (zkrv hg)
 have e6:=zpgv hg
 have e7:=zq57 (l:=c.g.l.map Grp.clone) (n:=c.g.l.length) (by simp)
 by_cases hi:c.i.l=[]
 ·have f1:=fun id=>zpj6 (id:=id) (s:=37) (f:=inC) hi
  have f2:=zrou (f:=inC) hi
  have e5:=fun h cs=>zjad (x:=c.i) (s:=37) (b:=72) (m:=1) (f:=inC) (h:=h) (cs:=inC cs) hi (by decide) (by decide) (by simp) (by decide) (by decide)
  have ho:(own (c.i.l++[newI c gr d t])).dv 37 inC = .sl false 37 1 (inC (newI c gr d t)):=by rw [ho,hi]; simp
  simp (disch:=first|omega|simp<;>omega|fail) [-zA,-zB,-zC,-zD,-zE,a29,zfnc,zf0o,zwdn,zb4g,zixp,z4xq,zogs hv,hz,zogs ht,g0,g1,l0',l0,l1,zulc,z1a8,clW,zbcp,zd00,e12,hd,zdhs,ho,zbo5,e2,e3,e4,e5,e6,e7,f1,f2,ha,hb]
 ·have f1:=fun id=>z2ra (id:=id) (s:=37) (f:=inC) hi
  have f2:=z895 (f:=inC) hi
  have e8:(c.i.l.flatMap inC++inC (newI c gr d t)).take ((c.i.l.length+1)*37)=c.i.l.flatMap inC++inC (newI c gr d t):=y00 (by rw [y0k,hb,z6gw]; omega)
  have e9 : ∀ H k,z4tt H k (c.i.l.flatMap inC++inC (newI c gr d t))=some (c.i.l.flatMap inC++inC (newI c gr d t)):=fun H k=>z619 (zg0c (zp6k z9kv _) (z9kv _))
  simp (disch:=first|omega|simp<;>omega|fail) [-zA,-zB,-zC,-zD,-zE,a29,zfnc,zf0o,zwdn,zb4g,zixp,z4xq,zogs hv,hz,zogs ht,g0,g1,l0',l0,l1,zulc,z1a8,clW,zbcp,zd00,e12,hd,zdhs,ho,zbo5,e2,e3,e4,e6,e7,e8,e9,f1,f2,ha,hb]
theorem zy86 {l:List Ins} {k j:Nat} (h:k<l.length) (hj:j<37) {v:DV}:zk7y (l.flatMap inC) (k*37+j) [v]=(l.take k).flatMap inC++(zk7y (inC l[k]) j [v]++(l.drop (k+1)).flatMap inC):=by
 have hl:=z6gw l[k]
 unfold zk7y
 rw [y0s,List.take_add,z10w z6gw,zkb2 z6gw,Nat.add_assoc,← y06,zkb2 z6gw,y02 h,y01]
 rw [y05 (by omega),List.drop_append_of_le_length (by omega)]
 simp only [y0f]
theorem z8ez {l:List Ins} {k:Nat} (h:k<l.length) {y:Ins}:(l.set k y).flatMap inC=(l.take k).flatMap inC++(inC y++(l.drop (k+1)).flatMap inC):=by
 rw [y04,if_pos h,y0v,y01]
theorem zdp7 (x:Ins):inC x=(DV.int .i64 x.id :: .int .i64 x.grp::dgC x.art)++[.int .i64 x.state,.int .i64 x.since,.int .i64 x.den]:=rfl
theorem zqxx (x:Ins):(DV.int .i64 x.id :: .int .i64 x.grp::dgC x.art).length=34:=by simp
theorem zq62 (x:Ins) (v:Int):zk7y (inC x) 34 [.int .i64 v]=inC (x.st v):=by
 have h:=zqxx x
 rw [zdp7,zdp7]
 unfold zk7y
 rw [y05 (by omega),y00 (by omega),y0h,y03 (by simp),h]
 simp [Ins.st]
theorem z6lb (x:Ins) (v:Int):zk7y (inC x) 35 [.int .i64 v]=inC (x.si v):=by
 have h:=zqxx x
 rw [zdp7,zdp7]
 unfold zk7y
 rw [y0l,y00 (by omega),y0h,y03 (by simp),h]
 simp [Ins.si]
theorem zp4m (x:Ins) (v:Int):zk7y (inC x) 36 [.int .i64 v]=inC (x.de v):=by
 have h:=zqxx x
 rw [zdp7,zdp7]
 unfold zk7y
 rw [y0l,y00 (by omega),y0h,y03 (by simp),h]
 simp [Ins.de]
theorem zajs {H:List AObj} {id k:Nat} {l:List Ins} {v:Int} (h:k<l.length):zy6o H id 1 (k*37+34) (.int .i64 v) (some (l.flatMap inC))=some (.junk,H.set id (.cells ((l.set k (l[k].st v)).flatMap inC))):=by
 rw [zbcp rfl rfl (by rw [z1rq z6gw]; omega),zy86 h (by decide),zq62,z8ez h]
theorem zjzz {H:List AObj} {id k:Nat} {l:List Ins} {v:Int} (h:k<l.length):zy6o H id 1 (k*37+35) (.int .i64 v) (some (l.flatMap inC))=some (.junk,H.set id (.cells ((l.set k (l[k].si v)).flatMap inC))):=by
 rw [zbcp rfl rfl (by rw [z1rq z6gw]; omega),zy86 h (by decide),z6lb,z8ez h]
end
end Go.Proofs.YtaihpefemjlilaaDoor
