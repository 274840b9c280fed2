/-
  23 texts of mine in one.
-/
import Derived.Lib.IndexLaws
import Derived.Test.YtdnhbfmlklaldaaGreatProg
import Derived.Lib.BytesEntry
import Derived.Lib.AppendZeros
import Derived.WalkKit
import Derived.Test.YtdnhbfmlklaldaaGreatCb1b7f320
import Derived.Test.YtdnhbfmlklaldaaGreatC1d38dafb
import Derived.Test.YtdnhbfmlklaldaaGreatC86a19a23
import Derived.Test.YtdnhbfmlklaldaaGreatC7dcf1055
set_option maxRecDepth 20000
set_option maxHeartbeats 4000000
open List renaming map_take → zA, map_drop → zB, map_set → zC, map_append → zD, drop_one → zE
set_option linter.unusedSimpArgs false
set_option linter.unusedVariables false
namespace Go.Proofs.YtdnhbfmlklaldaaGreat
open Go Go.Am
abbrev B8:=BitVec 8
inductive Pt where
 | one (c:B8)|dot|some|whole
deriving DecidableEq
def Pt.kind:Pt→Int
 | .one _=>0 | .dot=>1 | .some=>2 | .whole=>3
def Pt.long:Pt→Bool
 | .some=>true | .whole=>true|_=>false
def Pt.takes:Pt→B8→Bool
 | .one c,b=>b == c | .whole,_=>true|_,b=>b != 47#8
def bAt (s:List UInt8) (i:Nat):B8:=(s.getD i 0).toBitVec
def row (x:Pt) (s:List UInt8) (prev:Nat→Bool):Nat→Bool
 | 0=>x.long&&prev 0
 | i+1=>if x.long then prev (i+1)||(row x s prev i&&x.takes (bAt s i)) else prev i&&x.takes (bAt s i)
def M (l:List Pt) (s:List UInt8):Nat→Nat→Bool
 | 0=>fun i=>i == 0
 | k+1=>row (l.getD k .dot) s (M l s k)
def noZ (s:List UInt8):Bool:=s.all fun c=>c != 0
def z2fg:List UInt8→List (List UInt8)
 | []=>[[]]
 | c::r=>if c=47 then []::z2fg r else
  match z2fg r with
  | []=>[[c]]
  | h::t=>(c::h)::t
def okC (x:List UInt8):Bool:=x != []&&x != [46]&&x != [46,46]
def zj1f (s:List UInt8):Bool:=decide (1≤s.length)&&decide (s.length≤200)&&noZ s&&(z2fg s).all okC
end Go.Proofs.YtdnhbfmlklaldaaGreat
set_option linter.unusedSimpArgs false
set_option linter.unusedVariables false
namespace Go.Proofs.YtdnhbfmlklaldaaGreat
open Go Go.Am
abbrev Dg:={ a:List B8 // a.length=32 }
def dgC (d:Dg):List DV:=d.1.map w8
def dg0:Dg:=⟨rep 32 0#8,by simp [rep]⟩
theorem z1t1 (d:Dg):(dgC d).length=32:=by simp [dgC,d.2]
theorem z3ot (d:Dg):zbao (dgC d)=true:=zdqb
theorem zib9 {a b:Dg} (h:dgC a=dgC b):a=b:=Subtype.ext (by rw [dgC,dgC,zwcl] at h; exact h)
structure Sl (α:Type) where
 k:Option Bool
 l:List α
 h:k=none→l=[]
 b:l.length≤4294967296
def Sl.dv {α:Type} (x:Sl α) (s:Nat) (f:α→List DV):DV:=slD x.k s x.l.length (x.l.flatMap f)
section
variable {α:Type} {f:α→List DV} {s:Nat} {h:List AObj} {x:Sl α} {n k:Nat}
theorem z707 {b:Bool} {l:List α} {h:some b=none→l=[]} {hb:l.length≤4294967296}:(⟨some b,l,h,hb⟩:Sl α).dv s f = .sl b s l.length (l.flatMap f):=rfl
theorem z5oj {h:none=none→([]:List α)=[]} {hb:([]:List α).length≤4294967296}:(⟨none,[],h,hb⟩:Sl α).dv s f = .nils:=rfl
theorem z1rq (hu : ∀ a,(f a).length=s) : ∀ (l:List α),(l.flatMap f).length=l.length*s
 | []=>by simp
 | a::l=>by rw [List.flatMap_cons,List.length_append,hu,z1rq hu l,List.length_cons,Nat.add_mul]; omega
theorem z10w (hu : ∀ a,(f a).length=s) : ∀ (l:List α) (i:Nat),(l.flatMap f).take (i*s)=(l.take i).flatMap f
 | [],i=>by simp
 | a::l,0=>by simp
 | a::l,i+1=>by
  have ha:=hu a
  rw [List.flatMap_cons,List.take_append,List.take_of_length_le (by rw [ha,Nat.add_mul]; omega),ha,show (i+1)*s-s=i*s from by rw [Nat.add_mul]; omega,z10w hu l,List.take_succ_cons,List.flatMap_cons]
theorem zkb2 (hu : ∀ a,(f a).length=s) : ∀ (l:List α) (i:Nat),(l.flatMap f).drop (i*s)=(l.drop i).flatMap f
 | [],i=>by simp
 | a::l,0=>by simp
 | a::l,i+1=>by
  have ha:=hu a
  rw [List.flatMap_cons,List.drop_append,List.drop_of_length_le (by rw [ha,Nat.add_mul]; omega),ha,show (i+1)*s-s=i*s from by rw [Nat.add_mul]; omega,zkb2 hu l,List.nil_append,List.drop_succ_cons]
theorem zdao (hu : ∀ a,(f a).length=s) {l:List α} {i:Nat} (hi:i<l.length):((l.flatMap f).drop (i*s)).take s=f l[i]:=by
 rw [zkb2 hu,List.drop_eq_getElem_cons hi,List.flatMap_cons,List.take_left' (hu _)]
theorem zg0c : ∀ {a b:List DV},zbao a=true→zbao b=true→zbao (a++b)=true
 | [],_,_,h=>h
 | d::r,b,h1,h2=>by simp only [List.cons_append,zbao,Bool.and_eq_true] at *; exact ⟨h1.1,zg0c h1.2 h2⟩
theorem zp6k (hp : ∀ a,zbao (f a)=true) : ∀ (l:List α),zbao (l.flatMap f)=true
 | []=>rfl
 | a::l=>by rw [List.flatMap_cons]; exact zg0c (hp a) (zp6k hp l)
theorem z47w (hu : ∀ a,(f a).length=s) {l:List α} {i:Nat} (hi:i<l.length) (b:α):zk7y (l.flatMap f) (i*s) (f b)=(l.set i b).flatMap f:=by
 unfold zk7y
 rw [z10w hu,hu b,show i*s+s=(i+1)*s by rw [Nat.add_mul,Nat.one_mul],zkb2 hu,List.set_eq_take_append_cons_drop,if_pos hi]
 simp
theorem zxxb (hp : ∀ a,zbao (f a)=true) (x:Sl α):zyp8 (x.dv s f)=true:=by
 obtain ⟨k,l,h,hb1⟩:=x
 cases k with
 | none=>rfl
 | some b=>show zbao _=true; exact zp6k hp l
theorem z4ja (x:Sl α):(x.dv s f).one=true:=by obtain ⟨k,l,h,hb1⟩:=x; cases k<;>rfl
theorem ztw5 (x:Sl α):(x.dv s f).known=true:=by obtain ⟨k,l,h,hb1⟩:=x; cases k<;>rfl
theorem zs9p (x:Sl α):(x.dv s f).cells=[x.dv s f]:=by obtain ⟨k,l,h,hb1⟩:=x; cases k<;>rfl
theorem zupj:lenD h (x.dv s f)=some (.int .i64 x.l.length):=by
 obtain ⟨k,l,h,hb1⟩:=x
 cases k with
 | none=>cases h rfl; rfl
 | some b=>rfl
theorem zalo (hu : ∀ a,(f a).length=s) {i:Nat} (hi:i<x.l.length):zpsc h s (x.dv s f) i=some (.ref (f x.l[i])):=by
 obtain ⟨k,l,h,hb1⟩:=x
 cases k with
 | none=>cases h rfl; simp at hi
 | some b =>
  simp only [Sl.dv,zip4]
  rw [zsu0 (by omega) (by simp only at hi; omega),Int.toNat_natCast,zdao hu hi]
theorem zllv (hu : ∀ a,(f a).length=s):visS h (x.dv s f)=some (x.l.length,x.l.flatMap f):=zplv (fun e=>by simp [x.h e]) (z1rq hu _)
theorem zwaa (hu : ∀ a,(f a).length=s):visY h (x.dv s f)=some (x.l.length,x.l.flatMap f):=by
 rw [← zllv (h:=h) hu]
 obtain ⟨k,l,h,hb1⟩:=x; cases k<;>rfl
def Sl.part (x:Sl α) (i j:Nat) (b:Bool):Sl α:=⟨x.k.map fun c=>c&&b,(x.l.drop i).take (j-i),fun e=>by simp at e; simp [x.h e],by have:=x.b; simp; omega⟩
theorem z0ke (hu : ∀ a,(f a).length=s) {lo hi:Option DV} {i j:Nat} (hb:zo77 x.l.length lo hi=some (i,j)) (hij:j≤x.l.length):ziwb h s (x.dv s f) lo hi none=some ((x.part i j (j == x.l.length)).dv s f):=by
 obtain ⟨k,l,h,hb1⟩:=x
 cases k with
 | none=>cases h rfl; simp at hb hij; simp only [Sl.dv,z6vl,Sl.part,Option.map_none]; rw [zmk5 hb]
 | some b =>
  simp only at hb hij
  simp only [Sl.dv,zip4,Sl.part,Option.map_some]
  rw [zygc hb,zkb2 hu,z10w hu]
  simp only [List.length_take,List.length_drop]
  congr 2
  omega
theorem z2x3:zrfk h (x.dv s f)=some (0,x.k.isNone):=by obtain ⟨k,l,h,hb1⟩:=x; cases k<;>rfl
end
structure Grp where
 ns:List UInt8
 im:List UInt8
 want:Int
 least:Int
 down:Int
 ch:Sl Dg
def grC (g:Grp):List DV:=[.str g.ns,.str g.im,.int .i64 g.want,.int .i64 g.least,.int .i64 g.down,g.ch.dv 32 dgC]
structure Ins where
 id:Int
 grp:Int
 art:Dg
 state:Int
 since:Int
 den:Int
 deriving DecidableEq
def inC (x:Ins):List DV := .int .i64 x.id :: .int .i64 x.grp::(dgC x.art++[.int .i64 x.state,.int .i64 x.since,.int .i64 x.den])
structure Clu where
 g:Sl Grp
 i:Sl Ins
 next:Int
def clC (c:Clu):List DV:=[c.g.dv 6 grC,c.i.dv 37 inC,.int .i64 c.next]
theorem zry4 (g:Grp):(grC g).length=6:=by simp [grC]
theorem z6gw (x:Ins):(inC x).length=37:=by simp [inC,z1t1]
theorem zlha (c:Clu):(clC c).length=3:=by simp [clC]
theorem zpfc (x:Sl Dg):zyp8 (x.dv 32 dgC)=true:=zxxb z3ot x
theorem zxeb (g:Grp):zbao (grC g)=true:=by simp [grC,zbao,zyp8,zpfc]
theorem z9kv (x:Ins):zbao (inC x)=true:=by
 simp only [inC,zbao,zyp8,Bool.true_and]
 exact zg0c (z3ot _) (by simp [zbao,zyp8])
theorem z1vd (x:Sl Grp):zyp8 (x.dv 6 grC)=true:=zxxb zxeb x
theorem zcha (x:Sl Ins):zyp8 (x.dv 37 inC)=true:=zxxb z9kv x
theorem zy11 (c:Clu):zbao (clC c)=true:=by simp [clC,zbao,zyp8,z1vd,zcha]
theorem zrji (x:Ins):(inC x).drop 2=dgC x.art++[.int .i64 x.state,.int .i64 x.since,.int .i64 x.den]:=rfl
theorem zlh1 (x:Ins):(inC x).drop 34=[.int .i64 x.state,.int .i64 x.since,.int .i64 x.den]:=by
 rw [show (34:Nat)=2+32 from rfl,← List.drop_drop,zrji,List.drop_left' (z1t1 _)]
theorem z3vc (x:Ins):(inC x).drop 35=[.int .i64 x.since,.int .i64 x.den]:=by
 rw [show (35:Nat)=34+1 from rfl,← List.drop_drop,zlh1]; rfl
theorem zlte (x:Ins):(inC x).drop 36=[.int .i64 x.den]:=by
 rw [show (36:Nat)=34+2 from rfl,← List.drop_drop,zlh1]; rfl
section
variable {x:Ins} {g:Grp} {c:Clu} {d:Dg} {r:List DV}
theorem zgz3:oneC 1 false (inC x)=some (.int .i64 x.id):=rfl
theorem zyv0:oneC 1 false ((inC x).drop 1)=some (.int .i64 x.grp):=rfl
theorem zm6n:oneC 32 true ((inC x).drop 2)=some (.agg (dgC x.art)):=by
 rw [zrji]; simp only [oneC,if_true]; rw [if_pos (by simp [z1t1]),List.take_left' (z1t1 _)]
theorem zvh3:oneC 1 false ((inC x).drop 34)=some (.int .i64 x.state):=by rw [zlh1]; rfl
theorem zmwz:oneC 1 false ((inC x).drop 35)=some (.int .i64 x.since):=by rw [z3vc]; rfl
theorem z0hu:oneC 1 false ((inC x).drop 36)=some (.int .i64 x.den):=by rw [zlte]; rfl
theorem zisq:oneC 37 true (inC x)=some (.agg (inC x)):=by simp [oneC,z6gw,List.take_of_length_le]
theorem zuce:oneC 6 true (grC g)=some (.agg (grC g)):=rfl
theorem zn7v:oneC 1 false (grC g)=some (.str g.ns):=rfl
theorem zuiq:oneC 1 false ((grC g).drop 1)=some (.str g.im):=rfl
theorem zhlv:oneC 1 false ((grC g).drop 2)=some (.int .i64 g.want):=rfl
theorem z9em:oneC 1 false ((grC g).drop 3)=some (.int .i64 g.least):=rfl
theorem z8ho:oneC 1 false ((grC g).drop 4)=some (.int .i64 g.down):=rfl
theorem zmm6:oneC 1 false ((grC g).drop 5)=some (g.ch.dv 32 dgC):=rfl
theorem zei9:oneC 3 true (clC c)=some (.agg (clC c)):=rfl
theorem zhtb:oneC 1 false (clC c)=some (c.g.dv 6 grC):=rfl
theorem zxyh:oneC 1 false ((clC c).drop 1)=some (c.i.dv 37 inC):=rfl
theorem zmuj:oneC 1 false ((clC c).drop 2)=some (.int .i64 c.next):=rfl
theorem zwwo:oneC 32 true (dgC d)=some (.agg (dgC d)):=by simp [oneC,z1t1,List.take_of_length_le]
theorem zkf8 {off n:Nat} {a:Bool} (hl:off+n≤37):zhj0 off n a (.agg (inC x))=oneC n a ((inC x).drop off):=by simp [zhj0,z6gw,hl]
theorem z28g {off n:Nat} {a:Bool} (hl:off+n≤6):zhj0 off n a (.agg (grC g))=oneC n a ((grC g).drop off):=by simp [zhj0,zry4,hl]
theorem z715 {off n:Nat} {a:Bool} (hl:off+n≤3):zhj0 off n a (.agg (clC c))=oneC n a ((clC c).drop off):=by simp [zhj0,zlha,hl]
end
attribute [simp] z1t1 zry4 z6gw zlha zupj z2x3 z4ja ztw5 zs9p zgz3 zyv0 zm6n zvh3 zmwz z0hu zisq zuce zn7v zuiq zhlv z9em z8ho zmm6 zei9 zhtb zxyh zmuj zwwo zkf8 z28g z715 z3ot zxeb z9kv zy11 zpfc z1vd zcha
theorem zid2 : ∀ {ks1 ks2:List Nat} {a1 a2 b1 b2:List DV},a1.length=ks1.length→b1.length=ks1.length→z32s (ks1++ks2) (a1++a2) (b1++b2)=(z32s ks1 a1 b1).bind fun p=>(z32s ks2 a2 b2).map fun q=>p&&q
 | [],ks2,[],a2,[],b2,_,_=>by simp [z32s]
 | k::ks1,ks2,x::a1,a2,y::b1,b2,h1,h2=>by
  simp only [List.cons_append,z32s,zid2 (ks1:=ks1) (a1:=a1) (b1:=b1) (by simpa using h1) (by simpa using h2)]
  cases znnj k x y<;>simp only [Option.bind_none,Option.bind_some]
  cases z32s ks1 a1 b1<;>simp only [Option.bind_none,Option.bind_some,Option.map_none,Option.map_some]
  cases z32s ks2 a2 b2<;>simp only [Option.map_none,Option.map_some,Bool.and_assoc]
theorem zyiz {a b:Dg}:z32s (zi5g [(32,0)]) (dgC a) (dgC b)=some (decide (a=b)):=by
 rw [dgC,dgC,zgre a.2 b.2]
 simp only [Subtype.ext_iff]
theorem zbik {a b c a' b' c':Int}:z32s [0,0,0] [.int .i64 a,.int .i64 b,.int .i64 c] [.int .i64 a',.int .i64 b',.int .i64 c']=some (decide (a=a'∧b=b'∧c=c')):=by
 simp [z32s,znnj]; rfl
theorem z540 {a b a' b':Int}:z32s [0,0] [.int .i64 a,.int .i64 b] [.int .i64 a',.int .i64 b']=some (decide (a=a'∧b=b')):=by
 simp [z32s,znnj]; rfl
theorem zmar {x y:Ins}:z32s (zi5g [(37,0)]) (inC x) (inC y)=some (decide (x=y)):=by
 have e:zi5g [(37,0)]=[0,0]++(zi5g [(32,0)]++[0,0,0]):=by decide
 have e1 : ∀ x:Ins,inC x=[.int .i64 x.id,.int .i64 x.grp]++(dgC x.art++[.int .i64 x.state,.int .i64 x.since,.int .i64 x.den]):=fun _=>rfl
 rw [e,e1,e1,zid2 rfl rfl,zid2 (by simp [z1t1,zi5g]) (by simp [z1t1,zi5g]),zyiz,z540,zbik]
 obtain ⟨a,b,c,d,e,f⟩:=x
 obtain ⟨a',b',c',d',e',f'⟩:=y
 simp only [Option.bind_some,Option.map_some,Ins.mk.injEq,Option.some.injEq,Bool.decide_and,Bool.and_assoc]
theorem zii6:List.map w8 (rep 32 0#8)=dgC dg0:=rfl
attribute [simp] zyiz zmar zii6
def ixI {α:Type} (p:α→Bool):List α→Int
 | [] => -1
 | a::l=>if p a=true then 0 else if ixI p l<0 then -1 else ixI p l+1
theorem zkgb {α:Type} (p:α→Bool) : ∀ l:List α,-1≤ixI p l
 | []=>by simp [ixI]
 | a::l=>by have:=zkgb p l; simp only [ixI]; split<;>(try split)<;>omega
theorem zy9u {α:Type} {p:α→Bool} : ∀ {l:List α} {i:Nat} (hi:i<l.length),p l[i]=true→(∀ j (hj:j<l.length),j<i→p l[j]=false)→ixI p l=i
 | a::l,0,hi,h1,h2=>by simp at h1; simp [ixI,h1]
 | a::l,i+1,hi,h1,h2=>by
  have h0:p a=false:=h2 0 (by simp) (by omega)
  have ih:=zy9u (p:=p) (l:=l) (i:=i) (by simpa using hi) (by simpa using h1) (fun j hj hji=>h2 (j+1) (by simpa using hj) (by omega))
  simp only [ixI,h0,Bool.false_eq_true,if_false,ih]
  rw [if_neg (by omega)]; omega
theorem zfki {α:Type} {p:α→Bool} : ∀ {l:List α},(∀ j (hj:j<l.length),p l[j]=false)→ixI p l = -1
 | [],_=>rfl
 | a::l,h=>by
  have h0:p a=false:=h 0 (by simp)
  have ih:=zfki (p:=p) (l:=l) (fun j hj=>h (j+1) (by simpa using hj))
  simp [ixI,h0,ih]
theorem z378 {α:Type} {p:α→Bool} : ∀ {l:List α},ixI p l<0 → ∀ j (hj:j<l.length),p l[j]=false
 | [],_,j,hj=>by simp at hj
 | a::l,h,j,hj=>by
  simp only [ixI] at h
  split at h
  ·omega
  ·rename_i h0
   split at h
   ·rename_i h1
    cases j with
    | zero=>simpa using h0
    | succ j=>simpa using z378 h1 j (by simpa using hj)
   ·omega
theorem zgr5 {α:Type} {p:α→Bool} : ∀ {l:List α},0≤ixI p l → ∃ (i:Nat) (hi:i<l.length),ixI p l=i∧p l[i]=true ∧ ∀ j (hj:j<l.length),j<i→p l[j]=false
 | [],h=>by simp [ixI] at h
 | a::l,h=>by
  by_cases h0:p a=true
  ·exact ⟨0,by simp,by simp [ixI,h0],by simpa using h0,fun j _ hj=>by omega⟩
  ·have hh:=h
   simp only [ixI] at hh
   rw [if_neg h0] at hh
   split at hh
   ·omega
   ·rename_i h1
    obtain ⟨i,hi,e1,e2,e3⟩:=zgr5 (p:=p) (l:=l) (by omega)
    refine ⟨i+1,by simpa using hi,?_,by simpa using e2,fun j hj hji => ?_⟩
    ·simp only [ixI,h0,if_false,if_neg h1,e1,Bool.false_eq_true]; omega
    ·cases j with
     | zero=>simpa using h0
     | succ j=>simpa using e3 j (by simpa using hj) (by omega)
end Go.Proofs.YtdnhbfmlklaldaaGreat
set_option linter.unusedSimpArgs false
set_option linter.unusedVariables false
namespace Go.Proofs.YtdnhbfmlklaldaaGreat
open Go Go.Am
def okCh (l:List Dg):Prop := ∀ i (h:i<l.length),l[i]≠dg0∧l[i] ∉ l.take i
structure ValidG (g:Grp):Prop where
 ns:zj1f g.ns=true
 im:zj1f g.im=true
 w0:0≤g.want
 w1:g.want≤8
 l0:0≤g.least
 l1:g.least≤g.want
 d0:0≤g.down
 d1:g.down≤g.want
 n:g.ch.l.length≤6
 ch:okCh g.ch.l
def fitG (ns im:List UInt8) (g:Grp):Bool:=decide (g.ns=ns)&&decide (g.im=im)
def z9w0 (l:List Grp) (ns im:List UInt8):Int:=ixI (fitG ns im) l
abbrev zcie (t:Int):Prop:=0≤t∧t≤1099511627776
structure SoundI (n:Nat) (next:Int) (x:Ins):Prop where
 id0:1≤x.id
 id1:x.id<next
 g0:0≤x.grp
 g1:x.grp<n
 art:x.art≠dg0
 s0:1≤x.state
 s1:x.state≤3
 si:zcie x.since
 de:x.den = -1∨zcie x.den
structure ValidC (c:Clu):Prop where
 ng:c.g.l.length≤16
 ni:c.i.l.length≤200
 n0:1≤c.next
 n1:c.next≤1099511627776
 g : ∀ i (h:i<c.g.l.length),ValidG c.g.l[i]∧z9w0 c.g.l c.g.l[i].ns c.g.l[i].im=i
 i : ∀ i (h:i<c.i.l.length),SoundI c.g.l.length c.next c.i.l[i]∧(∀ h0:0<i,c.i.l[i-1].id<c.i.l[i].id)
def Sl.clone {α:Type} (x:Sl α):Sl α:=⟨if x.l=[] then x.k.map fun _=>true else some false,x.l,fun e=>by
 by_cases h:x.l=[]
 ·exact h
 ·simp [h] at e,x.b⟩
def own {α:Type} (l:List α):Sl α:=if h:l.length≤4294967296 then ⟨some false,l,by simp,h⟩ else ⟨none,[],fun _=>rfl,by simp⟩
theorem z3e9 {α:Type} {l:List α} (h:l.length≤4294967296):(own l).l=l:=by rw [own,dif_pos h]
theorem zqrs {α:Type} {l:List α} {s:Nat} {f:α→List DV} (h:l.length≤4294967296):(own l).dv s f = .sl false s l.length (l.flatMap f):=by rw [own,dif_pos h]; rfl
def Grp.clone (g:Grp):Grp:={ g with ch:=g.ch.clone }
def Clu.clone (c:Clu):Clu:=⟨⟨c.g.clone.k,c.g.l.map Grp.clone,fun e=>by simp [show c.g.l=[] from c.g.clone.h e],by have:=c.g.b; simpa using this⟩,c.i.clone,c.next⟩
def gl (g:Grp):List UInt8 × List UInt8 × Int × Int × Int × List Dg:=(g.ns,g.im,g.want,g.least,g.down,g.ch.l)
structure SameC (a b:Clu):Prop where
 g:a.g.l.map gl=b.g.l.map gl
 i:a.i.l=b.i.l
 n:a.next=b.next
theorem SameC.refl (a:Clu):SameC a a:=⟨rfl,rfl,rfl⟩
def Ins.st (x:Ins) (v:Int):Ins:=⟨x.id,x.grp,x.art,v,x.since,x.den⟩
def Ins.si (x:Ins) (v:Int):Ins:=⟨x.id,x.grp,x.art,x.state,v,x.den⟩
def Ins.de (x:Ins) (v:Int):Ins:=⟨x.id,x.grp,x.art,x.state,x.since,v⟩
end Go.Proofs.YtdnhbfmlklaldaaGreat
set_option linter.unusedSimpArgs false
set_option linter.unusedVariables false
namespace Go.Proofs.YtdnhbfmlklaldaaGreat
open Go Go.Am
noncomputable abbrev P:Program:=Tryz.prog
theorem mix:P.follows .mixedOrders=true:=by kernel_rfl
def a63:AFn where
 code:=(.seq (.region false [⟨none,(some 2),.mov (.k (.bool false))⟩])
 (.seq (.region false [⟨none,(some 3),.mov (.t 0)⟩,
  ⟨none,(some 4),.mov (.t 0)⟩,
  ⟨none,(some 5),.bin .neq (.t 3) (.t 4)⟩,
  ⟨none,(some 2),.mov (.t 5)⟩])
 .ret))
 ntmps:=6
 res:=[.tmp 2]
theorem z2tu:zsjc P Tryz.f63=some a63:=by kernel_rfl
def z321:ACode :=
 (.seq (.seq (.region false [⟨none,(some 29),.mov (.t 5)⟩,
  ⟨none,(some 30),.mov (.t 4)⟩,
  ⟨none,(some 31),.len (.t 30)⟩,
  ⟨none,(some 32),.bin .lss (.t 29) (.t 31)⟩])
 (.cond (.t 32) .skip
 (.exit 2)))
 (.seq (.block 3 (.seq (.region true [⟨none,(some 35),.mov (.t 4)⟩,
  ⟨none,(some 36),.mov (.t 5)⟩,
  ⟨none,(some 37),.idxS 1 (.t 35) (.t 36)⟩,
  ⟨none,(some 38),.load 1 false (.t 37)⟩,
  ⟨none,(some 39),.mov (.t 4)⟩,
  ⟨none,(some 40),.mov (.t 5)⟩,
  ⟨none,(some 41),.bin .sub (.t 40) (.k (.int .i64 1))⟩,
  ⟨none,(some 42),.idxS 1 (.t 39) (.t 41)⟩,
  ⟨none,(some 43),.load 1 false (.t 42)⟩,
  ⟨none,(some 44),.bin .neq (.t 38) (.t 43)⟩])
 (.cond (.t 44) (.seq (.region false [⟨none,(some 45),.mov (.t 0)⟩,
  ⟨none,(some 46),.mov (.t 3)⟩,
  ⟨none,(some 47),.mov (.t 4)⟩,
  ⟨none,(some 48),.mov (.t 5)⟩,
  ⟨none,(some 49),.idxS 1 (.t 47) (.t 48)⟩,
  ⟨none,(some 50),.load 1 false (.t 49)⟩,
  ⟨none,(some 51),.idxS 1 (.t 45) (.t 46)⟩,
  ⟨none,none,.store 1 (.t 51) (.t 50)⟩])
 (.region false [⟨none,(some 52),.mov (.t 3)⟩,
  ⟨none,(some 53),.bin .add (.t 52) (.k (.int .i64 1))⟩,
  ⟨none,(some 3),.mov (.t 53)⟩]))
 .skip)))
 (.region false [⟨none,(some 33),.mov (.t 5)⟩,
  ⟨none,(some 34),.bin .add (.t 33) (.k (.int .i64 1))⟩,
  ⟨none,(some 5),.mov (.t 34)⟩])))
def z0wp (x0 x3 x4 x5:DV) (h:List AObj):St:=⟨[x0,.junk,.junk,x3,x4,x5]++js 55,h⟩
def zr1f:ACode :=
 (.seq (.seq (.region false [⟨none,(some 10),.mov (.t 3)⟩,
  ⟨none,(some 11),.mov (.t 0)⟩,
  ⟨none,(some 12),.len (.t 11)⟩,
  ⟨none,(some 13),.bin .lss (.t 10) (.t 12)⟩])
 (.cond (.t 13) .skip
 (.exit 0)))
 (.seq (.block 1 (.seq (.region true [⟨none,(some 16),.mov (.t 0)⟩,
  ⟨none,(some 17),.mov (.t 3)⟩,
  ⟨none,(some 18),.idxS 1 (.t 16) (.t 17)⟩,
  ⟨none,(some 19),.load 1 false (.t 18)⟩,
  ⟨none,(some 20),.mov (.t 0)⟩,
  ⟨none,(some 21),.mov (.t 3)⟩,
  ⟨none,(some 22),.bin .sub (.t 21) (.k (.int .i64 1))⟩,
  ⟨none,(some 23),.idxS 1 (.t 20) (.t 22)⟩,
  ⟨none,(some 24),.load 1 false (.t 23)⟩,
  ⟨none,(some 25),.bin .eql (.t 19) (.t 24)⟩])
 (.cond (.t 25) (.seq (.region false [⟨none,(some 26),.mov (.t 0)⟩,
  ⟨none,(some 27),.mov (.t 3)⟩,
  ⟨none,(some 28),.slcS 1 (.t 26) (some (.t 27)) none none⟩,
  ⟨none,(some 4),.mov (.t 28)⟩])
 (.seq (.seq (.region false [⟨none,(some 5),.mov (.k (.int .i64 1))⟩])
 (.block 2 (.loop z321)))
 (.seq (.region false [⟨none,(some 54),.mov (.t 0)⟩,
  ⟨none,(some 55),.mov (.t 3)⟩,
  ⟨none,(some 56),.slcS 1 (.t 54) (some (.t 55)) none none⟩,
  ⟨none,none,.clr 1 [(.str [])] (.t 56)⟩])
 (.seq (.region false [⟨none,(some 57),.mov (.t 0)⟩,
  ⟨none,(some 58),.mov (.t 3)⟩,
  ⟨none,(some 59),.slcS 1 (.t 57) none (some (.t 58)) none⟩,
  ⟨none,(some 2),.mov (.t 59)⟩])
 .ret))))
 .skip)))
 (.region false [⟨none,(some 14),.mov (.t 3)⟩,
  ⟨none,(some 15),.bin .add (.t 14) (.k (.int .i64 1))⟩,
  ⟨none,(some 3),.mov (.t 15)⟩])))
def z8io (x0 x3:DV) (h:List AObj):St:=⟨[x0,.junk,.junk,x3]++js 57,h⟩
def a126:AFn where
 code:=(.seq (.region false [⟨none,(some 2),.mov (.k .nils)⟩])
 (.seq (.seq (.region false [⟨none,(some 6),.mov (.t 0)⟩,
  ⟨none,(some 7),.len (.t 6)⟩,
  ⟨none,(some 8),.bin .lss (.t 7) (.k (.int .i64 2))⟩])
 (.cond (.t 8) (.seq (.region false [⟨none,(some 9),.mov (.t 0)⟩,
  ⟨none,(some 2),.mov (.t 9)⟩])
 .ret)
 .skip))
 (.seq (.seq (.region false [⟨none,(some 3),.mov (.k (.int .i64 1))⟩])
 (.block 0 (.loop zr1f)))
 (.seq (.region false [⟨none,(some 60),.mov (.t 0)⟩,
  ⟨none,(some 2),.mov (.t 60)⟩])
 .ret))))
 ntmps:=61
 res:=[.tmp 2]
theorem zq5w:zsjc P Tryz.f126=some a126:=by kernel_rfl
def zij2:ACode :=
 (.seq (.region false [⟨none,(some 9),.bin .lss (.t 8) (.t 7)⟩])
 (.seq (.cond (.t 9) .skip
 (.exit 0))
 (.seq (.block 1 (.seq (.region false [⟨none,(some 10),.mov (.t 8)⟩,
  ⟨none,(some 5),.mov (.t 10)⟩])
 (.seq (.region false [⟨none,(some 11),.mov (.t 1)⟩,
  ⟨none,(some 12),.mov (.t 0)⟩,
  ⟨none,(some 13),.mov (.t 5)⟩,
  ⟨none,(some 14),.idxS 1 (.t 12) (.t 13)⟩,
  ⟨none,(some 15),.load 1 false (.t 14)⟩,
  ⟨none,(some 16),.call (.t 11) [(.t 15)]⟩])
 (.cond (.t 16) (.seq (.region false [⟨none,(some 17),.mov (.t 5)⟩,
  ⟨none,(some 4),.mov (.t 17)⟩])
 .ret)
 .skip))))
 (.region false [⟨none,(some 18),.bin .add (.t 8) (.k (.int .i64 1))⟩,
  ⟨none,(some 8),.mov (.t 18)⟩]))))
def znr8 (x0 x1 x7 x8:DV) (h:List AObj):St:=⟨[x0,x1]++js 5++[x7,x8]++js 10,h⟩
def a141:AFn where
 code:=(.seq (.region false [⟨none,(some 4),.mov (.k (.int .i64 0))⟩])
 (.seq (.seq (.region false [⟨none,(some 6),.mov (.t 0)⟩,
  ⟨none,(some 7),.len (.t 6)⟩,
  ⟨none,(some 8),.mov (.k (.int .i64 0))⟩])
 (.block 0 (.loop zij2)))
 (.seq (.region false [⟨none,(some 4),.mov (.k (.int .i64 (-1)))⟩])
 .ret)))
 ntmps:=19
 res:=[.tmp 4]
theorem zjg6:zsjc P Tryz.f141=some a141:=by kernel_rfl
def zl9a:ACode :=
 (.seq (.seq (.region false [⟨none,(some 16),.mov (.t 6)⟩,
  ⟨none,(some 17),.mov (.t 0)⟩,
  ⟨none,(some 18),.len (.t 17)⟩,
  ⟨none,(some 19),.bin .lss (.t 16) (.t 18)⟩])
 (.cond (.t 19) .skip
 (.exit 0)))
 (.seq (.block 1 (.seq (.region false [⟨none,(some 22),.mov (.t 0)⟩,
  ⟨none,(some 23),.mov (.t 6)⟩,
  ⟨none,(some 24),.idxS 1 (.t 22) (.t 23)⟩,
  ⟨none,(some 25),.load 1 false (.t 24)⟩,
  ⟨none,(some 7),.mov (.t 25)⟩])
 (.seq (.region false [⟨none,(some 26),.mov (.t 1)⟩,
  ⟨none,(some 27),.mov (.t 7)⟩,
  ⟨none,(some 28),.call (.t 26) [(.t 27)]⟩,
  ⟨none,(some 29),.un .not (.t 28)⟩])
 (.cond (.t 29) (.seq (.region false [⟨none,(some 30),.mov (.t 0)⟩,
  ⟨none,(some 31),.mov (.t 5)⟩,
  ⟨none,(some 32),.mov (.t 7)⟩,
  ⟨none,(some 33),.idxS 1 (.t 30) (.t 31)⟩,
  ⟨none,none,.store 1 (.t 33) (.t 32)⟩])
 (.region false [⟨none,(some 34),.mov (.t 5)⟩,
  ⟨none,(some 35),.bin .add (.t 34) (.k (.int .i64 1))⟩,
  ⟨none,(some 5),.mov (.t 35)⟩]))
 .skip))))
 (.region false [⟨none,(some 20),.mov (.t 6)⟩,
  ⟨none,(some 21),.bin .add (.t 20) (.k (.int .i64 1))⟩,
  ⟨none,(some 6),.mov (.t 21)⟩])))
def zave (x0 x1 x5 x6:DV) (h:List AObj):St:=⟨[x0,x1,.junk,.junk,.junk,x5,x6]++js 35,h⟩
def a129:AFn where
 code:=(.seq (.region false [⟨none,(some 4),.mov (.k .nils)⟩])
 (.seq (.region false [⟨none,(some 8),.mov (.t 0)⟩,
  ⟨none,(some 9),.mov (.t 1)⟩,
  ⟨none,(some 10),.call (.k (.fn (.func 141) [] [])) [(.t 8),(.t 9)]⟩,
  ⟨none,(some 5),.mov (.t 10)⟩])
 (.seq (.seq (.region false [⟨none,(some 11),.mov (.t 5)⟩,
  ⟨none,(some 12),.bin .eql (.t 11) (.k (.int .i64 (-1)))⟩])
 (.cond (.t 12) (.seq (.region false [⟨none,(some 13),.mov (.t 0)⟩,
  ⟨none,(some 4),.mov (.t 13)⟩])
 .ret)
 .skip))
 (.seq (.seq (.region false [⟨none,(some 14),.mov (.t 5)⟩,
  ⟨none,(some 15),.bin .add (.t 14) (.k (.int .i64 1))⟩,
  ⟨none,(some 6),.mov (.t 15)⟩])
 (.block 0 (.loop zl9a)))
 (.seq (.region false [⟨none,(some 36),.mov (.t 0)⟩,
  ⟨none,(some 37),.mov (.t 5)⟩,
  ⟨none,(some 38),.slcS 1 (.t 36) (some (.t 37)) none none⟩,
  ⟨none,none,.clr 1 [(.str [])] (.t 38)⟩])
 (.seq (.region false [⟨none,(some 39),.mov (.t 0)⟩,
  ⟨none,(some 40),.mov (.t 5)⟩,
  ⟨none,(some 41),.slcS 1 (.t 39) none (some (.t 40)) none⟩,
  ⟨none,(some 4),.mov (.t 41)⟩])
 .ret))))))
 ntmps:=42
 res:=[.tmp 4]
theorem z1y5:zsjc P Tryz.f129=some a129:=by kernel_rfl
def z3nb:ACode :=
 (.seq (.region false [⟨none,(some 9),.bin .lss (.t 8) (.t 7)⟩])
 (.seq (.cond (.t 9) .skip
 (.exit 0))
 (.seq (.block 1 (.seq (.region false [⟨none,(some 10),.mov (.t 8)⟩,
  ⟨none,(some 5),.mov (.t 10)⟩])
 (.seq (.region false [⟨none,(some 11),.mov (.t 1)⟩,
  ⟨none,(some 12),.mov (.t 0)⟩,
  ⟨none,(some 13),.mov (.t 5)⟩,
  ⟨none,(some 14),.idxS 1 (.t 12) (.t 13)⟩,
  ⟨none,(some 15),.load 1 false (.t 14)⟩,
  ⟨none,(some 16),.bin .eql (.t 11) (.t 15)⟩])
 (.cond (.t 16) (.seq (.region false [⟨none,(some 17),.mov (.t 5)⟩,
  ⟨none,(some 4),.mov (.t 17)⟩])
 .ret)
 .skip))))
 (.region false [⟨none,(some 18),.bin .add (.t 8) (.k (.int .i64 1))⟩,
  ⟨none,(some 8),.mov (.t 18)⟩]))))
def zzbm (x0 x1 x7 x8:DV) (h:List AObj):St:=⟨[x0,x1]++js 5++[x7,x8]++js 10,h⟩
def a142:AFn where
 code:=(.seq (.region false [⟨none,(some 4),.mov (.k (.int .i64 0))⟩])
 (.seq (.seq (.region false [⟨none,(some 6),.mov (.t 0)⟩,
  ⟨none,(some 7),.len (.t 6)⟩,
  ⟨none,(some 8),.mov (.k (.int .i64 0))⟩])
 (.block 0 (.loop z3nb)))
 (.seq (.region false [⟨none,(some 4),.mov (.k (.int .i64 (-1)))⟩])
 .ret)))
 ntmps:=19
 res:=[.tmp 4]
theorem ztmv:zsjc P Tryz.f142=some a142:=by kernel_rfl
def a131:AFn where
 code:=(.seq (.region false [⟨none,(some 4),.mov (.k (.bool false))⟩])
 (.seq (.region false [⟨none,(some 5),.mov (.t 0)⟩,
  ⟨none,(some 6),.mov (.t 1)⟩,
  ⟨none,(some 7),.call (.k (.fn (.func 142) [] [])) [(.t 5),(.t 6)]⟩,
  ⟨none,(some 8),.bin .geq (.t 7) (.k (.int .i64 0))⟩,
  ⟨none,(some 4),.mov (.t 8)⟩])
 .ret))
 ntmps:=9
 res:=[.tmp 4]
theorem zsra:zsjc P Tryz.f131=some a131:=by kernel_rfl
end Go.Proofs.YtdnhbfmlklaldaaGreat
set_option linter.unusedSimpArgs false
set_option linter.unusedVariables false
namespace Go.Proofs.YtdnhbfmlklaldaaGreat
open Go Go.Am
def a16:AFn where
 code:=(.seq (.region false [⟨none,(some 4),.mov (.k (.int .i64 0))⟩])
 (.seq (.region false [⟨none,(some 5),.mov (.t 0)⟩,
  ⟨none,(some 6),.mov (.t 1)⟩,
  ⟨none,(some 7),.bin .rem (.t 5) (.t 6)⟩,
  ⟨none,(some 8),.mov (.t 1)⟩,
  ⟨none,(some 9),.bin .add (.t 7) (.t 8)⟩,
  ⟨none,(some 10),.mov (.t 1)⟩,
  ⟨none,(some 11),.bin .rem (.t 9) (.t 10)⟩,
  ⟨none,(some 4),.mov (.t 11)⟩])
 .ret))
 ntmps:=12
 res:=[.tmp 4]
theorem zddi:zsjc P Tryz.f16=some a16:=by kernel_rfl
end Go.Proofs.YtdnhbfmlklaldaaGreat
set_option linter.unusedSimpArgs false
set_option linter.unusedVariables false
namespace Go.Proofs.YtdnhbfmlklaldaaGreat
open Go Go.Am
section
variable {α β:Type} {lt:α→α→Bool}
def insR (lt:α→α→Bool) (x:α) (l:List α):List α:=(l.reverse.dropWhile (lt x)).reverse++x::(l.reverse.takeWhile (lt x)).reverse
def zxu4 (lt:α→α→Bool) (l:List α):List α:=l.foldl (fun a x=>insR lt x a) []
theorem zcx2 {x:α} {l:List α}:(insR lt x l).Perm (x::l):=by
 unfold insR
 refine List.perm_middle.trans (List.Perm.cons x ?_)
 rw [← List.reverse_append,List.takeWhile_append_dropWhile]
 simp
theorem zuk7 {l:List α} {x:α}:zxu4 lt (l++[x])=insR lt x (zxu4 lt l):=by simp [zxu4]
theorem z77f {P:List α→Prop} (h0:P []) (h1 : ∀ l x,P l→P (l++[x])) : ∀ l,P l:=by
 intro l
 rw [← List.reverse_reverse l]
 induction l.reverse with
 | nil=>exact h0
 | cons a r ih=>rw [List.reverse_cons]; exact h1 _ _ ih
theorem zo43 (l:List α):(zxu4 lt l).Perm l:=by
 induction l using z77f with
 | h0=>exact List.Perm.refl _
 | h1 l x ih =>
  rw [zuk7]
  refine zcx2.trans ((List.Perm.cons x ih).trans ?_)
  exact (List.perm_append_comm (l₁:=[x]) (l₂:=l))
theorem zwbv {p:α→Bool} : ∀ {l:List α},l.dropWhile p=[] ∨ ∃ y r,l.dropWhile p=y::r∧p y=false
 | [] => .inl rfl
 | a::l=>by
  rw [List.dropWhile_cons]
  cases h:p a with
  | true=>exact zwbv
  | false=>exact .inr ⟨a,l,rfl,h⟩
theorem zeqt {p:α→Bool} : ∀ {l:List α},∀ b ∈ l.takeWhile p,p b=true
 | [],b,h=>by simp at h
 | a::l,b,h=>by
  rw [List.takeWhile_cons] at h
  cases ha:p a with
  | true =>
   rw [ha,if_pos rfl] at h
   rcases List.mem_cons.1 h with rfl|h
   ·exact ha
   ·exact zeqt b h
  | false=>rw [ha] at h; simp at h
end
structure GoodI (l:List Ins):Prop where
 s : ∀ x ∈ l,1≤x.state∧x.state≤3 ∧ -1≤x.den
 d:l.Pairwise (fun x y=>x.id<y.id)
end Go.Proofs.YtdnhbfmlklaldaaGreat
set_option linter.unusedSimpArgs false
set_option linter.unusedVariables false
namespace Go.Proofs.YtdnhbfmlklaldaaGreat
open Go Go.Am
def zlq3:ACode :=
 (.seq (.region false [⟨none,(some 11),.bin .lss (.t 10) (.t 9)⟩])
 (.seq (.cond (.t 11) .skip
 (.exit 0))
 (.seq (.block 1 (.seq (.region false [⟨none,(some 12),.idxS 39 (.t 8) (.t 10)⟩,
  ⟨none,(some 13),.load 39 true (.t 12)⟩,
  ⟨none,(some 7),.alloc [(w8 0#8),(w8 0#8),(w8 0#8),(w8 0#8),(w8 0#8),(w8 0#8),(w8 0#8),(w8 0#8),(w8 0#8),(w8 0#8),(w8 0#8),(w8 0#8),(w8 0#8),(w8 0#8),(w8 0#8),(w8 0#8),(w8 0#8),(w8 0#8),(w8 0#8),(w8 0#8),(w8 0#8),(w8 0#8),(w8 0#8),(w8 0#8),(w8 0#8),(w8 0#8),(w8 0#8),(w8 0#8),(w8 0#8),(w8 0#8),(w8 0#8),(w8 0#8),(.int .i64 0),(.str []),(.int .i64 0),.nils,(.int .i64 0),.nils,(.bool false)]⟩,
  ⟨none,none,.store 39 (.t 7) (.t 13)⟩])
 (.seq (.region false [⟨none,(some 14),.fld 32 (.t 7)⟩,
  ⟨none,(some 15),.fld 2 (.t 14)⟩,
  ⟨none,(some 16),.load 1 false (.t 15)⟩,
  ⟨none,(some 17),.mov (.t 1)⟩,
  ⟨none,(some 18),.bin .geq (.t 16) (.t 17)⟩])
 (.cond (.t 18) (.region false [⟨none,(some 19),.mov (.t 5)⟩,
  ⟨none,(some 20),.fld 36 (.t 7)⟩,
  ⟨none,(some 21),.fld 1 (.t 20)⟩,
  ⟨none,(some 22),.load 1 false (.t 21)⟩,
  ⟨none,(some 23),.app 32 32 (.t 19) (.t 22)⟩,
  ⟨none,(some 5),.mov (.t 23)⟩])
 .skip))))
 (.region false [⟨none,(some 24),.bin .add (.t 10) (.k (.int .i64 1))⟩,
  ⟨none,(some 10),.mov (.t 24)⟩]))))
def zzv7 (x1 x5 x8 x9 x10:DV) (h:List AObj):St:=⟨[.junk,x1,.junk,.junk,.junk,x5,.junk,.junk,x8,x9,x10]++js 15,h⟩
def a48:AFn where
 code:=(.seq (.region false [⟨none,(some 4),.mov (.k .nils)⟩])
 (.seq (.region false [⟨none,(some 5),.mov (.k .nils)⟩])
 (.seq (.seq (.region false [⟨none,(some 8),.mov (.t 0)⟩,
  ⟨none,(some 9),.len (.t 8)⟩,
  ⟨none,(some 10),.mov (.k (.int .i64 0))⟩])
 (.block 0 (.loop zlq3)))
 (.seq (.region false [⟨none,(some 25),.mov (.t 5)⟩,
  ⟨none,(some 4),.mov (.t 25)⟩])
 .ret))))
 ntmps:=26
 res:=[.tmp 4]
theorem zwi2:zsjc P Tryz.f48=some a48:=by kernel_rfl
def a113:AFn where
 code:=(.seq (.region false [⟨none,(some 1),.box (.t 0)⟩,
  ⟨none,(some 2),.mov (.k (.bool false))⟩])
 (.seq (.region false [⟨none,(some 3),.fld 36 (.t 1)⟩,
  ⟨none,(some 4),.fld 0 (.t 3)⟩,
  ⟨none,(some 5),.load 1 false (.t 4)⟩,
  ⟨none,(some 6),.bin .eql (.t 5) (.k (.int .i64 3))⟩,
  ⟨none,(some 7),.mov (.t 6)⟩,
  ⟨(some (7,false)),(some 8),.fld 36 (.t 1)⟩,
  ⟨(some (7,false)),(some 9),.fld 0 (.t 8)⟩,
  ⟨(some (7,false)),(some 10),.load 1 false (.t 9)⟩,
  ⟨(some (7,false)),(some 11),.bin .eql (.t 10) (.k (.int .i64 4))⟩,
  ⟨none,(some 12),.pick (.t 7) (.k (.bool true)) (.t 11)⟩,
  ⟨none,(some 2),.mov (.t 12)⟩])
 .ret))
 ntmps:=13
 res:=[.tmp 2]
theorem zz1e:zsjc P Tryz.f113=some a113:=by kernel_rfl
def zjzl:ACode :=
 (.seq (.region false [⟨none,(some 11),.bin .lss (.t 10) (.t 9)⟩])
 (.seq (.cond (.t 11) .skip
 (.exit 0))
 (.seq (.block 1 (.seq (.region false [⟨none,(some 12),.idxS 39 (.t 8) (.t 10)⟩,
  ⟨none,(some 13),.load 39 true (.t 12)⟩,
  ⟨none,(some 7),.alloc [(w8 0#8),(w8 0#8),(w8 0#8),(w8 0#8),(w8 0#8),(w8 0#8),(w8 0#8),(w8 0#8),(w8 0#8),(w8 0#8),(w8 0#8),(w8 0#8),(w8 0#8),(w8 0#8),(w8 0#8),(w8 0#8),(w8 0#8),(w8 0#8),(w8 0#8),(w8 0#8),(w8 0#8),(w8 0#8),(w8 0#8),(w8 0#8),(w8 0#8),(w8 0#8),(w8 0#8),(w8 0#8),(w8 0#8),(w8 0#8),(w8 0#8),(w8 0#8),(.int .i64 0),(.str []),(.int .i64 0),.nils,(.int .i64 0),.nils,(.bool false)]⟩,
  ⟨none,none,.store 39 (.t 7) (.t 13)⟩])
 (.seq (.region false [⟨none,(some 14),.load 39 true (.t 7)⟩,
  ⟨none,(some 15),.call (.k (.fn (.func 113) [] [])) [(.t 14)]⟩,
  ⟨none,(some 16),.mov (.t 15)⟩,
  ⟨(some (16,true)),(some 17),.fld 32 (.t 7)⟩,
  ⟨(some (16,true)),(some 18),.fld 2 (.t 17)⟩,
  ⟨(some (16,true)),(some 19),.load 1 false (.t 18)⟩,
  ⟨(some (16,true)),(some 20),.mov (.t 1)⟩,
  ⟨(some (16,true)),(some 21),.bin .geq (.t 19) (.t 20)⟩,
  ⟨none,(some 22),.pick (.t 16) (.t 21) (.k (.bool false))⟩])
 (.cond (.t 22) (.seq (.region true [⟨none,(some 23),.fld 32 (.t 7)⟩,
  ⟨none,(some 24),.fld 3 (.t 23)⟩,
  ⟨none,(some 25),.load 1 false (.t 24)⟩,
  ⟨none,(some 27),.fld 36 (.t 7)⟩,
  ⟨none,(some 28),.fld 1 (.t 27)⟩,
  ⟨none,(some 29),.load 1 false (.t 28)⟩,
  ⟨none,(some 26),.callN (.k (.fn (.func 114) [] [])) [(.t 25)]⟩,
  ⟨none,(some 31),.fld 32 (.t 7)⟩,
  ⟨none,(some 32),.fld 3 (.t 31)⟩,
  ⟨none,(some 30),.callN (.k (.fn (.func 114) [] [])) [(.t 29)]⟩,
  ⟨none,none,.store 1 (.t 32) (.t 26)⟩,
  ⟨none,(some 33),.fld 36 (.t 7)⟩,
  ⟨none,(some 34),.fld 1 (.t 33)⟩,
  ⟨none,none,.store 1 (.t 34) (.t 30)⟩])
 (.region false [⟨none,(some 35),.mov (.t 5)⟩,
  ⟨none,(some 36),.load 39 true (.t 7)⟩,
  ⟨none,(some 37),.bsl 39 1 [(w8 0#8),(w8 0#8),(w8 0#8),(w8 0#8),(w8 0#8),(w8 0#8),(w8 0#8),(w8 0#8),(w8 0#8),(w8 0#8),(w8 0#8),(w8 0#8),(w8 0#8),(w8 0#8),(w8 0#8),(w8 0#8),(w8 0#8),(w8 0#8),(w8 0#8),(w8 0#8),(w8 0#8),(w8 0#8),(w8 0#8),(w8 0#8),(w8 0#8),(w8 0#8),(w8 0#8),(w8 0#8),(w8 0#8),(w8 0#8),(w8 0#8),(w8 0#8),(.int .i64 0),(.str []),(.int .i64 0),.nils,(.int .i64 0),.nils,(.bool false)] [(0,39,(.t 36))]⟩,
  ⟨none,(some 38),.app 39 128 (.t 35) (.t 37)⟩,
  ⟨none,(some 5),.mov (.t 38)⟩]))
 .skip))))
 (.region false [⟨none,(some 39),.bin .add (.t 10) (.k (.int .i64 1))⟩,
  ⟨none,(some 10),.mov (.t 39)⟩]))))
def zu12 (x1 x5 x8 x9 x10:DV) (h:List AObj):St:=⟨[.junk,x1,.junk,.junk,.junk,x5,.junk,.junk,x8,x9,x10]++js 30,h⟩
def a75:AFn where
 code:=(.seq (.region false [⟨none,(some 4),.mov (.k .nils)⟩])
 (.seq (.region false [⟨none,(some 5),.mov (.k .nils)⟩])
 (.seq (.seq (.region false [⟨none,(some 8),.mov (.t 0)⟩,
  ⟨none,(some 9),.len (.t 8)⟩,
  ⟨none,(some 10),.mov (.k (.int .i64 0))⟩])
 (.block 0 (.loop zjzl)))
 (.seq (.region false [⟨none,(some 40),.mov (.t 5)⟩,
  ⟨none,(some 4),.mov (.t 40)⟩])
 .ret))))
 ntmps:=41
 res:=[.tmp 4]
theorem zrvd:zsjc P Tryz.f75=some a75:=by kernel_rfl
def a74:AFn where
 code:=(.seq (.region false [⟨none,(some 6),.alloc [(.bool false),.nils,(.int .i64 0)]⟩])
 (.seq (.block 0 (.seq (.region false [⟨none,(some 8),.mov (.t 0)⟩,
  ⟨none,(some 9),.len (.t 8)⟩,
  ⟨none,(some 10),.bin .eql (.t 9) (.k (.int .i64 0))⟩,
  ⟨none,(some 7),.mov (.t 10)⟩])
 (.cond (.t 7) (.seq (.region false [⟨none,(some 11),.call (.k (.fn (.func 106) [] [])) [(.k (.int .i64 1))]⟩,
  ⟨none,none,.store 3 (.t 6) (.t 11)⟩])
 .ret)
 (.seq (.region false [⟨none,(some 13),.mov (.t 1)⟩,
  ⟨none,(some 14),.bin .gtr (.t 13) (.k (.int .i64 0))⟩,
  ⟨none,(some 12),.mov (.t 14)⟩])
 (.cond (.t 12) (.seq (.region false [⟨none,(some 15),.mov (.t 1)⟩,
  ⟨none,(some 16),.call (.k (.fn (.func 106) [] [])) [(.t 15)]⟩,
  ⟨none,none,.store 3 (.t 6) (.t 16)⟩])
 .ret)
 .skip)))))
 (.seq (.region false [⟨none,(some 17),.mov (.t 0)⟩,
  ⟨none,(some 18),.idxS 71 (.t 17) (.k (.int .i64 0))⟩,
  ⟨none,(some 19),.fld 70 (.t 18)⟩,
  ⟨none,(some 20),.load 1 false (.t 19)⟩,
  ⟨none,(some 21),.mov (.t 2)⟩,
  ⟨none,(some 22),.bsl 1 2 [.nils] [(0,1,(.t 20)),(1,1,(.t 21))]⟩,
  ⟨none,(some 23),.call (.k (.fn (.func 112) [] [])) [(.t 22)]⟩,
  ⟨none,(some 24),.call (.k (.fn (.func 107) [] [])) [(.t 23)]⟩,
  ⟨none,none,.store 3 (.t 6) (.t 24)⟩])
 .ret)))
 ntmps:=25
 res:=[.cell 6 3 true]
theorem z26r:zsjc P Tryz.f74=some a74:=by kernel_rfl
def zoac:ACode :=
 (.seq (.region false [⟨none,(some 9),.bin .lss (.t 8) (.t 7)⟩])
 (.seq (.cond (.t 9) .skip
 (.exit 0))
 (.seq (.block 1 (.seq (.region false [⟨none,(some 10),.idxS 39 (.t 6) (.t 8)⟩,
  ⟨none,(some 11),.load 39 true (.t 10)⟩,
  ⟨none,(some 5),.alloc [(w8 0#8),(w8 0#8),(w8 0#8),(w8 0#8),(w8 0#8),(w8 0#8),(w8 0#8),(w8 0#8),(w8 0#8),(w8 0#8),(w8 0#8),(w8 0#8),(w8 0#8),(w8 0#8),(w8 0#8),(w8 0#8),(w8 0#8),(w8 0#8),(w8 0#8),(w8 0#8),(w8 0#8),(w8 0#8),(w8 0#8),(w8 0#8),(w8 0#8),(w8 0#8),(w8 0#8),(w8 0#8),(w8 0#8),(w8 0#8),(w8 0#8),(w8 0#8),(.int .i64 0),(.str []),(.int .i64 0),.nils,(.int .i64 0),.nils,(.bool false)]⟩,
  ⟨none,none,.store 39 (.t 5) (.t 11)⟩])
 (.seq (.region false [⟨none,(some 12),.fld 36 (.t 5)⟩,
  ⟨none,(some 13),.fld 2 (.t 12)⟩,
  ⟨none,(some 14),.load 1 false (.t 13)⟩])
 (.cond (.t 14) (.region false [⟨none,(some 15),.mov (.t 3)⟩,
  ⟨none,(some 16),.bin .add (.t 15) (.k (.int .i64 1))⟩,
  ⟨none,(some 3),.mov (.t 16)⟩])
 .skip))))
 (.region false [⟨none,(some 17),.bin .add (.t 8) (.k (.int .i64 1))⟩,
  ⟨none,(some 8),.mov (.t 17)⟩]))))
def zcu8 (x3 x6 x7 x8:DV) (h:List AObj):St:=⟨[.junk,.junk,.junk,x3,.junk,.junk,x6,x7,x8]++js 10,h⟩
def a78:AFn where
 code:=(.seq (.region false [⟨none,(some 2),.mov (.k (.int .i64 0))⟩])
 (.seq (.region false [⟨none,(some 3),.mov (.k (.int .i64 0))⟩])
 (.seq (.seq (.region false [⟨none,(some 6),.mov (.t 0)⟩,
  ⟨none,(some 7),.len (.t 6)⟩,
  ⟨none,(some 8),.mov (.k (.int .i64 0))⟩])
 (.block 0 (.loop zoac)))
 (.seq (.region false [⟨none,(some 18),.mov (.t 3)⟩,
  ⟨none,(some 2),.mov (.t 18)⟩])
 .ret))))
 ntmps:=19
 res:=[.tmp 2]
theorem zetr:zsjc P Tryz.f78=some a78:=by kernel_rfl
def a138:AFn where
 code:=(.seq (.region false [⟨none,(some 6),.mov (.k (.bool false))⟩])
 (.seq (.region false [⟨none,(some 7),.mov (.t 1)⟩,
  ⟨none,(some 8),.mov (.t 0)⟩,
  ⟨none,(some 9),.bin .leq (.t 7) (.t 8)⟩,
  ⟨none,(some 10),.mov (.t 9)⟩,
  ⟨(some (10,true)),(some 11),.mov (.t 0)⟩,
  ⟨(some (10,true)),(some 12),.mov (.t 2)⟩,
  ⟨(some (10,true)),(some 13),.bin .leq (.t 11) (.t 12)⟩,
  ⟨none,(some 14),.pick (.t 10) (.t 13) (.k (.bool false))⟩,
  ⟨none,(some 6),.mov (.t 14)⟩])
 .ret))
 ntmps:=15
 res:=[.tmp 6]
theorem zno0:zsjc P Tryz.f138=some a138:=by kernel_rfl
def z9lx:ACode :=
 (.seq (.seq (.region false [⟨none,(some 13),.mov (.t 3)⟩,
  ⟨none,(some 14),.mov (.t 0)⟩,
  ⟨none,(some 15),.lenStr (.t 14)⟩,
  ⟨none,(some 16),.bin .lss (.t 13) (.t 15)⟩])
 (.cond (.t 16) .skip
 (.exit 0)))
 (.seq (.block 1 (.seq (.region false [⟨none,(some 19),.mov (.t 0)⟩,
  ⟨none,(some 20),.mov (.t 3)⟩,
  ⟨none,(some 21),.idxStr (.t 19) (.t 20)⟩,
  ⟨none,(some 4),.mov (.t 21)⟩])
 (.seq (.seq (.region false [⟨none,(some 22),.mov (.t 4)⟩,
  ⟨none,(some 23),.bin .geq (.t 22) (.k (w8 97#8))⟩,
  ⟨none,(some 24),.mov (.t 23)⟩,
  ⟨(some (24,true)),(some 25),.mov (.t 4)⟩,
  ⟨(some (24,true)),(some 26),.bin .leq (.t 25) (.k (w8 122#8))⟩,
  ⟨none,(some 27),.pick (.t 24) (.t 26) (.k (.bool false))⟩,
  ⟨none,(some 28),.mov (.t 27)⟩,
  ⟨(some (28,false)),(some 29),.mov (.t 4)⟩,
  ⟨(some (28,false)),(some 30),.bin .geq (.t 29) (.k (w8 48#8))⟩,
  ⟨(some (28,false)),(some 31),.mov (.t 30)⟩,
  ⟨(some (31,true)),(some 32),.mov (.t 4)⟩,
  ⟨(some (31,true)),(some 33),.bin .leq (.t 32) (.k (w8 57#8))⟩,
  ⟨(some (28,false)),(some 34),.pick (.t 31) (.t 33) (.k (.bool false))⟩,
  ⟨none,(some 35),.pick (.t 28) (.k (.bool true)) (.t 34)⟩,
  ⟨none,(some 36),.mov (.t 35)⟩,
  ⟨(some (36,false)),(some 37),.mov (.t 3)⟩,
  ⟨(some (36,false)),(some 38),.bin .gtr (.t 37) (.k (.int .i64 0))⟩,
  ⟨(some (36,false)),(some 39),.mov (.t 38)⟩,
  ⟨(some (39,true)),(some 40),.mov (.t 4)⟩,
  ⟨(some (39,true)),(some 41),.bin .eql (.t 40) (.k (w8 46#8))⟩,
  ⟨(some (39,true)),(some 42),.mov (.t 41)⟩,
  ⟨(some (42,false)),(some 43),.mov (.t 4)⟩,
  ⟨(some (42,false)),(some 44),.bin .eql (.t 43) (.k (w8 95#8))⟩,
  ⟨(some (39,true)),(some 45),.pick (.t 42) (.k (.bool true)) (.t 44)⟩,
  ⟨(some (39,true)),(some 46),.mov (.t 45)⟩,
  ⟨(some (46,false)),(some 47),.mov (.t 4)⟩,
  ⟨(some (46,false)),(some 48),.bin .eql (.t 47) (.k (w8 45#8))⟩,
  ⟨(some (39,true)),(some 49),.pick (.t 46) (.k (.bool true)) (.t 48)⟩,
  ⟨(some (36,false)),(some 50),.pick (.t 39) (.t 49) (.k (.bool false))⟩,
  ⟨none,(some 51),.pick (.t 36) (.k (.bool true)) (.t 50)⟩])
 (.cond (.t 51) (.exit 1)
 .skip))
 (.seq (.region false [⟨none,(some 2),.mov (.k (.bool false))⟩])
 .ret))))
 (.region false [⟨none,(some 17),.mov (.t 3)⟩,
  ⟨none,(some 18),.bin .add (.t 17) (.k (.int .i64 1))⟩,
  ⟨none,(some 3),.mov (.t 18)⟩])))
def zcir (x0 x3:DV) (h:List AObj):St:=⟨[x0,.junk,.junk,x3]++js 48,h⟩
def a139:AFn where
 code:=(.seq (.region false [⟨none,(some 2),.mov (.k (.bool false))⟩])
 (.seq (.seq (.region false [⟨none,(some 5),.mov (.t 0)⟩,
  ⟨none,(some 6),.lenStr (.t 5)⟩,
  ⟨none,(some 7),.bin .lss (.t 6) (.k (.int .i64 1))⟩,
  ⟨none,(some 8),.mov (.t 7)⟩,
  ⟨(some (8,false)),(some 9),.mov (.t 0)⟩,
  ⟨(some (8,false)),(some 10),.lenStr (.t 9)⟩,
  ⟨(some (8,false)),(some 11),.bin .gtr (.t 10) (.k (.int .i64 64))⟩,
  ⟨none,(some 12),.pick (.t 8) (.k (.bool true)) (.t 11)⟩])
 (.cond (.t 12) (.seq (.region false [⟨none,(some 2),.mov (.k (.bool false))⟩])
 .ret)
 .skip))
 (.seq (.seq (.region false [⟨none,(some 3),.mov (.k (.int .i64 0))⟩])
 (.block 0 (.loop z9lx)))
 (.seq (.region false [⟨none,(some 2),.mov (.k (.bool true))⟩])
 .ret))))
 ntmps:=52
 res:=[.tmp 2]
theorem zt91:zsjc P Tryz.f139=some a139:=by kernel_rfl
def a124:AFn where
 code:=(.seq (.region false [⟨none,(some 1),.box (.t 0)⟩,
  ⟨none,(some 2),.mov (.k (.bool false))⟩])
 (.seq (.region false [⟨none,(some 5),.fld 0 (.t 1)⟩,
  ⟨none,(some 6),.load 1 false (.t 5)⟩,
  ⟨none,(some 7),.build [(.int .i64 0),(.int .i64 0),(.int .i64 0),(.str [])] [(0,1,(.t 6))]⟩,
  ⟨none,(some 3),.alloc [(.int .i64 0),(.int .i64 0),(.int .i64 0),(.str [])]⟩,
  ⟨none,none,.store 4 (.t 3) (.t 7)⟩])
 (.seq (.region false [⟨none,(some 4),.mov (.k (.bool true))⟩])
 (.seq (.seq (.region false [⟨none,(some 8),.fld 0 (.t 1)⟩,
  ⟨none,(some 9),.load 1 false (.t 8)⟩])
 (.block 0 (.seq (.seq (.region false [⟨none,(some 11),.bin .eql (.t 9) (.k (.int .i64 1))⟩,
  ⟨none,(some 10),.mov (.t 11)⟩])
 (.cond (.t 10) .skip
 (.seq (.region false [⟨none,(some 12),.bin .eql (.t 9) (.k (.int .i64 3))⟩,
  ⟨none,(some 10),.mov (.t 12)⟩])
 (.cond (.t 10) .skip
 (.region false [⟨none,(some 13),.bin .eql (.t 9) (.k (.int .i64 5))⟩,
  ⟨none,(some 10),.mov (.t 13)⟩])))))
 (.cond (.t 10) (.region true [⟨none,(some 14),.fld 1 (.t 1)⟩,
  ⟨none,(some 15),.load 1 false (.t 14)⟩,
  ⟨none,(some 16),.fld 1 (.t 1)⟩,
  ⟨none,(some 17),.load 1 false (.t 16)⟩,
  ⟨none,(some 19),.fld 1 (.t 3)⟩,
  ⟨none,(some 18),.callN (.k (.fn (.func 138) [] [])) [(.t 17),(.k (.int .i64 1)),(.k (.int .i64 32))]⟩,
  ⟨none,none,.store 1 (.t 19) (.t 15)⟩,
  ⟨none,(some 4),.mov (.t 18)⟩])
 (.seq (.region false [⟨none,(some 21),.bin .eql (.t 9) (.k (.int .i64 4))⟩,
  ⟨none,(some 20),.mov (.t 21)⟩])
 (.cond (.t 20) (.region true [⟨none,(some 22),.fld 1 (.t 1)⟩,
  ⟨none,(some 23),.load 1 false (.t 22)⟩,
  ⟨none,(some 24),.fld 2 (.t 1)⟩,
  ⟨none,(some 25),.load 1 false (.t 24)⟩,
  ⟨none,(some 26),.fld 1 (.t 1)⟩,
  ⟨none,(some 27),.load 1 false (.t 26)⟩,
  ⟨none,(some 34),.fld 1 (.t 3)⟩,
  ⟨none,(some 28),.callN (.k (.fn (.func 138) [] [])) [(.t 27),(.k (.int .i64 1)),(.k (.int .i64 32))]⟩,
  ⟨none,(some 29),.mov (.t 28)⟩,
  ⟨(some (29,true)),(some 30),.fld 2 (.t 1)⟩,
  ⟨(some (29,true)),(some 31),.load 1 false (.t 30)⟩,
  ⟨(some (29,true)),(some 32),.callN (.k (.fn (.func 138) [] [])) [(.t 31),(.k (.int .i64 0)),(.k (.int .i64 32))]⟩,
  ⟨none,(some 33),.pick (.t 29) (.t 32) (.k (.bool false))⟩,
  ⟨none,none,.store 1 (.t 34) (.t 23)⟩,
  ⟨none,(some 35),.fld 2 (.t 3)⟩,
  ⟨none,none,.store 1 (.t 35) (.t 25)⟩,
  ⟨none,(some 4),.mov (.t 33)⟩,
  ⟨none,none,.apart (.t 1) (.t 34)⟩,
  ⟨none,none,.apart (.t 24) (.t 34)⟩])
 (.seq (.region false [⟨none,(some 37),.bin .eql (.t 9) (.k (.int .i64 2))⟩,
  ⟨none,(some 36),.mov (.t 37)⟩])
 (.cond (.t 36) (.region true [⟨none,(some 38),.fld 3 (.t 1)⟩,
  ⟨none,(some 39),.load 1 false (.t 38)⟩,
  ⟨none,(some 40),.fld 3 (.t 1)⟩,
  ⟨none,(some 41),.load 1 false (.t 40)⟩,
  ⟨none,(some 43),.fld 3 (.t 3)⟩,
  ⟨none,(some 42),.callN (.k (.fn (.func 139) [] [])) [(.t 41)]⟩,
  ⟨none,none,.store 1 (.t 43) (.t 39)⟩,
  ⟨none,(some 4),.mov (.t 42)⟩])
 (.seq (.region false [⟨none,(some 45),.bin .eql (.t 9) (.k (.int .i64 6))⟩,
  ⟨none,(some 44),.mov (.t 45)⟩])
 (.cond (.t 44) (.region true [⟨none,(some 46),.fld 1 (.t 1)⟩,
  ⟨none,(some 47),.load 1 false (.t 46)⟩,
  ⟨none,(some 48),.fld 1 (.t 1)⟩,
  ⟨none,(some 49),.load 1 false (.t 48)⟩,
  ⟨none,(some 51),.fld 1 (.t 3)⟩,
  ⟨none,(some 50),.callN (.k (.fn (.func 138) [] [])) [(.t 49),(.k (.int .i64 1)),(.k (.int .i64 10))]⟩,
  ⟨none,none,.store 1 (.t 51) (.t 47)⟩,
  ⟨none,(some 4),.mov (.t 50)⟩])
 (.seq (.region false [⟨none,(some 53),.bin .eql (.t 9) (.k (.int .i64 7))⟩,
  ⟨none,(some 52),.mov (.t 53)⟩])
 (.cond (.t 52) (.region true [⟨none,(some 54),.fld 1 (.t 1)⟩,
  ⟨none,(some 55),.load 1 false (.t 54)⟩,
  ⟨none,(some 56),.fld 1 (.t 1)⟩,
  ⟨none,(some 57),.load 1 false (.t 56)⟩,
  ⟨none,(some 59),.fld 1 (.t 3)⟩,
  ⟨none,(some 58),.callN (.k (.fn (.func 138) [] [])) [(.t 57),(.k (.int .i64 0)),(.k (.int .i64 1099511627776))]⟩,
  ⟨none,none,.store 1 (.t 59) (.t 55)⟩,
  ⟨none,(some 4),.mov (.t 58)⟩])
 (.seq (.region false [⟨none,(some 61),.bin .eql (.t 9) (.k (.int .i64 8))⟩,
  ⟨none,(some 60),.mov (.t 61)⟩])
 (.cond (.t 60) .skip
 (.seq (.region false [⟨none,(some 2),.mov (.k (.bool false))⟩])
 .ret)))))))))))))))
 (.seq (.region false [⟨none,(some 62),.mov (.t 4)⟩,
  ⟨none,(some 63),.mov (.t 62)⟩,
  ⟨(some (63,true)),(some 64),.load 4 true (.t 1)⟩,
  ⟨(some (63,true)),(some 65),.load 4 true (.t 3)⟩,
  ⟨(some (63,true)),(some 66),.eqa false [(3,0),(1,1)] (.t 64) (.t 65)⟩,
  ⟨none,(some 67),.pick (.t 63) (.t 66) (.k (.bool false))⟩,
  ⟨none,(some 2),.mov (.t 67)⟩])
 .ret)))))
 ntmps:=68
 res:=[.tmp 2]
theorem ze8k:zsjc P Tryz.f124=some a124:=by kernel_rfl
def a104:AFn where
 code:=(.seq (.region false [⟨none,(some 1),.box (.t 0)⟩,
  ⟨none,(some 2),.mov (.k (.bool false))⟩])
 (.seq (.region false [⟨none,(some 4),.fld 2 (.t 1)⟩,
  ⟨none,(some 5),.load 1 false (.t 4)⟩,
  ⟨none,(some 6),.bin .geq (.t 5) (.k (.int .i64 1))⟩,
  ⟨none,(some 7),.mov (.t 6)⟩,
  ⟨(some (7,true)),(some 8),.fld 2 (.t 1)⟩,
  ⟨(some (7,true)),(some 9),.load 1 false (.t 8)⟩,
  ⟨(some (7,true)),(some 10),.bin .leq (.t 9) (.k (.int .i64 60))⟩,
  ⟨none,(some 11),.pick (.t 7) (.t 10) (.k (.bool false))⟩,
  ⟨none,(some 12),.mov (.t 11)⟩,
  ⟨(some (12,true)),(some 13),.fld 3 (.t 1)⟩,
  ⟨(some (12,true)),(some 14),.load 4 true (.t 13)⟩,
  ⟨(some (12,true)),(some 15),.build [(.int .i64 0),(.int .i64 0),(.int .i64 0),(.str [])] []⟩,
  ⟨(some (12,true)),(some 16),.eqa false [(3,0),(1,1)] (.t 14) (.t 15)⟩,
  ⟨none,(some 17),.pick (.t 12) (.t 16) (.k (.bool false))⟩,
  ⟨none,(some 3),.mov (.t 17)⟩])
 (.seq (.seq (.region false [⟨none,(some 18),.fld 0 (.t 1)⟩,
  ⟨none,(some 19),.load 1 false (.t 18)⟩])
 (.block 0 (.seq (.region false [⟨none,(some 21),.bin .eql (.t 19) (.k (.int .i64 1))⟩,
  ⟨none,(some 20),.mov (.t 21)⟩])
 (.cond (.t 20) (.seq (.region false [⟨none,(some 22),.fld 2 (.t 1)⟩,
  ⟨none,(some 23),.load 1 false (.t 22)⟩,
  ⟨none,(some 24),.bin .eql (.t 23) (.k (.int .i64 0))⟩,
  ⟨none,(some 25),.mov (.t 24)⟩,
  ⟨(some (25,true)),(some 26),.fld 1 (.t 1)⟩,
  ⟨(some (25,true)),(some 27),.load 1 false (.t 26)⟩,
  ⟨(some (25,true)),(some 28),.bin .eql (.t 27) (.k (.int .i64 0))⟩,
  ⟨none,(some 29),.pick (.t 25) (.t 28) (.k (.bool false))⟩,
  ⟨none,(some 30),.mov (.t 29)⟩,
  ⟨(some (30,true)),(some 31),.fld 3 (.t 1)⟩,
  ⟨(some (30,true)),(some 32),.load 4 true (.t 31)⟩,
  ⟨(some (30,true)),(some 33),.call (.k (.fn (.func 124) [] [])) [(.t 32)]⟩,
  ⟨none,(some 34),.pick (.t 30) (.t 33) (.k (.bool false))⟩,
  ⟨none,(some 2),.mov (.t 34)⟩])
 .ret)
 (.seq (.seq (.region false [⟨none,(some 36),.bin .eql (.t 19) (.k (.int .i64 2))⟩,
  ⟨none,(some 35),.mov (.t 36)⟩])
 (.cond (.t 35) .skip
 (.region false [⟨none,(some 37),.bin .eql (.t 19) (.k (.int .i64 3))⟩,
  ⟨none,(some 35),.mov (.t 37)⟩])))
 (.cond (.t 35) (.seq (.region false [⟨none,(some 38),.mov (.t 3)⟩,
  ⟨none,(some 39),.mov (.t 38)⟩,
  ⟨(some (39,true)),(some 40),.fld 1 (.t 1)⟩,
  ⟨(some (39,true)),(some 41),.load 1 false (.t 40)⟩,
  ⟨(some (39,true)),(some 42),.bin .eql (.t 41) (.k (.int .i64 0))⟩,
  ⟨none,(some 43),.pick (.t 39) (.t 42) (.k (.bool false))⟩,
  ⟨none,(some 2),.mov (.t 43)⟩])
 .ret)
 (.seq (.region false [⟨none,(some 45),.bin .eql (.t 19) (.k (.int .i64 4))⟩,
  ⟨none,(some 44),.mov (.t 45)⟩])
 (.cond (.t 44) (.seq (.region false [⟨none,(some 46),.mov (.t 3)⟩,
  ⟨none,(some 47),.mov (.t 46)⟩,
  ⟨(some (47,true)),(some 48),.fld 1 (.t 1)⟩,
  ⟨(some (47,true)),(some 49),.load 1 false (.t 48)⟩,
  ⟨(some (47,true)),(some 50),.bin .geq (.t 49) (.k (.int .i64 1))⟩,
  ⟨none,(some 51),.pick (.t 47) (.t 50) (.k (.bool false))⟩,
  ⟨none,(some 52),.mov (.t 51)⟩,
  ⟨(some (52,true)),(some 53),.fld 1 (.t 1)⟩,
  ⟨(some (52,true)),(some 54),.load 1 false (.t 53)⟩,
  ⟨(some (52,true)),(some 55),.fld 2 (.t 1)⟩,
  ⟨(some (52,true)),(some 56),.load 1 false (.t 55)⟩,
  ⟨(some (52,true)),(some 57),.bin .leq (.t 54) (.t 56)⟩,
  ⟨none,(some 58),.pick (.t 52) (.t 57) (.k (.bool false))⟩,
  ⟨none,(some 2),.mov (.t 58)⟩])
 .ret)
 .skip))))))))
 (.seq (.region false [⟨none,(some 2),.mov (.k (.bool false))⟩])
 .ret))))
 ntmps:=59
 res:=[.tmp 2]
theorem z0mt:zsjc P Tryz.f104=some a104:=by kernel_rfl
def zscl:ACode :=
 (.seq (.region false [⟨none,(some 18),.bin .lss (.t 17) (.t 16)⟩])
 (.seq (.cond (.t 18) .skip
 (.exit 0))
 (.seq (.block 1 (.seq (.region false [⟨none,(some 19),.idxS 7 (.t 15) (.t 17)⟩,
  ⟨none,(some 20),.load 7 true (.t 19)⟩,
  ⟨none,(some 6),.alloc [(.int .i64 0),(.int .i64 0),(.int .i64 0),(.int .i64 0),(.int .i64 0),(.int .i64 0),(.str [])]⟩,
  ⟨none,none,.store 7 (.t 6) (.t 20)⟩])
 (.seq (.seq (.region false [⟨none,(some 21),.mov (.t 3)⟩,
  ⟨none,(some 22),.bin .eql (.t 21) (.k (.int .i64 0))⟩,
  ⟨none,(some 23),.mov (.t 22)⟩,
  ⟨(some (23,false)),(some 24),.load 7 true (.t 6)⟩,
  ⟨(some (23,false)),(some 25),.call (.k (.fn (.func 104) [] [])) [(.t 24)]⟩,
  ⟨(some (23,false)),(some 26),.un .not (.t 25)⟩,
  ⟨none,(some 27),.pick (.t 23) (.k (.bool true)) (.t 26)⟩])
 (.cond (.t 27) (.seq (.region false [⟨none,(some 2),.mov (.k (.bool false))⟩])
 .ret)
 .skip))
 (.seq (.region false [⟨none,(some 28),.mov (.t 3)⟩,
  ⟨none,(some 29),.fld 2 (.t 6)⟩,
  ⟨none,(some 30),.load 1 false (.t 29)⟩,
  ⟨none,(some 31),.bin .sub (.t 30) (.k (.int .i64 1))⟩,
  ⟨none,(some 32),.bin .add (.t 28) (.t 31)⟩,
  ⟨none,(some 3),.mov (.t 32)⟩])
 (.seq (.region false [⟨none,(some 33),.fld 0 (.t 6)⟩,
  ⟨none,(some 34),.load 1 false (.t 33)⟩,
  ⟨none,(some 35),.bin .eql (.t 34) (.k (.int .i64 1))⟩])
 (.cond (.t 35) (.region false [⟨none,(some 36),.mov (.t 4)⟩,
  ⟨none,(some 37),.bin .add (.t 36) (.k (.int .i64 1))⟩,
  ⟨none,(some 4),.mov (.t 37)⟩])
 .skip))))))
 (.region false [⟨none,(some 38),.bin .add (.t 17) (.k (.int .i64 1))⟩,
  ⟨none,(some 17),.mov (.t 38)⟩]))))
def zeq8 (x3 x4 x15 x16 x17:DV) (h:List AObj):St:=⟨[.junk,.junk,.junk,x3,x4]++js 10++[x15,x16,x17]++js 27,h⟩
def a64:AFn where
 code:=(.seq (.region false [⟨none,(some 2),.mov (.k (.bool false))⟩])
 (.seq (.seq (.region false [⟨none,(some 7),.mov (.t 0)⟩,
  ⟨none,(some 8),.len (.t 7)⟩,
  ⟨none,(some 9),.bin .lss (.t 8) (.k (.int .i64 1))⟩,
  ⟨none,(some 10),.mov (.t 9)⟩,
  ⟨(some (10,false)),(some 11),.mov (.t 0)⟩,
  ⟨(some (10,false)),(some 12),.len (.t 11)⟩,
  ⟨(some (10,false)),(some 13),.bin .gtr (.t 12) (.k (.int .i64 60))⟩,
  ⟨none,(some 14),.pick (.t 10) (.k (.bool true)) (.t 13)⟩])
 (.cond (.t 14) (.seq (.region false [⟨none,(some 2),.mov (.k (.bool false))⟩])
 .ret)
 .skip))
 (.seq (.region false [⟨none,(some 3),.mov (.k (.int .i64 1))⟩,
  ⟨none,(some 4),.mov (.k (.int .i64 0))⟩])
 (.seq (.seq (.region false [⟨none,(some 15),.mov (.t 0)⟩,
  ⟨none,(some 16),.len (.t 15)⟩,
  ⟨none,(some 17),.mov (.k (.int .i64 0))⟩])
 (.block 0 (.loop zscl)))
 (.seq (.region false [⟨none,(some 39),.mov (.t 3)⟩,
  ⟨none,(some 40),.bin .eql (.t 39) (.k (.int .i64 0))⟩,
  ⟨none,(some 41),.mov (.t 40)⟩,
  ⟨(some (41,true)),(some 42),.mov (.t 4)⟩,
  ⟨(some (41,true)),(some 43),.bin .leq (.t 42) (.k (.int .i64 16))⟩,
  ⟨none,(some 44),.pick (.t 41) (.t 43) (.k (.bool false))⟩,
  ⟨none,(some 2),.mov (.t 44)⟩])
 .ret)))))
 ntmps:=45
 res:=[.tmp 2]
theorem zerh:zsjc P Tryz.f64=some a64:=by kernel_rfl
def a41:AFn where
 code:=(.seq (.region false [⟨none,(some 1),.box (.t 0)⟩,
  ⟨none,(some 2),.mov (.k (.bool false))⟩])
 (.seq (.region false [⟨none,(some 3),.load 4 true (.t 1)⟩,
  ⟨none,(some 4),.build [(.int .i64 0),(.int .i64 0),(.int .i64 0),(.int .i64 0),(.int .i64 0),(.int .i64 0),(.str [])] [(0,1,(.k (.int .i64 1))),(3,4,(.t 3))]⟩,
  ⟨none,(some 5),.bsl 7 1 [(.int .i64 0),(.int .i64 0),(.int .i64 0),(.int .i64 0),(.int .i64 0),(.int .i64 0),(.str [])] [(0,7,(.t 4))]⟩,
  ⟨none,(some 6),.call (.k (.fn (.func 64) [] [])) [(.t 5)]⟩,
  ⟨none,(some 2),.mov (.t 6)⟩])
 .ret))
 ntmps:=7
 res:=[.tmp 2]
theorem z5y8:zsjc P Tryz.f41=some a41:=by kernel_rfl
def a42:AFn where
 code:=(.seq (.region false [⟨none,(some 4),.box (.t 0)⟩,
  ⟨none,(some 5),.box (.t 1)⟩,
  ⟨none,(some 6),.box (.t 2)⟩,
  ⟨none,(some 8),.alloc [(.bool false),.nils,(.int .i64 0)]⟩])
 (.seq (.region false [⟨none,(some 9),.mov (.k (.fn (.func 65) [] []))⟩])
 (.seq (.region false [⟨none,(some 13),.mkf (.func 66) [] [(.t 5)]⟩,
  ⟨none,(some 10),.alloc [.nilf]⟩,
  ⟨none,none,.store 1 (.t 10) (.t 13)⟩])
 (.seq (.region false [⟨none,(some 14),.mkf (.func 67) [] [(.t 5)]⟩,
  ⟨none,(some 11),.mov (.t 14)⟩])
 (.seq (.region false [⟨none,(some 15),.fld 33 (.t 4)⟩,
  ⟨none,(some 16),.load 1 false (.t 15)⟩,
  ⟨none,(some 17),.mov (.t 9)⟩,
  ⟨none,(some 18),.call (.k (.fn (.func 68) [] [])) [(.t 16),(.k (.int .i64 5)),(.t 17)]⟩,
  ⟨none,(some 12),.mov (.t 18)⟩])
 (.seq (.seq (.region false [⟨none,(some 19),.fld 0 (.t 6)⟩,
  ⟨none,(some 20),.load 1 false (.t 19)⟩])
 (.block 0 (.seq (.region false [⟨none,(some 22),.bin .eql (.t 20) (.k (.int .i64 1))⟩,
  ⟨none,(some 21),.mov (.t 22)⟩])
 (.cond (.t 21) (.seq (.region true [⟨none,(some 23),.fld 33 (.t 4)⟩,
  ⟨none,(some 24),.load 1 false (.t 23)⟩,
  ⟨none,(some 25),.load 1 false (.t 10)⟩,
  ⟨none,(some 27),.fld 1 (.t 6)⟩,
  ⟨none,(some 28),.load 1 false (.t 27)⟩,
  ⟨none,(some 26),.callN (.k (.fn (.func 68) [] [])) [(.t 24),(.k (.int .i64 1)),(.t 25)]⟩,
  ⟨none,(some 29),.callN (.k (.fn (.func 69) [] [])) [(.t 26),(.t 28)]⟩,
  ⟨none,none,.store 3 (.t 8) (.t 29)⟩])
 .ret)
 (.seq (.region false [⟨none,(some 31),.bin .eql (.t 20) (.k (.int .i64 2))⟩,
  ⟨none,(some 30),.mov (.t 31)⟩])
 (.cond (.t 30) (.seq (.region false [⟨none,(some 32),.fld 33 (.t 4)⟩,
  ⟨none,(some 33),.load 1 false (.t 32)⟩,
  ⟨none,(some 34),.mkf (.func 71) [] [(.t 10),(.t 6)]⟩,
  ⟨none,(some 35),.call (.k (.fn (.func 68) [] [])) [(.t 33),(.k (.int .i64 2)),(.t 34)]⟩,
  ⟨none,(some 36),.call (.k (.fn (.func 70) [] [])) [(.t 35)]⟩,
  ⟨none,none,.store 3 (.t 8) (.t 36)⟩])
 .ret)
 (.seq (.region false [⟨none,(some 38),.bin .eql (.t 20) (.k (.int .i64 3))⟩,
  ⟨none,(some 37),.mov (.t 38)⟩])
 (.cond (.t 37) (.seq (.region true [⟨none,(some 39),.fld 33 (.t 4)⟩,
  ⟨none,(some 40),.load 1 false (.t 39)⟩,
  ⟨none,(some 41),.mov (.t 11)⟩,
  ⟨none,(some 43),.fld 1 (.t 6)⟩,
  ⟨none,(some 44),.load 1 false (.t 43)⟩,
  ⟨none,(some 42),.callN (.k (.fn (.func 68) [] [])) [(.t 40),(.k (.int .i64 3)),(.t 41)]⟩,
  ⟨none,(some 45),.callN (.k (.fn (.func 69) [] [])) [(.t 42),(.t 44)]⟩,
  ⟨none,none,.store 3 (.t 8) (.t 45)⟩])
 .ret)
 (.seq (.region false [⟨none,(some 47),.bin .eql (.t 20) (.k (.int .i64 4))⟩,
  ⟨none,(some 46),.mov (.t 47)⟩])
 (.cond (.t 46) (.seq (.region true [⟨none,(some 48),.fld 33 (.t 4)⟩,
  ⟨none,(some 49),.load 1 false (.t 48)⟩,
  ⟨none,(some 50),.mov (.t 11)⟩,
  ⟨none,(some 52),.mov (.t 3)⟩,
  ⟨none,(some 53),.mov (.t 11)⟩,
  ⟨none,(some 55),.load 4 true (.t 6)⟩,
  ⟨none,(some 51),.callN (.k (.fn (.func 68) [] [])) [(.t 49),(.k (.int .i64 4)),(.t 50)]⟩,
  ⟨none,(some 54),.callN (.k (.fn (.func 68) [] [])) [(.t 52),(.k (.int .i64 4)),(.t 53)]⟩,
  ⟨none,(some 56),.callN (.k (.fn (.func 72) [] [])) [(.t 51),(.t 54),(.t 55)]⟩,
  ⟨none,none,.store 3 (.t 8) (.t 56)⟩])
 .ret)
 (.seq (.region false [⟨none,(some 58),.bin .eql (.t 20) (.k (.int .i64 5))⟩,
  ⟨none,(some 57),.mov (.t 58)⟩])
 (.cond (.t 57) (.seq (.region false [⟨none,(some 59),.mov (.t 12)⟩,
  ⟨none,(some 60),.fld 1 (.t 6)⟩,
  ⟨none,(some 61),.load 1 false (.t 60)⟩,
  ⟨none,(some 62),.call (.k (.fn (.func 73) [] [])) [(.t 59),(.t 61)]⟩,
  ⟨none,none,.store 3 (.t 8) (.t 62)⟩])
 .ret)
 (.seq (.region false [⟨none,(some 64),.bin .eql (.t 20) (.k (.int .i64 6))⟩,
  ⟨none,(some 63),.mov (.t 64)⟩])
 (.cond (.t 63) (.seq (.region true [⟨none,(some 65),.mov (.t 12)⟩,
  ⟨none,(some 66),.fld 34 (.t 4)⟩,
  ⟨none,(some 67),.load 1 false (.t 66)⟩,
  ⟨none,(some 68),.fld 1 (.t 6)⟩,
  ⟨none,(some 69),.load 1 false (.t 68)⟩,
  ⟨none,(some 72),.fld 34 (.t 4)⟩,
  ⟨none,(some 73),.load 1 false (.t 72)⟩,
  ⟨none,(some 74),.fld 1 (.t 6)⟩,
  ⟨none,(some 75),.load 1 false (.t 74)⟩,
  ⟨none,(some 70),.callN (.k (.fn (.func 75) [] [])) [(.t 67),(.t 69)]⟩,
  ⟨none,(some 71),.len (.t 70)⟩,
  ⟨none,(some 76),.callN (.k (.fn (.func 48) [] [])) [(.t 73),(.t 75)]⟩,
  ⟨none,(some 77),.callN (.k (.fn (.func 74) [] [])) [(.t 65),(.t 71),(.t 76)]⟩,
  ⟨none,none,.store 3 (.t 8) (.t 77)⟩])
 .ret)
 (.seq (.region false [⟨none,(some 79),.bin .eql (.t 20) (.k (.int .i64 7))⟩,
  ⟨none,(some 78),.mov (.t 79)⟩])
 (.cond (.t 78) (.seq (.region false [⟨none,(some 80),.fld 33 (.t 4)⟩,
  ⟨none,(some 81),.load 1 false (.t 80)⟩,
  ⟨none,(some 82),.mkf (.func 76) [] [(.t 10),(.t 4),(.t 6)]⟩,
  ⟨none,(some 83),.call (.k (.fn (.func 68) [] [])) [(.t 81),(.k (.int .i64 1)),(.t 82)]⟩,
  ⟨none,(some 84),.call (.k (.fn (.func 70) [] [])) [(.t 83)]⟩,
  ⟨none,none,.store 3 (.t 8) (.t 84)⟩])
 .ret)
 .skip))))))))))))))))
 (.seq (.region true [⟨none,(some 85),.mov (.t 12)⟩,
  ⟨none,(some 86),.fld 34 (.t 4)⟩,
  ⟨none,(some 87),.load 1 false (.t 86)⟩,
  ⟨none,(some 89),.fld 35 (.t 4)⟩,
  ⟨none,(some 90),.load 1 false (.t 89)⟩,
  ⟨none,(some 91),.len (.t 90)⟩,
  ⟨none,(some 88),.callN (.k (.fn (.func 78) [] [])) [(.t 87)]⟩,
  ⟨none,(some 92),.bin .add (.t 88) (.t 91)⟩,
  ⟨none,(some 93),.callN (.k (.fn (.func 74) [] [])) [(.t 85),(.t 92),(.k .nils)]⟩,
  ⟨none,none,.store 3 (.t 8) (.t 93)⟩])
 .ret)))))))
 ntmps:=94
 res:=[.cell 8 3 true]
theorem zl17:zsjc P Tryz.f42=some a42:=by kernel_rfl
def a20:AFn where
 code:=(.seq (.region false [⟨none,(some 3),.box (.t 0)⟩,
  ⟨none,(some 4),.box (.t 1)⟩,
  ⟨none,(some 5),.box (.t 2)⟩,
  ⟨none,(some 6),.alloc [(.bool false),.nils,(.int .i64 0)]⟩])
 (.seq (.seq (.region false [⟨none,(some 7),.load 4 true (.t 5)⟩,
  ⟨none,(some 8),.call (.k (.fn (.func 41) [] [])) [(.t 7)]⟩,
  ⟨none,(some 9),.un .not (.t 8)⟩])
 (.cond (.t 9) (.seq (.region false [⟨none,(some 10),.build [(.bool false),.nils,(.int .i64 0)] []⟩,
  ⟨none,none,.store 3 (.t 6) (.t 10)⟩])
 .ret)
 .skip))
 (.seq (.region false [⟨none,(some 11),.load 36 true (.t 3)⟩,
  ⟨none,(some 12),.load 34 true (.t 4)⟩,
  ⟨none,(some 13),.load 4 true (.t 5)⟩,
  ⟨none,(some 14),.fld 33 (.t 3)⟩,
  ⟨none,(some 15),.load 1 false (.t 14)⟩,
  ⟨none,(some 16),.call (.k (.fn (.func 42) [] [])) [(.t 11),(.t 12),(.t 13),(.t 15)]⟩,
  ⟨none,none,.store 3 (.t 6) (.t 16)⟩])
 .ret)))
 ntmps:=17
 res:=[.cell 6 3 true]
theorem zfgm:zsjc P Tryz.f20=some a20:=by kernel_rfl
def a45:AFn where
 code:=(.seq (.region false [⟨none,(some 2),.box (.t 0)⟩,
  ⟨none,(some 3),.mov (.k (.bool false))⟩])
 (.seq (.region false [⟨none,(some 4),.load 1 false (.t 1)⟩,
  ⟨none,(some 5),.load 32 true (.t 2)⟩,
  ⟨none,(some 6),.call (.k (.fn (.func 46) [] [])) [(.t 4),(.t 5)]⟩,
  ⟨none,(some 7),.un .not (.t 6)⟩,
  ⟨none,(some 3),.mov (.t 7)⟩])
 .ret))
 ntmps:=8
 res:=[.tmp 3]
theorem z94d:zsjc P Tryz.f45=some a45:=by kernel_rfl
def a51:AFn where
 code:=(.seq (.region false [⟨none,(some 2),.box (.t 0)⟩,
  ⟨none,(some 3),.mov (.k (.bool false))⟩])
 (.seq (.region false [⟨none,(some 4),.fld 70 (.t 2)⟩,
  ⟨none,(some 5),.load 1 false (.t 4)⟩,
  ⟨none,(some 6),.load 1 false (.t 1)⟩,
  ⟨none,(some 7),.call (.k (.fn (.func 47) [] [])) [(.t 5),(.t 6)]⟩,
  ⟨none,(some 3),.mov (.t 7)⟩])
 .ret))
 ntmps:=8
 res:=[.tmp 3]
theorem z8rx:zsjc P Tryz.f51=some a51:=by kernel_rfl
def z2r1:ACode :=
 (.seq (.region false [⟨none,(some 9),.bin .lss (.t 8) (.t 7)⟩])
 (.seq (.cond (.t 9) .skip
 (.exit 0))
 (.seq (.block 1 (.seq (.region false [⟨none,(some 10),.mov (.t 8)⟩,
  ⟨none,(some 5),.mov (.t 10)⟩])
 (.seq (.region true [⟨none,(some 11),.load 32 true (.t 3)⟩,
  ⟨none,(some 12),.mov (.t 0)⟩,
  ⟨none,(some 13),.mov (.t 5)⟩,
  ⟨none,(some 14),.idxS 32 (.t 12) (.t 13)⟩,
  ⟨none,(some 15),.load 32 true (.t 14)⟩,
  ⟨none,(some 16),.eqa false [(32,0)] (.t 11) (.t 15)⟩])
 (.cond (.t 16) (.seq (.region false [⟨none,(some 17),.mov (.t 5)⟩,
  ⟨none,(some 4),.mov (.t 17)⟩])
 .ret)
 .skip))))
 (.region false [⟨none,(some 18),.bin .add (.t 8) (.k (.int .i64 1))⟩,
  ⟨none,(some 8),.mov (.t 18)⟩]))))
def ztaw (x0 x3 x7 x8:DV) (h:List AObj):St:=⟨[x0,.junk,.junk,x3,.junk,.junk,.junk,x7,x8]++js 10,h⟩
def a88:AFn where
 code:=(.seq (.region false [⟨none,(some 3),.box (.t 1)⟩,
  ⟨none,(some 4),.mov (.k (.int .i64 0))⟩])
 (.seq (.seq (.region false [⟨none,(some 6),.mov (.t 0)⟩,
  ⟨none,(some 7),.len (.t 6)⟩,
  ⟨none,(some 8),.mov (.k (.int .i64 0))⟩])
 (.block 0 (.loop z2r1)))
 (.seq (.region false [⟨none,(some 4),.mov (.k (.int .i64 (-1)))⟩])
 .ret)))
 ntmps:=19
 res:=[.tmp 4]
theorem zqgj:zsjc P Tryz.f88=some a88:=by kernel_rfl
def a46:AFn where
 code:=(.seq (.region false [⟨none,(some 3),.box (.t 1)⟩,
  ⟨none,(some 4),.mov (.k (.bool false))⟩])
 (.seq (.region false [⟨none,(some 5),.mov (.t 0)⟩,
  ⟨none,(some 6),.load 32 true (.t 3)⟩,
  ⟨none,(some 7),.call (.k (.fn (.func 88) [] [])) [(.t 5),(.t 6)]⟩,
  ⟨none,(some 8),.bin .geq (.t 7) (.k (.int .i64 0))⟩,
  ⟨none,(some 4),.mov (.t 8)⟩])
 .ret))
 ntmps:=9
 res:=[.tmp 4]
theorem znv1:zsjc P Tryz.f46=some a46:=by kernel_rfl
def z3yv:ACode :=
 (.seq (.region false [⟨none,(some 9),.bin .lss (.t 8) (.t 7)⟩])
 (.seq (.cond (.t 9) .skip
 (.exit 0))
 (.seq (.block 1 (.seq (.region false [⟨none,(some 10),.mov (.t 8)⟩,
  ⟨none,(some 5),.mov (.t 10)⟩])
 (.seq (.region false [⟨none,(some 11),.mov (.t 1)⟩,
  ⟨none,(some 12),.mov (.t 0)⟩,
  ⟨none,(some 13),.mov (.t 5)⟩,
  ⟨none,(some 14),.idxS 32 (.t 12) (.t 13)⟩,
  ⟨none,(some 15),.load 32 true (.t 14)⟩,
  ⟨none,(some 16),.call (.t 11) [(.t 15)]⟩])
 (.cond (.t 16) (.seq (.region false [⟨none,(some 17),.mov (.t 5)⟩,
  ⟨none,(some 4),.mov (.t 17)⟩])
 .ret)
 .skip))))
 (.region false [⟨none,(some 18),.bin .add (.t 8) (.k (.int .i64 1))⟩,
  ⟨none,(some 8),.mov (.t 18)⟩]))))
def zlqy (x0 x1 x7 x8:DV) (h:List AObj):St:=⟨[x0,x1]++js 5++[x7,x8]++js 10,h⟩
def a89:AFn where
 code:=(.seq (.region false [⟨none,(some 4),.mov (.k (.int .i64 0))⟩])
 (.seq (.seq (.region false [⟨none,(some 6),.mov (.t 0)⟩,
  ⟨none,(some 7),.len (.t 6)⟩,
  ⟨none,(some 8),.mov (.k (.int .i64 0))⟩])
 (.block 0 (.loop z3yv)))
 (.seq (.region false [⟨none,(some 4),.mov (.k (.int .i64 (-1)))⟩])
 .ret)))
 ntmps:=19
 res:=[.tmp 4]
theorem z42j:zsjc P Tryz.f89=some a89:=by kernel_rfl
def a47:AFn where
 code:=(.seq (.region false [⟨none,(some 4),.mov (.k (.bool false))⟩])
 (.seq (.region false [⟨none,(some 5),.mov (.t 0)⟩,
  ⟨none,(some 6),.mov (.t 1)⟩,
  ⟨none,(some 7),.call (.k (.fn (.func 89) [] [])) [(.t 5),(.t 6)]⟩,
  ⟨none,(some 8),.bin .geq (.t 7) (.k (.int .i64 0))⟩,
  ⟨none,(some 4),.mov (.t 8)⟩])
 .ret))
 ntmps:=9
 res:=[.tmp 4]
theorem zzqr:zsjc P Tryz.f47=some a47:=by kernel_rfl
def a22:AFn where
 code:=(.seq (.region false [⟨none,(some 4),.box (.t 0)⟩,
  ⟨none,(some 5),.box (.t 1)⟩,
  ⟨none,(some 6),.box (.t 2)⟩,
  ⟨none,(some 7),.box (.t 3)⟩,
  ⟨none,(some 8),.mov (.k (.bool false))⟩])
 (.seq (.region false [⟨none,(some 11),.mkf (.func 45) [] [(.t 7)]⟩,
  ⟨none,(some 9),.alloc [.nilf]⟩,
  ⟨none,none,.store 1 (.t 9) (.t 11)⟩])
 (.seq (.seq (.region true [⟨none,(some 12),.load 4 true (.t 6)⟩,
  ⟨none,(some 13),.callN (.k (.fn (.func 41) [] [])) [(.t 12)]⟩,
  ⟨none,(some 14),.un .not (.t 13)⟩,
  ⟨none,(some 15),.mov (.t 14)⟩,
  ⟨(some (15,false)),(some 16),.fld 0 (.t 6)⟩,
  ⟨(some (15,false)),(some 17),.load 1 false (.t 16)⟩,
  ⟨(some (15,false)),(some 18),.bin .eql (.t 17) (.k (.int .i64 6))⟩,
  ⟨(some (15,false)),(some 19),.mov (.t 18)⟩,
  ⟨(some (19,true)),(some 20),.fld 34 (.t 4)⟩,
  ⟨(some (19,true)),(some 21),.load 1 false (.t 20)⟩,
  ⟨(some (19,true)),(some 22),.fld 1 (.t 6)⟩,
  ⟨(some (19,true)),(some 23),.load 1 false (.t 22)⟩,
  ⟨(some (19,true)),(some 25),.load 1 false (.t 9)⟩,
  ⟨(some (19,true)),(some 24),.callN (.k (.fn (.func 48) [] [])) [(.t 21),(.t 23)]⟩,
  ⟨(some (19,true)),(some 26),.callN (.k (.fn (.func 47) [] [])) [(.t 24),(.t 25)]⟩,
  ⟨(some (15,false)),(some 27),.pick (.t 19) (.t 26) (.k (.bool false))⟩,
  ⟨none,(some 28),.pick (.t 15) (.k (.bool true)) (.t 27)⟩])
 (.cond (.t 28) (.seq (.region false [⟨none,(some 8),.mov (.k (.bool false))⟩])
 .ret)
 .skip))
 (.seq (.region false [⟨none,(some 29),.fld 33 (.t 4)⟩,
  ⟨none,(some 30),.load 1 false (.t 29)⟩,
  ⟨none,(some 10),.mov (.t 30)⟩])
 (.seq (.region false [⟨none,(some 31),.mov (.t 10)⟩,
  ⟨none,(some 32),.call (.k (.fn (.func 50) [] [])) [(.t 31)]⟩,
  ⟨none,(some 33),.mkf (.func 51) [] [(.t 9)]⟩,
  ⟨none,(some 34),.call (.k (.fn (.func 49) [] [])) [(.t 32),(.t 33)]⟩,
  ⟨none,(some 35),.fld 33 (.t 4)⟩,
  ⟨none,none,.store 1 (.t 35) (.t 34)⟩])
 (.seq (.region false [⟨none,(some 36),.load 36 true (.t 4)⟩,
  ⟨none,(some 37),.load 34 true (.t 5)⟩,
  ⟨none,(some 38),.load 4 true (.t 6)⟩,
  ⟨none,(some 39),.mov (.t 10)⟩,
  ⟨none,(some 40),.call (.k (.fn (.func 42) [] [])) [(.t 36),(.t 37),(.t 38),(.t 39)]⟩,
  ⟨none,(some 41),.getf 0 1 false (.t 40)⟩,
  ⟨none,(some 8),.mov (.t 41)⟩])
 .ret))))))
 ntmps:=42
 res:=[.tmp 8]
theorem zi98:zsjc P Tryz.f22=some a22:=by kernel_rfl
end Go.Proofs.YtdnhbfmlklaldaaGreat
set_option linter.unusedSimpArgs false
set_option linter.unusedVariables false
namespace Go.Proofs.YtdnhbfmlklaldaaGreat
open Go Go.Am Go.Shelf
def z1kk:Go.Shelf.Ren:=⟨fun|190=>125|125=>61|258=>140|128=>102|129=>103|302=>144|303=>145|304=>146|305=>147|306=>148|307=>149|308=>150|309=>151|310=>152|333=>161|329=>120|330=>121|334=>162|335=>163|336=>63|344=>167|n=>n,fun|31=>26|9=>9|3=>3|46=>100|0=>0|51=>132|53=>134|4=>4|183=>125|182=>124|131=>129|5=>5|218=>146|222=>150|228=>160|229=>161|n=>n,fun|n=>n⟩
theorem z7es:Lays.n190 Tryz.prog z1kk where
 mixed:=by kernel_rfl
 f125:=Tryz.func61.trans (congrArg some (by kernel_rfl))
 f128:=Tryz.func102.trans (congrArg some (by kernel_rfl))
 f129:=Tryz.func103.trans (congrArg some (by kernel_rfl))
 f190:=Tryz.func125.trans (congrArg some (by kernel_rfl))
 f258:=Tryz.func140.trans (congrArg some (by kernel_rfl))
 f302:=Tryz.func144.trans (congrArg some (by kernel_rfl))
 f303:=Tryz.func145.trans (congrArg some (by kernel_rfl))
 f304:=Tryz.func146.trans (congrArg some (by kernel_rfl))
 f305:=Tryz.func147.trans (congrArg some (by kernel_rfl))
 f306:=Tryz.func148.trans (congrArg some (by kernel_rfl))
 f307:=Tryz.func149.trans (congrArg some (by kernel_rfl))
 f308:=Tryz.func150.trans (congrArg some (by kernel_rfl))
 f309:=Tryz.func151.trans (congrArg some (by kernel_rfl))
 f310:=Tryz.func152.trans (congrArg some (by kernel_rfl))
 f329:=Tryz.func120.trans (congrArg some (by kernel_rfl))
 f330:=Tryz.func121.trans (congrArg some (by kernel_rfl))
 f333:=Tryz.func161.trans (congrArg some (by kernel_rfl))
 f334:=Tryz.func162.trans (congrArg some (by kernel_rfl))
 f335:=Tryz.func163.trans (congrArg some (by kernel_rfl))
 f336:=Tryz.func63.trans (congrArg some (by kernel_rfl))
 f344:=Tryz.func167.trans (congrArg some (by kernel_rfl))
 t0:=Tryz.underlying0
 a0:=Tryz.isAgg0
 z0:=Tryz.sizeOf0
 v0:=Tryz.zeroValue0
 t3:=Tryz.underlying3
 a3:=Tryz.isAgg3
 z3:=Tryz.sizeOf3
 v3:=Tryz.zeroValue3
 t4:=Tryz.underlying4
 a4:=Tryz.isAgg4
 z4:=Tryz.sizeOf4
 v4:=Tryz.zeroValue4
 t5:=Tryz.underlying5
 a5:=Tryz.isAgg5
 z5:=Tryz.sizeOf5
 v5:=Tryz.zeroValue5
 t9:=Tryz.underlying9
 a9:=Tryz.isAgg9
 z9:=Tryz.sizeOf9
 v9:=Tryz.zeroValue9
 t31:=Tryz.underlying26
 a31:=Tryz.isAgg26
 z31:=Tryz.sizeOf26
 v31:=Tryz.zeroValue26
 t46:=Tryz.underlying100
 a46:=Tryz.isAgg100
 z46:=Tryz.sizeOf100
 v46:=Tryz.zeroValue100
 t51:=Tryz.underlying132
 a51:=Tryz.isAgg132
 z51:=Tryz.sizeOf132
 v51:=Tryz.zeroValue132
 t53:=Tryz.underlying134
 a53:=Tryz.isAgg134
 z53:=Tryz.sizeOf134
 v53:=Tryz.zeroValue134
 t131:=Tryz.underlying129
 a131:=Tryz.isAgg129
 z131:=Tryz.sizeOf129
 v131:=Tryz.zeroValue129
 t182:=Tryz.underlying124
 a182:=Tryz.isAgg124
 z182:=Tryz.sizeOf124
 v182:=Tryz.zeroValue124
 t183:=Tryz.underlying125
 a183:=Tryz.isAgg125
 z183:=Tryz.sizeOf125
 v183:=Tryz.zeroValue125
 t218:=Tryz.underlying146
 a218:=Tryz.isAgg146
 z218:=Tryz.sizeOf146
 v218:=Tryz.zeroValue146
 t222:=Tryz.underlying150
 a222:=Tryz.isAgg150
 z222:=Tryz.sizeOf150
 v222:=Tryz.zeroValue150
 t228:=Tryz.underlying160
 a228:=Tryz.isAgg160
 z228:=Tryz.sizeOf160
 v228:=Tryz.zeroValue160
 t229:=Tryz.underlying161
 a229:=Tryz.isAgg161
 z229:=Tryz.sizeOf161
 v229:=Tryz.zeroValue161
def z13i:Go.Shelf.Ren:=⟨fun|6=>132|15=>61|14=>143|28=>102|29=>103|20=>153|21=>154|22=>155|23=>156|24=>157|25=>158|26=>159|27=>160|46=>164|47=>120|48=>121|49=>165|50=>166|57=>168|n=>n,fun|22=>33|24=>23|25=>156|3=>3|39=>100|0=>0|53=>132|55=>134|4=>4|46=>125|45=>124|50=>129|5=>5|9=>9|66=>146|70=>150|76=>160|77=>161|n=>n,fun|n=>n⟩
theorem zmpv:SlLaysF0.n6 Tryz.prog z13i where
 mixed:=by kernel_rfl
 f6 := ⟨"slices.SortFunc[[]admission/api.Digest,admission/api.Digest]", by decide, Tryz.func132.trans (congrArg some (by kernel_rfl))⟩
 f14 := ⟨"slices.pdqsortCmpFunc[admission/api.Digest]", by decide, Tryz.func143.trans (congrArg some (by kernel_rfl))⟩
 f15:=Tryz.func61.trans (congrArg some (by kernel_rfl))
 f20 := ⟨"slices.insertionSortCmpFunc[admission/api.Digest]", by decide, Tryz.func153.trans (congrArg some (by kernel_rfl))⟩
 f21 := ⟨"slices.heapSortCmpFunc[admission/api.Digest]", by decide, Tryz.func154.trans (congrArg some (by kernel_rfl))⟩
 f22 := ⟨"slices.breakPatternsCmpFunc[admission/api.Digest]", by decide, Tryz.func155.trans (congrArg some (by kernel_rfl))⟩
 f23 := ⟨"slices.choosePivotCmpFunc[admission/api.Digest]", by decide, Tryz.func156.trans (congrArg some (by kernel_rfl))⟩
 f24 := ⟨"slices.reverseRangeCmpFunc[admission/api.Digest]", by decide, Tryz.func157.trans (congrArg some (by kernel_rfl))⟩
 f25 := ⟨"slices.partialInsertionSortCmpFunc[admission/api.Digest]", by decide, Tryz.func158.trans (congrArg some (by kernel_rfl))⟩
 f26 := ⟨"slices.partitionEqualCmpFunc[admission/api.Digest]", by decide, Tryz.func159.trans (congrArg some (by kernel_rfl))⟩
 f27 := ⟨"slices.partitionCmpFunc[admission/api.Digest]", by decide, Tryz.func160.trans (congrArg some (by kernel_rfl))⟩
 f28:=Tryz.func102.trans (congrArg some (by kernel_rfl))
 f29:=Tryz.func103.trans (congrArg some (by kernel_rfl))
 f46 := ⟨"slices.siftDownCmpFunc[admission/api.Digest]", by decide, Tryz.func164.trans (congrArg some (by kernel_rfl))⟩
 f47:=Tryz.func120.trans (congrArg some (by kernel_rfl))
 f48:=Tryz.func121.trans (congrArg some (by kernel_rfl))
 f49 := ⟨"slices.medianAdjacentCmpFunc[admission/api.Digest]", by decide, Tryz.func165.trans (congrArg some (by kernel_rfl))⟩
 f50 := ⟨"slices.medianCmpFunc[admission/api.Digest]", by decide, Tryz.func166.trans (congrArg some (by kernel_rfl))⟩
 f57 := ⟨"slices.order2CmpFunc[admission/api.Digest]", by decide, Tryz.func168.trans (congrArg some (by kernel_rfl))⟩
 t0:=Tryz.underlying0
 a0:=Tryz.isAgg0
 z0:=Tryz.sizeOf0
 v0:=Tryz.zeroValue0
 t3:=Tryz.underlying3
 a3:=Tryz.isAgg3
 z3:=Tryz.sizeOf3
 v3:=Tryz.zeroValue3
 t4:=Tryz.underlying4
 a4:=Tryz.isAgg4
 z4:=Tryz.sizeOf4
 v4:=Tryz.zeroValue4
 t5:=Tryz.underlying5
 a5:=Tryz.isAgg5
 z5:=Tryz.sizeOf5
 v5:=Tryz.zeroValue5
 t9:=Tryz.underlying9
 a9:=Tryz.isAgg9
 z9:=Tryz.sizeOf9
 v9:=Tryz.zeroValue9
 t22:=Tryz.underlying33
 a22:=Tryz.isAgg33
 z22:=Tryz.sizeOf33
 v22:=Tryz.zeroValue33
 t25:=Tryz.underlying156
 a25:=Tryz.isAgg156
 z25:=Tryz.sizeOf156
 v25:=Tryz.zeroValue156
 t39:=Tryz.underlying100
 a39:=Tryz.isAgg100
 z39:=Tryz.sizeOf100
 v39:=Tryz.zeroValue100
 t45:=Tryz.underlying124
 a45:=Tryz.isAgg124
 z45:=Tryz.sizeOf124
 v45:=Tryz.zeroValue124
 t46:=Tryz.underlying125
 a46:=Tryz.isAgg125
 z46:=Tryz.sizeOf125
 v46:=Tryz.zeroValue125
 t50:=Tryz.underlying129
 a50:=Tryz.isAgg129
 z50:=Tryz.sizeOf129
 v50:=Tryz.zeroValue129
 t53:=Tryz.underlying132
 a53:=Tryz.isAgg132
 z53:=Tryz.sizeOf132
 v53:=Tryz.zeroValue132
 t55:=Tryz.underlying134
 a55:=Tryz.isAgg134
 z55:=Tryz.sizeOf134
 v55:=Tryz.zeroValue134
 t66:=Tryz.underlying146
 a66:=Tryz.isAgg146
 z66:=Tryz.sizeOf146
 v66:=Tryz.zeroValue146
 t70:=Tryz.underlying150
 a70:=Tryz.isAgg150
 z70:=Tryz.sizeOf150
 v70:=Tryz.zeroValue150
 t76:=Tryz.underlying160
 a76:=Tryz.isAgg160
 z76:=Tryz.sizeOf160
 v76:=Tryz.zeroValue160
 t77:=Tryz.underlying161
 a77:=Tryz.isAgg161
 z77:=Tryz.sizeOf161
 v77:=Tryz.zeroValue161
def z3va:Go.Shelf.Ren:=⟨fun|6=>34|15=>61|14=>60|28=>102|29=>103|20=>94|21=>95|22=>96|23=>97|24=>98|25=>99|26=>100|27=>101|46=>119|47=>120|48=>121|49=>122|50=>123|57=>137|n=>n,fun|22=>36|24=>30|25=>70|3=>3|39=>100|0=>0|53=>132|55=>134|4=>4|46=>125|45=>124|50=>129|5=>5|9=>9|66=>146|70=>150|76=>160|77=>161|n=>n,fun|n=>n⟩
theorem zv99:SlLaysF0.n6 Tryz.prog z3va where
 mixed:=by kernel_rfl
 f6 := ⟨"slices.SortFunc[[]admission/api.Origin,admission/api.Origin]", by decide, Tryz.func34.trans (congrArg some (by kernel_rfl))⟩
 f14 := ⟨"slices.pdqsortCmpFunc[admission/api.Origin]", by decide, Tryz.func60.trans (congrArg some (by kernel_rfl))⟩
 f15:=Tryz.func61.trans (congrArg some (by kernel_rfl))
 f20 := ⟨"slices.insertionSortCmpFunc[admission/api.Origin]", by decide, Tryz.func94.trans (congrArg some (by kernel_rfl))⟩
 f21 := ⟨"slices.heapSortCmpFunc[admission/api.Origin]", by decide, Tryz.func95.trans (congrArg some (by kernel_rfl))⟩
 f22 := ⟨"slices.breakPatternsCmpFunc[admission/api.Origin]", by decide, Tryz.func96.trans (congrArg some (by kernel_rfl))⟩
 f23 := ⟨"slices.choosePivotCmpFunc[admission/api.Origin]", by decide, Tryz.func97.trans (congrArg some (by kernel_rfl))⟩
 f24 := ⟨"slices.reverseRangeCmpFunc[admission/api.Origin]", by decide, Tryz.func98.trans (congrArg some (by kernel_rfl))⟩
 f25 := ⟨"slices.partialInsertionSortCmpFunc[admission/api.Origin]", by decide, Tryz.func99.trans (congrArg some (by kernel_rfl))⟩
 f26 := ⟨"slices.partitionEqualCmpFunc[admission/api.Origin]", by decide, Tryz.func100.trans (congrArg some (by kernel_rfl))⟩
 f27 := ⟨"slices.partitionCmpFunc[admission/api.Origin]", by decide, Tryz.func101.trans (congrArg some (by kernel_rfl))⟩
 f28:=Tryz.func102.trans (congrArg some (by kernel_rfl))
 f29:=Tryz.func103.trans (congrArg some (by kernel_rfl))
 f46 := ⟨"slices.siftDownCmpFunc[admission/api.Origin]", by decide, Tryz.func119.trans (congrArg some (by kernel_rfl))⟩
 f47:=Tryz.func120.trans (congrArg some (by kernel_rfl))
 f48:=Tryz.func121.trans (congrArg some (by kernel_rfl))
 f49 := ⟨"slices.medianAdjacentCmpFunc[admission/api.Origin]", by decide, Tryz.func122.trans (congrArg some (by kernel_rfl))⟩
 f50 := ⟨"slices.medianCmpFunc[admission/api.Origin]", by decide, Tryz.func123.trans (congrArg some (by kernel_rfl))⟩
 f57 := ⟨"slices.order2CmpFunc[admission/api.Origin]", by decide, Tryz.func137.trans (congrArg some (by kernel_rfl))⟩
 t0:=Tryz.underlying0
 a0:=Tryz.isAgg0
 z0:=Tryz.sizeOf0
 v0:=Tryz.zeroValue0
 t3:=Tryz.underlying3
 a3:=Tryz.isAgg3
 z3:=Tryz.sizeOf3
 v3:=Tryz.zeroValue3
 t4:=Tryz.underlying4
 a4:=Tryz.isAgg4
 z4:=Tryz.sizeOf4
 v4:=Tryz.zeroValue4
 t5:=Tryz.underlying5
 a5:=Tryz.isAgg5
 z5:=Tryz.sizeOf5
 v5:=Tryz.zeroValue5
 t9:=Tryz.underlying9
 a9:=Tryz.isAgg9
 z9:=Tryz.sizeOf9
 v9:=Tryz.zeroValue9
 t22:=Tryz.underlying36
 a22:=Tryz.isAgg36
 z22:=Tryz.sizeOf36
 v22:=Tryz.zeroValue36
 t25:=Tryz.underlying70
 a25:=Tryz.isAgg70
 z25:=Tryz.sizeOf70
 v25:=Tryz.zeroValue70
 t39:=Tryz.underlying100
 a39:=Tryz.isAgg100
 z39:=Tryz.sizeOf100
 v39:=Tryz.zeroValue100
 t45:=Tryz.underlying124
 a45:=Tryz.isAgg124
 z45:=Tryz.sizeOf124
 v45:=Tryz.zeroValue124
 t46:=Tryz.underlying125
 a46:=Tryz.isAgg125
 z46:=Tryz.sizeOf125
 v46:=Tryz.zeroValue125
 t50:=Tryz.underlying129
 a50:=Tryz.isAgg129
 z50:=Tryz.sizeOf129
 v50:=Tryz.zeroValue129
 t53:=Tryz.underlying132
 a53:=Tryz.isAgg132
 z53:=Tryz.sizeOf132
 v53:=Tryz.zeroValue132
 t55:=Tryz.underlying134
 a55:=Tryz.isAgg134
 z55:=Tryz.sizeOf134
 v55:=Tryz.zeroValue134
 t66:=Tryz.underlying146
 a66:=Tryz.isAgg146
 z66:=Tryz.sizeOf146
 v66:=Tryz.zeroValue146
 t70:=Tryz.underlying150
 a70:=Tryz.isAgg150
 z70:=Tryz.sizeOf150
 v70:=Tryz.zeroValue150
 t76:=Tryz.underlying160
 a76:=Tryz.isAgg160
 z76:=Tryz.sizeOf160
 v76:=Tryz.zeroValue160
 t77:=Tryz.underlying161
 a77:=Tryz.isAgg161
 z77:=Tryz.sizeOf161
 v77:=Tryz.zeroValue161
end Go.Proofs.YtdnhbfmlklaldaaGreat
set_option linter.unusedSimpArgs false
set_option linter.unusedVariables false
namespace Go.Proofs.YtdnhbfmlklaldaaGreat
open Go Go.Am
theorem z1ch {α:Type} {f:α→List DV} {s:Nat} (hu : ∀ a,(f a).length=s) (h0:0<s) (hi : ∀ a b,f a=f b→a=b) : ∀ {l l':List α},l.flatMap f=l'.flatMap f→l=l'
 | [],[],_=>rfl
 | [],b::l',e=>by have:=congrArg List.length e; simp [hu] at this; omega
 | a::l,[],e=>by have:=congrArg List.length e; simp [hu] at this; omega
 | a::l,b::l',e=>by
  rw [List.flatMap_cons,List.flatMap_cons] at e
  have:=List.append_inj e (by rw [hu,hu])
  rw [hi _ _ this.1,z1ch hu h0 hi this.2]
theorem dv_inj {α:Type} {f:α→List DV} {s:Nat} (hu : ∀ a,(f a).length=s) (h0:0<s) (hi : ∀ a b,f a=f b→a=b) {x y:Sl α} (e:x.dv s f=y.dv s f):x=y:=by
 obtain ⟨k,l,h,hb⟩:=x
 obtain ⟨k',l',h',hb'⟩:=y
 cases k with
 | none =>
  cases k' with
  | none=>cases h rfl; cases h' rfl; rfl
  | some b=>simp [Sl.dv,slD] at e
 | some b =>
  cases k' with
  | none=>simp [Sl.dv,slD] at e
  | some b' =>
   simp only [Sl.dv,slD,DV.sl.injEq] at e
   obtain ⟨rfl,_,_,e⟩:=e
   cases z1ch hu h0 hi e
   rfl
theorem z42k {x y:Sl Dg} (e:x.dv 32 dgC=y.dv 32 dgC):x=y:=dv_inj z1t1 (by decide) (fun _ _=>zib9) e
theorem zsn4 {α:Type} {f:α→List DV} {g:α→DV} (hi : ∀ a b,f a=f b→a=b) (a:α):con (fun _=>True) f g (f a)=some (g a):=zlyi (fun a b e=>by rw [hi a b e]) a trivial
abbrev Str:=List UInt8
def stC (s:Str):List DV:=[.str s]
theorem zqv6 (s:Str):(stC s).length=1:=rfl
theorem zds6 (s:Str):zbao (stC s)=true:=rfl
theorem zwaz {a b:Str} (h:stC a=stC b):a=b:=by simpa [stC] using h
structure Fct where
 kind:Int
 own:Str
 rev:Dg
 lay:Str
 run:Str
 at_:Int
 agr:Bool
 tgt:Dg
 docs:Sl Dg
def faC (f:Fct):List DV := .int .i64 f.kind :: .str f.own::(dgC f.rev++(.str f.lay :: .str f.run :: .int .i64 f.at_ :: .bool f.agr::(dgC f.tgt++[f.docs.dv 32 dgC])))
structure Fnd where
 inv:Dg
 comp:Int
 id:Str
 sev:Int
 hd:Sl Dg
 st:Int
 dd:Sl Dg
 con:Bool
def fnC (f:Fnd):List DV:=dgC f.inv++[.int .i64 f.comp,.str f.id,.int .i64 f.sev,f.hd.dv 32 dgC,.int .i64 f.st,f.dd.dv 32 dgC,.bool f.con]
structure Cas where
 art:Dg
 at_:Int
 f:Sl Fct
 n:Sl Fnd
 d:Sl Str
def caC (c:Cas):List DV:=dgC c.art++[.int .i64 c.at_,c.f.dv 71 faC,c.n.dv 39 fnC,c.d.dv 1 stC]
structure Org where
 rev:Dg
 lay:Str
 run:Str
 deriving DecidableEq
def orC (o:Org):List DV:=dgC o.rev++[.str o.lay,.str o.run]
structure Req where
 kind:Int
 n:Int
 m:Int
 text:Str
 deriving DecidableEq
def rqC (q:Req):List DV:=[.int .i64 q.kind,.int .i64 q.n,.int .i64 q.m,.str q.text]
structure Sup where
 holds:Bool
 docs:Sl Dg
 missing:Int
def suC (s:Sup):List DV:=[.bool s.holds,s.docs.dv 32 dgC,.int .i64 s.missing]
theorem zs77 (f:Fct):(faC f).length=71:=by simp [faC,z1t1]
theorem z0o0 (f:Fnd):(fnC f).length=39:=by simp [fnC,z1t1]
theorem zt8w (c:Cas):(caC c).length=36:=by simp [caC,z1t1]
theorem zu78 (o:Org):(orC o).length=34:=by simp [orC,z1t1]
theorem zzeg (q:Req):(rqC q).length=4:=rfl
theorem z16g (s:Sup):(suC s).length=3:=rfl
theorem z93p (f:Fct):zbao (faC f)=true:=by
 simp only [faC,zbao,zyp8,Bool.true_and]
 exact zg0c (z3ot _) (by simp only [zbao,zyp8,Bool.true_and]; exact zg0c (z3ot _) (by simp [zbao,zpfc]))
theorem zl9f (f:Fnd):zbao (fnC f)=true:=zg0c (z3ot _) (by simp [zbao,zyp8,zpfc])
theorem ztvh (o:Org):zbao (orC o)=true:=zg0c (z3ot _) (by simp [zbao,zyp8])
theorem zhqv (q:Req):zbao (rqC q)=true:=by simp [rqC,zbao,zyp8]
theorem zxm8 (s:Sup):zbao (suC s)=true:=by simp [suC,zbao,zyp8,zpfc]
theorem zacf (x:Sl Fct):zyp8 (x.dv 71 faC)=true:=zxxb z93p x
theorem zy9r (x:Sl Fnd):zyp8 (x.dv 39 fnC)=true:=zxxb zl9f x
theorem zqma (x:Sl Str):zyp8 (x.dv 1 stC)=true:=zxxb zds6 x
theorem zkih (c:Cas):zbao (caC c)=true:=zg0c (z3ot _) (by simp [zbao,zyp8,zacf,zy9r,zqma])
theorem z38a {a b:Fct} (e:faC a=faC b):a=b:=by
 obtain ⟨a1,a2,a3,a4,a5,a6,a7,a8,a9⟩:=a
 obtain ⟨b1,b2,b3,b4,b5,b6,b7,b8,b9⟩:=b
 simp only [faC,List.cons.injEq,DV.int.injEq,DV.str.injEq,true_and] at e
 obtain ⟨rfl,rfl,e⟩:=e
 obtain ⟨e3,e'⟩:=List.append_inj e (by rw [z1t1,z1t1])
 simp only [List.cons.injEq,DV.int.injEq,DV.str.injEq,DV.bool.injEq,true_and] at e'
 obtain ⟨rfl,rfl,rfl,rfl,e'⟩:=e'
 obtain ⟨e8,e''⟩:=List.append_inj e' (by rw [z1t1,z1t1])
 simp only [List.cons.injEq,and_true] at e''
 rw [zib9 e3,zib9 e8,z42k e'']
theorem ziuj {a b:Fnd} (e:fnC a=fnC b):a=b:=by
 obtain ⟨a1,a2,a3,a4,a5,a6,a7,a8⟩:=a
 obtain ⟨b1,b2,b3,b4,b5,b6,b7,b8⟩:=b
 obtain ⟨e1,e⟩:=List.append_inj (s₁:=dgC a1) (s₂:=dgC b1) e (by rw [z1t1,z1t1])
 simp only [List.cons.injEq,DV.int.injEq,DV.str.injEq,DV.bool.injEq,true_and,and_true] at e
 obtain ⟨rfl,rfl,rfl,e5,rfl,e7,rfl⟩:=e
 rw [zib9 e1,z42k e5,z42k e7]
theorem zc65 {a b:Org} (e:orC a=orC b):a=b:=by
 obtain ⟨a1,a2,a3⟩:=a
 obtain ⟨b1,b2,b3⟩:=b
 obtain ⟨e1,e⟩:=List.append_inj (s₁:=dgC a1) (s₂:=dgC b1) e (by rw [z1t1,z1t1])
 simp only [List.cons.injEq,DV.str.injEq,and_true] at e
 obtain ⟨rfl,rfl⟩:=e
 rw [zib9 e1]
theorem z82b {a b:Req} (e:rqC a=rqC b):a=b:=by
 obtain ⟨a1,a2,a3,a4⟩:=a
 obtain ⟨b1,b2,b3,b4⟩:=b
 simp only [rqC,List.cons.injEq,DV.int.injEq,DV.str.injEq,true_and,and_true] at e
 obtain ⟨rfl,rfl,rfl,rfl⟩:=e
 rfl
theorem z4rf {x y:Sl Fct} (e:x.dv 71 faC=y.dv 71 faC):x=y:=dv_inj zs77 (by decide) (fun _ _=>z38a) e
theorem zedu {x y:Sl Fnd} (e:x.dv 39 fnC=y.dv 39 fnC):x=y:=dv_inj z0o0 (by decide) (fun _ _=>ziuj) e
theorem z8p4 {x y:Sl Str} (e:x.dv 1 stC=y.dv 1 stC):x=y:=dv_inj zqv6 (by decide) (fun _ _=>zwaz) e
theorem zejx {a b:Cas} (e:caC a=caC b):a=b:=by
 obtain ⟨a1,a2,a3,a4,a5⟩:=a
 obtain ⟨b1,b2,b3,b4,b5⟩:=b
 obtain ⟨e1,e⟩:=List.append_inj (s₁:=dgC a1) (s₂:=dgC b1) e (by rw [z1t1,z1t1])
 simp only [List.cons.injEq,DV.int.injEq,true_and,and_true] at e
 obtain ⟨rfl,e3,e4,e5⟩:=e
 rw [zib9 e1,z4rf e3,zedu e4,z8p4 e5]
theorem zhrh {a b:Org}:z32s (zi5g [(32,0),(2,1)]) (orC a) (orC b)=some (decide (a=b)):=by
 have e:zi5g [(32,0),(2,1)]=zi5g [(32,0)]++[1,1]:=rfl
 rw [e,orC,orC,zid2 (by simp [z1t1,zi5g]) (by simp [z1t1,zi5g]),zyiz]
 obtain ⟨a1,a2,a3⟩:=a
 obtain ⟨b1,b2,b3⟩:=b
 simp [z32s,znnj,Bool.and_assoc,zcn6]
theorem zq6c {a b:Req}:z32s [0,0,0,1] (rqC a) (rqC b)=some (decide (a=b)):=by
 obtain ⟨a1,a2,a3,a4⟩:=a
 obtain ⟨b1,b2,b3,b4⟩:=b
 simp [rqC,z32s,znnj,zcn6,Bool.beq_eq_decide_eq]
attribute [simp] zhrh zq6c
end Go.Proofs.YtdnhbfmlklaldaaGreat
set_option linter.unusedSimpArgs false
set_option linter.unusedVariables false
namespace Go.Proofs.YtdnhbfmlklaldaaGreat
open Go Go.Am
structure Tot {α:Type} (lt:α→α→Bool):Prop where
 irr : ∀ a,lt a a=false
 tr : ∀ a b c,lt a b=true→lt b c=true→lt a c=true
 tot : ∀ a b,lt a b=true∨a=b∨lt b a=true
set_option linter.unusedSectionVars false
section
variable {α:Type} [DecidableEq α] {lt:α→α→Bool}
def Asc (lt:α→α→Bool) (l:List α):Prop:=l.Pairwise (fun a b=>lt a b=true)
theorem z6q8 (o:Tot lt) {a b:α} {l m:List α} (h1:Asc lt (a::l)) (h2:Asc lt (b::m)) (h : ∀ x,x ∈ a::l↔x ∈ b::m):a=b:=by
 rw [Asc,List.pairwise_cons] at h1 h2
 have ha:=(h a).1 (by simp)
 have hb:=(h b).2 (by simp)
 rcases List.mem_cons.1 ha with e|ha
 ·exact e
 rcases List.mem_cons.1 hb with e|hb
 ·exact e.symm
 have:=o.tr _ _ _ (h1.1 b hb) (h2.1 a ha)
 rw [o.irr] at this; cases this
theorem zjfh (o:Tot lt) : ∀ {l m:List α},Asc lt l→Asc lt m→(∀ x,x ∈ l↔x ∈ m)→l=m
 | [],[],_,_,_=>rfl
 | [],b::m,_,_,h=>by have:=(h b).2 (by simp); simp at this
 | a::l,[],_,_,h=>by have:=(h a).1 (by simp); simp at this
 | a::l,b::m,h1,h2,h=>by
  have e:=z6q8 o h1 h2 h
  subst e
  have k1:=(List.pairwise_cons.1 h1).1
  have k2:=(List.pairwise_cons.1 h2).1
  rw [zjfh o (List.pairwise_cons.1 h1).2 (List.pairwise_cons.1 h2).2 fun x=>⟨fun hx => ?_,fun hx => ?_⟩]
  ·rcases List.mem_cons.1 ((h x).1 (by simp [hx])) with e|h'
   ·have:=k1 x hx; rw [e,o.irr] at this; cases this
   ·exact h'
  ·rcases List.mem_cons.1 ((h x).2 (by simp [hx])) with e|h'
   ·have:=k2 x hx; rw [e,o.irr] at this; cases this
   ·exact h'
def addU (lt:α→α→Bool) (l:List α) (d:α):List α:=if d ∈ l then l else l.takeWhile (fun x=>lt x d)++d::l.dropWhile (fun x=>lt x d)
def z534 (lt:α→α→Bool) (l:List α):List α:=l.foldl (addU lt) []
theorem z53k {l:List α} {d x:α}:x ∈ addU lt l d↔x=d∨x ∈ l:=by
 unfold addU
 split
 ·rename_i h
  exact ⟨.inr,fun q=>q.elim (fun e=>e▸h) id⟩
 ·have:=List.takeWhile_append_dropWhile (p:=fun x=>lt x d) (l:=l)
  constructor
  ·intro hx
   rcases List.mem_append.1 hx with hx|hx
   ·exact .inr (by rw [← this]; exact List.mem_append.2 (.inl hx))
   ·rcases List.mem_cons.1 hx with e|hx
    ·exact .inl e
    ·exact .inr (by rw [← this]; exact List.mem_append.2 (.inr hx))
  ·rintro (e|hx)
   ·rw [e]; exact List.mem_append.2 (.inr (by simp))
   ·rw [← this] at hx
    rcases List.mem_append.1 hx with hx|hx
    ·exact List.mem_append.2 (.inl hx)
    ·exact List.mem_append.2 (.inr (by simp [hx]))
theorem z8pq (o:Tot lt) {d:α} : ∀ {l:List α},Asc lt l→d ∉ l → ∀ x ∈ l.dropWhile (fun x=>lt x d),lt d x=true
 | [],_,_,x,hx=>by simp at hx
 | a::l,h,hn,x,hx=>by
  have h':=List.pairwise_cons.1 h
  rw [List.dropWhile_cons] at hx
  split at hx
  ·exact z8pq o h'.2 (fun q=>hn (by simp [q])) x hx
  ·rename_i q
   have hda:lt d a=true:=by
    rcases o.tot a d with e|e|e
    ·exact absurd e q
    ·exact absurd (by simp [e]) hn
    ·exact e
   rcases List.mem_cons.1 hx with e|hx
   ·rw [e]; exact hda
   ·exact o.tr _ _ _ hda (h'.1 x hx)
theorem zl1w (o:Tot lt) {l:List α} {d:α} (h:Asc lt l):Asc lt (addU lt l d):=by
 unfold addU
 split
 ·exact h
 ·rename_i hn
  have hs:=List.takeWhile_append_dropWhile (p:=fun x=>lt x d) (l:=l)
  have h0:Asc lt (l.takeWhile (fun x=>lt x d)++l.dropWhile (fun x=>lt x d)):=by rw [hs]; exact h
  rw [Asc,List.pairwise_append] at h0 ⊢
  obtain ⟨p1,p2,p3⟩:=h0
  refine ⟨p1,List.pairwise_cons.2 ⟨z8pq o h hn,p2⟩,fun a ha b hb => ?_⟩
  rcases List.mem_cons.1 hb with e|hb
  ·rw [e]; exact zeqt a ha
  ·exact p3 a ha b hb
theorem zyiy (o:Tot lt) : ∀ (m l:List α),Asc lt l→Asc lt (m.foldl (addU lt) l) ∧ ∀ x,x ∈ m.foldl (addU lt) l↔x ∈ m∨x ∈ l
 | [],l,h=>⟨h,fun x=>by simp⟩
 | d::m,l,h=>by
  obtain ⟨h1,h2⟩:=zyiy o m (addU lt l d) (zl1w o h)
  refine ⟨h1,fun x => ?_⟩
  rw [List.foldl_cons,h2,z53k,List.mem_cons]
  constructor
  ·rintro (q|q|q)
   ·exact .inl (.inr q)
   ·exact .inl (.inl q)
   ·exact .inr q
  ·rintro ((q|q)|q)
   ·exact .inr (.inl q)
   ·exact .inl q
   ·exact .inr (.inr q)
theorem zy4b (o:Tot lt) (l:List α):Asc lt (z534 lt l):=(zyiy o l [] List.Pairwise.nil).1
theorem zoav (o:Tot lt) (l:List α) (x:α):x ∈ z534 lt l↔x ∈ l:=by rw [z534,(zyiy o l [] List.Pairwise.nil).2]; simp
theorem zwlf (o:Tot lt) {l m:List α} (h:Asc lt m) (hm : ∀ x,x ∈ m↔x ∈ l):m=z534 lt l:=zjfh o h (zy4b o l) fun x=>by rw [hm,zoav o]
theorem zk4s {l:List α} {d:α}:(addU lt l d).length≤l.length+1:=by
 unfold addU
 split
 ·omega
 ·have:=congrArg List.length (List.takeWhile_append_dropWhile (p:=fun x=>lt x d) (l:=l))
  simp only [List.length_append,List.length_cons] at this ⊢
  omega
theorem znmg : ∀ (m l:List α),(m.foldl (addU lt) l).length≤m.length+l.length
 | [],l=>by simp
 | d::m,l=>by
  have h1:=znmg m (addU lt l d)
  have h2:=zk4s (lt:=lt) (l:=l) (d:=d)
  rw [List.foldl_cons,List.length_cons]; omega
theorem zsv6 (l:List α):(z534 lt l).length≤l.length:=by have:=znmg (lt:=lt) l []; simpa [z534] using this
def zwrc:List α→List α
 | []=>[]
 | a::l=>match zwrc l with
  | []=>[a]
  | b::r=>if a=b then b::r else a::b::r
theorem z0yn : ∀ {l:List α} {x:α},x ∈ zwrc l↔x ∈ l
 | [],x=>by simp [zwrc]
 | a::l,x=>by
  have ih:=z0yn (l:=l) (x:=x)
  simp only [zwrc]
  split
  ·rename_i h
   rw [h] at ih
   simp only [List.mem_cons,← ih]
  ·rename_i b r h
   rw [h] at ih
   split
   ·rename_i e
    rw [ih,List.mem_cons,e]
    exact ⟨.inr,fun q=>q.elim (fun q=>ih.1 (List.mem_cons.2 (.inl q))) id⟩
   ·rw [List.mem_cons,ih,List.mem_cons]
theorem z8ga : ∀ {a:α} {l:List α},∃ r,zwrc (a::l)=a::r
 | a,l=>by
  simp only [zwrc]
  split
  ·exact ⟨[],rfl⟩
  ·split
   ·rename_i e; subst e; exact ⟨_,rfl⟩
   ·exact ⟨_,rfl⟩
def Wsc (lt:α→α→Bool) (l:List α):Prop:=l.Pairwise (fun a b=>lt b a=false)
theorem zrc4 (o:Tot lt) {a b:α} (h:lt b a=false) (hn:a≠b):lt a b=true:=by
 rcases o.tot a b with e|e|e
 ·exact e
 ·exact absurd e hn
 ·rw [h] at e; cases e
theorem za1v (o:Tot lt) : ∀ {l:List α},Wsc lt l→Asc lt (zwrc l)
 | [],_=>List.Pairwise.nil
 | a::l,h=>by
  have h':=List.pairwise_cons.1 h
  have ih:=za1v o h'.2
  have hm:=fun x=>z0yn (l:=l) (x:=x)
  simp only [zwrc]
  split
  ·exact List.pairwise_singleton _ _
  ·rename_i b r e
   rw [e] at ih hm
   split
   ·exact ih
   ·rename_i hab
    refine List.pairwise_cons.2 ⟨fun x hx => ?_,ih⟩
    have hb:=zrc4 o (h'.1 b ((hm b).1 (by simp))) hab
    rcases List.mem_cons.1 hx with e|hx
    ·rw [e]; exact hb
    ·exact o.tr _ _ _ hb ((List.pairwise_cons.1 ih).1 x hx)
theorem z0qo (o:Tot lt) {l m:List α} (h:Wsc lt m) (hp:m.Perm l):zwrc m=z534 lt l:=zwlf o (za1v o h) fun x=>by rw [z0yn,hp.mem_iff]
theorem z3bg : ∀ (l:List α),(zwrc l).length≤l.length
 | []=>by simp [zwrc]
 | a::l=>by
  have ih:=z3bg l
  simp only [zwrc]
  split
  ·simp
  ·rename_i b r e
   rw [e] at ih
   split
   ·simp only [List.length_cons] at ih ⊢; omega
   ·simp only [List.length_cons] at ih ⊢; omega
theorem zjso (o:Tot lt) {x:α} {l:List α} (h:Wsc lt l):Wsc lt (insR lt x l):=by
 unfold insR
 have hs:(l.reverse.dropWhile (lt x)).reverse++(l.reverse.takeWhile (lt x)).reverse=l:=by
  rw [← List.reverse_append,List.takeWhile_append_dropWhile,List.reverse_reverse]
 have h0:Wsc lt ((l.reverse.dropWhile (lt x)).reverse++(l.reverse.takeWhile (lt x)).reverse):=by rw [hs]; exact h
 rw [Wsc,List.pairwise_append] at h0 ⊢
 obtain ⟨p1,p2,p3⟩:=h0
 have hT : ∀ b ∈ (l.reverse.takeWhile (lt x)).reverse,lt x b=true:=fun b hb=>zeqt b (List.mem_reverse.1 hb)
 have asym : ∀ {a b:α},lt a b=true→lt b a=false:=fun {a b} q=>by
  cases e:lt b a with
  | false=>rfl
  | true=>have:=o.tr _ _ _ q e; rw [o.irr] at this; cases this
 have hD : ∀ b ∈ (l.reverse.dropWhile (lt x)).reverse,lt x b=false:=fun b hb=>by
  rcases zwbv (p:=lt x) (l:=l.reverse) with e|⟨y,r,e,hy⟩
  ·rw [e] at hb; simp at hb
  ·rw [e] at hb p1
   rw [List.reverse_cons] at hb p1
   rcases List.mem_append.1 hb with hb|hb
   ·have hby:=(List.pairwise_append.1 p1).2.2 b hb y (by simp)
    cases q:lt x b with
    | false=>rfl
    | true =>
     rcases o.tot b y with e1|e1|e1
     ·have:=o.tr _ _ _ q e1; rw [hy] at this; cases this
     ·rw [e1,hy] at q; cases q
     ·rw [hby] at e1; cases e1
   ·simp at hb; rw [hb]; exact hy
 refine ⟨p1,List.pairwise_cons.2 ⟨fun b hb=>asym (hT b hb),p2⟩,fun a ha b hb => ?_⟩
 rcases List.mem_cons.1 hb with e|hb
 ·rw [e]; exact hD a ha
 ·exact p3 a ha b hb
theorem zsyr (o:Tot lt) (l:List α):Wsc lt (zxu4 lt l):=by
 induction l using z77f with
 | h0=>exact List.Pairwise.nil
 | h1 l x ih=>rw [zuk7]; exact zjso o ih
theorem zl78 (o:Tot lt) (l:List α):zwrc (zxu4 lt l)=z534 lt l:=z0qo o (zsyr o l) (zo43 l)
end
theorem zrk4 : ∀ a:Str,Op.bytesLess a a=false
 | []=>rfl
 | a::l=>by simp [Op.bytesLess,zrk4 l]
theorem z8c3 : ∀ a b c:Str,Op.bytesLess a b=true→Op.bytesLess b c=true→Op.bytesLess a c=true
 | _,_,[],_,h=>by simp [Op.bytesLess] at h
 | [],_,_::_,_,_=>rfl
 | _::_,[],_::_,h,_=>by simp [Op.bytesLess] at h
 | a::x,b::y,c::z,h1,h2=>by
  simp only [Op.bytesLess,Bool.or_eq_true,Bool.and_eq_true,decide_eq_true_eq,beq_iff_eq] at *
  rcases h1 with h1|⟨h1,h1'⟩
  ·rcases h2 with h2|⟨h2,h2'⟩
   ·exact .inl (UInt8.lt_trans h1 h2)
   ·exact .inl (h2▸h1)
  ·rcases h2 with h2|⟨h2,h2'⟩
   ·exact .inl (h1▸h2)
   ·exact .inr ⟨h1.trans h2,z8c3 _ _ _ h1' h2'⟩
theorem zoet : ∀ a b:Str,Op.bytesLess a b=true∨a=b∨Op.bytesLess b a=true
 | [],[] => .inr (.inl rfl)
 | [],_::_ => .inl rfl
 | _::_,[] => .inr (.inr rfl)
 | a::x,b::y=>by
  simp only [Op.bytesLess,Bool.or_eq_true,Bool.and_eq_true,decide_eq_true_eq,beq_iff_eq]
  rcases UInt8.lt_or_lt_of_ne (a:=a) (b:=b) |> fun h=>(Classical.em (a=b)).imp_right h with e|e|e
  ·rcases zoet x y with q|q|q
   ·exact .inl (.inr ⟨e,q⟩)
   ·exact .inr (.inl (by rw [e,q]))
   ·exact .inr (.inr (.inr ⟨e.symm,q⟩))
  ·exact .inl (.inl e)
  ·exact .inr (.inr (.inl e))
theorem z3gj:Tot Op.bytesLess:=⟨zrk4,z8c3,zoet⟩
theorem zqwe {α β:Type} {lt:β→β→Bool} {f:α→β} (hf : ∀ a b,f a=f b→a=b) (o:Tot lt):Tot (fun a b=>lt (f a) (f b)) :=
 ⟨fun a=>o.irr _,fun a b c=>o.tr _ _ _,fun a b=>(o.tot (f a) (f b)).imp_right (Or.imp_left (hf a b))⟩
def zynh {α β:Type} [DecidableEq α] (l1:α→α→Bool) (l2:β→β→Bool) (a b:α × β):Bool:=if a.1=b.1 then l2 a.2 b.2 else l1 a.1 b.1
theorem zcht {α β:Type} [DecidableEq α] {l1:α→α→Bool} {l2:β→β→Bool} (o1:Tot l1) (o2:Tot l2):Tot (zynh l1 l2):=by
 refine ⟨fun a=>by simp [zynh,o2.irr],fun a b c h1 h2 => ?_,fun a b => ?_⟩
 ·unfold zynh at *
  by_cases e1:a.1=b.1
  ·by_cases e2:b.1=c.1
   ·rw [if_pos e1] at h1; rw [if_pos e2] at h2; rw [if_pos (e1.trans e2)]; exact o2.tr _ _ _ h1 h2
   ·rw [if_neg e2] at h2; rw [e1,if_neg e2]; exact h2
  ·rw [if_neg e1] at h1
   by_cases e2:b.1=c.1
   ·rw [← e2,if_neg e1]; exact h1
   ·rw [if_neg e2] at h2
    have h3:=o1.tr _ _ _ h1 h2
    rw [if_neg fun e=>by rw [e,o1.irr] at h3; cases h3]
    exact h3
 ·unfold zynh
  by_cases e:a.1=b.1
  ·rw [if_pos e,if_pos e.symm]
   rcases o2.tot a.2 b.2 with q|q|q
   ·exact .inl q
   ·exact .inr (.inl (Prod.ext e q))
   ·exact .inr (.inr q)
  ·rw [if_neg e,if_neg (fun q=>e q.symm)]
   rcases o1.tot a.1 b.1 with q|q|q
   ·exact .inl q
   ·exact absurd q e
   ·exact .inr (.inr q)
def dgU (d:Dg):List UInt8:=d.1.map fun b=>b.toNat.toUInt8
theorem zvz3 {a b:B8} (h:a.toNat.toUInt8=b.toNat.toUInt8):a=b:=by
 have ha:=a.isLt
 have hb:=b.isLt
 have h1:=congrArg UInt8.toNat h
 simp only [Nat.toUInt8_eq,UInt8.toNat_ofNat',Nat.mod_eq_of_lt ha,Nat.mod_eq_of_lt hb] at h1
 exact BitVec.eq_of_toNat_eq h1
theorem znyd (a b:Dg) (h:dgU a=dgU b):a=b:=Subtype.ext (List.map_inj_right (fun _ _=>zvz3) |>.1 h)
def dgLt (a b:Dg):Bool:=Op.bytesLess (dgU a) (dgU b)
theorem zc3a:Tot dgLt:=zqwe (lt:=Op.bytesLess) (f:=dgU) znyd z3gj
def orLt (a b:Org):Bool:=zynh dgLt (zynh Op.bytesLess Op.bytesLess) (a.rev,a.lay,a.run) (b.rev,b.lay,b.run)
theorem zha4:Tot orLt:=zqwe (lt:=zynh dgLt (zynh Op.bytesLess Op.bytesLess)) (f:=fun o:Org=>(o.rev,o.lay,o.run)) (fun a b h=>by
 obtain ⟨a1,a2,a3⟩:=a; obtain ⟨b1,b2,b3⟩:=b
 simp only [Prod.mk.injEq] at h; obtain ⟨rfl,rfl,rfl⟩:=h; rfl) (zcht zc3a (zcht z3gj z3gj))
end Go.Proofs.YtdnhbfmlklaldaaGreat
set_option linter.unusedSimpArgs false
set_option linter.unusedVariables false
namespace Go.Proofs.YtdnhbfmlklaldaaGreat
open Go Go.Am
def nilS {α:Type}:Sl α:=⟨none,[],fun _=>rfl,by simp⟩
def ownN {α:Type} (l:List α):Sl α:=if l.isEmpty then nilS else own l
theorem zb11 {α:Type}:(nilS:Sl α).l=[]:=rfl
theorem z527 {α:Type} {l:List α} (h:l≠[]):ownN l=own l:=by cases l with|nil=>exact absurd rfl h|cons a l=>rfl
theorem zd8n {α:Type} {l:List α} (h:l.length≤4294967296):(ownN l).l=l:=by
 cases l with
 | nil=>rfl
 | cons a l=>rw [z527 (by simp),z3e9 h]
theorem z2i7 {α:Type} {s:Nat} {f:α→List DV}:(ownN ([]:List α)).dv s f = .nils:=rfl
theorem zgr3 {α:Type} {l:List α} {s:Nat} {f:α→List DV} (h:l≠[]) (hb:l.length≤4294967296):(ownN l).dv s f = .sl false s l.length (l.flatMap f):=by rw [z527 h,zqrs hb]
def z5z5 (f:Fct):Org:=⟨f.rev,f.lay,f.run⟩
def tmB (t:Int):Bool:=decide (0≤t)&&decide (t≤1099511627776)
inductive Sel where
 | every
 | same (o:Org)
 | source (o:Org)
 | chained (o:Org) (q:Req)
 | fresh (o:Org) (c:Cas) (q:Req)
 | target (d:Dg)
def Sel.p:Sel→Fct→Bool
 | .every,_=>true
 | .same o,f=>decide (z5z5 f=o)
 | .source o,f=>decide (f.rev=o.rev)
 | .chained o q,f=>decide (z5z5 f=o)&&decide (f.lay=q.text)
 | .fresh o c q,f=>decide (z5z5 f=o)&&(tmB f.at_&&(tmB c.at_&&(decide (f.at_≤c.at_)&&decide (c.at_-f.at_≤q.n))))
 | .target d,f=>decide (f.tgt=d)
def zskr (l:List Fct) (k:Int) (s:Sel):List Fct:=l.filter fun f=>decide (f.kind=k)&&s.p f
def strU (l:List Str):List Str:=z534 Op.bytesLess l
def dgsU (l:List Dg):List Dg:=z534 dgLt l
def zzy4 (l:List Fct):List Str:=strU (l.map (·.own))
def zm3u (l:List Fct) (n:Str):List Dg:=match l.find? (fun f=>decide (f.own=n)) with
 | some f=>f.docs.l
 | none=>[]
def ztt8 (l:List Fct) (names:List Str):List Dg:=names.flatMap (zm3u l)
def zln3 (x:Sl Dg):Sl Dg:=if x.l=[] then x.clone else own (dgsU x.l)
def zp7s (docs:Sl Dg):Sup:=⟨true,zln3 docs,0⟩
def zcc9 (n:Int):Sup:=⟨false,nilS,n⟩
def zfyl (l:List Fct) (n:Int):Sup:=if (zzy4 l).length<n then zcc9 (n-(zzy4 l).length) else zp7s (ownN (ztt8 l ((zzy4 l).take n.toNat)))
def oneS (l:List Fct):Sup:=match l with
 | []=>zcc9 1
 | f::_=>zp7s f.docs
def zqgg (all:List Fct):List Str:=zzy4 (all.filter fun f => !f.agr)
def zob0 (shown all:List Fct):List Str:=(zzy4 shown).filter fun n => !decide (n ∈ zqgg all)
def z5nq (shown all:List Fct) (q:Req):Int:=max (q.n-(zob0 shown all).length) 0+max ((zqgg all).length-q.m) 0
def zo4d (shown all:List Fct) (q:Req):Sup:=if 0<z5nq shown all q then zcc9 (z5nq shown all q) else zp7s (ownN (ztt8 shown ((zob0 shown all).take q.n.toNat)))
def zdgi (l:List Fct) (n:Int):List Dg→Int→Sup
 | [],m=>zcc9 m
 | d::r,m=>if (zfyl (zskr l 5 (.target d)) n).holds then zfyl (zskr l 5 (.target d)) n else zdgi l n r (min m (zfyl (zskr l 5 (.target d)) n).missing)
def zf55 (l:List Fct) (n:Int):Sup:=zdgi l n (dgsU (l.map (·.tgt))) n
def decS (l:List Fnd) (s:Int):List Dg:=(l.filter fun f=>decide (s≤f.sev)).flatMap (·.dd.l)
def zk2r (f:Fnd):Bool:=decide (f.st=3)||decide (f.st=4)
def zcm1 (l:List Fnd) (s:Int):List Fnd:=l.filter fun f=>zk2r f&&decide (s≤f.sev)
def zu7t (l:List Fnd):Int:=(l.filter (·.con)).length
def zpu0 (l:List Fct) (n:Int) (docs:List Dg):Sup:=match l with
 | []=>zcc9 1
 | f::_=>if 0<n then zcc9 n else zp7s (ownN (f.docs.l++docs))
def zvkf (c:Cas) (fs all:List Fct) (o:Org) (q:Req):Sup :=
 if q.kind=1 then zfyl (zskr fs 1 (.same o)) q.n
 else if q.kind=2 then oneS (zskr fs 2 (.chained o q))
 else if q.kind=3 then zfyl (zskr fs 3 (.source o)) q.n
 else if q.kind=4 then zo4d (zskr fs 4 (.source o)) (zskr all 4 (.source o)) q
 else if q.kind=5 then zf55 (zskr fs 5 .every) q.n
 else if q.kind=6 then zpu0 (zskr fs 5 .every) (zcm1 c.n.l q.n).length (decS c.n.l q.n)
 else if q.kind=7 then oneS (zskr fs 1 (.fresh o c q))
 else zpu0 (zskr fs 5 .every) (zu7t c.n.l+c.d.l.length) []
def zh9a (first:Bool) (b:UInt8):Bool:=((decide (97#8≤b.toBitVec)&&decide (b.toBitVec≤122#8))||(decide (48#8≤b.toBitVec)&&decide (b.toBitVec≤57#8)))||(!first&&(decide (b.toBitVec=46#8)||decide (b.toBitVec=95#8)||decide (b.toBitVec=45#8)))
def zt9v (s:Str):Bool:=decide (1≤s.length)&&decide (s.length≤64)&&(match s with|[]=>false|b::r=>zh9a true b&&r.all (zh9a false))
def inB (n a b:Int):Bool:=decide (a≤n)&&decide (n≤b)
def reqB (q:Req):Bool :=
 if q.kind=1∨q.kind=3∨q.kind=5 then inB q.n 1 32&&decide (q.m=0)&&decide (q.text=[])
 else if q.kind=4 then inB q.n 1 32&&inB q.m 0 32&&decide (q.text=[])
 else if q.kind=2 then decide (q.n=0)&&decide (q.m=0)&&zt9v q.text
 else if q.kind=6 then inB q.n 1 10&&decide (q.m=0)&&decide (q.text=[])
 else if q.kind=7 then inB q.n 0 1099511627776&&decide (q.m=0)&&decide (q.text=[])
 else decide (q.kind=8)&&decide (q.n=0)&&decide (q.m=0)&&decide (q.text=[])
def supZ:Sup:=⟨false,nilS,0⟩
def zwwp (c:Cas) (o:Org) (q:Req):Sup:=if reqB q then zvkf c c.f.l c.f.l o q else supZ
def subB (l docs:List Dg):Bool:=l.all fun d=>decide (d ∈ docs)
def ByS (c:Cas) (o:Org) (q:Req) (docs:List Dg):Bool :=
 reqB q&&(!decide (q.kind=6)||subB (decS c.n.l q.n) docs)&&(zvkf c (c.f.l.filter fun f=>subB f.docs.l docs) c.f.l o q).holds
end Go.Proofs.YtdnhbfmlklaldaaGreat
set_option linter.unusedSimpArgs false
set_option linter.unusedVariables false
namespace Go.Proofs.YtdnhbfmlklaldaaGreat
open Go Go.Am
noncomputable def cS1 (g:DV):List DV→Option DV:=con (fun _=>True) (fun a:Str=>[.str a]) (fun _=>g)
theorem z8u6 {g:DV} {a:Str}:cS1 g [.str a]=some g:=zsn4 (f:=fun a:Str=>[.str a]) (g:=fun _=>g) (fun a b e=>by simpa using e) a
theorem zy87 {a b:List UInt8}:zhl4 .lss (.str a) (.str b)=some (.bool (Op.bytesLess a b)):=rfl
attribute [simp] zy87
theorem zc8m (a:Str):Runs tbl0 a63 [.str a] (.bool false):=by
 refine ⟨?_⟩
 simp (disch:=first|omega|simp<;>omega|fail) [-zA,-zB,-zC,-zD,-zE,a63]
noncomputable def T500:Tbl:=addT 63 (.pure (cS1 (.bool false))) tbl0
theorem zp4j:T500 63 = .pure (cS1 (.bool false)):=by simp [T500]
theorem zii9:T500.Sound P:=z0rp (z2au fun a _=>zljw mix zr5o Tryz.func63 z2tu (zc8m a)) zr5o
theorem zjj2 {pre l:List AObj} {ver:Nat}:objV (pre++l) pre.length ver=objV l 0 ver:=by
 unfold objV ziu0; rw [List.getElem?_append_right (by omega),Nat.sub_self]
theorem zxft {pre l:List AObj} {o:AObj}:(pre++l).set pre.length o=pre++l.set 0 o:=by rw [List.set_append_right _ _ (by omega)]; simp
section
variable {α:Type} {lt:α→α→Bool}
theorem zmgd (l:List α):(zxu4 lt l).length=l.length:=(zo43 l).length_eq
theorem zbpl [DecidableEq α] (o:Tot lt) (l:List α):l.mergeSort (fun x y => !lt y x)=zxu4 lt l:=by
 have asym : ∀ {a b:α},lt a b=true→lt b a=false:=fun {a b} h=>by
  cases q:lt b a with
  | false=>rfl
  | true=>have:=o.tr _ _ _ h q; rw [o.irr] at this; cases this
 refine List.Perm.eq_of_pairwise (le:=fun a b=>lt b a=false) (fun a b _ _ h1 h2 => ?_) ?_ (zsyr o l) ((List.mergeSort_perm l _).trans (zo43 l).symm)
 ·rcases o.tot a b with q|q|q
  ·rw [h2] at q; cases q
  ·exact q
  ·rw [h1] at q; cases q
 ·refine (List.pairwise_mergeSort (le:=fun x y => !lt y x) (fun a b c h1 h2 => ?_) (fun a b => ?_) l).imp (fun {a b} h=>by simpa using h)
  ·simp only [Bool.not_eq_true'] at h1 h2 ⊢
   cases q:lt c a with
   | false=>rfl
   | true =>
    rcases o.tot a b with e|e|e
    ·have:=o.tr _ _ _ q e; rw [h2] at this; cases this
    ·subst e; rw [h2] at q; cases q
    ·rw [h1] at e; cases e
  ·cases q:lt b a with
   | false=>simp
   | true=>simp [asym q]
theorem zjqi (o:Tot lt):Go.Sort.SWO lt:=⟨o.irr,o.tr,fun x y z h1 h2=>by
 cases q:lt x z with
 | false=>rfl
 | true =>
  rcases o.tot x y with e|e|e
  ·rw [h1] at e; cases e
  ·subst e; rw [h2] at q; cases q
  ·have:=o.tr _ _ _ e q; rw [h2] at this; cases this⟩
theorem zsri (o:Tot lt) {a b:α} (h1:lt a b=false) (h2:lt b a=false):a=b:=by
 rcases o.tot a b with q|q|q
 ·rw [h1] at q; cases q
 ·exact q
 ·rw [h2] at q; cases q
end
theorem dv_z {α:Type} {x:Sl α} {s:Nat} {f:α→List DV} (h:x.l=[]):x.dv s f = .nils ∨ ∃ full k cs,x.dv s f = .sl full k 0 cs:=by
 unfold Sl.dv slD
 rw [h]
 cases x.k with
 | none=>exact .inl rfl
 | some b=>exact .inr ⟨_,_,_,rfl⟩
end Go.Proofs.YtdnhbfmlklaldaaGreat
set_option linter.unusedSimpArgs false
set_option linter.unusedVariables false
namespace Go.Proofs.YtdnhbfmlklaldaaGreat
open Go Go.Am
set_option linter.unusedSectionVars false
section
variable {α:Type} [DecidableEq α]
def zhpr (a:α):List α→List α
 | []=>[a]
 | b::r=>if a=b then b::r else a::b::r
theorem zysm (a:α) (l:List α):zwrc (a::l)=zhpr a (zwrc l):=by
 rw [zwrc]; cases zwrc l<;>rfl
theorem zyw4 {a b x:α} {r:List α}:zhpr a (b::r++[x])=zhpr a (b::r)++[x]:=by
 simp only [List.cons_append,zhpr]; split<;>simp
theorem zu8d : ∀ (l:List α) (x:α),zwrc (l++[x])=if l.getLast? = some x then zwrc l else zwrc l++[x]
 | [],x=>by simp [zwrc]
 | [a],x=>by
  by_cases h:a=x
  ·simp [zwrc,h]
  ·simp [zwrc,h]
 | a::b::r,x=>by
  have ih:=zu8d (b::r) x
  obtain ⟨r',hr⟩:=z8ga (a:=b) (l:=r)
  rw [List.cons_append,zysm a (b::r++[x]),zysm a (b::r),ih,List.getLast?_cons_cons]
  by_cases h:(b::r).getLast? = some x
  ·rw [if_pos h,if_pos h]
  ·rw [if_neg h,if_neg h,hr,zyw4]
theorem zapi {l:List α} {j:Nat} (h0:0<j) (h:j≤l.length):(l.take j).getLast? = some l[j-1]:=by
 obtain ⟨i,rfl⟩ : ∃ i,j=i+1:=⟨j-1,by omega⟩
 rw [List.take_succ_eq_append_getElem (by omega),List.getLast?_concat]
 rfl
theorem z6fn {l:List α} {j:Nat} (h0:0<j) (h:j<l.length):zwrc (l.take (j+1))=if l[j-1]=l[j] then zwrc (l.take j) else zwrc (l.take j)++[l[j]]:=by
 rw [List.take_succ_eq_append_getElem h,zu8d,zapi h0 (by omega)]
 by_cases e:l[j-1]=l[j]<;>simp [e]
structure CPg (α:Type) where
 j:Nat
 M:List α
structure CompI (l:List α) (k0:Nat) (a:CPg α):Prop where
 j0:k0<a.j
 j1:a.j≤l.length
 len:a.M.length=l.length
 t:a.M.take (zwrc (l.take a.j)).length=zwrc (l.take a.j)
 d:a.M.drop (a.j-1)=l.drop (a.j-1)
 k:(zwrc (l.take a.j)).length≤a.j-1
theorem CompI.start {l:List α} {k0:Nat} (h0:0<k0) (h:k0<l.length) (hc:zwrc (l.take k0)=l.take k0) (he:l[k0-1]=l[k0]):CompI l k0 ⟨k0+1,l⟩∧(zwrc (l.take (k0+1))).length=k0:=by
 have e:zwrc (l.take (k0+1))=l.take k0:=by rw [z6fn h0 h,if_pos he,hc]
 have el:(zwrc (l.take (k0+1))).length=k0:=by rw [e,List.length_take]; omega
 exact ⟨⟨by simp,h,rfl,by simp only [el]; exact e.symm,rfl,by simp only [el]; omega⟩,el⟩
theorem CompI.get {l:List α} {k0:Nat} {a:CPg α} (h:CompI l k0 a) (hj:a.j<l.length) (h1:a.j<a.M.length) (h2:a.j-1<a.M.length):a.M[a.j]=l[a.j]∧a.M[a.j-1]=l[a.j-1]:=by
 have hd:=h.d
 have h0:=h.j0
 have e1:(a.M.drop (a.j-1))[0]'(by simp; omega)=(l.drop (a.j-1))[0]'(by simp; omega):=by simp only [hd]
 have e2:(a.M.drop (a.j-1))[1]'(by simp; omega)=(l.drop (a.j-1))[1]'(by simp; omega):=by simp only [hd]
 simp only [List.getElem_drop,Nat.add_zero] at e1
 simp only [List.getElem_drop,show a.j-1+1=a.j by omega] at e2
 exact ⟨e2,e1⟩
theorem z0q8 {l M:List α} {i:Nat} (h:M.drop i=l.drop i):M.drop (i+1)=l.drop (i+1):=by
 have:=congrArg (List.drop 1) h
 simpa [List.drop_drop] using this
theorem CompI.same {l:List α} {k0:Nat} {a:CPg α} (h:CompI l k0 a) (h0:0<k0) (hj:a.j<l.length) (e:l[a.j-1]=l[a.j]):CompI l k0 ⟨a.j+1,a.M⟩∧zwrc (l.take (a.j+1))=zwrc (l.take a.j):=by
 have hj0:=h.j0
 have ec:zwrc (l.take (a.j+1))=zwrc (l.take a.j):=by rw [z6fn (by omega) hj,if_pos e]
 have hd:=z0q8 h.d
 rw [show a.j-1+1=a.j by omega] at hd
 exact ⟨⟨by simp only; omega,hj,h.len,by simp only [ec]; exact h.t,by simpa using hd,by have:=h.k; simp only [ec]; omega⟩,ec⟩
theorem CompI.step {l:List α} {k0:Nat} {a:CPg α} (h:CompI l k0 a) (h0:0<k0) (hj:a.j<l.length) (e:¬ l[a.j-1]=l[a.j]):CompI l k0 ⟨a.j+1,a.M.set (zwrc (l.take a.j)).length l[a.j]⟩∧(zwrc (l.take (a.j+1))).length=(zwrc (l.take a.j)).length+1:=by
 have hj0:=h.j0
 have hk:=h.k
 have hl:=h.len
 have ht:=h.t
 have ec:zwrc (l.take (a.j+1))=zwrc (l.take a.j)++[l[a.j]]:=by rw [z6fn (by omega) hj,if_neg e]
 have el:(zwrc (l.take (a.j+1))).length=(zwrc (l.take a.j)).length+1:=by rw [ec]; simp
 obtain ⟨C,hC⟩ : ∃ C,zwrc (l.take a.j)=C:=⟨_,rfl⟩
 rw [hC] at ec el hk ht ⊢
 have hd:=z0q8 h.d
 rw [show a.j-1+1=a.j by omega] at hd
 refine ⟨⟨by simp only; omega,hj,by simp only [List.length_set]; exact hl,?_,?_,by simp only [el]; omega⟩,el⟩
 ·show (a.M.set C.length l[a.j]).take (zwrc (l.take (a.j+1))).length=zwrc (l.take (a.j+1))
  rw [el,ec]
  rw [List.set_eq_take_append_cons_drop,if_pos (by omega),ht,List.take_append,List.take_of_length_le (by omega),show C.length+1-C.length=1 by omega]
  rfl
 ·simp only [show a.j+1-1=a.j by omega]
  rw [List.drop_set,if_pos (by omega)]
  exact hd
theorem CompI.fin {l:List α} {k0:Nat} {a:CPg α} (h:CompI l k0 a) (hj:a.j=l.length):a.M=zwrc l++a.M.drop (zwrc l).length:=by
 have ht:=h.t
 rw [hj,List.take_length] at ht
 have:=(List.take_append_drop (zwrc l).length a.M).symm
 rw [ht] at this
 exact this
def zly8 (z:α) (l:List α):List α:=zwrc l++List.replicate (l.length-(zwrc l).length) z
theorem zglm (z:α) (l:List α):(zly8 z l).length=l.length:=by have:=z3bg l; simp [zly8]; omega
theorem zixv {z:α} {l:List α} (h:zwrc l=l):zly8 z l=l:=by simp [zly8,h]
end
theorem zem6 {A B C:List DV} (h:B.length=C.length):zk7y (A++B) A.length C=A++C:=by
 unfold zk7y
 rw [List.take_left,← h,← List.length_append,List.drop_length,List.append_nil]
def stV (p:Nat) (l:List Str):DV:=if l=[] then .nils else .ms p l.length 0 1 l.length l.length
def stH (pre:List AObj) (l:List Str):List AObj:=if l=[] then pre else pre++[.cells (l.map .str)]
theorem zejt {p:Nat}:stV p [] = .nils:=rfl
theorem z4dm {pre:List AObj}:stH pre []=pre:=rfl
theorem z93k {p:Nat} {l:List Str} (h:l≠[]):stV p l = .ms p l.length 0 1 l.length l.length:=if_neg h
theorem zm1n {pre:List AObj} {l:List Str} (h:l≠[]):stH pre l=pre++[.cells (l.map .str)]:=if_neg h
theorem zsma {a b:List Str}:a.map DV.str=b.map DV.str↔a=b:=List.map_inj_right (fun _ _ h=>by simpa using h)
theorem zmfa {pre pre':List AObj} {l l':List Str} (h1:stV pre.length l=stV pre'.length l') (h2:stH pre l=stH pre' l'):pre=pre'∧l=l':=by
 by_cases e:l=[]
 ·by_cases e':l'=[]
  ·subst e e'; exact ⟨h2,rfl⟩
  ·subst e; rw [zejt,z93k e'] at h1; cases h1
 ·by_cases e':l'=[]
  ·subst e'; rw [zejt,z93k e] at h1; cases h1
  ·rw [zm1n e,zm1n e'] at h2
   have h:=List.append_inj' h2 rfl
   refine ⟨h.1,?_⟩
   have h3:=h.2
   simp only [List.cons.injEq,AObj.cells.injEq,and_true,zsma] at h3
   exact h3
abbrev SA:=List AObj × List Str
noncomputable def cSt (A:SA→Prop) (f:SA→List DV) (g:SA→DV × List AObj):List DV→List AObj→Option (DV × List AObj):=conH A (fun a=>(f a,stH a.1 a.2)) g
theorem z6bm {A:SA→Prop} {f:SA→List DV} {g:SA→DV × List AObj} (hf : ∀ a b,f a=f b→stV a.1.length a.2=stV b.1.length b.2) {a:SA} (h:A a):cSt A f g (f a) (stH a.1 a.2)=some (g a) :=
 zu6y (A:=A) (f:=fun a=>(f a,stH a.1 a.2)) (g:=g) (fun a b h1 h2 e=>by
  simp only [Prod.mk.injEq] at e
  obtain ⟨p,q⟩:=zmfa (hf a b e.1) e.2
  rw [show a=b from Prod.ext p q]) a h
def sSrt (a:SA):DV × List AObj:=(.tup [],stH a.1 (zxu4 Op.bytesLess a.2))
def sB (a:SA):Prop:=a.2.length≤1000
def fOne (a:SA):List DV:=[stV a.1.length a.2]
theorem zshm (a b:SA) (e:fOne a=fOne b):stV a.1.length a.2=stV b.1.length b.2:=by simp only [fOne,List.cons.injEq] at e; exact e.1
theorem ztug {l:List Str} (h:l≠[]):zxu4 Op.bytesLess l≠[]:=fun e=>h (List.eq_nil_of_length_eq_zero (by rw [← zmgd (lt:=Op.bytesLess),e]; rfl))
theorem z588 {x y:Str}:leS x y = !Op.bytesLess y x:=by
 unfold leS
 rw [bytesLess_eq]
 by_cases h:y<x
 ·rw [decide_eq_true h,decide_eq_false (List.not_le.2 h)]; rfl
 ·rw [decide_eq_false h,decide_eq_true (List.not_lt.1 h)]; rfl
theorem z92z:(Con.heap (cSt sB fOne sSrt)).Sound P 125:=z7sf fun a h=>by
 obtain ⟨pre,l⟩:=a
 have h:l.length≤1000:=h
 have hent:Ent P 125:=z36x Tryz.func125 (by kernel_rfl) rfl
 by_cases e:l=[]
 ·subst e
  exact z4sw (P:=P) z7es hent
 ·simp only [fOne,z93k e,zm1n e]
  refine (zfho (P:=P) z7es hent (id:=pre.length) (ss:=l) (lim:=l.length) (by unfold ziu0; rw [List.getElem?_append_right (Nat.le_refl _),Nat.sub_self]; rfl) e (by omega)).mono ?_
  rintro r h' ⟨rfl,rfl⟩
  have hm:l.mergeSort leS=zxu4 Op.bytesLess l:=by
   rw [← zbpl z3gj,show leS=fun x y => !Op.bytesLess y x from funext fun x=>funext fun y=>z588]
  simp only [sSrt]
  rw [hm,zm1n (ztug e),zxft]
  simp
end Go.Proofs.YtdnhbfmlklaldaaGreat
set_option linter.unusedSimpArgs false
set_option linter.unusedVariables false
namespace Go.Proofs.YtdnhbfmlklaldaaGreat
open Go Go.Am
def cmV (p:Nat) (l:List Str):DV:=if l=[] then .nils else .ms p l.length 0 1 (zwrc l).length l.length
def cmH (pre:List AObj) (l:List Str):List AObj:=stH pre (zly8 [] l)
theorem zjem {p:Nat} {l:List Str} (h:l≠[]):cmV p l = .ms p l.length 0 1 (zwrc l).length l.length:=if_neg h
theorem zc33 {l:List Str} (h:l≠[]):zly8 [] l≠[]:=fun e=>h (List.eq_nil_of_length_eq_zero (by rw [← zglm [] l,e]; rfl))
theorem zt8r {pre:List AObj} {l:List Str} (h:l≠[]):cmH pre l=pre++[.cells ((zly8 [] l).map .str)]:=zm1n (zc33 h)
def S510 (pre:List AObj) (n:Nat) (l:List Str) (k:Nat):St:=z8io (.ms pre.length n 0 1 n n) (.int .i64 k) (pre++[.cells (l.map .str)])
def S511 (pre:List AObj) (n k0:Nat) (l:List Str) (a:CPg Str):St:=z0wp (.ms pre.length n 0 1 n n) (.int .i64 (zwrc (l.take a.j)).length) (.ms pre.length n k0 1 (n-k0) n) (.int .i64 ((a.j-k0:Nat):Int)) (pre++[.cells (a.M.map .str)])
theorem zgjp {n:Nat}:reps n [DV.str []]=(List.replicate n ([]:Str)).map .str:=by
 induction n with
 | zero=>rfl
 | succ n ih=>rw [List.replicate_succ,List.map_cons,← ih]; rfl
theorem zgup {l:List Str} (h:l.length≤1):zwrc l=l:=by
 match l,h with
 | [],_=>rfl
 | [a],_=>rfl
theorem zo37 (pre:List AObj) (l:List Str) (hb:l.length≤1000000) (hne:l≠[]) :
  RunsH tbl0 a126 [.ms pre.length l.length 0 1 l.length l.length] (pre++[.cells (l.map .str)]) (.ms pre.length l.length 0 1 (zwrc l).length l.length) (pre++[.cells ((zly8 [] l).map .str)]):=by
 refine ⟨?_⟩
 obtain ⟨n,hn⟩ : ∃ n,l.length=n:=⟨_,rfl⟩
 have hn0:0<n:=by rw [← hn]; exact List.length_pos_iff.2 hne
 have hln:lenD (pre++[.cells (l.map .str)]) (.ms pre.length n 0 1 n n)=some (.int .i64 n):=by simp [zrsa,hn]
 rw [hn]
 rw [hn] at hb
 by_cases h2:n<2
 ·have h2':(n:Int)<2:=by omega
  have hc:=zgup (l:=l) (by omega)
  have hcl:(zwrc l).length=n:=by rw [hc,hn]
  have ho:=zixv (z:=[]) hc
  rw [hcl,ho]
  simp (disch:=first|omega|simp<;>omega|fail) [-zA,-zB,-zC,-zD,-zE,a126,hln,h2,h2']
 have h2':¬ (n:Int)<2:=by omega
 simp (disch:=first|omega|simp<;>omega|fail) [-zA,-zB,-zC,-zD,-zE,a126,hln,h2,h2']
 refine zlm5 (S510 pre n l) (fun i=>n-i) (fun i=>1≤i∧i≤n∧zwrc (l.take i)=l.take i) 1 (z515 (by simp (disch:=first|omega|simp<;>omega|fail) [-zA,-zB,-zC,-zD,-zE,S510,z8io]) (by simp (disch:=first|omega|simp<;>omega|fail) [-zA,-zB,-zC,-zD,-zE,S510,z8io])) ⟨by omega,by omega,zgup (by simp; omega)⟩ (fun i hi => ?_)
 obtain ⟨h3,h4,h5⟩:=hi
 simp (disch:=first|omega|simp<;>omega|fail) [-zA,-zB,-zC,-zD,-zE,zr1f,z8io,S510,hln]
 by_cases h:i<n
 ·have h':(i:Int)<n:=by omega
  have hil:i<l.length:=by omega
  have hi1:(((i:Int)-1)).toNat=i-1:=by omega
  by_cases e:l[i-1]=l[i]
  ·simp (disch:=first|omega|simp<;>omega|fail) [-zA,-zB,-zC,-zD,-zE,h,h',hn,zjj2,hi1,e]
   obtain ⟨hs,hk⟩:=CompI.start (by omega) hil h5 e
   refine zlm5 (S511 pre n i l) (fun a=>n-a.j) (fun a=>CompI l i a) ⟨i+1,l⟩ (z515 (by simp (disch:=first|omega|simp<;>omega|fail) [-zA,-zB,-zC,-zD,-zE,S511,z0wp,hk]) (by simp (disch:=first|omega|simp<;>omega|fail) [-zA,-zB,-zC,-zD,-zE,S511,z0wp])) hs (fun a ha => ?_)
   obtain ⟨j,M⟩:=a
   have h6:=ha.j0
   have h7:=ha.j1
   have h8:=ha.len
   have h9:=ha.k
   simp only at h6 h7 h8 h9
   obtain ⟨K,hK⟩ : ∃ K,(zwrc (l.take j)).length=K:=⟨_,rfl⟩
   obtain ⟨J,hJ⟩ : ∃ J,j-i=J:=⟨_,rfl⟩
   rw [hK] at h9
   have hlM:lenD (pre++[.cells (M.map .str)]) (.ms pre.length n i 1 (n-i) n)=some (.int .i64 ((n-i:Nat):Int)):=by simp [zrsa,h8,hn]
   simp (disch:=first|omega|simp<;>omega|fail) [-zA,-zB,-zC,-zD,-zE,z321,z0wp,S511,hK,hJ,hlM]
   by_cases hj:j<n
   ·have hj1:(J:Int)<((n-i:Nat):Int):=by omega
    have hj1':J<n-i:=by omega
    have hj2:((J:Int)-1).toNat=J-1:=by omega
    have hj3:i+J=j:=by omega
    have hj4:i+(J-1)=j-1:=by omega
    have hjl:j<l.length:=by omega
    obtain ⟨g1,g2⟩:=ha.get hjl (by simp only; omega) (by simp only; omega)
    simp only at g1 g2
    by_cases e2:l[j-1]=l[j]
    ·simp (disch:=first|omega|simp<;>omega|fail) [-zA,-zB,-zC,-zD,-zE,hj1,hj1',hj2,hj3,hj4,hn,h8,zjj2,g1,g2,e2]
     obtain ⟨q1,q2⟩:=ha.same (by omega) hjl e2
     have hJ':j+1-i=J+1:=by omega
     simp only at q1 q2
     exact ⟨⟨j+1,M⟩,z515 (by simp (disch:=first|omega|simp<;>omega|fail) [-zA,-zB,-zC,-zD,-zE,S511,z0wp,q2,hK,hJ']) (by simp (disch:=first|omega|simp<;>omega|fail) [-zA,-zB,-zC,-zD,-zE,S511,z0wp]),by simp only; omega,q1⟩
    ·have e2':¬ l[j]=l[j-1]:=fun q=>e2 q.symm
     simp (disch:=first|omega|simp<;>omega|fail) [-zA,-zB,-zC,-zD,-zE,hj1,hj1',hj2,hj3,hj4,hn,h8,zjj2,g1,g2,e2',zxft]
     obtain ⟨q1,q2⟩:=ha.step (by omega) hjl e2
     have hJ':j+1-i=J+1:=by omega
     simp only [hK] at q1 q2
     exact ⟨⟨j+1,M.set K l[j]⟩,z515 (by simp (disch:=first|omega|simp<;>omega|fail) [-zA,-zB,-zC,-zD,-zE,S511,z0wp,q2,hK,hJ']) (by simp (disch:=first|omega|simp<;>omega|fail) [-zA,-zB,-zC,-zD,-zE,S511,z0wp,List.map_set]),by simp only; omega,q1⟩
   ·have hj1:¬ (J:Int)<((n-i:Nat):Int):=by omega
    have hj1':¬ J<n-i:=by omega
    obtain rfl:j=n:=by omega
    have hfin:=ha.fin (by simp only; omega)
    simp only at hfin
    have htl:l.take j=l:=List.take_of_length_le (by omega)
    rw [htl] at hK
    rw [hK] at hfin
    have hclr:clrD (pre++[.cells (M.map .str)]) 1 [.str []] (.ms pre.length j K 1 (j-K) j)=some (.tup [],pre++[.cells ((zly8 [] l).map .str)]):=by
     have hov:objV (pre++[.cells (M.map .str)]) pre.length j=some (M.map .str):=by simp [zrsa,h8,hn]
     rw [z7ty (s:=1) (m:=j-K) (off:=K) (ver:=j) (zs:=[.str []]) rfl (by decide) rfl (by omega),hov,Option.map_some,zxft,zgjp]
     have hs:=zem6 (A:=(zwrc l).map DV.str) (B:=(M.drop K).map .str) (C:=(List.replicate (j-K) ([]:Str)).map .str) (by simp; omega)
     rw [← List.map_append,← hfin,← List.map_append,List.length_map,hK] at hs
     rw [hs]
     simp only [zly8,hK,hn,List.set_cons_zero]
    have hol:(zly8 [] l).length=j:=by rw [zglm,hn]
    simp (disch:=first|omega|simp<;>omega|fail) [-zA,-zB,-zC,-zD,-zE,hj1,hj1',hn,h8,zjj2,zxft,hclr,hK,hol]
  ·have e':¬ l[i]=l[i-1]:=fun q=>e q.symm
   simp (disch:=first|omega|simp<;>omega|fail) [-zA,-zB,-zC,-zD,-zE,h,h',hn,zjj2,hi1,e']
   refine ⟨i+1,z515 (by simp (disch:=first|omega|simp<;>omega|fail) [-zA,-zB,-zC,-zD,-zE,S510,z8io]) (by simp (disch:=first|omega|simp<;>omega|fail) [-zA,-zB,-zC,-zD,-zE,S510,z8io]),by omega,by omega,by omega,?_⟩
   rw [z6fn (by omega) hil,if_neg e,h5,List.take_succ_eq_append_getElem hil]
 ·have h':¬ (i:Int)<n:=by omega
  have e2:l.take i=l:=List.take_of_length_le (by omega)
  rw [e2] at h5
  have ho:=zixv (z:=[]) h5
  simp (disch:=first|omega|simp<;>omega|fail) [-zA,-zB,-zC,-zD,-zE,h,h',ho,h5,hn]
theorem z8bc (pre:List AObj):RunsH tbl0 a126 [.nils] pre .nils pre:=by
 refine ⟨?_⟩
 simp (disch:=first|omega|simp<;>omega|fail) [-zA,-zB,-zC,-zD,-zE,a126]
def cB (a:SA):Prop:=a.2.length≤1000000
def sCmp (a:SA):DV × List AObj:=(cmV a.1.length a.2,cmH a.1 a.2)
theorem zesh {a:SA} (h:cB a):RunsH tbl0 a126 (fOne a) (stH a.1 a.2) (cmV a.1.length a.2) (cmH a.1 a.2):=by
 obtain ⟨pre,l⟩:=a
 by_cases e:l=[]
 ·subst e; exact z8bc pre
 ·simp only [fOne,z93k e,zm1n e,zjem e,zt8r e]
  exact zo37 pre l h e
theorem zm73:(Con.heap (cSt cB fOne sCmp)).Sound P 126:=z7sf fun a h=>zv22 mix zr5o Tryz.func126 zq5w (zesh h)
theorem zup5 {pre:List AObj} {l:List Str} (h:l.length≤1000):cSt sB fOne sSrt [stV pre.length l] (stH pre l)=some (.tup [],stH pre (zxu4 Op.bytesLess l)):=z6bm zshm (a:=(pre,l)) h
theorem zvlb {pre:List AObj} {l:List Str} (h:l.length≤1000000):cSt cB fOne sCmp [stV pre.length l] (stH pre l)=some (cmV pre.length l,cmH pre l):=z6bm zshm (a:=(pre,l)) h
end Go.Proofs.YtdnhbfmlklaldaaGreat
set_option linter.unusedSimpArgs false
set_option linter.unusedVariables false
namespace Go.Proofs.YtdnhbfmlklaldaaGreat
open Go Go.Am
theorem z7zz {l:List Fct} {x:Str}:x ∈ zzy4 l ↔ ∃ f ∈ l,f.own=x:=by rw [zzy4,strU,zoav z3gj,List.mem_map]
theorem z7nw (l:List Fct):Asc Op.bytesLess (zzy4 l):=zy4b z3gj _
theorem zx4t {s a:List Fct} {x:Str}:x ∈ zob0 s a↔(∃ f ∈ s,f.own=x)∧x ∉ zqgg a:=by simp [zob0,z7zz]
theorem zpss (s a:List Fct):Asc Op.bytesLess (zob0 s a):=List.Pairwise.filter _ (z7nw s)
theorem zs6z {l:List Fct} {k:Int} {s:Sel} {f:Fct}:f ∈ zskr l k s↔f ∈ l∧f.kind=k∧s.p f=true:=by simp [zskr]
theorem ztci {l d:List Dg}:subB l d=true ↔ ∀ x ∈ l,x ∈ d:=by simp [subB]
theorem zqok {α β:Type} {f:α→List β} {m:Nat} : ∀ {l:List α},(∀ a ∈ l,(f a).length≤m)→(l.flatMap f).length≤l.length*m
 | [],_=>by simp
 | a::l,h=>by
  have h1:=h a (by simp)
  have h2:=zqok (l:=l) fun b hb=>h b (by simp [hb])
  rw [List.flatMap_cons,List.length_append,List.length_cons,Nat.add_mul]; omega
theorem zmvi (l:List Fct):(zzy4 l).length≤l.length:=by have:=zsv6 (lt:=Op.bytesLess) (l.map (·.own)); simpa [zzy4,strU] using this
theorem zjru {l:List Fct} {k:Int} {s:Sel}:(zskr l k s).length≤l.length:=List.length_filter_le _ _
end Go.Proofs.YtdnhbfmlklaldaaGreat
set_option linter.unusedSimpArgs false
set_option linter.unusedVariables false
namespace Go.Proofs.YtdnhbfmlklaldaaGreat
open Go Go.Am
def a65:AFn where
 code:=(.seq (.region false [⟨none,(some 1),.box (.t 0)⟩,
  ⟨none,(some 2),.mov (.k (.bool false))⟩])
 (.seq (.region false [⟨none,(some 2),.mov (.k (.bool true))⟩])
 .ret))
 ntmps:=3
 res:=[.tmp 2]
theorem zh04:zsjc P Tryz.f65=some a65:=by kernel_rfl
def a66:AFn where
 code:=(.seq (.region false [⟨none,(some 2),.box (.t 0)⟩,
  ⟨none,(some 3),.mov (.k (.bool false))⟩])
 (.seq (.region true [⟨none,(some 4),.load 71 true (.t 2)⟩,
  ⟨none,(some 6),.load 34 true (.t 1)⟩,
  ⟨none,(some 5),.callN (.k (.fn (.func 33) [] [])) [(.t 4)]⟩,
  ⟨none,(some 7),.eqa false [(32,0),(2,1)] (.t 5) (.t 6)⟩,
  ⟨none,(some 3),.mov (.t 7)⟩])
 .ret))
 ntmps:=8
 res:=[.tmp 3]
theorem z3a6:zsjc P Tryz.f66=some a66:=by kernel_rfl
def a67:AFn where
 code:=(.seq (.region false [⟨none,(some 2),.box (.t 0)⟩,
  ⟨none,(some 3),.mov (.k (.bool false))⟩])
 (.seq (.region false [⟨none,(some 4),.fld 2 (.t 2)⟩,
  ⟨none,(some 5),.load 32 true (.t 4)⟩,
  ⟨none,(some 6),.fld 0 (.t 1)⟩,
  ⟨none,(some 7),.load 32 true (.t 6)⟩,
  ⟨none,(some 8),.eqa false [(32,0)] (.t 5) (.t 7)⟩,
  ⟨none,(some 3),.mov (.t 8)⟩])
 .ret))
 ntmps:=9
 res:=[.tmp 3]
theorem zy8u:zsjc P Tryz.f67=some a67:=by kernel_rfl
def a71:AFn where
 code:=(.seq (.region false [⟨none,(some 3),.box (.t 0)⟩,
  ⟨none,(some 4),.mov (.k (.bool false))⟩])
 (.seq (.region false [⟨none,(some 5),.load 1 false (.t 1)⟩,
  ⟨none,(some 6),.load 71 true (.t 3)⟩,
  ⟨none,(some 7),.call (.t 5) [(.t 6)]⟩,
  ⟨none,(some 8),.mov (.t 7)⟩,
  ⟨(some (8,true)),(some 9),.fld 34 (.t 3)⟩,
  ⟨(some (8,true)),(some 10),.load 1 false (.t 9)⟩,
  ⟨(some (8,true)),(some 11),.fld 3 (.t 2)⟩,
  ⟨(some (8,true)),(some 12),.load 1 false (.t 11)⟩,
  ⟨(some (8,true)),(some 13),.bin .eql (.t 10) (.t 12)⟩,
  ⟨none,(some 14),.pick (.t 8) (.t 13) (.k (.bool false))⟩,
  ⟨none,(some 4),.mov (.t 14)⟩])
 .ret))
 ntmps:=15
 res:=[.tmp 4]
theorem zbtg:zsjc P Tryz.f71=some a71:=by kernel_rfl
def a76:AFn where
 code:=(.seq (.region false [⟨none,(some 4),.box (.t 0)⟩,
  ⟨none,(some 5),.mov (.k (.bool false))⟩])
 (.seq (.region false [⟨none,(some 6),.load 1 false (.t 1)⟩,
  ⟨none,(some 7),.load 71 true (.t 4)⟩,
  ⟨none,(some 8),.call (.t 6) [(.t 7)]⟩,
  ⟨none,(some 9),.mov (.t 8)⟩,
  ⟨(some (9,true)),(some 10),.fld 36 (.t 4)⟩,
  ⟨(some (9,true)),(some 11),.load 1 false (.t 10)⟩,
  ⟨(some (9,true)),(some 12),.call (.k (.fn (.func 77) [] [])) [(.t 11)]⟩,
  ⟨none,(some 13),.pick (.t 9) (.t 12) (.k (.bool false))⟩,
  ⟨none,(some 14),.mov (.t 13)⟩,
  ⟨(some (14,true)),(some 15),.fld 32 (.t 2)⟩,
  ⟨(some (14,true)),(some 16),.load 1 false (.t 15)⟩,
  ⟨(some (14,true)),(some 17),.call (.k (.fn (.func 77) [] [])) [(.t 16)]⟩,
  ⟨none,(some 18),.pick (.t 14) (.t 17) (.k (.bool false))⟩,
  ⟨none,(some 19),.mov (.t 18)⟩,
  ⟨(some (19,true)),(some 20),.fld 36 (.t 4)⟩,
  ⟨(some (19,true)),(some 21),.load 1 false (.t 20)⟩,
  ⟨(some (19,true)),(some 22),.fld 32 (.t 2)⟩,
  ⟨(some (19,true)),(some 23),.load 1 false (.t 22)⟩,
  ⟨(some (19,true)),(some 24),.bin .leq (.t 21) (.t 23)⟩,
  ⟨none,(some 25),.pick (.t 19) (.t 24) (.k (.bool false))⟩,
  ⟨none,(some 26),.mov (.t 25)⟩,
  ⟨(some (26,true)),(some 27),.fld 32 (.t 2)⟩,
  ⟨(some (26,true)),(some 28),.load 1 false (.t 27)⟩,
  ⟨(some (26,true)),(some 29),.fld 36 (.t 4)⟩,
  ⟨(some (26,true)),(some 30),.load 1 false (.t 29)⟩,
  ⟨(some (26,true)),(some 31),.bin .sub (.t 28) (.t 30)⟩,
  ⟨(some (26,true)),(some 32),.fld 1 (.t 3)⟩,
  ⟨(some (26,true)),(some 33),.load 1 false (.t 32)⟩,
  ⟨(some (26,true)),(some 34),.bin .leq (.t 31) (.t 33)⟩,
  ⟨none,(some 35),.pick (.t 26) (.t 34) (.k (.bool false))⟩,
  ⟨none,(some 5),.mov (.t 35)⟩])
 .ret))
 ntmps:=36
 res:=[.tmp 5]
theorem zqxf:zsjc P Tryz.f76=some a76:=by kernel_rfl
def a111:AFn where
 code:=(.seq (.region false [⟨none,(some 2),.box (.t 0)⟩,
  ⟨none,(some 3),.mov (.k (.bool false))⟩])
 (.seq (.region false [⟨none,(some 4),.fld 38 (.t 2)⟩,
  ⟨none,(some 5),.load 32 true (.t 4)⟩,
  ⟨none,(some 6),.load 32 true (.t 1)⟩,
  ⟨none,(some 7),.eqa false [(32,0)] (.t 5) (.t 6)⟩,
  ⟨none,(some 3),.mov (.t 7)⟩])
 .ret))
 ntmps:=8
 res:=[.tmp 3]
theorem zmlq:zsjc P Tryz.f111=some a111:=by kernel_rfl
def a33:AFn where
 code:=(.seq (.region false [⟨none,(some 1),.box (.t 0)⟩,
  ⟨none,(some 2),.alloc [(w8 0#8),(w8 0#8),(w8 0#8),(w8 0#8),(w8 0#8),(w8 0#8),(w8 0#8),(w8 0#8),(w8 0#8),(w8 0#8),(w8 0#8),(w8 0#8),(w8 0#8),(w8 0#8),(w8 0#8),(w8 0#8),(w8 0#8),(w8 0#8),(w8 0#8),(w8 0#8),(w8 0#8),(w8 0#8),(w8 0#8),(w8 0#8),(w8 0#8),(w8 0#8),(w8 0#8),(w8 0#8),(w8 0#8),(w8 0#8),(w8 0#8),(w8 0#8),(.str []),(.str [])]⟩])
 (.seq (.region false [⟨none,(some 3),.fld 2 (.t 1)⟩,
  ⟨none,(some 4),.load 32 true (.t 3)⟩,
  ⟨none,(some 5),.fld 34 (.t 1)⟩,
  ⟨none,(some 6),.load 1 false (.t 5)⟩,
  ⟨none,(some 7),.fld 35 (.t 1)⟩,
  ⟨none,(some 8),.load 1 false (.t 7)⟩,
  ⟨none,(some 9),.build [(w8 0#8),(w8 0#8),(w8 0#8),(w8 0#8),(w8 0#8),(w8 0#8),(w8 0#8),(w8 0#8),(w8 0#8),(w8 0#8),(w8 0#8),(w8 0#8),(w8 0#8),(w8 0#8),(w8 0#8),(w8 0#8),(w8 0#8),(w8 0#8),(w8 0#8),(w8 0#8),(w8 0#8),(w8 0#8),(w8 0#8),(w8 0#8),(w8 0#8),(w8 0#8),(w8 0#8),(w8 0#8),(w8 0#8),(w8 0#8),(w8 0#8),(w8 0#8),(.str []),(.str [])] [(0,32,(.t 4)),(32,1,(.t 6)),(33,1,(.t 8))]⟩,
  ⟨none,none,.store 34 (.t 2) (.t 9)⟩])
 .ret))
 ntmps:=10
 res:=[.cell 2 34 true]
theorem zojn:zsjc P Tryz.f33=some a33:=by kernel_rfl
def a77:AFn where
 code:=(.seq (.region false [⟨none,(some 2),.mov (.k (.bool false))⟩])
 (.seq (.region false [⟨none,(some 3),.mov (.t 0)⟩,
  ⟨none,(some 4),.bin .geq (.t 3) (.k (.int .i64 0))⟩,
  ⟨none,(some 5),.mov (.t 4)⟩,
  ⟨(some (5,true)),(some 6),.mov (.t 0)⟩,
  ⟨(some (5,true)),(some 7),.bin .leq (.t 6) (.k (.int .i64 1099511627776))⟩,
  ⟨none,(some 8),.pick (.t 5) (.t 7) (.k (.bool false))⟩,
  ⟨none,(some 2),.mov (.t 8)⟩])
 .ret))
 ntmps:=9
 res:=[.tmp 2]
theorem z20a:zsjc P Tryz.f77=some a77:=by kernel_rfl
def z0bm:ACode :=
 (.seq (.region false [⟨none,(some 13),.bin .lss (.t 12) (.t 11)⟩])
 (.seq (.cond (.t 13) .skip
 (.exit 0))
 (.seq (.block 1 (.seq (.region false [⟨none,(some 14),.idxS 71 (.t 10) (.t 12)⟩,
  ⟨none,(some 15),.load 71 true (.t 14)⟩,
  ⟨none,(some 9),.alloc [(.int .i64 0),(.str []),(w8 0#8),(w8 0#8),(w8 0#8),(w8 0#8),(w8 0#8),(w8 0#8),(w8 0#8),(w8 0#8),(w8 0#8),(w8 0#8),(w8 0#8),(w8 0#8),(w8 0#8),(w8 0#8),(w8 0#8),(w8 0#8),(w8 0#8),(w8 0#8),(w8 0#8),(w8 0#8),(w8 0#8),(w8 0#8),(w8 0#8),(w8 0#8),(w8 0#8),(w8 0#8),(w8 0#8),(w8 0#8),(w8 0#8),(w8 0#8),(w8 0#8),(w8 0#8),(.str []),(.str []),(.int .i64 0),(.bool false),(w8 0#8),(w8 0#8),(w8 0#8),(w8 0#8),(w8 0#8),(w8 0#8),(w8 0#8),(w8 0#8),(w8 0#8),(w8 0#8),(w8 0#8),(w8 0#8),(w8 0#8),(w8 0#8),(w8 0#8),(w8 0#8),(w8 0#8),(w8 0#8),(w8 0#8),(w8 0#8),(w8 0#8),(w8 0#8),(w8 0#8),(w8 0#8),(w8 0#8),(w8 0#8),(w8 0#8),(w8 0#8),(w8 0#8),(w8 0#8),(w8 0#8),(w8 0#8),.nils]⟩,
  ⟨none,none,.store 71 (.t 9) (.t 15)⟩])
 (.seq (.region false [⟨none,(some 16),.fld 0 (.t 9)⟩,
  ⟨none,(some 17),.load 1 false (.t 16)⟩,
  ⟨none,(some 18),.mov (.t 1)⟩,
  ⟨none,(some 19),.bin .eql (.t 17) (.t 18)⟩,
  ⟨none,(some 20),.mov (.t 19)⟩,
  ⟨(some (20,true)),(some 21),.mov (.t 2)⟩,
  ⟨(some (20,true)),(some 22),.load 71 true (.t 9)⟩,
  ⟨(some (20,true)),(some 23),.call (.t 21) [(.t 22)]⟩,
  ⟨none,(some 24),.pick (.t 20) (.t 23) (.k (.bool false))⟩])
 (.cond (.t 24) (.region false [⟨none,(some 25),.mov (.t 7)⟩,
  ⟨none,(some 26),.load 71 true (.t 9)⟩,
  ⟨none,(some 27),.bsl 71 1 [(.int .i64 0),(.str []),(w8 0#8),(w8 0#8),(w8 0#8),(w8 0#8),(w8 0#8),(w8 0#8),(w8 0#8),(w8 0#8),(w8 0#8),(w8 0#8),(w8 0#8),(w8 0#8),(w8 0#8),(w8 0#8),(w8 0#8),(w8 0#8),(w8 0#8),(w8 0#8),(w8 0#8),(w8 0#8),(w8 0#8),(w8 0#8),(w8 0#8),(w8 0#8),(w8 0#8),(w8 0#8),(w8 0#8),(w8 0#8),(w8 0#8),(w8 0#8),(w8 0#8),(w8 0#8),(.str []),(.str []),(.int .i64 0),(.bool false),(w8 0#8),(w8 0#8),(w8 0#8),(w8 0#8),(w8 0#8),(w8 0#8),(w8 0#8),(w8 0#8),(w8 0#8),(w8 0#8),(w8 0#8),(w8 0#8),(w8 0#8),(w8 0#8),(w8 0#8),(w8 0#8),(w8 0#8),(w8 0#8),(w8 0#8),(w8 0#8),(w8 0#8),(w8 0#8),(w8 0#8),(w8 0#8),(w8 0#8),(w8 0#8),(w8 0#8),(w8 0#8),(w8 0#8),(w8 0#8),(w8 0#8),(w8 0#8),.nils] [(0,71,(.t 26))]⟩,
  ⟨none,(some 28),.app 71 160 (.t 25) (.t 27)⟩,
  ⟨none,(some 7),.mov (.t 28)⟩])
 .skip))))
 (.region false [⟨none,(some 29),.bin .add (.t 12) (.k (.int .i64 1))⟩,
  ⟨none,(some 12),.mov (.t 29)⟩]))))
def zd78 (x1 x2 x7 x10 x11 x12:DV) (h:List AObj):St:=⟨[.junk,x1,x2]++js 4++[x7,.junk,.junk,x10,x11,x12]++js 18,h⟩
def a68:AFn where
 code:=(.seq (.region false [⟨none,(some 6),.mov (.k .nils)⟩])
 (.seq (.region false [⟨none,(some 7),.mov (.k .nils)⟩])
 (.seq (.seq (.region false [⟨none,(some 10),.mov (.t 0)⟩,
  ⟨none,(some 11),.len (.t 10)⟩,
  ⟨none,(some 12),.mov (.k (.int .i64 0))⟩])
 (.block 0 (.loop z0bm)))
 (.seq (.region false [⟨none,(some 30),.mov (.t 7)⟩,
  ⟨none,(some 6),.mov (.t 30)⟩])
 .ret))))
 ntmps:=31
 res:=[.tmp 6]
theorem z20i:zsjc P Tryz.f68=some a68:=by kernel_rfl
def z0tq:ACode :=
 (.seq (.region false [⟨none,(some 9),.bin .lss (.t 8) (.t 7)⟩])
 (.seq (.cond (.t 9) .skip
 (.exit 0))
 (.seq (.block 1 (.seq (.region false [⟨none,(some 10),.idxS 71 (.t 6) (.t 8)⟩,
  ⟨none,(some 11),.load 71 true (.t 10)⟩,
  ⟨none,(some 5),.alloc [(.int .i64 0),(.str []),(w8 0#8),(w8 0#8),(w8 0#8),(w8 0#8),(w8 0#8),(w8 0#8),(w8 0#8),(w8 0#8),(w8 0#8),(w8 0#8),(w8 0#8),(w8 0#8),(w8 0#8),(w8 0#8),(w8 0#8),(w8 0#8),(w8 0#8),(w8 0#8),(w8 0#8),(w8 0#8),(w8 0#8),(w8 0#8),(w8 0#8),(w8 0#8),(w8 0#8),(w8 0#8),(w8 0#8),(w8 0#8),(w8 0#8),(w8 0#8),(w8 0#8),(w8 0#8),(.str []),(.str []),(.int .i64 0),(.bool false),(w8 0#8),(w8 0#8),(w8 0#8),(w8 0#8),(w8 0#8),(w8 0#8),(w8 0#8),(w8 0#8),(w8 0#8),(w8 0#8),(w8 0#8),(w8 0#8),(w8 0#8),(w8 0#8),(w8 0#8),(w8 0#8),(w8 0#8),(w8 0#8),(w8 0#8),(w8 0#8),(w8 0#8),(w8 0#8),(w8 0#8),(w8 0#8),(w8 0#8),(w8 0#8),(w8 0#8),(w8 0#8),(w8 0#8),(w8 0#8),(w8 0#8),(w8 0#8),.nils]⟩,
  ⟨none,none,.store 71 (.t 5) (.t 11)⟩])
 (.region false [⟨none,(some 12),.mov (.t 3)⟩,
  ⟨none,(some 13),.fld 1 (.t 5)⟩,
  ⟨none,(some 14),.load 1 false (.t 13)⟩,
  ⟨none,(some 15),.bsl 1 1 [(.str [])] [(0,1,(.t 14))]⟩,
  ⟨none,(some 16),.app 1 16 (.t 12) (.t 15)⟩,
  ⟨none,(some 3),.mov (.t 16)⟩])))
 (.region false [⟨none,(some 17),.bin .add (.t 8) (.k (.int .i64 1))⟩,
  ⟨none,(some 8),.mov (.t 17)⟩]))))
def zfq0 (x3 x6 x7 x8:DV) (h:List AObj):St:=⟨[.junk,.junk,.junk,x3,.junk,.junk,x6,x7,x8]++js 13,h⟩
def a105:AFn where
 code:=(.seq (.region false [⟨none,(some 2),.mov (.k .nils)⟩])
 (.seq (.region false [⟨none,(some 3),.mov (.k .nils)⟩])
 (.seq (.seq (.region false [⟨none,(some 6),.mov (.t 0)⟩,
  ⟨none,(some 7),.len (.t 6)⟩,
  ⟨none,(some 8),.mov (.k (.int .i64 0))⟩])
 (.block 0 (.loop z0tq)))
 (.seq (.region false [⟨none,(some 18),.mov (.t 3)⟩,
  ⟨none,(some 19),.call (.k (.fn (.func 125) [] [])) [(.t 18)]⟩])
 (.seq (.region false [⟨none,(some 20),.mov (.t 3)⟩,
  ⟨none,(some 21),.call (.k (.fn (.func 126) [] [])) [(.t 20)]⟩,
  ⟨none,(some 2),.mov (.t 21)⟩])
 .ret)))))
 ntmps:=22
 res:=[.tmp 2]
theorem z9rf:zsjc P Tryz.f105=some a105:=by kernel_rfl
def a127:AFn where
 code:=(.seq (.region false [⟨none,(some 2),.box (.t 0)⟩,
  ⟨none,(some 3),.mov (.k (.bool false))⟩])
 (.seq (.region false [⟨none,(some 4),.fld 1 (.t 2)⟩,
  ⟨none,(some 5),.load 1 false (.t 4)⟩,
  ⟨none,(some 6),.load 1 false (.t 1)⟩,
  ⟨none,(some 7),.bin .eql (.t 5) (.t 6)⟩,
  ⟨none,(some 3),.mov (.t 7)⟩])
 .ret))
 ntmps:=8
 res:=[.tmp 3]
theorem z6yq:zsjc P Tryz.f127=some a127:=by kernel_rfl
def z08j:ACode :=
 (.seq (.region false [⟨none,(some 9),.bin .lss (.t 8) (.t 7)⟩])
 (.seq (.cond (.t 9) .skip
 (.exit 0))
 (.seq (.block 1 (.seq (.region false [⟨none,(some 10),.mov (.t 8)⟩,
  ⟨none,(some 5),.mov (.t 10)⟩])
 (.seq (.region false [⟨none,(some 11),.mov (.t 1)⟩,
  ⟨none,(some 12),.mov (.t 0)⟩,
  ⟨none,(some 13),.mov (.t 5)⟩,
  ⟨none,(some 14),.idxS 71 (.t 12) (.t 13)⟩,
  ⟨none,(some 15),.load 71 true (.t 14)⟩,
  ⟨none,(some 16),.call (.t 11) [(.t 15)]⟩])
 (.cond (.t 16) (.seq (.region false [⟨none,(some 17),.mov (.t 5)⟩,
  ⟨none,(some 4),.mov (.t 17)⟩])
 .ret)
 .skip))))
 (.region false [⟨none,(some 18),.bin .add (.t 8) (.k (.int .i64 1))⟩,
  ⟨none,(some 8),.mov (.t 18)⟩]))))
def z5pk (x0 x1 x7 x8:DV) (h:List AObj):St:=⟨[x0,x1]++js 5++[x7,x8]++js 10,h⟩
def a90:AFn where
 code:=(.seq (.region false [⟨none,(some 4),.mov (.k (.int .i64 0))⟩])
 (.seq (.seq (.region false [⟨none,(some 6),.mov (.t 0)⟩,
  ⟨none,(some 7),.len (.t 6)⟩,
  ⟨none,(some 8),.mov (.k (.int .i64 0))⟩])
 (.block 0 (.loop z08j)))
 (.seq (.region false [⟨none,(some 4),.mov (.k (.int .i64 (-1)))⟩])
 .ret)))
 ntmps:=19
 res:=[.tmp 4]
theorem z9pi:zsjc P Tryz.f90=some a90:=by kernel_rfl
def z990:ACode :=
 (.seq (.region false [⟨none,(some 12),.bin .lss (.t 11) (.t 10)⟩])
 (.seq (.cond (.t 12) .skip
 (.exit 0))
 (.seq (.block 1 (.seq (.region false [⟨none,(some 13),.idxS 1 (.t 9) (.t 11)⟩,
  ⟨none,(some 14),.load 1 false (.t 13)⟩,
  ⟨none,(some 7),.alloc [(.str [])]⟩,
  ⟨none,none,.store 1 (.t 7) (.t 14)⟩])
 (.seq (.region false [⟨none,(some 15),.mov (.t 0)⟩,
  ⟨none,(some 16),.mkf (.func 127) [] [(.t 7)]⟩,
  ⟨none,(some 17),.call (.k (.fn (.func 90) [] [])) [(.t 15),(.t 16)]⟩,
  ⟨none,(some 8),.mov (.t 17)⟩])
 (.region false [⟨none,(some 18),.mov (.t 5)⟩,
  ⟨none,(some 19),.mov (.t 0)⟩,
  ⟨none,(some 20),.mov (.t 8)⟩,
  ⟨none,(some 21),.idxS 71 (.t 19) (.t 20)⟩,
  ⟨none,(some 22),.fld 70 (.t 21)⟩,
  ⟨none,(some 23),.load 1 false (.t 22)⟩,
  ⟨none,(some 24),.app 32 32 (.t 18) (.t 23)⟩,
  ⟨none,(some 5),.mov (.t 24)⟩]))))
 (.region false [⟨none,(some 25),.bin .add (.t 11) (.k (.int .i64 1))⟩,
  ⟨none,(some 11),.mov (.t 25)⟩]))))
def z3x7 (x0 x5 x9 x10 x11:DV) (h:List AObj):St:=⟨[x0]++js 4++[x5,.junk,.junk,.junk,x9,x10,x11]++js 15,h⟩
def a108:AFn where
 code:=(.seq (.region false [⟨none,(some 4),.mov (.k .nils)⟩])
 (.seq (.region false [⟨none,(some 5),.mov (.k .nils)⟩])
 (.seq (.seq (.region false [⟨none,(some 9),.mov (.t 1)⟩,
  ⟨none,(some 10),.len (.t 9)⟩,
  ⟨none,(some 11),.mov (.k (.int .i64 0))⟩])
 (.block 0 (.loop z990)))
 (.seq (.region false [⟨none,(some 26),.mov (.t 5)⟩,
  ⟨none,(some 4),.mov (.t 26)⟩])
 .ret))))
 ntmps:=27
 res:=[.tmp 4]
theorem zh50:zsjc P Tryz.f108=some a108:=by kernel_rfl
def a106:AFn where
 code:=(.seq (.region false [⟨none,(some 2),.alloc [(.bool false),.nils,(.int .i64 0)]⟩])
 (.seq (.region false [⟨none,(some 3),.mov (.t 0)⟩,
  ⟨none,(some 4),.build [(.bool false),.nils,(.int .i64 0)] [(2,1,(.t 3))]⟩,
  ⟨none,none,.store 3 (.t 2) (.t 4)⟩])
 .ret))
 ntmps:=5
 res:=[.cell 2 3 true]
theorem zex6:zsjc P Tryz.f106=some a106:=by kernel_rfl
def a107:AFn where
 code:=(.seq (.region false [⟨none,(some 2),.alloc [(.bool false),.nils,(.int .i64 0)]⟩])
 (.seq (.region false [⟨none,(some 3),.mov (.t 0)⟩,
  ⟨none,(some 4),.call (.k (.fn (.func 110) [] [])) [(.t 3)]⟩,
  ⟨none,(some 5),.build [(.bool false),.nils,(.int .i64 0)] [(0,1,(.k (.bool true))),(1,1,(.t 4))]⟩,
  ⟨none,none,.store 3 (.t 2) (.t 5)⟩])
 .ret))
 ntmps:=6
 res:=[.cell 2 3 true]
theorem z38u:zsjc P Tryz.f107=some a107:=by kernel_rfl
def a69:AFn where
 code:=(.seq (.region false [⟨none,(some 4),.alloc [(.bool false),.nils,(.int .i64 0)]⟩])
 (.seq (.region false [⟨none,(some 7),.mov (.t 0)⟩,
  ⟨none,(some 8),.call (.k (.fn (.func 105) [] [])) [(.t 7)]⟩,
  ⟨none,(some 5),.mov (.t 8)⟩])
 (.seq (.seq (.region false [⟨none,(some 9),.mov (.t 1)⟩,
  ⟨none,(some 10),.mov (.t 5)⟩,
  ⟨none,(some 11),.len (.t 10)⟩,
  ⟨none,(some 12),.bin .sub (.t 9) (.t 11)⟩,
  ⟨none,(some 6),.mov (.t 12)⟩])
 (.seq (.region false [⟨none,(some 13),.mov (.t 6)⟩,
  ⟨none,(some 14),.bin .gtr (.t 13) (.k (.int .i64 0))⟩])
 (.cond (.t 14) (.seq (.region false [⟨none,(some 15),.mov (.t 6)⟩,
  ⟨none,(some 16),.call (.k (.fn (.func 106) [] [])) [(.t 15)]⟩,
  ⟨none,none,.store 3 (.t 4) (.t 16)⟩])
 .ret)
 .skip)))
 (.seq (.region false [⟨none,(some 17),.mov (.t 0)⟩,
  ⟨none,(some 18),.mov (.t 5)⟩,
  ⟨none,(some 19),.mov (.t 1)⟩,
  ⟨none,(some 20),.slcS 1 (.t 18) none (some (.t 19)) none⟩,
  ⟨none,(some 21),.call (.k (.fn (.func 108) [] [])) [(.t 17),(.t 20)]⟩,
  ⟨none,(some 22),.call (.k (.fn (.func 107) [] [])) [(.t 21)]⟩,
  ⟨none,none,.store 3 (.t 4) (.t 22)⟩])
 .ret))))
 ntmps:=23
 res:=[.cell 4 3 true]
theorem z713:zsjc P Tryz.f69=some a69:=by kernel_rfl
def a70:AFn where
 code:=(.seq (.region false [⟨none,(some 2),.alloc [(.bool false),.nils,(.int .i64 0)]⟩])
 (.seq (.seq (.region false [⟨none,(some 3),.mov (.t 0)⟩,
  ⟨none,(some 4),.len (.t 3)⟩,
  ⟨none,(some 5),.bin .eql (.t 4) (.k (.int .i64 0))⟩])
 (.cond (.t 5) (.seq (.region false [⟨none,(some 6),.call (.k (.fn (.func 106) [] [])) [(.k (.int .i64 1))]⟩,
  ⟨none,none,.store 3 (.t 2) (.t 6)⟩])
 .ret)
 .skip))
 (.seq (.region false [⟨none,(some 7),.mov (.t 0)⟩,
  ⟨none,(some 8),.idxS 71 (.t 7) (.k (.int .i64 0))⟩,
  ⟨none,(some 9),.fld 70 (.t 8)⟩,
  ⟨none,(some 10),.load 1 false (.t 9)⟩,
  ⟨none,(some 11),.call (.k (.fn (.func 107) [] [])) [(.t 10)]⟩,
  ⟨none,none,.store 3 (.t 2) (.t 11)⟩])
 .ret)))
 ntmps:=12
 res:=[.cell 2 3 true]
theorem zhcw:zsjc P Tryz.f70=some a70:=by kernel_rfl
def a128:AFn where
 code:=(.seq (.region false [⟨none,(some 1),.box (.t 0)⟩,
  ⟨none,(some 2),.mov (.k (.bool false))⟩])
 (.seq (.region false [⟨none,(some 3),.fld 37 (.t 1)⟩,
  ⟨none,(some 4),.load 1 false (.t 3)⟩,
  ⟨none,(some 2),.mov (.t 4)⟩])
 .ret))
 ntmps:=5
 res:=[.tmp 2]
theorem zv7v:zsjc P Tryz.f128=some a128:=by kernel_rfl
def a130:AFn where
 code:=(.seq (.region false [⟨none,(some 3),.mov (.k (.bool false))⟩])
 (.seq (.region false [⟨none,(some 4),.load 1 false (.t 1)⟩,
  ⟨none,(some 5),.mov (.t 0)⟩,
  ⟨none,(some 6),.call (.k (.fn (.func 131) [] [])) [(.t 4),(.t 5)]⟩,
  ⟨none,(some 3),.mov (.t 6)⟩])
 .ret))
 ntmps:=7
 res:=[.tmp 3]
theorem zndb:zsjc P Tryz.f130=some a130:=by kernel_rfl
def zuys:ACode :=
 (.seq (.seq (.region false [⟨none,(some 16),.mov (.t 6)⟩,
  ⟨none,(some 17),.mov (.t 0)⟩,
  ⟨none,(some 18),.len (.t 17)⟩,
  ⟨none,(some 19),.bin .lss (.t 16) (.t 18)⟩])
 (.cond (.t 19) .skip
 (.exit 0)))
 (.seq (.block 1 (.seq (.region false [⟨none,(some 22),.mov (.t 0)⟩,
  ⟨none,(some 23),.mov (.t 6)⟩,
  ⟨none,(some 24),.idxS 71 (.t 22) (.t 23)⟩,
  ⟨none,(some 25),.load 71 true (.t 24)⟩,
  ⟨none,(some 7),.alloc [(.int .i64 0),(.str []),(w8 0#8),(w8 0#8),(w8 0#8),(w8 0#8),(w8 0#8),(w8 0#8),(w8 0#8),(w8 0#8),(w8 0#8),(w8 0#8),(w8 0#8),(w8 0#8),(w8 0#8),(w8 0#8),(w8 0#8),(w8 0#8),(w8 0#8),(w8 0#8),(w8 0#8),(w8 0#8),(w8 0#8),(w8 0#8),(w8 0#8),(w8 0#8),(w8 0#8),(w8 0#8),(w8 0#8),(w8 0#8),(w8 0#8),(w8 0#8),(w8 0#8),(w8 0#8),(.str []),(.str []),(.int .i64 0),(.bool false),(w8 0#8),(w8 0#8),(w8 0#8),(w8 0#8),(w8 0#8),(w8 0#8),(w8 0#8),(w8 0#8),(w8 0#8),(w8 0#8),(w8 0#8),(w8 0#8),(w8 0#8),(w8 0#8),(w8 0#8),(w8 0#8),(w8 0#8),(w8 0#8),(w8 0#8),(w8 0#8),(w8 0#8),(w8 0#8),(w8 0#8),(w8 0#8),(w8 0#8),(w8 0#8),(w8 0#8),(w8 0#8),(w8 0#8),(w8 0#8),(w8 0#8),(w8 0#8),.nils]⟩,
  ⟨none,none,.store 71 (.t 7) (.t 25)⟩])
 (.seq (.region false [⟨none,(some 26),.mov (.t 1)⟩,
  ⟨none,(some 27),.load 71 true (.t 7)⟩,
  ⟨none,(some 28),.call (.t 26) [(.t 27)]⟩,
  ⟨none,(some 29),.un .not (.t 28)⟩])
 (.cond (.t 29) (.seq (.region false [⟨none,(some 30),.mov (.t 0)⟩,
  ⟨none,(some 31),.mov (.t 5)⟩,
  ⟨none,(some 32),.load 71 true (.t 7)⟩,
  ⟨none,(some 33),.idxS 71 (.t 30) (.t 31)⟩,
  ⟨none,none,.store 71 (.t 33) (.t 32)⟩])
 (.region false [⟨none,(some 34),.mov (.t 5)⟩,
  ⟨none,(some 35),.bin .add (.t 34) (.k (.int .i64 1))⟩,
  ⟨none,(some 5),.mov (.t 35)⟩]))
 .skip))))
 (.region false [⟨none,(some 20),.mov (.t 6)⟩,
  ⟨none,(some 21),.bin .add (.t 20) (.k (.int .i64 1))⟩,
  ⟨none,(some 6),.mov (.t 21)⟩])))
def zvur (x0 x1 x5 x6:DV) (h:List AObj):St:=⟨[x0,x1,.junk,.junk,.junk,x5,x6]++js 35,h⟩
def a49:AFn where
 code:=(.seq (.region false [⟨none,(some 4),.mov (.k .nils)⟩])
 (.seq (.region false [⟨none,(some 8),.mov (.t 0)⟩,
  ⟨none,(some 9),.mov (.t 1)⟩,
  ⟨none,(some 10),.call (.k (.fn (.func 90) [] [])) [(.t 8),(.t 9)]⟩,
  ⟨none,(some 5),.mov (.t 10)⟩])
 (.seq (.seq (.region false [⟨none,(some 11),.mov (.t 5)⟩,
  ⟨none,(some 12),.bin .eql (.t 11) (.k (.int .i64 (-1)))⟩])
 (.cond (.t 12) (.seq (.region false [⟨none,(some 13),.mov (.t 0)⟩,
  ⟨none,(some 4),.mov (.t 13)⟩])
 .ret)
 .skip))
 (.seq (.seq (.region false [⟨none,(some 14),.mov (.t 5)⟩,
  ⟨none,(some 15),.bin .add (.t 14) (.k (.int .i64 1))⟩,
  ⟨none,(some 6),.mov (.t 15)⟩])
 (.block 0 (.loop zuys)))
 (.seq (.region false [⟨none,(some 36),.mov (.t 0)⟩,
  ⟨none,(some 37),.mov (.t 5)⟩,
  ⟨none,(some 38),.slcS 71 (.t 36) (some (.t 37)) none none⟩,
  ⟨none,none,.clr 71 [(.int .i64 0),(.str []),(w8 0#8),(w8 0#8),(w8 0#8),(w8 0#8),(w8 0#8),(w8 0#8),(w8 0#8),(w8 0#8),(w8 0#8),(w8 0#8),(w8 0#8),(w8 0#8),(w8 0#8),(w8 0#8),(w8 0#8),(w8 0#8),(w8 0#8),(w8 0#8),(w8 0#8),(w8 0#8),(w8 0#8),(w8 0#8),(w8 0#8),(w8 0#8),(w8 0#8),(w8 0#8),(w8 0#8),(w8 0#8),(w8 0#8),(w8 0#8),(w8 0#8),(w8 0#8),(.str []),(.str []),(.int .i64 0),(.bool false),(w8 0#8),(w8 0#8),(w8 0#8),(w8 0#8),(w8 0#8),(w8 0#8),(w8 0#8),(w8 0#8),(w8 0#8),(w8 0#8),(w8 0#8),(w8 0#8),(w8 0#8),(w8 0#8),(w8 0#8),(w8 0#8),(w8 0#8),(w8 0#8),(w8 0#8),(w8 0#8),(w8 0#8),(w8 0#8),(w8 0#8),(w8 0#8),(w8 0#8),(w8 0#8),(w8 0#8),(w8 0#8),(w8 0#8),(w8 0#8),(w8 0#8),(w8 0#8),.nils] (.t 38)⟩])
 (.seq (.region false [⟨none,(some 39),.mov (.t 0)⟩,
  ⟨none,(some 40),.mov (.t 5)⟩,
  ⟨none,(some 41),.slcS 71 (.t 39) none (some (.t 40)) none⟩,
  ⟨none,(some 4),.mov (.t 41)⟩])
 .ret))))))
 ntmps:=42
 res:=[.tmp 4]
theorem zdc4:zsjc P Tryz.f49=some a49:=by kernel_rfl
def a50:AFn where
 code:=(.seq (.region false [⟨none,(some 2),.mov (.k .nils)⟩])
 (.seq (.seq (.region false [⟨none,(some 3),.mov (.t 0)⟩,
  ⟨none,(some 4),.eqn 0 false (.t 3) (.k .nils)⟩])
 (.cond (.t 4) (.seq (.region false [⟨none,(some 2),.mov (.k .nils)⟩])
 .ret)
 .skip))
 (.seq (.region false [⟨none,(some 5),.bsl 71 0 [(.int .i64 0),(.str []),(w8 0#8),(w8 0#8),(w8 0#8),(w8 0#8),(w8 0#8),(w8 0#8),(w8 0#8),(w8 0#8),(w8 0#8),(w8 0#8),(w8 0#8),(w8 0#8),(w8 0#8),(w8 0#8),(w8 0#8),(w8 0#8),(w8 0#8),(w8 0#8),(w8 0#8),(w8 0#8),(w8 0#8),(w8 0#8),(w8 0#8),(w8 0#8),(w8 0#8),(w8 0#8),(w8 0#8),(w8 0#8),(w8 0#8),(w8 0#8),(w8 0#8),(w8 0#8),(.str []),(.str []),(.int .i64 0),(.bool false),(w8 0#8),(w8 0#8),(w8 0#8),(w8 0#8),(w8 0#8),(w8 0#8),(w8 0#8),(w8 0#8),(w8 0#8),(w8 0#8),(w8 0#8),(w8 0#8),(w8 0#8),(w8 0#8),(w8 0#8),(w8 0#8),(w8 0#8),(w8 0#8),(w8 0#8),(w8 0#8),(w8 0#8),(w8 0#8),(w8 0#8),(w8 0#8),(w8 0#8),(w8 0#8),(w8 0#8),(w8 0#8),(w8 0#8),(w8 0#8),(w8 0#8),(w8 0#8),.nils] []⟩,
  ⟨none,(some 6),.mov (.t 0)⟩,
  ⟨none,(some 7),.app 71 160 (.t 5) (.t 6)⟩,
  ⟨none,(some 2),.mov (.t 7)⟩])
 .ret)))
 ntmps:=8
 res:=[.tmp 2]
theorem z12y:zsjc P Tryz.f50=some a50:=by kernel_rfl
def a109:AFn where
 code:=(.seq (.region false [⟨none,(some 4),.mov (.k .nils)⟩,
  ⟨none,(some 5),.mov (.k (.int .i64 0))⟩])
 (.seq (.region false [⟨none,(some 7),.mov (.t 1)⟩,
  ⟨none,(some 8),.call (.k (.fn (.func 50) [] [])) [(.t 7)]⟩,
  ⟨none,(some 9),.call (.k (.fn (.func 49) [] [])) [(.t 8),(.k (.fn (.func 128) [] []))]⟩,
  ⟨none,(some 10),.call (.k (.fn (.func 105) [] [])) [(.t 9)]⟩,
  ⟨none,(some 6),.alloc [.nils]⟩,
  ⟨none,none,.store 1 (.t 6) (.t 10)⟩])
 (.seq (.region false [⟨none,(some 11),.mov (.t 0)⟩,
  ⟨none,(some 12),.call (.k (.fn (.func 105) [] [])) [(.t 11)]⟩,
  ⟨none,(some 13),.mkf (.func 130) [] [(.t 6)]⟩,
  ⟨none,(some 14),.call (.k (.fn (.func 129) [] [])) [(.t 12),(.t 13)]⟩,
  ⟨none,(some 4),.mov (.t 14)⟩])
 (.seq (.region true [⟨none,(some 15),.mov (.t 4)⟩,
  ⟨none,(some 16),.load 1 false (.t 6)⟩,
  ⟨none,(some 17),.len (.t 16)⟩,
  ⟨none,(some 4),.mov (.t 15)⟩,
  ⟨none,(some 5),.mov (.t 17)⟩])
 .ret))))
 ntmps:=18
 res:=[.tmp 4,.tmp 5]
theorem zoj0:zsjc P Tryz.f109=some a109:=by kernel_rfl
def a72:AFn where
 code:=(.seq (.region false [⟨none,(some 5),.box (.t 2)⟩,
  ⟨none,(some 6),.alloc [(.bool false),.nils,(.int .i64 0)]⟩])
 (.seq (.region false [⟨none,(some 11),.mov (.t 0)⟩,
  ⟨none,(some 12),.mov (.t 1)⟩,
  ⟨none,(some 13),.call (.k (.fn (.func 109) [] [])) [(.t 11),(.t 12)]⟩,
  ⟨none,(some 10),.mov (.t 13)⟩,
  ⟨none,(some 14),.ext (.t 10) 0⟩,
  ⟨none,(some 15),.ext (.t 10) 1⟩,
  ⟨none,(some 7),.mov (.t 14)⟩,
  ⟨none,(some 8),.mov (.t 15)⟩])
 (.seq (.region false [⟨none,(some 16),.fld 1 (.t 5)⟩,
  ⟨none,(some 17),.load 1 false (.t 16)⟩,
  ⟨none,(some 18),.mov (.t 7)⟩,
  ⟨none,(some 19),.len (.t 18)⟩,
  ⟨none,(some 20),.bin .sub (.t 17) (.t 19)⟩,
  ⟨none,(some 21),.mm true [(.t 20),(.k (.int .i64 0))]⟩,
  ⟨none,(some 22),.mov (.t 8)⟩,
  ⟨none,(some 23),.fld 2 (.t 5)⟩,
  ⟨none,(some 24),.load 1 false (.t 23)⟩,
  ⟨none,(some 25),.bin .sub (.t 22) (.t 24)⟩,
  ⟨none,(some 26),.mm true [(.t 25),(.k (.int .i64 0))]⟩,
  ⟨none,(some 27),.bin .add (.t 21) (.t 26)⟩,
  ⟨none,(some 9),.mov (.t 27)⟩])
 (.seq (.seq (.region false [⟨none,(some 28),.mov (.t 9)⟩,
  ⟨none,(some 29),.bin .gtr (.t 28) (.k (.int .i64 0))⟩])
 (.cond (.t 29) (.seq (.region false [⟨none,(some 30),.mov (.t 9)⟩,
  ⟨none,(some 31),.call (.k (.fn (.func 106) [] [])) [(.t 30)]⟩,
  ⟨none,none,.store 3 (.t 6) (.t 31)⟩])
 .ret)
 .skip))
 (.seq (.region false [⟨none,(some 32),.mov (.t 0)⟩,
  ⟨none,(some 33),.mov (.t 7)⟩,
  ⟨none,(some 34),.fld 1 (.t 5)⟩,
  ⟨none,(some 35),.load 1 false (.t 34)⟩,
  ⟨none,(some 36),.slcS 1 (.t 33) none (some (.t 35)) none⟩,
  ⟨none,(some 37),.call (.k (.fn (.func 108) [] [])) [(.t 32),(.t 36)]⟩,
  ⟨none,(some 38),.call (.k (.fn (.func 107) [] [])) [(.t 37)]⟩,
  ⟨none,none,.store 3 (.t 6) (.t 38)⟩])
 .ret)))))
 ntmps:=39
 res:=[.cell 6 3 true]
theorem z0xs:zsjc P Tryz.f72=some a72:=by kernel_rfl
def zqxw:ACode :=
 (.seq (.region false [⟨none,(some 15),.bin .lss (.t 14) (.t 13)⟩])
 (.seq (.cond (.t 15) .skip
 (.exit 0))
 (.seq (.block 1 (.seq (.region false [⟨none,(some 16),.idxS 71 (.t 12) (.t 14)⟩,
  ⟨none,(some 17),.load 71 true (.t 16)⟩,
  ⟨none,(some 7),.alloc [(.int .i64 0),(.str []),(w8 0#8),(w8 0#8),(w8 0#8),(w8 0#8),(w8 0#8),(w8 0#8),(w8 0#8),(w8 0#8),(w8 0#8),(w8 0#8),(w8 0#8),(w8 0#8),(w8 0#8),(w8 0#8),(w8 0#8),(w8 0#8),(w8 0#8),(w8 0#8),(w8 0#8),(w8 0#8),(w8 0#8),(w8 0#8),(w8 0#8),(w8 0#8),(w8 0#8),(w8 0#8),(w8 0#8),(w8 0#8),(w8 0#8),(w8 0#8),(w8 0#8),(w8 0#8),(.str []),(.str []),(.int .i64 0),(.bool false),(w8 0#8),(w8 0#8),(w8 0#8),(w8 0#8),(w8 0#8),(w8 0#8),(w8 0#8),(w8 0#8),(w8 0#8),(w8 0#8),(w8 0#8),(w8 0#8),(w8 0#8),(w8 0#8),(w8 0#8),(w8 0#8),(w8 0#8),(w8 0#8),(w8 0#8),(w8 0#8),(w8 0#8),(w8 0#8),(w8 0#8),(w8 0#8),(w8 0#8),(w8 0#8),(w8 0#8),(w8 0#8),(w8 0#8),(w8 0#8),(w8 0#8),(w8 0#8),.nils]⟩,
  ⟨none,none,.store 71 (.t 7) (.t 17)⟩])
 (.region false [⟨none,(some 18),.mov (.t 5)⟩,
  ⟨none,(some 19),.fld 38 (.t 7)⟩,
  ⟨none,(some 20),.load 32 true (.t 19)⟩,
  ⟨none,(some 21),.bsl 32 1 (rep 32 (w8 0#8)) [(0,32,(.t 20))]⟩,
  ⟨none,(some 22),.app 32 32 (.t 18) (.t 21)⟩,
  ⟨none,(some 5),.mov (.t 22)⟩])))
 (.region false [⟨none,(some 23),.bin .add (.t 14) (.k (.int .i64 1))⟩,
  ⟨none,(some 14),.mov (.t 23)⟩]))))
def ziva (x0 x1 x4 x5 x12 x13 x14:DV) (h:List AObj):St:=⟨[x0,x1,.junk,.junk,x4,x5]++js 6++[x12,x13,x14]++js 34,h⟩
def zcf7:ACode :=
 (.seq (.region false [⟨none,(some 30),.bin .lss (.t 29) (.t 28)⟩])
 (.seq (.cond (.t 30) .skip
 (.exit 2))
 (.seq (.block 3 (.seq (.region false [⟨none,(some 31),.idxS 32 (.t 27) (.t 29)⟩,
  ⟨none,(some 32),.load 32 true (.t 31)⟩,
  ⟨none,(some 10),.alloc (rep 32 (w8 0#8))⟩,
  ⟨none,none,.store 32 (.t 10) (.t 32)⟩])
 (.seq (.region false [⟨none,(some 33),.mov (.t 0)⟩,
  ⟨none,(some 34),.mkf (.func 111) [] [(.t 10)]⟩,
  ⟨none,(some 35),.call (.k (.fn (.func 68) [] [])) [(.t 33),(.k (.int .i64 5)),(.t 34)]⟩,
  ⟨none,(some 36),.mov (.t 1)⟩,
  ⟨none,(some 37),.call (.k (.fn (.func 69) [] [])) [(.t 35),(.t 36)]⟩,
  ⟨none,(some 11),.alloc [(.bool false),.nils,(.int .i64 0)]⟩,
  ⟨none,none,.store 3 (.t 11) (.t 37)⟩])
 (.seq (.seq (.region false [⟨none,(some 38),.fld 0 (.t 11)⟩,
  ⟨none,(some 39),.load 1 false (.t 38)⟩])
 (.cond (.t 39) (.seq (.region false [⟨none,(some 40),.load 3 true (.t 11)⟩,
  ⟨none,none,.store 3 (.t 4) (.t 40)⟩])
 .ret)
 .skip))
 (.region false [⟨none,(some 41),.fld 2 (.t 8)⟩,
  ⟨none,(some 42),.load 1 false (.t 41)⟩,
  ⟨none,(some 43),.fld 2 (.t 11)⟩,
  ⟨none,(some 44),.load 1 false (.t 43)⟩,
  ⟨none,(some 45),.mm false [(.t 42),(.t 44)]⟩,
  ⟨none,(some 46),.fld 2 (.t 8)⟩,
  ⟨none,none,.store 1 (.t 46) (.t 45)⟩])))))
 (.region false [⟨none,(some 47),.bin .add (.t 29) (.k (.int .i64 1))⟩,
  ⟨none,(some 29),.mov (.t 47)⟩]))))
def zx7a (x0 x1 x4 x8 x27 x28 x29:DV) (h:List AObj):St:=⟨[x0,x1,.junk,.junk,x4,.junk,.junk,.junk,x8]++js 18++[x27,x28,x29]++js 19,h⟩
def a73:AFn where
 code:=(.seq (.region false [⟨none,(some 4),.alloc [(.bool false),.nils,(.int .i64 0)]⟩])
 (.seq (.region false [⟨none,(some 5),.mov (.k .nils)⟩])
 (.seq (.seq (.region false [⟨none,(some 12),.mov (.t 0)⟩,
  ⟨none,(some 13),.len (.t 12)⟩,
  ⟨none,(some 14),.mov (.k (.int .i64 0))⟩])
 (.block 0 (.loop zqxw)))
 (.seq (.region false [⟨none,(some 24),.mov (.t 1)⟩,
  ⟨none,(some 25),.call (.k (.fn (.func 106) [] [])) [(.t 24)]⟩,
  ⟨none,(some 8),.alloc [(.bool false),.nils,(.int .i64 0)]⟩,
  ⟨none,none,.store 3 (.t 8) (.t 25)⟩])
 (.seq (.seq (.region false [⟨none,(some 26),.mov (.t 5)⟩,
  ⟨none,(some 27),.call (.k (.fn (.func 110) [] [])) [(.t 26)]⟩,
  ⟨none,(some 28),.len (.t 27)⟩,
  ⟨none,(some 29),.mov (.k (.int .i64 0))⟩])
 (.block 2 (.loop zcf7)))
 (.seq (.region false [⟨none,(some 48),.load 3 true (.t 8)⟩,
  ⟨none,none,.store 3 (.t 4) (.t 48)⟩])
 .ret))))))
 ntmps:=49
 res:=[.cell 4 3 true]
theorem zn06:zsjc P Tryz.f73=some a73:=by kernel_rfl
end Go.Proofs.YtdnhbfmlklaldaaGreat
set_option linter.unusedSimpArgs false
set_option linter.unusedVariables false
namespace Go.Proofs.YtdnhbfmlklaldaaGreat
open Go Go.Am
def a37:AFn where
 code:=(.seq (.region false [⟨none,(some 4),.mov (.k (.int .i64 0))⟩])
 (.seq (.region false [⟨none,(some 5),.mov (.t 0)⟩,
  ⟨none,(some 6),.mov (.t 1)⟩,
  ⟨none,(some 7),.call (.k (.fn (.func 62) [] [])) [(.t 5),(.t 6)]⟩,
  ⟨none,(some 4),.mov (.t 7)⟩])
 .ret))
 ntmps:=8
 res:=[.tmp 4]
theorem z554:zsjc P Tryz.f37=some a37:=by kernel_rfl
def a133:AFn where
 code:=(.seq (.region false [⟨none,(some 2),.box (.t 0)⟩,
  ⟨none,(some 3),.box (.t 1)⟩,
  ⟨none,(some 4),.mov (.k (.int .i64 0))⟩])
 (.seq (.region true [⟨none,(some 5),.slcA 32 1 (.t 2) none none⟩,
  ⟨none,(some 6),.slcA 32 1 (.t 3) none none⟩,
  ⟨none,(some 7),.callN (.k (.fn (.func 37) [] [])) [(.t 5),(.t 6)]⟩,
  ⟨none,(some 4),.mov (.t 7)⟩])
 .ret))
 ntmps:=8
 res:=[.tmp 4]
theorem zl8e:zsjc P Tryz.f133=some a133:=by kernel_rfl
def zcwr:ACode :=
 (.seq (.seq (.region false [⟨none,(some 29),.mov (.t 5)⟩,
  ⟨none,(some 30),.mov (.t 4)⟩,
  ⟨none,(some 31),.len (.t 30)⟩,
  ⟨none,(some 32),.bin .lss (.t 29) (.t 31)⟩])
 (.cond (.t 32) .skip
 (.exit 2)))
 (.seq (.block 3 (.seq (.region true [⟨none,(some 35),.mov (.t 4)⟩,
  ⟨none,(some 36),.mov (.t 5)⟩,
  ⟨none,(some 37),.idxS 32 (.t 35) (.t 36)⟩,
  ⟨none,(some 38),.load 32 true (.t 37)⟩,
  ⟨none,(some 39),.mov (.t 4)⟩,
  ⟨none,(some 40),.mov (.t 5)⟩,
  ⟨none,(some 41),.bin .sub (.t 40) (.k (.int .i64 1))⟩,
  ⟨none,(some 42),.idxS 32 (.t 39) (.t 41)⟩,
  ⟨none,(some 43),.load 32 true (.t 42)⟩,
  ⟨none,(some 44),.eqa true [(32,0)] (.t 38) (.t 43)⟩])
 (.cond (.t 44) (.seq (.region false [⟨none,(some 45),.mov (.t 0)⟩,
  ⟨none,(some 46),.mov (.t 3)⟩,
  ⟨none,(some 47),.mov (.t 4)⟩,
  ⟨none,(some 48),.mov (.t 5)⟩,
  ⟨none,(some 49),.idxS 32 (.t 47) (.t 48)⟩,
  ⟨none,(some 50),.load 32 true (.t 49)⟩,
  ⟨none,(some 51),.idxS 32 (.t 45) (.t 46)⟩,
  ⟨none,none,.store 32 (.t 51) (.t 50)⟩])
 (.region false [⟨none,(some 52),.mov (.t 3)⟩,
  ⟨none,(some 53),.bin .add (.t 52) (.k (.int .i64 1))⟩,
  ⟨none,(some 3),.mov (.t 53)⟩]))
 .skip)))
 (.region false [⟨none,(some 33),.mov (.t 5)⟩,
  ⟨none,(some 34),.bin .add (.t 33) (.k (.int .i64 1))⟩,
  ⟨none,(some 5),.mov (.t 34)⟩])))
def zcq8 (x0 x3 x4 x5:DV) (h:List AObj):St:=⟨[x0,.junk,.junk,x3,x4,x5]++js 55,h⟩
def zq51:ACode :=
 (.seq (.seq (.region false [⟨none,(some 10),.mov (.t 3)⟩,
  ⟨none,(some 11),.mov (.t 0)⟩,
  ⟨none,(some 12),.len (.t 11)⟩,
  ⟨none,(some 13),.bin .lss (.t 10) (.t 12)⟩])
 (.cond (.t 13) .skip
 (.exit 0)))
 (.seq (.block 1 (.seq (.region true [⟨none,(some 16),.mov (.t 0)⟩,
  ⟨none,(some 17),.mov (.t 3)⟩,
  ⟨none,(some 18),.idxS 32 (.t 16) (.t 17)⟩,
  ⟨none,(some 19),.load 32 true (.t 18)⟩,
  ⟨none,(some 20),.mov (.t 0)⟩,
  ⟨none,(some 21),.mov (.t 3)⟩,
  ⟨none,(some 22),.bin .sub (.t 21) (.k (.int .i64 1))⟩,
  ⟨none,(some 23),.idxS 32 (.t 20) (.t 22)⟩,
  ⟨none,(some 24),.load 32 true (.t 23)⟩,
  ⟨none,(some 25),.eqa false [(32,0)] (.t 19) (.t 24)⟩])
 (.cond (.t 25) (.seq (.region false [⟨none,(some 26),.mov (.t 0)⟩,
  ⟨none,(some 27),.mov (.t 3)⟩,
  ⟨none,(some 28),.slcS 32 (.t 26) (some (.t 27)) none none⟩,
  ⟨none,(some 4),.mov (.t 28)⟩])
 (.seq (.seq (.region false [⟨none,(some 5),.mov (.k (.int .i64 1))⟩])
 (.block 2 (.loop zcwr)))
 (.seq (.region false [⟨none,(some 54),.mov (.t 0)⟩,
  ⟨none,(some 55),.mov (.t 3)⟩,
  ⟨none,(some 56),.slcS 32 (.t 54) (some (.t 55)) none none⟩,
  ⟨none,none,.clr 32 (rep 32 (w8 0#8)) (.t 56)⟩])
 (.seq (.region false [⟨none,(some 57),.mov (.t 0)⟩,
  ⟨none,(some 58),.mov (.t 3)⟩,
  ⟨none,(some 59),.slcS 32 (.t 57) none (some (.t 58)) none⟩,
  ⟨none,(some 2),.mov (.t 59)⟩])
 .ret))))
 .skip)))
 (.region false [⟨none,(some 14),.mov (.t 3)⟩,
  ⟨none,(some 15),.bin .add (.t 14) (.k (.int .i64 1))⟩,
  ⟨none,(some 3),.mov (.t 15)⟩])))
def zyy9 (x0 x3:DV) (h:List AObj):St:=⟨[x0,.junk,.junk,x3]++js 57,h⟩
def a134:AFn where
 code:=(.seq (.region false [⟨none,(some 2),.mov (.k .nils)⟩])
 (.seq (.seq (.region false [⟨none,(some 6),.mov (.t 0)⟩,
  ⟨none,(some 7),.len (.t 6)⟩,
  ⟨none,(some 8),.bin .lss (.t 7) (.k (.int .i64 2))⟩])
 (.cond (.t 8) (.seq (.region false [⟨none,(some 9),.mov (.t 0)⟩,
  ⟨none,(some 2),.mov (.t 9)⟩])
 .ret)
 .skip))
 (.seq (.seq (.region false [⟨none,(some 3),.mov (.k (.int .i64 1))⟩])
 (.block 0 (.loop zq51)))
 (.seq (.region false [⟨none,(some 60),.mov (.t 0)⟩,
  ⟨none,(some 2),.mov (.t 60)⟩])
 .ret))))
 ntmps:=61
 res:=[.tmp 2]
theorem zccp:zsjc P Tryz.f134=some a134:=by kernel_rfl
def a114:AFn where
 code:=(.seq (.region false [⟨none,(some 2),.mov (.k .nils)⟩])
 (.seq (.seq (.region false [⟨none,(some 3),.mov (.t 0)⟩,
  ⟨none,(some 4),.eqn 0 false (.t 3) (.k .nils)⟩])
 (.cond (.t 4) (.seq (.region false [⟨none,(some 2),.mov (.k .nils)⟩])
 .ret)
 .skip))
 (.seq (.region false [⟨none,(some 5),.bsl 32 0 (rep 32 (w8 0#8)) []⟩,
  ⟨none,(some 6),.mov (.t 0)⟩,
  ⟨none,(some 7),.app 32 32 (.t 5) (.t 6)⟩,
  ⟨none,(some 2),.mov (.t 7)⟩])
 .ret)))
 ntmps:=8
 res:=[.tmp 2]
theorem zgcx:zsjc P Tryz.f114=some a114:=by kernel_rfl
def a110:AFn where
 code:=(.seq (.region false [⟨none,(some 2),.mov (.k .nils)⟩])
 (.seq (.region false [⟨none,(some 3),.mov (.t 0)⟩,
  ⟨none,(some 4),.call (.k (.fn (.func 114) [] [])) [(.t 3)]⟩,
  ⟨none,(some 0),.mov (.t 4)⟩])
 (.seq (.region false [⟨none,(some 5),.mov (.t 0)⟩,
  ⟨none,(some 6),.call (.k (.fn (.func 132) [] [])) [(.t 5),(.k (.fn (.func 133) [] []))]⟩])
 (.seq (.region false [⟨none,(some 7),.mov (.t 0)⟩,
  ⟨none,(some 8),.call (.k (.fn (.func 134) [] [])) [(.t 7)]⟩,
  ⟨none,(some 2),.mov (.t 8)⟩])
 .ret))))
 ntmps:=9
 res:=[.tmp 2]
theorem z7w3:zsjc P Tryz.f110=some a110:=by kernel_rfl
def z91y:ACode :=
 (.seq (.region false [⟨none,(some 12),.bin .lss (.t 11) (.t 10)⟩])
 (.seq (.cond (.t 12) .skip
 (.exit 0))
 (.seq (.block 1 (.seq (.region false [⟨none,(some 13),.idxS 1 (.t 9) (.t 11)⟩,
  ⟨none,(some 14),.load 1 false (.t 13)⟩,
  ⟨none,(some 5),.mov (.t 14)⟩])
 (.seq (.region false [⟨none,(some 15),.mov (.t 3)⟩,
  ⟨none,(some 16),.mov (.t 5)⟩,
  ⟨none,(some 17),.len (.t 16)⟩,
  ⟨none,(some 18),.bin .add (.t 15) (.t 17)⟩,
  ⟨none,(some 3),.mov (.t 18)⟩])
 (.seq (.region false [⟨none,(some 19),.mov (.t 3)⟩,
  ⟨none,(some 20),.bin .lss (.t 19) (.k (.int .i64 0))⟩])
 (.cond (.t 20) (.region false [⟨none,(some 21),.ext (.k .junk) 0⟩,
  ⟨none,none,.ext (.k .junk) 0⟩])
 .skip)))))
 (.region false [⟨none,(some 22),.bin .add (.t 11) (.k (.int .i64 1))⟩,
  ⟨none,(some 11),.mov (.t 22)⟩]))))
def zhqq (x0 x3 x9 x10 x11:DV) (h:List AObj):St:=⟨[x0,.junk,.junk,x3]++js 5++[x9,x10,x11]++js 24,h⟩
def z3ty:ACode :=
 (.seq (.region false [⟨none,(some 28),.bin .lss (.t 27) (.t 26)⟩])
 (.seq (.cond (.t 28) .skip
 (.exit 2))
 (.seq (.block 3 (.seq (.region false [⟨none,(some 29),.idxS 1 (.t 25) (.t 27)⟩,
  ⟨none,(some 30),.load 1 false (.t 29)⟩,
  ⟨none,(some 8),.mov (.t 30)⟩])
 (.region false [⟨none,(some 31),.mov (.t 6)⟩,
  ⟨none,(some 32),.mov (.t 8)⟩,
  ⟨none,(some 33),.app 32 32 (.t 31) (.t 32)⟩,
  ⟨none,(some 6),.mov (.t 33)⟩])))
 (.region false [⟨none,(some 34),.bin .add (.t 27) (.k (.int .i64 1))⟩,
  ⟨none,(some 27),.mov (.t 34)⟩]))))
def zlbu (x6 x25 x26 x27:DV) (h:List AObj):St:=⟨js 6++[x6]++js 18++[x25,x26,x27]++js 8,h⟩
def a112:AFn where
 code:=(.seq (.region false [⟨none,(some 2),.mov (.k .nils)⟩])
 (.seq (.region false [⟨none,(some 3),.mov (.k (.int .i64 0))⟩])
 (.seq (.seq (.region false [⟨none,(some 9),.mov (.t 0)⟩,
  ⟨none,(some 10),.len (.t 9)⟩,
  ⟨none,(some 11),.mov (.k (.int .i64 0))⟩])
 (.block 0 (.loop z91y)))
 (.seq (.region false [⟨none,(some 23),.mov (.t 3)⟩,
  ⟨none,(some 24),.call (.k (.fn (.func 135) [] [])) [(.k .nils),(.t 23)]⟩,
  ⟨none,(some 6),.mov (.t 24)⟩])
 (.seq (.seq (.region false [⟨none,(some 25),.mov (.t 0)⟩,
  ⟨none,(some 26),.len (.t 25)⟩,
  ⟨none,(some 27),.mov (.k (.int .i64 0))⟩])
 (.block 2 (.loop z3ty)))
 (.seq (.region false [⟨none,(some 35),.mov (.t 6)⟩,
  ⟨none,(some 2),.mov (.t 35)⟩])
 .ret))))))
 ntmps:=36
 res:=[.tmp 2]
theorem z6i5:zsjc P Tryz.f112=some a112:=by kernel_rfl
end Go.Proofs.YtdnhbfmlklaldaaGreat
set_option linter.unusedSimpArgs false
set_option linter.unusedVariables false
namespace Go.Proofs.YtdnhbfmlklaldaaGreat
open Go Go.Am Go.RowKit
def u8L (l:List B8):List UInt8:=l.map fun b=>b.toNat.toUInt8
theorem zi7v {E:Env} {X:Forb} {w:World} {v:Value} {b:B8} (h:Rep E X w v (w8 b)):v = .int .u8 b.toNat:=by
 cases h; rfl
theorem zq08 {P:Program} {w:World} {a:Addr} {x:List B8} {cv:Nat→Value} (hc : ∀ i,i<(x.map w8).length→w.cell? (a.add i)=some (cv i)) {E:Env} {X:Forb} (hr : ∀ i (h:i<(x.map w8).length),Rep E X w (cv i) (x.map w8)[i]) :
  (Extern.Bytes.loadBytes a x.length .empty).run P w = .ok ⟨(u8L x).toArray⟩ w:=by
 have h:=Lib.run_loadBytesX (P:=P) (w:=w) (x.map fun b=>(b.toNat:Int)) a .empty (fun j y hy=>by
  obtain ⟨hj,e⟩:=List.getElem?_eq_some_iff.1 hy
  have hj':j<x.length:=by simpa using hj
  have h1:=hc j (by simpa using hj')
  have h2:=hr j (by simpa using hj')
  rw [List.getElem_map] at h2
  rw [h1,zi7v h2]
  rw [List.getElem_map] at e
  rw [e])
 rw [List.length_map] at h
 rw [h]
 have e:Lib.bytesOf (x.map fun b=>(b.toNat:Int))=u8L x:=by simp [Lib.bytesOf,u8L,List.map_map,Function.comp_def]
 rw [e]
 simp
theorem zf9q {P : Program} {f : FuncId} {fn : Func} (hf : P.funcs[f]? = some fn) (h1 : (fn.name == "runtime.NumGoroutine") = false) (h2 : fn.body.isNone = true) (h3 : Extern.findNext fn = none) (h4 : Extern.find fn = some Extern.BytealgCompare.compare) (x y : List B8) (fx fy : Bool) :
  Am.Sem P f [.sl fx 1 x.length (x.map w8),.sl fy 1 y.length (y.map w8)] (.int .i64 (Lib.compareBytes (u8L x) (u8L y))):=by
 intro X w vs _ hr
 obtain ⟨v1,v2,rfl,hx,hy⟩:=zaih hr
 cases hx with
 | sl _ _ _ cap1 a1 _ cv1 hn1 hf1 hl1 hc1 hx1 hr1 =>
 cases hy with
 | sl _ _ _ cap2 a2 _ cv2 hn2 hf2 hl2 hc2 hx2 hr2 =>
 refine .inr ⟨_,w,?_,_,rfl,Rep.int .i64 _,BelowD.refl _ w⟩
 have hrun:(Extern.BytealgCompare.compare #[.slice (some a1) x.length cap1,.slice (some a2) y.length cap2]).run P w = .ok (.int .i64 (Lib.compareBytes (u8L x) (u8L y))) w:=by
  change Sem.run P (do pure (goInt (Extern.BytealgCompare.cmp (← Extern.Bytes.bytesOf (.slice (some a1) x.length cap1)) (← Extern.Bytes.bytesOf (.slice (some a2) y.length cap2))))) w=_
  simp only [Extern.Bytes.bytesOf,Sem.run_bind,Sem.run_pure,zq08 hc1 hr1,zq08 hc2 hr2,Result.andThen]
  rw [Lib.cmp_eq]
  rfl
 rw [run_callFunc_extern hf h1 h2 h3 h4,hrun]
 rfl
theorem zadq : ∀ (a b:List UInt8),Lib.compareBytes a b<0↔Op.bytesLess a b=true
 | [],[]=>by simp [Lib.compareBytes,Op.bytesLess]
 | [],_::_=>by simp [Lib.compareBytes,Op.bytesLess]
 | _::_,[]=>by simp [Lib.compareBytes,Op.bytesLess]
 | x::a,y::b=>by
  have ih:=zadq a b
  simp only [Lib.compareBytes,Op.bytesLess,Bool.or_eq_true,Bool.and_eq_true,decide_eq_true_eq,beq_iff_eq]
  by_cases h:x<y
  ·simp [h]
  ·by_cases h':y<x
   ·have:¬ x=y:=fun e=>by subst e; exact h h'
    simp [h,h',this]
   ·have:x=y:=UInt8.le_antisymm (UInt8.not_lt.1 h') (UInt8.not_lt.1 h)
    subst this; simp [ih]
theorem zsqc {α:Type} {h:List AObj} {k s:Nat} {f:α→List DV} {x:Sl α} (hp : ∀ a,zbao (f a)=true):snap h k (x.dv s f)=some (x.dv s f):=z6nl (zxxb hp x)
theorem z7y9 {h:List AObj} {k:Nat} {x:Sl Dg}:snap h k (x.dv 32 dgC)=some (x.dv 32 dgC):=zsqc z3ot
theorem z6dl {h:List AObj} {k:Nat} {x:Sl Fct}:snap h k (x.dv 71 faC)=some (x.dv 71 faC):=zsqc z93p
theorem zvmz {h:List AObj} {k:Nat} {x:Sl Fnd}:snap h k (x.dv 39 fnC)=some (x.dv 39 fnC):=zsqc zl9f
theorem znmb {h:List AObj} {k:Nat} {x:Sl Str}:snap h k (x.dv 1 stC)=some (x.dv 1 stC):=zsqc zds6
theorem z2za {h:List AObj} {k:Nat} {x:Sl Org}:snap h k (x.dv 34 orC)=some (x.dv 34 orC):=zsqc ztvh
theorem zmb5 {h:List AObj} {k:Nat} {c:Fct}:z4tt h k (faC c)=some (faC c):=z619 (z93p c)
theorem zs5m {h:List AObj} {k:Nat} {c:Fnd}:z4tt h k (fnC c)=some (fnC c):=z619 (zl9f c)
theorem zmhc {h:List AObj} {k:Nat} {c:Cas}:z4tt h k (caC c)=some (caC c):=z619 (zkih c)
theorem z889 {h:List AObj} {k:Nat} {c:Org}:z4tt h k (orC c)=some (orC c):=z619 (ztvh c)
theorem zgfz {h:List AObj} {k:Nat} {c:Req}:z4tt h k (rqC c)=some (rqC c):=z619 (zhqv c)
theorem zequ {h:List AObj} {k:Nat} {c:Sup}:z4tt h k (suC c)=some (suC c):=z619 (zxm8 c)
theorem zxh4 {h:List AObj} {k:Nat} {f:Fn} {x:DV}:snap h (k+1) (.fn f [] [x])=(snap h (k+1) x).map fun y => .fn f [] [y]:=by
 simp only [snap,zcxt,zoyo]
 cases zcxt _ x<;>rfl
theorem znxs {h:List AObj} {k:Nat} {f:Fn} {x y:DV}:snap h (k+1) (.fn f [] [x,y])=(snap h (k+1) x).bind fun a=>(snap h (k+1) y).map fun b => .fn f [] [a,b]:=by
 simp only [snap,zcxt,zoyo]
 cases zcxt _ x<;>simp only [Option.bind_some,Option.bind_none]
 ·rfl
 ·cases zcxt _ y<;>rfl
theorem zfco {h:List AObj} {k:Nat} {f:Fn} {x y z:DV}:snap h (k+1) (.fn f [] [x,y,z])=(snap h (k+1) x).bind fun a=>(snap h (k+1) y).bind fun b=>(snap h (k+1) z).map fun c => .fn f [] [a,b,c]:=by
 simp only [snap,zcxt,zoyo]
 cases zcxt _ x<;>simp only [Option.bind_some,Option.bind_none]
 ·rfl
 ·cases zcxt _ y<;>simp only [Option.bind_some,Option.bind_none]
  ·rfl
  ·cases zcxt _ z<;>rfl
theorem zxbs {h:List AObj} {k:Nat} {f:Fn} {l:List DV}:snap h k (.fn f [] l)=(z4tt h k l).map (.fn f []):=by
 cases k<;>simp only [snap,zcxt,zoyo,z4tt,zncu]<;>first|rfl|(cases zp5p _ l<;>rfl)
theorem zvvi {h:List AObj} {k:Nat} {f:Fn}:snap h k (.fn f [] [])=some (.fn f [] []):=by cases k<;>rfl
attribute [simp] zxh4 znxs zfco z7y9 z6dl zvmz znmb z2za zmb5 zs5m zmhc z889 zgfz zequ zvvi zs77 z0o0 zt8w zu78 zzeg z16g
end Go.Proofs.YtdnhbfmlklaldaaGreat
set_option linter.unusedSimpArgs false
set_option linter.unusedVariables false
namespace Go.Proofs.YtdnhbfmlklaldaaGreat
open Go Go.Am
mutual
theorem z8b8 (n:Nat) : ∀ (d:DV),zyp8 d=true→Am.below n d=true
 | .agg cs,h=>by simp only [zyp8] at h; simp only [Am.below]; exact zmq5 n cs h
 | .tup cs,h=>by simp only [zyp8] at h; simp only [Am.below]; exact zmq5 n cs h
 | .sl _ _ _ cs,h=>by simp only [zyp8] at h; simp only [Am.below]; exact zmq5 n cs h
 | .ref cs,h=>by simp only [zyp8] at h; simp only [Am.below]; exact zmq5 n cs h
 | .fn _ a b,h=>by simp only [zyp8,Bool.and_eq_true] at h; simp only [Am.below,Bool.and_eq_true]; exact ⟨zmq5 n a h.1,zmq5 n b h.2⟩
 | .iface _ v,h=>by simp only [zyp8] at h; simp only [Am.below]; exact z8b8 n v h
 | .ms ..,h=>by simp [zyp8] at h
 | .mp ..,h=>by simp [zyp8] at h
 | .int ..,_=>rfl
 | .bool ..,_=>rfl
 | .str ..,_=>rfl
 | .nilp,_=>rfl
 | .nilm,_=>rfl
 | .nilf,_=>rfl
 | .nili,_=>rfl
 | .nils,_=>rfl
 | .junk,_=>rfl
theorem zmq5 (n:Nat) : ∀ (l:List DV),zbao l=true→z1r6 n l=true
 | [],_=>rfl
 | d::r,h=>by simp only [zbao,Bool.and_eq_true] at h; simp only [z1r6,Bool.and_eq_true]; exact ⟨z8b8 n d h.1,zmq5 n r h.2⟩
end
theorem zoxk {d:Dg}:(dgC d).all DV.one=true:=zzst
theorem z3om {h:List AObj} {k:Nat} {c:Dg}:z4tt h k (dgC c)=some (dgC c):=z619 (z3ot c)
theorem zbw6 {n:Nat} {g:Dg}:z1r6 n (dgC g)=true:=zmq5 n _ (z3ot g)
theorem zes9 {h:List AObj} {id:Nat} {d:Dg} {l:List DV} (hl:l.length=32):zy6o h id 32 0 (.agg (dgC d)) (some l)=some (.junk,h.set id (.cells (dgC d))):=zfc1 (z1t1 d) hl zzst
theorem zmd2 {d:Dg} {r:List DV}:oneC 32 true (dgC d++r)=some (.agg (dgC d)):=by
 simp only [oneC,if_true]; rw [if_pos (by simp [z1t1]),List.take_left' (z1t1 _)]
theorem zj6k {d:Dg} {r:List DV} {n:Nat} (h:32≤n):(dgC d++r).drop n=r.drop (n-32):=by
 rw [List.drop_append,List.drop_of_length_le (by rw [z1t1]; exact h),z1t1,List.nil_append]
theorem zgr2 {x:Fct}:oneC 71 true (faC x)=some (.agg (faC x)):=by simp [oneC,zs77,List.take_of_length_le]
theorem z9s3 {x:Fct} {off n:Nat} {a:Bool} (hl:off+n≤71):zhj0 off n a (.agg (faC x))=oneC n a ((faC x).drop off):=by simp [zhj0,zs77,hl]
theorem z8j3 {x:Fct} {n:Nat}:z1r6 n (faC x)=true:=zmq5 n _ (z93p x)
theorem zfgo {x:Fct}:(faC x).all DV.one=true:=by simp only [faC,List.all_cons,List.all_append,zoxk,zzmf,z3gw,zxyr,z4ja,List.all_nil,Bool.and_self]
theorem zpvk {x:Fct} {h:List AObj} {id:Nat} {l:List DV} (hl:l.length=71):zy6o h id 71 0 (.agg (faC x)) (some l)=some (.junk,h.set id (.cells (faC x))):=zfc1 (zs77 x) hl zfgo
theorem zhjs {x:Fnd}:oneC 39 true (fnC x)=some (.agg (fnC x)):=by simp [oneC,z0o0,List.take_of_length_le]
theorem zsfg {x:Fnd} {off n:Nat} {a:Bool} (hl:off+n≤39):zhj0 off n a (.agg (fnC x))=oneC n a ((fnC x).drop off):=by simp [zhj0,z0o0,hl]
theorem z2qx {x:Fnd} {n:Nat}:z1r6 n (fnC x)=true:=zmq5 n _ (zl9f x)
theorem zbwe {x:Fnd}:(fnC x).all DV.one=true:=by simp only [fnC,List.all_cons,List.all_append,zoxk,zzmf,z3gw,zxyr,z4ja,List.all_nil,Bool.and_self]
theorem zm01 {x:Fnd} {h:List AObj} {id:Nat} {l:List DV} (hl:l.length=39):zy6o h id 39 0 (.agg (fnC x)) (some l)=some (.junk,h.set id (.cells (fnC x))):=zfc1 (z0o0 x) hl zbwe
theorem zc3i {x:Cas}:oneC 36 true (caC x)=some (.agg (caC x)):=by simp [oneC,zt8w,List.take_of_length_le]
theorem zn4x {x:Cas} {off n:Nat} {a:Bool} (hl:off+n≤36):zhj0 off n a (.agg (caC x))=oneC n a ((caC x).drop off):=by simp [zhj0,zt8w,hl]
theorem zd49 {x:Cas} {n:Nat}:z1r6 n (caC x)=true:=zmq5 n _ (zkih x)
theorem zwks {x:Cas}:(caC x).all DV.one=true:=by simp only [caC,List.all_cons,List.all_append,zoxk,zzmf,z3gw,zxyr,z4ja,List.all_nil,Bool.and_self]
theorem zp1j {x:Cas} {h:List AObj} {id:Nat} {l:List DV} (hl:l.length=36):zy6o h id 36 0 (.agg (caC x)) (some l)=some (.junk,h.set id (.cells (caC x))):=zfc1 (zt8w x) hl zwks
theorem zjgp {x:Org}:oneC 34 true (orC x)=some (.agg (orC x)):=by simp [oneC,zu78,List.take_of_length_le]
theorem zem0 {x:Org} {off n:Nat} {a:Bool} (hl:off+n≤34):zhj0 off n a (.agg (orC x))=oneC n a ((orC x).drop off):=by simp [zhj0,zu78,hl]
theorem z2g3 {x:Org} {n:Nat}:z1r6 n (orC x)=true:=zmq5 n _ (ztvh x)
theorem zkp2 {x:Org}:(orC x).all DV.one=true:=by simp only [orC,List.all_cons,List.all_append,zoxk,zzmf,z3gw,zxyr,z4ja,List.all_nil,Bool.and_self]
theorem zlls {x:Org} {h:List AObj} {id:Nat} {l:List DV} (hl:l.length=34):zy6o h id 34 0 (.agg (orC x)) (some l)=some (.junk,h.set id (.cells (orC x))):=zfc1 (zu78 x) hl zkp2
theorem zed4 {x:Req}:oneC 4 true (rqC x)=some (.agg (rqC x)):=rfl
theorem zqu6 {x:Req} {off n:Nat} {a:Bool} (hl:off+n≤4):zhj0 off n a (.agg (rqC x))=oneC n a ((rqC x).drop off):=by simp [zhj0,zzeg,hl]
theorem zljy {x:Req} {n:Nat}:z1r6 n (rqC x)=true:=zmq5 n _ (zhqv x)
theorem z30b {x:Req}:(rqC x).all DV.one=true:=by simp only [rqC,List.all_cons,List.all_append,zoxk,zzmf,z3gw,zxyr,z4ja,List.all_nil,Bool.and_self]
theorem zmx2 {x:Req} {h:List AObj} {id:Nat} {l:List DV} (hl:l.length=4):zy6o h id 4 0 (.agg (rqC x)) (some l)=some (.junk,h.set id (.cells (rqC x))):=zfc1 (zzeg x) hl z30b
theorem z01u {x:Sup}:oneC 3 true (suC x)=some (.agg (suC x)):=rfl
theorem z9wl {x:Sup} {off n:Nat} {a:Bool} (hl:off+n≤3):zhj0 off n a (.agg (suC x))=oneC n a ((suC x).drop off):=by simp [zhj0,z16g,hl]
theorem zj4t {x:Sup} {n:Nat}:z1r6 n (suC x)=true:=zmq5 n _ (zxm8 x)
theorem zy2k {x:Sup}:(suC x).all DV.one=true:=by simp only [suC,List.all_cons,List.all_append,zoxk,zzmf,z3gw,zxyr,z4ja,List.all_nil,Bool.and_self]
theorem z1dg {x:Sup} {h:List AObj} {id:Nat} {l:List DV} (hl:l.length=3):zy6o h id 3 0 (.agg (suC x)) (some l)=some (.junk,h.set id (.cells (suC x))):=zfc1 (z16g x) hl zy2k
theorem z1tq {x:Fct}:oneC 1 false (faC x)=some (.int .i64 x.kind):=rfl
theorem zr5b {x:Fct}:oneC 1 false ((faC x).drop 1)=some (.str x.own):=rfl
theorem zslk {x:Fct}:oneC 32 true ((faC x).drop 2)=some (.agg (dgC x.rev)):=zmd2
theorem zfhd {x:Fct}:(faC x).drop 34 = .str x.lay :: .str x.run :: .int .i64 x.at_ :: .bool x.agr::(dgC x.tgt++[x.docs.dv 32 dgC]):=by
 show (dgC x.rev++_).drop 32=_; rw [zj6k (by decide)]; rfl
theorem zqx3 {x:Fct}:oneC 1 false ((faC x).drop 34)=some (.str x.lay):=by rw [show (34:Nat)=34+0 from rfl,← List.drop_drop,zfhd]; rfl
theorem z6gf {x:Fct}:oneC 1 false ((faC x).drop 35)=some (.str x.run):=by rw [show (35:Nat)=34+1 from rfl,← List.drop_drop,zfhd]; rfl
theorem z7u5 {x:Fct}:oneC 1 false ((faC x).drop 36)=some (.int .i64 x.at_):=by rw [show (36:Nat)=34+2 from rfl,← List.drop_drop,zfhd]; rfl
theorem z2ek {x:Fct}:oneC 1 false ((faC x).drop 37)=some (.bool x.agr):=by rw [show (37:Nat)=34+3 from rfl,← List.drop_drop,zfhd]; rfl
theorem zmjp {x:Fct}:oneC 32 true ((faC x).drop 38)=some (.agg (dgC x.tgt)):=by rw [show (38:Nat)=34+4 from rfl,← List.drop_drop,zfhd]; exact zmd2
theorem zdpf {x:Fct}:oneC 1 false ((faC x).drop 70)=some (x.docs.dv 32 dgC):=by rw [show (70:Nat)=34+36 from rfl,← List.drop_drop,zfhd]; show oneC 1 false ((dgC x.tgt++_).drop 32)=_; rw [zj6k (by decide)]; rfl
theorem zdwi {x:Fnd}:oneC 32 true (fnC x)=some (.agg (dgC x.inv)):=zmd2
theorem z19g {x:Fnd}:(fnC x).drop 32=[.int .i64 x.comp,.str x.id,.int .i64 x.sev,x.hd.dv 32 dgC,.int .i64 x.st,x.dd.dv 32 dgC,.bool x.con]:=by
 show (dgC x.inv++_).drop 32=_; rw [zj6k (by decide)]; rfl
theorem z75o {x:Fnd}:oneC 1 false ((fnC x).drop 32)=some (.int .i64 x.comp):=by rw [show (32:Nat)=32+0 from rfl,← List.drop_drop,z19g]; rfl
theorem zvy4 {x:Fnd}:oneC 1 false ((fnC x).drop 33)=some (.str x.id):=by rw [show (33:Nat)=32+1 from rfl,← List.drop_drop,z19g]; rfl
theorem z9yj {x:Fnd}:oneC 1 false ((fnC x).drop 34)=some (.int .i64 x.sev):=by rw [show (34:Nat)=32+2 from rfl,← List.drop_drop,z19g]; rfl
theorem zf0o {x:Fnd}:oneC 1 false ((fnC x).drop 35)=some (x.hd.dv 32 dgC):=by rw [show (35:Nat)=32+3 from rfl,← List.drop_drop,z19g]; rfl
theorem z0f2 {x:Fnd}:oneC 1 false ((fnC x).drop 36)=some (.int .i64 x.st):=by rw [show (36:Nat)=32+4 from rfl,← List.drop_drop,z19g]; rfl
theorem zhya {x:Fnd}:oneC 1 false ((fnC x).drop 37)=some (x.dd.dv 32 dgC):=by rw [show (37:Nat)=32+5 from rfl,← List.drop_drop,z19g]; rfl
theorem z5i2 {x:Fnd}:oneC 1 false ((fnC x).drop 38)=some (.bool x.con):=by rw [show (38:Nat)=32+6 from rfl,← List.drop_drop,z19g]; rfl
theorem zygy {x:Cas}:oneC 32 true (caC x)=some (.agg (dgC x.art)):=zmd2
theorem zak0 {x:Cas}:(caC x).drop 32=[.int .i64 x.at_,x.f.dv 71 faC,x.n.dv 39 fnC,x.d.dv 1 stC]:=by
 show (dgC x.art++_).drop 32=_; rw [zj6k (by decide)]; rfl
theorem zz91 {x:Cas}:oneC 1 false ((caC x).drop 32)=some (.int .i64 x.at_):=by rw [show (32:Nat)=32+0 from rfl,← List.drop_drop,zak0]; rfl
theorem ztek {x:Cas}:oneC 1 false ((caC x).drop 33)=some (x.f.dv 71 faC):=by rw [show (33:Nat)=32+1 from rfl,← List.drop_drop,zak0]; rfl
theorem ztlh {x:Cas}:oneC 1 false ((caC x).drop 34)=some (x.n.dv 39 fnC):=by rw [show (34:Nat)=32+2 from rfl,← List.drop_drop,zak0]; rfl
theorem z102 {x:Cas}:oneC 1 false ((caC x).drop 35)=some (x.d.dv 1 stC):=by rw [show (35:Nat)=32+3 from rfl,← List.drop_drop,zak0]; rfl
theorem z7g1 {x:Org}:oneC 32 true (orC x)=some (.agg (dgC x.rev)):=zmd2
theorem zf8z {x:Org}:(orC x).drop 32=[.str x.lay,.str x.run]:=by
 show (dgC x.rev++_).drop 32=_; rw [zj6k (by decide)]; rfl
theorem zbxy {x:Org}:oneC 1 false ((orC x).drop 32)=some (.str x.lay):=by rw [show (32:Nat)=32+0 from rfl,← List.drop_drop,zf8z]; rfl
theorem z4zs {x:Org}:oneC 1 false ((orC x).drop 33)=some (.str x.run):=by rw [show (33:Nat)=32+1 from rfl,← List.drop_drop,zf8z]; rfl
theorem z8s0 {x:Req}:oneC 1 false (rqC x)=some (.int .i64 x.kind):=rfl
theorem zonr {x:Req}:oneC 1 false ((rqC x).drop 1)=some (.int .i64 x.n):=rfl
theorem zvpk {x:Req}:oneC 1 false ((rqC x).drop 2)=some (.int .i64 x.m):=rfl
theorem z242 {x:Req}:oneC 1 false ((rqC x).drop 3)=some (.str x.text):=rfl
theorem z4fr {x:Sup}:oneC 1 false (suC x)=some (.bool x.holds):=rfl
theorem z8ce {x:Sup}:oneC 1 false ((suC x).drop 1)=some (x.docs.dv 32 dgC):=rfl
theorem z2vj {x:Sup}:oneC 1 false ((suC x).drop 2)=some (.int .i64 x.missing):=rfl
theorem zl2z {n:Nat} {x:Sl Fct}:Am.below n (x.dv 71 faC)=true:=z8b8 n _ (zxxb z93p x)
theorem zj2g {n:Nat} {x:Sl Fnd}:Am.below n (x.dv 39 fnC)=true:=z8b8 n _ (zxxb zl9f x)
theorem zh7u {n:Nat} {x:Sl Str}:Am.below n (x.dv 1 stC)=true:=z8b8 n _ (zxxb zds6 x)
theorem zveg {n:Nat} {x:Sl Org}:Am.below n (x.dv 34 orC)=true:=z8b8 n _ (zxxb ztvh x)
theorem z2h4 {n:Nat} {x:Sl Dg}:Am.below n (x.dv 32 dgC)=true:=z8b8 n _ (zxxb z3ot x)
attribute [simp] z3om zbw6 zes9 zgr2 z9s3 z8j3 zpvk zhjs zsfg z2qx zm01 zc3i zn4x zd49 zp1j zjgp zem0 z2g3 zlls zed4 zqu6 zljy zmx2 z01u z9wl zj4t z1dg z1tq zr5b zslk zqx3 z6gf z7u5 z2ek zmjp zdpf zdwi z75o zvy4 z9yj zf0o z0f2 zhya z5i2 zygy zz91 ztek ztlh z102 z7g1 zbxy z4zs z8s0 zonr zvpk z242 z4fr z8ce z2vj zl2z zj2g zh7u zveg z2h4 z93p zl9f zkih ztvh zhqv zxm8 zacf zy9r zqma zpfc z3ot
end Go.Proofs.YtdnhbfmlklaldaaGreat
set_option linter.unusedSimpArgs false
set_option linter.unusedVariables false
namespace Go.Proofs.YtdnhbfmlklaldaaGreat
open Go Go.Am
abbrev BB:=(Bool × List B8) × (Bool × List B8)
def fBB (a:BB):List DV:=[.sl a.1.1 1 a.1.2.length (a.1.2.map w8),.sl a.2.1 1 a.2.2.length (a.2.2.map w8)]
noncomputable def cBc:List DV→Option DV:=con (fun _=>True) fBB (fun a => .int .i64 (Lib.compareBytes (u8L a.1.2) (u8L a.2.2)))
theorem zdrm {f g:Bool} {a b:List B8}:cBc [.sl f 1 a.length (a.map w8),.sl g 1 b.length (b.map w8)]=some (.int .i64 (Lib.compareBytes (u8L a) (u8L b))) :=
 zsn4 (f:=fBB) (g:=fun a => .int .i64 (Lib.compareBytes (u8L a.1.2) (u8L a.2.2))) (by
  rintro ⟨⟨a,b⟩,⟨c,d⟩⟩ ⟨⟨a',b'⟩,⟨c',d'⟩⟩ e
  simp only [fBB,List.cons.injEq,DV.sl.injEq,and_true,true_and] at e
  obtain ⟨⟨rfl,-,e1⟩,rfl,-,e2⟩:=e
  rw [zwcl] at e1 e2
  rw [e1,e2]) ((f,a),(g,b))
noncomputable def T520:Tbl:=addT 62 (.pure cBc) tbl0
theorem z2c4:T520 62 = .pure cBc:=by simp [T520]
theorem z4p8:T520.Sound P:=z0rp (z2au fun a _=>zf9q Tryz.func62 (by kernel_rfl) (by kernel_rfl) (by kernel_rfl) (by kernel_rfl) a.1.2 a.2.2 a.1.1 a.2.1) zr5o
theorem zag9 (a:BB):Runs T520 a37 (fBB a) (.int .i64 (Lib.compareBytes (u8L a.1.2) (u8L a.2.2))):=by
 refine ⟨?_⟩
 obtain ⟨⟨f,a⟩,⟨g,b⟩⟩:=a
 simp (disch:=first|omega|simp<;>omega|fail) [-zA,-zB,-zC,-zD,-zE,fBB,a37,z2c4,zdrm]
theorem zroj:(Con.pure cBc).Sound P 37:=z2au fun a _=>zljw mix z4p8 Tryz.func37 z554 (zag9 a)
def zsy0 (a b:Dg):Int:=Lib.compareBytes (dgU a) (dgU b)
theorem zxr9 {a b:Dg}:zsy0 a b<0↔dgLt a b=true:=zadq _ _
noncomputable def T521:Tbl:=addT 37 (.pure cBc) tbl0
theorem z3kq:T521 37 = .pure cBc:=by simp [T521]
theorem zia0:T521.Sound P:=z0rp zroj zr5o
theorem z1f4 {f g:Bool} {a b:Dg}:cBc [.sl f 1 32 (dgC a),.sl g 1 32 (dgC b)]=some (.int .i64 (zsy0 a b)):=by
 have:=zdrm (f:=f) (g:=g) (a:=a.1) (b:=b.1)
 rw [a.2,b.2] at this
 exact this
theorem zzc5 (a b:Dg):Runs T521 a133 [.agg (dgC a),.agg (dgC b)] (.int .i64 (zsy0 a b)):=by
 refine ⟨?_⟩
 simp (disch:=first|omega|simp<;>omega|fail) [-zA,-zB,-zC,-zD,-zE,a133,z3kq,z1f4,z1t1,List.take_of_length_le]
def mutD {α:Type} (id s:Nat) (x:Sl α) (f:α→List DV):DV:=if x.l=[] then x.clone.dv s f else .ms id (x.l.length*s) 0 s x.l.length (x.l.length*s)
def fl {α:Type} (f:α→List DV) (l:List α):List DV:=l.flatMap f
theorem z8lx {α:Type} {f:α→List DV} {K:Nat} (hu : ∀ a,(f a).length=K) (l:List α):(fl f l).length=l.length*K:=z1rq hu l
def mo {α:Type} (f:α→List DV) (l:List α):List AObj:=if l=[] then [] else [.cells (fl f l)]
theorem zpj6 {α:Type} {id s:Nat} {x:Sl α} {f:α→List DV} (h:x.l=[]):mutD id s x f=x.clone.dv s f:=if_pos h
theorem z2ra {α:Type} {id s:Nat} {x:Sl α} {f:α→List DV} (h:x.l≠[]):mutD id s x f = .ms id (x.l.length*s) 0 s x.l.length (x.l.length*s):=if_neg h
theorem z7sv {α:Type} {f:α→List DV}:mo f []=[]:=rfl
theorem zsqo {α:Type} {l:List α} {f:α→List DV} (h:l≠[]):mo f l=[.cells (fl f l)]:=if_neg h
section
variable {α:Type} {f:α→List DV} {K:Nat}
theorem zt7j (hu : ∀ a,(f a).length=K) (h0:0<K) (hi : ∀ a b,f a=f b→a=b) {pre pre':List AObj} {x x':Sl α} (h1:mutD pre.length K x f=mutD pre'.length K x' f) (h2:pre++mo f x.l=pre'++mo f x'.l):pre=pre'∧x.l=x'.l∧(x.l=[]→x.clone.dv K f=x'.clone.dv K f):=by
 have nm : ∀ {y:Sl α} {a b c d e g:Nat},y.clone.dv K f ≠ .ms a b c d e g:=fun {y} {a b c d e g} h=>by
  unfold Sl.dv slD at h; split at h<;>cases h
 by_cases e:x.l=[]
 ·by_cases e':x'.l=[]
  ·rw [e,e',z7sv,List.append_nil,List.append_nil] at h2
   rw [zpj6 e,zpj6 e'] at h1
   exact ⟨h2,e.trans e'.symm,fun _=>h1⟩
  ·rw [zpj6 e,z2ra e'] at h1; exact absurd h1 nm
 ·by_cases e':x'.l=[]
  ·rw [z2ra e,zpj6 e'] at h1; exact absurd h1.symm nm
  ·rw [zsqo e,zsqo e'] at h2
   have h:=List.append_inj' h2 rfl
   refine ⟨h.1,?_,fun q=>absurd q e⟩
   have h3:=h.2
   simp only [List.cons.injEq,AObj.cells.injEq,and_true] at h3
   exact z1ch hu h0 hi h3
theorem zfiy (hu : ∀ a,(f a).length=K) {l:List α} {i:Nat} (hi:i<l.length):oneC K true ((fl f l).drop (i*K))=some (.agg (f l[i])):=by
 rw [fl,zkb2 hu,List.drop_eq_getElem_cons hi,List.flatMap_cons,zza5 (by simp [hu]),List.take_left' (hu _)]
theorem zdvi (hu : ∀ a,(f a).length=K) (h0:0<K) (ha : ∀ a,(f a).all DV.one=true) {h:List AObj} {id i:Nat} {l:List α} {x:α} (hi:i<l.length):zy6o h id K (i*K) (.agg (f x)) (some (fl f l))=some (.junk,h.set id (.cells (fl f (l.set i x)))):=by
 have hl:=z8lx hu l
 have h1:i*K+K≤l.length*K:=by rw [← Nat.succ_mul]; exact Nat.mul_le_mul_right _ hi
 simp only [zy6o,DV.cells,hu,ha,hl]
 rw [if_pos ⟨trivial,h1,trivial⟩,fl,z47w hu hi,fl]
theorem zqtu {z:α} {n:Nat}:reps n (f z)=fl f (List.replicate n z):=by
 unfold fl
 induction n with
 | zero=>rfl
 | succ n ih=>rw [List.replicate_succ,List.flatMap_cons,← ih]; rfl
theorem z507 (hu : ∀ a,(f a).length=K) {A B C:List α} (h:B.length=C.length):zk7y (fl f (A++B)) (A.length*K) (fl f C)=fl f (A++C):=by
 unfold fl
 have:=zem6 (A:=A.flatMap f) (B:=B.flatMap f) (C:=C.flatMap f) (by rw [z1rq hu,z1rq hu,h])
 rw [z1rq hu] at this
 rw [List.flatMap_append,this,List.flatMap_append]
theorem z9jy {f:α→List DV} (h : ∀ a,(f a).all DV.one=true) : ∀ (l:List α),(l.flatMap f).all DV.one=true
 | []=>rfl
 | a::l=>by rw [List.flatMap_cons,List.all_append,h,z9jy h l]; rfl
end
def cmD {α:Type} (K p:Nat) (f:α→List DV) [DecidableEq α] (x:Sl α):DV:=if x.l=[] then x.clone.dv K f else .ms p (x.l.length*K) 0 K (zwrc x.l).length (x.l.length*K)
theorem z9e8 {α:Type} [DecidableEq α] {z:α}:zly8 z ([]:List α)=[]:=rfl
theorem zsxr {α:Type} [DecidableEq α] {z:α} {l:List α} (h:l≠[]):zly8 z l≠[]:=fun e=>h (List.eq_nil_of_length_eq_zero (by rw [← zglm z l,e]; rfl))
theorem zlvn {α:Type} {lt:α→α→Bool} {l:List α} (h:l≠[]):zxu4 lt l≠[]:=fun e=>h (List.eq_nil_of_length_eq_zero (by rw [← zmgd (lt:=lt),e]; rfl))
theorem zmiq {α:Type} [DecidableEq α] {l:List α} (h:l.length≤1):zwrc l=l:=by
 match l,h with
 | [],_=>rfl
 | [a],_=>rfl
end Go.Proofs.YtdnhbfmlklaldaaGreat
set_option linter.unusedSimpArgs false
set_option linter.unusedVariables false
namespace Go.Proofs.YtdnhbfmlklaldaaGreat
open Go Go.Am
abbrev SD:=List AObj × Sl Dg
noncomputable def cMuD (A:SD→Prop) (f:SD→List DV) (g:SD→DV × List AObj):List DV→List AObj→Option (DV × List AObj):=conH A (fun a=>(f a,a.1++mo dgC a.2.l)) g
theorem za6v {A:SD→Prop} {f:SD→List DV} {g:SD→DV × List AObj} (hf : ∀ a b,f a=f b→mutD a.1.length 32 a.2 dgC=mutD b.1.length 32 b.2 dgC) (hg : ∀ a b:SD,a.1=b.1→a.2.l=b.2.l→(a.2.l=[]→a.2.clone.dv 32 dgC=b.2.clone.dv 32 dgC)→g a=g b) {a:SD} (h:A a):cMuD A f g (f a) (a.1++mo dgC a.2.l)=some (g a) :=
 zu6y (A:=A) (f:=fun a=>(f a,a.1++mo dgC a.2.l)) (g:=g) (fun a b h1 h2 e=>by
  simp only [Prod.mk.injEq] at e
  obtain ⟨p,q,r⟩:=zt7j z1t1 (by decide) (fun _ _=>zib9) (hf a b e.1) e.2
  exact hg a b p q r) a h
def z29q (a:SD):DV × List AObj:=(.tup [],a.1++mo dgC (zxu4 dgLt a.2.l))
theorem zrqx (a b:SD) (h1:a.1=b.1) (h2:a.2.l=b.2.l) (h3:a.2.l=[]→a.2.clone.dv 32 dgC=b.2.clone.dv 32 dgC):z29q a=z29q b:=by unfold z29q; rw [h1,h2]
def zi4x (a:SD):DV × List AObj:=(cmD 32 a.1.length dgC a.2,a.1++mo dgC (zly8 dg0 a.2.l))
theorem zlyk (a b:SD) (h1:a.1=b.1) (h2:a.2.l=b.2.l) (h3:a.2.l=[]→a.2.clone.dv 32 dgC=b.2.clone.dv 32 dgC):zi4x a=zi4x b:=by
 unfold zi4x cmD
 rw [h1,h2]
 by_cases e:b.2.l=[]
 ·rw [if_pos e,if_pos e,h3 (h2.trans e)]
 ·rw [if_neg e,if_neg e]
def sBD (a:SD):Prop:=a.2.l.length≤1000000
def cBD (a:SD):Prop:=a.2.l.length≤1000000
def z8d3 (a:SD):List DV:=[mutD a.1.length 32 a.2 dgC,(.fn (.func 133) [] [])]
def z7q8 (a:SD):List DV:=[mutD a.1.length 32 a.2 dgC]
theorem z4ft {a:SD} (h:a.2.l.length≤1000000):cMuD sBD z8d3 z29q (z8d3 a) (a.1++mo dgC a.2.l)=some (.tup [],a.1++mo dgC (zxu4 dgLt a.2.l)):=za6v (fun a b e=>by simp only [z8d3,List.cons.injEq] at e; exact e.1) zrqx h
theorem zxnf {a:SD} (h:a.2.l.length≤1000000):cMuD cBD z7q8 zi4x (z7q8 a) (a.1++mo dgC a.2.l)=some (zi4x a):=za6v (fun a b e=>by simp only [z7q8,List.cons.injEq] at e; exact e.1) zlyk h
theorem zz9p (a b:Dg):Am.Sem P 133 [.agg (dgC a),.agg (dgC b)] (.int .i64 (zsy0 a b)):=zljw mix zia0 Tryz.func133 zl8e (zzc5 a b)
theorem zo03:Go.Proofs.ltOf zsy0=dgLt:=by
 funext a b
 unfold Go.Proofs.ltOf
 cases h:dgLt a b with
 | true=>exact decide_eq_true (zxr9.2 h)
 | false=>exact decide_eq_false fun q=>by rw [zxr9.1 q] at h; cases h
theorem zrtr (x:Dg) : ∀ c ∈ dgC x,scD c=true:=fun c hc=>by obtain ⟨b,_,rfl⟩:=List.mem_map.1 hc; rfl
theorem z0l7:(Con.heap (cMuD sBD z8d3 z29q)).Sound P 132:=z7sf fun a h=>by
 obtain ⟨pre,x⟩:=a
 have h:x.l.length≤1000000:=h
 have hent:Ent P 132:=z36x Tryz.func132 (by kernel_rfl) rfl
 by_cases e:x.l=[]
 ·have h0:(mutD pre.length 32 x dgC = .nils ∨ ∃ full s cs,mutD pre.length 32 x dgC = .sl full s 0 cs):=by
   rw [zpj6 e]
   have hc:x.clone.l=[]:=by simp [Sl.clone,e]
   exact dv_z hc
  have h1:=z08x (P:=P) zmpv hent (h:=pre++mo dgC x.l) (g:=133) h0
  refine h1.mono ?_
  rintro r h' ⟨rfl,rfl⟩
  simp [z29q,e,zxu4]
 ·haveI:Inhabited Dg:=⟨dg0⟩
  have h1:=zh0z (P:=P) zmpv hent (k:=32) Tryz.isAgg23 Tryz.sizeOf23 (f:=dgC) z1t1 zrtr (g:=133) (z36x Tryz.func133 (by kernel_rfl) rfl) (cf:=zsy0) (by rw [zo03]; exact zjqi zc3a)
   (by rw [zo03]; exact fun a b p q=>zsri zc3a p q) zz9p (h:=pre++mo dgC x.l) (id:=pre.length) (xs:=x.l) (by rw [zsqo e]; unfold ziu0; rw [List.getElem?_append_right (Nat.le_refl _),Nat.sub_self]; rfl) (by decide) e (by omega) (ver:=x.l.length*32) (lim:=x.l.length*32) rfl
  simp only [z8d3,z2ra e]
  refine h1.mono ?_
  rintro r h' ⟨rfl,rfl⟩
  simp only [z29q]
  rw [zo03,zbpl zc3a,zsqo e,zsqo (zlvn e),zxft]
  simp [fl]
def S524 (pre:List AObj) (n:Nat) (l:List Dg) (k:Nat):St:=zyy9 (.ms pre.length (n*32) 0 32 n (n*32)) (.int .i64 k) (pre++[.cells (fl dgC l)])
def S525 (pre:List AObj) (n k0:Nat) (l:List Dg) (a:CPg Dg):St:=zcq8 (.ms pre.length (n*32) 0 32 n (n*32)) (.int .i64 (zwrc (l.take a.j)).length) (.ms pre.length (n*32) (k0*32) 32 (n-k0) (n*32)) (.int .i64 ((a.j-k0:Nat):Int)) (pre++[.cells (fl dgC a.M)])
theorem z18a (pre:List AObj) (l:List Dg) (hb:l.length≤1000000) (hne:l≠[]) :
  RunsH tbl0 a134 [.ms pre.length (l.length*32) 0 32 l.length (l.length*32)] (pre++[.cells (fl dgC l)]) (.ms pre.length (l.length*32) 0 32 (zwrc l).length (l.length*32)) (pre++[.cells (fl dgC (zly8 dg0 l))]):=by
 refine ⟨?_⟩
 obtain ⟨n,hn⟩ : ∃ n,l.length=n:=⟨_,rfl⟩
 have hn0:0<n:=by rw [← hn]; exact List.length_pos_iff.2 hne
 have hfl:(fl dgC l).length=n*32:=by rw [z8lx z1t1,hn]
 have hln:lenD (pre++[.cells (fl dgC l)]) (.ms pre.length (n*32) 0 32 n (n*32))=some (.int .i64 n):=by rw [z59c,zjj2,z1zn,if_pos hfl]; rfl
 rw [hn]
 rw [hn] at hb
 by_cases h2:n<2
 ·have h2':(n:Int)<2:=by omega
  have hc:=zmiq (l:=l) (by omega)
  have hcl:(zwrc l).length=n:=by rw [hc,hn]
  have ho:=zixv (z:=dg0) hc
  rw [hcl,ho]
  simp (disch:=first|omega|simp<;>omega|fail) [-zA,-zB,-zC,-zD,-zE,a134,hln,h2,h2',zjj2,z1zn,hfl]
 have h2':¬ (n:Int)<2:=by omega
 simp (disch:=first|omega|simp<;>omega|fail) [-zA,-zB,-zC,-zD,-zE,a134,hln,h2,h2']
 refine zlm5 (S524 pre n l) (fun i=>n-i) (fun i=>1≤i∧i≤n∧zwrc (l.take i)=l.take i) 1 (z515 (by simp (disch:=first|omega|simp<;>omega|fail) [-zA,-zB,-zC,-zD,-zE,S524,zyy9]) (by simp (disch:=first|omega|simp<;>omega|fail) [-zA,-zB,-zC,-zD,-zE,S524,zyy9])) ⟨by omega,by omega,zmiq (by simp; omega)⟩ (fun i hi => ?_)
 obtain ⟨h3,h4,h5⟩:=hi
 simp (disch:=first|omega|simp<;>omega|fail) [-zA,-zB,-zC,-zD,-zE,zq51,zyy9,S524,hln]
 by_cases h:i<n
 ·have h':(i:Int)<n:=by omega
  have hil:i<l.length:=by omega
  have hi1:(((i:Int)-1)).toNat=i-1:=by omega
  have o1:oneC 32 true ((fl dgC l).drop (i*32))=some (.agg (dgC l[i])):=zfiy z1t1 hil
  have o2:oneC 32 true ((fl dgC l).drop ((i-1)*32))=some (.agg (dgC l[i-1])):=zfiy z1t1 (by omega)
  by_cases e:l[i-1]=l[i]
  ·simp (disch:=first|omega|simp<;>omega|fail) [-zA,-zB,-zC,-zD,-zE,h,h',zjj2,z1zn,hfl,hi1,o1,o2,e]
   obtain ⟨hs,hk⟩:=CompI.start (by omega) hil h5 e
   refine zlm5 (S525 pre n i l) (fun a=>n-a.j) (fun a=>CompI l i a) ⟨i+1,l⟩ (z515 (by simp (disch:=first|omega|simp<;>omega|fail) [-zA,-zB,-zC,-zD,-zE,S525,zcq8,hk]) (by simp (disch:=first|omega|simp<;>omega|fail) [-zA,-zB,-zC,-zD,-zE,S525,zcq8])) hs (fun a ha => ?_)
   obtain ⟨j,M⟩:=a
   have h6:=ha.j0
   have h7:=ha.j1
   have h8:=ha.len
   have h9:=ha.k
   simp only at h6 h7 h8 h9
   obtain ⟨K,hK⟩ : ∃ K,(zwrc (l.take j)).length=K:=⟨_,rfl⟩
   obtain ⟨J,hJ⟩ : ∃ J,j-i=J:=⟨_,rfl⟩
   rw [hK] at h9
   have hfM:(fl dgC M).length=n*32:=by rw [z8lx z1t1,h8,hn]
   have hlM:lenD (pre++[.cells (fl dgC M)]) (.ms pre.length (n*32) (i*32) 32 (n-i) (n*32))=some (.int .i64 ((n-i:Nat):Int)):=by rw [z59c,zjj2,z1zn,if_pos hfM]; rfl
   simp (disch:=first|omega|simp<;>omega|fail) [-zA,-zB,-zC,-zD,-zE,zcwr,zcq8,S525,hK,hJ,hlM]
   by_cases hj:j<n
   ·have hj1:(J:Int)<((n-i:Nat):Int):=by omega
    have hj1':J<n-i:=by omega
    have hj2:((J:Int)-1).toNat=J-1:=by omega
    have hj3:i*32+J*32=j*32:=by omega
    have hj4:i*32+(J-1)*32=(j-1)*32:=by omega
    have hjl:j<l.length:=by omega
    obtain ⟨g1,g2⟩:=ha.get hjl (by simp only; omega) (by simp only; omega)
    simp only at g1 g2
    have u1:oneC 32 true ((fl dgC M).drop (j*32))=some (.agg (dgC l[j])):=by rw [zfiy z1t1 (by omega),g1]
    have u2:oneC 32 true ((fl dgC M).drop ((j-1)*32))=some (.agg (dgC l[j-1])):=by rw [zfiy z1t1 (by omega),g2]
    by_cases e2:l[j-1]=l[j]
    ·simp (disch:=first|omega|simp<;>omega|fail) [-zA,-zB,-zC,-zD,-zE,hj1,hj1',hj2,hj3,hj4,zjj2,z1zn,hfM,u1,u2,e2]
     obtain ⟨q1,q2⟩:=ha.same (by omega) hjl e2
     have hJ':j+1-i=J+1:=by omega
     simp only at q1 q2
     exact ⟨⟨j+1,M⟩,z515 (by simp (disch:=first|omega|simp<;>omega|fail) [-zA,-zB,-zC,-zD,-zE,S525,zcq8,q2,hK,hJ']) (by simp (disch:=first|omega|simp<;>omega|fail) [-zA,-zB,-zC,-zD,-zE,S525,zcq8]),by simp only; omega,q1⟩
    ·have e2':¬ l[j]=l[j-1]:=fun q=>e2 q.symm
     have st : ∀ h:List AObj,zy6o h pre.length 32 (K*32) (.agg (dgC l[j])) (some (fl dgC M))=some (.junk,h.set pre.length (.cells (fl dgC (M.set K l[j])))):=fun h=>zdvi z1t1 (by decide) (fun _=>zoxk) (by omega)
     simp (disch:=first|omega|simp<;>omega|fail) [-zA,-zB,-zC,-zD,-zE,hj1,hj1',hj2,hj3,hj4,zjj2,z1zn,hfM,u1,u2,st,e2',zxft]
     obtain ⟨q1,q2⟩:=ha.step (by omega) hjl e2
     have hJ':j+1-i=J+1:=by omega
     simp only [hK] at q1 q2
     exact ⟨⟨j+1,M.set K l[j]⟩,z515 (by simp (disch:=first|omega|simp<;>omega|fail) [-zA,-zB,-zC,-zD,-zE,S525,zcq8,q2,hK,hJ']) (by simp (disch:=first|omega|simp<;>omega|fail) [-zA,-zB,-zC,-zD,-zE,S525,zcq8]),by simp only; omega,q1⟩
   ·have hj1:¬ (J:Int)<((n-i:Nat):Int):=by omega
    have hj1':¬ J<n-i:=by omega
    obtain rfl:j=n:=by omega
    have hfin:=ha.fin (by simp only; omega)
    simp only at hfin
    have htl:l.take j=l:=List.take_of_length_le (by omega)
    rw [htl] at hK
    rw [hK] at hfin
    have hclr:clrD (pre++[.cells (fl dgC M)]) 32 (dgC dg0) (.ms pre.length (j*32) (K*32) 32 (j-K) (j*32))=some (.tup [],pre++[.cells (fl dgC (zly8 dg0 l))]):=by
     have hov:objV (pre++[.cells (fl dgC M)]) pre.length (j*32)=some (fl dgC M):=by rw [zjj2,z1zn,if_pos hfM]
     rw [z7ty (s:=32) (m:=j-K) (off:=K*32) (ver:=j*32) (zs:=dgC dg0) (z1t1 _) (by decide) zoxk (by omega),hov,Option.map_some,zxft,zqtu]
     have hs:=z507 (f:=dgC) z1t1 (A:=zwrc l) (B:=M.drop K) (C:=List.replicate (j-K) dg0) (by simp; omega)
     rw [← hfin,hK] at hs
     rw [hs]
     simp only [zly8,hK,hn,List.set_cons_zero]
    have hol:(fl dgC (zly8 dg0 l)).length=j*32:=by rw [z8lx z1t1,zglm,hn]
    simp (disch:=first|omega|simp<;>omega|fail) [-zA,-zB,-zC,-zD,-zE,hj1,hj1',zjj2,z1zn,hfM,zxft,hclr,hK,hol]
  ·have e':¬ l[i]=l[i-1]:=fun q=>e q.symm
   simp (disch:=first|omega|simp<;>omega|fail) [-zA,-zB,-zC,-zD,-zE,h,h',zjj2,z1zn,hfl,hi1,o1,o2,e']
   refine ⟨i+1,z515 (by simp (disch:=first|omega|simp<;>omega|fail) [-zA,-zB,-zC,-zD,-zE,S524,zyy9]) (by simp (disch:=first|omega|simp<;>omega|fail) [-zA,-zB,-zC,-zD,-zE,S524,zyy9]),by omega,by omega,by omega,?_⟩
   rw [z6fn (by omega) hil,if_neg e,h5,List.take_succ_eq_append_getElem hil]
 ·have h':¬ (i:Int)<n:=by omega
  have e2:l.take i=l:=List.take_of_length_le (by omega)
  rw [e2] at h5
  have ho:=zixv (z:=dg0) h5
  simp (disch:=first|omega|simp<;>omega|fail) [-zA,-zB,-zC,-zD,-zE,h,h',ho,h5,hn,zjj2,z1zn,hfl]
theorem z26j (pre:List AObj) (x:Sl Dg) (e:x.l=[]):RunsH tbl0 a134 [x.clone.dv 32 dgC] pre (x.clone.dv 32 dgC) pre:=by
 refine ⟨?_⟩
 have hl:lenD pre (x.clone.dv 32 dgC)=some (.int .i64 0):=by rw [zupj,show x.clone.l=x.l from rfl,e]; rfl
 simp (disch:=first|omega|simp<;>omega|fail) [-zA,-zB,-zC,-zD,-zE,a134,hl]
theorem zgys {a:SD} (h:cBD a):RunsH tbl0 a134 (z7q8 a) (a.1++mo dgC a.2.l) (cmD 32 a.1.length dgC a.2) (a.1++mo dgC (zly8 dg0 a.2.l)):=by
 obtain ⟨pre,x⟩:=a
 by_cases e:x.l=[]
 ·have h1:cmD 32 pre.length dgC x=x.clone.dv 32 dgC:=if_pos e
  simp only [z7q8,zpj6 e,h1,e,z9e8,z7sv,List.append_nil]
  exact z26j pre x e
 ·have h1:cmD 32 pre.length dgC x = .ms pre.length (x.l.length*32) 0 32 (zwrc x.l).length (x.l.length*32):=if_neg e
  simp only [z7q8,z2ra e,h1,zsqo e,zsqo (zsxr e)]
  exact z18a pre x.l h e
theorem zayd:(Con.heap (cMuD cBD z7q8 zi4x)).Sound P 134:=z7sf fun a h=>zv22 mix zr5o Tryz.func134 zccp (zgys h)
end Go.Proofs.YtdnhbfmlklaldaaGreat
set_option linter.unusedSimpArgs false
set_option linter.unusedVariables false
namespace Go.Proofs.YtdnhbfmlklaldaaGreat
open Go Go.Am
theorem z590 {α:Type} {f:α→List DV} {K:Nat} (hu : ∀ a,(f a).length=K) (l:List α) (i:Nat):(fl f l).take (i*K)=(l.take i).flatMap f:=z10w hu l i
theorem z0zq {α:Type} [DecidableEq α] {z:α} {l:List α}:(zly8 z l).take (zwrc l).length=zwrc l:=by rw [zly8]; simp
theorem zp9z (x:Sl Dg):RunsH tbl0 a114 [x.dv 32 dgC] [] (mutD 0 32 x dgC) (mo dgC x.l):=by
 refine ⟨?_⟩
 obtain ⟨k,l,h,hb⟩:=x
 cases k with
 | none =>
  have hl:l=[]:=h rfl
  subst hl
  simp (disch:=first|omega|simp<;>omega|fail) [-zA,-zB,-zC,-zD,-zE,a114,z5oj]
  exact ⟨by rw [zpj6 rfl]; rfl,z7sv⟩
 | some b =>
  have hb:l.length≤4294967296:=hb
  by_cases hl:l=[]
  ·subst hl; simp (disch:=first|omega|simp<;>omega|fail) [-zA,-zB,-zC,-zD,-zE,a114,z707,mutD,mo,Sl.clone]
  ·have h1:=z1rq z1t1 l
   have h2:=z9jy (f:=dgC) (fun _=>zoxk) l
   have h3:0<l.length:=List.length_pos_iff.2 hl
   simp (disch:=first|omega|simp<;>omega|fail) [-zA,-zB,-zC,-zD,-zE,a114,z707,mutD,mo,fl,hl,h1,h2,h3]
theorem zaip {α:Type} {n s:Nat} {x:Sl α} {f:α→List DV} (hp : ∀ a,zbao (f a)=true):shD n (mutD 0 s x f)=mutD n s x f:=by
 by_cases h:x.l=[]
 ·rw [zpj6 h,zpj6 h]; exact za7m n _ (zxxb hp _)
 ·rw [z2ra h,z2ra h]; rfl
theorem z2b7 {α:Type} {n:Nat} {l:List α} {f:α→List DV} (hp : ∀ a,zbao (f a)=true):(mo f l).map (shO n)=mo f l:=by
 by_cases h:l=[]
 ·rw [h]; rfl
 ·rw [zsqo h]; simp only [List.map_cons,List.map_nil,z05k,fl,zj45 n _ (zp6k hp _)]
noncomputable def cND:List DV→Nat→Option (DV × List AObj):=conN (fun _=>True) (fun x:Sl Dg=>[x.dv 32 dgC]) (fun x=>(mutD 0 32 x dgC,mo dgC x.l))
theorem zcon {x:Sl Dg} {n:Nat}:cND [x.dv 32 dgC] n=some (mutD n 32 x dgC,mo dgC x.l):=by
 have:=zqtp (A:=fun _=>True) (f:=fun x:Sl Dg=>[x.dv 32 dgC]) (g:=fun x=>(mutD 0 32 x dgC,mo dgC x.l)) (fun a b e=>by
  simp only [List.cons.injEq,and_true] at e
  rw [z42k e]) x trivial n
 rw [zaip z3ot,z2b7 z3ot] at this
 exact this
theorem zvk7:(Con.new cND).Sound P 114:=z3ld (fun x _=>by simp [zbao,zxxb z3ot]) fun x _=>zv22 mix zr5o Tryz.func114 zgcx (zp9z x)
theorem z29t {α:Type} {f:α→List DV} {K:Nat} (hu : ∀ a,(f a).length=K) (hp : ∀ a,zbao (f a)=true) {pre:List AObj} {l:List α} {m:Nat}:snap (pre++[.cells (fl f l)]) 3 (.ms pre.length (l.length*K) 0 K m (l.length*K))=some (.sl false K m ((l.take m).flatMap f)):=by
 rw [zve7,zjj2,z1zn,if_pos (z8lx hu l),Option.bind_some,List.drop_zero,z590 hu,z619 (zp6k hp _)]
 rfl
def Sl.wl {α:Type} (x:Sl α) (l:List α) (h:l.length=x.l.length):Sl α:=⟨x.k,l,fun e=>List.eq_nil_of_length_eq_zero (by rw [h,x.h e]; rfl),by rw [h]; exact x.b⟩
theorem zl7v {α:Type} {x:Sl α} {l:List α} {h:l.length=x.l.length} {p s:Nat} {f:α→List DV}:mutD p s (x.wl l h) f=mutD p s x f:=by
 by_cases e:x.l=[]
 ·have e':l=[]:=List.eq_nil_of_length_eq_zero (by rw [h,e]; rfl)
  subst e'
  obtain ⟨k,m,hh,hb⟩:=x
  simp only at e; subst e; rfl
 ·have e':(x.wl l h).l≠[]:=fun q=>e (List.eq_nil_of_length_eq_zero (by rw [← h]; exact congrArg List.length q))
  rw [z2ra e,z2ra e',show (x.wl l h).l=l from rfl,h]
noncomputable def T530:Tbl:=addT 114 (.new cND) (addT 132 (.heap (cMuD sBD z8d3 z29q)) (addT 134 (.heap (cMuD cBD z7q8 zi4x)) tbl0))
theorem zkp7:T530 114 = .new cND:=by simp [T530]
theorem zs54:T530 132 = .heap (cMuD sBD z8d3 z29q):=by simp [T530]
theorem z1yr:T530 134 = .heap (cMuD cBD z7q8 zi4x):=by simp [T530]
theorem ztu5:T530.Sound P:=z0rp zvk7 (z0rp z0l7 (z0rp zayd zr5o))
theorem zybd {x:Sl Dg} (h:x.l=[]):zln3 x=x.clone:=if_pos h
theorem zz66 {x:Sl Dg} (h:x.l≠[]):zln3 x=own (dgsU x.l):=if_neg h
theorem z4ow (x:Sl Dg) (hb:x.l.length≤1000000):Runs T530 a110 [x.dv 32 dgC] ((zln3 x).dv 32 dgC):=by
 refine ⟨?_⟩
 have h1:=zcon (x:=x) (n:=0)
 have h2:=z4ft (a:=(([]:List AObj),x)) hb
 simp only [z8d3,List.nil_append,List.length_nil] at h2
 have hl:(zxu4 dgLt x.l).length=x.l.length:=zmgd _
 have h3:=zxnf (a:=(([]:List AObj),x.wl (zxu4 dgLt x.l) hl)) (by show (zxu4 dgLt x.l).length≤_; omega)
 simp only [z7q8,List.nil_append,List.length_nil,zl7v,zi4x,show (x.wl (zxu4 dgLt x.l) hl).l=zxu4 dgLt x.l from rfl] at h3
 obtain ⟨V,hV⟩ : ∃ V,mutD 0 32 x dgC=V:=⟨_,rfl⟩
 rw [hV] at h1 h2 h3
 simp (disch:=first|omega|simp<;>omega|fail) [-zA,-zB,-zC,-zD,-zE,a110,zkp7,zs54,z1yr,h1,h2,h3]
 by_cases e:x.l=[]
 ·have e1:zxu4 dgLt x.l=[]:=by rw [e]; rfl
  have hw:x.wl (zxu4 dgLt x.l) hl=x:=by
   obtain ⟨k,m,hh,hb⟩:=x
   simp only at e; subst e; rfl
  rw [hw,zybd e,cmD,if_pos e]
  exact zsqc z3ot
 ·have e1:zxu4 dgLt x.l≠[]:=zlvn e
  have hc:=zl78 zc3a x.l
  have hlen:=zsv6 (lt:=dgLt) x.l
  have hxb:=x.b
  have hwl:(x.wl (zxu4 dgLt x.l) hl).l=zxu4 dgLt x.l:=rfl
  rw [zz66 e,cmD,hwl,if_neg e1,zsqo (zsxr e1)]
  have hs:=z29t (f:=dgC) z1t1 z3ot (pre:=[]) (l:=zly8 dg0 (zxu4 dgLt x.l)) (m:=(zwrc (zxu4 dgLt x.l)).length)
  rw [zglm,z0zq,hc] at hs
  rw [zqrs (by unfold dgsU; omega),hc]
  exact hs
noncomputable def zp5o:List DV→Option DV:=con (fun x:Sl Dg=>x.l.length≤1000000) (fun x=>[x.dv 32 dgC]) (fun x=>(zln3 x).dv 32 dgC)
theorem zoh6 {x:Sl Dg} (h:x.l.length≤1000000):zp5o [x.dv 32 dgC]=some ((zln3 x).dv 32 dgC) :=
 zlyi (f:=fun x:Sl Dg=>[x.dv 32 dgC]) (g:=fun x=>(zln3 x).dv 32 dgC) (fun a b e=>by simp only [List.cons.injEq,and_true] at e; rw [z42k e]) x h
theorem zce9:(Con.pure zp5o).Sound P 110:=z2au fun x h=>zljw mix ztu5 Tryz.func110 z7w3 (z4ow x h)
end Go.Proofs.YtdnhbfmlklaldaaGreat
set_option linter.unusedSimpArgs false
set_option linter.unusedVariables false
namespace Go.Proofs.YtdnhbfmlklaldaaGreat
open Go Go.RowKit Go.Am
def zDg:Value := .agg (List.replicate 32 (Value.int .u8 0)).toArray
theorem z00f:(P.info? 23).map (fun i=>(i.zero,i.size,i.bytes))=some (some zDg,32,32):=by kernel_rfl
set_option maxRecDepth 100000 in
theorem z4t9 (w:World):Calls Tryz.prog 135 #[.slice none 0 0,.int .i64 0] w fun e w'=>e = .returned (.slice none 0 0)∧w'=w:=by
 go_enter Tryz.func135,Tryz.ntmps135
 go_wp2
 go_ret
 exact ⟨rfl,rfl⟩
set_option maxRecDepth 100000 in
theorem zv1e (n:Nat) (w:World) (hn:1≤n) (hb:n≤1000000):Calls Tryz.prog 135 #[.slice none 0 0,.int .i64 n] w fun e w' =>
  ∃ cap,n≤cap∧e = .returned (.slice (some ⟨w.heap.size,0,none⟩) 0 cap)∧w'=w.drew.alloc (.cells (Builtin.zeroCells zDg.cells n++Builtin.zeroCells zDg.cells (cap-n)) 23):=by
 obtain ⟨i0,hi,hz0,hz1,hz2⟩:=info_parts z00f
 have happ:=Lib.run_append_nil_zeros (P:=P) w 33 3 33 23 i0 zDg .i64 .i64 Tryz.underlying33 Tryz.underlying3 hi hz0 n (by omega) (by omega) (by omega) (by rw [hz2]; omega)
 generalize hcap:grownCap w n 0 23=cap2 at happ
 have hcapge:n≤cap2:=by rw [← hcap]; exact grownCap_ge w _ 0 23
 generalize hZ:(Builtin.zeroCells zDg.cells n++Builtin.zeroCells zDg.cells (cap2-n))=Z at happ
 go_enter Tryz.func135,Tryz.ntmps135
 go_wp2_with (at_builtin; refine Lib.wpList_append_run _ rfl _ _ _ _ rfl _ _ rfl rfl _ _ happ ?_)
 go_wp2
 go_ret
 exact ⟨cap2,hcapge,rfl,by rw [hZ]; rfl⟩
def z8h2 (p n:Nat):DV:=if n=0 then .nils else .ms p (n*32) 0 32 0 (n*32)
def zuiy (n:Nat):List AObj:=if n=0 then [] else [.cells (fl dgC (List.replicate n dg0))]
theorem z9yc (E:Env) (X:Forb) (w:World):RepA E X w zDg.cells.toList (dgC dg0):=by
 have e:zDg.cells.toList=List.replicate 32 (Value.int .u8 0):=rfl
 have e2:dgC dg0=List.replicate 32 (w8 0#8):=rfl
 rw [e,e2]
 refine ⟨by simp,fun i h1 h2 => ?_⟩
 rw [List.getElem_replicate,List.getElem_replicate]
 exact .int _ _
theorem z58y (n:Nat) (hb:n≤1000000):zwy1 P 135 [.nils,.int .i64 n] [] (fun d h=>d=z8h2 0 n∧h=zuiy n):=by
 refine fun X0 base w E vs hh hr => ?_
 obtain ⟨v1,v2,hv⟩ : ∃ v1 v2,vs = #[v1,v2]:=by
  have h1:vs.toList.length=2:=hr.1
  match hq:vs.toList,h1 with
  | [v1,v2],_=>exact ⟨v1,v2,Array.ext' (by simpa using hq)⟩
 subst hv
 have r1:Rep E (FX X0 E) w v1 .nils:=hr.2 0 (by simp) (by simp)
 have r2:Rep E (FX X0 E) w v2 (.int .i64 n):=hr.2 1 (by simp) (by simp)
 cases r1
 cases r2
 refine Does.of_ent (z36x Tryz.func135 (by kernel_rfl) rfl) ?_
 by_cases h0:n=0
 ·subst h0
  refine (z4t9 w).mono ?_
  rintro e w' ⟨rfl,rfl⟩
  exact ⟨_,.nils,[],E,rfl,⟨rfl,rfl⟩,hh,.nils,.refl _ _ _ _⟩
 ·refine (zv1e n w (by omega) hb).mono ?_
  rintro e w' ⟨cap,hc,rfl,rfl⟩
  have hR:=zr6e (z9yc E (FX X0 E) w.drew) (s:=32) (z1t1 _) (by decide) n
  rw [zqtu (f:=dgC)] at hR
  have hn:=zkum hh.drew hR (Builtin.zeroCells zDg.cells (cap-n)).toList 23
  have he:((Builtin.zeroCells zDg.cells n).toList++(Builtin.zeroCells zDg.cells (cap-n)).toList).toArray=Builtin.zeroCells zDg.cells n++Builtin.zeroCells zDg.cells (cap-n):=by apply Array.ext'; simp
  rw [he] at hn
  have hE:E=[]:=List.eq_nil_of_length_eq_zero (by simpa using hh.len)
  subst hE
  have hl:(fl dgC (List.replicate n dg0)).length=n*32:=by rw [z8lx z1t1,List.length_replicate]
  refine ⟨_,.ms 0 (n*32) 0 32 0 (n*32),[.cells (fl dgC (List.replicate n dg0))],_,rfl,⟨by simp [z8h2,h0],by simp [zuiy,h0]⟩,hn.1,?_,(zjji X0 base [] w).trans hn.2⟩
  have hzs:zDg.cells.size=32:=by decide
  have hs:(Builtin.zeroCells zDg.cells n++Builtin.zeroCells zDg.cells (cap-n)).size=cap*32:=by
   rw [Array.size_append,zle2,zle2,hzs,← Nat.add_mul]; congr 1; omega
  exact z6v0 (b:=w.drew.heap.size) (L:=(fl dgC (List.replicate n dg0)).length) (arr:=Builtin.zeroCells zDg.cells n++Builtin.zeroCells zDg.cells (cap-n)) (t:=23) (by simp) hl.symm (heap_alloc_new w.drew _) (by omega) (by omega) (fun _=>rfl) (by omega) (by rw [hs]; omega)
noncomputable def zii2:List DV→Nat→Option (DV × List AObj):=conN (fun n:Nat=>n≤1000000) (fun n=>[.nils,.int .i64 n]) (fun n=>(z8h2 0 n,zuiy n))
theorem z073 {k n:Nat}:shD k (z8h2 0 n)=z8h2 k n:=by unfold z8h2; split<;>rfl
theorem zoui {k n:Nat}:(zuiy n).map (shO k)=zuiy n:=by
 unfold zuiy; split
 ·rfl
 ·simp only [List.map_cons,List.map_nil,z05k,fl,zj45 k _ (zp6k z3ot _)]
theorem zp5d {n k:Nat} (h:n≤1000000):zii2 [.nils,.int .i64 n] k=some (z8h2 k n,zuiy n):=by
 have:=zqtp (A:=fun n:Nat=>n≤1000000) (f:=fun n=>[.nils,.int .i64 n]) (g:=fun n=>(z8h2 0 n,zuiy n)) (fun a b e=>by
  simp only [List.cons.injEq,DV.int.injEq,and_true,true_and,Int.natCast_inj] at e
  rw [e]) n h k
 rw [z073,zoui] at this
 exact this
theorem zlc7:(Con.new zii2).Sound P 135:=z3ld (fun n _=>rfl) fun n h=>z58y n h
end Go.Proofs.YtdnhbfmlklaldaaGreat
