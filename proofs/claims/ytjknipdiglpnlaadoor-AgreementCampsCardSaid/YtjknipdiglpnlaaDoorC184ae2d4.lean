/-
  21 texts of mine in one.
-/
import Derived.Lib.IndexLaws
import Derived.Test.YtjknipdiglpnlaaDoorProg
import Derived.Test.YtjknipdiglpnlaaDoorC2048e248
import Derived.Test.YtjknipdiglpnlaaDoorCa4379c00
import Derived.Test.YtjknipdiglpnlaaDoorCc289a30b
set_option maxRecDepth 20000
set_option maxHeartbeats 4000000
open List renaming map_take → zA, map_drop → zB, map_set → zC, map_append → zD, drop_one → zE
set_option linter.unusedSimpArgs false
set_option linter.unusedVariables false
namespace Go.Proofs.YtjknipdiglpnlaaDoor
open Go Go.Am
abbrev B8:=BitVec 8
inductive Pt where
 | one (c:B8)|dot|some|whole
deriving DecidableEq
def Pt.kind:Pt→Int
 | .one _=>0 | .dot=>1 | .some=>2 | .whole=>3
def Pt.long:Pt→Bool
 | .some=>true | .whole=>true|_=>false
def Pt.takes:Pt→B8→Bool
 | .one c,b=>b == c | .whole,_=>true|_,b=>b != 47#8
def bAt (s:List UInt8) (i:Nat):B8:=(s.getD i 0).toBitVec
def row (x:Pt) (s:List UInt8) (prev:Nat→Bool):Nat→Bool
 | 0=>x.long&&prev 0
 | i+1=>if x.long then prev (i+1)||(row x s prev i&&x.takes (bAt s i)) else prev i&&x.takes (bAt s i)
def M (l:List Pt) (s:List UInt8):Nat→Nat→Bool
 | 0=>fun i=>i == 0
 | k+1=>row (l.getD k .dot) s (M l s k)
def noZ (s:List UInt8):Bool:=s.all fun c=>c != 0
def z2fg:List UInt8→List (List UInt8)
 | []=>[[]]
 | c::r=>if c=47 then []::z2fg r else
  match z2fg r with
  | []=>[[c]]
  | h::t=>(c::h)::t
def okC (x:List UInt8):Bool:=x != []&&x != [46]&&x != [46,46]
def zj1f (s:List UInt8):Bool:=decide (1≤s.length)&&decide (s.length≤200)&&noZ s&&(z2fg s).all okC
end Go.Proofs.YtjknipdiglpnlaaDoor
set_option linter.unusedSimpArgs false
set_option linter.unusedVariables false
namespace Go.Proofs.YtjknipdiglpnlaaDoor
open Go Go.Am
abbrev Dg:={ a:List B8 // a.length=32 }
def dgC (d:Dg):List DV:=d.1.map w8
def dg0:Dg:=⟨rep 32 0#8,by simp [rep]⟩
theorem z1t1 (d:Dg):(dgC d).length=32:=by simp [dgC,d.2]
theorem z6je (d:Dg):zbao (dgC d)=true:=zdqb
theorem zib9 {a b:Dg} (h:dgC a=dgC b):a=b:=Subtype.ext (by rw [dgC,dgC,zwcl] at h; exact h)
structure Sl (α:Type) where
 k:Option Bool
 l:List α
 h:k=none→l=[]
 b:l.length≤4294967296
def Sl.dv {α:Type} (x:Sl α) (s:Nat) (f:α→List DV):DV:=slD x.k s x.l.length (x.l.flatMap f)
section
variable {α:Type} {f:α→List DV} {s:Nat} {h:List AObj} {x:Sl α} {n k:Nat}
theorem z707 {b:Bool} {l:List α} {h:some b=none→l=[]} {hb:l.length≤4294967296}:(⟨some b,l,h,hb⟩:Sl α).dv s f = .sl b s l.length (l.flatMap f):=rfl
theorem z5oj {h:none=none→([]:List α)=[]} {hb:([]:List α).length≤4294967296}:(⟨none,[],h,hb⟩:Sl α).dv s f = .nils:=rfl
theorem z1rq (hu : ∀ a,(f a).length=s) : ∀ (l:List α),(l.flatMap f).length=l.length*s
 | []=>by simp
 | a::l=>by rw [List.flatMap_cons,List.length_append,hu,z1rq hu l,List.length_cons,Nat.add_mul]; omega
theorem z10w (hu : ∀ a,(f a).length=s) : ∀ (l:List α) (i:Nat),(l.flatMap f).take (i*s)=(l.take i).flatMap f
 | [],i=>by simp
 | a::l,0=>by simp
 | a::l,i+1=>by
  have ha:=hu a
  rw [List.flatMap_cons,List.take_append,List.take_of_length_le (by rw [ha,Nat.add_mul]; omega),ha,show (i+1)*s-s=i*s from by rw [Nat.add_mul]; omega,z10w hu l,List.take_succ_cons,List.flatMap_cons]
theorem zkb2 (hu : ∀ a,(f a).length=s) : ∀ (l:List α) (i:Nat),(l.flatMap f).drop (i*s)=(l.drop i).flatMap f
 | [],i=>by simp
 | a::l,0=>by simp
 | a::l,i+1=>by
  have ha:=hu a
  rw [List.flatMap_cons,List.drop_append,List.drop_of_length_le (by rw [ha,Nat.add_mul]; omega),ha,show (i+1)*s-s=i*s from by rw [Nat.add_mul]; omega,zkb2 hu l,List.nil_append,List.drop_succ_cons]
theorem zdao (hu : ∀ a,(f a).length=s) {l:List α} {i:Nat} (hi:i<l.length):((l.flatMap f).drop (i*s)).take s=f l[i]:=by
 rw [zkb2 hu,List.drop_eq_getElem_cons hi,List.flatMap_cons,List.take_left' (hu _)]
theorem zg0c : ∀ {a b:List DV},zbao a=true→zbao b=true→zbao (a++b)=true
 | [],_,_,h=>h
 | d::r,b,h1,h2=>by simp only [List.cons_append,zbao,Bool.and_eq_true] at *; exact ⟨h1.1,zg0c h1.2 h2⟩
theorem zp6k (hp : ∀ a,zbao (f a)=true) : ∀ (l:List α),zbao (l.flatMap f)=true
 | []=>rfl
 | a::l=>by rw [List.flatMap_cons]; exact zg0c (hp a) (zp6k hp l)
theorem z47w (hu : ∀ a,(f a).length=s) {l:List α} {i:Nat} (hi:i<l.length) (b:α):zk7y (l.flatMap f) (i*s) (f b)=(l.set i b).flatMap f:=by
 unfold zk7y
 rw [z10w hu,hu b,show i*s+s=(i+1)*s by rw [Nat.add_mul,Nat.one_mul],zkb2 hu,List.set_eq_take_append_cons_drop,if_pos hi]
 simp
theorem zxxb (hp : ∀ a,zbao (f a)=true) (x:Sl α):zyp8 (x.dv s f)=true:=by
 obtain ⟨k,l,h,hb1⟩:=x
 cases k with
 | none=>rfl
 | some b=>show zbao _=true; exact zp6k hp l
theorem z4ja (x:Sl α):(x.dv s f).one=true:=by obtain ⟨k,l,h,hb1⟩:=x; cases k<;>rfl
theorem ztw5 (x:Sl α):(x.dv s f).known=true:=by obtain ⟨k,l,h,hb1⟩:=x; cases k<;>rfl
theorem zfr8 (x:Sl α):(x.dv s f).cells=[x.dv s f]:=by obtain ⟨k,l,h,hb1⟩:=x; cases k<;>rfl
theorem zupj:lenD h (x.dv s f)=some (.int .i64 x.l.length):=by
 obtain ⟨k,l,h,hb1⟩:=x
 cases k with
 | none=>cases h rfl; rfl
 | some b=>rfl
theorem zalo (hu : ∀ a,(f a).length=s) {i:Nat} (hi:i<x.l.length):zpsc h s (x.dv s f) i=some (.ref (f x.l[i])):=by
 obtain ⟨k,l,h,hb1⟩:=x
 cases k with
 | none=>cases h rfl; simp at hi
 | some b =>
  simp only [Sl.dv,zip4]
  rw [zsu0 (by omega) (by simp only at hi; omega),Int.toNat_natCast,zdao hu hi]
theorem zllv (hu : ∀ a,(f a).length=s):visS h (x.dv s f)=some (x.l.length,x.l.flatMap f):=zplv (fun e=>by simp [x.h e]) (z1rq hu _)
theorem zwaa (hu : ∀ a,(f a).length=s):visY h (x.dv s f)=some (x.l.length,x.l.flatMap f):=by
 rw [← zllv (h:=h) hu]
 obtain ⟨k,l,h,hb1⟩:=x; cases k<;>rfl
def Sl.part (x:Sl α) (i j:Nat) (b:Bool):Sl α:=⟨x.k.map fun c=>c&&b,(x.l.drop i).take (j-i),fun e=>by simp at e; simp [x.h e],by have:=x.b; simp; omega⟩
theorem z0ke (hu : ∀ a,(f a).length=s) {lo hi:Option DV} {i j:Nat} (hb:zo77 x.l.length lo hi=some (i,j)) (hij:j≤x.l.length):ziwb h s (x.dv s f) lo hi none=some ((x.part i j (j == x.l.length)).dv s f):=by
 obtain ⟨k,l,h,hb1⟩:=x
 cases k with
 | none=>cases h rfl; simp at hb hij; simp only [Sl.dv,z6vl,Sl.part,Option.map_none]; rw [zmk5 hb]
 | some b =>
  simp only at hb hij
  simp only [Sl.dv,zip4,Sl.part,Option.map_some]
  rw [zygc hb,zkb2 hu,z10w hu]
  simp only [List.length_take,List.length_drop]
  congr 2
  omega
theorem z2x3:zrfk h (x.dv s f)=some (0,x.k.isNone):=by obtain ⟨k,l,h,hb1⟩:=x; cases k<;>rfl
end
structure Grp where
 ns:List UInt8
 im:List UInt8
 want:Int
 least:Int
 down:Int
 ch:Sl Dg
def grC (g:Grp):List DV:=[.str g.ns,.str g.im,.int .i64 g.want,.int .i64 g.least,.int .i64 g.down,g.ch.dv 32 dgC]
structure Ins where
 id:Int
 grp:Int
 art:Dg
 state:Int
 since:Int
 den:Int
 deriving DecidableEq
def inC (x:Ins):List DV := .int .i64 x.id :: .int .i64 x.grp::(dgC x.art++[.int .i64 x.state,.int .i64 x.since,.int .i64 x.den])
structure Clu where
 g:Sl Grp
 i:Sl Ins
 next:Int
def clC (c:Clu):List DV:=[c.g.dv 6 grC,c.i.dv 37 inC,.int .i64 c.next]
theorem zry4 (g:Grp):(grC g).length=6:=by simp [grC]
theorem z6gw (x:Ins):(inC x).length=37:=by simp [inC,z1t1]
theorem zlha (c:Clu):(clC c).length=3:=by simp [clC]
theorem zpfc (x:Sl Dg):zyp8 (x.dv 32 dgC)=true:=zxxb z6je x
theorem zxeb (g:Grp):zbao (grC g)=true:=by simp [grC,zbao,zyp8,zpfc]
theorem z9kv (x:Ins):zbao (inC x)=true:=by
 simp only [inC,zbao,zyp8,Bool.true_and]
 exact zg0c (z6je _) (by simp [zbao,zyp8])
theorem z1vd (x:Sl Grp):zyp8 (x.dv 6 grC)=true:=zxxb zxeb x
theorem zcha (x:Sl Ins):zyp8 (x.dv 37 inC)=true:=zxxb z9kv x
theorem zy11 (c:Clu):zbao (clC c)=true:=by simp [clC,zbao,zyp8,z1vd,zcha]
theorem zrji (x:Ins):(inC x).drop 2=dgC x.art++[.int .i64 x.state,.int .i64 x.since,.int .i64 x.den]:=rfl
theorem zlh1 (x:Ins):(inC x).drop 34=[.int .i64 x.state,.int .i64 x.since,.int .i64 x.den]:=by
 rw [show (34:Nat)=2+32 from rfl,← List.drop_drop,zrji,List.drop_left' (z1t1 _)]
theorem z3vc (x:Ins):(inC x).drop 35=[.int .i64 x.since,.int .i64 x.den]:=by
 rw [show (35:Nat)=34+1 from rfl,← List.drop_drop,zlh1]; rfl
theorem zlte (x:Ins):(inC x).drop 36=[.int .i64 x.den]:=by
 rw [show (36:Nat)=34+2 from rfl,← List.drop_drop,zlh1]; rfl
section
variable {x:Ins} {g:Grp} {c:Clu} {d:Dg} {r:List DV}
theorem zgz3:oneC 1 false (inC x)=some (.int .i64 x.id):=rfl
theorem zyv0:oneC 1 false ((inC x).drop 1)=some (.int .i64 x.grp):=rfl
theorem zm6n:oneC 32 true ((inC x).drop 2)=some (.agg (dgC x.art)):=by
 rw [zrji]; simp only [oneC,if_true]; rw [if_pos (by simp [z1t1]),List.take_left' (z1t1 _)]
theorem zvh3:oneC 1 false ((inC x).drop 34)=some (.int .i64 x.state):=by rw [zlh1]; rfl
theorem zmwz:oneC 1 false ((inC x).drop 35)=some (.int .i64 x.since):=by rw [z3vc]; rfl
theorem z0hu:oneC 1 false ((inC x).drop 36)=some (.int .i64 x.den):=by rw [zlte]; rfl
theorem zisq:oneC 37 true (inC x)=some (.agg (inC x)):=by simp [oneC,z6gw,List.take_of_length_le]
theorem zuce:oneC 6 true (grC g)=some (.agg (grC g)):=rfl
theorem zn7v:oneC 1 false (grC g)=some (.str g.ns):=rfl
theorem zuiq:oneC 1 false ((grC g).drop 1)=some (.str g.im):=rfl
theorem zhlv:oneC 1 false ((grC g).drop 2)=some (.int .i64 g.want):=rfl
theorem z9em:oneC 1 false ((grC g).drop 3)=some (.int .i64 g.least):=rfl
theorem z8ho:oneC 1 false ((grC g).drop 4)=some (.int .i64 g.down):=rfl
theorem zmm6:oneC 1 false ((grC g).drop 5)=some (g.ch.dv 32 dgC):=rfl
theorem zei9:oneC 3 true (clC c)=some (.agg (clC c)):=rfl
theorem zhtb:oneC 1 false (clC c)=some (c.g.dv 6 grC):=rfl
theorem zxyh:oneC 1 false ((clC c).drop 1)=some (c.i.dv 37 inC):=rfl
theorem zmuj:oneC 1 false ((clC c).drop 2)=some (.int .i64 c.next):=rfl
theorem zwwo:oneC 32 true (dgC d)=some (.agg (dgC d)):=by simp [oneC,z1t1,List.take_of_length_le]
theorem zkf8 {off n:Nat} {a:Bool} (hl:off+n≤37):zhj0 off n a (.agg (inC x))=oneC n a ((inC x).drop off):=by simp [zhj0,z6gw,hl]
theorem z28g {off n:Nat} {a:Bool} (hl:off+n≤6):zhj0 off n a (.agg (grC g))=oneC n a ((grC g).drop off):=by simp [zhj0,zry4,hl]
theorem z715 {off n:Nat} {a:Bool} (hl:off+n≤3):zhj0 off n a (.agg (clC c))=oneC n a ((clC c).drop off):=by simp [zhj0,zlha,hl]
end
attribute [simp] z1t1 zry4 z6gw zlha zupj z2x3 z4ja ztw5 zfr8 zgz3 zyv0 zm6n zvh3 zmwz z0hu zisq zuce zn7v zuiq zhlv z9em z8ho zmm6 zei9 zhtb zxyh zmuj zwwo zkf8 z28g z715 z6je zxeb z9kv zy11 zpfc z1vd zcha
theorem zid2 : ∀ {ks1 ks2:List Nat} {a1 a2 b1 b2:List DV},a1.length=ks1.length→b1.length=ks1.length→z32s (ks1++ks2) (a1++a2) (b1++b2)=(z32s ks1 a1 b1).bind fun p=>(z32s ks2 a2 b2).map fun q=>p&&q
 | [],ks2,[],a2,[],b2,_,_=>by simp [z32s]
 | k::ks1,ks2,x::a1,a2,y::b1,b2,h1,h2=>by
  simp only [List.cons_append,z32s,zid2 (ks1:=ks1) (a1:=a1) (b1:=b1) (by simpa using h1) (by simpa using h2)]
  cases znnj k x y<;>simp only [Option.bind_none,Option.bind_some]
  cases z32s ks1 a1 b1<;>simp only [Option.bind_none,Option.bind_some,Option.map_none,Option.map_some]
  cases z32s ks2 a2 b2<;>simp only [Option.map_none,Option.map_some,Bool.and_assoc]
theorem zyiz {a b:Dg}:z32s (zi5g [(32,0)]) (dgC a) (dgC b)=some (decide (a=b)):=by
 rw [dgC,dgC,zgre a.2 b.2]
 simp only [Subtype.ext_iff]
theorem zbik {a b c a' b' c':Int}:z32s [0,0,0] [.int .i64 a,.int .i64 b,.int .i64 c] [.int .i64 a',.int .i64 b',.int .i64 c']=some (decide (a=a'∧b=b'∧c=c')):=by
 simp [z32s,znnj]; rfl
theorem z540 {a b a' b':Int}:z32s [0,0] [.int .i64 a,.int .i64 b] [.int .i64 a',.int .i64 b']=some (decide (a=a'∧b=b')):=by
 simp [z32s,znnj]; rfl
theorem zmar {x y:Ins}:z32s (zi5g [(37,0)]) (inC x) (inC y)=some (decide (x=y)):=by
 have e:zi5g [(37,0)]=[0,0]++(zi5g [(32,0)]++[0,0,0]):=by decide
 have e1 : ∀ x:Ins,inC x=[.int .i64 x.id,.int .i64 x.grp]++(dgC x.art++[.int .i64 x.state,.int .i64 x.since,.int .i64 x.den]):=fun _=>rfl
 rw [e,e1,e1,zid2 rfl rfl,zid2 (by simp [z1t1,zi5g]) (by simp [z1t1,zi5g]),zyiz,z540,zbik]
 obtain ⟨a,b,c,d,e,f⟩:=x
 obtain ⟨a',b',c',d',e',f'⟩:=y
 simp only [Option.bind_some,Option.map_some,Ins.mk.injEq,Option.some.injEq,Bool.decide_and,Bool.and_assoc]
theorem zii6:List.map w8 (rep 32 0#8)=dgC dg0:=rfl
attribute [simp] zyiz zmar zii6
def ixI {α:Type} (p:α→Bool):List α→Int
 | [] => -1
 | a::l=>if p a=true then 0 else if ixI p l<0 then -1 else ixI p l+1
end Go.Proofs.YtjknipdiglpnlaaDoor
set_option linter.unusedSimpArgs false
set_option linter.unusedVariables false
namespace Go.Proofs.YtjknipdiglpnlaaDoor
open Go Go.Am
def okCh (l:List Dg):Prop := ∀ i (h:i<l.length),l[i]≠dg0∧l[i] ∉ l.take i
structure ValidG (g:Grp):Prop where
 ns:zj1f g.ns=true
 im:zj1f g.im=true
 w0:0≤g.want
 w1:g.want≤8
 l0:0≤g.least
 l1:g.least≤g.want
 d0:0≤g.down
 d1:g.down≤g.want
 n:g.ch.l.length≤6
 ch:okCh g.ch.l
def fitG (ns im:List UInt8) (g:Grp):Bool:=decide (g.ns=ns)&&decide (g.im=im)
def z9w0 (l:List Grp) (ns im:List UInt8):Int:=ixI (fitG ns im) l
abbrev zcie (t:Int):Prop:=0≤t∧t≤1099511627776
structure SoundI (n:Nat) (next:Int) (x:Ins):Prop where
 id0:1≤x.id
 id1:x.id<next
 g0:0≤x.grp
 g1:x.grp<n
 art:x.art≠dg0
 s0:1≤x.state
 s1:x.state≤3
 si:zcie x.since
 de:x.den = -1∨zcie x.den
structure ValidC (c:Clu):Prop where
 ng:c.g.l.length≤16
 ni:c.i.l.length≤200
 n0:1≤c.next
 n1:c.next≤1099511627776
 g : ∀ i (h:i<c.g.l.length),ValidG c.g.l[i]∧z9w0 c.g.l c.g.l[i].ns c.g.l[i].im=i
 i : ∀ i (h:i<c.i.l.length),SoundI c.g.l.length c.next c.i.l[i]∧(∀ h0:0<i,c.i.l[i-1].id<c.i.l[i].id)
def Sl.clone {α:Type} (x:Sl α):Sl α:=⟨if x.l=[] then x.k.map fun _=>true else some false,x.l,fun e=>by
 by_cases h:x.l=[]
 ·exact h
 ·simp [h] at e,x.b⟩
def own {α:Type} (l:List α):Sl α:=if h:l.length≤4294967296 then ⟨some false,l,by simp,h⟩ else ⟨none,[],fun _=>rfl,by simp⟩
theorem z3e9 {α:Type} {l:List α} (h:l.length≤4294967296):(own l).l=l:=by rw [own,dif_pos h]
theorem zqrs {α:Type} {l:List α} {s:Nat} {f:α→List DV} (h:l.length≤4294967296):(own l).dv s f = .sl false s l.length (l.flatMap f):=by rw [own,dif_pos h]; rfl
def Grp.clone (g:Grp):Grp:={ g with ch:=g.ch.clone }
def Clu.clone (c:Clu):Clu:=⟨⟨c.g.clone.k,c.g.l.map Grp.clone,fun e=>by simp [show c.g.l=[] from c.g.clone.h e],by have:=c.g.b; simpa using this⟩,c.i.clone,c.next⟩
def gl (g:Grp):List UInt8 × List UInt8 × Int × Int × Int × List Dg:=(g.ns,g.im,g.want,g.least,g.down,g.ch.l)
structure SameC (a b:Clu):Prop where
 g:a.g.l.map gl=b.g.l.map gl
 i:a.i.l=b.i.l
 n:a.next=b.next
theorem SameC.refl (a:Clu):SameC a a:=⟨rfl,rfl,rfl⟩
def Ins.st (x:Ins) (v:Int):Ins:=⟨x.id,x.grp,x.art,v,x.since,x.den⟩
def Ins.si (x:Ins) (v:Int):Ins:=⟨x.id,x.grp,x.art,x.state,v,x.den⟩
def Ins.de (x:Ins) (v:Int):Ins:=⟨x.id,x.grp,x.art,x.state,x.since,v⟩
end Go.Proofs.YtjknipdiglpnlaaDoor
set_option linter.unusedSimpArgs false
set_option linter.unusedVariables false
namespace Go.Proofs.YtjknipdiglpnlaaDoor
open Go Go.Am
noncomputable abbrev P:Program:=Tryd.prog
theorem mix:P.follows .mixedOrders=true:=by kernel_rfl
def zu6t:ACode :=
 (.seq (.region false [⟨none,(some 14),.bin .lss (.t 13) (.t 12)⟩])
 (.seq (.cond (.t 14) .skip
 (.exit 0))
 (.seq (.block 1 (.seq (.region false [⟨none,(some 15),.mov (.t 13)⟩,
  ⟨none,(some 5),.mov (.t 15)⟩])
 (.seq (.region true [⟨none,(some 16),.mov (.t 0)⟩,
  ⟨none,(some 17),.mov (.t 5)⟩,
  ⟨none,(some 18),.idxS 1 (.t 16) (.t 17)⟩,
  ⟨none,(some 19),.load 1 false (.t 18)⟩,
  ⟨none,(some 20),.mov (.t 1)⟩,
  ⟨none,(some 21),.mov (.t 5)⟩,
  ⟨none,(some 22),.idxS 1 (.t 20) (.t 21)⟩,
  ⟨none,(some 23),.load 1 false (.t 22)⟩,
  ⟨none,(some 24),.bin .neq (.t 19) (.t 23)⟩])
 (.cond (.t 24) (.seq (.region false [⟨none,(some 4),.mov (.k (.bool false))⟩])
 .ret)
 .skip))))
 (.region false [⟨none,(some 25),.bin .add (.t 13) (.k (.int .i64 1))⟩,
  ⟨none,(some 13),.mov (.t 25)⟩]))))
def z13x (x0 x1 x12 x13:DV) (h:List AObj):St:=⟨[x0,x1]++js 10++[x12,x13]++js 12,h⟩
def a82:AFn where
 code:=(.seq (.region false [⟨none,(some 4),.mov (.k (.bool false))⟩])
 (.seq (.seq (.region false [⟨none,(some 6),.mov (.t 0)⟩,
  ⟨none,(some 7),.len (.t 6)⟩,
  ⟨none,(some 8),.mov (.t 1)⟩,
  ⟨none,(some 9),.len (.t 8)⟩,
  ⟨none,(some 10),.bin .neq (.t 7) (.t 9)⟩])
 (.cond (.t 10) (.seq (.region false [⟨none,(some 4),.mov (.k (.bool false))⟩])
 .ret)
 .skip))
 (.seq (.seq (.region false [⟨none,(some 11),.mov (.t 0)⟩,
  ⟨none,(some 12),.len (.t 11)⟩,
  ⟨none,(some 13),.mov (.k (.int .i64 0))⟩])
 (.block 0 (.loop zu6t)))
 (.seq (.region false [⟨none,(some 4),.mov (.k (.bool true))⟩])
 .ret))))
 ntmps:=26
 res:=[.tmp 4]
theorem zftu:zsjc P Tryd.f82=some a82:=by kernel_rfl
def z44u:ACode :=
 (.seq (.region false [⟨none,(some 14),.bin .lss (.t 13) (.t 12)⟩])
 (.seq (.cond (.t 14) .skip
 (.exit 0))
 (.seq (.block 1 (.seq (.region false [⟨none,(some 15),.mov (.t 13)⟩,
  ⟨none,(some 5),.mov (.t 15)⟩])
 (.seq (.region true [⟨none,(some 16),.mov (.t 0)⟩,
  ⟨none,(some 17),.mov (.t 5)⟩,
  ⟨none,(some 18),.idxS 33 (.t 16) (.t 17)⟩,
  ⟨none,(some 19),.load 33 true (.t 18)⟩,
  ⟨none,(some 20),.mov (.t 1)⟩,
  ⟨none,(some 21),.mov (.t 5)⟩,
  ⟨none,(some 22),.idxS 33 (.t 20) (.t 21)⟩,
  ⟨none,(some 23),.load 33 true (.t 22)⟩,
  ⟨none,(some 24),.eqa true [(1,1),(32,0)] (.t 19) (.t 23)⟩])
 (.cond (.t 24) (.seq (.region false [⟨none,(some 4),.mov (.k (.bool false))⟩])
 .ret)
 .skip))))
 (.region false [⟨none,(some 25),.bin .add (.t 13) (.k (.int .i64 1))⟩,
  ⟨none,(some 13),.mov (.t 25)⟩]))))
def zh8t (x0 x1 x12 x13:DV) (h:List AObj):St:=⟨[x0,x1]++js 10++[x12,x13]++js 12,h⟩
def a55:AFn where
 code:=(.seq (.region false [⟨none,(some 4),.mov (.k (.bool false))⟩])
 (.seq (.seq (.region false [⟨none,(some 6),.mov (.t 0)⟩,
  ⟨none,(some 7),.len (.t 6)⟩,
  ⟨none,(some 8),.mov (.t 1)⟩,
  ⟨none,(some 9),.len (.t 8)⟩,
  ⟨none,(some 10),.bin .neq (.t 7) (.t 9)⟩])
 (.cond (.t 10) (.seq (.region false [⟨none,(some 4),.mov (.k (.bool false))⟩])
 .ret)
 .skip))
 (.seq (.seq (.region false [⟨none,(some 11),.mov (.t 0)⟩,
  ⟨none,(some 12),.len (.t 11)⟩,
  ⟨none,(some 13),.mov (.k (.int .i64 0))⟩])
 (.block 0 (.loop z44u)))
 (.seq (.region false [⟨none,(some 4),.mov (.k (.bool true))⟩])
 .ret))))
 ntmps:=26
 res:=[.tmp 4]
theorem ze8s:zsjc P Tryd.f55=some a55:=by kernel_rfl
def a13:AFn where
 code:=(.seq (.region false [⟨none,(some 2),.box (.t 0)⟩,
  ⟨none,(some 3),.box (.t 1)⟩,
  ⟨none,(some 4),.mov (.k (.bool false))⟩])
 (.seq (.region false [⟨none,(some 5),.fld 1 (.t 2)⟩,
  ⟨none,(some 6),.load 1 false (.t 5)⟩,
  ⟨none,(some 7),.fld 1 (.t 3)⟩,
  ⟨none,(some 8),.load 1 false (.t 7)⟩,
  ⟨none,(some 9),.call (.k (.fn (.func 55) [] [])) [(.t 6),(.t 8)]⟩,
  ⟨none,(some 10),.mov (.t 9)⟩,
  ⟨(some (10,true)),(some 11),.fld 2 (.t 2)⟩,
  ⟨(some (10,true)),(some 12),.load 1 false (.t 11)⟩,
  ⟨(some (10,true)),(some 13),.fld 2 (.t 3)⟩,
  ⟨(some (10,true)),(some 14),.load 1 false (.t 13)⟩,
  ⟨(some (10,true)),(some 15),.call (.k (.fn (.func 55) [] [])) [(.t 12),(.t 14)]⟩,
  ⟨none,(some 16),.pick (.t 10) (.t 15) (.k (.bool false))⟩,
  ⟨none,(some 4),.mov (.t 16)⟩])
 .ret))
 ntmps:=17
 res:=[.tmp 4]
theorem zm5y:zsjc P Tryd.f13=some a13:=by kernel_rfl
def ze98:ACode :=
 (.seq (.region false [⟨none,(some 9),.bin .lss (.t 8) (.t 7)⟩])
 (.seq (.cond (.t 9) .skip
 (.exit 0))
 (.seq (.block 1 (.seq (.region false [⟨none,(some 10),.mov (.t 8)⟩,
  ⟨none,(some 5),.mov (.t 10)⟩])
 (.seq (.region false [⟨none,(some 11),.mov (.t 1)⟩,
  ⟨none,(some 12),.mov (.t 0)⟩,
  ⟨none,(some 13),.mov (.t 5)⟩,
  ⟨none,(some 14),.idxS 1 (.t 12) (.t 13)⟩,
  ⟨none,(some 15),.load 1 false (.t 14)⟩,
  ⟨none,(some 16),.bin .eql (.t 11) (.t 15)⟩])
 (.cond (.t 16) (.seq (.region false [⟨none,(some 17),.mov (.t 5)⟩,
  ⟨none,(some 4),.mov (.t 17)⟩])
 .ret)
 .skip))))
 (.region false [⟨none,(some 18),.bin .add (.t 8) (.k (.int .i64 1))⟩,
  ⟨none,(some 8),.mov (.t 18)⟩]))))
def zxuz (x0 x1 x7 x8:DV) (h:List AObj):St:=⟨[x0,x1]++js 5++[x7,x8]++js 10,h⟩
def a168:AFn where
 code:=(.seq (.region false [⟨none,(some 4),.mov (.k (.int .i64 0))⟩])
 (.seq (.seq (.region false [⟨none,(some 6),.mov (.t 0)⟩,
  ⟨none,(some 7),.len (.t 6)⟩,
  ⟨none,(some 8),.mov (.k (.int .i64 0))⟩])
 (.block 0 (.loop ze98)))
 (.seq (.region false [⟨none,(some 4),.mov (.k (.int .i64 (-1)))⟩])
 .ret)))
 ntmps:=19
 res:=[.tmp 4]
theorem ztbk:zsjc P Tryd.f168=some a168:=by kernel_rfl
def a147:AFn where
 code:=(.seq (.region false [⟨none,(some 4),.mov (.k (.bool false))⟩])
 (.seq (.region false [⟨none,(some 5),.mov (.t 0)⟩,
  ⟨none,(some 6),.mov (.t 1)⟩,
  ⟨none,(some 7),.call (.k (.fn (.func 168) [] [])) [(.t 5),(.t 6)]⟩,
  ⟨none,(some 8),.bin .geq (.t 7) (.k (.int .i64 0))⟩,
  ⟨none,(some 4),.mov (.t 8)⟩])
 .ret))
 ntmps:=9
 res:=[.tmp 4]
theorem z5yk:zsjc P Tryd.f147=some a147:=by kernel_rfl
def a169:AFn where
 code:=(.seq (.region false [⟨none,(some 2),.mov (.k .nils)⟩])
 (.seq (.seq (.region false [⟨none,(some 3),.mov (.t 0)⟩,
  ⟨none,(some 4),.eqn 0 false (.t 3) (.k .nils)⟩])
 (.cond (.t 4) (.seq (.region false [⟨none,(some 2),.mov (.k .nils)⟩])
 .ret)
 .skip))
 (.seq (.region false [⟨none,(some 5),.bsl 1 0 [(.str [])] []⟩,
  ⟨none,(some 6),.mov (.t 0)⟩,
  ⟨none,(some 7),.app 1 16 (.t 5) (.t 6)⟩,
  ⟨none,(some 2),.mov (.t 7)⟩])
 .ret)))
 ntmps:=8
 res:=[.tmp 2]
theorem zrqr:zsjc P Tryd.f169=some a169:=by kernel_rfl
def a170:AFn where
 code:=(.seq (.region false [⟨none,(some 2),.mov (.k .nils)⟩])
 (.seq (.seq (.region false [⟨none,(some 3),.mov (.t 0)⟩,
  ⟨none,(some 4),.eqn 0 false (.t 3) (.k .nils)⟩])
 (.cond (.t 4) (.seq (.region false [⟨none,(some 2),.mov (.k .nils)⟩])
 .ret)
 .skip))
 (.seq (.region false [⟨none,(some 5),.bsl 2 0 [(.str []),(.str [])] []⟩,
  ⟨none,(some 6),.mov (.t 0)⟩,
  ⟨none,(some 7),.app 2 32 (.t 5) (.t 6)⟩,
  ⟨none,(some 2),.mov (.t 7)⟩])
 .ret)))
 ntmps:=8
 res:=[.tmp 2]
theorem zpxs:zsjc P Tryd.f170=some a170:=by kernel_rfl
def a171:AFn where
 code:=(.seq (.region false [⟨none,(some 2),.mov (.k .nils)⟩])
 (.seq (.seq (.region false [⟨none,(some 3),.mov (.t 0)⟩,
  ⟨none,(some 4),.eqn 0 false (.t 3) (.k .nils)⟩])
 (.cond (.t 4) (.seq (.region false [⟨none,(some 2),.mov (.k .nils)⟩])
 .ret)
 .skip))
 (.seq (.region false [⟨none,(some 5),.bsl 33 0 [(.str []),(w8 0#8),(w8 0#8),(w8 0#8),(w8 0#8),(w8 0#8),(w8 0#8),(w8 0#8),(w8 0#8),(w8 0#8),(w8 0#8),(w8 0#8),(w8 0#8),(w8 0#8),(w8 0#8),(w8 0#8),(w8 0#8),(w8 0#8),(w8 0#8),(w8 0#8),(w8 0#8),(w8 0#8),(w8 0#8),(w8 0#8),(w8 0#8),(w8 0#8),(w8 0#8),(w8 0#8),(w8 0#8),(w8 0#8),(w8 0#8),(w8 0#8),(w8 0#8)] []⟩,
  ⟨none,(some 6),.mov (.t 0)⟩,
  ⟨none,(some 7),.app 33 48 (.t 5) (.t 6)⟩,
  ⟨none,(some 2),.mov (.t 7)⟩])
 .ret)))
 ntmps:=8
 res:=[.tmp 2]
theorem zfpk:zsjc P Tryd.f171=some a171:=by kernel_rfl
def a148:AFn where
 code:=(.seq (.region false [⟨none,(some 1),.box (.t 0)⟩,
  ⟨none,(some 2),.alloc [(.str []),(.str []),(.str []),(.str []),(.int .i64 0),.nils,.nils,.nils,.nils]⟩])
 (.seq (.region false [⟨none,(some 3),.fld 1 (.t 1)⟩,
  ⟨none,(some 4),.fld 4 (.t 3)⟩,
  ⟨none,(some 5),.load 1 false (.t 4)⟩,
  ⟨none,(some 6),.call (.k (.fn (.func 169) [] [])) [(.t 5)]⟩,
  ⟨none,(some 7),.fld 1 (.t 1)⟩,
  ⟨none,(some 8),.fld 4 (.t 7)⟩,
  ⟨none,none,.store 1 (.t 8) (.t 6)⟩])
 (.seq (.region false [⟨none,(some 9),.fld 1 (.t 1)⟩,
  ⟨none,(some 10),.fld 5 (.t 9)⟩,
  ⟨none,(some 11),.load 1 false (.t 10)⟩,
  ⟨none,(some 12),.call (.k (.fn (.func 170) [] [])) [(.t 11)]⟩,
  ⟨none,(some 13),.fld 1 (.t 1)⟩,
  ⟨none,(some 14),.fld 5 (.t 13)⟩,
  ⟨none,none,.store 1 (.t 14) (.t 12)⟩])
 (.seq (.region false [⟨none,(some 15),.fld 1 (.t 1)⟩,
  ⟨none,(some 16),.fld 6 (.t 15)⟩,
  ⟨none,(some 17),.load 1 false (.t 16)⟩,
  ⟨none,(some 18),.call (.k (.fn (.func 171) [] [])) [(.t 17)]⟩,
  ⟨none,(some 19),.fld 1 (.t 1)⟩,
  ⟨none,(some 20),.fld 6 (.t 19)⟩,
  ⟨none,none,.store 1 (.t 20) (.t 18)⟩])
 (.seq (.region false [⟨none,(some 21),.fld 1 (.t 1)⟩,
  ⟨none,(some 22),.fld 7 (.t 21)⟩,
  ⟨none,(some 23),.load 1 false (.t 22)⟩,
  ⟨none,(some 24),.call (.k (.fn (.func 171) [] [])) [(.t 23)]⟩,
  ⟨none,(some 25),.fld 1 (.t 1)⟩,
  ⟨none,(some 26),.fld 7 (.t 25)⟩,
  ⟨none,none,.store 1 (.t 26) (.t 24)⟩])
 (.seq (.region false [⟨none,(some 27),.load 9 true (.t 1)⟩,
  ⟨none,none,.store 9 (.t 2) (.t 27)⟩])
 .ret))))))
 ntmps:=28
 res:=[.cell 2 9 true]
theorem zy1q:zsjc P Tryd.f148=some a148:=by kernel_rfl
def zjvt:ACode :=
 (.seq (.region false [⟨none,(some 12),.bin .lss (.t 11) (.t 10)⟩])
 (.seq (.cond (.t 12) .skip
 (.exit 0))
 (.seq (.block 1 (.seq (.region false [⟨none,(some 13),.idxS 9 (.t 9) (.t 11)⟩,
  ⟨none,(some 14),.load 9 true (.t 13)⟩,
  ⟨none,(some 7),.alloc [(.str []),(.str []),(.str []),(.str []),(.int .i64 0),.nils,.nils,.nils,.nils]⟩,
  ⟨none,none,.store 9 (.t 7) (.t 14)⟩])
 (.seq (.region false [⟨none,(some 15),.fld 4 (.t 2)⟩,
  ⟨none,(some 16),.load 1 false (.t 15)⟩,
  ⟨none,(some 17),.len (.t 16)⟩,
  ⟨none,(some 18),.bin .eql (.t 17) (.k (.int .i64 0))⟩,
  ⟨none,(some 19),.mov (.t 18)⟩,
  ⟨(some (19,false)),(some 20),.fld 4 (.t 2)⟩,
  ⟨(some (19,false)),(some 21),.load 1 false (.t 20)⟩,
  ⟨(some (19,false)),(some 22),.fld 1 (.t 7)⟩,
  ⟨(some (19,false)),(some 23),.fld 4 (.t 22)⟩,
  ⟨(some (19,false)),(some 24),.load 1 false (.t 23)⟩,
  ⟨(some (19,false)),(some 25),.call (.k (.fn (.func 82) [] [])) [(.t 21),(.t 24)]⟩,
  ⟨none,(some 26),.pick (.t 19) (.k (.bool true)) (.t 25)⟩,
  ⟨none,(some 8),.mov (.t 26)⟩])
 (.seq (.region false [⟨none,(some 27),.mov (.t 8)⟩,
  ⟨none,(some 28),.mov (.t 27)⟩,
  ⟨(some (28,true)),(some 29),.fld 1 (.t 7)⟩,
  ⟨(some (28,true)),(some 30),.fld 2 (.t 29)⟩,
  ⟨(some (28,true)),(some 31),.load 1 false (.t 30)⟩,
  ⟨(some (28,true)),(some 32),.fld 0 (.t 2)⟩,
  ⟨(some (28,true)),(some 33),.load 1 false (.t 32)⟩,
  ⟨(some (28,true)),(some 34),.bin .eql (.t 31) (.t 33)⟩,
  ⟨none,(some 35),.pick (.t 28) (.t 34) (.k (.bool false))⟩,
  ⟨none,(some 36),.mov (.t 35)⟩,
  ⟨(some (36,true)),(some 37),.fld 3 (.t 2)⟩,
  ⟨(some (36,true)),(some 38),.load 1 false (.t 37)⟩,
  ⟨(some (36,true)),(some 39),.fld 0 (.t 7)⟩,
  ⟨(some (36,true)),(some 40),.load 1 false (.t 39)⟩,
  ⟨(some (36,true)),(some 41),.call (.k (.fn (.func 147) [] [])) [(.t 38),(.t 40)]⟩,
  ⟨none,(some 42),.pick (.t 36) (.t 41) (.k (.bool false))⟩])
 (.cond (.t 42) (.region false [⟨none,(some 43),.mov (.t 5)⟩,
  ⟨none,(some 44),.load 9 true (.t 7)⟩,
  ⟨none,(some 45),.call (.k (.fn (.func 148) [] [])) [(.t 44)]⟩,
  ⟨none,(some 46),.bsl 9 1 [(.str []),(.str []),(.str []),(.str []),(.int .i64 0),.nils,.nils,.nils,.nils] [(0,9,(.t 45))]⟩,
  ⟨none,(some 47),.app 9 168 (.t 43) (.t 46)⟩,
  ⟨none,(some 5),.mov (.t 47)⟩])
 .skip)))))
 (.region false [⟨none,(some 48),.bin .add (.t 11) (.k (.int .i64 1))⟩,
  ⟨none,(some 11),.mov (.t 48)⟩]))))
def zq5h (x2 x5 x9 x10 x11:DV) (h:List AObj):St:=⟨[.junk,.junk,x2,.junk,.junk,x5,.junk,.junk,.junk,x9,x10,x11]++js 38,h⟩
def a99:AFn where
 code:=(.seq (.region false [⟨none,(some 2),.box (.t 0)⟩,
  ⟨none,(some 4),.mov (.k .nils)⟩])
 (.seq (.region false [⟨none,(some 5),.mov (.k .nils)⟩])
 (.seq (.seq (.region false [⟨none,(some 9),.mov (.t 1)⟩,
  ⟨none,(some 10),.len (.t 9)⟩,
  ⟨none,(some 11),.mov (.k (.int .i64 0))⟩])
 (.block 0 (.loop zjvt)))
 (.seq (.region false [⟨none,(some 49),.mov (.t 5)⟩,
  ⟨none,(some 4),.mov (.t 49)⟩])
 .ret))))
 ntmps:=50
 res:=[.tmp 4]
theorem zcou:zsjc P Tryd.f99=some a99:=by kernel_rfl
end Go.Proofs.YtjknipdiglpnlaaDoor
set_option linter.unusedSimpArgs false
set_option linter.unusedVariables false
namespace Go.Proofs.YtjknipdiglpnlaaDoor
open Go Go.Am
def a37:AFn where
 code:=(.seq (.region false [⟨none,(some 4),.mov (.k (.int .i64 0))⟩])
 (.seq (.seq (.region false [⟨none,(some 6),.mov (.t 1)⟩,
  ⟨none,(some 7),.bin .lss (.t 6) (.k (.int .i64 1))⟩])
 (.cond (.t 7) (.seq (.region false [⟨none,(some 4),.mov (.k (.int .i64 0))⟩])
 .ret)
 .skip))
 (.seq (.region false [⟨none,(some 8),.mov (.t 0)⟩,
  ⟨none,(some 9),.nilc (.t 8)⟩,
  ⟨none,(some 10),.fld 1 (.t 9)⟩,
  ⟨none,(some 11),.load 1 false (.t 10)⟩,
  ⟨none,(some 12),.bin .mul (.t 11) (.k (.int .i64 7))⟩,
  ⟨none,(some 13),.bin .add (.t 12) (.k (.int .i64 3))⟩,
  ⟨none,(some 5),.mov (.t 13)⟩])
 (.seq (.seq (.region true [⟨none,(some 14),.mov (.t 0)⟩,
  ⟨none,(some 15),.nilc (.t 14)⟩,
  ⟨none,(some 16),.fld 1 (.t 15)⟩,
  ⟨none,(some 17),.load 1 false (.t 16)⟩,
  ⟨none,(some 18),.mov (.t 0)⟩,
  ⟨none,(some 19),.nilc (.t 18)⟩,
  ⟨none,(some 20),.fld 0 (.t 19)⟩,
  ⟨none,(some 21),.load 1 false (.t 20)⟩,
  ⟨none,(some 22),.len (.t 21)⟩,
  ⟨none,(some 23),.bin .lss (.t 17) (.t 22)⟩])
 (.cond (.t 23) (.region true [⟨none,(some 24),.mov (.t 0)⟩,
  ⟨none,(some 25),.nilc (.t 24)⟩,
  ⟨none,(some 26),.fld 0 (.t 25)⟩,
  ⟨none,(some 27),.load 1 false (.t 26)⟩,
  ⟨none,(some 28),.mov (.t 0)⟩,
  ⟨none,(some 29),.nilc (.t 28)⟩,
  ⟨none,(some 30),.fld 1 (.t 29)⟩,
  ⟨none,(some 31),.load 1 false (.t 30)⟩,
  ⟨none,(some 32),.idxS 1 (.t 27) (.t 31)⟩,
  ⟨none,(some 33),.load 1 false (.t 32)⟩,
  ⟨none,(some 5),.mov (.t 33)⟩])
 .skip))
 (.seq (.region false [⟨none,(some 34),.mov (.t 0)⟩,
  ⟨none,(some 35),.nilc (.t 34)⟩,
  ⟨none,(some 36),.fld 1 (.t 35)⟩,
  ⟨none,(some 37),.load 1 false (.t 36)⟩,
  ⟨none,(some 38),.bin .add (.t 37) (.k (.int .i64 1))⟩,
  ⟨none,(some 39),.nilc (.t 34)⟩,
  ⟨none,(some 40),.fld 1 (.t 39)⟩,
  ⟨none,none,.store 1 (.t 40) (.t 38)⟩])
 (.seq (.region false [⟨none,(some 41),.mov (.t 5)⟩,
  ⟨none,(some 42),.mov (.t 1)⟩,
  ⟨none,(some 43),.bin .rem (.t 41) (.t 42)⟩,
  ⟨none,(some 44),.mov (.t 1)⟩,
  ⟨none,(some 45),.bin .add (.t 43) (.t 44)⟩,
  ⟨none,(some 46),.mov (.t 1)⟩,
  ⟨none,(some 47),.bin .rem (.t 45) (.t 46)⟩,
  ⟨none,(some 4),.mov (.t 47)⟩])
 .ret))))))
 ntmps:=48
 res:=[.tmp 4]
theorem z554:zsjc P Tryd.f37=some a37:=by kernel_rfl
def a23:AFn where
 code:=(.seq (.region false [⟨none,(some 4),.mov (.k (.str []))⟩])
 (.seq (.region false [⟨none,(some 5),.mov (.t 1)⟩,
  ⟨none,(some 6),.mov (.t 0)⟩,
  ⟨none,(some 7),.mov (.t 1)⟩,
  ⟨none,(some 8),.len (.t 7)⟩,
  ⟨none,(some 9),.call (.k (.fn (.func 37) [] [])) [(.t 6),(.t 8)]⟩,
  ⟨none,(some 10),.idxS 1 (.t 5) (.t 9)⟩,
  ⟨none,(some 11),.load 1 false (.t 10)⟩,
  ⟨none,(some 4),.mov (.t 11)⟩])
 .ret))
 ntmps:=12
 res:=[.tmp 4]
theorem ztyx:zsjc P Tryd.f23=some a23:=by kernel_rfl
def a113:AFn where
 code:=(.seq (.region false [⟨none,(some 2),.alloc (rep 32 (w8 0#8))⟩])
 (.seq (.region false [⟨none,(some 3),.mov (.t 0)⟩,
  ⟨none,(some 4),.call (.k (.fn (.func 37) [] [])) [(.t 3),(.k (.int .i64 6))]⟩,
  ⟨none,(some 5),.bin .add (.k (.int .i64 1)) (.t 4)⟩,
  ⟨none,(some 6),.conv .u8 (.t 5)⟩,
  ⟨none,(some 7),.build (rep 32 (w8 0#8)) [(0,1,(.t 6))]⟩,
  ⟨none,none,.store 32 (.t 2) (.t 7)⟩])
 .ret))
 ntmps:=8
 res:=[.cell 2 32 true]
theorem zz1e:zsjc P Tryd.f113=some a113:=by kernel_rfl
end Go.Proofs.YtjknipdiglpnlaaDoor
set_option linter.unusedSimpArgs false
set_option linter.unusedVariables false
namespace Go.Proofs.YtjknipdiglpnlaaDoor
open Go Go.Am
section
variable {α β:Type} {lt:α→α→Bool}
def insR (lt:α→α→Bool) (x:α) (l:List α):List α:=(l.reverse.dropWhile (lt x)).reverse++x::(l.reverse.takeWhile (lt x)).reverse
def zq4g (lt:α→α→Bool) (l:List α):List α:=l.foldl (fun a x=>insR lt x a) []
theorem zv9v {x:α} {A B:List α} (hB : ∀ b ∈ B,lt x b=true) (hA:A=[] ∨ ∃ (A':List α) (y:α),A=A'++[y]∧lt x y=false):insR lt x (A++B)=A++x::B:=by
 unfold insR
 have hB' : ∀ b ∈ B.reverse,lt x b=true:=fun b hb=>hB b (List.mem_reverse.1 hb)
 rw [List.reverse_append]
 rw [List.dropWhile_append_of_pos hB',List.takeWhile_append_of_pos hB']
 rcases hA with rfl|⟨A',y,rfl,hy⟩
 ·simp
 ·simp [List.dropWhile_cons,List.takeWhile_cons,hy]
theorem zcx2 {x:α} {l:List α}:(insR lt x l).Perm (x::l):=by
 unfold insR
 refine List.perm_middle.trans (List.Perm.cons x ?_)
 rw [← List.reverse_append,List.takeWhile_append_dropWhile]
 simp
theorem zuk7 {l:List α} {x:α}:zq4g lt (l++[x])=insR lt x (zq4g lt l):=by simp [zq4g]
theorem z77f {P:List α→Prop} (h0:P []) (h1 : ∀ l x,P l→P (l++[x])) : ∀ l,P l:=by
 intro l
 rw [← List.reverse_reverse l]
 induction l.reverse with
 | nil=>exact h0
 | cons a r ih=>rw [List.reverse_cons]; exact h1 _ _ ih
theorem zo43 (l:List α):(zq4g lt l).Perm l:=by
 induction l using z77f with
 | h0=>exact List.Perm.refl _
 | h1 l x ih =>
  rw [zuk7]
  refine zcx2.trans ((List.Perm.cons x ih).trans ?_)
  exact (List.perm_append_comm (l₁:=[x]) (l₂:=l))
theorem z0ct {f:α→β} {p:β→Bool} {q:α→Bool} : ∀ {l:List α},(∀ y ∈ l,p (f y)=q y)→(l.map f).takeWhile p=(l.takeWhile q).map f∧(l.map f).dropWhile p=(l.dropWhile q).map f
 | [],_=>⟨rfl,rfl⟩
 | a::l,h=>by
  have ih:=z0ct (l:=l) (fun y hy=>h y (by simp [hy]))
  have ha:=h a (by simp)
  rw [List.map_cons,List.takeWhile_cons,List.dropWhile_cons,List.takeWhile_cons,List.dropWhile_cons,ha]
  cases q a<;>simp [ih.1,ih.2]
theorem z25o {f:α→β} {lt':β→β→Bool} {x:α} {l:List α} (h : ∀ y ∈ l,lt' (f x) (f y)=lt x y):insR lt' (f x) (l.map f)=(insR lt x l).map f:=by
 unfold insR
 have:=z0ct (f:=f) (p:=lt' (f x)) (q:=lt x) (l:=l.reverse) (fun y hy=>h y (List.mem_reverse.1 hy))
 rw [← List.map_reverse,this.1,this.2]
 simp
theorem zmcs {f:α→β} {lt':β→β→Bool} : ∀ {l:List α},l.Pairwise (fun y x=>lt' (f x) (f y)=lt x y)→zq4g lt' (l.map f)=(zq4g lt l).map f:=by
 intro l
 induction l using z77f with
 | h0=>intro _; rfl
 | h1 l x ih =>
  intro h
  rw [List.pairwise_append] at h
  obtain ⟨h1,_,h3⟩:=h
  rw [List.map_append,List.map_cons,List.map_nil,zuk7,zuk7,ih h1]
  exact z25o fun y hy=>h3 y ((zo43 l).mem_iff.1 hy) x (by simp)
theorem zwbv {p:α→Bool} : ∀ {l:List α},l.dropWhile p=[] ∨ ∃ y r,l.dropWhile p=y::r∧p y=false
 | [] => .inl rfl
 | a::l=>by
  rw [List.dropWhile_cons]
  cases h:p a with
  | true=>exact zwbv
  | false=>exact .inr ⟨a,l,rfl,h⟩
theorem zeqt {p:α→Bool} : ∀ {l:List α},∀ b ∈ l.takeWhile p,p b=true
 | [],b,h=>by simp at h
 | a::l,b,h=>by
  rw [List.takeWhile_cons] at h
  cases ha:p a with
  | true =>
   rw [ha,if_pos rfl] at h
   rcases List.mem_cons.1 h with rfl|h
   ·exact ha
   ·exact zeqt b h
  | false=>rw [ha] at h; simp at h
theorem zyus (x:α) (l:List α) : ∃ A B,l=A++B∧insR lt x l=A++x::B∧(∀ b ∈ B,lt x b=true)∧(A=[] ∨ ∃ (A':List α) (y:α),A=A'++[y]∧lt x y=false):=by
 refine ⟨(l.reverse.dropWhile (lt x)).reverse,(l.reverse.takeWhile (lt x)).reverse,?_,rfl,fun b hb=>zeqt b (List.mem_reverse.1 hb),?_⟩
 ·rw [← List.reverse_append,List.takeWhile_append_dropWhile,List.reverse_reverse]
 ·rcases zwbv (p:=lt x) (l:=l.reverse) with h|⟨y,r,h,hy⟩
  ·exact .inl (by rw [h]; rfl)
  ·exact .inr ⟨r.reverse,y,by rw [h,List.reverse_cons],hy⟩
end
structure GoodI (l:List Ins):Prop where
 s : ∀ x ∈ l,1≤x.state∧x.state≤3 ∧ -1≤x.den
 d:l.Pairwise (fun x y=>x.id<y.id)
end Go.Proofs.YtjknipdiglpnlaaDoor
set_option linter.unusedSimpArgs false
set_option linter.unusedVariables false
namespace Go.Proofs.YtjknipdiglpnlaaDoor
open Go Go.Am
def zec8:ACode :=
 (.seq (.region false [⟨none,(some 12),.bin .lss (.t 11) (.t 10)⟩])
 (.seq (.cond (.t 12) .skip
 (.exit 0))
 (.seq (.block 1 (.seq (.region false [⟨none,(some 13),.idxS 4 (.t 9) (.t 11)⟩,
  ⟨none,(some 14),.load 4 true (.t 13)⟩,
  ⟨none,(some 7),.alloc [(.str []),(.str []),.nils,.nils]⟩,
  ⟨none,none,.store 4 (.t 7) (.t 14)⟩])
 (.seq (.region false [⟨none,(some 15),.mov (.t 5)⟩,
  ⟨none,(some 16),.mkf (.func 98) [] [(.t 3),(.t 7)]⟩,
  ⟨none,(some 17),.call (.k (.fn (.func 97) [] [])) [(.t 15),(.t 16)]⟩,
  ⟨none,(some 8),.mov (.t 17)⟩])
 (.seq (.region false [⟨none,(some 18),.mov (.t 8)⟩,
  ⟨none,(some 19),.bin .lss (.t 18) (.k (.int .i64 0))⟩])
 (.cond (.t 19) (.region false [⟨none,(some 20),.mov (.t 5)⟩,
  ⟨none,(some 21),.load 4 true (.t 7)⟩,
  ⟨none,(some 22),.bsl 4 1 [(.str []),(.str []),.nils,.nils] [(0,4,(.t 21))]⟩,
  ⟨none,(some 23),.bsl 1 1 [.nils] [(0,1,(.t 22))]⟩,
  ⟨none,(some 24),.app 1 24 (.t 20) (.t 23)⟩,
  ⟨none,(some 5),.mov (.t 24)⟩])
 (.region true [⟨none,(some 25),.mov (.t 5)⟩,
  ⟨none,(some 26),.mov (.t 8)⟩,
  ⟨none,(some 27),.mov (.t 5)⟩,
  ⟨none,(some 28),.mov (.t 8)⟩,
  ⟨none,(some 29),.idxS 1 (.t 27) (.t 28)⟩,
  ⟨none,(some 30),.load 1 false (.t 29)⟩,
  ⟨none,(some 31),.load 4 true (.t 7)⟩,
  ⟨none,(some 32),.bsl 4 1 [(.str []),(.str []),.nils,.nils] [(0,4,(.t 31))]⟩,
  ⟨none,(some 33),.app 4 80 (.t 30) (.t 32)⟩,
  ⟨none,(some 34),.idxS 1 (.t 25) (.t 26)⟩,
  ⟨none,none,.store 1 (.t 34) (.t 33)⟩]))))))
 (.region false [⟨none,(some 35),.bin .add (.t 11) (.k (.int .i64 1))⟩,
  ⟨none,(some 11),.mov (.t 35)⟩]))))
def zgwc (x3 x5 x9 x10 x11:DV) (h:List AObj):St:=⟨[.junk,.junk,.junk,x3,.junk,x5,.junk,.junk,.junk,x9,x10,x11]++js 25,h⟩
def a46:AFn where
 code:=(.seq (.region false [⟨none,(some 3),.box (.t 1)⟩,
  ⟨none,(some 4),.mov (.k .nils)⟩])
 (.seq (.region false [⟨none,(some 5),.mov (.k .nils)⟩])
 (.seq (.seq (.region false [⟨none,(some 9),.mov (.t 0)⟩,
  ⟨none,(some 10),.len (.t 9)⟩,
  ⟨none,(some 11),.mov (.k (.int .i64 0))⟩])
 (.block 0 (.loop zec8)))
 (.seq (.region false [⟨none,(some 36),.mov (.t 5)⟩,
  ⟨none,(some 4),.mov (.t 36)⟩])
 .ret))))
 ntmps:=37
 res:=[.tmp 4]
theorem znv1:zsjc P Tryd.f46=some a46:=by kernel_rfl
def a98:AFn where
 code:=(.seq (.region false [⟨none,(some 4),.mov (.k (.bool false))⟩])
 (.seq (.region true [⟨none,(some 5),.load 1 false (.t 1)⟩,
  ⟨none,(some 6),.mov (.t 0)⟩,
  ⟨none,(some 7),.idxS 4 (.t 6) (.k (.int .i64 0))⟩,
  ⟨none,(some 8),.load 4 true (.t 7)⟩,
  ⟨none,(some 9),.load 4 true (.t 2)⟩,
  ⟨none,(some 10),.callN (.t 5) [(.t 8),(.t 9)]⟩,
  ⟨none,(some 4),.mov (.t 10)⟩])
 .ret))
 ntmps:=11
 res:=[.tmp 4]
theorem zg8b:zsjc P Tryd.f98=some a98:=by kernel_rfl
def zkbn:ACode :=
 (.seq (.region false [⟨none,(some 9),.bin .lss (.t 8) (.t 7)⟩])
 (.seq (.cond (.t 9) .skip
 (.exit 0))
 (.seq (.block 1 (.seq (.region false [⟨none,(some 10),.mov (.t 8)⟩,
  ⟨none,(some 5),.mov (.t 10)⟩])
 (.seq (.region false [⟨none,(some 11),.mov (.t 1)⟩,
  ⟨none,(some 12),.mov (.t 0)⟩,
  ⟨none,(some 13),.mov (.t 5)⟩,
  ⟨none,(some 14),.idxS 1 (.t 12) (.t 13)⟩,
  ⟨none,(some 15),.load 1 false (.t 14)⟩,
  ⟨none,(some 16),.call (.t 11) [(.t 15)]⟩])
 (.cond (.t 16) (.seq (.region false [⟨none,(some 17),.mov (.t 5)⟩,
  ⟨none,(some 4),.mov (.t 17)⟩])
 .ret)
 .skip))))
 (.region false [⟨none,(some 18),.bin .add (.t 8) (.k (.int .i64 1))⟩,
  ⟨none,(some 8),.mov (.t 18)⟩]))))
def zjwp (x0 x1 x7 x8:DV) (h:List AObj):St:=⟨[x0,x1]++js 5++[x7,x8]++js 10,h⟩
def a97:AFn where
 code:=(.seq (.region false [⟨none,(some 4),.mov (.k (.int .i64 0))⟩])
 (.seq (.seq (.region false [⟨none,(some 6),.mov (.t 0)⟩,
  ⟨none,(some 7),.len (.t 6)⟩,
  ⟨none,(some 8),.mov (.k (.int .i64 0))⟩])
 (.block 0 (.loop zkbn)))
 (.seq (.region false [⟨none,(some 4),.mov (.k (.int .i64 (-1)))⟩])
 .ret)))
 ntmps:=19
 res:=[.tmp 4]
theorem z0a8:zsjc P Tryd.f97=some a97:=by kernel_rfl
def a101:AFn where
 code:=(.seq (.region false [⟨none,(some 2),.box (.t 0)⟩,
  ⟨none,(some 3),.box (.t 1)⟩,
  ⟨none,(some 4),.mov (.k (.int .i64 0))⟩])
 (.seq (.region false [⟨none,(some 5),.fld 0 (.t 2)⟩,
  ⟨none,(some 6),.load 1 false (.t 5)⟩,
  ⟨none,(some 7),.fld 0 (.t 3)⟩,
  ⟨none,(some 8),.load 1 false (.t 7)⟩,
  ⟨none,(some 9),.call (.k (.fn (.func 102) [] [])) [(.t 6),(.t 8)]⟩,
  ⟨none,(some 4),.mov (.t 9)⟩])
 .ret))
 ntmps:=10
 res:=[.tmp 4]
theorem zzmu:zsjc P Tryd.f101=some a101:=by kernel_rfl
def a102:AFn where
 code:=(.seq (.region false [⟨none,(some 4),.mov (.k (.int .i64 0))⟩])
 (.seq (.region false [⟨none,(some 7),.mov (.t 0)⟩,
  ⟨none,(some 8),.call (.k (.fn (.func 150) [] [])) [(.t 7)]⟩,
  ⟨none,(some 5),.mov (.t 8)⟩])
 (.seq (.region false [⟨none,(some 9),.mov (.t 1)⟩,
  ⟨none,(some 10),.call (.k (.fn (.func 150) [] [])) [(.t 9)]⟩,
  ⟨none,(some 6),.mov (.t 10)⟩])
 (.seq (.seq (.region false [⟨none,(some 11),.mov (.t 5)⟩])
 (.cond (.t 11) (.seq (.seq (.region false [⟨none,(some 12),.mov (.t 6)⟩])
 (.cond (.t 12) (.seq (.region false [⟨none,(some 4),.mov (.k (.int .i64 0))⟩])
 .ret)
 .skip))
 (.seq (.region false [⟨none,(some 4),.mov (.k (.int .i64 (-1)))⟩])
 .ret))
 .skip))
 (.seq (.seq (.region false [⟨none,(some 13),.mov (.t 6)⟩])
 (.cond (.t 13) (.seq (.region false [⟨none,(some 4),.mov (.k (.int .i64 1))⟩])
 .ret)
 .skip))
 (.seq (.seq (.region false [⟨none,(some 14),.mov (.t 0)⟩,
  ⟨none,(some 15),.mov (.t 1)⟩,
  ⟨none,(some 16),.bin .lss (.t 14) (.t 15)⟩])
 (.cond (.t 16) (.seq (.region false [⟨none,(some 4),.mov (.k (.int .i64 (-1)))⟩])
 .ret)
 .skip))
 (.seq (.seq (.region false [⟨none,(some 17),.mov (.t 0)⟩,
  ⟨none,(some 18),.mov (.t 1)⟩,
  ⟨none,(some 19),.bin .gtr (.t 17) (.t 18)⟩])
 (.cond (.t 19) (.seq (.region false [⟨none,(some 4),.mov (.k (.int .i64 1))⟩])
 .ret)
 .skip))
 (.seq (.region false [⟨none,(some 4),.mov (.k (.int .i64 0))⟩])
 .ret))))))))
 ntmps:=20
 res:=[.tmp 4]
theorem zh4k:zsjc P Tryd.f102=some a102:=by kernel_rfl
def a150:AFn where
 code:=(.seq (.region false [⟨none,(some 2),.mov (.k (.bool false))⟩])
 (.seq (.region false [⟨none,(some 3),.mov (.t 0)⟩,
  ⟨none,(some 4),.mov (.t 0)⟩,
  ⟨none,(some 5),.bin .neq (.t 3) (.t 4)⟩,
  ⟨none,(some 2),.mov (.t 5)⟩])
 .ret))
 ntmps:=6
 res:=[.tmp 2]
theorem z7th:zsjc P Tryd.f150=some a150:=by kernel_rfl
def z7bg:ACode :=
 (.seq (.seq (.region true [⟨none,(some 18),.mov (.t 9)⟩,
  ⟨none,(some 19),.mov (.t 1)⟩,
  ⟨none,(some 20),.bin .gtr (.t 18) (.t 19)⟩,
  ⟨none,(some 21),.mov (.t 20)⟩,
  ⟨(some (21,true)),(some 22),.mov (.t 3)⟩,
  ⟨(some (21,true)),(some 23),.mov (.t 0)⟩,
  ⟨(some (21,true)),(some 24),.mov (.t 9)⟩,
  ⟨(some (21,true)),(some 25),.idxS 4 (.t 23) (.t 24)⟩,
  ⟨(some (21,true)),(some 26),.load 4 true (.t 25)⟩,
  ⟨(some (21,true)),(some 27),.mov (.t 0)⟩,
  ⟨(some (21,true)),(some 28),.mov (.t 9)⟩,
  ⟨(some (21,true)),(some 29),.bin .sub (.t 28) (.k (.int .i64 1))⟩,
  ⟨(some (21,true)),(some 30),.idxS 4 (.t 27) (.t 29)⟩,
  ⟨(some (21,true)),(some 31),.load 4 true (.t 30)⟩,
  ⟨(some (21,true)),(some 32),.callN (.t 22) [(.t 26),(.t 31)]⟩,
  ⟨(some (21,true)),(some 33),.bin .lss (.t 32) (.k (.int .i64 0))⟩,
  ⟨none,(some 34),.pick (.t 21) (.t 33) (.k (.bool false))⟩])
 (.cond (.t 34) .skip
 (.exit 2)))
 (.seq (.block 3 (.region true [⟨none,(some 37),.mov (.t 0)⟩,
  ⟨none,(some 38),.mov (.t 9)⟩,
  ⟨none,(some 39),.mov (.t 0)⟩,
  ⟨none,(some 40),.mov (.t 9)⟩,
  ⟨none,(some 41),.bin .sub (.t 40) (.k (.int .i64 1))⟩,
  ⟨none,(some 42),.mov (.t 0)⟩,
  ⟨none,(some 43),.mov (.t 9)⟩,
  ⟨none,(some 44),.bin .sub (.t 43) (.k (.int .i64 1))⟩,
  ⟨none,(some 45),.idxS 4 (.t 42) (.t 44)⟩,
  ⟨none,(some 46),.load 4 true (.t 45)⟩,
  ⟨none,(some 47),.mov (.t 0)⟩,
  ⟨none,(some 48),.mov (.t 9)⟩,
  ⟨none,(some 49),.idxS 4 (.t 47) (.t 48)⟩,
  ⟨none,(some 50),.load 4 true (.t 49)⟩,
  ⟨none,(some 51),.idxS 4 (.t 37) (.t 38)⟩,
  ⟨none,none,.store 4 (.t 51) (.t 46)⟩,
  ⟨none,(some 52),.idxS 4 (.t 39) (.t 41)⟩,
  ⟨none,none,.store 4 (.t 52) (.t 50)⟩]))
 (.region false [⟨none,(some 35),.mov (.t 9)⟩,
  ⟨none,(some 36),.bin .sub (.t 35) (.k (.int .i64 1))⟩,
  ⟨none,(some 9),.mov (.t 36)⟩])))
def z3kc (x0 x1 x2 x3 x8 x9:DV) (h:List AObj):St:=⟨[x0,x1,x2,x3]++js 4++[x8,x9]++js 43,h⟩
def znc4:ACode :=
 (.seq (.seq (.region false [⟨none,(some 12),.mov (.t 8)⟩,
  ⟨none,(some 13),.mov (.t 2)⟩,
  ⟨none,(some 14),.bin .lss (.t 12) (.t 13)⟩])
 (.cond (.t 14) .skip
 (.exit 0)))
 (.seq (.block 1 (.seq (.region false [⟨none,(some 17),.mov (.t 8)⟩,
  ⟨none,(some 9),.mov (.t 17)⟩])
 (.block 2 (.loop z7bg))))
 (.region false [⟨none,(some 15),.mov (.t 8)⟩,
  ⟨none,(some 16),.bin .add (.t 15) (.k (.int .i64 1))⟩,
  ⟨none,(some 8),.mov (.t 16)⟩])))
def z1ss (x0 x1 x2 x3 x8:DV) (h:List AObj):St:=⟨[x0,x1,x2,x3]++js 4++[x8]++js 44,h⟩
def a172:AFn where
 code:=(.seq (.region false [⟨none,(some 10),.mov (.t 1)⟩,
  ⟨none,(some 11),.bin .add (.t 10) (.k (.int .i64 1))⟩,
  ⟨none,(some 8),.mov (.t 11)⟩])
 (.block 0 (.loop znc4)))
 ntmps:=53
 res:=[]
theorem zyib:zsjc P Tryd.f172=some a172:=by kernel_rfl
def zjzn:ACode :=
 (.seq (.seq (.region false [⟨none,(some 11),.mov (.t 8)⟩,
  ⟨none,(some 12),.mov (.t 1)⟩,
  ⟨none,(some 13),.bin .leq (.t 11) (.t 12)⟩])
 (.cond (.t 13) .skip
 (.exit 0)))
 (.block 1 (.seq (.region false [⟨none,(some 14),.mov (.t 0)⟩,
  ⟨none,(some 15),.mov (.t 7)⟩,
  ⟨none,(some 16),.mov (.t 8)⟩,
  ⟨none,(some 17),.mov (.t 2)⟩,
  ⟨none,(some 18),.call (.k (.fn (.func 172) [] [])) [(.t 14),(.t 15),(.t 16),(.t 17)]⟩])
 (.seq (.region false [⟨none,(some 19),.mov (.t 8)⟩,
  ⟨none,(some 7),.mov (.t 19)⟩])
 (.region false [⟨none,(some 20),.mov (.t 8)⟩,
  ⟨none,(some 21),.mov (.t 6)⟩,
  ⟨none,(some 22),.bin .add (.t 20) (.t 21)⟩,
  ⟨none,(some 8),.mov (.t 22)⟩])))))
def ze9v (x0 x1 x2 x6 x7 x8:DV) (h:List AObj):St:=⟨[x0,x1,x2,.junk,.junk,.junk,x6,x7,x8]++js 54,h⟩
def zkqq:ACode :=
 (.seq (.seq (.region false [⟨none,(some 33),.mov (.t 8)⟩,
  ⟨none,(some 34),.mov (.t 1)⟩,
  ⟨none,(some 35),.bin .leq (.t 33) (.t 34)⟩])
 (.cond (.t 35) .skip
 (.exit 4)))
 (.block 5 (.seq (.region false [⟨none,(some 36),.mov (.t 0)⟩,
  ⟨none,(some 37),.mov (.t 7)⟩,
  ⟨none,(some 38),.mov (.t 7)⟩,
  ⟨none,(some 39),.mov (.t 6)⟩,
  ⟨none,(some 40),.bin .add (.t 38) (.t 39)⟩,
  ⟨none,(some 41),.mov (.t 8)⟩,
  ⟨none,(some 42),.mov (.t 2)⟩,
  ⟨none,(some 43),.call (.k (.fn (.func 173) [] [])) [(.t 36),(.t 37),(.t 40),(.t 41),(.t 42)]⟩])
 (.seq (.region false [⟨none,(some 44),.mov (.t 8)⟩,
  ⟨none,(some 7),.mov (.t 44)⟩])
 (.region false [⟨none,(some 45),.mov (.t 8)⟩,
  ⟨none,(some 46),.mov (.t 6)⟩,
  ⟨none,(some 47),.bin .mul (.k (.int .i64 2)) (.t 46)⟩,
  ⟨none,(some 48),.bin .add (.t 45) (.t 47)⟩,
  ⟨none,(some 8),.mov (.t 48)⟩])))))
def zpfw:ACode :=
 (.seq (.seq (.region false [⟨none,(some 28),.mov (.t 6)⟩,
  ⟨none,(some 29),.mov (.t 1)⟩,
  ⟨none,(some 30),.bin .lss (.t 28) (.t 29)⟩])
 (.cond (.t 30) .skip
 (.exit 2)))
 (.block 3 (.seq (.region false [⟨none,(some 31),.mov (.t 6)⟩,
  ⟨none,(some 32),.bin .mul (.k (.int .i64 2)) (.t 31)⟩,
  ⟨none,(some 7),.mov (.k (.int .i64 0))⟩,
  ⟨none,(some 8),.mov (.t 32)⟩])
 (.seq (.block 4 (.loop zkqq))
 (.seq (.seq (.region false [⟨none,(some 49),.mov (.t 7)⟩,
  ⟨none,(some 50),.mov (.t 6)⟩,
  ⟨none,(some 51),.bin .add (.t 49) (.t 50)⟩,
  ⟨none,(some 9),.mov (.t 51)⟩])
 (.seq (.region false [⟨none,(some 52),.mov (.t 9)⟩,
  ⟨none,(some 53),.mov (.t 1)⟩,
  ⟨none,(some 54),.bin .lss (.t 52) (.t 53)⟩])
 (.cond (.t 54) (.region false [⟨none,(some 55),.mov (.t 0)⟩,
  ⟨none,(some 56),.mov (.t 7)⟩,
  ⟨none,(some 57),.mov (.t 9)⟩,
  ⟨none,(some 58),.mov (.t 1)⟩,
  ⟨none,(some 59),.mov (.t 2)⟩,
  ⟨none,(some 60),.call (.k (.fn (.func 173) [] [])) [(.t 55),(.t 56),(.t 57),(.t 58),(.t 59)]⟩])
 .skip)))
 (.region false [⟨none,(some 61),.mov (.t 6)⟩,
  ⟨none,(some 62),.bin .mul (.t 61) (.k (.int .i64 2))⟩,
  ⟨none,(some 6),.mov (.t 62)⟩]))))))
def z1nc (x0 x1 x2 x6:DV) (h:List AObj):St:=⟨[x0,x1,x2,.junk,.junk,.junk,x6]++js 56,h⟩
def a149:AFn where
 code:=(.seq (.region false [⟨none,(some 6),.mov (.k (.int .i64 20))⟩])
 (.seq (.region false [⟨none,(some 10),.mov (.t 6)⟩,
  ⟨none,(some 7),.mov (.k (.int .i64 0))⟩,
  ⟨none,(some 8),.mov (.t 10)⟩])
 (.seq (.block 0 (.loop zjzn))
 (.seq (.region false [⟨none,(some 23),.mov (.t 0)⟩,
  ⟨none,(some 24),.mov (.t 7)⟩,
  ⟨none,(some 25),.mov (.t 1)⟩,
  ⟨none,(some 26),.mov (.t 2)⟩,
  ⟨none,(some 27),.call (.k (.fn (.func 172) [] [])) [(.t 23),(.t 24),(.t 25),(.t 26)]⟩])
 (.block 2 (.loop zpfw))))))
 ntmps:=63
 res:=[]
theorem zdm8:zsjc P Tryd.f149=some a149:=by kernel_rfl
def a100:AFn where
 code:=(.region false [⟨none,(some 4),.mov (.t 0)⟩,
  ⟨none,(some 5),.mov (.t 0)⟩,
  ⟨none,(some 6),.len (.t 5)⟩,
  ⟨none,(some 7),.mov (.t 1)⟩,
  ⟨none,(some 8),.call (.k (.fn (.func 149) [] [])) [(.t 4),(.t 6),(.t 7)]⟩])
 ntmps:=9
 res:=[]
theorem zec4:zsjc P Tryd.f100=some a100:=by kernel_rfl
def zzdb:ACode :=
 (.seq (.region false [⟨none,(some 13),.bin .lss (.t 12) (.t 11)⟩])
 (.seq (.cond (.t 13) .skip
 (.exit 0))
 (.seq (.block 1 (.seq (.region false [⟨none,(some 14),.idxS 9 (.t 10) (.t 12)⟩,
  ⟨none,(some 15),.load 9 true (.t 14)⟩,
  ⟨none,(some 7),.alloc [(.str []),(.str []),(.str []),(.str []),(.int .i64 0),.nils,.nils,.nils,.nils]⟩,
  ⟨none,none,.store 9 (.t 7) (.t 15)⟩])
 (.region false [⟨none,(some 16),.mov (.t 5)⟩,
  ⟨none,(some 17),.fld 0 (.t 7)⟩,
  ⟨none,(some 18),.load 1 false (.t 17)⟩,
  ⟨none,(some 19),.fld 0 (.t 2)⟩,
  ⟨none,(some 20),.load 1 false (.t 19)⟩,
  ⟨none,(some 21),.fld 1 (.t 7)⟩,
  ⟨none,(some 22),.fld 6 (.t 21)⟩,
  ⟨none,(some 23),.load 1 false (.t 22)⟩,
  ⟨none,(some 24),.fld 1 (.t 7)⟩,
  ⟨none,(some 25),.fld 7 (.t 24)⟩,
  ⟨none,(some 26),.load 1 false (.t 25)⟩,
  ⟨none,(some 27),.build [(.str []),.nils,.nils] [(0,1,(.t 20)),(1,1,(.t 23)),(2,1,(.t 26))]⟩,
  ⟨none,(some 28),.build [(.str []),(.str []),.nils,.nils] [(0,1,(.t 18)),(1,3,(.t 27))]⟩,
  ⟨none,(some 29),.bsl 4 1 [(.str []),(.str []),.nils,.nils] [(0,4,(.t 28))]⟩,
  ⟨none,(some 30),.app 4 80 (.t 16) (.t 29)⟩,
  ⟨none,(some 5),.mov (.t 30)⟩])))
 (.region false [⟨none,(some 31),.bin .add (.t 12) (.k (.int .i64 1))⟩,
  ⟨none,(some 12),.mov (.t 31)⟩]))))
def zgz1 (x2 x5 x10 x11 x12:DV) (h:List AObj):St:=⟨[.junk,.junk,x2,.junk,.junk,x5]++js 4++[x10,x11,x12]++js 22,h⟩
def a47:AFn where
 code:=(.seq (.region false [⟨none,(some 2),.box (.t 0)⟩,
  ⟨none,(some 4),.mov (.k .nils)⟩])
 (.seq (.region false [⟨none,(some 5),.mov (.k .nils)⟩])
 (.seq (.seq (.region false [⟨none,(some 8),.load 7 true (.t 2)⟩,
  ⟨none,(some 9),.mov (.t 1)⟩,
  ⟨none,(some 10),.call (.k (.fn (.func 99) [] [])) [(.t 8),(.t 9)]⟩,
  ⟨none,(some 11),.len (.t 10)⟩,
  ⟨none,(some 12),.mov (.k (.int .i64 0))⟩])
 (.block 0 (.loop zzdb)))
 (.seq (.region false [⟨none,(some 32),.mov (.t 5)⟩,
  ⟨none,(some 33),.call (.k (.fn (.func 100) [] [])) [(.t 32),(.k (.fn (.func 101) [] []))]⟩])
 (.seq (.region false [⟨none,(some 34),.mov (.t 5)⟩,
  ⟨none,(some 4),.mov (.t 34)⟩])
 .ret)))))
 ntmps:=35
 res:=[.tmp 4]
theorem zzqr:zsjc P Tryd.f47=some a47:=by kernel_rfl
end Go.Proofs.YtjknipdiglpnlaaDoor
set_option linter.unusedSimpArgs false
set_option linter.unusedVariables false
namespace Go.Proofs.YtjknipdiglpnlaaDoor
open Go Go.Am
def a48:AFn where
 code:=(.seq (.region false [⟨none,(some 2),.box (.t 0)⟩,
  ⟨none,(some 3),.box (.t 1)⟩,
  ⟨none,(some 4),.mov (.k (.bool false))⟩])
 (.seq (.region false [⟨none,(some 5),.fld 0 (.t 2)⟩,
  ⟨none,(some 6),.load 1 false (.t 5)⟩,
  ⟨none,(some 7),.fld 0 (.t 3)⟩,
  ⟨none,(some 8),.load 1 false (.t 7)⟩,
  ⟨none,(some 9),.bin .eql (.t 6) (.t 8)⟩,
  ⟨none,(some 4),.mov (.t 9)⟩])
 .ret))
 ntmps:=10
 res:=[.tmp 4]
theorem zwi2:zsjc P Tryd.f48=some a48:=by kernel_rfl
def a50:AFn where
 code:=(.seq (.region false [⟨none,(some 2),.box (.t 0)⟩,
  ⟨none,(some 3),.mov (.k (.bool false))⟩])
 (.seq (.region true [⟨none,(some 4),.fld 1 (.t 2)⟩,
  ⟨none,(some 5),.load 3 true (.t 4)⟩,
  ⟨none,(some 6),.load 1 false (.t 1)⟩,
  ⟨none,(some 7),.idxS 4 (.t 6) (.k (.int .i64 0))⟩,
  ⟨none,(some 8),.fld 1 (.t 7)⟩,
  ⟨none,(some 9),.load 3 true (.t 8)⟩,
  ⟨none,(some 10),.callN (.k (.fn (.func 13) [] [])) [(.t 5),(.t 9)]⟩,
  ⟨none,(some 11),.un .not (.t 10)⟩,
  ⟨none,(some 3),.mov (.t 11)⟩])
 .ret))
 ntmps:=12
 res:=[.tmp 3]
theorem z12y:zsjc P Tryd.f50=some a50:=by kernel_rfl
def a51:AFn where
 code:=(.seq (.region false [⟨none,(some 2),.box (.t 0)⟩,
  ⟨none,(some 3),.box (.t 1)⟩,
  ⟨none,(some 4),.mov (.k (.bool false))⟩])
 (.seq (.region false [⟨none,(some 5),.fld 1 (.t 2)⟩,
  ⟨none,(some 6),.load 3 true (.t 5)⟩,
  ⟨none,(some 7),.fld 1 (.t 3)⟩,
  ⟨none,(some 8),.load 3 true (.t 7)⟩,
  ⟨none,(some 9),.call (.k (.fn (.func 13) [] [])) [(.t 6),(.t 8)]⟩,
  ⟨none,(some 4),.mov (.t 9)⟩])
 .ret))
 ntmps:=10
 res:=[.tmp 4]
theorem z8rx:zsjc P Tryd.f51=some a51:=by kernel_rfl
def a53:AFn where
 code:=(.seq (.region false [⟨none,(some 2),.box (.t 0)⟩,
  ⟨none,(some 3),.box (.t 1)⟩,
  ⟨none,(some 4),.mov (.k (.int .i64 0))⟩])
 (.seq (.region false [⟨none,(some 5),.fld 3 (.t 3)⟩,
  ⟨none,(some 6),.load 1 false (.t 5)⟩,
  ⟨none,(some 7),.len (.t 6)⟩,
  ⟨none,(some 8),.fld 3 (.t 2)⟩,
  ⟨none,(some 9),.load 1 false (.t 8)⟩,
  ⟨none,(some 10),.len (.t 9)⟩,
  ⟨none,(some 11),.call (.k (.fn (.func 54) [] [])) [(.t 7),(.t 10)]⟩,
  ⟨none,(some 4),.mov (.t 11)⟩])
 .ret))
 ntmps:=12
 res:=[.tmp 4]
theorem zq51:zsjc P Tryd.f53=some a53:=by kernel_rfl
def a54:AFn where
 code:=(.seq (.region false [⟨none,(some 4),.mov (.k (.int .i64 0))⟩])
 (.seq (.region false [⟨none,(some 7),.mov (.t 0)⟩,
  ⟨none,(some 8),.call (.k (.fn (.func 105) [] [])) [(.t 7)]⟩,
  ⟨none,(some 5),.mov (.t 8)⟩])
 (.seq (.region false [⟨none,(some 9),.mov (.t 1)⟩,
  ⟨none,(some 10),.call (.k (.fn (.func 105) [] [])) [(.t 9)]⟩,
  ⟨none,(some 6),.mov (.t 10)⟩])
 (.seq (.seq (.region false [⟨none,(some 11),.mov (.t 5)⟩])
 (.cond (.t 11) (.seq (.seq (.region false [⟨none,(some 12),.mov (.t 6)⟩])
 (.cond (.t 12) (.seq (.region false [⟨none,(some 4),.mov (.k (.int .i64 0))⟩])
 .ret)
 .skip))
 (.seq (.region false [⟨none,(some 4),.mov (.k (.int .i64 (-1)))⟩])
 .ret))
 .skip))
 (.seq (.seq (.region false [⟨none,(some 13),.mov (.t 6)⟩])
 (.cond (.t 13) (.seq (.region false [⟨none,(some 4),.mov (.k (.int .i64 1))⟩])
 .ret)
 .skip))
 (.seq (.seq (.region false [⟨none,(some 14),.mov (.t 0)⟩,
  ⟨none,(some 15),.mov (.t 1)⟩,
  ⟨none,(some 16),.bin .lss (.t 14) (.t 15)⟩])
 (.cond (.t 16) (.seq (.region false [⟨none,(some 4),.mov (.k (.int .i64 (-1)))⟩])
 .ret)
 .skip))
 (.seq (.seq (.region false [⟨none,(some 17),.mov (.t 0)⟩,
  ⟨none,(some 18),.mov (.t 1)⟩,
  ⟨none,(some 19),.bin .gtr (.t 17) (.t 18)⟩])
 (.cond (.t 19) (.seq (.region false [⟨none,(some 4),.mov (.k (.int .i64 1))⟩])
 .ret)
 .skip))
 (.seq (.region false [⟨none,(some 4),.mov (.k (.int .i64 0))⟩])
 .ret))))))))
 ntmps:=20
 res:=[.tmp 4]
theorem zq4q:zsjc P Tryd.f54=some a54:=by kernel_rfl
def a105:AFn where
 code:=(.seq (.region false [⟨none,(some 2),.mov (.k (.bool false))⟩])
 (.seq (.region false [⟨none,(some 3),.mov (.t 0)⟩,
  ⟨none,(some 4),.mov (.t 0)⟩,
  ⟨none,(some 5),.bin .neq (.t 3) (.t 4)⟩,
  ⟨none,(some 2),.mov (.t 5)⟩])
 .ret))
 ntmps:=6
 res:=[.tmp 2]
theorem z9rf:zsjc P Tryd.f105=some a105:=by kernel_rfl
def zcwx:ACode :=
 (.seq (.region false [⟨none,(some 9),.bin .lss (.t 8) (.t 7)⟩])
 (.seq (.cond (.t 9) .skip
 (.exit 0))
 (.seq (.block 1 (.seq (.region false [⟨none,(some 10),.mov (.t 8)⟩,
  ⟨none,(some 5),.mov (.t 10)⟩])
 (.seq (.region false [⟨none,(some 11),.mov (.t 1)⟩,
  ⟨none,(some 12),.mov (.t 0)⟩,
  ⟨none,(some 13),.mov (.t 5)⟩,
  ⟨none,(some 14),.idxS 4 (.t 12) (.t 13)⟩,
  ⟨none,(some 15),.load 4 true (.t 14)⟩,
  ⟨none,(some 16),.call (.t 11) [(.t 15)]⟩])
 (.cond (.t 16) (.seq (.region false [⟨none,(some 17),.mov (.t 5)⟩,
  ⟨none,(some 4),.mov (.t 17)⟩])
 .ret)
 .skip))))
 (.region false [⟨none,(some 18),.bin .add (.t 8) (.k (.int .i64 1))⟩,
  ⟨none,(some 8),.mov (.t 18)⟩]))))
def zxhp (x0 x1 x7 x8:DV) (h:List AObj):St:=⟨[x0,x1]++js 5++[x7,x8]++js 10,h⟩
def a103:AFn where
 code:=(.seq (.region false [⟨none,(some 4),.mov (.k (.int .i64 0))⟩])
 (.seq (.seq (.region false [⟨none,(some 6),.mov (.t 0)⟩,
  ⟨none,(some 7),.len (.t 6)⟩,
  ⟨none,(some 8),.mov (.k (.int .i64 0))⟩])
 (.block 0 (.loop zcwx)))
 (.seq (.region false [⟨none,(some 4),.mov (.k (.int .i64 (-1)))⟩])
 .ret)))
 ntmps:=19
 res:=[.tmp 4]
theorem zawu:zsjc P Tryd.f103=some a103:=by kernel_rfl
def a49:AFn where
 code:=(.seq (.region false [⟨none,(some 4),.mov (.k (.bool false))⟩])
 (.seq (.region false [⟨none,(some 5),.mov (.t 0)⟩,
  ⟨none,(some 6),.mov (.t 1)⟩,
  ⟨none,(some 7),.call (.k (.fn (.func 103) [] [])) [(.t 5),(.t 6)]⟩,
  ⟨none,(some 8),.bin .geq (.t 7) (.k (.int .i64 0))⟩,
  ⟨none,(some 4),.mov (.t 8)⟩])
 .ret))
 ntmps:=9
 res:=[.tmp 4]
theorem zdc4:zsjc P Tryd.f49=some a49:=by kernel_rfl
def zmaw:ACode :=
 (.seq (.seq (.region true [⟨none,(some 18),.mov (.t 9)⟩,
  ⟨none,(some 19),.mov (.t 1)⟩,
  ⟨none,(some 20),.bin .gtr (.t 18) (.t 19)⟩,
  ⟨none,(some 21),.mov (.t 20)⟩,
  ⟨(some (21,true)),(some 22),.mov (.t 3)⟩,
  ⟨(some (21,true)),(some 23),.mov (.t 0)⟩,
  ⟨(some (21,true)),(some 24),.mov (.t 9)⟩,
  ⟨(some (21,true)),(some 25),.idxS 5 (.t 23) (.t 24)⟩,
  ⟨(some (21,true)),(some 26),.load 5 true (.t 25)⟩,
  ⟨(some (21,true)),(some 27),.mov (.t 0)⟩,
  ⟨(some (21,true)),(some 28),.mov (.t 9)⟩,
  ⟨(some (21,true)),(some 29),.bin .sub (.t 28) (.k (.int .i64 1))⟩,
  ⟨(some (21,true)),(some 30),.idxS 5 (.t 27) (.t 29)⟩,
  ⟨(some (21,true)),(some 31),.load 5 true (.t 30)⟩,
  ⟨(some (21,true)),(some 32),.callN (.t 22) [(.t 26),(.t 31)]⟩,
  ⟨(some (21,true)),(some 33),.bin .lss (.t 32) (.k (.int .i64 0))⟩,
  ⟨none,(some 34),.pick (.t 21) (.t 33) (.k (.bool false))⟩])
 (.cond (.t 34) .skip
 (.exit 2)))
 (.seq (.block 3 (.region true [⟨none,(some 37),.mov (.t 0)⟩,
  ⟨none,(some 38),.mov (.t 9)⟩,
  ⟨none,(some 39),.mov (.t 0)⟩,
  ⟨none,(some 40),.mov (.t 9)⟩,
  ⟨none,(some 41),.bin .sub (.t 40) (.k (.int .i64 1))⟩,
  ⟨none,(some 42),.mov (.t 0)⟩,
  ⟨none,(some 43),.mov (.t 9)⟩,
  ⟨none,(some 44),.bin .sub (.t 43) (.k (.int .i64 1))⟩,
  ⟨none,(some 45),.idxS 5 (.t 42) (.t 44)⟩,
  ⟨none,(some 46),.load 5 true (.t 45)⟩,
  ⟨none,(some 47),.mov (.t 0)⟩,
  ⟨none,(some 48),.mov (.t 9)⟩,
  ⟨none,(some 49),.idxS 5 (.t 47) (.t 48)⟩,
  ⟨none,(some 50),.load 5 true (.t 49)⟩,
  ⟨none,(some 51),.idxS 5 (.t 37) (.t 38)⟩,
  ⟨none,none,.store 5 (.t 51) (.t 46)⟩,
  ⟨none,(some 52),.idxS 5 (.t 39) (.t 41)⟩,
  ⟨none,none,.store 5 (.t 52) (.t 50)⟩]))
 (.region false [⟨none,(some 35),.mov (.t 9)⟩,
  ⟨none,(some 36),.bin .sub (.t 35) (.k (.int .i64 1))⟩,
  ⟨none,(some 9),.mov (.t 36)⟩])))
def z0sv (x0 x1 x2 x3 x8 x9:DV) (h:List AObj):St:=⟨[x0,x1,x2,x3]++js 4++[x8,x9]++js 43,h⟩
def zyfh:ACode :=
 (.seq (.seq (.region false [⟨none,(some 12),.mov (.t 8)⟩,
  ⟨none,(some 13),.mov (.t 2)⟩,
  ⟨none,(some 14),.bin .lss (.t 12) (.t 13)⟩])
 (.cond (.t 14) .skip
 (.exit 0)))
 (.seq (.block 1 (.seq (.region false [⟨none,(some 17),.mov (.t 8)⟩,
  ⟨none,(some 9),.mov (.t 17)⟩])
 (.block 2 (.loop zmaw))))
 (.region false [⟨none,(some 15),.mov (.t 8)⟩,
  ⟨none,(some 16),.bin .add (.t 15) (.k (.int .i64 1))⟩,
  ⟨none,(some 8),.mov (.t 16)⟩])))
def z22c (x0 x1 x2 x3 x8:DV) (h:List AObj):St:=⟨[x0,x1,x2,x3]++js 4++[x8]++js 44,h⟩
def a151:AFn where
 code:=(.seq (.region false [⟨none,(some 10),.mov (.t 1)⟩,
  ⟨none,(some 11),.bin .add (.t 10) (.k (.int .i64 1))⟩,
  ⟨none,(some 8),.mov (.t 11)⟩])
 (.block 0 (.loop zyfh)))
 ntmps:=53
 res:=[]
theorem z5na:zsjc P Tryd.f151=some a151:=by kernel_rfl
def z7sf:ACode :=
 (.seq (.seq (.region false [⟨none,(some 11),.mov (.t 8)⟩,
  ⟨none,(some 12),.mov (.t 1)⟩,
  ⟨none,(some 13),.bin .leq (.t 11) (.t 12)⟩])
 (.cond (.t 13) .skip
 (.exit 0)))
 (.block 1 (.seq (.region false [⟨none,(some 14),.mov (.t 0)⟩,
  ⟨none,(some 15),.mov (.t 7)⟩,
  ⟨none,(some 16),.mov (.t 8)⟩,
  ⟨none,(some 17),.mov (.t 2)⟩,
  ⟨none,(some 18),.call (.k (.fn (.func 151) [] [])) [(.t 14),(.t 15),(.t 16),(.t 17)]⟩])
 (.seq (.region false [⟨none,(some 19),.mov (.t 8)⟩,
  ⟨none,(some 7),.mov (.t 19)⟩])
 (.region false [⟨none,(some 20),.mov (.t 8)⟩,
  ⟨none,(some 21),.mov (.t 6)⟩,
  ⟨none,(some 22),.bin .add (.t 20) (.t 21)⟩,
  ⟨none,(some 8),.mov (.t 22)⟩])))))
def zq0a (x0 x1 x2 x6 x7 x8:DV) (h:List AObj):St:=⟨[x0,x1,x2,.junk,.junk,.junk,x6,x7,x8]++js 54,h⟩
def zk1y:ACode :=
 (.seq (.seq (.region false [⟨none,(some 33),.mov (.t 8)⟩,
  ⟨none,(some 34),.mov (.t 1)⟩,
  ⟨none,(some 35),.bin .leq (.t 33) (.t 34)⟩])
 (.cond (.t 35) .skip
 (.exit 4)))
 (.block 5 (.seq (.region false [⟨none,(some 36),.mov (.t 0)⟩,
  ⟨none,(some 37),.mov (.t 7)⟩,
  ⟨none,(some 38),.mov (.t 7)⟩,
  ⟨none,(some 39),.mov (.t 6)⟩,
  ⟨none,(some 40),.bin .add (.t 38) (.t 39)⟩,
  ⟨none,(some 41),.mov (.t 8)⟩,
  ⟨none,(some 42),.mov (.t 2)⟩,
  ⟨none,(some 43),.call (.k (.fn (.func 152) [] [])) [(.t 36),(.t 37),(.t 40),(.t 41),(.t 42)]⟩])
 (.seq (.region false [⟨none,(some 44),.mov (.t 8)⟩,
  ⟨none,(some 7),.mov (.t 44)⟩])
 (.region false [⟨none,(some 45),.mov (.t 8)⟩,
  ⟨none,(some 46),.mov (.t 6)⟩,
  ⟨none,(some 47),.bin .mul (.k (.int .i64 2)) (.t 46)⟩,
  ⟨none,(some 48),.bin .add (.t 45) (.t 47)⟩,
  ⟨none,(some 8),.mov (.t 48)⟩])))))
def zf8u:ACode :=
 (.seq (.seq (.region false [⟨none,(some 28),.mov (.t 6)⟩,
  ⟨none,(some 29),.mov (.t 1)⟩,
  ⟨none,(some 30),.bin .lss (.t 28) (.t 29)⟩])
 (.cond (.t 30) .skip
 (.exit 2)))
 (.block 3 (.seq (.region false [⟨none,(some 31),.mov (.t 6)⟩,
  ⟨none,(some 32),.bin .mul (.k (.int .i64 2)) (.t 31)⟩,
  ⟨none,(some 7),.mov (.k (.int .i64 0))⟩,
  ⟨none,(some 8),.mov (.t 32)⟩])
 (.seq (.block 4 (.loop zk1y))
 (.seq (.seq (.region false [⟨none,(some 49),.mov (.t 7)⟩,
  ⟨none,(some 50),.mov (.t 6)⟩,
  ⟨none,(some 51),.bin .add (.t 49) (.t 50)⟩,
  ⟨none,(some 9),.mov (.t 51)⟩])
 (.seq (.region false [⟨none,(some 52),.mov (.t 9)⟩,
  ⟨none,(some 53),.mov (.t 1)⟩,
  ⟨none,(some 54),.bin .lss (.t 52) (.t 53)⟩])
 (.cond (.t 54) (.region false [⟨none,(some 55),.mov (.t 0)⟩,
  ⟨none,(some 56),.mov (.t 7)⟩,
  ⟨none,(some 57),.mov (.t 9)⟩,
  ⟨none,(some 58),.mov (.t 1)⟩,
  ⟨none,(some 59),.mov (.t 2)⟩,
  ⟨none,(some 60),.call (.k (.fn (.func 152) [] [])) [(.t 55),(.t 56),(.t 57),(.t 58),(.t 59)]⟩])
 .skip)))
 (.region false [⟨none,(some 61),.mov (.t 6)⟩,
  ⟨none,(some 62),.bin .mul (.t 61) (.k (.int .i64 2))⟩,
  ⟨none,(some 6),.mov (.t 62)⟩]))))))
def z9ml (x0 x1 x2 x6:DV) (h:List AObj):St:=⟨[x0,x1,x2,.junk,.junk,.junk,x6]++js 56,h⟩
def a104:AFn where
 code:=(.seq (.region false [⟨none,(some 6),.mov (.k (.int .i64 20))⟩])
 (.seq (.region false [⟨none,(some 10),.mov (.t 6)⟩,
  ⟨none,(some 7),.mov (.k (.int .i64 0))⟩,
  ⟨none,(some 8),.mov (.t 10)⟩])
 (.seq (.block 0 (.loop z7sf))
 (.seq (.region false [⟨none,(some 23),.mov (.t 0)⟩,
  ⟨none,(some 24),.mov (.t 7)⟩,
  ⟨none,(some 25),.mov (.t 1)⟩,
  ⟨none,(some 26),.mov (.t 2)⟩,
  ⟨none,(some 27),.call (.k (.fn (.func 151) [] [])) [(.t 23),(.t 24),(.t 25),(.t 26)]⟩])
 (.block 2 (.loop zf8u))))))
 ntmps:=63
 res:=[]
theorem z0mt:zsjc P Tryd.f104=some a104:=by kernel_rfl
def a52:AFn where
 code:=(.region false [⟨none,(some 4),.mov (.t 0)⟩,
  ⟨none,(some 5),.mov (.t 0)⟩,
  ⟨none,(some 6),.len (.t 5)⟩,
  ⟨none,(some 7),.mov (.t 1)⟩,
  ⟨none,(some 8),.call (.k (.fn (.func 104) [] [])) [(.t 4),(.t 6),(.t 7)]⟩])
 ntmps:=9
 res:=[]
theorem zil0:zsjc P Tryd.f52=some a52:=by kernel_rfl
def zv5f:ACode :=
 (.seq (.region false [⟨none,(some 22),.bin .lss (.t 21) (.t 20)⟩])
 (.seq (.cond (.t 22) .skip
 (.exit 0))
 (.seq (.block 1 (.seq (.region false [⟨none,(some 23),.idxS 1 (.t 19) (.t 21)⟩,
  ⟨none,(some 24),.load 1 false (.t 23)⟩,
  ⟨none,(some 9),.alloc [.nils]⟩,
  ⟨none,none,.store 1 (.t 9) (.t 24)⟩])
 (.seq (.region false [⟨none,(some 25),.load 1 false (.t 9)⟩,
  ⟨none,(some 26),.mkf (.func 50) [] [(.t 9)]⟩,
  ⟨none,(some 27),.call (.k (.fn (.func 49) [] [])) [(.t 25),(.t 26)]⟩])
 (.cond (.t 27) (.region false [⟨none,(some 28),.mov (.t 7)⟩,
  ⟨none,(some 29),.load 1 false (.t 9)⟩,
  ⟨none,(some 30),.idxS 4 (.t 29) (.k (.int .i64 0))⟩,
  ⟨none,(some 31),.fld 0 (.t 30)⟩,
  ⟨none,(some 32),.load 1 false (.t 31)⟩,
  ⟨none,(some 33),.bsl 1 1 [(.str [])] [(0,1,(.t 32))]⟩,
  ⟨none,(some 34),.app 1 16 (.t 28) (.t 33)⟩,
  ⟨none,(some 7),.mov (.t 34)⟩])
 (.region false [⟨none,(some 35),.mov (.t 6)⟩,
  ⟨none,(some 36),.load 1 false (.t 9)⟩,
  ⟨none,(some 37),.idxS 4 (.t 36) (.k (.int .i64 0))⟩,
  ⟨none,(some 38),.load 4 true (.t 37)⟩,
  ⟨none,(some 39),.bsl 4 1 [(.str []),(.str []),.nils,.nils] [(0,4,(.t 38))]⟩,
  ⟨none,(some 40),.app 4 80 (.t 35) (.t 39)⟩,
  ⟨none,(some 6),.mov (.t 40)⟩])))))
 (.region false [⟨none,(some 41),.bin .add (.t 21) (.k (.int .i64 1))⟩,
  ⟨none,(some 21),.mov (.t 41)⟩]))))
def z7en (x6 x7 x19 x20 x21:DV) (h:List AObj):St:=⟨js 6++[x6,x7]++js 11++[x19,x20,x21]++js 55,h⟩
def ze01:ACode :=
 (.seq (.region false [⟨none,(some 57),.bin .lss (.t 56) (.t 55)⟩])
 (.seq (.cond (.t 57) .skip
 (.exit 4))
 (.seq (.block 5 (.seq (.region false [⟨none,(some 58),.idxS 4 (.t 54) (.t 56)⟩,
  ⟨none,(some 59),.load 4 true (.t 58)⟩,
  ⟨none,(some 15),.alloc [(.str []),(.str []),.nils,.nils]⟩,
  ⟨none,none,.store 4 (.t 15) (.t 59)⟩])
 (.region false [⟨none,(some 60),.fld 3 (.t 13)⟩,
  ⟨none,(some 61),.load 1 false (.t 60)⟩,
  ⟨none,(some 62),.fld 0 (.t 15)⟩,
  ⟨none,(some 63),.load 1 false (.t 62)⟩,
  ⟨none,(some 64),.bsl 1 1 [(.str [])] [(0,1,(.t 63))]⟩,
  ⟨none,(some 65),.app 1 16 (.t 61) (.t 64)⟩,
  ⟨none,(some 66),.fld 3 (.t 13)⟩,
  ⟨none,none,.store 1 (.t 66) (.t 65)⟩])))
 (.region false [⟨none,(some 67),.bin .add (.t 56) (.k (.int .i64 1))⟩,
  ⟨none,(some 56),.mov (.t 67)⟩]))))
def ziyy (x7 x10 x13 x43 x44 x45 x54 x55 x56:DV) (h:List AObj):St:=⟨js 7++[x7,.junk,.junk,x10,.junk,.junk,x13]++js 29++[x43,x44,x45]++js 8++[x54,x55,x56]++js 20,h⟩
def zbj2:ACode :=
 (.seq (.region false [⟨none,(some 46),.bin .lss (.t 45) (.t 44)⟩])
 (.seq (.cond (.t 46) .skip
 (.exit 2))
 (.seq (.block 3 (.seq (.region false [⟨none,(some 47),.idxS 1 (.t 43) (.t 45)⟩,
  ⟨none,(some 48),.load 1 false (.t 47)⟩,
  ⟨none,(some 12),.mov (.t 48)⟩])
 (.seq (.region false [⟨none,(some 49),.mov (.t 12)⟩,
  ⟨none,(some 50),.idxS 4 (.t 49) (.k (.int .i64 0))⟩,
  ⟨none,(some 51),.fld 1 (.t 50)⟩,
  ⟨none,(some 52),.load 3 true (.t 51)⟩,
  ⟨none,(some 53),.build [(.str []),.nils,.nils,.nils,.nils] [(0,3,(.t 52))]⟩,
  ⟨none,(some 13),.alloc [(.str []),.nils,.nils,.nils,.nils]⟩,
  ⟨none,none,.store 5 (.t 13) (.t 53)⟩])
 (.seq (.seq (.region false [⟨none,(some 54),.mov (.t 12)⟩,
  ⟨none,(some 55),.len (.t 54)⟩,
  ⟨none,(some 56),.mov (.k (.int .i64 0))⟩])
 (.block 4 (.loop ze01)))
 (.region false [⟨none,(some 68),.mov (.t 10)⟩,
  ⟨none,(some 69),.load 5 true (.t 13)⟩,
  ⟨none,(some 70),.bsl 5 1 [(.str []),.nils,.nils,.nils,.nils] [(0,5,(.t 69))]⟩,
  ⟨none,(some 71),.app 5 112 (.t 68) (.t 70)⟩,
  ⟨none,(some 10),.mov (.t 71)⟩])))))
 (.region false [⟨none,(some 72),.bin .add (.t 45) (.k (.int .i64 1))⟩,
  ⟨none,(some 45),.mov (.t 72)⟩]))))
def zzr3 (x7 x10 x43 x44 x45:DV) (h:List AObj):St:=⟨js 7++[x7,.junk,.junk,x10]++js 32++[x43,x44,x45]++js 31,h⟩
def a11:AFn where
 code:=(.seq (.region false [⟨none,(some 2),.box (.t 0)⟩,
  ⟨none,(some 4),.mov (.k .nils)⟩,
  ⟨none,(some 5),.mov (.k .nils)⟩])
 (.seq (.region false [⟨none,(some 6),.mov (.k .nils)⟩])
 (.seq (.region false [⟨none,(some 7),.mov (.k .nils)⟩])
 (.seq (.seq (.region false [⟨none,(some 16),.load 7 true (.t 2)⟩,
  ⟨none,(some 17),.mov (.t 1)⟩,
  ⟨none,(some 18),.call (.k (.fn (.func 47) [] [])) [(.t 16),(.t 17)]⟩,
  ⟨none,(some 19),.call (.k (.fn (.func 46) [] [])) [(.t 18),(.k (.fn (.func 48) [] []))]⟩,
  ⟨none,(some 20),.len (.t 19)⟩,
  ⟨none,(some 21),.mov (.k (.int .i64 0))⟩])
 (.block 0 (.loop zv5f)))
 (.seq (.region false [⟨none,(some 10),.mov (.k .nils)⟩])
 (.seq (.seq (.region false [⟨none,(some 42),.mov (.t 6)⟩,
  ⟨none,(some 43),.call (.k (.fn (.func 46) [] [])) [(.t 42),(.k (.fn (.func 51) [] []))]⟩,
  ⟨none,(some 44),.len (.t 43)⟩,
  ⟨none,(some 45),.mov (.k (.int .i64 0))⟩])
 (.block 2 (.loop zbj2)))
 (.seq (.region false [⟨none,(some 73),.mov (.t 10)⟩,
  ⟨none,(some 74),.call (.k (.fn (.func 52) [] [])) [(.t 73),(.k (.fn (.func 53) [] []))]⟩])
 (.seq (.region false [⟨none,(some 75),.mov (.t 10)⟩,
  ⟨none,(some 76),.mov (.t 7)⟩,
  ⟨none,(some 4),.mov (.t 75)⟩,
  ⟨none,(some 5),.mov (.t 76)⟩])
 .ret))))))))
 ntmps:=77
 res:=[.tmp 4,.tmp 5]
theorem zbwx:zsjc P Tryd.f11=some a11:=by kernel_rfl
def a107:AFn where
 code:=(.seq (.region false [⟨none,(some 2),.box (.t 0)⟩,
  ⟨none,(some 3),.mov (.k (.bool false))⟩])
 (.seq (.region false [⟨none,(some 4),.fld 3 (.t 2)⟩,
  ⟨none,(some 5),.load 1 false (.t 4)⟩,
  ⟨none,(some 6),.len (.t 5)⟩,
  ⟨none,(some 7),.fld 2 (.t 1)⟩,
  ⟨none,(some 8),.load 1 false (.t 7)⟩,
  ⟨none,(some 9),.bin .lss (.t 6) (.t 8)⟩,
  ⟨none,(some 3),.mov (.t 9)⟩])
 .ret))
 ntmps:=10
 res:=[.tmp 3]
theorem z38u:zsjc P Tryd.f107=some a107:=by kernel_rfl
def zmii:ACode :=
 (.seq (.region false [⟨none,(some 9),.bin .lss (.t 8) (.t 7)⟩])
 (.seq (.cond (.t 9) .skip
 (.exit 0))
 (.seq (.block 1 (.seq (.region false [⟨none,(some 10),.mov (.t 8)⟩,
  ⟨none,(some 5),.mov (.t 10)⟩])
 (.seq (.region false [⟨none,(some 11),.mov (.t 1)⟩,
  ⟨none,(some 12),.mov (.t 0)⟩,
  ⟨none,(some 13),.mov (.t 5)⟩,
  ⟨none,(some 14),.idxS 5 (.t 12) (.t 13)⟩,
  ⟨none,(some 15),.load 5 true (.t 14)⟩,
  ⟨none,(some 16),.call (.t 11) [(.t 15)]⟩])
 (.cond (.t 16) (.seq (.region false [⟨none,(some 17),.mov (.t 5)⟩,
  ⟨none,(some 4),.mov (.t 17)⟩])
 .ret)
 .skip))))
 (.region false [⟨none,(some 18),.bin .add (.t 8) (.k (.int .i64 1))⟩,
  ⟨none,(some 8),.mov (.t 18)⟩]))))
def zvwj (x0 x1 x7 x8:DV) (h:List AObj):St:=⟨[x0,x1]++js 5++[x7,x8]++js 10,h⟩
def a153:AFn where
 code:=(.seq (.region false [⟨none,(some 4),.mov (.k (.int .i64 0))⟩])
 (.seq (.seq (.region false [⟨none,(some 6),.mov (.t 0)⟩,
  ⟨none,(some 7),.len (.t 6)⟩,
  ⟨none,(some 8),.mov (.k (.int .i64 0))⟩])
 (.block 0 (.loop zmii)))
 (.seq (.region false [⟨none,(some 4),.mov (.k (.int .i64 (-1)))⟩])
 .ret)))
 ntmps:=19
 res:=[.tmp 4]
theorem zho2:zsjc P Tryd.f153=some a153:=by kernel_rfl
def zodu:ACode :=
 (.seq (.seq (.region false [⟨none,(some 16),.mov (.t 6)⟩,
  ⟨none,(some 17),.mov (.t 0)⟩,
  ⟨none,(some 18),.len (.t 17)⟩,
  ⟨none,(some 19),.bin .lss (.t 16) (.t 18)⟩])
 (.cond (.t 19) .skip
 (.exit 0)))
 (.seq (.block 1 (.seq (.region false [⟨none,(some 22),.mov (.t 0)⟩,
  ⟨none,(some 23),.mov (.t 6)⟩,
  ⟨none,(some 24),.idxS 5 (.t 22) (.t 23)⟩,
  ⟨none,(some 25),.load 5 true (.t 24)⟩,
  ⟨none,(some 7),.alloc [(.str []),.nils,.nils,.nils,.nils]⟩,
  ⟨none,none,.store 5 (.t 7) (.t 25)⟩])
 (.seq (.region false [⟨none,(some 26),.mov (.t 1)⟩,
  ⟨none,(some 27),.load 5 true (.t 7)⟩,
  ⟨none,(some 28),.call (.t 26) [(.t 27)]⟩,
  ⟨none,(some 29),.un .not (.t 28)⟩])
 (.cond (.t 29) (.seq (.region false [⟨none,(some 30),.mov (.t 0)⟩,
  ⟨none,(some 31),.mov (.t 5)⟩,
  ⟨none,(some 32),.load 5 true (.t 7)⟩,
  ⟨none,(some 33),.idxS 5 (.t 30) (.t 31)⟩,
  ⟨none,none,.store 5 (.t 33) (.t 32)⟩])
 (.region false [⟨none,(some 34),.mov (.t 5)⟩,
  ⟨none,(some 35),.bin .add (.t 34) (.k (.int .i64 1))⟩,
  ⟨none,(some 5),.mov (.t 35)⟩]))
 .skip))))
 (.region false [⟨none,(some 20),.mov (.t 6)⟩,
  ⟨none,(some 21),.bin .add (.t 20) (.k (.int .i64 1))⟩,
  ⟨none,(some 6),.mov (.t 21)⟩])))
def z9qr (x0 x1 x5 x6:DV) (h:List AObj):St:=⟨[x0,x1,.junk,.junk,.junk,x5,x6]++js 35,h⟩
def a106:AFn where
 code:=(.seq (.region false [⟨none,(some 4),.mov (.k .nils)⟩])
 (.seq (.region false [⟨none,(some 8),.mov (.t 0)⟩,
  ⟨none,(some 9),.mov (.t 1)⟩,
  ⟨none,(some 10),.call (.k (.fn (.func 153) [] [])) [(.t 8),(.t 9)]⟩,
  ⟨none,(some 5),.mov (.t 10)⟩])
 (.seq (.seq (.region false [⟨none,(some 11),.mov (.t 5)⟩,
  ⟨none,(some 12),.bin .eql (.t 11) (.k (.int .i64 (-1)))⟩])
 (.cond (.t 12) (.seq (.region false [⟨none,(some 13),.mov (.t 0)⟩,
  ⟨none,(some 4),.mov (.t 13)⟩])
 .ret)
 .skip))
 (.seq (.seq (.region false [⟨none,(some 14),.mov (.t 5)⟩,
  ⟨none,(some 15),.bin .add (.t 14) (.k (.int .i64 1))⟩,
  ⟨none,(some 6),.mov (.t 15)⟩])
 (.block 0 (.loop zodu)))
 (.seq (.region false [⟨none,(some 36),.mov (.t 0)⟩,
  ⟨none,(some 37),.mov (.t 5)⟩,
  ⟨none,(some 38),.slcS 5 (.t 36) (some (.t 37)) none none⟩,
  ⟨none,none,.clr 5 [(.str []),.nils,.nils,.nils,.nils] (.t 38)⟩])
 (.seq (.region false [⟨none,(some 39),.mov (.t 0)⟩,
  ⟨none,(some 40),.mov (.t 5)⟩,
  ⟨none,(some 41),.slcS 5 (.t 39) none (some (.t 40)) none⟩,
  ⟨none,(some 4),.mov (.t 41)⟩])
 .ret))))))
 ntmps:=42
 res:=[.tmp 4]
theorem zex6:zsjc P Tryd.f106=some a106:=by kernel_rfl
def a56:AFn where
 code:=(.seq (.region false [⟨none,(some 2),.box (.t 0)⟩,
  ⟨none,(some 4),.alloc [(.str []),.nils,.nils,.nils,.nils]⟩,
  ⟨none,(some 5),.mov (.k (.int .i64 0))⟩])
 (.seq (.region false [⟨none,(some 11),.load 7 true (.t 2)⟩,
  ⟨none,(some 12),.mov (.t 1)⟩,
  ⟨none,(some 13),.call (.k (.fn (.func 11) [] [])) [(.t 11),(.t 12)]⟩,
  ⟨none,(some 10),.mov (.t 13)⟩,
  ⟨none,(some 14),.ext (.t 10) 0⟩,
  ⟨none,(some 15),.ext (.t 10) 1⟩,
  ⟨none,(some 6),.mov (.t 14)⟩,
  ⟨none,(some 7),.mov (.t 15)⟩])
 (.seq (.region false [⟨none,(some 16),.mov (.t 6)⟩,
  ⟨none,(some 17),.mkf (.func 107) [] [(.t 2)]⟩,
  ⟨none,(some 18),.call (.k (.fn (.func 106) [] [])) [(.t 16),(.t 17)]⟩,
  ⟨none,(some 8),.mov (.t 18)⟩])
 (.seq (.block 0 (.seq (.region false [⟨none,(some 20),.fld 2 (.t 2)⟩,
  ⟨none,(some 21),.load 1 false (.t 20)⟩,
  ⟨none,(some 22),.bin .lss (.t 21) (.k (.int .i64 1))⟩,
  ⟨none,(some 23),.mov (.t 22)⟩,
  ⟨(some (23,false)),(some 24),.mov (.t 8)⟩,
  ⟨(some (23,false)),(some 25),.len (.t 24)⟩,
  ⟨(some (23,false)),(some 26),.bin .eql (.t 25) (.k (.int .i64 0))⟩,
  ⟨none,(some 27),.pick (.t 23) (.k (.bool true)) (.t 26)⟩,
  ⟨none,(some 19),.mov (.t 27)⟩])
 (.cond (.t 19) (.seq (.region false [⟨none,(some 28),.build [(.str []),.nils,.nils,.nils,.nils] []⟩,
  ⟨none,none,.store 5 (.t 4) (.t 28)⟩,
  ⟨none,(some 5),.mov (.k (.int .i64 10))⟩])
 .ret)
 (.seq (.region false [⟨none,(some 30),.mov (.t 8)⟩,
  ⟨none,(some 31),.len (.t 30)⟩,
  ⟨none,(some 32),.bin .gtr (.t 31) (.k (.int .i64 1))⟩,
  ⟨none,(some 29),.mov (.t 32)⟩])
 (.cond (.t 29) (.seq (.region false [⟨none,(some 33),.build [(.str []),.nils,.nils,.nils,.nils] []⟩,
  ⟨none,none,.store 5 (.t 4) (.t 33)⟩,
  ⟨none,(some 5),.mov (.k (.int .i64 11))⟩])
 .ret)
 .skip)))))
 (.seq (.region false [⟨none,(some 34),.mov (.t 8)⟩,
  ⟨none,(some 35),.idxS 5 (.t 34) (.k (.int .i64 0))⟩,
  ⟨none,(some 36),.load 5 true (.t 35)⟩,
  ⟨none,(some 9),.alloc [(.str []),.nils,.nils,.nils,.nils]⟩,
  ⟨none,none,.store 5 (.t 9) (.t 36)⟩])
 (.seq (.region false [⟨none,(some 37),.mov (.t 7)⟩,
  ⟨none,(some 38),.fld 4 (.t 9)⟩,
  ⟨none,none,.store 1 (.t 38) (.t 37)⟩])
 (.seq (.region false [⟨none,(some 39),.load 5 true (.t 9)⟩,
  ⟨none,none,.store 5 (.t 4) (.t 39)⟩,
  ⟨none,(some 5),.mov (.k (.int .i64 0))⟩])
 .ret)))))))
 ntmps:=40
 res:=[.cell 4 5 true,.tmp 5]
theorem zcwb:zsjc P Tryd.f56=some a56:=by kernel_rfl
end Go.Proofs.YtjknipdiglpnlaaDoor
set_option linter.unusedSimpArgs false
set_option linter.unusedVariables false
namespace Go.Proofs.YtjknipdiglpnlaaDoor
open Go Go.Am
def z9ex:ACode :=
 (.seq (.seq (.region false [⟨none,(some 6),.mov (.t 5)⟩,
  ⟨none,(some 7),.mov (.t 0)⟩,
  ⟨none,(some 8),.len (.t 7)⟩,
  ⟨none,(some 9),.bin .lss (.t 6) (.t 8)⟩])
 (.cond (.t 9) .skip
 (.exit 0)))
 (.seq (.block 1 (.seq (.region false [⟨none,(some 12),.mov (.t 0)⟩,
  ⟨none,(some 13),.mov (.t 5)⟩,
  ⟨none,(some 14),.idxS 1 (.t 12) (.t 13)⟩,
  ⟨none,(some 15),.load 1 false (.t 14)⟩,
  ⟨none,(some 16),.mov (.t 1)⟩,
  ⟨none,(some 17),.bin .eql (.t 15) (.t 16)⟩])
 (.cond (.t 17) (.seq (.region false [⟨none,(some 4),.mov (.k (.bool true))⟩])
 .ret)
 .skip)))
 (.region false [⟨none,(some 10),.mov (.t 5)⟩,
  ⟨none,(some 11),.bin .add (.t 10) (.k (.int .i64 1))⟩,
  ⟨none,(some 5),.mov (.t 11)⟩])))
def z6m2 (x0 x1 x5:DV) (h:List AObj):St:=⟨[x0,x1,.junk,.junk,.junk,x5]++js 12,h⟩
def a12:AFn where
 code:=(.seq (.region false [⟨none,(some 4),.mov (.k (.bool false))⟩])
 (.seq (.seq (.region false [⟨none,(some 5),.mov (.k (.int .i64 0))⟩])
 (.block 0 (.loop z9ex)))
 (.seq (.region false [⟨none,(some 4),.mov (.k (.bool false))⟩])
 .ret)))
 ntmps:=18
 res:=[.tmp 4]
theorem zqkh:zsjc P Tryd.f12=some a12:=by kernel_rfl
def zywk:ACode :=
 (.seq (.seq (.region false [⟨none,(some 9),.mov (.t 4)⟩,
  ⟨none,(some 10),.mov (.t 3)⟩,
  ⟨none,(some 11),.len (.t 10)⟩,
  ⟨none,(some 12),.bin .lss (.t 9) (.t 11)⟩])
 (.cond (.t 12) .skip
 (.exit 0)))
 (.seq (.block 1 (.seq (.region false [⟨none,(some 15),.mov (.t 3)⟩,
  ⟨none,(some 16),.mov (.t 4)⟩,
  ⟨none,(some 17),.idxS 1 (.t 15) (.t 16)⟩,
  ⟨none,(some 18),.load 1 false (.t 17)⟩,
  ⟨none,(some 19),.call (.k (.fn (.func 58) [] [])) [(.t 18)]⟩,
  ⟨none,(some 20),.un .not (.t 19)⟩])
 (.cond (.t 20) (.seq (.region false [⟨none,(some 2),.mov (.k (.bool false))⟩])
 .ret)
 .skip)))
 (.region false [⟨none,(some 13),.mov (.t 4)⟩,
  ⟨none,(some 14),.bin .add (.t 13) (.k (.int .i64 1))⟩,
  ⟨none,(some 4),.mov (.t 14)⟩])))
def a15:AFn where
 code:=(.seq (.region false [⟨none,(some 2),.mov (.k (.bool false))⟩])
 (.seq (.seq (.region false [⟨none,(some 5),.mov (.t 0)⟩,
  ⟨none,(some 6),.bin .eql (.t 5) (.k (.str []))⟩])
 (.cond (.t 6) (.seq (.region false [⟨none,(some 2),.mov (.k (.bool true))⟩])
 .ret)
 .skip))
 (.seq (.region false [⟨none,(some 7),.mov (.t 0)⟩,
  ⟨none,(some 8),.call (.k (.fn (.func 57) [] [])) [(.t 7),(.k (.str [47]))]⟩,
  ⟨none,(some 3),.mov (.t 8)⟩])
 (.seq (.seq (.region false [⟨none,(some 4),.mov (.k (.int .i64 0))⟩])
 (.block 0 (.loop zywk)))
 (.seq (.region false [⟨none,(some 21),.mov (.t 3)⟩,
  ⟨none,(some 22),.len (.t 21)⟩,
  ⟨none,(some 23),.bin .leq (.t 22) (.k (.int .i64 4))⟩,
  ⟨none,(some 2),.mov (.t 23)⟩])
 .ret)))))
 ntmps:=24
 res:=[.tmp 2]
theorem zz37:zsjc P Tryd.f15=some a15:=by kernel_rfl
end Go.Proofs.YtjknipdiglpnlaaDoor
set_option linter.unusedSimpArgs false
set_option linter.unusedVariables false
namespace Go.Proofs.YtjknipdiglpnlaaDoor
open Go Go.Am
def z91y:ACode :=
 (.seq (.seq (.region false [⟨none,(some 7),.mov (.t 4)⟩,
  ⟨none,(some 8),.bin .gtr (.t 7) (.k (.int .i64 0))⟩])
 (.cond (.t 8) .skip
 (.exit 0)))
 (.seq (.block 1 (.region false [⟨none,(some 11),.mov (.t 3)⟩,
  ⟨none,(some 12),.mov (.t 0)⟩,
  ⟨none,(some 13),.bsl 1 5 [(.str [])] [(0,1,(.k (.str [97]))),(1,1,(.k (.str [98]))),(2,1,(.k (.str [115,114,99]))),(3,1,(.k (.str [111,117,116]))),(4,1,(.k (.str [108,105,98])))]⟩,
  ⟨none,(some 14),.call (.k (.fn (.func 23) [] [])) [(.t 12),(.t 13)]⟩,
  ⟨none,(some 15),.bin .add (.t 11) (.t 14)⟩,
  ⟨none,(some 16),.bin .add (.t 15) (.k (.str [47]))⟩,
  ⟨none,(some 3),.mov (.t 16)⟩]))
 (.region false [⟨none,(some 9),.mov (.t 4)⟩,
  ⟨none,(some 10),.bin .sub (.t 9) (.k (.int .i64 1))⟩,
  ⟨none,(some 4),.mov (.t 10)⟩])))
def zhqq (x0 x3 x4:DV) (h:List AObj):St:=⟨[x0,.junk,.junk,x3,x4]++js 17,h⟩
def a112:AFn where
 code:=(.seq (.region false [⟨none,(some 2),.mov (.k (.str []))⟩])
 (.seq (.region false [⟨none,(some 3),.mov (.k (.str []))⟩])
 (.seq (.seq (.region false [⟨none,(some 5),.mov (.t 0)⟩,
  ⟨none,(some 6),.call (.k (.fn (.func 37) [] [])) [(.t 5),(.k (.int .i64 3))]⟩,
  ⟨none,(some 4),.mov (.t 6)⟩])
 (.block 0 (.loop z91y)))
 (.seq (.region false [⟨none,(some 17),.mov (.t 3)⟩,
  ⟨none,(some 18),.mov (.t 0)⟩,
  ⟨none,(some 19),.bsl 1 6 [(.str [])] [(0,1,(.k (.str [97]))),(1,1,(.k (.str [98]))),(2,1,(.k (.str [97,46,99]))),(3,1,(.k (.str [98,46,104]))),(4,1,(.k (.str [120]))),(5,1,(.k (.str [111,117,116])))]⟩,
  ⟨none,(some 20),.call (.k (.fn (.func 23) [] [])) [(.t 18),(.t 19)]⟩,
  ⟨none,(some 21),.bin .add (.t 17) (.t 20)⟩,
  ⟨none,(some 2),.mov (.t 21)⟩])
 .ret))))
 ntmps:=22
 res:=[.tmp 2]
theorem z6i5:zsjc P Tryd.f112=some a112:=by kernel_rfl
def zocj:ACode :=
 (.seq (.seq (.region false [⟨none,(some 8),.mov (.t 6)⟩,
  ⟨none,(some 9),.mov (.t 0)⟩,
  ⟨none,(some 10),.len (.t 9)⟩,
  ⟨none,(some 11),.bin .lss (.t 8) (.t 10)⟩])
 (.cond (.t 11) .skip
 (.exit 0)))
 (.seq (.block 1 (.seq (.region true [⟨none,(some 14),.mov (.t 0)⟩,
  ⟨none,(some 15),.mov (.t 6)⟩,
  ⟨none,(some 16),.idxS 33 (.t 14) (.t 15)⟩,
  ⟨none,(some 17),.fld 0 (.t 16)⟩,
  ⟨none,(some 18),.load 1 false (.t 17)⟩,
  ⟨none,(some 19),.fld 0 (.t 3)⟩,
  ⟨none,(some 20),.load 1 false (.t 19)⟩,
  ⟨none,(some 21),.bin .neq (.t 18) (.t 20)⟩])
 (.cond (.t 21) (.region false [⟨none,(some 22),.mov (.t 5)⟩,
  ⟨none,(some 23),.mov (.t 0)⟩,
  ⟨none,(some 24),.mov (.t 6)⟩,
  ⟨none,(some 25),.idxS 33 (.t 23) (.t 24)⟩,
  ⟨none,(some 26),.load 33 true (.t 25)⟩,
  ⟨none,(some 27),.bsl 33 1 [(.str []),(w8 0#8),(w8 0#8),(w8 0#8),(w8 0#8),(w8 0#8),(w8 0#8),(w8 0#8),(w8 0#8),(w8 0#8),(w8 0#8),(w8 0#8),(w8 0#8),(w8 0#8),(w8 0#8),(w8 0#8),(w8 0#8),(w8 0#8),(w8 0#8),(w8 0#8),(w8 0#8),(w8 0#8),(w8 0#8),(w8 0#8),(w8 0#8),(w8 0#8),(w8 0#8),(w8 0#8),(w8 0#8),(w8 0#8),(w8 0#8),(w8 0#8),(w8 0#8)] [(0,33,(.t 26))]⟩,
  ⟨none,(some 28),.app 33 48 (.t 22) (.t 27)⟩,
  ⟨none,(some 5),.mov (.t 28)⟩])
 .skip)))
 (.region false [⟨none,(some 12),.mov (.t 6)⟩,
  ⟨none,(some 13),.bin .add (.t 12) (.k (.int .i64 1))⟩,
  ⟨none,(some 6),.mov (.t 13)⟩])))
def z0bh (x0 x3 x5 x6:DV) (h:List AObj):St:=⟨[x0,.junk,.junk,x3,.junk,x5,x6]++js 64,h⟩
def zrhx:ACode :=
 (.seq (.seq (.region true [⟨none,(some 36),.mov (.t 7)⟩,
  ⟨none,(some 37),.bin .gtr (.t 36) (.k (.int .i64 0))⟩,
  ⟨none,(some 38),.mov (.t 37)⟩,
  ⟨(some (38,true)),(some 39),.mov (.t 5)⟩,
  ⟨(some (38,true)),(some 40),.mov (.t 7)⟩,
  ⟨(some (38,true)),(some 41),.idxS 33 (.t 39) (.t 40)⟩,
  ⟨(some (38,true)),(some 42),.fld 0 (.t 41)⟩,
  ⟨(some (38,true)),(some 43),.load 1 false (.t 42)⟩,
  ⟨(some (38,true)),(some 44),.mov (.t 5)⟩,
  ⟨(some (38,true)),(some 45),.mov (.t 7)⟩,
  ⟨(some (38,true)),(some 46),.bin .sub (.t 45) (.k (.int .i64 1))⟩,
  ⟨(some (38,true)),(some 47),.idxS 33 (.t 44) (.t 46)⟩,
  ⟨(some (38,true)),(some 48),.fld 0 (.t 47)⟩,
  ⟨(some (38,true)),(some 49),.load 1 false (.t 48)⟩,
  ⟨(some (38,true)),(some 50),.bin .lss (.t 43) (.t 49)⟩,
  ⟨none,(some 51),.pick (.t 38) (.t 50) (.k (.bool false))⟩])
 (.cond (.t 51) .skip
 (.exit 2)))
 (.seq (.block 3 (.region true [⟨none,(some 54),.mov (.t 5)⟩,
  ⟨none,(some 55),.mov (.t 7)⟩,
  ⟨none,(some 56),.mov (.t 5)⟩,
  ⟨none,(some 57),.mov (.t 7)⟩,
  ⟨none,(some 58),.bin .sub (.t 57) (.k (.int .i64 1))⟩,
  ⟨none,(some 59),.mov (.t 5)⟩,
  ⟨none,(some 60),.mov (.t 7)⟩,
  ⟨none,(some 61),.bin .sub (.t 60) (.k (.int .i64 1))⟩,
  ⟨none,(some 62),.idxS 33 (.t 59) (.t 61)⟩,
  ⟨none,(some 63),.load 33 true (.t 62)⟩,
  ⟨none,(some 64),.mov (.t 5)⟩,
  ⟨none,(some 65),.mov (.t 7)⟩,
  ⟨none,(some 66),.idxS 33 (.t 64) (.t 65)⟩,
  ⟨none,(some 67),.load 33 true (.t 66)⟩,
  ⟨none,(some 68),.idxS 33 (.t 54) (.t 55)⟩,
  ⟨none,none,.store 33 (.t 68) (.t 63)⟩,
  ⟨none,(some 69),.idxS 33 (.t 56) (.t 58)⟩,
  ⟨none,none,.store 33 (.t 69) (.t 67)⟩]))
 (.region false [⟨none,(some 52),.mov (.t 7)⟩,
  ⟨none,(some 53),.bin .sub (.t 52) (.k (.int .i64 1))⟩,
  ⟨none,(some 7),.mov (.t 53)⟩])))
def zpv9 (x5 x7:DV) (h:List AObj):St:=⟨js 5++[x5,.junk,x7]++js 63,h⟩
def a111:AFn where
 code:=(.seq (.region false [⟨none,(some 3),.box (.t 1)⟩,
  ⟨none,(some 4),.mov (.k .nils)⟩])
 (.seq (.region false [⟨none,(some 5),.mov (.k .nils)⟩])
 (.seq (.seq (.region false [⟨none,(some 6),.mov (.k (.int .i64 0))⟩])
 (.block 0 (.loop zocj)))
 (.seq (.region false [⟨none,(some 29),.mov (.t 5)⟩,
  ⟨none,(some 30),.load 33 true (.t 3)⟩,
  ⟨none,(some 31),.bsl 33 1 [(.str []),(w8 0#8),(w8 0#8),(w8 0#8),(w8 0#8),(w8 0#8),(w8 0#8),(w8 0#8),(w8 0#8),(w8 0#8),(w8 0#8),(w8 0#8),(w8 0#8),(w8 0#8),(w8 0#8),(w8 0#8),(w8 0#8),(w8 0#8),(w8 0#8),(w8 0#8),(w8 0#8),(w8 0#8),(w8 0#8),(w8 0#8),(w8 0#8),(w8 0#8),(w8 0#8),(w8 0#8),(w8 0#8),(w8 0#8),(w8 0#8),(w8 0#8),(w8 0#8)] [(0,33,(.t 30))]⟩,
  ⟨none,(some 32),.app 33 48 (.t 29) (.t 31)⟩,
  ⟨none,(some 5),.mov (.t 32)⟩])
 (.seq (.seq (.region false [⟨none,(some 33),.mov (.t 5)⟩,
  ⟨none,(some 34),.len (.t 33)⟩,
  ⟨none,(some 35),.bin .sub (.t 34) (.k (.int .i64 1))⟩,
  ⟨none,(some 7),.mov (.t 35)⟩])
 (.block 2 (.loop zrhx)))
 (.seq (.region false [⟨none,(some 70),.mov (.t 5)⟩,
  ⟨none,(some 4),.mov (.t 70)⟩])
 .ret))))))
 ntmps:=71
 res:=[.tmp 4]
theorem zmlq:zsjc P Tryd.f111=some a111:=by kernel_rfl
def a110:AFn where
 code:=(.seq (.region false [⟨none,(some 4),.mov (.k .nils)⟩])
 (.seq (.region true [⟨none,(some 5),.bsl 33 0 [(.str []),(w8 0#8),(w8 0#8),(w8 0#8),(w8 0#8),(w8 0#8),(w8 0#8),(w8 0#8),(w8 0#8),(w8 0#8),(w8 0#8),(w8 0#8),(w8 0#8),(w8 0#8),(w8 0#8),(w8 0#8),(w8 0#8),(w8 0#8),(w8 0#8),(w8 0#8),(w8 0#8),(w8 0#8),(w8 0#8),(w8 0#8),(w8 0#8),(w8 0#8),(w8 0#8),(w8 0#8),(w8 0#8),(w8 0#8),(w8 0#8),(w8 0#8),(w8 0#8)] []⟩,
  ⟨none,(some 6),.mov (.t 0)⟩,
  ⟨none,(some 7),.mov (.t 1)⟩,
  ⟨none,(some 8),.slcS 33 (.t 6) none (some (.t 7)) none⟩,
  ⟨none,(some 9),.app 33 48 (.t 5) (.t 8)⟩,
  ⟨none,(some 10),.mov (.t 0)⟩,
  ⟨none,(some 11),.mov (.t 1)⟩,
  ⟨none,(some 12),.bin .add (.t 11) (.k (.int .i64 1))⟩,
  ⟨none,(some 13),.slcS 33 (.t 10) (some (.t 12)) none none⟩,
  ⟨none,(some 14),.app 33 48 (.t 9) (.t 13)⟩,
  ⟨none,(some 4),.mov (.t 14)⟩,
  ⟨none,none,.apart (.t 10) (.t 9)⟩])
 .ret))
 ntmps:=15
 res:=[.tmp 4]
theorem z7w3:zsjc P Tryd.f110=some a110:=by kernel_rfl
def zee7:ACode :=
 (.seq (.seq (.region false [⟨none,(some 11),.mov (.t 6)⟩,
  ⟨none,(some 12),.bin .gtr (.t 11) (.k (.int .i64 0))⟩])
 (.cond (.t 12) .skip
 (.exit 0)))
 (.seq (.block 1 (.region false [⟨none,(some 15),.mov (.t 5)⟩,
  ⟨none,(some 16),.mov (.t 0)⟩,
  ⟨none,(some 17),.call (.k (.fn (.func 112) [] [])) [(.t 16)]⟩,
  ⟨none,(some 18),.mov (.t 0)⟩,
  ⟨none,(some 19),.call (.k (.fn (.func 113) [] [])) [(.t 18)]⟩,
  ⟨none,(some 20),.build [(.str []),(w8 0#8),(w8 0#8),(w8 0#8),(w8 0#8),(w8 0#8),(w8 0#8),(w8 0#8),(w8 0#8),(w8 0#8),(w8 0#8),(w8 0#8),(w8 0#8),(w8 0#8),(w8 0#8),(w8 0#8),(w8 0#8),(w8 0#8),(w8 0#8),(w8 0#8),(w8 0#8),(w8 0#8),(w8 0#8),(w8 0#8),(w8 0#8),(w8 0#8),(w8 0#8),(w8 0#8),(w8 0#8),(w8 0#8),(w8 0#8),(w8 0#8),(w8 0#8)] [(0,1,(.t 17)),(1,32,(.t 19))]⟩,
  ⟨none,(some 21),.call (.k (.fn (.func 111) [] [])) [(.t 15),(.t 20)]⟩,
  ⟨none,(some 5),.mov (.t 21)⟩]))
 (.region false [⟨none,(some 13),.mov (.t 6)⟩,
  ⟨none,(some 14),.bin .sub (.t 13) (.k (.int .i64 1))⟩,
  ⟨none,(some 6),.mov (.t 14)⟩])))
def z6cw (x0 x5 x6:DV) (h:List AObj):St:=⟨[x0]++js 4++[x5,x6]++js 16,h⟩
def a109:AFn where
 code:=(.seq (.region false [⟨none,(some 4),.mov (.k .nils)⟩])
 (.seq (.region false [⟨none,(some 5),.mov (.k .nils)⟩])
 (.seq (.seq (.region false [⟨none,(some 7),.mov (.t 0)⟩,
  ⟨none,(some 8),.mov (.t 1)⟩,
  ⟨none,(some 9),.bin .add (.t 8) (.k (.int .i64 1))⟩,
  ⟨none,(some 10),.call (.k (.fn (.func 37) [] [])) [(.t 7),(.t 9)]⟩,
  ⟨none,(some 6),.mov (.t 10)⟩])
 (.block 0 (.loop zee7)))
 (.seq (.region false [⟨none,(some 22),.mov (.t 5)⟩,
  ⟨none,(some 4),.mov (.t 22)⟩])
 .ret))))
 ntmps:=23
 res:=[.tmp 4]
theorem zoj0:zsjc P Tryd.f109=some a109:=by kernel_rfl
def zm5a:ACode :=
 (.seq (.seq (.region false [⟨none,(some 8),.mov (.t 5)⟩,
  ⟨none,(some 9),.bin .gtr (.t 8) (.k (.int .i64 0))⟩])
 (.cond (.t 9) .skip
 (.exit 0)))
 (.seq (.block 1 (.seq (.region false [⟨none,(some 12),.mov (.t 0)⟩,
  ⟨none,(some 13),.call (.k (.fn (.func 37) [] [])) [(.t 12),(.k (.int .i64 3))]⟩,
  ⟨none,(some 14),.bin .eql (.t 13) (.k (.int .i64 0))⟩,
  ⟨none,(some 15),.mov (.t 14)⟩,
  ⟨(some (15,true)),(some 16),.mov (.t 1)⟩,
  ⟨(some (15,true)),(some 17),.len (.t 16)⟩,
  ⟨(some (15,true)),(some 18),.bin .gtr (.t 17) (.k (.int .i64 0))⟩,
  ⟨none,(some 19),.pick (.t 15) (.t 18) (.k (.bool false))⟩])
 (.cond (.t 19) (.region false [⟨none,(some 20),.mov (.t 1)⟩,
  ⟨none,(some 21),.mov (.t 0)⟩,
  ⟨none,(some 22),.mov (.t 1)⟩,
  ⟨none,(some 23),.len (.t 22)⟩,
  ⟨none,(some 24),.call (.k (.fn (.func 37) [] [])) [(.t 21),(.t 23)]⟩,
  ⟨none,(some 25),.call (.k (.fn (.func 110) [] [])) [(.t 20),(.t 24)]⟩,
  ⟨none,(some 1),.mov (.t 25)⟩])
 (.region false [⟨none,(some 26),.mov (.t 1)⟩,
  ⟨none,(some 27),.mov (.t 0)⟩,
  ⟨none,(some 28),.call (.k (.fn (.func 112) [] [])) [(.t 27)]⟩,
  ⟨none,(some 29),.mov (.t 0)⟩,
  ⟨none,(some 30),.call (.k (.fn (.func 113) [] [])) [(.t 29)]⟩,
  ⟨none,(some 31),.build [(.str []),(w8 0#8),(w8 0#8),(w8 0#8),(w8 0#8),(w8 0#8),(w8 0#8),(w8 0#8),(w8 0#8),(w8 0#8),(w8 0#8),(w8 0#8),(w8 0#8),(w8 0#8),(w8 0#8),(w8 0#8),(w8 0#8),(w8 0#8),(w8 0#8),(w8 0#8),(w8 0#8),(w8 0#8),(w8 0#8),(w8 0#8),(w8 0#8),(w8 0#8),(w8 0#8),(w8 0#8),(w8 0#8),(w8 0#8),(w8 0#8),(w8 0#8),(w8 0#8)] [(0,1,(.t 28)),(1,32,(.t 30))]⟩,
  ⟨none,(some 32),.call (.k (.fn (.func 111) [] [])) [(.t 26),(.t 31)]⟩,
  ⟨none,(some 1),.mov (.t 32)⟩]))))
 (.region false [⟨none,(some 10),.mov (.t 5)⟩,
  ⟨none,(some 11),.bin .sub (.t 10) (.k (.int .i64 1))⟩,
  ⟨none,(some 5),.mov (.t 11)⟩])))
def zw1i (x0 x1 x5:DV) (h:List AObj):St:=⟨[x0,x1,.junk,.junk,.junk,x5]++js 28,h⟩
def a60:AFn where
 code:=(.seq (.region false [⟨none,(some 4),.mov (.k .nils)⟩])
 (.seq (.seq (.region false [⟨none,(some 6),.mov (.t 0)⟩,
  ⟨none,(some 7),.call (.k (.fn (.func 37) [] [])) [(.t 6),(.k (.int .i64 4))]⟩,
  ⟨none,(some 5),.mov (.t 7)⟩])
 (.block 0 (.loop zm5a)))
 (.seq (.region false [⟨none,(some 33),.mov (.t 1)⟩,
  ⟨none,(some 4),.mov (.t 33)⟩])
 .ret)))
 ntmps:=34
 res:=[.tmp 4]
theorem z6e9:zsjc P Tryd.f60=some a60:=by kernel_rfl
def a59:AFn where
 code:=(.seq (.region false [⟨none,(some 4),.alloc [(.str []),.nils,.nils]⟩])
 (.seq (.region false [⟨none,(some 6),.mov (.t 0)⟩,
  ⟨none,(some 7),.call (.k (.fn (.func 109) [] [])) [(.t 6),(.k (.int .i64 5))]⟩,
  ⟨none,(some 5),.mov (.t 7)⟩])
 (.seq (.region false [⟨none,(some 8),.mov (.t 1)⟩,
  ⟨none,(some 9),.mov (.t 5)⟩,
  ⟨none,(some 10),.mov (.t 0)⟩,
  ⟨none,(some 11),.mov (.t 5)⟩,
  ⟨none,(some 12),.call (.k (.fn (.func 60) [] [])) [(.t 10),(.t 11)]⟩,
  ⟨none,(some 13),.build [(.str []),.nils,.nils] [(0,1,(.t 8)),(1,1,(.t 9)),(2,1,(.t 12))]⟩,
  ⟨none,none,.store 3 (.t 4) (.t 13)⟩])
 .ret)))
 ntmps:=14
 res:=[.cell 4 3 true]
theorem zwsz:zsjc P Tryd.f59=some a59:=by kernel_rfl
def a44:AFn where
 code:=(.seq (.region false [⟨none,(some 0),.mov (.k .nils)⟩])
 (.seq (.region false [⟨none,(some 1),.bsl 1 4 [(.str [])] [(0,1,(.k (.str [97,110,110]))),(1,1,(.k (.str [98,111,98]))),(2,1,(.k (.str [99,97,116]))),(3,1,(.k (.str [100,97,110])))]⟩,
  ⟨none,(some 0),.mov (.t 1)⟩])
 .ret))
 ntmps:=2
 res:=[.tmp 0]
theorem zeo7:zsjc P Tryd.f44=some a44:=by kernel_rfl
def a45:AFn where
 code:=(.seq (.region false [⟨none,(some 2),.mov (.k .nils)⟩])
 (.seq (.region false [⟨none,(some 5),.mov (.t 0)⟩,
  ⟨none,(some 6),.call (.k (.fn (.func 59) [] [])) [(.t 5),(.k (.str [98,117,105,108,100]))]⟩,
  ⟨none,(some 3),.alloc [(.str []),.nils,.nils]⟩,
  ⟨none,none,.store 3 (.t 3) (.t 6)⟩])
 (.seq (.region false [⟨none,(some 7),.load 3 true (.t 3)⟩,
  ⟨none,(some 4),.alloc [(.str []),.nils,.nils]⟩,
  ⟨none,none,.store 3 (.t 4) (.t 7)⟩])
 (.seq (.region false [⟨none,(some 8),.mov (.t 0)⟩,
  ⟨none,(some 9),.fld 2 (.t 3)⟩,
  ⟨none,(some 10),.load 1 false (.t 9)⟩,
  ⟨none,(some 11),.call (.k (.fn (.func 60) [] [])) [(.t 8),(.t 10)]⟩,
  ⟨none,(some 12),.fld 2 (.t 4)⟩,
  ⟨none,none,.store 1 (.t 12) (.t 11)⟩])
 (.seq (.region false [⟨none,(some 13),.load 3 true (.t 3)⟩,
  ⟨none,(some 14),.load 3 true (.t 4)⟩,
  ⟨none,(some 15),.load 3 true (.t 3)⟩,
  ⟨none,(some 16),.bsl 3 3 [(.str []),.nils,.nils] [(0,3,(.t 13)),(3,3,(.t 14)),(6,3,(.t 15))]⟩,
  ⟨none,(some 2),.mov (.t 16)⟩])
 .ret)))))
 ntmps:=17
 res:=[.tmp 2]
theorem z94d:zsjc P Tryd.f45=some a45:=by kernel_rfl
def z382:ACode :=
 (.seq (.seq (.region false [⟨none,(some 31),.mov (.t 8)⟩,
  ⟨none,(some 32),.bin .gtr (.t 31) (.k (.int .i64 0))⟩])
 (.cond (.t 32) .skip
 (.exit 0)))
 (.seq (.block 1 (.seq (.region false [⟨none,(some 35),.mov (.t 6)⟩,
  ⟨none,(some 36),.mov (.t 4)⟩,
  ⟨none,(some 37),.call (.k (.fn (.func 37) [] [])) [(.t 36),(.k (.int .i64 3))]⟩,
  ⟨none,(some 38),.idxS 3 (.t 35) (.t 37)⟩,
  ⟨none,(some 39),.load 3 true (.t 38)⟩,
  ⟨none,(some 9),.alloc [(.str []),.nils,.nils]⟩,
  ⟨none,none,.store 3 (.t 9) (.t 39)⟩])
 (.seq (.region true [⟨none,(some 40),.mov (.t 4)⟩,
  ⟨none,(some 41),.bsl 1 4 [(.str [])] [(0,1,(.k (.str [98,117,105,108,100]))),(1,1,(.k (.str [98,117,105,108,100]))),(2,1,(.k (.str [98,117,105,108,100]))),(3,1,(.k (.str [116,101,115,116])))]⟩,
  ⟨none,(some 42),.callT (.k (.fn (.func 23) [] [])) [(.t 40),(.t 41)]⟩,
  ⟨none,(some 43),.mov (.t 4)⟩,
  ⟨none,(some 44),.callT (.k (.fn (.func 37) [] [])) [(.t 43),(.k (.int .i64 5))]⟩,
  ⟨none,(some 45),.fld 1 (.t 9)⟩,
  ⟨none,(some 46),.load 1 false (.t 45)⟩,
  ⟨none,(some 47),.fld 2 (.t 9)⟩,
  ⟨none,(some 48),.load 1 false (.t 47)⟩,
  ⟨none,(some 49),.build [(.str []),(.str []),(.str []),(.int .i64 0),.nils,.nils,.nils,.nils] [(0,1,(.k (.str [114]))),(2,1,(.t 42)),(3,1,(.t 44)),(6,1,(.t 46)),(7,1,(.t 48))]⟩,
  ⟨none,(some 10),.alloc [(.str []),(.str []),(.str []),(.int .i64 0),.nils,.nils,.nils,.nils]⟩,
  ⟨none,none,.store 8 (.t 10) (.t 49)⟩,
  ⟨none,none,.apart (.t 9) (.t 40)⟩,
  ⟨none,none,.apart (.t 45) (.t 40)⟩,
  ⟨none,none,.apart (.t 9) (.t 40)⟩,
  ⟨none,none,.apart (.t 47) (.t 40)⟩,
  ⟨none,none,.apart (.t 9) (.t 43)⟩,
  ⟨none,none,.apart (.t 45) (.t 43)⟩,
  ⟨none,none,.apart (.t 9) (.t 43)⟩,
  ⟨none,none,.apart (.t 47) (.t 43)⟩])
 (.seq (.seq (.region false [⟨none,(some 50),.mov (.t 4)⟩,
  ⟨none,(some 51),.call (.k (.fn (.func 37) [] [])) [(.t 50),(.k (.int .i64 4))]⟩,
  ⟨none,(some 52),.bin .gtr (.t 51) (.k (.int .i64 0))⟩])
 (.cond (.t 52) (.region false [⟨none,(some 53),.bsl 1 1 [(.str [])] [(0,1,(.k (.str [109,97,107,101])))]⟩,
  ⟨none,(some 54),.fld 4 (.t 10)⟩,
  ⟨none,none,.store 1 (.t 54) (.t 53)⟩])
 .skip))
 (.region true [⟨none,(some 55),.mov (.t 7)⟩,
  ⟨none,(some 56),.mov (.t 4)⟩,
  ⟨none,(some 57),.bsl 1 5 [(.str [])] [(0,1,(.k (.str [97,110,110]))),(1,1,(.k (.str [98,111,98]))),(2,1,(.k (.str [99,97,116]))),(3,1,(.k (.str [100,97,110]))),(4,1,(.k (.str [101,118,101])))]⟩,
  ⟨none,(some 58),.callT (.k (.fn (.func 23) [] [])) [(.t 56),(.t 57)]⟩,
  ⟨none,(some 59),.load 8 true (.t 10)⟩,
  ⟨none,(some 60),.build [(.str []),(.str []),(.str []),(.str []),(.int .i64 0),.nils,.nils,.nils,.nils] [(0,1,(.t 58)),(1,8,(.t 59))]⟩,
  ⟨none,(some 61),.bsl 9 1 [(.str []),(.str []),(.str []),(.str []),(.int .i64 0),.nils,.nils,.nils,.nils] [(0,9,(.t 60))]⟩,
  ⟨none,(some 62),.app 9 168 (.t 55) (.t 61)⟩,
  ⟨none,(some 7),.mov (.t 62)⟩,
  ⟨none,none,.apart (.t 10) (.t 56)⟩])))))
 (.region false [⟨none,(some 33),.mov (.t 8)⟩,
  ⟨none,(some 34),.bin .sub (.t 33) (.k (.int .i64 1))⟩,
  ⟨none,(some 8),.mov (.t 34)⟩])))
def z9o7 (x2 x4 x5 x6 x7 x8:DV) (h:List AObj):St:=⟨[.junk,.junk,x2,.junk,x4,x5,x6,x7,x8]++js 56,h⟩
def a10:AFn where
 code:=(.seq (.region false [⟨none,(some 2),.alloc [(.str []),(.bool false),(.int .i64 0),.nils,.nils,.nils,.nils]⟩,
  ⟨none,(some 3),.mov (.k .nils)⟩])
 (.seq (.region false [⟨none,(some 11),.mov (.t 0)⟩,
  ⟨none,(some 12),.build [.nils,(.int .i64 0)] [(0,1,(.t 11))]⟩,
  ⟨none,(some 13),.box (.t 12)⟩,
  ⟨none,(some 4),.mov (.t 13)⟩])
 (.seq (.region false [⟨none,(some 14),.mov (.t 4)⟩,
  ⟨none,(some 15),.call (.k (.fn (.func 37) [] [])) [(.t 14),(.k (.int .i64 3))]⟩,
  ⟨none,(some 16),.bin .add (.k (.int .i64 1)) (.t 15)⟩,
  ⟨none,(some 17),.call (.k (.fn (.func 44) [] [])) []⟩,
  ⟨none,(some 18),.mov (.t 4)⟩,
  ⟨none,(some 19),.call (.k (.fn (.func 37) [] [])) [(.t 18),(.k (.int .i64 2))]⟩,
  ⟨none,(some 20),.slcS 1 (.t 17) (some (.t 19)) none none⟩,
  ⟨none,(some 21),.build [(.str []),(.bool false),(.int .i64 0),.nils,.nils,.nils,.nils] [(0,1,(.k (.str [98,117,105,108,100]))),(2,1,(.t 16)),(3,1,(.t 20))]⟩,
  ⟨none,(some 5),.alloc [(.str []),(.bool false),(.int .i64 0),.nils,.nils,.nils,.nils]⟩,
  ⟨none,none,.store 7 (.t 5) (.t 21)⟩])
 (.seq (.seq (.region false [⟨none,(some 22),.mov (.t 4)⟩,
  ⟨none,(some 23),.call (.k (.fn (.func 37) [] [])) [(.t 22),(.k (.int .i64 3))]⟩,
  ⟨none,(some 24),.bin .eql (.t 23) (.k (.int .i64 0))⟩])
 (.cond (.t 24) (.region false [⟨none,(some 25),.bsl 1 1 [(.str [])] [(0,1,(.k (.str [109,97,107,101])))]⟩,
  ⟨none,(some 26),.fld 4 (.t 5)⟩,
  ⟨none,none,.store 1 (.t 26) (.t 25)⟩])
 .skip))
 (.seq (.region false [⟨none,(some 27),.mov (.t 4)⟩,
  ⟨none,(some 28),.call (.k (.fn (.func 45) [] [])) [(.t 27)]⟩,
  ⟨none,(some 6),.mov (.t 28)⟩])
 (.seq (.region false [⟨none,(some 7),.mov (.k .nils)⟩])
 (.seq (.seq (.region false [⟨none,(some 29),.mov (.t 4)⟩,
  ⟨none,(some 30),.call (.k (.fn (.func 37) [] [])) [(.t 29),(.k (.int .i64 8))]⟩,
  ⟨none,(some 8),.mov (.t 30)⟩])
 (.block 0 (.loop z382)))
 (.seq (.region false [⟨none,(some 63),.load 7 true (.t 5)⟩,
  ⟨none,(some 64),.mov (.t 7)⟩,
  ⟨none,none,.store 7 (.t 2) (.t 63)⟩,
  ⟨none,(some 3),.mov (.t 64)⟩])
 .ret))))))))
 ntmps:=65
 res:=[.cell 2 7 true,.tmp 3]
theorem z1ee:zsjc P Tryd.f10=some a10:=by kernel_rfl
end Go.Proofs.YtjknipdiglpnlaaDoor
set_option linter.unusedSimpArgs false
set_option linter.unusedVariables false
namespace Go.Proofs.YtjknipdiglpnlaaDoor
open Go Go.Am
def a14:AFn where
 code:=(.seq (.region false [⟨none,(some 0),.mov (.k (.bool false))⟩])
 (.seq (.region false [⟨none,(some 4),.bsl 1 1 [(.str [])] [(0,1,(.k (.str [97,110,110])))]⟩,
  ⟨none,(some 5),.build [(.str []),(.bool false),(.int .i64 0),.nils,.nils,.nils,.nils] [(0,1,(.k (.str [98,117,105,108,100]))),(2,1,(.k (.int .i64 1))),(3,1,(.t 4))]⟩,
  ⟨none,(some 1),.alloc [(.str []),(.bool false),(.int .i64 0),.nils,.nils,.nils,.nils]⟩,
  ⟨none,none,.store 7 (.t 1) (.t 5)⟩])
 (.seq (.region false [⟨none,(some 7),.load 7 true (.t 1)⟩,
  ⟨none,(some 8),.build [(.str []),(.str []),(.str []),(.int .i64 0),.nils,.nils,.nils,.nils] [(2,1,(.k (.str [98,117,105,108,100]))),(3,1,(.k (.int .i64 2)))]⟩,
  ⟨none,(some 9),.build [(.str []),(.str []),(.str []),(.str []),(.int .i64 0),.nils,.nils,.nils,.nils] [(0,1,(.k (.str [97,110,110]))),(1,8,(.t 8))]⟩,
  ⟨none,(some 10),.bsl 9 1 [(.str []),(.str []),(.str []),(.str []),(.int .i64 0),.nils,.nils,.nils,.nils] [(0,9,(.t 9))]⟩,
  ⟨none,(some 11),.call (.k (.fn (.func 56) [] [])) [(.t 7),(.t 10)]⟩,
  ⟨none,(some 6),.mov (.t 11)⟩,
  ⟨none,(some 12),.ext (.t 6) 0⟩,
  ⟨none,(some 13),.ext (.t 6) 1⟩,
  ⟨none,(some 2),.alloc [(.str []),.nils,.nils,.nils,.nils]⟩,
  ⟨none,none,.store 5 (.t 2) (.t 12)⟩,
  ⟨none,(some 3),.mov (.t 13)⟩])
 (.seq (.region false [⟨none,(some 14),.mov (.t 3)⟩,
  ⟨none,(some 15),.bin .eql (.t 14) (.k (.int .i64 0))⟩,
  ⟨none,(some 16),.mov (.t 15)⟩,
  ⟨(some (16,true)),(some 17),.fld 0 (.t 2)⟩,
  ⟨(some (16,true)),(some 18),.fld 0 (.t 17)⟩,
  ⟨(some (16,true)),(some 19),.load 1 false (.t 18)⟩,
  ⟨(some (16,true)),(some 20),.bin .eql (.t 19) (.k (.str [98,117,105,108,100]))⟩,
  ⟨none,(some 21),.pick (.t 16) (.t 20) (.k (.bool false))⟩,
  ⟨none,(some 22),.mov (.t 21)⟩,
  ⟨(some (22,true)),(some 23),.fld 3 (.t 2)⟩,
  ⟨(some (22,true)),(some 24),.load 1 false (.t 23)⟩,
  ⟨(some (22,true)),(some 25),.len (.t 24)⟩,
  ⟨(some (22,true)),(some 26),.bin .eql (.t 25) (.k (.int .i64 1))⟩,
  ⟨none,(some 27),.pick (.t 22) (.t 26) (.k (.bool false))⟩,
  ⟨none,(some 0),.mov (.t 27)⟩])
 .ret))))
 ntmps:=28
 res:=[.tmp 0]
theorem zzfl:zsjc P Tryd.f14=some a14:=by kernel_rfl
end Go.Proofs.YtjknipdiglpnlaaDoor
set_option linter.unusedSimpArgs false
set_option linter.unusedVariables false
namespace Go.Proofs.YtjknipdiglpnlaaDoor
open Go Go.Am
def a3L1:ACode :=
 (.seq (.seq (.region false [⟨none,(some 65),.mov (.t 9)⟩,
  ⟨none,(some 66),.mov (.t 5)⟩,
  ⟨none,(some 67),.mov (.t 8)⟩,
  ⟨none,(some 68),.idxS 5 (.t 66) (.t 67)⟩,
  ⟨none,(some 69),.fld 3 (.t 68)⟩,
  ⟨none,(some 70),.load 1 false (.t 69)⟩,
  ⟨none,(some 71),.len (.t 70)⟩,
  ⟨none,(some 72),.bin .lss (.t 65) (.t 71)⟩])
 (.cond (.t 72) .skip
 (.exit 2)))
 (.seq (.block 3 (.seq (.region false [⟨none,(some 75),.mov (.t 5)⟩,
  ⟨none,(some 76),.mov (.t 8)⟩,
  ⟨none,(some 77),.idxS 5 (.t 75) (.t 76)⟩,
  ⟨none,(some 78),.fld 3 (.t 77)⟩,
  ⟨none,(some 79),.load 1 false (.t 78)⟩,
  ⟨none,(some 80),.mov (.t 9)⟩,
  ⟨none,(some 81),.idxS 1 (.t 79) (.t 80)⟩,
  ⟨none,(some 82),.load 1 false (.t 81)⟩,
  ⟨none,(some 10),.mov (.t 82)⟩])
 (.seq (.seq (.region false [⟨none,(some 83),.mov (.t 7)⟩,
  ⟨none,(some 84),.mov (.t 10)⟩,
  ⟨none,(some 85),.call (.k (.fn (.func 12) [] [])) [(.t 83),(.t 84)]⟩,
  ⟨none,(some 86),.mov (.t 85)⟩,
  ⟨(some (86,false)),(some 87),.mov (.t 6)⟩,
  ⟨(some (86,false)),(some 88),.mov (.t 10)⟩,
  ⟨(some (86,false)),(some 89),.call (.k (.fn (.func 12) [] [])) [(.t 87),(.t 88)]⟩,
  ⟨none,(some 90),.pick (.t 86) (.k (.bool true)) (.t 89)⟩,
  ⟨none,(some 91),.mov (.t 90)⟩,
  ⟨(some (91,false)),(some 92),.fld 3 (.t 3)⟩,
  ⟨(some (91,false)),(some 93),.load 1 false (.t 92)⟩,
  ⟨(some (91,false)),(some 94),.mov (.t 10)⟩,
  ⟨(some (91,false)),(some 95),.call (.k (.fn (.func 12) [] [])) [(.t 93),(.t 94)]⟩,
  ⟨(some (91,false)),(some 96),.un .not (.t 95)⟩,
  ⟨none,(some 97),.pick (.t 91) (.k (.bool true)) (.t 96)⟩])
 (.cond (.t 97) (.seq (.region false [⟨none,(some 2),.mov (.k (.bool false))⟩])
 .ret)
 .skip))
 (.region false [⟨none,(some 98),.mov (.t 7)⟩,
  ⟨none,(some 99),.mov (.t 10)⟩,
  ⟨none,(some 100),.bsl 1 1 [(.str [])] [(0,1,(.t 99))]⟩,
  ⟨none,(some 101),.app 1 16 (.t 98) (.t 100)⟩,
  ⟨none,(some 7),.mov (.t 101)⟩]))))
 (.region false [⟨none,(some 73),.mov (.t 9)⟩,
  ⟨none,(some 74),.bin .add (.t 73) (.k (.int .i64 1))⟩,
  ⟨none,(some 9),.mov (.t 74)⟩])))
def a3S1 (x3 x5 x6 x7 x8 x9:DV) (h:List AObj):St:=⟨[.junk,.junk,.junk,x3,.junk,x5,x6,x7,x8,x9]++js 112,h⟩
def a3L2:ACode :=
 (.seq (.seq (.region false [⟨none,(some 102),.mov (.t 11)⟩,
  ⟨none,(some 103),.mov (.t 8)⟩,
  ⟨none,(some 104),.bin .lss (.t 102) (.t 103)⟩])
 (.cond (.t 104) .skip
 (.exit 4)))
 (.seq (.block 5 (.seq (.region true [⟨none,(some 107),.mov (.t 5)⟩,
  ⟨none,(some 108),.mov (.t 8)⟩,
  ⟨none,(some 109),.idxS 5 (.t 107) (.t 108)⟩,
  ⟨none,(some 110),.fld 0 (.t 109)⟩,
  ⟨none,(some 111),.load 3 true (.t 110)⟩,
  ⟨none,(some 112),.mov (.t 5)⟩,
  ⟨none,(some 113),.mov (.t 11)⟩,
  ⟨none,(some 114),.idxS 5 (.t 112) (.t 113)⟩,
  ⟨none,(some 115),.fld 0 (.t 114)⟩,
  ⟨none,(some 116),.load 3 true (.t 115)⟩,
  ⟨none,(some 117),.callN (.k (.fn (.func 13) [] [])) [(.t 111),(.t 116)]⟩])
 (.cond (.t 117) (.seq (.region false [⟨none,(some 2),.mov (.k (.bool false))⟩])
 .ret)
 .skip)))
 (.region false [⟨none,(some 105),.mov (.t 11)⟩,
  ⟨none,(some 106),.bin .add (.t 105) (.k (.int .i64 1))⟩,
  ⟨none,(some 11),.mov (.t 106)⟩])))
def a3S2 (x3 x5 x6 x7 x8 x11:DV) (h:List AObj):St:=⟨[.junk,.junk,.junk,x3,.junk,x5,x6,x7,x8,.junk,.junk,x11]++js 110,h⟩
def a3L0:ACode :=
 (.seq (.seq (.region false [⟨none,(some 23),.mov (.t 8)⟩,
  ⟨none,(some 24),.mov (.t 5)⟩,
  ⟨none,(some 25),.len (.t 24)⟩,
  ⟨none,(some 26),.bin .lss (.t 23) (.t 25)⟩])
 (.cond (.t 26) .skip
 (.exit 0)))
 (.seq (.block 1 (.seq (.seq (.region true [⟨none,(some 29),.mov (.t 5)⟩,
  ⟨none,(some 30),.mov (.t 8)⟩,
  ⟨none,(some 31),.idxS 5 (.t 29) (.t 30)⟩,
  ⟨none,(some 32),.fld 3 (.t 31)⟩,
  ⟨none,(some 33),.load 1 false (.t 32)⟩,
  ⟨none,(some 34),.len (.t 33)⟩,
  ⟨none,(some 35),.bin .eql (.t 34) (.k (.int .i64 0))⟩,
  ⟨none,(some 36),.mov (.t 35)⟩,
  ⟨(some (36,false)),(some 37),.mov (.t 8)⟩,
  ⟨(some (36,false)),(some 38),.bin .gtr (.t 37) (.k (.int .i64 0))⟩,
  ⟨(some (36,false)),(some 39),.mov (.t 38)⟩,
  ⟨(some (39,true)),(some 40),.mov (.t 5)⟩,
  ⟨(some (39,true)),(some 41),.mov (.t 8)⟩,
  ⟨(some (39,true)),(some 42),.idxS 5 (.t 40) (.t 41)⟩,
  ⟨(some (39,true)),(some 43),.fld 3 (.t 42)⟩,
  ⟨(some (39,true)),(some 44),.load 1 false (.t 43)⟩,
  ⟨(some (39,true)),(some 45),.len (.t 44)⟩,
  ⟨(some (39,true)),(some 46),.mov (.t 5)⟩,
  ⟨(some (39,true)),(some 47),.mov (.t 8)⟩,
  ⟨(some (39,true)),(some 48),.bin .sub (.t 47) (.k (.int .i64 1))⟩,
  ⟨(some (39,true)),(some 49),.idxS 5 (.t 46) (.t 48)⟩,
  ⟨(some (39,true)),(some 50),.fld 3 (.t 49)⟩,
  ⟨(some (39,true)),(some 51),.load 1 false (.t 50)⟩,
  ⟨(some (39,true)),(some 52),.len (.t 51)⟩,
  ⟨(some (39,true)),(some 53),.bin .gtr (.t 45) (.t 52)⟩,
  ⟨(some (36,false)),(some 54),.pick (.t 39) (.t 53) (.k (.bool false))⟩,
  ⟨none,(some 55),.pick (.t 36) (.k (.bool true)) (.t 54)⟩,
  ⟨none,(some 56),.mov (.t 55)⟩,
  ⟨(some (56,false)),(some 57),.mov (.t 5)⟩,
  ⟨(some (56,false)),(some 58),.mov (.t 8)⟩,
  ⟨(some (56,false)),(some 59),.idxS 5 (.t 57) (.t 58)⟩,
  ⟨(some (56,false)),(some 60),.fld 0 (.t 59)⟩,
  ⟨(some (56,false)),(some 61),.fld 0 (.t 60)⟩,
  ⟨(some (56,false)),(some 62),.load 1 false (.t 61)⟩,
  ⟨(some (56,false)),(some 63),.bin .neq (.t 62) (.k (.str [98,117,105,108,100]))⟩,
  ⟨none,(some 64),.pick (.t 56) (.k (.bool true)) (.t 63)⟩])
 (.cond (.t 64) (.seq (.region false [⟨none,(some 2),.mov (.k (.bool false))⟩])
 .ret)
 .skip))
 (.seq (.seq (.region false [⟨none,(some 9),.mov (.k (.int .i64 0))⟩])
 (.block 2 (.loop a3L1)))
 (.seq (.region false [⟨none,(some 11),.mov (.k (.int .i64 0))⟩])
 (.block 4 (.loop a3L2))))))
 (.region false [⟨none,(some 27),.mov (.t 8)⟩,
  ⟨none,(some 28),.bin .add (.t 27) (.k (.int .i64 1))⟩,
  ⟨none,(some 8),.mov (.t 28)⟩])))
def a3S0 (x3 x5 x6 x7 x8:DV) (h:List AObj):St:=⟨[.junk,.junk,.junk,x3,.junk,x5,x6,x7,x8]++js 113,h⟩
def a3:AFn where
 code:=(.seq (.region false [⟨none,(some 2),.mov (.k (.bool false))⟩])
 (.seq (.region false [⟨none,(some 13),.mov (.t 0)⟩,
  ⟨none,(some 14),.call (.k (.fn (.func 10) [] [])) [(.t 13)]⟩,
  ⟨none,(some 12),.mov (.t 14)⟩,
  ⟨none,(some 15),.ext (.t 12) 0⟩,
  ⟨none,(some 16),.ext (.t 12) 1⟩,
  ⟨none,(some 3),.alloc [(.str []),(.bool false),(.int .i64 0),.nils,.nils,.nils,.nils]⟩,
  ⟨none,none,.store 7 (.t 3) (.t 15)⟩,
  ⟨none,(some 4),.mov (.t 16)⟩])
 (.seq (.region false [⟨none,(some 18),.load 7 true (.t 3)⟩,
  ⟨none,(some 19),.mov (.t 4)⟩,
  ⟨none,(some 20),.call (.k (.fn (.func 11) [] [])) [(.t 18),(.t 19)]⟩,
  ⟨none,(some 17),.mov (.t 20)⟩,
  ⟨none,(some 21),.ext (.t 17) 0⟩,
  ⟨none,(some 22),.ext (.t 17) 1⟩,
  ⟨none,(some 5),.mov (.t 21)⟩,
  ⟨none,(some 6),.mov (.t 22)⟩])
 (.seq (.region false [⟨none,(some 7),.mov (.k .nils)⟩])
 (.seq (.seq (.region false [⟨none,(some 8),.mov (.k (.int .i64 0))⟩])
 (.block 0 (.loop a3L0)))
 (.seq (.region false [⟨none,(some 118),.call (.k (.fn (.func 14) [] [])) []⟩,
  ⟨none,(some 119),.mov (.t 118)⟩,
  ⟨(some (119,true)),(some 120),.call (.k (.fn (.func 15) [] [])) [(.k (.str []))]⟩,
  ⟨none,(some 121),.pick (.t 119) (.t 120) (.k (.bool false))⟩,
  ⟨none,(some 2),.mov (.t 121)⟩])
 .ret))))))
 ntmps:=122
 res:=[.tmp 2]
theorem z842:zsjc P Tryd.f3=some a3:=by kernel_rfl
end Go.Proofs.YtjknipdiglpnlaaDoor
set_option linter.unusedSimpArgs false
set_option linter.unusedVariables false
namespace Go.Proofs.YtjknipdiglpnlaaDoor
open Go Go.Am
theorem z1ch {α:Type} {f:α→List DV} {s:Nat} (hu : ∀ a,(f a).length=s) (h0:0<s) (hi : ∀ a b,f a=f b→a=b) : ∀ {l l':List α},l.flatMap f=l'.flatMap f→l=l'
 | [],[],_=>rfl
 | [],b::l',e=>by have:=congrArg List.length e; simp [hu] at this; omega
 | a::l,[],e=>by have:=congrArg List.length e; simp [hu] at this; omega
 | a::l,b::l',e=>by
  rw [List.flatMap_cons,List.flatMap_cons] at e
  have:=List.append_inj e (by rw [hu,hu])
  rw [hi _ _ this.1,z1ch hu h0 hi this.2]
theorem zcq7 {α:Type} {f:α→List DV} {s:Nat} (hu : ∀ a,(f a).length=s) (h0:0<s) (hi : ∀ a b,f a=f b→a=b) {x y:Sl α} (e:x.dv s f=y.dv s f):x=y:=by
 obtain ⟨k,l,h,hb⟩:=x
 obtain ⟨k',l',h',hb'⟩:=y
 cases k with
 | none =>
  cases k' with
  | none=>cases h rfl; cases h' rfl; rfl
  | some b=>simp [Sl.dv,slD] at e
 | some b =>
  cases k' with
  | none=>simp [Sl.dv,slD] at e
  | some b' =>
   simp only [Sl.dv,slD,DV.sl.injEq] at e
   obtain ⟨rfl,_,_,e⟩:=e
   cases z1ch hu h0 hi e
   rfl
theorem zsn4 {α:Type} {f:α→List DV} {g:α→DV} (hi : ∀ a b,f a=f b→a=b) (a:α):con (fun _=>True) f g (f a)=some (g a):=zzno (fun a b e=>by rw [hi a b e]) a trivial
abbrev Str:=List UInt8
def stC (s:Str):List DV:=[.str s]
theorem zqv6 (s:Str):(stC s).length=1:=rfl
theorem zds6 (s:Str):zbao (stC s)=true:=rfl
theorem zwaz {a b:Str} (h:stC a=stC b):a=b:=by simpa [stC] using h
structure Fct where
 kind:Int
 own:Str
 rev:Dg
 lay:Str
 run:Str
 at_:Int
 agr:Bool
 tgt:Dg
 docs:Sl Dg
structure Fnd where
 inv:Dg
 comp:Int
 id:Str
 sev:Int
 hd:Sl Dg
 st:Int
 dd:Sl Dg
 con:Bool
structure Cas where
 art:Dg
 at_:Int
 f:Sl Fct
 n:Sl Fnd
 d:Sl Str
structure Org where
 rev:Dg
 lay:Str
 run:Str
 deriving DecidableEq
def orC (o:Org):List DV:=dgC o.rev++[.str o.lay,.str o.run]
structure Req where
 kind:Int
 n:Int
 m:Int
 text:Str
 deriving DecidableEq
def rqC (q:Req):List DV:=[.int .i64 q.kind,.int .i64 q.n,.int .i64 q.m,.str q.text]
structure Sup where
 holds:Bool
 docs:Sl Dg
 missing:Int
theorem zhrh {a b:Org}:z32s (zi5g [(32,0),(2,1)]) (orC a) (orC b)=some (decide (a=b)):=by
 have e:zi5g [(32,0),(2,1)]=zi5g [(32,0)]++[1,1]:=rfl
 rw [e,orC,orC,zid2 (by simp [z1t1,zi5g]) (by simp [z1t1,zi5g]),zyiz]
 obtain ⟨a1,a2,a3⟩:=a
 obtain ⟨b1,b2,b3⟩:=b
 simp [z32s,znnj,Bool.and_assoc,zcn6]
theorem zq6c {a b:Req}:z32s [0,0,0,1] (rqC a) (rqC b)=some (decide (a=b)):=by
 obtain ⟨a1,a2,a3,a4⟩:=a
 obtain ⟨b1,b2,b3,b4⟩:=b
 simp [rqC,z32s,znnj,zcn6,Bool.beq_eq_decide_eq]
attribute [simp] zhrh zq6c
end Go.Proofs.YtjknipdiglpnlaaDoor
set_option linter.unusedSimpArgs false
set_option linter.unusedVariables false
namespace Go.Proofs.YtjknipdiglpnlaaDoor
open Go Go.Am
structure Tot {α:Type} (lt:α→α→Bool):Prop where
 irr : ∀ a,lt a a=false
 tr : ∀ a b c,lt a b=true→lt b c=true→lt a c=true
 tot : ∀ a b,lt a b=true∨a=b∨lt b a=true
set_option linter.unusedSectionVars false
section
variable {α:Type} [DecidableEq α] {lt:α→α→Bool}
def Asc (lt:α→α→Bool) (l:List α):Prop:=l.Pairwise (fun a b=>lt a b=true)
theorem z6q8 (o:Tot lt) {a b:α} {l m:List α} (h1:Asc lt (a::l)) (h2:Asc lt (b::m)) (h : ∀ x,x ∈ a::l↔x ∈ b::m):a=b:=by
 rw [Asc,List.pairwise_cons] at h1 h2
 have ha:=(h a).1 (by simp)
 have hb:=(h b).2 (by simp)
 rcases List.mem_cons.1 ha with e|ha
 ·exact e
 rcases List.mem_cons.1 hb with e|hb
 ·exact e.symm
 have:=o.tr _ _ _ (h1.1 b hb) (h2.1 a ha)
 rw [o.irr] at this; cases this
theorem zjfh (o:Tot lt) : ∀ {l m:List α},Asc lt l→Asc lt m→(∀ x,x ∈ l↔x ∈ m)→l=m
 | [],[],_,_,_=>rfl
 | [],b::m,_,_,h=>by have:=(h b).2 (by simp); simp at this
 | a::l,[],_,_,h=>by have:=(h a).1 (by simp); simp at this
 | a::l,b::m,h1,h2,h=>by
  have e:=z6q8 o h1 h2 h
  subst e
  have k1:=(List.pairwise_cons.1 h1).1
  have k2:=(List.pairwise_cons.1 h2).1
  rw [zjfh o (List.pairwise_cons.1 h1).2 (List.pairwise_cons.1 h2).2 fun x=>⟨fun hx => ?_,fun hx => ?_⟩]
  ·rcases List.mem_cons.1 ((h x).1 (by simp [hx])) with e|h'
   ·have:=k1 x hx; rw [e,o.irr] at this; cases this
   ·exact h'
  ·rcases List.mem_cons.1 ((h x).2 (by simp [hx])) with e|h'
   ·have:=k2 x hx; rw [e,o.irr] at this; cases this
   ·exact h'
def addU (lt:α→α→Bool) (l:List α) (d:α):List α:=if d ∈ l then l else l.takeWhile (fun x=>lt x d)++d::l.dropWhile (fun x=>lt x d)
def z534 (lt:α→α→Bool) (l:List α):List α:=l.foldl (addU lt) []
theorem z53k {l:List α} {d x:α}:x ∈ addU lt l d↔x=d∨x ∈ l:=by
 unfold addU
 split
 ·rename_i h
  exact ⟨.inr,fun q=>q.elim (fun e=>e▸h) id⟩
 ·have:=List.takeWhile_append_dropWhile (p:=fun x=>lt x d) (l:=l)
  constructor
  ·intro hx
   rcases List.mem_append.1 hx with hx|hx
   ·exact .inr (by rw [← this]; exact List.mem_append.2 (.inl hx))
   ·rcases List.mem_cons.1 hx with e|hx
    ·exact .inl e
    ·exact .inr (by rw [← this]; exact List.mem_append.2 (.inr hx))
  ·rintro (e|hx)
   ·rw [e]; exact List.mem_append.2 (.inr (by simp))
   ·rw [← this] at hx
    rcases List.mem_append.1 hx with hx|hx
    ·exact List.mem_append.2 (.inl hx)
    ·exact List.mem_append.2 (.inr (by simp [hx]))
theorem z8pq (o:Tot lt) {d:α} : ∀ {l:List α},Asc lt l→d ∉ l → ∀ x ∈ l.dropWhile (fun x=>lt x d),lt d x=true
 | [],_,_,x,hx=>by simp at hx
 | a::l,h,hn,x,hx=>by
  have h':=List.pairwise_cons.1 h
  rw [List.dropWhile_cons] at hx
  split at hx
  ·exact z8pq o h'.2 (fun q=>hn (by simp [q])) x hx
  ·rename_i q
   have hda:lt d a=true:=by
    rcases o.tot a d with e|e|e
    ·exact absurd e q
    ·exact absurd (by simp [e]) hn
    ·exact e
   rcases List.mem_cons.1 hx with e|hx
   ·rw [e]; exact hda
   ·exact o.tr _ _ _ hda (h'.1 x hx)
theorem zl1w (o:Tot lt) {l:List α} {d:α} (h:Asc lt l):Asc lt (addU lt l d):=by
 unfold addU
 split
 ·exact h
 ·rename_i hn
  have hs:=List.takeWhile_append_dropWhile (p:=fun x=>lt x d) (l:=l)
  have h0:Asc lt (l.takeWhile (fun x=>lt x d)++l.dropWhile (fun x=>lt x d)):=by rw [hs]; exact h
  rw [Asc,List.pairwise_append] at h0 ⊢
  obtain ⟨p1,p2,p3⟩:=h0
  refine ⟨p1,List.pairwise_cons.2 ⟨z8pq o h hn,p2⟩,fun a ha b hb => ?_⟩
  rcases List.mem_cons.1 hb with e|hb
  ·rw [e]; exact zeqt a ha
  ·exact p3 a ha b hb
theorem zyiy (o:Tot lt) : ∀ (m l:List α),Asc lt l→Asc lt (m.foldl (addU lt) l) ∧ ∀ x,x ∈ m.foldl (addU lt) l↔x ∈ m∨x ∈ l
 | [],l,h=>⟨h,fun x=>by simp⟩
 | d::m,l,h=>by
  obtain ⟨h1,h2⟩:=zyiy o m (addU lt l d) (zl1w o h)
  refine ⟨h1,fun x => ?_⟩
  rw [List.foldl_cons,h2,z53k,List.mem_cons]
  constructor
  ·rintro (q|q|q)
   ·exact .inl (.inr q)
   ·exact .inl (.inl q)
   ·exact .inr q
  ·rintro ((q|q)|q)
   ·exact .inr (.inl q)
   ·exact .inl q
   ·exact .inr (.inr q)
theorem zy4b (o:Tot lt) (l:List α):Asc lt (z534 lt l):=(zyiy o l [] List.Pairwise.nil).1
theorem zoav (o:Tot lt) (l:List α) (x:α):x ∈ z534 lt l↔x ∈ l:=by rw [z534,(zyiy o l [] List.Pairwise.nil).2]; simp
theorem zwlf (o:Tot lt) {l m:List α} (h:Asc lt m) (hm : ∀ x,x ∈ m↔x ∈ l):m=z534 lt l:=zjfh o h (zy4b o l) fun x=>by rw [hm,zoav o]
def Wsc (lt:α→α→Bool) (l:List α):Prop:=l.Pairwise (fun a b=>lt b a=false)
theorem zjso (o:Tot lt) {x:α} {l:List α} (h:Wsc lt l):Wsc lt (insR lt x l):=by
 unfold insR
 have hs:(l.reverse.dropWhile (lt x)).reverse++(l.reverse.takeWhile (lt x)).reverse=l:=by
  rw [← List.reverse_append,List.takeWhile_append_dropWhile,List.reverse_reverse]
 have h0:Wsc lt ((l.reverse.dropWhile (lt x)).reverse++(l.reverse.takeWhile (lt x)).reverse):=by rw [hs]; exact h
 rw [Wsc,List.pairwise_append] at h0 ⊢
 obtain ⟨p1,p2,p3⟩:=h0
 have hT : ∀ b ∈ (l.reverse.takeWhile (lt x)).reverse,lt x b=true:=fun b hb=>zeqt b (List.mem_reverse.1 hb)
 have asym : ∀ {a b:α},lt a b=true→lt b a=false:=fun {a b} q=>by
  cases e:lt b a with
  | false=>rfl
  | true=>have:=o.tr _ _ _ q e; rw [o.irr] at this; cases this
 have hD : ∀ b ∈ (l.reverse.dropWhile (lt x)).reverse,lt x b=false:=fun b hb=>by
  rcases zwbv (p:=lt x) (l:=l.reverse) with e|⟨y,r,e,hy⟩
  ·rw [e] at hb; simp at hb
  ·rw [e] at hb p1
   rw [List.reverse_cons] at hb p1
   rcases List.mem_append.1 hb with hb|hb
   ·have hby:=(List.pairwise_append.1 p1).2.2 b hb y (by simp)
    cases q:lt x b with
    | false=>rfl
    | true =>
     rcases o.tot b y with e1|e1|e1
     ·have:=o.tr _ _ _ q e1; rw [hy] at this; cases this
     ·rw [e1,hy] at q; cases q
     ·rw [hby] at e1; cases e1
   ·simp at hb; rw [hb]; exact hy
 refine ⟨p1,List.pairwise_cons.2 ⟨fun b hb=>asym (hT b hb),p2⟩,fun a ha b hb => ?_⟩
 rcases List.mem_cons.1 hb with e|hb
 ·rw [e]; exact hD a ha
 ·exact p3 a ha b hb
theorem zsyr (o:Tot lt) (l:List α):Wsc lt (zq4g lt l):=by
 induction l using z77f with
 | h0=>exact List.Pairwise.nil
 | h1 l x ih=>rw [zuk7]; exact zjso o ih
end
theorem zrk4 : ∀ a:Str,Op.bytesLess a a=false
 | []=>rfl
 | a::l=>by simp [Op.bytesLess,zrk4 l]
theorem z8c3 : ∀ a b c:Str,Op.bytesLess a b=true→Op.bytesLess b c=true→Op.bytesLess a c=true
 | _,_,[],_,h=>by simp [Op.bytesLess] at h
 | [],_,_::_,_,_=>rfl
 | _::_,[],_::_,h,_=>by simp [Op.bytesLess] at h
 | a::x,b::y,c::z,h1,h2=>by
  simp only [Op.bytesLess,Bool.or_eq_true,Bool.and_eq_true,decide_eq_true_eq,beq_iff_eq] at *
  rcases h1 with h1|⟨h1,h1'⟩
  ·rcases h2 with h2|⟨h2,h2'⟩
   ·exact .inl (UInt8.lt_trans h1 h2)
   ·exact .inl (h2▸h1)
  ·rcases h2 with h2|⟨h2,h2'⟩
   ·exact .inl (h1▸h2)
   ·exact .inr ⟨h1.trans h2,z8c3 _ _ _ h1' h2'⟩
theorem zoet : ∀ a b:Str,Op.bytesLess a b=true∨a=b∨Op.bytesLess b a=true
 | [],[] => .inr (.inl rfl)
 | [],_::_ => .inl rfl
 | _::_,[] => .inr (.inr rfl)
 | a::x,b::y=>by
  simp only [Op.bytesLess,Bool.or_eq_true,Bool.and_eq_true,decide_eq_true_eq,beq_iff_eq]
  rcases UInt8.lt_or_lt_of_ne (a:=a) (b:=b) |> fun h=>(Classical.em (a=b)).imp_right h with e|e|e
  ·rcases zoet x y with q|q|q
   ·exact .inl (.inr ⟨e,q⟩)
   ·exact .inr (.inl (by rw [e,q]))
   ·exact .inr (.inr (.inr ⟨e.symm,q⟩))
  ·exact .inl (.inl e)
  ·exact .inr (.inr (.inl e))
theorem z3gj:Tot Op.bytesLess:=⟨zrk4,z8c3,zoet⟩
end Go.Proofs.YtjknipdiglpnlaaDoor
set_option linter.unusedSimpArgs false
set_option linter.unusedVariables false
namespace Go.Proofs.YtjknipdiglpnlaaDoor
open Go Go.Am
set_option linter.unusedSectionVars false
section
variable {β κ:Type} [DecidableEq κ]
def addG (s:β→β→Bool):List (List β)→β→List (List β)
 | [],x=>[[x]]
 | g::r,x=>if (match g with|[]=>false|y::_=>s y x) then (g++[x])::r else g::addG s r x
def grpG (s:β→β→Bool) (l:List β):List (List β):=l.foldl (addG s) []
def ddp (l:List κ):List κ:=l.foldl (fun out x=>if x ∈ out then out else out++[x]) []
theorem zd8q {s:β→β→Bool} {l:List β} {x:β}:grpG s (l++[x])=addG s (grpG s l) x:=by simp [grpG]
theorem zcej {l:List κ} {x:κ}:ddp (l++[x])=if x ∈ ddp l then ddp l else ddp l++[x]:=by unfold ddp; rw [List.foldl_append]; rfl
theorem zdl2 (l:List κ) : ∀ x:κ,x ∈ ddp l↔x ∈ l:=by
 induction l using z77f with
 | h0=>intro x; simp [ddp]
 | h1 l y ih =>
  intro x
  rw [zcej]
  split
  ·rename_i h
   rw [List.mem_append,List.mem_singleton,ih]
   exact ⟨.inl,fun q=>q.elim id fun e=>e▸(ih y).1 h⟩
  ·rw [List.mem_append,List.mem_append,ih]
theorem z53o {l:List κ} {x:κ}:x ∈ ddp l↔x ∈ l:=zdl2 l x
theorem zeer (l:List κ):(ddp l).Nodup:=by
 induction l using z77f with
 | h0=>simp [ddp]
 | h1 l y ih =>
  rw [zcej]
  split
  ·exact ih
  ·rename_i h
   rw [List.nodup_append]
   refine ⟨ih,by simp,fun a ha b hb e => ?_⟩
   rw [List.mem_singleton] at hb
   subst e; subst hb; exact h ha
theorem zom7 {s:β→β→Bool} {f:β→κ} {F:κ→List β} {x:β} (hs : ∀ y,s y x=decide (f y=f x)) : ∀ {K:List κ},(∀ k ∈ K,∃ y r,F k=y::r∧f y=k)→K.Nodup →
  addG s (K.map F) x=if f x ∈ K then K.map (fun k=>if k=f x then F k++[x] else F k) else K.map F++[[x]]
 | [],_,_=>by simp [addG]
 | k::K,h,hn=>by
  obtain ⟨y,r,e,ey⟩:=h k (by simp)
  rw [List.nodup_cons] at hn
  have ih:=zom7 (f:=f) (F:=F) hs (K:=K) (fun k' hk=>h k' (by simp [hk])) hn.2
  rw [List.map_cons,e]
  by_cases hk:k=f x
  ·have h1:s y x=true:=by rw [hs,ey]; simpa using hk
   simp only [addG,h1,if_true]
   have h2 : ∀ k' ∈ K,k'≠f x:=fun k' hk' q=>hn.1 (by rw [hk,← q]; exact hk')
   have h3:K.map (fun k'=>if k'=f x then F k'++[x] else F k')=K.map F:=List.map_congr_left fun k' hk'=>by rw [if_neg (h2 k' hk')]
   rw [if_pos (by simp [hk]),List.map_cons,if_pos hk,h3,e]
  ·have h1:s y x=false:=by rw [hs,ey]; simpa using hk
   simp only [addG,h1,Bool.false_eq_true,if_false]
   by_cases hm:f x ∈ K
   ·rw [ih,if_pos hm,if_pos (by simp [hm]),List.map_cons,if_neg hk,e]
   ·rw [ih,if_neg hm,if_neg (by simp only [List.mem_cons,not_or]; exact ⟨fun q=>hk q.symm,hm⟩)]; rfl
theorem z6io {s:β→β→Bool} {f:β→κ} (hs : ∀ y x,s y x=decide (f y=f x)) (l:List β):grpG s l=(ddp (l.map f)).map fun k=>l.filter fun y=>decide (f y=k):=by
 induction l using z77f with
 | h0=>rfl
 | h1 l x ih =>
  rw [zd8q,ih,zom7 (f:=f) (fun y=>hs y x) (fun k hk => ?_) (zeer _)]
  ·rw [List.map_append,List.map_cons,List.map_nil,zcej]
   by_cases h:f x ∈ ddp (l.map f)
   ·rw [if_pos h,if_pos h]
    refine List.map_congr_left fun k _ => ?_
    rw [List.filter_append]
    by_cases hk:k=f x
    ·rw [if_pos hk]; simp [hk]
    ·rw [if_neg hk]
     have:¬ f x=k:=fun q=>hk q.symm
     simp [this]
   ·rw [if_neg h,if_neg h,List.map_append]
    have h2:f x ∉ l.map f:=fun q=>h (z53o.2 q)
    congr 1
    ·refine List.map_congr_left fun k hk => ?_
     have:¬ f x=k:=fun q=>h (q▸hk)
     rw [List.filter_append]; simp [this]
    ·have h3:l.filter (fun y=>decide (f y=f x))=[]:=List.filter_eq_nil_iff.2 fun y hy=>by
      simp only [decide_eq_true_eq]; exact fun q=>h2 (List.mem_map.2 ⟨y,hy,q⟩)
     rw [List.map_cons,List.map_nil,List.filter_append,h3]; simp
  ·rw [z53o,List.mem_map] at hk
   obtain ⟨y,hy,e⟩:=hk
   have hm:y ∈ l.filter (fun y=>decide (f y=k)):=List.mem_filter.2 ⟨hy,by simpa using e⟩
   cases hf:l.filter (fun y=>decide (f y=k)) with
   | nil=>rw [hf] at hm; simp at hm
   | cons z r =>
    have hz:z ∈ l.filter (fun y=>decide (f y=k)):=by rw [hf]; simp
    exact ⟨z,r,rfl,by simpa using (List.mem_filter.1 hz).2⟩
end
section
variable {α β:Type} [DecidableEq α] {lt:α→α→Bool}
theorem zt6t (o:Tot lt) {l:List α} (h:Wsc lt l):Asc lt (ddp l):=by
 induction l using z77f with
 | h0=>exact List.Pairwise.nil
 | h1 l x ih =>
  rw [Wsc,List.pairwise_append] at h
  obtain ⟨h1,_,h3⟩:=h
  rw [zcej]
  split
  ·exact ih h1
  ·rename_i hx
   rw [Asc,List.pairwise_append]
   refine ⟨ih h1,List.pairwise_singleton _ _,fun a ha b hb => ?_⟩
   rw [List.mem_singleton] at hb
   subst hb
   have h4:=h3 a (z53o.1 ha) b (by simp)
   rcases o.tot a b with e|e|e
   ·exact e
   ·exact absurd (e▸ha) hx
   ·rw [h4] at e; cases e
theorem zrd2 {f:β→α} (o:Tot lt) {k:α} (l:List β):(zq4g (fun a b=>lt (f a) (f b)) l).filter (fun y=>decide (f y=k))=l.filter (fun y=>decide (f y=k)):=by
 induction l using z77f with
 | h0=>rfl
 | h1 l x ih =>
  rw [zuk7]
  obtain ⟨A,B,e1,e2,hB,_⟩:=zyus (lt:=fun a b=>lt (f a) (f b)) x (zq4g (fun a b=>lt (f a) (f b)) l)
  rw [e2,List.filter_append,List.filter_append,← ih,e1,List.filter_append]
  by_cases hx:f x=k
  ·have hb:B.filter (fun y=>decide (f y=k))=[]:=List.filter_eq_nil_iff.2 fun b hb=>by
    simp only [decide_eq_true_eq]
    intro q
    have:lt (f x) (f b)=true:=hB b hb
    rw [hx,q,o.irr] at this; cases this
   rw [List.filter_cons_of_pos (by simpa using hx),hb,List.filter_cons_of_pos (by simpa using hx)]; simp
  ·rw [List.filter_cons_of_neg (by simpa using hx),List.filter_cons_of_neg (by simpa using hx)]; simp
theorem zegx (o:Tot lt) {f:β→α} {s:β→β→Bool} (hs : ∀ y x,s y x=decide (f y=f x)) (V:List β) :
  grpG s (zq4g (fun a b=>lt (f a) (f b)) V)=(z534 lt (V.map f)).map fun k=>V.filter fun y=>decide (f y=k):=by
 rw [z6io hs]
 have h1:(zq4g (fun a b=>lt (f a) (f b)) V).map f=zq4g lt (V.map f):=(zmcs (List.pairwise_of_forall fun _ _=>rfl)).symm
 have h2:ddp (zq4g lt (V.map f))=z534 lt (V.map f):=zwlf o (zt6t o (zsyr o _)) fun x=>by rw [z53o,(zo43 _).mem_iff]
 rw [h1,h2]
 exact List.map_congr_left fun k _=>zrd2 o V
end
section
variable {γ:Type} {bef:γ→γ→Bool}
end
theorem z6j3 {γ:Type} {n:γ→Nat} {R:γ→γ→Prop} {l:List γ} (h:l.Pairwise R):(zq4g (fun a b=>decide (n b<n a)) l).Pairwise (fun a b=>n b<n a∨(n a=n b∧R a b)):=by
 induction l using z77f with
 | h0=>exact List.Pairwise.nil
 | h1 l x ih =>
  rw [List.pairwise_append] at h
  obtain ⟨h1,_,h3⟩:=h
  have ih:=ih h1
  rw [zuk7]
  have hmem : ∀ a,a ∈ zq4g (fun a b=>decide (n b<n a)) l→a ∈ l:=fun a ha=>(zo43 l).mem_iff.1 ha
  obtain ⟨A,B,e1,e2,hB,hA⟩:=zyus (lt:=fun a b=>decide (n b<n a)) x (zq4g (fun a b=>decide (n b<n a)) l)
  rw [e1] at ih hmem
  rw [e2]
  have hx : ∀ a ∈ A,n x≤n a:=fun a ha=>by
   rcases hA with rfl|⟨A',y,rfl,hy⟩
   ·simp at ha
   ·have hy:n x≤n y:=by simpa using hy
    rcases List.mem_append.1 ha with ha|ha
    ·rw [List.append_assoc,List.pairwise_append] at ih
     have:=ih.2.2 a ha y (by simp)
     omega
    ·rw [List.mem_singleton] at ha; subst ha; exact hy
  rw [List.pairwise_append] at ih ⊢
  obtain ⟨p1,p2,p3⟩:=ih
  refine ⟨p1,List.pairwise_cons.2 ⟨fun b hb => .inl (by simpa using hB b hb),p2⟩,fun a ha b hb => ?_⟩
  rcases List.mem_cons.1 hb with e|hb
  ·subst e
   have:=hx a ha
   have r:=h3 a (hmem a (by simp [ha])) b (by simp)
   by_cases q:n b<n a
   ·exact .inl q
   ·exact .inr ⟨by omega,r⟩
  ·exact p3 a ha b hb
end Go.Proofs.YtjknipdiglpnlaaDoor
set_option linter.unusedSimpArgs false
set_option linter.unusedVariables false
namespace Go.Proofs.YtjknipdiglpnlaaDoor
open Go Go.Am
set_option linter.unusedSectionVars false
section
variable {α β κ:Type} [DecidableEq α] [DecidableEq κ] (lt:α→α→Bool) (own:β→α) (key:β→κ)
def agO (V:List β):List α:=z534 lt (V.map own)
def agV (V:List β) (o:α):List β:=V.filter fun y=>decide (own y=o)
def badG (g:List β):Bool:=match g with
 | []=>false
 | w::r=>(w::r).any fun v => !decide (key v=key w)
def agG (V:List β):List (List β):=grpG (fun a b=>decide (own a=own b)) (zq4g (fun a b=>lt (own a) (own b)) V)
def eqvP (V:List β):List α:=((agG lt own V).filter (badG key)).filterMap fun g=>g.head?.map own
def sngP (V:List β):List β:=((agG lt own V).filter fun g => !badG key g).filterMap List.head?
def zwcm (g:List β):Option (β × List α):=g.head?.map fun w=>(w,g.map own)
def outP (V:List β):List (β × List α):=(grpG (fun a b=>decide (key a=key b)) (sngP lt own key V)).filterMap (zwcm own)
def cmpP (V:List β):List (β × List α):=zq4g (fun a b=>decide (b.2.length<a.2.length)) (outP lt own key V)
def eqLs:List β→List β→List α
 | _,[]=>[]
 | pre,x::r=>(pre.filter fun y=>decide (own y=own x) && !decide (key x=key y)).map (fun _=>own x)++eqLs (pre++[x]) r
def eqvR (V:List β):List α:=z534 lt (eqLs own key [] V)
def befC (a b:β × List α):Bool:=if a.2.length≠b.2.length then decide (b.2.length<a.2.length) else match a.2,b.2 with
 | x::_,y::_=>lt x y
 | _,_=>false
end
section
variable {α β κ:Type} [DecidableEq α] [DecidableEq κ] {lt:α→α→Bool} {own:β→α} {key:β→κ}
def Conf (own:β→α) (key:β→κ) (V:List β) (o:α):Prop := ∃ v ∈ V,∃ w ∈ V,own v=o∧own w=o∧key v≠key w
theorem zlsf (o:Tot lt) {V:List β} {x:α}:x ∈ agO lt own V ↔ ∃ v ∈ V,own v=x:=by rw [agO,zoav o,List.mem_map]
theorem zggv (o:Tot lt) (V:List β):Asc lt (agO lt own V):=zy4b o _
theorem z6xg (o:Tot lt) (V:List β):agG lt own V=(agO lt own V).map (agV own V):=zegx o (fun _ _=>rfl) V
theorem z3g3 {V:List β} {x:α} {v:β}:v ∈ agV own V x↔v ∈ V∧own v=x:=by simp [agV]
theorem zcz6 (o:Tot lt) {V:List β} {x:α}:badG key (agV own V x)=true↔Conf own key V x:=by
 cases e:agV own V x with
 | nil =>
  refine ⟨fun h=>by simp [badG] at h,fun ⟨v,hv,_,_,h1,_⟩ => ?_⟩
  have:v ∈ agV own V x:=z3g3.2 ⟨hv,h1⟩
  rw [e] at this; simp at this
 | cons w r =>
  have hm : ∀ v,v ∈ w::r↔v ∈ V∧own v=x:=fun v=>by rw [← e]; exact z3g3
  have hw:=(hm w).1 (by simp)
  simp only [badG,List.any_eq_true,Bool.not_eq_true',decide_eq_false_iff_not]
  constructor
  ·rintro ⟨v,hv,hk⟩
   have:=(hm v).1 hv
   exact ⟨v,this.1,w,hw.1,this.2,hw.2,hk⟩
  ·rintro ⟨v,hv,u,hu,h1,h2,h3⟩
   by_cases q:key v=key w
   ·exact ⟨u,(hm u).2 ⟨hu,h2⟩,fun q2=>h3 (q.trans q2.symm)⟩
   ·exact ⟨v,(hm v).2 ⟨hv,h1⟩,q⟩
theorem z9wv {V:List β} {x:α} (h : ∃ v ∈ V,own v=x) : ∃ w,(agV own V x).head? = some w∧w ∈ V∧own w=x:=by
 obtain ⟨v,hv,e⟩:=h
 cases hg:agV own V x with
 | nil=>have:=z3g3.2 ⟨hv,e⟩; rw [hg] at this; simp at this
 | cons w r =>
  have:w ∈ agV own V x:=by rw [hg]; simp
  exact ⟨w,rfl,z3g3.1 this⟩
theorem zb3z {A B:Type} {p:B→Bool} {f:A→B} : ∀ {l:List A},(l.map f).filter p=(l.filter fun a=>p (f a)).map f
 | []=>rfl
 | a::l=>by
  have ih:=zb3z (p:=p) (f:=f) (l:=l)
  rw [List.map_cons,List.filter_cons,List.filter_cons,ih]
  split<;>simp
theorem zxwk (o:Tot lt) (V:List β):eqvP lt own key V=(agO lt own V).filter fun x=>badG key (agV own V x):=by
 unfold eqvP
 rw [z6xg o,zb3z,List.filterMap_map]
 have h : ∀ l:List α,(∀ x ∈ l,∃ v ∈ V,own v=x)→l.filterMap ((fun g:List β=>g.head?.map own) ∘ agV own V)=l:=by
  intro l
  induction l with
  | nil=>intro _; rfl
  | cons x l ih =>
   intro hl
   obtain ⟨w,h1,h2,h3⟩:=z9wv (own:=own) (hl x (by simp))
   rw [List.filterMap_cons]
   simp only [Function.comp_def,h1,Option.map_some,h3]
   congr 1
   exact ih fun y hy=>hl y (by simp [hy])
 exact h _ fun x hx=>(zlsf o).1 (List.mem_filter.1 hx).1
theorem znbp {x:α} : ∀ {V pre:List β},x ∈ eqLs own key pre V ↔ ∃ A v B,V=A++v::B∧own v=x ∧ ∃ w ∈ pre++A,own w=x∧key v≠key w
 | [],pre=>by
  refine ⟨fun h=>by simp [eqLs] at h,fun ⟨A,v,B,e,_⟩=>by simp at e⟩
 | y::V,pre=>by
  rw [eqLs,List.mem_append,znbp (V:=V)]
  constructor
  ·rintro (h|⟨A,v,B,rfl,h1,w,hw,h2,h3⟩)
   ·rw [List.mem_map] at h
    obtain ⟨w,hw,e⟩:=h
    have hw2:=List.mem_filter.1 hw
    simp only [Bool.and_eq_true,decide_eq_true_eq,Bool.not_eq_true',decide_eq_false_iff_not] at hw2
    exact ⟨[],y,V,rfl,e,w,by simpa using hw2.1,by rw [hw2.2.1,e],hw2.2.2⟩
   ·exact ⟨y::A,v,B,rfl,h1,w,by simpa [List.append_assoc] using hw,h2,h3⟩
  ·rintro ⟨A,v,B,e,h1,w,hw,h2,h3⟩
   cases A with
   | nil =>
    simp only [List.nil_append,List.cons.injEq] at e
    obtain ⟨rfl,rfl⟩:=e
    left
    rw [List.mem_map]
    refine ⟨w,List.mem_filter.2 ⟨by simpa using hw,?_⟩,h1⟩
    simp only [Bool.and_eq_true,decide_eq_true_eq,Bool.not_eq_true',decide_eq_false_iff_not]
    exact ⟨by rw [h2,h1],h3⟩
   | cons a A =>
    simp only [List.cons_append,List.cons.injEq] at e
    obtain ⟨rfl,rfl⟩:=e
    right
    exact ⟨A,v,B,rfl,h1,w,by simpa [List.append_assoc] using hw,h2,h3⟩
theorem zqqi {V:List β} {v w:β} (hv:v ∈ V) (hw:w ∈ V):v=w∨(∃ A B C,V=A++v::B++w::C) ∨ ∃ A B C,V=A++w::B++v::C:=by
 obtain ⟨A,B,rfl⟩:=List.append_of_mem hv
 rcases List.mem_append.1 hw with h|h
 ·obtain ⟨A1,A2,rfl⟩:=List.append_of_mem h
  exact .inr (.inr ⟨A1,A2,B,by simp⟩)
 ·rcases List.mem_cons.1 h with e|h
  ·exact .inl e.symm
  ·obtain ⟨B1,B2,rfl⟩:=List.append_of_mem h
   exact .inr (.inl ⟨A,B1,B2,by simp⟩)
theorem zwqs (o:Tot lt) {V:List β} {x:α}:x ∈ eqvR lt own key V↔Conf own key V x:=by
 rw [eqvR,zoav o,znbp]
 constructor
 ·rintro ⟨A,v,B,rfl,h1,w,hw,h2,h3⟩
  exact ⟨v,by simp,w,by simp only [List.nil_append] at hw; simp [hw],h1,h2,h3⟩
 ·rintro ⟨v,hv,w,hw,h1,h2,h3⟩
  rcases zqqi hv hw with rfl|⟨A,B,C,rfl⟩|⟨A,B,C,rfl⟩
  ·exact absurd rfl h3
  ·exact ⟨A++v::B,w,C,by simp,h2,v,by simp,h1,fun q=>h3 q.symm⟩
  ·exact ⟨A++w::B,v,C,by simp,h1,w,by simp,h2,h3⟩
theorem z4t9 (o:Tot lt) (V:List β):eqvP lt own key V=eqvR lt own key V:=by
 rw [zxwk o]
 refine zjfh o (List.Pairwise.filter _ (zggv o V)) (zy4b o _) fun x => ?_
 show _↔x ∈ eqvR lt own key V
 rw [List.mem_filter,zcz6 o,zwqs o]
 exact ⟨fun h=>h.2,fun h=>⟨(zlsf o).2 (let ⟨v,hv,_,_,h1,_⟩:=h; ⟨v,hv,h1⟩),h⟩⟩
structure Sng (lt:α→α→Bool) (own:β→α) (key:β→κ) (V S:List β):Prop where
 asc:Asc lt (S.map own)
 sub : ∀ v ∈ S,v ∈ V
 mem : ∀ x,x ∈ S.map own↔(∃ v ∈ V,own v=x)∧¬ Conf own key V x
theorem zzz9 (o:Tot lt) (V:List β):Sng lt own key V (sngP lt own key V):=by
 have e:sngP lt own key V=((agO lt own V).filter fun x => !badG key (agV own V x)).filterMap fun x=>(agV own V x).head? := by
  unfold sngP
  rw [z6xg o,zb3z,List.filterMap_map]; rfl
 have h : ∀ l:List α,(∀ x ∈ l,∃ v ∈ V,own v=x)→(l.filterMap fun x=>(agV own V x).head?).map own=l ∧ ∀ v ∈ l.filterMap fun x=>(agV own V x).head?,v ∈ V:=by
  intro l
  induction l with
  | nil=>intro _; exact ⟨rfl,fun v hv=>by simp at hv⟩
  | cons x l ih =>
   intro hl
   obtain ⟨w,h1,h2,h3⟩:=z9wv (own:=own) (hl x (by simp))
   obtain ⟨i1,i2⟩:=ih fun y hy=>hl y (by simp [hy])
   rw [List.filterMap_cons,h1]
   refine ⟨by simp only [List.map_cons,h3,i1],fun v hv => ?_⟩
   rcases List.mem_cons.1 hv with e|hv
   ·rw [e]; exact h2
   ·exact i2 v hv
 have hl : ∀ x ∈ (agO lt own V).filter (fun x => !badG key (agV own V x)),∃ v ∈ V,own v=x:=fun x hx=>(zlsf o).1 (List.mem_filter.1 hx).1
 obtain ⟨h1,h2⟩:=h _ hl
 refine ⟨by rw [e,h1]; exact List.Pairwise.filter _ (zggv o V),fun v hv=>h2 v (by rw [← e]; exact hv),fun x => ?_⟩
 rw [e,h1,List.mem_filter,zlsf o,Bool.not_eq_true',← Bool.not_eq_true,zcz6 o]
def pC (key:β→κ) (c:β × List α):κ × List α:=(key c.1,c.2)
def z40e (own:β→α) (key:β→κ) (S:List β):List (κ × List α):=(ddp (S.map key)).map fun k=>(k,(S.filter fun v=>decide (key v=k)).map own)
theorem z0gb (V:List β):(outP lt own key V).map (pC key)=z40e own key (sngP lt own key V):=by
 unfold outP z40e
 rw [z6io (f:=key) (fun _ _=>rfl),List.filterMap_map,List.map_filterMap]
 generalize sngP lt own key V=S
 have h : ∀ K:List κ,(∀ k ∈ K,∃ v ∈ S,key v=k)→(K.filterMap fun k=>Option.map (pC key) ((zwcm own ∘ fun k=>S.filter fun y=>decide (key y=k)) k))=K.map fun k=>(k,(S.filter fun v=>decide (key v=k)).map own):=by
  intro K
  induction K with
  | nil=>intro _; rfl
  | cons k K ih =>
   intro hK
   obtain ⟨v,hv,e⟩:=hK k (by simp)
   have hm:v ∈ S.filter fun y=>decide (key y=k):=List.mem_filter.2 ⟨hv,by simpa using e⟩
   rw [List.filterMap_cons,List.map_cons]
   cases hf:S.filter (fun y=>decide (key y=k)) with
   | nil=>rw [hf] at hm; simp at hm
   | cons w r =>
    have hw:key w=k:=by
     have:w ∈ S.filter fun y=>decide (key y=k):=by rw [hf]; simp
     simpa using (List.mem_filter.1 this).2
    simp only [Function.comp_def,zwcm,hf,List.head?_cons,Option.map_some,pC,hw]
    congr 1
    exact ih fun k' hk'=>hK k' (by simp [hk'])
 exact h _ fun k hk=>by rw [z53o,List.mem_map] at hk; exact hk
end
end Go.Proofs.YtjknipdiglpnlaaDoor
set_option linter.unusedSimpArgs false
set_option linter.unusedVariables false
namespace Go.Proofs.YtjknipdiglpnlaaDoor
open Go Go.Am
set_option linter.unusedSectionVars false
section
variable {α β κ:Type} [DecidableEq α] [DecidableEq κ] {lt:α→α→Bool} {own:β→α} {key:β→κ}
def HR (lt:α→α→Bool) (a b:κ × List α):Prop := ∃ x y,a.2.head? = some x∧b.2.head? = some y∧lt x y=true
theorem zsuz {S:List β} {c:κ × List α} (h:c ∈ z40e own key S) : ∃ x,c.2.head? = some x:=by
 obtain ⟨k,hk,rfl⟩:=List.mem_map.1 h
 rw [z53o,List.mem_map] at hk
 obtain ⟨v,hv,e⟩:=hk
 have hm:v ∈ S.filter fun v=>decide (key v=k):=List.mem_filter.2 ⟨hv,by simpa using e⟩
 cases hf:S.filter (fun v=>decide (key v=k)) with
 | nil=>rw [hf] at hm; simp at hm
 | cons w r=>exact ⟨own w,by simp⟩
theorem ziit {S:List β} (h:Asc lt (S.map own)):(z40e own key S).Pairwise (HR lt):=by
 induction S using z77f with
 | h0=>exact List.Pairwise.nil
 | h1 S v ih =>
  rw [List.map_append,Asc,List.pairwise_append] at h
  obtain ⟨h1,_,h3⟩:=h
  have ih:=ih h1
  have hF : ∀ k,((S++[v]).filter fun u=>decide (key u=k)).map own=(S.filter fun u=>decide (key u=k)).map own++(if key v=k then [own v] else []):=fun k=>by
   rw [List.filter_append,List.map_append]
   by_cases e:key v=k<;>simp [e]
  have hcs:z40e own key (S++[v])=(ddp ((S++[v]).map key)).map fun k=>(k,(S.filter fun u=>decide (key u=k)).map own++(if key v=k then [own v] else [])):=by
   unfold z40e
   exact List.map_congr_left fun k _=>by rw [hF]
  rw [hcs,List.map_append,List.map_cons,List.map_nil,zcej]
  have hkeep : ∀ K:List κ,(K.map fun k=>(k,(S.filter fun u=>decide (key u=k)).map own)).Pairwise (HR lt)→(K.map fun k=>(k,(S.filter fun u=>decide (key u=k)).map own++(if key v=k then [own v] else []))).Pairwise (HR lt):=fun K hp=>by
   rw [List.pairwise_map] at hp ⊢
   refine hp.imp ?_
   rintro a b ⟨x,y,e1,e2,e3⟩
   simp only at e1 e2
   exact ⟨x,y,by simp only [List.head?_append,e1,Option.some_or],by simp only [List.head?_append,e2,Option.some_or],e3⟩
  by_cases hk:key v ∈ ddp (S.map key)
  ·rw [if_pos hk]; exact hkeep _ ih
  ·rw [if_neg hk,List.map_append,List.pairwise_append]
   refine ⟨hkeep _ ih,List.pairwise_singleton _ _,fun a ha b hb => ?_⟩
   rw [List.map_cons,List.map_nil,List.mem_singleton] at hb
   subst hb
   obtain ⟨k,hka,rfl⟩:=List.mem_map.1 ha
   obtain ⟨x,hx⟩:=zsuz (own:=own) (c:=(k,(S.filter fun u=>decide (key u=k)).map own)) (List.mem_map.2 ⟨k,hka,rfl⟩)
   have hnil:S.filter (fun u=>decide (key u=key v))=[]:=List.filter_eq_nil_iff.2 fun y hy=>by
    simp only [decide_eq_true_eq]; exact fun q=>hk (z53o.2 (List.mem_map.2 ⟨y,hy,q⟩))
   simp only at hx
   refine ⟨x,own v,by simp only [List.head?_append,hx,Option.some_or],by simp [hnil],?_⟩
   have hxm:x ∈ S.map own:=by
    have:=List.mem_of_mem_head? (by rw [hx]; rfl:x ∈ ((S.filter fun u=>decide (key u=k)).map own).head?)
    obtain ⟨u,hu,e⟩:=List.mem_map.1 this
    exact List.mem_map.2 ⟨u,(List.mem_filter.1 hu).1,e⟩
   exact h3 x hxm (own v) (by simp)
theorem zonc {γ:Type} {a b:γ × List α} (h:b.2.length<a.2.length∨(a.2.length=b.2.length ∧ ∃ x y,a.2.head? = some x∧b.2.head? = some y∧lt x y=true)):befC lt a b=true:=by
 unfold befC
 rcases h with h|⟨h,x,y,e1,e2,e3⟩
 ·rw [if_pos (by omega)]; simpa using h
 ·rw [if_neg (by omega)]
  obtain ⟨a1,a2⟩:=a
  obtain ⟨b1,b2⟩:=b
  cases a2 with
  | nil=>simp at e1
  | cons u a2 =>
   cases b2 with
   | nil=>simp at e2
   | cons w b2 =>
    simp only [List.head?_cons,Option.some.injEq] at e1 e2
    subst e1; subst e2; exact e3
theorem zob0 {γ:Type} {a b:γ × List α} (h:befC lt a b=true):b.2.length<a.2.length∨(a.2.length=b.2.length ∧ ∃ x y,a.2.head? = some x∧b.2.head? = some y∧lt x y=true):=by
 unfold befC at h
 split at h
 ·left; simpa using h
 ·rename_i q
  right
  refine ⟨by omega,?_⟩
  split at h
  ·rename_i x _ y _ e1 e2; exact ⟨x,y,by rw [e1]; rfl,by rw [e2]; rfl,h⟩
  ·cases h
def z9dw (lt:α→α→Bool) (own:β→α) (key:β→κ) (V:List β):List (κ × List α):=zq4g (fun a b=>decide (b.2.length<a.2.length)) (z40e own key (sngP lt own key V))
theorem zxzu (V:List β):(cmpP lt own key V).map (pC key)=z9dw lt own key V:=by
 unfold cmpP z9dw
 rw [← z0gb]
 exact (zmcs (f:=pC key) (lt:=fun a b:β × List α=>decide (b.2.length<a.2.length)) (lt':=fun a b:κ × List α=>decide (b.2.length<a.2.length)) (List.pairwise_of_forall fun _ _=>rfl)).symm
theorem zg1c (o:Tot lt) (V:List β):(z9dw lt own key V).Pairwise fun a b=>befC lt a b=true:=by
 refine (z6j3 (n:=fun c:κ × List α=>c.2.length) (ziit (lt:=lt) (zzz9 (own:=own) (key:=key) o V).asc)).imp ?_
 rintro a b (h|⟨h,x,y,e⟩)
 ·exact zonc (.inl h)
 ·exact zonc (.inr ⟨h,x,y,e⟩)
theorem zxgg {V:List β} {c:κ × List α}:c ∈ z9dw lt own key V↔c ∈ z40e own key (sngP lt own key V):=(zo43 _).mem_iff
end
end Go.Proofs.YtjknipdiglpnlaaDoor
set_option linter.unusedSimpArgs false
set_option linter.unusedVariables false
namespace Go.Proofs.YtjknipdiglpnlaaDoor
open Go Go.Am
set_option linter.unusedSectionVars false
inductive DRes (γ:Type) where
 | thr
 | dis
 | ok (c:γ)
def DRes.map {γ δ:Type} (f:γ→δ):DRes γ→DRes δ
 | .thr => .thr
 | .dis => .dis
 | .ok c => .ok (f c)
section
variable {γ δ:Type}
def enoL (len:γ→Nat) (thr:Int) (C:List γ):List γ:=C.filter fun c => !decide ((len c:Int)<thr)
def decF (len:γ→Nat) (thr:Int) (C:List γ):DRes γ:=if thr<1 then .thr else match enoL len thr C with
 | [] => .thr
 | [c] => .ok c
 | _ => .dis
end
section
variable {α β κ:Type} [DecidableEq α] [DecidableEq κ] {lt:α→α→Bool} {own:β→α} {key:β→κ}
theorem zk3w (o:Tot lt) {l:List α} (h:Asc lt l):l.Nodup:=h.imp fun {a b} h e=>by rw [e,o.irr] at h; cases h
theorem zco0 {S:List β} {c:κ × List α} (h:c ∈ z40e own key S):c.1 ∈ S.map key∧c.2=(S.filter fun v=>decide (key v=c.1)).map own:=by
 obtain ⟨k,hk,rfl⟩:=List.mem_map.1 h
 exact ⟨z53o.1 hk,rfl⟩
theorem zg8z (o:Tot lt) (V:List β):(z9dw lt own key V).Pairwise fun a b=>b.2.length≤a.2.length:=(zg1c o V).imp fun {a b} h=>by
 rcases zob0 h with h|⟨h,_⟩<;>omega
theorem z7o7 (V:List β):((z9dw lt own key V).map Prod.fst).Nodup:=by
 have h:((z40e own key (sngP lt own key V)).map Prod.fst).Nodup:=by
  unfold z40e
  rw [List.map_map]
  have e:(Prod.fst ∘ fun k=>(k,((sngP lt own key V).filter fun v=>decide (key v=k)).map own))=(id:κ→κ):=rfl
  rw [e,List.map_id]
  exact zeer _
 exact (((zo43 (lt:=fun a b:κ × List α=>decide (b.2.length<a.2.length)) (z40e own key (sngP lt own key V))).map Prod.fst).nodup_iff).2 h
theorem zt1x (o:Tot lt) {V:List β} {c:κ × List α} (h:c ∈ z9dw lt own key V):c.2≠[]∧Asc lt c.2 ∧ ∀ x ∈ c.2,(∃ v ∈ V,own v=x∧key v=c.1)∧¬ Conf own key V x:=by
 have s:=zzz9 (own:=own) (key:=key) o V
 obtain ⟨h1,h2⟩:=zco0 (zxgg.1 h)
 obtain ⟨y,hy⟩:=zsuz (zxgg.1 h)
 refine ⟨fun e=>(by rw [e] at hy; cases hy),?_,fun x hx => ?_⟩
 ·rw [h2]; exact List.Pairwise.sublist (List.Sublist.map own List.filter_sublist) s.asc
 ·rw [h2,List.mem_map] at hx
  obtain ⟨v,hv,e⟩:=hx
  obtain ⟨hv1,hv2⟩:=List.mem_filter.1 hv
  refine ⟨⟨v,s.sub v hv1,e,by simpa using hv2⟩,?_⟩
  rw [← e]
  exact ((s.mem (own v)).1 (List.mem_map_of_mem hv1)).2
theorem zxb4 {V:List β} (hn:((z9dw lt own key V).map Prod.fst).Nodup) {a b:κ × List α} (ha:a ∈ z9dw lt own key V) (hb:b ∈ z9dw lt own key V) (e:a.1=b.1):a=b:=by
 obtain ⟨i,hi,rfl⟩:=List.getElem_of_mem ha
 obtain ⟨j,hj,rfl⟩:=List.getElem_of_mem hb
 have:=(List.getElem_inj (h₀:=by simpa using hi) (h₁:=by simpa using hj) hn).1 (by simpa using e)
 subst this; rfl
theorem z2s4 (o:Tot lt) {V:List β} {a b:κ × List α} (ha:a ∈ z9dw lt own key V) (hb:b ∈ z9dw lt own key V) {x:α} (h1:x ∈ a.2) (h2:x ∈ b.2):a=b:=by
 obtain ⟨⟨v,hv,e1,e2⟩,hc⟩:=(zt1x o ha).2.2 x h1
 obtain ⟨⟨w,hw,f1,f2⟩,_⟩:=(zt1x o hb).2.2 x h2
 refine zxb4 (z7o7 V) ha hb ?_
 rw [← e2,← f2]
 by_cases q:key v=key w
 ·exact q
 ·exact absurd ⟨v,hv,w,hw,e1,f1,q⟩ hc
theorem zwba (o:Tot lt) (V:List β):((z9dw lt own key V).flatMap Prod.snd).Nodup:=by
 have hn:=z7o7 (lt:=lt) (own:=own) (key:=key) V
 have hne:(z9dw lt own key V).Nodup:=by
  have:=List.pairwise_map.1 hn
  exact this.imp fun {a b} h e=>h (by rw [e])
 have hin:=fun c h=>(zt1x (lt:=lt) (own:=own) (key:=key) o (V:=V) (c:=c) h)
 have hon:=fun a ha b hb x h1 h2=>z2s4 (lt:=lt) (own:=own) (key:=key) o (V:=V) (a:=a) (b:=b) ha hb (x:=x) h1 h2
 revert hne hin hon
 generalize z9dw lt own key V=C
 intro hne hin hon
 induction C with
 | nil=>simp
 | cons c C ih =>
  rw [List.nodup_cons] at hne
  rw [List.flatMap_cons,List.nodup_append]
  refine ⟨zk3w o (hin c (by simp)).2.1,ih hne.2 (fun c h=>hin c (by simp [h])) (fun a ha b hb x h1 h2=>hon a (by simp [ha]) b (by simp [hb]) x h1 h2),fun x hx y hy e => ?_⟩
  subst e
  obtain ⟨d,hd,hxd⟩:=List.mem_flatMap.1 hy
  have:=hon c (by simp) d (by simp [hd]) x hx hxd
  exact hne.1 (this▸hd)
end
end Go.Proofs.YtjknipdiglpnlaaDoor
set_option linter.unusedSimpArgs false
set_option linter.unusedVariables false
namespace Go.Proofs.YtjknipdiglpnlaaDoor
open Go Go.Am
def nilS {α:Type}:Sl α:=⟨none,[],fun _=>rfl,by simp⟩
def ownN {α:Type} (l:List α):Sl α:=if l.isEmpty then nilS else own l
theorem zce3 {α:Type}:ownN ([]:List α)=nilS:=rfl
theorem z527 {α:Type} {l:List α} (h:l≠[]):ownN l=own l:=by cases l with|nil=>exact absurd rfl h|cons a l=>rfl
theorem zd8n {α:Type} {l:List α} (h:l.length≤4294967296):(ownN l).l=l:=by
 cases l with
 | nil=>rfl
 | cons a l=>rw [z527 (by simp),z3e9 h]
theorem z2i7 {α:Type} {s:Nat} {f:α→List DV}:(ownN ([]:List α)).dv s f = .nils:=rfl
theorem zgr3 {α:Type} {l:List α} {s:Nat} {f:α→List DV} (h:l≠[]) (hb:l.length≤4294967296):(ownN l).dv s f = .sl false s l.length (l.flatMap f):=by rw [z527 h,zqrs hb]
mutual
theorem z8b8 (n:Nat) : ∀ (d:DV),zyp8 d=true→Am.below n d=true
 | .agg cs,h=>by simp only [zyp8] at h; simp only [Am.below]; exact zmq5 n cs h
 | .tup cs,h=>by simp only [zyp8] at h; simp only [Am.below]; exact zmq5 n cs h
 | .sl _ _ _ cs,h=>by simp only [zyp8] at h; simp only [Am.below]; exact zmq5 n cs h
 | .ref cs,h=>by simp only [zyp8] at h; simp only [Am.below]; exact zmq5 n cs h
 | .fn _ a b,h=>by simp only [zyp8,Bool.and_eq_true] at h; simp only [Am.below,Bool.and_eq_true]; exact ⟨zmq5 n a h.1,zmq5 n b h.2⟩
 | .iface _ v,h=>by simp only [zyp8] at h; simp only [Am.below]; exact z8b8 n v h
 | .ms ..,h=>by simp [zyp8] at h
 | .mp ..,h=>by simp [zyp8] at h
 | .int ..,_=>rfl
 | .bool ..,_=>rfl
 | .str ..,_=>rfl
 | .nilp,_=>rfl
 | .nilm,_=>rfl
 | .nilf,_=>rfl
 | .nili,_=>rfl
 | .nils,_=>rfl
 | .junk,_=>rfl
theorem zmq5 (n:Nat) : ∀ (l:List DV),zbao l=true→z1r6 n l=true
 | [],_=>rfl
 | d::r,h=>by simp only [zbao,Bool.and_eq_true] at h; simp only [z1r6,Bool.and_eq_true]; exact ⟨z8b8 n d h.1,zmq5 n r h.2⟩
end
theorem zoxk {d:Dg}:(dgC d).all DV.one=true:=zzst
theorem z3om {h:List AObj} {k:Nat} {c:Dg}:z4tt h k (dgC c)=some (dgC c):=z619 (z6je c)
theorem zbw6 {n:Nat} {g:Dg}:z1r6 n (dgC g)=true:=zmq5 n _ (z6je g)
theorem zes9 {h:List AObj} {id:Nat} {d:Dg} {l:List DV} (hl:l.length=32):zy6o h id 32 0 (.agg (dgC d)) (some l)=some (.junk,h.set id (.cells (dgC d))):=zfc1 (z1t1 d) hl zzst
theorem zxh4 {h:List AObj} {k:Nat} {f:Fn} {x:DV}:snap h (k+1) (.fn f [] [x])=(snap h (k+1) x).map fun y => .fn f [] [y]:=by
 simp only [snap,zcxt,zoyo]
 cases zcxt _ x<;>rfl
theorem znxs {h:List AObj} {k:Nat} {f:Fn} {x y:DV}:snap h (k+1) (.fn f [] [x,y])=(snap h (k+1) x).bind fun a=>(snap h (k+1) y).map fun b => .fn f [] [a,b]:=by
 simp only [snap,zcxt,zoyo]
 cases zcxt _ x<;>simp only [Option.bind_some,Option.bind_none]
 ·rfl
 ·cases zcxt _ y<;>rfl
theorem zfco {h:List AObj} {k:Nat} {f:Fn} {x y z:DV}:snap h (k+1) (.fn f [] [x,y,z])=(snap h (k+1) x).bind fun a=>(snap h (k+1) y).bind fun b=>(snap h (k+1) z).map fun c => .fn f [] [a,b,c]:=by
 simp only [snap,zcxt,zoyo]
 cases zcxt _ x<;>simp only [Option.bind_some,Option.bind_none]
 ·rfl
 ·cases zcxt _ y<;>simp only [Option.bind_some,Option.bind_none]
  ·rfl
  ·cases zcxt _ z<;>rfl
theorem zvvi {h:List AObj} {k:Nat} {f:Fn}:snap h k (.fn f [] [])=some (.fn f [] []):=by cases k<;>rfl
attribute [simp] zxh4 znxs zfco zvvi
theorem zjj2 {pre l:List AObj} {ver:Nat}:objV (pre++l) pre.length ver=objV l 0 ver:=by
 unfold objV ziu0; rw [List.getElem?_append_right (by omega),Nat.sub_self]
theorem zxft {pre l:List AObj} {o:AObj}:(pre++l).set pre.length o=pre++l.set 0 o:=by rw [List.set_append_right _ _ (by omega)]; simp
section
variable {α:Type} {lt:α→α→Bool}
theorem zmgd (l:List α):(zq4g lt l).length=l.length:=(zo43 l).length_eq
theorem zk1b {l:List α} (h:l.length≤1):zq4g lt l=l:=by
 match l,h with
 | [],_=>rfl
 | [a],_=>rfl
end
theorem zem6 {A B C:List DV} (h:B.length=C.length):zk7y (A++B) A.length C=A++C:=by
 unfold zk7y
 rw [List.take_left,← h,← List.length_append,List.drop_length,List.append_nil]
def fl {α:Type} (f:α→List DV) (l:List α):List DV:=l.flatMap f
theorem z8lx {α:Type} {f:α→List DV} {K:Nat} (hu : ∀ a,(f a).length=K) (l:List α):(fl f l).length=l.length*K:=z1rq hu l
section
variable {α:Type} {f:α→List DV} {K:Nat}
theorem zfiy (hu : ∀ a,(f a).length=K) {l:List α} {i:Nat} (hi:i<l.length):oneC K true ((fl f l).drop (i*K))=some (.agg (f l[i])):=by
 rw [fl,zkb2 hu,List.drop_eq_getElem_cons hi,List.flatMap_cons,zza5 (by simp [hu]),List.take_left' (hu _)]
theorem zdvi (hu : ∀ a,(f a).length=K) (h0:0<K) (ha : ∀ a,(f a).all DV.one=true) {h:List AObj} {id i:Nat} {l:List α} {x:α} (hi:i<l.length):zy6o h id K (i*K) (.agg (f x)) (some (fl f l))=some (.junk,h.set id (.cells (fl f (l.set i x)))):=by
 have hl:=z8lx hu l
 have h1:i*K+K≤l.length*K:=by rw [← Nat.succ_mul]; exact Nat.mul_le_mul_right _ hi
 simp only [zy6o,DV.cells,hu,ha,hl]
 rw [if_pos ⟨trivial,h1,trivial⟩,fl,z47w hu hi,fl]
theorem zqtu {z:α} {n:Nat}:reps n (f z)=fl f (List.replicate n z):=by
 unfold fl
 induction n with
 | zero=>rfl
 | succ n ih=>rw [List.replicate_succ,List.flatMap_cons,← ih]; rfl
theorem z507 (hu : ∀ a,(f a).length=K) {A B C:List α} (h:B.length=C.length):zk7y (fl f (A++B)) (A.length*K) (fl f C)=fl f (A++C):=by
 unfold fl
 have:=zem6 (A:=A.flatMap f) (B:=B.flatMap f) (C:=C.flatMap f) (by rw [z1rq hu,z1rq hu,h])
 rw [z1rq hu] at this
 rw [List.flatMap_append,this,List.flatMap_append]
theorem z9jy {f:α→List DV} (h : ∀ a,(f a).all DV.one=true) : ∀ (l:List α),(l.flatMap f).all DV.one=true
 | []=>rfl
 | a::l=>by rw [List.flatMap_cons,List.all_append,h,z9jy h l]; rfl
end
theorem zlvn {α:Type} {lt:α→α→Bool} {l:List α} (h:l≠[]):zq4g lt l≠[]:=fun e=>h (List.eq_nil_of_length_eq_zero (by rw [← zmgd (lt:=lt),e]; rfl))
theorem z590 {α:Type} {f:α→List DV} {K:Nat} (hu : ∀ a,(f a).length=K) (l:List α) (i:Nat):(fl f l).take (i*K)=(l.take i).flatMap f:=z10w hu l i
theorem z29t {α:Type} {f:α→List DV} {K:Nat} (hu : ∀ a,(f a).length=K) (hp : ∀ a,zbao (f a)=true) {pre:List AObj} {l:List α} {m:Nat}:snap (pre++[.cells (fl f l)]) 3 (.ms pre.length (l.length*K) 0 K m (l.length*K))=some (.sl false K m ((l.take m).flatMap f)):=by
 rw [zve7,zjj2,z1zn,if_pos (z8lx hu l),Option.bind_some,List.drop_zero,z590 hu,z619 (zp6k hp _)]
 rfl
section
variable {α:Type} {f:α→List DV} {K:Nat}
theorem zkaf {l m:List α}:fl f (l++m)=fl f l++fl f m:=by unfold fl; exact List.flatMap_append ..
theorem zvrp {h:List AObj} {id b m:Nat} {l:List α} {cs:List α} (hu : ∀ a,(f a).length=K) (h0:0<K) (hb:b≤16384) (ha : ∀ a,(f a).all DV.one=true) (hm:cs.length=m) (hbig:l.length+m≤4294967296) (ho:objV h id (l.length*K)=some (fl f l)) :
  appX h K b (.ms id (l.length*K) 0 K l.length (l.length*K)) m (cs.flatMap f)=some (.ms id ((l.length+m)*K) 0 K (l.length+m) ((l.length+m)*K),h.set id (.cells (fl f (l++cs)))):=by
 have hc:(cs.flatMap f).length=m*K:=by rw [z1rq hu,hm]
 rw [zbho rfl hb h0 (by rw [hc]) hbig (z9jy ha cs),ho,Option.map_some,hc,← Nat.add_mul,zkaf]
 rfl
theorem zkg3 {h:List AObj} {id b:Nat} {l:List α} {x:α} (hu : ∀ a,(f a).length=K) (h0:0<K) (hb:b≤16384) (ha : ∀ a,(f a).all DV.one=true) (hbig:l.length+1≤4294967296) (ho:objV h id (l.length*K)=some (fl f l)) :
  appX h K b (.ms id (l.length*K) 0 K l.length (l.length*K)) 1 (f x)=some (.ms id ((l.length+1)*K) 0 K (l.length+1) ((l.length+1)*K),h.set id (.cells (fl f (l++[x])))):=by
 have:=zvrp (m:=1) (cs:=[x]) hu h0 hb ha rfl hbig ho
 rwa [show [x].flatMap f=f x by simp] at this
end
theorem storeO_1 {h:List AObj} {id off:Nat} {v:DV} {l:List DV} (hc:v.cells=[v]) (ho:v.one=true) (hl:off<l.length):zy6o h id 1 off v (some l)=some (.junk,h.set id (.cells (zk7y l off [v]))):=by
 simp only [zy6o,hc,List.length_cons,List.length_nil,List.all_cons,List.all_nil,ho,Bool.and_self]
 first|done|rw [if_pos ⟨trivial,by omega,trivial⟩]
theorem zch3 {α:Type} {x:Sl α} {s:Nat} {f:α→List DV} {b:DV}:z87v (x.dv s f) b=b.known:=by
 obtain ⟨k,l,h,hb⟩:=x
 cases k with
 | none=>exact z8bo
 | some c=>exact zhyd
section
variable {α:Type} {f:α→List DV} {K:Nat}
def oV (k K:Nat) (l:List α):DV:=if l=[] then .nils else .ms k (l.length*K) 0 K l.length (l.length*K)
def oT (f:α→List DV) (l:List α):List AObj:=if l=[] then [] else [.cells (fl f l)]
theorem zl8p {k:Nat}:oV k K ([]:List α) = .nils:=rfl
theorem zkrk:oT f []=[]:=rfl
theorem zpni {k:Nat} {l:List α} (h:l≠[]):oV k K l = .ms k (l.length*K) 0 K l.length (l.length*K):=if_neg h
theorem zu2l {l:List α} (h:l≠[]):oT f l=[.cells (fl f l)]:=if_neg h
theorem z612 {k b:Nat} {l cs:List α} {h:List AObj} (hp:h.length=k) (hu : ∀ a,(f a).length=K) (h0:0<K) (hb:b≤16384) (ha : ∀ a,(f a).all DV.one=true) (hbig:l.length+cs.length≤4294967296) :
  appX (h++oT f l) K b (oV k K l) cs.length (cs.flatMap f)=some (oV k K (l++cs),h++oT f (l++cs)):=by
 by_cases e:l=[]
 ·subst e
  rw [zl8p,zkrk,List.append_nil,List.nil_append]
  by_cases e2:cs=[]
  ·subst e2
   rw [show ([]:List α).flatMap f=[] from rfl,List.length_nil,zw6v hb h0,zl8p,zkrk,List.append_nil]
  ·have:=zsuq (h:=h) (s:=K) (b:=b) (m:=cs.length) (cs:=cs.flatMap f) hb h0 (by rw [z1rq hu]) (List.length_pos_iff.2 e2) (by simp at hbig; omega)
   rw [this,zpni e2,zu2l e2,z1rq hu,hp]; rfl
 ·have ho:objV (h++[AObj.cells (fl f l)]) k (l.length*K)=some (fl f l):=by
   unfold objV ziu0
   rw [List.getElem?_append_right (by omega),show k-h.length=0 by omega]
   simp [z8lx hu]
  have:=zvrp (h:=h++[AObj.cells (fl f l)]) (id:=k) (b:=b) (l:=l) (m:=cs.length) (cs:=cs) hu h0 hb ha rfl hbig ho
  rw [zpni e,zu2l e,this,zpni (by simp [e]),zu2l (by simp [e]),List.length_append,List.set_append_right _ _ (by omega),show k-h.length=0 by omega]
  rfl
theorem zte0 {k b:Nat} {l:List α} {x:α} {h:List AObj} (hp:h.length=k) (hu : ∀ a,(f a).length=K) (h0:0<K) (hb:b≤16384) (ha : ∀ a,(f a).all DV.one=true) (hbig:l.length+1≤4294967296) :
  appX (h++oT f l) K b (oV k K l) 1 (f x)=some (oV k K (l++[x]),h++oT f (l++[x])):=by
 have:=z612 (cs:=[x]) (b:=b) hp hu h0 hb ha hbig
 simpa using this
theorem zigm {k:Nat} {l:List α} {h:List AObj} (hp:h.length=k) (hu : ∀ a,(f a).length=K) (hf : ∀ a,zbao (f a)=true) (hb:l.length≤4294967296) {r:List AObj}:snap (h++(oT f l++r)) 3 (oV k K l)=some ((ownN l).dv K f):=by
 by_cases e:l=[]
 ·subst e; rw [z2i7]; rfl
 ·rw [zpni e,zu2l e,zgr3 e hb,zve7]
  have ho:objV (h++([AObj.cells (fl f l)]++r)) k (l.length*K)=some (fl f l):=by
   unfold objV ziu0
   rw [List.getElem?_append_right (by omega),show k-h.length=0 by omega]
   simp [z8lx hu]
  rw [ho,Option.bind_some,List.drop_zero,z590 hu,List.take_length,z619 (zp6k hf _)]
  rfl
theorem zd81 {n:Nat} {l:List α} (hf : ∀ a,zbao (f a)=true):zlf2 n (oT f l)=true:=by
 unfold oT
 split
 ·rfl
 ·simp only [zlf2,fl,zmq5 _ _ (zp6k hf _),Bool.and_self]
theorem zv6o {k:Nat} {l:List α}:Am.below (k+(oT f l).length) (oV k K l)=true:=by
 unfold oV oT
 split<;>simp [Am.below]
end
def kLt (n:Nat):Nat→Bool:=fun id=>decide (id<n)
mutual
theorem zw9i {h:List AObj} (n:Nat) : ∀ (d:DV),Am.below n d=true→fzS (kLt n) h 3 d=some d
 | .agg cs,q=>by simp only [Am.below] at q; rw [zf3h,zw41 n cs q]; rfl
 | .tup cs,q=>by simp only [Am.below] at q; rw [zliz,zw41 n cs q]; rfl
 | .sl _ _ _ cs,q=>by simp only [Am.below] at q; rw [zfs9,zw41 n cs q]; rfl
 | .ref cs,q=>by simp only [Am.below] at q; rw [zeo2,zw41 n cs q]; rfl
 | .fn _ a b,q=>by simp only [Am.below,Bool.and_eq_true] at q; rw [z284,zw41 n a q.1,zw41 n b q.2]; rfl
 | .iface t v,q=>by
  simp only [Am.below] at q
  have:=zw9i (h:=h) n v q
  simp only [fzS,zcxt] at this ⊢
  rw [this]; rfl
 | .ms id ..,q=>by simp only [Am.below,decide_eq_true_eq] at q; rw [zi9r,if_pos (by simpa [kLt] using q)]
 | .mp id ..,q=>by simp only [Am.below,decide_eq_true_eq] at q; rw [zept,if_pos (by simpa [kLt] using q)]
 | .int ..,_=>zzxw rfl
 | .bool ..,_=>zzxw rfl
 | .str ..,_=>zzxw rfl
 | .nilp,_=>zzxw rfl
 | .nilm,_=>zzxw rfl
 | .nilf,_=>zzxw rfl
 | .nili,_=>zzxw rfl
 | .nils,_=>zzxw rfl
 | .junk,_=>zzxw rfl
theorem zw41 {h:List AObj} (n:Nat) : ∀ (l:List DV),z1r6 n l=true→fzSo (kLt n) h 3 l=some l
 | [],_=>zmvq
 | d::r,q=>by simp only [z1r6,Bool.and_eq_true] at q; rw [zhuj,zw9i n d q.1,zw41 n r q.2]; rfl
end
theorem zd3c {h:List AObj} {n:Nat} {d:DV} (q:Am.below n d=true):mk1 (kLt n) h d=d:=zwy6 (zw9i n d q)
theorem zxf4 {h:List AObj} {n:Nat} : ∀ {l:List DV},z1r6 n l=true→mkL (kLt n) h l=l
 | [],_=>rfl
 | d::r,q=>by simp only [z1r6,Bool.and_eq_true] at q; rw [z8t0,zd3c q.1,zxf4 q.2]
theorem z6z7 {h:List AObj} {n:Nat} : ∀ {l:List AObj} {i:Nat},i+l.length≤n→zlf2 n l=true→mkO (kLt n) h i l=l
 | [],i,_,_=>rfl
 | .cells a::r,i,hi,q=>by
  simp only [zlf2,Bool.and_eq_true] at q
  simp only [List.length_cons] at hi
  rw [ztik,if_pos (by simp [kLt]; omega),zxf4 q.1,z6z7 (by omega) q.2]
 | .dead::r,i,hi,q=>by
  simp only [zlf2] at q
  simp only [List.length_cons] at hi
  rw [zsk4,z6z7 (by omega) q]
theorem z26m {K:Nat→Bool} {h:List AObj} : ∀ {a b:List AObj} {i:Nat},mkO K h i (a++b)=mkO K h i a++mkO K h (i+a.length) b
 | [],b,i=>rfl
 | .cells c::r,b,i=>by rw [List.cons_append,ztik,ztik,z26m,List.cons_append,List.length_cons,Nat.add_assoc,Nat.add_comm 1]
 | .dead::r,b,i=>by rw [List.cons_append,zsk4,zsk4,z26m,List.cons_append,List.length_cons,Nat.add_assoc,Nat.add_comm 1]
theorem zz5t {H:List AObj} {cs:List DV} {off:Nat} (hp:zbao cs=true):mk1 (kLt H.length) (H++[.cells cs]) (.mp H.length cs.length off) = .ref (cs.drop off):=by
 refine zwy6 ?_
 have ho:objV (H++[AObj.cells cs]) H.length cs.length=some cs:=by
  unfold objV ziu0
  rw [List.getElem?_append_right (Nat.le_refl _),Nat.sub_self]; simp
 have hd:zbao (cs.drop off)=true:=by
  have : ∀ (l:List DV) (k:Nat),zbao l=true→zbao (l.drop k)=true:=by
   intro l
   induction l with
   | nil=>intro k _; simp [zbao]
   | cons d r ih =>
    intro k h
    simp only [zbao,Bool.and_eq_true] at h
    cases k with
    | zero=>simp [zbao,h]
    | succ k=>exact ih k h.2
  exact this _ _ hp
 rw [zept,if_neg (by simp [kLt]),ho,Option.bind_some,zl6f hd]; rfl
theorem zs10 {P:Program} {n0:Nat} {x:ACode} {Φ:AExit→St→Prop} {t t':List DV} {H:List AObj} {cs:List DV} (hH:zlf2 H.length H=true) (hn:n0≤H.length)
  (ht:znqe (mkL (kLt H.length) (H++[.cells cs]) t) t') (hb:z1r6 H.length t'=true) (h:V P n0 x Φ ⟨t',H⟩):V P n0 x Φ ⟨t,H++[.cells cs]⟩:=by
 refine V_mk (kLt H.length) ?_
 rw [z26m,z6z7 (by omega) hH,ztik,if_neg (by simp [kLt]),zfxb]
 exact zqfd (zju2 (tail:=[.dead]) ht rfl hn hb hH) h
end Go.Proofs.YtjknipdiglpnlaaDoor
set_option linter.unusedSimpArgs false
set_option linter.unusedVariables false
namespace Go.Proofs.YtjknipdiglpnlaaDoor
open Go Go.Am
structure Ent where
 path:Str
 dg:Dg
 deriving DecidableEq
def enC (x:Ent):List DV:=(.str x.path)::(dgC x.dg)
theorem zuso (x:Ent):(enC x).length=33:=by simp [enC,z1t1]
theorem zt9q (x:Ent):zbao (enC x)=true:=by
 unfold enC
 simp only [zbao,zyp8,Bool.true_and]; exact z6je _
theorem zxv7 {a b:Ent} (e:enC a=enC b):a=b:=by
 obtain ⟨a0,a1⟩:=a
 obtain ⟨b0,b1⟩:=b
 simp only [enC,List.cons.injEq,DV.str.injEq] at e
 rw [e.1,zib9 e.2]
theorem z6p9 {x:Ent}:oneC 33 true (enC x)=some (.agg (enC x)):=by simp [oneC,zuso,List.take_of_length_le]
theorem zfqa {x:Ent} {off n:Nat} {a:Bool} (hl:off+n≤33):zhj0 off n a (.agg (enC x))=oneC n a ((enC x).drop off):=by simp [zhj0,zuso,hl]
theorem z6eq {x:Ent} {n:Nat}:z1r6 n (enC x)=true:=zmq5 n _ (zt9q x)
theorem zo6u {x:Ent}:(enC x).all DV.one=true:=by simp only [enC,List.all_cons,List.all_append,zoxk,zzmf,z3gw,zxyr,z4ja,List.all_nil,Bool.and_self]
theorem zrai {x:Ent} {h:List AObj} {id:Nat} {l:List DV} (hl:l.length=33):zy6o h id 33 0 (.agg (enC x)) (some l)=some (.junk,h.set id (.cells (enC x))):=zfc1 (zuso x) hl zo6u
theorem z5qg {h:List AObj} {k:Nat} {x:Ent}:z4tt h k (enC x)=some (enC x):=z619 (zt9q x)
theorem zyjb {K:Nat→Bool} {h:List AObj} {x:Ent}:mkL K h (enC x)=enC x:=zrip (zt9q x)
theorem z5fr {x:Ent}:oneC 1 false (enC x)=some (.str x.path):=rfl
theorem z88p {x:Ent}:oneC 32 true ((enC x).drop 1)=some (.agg (dgC x.dg)):=by show oneC 32 true (dgC x.dg)=_; simp [oneC,z1t1,List.take_of_length_le]
structure Vrb where
 nm:Str
 vl:Str
 deriving DecidableEq
def vaC (x:Vrb):List DV:=(.str x.nm)::([.str x.vl])
theorem zqri (x:Vrb):(vaC x).length=2:=by simp [vaC,z1t1]
theorem zxwt (x:Vrb):zbao (vaC x)=true:=by
 unfold vaC
 simp [zbao,zyp8]
theorem ztro {a b:Vrb} (e:vaC a=vaC b):a=b:=by
 obtain ⟨a0,a1⟩:=a
 obtain ⟨b0,b1⟩:=b
 simp only [vaC,List.cons.injEq,DV.int.injEq,DV.str.injEq,DV.bool.injEq,true_and,and_true] at e
 rw [e.1,e.2]
theorem zieq {x:Vrb}:oneC 2 true (vaC x)=some (.agg (vaC x)):=by simp [oneC,zqri,List.take_of_length_le]
theorem zegk {x:Vrb} {off n:Nat} {a:Bool} (hl:off+n≤2):zhj0 off n a (.agg (vaC x))=oneC n a ((vaC x).drop off):=by simp [zhj0,zqri,hl]
theorem zw37 {x:Vrb} {n:Nat}:z1r6 n (vaC x)=true:=zmq5 n _ (zxwt x)
theorem z4t4 {x:Vrb}:(vaC x).all DV.one=true:=by simp only [vaC,List.all_cons,List.all_append,zoxk,zzmf,z3gw,zxyr,z4ja,List.all_nil,Bool.and_self]
theorem zjux {x:Vrb} {h:List AObj} {id:Nat} {l:List DV} (hl:l.length=2):zy6o h id 2 0 (.agg (vaC x)) (some l)=some (.junk,h.set id (.cells (vaC x))):=zfc1 (zqri x) hl z4t4
theorem z3av {h:List AObj} {k:Nat} {x:Vrb}:z4tt h k (vaC x)=some (vaC x):=z619 (zxwt x)
theorem zfqg {K:Nat→Bool} {h:List AObj} {x:Vrb}:mkL K h (vaC x)=vaC x:=zrip (zxwt x)
theorem zh4z {x:Vrb}:oneC 1 false (vaC x)=some (.str x.nm):=rfl
theorem zu5l {x:Vrb}:oneC 1 false ((vaC x).drop 1)=some (.str x.vl):=rfl
structure Rec where
 run:Str
 scope:Str
 step:Str
 at_:Int
 cmd:Sl Str
 env:Sl Vrb
 m:Sl Ent
 p:Sl Ent
def reC (x:Rec):List DV:=(.str x.run)::((.str x.scope)::((.str x.step)::((.int .i64 x.at_)::((x.cmd.dv 1 stC)::((x.env.dv 2 vaC)::((x.m.dv 33 enC)::([x.p.dv 33 enC])))))))
theorem z74o (x:Rec):(reC x).length=8:=by simp [reC,z1t1]
theorem zfuu (x:Sl Str):zyp8 (x.dv 1 stC)=true:=zxxb zds6 x
theorem zlgv {n:Nat} {x:Sl Str}:Am.below n (x.dv 1 stC)=true:=z8b8 n _ (zfuu x)
theorem zdef {x y:Sl Str} (e:x.dv 1 stC=y.dv 1 stC):x=y:=zcq7 zqv6 (by decide) (fun _ _=>zwaz) e
theorem z0a9 (x:Sl Vrb):zyp8 (x.dv 2 vaC)=true:=zxxb zxwt x
theorem zs4d {n:Nat} {x:Sl Vrb}:Am.below n (x.dv 2 vaC)=true:=z8b8 n _ (z0a9 x)
theorem zvyz {x y:Sl Vrb} (e:x.dv 2 vaC=y.dv 2 vaC):x=y:=zcq7 zqri (by decide) (fun _ _=>ztro) e
theorem zru8 (x:Sl Ent):zyp8 (x.dv 33 enC)=true:=zxxb zt9q x
theorem zb48 {n:Nat} {x:Sl Ent}:Am.below n (x.dv 33 enC)=true:=z8b8 n _ (zru8 x)
theorem zdvs {x y:Sl Ent} (e:x.dv 33 enC=y.dv 33 enC):x=y:=zcq7 zuso (by decide) (fun _ _=>zxv7) e
theorem zqkx (x:Rec):zbao (reC x)=true:=by
 unfold reC
 simp [zbao,zyp8,zfuu,z0a9,zru8]
theorem zre0 {a b:Rec} (e:reC a=reC b):a=b:=by
 obtain ⟨a0,a1,a2,a3,a4,a5,a6,a7⟩:=a
 obtain ⟨b0,b1,b2,b3,b4,b5,b6,b7⟩:=b
 simp only [reC,List.cons.injEq,DV.int.injEq,DV.str.injEq,DV.bool.injEq,true_and,and_true] at e
 rw [e.1,e.2.1,e.2.2.1,e.2.2.2.1,zdef (e.2.2.2.2.1),zvyz (e.2.2.2.2.2.1),zdvs (e.2.2.2.2.2.2.1),zdvs (e.2.2.2.2.2.2.2)]
theorem zbr1 {x:Rec}:oneC 8 true (reC x)=some (.agg (reC x)):=by simp [oneC,z74o,List.take_of_length_le]
theorem zqc3 {x:Rec} {off n:Nat} {a:Bool} (hl:off+n≤8):zhj0 off n a (.agg (reC x))=oneC n a ((reC x).drop off):=by simp [zhj0,z74o,hl]
theorem zwhl {x:Rec} {n:Nat}:z1r6 n (reC x)=true:=zmq5 n _ (zqkx x)
theorem z8jm {x:Rec}:(reC x).all DV.one=true:=by simp only [reC,List.all_cons,List.all_append,zoxk,zzmf,z3gw,zxyr,z4ja,List.all_nil,Bool.and_self]
theorem zhem {x:Rec} {h:List AObj} {id:Nat} {l:List DV} (hl:l.length=8):zy6o h id 8 0 (.agg (reC x)) (some l)=some (.junk,h.set id (.cells (reC x))):=zfc1 (z74o x) hl z8jm
theorem zopz {h:List AObj} {k:Nat} {x:Rec}:z4tt h k (reC x)=some (reC x):=z619 (zqkx x)
theorem zish {K:Nat→Bool} {h:List AObj} {x:Rec}:mkL K h (reC x)=reC x:=zrip (zqkx x)
theorem zwo9 {x:Rec}:oneC 1 false (reC x)=some (.str x.run):=rfl
theorem z5cj {x:Rec}:oneC 1 false ((reC x).drop 1)=some (.str x.scope):=rfl
theorem zhaq {x:Rec}:oneC 1 false ((reC x).drop 2)=some (.str x.step):=rfl
theorem zb4u {x:Rec}:oneC 1 false ((reC x).drop 3)=some (.int .i64 x.at_):=rfl
theorem zgok {x:Rec}:oneC 1 false ((reC x).drop 4)=some (x.cmd.dv 1 stC):=rfl
theorem zhl9 {x:Rec}:oneC 1 false ((reC x).drop 5)=some (x.env.dv 2 vaC):=rfl
theorem z05i {x:Rec}:oneC 1 false ((reC x).drop 6)=some (x.m.dv 33 enC):=rfl
theorem zbc5 {x:Rec}:oneC 1 false ((reC x).drop 7)=some (x.p.dv 33 enC):=rfl
structure Att where
 own:Str
 rc:Rec
def atC (x:Att):List DV:=(.str x.own)::(reC x.rc)
theorem zu2q (x:Att):(atC x).length=9:=by simp [atC,z1t1,z74o]
theorem z83l (x:Att):zbao (atC x)=true:=by
 unfold atC
 simp [zbao,zyp8,zqkx]
theorem zpr0 {a b:Att} (e:atC a=atC b):a=b:=by
 obtain ⟨a0,a1⟩:=a
 obtain ⟨b0,b1⟩:=b
 simp only [atC,List.cons.injEq,DV.str.injEq] at e
 rw [e.1,zre0 e.2]
theorem znv7 {x:Att}:oneC 9 true (atC x)=some (.agg (atC x)):=by simp [oneC,zu2q,List.take_of_length_le]
theorem zxu4 {x:Att} {off n:Nat} {a:Bool} (hl:off+n≤9):zhj0 off n a (.agg (atC x))=oneC n a ((atC x).drop off):=by simp [zhj0,zu2q,hl]
theorem z03k {x:Att} {n:Nat}:z1r6 n (atC x)=true:=zmq5 n _ (z83l x)
theorem zwh8 {x:Att}:(atC x).all DV.one=true:=by simp only [atC,List.all_cons,List.all_append,zoxk,zzmf,z3gw,zxyr,z4ja,List.all_nil,Bool.and_self,z8jm]
theorem z5ch {x:Att} {h:List AObj} {id:Nat} {l:List DV} (hl:l.length=9):zy6o h id 9 0 (.agg (atC x)) (some l)=some (.junk,h.set id (.cells (atC x))):=zfc1 (zu2q x) hl zwh8
theorem zf52 {h:List AObj} {k:Nat} {x:Att}:z4tt h k (atC x)=some (atC x):=z619 (z83l x)
theorem zt28 {K:Nat→Bool} {h:List AObj} {x:Att}:mkL K h (atC x)=atC x:=zrip (z83l x)
theorem zkpj {x:Att}:oneC 1 false (atC x)=some (.str x.own):=rfl
theorem zo7q {x:Att}:oneC 8 true ((atC x).drop 1)=some (.agg (reC x.rc)):=rfl
theorem z6lh {x:Att}:oneC 1 false ((atC x).drop 1)=some (.str x.rc.run):=rfl
theorem zo6a {x:Att}:oneC 1 false ((atC x).drop 2)=some (.str x.rc.scope):=rfl
theorem z77v {x:Att}:oneC 1 false ((atC x).drop 3)=some (.str x.rc.step):=rfl
theorem zn34 {x:Att}:oneC 1 false ((atC x).drop 4)=some (.int .i64 x.rc.at_):=rfl
theorem zyok {x:Att}:oneC 1 false ((atC x).drop 5)=some (x.rc.cmd.dv 1 stC):=rfl
theorem zapw {x:Att}:oneC 1 false ((atC x).drop 6)=some (x.rc.env.dv 2 vaC):=rfl
theorem z7jb {x:Att}:oneC 1 false ((atC x).drop 7)=some (x.rc.m.dv 33 enC):=rfl
theorem zh1e {x:Att}:oneC 1 false ((atC x).drop 8)=some (x.rc.p.dv 33 enC):=rfl
structure Lnk where
 step:Str
 m:Sl Ent
 p:Sl Ent
def lkC (x:Lnk):List DV:=(.str x.step)::((x.m.dv 33 enC)::([x.p.dv 33 enC]))
theorem z9tw (x:Lnk):(lkC x).length=3:=by simp [lkC,z1t1]
theorem z53g (x:Lnk):zbao (lkC x)=true:=by
 unfold lkC
 simp [zbao,zyp8,zru8]
theorem zja4 {a b:Lnk} (e:lkC a=lkC b):a=b:=by
 obtain ⟨a0,a1,a2⟩:=a
 obtain ⟨b0,b1,b2⟩:=b
 simp only [lkC,List.cons.injEq,DV.int.injEq,DV.str.injEq,DV.bool.injEq,true_and,and_true] at e
 rw [e.1,zdvs (e.2.1),zdvs (e.2.2)]
theorem zrer {x:Lnk}:oneC 3 true (lkC x)=some (.agg (lkC x)):=by simp [oneC,z9tw,List.take_of_length_le]
theorem zvzp {x:Lnk} {off n:Nat} {a:Bool} (hl:off+n≤3):zhj0 off n a (.agg (lkC x))=oneC n a ((lkC x).drop off):=by simp [zhj0,z9tw,hl]
theorem zlpm {x:Lnk} {n:Nat}:z1r6 n (lkC x)=true:=zmq5 n _ (z53g x)
theorem z6ct {x:Lnk}:(lkC x).all DV.one=true:=by simp only [lkC,List.all_cons,List.all_append,zoxk,zzmf,z3gw,zxyr,z4ja,List.all_nil,Bool.and_self]
theorem z6cz {x:Lnk} {h:List AObj} {id:Nat} {l:List DV} (hl:l.length=3):zy6o h id 3 0 (.agg (lkC x)) (some l)=some (.junk,h.set id (.cells (lkC x))):=zfc1 (z9tw x) hl z6ct
theorem z9r1 {h:List AObj} {k:Nat} {x:Lnk}:z4tt h k (lkC x)=some (lkC x):=z619 (z53g x)
theorem zcto {K:Nat→Bool} {h:List AObj} {x:Lnk}:mkL K h (lkC x)=lkC x:=zrip (z53g x)
theorem z380 {x:Lnk}:oneC 1 false (lkC x)=some (.str x.step):=rfl
theorem zfi3 {x:Lnk}:oneC 1 false ((lkC x).drop 1)=some (x.m.dv 33 enC):=rfl
theorem zj40 {x:Lnk}:oneC 1 false ((lkC x).drop 2)=some (x.p.dv 33 enC):=rfl
structure Vot where
 own:Str
 lnk:Lnk
def voC (x:Vot):List DV:=(.str x.own)::(lkC x.lnk)
theorem zu4u (x:Vot):(voC x).length=4:=by simp [voC,z1t1,z9tw]
theorem zc6g (x:Vot):zbao (voC x)=true:=by
 unfold voC
 simp [zbao,zyp8,z53g]
theorem zkbi {a b:Vot} (e:voC a=voC b):a=b:=by
 obtain ⟨a0,a1⟩:=a
 obtain ⟨b0,b1⟩:=b
 simp only [voC,List.cons.injEq,DV.str.injEq] at e
 rw [e.1,zja4 e.2]
theorem zhol {x:Vot}:oneC 4 true (voC x)=some (.agg (voC x)):=by simp [oneC,zu4u,List.take_of_length_le]
theorem ztkf {x:Vot} {off n:Nat} {a:Bool} (hl:off+n≤4):zhj0 off n a (.agg (voC x))=oneC n a ((voC x).drop off):=by simp [zhj0,zu4u,hl]
theorem zv6a {x:Vot} {n:Nat}:z1r6 n (voC x)=true:=zmq5 n _ (zc6g x)
theorem z0cw {x:Vot}:(voC x).all DV.one=true:=by simp only [voC,List.all_cons,List.all_append,zoxk,zzmf,z3gw,zxyr,z4ja,List.all_nil,Bool.and_self,z6ct]
theorem zuf9 {x:Vot} {h:List AObj} {id:Nat} {l:List DV} (hl:l.length=4):zy6o h id 4 0 (.agg (voC x)) (some l)=some (.junk,h.set id (.cells (voC x))):=zfc1 (zu4u x) hl z0cw
theorem znis {h:List AObj} {k:Nat} {x:Vot}:z4tt h k (voC x)=some (voC x):=z619 (zc6g x)
theorem zo6e {K:Nat→Bool} {h:List AObj} {x:Vot}:mkL K h (voC x)=voC x:=zrip (zc6g x)
theorem z28l {x:Vot}:oneC 1 false (voC x)=some (.str x.own):=rfl
theorem zkpz {x:Vot}:oneC 3 true ((voC x).drop 1)=some (.agg (lkC x.lnk)):=rfl
theorem zsoe {x:Vot}:oneC 1 false ((voC x).drop 1)=some (.str x.lnk.step):=rfl
theorem z2y7 {x:Vot}:oneC 1 false ((voC x).drop 2)=some (x.lnk.m.dv 33 enC):=rfl
theorem zctd {x:Vot}:oneC 1 false ((voC x).drop 3)=some (x.lnk.p.dv 33 enC):=rfl
structure Agr where
 lnk:Lnk
 owners:Sl Str
 eqv:Sl Str
def agC (x:Agr):List DV:=lkC x.lnk++((x.owners.dv 1 stC)::([x.eqv.dv 1 stC]))
theorem znh2 (x:Agr):(agC x).length=5:=by simp [agC,z1t1,z9tw]
theorem z1u0 (x:Agr):zbao (agC x)=true:=by
 unfold agC
 exact zg0c (z53g _) (by simp [zbao,zfuu])
theorem zum4 {a b:Agr} (e:agC a=agC b):a=b:=by
 obtain ⟨a0,a1,a2⟩:=a
 obtain ⟨b0,b1,b2⟩:=b
 obtain ⟨e1,e2⟩:=List.append_inj (s₁:=lkC a0) (s₂:=lkC b0) e (by rw [z9tw,z9tw])
 simp only [List.cons.injEq,and_true] at e2
 rw [zja4 e1,zdef e2.1,zdef e2.2]
theorem zd17 {x:Agr}:oneC 5 true (agC x)=some (.agg (agC x)):=by simp [oneC,znh2,List.take_of_length_le]
theorem zi6g {x:Agr} {off n:Nat} {a:Bool} (hl:off+n≤5):zhj0 off n a (.agg (agC x))=oneC n a ((agC x).drop off):=by simp [zhj0,znh2,hl]
theorem zegd {x:Agr} {n:Nat}:z1r6 n (agC x)=true:=zmq5 n _ (z1u0 x)
theorem z892 {x:Agr}:(agC x).all DV.one=true:=by simp only [agC,List.all_cons,List.all_append,zoxk,zzmf,z3gw,zxyr,z4ja,List.all_nil,Bool.and_self,z6ct]
theorem z2q5 {x:Agr} {h:List AObj} {id:Nat} {l:List DV} (hl:l.length=5):zy6o h id 5 0 (.agg (agC x)) (some l)=some (.junk,h.set id (.cells (agC x))):=zfc1 (znh2 x) hl z892
theorem zki6 {h:List AObj} {k:Nat} {x:Agr}:z4tt h k (agC x)=some (agC x):=z619 (z1u0 x)
theorem z454 {K:Nat→Bool} {h:List AObj} {x:Agr}:mkL K h (agC x)=agC x:=zrip (z1u0 x)
theorem zrbu {x:Agr}:oneC 3 true (agC x)=some (.agg (lkC x.lnk)):=rfl
theorem z0wg {x:Agr}:oneC 1 false (agC x)=some (.str x.lnk.step):=rfl
theorem zu3j {x:Agr}:oneC 1 false ((agC x).drop 1)=some (x.lnk.m.dv 33 enC):=rfl
theorem z14s {x:Agr}:oneC 1 false ((agC x).drop 2)=some (x.lnk.p.dv 33 enC):=rfl
theorem zntj {x:Agr}:oneC 1 false ((agC x).drop 3)=some (x.owners.dv 1 stC):=rfl
theorem z1r2 {x:Agr}:oneC 1 false ((agC x).drop 4)=some (x.eqv.dv 1 stC):=rfl
structure Rul where
 kind:Int
 pat:Str
 frm:Str
 prod:Bool
 inn:Str
 to:Str
 deriving DecidableEq
def ruC (x:Rul):List DV:=(.int .i64 x.kind)::((.str x.pat)::((.str x.frm)::((.bool x.prod)::((.str x.inn)::([.str x.to])))))
theorem zpvo (x:Rul):(ruC x).length=6:=by simp [ruC,z1t1]
theorem z3bz (x:Rul):zbao (ruC x)=true:=by
 unfold ruC
 simp [zbao,zyp8]
theorem z49a {a b:Rul} (e:ruC a=ruC b):a=b:=by
 obtain ⟨a0,a1,a2,a3,a4,a5⟩:=a
 obtain ⟨b0,b1,b2,b3,b4,b5⟩:=b
 simp only [ruC,List.cons.injEq,DV.int.injEq,DV.str.injEq,DV.bool.injEq,true_and,and_true] at e
 rw [e.1,e.2.1,e.2.2.1,e.2.2.2.1,e.2.2.2.2.1,e.2.2.2.2.2]
theorem zxsc {x:Rul}:oneC 6 true (ruC x)=some (.agg (ruC x)):=by simp [oneC,zpvo,List.take_of_length_le]
theorem z5ml {x:Rul} {off n:Nat} {a:Bool} (hl:off+n≤6):zhj0 off n a (.agg (ruC x))=oneC n a ((ruC x).drop off):=by simp [zhj0,zpvo,hl]
theorem ziwl {x:Rul} {n:Nat}:z1r6 n (ruC x)=true:=zmq5 n _ (z3bz x)
theorem zqv3 {x:Rul}:(ruC x).all DV.one=true:=by simp only [ruC,List.all_cons,List.all_append,zoxk,zzmf,z3gw,zxyr,z4ja,List.all_nil,Bool.and_self]
theorem z3hv {x:Rul} {h:List AObj} {id:Nat} {l:List DV} (hl:l.length=6):zy6o h id 6 0 (.agg (ruC x)) (some l)=some (.junk,h.set id (.cells (ruC x))):=zfc1 (zpvo x) hl zqv3
theorem zh3r {h:List AObj} {k:Nat} {x:Rul}:z4tt h k (ruC x)=some (ruC x):=z619 (z3bz x)
theorem znpy {K:Nat→Bool} {h:List AObj} {x:Rul}:mkL K h (ruC x)=ruC x:=zrip (z3bz x)
theorem zdj1 {x:Rul}:oneC 1 false (ruC x)=some (.int .i64 x.kind):=rfl
theorem zrx3 {x:Rul}:oneC 1 false ((ruC x).drop 1)=some (.str x.pat):=rfl
theorem zuq2 {x:Rul}:oneC 1 false ((ruC x).drop 2)=some (.str x.frm):=rfl
theorem zhx9 {x:Rul}:oneC 1 false ((ruC x).drop 3)=some (.bool x.prod):=rfl
theorem z9c8 {x:Rul}:oneC 1 false ((ruC x).drop 4)=some (.str x.inn):=rfl
theorem z9al {x:Rul}:oneC 1 false ((ruC x).drop 5)=some (.str x.to):=rfl
structure Spc where
 name:Str
 del:Bool
 thr:Int
 by_:Sl Str
 cmd:Sl Str
 mats:Sl Rul
 prods:Sl Rul
def spC (x:Spc):List DV:=(.str x.name)::((.bool x.del)::((.int .i64 x.thr)::((x.by_.dv 1 stC)::((x.cmd.dv 1 stC)::((x.mats.dv 6 ruC)::([x.prods.dv 6 ruC]))))))
theorem zz68 (x:Spc):(spC x).length=7:=by simp [spC,z1t1]
theorem zy5l (x:Sl Rul):zyp8 (x.dv 6 ruC)=true:=zxxb z3bz x
theorem zxqp {n:Nat} {x:Sl Rul}:Am.below n (x.dv 6 ruC)=true:=z8b8 n _ (zy5l x)
theorem z041 {x y:Sl Rul} (e:x.dv 6 ruC=y.dv 6 ruC):x=y:=zcq7 zpvo (by decide) (fun _ _=>z49a) e
theorem zhi7 (x:Spc):zbao (spC x)=true:=by
 unfold spC
 simp [zbao,zyp8,zfuu,zy5l]
theorem z1d3 {a b:Spc} (e:spC a=spC b):a=b:=by
 obtain ⟨a0,a1,a2,a3,a4,a5,a6⟩:=a
 obtain ⟨b0,b1,b2,b3,b4,b5,b6⟩:=b
 simp only [spC,List.cons.injEq,DV.int.injEq,DV.str.injEq,DV.bool.injEq,true_and,and_true] at e
 rw [e.1,e.2.1,e.2.2.1,zdef (e.2.2.2.1),zdef (e.2.2.2.2.1),z041 (e.2.2.2.2.2.1),z041 (e.2.2.2.2.2.2)]
theorem z8s9 {x:Spc}:oneC 7 true (spC x)=some (.agg (spC x)):=by simp [oneC,zz68,List.take_of_length_le]
theorem zhc1 {x:Spc} {off n:Nat} {a:Bool} (hl:off+n≤7):zhj0 off n a (.agg (spC x))=oneC n a ((spC x).drop off):=by simp [zhj0,zz68,hl]
theorem z2i6 {x:Spc} {n:Nat}:z1r6 n (spC x)=true:=zmq5 n _ (zhi7 x)
theorem zb2j {x:Spc}:(spC x).all DV.one=true:=by simp only [spC,List.all_cons,List.all_append,zoxk,zzmf,z3gw,zxyr,z4ja,List.all_nil,Bool.and_self]
theorem zf01 {x:Spc} {h:List AObj} {id:Nat} {l:List DV} (hl:l.length=7):zy6o h id 7 0 (.agg (spC x)) (some l)=some (.junk,h.set id (.cells (spC x))):=zfc1 (zz68 x) hl zb2j
theorem z4nn {h:List AObj} {k:Nat} {x:Spc}:z4tt h k (spC x)=some (spC x):=z619 (zhi7 x)
theorem zuav {K:Nat→Bool} {h:List AObj} {x:Spc}:mkL K h (spC x)=spC x:=zrip (zhi7 x)
theorem zwo7 {x:Spc}:oneC 1 false (spC x)=some (.str x.name):=rfl
theorem zl3n {x:Spc}:oneC 1 false ((spC x).drop 1)=some (.bool x.del):=rfl
theorem z66y {x:Spc}:oneC 1 false ((spC x).drop 2)=some (.int .i64 x.thr):=rfl
theorem z5rd {x:Spc}:oneC 1 false ((spC x).drop 3)=some (x.by_.dv 1 stC):=rfl
theorem z436 {x:Spc}:oneC 1 false ((spC x).drop 4)=some (x.cmd.dv 1 stC):=rfl
theorem zop3 {x:Spc}:oneC 1 false ((spC x).drop 5)=some (x.mats.dv 6 ruC):=rfl
theorem z81m {x:Spc}:oneC 1 false ((spC x).drop 6)=some (x.prods.dv 6 ruC):=rfl
theorem z88i {a b:Ent}:z32s (zi5g [(1,1),(32,0)]) (enC a) (enC b)=some (decide (a=b)):=by
 have e:zi5g [(1,1),(32,0)]=[1]++zi5g [(32,0)]:=rfl
 have e2 : ∀ x:Ent,enC x=[.str x.path]++dgC x.dg:=fun x=>rfl
 rw [e,e2,e2,zid2 rfl rfl,zyiz]
 obtain ⟨a1,a2⟩:=a
 obtain ⟨b1,b2⟩:=b
 simp [z32s,znnj,zcn6]
theorem z7va {a b:Vrb}:z32s (zi5g [(2,1)]) (vaC a) (vaC b)=some (decide (a=b)):=by
 obtain ⟨a1,a2⟩:=a
 obtain ⟨b1,b2⟩:=b
 show z32s [1,1] _ _=_
 simp [vaC,z32s,znnj,zcn6]
attribute [simp] zuso zt9q z6p9 zfqa z6eq zrai z5qg zyjb z5fr z88p zqri zxwt zieq zegk zw37 zjux z3av zfqg zh4z zu5l zfuu zlgv z0a9 zs4d zru8 zb48 z74o zqkx zbr1 zqc3 zwhl zhem zopz zish zwo9 z5cj zhaq zb4u zgok zhl9 z05i zbc5 zu2q z83l znv7 zxu4 z03k z5ch zf52 zt28 zkpj zo7q z6lh zo6a z77v zn34 zyok zapw z7jb zh1e z9tw z53g zrer zvzp zlpm z6cz z9r1 zcto z380 zfi3 zj40 zu4u zc6g zhol ztkf zv6a zuf9 znis zo6e z28l zkpz zsoe z2y7 zctd znh2 z1u0 zd17 zi6g zegd z2q5 zki6 z454 zrbu z0wg zu3j z14s zntj z1r2 zpvo z3bz zxsc z5ml ziwl z3hv zh3r znpy zdj1 zrx3 zuq2 zhx9 z9c8 z9al zy5l zxqp zz68 zhi7 z8s9 zhc1 z2i6 zf01 z4nn zuav zwo7 zl3n z66y z5rd z436 zop3 z81m z88i z7va z3om zbw6 zes9 zds6
end Go.Proofs.YtjknipdiglpnlaaDoor
set_option linter.unusedSimpArgs false
set_option linter.unusedVariables false
namespace Go.Proofs.YtjknipdiglpnlaaDoor
open Go Go.Am
def fIx {α:Type} (p:α→Bool):List α→Int
 | [] => -1
 | a::l=>if p a then 0 else if fIx p l<0 then -1 else fIx p l+1
theorem z67l {α:Type} {p:α→Bool} : ∀ {l:List α} {i:Nat} (hi:i<l.length),p l[i]=true→(∀ j (h:j<l.length),j<i→p l[j]=false)→fIx p l=i
 | a::l,0,_,h,_=>by simp only [List.getElem_cons_zero] at h; simp [fIx,h]
 | a::l,i+1,hi,h,h2=>by
  have ha:p a=false:=h2 0 (by simp) (by omega)
  have ih:=z67l (p:=p) (l:=l) (i:=i) (by simpa using hi) (by simpa using h) fun j hj hji=>by
   have:=h2 (j+1) (by simpa using hj) (by omega)
   simpa using this
  simp only [fIx,ha,ih]
  rw [if_neg (by simp),if_neg (by omega)]; omega
theorem zf0r {α:Type} {p:α→Bool} : ∀ {l:List α},(∀ a ∈ l,p a=false)→fIx p l = -1
 | [],_=>rfl
 | a::l,h=>by
  have ih:=zf0r (p:=p) (l:=l) fun b hb=>h b (by simp [hb])
  simp [fIx,h a (by simp),ih]
theorem za4c {α:Type} (p:α→Bool) : ∀ (l:List α),(fIx p l = -1 ∧ ∀ a ∈ l,p a=false) ∨ ∃ i,∃ hi:i<l.length,fIx p l=i∧p l[i]=true ∧ ∀ j (h:j<l.length),j<i→p l[j]=false
 | [] => .inl ⟨rfl,fun a h=>by simp at h⟩
 | a::l=>by
  by_cases ha:p a=true
  ·exact .inr ⟨0,by simp,by simp [fIx,ha],by simpa using ha,fun j _ hj=>by omega⟩
  ·have ha:p a=false:=by simpa using ha
   rcases za4c p l with ⟨h1,h2⟩|⟨i,hi,h1,h2,h3⟩
   ·exact .inl ⟨by simp [fIx,ha,h1],fun b hb=>by
     rcases List.mem_cons.1 hb with rfl|hb
     ·exact ha
     ·exact h2 b hb⟩
   ·refine .inr ⟨i+1,by simpa using hi,?_,by simpa using h2,fun j hj hji => ?_⟩
    ·simp only [fIx,ha,h1]; rw [if_neg (by simp),if_neg (by omega)]; omega
    ·cases j with
     | zero=>exact ha
     | succ j=>simpa using h3 j (by simpa using hj) (by omega)
theorem zf3r {α:Type} [DecidableEq α] {v:α} {l:List α}:(0≤fIx (fun a=>decide (v=a)) l)↔v ∈ l:=by
 rcases za4c (fun a=>decide (v=a)) l with ⟨h1,h2⟩|⟨i,hi,h1,h2,_⟩
 ·rw [h1]
  exact ⟨fun q=>by omega,fun q=>by have:=h2 v q; simp at this⟩
 ·rw [h1]
  have e:v=l[i]:=by simpa using h2
  exact ⟨fun _=>e▸List.getElem_mem hi,fun _=>by omega⟩
def S900 (x y:Sl Str) (i:Nat):St:=z13x (x.dv 1 stC) (y.dv 1 stC) (.int .i64 x.l.length) (.int .i64 i) []
theorem zplh (x y:Sl Str):Runs tbl0 a82 [x.dv 1 stC,y.dv 1 stC] (.bool (decide (x.l=y.l))):=by
 refine ⟨?_⟩
 have hb:=x.b
 have hlx : ∀ H,lenD H (x.dv 1 stC)=some (.int .i64 x.l.length):=fun H=>zupj
 by_cases hl:x.l.length=y.l.length
 ·have hly : ∀ H,lenD H (y.dv 1 stC)=some (.int .i64 x.l.length):=fun H=>by rw [zupj,hl]
  simp (disch:=first|omega|simp<;>omega|fail) [-zA,-zB,-zC,-zD,-zE,a82,hlx,hly]
  refine zlm5 (S900 x y) (fun i=>x.l.length-i) (fun i=>i≤x.l.length ∧ ∀ j (h1:j<x.l.length) (h2:j<y.l.length),j<i→x.l[j]=y.l[j]) 0 (z515 (by simp (disch:=first|omega|simp<;>omega|fail) [-zA,-zB,-zC,-zD,-zE,S900,z13x]) (by simp (disch:=first|omega|simp<;>omega|fail) [-zA,-zB,-zC,-zD,-zE,S900,z13x])) ⟨by omega,fun j _ _ hj=>by omega⟩ (fun i hi => ?_)
  obtain ⟨q1,q2⟩:=hi
  simp only [S900]
  by_cases g:i<x.l.length
  ·have g':(i:Int)<x.l.length:=by omega
   have gy:i<y.l.length:=by omega
   have hx : ∀ H,zpsc H 1 (x.dv 1 stC) i=some (.ref (stC x.l[i])):=fun H=>zalo zqv6 g
   have hy : ∀ H,zpsc H 1 (y.dv 1 stC) i=some (.ref (stC y.l[i])):=fun H=>zalo zqv6 gy
   by_cases e:x.l[i]=y.l[i]
   ·have hinv : ∀ j (h1:j<x.l.length) (h2:j<y.l.length),j<i+1→x.l[j]=y.l[j]:=fun j h1 h2 hj=>by
     by_cases ej:j=i
     ·subst ej; exact e
     ·exact q2 j h1 h2 (by omega)
    obtain ⟨u,hu⟩ : ∃ u,x.l[i]=u:=⟨_,rfl⟩
    obtain ⟨v,hv⟩ : ∃ v,y.l[i]=v:=⟨_,rfl⟩
    rw [hu] at hx e
    rw [hv] at hy e
    simp (disch:=first|omega|simp<;>omega|fail) [-zA,-zB,-zC,-zD,-zE,zu6t,z13x,g,g',hx,hy,e,stC]
    exact ⟨i+1,z515 (by simp (disch:=first|omega|simp<;>omega|fail) [-zA,-zB,-zC,-zD,-zE,S900,z13x]) (by simp (disch:=first|omega|simp<;>omega|fail) [-zA,-zB,-zC,-zD,-zE,S900,z13x]),by omega,by omega,hinv⟩
   ·have hr:¬ x.l=y.l:=fun q=>e (by simp [q])
    obtain ⟨u,hu⟩ : ∃ u,x.l[i]=u:=⟨_,rfl⟩
    obtain ⟨v,hv⟩ : ∃ v,y.l[i]=v:=⟨_,rfl⟩
    rw [hu] at hx e
    rw [hv] at hy e
    simp (disch:=first|omega|simp<;>omega|fail) [-zA,-zB,-zC,-zD,-zE,zu6t,z13x,g,g',hx,hy,e,hr,stC]
  ·have g':¬ (i:Int)<x.l.length:=by omega
   have hr:x.l=y.l:=List.ext_getElem hl fun j h1 h2=>q2 j h1 h2 (by omega)
   rw [decide_eq_true hr]
   simp (disch:=first|omega|simp<;>omega|fail) [-zA,-zB,-zC,-zD,-zE,zu6t,z13x,g,g']
 ·have hl':¬ (x.l.length:Int)=y.l.length:=by omega
  have hr:¬ x.l=y.l:=fun q=>hl (by rw [q])
  have hly : ∀ H,lenD H (y.dv 1 stC)=some (.int .i64 y.l.length):=fun H=>zupj
  simp (disch:=first|omega|simp<;>omega|fail) [-zA,-zB,-zC,-zD,-zE,a82,hlx,hly,hl,hl',hr]
noncomputable def zsph:List DV→Option DV:=con (fun _=>True) (fun a:Sl Str × Sl Str=>[a.1.dv 1 stC,a.2.dv 1 stC]) (fun a => .bool (decide (a.1.l=a.2.l)))
theorem zxfs {x y:Sl Str}:zsph [x.dv 1 stC,y.dv 1 stC]=some (.bool (decide (x.l=y.l))) :=
 zsn4 (f:=fun a:Sl Str × Sl Str=>[a.1.dv 1 stC,a.2.dv 1 stC]) (g:=fun a => .bool (decide (a.1.l=a.2.l))) (by
  rintro ⟨a,b⟩ ⟨c,d⟩ e
  simp only [List.cons.injEq,and_true] at e
  rw [zdef e.1,zdef e.2]) (x,y)
theorem z0g7:(Con.pure zsph).Sound P 82:=z2au fun a _=>zljw mix zr5o Tryd.func82 zftu (zplh a.1 a.2)
def S901 (x y:Sl Ent) (i:Nat):St:=zh8t (x.dv 33 enC) (y.dv 33 enC) (.int .i64 x.l.length) (.int .i64 i) []
theorem z0lm (x y:Sl Ent):Runs tbl0 a55 [x.dv 33 enC,y.dv 33 enC] (.bool (decide (x.l=y.l))):=by
 refine ⟨?_⟩
 have hb:=x.b
 have hlx : ∀ H,lenD H (x.dv 33 enC)=some (.int .i64 x.l.length):=fun H=>zupj
 by_cases hl:x.l.length=y.l.length
 ·have hly : ∀ H,lenD H (y.dv 33 enC)=some (.int .i64 x.l.length):=fun H=>by rw [zupj,hl]
  simp (disch:=first|omega|simp<;>omega|fail) [-zA,-zB,-zC,-zD,-zE,a55,hlx,hly]
  refine zlm5 (S901 x y) (fun i=>x.l.length-i) (fun i=>i≤x.l.length ∧ ∀ j (h1:j<x.l.length) (h2:j<y.l.length),j<i→x.l[j]=y.l[j]) 0 (z515 (by simp (disch:=first|omega|simp<;>omega|fail) [-zA,-zB,-zC,-zD,-zE,S901,zh8t]) (by simp (disch:=first|omega|simp<;>omega|fail) [-zA,-zB,-zC,-zD,-zE,S901,zh8t])) ⟨by omega,fun j _ _ hj=>by omega⟩ (fun i hi => ?_)
  obtain ⟨q1,q2⟩:=hi
  simp only [S901]
  by_cases g:i<x.l.length
  ·have g':(i:Int)<x.l.length:=by omega
   have gy:i<y.l.length:=by omega
   have hx : ∀ H,zpsc H 33 (x.dv 33 enC) i=some (.ref (enC x.l[i])):=fun H=>zalo zuso g
   have hy : ∀ H,zpsc H 33 (y.dv 33 enC) i=some (.ref (enC y.l[i])):=fun H=>zalo zuso gy
   by_cases e:x.l[i]=y.l[i]
   ·have hinv : ∀ j (h1:j<x.l.length) (h2:j<y.l.length),j<i+1→x.l[j]=y.l[j]:=fun j h1 h2 hj=>by
     by_cases ej:j=i
     ·subst ej; exact e
     ·exact q2 j h1 h2 (by omega)
    obtain ⟨u,hu⟩ : ∃ u,x.l[i]=u:=⟨_,rfl⟩
    obtain ⟨v,hv⟩ : ∃ v,y.l[i]=v:=⟨_,rfl⟩
    rw [hu] at hx e
    rw [hv] at hy e
    simp (disch:=first|omega|simp<;>omega|fail) [-zA,-zB,-zC,-zD,-zE,z44u,zh8t,g,g',hx,hy,e]
    exact ⟨i+1,z515 (by simp (disch:=first|omega|simp<;>omega|fail) [-zA,-zB,-zC,-zD,-zE,S901,zh8t]) (by simp (disch:=first|omega|simp<;>omega|fail) [-zA,-zB,-zC,-zD,-zE,S901,zh8t]),by omega,by omega,hinv⟩
   ·have hr:¬ x.l=y.l:=fun q=>e (by simp [q])
    obtain ⟨u,hu⟩ : ∃ u,x.l[i]=u:=⟨_,rfl⟩
    obtain ⟨v,hv⟩ : ∃ v,y.l[i]=v:=⟨_,rfl⟩
    rw [hu] at hx e
    rw [hv] at hy e
    simp (disch:=first|omega|simp<;>omega|fail) [-zA,-zB,-zC,-zD,-zE,z44u,zh8t,g,g',hx,hy,e,hr]
  ·have g':¬ (i:Int)<x.l.length:=by omega
   have hr:x.l=y.l:=List.ext_getElem hl fun j h1 h2=>q2 j h1 h2 (by omega)
   rw [decide_eq_true hr]
   simp (disch:=first|omega|simp<;>omega|fail) [-zA,-zB,-zC,-zD,-zE,z44u,zh8t,g,g']
 ·have hl':¬ (x.l.length:Int)=y.l.length:=by omega
  have hr:¬ x.l=y.l:=fun q=>hl (by rw [q])
  have hly : ∀ H,lenD H (y.dv 33 enC)=some (.int .i64 y.l.length):=fun H=>zupj
  simp (disch:=first|omega|simp<;>omega|fail) [-zA,-zB,-zC,-zD,-zE,a55,hlx,hly,hl,hl',hr]
noncomputable def ztpz:List DV→Option DV:=con (fun _=>True) (fun a:Sl Ent × Sl Ent=>[a.1.dv 33 enC,a.2.dv 33 enC]) (fun a => .bool (decide (a.1.l=a.2.l)))
theorem zezl {x y:Sl Ent}:ztpz [x.dv 33 enC,y.dv 33 enC]=some (.bool (decide (x.l=y.l))) :=
 zsn4 (f:=fun a:Sl Ent × Sl Ent=>[a.1.dv 33 enC,a.2.dv 33 enC]) (g:=fun a => .bool (decide (a.1.l=a.2.l))) (by
  rintro ⟨a,b⟩ ⟨c,d⟩ e
  simp only [List.cons.injEq,and_true] at e
  rw [zdvs e.1,zdvs e.2]) (x,y)
theorem zhc9:(Con.pure ztpz).Sound P 55:=z2au fun a _=>zljw mix zr5o Tryd.func55 ze8s (z0lm a.1 a.2)
def zxyz (a b:Lnk):Bool:=decide (a.m.l=b.m.l)&&decide (a.p.l=b.p.l)
noncomputable def T900:Tbl:=addT 55 (.pure ztpz) tbl0
theorem z2vc:T900 55 = .pure ztpz:=by simp [T900]
theorem zbdm:T900.Sound P:=z0rp zhc9 zr5o
theorem z0ag (a b:Lnk):Runs T900 a13 [.agg (lkC a),.agg (lkC b)] (.bool (zxyz a b)):=by
 refine ⟨?_⟩
 have h1:=zezl (x:=a.m) (y:=b.m)
 have h2:=zezl (x:=a.p) (y:=b.p)
 unfold zxyz
 by_cases e:a.m.l=b.m.l
 ·simp (disch:=first|omega|simp<;>omega|fail) [-zA,-zB,-zC,-zD,-zE,a13,z2vc,h1,h2,e]
 ·simp (disch:=first|omega|simp<;>omega|fail) [-zA,-zB,-zC,-zD,-zE,a13,z2vc,h1,e]
noncomputable def cSmL:List DV→Option DV:=con (fun _=>True) (fun a:Lnk × Lnk=>[.agg (lkC a.1),.agg (lkC a.2)]) (fun a => .bool (zxyz a.1 a.2))
theorem zfc5 {a b:Lnk}:cSmL [.agg (lkC a),.agg (lkC b)]=some (.bool (zxyz a b)) :=
 zsn4 (f:=fun a:Lnk × Lnk=>[.agg (lkC a.1),.agg (lkC a.2)]) (g:=fun a => .bool (zxyz a.1 a.2)) (by
  rintro ⟨a,b⟩ ⟨c,d⟩ e
  simp only [List.cons.injEq,DV.agg.injEq,and_true] at e
  rw [zja4 e.1,zja4 e.2]) (a,b)
theorem zijq:(Con.pure cSmL).Sound P 13:=z2au fun a _=>zljw mix zbdm Tryd.func13 zm5y (z0ag a.1 a.2)
def S902 (x:Sl Str) (v:Str) (i:Nat):St:=zxuz (x.dv 1 stC) (.str v) (.int .i64 x.l.length) (.int .i64 i) []
theorem zlea (x:Sl Str) (v:Str):Runs tbl0 a168 [x.dv 1 stC,.str v] (.int .i64 (fIx (fun a=>decide (v=a)) x.l)):=by
 refine ⟨?_⟩
 have hb:=x.b
 simp (disch:=first|omega|simp<;>omega|fail) [-zA,-zB,-zC,-zD,-zE,a168]
 refine zlm5 (S902 x v) (fun i=>x.l.length-i) (fun i=>i≤x.l.length ∧ ∀ j (h:j<x.l.length),j<i→¬ v=x.l[j]) 0 (z515 (by simp (disch:=first|omega|simp<;>omega|fail) [-zA,-zB,-zC,-zD,-zE,S902,zxuz]) (by simp (disch:=first|omega|simp<;>omega|fail) [-zA,-zB,-zC,-zD,-zE,S902,zxuz])) ⟨by omega,fun j _ hj=>by omega⟩ (fun i hi => ?_)
 obtain ⟨q1,q2⟩:=hi
 simp only [S902]
 by_cases g:i<x.l.length
 ·have g':(i:Int)<x.l.length:=by omega
  have hx : ∀ H,zpsc H 1 (x.dv 1 stC) i=some (.ref [.str x.l[i]]):=fun H=>zalo zqv6 g
  by_cases e:v=x.l[i]
  ·have hr:fIx (fun a=>decide (v=a)) x.l=i:=z67l g (by simpa using e) (fun j h hj=>by simpa using q2 j h hj)
   obtain ⟨u,hu⟩ : ∃ u,x.l[i]=u:=⟨_,rfl⟩
   rw [hu] at hx e
   simp (disch:=first|omega|simp<;>omega|fail) [-zA,-zB,-zC,-zD,-zE,ze98,zxuz,g,g',hx,e.symm,hr]
   try (rw [e] at hr; simp (disch:=first|omega|simp<;>omega|fail) [-zA,-zB,-zC,-zD,-zE,hr])
  ·have hinv : ∀ j (h:j<x.l.length),j<i+1→¬ v=x.l[j]:=fun j hj hji=>by
    by_cases ej:j=i
    ·subst ej; exact e
    ·exact q2 j hj (by omega)
   obtain ⟨u,hu⟩ : ∃ u,x.l[i]=u:=⟨_,rfl⟩
   rw [hu] at hx e
   simp (disch:=first|omega|simp<;>omega|fail) [-zA,-zB,-zC,-zD,-zE,ze98,zxuz,g,g',hx,e]
   exact ⟨i+1,z515 (by simp (disch:=first|omega|simp<;>omega|fail) [-zA,-zB,-zC,-zD,-zE,S902,zxuz]) (by simp (disch:=first|omega|simp<;>omega|fail) [-zA,-zB,-zC,-zD,-zE,S902,zxuz]),by omega,by omega,hinv⟩
 ·have g':¬ (i:Int)<x.l.length:=by omega
  have hr:fIx (fun a=>decide (v=a)) x.l = -1:=zf0r fun a ha=>by
   obtain ⟨j,hj,e⟩:=List.getElem_of_mem ha
   have:=q2 j hj (by omega)
   rw [e] at this; simpa using this
  simp (disch:=first|omega|simp<;>omega|fail) [-zA,-zB,-zC,-zD,-zE,ze98,zxuz,g,g',hr]
noncomputable def cIxS:List DV→Option DV:=con (fun _=>True) (fun a:Sl Str × Str=>[a.1.dv 1 stC,.str a.2]) (fun a => .int .i64 (fIx (fun b=>decide (a.2=b)) a.1.l))
theorem zt5a {x:Sl Str} {v:Str}:cIxS [x.dv 1 stC,.str v]=some (.int .i64 (fIx (fun a=>decide (v=a)) x.l)) :=
 zsn4 (f:=fun a:Sl Str × Str=>[a.1.dv 1 stC,.str a.2]) (g:=fun a => .int .i64 (fIx (fun b=>decide (a.2=b)) a.1.l)) (by
  rintro ⟨a,b⟩ ⟨c,d⟩ e
  simp only [List.cons.injEq,DV.str.injEq,and_true] at e
  rw [zdef e.1,e.2]) (x,v)
theorem zt71:(Con.pure cIxS).Sound P 168:=z2au fun a _=>zljw mix zr5o Tryd.func168 ztbk (zlea a.1 a.2)
noncomputable def T902:Tbl:=addT 168 (.pure cIxS) tbl0
theorem zzgp:T902 168 = .pure cIxS:=by simp [T902]
theorem zu0f:T902.Sound P:=z0rp zt71 zr5o
theorem zcfc (x:Sl Str) (v:Str):Runs T902 a147 [x.dv 1 stC,.str v] (.bool (decide (v ∈ x.l))):=by
 refine ⟨?_⟩
 have h:=zt5a (x:=x) (v:=v)
 have hm:=zf3r (v:=v) (l:=x.l)
 obtain ⟨k,hk⟩ : ∃ k,fIx (fun a=>decide (v=a)) x.l=k:=⟨_,rfl⟩
 rw [hk] at h hm
 by_cases e:v ∈ x.l
 ·have g:=hm.2 e
  simp (disch:=first|omega|simp<;>omega|fail) [-zA,-zB,-zC,-zD,-zE,a147,zzgp,h,e,g]
 ·have g:¬ 0≤k:=fun q=>e (hm.1 q)
  simp (disch:=first|omega|simp<;>omega|fail) [-zA,-zB,-zC,-zD,-zE,a147,zzgp,h,e,g]
noncomputable def cCnS:List DV→Option DV:=con (fun _=>True) (fun a:Sl Str × Str=>[a.1.dv 1 stC,.str a.2]) (fun a => .bool (decide (a.2 ∈ a.1.l)))
theorem z061 {x:Sl Str} {v:Str}:cCnS [x.dv 1 stC,.str v]=some (.bool (decide (v ∈ x.l))) :=
 zsn4 (f:=fun a:Sl Str × Str=>[a.1.dv 1 stC,.str a.2]) (g:=fun a => .bool (decide (a.2 ∈ a.1.l))) (by
  rintro ⟨a,b⟩ ⟨c,d⟩ e
  simp only [List.cons.injEq,DV.str.injEq,and_true] at e
  rw [zdef e.1,e.2]) (x,v)
theorem z9cy:(Con.pure cCnS).Sound P 147:=z2au fun a _=>zljw mix zu0f Tryd.func147 z5yk (zcfc a.1 a.2)
def cpS {α:Type} (x:Sl α):Sl α:=if x.l=[] then x.clone else own x.l
theorem zvse (x:Sl Str):Runs tbl0 a169 [x.dv 1 stC] ((cpS x).dv 1 stC):=by
 refine ⟨?_⟩
 obtain ⟨k,l,h,hb⟩:=x
 cases k with
 | none =>
  have hl:l=[]:=h rfl
  subst hl
  simp (disch:=first|omega|simp<;>omega|fail) [-zA,-zB,-zC,-zD,-zE,a169,cpS,Sl.clone,z5oj]
 | some b =>
  have hb:l.length≤4294967296:=hb
  by_cases hl:l=[]
  ·subst hl; simp (disch:=first|omega|simp<;>omega|fail) [-zA,-zB,-zC,-zD,-zE,a169,z707,cpS,Sl.clone]
  ·have h1:=z1rq zqv6 l
   have h2:=z9jy (f:=stC) (fun _=>rfl) l
   have h3:0<l.length:=List.length_pos_iff.2 hl
   have h4:=fun H k=>z619 (h:=H) (k:=k) (zp6k zds6 l)
   have h5:(cpS ⟨some b,l,h,hb⟩:Sl Str).dv 1 stC = .sl false 1 l.length (l.flatMap stC):=by unfold cpS; rw [if_neg hl]; exact zqrs hb
   rw [h5]
   have h6:(l.flatMap stC).take (l.length)=l.flatMap stC:=List.take_of_length_le (by omega)
   simp (disch:=first|omega|simp<;>omega|fail) [-zA,-zB,-zC,-zD,-zE,a169,z707,fl,hl,h1,h2,h3,h4,h6]
noncomputable def z3gb:List DV→Option DV:=con (fun _=>True) (fun x:Sl Str=>[x.dv 1 stC]) (fun x=>(cpS x).dv 1 stC)
theorem zvlo {x:Sl Str}:z3gb [x.dv 1 stC]=some ((cpS x).dv 1 stC) :=
 zsn4 (f:=fun x:Sl Str=>[x.dv 1 stC]) (g:=fun x=>(cpS x).dv 1 stC) (fun a b e=>by simp only [List.cons.injEq,and_true] at e; exact zdef e) x
theorem zaw9:(Con.pure z3gb).Sound P 169:=z2au fun a _=>zljw mix zr5o Tryd.func169 zrqr (zvse a)
theorem zc6e (x:Sl Vrb):Runs tbl0 a170 [x.dv 2 vaC] ((cpS x).dv 2 vaC):=by
 refine ⟨?_⟩
 obtain ⟨k,l,h,hb⟩:=x
 cases k with
 | none =>
  have hl:l=[]:=h rfl
  subst hl
  simp (disch:=first|omega|simp<;>omega|fail) [-zA,-zB,-zC,-zD,-zE,a170,cpS,Sl.clone,z5oj]
 | some b =>
  have hb:l.length≤4294967296:=hb
  by_cases hl:l=[]
  ·subst hl; simp (disch:=first|omega|simp<;>omega|fail) [-zA,-zB,-zC,-zD,-zE,a170,z707,cpS,Sl.clone]
  ·have h1:=z1rq zqri l
   have h2:=z9jy (f:=vaC) (fun _=>z4t4) l
   have h3:0<l.length:=List.length_pos_iff.2 hl
   have h4:=fun H k=>z619 (h:=H) (k:=k) (zp6k zxwt l)
   have h5:(cpS ⟨some b,l,h,hb⟩:Sl Vrb).dv 2 vaC = .sl false 2 l.length (l.flatMap vaC):=by unfold cpS; rw [if_neg hl]; exact zqrs hb
   rw [h5]
   have h6:(l.flatMap vaC).take (l.length*2)=l.flatMap vaC:=List.take_of_length_le (by omega)
   simp (disch:=first|omega|simp<;>omega|fail) [-zA,-zB,-zC,-zD,-zE,a170,z707,fl,hl,h1,h2,h3,h4,h6]
noncomputable def z11o:List DV→Option DV:=con (fun _=>True) (fun x:Sl Vrb=>[x.dv 2 vaC]) (fun x=>(cpS x).dv 2 vaC)
theorem z8s7 {x:Sl Vrb}:z11o [x.dv 2 vaC]=some ((cpS x).dv 2 vaC) :=
 zsn4 (f:=fun x:Sl Vrb=>[x.dv 2 vaC]) (g:=fun x=>(cpS x).dv 2 vaC) (fun a b e=>by simp only [List.cons.injEq,and_true] at e; exact zvyz e) x
theorem zp3j:(Con.pure z11o).Sound P 170:=z2au fun a _=>zljw mix zr5o Tryd.func170 zpxs (zc6e a)
theorem zb2o (x:Sl Ent):Runs tbl0 a171 [x.dv 33 enC] ((cpS x).dv 33 enC):=by
 refine ⟨?_⟩
 obtain ⟨k,l,h,hb⟩:=x
 cases k with
 | none =>
  have hl:l=[]:=h rfl
  subst hl
  simp (disch:=first|omega|simp<;>omega|fail) [-zA,-zB,-zC,-zD,-zE,a171,cpS,Sl.clone,z5oj]
 | some b =>
  have hb:l.length≤4294967296:=hb
  by_cases hl:l=[]
  ·subst hl; simp (disch:=first|omega|simp<;>omega|fail) [-zA,-zB,-zC,-zD,-zE,a171,z707,cpS,Sl.clone]
  ·have h1:=z1rq zuso l
   have h2:=z9jy (f:=enC) (fun _=>zo6u) l
   have h3:0<l.length:=List.length_pos_iff.2 hl
   have h4:=fun H k=>z619 (h:=H) (k:=k) (zp6k zt9q l)
   have h5:(cpS ⟨some b,l,h,hb⟩:Sl Ent).dv 33 enC = .sl false 33 l.length (l.flatMap enC):=by unfold cpS; rw [if_neg hl]; exact zqrs hb
   rw [h5]
   have h6:(l.flatMap enC).take (l.length*33)=l.flatMap enC:=List.take_of_length_le (by omega)
   simp (disch:=first|omega|simp<;>omega|fail) [-zA,-zB,-zC,-zD,-zE,a171,z707,fl,hl,h1,h2,h3,h4,h6]
noncomputable def zziz:List DV→Option DV:=con (fun _=>True) (fun x:Sl Ent=>[x.dv 33 enC]) (fun x=>(cpS x).dv 33 enC)
theorem z4ix {x:Sl Ent}:zziz [x.dv 33 enC]=some ((cpS x).dv 33 enC) :=
 zsn4 (f:=fun x:Sl Ent=>[x.dv 33 enC]) (g:=fun x=>(cpS x).dv 33 enC) (fun a b e=>by simp only [List.cons.injEq,and_true] at e; exact zdvs e) x
theorem zzp6:(Con.pure zziz).Sound P 171:=z2au fun a _=>zljw mix zr5o Tryd.func171 zfpk (zb2o a)
end Go.Proofs.YtjknipdiglpnlaaDoor
