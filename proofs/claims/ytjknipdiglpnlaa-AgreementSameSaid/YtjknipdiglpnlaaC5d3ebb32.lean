/-
  24 texts of mine in one.
-/
import Derived.Lib.IndexLaws
import Derived.Test.YtjknipdiglpnlaaProg
import Derived.Test.YtjknipdiglpnlaaCcd3143aa
import Derived.Test.YtjknipdiglpnlaaCe656babf
import Derived.Test.YtjknipdiglpnlaaCf7009e0f
set_option maxRecDepth 20000
set_option maxHeartbeats 4000000
open List renaming map_take → zA, map_drop → zB, map_set → zC, map_append → zD, drop_one → zE
open Bool renaming and_eq_true → y02, and_self → y03, and_assoc → y0y
open List renaming take_of_length_le → y00, all_append → y01, flatMap_cons → y04, all_cons → y06, cons_append → y07, all_nil → y08, length_append → y09, length_cons → y0a, getElem?_eq_some_iff → y0b, getElem_of_mem → y0c, getElem_mem → y0d, length_map → y0e, getElem?_append_right → y0f, length_pos_iff → y0g, nil_append → y0h, eq_nil_of_length_eq_zero → y0i, getElem_append_left → y0m, drop_zero → y0n, getElem_cons_zero → y0o, append_nil → y0p, flatMap_append → y0q, drop_eq_getElem_cons → y0r, getElem?_append_left → y0s, getElem?_cons_succ → y0t, take_left' → y0u, drop_of_length_le → y0w, drop_drop → y0x, set_append_right → y0z, mem_cons → y10, map_cons → y11, reverse_append → y12, mem_map_of_mem → y13
open Nat renaming add_mul → y0k, add_comm → y14
open Option renaming bind_some → y05, bind_none → y0j, map_some → y0l, map_none → y0v
namespace Go.Proofs.Ytjknipdiglpnlaa
section
set_option linter.unusedSimpArgs false
set_option linter.unusedVariables false
open Go Go.Am
abbrev B8:=BitVec 8
inductive Pt where
 | one (c:B8)|dot|some|whole
deriving DecidableEq
def Pt.kind:Pt→Int
 | .one _=>0 | .dot=>1 | .some=>2 | .whole=>3
def Pt.long:Pt→Bool
 | .some=>true | .whole=>true|_=>false
def Pt.takes:Pt→B8→Bool
 | .one c,b=>b == c | .whole,_=>true|_,b=>b != 47#8
def bAt (s:List UInt8) (i:Nat):B8:=(s.getD i 0).toBitVec
def row (x:Pt) (s:List UInt8) (prev:Nat→Bool):Nat→Bool
 | 0=>x.long&&prev 0
 | i+1=>if x.long then prev (i+1)||(row x s prev i&&x.takes (bAt s i)) else prev i&&x.takes (bAt s i)
def M (l:List Pt) (s:List UInt8):Nat→Nat→Bool
 | 0=>fun i=>i == 0
 | k+1=>row (l.getD k .dot) s (M l s k)
def noZ (s:List UInt8):Bool:=s.all fun c=>c != 0
def z2fg:List UInt8→List (List UInt8)
 | []=>[[]]
 | c::r=>if c=47 then []::z2fg r else
  match z2fg r with
  | []=>[[c]]
  | h::t=>(c::h)::t
def okC (x:List UInt8):Bool:=x != []&&x != [46]&&x != [46,46]
def zj1f (s:List UInt8):Bool:=decide (1≤s.length)&&decide (s.length≤200)&&noZ s&&(z2fg s).all okC
end
section
set_option linter.unusedSimpArgs false
set_option linter.unusedVariables false
open Go Go.Am
abbrev Dg:={ a:List B8 // a.length=32 }
def dgC (d:Dg):List DV:=d.1.map w8
def dg0:Dg:=⟨rep 32 0#8,by simp [rep]⟩
theorem z1t1 (d:Dg):(dgC d).length=32:=by simp [dgC,d.2]
theorem z6je (d:Dg):zbao (dgC d)=true:=zdqb
theorem zib9 {a b:Dg} (h:dgC a=dgC b):a=b:=Subtype.ext (by rw [dgC,dgC,zwcl] at h; exact h)
structure SlB (B:Nat) (α:Type) where
 k:Option Bool
 l:List α
 h:k=none→l=[]
 b:l.length≤B
abbrev Sl (α:Type):Type:=SlB 4294967296 α
abbrev Raw (α:Type):Type:=SlB 9223372036854775807 α
def SlB.dv {B:Nat} {α:Type} (x:SlB B α) (s:Nat) (f:α→List DV):DV:=slD x.k s x.l.length (x.l.flatMap f)
section
variable {B:Nat} {α:Type} {f:α→List DV} {s:Nat} {h:List AObj} {x:SlB B α} {n k:Nat}
theorem z707 {b:Bool} {l:List α} {h:some b=none→l=[]} {hb:l.length≤B}:(⟨some b,l,h,hb⟩:SlB B α).dv s f = .sl b s l.length (l.flatMap f):=rfl
theorem z5oj {h:none=none→([]:List α)=[]} {hb:([]:List α).length≤B}:(⟨none,[],h,hb⟩:SlB B α).dv s f = .nils:=rfl
theorem z1rq (hu : ∀ a,(f a).length=s) : ∀ (l:List α),(l.flatMap f).length=l.length*s
 | []=>by simp
 | a::l=>by rw [y04,y09,hu,z1rq hu l,y0a,y0k]; omega
theorem z10w (hu : ∀ a,(f a).length=s) : ∀ (l:List α) (i:Nat),(l.flatMap f).take (i*s)=(l.take i).flatMap f
 | [],i=>by simp
 | a::l,0=>by simp
 | a::l,i+1=>by
  have ha:=hu a
  rw [y04,List.take_append,y00 (by rw [ha,y0k]; omega),ha,show (i+1)*s-s=i*s from by rw [y0k]; omega,z10w hu l,List.take_succ_cons,y04]
theorem zkb2 (hu : ∀ a,(f a).length=s) : ∀ (l:List α) (i:Nat),(l.flatMap f).drop (i*s)=(l.drop i).flatMap f
 | [],i=>by simp
 | a::l,0=>by simp
 | a::l,i+1=>by
  have ha:=hu a
  rw [y04,List.drop_append,y0w (by rw [ha,y0k]; omega),ha,show (i+1)*s-s=i*s from by rw [y0k]; omega,zkb2 hu l,y0h,List.drop_succ_cons]
theorem zdao (hu : ∀ a,(f a).length=s) {l:List α} {i:Nat} (hi:i<l.length):((l.flatMap f).drop (i*s)).take s=f l[i]:=by
 rw [zkb2 hu,y0r hi,y04,y0u (hu _)]
theorem zg0c : ∀ {a b:List DV},zbao a=true→zbao b=true→zbao (a++b)=true
 | [],_,_,h=>h
 | d::r,b,h1,h2=>by simp only [y07,zbao,y02] at *; exact ⟨h1.1,zg0c h1.2 h2⟩
theorem zp6k (hp : ∀ a,zbao (f a)=true) : ∀ (l:List α),zbao (l.flatMap f)=true
 | []=>rfl
 | a::l=>by rw [y04]; exact zg0c (hp a) (zp6k hp l)
theorem z47w (hu : ∀ a,(f a).length=s) {l:List α} {i:Nat} (hi:i<l.length) (b:α):zk7y (l.flatMap f) (i*s) (f b)=(l.set i b).flatMap f:=by
 unfold zk7y
 rw [z10w hu,hu b,show i*s+s=(i+1)*s by rw [y0k,Nat.one_mul],zkb2 hu,List.set_eq_take_append_cons_drop,if_pos hi]
 simp
theorem zxxb (hp : ∀ a,zbao (f a)=true) (x:SlB B α):zyp8 (x.dv s f)=true:=by
 obtain ⟨k,l,h,hb1⟩:=x
 cases k with
 | none=>rfl
 | some b=>show zbao _=true; exact zp6k hp l
theorem z4ja (x:SlB B α):(x.dv s f).one=true:=by obtain ⟨k,l,h,hb1⟩:=x; cases k<;>rfl
theorem ztw5 (x:SlB B α):(x.dv s f).known=true:=by obtain ⟨k,l,h,hb1⟩:=x; cases k<;>rfl
theorem zfr8 (x:SlB B α):(x.dv s f).cells=[x.dv s f]:=by obtain ⟨k,l,h,hb1⟩:=x; cases k<;>rfl
theorem zupj:lenD h (x.dv s f)=some (.int .i64 x.l.length):=by
 obtain ⟨k,l,h,hb1⟩:=x
 cases k with
 | none=>cases h rfl; rfl
 | some b=>rfl
theorem zalo (hu : ∀ a,(f a).length=s) {i:Nat} (hi:i<x.l.length):zpsc h s (x.dv s f) i=some (.ref (f x.l[i])):=by
 obtain ⟨k,l,h,hb1⟩:=x
 cases k with
 | none=>cases h rfl; simp at hi
 | some b =>
  simp only [SlB.dv,zip4]
  rw [zsu0 (by omega) (by simp only at hi; omega),Int.toNat_natCast,zdao hu hi]
theorem zllv (hu : ∀ a,(f a).length=s):visS h (x.dv s f)=some (x.l.length,x.l.flatMap f):=zplv (fun e=>by simp [x.h e]) (z1rq hu _)
theorem zwaa (hu : ∀ a,(f a).length=s):visY h (x.dv s f)=some (x.l.length,x.l.flatMap f):=by
 rw [← zllv (h:=h) hu]
 obtain ⟨k,l,h,hb1⟩:=x; cases k<;>rfl
def SlB.part (x:SlB B α) (i j:Nat) (b:Bool):SlB B α:=⟨x.k.map fun c=>c&&b,(x.l.drop i).take (j-i),fun e=>by simp at e; simp [x.h e],by have:=x.b; simp; omega⟩
theorem z0ke (hu : ∀ a,(f a).length=s) {lo hi:Option DV} {i j:Nat} (hb:zo77 x.l.length lo hi=some (i,j)) (hij:j≤x.l.length):ziwb h s (x.dv s f) lo hi none=some ((x.part i j (j == x.l.length)).dv s f):=by
 obtain ⟨k,l,h,hb1⟩:=x
 cases k with
 | none=>cases h rfl; simp at hb hij; simp only [SlB.dv,z6vl,SlB.part,y0v]; rw [zmk5 hb]
 | some b =>
  simp only at hb hij
  simp only [SlB.dv,zip4,SlB.part,y0l]
  rw [zygc hb,zkb2 hu,z10w hu]
  simp only [List.length_take,List.length_drop]
  congr 2
  omega
theorem z2x3:zrfk h (x.dv s f)=some (0,x.k.isNone):=by obtain ⟨k,l,h,hb1⟩:=x; cases k<;>rfl
end
structure Grp where
 ns:List UInt8
 im:List UInt8
 want:Int
 least:Int
 down:Int
 ch:Sl Dg
def grC (g:Grp):List DV:=[.str g.ns,.str g.im,.int .i64 g.want,.int .i64 g.least,.int .i64 g.down,g.ch.dv 32 dgC]
structure Ins where
 id:Int
 grp:Int
 art:Dg
 state:Int
 since:Int
 den:Int
 deriving DecidableEq
def inC (x:Ins):List DV := .int .i64 x.id :: .int .i64 x.grp::(dgC x.art++[.int .i64 x.state,.int .i64 x.since,.int .i64 x.den])
structure Clu where
 g:Sl Grp
 i:Sl Ins
 next:Int
def clC (c:Clu):List DV:=[c.g.dv 6 grC,c.i.dv 37 inC,.int .i64 c.next]
theorem zry4 (g:Grp):(grC g).length=6:=by simp [grC]
theorem z6gw (x:Ins):(inC x).length=37:=by simp [inC,z1t1]
theorem zlha (c:Clu):(clC c).length=3:=by simp [clC]
theorem zpfc (x:Sl Dg):zyp8 (x.dv 32 dgC)=true:=zxxb z6je x
theorem zxeb (g:Grp):zbao (grC g)=true:=by simp [grC,zbao,zyp8,zpfc]
theorem z9kv (x:Ins):zbao (inC x)=true:=by
 simp only [inC,zbao,zyp8,Bool.true_and]
 exact zg0c (z6je _) (by simp [zbao,zyp8])
theorem z1vd (x:Sl Grp):zyp8 (x.dv 6 grC)=true:=zxxb zxeb x
theorem zcha (x:Sl Ins):zyp8 (x.dv 37 inC)=true:=zxxb z9kv x
theorem zy11 (c:Clu):zbao (clC c)=true:=by simp [clC,zbao,zyp8,z1vd,zcha]
theorem zrji (x:Ins):(inC x).drop 2=dgC x.art++[.int .i64 x.state,.int .i64 x.since,.int .i64 x.den]:=rfl
theorem zlh1 (x:Ins):(inC x).drop 34=[.int .i64 x.state,.int .i64 x.since,.int .i64 x.den]:=by
 rw [show (34:Nat)=2+32 from rfl,← y0x,zrji,List.drop_left' (z1t1 _)]
theorem z3vc (x:Ins):(inC x).drop 35=[.int .i64 x.since,.int .i64 x.den]:=by
 rw [show (35:Nat)=34+1 from rfl,← y0x,zlh1]; rfl
theorem zlte (x:Ins):(inC x).drop 36=[.int .i64 x.den]:=by
 rw [show (36:Nat)=34+2 from rfl,← y0x,zlh1]; rfl
section
variable {x:Ins} {g:Grp} {c:Clu} {d:Dg} {r:List DV}
theorem zgz3:oneC 1 false (inC x)=some (.int .i64 x.id):=rfl
theorem zyv0:oneC 1 false ((inC x).drop 1)=some (.int .i64 x.grp):=rfl
theorem zm6n:oneC 32 true ((inC x).drop 2)=some (.agg (dgC x.art)):=by
 rw [zrji]; simp only [oneC,if_true]; rw [if_pos (by simp [z1t1]),y0u (z1t1 _)]
theorem zvh3:oneC 1 false ((inC x).drop 34)=some (.int .i64 x.state):=by rw [zlh1]; rfl
theorem zmwz:oneC 1 false ((inC x).drop 35)=some (.int .i64 x.since):=by rw [z3vc]; rfl
theorem z0hu:oneC 1 false ((inC x).drop 36)=some (.int .i64 x.den):=by rw [zlte]; rfl
theorem zisq:oneC 37 true (inC x)=some (.agg (inC x)):=by simp [oneC,z6gw,y00]
theorem zuce:oneC 6 true (grC g)=some (.agg (grC g)):=rfl
theorem zn7v:oneC 1 false (grC g)=some (.str g.ns):=rfl
theorem zuiq:oneC 1 false ((grC g).drop 1)=some (.str g.im):=rfl
theorem zhlv:oneC 1 false ((grC g).drop 2)=some (.int .i64 g.want):=rfl
theorem z9em:oneC 1 false ((grC g).drop 3)=some (.int .i64 g.least):=rfl
theorem z8ho:oneC 1 false ((grC g).drop 4)=some (.int .i64 g.down):=rfl
theorem z3oq:oneC 1 false ((grC g).drop 5)=some (g.ch.dv 32 dgC):=rfl
theorem zei9:oneC 3 true (clC c)=some (.agg (clC c)):=rfl
theorem zhtb:oneC 1 false (clC c)=some (c.g.dv 6 grC):=rfl
theorem zxyh:oneC 1 false ((clC c).drop 1)=some (c.i.dv 37 inC):=rfl
theorem zawu:oneC 1 false ((clC c).drop 2)=some (.int .i64 c.next):=rfl
theorem zwwo:oneC 32 true (dgC d)=some (.agg (dgC d)):=by simp [oneC,z1t1,y00]
theorem zkf8 {off n:Nat} {a:Bool} (hl:off+n≤37):zhj0 off n a (.agg (inC x))=oneC n a ((inC x).drop off):=by simp [zhj0,z6gw,hl]
theorem z28g {off n:Nat} {a:Bool} (hl:off+n≤6):zhj0 off n a (.agg (grC g))=oneC n a ((grC g).drop off):=by simp [zhj0,zry4,hl]
theorem z715 {off n:Nat} {a:Bool} (hl:off+n≤3):zhj0 off n a (.agg (clC c))=oneC n a ((clC c).drop off):=by simp [zhj0,zlha,hl]
end
attribute [simp] z1t1 zry4 z6gw zlha zupj z2x3 z4ja ztw5 zfr8 zgz3 zyv0 zm6n zvh3 zmwz z0hu zisq zuce zn7v zuiq zhlv z9em z8ho z3oq zei9 zhtb zxyh zawu zwwo zkf8 z28g z715 z6je zxeb z9kv zy11 zpfc z1vd zcha
theorem zid2 : ∀ {ks1 ks2:List Nat} {a1 a2 b1 b2:List DV},a1.length=ks1.length→b1.length=ks1.length→z32s (ks1++ks2) (a1++a2) (b1++b2)=(z32s ks1 a1 b1).bind fun p=>(z32s ks2 a2 b2).map fun q=>p&&q
 | [],ks2,[],a2,[],b2,_,_=>by simp [z32s]
 | k::ks1,ks2,x::a1,a2,y::b1,b2,h1,h2=>by
  simp only [y07,z32s,zid2 (ks1:=ks1) (a1:=a1) (b1:=b1) (by simpa using h1) (by simpa using h2)]
  cases znnj k x y<;>simp only [y0j,y05]
  cases z32s ks1 a1 b1<;>simp only [y0j,y05,y0v,y0l]
  cases z32s ks2 a2 b2<;>simp only [y0v,y0l,y0y]
theorem zyiz {a b:Dg}:z32s (zi5g [(32,0)]) (dgC a) (dgC b)=some (decide (a=b)):=by
 rw [dgC,dgC,zgre a.2 b.2]
 simp only [Subtype.ext_iff]
theorem zbik {a b c a' b' c':Int}:z32s [0,0,0] [.int .i64 a,.int .i64 b,.int .i64 c] [.int .i64 a',.int .i64 b',.int .i64 c']=some (decide (a=a'∧b=b'∧c=c')):=by
 simp [z32s,znnj]; rfl
theorem z540 {a b a' b':Int}:z32s [0,0] [.int .i64 a,.int .i64 b] [.int .i64 a',.int .i64 b']=some (decide (a=a'∧b=b')):=by
 simp [z32s,znnj]; rfl
theorem zmar {x y:Ins}:z32s (zi5g [(37,0)]) (inC x) (inC y)=some (decide (x=y)):=by
 have e:zi5g [(37,0)]=[0,0]++(zi5g [(32,0)]++[0,0,0]):=by decide
 have e1 : ∀ x:Ins,inC x=[.int .i64 x.id,.int .i64 x.grp]++(dgC x.art++[.int .i64 x.state,.int .i64 x.since,.int .i64 x.den]):=fun _=>rfl
 rw [e,e1,e1,zid2 rfl rfl,zid2 (by simp [z1t1,zi5g]) (by simp [z1t1,zi5g]),zyiz,z540,zbik]
 obtain ⟨a,b,c,d,e,f⟩:=x
 obtain ⟨a',b',c',d',e',f'⟩:=y
 simp only [y05,y0l,Ins.mk.injEq,Option.some.injEq,Bool.decide_and,y0y]
theorem zii6:List.map w8 (rep 32 0#8)=dgC dg0:=rfl
attribute [simp] zyiz zmar zii6
def ixI {α:Type} (p:α→Bool):List α→Int
 | [] => -1
 | a::l=>if p a=true then 0 else if ixI p l<0 then -1 else ixI p l+1
end
section
set_option linter.unusedSimpArgs false
set_option linter.unusedVariables false
open Go Go.Am
def okCh (l:List Dg):Prop := ∀ i (h:i<l.length),l[i]≠dg0∧l[i] ∉ l.take i
structure ValidG (g:Grp):Prop where
 ns:zj1f g.ns=true
 im:zj1f g.im=true
 w0:0≤g.want
 w1:g.want≤8
 l0:0≤g.least
 l1:g.least≤g.want
 d0:0≤g.down
 d1:g.down≤g.want
 n:g.ch.l.length≤6
 ch:okCh g.ch.l
def fitG (ns im:List UInt8) (g:Grp):Bool:=decide (g.ns=ns)&&decide (g.im=im)
def z9w0 (l:List Grp) (ns im:List UInt8):Int:=ixI (fitG ns im) l
abbrev zcie (t:Int):Prop:=0≤t∧t≤1099511627776
structure SoundI (n:Nat) (next:Int) (x:Ins):Prop where
 id0:1≤x.id
 id1:x.id<next
 g0:0≤x.grp
 g1:x.grp<n
 art:x.art≠dg0
 s0:1≤x.state
 s1:x.state≤3
 si:zcie x.since
 de:x.den = -1∨zcie x.den
structure ValidC (c:Clu):Prop where
 ng:c.g.l.length≤16
 ni:c.i.l.length≤200
 n0:1≤c.next
 n1:c.next≤1099511627776
 g : ∀ i (h:i<c.g.l.length),ValidG c.g.l[i]∧z9w0 c.g.l c.g.l[i].ns c.g.l[i].im=i
 i : ∀ i (h:i<c.i.l.length),SoundI c.g.l.length c.next c.i.l[i]∧(∀ h0:0<i,c.i.l[i-1].id<c.i.l[i].id)
def Sl.clone {α:Type} (x:Sl α):Sl α:=⟨if x.l=[] then x.k.map fun _=>true else some false,x.l,fun e=>by
 by_cases h:x.l=[]
 ·exact h
 ·simp [h] at e,x.b⟩
def own {α:Type} (l:List α):Sl α:=if h:l.length≤4294967296 then ⟨some false,l,by simp,h⟩ else ⟨none,[],fun _=>rfl,by simp⟩
theorem z3e9 {α:Type} {l:List α} (h:l.length≤4294967296):(own l).l=l:=by rw [own,dif_pos h]
theorem zqrs {α:Type} {l:List α} {s:Nat} {f:α→List DV} (h:l.length≤4294967296):(own l).dv s f = .sl false s l.length (l.flatMap f):=by rw [own,dif_pos h]; rfl
def Grp.clone (g:Grp):Grp:={ g with ch:=g.ch.clone }
def Clu.clone (c:Clu):Clu:=⟨⟨c.g.clone.k,c.g.l.map Grp.clone,fun e=>by simp [show c.g.l=[] from c.g.clone.h e],by have:=c.g.b; simpa using this⟩,c.i.clone,c.next⟩
def gl (g:Grp):List UInt8 × List UInt8 × Int × Int × Int × List Dg:=(g.ns,g.im,g.want,g.least,g.down,g.ch.l)
structure SameC (a b:Clu):Prop where
 g:a.g.l.map gl=b.g.l.map gl
 i:a.i.l=b.i.l
 n:a.next=b.next
theorem SameC.refl (a:Clu):SameC a a:=⟨rfl,rfl,rfl⟩
def may (to s:Int):Bool:=if to=2 then decide (s=1) else decide (s≠3)
def Ins.st (x:Ins) (v:Int):Ins:=⟨x.id,x.grp,x.art,v,x.since,x.den⟩
def Ins.si (x:Ins) (v:Int):Ins:=⟨x.id,x.grp,x.art,x.state,v,x.den⟩
def Ins.de (x:Ins) (v:Int):Ins:=⟨x.id,x.grp,x.art,x.state,x.since,v⟩
end
section
set_option linter.unusedSimpArgs false
set_option linter.unusedVariables false
open Go Go.Am
noncomputable abbrev P:Program:=Try.prog
theorem mix:P.follows .mixedOrders=true:=by kernel_rfl
def zpik:ACode :=
 (.seq (.region false [⟨none,(some 14),.bin .lss (.t 13) (.t 12)⟩])
 (.seq (.cond (.t 14) .skip
 (.exit 0))
 (.seq (.block 1 (.seq (.region false [⟨none,(some 15),.mov (.t 13)⟩,
  ⟨none,(some 5),.mov (.t 15)⟩])
 (.seq (.region true [⟨none,(some 16),.mov (.t 0)⟩,
  ⟨none,(some 17),.mov (.t 5)⟩,
  ⟨none,(some 18),.idxS 1 (.t 16) (.t 17)⟩,
  ⟨none,(some 19),.load 1 false (.t 18)⟩,
  ⟨none,(some 20),.mov (.t 1)⟩,
  ⟨none,(some 21),.mov (.t 5)⟩,
  ⟨none,(some 22),.idxS 1 (.t 20) (.t 21)⟩,
  ⟨none,(some 23),.load 1 false (.t 22)⟩,
  ⟨none,(some 24),.bin .neq (.t 19) (.t 23)⟩])
 (.cond (.t 24) (.seq (.region false [⟨none,(some 4),.mov (.k (.bool false))⟩])
 .ret)
 .skip))))
 (.region false [⟨none,(some 25),.bin .add (.t 13) (.k (.int .i64 1))⟩,
  ⟨none,(some 13),.mov (.t 25)⟩]))))
def z4rh (x0 x1 x12 x13:DV) (h:List AObj):St:=⟨[x0,x1]++js 10++[x12,x13]++js 12,h⟩
def a29:AFn where
 code:=(.seq (.region false [⟨none,(some 4),.mov (.k (.bool false))⟩])
 (.seq (.seq (.region false [⟨none,(some 6),.mov (.t 0)⟩,
  ⟨none,(some 7),.len (.t 6)⟩,
  ⟨none,(some 8),.mov (.t 1)⟩,
  ⟨none,(some 9),.len (.t 8)⟩,
  ⟨none,(some 10),.bin .neq (.t 7) (.t 9)⟩])
 (.cond (.t 10) (.seq (.region false [⟨none,(some 4),.mov (.k (.bool false))⟩])
 .ret)
 .skip))
 (.seq (.seq (.region false [⟨none,(some 11),.mov (.t 0)⟩,
  ⟨none,(some 12),.len (.t 11)⟩,
  ⟨none,(some 13),.mov (.k (.int .i64 0))⟩])
 (.block 0 (.loop zpik)))
 (.seq (.region false [⟨none,(some 4),.mov (.k (.bool true))⟩])
 .ret))))
 ntmps:=26
 res:=[.tmp 4]
theorem ztig:zsjc P Try.f29=some a29:=by kernel_rfl
def zuys:ACode :=
 (.seq (.region false [⟨none,(some 14),.bin .lss (.t 13) (.t 12)⟩])
 (.seq (.cond (.t 14) .skip
 (.exit 0))
 (.seq (.block 1 (.seq (.region false [⟨none,(some 15),.mov (.t 13)⟩,
  ⟨none,(some 5),.mov (.t 15)⟩])
 (.seq (.region true [⟨none,(some 16),.mov (.t 0)⟩,
  ⟨none,(some 17),.mov (.t 5)⟩,
  ⟨none,(some 18),.idxS 33 (.t 16) (.t 17)⟩,
  ⟨none,(some 19),.load 33 true (.t 18)⟩,
  ⟨none,(some 20),.mov (.t 1)⟩,
  ⟨none,(some 21),.mov (.t 5)⟩,
  ⟨none,(some 22),.idxS 33 (.t 20) (.t 21)⟩,
  ⟨none,(some 23),.load 33 true (.t 22)⟩,
  ⟨none,(some 24),.eqa true [(1,1),(32,0)] (.t 19) (.t 23)⟩])
 (.cond (.t 24) (.seq (.region false [⟨none,(some 4),.mov (.k (.bool false))⟩])
 .ret)
 .skip))))
 (.region false [⟨none,(some 25),.bin .add (.t 13) (.k (.int .i64 1))⟩,
  ⟨none,(some 13),.mov (.t 25)⟩]))))
def zvur (x0 x1 x12 x13:DV) (h:List AObj):St:=⟨[x0,x1]++js 10++[x12,x13]++js 12,h⟩
def a49:AFn where
 code:=(.seq (.region false [⟨none,(some 4),.mov (.k (.bool false))⟩])
 (.seq (.seq (.region false [⟨none,(some 6),.mov (.t 0)⟩,
  ⟨none,(some 7),.len (.t 6)⟩,
  ⟨none,(some 8),.mov (.t 1)⟩,
  ⟨none,(some 9),.len (.t 8)⟩,
  ⟨none,(some 10),.bin .neq (.t 7) (.t 9)⟩])
 (.cond (.t 10) (.seq (.region false [⟨none,(some 4),.mov (.k (.bool false))⟩])
 .ret)
 .skip))
 (.seq (.seq (.region false [⟨none,(some 11),.mov (.t 0)⟩,
  ⟨none,(some 12),.len (.t 11)⟩,
  ⟨none,(some 13),.mov (.k (.int .i64 0))⟩])
 (.block 0 (.loop zuys)))
 (.seq (.region false [⟨none,(some 4),.mov (.k (.bool true))⟩])
 .ret))))
 ntmps:=26
 res:=[.tmp 4]
theorem zdc4:zsjc P Try.f49=some a49:=by kernel_rfl
def a21:AFn where
 code:=(.seq (.region false [⟨none,(some 2),.box (.t 0)⟩,
  ⟨none,(some 3),.box (.t 1)⟩,
  ⟨none,(some 4),.mov (.k (.bool false))⟩])
 (.seq (.region false [⟨none,(some 5),.fld 1 (.t 2)⟩,
  ⟨none,(some 6),.load 1 false (.t 5)⟩,
  ⟨none,(some 7),.fld 1 (.t 3)⟩,
  ⟨none,(some 8),.load 1 false (.t 7)⟩,
  ⟨none,(some 9),.call (.k (.fn (.func 49) [] [])) [(.t 6),(.t 8)]⟩,
  ⟨none,(some 10),.mov (.t 9)⟩,
  ⟨(some (10,true)),(some 11),.fld 2 (.t 2)⟩,
  ⟨(some (10,true)),(some 12),.load 1 false (.t 11)⟩,
  ⟨(some (10,true)),(some 13),.fld 2 (.t 3)⟩,
  ⟨(some (10,true)),(some 14),.load 1 false (.t 13)⟩,
  ⟨(some (10,true)),(some 15),.call (.k (.fn (.func 49) [] [])) [(.t 12),(.t 14)]⟩,
  ⟨none,(some 16),.pick (.t 10) (.t 15) (.k (.bool false))⟩,
  ⟨none,(some 4),.mov (.t 16)⟩])
 .ret))
 ntmps:=17
 res:=[.tmp 4]
theorem zyfb:zsjc P Try.f21=some a21:=by kernel_rfl
def z5oa:ACode :=
 (.seq (.region false [⟨none,(some 9),.bin .lss (.t 8) (.t 7)⟩])
 (.seq (.cond (.t 9) .skip
 (.exit 0))
 (.seq (.block 1 (.seq (.region false [⟨none,(some 10),.mov (.t 8)⟩,
  ⟨none,(some 5),.mov (.t 10)⟩])
 (.seq (.region false [⟨none,(some 11),.mov (.t 1)⟩,
  ⟨none,(some 12),.mov (.t 0)⟩,
  ⟨none,(some 13),.mov (.t 5)⟩,
  ⟨none,(some 14),.idxS 1 (.t 12) (.t 13)⟩,
  ⟨none,(some 15),.load 1 false (.t 14)⟩,
  ⟨none,(some 16),.bin .eql (.t 11) (.t 15)⟩])
 (.cond (.t 16) (.seq (.region false [⟨none,(some 17),.mov (.t 5)⟩,
  ⟨none,(some 4),.mov (.t 17)⟩])
 .ret)
 .skip))))
 (.region false [⟨none,(some 18),.bin .add (.t 8) (.k (.int .i64 1))⟩,
  ⟨none,(some 8),.mov (.t 18)⟩]))))
def zv4w (x0 x1 x7 x8:DV) (h:List AObj):St:=⟨[x0,x1]++js 5++[x7,x8]++js 10,h⟩
def a52:AFn where
 code:=(.seq (.region false [⟨none,(some 4),.mov (.k (.int .i64 0))⟩])
 (.seq (.seq (.region false [⟨none,(some 6),.mov (.t 0)⟩,
  ⟨none,(some 7),.len (.t 6)⟩,
  ⟨none,(some 8),.mov (.k (.int .i64 0))⟩])
 (.block 0 (.loop z5oa)))
 (.seq (.region false [⟨none,(some 4),.mov (.k (.int .i64 (-1)))⟩])
 .ret)))
 ntmps:=19
 res:=[.tmp 4]
theorem zil0:zsjc P Try.f52=some a52:=by kernel_rfl
def a30:AFn where
 code:=(.seq (.region false [⟨none,(some 4),.mov (.k (.bool false))⟩])
 (.seq (.region false [⟨none,(some 5),.mov (.t 0)⟩,
  ⟨none,(some 6),.mov (.t 1)⟩,
  ⟨none,(some 7),.call (.k (.fn (.func 52) [] [])) [(.t 5),(.t 6)]⟩,
  ⟨none,(some 8),.bin .geq (.t 7) (.k (.int .i64 0))⟩,
  ⟨none,(some 4),.mov (.t 8)⟩])
 .ret))
 ntmps:=9
 res:=[.tmp 4]
theorem z3f8:zsjc P Try.f30=some a30:=by kernel_rfl
def a53:AFn where
 code:=(.seq (.region false [⟨none,(some 2),.mov (.k .nils)⟩])
 (.seq (.seq (.region false [⟨none,(some 3),.mov (.t 0)⟩,
  ⟨none,(some 4),.eqn 0 false (.t 3) (.k .nils)⟩])
 (.cond (.t 4) (.seq (.region false [⟨none,(some 2),.mov (.k .nils)⟩])
 .ret)
 .skip))
 (.seq (.region false [⟨none,(some 5),.bsl 1 0 [(.str [])] []⟩,
  ⟨none,(some 6),.mov (.t 0)⟩,
  ⟨none,(some 7),.app 1 16 (.t 5) (.t 6)⟩,
  ⟨none,(some 2),.mov (.t 7)⟩])
 .ret)))
 ntmps:=8
 res:=[.tmp 2]
theorem zq51:zsjc P Try.f53=some a53:=by kernel_rfl
def a54:AFn where
 code:=(.seq (.region false [⟨none,(some 2),.mov (.k .nils)⟩])
 (.seq (.seq (.region false [⟨none,(some 3),.mov (.t 0)⟩,
  ⟨none,(some 4),.eqn 0 false (.t 3) (.k .nils)⟩])
 (.cond (.t 4) (.seq (.region false [⟨none,(some 2),.mov (.k .nils)⟩])
 .ret)
 .skip))
 (.seq (.region false [⟨none,(some 5),.bsl 2 0 [(.str []),(.str [])] []⟩,
  ⟨none,(some 6),.mov (.t 0)⟩,
  ⟨none,(some 7),.app 2 32 (.t 5) (.t 6)⟩,
  ⟨none,(some 2),.mov (.t 7)⟩])
 .ret)))
 ntmps:=8
 res:=[.tmp 2]
theorem zq4q:zsjc P Try.f54=some a54:=by kernel_rfl
def a55:AFn where
 code:=(.seq (.region false [⟨none,(some 2),.mov (.k .nils)⟩])
 (.seq (.seq (.region false [⟨none,(some 3),.mov (.t 0)⟩,
  ⟨none,(some 4),.eqn 0 false (.t 3) (.k .nils)⟩])
 (.cond (.t 4) (.seq (.region false [⟨none,(some 2),.mov (.k .nils)⟩])
 .ret)
 .skip))
 (.seq (.region false [⟨none,(some 5),.bsl 33 0 [(.str []),(w8 0#8),(w8 0#8),(w8 0#8),(w8 0#8),(w8 0#8),(w8 0#8),(w8 0#8),(w8 0#8),(w8 0#8),(w8 0#8),(w8 0#8),(w8 0#8),(w8 0#8),(w8 0#8),(w8 0#8),(w8 0#8),(w8 0#8),(w8 0#8),(w8 0#8),(w8 0#8),(w8 0#8),(w8 0#8),(w8 0#8),(w8 0#8),(w8 0#8),(w8 0#8),(w8 0#8),(w8 0#8),(w8 0#8),(w8 0#8),(w8 0#8),(w8 0#8)] []⟩,
  ⟨none,(some 6),.mov (.t 0)⟩,
  ⟨none,(some 7),.app 33 48 (.t 5) (.t 6)⟩,
  ⟨none,(some 2),.mov (.t 7)⟩])
 .ret)))
 ntmps:=8
 res:=[.tmp 2]
theorem ze8s:zsjc P Try.f55=some a55:=by kernel_rfl
def a31:AFn where
 code:=(.seq (.region false [⟨none,(some 1),.box (.t 0)⟩,
  ⟨none,(some 2),.alloc [(.str []),(.str []),(.str []),(.str []),(.int .i64 0),.nils,.nils,.nils,.nils]⟩])
 (.seq (.region false [⟨none,(some 3),.fld 1 (.t 1)⟩,
  ⟨none,(some 4),.fld 4 (.t 3)⟩,
  ⟨none,(some 5),.load 1 false (.t 4)⟩,
  ⟨none,(some 6),.call (.k (.fn (.func 53) [] [])) [(.t 5)]⟩,
  ⟨none,(some 7),.fld 1 (.t 1)⟩,
  ⟨none,(some 8),.fld 4 (.t 7)⟩,
  ⟨none,none,.store 1 (.t 8) (.t 6)⟩])
 (.seq (.region false [⟨none,(some 9),.fld 1 (.t 1)⟩,
  ⟨none,(some 10),.fld 5 (.t 9)⟩,
  ⟨none,(some 11),.load 1 false (.t 10)⟩,
  ⟨none,(some 12),.call (.k (.fn (.func 54) [] [])) [(.t 11)]⟩,
  ⟨none,(some 13),.fld 1 (.t 1)⟩,
  ⟨none,(some 14),.fld 5 (.t 13)⟩,
  ⟨none,none,.store 1 (.t 14) (.t 12)⟩])
 (.seq (.region false [⟨none,(some 15),.fld 1 (.t 1)⟩,
  ⟨none,(some 16),.fld 6 (.t 15)⟩,
  ⟨none,(some 17),.load 1 false (.t 16)⟩,
  ⟨none,(some 18),.call (.k (.fn (.func 55) [] [])) [(.t 17)]⟩,
  ⟨none,(some 19),.fld 1 (.t 1)⟩,
  ⟨none,(some 20),.fld 6 (.t 19)⟩,
  ⟨none,none,.store 1 (.t 20) (.t 18)⟩])
 (.seq (.region false [⟨none,(some 21),.fld 1 (.t 1)⟩,
  ⟨none,(some 22),.fld 7 (.t 21)⟩,
  ⟨none,(some 23),.load 1 false (.t 22)⟩,
  ⟨none,(some 24),.call (.k (.fn (.func 55) [] [])) [(.t 23)]⟩,
  ⟨none,(some 25),.fld 1 (.t 1)⟩,
  ⟨none,(some 26),.fld 7 (.t 25)⟩,
  ⟨none,none,.store 1 (.t 26) (.t 24)⟩])
 (.seq (.region false [⟨none,(some 27),.load 9 true (.t 1)⟩,
  ⟨none,none,.store 9 (.t 2) (.t 27)⟩])
 .ret))))))
 ntmps:=28
 res:=[.cell 2 9 true]
theorem zjer:zsjc P Try.f31=some a31:=by kernel_rfl
def z382:ACode :=
 (.seq (.region false [⟨none,(some 12),.bin .lss (.t 11) (.t 10)⟩])
 (.seq (.cond (.t 12) .skip
 (.exit 0))
 (.seq (.block 1 (.seq (.region false [⟨none,(some 13),.idxS 9 (.t 9) (.t 11)⟩,
  ⟨none,(some 14),.load 9 true (.t 13)⟩,
  ⟨none,(some 7),.alloc [(.str []),(.str []),(.str []),(.str []),(.int .i64 0),.nils,.nils,.nils,.nils]⟩,
  ⟨none,none,.store 9 (.t 7) (.t 14)⟩])
 (.seq (.region false [⟨none,(some 15),.fld 4 (.t 2)⟩,
  ⟨none,(some 16),.load 1 false (.t 15)⟩,
  ⟨none,(some 17),.len (.t 16)⟩,
  ⟨none,(some 18),.bin .eql (.t 17) (.k (.int .i64 0))⟩,
  ⟨none,(some 19),.mov (.t 18)⟩,
  ⟨(some (19,false)),(some 20),.fld 4 (.t 2)⟩,
  ⟨(some (19,false)),(some 21),.load 1 false (.t 20)⟩,
  ⟨(some (19,false)),(some 22),.fld 1 (.t 7)⟩,
  ⟨(some (19,false)),(some 23),.fld 4 (.t 22)⟩,
  ⟨(some (19,false)),(some 24),.load 1 false (.t 23)⟩,
  ⟨(some (19,false)),(some 25),.call (.k (.fn (.func 29) [] [])) [(.t 21),(.t 24)]⟩,
  ⟨none,(some 26),.pick (.t 19) (.k (.bool true)) (.t 25)⟩,
  ⟨none,(some 8),.mov (.t 26)⟩])
 (.seq (.region false [⟨none,(some 27),.mov (.t 8)⟩,
  ⟨none,(some 28),.mov (.t 27)⟩,
  ⟨(some (28,true)),(some 29),.fld 1 (.t 7)⟩,
  ⟨(some (28,true)),(some 30),.fld 2 (.t 29)⟩,
  ⟨(some (28,true)),(some 31),.load 1 false (.t 30)⟩,
  ⟨(some (28,true)),(some 32),.fld 0 (.t 2)⟩,
  ⟨(some (28,true)),(some 33),.load 1 false (.t 32)⟩,
  ⟨(some (28,true)),(some 34),.bin .eql (.t 31) (.t 33)⟩,
  ⟨none,(some 35),.pick (.t 28) (.t 34) (.k (.bool false))⟩,
  ⟨none,(some 36),.mov (.t 35)⟩,
  ⟨(some (36,true)),(some 37),.fld 3 (.t 2)⟩,
  ⟨(some (36,true)),(some 38),.load 1 false (.t 37)⟩,
  ⟨(some (36,true)),(some 39),.fld 0 (.t 7)⟩,
  ⟨(some (36,true)),(some 40),.load 1 false (.t 39)⟩,
  ⟨(some (36,true)),(some 41),.call (.k (.fn (.func 30) [] [])) [(.t 38),(.t 40)]⟩,
  ⟨none,(some 42),.pick (.t 36) (.t 41) (.k (.bool false))⟩])
 (.cond (.t 42) (.region false [⟨none,(some 43),.mov (.t 5)⟩,
  ⟨none,(some 44),.load 9 true (.t 7)⟩,
  ⟨none,(some 45),.call (.k (.fn (.func 31) [] [])) [(.t 44)]⟩,
  ⟨none,(some 46),.bsl 9 1 [(.str []),(.str []),(.str []),(.str []),(.int .i64 0),.nils,.nils,.nils,.nils] [(0,9,(.t 45))]⟩,
  ⟨none,(some 47),.app 9 168 (.t 43) (.t 46)⟩,
  ⟨none,(some 5),.mov (.t 47)⟩])
 .skip)))))
 (.region false [⟨none,(some 48),.bin .add (.t 11) (.k (.int .i64 1))⟩,
  ⟨none,(some 11),.mov (.t 48)⟩]))))
def z9o7 (x2 x5 x9 x10 x11:DV) (h:List AObj):St:=⟨[.junk,.junk,x2,.junk,.junk,x5,.junk,.junk,.junk,x9,x10,x11]++js 38,h⟩
def a10:AFn where
 code:=(.seq (.region false [⟨none,(some 2),.box (.t 0)⟩,
  ⟨none,(some 4),.mov (.k .nils)⟩])
 (.seq (.region false [⟨none,(some 5),.mov (.k .nils)⟩])
 (.seq (.seq (.region false [⟨none,(some 9),.mov (.t 1)⟩,
  ⟨none,(some 10),.len (.t 9)⟩,
  ⟨none,(some 11),.mov (.k (.int .i64 0))⟩])
 (.block 0 (.loop z382)))
 (.seq (.region false [⟨none,(some 49),.mov (.t 5)⟩,
  ⟨none,(some 4),.mov (.t 49)⟩])
 .ret))))
 ntmps:=50
 res:=[.tmp 4]
theorem z1ee:zsjc P Try.f10=some a10:=by kernel_rfl
end
section
set_option linter.unusedSimpArgs false
set_option linter.unusedVariables false
open Go Go.Am
def a25:AFn where
 code:=(.seq (.region false [⟨none,(some 4),.mov (.k (.int .i64 0))⟩])
 (.seq (.seq (.region false [⟨none,(some 6),.mov (.t 1)⟩,
  ⟨none,(some 7),.bin .lss (.t 6) (.k (.int .i64 1))⟩])
 (.cond (.t 7) (.seq (.region false [⟨none,(some 4),.mov (.k (.int .i64 0))⟩])
 .ret)
 .skip))
 (.seq (.region false [⟨none,(some 8),.mov (.t 0)⟩,
  ⟨none,(some 9),.nilc (.t 8)⟩,
  ⟨none,(some 10),.fld 1 (.t 9)⟩,
  ⟨none,(some 11),.load 1 false (.t 10)⟩,
  ⟨none,(some 12),.bin .mul (.t 11) (.k (.int .i64 7))⟩,
  ⟨none,(some 13),.bin .add (.t 12) (.k (.int .i64 3))⟩,
  ⟨none,(some 5),.mov (.t 13)⟩])
 (.seq (.seq (.region true [⟨none,(some 14),.mov (.t 0)⟩,
  ⟨none,(some 15),.nilc (.t 14)⟩,
  ⟨none,(some 16),.fld 1 (.t 15)⟩,
  ⟨none,(some 17),.load 1 false (.t 16)⟩,
  ⟨none,(some 18),.mov (.t 0)⟩,
  ⟨none,(some 19),.nilc (.t 18)⟩,
  ⟨none,(some 20),.fld 0 (.t 19)⟩,
  ⟨none,(some 21),.load 1 false (.t 20)⟩,
  ⟨none,(some 22),.len (.t 21)⟩,
  ⟨none,(some 23),.bin .lss (.t 17) (.t 22)⟩])
 (.cond (.t 23) (.region true [⟨none,(some 24),.mov (.t 0)⟩,
  ⟨none,(some 25),.nilc (.t 24)⟩,
  ⟨none,(some 26),.fld 0 (.t 25)⟩,
  ⟨none,(some 27),.load 1 false (.t 26)⟩,
  ⟨none,(some 28),.mov (.t 0)⟩,
  ⟨none,(some 29),.nilc (.t 28)⟩,
  ⟨none,(some 30),.fld 1 (.t 29)⟩,
  ⟨none,(some 31),.load 1 false (.t 30)⟩,
  ⟨none,(some 32),.idxS 1 (.t 27) (.t 31)⟩,
  ⟨none,(some 33),.load 1 false (.t 32)⟩,
  ⟨none,(some 5),.mov (.t 33)⟩])
 .skip))
 (.seq (.region false [⟨none,(some 34),.mov (.t 0)⟩,
  ⟨none,(some 35),.nilc (.t 34)⟩,
  ⟨none,(some 36),.fld 1 (.t 35)⟩,
  ⟨none,(some 37),.load 1 false (.t 36)⟩,
  ⟨none,(some 38),.bin .add (.t 37) (.k (.int .i64 1))⟩,
  ⟨none,(some 39),.nilc (.t 34)⟩,
  ⟨none,(some 40),.fld 1 (.t 39)⟩,
  ⟨none,none,.store 1 (.t 40) (.t 38)⟩])
 (.seq (.region false [⟨none,(some 41),.mov (.t 5)⟩,
  ⟨none,(some 42),.mov (.t 1)⟩,
  ⟨none,(some 43),.bin .rem (.t 41) (.t 42)⟩,
  ⟨none,(some 44),.mov (.t 1)⟩,
  ⟨none,(some 45),.bin .add (.t 43) (.t 44)⟩,
  ⟨none,(some 46),.mov (.t 1)⟩,
  ⟨none,(some 47),.bin .rem (.t 45) (.t 46)⟩,
  ⟨none,(some 4),.mov (.t 47)⟩])
 .ret))))))
 ntmps:=48
 res:=[.tmp 4]
theorem zgum:zsjc P Try.f25=some a25:=by kernel_rfl
def a27:AFn where
 code:=(.seq (.region false [⟨none,(some 4),.mov (.k (.str []))⟩])
 (.seq (.region false [⟨none,(some 5),.mov (.t 1)⟩,
  ⟨none,(some 6),.mov (.t 0)⟩,
  ⟨none,(some 7),.mov (.t 1)⟩,
  ⟨none,(some 8),.len (.t 7)⟩,
  ⟨none,(some 9),.call (.k (.fn (.func 25) [] [])) [(.t 6),(.t 8)]⟩,
  ⟨none,(some 10),.idxS 1 (.t 5) (.t 9)⟩,
  ⟨none,(some 11),.load 1 false (.t 10)⟩,
  ⟨none,(some 4),.mov (.t 11)⟩])
 .ret))
 ntmps:=12
 res:=[.tmp 4]
theorem z3hx:zsjc P Try.f27=some a27:=by kernel_rfl
def a69:AFn where
 code:=(.seq (.region false [⟨none,(some 2),.alloc (rep 32 (w8 0#8))⟩])
 (.seq (.region false [⟨none,(some 3),.mov (.t 0)⟩,
  ⟨none,(some 4),.call (.k (.fn (.func 25) [] [])) [(.t 3),(.k (.int .i64 6))]⟩,
  ⟨none,(some 5),.bin .add (.k (.int .i64 1)) (.t 4)⟩,
  ⟨none,(some 6),.conv .u8 (.t 5)⟩,
  ⟨none,(some 7),.build (rep 32 (w8 0#8)) [(0,1,(.t 6))]⟩,
  ⟨none,none,.store 32 (.t 2) (.t 7)⟩])
 .ret))
 ntmps:=8
 res:=[.cell 2 32 true]
theorem z713:zsjc P Try.f69=some a69:=by kernel_rfl
end
section
set_option linter.unusedSimpArgs false
set_option linter.unusedVariables false
open Go Go.Am
section
variable {α β:Type} {lt:α→α→Bool}
def insR (lt:α→α→Bool) (x:α) (l:List α):List α:=(l.reverse.dropWhile (lt x)).reverse++x::(l.reverse.takeWhile (lt x)).reverse
def zq4g (lt:α→α→Bool) (l:List α):List α:=l.foldl (fun a x=>insR lt x a) []
theorem zv9v {x:α} {A B:List α} (hB : ∀ b ∈ B,lt x b=true) (hA:A=[] ∨ ∃ (A':List α) (y:α),A=A'++[y]∧lt x y=false):insR lt x (A++B)=A++x::B:=by
 unfold insR
 have hB' : ∀ b ∈ B.reverse,lt x b=true:=fun b hb=>hB b (List.mem_reverse.1 hb)
 rw [y12]
 rw [List.dropWhile_append_of_pos hB',List.takeWhile_append_of_pos hB']
 rcases hA with rfl|⟨A',y,rfl,hy⟩
 ·simp
 ·simp [List.dropWhile_cons,List.takeWhile_cons,hy]
theorem zcx2 {x:α} {l:List α}:(insR lt x l).Perm (x::l):=by
 unfold insR
 refine List.perm_middle.trans (List.Perm.cons x ?_)
 rw [← y12,List.takeWhile_append_dropWhile]
 simp
theorem zuk7 {l:List α} {x:α}:zq4g lt (l++[x])=insR lt x (zq4g lt l):=by simp [zq4g]
theorem z77f {P:List α→Prop} (h0:P []) (h1 : ∀ l x,P l→P (l++[x])) : ∀ l,P l:=by
 intro l
 rw [← List.reverse_reverse l]
 induction l.reverse with
 | nil=>exact h0
 | cons a r ih=>rw [List.reverse_cons]; exact h1 _ _ ih
theorem zo43 (l:List α):(zq4g lt l).Perm l:=by
 induction l using z77f with
 | h0=>exact List.Perm.refl _
 | h1 l x ih =>
  rw [zuk7]
  refine zcx2.trans ((List.Perm.cons x ih).trans ?_)
  exact (List.perm_append_comm (l₁:=[x]) (l₂:=l))
end
structure GoodI (l:List Ins):Prop where
 s : ∀ x ∈ l,1≤x.state∧x.state≤3 ∧ -1≤x.den
 d:l.Pairwise (fun x y=>x.id<y.id)
end
section
set_option linter.unusedSimpArgs false
set_option linter.unusedVariables false
open Go Go.Am
def zx0e:ACode :=
 (.seq (.region false [⟨none,(some 12),.bin .lss (.t 11) (.t 10)⟩])
 (.seq (.cond (.t 12) .skip
 (.exit 0))
 (.seq (.block 1 (.seq (.region false [⟨none,(some 13),.idxS 4 (.t 9) (.t 11)⟩,
  ⟨none,(some 14),.load 4 true (.t 13)⟩,
  ⟨none,(some 7),.alloc [(.str []),(.str []),.nils,.nils]⟩,
  ⟨none,none,.store 4 (.t 7) (.t 14)⟩])
 (.seq (.region false [⟨none,(some 15),.mov (.t 5)⟩,
  ⟨none,(some 16),.mkf (.func 57) [] [(.t 3),(.t 7)]⟩,
  ⟨none,(some 17),.call (.k (.fn (.func 56) [] [])) [(.t 15),(.t 16)]⟩,
  ⟨none,(some 8),.mov (.t 17)⟩])
 (.seq (.region false [⟨none,(some 18),.mov (.t 8)⟩,
  ⟨none,(some 19),.bin .lss (.t 18) (.k (.int .i64 0))⟩])
 (.cond (.t 19) (.region false [⟨none,(some 20),.mov (.t 5)⟩,
  ⟨none,(some 21),.load 4 true (.t 7)⟩,
  ⟨none,(some 22),.bsl 4 1 [(.str []),(.str []),.nils,.nils] [(0,4,(.t 21))]⟩,
  ⟨none,(some 23),.bsl 1 1 [.nils] [(0,1,(.t 22))]⟩,
  ⟨none,(some 24),.app 1 24 (.t 20) (.t 23)⟩,
  ⟨none,(some 5),.mov (.t 24)⟩])
 (.region true [⟨none,(some 25),.mov (.t 5)⟩,
  ⟨none,(some 26),.mov (.t 8)⟩,
  ⟨none,(some 27),.mov (.t 5)⟩,
  ⟨none,(some 28),.mov (.t 8)⟩,
  ⟨none,(some 29),.idxS 1 (.t 27) (.t 28)⟩,
  ⟨none,(some 30),.load 1 false (.t 29)⟩,
  ⟨none,(some 31),.load 4 true (.t 7)⟩,
  ⟨none,(some 32),.bsl 4 1 [(.str []),(.str []),.nils,.nils] [(0,4,(.t 31))]⟩,
  ⟨none,(some 33),.app 4 80 (.t 30) (.t 32)⟩,
  ⟨none,(some 34),.idxS 1 (.t 25) (.t 26)⟩,
  ⟨none,none,.store 1 (.t 34) (.t 33)⟩]))))))
 (.region false [⟨none,(some 35),.bin .add (.t 11) (.k (.int .i64 1))⟩,
  ⟨none,(some 11),.mov (.t 35)⟩]))))
def z8ja (x3 x5 x9 x10 x11:DV) (h:List AObj):St:=⟨[.junk,.junk,.junk,x3,.junk,x5,.junk,.junk,.junk,x9,x10,x11]++js 25,h⟩
def a32:AFn where
 code:=(.seq (.region false [⟨none,(some 3),.box (.t 1)⟩,
  ⟨none,(some 4),.mov (.k .nils)⟩])
 (.seq (.region false [⟨none,(some 5),.mov (.k .nils)⟩])
 (.seq (.seq (.region false [⟨none,(some 9),.mov (.t 0)⟩,
  ⟨none,(some 10),.len (.t 9)⟩,
  ⟨none,(some 11),.mov (.k (.int .i64 0))⟩])
 (.block 0 (.loop zx0e)))
 (.seq (.region false [⟨none,(some 36),.mov (.t 5)⟩,
  ⟨none,(some 4),.mov (.t 36)⟩])
 .ret))))
 ntmps:=37
 res:=[.tmp 4]
theorem zvrg:zsjc P Try.f32=some a32:=by kernel_rfl
def a57:AFn where
 code:=(.seq (.region false [⟨none,(some 4),.mov (.k (.bool false))⟩])
 (.seq (.region true [⟨none,(some 5),.load 1 false (.t 1)⟩,
  ⟨none,(some 6),.mov (.t 0)⟩,
  ⟨none,(some 7),.idxS 4 (.t 6) (.k (.int .i64 0))⟩,
  ⟨none,(some 8),.load 4 true (.t 7)⟩,
  ⟨none,(some 9),.load 4 true (.t 2)⟩,
  ⟨none,(some 10),.callN (.t 5) [(.t 8),(.t 9)]⟩,
  ⟨none,(some 4),.mov (.t 10)⟩])
 .ret))
 ntmps:=11
 res:=[.tmp 4]
theorem zfce:zsjc P Try.f57=some a57:=by kernel_rfl
def zvgs:ACode :=
 (.seq (.region false [⟨none,(some 9),.bin .lss (.t 8) (.t 7)⟩])
 (.seq (.cond (.t 9) .skip
 (.exit 0))
 (.seq (.block 1 (.seq (.region false [⟨none,(some 10),.mov (.t 8)⟩,
  ⟨none,(some 5),.mov (.t 10)⟩])
 (.seq (.region false [⟨none,(some 11),.mov (.t 1)⟩,
  ⟨none,(some 12),.mov (.t 0)⟩,
  ⟨none,(some 13),.mov (.t 5)⟩,
  ⟨none,(some 14),.idxS 1 (.t 12) (.t 13)⟩,
  ⟨none,(some 15),.load 1 false (.t 14)⟩,
  ⟨none,(some 16),.call (.t 11) [(.t 15)]⟩])
 (.cond (.t 16) (.seq (.region false [⟨none,(some 17),.mov (.t 5)⟩,
  ⟨none,(some 4),.mov (.t 17)⟩])
 .ret)
 .skip))))
 (.region false [⟨none,(some 18),.bin .add (.t 8) (.k (.int .i64 1))⟩,
  ⟨none,(some 8),.mov (.t 18)⟩]))))
def zax8 (x0 x1 x7 x8:DV) (h:List AObj):St:=⟨[x0,x1]++js 5++[x7,x8]++js 10,h⟩
def a56:AFn where
 code:=(.seq (.region false [⟨none,(some 4),.mov (.k (.int .i64 0))⟩])
 (.seq (.seq (.region false [⟨none,(some 6),.mov (.t 0)⟩,
  ⟨none,(some 7),.len (.t 6)⟩,
  ⟨none,(some 8),.mov (.k (.int .i64 0))⟩])
 (.block 0 (.loop zvgs)))
 (.seq (.region false [⟨none,(some 4),.mov (.k (.int .i64 (-1)))⟩])
 .ret)))
 ntmps:=19
 res:=[.tmp 4]
theorem zcwb:zsjc P Try.f56=some a56:=by kernel_rfl
def a59:AFn where
 code:=(.seq (.region false [⟨none,(some 2),.box (.t 0)⟩,
  ⟨none,(some 3),.box (.t 1)⟩,
  ⟨none,(some 4),.mov (.k (.int .i64 0))⟩])
 (.seq (.region false [⟨none,(some 5),.fld 0 (.t 2)⟩,
  ⟨none,(some 6),.load 1 false (.t 5)⟩,
  ⟨none,(some 7),.fld 0 (.t 3)⟩,
  ⟨none,(some 8),.load 1 false (.t 7)⟩,
  ⟨none,(some 9),.call (.k (.fn (.func 60) [] [])) [(.t 6),(.t 8)]⟩,
  ⟨none,(some 4),.mov (.t 9)⟩])
 .ret))
 ntmps:=10
 res:=[.tmp 4]
theorem zwsz:zsjc P Try.f59=some a59:=by kernel_rfl
def a60:AFn where
 code:=(.seq (.region false [⟨none,(some 4),.mov (.k (.int .i64 0))⟩])
 (.seq (.region false [⟨none,(some 7),.mov (.t 0)⟩,
  ⟨none,(some 8),.call (.k (.fn (.func 71) [] [])) [(.t 7)]⟩,
  ⟨none,(some 5),.mov (.t 8)⟩])
 (.seq (.region false [⟨none,(some 9),.mov (.t 1)⟩,
  ⟨none,(some 10),.call (.k (.fn (.func 71) [] [])) [(.t 9)]⟩,
  ⟨none,(some 6),.mov (.t 10)⟩])
 (.seq (.seq (.region false [⟨none,(some 11),.mov (.t 5)⟩])
 (.cond (.t 11) (.seq (.seq (.region false [⟨none,(some 12),.mov (.t 6)⟩])
 (.cond (.t 12) (.seq (.region false [⟨none,(some 4),.mov (.k (.int .i64 0))⟩])
 .ret)
 .skip))
 (.seq (.region false [⟨none,(some 4),.mov (.k (.int .i64 (-1)))⟩])
 .ret))
 .skip))
 (.seq (.seq (.region false [⟨none,(some 13),.mov (.t 6)⟩])
 (.cond (.t 13) (.seq (.region false [⟨none,(some 4),.mov (.k (.int .i64 1))⟩])
 .ret)
 .skip))
 (.seq (.seq (.region false [⟨none,(some 14),.mov (.t 0)⟩,
  ⟨none,(some 15),.mov (.t 1)⟩,
  ⟨none,(some 16),.bin .lss (.t 14) (.t 15)⟩])
 (.cond (.t 16) (.seq (.region false [⟨none,(some 4),.mov (.k (.int .i64 (-1)))⟩])
 .ret)
 .skip))
 (.seq (.seq (.region false [⟨none,(some 17),.mov (.t 0)⟩,
  ⟨none,(some 18),.mov (.t 1)⟩,
  ⟨none,(some 19),.bin .gtr (.t 17) (.t 18)⟩])
 (.cond (.t 19) (.seq (.region false [⟨none,(some 4),.mov (.k (.int .i64 1))⟩])
 .ret)
 .skip))
 (.seq (.region false [⟨none,(some 4),.mov (.k (.int .i64 0))⟩])
 .ret))))))))
 ntmps:=20
 res:=[.tmp 4]
theorem z6e9:zsjc P Try.f60=some a60:=by kernel_rfl
def a71:AFn where
 code:=(.seq (.region false [⟨none,(some 2),.mov (.k (.bool false))⟩])
 (.seq (.region false [⟨none,(some 3),.mov (.t 0)⟩,
  ⟨none,(some 4),.mov (.t 0)⟩,
  ⟨none,(some 5),.bin .neq (.t 3) (.t 4)⟩,
  ⟨none,(some 2),.mov (.t 5)⟩])
 .ret))
 ntmps:=6
 res:=[.tmp 2]
theorem zbtg:zsjc P Try.f71=some a71:=by kernel_rfl
def zzeu:ACode :=
 (.seq (.seq (.region true [⟨none,(some 18),.mov (.t 9)⟩,
  ⟨none,(some 19),.mov (.t 1)⟩,
  ⟨none,(some 20),.bin .gtr (.t 18) (.t 19)⟩,
  ⟨none,(some 21),.mov (.t 20)⟩,
  ⟨(some (21,true)),(some 22),.mov (.t 3)⟩,
  ⟨(some (21,true)),(some 23),.mov (.t 0)⟩,
  ⟨(some (21,true)),(some 24),.mov (.t 9)⟩,
  ⟨(some (21,true)),(some 25),.idxS 4 (.t 23) (.t 24)⟩,
  ⟨(some (21,true)),(some 26),.load 4 true (.t 25)⟩,
  ⟨(some (21,true)),(some 27),.mov (.t 0)⟩,
  ⟨(some (21,true)),(some 28),.mov (.t 9)⟩,
  ⟨(some (21,true)),(some 29),.bin .sub (.t 28) (.k (.int .i64 1))⟩,
  ⟨(some (21,true)),(some 30),.idxS 4 (.t 27) (.t 29)⟩,
  ⟨(some (21,true)),(some 31),.load 4 true (.t 30)⟩,
  ⟨(some (21,true)),(some 32),.callN (.t 22) [(.t 26),(.t 31)]⟩,
  ⟨(some (21,true)),(some 33),.bin .lss (.t 32) (.k (.int .i64 0))⟩,
  ⟨none,(some 34),.pick (.t 21) (.t 33) (.k (.bool false))⟩])
 (.cond (.t 34) .skip
 (.exit 2)))
 (.seq (.block 3 (.region true [⟨none,(some 37),.mov (.t 0)⟩,
  ⟨none,(some 38),.mov (.t 9)⟩,
  ⟨none,(some 39),.mov (.t 0)⟩,
  ⟨none,(some 40),.mov (.t 9)⟩,
  ⟨none,(some 41),.bin .sub (.t 40) (.k (.int .i64 1))⟩,
  ⟨none,(some 42),.mov (.t 0)⟩,
  ⟨none,(some 43),.mov (.t 9)⟩,
  ⟨none,(some 44),.bin .sub (.t 43) (.k (.int .i64 1))⟩,
  ⟨none,(some 45),.idxS 4 (.t 42) (.t 44)⟩,
  ⟨none,(some 46),.load 4 true (.t 45)⟩,
  ⟨none,(some 47),.mov (.t 0)⟩,
  ⟨none,(some 48),.mov (.t 9)⟩,
  ⟨none,(some 49),.idxS 4 (.t 47) (.t 48)⟩,
  ⟨none,(some 50),.load 4 true (.t 49)⟩,
  ⟨none,(some 51),.idxS 4 (.t 37) (.t 38)⟩,
  ⟨none,none,.store 4 (.t 51) (.t 46)⟩,
  ⟨none,(some 52),.idxS 4 (.t 39) (.t 41)⟩,
  ⟨none,none,.store 4 (.t 52) (.t 50)⟩]))
 (.region false [⟨none,(some 35),.mov (.t 9)⟩,
  ⟨none,(some 36),.bin .sub (.t 35) (.k (.int .i64 1))⟩,
  ⟨none,(some 9),.mov (.t 36)⟩])))
def z5h4 (x0 x1 x2 x3 x8 x9:DV) (h:List AObj):St:=⟨[x0,x1,x2,x3]++js 4++[x8,x9]++js 43,h⟩
def zndk:ACode :=
 (.seq (.seq (.region false [⟨none,(some 12),.mov (.t 8)⟩,
  ⟨none,(some 13),.mov (.t 2)⟩,
  ⟨none,(some 14),.bin .lss (.t 12) (.t 13)⟩])
 (.cond (.t 14) .skip
 (.exit 0)))
 (.seq (.block 1 (.seq (.region false [⟨none,(some 17),.mov (.t 8)⟩,
  ⟨none,(some 9),.mov (.t 17)⟩])
 (.block 2 (.loop zzeu))))
 (.region false [⟨none,(some 15),.mov (.t 8)⟩,
  ⟨none,(some 16),.bin .add (.t 15) (.k (.int .i64 1))⟩,
  ⟨none,(some 8),.mov (.t 16)⟩])))
def zkbr (x0 x1 x2 x3 x8:DV) (h:List AObj):St:=⟨[x0,x1,x2,x3]++js 4++[x8]++js 44,h⟩
def a74:AFn where
 code:=(.seq (.region false [⟨none,(some 10),.mov (.t 1)⟩,
  ⟨none,(some 11),.bin .add (.t 10) (.k (.int .i64 1))⟩,
  ⟨none,(some 8),.mov (.t 11)⟩])
 (.block 0 (.loop zndk)))
 ntmps:=53
 res:=[]
theorem z26r:zsjc P Try.f74=some a74:=by kernel_rfl
def z3a0:ACode :=
 (.seq (.seq (.region false [⟨none,(some 11),.mov (.t 8)⟩,
  ⟨none,(some 12),.mov (.t 1)⟩,
  ⟨none,(some 13),.bin .leq (.t 11) (.t 12)⟩])
 (.cond (.t 13) .skip
 (.exit 0)))
 (.block 1 (.seq (.region false [⟨none,(some 14),.mov (.t 0)⟩,
  ⟨none,(some 15),.mov (.t 7)⟩,
  ⟨none,(some 16),.mov (.t 8)⟩,
  ⟨none,(some 17),.mov (.t 2)⟩,
  ⟨none,(some 18),.call (.k (.fn (.func 74) [] [])) [(.t 14),(.t 15),(.t 16),(.t 17)]⟩])
 (.seq (.region false [⟨none,(some 19),.mov (.t 8)⟩,
  ⟨none,(some 7),.mov (.t 19)⟩])
 (.region false [⟨none,(some 20),.mov (.t 8)⟩,
  ⟨none,(some 21),.mov (.t 6)⟩,
  ⟨none,(some 22),.bin .add (.t 20) (.t 21)⟩,
  ⟨none,(some 8),.mov (.t 22)⟩])))))
def ziom (x0 x1 x2 x6 x7 x8:DV) (h:List AObj):St:=⟨[x0,x1,x2,.junk,.junk,.junk,x6,x7,x8]++js 54,h⟩
def zrcs:ACode :=
 (.seq (.seq (.region false [⟨none,(some 33),.mov (.t 8)⟩,
  ⟨none,(some 34),.mov (.t 1)⟩,
  ⟨none,(some 35),.bin .leq (.t 33) (.t 34)⟩])
 (.cond (.t 35) .skip
 (.exit 4)))
 (.block 5 (.seq (.region false [⟨none,(some 36),.mov (.t 0)⟩,
  ⟨none,(some 37),.mov (.t 7)⟩,
  ⟨none,(some 38),.mov (.t 7)⟩,
  ⟨none,(some 39),.mov (.t 6)⟩,
  ⟨none,(some 40),.bin .add (.t 38) (.t 39)⟩,
  ⟨none,(some 41),.mov (.t 8)⟩,
  ⟨none,(some 42),.mov (.t 2)⟩,
  ⟨none,(some 43),.call (.k (.fn (.func 75) [] [])) [(.t 36),(.t 37),(.t 40),(.t 41),(.t 42)]⟩])
 (.seq (.region false [⟨none,(some 44),.mov (.t 8)⟩,
  ⟨none,(some 7),.mov (.t 44)⟩])
 (.region false [⟨none,(some 45),.mov (.t 8)⟩,
  ⟨none,(some 46),.mov (.t 6)⟩,
  ⟨none,(some 47),.bin .mul (.k (.int .i64 2)) (.t 46)⟩,
  ⟨none,(some 48),.bin .add (.t 45) (.t 47)⟩,
  ⟨none,(some 8),.mov (.t 48)⟩])))))
def zhuc:ACode :=
 (.seq (.seq (.region false [⟨none,(some 28),.mov (.t 6)⟩,
  ⟨none,(some 29),.mov (.t 1)⟩,
  ⟨none,(some 30),.bin .lss (.t 28) (.t 29)⟩])
 (.cond (.t 30) .skip
 (.exit 2)))
 (.block 3 (.seq (.region false [⟨none,(some 31),.mov (.t 6)⟩,
  ⟨none,(some 32),.bin .mul (.k (.int .i64 2)) (.t 31)⟩,
  ⟨none,(some 7),.mov (.k (.int .i64 0))⟩,
  ⟨none,(some 8),.mov (.t 32)⟩])
 (.seq (.block 4 (.loop zrcs))
 (.seq (.seq (.region false [⟨none,(some 49),.mov (.t 7)⟩,
  ⟨none,(some 50),.mov (.t 6)⟩,
  ⟨none,(some 51),.bin .add (.t 49) (.t 50)⟩,
  ⟨none,(some 9),.mov (.t 51)⟩])
 (.seq (.region false [⟨none,(some 52),.mov (.t 9)⟩,
  ⟨none,(some 53),.mov (.t 1)⟩,
  ⟨none,(some 54),.bin .lss (.t 52) (.t 53)⟩])
 (.cond (.t 54) (.region false [⟨none,(some 55),.mov (.t 0)⟩,
  ⟨none,(some 56),.mov (.t 7)⟩,
  ⟨none,(some 57),.mov (.t 9)⟩,
  ⟨none,(some 58),.mov (.t 1)⟩,
  ⟨none,(some 59),.mov (.t 2)⟩,
  ⟨none,(some 60),.call (.k (.fn (.func 75) [] [])) [(.t 55),(.t 56),(.t 57),(.t 58),(.t 59)]⟩])
 .skip)))
 (.region false [⟨none,(some 61),.mov (.t 6)⟩,
  ⟨none,(some 62),.bin .mul (.t 61) (.k (.int .i64 2))⟩,
  ⟨none,(some 6),.mov (.t 62)⟩]))))))
def z861 (x0 x1 x2 x6:DV) (h:List AObj):St:=⟨[x0,x1,x2,.junk,.junk,.junk,x6]++js 56,h⟩
def a70:AFn where
 code:=(.seq (.region false [⟨none,(some 6),.mov (.k (.int .i64 20))⟩])
 (.seq (.region false [⟨none,(some 10),.mov (.t 6)⟩,
  ⟨none,(some 7),.mov (.k (.int .i64 0))⟩,
  ⟨none,(some 8),.mov (.t 10)⟩])
 (.seq (.block 0 (.loop z3a0))
 (.seq (.region false [⟨none,(some 23),.mov (.t 0)⟩,
  ⟨none,(some 24),.mov (.t 7)⟩,
  ⟨none,(some 25),.mov (.t 1)⟩,
  ⟨none,(some 26),.mov (.t 2)⟩,
  ⟨none,(some 27),.call (.k (.fn (.func 74) [] [])) [(.t 23),(.t 24),(.t 25),(.t 26)]⟩])
 (.block 2 (.loop zhuc))))))
 ntmps:=63
 res:=[]
theorem zhcw:zsjc P Try.f70=some a70:=by kernel_rfl
def a58:AFn where
 code:=(.region false [⟨none,(some 4),.mov (.t 0)⟩,
  ⟨none,(some 5),.mov (.t 0)⟩,
  ⟨none,(some 6),.len (.t 5)⟩,
  ⟨none,(some 7),.mov (.t 1)⟩,
  ⟨none,(some 8),.call (.k (.fn (.func 70) [] [])) [(.t 4),(.t 6),(.t 7)]⟩])
 ntmps:=9
 res:=[]
theorem zt5h:zsjc P Try.f58=some a58:=by kernel_rfl
def zcr2:ACode :=
 (.seq (.region false [⟨none,(some 13),.bin .lss (.t 12) (.t 11)⟩])
 (.seq (.cond (.t 13) .skip
 (.exit 0))
 (.seq (.block 1 (.seq (.region false [⟨none,(some 14),.idxS 9 (.t 10) (.t 12)⟩,
  ⟨none,(some 15),.load 9 true (.t 14)⟩,
  ⟨none,(some 7),.alloc [(.str []),(.str []),(.str []),(.str []),(.int .i64 0),.nils,.nils,.nils,.nils]⟩,
  ⟨none,none,.store 9 (.t 7) (.t 15)⟩])
 (.region false [⟨none,(some 16),.mov (.t 5)⟩,
  ⟨none,(some 17),.fld 0 (.t 7)⟩,
  ⟨none,(some 18),.load 1 false (.t 17)⟩,
  ⟨none,(some 19),.fld 0 (.t 2)⟩,
  ⟨none,(some 20),.load 1 false (.t 19)⟩,
  ⟨none,(some 21),.fld 1 (.t 7)⟩,
  ⟨none,(some 22),.fld 6 (.t 21)⟩,
  ⟨none,(some 23),.load 1 false (.t 22)⟩,
  ⟨none,(some 24),.fld 1 (.t 7)⟩,
  ⟨none,(some 25),.fld 7 (.t 24)⟩,
  ⟨none,(some 26),.load 1 false (.t 25)⟩,
  ⟨none,(some 27),.build [(.str []),.nils,.nils] [(0,1,(.t 20)),(1,1,(.t 23)),(2,1,(.t 26))]⟩,
  ⟨none,(some 28),.build [(.str []),(.str []),.nils,.nils] [(0,1,(.t 18)),(1,3,(.t 27))]⟩,
  ⟨none,(some 29),.bsl 4 1 [(.str []),(.str []),.nils,.nils] [(0,4,(.t 28))]⟩,
  ⟨none,(some 30),.app 4 80 (.t 16) (.t 29)⟩,
  ⟨none,(some 5),.mov (.t 30)⟩])))
 (.region false [⟨none,(some 31),.bin .add (.t 12) (.k (.int .i64 1))⟩,
  ⟨none,(some 12),.mov (.t 31)⟩]))))
def z3id (x2 x5 x10 x11 x12:DV) (h:List AObj):St:=⟨[.junk,.junk,x2,.junk,.junk,x5]++js 4++[x10,x11,x12]++js 22,h⟩
def a33:AFn where
 code:=(.seq (.region false [⟨none,(some 2),.box (.t 0)⟩,
  ⟨none,(some 4),.mov (.k .nils)⟩])
 (.seq (.region false [⟨none,(some 5),.mov (.k .nils)⟩])
 (.seq (.seq (.region false [⟨none,(some 8),.load 7 true (.t 2)⟩,
  ⟨none,(some 9),.mov (.t 1)⟩,
  ⟨none,(some 10),.call (.k (.fn (.func 10) [] [])) [(.t 8),(.t 9)]⟩,
  ⟨none,(some 11),.len (.t 10)⟩,
  ⟨none,(some 12),.mov (.k (.int .i64 0))⟩])
 (.block 0 (.loop zcr2)))
 (.seq (.region false [⟨none,(some 32),.mov (.t 5)⟩,
  ⟨none,(some 33),.call (.k (.fn (.func 58) [] [])) [(.t 32),(.k (.fn (.func 59) [] []))]⟩])
 (.seq (.region false [⟨none,(some 34),.mov (.t 5)⟩,
  ⟨none,(some 4),.mov (.t 34)⟩])
 .ret)))))
 ntmps:=35
 res:=[.tmp 4]
theorem zojn:zsjc P Try.f33=some a33:=by kernel_rfl
end
section
set_option linter.unusedSimpArgs false
set_option linter.unusedVariables false
open Go Go.Am
def a34:AFn where
 code:=(.seq (.region false [⟨none,(some 2),.box (.t 0)⟩,
  ⟨none,(some 3),.box (.t 1)⟩,
  ⟨none,(some 4),.mov (.k (.bool false))⟩])
 (.seq (.region false [⟨none,(some 5),.fld 0 (.t 2)⟩,
  ⟨none,(some 6),.load 1 false (.t 5)⟩,
  ⟨none,(some 7),.fld 0 (.t 3)⟩,
  ⟨none,(some 8),.load 1 false (.t 7)⟩,
  ⟨none,(some 9),.bin .eql (.t 6) (.t 8)⟩,
  ⟨none,(some 4),.mov (.t 9)⟩])
 .ret))
 ntmps:=10
 res:=[.tmp 4]
theorem zk28:zsjc P Try.f34=some a34:=by kernel_rfl
def a36:AFn where
 code:=(.seq (.region false [⟨none,(some 2),.box (.t 0)⟩,
  ⟨none,(some 3),.mov (.k (.bool false))⟩])
 (.seq (.region true [⟨none,(some 4),.fld 1 (.t 2)⟩,
  ⟨none,(some 5),.load 3 true (.t 4)⟩,
  ⟨none,(some 6),.load 1 false (.t 1)⟩,
  ⟨none,(some 7),.idxS 4 (.t 6) (.k (.int .i64 0))⟩,
  ⟨none,(some 8),.fld 1 (.t 7)⟩,
  ⟨none,(some 9),.load 3 true (.t 8)⟩,
  ⟨none,(some 10),.callN (.k (.fn (.func 21) [] [])) [(.t 5),(.t 9)]⟩,
  ⟨none,(some 11),.un .not (.t 10)⟩,
  ⟨none,(some 3),.mov (.t 11)⟩])
 .ret))
 ntmps:=12
 res:=[.tmp 3]
theorem zj68:zsjc P Try.f36=some a36:=by kernel_rfl
def a37:AFn where
 code:=(.seq (.region false [⟨none,(some 2),.box (.t 0)⟩,
  ⟨none,(some 3),.box (.t 1)⟩,
  ⟨none,(some 4),.mov (.k (.bool false))⟩])
 (.seq (.region false [⟨none,(some 5),.fld 1 (.t 2)⟩,
  ⟨none,(some 6),.load 3 true (.t 5)⟩,
  ⟨none,(some 7),.fld 1 (.t 3)⟩,
  ⟨none,(some 8),.load 3 true (.t 7)⟩,
  ⟨none,(some 9),.call (.k (.fn (.func 21) [] [])) [(.t 6),(.t 8)]⟩,
  ⟨none,(some 4),.mov (.t 9)⟩])
 .ret))
 ntmps:=10
 res:=[.tmp 4]
theorem z554:zsjc P Try.f37=some a37:=by kernel_rfl
def a39:AFn where
 code:=(.seq (.region false [⟨none,(some 2),.box (.t 0)⟩,
  ⟨none,(some 3),.box (.t 1)⟩,
  ⟨none,(some 4),.mov (.k (.int .i64 0))⟩])
 (.seq (.region false [⟨none,(some 5),.fld 3 (.t 3)⟩,
  ⟨none,(some 6),.load 1 false (.t 5)⟩,
  ⟨none,(some 7),.len (.t 6)⟩,
  ⟨none,(some 8),.fld 3 (.t 2)⟩,
  ⟨none,(some 9),.load 1 false (.t 8)⟩,
  ⟨none,(some 10),.len (.t 9)⟩,
  ⟨none,(some 11),.call (.k (.fn (.func 40) [] [])) [(.t 7),(.t 10)]⟩,
  ⟨none,(some 4),.mov (.t 11)⟩])
 .ret))
 ntmps:=12
 res:=[.tmp 4]
theorem zjwo:zsjc P Try.f39=some a39:=by kernel_rfl
def a40:AFn where
 code:=(.seq (.region false [⟨none,(some 4),.mov (.k (.int .i64 0))⟩])
 (.seq (.region false [⟨none,(some 7),.mov (.t 0)⟩,
  ⟨none,(some 8),.call (.k (.fn (.func 63) [] [])) [(.t 7)]⟩,
  ⟨none,(some 5),.mov (.t 8)⟩])
 (.seq (.region false [⟨none,(some 9),.mov (.t 1)⟩,
  ⟨none,(some 10),.call (.k (.fn (.func 63) [] [])) [(.t 9)]⟩,
  ⟨none,(some 6),.mov (.t 10)⟩])
 (.seq (.seq (.region false [⟨none,(some 11),.mov (.t 5)⟩])
 (.cond (.t 11) (.seq (.seq (.region false [⟨none,(some 12),.mov (.t 6)⟩])
 (.cond (.t 12) (.seq (.region false [⟨none,(some 4),.mov (.k (.int .i64 0))⟩])
 .ret)
 .skip))
 (.seq (.region false [⟨none,(some 4),.mov (.k (.int .i64 (-1)))⟩])
 .ret))
 .skip))
 (.seq (.seq (.region false [⟨none,(some 13),.mov (.t 6)⟩])
 (.cond (.t 13) (.seq (.region false [⟨none,(some 4),.mov (.k (.int .i64 1))⟩])
 .ret)
 .skip))
 (.seq (.seq (.region false [⟨none,(some 14),.mov (.t 0)⟩,
  ⟨none,(some 15),.mov (.t 1)⟩,
  ⟨none,(some 16),.bin .lss (.t 14) (.t 15)⟩])
 (.cond (.t 16) (.seq (.region false [⟨none,(some 4),.mov (.k (.int .i64 (-1)))⟩])
 .ret)
 .skip))
 (.seq (.seq (.region false [⟨none,(some 17),.mov (.t 0)⟩,
  ⟨none,(some 18),.mov (.t 1)⟩,
  ⟨none,(some 19),.bin .gtr (.t 17) (.t 18)⟩])
 (.cond (.t 19) (.seq (.region false [⟨none,(some 4),.mov (.k (.int .i64 1))⟩])
 .ret)
 .skip))
 (.seq (.region false [⟨none,(some 4),.mov (.k (.int .i64 0))⟩])
 .ret))))))))
 ntmps:=20
 res:=[.tmp 4]
theorem zn9f:zsjc P Try.f40=some a40:=by kernel_rfl
def a63:AFn where
 code:=(.seq (.region false [⟨none,(some 2),.mov (.k (.bool false))⟩])
 (.seq (.region false [⟨none,(some 3),.mov (.t 0)⟩,
  ⟨none,(some 4),.mov (.t 0)⟩,
  ⟨none,(some 5),.bin .neq (.t 3) (.t 4)⟩,
  ⟨none,(some 2),.mov (.t 5)⟩])
 .ret))
 ntmps:=6
 res:=[.tmp 2]
theorem z2tu:zsjc P Try.f63=some a63:=by kernel_rfl
def zx3n:ACode :=
 (.seq (.region false [⟨none,(some 9),.bin .lss (.t 8) (.t 7)⟩])
 (.seq (.cond (.t 9) .skip
 (.exit 0))
 (.seq (.block 1 (.seq (.region false [⟨none,(some 10),.mov (.t 8)⟩,
  ⟨none,(some 5),.mov (.t 10)⟩])
 (.seq (.region false [⟨none,(some 11),.mov (.t 1)⟩,
  ⟨none,(some 12),.mov (.t 0)⟩,
  ⟨none,(some 13),.mov (.t 5)⟩,
  ⟨none,(some 14),.idxS 4 (.t 12) (.t 13)⟩,
  ⟨none,(some 15),.load 4 true (.t 14)⟩,
  ⟨none,(some 16),.call (.t 11) [(.t 15)]⟩])
 (.cond (.t 16) (.seq (.region false [⟨none,(some 17),.mov (.t 5)⟩,
  ⟨none,(some 4),.mov (.t 17)⟩])
 .ret)
 .skip))))
 (.region false [⟨none,(some 18),.bin .add (.t 8) (.k (.int .i64 1))⟩,
  ⟨none,(some 8),.mov (.t 18)⟩]))))
def zyvq (x0 x1 x7 x8:DV) (h:List AObj):St:=⟨[x0,x1]++js 5++[x7,x8]++js 10,h⟩
def a61:AFn where
 code:=(.seq (.region false [⟨none,(some 4),.mov (.k (.int .i64 0))⟩])
 (.seq (.seq (.region false [⟨none,(some 6),.mov (.t 0)⟩,
  ⟨none,(some 7),.len (.t 6)⟩,
  ⟨none,(some 8),.mov (.k (.int .i64 0))⟩])
 (.block 0 (.loop zx3n)))
 (.seq (.region false [⟨none,(some 4),.mov (.k (.int .i64 (-1)))⟩])
 .ret)))
 ntmps:=19
 res:=[.tmp 4]
theorem zuuw:zsjc P Try.f61=some a61:=by kernel_rfl
def a35:AFn where
 code:=(.seq (.region false [⟨none,(some 4),.mov (.k (.bool false))⟩])
 (.seq (.region false [⟨none,(some 5),.mov (.t 0)⟩,
  ⟨none,(some 6),.mov (.t 1)⟩,
  ⟨none,(some 7),.call (.k (.fn (.func 61) [] [])) [(.t 5),(.t 6)]⟩,
  ⟨none,(some 8),.bin .geq (.t 7) (.k (.int .i64 0))⟩,
  ⟨none,(some 4),.mov (.t 8)⟩])
 .ret))
 ntmps:=9
 res:=[.tmp 4]
theorem zxwh:zsjc P Try.f35=some a35:=by kernel_rfl
def zssg:ACode :=
 (.seq (.seq (.region true [⟨none,(some 18),.mov (.t 9)⟩,
  ⟨none,(some 19),.mov (.t 1)⟩,
  ⟨none,(some 20),.bin .gtr (.t 18) (.t 19)⟩,
  ⟨none,(some 21),.mov (.t 20)⟩,
  ⟨(some (21,true)),(some 22),.mov (.t 3)⟩,
  ⟨(some (21,true)),(some 23),.mov (.t 0)⟩,
  ⟨(some (21,true)),(some 24),.mov (.t 9)⟩,
  ⟨(some (21,true)),(some 25),.idxS 5 (.t 23) (.t 24)⟩,
  ⟨(some (21,true)),(some 26),.load 5 true (.t 25)⟩,
  ⟨(some (21,true)),(some 27),.mov (.t 0)⟩,
  ⟨(some (21,true)),(some 28),.mov (.t 9)⟩,
  ⟨(some (21,true)),(some 29),.bin .sub (.t 28) (.k (.int .i64 1))⟩,
  ⟨(some (21,true)),(some 30),.idxS 5 (.t 27) (.t 29)⟩,
  ⟨(some (21,true)),(some 31),.load 5 true (.t 30)⟩,
  ⟨(some (21,true)),(some 32),.callN (.t 22) [(.t 26),(.t 31)]⟩,
  ⟨(some (21,true)),(some 33),.bin .lss (.t 32) (.k (.int .i64 0))⟩,
  ⟨none,(some 34),.pick (.t 21) (.t 33) (.k (.bool false))⟩])
 (.cond (.t 34) .skip
 (.exit 2)))
 (.seq (.block 3 (.region true [⟨none,(some 37),.mov (.t 0)⟩,
  ⟨none,(some 38),.mov (.t 9)⟩,
  ⟨none,(some 39),.mov (.t 0)⟩,
  ⟨none,(some 40),.mov (.t 9)⟩,
  ⟨none,(some 41),.bin .sub (.t 40) (.k (.int .i64 1))⟩,
  ⟨none,(some 42),.mov (.t 0)⟩,
  ⟨none,(some 43),.mov (.t 9)⟩,
  ⟨none,(some 44),.bin .sub (.t 43) (.k (.int .i64 1))⟩,
  ⟨none,(some 45),.idxS 5 (.t 42) (.t 44)⟩,
  ⟨none,(some 46),.load 5 true (.t 45)⟩,
  ⟨none,(some 47),.mov (.t 0)⟩,
  ⟨none,(some 48),.mov (.t 9)⟩,
  ⟨none,(some 49),.idxS 5 (.t 47) (.t 48)⟩,
  ⟨none,(some 50),.load 5 true (.t 49)⟩,
  ⟨none,(some 51),.idxS 5 (.t 37) (.t 38)⟩,
  ⟨none,none,.store 5 (.t 51) (.t 46)⟩,
  ⟨none,(some 52),.idxS 5 (.t 39) (.t 41)⟩,
  ⟨none,none,.store 5 (.t 52) (.t 50)⟩]))
 (.region false [⟨none,(some 35),.mov (.t 9)⟩,
  ⟨none,(some 36),.bin .sub (.t 35) (.k (.int .i64 1))⟩,
  ⟨none,(some 9),.mov (.t 36)⟩])))
def zsm4 (x0 x1 x2 x3 x8 x9:DV) (h:List AObj):St:=⟨[x0,x1,x2,x3]++js 4++[x8,x9]++js 43,h⟩
def zcng:ACode :=
 (.seq (.seq (.region false [⟨none,(some 12),.mov (.t 8)⟩,
  ⟨none,(some 13),.mov (.t 2)⟩,
  ⟨none,(some 14),.bin .lss (.t 12) (.t 13)⟩])
 (.cond (.t 14) .skip
 (.exit 0)))
 (.seq (.block 1 (.seq (.region false [⟨none,(some 17),.mov (.t 8)⟩,
  ⟨none,(some 9),.mov (.t 17)⟩])
 (.block 2 (.loop zssg))))
 (.region false [⟨none,(some 15),.mov (.t 8)⟩,
  ⟨none,(some 16),.bin .add (.t 15) (.k (.int .i64 1))⟩,
  ⟨none,(some 8),.mov (.t 16)⟩])))
def z6ro (x0 x1 x2 x3 x8:DV) (h:List AObj):St:=⟨[x0,x1,x2,x3]++js 4++[x8]++js 44,h⟩
def a72:AFn where
 code:=(.seq (.region false [⟨none,(some 10),.mov (.t 1)⟩,
  ⟨none,(some 11),.bin .add (.t 10) (.k (.int .i64 1))⟩,
  ⟨none,(some 8),.mov (.t 11)⟩])
 (.block 0 (.loop zcng)))
 ntmps:=53
 res:=[]
theorem z0xs:zsjc P Try.f72=some a72:=by kernel_rfl
def z1dk:ACode :=
 (.seq (.seq (.region false [⟨none,(some 11),.mov (.t 8)⟩,
  ⟨none,(some 12),.mov (.t 1)⟩,
  ⟨none,(some 13),.bin .leq (.t 11) (.t 12)⟩])
 (.cond (.t 13) .skip
 (.exit 0)))
 (.block 1 (.seq (.region false [⟨none,(some 14),.mov (.t 0)⟩,
  ⟨none,(some 15),.mov (.t 7)⟩,
  ⟨none,(some 16),.mov (.t 8)⟩,
  ⟨none,(some 17),.mov (.t 2)⟩,
  ⟨none,(some 18),.call (.k (.fn (.func 72) [] [])) [(.t 14),(.t 15),(.t 16),(.t 17)]⟩])
 (.seq (.region false [⟨none,(some 19),.mov (.t 8)⟩,
  ⟨none,(some 7),.mov (.t 19)⟩])
 (.region false [⟨none,(some 20),.mov (.t 8)⟩,
  ⟨none,(some 21),.mov (.t 6)⟩,
  ⟨none,(some 22),.bin .add (.t 20) (.t 21)⟩,
  ⟨none,(some 8),.mov (.t 22)⟩])))))
def zbk2 (x0 x1 x2 x6 x7 x8:DV) (h:List AObj):St:=⟨[x0,x1,x2,.junk,.junk,.junk,x6,x7,x8]++js 54,h⟩
def zuf9:ACode :=
 (.seq (.seq (.region false [⟨none,(some 33),.mov (.t 8)⟩,
  ⟨none,(some 34),.mov (.t 1)⟩,
  ⟨none,(some 35),.bin .leq (.t 33) (.t 34)⟩])
 (.cond (.t 35) .skip
 (.exit 4)))
 (.block 5 (.seq (.region false [⟨none,(some 36),.mov (.t 0)⟩,
  ⟨none,(some 37),.mov (.t 7)⟩,
  ⟨none,(some 38),.mov (.t 7)⟩,
  ⟨none,(some 39),.mov (.t 6)⟩,
  ⟨none,(some 40),.bin .add (.t 38) (.t 39)⟩,
  ⟨none,(some 41),.mov (.t 8)⟩,
  ⟨none,(some 42),.mov (.t 2)⟩,
  ⟨none,(some 43),.call (.k (.fn (.func 73) [] [])) [(.t 36),(.t 37),(.t 40),(.t 41),(.t 42)]⟩])
 (.seq (.region false [⟨none,(some 44),.mov (.t 8)⟩,
  ⟨none,(some 7),.mov (.t 44)⟩])
 (.region false [⟨none,(some 45),.mov (.t 8)⟩,
  ⟨none,(some 46),.mov (.t 6)⟩,
  ⟨none,(some 47),.bin .mul (.k (.int .i64 2)) (.t 46)⟩,
  ⟨none,(some 48),.bin .add (.t 45) (.t 47)⟩,
  ⟨none,(some 8),.mov (.t 48)⟩])))))
def z8zs:ACode :=
 (.seq (.seq (.region false [⟨none,(some 28),.mov (.t 6)⟩,
  ⟨none,(some 29),.mov (.t 1)⟩,
  ⟨none,(some 30),.bin .lss (.t 28) (.t 29)⟩])
 (.cond (.t 30) .skip
 (.exit 2)))
 (.block 3 (.seq (.region false [⟨none,(some 31),.mov (.t 6)⟩,
  ⟨none,(some 32),.bin .mul (.k (.int .i64 2)) (.t 31)⟩,
  ⟨none,(some 7),.mov (.k (.int .i64 0))⟩,
  ⟨none,(some 8),.mov (.t 32)⟩])
 (.seq (.block 4 (.loop zuf9))
 (.seq (.seq (.region false [⟨none,(some 49),.mov (.t 7)⟩,
  ⟨none,(some 50),.mov (.t 6)⟩,
  ⟨none,(some 51),.bin .add (.t 49) (.t 50)⟩,
  ⟨none,(some 9),.mov (.t 51)⟩])
 (.seq (.region false [⟨none,(some 52),.mov (.t 9)⟩,
  ⟨none,(some 53),.mov (.t 1)⟩,
  ⟨none,(some 54),.bin .lss (.t 52) (.t 53)⟩])
 (.cond (.t 54) (.region false [⟨none,(some 55),.mov (.t 0)⟩,
  ⟨none,(some 56),.mov (.t 7)⟩,
  ⟨none,(some 57),.mov (.t 9)⟩,
  ⟨none,(some 58),.mov (.t 1)⟩,
  ⟨none,(some 59),.mov (.t 2)⟩,
  ⟨none,(some 60),.call (.k (.fn (.func 73) [] [])) [(.t 55),(.t 56),(.t 57),(.t 58),(.t 59)]⟩])
 .skip)))
 (.region false [⟨none,(some 61),.mov (.t 6)⟩,
  ⟨none,(some 62),.bin .mul (.t 61) (.k (.int .i64 2))⟩,
  ⟨none,(some 6),.mov (.t 62)⟩]))))))
def zz7r (x0 x1 x2 x6:DV) (h:List AObj):St:=⟨[x0,x1,x2,.junk,.junk,.junk,x6]++js 56,h⟩
def a62:AFn where
 code:=(.seq (.region false [⟨none,(some 6),.mov (.k (.int .i64 20))⟩])
 (.seq (.region false [⟨none,(some 10),.mov (.t 6)⟩,
  ⟨none,(some 7),.mov (.k (.int .i64 0))⟩,
  ⟨none,(some 8),.mov (.t 10)⟩])
 (.seq (.block 0 (.loop z1dk))
 (.seq (.region false [⟨none,(some 23),.mov (.t 0)⟩,
  ⟨none,(some 24),.mov (.t 7)⟩,
  ⟨none,(some 25),.mov (.t 1)⟩,
  ⟨none,(some 26),.mov (.t 2)⟩,
  ⟨none,(some 27),.call (.k (.fn (.func 72) [] [])) [(.t 23),(.t 24),(.t 25),(.t 26)]⟩])
 (.block 2 (.loop z8zs))))))
 ntmps:=63
 res:=[]
theorem z0i3:zsjc P Try.f62=some a62:=by kernel_rfl
def a38:AFn where
 code:=(.region false [⟨none,(some 4),.mov (.t 0)⟩,
  ⟨none,(some 5),.mov (.t 0)⟩,
  ⟨none,(some 6),.len (.t 5)⟩,
  ⟨none,(some 7),.mov (.t 1)⟩,
  ⟨none,(some 8),.call (.k (.fn (.func 62) [] [])) [(.t 4),(.t 6),(.t 7)]⟩])
 ntmps:=9
 res:=[]
theorem zclx:zsjc P Try.f38=some a38:=by kernel_rfl
def z9ex:ACode :=
 (.seq (.region false [⟨none,(some 22),.bin .lss (.t 21) (.t 20)⟩])
 (.seq (.cond (.t 22) .skip
 (.exit 0))
 (.seq (.block 1 (.seq (.region false [⟨none,(some 23),.idxS 1 (.t 19) (.t 21)⟩,
  ⟨none,(some 24),.load 1 false (.t 23)⟩,
  ⟨none,(some 9),.alloc [.nils]⟩,
  ⟨none,none,.store 1 (.t 9) (.t 24)⟩])
 (.seq (.region false [⟨none,(some 25),.load 1 false (.t 9)⟩,
  ⟨none,(some 26),.mkf (.func 36) [] [(.t 9)]⟩,
  ⟨none,(some 27),.call (.k (.fn (.func 35) [] [])) [(.t 25),(.t 26)]⟩])
 (.cond (.t 27) (.region false [⟨none,(some 28),.mov (.t 7)⟩,
  ⟨none,(some 29),.load 1 false (.t 9)⟩,
  ⟨none,(some 30),.idxS 4 (.t 29) (.k (.int .i64 0))⟩,
  ⟨none,(some 31),.fld 0 (.t 30)⟩,
  ⟨none,(some 32),.load 1 false (.t 31)⟩,
  ⟨none,(some 33),.bsl 1 1 [(.str [])] [(0,1,(.t 32))]⟩,
  ⟨none,(some 34),.app 1 16 (.t 28) (.t 33)⟩,
  ⟨none,(some 7),.mov (.t 34)⟩])
 (.region false [⟨none,(some 35),.mov (.t 6)⟩,
  ⟨none,(some 36),.load 1 false (.t 9)⟩,
  ⟨none,(some 37),.idxS 4 (.t 36) (.k (.int .i64 0))⟩,
  ⟨none,(some 38),.load 4 true (.t 37)⟩,
  ⟨none,(some 39),.bsl 4 1 [(.str []),(.str []),.nils,.nils] [(0,4,(.t 38))]⟩,
  ⟨none,(some 40),.app 4 80 (.t 35) (.t 39)⟩,
  ⟨none,(some 6),.mov (.t 40)⟩])))))
 (.region false [⟨none,(some 41),.bin .add (.t 21) (.k (.int .i64 1))⟩,
  ⟨none,(some 21),.mov (.t 41)⟩]))))
def z6m2 (x6 x7 x19 x20 x21:DV) (h:List AObj):St:=⟨js 6++[x6,x7]++js 11++[x19,x20,x21]++js 55,h⟩
def zcvt:ACode :=
 (.seq (.region false [⟨none,(some 57),.bin .lss (.t 56) (.t 55)⟩])
 (.seq (.cond (.t 57) .skip
 (.exit 4))
 (.seq (.block 5 (.seq (.region false [⟨none,(some 58),.idxS 4 (.t 54) (.t 56)⟩,
  ⟨none,(some 59),.load 4 true (.t 58)⟩,
  ⟨none,(some 15),.alloc [(.str []),(.str []),.nils,.nils]⟩,
  ⟨none,none,.store 4 (.t 15) (.t 59)⟩])
 (.region false [⟨none,(some 60),.fld 3 (.t 13)⟩,
  ⟨none,(some 61),.load 1 false (.t 60)⟩,
  ⟨none,(some 62),.fld 0 (.t 15)⟩,
  ⟨none,(some 63),.load 1 false (.t 62)⟩,
  ⟨none,(some 64),.bsl 1 1 [(.str [])] [(0,1,(.t 63))]⟩,
  ⟨none,(some 65),.app 1 16 (.t 61) (.t 64)⟩,
  ⟨none,(some 66),.fld 3 (.t 13)⟩,
  ⟨none,none,.store 1 (.t 66) (.t 65)⟩])))
 (.region false [⟨none,(some 67),.bin .add (.t 56) (.k (.int .i64 1))⟩,
  ⟨none,(some 56),.mov (.t 67)⟩]))))
def zju7 (x7 x10 x13 x43 x44 x45 x54 x55 x56:DV) (h:List AObj):St:=⟨js 7++[x7,.junk,.junk,x10,.junk,.junk,x13]++js 29++[x43,x44,x45]++js 8++[x54,x55,x56]++js 20,h⟩
def z0z5:ACode :=
 (.seq (.region false [⟨none,(some 46),.bin .lss (.t 45) (.t 44)⟩])
 (.seq (.cond (.t 46) .skip
 (.exit 2))
 (.seq (.block 3 (.seq (.region false [⟨none,(some 47),.idxS 1 (.t 43) (.t 45)⟩,
  ⟨none,(some 48),.load 1 false (.t 47)⟩,
  ⟨none,(some 12),.mov (.t 48)⟩])
 (.seq (.region false [⟨none,(some 49),.mov (.t 12)⟩,
  ⟨none,(some 50),.idxS 4 (.t 49) (.k (.int .i64 0))⟩,
  ⟨none,(some 51),.fld 1 (.t 50)⟩,
  ⟨none,(some 52),.load 3 true (.t 51)⟩,
  ⟨none,(some 53),.build [(.str []),.nils,.nils,.nils,.nils] [(0,3,(.t 52))]⟩,
  ⟨none,(some 13),.alloc [(.str []),.nils,.nils,.nils,.nils]⟩,
  ⟨none,none,.store 5 (.t 13) (.t 53)⟩])
 (.seq (.seq (.region false [⟨none,(some 54),.mov (.t 12)⟩,
  ⟨none,(some 55),.len (.t 54)⟩,
  ⟨none,(some 56),.mov (.k (.int .i64 0))⟩])
 (.block 4 (.loop zcvt)))
 (.region false [⟨none,(some 68),.mov (.t 10)⟩,
  ⟨none,(some 69),.load 5 true (.t 13)⟩,
  ⟨none,(some 70),.bsl 5 1 [(.str []),.nils,.nils,.nils,.nils] [(0,5,(.t 69))]⟩,
  ⟨none,(some 71),.app 5 112 (.t 68) (.t 70)⟩,
  ⟨none,(some 10),.mov (.t 71)⟩])))))
 (.region false [⟨none,(some 72),.bin .add (.t 45) (.k (.int .i64 1))⟩,
  ⟨none,(some 45),.mov (.t 72)⟩]))))
def z7i3 (x7 x10 x43 x44 x45:DV) (h:List AObj):St:=⟨js 7++[x7,.junk,.junk,x10]++js 32++[x43,x44,x45]++js 31,h⟩
def a12:AFn where
 code:=(.seq (.region false [⟨none,(some 2),.box (.t 0)⟩,
  ⟨none,(some 4),.mov (.k .nils)⟩,
  ⟨none,(some 5),.mov (.k .nils)⟩])
 (.seq (.region false [⟨none,(some 6),.mov (.k .nils)⟩])
 (.seq (.region false [⟨none,(some 7),.mov (.k .nils)⟩])
 (.seq (.seq (.region false [⟨none,(some 16),.load 7 true (.t 2)⟩,
  ⟨none,(some 17),.mov (.t 1)⟩,
  ⟨none,(some 18),.call (.k (.fn (.func 33) [] [])) [(.t 16),(.t 17)]⟩,
  ⟨none,(some 19),.call (.k (.fn (.func 32) [] [])) [(.t 18),(.k (.fn (.func 34) [] []))]⟩,
  ⟨none,(some 20),.len (.t 19)⟩,
  ⟨none,(some 21),.mov (.k (.int .i64 0))⟩])
 (.block 0 (.loop z9ex)))
 (.seq (.region false [⟨none,(some 10),.mov (.k .nils)⟩])
 (.seq (.seq (.region false [⟨none,(some 42),.mov (.t 6)⟩,
  ⟨none,(some 43),.call (.k (.fn (.func 32) [] [])) [(.t 42),(.k (.fn (.func 37) [] []))]⟩,
  ⟨none,(some 44),.len (.t 43)⟩,
  ⟨none,(some 45),.mov (.k (.int .i64 0))⟩])
 (.block 2 (.loop z0z5)))
 (.seq (.region false [⟨none,(some 73),.mov (.t 10)⟩,
  ⟨none,(some 74),.call (.k (.fn (.func 38) [] [])) [(.t 73),(.k (.fn (.func 39) [] []))]⟩])
 (.seq (.region false [⟨none,(some 75),.mov (.t 10)⟩,
  ⟨none,(some 76),.mov (.t 7)⟩,
  ⟨none,(some 4),.mov (.t 75)⟩,
  ⟨none,(some 5),.mov (.t 76)⟩])
 .ret))))))))
 ntmps:=77
 res:=[.tmp 4,.tmp 5]
theorem zqkh:zsjc P Try.f12=some a12:=by kernel_rfl
def a46:AFn where
 code:=(.seq (.region false [⟨none,(some 2),.box (.t 0)⟩,
  ⟨none,(some 3),.mov (.k (.bool false))⟩])
 (.seq (.region false [⟨none,(some 4),.fld 3 (.t 2)⟩,
  ⟨none,(some 5),.load 1 false (.t 4)⟩,
  ⟨none,(some 6),.len (.t 5)⟩,
  ⟨none,(some 7),.fld 2 (.t 1)⟩,
  ⟨none,(some 8),.load 1 false (.t 7)⟩,
  ⟨none,(some 9),.bin .lss (.t 6) (.t 8)⟩,
  ⟨none,(some 3),.mov (.t 9)⟩])
 .ret))
 ntmps:=10
 res:=[.tmp 3]
theorem znv1:zsjc P Try.f46=some a46:=by kernel_rfl
def zur0:ACode :=
 (.seq (.region false [⟨none,(some 9),.bin .lss (.t 8) (.t 7)⟩])
 (.seq (.cond (.t 9) .skip
 (.exit 0))
 (.seq (.block 1 (.seq (.region false [⟨none,(some 10),.mov (.t 8)⟩,
  ⟨none,(some 5),.mov (.t 10)⟩])
 (.seq (.region false [⟨none,(some 11),.mov (.t 1)⟩,
  ⟨none,(some 12),.mov (.t 0)⟩,
  ⟨none,(some 13),.mov (.t 5)⟩,
  ⟨none,(some 14),.idxS 5 (.t 12) (.t 13)⟩,
  ⟨none,(some 15),.load 5 true (.t 14)⟩,
  ⟨none,(some 16),.call (.t 11) [(.t 15)]⟩])
 (.cond (.t 16) (.seq (.region false [⟨none,(some 17),.mov (.t 5)⟩,
  ⟨none,(some 4),.mov (.t 17)⟩])
 .ret)
 .skip))))
 (.region false [⟨none,(some 18),.bin .add (.t 8) (.k (.int .i64 1))⟩,
  ⟨none,(some 8),.mov (.t 18)⟩]))))
def zm1u (x0 x1 x7 x8:DV) (h:List AObj):St:=⟨[x0,x1]++js 5++[x7,x8]++js 10,h⟩
def a65:AFn where
 code:=(.seq (.region false [⟨none,(some 4),.mov (.k (.int .i64 0))⟩])
 (.seq (.seq (.region false [⟨none,(some 6),.mov (.t 0)⟩,
  ⟨none,(some 7),.len (.t 6)⟩,
  ⟨none,(some 8),.mov (.k (.int .i64 0))⟩])
 (.block 0 (.loop zur0)))
 (.seq (.region false [⟨none,(some 4),.mov (.k (.int .i64 (-1)))⟩])
 .ret)))
 ntmps:=19
 res:=[.tmp 4]
theorem zh04:zsjc P Try.f65=some a65:=by kernel_rfl
def zmv1:ACode :=
 (.seq (.seq (.region false [⟨none,(some 16),.mov (.t 6)⟩,
  ⟨none,(some 17),.mov (.t 0)⟩,
  ⟨none,(some 18),.len (.t 17)⟩,
  ⟨none,(some 19),.bin .lss (.t 16) (.t 18)⟩])
 (.cond (.t 19) .skip
 (.exit 0)))
 (.seq (.block 1 (.seq (.region false [⟨none,(some 22),.mov (.t 0)⟩,
  ⟨none,(some 23),.mov (.t 6)⟩,
  ⟨none,(some 24),.idxS 5 (.t 22) (.t 23)⟩,
  ⟨none,(some 25),.load 5 true (.t 24)⟩,
  ⟨none,(some 7),.alloc [(.str []),.nils,.nils,.nils,.nils]⟩,
  ⟨none,none,.store 5 (.t 7) (.t 25)⟩])
 (.seq (.region false [⟨none,(some 26),.mov (.t 1)⟩,
  ⟨none,(some 27),.load 5 true (.t 7)⟩,
  ⟨none,(some 28),.call (.t 26) [(.t 27)]⟩,
  ⟨none,(some 29),.un .not (.t 28)⟩])
 (.cond (.t 29) (.seq (.region false [⟨none,(some 30),.mov (.t 0)⟩,
  ⟨none,(some 31),.mov (.t 5)⟩,
  ⟨none,(some 32),.load 5 true (.t 7)⟩,
  ⟨none,(some 33),.idxS 5 (.t 30) (.t 31)⟩,
  ⟨none,none,.store 5 (.t 33) (.t 32)⟩])
 (.region false [⟨none,(some 34),.mov (.t 5)⟩,
  ⟨none,(some 35),.bin .add (.t 34) (.k (.int .i64 1))⟩,
  ⟨none,(some 5),.mov (.t 35)⟩]))
 .skip))))
 (.region false [⟨none,(some 20),.mov (.t 6)⟩,
  ⟨none,(some 21),.bin .add (.t 20) (.k (.int .i64 1))⟩,
  ⟨none,(some 6),.mov (.t 21)⟩])))
def z7h3 (x0 x1 x5 x6:DV) (h:List AObj):St:=⟨[x0,x1,.junk,.junk,.junk,x5,x6]++js 35,h⟩
def a45:AFn where
 code:=(.seq (.region false [⟨none,(some 4),.mov (.k .nils)⟩])
 (.seq (.region false [⟨none,(some 8),.mov (.t 0)⟩,
  ⟨none,(some 9),.mov (.t 1)⟩,
  ⟨none,(some 10),.call (.k (.fn (.func 65) [] [])) [(.t 8),(.t 9)]⟩,
  ⟨none,(some 5),.mov (.t 10)⟩])
 (.seq (.seq (.region false [⟨none,(some 11),.mov (.t 5)⟩,
  ⟨none,(some 12),.bin .eql (.t 11) (.k (.int .i64 (-1)))⟩])
 (.cond (.t 12) (.seq (.region false [⟨none,(some 13),.mov (.t 0)⟩,
  ⟨none,(some 4),.mov (.t 13)⟩])
 .ret)
 .skip))
 (.seq (.seq (.region false [⟨none,(some 14),.mov (.t 5)⟩,
  ⟨none,(some 15),.bin .add (.t 14) (.k (.int .i64 1))⟩,
  ⟨none,(some 6),.mov (.t 15)⟩])
 (.block 0 (.loop zmv1)))
 (.seq (.region false [⟨none,(some 36),.mov (.t 0)⟩,
  ⟨none,(some 37),.mov (.t 5)⟩,
  ⟨none,(some 38),.slcS 5 (.t 36) (some (.t 37)) none none⟩,
  ⟨none,none,.clr 5 [(.str []),.nils,.nils,.nils,.nils] (.t 38)⟩])
 (.seq (.region false [⟨none,(some 39),.mov (.t 0)⟩,
  ⟨none,(some 40),.mov (.t 5)⟩,
  ⟨none,(some 41),.slcS 5 (.t 39) none (some (.t 40)) none⟩,
  ⟨none,(some 4),.mov (.t 41)⟩])
 .ret))))))
 ntmps:=42
 res:=[.tmp 4]
theorem z94d:zsjc P Try.f45=some a45:=by kernel_rfl
def a14:AFn where
 code:=(.seq (.region false [⟨none,(some 2),.box (.t 0)⟩,
  ⟨none,(some 4),.alloc [(.str []),.nils,.nils,.nils,.nils]⟩,
  ⟨none,(some 5),.mov (.k (.int .i64 0))⟩])
 (.seq (.region false [⟨none,(some 11),.load 7 true (.t 2)⟩,
  ⟨none,(some 12),.mov (.t 1)⟩,
  ⟨none,(some 13),.call (.k (.fn (.func 12) [] [])) [(.t 11),(.t 12)]⟩,
  ⟨none,(some 10),.mov (.t 13)⟩,
  ⟨none,(some 14),.ext (.t 10) 0⟩,
  ⟨none,(some 15),.ext (.t 10) 1⟩,
  ⟨none,(some 6),.mov (.t 14)⟩,
  ⟨none,(some 7),.mov (.t 15)⟩])
 (.seq (.region false [⟨none,(some 16),.mov (.t 6)⟩,
  ⟨none,(some 17),.mkf (.func 46) [] [(.t 2)]⟩,
  ⟨none,(some 18),.call (.k (.fn (.func 45) [] [])) [(.t 16),(.t 17)]⟩,
  ⟨none,(some 8),.mov (.t 18)⟩])
 (.seq (.block 0 (.seq (.region false [⟨none,(some 20),.fld 2 (.t 2)⟩,
  ⟨none,(some 21),.load 1 false (.t 20)⟩,
  ⟨none,(some 22),.bin .lss (.t 21) (.k (.int .i64 1))⟩,
  ⟨none,(some 23),.mov (.t 22)⟩,
  ⟨(some (23,false)),(some 24),.mov (.t 8)⟩,
  ⟨(some (23,false)),(some 25),.len (.t 24)⟩,
  ⟨(some (23,false)),(some 26),.bin .eql (.t 25) (.k (.int .i64 0))⟩,
  ⟨none,(some 27),.pick (.t 23) (.k (.bool true)) (.t 26)⟩,
  ⟨none,(some 19),.mov (.t 27)⟩])
 (.cond (.t 19) (.seq (.region false [⟨none,(some 28),.build [(.str []),.nils,.nils,.nils,.nils] []⟩,
  ⟨none,none,.store 5 (.t 4) (.t 28)⟩,
  ⟨none,(some 5),.mov (.k (.int .i64 10))⟩])
 .ret)
 (.seq (.region false [⟨none,(some 30),.mov (.t 8)⟩,
  ⟨none,(some 31),.len (.t 30)⟩,
  ⟨none,(some 32),.bin .gtr (.t 31) (.k (.int .i64 1))⟩,
  ⟨none,(some 29),.mov (.t 32)⟩])
 (.cond (.t 29) (.seq (.region false [⟨none,(some 33),.build [(.str []),.nils,.nils,.nils,.nils] []⟩,
  ⟨none,none,.store 5 (.t 4) (.t 33)⟩,
  ⟨none,(some 5),.mov (.k (.int .i64 11))⟩])
 .ret)
 .skip)))))
 (.seq (.region false [⟨none,(some 34),.mov (.t 8)⟩,
  ⟨none,(some 35),.idxS 5 (.t 34) (.k (.int .i64 0))⟩,
  ⟨none,(some 36),.load 5 true (.t 35)⟩,
  ⟨none,(some 9),.alloc [(.str []),.nils,.nils,.nils,.nils]⟩,
  ⟨none,none,.store 5 (.t 9) (.t 36)⟩])
 (.seq (.region false [⟨none,(some 37),.mov (.t 7)⟩,
  ⟨none,(some 38),.fld 4 (.t 9)⟩,
  ⟨none,none,.store 1 (.t 38) (.t 37)⟩])
 (.seq (.region false [⟨none,(some 39),.load 5 true (.t 9)⟩,
  ⟨none,none,.store 5 (.t 4) (.t 39)⟩,
  ⟨none,(some 5),.mov (.k (.int .i64 0))⟩])
 .ret)))))))
 ntmps:=40
 res:=[.cell 4 5 true,.tmp 5]
theorem zzfl:zsjc P Try.f14=some a14:=by kernel_rfl
end
section
set_option linter.unusedSimpArgs false
set_option linter.unusedVariables false
open Go Go.Am
def z5j4:ACode :=
 (.seq (.seq (.region false [⟨none,(some 11),.mov (.t 5)⟩,
  ⟨none,(some 12),.mov (.t 0)⟩,
  ⟨none,(some 13),.len (.t 12)⟩,
  ⟨none,(some 14),.bin .lss (.t 11) (.t 13)⟩])
 (.cond (.t 14) .skip
 (.exit 0)))
 (.seq (.block 1 (.seq (.region true [⟨none,(some 17),.mov (.t 0)⟩,
  ⟨none,(some 18),.mov (.t 5)⟩,
  ⟨none,(some 19),.idxS 33 (.t 17) (.t 18)⟩,
  ⟨none,(some 20),.load 33 true (.t 19)⟩,
  ⟨none,(some 21),.mov (.t 1)⟩,
  ⟨none,(some 22),.mov (.t 5)⟩,
  ⟨none,(some 23),.idxS 33 (.t 21) (.t 22)⟩,
  ⟨none,(some 24),.load 33 true (.t 23)⟩,
  ⟨none,(some 25),.eqa true [(1,1),(32,0)] (.t 20) (.t 24)⟩])
 (.cond (.t 25) (.seq (.region false [⟨none,(some 4),.mov (.k (.bool false))⟩])
 .ret)
 .skip)))
 (.region false [⟨none,(some 15),.mov (.t 5)⟩,
  ⟨none,(some 16),.bin .add (.t 15) (.k (.int .i64 1))⟩,
  ⟨none,(some 5),.mov (.t 16)⟩])))
def zudq (x0 x1 x5:DV) (h:List AObj):St:=⟨[x0,x1,.junk,.junk,.junk,x5]++js 20,h⟩
def a50:AFn where
 code:=(.seq (.region false [⟨none,(some 4),.mov (.k (.bool false))⟩])
 (.seq (.seq (.region false [⟨none,(some 6),.mov (.t 0)⟩,
  ⟨none,(some 7),.len (.t 6)⟩,
  ⟨none,(some 8),.mov (.t 1)⟩,
  ⟨none,(some 9),.len (.t 8)⟩,
  ⟨none,(some 10),.bin .neq (.t 7) (.t 9)⟩])
 (.cond (.t 10) (.seq (.region false [⟨none,(some 4),.mov (.k (.bool false))⟩])
 .ret)
 .skip))
 (.seq (.seq (.region false [⟨none,(some 5),.mov (.k (.int .i64 0))⟩])
 (.block 0 (.loop z5j4)))
 (.seq (.region false [⟨none,(some 4),.mov (.k (.bool true))⟩])
 .ret))))
 ntmps:=26
 res:=[.tmp 4]
theorem z12y:zsjc P Try.f50=some a50:=by kernel_rfl
def a22:AFn where
 code:=(.seq (.region false [⟨none,(some 2),.box (.t 0)⟩,
  ⟨none,(some 3),.box (.t 1)⟩,
  ⟨none,(some 4),.mov (.k (.bool false))⟩])
 (.seq (.region false [⟨none,(some 5),.fld 1 (.t 2)⟩,
  ⟨none,(some 6),.load 1 false (.t 5)⟩,
  ⟨none,(some 7),.fld 1 (.t 3)⟩,
  ⟨none,(some 8),.load 1 false (.t 7)⟩,
  ⟨none,(some 9),.call (.k (.fn (.func 50) [] [])) [(.t 6),(.t 8)]⟩,
  ⟨none,(some 10),.mov (.t 9)⟩,
  ⟨(some (10,true)),(some 11),.fld 2 (.t 2)⟩,
  ⟨(some (10,true)),(some 12),.load 1 false (.t 11)⟩,
  ⟨(some (10,true)),(some 13),.fld 2 (.t 3)⟩,
  ⟨(some (10,true)),(some 14),.load 1 false (.t 13)⟩,
  ⟨(some (10,true)),(some 15),.call (.k (.fn (.func 50) [] [])) [(.t 12),(.t 14)]⟩,
  ⟨none,(some 16),.pick (.t 10) (.t 15) (.k (.bool false))⟩,
  ⟨none,(some 4),.mov (.t 16)⟩])
 .ret))
 ntmps:=17
 res:=[.tmp 4]
theorem zi98:zsjc P Try.f22=some a22:=by kernel_rfl
def a7L0:ACode :=
 (.seq (.seq (.region false [⟨none,(some 22),.mov (.t 5)⟩,
  ⟨none,(some 23),.mov (.t 1)⟩,
  ⟨none,(some 24),.len (.t 23)⟩,
  ⟨none,(some 25),.bin .lss (.t 22) (.t 24)⟩])
 (.cond (.t 25) .skip
 (.exit 0)))
 (.seq (.block 1 (.seq (.region false [⟨none,(some 28),.mov (.t 1)⟩,
  ⟨none,(some 29),.mov (.t 5)⟩,
  ⟨none,(some 30),.idxS 9 (.t 28) (.t 29)⟩,
  ⟨none,(some 31),.fld 1 (.t 30)⟩,
  ⟨none,(some 32),.load 8 true (.t 31)⟩,
  ⟨none,(some 6),.alloc [(.str []),(.str []),(.str []),(.int .i64 0),.nils,.nils,.nils,.nils]⟩,
  ⟨none,none,.store 8 (.t 6) (.t 32)⟩])
 (.seq (.region false [⟨none,(some 33),.fld 4 (.t 6)⟩,
  ⟨none,(some 34),.load 1 false (.t 33)⟩,
  ⟨none,(some 35),.len (.t 34)⟩,
  ⟨none,(some 36),.bin .gtr (.t 35) (.k (.int .i64 30))⟩,
  ⟨none,(some 37),.mov (.t 36)⟩,
  ⟨(some (37,false)),(some 38),.fld 5 (.t 6)⟩,
  ⟨(some (37,false)),(some 39),.load 1 false (.t 38)⟩,
  ⟨(some (37,false)),(some 40),.len (.t 39)⟩,
  ⟨(some (37,false)),(some 41),.bin .gtr (.t 40) (.k (.int .i64 30))⟩,
  ⟨none,(some 42),.pick (.t 37) (.k (.bool true)) (.t 41)⟩,
  ⟨none,(some 43),.mov (.t 42)⟩,
  ⟨(some (43,false)),(some 44),.fld 6 (.t 6)⟩,
  ⟨(some (43,false)),(some 45),.load 1 false (.t 44)⟩,
  ⟨(some (43,false)),(some 46),.len (.t 45)⟩,
  ⟨(some (43,false)),(some 47),.bin .gtr (.t 46) (.k (.int .i64 20))⟩,
  ⟨none,(some 48),.pick (.t 43) (.k (.bool true)) (.t 47)⟩,
  ⟨none,(some 49),.mov (.t 48)⟩,
  ⟨(some (49,false)),(some 50),.fld 7 (.t 6)⟩,
  ⟨(some (49,false)),(some 51),.load 1 false (.t 50)⟩,
  ⟨(some (49,false)),(some 52),.len (.t 51)⟩,
  ⟨(some (49,false)),(some 53),.bin .gtr (.t 52) (.k (.int .i64 20))⟩,
  ⟨none,(some 54),.pick (.t 49) (.k (.bool true)) (.t 53)⟩])
 (.cond (.t 54) (.seq (.region false [⟨none,(some 4),.mov (.k (.bool false))⟩])
 .ret)
 .skip))))
 (.region false [⟨none,(some 26),.mov (.t 5)⟩,
  ⟨none,(some 27),.bin .add (.t 26) (.k (.int .i64 1))⟩,
  ⟨none,(some 5),.mov (.t 27)⟩])))
def a7:AFn where
 code:=(.seq (.region false [⟨none,(some 2),.box (.t 0)⟩,
  ⟨none,(some 4),.mov (.k (.bool false))⟩])
 (.seq (.seq (.region false [⟨none,(some 7),.mov (.t 1)⟩,
  ⟨none,(some 8),.len (.t 7)⟩,
  ⟨none,(some 9),.bin .gtr (.t 8) (.k (.int .i64 20))⟩,
  ⟨none,(some 10),.mov (.t 9)⟩,
  ⟨(some (10,false)),(some 11),.fld 3 (.t 2)⟩,
  ⟨(some (10,false)),(some 12),.load 1 false (.t 11)⟩,
  ⟨(some (10,false)),(some 13),.len (.t 12)⟩,
  ⟨(some (10,false)),(some 14),.bin .gtr (.t 13) (.k (.int .i64 30))⟩,
  ⟨none,(some 15),.pick (.t 10) (.k (.bool true)) (.t 14)⟩,
  ⟨none,(some 16),.mov (.t 15)⟩,
  ⟨(some (16,false)),(some 17),.fld 4 (.t 2)⟩,
  ⟨(some (16,false)),(some 18),.load 1 false (.t 17)⟩,
  ⟨(some (16,false)),(some 19),.len (.t 18)⟩,
  ⟨(some (16,false)),(some 20),.bin .gtr (.t 19) (.k (.int .i64 30))⟩,
  ⟨none,(some 21),.pick (.t 16) (.k (.bool true)) (.t 20)⟩])
 (.cond (.t 21) (.seq (.region false [⟨none,(some 4),.mov (.k (.bool false))⟩])
 .ret)
 .skip))
 (.seq (.seq (.region false [⟨none,(some 5),.mov (.k (.int .i64 0))⟩])
 (.block 0 (.loop a7L0)))
 (.seq (.region false [⟨none,(some 4),.mov (.k (.bool true))⟩])
 .ret))))
 ntmps:=55
 res:=[.tmp 4]
end
section
set_option linter.unusedSimpArgs false
set_option linter.unusedVariables false
open Go Go.Am
def z0bm:ACode :=
 (.seq (.seq (.region false [⟨none,(some 7),.mov (.t 4)⟩,
  ⟨none,(some 8),.bin .gtr (.t 7) (.k (.int .i64 0))⟩])
 (.cond (.t 8) .skip
 (.exit 0)))
 (.seq (.block 1 (.region false [⟨none,(some 11),.mov (.t 3)⟩,
  ⟨none,(some 12),.mov (.t 0)⟩,
  ⟨none,(some 13),.bsl 1 5 [(.str [])] [(0,1,(.k (.str [97]))),(1,1,(.k (.str [98]))),(2,1,(.k (.str [115,114,99]))),(3,1,(.k (.str [111,117,116]))),(4,1,(.k (.str [108,105,98])))]⟩,
  ⟨none,(some 14),.call (.k (.fn (.func 27) [] [])) [(.t 12),(.t 13)]⟩,
  ⟨none,(some 15),.bin .add (.t 11) (.t 14)⟩,
  ⟨none,(some 16),.bin .add (.t 15) (.k (.str [47]))⟩,
  ⟨none,(some 3),.mov (.t 16)⟩]))
 (.region false [⟨none,(some 9),.mov (.t 4)⟩,
  ⟨none,(some 10),.bin .sub (.t 9) (.k (.int .i64 1))⟩,
  ⟨none,(some 4),.mov (.t 10)⟩])))
def zd78 (x0 x3 x4:DV) (h:List AObj):St:=⟨[x0,.junk,.junk,x3,x4]++js 17,h⟩
def a68:AFn where
 code:=(.seq (.region false [⟨none,(some 2),.mov (.k (.str []))⟩])
 (.seq (.region false [⟨none,(some 3),.mov (.k (.str []))⟩])
 (.seq (.seq (.region false [⟨none,(some 5),.mov (.t 0)⟩,
  ⟨none,(some 6),.call (.k (.fn (.func 25) [] [])) [(.t 5),(.k (.int .i64 3))]⟩,
  ⟨none,(some 4),.mov (.t 6)⟩])
 (.block 0 (.loop z0bm)))
 (.seq (.region false [⟨none,(some 17),.mov (.t 3)⟩,
  ⟨none,(some 18),.mov (.t 0)⟩,
  ⟨none,(some 19),.bsl 1 6 [(.str [])] [(0,1,(.k (.str [97]))),(1,1,(.k (.str [98]))),(2,1,(.k (.str [97,46,99]))),(3,1,(.k (.str [98,46,104]))),(4,1,(.k (.str [120]))),(5,1,(.k (.str [111,117,116])))]⟩,
  ⟨none,(some 20),.call (.k (.fn (.func 27) [] [])) [(.t 18),(.t 19)]⟩,
  ⟨none,(some 21),.bin .add (.t 17) (.t 20)⟩,
  ⟨none,(some 2),.mov (.t 21)⟩])
 .ret))))
 ntmps:=22
 res:=[.tmp 2]
theorem z20i:zsjc P Try.f68=some a68:=by kernel_rfl
def zfle:ACode :=
 (.seq (.seq (.region false [⟨none,(some 8),.mov (.t 6)⟩,
  ⟨none,(some 9),.mov (.t 0)⟩,
  ⟨none,(some 10),.len (.t 9)⟩,
  ⟨none,(some 11),.bin .lss (.t 8) (.t 10)⟩])
 (.cond (.t 11) .skip
 (.exit 0)))
 (.seq (.block 1 (.seq (.region true [⟨none,(some 14),.mov (.t 0)⟩,
  ⟨none,(some 15),.mov (.t 6)⟩,
  ⟨none,(some 16),.idxS 33 (.t 14) (.t 15)⟩,
  ⟨none,(some 17),.fld 0 (.t 16)⟩,
  ⟨none,(some 18),.load 1 false (.t 17)⟩,
  ⟨none,(some 19),.fld 0 (.t 3)⟩,
  ⟨none,(some 20),.load 1 false (.t 19)⟩,
  ⟨none,(some 21),.bin .neq (.t 18) (.t 20)⟩])
 (.cond (.t 21) (.region false [⟨none,(some 22),.mov (.t 5)⟩,
  ⟨none,(some 23),.mov (.t 0)⟩,
  ⟨none,(some 24),.mov (.t 6)⟩,
  ⟨none,(some 25),.idxS 33 (.t 23) (.t 24)⟩,
  ⟨none,(some 26),.load 33 true (.t 25)⟩,
  ⟨none,(some 27),.bsl 33 1 [(.str []),(w8 0#8),(w8 0#8),(w8 0#8),(w8 0#8),(w8 0#8),(w8 0#8),(w8 0#8),(w8 0#8),(w8 0#8),(w8 0#8),(w8 0#8),(w8 0#8),(w8 0#8),(w8 0#8),(w8 0#8),(w8 0#8),(w8 0#8),(w8 0#8),(w8 0#8),(w8 0#8),(w8 0#8),(w8 0#8),(w8 0#8),(w8 0#8),(w8 0#8),(w8 0#8),(w8 0#8),(w8 0#8),(w8 0#8),(w8 0#8),(w8 0#8),(w8 0#8)] [(0,33,(.t 26))]⟩,
  ⟨none,(some 28),.app 33 48 (.t 22) (.t 27)⟩,
  ⟨none,(some 5),.mov (.t 28)⟩])
 .skip)))
 (.region false [⟨none,(some 12),.mov (.t 6)⟩,
  ⟨none,(some 13),.bin .add (.t 12) (.k (.int .i64 1))⟩,
  ⟨none,(some 6),.mov (.t 13)⟩])))
def zbq4 (x0 x3 x5 x6:DV) (h:List AObj):St:=⟨[x0,.junk,.junk,x3,.junk,x5,x6]++js 64,h⟩
def zmm6:ACode :=
 (.seq (.seq (.region true [⟨none,(some 36),.mov (.t 7)⟩,
  ⟨none,(some 37),.bin .gtr (.t 36) (.k (.int .i64 0))⟩,
  ⟨none,(some 38),.mov (.t 37)⟩,
  ⟨(some (38,true)),(some 39),.mov (.t 5)⟩,
  ⟨(some (38,true)),(some 40),.mov (.t 7)⟩,
  ⟨(some (38,true)),(some 41),.idxS 33 (.t 39) (.t 40)⟩,
  ⟨(some (38,true)),(some 42),.fld 0 (.t 41)⟩,
  ⟨(some (38,true)),(some 43),.load 1 false (.t 42)⟩,
  ⟨(some (38,true)),(some 44),.mov (.t 5)⟩,
  ⟨(some (38,true)),(some 45),.mov (.t 7)⟩,
  ⟨(some (38,true)),(some 46),.bin .sub (.t 45) (.k (.int .i64 1))⟩,
  ⟨(some (38,true)),(some 47),.idxS 33 (.t 44) (.t 46)⟩,
  ⟨(some (38,true)),(some 48),.fld 0 (.t 47)⟩,
  ⟨(some (38,true)),(some 49),.load 1 false (.t 48)⟩,
  ⟨(some (38,true)),(some 50),.bin .lss (.t 43) (.t 49)⟩,
  ⟨none,(some 51),.pick (.t 38) (.t 50) (.k (.bool false))⟩])
 (.cond (.t 51) .skip
 (.exit 2)))
 (.seq (.block 3 (.region true [⟨none,(some 54),.mov (.t 5)⟩,
  ⟨none,(some 55),.mov (.t 7)⟩,
  ⟨none,(some 56),.mov (.t 5)⟩,
  ⟨none,(some 57),.mov (.t 7)⟩,
  ⟨none,(some 58),.bin .sub (.t 57) (.k (.int .i64 1))⟩,
  ⟨none,(some 59),.mov (.t 5)⟩,
  ⟨none,(some 60),.mov (.t 7)⟩,
  ⟨none,(some 61),.bin .sub (.t 60) (.k (.int .i64 1))⟩,
  ⟨none,(some 62),.idxS 33 (.t 59) (.t 61)⟩,
  ⟨none,(some 63),.load 33 true (.t 62)⟩,
  ⟨none,(some 64),.mov (.t 5)⟩,
  ⟨none,(some 65),.mov (.t 7)⟩,
  ⟨none,(some 66),.idxS 33 (.t 64) (.t 65)⟩,
  ⟨none,(some 67),.load 33 true (.t 66)⟩,
  ⟨none,(some 68),.idxS 33 (.t 54) (.t 55)⟩,
  ⟨none,none,.store 33 (.t 68) (.t 63)⟩,
  ⟨none,(some 69),.idxS 33 (.t 56) (.t 58)⟩,
  ⟨none,none,.store 33 (.t 69) (.t 67)⟩]))
 (.region false [⟨none,(some 52),.mov (.t 7)⟩,
  ⟨none,(some 53),.bin .sub (.t 52) (.k (.int .i64 1))⟩,
  ⟨none,(some 7),.mov (.t 53)⟩])))
def z8vo (x5 x7:DV) (h:List AObj):St:=⟨js 5++[x5,.junk,x7]++js 63,h⟩
def a67:AFn where
 code:=(.seq (.region false [⟨none,(some 3),.box (.t 1)⟩,
  ⟨none,(some 4),.mov (.k .nils)⟩])
 (.seq (.region false [⟨none,(some 5),.mov (.k .nils)⟩])
 (.seq (.seq (.region false [⟨none,(some 6),.mov (.k (.int .i64 0))⟩])
 (.block 0 (.loop zfle)))
 (.seq (.region false [⟨none,(some 29),.mov (.t 5)⟩,
  ⟨none,(some 30),.load 33 true (.t 3)⟩,
  ⟨none,(some 31),.bsl 33 1 [(.str []),(w8 0#8),(w8 0#8),(w8 0#8),(w8 0#8),(w8 0#8),(w8 0#8),(w8 0#8),(w8 0#8),(w8 0#8),(w8 0#8),(w8 0#8),(w8 0#8),(w8 0#8),(w8 0#8),(w8 0#8),(w8 0#8),(w8 0#8),(w8 0#8),(w8 0#8),(w8 0#8),(w8 0#8),(w8 0#8),(w8 0#8),(w8 0#8),(w8 0#8),(w8 0#8),(w8 0#8),(w8 0#8),(w8 0#8),(w8 0#8),(w8 0#8),(w8 0#8)] [(0,33,(.t 30))]⟩,
  ⟨none,(some 32),.app 33 48 (.t 29) (.t 31)⟩,
  ⟨none,(some 5),.mov (.t 32)⟩])
 (.seq (.seq (.region false [⟨none,(some 33),.mov (.t 5)⟩,
  ⟨none,(some 34),.len (.t 33)⟩,
  ⟨none,(some 35),.bin .sub (.t 34) (.k (.int .i64 1))⟩,
  ⟨none,(some 7),.mov (.t 35)⟩])
 (.block 2 (.loop zmm6)))
 (.seq (.region false [⟨none,(some 70),.mov (.t 5)⟩,
  ⟨none,(some 4),.mov (.t 70)⟩])
 .ret))))))
 ntmps:=71
 res:=[.tmp 4]
theorem zy8u:zsjc P Try.f67=some a67:=by kernel_rfl
def a66:AFn where
 code:=(.seq (.region false [⟨none,(some 4),.mov (.k .nils)⟩])
 (.seq (.region true [⟨none,(some 5),.bsl 33 0 [(.str []),(w8 0#8),(w8 0#8),(w8 0#8),(w8 0#8),(w8 0#8),(w8 0#8),(w8 0#8),(w8 0#8),(w8 0#8),(w8 0#8),(w8 0#8),(w8 0#8),(w8 0#8),(w8 0#8),(w8 0#8),(w8 0#8),(w8 0#8),(w8 0#8),(w8 0#8),(w8 0#8),(w8 0#8),(w8 0#8),(w8 0#8),(w8 0#8),(w8 0#8),(w8 0#8),(w8 0#8),(w8 0#8),(w8 0#8),(w8 0#8),(w8 0#8),(w8 0#8)] []⟩,
  ⟨none,(some 6),.mov (.t 0)⟩,
  ⟨none,(some 7),.mov (.t 1)⟩,
  ⟨none,(some 8),.slcS 33 (.t 6) none (some (.t 7)) none⟩,
  ⟨none,(some 9),.app 33 48 (.t 5) (.t 8)⟩,
  ⟨none,(some 10),.mov (.t 0)⟩,
  ⟨none,(some 11),.mov (.t 1)⟩,
  ⟨none,(some 12),.bin .add (.t 11) (.k (.int .i64 1))⟩,
  ⟨none,(some 13),.slcS 33 (.t 10) (some (.t 12)) none none⟩,
  ⟨none,(some 14),.app 33 48 (.t 9) (.t 13)⟩,
  ⟨none,(some 4),.mov (.t 14)⟩,
  ⟨none,none,.apart (.t 10) (.t 9)⟩])
 .ret))
 ntmps:=15
 res:=[.tmp 4]
theorem z3a6:zsjc P Try.f66=some a66:=by kernel_rfl
def zz44:ACode :=
 (.seq (.seq (.region false [⟨none,(some 11),.mov (.t 6)⟩,
  ⟨none,(some 12),.bin .gtr (.t 11) (.k (.int .i64 0))⟩])
 (.cond (.t 12) .skip
 (.exit 0)))
 (.seq (.block 1 (.region false [⟨none,(some 15),.mov (.t 5)⟩,
  ⟨none,(some 16),.mov (.t 0)⟩,
  ⟨none,(some 17),.call (.k (.fn (.func 68) [] [])) [(.t 16)]⟩,
  ⟨none,(some 18),.mov (.t 0)⟩,
  ⟨none,(some 19),.call (.k (.fn (.func 69) [] [])) [(.t 18)]⟩,
  ⟨none,(some 20),.build [(.str []),(w8 0#8),(w8 0#8),(w8 0#8),(w8 0#8),(w8 0#8),(w8 0#8),(w8 0#8),(w8 0#8),(w8 0#8),(w8 0#8),(w8 0#8),(w8 0#8),(w8 0#8),(w8 0#8),(w8 0#8),(w8 0#8),(w8 0#8),(w8 0#8),(w8 0#8),(w8 0#8),(w8 0#8),(w8 0#8),(w8 0#8),(w8 0#8),(w8 0#8),(w8 0#8),(w8 0#8),(w8 0#8),(w8 0#8),(w8 0#8),(w8 0#8),(w8 0#8)] [(0,1,(.t 17)),(1,32,(.t 19))]⟩,
  ⟨none,(some 21),.call (.k (.fn (.func 67) [] [])) [(.t 15),(.t 20)]⟩,
  ⟨none,(some 5),.mov (.t 21)⟩]))
 (.region false [⟨none,(some 13),.mov (.t 6)⟩,
  ⟨none,(some 14),.bin .sub (.t 13) (.k (.int .i64 1))⟩,
  ⟨none,(some 6),.mov (.t 14)⟩])))
def z6ev (x0 x5 x6:DV) (h:List AObj):St:=⟨[x0]++js 4++[x5,x6]++js 16,h⟩
def a51:AFn where
 code:=(.seq (.region false [⟨none,(some 4),.mov (.k .nils)⟩])
 (.seq (.region false [⟨none,(some 5),.mov (.k .nils)⟩])
 (.seq (.seq (.region false [⟨none,(some 7),.mov (.t 0)⟩,
  ⟨none,(some 8),.mov (.t 1)⟩,
  ⟨none,(some 9),.bin .add (.t 8) (.k (.int .i64 1))⟩,
  ⟨none,(some 10),.call (.k (.fn (.func 25) [] [])) [(.t 7),(.t 9)]⟩,
  ⟨none,(some 6),.mov (.t 10)⟩])
 (.block 0 (.loop zz44)))
 (.seq (.region false [⟨none,(some 22),.mov (.t 5)⟩,
  ⟨none,(some 4),.mov (.t 22)⟩])
 .ret))))
 ntmps:=23
 res:=[.tmp 4]
theorem z8rx:zsjc P Try.f51=some a51:=by kernel_rfl
def zlq3:ACode :=
 (.seq (.seq (.region false [⟨none,(some 8),.mov (.t 5)⟩,
  ⟨none,(some 9),.bin .gtr (.t 8) (.k (.int .i64 0))⟩])
 (.cond (.t 9) .skip
 (.exit 0)))
 (.seq (.block 1 (.seq (.region false [⟨none,(some 12),.mov (.t 0)⟩,
  ⟨none,(some 13),.call (.k (.fn (.func 25) [] [])) [(.t 12),(.k (.int .i64 3))]⟩,
  ⟨none,(some 14),.bin .eql (.t 13) (.k (.int .i64 0))⟩,
  ⟨none,(some 15),.mov (.t 14)⟩,
  ⟨(some (15,true)),(some 16),.mov (.t 1)⟩,
  ⟨(some (15,true)),(some 17),.len (.t 16)⟩,
  ⟨(some (15,true)),(some 18),.bin .gtr (.t 17) (.k (.int .i64 0))⟩,
  ⟨none,(some 19),.pick (.t 15) (.t 18) (.k (.bool false))⟩])
 (.cond (.t 19) (.region false [⟨none,(some 20),.mov (.t 1)⟩,
  ⟨none,(some 21),.mov (.t 0)⟩,
  ⟨none,(some 22),.mov (.t 1)⟩,
  ⟨none,(some 23),.len (.t 22)⟩,
  ⟨none,(some 24),.call (.k (.fn (.func 25) [] [])) [(.t 21),(.t 23)]⟩,
  ⟨none,(some 25),.call (.k (.fn (.func 66) [] [])) [(.t 20),(.t 24)]⟩,
  ⟨none,(some 1),.mov (.t 25)⟩])
 (.region false [⟨none,(some 26),.mov (.t 1)⟩,
  ⟨none,(some 27),.mov (.t 0)⟩,
  ⟨none,(some 28),.call (.k (.fn (.func 68) [] [])) [(.t 27)]⟩,
  ⟨none,(some 29),.mov (.t 0)⟩,
  ⟨none,(some 30),.call (.k (.fn (.func 69) [] [])) [(.t 29)]⟩,
  ⟨none,(some 31),.build [(.str []),(w8 0#8),(w8 0#8),(w8 0#8),(w8 0#8),(w8 0#8),(w8 0#8),(w8 0#8),(w8 0#8),(w8 0#8),(w8 0#8),(w8 0#8),(w8 0#8),(w8 0#8),(w8 0#8),(w8 0#8),(w8 0#8),(w8 0#8),(w8 0#8),(w8 0#8),(w8 0#8),(w8 0#8),(w8 0#8),(w8 0#8),(w8 0#8),(w8 0#8),(w8 0#8),(w8 0#8),(w8 0#8),(w8 0#8),(w8 0#8),(w8 0#8),(w8 0#8)] [(0,1,(.t 28)),(1,32,(.t 30))]⟩,
  ⟨none,(some 32),.call (.k (.fn (.func 67) [] [])) [(.t 26),(.t 31)]⟩,
  ⟨none,(some 1),.mov (.t 32)⟩]))))
 (.region false [⟨none,(some 10),.mov (.t 5)⟩,
  ⟨none,(some 11),.bin .sub (.t 10) (.k (.int .i64 1))⟩,
  ⟨none,(some 5),.mov (.t 11)⟩])))
def zzv7 (x0 x1 x5:DV) (h:List AObj):St:=⟨[x0,x1,.junk,.junk,.junk,x5]++js 28,h⟩
def a48:AFn where
 code:=(.seq (.region false [⟨none,(some 4),.mov (.k .nils)⟩])
 (.seq (.seq (.region false [⟨none,(some 6),.mov (.t 0)⟩,
  ⟨none,(some 7),.call (.k (.fn (.func 25) [] [])) [(.t 6),(.k (.int .i64 4))]⟩,
  ⟨none,(some 5),.mov (.t 7)⟩])
 (.block 0 (.loop zlq3)))
 (.seq (.region false [⟨none,(some 33),.mov (.t 1)⟩,
  ⟨none,(some 4),.mov (.t 33)⟩])
 .ret)))
 ntmps:=34
 res:=[.tmp 4]
theorem zwi2:zsjc P Try.f48=some a48:=by kernel_rfl
def a23:AFn where
 code:=(.seq (.region false [⟨none,(some 4),.alloc [(.str []),.nils,.nils]⟩])
 (.seq (.region false [⟨none,(some 6),.mov (.t 0)⟩,
  ⟨none,(some 7),.call (.k (.fn (.func 51) [] [])) [(.t 6),(.k (.int .i64 5))]⟩,
  ⟨none,(some 5),.mov (.t 7)⟩])
 (.seq (.region false [⟨none,(some 8),.mov (.t 1)⟩,
  ⟨none,(some 9),.mov (.t 5)⟩,
  ⟨none,(some 10),.mov (.t 0)⟩,
  ⟨none,(some 11),.mov (.t 5)⟩,
  ⟨none,(some 12),.call (.k (.fn (.func 48) [] [])) [(.t 10),(.t 11)]⟩,
  ⟨none,(some 13),.build [(.str []),.nils,.nils] [(0,1,(.t 8)),(1,1,(.t 9)),(2,1,(.t 12))]⟩,
  ⟨none,none,.store 3 (.t 4) (.t 13)⟩])
 .ret)))
 ntmps:=14
 res:=[.cell 4 3 true]
theorem ztyx:zsjc P Try.f23=some a23:=by kernel_rfl
def a20:AFn where
 code:=(.seq (.region false [⟨none,(some 2),.mov (.k .nils)⟩])
 (.seq (.region false [⟨none,(some 5),.mov (.t 0)⟩,
  ⟨none,(some 6),.call (.k (.fn (.func 23) [] [])) [(.t 5),(.k (.str [98,117,105,108,100]))]⟩,
  ⟨none,(some 3),.alloc [(.str []),.nils,.nils]⟩,
  ⟨none,none,.store 3 (.t 3) (.t 6)⟩])
 (.seq (.region false [⟨none,(some 7),.load 3 true (.t 3)⟩,
  ⟨none,(some 4),.alloc [(.str []),.nils,.nils]⟩,
  ⟨none,none,.store 3 (.t 4) (.t 7)⟩])
 (.seq (.region false [⟨none,(some 8),.mov (.t 0)⟩,
  ⟨none,(some 9),.fld 2 (.t 3)⟩,
  ⟨none,(some 10),.load 1 false (.t 9)⟩,
  ⟨none,(some 11),.call (.k (.fn (.func 48) [] [])) [(.t 8),(.t 10)]⟩,
  ⟨none,(some 12),.fld 2 (.t 4)⟩,
  ⟨none,none,.store 1 (.t 12) (.t 11)⟩])
 (.seq (.region false [⟨none,(some 13),.load 3 true (.t 3)⟩,
  ⟨none,(some 14),.load 3 true (.t 4)⟩,
  ⟨none,(some 15),.load 3 true (.t 3)⟩,
  ⟨none,(some 16),.bsl 3 3 [(.str []),.nils,.nils] [(0,3,(.t 13)),(3,3,(.t 14)),(6,3,(.t 15))]⟩,
  ⟨none,(some 2),.mov (.t 16)⟩])
 .ret)))))
 ntmps:=17
 res:=[.tmp 2]
theorem zfgm:zsjc P Try.f20=some a20:=by kernel_rfl
end
section
set_option linter.unusedSimpArgs false
set_option linter.unusedVariables false
open Go Go.Am
def a19:AFn where
 code:=(.seq (.region false [⟨none,(some 0),.mov (.k (.bool false))⟩])
 (.seq (.region false [⟨none,(some 4),.bsl 1 1 [(.str [])] [(0,1,(.k (.str [97,110,110])))]⟩,
  ⟨none,(some 5),.build [(.str []),(.bool false),(.int .i64 0),.nils,.nils,.nils,.nils] [(0,1,(.k (.str [98,117,105,108,100]))),(2,1,(.k (.int .i64 1))),(3,1,(.t 4))]⟩,
  ⟨none,(some 1),.alloc [(.str []),(.bool false),(.int .i64 0),.nils,.nils,.nils,.nils]⟩,
  ⟨none,none,.store 7 (.t 1) (.t 5)⟩])
 (.seq (.region false [⟨none,(some 7),.load 7 true (.t 1)⟩,
  ⟨none,(some 8),.build [(.str []),(.str []),(.str []),(.int .i64 0),.nils,.nils,.nils,.nils] [(2,1,(.k (.str [98,117,105,108,100]))),(3,1,(.k (.int .i64 2)))]⟩,
  ⟨none,(some 9),.build [(.str []),(.str []),(.str []),(.str []),(.int .i64 0),.nils,.nils,.nils,.nils] [(0,1,(.k (.str [97,110,110]))),(1,8,(.t 8))]⟩,
  ⟨none,(some 10),.bsl 9 1 [(.str []),(.str []),(.str []),(.str []),(.int .i64 0),.nils,.nils,.nils,.nils] [(0,9,(.t 9))]⟩,
  ⟨none,(some 11),.call (.k (.fn (.func 14) [] [])) [(.t 7),(.t 10)]⟩,
  ⟨none,(some 6),.mov (.t 11)⟩,
  ⟨none,(some 12),.ext (.t 6) 0⟩,
  ⟨none,(some 13),.ext (.t 6) 1⟩,
  ⟨none,(some 2),.alloc [(.str []),.nils,.nils,.nils,.nils]⟩,
  ⟨none,none,.store 5 (.t 2) (.t 12)⟩,
  ⟨none,(some 3),.mov (.t 13)⟩])
 (.seq (.region false [⟨none,(some 14),.mov (.t 3)⟩,
  ⟨none,(some 15),.bin .eql (.t 14) (.k (.int .i64 0))⟩,
  ⟨none,(some 16),.mov (.t 15)⟩,
  ⟨(some (16,true)),(some 17),.fld 0 (.t 2)⟩,
  ⟨(some (16,true)),(some 18),.fld 0 (.t 17)⟩,
  ⟨(some (16,true)),(some 19),.load 1 false (.t 18)⟩,
  ⟨(some (16,true)),(some 20),.bin .eql (.t 19) (.k (.str [98,117,105,108,100]))⟩,
  ⟨none,(some 21),.pick (.t 16) (.t 20) (.k (.bool false))⟩,
  ⟨none,(some 22),.mov (.t 21)⟩,
  ⟨(some (22,true)),(some 23),.fld 3 (.t 2)⟩,
  ⟨(some (22,true)),(some 24),.load 1 false (.t 23)⟩,
  ⟨(some (22,true)),(some 25),.len (.t 24)⟩,
  ⟨(some (22,true)),(some 26),.bin .eql (.t 25) (.k (.int .i64 1))⟩,
  ⟨none,(some 27),.pick (.t 22) (.t 26) (.k (.bool false))⟩,
  ⟨none,(some 0),.mov (.t 27)⟩])
 .ret))))
 ntmps:=28
 res:=[.tmp 0]
theorem zlqi:zsjc P Try.f19=some a19:=by kernel_rfl
end
section
set_option linter.unusedSimpArgs false
set_option linter.unusedVariables false
open Go Go.Am
def a4:AFn where
 code:=(.seq (.region false [⟨none,(some 3),.box (.t 0)⟩,
  ⟨none,(some 4),.box (.t 1)⟩,
  ⟨none,(some 6),.mov (.k (.bool false))⟩])
 (.seq (.seq (.region false [⟨none,(some 8),.fld 1 (.t 3)⟩,
  ⟨none,(some 9),.load 1 false (.t 8)⟩,
  ⟨none,(some 10),.len (.t 9)⟩,
  ⟨none,(some 11),.fld 2 (.t 3)⟩,
  ⟨none,(some 12),.load 1 false (.t 11)⟩,
  ⟨none,(some 13),.len (.t 12)⟩,
  ⟨none,(some 14),.bin .add (.t 10) (.t 13)⟩,
  ⟨none,(some 15),.bin .gtr (.t 14) (.k (.int .i64 200))⟩,
  ⟨none,(some 16),.mov (.t 15)⟩,
  ⟨(some (16,false)),(some 17),.fld 1 (.t 4)⟩,
  ⟨(some (16,false)),(some 18),.load 1 false (.t 17)⟩,
  ⟨(some (16,false)),(some 19),.len (.t 18)⟩,
  ⟨(some (16,false)),(some 20),.fld 2 (.t 4)⟩,
  ⟨(some (16,false)),(some 21),.load 1 false (.t 20)⟩,
  ⟨(some (16,false)),(some 22),.len (.t 21)⟩,
  ⟨(some (16,false)),(some 23),.bin .add (.t 19) (.t 22)⟩,
  ⟨(some (16,false)),(some 24),.bin .gtr (.t 23) (.k (.int .i64 200))⟩,
  ⟨none,(some 25),.pick (.t 16) (.k (.bool true)) (.t 24)⟩])
 (.cond (.t 25) (.seq (.region false [⟨none,(some 6),.mov (.k (.bool true))⟩])
 .ret)
 .skip))
 (.seq (.region false [⟨none,(some 26),.mov (.t 2)⟩,
  ⟨none,(some 27),.build [.nils,(.int .i64 0)] [(0,1,(.t 26))]⟩,
  ⟨none,(some 28),.box (.t 27)⟩,
  ⟨none,(some 29),.call (.k (.fn (.func 20) [] [])) [(.t 28)]⟩,
  ⟨none,(some 7),.mov (.t 29)⟩])
 (.seq (.region true [⟨none,(some 30),.callN (.k (.fn (.func 19) [] [])) []⟩,
  ⟨none,(some 31),.mov (.t 30)⟩,
  ⟨(some (31,true)),(some 32),.load 3 true (.t 3)⟩,
  ⟨(some (31,true)),(some 33),.load 3 true (.t 4)⟩,
  ⟨(some (31,true)),(some 35),.load 3 true (.t 3)⟩,
  ⟨(some (31,true)),(some 36),.load 3 true (.t 4)⟩,
  ⟨(some (31,true)),(some 34),.callN (.k (.fn (.func 21) [] [])) [(.t 32),(.t 33)]⟩,
  ⟨(some (31,true)),(some 37),.callN (.k (.fn (.func 22) [] [])) [(.t 35),(.t 36)]⟩,
  ⟨(some (31,true)),(some 38),.eqb false (.t 34) (.t 37)⟩,
  ⟨none,(some 39),.pick (.t 31) (.t 38) (.k (.bool false))⟩,
  ⟨none,(some 40),.mov (.t 39)⟩,
  ⟨(some (40,true)),(some 41),.mov (.t 7)⟩,
  ⟨(some (40,true)),(some 42),.idxS 3 (.t 41) (.k (.int .i64 0))⟩,
  ⟨(some (40,true)),(some 43),.load 3 true (.t 42)⟩,
  ⟨(some (40,true)),(some 44),.mov (.t 7)⟩,
  ⟨(some (40,true)),(some 45),.idxS 3 (.t 44) (.k (.int .i64 1))⟩,
  ⟨(some (40,true)),(some 46),.load 3 true (.t 45)⟩,
  ⟨(some (40,true)),(some 48),.mov (.t 7)⟩,
  ⟨(some (40,true)),(some 49),.idxS 3 (.t 48) (.k (.int .i64 0))⟩,
  ⟨(some (40,true)),(some 50),.load 3 true (.t 49)⟩,
  ⟨(some (40,true)),(some 51),.mov (.t 7)⟩,
  ⟨(some (40,true)),(some 52),.idxS 3 (.t 51) (.k (.int .i64 1))⟩,
  ⟨(some (40,true)),(some 53),.load 3 true (.t 52)⟩,
  ⟨(some (40,true)),(some 47),.callN (.k (.fn (.func 21) [] [])) [(.t 43),(.t 46)]⟩,
  ⟨(some (40,true)),(some 54),.callN (.k (.fn (.func 22) [] [])) [(.t 50),(.t 53)]⟩,
  ⟨(some (40,true)),(some 55),.eqb false (.t 47) (.t 54)⟩,
  ⟨none,(some 56),.pick (.t 40) (.t 55) (.k (.bool false))⟩,
  ⟨none,(some 57),.mov (.t 56)⟩,
  ⟨(some (57,true)),(some 58),.mov (.t 7)⟩,
  ⟨(some (57,true)),(some 59),.idxS 3 (.t 58) (.k (.int .i64 0))⟩,
  ⟨(some (57,true)),(some 60),.load 3 true (.t 59)⟩,
  ⟨(some (57,true)),(some 61),.mov (.t 7)⟩,
  ⟨(some (57,true)),(some 62),.idxS 3 (.t 61) (.k (.int .i64 2))⟩,
  ⟨(some (57,true)),(some 63),.load 3 true (.t 62)⟩,
  ⟨(some (57,true)),(some 64),.callN (.k (.fn (.func 21) [] [])) [(.t 60),(.t 63)]⟩,
  ⟨none,(some 65),.pick (.t 57) (.t 64) (.k (.bool false))⟩,
  ⟨none,(some 6),.mov (.t 65)⟩])
 .ret))))
 ntmps:=66
 res:=[.tmp 6]
theorem zn8d:zsjc P Try.f4=some a4:=by kernel_rfl
end
section
set_option linter.unusedSimpArgs false
set_option linter.unusedVariables false
open Go Go.Am
theorem z1ch {α:Type} {f:α→List DV} {s:Nat} (hu : ∀ a,(f a).length=s) (h0:0<s) (hi : ∀ a b,f a=f b→a=b) : ∀ {l l':List α},l.flatMap f=l'.flatMap f→l=l'
 | [],[],_=>rfl
 | [],b::l',e=>by have:=congrArg List.length e; simp [hu] at this; omega
 | a::l,[],e=>by have:=congrArg List.length e; simp [hu] at this; omega
 | a::l,b::l',e=>by
  rw [y04,y04] at e
  have:=List.append_inj e (by rw [hu,hu])
  rw [hi _ _ this.1,z1ch hu h0 hi this.2]
theorem zcq7 {B:Nat} {α:Type} {f:α→List DV} {s:Nat} (hu : ∀ a,(f a).length=s) (h0:0<s) (hi : ∀ a b,f a=f b→a=b) {x y:SlB B α} (e:x.dv s f=y.dv s f):x=y:=by
 obtain ⟨k,l,h,hb⟩:=x
 obtain ⟨k',l',h',hb'⟩:=y
 cases k with
 | none =>
  cases k' with
  | none=>cases h rfl; cases h' rfl; rfl
  | some b=>simp [SlB.dv,slD] at e
 | some b =>
  cases k' with
  | none=>simp [SlB.dv,slD] at e
  | some b' =>
   simp only [SlB.dv,slD,DV.sl.injEq] at e
   obtain ⟨rfl,_,_,e⟩:=e
   cases z1ch hu h0 hi e
   rfl
theorem zsn4 {α:Type} {f:α→List DV} {g:α→DV} (hi : ∀ a b,f a=f b→a=b) (a:α):con (fun _=>True) f g (f a)=some (g a):=zzno (fun a b e=>by rw [hi a b e]) a trivial
abbrev Str:=List UInt8
def stC (s:Str):List DV:=[.str s]
theorem zqv6 (s:Str):(stC s).length=1:=rfl
theorem zds6 (s:Str):zbao (stC s)=true:=rfl
theorem zwaz {a b:Str} (h:stC a=stC b):a=b:=by simpa [stC] using h
structure Fct where
 kind:Int
 own:Str
 rev:Dg
 lay:Str
 run:Str
 at_:Int
 agr:Bool
 tgt:Dg
 docs:Sl Dg
structure Fnd where
 inv:Dg
 comp:Int
 id:Str
 sev:Int
 hd:Sl Dg
 st:Int
 dd:Sl Dg
 con:Bool
structure Cas where
 art:Dg
 at_:Int
 f:Sl Fct
 n:Sl Fnd
 d:Sl Str
structure Org where
 rev:Dg
 lay:Str
 run:Str
 deriving DecidableEq
def orC (o:Org):List DV:=dgC o.rev++[.str o.lay,.str o.run]
structure Req where
 kind:Int
 n:Int
 m:Int
 text:Str
 deriving DecidableEq
def rqC (q:Req):List DV:=[.int .i64 q.kind,.int .i64 q.n,.int .i64 q.m,.str q.text]
structure Sup where
 holds:Bool
 docs:Sl Dg
 missing:Int
theorem zhrh {a b:Org}:z32s (zi5g [(32,0),(2,1)]) (orC a) (orC b)=some (decide (a=b)):=by
 have e:zi5g [(32,0),(2,1)]=zi5g [(32,0)]++[1,1]:=rfl
 rw [e,orC,orC,zid2 (by simp [z1t1,zi5g]) (by simp [z1t1,zi5g]),zyiz]
 obtain ⟨a1,a2,a3⟩:=a
 obtain ⟨b1,b2,b3⟩:=b
 simp [z32s,znnj,y0y,zcn6]
theorem zq6c {a b:Req}:z32s [0,0,0,1] (rqC a) (rqC b)=some (decide (a=b)):=by
 obtain ⟨a1,a2,a3,a4⟩:=a
 obtain ⟨b1,b2,b3,b4⟩:=b
 simp [rqC,z32s,znnj,zcn6,Bool.beq_eq_decide_eq]
attribute [simp] zhrh zq6c
end
section
set_option linter.unusedSimpArgs false
set_option linter.unusedVariables false
open Go Go.Am
structure Tot {α:Type} (lt:α→α→Bool):Prop where
 irr : ∀ a,lt a a=false
 tr : ∀ a b c,lt a b=true→lt b c=true→lt a c=true
 tot : ∀ a b,lt a b=true∨a=b∨lt b a=true
set_option linter.unusedSectionVars false
section
variable {α:Type} [DecidableEq α] {lt:α→α→Bool}
def Asc (lt:α→α→Bool) (l:List α):Prop:=l.Pairwise (fun a b=>lt a b=true)
end
theorem zrk4 : ∀ a:Str,Op.bytesLess a a=false
 | []=>rfl
 | a::l=>by simp [Op.bytesLess,zrk4 l]
theorem z8c3 : ∀ a b c:Str,Op.bytesLess a b=true→Op.bytesLess b c=true→Op.bytesLess a c=true
 | _,_,[],_,h=>by simp [Op.bytesLess] at h
 | [],_,_::_,_,_=>rfl
 | _::_,[],_::_,h,_=>by simp [Op.bytesLess] at h
 | a::x,b::y,c::z,h1,h2=>by
  simp only [Op.bytesLess,Bool.or_eq_true,y02,decide_eq_true_eq,beq_iff_eq] at *
  rcases h1 with h1|⟨h1,h1'⟩
  ·rcases h2 with h2|⟨h2,h2'⟩
   ·exact .inl (UInt8.lt_trans h1 h2)
   ·exact .inl (h2▸h1)
  ·rcases h2 with h2|⟨h2,h2'⟩
   ·exact .inl (h1▸h2)
   ·exact .inr ⟨h1.trans h2,z8c3 _ _ _ h1' h2'⟩
theorem zoet : ∀ a b:Str,Op.bytesLess a b=true∨a=b∨Op.bytesLess b a=true
 | [],[] => .inr (.inl rfl)
 | [],_::_ => .inl rfl
 | _::_,[] => .inr (.inr rfl)
 | a::x,b::y=>by
  simp only [Op.bytesLess,Bool.or_eq_true,y02,decide_eq_true_eq,beq_iff_eq]
  rcases UInt8.lt_or_lt_of_ne (a:=a) (b:=b) |> fun h=>(Classical.em (a=b)).imp_right h with e|e|e
  ·rcases zoet x y with q|q|q
   ·exact .inl (.inr ⟨e,q⟩)
   ·exact .inr (.inl (by rw [e,q]))
   ·exact .inr (.inr (.inr ⟨e.symm,q⟩))
  ·exact .inl (.inl e)
  ·exact .inr (.inr (.inl e))
end
section
set_option linter.unusedSimpArgs false
set_option linter.unusedVariables false
open Go Go.Am
set_option linter.unusedSectionVars false
section
variable {β κ:Type} [DecidableEq κ]
def addG (s:β→β→Bool):List (List β)→β→List (List β)
 | [],x=>[[x]]
 | g::r,x=>if (match g with|[]=>false|y::_=>s y x) then (g++[x])::r else g::addG s r x
def grpG (s:β→β→Bool) (l:List β):List (List β):=l.foldl (addG s) []
theorem zd8q {s:β→β→Bool} {l:List β} {x:β}:grpG s (l++[x])=addG s (grpG s l) x:=by simp [grpG]
end
section
variable {α β:Type} [DecidableEq α] {lt:α→α→Bool}
end
section
variable {γ:Type} {bef:γ→γ→Bool}
end
end
section
set_option linter.unusedSimpArgs false
set_option linter.unusedVariables false
open Go Go.Am
set_option linter.unusedSectionVars false
section
variable {α β κ:Type} [DecidableEq α] [DecidableEq κ] (lt:α→α→Bool) (own:β→α) (key:β→κ)
def badG (g:List β):Bool:=match g with
 | []=>false
 | w::r=>(w::r).any fun v => !decide (key v=key w)
def agG (V:List β):List (List β):=grpG (fun a b=>decide (own a=own b)) (zq4g (fun a b=>lt (own a) (own b)) V)
end
section
variable {α β κ:Type} [DecidableEq α] [DecidableEq κ] {lt:α→α→Bool} {own:β→α} {key:β→κ}
def Conf (own:β→α) (key:β→κ) (V:List β) (o:α):Prop := ∃ v ∈ V,∃ w ∈ V,own v=o∧own w=o∧key v≠key w
structure Sng (lt:α→α→Bool) (own:β→α) (key:β→κ) (V S:List β):Prop where
 asc:Asc lt (S.map own)
 sub : ∀ v ∈ S,v ∈ V
 mem : ∀ x,x ∈ S.map own↔(∃ v ∈ V,own v=x)∧¬ Conf own key V x
end
end
section
set_option linter.unusedSimpArgs false
set_option linter.unusedVariables false
open Go Go.Am
set_option linter.unusedSectionVars false
section
variable {α β κ:Type} [DecidableEq α] [DecidableEq κ] {lt:α→α→Bool} {own:β→α} {key:β→κ}
end
end
section
set_option linter.unusedSimpArgs false
set_option linter.unusedVariables false
open Go Go.Am
set_option linter.unusedSectionVars false
inductive DRes (γ:Type) where
 | thr
 | dis
 | ok (c:γ)
def DRes.map {γ δ:Type} (f:γ→δ):DRes γ→DRes δ
 | .thr => .thr
 | .dis => .dis
 | .ok c => .ok (f c)
section
variable {γ δ:Type}
def enoL (len:γ→Nat) (thr:Int) (C:List γ):List γ:=C.filter fun c => !decide ((len c:Int)<thr)
def decF (len:γ→Nat) (thr:Int) (C:List γ):DRes γ:=if thr<1 then .thr else match enoL len thr C with
 | [] => .thr
 | [c] => .ok c
 | _ => .dis
end
section
variable {α β κ:Type} [DecidableEq α] [DecidableEq κ] {lt:α→α→Bool} {own:β→α} {key:β→κ}
end
end
section
set_option linter.unusedSimpArgs false
set_option linter.unusedVariables false
open Go Go.Am
def nilS {B:Nat} {α:Type}:SlB B α:=⟨none,[],fun _=>rfl,by simp⟩
def ownN {α:Type} (l:List α):Sl α:=if l.isEmpty then nilS else own l
theorem zce3 {α:Type}:ownN ([]:List α)=nilS:=rfl
theorem z527 {α:Type} {l:List α} (h:l≠[]):ownN l=own l:=by cases l with|nil=>exact absurd rfl h|cons a l=>rfl
theorem zd8n {α:Type} {l:List α} (h:l.length≤4294967296):(ownN l).l=l:=by
 cases l with
 | nil=>rfl
 | cons a l=>rw [z527 (by simp),z3e9 h]
theorem z2i7 {α:Type} {s:Nat} {f:α→List DV}:(ownN ([]:List α)).dv s f = .nils:=rfl
theorem zgr3 {α:Type} {l:List α} {s:Nat} {f:α→List DV} (h:l≠[]) (hb:l.length≤4294967296):(ownN l).dv s f = .sl false s l.length (l.flatMap f):=by rw [z527 h,zqrs hb]
mutual
theorem z8b8 (n:Nat) : ∀ (d:DV),zyp8 d=true→Am.below n d=true
 | .agg cs,h=>by simp only [zyp8] at h; simp only [Am.below]; exact zmq5 n cs h
 | .tup cs,h=>by simp only [zyp8] at h; simp only [Am.below]; exact zmq5 n cs h
 | .sl _ _ _ cs,h=>by simp only [zyp8] at h; simp only [Am.below]; exact zmq5 n cs h
 | .ref cs,h=>by simp only [zyp8] at h; simp only [Am.below]; exact zmq5 n cs h
 | .fn _ a b,h=>by simp only [zyp8,y02] at h; simp only [Am.below,y02]; exact ⟨zmq5 n a h.1,zmq5 n b h.2⟩
 | .iface _ v,h=>by simp only [zyp8] at h; simp only [Am.below]; exact z8b8 n v h
 | .ms ..,h=>by simp [zyp8] at h
 | .mp ..,h=>by simp [zyp8] at h
 | .int ..,_=>rfl
 | .bool ..,_=>rfl
 | .str ..,_=>rfl
 | .nilp,_=>rfl
 | .nilm,_=>rfl
 | .nilf,_=>rfl
 | .nili,_=>rfl
 | .nils,_=>rfl
 | .junk,_=>rfl
theorem zmq5 (n:Nat) : ∀ (l:List DV),zbao l=true→belowL n l=true
 | [],_=>rfl
 | d::r,h=>by simp only [zbao,y02] at h; simp only [belowL,y02]; exact ⟨z8b8 n d h.1,zmq5 n r h.2⟩
end
theorem zoxk {d:Dg}:(dgC d).all DV.one=true:=zzst
theorem z3om {h:List AObj} {k:Nat} {c:Dg}:z4tt h k (dgC c)=some (dgC c):=z619 (z6je c)
theorem zbw6 {n:Nat} {g:Dg}:belowL n (dgC g)=true:=zmq5 n _ (z6je g)
theorem zes9 {h:List AObj} {id:Nat} {d:Dg} {l:List DV} (hl:l.length=32):zy6o h id 32 0 (.agg (dgC d)) (some l)=some (.junk,h.set id (.cells (dgC d))):=zfc1 (z1t1 d) hl zzst
theorem zxh4 {h:List AObj} {k:Nat} {f:Fn} {x:DV}:snap h (k+1) (.fn f [] [x])=(snap h (k+1) x).map fun y => .fn f [] [y]:=by
 simp only [snap,zcxt,zoyo]
 cases zcxt _ x<;>rfl
theorem znxs {h:List AObj} {k:Nat} {f:Fn} {x y:DV}:snap h (k+1) (.fn f [] [x,y])=(snap h (k+1) x).bind fun a=>(snap h (k+1) y).map fun b => .fn f [] [a,b]:=by
 simp only [snap,zcxt,zoyo]
 cases zcxt _ x<;>simp only [y05,y0j]
 ·rfl
 ·cases zcxt _ y<;>rfl
theorem zfco {h:List AObj} {k:Nat} {f:Fn} {x y z:DV}:snap h (k+1) (.fn f [] [x,y,z])=(snap h (k+1) x).bind fun a=>(snap h (k+1) y).bind fun b=>(snap h (k+1) z).map fun c => .fn f [] [a,b,c]:=by
 simp only [snap,zcxt,zoyo]
 cases zcxt _ x<;>simp only [y05,y0j]
 ·rfl
 ·cases zcxt _ y<;>simp only [y05,y0j]
  ·rfl
  ·cases zcxt _ z<;>rfl
theorem zvvi {h:List AObj} {k:Nat} {f:Fn}:snap h k (.fn f [] [])=some (.fn f [] []):=by cases k<;>rfl
attribute [simp] zxh4 znxs zfco zvvi
theorem zjj2 {pre l:List AObj} {ver:Nat}:objV (pre++l) pre.length ver=objV l 0 ver:=by
 unfold objV ziu0; rw [y0f (by omega),Nat.sub_self]
theorem zxft {pre l:List AObj} {o:AObj}:(pre++l).set pre.length o=pre++l.set 0 o:=by rw [y0z _ _ (by omega)]; simp
section
variable {α:Type} {lt:α→α→Bool}
theorem zmgd (l:List α):(zq4g lt l).length=l.length:=(zo43 l).length_eq
theorem zk1b {l:List α} (h:l.length≤1):zq4g lt l=l:=by
 match l,h with
 | [],_=>rfl
 | [a],_=>rfl
end
theorem zem6 {A B C:List DV} (h:B.length=C.length):zk7y (A++B) A.length C=A++C:=by
 unfold zk7y
 rw [List.take_left,← h,← y09,List.drop_length,y0p]
def fl {α:Type} (f:α→List DV) (l:List α):List DV:=l.flatMap f
theorem z8lx {α:Type} {f:α→List DV} {K:Nat} (hu : ∀ a,(f a).length=K) (l:List α):(fl f l).length=l.length*K:=z1rq hu l
section
variable {α:Type} {f:α→List DV} {K:Nat}
theorem zfiy (hu : ∀ a,(f a).length=K) {l:List α} {i:Nat} (hi:i<l.length):oneC K true ((fl f l).drop (i*K))=some (.agg (f l[i])):=by
 rw [fl,zkb2 hu,y0r hi,y04,zza5 (by simp [hu]),y0u (hu _)]
theorem zdvi (hu : ∀ a,(f a).length=K) (h0:0<K) (ha : ∀ a,(f a).all DV.one=true) {h:List AObj} {id i:Nat} {l:List α} {x:α} (hi:i<l.length):zy6o h id K (i*K) (.agg (f x)) (some (fl f l))=some (.junk,h.set id (.cells (fl f (l.set i x)))):=by
 have hl:=z8lx hu l
 have h1:i*K+K≤l.length*K:=by rw [← Nat.succ_mul]; exact Nat.mul_le_mul_right _ hi
 simp only [zy6o,DV.cells,hu,ha,hl]
 rw [if_pos ⟨trivial,h1,trivial⟩,fl,z47w hu hi,fl]
theorem zqtu {z:α} {n:Nat}:reps n (f z)=fl f (List.replicate n z):=by
 unfold fl
 induction n with
 | zero=>rfl
 | succ n ih=>rw [List.replicate_succ,y04,← ih]; rfl
theorem z507 (hu : ∀ a,(f a).length=K) {A B C:List α} (h:B.length=C.length):zk7y (fl f (A++B)) (A.length*K) (fl f C)=fl f (A++C):=by
 unfold fl
 have:=zem6 (A:=A.flatMap f) (B:=B.flatMap f) (C:=C.flatMap f) (by rw [z1rq hu,z1rq hu,h])
 rw [z1rq hu] at this
 rw [y0q,this,y0q]
theorem z9jy {f:α→List DV} (h : ∀ a,(f a).all DV.one=true) : ∀ (l:List α),(l.flatMap f).all DV.one=true
 | []=>rfl
 | a::l=>by rw [y04,y01,h,z9jy h l]; rfl
end
theorem zlvn {α:Type} {lt:α→α→Bool} {l:List α} (h:l≠[]):zq4g lt l≠[]:=fun e=>h (y0i (by rw [← zmgd (lt:=lt),e]; rfl))
theorem z590 {α:Type} {f:α→List DV} {K:Nat} (hu : ∀ a,(f a).length=K) (l:List α) (i:Nat):(fl f l).take (i*K)=(l.take i).flatMap f:=z10w hu l i
theorem z29t {α:Type} {f:α→List DV} {K:Nat} (hu : ∀ a,(f a).length=K) (hp : ∀ a,zbao (f a)=true) {pre:List AObj} {l:List α} {m:Nat}:snap (pre++[.cells (fl f l)]) 3 (.ms pre.length (l.length*K) 0 K m (l.length*K))=some (.sl false K m ((l.take m).flatMap f)):=by
 rw [zve7,zjj2,z1zn,if_pos (z8lx hu l),y05,y0n,z590 hu,z619 (zp6k hp _)]
 rfl
section
variable {α:Type} {f:α→List DV} {K:Nat}
theorem zkaf {l m:List α}:fl f (l++m)=fl f l++fl f m:=by unfold fl; exact y0q ..
theorem zvrp {h:List AObj} {id b m:Nat} {l:List α} {cs:List α} (hu : ∀ a,(f a).length=K) (h0:0<K) (hb:b≤16384) (ha : ∀ a,(f a).all DV.one=true) (hm:cs.length=m) (hbig:l.length+m≤4294967296) (ho:objV h id (l.length*K)=some (fl f l)) :
  appX h K b (.ms id (l.length*K) 0 K l.length (l.length*K)) m (cs.flatMap f)=some (.ms id ((l.length+m)*K) 0 K (l.length+m) ((l.length+m)*K),h.set id (.cells (fl f (l++cs)))):=by
 have hc:(cs.flatMap f).length=m*K:=by rw [z1rq hu,hm]
 rw [zbho rfl hb h0 (by rw [hc]) hbig (z9jy ha cs),ho,y0l,hc,← y0k,zkaf]
 rfl
theorem zkg3 {h:List AObj} {id b:Nat} {l:List α} {x:α} (hu : ∀ a,(f a).length=K) (h0:0<K) (hb:b≤16384) (ha : ∀ a,(f a).all DV.one=true) (hbig:l.length+1≤4294967296) (ho:objV h id (l.length*K)=some (fl f l)) :
  appX h K b (.ms id (l.length*K) 0 K l.length (l.length*K)) 1 (f x)=some (.ms id ((l.length+1)*K) 0 K (l.length+1) ((l.length+1)*K),h.set id (.cells (fl f (l++[x])))):=by
 have:=zvrp (m:=1) (cs:=[x]) hu h0 hb ha rfl hbig ho
 rwa [show [x].flatMap f=f x by simp] at this
end
theorem storeO_1 {h:List AObj} {id off:Nat} {v:DV} {l:List DV} (hc:v.cells=[v]) (ho:v.one=true) (hl:off<l.length):zy6o h id 1 off v (some l)=some (.junk,h.set id (.cells (zk7y l off [v]))):=by
 simp only [zy6o,hc,y0a,List.length_nil,y06,y08,ho,y03]
 first|done|rw [if_pos ⟨trivial,by omega,trivial⟩]
theorem zch3 {α:Type} {x:Sl α} {s:Nat} {f:α→List DV} {b:DV}:z87v (x.dv s f) b=b.known:=by
 obtain ⟨k,l,h,hb⟩:=x
 cases k with
 | none=>exact z8bo
 | some c=>exact zhyd
section
variable {α:Type} {f:α→List DV} {K:Nat}
def oV (k K:Nat) (l:List α):DV:=if l=[] then .nils else .ms k (l.length*K) 0 K l.length (l.length*K)
def oT (f:α→List DV) (l:List α):List AObj:=if l=[] then [] else [.cells (fl f l)]
theorem zl8p {k:Nat}:oV k K ([]:List α) = .nils:=rfl
theorem zkrk:oT f []=[]:=rfl
theorem zpni {k:Nat} {l:List α} (h:l≠[]):oV k K l = .ms k (l.length*K) 0 K l.length (l.length*K):=if_neg h
theorem zu2l {l:List α} (h:l≠[]):oT f l=[.cells (fl f l)]:=if_neg h
theorem z612 {k b:Nat} {l cs:List α} {h:List AObj} (hp:h.length=k) (hu : ∀ a,(f a).length=K) (h0:0<K) (hb:b≤16384) (ha : ∀ a,(f a).all DV.one=true) (hbig:l.length+cs.length≤4294967296) :
  appX (h++oT f l) K b (oV k K l) cs.length (cs.flatMap f)=some (oV k K (l++cs),h++oT f (l++cs)):=by
 by_cases e:l=[]
 ·subst e
  rw [zl8p,zkrk,y0p,y0h]
  by_cases e2:cs=[]
  ·subst e2
   rw [show ([]:List α).flatMap f=[] from rfl,List.length_nil,zw6v hb h0,zl8p,zkrk,y0p]
  ·have:=zsuq (h:=h) (s:=K) (b:=b) (m:=cs.length) (cs:=cs.flatMap f) hb h0 (by rw [z1rq hu]) (y0g.2 e2) (by simp at hbig; omega)
   rw [this,zpni e2,zu2l e2,z1rq hu,hp]; rfl
 ·have ho:objV (h++[AObj.cells (fl f l)]) k (l.length*K)=some (fl f l):=by
   unfold objV ziu0
   rw [y0f (by omega),show k-h.length=0 by omega]
   simp [z8lx hu]
  have:=zvrp (h:=h++[AObj.cells (fl f l)]) (id:=k) (b:=b) (l:=l) (m:=cs.length) (cs:=cs) hu h0 hb ha rfl hbig ho
  rw [zpni e,zu2l e,this,zpni (by simp [e]),zu2l (by simp [e]),y09,y0z _ _ (by omega),show k-h.length=0 by omega]
  rfl
theorem zte0 {k b:Nat} {l:List α} {x:α} {h:List AObj} (hp:h.length=k) (hu : ∀ a,(f a).length=K) (h0:0<K) (hb:b≤16384) (ha : ∀ a,(f a).all DV.one=true) (hbig:l.length+1≤4294967296) :
  appX (h++oT f l) K b (oV k K l) 1 (f x)=some (oV k K (l++[x]),h++oT f (l++[x])):=by
 have:=z612 (cs:=[x]) (b:=b) hp hu h0 hb ha hbig
 simpa using this
theorem zigm {k:Nat} {l:List α} {h:List AObj} (hp:h.length=k) (hu : ∀ a,(f a).length=K) (hf : ∀ a,zbao (f a)=true) (hb:l.length≤4294967296) {r:List AObj}:snap (h++(oT f l++r)) 3 (oV k K l)=some ((ownN l).dv K f):=by
 by_cases e:l=[]
 ·subst e; rw [z2i7]; rfl
 ·rw [zpni e,zu2l e,zgr3 e hb,zve7]
  have ho:objV (h++([AObj.cells (fl f l)]++r)) k (l.length*K)=some (fl f l):=by
   unfold objV ziu0
   rw [y0f (by omega),show k-h.length=0 by omega]
   simp [z8lx hu]
  rw [ho,y05,y0n,z590 hu,List.take_length,z619 (zp6k hf _)]
  rfl
theorem zd81 {n:Nat} {l:List α} (hf : ∀ a,zbao (f a)=true):zlf2 n (oT f l)=true:=by
 unfold oT
 split
 ·rfl
 ·simp only [zlf2,fl,zmq5 _ _ (zp6k hf _),y03]
theorem zv6o {k:Nat} {l:List α}:Am.below (k+(oT f l).length) (oV k K l)=true:=by
 unfold oV oT
 split<;>simp [Am.below]
end
def kLt (n:Nat):Nat→Bool:=fun id=>decide (id<n)
mutual
theorem zw9i {h:List AObj} (n:Nat) : ∀ (d:DV),Am.below n d=true→fzS (kLt n) h 3 d=some d
 | .agg cs,q=>by simp only [Am.below] at q; rw [zf3h,zw41 n cs q]; rfl
 | .tup cs,q=>by simp only [Am.below] at q; rw [zliz,zw41 n cs q]; rfl
 | .sl _ _ _ cs,q=>by simp only [Am.below] at q; rw [zfs9,zw41 n cs q]; rfl
 | .ref cs,q=>by simp only [Am.below] at q; rw [zeo2,zw41 n cs q]; rfl
 | .fn _ a b,q=>by simp only [Am.below,y02] at q; rw [z284,zw41 n a q.1,zw41 n b q.2]; rfl
 | .iface t v,q=>by
  simp only [Am.below] at q
  have:=zw9i (h:=h) n v q
  simp only [fzS,zcxt] at this ⊢
  rw [this]; rfl
 | .ms id ..,q=>by simp only [Am.below,decide_eq_true_eq] at q; rw [zi9r,if_pos (by simpa [kLt] using q)]
 | .mp id ..,q=>by simp only [Am.below,decide_eq_true_eq] at q; rw [zept,if_pos (by simpa [kLt] using q)]
 | .int ..,_=>zzxw rfl
 | .bool ..,_=>zzxw rfl
 | .str ..,_=>zzxw rfl
 | .nilp,_=>zzxw rfl
 | .nilm,_=>zzxw rfl
 | .nilf,_=>zzxw rfl
 | .nili,_=>zzxw rfl
 | .nils,_=>zzxw rfl
 | .junk,_=>zzxw rfl
theorem zw41 {h:List AObj} (n:Nat) : ∀ (l:List DV),belowL n l=true→fzSo (kLt n) h 3 l=some l
 | [],_=>zmvq
 | d::r,q=>by simp only [belowL,y02] at q; rw [zhuj,zw9i n d q.1,zw41 n r q.2]; rfl
end
theorem zd3c {h:List AObj} {n:Nat} {d:DV} (q:Am.below n d=true):mk1 (kLt n) h d=d:=zwy6 (zw9i n d q)
theorem zxf4 {h:List AObj} {n:Nat} : ∀ {l:List DV},belowL n l=true→mkL (kLt n) h l=l
 | [],_=>rfl
 | d::r,q=>by simp only [belowL,y02] at q; rw [z8t0,zd3c q.1,zxf4 q.2]
theorem z6z7 {h:List AObj} {n:Nat} : ∀ {l:List AObj} {i:Nat},i+l.length≤n→zlf2 n l=true→mkO (kLt n) h i l=l
 | [],i,_,_=>rfl
 | .cells a::r,i,hi,q=>by
  simp only [zlf2,y02] at q
  simp only [y0a] at hi
  rw [ztik,if_pos (by simp [kLt]; omega),zxf4 q.1,z6z7 (by omega) q.2]
 | .dead::r,i,hi,q=>by
  simp only [zlf2] at q
  simp only [y0a] at hi
  rw [zsk4,z6z7 (by omega) q]
theorem z26m {K:Nat→Bool} {h:List AObj} : ∀ {a b:List AObj} {i:Nat},mkO K h i (a++b)=mkO K h i a++mkO K h (i+a.length) b
 | [],b,i=>rfl
 | .cells c::r,b,i=>by rw [y07,ztik,ztik,z26m,y07,y0a,Nat.add_assoc,y14 1]
 | .dead::r,b,i=>by rw [y07,zsk4,zsk4,z26m,y07,y0a,Nat.add_assoc,y14 1]
theorem zz5t {H:List AObj} {cs:List DV} {off:Nat} (hp:zbao cs=true):mk1 (kLt H.length) (H++[.cells cs]) (.mp H.length cs.length off) = .ref (cs.drop off):=by
 refine zwy6 ?_
 have ho:objV (H++[AObj.cells cs]) H.length cs.length=some cs:=by
  unfold objV ziu0
  rw [y0f (Nat.le_refl _),Nat.sub_self]; simp
 have hd:zbao (cs.drop off)=true:=by
  have : ∀ (l:List DV) (k:Nat),zbao l=true→zbao (l.drop k)=true:=by
   intro l
   induction l with
   | nil=>intro k _; simp [zbao]
   | cons d r ih =>
    intro k h
    simp only [zbao,y02] at h
    cases k with
    | zero=>simp [zbao,h]
    | succ k=>exact ih k h.2
  exact this _ _ hp
 rw [zept,if_neg (by simp [kLt]),ho,y05,zl6f hd]; rfl
theorem zs10 {P:Program} {n0:Nat} {x:ACode} {Φ:AExit→St→Prop} {t t':List DV} {H:List AObj} {cs:List DV} (hH:zlf2 H.length H=true) (hn:n0≤H.length)
  (ht:znqe (mkL (kLt H.length) (H++[.cells cs]) t) t') (hb:belowL H.length t'=true) (h:V P n0 x Φ ⟨t',H⟩):V P n0 x Φ ⟨t,H++[.cells cs]⟩:=by
 refine V_mk (kLt H.length) ?_
 rw [z26m,z6z7 (by omega) hH,ztik,if_neg (by simp [kLt]),zfxb]
 exact zqfd (zju2 (tail:=[.dead]) ht rfl hn hb hH) h
end
section
set_option linter.unusedSimpArgs false
set_option linter.unusedVariables false
open Go Go.Am
structure Ent where
 path:Str
 dg:Dg
 deriving DecidableEq
def enC (x:Ent):List DV:=(.str x.path)::(dgC x.dg)
theorem zuso (x:Ent):(enC x).length=33:=by simp [enC,z1t1]
theorem zt9q (x:Ent):zbao (enC x)=true:=by
 unfold enC
 simp only [zbao,zyp8,Bool.true_and]; exact z6je _
theorem zxv7 {a b:Ent} (e:enC a=enC b):a=b:=by
 obtain ⟨a0,a1⟩:=a
 obtain ⟨b0,b1⟩:=b
 simp only [enC,List.cons.injEq,DV.str.injEq] at e
 rw [e.1,zib9 e.2]
theorem z6p9 {x:Ent}:oneC 33 true (enC x)=some (.agg (enC x)):=by simp [oneC,zuso,y00]
theorem zfqa {x:Ent} {off n:Nat} {a:Bool} (hl:off+n≤33):zhj0 off n a (.agg (enC x))=oneC n a ((enC x).drop off):=by simp [zhj0,zuso,hl]
theorem z6eq {x:Ent} {n:Nat}:belowL n (enC x)=true:=zmq5 n _ (zt9q x)
theorem zo6u {x:Ent}:(enC x).all DV.one=true:=by simp only [enC,y06,y01,zoxk,zzmf,z3gw,zxyr,z4ja,y08,y03]
theorem zrai {x:Ent} {h:List AObj} {id:Nat} {l:List DV} (hl:l.length=33):zy6o h id 33 0 (.agg (enC x)) (some l)=some (.junk,h.set id (.cells (enC x))):=zfc1 (zuso x) hl zo6u
theorem z5qg {h:List AObj} {k:Nat} {x:Ent}:z4tt h k (enC x)=some (enC x):=z619 (zt9q x)
theorem zyjb {K:Nat→Bool} {h:List AObj} {x:Ent}:mkL K h (enC x)=enC x:=zrip (zt9q x)
theorem z5fr {x:Ent}:oneC 1 false (enC x)=some (.str x.path):=rfl
theorem z88p {x:Ent}:oneC 32 true ((enC x).drop 1)=some (.agg (dgC x.dg)):=by show oneC 32 true (dgC x.dg)=_; simp [oneC,z1t1,y00]
structure Vrb where
 nm:Str
 vl:Str
 deriving DecidableEq
def vaC (x:Vrb):List DV:=(.str x.nm)::([.str x.vl])
theorem zqri (x:Vrb):(vaC x).length=2:=by simp [vaC,z1t1]
theorem zxwt (x:Vrb):zbao (vaC x)=true:=by
 unfold vaC
 simp [zbao,zyp8]
theorem ztro {a b:Vrb} (e:vaC a=vaC b):a=b:=by
 obtain ⟨a0,a1⟩:=a
 obtain ⟨b0,b1⟩:=b
 simp only [vaC,List.cons.injEq,DV.int.injEq,DV.str.injEq,DV.bool.injEq,true_and,and_true] at e
 rw [e.1,e.2]
theorem zieq {x:Vrb}:oneC 2 true (vaC x)=some (.agg (vaC x)):=by simp [oneC,zqri,y00]
theorem zegk {x:Vrb} {off n:Nat} {a:Bool} (hl:off+n≤2):zhj0 off n a (.agg (vaC x))=oneC n a ((vaC x).drop off):=by simp [zhj0,zqri,hl]
theorem zw37 {x:Vrb} {n:Nat}:belowL n (vaC x)=true:=zmq5 n _ (zxwt x)
theorem z4t4 {x:Vrb}:(vaC x).all DV.one=true:=by simp only [vaC,y06,y01,zoxk,zzmf,z3gw,zxyr,z4ja,y08,y03]
theorem zjux {x:Vrb} {h:List AObj} {id:Nat} {l:List DV} (hl:l.length=2):zy6o h id 2 0 (.agg (vaC x)) (some l)=some (.junk,h.set id (.cells (vaC x))):=zfc1 (zqri x) hl z4t4
theorem z3av {h:List AObj} {k:Nat} {x:Vrb}:z4tt h k (vaC x)=some (vaC x):=z619 (zxwt x)
theorem zfqg {K:Nat→Bool} {h:List AObj} {x:Vrb}:mkL K h (vaC x)=vaC x:=zrip (zxwt x)
theorem zh4z {x:Vrb}:oneC 1 false (vaC x)=some (.str x.nm):=rfl
theorem zu5l {x:Vrb}:oneC 1 false ((vaC x).drop 1)=some (.str x.vl):=rfl
structure Rec where
 run:Str
 scope:Str
 step:Str
 at_:Int
 cmd:Sl Str
 env:Sl Vrb
 m:Sl Ent
 p:Sl Ent
def reC (x:Rec):List DV:=(.str x.run)::((.str x.scope)::((.str x.step)::((.int .i64 x.at_)::((x.cmd.dv 1 stC)::((x.env.dv 2 vaC)::((x.m.dv 33 enC)::([x.p.dv 33 enC])))))))
theorem z74o (x:Rec):(reC x).length=8:=by simp [reC,z1t1]
theorem zfuu {B:Nat} (x:SlB B Str):zyp8 (x.dv 1 stC)=true:=zxxb zds6 x
theorem zlgv {B n:Nat} {x:SlB B Str}:Am.below n (x.dv 1 stC)=true:=z8b8 n _ (zfuu x)
theorem zdef {B:Nat} {x y:SlB B Str} (e:x.dv 1 stC=y.dv 1 stC):x=y:=zcq7 zqv6 (by decide) (fun _ _=>zwaz) e
theorem z0a9 {B:Nat} (x:SlB B Vrb):zyp8 (x.dv 2 vaC)=true:=zxxb zxwt x
theorem zs4d {B n:Nat} {x:SlB B Vrb}:Am.below n (x.dv 2 vaC)=true:=z8b8 n _ (z0a9 x)
theorem zvyz {B:Nat} {x y:SlB B Vrb} (e:x.dv 2 vaC=y.dv 2 vaC):x=y:=zcq7 zqri (by decide) (fun _ _=>ztro) e
theorem zru8 {B:Nat} (x:SlB B Ent):zyp8 (x.dv 33 enC)=true:=zxxb zt9q x
theorem zb48 {B n:Nat} {x:SlB B Ent}:Am.below n (x.dv 33 enC)=true:=z8b8 n _ (zru8 x)
theorem zdvs {B:Nat} {x y:SlB B Ent} (e:x.dv 33 enC=y.dv 33 enC):x=y:=zcq7 zuso (by decide) (fun _ _=>zxv7) e
theorem zqkx (x:Rec):zbao (reC x)=true:=by
 unfold reC
 simp [zbao,zyp8,zfuu,z0a9,zru8]
theorem zre0 {a b:Rec} (e:reC a=reC b):a=b:=by
 obtain ⟨a0,a1,a2,a3,a4,a5,a6,a7⟩:=a
 obtain ⟨b0,b1,b2,b3,b4,b5,b6,b7⟩:=b
 simp only [reC,List.cons.injEq,DV.int.injEq,DV.str.injEq,DV.bool.injEq,true_and,and_true] at e
 rw [e.1,e.2.1,e.2.2.1,e.2.2.2.1,zdef (e.2.2.2.2.1),zvyz (e.2.2.2.2.2.1),zdvs (e.2.2.2.2.2.2.1),zdvs (e.2.2.2.2.2.2.2)]
theorem zbr1 {x:Rec}:oneC 8 true (reC x)=some (.agg (reC x)):=by simp [oneC,z74o,y00]
theorem zqc3 {x:Rec} {off n:Nat} {a:Bool} (hl:off+n≤8):zhj0 off n a (.agg (reC x))=oneC n a ((reC x).drop off):=by simp [zhj0,z74o,hl]
theorem zwhl {x:Rec} {n:Nat}:belowL n (reC x)=true:=zmq5 n _ (zqkx x)
theorem z8jm {x:Rec}:(reC x).all DV.one=true:=by simp only [reC,y06,y01,zoxk,zzmf,z3gw,zxyr,z4ja,y08,y03]
theorem zhem {x:Rec} {h:List AObj} {id:Nat} {l:List DV} (hl:l.length=8):zy6o h id 8 0 (.agg (reC x)) (some l)=some (.junk,h.set id (.cells (reC x))):=zfc1 (z74o x) hl z8jm
theorem zopz {h:List AObj} {k:Nat} {x:Rec}:z4tt h k (reC x)=some (reC x):=z619 (zqkx x)
theorem zish {K:Nat→Bool} {h:List AObj} {x:Rec}:mkL K h (reC x)=reC x:=zrip (zqkx x)
theorem zwo9 {x:Rec}:oneC 1 false (reC x)=some (.str x.run):=rfl
theorem z5cj {x:Rec}:oneC 1 false ((reC x).drop 1)=some (.str x.scope):=rfl
theorem zhaq {x:Rec}:oneC 1 false ((reC x).drop 2)=some (.str x.step):=rfl
theorem zb4u {x:Rec}:oneC 1 false ((reC x).drop 3)=some (.int .i64 x.at_):=rfl
theorem zgok {x:Rec}:oneC 1 false ((reC x).drop 4)=some (x.cmd.dv 1 stC):=rfl
theorem zhl9 {x:Rec}:oneC 1 false ((reC x).drop 5)=some (x.env.dv 2 vaC):=rfl
theorem z05i {x:Rec}:oneC 1 false ((reC x).drop 6)=some (x.m.dv 33 enC):=rfl
theorem zbc5 {x:Rec}:oneC 1 false ((reC x).drop 7)=some (x.p.dv 33 enC):=rfl
structure Att where
 own:Str
 rc:Rec
def atC (x:Att):List DV:=(.str x.own)::(reC x.rc)
theorem zu2q (x:Att):(atC x).length=9:=by simp [atC,z1t1,z74o]
theorem z83l (x:Att):zbao (atC x)=true:=by
 unfold atC
 simp [zbao,zyp8,zqkx]
theorem zpr0 {a b:Att} (e:atC a=atC b):a=b:=by
 obtain ⟨a0,a1⟩:=a
 obtain ⟨b0,b1⟩:=b
 simp only [atC,List.cons.injEq,DV.str.injEq] at e
 rw [e.1,zre0 e.2]
theorem znv7 {x:Att}:oneC 9 true (atC x)=some (.agg (atC x)):=by simp [oneC,zu2q,y00]
theorem zxu4 {x:Att} {off n:Nat} {a:Bool} (hl:off+n≤9):zhj0 off n a (.agg (atC x))=oneC n a ((atC x).drop off):=by simp [zhj0,zu2q,hl]
theorem z03k {x:Att} {n:Nat}:belowL n (atC x)=true:=zmq5 n _ (z83l x)
theorem zwh8 {x:Att}:(atC x).all DV.one=true:=by simp only [atC,y06,y01,zoxk,zzmf,z3gw,zxyr,z4ja,y08,y03,z8jm]
theorem z5ch {x:Att} {h:List AObj} {id:Nat} {l:List DV} (hl:l.length=9):zy6o h id 9 0 (.agg (atC x)) (some l)=some (.junk,h.set id (.cells (atC x))):=zfc1 (zu2q x) hl zwh8
theorem zf52 {h:List AObj} {k:Nat} {x:Att}:z4tt h k (atC x)=some (atC x):=z619 (z83l x)
theorem zt28 {K:Nat→Bool} {h:List AObj} {x:Att}:mkL K h (atC x)=atC x:=zrip (z83l x)
theorem zkpj {x:Att}:oneC 1 false (atC x)=some (.str x.own):=rfl
theorem zo7q {x:Att}:oneC 8 true ((atC x).drop 1)=some (.agg (reC x.rc)):=rfl
theorem z6lh {x:Att}:oneC 1 false ((atC x).drop 1)=some (.str x.rc.run):=rfl
theorem zo6a {x:Att}:oneC 1 false ((atC x).drop 2)=some (.str x.rc.scope):=rfl
theorem z77v {x:Att}:oneC 1 false ((atC x).drop 3)=some (.str x.rc.step):=rfl
theorem zn34 {x:Att}:oneC 1 false ((atC x).drop 4)=some (.int .i64 x.rc.at_):=rfl
theorem zyok {x:Att}:oneC 1 false ((atC x).drop 5)=some (x.rc.cmd.dv 1 stC):=rfl
theorem zapw {x:Att}:oneC 1 false ((atC x).drop 6)=some (x.rc.env.dv 2 vaC):=rfl
theorem z7jb {x:Att}:oneC 1 false ((atC x).drop 7)=some (x.rc.m.dv 33 enC):=rfl
theorem zh1e {x:Att}:oneC 1 false ((atC x).drop 8)=some (x.rc.p.dv 33 enC):=rfl
structure Lnk where
 step:Str
 m:Sl Ent
 p:Sl Ent
def lkC (x:Lnk):List DV:=(.str x.step)::((x.m.dv 33 enC)::([x.p.dv 33 enC]))
theorem z9tw (x:Lnk):(lkC x).length=3:=by simp [lkC,z1t1]
theorem z53g (x:Lnk):zbao (lkC x)=true:=by
 unfold lkC
 simp [zbao,zyp8,zru8]
theorem zja4 {a b:Lnk} (e:lkC a=lkC b):a=b:=by
 obtain ⟨a0,a1,a2⟩:=a
 obtain ⟨b0,b1,b2⟩:=b
 simp only [lkC,List.cons.injEq,DV.int.injEq,DV.str.injEq,DV.bool.injEq,true_and,and_true] at e
 rw [e.1,zdvs (e.2.1),zdvs (e.2.2)]
theorem zrer {x:Lnk}:oneC 3 true (lkC x)=some (.agg (lkC x)):=by simp [oneC,z9tw,y00]
theorem zvzp {x:Lnk} {off n:Nat} {a:Bool} (hl:off+n≤3):zhj0 off n a (.agg (lkC x))=oneC n a ((lkC x).drop off):=by simp [zhj0,z9tw,hl]
theorem zlpm {x:Lnk} {n:Nat}:belowL n (lkC x)=true:=zmq5 n _ (z53g x)
theorem z6ct {x:Lnk}:(lkC x).all DV.one=true:=by simp only [lkC,y06,y01,zoxk,zzmf,z3gw,zxyr,z4ja,y08,y03]
theorem z6cz {x:Lnk} {h:List AObj} {id:Nat} {l:List DV} (hl:l.length=3):zy6o h id 3 0 (.agg (lkC x)) (some l)=some (.junk,h.set id (.cells (lkC x))):=zfc1 (z9tw x) hl z6ct
theorem z9r1 {h:List AObj} {k:Nat} {x:Lnk}:z4tt h k (lkC x)=some (lkC x):=z619 (z53g x)
theorem zcto {K:Nat→Bool} {h:List AObj} {x:Lnk}:mkL K h (lkC x)=lkC x:=zrip (z53g x)
theorem z380 {x:Lnk}:oneC 1 false (lkC x)=some (.str x.step):=rfl
theorem zfi3 {x:Lnk}:oneC 1 false ((lkC x).drop 1)=some (x.m.dv 33 enC):=rfl
theorem zj40 {x:Lnk}:oneC 1 false ((lkC x).drop 2)=some (x.p.dv 33 enC):=rfl
structure Vot where
 own:Str
 lnk:Lnk
def voC (x:Vot):List DV:=(.str x.own)::(lkC x.lnk)
theorem zu4u (x:Vot):(voC x).length=4:=by simp [voC,z1t1,z9tw]
theorem zc6g (x:Vot):zbao (voC x)=true:=by
 unfold voC
 simp [zbao,zyp8,z53g]
theorem zkbi {a b:Vot} (e:voC a=voC b):a=b:=by
 obtain ⟨a0,a1⟩:=a
 obtain ⟨b0,b1⟩:=b
 simp only [voC,List.cons.injEq,DV.str.injEq] at e
 rw [e.1,zja4 e.2]
theorem zhol {x:Vot}:oneC 4 true (voC x)=some (.agg (voC x)):=by simp [oneC,zu4u,y00]
theorem ztkf {x:Vot} {off n:Nat} {a:Bool} (hl:off+n≤4):zhj0 off n a (.agg (voC x))=oneC n a ((voC x).drop off):=by simp [zhj0,zu4u,hl]
theorem zv6a {x:Vot} {n:Nat}:belowL n (voC x)=true:=zmq5 n _ (zc6g x)
theorem z0cw {x:Vot}:(voC x).all DV.one=true:=by simp only [voC,y06,y01,zoxk,zzmf,z3gw,zxyr,z4ja,y08,y03,z6ct]
theorem zk2r {x:Vot} {h:List AObj} {id:Nat} {l:List DV} (hl:l.length=4):zy6o h id 4 0 (.agg (voC x)) (some l)=some (.junk,h.set id (.cells (voC x))):=zfc1 (zu4u x) hl z0cw
theorem znis {h:List AObj} {k:Nat} {x:Vot}:z4tt h k (voC x)=some (voC x):=z619 (zc6g x)
theorem zo6e {K:Nat→Bool} {h:List AObj} {x:Vot}:mkL K h (voC x)=voC x:=zrip (zc6g x)
theorem z28l {x:Vot}:oneC 1 false (voC x)=some (.str x.own):=rfl
theorem zkpz {x:Vot}:oneC 3 true ((voC x).drop 1)=some (.agg (lkC x.lnk)):=rfl
theorem zsoe {x:Vot}:oneC 1 false ((voC x).drop 1)=some (.str x.lnk.step):=rfl
theorem z2y7 {x:Vot}:oneC 1 false ((voC x).drop 2)=some (x.lnk.m.dv 33 enC):=rfl
theorem zctd {x:Vot}:oneC 1 false ((voC x).drop 3)=some (x.lnk.p.dv 33 enC):=rfl
structure Agr where
 lnk:Lnk
 owners:Sl Str
 eqv:Sl Str
def agC (x:Agr):List DV:=lkC x.lnk++((x.owners.dv 1 stC)::([x.eqv.dv 1 stC]))
theorem znh2 (x:Agr):(agC x).length=5:=by simp [agC,z1t1,z9tw]
theorem z1u0 (x:Agr):zbao (agC x)=true:=by
 unfold agC
 exact zg0c (z53g _) (by simp [zbao,zfuu])
theorem zum4 {a b:Agr} (e:agC a=agC b):a=b:=by
 obtain ⟨a0,a1,a2⟩:=a
 obtain ⟨b0,b1,b2⟩:=b
 obtain ⟨e1,e2⟩:=List.append_inj (s₁:=lkC a0) (s₂:=lkC b0) e (by rw [z9tw,z9tw])
 simp only [List.cons.injEq,and_true] at e2
 rw [zja4 e1,zdef e2.1,zdef e2.2]
theorem zd17 {x:Agr}:oneC 5 true (agC x)=some (.agg (agC x)):=by simp [oneC,znh2,y00]
theorem zi6g {x:Agr} {off n:Nat} {a:Bool} (hl:off+n≤5):zhj0 off n a (.agg (agC x))=oneC n a ((agC x).drop off):=by simp [zhj0,znh2,hl]
theorem zegd {x:Agr} {n:Nat}:belowL n (agC x)=true:=zmq5 n _ (z1u0 x)
theorem z892 {x:Agr}:(agC x).all DV.one=true:=by simp only [agC,y06,y01,zoxk,zzmf,z3gw,zxyr,z4ja,y08,y03,z6ct]
theorem z2q5 {x:Agr} {h:List AObj} {id:Nat} {l:List DV} (hl:l.length=5):zy6o h id 5 0 (.agg (agC x)) (some l)=some (.junk,h.set id (.cells (agC x))):=zfc1 (znh2 x) hl z892
theorem zki6 {h:List AObj} {k:Nat} {x:Agr}:z4tt h k (agC x)=some (agC x):=z619 (z1u0 x)
theorem z454 {K:Nat→Bool} {h:List AObj} {x:Agr}:mkL K h (agC x)=agC x:=zrip (z1u0 x)
theorem zrbu {x:Agr}:oneC 3 true (agC x)=some (.agg (lkC x.lnk)):=rfl
theorem z0wg {x:Agr}:oneC 1 false (agC x)=some (.str x.lnk.step):=rfl
theorem zu3j {x:Agr}:oneC 1 false ((agC x).drop 1)=some (x.lnk.m.dv 33 enC):=rfl
theorem z14s {x:Agr}:oneC 1 false ((agC x).drop 2)=some (x.lnk.p.dv 33 enC):=rfl
theorem zntj {x:Agr}:oneC 1 false ((agC x).drop 3)=some (x.owners.dv 1 stC):=rfl
theorem z1r2 {x:Agr}:oneC 1 false ((agC x).drop 4)=some (x.eqv.dv 1 stC):=rfl
structure Rul where
 kind:Int
 pat:Str
 frm:Str
 prod:Bool
 inn:Str
 to:Str
 deriving DecidableEq
def ruC (x:Rul):List DV:=(.int .i64 x.kind)::((.str x.pat)::((.str x.frm)::((.bool x.prod)::((.str x.inn)::([.str x.to])))))
theorem zpvo (x:Rul):(ruC x).length=6:=by simp [ruC,z1t1]
theorem z3bz (x:Rul):zbao (ruC x)=true:=by
 unfold ruC
 simp [zbao,zyp8]
theorem z49a {a b:Rul} (e:ruC a=ruC b):a=b:=by
 obtain ⟨a0,a1,a2,a3,a4,a5⟩:=a
 obtain ⟨b0,b1,b2,b3,b4,b5⟩:=b
 simp only [ruC,List.cons.injEq,DV.int.injEq,DV.str.injEq,DV.bool.injEq,true_and,and_true] at e
 rw [e.1,e.2.1,e.2.2.1,e.2.2.2.1,e.2.2.2.2.1,e.2.2.2.2.2]
theorem zxsc {x:Rul}:oneC 6 true (ruC x)=some (.agg (ruC x)):=by simp [oneC,zpvo,y00]
theorem z5ml {x:Rul} {off n:Nat} {a:Bool} (hl:off+n≤6):zhj0 off n a (.agg (ruC x))=oneC n a ((ruC x).drop off):=by simp [zhj0,zpvo,hl]
theorem ziwl {x:Rul} {n:Nat}:belowL n (ruC x)=true:=zmq5 n _ (z3bz x)
theorem zqv3 {x:Rul}:(ruC x).all DV.one=true:=by simp only [ruC,y06,y01,zoxk,zzmf,z3gw,zxyr,z4ja,y08,y03]
theorem z3hv {x:Rul} {h:List AObj} {id:Nat} {l:List DV} (hl:l.length=6):zy6o h id 6 0 (.agg (ruC x)) (some l)=some (.junk,h.set id (.cells (ruC x))):=zfc1 (zpvo x) hl zqv3
theorem zh3r {h:List AObj} {k:Nat} {x:Rul}:z4tt h k (ruC x)=some (ruC x):=z619 (z3bz x)
theorem znpy {K:Nat→Bool} {h:List AObj} {x:Rul}:mkL K h (ruC x)=ruC x:=zrip (z3bz x)
theorem zdj1 {x:Rul}:oneC 1 false (ruC x)=some (.int .i64 x.kind):=rfl
theorem zrx3 {x:Rul}:oneC 1 false ((ruC x).drop 1)=some (.str x.pat):=rfl
theorem zuq2 {x:Rul}:oneC 1 false ((ruC x).drop 2)=some (.str x.frm):=rfl
theorem zhx9 {x:Rul}:oneC 1 false ((ruC x).drop 3)=some (.bool x.prod):=rfl
theorem z9c8 {x:Rul}:oneC 1 false ((ruC x).drop 4)=some (.str x.inn):=rfl
theorem z9al {x:Rul}:oneC 1 false ((ruC x).drop 5)=some (.str x.to):=rfl
structure Spc where
 name:Str
 del:Bool
 thr:Int
 by_:Sl Str
 cmd:Sl Str
 mats:Raw Rul
 prods:Raw Rul
def spC (x:Spc):List DV:=(.str x.name)::((.bool x.del)::((.int .i64 x.thr)::((x.by_.dv 1 stC)::((x.cmd.dv 1 stC)::((x.mats.dv 6 ruC)::([x.prods.dv 6 ruC]))))))
theorem zz68 (x:Spc):(spC x).length=7:=by simp [spC,z1t1]
theorem zy5l {B:Nat} (x:SlB B Rul):zyp8 (x.dv 6 ruC)=true:=zxxb z3bz x
theorem zxqp {B n:Nat} {x:SlB B Rul}:Am.below n (x.dv 6 ruC)=true:=z8b8 n _ (zy5l x)
theorem z041 {B:Nat} {x y:SlB B Rul} (e:x.dv 6 ruC=y.dv 6 ruC):x=y:=zcq7 zpvo (by decide) (fun _ _=>z49a) e
theorem zhi7 (x:Spc):zbao (spC x)=true:=by
 unfold spC
 simp [zbao,zyp8,zfuu,zy5l]
theorem z1d3 {a b:Spc} (e:spC a=spC b):a=b:=by
 obtain ⟨a0,a1,a2,a3,a4,a5,a6⟩:=a
 obtain ⟨b0,b1,b2,b3,b4,b5,b6⟩:=b
 simp only [spC,List.cons.injEq,DV.int.injEq,DV.str.injEq,DV.bool.injEq,true_and,and_true] at e
 rw [e.1,e.2.1,e.2.2.1,zdef (e.2.2.2.1),zdef (e.2.2.2.2.1),z041 (e.2.2.2.2.2.1),z041 (e.2.2.2.2.2.2)]
theorem z8s9 {x:Spc}:oneC 7 true (spC x)=some (.agg (spC x)):=by simp [oneC,zz68,y00]
theorem zhc1 {x:Spc} {off n:Nat} {a:Bool} (hl:off+n≤7):zhj0 off n a (.agg (spC x))=oneC n a ((spC x).drop off):=by simp [zhj0,zz68,hl]
theorem z2i6 {x:Spc} {n:Nat}:belowL n (spC x)=true:=zmq5 n _ (zhi7 x)
theorem zb2j {x:Spc}:(spC x).all DV.one=true:=by simp only [spC,y06,y01,zoxk,zzmf,z3gw,zxyr,z4ja,y08,y03]
theorem zf01 {x:Spc} {h:List AObj} {id:Nat} {l:List DV} (hl:l.length=7):zy6o h id 7 0 (.agg (spC x)) (some l)=some (.junk,h.set id (.cells (spC x))):=zfc1 (zz68 x) hl zb2j
theorem z4nn {h:List AObj} {k:Nat} {x:Spc}:z4tt h k (spC x)=some (spC x):=z619 (zhi7 x)
theorem zuav {K:Nat→Bool} {h:List AObj} {x:Spc}:mkL K h (spC x)=spC x:=zrip (zhi7 x)
theorem zwo7 {x:Spc}:oneC 1 false (spC x)=some (.str x.name):=rfl
theorem zl3n {x:Spc}:oneC 1 false ((spC x).drop 1)=some (.bool x.del):=rfl
theorem z66y {x:Spc}:oneC 1 false ((spC x).drop 2)=some (.int .i64 x.thr):=rfl
theorem z5rd {x:Spc}:oneC 1 false ((spC x).drop 3)=some (x.by_.dv 1 stC):=rfl
theorem z436 {x:Spc}:oneC 1 false ((spC x).drop 4)=some (x.cmd.dv 1 stC):=rfl
theorem zop3 {x:Spc}:oneC 1 false ((spC x).drop 5)=some (x.mats.dv 6 ruC):=rfl
theorem z81m {x:Spc}:oneC 1 false ((spC x).drop 6)=some (x.prods.dv 6 ruC):=rfl
structure RcU where
 run:Str
 scope:Str
 step:Str
 at_:Int
 cmd:Raw Str
 env:Raw Vrb
 m:Raw Ent
 p:Raw Ent
def rxC (x:RcU):List DV:=(.str x.run)::((.str x.scope)::((.str x.step)::((.int .i64 x.at_)::((x.cmd.dv 1 stC)::((x.env.dv 2 vaC)::((x.m.dv 33 enC)::([x.p.dv 33 enC])))))))
theorem zg5v (x:RcU):(rxC x).length=8:=by simp [rxC,z1t1]
theorem z1l8 (x:RcU):zbao (rxC x)=true:=by
 unfold rxC
 simp [zbao,zyp8,zfuu,z0a9,zru8]
theorem zc6i {x:RcU}:oneC 8 true (rxC x)=some (.agg (rxC x)):=by simp [oneC,zg5v,y00]
theorem zaxz {x:RcU} {off n:Nat} {a:Bool} (hl:off+n≤8):zhj0 off n a (.agg (rxC x))=oneC n a ((rxC x).drop off):=by simp [zhj0,zg5v,hl]
theorem zz2j {x:RcU} {n:Nat}:belowL n (rxC x)=true:=zmq5 n _ (z1l8 x)
theorem zlxu {x:RcU}:(rxC x).all DV.one=true:=by simp only [rxC,y06,y01,zoxk,zzmf,z3gw,zxyr,z4ja,y08,y03]
theorem z0w1 {x:RcU} {h:List AObj} {id:Nat} {l:List DV} (hl:l.length=8):zy6o h id 8 0 (.agg (rxC x)) (some l)=some (.junk,h.set id (.cells (rxC x))):=zfc1 (zg5v x) hl zlxu
theorem zyt6 {h:List AObj} {k:Nat} {x:RcU}:z4tt h k (rxC x)=some (rxC x):=z619 (z1l8 x)
theorem zt76 {K:Nat→Bool} {h:List AObj} {x:RcU}:mkL K h (rxC x)=rxC x:=zrip (z1l8 x)
theorem zgde {x:RcU}:oneC 1 false (rxC x)=some (.str x.run):=rfl
theorem z35d {x:RcU}:oneC 1 false ((rxC x).drop 1)=some (.str x.scope):=rfl
theorem zxb6 {x:RcU}:oneC 1 false ((rxC x).drop 2)=some (.str x.step):=rfl
theorem zigy {x:RcU}:oneC 1 false ((rxC x).drop 3)=some (.int .i64 x.at_):=rfl
theorem ztot {x:RcU}:oneC 1 false ((rxC x).drop 4)=some (x.cmd.dv 1 stC):=rfl
theorem zzch {x:RcU}:oneC 1 false ((rxC x).drop 5)=some (x.env.dv 2 vaC):=rfl
theorem zj7q {x:RcU}:oneC 1 false ((rxC x).drop 6)=some (x.m.dv 33 enC):=rfl
theorem zwf5 {x:RcU}:oneC 1 false ((rxC x).drop 7)=some (x.p.dv 33 enC):=rfl
structure AtU where
 own:Str
 rc:RcU
def axC (x:AtU):List DV:=(.str x.own)::(rxC x.rc)
theorem z0qm (x:AtU):(axC x).length=9:=by simp [axC,z1t1,zg5v]
theorem zfq3 (x:AtU):zbao (axC x)=true:=by
 unfold axC
 simp [zbao,zyp8,z1l8]
theorem z34o {x:AtU}:oneC 9 true (axC x)=some (.agg (axC x)):=by simp [oneC,z0qm,y00]
theorem z641 {x:AtU} {off n:Nat} {a:Bool} (hl:off+n≤9):zhj0 off n a (.agg (axC x))=oneC n a ((axC x).drop off):=by simp [zhj0,z0qm,hl]
theorem z5sj {x:AtU} {n:Nat}:belowL n (axC x)=true:=zmq5 n _ (zfq3 x)
theorem zpv9 {x:AtU}:(axC x).all DV.one=true:=by simp only [axC,y06,y01,zoxk,zzmf,z3gw,zxyr,z4ja,y08,y03,zlxu]
theorem zekj {x:AtU} {h:List AObj} {id:Nat} {l:List DV} (hl:l.length=9):zy6o h id 9 0 (.agg (axC x)) (some l)=some (.junk,h.set id (.cells (axC x))):=zfc1 (z0qm x) hl zpv9
theorem zwft {h:List AObj} {k:Nat} {x:AtU}:z4tt h k (axC x)=some (axC x):=z619 (zfq3 x)
theorem zgdh {K:Nat→Bool} {h:List AObj} {x:AtU}:mkL K h (axC x)=axC x:=zrip (zfq3 x)
theorem z58t {x:AtU}:oneC 1 false (axC x)=some (.str x.own):=rfl
theorem zar7 {x:AtU}:oneC 8 true ((axC x).drop 1)=some (.agg (rxC x.rc)):=rfl
theorem zqcp {x:AtU}:oneC 1 false ((axC x).drop 1)=some (.str x.rc.run):=rfl
theorem zgpq {x:AtU}:oneC 1 false ((axC x).drop 2)=some (.str x.rc.scope):=rfl
theorem z5dd {x:AtU}:oneC 1 false ((axC x).drop 3)=some (.str x.rc.step):=rfl
theorem zfu3 {x:AtU}:oneC 1 false ((axC x).drop 4)=some (.int .i64 x.rc.at_):=rfl
theorem zsv2 {x:AtU}:oneC 1 false ((axC x).drop 5)=some (x.rc.cmd.dv 1 stC):=rfl
theorem zegn {x:AtU}:oneC 1 false ((axC x).drop 6)=some (x.rc.env.dv 2 vaC):=rfl
theorem zur8 {x:AtU}:oneC 1 false ((axC x).drop 7)=some (x.rc.m.dv 33 enC):=rfl
theorem zizc {x:AtU}:oneC 1 false ((axC x).drop 8)=some (x.rc.p.dv 33 enC):=rfl
structure LkU where
 step:Str
 m:Raw Ent
 p:Raw Ent
def lxC (x:LkU):List DV:=(.str x.step)::((x.m.dv 33 enC)::([x.p.dv 33 enC]))
theorem zox3 (x:LkU):(lxC x).length=3:=by simp [lxC,z1t1]
theorem z47e (x:LkU):zbao (lxC x)=true:=by
 unfold lxC
 simp [zbao,zyp8,zru8]
theorem zzz2 {a b:LkU} (e:lxC a=lxC b):a=b:=by
 obtain ⟨a0,a1,a2⟩:=a
 obtain ⟨b0,b1,b2⟩:=b
 simp only [lxC,List.cons.injEq,DV.int.injEq,DV.str.injEq,DV.bool.injEq,true_and,and_true] at e
 rw [e.1,zdvs (e.2.1),zdvs (e.2.2)]
theorem zajj {x:LkU}:oneC 3 true (lxC x)=some (.agg (lxC x)):=by simp [oneC,zox3,y00]
theorem z1r1 {x:LkU} {off n:Nat} {a:Bool} (hl:off+n≤3):zhj0 off n a (.agg (lxC x))=oneC n a ((lxC x).drop off):=by simp [zhj0,zox3,hl]
theorem zdne {x:LkU} {n:Nat}:belowL n (lxC x)=true:=zmq5 n _ (z47e x)
theorem zfjz {x:LkU}:(lxC x).all DV.one=true:=by simp only [lxC,y06,y01,zoxk,zzmf,z3gw,zxyr,z4ja,y08,y03]
theorem zgup {x:LkU} {h:List AObj} {id:Nat} {l:List DV} (hl:l.length=3):zy6o h id 3 0 (.agg (lxC x)) (some l)=some (.junk,h.set id (.cells (lxC x))):=zfc1 (zox3 x) hl zfjz
theorem zci8 {h:List AObj} {k:Nat} {x:LkU}:z4tt h k (lxC x)=some (lxC x):=z619 (z47e x)
theorem zr49 {K:Nat→Bool} {h:List AObj} {x:LkU}:mkL K h (lxC x)=lxC x:=zrip (z47e x)
theorem zi7s {x:LkU}:oneC 1 false (lxC x)=some (.str x.step):=rfl
theorem zkjk {x:LkU}:oneC 1 false ((lxC x).drop 1)=some (x.m.dv 33 enC):=rfl
theorem zzkq {x:LkU}:oneC 1 false ((lxC x).drop 2)=some (x.p.dv 33 enC):=rfl
structure SpU where
 name:Str
 del:Bool
 thr:Int
 by_:Raw Str
 cmd:Raw Str
 mats:Raw Rul
 prods:Raw Rul
def sxC (x:SpU):List DV:=(.str x.name)::((.bool x.del)::((.int .i64 x.thr)::((x.by_.dv 1 stC)::((x.cmd.dv 1 stC)::((x.mats.dv 6 ruC)::([x.prods.dv 6 ruC]))))))
theorem zodk (x:SpU):(sxC x).length=7:=by simp [sxC,z1t1]
theorem z97y (x:SpU):zbao (sxC x)=true:=by
 unfold sxC
 simp [zbao,zyp8,zfuu,zy5l]
theorem z0rw {x:SpU}:oneC 7 true (sxC x)=some (.agg (sxC x)):=by simp [oneC,zodk,y00]
theorem zvi3 {x:SpU} {off n:Nat} {a:Bool} (hl:off+n≤7):zhj0 off n a (.agg (sxC x))=oneC n a ((sxC x).drop off):=by simp [zhj0,zodk,hl]
theorem z6ps {x:SpU} {n:Nat}:belowL n (sxC x)=true:=zmq5 n _ (z97y x)
theorem z76l {x:SpU}:(sxC x).all DV.one=true:=by simp only [sxC,y06,y01,zoxk,zzmf,z3gw,zxyr,z4ja,y08,y03]
theorem zcvx {x:SpU} {h:List AObj} {id:Nat} {l:List DV} (hl:l.length=7):zy6o h id 7 0 (.agg (sxC x)) (some l)=some (.junk,h.set id (.cells (sxC x))):=zfc1 (zodk x) hl z76l
theorem zwdd {h:List AObj} {k:Nat} {x:SpU}:z4tt h k (sxC x)=some (sxC x):=z619 (z97y x)
theorem z7zx {K:Nat→Bool} {h:List AObj} {x:SpU}:mkL K h (sxC x)=sxC x:=zrip (z97y x)
theorem zqdt {x:SpU}:oneC 1 false (sxC x)=some (.str x.name):=rfl
theorem zb8p {x:SpU}:oneC 1 false ((sxC x).drop 1)=some (.bool x.del):=rfl
theorem z348 {x:SpU}:oneC 1 false ((sxC x).drop 2)=some (.int .i64 x.thr):=rfl
theorem znbd {x:SpU}:oneC 1 false ((sxC x).drop 3)=some (x.by_.dv 1 stC):=rfl
theorem zdjr {x:SpU}:oneC 1 false ((sxC x).drop 4)=some (x.cmd.dv 1 stC):=rfl
theorem zdrz {x:SpU}:oneC 1 false ((sxC x).drop 5)=some (x.mats.dv 6 ruC):=rfl
theorem zh71 {x:SpU}:oneC 1 false ((sxC x).drop 6)=some (x.prods.dv 6 ruC):=rfl
theorem z88i {a b:Ent}:z32s (zi5g [(1,1),(32,0)]) (enC a) (enC b)=some (decide (a=b)):=by
 have e:zi5g [(1,1),(32,0)]=[1]++zi5g [(32,0)]:=rfl
 have e2 : ∀ x:Ent,enC x=[.str x.path]++dgC x.dg:=fun x=>rfl
 rw [e,e2,e2,zid2 rfl rfl,zyiz]
 obtain ⟨a1,a2⟩:=a
 obtain ⟨b1,b2⟩:=b
 simp [z32s,znnj,zcn6]
theorem z7va {a b:Vrb}:z32s (zi5g [(2,1)]) (vaC a) (vaC b)=some (decide (a=b)):=by
 obtain ⟨a1,a2⟩:=a
 obtain ⟨b1,b2⟩:=b
 show z32s [1,1] _ _=_
 simp [vaC,z32s,znnj,zcn6]
attribute [simp] zuso zt9q z6p9 zfqa z6eq zrai z5qg zyjb z5fr z88p zqri zxwt zieq zegk zw37 zjux z3av zfqg zh4z zu5l zfuu zlgv z0a9 zs4d zru8 zb48 z74o zqkx zbr1 zqc3 zwhl zhem zopz zish zwo9 z5cj zhaq zb4u zgok zhl9 z05i zbc5 zu2q z83l znv7 zxu4 z03k z5ch zf52 zt28 zkpj zo7q z6lh zo6a z77v zn34 zyok zapw z7jb zh1e z9tw z53g zrer zvzp zlpm z6cz z9r1 zcto z380 zfi3 zj40 zu4u zc6g zhol ztkf zv6a zk2r znis zo6e z28l zkpz zsoe z2y7 zctd znh2 z1u0 zd17 zi6g zegd z2q5 zki6 z454 zrbu z0wg zu3j z14s zntj z1r2 zpvo z3bz zxsc z5ml ziwl z3hv zh3r znpy zdj1 zrx3 zuq2 zhx9 z9c8 z9al zy5l zxqp zz68 zhi7 z8s9 zhc1 z2i6 zf01 z4nn zuav zwo7 zl3n z66y z5rd z436 zop3 z81m zg5v z1l8 zc6i zaxz zz2j z0w1 zyt6 zt76 zgde z35d zxb6 zigy ztot zzch zj7q zwf5 z0qm zfq3 z34o z641 z5sj zekj zwft zgdh z58t zar7 zqcp zgpq z5dd zfu3 zsv2 zegn zur8 zizc zox3 z47e zajj z1r1 zdne zgup zci8 zr49 zi7s zkjk zzkq zodk z97y z0rw zvi3 z6ps zcvx zwdd z7zx zqdt zb8p z348 znbd zdjr zdrz zh71 z88i z7va z3om zbw6 zes9 zds6
end
section
set_option linter.unusedSimpArgs false
set_option linter.unusedVariables false
open Go Go.Am
def fIx {α:Type} (p:α→Bool):List α→Int
 | [] => -1
 | a::l=>if p a then 0 else if fIx p l<0 then -1 else fIx p l+1
theorem z67l {α:Type} {p:α→Bool} : ∀ {l:List α} {i:Nat} (hi:i<l.length),p l[i]=true→(∀ j (h:j<l.length),j<i→p l[j]=false)→fIx p l=i
 | a::l,0,_,h,_=>by simp only [y0o] at h; simp [fIx,h]
 | a::l,i+1,hi,h,h2=>by
  have ha:p a=false:=h2 0 (by simp) (by omega)
  have ih:=z67l (p:=p) (l:=l) (i:=i) (by simpa using hi) (by simpa using h) fun j hj hji=>by
   have:=h2 (j+1) (by simpa using hj) (by omega)
   simpa using this
  simp only [fIx,ha,ih]
  rw [if_neg (by simp),if_neg (by omega)]; omega
theorem zf0r {α:Type} {p:α→Bool} : ∀ {l:List α},(∀ a ∈ l,p a=false)→fIx p l = -1
 | [],_=>rfl
 | a::l,h=>by
  have ih:=zf0r (p:=p) (l:=l) fun b hb=>h b (by simp [hb])
  simp [fIx,h a (by simp),ih]
theorem za4c {α:Type} (p:α→Bool) : ∀ (l:List α),(fIx p l = -1 ∧ ∀ a ∈ l,p a=false) ∨ ∃ i,∃ hi:i<l.length,fIx p l=i∧p l[i]=true ∧ ∀ j (h:j<l.length),j<i→p l[j]=false
 | [] => .inl ⟨rfl,fun a h=>by simp at h⟩
 | a::l=>by
  by_cases ha:p a=true
  ·exact .inr ⟨0,by simp,by simp [fIx,ha],by simpa using ha,fun j _ hj=>by omega⟩
  ·have ha:p a=false:=by simpa using ha
   rcases za4c p l with ⟨h1,h2⟩|⟨i,hi,h1,h2,h3⟩
   ·exact .inl ⟨by simp [fIx,ha,h1],fun b hb=>by
     rcases y10.1 hb with rfl|hb
     ·exact ha
     ·exact h2 b hb⟩
   ·refine .inr ⟨i+1,by simpa using hi,?_,by simpa using h2,fun j hj hji => ?_⟩
    ·simp only [fIx,ha,h1]; rw [if_neg (by simp),if_neg (by omega)]; omega
    ·cases j with
     | zero=>exact ha
     | succ j=>simpa using h3 j (by simpa using hj) (by omega)
theorem zf3r {α:Type} [DecidableEq α] {v:α} {l:List α}:(0≤fIx (fun a=>decide (v=a)) l)↔v ∈ l:=by
 rcases za4c (fun a=>decide (v=a)) l with ⟨h1,h2⟩|⟨i,hi,h1,h2,_⟩
 ·rw [h1]
  exact ⟨fun q=>by omega,fun q=>by have:=h2 v q; simp at this⟩
 ·rw [h1]
  have e:v=l[i]:=by simpa using h2
  exact ⟨fun _=>e▸y0d hi,fun _=>by omega⟩
def S900 (x y:Sl Str) (i:Nat):St:=z4rh (x.dv 1 stC) (y.dv 1 stC) (.int .i64 x.l.length) (.int .i64 i) []
theorem zplh (x y:Sl Str):Runs tbl0 a29 [x.dv 1 stC,y.dv 1 stC] (.bool (decide (x.l=y.l))):=by
 refine ⟨?_⟩
 have hb:=x.b
 have hlx : ∀ H,lenD H (x.dv 1 stC)=some (.int .i64 x.l.length):=fun H=>zupj
 by_cases hl:x.l.length=y.l.length
 ·have hly : ∀ H,lenD H (y.dv 1 stC)=some (.int .i64 x.l.length):=fun H=>by rw [zupj,hl]
  simp (disch:=first|omega|simp<;>omega|fail) [-zA,-zB,-zC,-zD,-zE,a29,hlx,hly]
  refine zlm5 (S900 x y) (fun i=>x.l.length-i) (fun i=>i≤x.l.length ∧ ∀ j (h1:j<x.l.length) (h2:j<y.l.length),j<i→x.l[j]=y.l[j]) 0 (z515 (by simp (disch:=first|omega|simp<;>omega|fail) [-zA,-zB,-zC,-zD,-zE,S900,z4rh]) (by simp (disch:=first|omega|simp<;>omega|fail) [-zA,-zB,-zC,-zD,-zE,S900,z4rh])) ⟨by omega,fun j _ _ hj=>by omega⟩ (fun i hi => ?_)
  obtain ⟨q1,q2⟩:=hi
  simp only [S900]
  by_cases g:i<x.l.length
  ·have g':(i:Int)<x.l.length:=by omega
   have gy:i<y.l.length:=by omega
   have hx : ∀ H,zpsc H 1 (x.dv 1 stC) i=some (.ref (stC x.l[i])):=fun H=>zalo zqv6 g
   have hy : ∀ H,zpsc H 1 (y.dv 1 stC) i=some (.ref (stC y.l[i])):=fun H=>zalo zqv6 gy
   by_cases e:x.l[i]=y.l[i]
   ·have hinv : ∀ j (h1:j<x.l.length) (h2:j<y.l.length),j<i+1→x.l[j]=y.l[j]:=fun j h1 h2 hj=>by
     by_cases ej:j=i
     ·subst ej; exact e
     ·exact q2 j h1 h2 (by omega)
    obtain ⟨u,hu⟩ : ∃ u,x.l[i]=u:=⟨_,rfl⟩
    obtain ⟨v,hv⟩ : ∃ v,y.l[i]=v:=⟨_,rfl⟩
    rw [hu] at hx e
    rw [hv] at hy e
    simp (disch:=first|omega|simp<;>omega|fail) [-zA,-zB,-zC,-zD,-zE,zpik,z4rh,g,g',hx,hy,e,stC]
    exact ⟨i+1,z515 (by simp (disch:=first|omega|simp<;>omega|fail) [-zA,-zB,-zC,-zD,-zE,S900,z4rh]) (by simp (disch:=first|omega|simp<;>omega|fail) [-zA,-zB,-zC,-zD,-zE,S900,z4rh]),by omega,by omega,hinv⟩
   ·have hr:¬ x.l=y.l:=fun q=>e (by simp [q])
    obtain ⟨u,hu⟩ : ∃ u,x.l[i]=u:=⟨_,rfl⟩
    obtain ⟨v,hv⟩ : ∃ v,y.l[i]=v:=⟨_,rfl⟩
    rw [hu] at hx e
    rw [hv] at hy e
    simp (disch:=first|omega|simp<;>omega|fail) [-zA,-zB,-zC,-zD,-zE,zpik,z4rh,g,g',hx,hy,e,hr,stC]
  ·have g':¬ (i:Int)<x.l.length:=by omega
   have hr:x.l=y.l:=List.ext_getElem hl fun j h1 h2=>q2 j h1 h2 (by omega)
   rw [decide_eq_true hr]
   simp (disch:=first|omega|simp<;>omega|fail) [-zA,-zB,-zC,-zD,-zE,zpik,z4rh,g,g']
 ·have hl':¬ (x.l.length:Int)=y.l.length:=by omega
  have hr:¬ x.l=y.l:=fun q=>hl (by rw [q])
  have hly : ∀ H,lenD H (y.dv 1 stC)=some (.int .i64 y.l.length):=fun H=>zupj
  simp (disch:=first|omega|simp<;>omega|fail) [-zA,-zB,-zC,-zD,-zE,a29,hlx,hly,hl,hl',hr]
noncomputable def zsph:List DV→Option DV:=con (fun _=>True) (fun a:Sl Str × Sl Str=>[a.1.dv 1 stC,a.2.dv 1 stC]) (fun a => .bool (decide (a.1.l=a.2.l)))
theorem zxfs {x y:Sl Str}:zsph [x.dv 1 stC,y.dv 1 stC]=some (.bool (decide (x.l=y.l))) :=
 zsn4 (f:=fun a:Sl Str × Sl Str=>[a.1.dv 1 stC,a.2.dv 1 stC]) (g:=fun a => .bool (decide (a.1.l=a.2.l))) (by
  rintro ⟨a,b⟩ ⟨c,d⟩ e
  simp only [List.cons.injEq,and_true] at e
  rw [zdef e.1,zdef e.2]) (x,y)
theorem z0g7:(Con.pure zsph).Sound P 29:=z2au fun a _=>zljw mix zr5o Try.func29 ztig (zplh a.1 a.2)
def S901 {B:Nat} (x y:SlB B Ent) (i:Nat):St:=zvur (x.dv 33 enC) (y.dv 33 enC) (.int .i64 x.l.length) (.int .i64 i) []
theorem z0lm {B:Nat} (hB:B≤9223372036854775807) (x y:SlB B Ent):Runs tbl0 a49 [x.dv 33 enC,y.dv 33 enC] (.bool (decide (x.l=y.l))):=by
 refine ⟨?_⟩
 have hb:=x.b
 have hlx : ∀ H,lenD H (x.dv 33 enC)=some (.int .i64 x.l.length):=fun H=>zupj
 by_cases hl:x.l.length=y.l.length
 ·have hly : ∀ H,lenD H (y.dv 33 enC)=some (.int .i64 x.l.length):=fun H=>by rw [zupj,hl]
  simp (disch:=first|omega|simp<;>omega|fail) [-zA,-zB,-zC,-zD,-zE,a49,hlx,hly]
  refine zlm5 (S901 x y) (fun i=>x.l.length-i) (fun i=>i≤x.l.length ∧ ∀ j (h1:j<x.l.length) (h2:j<y.l.length),j<i→x.l[j]=y.l[j]) 0 (z515 (by simp (disch:=first|omega|simp<;>omega|fail) [-zA,-zB,-zC,-zD,-zE,S901,zvur]) (by simp (disch:=first|omega|simp<;>omega|fail) [-zA,-zB,-zC,-zD,-zE,S901,zvur])) ⟨by omega,fun j _ _ hj=>by omega⟩ (fun i hi => ?_)
  obtain ⟨q1,q2⟩:=hi
  simp only [S901]
  by_cases g:i<x.l.length
  ·have g':(i:Int)<x.l.length:=by omega
   have gy:i<y.l.length:=by omega
   have hx : ∀ H,zpsc H 33 (x.dv 33 enC) i=some (.ref (enC x.l[i])):=fun H=>zalo zuso g
   have hy : ∀ H,zpsc H 33 (y.dv 33 enC) i=some (.ref (enC y.l[i])):=fun H=>zalo zuso gy
   by_cases e:x.l[i]=y.l[i]
   ·have hinv : ∀ j (h1:j<x.l.length) (h2:j<y.l.length),j<i+1→x.l[j]=y.l[j]:=fun j h1 h2 hj=>by
     by_cases ej:j=i
     ·subst ej; exact e
     ·exact q2 j h1 h2 (by omega)
    obtain ⟨u,hu⟩ : ∃ u,x.l[i]=u:=⟨_,rfl⟩
    obtain ⟨v,hv⟩ : ∃ v,y.l[i]=v:=⟨_,rfl⟩
    rw [hu] at hx e
    rw [hv] at hy e
    simp (disch:=first|omega|simp<;>omega|fail) [-zA,-zB,-zC,-zD,-zE,zuys,zvur,g,g',hx,hy,e]
    exact ⟨i+1,z515 (by simp (disch:=first|omega|simp<;>omega|fail) [-zA,-zB,-zC,-zD,-zE,S901,zvur]) (by simp (disch:=first|omega|simp<;>omega|fail) [-zA,-zB,-zC,-zD,-zE,S901,zvur]),by omega,by omega,hinv⟩
   ·have hr:¬ x.l=y.l:=fun q=>e (by simp [q])
    obtain ⟨u,hu⟩ : ∃ u,x.l[i]=u:=⟨_,rfl⟩
    obtain ⟨v,hv⟩ : ∃ v,y.l[i]=v:=⟨_,rfl⟩
    rw [hu] at hx e
    rw [hv] at hy e
    simp (disch:=first|omega|simp<;>omega|fail) [-zA,-zB,-zC,-zD,-zE,zuys,zvur,g,g',hx,hy,e,hr]
  ·have g':¬ (i:Int)<x.l.length:=by omega
   have hr:x.l=y.l:=List.ext_getElem hl fun j h1 h2=>q2 j h1 h2 (by omega)
   rw [decide_eq_true hr]
   simp (disch:=first|omega|simp<;>omega|fail) [-zA,-zB,-zC,-zD,-zE,zuys,zvur,g,g']
 ·have hl':¬ (x.l.length:Int)=y.l.length:=by omega
  have hr:¬ x.l=y.l:=fun q=>hl (by rw [q])
  have hly : ∀ H,lenD H (y.dv 33 enC)=some (.int .i64 y.l.length):=fun H=>zupj
  simp (disch:=first|omega|simp<;>omega|fail) [-zA,-zB,-zC,-zD,-zE,a49,hlx,hly,hl,hl',hr]
noncomputable def ztpz:List DV→Option DV:=con (fun _=>True) (fun a:Sl Ent × Sl Ent=>[a.1.dv 33 enC,a.2.dv 33 enC]) (fun a => .bool (decide (a.1.l=a.2.l)))
theorem zezl {x y:Sl Ent}:ztpz [x.dv 33 enC,y.dv 33 enC]=some (.bool (decide (x.l=y.l))) :=
 zsn4 (f:=fun a:Sl Ent × Sl Ent=>[a.1.dv 33 enC,a.2.dv 33 enC]) (g:=fun a => .bool (decide (a.1.l=a.2.l))) (by
  rintro ⟨a,b⟩ ⟨c,d⟩ e
  simp only [List.cons.injEq,and_true] at e
  rw [zdvs e.1,zdvs e.2]) (x,y)
theorem zhc9:(Con.pure ztpz).Sound P 49:=z2au fun a _=>zljw mix zr5o Try.func49 zdc4 (z0lm (by decide) a.1 a.2)
def zxyz (a b:Lnk):Bool:=decide (a.m.l=b.m.l)&&decide (a.p.l=b.p.l)
noncomputable def T900:Tbl:=addT 49 (.pure ztpz) tbl0
theorem z2vc:T900 49 = .pure ztpz:=by simp [T900]
theorem zbdm:T900.Sound P:=z0rp zhc9 zr5o
theorem z0ag (a b:Lnk):Runs T900 a21 [.agg (lkC a),.agg (lkC b)] (.bool (zxyz a b)):=by
 refine ⟨?_⟩
 have h1:=zezl (x:=a.m) (y:=b.m)
 have h2:=zezl (x:=a.p) (y:=b.p)
 unfold zxyz
 by_cases e:a.m.l=b.m.l
 ·simp (disch:=first|omega|simp<;>omega|fail) [-zA,-zB,-zC,-zD,-zE,a21,z2vc,h1,h2,e]
 ·simp (disch:=first|omega|simp<;>omega|fail) [-zA,-zB,-zC,-zD,-zE,a21,z2vc,h1,e]
noncomputable def cSmL:List DV→Option DV:=con (fun _=>True) (fun a:Lnk × Lnk=>[.agg (lkC a.1),.agg (lkC a.2)]) (fun a => .bool (zxyz a.1 a.2))
theorem zfc5 {a b:Lnk}:cSmL [.agg (lkC a),.agg (lkC b)]=some (.bool (zxyz a b)) :=
 zsn4 (f:=fun a:Lnk × Lnk=>[.agg (lkC a.1),.agg (lkC a.2)]) (g:=fun a => .bool (zxyz a.1 a.2)) (by
  rintro ⟨a,b⟩ ⟨c,d⟩ e
  simp only [List.cons.injEq,DV.agg.injEq,and_true] at e
  rw [zja4 e.1,zja4 e.2]) (a,b)
theorem zijq:(Con.pure cSmL).Sound P 21:=z2au fun a _=>zljw mix zbdm Try.func21 zyfb (z0ag a.1 a.2)
def S902 (x:Sl Str) (v:Str) (i:Nat):St:=zv4w (x.dv 1 stC) (.str v) (.int .i64 x.l.length) (.int .i64 i) []
theorem zlea (x:Sl Str) (v:Str):Runs tbl0 a52 [x.dv 1 stC,.str v] (.int .i64 (fIx (fun a=>decide (v=a)) x.l)):=by
 refine ⟨?_⟩
 have hb:=x.b
 simp (disch:=first|omega|simp<;>omega|fail) [-zA,-zB,-zC,-zD,-zE,a52]
 refine zlm5 (S902 x v) (fun i=>x.l.length-i) (fun i=>i≤x.l.length ∧ ∀ j (h:j<x.l.length),j<i→¬ v=x.l[j]) 0 (z515 (by simp (disch:=first|omega|simp<;>omega|fail) [-zA,-zB,-zC,-zD,-zE,S902,zv4w]) (by simp (disch:=first|omega|simp<;>omega|fail) [-zA,-zB,-zC,-zD,-zE,S902,zv4w])) ⟨by omega,fun j _ hj=>by omega⟩ (fun i hi => ?_)
 obtain ⟨q1,q2⟩:=hi
 simp only [S902]
 by_cases g:i<x.l.length
 ·have g':(i:Int)<x.l.length:=by omega
  have hx : ∀ H,zpsc H 1 (x.dv 1 stC) i=some (.ref [.str x.l[i]]):=fun H=>zalo zqv6 g
  by_cases e:v=x.l[i]
  ·have hr:fIx (fun a=>decide (v=a)) x.l=i:=z67l g (by simpa using e) (fun j h hj=>by simpa using q2 j h hj)
   obtain ⟨u,hu⟩ : ∃ u,x.l[i]=u:=⟨_,rfl⟩
   rw [hu] at hx e
   simp (disch:=first|omega|simp<;>omega|fail) [-zA,-zB,-zC,-zD,-zE,z5oa,zv4w,g,g',hx,e.symm,hr]
   try (rw [e] at hr; simp (disch:=first|omega|simp<;>omega|fail) [-zA,-zB,-zC,-zD,-zE,hr])
  ·have hinv : ∀ j (h:j<x.l.length),j<i+1→¬ v=x.l[j]:=fun j hj hji=>by
    by_cases ej:j=i
    ·subst ej; exact e
    ·exact q2 j hj (by omega)
   obtain ⟨u,hu⟩ : ∃ u,x.l[i]=u:=⟨_,rfl⟩
   rw [hu] at hx e
   simp (disch:=first|omega|simp<;>omega|fail) [-zA,-zB,-zC,-zD,-zE,z5oa,zv4w,g,g',hx,e]
   exact ⟨i+1,z515 (by simp (disch:=first|omega|simp<;>omega|fail) [-zA,-zB,-zC,-zD,-zE,S902,zv4w]) (by simp (disch:=first|omega|simp<;>omega|fail) [-zA,-zB,-zC,-zD,-zE,S902,zv4w]),by omega,by omega,hinv⟩
 ·have g':¬ (i:Int)<x.l.length:=by omega
  have hr:fIx (fun a=>decide (v=a)) x.l = -1:=zf0r fun a ha=>by
   obtain ⟨j,hj,e⟩:=y0c ha
   have:=q2 j hj (by omega)
   rw [e] at this; simpa using this
  simp (disch:=first|omega|simp<;>omega|fail) [-zA,-zB,-zC,-zD,-zE,z5oa,zv4w,g,g',hr]
noncomputable def cIxS:List DV→Option DV:=con (fun _=>True) (fun a:Sl Str × Str=>[a.1.dv 1 stC,.str a.2]) (fun a => .int .i64 (fIx (fun b=>decide (a.2=b)) a.1.l))
theorem zt5a {x:Sl Str} {v:Str}:cIxS [x.dv 1 stC,.str v]=some (.int .i64 (fIx (fun a=>decide (v=a)) x.l)) :=
 zsn4 (f:=fun a:Sl Str × Str=>[a.1.dv 1 stC,.str a.2]) (g:=fun a => .int .i64 (fIx (fun b=>decide (a.2=b)) a.1.l)) (by
  rintro ⟨a,b⟩ ⟨c,d⟩ e
  simp only [List.cons.injEq,DV.str.injEq,and_true] at e
  rw [zdef e.1,e.2]) (x,v)
theorem zt71:(Con.pure cIxS).Sound P 52:=z2au fun a _=>zljw mix zr5o Try.func52 zil0 (zlea a.1 a.2)
noncomputable def T902:Tbl:=addT 52 (.pure cIxS) tbl0
theorem zzgp:T902 52 = .pure cIxS:=by simp [T902]
theorem zu0f:T902.Sound P:=z0rp zt71 zr5o
theorem zcfc (x:Sl Str) (v:Str):Runs T902 a30 [x.dv 1 stC,.str v] (.bool (decide (v ∈ x.l))):=by
 refine ⟨?_⟩
 have h:=zt5a (x:=x) (v:=v)
 have hm:=zf3r (v:=v) (l:=x.l)
 obtain ⟨k,hk⟩ : ∃ k,fIx (fun a=>decide (v=a)) x.l=k:=⟨_,rfl⟩
 rw [hk] at h hm
 by_cases e:v ∈ x.l
 ·have g:=hm.2 e
  simp (disch:=first|omega|simp<;>omega|fail) [-zA,-zB,-zC,-zD,-zE,a30,zzgp,h,e,g]
 ·have g:¬ 0≤k:=fun q=>e (hm.1 q)
  simp (disch:=first|omega|simp<;>omega|fail) [-zA,-zB,-zC,-zD,-zE,a30,zzgp,h,e,g]
noncomputable def cCnS:List DV→Option DV:=con (fun _=>True) (fun a:Sl Str × Str=>[a.1.dv 1 stC,.str a.2]) (fun a => .bool (decide (a.2 ∈ a.1.l)))
theorem z061 {x:Sl Str} {v:Str}:cCnS [x.dv 1 stC,.str v]=some (.bool (decide (v ∈ x.l))) :=
 zsn4 (f:=fun a:Sl Str × Str=>[a.1.dv 1 stC,.str a.2]) (g:=fun a => .bool (decide (a.2 ∈ a.1.l))) (by
  rintro ⟨a,b⟩ ⟨c,d⟩ e
  simp only [List.cons.injEq,DV.str.injEq,and_true] at e
  rw [zdef e.1,e.2]) (x,v)
theorem z9cy:(Con.pure cCnS).Sound P 30:=z2au fun a _=>zljw mix zu0f Try.func30 z3f8 (zcfc a.1 a.2)
def cpS {α:Type} (x:Sl α):Sl α:=if x.l=[] then x.clone else own x.l
theorem zvse (x:Sl Str):Runs tbl0 a53 [x.dv 1 stC] ((cpS x).dv 1 stC):=by
 refine ⟨?_⟩
 obtain ⟨k,l,h,hb⟩:=x
 cases k with
 | none =>
  have hl:l=[]:=h rfl
  subst hl
  simp (disch:=first|omega|simp<;>omega|fail) [-zA,-zB,-zC,-zD,-zE,a53,cpS,Sl.clone,z5oj]
 | some b =>
  have hb:l.length≤4294967296:=hb
  by_cases hl:l=[]
  ·subst hl; simp (disch:=first|omega|simp<;>omega|fail) [-zA,-zB,-zC,-zD,-zE,a53,z707,cpS,Sl.clone]
  ·have h1:=z1rq zqv6 l
   have h2:=z9jy (f:=stC) (fun _=>rfl) l
   have h3:0<l.length:=y0g.2 hl
   have h4:=fun H k=>z619 (h:=H) (k:=k) (zp6k zds6 l)
   have h5:(cpS ⟨some b,l,h,hb⟩:Sl Str).dv 1 stC = .sl false 1 l.length (l.flatMap stC):=by unfold cpS; rw [if_neg hl]; exact zqrs hb
   rw [h5]
   have h6:(l.flatMap stC).take (l.length)=l.flatMap stC:=y00 (by omega)
   simp (disch:=first|omega|simp<;>omega|fail) [-zA,-zB,-zC,-zD,-zE,a53,z707,fl,hl,h1,h2,h3,h4,h6]
noncomputable def z3gb:List DV→Option DV:=con (fun _=>True) (fun x:Sl Str=>[x.dv 1 stC]) (fun x=>(cpS x).dv 1 stC)
theorem zvlo {x:Sl Str}:z3gb [x.dv 1 stC]=some ((cpS x).dv 1 stC) :=
 zsn4 (f:=fun x:Sl Str=>[x.dv 1 stC]) (g:=fun x=>(cpS x).dv 1 stC) (fun a b e=>by simp only [List.cons.injEq,and_true] at e; exact zdef e) x
theorem zaw9:(Con.pure z3gb).Sound P 53:=z2au fun a _=>zljw mix zr5o Try.func53 zq51 (zvse a)
theorem zc6e (x:Sl Vrb):Runs tbl0 a54 [x.dv 2 vaC] ((cpS x).dv 2 vaC):=by
 refine ⟨?_⟩
 obtain ⟨k,l,h,hb⟩:=x
 cases k with
 | none =>
  have hl:l=[]:=h rfl
  subst hl
  simp (disch:=first|omega|simp<;>omega|fail) [-zA,-zB,-zC,-zD,-zE,a54,cpS,Sl.clone,z5oj]
 | some b =>
  have hb:l.length≤4294967296:=hb
  by_cases hl:l=[]
  ·subst hl; simp (disch:=first|omega|simp<;>omega|fail) [-zA,-zB,-zC,-zD,-zE,a54,z707,cpS,Sl.clone]
  ·have h1:=z1rq zqri l
   have h2:=z9jy (f:=vaC) (fun _=>z4t4) l
   have h3:0<l.length:=y0g.2 hl
   have h4:=fun H k=>z619 (h:=H) (k:=k) (zp6k zxwt l)
   have h5:(cpS ⟨some b,l,h,hb⟩:Sl Vrb).dv 2 vaC = .sl false 2 l.length (l.flatMap vaC):=by unfold cpS; rw [if_neg hl]; exact zqrs hb
   rw [h5]
   have h6:(l.flatMap vaC).take (l.length*2)=l.flatMap vaC:=y00 (by omega)
   simp (disch:=first|omega|simp<;>omega|fail) [-zA,-zB,-zC,-zD,-zE,a54,z707,fl,hl,h1,h2,h3,h4,h6]
noncomputable def z11o:List DV→Option DV:=con (fun _=>True) (fun x:Sl Vrb=>[x.dv 2 vaC]) (fun x=>(cpS x).dv 2 vaC)
theorem z8s7 {x:Sl Vrb}:z11o [x.dv 2 vaC]=some ((cpS x).dv 2 vaC) :=
 zsn4 (f:=fun x:Sl Vrb=>[x.dv 2 vaC]) (g:=fun x=>(cpS x).dv 2 vaC) (fun a b e=>by simp only [List.cons.injEq,and_true] at e; exact zvyz e) x
theorem zp3j:(Con.pure z11o).Sound P 54:=z2au fun a _=>zljw mix zr5o Try.func54 zq4q (zc6e a)
theorem zb2o (x:Sl Ent):Runs tbl0 a55 [x.dv 33 enC] ((cpS x).dv 33 enC):=by
 refine ⟨?_⟩
 obtain ⟨k,l,h,hb⟩:=x
 cases k with
 | none =>
  have hl:l=[]:=h rfl
  subst hl
  simp (disch:=first|omega|simp<;>omega|fail) [-zA,-zB,-zC,-zD,-zE,a55,cpS,Sl.clone,z5oj]
 | some b =>
  have hb:l.length≤4294967296:=hb
  by_cases hl:l=[]
  ·subst hl; simp (disch:=first|omega|simp<;>omega|fail) [-zA,-zB,-zC,-zD,-zE,a55,z707,cpS,Sl.clone]
  ·have h1:=z1rq zuso l
   have h2:=z9jy (f:=enC) (fun _=>zo6u) l
   have h3:0<l.length:=y0g.2 hl
   have h4:=fun H k=>z619 (h:=H) (k:=k) (zp6k zt9q l)
   have h5:(cpS ⟨some b,l,h,hb⟩:Sl Ent).dv 33 enC = .sl false 33 l.length (l.flatMap enC):=by unfold cpS; rw [if_neg hl]; exact zqrs hb
   rw [h5]
   have h6:(l.flatMap enC).take (l.length*33)=l.flatMap enC:=y00 (by omega)
   simp (disch:=first|omega|simp<;>omega|fail) [-zA,-zB,-zC,-zD,-zE,a55,z707,fl,hl,h1,h2,h3,h4,h6]
noncomputable def zziz:List DV→Option DV:=con (fun _=>True) (fun x:Sl Ent=>[x.dv 33 enC]) (fun x=>(cpS x).dv 33 enC)
theorem z4ix {x:Sl Ent}:zziz [x.dv 33 enC]=some ((cpS x).dv 33 enC) :=
 zsn4 (f:=fun x:Sl Ent=>[x.dv 33 enC]) (g:=fun x=>(cpS x).dv 33 enC) (fun a b e=>by simp only [List.cons.injEq,and_true] at e; exact zdvs e) x
theorem zzp6:(Con.pure zziz).Sound P 55:=z2au fun a _=>zljw mix zr5o Try.func55 ze8s (zb2o a)
end
section
set_option linter.unusedSimpArgs false
set_option linter.unusedVariables false
open Go Go.Am
noncomputable def T910:Tbl:=addT 53 (.pure z3gb) (addT 54 (.pure z11o) (addT 55 (.pure zziz) tbl0))
theorem z5oz:T910 53 = .pure z3gb:=by simp [T910]
theorem zosu:T910 54 = .pure z11o:=by simp [T910]
theorem zpbj:T910 55 = .pure zziz:=by simp [T910]
theorem zpyk:T910.Sound P:=z0rp zaw9 (z0rp zp3j (z0rp zzp6 zr5o))
def z28h (x:Att):Att:=⟨x.own,⟨x.rc.run,x.rc.scope,x.rc.step,x.rc.at_,cpS x.rc.cmd,cpS x.rc.env,cpS x.rc.m,cpS x.rc.p⟩⟩
theorem zzjk {x:Att} {h:List AObj} {id:Nat} {v:Sl Str}:zy6o h id 1 5 (v.dv 1 stC) (some (atC x))=some (.junk,h.set id (.cells (atC ⟨x.own,⟨x.rc.run,x.rc.scope,x.rc.step,x.rc.at_,v,x.rc.env,x.rc.m,x.rc.p⟩⟩))):=by rw [storeO_1 (zfr8 _) (z4ja _) (by rw [zu2q]; decide)]; rfl
theorem zx33 {x:Att} {h:List AObj} {id:Nat} {v:Sl Vrb}:zy6o h id 1 6 (v.dv 2 vaC) (some (atC x))=some (.junk,h.set id (.cells (atC ⟨x.own,⟨x.rc.run,x.rc.scope,x.rc.step,x.rc.at_,x.rc.cmd,v,x.rc.m,x.rc.p⟩⟩))):=by rw [storeO_1 (zfr8 _) (z4ja _) (by rw [zu2q]; decide)]; rfl
theorem zfk4 {x:Att} {h:List AObj} {id:Nat} {v:Sl Ent}:zy6o h id 1 7 (v.dv 33 enC) (some (atC x))=some (.junk,h.set id (.cells (atC ⟨x.own,⟨x.rc.run,x.rc.scope,x.rc.step,x.rc.at_,x.rc.cmd,x.rc.env,v,x.rc.p⟩⟩))):=by rw [storeO_1 (zfr8 _) (z4ja _) (by rw [zu2q]; decide)]; rfl
theorem zyde {x:Att} {h:List AObj} {id:Nat} {v:Sl Ent}:zy6o h id 1 8 (v.dv 33 enC) (some (atC x))=some (.junk,h.set id (.cells (atC ⟨x.own,⟨x.rc.run,x.rc.scope,x.rc.step,x.rc.at_,x.rc.cmd,x.rc.env,x.rc.m,v⟩⟩))):=by rw [storeO_1 (zfr8 _) (z4ja _) (by rw [zu2q]; decide)]; rfl
theorem zrse (x:Att):Runs T910 a31 [.agg (atC x)] (.agg (atC (z28h x))):=by
 refine ⟨?_⟩
 have h1:=zvlo (x:=x.rc.cmd)
 have h2:=z8s7 (x:=x.rc.env)
 have h3:=z4ix (x:=x.rc.m)
 have h4:=z4ix (x:=x.rc.p)
 have hr:(⟨x.own,⟨x.rc.run,x.rc.scope,x.rc.step,x.rc.at_,cpS x.rc.cmd,cpS x.rc.env,cpS x.rc.m,cpS x.rc.p⟩⟩:Att)=z28h x:=rfl
 simp (disch:=first|omega|simp<;>omega|fail) [-zA,-zB,-zC,-zD,-zE,a31,z5oz,zosu,zpbj,h1,h2,h3,h4,zzjk,zx33,zfk4,zyde,hr]
noncomputable def cCpA:List DV→Option DV:=con (fun _=>True) (fun x:Att=>[.agg (atC x)]) (fun x => .agg (atC (z28h x)))
theorem z4hf {x:Att}:cCpA [.agg (atC x)]=some (.agg (atC (z28h x))) :=
 zsn4 (f:=fun x:Att=>[.agg (atC x)]) (g:=fun x => .agg (atC (z28h x))) (fun a b e=>by simp only [List.cons.injEq,DV.agg.injEq,and_true] at e; exact zpr0 e) x
theorem z87q:(Con.pure cCpA).Sound P 31:=z2au fun a _=>zljw mix zpyk Try.func31 zjer (zrse a)
def eliP (s:Spc) (x:Att):Bool:=(decide (s.cmd.l=[])||decide (s.cmd.l=x.rc.cmd.l))&&(decide (x.rc.step=s.name)&&decide (x.own ∈ s.by_.l))
def eliS (s:Spc) (l:List Att):List Att:=(l.filter (eliP s)).map z28h
theorem z9xw {s:Spc} {l:List Att} {x:Att}:eliS s (l++[x])=eliS s l++(if eliP s x then [z28h x] else []):=by
 unfold eliS
 rw [List.filter_append,List.map_append]
 cases h:eliP s x<;>simp [List.filter,h]
theorem zusn (s:Spc) (l:List Att):(eliS s l).length≤l.length:=by unfold eliS; rw [y0e]; exact List.length_filter_le _ _
noncomputable def T911:Tbl:=addT 29 (.pure zsph) (addT 30 (.pure cCnS) (addT 31 (.pure cCpA) tbl0))
theorem za27:T911 29 = .pure zsph:=by simp [T911]
theorem z1oe:T911 30 = .pure cCnS:=by simp [T911]
theorem zeux:T911 31 = .pure cCpA:=by simp [T911]
theorem zchj:T911.Sound P:=z0rp z0g7 (z0rp z9cy (z0rp z87q zr5o))
theorem zsdw {x:Att}:bslD 9 1 [.str [],.str [],.str [],.str [],.int .i64 0,.nils,.nils,.nils,.nils] [(0,9,.agg (atC x))]=some (.sl true 9 1 (atC x)):=by
 have h1:=zu2q x
 simp [bslD,zi03,zk7y,reps,h1,y0w]
def S911 (s:Spc) (l:Sl Att) (i:Nat):St:=z9o7 (.mp 0 7 0) (oV 1 9 (eliS s (l.l.take i))) (l.dv 9 atC) (.int .i64 l.l.length) (.int .i64 i) (.cells (spC s)::oT atC (eliS s (l.l.take i)))
def EliT:ACode:=match z382 with
 | .seq _ (.seq _ (.seq (.block _ (.seq _ (.seq _ y))) _))=>y
 | _ => .skip
theorem zu1r (x:Sl Att):zyp8 (x.dv 9 atC)=true:=zxxb z83l x
theorem z965 {x y:Sl Att} (e:x.dv 9 atC=y.dv 9 atC):x=y:=zcq7 zu2q (by decide) (fun _ _=>zpr0) e
def EliR:ACode:=match z382 with
 | .seq _ (.seq _ (.seq _ y))=>y
 | _ => .skip
theorem zqv2 {s:Spc} {l:Sl Att} {i:Nat} {L:List Att} {x:Att} {cm:Bool} (hb:l.l.length≤4294967296) (h:i<l.l.length) (hlen:L.length≤i) (hs:eliS s (l.l.take (i+1))=L++(if eliP s x then [z28h x] else []))
  (hc:(decide (s.cmd.l=[])||decide (s.cmd.l=x.rc.cmd.l))=cm) {Φ0:AExit→St→Prop} :
  V P 0 EliT (z0mx 1 (z2pk P 0 EliR (z13e 0 (S911 s l) (fun i=>l.l.length-i) (fun i=>i≤l.l.length) i Φ0)))
   ⟨[.junk,.junk,.mp 0 7 0,.junk,.junk,oV 1 9 L,.junk,.ref (atC x),.bool cm,l.dv 9 atC,.int .i64 l.l.length,.int .i64 i]++js 38,.cells (spC s)::oT atC L⟩:=by
 have hap:=zte0 (k:=1) (b:=168) (l:=L) (x:=z28h x) (h:=[AObj.cells (spC s)]) rfl zu2q (by decide) (by decide) (fun _=>zwh8) (by omega)
 simp only [y07,y0h] at hap
 have hv : ∀ H,visY H (.sl true 9 1 (atC (z28h x)))=some (1,atC (z28h x)):=fun H=>by simp [visY]
 have k2:=z061 (x:=s.by_) (v:=x.own)
 have k3:=z4hf (x:=x)
 have fin : ∀ (b:Bool) (L':List Att),eliP s x=b→L'=L++(if b then [z28h x] else [])→V P 0 EliR (z13e 0 (S911 s l) (fun i=>l.l.length-i) (fun i=>i≤l.l.length) i Φ0) ⟨[.junk,.junk,.mp 0 7 0,.junk,.junk,oV 1 9 L',.junk,.junk,.junk,l.dv 9 atC,.int .i64 l.l.length,.int .i64 i]++js 38,.cells (spC s)::oT atC L'⟩:=fun b L' hb hL=>by
  rw [hb,← hL] at hs
  simp only [EliR,z382]
  refine V_W mix zchj ?_
  simp (disch:=first|omega|simp<;>omega|fail) [-zA,-zB,-zC,-zD,-zE]
  exact ⟨i+1,z515 (by simp (disch:=first|omega|simp<;>omega|fail) [-zA,-zB,-zC,-zD,-zE,S911,z9o7,hs]) (by simp (disch:=first|omega|simp<;>omega|fail) [-zA,-zB,-zC,-zD,-zE,S911,z9o7,hs]),by omega,by omega⟩
 simp only [EliT,z382]
 refine zbn1 (V_W mix zchj ?_)
 cases cm with
 | false =>
  have hb:eliP s x=false:=by unfold eliP; rw [hc]; rfl
  simp (disch:=first|omega|simp<;>omega|fail) [-zA,-zB,-zC,-zD,-zE]
  refine V_W mix zchj ?_
  simp (disch:=first|omega|simp<;>omega|fail) [-zA,-zB,-zC,-zD,-zE]
  exact zqfd (z515 (by simp (disch:=first|omega|simp<;>omega|fail) [-zA,-zB,-zC,-zD,-zE]) (by simp (disch:=first|omega|simp<;>omega|fail) [-zA,-zB,-zC,-zD,-zE])) (fin false L hb (by simp))
 | true =>
  by_cases e1:x.rc.step=s.name
  ·by_cases e2:x.own ∈ s.by_.l
   ·have hb:eliP s x=true:=by unfold eliP; rw [hc]; simp [e1,e2]
    simp (disch:=first|omega|simp<;>omega|fail) [-zA,-zB,-zC,-zD,-zE,e1,z1oe,k2,e2]
    refine V_W mix zchj ?_
    simp (disch:=first|omega|simp<;>omega|fail) [-zA,-zB,-zC,-zD,-zE,zeux,k3,zsdw,hv,hap]
    exact zqfd (z515 (by simp (disch:=first|omega|simp<;>omega|fail) [-zA,-zB,-zC,-zD,-zE]) (by simp (disch:=first|omega|simp<;>omega|fail) [-zA,-zB,-zC,-zD,-zE])) (fin true (L++[z28h x]) hb (by simp))
   ·have hb:eliP s x=false:=by unfold eliP; rw [hc]; simp [e1,e2]
    simp (disch:=first|omega|simp<;>omega|fail) [-zA,-zB,-zC,-zD,-zE,e1,z1oe,k2,e2]
    refine V_W mix zchj ?_
    simp (disch:=first|omega|simp<;>omega|fail) [-zA,-zB,-zC,-zD,-zE]
    exact zqfd (z515 (by simp (disch:=first|omega|simp<;>omega|fail) [-zA,-zB,-zC,-zD,-zE]) (by simp (disch:=first|omega|simp<;>omega|fail) [-zA,-zB,-zC,-zD,-zE])) (fin false L hb (by simp))
  ·have hb:eliP s x=false:=by unfold eliP; rw [hc]; simp [e1]
   simp (disch:=first|omega|simp<;>omega|fail) [-zA,-zB,-zC,-zD,-zE,e1]
   refine V_W mix zchj ?_
   simp (disch:=first|omega|simp<;>omega|fail) [-zA,-zB,-zC,-zD,-zE]
   exact zqfd (z515 (by simp (disch:=first|omega|simp<;>omega|fail) [-zA,-zB,-zC,-zD,-zE]) (by simp (disch:=first|omega|simp<;>omega|fail) [-zA,-zB,-zC,-zD,-zE])) (fin false L hb (by simp))
theorem z1e9 (s:Spc) (l:Sl Att):V P 0 a10.code (retK a10.res ((ownN (eliS s l.l)).dv 9 atC)) ⟨zr5g a10.ntmps [.agg (spC s),l.dv 9 atC],[]⟩:=by
 have hb:=l.b
 refine zbn1 (V_W mix zchj ?_)
 simp (disch:=first|omega|simp<;>omega|fail) [-zA,-zB,-zC,-zD,-zE,a10]
 refine zbn1 (V_W mix zchj ?_)
 simp (disch:=first|omega|simp<;>omega|fail) [-zA,-zB,-zC,-zD,-zE]
 refine zbn1 (zbn1 (V_W mix zchj ?_))
 simp (disch:=first|omega|simp<;>omega|fail) [-zA,-zB,-zC,-zD,-zE]
 refine z3mo (ztbr (S911 s l) (fun i=>l.l.length-i) (fun i=>i≤l.l.length) 0 (z515 (by simp (disch:=first|omega|simp<;>omega|fail) [-zA,-zB,-zC,-zD,-zE,S911,z9o7,eliS,zl8p]) (by simp (disch:=first|omega|simp<;>omega|fail) [-zA,-zB,-zC,-zD,-zE,S911,z9o7,eliS,zkrk])) (by omega) (fun i hi => ?_))
 simp only [S911]
 refine zbn1 (V_W mix zchj ?_)
 by_cases h:i<l.l.length
 case neg =>
  have h':¬ (i:Int)<l.l.length:=by omega
  rw [y00 (show l.l.length≤i by omega)]
  have hl:=zusn s l.l
  have hsn:=zigm (k:=1) (l:=eliS s l.l) (h:=[AObj.cells (spC s)]) (r:=[]) rfl zu2q z83l (by omega)
  rw [y0p] at hsn
  simp only [y07,y0h] at hsn
  simp (disch:=first|omega|simp<;>omega|fail) [-zA,-zB,-zC,-zD,-zE,z382,z9o7,h,h']
  refine zbn1 (V_W mix zchj ?_)
  simp (disch:=first|omega|simp<;>omega|fail) [-zA,-zB,-zC,-zD,-zE,h,h']
  refine V_W mix zchj ?_
  simp (disch:=first|omega|simp<;>omega|fail) [-zA,-zB,-zC,-zD,-zE,hsn]
 have h':(i:Int)<l.l.length:=by omega
 have hg : ∀ H,zpsc H 9 (l.dv 9 atC) i=some (.ref (atC l.l[i])):=fun H=>zalo zu2q h
 obtain ⟨x,hx⟩ : ∃ x,l.l[i]=x:=⟨_,rfl⟩
 have hs:=z9xw (s:=s) (l:=l.l.take i) (x:=x)
 rw [← hx,← List.take_succ_eq_append_getElem h,hx] at hs
 rw [hx] at hg
 have hlen:(eliS s (l.l.take i)).length≤i:=by have:=zusn s (l.l.take i); rw [List.length_take] at this; omega
 obtain ⟨L,hL⟩ : ∃ L,eliS s (l.l.take i)=L:=⟨_,rfl⟩
 rw [hL] at hs hlen ⊢
 have hTb : ∀ n,zlf2 n (oT atC L)=true:=fun n=>zd81 z83l
 have hVb:Am.below (1+(oT atC L).length) (oV 1 9 L)=true:=zv6o
 have hVb':Am.below ((oT atC L).length+1) (oV 1 9 L)=true:=by rw [y14]; exact hVb
 have k1:=zxfs (x:=s.cmd) (y:=x.rc.cmd)
 simp (disch:=first|omega|simp<;>omega|fail) [-zA,-zB,-zC,-zD,-zE,z382,z9o7,h,h']
 refine zbn1 (V_W mix zchj ?_)
 simp (disch:=first|omega|simp<;>omega|fail) [-zA,-zB,-zC,-zD,-zE,h,h']
 refine zbn1 (z3mo (zbn1 (V_W mix zchj ?_)))
 simp (disch:=first|omega|simp<;>omega|fail) [-zA,-zB,-zC,-zD,-zE,hg]
 refine zs10 (H := .cells (spC s)::oT atC L) (cs:=atC x) (t':=[.junk,.junk,.mp 0 7 0,.junk,.junk,oV 1 9 L,.junk,.ref (atC x),.junk,l.dv 9 atC,.int .i64 l.l.length,.int .i64 i]++js 38) (by simp (disch:=first|omega|simp<;>omega|fail) [-zA,-zB,-zC,-zD,-zE,zlf2,hTb]) (by simp) ?_ (by simp (disch:=first|omega|simp<;>omega|fail) [-zA,-zB,-zC,-zD,-zE,belowL,Am.below,hVb',z8b8 _ _ (zu1r l)]) ?_
 ·have e1:=zz5t (H := .cells (spC s)::oT atC L) (cs:=atC x) (off:=0) (z83l x)
  have e2 : ∀ h,mk1 (kLt ((AObj.cells (spC s)::oT atC L).length)) h (oV 1 9 L)=oV 1 9 L:=fun h=>zd3c (by rw [y0a]; exact hVb')
  have e3 : ∀ h,mk1 (kLt ((AObj.cells (spC s)::oT atC L).length)) h (.mp 0 7 0) = .mp 0 7 0:=fun h=>zd3c (by simp [Am.below])
  have e4 : ∀ K h,mk1 K h (l.dv 9 atC)=l.dv 9 atC:=fun K h=>zvft (zu1r l)
  simp only [y07,y0a,zu2q,y0n] at e1 e2 e3
  simp (disch:=first|omega|simp<;>omega|fail) [-zA,-zB,-zC,-zD,-zE,e1,e2,e3,e4]
 have main:=fun cm (hc:(decide (s.cmd.l=[])||decide (s.cmd.l=x.rc.cmd.l))=cm) Φ0=>zqv2 (Φ0:=Φ0) hb h (by omega) hs hc
 refine zbn1 (V_W mix zchj ?_)
 by_cases e0:s.cmd.l=[]
 ·have e0':s.cmd.l.length=0:=by rw [e0]; rfl
  simp (disch:=first|omega|simp<;>omega|fail) [-zA,-zB,-zC,-zD,-zE,e0,e0']
  exact zqfd (z515 (by simp (disch:=first|omega|simp<;>omega|fail) [-zA,-zB,-zC,-zD,-zE]) (by simp (disch:=first|omega|simp<;>omega|fail) [-zA,-zB,-zC,-zD,-zE])) (main true (by simp [e0]) _)
 ·have e0':¬ s.cmd.l.length=0:=fun q=>e0 (y0i q)
  have e0'':¬ (s.cmd.l.length:Int)=0:=by omega
  by_cases e1:s.cmd.l=x.rc.cmd.l
  ·have k1:zsph [s.cmd.dv 1 stC,x.rc.cmd.dv 1 stC]=some (.bool true):=by rw [k1,decide_eq_true e1]
   simp (disch:=first|omega|simp<;>omega|fail) [-zA,-zB,-zC,-zD,-zE,e0',e0'',za27,k1]
   exact zqfd (z515 (by simp (disch:=first|omega|simp<;>omega|fail) [-zA,-zB,-zC,-zD,-zE]) (by simp (disch:=first|omega|simp<;>omega|fail) [-zA,-zB,-zC,-zD,-zE])) (main true (by simp [e1]) _)
  ·have k1:zsph [s.cmd.dv 1 stC,x.rc.cmd.dv 1 stC]=some (.bool false):=by rw [k1,decide_eq_false e1]
   simp (disch:=first|omega|simp<;>omega|fail) [-zA,-zB,-zC,-zD,-zE,e0',e0'',za27,k1]
   exact zqfd (z515 (by simp (disch:=first|omega|simp<;>omega|fail) [-zA,-zB,-zC,-zD,-zE]) (by simp (disch:=first|omega|simp<;>omega|fail) [-zA,-zB,-zC,-zD,-zE])) (main false (by simp [e0,e1]) _)
noncomputable def cEli:List DV→Option DV:=con (fun _=>True) (fun a:Spc × Sl Att=>[.agg (spC a.1),a.2.dv 9 atC]) (fun a=>(ownN (eliS a.1 a.2.l)).dv 9 atC)
theorem zbwi {s:Spc} {l:Sl Att}:cEli [.agg (spC s),l.dv 9 atC]=some ((ownN (eliS s l.l)).dv 9 atC) :=
 zsn4 (f:=fun a:Spc × Sl Att=>[.agg (spC a.1),a.2.dv 9 atC]) (g:=fun a=>(ownN (eliS a.1 a.2.l)).dv 9 atC) (by
  rintro ⟨a,b⟩ ⟨c,d⟩ e
  simp only [List.cons.injEq,DV.agg.injEq,and_true] at e
  rw [z1d3 e.1,z965 e.2]) (s,l)
theorem zxn6:(Con.pure cEli).Sound P 10:=z2au fun a _=>znz9 Try.func10 z1ee (z1e9 a.1 a.2)
end
section
set_option linter.unusedSimpArgs false
set_option linter.unusedVariables false
open Go Go.Am
structure SF where
 k:Nat
 s:Vot→Vot→Bool
 c:List DV→Option DV
 e : ∀ a b,c [.agg (voC a),.agg (voC b)]=some (.bool (s a b))
 h:(Con.pure c).Sound P k
def SF.dv (F:SF):DV := .fn (.func F.k) [] []
def gC (g:Sl Vot):List DV:=[g.dv 4 voC]
theorem zfnv (g:Sl Vot):(gC g).length=1:=rfl
theorem znfs (x:Sl Vot):zyp8 (x.dv 4 voC)=true:=zxxb zc6g x
theorem zlw9 (g:Sl Vot):zbao (gC g)=true:=by simp [gC,zbao,znfs]
theorem z22s {x y:Sl Vot} (e:x.dv 4 voC=y.dv 4 voC):x=y:=zcq7 zu4u (by decide) (fun _ _=>zkbi) e
theorem zuif {a b:Sl Vot} (e:gC a=gC b):a=b:=by simp only [gC,List.cons.injEq,and_true] at e; exact z22s e
theorem zcsv (x:Sl (Sl Vot)):zyp8 (x.dv 1 gC)=true:=zxxb zlw9 x
theorem zhfr {x y:Sl (Sl Vot)} (e:x.dv 1 gC=y.dv 1 gC):x=y:=zcq7 zfnv (by decide) (fun _ _=>zuif) e
def hdS (F:SF) (v:Vot) (g:Sl Vot):Bool:=match g.l with
 | []=>false
 | y::_=>F.s y v
noncomputable def TF (F:SF):Tbl:=addT F.k (.pure F.c) tbl0
theorem TF_k (F:SF):TF F F.k = .pure F.c:=by simp [TF]
theorem zej6 (F:SF):(TF F).Sound P:=z0rp F.h zr5o
theorem zffv (F:SF) (g:Sl Vot) (v:Vot) (hg:g.l≠[]):Runs (TF F) a57 [g.dv 4 voC,.ref [F.dv],.ref (voC v)] (.bool (hdS F v g)):=by
 refine ⟨?_⟩
 cases e:g.l with
 | nil=>exact absurd e hg
 | cons y r =>
  have hi : ∀ H,zpsc H 4 (g.dv 4 voC) 0=some (.ref (voC y)):=fun H=>by
   have:=zalo (h:=H) (x:=g) (i:=0) zu4u (by rw [e]; simp)
   rw [show ((0:Nat):Int)=0 from rfl] at this
   rw [this]; simp [e]
  have h2:=F.e y v
  have hr:hdS F v g=F.s y v:=by unfold hdS; rw [e]
  simp (disch:=first|omega|simp<;>omega|fail) [-zA,-zB,-zC,-zD,-zE,a57,SF.dv,hi,TF_k,h2,hr]
noncomputable def cGcl (F:SF):List DV→Option DV:=con (fun a:Sl Vot × Vot=>a.1.l≠[]) (fun a=>[a.1.dv 4 voC,.ref [F.dv],.ref (voC a.2)]) (fun a => .bool (hdS F a.2 a.1))
theorem z97w {F:SF} {g:Sl Vot} {v:Vot} (h:g.l≠[]):cGcl F [g.dv 4 voC,.ref [F.dv],.ref (voC v)]=some (.bool (hdS F v g)) :=
 zzno (A:=fun a:Sl Vot × Vot=>a.1.l≠[]) (f:=fun a:Sl Vot × Vot=>[a.1.dv 4 voC,.ref [F.dv],.ref (voC a.2)]) (g:=fun a => .bool (hdS F a.2 a.1)) (by
  rintro ⟨a,b⟩ ⟨c,d⟩ e
  simp only [List.cons.injEq,DV.ref.injEq,and_true,true_and] at e
  rw [z22s e.1,zkbi e.2]) (g,v) h
theorem z8xh (F:SF):(Con.pure (cGcl F)).Sound P 57:=z2au fun a h=>zljw mix (zej6 F) Try.func57 zfce (zffv F a.1 a.2 h)
noncomputable def T920 (F:SF):Tbl:=addT 57 (.pure (cGcl F)) tbl0
theorem zp4d (F:SF):T920 F 57 = .pure (cGcl F):=by simp [T920]
theorem zpm6 (F:SF):(T920 F).Sound P:=z0rp (z8xh F) zr5o
def gfn (F:SF) (v:Vot):DV := .fn (.func 57) [] [.ref [F.dv],.ref (voC v)]
def S920 (F:SF) (x:Sl (Sl Vot)) (v:Vot) (i:Nat):St:=zax8 (x.dv 1 gC) (gfn F v) (.int .i64 x.l.length) (.int .i64 i) []
theorem zes7 (F:SF) (x:Sl (Sl Vot)) (v:Vot) (hx : ∀ g ∈ x.l,g.l≠[]):Runs (T920 F) a56 [x.dv 1 gC,gfn F v] (.int .i64 (fIx (hdS F v) x.l)):=by
 refine ⟨?_⟩
 have hb:=x.b
 have hpF:zbao [F.dv]=true:=by simp [SF.dv,zbao,zyp8]
 simp (disch:=first|omega|simp<;>omega|fail) [-zA,-zB,-zC,-zD,-zE,a56]
 refine zlm5 (S920 F x v) (fun i=>x.l.length-i) (fun i=>i≤x.l.length ∧ ∀ j (h:j<x.l.length),j<i→hdS F v x.l[j]=false) 0 (z515 (by simp (disch:=first|omega|simp<;>omega|fail) [-zA,-zB,-zC,-zD,-zE,S920,zax8]) (by simp (disch:=first|omega|simp<;>omega|fail) [-zA,-zB,-zC,-zD,-zE,S920,zax8])) ⟨by omega,fun j _ hj=>by omega⟩ (fun i hi => ?_)
 obtain ⟨q1,q2⟩:=hi
 simp only [S920]
 by_cases g:i<x.l.length
 ·have g':(i:Int)<x.l.length:=by omega
  have hy : ∀ H,zpsc H 1 (x.dv 1 gC) i=some (.ref (gC x.l[i])):=fun H=>zalo zfnv g
  have hc:=z97w (F:=F) (v:=v) (hx x.l[i] (y0d g))
  have hinv:hdS F v x.l[i]=false → ∀ j (h:j<x.l.length),j<i+1→hdS F v x.l[j]=false:=fun e j hj hji=>by
   by_cases ej:j=i
   ·subst ej; exact e
   ·exact q2 j hj (by omega)
  have hr:hdS F v x.l[i]=true→fIx (hdS F v) x.l=i:=fun e=>z67l g e q2
  obtain ⟨u,hu⟩ : ∃ u,x.l[i]=u:=⟨_,rfl⟩
  rw [hu] at hy hc hinv hr
  cases e:hdS F v u with
  | true =>
   have hr:=hr e
   rw [e] at hc
   simp (disch:=first|omega|simp<;>omega|fail) [-zA,-zB,-zC,-zD,-zE,zvgs,zax8,g,g',hy,gC,gfn,zp4d,hc,hr,hpF,znfs]
  | false =>
   have hinv:=hinv e
   rw [e] at hc
   simp (disch:=first|omega|simp<;>omega|fail) [-zA,-zB,-zC,-zD,-zE,zvgs,zax8,g,g',hy,gC,gfn,zp4d,hc,hpF,znfs]
   exact ⟨i+1,z515 (by simp (disch:=first|omega|simp<;>omega|fail) [-zA,-zB,-zC,-zD,-zE,S920,zax8,gfn]) (by simp (disch:=first|omega|simp<;>omega|fail) [-zA,-zB,-zC,-zD,-zE,S920,zax8]),by omega,by omega,fun j h hj=>by simpa using hinv j h hj⟩
 ·have g':¬ (i:Int)<x.l.length:=by omega
  have hr:fIx (hdS F v) x.l = -1:=zf0r fun a ha=>by
   obtain ⟨j,hj,e⟩:=y0c ha
   have:=q2 j hj (by omega)
   rw [e] at this; exact this
  simp (disch:=first|omega|simp<;>omega|fail) [-zA,-zB,-zC,-zD,-zE,zvgs,zax8,g,g',hr]
noncomputable def cGix (F:SF):List DV→Option DV:=con (fun a:Sl (Sl Vot) × Vot => ∀ g ∈ a.1.l,g.l≠[]) (fun a=>[a.1.dv 1 gC,gfn F a.2]) (fun a => .int .i64 (fIx (hdS F a.2) a.1.l))
theorem z7rj {F:SF} {x:Sl (Sl Vot)} {v:Vot} (h : ∀ g ∈ x.l,g.l≠[]):cGix F [x.dv 1 gC,gfn F v]=some (.int .i64 (fIx (hdS F v) x.l)) :=
 zzno (A:=fun a:Sl (Sl Vot) × Vot => ∀ g ∈ a.1.l,g.l≠[]) (f:=fun a:Sl (Sl Vot) × Vot=>[a.1.dv 1 gC,gfn F a.2]) (g:=fun a => .int .i64 (fIx (hdS F a.2) a.1.l)) (by
  rintro ⟨a,b⟩ ⟨c,d⟩ e
  simp only [List.cons.injEq,gfn,DV.fn.injEq,DV.ref.injEq,and_true,true_and] at e
  rw [zhfr e.1,zkbi e.2]) (x,v) h
theorem zfcd (F:SF):(Con.pure (cGix F)).Sound P 56:=z2au fun a h=>zljw mix (zpm6 F) Try.func56 zcwb (zes7 F a.1 a.2 h)
end
section
set_option linter.unusedSimpArgs false
set_option linter.unusedVariables false
open Go Go.Am
def gSl (g:List Vot):Sl Vot:=if h:g.length=1 then ⟨some true,g,by simp,by omega⟩ else own g
theorem z0ey {g:List Vot} (h:g.length≤4294967296):(gSl g).l=g:=by
 unfold gSl; split
 ·rfl
 ·exact z3e9 h
theorem zyex {v:Vot}:(gSl [v]).dv 4 voC = .sl true 4 1 (voC v):=by
 simp [gSl,SlB.dv,slD]
theorem zio8 {g:List Vot} (h:2≤g.length) (hb:g.length≤4294967296):(gSl g).dv 4 voC = .sl false 4 g.length (g.flatMap voC):=by
 have:gSl g=own g:=by unfold gSl; rw [dif_neg (by omega)]
 rw [this,zqrs hb]
def grpD (gs:List (List Vot)):Sl (Sl Vot):=ownN (gs.map gSl)
theorem zm38 {gs:List (List Vot)} (h:gs.length≤4294967296):(grpD gs).l=gs.map gSl:=zd8n (by rw [y0e]; exact h)
def hdP (F:SF) (v:Vot) (g:List Vot):Bool:=match g with
 | []=>false
 | y::_=>F.s y v
theorem zdzg {F:SF} {v:Vot} {g:List Vot} (h:g.length≤4294967296):hdS F v (gSl g)=hdP F v g:=by unfold hdS hdP; rw [z0ey h]; try (cases g<;>rfl)
theorem za5h {F:SF} {x:Vot} : ∀ {out:List (List Vot)} {k:Nat} (hk:k<out.length),hdP F x out[k]=true→(∀ j (h:j<out.length),j<k→hdP F x out[j]=false)→addG F.s out x=out.set k (out[k]++[x])
 | g::r,0,_,h,_=>by
  simp only [y0o] at h
  unfold hdP at h
  simp only [addG,y0o,List.set_cons_zero]
  rw [if_pos (by cases g with
   | nil=>simp at h
   | cons y r=>exact h)]
 | g::r,k+1,hk,h,h2=>by
  have h0:hdP F x g=false:=h2 0 (by simp) (by omega)
  have ih:=za5h (F:=F) (x:=x) (out:=r) (k:=k) (by simpa using hk) (by simpa using h) fun j hj hjk=>by
   have:=h2 (j+1) (by simpa using hj) (by omega)
   simpa using this
  unfold hdP at h0
  simp only [addG,List.getElem_cons_succ,List.set_cons_succ]
  rw [if_neg (by cases g with
   | nil=>simp
   | cons y r=>simp [h0]),ih]
theorem zmh5 {F:SF} {x:Vot} : ∀ {out:List (List Vot)},(∀ g ∈ out,hdP F x g=false)→addG F.s out x=out++[[x]]
 | [],_=>rfl
 | g::r,h=>by
  have h0:=h g (by simp)
  have ih:=zmh5 (F:=F) (x:=x) (out:=r) fun g hg=>h g (by simp [hg])
  unfold hdP at h0
  simp only [addG]
  rw [if_neg (by cases g with
   | nil=>simp
   | cons y r=>simp [h0]),ih]; rfl
theorem ziua {s:Vot→Vot→Bool} (l:List Vot):(∀ g ∈ grpG s l,g≠[]∧g.length≤l.length)∧(grpG s l).length≤l.length:=by
 induction l using z77f with
 | h0=>exact ⟨fun g hg=>by simp [grpG] at hg,by simp [grpG]⟩
 | h1 l x ih =>
  have aux : ∀ out:List (List Vot),(∀ g ∈ out,g≠[]∧g.length≤l.length)→(∀ g ∈ addG s out x,g≠[]∧g.length≤(l++[x]).length)∧(addG s out x).length≤out.length+1:=by
   intro out
   induction out with
   | nil=>intro _; exact ⟨fun g hg=>by simp [addG] at hg; subst hg; simp,by simp [addG]⟩
   | cons a out io =>
    intro h
    obtain ⟨j1,j2⟩:=io fun g hg=>h g (by simp [hg])
    have ha:=h a (by simp)
    cases a with
    | nil=>exact absurd rfl ha.1
    | cons y t =>
    simp only [addG]
    split
    ·refine ⟨fun g hg => ?_,by simp⟩
     rcases y10.1 hg with rfl|hg
     ·exact ⟨by simp,by rw [y09,y09]; exact Nat.add_le_add_right ha.2 _⟩
     ·have:=h g (by simp [hg]); exact ⟨this.1,by rw [y09]; omega⟩
    ·refine ⟨fun g hg => ?_,by simp only [y0a]; omega⟩
     rcases y10.1 hg with rfl|hg
     ·exact ⟨ha.1,by rw [y09]; omega⟩
     ·exact j1 g hg
  obtain ⟨k1,k2⟩:=aux _ ih.1
  rw [zd8q]
  exact ⟨k1,by rw [y09,List.length_singleton]; omega⟩
abbrev Slt:=Option Nat × List Vot
def cel (c:Slt):DV:=match c.1 with
 | none => .sl true 4 1 (c.2.flatMap voC)
 | some j => .ms (2+j) (c.2.length*4) 0 4 c.2.length (c.2.length*4)
def cC (c:Slt):List DV:=[cel c]
theorem z8cu (c:Slt):(cC c).length=1:=rfl
theorem zhlf {c:Slt}:(cC c).all DV.one=true:=by
 obtain ⟨k,g⟩:=c
 cases k<;>rfl
def oG (g:List Vot):AObj := .cells (fl voC g)
def gR (sl:List Slt) (objs:List (List Vot)):List AObj:=oT cC sl++objs.map oG
structure GI (F:SF) (V:List Vot) (sl:List Slt) (objs:List (List Vot)):Prop where
 gs:sl.map (·.2)=grpG F.s V
 one : ∀ c ∈ sl,c.1=none→c.2.length=1
 big : ∀ k (h:k<sl.length) j,sl[k].1=some j→objs[j]? = some sl[k].2∧2≤sl[k].2.length
 inj : ∀ k k' (h:k<sl.length) (h':k'<sl.length) j,sl[k].1=some j→sl[k'].1=some j→k=k'
 nil:sl=[]→objs=[]
theorem zz2q {sl:List Slt} {objs:List (List Vot)} (h:sl≠[]):(gR sl objs).length=1+objs.length:=by rw [gR,zu2l h]; simp; omega
theorem zw5k (sl:List Slt):fl cC sl=sl.map cel:=by
 unfold fl
 induction sl with
 | nil=>rfl
 | cons c r ih=>rw [y04,ih]; rfl
theorem z01d {a b:AObj} {objs:List (List Vot)} {j:Nat} {g:List Vot} (h:objs[j]? = some g) {r:List AObj}:objV (a::b::(objs.map oG++r)) (2+j) (g.length*4)=some (fl voC g):=by
 have hj:=(y0b.1 h).1
 unfold objV ziu0
 rw [show 2+j=j+1+1 by omega,y0t,y0t,y0s (by simpa using hj),List.getElem?_map,h]
 simp [oG,z8lx zu4u]
theorem GI.gr_below {F:SF} {V:List Vot} {sl:List Slt} {objs:List (List Vot)} (g:GI F V sl objs):zlf2 ((gR sl objs).length+1) (gR sl objs)=true:=by
 by_cases e:sl=[]
 ·have:=g.nil e; subst e; subst this; rfl
 ·have hl:=zz2q (objs:=objs) e
  rw [hl]
  rw [gR,zu2l e]
  have hO : ∀ n (o:List (List Vot)),zlf2 n (o.map oG)=true:=fun n o=>by
   induction o with
   | nil=>rfl
   | cons a r ih=>simp only [y11,oG,zlf2,fl,zmq5 _ _ (zp6k zc6g _),ih,y03]
  simp only [y07,y0h,zlf2,hO,Bool.and_true]
  rw [zw5k]
  have hc : ∀ c ∈ sl,Am.below (1+objs.length+1) (cel c)=true:=fun c hc=>by
   obtain ⟨k,hk,rfl⟩:=y0c hc
   cases q:sl[k].1 with
   | none =>
    have:cel sl[k] = .sl true 4 1 (sl[k].2.flatMap voC):=by unfold cel; rw [q]
    rw [this]; simp only [Am.below]; exact zmq5 _ _ (zp6k zc6g _)
   | some j =>
    have:cel sl[k] = .ms (2+j) (sl[k].2.length*4) 0 4 sl[k].2.length (sl[k].2.length*4):=by unfold cel; rw [q]
    rw [this]; simp only [Am.below,decide_eq_true_eq]
    have:=(y0b.1 (g.big k hk j q).1).1
    omega
  revert hc
  generalize 1+objs.length+1=n
  clear hl hO e g
  induction sl with
  | nil=>intro _; rfl
  | cons c r ih =>
   intro hc
   simp only [y11,belowL,y02]
   exact ⟨hc c (by simp),ih fun d hd=>hc d (by simp [hd])⟩
theorem GI.snap_out {F:SF} {V:List Vot} {sl:List Slt} {objs:List (List Vot)} (g:GI F V sl objs) (hV:V.length≤4294967296) {a:AObj} {r:List AObj}:snap (a::(gR sl objs++r)) 3 (oV 1 1 sl)=some ((grpD (grpG F.s V)).dv 1 gC):=by
 by_cases e:sl=[]
 ·have hg:=g.gs
  subst e
  rw [show ([]:List Slt).map (·.2)=[] from rfl] at hg
  rw [← hg]; rfl
 ·have hgs:=ziua (s:=F.s) V
  have hn:sl.length=(grpG F.s V).length:=by rw [← g.gs,y0e]
  rw [zpni e,zve7]
  have ho:objV (a::(gR sl objs++r)) 1 (sl.length*1)=some (sl.map cel):=by
   rw [gR,zu2l e]
   unfold objV ziu0
   simp [zw5k]
  have hs : ∀ c ∈ sl,snap (a::(gR sl objs++r)) 2 (cel c)=some ((gSl c.2).dv 4 voC):=fun c hc=>by
   obtain ⟨k,hk,rfl⟩:=y0c hc
   have hm:sl[k].2 ∈ grpG F.s V:=by rw [← g.gs]; exact y13 (y0d hk)
   have hb:=(hgs.1 _ hm).2
   cases q:sl[k].1 with
   | none =>
    have h1:=g.one _ (y0d hk) q
    have:cel sl[k] = .sl true 4 1 (sl[k].2.flatMap voC):=by unfold cel; rw [q]
    rw [this]
    obtain ⟨v,hv⟩ : ∃ v,sl[k].2=[v]:=by
     match h:sl[k].2,h1 with
     | [v],_=>exact ⟨v,rfl⟩
    rw [hv,zyex,show [v].flatMap voC=voC v by simp]
    exact z6nl (by simp [zyp8])
   | some j =>
    obtain ⟨b1,b2⟩:=g.big k hk j q
    have:cel sl[k] = .ms (2+j) (sl[k].2.length*4) 0 4 sl[k].2.length (sl[k].2.length*4):=by unfold cel; rw [q]
    rw [this,zve7,gR,zu2l e]
    have ho:=z01d (a:=a) (b := .cells (fl cC sl)) b1 (r:=r)
    simp only [y07,y0h,List.append_assoc] at ho ⊢
    rw [ho,y05,y0n,z590 zu4u,List.take_length,z619 (zp6k zc6g _),zio8 b2 (by omega)]
    rfl
  rw [ho,y05,y0n,Nat.mul_one,y00 (by simp)]
  have hL : ∀ l:List Slt,(∀ c ∈ l,snap (a::(gR sl objs++r)) 2 (cel c)=some ((gSl c.2).dv 4 voC))→z4tt (a::(gR sl objs++r)) 2 (l.map cel)=some ((l.map fun c=>gSl c.2).flatMap gC):=by
   intro l
   induction l with
   | nil=>intro _; rfl
   | cons c l ih =>
    intro h
    rw [y11,zrz6,h c (by simp),y05,ih fun d hd=>h d (by simp [hd])]
    rfl
  rw [hL sl hs]
  have e2:sl.map (fun c=>gSl c.2)=(grpG F.s V).map gSl:=by rw [← g.gs,List.map_map]; rfl
  rw [e2]
  unfold grpD
  rw [zgr3 (by intro q; exact e (y0i (by rw [hn,← y0e (f:=gSl),q]; rfl))) (by rw [y0e]; omega),y0e,← hn]
  rfl
theorem GI.new {F:SF} {V:List Vot} {sl:List Slt} {objs:List (List Vot)} (g:GI F V sl objs) {x:Vot} (h : ∀ q ∈ grpG F.s V,hdP F x q=false):GI F (V++[x]) (sl++[(none,[x])]) objs:=by
 refine ⟨by rw [zd8q,zmh5 h,List.map_append,g.gs]; rfl,fun c hc hn => ?_,fun k hk j e => ?_,fun k k' hk hk' j e e' => ?_,fun q=>by simp at q⟩
 ·rcases List.mem_append.1 hc with hc|hc
  ·exact g.one c hc hn
  ·rw [List.mem_singleton] at hc; subst hc; rfl
 ·by_cases q:k<sl.length
  ·rw [y0m q] at e ⊢; exact g.big k q j e
  ·have:k=sl.length:=by simp at hk; omega
   subst this; simp at e
 ·by_cases q:k<sl.length
  ·rw [y0m q] at e
   by_cases q':k'<sl.length
   ·rw [y0m q'] at e'; exact g.inj k k' q q' j e e'
   ·have:k'=sl.length:=by simp at hk'; omega
    subst this; simp at e'
  ·have:k=sl.length:=by simp at hk; omega
   subst this; simp at e
theorem GI.grow {F:SF} {V:List Vot} {sl:List Slt} {objs:List (List Vot)} (g:GI F V sl objs) {x:Vot} {k:Nat} (hk:k<sl.length) (h1:hdP F x sl[k].2=true) (h2 : ∀ j (h:j<sl.length),j<k→hdP F x sl[j].2=false) :
  (sl[k].1=none→GI F (V++[x]) (sl.set k (some objs.length,sl[k].2++[x])) (objs++[sl[k].2++[x]])) ∧ ∀ j,sl[k].1=some j→GI F (V++[x]) (sl.set k (some j,sl[k].2++[x])) (objs.set j (sl[k].2++[x])):=by
 have hn:sl≠[]:=fun e=>by subst e; simp at hk
 have hgl:(grpG F.s V).length=sl.length:=by rw [← g.gs,y0e]
 have hgk : ∀ j (h:j<sl.length) (h':j<(grpG F.s V).length),(grpG F.s V)[j]=sl[j].2:=fun j h h'=>by simp only [← g.gs,List.getElem_map]
 have hgs : ∀ o,(sl.set k (o,sl[k].2++[x])).map (·.2)=grpG F.s (V++[x]):=fun o=>by
  rw [zd8q,za5h (k:=k) (by omega) (by rw [hgk k hk]; exact h1) (fun j h hj=>by rw [hgk j (by omega)]; exact h2 j (by omega) hj),hgk k hk,List.map_set,g.gs]
 have hget : ∀ o i (hi:i<(sl.set k (o,sl[k].2++[x])).length),(sl.set k (o,sl[k].2++[x]))[i]=if k=i then (o,sl[k].2++[x]) else sl[i]'(by simpa using hi):=fun o i hi=>List.getElem_set ..
 have hlen1:1≤sl[k].2.length:=by
  have:=(ziua (s:=F.s) V).1 sl[k].2 (by rw [← g.gs]; exact y13 (y0d hk))
  exact y0g.2 this.1
 constructor
 ·intro hkn
  refine ⟨hgs _,fun c hc hcn => ?_,fun i hi j e => ?_,fun i i' hi hi' j e e' => ?_,fun q=>by simp at q; exact absurd q hn⟩
  ·obtain ⟨i,hi,rfl⟩:=y0c hc
   rw [hget] at hcn ⊢
   split at hcn
   ·cases hcn
   ·rename_i q; rw [if_neg q]; exact g.one _ (y0d _) hcn
  ·rw [hget] at e ⊢
   split at e
   ·rename_i q; simp only [Option.some.injEq] at e; subst e
    rw [if_pos q]; exact ⟨by simp,by simp; omega⟩
   ·rename_i q
    rw [if_neg q]
    obtain ⟨b1,b2⟩:=g.big i (by simpa using hi) j e
    exact ⟨by rw [y0s (y0b.1 b1).1]; exact b1,b2⟩
  ·have lt : ∀ i (hi:i<sl.length) j,sl[i].1=some j→j<objs.length:=fun i hi j e=>(y0b.1 (g.big i hi j e).1).1
   rw [hget] at e e'
   split at e
   ·rename_i q
    split at e'
    ·rename_i q'; omega
    ·simp only [Option.some.injEq] at e; subst e
     have:=lt i' (by simpa using hi') _ e'; omega
   ·split at e'
    ·simp only [Option.some.injEq] at e'; subst e'
     have:=lt i (by simpa using hi) _ e; omega
    ·exact g.inj i i' (by simpa using hi) (by simpa using hi') j e e'
 ·intro j hj
  obtain ⟨b1,b2⟩:=g.big k hk j hj
  have hjl:=(y0b.1 b1).1
  refine ⟨hgs _,fun c hc hcn => ?_,fun i hi j' e => ?_,fun i i' hi hi' j' e e' => ?_,fun q=>by simp at q; exact absurd q hn⟩
  ·obtain ⟨i,hi,rfl⟩:=y0c hc
   rw [hget] at hcn ⊢
   split at hcn
   ·cases hcn
   ·rename_i q; rw [if_neg q]; exact g.one _ (y0d _) hcn
  ·rw [hget] at e ⊢
   split at e
   ·rename_i q; simp only [Option.some.injEq] at e; subst e
    rw [if_pos q]; exact ⟨by simp [hjl],by simp; omega⟩
   ·rename_i q
    rw [if_neg q]
    obtain ⟨c1,c2⟩:=g.big i (by simpa using hi) j' e
    have hne:j≠j':=fun z=>q (g.inj k i hk (by simpa using hi) j hj (by subst z; exact e))
    exact ⟨by rw [List.getElem?_set,if_neg hne]; exact c1,c2⟩
  ·rw [hget] at e e'
   split at e
   ·rename_i q
    split at e'
    ·rename_i q'; omega
    ·simp only [Option.some.injEq] at e; subst e
     have:=g.inj k i' hk (by simpa using hi') j hj e'; omega
   ·split at e'
    ·simp only [Option.some.injEq] at e'; subst e'
     have:=g.inj k i hk (by simpa using hi) j hj e; omega
    ·exact g.inj i i' (by simpa using hi) (by simpa using hi') j' e e'
end
end Go.Proofs.Ytjknipdiglpnlaa
