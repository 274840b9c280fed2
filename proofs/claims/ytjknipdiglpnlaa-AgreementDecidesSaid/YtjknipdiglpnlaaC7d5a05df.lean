/-
  19 texts of mine in one.
-/
import Derived.Lib.IndexLaws
import Derived.Test.YtjknipdiglpnlaaProg
import Derived.Test.YtjknipdiglpnlaaCcd3143aa
import Derived.Test.YtjknipdiglpnlaaCe656babf
import Derived.Test.YtjknipdiglpnlaaCf7009e0f
set_option maxRecDepth 20000
set_option maxHeartbeats 4000000
open List renaming map_take → zA, map_drop → zB, map_set → zC, map_append → zD, drop_one → zE
open Bool renaming and_eq_true → y08, not_eq_true' → y0m, and_assoc → y1g
open List renaming mem_map → y00, mem_cons → y01, mem_append → y02, pairwise_cons → y03, map_cons → y04, pairwise_append → y05, mem_filter → y06, takeWhile_append_dropWhile → y07, flatMap_cons → y09, filter_append → y0a, map_congr_left → y0b, dropWhile_cons → y0c, map_append → y0d, length_cons → y0f, takeWhile_cons → y0g, cons_append → y0h, filter_eq_nil_iff → y0i, mem_singleton → y0j, getElem?_append_right → y0l, map_nil → y0n, filter_cons → y0o, reverse_append → y0r, length_append → y0s, take_of_length_le → y0t, mem_reverse → y0u, nil_append → y0v, reverse_reverse → y0w, filterMap_cons → y0x, flatMap_append → y0y, filterMap_map → y0z, append_of_mem → y10, reverse_cons → y11, foldl_append → y12, append_assoc → y13, head?_append → y14, drop_eq_getElem_cons → y15, getElem_map → y16, pairwise_singleton → y17, filter_cons_of_pos → y18, filter_cons_of_neg → y19, pairwise_of_forall → y1a, take_left' → y1b, foldl_cons → y1d, append_nil → y1e, drop_drop → y1f, set_append_right → y1i, mem_map_of_mem → y1j
open Nat renaming add_mul → y0q, le_refl → y1k
open Option renaming bind_some → y0e, map_some → y0k, bind_none → y0p, map_none → y1c, some_or → y1h
namespace Go.Proofs.Ytjknipdiglpnlaa
section
set_option linter.unusedSimpArgs false
set_option linter.unusedVariables false
open Go Go.Am
abbrev B8:=BitVec 8
inductive Pt where
 | one (c:B8)|dot|some|whole
deriving DecidableEq
def Pt.kind:Pt→Int
 | .one _=>0 | .dot=>1 | .some=>2 | .whole=>3
def Pt.long:Pt→Bool
 | .some=>true | .whole=>true|_=>false
def Pt.takes:Pt→B8→Bool
 | .one c,b=>b == c | .whole,_=>true|_,b=>b != 47#8
def bAt (s:List UInt8) (i:Nat):B8:=(s.getD i 0).toBitVec
def row (x:Pt) (s:List UInt8) (prev:Nat→Bool):Nat→Bool
 | 0=>x.long&&prev 0
 | i+1=>if x.long then prev (i+1)||(row x s prev i&&x.takes (bAt s i)) else prev i&&x.takes (bAt s i)
def M (l:List Pt) (s:List UInt8):Nat→Nat→Bool
 | 0=>fun i=>i == 0
 | k+1=>row (l.getD k .dot) s (M l s k)
def noZ (s:List UInt8):Bool:=s.all fun c=>c != 0
def z2fg:List UInt8→List (List UInt8)
 | []=>[[]]
 | c::r=>if c=47 then []::z2fg r else
  match z2fg r with
  | []=>[[c]]
  | h::t=>(c::h)::t
def okC (x:List UInt8):Bool:=x != []&&x != [46]&&x != [46,46]
def zj1f (s:List UInt8):Bool:=decide (1≤s.length)&&decide (s.length≤200)&&noZ s&&(z2fg s).all okC
end
section
set_option linter.unusedSimpArgs false
set_option linter.unusedVariables false
open Go Go.Am
abbrev Dg:={ a:List B8 // a.length=32 }
def dgC (d:Dg):List DV:=d.1.map w8
def dg0:Dg:=⟨rep 32 0#8,by simp [rep]⟩
theorem z1t1 (d:Dg):(dgC d).length=32:=by simp [dgC,d.2]
theorem z6je (d:Dg):zbao (dgC d)=true:=zdqb
theorem zib9 {a b:Dg} (h:dgC a=dgC b):a=b:=Subtype.ext (by rw [dgC,dgC,zwcl] at h; exact h)
structure SlB (B:Nat) (α:Type) where
 k:Option Bool
 l:List α
 h:k=none→l=[]
 b:l.length≤B
abbrev Sl (α:Type):Type:=SlB 4294967296 α
abbrev Raw (α:Type):Type:=SlB 9223372036854775807 α
def SlB.dv {B:Nat} {α:Type} (x:SlB B α) (s:Nat) (f:α→List DV):DV:=slD x.k s x.l.length (x.l.flatMap f)
section
variable {B:Nat} {α:Type} {f:α→List DV} {s:Nat} {h:List AObj} {x:SlB B α} {n k:Nat}
theorem z707 {b:Bool} {l:List α} {h:some b=none→l=[]} {hb:l.length≤B}:(⟨some b,l,h,hb⟩:SlB B α).dv s f = .sl b s l.length (l.flatMap f):=rfl
theorem z5oj {h:none=none→([]:List α)=[]} {hb:([]:List α).length≤B}:(⟨none,[],h,hb⟩:SlB B α).dv s f = .nils:=rfl
theorem z1rq (hu : ∀ a,(f a).length=s) : ∀ (l:List α),(l.flatMap f).length=l.length*s
 | []=>by simp
 | a::l=>by rw [y09,y0s,hu,z1rq hu l,y0f,y0q]; omega
theorem z10w (hu : ∀ a,(f a).length=s) : ∀ (l:List α) (i:Nat),(l.flatMap f).take (i*s)=(l.take i).flatMap f
 | [],i=>by simp
 | a::l,0=>by simp
 | a::l,i+1=>by
  have ha:=hu a
  rw [y09,List.take_append,y0t (by rw [ha,y0q]; omega),ha,show (i+1)*s-s=i*s from by rw [y0q]; omega,z10w hu l,List.take_succ_cons,y09]
theorem zkb2 (hu : ∀ a,(f a).length=s) : ∀ (l:List α) (i:Nat),(l.flatMap f).drop (i*s)=(l.drop i).flatMap f
 | [],i=>by simp
 | a::l,0=>by simp
 | a::l,i+1=>by
  have ha:=hu a
  rw [y09,List.drop_append,List.drop_of_length_le (by rw [ha,y0q]; omega),ha,show (i+1)*s-s=i*s from by rw [y0q]; omega,zkb2 hu l,y0v,List.drop_succ_cons]
theorem zdao (hu : ∀ a,(f a).length=s) {l:List α} {i:Nat} (hi:i<l.length):((l.flatMap f).drop (i*s)).take s=f l[i]:=by
 rw [zkb2 hu,y15 hi,y09,y1b (hu _)]
theorem zg0c : ∀ {a b:List DV},zbao a=true→zbao b=true→zbao (a++b)=true
 | [],_,_,h=>h
 | d::r,b,h1,h2=>by simp only [y0h,zbao,y08] at *; exact ⟨h1.1,zg0c h1.2 h2⟩
theorem zp6k (hp : ∀ a,zbao (f a)=true) : ∀ (l:List α),zbao (l.flatMap f)=true
 | []=>rfl
 | a::l=>by rw [y09]; exact zg0c (hp a) (zp6k hp l)
theorem z47w (hu : ∀ a,(f a).length=s) {l:List α} {i:Nat} (hi:i<l.length) (b:α):zk7y (l.flatMap f) (i*s) (f b)=(l.set i b).flatMap f:=by
 unfold zk7y
 rw [z10w hu,hu b,show i*s+s=(i+1)*s by rw [y0q,Nat.one_mul],zkb2 hu,List.set_eq_take_append_cons_drop,if_pos hi]
 simp
theorem zxxb (hp : ∀ a,zbao (f a)=true) (x:SlB B α):zyp8 (x.dv s f)=true:=by
 obtain ⟨k,l,h,hb1⟩:=x
 cases k with
 | none=>rfl
 | some b=>show zbao _=true; exact zp6k hp l
theorem z4ja (x:SlB B α):(x.dv s f).one=true:=by obtain ⟨k,l,h,hb1⟩:=x; cases k<;>rfl
theorem ztw5 (x:SlB B α):(x.dv s f).known=true:=by obtain ⟨k,l,h,hb1⟩:=x; cases k<;>rfl
theorem zfr8 (x:SlB B α):(x.dv s f).cells=[x.dv s f]:=by obtain ⟨k,l,h,hb1⟩:=x; cases k<;>rfl
theorem zupj:lenD h (x.dv s f)=some (.int .i64 x.l.length):=by
 obtain ⟨k,l,h,hb1⟩:=x
 cases k with
 | none=>cases h rfl; rfl
 | some b=>rfl
theorem zalo (hu : ∀ a,(f a).length=s) {i:Nat} (hi:i<x.l.length):zpsc h s (x.dv s f) i=some (.ref (f x.l[i])):=by
 obtain ⟨k,l,h,hb1⟩:=x
 cases k with
 | none=>cases h rfl; simp at hi
 | some b =>
  simp only [SlB.dv,zip4]
  rw [zsu0 (by omega) (by simp only at hi; omega),Int.toNat_natCast,zdao hu hi]
theorem zllv (hu : ∀ a,(f a).length=s):visS h (x.dv s f)=some (x.l.length,x.l.flatMap f):=zplv (fun e=>by simp [x.h e]) (z1rq hu _)
theorem zwaa (hu : ∀ a,(f a).length=s):visY h (x.dv s f)=some (x.l.length,x.l.flatMap f):=by
 rw [← zllv (h:=h) hu]
 obtain ⟨k,l,h,hb1⟩:=x; cases k<;>rfl
def SlB.part (x:SlB B α) (i j:Nat) (b:Bool):SlB B α:=⟨x.k.map fun c=>c&&b,(x.l.drop i).take (j-i),fun e=>by simp at e; simp [x.h e],by have:=x.b; simp; omega⟩
theorem z0ke (hu : ∀ a,(f a).length=s) {lo hi:Option DV} {i j:Nat} (hb:zo77 x.l.length lo hi=some (i,j)) (hij:j≤x.l.length):ziwb h s (x.dv s f) lo hi none=some ((x.part i j (j == x.l.length)).dv s f):=by
 obtain ⟨k,l,h,hb1⟩:=x
 cases k with
 | none=>cases h rfl; simp at hb hij; simp only [SlB.dv,z6vl,SlB.part,y1c]; rw [zmk5 hb]
 | some b =>
  simp only at hb hij
  simp only [SlB.dv,zip4,SlB.part,y0k]
  rw [zygc hb,zkb2 hu,z10w hu]
  simp only [List.length_take,List.length_drop]
  congr 2
  omega
theorem z2x3:zrfk h (x.dv s f)=some (0,x.k.isNone):=by obtain ⟨k,l,h,hb1⟩:=x; cases k<;>rfl
end
structure Grp where
 ns:List UInt8
 im:List UInt8
 want:Int
 least:Int
 down:Int
 ch:Sl Dg
def grC (g:Grp):List DV:=[.str g.ns,.str g.im,.int .i64 g.want,.int .i64 g.least,.int .i64 g.down,g.ch.dv 32 dgC]
structure Ins where
 id:Int
 grp:Int
 art:Dg
 state:Int
 since:Int
 den:Int
 deriving DecidableEq
def inC (x:Ins):List DV := .int .i64 x.id :: .int .i64 x.grp::(dgC x.art++[.int .i64 x.state,.int .i64 x.since,.int .i64 x.den])
structure Clu where
 g:Sl Grp
 i:Sl Ins
 next:Int
def clC (c:Clu):List DV:=[c.g.dv 6 grC,c.i.dv 37 inC,.int .i64 c.next]
theorem zry4 (g:Grp):(grC g).length=6:=by simp [grC]
theorem z6gw (x:Ins):(inC x).length=37:=by simp [inC,z1t1]
theorem zlha (c:Clu):(clC c).length=3:=by simp [clC]
theorem zpfc (x:Sl Dg):zyp8 (x.dv 32 dgC)=true:=zxxb z6je x
theorem zxeb (g:Grp):zbao (grC g)=true:=by simp [grC,zbao,zyp8,zpfc]
theorem z9kv (x:Ins):zbao (inC x)=true:=by
 simp only [inC,zbao,zyp8,Bool.true_and]
 exact zg0c (z6je _) (by simp [zbao,zyp8])
theorem z1vd (x:Sl Grp):zyp8 (x.dv 6 grC)=true:=zxxb zxeb x
theorem zcha (x:Sl Ins):zyp8 (x.dv 37 inC)=true:=zxxb z9kv x
theorem zy11 (c:Clu):zbao (clC c)=true:=by simp [clC,zbao,zyp8,z1vd,zcha]
theorem zrji (x:Ins):(inC x).drop 2=dgC x.art++[.int .i64 x.state,.int .i64 x.since,.int .i64 x.den]:=rfl
theorem zlh1 (x:Ins):(inC x).drop 34=[.int .i64 x.state,.int .i64 x.since,.int .i64 x.den]:=by
 rw [show (34:Nat)=2+32 from rfl,← y1f,zrji,List.drop_left' (z1t1 _)]
theorem z3vc (x:Ins):(inC x).drop 35=[.int .i64 x.since,.int .i64 x.den]:=by
 rw [show (35:Nat)=34+1 from rfl,← y1f,zlh1]; rfl
theorem zlte (x:Ins):(inC x).drop 36=[.int .i64 x.den]:=by
 rw [show (36:Nat)=34+2 from rfl,← y1f,zlh1]; rfl
section
variable {x:Ins} {g:Grp} {c:Clu} {d:Dg} {r:List DV}
theorem zgz3:oneC 1 false (inC x)=some (.int .i64 x.id):=rfl
theorem zyv0:oneC 1 false ((inC x).drop 1)=some (.int .i64 x.grp):=rfl
theorem zm6n:oneC 32 true ((inC x).drop 2)=some (.agg (dgC x.art)):=by
 rw [zrji]; simp only [oneC,if_true]; rw [if_pos (by simp [z1t1]),y1b (z1t1 _)]
theorem zvh3:oneC 1 false ((inC x).drop 34)=some (.int .i64 x.state):=by rw [zlh1]; rfl
theorem zmwz:oneC 1 false ((inC x).drop 35)=some (.int .i64 x.since):=by rw [z3vc]; rfl
theorem z0hu:oneC 1 false ((inC x).drop 36)=some (.int .i64 x.den):=by rw [zlte]; rfl
theorem zisq:oneC 37 true (inC x)=some (.agg (inC x)):=by simp [oneC,z6gw,y0t]
theorem zuce:oneC 6 true (grC g)=some (.agg (grC g)):=rfl
theorem zn7v:oneC 1 false (grC g)=some (.str g.ns):=rfl
theorem zuiq:oneC 1 false ((grC g).drop 1)=some (.str g.im):=rfl
theorem zhlv:oneC 1 false ((grC g).drop 2)=some (.int .i64 g.want):=rfl
theorem z9em:oneC 1 false ((grC g).drop 3)=some (.int .i64 g.least):=rfl
theorem z8ho:oneC 1 false ((grC g).drop 4)=some (.int .i64 g.down):=rfl
theorem z3oq:oneC 1 false ((grC g).drop 5)=some (g.ch.dv 32 dgC):=rfl
theorem zei9:oneC 3 true (clC c)=some (.agg (clC c)):=rfl
theorem zhtb:oneC 1 false (clC c)=some (c.g.dv 6 grC):=rfl
theorem zxyh:oneC 1 false ((clC c).drop 1)=some (c.i.dv 37 inC):=rfl
theorem zawu:oneC 1 false ((clC c).drop 2)=some (.int .i64 c.next):=rfl
theorem zwwo:oneC 32 true (dgC d)=some (.agg (dgC d)):=by simp [oneC,z1t1,y0t]
theorem zkf8 {off n:Nat} {a:Bool} (hl:off+n≤37):zhj0 off n a (.agg (inC x))=oneC n a ((inC x).drop off):=by simp [zhj0,z6gw,hl]
theorem z28g {off n:Nat} {a:Bool} (hl:off+n≤6):zhj0 off n a (.agg (grC g))=oneC n a ((grC g).drop off):=by simp [zhj0,zry4,hl]
theorem z715 {off n:Nat} {a:Bool} (hl:off+n≤3):zhj0 off n a (.agg (clC c))=oneC n a ((clC c).drop off):=by simp [zhj0,zlha,hl]
end
attribute [simp] z1t1 zry4 z6gw zlha zupj z2x3 z4ja ztw5 zfr8 zgz3 zyv0 zm6n zvh3 zmwz z0hu zisq zuce zn7v zuiq zhlv z9em z8ho z3oq zei9 zhtb zxyh zawu zwwo zkf8 z28g z715 z6je zxeb z9kv zy11 zpfc z1vd zcha
theorem zid2 : ∀ {ks1 ks2:List Nat} {a1 a2 b1 b2:List DV},a1.length=ks1.length→b1.length=ks1.length→z32s (ks1++ks2) (a1++a2) (b1++b2)=(z32s ks1 a1 b1).bind fun p=>(z32s ks2 a2 b2).map fun q=>p&&q
 | [],ks2,[],a2,[],b2,_,_=>by simp [z32s]
 | k::ks1,ks2,x::a1,a2,y::b1,b2,h1,h2=>by
  simp only [y0h,z32s,zid2 (ks1:=ks1) (a1:=a1) (b1:=b1) (by simpa using h1) (by simpa using h2)]
  cases znnj k x y<;>simp only [y0p,y0e]
  cases z32s ks1 a1 b1<;>simp only [y0p,y0e,y1c,y0k]
  cases z32s ks2 a2 b2<;>simp only [y1c,y0k,y1g]
theorem zyiz {a b:Dg}:z32s (zi5g [(32,0)]) (dgC a) (dgC b)=some (decide (a=b)):=by
 rw [dgC,dgC,zgre a.2 b.2]
 simp only [Subtype.ext_iff]
theorem zbik {a b c a' b' c':Int}:z32s [0,0,0] [.int .i64 a,.int .i64 b,.int .i64 c] [.int .i64 a',.int .i64 b',.int .i64 c']=some (decide (a=a'∧b=b'∧c=c')):=by
 simp [z32s,znnj]; rfl
theorem z540 {a b a' b':Int}:z32s [0,0] [.int .i64 a,.int .i64 b] [.int .i64 a',.int .i64 b']=some (decide (a=a'∧b=b')):=by
 simp [z32s,znnj]; rfl
theorem zmar {x y:Ins}:z32s (zi5g [(37,0)]) (inC x) (inC y)=some (decide (x=y)):=by
 have e:zi5g [(37,0)]=[0,0]++(zi5g [(32,0)]++[0,0,0]):=by decide
 have e1 : ∀ x:Ins,inC x=[.int .i64 x.id,.int .i64 x.grp]++(dgC x.art++[.int .i64 x.state,.int .i64 x.since,.int .i64 x.den]):=fun _=>rfl
 rw [e,e1,e1,zid2 rfl rfl,zid2 (by simp [z1t1,zi5g]) (by simp [z1t1,zi5g]),zyiz,z540,zbik]
 obtain ⟨a,b,c,d,e,f⟩:=x
 obtain ⟨a',b',c',d',e',f'⟩:=y
 simp only [y0e,y0k,Ins.mk.injEq,Option.some.injEq,Bool.decide_and,y1g]
theorem zii6:List.map w8 (rep 32 0#8)=dgC dg0:=rfl
attribute [simp] zyiz zmar zii6
def ixI {α:Type} (p:α→Bool):List α→Int
 | [] => -1
 | a::l=>if p a=true then 0 else if ixI p l<0 then -1 else ixI p l+1
end
section
set_option linter.unusedSimpArgs false
set_option linter.unusedVariables false
open Go Go.Am
def okCh (l:List Dg):Prop := ∀ i (h:i<l.length),l[i]≠dg0∧l[i] ∉ l.take i
structure ValidG (g:Grp):Prop where
 ns:zj1f g.ns=true
 im:zj1f g.im=true
 w0:0≤g.want
 w1:g.want≤8
 l0:0≤g.least
 l1:g.least≤g.want
 d0:0≤g.down
 d1:g.down≤g.want
 n:g.ch.l.length≤6
 ch:okCh g.ch.l
def fitG (ns im:List UInt8) (g:Grp):Bool:=decide (g.ns=ns)&&decide (g.im=im)
def z9w0 (l:List Grp) (ns im:List UInt8):Int:=ixI (fitG ns im) l
abbrev zcie (t:Int):Prop:=0≤t∧t≤1099511627776
structure SoundI (n:Nat) (next:Int) (x:Ins):Prop where
 id0:1≤x.id
 id1:x.id<next
 g0:0≤x.grp
 g1:x.grp<n
 art:x.art≠dg0
 s0:1≤x.state
 s1:x.state≤3
 si:zcie x.since
 de:x.den = -1∨zcie x.den
structure ValidC (c:Clu):Prop where
 ng:c.g.l.length≤16
 ni:c.i.l.length≤200
 n0:1≤c.next
 n1:c.next≤1099511627776
 g : ∀ i (h:i<c.g.l.length),ValidG c.g.l[i]∧z9w0 c.g.l c.g.l[i].ns c.g.l[i].im=i
 i : ∀ i (h:i<c.i.l.length),SoundI c.g.l.length c.next c.i.l[i]∧(∀ h0:0<i,c.i.l[i-1].id<c.i.l[i].id)
def Sl.clone {α:Type} (x:Sl α):Sl α:=⟨if x.l=[] then x.k.map fun _=>true else some false,x.l,fun e=>by
 by_cases h:x.l=[]
 ·exact h
 ·simp [h] at e,x.b⟩
def own {α:Type} (l:List α):Sl α:=if h:l.length≤4294967296 then ⟨some false,l,by simp,h⟩ else ⟨none,[],fun _=>rfl,by simp⟩
theorem z3e9 {α:Type} {l:List α} (h:l.length≤4294967296):(own l).l=l:=by rw [own,dif_pos h]
theorem zqrs {α:Type} {l:List α} {s:Nat} {f:α→List DV} (h:l.length≤4294967296):(own l).dv s f = .sl false s l.length (l.flatMap f):=by rw [own,dif_pos h]; rfl
def Grp.clone (g:Grp):Grp:={ g with ch:=g.ch.clone }
def Clu.clone (c:Clu):Clu:=⟨⟨c.g.clone.k,c.g.l.map Grp.clone,fun e=>by simp [show c.g.l=[] from c.g.clone.h e],by have:=c.g.b; simpa using this⟩,c.i.clone,c.next⟩
def gl (g:Grp):List UInt8 × List UInt8 × Int × Int × Int × List Dg:=(g.ns,g.im,g.want,g.least,g.down,g.ch.l)
structure SameC (a b:Clu):Prop where
 g:a.g.l.map gl=b.g.l.map gl
 i:a.i.l=b.i.l
 n:a.next=b.next
theorem SameC.refl (a:Clu):SameC a a:=⟨rfl,rfl,rfl⟩
def Ins.st (x:Ins) (v:Int):Ins:=⟨x.id,x.grp,x.art,v,x.since,x.den⟩
def Ins.si (x:Ins) (v:Int):Ins:=⟨x.id,x.grp,x.art,x.state,v,x.den⟩
def Ins.de (x:Ins) (v:Int):Ins:=⟨x.id,x.grp,x.art,x.state,x.since,v⟩
end
section
set_option linter.unusedSimpArgs false
set_option linter.unusedVariables false
open Go Go.Am
noncomputable abbrev P:Program:=Try.prog
theorem mix:P.follows .mixedOrders=true:=by kernel_rfl
def zpik:ACode :=
 (.seq (.region false [⟨none,(some 14),.bin .lss (.t 13) (.t 12)⟩])
 (.seq (.cond (.t 14) .skip
 (.exit 0))
 (.seq (.block 1 (.seq (.region false [⟨none,(some 15),.mov (.t 13)⟩,
  ⟨none,(some 5),.mov (.t 15)⟩])
 (.seq (.region true [⟨none,(some 16),.mov (.t 0)⟩,
  ⟨none,(some 17),.mov (.t 5)⟩,
  ⟨none,(some 18),.idxS 1 (.t 16) (.t 17)⟩,
  ⟨none,(some 19),.load 1 false (.t 18)⟩,
  ⟨none,(some 20),.mov (.t 1)⟩,
  ⟨none,(some 21),.mov (.t 5)⟩,
  ⟨none,(some 22),.idxS 1 (.t 20) (.t 21)⟩,
  ⟨none,(some 23),.load 1 false (.t 22)⟩,
  ⟨none,(some 24),.bin .neq (.t 19) (.t 23)⟩])
 (.cond (.t 24) (.seq (.region false [⟨none,(some 4),.mov (.k (.bool false))⟩])
 .ret)
 .skip))))
 (.region false [⟨none,(some 25),.bin .add (.t 13) (.k (.int .i64 1))⟩,
  ⟨none,(some 13),.mov (.t 25)⟩]))))
def z4rh (x0 x1 x12 x13:DV) (h:List AObj):St:=⟨[x0,x1]++js 10++[x12,x13]++js 12,h⟩
def a29:AFn where
 code:=(.seq (.region false [⟨none,(some 4),.mov (.k (.bool false))⟩])
 (.seq (.seq (.region false [⟨none,(some 6),.mov (.t 0)⟩,
  ⟨none,(some 7),.len (.t 6)⟩,
  ⟨none,(some 8),.mov (.t 1)⟩,
  ⟨none,(some 9),.len (.t 8)⟩,
  ⟨none,(some 10),.bin .neq (.t 7) (.t 9)⟩])
 (.cond (.t 10) (.seq (.region false [⟨none,(some 4),.mov (.k (.bool false))⟩])
 .ret)
 .skip))
 (.seq (.seq (.region false [⟨none,(some 11),.mov (.t 0)⟩,
  ⟨none,(some 12),.len (.t 11)⟩,
  ⟨none,(some 13),.mov (.k (.int .i64 0))⟩])
 (.block 0 (.loop zpik)))
 (.seq (.region false [⟨none,(some 4),.mov (.k (.bool true))⟩])
 .ret))))
 ntmps:=26
 res:=[.tmp 4]
theorem ztig:zsjc P Try.f29=some a29:=by kernel_rfl
def zuys:ACode :=
 (.seq (.region false [⟨none,(some 14),.bin .lss (.t 13) (.t 12)⟩])
 (.seq (.cond (.t 14) .skip
 (.exit 0))
 (.seq (.block 1 (.seq (.region false [⟨none,(some 15),.mov (.t 13)⟩,
  ⟨none,(some 5),.mov (.t 15)⟩])
 (.seq (.region true [⟨none,(some 16),.mov (.t 0)⟩,
  ⟨none,(some 17),.mov (.t 5)⟩,
  ⟨none,(some 18),.idxS 33 (.t 16) (.t 17)⟩,
  ⟨none,(some 19),.load 33 true (.t 18)⟩,
  ⟨none,(some 20),.mov (.t 1)⟩,
  ⟨none,(some 21),.mov (.t 5)⟩,
  ⟨none,(some 22),.idxS 33 (.t 20) (.t 21)⟩,
  ⟨none,(some 23),.load 33 true (.t 22)⟩,
  ⟨none,(some 24),.eqa true [(1,1),(32,0)] (.t 19) (.t 23)⟩])
 (.cond (.t 24) (.seq (.region false [⟨none,(some 4),.mov (.k (.bool false))⟩])
 .ret)
 .skip))))
 (.region false [⟨none,(some 25),.bin .add (.t 13) (.k (.int .i64 1))⟩,
  ⟨none,(some 13),.mov (.t 25)⟩]))))
def zvur (x0 x1 x12 x13:DV) (h:List AObj):St:=⟨[x0,x1]++js 10++[x12,x13]++js 12,h⟩
def a49:AFn where
 code:=(.seq (.region false [⟨none,(some 4),.mov (.k (.bool false))⟩])
 (.seq (.seq (.region false [⟨none,(some 6),.mov (.t 0)⟩,
  ⟨none,(some 7),.len (.t 6)⟩,
  ⟨none,(some 8),.mov (.t 1)⟩,
  ⟨none,(some 9),.len (.t 8)⟩,
  ⟨none,(some 10),.bin .neq (.t 7) (.t 9)⟩])
 (.cond (.t 10) (.seq (.region false [⟨none,(some 4),.mov (.k (.bool false))⟩])
 .ret)
 .skip))
 (.seq (.seq (.region false [⟨none,(some 11),.mov (.t 0)⟩,
  ⟨none,(some 12),.len (.t 11)⟩,
  ⟨none,(some 13),.mov (.k (.int .i64 0))⟩])
 (.block 0 (.loop zuys)))
 (.seq (.region false [⟨none,(some 4),.mov (.k (.bool true))⟩])
 .ret))))
 ntmps:=26
 res:=[.tmp 4]
theorem zdc4:zsjc P Try.f49=some a49:=by kernel_rfl
def a21:AFn where
 code:=(.seq (.region false [⟨none,(some 2),.box (.t 0)⟩,
  ⟨none,(some 3),.box (.t 1)⟩,
  ⟨none,(some 4),.mov (.k (.bool false))⟩])
 (.seq (.region false [⟨none,(some 5),.fld 1 (.t 2)⟩,
  ⟨none,(some 6),.load 1 false (.t 5)⟩,
  ⟨none,(some 7),.fld 1 (.t 3)⟩,
  ⟨none,(some 8),.load 1 false (.t 7)⟩,
  ⟨none,(some 9),.call (.k (.fn (.func 49) [] [])) [(.t 6),(.t 8)]⟩,
  ⟨none,(some 10),.mov (.t 9)⟩,
  ⟨(some (10,true)),(some 11),.fld 2 (.t 2)⟩,
  ⟨(some (10,true)),(some 12),.load 1 false (.t 11)⟩,
  ⟨(some (10,true)),(some 13),.fld 2 (.t 3)⟩,
  ⟨(some (10,true)),(some 14),.load 1 false (.t 13)⟩,
  ⟨(some (10,true)),(some 15),.call (.k (.fn (.func 49) [] [])) [(.t 12),(.t 14)]⟩,
  ⟨none,(some 16),.pick (.t 10) (.t 15) (.k (.bool false))⟩,
  ⟨none,(some 4),.mov (.t 16)⟩])
 .ret))
 ntmps:=17
 res:=[.tmp 4]
theorem zyfb:zsjc P Try.f21=some a21:=by kernel_rfl
def z5oa:ACode :=
 (.seq (.region false [⟨none,(some 9),.bin .lss (.t 8) (.t 7)⟩])
 (.seq (.cond (.t 9) .skip
 (.exit 0))
 (.seq (.block 1 (.seq (.region false [⟨none,(some 10),.mov (.t 8)⟩,
  ⟨none,(some 5),.mov (.t 10)⟩])
 (.seq (.region false [⟨none,(some 11),.mov (.t 1)⟩,
  ⟨none,(some 12),.mov (.t 0)⟩,
  ⟨none,(some 13),.mov (.t 5)⟩,
  ⟨none,(some 14),.idxS 1 (.t 12) (.t 13)⟩,
  ⟨none,(some 15),.load 1 false (.t 14)⟩,
  ⟨none,(some 16),.bin .eql (.t 11) (.t 15)⟩])
 (.cond (.t 16) (.seq (.region false [⟨none,(some 17),.mov (.t 5)⟩,
  ⟨none,(some 4),.mov (.t 17)⟩])
 .ret)
 .skip))))
 (.region false [⟨none,(some 18),.bin .add (.t 8) (.k (.int .i64 1))⟩,
  ⟨none,(some 8),.mov (.t 18)⟩]))))
def zv4w (x0 x1 x7 x8:DV) (h:List AObj):St:=⟨[x0,x1]++js 5++[x7,x8]++js 10,h⟩
def a52:AFn where
 code:=(.seq (.region false [⟨none,(some 4),.mov (.k (.int .i64 0))⟩])
 (.seq (.seq (.region false [⟨none,(some 6),.mov (.t 0)⟩,
  ⟨none,(some 7),.len (.t 6)⟩,
  ⟨none,(some 8),.mov (.k (.int .i64 0))⟩])
 (.block 0 (.loop z5oa)))
 (.seq (.region false [⟨none,(some 4),.mov (.k (.int .i64 (-1)))⟩])
 .ret)))
 ntmps:=19
 res:=[.tmp 4]
theorem zil0:zsjc P Try.f52=some a52:=by kernel_rfl
def a30:AFn where
 code:=(.seq (.region false [⟨none,(some 4),.mov (.k (.bool false))⟩])
 (.seq (.region false [⟨none,(some 5),.mov (.t 0)⟩,
  ⟨none,(some 6),.mov (.t 1)⟩,
  ⟨none,(some 7),.call (.k (.fn (.func 52) [] [])) [(.t 5),(.t 6)]⟩,
  ⟨none,(some 8),.bin .geq (.t 7) (.k (.int .i64 0))⟩,
  ⟨none,(some 4),.mov (.t 8)⟩])
 .ret))
 ntmps:=9
 res:=[.tmp 4]
theorem z3f8:zsjc P Try.f30=some a30:=by kernel_rfl
def a53:AFn where
 code:=(.seq (.region false [⟨none,(some 2),.mov (.k .nils)⟩])
 (.seq (.seq (.region false [⟨none,(some 3),.mov (.t 0)⟩,
  ⟨none,(some 4),.eqn 0 false (.t 3) (.k .nils)⟩])
 (.cond (.t 4) (.seq (.region false [⟨none,(some 2),.mov (.k .nils)⟩])
 .ret)
 .skip))
 (.seq (.region false [⟨none,(some 5),.bsl 1 0 [(.str [])] []⟩,
  ⟨none,(some 6),.mov (.t 0)⟩,
  ⟨none,(some 7),.app 1 16 (.t 5) (.t 6)⟩,
  ⟨none,(some 2),.mov (.t 7)⟩])
 .ret)))
 ntmps:=8
 res:=[.tmp 2]
theorem zq51:zsjc P Try.f53=some a53:=by kernel_rfl
def a54:AFn where
 code:=(.seq (.region false [⟨none,(some 2),.mov (.k .nils)⟩])
 (.seq (.seq (.region false [⟨none,(some 3),.mov (.t 0)⟩,
  ⟨none,(some 4),.eqn 0 false (.t 3) (.k .nils)⟩])
 (.cond (.t 4) (.seq (.region false [⟨none,(some 2),.mov (.k .nils)⟩])
 .ret)
 .skip))
 (.seq (.region false [⟨none,(some 5),.bsl 2 0 [(.str []),(.str [])] []⟩,
  ⟨none,(some 6),.mov (.t 0)⟩,
  ⟨none,(some 7),.app 2 32 (.t 5) (.t 6)⟩,
  ⟨none,(some 2),.mov (.t 7)⟩])
 .ret)))
 ntmps:=8
 res:=[.tmp 2]
theorem zq4q:zsjc P Try.f54=some a54:=by kernel_rfl
def a55:AFn where
 code:=(.seq (.region false [⟨none,(some 2),.mov (.k .nils)⟩])
 (.seq (.seq (.region false [⟨none,(some 3),.mov (.t 0)⟩,
  ⟨none,(some 4),.eqn 0 false (.t 3) (.k .nils)⟩])
 (.cond (.t 4) (.seq (.region false [⟨none,(some 2),.mov (.k .nils)⟩])
 .ret)
 .skip))
 (.seq (.region false [⟨none,(some 5),.bsl 33 0 [(.str []),(w8 0#8),(w8 0#8),(w8 0#8),(w8 0#8),(w8 0#8),(w8 0#8),(w8 0#8),(w8 0#8),(w8 0#8),(w8 0#8),(w8 0#8),(w8 0#8),(w8 0#8),(w8 0#8),(w8 0#8),(w8 0#8),(w8 0#8),(w8 0#8),(w8 0#8),(w8 0#8),(w8 0#8),(w8 0#8),(w8 0#8),(w8 0#8),(w8 0#8),(w8 0#8),(w8 0#8),(w8 0#8),(w8 0#8),(w8 0#8),(w8 0#8),(w8 0#8)] []⟩,
  ⟨none,(some 6),.mov (.t 0)⟩,
  ⟨none,(some 7),.app 33 48 (.t 5) (.t 6)⟩,
  ⟨none,(some 2),.mov (.t 7)⟩])
 .ret)))
 ntmps:=8
 res:=[.tmp 2]
theorem ze8s:zsjc P Try.f55=some a55:=by kernel_rfl
def a31:AFn where
 code:=(.seq (.region false [⟨none,(some 1),.box (.t 0)⟩,
  ⟨none,(some 2),.alloc [(.str []),(.str []),(.str []),(.str []),(.int .i64 0),.nils,.nils,.nils,.nils]⟩])
 (.seq (.region false [⟨none,(some 3),.fld 1 (.t 1)⟩,
  ⟨none,(some 4),.fld 4 (.t 3)⟩,
  ⟨none,(some 5),.load 1 false (.t 4)⟩,
  ⟨none,(some 6),.call (.k (.fn (.func 53) [] [])) [(.t 5)]⟩,
  ⟨none,(some 7),.fld 1 (.t 1)⟩,
  ⟨none,(some 8),.fld 4 (.t 7)⟩,
  ⟨none,none,.store 1 (.t 8) (.t 6)⟩])
 (.seq (.region false [⟨none,(some 9),.fld 1 (.t 1)⟩,
  ⟨none,(some 10),.fld 5 (.t 9)⟩,
  ⟨none,(some 11),.load 1 false (.t 10)⟩,
  ⟨none,(some 12),.call (.k (.fn (.func 54) [] [])) [(.t 11)]⟩,
  ⟨none,(some 13),.fld 1 (.t 1)⟩,
  ⟨none,(some 14),.fld 5 (.t 13)⟩,
  ⟨none,none,.store 1 (.t 14) (.t 12)⟩])
 (.seq (.region false [⟨none,(some 15),.fld 1 (.t 1)⟩,
  ⟨none,(some 16),.fld 6 (.t 15)⟩,
  ⟨none,(some 17),.load 1 false (.t 16)⟩,
  ⟨none,(some 18),.call (.k (.fn (.func 55) [] [])) [(.t 17)]⟩,
  ⟨none,(some 19),.fld 1 (.t 1)⟩,
  ⟨none,(some 20),.fld 6 (.t 19)⟩,
  ⟨none,none,.store 1 (.t 20) (.t 18)⟩])
 (.seq (.region false [⟨none,(some 21),.fld 1 (.t 1)⟩,
  ⟨none,(some 22),.fld 7 (.t 21)⟩,
  ⟨none,(some 23),.load 1 false (.t 22)⟩,
  ⟨none,(some 24),.call (.k (.fn (.func 55) [] [])) [(.t 23)]⟩,
  ⟨none,(some 25),.fld 1 (.t 1)⟩,
  ⟨none,(some 26),.fld 7 (.t 25)⟩,
  ⟨none,none,.store 1 (.t 26) (.t 24)⟩])
 (.seq (.region false [⟨none,(some 27),.load 9 true (.t 1)⟩,
  ⟨none,none,.store 9 (.t 2) (.t 27)⟩])
 .ret))))))
 ntmps:=28
 res:=[.cell 2 9 true]
theorem zjer:zsjc P Try.f31=some a31:=by kernel_rfl
def z382:ACode :=
 (.seq (.region false [⟨none,(some 12),.bin .lss (.t 11) (.t 10)⟩])
 (.seq (.cond (.t 12) .skip
 (.exit 0))
 (.seq (.block 1 (.seq (.region false [⟨none,(some 13),.idxS 9 (.t 9) (.t 11)⟩,
  ⟨none,(some 14),.load 9 true (.t 13)⟩,
  ⟨none,(some 7),.alloc [(.str []),(.str []),(.str []),(.str []),(.int .i64 0),.nils,.nils,.nils,.nils]⟩,
  ⟨none,none,.store 9 (.t 7) (.t 14)⟩])
 (.seq (.region false [⟨none,(some 15),.fld 4 (.t 2)⟩,
  ⟨none,(some 16),.load 1 false (.t 15)⟩,
  ⟨none,(some 17),.len (.t 16)⟩,
  ⟨none,(some 18),.bin .eql (.t 17) (.k (.int .i64 0))⟩,
  ⟨none,(some 19),.mov (.t 18)⟩,
  ⟨(some (19,false)),(some 20),.fld 4 (.t 2)⟩,
  ⟨(some (19,false)),(some 21),.load 1 false (.t 20)⟩,
  ⟨(some (19,false)),(some 22),.fld 1 (.t 7)⟩,
  ⟨(some (19,false)),(some 23),.fld 4 (.t 22)⟩,
  ⟨(some (19,false)),(some 24),.load 1 false (.t 23)⟩,
  ⟨(some (19,false)),(some 25),.call (.k (.fn (.func 29) [] [])) [(.t 21),(.t 24)]⟩,
  ⟨none,(some 26),.pick (.t 19) (.k (.bool true)) (.t 25)⟩,
  ⟨none,(some 8),.mov (.t 26)⟩])
 (.seq (.region false [⟨none,(some 27),.mov (.t 8)⟩,
  ⟨none,(some 28),.mov (.t 27)⟩,
  ⟨(some (28,true)),(some 29),.fld 1 (.t 7)⟩,
  ⟨(some (28,true)),(some 30),.fld 2 (.t 29)⟩,
  ⟨(some (28,true)),(some 31),.load 1 false (.t 30)⟩,
  ⟨(some (28,true)),(some 32),.fld 0 (.t 2)⟩,
  ⟨(some (28,true)),(some 33),.load 1 false (.t 32)⟩,
  ⟨(some (28,true)),(some 34),.bin .eql (.t 31) (.t 33)⟩,
  ⟨none,(some 35),.pick (.t 28) (.t 34) (.k (.bool false))⟩,
  ⟨none,(some 36),.mov (.t 35)⟩,
  ⟨(some (36,true)),(some 37),.fld 3 (.t 2)⟩,
  ⟨(some (36,true)),(some 38),.load 1 false (.t 37)⟩,
  ⟨(some (36,true)),(some 39),.fld 0 (.t 7)⟩,
  ⟨(some (36,true)),(some 40),.load 1 false (.t 39)⟩,
  ⟨(some (36,true)),(some 41),.call (.k (.fn (.func 30) [] [])) [(.t 38),(.t 40)]⟩,
  ⟨none,(some 42),.pick (.t 36) (.t 41) (.k (.bool false))⟩])
 (.cond (.t 42) (.region false [⟨none,(some 43),.mov (.t 5)⟩,
  ⟨none,(some 44),.load 9 true (.t 7)⟩,
  ⟨none,(some 45),.call (.k (.fn (.func 31) [] [])) [(.t 44)]⟩,
  ⟨none,(some 46),.bsl 9 1 [(.str []),(.str []),(.str []),(.str []),(.int .i64 0),.nils,.nils,.nils,.nils] [(0,9,(.t 45))]⟩,
  ⟨none,(some 47),.app 9 168 (.t 43) (.t 46)⟩,
  ⟨none,(some 5),.mov (.t 47)⟩])
 .skip)))))
 (.region false [⟨none,(some 48),.bin .add (.t 11) (.k (.int .i64 1))⟩,
  ⟨none,(some 11),.mov (.t 48)⟩]))))
def z9o7 (x2 x5 x9 x10 x11:DV) (h:List AObj):St:=⟨[.junk,.junk,x2,.junk,.junk,x5,.junk,.junk,.junk,x9,x10,x11]++js 38,h⟩
def a10:AFn where
 code:=(.seq (.region false [⟨none,(some 2),.box (.t 0)⟩,
  ⟨none,(some 4),.mov (.k .nils)⟩])
 (.seq (.region false [⟨none,(some 5),.mov (.k .nils)⟩])
 (.seq (.seq (.region false [⟨none,(some 9),.mov (.t 1)⟩,
  ⟨none,(some 10),.len (.t 9)⟩,
  ⟨none,(some 11),.mov (.k (.int .i64 0))⟩])
 (.block 0 (.loop z382)))
 (.seq (.region false [⟨none,(some 49),.mov (.t 5)⟩,
  ⟨none,(some 4),.mov (.t 49)⟩])
 .ret))))
 ntmps:=50
 res:=[.tmp 4]
theorem z1ee:zsjc P Try.f10=some a10:=by kernel_rfl
end
section
set_option linter.unusedSimpArgs false
set_option linter.unusedVariables false
open Go Go.Am
def a25:AFn where
 code:=(.seq (.region false [⟨none,(some 4),.mov (.k (.int .i64 0))⟩])
 (.seq (.seq (.region false [⟨none,(some 6),.mov (.t 1)⟩,
  ⟨none,(some 7),.bin .lss (.t 6) (.k (.int .i64 1))⟩])
 (.cond (.t 7) (.seq (.region false [⟨none,(some 4),.mov (.k (.int .i64 0))⟩])
 .ret)
 .skip))
 (.seq (.region false [⟨none,(some 8),.mov (.t 0)⟩,
  ⟨none,(some 9),.nilc (.t 8)⟩,
  ⟨none,(some 10),.fld 1 (.t 9)⟩,
  ⟨none,(some 11),.load 1 false (.t 10)⟩,
  ⟨none,(some 12),.bin .mul (.t 11) (.k (.int .i64 7))⟩,
  ⟨none,(some 13),.bin .add (.t 12) (.k (.int .i64 3))⟩,
  ⟨none,(some 5),.mov (.t 13)⟩])
 (.seq (.seq (.region true [⟨none,(some 14),.mov (.t 0)⟩,
  ⟨none,(some 15),.nilc (.t 14)⟩,
  ⟨none,(some 16),.fld 1 (.t 15)⟩,
  ⟨none,(some 17),.load 1 false (.t 16)⟩,
  ⟨none,(some 18),.mov (.t 0)⟩,
  ⟨none,(some 19),.nilc (.t 18)⟩,
  ⟨none,(some 20),.fld 0 (.t 19)⟩,
  ⟨none,(some 21),.load 1 false (.t 20)⟩,
  ⟨none,(some 22),.len (.t 21)⟩,
  ⟨none,(some 23),.bin .lss (.t 17) (.t 22)⟩])
 (.cond (.t 23) (.region true [⟨none,(some 24),.mov (.t 0)⟩,
  ⟨none,(some 25),.nilc (.t 24)⟩,
  ⟨none,(some 26),.fld 0 (.t 25)⟩,
  ⟨none,(some 27),.load 1 false (.t 26)⟩,
  ⟨none,(some 28),.mov (.t 0)⟩,
  ⟨none,(some 29),.nilc (.t 28)⟩,
  ⟨none,(some 30),.fld 1 (.t 29)⟩,
  ⟨none,(some 31),.load 1 false (.t 30)⟩,
  ⟨none,(some 32),.idxS 1 (.t 27) (.t 31)⟩,
  ⟨none,(some 33),.load 1 false (.t 32)⟩,
  ⟨none,(some 5),.mov (.t 33)⟩])
 .skip))
 (.seq (.region false [⟨none,(some 34),.mov (.t 0)⟩,
  ⟨none,(some 35),.nilc (.t 34)⟩,
  ⟨none,(some 36),.fld 1 (.t 35)⟩,
  ⟨none,(some 37),.load 1 false (.t 36)⟩,
  ⟨none,(some 38),.bin .add (.t 37) (.k (.int .i64 1))⟩,
  ⟨none,(some 39),.nilc (.t 34)⟩,
  ⟨none,(some 40),.fld 1 (.t 39)⟩,
  ⟨none,none,.store 1 (.t 40) (.t 38)⟩])
 (.seq (.region false [⟨none,(some 41),.mov (.t 5)⟩,
  ⟨none,(some 42),.mov (.t 1)⟩,
  ⟨none,(some 43),.bin .rem (.t 41) (.t 42)⟩,
  ⟨none,(some 44),.mov (.t 1)⟩,
  ⟨none,(some 45),.bin .add (.t 43) (.t 44)⟩,
  ⟨none,(some 46),.mov (.t 1)⟩,
  ⟨none,(some 47),.bin .rem (.t 45) (.t 46)⟩,
  ⟨none,(some 4),.mov (.t 47)⟩])
 .ret))))))
 ntmps:=48
 res:=[.tmp 4]
theorem zgum:zsjc P Try.f25=some a25:=by kernel_rfl
def a27:AFn where
 code:=(.seq (.region false [⟨none,(some 4),.mov (.k (.str []))⟩])
 (.seq (.region false [⟨none,(some 5),.mov (.t 1)⟩,
  ⟨none,(some 6),.mov (.t 0)⟩,
  ⟨none,(some 7),.mov (.t 1)⟩,
  ⟨none,(some 8),.len (.t 7)⟩,
  ⟨none,(some 9),.call (.k (.fn (.func 25) [] [])) [(.t 6),(.t 8)]⟩,
  ⟨none,(some 10),.idxS 1 (.t 5) (.t 9)⟩,
  ⟨none,(some 11),.load 1 false (.t 10)⟩,
  ⟨none,(some 4),.mov (.t 11)⟩])
 .ret))
 ntmps:=12
 res:=[.tmp 4]
theorem z3hx:zsjc P Try.f27=some a27:=by kernel_rfl
def a69:AFn where
 code:=(.seq (.region false [⟨none,(some 2),.alloc (rep 32 (w8 0#8))⟩])
 (.seq (.region false [⟨none,(some 3),.mov (.t 0)⟩,
  ⟨none,(some 4),.call (.k (.fn (.func 25) [] [])) [(.t 3),(.k (.int .i64 6))]⟩,
  ⟨none,(some 5),.bin .add (.k (.int .i64 1)) (.t 4)⟩,
  ⟨none,(some 6),.conv .u8 (.t 5)⟩,
  ⟨none,(some 7),.build (rep 32 (w8 0#8)) [(0,1,(.t 6))]⟩,
  ⟨none,none,.store 32 (.t 2) (.t 7)⟩])
 .ret))
 ntmps:=8
 res:=[.cell 2 32 true]
theorem z713:zsjc P Try.f69=some a69:=by kernel_rfl
end
section
set_option linter.unusedSimpArgs false
set_option linter.unusedVariables false
open Go Go.Am
section
variable {α β:Type} {lt:α→α→Bool}
def insR (lt:α→α→Bool) (x:α) (l:List α):List α:=(l.reverse.dropWhile (lt x)).reverse++x::(l.reverse.takeWhile (lt x)).reverse
def zq4g (lt:α→α→Bool) (l:List α):List α:=l.foldl (fun a x=>insR lt x a) []
theorem zv9v {x:α} {A B:List α} (hB : ∀ b ∈ B,lt x b=true) (hA:A=[] ∨ ∃ (A':List α) (y:α),A=A'++[y]∧lt x y=false):insR lt x (A++B)=A++x::B:=by
 unfold insR
 have hB' : ∀ b ∈ B.reverse,lt x b=true:=fun b hb=>hB b (y0u.1 hb)
 rw [y0r]
 rw [List.dropWhile_append_of_pos hB',List.takeWhile_append_of_pos hB']
 rcases hA with rfl|⟨A',y,rfl,hy⟩
 ·simp
 ·simp [y0c,y0g,hy]
theorem zcx2 {x:α} {l:List α}:(insR lt x l).Perm (x::l):=by
 unfold insR
 refine List.perm_middle.trans (List.Perm.cons x ?_)
 rw [← y0r,y07]
 simp
theorem zuk7 {l:List α} {x:α}:zq4g lt (l++[x])=insR lt x (zq4g lt l):=by simp [zq4g]
theorem z77f {P:List α→Prop} (h0:P []) (h1 : ∀ l x,P l→P (l++[x])) : ∀ l,P l:=by
 intro l
 rw [← y0w l]
 induction l.reverse with
 | nil=>exact h0
 | cons a r ih=>rw [y11]; exact h1 _ _ ih
theorem zo43 (l:List α):(zq4g lt l).Perm l:=by
 induction l using z77f with
 | h0=>exact List.Perm.refl _
 | h1 l x ih =>
  rw [zuk7]
  refine zcx2.trans ((List.Perm.cons x ih).trans ?_)
  exact (List.perm_append_comm (l₁:=[x]) (l₂:=l))
theorem z0ct {f:α→β} {p:β→Bool} {q:α→Bool} : ∀ {l:List α},(∀ y ∈ l,p (f y)=q y)→(l.map f).takeWhile p=(l.takeWhile q).map f∧(l.map f).dropWhile p=(l.dropWhile q).map f
 | [],_=>⟨rfl,rfl⟩
 | a::l,h=>by
  have ih:=z0ct (l:=l) (fun y hy=>h y (by simp [hy]))
  have ha:=h a (by simp)
  rw [y04,y0g,y0c,y0g,y0c,ha]
  cases q a<;>simp [ih.1,ih.2]
theorem z25o {f:α→β} {lt':β→β→Bool} {x:α} {l:List α} (h : ∀ y ∈ l,lt' (f x) (f y)=lt x y):insR lt' (f x) (l.map f)=(insR lt x l).map f:=by
 unfold insR
 have:=z0ct (f:=f) (p:=lt' (f x)) (q:=lt x) (l:=l.reverse) (fun y hy=>h y (y0u.1 hy))
 rw [← List.map_reverse,this.1,this.2]
 simp
theorem zmcs {f:α→β} {lt':β→β→Bool} : ∀ {l:List α},l.Pairwise (fun y x=>lt' (f x) (f y)=lt x y)→zq4g lt' (l.map f)=(zq4g lt l).map f:=by
 intro l
 induction l using z77f with
 | h0=>intro _; rfl
 | h1 l x ih =>
  intro h
  rw [y05] at h
  obtain ⟨h1,_,h3⟩:=h
  rw [y0d,y04,y0n,zuk7,zuk7,ih h1]
  exact z25o fun y hy=>h3 y ((zo43 l).mem_iff.1 hy) x (by simp)
theorem zwbv {p:α→Bool} : ∀ {l:List α},l.dropWhile p=[] ∨ ∃ y r,l.dropWhile p=y::r∧p y=false
 | [] => .inl rfl
 | a::l=>by
  rw [y0c]
  cases h:p a with
  | true=>exact zwbv
  | false=>exact .inr ⟨a,l,rfl,h⟩
theorem zeqt {p:α→Bool} : ∀ {l:List α},∀ b ∈ l.takeWhile p,p b=true
 | [],b,h=>by simp at h
 | a::l,b,h=>by
  rw [y0g] at h
  cases ha:p a with
  | true =>
   rw [ha,if_pos rfl] at h
   rcases y01.1 h with rfl|h
   ·exact ha
   ·exact zeqt b h
  | false=>rw [ha] at h; simp at h
theorem zyus (x:α) (l:List α) : ∃ A B,l=A++B∧insR lt x l=A++x::B∧(∀ b ∈ B,lt x b=true)∧(A=[] ∨ ∃ (A':List α) (y:α),A=A'++[y]∧lt x y=false):=by
 refine ⟨(l.reverse.dropWhile (lt x)).reverse,(l.reverse.takeWhile (lt x)).reverse,?_,rfl,fun b hb=>zeqt b (y0u.1 hb),?_⟩
 ·rw [← y0r,y07,y0w]
 ·rcases zwbv (p:=lt x) (l:=l.reverse) with h|⟨y,r,h,hy⟩
  ·exact .inl (by rw [h]; rfl)
  ·exact .inr ⟨r.reverse,y,by rw [h,y11],hy⟩
end
structure GoodI (l:List Ins):Prop where
 s : ∀ x ∈ l,1≤x.state∧x.state≤3 ∧ -1≤x.den
 d:l.Pairwise (fun x y=>x.id<y.id)
end
section
set_option linter.unusedSimpArgs false
set_option linter.unusedVariables false
open Go Go.Am
def zx0e:ACode :=
 (.seq (.region false [⟨none,(some 12),.bin .lss (.t 11) (.t 10)⟩])
 (.seq (.cond (.t 12) .skip
 (.exit 0))
 (.seq (.block 1 (.seq (.region false [⟨none,(some 13),.idxS 4 (.t 9) (.t 11)⟩,
  ⟨none,(some 14),.load 4 true (.t 13)⟩,
  ⟨none,(some 7),.alloc [(.str []),(.str []),.nils,.nils]⟩,
  ⟨none,none,.store 4 (.t 7) (.t 14)⟩])
 (.seq (.region false [⟨none,(some 15),.mov (.t 5)⟩,
  ⟨none,(some 16),.mkf (.func 57) [] [(.t 3),(.t 7)]⟩,
  ⟨none,(some 17),.call (.k (.fn (.func 56) [] [])) [(.t 15),(.t 16)]⟩,
  ⟨none,(some 8),.mov (.t 17)⟩])
 (.seq (.region false [⟨none,(some 18),.mov (.t 8)⟩,
  ⟨none,(some 19),.bin .lss (.t 18) (.k (.int .i64 0))⟩])
 (.cond (.t 19) (.region false [⟨none,(some 20),.mov (.t 5)⟩,
  ⟨none,(some 21),.load 4 true (.t 7)⟩,
  ⟨none,(some 22),.bsl 4 1 [(.str []),(.str []),.nils,.nils] [(0,4,(.t 21))]⟩,
  ⟨none,(some 23),.bsl 1 1 [.nils] [(0,1,(.t 22))]⟩,
  ⟨none,(some 24),.app 1 24 (.t 20) (.t 23)⟩,
  ⟨none,(some 5),.mov (.t 24)⟩])
 (.region true [⟨none,(some 25),.mov (.t 5)⟩,
  ⟨none,(some 26),.mov (.t 8)⟩,
  ⟨none,(some 27),.mov (.t 5)⟩,
  ⟨none,(some 28),.mov (.t 8)⟩,
  ⟨none,(some 29),.idxS 1 (.t 27) (.t 28)⟩,
  ⟨none,(some 30),.load 1 false (.t 29)⟩,
  ⟨none,(some 31),.load 4 true (.t 7)⟩,
  ⟨none,(some 32),.bsl 4 1 [(.str []),(.str []),.nils,.nils] [(0,4,(.t 31))]⟩,
  ⟨none,(some 33),.app 4 80 (.t 30) (.t 32)⟩,
  ⟨none,(some 34),.idxS 1 (.t 25) (.t 26)⟩,
  ⟨none,none,.store 1 (.t 34) (.t 33)⟩]))))))
 (.region false [⟨none,(some 35),.bin .add (.t 11) (.k (.int .i64 1))⟩,
  ⟨none,(some 11),.mov (.t 35)⟩]))))
def z8ja (x3 x5 x9 x10 x11:DV) (h:List AObj):St:=⟨[.junk,.junk,.junk,x3,.junk,x5,.junk,.junk,.junk,x9,x10,x11]++js 25,h⟩
def a32:AFn where
 code:=(.seq (.region false [⟨none,(some 3),.box (.t 1)⟩,
  ⟨none,(some 4),.mov (.k .nils)⟩])
 (.seq (.region false [⟨none,(some 5),.mov (.k .nils)⟩])
 (.seq (.seq (.region false [⟨none,(some 9),.mov (.t 0)⟩,
  ⟨none,(some 10),.len (.t 9)⟩,
  ⟨none,(some 11),.mov (.k (.int .i64 0))⟩])
 (.block 0 (.loop zx0e)))
 (.seq (.region false [⟨none,(some 36),.mov (.t 5)⟩,
  ⟨none,(some 4),.mov (.t 36)⟩])
 .ret))))
 ntmps:=37
 res:=[.tmp 4]
theorem zvrg:zsjc P Try.f32=some a32:=by kernel_rfl
def a57:AFn where
 code:=(.seq (.region false [⟨none,(some 4),.mov (.k (.bool false))⟩])
 (.seq (.region true [⟨none,(some 5),.load 1 false (.t 1)⟩,
  ⟨none,(some 6),.mov (.t 0)⟩,
  ⟨none,(some 7),.idxS 4 (.t 6) (.k (.int .i64 0))⟩,
  ⟨none,(some 8),.load 4 true (.t 7)⟩,
  ⟨none,(some 9),.load 4 true (.t 2)⟩,
  ⟨none,(some 10),.callN (.t 5) [(.t 8),(.t 9)]⟩,
  ⟨none,(some 4),.mov (.t 10)⟩])
 .ret))
 ntmps:=11
 res:=[.tmp 4]
theorem zfce:zsjc P Try.f57=some a57:=by kernel_rfl
def zvgs:ACode :=
 (.seq (.region false [⟨none,(some 9),.bin .lss (.t 8) (.t 7)⟩])
 (.seq (.cond (.t 9) .skip
 (.exit 0))
 (.seq (.block 1 (.seq (.region false [⟨none,(some 10),.mov (.t 8)⟩,
  ⟨none,(some 5),.mov (.t 10)⟩])
 (.seq (.region false [⟨none,(some 11),.mov (.t 1)⟩,
  ⟨none,(some 12),.mov (.t 0)⟩,
  ⟨none,(some 13),.mov (.t 5)⟩,
  ⟨none,(some 14),.idxS 1 (.t 12) (.t 13)⟩,
  ⟨none,(some 15),.load 1 false (.t 14)⟩,
  ⟨none,(some 16),.call (.t 11) [(.t 15)]⟩])
 (.cond (.t 16) (.seq (.region false [⟨none,(some 17),.mov (.t 5)⟩,
  ⟨none,(some 4),.mov (.t 17)⟩])
 .ret)
 .skip))))
 (.region false [⟨none,(some 18),.bin .add (.t 8) (.k (.int .i64 1))⟩,
  ⟨none,(some 8),.mov (.t 18)⟩]))))
def zax8 (x0 x1 x7 x8:DV) (h:List AObj):St:=⟨[x0,x1]++js 5++[x7,x8]++js 10,h⟩
def a56:AFn where
 code:=(.seq (.region false [⟨none,(some 4),.mov (.k (.int .i64 0))⟩])
 (.seq (.seq (.region false [⟨none,(some 6),.mov (.t 0)⟩,
  ⟨none,(some 7),.len (.t 6)⟩,
  ⟨none,(some 8),.mov (.k (.int .i64 0))⟩])
 (.block 0 (.loop zvgs)))
 (.seq (.region false [⟨none,(some 4),.mov (.k (.int .i64 (-1)))⟩])
 .ret)))
 ntmps:=19
 res:=[.tmp 4]
theorem zcwb:zsjc P Try.f56=some a56:=by kernel_rfl
def a59:AFn where
 code:=(.seq (.region false [⟨none,(some 2),.box (.t 0)⟩,
  ⟨none,(some 3),.box (.t 1)⟩,
  ⟨none,(some 4),.mov (.k (.int .i64 0))⟩])
 (.seq (.region false [⟨none,(some 5),.fld 0 (.t 2)⟩,
  ⟨none,(some 6),.load 1 false (.t 5)⟩,
  ⟨none,(some 7),.fld 0 (.t 3)⟩,
  ⟨none,(some 8),.load 1 false (.t 7)⟩,
  ⟨none,(some 9),.call (.k (.fn (.func 60) [] [])) [(.t 6),(.t 8)]⟩,
  ⟨none,(some 4),.mov (.t 9)⟩])
 .ret))
 ntmps:=10
 res:=[.tmp 4]
theorem zwsz:zsjc P Try.f59=some a59:=by kernel_rfl
def a60:AFn where
 code:=(.seq (.region false [⟨none,(some 4),.mov (.k (.int .i64 0))⟩])
 (.seq (.region false [⟨none,(some 7),.mov (.t 0)⟩,
  ⟨none,(some 8),.call (.k (.fn (.func 71) [] [])) [(.t 7)]⟩,
  ⟨none,(some 5),.mov (.t 8)⟩])
 (.seq (.region false [⟨none,(some 9),.mov (.t 1)⟩,
  ⟨none,(some 10),.call (.k (.fn (.func 71) [] [])) [(.t 9)]⟩,
  ⟨none,(some 6),.mov (.t 10)⟩])
 (.seq (.seq (.region false [⟨none,(some 11),.mov (.t 5)⟩])
 (.cond (.t 11) (.seq (.seq (.region false [⟨none,(some 12),.mov (.t 6)⟩])
 (.cond (.t 12) (.seq (.region false [⟨none,(some 4),.mov (.k (.int .i64 0))⟩])
 .ret)
 .skip))
 (.seq (.region false [⟨none,(some 4),.mov (.k (.int .i64 (-1)))⟩])
 .ret))
 .skip))
 (.seq (.seq (.region false [⟨none,(some 13),.mov (.t 6)⟩])
 (.cond (.t 13) (.seq (.region false [⟨none,(some 4),.mov (.k (.int .i64 1))⟩])
 .ret)
 .skip))
 (.seq (.seq (.region false [⟨none,(some 14),.mov (.t 0)⟩,
  ⟨none,(some 15),.mov (.t 1)⟩,
  ⟨none,(some 16),.bin .lss (.t 14) (.t 15)⟩])
 (.cond (.t 16) (.seq (.region false [⟨none,(some 4),.mov (.k (.int .i64 (-1)))⟩])
 .ret)
 .skip))
 (.seq (.seq (.region false [⟨none,(some 17),.mov (.t 0)⟩,
  ⟨none,(some 18),.mov (.t 1)⟩,
  ⟨none,(some 19),.bin .gtr (.t 17) (.t 18)⟩])
 (.cond (.t 19) (.seq (.region false [⟨none,(some 4),.mov (.k (.int .i64 1))⟩])
 .ret)
 .skip))
 (.seq (.region false [⟨none,(some 4),.mov (.k (.int .i64 0))⟩])
 .ret))))))))
 ntmps:=20
 res:=[.tmp 4]
theorem z6e9:zsjc P Try.f60=some a60:=by kernel_rfl
def a71:AFn where
 code:=(.seq (.region false [⟨none,(some 2),.mov (.k (.bool false))⟩])
 (.seq (.region false [⟨none,(some 3),.mov (.t 0)⟩,
  ⟨none,(some 4),.mov (.t 0)⟩,
  ⟨none,(some 5),.bin .neq (.t 3) (.t 4)⟩,
  ⟨none,(some 2),.mov (.t 5)⟩])
 .ret))
 ntmps:=6
 res:=[.tmp 2]
theorem zbtg:zsjc P Try.f71=some a71:=by kernel_rfl
def zzeu:ACode :=
 (.seq (.seq (.region true [⟨none,(some 18),.mov (.t 9)⟩,
  ⟨none,(some 19),.mov (.t 1)⟩,
  ⟨none,(some 20),.bin .gtr (.t 18) (.t 19)⟩,
  ⟨none,(some 21),.mov (.t 20)⟩,
  ⟨(some (21,true)),(some 22),.mov (.t 3)⟩,
  ⟨(some (21,true)),(some 23),.mov (.t 0)⟩,
  ⟨(some (21,true)),(some 24),.mov (.t 9)⟩,
  ⟨(some (21,true)),(some 25),.idxS 4 (.t 23) (.t 24)⟩,
  ⟨(some (21,true)),(some 26),.load 4 true (.t 25)⟩,
  ⟨(some (21,true)),(some 27),.mov (.t 0)⟩,
  ⟨(some (21,true)),(some 28),.mov (.t 9)⟩,
  ⟨(some (21,true)),(some 29),.bin .sub (.t 28) (.k (.int .i64 1))⟩,
  ⟨(some (21,true)),(some 30),.idxS 4 (.t 27) (.t 29)⟩,
  ⟨(some (21,true)),(some 31),.load 4 true (.t 30)⟩,
  ⟨(some (21,true)),(some 32),.callN (.t 22) [(.t 26),(.t 31)]⟩,
  ⟨(some (21,true)),(some 33),.bin .lss (.t 32) (.k (.int .i64 0))⟩,
  ⟨none,(some 34),.pick (.t 21) (.t 33) (.k (.bool false))⟩])
 (.cond (.t 34) .skip
 (.exit 2)))
 (.seq (.block 3 (.region true [⟨none,(some 37),.mov (.t 0)⟩,
  ⟨none,(some 38),.mov (.t 9)⟩,
  ⟨none,(some 39),.mov (.t 0)⟩,
  ⟨none,(some 40),.mov (.t 9)⟩,
  ⟨none,(some 41),.bin .sub (.t 40) (.k (.int .i64 1))⟩,
  ⟨none,(some 42),.mov (.t 0)⟩,
  ⟨none,(some 43),.mov (.t 9)⟩,
  ⟨none,(some 44),.bin .sub (.t 43) (.k (.int .i64 1))⟩,
  ⟨none,(some 45),.idxS 4 (.t 42) (.t 44)⟩,
  ⟨none,(some 46),.load 4 true (.t 45)⟩,
  ⟨none,(some 47),.mov (.t 0)⟩,
  ⟨none,(some 48),.mov (.t 9)⟩,
  ⟨none,(some 49),.idxS 4 (.t 47) (.t 48)⟩,
  ⟨none,(some 50),.load 4 true (.t 49)⟩,
  ⟨none,(some 51),.idxS 4 (.t 37) (.t 38)⟩,
  ⟨none,none,.store 4 (.t 51) (.t 46)⟩,
  ⟨none,(some 52),.idxS 4 (.t 39) (.t 41)⟩,
  ⟨none,none,.store 4 (.t 52) (.t 50)⟩]))
 (.region false [⟨none,(some 35),.mov (.t 9)⟩,
  ⟨none,(some 36),.bin .sub (.t 35) (.k (.int .i64 1))⟩,
  ⟨none,(some 9),.mov (.t 36)⟩])))
def z5h4 (x0 x1 x2 x3 x8 x9:DV) (h:List AObj):St:=⟨[x0,x1,x2,x3]++js 4++[x8,x9]++js 43,h⟩
def zndk:ACode :=
 (.seq (.seq (.region false [⟨none,(some 12),.mov (.t 8)⟩,
  ⟨none,(some 13),.mov (.t 2)⟩,
  ⟨none,(some 14),.bin .lss (.t 12) (.t 13)⟩])
 (.cond (.t 14) .skip
 (.exit 0)))
 (.seq (.block 1 (.seq (.region false [⟨none,(some 17),.mov (.t 8)⟩,
  ⟨none,(some 9),.mov (.t 17)⟩])
 (.block 2 (.loop zzeu))))
 (.region false [⟨none,(some 15),.mov (.t 8)⟩,
  ⟨none,(some 16),.bin .add (.t 15) (.k (.int .i64 1))⟩,
  ⟨none,(some 8),.mov (.t 16)⟩])))
def zkbr (x0 x1 x2 x3 x8:DV) (h:List AObj):St:=⟨[x0,x1,x2,x3]++js 4++[x8]++js 44,h⟩
def a74:AFn where
 code:=(.seq (.region false [⟨none,(some 10),.mov (.t 1)⟩,
  ⟨none,(some 11),.bin .add (.t 10) (.k (.int .i64 1))⟩,
  ⟨none,(some 8),.mov (.t 11)⟩])
 (.block 0 (.loop zndk)))
 ntmps:=53
 res:=[]
theorem z26r:zsjc P Try.f74=some a74:=by kernel_rfl
def z3a0:ACode :=
 (.seq (.seq (.region false [⟨none,(some 11),.mov (.t 8)⟩,
  ⟨none,(some 12),.mov (.t 1)⟩,
  ⟨none,(some 13),.bin .leq (.t 11) (.t 12)⟩])
 (.cond (.t 13) .skip
 (.exit 0)))
 (.block 1 (.seq (.region false [⟨none,(some 14),.mov (.t 0)⟩,
  ⟨none,(some 15),.mov (.t 7)⟩,
  ⟨none,(some 16),.mov (.t 8)⟩,
  ⟨none,(some 17),.mov (.t 2)⟩,
  ⟨none,(some 18),.call (.k (.fn (.func 74) [] [])) [(.t 14),(.t 15),(.t 16),(.t 17)]⟩])
 (.seq (.region false [⟨none,(some 19),.mov (.t 8)⟩,
  ⟨none,(some 7),.mov (.t 19)⟩])
 (.region false [⟨none,(some 20),.mov (.t 8)⟩,
  ⟨none,(some 21),.mov (.t 6)⟩,
  ⟨none,(some 22),.bin .add (.t 20) (.t 21)⟩,
  ⟨none,(some 8),.mov (.t 22)⟩])))))
def ziom (x0 x1 x2 x6 x7 x8:DV) (h:List AObj):St:=⟨[x0,x1,x2,.junk,.junk,.junk,x6,x7,x8]++js 54,h⟩
def zrcs:ACode :=
 (.seq (.seq (.region false [⟨none,(some 33),.mov (.t 8)⟩,
  ⟨none,(some 34),.mov (.t 1)⟩,
  ⟨none,(some 35),.bin .leq (.t 33) (.t 34)⟩])
 (.cond (.t 35) .skip
 (.exit 4)))
 (.block 5 (.seq (.region false [⟨none,(some 36),.mov (.t 0)⟩,
  ⟨none,(some 37),.mov (.t 7)⟩,
  ⟨none,(some 38),.mov (.t 7)⟩,
  ⟨none,(some 39),.mov (.t 6)⟩,
  ⟨none,(some 40),.bin .add (.t 38) (.t 39)⟩,
  ⟨none,(some 41),.mov (.t 8)⟩,
  ⟨none,(some 42),.mov (.t 2)⟩,
  ⟨none,(some 43),.call (.k (.fn (.func 75) [] [])) [(.t 36),(.t 37),(.t 40),(.t 41),(.t 42)]⟩])
 (.seq (.region false [⟨none,(some 44),.mov (.t 8)⟩,
  ⟨none,(some 7),.mov (.t 44)⟩])
 (.region false [⟨none,(some 45),.mov (.t 8)⟩,
  ⟨none,(some 46),.mov (.t 6)⟩,
  ⟨none,(some 47),.bin .mul (.k (.int .i64 2)) (.t 46)⟩,
  ⟨none,(some 48),.bin .add (.t 45) (.t 47)⟩,
  ⟨none,(some 8),.mov (.t 48)⟩])))))
def zhuc:ACode :=
 (.seq (.seq (.region false [⟨none,(some 28),.mov (.t 6)⟩,
  ⟨none,(some 29),.mov (.t 1)⟩,
  ⟨none,(some 30),.bin .lss (.t 28) (.t 29)⟩])
 (.cond (.t 30) .skip
 (.exit 2)))
 (.block 3 (.seq (.region false [⟨none,(some 31),.mov (.t 6)⟩,
  ⟨none,(some 32),.bin .mul (.k (.int .i64 2)) (.t 31)⟩,
  ⟨none,(some 7),.mov (.k (.int .i64 0))⟩,
  ⟨none,(some 8),.mov (.t 32)⟩])
 (.seq (.block 4 (.loop zrcs))
 (.seq (.seq (.region false [⟨none,(some 49),.mov (.t 7)⟩,
  ⟨none,(some 50),.mov (.t 6)⟩,
  ⟨none,(some 51),.bin .add (.t 49) (.t 50)⟩,
  ⟨none,(some 9),.mov (.t 51)⟩])
 (.seq (.region false [⟨none,(some 52),.mov (.t 9)⟩,
  ⟨none,(some 53),.mov (.t 1)⟩,
  ⟨none,(some 54),.bin .lss (.t 52) (.t 53)⟩])
 (.cond (.t 54) (.region false [⟨none,(some 55),.mov (.t 0)⟩,
  ⟨none,(some 56),.mov (.t 7)⟩,
  ⟨none,(some 57),.mov (.t 9)⟩,
  ⟨none,(some 58),.mov (.t 1)⟩,
  ⟨none,(some 59),.mov (.t 2)⟩,
  ⟨none,(some 60),.call (.k (.fn (.func 75) [] [])) [(.t 55),(.t 56),(.t 57),(.t 58),(.t 59)]⟩])
 .skip)))
 (.region false [⟨none,(some 61),.mov (.t 6)⟩,
  ⟨none,(some 62),.bin .mul (.t 61) (.k (.int .i64 2))⟩,
  ⟨none,(some 6),.mov (.t 62)⟩]))))))
def z861 (x0 x1 x2 x6:DV) (h:List AObj):St:=⟨[x0,x1,x2,.junk,.junk,.junk,x6]++js 56,h⟩
def a70:AFn where
 code:=(.seq (.region false [⟨none,(some 6),.mov (.k (.int .i64 20))⟩])
 (.seq (.region false [⟨none,(some 10),.mov (.t 6)⟩,
  ⟨none,(some 7),.mov (.k (.int .i64 0))⟩,
  ⟨none,(some 8),.mov (.t 10)⟩])
 (.seq (.block 0 (.loop z3a0))
 (.seq (.region false [⟨none,(some 23),.mov (.t 0)⟩,
  ⟨none,(some 24),.mov (.t 7)⟩,
  ⟨none,(some 25),.mov (.t 1)⟩,
  ⟨none,(some 26),.mov (.t 2)⟩,
  ⟨none,(some 27),.call (.k (.fn (.func 74) [] [])) [(.t 23),(.t 24),(.t 25),(.t 26)]⟩])
 (.block 2 (.loop zhuc))))))
 ntmps:=63
 res:=[]
theorem zhcw:zsjc P Try.f70=some a70:=by kernel_rfl
def a58:AFn where
 code:=(.region false [⟨none,(some 4),.mov (.t 0)⟩,
  ⟨none,(some 5),.mov (.t 0)⟩,
  ⟨none,(some 6),.len (.t 5)⟩,
  ⟨none,(some 7),.mov (.t 1)⟩,
  ⟨none,(some 8),.call (.k (.fn (.func 70) [] [])) [(.t 4),(.t 6),(.t 7)]⟩])
 ntmps:=9
 res:=[]
theorem zt5h:zsjc P Try.f58=some a58:=by kernel_rfl
def zcr2:ACode :=
 (.seq (.region false [⟨none,(some 13),.bin .lss (.t 12) (.t 11)⟩])
 (.seq (.cond (.t 13) .skip
 (.exit 0))
 (.seq (.block 1 (.seq (.region false [⟨none,(some 14),.idxS 9 (.t 10) (.t 12)⟩,
  ⟨none,(some 15),.load 9 true (.t 14)⟩,
  ⟨none,(some 7),.alloc [(.str []),(.str []),(.str []),(.str []),(.int .i64 0),.nils,.nils,.nils,.nils]⟩,
  ⟨none,none,.store 9 (.t 7) (.t 15)⟩])
 (.region false [⟨none,(some 16),.mov (.t 5)⟩,
  ⟨none,(some 17),.fld 0 (.t 7)⟩,
  ⟨none,(some 18),.load 1 false (.t 17)⟩,
  ⟨none,(some 19),.fld 0 (.t 2)⟩,
  ⟨none,(some 20),.load 1 false (.t 19)⟩,
  ⟨none,(some 21),.fld 1 (.t 7)⟩,
  ⟨none,(some 22),.fld 6 (.t 21)⟩,
  ⟨none,(some 23),.load 1 false (.t 22)⟩,
  ⟨none,(some 24),.fld 1 (.t 7)⟩,
  ⟨none,(some 25),.fld 7 (.t 24)⟩,
  ⟨none,(some 26),.load 1 false (.t 25)⟩,
  ⟨none,(some 27),.build [(.str []),.nils,.nils] [(0,1,(.t 20)),(1,1,(.t 23)),(2,1,(.t 26))]⟩,
  ⟨none,(some 28),.build [(.str []),(.str []),.nils,.nils] [(0,1,(.t 18)),(1,3,(.t 27))]⟩,
  ⟨none,(some 29),.bsl 4 1 [(.str []),(.str []),.nils,.nils] [(0,4,(.t 28))]⟩,
  ⟨none,(some 30),.app 4 80 (.t 16) (.t 29)⟩,
  ⟨none,(some 5),.mov (.t 30)⟩])))
 (.region false [⟨none,(some 31),.bin .add (.t 12) (.k (.int .i64 1))⟩,
  ⟨none,(some 12),.mov (.t 31)⟩]))))
def z3id (x2 x5 x10 x11 x12:DV) (h:List AObj):St:=⟨[.junk,.junk,x2,.junk,.junk,x5]++js 4++[x10,x11,x12]++js 22,h⟩
def a33:AFn where
 code:=(.seq (.region false [⟨none,(some 2),.box (.t 0)⟩,
  ⟨none,(some 4),.mov (.k .nils)⟩])
 (.seq (.region false [⟨none,(some 5),.mov (.k .nils)⟩])
 (.seq (.seq (.region false [⟨none,(some 8),.load 7 true (.t 2)⟩,
  ⟨none,(some 9),.mov (.t 1)⟩,
  ⟨none,(some 10),.call (.k (.fn (.func 10) [] [])) [(.t 8),(.t 9)]⟩,
  ⟨none,(some 11),.len (.t 10)⟩,
  ⟨none,(some 12),.mov (.k (.int .i64 0))⟩])
 (.block 0 (.loop zcr2)))
 (.seq (.region false [⟨none,(some 32),.mov (.t 5)⟩,
  ⟨none,(some 33),.call (.k (.fn (.func 58) [] [])) [(.t 32),(.k (.fn (.func 59) [] []))]⟩])
 (.seq (.region false [⟨none,(some 34),.mov (.t 5)⟩,
  ⟨none,(some 4),.mov (.t 34)⟩])
 .ret)))))
 ntmps:=35
 res:=[.tmp 4]
theorem zojn:zsjc P Try.f33=some a33:=by kernel_rfl
end
section
set_option linter.unusedSimpArgs false
set_option linter.unusedVariables false
open Go Go.Am
def a34:AFn where
 code:=(.seq (.region false [⟨none,(some 2),.box (.t 0)⟩,
  ⟨none,(some 3),.box (.t 1)⟩,
  ⟨none,(some 4),.mov (.k (.bool false))⟩])
 (.seq (.region false [⟨none,(some 5),.fld 0 (.t 2)⟩,
  ⟨none,(some 6),.load 1 false (.t 5)⟩,
  ⟨none,(some 7),.fld 0 (.t 3)⟩,
  ⟨none,(some 8),.load 1 false (.t 7)⟩,
  ⟨none,(some 9),.bin .eql (.t 6) (.t 8)⟩,
  ⟨none,(some 4),.mov (.t 9)⟩])
 .ret))
 ntmps:=10
 res:=[.tmp 4]
theorem zk28:zsjc P Try.f34=some a34:=by kernel_rfl
def a36:AFn where
 code:=(.seq (.region false [⟨none,(some 2),.box (.t 0)⟩,
  ⟨none,(some 3),.mov (.k (.bool false))⟩])
 (.seq (.region true [⟨none,(some 4),.fld 1 (.t 2)⟩,
  ⟨none,(some 5),.load 3 true (.t 4)⟩,
  ⟨none,(some 6),.load 1 false (.t 1)⟩,
  ⟨none,(some 7),.idxS 4 (.t 6) (.k (.int .i64 0))⟩,
  ⟨none,(some 8),.fld 1 (.t 7)⟩,
  ⟨none,(some 9),.load 3 true (.t 8)⟩,
  ⟨none,(some 10),.callN (.k (.fn (.func 21) [] [])) [(.t 5),(.t 9)]⟩,
  ⟨none,(some 11),.un .not (.t 10)⟩,
  ⟨none,(some 3),.mov (.t 11)⟩])
 .ret))
 ntmps:=12
 res:=[.tmp 3]
theorem zj68:zsjc P Try.f36=some a36:=by kernel_rfl
def a37:AFn where
 code:=(.seq (.region false [⟨none,(some 2),.box (.t 0)⟩,
  ⟨none,(some 3),.box (.t 1)⟩,
  ⟨none,(some 4),.mov (.k (.bool false))⟩])
 (.seq (.region false [⟨none,(some 5),.fld 1 (.t 2)⟩,
  ⟨none,(some 6),.load 3 true (.t 5)⟩,
  ⟨none,(some 7),.fld 1 (.t 3)⟩,
  ⟨none,(some 8),.load 3 true (.t 7)⟩,
  ⟨none,(some 9),.call (.k (.fn (.func 21) [] [])) [(.t 6),(.t 8)]⟩,
  ⟨none,(some 4),.mov (.t 9)⟩])
 .ret))
 ntmps:=10
 res:=[.tmp 4]
theorem z554:zsjc P Try.f37=some a37:=by kernel_rfl
def a39:AFn where
 code:=(.seq (.region false [⟨none,(some 2),.box (.t 0)⟩,
  ⟨none,(some 3),.box (.t 1)⟩,
  ⟨none,(some 4),.mov (.k (.int .i64 0))⟩])
 (.seq (.region false [⟨none,(some 5),.fld 3 (.t 3)⟩,
  ⟨none,(some 6),.load 1 false (.t 5)⟩,
  ⟨none,(some 7),.len (.t 6)⟩,
  ⟨none,(some 8),.fld 3 (.t 2)⟩,
  ⟨none,(some 9),.load 1 false (.t 8)⟩,
  ⟨none,(some 10),.len (.t 9)⟩,
  ⟨none,(some 11),.call (.k (.fn (.func 40) [] [])) [(.t 7),(.t 10)]⟩,
  ⟨none,(some 4),.mov (.t 11)⟩])
 .ret))
 ntmps:=12
 res:=[.tmp 4]
theorem zjwo:zsjc P Try.f39=some a39:=by kernel_rfl
def a40:AFn where
 code:=(.seq (.region false [⟨none,(some 4),.mov (.k (.int .i64 0))⟩])
 (.seq (.region false [⟨none,(some 7),.mov (.t 0)⟩,
  ⟨none,(some 8),.call (.k (.fn (.func 63) [] [])) [(.t 7)]⟩,
  ⟨none,(some 5),.mov (.t 8)⟩])
 (.seq (.region false [⟨none,(some 9),.mov (.t 1)⟩,
  ⟨none,(some 10),.call (.k (.fn (.func 63) [] [])) [(.t 9)]⟩,
  ⟨none,(some 6),.mov (.t 10)⟩])
 (.seq (.seq (.region false [⟨none,(some 11),.mov (.t 5)⟩])
 (.cond (.t 11) (.seq (.seq (.region false [⟨none,(some 12),.mov (.t 6)⟩])
 (.cond (.t 12) (.seq (.region false [⟨none,(some 4),.mov (.k (.int .i64 0))⟩])
 .ret)
 .skip))
 (.seq (.region false [⟨none,(some 4),.mov (.k (.int .i64 (-1)))⟩])
 .ret))
 .skip))
 (.seq (.seq (.region false [⟨none,(some 13),.mov (.t 6)⟩])
 (.cond (.t 13) (.seq (.region false [⟨none,(some 4),.mov (.k (.int .i64 1))⟩])
 .ret)
 .skip))
 (.seq (.seq (.region false [⟨none,(some 14),.mov (.t 0)⟩,
  ⟨none,(some 15),.mov (.t 1)⟩,
  ⟨none,(some 16),.bin .lss (.t 14) (.t 15)⟩])
 (.cond (.t 16) (.seq (.region false [⟨none,(some 4),.mov (.k (.int .i64 (-1)))⟩])
 .ret)
 .skip))
 (.seq (.seq (.region false [⟨none,(some 17),.mov (.t 0)⟩,
  ⟨none,(some 18),.mov (.t 1)⟩,
  ⟨none,(some 19),.bin .gtr (.t 17) (.t 18)⟩])
 (.cond (.t 19) (.seq (.region false [⟨none,(some 4),.mov (.k (.int .i64 1))⟩])
 .ret)
 .skip))
 (.seq (.region false [⟨none,(some 4),.mov (.k (.int .i64 0))⟩])
 .ret))))))))
 ntmps:=20
 res:=[.tmp 4]
theorem zn9f:zsjc P Try.f40=some a40:=by kernel_rfl
def a63:AFn where
 code:=(.seq (.region false [⟨none,(some 2),.mov (.k (.bool false))⟩])
 (.seq (.region false [⟨none,(some 3),.mov (.t 0)⟩,
  ⟨none,(some 4),.mov (.t 0)⟩,
  ⟨none,(some 5),.bin .neq (.t 3) (.t 4)⟩,
  ⟨none,(some 2),.mov (.t 5)⟩])
 .ret))
 ntmps:=6
 res:=[.tmp 2]
theorem z2tu:zsjc P Try.f63=some a63:=by kernel_rfl
def zx3n:ACode :=
 (.seq (.region false [⟨none,(some 9),.bin .lss (.t 8) (.t 7)⟩])
 (.seq (.cond (.t 9) .skip
 (.exit 0))
 (.seq (.block 1 (.seq (.region false [⟨none,(some 10),.mov (.t 8)⟩,
  ⟨none,(some 5),.mov (.t 10)⟩])
 (.seq (.region false [⟨none,(some 11),.mov (.t 1)⟩,
  ⟨none,(some 12),.mov (.t 0)⟩,
  ⟨none,(some 13),.mov (.t 5)⟩,
  ⟨none,(some 14),.idxS 4 (.t 12) (.t 13)⟩,
  ⟨none,(some 15),.load 4 true (.t 14)⟩,
  ⟨none,(some 16),.call (.t 11) [(.t 15)]⟩])
 (.cond (.t 16) (.seq (.region false [⟨none,(some 17),.mov (.t 5)⟩,
  ⟨none,(some 4),.mov (.t 17)⟩])
 .ret)
 .skip))))
 (.region false [⟨none,(some 18),.bin .add (.t 8) (.k (.int .i64 1))⟩,
  ⟨none,(some 8),.mov (.t 18)⟩]))))
def zyvq (x0 x1 x7 x8:DV) (h:List AObj):St:=⟨[x0,x1]++js 5++[x7,x8]++js 10,h⟩
def a61:AFn where
 code:=(.seq (.region false [⟨none,(some 4),.mov (.k (.int .i64 0))⟩])
 (.seq (.seq (.region false [⟨none,(some 6),.mov (.t 0)⟩,
  ⟨none,(some 7),.len (.t 6)⟩,
  ⟨none,(some 8),.mov (.k (.int .i64 0))⟩])
 (.block 0 (.loop zx3n)))
 (.seq (.region false [⟨none,(some 4),.mov (.k (.int .i64 (-1)))⟩])
 .ret)))
 ntmps:=19
 res:=[.tmp 4]
theorem zuuw:zsjc P Try.f61=some a61:=by kernel_rfl
def a35:AFn where
 code:=(.seq (.region false [⟨none,(some 4),.mov (.k (.bool false))⟩])
 (.seq (.region false [⟨none,(some 5),.mov (.t 0)⟩,
  ⟨none,(some 6),.mov (.t 1)⟩,
  ⟨none,(some 7),.call (.k (.fn (.func 61) [] [])) [(.t 5),(.t 6)]⟩,
  ⟨none,(some 8),.bin .geq (.t 7) (.k (.int .i64 0))⟩,
  ⟨none,(some 4),.mov (.t 8)⟩])
 .ret))
 ntmps:=9
 res:=[.tmp 4]
theorem zxwh:zsjc P Try.f35=some a35:=by kernel_rfl
def zssg:ACode :=
 (.seq (.seq (.region true [⟨none,(some 18),.mov (.t 9)⟩,
  ⟨none,(some 19),.mov (.t 1)⟩,
  ⟨none,(some 20),.bin .gtr (.t 18) (.t 19)⟩,
  ⟨none,(some 21),.mov (.t 20)⟩,
  ⟨(some (21,true)),(some 22),.mov (.t 3)⟩,
  ⟨(some (21,true)),(some 23),.mov (.t 0)⟩,
  ⟨(some (21,true)),(some 24),.mov (.t 9)⟩,
  ⟨(some (21,true)),(some 25),.idxS 5 (.t 23) (.t 24)⟩,
  ⟨(some (21,true)),(some 26),.load 5 true (.t 25)⟩,
  ⟨(some (21,true)),(some 27),.mov (.t 0)⟩,
  ⟨(some (21,true)),(some 28),.mov (.t 9)⟩,
  ⟨(some (21,true)),(some 29),.bin .sub (.t 28) (.k (.int .i64 1))⟩,
  ⟨(some (21,true)),(some 30),.idxS 5 (.t 27) (.t 29)⟩,
  ⟨(some (21,true)),(some 31),.load 5 true (.t 30)⟩,
  ⟨(some (21,true)),(some 32),.callN (.t 22) [(.t 26),(.t 31)]⟩,
  ⟨(some (21,true)),(some 33),.bin .lss (.t 32) (.k (.int .i64 0))⟩,
  ⟨none,(some 34),.pick (.t 21) (.t 33) (.k (.bool false))⟩])
 (.cond (.t 34) .skip
 (.exit 2)))
 (.seq (.block 3 (.region true [⟨none,(some 37),.mov (.t 0)⟩,
  ⟨none,(some 38),.mov (.t 9)⟩,
  ⟨none,(some 39),.mov (.t 0)⟩,
  ⟨none,(some 40),.mov (.t 9)⟩,
  ⟨none,(some 41),.bin .sub (.t 40) (.k (.int .i64 1))⟩,
  ⟨none,(some 42),.mov (.t 0)⟩,
  ⟨none,(some 43),.mov (.t 9)⟩,
  ⟨none,(some 44),.bin .sub (.t 43) (.k (.int .i64 1))⟩,
  ⟨none,(some 45),.idxS 5 (.t 42) (.t 44)⟩,
  ⟨none,(some 46),.load 5 true (.t 45)⟩,
  ⟨none,(some 47),.mov (.t 0)⟩,
  ⟨none,(some 48),.mov (.t 9)⟩,
  ⟨none,(some 49),.idxS 5 (.t 47) (.t 48)⟩,
  ⟨none,(some 50),.load 5 true (.t 49)⟩,
  ⟨none,(some 51),.idxS 5 (.t 37) (.t 38)⟩,
  ⟨none,none,.store 5 (.t 51) (.t 46)⟩,
  ⟨none,(some 52),.idxS 5 (.t 39) (.t 41)⟩,
  ⟨none,none,.store 5 (.t 52) (.t 50)⟩]))
 (.region false [⟨none,(some 35),.mov (.t 9)⟩,
  ⟨none,(some 36),.bin .sub (.t 35) (.k (.int .i64 1))⟩,
  ⟨none,(some 9),.mov (.t 36)⟩])))
def zsm4 (x0 x1 x2 x3 x8 x9:DV) (h:List AObj):St:=⟨[x0,x1,x2,x3]++js 4++[x8,x9]++js 43,h⟩
def zcng:ACode :=
 (.seq (.seq (.region false [⟨none,(some 12),.mov (.t 8)⟩,
  ⟨none,(some 13),.mov (.t 2)⟩,
  ⟨none,(some 14),.bin .lss (.t 12) (.t 13)⟩])
 (.cond (.t 14) .skip
 (.exit 0)))
 (.seq (.block 1 (.seq (.region false [⟨none,(some 17),.mov (.t 8)⟩,
  ⟨none,(some 9),.mov (.t 17)⟩])
 (.block 2 (.loop zssg))))
 (.region false [⟨none,(some 15),.mov (.t 8)⟩,
  ⟨none,(some 16),.bin .add (.t 15) (.k (.int .i64 1))⟩,
  ⟨none,(some 8),.mov (.t 16)⟩])))
def z6ro (x0 x1 x2 x3 x8:DV) (h:List AObj):St:=⟨[x0,x1,x2,x3]++js 4++[x8]++js 44,h⟩
def a72:AFn where
 code:=(.seq (.region false [⟨none,(some 10),.mov (.t 1)⟩,
  ⟨none,(some 11),.bin .add (.t 10) (.k (.int .i64 1))⟩,
  ⟨none,(some 8),.mov (.t 11)⟩])
 (.block 0 (.loop zcng)))
 ntmps:=53
 res:=[]
theorem z0xs:zsjc P Try.f72=some a72:=by kernel_rfl
def z1dk:ACode :=
 (.seq (.seq (.region false [⟨none,(some 11),.mov (.t 8)⟩,
  ⟨none,(some 12),.mov (.t 1)⟩,
  ⟨none,(some 13),.bin .leq (.t 11) (.t 12)⟩])
 (.cond (.t 13) .skip
 (.exit 0)))
 (.block 1 (.seq (.region false [⟨none,(some 14),.mov (.t 0)⟩,
  ⟨none,(some 15),.mov (.t 7)⟩,
  ⟨none,(some 16),.mov (.t 8)⟩,
  ⟨none,(some 17),.mov (.t 2)⟩,
  ⟨none,(some 18),.call (.k (.fn (.func 72) [] [])) [(.t 14),(.t 15),(.t 16),(.t 17)]⟩])
 (.seq (.region false [⟨none,(some 19),.mov (.t 8)⟩,
  ⟨none,(some 7),.mov (.t 19)⟩])
 (.region false [⟨none,(some 20),.mov (.t 8)⟩,
  ⟨none,(some 21),.mov (.t 6)⟩,
  ⟨none,(some 22),.bin .add (.t 20) (.t 21)⟩,
  ⟨none,(some 8),.mov (.t 22)⟩])))))
def zbk2 (x0 x1 x2 x6 x7 x8:DV) (h:List AObj):St:=⟨[x0,x1,x2,.junk,.junk,.junk,x6,x7,x8]++js 54,h⟩
def zuf9:ACode :=
 (.seq (.seq (.region false [⟨none,(some 33),.mov (.t 8)⟩,
  ⟨none,(some 34),.mov (.t 1)⟩,
  ⟨none,(some 35),.bin .leq (.t 33) (.t 34)⟩])
 (.cond (.t 35) .skip
 (.exit 4)))
 (.block 5 (.seq (.region false [⟨none,(some 36),.mov (.t 0)⟩,
  ⟨none,(some 37),.mov (.t 7)⟩,
  ⟨none,(some 38),.mov (.t 7)⟩,
  ⟨none,(some 39),.mov (.t 6)⟩,
  ⟨none,(some 40),.bin .add (.t 38) (.t 39)⟩,
  ⟨none,(some 41),.mov (.t 8)⟩,
  ⟨none,(some 42),.mov (.t 2)⟩,
  ⟨none,(some 43),.call (.k (.fn (.func 73) [] [])) [(.t 36),(.t 37),(.t 40),(.t 41),(.t 42)]⟩])
 (.seq (.region false [⟨none,(some 44),.mov (.t 8)⟩,
  ⟨none,(some 7),.mov (.t 44)⟩])
 (.region false [⟨none,(some 45),.mov (.t 8)⟩,
  ⟨none,(some 46),.mov (.t 6)⟩,
  ⟨none,(some 47),.bin .mul (.k (.int .i64 2)) (.t 46)⟩,
  ⟨none,(some 48),.bin .add (.t 45) (.t 47)⟩,
  ⟨none,(some 8),.mov (.t 48)⟩])))))
def z8zs:ACode :=
 (.seq (.seq (.region false [⟨none,(some 28),.mov (.t 6)⟩,
  ⟨none,(some 29),.mov (.t 1)⟩,
  ⟨none,(some 30),.bin .lss (.t 28) (.t 29)⟩])
 (.cond (.t 30) .skip
 (.exit 2)))
 (.block 3 (.seq (.region false [⟨none,(some 31),.mov (.t 6)⟩,
  ⟨none,(some 32),.bin .mul (.k (.int .i64 2)) (.t 31)⟩,
  ⟨none,(some 7),.mov (.k (.int .i64 0))⟩,
  ⟨none,(some 8),.mov (.t 32)⟩])
 (.seq (.block 4 (.loop zuf9))
 (.seq (.seq (.region false [⟨none,(some 49),.mov (.t 7)⟩,
  ⟨none,(some 50),.mov (.t 6)⟩,
  ⟨none,(some 51),.bin .add (.t 49) (.t 50)⟩,
  ⟨none,(some 9),.mov (.t 51)⟩])
 (.seq (.region false [⟨none,(some 52),.mov (.t 9)⟩,
  ⟨none,(some 53),.mov (.t 1)⟩,
  ⟨none,(some 54),.bin .lss (.t 52) (.t 53)⟩])
 (.cond (.t 54) (.region false [⟨none,(some 55),.mov (.t 0)⟩,
  ⟨none,(some 56),.mov (.t 7)⟩,
  ⟨none,(some 57),.mov (.t 9)⟩,
  ⟨none,(some 58),.mov (.t 1)⟩,
  ⟨none,(some 59),.mov (.t 2)⟩,
  ⟨none,(some 60),.call (.k (.fn (.func 73) [] [])) [(.t 55),(.t 56),(.t 57),(.t 58),(.t 59)]⟩])
 .skip)))
 (.region false [⟨none,(some 61),.mov (.t 6)⟩,
  ⟨none,(some 62),.bin .mul (.t 61) (.k (.int .i64 2))⟩,
  ⟨none,(some 6),.mov (.t 62)⟩]))))))
def zz7r (x0 x1 x2 x6:DV) (h:List AObj):St:=⟨[x0,x1,x2,.junk,.junk,.junk,x6]++js 56,h⟩
def a62:AFn where
 code:=(.seq (.region false [⟨none,(some 6),.mov (.k (.int .i64 20))⟩])
 (.seq (.region false [⟨none,(some 10),.mov (.t 6)⟩,
  ⟨none,(some 7),.mov (.k (.int .i64 0))⟩,
  ⟨none,(some 8),.mov (.t 10)⟩])
 (.seq (.block 0 (.loop z1dk))
 (.seq (.region false [⟨none,(some 23),.mov (.t 0)⟩,
  ⟨none,(some 24),.mov (.t 7)⟩,
  ⟨none,(some 25),.mov (.t 1)⟩,
  ⟨none,(some 26),.mov (.t 2)⟩,
  ⟨none,(some 27),.call (.k (.fn (.func 72) [] [])) [(.t 23),(.t 24),(.t 25),(.t 26)]⟩])
 (.block 2 (.loop z8zs))))))
 ntmps:=63
 res:=[]
theorem z0i3:zsjc P Try.f62=some a62:=by kernel_rfl
def a38:AFn where
 code:=(.region false [⟨none,(some 4),.mov (.t 0)⟩,
  ⟨none,(some 5),.mov (.t 0)⟩,
  ⟨none,(some 6),.len (.t 5)⟩,
  ⟨none,(some 7),.mov (.t 1)⟩,
  ⟨none,(some 8),.call (.k (.fn (.func 62) [] [])) [(.t 4),(.t 6),(.t 7)]⟩])
 ntmps:=9
 res:=[]
theorem zclx:zsjc P Try.f38=some a38:=by kernel_rfl
def z9ex:ACode :=
 (.seq (.region false [⟨none,(some 22),.bin .lss (.t 21) (.t 20)⟩])
 (.seq (.cond (.t 22) .skip
 (.exit 0))
 (.seq (.block 1 (.seq (.region false [⟨none,(some 23),.idxS 1 (.t 19) (.t 21)⟩,
  ⟨none,(some 24),.load 1 false (.t 23)⟩,
  ⟨none,(some 9),.alloc [.nils]⟩,
  ⟨none,none,.store 1 (.t 9) (.t 24)⟩])
 (.seq (.region false [⟨none,(some 25),.load 1 false (.t 9)⟩,
  ⟨none,(some 26),.mkf (.func 36) [] [(.t 9)]⟩,
  ⟨none,(some 27),.call (.k (.fn (.func 35) [] [])) [(.t 25),(.t 26)]⟩])
 (.cond (.t 27) (.region false [⟨none,(some 28),.mov (.t 7)⟩,
  ⟨none,(some 29),.load 1 false (.t 9)⟩,
  ⟨none,(some 30),.idxS 4 (.t 29) (.k (.int .i64 0))⟩,
  ⟨none,(some 31),.fld 0 (.t 30)⟩,
  ⟨none,(some 32),.load 1 false (.t 31)⟩,
  ⟨none,(some 33),.bsl 1 1 [(.str [])] [(0,1,(.t 32))]⟩,
  ⟨none,(some 34),.app 1 16 (.t 28) (.t 33)⟩,
  ⟨none,(some 7),.mov (.t 34)⟩])
 (.region false [⟨none,(some 35),.mov (.t 6)⟩,
  ⟨none,(some 36),.load 1 false (.t 9)⟩,
  ⟨none,(some 37),.idxS 4 (.t 36) (.k (.int .i64 0))⟩,
  ⟨none,(some 38),.load 4 true (.t 37)⟩,
  ⟨none,(some 39),.bsl 4 1 [(.str []),(.str []),.nils,.nils] [(0,4,(.t 38))]⟩,
  ⟨none,(some 40),.app 4 80 (.t 35) (.t 39)⟩,
  ⟨none,(some 6),.mov (.t 40)⟩])))))
 (.region false [⟨none,(some 41),.bin .add (.t 21) (.k (.int .i64 1))⟩,
  ⟨none,(some 21),.mov (.t 41)⟩]))))
def z6m2 (x6 x7 x19 x20 x21:DV) (h:List AObj):St:=⟨js 6++[x6,x7]++js 11++[x19,x20,x21]++js 55,h⟩
def zcvt:ACode :=
 (.seq (.region false [⟨none,(some 57),.bin .lss (.t 56) (.t 55)⟩])
 (.seq (.cond (.t 57) .skip
 (.exit 4))
 (.seq (.block 5 (.seq (.region false [⟨none,(some 58),.idxS 4 (.t 54) (.t 56)⟩,
  ⟨none,(some 59),.load 4 true (.t 58)⟩,
  ⟨none,(some 15),.alloc [(.str []),(.str []),.nils,.nils]⟩,
  ⟨none,none,.store 4 (.t 15) (.t 59)⟩])
 (.region false [⟨none,(some 60),.fld 3 (.t 13)⟩,
  ⟨none,(some 61),.load 1 false (.t 60)⟩,
  ⟨none,(some 62),.fld 0 (.t 15)⟩,
  ⟨none,(some 63),.load 1 false (.t 62)⟩,
  ⟨none,(some 64),.bsl 1 1 [(.str [])] [(0,1,(.t 63))]⟩,
  ⟨none,(some 65),.app 1 16 (.t 61) (.t 64)⟩,
  ⟨none,(some 66),.fld 3 (.t 13)⟩,
  ⟨none,none,.store 1 (.t 66) (.t 65)⟩])))
 (.region false [⟨none,(some 67),.bin .add (.t 56) (.k (.int .i64 1))⟩,
  ⟨none,(some 56),.mov (.t 67)⟩]))))
def zju7 (x7 x10 x13 x43 x44 x45 x54 x55 x56:DV) (h:List AObj):St:=⟨js 7++[x7,.junk,.junk,x10,.junk,.junk,x13]++js 29++[x43,x44,x45]++js 8++[x54,x55,x56]++js 20,h⟩
def z0z5:ACode :=
 (.seq (.region false [⟨none,(some 46),.bin .lss (.t 45) (.t 44)⟩])
 (.seq (.cond (.t 46) .skip
 (.exit 2))
 (.seq (.block 3 (.seq (.region false [⟨none,(some 47),.idxS 1 (.t 43) (.t 45)⟩,
  ⟨none,(some 48),.load 1 false (.t 47)⟩,
  ⟨none,(some 12),.mov (.t 48)⟩])
 (.seq (.region false [⟨none,(some 49),.mov (.t 12)⟩,
  ⟨none,(some 50),.idxS 4 (.t 49) (.k (.int .i64 0))⟩,
  ⟨none,(some 51),.fld 1 (.t 50)⟩,
  ⟨none,(some 52),.load 3 true (.t 51)⟩,
  ⟨none,(some 53),.build [(.str []),.nils,.nils,.nils,.nils] [(0,3,(.t 52))]⟩,
  ⟨none,(some 13),.alloc [(.str []),.nils,.nils,.nils,.nils]⟩,
  ⟨none,none,.store 5 (.t 13) (.t 53)⟩])
 (.seq (.seq (.region false [⟨none,(some 54),.mov (.t 12)⟩,
  ⟨none,(some 55),.len (.t 54)⟩,
  ⟨none,(some 56),.mov (.k (.int .i64 0))⟩])
 (.block 4 (.loop zcvt)))
 (.region false [⟨none,(some 68),.mov (.t 10)⟩,
  ⟨none,(some 69),.load 5 true (.t 13)⟩,
  ⟨none,(some 70),.bsl 5 1 [(.str []),.nils,.nils,.nils,.nils] [(0,5,(.t 69))]⟩,
  ⟨none,(some 71),.app 5 112 (.t 68) (.t 70)⟩,
  ⟨none,(some 10),.mov (.t 71)⟩])))))
 (.region false [⟨none,(some 72),.bin .add (.t 45) (.k (.int .i64 1))⟩,
  ⟨none,(some 45),.mov (.t 72)⟩]))))
def z7i3 (x7 x10 x43 x44 x45:DV) (h:List AObj):St:=⟨js 7++[x7,.junk,.junk,x10]++js 32++[x43,x44,x45]++js 31,h⟩
def a12:AFn where
 code:=(.seq (.region false [⟨none,(some 2),.box (.t 0)⟩,
  ⟨none,(some 4),.mov (.k .nils)⟩,
  ⟨none,(some 5),.mov (.k .nils)⟩])
 (.seq (.region false [⟨none,(some 6),.mov (.k .nils)⟩])
 (.seq (.region false [⟨none,(some 7),.mov (.k .nils)⟩])
 (.seq (.seq (.region false [⟨none,(some 16),.load 7 true (.t 2)⟩,
  ⟨none,(some 17),.mov (.t 1)⟩,
  ⟨none,(some 18),.call (.k (.fn (.func 33) [] [])) [(.t 16),(.t 17)]⟩,
  ⟨none,(some 19),.call (.k (.fn (.func 32) [] [])) [(.t 18),(.k (.fn (.func 34) [] []))]⟩,
  ⟨none,(some 20),.len (.t 19)⟩,
  ⟨none,(some 21),.mov (.k (.int .i64 0))⟩])
 (.block 0 (.loop z9ex)))
 (.seq (.region false [⟨none,(some 10),.mov (.k .nils)⟩])
 (.seq (.seq (.region false [⟨none,(some 42),.mov (.t 6)⟩,
  ⟨none,(some 43),.call (.k (.fn (.func 32) [] [])) [(.t 42),(.k (.fn (.func 37) [] []))]⟩,
  ⟨none,(some 44),.len (.t 43)⟩,
  ⟨none,(some 45),.mov (.k (.int .i64 0))⟩])
 (.block 2 (.loop z0z5)))
 (.seq (.region false [⟨none,(some 73),.mov (.t 10)⟩,
  ⟨none,(some 74),.call (.k (.fn (.func 38) [] [])) [(.t 73),(.k (.fn (.func 39) [] []))]⟩])
 (.seq (.region false [⟨none,(some 75),.mov (.t 10)⟩,
  ⟨none,(some 76),.mov (.t 7)⟩,
  ⟨none,(some 4),.mov (.t 75)⟩,
  ⟨none,(some 5),.mov (.t 76)⟩])
 .ret))))))))
 ntmps:=77
 res:=[.tmp 4,.tmp 5]
theorem zqkh:zsjc P Try.f12=some a12:=by kernel_rfl
def a46:AFn where
 code:=(.seq (.region false [⟨none,(some 2),.box (.t 0)⟩,
  ⟨none,(some 3),.mov (.k (.bool false))⟩])
 (.seq (.region false [⟨none,(some 4),.fld 3 (.t 2)⟩,
  ⟨none,(some 5),.load 1 false (.t 4)⟩,
  ⟨none,(some 6),.len (.t 5)⟩,
  ⟨none,(some 7),.fld 2 (.t 1)⟩,
  ⟨none,(some 8),.load 1 false (.t 7)⟩,
  ⟨none,(some 9),.bin .lss (.t 6) (.t 8)⟩,
  ⟨none,(some 3),.mov (.t 9)⟩])
 .ret))
 ntmps:=10
 res:=[.tmp 3]
theorem znv1:zsjc P Try.f46=some a46:=by kernel_rfl
def zur0:ACode :=
 (.seq (.region false [⟨none,(some 9),.bin .lss (.t 8) (.t 7)⟩])
 (.seq (.cond (.t 9) .skip
 (.exit 0))
 (.seq (.block 1 (.seq (.region false [⟨none,(some 10),.mov (.t 8)⟩,
  ⟨none,(some 5),.mov (.t 10)⟩])
 (.seq (.region false [⟨none,(some 11),.mov (.t 1)⟩,
  ⟨none,(some 12),.mov (.t 0)⟩,
  ⟨none,(some 13),.mov (.t 5)⟩,
  ⟨none,(some 14),.idxS 5 (.t 12) (.t 13)⟩,
  ⟨none,(some 15),.load 5 true (.t 14)⟩,
  ⟨none,(some 16),.call (.t 11) [(.t 15)]⟩])
 (.cond (.t 16) (.seq (.region false [⟨none,(some 17),.mov (.t 5)⟩,
  ⟨none,(some 4),.mov (.t 17)⟩])
 .ret)
 .skip))))
 (.region false [⟨none,(some 18),.bin .add (.t 8) (.k (.int .i64 1))⟩,
  ⟨none,(some 8),.mov (.t 18)⟩]))))
def zm1u (x0 x1 x7 x8:DV) (h:List AObj):St:=⟨[x0,x1]++js 5++[x7,x8]++js 10,h⟩
def a65:AFn where
 code:=(.seq (.region false [⟨none,(some 4),.mov (.k (.int .i64 0))⟩])
 (.seq (.seq (.region false [⟨none,(some 6),.mov (.t 0)⟩,
  ⟨none,(some 7),.len (.t 6)⟩,
  ⟨none,(some 8),.mov (.k (.int .i64 0))⟩])
 (.block 0 (.loop zur0)))
 (.seq (.region false [⟨none,(some 4),.mov (.k (.int .i64 (-1)))⟩])
 .ret)))
 ntmps:=19
 res:=[.tmp 4]
theorem zh04:zsjc P Try.f65=some a65:=by kernel_rfl
def zmv1:ACode :=
 (.seq (.seq (.region false [⟨none,(some 16),.mov (.t 6)⟩,
  ⟨none,(some 17),.mov (.t 0)⟩,
  ⟨none,(some 18),.len (.t 17)⟩,
  ⟨none,(some 19),.bin .lss (.t 16) (.t 18)⟩])
 (.cond (.t 19) .skip
 (.exit 0)))
 (.seq (.block 1 (.seq (.region false [⟨none,(some 22),.mov (.t 0)⟩,
  ⟨none,(some 23),.mov (.t 6)⟩,
  ⟨none,(some 24),.idxS 5 (.t 22) (.t 23)⟩,
  ⟨none,(some 25),.load 5 true (.t 24)⟩,
  ⟨none,(some 7),.alloc [(.str []),.nils,.nils,.nils,.nils]⟩,
  ⟨none,none,.store 5 (.t 7) (.t 25)⟩])
 (.seq (.region false [⟨none,(some 26),.mov (.t 1)⟩,
  ⟨none,(some 27),.load 5 true (.t 7)⟩,
  ⟨none,(some 28),.call (.t 26) [(.t 27)]⟩,
  ⟨none,(some 29),.un .not (.t 28)⟩])
 (.cond (.t 29) (.seq (.region false [⟨none,(some 30),.mov (.t 0)⟩,
  ⟨none,(some 31),.mov (.t 5)⟩,
  ⟨none,(some 32),.load 5 true (.t 7)⟩,
  ⟨none,(some 33),.idxS 5 (.t 30) (.t 31)⟩,
  ⟨none,none,.store 5 (.t 33) (.t 32)⟩])
 (.region false [⟨none,(some 34),.mov (.t 5)⟩,
  ⟨none,(some 35),.bin .add (.t 34) (.k (.int .i64 1))⟩,
  ⟨none,(some 5),.mov (.t 35)⟩]))
 .skip))))
 (.region false [⟨none,(some 20),.mov (.t 6)⟩,
  ⟨none,(some 21),.bin .add (.t 20) (.k (.int .i64 1))⟩,
  ⟨none,(some 6),.mov (.t 21)⟩])))
def z7h3 (x0 x1 x5 x6:DV) (h:List AObj):St:=⟨[x0,x1,.junk,.junk,.junk,x5,x6]++js 35,h⟩
def a45:AFn where
 code:=(.seq (.region false [⟨none,(some 4),.mov (.k .nils)⟩])
 (.seq (.region false [⟨none,(some 8),.mov (.t 0)⟩,
  ⟨none,(some 9),.mov (.t 1)⟩,
  ⟨none,(some 10),.call (.k (.fn (.func 65) [] [])) [(.t 8),(.t 9)]⟩,
  ⟨none,(some 5),.mov (.t 10)⟩])
 (.seq (.seq (.region false [⟨none,(some 11),.mov (.t 5)⟩,
  ⟨none,(some 12),.bin .eql (.t 11) (.k (.int .i64 (-1)))⟩])
 (.cond (.t 12) (.seq (.region false [⟨none,(some 13),.mov (.t 0)⟩,
  ⟨none,(some 4),.mov (.t 13)⟩])
 .ret)
 .skip))
 (.seq (.seq (.region false [⟨none,(some 14),.mov (.t 5)⟩,
  ⟨none,(some 15),.bin .add (.t 14) (.k (.int .i64 1))⟩,
  ⟨none,(some 6),.mov (.t 15)⟩])
 (.block 0 (.loop zmv1)))
 (.seq (.region false [⟨none,(some 36),.mov (.t 0)⟩,
  ⟨none,(some 37),.mov (.t 5)⟩,
  ⟨none,(some 38),.slcS 5 (.t 36) (some (.t 37)) none none⟩,
  ⟨none,none,.clr 5 [(.str []),.nils,.nils,.nils,.nils] (.t 38)⟩])
 (.seq (.region false [⟨none,(some 39),.mov (.t 0)⟩,
  ⟨none,(some 40),.mov (.t 5)⟩,
  ⟨none,(some 41),.slcS 5 (.t 39) none (some (.t 40)) none⟩,
  ⟨none,(some 4),.mov (.t 41)⟩])
 .ret))))))
 ntmps:=42
 res:=[.tmp 4]
theorem z94d:zsjc P Try.f45=some a45:=by kernel_rfl
def a14:AFn where
 code:=(.seq (.region false [⟨none,(some 2),.box (.t 0)⟩,
  ⟨none,(some 4),.alloc [(.str []),.nils,.nils,.nils,.nils]⟩,
  ⟨none,(some 5),.mov (.k (.int .i64 0))⟩])
 (.seq (.region false [⟨none,(some 11),.load 7 true (.t 2)⟩,
  ⟨none,(some 12),.mov (.t 1)⟩,
  ⟨none,(some 13),.call (.k (.fn (.func 12) [] [])) [(.t 11),(.t 12)]⟩,
  ⟨none,(some 10),.mov (.t 13)⟩,
  ⟨none,(some 14),.ext (.t 10) 0⟩,
  ⟨none,(some 15),.ext (.t 10) 1⟩,
  ⟨none,(some 6),.mov (.t 14)⟩,
  ⟨none,(some 7),.mov (.t 15)⟩])
 (.seq (.region false [⟨none,(some 16),.mov (.t 6)⟩,
  ⟨none,(some 17),.mkf (.func 46) [] [(.t 2)]⟩,
  ⟨none,(some 18),.call (.k (.fn (.func 45) [] [])) [(.t 16),(.t 17)]⟩,
  ⟨none,(some 8),.mov (.t 18)⟩])
 (.seq (.block 0 (.seq (.region false [⟨none,(some 20),.fld 2 (.t 2)⟩,
  ⟨none,(some 21),.load 1 false (.t 20)⟩,
  ⟨none,(some 22),.bin .lss (.t 21) (.k (.int .i64 1))⟩,
  ⟨none,(some 23),.mov (.t 22)⟩,
  ⟨(some (23,false)),(some 24),.mov (.t 8)⟩,
  ⟨(some (23,false)),(some 25),.len (.t 24)⟩,
  ⟨(some (23,false)),(some 26),.bin .eql (.t 25) (.k (.int .i64 0))⟩,
  ⟨none,(some 27),.pick (.t 23) (.k (.bool true)) (.t 26)⟩,
  ⟨none,(some 19),.mov (.t 27)⟩])
 (.cond (.t 19) (.seq (.region false [⟨none,(some 28),.build [(.str []),.nils,.nils,.nils,.nils] []⟩,
  ⟨none,none,.store 5 (.t 4) (.t 28)⟩,
  ⟨none,(some 5),.mov (.k (.int .i64 10))⟩])
 .ret)
 (.seq (.region false [⟨none,(some 30),.mov (.t 8)⟩,
  ⟨none,(some 31),.len (.t 30)⟩,
  ⟨none,(some 32),.bin .gtr (.t 31) (.k (.int .i64 1))⟩,
  ⟨none,(some 29),.mov (.t 32)⟩])
 (.cond (.t 29) (.seq (.region false [⟨none,(some 33),.build [(.str []),.nils,.nils,.nils,.nils] []⟩,
  ⟨none,none,.store 5 (.t 4) (.t 33)⟩,
  ⟨none,(some 5),.mov (.k (.int .i64 11))⟩])
 .ret)
 .skip)))))
 (.seq (.region false [⟨none,(some 34),.mov (.t 8)⟩,
  ⟨none,(some 35),.idxS 5 (.t 34) (.k (.int .i64 0))⟩,
  ⟨none,(some 36),.load 5 true (.t 35)⟩,
  ⟨none,(some 9),.alloc [(.str []),.nils,.nils,.nils,.nils]⟩,
  ⟨none,none,.store 5 (.t 9) (.t 36)⟩])
 (.seq (.region false [⟨none,(some 37),.mov (.t 7)⟩,
  ⟨none,(some 38),.fld 4 (.t 9)⟩,
  ⟨none,none,.store 1 (.t 38) (.t 37)⟩])
 (.seq (.region false [⟨none,(some 39),.load 5 true (.t 9)⟩,
  ⟨none,none,.store 5 (.t 4) (.t 39)⟩,
  ⟨none,(some 5),.mov (.k (.int .i64 0))⟩])
 .ret)))))))
 ntmps:=40
 res:=[.cell 4 5 true,.tmp 5]
theorem zzfl:zsjc P Try.f14=some a14:=by kernel_rfl
end
section
set_option linter.unusedSimpArgs false
set_option linter.unusedVariables false
open Go Go.Am
def z4pl:ACode :=
 (.seq (.seq (.region false [⟨none,(some 11),.mov (.t 5)⟩,
  ⟨none,(some 12),.mov (.t 0)⟩,
  ⟨none,(some 13),.len (.t 12)⟩,
  ⟨none,(some 14),.bin .lss (.t 11) (.t 13)⟩])
 (.cond (.t 14) .skip
 (.exit 0)))
 (.seq (.block 1 (.seq (.region true [⟨none,(some 17),.mov (.t 0)⟩,
  ⟨none,(some 18),.mov (.t 5)⟩,
  ⟨none,(some 19),.idxS 1 (.t 17) (.t 18)⟩,
  ⟨none,(some 20),.load 1 false (.t 19)⟩,
  ⟨none,(some 21),.mov (.t 1)⟩,
  ⟨none,(some 22),.mov (.t 5)⟩,
  ⟨none,(some 23),.idxS 1 (.t 21) (.t 22)⟩,
  ⟨none,(some 24),.load 1 false (.t 23)⟩,
  ⟨none,(some 25),.bin .neq (.t 20) (.t 24)⟩])
 (.cond (.t 25) (.seq (.region false [⟨none,(some 4),.mov (.k (.bool false))⟩])
 .ret)
 .skip)))
 (.region false [⟨none,(some 15),.mov (.t 5)⟩,
  ⟨none,(some 16),.bin .add (.t 15) (.k (.int .i64 1))⟩,
  ⟨none,(some 5),.mov (.t 16)⟩])))
def zhcc (x0 x1 x5:DV) (h:List AObj):St:=⟨[x0,x1,.junk,.junk,.junk,x5]++js 20,h⟩
def a17:AFn where
 code:=(.seq (.region false [⟨none,(some 4),.mov (.k (.bool false))⟩])
 (.seq (.seq (.region false [⟨none,(some 6),.mov (.t 0)⟩,
  ⟨none,(some 7),.len (.t 6)⟩,
  ⟨none,(some 8),.mov (.t 1)⟩,
  ⟨none,(some 9),.len (.t 8)⟩,
  ⟨none,(some 10),.bin .neq (.t 7) (.t 9)⟩])
 (.cond (.t 10) (.seq (.region false [⟨none,(some 4),.mov (.k (.bool false))⟩])
 .ret)
 .skip))
 (.seq (.seq (.region false [⟨none,(some 5),.mov (.k (.int .i64 0))⟩])
 (.block 0 (.loop z4pl)))
 (.seq (.region false [⟨none,(some 4),.mov (.k (.bool true))⟩])
 .ret))))
 ntmps:=26
 res:=[.tmp 4]
theorem zcaf:zsjc P Try.f17=some a17:=by kernel_rfl
def zqw7:ACode :=
 (.seq (.seq (.region false [⟨none,(some 6),.mov (.t 5)⟩,
  ⟨none,(some 7),.mov (.t 0)⟩,
  ⟨none,(some 8),.len (.t 7)⟩,
  ⟨none,(some 9),.bin .lss (.t 6) (.t 8)⟩])
 (.cond (.t 9) .skip
 (.exit 0)))
 (.seq (.block 1 (.seq (.region false [⟨none,(some 12),.mov (.t 0)⟩,
  ⟨none,(some 13),.mov (.t 5)⟩,
  ⟨none,(some 14),.idxS 1 (.t 12) (.t 13)⟩,
  ⟨none,(some 15),.load 1 false (.t 14)⟩,
  ⟨none,(some 16),.mov (.t 1)⟩,
  ⟨none,(some 17),.bin .eql (.t 15) (.t 16)⟩])
 (.cond (.t 17) (.seq (.region false [⟨none,(some 4),.mov (.k (.bool true))⟩])
 .ret)
 .skip)))
 (.region false [⟨none,(some 10),.mov (.t 5)⟩,
  ⟨none,(some 11),.bin .add (.t 10) (.k (.int .i64 1))⟩,
  ⟨none,(some 5),.mov (.t 11)⟩])))
def zben (x0 x1 x5:DV) (h:List AObj):St:=⟨[x0,x1,.junk,.junk,.junk,x5]++js 12,h⟩
def a24:AFn where
 code:=(.seq (.region false [⟨none,(some 4),.mov (.k (.bool false))⟩])
 (.seq (.seq (.region false [⟨none,(some 5),.mov (.k (.int .i64 0))⟩])
 (.block 0 (.loop zqw7)))
 (.seq (.region false [⟨none,(some 4),.mov (.k (.bool false))⟩])
 .ret)))
 ntmps:=18
 res:=[.tmp 4]
theorem zcoa:zsjc P Try.f24=some a24:=by kernel_rfl
def zf3u:ACode :=
 (.seq (.seq (.region false [⟨none,(some 11),.mov (.t 6)⟩,
  ⟨none,(some 12),.mov (.t 0)⟩,
  ⟨none,(some 13),.len (.t 12)⟩,
  ⟨none,(some 14),.bin .lss (.t 11) (.t 13)⟩,
  ⟨none,(some 15),.mov (.t 14)⟩,
  ⟨(some (15,true)),(some 16),.mov (.t 0)⟩,
  ⟨(some (15,true)),(some 17),.mov (.t 6)⟩,
  ⟨(some (15,true)),(some 18),.idxS 1 (.t 16) (.t 17)⟩,
  ⟨(some (15,true)),(some 19),.load 1 false (.t 18)⟩,
  ⟨(some (15,true)),(some 20),.mov (.t 1)⟩,
  ⟨(some (15,true)),(some 21),.bin .lss (.t 19) (.t 20)⟩,
  ⟨none,(some 22),.pick (.t 15) (.t 21) (.k (.bool false))⟩])
 (.cond (.t 22) .skip
 (.exit 0)))
 (.block 1 (.seq (.region false [⟨none,(some 23),.mov (.t 5)⟩,
  ⟨none,(some 24),.mov (.t 0)⟩,
  ⟨none,(some 25),.mov (.t 6)⟩,
  ⟨none,(some 26),.idxS 1 (.t 24) (.t 25)⟩,
  ⟨none,(some 27),.load 1 false (.t 26)⟩,
  ⟨none,(some 28),.bsl 1 1 [(.str [])] [(0,1,(.t 27))]⟩,
  ⟨none,(some 29),.app 1 16 (.t 23) (.t 28)⟩,
  ⟨none,(some 5),.mov (.t 29)⟩])
 (.region false [⟨none,(some 30),.mov (.t 6)⟩,
  ⟨none,(some 31),.bin .add (.t 30) (.k (.int .i64 1))⟩,
  ⟨none,(some 6),.mov (.t 31)⟩]))))
def zq6l (x0 x1 x5 x6:DV) (h:List AObj):St:=⟨[x0,x1,.junk,.junk,.junk,x5,x6]++js 33,h⟩
def a43:AFn where
 code:=(.seq (.region false [⟨none,(some 4),.mov (.k .nils)⟩])
 (.seq (.seq (.region false [⟨none,(some 7),.mov (.t 0)⟩,
  ⟨none,(some 8),.mov (.t 1)⟩,
  ⟨none,(some 9),.call (.k (.fn (.func 24) [] [])) [(.t 7),(.t 8)]⟩])
 (.cond (.t 9) (.seq (.region false [⟨none,(some 10),.mov (.t 0)⟩,
  ⟨none,(some 4),.mov (.t 10)⟩])
 .ret)
 .skip))
 (.seq (.region false [⟨none,(some 5),.mov (.k .nils)⟩])
 (.seq (.region false [⟨none,(some 6),.mov (.k (.int .i64 0))⟩])
 (.seq (.block 0 (.loop zf3u))
 (.seq (.region true [⟨none,(some 32),.mov (.t 5)⟩,
  ⟨none,(some 33),.mov (.t 1)⟩,
  ⟨none,(some 34),.bsl 1 1 [(.str [])] [(0,1,(.t 33))]⟩,
  ⟨none,(some 35),.app 1 16 (.t 32) (.t 34)⟩,
  ⟨none,(some 36),.mov (.t 0)⟩,
  ⟨none,(some 37),.mov (.t 6)⟩,
  ⟨none,(some 38),.slcS 1 (.t 36) (some (.t 37)) none none⟩,
  ⟨none,(some 39),.app 1 16 (.t 35) (.t 38)⟩,
  ⟨none,(some 4),.mov (.t 39)⟩,
  ⟨none,none,.apart (.t 36) (.t 35)⟩])
 .ret))))))
 ntmps:=40
 res:=[.tmp 4]
theorem zbv8:zsjc P Try.f43=some a43:=by kernel_rfl
def z5j4:ACode :=
 (.seq (.seq (.region false [⟨none,(some 11),.mov (.t 5)⟩,
  ⟨none,(some 12),.mov (.t 0)⟩,
  ⟨none,(some 13),.len (.t 12)⟩,
  ⟨none,(some 14),.bin .lss (.t 11) (.t 13)⟩])
 (.cond (.t 14) .skip
 (.exit 0)))
 (.seq (.block 1 (.seq (.region true [⟨none,(some 17),.mov (.t 0)⟩,
  ⟨none,(some 18),.mov (.t 5)⟩,
  ⟨none,(some 19),.idxS 33 (.t 17) (.t 18)⟩,
  ⟨none,(some 20),.load 33 true (.t 19)⟩,
  ⟨none,(some 21),.mov (.t 1)⟩,
  ⟨none,(some 22),.mov (.t 5)⟩,
  ⟨none,(some 23),.idxS 33 (.t 21) (.t 22)⟩,
  ⟨none,(some 24),.load 33 true (.t 23)⟩,
  ⟨none,(some 25),.eqa true [(1,1),(32,0)] (.t 20) (.t 24)⟩])
 (.cond (.t 25) (.seq (.region false [⟨none,(some 4),.mov (.k (.bool false))⟩])
 .ret)
 .skip)))
 (.region false [⟨none,(some 15),.mov (.t 5)⟩,
  ⟨none,(some 16),.bin .add (.t 15) (.k (.int .i64 1))⟩,
  ⟨none,(some 5),.mov (.t 16)⟩])))
def zudq (x0 x1 x5:DV) (h:List AObj):St:=⟨[x0,x1,.junk,.junk,.junk,x5]++js 20,h⟩
def a50:AFn where
 code:=(.seq (.region false [⟨none,(some 4),.mov (.k (.bool false))⟩])
 (.seq (.seq (.region false [⟨none,(some 6),.mov (.t 0)⟩,
  ⟨none,(some 7),.len (.t 6)⟩,
  ⟨none,(some 8),.mov (.t 1)⟩,
  ⟨none,(some 9),.len (.t 8)⟩,
  ⟨none,(some 10),.bin .neq (.t 7) (.t 9)⟩])
 (.cond (.t 10) (.seq (.region false [⟨none,(some 4),.mov (.k (.bool false))⟩])
 .ret)
 .skip))
 (.seq (.seq (.region false [⟨none,(some 5),.mov (.k (.int .i64 0))⟩])
 (.block 0 (.loop z5j4)))
 (.seq (.region false [⟨none,(some 4),.mov (.k (.bool true))⟩])
 .ret))))
 ntmps:=26
 res:=[.tmp 4]
theorem z12y:zsjc P Try.f50=some a50:=by kernel_rfl
def a42:AFn where
 code:=(.seq (.region false [⟨none,(some 1),.box (.t 0)⟩,
  ⟨none,(some 2),.alloc [(.str []),.nils,.nils]⟩])
 (.seq (.region false [⟨none,(some 3),.fld 2 (.t 1)⟩,
  ⟨none,(some 4),.load 1 false (.t 3)⟩,
  ⟨none,(some 5),.fld 6 (.t 1)⟩,
  ⟨none,(some 6),.load 1 false (.t 5)⟩,
  ⟨none,(some 7),.fld 7 (.t 1)⟩,
  ⟨none,(some 8),.load 1 false (.t 7)⟩,
  ⟨none,(some 9),.build [(.str []),.nils,.nils] [(0,1,(.t 4)),(1,1,(.t 6)),(2,1,(.t 8))]⟩,
  ⟨none,none,.store 3 (.t 2) (.t 9)⟩])
 .ret))
 ntmps:=10
 res:=[.cell 2 3 true]
theorem zl17:zsjc P Try.f42=some a42:=by kernel_rfl
def a47:AFn where
 code:=(.seq (.region false [⟨none,(some 2),.box (.t 0)⟩,
  ⟨none,(some 3),.box (.t 1)⟩,
  ⟨none,(some 4),.mov (.k (.bool false))⟩])
 (.seq (.region false [⟨none,(some 5),.fld 0 (.t 2)⟩,
  ⟨none,(some 6),.load 1 false (.t 5)⟩,
  ⟨none,(some 7),.fld 0 (.t 3)⟩,
  ⟨none,(some 8),.load 1 false (.t 7)⟩,
  ⟨none,(some 9),.bin .eql (.t 6) (.t 8)⟩,
  ⟨none,(some 10),.mov (.t 9)⟩,
  ⟨(some (10,true)),(some 11),.fld 1 (.t 2)⟩,
  ⟨(some (10,true)),(some 12),.load 1 false (.t 11)⟩,
  ⟨(some (10,true)),(some 13),.fld 1 (.t 3)⟩,
  ⟨(some (10,true)),(some 14),.load 1 false (.t 13)⟩,
  ⟨(some (10,true)),(some 15),.call (.k (.fn (.func 50) [] [])) [(.t 12),(.t 14)]⟩,
  ⟨none,(some 16),.pick (.t 10) (.t 15) (.k (.bool false))⟩,
  ⟨none,(some 17),.mov (.t 16)⟩,
  ⟨(some (17,true)),(some 18),.fld 2 (.t 2)⟩,
  ⟨(some (17,true)),(some 19),.load 1 false (.t 18)⟩,
  ⟨(some (17,true)),(some 20),.fld 2 (.t 3)⟩,
  ⟨(some (17,true)),(some 21),.load 1 false (.t 20)⟩,
  ⟨(some (17,true)),(some 22),.call (.k (.fn (.func 50) [] [])) [(.t 19),(.t 21)]⟩,
  ⟨none,(some 23),.pick (.t 17) (.t 22) (.k (.bool false))⟩,
  ⟨none,(some 4),.mov (.t 23)⟩])
 .ret))
 ntmps:=24
 res:=[.tmp 4]
theorem zzqr:zsjc P Try.f47=some a47:=by kernel_rfl
def zkwz:ACode :=
 (.seq (.seq (.region false [⟨none,(some 42),.mov (.t 5)⟩,
  ⟨none,(some 43),.fld 5 (.t 2)⟩,
  ⟨none,(some 44),.load 1 false (.t 43)⟩,
  ⟨none,(some 45),.len (.t 44)⟩,
  ⟨none,(some 46),.bin .lss (.t 42) (.t 45)⟩])
 (.cond (.t 46) .skip
 (.exit 0)))
 (.seq (.block 1 (.seq (.region true [⟨none,(some 49),.fld 5 (.t 2)⟩,
  ⟨none,(some 50),.load 1 false (.t 49)⟩,
  ⟨none,(some 51),.mov (.t 5)⟩,
  ⟨none,(some 52),.idxS 2 (.t 50) (.t 51)⟩,
  ⟨none,(some 53),.load 2 true (.t 52)⟩,
  ⟨none,(some 54),.fld 5 (.t 3)⟩,
  ⟨none,(some 55),.load 1 false (.t 54)⟩,
  ⟨none,(some 56),.mov (.t 5)⟩,
  ⟨none,(some 57),.idxS 2 (.t 55) (.t 56)⟩,
  ⟨none,(some 58),.load 2 true (.t 57)⟩,
  ⟨none,(some 59),.eqa true [(2,1)] (.t 53) (.t 58)⟩])
 (.cond (.t 59) (.seq (.region false [⟨none,(some 4),.mov (.k (.bool false))⟩])
 .ret)
 .skip)))
 (.region false [⟨none,(some 47),.mov (.t 5)⟩,
  ⟨none,(some 48),.bin .add (.t 47) (.k (.int .i64 1))⟩,
  ⟨none,(some 5),.mov (.t 48)⟩])))
def zuuu (x2 x3 x5:DV) (h:List AObj):St:=⟨[.junk,.junk,x2,x3,.junk,x5]++js 59,h⟩
def a28:AFn where
 code:=(.seq (.region false [⟨none,(some 2),.box (.t 0)⟩,
  ⟨none,(some 3),.box (.t 1)⟩,
  ⟨none,(some 4),.mov (.k (.bool false))⟩])
 (.seq (.seq (.region false [⟨none,(some 6),.fld 0 (.t 2)⟩,
  ⟨none,(some 7),.load 1 false (.t 6)⟩,
  ⟨none,(some 8),.fld 0 (.t 3)⟩,
  ⟨none,(some 9),.load 1 false (.t 8)⟩,
  ⟨none,(some 10),.bin .neq (.t 7) (.t 9)⟩,
  ⟨none,(some 11),.mov (.t 10)⟩,
  ⟨(some (11,false)),(some 12),.fld 1 (.t 2)⟩,
  ⟨(some (11,false)),(some 13),.load 1 false (.t 12)⟩,
  ⟨(some (11,false)),(some 14),.fld 1 (.t 3)⟩,
  ⟨(some (11,false)),(some 15),.load 1 false (.t 14)⟩,
  ⟨(some (11,false)),(some 16),.bin .neq (.t 13) (.t 15)⟩,
  ⟨none,(some 17),.pick (.t 11) (.k (.bool true)) (.t 16)⟩,
  ⟨none,(some 18),.mov (.t 17)⟩,
  ⟨(some (18,false)),(some 19),.fld 3 (.t 2)⟩,
  ⟨(some (18,false)),(some 20),.load 1 false (.t 19)⟩,
  ⟨(some (18,false)),(some 21),.fld 3 (.t 3)⟩,
  ⟨(some (18,false)),(some 22),.load 1 false (.t 21)⟩,
  ⟨(some (18,false)),(some 23),.bin .neq (.t 20) (.t 22)⟩,
  ⟨none,(some 24),.pick (.t 18) (.k (.bool true)) (.t 23)⟩,
  ⟨none,(some 25),.mov (.t 24)⟩,
  ⟨(some (25,false)),(some 26),.fld 4 (.t 2)⟩,
  ⟨(some (25,false)),(some 27),.load 1 false (.t 26)⟩,
  ⟨(some (25,false)),(some 28),.fld 4 (.t 3)⟩,
  ⟨(some (25,false)),(some 29),.load 1 false (.t 28)⟩,
  ⟨(some (25,false)),(some 30),.call (.k (.fn (.func 17) [] [])) [(.t 27),(.t 29)]⟩,
  ⟨(some (25,false)),(some 31),.un .not (.t 30)⟩,
  ⟨none,(some 32),.pick (.t 25) (.k (.bool true)) (.t 31)⟩,
  ⟨none,(some 33),.mov (.t 32)⟩,
  ⟨(some (33,false)),(some 34),.fld 5 (.t 2)⟩,
  ⟨(some (33,false)),(some 35),.load 1 false (.t 34)⟩,
  ⟨(some (33,false)),(some 36),.len (.t 35)⟩,
  ⟨(some (33,false)),(some 37),.fld 5 (.t 3)⟩,
  ⟨(some (33,false)),(some 38),.load 1 false (.t 37)⟩,
  ⟨(some (33,false)),(some 39),.len (.t 38)⟩,
  ⟨(some (33,false)),(some 40),.bin .neq (.t 36) (.t 39)⟩,
  ⟨none,(some 41),.pick (.t 33) (.k (.bool true)) (.t 40)⟩])
 (.cond (.t 41) (.seq (.region false [⟨none,(some 4),.mov (.k (.bool false))⟩])
 .ret)
 .skip))
 (.seq (.seq (.region false [⟨none,(some 5),.mov (.k (.int .i64 0))⟩])
 (.block 0 (.loop zkwz)))
 (.seq (.region true [⟨none,(some 60),.load 8 true (.t 2)⟩,
  ⟨none,(some 62),.load 8 true (.t 3)⟩,
  ⟨none,(some 61),.callN (.k (.fn (.func 42) [] [])) [(.t 60)]⟩,
  ⟨none,(some 63),.callN (.k (.fn (.func 42) [] [])) [(.t 62)]⟩,
  ⟨none,(some 64),.callN (.k (.fn (.func 47) [] [])) [(.t 61),(.t 63)]⟩,
  ⟨none,(some 4),.mov (.t 64)⟩])
 .ret))))
 ntmps:=65
 res:=[.tmp 4]
theorem z43f:zsjc P Try.f28=some a28:=by kernel_rfl
def a22:AFn where
 code:=(.seq (.region false [⟨none,(some 2),.box (.t 0)⟩,
  ⟨none,(some 3),.box (.t 1)⟩,
  ⟨none,(some 4),.mov (.k (.bool false))⟩])
 (.seq (.region false [⟨none,(some 5),.fld 1 (.t 2)⟩,
  ⟨none,(some 6),.load 1 false (.t 5)⟩,
  ⟨none,(some 7),.fld 1 (.t 3)⟩,
  ⟨none,(some 8),.load 1 false (.t 7)⟩,
  ⟨none,(some 9),.call (.k (.fn (.func 50) [] [])) [(.t 6),(.t 8)]⟩,
  ⟨none,(some 10),.mov (.t 9)⟩,
  ⟨(some (10,true)),(some 11),.fld 2 (.t 2)⟩,
  ⟨(some (10,true)),(some 12),.load 1 false (.t 11)⟩,
  ⟨(some (10,true)),(some 13),.fld 2 (.t 3)⟩,
  ⟨(some (10,true)),(some 14),.load 1 false (.t 13)⟩,
  ⟨(some (10,true)),(some 15),.call (.k (.fn (.func 50) [] [])) [(.t 12),(.t 14)]⟩,
  ⟨none,(some 16),.pick (.t 10) (.t 15) (.k (.bool false))⟩,
  ⟨none,(some 4),.mov (.t 16)⟩])
 .ret))
 ntmps:=17
 res:=[.tmp 4]
theorem zi98:zsjc P Try.f22=some a22:=by kernel_rfl
def zv5f:ACode :=
 (.seq (.seq (.region false [⟨none,(some 8),.mov (.t 6)⟩,
  ⟨none,(some 9),.mov (.t 1)⟩,
  ⟨none,(some 10),.len (.t 9)⟩,
  ⟨none,(some 11),.bin .lss (.t 8) (.t 10)⟩])
 (.cond (.t 11) .skip
 (.exit 0)))
 (.seq (.block 1 (.seq (.region false [⟨none,(some 14),.mov (.t 1)⟩,
  ⟨none,(some 15),.mov (.t 6)⟩,
  ⟨none,(some 16),.idxS 9 (.t 14) (.t 15)⟩,
  ⟨none,(some 17),.load 9 true (.t 16)⟩,
  ⟨none,(some 7),.alloc [(.str []),(.str []),(.str []),(.str []),(.int .i64 0),.nils,.nils,.nils,.nils]⟩,
  ⟨none,none,.store 9 (.t 7) (.t 17)⟩])
 (.seq (.region false [⟨none,(some 18),.fld 3 (.t 2)⟩,
  ⟨none,(some 19),.load 1 false (.t 18)⟩,
  ⟨none,(some 20),.fld 0 (.t 7)⟩,
  ⟨none,(some 21),.load 1 false (.t 20)⟩,
  ⟨none,(some 22),.call (.k (.fn (.func 24) [] [])) [(.t 19),(.t 21)]⟩,
  ⟨none,(some 23),.mov (.t 22)⟩,
  ⟨(some (23,true)),(some 24),.fld 1 (.t 7)⟩,
  ⟨(some (23,true)),(some 25),.fld 2 (.t 24)⟩,
  ⟨(some (23,true)),(some 26),.load 1 false (.t 25)⟩,
  ⟨(some (23,true)),(some 27),.fld 0 (.t 2)⟩,
  ⟨(some (23,true)),(some 28),.load 1 false (.t 27)⟩,
  ⟨(some (23,true)),(some 29),.bin .eql (.t 26) (.t 28)⟩,
  ⟨none,(some 30),.pick (.t 23) (.t 29) (.k (.bool false))⟩,
  ⟨none,(some 31),.mov (.t 30)⟩,
  ⟨(some (31,true)),(some 32),.fld 4 (.t 2)⟩,
  ⟨(some (31,true)),(some 33),.load 1 false (.t 32)⟩,
  ⟨(some (31,true)),(some 34),.len (.t 33)⟩,
  ⟨(some (31,true)),(some 35),.bin .eql (.t 34) (.k (.int .i64 0))⟩,
  ⟨(some (31,true)),(some 36),.mov (.t 35)⟩,
  ⟨(some (36,false)),(some 37),.fld 4 (.t 2)⟩,
  ⟨(some (36,false)),(some 38),.load 1 false (.t 37)⟩,
  ⟨(some (36,false)),(some 39),.fld 1 (.t 7)⟩,
  ⟨(some (36,false)),(some 40),.fld 4 (.t 39)⟩,
  ⟨(some (36,false)),(some 41),.load 1 false (.t 40)⟩,
  ⟨(some (36,false)),(some 42),.call (.k (.fn (.func 17) [] [])) [(.t 38),(.t 41)]⟩,
  ⟨(some (31,true)),(some 43),.pick (.t 36) (.k (.bool true)) (.t 42)⟩,
  ⟨none,(some 44),.pick (.t 31) (.t 43) (.k (.bool false))⟩])
 (.cond (.t 44) (.region false [⟨none,(some 45),.mov (.t 5)⟩,
  ⟨none,(some 46),.load 9 true (.t 7)⟩,
  ⟨none,(some 47),.bsl 9 1 [(.str []),(.str []),(.str []),(.str []),(.int .i64 0),.nils,.nils,.nils,.nils] [(0,9,(.t 46))]⟩,
  ⟨none,(some 48),.app 9 168 (.t 45) (.t 47)⟩,
  ⟨none,(some 5),.mov (.t 48)⟩])
 .skip))))
 (.region false [⟨none,(some 12),.mov (.t 6)⟩,
  ⟨none,(some 13),.bin .add (.t 12) (.k (.int .i64 1))⟩,
  ⟨none,(some 6),.mov (.t 13)⟩])))
def z7en (x1 x2 x5 x6:DV) (h:List AObj):St:=⟨[.junk,x1,x2,.junk,.junk,x5,x6]++js 43,h⟩
def a11:AFn where
 code:=(.seq (.region false [⟨none,(some 2),.box (.t 0)⟩,
  ⟨none,(some 4),.mov (.k .nils)⟩])
 (.seq (.region false [⟨none,(some 5),.mov (.k .nils)⟩])
 (.seq (.seq (.region false [⟨none,(some 6),.mov (.k (.int .i64 0))⟩])
 (.block 0 (.loop zv5f)))
 (.seq (.region false [⟨none,(some 49),.mov (.t 5)⟩,
  ⟨none,(some 4),.mov (.t 49)⟩])
 .ret))))
 ntmps:=50
 res:=[.tmp 4]
theorem zbwx:zsjc P Try.f11=some a11:=by kernel_rfl
def zn9l:ACode :=
 (.seq (.seq (.region false [⟨none,(some 12),.mov (.t 5)⟩,
  ⟨none,(some 13),.mov (.t 4)⟩,
  ⟨none,(some 14),.bin .lss (.t 12) (.t 13)⟩])
 (.cond (.t 14) .skip
 (.exit 2)))
 (.seq (.block 3 (.seq (.region true [⟨none,(some 17),.mov (.t 0)⟩,
  ⟨none,(some 18),.mov (.t 4)⟩,
  ⟨none,(some 19),.idxS 9 (.t 17) (.t 18)⟩,
  ⟨none,(some 20),.fld 0 (.t 19)⟩,
  ⟨none,(some 21),.load 1 false (.t 20)⟩,
  ⟨none,(some 22),.mov (.t 0)⟩,
  ⟨none,(some 23),.mov (.t 5)⟩,
  ⟨none,(some 24),.idxS 9 (.t 22) (.t 23)⟩,
  ⟨none,(some 25),.fld 0 (.t 24)⟩,
  ⟨none,(some 26),.load 1 false (.t 25)⟩,
  ⟨none,(some 27),.bin .eql (.t 21) (.t 26)⟩,
  ⟨none,(some 28),.mov (.t 27)⟩,
  ⟨(some (28,true)),(some 29),.mov (.t 0)⟩,
  ⟨(some (28,true)),(some 30),.mov (.t 4)⟩,
  ⟨(some (28,true)),(some 31),.idxS 9 (.t 29) (.t 30)⟩,
  ⟨(some (28,true)),(some 32),.fld 1 (.t 31)⟩,
  ⟨(some (28,true)),(some 33),.load 8 true (.t 32)⟩,
  ⟨(some (28,true)),(some 35),.mov (.t 0)⟩,
  ⟨(some (28,true)),(some 36),.mov (.t 5)⟩,
  ⟨(some (28,true)),(some 37),.idxS 9 (.t 35) (.t 36)⟩,
  ⟨(some (28,true)),(some 38),.fld 1 (.t 37)⟩,
  ⟨(some (28,true)),(some 39),.load 8 true (.t 38)⟩,
  ⟨(some (28,true)),(some 34),.callN (.k (.fn (.func 42) [] [])) [(.t 33)]⟩,
  ⟨(some (28,true)),(some 40),.callN (.k (.fn (.func 42) [] [])) [(.t 39)]⟩,
  ⟨(some (28,true)),(some 41),.callN (.k (.fn (.func 22) [] [])) [(.t 34),(.t 40)]⟩,
  ⟨(some (28,true)),(some 42),.un .not (.t 41)⟩,
  ⟨none,(some 43),.pick (.t 28) (.t 42) (.k (.bool false))⟩])
 (.cond (.t 43) (.region false [⟨none,(some 44),.mov (.t 3)⟩,
  ⟨none,(some 45),.mov (.t 0)⟩,
  ⟨none,(some 46),.mov (.t 4)⟩,
  ⟨none,(some 47),.idxS 9 (.t 45) (.t 46)⟩,
  ⟨none,(some 48),.fld 0 (.t 47)⟩,
  ⟨none,(some 49),.load 1 false (.t 48)⟩,
  ⟨none,(some 50),.call (.k (.fn (.func 43) [] [])) [(.t 44),(.t 49)]⟩,
  ⟨none,(some 3),.mov (.t 50)⟩])
 .skip)))
 (.region false [⟨none,(some 15),.mov (.t 5)⟩,
  ⟨none,(some 16),.bin .add (.t 15) (.k (.int .i64 1))⟩,
  ⟨none,(some 5),.mov (.t 16)⟩])))
def zz9m (x0 x3 x4 x5:DV) (h:List AObj):St:=⟨[x0,.junk,.junk,x3,x4,x5]++js 46,h⟩
def zumm:ACode :=
 (.seq (.seq (.region false [⟨none,(some 6),.mov (.t 4)⟩,
  ⟨none,(some 7),.mov (.t 0)⟩,
  ⟨none,(some 8),.len (.t 7)⟩,
  ⟨none,(some 9),.bin .lss (.t 6) (.t 8)⟩])
 (.cond (.t 9) .skip
 (.exit 0)))
 (.seq (.block 1 (.seq (.region false [⟨none,(some 5),.mov (.k (.int .i64 0))⟩])
 (.block 2 (.loop zn9l))))
 (.region false [⟨none,(some 10),.mov (.t 4)⟩,
  ⟨none,(some 11),.bin .add (.t 10) (.k (.int .i64 1))⟩,
  ⟨none,(some 4),.mov (.t 11)⟩])))
def z96a (x0 x3 x4:DV) (h:List AObj):St:=⟨[x0,.junk,.junk,x3,x4]++js 47,h⟩
def a41:AFn where
 code:=(.seq (.region false [⟨none,(some 2),.mov (.k .nils)⟩])
 (.seq (.region false [⟨none,(some 3),.mov (.k .nils)⟩])
 (.seq (.seq (.region false [⟨none,(some 4),.mov (.k (.int .i64 0))⟩])
 (.block 0 (.loop zumm)))
 (.seq (.region false [⟨none,(some 51),.mov (.t 3)⟩,
  ⟨none,(some 2),.mov (.t 51)⟩])
 .ret))))
 ntmps:=52
 res:=[.tmp 2]
theorem z5y8:zsjc P Try.f41=some a41:=by kernel_rfl
def a64:AFn where
 code:=(.seq (.region false [⟨none,(some 2),.box (.t 0)⟩,
  ⟨none,(some 3),.box (.t 1)⟩,
  ⟨none,(some 4),.mov (.k (.bool false))⟩])
 (.seq (.seq (.region false [⟨none,(some 5),.fld 3 (.t 2)⟩,
  ⟨none,(some 6),.load 1 false (.t 5)⟩,
  ⟨none,(some 7),.len (.t 6)⟩,
  ⟨none,(some 8),.fld 3 (.t 3)⟩,
  ⟨none,(some 9),.load 1 false (.t 8)⟩,
  ⟨none,(some 10),.len (.t 9)⟩,
  ⟨none,(some 11),.bin .neq (.t 7) (.t 10)⟩])
 (.cond (.t 11) (.seq (.region false [⟨none,(some 12),.fld 3 (.t 2)⟩,
  ⟨none,(some 13),.load 1 false (.t 12)⟩,
  ⟨none,(some 14),.len (.t 13)⟩,
  ⟨none,(some 15),.fld 3 (.t 3)⟩,
  ⟨none,(some 16),.load 1 false (.t 15)⟩,
  ⟨none,(some 17),.len (.t 16)⟩,
  ⟨none,(some 18),.bin .gtr (.t 14) (.t 17)⟩,
  ⟨none,(some 4),.mov (.t 18)⟩])
 .ret)
 .skip))
 (.seq (.region true [⟨none,(some 19),.fld 3 (.t 2)⟩,
  ⟨none,(some 20),.load 1 false (.t 19)⟩,
  ⟨none,(some 21),.idxS 1 (.t 20) (.k (.int .i64 0))⟩,
  ⟨none,(some 22),.load 1 false (.t 21)⟩,
  ⟨none,(some 23),.fld 3 (.t 3)⟩,
  ⟨none,(some 24),.load 1 false (.t 23)⟩,
  ⟨none,(some 25),.idxS 1 (.t 24) (.k (.int .i64 0))⟩,
  ⟨none,(some 26),.load 1 false (.t 25)⟩,
  ⟨none,(some 27),.bin .lss (.t 22) (.t 26)⟩,
  ⟨none,(some 4),.mov (.t 27)⟩])
 .ret)))
 ntmps:=28
 res:=[.tmp 4]
theorem zerh:zsjc P Try.f64=some a64:=by kernel_rfl
def zf25:ACode :=
 (.seq (.seq (.region true [⟨none,(some 12),.mov (.t 5)⟩,
  ⟨none,(some 13),.mov (.t 3)⟩,
  ⟨none,(some 14),.len (.t 13)⟩,
  ⟨none,(some 15),.bin .lss (.t 12) (.t 14)⟩,
  ⟨none,(some 16),.mov (.t 15)⟩,
  ⟨(some (16,true)),(some 17),.mov (.t 3)⟩,
  ⟨(some (16,true)),(some 18),.mov (.t 5)⟩,
  ⟨(some (16,true)),(some 19),.idxS 5 (.t 17) (.t 18)⟩,
  ⟨(some (16,true)),(some 20),.load 5 true (.t 19)⟩,
  ⟨(some (16,true)),(some 21),.mov (.t 0)⟩,
  ⟨(some (16,true)),(some 22),.mov (.t 4)⟩,
  ⟨(some (16,true)),(some 23),.idxS 5 (.t 21) (.t 22)⟩,
  ⟨(some (16,true)),(some 24),.load 5 true (.t 23)⟩,
  ⟨(some (16,true)),(some 25),.callN (.k (.fn (.func 64) [] [])) [(.t 20),(.t 24)]⟩,
  ⟨none,(some 26),.pick (.t 16) (.t 25) (.k (.bool false))⟩])
 (.cond (.t 26) .skip
 (.exit 2)))
 (.block 3 (.region false [⟨none,(some 27),.mov (.t 5)⟩,
  ⟨none,(some 28),.bin .add (.t 27) (.k (.int .i64 1))⟩,
  ⟨none,(some 5),.mov (.t 28)⟩])))
def ziy1 (x0 x3 x4 x5:DV) (h:List AObj):St:=⟨[x0,.junk,.junk,x3,x4,x5]++js 39,h⟩
def zktq:ACode :=
 (.seq (.seq (.region false [⟨none,(some 6),.mov (.t 4)⟩,
  ⟨none,(some 7),.mov (.t 0)⟩,
  ⟨none,(some 8),.len (.t 7)⟩,
  ⟨none,(some 9),.bin .lss (.t 6) (.t 8)⟩])
 (.cond (.t 9) .skip
 (.exit 0)))
 (.seq (.block 1 (.seq (.region false [⟨none,(some 5),.mov (.k (.int .i64 0))⟩])
 (.seq (.block 2 (.loop zf25))
 (.region true [⟨none,(some 29),.bsl 5 0 [(.str []),.nils,.nils,.nils,.nils] []⟩,
  ⟨none,(some 30),.mov (.t 3)⟩,
  ⟨none,(some 31),.mov (.t 5)⟩,
  ⟨none,(some 32),.slcS 5 (.t 30) none (some (.t 31)) none⟩,
  ⟨none,(some 33),.app 5 112 (.t 29) (.t 32)⟩,
  ⟨none,(some 34),.mov (.t 0)⟩,
  ⟨none,(some 35),.mov (.t 4)⟩,
  ⟨none,(some 36),.idxS 5 (.t 34) (.t 35)⟩,
  ⟨none,(some 37),.load 5 true (.t 36)⟩,
  ⟨none,(some 38),.bsl 5 1 [(.str []),.nils,.nils,.nils,.nils] [(0,5,(.t 37))]⟩,
  ⟨none,(some 39),.app 5 112 (.t 33) (.t 38)⟩,
  ⟨none,(some 40),.mov (.t 3)⟩,
  ⟨none,(some 41),.mov (.t 5)⟩,
  ⟨none,(some 42),.slcS 5 (.t 40) (some (.t 41)) none none⟩,
  ⟨none,(some 43),.app 5 112 (.t 39) (.t 42)⟩,
  ⟨none,(some 3),.mov (.t 43)⟩,
  ⟨none,none,.apart (.t 34) (.t 33)⟩,
  ⟨none,none,.apart (.t 36) (.t 33)⟩,
  ⟨none,none,.apart (.t 40) (.t 33)⟩,
  ⟨none,none,.apart (.t 40) (.t 39)⟩]))))
 (.region false [⟨none,(some 10),.mov (.t 4)⟩,
  ⟨none,(some 11),.bin .add (.t 10) (.k (.int .i64 1))⟩,
  ⟨none,(some 4),.mov (.t 11)⟩])))
def zuwp (x0 x3 x4:DV) (h:List AObj):St:=⟨[x0,.junk,.junk,x3,x4]++js 40,h⟩
def a44:AFn where
 code:=(.seq (.region false [⟨none,(some 2),.mov (.k .nils)⟩])
 (.seq (.region false [⟨none,(some 3),.mov (.k .nils)⟩])
 (.seq (.seq (.region false [⟨none,(some 4),.mov (.k (.int .i64 0))⟩])
 (.block 0 (.loop zktq)))
 (.seq (.region false [⟨none,(some 44),.mov (.t 3)⟩,
  ⟨none,(some 2),.mov (.t 44)⟩])
 .ret))))
 ntmps:=45
 res:=[.tmp 2]
theorem zeo7:zsjc P Try.f44=some a44:=by kernel_rfl
def zrap:ACode :=
 (.seq (.seq (.region true [⟨none,(some 35),.mov (.t 10)⟩,
  ⟨none,(some 36),.mov (.t 7)⟩,
  ⟨none,(some 37),.len (.t 36)⟩,
  ⟨none,(some 38),.bin .lss (.t 35) (.t 37)⟩,
  ⟨none,(some 39),.mov (.t 38)⟩,
  ⟨(some (39,true)),(some 40),.mov (.t 7)⟩,
  ⟨(some (39,true)),(some 41),.mov (.t 10)⟩,
  ⟨(some (39,true)),(some 42),.idxS 5 (.t 40) (.t 41)⟩,
  ⟨(some (39,true)),(some 43),.fld 0 (.t 42)⟩,
  ⟨(some (39,true)),(some 44),.load 3 true (.t 43)⟩,
  ⟨(some (39,true)),(some 45),.load 3 true (.t 9)⟩,
  ⟨(some (39,true)),(some 46),.callN (.k (.fn (.func 22) [] [])) [(.t 44),(.t 45)]⟩,
  ⟨(some (39,true)),(some 47),.un .not (.t 46)⟩,
  ⟨none,(some 48),.pick (.t 39) (.t 47) (.k (.bool false))⟩])
 (.cond (.t 48) .skip
 (.exit 2)))
 (.block 3 (.region false [⟨none,(some 49),.mov (.t 10)⟩,
  ⟨none,(some 50),.bin .add (.t 49) (.k (.int .i64 1))⟩,
  ⟨none,(some 10),.mov (.t 50)⟩])))
def z6xj (x1 x2 x6 x7 x8 x9 x10:DV) (h:List AObj):St:=⟨[.junk,x1,x2,.junk,.junk,.junk,x6,x7,x8,x9,x10]++js 70,h⟩
def zml0:ACode :=
 (.seq (.seq (.region false [⟨none,(some 16),.mov (.t 8)⟩,
  ⟨none,(some 17),.mov (.t 1)⟩,
  ⟨none,(some 18),.len (.t 17)⟩,
  ⟨none,(some 19),.bin .lss (.t 16) (.t 18)⟩])
 (.cond (.t 19) .skip
 (.exit 0)))
 (.seq (.block 1 (.seq (.seq (.region false [⟨none,(some 22),.mov (.t 6)⟩,
  ⟨none,(some 23),.mov (.t 1)⟩,
  ⟨none,(some 24),.mov (.t 8)⟩,
  ⟨none,(some 25),.idxS 9 (.t 23) (.t 24)⟩,
  ⟨none,(some 26),.fld 0 (.t 25)⟩,
  ⟨none,(some 27),.load 1 false (.t 26)⟩,
  ⟨none,(some 28),.call (.k (.fn (.func 24) [] [])) [(.t 22),(.t 27)]⟩])
 (.cond (.t 28) (.exit 1)
 .skip))
 (.seq (.region false [⟨none,(some 29),.mov (.t 1)⟩,
  ⟨none,(some 30),.mov (.t 8)⟩,
  ⟨none,(some 31),.idxS 9 (.t 29) (.t 30)⟩,
  ⟨none,(some 32),.fld 1 (.t 31)⟩,
  ⟨none,(some 33),.load 8 true (.t 32)⟩,
  ⟨none,(some 34),.call (.k (.fn (.func 42) [] [])) [(.t 33)]⟩,
  ⟨none,(some 9),.alloc [(.str []),.nils,.nils]⟩,
  ⟨none,none,.store 3 (.t 9) (.t 34)⟩])
 (.seq (.region false [⟨none,(some 10),.mov (.k (.int .i64 0))⟩])
 (.seq (.block 2 (.loop zrap))
 (.seq (.seq (.region false [⟨none,(some 51),.mov (.t 10)⟩,
  ⟨none,(some 52),.mov (.t 7)⟩,
  ⟨none,(some 53),.len (.t 52)⟩,
  ⟨none,(some 54),.bin .eql (.t 51) (.t 53)⟩])
 (.cond (.t 54) (.seq (.region false [⟨none,(some 55),.fld 0 (.t 2)⟩,
  ⟨none,(some 56),.load 1 false (.t 55)⟩,
  ⟨none,(some 57),.fld 0 (.t 9)⟩,
  ⟨none,none,.store 1 (.t 57) (.t 56)⟩])
 (.region false [⟨none,(some 58),.mov (.t 7)⟩,
  ⟨none,(some 59),.load 3 true (.t 9)⟩,
  ⟨none,(some 60),.build [(.str []),.nils,.nils,.nils,.nils] [(0,3,(.t 59))]⟩,
  ⟨none,(some 61),.bsl 5 1 [(.str []),.nils,.nils,.nils,.nils] [(0,5,(.t 60))]⟩,
  ⟨none,(some 62),.app 5 112 (.t 58) (.t 61)⟩,
  ⟨none,(some 7),.mov (.t 62)⟩]))
 .skip))
 (.region true [⟨none,(some 63),.mov (.t 7)⟩,
  ⟨none,(some 64),.mov (.t 10)⟩,
  ⟨none,(some 65),.mov (.t 7)⟩,
  ⟨none,(some 66),.mov (.t 10)⟩,
  ⟨none,(some 67),.idxS 5 (.t 65) (.t 66)⟩,
  ⟨none,(some 68),.fld 3 (.t 67)⟩,
  ⟨none,(some 69),.load 1 false (.t 68)⟩,
  ⟨none,(some 70),.mov (.t 1)⟩,
  ⟨none,(some 71),.mov (.t 8)⟩,
  ⟨none,(some 72),.idxS 9 (.t 70) (.t 71)⟩,
  ⟨none,(some 73),.fld 0 (.t 72)⟩,
  ⟨none,(some 74),.load 1 false (.t 73)⟩,
  ⟨none,(some 75),.callN (.k (.fn (.func 43) [] [])) [(.t 69),(.t 74)]⟩,
  ⟨none,(some 76),.idxS 5 (.t 63) (.t 64)⟩,
  ⟨none,(some 77),.fld 3 (.t 76)⟩,
  ⟨none,none,.store 1 (.t 77) (.t 75)⟩])))))))
 (.region false [⟨none,(some 20),.mov (.t 8)⟩,
  ⟨none,(some 21),.bin .add (.t 20) (.k (.int .i64 1))⟩,
  ⟨none,(some 8),.mov (.t 21)⟩])))
def z91a (x1 x2 x6 x7 x8:DV) (h:List AObj):St:=⟨[.junk,x1,x2,.junk,.junk,.junk,x6,x7,x8]++js 72,h⟩
def a13:AFn where
 code:=(.seq (.region false [⟨none,(some 2),.box (.t 0)⟩,
  ⟨none,(some 4),.mov (.k .nils)⟩,
  ⟨none,(some 5),.mov (.k .nils)⟩])
 (.seq (.region false [⟨none,(some 11),.load 7 true (.t 2)⟩,
  ⟨none,(some 12),.mov (.t 1)⟩,
  ⟨none,(some 13),.call (.k (.fn (.func 11) [] [])) [(.t 11),(.t 12)]⟩,
  ⟨none,(some 1),.mov (.t 13)⟩])
 (.seq (.region false [⟨none,(some 14),.mov (.t 1)⟩,
  ⟨none,(some 15),.call (.k (.fn (.func 41) [] [])) [(.t 14)]⟩,
  ⟨none,(some 6),.mov (.t 15)⟩])
 (.seq (.region false [⟨none,(some 7),.mov (.k .nils)⟩])
 (.seq (.seq (.region false [⟨none,(some 8),.mov (.k (.int .i64 0))⟩])
 (.block 0 (.loop zml0)))
 (.seq (.region false [⟨none,(some 78),.mov (.t 7)⟩,
  ⟨none,(some 79),.call (.k (.fn (.func 44) [] [])) [(.t 78)]⟩,
  ⟨none,(some 80),.mov (.t 6)⟩,
  ⟨none,(some 4),.mov (.t 79)⟩,
  ⟨none,(some 5),.mov (.t 80)⟩])
 .ret))))))
 ntmps:=81
 res:=[.tmp 4,.tmp 5]
theorem zm5y:zsjc P Try.f13=some a13:=by kernel_rfl
def a15:AFn where
 code:=(.seq (.region false [⟨none,(some 2),.box (.t 0)⟩,
  ⟨none,(some 4),.alloc [(.str []),.nils,.nils,.nils,.nils]⟩,
  ⟨none,(some 5),.mov (.k (.int .i64 0))⟩])
 (.seq (.region false [⟨none,(some 10),.load 7 true (.t 2)⟩,
  ⟨none,(some 11),.mov (.t 1)⟩,
  ⟨none,(some 12),.call (.k (.fn (.func 13) [] [])) [(.t 10),(.t 11)]⟩,
  ⟨none,(some 9),.mov (.t 12)⟩,
  ⟨none,(some 13),.ext (.t 9) 0⟩,
  ⟨none,(some 14),.ext (.t 9) 1⟩,
  ⟨none,(some 6),.mov (.t 13)⟩,
  ⟨none,(some 7),.mov (.t 14)⟩])
 (.seq (.seq (.region true [⟨none,(some 15),.fld 2 (.t 2)⟩,
  ⟨none,(some 16),.load 1 false (.t 15)⟩,
  ⟨none,(some 17),.bin .lss (.t 16) (.k (.int .i64 1))⟩,
  ⟨none,(some 18),.mov (.t 17)⟩,
  ⟨(some (18,false)),(some 19),.mov (.t 6)⟩,
  ⟨(some (18,false)),(some 20),.len (.t 19)⟩,
  ⟨(some (18,false)),(some 21),.bin .eql (.t 20) (.k (.int .i64 0))⟩,
  ⟨none,(some 22),.pick (.t 18) (.k (.bool true)) (.t 21)⟩,
  ⟨none,(some 23),.mov (.t 22)⟩,
  ⟨(some (23,false)),(some 24),.mov (.t 6)⟩,
  ⟨(some (23,false)),(some 25),.idxS 5 (.t 24) (.k (.int .i64 0))⟩,
  ⟨(some (23,false)),(some 26),.fld 3 (.t 25)⟩,
  ⟨(some (23,false)),(some 27),.load 1 false (.t 26)⟩,
  ⟨(some (23,false)),(some 28),.len (.t 27)⟩,
  ⟨(some (23,false)),(some 29),.fld 2 (.t 2)⟩,
  ⟨(some (23,false)),(some 30),.load 1 false (.t 29)⟩,
  ⟨(some (23,false)),(some 31),.bin .lss (.t 28) (.t 30)⟩,
  ⟨none,(some 32),.pick (.t 23) (.k (.bool true)) (.t 31)⟩])
 (.cond (.t 32) (.seq (.region false [⟨none,(some 33),.build [(.str []),.nils,.nils,.nils,.nils] []⟩,
  ⟨none,none,.store 5 (.t 4) (.t 33)⟩,
  ⟨none,(some 5),.mov (.k (.int .i64 10))⟩])
 .ret)
 .skip))
 (.seq (.seq (.region true [⟨none,(some 34),.mov (.t 6)⟩,
  ⟨none,(some 35),.len (.t 34)⟩,
  ⟨none,(some 36),.bin .gtr (.t 35) (.k (.int .i64 1))⟩,
  ⟨none,(some 37),.mov (.t 36)⟩,
  ⟨(some (37,true)),(some 38),.mov (.t 6)⟩,
  ⟨(some (37,true)),(some 39),.idxS 5 (.t 38) (.k (.int .i64 1))⟩,
  ⟨(some (37,true)),(some 40),.fld 3 (.t 39)⟩,
  ⟨(some (37,true)),(some 41),.load 1 false (.t 40)⟩,
  ⟨(some (37,true)),(some 42),.len (.t 41)⟩,
  ⟨(some (37,true)),(some 43),.fld 2 (.t 2)⟩,
  ⟨(some (37,true)),(some 44),.load 1 false (.t 43)⟩,
  ⟨(some (37,true)),(some 45),.bin .geq (.t 42) (.t 44)⟩,
  ⟨none,(some 46),.pick (.t 37) (.t 45) (.k (.bool false))⟩])
 (.cond (.t 46) (.seq (.region false [⟨none,(some 47),.build [(.str []),.nils,.nils,.nils,.nils] []⟩,
  ⟨none,none,.store 5 (.t 4) (.t 47)⟩,
  ⟨none,(some 5),.mov (.k (.int .i64 11))⟩])
 .ret)
 .skip))
 (.seq (.region false [⟨none,(some 48),.mov (.t 6)⟩,
  ⟨none,(some 49),.idxS 5 (.t 48) (.k (.int .i64 0))⟩,
  ⟨none,(some 50),.load 5 true (.t 49)⟩,
  ⟨none,(some 8),.alloc [(.str []),.nils,.nils,.nils,.nils]⟩,
  ⟨none,none,.store 5 (.t 8) (.t 50)⟩])
 (.seq (.region false [⟨none,(some 51),.mov (.t 7)⟩,
  ⟨none,(some 52),.fld 4 (.t 8)⟩,
  ⟨none,none,.store 1 (.t 52) (.t 51)⟩])
 (.seq (.region false [⟨none,(some 53),.load 5 true (.t 8)⟩,
  ⟨none,none,.store 5 (.t 4) (.t 53)⟩,
  ⟨none,(some 5),.mov (.k (.int .i64 0))⟩])
 .ret)))))))
 ntmps:=54
 res:=[.cell 4 5 true,.tmp 5]
theorem zz37:zsjc P Try.f15=some a15:=by kernel_rfl
def a18:AFn where
 code:=(.seq (.region false [⟨none,(some 2),.box (.t 0)⟩,
  ⟨none,(some 3),.box (.t 1)⟩,
  ⟨none,(some 4),.mov (.k (.bool false))⟩])
 (.seq (.region false [⟨none,(some 5),.fld 0 (.t 2)⟩,
  ⟨none,(some 6),.load 3 true (.t 5)⟩,
  ⟨none,(some 7),.fld 0 (.t 3)⟩,
  ⟨none,(some 8),.load 3 true (.t 7)⟩,
  ⟨none,(some 9),.call (.k (.fn (.func 47) [] [])) [(.t 6),(.t 8)]⟩,
  ⟨none,(some 10),.mov (.t 9)⟩,
  ⟨(some (10,true)),(some 11),.fld 3 (.t 2)⟩,
  ⟨(some (10,true)),(some 12),.load 1 false (.t 11)⟩,
  ⟨(some (10,true)),(some 13),.fld 3 (.t 3)⟩,
  ⟨(some (10,true)),(some 14),.load 1 false (.t 13)⟩,
  ⟨(some (10,true)),(some 15),.call (.k (.fn (.func 17) [] [])) [(.t 12),(.t 14)]⟩,
  ⟨none,(some 16),.pick (.t 10) (.t 15) (.k (.bool false))⟩,
  ⟨none,(some 17),.mov (.t 16)⟩,
  ⟨(some (17,true)),(some 18),.fld 4 (.t 2)⟩,
  ⟨(some (17,true)),(some 19),.load 1 false (.t 18)⟩,
  ⟨(some (17,true)),(some 20),.fld 4 (.t 3)⟩,
  ⟨(some (17,true)),(some 21),.load 1 false (.t 20)⟩,
  ⟨(some (17,true)),(some 22),.call (.k (.fn (.func 17) [] [])) [(.t 19),(.t 21)]⟩,
  ⟨none,(some 23),.pick (.t 17) (.t 22) (.k (.bool false))⟩,
  ⟨none,(some 4),.mov (.t 23)⟩])
 .ret))
 ntmps:=24
 res:=[.tmp 4]
theorem zt5q:zsjc P Try.f18=some a18:=by kernel_rfl
def a9L0:ACode :=
 (.seq (.seq (.region false [⟨none,(some 11),.mov (.t 5)⟩,
  ⟨none,(some 12),.mov (.t 0)⟩,
  ⟨none,(some 13),.len (.t 12)⟩,
  ⟨none,(some 14),.bin .lss (.t 11) (.t 13)⟩])
 (.cond (.t 14) .skip
 (.exit 0)))
 (.seq (.block 1 (.seq (.region true [⟨none,(some 17),.mov (.t 0)⟩,
  ⟨none,(some 18),.mov (.t 5)⟩,
  ⟨none,(some 19),.idxS 9 (.t 17) (.t 18)⟩,
  ⟨none,(some 20),.fld 0 (.t 19)⟩,
  ⟨none,(some 21),.load 1 false (.t 20)⟩,
  ⟨none,(some 22),.mov (.t 1)⟩,
  ⟨none,(some 23),.mov (.t 5)⟩,
  ⟨none,(some 24),.idxS 9 (.t 22) (.t 23)⟩,
  ⟨none,(some 25),.fld 0 (.t 24)⟩,
  ⟨none,(some 26),.load 1 false (.t 25)⟩,
  ⟨none,(some 27),.bin .neq (.t 21) (.t 26)⟩,
  ⟨none,(some 28),.mov (.t 27)⟩,
  ⟨(some (28,false)),(some 29),.mov (.t 0)⟩,
  ⟨(some (28,false)),(some 30),.mov (.t 5)⟩,
  ⟨(some (28,false)),(some 31),.idxS 9 (.t 29) (.t 30)⟩,
  ⟨(some (28,false)),(some 32),.fld 1 (.t 31)⟩,
  ⟨(some (28,false)),(some 33),.load 8 true (.t 32)⟩,
  ⟨(some (28,false)),(some 34),.mov (.t 1)⟩,
  ⟨(some (28,false)),(some 35),.mov (.t 5)⟩,
  ⟨(some (28,false)),(some 36),.idxS 9 (.t 34) (.t 35)⟩,
  ⟨(some (28,false)),(some 37),.fld 1 (.t 36)⟩,
  ⟨(some (28,false)),(some 38),.load 8 true (.t 37)⟩,
  ⟨(some (28,false)),(some 39),.callN (.k (.fn (.func 28) [] [])) [(.t 33),(.t 38)]⟩,
  ⟨(some (28,false)),(some 40),.un .not (.t 39)⟩,
  ⟨none,(some 41),.pick (.t 28) (.k (.bool true)) (.t 40)⟩])
 (.cond (.t 41) (.seq (.region false [⟨none,(some 4),.mov (.k (.bool false))⟩])
 .ret)
 .skip)))
 (.region false [⟨none,(some 15),.mov (.t 5)⟩,
  ⟨none,(some 16),.bin .add (.t 15) (.k (.int .i64 1))⟩,
  ⟨none,(some 5),.mov (.t 16)⟩])))
def a9S0 (x0 x1 x5:DV) (h:List AObj):St:=⟨[x0,x1,.junk,.junk,.junk,x5]++js 36,h⟩
def a9:AFn where
 code:=(.seq (.region false [⟨none,(some 4),.mov (.k (.bool false))⟩])
 (.seq (.seq (.region false [⟨none,(some 6),.mov (.t 0)⟩,
  ⟨none,(some 7),.len (.t 6)⟩,
  ⟨none,(some 8),.mov (.t 1)⟩,
  ⟨none,(some 9),.len (.t 8)⟩,
  ⟨none,(some 10),.bin .neq (.t 7) (.t 9)⟩])
 (.cond (.t 10) (.seq (.region false [⟨none,(some 4),.mov (.k (.bool false))⟩])
 .ret)
 .skip))
 (.seq (.seq (.region false [⟨none,(some 5),.mov (.k (.int .i64 0))⟩])
 (.block 0 (.loop a9L0)))
 (.seq (.region false [⟨none,(some 4),.mov (.k (.bool true))⟩])
 .ret))))
 ntmps:=42
 res:=[.tmp 4]
theorem z528:zsjc P Try.f9=some a9:=by kernel_rfl
def zvfu:ACode :=
 (.seq (.seq (.region false [⟨none,(some 11),.mov (.t 5)⟩,
  ⟨none,(some 12),.mov (.t 0)⟩,
  ⟨none,(some 13),.len (.t 12)⟩,
  ⟨none,(some 14),.bin .lss (.t 11) (.t 13)⟩])
 (.cond (.t 14) .skip
 (.exit 0)))
 (.seq (.block 1 (.seq (.region true [⟨none,(some 17),.mov (.t 0)⟩,
  ⟨none,(some 18),.mov (.t 5)⟩,
  ⟨none,(some 19),.idxS 5 (.t 17) (.t 18)⟩,
  ⟨none,(some 20),.load 5 true (.t 19)⟩,
  ⟨none,(some 21),.mov (.t 1)⟩,
  ⟨none,(some 22),.mov (.t 5)⟩,
  ⟨none,(some 23),.idxS 5 (.t 21) (.t 22)⟩,
  ⟨none,(some 24),.load 5 true (.t 23)⟩,
  ⟨none,(some 25),.callN (.k (.fn (.func 18) [] [])) [(.t 20),(.t 24)]⟩,
  ⟨none,(some 26),.un .not (.t 25)⟩])
 (.cond (.t 26) (.seq (.region false [⟨none,(some 4),.mov (.k (.bool false))⟩])
 .ret)
 .skip)))
 (.region false [⟨none,(some 15),.mov (.t 5)⟩,
  ⟨none,(some 16),.bin .add (.t 15) (.k (.int .i64 1))⟩,
  ⟨none,(some 5),.mov (.t 16)⟩])))
def zs05 (x0 x1 x5:DV) (h:List AObj):St:=⟨[x0,x1,.junk,.junk,.junk,x5]++js 21,h⟩
def a16:AFn where
 code:=(.seq (.region false [⟨none,(some 4),.mov (.k (.bool false))⟩])
 (.seq (.seq (.region false [⟨none,(some 6),.mov (.t 0)⟩,
  ⟨none,(some 7),.len (.t 6)⟩,
  ⟨none,(some 8),.mov (.t 1)⟩,
  ⟨none,(some 9),.len (.t 8)⟩,
  ⟨none,(some 10),.bin .neq (.t 7) (.t 9)⟩])
 (.cond (.t 10) (.seq (.region false [⟨none,(some 4),.mov (.k (.bool false))⟩])
 .ret)
 .skip))
 (.seq (.seq (.region false [⟨none,(some 5),.mov (.k (.int .i64 0))⟩])
 (.block 0 (.loop zvfu)))
 (.seq (.region false [⟨none,(some 4),.mov (.k (.bool true))⟩])
 .ret))))
 ntmps:=27
 res:=[.tmp 4]
theorem zddi:zsjc P Try.f16=some a16:=by kernel_rfl
def a7L0:ACode :=
 (.seq (.seq (.region false [⟨none,(some 22),.mov (.t 5)⟩,
  ⟨none,(some 23),.mov (.t 1)⟩,
  ⟨none,(some 24),.len (.t 23)⟩,
  ⟨none,(some 25),.bin .lss (.t 22) (.t 24)⟩])
 (.cond (.t 25) .skip
 (.exit 0)))
 (.seq (.block 1 (.seq (.region false [⟨none,(some 28),.mov (.t 1)⟩,
  ⟨none,(some 29),.mov (.t 5)⟩,
  ⟨none,(some 30),.idxS 9 (.t 28) (.t 29)⟩,
  ⟨none,(some 31),.fld 1 (.t 30)⟩,
  ⟨none,(some 32),.load 8 true (.t 31)⟩,
  ⟨none,(some 6),.alloc [(.str []),(.str []),(.str []),(.int .i64 0),.nils,.nils,.nils,.nils]⟩,
  ⟨none,none,.store 8 (.t 6) (.t 32)⟩])
 (.seq (.region false [⟨none,(some 33),.fld 4 (.t 6)⟩,
  ⟨none,(some 34),.load 1 false (.t 33)⟩,
  ⟨none,(some 35),.len (.t 34)⟩,
  ⟨none,(some 36),.bin .gtr (.t 35) (.k (.int .i64 30))⟩,
  ⟨none,(some 37),.mov (.t 36)⟩,
  ⟨(some (37,false)),(some 38),.fld 5 (.t 6)⟩,
  ⟨(some (37,false)),(some 39),.load 1 false (.t 38)⟩,
  ⟨(some (37,false)),(some 40),.len (.t 39)⟩,
  ⟨(some (37,false)),(some 41),.bin .gtr (.t 40) (.k (.int .i64 30))⟩,
  ⟨none,(some 42),.pick (.t 37) (.k (.bool true)) (.t 41)⟩,
  ⟨none,(some 43),.mov (.t 42)⟩,
  ⟨(some (43,false)),(some 44),.fld 6 (.t 6)⟩,
  ⟨(some (43,false)),(some 45),.load 1 false (.t 44)⟩,
  ⟨(some (43,false)),(some 46),.len (.t 45)⟩,
  ⟨(some (43,false)),(some 47),.bin .gtr (.t 46) (.k (.int .i64 20))⟩,
  ⟨none,(some 48),.pick (.t 43) (.k (.bool true)) (.t 47)⟩,
  ⟨none,(some 49),.mov (.t 48)⟩,
  ⟨(some (49,false)),(some 50),.fld 7 (.t 6)⟩,
  ⟨(some (49,false)),(some 51),.load 1 false (.t 50)⟩,
  ⟨(some (49,false)),(some 52),.len (.t 51)⟩,
  ⟨(some (49,false)),(some 53),.bin .gtr (.t 52) (.k (.int .i64 20))⟩,
  ⟨none,(some 54),.pick (.t 49) (.k (.bool true)) (.t 53)⟩])
 (.cond (.t 54) (.seq (.region false [⟨none,(some 4),.mov (.k (.bool false))⟩])
 .ret)
 .skip))))
 (.region false [⟨none,(some 26),.mov (.t 5)⟩,
  ⟨none,(some 27),.bin .add (.t 26) (.k (.int .i64 1))⟩,
  ⟨none,(some 5),.mov (.t 27)⟩])))
def a7S0 (x1 x5:DV) (h:List AObj):St:=⟨[.junk,x1,.junk,.junk,.junk,x5]++js 49,h⟩
def a7:AFn where
 code:=(.seq (.region false [⟨none,(some 2),.box (.t 0)⟩,
  ⟨none,(some 4),.mov (.k (.bool false))⟩])
 (.seq (.seq (.region false [⟨none,(some 7),.mov (.t 1)⟩,
  ⟨none,(some 8),.len (.t 7)⟩,
  ⟨none,(some 9),.bin .gtr (.t 8) (.k (.int .i64 20))⟩,
  ⟨none,(some 10),.mov (.t 9)⟩,
  ⟨(some (10,false)),(some 11),.fld 3 (.t 2)⟩,
  ⟨(some (10,false)),(some 12),.load 1 false (.t 11)⟩,
  ⟨(some (10,false)),(some 13),.len (.t 12)⟩,
  ⟨(some (10,false)),(some 14),.bin .gtr (.t 13) (.k (.int .i64 30))⟩,
  ⟨none,(some 15),.pick (.t 10) (.k (.bool true)) (.t 14)⟩,
  ⟨none,(some 16),.mov (.t 15)⟩,
  ⟨(some (16,false)),(some 17),.fld 4 (.t 2)⟩,
  ⟨(some (16,false)),(some 18),.load 1 false (.t 17)⟩,
  ⟨(some (16,false)),(some 19),.len (.t 18)⟩,
  ⟨(some (16,false)),(some 20),.bin .gtr (.t 19) (.k (.int .i64 30))⟩,
  ⟨none,(some 21),.pick (.t 16) (.k (.bool true)) (.t 20)⟩])
 (.cond (.t 21) (.seq (.region false [⟨none,(some 4),.mov (.k (.bool false))⟩])
 .ret)
 .skip))
 (.seq (.seq (.region false [⟨none,(some 5),.mov (.k (.int .i64 0))⟩])
 (.block 0 (.loop a7L0)))
 (.seq (.region false [⟨none,(some 4),.mov (.k (.bool true))⟩])
 .ret))))
 ntmps:=55
 res:=[.tmp 4]
theorem zdfl:zsjc P Try.f7=some a7:=by kernel_rfl
end
section
set_option linter.unusedSimpArgs false
set_option linter.unusedVariables false
open Go Go.Am
def z0bm:ACode :=
 (.seq (.seq (.region false [⟨none,(some 7),.mov (.t 4)⟩,
  ⟨none,(some 8),.bin .gtr (.t 7) (.k (.int .i64 0))⟩])
 (.cond (.t 8) .skip
 (.exit 0)))
 (.seq (.block 1 (.region false [⟨none,(some 11),.mov (.t 3)⟩,
  ⟨none,(some 12),.mov (.t 0)⟩,
  ⟨none,(some 13),.bsl 1 5 [(.str [])] [(0,1,(.k (.str [97]))),(1,1,(.k (.str [98]))),(2,1,(.k (.str [115,114,99]))),(3,1,(.k (.str [111,117,116]))),(4,1,(.k (.str [108,105,98])))]⟩,
  ⟨none,(some 14),.call (.k (.fn (.func 27) [] [])) [(.t 12),(.t 13)]⟩,
  ⟨none,(some 15),.bin .add (.t 11) (.t 14)⟩,
  ⟨none,(some 16),.bin .add (.t 15) (.k (.str [47]))⟩,
  ⟨none,(some 3),.mov (.t 16)⟩]))
 (.region false [⟨none,(some 9),.mov (.t 4)⟩,
  ⟨none,(some 10),.bin .sub (.t 9) (.k (.int .i64 1))⟩,
  ⟨none,(some 4),.mov (.t 10)⟩])))
def zd78 (x0 x3 x4:DV) (h:List AObj):St:=⟨[x0,.junk,.junk,x3,x4]++js 17,h⟩
def a68:AFn where
 code:=(.seq (.region false [⟨none,(some 2),.mov (.k (.str []))⟩])
 (.seq (.region false [⟨none,(some 3),.mov (.k (.str []))⟩])
 (.seq (.seq (.region false [⟨none,(some 5),.mov (.t 0)⟩,
  ⟨none,(some 6),.call (.k (.fn (.func 25) [] [])) [(.t 5),(.k (.int .i64 3))]⟩,
  ⟨none,(some 4),.mov (.t 6)⟩])
 (.block 0 (.loop z0bm)))
 (.seq (.region false [⟨none,(some 17),.mov (.t 3)⟩,
  ⟨none,(some 18),.mov (.t 0)⟩,
  ⟨none,(some 19),.bsl 1 6 [(.str [])] [(0,1,(.k (.str [97]))),(1,1,(.k (.str [98]))),(2,1,(.k (.str [97,46,99]))),(3,1,(.k (.str [98,46,104]))),(4,1,(.k (.str [120]))),(5,1,(.k (.str [111,117,116])))]⟩,
  ⟨none,(some 20),.call (.k (.fn (.func 27) [] [])) [(.t 18),(.t 19)]⟩,
  ⟨none,(some 21),.bin .add (.t 17) (.t 20)⟩,
  ⟨none,(some 2),.mov (.t 21)⟩])
 .ret))))
 ntmps:=22
 res:=[.tmp 2]
theorem z20i:zsjc P Try.f68=some a68:=by kernel_rfl
def zfle:ACode :=
 (.seq (.seq (.region false [⟨none,(some 8),.mov (.t 6)⟩,
  ⟨none,(some 9),.mov (.t 0)⟩,
  ⟨none,(some 10),.len (.t 9)⟩,
  ⟨none,(some 11),.bin .lss (.t 8) (.t 10)⟩])
 (.cond (.t 11) .skip
 (.exit 0)))
 (.seq (.block 1 (.seq (.region true [⟨none,(some 14),.mov (.t 0)⟩,
  ⟨none,(some 15),.mov (.t 6)⟩,
  ⟨none,(some 16),.idxS 33 (.t 14) (.t 15)⟩,
  ⟨none,(some 17),.fld 0 (.t 16)⟩,
  ⟨none,(some 18),.load 1 false (.t 17)⟩,
  ⟨none,(some 19),.fld 0 (.t 3)⟩,
  ⟨none,(some 20),.load 1 false (.t 19)⟩,
  ⟨none,(some 21),.bin .neq (.t 18) (.t 20)⟩])
 (.cond (.t 21) (.region false [⟨none,(some 22),.mov (.t 5)⟩,
  ⟨none,(some 23),.mov (.t 0)⟩,
  ⟨none,(some 24),.mov (.t 6)⟩,
  ⟨none,(some 25),.idxS 33 (.t 23) (.t 24)⟩,
  ⟨none,(some 26),.load 33 true (.t 25)⟩,
  ⟨none,(some 27),.bsl 33 1 [(.str []),(w8 0#8),(w8 0#8),(w8 0#8),(w8 0#8),(w8 0#8),(w8 0#8),(w8 0#8),(w8 0#8),(w8 0#8),(w8 0#8),(w8 0#8),(w8 0#8),(w8 0#8),(w8 0#8),(w8 0#8),(w8 0#8),(w8 0#8),(w8 0#8),(w8 0#8),(w8 0#8),(w8 0#8),(w8 0#8),(w8 0#8),(w8 0#8),(w8 0#8),(w8 0#8),(w8 0#8),(w8 0#8),(w8 0#8),(w8 0#8),(w8 0#8),(w8 0#8)] [(0,33,(.t 26))]⟩,
  ⟨none,(some 28),.app 33 48 (.t 22) (.t 27)⟩,
  ⟨none,(some 5),.mov (.t 28)⟩])
 .skip)))
 (.region false [⟨none,(some 12),.mov (.t 6)⟩,
  ⟨none,(some 13),.bin .add (.t 12) (.k (.int .i64 1))⟩,
  ⟨none,(some 6),.mov (.t 13)⟩])))
def zbq4 (x0 x3 x5 x6:DV) (h:List AObj):St:=⟨[x0,.junk,.junk,x3,.junk,x5,x6]++js 64,h⟩
def zmm6:ACode :=
 (.seq (.seq (.region true [⟨none,(some 36),.mov (.t 7)⟩,
  ⟨none,(some 37),.bin .gtr (.t 36) (.k (.int .i64 0))⟩,
  ⟨none,(some 38),.mov (.t 37)⟩,
  ⟨(some (38,true)),(some 39),.mov (.t 5)⟩,
  ⟨(some (38,true)),(some 40),.mov (.t 7)⟩,
  ⟨(some (38,true)),(some 41),.idxS 33 (.t 39) (.t 40)⟩,
  ⟨(some (38,true)),(some 42),.fld 0 (.t 41)⟩,
  ⟨(some (38,true)),(some 43),.load 1 false (.t 42)⟩,
  ⟨(some (38,true)),(some 44),.mov (.t 5)⟩,
  ⟨(some (38,true)),(some 45),.mov (.t 7)⟩,
  ⟨(some (38,true)),(some 46),.bin .sub (.t 45) (.k (.int .i64 1))⟩,
  ⟨(some (38,true)),(some 47),.idxS 33 (.t 44) (.t 46)⟩,
  ⟨(some (38,true)),(some 48),.fld 0 (.t 47)⟩,
  ⟨(some (38,true)),(some 49),.load 1 false (.t 48)⟩,
  ⟨(some (38,true)),(some 50),.bin .lss (.t 43) (.t 49)⟩,
  ⟨none,(some 51),.pick (.t 38) (.t 50) (.k (.bool false))⟩])
 (.cond (.t 51) .skip
 (.exit 2)))
 (.seq (.block 3 (.region true [⟨none,(some 54),.mov (.t 5)⟩,
  ⟨none,(some 55),.mov (.t 7)⟩,
  ⟨none,(some 56),.mov (.t 5)⟩,
  ⟨none,(some 57),.mov (.t 7)⟩,
  ⟨none,(some 58),.bin .sub (.t 57) (.k (.int .i64 1))⟩,
  ⟨none,(some 59),.mov (.t 5)⟩,
  ⟨none,(some 60),.mov (.t 7)⟩,
  ⟨none,(some 61),.bin .sub (.t 60) (.k (.int .i64 1))⟩,
  ⟨none,(some 62),.idxS 33 (.t 59) (.t 61)⟩,
  ⟨none,(some 63),.load 33 true (.t 62)⟩,
  ⟨none,(some 64),.mov (.t 5)⟩,
  ⟨none,(some 65),.mov (.t 7)⟩,
  ⟨none,(some 66),.idxS 33 (.t 64) (.t 65)⟩,
  ⟨none,(some 67),.load 33 true (.t 66)⟩,
  ⟨none,(some 68),.idxS 33 (.t 54) (.t 55)⟩,
  ⟨none,none,.store 33 (.t 68) (.t 63)⟩,
  ⟨none,(some 69),.idxS 33 (.t 56) (.t 58)⟩,
  ⟨none,none,.store 33 (.t 69) (.t 67)⟩]))
 (.region false [⟨none,(some 52),.mov (.t 7)⟩,
  ⟨none,(some 53),.bin .sub (.t 52) (.k (.int .i64 1))⟩,
  ⟨none,(some 7),.mov (.t 53)⟩])))
def z8vo (x5 x7:DV) (h:List AObj):St:=⟨js 5++[x5,.junk,x7]++js 63,h⟩
def a67:AFn where
 code:=(.seq (.region false [⟨none,(some 3),.box (.t 1)⟩,
  ⟨none,(some 4),.mov (.k .nils)⟩])
 (.seq (.region false [⟨none,(some 5),.mov (.k .nils)⟩])
 (.seq (.seq (.region false [⟨none,(some 6),.mov (.k (.int .i64 0))⟩])
 (.block 0 (.loop zfle)))
 (.seq (.region false [⟨none,(some 29),.mov (.t 5)⟩,
  ⟨none,(some 30),.load 33 true (.t 3)⟩,
  ⟨none,(some 31),.bsl 33 1 [(.str []),(w8 0#8),(w8 0#8),(w8 0#8),(w8 0#8),(w8 0#8),(w8 0#8),(w8 0#8),(w8 0#8),(w8 0#8),(w8 0#8),(w8 0#8),(w8 0#8),(w8 0#8),(w8 0#8),(w8 0#8),(w8 0#8),(w8 0#8),(w8 0#8),(w8 0#8),(w8 0#8),(w8 0#8),(w8 0#8),(w8 0#8),(w8 0#8),(w8 0#8),(w8 0#8),(w8 0#8),(w8 0#8),(w8 0#8),(w8 0#8),(w8 0#8),(w8 0#8)] [(0,33,(.t 30))]⟩,
  ⟨none,(some 32),.app 33 48 (.t 29) (.t 31)⟩,
  ⟨none,(some 5),.mov (.t 32)⟩])
 (.seq (.seq (.region false [⟨none,(some 33),.mov (.t 5)⟩,
  ⟨none,(some 34),.len (.t 33)⟩,
  ⟨none,(some 35),.bin .sub (.t 34) (.k (.int .i64 1))⟩,
  ⟨none,(some 7),.mov (.t 35)⟩])
 (.block 2 (.loop zmm6)))
 (.seq (.region false [⟨none,(some 70),.mov (.t 5)⟩,
  ⟨none,(some 4),.mov (.t 70)⟩])
 .ret))))))
 ntmps:=71
 res:=[.tmp 4]
theorem zy8u:zsjc P Try.f67=some a67:=by kernel_rfl
def a66:AFn where
 code:=(.seq (.region false [⟨none,(some 4),.mov (.k .nils)⟩])
 (.seq (.region true [⟨none,(some 5),.bsl 33 0 [(.str []),(w8 0#8),(w8 0#8),(w8 0#8),(w8 0#8),(w8 0#8),(w8 0#8),(w8 0#8),(w8 0#8),(w8 0#8),(w8 0#8),(w8 0#8),(w8 0#8),(w8 0#8),(w8 0#8),(w8 0#8),(w8 0#8),(w8 0#8),(w8 0#8),(w8 0#8),(w8 0#8),(w8 0#8),(w8 0#8),(w8 0#8),(w8 0#8),(w8 0#8),(w8 0#8),(w8 0#8),(w8 0#8),(w8 0#8),(w8 0#8),(w8 0#8),(w8 0#8)] []⟩,
  ⟨none,(some 6),.mov (.t 0)⟩,
  ⟨none,(some 7),.mov (.t 1)⟩,
  ⟨none,(some 8),.slcS 33 (.t 6) none (some (.t 7)) none⟩,
  ⟨none,(some 9),.app 33 48 (.t 5) (.t 8)⟩,
  ⟨none,(some 10),.mov (.t 0)⟩,
  ⟨none,(some 11),.mov (.t 1)⟩,
  ⟨none,(some 12),.bin .add (.t 11) (.k (.int .i64 1))⟩,
  ⟨none,(some 13),.slcS 33 (.t 10) (some (.t 12)) none none⟩,
  ⟨none,(some 14),.app 33 48 (.t 9) (.t 13)⟩,
  ⟨none,(some 4),.mov (.t 14)⟩,
  ⟨none,none,.apart (.t 10) (.t 9)⟩])
 .ret))
 ntmps:=15
 res:=[.tmp 4]
theorem z3a6:zsjc P Try.f66=some a66:=by kernel_rfl
def zz44:ACode :=
 (.seq (.seq (.region false [⟨none,(some 11),.mov (.t 6)⟩,
  ⟨none,(some 12),.bin .gtr (.t 11) (.k (.int .i64 0))⟩])
 (.cond (.t 12) .skip
 (.exit 0)))
 (.seq (.block 1 (.region false [⟨none,(some 15),.mov (.t 5)⟩,
  ⟨none,(some 16),.mov (.t 0)⟩,
  ⟨none,(some 17),.call (.k (.fn (.func 68) [] [])) [(.t 16)]⟩,
  ⟨none,(some 18),.mov (.t 0)⟩,
  ⟨none,(some 19),.call (.k (.fn (.func 69) [] [])) [(.t 18)]⟩,
  ⟨none,(some 20),.build [(.str []),(w8 0#8),(w8 0#8),(w8 0#8),(w8 0#8),(w8 0#8),(w8 0#8),(w8 0#8),(w8 0#8),(w8 0#8),(w8 0#8),(w8 0#8),(w8 0#8),(w8 0#8),(w8 0#8),(w8 0#8),(w8 0#8),(w8 0#8),(w8 0#8),(w8 0#8),(w8 0#8),(w8 0#8),(w8 0#8),(w8 0#8),(w8 0#8),(w8 0#8),(w8 0#8),(w8 0#8),(w8 0#8),(w8 0#8),(w8 0#8),(w8 0#8),(w8 0#8)] [(0,1,(.t 17)),(1,32,(.t 19))]⟩,
  ⟨none,(some 21),.call (.k (.fn (.func 67) [] [])) [(.t 15),(.t 20)]⟩,
  ⟨none,(some 5),.mov (.t 21)⟩]))
 (.region false [⟨none,(some 13),.mov (.t 6)⟩,
  ⟨none,(some 14),.bin .sub (.t 13) (.k (.int .i64 1))⟩,
  ⟨none,(some 6),.mov (.t 14)⟩])))
def z6ev (x0 x5 x6:DV) (h:List AObj):St:=⟨[x0]++js 4++[x5,x6]++js 16,h⟩
def a51:AFn where
 code:=(.seq (.region false [⟨none,(some 4),.mov (.k .nils)⟩])
 (.seq (.region false [⟨none,(some 5),.mov (.k .nils)⟩])
 (.seq (.seq (.region false [⟨none,(some 7),.mov (.t 0)⟩,
  ⟨none,(some 8),.mov (.t 1)⟩,
  ⟨none,(some 9),.bin .add (.t 8) (.k (.int .i64 1))⟩,
  ⟨none,(some 10),.call (.k (.fn (.func 25) [] [])) [(.t 7),(.t 9)]⟩,
  ⟨none,(some 6),.mov (.t 10)⟩])
 (.block 0 (.loop zz44)))
 (.seq (.region false [⟨none,(some 22),.mov (.t 5)⟩,
  ⟨none,(some 4),.mov (.t 22)⟩])
 .ret))))
 ntmps:=23
 res:=[.tmp 4]
theorem z8rx:zsjc P Try.f51=some a51:=by kernel_rfl
def zlq3:ACode :=
 (.seq (.seq (.region false [⟨none,(some 8),.mov (.t 5)⟩,
  ⟨none,(some 9),.bin .gtr (.t 8) (.k (.int .i64 0))⟩])
 (.cond (.t 9) .skip
 (.exit 0)))
 (.seq (.block 1 (.seq (.region false [⟨none,(some 12),.mov (.t 0)⟩,
  ⟨none,(some 13),.call (.k (.fn (.func 25) [] [])) [(.t 12),(.k (.int .i64 3))]⟩,
  ⟨none,(some 14),.bin .eql (.t 13) (.k (.int .i64 0))⟩,
  ⟨none,(some 15),.mov (.t 14)⟩,
  ⟨(some (15,true)),(some 16),.mov (.t 1)⟩,
  ⟨(some (15,true)),(some 17),.len (.t 16)⟩,
  ⟨(some (15,true)),(some 18),.bin .gtr (.t 17) (.k (.int .i64 0))⟩,
  ⟨none,(some 19),.pick (.t 15) (.t 18) (.k (.bool false))⟩])
 (.cond (.t 19) (.region false [⟨none,(some 20),.mov (.t 1)⟩,
  ⟨none,(some 21),.mov (.t 0)⟩,
  ⟨none,(some 22),.mov (.t 1)⟩,
  ⟨none,(some 23),.len (.t 22)⟩,
  ⟨none,(some 24),.call (.k (.fn (.func 25) [] [])) [(.t 21),(.t 23)]⟩,
  ⟨none,(some 25),.call (.k (.fn (.func 66) [] [])) [(.t 20),(.t 24)]⟩,
  ⟨none,(some 1),.mov (.t 25)⟩])
 (.region false [⟨none,(some 26),.mov (.t 1)⟩,
  ⟨none,(some 27),.mov (.t 0)⟩,
  ⟨none,(some 28),.call (.k (.fn (.func 68) [] [])) [(.t 27)]⟩,
  ⟨none,(some 29),.mov (.t 0)⟩,
  ⟨none,(some 30),.call (.k (.fn (.func 69) [] [])) [(.t 29)]⟩,
  ⟨none,(some 31),.build [(.str []),(w8 0#8),(w8 0#8),(w8 0#8),(w8 0#8),(w8 0#8),(w8 0#8),(w8 0#8),(w8 0#8),(w8 0#8),(w8 0#8),(w8 0#8),(w8 0#8),(w8 0#8),(w8 0#8),(w8 0#8),(w8 0#8),(w8 0#8),(w8 0#8),(w8 0#8),(w8 0#8),(w8 0#8),(w8 0#8),(w8 0#8),(w8 0#8),(w8 0#8),(w8 0#8),(w8 0#8),(w8 0#8),(w8 0#8),(w8 0#8),(w8 0#8),(w8 0#8)] [(0,1,(.t 28)),(1,32,(.t 30))]⟩,
  ⟨none,(some 32),.call (.k (.fn (.func 67) [] [])) [(.t 26),(.t 31)]⟩,
  ⟨none,(some 1),.mov (.t 32)⟩]))))
 (.region false [⟨none,(some 10),.mov (.t 5)⟩,
  ⟨none,(some 11),.bin .sub (.t 10) (.k (.int .i64 1))⟩,
  ⟨none,(some 5),.mov (.t 11)⟩])))
def zzv7 (x0 x1 x5:DV) (h:List AObj):St:=⟨[x0,x1,.junk,.junk,.junk,x5]++js 28,h⟩
def a48:AFn where
 code:=(.seq (.region false [⟨none,(some 4),.mov (.k .nils)⟩])
 (.seq (.seq (.region false [⟨none,(some 6),.mov (.t 0)⟩,
  ⟨none,(some 7),.call (.k (.fn (.func 25) [] [])) [(.t 6),(.k (.int .i64 4))]⟩,
  ⟨none,(some 5),.mov (.t 7)⟩])
 (.block 0 (.loop zlq3)))
 (.seq (.region false [⟨none,(some 33),.mov (.t 1)⟩,
  ⟨none,(some 4),.mov (.t 33)⟩])
 .ret)))
 ntmps:=34
 res:=[.tmp 4]
theorem zwi2:zsjc P Try.f48=some a48:=by kernel_rfl
def a23:AFn where
 code:=(.seq (.region false [⟨none,(some 4),.alloc [(.str []),.nils,.nils]⟩])
 (.seq (.region false [⟨none,(some 6),.mov (.t 0)⟩,
  ⟨none,(some 7),.call (.k (.fn (.func 51) [] [])) [(.t 6),(.k (.int .i64 5))]⟩,
  ⟨none,(some 5),.mov (.t 7)⟩])
 (.seq (.region false [⟨none,(some 8),.mov (.t 1)⟩,
  ⟨none,(some 9),.mov (.t 5)⟩,
  ⟨none,(some 10),.mov (.t 0)⟩,
  ⟨none,(some 11),.mov (.t 5)⟩,
  ⟨none,(some 12),.call (.k (.fn (.func 48) [] [])) [(.t 10),(.t 11)]⟩,
  ⟨none,(some 13),.build [(.str []),.nils,.nils] [(0,1,(.t 8)),(1,1,(.t 9)),(2,1,(.t 12))]⟩,
  ⟨none,none,.store 3 (.t 4) (.t 13)⟩])
 .ret)))
 ntmps:=14
 res:=[.cell 4 3 true]
theorem ztyx:zsjc P Try.f23=some a23:=by kernel_rfl
def a26:AFn where
 code:=(.seq (.region false [⟨none,(some 0),.mov (.k .nils)⟩])
 (.seq (.region false [⟨none,(some 1),.bsl 1 4 [(.str [])] [(0,1,(.k (.str [97,110,110]))),(1,1,(.k (.str [98,111,98]))),(2,1,(.k (.str [99,97,116]))),(3,1,(.k (.str [100,97,110])))]⟩,
  ⟨none,(some 0),.mov (.t 1)⟩])
 .ret))
 ntmps:=2
 res:=[.tmp 0]
theorem z9gs:zsjc P Try.f26=some a26:=by kernel_rfl
def a20:AFn where
 code:=(.seq (.region false [⟨none,(some 2),.mov (.k .nils)⟩])
 (.seq (.region false [⟨none,(some 5),.mov (.t 0)⟩,
  ⟨none,(some 6),.call (.k (.fn (.func 23) [] [])) [(.t 5),(.k (.str [98,117,105,108,100]))]⟩,
  ⟨none,(some 3),.alloc [(.str []),.nils,.nils]⟩,
  ⟨none,none,.store 3 (.t 3) (.t 6)⟩])
 (.seq (.region false [⟨none,(some 7),.load 3 true (.t 3)⟩,
  ⟨none,(some 4),.alloc [(.str []),.nils,.nils]⟩,
  ⟨none,none,.store 3 (.t 4) (.t 7)⟩])
 (.seq (.region false [⟨none,(some 8),.mov (.t 0)⟩,
  ⟨none,(some 9),.fld 2 (.t 3)⟩,
  ⟨none,(some 10),.load 1 false (.t 9)⟩,
  ⟨none,(some 11),.call (.k (.fn (.func 48) [] [])) [(.t 8),(.t 10)]⟩,
  ⟨none,(some 12),.fld 2 (.t 4)⟩,
  ⟨none,none,.store 1 (.t 12) (.t 11)⟩])
 (.seq (.region false [⟨none,(some 13),.load 3 true (.t 3)⟩,
  ⟨none,(some 14),.load 3 true (.t 4)⟩,
  ⟨none,(some 15),.load 3 true (.t 3)⟩,
  ⟨none,(some 16),.bsl 3 3 [(.str []),.nils,.nils] [(0,3,(.t 13)),(3,3,(.t 14)),(6,3,(.t 15))]⟩,
  ⟨none,(some 2),.mov (.t 16)⟩])
 .ret)))))
 ntmps:=17
 res:=[.tmp 2]
theorem zfgm:zsjc P Try.f20=some a20:=by kernel_rfl
def a8L0:ACode :=
 (.seq (.seq (.region false [⟨none,(some 31),.mov (.t 8)⟩,
  ⟨none,(some 32),.bin .gtr (.t 31) (.k (.int .i64 0))⟩])
 (.cond (.t 32) .skip
 (.exit 0)))
 (.seq (.block 1 (.seq (.region false [⟨none,(some 35),.mov (.t 6)⟩,
  ⟨none,(some 36),.mov (.t 4)⟩,
  ⟨none,(some 37),.call (.k (.fn (.func 25) [] [])) [(.t 36),(.k (.int .i64 3))]⟩,
  ⟨none,(some 38),.idxS 3 (.t 35) (.t 37)⟩,
  ⟨none,(some 39),.load 3 true (.t 38)⟩,
  ⟨none,(some 9),.alloc [(.str []),.nils,.nils]⟩,
  ⟨none,none,.store 3 (.t 9) (.t 39)⟩])
 (.seq (.region true [⟨none,(some 40),.mov (.t 4)⟩,
  ⟨none,(some 41),.bsl 1 4 [(.str [])] [(0,1,(.k (.str [98,117,105,108,100]))),(1,1,(.k (.str [98,117,105,108,100]))),(2,1,(.k (.str [98,117,105,108,100]))),(3,1,(.k (.str [116,101,115,116])))]⟩,
  ⟨none,(some 42),.callT (.k (.fn (.func 27) [] [])) [(.t 40),(.t 41)]⟩,
  ⟨none,(some 43),.mov (.t 4)⟩,
  ⟨none,(some 44),.callT (.k (.fn (.func 25) [] [])) [(.t 43),(.k (.int .i64 5))]⟩,
  ⟨none,(some 45),.fld 1 (.t 9)⟩,
  ⟨none,(some 46),.load 1 false (.t 45)⟩,
  ⟨none,(some 47),.fld 2 (.t 9)⟩,
  ⟨none,(some 48),.load 1 false (.t 47)⟩,
  ⟨none,(some 49),.build [(.str []),(.str []),(.str []),(.int .i64 0),.nils,.nils,.nils,.nils] [(0,1,(.k (.str [114]))),(2,1,(.t 42)),(3,1,(.t 44)),(6,1,(.t 46)),(7,1,(.t 48))]⟩,
  ⟨none,(some 10),.alloc [(.str []),(.str []),(.str []),(.int .i64 0),.nils,.nils,.nils,.nils]⟩,
  ⟨none,none,.store 8 (.t 10) (.t 49)⟩,
  ⟨none,none,.apart (.t 9) (.t 40)⟩,
  ⟨none,none,.apart (.t 45) (.t 40)⟩,
  ⟨none,none,.apart (.t 9) (.t 40)⟩,
  ⟨none,none,.apart (.t 47) (.t 40)⟩,
  ⟨none,none,.apart (.t 9) (.t 43)⟩,
  ⟨none,none,.apart (.t 45) (.t 43)⟩,
  ⟨none,none,.apart (.t 9) (.t 43)⟩,
  ⟨none,none,.apart (.t 47) (.t 43)⟩])
 (.seq (.seq (.region false [⟨none,(some 50),.mov (.t 4)⟩,
  ⟨none,(some 51),.call (.k (.fn (.func 25) [] [])) [(.t 50),(.k (.int .i64 4))]⟩,
  ⟨none,(some 52),.bin .gtr (.t 51) (.k (.int .i64 0))⟩])
 (.cond (.t 52) (.region false [⟨none,(some 53),.bsl 1 1 [(.str [])] [(0,1,(.k (.str [109,97,107,101])))]⟩,
  ⟨none,(some 54),.fld 4 (.t 10)⟩,
  ⟨none,none,.store 1 (.t 54) (.t 53)⟩])
 .skip))
 (.region true [⟨none,(some 55),.mov (.t 7)⟩,
  ⟨none,(some 56),.mov (.t 4)⟩,
  ⟨none,(some 57),.bsl 1 5 [(.str [])] [(0,1,(.k (.str [97,110,110]))),(1,1,(.k (.str [98,111,98]))),(2,1,(.k (.str [99,97,116]))),(3,1,(.k (.str [100,97,110]))),(4,1,(.k (.str [101,118,101])))]⟩,
  ⟨none,(some 58),.callT (.k (.fn (.func 27) [] [])) [(.t 56),(.t 57)]⟩,
  ⟨none,(some 59),.load 8 true (.t 10)⟩,
  ⟨none,(some 60),.build [(.str []),(.str []),(.str []),(.str []),(.int .i64 0),.nils,.nils,.nils,.nils] [(0,1,(.t 58)),(1,8,(.t 59))]⟩,
  ⟨none,(some 61),.bsl 9 1 [(.str []),(.str []),(.str []),(.str []),(.int .i64 0),.nils,.nils,.nils,.nils] [(0,9,(.t 60))]⟩,
  ⟨none,(some 62),.app 9 168 (.t 55) (.t 61)⟩,
  ⟨none,(some 7),.mov (.t 62)⟩,
  ⟨none,none,.apart (.t 10) (.t 56)⟩])))))
 (.region false [⟨none,(some 33),.mov (.t 8)⟩,
  ⟨none,(some 34),.bin .sub (.t 33) (.k (.int .i64 1))⟩,
  ⟨none,(some 8),.mov (.t 34)⟩])))
def a8S0 (x2 x4 x5 x6 x7 x8:DV) (h:List AObj):St:=⟨[.junk,.junk,x2,.junk,x4,x5,x6,x7,x8]++js 56,h⟩
def a8:AFn where
 code:=(.seq (.region false [⟨none,(some 2),.alloc [(.str []),(.bool false),(.int .i64 0),.nils,.nils,.nils,.nils]⟩,
  ⟨none,(some 3),.mov (.k .nils)⟩])
 (.seq (.region false [⟨none,(some 11),.mov (.t 0)⟩,
  ⟨none,(some 12),.build [.nils,(.int .i64 0)] [(0,1,(.t 11))]⟩,
  ⟨none,(some 13),.box (.t 12)⟩,
  ⟨none,(some 4),.mov (.t 13)⟩])
 (.seq (.region false [⟨none,(some 14),.mov (.t 4)⟩,
  ⟨none,(some 15),.call (.k (.fn (.func 25) [] [])) [(.t 14),(.k (.int .i64 3))]⟩,
  ⟨none,(some 16),.bin .add (.k (.int .i64 1)) (.t 15)⟩,
  ⟨none,(some 17),.call (.k (.fn (.func 26) [] [])) []⟩,
  ⟨none,(some 18),.mov (.t 4)⟩,
  ⟨none,(some 19),.call (.k (.fn (.func 25) [] [])) [(.t 18),(.k (.int .i64 2))]⟩,
  ⟨none,(some 20),.slcS 1 (.t 17) (some (.t 19)) none none⟩,
  ⟨none,(some 21),.build [(.str []),(.bool false),(.int .i64 0),.nils,.nils,.nils,.nils] [(0,1,(.k (.str [98,117,105,108,100]))),(2,1,(.t 16)),(3,1,(.t 20))]⟩,
  ⟨none,(some 5),.alloc [(.str []),(.bool false),(.int .i64 0),.nils,.nils,.nils,.nils]⟩,
  ⟨none,none,.store 7 (.t 5) (.t 21)⟩])
 (.seq (.seq (.region false [⟨none,(some 22),.mov (.t 4)⟩,
  ⟨none,(some 23),.call (.k (.fn (.func 25) [] [])) [(.t 22),(.k (.int .i64 3))]⟩,
  ⟨none,(some 24),.bin .eql (.t 23) (.k (.int .i64 0))⟩])
 (.cond (.t 24) (.region false [⟨none,(some 25),.bsl 1 1 [(.str [])] [(0,1,(.k (.str [109,97,107,101])))]⟩,
  ⟨none,(some 26),.fld 4 (.t 5)⟩,
  ⟨none,none,.store 1 (.t 26) (.t 25)⟩])
 .skip))
 (.seq (.region false [⟨none,(some 27),.mov (.t 4)⟩,
  ⟨none,(some 28),.call (.k (.fn (.func 20) [] [])) [(.t 27)]⟩,
  ⟨none,(some 6),.mov (.t 28)⟩])
 (.seq (.region false [⟨none,(some 7),.mov (.k .nils)⟩])
 (.seq (.seq (.region false [⟨none,(some 29),.mov (.t 4)⟩,
  ⟨none,(some 30),.call (.k (.fn (.func 25) [] [])) [(.t 29),(.k (.int .i64 8))]⟩,
  ⟨none,(some 8),.mov (.t 30)⟩])
 (.block 0 (.loop a8L0)))
 (.seq (.region false [⟨none,(some 63),.load 7 true (.t 5)⟩,
  ⟨none,(some 64),.mov (.t 7)⟩,
  ⟨none,none,.store 7 (.t 2) (.t 63)⟩,
  ⟨none,(some 3),.mov (.t 64)⟩])
 .ret))))))))
 ntmps:=65
 res:=[.cell 2 7 true,.tmp 3]
theorem zwbl:zsjc P Try.f8=some a8:=by kernel_rfl
end
section
set_option linter.unusedSimpArgs false
set_option linter.unusedVariables false
open Go Go.Am
def a19:AFn where
 code:=(.seq (.region false [⟨none,(some 0),.mov (.k (.bool false))⟩])
 (.seq (.region false [⟨none,(some 4),.bsl 1 1 [(.str [])] [(0,1,(.k (.str [97,110,110])))]⟩,
  ⟨none,(some 5),.build [(.str []),(.bool false),(.int .i64 0),.nils,.nils,.nils,.nils] [(0,1,(.k (.str [98,117,105,108,100]))),(2,1,(.k (.int .i64 1))),(3,1,(.t 4))]⟩,
  ⟨none,(some 1),.alloc [(.str []),(.bool false),(.int .i64 0),.nils,.nils,.nils,.nils]⟩,
  ⟨none,none,.store 7 (.t 1) (.t 5)⟩])
 (.seq (.region false [⟨none,(some 7),.load 7 true (.t 1)⟩,
  ⟨none,(some 8),.build [(.str []),(.str []),(.str []),(.int .i64 0),.nils,.nils,.nils,.nils] [(2,1,(.k (.str [98,117,105,108,100]))),(3,1,(.k (.int .i64 2)))]⟩,
  ⟨none,(some 9),.build [(.str []),(.str []),(.str []),(.str []),(.int .i64 0),.nils,.nils,.nils,.nils] [(0,1,(.k (.str [97,110,110]))),(1,8,(.t 8))]⟩,
  ⟨none,(some 10),.bsl 9 1 [(.str []),(.str []),(.str []),(.str []),(.int .i64 0),.nils,.nils,.nils,.nils] [(0,9,(.t 9))]⟩,
  ⟨none,(some 11),.call (.k (.fn (.func 14) [] [])) [(.t 7),(.t 10)]⟩,
  ⟨none,(some 6),.mov (.t 11)⟩,
  ⟨none,(some 12),.ext (.t 6) 0⟩,
  ⟨none,(some 13),.ext (.t 6) 1⟩,
  ⟨none,(some 2),.alloc [(.str []),.nils,.nils,.nils,.nils]⟩,
  ⟨none,none,.store 5 (.t 2) (.t 12)⟩,
  ⟨none,(some 3),.mov (.t 13)⟩])
 (.seq (.region false [⟨none,(some 14),.mov (.t 3)⟩,
  ⟨none,(some 15),.bin .eql (.t 14) (.k (.int .i64 0))⟩,
  ⟨none,(some 16),.mov (.t 15)⟩,
  ⟨(some (16,true)),(some 17),.fld 0 (.t 2)⟩,
  ⟨(some (16,true)),(some 18),.fld 0 (.t 17)⟩,
  ⟨(some (16,true)),(some 19),.load 1 false (.t 18)⟩,
  ⟨(some (16,true)),(some 20),.bin .eql (.t 19) (.k (.str [98,117,105,108,100]))⟩,
  ⟨none,(some 21),.pick (.t 16) (.t 20) (.k (.bool false))⟩,
  ⟨none,(some 22),.mov (.t 21)⟩,
  ⟨(some (22,true)),(some 23),.fld 3 (.t 2)⟩,
  ⟨(some (22,true)),(some 24),.load 1 false (.t 23)⟩,
  ⟨(some (22,true)),(some 25),.len (.t 24)⟩,
  ⟨(some (22,true)),(some 26),.bin .eql (.t 25) (.k (.int .i64 1))⟩,
  ⟨none,(some 27),.pick (.t 22) (.t 26) (.k (.bool false))⟩,
  ⟨none,(some 0),.mov (.t 27)⟩])
 .ret))))
 ntmps:=28
 res:=[.tmp 0]
theorem zlqi:zsjc P Try.f19=some a19:=by kernel_rfl
end
section
set_option linter.unusedSimpArgs false
set_option linter.unusedVariables false
open Go Go.Am
def a3L0:ACode :=
 (.seq (.seq (.region false [⟨none,(some 27),.mov (.t 9)⟩,
  ⟨none,(some 28),.bin .lss (.t 27) (.k (.int .i64 2))⟩])
 (.cond (.t 28) .skip
 (.exit 0)))
 (.seq (.block 1 (.seq (.seq (.region true [⟨none,(some 31),.load 7 true (.t 3)⟩,
  ⟨none,(some 32),.mov (.t 1)⟩,
  ⟨none,(some 34),.load 7 true (.t 3)⟩,
  ⟨none,(some 35),.mov (.t 1)⟩,
  ⟨none,(some 33),.callN (.k (.fn (.func 10) [] [])) [(.t 31),(.t 32)]⟩,
  ⟨none,(some 36),.callN (.k (.fn (.func 11) [] [])) [(.t 34),(.t 35)]⟩,
  ⟨none,(some 37),.callN (.k (.fn (.func 9) [] [])) [(.t 33),(.t 36)]⟩,
  ⟨none,(some 38),.un .not (.t 37)⟩])
 (.cond (.t 38) (.seq (.region false [⟨none,(some 6),.mov (.k (.bool false))⟩])
 .ret)
 .skip))
 (.seq (.region false [⟨none,(some 40),.load 7 true (.t 3)⟩,
  ⟨none,(some 41),.mov (.t 1)⟩,
  ⟨none,(some 42),.call (.k (.fn (.func 12) [] [])) [(.t 40),(.t 41)]⟩,
  ⟨none,(some 39),.mov (.t 42)⟩,
  ⟨none,(some 43),.ext (.t 39) 0⟩,
  ⟨none,(some 44),.ext (.t 39) 1⟩,
  ⟨none,(some 10),.mov (.t 43)⟩,
  ⟨none,(some 11),.mov (.t 44)⟩])
 (.seq (.region false [⟨none,(some 46),.load 7 true (.t 3)⟩,
  ⟨none,(some 47),.mov (.t 1)⟩,
  ⟨none,(some 48),.call (.k (.fn (.func 13) [] [])) [(.t 46),(.t 47)]⟩,
  ⟨none,(some 45),.mov (.t 48)⟩,
  ⟨none,(some 49),.ext (.t 45) 0⟩,
  ⟨none,(some 50),.ext (.t 45) 1⟩,
  ⟨none,(some 12),.mov (.t 49)⟩,
  ⟨none,(some 13),.mov (.t 50)⟩])
 (.seq (.region false [⟨none,(some 52),.load 7 true (.t 3)⟩,
  ⟨none,(some 53),.mov (.t 1)⟩,
  ⟨none,(some 54),.call (.k (.fn (.func 14) [] [])) [(.t 52),(.t 53)]⟩,
  ⟨none,(some 51),.mov (.t 54)⟩,
  ⟨none,(some 55),.ext (.t 51) 0⟩,
  ⟨none,(some 56),.ext (.t 51) 1⟩,
  ⟨none,(some 14),.alloc [(.str []),.nils,.nils,.nils,.nils]⟩,
  ⟨none,none,.store 5 (.t 14) (.t 55)⟩,
  ⟨none,(some 15),.mov (.t 56)⟩])
 (.seq (.region false [⟨none,(some 58),.load 7 true (.t 3)⟩,
  ⟨none,(some 59),.mov (.t 1)⟩,
  ⟨none,(some 60),.call (.k (.fn (.func 15) [] [])) [(.t 58),(.t 59)]⟩,
  ⟨none,(some 57),.mov (.t 60)⟩,
  ⟨none,(some 61),.ext (.t 57) 0⟩,
  ⟨none,(some 62),.ext (.t 57) 1⟩,
  ⟨none,(some 16),.alloc [(.str []),.nils,.nils,.nils,.nils]⟩,
  ⟨none,none,.store 5 (.t 16) (.t 61)⟩,
  ⟨none,(some 17),.mov (.t 62)⟩])
 (.seq (.seq (.region false [⟨none,(some 63),.mov (.t 10)⟩,
  ⟨none,(some 64),.mov (.t 12)⟩,
  ⟨none,(some 65),.call (.k (.fn (.func 16) [] [])) [(.t 63),(.t 64)]⟩,
  ⟨none,(some 66),.un .not (.t 65)⟩,
  ⟨none,(some 67),.mov (.t 66)⟩,
  ⟨(some (67,false)),(some 68),.mov (.t 11)⟩,
  ⟨(some (67,false)),(some 69),.mov (.t 13)⟩,
  ⟨(some (67,false)),(some 70),.call (.k (.fn (.func 17) [] [])) [(.t 68),(.t 69)]⟩,
  ⟨(some (67,false)),(some 71),.un .not (.t 70)⟩,
  ⟨none,(some 72),.pick (.t 67) (.k (.bool true)) (.t 71)⟩,
  ⟨none,(some 73),.mov (.t 72)⟩,
  ⟨(some (73,false)),(some 74),.mov (.t 15)⟩,
  ⟨(some (73,false)),(some 75),.mov (.t 17)⟩,
  ⟨(some (73,false)),(some 76),.bin .neq (.t 74) (.t 75)⟩,
  ⟨none,(some 77),.pick (.t 73) (.k (.bool true)) (.t 76)⟩,
  ⟨none,(some 78),.mov (.t 77)⟩,
  ⟨(some (78,false)),(some 79),.load 5 true (.t 14)⟩,
  ⟨(some (78,false)),(some 80),.load 5 true (.t 16)⟩,
  ⟨(some (78,false)),(some 81),.call (.k (.fn (.func 18) [] [])) [(.t 79),(.t 80)]⟩,
  ⟨(some (78,false)),(some 82),.un .not (.t 81)⟩,
  ⟨none,(some 83),.pick (.t 78) (.k (.bool true)) (.t 82)⟩])
 (.cond (.t 83) (.seq (.region false [⟨none,(some 6),.mov (.k (.bool false))⟩])
 .ret)
 .skip))
 (.region false [⟨none,(some 84),.load 7 true (.t 7)⟩,
  ⟨none,(some 85),.mov (.t 8)⟩,
  ⟨none,none,.store 7 (.t 3) (.t 84)⟩,
  ⟨none,(some 1),.mov (.t 85)⟩]))))))))
 (.region false [⟨none,(some 29),.mov (.t 9)⟩,
  ⟨none,(some 30),.bin .add (.t 29) (.k (.int .i64 1))⟩,
  ⟨none,(some 9),.mov (.t 30)⟩])))
def a3S0 (x1 x3 x7 x8 x9:DV) (h:List AObj):St:=⟨[.junk,x1,.junk,x3,.junk,.junk,.junk,x7,x8,x9]++js 77,h⟩
def a3:AFn where
 code:=(.seq (.region false [⟨none,(some 3),.box (.t 0)⟩,
  ⟨none,(some 6),.mov (.k (.bool false))⟩])
 (.seq (.seq (.region false [⟨none,(some 18),.load 7 true (.t 3)⟩,
  ⟨none,(some 19),.mov (.t 1)⟩,
  ⟨none,(some 20),.call (.k (.fn (.func 7) [] [])) [(.t 18),(.t 19)]⟩,
  ⟨none,(some 21),.un .not (.t 20)⟩])
 (.cond (.t 21) (.seq (.region false [⟨none,(some 6),.mov (.k (.bool true))⟩])
 .ret)
 .skip))
 (.seq (.region false [⟨none,(some 23),.mov (.t 2)⟩,
  ⟨none,(some 24),.call (.k (.fn (.func 8) [] [])) [(.t 23)]⟩,
  ⟨none,(some 22),.mov (.t 24)⟩,
  ⟨none,(some 25),.ext (.t 22) 0⟩,
  ⟨none,(some 26),.ext (.t 22) 1⟩,
  ⟨none,(some 7),.alloc [(.str []),(.bool false),(.int .i64 0),.nils,.nils,.nils,.nils]⟩,
  ⟨none,none,.store 7 (.t 7) (.t 25)⟩,
  ⟨none,(some 8),.mov (.t 26)⟩])
 (.seq (.seq (.region false [⟨none,(some 9),.mov (.k (.int .i64 0))⟩])
 (.block 0 (.loop a3L0)))
 (.seq (.region false [⟨none,(some 86),.call (.k (.fn (.func 19) [] [])) []⟩,
  ⟨none,(some 6),.mov (.t 86)⟩])
 .ret)))))
 ntmps:=87
 res:=[.tmp 6]
theorem z842:zsjc P Try.f3=some a3:=by kernel_rfl
end
section
set_option linter.unusedSimpArgs false
set_option linter.unusedVariables false
open Go Go.Am
theorem z1ch {α:Type} {f:α→List DV} {s:Nat} (hu : ∀ a,(f a).length=s) (h0:0<s) (hi : ∀ a b,f a=f b→a=b) : ∀ {l l':List α},l.flatMap f=l'.flatMap f→l=l'
 | [],[],_=>rfl
 | [],b::l',e=>by have:=congrArg List.length e; simp [hu] at this; omega
 | a::l,[],e=>by have:=congrArg List.length e; simp [hu] at this; omega
 | a::l,b::l',e=>by
  rw [y09,y09] at e
  have:=List.append_inj e (by rw [hu,hu])
  rw [hi _ _ this.1,z1ch hu h0 hi this.2]
theorem zcq7 {B:Nat} {α:Type} {f:α→List DV} {s:Nat} (hu : ∀ a,(f a).length=s) (h0:0<s) (hi : ∀ a b,f a=f b→a=b) {x y:SlB B α} (e:x.dv s f=y.dv s f):x=y:=by
 obtain ⟨k,l,h,hb⟩:=x
 obtain ⟨k',l',h',hb'⟩:=y
 cases k with
 | none =>
  cases k' with
  | none=>cases h rfl; cases h' rfl; rfl
  | some b=>simp [SlB.dv,slD] at e
 | some b =>
  cases k' with
  | none=>simp [SlB.dv,slD] at e
  | some b' =>
   simp only [SlB.dv,slD,DV.sl.injEq] at e
   obtain ⟨rfl,_,_,e⟩:=e
   cases z1ch hu h0 hi e
   rfl
theorem zsn4 {α:Type} {f:α→List DV} {g:α→DV} (hi : ∀ a b,f a=f b→a=b) (a:α):con (fun _=>True) f g (f a)=some (g a):=zzno (fun a b e=>by rw [hi a b e]) a trivial
abbrev Str:=List UInt8
def stC (s:Str):List DV:=[.str s]
theorem zqv6 (s:Str):(stC s).length=1:=rfl
theorem zds6 (s:Str):zbao (stC s)=true:=rfl
theorem zwaz {a b:Str} (h:stC a=stC b):a=b:=by simpa [stC] using h
structure Fct where
 kind:Int
 own:Str
 rev:Dg
 lay:Str
 run:Str
 at_:Int
 agr:Bool
 tgt:Dg
 docs:Sl Dg
structure Fnd where
 inv:Dg
 comp:Int
 id:Str
 sev:Int
 hd:Sl Dg
 st:Int
 dd:Sl Dg
 con:Bool
structure Cas where
 art:Dg
 at_:Int
 f:Sl Fct
 n:Sl Fnd
 d:Sl Str
structure Org where
 rev:Dg
 lay:Str
 run:Str
 deriving DecidableEq
def orC (o:Org):List DV:=dgC o.rev++[.str o.lay,.str o.run]
structure Req where
 kind:Int
 n:Int
 m:Int
 text:Str
 deriving DecidableEq
def rqC (q:Req):List DV:=[.int .i64 q.kind,.int .i64 q.n,.int .i64 q.m,.str q.text]
structure Sup where
 holds:Bool
 docs:Sl Dg
 missing:Int
theorem zhrh {a b:Org}:z32s (zi5g [(32,0),(2,1)]) (orC a) (orC b)=some (decide (a=b)):=by
 have e:zi5g [(32,0),(2,1)]=zi5g [(32,0)]++[1,1]:=rfl
 rw [e,orC,orC,zid2 (by simp [z1t1,zi5g]) (by simp [z1t1,zi5g]),zyiz]
 obtain ⟨a1,a2,a3⟩:=a
 obtain ⟨b1,b2,b3⟩:=b
 simp [z32s,znnj,y1g,zcn6]
theorem zq6c {a b:Req}:z32s [0,0,0,1] (rqC a) (rqC b)=some (decide (a=b)):=by
 obtain ⟨a1,a2,a3,a4⟩:=a
 obtain ⟨b1,b2,b3,b4⟩:=b
 simp [rqC,z32s,znnj,zcn6,Bool.beq_eq_decide_eq]
attribute [simp] zhrh zq6c
end
section
set_option linter.unusedSimpArgs false
set_option linter.unusedVariables false
open Go Go.Am
structure Tot {α:Type} (lt:α→α→Bool):Prop where
 irr : ∀ a,lt a a=false
 tr : ∀ a b c,lt a b=true→lt b c=true→lt a c=true
 tot : ∀ a b,lt a b=true∨a=b∨lt b a=true
set_option linter.unusedSectionVars false
section
variable {α:Type} [DecidableEq α] {lt:α→α→Bool}
def Asc (lt:α→α→Bool) (l:List α):Prop:=l.Pairwise (fun a b=>lt a b=true)
theorem z6q8 (o:Tot lt) {a b:α} {l m:List α} (h1:Asc lt (a::l)) (h2:Asc lt (b::m)) (h : ∀ x,x ∈ a::l↔x ∈ b::m):a=b:=by
 rw [Asc,y03] at h1 h2
 have ha:=(h a).1 (by simp)
 have hb:=(h b).2 (by simp)
 rcases y01.1 ha with e|ha
 ·exact e
 rcases y01.1 hb with e|hb
 ·exact e.symm
 have:=o.tr _ _ _ (h1.1 b hb) (h2.1 a ha)
 rw [o.irr] at this; cases this
theorem zjfh (o:Tot lt) : ∀ {l m:List α},Asc lt l→Asc lt m→(∀ x,x ∈ l↔x ∈ m)→l=m
 | [],[],_,_,_=>rfl
 | [],b::m,_,_,h=>by have:=(h b).2 (by simp); simp at this
 | a::l,[],_,_,h=>by have:=(h a).1 (by simp); simp at this
 | a::l,b::m,h1,h2,h=>by
  have e:=z6q8 o h1 h2 h
  subst e
  have k1:=(y03.1 h1).1
  have k2:=(y03.1 h2).1
  rw [zjfh o (y03.1 h1).2 (y03.1 h2).2 fun x=>⟨fun hx => ?_,fun hx => ?_⟩]
  ·rcases y01.1 ((h x).1 (by simp [hx])) with e|h'
   ·have:=k1 x hx; rw [e,o.irr] at this; cases this
   ·exact h'
  ·rcases y01.1 ((h x).2 (by simp [hx])) with e|h'
   ·have:=k2 x hx; rw [e,o.irr] at this; cases this
   ·exact h'
def addU (lt:α→α→Bool) (l:List α) (d:α):List α:=if d ∈ l then l else l.takeWhile (fun x=>lt x d)++d::l.dropWhile (fun x=>lt x d)
def z534 (lt:α→α→Bool) (l:List α):List α:=l.foldl (addU lt) []
theorem z53k {l:List α} {d x:α}:x ∈ addU lt l d↔x=d∨x ∈ l:=by
 unfold addU
 split
 ·rename_i h
  exact ⟨.inr,fun q=>q.elim (fun e=>e▸h) id⟩
 ·have:=y07 (p:=fun x=>lt x d) (l:=l)
  constructor
  ·intro hx
   rcases y02.1 hx with hx|hx
   ·exact .inr (by rw [← this]; exact y02.2 (.inl hx))
   ·rcases y01.1 hx with e|hx
    ·exact .inl e
    ·exact .inr (by rw [← this]; exact y02.2 (.inr hx))
  ·rintro (e|hx)
   ·rw [e]; exact y02.2 (.inr (by simp))
   ·rw [← this] at hx
    rcases y02.1 hx with hx|hx
    ·exact y02.2 (.inl hx)
    ·exact y02.2 (.inr (by simp [hx]))
theorem z8pq (o:Tot lt) {d:α} : ∀ {l:List α},Asc lt l→d ∉ l → ∀ x ∈ l.dropWhile (fun x=>lt x d),lt d x=true
 | [],_,_,x,hx=>by simp at hx
 | a::l,h,hn,x,hx=>by
  have h':=y03.1 h
  rw [y0c] at hx
  split at hx
  ·exact z8pq o h'.2 (fun q=>hn (by simp [q])) x hx
  ·rename_i q
   have hda:lt d a=true:=by
    rcases o.tot a d with e|e|e
    ·exact absurd e q
    ·exact absurd (by simp [e]) hn
    ·exact e
   rcases y01.1 hx with e|hx
   ·rw [e]; exact hda
   ·exact o.tr _ _ _ hda (h'.1 x hx)
theorem zl1w (o:Tot lt) {l:List α} {d:α} (h:Asc lt l):Asc lt (addU lt l d):=by
 unfold addU
 split
 ·exact h
 ·rename_i hn
  have hs:=y07 (p:=fun x=>lt x d) (l:=l)
  have h0:Asc lt (l.takeWhile (fun x=>lt x d)++l.dropWhile (fun x=>lt x d)):=by rw [hs]; exact h
  rw [Asc,y05] at h0 ⊢
  obtain ⟨p1,p2,p3⟩:=h0
  refine ⟨p1,y03.2 ⟨z8pq o h hn,p2⟩,fun a ha b hb => ?_⟩
  rcases y01.1 hb with e|hb
  ·rw [e]; exact zeqt a ha
  ·exact p3 a ha b hb
theorem zyiy (o:Tot lt) : ∀ (m l:List α),Asc lt l→Asc lt (m.foldl (addU lt) l) ∧ ∀ x,x ∈ m.foldl (addU lt) l↔x ∈ m∨x ∈ l
 | [],l,h=>⟨h,fun x=>by simp⟩
 | d::m,l,h=>by
  obtain ⟨h1,h2⟩:=zyiy o m (addU lt l d) (zl1w o h)
  refine ⟨h1,fun x => ?_⟩
  rw [y1d,h2,z53k,y01]
  constructor
  ·rintro (q|q|q)
   ·exact .inl (.inr q)
   ·exact .inl (.inl q)
   ·exact .inr q
  ·rintro ((q|q)|q)
   ·exact .inr (.inl q)
   ·exact .inl q
   ·exact .inr (.inr q)
theorem zy4b (o:Tot lt) (l:List α):Asc lt (z534 lt l):=(zyiy o l [] List.Pairwise.nil).1
theorem zoav (o:Tot lt) (l:List α) (x:α):x ∈ z534 lt l↔x ∈ l:=by rw [z534,(zyiy o l [] List.Pairwise.nil).2]; simp
theorem zwlf (o:Tot lt) {l m:List α} (h:Asc lt m) (hm : ∀ x,x ∈ m↔x ∈ l):m=z534 lt l:=zjfh o h (zy4b o l) fun x=>by rw [hm,zoav o]
theorem zk4s {l:List α} {d:α}:(addU lt l d).length≤l.length+1:=by
 unfold addU
 split
 ·omega
 ·have:=congrArg List.length (y07 (p:=fun x=>lt x d) (l:=l))
  simp only [y0s,y0f] at this ⊢
  omega
theorem znmg : ∀ (m l:List α),(m.foldl (addU lt) l).length≤m.length+l.length
 | [],l=>by simp
 | d::m,l=>by
  have h1:=znmg m (addU lt l d)
  have h2:=zk4s (lt:=lt) (l:=l) (d:=d)
  rw [y1d,y0f]; omega
theorem zsv6 (l:List α):(z534 lt l).length≤l.length:=by have:=znmg (lt:=lt) l []; simpa [z534] using this
def Wsc (lt:α→α→Bool) (l:List α):Prop:=l.Pairwise (fun a b=>lt b a=false)
theorem zjso (o:Tot lt) {x:α} {l:List α} (h:Wsc lt l):Wsc lt (insR lt x l):=by
 unfold insR
 have hs:(l.reverse.dropWhile (lt x)).reverse++(l.reverse.takeWhile (lt x)).reverse=l:=by
  rw [← y0r,y07,y0w]
 have h0:Wsc lt ((l.reverse.dropWhile (lt x)).reverse++(l.reverse.takeWhile (lt x)).reverse):=by rw [hs]; exact h
 rw [Wsc,y05] at h0 ⊢
 obtain ⟨p1,p2,p3⟩:=h0
 have hT : ∀ b ∈ (l.reverse.takeWhile (lt x)).reverse,lt x b=true:=fun b hb=>zeqt b (y0u.1 hb)
 have asym : ∀ {a b:α},lt a b=true→lt b a=false:=fun {a b} q=>by
  cases e:lt b a with
  | false=>rfl
  | true=>have:=o.tr _ _ _ q e; rw [o.irr] at this; cases this
 have hD : ∀ b ∈ (l.reverse.dropWhile (lt x)).reverse,lt x b=false:=fun b hb=>by
  rcases zwbv (p:=lt x) (l:=l.reverse) with e|⟨y,r,e,hy⟩
  ·rw [e] at hb; simp at hb
  ·rw [e] at hb p1
   rw [y11] at hb p1
   rcases y02.1 hb with hb|hb
   ·have hby:=(y05.1 p1).2.2 b hb y (by simp)
    cases q:lt x b with
    | false=>rfl
    | true =>
     rcases o.tot b y with e1|e1|e1
     ·have:=o.tr _ _ _ q e1; rw [hy] at this; cases this
     ·rw [e1,hy] at q; cases q
     ·rw [hby] at e1; cases e1
   ·simp at hb; rw [hb]; exact hy
 refine ⟨p1,y03.2 ⟨fun b hb=>asym (hT b hb),p2⟩,fun a ha b hb => ?_⟩
 rcases y01.1 hb with e|hb
 ·rw [e]; exact hD a ha
 ·exact p3 a ha b hb
theorem zsyr (o:Tot lt) (l:List α):Wsc lt (zq4g lt l):=by
 induction l using z77f with
 | h0=>exact List.Pairwise.nil
 | h1 l x ih=>rw [zuk7]; exact zjso o ih
end
theorem zrk4 : ∀ a:Str,Op.bytesLess a a=false
 | []=>rfl
 | a::l=>by simp [Op.bytesLess,zrk4 l]
theorem z8c3 : ∀ a b c:Str,Op.bytesLess a b=true→Op.bytesLess b c=true→Op.bytesLess a c=true
 | _,_,[],_,h=>by simp [Op.bytesLess] at h
 | [],_,_::_,_,_=>rfl
 | _::_,[],_::_,h,_=>by simp [Op.bytesLess] at h
 | a::x,b::y,c::z,h1,h2=>by
  simp only [Op.bytesLess,Bool.or_eq_true,y08,decide_eq_true_eq,beq_iff_eq] at *
  rcases h1 with h1|⟨h1,h1'⟩
  ·rcases h2 with h2|⟨h2,h2'⟩
   ·exact .inl (UInt8.lt_trans h1 h2)
   ·exact .inl (h2▸h1)
  ·rcases h2 with h2|⟨h2,h2'⟩
   ·exact .inl (h1▸h2)
   ·exact .inr ⟨h1.trans h2,z8c3 _ _ _ h1' h2'⟩
theorem zoet : ∀ a b:Str,Op.bytesLess a b=true∨a=b∨Op.bytesLess b a=true
 | [],[] => .inr (.inl rfl)
 | [],_::_ => .inl rfl
 | _::_,[] => .inr (.inr rfl)
 | a::x,b::y=>by
  simp only [Op.bytesLess,Bool.or_eq_true,y08,decide_eq_true_eq,beq_iff_eq]
  rcases UInt8.lt_or_lt_of_ne (a:=a) (b:=b) |> fun h=>(Classical.em (a=b)).imp_right h with e|e|e
  ·rcases zoet x y with q|q|q
   ·exact .inl (.inr ⟨e,q⟩)
   ·exact .inr (.inl (by rw [e,q]))
   ·exact .inr (.inr (.inr ⟨e.symm,q⟩))
  ·exact .inl (.inl e)
  ·exact .inr (.inr (.inl e))
theorem z3gj:Tot Op.bytesLess:=⟨zrk4,z8c3,zoet⟩
end
section
set_option linter.unusedSimpArgs false
set_option linter.unusedVariables false
open Go Go.Am
set_option linter.unusedSectionVars false
section
variable {β κ:Type} [DecidableEq κ]
def addG (s:β→β→Bool):List (List β)→β→List (List β)
 | [],x=>[[x]]
 | g::r,x=>if (match g with|[]=>false|y::_=>s y x) then (g++[x])::r else g::addG s r x
def grpG (s:β→β→Bool) (l:List β):List (List β):=l.foldl (addG s) []
def ddp (l:List κ):List κ:=l.foldl (fun out x=>if x ∈ out then out else out++[x]) []
theorem zd8q {s:β→β→Bool} {l:List β} {x:β}:grpG s (l++[x])=addG s (grpG s l) x:=by simp [grpG]
theorem zcej {l:List κ} {x:κ}:ddp (l++[x])=if x ∈ ddp l then ddp l else ddp l++[x]:=by unfold ddp; rw [y12]; rfl
theorem zdl2 (l:List κ) : ∀ x:κ,x ∈ ddp l↔x ∈ l:=by
 induction l using z77f with
 | h0=>intro x; simp [ddp]
 | h1 l y ih =>
  intro x
  rw [zcej]
  split
  ·rename_i h
   rw [y02,y0j,ih]
   exact ⟨.inl,fun q=>q.elim id fun e=>e▸(ih y).1 h⟩
  ·rw [y02,y02,ih]
theorem z53o {l:List κ} {x:κ}:x ∈ ddp l↔x ∈ l:=zdl2 l x
theorem zeer (l:List κ):(ddp l).Nodup:=by
 induction l using z77f with
 | h0=>simp [ddp]
 | h1 l y ih =>
  rw [zcej]
  split
  ·exact ih
  ·rename_i h
   rw [List.nodup_append]
   refine ⟨ih,by simp,fun a ha b hb e => ?_⟩
   rw [y0j] at hb
   subst e; subst hb; exact h ha
theorem zom7 {s:β→β→Bool} {f:β→κ} {F:κ→List β} {x:β} (hs : ∀ y,s y x=decide (f y=f x)) : ∀ {K:List κ},(∀ k ∈ K,∃ y r,F k=y::r∧f y=k)→K.Nodup →
  addG s (K.map F) x=if f x ∈ K then K.map (fun k=>if k=f x then F k++[x] else F k) else K.map F++[[x]]
 | [],_,_=>by simp [addG]
 | k::K,h,hn=>by
  obtain ⟨y,r,e,ey⟩:=h k (by simp)
  rw [List.nodup_cons] at hn
  have ih:=zom7 (f:=f) (F:=F) hs (K:=K) (fun k' hk=>h k' (by simp [hk])) hn.2
  rw [y04,e]
  by_cases hk:k=f x
  ·have h1:s y x=true:=by rw [hs,ey]; simpa using hk
   simp only [addG,h1,if_true]
   have h2 : ∀ k' ∈ K,k'≠f x:=fun k' hk' q=>hn.1 (by rw [hk,← q]; exact hk')
   have h3:K.map (fun k'=>if k'=f x then F k'++[x] else F k')=K.map F:=y0b fun k' hk'=>by rw [if_neg (h2 k' hk')]
   rw [if_pos (by simp [hk]),y04,if_pos hk,h3,e]
  ·have h1:s y x=false:=by rw [hs,ey]; simpa using hk
   simp only [addG,h1,Bool.false_eq_true,if_false]
   by_cases hm:f x ∈ K
   ·rw [ih,if_pos hm,if_pos (by simp [hm]),y04,if_neg hk,e]
   ·rw [ih,if_neg hm,if_neg (by simp only [y01,not_or]; exact ⟨fun q=>hk q.symm,hm⟩)]; rfl
theorem z6io {s:β→β→Bool} {f:β→κ} (hs : ∀ y x,s y x=decide (f y=f x)) (l:List β):grpG s l=(ddp (l.map f)).map fun k=>l.filter fun y=>decide (f y=k):=by
 induction l using z77f with
 | h0=>rfl
 | h1 l x ih =>
  rw [zd8q,ih,zom7 (f:=f) (fun y=>hs y x) (fun k hk => ?_) (zeer _)]
  ·rw [y0d,y04,y0n,zcej]
   by_cases h:f x ∈ ddp (l.map f)
   ·rw [if_pos h,if_pos h]
    refine y0b fun k _ => ?_
    rw [y0a]
    by_cases hk:k=f x
    ·rw [if_pos hk]; simp [hk]
    ·rw [if_neg hk]
     have:¬ f x=k:=fun q=>hk q.symm
     simp [this]
   ·rw [if_neg h,if_neg h,y0d]
    have h2:f x ∉ l.map f:=fun q=>h (z53o.2 q)
    congr 1
    ·refine y0b fun k hk => ?_
     have:¬ f x=k:=fun q=>h (q▸hk)
     rw [y0a]; simp [this]
    ·have h3:l.filter (fun y=>decide (f y=f x))=[]:=y0i.2 fun y hy=>by
      simp only [decide_eq_true_eq]; exact fun q=>h2 (y00.2 ⟨y,hy,q⟩)
     rw [y04,y0n,y0a,h3]; simp
  ·rw [z53o,y00] at hk
   obtain ⟨y,hy,e⟩:=hk
   have hm:y ∈ l.filter (fun y=>decide (f y=k)):=y06.2 ⟨hy,by simpa using e⟩
   cases hf:l.filter (fun y=>decide (f y=k)) with
   | nil=>rw [hf] at hm; simp at hm
   | cons z r =>
    have hz:z ∈ l.filter (fun y=>decide (f y=k)):=by rw [hf]; simp
    exact ⟨z,r,rfl,by simpa using (y06.1 hz).2⟩
end
section
variable {α β:Type} [DecidableEq α] {lt:α→α→Bool}
theorem zt6t (o:Tot lt) {l:List α} (h:Wsc lt l):Asc lt (ddp l):=by
 induction l using z77f with
 | h0=>exact List.Pairwise.nil
 | h1 l x ih =>
  rw [Wsc,y05] at h
  obtain ⟨h1,_,h3⟩:=h
  rw [zcej]
  split
  ·exact ih h1
  ·rename_i hx
   rw [Asc,y05]
   refine ⟨ih h1,y17 _ _,fun a ha b hb => ?_⟩
   rw [y0j] at hb
   subst hb
   have h4:=h3 a (z53o.1 ha) b (by simp)
   rcases o.tot a b with e|e|e
   ·exact e
   ·exact absurd (e▸ha) hx
   ·rw [h4] at e; cases e
theorem zrd2 {f:β→α} (o:Tot lt) {k:α} (l:List β):(zq4g (fun a b=>lt (f a) (f b)) l).filter (fun y=>decide (f y=k))=l.filter (fun y=>decide (f y=k)):=by
 induction l using z77f with
 | h0=>rfl
 | h1 l x ih =>
  rw [zuk7]
  obtain ⟨A,B,e1,e2,hB,_⟩:=zyus (lt:=fun a b=>lt (f a) (f b)) x (zq4g (fun a b=>lt (f a) (f b)) l)
  rw [e2,y0a,y0a,← ih,e1,y0a]
  by_cases hx:f x=k
  ·have hb:B.filter (fun y=>decide (f y=k))=[]:=y0i.2 fun b hb=>by
    simp only [decide_eq_true_eq]
    intro q
    have:lt (f x) (f b)=true:=hB b hb
    rw [hx,q,o.irr] at this; cases this
   rw [y18 (by simpa using hx),hb,y18 (by simpa using hx)]; simp
  ·rw [y19 (by simpa using hx),y19 (by simpa using hx)]; simp
theorem z2iu (o:Tot lt) {f:β→α} {s:β→β→Bool} (hs : ∀ y x,s y x=decide (f y=f x)) (V:List β) :
  grpG s (zq4g (fun a b=>lt (f a) (f b)) V)=(z534 lt (V.map f)).map fun k=>V.filter fun y=>decide (f y=k):=by
 rw [z6io hs]
 have h1:(zq4g (fun a b=>lt (f a) (f b)) V).map f=zq4g lt (V.map f):=(zmcs (y1a fun _ _=>rfl)).symm
 have h2:ddp (zq4g lt (V.map f))=z534 lt (V.map f):=zwlf o (zt6t o (zsyr o _)) fun x=>by rw [z53o,(zo43 _).mem_iff]
 rw [h1,h2]
 exact y0b fun k _=>zrd2 o V
end
section
variable {γ:Type} {bef:γ→γ→Bool}
theorem zyt3 (irr : ∀ a,bef a a=false) (tr : ∀ a b c,bef a b=true→bef b c=true→bef a c=true) : ∀ {l m:List γ},l.Pairwise (fun a b=>bef a b=true)→m.Pairwise (fun a b=>bef a b=true)→(∀ x,x ∈ l↔x ∈ m)→l=m
 | [],[],_,_,_=>rfl
 | [],b::m,_,_,h=>by have:=(h b).2 (by simp); simp at this
 | a::l,[],_,_,h=>by have:=(h a).1 (by simp); simp at this
 | a::l,b::m,h1,h2,h=>by
  have k1:=(y03.1 h1).1
  have k2:=(y03.1 h2).1
  have e:a=b:=by
   rcases y01.1 ((h a).1 (by simp)) with e|ha
   ·exact e
   rcases y01.1 ((h b).2 (by simp)) with e|hb
   ·exact e.symm
   have:=tr _ _ _ (k1 b hb) (k2 a ha)
   rw [irr] at this; cases this
  subst e
  rw [zyt3 irr tr (y03.1 h1).2 (y03.1 h2).2 fun x=>⟨fun hx => ?_,fun hx => ?_⟩]
  ·rcases y01.1 ((h x).1 (by simp [hx])) with e|h'
   ·have:=k1 x hx; rw [e,irr] at this; cases this
   ·exact h'
  ·rcases y01.1 ((h x).2 (by simp [hx])) with e|h'
   ·have:=k2 x hx; rw [e,irr] at this; cases this
   ·exact h'
def insB (bef:γ→γ→Bool) (out:List γ) (x:γ):List γ:=out.takeWhile (fun y=>bef y x)++x::out.dropWhile (fun y=>bef y x)
def zgsx (bef:γ→γ→Bool) (l:List γ):List γ:=l.foldl (insB bef) []
theorem zcns {out:List γ} {x y:γ}:y ∈ insB bef out x↔y=x∨y ∈ out:=by
 have:=y07 (p:=fun y=>bef y x) (l:=out)
 unfold insB
 constructor
 ·intro h
  rcases y02.1 h with h|h
  ·exact .inr (by rw [← this]; exact y02.2 (.inl h))
  ·rcases y01.1 h with e|h
   ·exact .inl e
   ·exact .inr (by rw [← this]; exact y02.2 (.inr h))
 ·rintro (e|h)
  ·rw [e]; exact y02.2 (.inr (by simp))
  ·rw [← this] at h
   rcases y02.1 h with h|h
   ·exact y02.2 (.inl h)
   ·exact y02.2 (.inr (by simp [h]))
theorem zxfq (tr : ∀ a b c,bef a b=true→bef b c=true→bef a c=true) {x:γ} : ∀ {out:List γ},out.Pairwise (fun a b=>bef a b=true)→(∀ y ∈ out,bef y x=true∨bef x y=true) → ∀ y ∈ out.dropWhile (fun y=>bef y x),bef x y=true
 | [],_,_,y,hy=>by simp at hy
 | a::l,h,ht,y,hy=>by
  have h':=y03.1 h
  rw [y0c] at hy
  split at hy
  ·exact zxfq tr h'.2 (fun y hy=>ht y (by simp [hy])) y hy
  ·rename_i q
   have ha:bef x a=true:=(ht a (by simp)).resolve_left q
   rcases y01.1 hy with e|hy
   ·rw [e]; exact ha
   ·exact tr _ _ _ ha (h'.1 y hy)
theorem z5az (tr : ∀ a b c,bef a b=true→bef b c=true→bef a c=true) {x:γ} {out:List γ} (h:out.Pairwise (fun a b=>bef a b=true)) (ht : ∀ y ∈ out,bef y x=true∨bef x y=true):(insB bef out x).Pairwise (fun a b=>bef a b=true):=by
 have hs:=y07 (p:=fun y=>bef y x) (l:=out)
 have h0:=h
 rw [← hs,y05] at h0
 obtain ⟨p1,p2,p3⟩:=h0
 have hd:=zxfq tr h ht
 unfold insB
 rw [y05]
 refine ⟨p1,y03.2 ⟨hd,p2⟩,fun a ha b hb => ?_⟩
 rcases y01.1 hb with e|hb
 ·rw [e]; exact zeqt a ha
 ·exact p3 a ha b hb
theorem zpfe (tr : ∀ a b c,bef a b=true→bef b c=true→bef a c=true) {l:List γ} (ht:l.Pairwise (fun a b=>bef a b=true∨bef b a=true)):(zgsx bef l).Pairwise (fun a b=>bef a b=true) ∧ ∀ x,x ∈ zgsx bef l↔x ∈ l:=by
 induction l using z77f with
 | h0=>exact ⟨List.Pairwise.nil,fun x=>Iff.rfl⟩
 | h1 l x ih =>
  rw [y05] at ht
  obtain ⟨t1,_,t3⟩:=ht
  obtain ⟨i1,i2⟩:=ih t1
  have e:zgsx bef (l++[x])=insB bef (zgsx bef l) x:=by simp [zgsx]
  rw [e]
  refine ⟨z5az tr i1 fun y hy=>t3 y ((i2 y).1 hy) x (by simp),fun y => ?_⟩
  rw [zcns,i2,y02,y0j,Or.comm]
end
theorem z6j3 {γ:Type} {n:γ→Nat} {R:γ→γ→Prop} {l:List γ} (h:l.Pairwise R):(zq4g (fun a b=>decide (n b<n a)) l).Pairwise (fun a b=>n b<n a∨(n a=n b∧R a b)):=by
 induction l using z77f with
 | h0=>exact List.Pairwise.nil
 | h1 l x ih =>
  rw [y05] at h
  obtain ⟨h1,_,h3⟩:=h
  have ih:=ih h1
  rw [zuk7]
  have hmem : ∀ a,a ∈ zq4g (fun a b=>decide (n b<n a)) l→a ∈ l:=fun a ha=>(zo43 l).mem_iff.1 ha
  obtain ⟨A,B,e1,e2,hB,hA⟩:=zyus (lt:=fun a b=>decide (n b<n a)) x (zq4g (fun a b=>decide (n b<n a)) l)
  rw [e1] at ih hmem
  rw [e2]
  have hx : ∀ a ∈ A,n x≤n a:=fun a ha=>by
   rcases hA with rfl|⟨A',y,rfl,hy⟩
   ·simp at ha
   ·have hy:n x≤n y:=by simpa using hy
    rcases y02.1 ha with ha|ha
    ·rw [y13,y05] at ih
     have:=ih.2.2 a ha y (by simp)
     omega
    ·rw [y0j] at ha; subst ha; exact hy
  rw [y05] at ih ⊢
  obtain ⟨p1,p2,p3⟩:=ih
  refine ⟨p1,y03.2 ⟨fun b hb => .inl (by simpa using hB b hb),p2⟩,fun a ha b hb => ?_⟩
  rcases y01.1 hb with e|hb
  ·subst e
   have:=hx a ha
   have r:=h3 a (hmem a (by simp [ha])) b (by simp)
   by_cases q:n b<n a
   ·exact .inl q
   ·exact .inr ⟨by omega,r⟩
  ·exact p3 a ha b hb
end
section
set_option linter.unusedSimpArgs false
set_option linter.unusedVariables false
open Go Go.Am
set_option linter.unusedSectionVars false
section
variable {α β κ:Type} [DecidableEq α] [DecidableEq κ] (lt:α→α→Bool) (own:β→α) (key:β→κ)
def agO (V:List β):List α:=z534 lt (V.map own)
def agV (V:List β) (o:α):List β:=V.filter fun y=>decide (own y=o)
def badG (g:List β):Bool:=match g with
 | []=>false
 | w::r=>(w::r).any fun v => !decide (key v=key w)
def agG (V:List β):List (List β):=grpG (fun a b=>decide (own a=own b)) (zq4g (fun a b=>lt (own a) (own b)) V)
def eqvP (V:List β):List α:=((agG lt own V).filter (badG key)).filterMap fun g=>g.head?.map own
def sngP (V:List β):List β:=((agG lt own V).filter fun g => !badG key g).filterMap List.head?
def zwcm (g:List β):Option (β × List α):=g.head?.map fun w=>(w,g.map own)
def outP (V:List β):List (β × List α):=(grpG (fun a b=>decide (key a=key b)) (sngP lt own key V)).filterMap (zwcm own)
def cmpP (V:List β):List (β × List α):=zq4g (fun a b=>decide (b.2.length<a.2.length)) (outP lt own key V)
def eqLs:List β→List β→List α
 | _,[]=>[]
 | pre,x::r=>(pre.filter fun y=>decide (own y=own x) && !decide (key x=key y)).map (fun _=>own x)++eqLs (pre++[x]) r
def eqvR (V:List β):List α:=z534 lt (eqLs own key [] V)
def addC:List (β × List α)→β→List (β × List α)
 | [],x=>[(x,addU lt [] (own x))]
 | c::r,x=>if key c.1=key x then (c.1,addU lt c.2 (own x))::r else c::addC r x
def outR (V:List β):List (β × List α):=(V.filter fun v => !decide (own v ∈ eqvR lt own key V)).foldl (addC lt own key) []
def befC (a b:β × List α):Bool:=if a.2.length≠b.2.length then decide (b.2.length<a.2.length) else match a.2,b.2 with
 | x::_,y::_=>lt x y
 | _,_=>false
def cmpR (V:List β):List (β × List α):=zgsx (befC lt) (outR lt own key V)
end
section
variable {α β κ:Type} [DecidableEq α] [DecidableEq κ] {lt:α→α→Bool} {own:β→α} {key:β→κ}
def Conf (own:β→α) (key:β→κ) (V:List β) (o:α):Prop := ∃ v ∈ V,∃ w ∈ V,own v=o∧own w=o∧key v≠key w
theorem zlsf (o:Tot lt) {V:List β} {x:α}:x ∈ agO lt own V ↔ ∃ v ∈ V,own v=x:=by rw [agO,zoav o,y00]
theorem zggv (o:Tot lt) (V:List β):Asc lt (agO lt own V):=zy4b o _
theorem z6xg (o:Tot lt) (V:List β):agG lt own V=(agO lt own V).map (agV own V):=z2iu o (fun _ _=>rfl) V
theorem z3g3 {V:List β} {x:α} {v:β}:v ∈ agV own V x↔v ∈ V∧own v=x:=by simp [agV]
theorem zcz6 (o:Tot lt) {V:List β} {x:α}:badG key (agV own V x)=true↔Conf own key V x:=by
 cases e:agV own V x with
 | nil =>
  refine ⟨fun h=>by simp [badG] at h,fun ⟨v,hv,_,_,h1,_⟩ => ?_⟩
  have:v ∈ agV own V x:=z3g3.2 ⟨hv,h1⟩
  rw [e] at this; simp at this
 | cons w r =>
  have hm : ∀ v,v ∈ w::r↔v ∈ V∧own v=x:=fun v=>by rw [← e]; exact z3g3
  have hw:=(hm w).1 (by simp)
  simp only [badG,List.any_eq_true,y0m,decide_eq_false_iff_not]
  constructor
  ·rintro ⟨v,hv,hk⟩
   have:=(hm v).1 hv
   exact ⟨v,this.1,w,hw.1,this.2,hw.2,hk⟩
  ·rintro ⟨v,hv,u,hu,h1,h2,h3⟩
   by_cases q:key v=key w
   ·exact ⟨u,(hm u).2 ⟨hu,h2⟩,fun q2=>h3 (q.trans q2.symm)⟩
   ·exact ⟨v,(hm v).2 ⟨hv,h1⟩,q⟩
theorem z9wv {V:List β} {x:α} (h : ∃ v ∈ V,own v=x) : ∃ w,(agV own V x).head? = some w∧w ∈ V∧own w=x:=by
 obtain ⟨v,hv,e⟩:=h
 cases hg:agV own V x with
 | nil=>have:=z3g3.2 ⟨hv,e⟩; rw [hg] at this; simp at this
 | cons w r =>
  have:w ∈ agV own V x:=by rw [hg]; simp
  exact ⟨w,rfl,z3g3.1 this⟩
theorem zb3z {A B:Type} {p:B→Bool} {f:A→B} : ∀ {l:List A},(l.map f).filter p=(l.filter fun a=>p (f a)).map f
 | []=>rfl
 | a::l=>by
  have ih:=zb3z (p:=p) (f:=f) (l:=l)
  rw [y04,y0o,y0o,ih]
  split<;>simp
theorem zxwk (o:Tot lt) (V:List β):eqvP lt own key V=(agO lt own V).filter fun x=>badG key (agV own V x):=by
 unfold eqvP
 rw [z6xg o,zb3z,y0z]
 have h : ∀ l:List α,(∀ x ∈ l,∃ v ∈ V,own v=x)→l.filterMap ((fun g:List β=>g.head?.map own) ∘ agV own V)=l:=by
  intro l
  induction l with
  | nil=>intro _; rfl
  | cons x l ih =>
   intro hl
   obtain ⟨w,h1,h2,h3⟩:=z9wv (own:=own) (hl x (by simp))
   rw [y0x]
   simp only [Function.comp_def,h1,y0k,h3]
   congr 1
   exact ih fun y hy=>hl y (by simp [hy])
 exact h _ fun x hx=>(zlsf o).1 (y06.1 hx).1
theorem znbp {x:α} : ∀ {V pre:List β},x ∈ eqLs own key pre V ↔ ∃ A v B,V=A++v::B∧own v=x ∧ ∃ w ∈ pre++A,own w=x∧key v≠key w
 | [],pre=>by
  refine ⟨fun h=>by simp [eqLs] at h,fun ⟨A,v,B,e,_⟩=>by simp at e⟩
 | y::V,pre=>by
  rw [eqLs,y02,znbp (V:=V)]
  constructor
  ·rintro (h|⟨A,v,B,rfl,h1,w,hw,h2,h3⟩)
   ·rw [y00] at h
    obtain ⟨w,hw,e⟩:=h
    have hw2:=y06.1 hw
    simp only [y08,decide_eq_true_eq,y0m,decide_eq_false_iff_not] at hw2
    exact ⟨[],y,V,rfl,e,w,by simpa using hw2.1,by rw [hw2.2.1,e],hw2.2.2⟩
   ·exact ⟨y::A,v,B,rfl,h1,w,by simpa [y13] using hw,h2,h3⟩
  ·rintro ⟨A,v,B,e,h1,w,hw,h2,h3⟩
   cases A with
   | nil =>
    simp only [y0v,List.cons.injEq] at e
    obtain ⟨rfl,rfl⟩:=e
    left
    rw [y00]
    refine ⟨w,y06.2 ⟨by simpa using hw,?_⟩,h1⟩
    simp only [y08,decide_eq_true_eq,y0m,decide_eq_false_iff_not]
    exact ⟨by rw [h2,h1],h3⟩
   | cons a A =>
    simp only [y0h,List.cons.injEq] at e
    obtain ⟨rfl,rfl⟩:=e
    right
    exact ⟨A,v,B,rfl,h1,w,by simpa [y13] using hw,h2,h3⟩
theorem zqqi {V:List β} {v w:β} (hv:v ∈ V) (hw:w ∈ V):v=w∨(∃ A B C,V=A++v::B++w::C) ∨ ∃ A B C,V=A++w::B++v::C:=by
 obtain ⟨A,B,rfl⟩:=y10 hv
 rcases y02.1 hw with h|h
 ·obtain ⟨A1,A2,rfl⟩:=y10 h
  exact .inr (.inr ⟨A1,A2,B,by simp⟩)
 ·rcases y01.1 h with e|h
  ·exact .inl e.symm
  ·obtain ⟨B1,B2,rfl⟩:=y10 h
   exact .inr (.inl ⟨A,B1,B2,by simp⟩)
theorem zwqs (o:Tot lt) {V:List β} {x:α}:x ∈ eqvR lt own key V↔Conf own key V x:=by
 rw [eqvR,zoav o,znbp]
 constructor
 ·rintro ⟨A,v,B,rfl,h1,w,hw,h2,h3⟩
  exact ⟨v,by simp,w,by simp only [y0v] at hw; simp [hw],h1,h2,h3⟩
 ·rintro ⟨v,hv,w,hw,h1,h2,h3⟩
  rcases zqqi hv hw with rfl|⟨A,B,C,rfl⟩|⟨A,B,C,rfl⟩
  ·exact absurd rfl h3
  ·exact ⟨A++v::B,w,C,by simp,h2,v,by simp,h1,fun q=>h3 q.symm⟩
  ·exact ⟨A++w::B,v,C,by simp,h1,w,by simp,h2,h3⟩
theorem z4t9 (o:Tot lt) (V:List β):eqvP lt own key V=eqvR lt own key V:=by
 rw [zxwk o]
 refine zjfh o (List.Pairwise.filter _ (zggv o V)) (zy4b o _) fun x => ?_
 show _↔x ∈ eqvR lt own key V
 rw [y06,zcz6 o,zwqs o]
 exact ⟨fun h=>h.2,fun h=>⟨(zlsf o).2 (let ⟨v,hv,_,_,h1,_⟩:=h; ⟨v,hv,h1⟩),h⟩⟩
structure Sng (lt:α→α→Bool) (own:β→α) (key:β→κ) (V S:List β):Prop where
 asc:Asc lt (S.map own)
 sub : ∀ v ∈ S,v ∈ V
 mem : ∀ x,x ∈ S.map own↔(∃ v ∈ V,own v=x)∧¬ Conf own key V x
theorem zzz9 (o:Tot lt) (V:List β):Sng lt own key V (sngP lt own key V):=by
 have e:sngP lt own key V=((agO lt own V).filter fun x => !badG key (agV own V x)).filterMap fun x=>(agV own V x).head? := by
  unfold sngP
  rw [z6xg o,zb3z,y0z]; rfl
 have h : ∀ l:List α,(∀ x ∈ l,∃ v ∈ V,own v=x)→(l.filterMap fun x=>(agV own V x).head?).map own=l ∧ ∀ v ∈ l.filterMap fun x=>(agV own V x).head?,v ∈ V:=by
  intro l
  induction l with
  | nil=>intro _; exact ⟨rfl,fun v hv=>by simp at hv⟩
  | cons x l ih =>
   intro hl
   obtain ⟨w,h1,h2,h3⟩:=z9wv (own:=own) (hl x (by simp))
   obtain ⟨i1,i2⟩:=ih fun y hy=>hl y (by simp [hy])
   rw [y0x,h1]
   refine ⟨by simp only [y04,h3,i1],fun v hv => ?_⟩
   rcases y01.1 hv with e|hv
   ·rw [e]; exact h2
   ·exact i2 v hv
 have hl : ∀ x ∈ (agO lt own V).filter (fun x => !badG key (agV own V x)),∃ v ∈ V,own v=x:=fun x hx=>(zlsf o).1 (y06.1 hx).1
 obtain ⟨h1,h2⟩:=h _ hl
 refine ⟨by rw [e,h1]; exact List.Pairwise.filter _ (zggv o V),fun v hv=>h2 v (by rw [← e]; exact hv),fun x => ?_⟩
 rw [e,h1,y06,zlsf o,y0m,← Bool.not_eq_true,zcz6 o]
theorem Sng.key_eq {V S:List β} (s:Sng lt own key V S) {v w:β} (hv:v ∈ S) (hw:w ∈ V) (e:own w=own v):key w=key v:=by
 have:=((s.mem (own v)).1 (y1j hv)).2
 by_cases q:key w=key v
 ·exact q
 ·exact absurd ⟨w,hw,v,s.sub v hv,e,rfl,q⟩ this
def pC (key:β→κ) (c:β × List α):κ × List α:=(key c.1,c.2)
def z40e (own:β→α) (key:β→κ) (S:List β):List (κ × List α):=(ddp (S.map key)).map fun k=>(k,(S.filter fun v=>decide (key v=k)).map own)
theorem z0gb (V:List β):(outP lt own key V).map (pC key)=z40e own key (sngP lt own key V):=by
 unfold outP z40e
 rw [z6io (f:=key) (fun _ _=>rfl),y0z,List.map_filterMap]
 generalize sngP lt own key V=S
 have h : ∀ K:List κ,(∀ k ∈ K,∃ v ∈ S,key v=k)→(K.filterMap fun k=>Option.map (pC key) ((zwcm own ∘ fun k=>S.filter fun y=>decide (key y=k)) k))=K.map fun k=>(k,(S.filter fun v=>decide (key v=k)).map own):=by
  intro K
  induction K with
  | nil=>intro _; rfl
  | cons k K ih =>
   intro hK
   obtain ⟨v,hv,e⟩:=hK k (by simp)
   have hm:v ∈ S.filter fun y=>decide (key y=k):=y06.2 ⟨hv,by simpa using e⟩
   rw [y0x,y04]
   cases hf:S.filter (fun y=>decide (key y=k)) with
   | nil=>rw [hf] at hm; simp at hm
   | cons w r =>
    have hw:key w=k:=by
     have:w ∈ S.filter fun y=>decide (key y=k):=by rw [hf]; simp
     simpa using (y06.1 this).2
    simp only [Function.comp_def,zwcm,hf,List.head?_cons,y0k,pC,hw]
    congr 1
    exact ih fun k' hk'=>hK k' (by simp [hk'])
 exact h _ fun k hk=>by rw [z53o,y00] at hk; exact hk
def addK (lt:α→α→Bool):List (κ × List α)→κ→α→List (κ × List α)
 | [],k,x=>[(k,addU lt [] x)]
 | c::r,k,x=>if c.1=k then (c.1,addU lt c.2 x)::r else c::addK lt r k x
theorem zhcz {x:β} : ∀ {l:List (β × List α)},(addC lt own key l x).map (pC key)=addK lt (l.map (pC key)) (key x) (own x)
 | []=>rfl
 | c::r=>by
  rw [addC,y04,addK]
  by_cases h:key c.1=key x
  ·rw [if_pos h,if_pos (show (pC key c).1=key x from h)]; rfl
  ·rw [if_neg h,if_neg (show ¬ (pC key c).1=key x from h),y04,zhcz]
theorem zbuh {F:κ→List α} {k:κ} {x:α} : ∀ {K:List κ},K.Nodup→addK lt (K.map fun k=>(k,F k)) k x=if k ∈ K then K.map (fun k'=>(k',if k'=k then addU lt (F k') x else F k')) else K.map (fun k=>(k,F k))++[(k,addU lt [] x)]
 | [],_=>by simp [addK]
 | a::K,hn=>by
  rw [List.nodup_cons] at hn
  have ih:=zbuh (F:=F) (k:=k) (x:=x) hn.2
  rw [y04,addK]
  by_cases h:a=k
  ·subst h
   have h3:K.map (fun k'=>(k',if k'=a then addU lt (F k') x else F k'))=K.map fun k=>(k,F k):=y0b fun k' hk'=>by
    have hne:¬ k'=a:=fun q=>hn.1 (q▸hk')
    rw [if_neg hne]
   rw [if_pos rfl,if_pos (by simp),y04,if_pos rfl,h3]
  ·rw [if_neg h]
   by_cases hm:k ∈ K
   ·rw [ih,if_pos hm,if_pos (by simp [hm]),y04,if_neg h]
   ·rw [ih,if_neg hm,if_neg (by simp only [y01,not_or]; exact ⟨fun q=>h q.symm,hm⟩)]; rfl
def zva6 (lt:α→α→Bool) (own:β→α) (key:β→κ) (W:List β):List (κ × List α):=(ddp (W.map key)).map fun k=>(k,z534 lt ((W.filter fun v=>decide (key v=k)).map own))
theorem zwfw (W:List β):(W.foldl (addC lt own key) []).map (pC key)=zva6 lt own key W:=by
 induction W using z77f with
 | h0=>rfl
 | h1 W x ih =>
  rw [y12,y1d,List.foldl_nil,zhcz,ih]
  unfold zva6
  rw [zbuh (F:=fun k=>z534 lt ((W.filter fun v=>decide (key v=k)).map own)) (zeer _),y0d,y04,y0n,zcej]
  by_cases h:key x ∈ ddp (W.map key)
  ·rw [if_pos h,if_pos h]
   refine y0b fun k _ => ?_
   rw [y0a]
   by_cases hk:k=key x
   ·subst hk
    simp [z534,y12]
   ·have:¬ key x=k:=fun q=>hk q.symm
    simp [hk,this]
  ·rw [if_neg h,if_neg h,y0d]
   have h2:key x ∉ W.map key:=fun q=>h (z53o.2 q)
   congr 1
   ·refine y0b fun k hk => ?_
    have:¬ key x=k:=fun q=>h (q▸hk)
    rw [y0a]; simp [this]
   ·have h3:W.filter (fun y=>decide (key y=key x))=[]:=y0i.2 fun y hy=>by
     simp only [decide_eq_true_eq]; exact fun q=>h2 (y00.2 ⟨y,hy,q⟩)
    rw [y04,y0n,y0a,h3]; simp [z534]
end
end
section
set_option linter.unusedSimpArgs false
set_option linter.unusedVariables false
open Go Go.Am
set_option linter.unusedSectionVars false
section
variable {α β κ:Type} [DecidableEq α] [DecidableEq κ] {lt:α→α→Bool} {own:β→α} {key:β→κ}
def HR (lt:α→α→Bool) (a b:κ × List α):Prop := ∃ x y,a.2.head? = some x∧b.2.head? = some y∧lt x y=true
theorem zsuz {S:List β} {c:κ × List α} (h:c ∈ z40e own key S) : ∃ x,c.2.head? = some x:=by
 obtain ⟨k,hk,rfl⟩:=y00.1 h
 rw [z53o,y00] at hk
 obtain ⟨v,hv,e⟩:=hk
 have hm:v ∈ S.filter fun v=>decide (key v=k):=y06.2 ⟨hv,by simpa using e⟩
 cases hf:S.filter (fun v=>decide (key v=k)) with
 | nil=>rw [hf] at hm; simp at hm
 | cons w r=>exact ⟨own w,by simp⟩
theorem ziit {S:List β} (h:Asc lt (S.map own)):(z40e own key S).Pairwise (HR lt):=by
 induction S using z77f with
 | h0=>exact List.Pairwise.nil
 | h1 S v ih =>
  rw [y0d,Asc,y05] at h
  obtain ⟨h1,_,h3⟩:=h
  have ih:=ih h1
  have hF : ∀ k,((S++[v]).filter fun u=>decide (key u=k)).map own=(S.filter fun u=>decide (key u=k)).map own++(if key v=k then [own v] else []):=fun k=>by
   rw [y0a,y0d]
   by_cases e:key v=k<;>simp [e]
  have hcs:z40e own key (S++[v])=(ddp ((S++[v]).map key)).map fun k=>(k,(S.filter fun u=>decide (key u=k)).map own++(if key v=k then [own v] else [])):=by
   unfold z40e
   exact y0b fun k _=>by rw [hF]
  rw [hcs,y0d,y04,y0n,zcej]
  have hkeep : ∀ K:List κ,(K.map fun k=>(k,(S.filter fun u=>decide (key u=k)).map own)).Pairwise (HR lt)→(K.map fun k=>(k,(S.filter fun u=>decide (key u=k)).map own++(if key v=k then [own v] else []))).Pairwise (HR lt):=fun K hp=>by
   rw [List.pairwise_map] at hp ⊢
   refine hp.imp ?_
   rintro a b ⟨x,y,e1,e2,e3⟩
   simp only at e1 e2
   exact ⟨x,y,by simp only [y14,e1,y1h],by simp only [y14,e2,y1h],e3⟩
  by_cases hk:key v ∈ ddp (S.map key)
  ·rw [if_pos hk]; exact hkeep _ ih
  ·rw [if_neg hk,y0d,y05]
   refine ⟨hkeep _ ih,y17 _ _,fun a ha b hb => ?_⟩
   rw [y04,y0n,y0j] at hb
   subst hb
   obtain ⟨k,hka,rfl⟩:=y00.1 ha
   obtain ⟨x,hx⟩:=zsuz (own:=own) (c:=(k,(S.filter fun u=>decide (key u=k)).map own)) (y00.2 ⟨k,hka,rfl⟩)
   have hnil:S.filter (fun u=>decide (key u=key v))=[]:=y0i.2 fun y hy=>by
    simp only [decide_eq_true_eq]; exact fun q=>hk (z53o.2 (y00.2 ⟨y,hy,q⟩))
   simp only at hx
   refine ⟨x,own v,by simp only [y14,hx,y1h],by simp [hnil],?_⟩
   have hxm:x ∈ S.map own:=by
    have:=List.mem_of_mem_head? (by rw [hx]; rfl:x ∈ ((S.filter fun u=>decide (key u=k)).map own).head?)
    obtain ⟨u,hu,e⟩:=y00.1 this
    exact y00.2 ⟨u,(y06.1 hu).1,e⟩
   exact h3 x hxm (own v) (by simp)
theorem zonc {γ:Type} {a b:γ × List α} (h:b.2.length<a.2.length∨(a.2.length=b.2.length ∧ ∃ x y,a.2.head? = some x∧b.2.head? = some y∧lt x y=true)):befC lt a b=true:=by
 unfold befC
 rcases h with h|⟨h,x,y,e1,e2,e3⟩
 ·rw [if_pos (by omega)]; simpa using h
 ·rw [if_neg (by omega)]
  obtain ⟨a1,a2⟩:=a
  obtain ⟨b1,b2⟩:=b
  cases a2 with
  | nil=>simp at e1
  | cons u a2 =>
   cases b2 with
   | nil=>simp at e2
   | cons w b2 =>
    simp only [List.head?_cons,Option.some.injEq] at e1 e2
    subst e1; subst e2; exact e3
theorem zob0 {γ:Type} {a b:γ × List α} (h:befC lt a b=true):b.2.length<a.2.length∨(a.2.length=b.2.length ∧ ∃ x y,a.2.head? = some x∧b.2.head? = some y∧lt x y=true):=by
 unfold befC at h
 split at h
 ·left; simpa using h
 ·rename_i q
  right
  refine ⟨by omega,?_⟩
  split at h
  ·rename_i x _ y _ e1 e2; exact ⟨x,y,by rw [e1]; rfl,by rw [e2]; rfl,h⟩
  ·cases h
theorem zo80 {γ:Type} (o:Tot lt) (a:γ × List α):befC lt a a=false:=by
 cases h:befC lt a a with
 | false=>rfl
 | true =>
  rcases zob0 h with h|⟨_,x,y,e1,e2,e3⟩
  ·omega
  ·rw [e1] at e2; cases e2; rw [o.irr] at e3; cases e3
theorem z66r {γ:Type} (o:Tot lt) (a b c:γ × List α) (h1:befC lt a b=true) (h2:befC lt b c=true):befC lt a c=true:=by
 rcases zob0 h1 with q1|⟨q1,x,y,e1,e2,e3⟩<;>rcases zob0 h2 with q2|⟨q2,u,w,f1,f2,f3⟩
 ·exact zonc (.inl (by omega))
 ·exact zonc (.inl (by omega))
 ·exact zonc (.inl (by omega))
 ·rw [e2] at f1; cases f1
  exact zonc (.inr ⟨by omega,x,w,e1,f2,o.tr _ _ _ e3 f3⟩)
theorem z3v7 {A B:Type} {f:A→B} {b1:A→A→Bool} {b2:B→B→Bool} (h : ∀ a b,b2 (f a) (f b)=b1 a b) {l:List A} {x:A}:(insB b1 l x).map f=insB b2 (l.map f) (f x):=by
 unfold insB
 have:=z0ct (f:=f) (p:=fun y=>b2 y (f x)) (q:=fun y=>b1 y x) (l:=l) (fun y _=>h y x)
 rw [this.1,this.2,y0d,y04]
theorem zjmx {A B:Type} {f:A→B} {b1:A→A→Bool} {b2:B→B→Bool} (h : ∀ a b,b2 (f a) (f b)=b1 a b) (l:List A):(zgsx b1 l).map f=zgsx b2 (l.map f):=by
 induction l using z77f with
 | h0=>rfl
 | h1 l x ih =>
  have e1:zgsx b1 (l++[x])=insB b1 (zgsx b1 l) x:=by simp [zgsx]
  have e2:zgsx b2 ((l++[x]).map f)=insB b2 (zgsx b2 (l.map f)) (f x):=by simp [zgsx]
  rw [e1,e2,z3v7 h,ih]
def z9dw (lt:α→α→Bool) (own:β→α) (key:β→κ) (V:List β):List (κ × List α):=zq4g (fun a b=>decide (b.2.length<a.2.length)) (z40e own key (sngP lt own key V))
theorem zxzu (V:List β):(cmpP lt own key V).map (pC key)=z9dw lt own key V:=by
 unfold cmpP z9dw
 rw [← z0gb]
 exact (zmcs (f:=pC key) (lt:=fun a b:β × List α=>decide (b.2.length<a.2.length)) (lt':=fun a b:κ × List α=>decide (b.2.length<a.2.length)) (y1a fun _ _=>rfl)).symm
theorem zg1c (o:Tot lt) (V:List β):(z9dw lt own key V).Pairwise fun a b=>befC lt a b=true:=by
 refine (z6j3 (n:=fun c:κ × List α=>c.2.length) (ziit (lt:=lt) (zzz9 (own:=own) (key:=key) o V).asc)).imp ?_
 rintro a b (h|⟨h,x,y,e⟩)
 ·exact zonc (.inl h)
 ·exact zonc (.inr ⟨h,x,y,e⟩)
theorem zxgg {V:List β} {c:κ × List α}:c ∈ z9dw lt own key V↔c ∈ z40e own key (sngP lt own key V):=(zo43 _).mem_iff
theorem z3ix (o:Tot lt) {V:List β} {c:κ × List α}:c ∈ zva6 lt own key (V.filter fun v => !decide (own v ∈ eqvR lt own key V))↔c ∈ z40e own key (sngP lt own key V):=by
 have s:=zzz9 (own:=own) (key:=key) o V
 generalize sngP lt own key V=S at s
 have hW : ∀ w,w ∈ V.filter (fun v => !decide (own v ∈ eqvR lt own key V))↔w ∈ V∧¬ Conf own key V (own w):=fun w=>by
  rw [y06,y0m,decide_eq_false_iff_not,zwqs o]
 generalize V.filter (fun v => !decide (own v ∈ eqvR lt own key V))=W at hW
 have hSW : ∀ v ∈ S,v ∈ W:=fun v hv=>(hW v).2 ⟨s.sub v hv,((s.mem (own v)).1 (y1j hv)).2⟩
 have hWS : ∀ w ∈ W,∃ v ∈ S,own v=own w∧key v=key w:=fun w hw=>by
  obtain ⟨h1,h2⟩:=(hW w).1 hw
  obtain ⟨v,hv,e⟩:=y00.1 ((s.mem (own w)).2 ⟨⟨w,h1,rfl⟩,h2⟩)
  exact ⟨v,hv,e,(s.key_eq hv h1 e.symm).symm⟩
 have hk : ∀ k,k ∈ ddp (W.map key)↔k ∈ ddp (S.map key):=fun k=>by
  rw [z53o,z53o,y00,y00]
  constructor
  ·rintro ⟨w,hw,e⟩
   obtain ⟨v,hv,_,e2⟩:=hWS w hw
   exact ⟨v,hv,by rw [e2,e]⟩
  ·rintro ⟨v,hv,e⟩; exact ⟨v,hSW v hv,e⟩
 have ho : ∀ k,z534 lt ((W.filter fun v=>decide (key v=k)).map own)=(S.filter fun v=>decide (key v=k)).map own:=fun k=>by
  refine zjfh o (zy4b o _) ?_ fun x => ?_
  ·exact List.Pairwise.sublist (List.Sublist.map own (List.filter_sublist ..)) s.asc
  ·rw [zoav o,y00,y00]
   constructor
   ·rintro ⟨w,hw,e⟩
    obtain ⟨h1,h2⟩:=y06.1 hw
    obtain ⟨v,hv,e1,e2⟩:=hWS w h1
    exact ⟨v,y06.2 ⟨hv,by rw [e2]; exact h2⟩,by rw [e1,e]⟩
   ·rintro ⟨v,hv,e⟩
    obtain ⟨h1,h2⟩:=y06.1 hv
    exact ⟨v,y06.2 ⟨hSW v h1,h2⟩,e⟩
 unfold zva6 z40e
 rw [y00,y00]
 constructor
 ·rintro ⟨k,h1,e⟩; exact ⟨k,(hk k).1 h1,by rw [← e,ho]⟩
 ·rintro ⟨k,h1,e⟩; exact ⟨k,(hk k).2 h1,by rw [← e,ho]⟩
theorem zhvq {γ:Type} {R:γ→γ→Prop} : ∀ {l:List γ},l.Pairwise R → ∀ a ∈ l,∀ b ∈ l,a=b∨R a b∨R b a
 | [],_,a,ha,_,_=>by simp at ha
 | c::l,h,a,ha,b,hb=>by
  rw [y03] at h
  rcases y01.1 ha with e1|ha
  ·rcases y01.1 hb with e2|hb
   ·exact .inl (e1.trans e2.symm)
   ·exact .inr (.inl (e1▸h.1 b hb))
  ·rcases y01.1 hb with e2|hb
   ·exact .inr (.inr (e2▸h.1 a ha))
   ·exact zhvq h.2 a ha b hb
theorem zwl1 (o:Tot lt) (V:List β):(cmpP lt own key V).map (pC key)=(cmpR lt own key V).map (pC key):=by
 have s:=zzz9 (own:=own) (key:=key) o V
 have hR:(cmpR lt own key V).map (pC key)=zgsx (befC lt) (zva6 lt own key (V.filter fun v => !decide (own v ∈ eqvR lt own key V))):=by
  unfold cmpR
  rw [zjmx (f:=pC key) (b1:=befC lt) (b2:=befC lt) (fun a b=>rfl),outR,zwfw]
 have hU:(zva6 lt own key (V.filter fun v => !decide (own v ∈ eqvR lt own key V))).Pairwise fun a b=>befC lt a b=true∨befC lt b a=true:=by
  have hn:(zva6 lt own key (V.filter fun v => !decide (own v ∈ eqvR lt own key V))).Pairwise fun a b=>a≠b:=by
   unfold zva6
   rw [List.pairwise_map]
   refine (zeer _).imp ?_
   intro a b h e
   exact h (congrArg Prod.fst e)
  refine List.Pairwise.imp_of_mem ?_ hn
  intro a b ha hb hne
  have ha:=(z3ix o).1 ha
  have hb:=(z3ix o).1 hb
  have h2:=zhvq (ziit (lt:=lt) s.asc) a ha b hb
  by_cases q:a.2.length=b.2.length
  ·rcases h2 with e|h|h
   ·exact absurd e hne
   ·exact .inl (zonc (.inr ⟨q,h⟩))
   ·exact .inr (zonc (.inr ⟨q.symm,h⟩))
  ·by_cases q2:b.2.length<a.2.length
   ·exact .inl (zonc (.inl q2))
   ·exact .inr (zonc (.inl (by omega)))
 obtain ⟨r1,r2⟩:=zpfe (z66r o) hU
 rw [hR,zxzu]
 exact zyt3 (zo80 o) (z66r o) (zg1c o V) r1 fun c=>by rw [zxgg,r2,z3ix o]
theorem zrjc {V V':List β} (h : ∀ p,p ∈ V.map (fun v=>(own v,key v))↔p ∈ V'.map (fun v=>(own v,key v))) {x:α} (q:Conf own key V x):Conf own key V' x:=by
 obtain ⟨v,hv,w,hw,e1,e2,e3⟩:=q
 obtain ⟨v',hv',f1⟩:=y00.1 ((h _).1 (y00.2 ⟨v,hv,rfl⟩))
 obtain ⟨w',hw',f2⟩:=y00.1 ((h _).1 (y00.2 ⟨w,hw,rfl⟩))
 simp only [Prod.mk.injEq] at f1 f2
 exact ⟨v',hv',w',hw',f1.1.trans e1,f2.1.trans e2,by rw [f1.2,f2.2]; exact e3⟩
theorem zqkq {S:List β}:z40e own key S=z40e Prod.fst Prod.snd (S.map fun v=>(own v,key v)):=by
 unfold z40e
 rw [List.map_map]
 refine y0b fun k _ => ?_
 rw [zb3z,List.map_map]; rfl
theorem zjep (o:Tot lt) {V V' S S':List β} (h : ∀ p,p ∈ V.map (fun v=>(own v,key v))↔p ∈ V'.map (fun v=>(own v,key v))) (s:Sng lt own key V S) (s':Sng lt own key V' S'):S.map (fun v=>(own v,key v))=S'.map fun v=>(own v,key v):=by
 have ho:S.map own=S'.map own:=zjfh o s.asc s'.asc fun x=>by
  rw [s.mem,s'.mem]
  have e1:(∃ v ∈ V,own v=x) ↔ ∃ v ∈ V',own v=x:=by
   constructor
   ·rintro ⟨v,hv,e⟩
    obtain ⟨w,hw,f⟩:=y00.1 ((h _).1 (y00.2 ⟨v,hv,rfl⟩))
    simp only [Prod.mk.injEq] at f
    exact ⟨w,hw,f.1.trans e⟩
   ·rintro ⟨v,hv,e⟩
    obtain ⟨w,hw,f⟩:=y00.1 ((h _).2 (y00.2 ⟨v,hv,rfl⟩))
    simp only [Prod.mk.injEq] at f
    exact ⟨w,hw,f.1.trans e⟩
  rw [e1]
  exact and_congr_right fun _=>not_congr ⟨zrjc h,zrjc fun p=>(h p).symm⟩
 have hl:S.length=S'.length:=by have:=congrArg List.length ho; simpa using this
 refine List.ext_getElem (by simp [hl]) fun i h1 h2 => ?_
 simp only [List.length_map] at h1 h2
 have e:own S[i]=own S'[i]:=by
  have:=y16 own (l:=S) (i:=i) (h:=by simpa using h1)
  have q:(S.map own)[i]'(by simpa using h1)=(S'.map own)[i]'(by simpa using h2):=by simp only [ho]
  simpa using q
 obtain ⟨w,hw,f⟩:=y00.1 ((h _).1 (y00.2 ⟨S[i],s.sub _ (List.getElem_mem h1),rfl⟩))
 simp only [Prod.mk.injEq] at f
 have:=s'.key_eq (List.getElem_mem h2) hw (f.1.trans e)
 rw [y16,y16,e,← f.2,this]
theorem z5bf (o:Tot lt) {V V':List β} (h : ∀ p,p ∈ V.map (fun v=>(own v,key v))↔p ∈ V'.map (fun v=>(own v,key v))):z9dw lt own key V=z9dw lt own key V':=by
 unfold z9dw
 rw [zqkq,zqkq (S:=sngP lt own key V'),zjep o h (zzz9 o V) (zzz9 o V')]
theorem z1kn (o:Tot lt) {V V':List β} (h : ∀ p,p ∈ V.map (fun v=>(own v,key v))↔p ∈ V'.map (fun v=>(own v,key v))):eqvR lt own key V=eqvR lt own key V' :=
 zjfh o (zy4b o _) (zy4b o _) fun x=>by
  show x ∈ eqvR lt own key V↔x ∈ eqvR lt own key V'
  rw [zwqs o,zwqs o]
  exact ⟨zrjc h,zrjc fun p=>(h p).symm⟩
end
end
section
set_option linter.unusedSimpArgs false
set_option linter.unusedVariables false
open Go Go.Am
set_option linter.unusedSectionVars false
inductive DRes (γ:Type) where
 | thr
 | dis
 | ok (c:γ)
def DRes.map {γ δ:Type} (f:γ→δ):DRes γ→DRes δ
 | .thr => .thr
 | .dis => .dis
 | .ok c => .ok (f c)
section
variable {γ δ:Type}
def enoL (len:γ→Nat) (thr:Int) (C:List γ):List γ:=C.filter fun c => !decide ((len c:Int)<thr)
def decF (len:γ→Nat) (thr:Int) (C:List γ):DRes γ:=if thr<1 then .thr else match enoL len thr C with
 | [] => .thr
 | [c] => .ok c
 | _ => .dis
def decR (len:γ→Nat) (thr:Int) (C:List γ):DRes γ:=match C with
 | [] => .thr
 | c::r=>if thr<1∨(len c:Int)<thr then .thr else match r with
  | [] => .ok c
  | d::_=>if thr≤(len d:Int) then .dis else .ok c
theorem z6bw {len:γ→Nat} {len':δ→Nat} {f:γ→δ} (h : ∀ c,len' (f c)=len c) {thr:Int} {C:List γ}:decF len' thr (C.map f)=(decF len thr C).map f:=by
 have e:enoL len' thr (C.map f)=(enoL len thr C).map f:=by
  unfold enoL
  induction C with
  | nil=>rfl
  | cons c C ih =>
   rw [y04,y0o,y0o,ih,h]
   split<;>simp
 unfold decF
 rw [e]
 split
 ·rfl
 ·rcases enoL len thr C with _|⟨a,_|⟨b,r⟩⟩<;>rfl
theorem z7yd {len:γ→Nat} {len':δ→Nat} {f:γ→δ} (h : ∀ c,len' (f c)=len c) {thr:Int} {C:List γ}:decR len' thr (C.map f)=(decR len thr C).map f:=by
 rcases C with _|⟨a,_|⟨b,r⟩⟩
 ·rfl
 ·simp only [y04,y0n,decR,h]; split<;>rfl
 ·simp only [y04,decR,h]
  split
  ·rfl
  ·split<;>rfl
theorem zyc4 {len:γ→Nat} {thr:Int} {C:List γ} (h:C.Pairwise fun a b=>len b≤len a):decF len thr C=decR len thr C:=by
 have hnil : ∀ (k:Nat) (l:List γ),(k:Int)<thr→(∀ a ∈ l,len a≤k)→enoL len thr l=[]:=fun k l hk hl=>by
  unfold enoL
  rw [y0i]
  intro a ha
  have:=hl a ha
  simp only [y0m,decide_eq_false_iff_not,Classical.not_not]
  omega
 unfold decF
 rcases C with _|⟨a,C⟩
 ·simp [enoL,decR]
 rw [y03] at h
 obtain ⟨h1,h2⟩:=h
 by_cases t:thr<1
 ·simp [decR,t]
 by_cases q:(len a:Int)<thr
 ·rw [if_neg t,hnil (len a) (a::C) q (fun x hx=>by
   rcases y01.1 hx with e|hx
   ·rw [e]; exact y1k _
   ·exact h1 x hx)]
  simp [decR,q]
 have e:enoL len thr (a::C)=a::enoL len thr C:=by unfold enoL; rw [y0o]; simp [q]
 rw [if_neg t,e]
 rcases C with _|⟨b,C⟩
 ·simp [enoL,decR,t,q]
 ·by_cases q2:thr≤(len b:Int)
  ·have e2:enoL len thr (b::C)=b::enoL len thr C:=by unfold enoL; rw [y0o]; simp [q2]
   rw [e2]; simp [decR,t,q,q2]
  ·rw [hnil (len b) (b::C) (by omega) (fun x hx=>by
    rcases y01.1 hx with e|hx
    ·rw [e]; exact y1k _
    ·exact (y03.1 h2).1 x hx)]
   simp [decR,t,q,q2]
end
section
variable {α β κ:Type} [DecidableEq α] [DecidableEq κ] {lt:α→α→Bool} {own:β→α} {key:β→κ}
theorem zg8z (o:Tot lt) (V:List β):(z9dw lt own key V).Pairwise fun a b=>b.2.length≤a.2.length:=(zg1c o V).imp fun {a b} h=>by
 rcases zob0 h with h|⟨h,_⟩<;>omega
end
end
section
set_option linter.unusedSimpArgs false
set_option linter.unusedVariables false
open Go Go.Am
def nilS {B:Nat} {α:Type}:SlB B α:=⟨none,[],fun _=>rfl,by simp⟩
def ownN {α:Type} (l:List α):Sl α:=if l.isEmpty then nilS else own l
theorem zb11 {B:Nat} {α:Type}:(nilS:SlB B α).l=[]:=rfl
theorem zce3 {α:Type}:ownN ([]:List α)=nilS:=rfl
theorem z527 {α:Type} {l:List α} (h:l≠[]):ownN l=own l:=by cases l with|nil=>exact absurd rfl h|cons a l=>rfl
theorem zd8n {α:Type} {l:List α} (h:l.length≤4294967296):(ownN l).l=l:=by
 cases l with
 | nil=>rfl
 | cons a l=>rw [z527 (by simp),z3e9 h]
theorem z2i7 {α:Type} {s:Nat} {f:α→List DV}:(ownN ([]:List α)).dv s f = .nils:=rfl
theorem zgr3 {α:Type} {l:List α} {s:Nat} {f:α→List DV} (h:l≠[]) (hb:l.length≤4294967296):(ownN l).dv s f = .sl false s l.length (l.flatMap f):=by rw [z527 h,zqrs hb]
mutual
theorem z8b8 (n:Nat) : ∀ (d:DV),zyp8 d=true→Am.below n d=true
 | .agg cs,h=>by simp only [zyp8] at h; simp only [Am.below]; exact zmq5 n cs h
 | .tup cs,h=>by simp only [zyp8] at h; simp only [Am.below]; exact zmq5 n cs h
 | .sl _ _ _ cs,h=>by simp only [zyp8] at h; simp only [Am.below]; exact zmq5 n cs h
 | .ref cs,h=>by simp only [zyp8] at h; simp only [Am.below]; exact zmq5 n cs h
 | .fn _ a b,h=>by simp only [zyp8,y08] at h; simp only [Am.below,y08]; exact ⟨zmq5 n a h.1,zmq5 n b h.2⟩
 | .iface _ v,h=>by simp only [zyp8] at h; simp only [Am.below]; exact z8b8 n v h
 | .ms ..,h=>by simp [zyp8] at h
 | .mp ..,h=>by simp [zyp8] at h
 | .int ..,_=>rfl
 | .bool ..,_=>rfl
 | .str ..,_=>rfl
 | .nilp,_=>rfl
 | .nilm,_=>rfl
 | .nilf,_=>rfl
 | .nili,_=>rfl
 | .nils,_=>rfl
 | .junk,_=>rfl
theorem zmq5 (n:Nat) : ∀ (l:List DV),zbao l=true→belowL n l=true
 | [],_=>rfl
 | d::r,h=>by simp only [zbao,y08] at h; simp only [belowL,y08]; exact ⟨z8b8 n d h.1,zmq5 n r h.2⟩
end
theorem zoxk {d:Dg}:(dgC d).all DV.one=true:=zzst
theorem z3om {h:List AObj} {k:Nat} {c:Dg}:z4tt h k (dgC c)=some (dgC c):=z619 (z6je c)
theorem zbw6 {n:Nat} {g:Dg}:belowL n (dgC g)=true:=zmq5 n _ (z6je g)
theorem zes9 {h:List AObj} {id:Nat} {d:Dg} {l:List DV} (hl:l.length=32):zy6o h id 32 0 (.agg (dgC d)) (some l)=some (.junk,h.set id (.cells (dgC d))):=zfc1 (z1t1 d) hl zzst
theorem zxh4 {h:List AObj} {k:Nat} {f:Fn} {x:DV}:snap h (k+1) (.fn f [] [x])=(snap h (k+1) x).map fun y => .fn f [] [y]:=by
 simp only [snap,zcxt,zoyo]
 cases zcxt _ x<;>rfl
theorem znxs {h:List AObj} {k:Nat} {f:Fn} {x y:DV}:snap h (k+1) (.fn f [] [x,y])=(snap h (k+1) x).bind fun a=>(snap h (k+1) y).map fun b => .fn f [] [a,b]:=by
 simp only [snap,zcxt,zoyo]
 cases zcxt _ x<;>simp only [y0e,y0p]
 ·rfl
 ·cases zcxt _ y<;>rfl
theorem zfco {h:List AObj} {k:Nat} {f:Fn} {x y z:DV}:snap h (k+1) (.fn f [] [x,y,z])=(snap h (k+1) x).bind fun a=>(snap h (k+1) y).bind fun b=>(snap h (k+1) z).map fun c => .fn f [] [a,b,c]:=by
 simp only [snap,zcxt,zoyo]
 cases zcxt _ x<;>simp only [y0e,y0p]
 ·rfl
 ·cases zcxt _ y<;>simp only [y0e,y0p]
  ·rfl
  ·cases zcxt _ z<;>rfl
theorem zvvi {h:List AObj} {k:Nat} {f:Fn}:snap h k (.fn f [] [])=some (.fn f [] []):=by cases k<;>rfl
attribute [simp] zxh4 znxs zfco zvvi
theorem zjj2 {pre l:List AObj} {ver:Nat}:objV (pre++l) pre.length ver=objV l 0 ver:=by
 unfold objV ziu0; rw [y0l (by omega),Nat.sub_self]
theorem zxft {pre l:List AObj} {o:AObj}:(pre++l).set pre.length o=pre++l.set 0 o:=by rw [y1i _ _ (by omega)]; simp
section
variable {α:Type} {lt:α→α→Bool}
theorem zmgd (l:List α):(zq4g lt l).length=l.length:=(zo43 l).length_eq
theorem zk1b {l:List α} (h:l.length≤1):zq4g lt l=l:=by
 match l,h with
 | [],_=>rfl
 | [a],_=>rfl
end
theorem zem6 {A B C:List DV} (h:B.length=C.length):zk7y (A++B) A.length C=A++C:=by
 unfold zk7y
 rw [List.take_left,← h,← y0s,List.drop_length,y1e]
def fl {α:Type} (f:α→List DV) (l:List α):List DV:=l.flatMap f
theorem z8lx {α:Type} {f:α→List DV} {K:Nat} (hu : ∀ a,(f a).length=K) (l:List α):(fl f l).length=l.length*K:=z1rq hu l
section
variable {α:Type} {f:α→List DV} {K:Nat}
theorem zfiy (hu : ∀ a,(f a).length=K) {l:List α} {i:Nat} (hi:i<l.length):oneC K true ((fl f l).drop (i*K))=some (.agg (f l[i])):=by
 rw [fl,zkb2 hu,y15 hi,y09,zza5 (by simp [hu]),y1b (hu _)]
theorem zdvi (hu : ∀ a,(f a).length=K) (h0:0<K) (ha : ∀ a,(f a).all DV.one=true) {h:List AObj} {id i:Nat} {l:List α} {x:α} (hi:i<l.length):zy6o h id K (i*K) (.agg (f x)) (some (fl f l))=some (.junk,h.set id (.cells (fl f (l.set i x)))):=by
 have hl:=z8lx hu l
 have h1:i*K+K≤l.length*K:=by rw [← Nat.succ_mul]; exact Nat.mul_le_mul_right _ hi
 simp only [zy6o,DV.cells,hu,ha,hl]
 rw [if_pos ⟨trivial,h1,trivial⟩,fl,z47w hu hi,fl]
theorem zqtu {z:α} {n:Nat}:reps n (f z)=fl f (List.replicate n z):=by
 unfold fl
 induction n with
 | zero=>rfl
 | succ n ih=>rw [List.replicate_succ,y09,← ih]; rfl
theorem z507 (hu : ∀ a,(f a).length=K) {A B C:List α} (h:B.length=C.length):zk7y (fl f (A++B)) (A.length*K) (fl f C)=fl f (A++C):=by
 unfold fl
 have:=zem6 (A:=A.flatMap f) (B:=B.flatMap f) (C:=C.flatMap f) (by rw [z1rq hu,z1rq hu,h])
 rw [z1rq hu] at this
 rw [y0y,this,y0y]
theorem z9jy {f:α→List DV} (h : ∀ a,(f a).all DV.one=true) : ∀ (l:List α),(l.flatMap f).all DV.one=true
 | []=>rfl
 | a::l=>by rw [y09,List.all_append,h,z9jy h l]; rfl
end
theorem zlvn {α:Type} {lt:α→α→Bool} {l:List α} (h:l≠[]):zq4g lt l≠[]:=fun e=>h (List.eq_nil_of_length_eq_zero (by rw [← zmgd (lt:=lt),e]; rfl))
theorem z590 {α:Type} {f:α→List DV} {K:Nat} (hu : ∀ a,(f a).length=K) (l:List α) (i:Nat):(fl f l).take (i*K)=(l.take i).flatMap f:=z10w hu l i
theorem z29t {α:Type} {f:α→List DV} {K:Nat} (hu : ∀ a,(f a).length=K) (hp : ∀ a,zbao (f a)=true) {pre:List AObj} {l:List α} {m:Nat}:snap (pre++[.cells (fl f l)]) 3 (.ms pre.length (l.length*K) 0 K m (l.length*K))=some (.sl false K m ((l.take m).flatMap f)):=by
 rw [zve7,zjj2,z1zn,if_pos (z8lx hu l),y0e,List.drop_zero,z590 hu,z619 (zp6k hp _)]
 rfl
section
variable {α:Type} {f:α→List DV} {K:Nat}
theorem zkaf {l m:List α}:fl f (l++m)=fl f l++fl f m:=by unfold fl; exact y0y ..
theorem z4hs {x:α}:fl f [x]=f x:=by unfold fl; simp
theorem zvrp {h:List AObj} {id b m:Nat} {l:List α} {cs:List α} (hu : ∀ a,(f a).length=K) (h0:0<K) (hb:b≤16384) (ha : ∀ a,(f a).all DV.one=true) (hm:cs.length=m) (hbig:l.length+m≤4294967296) (ho:objV h id (l.length*K)=some (fl f l)) :
  appX h K b (.ms id (l.length*K) 0 K l.length (l.length*K)) m (cs.flatMap f)=some (.ms id ((l.length+m)*K) 0 K (l.length+m) ((l.length+m)*K),h.set id (.cells (fl f (l++cs)))):=by
 have hc:(cs.flatMap f).length=m*K:=by rw [z1rq hu,hm]
 rw [zbho rfl hb h0 (by rw [hc]) hbig (z9jy ha cs),ho,y0k,hc,← y0q,zkaf]
 rfl
theorem zkg3 {h:List AObj} {id b:Nat} {l:List α} {x:α} (hu : ∀ a,(f a).length=K) (h0:0<K) (hb:b≤16384) (ha : ∀ a,(f a).all DV.one=true) (hbig:l.length+1≤4294967296) (ho:objV h id (l.length*K)=some (fl f l)) :
  appX h K b (.ms id (l.length*K) 0 K l.length (l.length*K)) 1 (f x)=some (.ms id ((l.length+1)*K) 0 K (l.length+1) ((l.length+1)*K),h.set id (.cells (fl f (l++[x])))):=by
 have:=zvrp (m:=1) (cs:=[x]) hu h0 hb ha rfl hbig ho
 rwa [show [x].flatMap f=f x by simp] at this
end
theorem storeO_1 {h:List AObj} {id off:Nat} {v:DV} {l:List DV} (hc:v.cells=[v]) (ho:v.one=true) (hl:off<l.length):zy6o h id 1 off v (some l)=some (.junk,h.set id (.cells (zk7y l off [v]))):=by
 simp only [zy6o,hc,y0f,List.length_nil,List.all_cons,List.all_nil,ho,Bool.and_self]
 first|done|rw [if_pos ⟨trivial,by omega,trivial⟩]
theorem zig9 {α:Type} {p:α→Bool} : ∀ {l:List α} {i:Nat} (hi:i≤l.length),(∀ j (h:j<l.length),j<i→p l[j]=true)→(i=l.length ∨ ∃ h:i<l.length,p l[i]=false)→l.takeWhile p=l.take i∧l.dropWhile p=l.drop i
 | [],i,hi,_,_=>by simp
 | a::l,0,_,_,h=>by
  have ha:p a=false:=by
   rcases h with h|⟨_,h⟩
   ·simp at h
   ·simpa using h
  simp [y0g,y0c,ha]
 | a::l,i+1,hi,h1,h2=>by
  have ha:p a=true:=h1 0 (by simp) (by omega)
  have ih:=zig9 (p:=p) (l:=l) (i:=i) (by simpa using hi) (fun j hj hji=>h1 (j+1) (Nat.succ_lt_succ hj) (by omega)) (by
   rcases h2 with h|⟨h,q⟩
   ·exact .inl (by simpa using h)
   ·exact .inr ⟨by simpa using h,by simpa using q⟩)
  simp [y0g,y0c,ha,ih.1,ih.2]
theorem zch3 {α:Type} {x:Sl α} {s:Nat} {f:α→List DV} {b:DV}:z87v (x.dv s f) b=b.known:=by
 obtain ⟨k,l,h,hb⟩:=x
 cases k with
 | none=>exact z8bo
 | some c=>exact zhyd
section
variable {α:Type} {f:α→List DV} {K:Nat}
def oV (k K:Nat) (l:List α):DV:=if l=[] then .nils else .ms k (l.length*K) 0 K l.length (l.length*K)
def oT (f:α→List DV) (l:List α):List AObj:=if l=[] then [] else [.cells (fl f l)]
theorem zl8p {k:Nat}:oV k K ([]:List α) = .nils:=rfl
theorem zkrk:oT f []=[]:=rfl
theorem zpni {k:Nat} {l:List α} (h:l≠[]):oV k K l = .ms k (l.length*K) 0 K l.length (l.length*K):=if_neg h
theorem zu2l {l:List α} (h:l≠[]):oT f l=[.cells (fl f l)]:=if_neg h
theorem z612 {k b:Nat} {l cs:List α} {h:List AObj} (hp:h.length=k) (hu : ∀ a,(f a).length=K) (h0:0<K) (hb:b≤16384) (ha : ∀ a,(f a).all DV.one=true) (hbig:l.length+cs.length≤4294967296) :
  appX (h++oT f l) K b (oV k K l) cs.length (cs.flatMap f)=some (oV k K (l++cs),h++oT f (l++cs)):=by
 by_cases e:l=[]
 ·subst e
  rw [zl8p,zkrk,y1e,y0v]
  by_cases e2:cs=[]
  ·subst e2
   rw [show ([]:List α).flatMap f=[] from rfl,List.length_nil,zw6v hb h0,zl8p,zkrk,y1e]
  ·have:=zsuq (h:=h) (s:=K) (b:=b) (m:=cs.length) (cs:=cs.flatMap f) hb h0 (by rw [z1rq hu]) (List.length_pos_iff.2 e2) (by simp at hbig; omega)
   rw [this,zpni e2,zu2l e2,z1rq hu,hp]; rfl
 ·have ho:objV (h++[AObj.cells (fl f l)]) k (l.length*K)=some (fl f l):=by
   unfold objV ziu0
   rw [y0l (by omega),show k-h.length=0 by omega]
   simp [z8lx hu]
  have:=zvrp (h:=h++[AObj.cells (fl f l)]) (id:=k) (b:=b) (l:=l) (m:=cs.length) (cs:=cs) hu h0 hb ha rfl hbig ho
  rw [zpni e,zu2l e,this,zpni (by simp [e]),zu2l (by simp [e]),y0s,y1i _ _ (by omega),show k-h.length=0 by omega]
  rfl
theorem zte0 {k b:Nat} {l:List α} {x:α} {h:List AObj} (hp:h.length=k) (hu : ∀ a,(f a).length=K) (h0:0<K) (hb:b≤16384) (ha : ∀ a,(f a).all DV.one=true) (hbig:l.length+1≤4294967296) :
  appX (h++oT f l) K b (oV k K l) 1 (f x)=some (oV k K (l++[x]),h++oT f (l++[x])):=by
 have:=z612 (cs:=[x]) (b:=b) hp hu h0 hb ha hbig
 simpa using this
theorem zigm {k:Nat} {l:List α} {h:List AObj} (hp:h.length=k) (hu : ∀ a,(f a).length=K) (hf : ∀ a,zbao (f a)=true) (hb:l.length≤4294967296) {r:List AObj}:snap (h++(oT f l++r)) 3 (oV k K l)=some ((ownN l).dv K f):=by
 by_cases e:l=[]
 ·subst e; rw [z2i7]; rfl
 ·rw [zpni e,zu2l e,zgr3 e hb,zve7]
  have ho:objV (h++([AObj.cells (fl f l)]++r)) k (l.length*K)=some (fl f l):=by
   unfold objV ziu0
   rw [y0l (by omega),show k-h.length=0 by omega]
   simp [z8lx hu]
  rw [ho,y0e,List.drop_zero,z590 hu,List.take_length,z619 (zp6k hf _)]
  rfl
theorem zd81 {n:Nat} {l:List α} (hf : ∀ a,zbao (f a)=true):zlf2 n (oT f l)=true:=by
 unfold oT
 split
 ·rfl
 ·simp only [zlf2,fl,zmq5 _ _ (zp6k hf _),Bool.and_self]
theorem zv6o {k:Nat} {l:List α}:Am.below (k+(oT f l).length) (oV k K l)=true:=by
 unfold oV oT
 split<;>simp [Am.below]
end
def kLt (n:Nat):Nat→Bool:=fun id=>decide (id<n)
mutual
theorem zw9i {h:List AObj} (n:Nat) : ∀ (d:DV),Am.below n d=true→fzS (kLt n) h 3 d=some d
 | .agg cs,q=>by simp only [Am.below] at q; rw [zf3h,zw41 n cs q]; rfl
 | .tup cs,q=>by simp only [Am.below] at q; rw [zliz,zw41 n cs q]; rfl
 | .sl _ _ _ cs,q=>by simp only [Am.below] at q; rw [zfs9,zw41 n cs q]; rfl
 | .ref cs,q=>by simp only [Am.below] at q; rw [zeo2,zw41 n cs q]; rfl
 | .fn _ a b,q=>by simp only [Am.below,y08] at q; rw [z284,zw41 n a q.1,zw41 n b q.2]; rfl
 | .iface t v,q=>by
  simp only [Am.below] at q
  have:=zw9i (h:=h) n v q
  simp only [fzS,zcxt] at this ⊢
  rw [this]; rfl
 | .ms id ..,q=>by simp only [Am.below,decide_eq_true_eq] at q; rw [zi9r,if_pos (by simpa [kLt] using q)]
 | .mp id ..,q=>by simp only [Am.below,decide_eq_true_eq] at q; rw [zept,if_pos (by simpa [kLt] using q)]
 | .int ..,_=>zzxw rfl
 | .bool ..,_=>zzxw rfl
 | .str ..,_=>zzxw rfl
 | .nilp,_=>zzxw rfl
 | .nilm,_=>zzxw rfl
 | .nilf,_=>zzxw rfl
 | .nili,_=>zzxw rfl
 | .nils,_=>zzxw rfl
 | .junk,_=>zzxw rfl
theorem zw41 {h:List AObj} (n:Nat) : ∀ (l:List DV),belowL n l=true→fzSo (kLt n) h 3 l=some l
 | [],_=>zmvq
 | d::r,q=>by simp only [belowL,y08] at q; rw [zhuj,zw9i n d q.1,zw41 n r q.2]; rfl
end
theorem zd3c {h:List AObj} {n:Nat} {d:DV} (q:Am.below n d=true):mk1 (kLt n) h d=d:=zwy6 (zw9i n d q)
theorem zxf4 {h:List AObj} {n:Nat} : ∀ {l:List DV},belowL n l=true→mkL (kLt n) h l=l
 | [],_=>rfl
 | d::r,q=>by simp only [belowL,y08] at q; rw [z8t0,zd3c q.1,zxf4 q.2]
theorem z6z7 {h:List AObj} {n:Nat} : ∀ {l:List AObj} {i:Nat},i+l.length≤n→zlf2 n l=true→mkO (kLt n) h i l=l
 | [],i,_,_=>rfl
 | .cells a::r,i,hi,q=>by
  simp only [zlf2,y08] at q
  simp only [y0f] at hi
  rw [ztik,if_pos (by simp [kLt]; omega),zxf4 q.1,z6z7 (by omega) q.2]
 | .dead::r,i,hi,q=>by
  simp only [zlf2] at q
  simp only [y0f] at hi
  rw [zsk4,z6z7 (by omega) q]
theorem z26m {K:Nat→Bool} {h:List AObj} : ∀ {a b:List AObj} {i:Nat},mkO K h i (a++b)=mkO K h i a++mkO K h (i+a.length) b
 | [],b,i=>rfl
 | .cells c::r,b,i=>by rw [y0h,ztik,ztik,z26m,y0h,y0f,Nat.add_assoc,Nat.add_comm 1]
 | .dead::r,b,i=>by rw [y0h,zsk4,zsk4,z26m,y0h,y0f,Nat.add_assoc,Nat.add_comm 1]
theorem zz5t {H:List AObj} {cs:List DV} {off:Nat} (hp:zbao cs=true):mk1 (kLt H.length) (H++[.cells cs]) (.mp H.length cs.length off) = .ref (cs.drop off):=by
 refine zwy6 ?_
 have ho:objV (H++[AObj.cells cs]) H.length cs.length=some cs:=by
  unfold objV ziu0
  rw [y0l (y1k _),Nat.sub_self]; simp
 have hd:zbao (cs.drop off)=true:=by
  have : ∀ (l:List DV) (k:Nat),zbao l=true→zbao (l.drop k)=true:=by
   intro l
   induction l with
   | nil=>intro k _; simp [zbao]
   | cons d r ih =>
    intro k h
    simp only [zbao,y08] at h
    cases k with
    | zero=>simp [zbao,h]
    | succ k=>exact ih k h.2
  exact this _ _ hp
 rw [zept,if_neg (by simp [kLt]),ho,y0e,zl6f hd]; rfl
theorem zs10 {P:Program} {n0:Nat} {x:ACode} {Φ:AExit→St→Prop} {t t':List DV} {H:List AObj} {cs:List DV} (hH:zlf2 H.length H=true) (hn:n0≤H.length)
  (ht:znqe (mkL (kLt H.length) (H++[.cells cs]) t) t') (hb:belowL H.length t'=true) (h:V P n0 x Φ ⟨t',H⟩):V P n0 x Φ ⟨t,H++[.cells cs]⟩:=by
 refine V_mk (kLt H.length) ?_
 rw [z26m,z6z7 (by omega) hH,ztik,if_neg (by simp [kLt]),zfxb]
 exact zqfd (zju2 (tail:=[.dead]) ht rfl hn hb hH) h
end
end Go.Proofs.Ytjknipdiglpnlaa
