import Derived.Lib.IndexLaws
import Derived.Test.YtaihpefemjlilaaGreatDoorProg
import Derived.Test.YtaihpefemjlilaaGreatDoorC4bb2b95d
import Derived.Test.YtaihpefemjlilaaGreatDoorC1b265590
import Derived.Test.YtaihpefemjlilaaGreatDoorC2ceefa77
import Derived.Test.YtaihpefemjlilaaGreatDoorC3c839cb1
set_option linter.unusedSimpArgs false
set_option linter.unusedVariables false
set_option maxRecDepth 20000
set_option maxHeartbeats 4000000
open List renaming map_take → zA, map_drop → zB, map_set → zC, map_append → zD, drop_one → zE
open Bool renaming and_eq_true → y07, and_self → y0b, true_and → y0r
open List renaming take_of_length_le → y00, flatMap_cons → y01, drop_eq_getElem_cons → y02, drop_of_length_le → y03, set_eq_take_append_cons_drop → y04, take_append_of_le_length → y05, drop_drop → y06, length_drop → y08, all_cons → y0a, length_pos_iff → y0c, getElem?_eq_some_iff → y0d, all_nil → y0e, append_assoc → y0f, drop_append → y0h, all_append → y0j, take_append → y0k, getElem?_eq_getElem → y0m, getElem_mem → y0n, set_append_right → y0p, length_singleton → y0q, map_cons → y0s, flatMap_append → y0t
open Nat renaming add_mul → y0g
open Option renaming bind_some → y09, map_some → y0i, bind_none → y0l, map_none → y0o
namespace Go.Proofs.YtaihpefemjlilaaGreatDoor
open Go Go.Am
theorem yWS {n0:Nat} {t t':List DV} {h h':List AObj} (e:znqe t t' ∧ h'=h):Weak n0 ⟨t,h⟩ ⟨t',h'⟩:=z515 e.1 e.2
@[simp] def yL (d i:Nat):AOper:=⟨none,some d,.mov (.t i)⟩
@[simp] def yM (d n:Nat) (b:Bool) (i:Nat):AOper:=⟨none,some d,.load n b (.t i)⟩
@[simp] def yN (d n i:Nat):AOper:=⟨none,some d,.fld n (.t i)⟩
@[simp] def yO (d:Nat) (o:BinOp) (i j:Nat):AOper:=⟨none,some d,.bin o (.t i) (.t j)⟩
@[simp] def yP (d i n:Nat):AOper:=⟨none,some d,.ext (.t i) n⟩
@[simp] def yQ (d n i j:Nat):AOper:=⟨none,some d,.idxS n (.t i) (.t j)⟩
@[simp] def yR (d:Nat) (v:DV):AOper:=⟨none,some d,.mov (.k v)⟩
@[simp] def yS (d i:Nat):AOper:=⟨none,some d,.len (.t i)⟩
@[simp] def yT (d i:Nat):AOper:=⟨none,some d,.nilc (.t i)⟩
@[simp] def yU (d n:Nat) (l:List Opd):AOper:=⟨none,some d,.call (.k (.fn (.func n) [] [])) l⟩
@[simp] def yV (d n:Nat) (l:List Opd):AOper:=⟨none,some d,.callN (.k (.fn (.func n) [] [])) l⟩
@[simp] def yW (g:Nat) (b:Bool) (d:Nat) (o:AOp):AOper:=⟨some (g,b),some d,o⟩
@[simp] def yX (d i j:Nat):AOper:=⟨none,some d,.pick (.t i) (.t j) (.k (.bool false))⟩
@[simp] def yY (d i j:Nat):AOper:=⟨none,some d,.pick (.t i) (.k (.bool true)) (.t j)⟩
@[simp] def yZ (d i:Nat):AOper:=⟨none,some d,.box (.t i)⟩
@[simp] def ya (n i j:Nat):AOper:=⟨none,none,.store n (.t i) (.t j)⟩
@[simp] def yc (l:List AOper):ACode:=.region false l
@[simp] def yd (i:Nat) (a b:ACode):ACode:=.cond (.t i) a b
open Option renaming none → yg, some → yh
open AOp renaming mov → qA, pick → qB, bin → qC, eqa → qD, eqb → qE, eqn → qF, un → qG, load → qH, store → qI, idxS → qJ, idxA → qK, fld → qL, getf → qM, idxV → qN, idxStr → qO, slcS → qP, slcStr → qQ, alloc → qR, box → qS, build → qT, bsl → qU, len → qV, lenStr → qW, app → qX, cpy → qY, apart → qZ, nilc → qd, ext → qe, call → qf, callN → qg, callT → qh, mm → qi
open ACode renaming skip → qj, region → qk, seq → ql, cond → qm, block → qn, loop → qo, exit → qp, ret → qq
@[simp] def yz40:List DV:=[(.int .i64 0),(.int .i64 0),(w8 0#8),(w8 0#8),(w8 0#8),(w8 0#8),(w8 0#8),(w8 0#8),(w8 0#8),(w8 0#8),(w8 0#8),(w8 0#8),(w8 0#8),(w8 0#8),(w8 0#8),(w8 0#8),(w8 0#8),(w8 0#8),(w8 0#8),(w8 0#8),(w8 0#8),(w8 0#8),(w8 0#8),(w8 0#8),(w8 0#8),(w8 0#8),(w8 0#8),(w8 0#8),(w8 0#8),(w8 0#8),(w8 0#8),(w8 0#8),(w8 0#8),(w8 0#8),(.int .i64 0),(.int .i64 0),(.int .i64 0)]
section
abbrev B8:=BitVec 8
inductive Pt where
 | one (c:B8)|dot|some|whole
deriving DecidableEq
def Pt.kind:Pt→Int
 | .one _=>0 | .dot=>1 | .some=>2 | .whole=>3
def Pt.long:Pt→Bool
 | .some=>true | .whole=>true|_=>false
def Pt.takes:Pt→B8→Bool
 | .one c,b=>b == c | .whole,_=>true|_,b=>b != 47#8
def bAt (s:List UInt8) (i:Nat):B8:=(s.getD i 0).toBitVec
def row (x:Pt) (s:List UInt8) (prev:Nat→Bool):Nat→Bool
 | 0=>x.long&&prev 0
 | i+1=>if x.long then prev (i+1)||(row x s prev i&&x.takes (bAt s i)) else prev i&&x.takes (bAt s i)
def M (l:List Pt) (s:List UInt8):Nat→Nat→Bool
 | 0=>fun i=>i == 0
 | k+1=>row (l.getD k .dot) s (M l s k)
def noZ (s:List UInt8):Bool:=s.all fun c=>c != 0
def z2fg:List UInt8→List (List UInt8)
 | []=>[[]]
 | c::r=>if c=47 then []::z2fg r else
  match z2fg r with
  | []=>[[c]]
  | h::t=>(c::h)::t
def okC (x:List UInt8):Bool:=x != []&&x != [46]&&x != [46,46]
def zj1f (s:List UInt8):Bool:=decide (1≤s.length)&&decide (s.length≤200)&&noZ s&&(z2fg s).all okC
theorem zq22 (c:UInt8):c.toBitVec.toNat.toUInt8=c:=by simp
theorem zf0z : ∀ (s:List UInt8),z2fg s≠[]
 | []=>by simp [z2fg]
 | c::r=>by
  rw [z2fg];split
  ·simp
  ·split<;>simp
theorem zjyx (r:List UInt8):z2fg (47::r)=[]::z2fg r:=by simp [z2fg]
theorem zyty {c:UInt8} {r h:List UInt8} {t:List (List UInt8)} (hc:c≠47) (hr:z2fg r=h::t):z2fg (c::r)=(c::h)::t:=by simp [z2fg,hc,hr]
theorem zzaw (r:List UInt8) : ∃ h t,z2fg r=h::t:=by
 cases e:z2fg r with
 | nil=>exact absurd e (zf0z r)
 | cons h t=>exact ⟨h,t,rfl⟩
theorem z1q7 (b:UInt8) (l:List UInt8) (c:UInt8):Lib.indexByte (b::l) c=if b=c then 0 else if Lib.indexByte l c = -1 then -1 else Lib.indexByte l c+1:=by
 simp [Lib.indexByte]
theorem zbf3 : ∀ {s:List UInt8},Lib.indexByte s 47 = -1→z2fg s=[s]
 | [],_=>rfl
 | c::r,h=>by
  rw [z1q7] at h;split at h
  ·simp at h
  ·rename_i hc
   split at h
   ·rename_i hr; exact zyty hc (zbf3 hr)
   ·have:=Lib.indexByte_ge r 47; omega
theorem zjoj : ∀ {s:List UInt8} {o:Nat},Lib.indexByte s 47=o→z2fg s=s.take o::z2fg (s.drop (o+1))
 | [],o,h=>by simp [Lib.indexByte] at h
 | c::r,o,h=>by
  rw [z1q7] at h;split at h
  ·rename_i hc
   have:o=0:=by omega
   subst this; subst hc;simp [zjyx]
  ·rename_i hc
   split at h
   ·omega
   ·obtain ⟨a,rfl⟩ : ∃ a,o=a+1:=⟨o-1,by have:=Lib.indexByte_ge r 47; omega⟩
    have:=zjoj (s:=r) (o:=a) (by omega)
    rw [zyty hc this];simp
theorem z9lv : ∀ (s:List UInt8),(z2fg s).length=Lib.countByte s 47+1
 | []=>rfl
 | c::r=>by
  have ih:=z9lv r;obtain ⟨h,t,e⟩:=zzaw r;by_cases hc:c=47
  ·subst hc; rw [zjyx]; simp [ih,Lib.countByte]
  ·rw [zyty hc e];rw [e] at ih;simp [Lib.countByte,List.count_cons,hc] at ih ⊢;exact ih
theorem zc5k : ∀ (s:List UInt8),noZ s=decide (Lib.indexByte s 0 = -1)
 | []=>rfl
 | c::r=>by
  have ih:=zc5k r;have hg:=Lib.indexByte_ge r 0;have e:noZ (c::r)=(c != 0&&noZ r):=by simp [noZ]
  rw [e,ih,z1q7];by_cases hc:c=0
  ·simp [hc]
  ·by_cases hr:Lib.indexByte r 0 = -1
   ·simp [hc,hr]
   ·simp [hc,hr]; omega
theorem z8bu {s:List UInt8} {c:UInt8} {o:Nat} (h:Lib.indexByte s c=o):o<s.length:=by
 have:=(Lib.indexByte_some h).1;exact (y0d.1 this).1
end
section
abbrev Dg:={ a:List B8 // a.length=32 }
def dgC (d:Dg):List DV:=d.1.map w8
def dg0:Dg:=⟨rep 32 0#8,by simp [rep]⟩
theorem z1t1 (d:Dg):(dgC d).length=32:=by simp [dgC,d.2]
theorem z3ot (d:Dg):zbao (dgC d)=true:=zdqb
theorem zib9 {a b:Dg} (h:dgC a=dgC b):a=b:=Subtype.ext (by rw [dgC,dgC,zwcl] at h; exact h)
structure Sl (α:Type) where
 k:Option Bool
 l:List α
 h:k=none→l=[]
 b:l.length≤4294967296
def Sl.dv {α:Type} (x:Sl α) (s:Nat) (f:α→List DV):DV:=slD x.k s x.l.length (x.l.flatMap f)
section
variable {α:Type} {f:α→List DV} {s:Nat} {h:List AObj} {x:Sl α} {n k:Nat}
theorem z707 {b:Bool} {l:List α} {h:some b=none→l=[]} {hb:l.length≤4294967296}:(⟨some b,l,h,hb⟩:Sl α).dv s f = .sl b s l.length (l.flatMap f):=rfl
theorem z5oj {h:none=none→([]:List α)=[]} {hb:([]:List α).length≤4294967296}:(⟨none,[],h,hb⟩:Sl α).dv s f = .nils:=rfl
theorem z1rq (hu : ∀ a,(f a).length=s) : ∀ (l:List α),(l.flatMap f).length=l.length*s
 | []=>by simp
 | a::l=>by rw [y01,List.length_append,hu,z1rq hu l,List.length_cons,y0g]; omega
theorem z10w (hu : ∀ a,(f a).length=s) : ∀ (l:List α) (i:Nat),(l.flatMap f).take (i*s)=(l.take i).flatMap f
 | [],i=>by simp
 | a::l,0=>by simp
 | a::l,i+1=>by
  have ha:=hu a;rw [y01,y0k,y00 (by rw [ha,y0g]; omega),ha,show (i+1)*s-s=i*s from by rw [y0g]; omega,z10w hu l,List.take_succ_cons,y01]
theorem zkb2 (hu : ∀ a,(f a).length=s) : ∀ (l:List α) (i:Nat),(l.flatMap f).drop (i*s)=(l.drop i).flatMap f
 | [],i=>by simp
 | a::l,0=>by simp
 | a::l,i+1=>by
  have ha:=hu a;rw [y01,y0h,y03 (by rw [ha,y0g]; omega),ha,show (i+1)*s-s=i*s from by rw [y0g]; omega,zkb2 hu l,List.nil_append,List.drop_succ_cons]
theorem zdao (hu : ∀ a,(f a).length=s) {l:List α} {i:Nat} (hi:i<l.length):((l.flatMap f).drop (i*s)).take s=f l[i]:=by
 rw [zkb2 hu,y02 hi,y01,List.take_left' (hu _)]
theorem zg0c : ∀ {a b:List DV},zbao a=true→zbao b=true→zbao (a++b)=true
 | [],_,_,h=>h
 | d::r,b,h1,h2=>by simp only [List.cons_append,zbao,y07] at *; exact ⟨h1.1,zg0c h1.2 h2⟩
theorem zp6k (hp : ∀ a,zbao (f a)=true) : ∀ (l:List α),zbao (l.flatMap f)=true
 | []=>rfl
 | a::l=>by rw [y01]; exact zg0c (hp a) (zp6k hp l)
theorem z47w (hu : ∀ a,(f a).length=s) {l:List α} {i:Nat} (hi:i<l.length) (b:α):zk7y (l.flatMap f) (i*s) (f b)=(l.set i b).flatMap f:=by
 unfold zk7y;rw [z10w hu,hu b,show i*s+s=(i+1)*s by rw [y0g,Nat.one_mul],zkb2 hu,y04,if_pos hi]
 simp
theorem zxxb (hp : ∀ a,zbao (f a)=true) (x:Sl α):zyp8 (x.dv s f)=true:=by
 obtain ⟨k,l,h,c⟩:=x;cases k with
 | none=>rfl
 | some b=>show zbao _=true; exact zp6k hp l
theorem z4ja (x:Sl α):(x.dv s f).one=true:=by obtain ⟨k,l,h,a⟩:=x; cases k<;>rfl
theorem ztw5 (x:Sl α):(x.dv s f).known=true:=by obtain ⟨k,l,h,a⟩:=x; cases k<;>rfl
theorem zs9p (x:Sl α):(x.dv s f).cells=[x.dv s f]:=by obtain ⟨k,l,h,a⟩:=x; cases k<;>rfl
theorem zupj:lenD h (x.dv s f)=some (.int .i64 x.l.length):=by
 obtain ⟨k,l,h,a⟩:=x;cases k with
 | none=>cases h rfl; rfl
 | some b=>rfl
theorem zalo (hu : ∀ a,(f a).length=s) {i:Nat} (hi:i<x.l.length):zpsc h s (x.dv s f) i=some (.ref (f x.l[i])):=by
 obtain ⟨k,l,h,c⟩:=x;cases k with
 | none=>cases h rfl; simp at hi
 | some b =>
  simp only [Sl.dv,zip4];rw [zsu0 (by omega) (by simp only at hi; omega),Int.toNat_natCast,zdao hu hi]
theorem z8yj (hu : ∀ a,(f a).length=s):visS h (x.dv s f)=some (x.l.length,x.l.flatMap f):=ze3p (fun e=>by simp [x.h e]) (z1rq hu _)
theorem zwaa (hu : ∀ a,(f a).length=s):visY h (x.dv s f)=some (x.l.length,x.l.flatMap f):=by
 rw [← z8yj (h:=h) hu];obtain ⟨k,l,h,b⟩:=x; cases k<;>rfl
def Sl.part (x:Sl α) (i j:Nat) (b:Bool):Sl α:=⟨x.k.map fun c=>c&&b,(x.l.drop i).take (j-i),fun e=>by simp at e; simp [x.h e],by have:=x.b; simp; omega⟩
theorem z0ke (hu : ∀ a,(f a).length=s) {lo hi:Option DV} {i j:Nat} (hb:zo77 x.l.length lo hi=some (i,j)) (hij:j≤x.l.length):z390 h s (x.dv s f) lo hi none=some ((x.part i j (j == x.l.length)).dv s f):=by
 obtain ⟨k,l,h,c⟩:=x;cases k with
 | none=>cases h rfl; simp at hb hij; simp only [Sl.dv,zbpn,Sl.part,y0o]; rw [zmk5 hb]
 | some b =>
  simp only at hb hij;simp only [Sl.dv,zip4,Sl.part,y0i];rw [zygc hb,zkb2 hu,z10w hu];simp only [List.length_take,y08];congr 2;omega
theorem z2x3:zrfk h (x.dv s f)=some (0,x.k.isNone):=by obtain ⟨k,l,h,a⟩:=x; cases k<;>rfl
end
structure Grp where
 ns:List UInt8
 im:List UInt8
 want:Int
 least:Int
 down:Int
 ch:Sl Dg
def grC (g:Grp):List DV:=[.str g.ns,.str g.im,.int .i64 g.want,.int .i64 g.least,.int .i64 g.down,g.ch.dv 32 dgC]
structure Ins where
 id:Int
 grp:Int
 art:Dg
 state:Int
 since:Int
 den:Int
 deriving DecidableEq
def inC (x:Ins):List DV := .int .i64 x.id :: .int .i64 x.grp::(dgC x.art++[.int .i64 x.state,.int .i64 x.since,.int .i64 x.den])
structure Clu where
 g:Sl Grp
 i:Sl Ins
 next:Int
def clC (c:Clu):List DV:=[c.g.dv 6 grC,c.i.dv 37 inC,.int .i64 c.next]
theorem zry4 (g:Grp):(grC g).length=6:=by simp [grC]
theorem z6gw (x:Ins):(inC x).length=37:=by simp [inC,z1t1]
theorem zlha (c:Clu):(clC c).length=3:=by simp [clC]
theorem zpfc (x:Sl Dg):zyp8 (x.dv 32 dgC)=true:=zxxb z3ot x
theorem zxeb (g:Grp):zbao (grC g)=true:=by simp [grC,zbao,zyp8,zpfc]
theorem z9kv (x:Ins):zbao (inC x)=true:=by
 simp only [inC,zbao,zyp8,y0r];exact zg0c (z3ot _) (by simp [zbao,zyp8])
theorem z1vd (x:Sl Grp):zyp8 (x.dv 6 grC)=true:=zxxb zxeb x
theorem zcha (x:Sl Ins):zyp8 (x.dv 37 inC)=true:=zxxb z9kv x
theorem zy11 (c:Clu):zbao (clC c)=true:=by simp [clC,zbao,zyp8,z1vd,zcha]
theorem zrji (x:Ins):(inC x).drop 2=dgC x.art++[.int .i64 x.state,.int .i64 x.since,.int .i64 x.den]:=rfl
theorem zlh1 (x:Ins):(inC x).drop 34=[.int .i64 x.state,.int .i64 x.since,.int .i64 x.den]:=by
 rw [show (34:Nat)=2+32 from rfl,← y06,zrji,List.drop_left' (z1t1 _)]
theorem z3vc (x:Ins):(inC x).drop 35=[.int .i64 x.since,.int .i64 x.den]:=by
 rw [show (35:Nat)=34+1 from rfl,← y06,zlh1]; rfl
theorem zlte (x:Ins):(inC x).drop 36=[.int .i64 x.den]:=by
 rw [show (36:Nat)=34+2 from rfl,← y06,zlh1]; rfl
section
variable {x:Ins} {g:Grp} {c:Clu} {d:Dg} {r:List DV}
theorem zgz3:oneC 1 false (inC x)=some (.int .i64 x.id):=rfl
theorem zyv0:oneC 1 false ((inC x).drop 1)=some (.int .i64 x.grp):=rfl
theorem zm6n:oneC 32 true ((inC x).drop 2)=some (.agg (dgC x.art)):=by
 rw [zrji]; simp only [oneC,if_true]; rw [if_pos (by simp [z1t1]),List.take_left' (z1t1 _)]
theorem zvh3:oneC 1 false ((inC x).drop 34)=some (.int .i64 x.state):=by rw [zlh1]; rfl
theorem zmwz:oneC 1 false ((inC x).drop 35)=some (.int .i64 x.since):=by rw [z3vc]; rfl
theorem z0hu:oneC 1 false ((inC x).drop 36)=some (.int .i64 x.den):=by rw [zlte]; rfl
theorem zisq:oneC 37 true (inC x)=some (.agg (inC x)):=by simp [oneC,z6gw,y00]
theorem zuce:oneC 6 true (grC g)=some (.agg (grC g)):=rfl
theorem zn7v:oneC 1 false (grC g)=some (.str g.ns):=rfl
theorem zuiq:oneC 1 false ((grC g).drop 1)=some (.str g.im):=rfl
theorem zhlv:oneC 1 false ((grC g).drop 2)=some (.int .i64 g.want):=rfl
theorem z9em:oneC 1 false ((grC g).drop 3)=some (.int .i64 g.least):=rfl
theorem z8ho:oneC 1 false ((grC g).drop 4)=some (.int .i64 g.down):=rfl
theorem zmm6:oneC 1 false ((grC g).drop 5)=some (g.ch.dv 32 dgC):=rfl
theorem zei9:oneC 3 true (clC c)=some (.agg (clC c)):=rfl
theorem zhtb:oneC 1 false (clC c)=some (c.g.dv 6 grC):=rfl
theorem zxyh:oneC 1 false ((clC c).drop 1)=some (c.i.dv 37 inC):=rfl
theorem zawu:oneC 1 false ((clC c).drop 2)=some (.int .i64 c.next):=rfl
theorem zwwo:oneC 32 true (dgC d)=some (.agg (dgC d)):=by simp [oneC,z1t1,y00]
theorem zkf8 {off n:Nat} {a:Bool} (hl:off+n≤37):zhj0 off n a (.agg (inC x))=oneC n a ((inC x).drop off):=by simp [zhj0,z6gw,hl]
theorem z28g {off n:Nat} {a:Bool} (hl:off+n≤6):zhj0 off n a (.agg (grC g))=oneC n a ((grC g).drop off):=by simp [zhj0,zry4,hl]
theorem z715 {off n:Nat} {a:Bool} (hl:off+n≤3):zhj0 off n a (.agg (clC c))=oneC n a ((clC c).drop off):=by simp [zhj0,zlha,hl]
end
attribute [simp] z1t1 zry4 z6gw zlha zupj z2x3 z4ja ztw5 zs9p zgz3 zyv0 zm6n zvh3 zmwz z0hu zisq zuce zn7v zuiq zhlv z9em z8ho zmm6 zei9 zhtb zxyh zawu zwwo zkf8 z28g z715 z3ot zxeb z9kv zy11 zpfc z1vd zcha
theorem zid2 : ∀ {ks1 ks2:List Nat} {a1 a2 b1 b2:List DV},a1.length=ks1.length→b1.length=ks1.length→z32s (ks1++ks2) (a1++a2) (b1++b2)=(z32s ks1 a1 b1).bind fun p=>(z32s ks2 a2 b2).map fun q=>p&&q
 | [],ks2,[],a2,[],b2,_,_=>by simp [z32s]
 | k::ks1,ks2,x::a1,a2,y::b1,b2,h1,h2=>by
  simp only [List.cons_append,z32s,zid2 (ks1:=ks1) (a1:=a1) (b1:=b1) (by simpa using h1) (by simpa using h2)]
  cases znnj k x y<;>simp only [y0l,y09]
  cases z32s ks1 a1 b1<;>simp only [y0l,y09,y0o,y0i]
  cases z32s ks2 a2 b2<;>simp only [y0o,y0i,Bool.and_assoc]
theorem zyiz {a b:Dg}:z32s (zi5g [(32,0)]) (dgC a) (dgC b)=some (decide (a=b)):=by
 rw [dgC,dgC,zgre a.2 b.2];simp only [Subtype.ext_iff]
theorem zbik {a b c a' b' c':Int}:z32s [0,0,0] [.int .i64 a,.int .i64 b,.int .i64 c] [.int .i64 a',.int .i64 b',.int .i64 c']=some (decide (a=a'∧b=b'∧c=c')):=by
 simp [z32s,znnj]; rfl
theorem z540 {a b a' b':Int}:z32s [0,0] [.int .i64 a,.int .i64 b] [.int .i64 a',.int .i64 b']=some (decide (a=a'∧b=b')):=by
 simp [z32s,znnj]; rfl
theorem zmar {x y:Ins}:z32s (zi5g [(37,0)]) (inC x) (inC y)=some (decide (x=y)):=by
 have e:zi5g [(37,0)]=[0,0]++(zi5g [(32,0)]++[0,0,0]):=by decide
 have g : ∀ x:Ins,inC x=[.int .i64 x.id,.int .i64 x.grp]++(dgC x.art++[.int .i64 x.state,.int .i64 x.since,.int .i64 x.den]):=fun _=>rfl
 rw [e,g,g,zid2 rfl rfl,zid2 (by simp [z1t1,zi5g]) (by simp [z1t1,zi5g]),zyiz,z540,zbik]
 obtain ⟨a,b,c,d,e,f⟩:=x;obtain ⟨h,i,j,k,l,m⟩:=y;simp only [y09,y0i,Ins.mk.injEq,Option.some.injEq,Bool.decide_and,Bool.and_assoc]
theorem z4hl:rep 32 (w8 0#8)=dgC dg0:=by rw [dgC,dg0,zi7v]
theorem zii6:List.map w8 (rep 32 0#8)=dgC dg0:=rfl
attribute [simp] zyiz zmar zii6
def ixI {α:Type} (p:α→Bool):List α→Int
 | [] => -1
 | a::l=>if p a=true then 0 else if ixI p l<0 then -1 else ixI p l+1
theorem zkgb {α:Type} (p:α→Bool) : ∀ l:List α,-1≤ixI p l
 | []=>by simp [ixI]
 | a::l=>by have:=zkgb p l; simp only [ixI]; split<;>(try split)<;>omega
theorem zy9u {α:Type} {p:α→Bool} : ∀ {l:List α} {i:Nat} (hi:i<l.length),p l[i]=true→(∀ j (hj:j<l.length),j<i→p l[j]=false)→ixI p l=i
 | a::l,0,hi,h1,h2=>by simp at h1; simp [ixI,h1]
 | a::l,i+1,hi,h1,h2=>by
  have h0:p a=false:=h2 0 (by simp) (by omega)
  have ih:=zy9u (p:=p) (l:=l) (i:=i) (by simpa using hi) (by simpa using h1) (fun j hj hji=>h2 (j+1) (by simpa using hj) (by omega))
  simp only [ixI,h0,Bool.false_eq_true,if_false,ih];rw [if_neg (by omega)]; omega
theorem zfki {α:Type} {p:α→Bool} : ∀ {l:List α},(∀ j (hj:j<l.length),p l[j]=false)→ixI p l = -1
 | [],_=>rfl
 | a::l,h=>by
  have h0:p a=false:=h 0 (by simp)
  have ih:=zfki (p:=p) (l:=l) (fun j hj=>h (j+1) (by simpa using hj))
  simp [ixI,h0,ih]
theorem z378 {α:Type} {p:α→Bool} : ∀ {l:List α},ixI p l<0 → ∀ j (hj:j<l.length),p l[j]=false
 | [],_,j,hj=>by simp at hj
 | a::l,h,j,hj=>by
  simp only [ixI] at h;split at h
  ·omega
  ·rename_i h0
   split at h
   ·rename_i h1
    cases j with
    | zero=>simpa using h0
    | succ j=>simpa using z378 h1 j (by simpa using hj)
   ·omega
theorem ziel {α:Type} {p:α→Bool} : ∀ {l:List α},0≤ixI p l → ∃ (i:Nat) (hi:i<l.length),ixI p l=i∧p l[i]=true ∧ ∀ j (hj:j<l.length),j<i→p l[j]=false
 | [],h=>by simp [ixI] at h
 | a::l,h=>by
  by_cases h0:p a=true
  ·exact ⟨0,by simp,by simp [ixI,h0],by simpa using h0,fun j _ hj=>by omega⟩
  ·have hh:=h;simp only [ixI] at hh;rw [if_neg h0] at hh;split at hh
   ·omega
   ·rename_i h1
    obtain ⟨i,hi,e1,e2,e3⟩:=ziel (p:=p) (l:=l) (by omega)
    refine ⟨i+1,by simpa using hi,?_,by simpa using e2,fun j hj hji => ?_⟩
    ·simp only [ixI,h0,if_false,if_neg h1,e1,Bool.false_eq_true]; omega
    ·cases j with
     | zero=>simpa using h0
     | succ j=>simpa using e3 j (by simpa using hj) (by omega)
end
section
noncomputable abbrev P:Program:=Tryz.prog
theorem mix:P.follows .mixedOrders=true:=by kernel_rfl
def a159:AFn:=⟨(ql (yc [yR 4 (.int .i64 0)]) (ql (yc [yL 5 0,yL 6 1,yU 7 164 [.t 5,.t 6],yL 4 7]) qq)),8,[.tmp 4]⟩
theorem zp3e:zsjc P Tryz.f159=some a159:=by kernel_rfl
def a155:AFn:=⟨(ql (yc [yR 4 (.int .i64 0)]) (ql (yc [yL 5 0,yL 6 1,yU 7 159 [.t 5,.t 6],yL 4 7]) qq)),8,[.tmp 4]⟩
theorem zvdi:zsjc P Tryz.f155=some a155:=by kernel_rfl
def zzud:ACode :=
 (.seq (.seq (.region false [⟨none,(some 57),.mov (.t 8)⟩,
  ⟨none,(some 58),.mov (.t 9)⟩,
  ⟨none,(some 59),.bin .lss (.t 57) (.t 58)⟩])
 (.cond (.t 59) .skip
 (.exit 1)))
 (.block 2 (.seq (.seq (.region false [⟨none,(some 60),.mov (.t 0)⟩,
  ⟨none,(some 61),.mov (.t 8)⟩,
  ⟨none,(some 62),.idxStr (.t 60) (.t 61)⟩,
  ⟨none,(some 63),.mov (.t 6)⟩,
  ⟨none,(some 64),.bin .neq (.t 62) (.t 63)⟩])
 (.cond (.t 64) (.seq (.region false [⟨none,(some 65),.mov (.t 0)⟩,
  ⟨none,(some 66),.mov (.t 8)⟩,
  ⟨none,(some 67),.bin .add (.t 66) (.k (.int .i64 1))⟩,
  ⟨none,(some 68),.mov (.t 9)⟩,
  ⟨none,(some 69),.slcStr (.t 65) (some (.t 67)) (some (.t 68))⟩,
  ⟨none,(some 70),.mov (.t 6)⟩,
  ⟨none,(some 71),.call (.k (.fn (.func 159) [] [])) [(.t 69),(.t 70)]⟩,
  ⟨none,(some 11),.mov (.t 71)⟩])
 (.seq (.seq (.region false [⟨none,(some 72),.mov (.t 11)⟩,
  ⟨none,(some 73),.bin .lss (.t 72) (.k (.int .i64 0))⟩])
 (.cond (.t 73) (.seq (.region false [⟨none,(some 4),.mov (.k (.int .i64 (-1)))⟩])
 .ret)
 .skip))
 (.region false [⟨none,(some 74),.mov (.t 8)⟩,
  ⟨none,(some 75),.mov (.t 11)⟩,
  ⟨none,(some 76),.bin .add (.t 75) (.k (.int .i64 1))⟩,
  ⟨none,(some 77),.bin .add (.t 74) (.t 76)⟩,
  ⟨none,(some 8),.mov (.t 77)⟩])))
 .skip))
 (.seq (.seq (.region false [⟨none,(some 78),.mov (.t 0)⟩,
  ⟨none,(some 79),.mov (.t 8)⟩,
  ⟨none,(some 80),.bin .add (.t 79) (.k (.int .i64 1))⟩,
  ⟨none,(some 81),.idxStr (.t 78) (.t 80)⟩,
  ⟨none,(some 82),.mov (.t 7)⟩,
  ⟨none,(some 83),.bin .eql (.t 81) (.t 82)⟩,
  ⟨none,(some 84),.mov (.t 83)⟩,
  ⟨(some (84,true)),(some 85),.mov (.t 0)⟩,
  ⟨(some (84,true)),(some 86),.mov (.t 8)⟩,
  ⟨(some (84,true)),(some 87),.mov (.t 8)⟩,
  ⟨(some (84,true)),(some 88),.mov (.t 5)⟩,
  ⟨(some (84,true)),(some 89),.bin .add (.t 87) (.t 88)⟩,
  ⟨(some (84,true)),(some 90),.slcStr (.t 85) (some (.t 86)) (some (.t 89))⟩,
  ⟨(some (84,true)),(some 91),.mov (.t 1)⟩,
  ⟨(some (84,true)),(some 92),.bin .eql (.t 90) (.t 91)⟩,
  ⟨none,(some 93),.pick (.t 84) (.t 92) (.k (.bool false))⟩])
 (.cond (.t 93) (.seq (.region false [⟨none,(some 94),.mov (.t 8)⟩,
  ⟨none,(some 4),.mov (.t 94)⟩])
 .ret)
 .skip))
 (.seq (.region false [⟨none,(some 95),.mov (.t 8)⟩,
  ⟨none,(some 96),.bin .add (.t 95) (.k (.int .i64 1))⟩,
  ⟨none,(some 8),.mov (.t 96)⟩])
 (.seq (.region false [⟨none,(some 97),.mov (.t 10)⟩,
  ⟨none,(some 98),.bin .add (.t 97) (.k (.int .i64 1))⟩,
  ⟨none,(some 10),.mov (.t 98)⟩])
 (.seq (.region false [⟨none,(some 99),.mov (.t 5)⟩,
  ⟨none,(some 100),.ext (.k .junk) 0⟩,
  ⟨none,(some 101),.bin .leq (.t 99) (.t 100)⟩,
  ⟨none,(some 102),.mov (.t 101)⟩,
  ⟨(some (102,true)),(some 103),.mov (.t 10)⟩,
  ⟨(some (102,true)),(some 104),.mov (.t 8)⟩,
  ⟨(some (102,true)),(some 105),.call (.k (.fn (.func 161) [] [])) [(.t 104)]⟩,
  ⟨(some (102,true)),(some 106),.bin .gtr (.t 103) (.t 105)⟩,
  ⟨none,(some 107),.pick (.t 102) (.t 106) (.k (.bool false))⟩])
 (.cond (.t 107) (.seq (.region false [⟨none,(some 108),.mov (.t 0)⟩,
  ⟨none,(some 109),.mov (.t 8)⟩,
  ⟨none,(some 110),.slcStr (.t 108) (some (.t 109)) none⟩,
  ⟨none,(some 111),.mov (.t 1)⟩,
  ⟨none,(some 112),.call (.k (.fn (.func 160) [] [])) [(.t 110),(.t 111)]⟩,
  ⟨none,(some 12),.mov (.t 112)⟩])
 (.seq (.seq (.region false [⟨none,(some 113),.mov (.t 12)⟩,
  ⟨none,(some 114),.bin .geq (.t 113) (.k (.int .i64 0))⟩])
 (.cond (.t 114) (.seq (.region false [⟨none,(some 115),.mov (.t 12)⟩,
  ⟨none,(some 116),.mov (.t 8)⟩,
  ⟨none,(some 117),.bin .add (.t 115) (.t 116)⟩,
  ⟨none,(some 4),.mov (.t 117)⟩])
 .ret)
 .skip))
 (.seq (.region false [⟨none,(some 4),.mov (.k (.int .i64 (-1)))⟩])
 .ret)))
 (.seq (.region false [⟨none,(some 118),.mov (.t 5)⟩,
  ⟨none,(some 119),.ext (.k .junk) 0⟩,
  ⟨none,(some 120),.bin .gtr (.t 118) (.t 119)⟩,
  ⟨none,(some 121),.mov (.t 120)⟩,
  ⟨(some (121,true)),(some 122),.mov (.t 10)⟩,
  ⟨(some (121,true)),(some 123),.mov (.t 8)⟩,
  ⟨(some (121,true)),(some 124),.bin .shr (.t 123) (.k (w64 4#64))⟩,
  ⟨(some (121,true)),(some 125),.bin .add (.k (.int .i64 4)) (.t 124)⟩,
  ⟨(some (121,true)),(some 126),.bin .geq (.t 122) (.t 125)⟩,
  ⟨none,(some 127),.pick (.t 121) (.t 126) (.k (.bool false))⟩,
  ⟨none,(some 128),.mov (.t 127)⟩,
  ⟨(some (128,true)),(some 129),.mov (.t 8)⟩,
  ⟨(some (128,true)),(some 130),.mov (.t 9)⟩,
  ⟨(some (128,true)),(some 131),.bin .lss (.t 129) (.t 130)⟩,
  ⟨none,(some 132),.pick (.t 128) (.t 131) (.k (.bool false))⟩])
 (.cond (.t 132) (.seq (.region false [⟨none,(some 133),.mov (.t 0)⟩,
  ⟨none,(some 134),.mov (.t 8)⟩,
  ⟨none,(some 135),.slcStr (.t 133) (some (.t 134)) none⟩,
  ⟨none,(some 136),.mov (.t 1)⟩,
  ⟨none,(some 137),.call (.k (.fn (.func 162) [] [])) [(.t 135),(.t 136)]⟩,
  ⟨none,(some 13),.mov (.t 137)⟩])
 (.seq (.seq (.region false [⟨none,(some 138),.mov (.t 13)⟩,
  ⟨none,(some 139),.bin .lss (.t 138) (.k (.int .i64 0))⟩])
 (.cond (.t 139) (.seq (.region false [⟨none,(some 4),.mov (.k (.int .i64 (-1)))⟩])
 .ret)
 .skip))
 (.seq (.region false [⟨none,(some 140),.mov (.t 8)⟩,
  ⟨none,(some 141),.mov (.t 13)⟩,
  ⟨none,(some 142),.bin .add (.t 140) (.t 141)⟩,
  ⟨none,(some 4),.mov (.t 142)⟩])
 .ret)))
 .skip))))))))))
def a154:AFn:=⟨(ql (yc [yR 4 (.int .i64 0)]) (ql (yc [yL 14 1,⟨yg,yh 15,qW (.t 14)⟩,yL 5 15]) (ql (qn 0 (ql (yc [yL 17 5,⟨yg,yh 18,qC .eql (.t 17) (.k (.int .i64 0))⟩,yL 19 18,⟨yh (19,false),yh 20,qA (.t 1)⟩,⟨yh (19,false),yh 21,qA (.t 0)⟩,⟨yh (19,false),yh 22,qC .eql (.t 20) (.t 21)⟩,yY 23 19 22,yL 16 23]) (yd 16 (ql (yc [yR 4 (.int .i64 0)]) qq) (ql (yc [yL 25 5,⟨yg,yh 26,qC .eql (.t 25) (.k (.int .i64 1))⟩,yL 24 26]) (yd 24 (ql (yc [yL 27 0,yL 28 1,⟨yg,yh 29,qO (.t 28) (.k (.int .i64 0))⟩,yU 30 159 [.t 27,.t 29],yL 4 30]) qq) (ql (yc [yL 32 5,yL 33 0,⟨yg,yh 34,qW (.t 33)⟩,yO 35 .geq 32 34,yL 31 35]) (yd 31 (ql (yc [yR 4 (.int .i64 (-1))]) qq) (ql (yc [yL 37 5,⟨yg,yh 38,qe (.k .junk) 0⟩,yO 39 .leq 37 38,yL 40 39,⟨yh (40,true),yh 41,qA (.t 0)⟩,⟨yh (40,true),yh 42,qW (.t 41)⟩,⟨yh (40,true),yh 43,qC .leq (.t 42) (.k (.int .i64 64))⟩,yX 44 40 43,yL 36 44]) (yd 36 (ql (yc [yL 45 0,yL 46 1,yU 47 160 [.t 45,.t 46],yL 4 47]) qq) qj))))))))) (ql (yc [yL 48 1,⟨yg,yh 49,qO (.t 48) (.k (.int .i64 0))⟩,yL 6 49]) (ql (yc [yL 50 1,⟨yg,yh 51,qO (.t 50) (.k (.int .i64 1))⟩,yL 7 51]) (ql (yc [yR 8 (.int .i64 0)]) (ql (yc [yL 52 0,⟨yg,yh 53,qW (.t 52)⟩,yL 54 5,yO 55 .sub 53 54,⟨yg,yh 56,qC .add (.t 55) (.k (.int .i64 1))⟩,yL 9 56]) (ql (yc [yR 10 (.int .i64 0)]) (ql (qn 1 (qo zzud)) (ql (yc [yR 4 (.int .i64 (-1))]) qq)))))))))),143,[.tmp 4]⟩
theorem zmbu:zsjc P Tryz.f154=some a154:=by kernel_rfl
def a163:AFn:=⟨(ql (yc [yR 4 (.str []),yR 5 (.str []),yR 6 (.bool false)]) (ql (ql (yc [yL 8 0,yL 9 1,yU 10 154 [.t 8,.t 9],yL 7 10]) (ql (yc [yL 11 7,⟨yg,yh 12,qC .geq (.t 11) (.k (.int .i64 0))⟩]) (yd 12 (ql (qk true [yL 13 0,yL 14 7,⟨yg,yh 15,qQ (.t 13) yg (yh (.t 14))⟩,yL 16 0,yL 17 7,yL 18 1,⟨yg,yh 19,qW (.t 18)⟩,yO 20 .add 17 19,⟨yg,yh 21,qQ (.t 16) (yh (.t 20)) yg⟩,yL 4 15,yL 5 21,yR 6 (.bool true)]) qq) qj))) (ql (yc [yL 22 0,yL 4 22,yR 5 (.str []),yR 6 (.bool false)]) qq))),23,[.tmp 4,.tmp 5,.tmp 6]⟩
theorem zzcs:zsjc P Tryz.f163=some a163:=by kernel_rfl
def a156:AFn:=⟨(ql (yc [yR 4 (.str []),yR 5 (.str []),yR 6 (.bool false)]) (ql (yc [yL 7 0,yL 8 1,yU 9 163 [.t 7,.t 8],yP 10 9 0,yP 11 9 1,yP 12 9 2,yL 4 10,yL 5 11,yL 6 12]) qq)),13,[.tmp 4,.tmp 5,.tmp 6]⟩
theorem z9pj:zsjc P Tryz.f156=some a156:=by kernel_rfl
def zhwe:ACode :=
 (.seq (.seq (.region false [⟨none,(some 18),.mov (.t 3)⟩])
 (.cond (.t 18) .skip
 (.exit 0)))
 (.block 1 (.seq (.region false [⟨none,(some 4),.mov (.k (.str []))⟩])
 (.seq (.region false [⟨none,(some 20),.mov (.t 0)⟩,
  ⟨none,(some 21),.call (.k (.fn (.func 156) [] [])) [(.t 20),(.k (.str [47]))]⟩,
  ⟨none,(some 19),.mov (.t 21)⟩,
  ⟨none,(some 22),.ext (.t 19) 0⟩,
  ⟨none,(some 23),.ext (.t 19) 1⟩,
  ⟨none,(some 24),.ext (.t 19) 2⟩,
  ⟨none,(some 4),.mov (.t 22)⟩,
  ⟨none,(some 0),.mov (.t 23)⟩,
  ⟨none,(some 3),.mov (.t 24)⟩])
 (.seq (.region false [⟨none,(some 25),.mov (.t 4)⟩,
  ⟨none,(some 26),.bin .eql (.t 25) (.k (.str []))⟩,
  ⟨none,(some 27),.mov (.t 26)⟩,
  ⟨(some (27,false)),(some 28),.mov (.t 4)⟩,
  ⟨(some (27,false)),(some 29),.bin .eql (.t 28) (.k (.str [46]))⟩,
  ⟨none,(some 30),.pick (.t 27) (.k (.bool true)) (.t 29)⟩,
  ⟨none,(some 31),.mov (.t 30)⟩,
  ⟨(some (31,false)),(some 32),.mov (.t 4)⟩,
  ⟨(some (31,false)),(some 33),.bin .eql (.t 32) (.k (.str [46,46]))⟩,
  ⟨none,(some 34),.pick (.t 31) (.k (.bool true)) (.t 33)⟩])
 (.cond (.t 34) (.seq (.region false [⟨none,(some 2),.mov (.k (.bool false))⟩])
 .ret)
 .skip))))))
def zlcv (x0 x3:DV) (h:List AObj):St:=⟨[x0,.junk,.junk,x3]++js 31,h⟩
def a147:AFn:=⟨(ql (yc [yR 2 (.bool false)]) (ql (ql (yc [yL 5 0,⟨yg,yh 6,qW (.t 5)⟩,⟨yg,yh 7,qC .lss (.t 6) (.k (.int .i64 1))⟩,yL 8 7,⟨yh (8,false),yh 9,qA (.t 0)⟩,⟨yh (8,false),yh 10,qW (.t 9)⟩,⟨yh (8,false),yh 11,qC .gtr (.t 10) (.k (.int .i64 200))⟩,yY 12 8 11,yL 13 12,⟨yh (13,false),yh 14,qA (.t 0)⟩,⟨yh (13,false),yh 15,qf (.k (.fn (.func 155) [] [])) [.t 14,(.k (w8 0#8))]⟩,⟨yh (13,false),yh 16,qC .geq (.t 15) (.k (.int .i64 0))⟩,yY 17 13 16]) (yd 17 (ql (yc [yR 2 (.bool false)]) qq) qj)) (ql (ql (yc [yR 3 (.bool true)]) (qn 0 (qo zhwe))) (ql (yc [yR 2 (.bool true)]) qq)))),35,[.tmp 2]⟩
theorem z5yk:zsjc P Tryz.f147=some a147:=by kernel_rfl
end
section
theorem zmqh {α:Type} {d:List α} {i:Nat} (h:i<d.length):d.take (i+1)=d.take i++[d[i]]:=by rw [List.take_add_one,y0m h]; rfl
theorem zw4m {c:UInt8} {n:UInt8}:c.toBitVec=n.toBitVec↔c=n:=UInt8.toBitVec_inj
theorem z2u1 (a b:List UInt8):noZ (a++b)=(noZ a&&noZ b):=by simp [noZ]
theorem zpwu {a b c:ARes} {t:List DV} {h:List AObj}:outD [a,b,c] t h=(resD t h a).bind fun x=>(resD t h b).bind fun y=>(resD t h c).bind fun z=>snap h 3 (.tup [x,y,z]):=by
 simp only [outD,zxgc,zp5p,z2gc];cases resD t h a<;>cases resD t h b<;>cases resD t h c<;>rfl
attribute [simp] zpwu
def cS (g:List UInt8→DV):List DV→Option DV
 | [.str s]=>some (g s)|_=>none
def cS1 (g:List UInt8→UInt8→DV):List DV→Option DV
 | [.str s,.str [c]]=>some (g s c)|_=>none
def cS1b (g:List UInt8→UInt8→DV):List DV→Option DV
 | [.str s,.str [c]]=>if s.length≤100000 then some (g s c) else none|_=>none
def cSB (g:List UInt8→B8→DV):List DV→Option DV
 | [.str s,.int .u8 n]=>if 0≤n∧n<256 then some (g s (BitVec.ofInt 8 n)) else none|_=>none
theorem zk5k {g s}:cS g [.str s]=some (g s):=rfl
theorem z8u6 {g s c}:cS1 g [.str s,.str [c]]=some (g s c):=rfl
theorem zutz {g s c} (h:s.length≤100000):cS1b g [.str s,.str [c]]=some (g s c):=if_pos h
theorem zexc (c:B8):BitVec.ofInt 8 (c.toNat:Int)=c:=by simp
theorem zvdo {g s c}:cSB g [.str s,w8 c]=some (g s c):=by
 have:=c.isLt;show (if 0≤(c.toNat:Int)∧(c.toNat:Int)<256 then some (g s (BitVec.ofInt 8 (c.toNat:Int))) else none)=_
 rw [if_pos (by omega),zexc]
theorem zzn8 {f:Nat} {g:List UInt8→DV} (h : ∀ s,Am.Sem P f [.str s] (g s)):(Con.pure (cS g)).Sound P f:=by
 intro args v e;unfold cS at e;split at e
 ·simp at e; subst e; exact h _
 ·simp at e
theorem zpzi {f:Nat} {g:List UInt8→UInt8→DV} (h : ∀ s c,Am.Sem P f [.str s,.str [c]] (g s c)):(Con.pure (cS1 g)).Sound P f:=by
 intro args v e;unfold cS1 at e;split at e
 ·simp at e; subst e; exact h _ _
 ·simp at e
theorem zmgl {f:Nat} {g:List UInt8→UInt8→DV} (h : ∀ s c,s.length≤100000→Am.Sem P f [.str s,.str [c]] (g s c)):(Con.pure (cS1b g)).Sound P f:=by
 intro args v e;unfold cS1b at e;split at e
 ·split at e
  ·rename_i hl; simp at e; subst e; exact h _ _ hl
  ·simp at e
 ·simp at e
theorem zboo {f:Nat} {g:List UInt8→B8→DV} (h : ∀ s c,Am.Sem P f [.str s,w8 c] (g s c)):(Con.pure (cSB g)).Sound P f:=by
 intro args v e;unfold cSB at e;split at e
 ·rename_i s n
  split at e
  ·rename_i hn
   simp at e; subst e;have:=h s (BitVec.ofInt 8 n);have a:w8 (BitVec.ofInt 8 n) = .int .u8 n:=by
    unfold w8;have:((BitVec.ofInt 8 n).toNat:Int)=n:=by rw [BitVec.toNat_ofInt]; simp; omega
    rw [this]
   rwa [a] at this
  ·simp at e
 ·simp at e
def ixD (s:List UInt8) (c:B8):DV := .int .i64 (Lib.indexByte s c.toNat.toUInt8)
def ix1 (s:List UInt8) (c:UInt8):DV := .int .i64 (Lib.indexByte s c)
def T50:Tbl:=addT 164 (.pure (cSB ixD)) tbl0
theorem zbvx:T50 164 = .pure (cSB ixD):=by simp [T50]
theorem z3fz:T50.Sound P:=z0rp (zboo fun s c=>zrq5 Tryz.func164 (by kernel_rfl) (by kernel_rfl) (by kernel_rfl) (by kernel_rfl) s c) zr5o
theorem z4gm (s:List UInt8) (c:B8):Runs T50 a159 [.str s,w8 c] (ixD s c):=by
 refine ⟨?_⟩;simp (disch:=first|omega|simp<;>omega|fail) [-zE,a159,zbvx,zvdo,ixD]
def T51:Tbl:=addT 159 (.pure (cSB ixD)) T50
theorem zqfn:T51 159 = .pure (cSB ixD):=by simp [T51]
theorem zw21:T51.Sound P:=z0rp (zboo fun s c=>zljw mix z3fz Tryz.func159 zp3e (z4gm s c)) z3fz
theorem zbfo (s:List UInt8) (c:B8):Runs T51 a155 [.str s,w8 c] (ixD s c):=by
 refine ⟨?_⟩;simp (disch:=first|omega|simp<;>omega|fail) [-zE,a155,zqfn,zvdo,ixD]
theorem zunq (s:List UInt8) (c:UInt8):Runs T51 a154 [.str s,.str [c]] (ix1 s c):=by
 refine ⟨?_⟩;by_cases h:[c]=s
 ·subst h;simp (disch:=first|omega|simp<;>omega|fail) [-zE,a154,ix1,Lib.indexByte]
 ·simp (disch:=first|omega|simp<;>omega|fail) [-zE,a154,h,zqfn,zvdo,ixD,ix1,zq22]
def T52:Tbl:=addT 154 (.pure (cS1 ix1)) T51
theorem zcmd:T52 154 = .pure (cS1 ix1):=by simp [T52]
theorem zyuf:T52.Sound P:=z0rp (zpzi fun s c=>zljw mix zw21 Tryz.func154 zmbu (zunq s c)) zw21
def cutR (s:List UInt8) (c:UInt8):DV :=
 if Lib.indexByte s c = -1 then .tup [.str s,.str [],.bool false] else .tup [.str (s.take (Lib.indexByte s c).toNat),.str (s.drop ((Lib.indexByte s c).toNat+1)),.bool true]
theorem zw9f {s:List UInt8} {c:UInt8}:Lib.indexByte s c<s.length:=by
 have a:=Lib.indexByte_ge s c;by_cases h:Lib.indexByte s c = -1
 ·omega
 ·have:=z8bu (s:=s) (c:=c) (o:=(Lib.indexByte s c).toNat) (by omega)
  omega
theorem zubo (s:List UInt8) (c:UInt8) (hs:s.length≤100000):Runs T52 a163 [.str s,.str [c]] (cutR s c):=by
 refine ⟨?_⟩;have l:=Lib.indexByte_ge s c;have a:=zw9f (s:=s) (c:=c);by_cases h:Lib.indexByte s c = -1
 ·simp (disch:=first|omega|simp<;>omega|fail) [-zE,a163,zcmd,z8u6,ix1,h,cutR]
 ·obtain ⟨o,f⟩ : ∃ o:Nat,Lib.indexByte s c=o:=⟨(Lib.indexByte s c).toNat,by omega⟩
  rw [f] at a;have i:(0:Int)≤o:=by omega
  have j:¬ (o:Int) = -1:=by omega
  have b:o≤s.length:=by omega
  have d:o+1≤s.length:=by omega
  have e:(o:Int)+1≤s.length:=by omega
  have g:((o:Int)+1).toNat=o+1:=by omega
  have k:(s.drop (o+1)).take (s.length-(o+1))=s.drop (o+1):=y00 (by simp)
  simp (disch:=first|omega|simp<;>omega|fail) [-zE,a163,zcmd,z8u6,ix1,f,i,j,b,d,e,g,k,cutR]
def T54:Tbl:=addT 163 (.pure (cS1b cutR)) tbl0
theorem zjck:T54 163 = .pure (cS1b cutR):=by simp [T54]
theorem zjvy:T54.Sound P:=z0rp (zmgl fun s c h=>zljw mix zyuf Tryz.func163 zzcs (zubo s c h)) zr5o
theorem zmgr (s:List UInt8) (c:UInt8) (hs:s.length≤100000):Runs T54 a156 [.str s,.str [c]] (cutR s c):=by
 refine ⟨?_⟩;by_cases h:Lib.indexByte s c = -1
 ·simp (disch:=first|omega|simp<;>omega|fail) [-zE,a156,zjck,zutz hs,cutR,h]
 ·simp (disch:=first|omega|simp<;>omega|fail) [-zE,a156,zjck,zutz hs,cutR,h]
end
section
def za1j (s:List UInt8):DV := .bool (zj1f s)
def T57:Tbl:=addT 155 (.pure (cSB ixD)) (addT 156 (.pure (cS1b cutR)) tbl0)
theorem zogw:T57 155 = .pure (cSB ixD):=by simp [T57]
theorem zhm1:T57 156 = .pure (cS1b cutR):=by simp [T57]
theorem zhpa:T57.Sound P:=z0rp (zboo fun s c=>zljw mix zw21 Tryz.func155 zvdi (zbfo s c)) (z0rp (zmgl fun s c h=>zljw mix zjvy Tryz.func156 z9pj (zmgr s c h)) zr5o)
theorem ixD0 (s:List UInt8):cSB ixD [.str s,w8 0#8]=some (.int .i64 (Lib.indexByte s 0)):=zvdo
theorem zy3p {s:List UInt8} (h:Lib.indexByte s 0 ≠ -1):0≤Lib.indexByte s 0:=by have:=Lib.indexByte_ge s 0; omega
theorem zk50 {s:List UInt8} (h:Lib.indexByte s 0 = -1):noZ s=true:=by rw [zc5k,h]; rfl
theorem z5fc {s:List UInt8} (h:Lib.indexByte s 0 ≠ -1):noZ s=false:=by rw [zc5k]; simp [h]
def S9 (x:List UInt8 × Bool):St:=zlcv (.str x.1) (.bool x.2) []
def m9 (x:List UInt8 × Bool):Nat:=x.1.length+(if x.2=true then 1 else 0)
def R9 (s:List UInt8) (x:List UInt8 × Bool):Prop:=x.1.length≤200∧(x.2=true→zj1f s=(z2fg x.1).all okC)∧(x.2=false→zj1f s=true)
theorem zqqw (s:List UInt8):Runs T57 a147 [.str s] (za1j s):=by
 refine ⟨?_⟩;by_cases h1:s.length<1
 ·have e:(s.length:Int)<1:=by omega
  have h:zj1f s=false:=by simp [zj1f]; omega
  simp (disch:=first|omega|simp<;>omega|fail) [-zE,a147,e,za1j,h]
 have e:¬ (s.length:Int)<1:=by omega
 by_cases h2:200<s.length
 ·have f:(200:Int)<s.length:=by omega
  have h:zj1f s=false:=by simp [zj1f]; omega
  simp (disch:=first|omega|simp<;>omega|fail) [-zE,a147,e,f,za1j,h]
 have f:¬ (200:Int)<s.length:=by omega
 by_cases h3:Lib.indexByte s 0 = -1
 case neg =>
  have k:=zy3p h3;have h:zj1f s=false:=by simp [zj1f,z5fc h3]
  simp (disch:=first|omega|simp<;>omega|fail) [-zE,a147,e,f,zogw,ixD0,k,za1j,h]
 have h:zj1f s=(z2fg s).all okC:=by
  have m:1≤s.length:=by omega
  have n:s.length≤200:=by omega
  simp only [zj1f,m,n,zk50 h3,decide_true,y0r]
 simp (disch:=first|omega|simp<;>omega|fail) [-zE,a147,e,f,zogw,ixD0,h3];refine zlm5 S9 m9 (R9 s) (s,true) (yWS (by simp [-zE])) ⟨by show s.length≤200; omega,fun _=>h,by simp⟩ (fun x hx => ?_)
 obtain ⟨r,i⟩:=x;obtain ⟨q,b,j⟩:=hx;simp only at q b j;simp (disch:=first|omega|simp<;>omega|fail) [-zE,zhwe,zlcv,S9];cases i with
 | false =>
  have j:=j rfl;simp (disch:=first|omega|simp<;>omega|fail) [-zE,za1j,j]
 | true =>
  have b:=b rfl;have d:=zutz (g:=cutR) (s:=r) (c:=47) (by omega)
  by_cases hi:Lib.indexByte r 47 = -1
  ·rw [cutR,if_pos hi] at d;rw [zbf3 hi] at b;by_cases e1:r=[]
   ·have a:zj1f s=false:=by rw [b,e1]; rfl
    subst e1;simp (disch:=first|omega|simp<;>omega|fail) [-zE,zhm1,d,za1j,a]
   ·by_cases e2:r=[46]
    ·have a:zj1f s=false:=by rw [b,e2]; rfl
     subst e2;simp (disch:=first|omega|simp<;>omega|fail) [-zE,zhm1,d,za1j,a]
    ·by_cases e3:r=[46,46]
     ·have a:zj1f s=false:=by rw [b,e3]; rfl
      subst e3;simp (disch:=first|omega|simp<;>omega|fail) [-zE,zhm1,d,za1j,a]
     ·have a:zj1f s=true:=by rw [b]; simp [okC,e1,e2,e3]
      simp (disch:=first|omega|simp<;>omega|fail) [-zE,zhm1,d,e1,e2,e3];exact ⟨[],.inl ⟨yWS (by simp [-zE]),by simp [m9],by simp [R9,a]⟩⟩
  ·obtain ⟨o,l⟩ : ∃ o:Nat,Lib.indexByte r 47=o:=⟨(Lib.indexByte r 47).toNat,by have:=Lib.indexByte_ge r 47; omega⟩
   have p:=z8bu l;rw [cutR,if_neg hi,l] at d;rw [zjoj l] at b;simp only [Int.toNat_natCast] at d;obtain ⟨y,t⟩ : ∃ y,r.take o=y:=⟨_,rfl⟩;rw [t] at d b;by_cases e1:y=[]
   ·have a:zj1f s=false:=by rw [b,e1]; rfl
    subst e1;simp (disch:=first|omega|simp<;>omega|fail) [-zE,zhm1,d,za1j,a]
   ·by_cases e2:y=[46]
    ·have a:zj1f s=false:=by rw [b,e2]; rfl
     subst e2;simp (disch:=first|omega|simp<;>omega|fail) [-zE,zhm1,d,za1j,a]
    ·by_cases e3:y=[46,46]
     ·have a:zj1f s=false:=by rw [b,e3]; rfl
      subst e3;simp (disch:=first|omega|simp<;>omega|fail) [-zE,zhm1,d,za1j,a]
     ·have a:zj1f s=(z2fg (r.drop (o+1))).all okC:=by rw [b]; simp [okC,e1,e2,e3]
      simp (disch:=first|omega|simp<;>omega|fail) [-zE,zhm1,d,e1,e2,e3];exact ⟨r.drop (o+1),.inr ⟨yWS (by simp [-zE]),by simp [m9]; omega,by simp only [y08]; omega,fun _=>a,by simp⟩⟩
end
section
def a146:AFn:=⟨(ql (yc [yR 4 (.int .i64 0)]) (ql (yc [yL 5 0,yL 6 1,yU 7 154 [.t 5,.t 6],yL 4 7]) qq)),8,[.tmp 4]⟩
theorem zekb:zsjc P Tryz.f146=some a146:=by kernel_rfl
def zzs2:ACode :=
 (.block 1 (.seq (.region false [⟨none,(some 20),.mov (.t 0)⟩,
  ⟨none,(some 21),.mov (.t 1)⟩,
  ⟨none,(some 22),.call (.k (.fn (.func 146) [] [])) [(.t 20),(.t 21)]⟩,
  ⟨none,(some 6),.mov (.t 22)⟩])
 (.seq (.seq (.region false [⟨none,(some 23),.mov (.t 6)⟩,
  ⟨none,(some 24),.bin .eql (.t 23) (.k (.int .i64 (-1)))⟩])
 (.cond (.t 24) (.seq (.region false [⟨none,(some 25),.mov (.t 5)⟩,
  ⟨none,(some 4),.mov (.t 25)⟩])
 .ret)
 .skip))
 (.seq (.region false [⟨none,(some 26),.mov (.t 5)⟩,
  ⟨none,(some 27),.bin .add (.t 26) (.k (.int .i64 1))⟩,
  ⟨none,(some 5),.mov (.t 27)⟩])
 (.region false [⟨none,(some 28),.mov (.t 0)⟩,
  ⟨none,(some 29),.mov (.t 6)⟩,
  ⟨none,(some 30),.mov (.t 1)⟩,
  ⟨none,(some 31),.lenStr (.t 30)⟩,
  ⟨none,(some 32),.bin .add (.t 29) (.t 31)⟩,
  ⟨none,(some 33),.slcStr (.t 28) (some (.t 32)) none⟩,
  ⟨none,(some 0),.mov (.t 33)⟩])))))
def a145:AFn:=⟨(ql (yc [yR 4 (.int .i64 0)]) (ql (ql (yc [yL 7 1,⟨yg,yh 8,qW (.t 7)⟩,⟨yg,yh 9,qC .eql (.t 8) (.k (.int .i64 0))⟩]) (yd 9 (ql (yc [yL 10 0,yU 11 151 [.t 10],⟨yg,yh 12,qC .add (.t 11) (.k (.int .i64 1))⟩,yL 4 12]) qq) qj)) (ql (ql (yc [yL 13 1,⟨yg,yh 14,qW (.t 13)⟩,⟨yg,yh 15,qC .eql (.t 14) (.k (.int .i64 1))⟩]) (yd 15 (ql (yc [yL 16 0,yL 17 1,⟨yg,yh 18,qO (.t 17) (.k (.int .i64 0))⟩,yU 19 153 [.t 16,.t 18],yL 4 19]) qq) qj)) (ql (yc [yR 5 (.int .i64 0)]) (qn 0 (qo zzs2)))))),34,[.tmp 4]⟩
theorem ziio:zsjc P Tryz.f145=some a145:=by kernel_rfl
def zqt4:ACode :=
 (.seq (.seq (.region false [⟨none,(some 34),.mov (.t 10)⟩,
  ⟨none,(some 35),.mov (.t 3)⟩,
  ⟨none,(some 36),.bin .lss (.t 34) (.t 35)⟩])
 (.cond (.t 36) .skip
 (.exit 0)))
 (.block 1 (.seq (.region false [⟨none,(some 37),.mov (.t 0)⟩,
  ⟨none,(some 38),.mov (.t 1)⟩,
  ⟨none,(some 39),.call (.k (.fn (.func 146) [] [])) [(.t 37),(.t 38)]⟩,
  ⟨none,(some 11),.mov (.t 39)⟩])
 (.seq (.seq (.region false [⟨none,(some 40),.mov (.t 11)⟩,
  ⟨none,(some 41),.bin .lss (.t 40) (.k (.int .i64 0))⟩])
 (.cond (.t 41) (.exit 0)
 .skip))
 (.seq (.region false [⟨none,(some 42),.mov (.t 9)⟩,
  ⟨none,(some 43),.mov (.t 10)⟩,
  ⟨none,(some 44),.mov (.t 0)⟩,
  ⟨none,(some 45),.mov (.t 11)⟩,
  ⟨none,(some 46),.mov (.t 2)⟩,
  ⟨none,(some 47),.bin .add (.t 45) (.t 46)⟩,
  ⟨none,(some 48),.slcStr (.t 44) none (some (.t 47))⟩,
  ⟨none,(some 49),.idxS 1 (.t 42) (.t 43)⟩,
  ⟨none,none,.store 1 (.t 49) (.t 48)⟩])
 (.seq (.region false [⟨none,(some 50),.mov (.t 0)⟩,
  ⟨none,(some 51),.mov (.t 11)⟩,
  ⟨none,(some 52),.mov (.t 1)⟩,
  ⟨none,(some 53),.lenStr (.t 52)⟩,
  ⟨none,(some 54),.bin .add (.t 51) (.t 53)⟩,
  ⟨none,(some 55),.slcStr (.t 50) (some (.t 54)) none⟩,
  ⟨none,(some 0),.mov (.t 55)⟩])
 (.region false [⟨none,(some 56),.mov (.t 10)⟩,
  ⟨none,(some 57),.bin .add (.t 56) (.k (.int .i64 1))⟩,
  ⟨none,(some 10),.mov (.t 57)⟩])))))))
def zutb (x0 x1 x2 x3 x9 x10:DV) (h:List AObj):St:=⟨[x0,x1,x2,x3]++js 5++[x9,x10]++js 55,h⟩
def a137:AFn:=⟨(ql (yc [yR 8 .nils]) (ql (ql (yc [yL 12 3,⟨yg,yh 13,qC .eql (.t 12) (.k (.int .i64 0))⟩]) (yd 13 (ql (yc [yR 8 .nils]) qq) qj)) (ql (ql (yc [yL 14 1,⟨yg,yh 15,qC .eql (.t 14) (.k (.str []))⟩]) (yd 15 (ql (yc [yL 16 0,yL 17 3,yU 18 144 [.t 16,.t 17],yL 8 18]) qq) qj)) (ql (ql (yc [yL 19 3,⟨yg,yh 20,qC .lss (.t 19) (.k (.int .i64 0))⟩]) (yd 20 (yc [yL 21 0,yL 22 1,yU 23 145 [.t 21,.t 22],⟨yg,yh 24,qC .add (.t 23) (.k (.int .i64 1))⟩,yL 3 24]) qj)) (ql (yc [yL 25 3,yL 26 0,⟨yg,yh 27,qW (.t 26)⟩,⟨yg,yh 28,qC .add (.t 27) (.k (.int .i64 1))⟩,⟨yg,yh 29,qi false [.t 25,.t 28]⟩,yL 3 29]) (ql (yc [yL 30 3,⟨yg,yh 31,.mks 1 16 [(.str [])] (.t 30) (.t 30)⟩,yL 9 31]) (ql (yc [yL 32 3,⟨yg,yh 33,qC .sub (.t 32) (.k (.int .i64 1))⟩,yL 3 33]) (ql (yc [yR 10 (.int .i64 0)]) (ql (qn 0 (qo zqt4)) (ql (yc [yL 58 9,yL 59 10,yL 60 0,yQ 61 1 58 59,ya 1 61 60]) (ql (yc [yL 62 9,yL 63 10,⟨yg,yh 64,qC .add (.t 63) (.k (.int .i64 1))⟩,⟨yg,yh 65,qP 1 (.t 62) yg (yh (.t 64)) yg⟩,yL 8 65]) qq))))))))))),66,[.tmp 8]⟩
theorem zbe4:zsjc P Tryz.f137=some a137:=by kernel_rfl
def a126:AFn:=⟨(ql (yc [yR 4 .nils]) (ql (yc [yL 5 0,yL 6 1,yU 7 137 [.t 5,.t 6,(.k (.int .i64 0)),(.k (.int .i64 (-1)))],yL 4 7]) qq)),8,[.tmp 4]⟩
theorem zq5w:zsjc P Tryz.f126=some a126:=by kernel_rfl
def zv6n:ACode :=
 (.seq (.seq (.region false [⟨none,(some 13),.mov (.t 3)⟩,
  ⟨none,(some 14),.mov (.t 0)⟩,
  ⟨none,(some 15),.lenStr (.t 14)⟩,
  ⟨none,(some 16),.bin .lss (.t 13) (.t 15)⟩])
 (.cond (.t 16) .skip
 (.exit 0)))
 (.seq (.block 1 (.seq (.region false [⟨none,(some 19),.mov (.t 0)⟩,
  ⟨none,(some 20),.mov (.t 3)⟩,
  ⟨none,(some 21),.idxStr (.t 19) (.t 20)⟩,
  ⟨none,(some 22),.bin .eql (.t 21) (.k (w8 0#8))⟩])
 (.cond (.t 22) (.seq (.region false [⟨none,(some 2),.mov (.k (.bool false))⟩])
 .ret)
 .skip)))
 (.region false [⟨none,(some 17),.mov (.t 3)⟩,
  ⟨none,(some 18),.bin .add (.t 17) (.k (.int .i64 1))⟩,
  ⟨none,(some 3),.mov (.t 18)⟩])))
def zdpt (x0 x3:DV) (h:List AObj):St:=⟨[x0,.junk,.junk,x3]++js 46,h⟩
def zdl7:ACode :=
 (.seq (.seq (.region false [⟨none,(some 25),.mov (.t 5)⟩,
  ⟨none,(some 26),.mov (.t 4)⟩,
  ⟨none,(some 27),.len (.t 26)⟩,
  ⟨none,(some 28),.bin .lss (.t 25) (.t 27)⟩])
 (.cond (.t 28) .skip
 (.exit 2)))
 (.seq (.block 3 (.seq (.region false [⟨none,(some 31),.mov (.t 4)⟩,
  ⟨none,(some 32),.mov (.t 5)⟩,
  ⟨none,(some 33),.idxS 1 (.t 31) (.t 32)⟩,
  ⟨none,(some 34),.load 1 false (.t 33)⟩,
  ⟨none,(some 35),.bin .eql (.t 34) (.k (.str []))⟩,
  ⟨none,(some 36),.mov (.t 35)⟩,
  ⟨(some (36,false)),(some 37),.mov (.t 4)⟩,
  ⟨(some (36,false)),(some 38),.mov (.t 5)⟩,
  ⟨(some (36,false)),(some 39),.idxS 1 (.t 37) (.t 38)⟩,
  ⟨(some (36,false)),(some 40),.load 1 false (.t 39)⟩,
  ⟨(some (36,false)),(some 41),.bin .eql (.t 40) (.k (.str [46]))⟩,
  ⟨none,(some 42),.pick (.t 36) (.k (.bool true)) (.t 41)⟩,
  ⟨none,(some 43),.mov (.t 42)⟩,
  ⟨(some (43,false)),(some 44),.mov (.t 4)⟩,
  ⟨(some (43,false)),(some 45),.mov (.t 5)⟩,
  ⟨(some (43,false)),(some 46),.idxS 1 (.t 44) (.t 45)⟩,
  ⟨(some (43,false)),(some 47),.load 1 false (.t 46)⟩,
  ⟨(some (43,false)),(some 48),.bin .eql (.t 47) (.k (.str [46,46]))⟩,
  ⟨none,(some 49),.pick (.t 43) (.k (.bool true)) (.t 48)⟩])
 (.cond (.t 49) (.seq (.region false [⟨none,(some 2),.mov (.k (.bool false))⟩])
 .ret)
 .skip)))
 (.region false [⟨none,(some 29),.mov (.t 5)⟩,
  ⟨none,(some 30),.bin .add (.t 29) (.k (.int .i64 1))⟩,
  ⟨none,(some 5),.mov (.t 30)⟩])))
def zw0m (x4 x5:DV) (h:List AObj):St:=⟨js 4++[x4,x5]++js 44,h⟩
def a95:AFn:=⟨(ql (yc [yR 2 (.bool false)]) (ql (ql (yc [yL 6 0,⟨yg,yh 7,qC .eql (.t 6) (.k (.str []))⟩,yL 8 7,⟨yh (8,false),yh 9,qA (.t 0)⟩,⟨yh (8,false),yh 10,qW (.t 9)⟩,⟨yh (8,false),yh 11,qC .gtr (.t 10) (.k (.int .i64 200))⟩,yY 12 8 11]) (yd 12 (ql (yc [yR 2 (.bool false)]) qq) qj)) (ql (ql (yc [yR 3 (.int .i64 0)]) (qn 0 (qo zv6n))) (ql (yc [yL 23 0,⟨yg,yh 24,qf (.k (.fn (.func 126) [] [])) [.t 23,(.k (.str [47]))]⟩,yL 4 24]) (ql (ql (yc [yR 5 (.int .i64 0)]) (qn 2 (qo zdl7))) (ql (yc [yR 2 (.bool true)]) qq)))))),50,[.tmp 2]⟩
theorem z4uo:zsjc P Tryz.f95=some a95:=by kernel_rfl
end
section
theorem zazq (s:List UInt8) (c:UInt8):Runs T52 a146 [.str s,.str [c]] (ix1 s c):=by
 refine ⟨?_⟩;simp (disch:=first|omega|simp<;>omega|fail) [-zE,a146,zcmd,z8u6,ix1]
def iV:DV→Option Int
 | .int .i64 n=>some n
 | _=>none
def mm2 (m:Bool) (x y:DV):Option DV:=(iV x).bind fun a=>(iV y).bind fun b=>some (.int .i64 (if m then max a b else min a b))
theorem zy6n {a b:Int}:mm2 false (.int .i64 a) (.int .i64 b)=some (.int .i64 (min a b)):=rfl
theorem zaqi {a b:Int}:mm2 true (.int .i64 a) (.int .i64 b)=some (.int .i64 (max a b)):=rfl
theorem zluv {T:Tbl} {dr m:Bool} {x y:Opd} {t:List DV} {h:List AObj}:zn3j T dr (.mm m [x,y]) t h=pr (mm2 m (ev t x) (ev t y)) h:=by
 simp only [zn3j,evOp];refine (congrArg (fun q=>Option.bind q _) (zd7r (g:=fun z=>iV (ev t z)) fun z _ => ?_)).trans ?_
 ·generalize ev t z=d
  cases d with
  | int k n=>cases k<;>rfl
  | _=>rfl
 ·simp only [zp5p,mm2];cases iV (ev t x)<;>cases iV (ev t y)<;>rfl
def cnD (s:List UInt8) (c:B8):DV := .int .i64 (Lib.countByte s c.toNat.toUInt8)
def cn1 (s:List UInt8) (c:UInt8):DV := .int .i64 (Lib.countByte s c)
def T70:Tbl:=addT 153 (.pure (cSB cnD)) tbl0
theorem zsdt:T70 153 = .pure (cSB cnD):=by simp [T70]
theorem zc9y:T70.Sound P:=z0rp (zboo fun s c=>zxuw Tryz.func153 (by kernel_rfl) (by kernel_rfl) (by kernel_rfl) (by kernel_rfl) s c) zr5o
theorem z1yh (s:List UInt8) (c:UInt8):Runs T70 a145 [.str s,.str [c]] (cn1 s c):=by
 refine ⟨?_⟩;simp (disch:=first|omega|simp<;>omega|fail) [-zE,a145,zsdt,zvdo,cnD,cn1,zq22]
def T71:Tbl:=addT 145 (.pure (cS1 cn1)) (addT 146 (.pure (cS1 ix1)) tbl0)
theorem zovh:T71 145 = .pure (cS1 cn1):=by simp [T71]
theorem z7wv:T71 146 = .pure (cS1 ix1):=by simp [T71]
theorem zfkh:T71.Sound P:=z0rp (zpzi fun s c=>zljw mix zc9y Tryz.func145 ziio (z1yh s c)) (z0rp (zpzi fun s c=>zljw mix zyuf Tryz.func146 zekb (zazq s c)) zr5o)
def strs (l:List (List UInt8)):List DV:=l.map DV.str
def zabr (s:List UInt8):DV := .sl false 1 (z2fg s).length (strs (z2fg s))
def z0du (l:List (List UInt8)) (i:Nat):List (List UInt8):=l.take i++List.replicate (l.length-i) []
theorem za0c {l:List (List UInt8)} {i:Nat} (h:i≤l.length):(z0du l i).length=l.length:=by simp [z0du]; omega
theorem zaz4 {l:List (List UInt8)} {i:Nat} (h:i<l.length):(z0du l i).set i l[i]=z0du l (i+1):=by
 unfold z0du;have a:(l.take i).length=i:=List.length_take_of_le (by omega)
 rw [y0p _ _ (by omega),a,Nat.sub_self,zmqh h]
 obtain ⟨m,b⟩ : ∃ m,l.length-i=m+1:=⟨l.length-i-1,by omega⟩
 rw [b,show l.length-(i+1)=m by omega,List.replicate_succ,List.set_cons_zero,y0f]
 rfl
theorem z13y (l:List (List UInt8)):z0du l l.length=l:=by simp [z0du]
theorem zmfi (l:List (List UInt8)):rep l.length (DV.str [])=strs (z0du l 0):=by simp [rep,z0du,strs]
theorem zw6r {l:List (List UInt8)} {i:Nat} {x:List UInt8}:(strs l).set i (.str x)=strs (l.set i x):=by simp [strs,List.map_set]
theorem zy2g (l:List (List UInt8)):(strs l).length=l.length:=by simp [strs]
theorem zgvs : ∀ (l:List (List UInt8)),zbao (strs l)=true
 | []=>rfl
 | x::l=>by
  have:=zgvs l;simp only [strs,y0s] at this ⊢;simp [zbao,zyp8,this]
theorem zpp8 (h:List AObj) (k:Nat) (l:List (List UInt8)):z4tt h k (strs l)=some (strs l):=z619 (zgvs l)
structure X94 where
 i:Nat
 r:List UInt8
def S94 (s:List UInt8) (x:X94):St:=zutb (.str x.r) (.str [47]) (.int .i64 0) (.int .i64 ((z2fg s).length-1:Int)) (.ms 0 (z2fg s).length 0 1 (z2fg s).length (z2fg s).length) (.int .i64 x.i) [.cells (strs (z0du (z2fg s) x.i))]
def R94 (s:List UInt8) (x:X94):Prop:=x.r.length≤s.length∧x.i<(z2fg s).length∧(z2fg s).drop x.i=z2fg x.r
theorem zjnq (s:List UInt8) (c:UInt8):Lib.countByte s c≤s.length:=List.count_le_length
theorem z00p (s:List UInt8) (hs:s.length≤100000):Runs T71 a137 [.str s,.str [47],.int .i64 0,.int .i64 (-1)] (zabr s):=by
 refine ⟨?_⟩;have O:=z9lv s;have K:=zjnq s 47;obtain ⟨n,e⟩ : ∃ n,(z2fg s).length=n:=⟨_,rfl⟩;have I:min ((Lib.countByte s 47:Int)+1) ((s.length:Int)+1)=n:=by omega
 have C:(Lib.countByte s 47:Int)+1=n:=by omega
 have D:min (n:Int) ((s.length:Int)+1)=n:=by omega
 simp (disch:=first|omega|simp<;>omega|fail) [-zE,zluv,zy6n,a137,zovh,z8u6,cn1,C,D];have w:=zmfi (z2fg s);rw [e] at w;refine zlm5 (S94 s) (fun x=>x.r.length) (R94 s) ⟨0,s⟩ (z515 (by simp (disch:=first|omega|simp<;>omega|fail) [-zE,e]) (by simp (disch:=first|omega|simp<;>omega|fail) [-zE,w])) ⟨Nat.le_refl _,by show 0<(z2fg s).length; omega,rfl⟩ (fun x hx => ?_)
 obtain ⟨i,r⟩:=x;have H:=hx;obtain ⟨F,L,f⟩:=H;simp only at F L f;have k:=za0c (l:=z2fg s) (i:=i) (by omega)
 have m:=zy2g (z0du (z2fg s) i);simp (disch:=first|omega|simp<;>omega|fail) [-zE,zqt4,zutb,S94,e];by_cases h:i+1<n
 ·have y:(i:Int)<(n:Int)-1:=by omega
  have d:i<n:=by omega
  have a:(z2fg r).length=n-i:=by rw [← f,y08,e]
  by_cases hix:Lib.indexByte r 47 = -1
  ·rw [zbf3 hix] at a;simp at a; omega
  ·obtain ⟨o,q⟩ : ∃ o:Nat,Lib.indexByte r 47=o:=⟨(Lib.indexByte r 47).toNat,by have:=Lib.indexByte_ge r 47; omega⟩
   have Q:=z8bu q;have p:¬ (o:Int)<0:=by omega
   have E:(o:Int)≤r.length:=by omega
   have t:o≤r.length:=by omega
   have u:o+1≤r.length:=by omega
   have v:(o:Int)+1≤r.length:=by omega
   have J:((o:Int)+1).toNat=o+1:=by omega
   have R:(r.drop (o+1)).take (r.length-(o+1))=r.drop (o+1):=y00 (by simp)
   have g:=zjoj q;have b:(z2fg s)[i]'(by omega)=r.take o:=by
    have:(z2fg s)[i]? = some (r.take o):=by
     have:=congrArg (·[0]?) f;simp only [List.getElem?_drop,Nat.add_zero,g] at this;simpa using this
    exact (y0d.1 this).2
   have c:(strs (z0du (z2fg s) i)).set i (.str (r.take o))=strs (z0du (z2fg s) (i+1)):=by
    rw [zw6r,← b,zaz4 (by omega)]
   have A:(z2fg s).drop (i+1)=z2fg (r.drop (o+1)):=by
    rw [← y06,f,g]; rfl
   simp (disch:=first|omega|simp<;>omega|fail) [-zE,y,d,z7wv,z8u6,ix1,q,p,E,t,u,v,J,R,m,k,e];exact ⟨⟨i+1,r.drop (o+1)⟩,z515 (by simp (disch:=first|omega|simp<;>omega|fail) [-zE,e]) (by simp (disch:=first|omega|simp<;>omega|fail) [-zE,c]),by simp; omega,by simp only [y08]; omega,by show i+1<(z2fg s).length; omega,A⟩
 ·have y:¬ (i:Int)<(n:Int)-1:=by omega
  have d:i<n:=by omega
  have N:i+1=n:=by omega
  have B:(i:Int)+1=n:=by omega
  have a:(z2fg r).length=1:=by rw [← f,y08]; omega
  have z:z2fg r=[r]:=by
   by_cases hix:Lib.indexByte r 47 = -1
   ·exact zbf3 hix
   ·obtain ⟨o,q⟩ : ∃ o:Nat,Lib.indexByte r 47=o:=⟨(Lib.indexByte r 47).toNat,by have:=Lib.indexByte_ge r 47; omega⟩
    rw [zjoj q] at a;have:=zf0z (r.drop (o+1));simp at a;exact absurd a this
  have b:(z2fg s)[i]'(by omega)=r:=by
   have:(z2fg s)[i]? = some r:=by
    have:=congrArg (·[0]?) f;simp only [List.getElem?_drop,Nat.add_zero,z] at this;simpa using this
   exact (y0d.1 this).2
  have c:(strs (z0du (z2fg s) i)).set i (.str r)=strs (z2fg s):=by
   rw [zw6r]
   conv=>lhs; rw [← b]
   rw [zaz4 (by omega),show i+1=(z2fg s).length by omega,z13y]
  have j:=zy2g (z2fg s);have G:(strs (z2fg s)).take n=strs (z2fg s):=y00 (by omega)
  simp (disch:=first|omega|simp<;>omega|fail) [-zE,y,d,B,m,k,e,c,zabr,j,G,zpp8]
def cGS:List DV→Option DV
 | [.str s,.str [47],.int .i64 0,.int .i64 (-1)]=>if s.length≤100000 then some (zabr s) else none|_=>none
theorem z0qy {s:List UInt8} (h:s.length≤100000):cGS [.str s,.str [47],.int .i64 0,.int .i64 (-1)]=some (zabr s):=if_pos h
def T72:Tbl:=addT 137 (.pure cGS) tbl0
theorem ze0j:T72 137 = .pure cGS:=by simp [T72]
theorem zegh:T72.Sound P:=by
 refine z0rp (fun args v e => ?_) zr5o
 unfold cGS at e;split at e
 ·split at e
  ·rename_i hl; simp at e; subst e; exact zljw mix zfkh Tryz.func137 zbe4 (z00p _ hl)
  ·simp at e
 ·simp at e
theorem z3aj (s:List UInt8) (hs:s.length≤100000):Runs T72 a126 [.str s,.str [47]] (zabr s):=by
 refine ⟨?_⟩;simp (disch:=first|omega|simp<;>omega|fail) [-zE,a126,ze0j,z0qy,hs,zabr,zpp8]
def cSpl:List DV→Option DV
 | [.str s,.str [47]]=>if s.length≤100000 then some (zabr s) else none|_=>none
theorem ziwh {s:List UInt8} (h:s.length≤100000):cSpl [.str s,.str [47]]=some (zabr s):=if_pos h
def T73:Tbl:=addT 126 (.pure cSpl) tbl0
theorem zjkf:T73 126 = .pure cSpl:=by simp [T73]
theorem zfxp:T73.Sound P:=by
 refine z0rp (fun args v e => ?_) zr5o
 unfold cSpl at e;split at e
 ·split at e
  ·rename_i hl; simp at e; subst e; exact zljw mix zegh Tryz.func126 zq5w (z3aj _ hl)
  ·simp at e
 ·simp at e
def S17a (s:List UInt8) (i:Nat):St:=zdpt (.str s) (.int .i64 i) []
def S17b (s:List UInt8) (i:Nat):St:=zw0m (zabr s) (.int .i64 i) []
def R17a (s:List UInt8) (i:Nat):Prop:=i≤s.length∧noZ (s.take i)=true
def R17b (s:List UInt8) (i:Nat):Prop:=i≤(z2fg s).length∧((z2fg s).take i).all okC=true
theorem zkka {l:List (List UInt8)} {i:Nat} (h:i<l.length):oneC 1 false (((strs l).drop i).take 1)=some (.str l[i]):=zai5 h (by decide)
theorem z8tt {s:List UInt8} {i:Nat} (h:i<s.length):noZ (s.take (i+1))=(noZ (s.take i)&&s[i] != 0):=by
 rw [zmqh h,z2u1]; simp [noZ]
theorem z80k (s:List UInt8):Runs T73 a95 [.str s] (za1j s):=by
 refine ⟨?_⟩;by_cases h1:s=[]
 ·subst h1;simp (disch:=first|omega|simp<;>omega|fail) [-zE,a95,za1j,show zj1f []=false from rfl]
 by_cases h2:200<s.length
 ·have b:(200:Int)<s.length:=by omega
  have g:zj1f s=false:=by simp [zj1f]; omega
  simp (disch:=first|omega|simp<;>omega|fail) [-zE,a95,h1,b,za1j,g]
 have b:¬ (200:Int)<s.length:=by omega
 have p:1≤s.length:=by have:=y0c.2 h1; omega
 simp (disch:=first|omega|simp<;>omega|fail) [-zE,a95,h1,b];refine zlm5 (S17a s) (fun i=>s.length-i) (R17a s) 0 (yWS (by simp [-zE])) ⟨by omega,rfl⟩ (fun i hi => ?_)
 obtain ⟨r,c⟩:=hi;simp (disch:=first|omega|simp<;>omega|fail) [-zE,zv6n,zdpt,S17a];by_cases h:i<s.length
 ·have k:(i:Int)<s.length:=by omega
  by_cases hz:s[i]=0
  ·have b1:s[i].toBitVec=0#8:=zw4m.2 hz;have m:noZ s=false:=by
    rw [noZ,List.all_eq_false];exact ⟨s[i],y0n h,by simp [hz]⟩
   have g:zj1f s=false:=by simp [zj1f,m]
   simp (disch:=first|omega|simp<;>omega|fail) [-zE,h,k,b1,za1j,g]
  ·have b1:¬ s[i].toBitVec=0#8:=fun e=>hz (zw4m.1 e)
   have l:(s[i].toBitVec == 0#8)=false:=by simp [b1]
   simp (disch:=first|omega|simp<;>omega|fail) [-zE,h,k,b1,l];exact ⟨i+1,yWS (by simp [-zE]),by omega,by omega,by rw [z8tt h,c]; simp [hz]⟩
 ·have k:¬ (i:Int)<s.length:=by omega
  obtain rfl:i=s.length:=by omega
  rw [List.take_length] at c;have g:zj1f s=(z2fg s).all okC:=by
   simp only [zj1f,p,show s.length≤200 by omega,c,decide_true,y0r]
  have n:=ziwh (s:=s) (by omega)
  have q:(z2fg s).length≤1000:=by have:=z9lv s; have:=zjnq s 47; omega
  simp (disch:=first|omega|simp<;>omega|fail) [-zE,k,zjkf,n];refine zlm5 (S17b s) (fun i=>(z2fg s).length-i) (R17b s) 0 (yWS (by simp [-zE,zabr])) ⟨by omega,rfl⟩ (fun i hi => ?_)
  obtain ⟨t,d⟩:=hi;simp (disch:=first|omega|simp<;>omega|fail) [-zE,zdl7,zw0m,S17b,zabr];by_cases h5:i<(z2fg s).length
  ·have f:(i:Int)<(z2fg s).length:=by omega
   have j:=zkka h5;obtain ⟨y,o⟩ : ∃ y,(z2fg s)[i]=y:=⟨_,rfl⟩;rw [o] at j;have a:okC y=false→zj1f s=false:=fun e=>by
    rw [g,List.all_eq_false];exact ⟨(z2fg s)[i],y0n h5,by rw [o,e]; simp⟩
   by_cases e1:y=[]
   ·subst e1;simp (disch:=first|omega|simp<;>omega|fail) [-zE,h5,f,j,za1j,a rfl]
   ·by_cases e2:y=[46]
    ·subst e2;simp (disch:=first|omega|simp<;>omega|fail) [-zE,h5,f,j,za1j,a rfl]
    ·by_cases e3:y=[46,46]
     ·subst e3;simp (disch:=first|omega|simp<;>omega|fail) [-zE,h5,f,j,za1j,a rfl]
     ·simp (disch:=first|omega|simp<;>omega|fail) [-zE,h5,f,j,e1,e2,e3];refine ⟨i+1,yWS (by simp [-zE,zabr]),by omega,by omega,?_⟩
      rw [zmqh h5,y0j,d,o];simp [okC,e1,e2,e3]
  ·have f:¬ (i:Int)<(z2fg s).length:=by omega
   have:(z2fg s).take i=z2fg s:=y00 (by omega)
   rw [this] at d;have u:zj1f s=true:=by rw [g,d]
   simp (disch:=first|omega|simp<;>omega|fail) [-zE,h5,f,za1j,u]
end
section
open Classical in
noncomputable def tv (p:Prop):Bool:=decide p
theorem zogs {p:Prop} (h:p):tv p=true:=by simp [tv,h]
theorem zewf {p:Prop} (h:¬ p):tv p=false:=by simp [tv,h]
theorem z7kh {p q:Prop} (h:p↔q):tv p=tv q:=by rw [propext h]
def okCh (l:List Dg):Prop := ∀ i (h:i<l.length),l[i]≠dg0∧l[i] ∉ l.take i
structure ValidG (g:Grp):Prop where
 ns:zj1f g.ns=true
 im:zj1f g.im=true
 w0:0≤g.want
 w1:g.want≤8
 l0:0≤g.least
 l1:g.least≤g.want
 d0:0≤g.down
 d1:g.down≤g.want
 n:g.ch.l.length≤6
 ch:okCh g.ch.l
def fitG (ns im:List UInt8) (g:Grp):Bool:=decide (g.ns=ns)&&decide (g.im=im)
def z9w0 (l:List Grp) (ns im:List UInt8):Int:=ixI (fitG ns im) l
def z092 (l:List Ins) (id:Int):Int:=ixI (fun x=>decide (x.id=id)) l
abbrev zcie (t:Int):Prop:=0≤t∧t≤1099511627776
structure SoundI (n:Nat) (next:Int) (x:Ins):Prop where
 id0:1≤x.id
 id1:x.id<next
 g0:0≤x.grp
 g1:x.grp<n
 art:x.art≠dg0
 s0:1≤x.state
 s1:x.state≤3
 si:zcie x.since
 de:x.den = -1∨zcie x.den
structure ValidC (c:Clu):Prop where
 ng:c.g.l.length≤16
 ni:c.i.l.length≤200
 n0:1≤c.next
 n1:c.next≤1099511627776
 g : ∀ i (h:i<c.g.l.length),ValidG c.g.l[i]∧z9w0 c.g.l c.g.l[i].ns c.g.l[i].im=i
 i : ∀ i (h:i<c.i.l.length),SoundI c.g.l.length c.next c.i.l[i]∧(∀ h0:0<i,c.i.l[i-1].id<c.i.l[i].id)
def Sl.clone {α:Type} (x:Sl α):Sl α:=⟨if x.l=[] then x.k.map fun _=>true else some false,x.l,fun e=>by
 by_cases h:x.l=[]
 ·exact h
 ·simp [h] at e,x.b⟩
def Sl.copy {α:Type} (x:Sl α):Sl α:=⟨if x.l=[] then none else some false,x.l,fun e=>by
 by_cases h:x.l=[]
 ·exact h
 ·simp [h] at e,x.b⟩
def own {α:Type} (l:List α):Sl α:=if h:l.length≤4294967296 then ⟨some false,l,by simp,h⟩ else ⟨none,[],fun _=>rfl,by simp⟩
theorem z3e9 {α:Type} {l:List α} (h:l.length≤4294967296):(own l).l=l:=by rw [own,dif_pos h]
theorem zqrs {α:Type} {l:List α} {s:Nat} {f:α→List DV} (h:l.length≤4294967296):(own l).dv s f = .sl false s l.length (l.flatMap f):=by rw [own,dif_pos h]; rfl
def Grp.clone (g:Grp):Grp:={ g with ch:=g.ch.clone }
def clu0:Clu:=⟨⟨none,[],fun _=>rfl,by simp⟩,⟨none,[],fun _=>rfl,by simp⟩,0⟩
def Clu.clone (c:Clu):Clu:=⟨⟨c.g.clone.k,c.g.l.map Grp.clone,fun e=>by simp [show c.g.l=[] from c.g.clone.h e],by have:=c.g.b; simpa using this⟩,c.i.clone,c.next⟩
def gl (g:Grp):List UInt8 × List UInt8 × Int × Int × Int × List Dg:=(g.ns,g.im,g.want,g.least,g.down,g.ch.l)
structure SameC (a b:Clu):Prop where
 g:a.g.l.map gl=b.g.l.map gl
 i:a.i.l=b.i.l
 n:a.next=b.next
theorem SameC.refl (a:Clu):SameC a a:=⟨rfl,rfl,rfl⟩
theorem zbbb (g:Grp):gl g.clone=gl g:=rfl
theorem z9hp (l:List Grp):(l.map Grp.clone).map gl=l.map gl:=by simp [Function.comp_def,zbbb]
open Classical in
noncomputable def zxl9 (c:Clu) (g:Grp):Clu × Int :=
 if ¬ ValidC c∨¬ ValidG g then (clu0,1)
 else if z9w0 c.g.l g.ns g.im<0 then
  (if 16≤c.g.l.length then (clu0,3) else (⟨own (c.g.l++[g]),c.i.copy,c.next⟩,0))
 else (⟨own (c.g.l.set (z9w0 c.g.l g.ns g.im).toNat g),c.i.copy,c.next⟩,0)
def newI (c:Clu) (group:Int) (d:Dg) (t:Int):Ins:=⟨c.next,group,d,1,t,-1⟩
open Classical in
noncomputable def z4wu (c:Clu) (group:Int) (d:Dg) (t:Int):Clu × Int × Int :=
 if ¬ ValidC c∨d=dg0∨¬ zcie t then (clu0,0,1)
 else if group<0∨c.g.l.length≤group then (clu0,0,4)
 else if 200≤c.i.l.length∨1099511627776≤c.next then (clu0,0,3)
 else (⟨c.clone.g,own (c.i.l++[newI c group d t]),c.next+1⟩,c.next,0)
open Classical in
noncomputable def z6qh (c:Clu) (group:Int) (d:Dg) (t:Int):Clu × Int × Int :=
 if ¬ ValidC c∨d=dg0∨¬ zcie t then (clu0,0,1)
 else if group<0∨c.g.l.length≤group then (clu0,0,4)
 else if 200≤c.i.l.length∨1099511627776≤c.next then (clu0,0,3)
 else (⟨c.g.copy,own (c.i.l++[newI c group d t]),c.next+1⟩,c.next,0)
def may (to s:Int):Bool:=if to=2 then decide (s=1) else decide (s≠3)
def Ins.st (x:Ins) (v:Int):Ins:=⟨x.id,x.grp,x.art,v,x.since,x.den⟩
def Ins.si (x:Ins) (v:Int):Ins:=⟨x.id,x.grp,x.art,x.state,v,x.den⟩
def Ins.de (x:Ins) (v:Int):Ins:=⟨x.id,x.grp,x.art,x.state,x.since,v⟩
def setI (l:List Ins) (i:Nat) (to t:Int):List Ins:=match l[i]? with
 | some x=>l.set i ((x.st to).si t)
 | none=>l
theorem z2jl {l:List Ins} {i:Nat} {to t:Int} (h:i<l.length):setI l i to t=l.set i ((l[i].st to).si t):=by
 simp only [setI,y0m h]
open Classical in
noncomputable def z5wo (c:Clu) (id t to:Int):Clu × Int :=
 if ¬ ValidC c∨¬ zcie t then (clu0,1)
 else if z092 c.i.l id<0 then (clu0,4)
 else if ((c.i.l[(z092 c.i.l id).toNat]?).map fun x=>may to x.state)=some true then (⟨c.clone.g,own (setI c.i.l (z092 c.i.l id).toNat to t),c.next⟩,0)
 else (clu0,30)
open Classical in
noncomputable def zjqu (c:Clu) (id t to:Int):Clu × Int :=
 if ¬ ValidC c∨¬ zcie t then (clu0,1)
 else if z092 c.i.l id<0 then (clu0,4)
 else if ((c.i.l[(z092 c.i.l id).toNat]?).map fun x=>may to x.state)=some true then (⟨c.g.copy,own (setI c.i.l (z092 c.i.l id).toNat to t),c.next⟩,0)
 else (clu0,30)
end
section
def zg0d:ACode :=
 (.seq (.region false [⟨none,(some 9),.bin .lss (.t 8) (.t 7)⟩])
 (.seq (.cond (.t 9) .skip
 (.exit 0))
 (.seq (.block 1 (.seq (.region false [⟨none,(some 10),.mov (.t 8)⟩,
  ⟨none,(some 5),.mov (.t 10)⟩])
 (.seq (.region true [⟨none,(some 11),.load 32 true (.t 3)⟩,
  ⟨none,(some 12),.mov (.t 0)⟩,
  ⟨none,(some 13),.mov (.t 5)⟩,
  ⟨none,(some 14),.idxS 32 (.t 12) (.t 13)⟩,
  ⟨none,(some 15),.load 32 true (.t 14)⟩,
  ⟨none,(some 16),.eqa false [(32,0)] (.t 11) (.t 15)⟩])
 (.cond (.t 16) (.seq (.region false [⟨none,(some 17),.mov (.t 5)⟩,
  ⟨none,(some 4),.mov (.t 17)⟩])
 .ret)
 .skip))))
 (.region false [⟨none,(some 18),.bin .add (.t 8) (.k (.int .i64 1))⟩,
  ⟨none,(some 8),.mov (.t 18)⟩]))))
def zes5 (x0 x3 x7 x8:DV) (h:List AObj):St:=⟨[x0,.junk,.junk,x3,.junk,.junk,.junk,x7,x8]++js 10,h⟩
def a77:AFn:=⟨(ql (yc [yZ 3 1,yR 4 (.int .i64 0)]) (ql (ql (yc [yL 6 0,yS 7 6,yR 8 (.int .i64 0)]) (qn 0 (qo zg0d))) (ql (yc [yR 4 (.int .i64 (-1))]) qq))),19,[.tmp 4]⟩
theorem z20a:zsjc P Tryz.f77=some a77:=by kernel_rfl
def a49:AFn:=⟨(ql (yc [yZ 3 1,yR 4 (.bool false)]) (ql (yc [yL 5 0,yM 6 32 true 3,yU 7 77 [.t 5,.t 6],⟨yg,yh 8,qC .geq (.t 7) (.k (.int .i64 0))⟩,yL 4 8]) qq)),9,[.tmp 4]⟩
theorem zdc4:zsjc P Tryz.f49=some a49:=by kernel_rfl
def zjin:ACode :=
 (.seq (.region false [⟨none,(some 9),.bin .lss (.t 8) (.t 7)⟩])
 (.seq (.cond (.t 9) .skip
 (.exit 0))
 (.seq (.block 1 (.seq (.region false [⟨none,(some 10),.mov (.t 8)⟩,
  ⟨none,(some 5),.mov (.t 10)⟩])
 (.seq (.region false [⟨none,(some 11),.mov (.t 1)⟩,
  ⟨none,(some 12),.mov (.t 0)⟩,
  ⟨none,(some 13),.mov (.t 5)⟩,
  ⟨none,(some 14),.idxS 6 (.t 12) (.t 13)⟩,
  ⟨none,(some 15),.load 6 true (.t 14)⟩,
  ⟨none,(some 16),.call (.t 11) [(.t 15)]⟩])
 (.cond (.t 16) (.seq (.region false [⟨none,(some 17),.mov (.t 5)⟩,
  ⟨none,(some 4),.mov (.t 17)⟩])
 .ret)
 .skip))))
 (.region false [⟨none,(some 18),.bin .add (.t 8) (.k (.int .i64 1))⟩,
  ⟨none,(some 8),.mov (.t 18)⟩]))))
def zht8 (x0 x1 x7 x8:DV) (h:List AObj):St:=⟨[x0,x1]++js 5++[x7,x8]++js 10,h⟩
def a148:AFn:=⟨(ql (yc [yR 4 (.int .i64 0)]) (ql (ql (yc [yL 6 0,yS 7 6,yR 8 (.int .i64 0)]) (qn 0 (qo zjin))) (ql (yc [yR 4 (.int .i64 (-1))]) qq))),19,[.tmp 4]⟩
theorem zy1q:zsjc P Tryz.f148=some a148:=by kernel_rfl
def z8wl:ACode :=
 (.seq (.region false [⟨none,(some 9),.bin .lss (.t 8) (.t 7)⟩])
 (.seq (.cond (.t 9) .skip
 (.exit 0))
 (.seq (.block 1 (.seq (.region false [⟨none,(some 10),.mov (.t 8)⟩,
  ⟨none,(some 5),.mov (.t 10)⟩])
 (.seq (.region false [⟨none,(some 11),.mov (.t 1)⟩,
  ⟨none,(some 12),.mov (.t 0)⟩,
  ⟨none,(some 13),.mov (.t 5)⟩,
  ⟨none,(some 14),.idxS 37 (.t 12) (.t 13)⟩,
  ⟨none,(some 15),.load 37 true (.t 14)⟩,
  ⟨none,(some 16),.call (.t 11) [(.t 15)]⟩])
 (.cond (.t 16) (.seq (.region false [⟨none,(some 17),.mov (.t 5)⟩,
  ⟨none,(some 4),.mov (.t 17)⟩])
 .ret)
 .skip))))
 (.region false [⟨none,(some 18),.bin .add (.t 8) (.k (.int .i64 1))⟩,
  ⟨none,(some 8),.mov (.t 18)⟩]))))
def z4h4 (x0 x1 x7 x8:DV) (h:List AObj):St:=⟨[x0,x1]++js 5++[x7,x8]++js 10,h⟩
def a107:AFn:=⟨(ql (yc [yR 4 (.int .i64 0)]) (ql (ql (yc [yL 6 0,yS 7 6,yR 8 (.int .i64 0)]) (qn 0 (qo z8wl))) (ql (yc [yR 4 (.int .i64 (-1))]) qq))),19,[.tmp 4]⟩
theorem z38u:zsjc P Tryz.f107=some a107:=by kernel_rfl
def a149:AFn:=⟨(ql (yc [yZ 3 0,yR 4 (.bool false)]) (ql (yc [yN 5 0 3,yM 6 1 false 5,yM 7 1 false 1,yO 8 .eql 6 7,yL 9 8,⟨yh (9,true),yh 10,qL 1 (.t 3)⟩,⟨yh (9,true),yh 11,qH 1 false (.t 10)⟩,⟨yh (9,true),yh 12,qH 1 false (.t 2)⟩,⟨yh (9,true),yh 13,qC .eql (.t 11) (.t 12)⟩,yX 14 9 13,yL 4 14]) qq)),15,[.tmp 4]⟩
theorem zdm8:zsjc P Tryz.f149=some a149:=by kernel_rfl
def a108:AFn:=⟨(ql (yc [yZ 2 0,yR 3 (.bool false)]) (ql (yc [yN 4 0 2,yM 5 1 false 4,yM 6 1 false 1,yO 7 .eql 5 6,yL 3 7]) qq)),8,[.tmp 3]⟩
theorem zh50:zsjc P Tryz.f108=some a108:=by kernel_rfl
def a140:AFn:=⟨(ql (yc [yZ 3 0,yZ 4 1,yZ 5 2,yR 6 (.int .i64 0)]) (ql (yc [yN 7 0 3,yM 8 1 false 7,⟨yg,yh 9,.mkf (.func 149) [] [.t 4,.t 5]⟩,yU 10 148 [.t 8,.t 9],yL 6 10]) qq)),11,[.tmp 6]⟩
theorem zvf9:zsjc P Tryz.f140=some a140:=by kernel_rfl
def a82:AFn:=⟨(ql (yc [yZ 2 0,yZ 3 1,yR 4 (.int .i64 0)]) (ql (yc [yN 5 1 2,yM 6 1 false 5,⟨yg,yh 7,.mkf (.func 108) [] [.t 3]⟩,yU 8 107 [.t 6,.t 7],yL 4 8]) qq)),9,[.tmp 4]⟩
theorem zftu:zsjc P Tryz.f82=some a82:=by kernel_rfl
def a130:AFn:=⟨(ql (yc [yR 2 (.bool false)]) (ql (yc [yL 3 0,⟨yg,yh 4,qC .geq (.t 3) (.k (.int .i64 0))⟩,yL 5 4,⟨yh (5,true),yh 6,qA (.t 0)⟩,⟨yh (5,true),yh 7,qC .leq (.t 6) (.k (.int .i64 1099511627776))⟩,yX 8 5 7,yL 2 8]) qq)),9,[.tmp 2]⟩
theorem zndb:zsjc P Tryz.f130=some a130:=by kernel_rfl
def a141:AFn:=⟨(ql (yc [yZ 2 0,yZ 3 1,yR 4 (.bool false)]) (ql (yc [yN 5 0 3,yM 6 1 false 5,⟨yg,yh 7,qC .geq (.t 6) (.k (.int .i64 1))⟩,yL 8 7,⟨yh (8,true),yh 9,qL 0 (.t 3)⟩,⟨yh (8,true),yh 10,qH 1 false (.t 9)⟩,⟨yh (8,true),yh 11,qL 2 (.t 2)⟩,⟨yh (8,true),yh 12,qH 1 false (.t 11)⟩,⟨yh (8,true),yh 13,qC .lss (.t 10) (.t 12)⟩,yX 14 8 13,yL 15 14,⟨yh (15,true),yh 16,qL 1 (.t 3)⟩,⟨yh (15,true),yh 17,qH 1 false (.t 16)⟩,⟨yh (15,true),yh 18,qC .geq (.t 17) (.k (.int .i64 0))⟩,yX 19 15 18,yL 20 19,⟨yh (20,true),yh 21,qL 1 (.t 3)⟩,⟨yh (20,true),yh 22,qH 1 false (.t 21)⟩,⟨yh (20,true),yh 23,qL 0 (.t 2)⟩,⟨yh (20,true),yh 24,qH 1 false (.t 23)⟩,⟨yh (20,true),yh 25,qV (.t 24)⟩,⟨yh (20,true),yh 26,qC .lss (.t 22) (.t 25)⟩,yX 27 20 26,yL 28 27,⟨yh (28,true),yh 29,qL 2 (.t 3)⟩,⟨yh (28,true),yh 30,qH 32 true (.t 29)⟩,⟨yh (28,true),yh 31,qT (rep 32 (w8 0#8)) []⟩,⟨yh (28,true),yh 32,qD true [(32,0)] (.t 30) (.t 31)⟩,yX 33 28 32,yL 34 33,⟨yh (34,true),yh 35,qL 34 (.t 3)⟩,⟨yh (34,true),yh 36,qH 1 false (.t 35)⟩,⟨yh (34,true),yh 37,qC .geq (.t 36) (.k (.int .i64 1))⟩,yX 38 34 37,yL 39 38,⟨yh (39,true),yh 40,qL 34 (.t 3)⟩,⟨yh (39,true),yh 41,qH 1 false (.t 40)⟩,⟨yh (39,true),yh 42,qC .leq (.t 41) (.k (.int .i64 3))⟩,yX 43 39 42,yL 44 43,⟨yh (44,true),yh 45,qL 35 (.t 3)⟩,⟨yh (44,true),yh 46,qH 1 false (.t 45)⟩,⟨yh (44,true),yh 47,qf (.k (.fn (.func 130) [] [])) [.t 46]⟩,yX 48 44 47,yL 49 48,⟨yh (49,true),yh 50,qL 36 (.t 3)⟩,⟨yh (49,true),yh 51,qH 1 false (.t 50)⟩,⟨yh (49,true),yh 52,qC .eql (.t 51) (.k (.int .i64 (-1)))⟩,⟨yh (49,true),yh 53,qA (.t 52)⟩,⟨yh (53,false),yh 54,qL 36 (.t 3)⟩,⟨yh (53,false),yh 55,qH 1 false (.t 54)⟩,⟨yh (53,false),yh 56,qf (.k (.fn (.func 130) [] [])) [.t 55]⟩,⟨yh (49,true),yh 57,qB (.t 53) (.k (.bool true)) (.t 56)⟩,yX 58 49 57,yL 4 58]) qq)),59,[.tmp 4]⟩
theorem zjg6:zsjc P Tryz.f141=some a141:=by kernel_rfl
def z9lx:ACode :=
 (.seq (.region false [⟨none,(some 59),.bin .lss (.t 58) (.t 57)⟩])
 (.seq (.cond (.t 59) .skip
 (.exit 0))
 (.seq (.block 1 (.seq (.region false [⟨none,(some 60),.mov (.t 58)⟩,
  ⟨none,(some 61),.idxS 32 (.t 56) (.t 58)⟩,
  ⟨none,(some 62),.load 32 true (.t 61)⟩,
  ⟨none,(some 4),.alloc (rep 32 (w8 0#8))⟩,
  ⟨none,(some 3),.mov (.t 60)⟩,
  ⟨none,none,.store 32 (.t 4) (.t 62)⟩])
 (.seq (.region true [⟨none,(some 63),.load 32 true (.t 4)⟩,
  ⟨none,(some 64),.build (rep 32 (w8 0#8)) []⟩,
  ⟨none,(some 65),.eqa false [(32,0)] (.t 63) (.t 64)⟩,
  ⟨none,(some 66),.mov (.t 65)⟩,
  ⟨(some (66,false)),(some 67),.fld 5 (.t 1)⟩,
  ⟨(some (66,false)),(some 68),.load 1 false (.t 67)⟩,
  ⟨(some (66,false)),(some 69),.mov (.t 3)⟩,
  ⟨(some (66,false)),(some 70),.slcS 32 (.t 68) none (some (.t 69)) none⟩,
  ⟨(some (66,false)),(some 71),.load 32 true (.t 4)⟩,
  ⟨(some (66,false)),(some 72),.callN (.k (.fn (.func 49) [] [])) [(.t 70),(.t 71)]⟩,
  ⟨none,(some 73),.pick (.t 66) (.k (.bool true)) (.t 72)⟩])
 (.cond (.t 73) (.seq (.region false [⟨none,(some 2),.mov (.k (.bool false))⟩])
 .ret)
 .skip))))
 (.region false [⟨none,(some 74),.bin .add (.t 58) (.k (.int .i64 1))⟩,
  ⟨none,(some 58),.mov (.t 74)⟩]))))
def zcir (x1 x56 x57 x58:DV) (h:List AObj):St:=⟨[.junk,x1]++js 54++[x56,x57,x58]++js 16,h⟩
def a139:AFn:=⟨(ql (yc [yZ 1 0,yR 2 (.bool false)]) (ql (ql (yc [yN 5 0 1,yM 6 1 false 5,yU 7 147 [.t 6],⟨yg,yh 8,qG .not (.t 7)⟩,yL 9 8,⟨yh (9,false),yh 10,qL 1 (.t 1)⟩,⟨yh (9,false),yh 11,qH 1 false (.t 10)⟩,⟨yh (9,false),yh 12,qf (.k (.fn (.func 147) [] [])) [.t 11]⟩,⟨yh (9,false),yh 13,qG .not (.t 12)⟩,yY 14 9 13,yL 15 14,⟨yh (15,false),yh 16,qL 2 (.t 1)⟩,⟨yh (15,false),yh 17,qH 1 false (.t 16)⟩,⟨yh (15,false),yh 18,qC .lss (.t 17) (.k (.int .i64 0))⟩,yY 19 15 18,yL 20 19,⟨yh (20,false),yh 21,qL 2 (.t 1)⟩,⟨yh (20,false),yh 22,qH 1 false (.t 21)⟩,⟨yh (20,false),yh 23,qC .gtr (.t 22) (.k (.int .i64 8))⟩,yY 24 20 23,yL 25 24,⟨yh (25,false),yh 26,qL 3 (.t 1)⟩,⟨yh (25,false),yh 27,qH 1 false (.t 26)⟩,⟨yh (25,false),yh 28,qC .lss (.t 27) (.k (.int .i64 0))⟩,yY 29 25 28,yL 30 29,⟨yh (30,false),yh 31,qL 3 (.t 1)⟩,⟨yh (30,false),yh 32,qH 1 false (.t 31)⟩,⟨yh (30,false),yh 33,qL 2 (.t 1)⟩,⟨yh (30,false),yh 34,qH 1 false (.t 33)⟩,⟨yh (30,false),yh 35,qC .gtr (.t 32) (.t 34)⟩,yY 36 30 35,yL 37 36,⟨yh (37,false),yh 38,qL 4 (.t 1)⟩,⟨yh (37,false),yh 39,qH 1 false (.t 38)⟩,⟨yh (37,false),yh 40,qC .lss (.t 39) (.k (.int .i64 0))⟩,yY 41 37 40,yL 42 41,⟨yh (42,false),yh 43,qL 4 (.t 1)⟩,⟨yh (42,false),yh 44,qH 1 false (.t 43)⟩,⟨yh (42,false),yh 45,qL 2 (.t 1)⟩,⟨yh (42,false),yh 46,qH 1 false (.t 45)⟩,⟨yh (42,false),yh 47,qC .gtr (.t 44) (.t 46)⟩,yY 48 42 47,yL 49 48,⟨yh (49,false),yh 50,qL 5 (.t 1)⟩,⟨yh (49,false),yh 51,qH 1 false (.t 50)⟩,⟨yh (49,false),yh 52,qV (.t 51)⟩,⟨yh (49,false),yh 53,qC .gtr (.t 52) (.k (.int .i64 6))⟩,yY 54 49 53]) (yd 54 (ql (yc [yR 2 (.bool false)]) qq) qj)) (ql (ql (yc [yN 55 5 1,yM 56 1 false 55,yS 57 56,yR 58 (.int .i64 0)]) (qn 0 (qo z9lx))) (ql (yc [yR 2 (.bool true)]) qq)))),75,[.tmp 2]⟩
theorem zt91:zsjc P Tryz.f139=some a139:=by kernel_rfl
def zl9a:ACode :=
 (.seq (.region false [⟨none,(some 31),.bin .lss (.t 30) (.t 29)⟩])
 (.seq (.cond (.t 31) .skip
 (.exit 0))
 (.seq (.block 1 (.seq (.region false [⟨none,(some 32),.mov (.t 30)⟩,
  ⟨none,(some 33),.idxS 6 (.t 28) (.t 30)⟩,
  ⟨none,(some 34),.load 6 true (.t 33)⟩,
  ⟨none,(some 4),.alloc [(.str []),(.str []),(.int .i64 0),(.int .i64 0),(.int .i64 0),.nils]⟩,
  ⟨none,(some 3),.mov (.t 32)⟩,
  ⟨none,none,.store 6 (.t 4) (.t 34)⟩])
 (.seq (.region false [⟨none,(some 35),.load 6 true (.t 4)⟩,
  ⟨none,(some 36),.call (.k (.fn (.func 139) [] [])) [(.t 35)]⟩,
  ⟨none,(some 37),.un .not (.t 36)⟩,
  ⟨none,(some 38),.mov (.t 37)⟩,
  ⟨(some (38,false)),(some 39),.load 3 true (.t 1)⟩,
  ⟨(some (38,false)),(some 40),.fld 0 (.t 4)⟩,
  ⟨(some (38,false)),(some 41),.load 1 false (.t 40)⟩,
  ⟨(some (38,false)),(some 42),.fld 1 (.t 4)⟩,
  ⟨(some (38,false)),(some 43),.load 1 false (.t 42)⟩,
  ⟨(some (38,false)),(some 44),.call (.k (.fn (.func 140) [] [])) [(.t 39),(.t 41),(.t 43)]⟩,
  ⟨(some (38,false)),(some 45),.mov (.t 3)⟩,
  ⟨(some (38,false)),(some 46),.bin .neq (.t 44) (.t 45)⟩,
  ⟨none,(some 47),.pick (.t 38) (.k (.bool true)) (.t 46)⟩])
 (.cond (.t 47) (.seq (.region false [⟨none,(some 2),.mov (.k (.bool false))⟩])
 .ret)
 .skip))))
 (.region false [⟨none,(some 48),.bin .add (.t 30) (.k (.int .i64 1))⟩,
  ⟨none,(some 30),.mov (.t 48)⟩]))))
def zave (x1 x28 x29 x30:DV) (h:List AObj):St:=⟨[.junk,x1]++js 26++[x28,x29,x30]++js 47,h⟩
def zsza:ACode :=
 (.seq (.region false [⟨none,(some 53),.bin .lss (.t 52) (.t 51)⟩])
 (.seq (.cond (.t 53) .skip
 (.exit 2))
 (.seq (.block 3 (.seq (.region false [⟨none,(some 54),.mov (.t 52)⟩,
  ⟨none,(some 55),.idxS 37 (.t 50) (.t 52)⟩,
  ⟨none,(some 56),.load 37 true (.t 55)⟩,
  ⟨none,(some 6),.alloc yz40⟩,
  ⟨none,(some 5),.mov (.t 54)⟩,
  ⟨none,none,.store 37 (.t 6) (.t 56)⟩])
 (.seq (.region true [⟨none,(some 57),.load 3 true (.t 1)⟩,
  ⟨none,(some 58),.load 37 true (.t 6)⟩,
  ⟨none,(some 59),.callN (.k (.fn (.func 141) [] [])) [(.t 57),(.t 58)]⟩,
  ⟨none,(some 60),.un .not (.t 59)⟩,
  ⟨none,(some 61),.mov (.t 60)⟩,
  ⟨(some (61,false)),(some 62),.mov (.t 5)⟩,
  ⟨(some (61,false)),(some 63),.bin .gtr (.t 62) (.k (.int .i64 0))⟩,
  ⟨(some (61,false)),(some 64),.mov (.t 63)⟩,
  ⟨(some (64,true)),(some 65),.fld 0 (.t 6)⟩,
  ⟨(some (64,true)),(some 66),.load 1 false (.t 65)⟩,
  ⟨(some (64,true)),(some 67),.fld 1 (.t 1)⟩,
  ⟨(some (64,true)),(some 68),.load 1 false (.t 67)⟩,
  ⟨(some (64,true)),(some 69),.mov (.t 5)⟩,
  ⟨(some (64,true)),(some 70),.bin .sub (.t 69) (.k (.int .i64 1))⟩,
  ⟨(some (64,true)),(some 71),.idxS 37 (.t 68) (.t 70)⟩,
  ⟨(some (64,true)),(some 72),.fld 0 (.t 71)⟩,
  ⟨(some (64,true)),(some 73),.load 1 false (.t 72)⟩,
  ⟨(some (64,true)),(some 74),.bin .leq (.t 66) (.t 73)⟩,
  ⟨(some (61,false)),(some 75),.pick (.t 64) (.t 74) (.k (.bool false))⟩,
  ⟨none,(some 76),.pick (.t 61) (.k (.bool true)) (.t 75)⟩])
 (.cond (.t 76) (.seq (.region false [⟨none,(some 2),.mov (.k (.bool false))⟩])
 .ret)
 .skip))))
 (.region false [⟨none,(some 77),.bin .add (.t 52) (.k (.int .i64 1))⟩,
  ⟨none,(some 52),.mov (.t 77)⟩]))))
def ztg6 (x1 x50 x51 x52:DV) (h:List AObj):St:=⟨[.junk,x1]++js 48++[x50,x51,x52]++js 25,h⟩
def a129:AFn:=⟨(ql (yc [yZ 1 0,yR 2 (.bool false)]) (ql (ql (yc [yN 7 0 1,yM 8 1 false 7,yS 9 8,⟨yg,yh 10,qC .gtr (.t 9) (.k (.int .i64 16))⟩,yL 11 10,⟨yh (11,false),yh 12,qL 1 (.t 1)⟩,⟨yh (11,false),yh 13,qH 1 false (.t 12)⟩,⟨yh (11,false),yh 14,qV (.t 13)⟩,⟨yh (11,false),yh 15,qC .gtr (.t 14) (.k (.int .i64 200))⟩,yY 16 11 15,yL 17 16,⟨yh (17,false),yh 18,qL 2 (.t 1)⟩,⟨yh (17,false),yh 19,qH 1 false (.t 18)⟩,⟨yh (17,false),yh 20,qC .lss (.t 19) (.k (.int .i64 1))⟩,yY 21 17 20,yL 22 21,⟨yh (22,false),yh 23,qL 2 (.t 1)⟩,⟨yh (22,false),yh 24,qH 1 false (.t 23)⟩,⟨yh (22,false),yh 25,qC .gtr (.t 24) (.k (.int .i64 1099511627776))⟩,yY 26 22 25]) (yd 26 (ql (yc [yR 2 (.bool false)]) qq) qj)) (ql (ql (yc [yN 27 0 1,yM 28 1 false 27,yS 29 28,yR 30 (.int .i64 0)]) (qn 0 (qo zl9a))) (ql (ql (yc [yN 49 1 1,yM 50 1 false 49,yS 51 50,yR 52 (.int .i64 0)]) (qn 2 (qo zsza))) (ql (yc [yR 2 (.bool true)]) qq))))),78,[.tmp 2]⟩
theorem z1y5:zsjc P Tryz.f129=some a129:=by kernel_rfl
def a81:AFn:=⟨(ql (yc [yR 2 .nils]) (ql (ql (yc [yL 3 0,⟨yg,yh 4,qF 0 false (.t 3) (.k .nils)⟩]) (yd 4 (ql (yc [yR 2 .nils]) qq) qj)) (ql (yc [⟨yg,yh 5,qU 32 0 (rep 32 (w8 0#8)) []⟩,yL 6 0,⟨yg,yh 7,qX 32 32 (.t 5) (.t 6)⟩,yL 2 7]) qq))),8,[.tmp 2]⟩
theorem zgev:zsjc P Tryz.f81=some a81:=by kernel_rfl
def a79:AFn:=⟨(ql (yc [yR 2 .nils]) (ql (ql (yc [yL 3 0,⟨yg,yh 4,qF 0 false (.t 3) (.k .nils)⟩]) (yd 4 (ql (yc [yR 2 .nils]) qq) qj)) (ql (yc [⟨yg,yh 5,qU 6 0 [(.str []),(.str []),(.int .i64 0),(.int .i64 0),(.int .i64 0),.nils] []⟩,yL 6 0,⟨yg,yh 7,qX 6 80 (.t 5) (.t 6)⟩,yL 2 7]) qq))),8,[.tmp 2]⟩
theorem zaq4:zsjc P Tryz.f79=some a79:=by kernel_rfl
def a80:AFn:=⟨(ql (yc [yR 2 .nils]) (ql (ql (yc [yL 3 0,⟨yg,yh 4,qF 0 false (.t 3) (.k .nils)⟩]) (yd 4 (ql (yc [yR 2 .nils]) qq) qj)) (ql (yc [⟨yg,yh 5,qU 37 0 yz40 []⟩,yL 6 0,⟨yg,yh 7,qX 37 72 (.t 5) (.t 6)⟩,yL 2 7]) qq))),8,[.tmp 2]⟩
theorem zpfu:zsjc P Tryz.f80=some a80:=by kernel_rfl
def zd5j:ACode :=
 (.seq (.region false [⟨none,(some 16),.bin .lss (.t 15) (.t 14)⟩])
 (.seq (.cond (.t 16) .skip
 (.exit 0))
 (.seq (.block 1 (.seq (.region false [⟨none,(some 17),.mov (.t 15)⟩,
  ⟨none,(some 3),.mov (.t 17)⟩])
 (.region true [⟨none,(some 18),.fld 0 (.t 1)⟩,
  ⟨none,(some 19),.load 1 false (.t 18)⟩,
  ⟨none,(some 20),.mov (.t 3)⟩,
  ⟨none,(some 21),.fld 0 (.t 1)⟩,
  ⟨none,(some 22),.load 1 false (.t 21)⟩,
  ⟨none,(some 23),.mov (.t 3)⟩,
  ⟨none,(some 24),.idxS 6 (.t 22) (.t 23)⟩,
  ⟨none,(some 25),.fld 5 (.t 24)⟩,
  ⟨none,(some 26),.load 1 false (.t 25)⟩,
  ⟨none,(some 27),.callN (.k (.fn (.func 81) [] [])) [(.t 26)]⟩,
  ⟨none,(some 28),.idxS 6 (.t 19) (.t 20)⟩,
  ⟨none,(some 29),.fld 5 (.t 28)⟩,
  ⟨none,none,.store 1 (.t 29) (.t 27)⟩])))
 (.region false [⟨none,(some 30),.bin .add (.t 15) (.k (.int .i64 1))⟩,
  ⟨none,(some 15),.mov (.t 30)⟩]))))
def zc10 (x1 x2 x14 x15:DV) (h:List AObj):St:=⟨[.junk,x1,x2]++js 11++[x14,x15]++js 16,h⟩
def a131:AFn:=⟨(ql (yc [yZ 1 0,⟨yg,yh 2,qR [.nils,.nils,(.int .i64 0)]⟩]) (ql (qk true [yN 4 0 1,yM 5 1 false 4,yN 7 1 1,yM 8 1 false 7,yV 6 79 [.t 5],yN 10 0 1,yV 9 80 [.t 8],ya 1 10 6,yN 11 1 1,ya 1 11 9]) (ql (ql (yc [yN 12 0 1,yM 13 1 false 12,yS 14 13,yR 15 (.int .i64 0)]) (qn 0 (qo zd5j))) (ql (yc [yM 31 3 true 1,ya 3 2 31]) qq)))),32,[.cell 2 3 true]⟩
theorem zsra:zsjc P Tryz.f131=some a131:=by kernel_rfl
def a125:AFn:=⟨(ql (yc [yZ 4 0,yZ 6 2,⟨yg,yh 8,qR [.nils,.nils,(.int .i64 0)]⟩,yR 9 (.int .i64 0),yR 10 (.int .i64 0)]) (ql (qn 0 (ql (yc [yM 13 3 true 4,yU 14 129 [.t 13],⟨yg,yh 15,qG .not (.t 14)⟩,yL 16 15,⟨yh (16,false),yh 17,qH 32 true (.t 6)⟩,⟨yh (16,false),yh 18,qT (rep 32 (w8 0#8)) []⟩,⟨yh (16,false),yh 19,qD false [(32,0)] (.t 17) (.t 18)⟩,yY 20 16 19,yL 21 20,⟨yh (21,false),yh 22,qA (.t 3)⟩,⟨yh (21,false),yh 23,qf (.k (.fn (.func 130) [] [])) [.t 22]⟩,⟨yh (21,false),yh 24,qG .not (.t 23)⟩,yY 25 21 24,yL 12 25]) (yd 12 (ql (yc [⟨yg,yh 26,qT [.nils,.nils,(.int .i64 0)] []⟩,ya 3 8 26,yR 9 (.int .i64 0),yR 10 (.int .i64 1)]) qq) (ql (yc [yL 28 1,⟨yg,yh 29,qC .lss (.t 28) (.k (.int .i64 0))⟩,yL 30 29,⟨yh (30,false),yh 31,qA (.t 1)⟩,⟨yh (30,false),yh 32,qL 0 (.t 4)⟩,⟨yh (30,false),yh 33,qH 1 false (.t 32)⟩,⟨yh (30,false),yh 34,qV (.t 33)⟩,⟨yh (30,false),yh 35,qC .geq (.t 31) (.t 34)⟩,yY 36 30 35,yL 27 36]) (yd 27 (ql (yc [⟨yg,yh 37,qT [.nils,.nils,(.int .i64 0)] []⟩,ya 3 8 37,yR 9 (.int .i64 0),yR 10 (.int .i64 4)]) qq) (ql (yc [yN 39 1 4,yM 40 1 false 39,yS 41 40,⟨yg,yh 42,qC .geq (.t 41) (.k (.int .i64 200))⟩,yL 43 42,⟨yh (43,false),yh 44,qL 2 (.t 4)⟩,⟨yh (43,false),yh 45,qH 1 false (.t 44)⟩,⟨yh (43,false),yh 46,qC .geq (.t 45) (.k (.int .i64 1099511627776))⟩,yY 47 43 46,yL 38 47]) (yd 38 (ql (yc [⟨yg,yh 48,qT [.nils,.nils,(.int .i64 0)] []⟩,ya 3 8 48,yR 9 (.int .i64 0),yR 10 (.int .i64 3)]) qq) qj))))))) (ql (yc [yM 49 3 true 4,yU 50 131 [.t 49],ya 3 4 50]) (ql (yc [yN 51 2 4,yM 52 1 false 51,yL 11 52]) (ql (yc [yN 53 1 4,yM 54 1 false 53,yL 55 11,yL 56 1,yM 57 32 true 6,yL 58 3,⟨yg,yh 59,qT yz40 [(0,1,(.t 55)),(1,1,(.t 56)),(2,32,(.t 57)),(34,1,(.k (.int .i64 1))),(35,1,(.t 58)),(36,1,(.k (.int .i64 (-1))))]⟩,⟨yg,yh 60,qU 37 1 yz40 [(0,37,(.t 59))]⟩,⟨yg,yh 61,qX 37 72 (.t 54) (.t 60)⟩,yN 62 1 4,ya 1 62 61]) (ql (yc [yN 63 2 4,yM 64 1 false 63,⟨yg,yh 65,qC .add (.t 64) (.k (.int .i64 1))⟩,yN 66 2 4,ya 1 66 65]) (ql (yc [yM 67 3 true 4,yL 68 11,ya 3 8 67,yL 9 68,yR 10 (.int .i64 0)]) qq))))))),69,[.cell 8 3 true,.tmp 9,.tmp 10]⟩
theorem zdaz:zsjc P Tryz.f125=some a125:=by kernel_rfl
def a109:AFn:=⟨(ql (yc [yZ 5 0,⟨yg,yh 10,qR [.nils,.nils,(.int .i64 0)]⟩,yR 11 (.int .i64 0)]) (ql (ql (yc [yM 13 3 true 5,yU 14 129 [.t 13],⟨yg,yh 15,qG .not (.t 14)⟩,yL 16 15,⟨yh (16,false),yh 17,qA (.t 2)⟩,⟨yh (16,false),yh 18,qf (.k (.fn (.func 130) [] [])) [.t 17]⟩,⟨yh (16,false),yh 19,qG .not (.t 18)⟩,yY 20 16 19]) (yd 20 (ql (yc [⟨yg,yh 21,qT [.nils,.nils,(.int .i64 0)] []⟩,ya 3 10 21,yR 11 (.int .i64 1)]) qq) qj)) (ql (yc [yM 22 3 true 5,yL 23 1,yU 24 82 [.t 22,.t 23],yL 12 24]) (ql (ql (yc [yL 25 12,⟨yg,yh 26,qC .lss (.t 25) (.k (.int .i64 0))⟩]) (yd 26 (ql (yc [⟨yg,yh 27,qT [.nils,.nils,(.int .i64 0)] []⟩,ya 3 10 27,yR 11 (.int .i64 4)]) qq) qj)) (ql (ql (yc [yL 28 4,yN 29 1 5,yM 30 1 false 29,yL 31 12,yQ 32 37 30 31,yN 33 34 32,yM 34 1 false 33,⟨yg,yh 35,qf (.t 28) [.t 34]⟩,⟨yg,yh 36,qG .not (.t 35)⟩]) (yd 36 (ql (yc [⟨yg,yh 37,qT [.nils,.nils,(.int .i64 0)] []⟩,ya 3 10 37,yR 11 (.int .i64 30)]) qq) qj)) (ql (yc [yM 38 3 true 5,yU 39 131 [.t 38],ya 3 5 39]) (ql (qk true [yN 40 1 5,yM 41 1 false 40,yL 42 12,yN 43 1 5,yM 44 1 false 43,yL 45 12,yL 46 3,yL 47 2,yQ 48 37 41 42,yN 49 34 48,ya 1 49 46,yQ 50 37 44 45,yN 51 35 50,ya 1 51 47,⟨yg,yg,qZ (.t 5) (.t 49)⟩,⟨yg,yg,qZ (.t 43) (.t 49)⟩]) (ql (yc [yM 52 3 true 5,ya 3 10 52,yR 11 (.int .i64 0)]) qq)))))))),53,[.cell 10 3 true,.tmp 11]⟩
theorem zoj0:zsjc P Tryz.f109=some a109:=by kernel_rfl
def a110:AFn:=⟨(ql (yc [yR 2 (.bool false)]) (ql (yc [yL 3 0,⟨yg,yh 4,qC .neq (.t 3) (.k (.int .i64 3))⟩,yL 2 4]) qq)),5,[.tmp 2]⟩
theorem z7w3:zsjc P Tryz.f110=some a110:=by kernel_rfl
def a83:AFn:=⟨(ql (yc [yZ 3 0,⟨yg,yh 6,qR [.nils,.nils,(.int .i64 0)]⟩,yR 7 (.int .i64 0)]) (ql (yc [yM 8 3 true 3,yL 9 1,yL 10 2,⟨yg,yh 11,qf (.k (.fn (.func 109) [] [])) [.t 8,.t 9,.t 10,(.k (.int .i64 3)),(.k (.fn (.func 110) [] []))]⟩,yP 12 11 0,yP 13 11 1,ya 3 6 12,yL 7 13]) qq)),14,[.cell 6 3 true,.tmp 7]⟩
theorem z6eh:zsjc P Tryz.f83=some a83:=by kernel_rfl
end
section
def z5j4:ACode :=
 (.seq (.seq (.region false [⟨none,(some 6),.mov (.t 5)⟩,
  ⟨none,(some 7),.mov (.t 0)⟩,
  ⟨none,(some 8),.len (.t 7)⟩,
  ⟨none,(some 9),.bin .lss (.t 6) (.t 8)⟩])
 (.cond (.t 9) .skip
 (.exit 0)))
 (.seq (.block 1 (.seq (.region true [⟨none,(some 12),.mov (.t 0)⟩,
  ⟨none,(some 13),.mov (.t 5)⟩,
  ⟨none,(some 14),.idxS 32 (.t 12) (.t 13)⟩,
  ⟨none,(some 15),.load 32 true (.t 14)⟩,
  ⟨none,(some 16),.load 32 true (.t 3)⟩,
  ⟨none,(some 17),.eqa false [(32,0)] (.t 15) (.t 16)⟩])
 (.cond (.t 17) (.seq (.region false [⟨none,(some 4),.mov (.k (.bool true))⟩])
 .ret)
 .skip)))
 (.region false [⟨none,(some 10),.mov (.t 5)⟩,
  ⟨none,(some 11),.bin .add (.t 10) (.k (.int .i64 1))⟩,
  ⟨none,(some 5),.mov (.t 11)⟩])))
def zudq (x0 x3 x5:DV) (h:List AObj):St:=⟨[x0,.junk,.junk,x3,.junk,x5]++js 12,h⟩
def a50:AFn:=⟨(ql (yc [yZ 3 1,yR 4 (.bool false)]) (ql (ql (yc [yR 5 (.int .i64 0)]) (qn 0 (qo z5j4))) (ql (yc [yR 4 (.bool false)]) qq))),18,[.tmp 4]⟩
theorem z12y:zsjc P Tryz.f50=some a50:=by kernel_rfl
def z8ds:ACode :=
 (.seq (.seq (.region false [⟨none,(some 11),.mov (.t 5)⟩,
  ⟨none,(some 12),.mov (.t 0)⟩,
  ⟨none,(some 13),.len (.t 12)⟩,
  ⟨none,(some 14),.bin .lss (.t 11) (.t 13)⟩])
 (.cond (.t 14) .skip
 (.exit 0)))
 (.seq (.block 1 (.seq (.region true [⟨none,(some 17),.mov (.t 0)⟩,
  ⟨none,(some 18),.mov (.t 5)⟩,
  ⟨none,(some 19),.idxS 32 (.t 17) (.t 18)⟩,
  ⟨none,(some 20),.load 32 true (.t 19)⟩,
  ⟨none,(some 21),.mov (.t 1)⟩,
  ⟨none,(some 22),.mov (.t 5)⟩,
  ⟨none,(some 23),.idxS 32 (.t 21) (.t 22)⟩,
  ⟨none,(some 24),.load 32 true (.t 23)⟩,
  ⟨none,(some 25),.eqa true [(32,0)] (.t 20) (.t 24)⟩])
 (.cond (.t 25) (.seq (.region false [⟨none,(some 4),.mov (.k (.bool false))⟩])
 .ret)
 .skip)))
 (.region false [⟨none,(some 15),.mov (.t 5)⟩,
  ⟨none,(some 16),.bin .add (.t 15) (.k (.int .i64 1))⟩,
  ⟨none,(some 5),.mov (.t 16)⟩])))
def zhq0 (x0 x1 x5:DV) (h:List AObj):St:=⟨[x0,x1,.junk,.junk,.junk,x5]++js 20,h⟩
def a94:AFn:=⟨(ql (yc [yR 4 (.bool false)]) (ql (ql (yc [yL 6 0,yS 7 6,yL 8 1,yS 9 8,yO 10 .neq 7 9]) (yd 10 (ql (yc [yR 4 (.bool false)]) qq) qj)) (ql (ql (yc [yR 5 (.int .i64 0)]) (qn 0 (qo z8ds))) (ql (yc [yR 4 (.bool true)]) qq)))),26,[.tmp 4]⟩
theorem ziuh:zsjc P Tryz.f94=some a94:=by kernel_rfl
def a96:AFn:=⟨(ql (yc [yR 2 (.bool false)]) (ql (yc [yL 3 0,⟨yg,yh 4,qC .geq (.t 3) (.k (.int .i64 0))⟩,yL 5 4,⟨yh (5,true),yh 6,qA (.t 0)⟩,⟨yh (5,true),yh 7,qC .leq (.t 6) (.k (.int .i64 1099511627776))⟩,yX 8 5 7,yL 2 8]) qq)),9,[.tmp 2]⟩
theorem z54d:zsjc P Tryz.f96=some a96:=by kernel_rfl
def zor5:ACode :=
 (.seq (.seq (.region false [⟨none,(some 54),.mov (.t 3)⟩,
  ⟨none,(some 55),.fld 5 (.t 1)⟩,
  ⟨none,(some 56),.load 1 false (.t 55)⟩,
  ⟨none,(some 57),.len (.t 56)⟩,
  ⟨none,(some 58),.bin .lss (.t 54) (.t 57)⟩])
 (.cond (.t 58) .skip
 (.exit 0)))
 (.seq (.block 1 (.seq (.region true [⟨none,(some 61),.fld 5 (.t 1)⟩,
  ⟨none,(some 62),.load 1 false (.t 61)⟩,
  ⟨none,(some 63),.mov (.t 3)⟩,
  ⟨none,(some 64),.idxS 32 (.t 62) (.t 63)⟩,
  ⟨none,(some 65),.load 32 true (.t 64)⟩,
  ⟨none,(some 66),.build (rep 32 (w8 0#8)) []⟩,
  ⟨none,(some 67),.eqa false [(32,0)] (.t 65) (.t 66)⟩,
  ⟨none,(some 68),.mov (.t 67)⟩,
  ⟨(some (68,false)),(some 69),.fld 5 (.t 1)⟩,
  ⟨(some (68,false)),(some 70),.load 1 false (.t 69)⟩,
  ⟨(some (68,false)),(some 71),.mov (.t 3)⟩,
  ⟨(some (68,false)),(some 72),.slcS 32 (.t 70) none (some (.t 71)) none⟩,
  ⟨(some (68,false)),(some 73),.fld 5 (.t 1)⟩,
  ⟨(some (68,false)),(some 74),.load 1 false (.t 73)⟩,
  ⟨(some (68,false)),(some 75),.mov (.t 3)⟩,
  ⟨(some (68,false)),(some 76),.idxS 32 (.t 74) (.t 75)⟩,
  ⟨(some (68,false)),(some 77),.load 32 true (.t 76)⟩,
  ⟨(some (68,false)),(some 78),.callN (.k (.fn (.func 50) [] [])) [(.t 72),(.t 77)]⟩,
  ⟨none,(some 79),.pick (.t 68) (.k (.bool true)) (.t 78)⟩])
 (.cond (.t 79) (.seq (.region false [⟨none,(some 2),.mov (.k (.bool false))⟩])
 .ret)
 .skip)))
 (.region false [⟨none,(some 59),.mov (.t 3)⟩,
  ⟨none,(some 60),.bin .add (.t 59) (.k (.int .i64 1))⟩,
  ⟨none,(some 3),.mov (.t 60)⟩])))
def zrp1 (x1 x3:DV) (h:List AObj):St:=⟨[.junk,x1,.junk,x3]++js 76,h⟩
def a59:AFn:=⟨(ql (yc [yZ 1 0,yR 2 (.bool false)]) (ql (ql (yc [yN 4 0 1,yM 5 1 false 4,yU 6 95 [.t 5],⟨yg,yh 7,qG .not (.t 6)⟩,yL 8 7,⟨yh (8,false),yh 9,qL 1 (.t 1)⟩,⟨yh (8,false),yh 10,qH 1 false (.t 9)⟩,⟨yh (8,false),yh 11,qf (.k (.fn (.func 95) [] [])) [.t 10]⟩,⟨yh (8,false),yh 12,qG .not (.t 11)⟩,yY 13 8 12,yL 14 13,⟨yh (14,false),yh 15,qL 2 (.t 1)⟩,⟨yh (14,false),yh 16,qH 1 false (.t 15)⟩,⟨yh (14,false),yh 17,qC .lss (.t 16) (.k (.int .i64 0))⟩,yY 18 14 17,yL 19 18,⟨yh (19,false),yh 20,qL 2 (.t 1)⟩,⟨yh (19,false),yh 21,qH 1 false (.t 20)⟩,⟨yh (19,false),yh 22,qC .gtr (.t 21) (.k (.int .i64 8))⟩,yY 23 19 22,yL 24 23,⟨yh (24,false),yh 25,qL 3 (.t 1)⟩,⟨yh (24,false),yh 26,qH 1 false (.t 25)⟩,⟨yh (24,false),yh 27,qC .lss (.t 26) (.k (.int .i64 0))⟩,yY 28 24 27,yL 29 28,⟨yh (29,false),yh 30,qL 3 (.t 1)⟩,⟨yh (29,false),yh 31,qH 1 false (.t 30)⟩,⟨yh (29,false),yh 32,qL 2 (.t 1)⟩,⟨yh (29,false),yh 33,qH 1 false (.t 32)⟩,⟨yh (29,false),yh 34,qC .gtr (.t 31) (.t 33)⟩,yY 35 29 34,yL 36 35,⟨yh (36,false),yh 37,qL 4 (.t 1)⟩,⟨yh (36,false),yh 38,qH 1 false (.t 37)⟩,⟨yh (36,false),yh 39,qC .lss (.t 38) (.k (.int .i64 0))⟩,yY 40 36 39,yL 41 40,⟨yh (41,false),yh 42,qL 4 (.t 1)⟩,⟨yh (41,false),yh 43,qH 1 false (.t 42)⟩,⟨yh (41,false),yh 44,qL 2 (.t 1)⟩,⟨yh (41,false),yh 45,qH 1 false (.t 44)⟩,⟨yh (41,false),yh 46,qC .gtr (.t 43) (.t 45)⟩,yY 47 41 46,yL 48 47,⟨yh (48,false),yh 49,qL 5 (.t 1)⟩,⟨yh (48,false),yh 50,qH 1 false (.t 49)⟩,⟨yh (48,false),yh 51,qV (.t 50)⟩,⟨yh (48,false),yh 52,qC .gtr (.t 51) (.k (.int .i64 6))⟩,yY 53 48 52]) (yd 53 (ql (yc [yR 2 (.bool false)]) qq) qj)) (ql (ql (yc [yR 3 (.int .i64 0)]) (qn 0 (qo zor5))) (ql (yc [yR 2 (.bool true)]) qq)))),80,[.tmp 2]⟩
theorem zwsz:zsjc P Tryz.f59=some a59:=by kernel_rfl
def a61:AFn:=⟨(ql (yc [yZ 2 0,yZ 3 1,yR 4 (.bool false)]) (ql (yc [yN 5 0 3,yM 6 1 false 5,⟨yg,yh 7,qC .geq (.t 6) (.k (.int .i64 1))⟩,yL 8 7,⟨yh (8,true),yh 9,qL 0 (.t 3)⟩,⟨yh (8,true),yh 10,qH 1 false (.t 9)⟩,⟨yh (8,true),yh 11,qL 2 (.t 2)⟩,⟨yh (8,true),yh 12,qH 1 false (.t 11)⟩,⟨yh (8,true),yh 13,qC .lss (.t 10) (.t 12)⟩,yX 14 8 13,yL 15 14,⟨yh (15,true),yh 16,qL 1 (.t 3)⟩,⟨yh (15,true),yh 17,qH 1 false (.t 16)⟩,⟨yh (15,true),yh 18,qC .geq (.t 17) (.k (.int .i64 0))⟩,yX 19 15 18,yL 20 19,⟨yh (20,true),yh 21,qL 1 (.t 3)⟩,⟨yh (20,true),yh 22,qH 1 false (.t 21)⟩,⟨yh (20,true),yh 23,qL 0 (.t 2)⟩,⟨yh (20,true),yh 24,qH 1 false (.t 23)⟩,⟨yh (20,true),yh 25,qV (.t 24)⟩,⟨yh (20,true),yh 26,qC .lss (.t 22) (.t 25)⟩,yX 27 20 26,yL 28 27,⟨yh (28,true),yh 29,qL 2 (.t 3)⟩,⟨yh (28,true),yh 30,qH 32 true (.t 29)⟩,⟨yh (28,true),yh 31,qT (rep 32 (w8 0#8)) []⟩,⟨yh (28,true),yh 32,qD true [(32,0)] (.t 30) (.t 31)⟩,yX 33 28 32,yL 34 33,⟨yh (34,true),yh 35,qL 34 (.t 3)⟩,⟨yh (34,true),yh 36,qH 1 false (.t 35)⟩,⟨yh (34,true),yh 37,qC .geq (.t 36) (.k (.int .i64 1))⟩,yX 38 34 37,yL 39 38,⟨yh (39,true),yh 40,qL 34 (.t 3)⟩,⟨yh (39,true),yh 41,qH 1 false (.t 40)⟩,⟨yh (39,true),yh 42,qC .leq (.t 41) (.k (.int .i64 3))⟩,yX 43 39 42,yL 44 43,⟨yh (44,true),yh 45,qL 35 (.t 3)⟩,⟨yh (44,true),yh 46,qH 1 false (.t 45)⟩,⟨yh (44,true),yh 47,qf (.k (.fn (.func 96) [] [])) [.t 46]⟩,yX 48 44 47,yL 49 48,⟨yh (49,true),yh 50,qL 36 (.t 3)⟩,⟨yh (49,true),yh 51,qH 1 false (.t 50)⟩,⟨yh (49,true),yh 52,qC .geq (.t 51) (.k (.int .i64 (-1)))⟩,yX 53 49 52,yL 54 53,⟨yh (54,true),yh 55,qL 36 (.t 3)⟩,⟨yh (54,true),yh 56,qH 1 false (.t 55)⟩,⟨yh (54,true),yh 57,qC .leq (.t 56) (.k (.int .i64 1099511627776))⟩,yX 58 54 57,yL 4 58]) qq)),59,[.tmp 4]⟩
theorem zuuw:zsjc P Tryz.f61=some a61:=by kernel_rfl
def zpik:ACode :=
 (.seq (.seq (.region false [⟨none,(some 25),.mov (.t 3)⟩,
  ⟨none,(some 26),.fld 0 (.t 1)⟩,
  ⟨none,(some 27),.load 1 false (.t 26)⟩,
  ⟨none,(some 28),.len (.t 27)⟩,
  ⟨none,(some 29),.bin .lss (.t 25) (.t 28)⟩])
 (.cond (.t 29) .skip
 (.exit 0)))
 (.seq (.block 1 (.seq (.region true [⟨none,(some 32),.fld 0 (.t 1)⟩,
  ⟨none,(some 33),.load 1 false (.t 32)⟩,
  ⟨none,(some 34),.mov (.t 3)⟩,
  ⟨none,(some 35),.idxS 6 (.t 33) (.t 34)⟩,
  ⟨none,(some 36),.load 6 true (.t 35)⟩,
  ⟨none,(some 37),.callN (.k (.fn (.func 59) [] [])) [(.t 36)]⟩,
  ⟨none,(some 38),.un .not (.t 37)⟩,
  ⟨none,(some 39),.mov (.t 38)⟩,
  ⟨(some (39,false)),(some 40),.load 3 true (.t 1)⟩,
  ⟨(some (39,false)),(some 41),.fld 0 (.t 1)⟩,
  ⟨(some (39,false)),(some 42),.load 1 false (.t 41)⟩,
  ⟨(some (39,false)),(some 43),.mov (.t 3)⟩,
  ⟨(some (39,false)),(some 44),.idxS 6 (.t 42) (.t 43)⟩,
  ⟨(some (39,false)),(some 45),.fld 0 (.t 44)⟩,
  ⟨(some (39,false)),(some 46),.load 1 false (.t 45)⟩,
  ⟨(some (39,false)),(some 47),.fld 0 (.t 1)⟩,
  ⟨(some (39,false)),(some 48),.load 1 false (.t 47)⟩,
  ⟨(some (39,false)),(some 49),.mov (.t 3)⟩,
  ⟨(some (39,false)),(some 50),.idxS 6 (.t 48) (.t 49)⟩,
  ⟨(some (39,false)),(some 51),.fld 1 (.t 50)⟩,
  ⟨(some (39,false)),(some 52),.load 1 false (.t 51)⟩,
  ⟨(some (39,false)),(some 54),.mov (.t 3)⟩,
  ⟨(some (39,false)),(some 53),.callN (.k (.fn (.func 60) [] [])) [(.t 40),(.t 46),(.t 52)]⟩,
  ⟨(some (39,false)),(some 55),.bin .neq (.t 53) (.t 54)⟩,
  ⟨none,(some 56),.pick (.t 39) (.k (.bool true)) (.t 55)⟩])
 (.cond (.t 56) (.seq (.region false [⟨none,(some 2),.mov (.k (.bool false))⟩])
 .ret)
 .skip)))
 (.region false [⟨none,(some 30),.mov (.t 3)⟩,
  ⟨none,(some 31),.bin .add (.t 30) (.k (.int .i64 1))⟩,
  ⟨none,(some 3),.mov (.t 31)⟩])))
def z4rh (x1 x3:DV) (h:List AObj):St:=⟨[.junk,x1,.junk,x3]++js 88,h⟩
def zjn5:ACode :=
 (.seq (.seq (.region false [⟨none,(some 57),.mov (.t 4)⟩,
  ⟨none,(some 58),.fld 1 (.t 1)⟩,
  ⟨none,(some 59),.load 1 false (.t 58)⟩,
  ⟨none,(some 60),.len (.t 59)⟩,
  ⟨none,(some 61),.bin .lss (.t 57) (.t 60)⟩])
 (.cond (.t 61) .skip
 (.exit 2)))
 (.seq (.block 3 (.seq (.region true [⟨none,(some 64),.load 3 true (.t 1)⟩,
  ⟨none,(some 65),.fld 1 (.t 1)⟩,
  ⟨none,(some 66),.load 1 false (.t 65)⟩,
  ⟨none,(some 67),.mov (.t 4)⟩,
  ⟨none,(some 68),.idxS 37 (.t 66) (.t 67)⟩,
  ⟨none,(some 69),.load 37 true (.t 68)⟩,
  ⟨none,(some 70),.callN (.k (.fn (.func 61) [] [])) [(.t 64),(.t 69)]⟩,
  ⟨none,(some 71),.un .not (.t 70)⟩,
  ⟨none,(some 72),.mov (.t 71)⟩,
  ⟨(some (72,false)),(some 73),.mov (.t 4)⟩,
  ⟨(some (72,false)),(some 74),.bin .gtr (.t 73) (.k (.int .i64 0))⟩,
  ⟨(some (72,false)),(some 75),.mov (.t 74)⟩,
  ⟨(some (75,true)),(some 76),.fld 1 (.t 1)⟩,
  ⟨(some (75,true)),(some 77),.load 1 false (.t 76)⟩,
  ⟨(some (75,true)),(some 78),.mov (.t 4)⟩,
  ⟨(some (75,true)),(some 79),.bin .sub (.t 78) (.k (.int .i64 1))⟩,
  ⟨(some (75,true)),(some 80),.idxS 37 (.t 77) (.t 79)⟩,
  ⟨(some (75,true)),(some 81),.fld 0 (.t 80)⟩,
  ⟨(some (75,true)),(some 82),.load 1 false (.t 81)⟩,
  ⟨(some (75,true)),(some 83),.fld 1 (.t 1)⟩,
  ⟨(some (75,true)),(some 84),.load 1 false (.t 83)⟩,
  ⟨(some (75,true)),(some 85),.mov (.t 4)⟩,
  ⟨(some (75,true)),(some 86),.idxS 37 (.t 84) (.t 85)⟩,
  ⟨(some (75,true)),(some 87),.fld 0 (.t 86)⟩,
  ⟨(some (75,true)),(some 88),.load 1 false (.t 87)⟩,
  ⟨(some (75,true)),(some 89),.bin .geq (.t 82) (.t 88)⟩,
  ⟨(some (72,false)),(some 90),.pick (.t 75) (.t 89) (.k (.bool false))⟩,
  ⟨none,(some 91),.pick (.t 72) (.k (.bool true)) (.t 90)⟩])
 (.cond (.t 91) (.seq (.region false [⟨none,(some 2),.mov (.k (.bool false))⟩])
 .ret)
 .skip)))
 (.region false [⟨none,(some 62),.mov (.t 4)⟩,
  ⟨none,(some 63),.bin .add (.t 62) (.k (.int .i64 1))⟩,
  ⟨none,(some 4),.mov (.t 63)⟩])))
def zk3w (x1 x4:DV) (h:List AObj):St:=⟨[.junk,x1,.junk,.junk,x4]++js 87,h⟩
def a29:AFn:=⟨(ql (yc [yZ 1 0,yR 2 (.bool false)]) (ql (ql (yc [yN 5 0 1,yM 6 1 false 5,yS 7 6,⟨yg,yh 8,qC .gtr (.t 7) (.k (.int .i64 16))⟩,yL 9 8,⟨yh (9,false),yh 10,qL 1 (.t 1)⟩,⟨yh (9,false),yh 11,qH 1 false (.t 10)⟩,⟨yh (9,false),yh 12,qV (.t 11)⟩,⟨yh (9,false),yh 13,qC .gtr (.t 12) (.k (.int .i64 200))⟩,yY 14 9 13,yL 15 14,⟨yh (15,false),yh 16,qL 2 (.t 1)⟩,⟨yh (15,false),yh 17,qH 1 false (.t 16)⟩,⟨yh (15,false),yh 18,qC .lss (.t 17) (.k (.int .i64 1))⟩,yY 19 15 18,yL 20 19,⟨yh (20,false),yh 21,qL 2 (.t 1)⟩,⟨yh (20,false),yh 22,qH 1 false (.t 21)⟩,⟨yh (20,false),yh 23,qC .gtr (.t 22) (.k (.int .i64 1099511627776))⟩,yY 24 20 23]) (yd 24 (ql (yc [yR 2 (.bool false)]) qq) qj)) (ql (ql (yc [yR 3 (.int .i64 0)]) (qn 0 (qo zpik))) (ql (ql (yc [yR 4 (.int .i64 0)]) (qn 2 (qo zjn5))) (ql (yc [yR 2 (.bool true)]) qq))))),92,[.tmp 2]⟩
theorem ztig:zsjc P Tryz.f29=some a29:=by kernel_rfl
def zm5a:ACode :=
 (.seq (.seq (.region false [⟨none,(some 8),.mov (.t 7)⟩,
  ⟨none,(some 9),.fld 0 (.t 3)⟩,
  ⟨none,(some 10),.load 1 false (.t 9)⟩,
  ⟨none,(some 11),.len (.t 10)⟩,
  ⟨none,(some 12),.bin .lss (.t 8) (.t 11)⟩])
 (.cond (.t 12) .skip
 (.exit 0)))
 (.seq (.block 1 (.seq (.region false [⟨none,(some 15),.fld 0 (.t 3)⟩,
  ⟨none,(some 16),.load 1 false (.t 15)⟩,
  ⟨none,(some 17),.mov (.t 7)⟩,
  ⟨none,(some 18),.idxS 6 (.t 16) (.t 17)⟩,
  ⟨none,(some 19),.fld 0 (.t 18)⟩,
  ⟨none,(some 20),.load 1 false (.t 19)⟩,
  ⟨none,(some 21),.mov (.t 1)⟩,
  ⟨none,(some 22),.bin .eql (.t 20) (.t 21)⟩,
  ⟨none,(some 23),.mov (.t 22)⟩,
  ⟨(some (23,true)),(some 24),.fld 0 (.t 3)⟩,
  ⟨(some (23,true)),(some 25),.load 1 false (.t 24)⟩,
  ⟨(some (23,true)),(some 26),.mov (.t 7)⟩,
  ⟨(some (23,true)),(some 27),.idxS 6 (.t 25) (.t 26)⟩,
  ⟨(some (23,true)),(some 28),.fld 1 (.t 27)⟩,
  ⟨(some (23,true)),(some 29),.load 1 false (.t 28)⟩,
  ⟨(some (23,true)),(some 30),.mov (.t 2)⟩,
  ⟨(some (23,true)),(some 31),.bin .eql (.t 29) (.t 30)⟩,
  ⟨none,(some 32),.pick (.t 23) (.t 31) (.k (.bool false))⟩])
 (.cond (.t 32) (.seq (.region false [⟨none,(some 33),.mov (.t 7)⟩,
  ⟨none,(some 6),.mov (.t 33)⟩])
 .ret)
 .skip)))
 (.region false [⟨none,(some 13),.mov (.t 7)⟩,
  ⟨none,(some 14),.bin .add (.t 13) (.k (.int .i64 1))⟩,
  ⟨none,(some 7),.mov (.t 14)⟩])))
def zw1i (x1 x2 x3 x7:DV) (h:List AObj):St:=⟨[.junk,x1,x2,x3,.junk,.junk,.junk,x7]++js 26,h⟩
def a60:AFn:=⟨(ql (yc [yZ 3 0,yR 6 (.int .i64 0)]) (ql (ql (yc [yR 7 (.int .i64 0)]) (qn 0 (qo zm5a))) (ql (yc [yR 6 (.int .i64 (-1))]) qq))),34,[.tmp 6]⟩
theorem z6e9:zsjc P Tryz.f60=some a60:=by kernel_rfl
def zk9n:ACode :=
 (.seq (.seq (.region false [⟨none,(some 6),.mov (.t 5)⟩,
  ⟨none,(some 7),.fld 1 (.t 2)⟩,
  ⟨none,(some 8),.load 1 false (.t 7)⟩,
  ⟨none,(some 9),.len (.t 8)⟩,
  ⟨none,(some 10),.bin .lss (.t 6) (.t 9)⟩])
 (.cond (.t 10) .skip
 (.exit 0)))
 (.seq (.block 1 (.seq (.region false [⟨none,(some 13),.fld 1 (.t 2)⟩,
  ⟨none,(some 14),.load 1 false (.t 13)⟩,
  ⟨none,(some 15),.mov (.t 5)⟩,
  ⟨none,(some 16),.idxS 37 (.t 14) (.t 15)⟩,
  ⟨none,(some 17),.fld 0 (.t 16)⟩,
  ⟨none,(some 18),.load 1 false (.t 17)⟩,
  ⟨none,(some 19),.mov (.t 1)⟩,
  ⟨none,(some 20),.bin .eql (.t 18) (.t 19)⟩])
 (.cond (.t 20) (.seq (.region false [⟨none,(some 21),.mov (.t 5)⟩,
  ⟨none,(some 4),.mov (.t 21)⟩])
 .ret)
 .skip)))
 (.region false [⟨none,(some 11),.mov (.t 5)⟩,
  ⟨none,(some 12),.bin .add (.t 11) (.k (.int .i64 1))⟩,
  ⟨none,(some 5),.mov (.t 12)⟩])))
def zd5d (x1 x2 x5:DV) (h:List AObj):St:=⟨[.junk,x1,x2,.junk,.junk,x5]++js 16,h⟩
def a30:AFn:=⟨(ql (yc [yZ 2 0,yR 4 (.int .i64 0)]) (ql (ql (yc [yR 5 (.int .i64 0)]) (qn 0 (qo zk9n))) (ql (yc [yR 4 (.int .i64 (-1))]) qq))),22,[.tmp 4]⟩
theorem z3f8:zsjc P Tryz.f30=some a30:=by kernel_rfl
def a97:AFn:=⟨(ql (yc [yZ 1 0,⟨yg,yh 2,qR [.nils,.nils,(.int .i64 0)]⟩]) (ql (qk true [yN 3 0 1,yM 4 1 false 3,⟨yg,yh 5,qX 6 80 (.k .nils) (.t 4)⟩,yN 6 1 1,yM 7 1 false 6,⟨yg,yh 8,qX 37 72 (.k .nils) (.t 7)⟩,yN 9 2 1,yM 10 1 false 9,⟨yg,yh 11,qT [.nils,.nils,(.int .i64 0)] [(0,1,(.t 5)),(1,1,(.t 8)),(2,1,(.t 10))]⟩,ya 3 2 11,⟨yg,yg,qZ (.t 1) (.t 5)⟩,⟨yg,yg,qZ (.t 6) (.t 5)⟩,⟨yg,yg,qZ (.t 1) (.t 5)⟩,⟨yg,yg,qZ (.t 9) (.t 5)⟩,⟨yg,yg,qZ (.t 1) (.t 8)⟩,⟨yg,yg,qZ (.t 9) (.t 8)⟩]) qq)),12,[.cell 2 3 true]⟩
theorem z0a8:zsjc P Tryz.f97=some a97:=by kernel_rfl
def a65:AFn:=⟨(ql (yc [yZ 2 0,yZ 3 1,⟨yg,yh 4,qR [.nils,.nils,(.int .i64 0)]⟩,yR 5 (.int .i64 0)]) (ql (ql (yc [yM 8 3 true 2,yU 9 29 [.t 8],⟨yg,yh 10,qG .not (.t 9)⟩,yL 11 10,⟨yh (11,false),yh 12,qH 6 true (.t 3)⟩,⟨yh (11,false),yh 13,qf (.k (.fn (.func 59) [] [])) [.t 12]⟩,⟨yh (11,false),yh 14,qG .not (.t 13)⟩,yY 15 11 14]) (yd 15 (ql (yc [⟨yg,yh 16,qT [.nils,.nils,(.int .i64 0)] []⟩,ya 3 4 16,yR 5 (.int .i64 1)]) qq) qj)) (ql (qk true [yM 17 3 true 2,yM 19 3 true 2,yN 20 0 3,yM 21 1 false 20,yN 22 1 3,yM 23 1 false 22,yV 18 97 [.t 17],yV 24 60 [.t 19,.t 21,.t 23],⟨yg,yh 6,qR [.nils,.nils,(.int .i64 0)]⟩,ya 3 6 18,yL 7 24]) (ql (ql (yc [yL 25 7,⟨yg,yh 26,qC .geq (.t 25) (.k (.int .i64 0))⟩]) (yd 26 (ql (yc [yN 27 0 6,yM 28 1 false 27,yL 29 7,yM 30 6 true 3,yQ 31 6 28 29,ya 6 31 30]) (ql (yc [yM 32 3 true 6,ya 3 4 32,yR 5 (.int .i64 0)]) qq)) qj)) (ql (ql (yc [yN 33 0 2,yM 34 1 false 33,yS 35 34,⟨yg,yh 36,qC .geq (.t 35) (.k (.int .i64 16))⟩]) (yd 36 (ql (yc [⟨yg,yh 37,qT [.nils,.nils,(.int .i64 0)] []⟩,ya 3 4 37,yR 5 (.int .i64 3)]) qq) qj)) (ql (yc [yN 38 0 6,yM 39 1 false 38,yM 40 6 true 3,⟨yg,yh 41,qU 6 1 [(.str []),(.str []),(.int .i64 0),(.int .i64 0),(.int .i64 0),.nils] [(0,6,(.t 40))]⟩,⟨yg,yh 42,qX 6 80 (.t 39) (.t 41)⟩,yN 43 0 6,ya 1 43 42]) (ql (yc [yM 44 3 true 6,ya 3 4 44,yR 5 (.int .i64 0)]) qq))))))),45,[.cell 4 3 true,.tmp 5]⟩
theorem zh04:zsjc P Tryz.f65=some a65:=by kernel_rfl
end
section
theorem z1ch {α:Type} {f:α→List DV} {s:Nat} (hu : ∀ a,(f a).length=s) (h0:0<s) (hi : ∀ a b,f a=f b→a=b) : ∀ {l l':List α},l.flatMap f=l'.flatMap f→l=l'
 | [],[],_=>rfl
 | [],b::l',e=>by have:=congrArg List.length e; simp [hu] at this; omega
 | a::l,[],e=>by have:=congrArg List.length e; simp [hu] at this; omega
 | a::l,b::l',e=>by
  rw [y01,y01] at e;have:=List.append_inj e (by rw [hu,hu])
  rw [hi _ _ this.1,z1ch hu h0 hi this.2]
theorem zcq7 {α:Type} {f:α→List DV} {s:Nat} (hu : ∀ a,(f a).length=s) (h0:0<s) (hi : ∀ a b,f a=f b→a=b) {x y:Sl α} (e:x.dv s f=y.dv s f):x=y:=by
 obtain ⟨k,l,h,i⟩:=x;obtain ⟨c,j,d,g⟩:=y;cases k with
 | none =>
  cases c with
  | none=>cases h rfl; cases d rfl; rfl
  | some b=>simp [Sl.dv,slD] at e
 | some b =>
  cases c with
  | none=>simp [Sl.dv,slD] at e
  | some b' =>
   simp only [Sl.dv,slD,DV.sl.injEq] at e;obtain ⟨rfl,_,_,e⟩:=e;cases z1ch hu h0 hi e
   rfl
theorem z42k {x y:Sl Dg} (e:x.dv 32 dgC=y.dv 32 dgC):x=y:=zcq7 z1t1 (by decide) (fun _ _=>zib9) e
theorem zs5w {a b:Grp} (e:grC a=grC b):a=b:=by
 obtain ⟨c,d,f,a4,a5,a6⟩:=a;obtain ⟨b1,b2,g,h,i,j⟩:=b;simp only [grC,List.cons.injEq,DV.str.injEq,DV.int.injEq,true_and,and_true] at e;obtain ⟨rfl,rfl,rfl,rfl,rfl,e⟩:=e;rw [z42k e]
theorem zpbj {a b:Ins} (e:inC a=inC b):a=b:=by
 have h:=zmar (x:=a) (y:=b);rw [← e,zmar] at h;simpa using h
theorem zh7t {a b:Clu} (e:clC a=clC b):a=b:=by
 obtain ⟨f,g,h⟩:=a;obtain ⟨b1,b2,i⟩:=b;simp only [clC,List.cons.injEq,DV.int.injEq,true_and,and_true] at e;obtain ⟨c,d,rfl⟩:=e;rw [zcq7 zry4 (by decide) (fun _ _=>zs5w) c,zcq7 z6gw (by decide) (fun _ _=>zpbj) d]
theorem zsn4 {α:Type} {f:α→List DV} {g:α→DV} (hi : ∀ a b,f a=f b→a=b) (a:α):con (fun _=>True) f g (f a)=some (g a):=zzno (fun a b e=>by rw [hi a b e]) a trivial
def ixDg (x:Sl Dg) (d:Dg):Int:=ixI (fun e=>decide (d=e)) x.l
def S100 (x:Sl Dg) (d:Dg) (i:Nat):St:=zes5 (x.dv 32 dgC) (.mp 0 32 0) (.int .i64 x.l.length) (.int .i64 i) [.cells (dgC d)]
theorem z178 (x:Sl Dg) (d:Dg):Runs tbl0 a77 [x.dv 32 dgC,.agg (dgC d)] (.int .i64 (ixDg x d)):=by
 refine ⟨?_⟩;have m:=x.b;simp (disch:=first|omega|simp<;>omega|fail) [-zE,a77];refine zlm5 (S100 x d) (fun i=>x.l.length-i) (fun i=>i≤x.l.length ∧ ∀ j (hj:j<x.l.length),j<i→decide (d=x.l[j])=false) 0 (yWS (by simp [-zE])) ⟨by omega,fun j _ hj=>by omega⟩ (fun i hi => ?_)
 obtain ⟨k,c⟩:=hi;simp (disch:=first|omega|simp<;>omega|fail) [-zE,zg0d,zes5,S100];by_cases h:i<x.l.length
 ·have a:(i:Int)<x.l.length:=by omega
  have g:=zalo (x:=x) (h:=[AObj.cells (dgC d)]) z1t1 h;by_cases e:d=x.l[i]
  ·have f:ixDg x d=i:=zy9u h (by simp [← e]) c
   simp (disch:=first|omega|simp<;>omega|fail) [-zE,a,h,g,← e,f]
  ·simp (disch:=first|omega|simp<;>omega|fail) [-zE,a,h,g,e];refine ⟨i+1,yWS (by simp [-zE]),by omega,by omega,fun j hj hji => ?_⟩
   by_cases ej:j=i
   ·subst ej; exact e
   ·simpa using c j hj (by omega)
 ·have a:¬ (i:Int)<x.l.length:=by omega
  have f:ixDg x d = -1:=zfki (fun j hj=>c j hj (by omega))
  simp (disch:=first|omega|simp<;>omega|fail) [-zE,h,a,f]
noncomputable def cDgs (g:Sl Dg→Dg→DV):List DV→Option DV:=con (fun _=>True) (fun p:Sl Dg × Dg=>[p.1.dv 32 dgC,.agg (dgC p.2)]) (fun p=>g p.1 p.2)
theorem ztlh {g:Sl Dg→Dg→DV} {x:Sl Dg} {d:Dg}:cDgs g [x.dv 32 dgC,.agg (dgC d)]=some (g x d) :=
 zsn4 (f:=fun p:Sl Dg × Dg=>[p.1.dv 32 dgC,.agg (dgC p.2)]) (by
  rintro ⟨a,b⟩ ⟨c,d⟩ e;simp only [List.cons.injEq,DV.agg.injEq,and_true] at e;rw [z42k e.1,zib9 e.2]) (x,d)
noncomputable def T100:Tbl:=addT 77 (.pure (cDgs fun x d => .int .i64 (ixDg x d))) tbl0
theorem zi1j:T100 77 = .pure (cDgs fun x d => .int .i64 (ixDg x d)):=by simp [T100]
theorem zntx:T100.Sound P:=z0rp (z2au fun p _=>zljw mix zr5o Tryz.func77 z20a (z178 p.1 p.2)) zr5o
theorem zlqg {x:Sl Dg} {d:Dg}:0≤ixDg x d↔d ∈ x.l:=by
 constructor
 ·intro h;obtain ⟨i,a,_,e,_⟩:=ziel h;simp at e;rw [e]; exact y0n a
 ·intro h;obtain ⟨i,a,e⟩:=List.getElem_of_mem h;have:=zkgb (fun e=>decide (d=e)) x.l
  by_cases hn:ixDg x d<0
  ·have:=z378 hn i a;simp [e] at this
  ·omega
def hasB (x:Sl Dg) (d:Dg):DV := .bool (decide (d ∈ x.l))
theorem zntt (x:Sl Dg) (d:Dg):Runs T100 a49 [x.dv 32 dgC,.agg (dgC d)] (hasB x d):=by
 refine ⟨?_⟩;simp (disch:=first|omega|simp<;>omega|fail) [-zE,a49,zi1j,ztlh,hasB,zlqg]
theorem zdh1 (g:Grp) (ns im:List UInt8):Runs tbl0 a149 [.agg (grC g),.ref [.str ns],.ref [.str im]] (.bool (fitG ns im g)):=by
 refine ⟨?_⟩;by_cases e:g.ns=ns
 ·simp (disch:=first|omega|simp<;>omega|fail) [-zE,a149,fitG,e]
 ·simp (disch:=first|omega|simp<;>omega|fail) [-zE,a149,fitG,e]
noncomputable def cGr1:List DV→Option DV:=con (fun _=>True) (fun p:Grp × List UInt8 × List UInt8=>[.agg (grC p.1),.ref [.str p.2.1],.ref [.str p.2.2]]) (fun p => .bool (fitG p.2.1 p.2.2 p.1))
theorem zpi1 {g:Grp} {ns im:List UInt8}:cGr1 [.agg (grC g),.ref [.str ns],.ref [.str im]]=some (.bool (fitG ns im g)) :=
 zsn4 (f:=fun p:Grp × List UInt8 × List UInt8=>[.agg (grC p.1),.ref [.str p.2.1],.ref [.str p.2.2]]) (by
  rintro ⟨a,b,c⟩ ⟨a',b',c'⟩ e;simp only [List.cons.injEq,DV.agg.injEq,DV.ref.injEq,DV.str.injEq,and_true] at e;rw [zs5w e.1,e.2.1,e.2.2]) (g,ns,im)
noncomputable def T101:Tbl:=addT 149 (.pure cGr1) tbl0
theorem zh4i:T101 149 = .pure cGr1:=by simp [T101]
theorem zq6f:T101.Sound P:=z0rp (z2au fun p _=>zljw mix zr5o Tryz.func149 zdm8 (zdh1 p.1 p.2.1 p.2.2)) zr5o
abbrev fG (ns im:List UInt8):DV := .fn (.func 149) [] [.ref [.str ns],.ref [.str im]]
def S101 (x:Sl Grp) (ns im:List UInt8) (i:Nat):St:=zht8 (x.dv 6 grC) (fG ns im) (.int .i64 x.l.length) (.int .i64 i) []
theorem zr1c (x:Sl Grp) (ns im:List UInt8):Runs T101 a148 [x.dv 6 grC,fG ns im] (.int .i64 (z9w0 x.l ns im)):=by
 refine ⟨?_⟩;have k:=x.b;simp (disch:=first|omega|simp<;>omega|fail) [-zE,a148];refine zlm5 (S101 x ns im) (fun i=>x.l.length-i) (fun i=>i≤x.l.length ∧ ∀ j (hj:j<x.l.length),j<i→fitG ns im x.l[j]=false) 0 (yWS (by simp [-zE])) ⟨by omega,fun j _ hj=>by omega⟩ (fun i hi => ?_)
 obtain ⟨g,c⟩:=hi;simp (disch:=first|omega|simp<;>omega|fail) [-zE,zjin,zht8,S101];by_cases h:i<x.l.length
 ·have a:(i:Int)<x.l.length:=by omega
  have f:=zalo (x:=x) (h:=[]) zry4 h;cases e:fitG ns im x.l[i] with
  | true =>
   have d:z9w0 x.l ns im=i:=zy9u h e c;simp (disch:=first|omega|simp<;>omega|fail) [-zE,a,h,f,zh4i,zpi1,e,d]
  | false =>
   simp (disch:=first|omega|simp<;>omega|fail) [-zE,a,h,f,zh4i,zpi1,e];refine ⟨i+1,yWS (by simp [-zE]),by omega,by omega,fun j hj hji => ?_⟩
   by_cases ej:j=i
   ·subst ej; exact e
   ·exact c j hj (by omega)
 ·have a:¬ (i:Int)<x.l.length:=by omega
  have d:z9w0 x.l ns im = -1:=zfki (fun j hj=>c j hj (by omega))
  simp (disch:=first|omega|simp<;>omega|fail) [-zE,h,a,d]
noncomputable def cIxG:List DV→Option DV:=con (fun _=>True) (fun p:Sl Grp × List UInt8 × List UInt8=>[p.1.dv 6 grC,fG p.2.1 p.2.2]) (fun p => .int .i64 (z9w0 p.1.l p.2.1 p.2.2))
theorem zhaz {x:Sl Grp} {ns im:List UInt8}:cIxG [x.dv 6 grC,fG ns im]=some (.int .i64 (z9w0 x.l ns im)) :=
 zsn4 (f:=fun p:Sl Grp × List UInt8 × List UInt8=>[p.1.dv 6 grC,fG p.2.1 p.2.2]) (by
  rintro ⟨a,b,c⟩ ⟨a',b',c'⟩ e;simp only [List.cons.injEq,DV.fn.injEq,DV.ref.injEq,DV.str.injEq,and_true,true_and] at e;rw [zcq7 zry4 (by decide) (fun _ _=>zs5w) e.1,e.2.1,e.2.2]) (x,ns,im)
noncomputable def T102:Tbl:=addT 148 (.pure cIxG) tbl0
theorem zyt6:T102 148 = .pure cIxG:=by simp [T102]
theorem z149:T102.Sound P:=z0rp (z2au fun p _=>zljw mix zq6f Tryz.func148 zy1q (zr1c p.1 p.2.1 p.2.2)) zr5o
theorem znxs {h:List AObj} {k:Nat} {f:Fn} {x y:DV}:snap h (k+1) (.fn f [] [x,y])=(snap h (k+1) x).bind fun a=>(snap h (k+1) y).map fun b => .fn f [] [a,b]:=by
 simp only [snap,zcxt,zoyo];cases zcxt _ x<;>simp only [y09,y0l]
 ·rfl
 ·cases zcxt _ y<;>rfl
theorem zxh4 {h:List AObj} {k:Nat} {f:Fn} {x:DV}:snap h (k+1) (.fn f [] [x])=(snap h (k+1) x).map fun y => .fn f [] [y]:=by
 simp only [snap,zcxt,zoyo];cases zcxt _ x<;>rfl
theorem zsqc {α:Type} {h:List AObj} {k s:Nat} {f:α→List DV} {x:Sl α} (hp : ∀ a,zbao (f a)=true):snap h k (x.dv s f)=some (x.dv s f):=z6nl (zxxb hp x)
theorem z7y9 {h:List AObj} {k:Nat} {x:Sl Dg}:snap h k (x.dv 32 dgC)=some (x.dv 32 dgC):=zsqc z3ot
theorem zpud {h:List AObj} {k:Nat} {x:Sl Grp}:snap h k (x.dv 6 grC)=some (x.dv 6 grC):=zsqc zxeb
theorem z347 {h:List AObj} {k:Nat} {x:Sl Ins}:snap h k (x.dv 37 inC)=some (x.dv 37 inC):=zsqc z9kv
theorem z3ju {h:List AObj} {k:Nat} {c:Clu}:z4tt h k (clC c)=some (clC c):=z619 (zy11 c)
theorem z8p0 {h:List AObj} {k:Nat} {c:Grp}:z4tt h k (grC c)=some (grC c):=z619 (zxeb c)
theorem zgd2 {h:List AObj} {k:Nat} {c:Ins}:z4tt h k (inC c)=some (inC c):=z619 (z9kv c)
theorem z3om {h:List AObj} {k:Nat} {c:Dg}:z4tt h k (dgC c)=some (dgC c):=z619 (z3ot c)
attribute [simp] znxs zxh4 z7y9 zpud z347 z3ju z8p0 zgd2 z3om
theorem zy3o (c:Clu) (ns im:List UInt8):Runs T102 a140 [.agg (clC c),.str ns,.str im] (.int .i64 (z9w0 c.g.l ns im)):=by
 refine ⟨?_⟩;simp (disch:=first|omega|simp<;>omega|fail) [-zE,a140,zyt6,zhaz]
theorem zytc (x:Ins) (id:Int):Runs tbl0 a108 [.agg (inC x),.ref [.int .i64 id]] (.bool (decide (x.id=id))):=by
 refine ⟨?_⟩;simp (disch:=first|omega|simp<;>omega|fail) [-zE,a108]
noncomputable def cFi1:List DV→Option DV:=con (fun _=>True) (fun p:Ins × Int=>[.agg (inC p.1),.ref [.int .i64 p.2]]) (fun p => .bool (decide (p.1.id=p.2)))
theorem zbqj {x:Ins} {id:Int}:cFi1 [.agg (inC x),.ref [.int .i64 id]]=some (.bool (decide (x.id=id))) :=
 zsn4 (f:=fun p:Ins × Int=>[.agg (inC p.1),.ref [.int .i64 p.2]]) (by
  rintro ⟨a,b⟩ ⟨a',b'⟩ e;simp only [List.cons.injEq,DV.agg.injEq,DV.ref.injEq,DV.int.injEq,and_true,true_and] at e;rw [zpbj e.1,e.2]) (x,id)
noncomputable def T103:Tbl:=addT 108 (.pure cFi1) tbl0
theorem z0q2:T103 108 = .pure cFi1:=by simp [T103]
theorem zmr5:T103.Sound P:=z0rp (z2au fun p _=>zljw mix zr5o Tryz.func108 zh50 (zytc p.1 p.2)) zr5o
abbrev fI (id:Int):DV := .fn (.func 108) [] [.ref [.int .i64 id]]
def S103 (x:Sl Ins) (id:Int) (i:Nat):St:=z4h4 (x.dv 37 inC) (fI id) (.int .i64 x.l.length) (.int .i64 i) []
theorem zxrr (x:Sl Ins) (id:Int):Runs T103 a107 [x.dv 37 inC,fI id] (.int .i64 (z092 x.l id)):=by
 refine ⟨?_⟩;have k:=x.b;simp (disch:=first|omega|simp<;>omega|fail) [-zE,a107];refine zlm5 (S103 x id) (fun i=>x.l.length-i) (fun i=>i≤x.l.length ∧ ∀ j (hj:j<x.l.length),j<i→decide (x.l[j].id=id)=false) 0 (yWS (by simp [-zE])) ⟨by omega,fun j _ hj=>by omega⟩ (fun i hi => ?_)
 obtain ⟨g,c⟩:=hi;simp (disch:=first|omega|simp<;>omega|fail) [-zE,z8wl,z4h4,S103];by_cases h:i<x.l.length
 ·have a:(i:Int)<x.l.length:=by omega
  have f:=zalo (x:=x) (h:=[]) z6gw h;by_cases e:x.l[i].id=id
  ·have d:z092 x.l id=i:=zy9u h (by simp [e]) c
   simp (disch:=first|omega|simp<;>omega|fail) [-zE,a,h,f,z0q2,zbqj,e,d]
  ·simp (disch:=first|omega|simp<;>omega|fail) [-zE,a,h,f,z0q2,zbqj,e];refine ⟨i+1,yWS (by simp [-zE]),by omega,by omega,fun j hj hji => ?_⟩
   by_cases ej:j=i
   ·subst ej; exact e
   ·simpa using c j hj (by omega)
 ·have a:¬ (i:Int)<x.l.length:=by omega
  have d:z092 x.l id = -1:=zfki (fun j hj=>c j hj (by omega))
  simp (disch:=first|omega|simp<;>omega|fail) [-zE,h,a,d]
noncomputable def cIxI:List DV→Option DV:=con (fun _=>True) (fun p:Sl Ins × Int=>[p.1.dv 37 inC,fI p.2]) (fun p => .int .i64 (z092 p.1.l p.2))
theorem z1a0 {x:Sl Ins} {id:Int}:cIxI [x.dv 37 inC,fI id]=some (.int .i64 (z092 x.l id)) :=
 zsn4 (f:=fun p:Sl Ins × Int=>[p.1.dv 37 inC,fI p.2]) (by
  rintro ⟨a,b⟩ ⟨a',b'⟩ e;simp only [List.cons.injEq,DV.fn.injEq,DV.ref.injEq,DV.int.injEq,and_true,true_and] at e;rw [zcq7 z6gw (by decide) (fun _ _=>zpbj) e.1,e.2]) (x,id)
noncomputable def T104:Tbl:=addT 107 (.pure cIxI) tbl0
theorem z2cd:T104 107 = .pure cIxI:=by simp [T104]
theorem zw83:T104.Sound P:=z0rp (z2au fun p _=>zljw mix zmr5 Tryz.func107 z38u (zxrr p.1 p.2)) zr5o
theorem z7dp (c:Clu) (id:Int):Runs T104 a82 [.agg (clC c),.int .i64 id] (.int .i64 (z092 c.i.l id)):=by
 refine ⟨?_⟩;simp (disch:=first|omega|simp<;>omega|fail) [-zE,a82,z2cd,z1a0]
end
section
theorem z4qz (t:Int):Runs tbl0 a130 [.int .i64 t] (.bool (tv (zcie t))):=by
 refine ⟨?_⟩;by_cases h0:0≤t
 ·by_cases h1:t≤1099511627776
  ·simp (disch:=first|omega|simp<;>omega|fail) [-zE,a130,h0,h1,zogs (show zcie t from ⟨h0,h1⟩)]
  ·simp (disch:=first|omega|simp<;>omega|fail) [-zE,a130,h0,h1,zewf (show ¬ zcie t from fun h=>h1 h.2)]
 ·simp (disch:=first|omega|simp<;>omega|fail) [-zE,a130,h0,zewf (show ¬ zcie t from fun h=>h0 h.1)]
noncomputable def cTm:List DV→Option DV
 | [.int .i64 t]=>some (.bool (tv (zcie t)))|_=>none
theorem zixp {t:Int}:cTm [.int .i64 t]=some (.bool (tv (zcie t))):=rfl
theorem zayt {f:Nat} (h : ∀ t,Am.Sem P f [.int .i64 t] (.bool (tv (zcie t)))):(Con.pure cTm).Sound P f:=by
 intro args v e;unfold cTm at e;split at e
 ·simp at e; subst e; exact h _
 ·simp at e
noncomputable def T105:Tbl:=addT 130 (.pure cTm) tbl0
theorem zuf2:T105 130 = .pure cTm:=by simp [T105]
theorem z3s1:T105.Sound P:=z0rp (zayt fun t=>zljw mix zr5o Tryz.func130 zndb (z4qz t)) zr5o
theorem zoxk {d:Dg}:(dgC d).all DV.one=true:=zzst
theorem zes9 {h:List AObj} {id:Nat} {d:Dg} {l:List DV} (hl:l.length=32):zy6o h id 32 0 (.agg (dgC d)) (some l)=some (.junk,h.set id (.cells (dgC d))):=zfc1 (z1t1 d) hl zzst
theorem zec3 {h:List AObj} {id:Nat} {x:Ins} {l:List DV} (hl:l.length=37):zy6o h id 37 0 (.agg (inC x)) (some l)=some (.junk,h.set id (.cells (inC x))):=zfc1 (z6gw x) hl (by simp only [inC,y0a,y0j,zoxk,zzmf,y0e,y0b])
theorem zm4y {h:List AObj} {id:Nat} {x:Grp} {l:List DV} (hl:l.length=6):zy6o h id 6 0 (.agg (grC x)) (some l)=some (.junk,h.set id (.cells (grC x))):=zfc1 (zry4 x) hl (by simp only [grC,y0a,zzmf,zxyr,z4ja,y0e,y0b])
theorem zpff {h:List AObj} {id:Nat} {x:Clu} {l:List DV} (hl:l.length=3):zy6o h id 3 0 (.agg (clC x)) (some l)=some (.junk,h.set id (.cells (clC x))):=zfc1 (zlha x) hl (by simp only [clC,y0a,zzmf,z4ja,y0e,y0b])
mutual
theorem z8b8 (n:Nat) : ∀ (d:DV),zyp8 d=true→Am.below n d=true
 | .agg cs,h=>by simp only [zyp8] at h; simp only [Am.below]; exact zmq5 n cs h
 | .tup cs,h=>by simp only [zyp8] at h; simp only [Am.below]; exact zmq5 n cs h
 | .sl _ _ _ cs,h=>by simp only [zyp8] at h; simp only [Am.below]; exact zmq5 n cs h
 | .ref cs,h=>by simp only [zyp8] at h; simp only [Am.below]; exact zmq5 n cs h
 | .fn _ a b,h=>by simp only [zyp8,y07] at h; simp only [Am.below,y07]; exact ⟨zmq5 n a h.1,zmq5 n b h.2⟩
 | .iface _ v,h=>by simp only [zyp8] at h; simp only [Am.below]; exact z8b8 n v h
 | .ms ..,h=>by simp [zyp8] at h
 | .mp ..,h=>by simp [zyp8] at h
 | .int ..,_=>rfl
 | .bool ..,_=>rfl
 | .str ..,_=>rfl
 | .nilp,_=>rfl
 | .nilm,_=>rfl
 | .nilf,_=>rfl
 | .nili,_=>rfl
 | .nils,_=>rfl
 | .junk,_=>rfl
theorem zmq5 (n:Nat) : ∀ (l:List DV),zbao l=true→belowL n l=true
 | [],_=>rfl
 | d::r,h=>by simp only [zbao,y07] at h; simp only [belowL,y07]; exact ⟨z8b8 n d h.1,zmq5 n r h.2⟩
end
theorem zni3 {n:Nat} {g:Grp}:belowL n (grC g)=true:=zmq5 n _ (zxeb g)
theorem zye5 {n:Nat} {g:Clu}:belowL n (clC g)=true:=zmq5 n _ (zy11 g)
theorem z9u0 {n:Nat} {g:Ins}:belowL n (inC g)=true:=zmq5 n _ (z9kv g)
theorem zbw6 {n:Nat} {g:Dg}:belowL n (dgC g)=true:=zmq5 n _ (z3ot g)
theorem z2h4 {n:Nat} {x:Sl Dg}:Am.below n (x.dv 32 dgC)=true:=z8b8 n _ (zpfc x)
theorem zb7c {n:Nat} {x:Sl Grp}:Am.below n (x.dv 6 grC)=true:=z8b8 n _ (z1vd x)
theorem zphd {n:Nat} {x:Sl Ins}:Am.below n (x.dv 37 inC)=true:=z8b8 n _ (zcha x)
attribute [simp] zni3 zye5 z9u0 zbw6 z2h4 zb7c zphd zes9 zec3 zm4y zpff
noncomputable abbrev zmtb (c:Clu) (x:Ins):DV := .bool (tv (SoundI c.g.l.length c.next x))
theorem zwmi (c:Clu) (x:Ins):Runs T105 a141 [.agg (clC c),.agg (inC x)] (zmtb c x):=by
 refine ⟨?_⟩;by_cases k0:1≤x.id
 case neg =>
  have a:¬ SoundI c.g.l.length c.next x:=fun h=>k0 h.id0
  simp (disch:=first|omega|simp<;>omega|fail) [-zE,a141,zuf2,zixp,zmtb,zewf a,k0]
 by_cases k1:x.id<c.next
 case neg =>
  have a:¬ SoundI c.g.l.length c.next x:=fun h=>k1 h.id1
  simp (disch:=first|omega|simp<;>omega|fail) [-zE,a141,zuf2,zixp,zmtb,zewf a,k0,k1]
 by_cases k2:0≤x.grp
 case neg =>
  have a:¬ SoundI c.g.l.length c.next x:=fun h=>k2 h.g0
  simp (disch:=first|omega|simp<;>omega|fail) [-zE,a141,zuf2,zixp,zmtb,zewf a,k0,k1,k2]
 by_cases k3:x.grp<c.g.l.length
 case neg =>
  have a:¬ SoundI c.g.l.length c.next x:=fun h=>k3 h.g1
  simp (disch:=first|omega|simp<;>omega|fail) [-zE,a141,zuf2,zixp,zmtb,zewf a,k0,k1,k2,k3]
 by_cases b:¬ x.art=dg0
 case neg =>
  have b:x.art=dg0:=Classical.not_not.1 b;have a:¬ SoundI c.g.l.length c.next x:=fun h=>h.art b
  simp (disch:=first|omega|simp<;>omega|fail) [-zE,a141,zuf2,zixp,zmtb,zewf a,k0,k1,k2,k3,b]
 by_cases k5:1≤x.state
 case neg =>
  have a:¬ SoundI c.g.l.length c.next x:=fun h=>k5 h.s0
  simp (disch:=first|omega|simp<;>omega|fail) [-zE,a141,zuf2,zixp,zmtb,zewf a,k0,k1,k2,k3,b,k5]
 by_cases k6:x.state≤3
 case neg =>
  have a:¬ SoundI c.g.l.length c.next x:=fun h=>k6 h.s1
  simp (disch:=first|omega|simp<;>omega|fail) [-zE,a141,zuf2,zixp,zmtb,zewf a,k0,k1,k2,k3,b,k5,k6]
 by_cases k7:zcie x.since
 case neg =>
  have a:¬ SoundI c.g.l.length c.next x:=fun h=>k7 h.si
  simp (disch:=first|omega|simp<;>omega|fail) [-zE,a141,zuf2,zixp,zmtb,zewf a,k0,k1,k2,k3,b,k5,k6,zewf k7]
 by_cases k8:x.den = -1
 ·have d:SoundI c.g.l.length c.next x:=⟨k0,k1,k2,k3,b,k5,k6,k7,.inl k8⟩;simp (disch:=first|omega|simp<;>omega|fail) [-zE,a141,zuf2,zixp,zmtb,zogs d,k0,k1,k2,k3,b,k5,k6,zogs k7,k8]
 by_cases k9:zcie x.den
 ·have d:SoundI c.g.l.length c.next x:=⟨k0,k1,k2,k3,b,k5,k6,k7,.inr k9⟩;simp (disch:=first|omega|simp<;>omega|fail) [-zE,a141,zuf2,zixp,zmtb,zogs d,k0,k1,k2,k3,b,k5,k6,zogs k7,k8,zogs k9]
 ·have a:¬ SoundI c.g.l.length c.next x:=fun h=>h.de.elim k8 k9
  simp (disch:=first|omega|simp<;>omega|fail) [-zE,a141,zuf2,zixp,zmtb,zewf a,k0,k1,k2,k3,b,k5,k6,zogs k7,k8,zewf k9]
noncomputable def T106:Tbl:=addT 147 (.pure (cS za1j)) (addT 49 (.pure (cDgs hasB)) tbl0)
theorem zic2:T106 147 = .pure (cS za1j):=by simp [T106]
theorem zqlq:T106 49 = .pure (cDgs hasB):=by simp [T106]
theorem z2gv:T106.Sound P:=z0rp (zzn8 fun s=>zljw mix zhpa Tryz.func147 z5yk (zqqw s)) (z0rp (z2au fun p _=>zljw mix zntx Tryz.func49 zdc4 (zntt p.1 p.2)) zr5o)
noncomputable abbrev zoy9 (g:Grp):DV := .bool (tv (ValidG g))
def S106 (g:Grp) (i:Nat):St:=zcir (.mp 0 6 0) (g.ch.dv 32 dgC) (.int .i64 g.ch.l.length) (.int .i64 i) [.cells (grC g)]
theorem zuuc {α:Type} {x:Sl α} {j:Nat} {b:Bool}:(x.part 0 j b).l=x.l.take j:=by simp [Sl.part]
theorem z78j {α:Type} {x:Sl α} {s:Nat} {f:α→List DV} {h:List AObj} (hu : ∀ a,(f a).length=s) {j:Nat} (hj:j≤x.l.length):z390 h s (x.dv s f) none (some (.int .i64 j)) none=some ((x.part 0 j (j == x.l.length)).dv s f) :=
 z0ke hu (by
  have h1:(j:Int)≤x.l.length:=by omega
  simp [zo77,iD,h1]) hj
theorem zzqf (g:Grp):Runs T106 a139 [.agg (grC g)] (zoy9 g):=by
 refine ⟨?_⟩;have z:=g.ch.b;by_cases k:zj1f g.ns=true
 case neg =>
  have a:¬ ValidG g:=fun h=>k h.ns
  have k:zj1f g.ns=false:=by simpa using k
  simp (disch:=first|omega|simp<;>omega|fail) [-zE,a139,zic2,zk5k,za1j,zoy9,zewf a,k]
 by_cases m:zj1f g.im=true
 case neg =>
  have a:¬ ValidG g:=fun h=>m h.im
  have m:zj1f g.im=false:=by simpa using m
  simp (disch:=first|omega|simp<;>omega|fail) [-zE,a139,zic2,zk5k,za1j,zoy9,zewf a,k,m]
 by_cases k2:0≤g.want
 case neg =>
  have a:¬ ValidG g:=fun h=>k2 h.w0
  have c:g.want<0:=by omega
  simp (disch:=first|omega|simp<;>omega|fail) [-zE,a139,zic2,zk5k,za1j,zoy9,zewf a,k,m,k2,c]
 have c:¬ g.want<0:=by omega
 by_cases k3:g.want≤8
 case neg =>
  have a:¬ ValidG g:=fun h=>k3 h.w1
  have d:8<g.want:=by omega
  simp (disch:=first|omega|simp<;>omega|fail) [-zE,a139,zic2,zk5k,za1j,zoy9,zewf a,k,m,k2,c,k3,d]
 have d:¬ 8<g.want:=by omega
 by_cases k4:0≤g.least
 case neg =>
  have a:¬ ValidG g:=fun h=>k4 h.l0
  have f:g.least<0:=by omega
  simp (disch:=first|omega|simp<;>omega|fail) [-zE,a139,zic2,zk5k,za1j,zoy9,zewf a,k,m,k2,c,k3,d,k4,f]
 have f:¬ g.least<0:=by omega
 by_cases k5:g.least≤g.want
 case neg =>
  have a:¬ ValidG g:=fun h=>k5 h.l1
  have o:g.want<g.least:=by omega
  simp (disch:=first|omega|simp<;>omega|fail) [-zE,a139,zic2,zk5k,za1j,zoy9,zewf a,k,m,k2,c,k3,d,k4,f,k5,o]
 have o:¬ g.want<g.least:=by omega
 by_cases k6:0≤g.down
 case neg =>
  have a:¬ ValidG g:=fun h=>k6 h.d0
  have p:g.down<0:=by omega
  simp (disch:=first|omega|simp<;>omega|fail) [-zE,a139,zic2,zk5k,za1j,zoy9,zewf a,k,m,k2,c,k3,d,k4,f,k5,o,k6,p]
 have p:¬ g.down<0:=by omega
 by_cases k7:g.down≤g.want
 case neg =>
  have a:¬ ValidG g:=fun h=>k7 h.d1
  have r:g.want<g.down:=by omega
  simp (disch:=first|omega|simp<;>omega|fail) [-zE,a139,zic2,zk5k,za1j,zoy9,zewf a,k,m,k2,c,k3,d,k4,f,k5,o,k6,p,k7,r]
 have r:¬ g.want<g.down:=by omega
 by_cases k8:g.ch.l.length≤6
 case neg =>
  have a:¬ ValidG g:=fun h=>k8 h.n
  have s:¬ (g.ch.l.length:Int)≤6:=by omega
  have q:(6:Int)<g.ch.l.length:=by omega
  simp (disch:=first|omega|simp<;>omega|fail) [-zE,a139,zic2,zk5k,za1j,zoy9,zewf a,k,m,k2,c,k3,d,k4,f,k5,o,k6,p,k7,r,k8,s,q]
 have s:(g.ch.l.length:Int)≤6:=by omega
 have q:¬ (6:Int)<g.ch.l.length:=by omega
 simp (disch:=first|omega|simp<;>omega|fail) [-zE,a139,zic2,zk5k,za1j,k,m,k2,c,k3,d,k4,f,k5,o,k6,p,k7,r,k8,s,q];refine zlm5 (S106 g) (fun i=>g.ch.l.length-i) (fun i=>i≤g.ch.l.length ∧ ∀ j (hj:j<g.ch.l.length),j<i→g.ch.l[j]≠dg0∧g.ch.l[j] ∉ g.ch.l.take j) 0 (yWS (by simp [-zE])) ⟨by omega,fun j _ hj=>by omega⟩ (fun i hi => ?_)
 obtain ⟨y,w⟩:=hi;simp (disch:=first|omega|simp<;>omega|fail) [-zE,z9lx,zcir,S106];by_cases h:i<g.ch.l.length
 ·have t:(i:Int)<g.ch.l.length:=by omega
  have v : ∀ H,zpsc H 32 (g.ch.dv 32 dgC) i=some (.ref (dgC g.ch.l[i])):=fun H=>zalo z1t1 h
  have u : ∀ H,z390 H 32 (g.ch.dv 32 dgC) none (some (.int .i64 i)) none=some ((g.ch.part 0 i (i == g.ch.l.length)).dv 32 dgC):=fun H=>z78j z1t1 (by omega)
  by_cases e:g.ch.l[i]=dg0
  ·have a:¬ ValidG g:=fun hv=>(hv.ch i h).1 e
   simp (disch:=first|omega|simp<;>omega|fail) [-zE,t,h,v,e,zoy9,zewf a]
  ·by_cases e2:g.ch.l[i] ∈ g.ch.l.take i
   ·have a:¬ ValidG g:=fun hv=>(hv.ch i h).2 e2
    simp (disch:=first|omega|simp<;>omega|fail) [-zE,t,h,v,u,e,zqlq,ztlh,hasB,zuuc,e2,zoy9,zewf a]
   ·simp (disch:=first|omega|simp<;>omega|fail) [-zE,t,h,v,u,e,zqlq,ztlh,hasB,zuuc,e2];refine ⟨i+1,zju2 (tail:=[.cells (dgC g.ch.l[i])]) (by simp (disch:=first|omega|simp<;>omega|fail) [-zE]) (by simp (disch:=first|omega|simp<;>omega|fail) [-zE]) (by simp (disch:=first|omega|simp<;>omega|fail) [-zE]) (by simp (disch:=first|omega|simp<;>omega|fail) [-zE,belowL,Am.below]) (by simp (disch:=first|omega|simp<;>omega|fail) [-zE,zlf2]),by omega,by omega,fun j hj hji => ?_⟩
    by_cases ej:j=i
    ·subst ej; exact ⟨e,e2⟩
    ·exact w j hj (by omega)
 ·have t:¬ (i:Int)<g.ch.l.length:=by omega
  have x:ValidG g:=⟨k,m,k2,k3,k4,k5,k6,k7,k8,fun j hj=>w j hj (by omega)⟩
  simp (disch:=first|omega|simp<;>omega|fail) [-zE,h,t,zoy9,zogs x]
noncomputable def cG1 (g:Grp→DV):List DV→Option DV:=con (fun _=>True) (fun x:Grp=>[.agg (grC x)]) g
theorem zoex {g:Grp→DV} {x:Grp}:cG1 g [.agg (grC x)]=some (g x) :=
 zsn4 (f:=fun x:Grp=>[.agg (grC x)]) (fun a b e=>by simp only [List.cons.injEq,DV.agg.injEq,and_true] at e; exact zs5w e) x
noncomputable def cC1 (g:Clu→DV):List DV→Option DV:=con (fun _=>True) (fun x:Clu=>[.agg (clC x)]) g
theorem zf0o {g:Clu→DV} {x:Clu}:cC1 g [.agg (clC x)]=some (g x) :=
 zsn4 (f:=fun x:Clu=>[.agg (clC x)]) (fun a b e=>by simp only [List.cons.injEq,DV.agg.injEq,and_true] at e; exact zh7t e) x
noncomputable def cCSS (g:Clu→List UInt8→List UInt8→DV):List DV→Option DV:=con (fun _=>True) (fun x:Clu × List UInt8 × List UInt8=>[.agg (clC x.1),.str x.2.1,.str x.2.2]) (fun x=>g x.1 x.2.1 x.2.2)
theorem zojl {g:Clu→List UInt8→List UInt8→DV} {x:Clu} {a b:List UInt8}:cCSS g [.agg (clC x),.str a,.str b]=some (g x a b) :=
 zsn4 (f:=fun x:Clu × List UInt8 × List UInt8=>[.agg (clC x.1),.str x.2.1,.str x.2.2]) (by
  rintro ⟨a,b,c⟩ ⟨a',b',c'⟩ e;simp only [List.cons.injEq,DV.agg.injEq,DV.str.injEq,and_true] at e;rw [zh7t e.1,e.2.1,e.2.2]) (x,a,b)
noncomputable def cCI (g:Clu→Ins→DV):List DV→Option DV:=con (fun _=>True) (fun x:Clu × Ins=>[.agg (clC x.1),.agg (inC x.2)]) (fun x=>g x.1 x.2)
theorem ziv1 {g:Clu→Ins→DV} {x:Clu} {a:Ins}:cCI g [.agg (clC x),.agg (inC a)]=some (g x a) :=
 zsn4 (f:=fun x:Clu × Ins=>[.agg (clC x.1),.agg (inC x.2)]) (by
  rintro ⟨a,b⟩ ⟨a',b'⟩ e;simp only [List.cons.injEq,DV.agg.injEq,and_true] at e;rw [zh7t e.1,zpbj e.2]) (x,a)
noncomputable def cCi (g:Clu→Int→DV):List DV→Option DV:=con (fun _=>True) (fun x:Clu × Int=>[.agg (clC x.1),.int .i64 x.2]) (fun x=>g x.1 x.2)
theorem z3mn {g:Clu→Int→DV} {x:Clu} {a:Int}:cCi g [.agg (clC x),.int .i64 a]=some (g x a) :=
 zsn4 (f:=fun x:Clu × Int=>[.agg (clC x.1),.int .i64 x.2]) (by
  rintro ⟨a,b⟩ ⟨a',b'⟩ e;simp only [List.cons.injEq,DV.agg.injEq,DV.int.injEq,and_true,true_and] at e;rw [zh7t e.1,e.2]) (x,a)
abbrev grpD (c:Clu) (ns im:List UInt8):DV := .int .i64 (z9w0 c.g.l ns im)
noncomputable def T107:Tbl:=addT 139 (.pure (cG1 zoy9)) (addT 140 (.pure (cCSS grpD)) (addT 141 (.pure (cCI zmtb)) tbl0))
theorem zlw8:T107 139 = .pure (cG1 zoy9):=by simp [T107]
theorem z17r:T107 140 = .pure (cCSS grpD):=by simp [T107]
theorem zd7t:T107 141 = .pure (cCI zmtb):=by simp [T107]
theorem zmu9:T107.Sound P:=z0rp (z2au fun x _=>zljw mix z2gv Tryz.func139 zt91 (zzqf x)) (z0rp (z2au fun x _=>zljw mix z149 Tryz.func140 zvf9 (zy3o x.1 x.2.1 x.2.2)) (z0rp (z2au fun x _=>zljw mix z3s1 Tryz.func141 zjg6 (zwmi x.1 x.2)) zr5o))
noncomputable abbrev zwdn (c:Clu):DV := .bool (tv (ValidC c))
def S107 (c:Clu) (i:Nat):St:=zave (.mp 0 3 0) (c.g.dv 6 grC) (.int .i64 c.g.l.length) (.int .i64 i) [.cells (clC c)]
def S108 (c:Clu) (i:Nat):St:=ztg6 (.mp 0 3 0) (c.i.dv 37 inC) (.int .i64 c.i.l.length) (.int .i64 i) [.cells (clC c)]
theorem ztir (c:Clu):Runs T107 a129 [.agg (clC c)] (zwdn c):=by
 refine ⟨?_⟩;have s:=c.g.b;have t:=c.i.b;by_cases k0:(16:Int)<c.g.l.length
 ·have a:¬ ValidC c:=fun h=>by have:=h.ng; omega
  simp (disch:=first|omega|simp<;>omega|fail) [-zE,a129,k0,zwdn,zewf a]
 by_cases k1:(200:Int)<c.i.l.length
 ·have a:¬ ValidC c:=fun h=>by have:=h.ni; omega
  simp (disch:=first|omega|simp<;>omega|fail) [-zE,a129,k0,k1,zwdn,zewf a]
 by_cases k2:c.next<1
 ·have a:¬ ValidC c:=fun h=>by have:=h.n0; omega
  simp (disch:=first|omega|simp<;>omega|fail) [-zE,a129,k0,k1,k2,zwdn,zewf a]
 by_cases k3:1099511627776<c.next
 ·have a:¬ ValidC c:=fun h=>by have:=h.n1; omega
  simp (disch:=first|omega|simp<;>omega|fail) [-zE,a129,k0,k1,k2,k3,zwdn,zewf a]
 simp (disch:=first|omega|simp<;>omega|fail) [-zE,a129,k0,k1,k2,k3];refine zlm5 (S107 c) (fun i=>c.g.l.length-i) (fun i=>i≤c.g.l.length ∧ ∀ j (hj:j<c.g.l.length),j<i→ValidG c.g.l[j]∧z9w0 c.g.l c.g.l[j].ns c.g.l[j].im=j) 0 (yWS (by simp [-zE])) ⟨by omega,fun j _ hj=>by omega⟩ (fun i hi => ?_)
 obtain ⟨q,n⟩:=hi;simp (disch:=first|omega|simp<;>omega|fail) [-zE,zl9a,zave,S107];by_cases h:i<c.g.l.length
 ·have f:(i:Int)<c.g.l.length:=by omega
  have m : ∀ H,zpsc H 6 (c.g.dv 6 grC) i=some (.ref (grC c.g.l[i])):=fun H=>zalo zry4 h
  by_cases e:ValidG c.g.l[i]
  ·by_cases e2:z9w0 c.g.l c.g.l[i].ns c.g.l[i].im=i
   ·simp (disch:=first|omega|simp<;>omega|fail) [-zE,f,h,m,zlw8,zoex,zoy9,zogs e,z17r,zojl,grpD,e2];refine ⟨i+1,zju2 (tail:=[.cells (grC c.g.l[i])]) (by simp (disch:=first|omega|simp<;>omega|fail) [-zE]) (by simp (disch:=first|omega|simp<;>omega|fail) [-zE]) (by simp (disch:=first|omega|simp<;>omega|fail) [-zE]) (by simp (disch:=first|omega|simp<;>omega|fail) [-zE,belowL,Am.below]) (by simp (disch:=first|omega|simp<;>omega|fail) [-zE,zlf2]),by omega,by omega,fun j hj hji => ?_⟩
    by_cases ej:j=i
    ·subst ej; exact ⟨e,e2⟩
    ·exact n j hj (by omega)
   ·have a:¬ ValidC c:=fun hv=>e2 (hv.g i h).2
    simp (disch:=first|omega|simp<;>omega|fail) [-zE,f,h,m,zlw8,zoex,zoy9,zogs e,z17r,zojl,grpD,e2,zwdn,zewf a]
  ·have a:¬ ValidC c:=fun hv=>e (hv.g i h).1
   simp (disch:=first|omega|simp<;>omega|fail) [-zE,f,h,m,zlw8,zoex,zoy9,zewf e,zwdn,zewf a]
 have f:¬ (i:Int)<c.g.l.length:=by omega
 have r : ∀ j (hj:j<c.g.l.length),ValidG c.g.l[j]∧z9w0 c.g.l c.g.l[j].ns c.g.l[j].im=j:=fun j hj=>n j hj (by omega)
 simp (disch:=first|omega|simp<;>omega|fail) [-zE,h,f];refine zlm5 (S108 c) (fun i=>c.i.l.length-i) (fun i=>i≤c.i.l.length ∧ ∀ j (hj:j<c.i.l.length),j<i→SoundI c.g.l.length c.next c.i.l[j]∧(∀ h0:0<j,c.i.l[j-1].id<c.i.l[j].id)) 0 (yWS (by simp [-zE])) ⟨by omega,fun j _ hj=>by omega⟩ (fun i hi => ?_)
 obtain ⟨q,n⟩:=hi;simp (disch:=first|omega|simp<;>omega|fail) [-zE,zsza,ztg6,S108];by_cases h:i<c.i.l.length
 ·have f:(i:Int)<c.i.l.length:=by omega
  have m : ∀ H,zpsc H 37 (c.i.dv 37 inC) i=some (.ref (inC c.i.l[i])):=fun H=>zalo z6gw h
  by_cases e:SoundI c.g.l.length c.next c.i.l[i]
  ·by_cases e0:i=0
   ·have k:¬ (0:Int)<i:=by omega
    have d:¬ 0<i:=by omega
    simp (disch:=first|omega|simp<;>omega|fail) [-zE,f,h,m,zd7t,ziv1,zmtb,zogs e,k,d];refine ⟨i+1,zju2 (tail:=[.cells (inC c.i.l[i])]) (by simp (disch:=first|omega|simp<;>omega|fail) [-zE]) (by simp (disch:=first|omega|simp<;>omega|fail) [-zE]) (by simp (disch:=first|omega|simp<;>omega|fail) [-zE]) (by simp (disch:=first|omega|simp<;>omega|fail) [-zE,belowL,Am.below]) (by simp (disch:=first|omega|simp<;>omega|fail) [-zE,zlf2]),by omega,by omega,fun j hj hji => ?_⟩
    obtain rfl:j=i:=by omega
    exact ⟨e,fun h0=>by omega⟩
   ·have k:(0:Int)<i:=by omega
    have d:0<i:=by omega
    have p:(i:Int)-1=(i-1:Nat):=by omega
    have o : ∀ H,zpsc H 37 (c.i.dv 37 inC) ((i-1:Nat):Int)=some (.ref (inC c.i.l[i-1])):=fun H=>zalo z6gw (by omega)
    by_cases e2:c.i.l[i].id≤c.i.l[i-1].id
    ·have a:¬ ValidC c:=fun hv=>by have:=(hv.i i h).2 (by omega); omega
     simp (disch:=first|omega|simp<;>omega|fail) [-zE,f,h,m,zd7t,ziv1,zmtb,zogs e,k,d,p,o,e2,zwdn,zewf a]
    ·simp (disch:=first|omega|simp<;>omega|fail) [-zE,f,h,m,zd7t,ziv1,zmtb,zogs e,k,d,p,o,e2];refine ⟨i+1,zju2 (tail:=[.cells (inC c.i.l[i])]) (by simp (disch:=first|omega|simp<;>omega|fail) [-zE]) (by simp (disch:=first|omega|simp<;>omega|fail) [-zE]) (by simp (disch:=first|omega|simp<;>omega|fail) [-zE]) (by simp (disch:=first|omega|simp<;>omega|fail) [-zE,belowL,Am.below]) (by simp (disch:=first|omega|simp<;>omega|fail) [-zE,zlf2]),by omega,by omega,fun j hj hji => ?_⟩
     by_cases ej:j=i
     ·subst ej; exact ⟨e,fun _=>by omega⟩
     ·exact n j hj (by omega)
  ·have a:¬ ValidC c:=fun hv=>e (hv.i i h).1
   simp (disch:=first|omega|simp<;>omega|fail) [-zE,f,h,m,zd7t,ziv1,zmtb,zewf e,zwdn,zewf a]
 ·have f:¬ (i:Int)<c.i.l.length:=by omega
  have u:ValidC c:=⟨by omega,by omega,by omega,by omega,r,fun j hj=>n j hj (by omega)⟩
  simp (disch:=first|omega|simp<;>omega|fail) [-zE,h,f,zwdn,zogs u]
end
section
def mutD {α:Type} (id s:Nat) (x:Sl α) (f:α→List DV):DV:=if x.l=[] then x.clone.dv s f else .ms id (x.l.length*s) 0 s x.l.length (x.l.length*s)
def mutO {α:Type} (x:Sl α) (f:α→List DV):List AObj:=if x.l=[] then [] else [.cells (x.l.flatMap f)]
theorem zpj6 {α:Type} {id s:Nat} {x:Sl α} {f:α→List DV} (h:x.l=[]):mutD id s x f=x.clone.dv s f:=if_pos h
theorem z2ra {α:Type} {id s:Nat} {x:Sl α} {f:α→List DV} (h:x.l≠[]):mutD id s x f = .ms id (x.l.length*s) 0 s x.l.length (x.l.length*s):=if_neg h
theorem z4ry {α:Type} {x:Sl α} {f:α→List DV} (h:x.l=[]):mutO x f=[]:=if_pos h
theorem z895 {α:Type} {x:Sl α} {f:α→List DV} (h:x.l≠[]):mutO x f=[.cells (x.l.flatMap f)]:=if_neg h
theorem z9jy {α:Type} {f:α→List DV} (h : ∀ a,(f a).all DV.one=true) : ∀ (l:List α),(l.flatMap f).all DV.one=true
 | []=>rfl
 | a::l=>by rw [y01,y0j,h,z9jy h l]; rfl
theorem zbq1 (g:Grp):(grC g).all DV.one=true:=by simp only [grC,y0a,zzmf,zxyr,z4ja,y0e,y0b]
theorem z8go (x:Ins):(inC x).all DV.one=true:=by simp only [inC,y0a,y0j,zoxk,zzmf,y0e,y0b]
theorem zp9z (x:Sl Dg):RunsH tbl0 a81 [x.dv 32 dgC] [] (mutD 0 32 x dgC) (mutO x dgC):=by
 refine ⟨?_⟩;obtain ⟨k,l,h,c⟩:=x;cases k with
 | none =>
  have a:l=[]:=h rfl;subst a;simp (disch:=first|omega|simp<;>omega|fail) [-zE,a81,z5oj];exact ⟨by rw [zpj6 rfl]; rfl,z4ry rfl⟩
 | some b =>
  have c:l.length≤4294967296:=c;by_cases a:l=[]
  ·subst a; simp (disch:=first|omega|simp<;>omega|fail) [-zE,a81,z707,mutD,mutO,Sl.clone]
  ·have d:=z1rq z1t1 l;have e:=z9jy (f:=dgC) (fun _=>zoxk) l
   have g:0<l.length:=y0c.2 a;simp (disch:=first|omega|simp<;>omega|fail) [-zE,a81,z707,mutD,mutO,a,d,e,g]
theorem zvl5 (x:Sl Grp):RunsH tbl0 a79 [x.dv 6 grC] [] (mutD 0 6 x grC) (mutO x grC):=by
 refine ⟨?_⟩;obtain ⟨k,l,h,c⟩:=x;cases k with
 | none =>
  have a:l=[]:=h rfl;subst a;simp (disch:=first|omega|simp<;>omega|fail) [-zE,a79,z5oj];exact ⟨by rw [zpj6 rfl]; rfl,z4ry rfl⟩
 | some b =>
  have c:l.length≤4294967296:=c;by_cases a:l=[]
  ·subst a; simp (disch:=first|omega|simp<;>omega|fail) [-zE,a79,z707,mutD,mutO,Sl.clone]
  ·have d:=z1rq zry4 l;have e:=z9jy (f:=grC) (zbq1) l;have g:0<l.length:=y0c.2 a;simp (disch:=first|omega|simp<;>omega|fail) [-zE,a79,z707,mutD,mutO,a,d,e,g]
theorem ze8u (x:Sl Ins):RunsH tbl0 a80 [x.dv 37 inC] [] (mutD 0 37 x inC) (mutO x inC):=by
 refine ⟨?_⟩;obtain ⟨k,l,h,c⟩:=x;cases k with
 | none =>
  have a:l=[]:=h rfl;subst a;simp (disch:=first|omega|simp<;>omega|fail) [-zE,a80,z5oj];exact ⟨by rw [zpj6 rfl]; rfl,z4ry rfl⟩
 | some b =>
  have c:l.length≤4294967296:=c;by_cases a:l=[]
  ·subst a; simp (disch:=first|omega|simp<;>omega|fail) [-zE,a80,z707,mutD,mutO,Sl.clone]
  ·have d:=z1rq z6gw l;have e:=z9jy (f:=inC) (z8go) l;have g:0<l.length:=y0c.2 a;simp (disch:=first|omega|simp<;>omega|fail) [-zE,a80,z707,mutD,mutO,a,d,e,g]
end
section
theorem zaip {α:Type} {n s:Nat} {x:Sl α} {f:α→List DV} (hp : ∀ a,zbao (f a)=true):shD n (mutD 0 s x f)=mutD n s x f:=by
 by_cases h:x.l=[]
 ·rw [zpj6 h,zpj6 h]; exact za7m n _ (zxxb hp _)
 ·rw [z2ra h,z2ra h]; rfl
theorem zxjt {α:Type} {n:Nat} {x:Sl α} {f:α→List DV} (hp : ∀ a,zbao (f a)=true):(mutO x f).map (shO n)=mutO x f:=by
 by_cases h:x.l=[]
 ·rw [z4ry h]; rfl
 ·rw [z895 h]; simp only [y0s,List.map_nil,z05k,zj45 n _ (zp6k hp _)]
noncomputable def cNG:List DV→Nat→Option (DV × List AObj):=conN (fun _=>True) (fun x:Sl Grp=>[x.dv 6 grC]) (fun x=>(mutD 0 6 x grC,mutO x grC))
noncomputable def cNI:List DV→Nat→Option (DV × List AObj):=conN (fun _=>True) (fun x:Sl Ins=>[x.dv 37 inC]) (fun x=>(mutD 0 37 x inC,mutO x inC))
theorem zm2v {x:Sl Grp} {n:Nat}:cNG [x.dv 6 grC] n=some (mutD n 6 x grC,mutO x grC):=by
 have:=zqtp (A:=fun _=>True) (f:=fun x:Sl Grp=>[x.dv 6 grC]) (g:=fun x=>(mutD 0 6 x grC,mutO x grC)) (fun a b e=>by
  simp only [List.cons.injEq,and_true] at e;rw [zcq7 zry4 (by decide) (fun _ _=>zs5w) e]) x trivial n
 rw [zaip zxeb,zxjt zxeb] at this;exact this
theorem zrvm {x:Sl Ins} {n:Nat}:cNI [x.dv 37 inC] n=some (mutD n 37 x inC,mutO x inC):=by
 have:=zqtp (A:=fun _=>True) (f:=fun x:Sl Ins=>[x.dv 37 inC]) (g:=fun x=>(mutD 0 37 x inC,mutO x inC)) (fun a b e=>by
  simp only [List.cons.injEq,and_true] at e;rw [zcq7 z6gw (by decide) (fun _ _=>zpbj) e]) x trivial n
 rw [zaip z9kv,zxjt z9kv] at this;exact this
noncomputable def cCD:List DV→Option DV:=con (fun _=>True) (fun x:Sl Dg=>[x.dv 32 dgC]) (fun x=>x.clone.dv 32 dgC)
theorem zgv2 {x:Sl Dg}:cCD [x.dv 32 dgC]=some (x.clone.dv 32 dgC) :=
 zsn4 (f:=fun x:Sl Dg=>[x.dv 32 dgC]) (fun a b e=>by simp only [List.cons.injEq,and_true] at e; exact z42k e) x
theorem zspn (x:Sl Dg):Am.Sem P 81 [x.dv 32 dgC] (x.clone.dv 32 dgC) :=
 zzfj ((zv22 mix zr5o Tryz.func81 zgev (zp9z x)).mono fun d h' e=>by
  obtain ⟨rfl,rfl⟩:=e;by_cases h:x.l=[]
  ·rw [zpj6 h]; exact z7y9
  ·have hl:=z1rq z1t1 x.l;have ht:(x.l.flatMap dgC).take (x.l.length*32)=x.l.flatMap dgC:=y00 (by omega)
   rw [z2ra h,z895 h,zve7,z1zn,if_pos hl,y09,List.drop_zero,ht,z619 (zp6k z3ot _)];simp [Sl.clone,Sl.dv,slD,h])
noncomputable def T110:Tbl:=addT 79 (.new cNG) (addT 80 (.new cNI) (addT 81 (.pure cCD) tbl0))
theorem zunk:T110 79 = .new cNG:=by simp [T110]
theorem z1hi:T110 80 = .new cNI:=by simp [T110]
theorem zvdg:T110 81 = .pure cCD:=by simp [T110]
theorem z5g0:T110.Sound P:=z0rp (z3ld (fun x _=>by simp) fun x _=>zv22 mix zr5o Tryz.func79 zaq4 (zvl5 x)) (z0rp (z3ld (fun x _=>by simp) fun x _=>zv22 mix zr5o Tryz.func80 zpfu (ze8u x)) (z0rp (z2au fun x _=>zspn x) zr5o))
def gsi (l:List Grp) (i:Nat):List Grp:=(l.take i).map Grp.clone++l.drop i
theorem z7fj (l:List Grp):gsi l 0=l:=rfl
theorem zxdi {l:List Grp} {i:Nat} (h:l.length≤i):gsi l i=l.map Grp.clone:=by rw [gsi,y00 h,y03 h,List.append_nil]
theorem zirn {l:List Grp} {i:Nat}:(gsi l i).length=l.length:=by simp [gsi]; omega
theorem zlpw {l:List Grp} {i:Nat} (h:i<l.length) (h':i<(gsi l i).length):(gsi l i)[i]=l[i]:=by
 simp only [gsi];rw [List.getElem_append_right (by simp; omega)]
 simp [Nat.min_eq_left (Nat.le_of_lt h)]
theorem zhwq {l:List Grp} {i:Nat} (h:i<l.length):(gsi l i).set i l[i].clone=gsi l (i+1):=by
 simp only [gsi];have a:((l.take i).map Grp.clone).length=i:=by simp; omega
 rw [y0p _ _ (by omega),a,Nat.sub_self,zmqh h,List.map_append,y02 h,List.set_cons_zero,y0f]
 rfl
theorem zfof {l:List Grp} {i:Nat} (h:i<l.length):oneC 1 false ((l.flatMap grC).drop (i*6+5))=some (l[i].ch.dv 32 dgC):=by
 rw [← y06,zkb2 zry4,y02 h,y01]
 rfl
def Grp.withCh (g:Grp) (y:Sl Dg):Grp:=⟨g.ns,g.im,g.want,g.least,g.down,y⟩
theorem ztq3 {l:List Grp} {i:Nat} (h:i<l.length) {y:Sl Dg}:zk7y (l.flatMap grC) (i*6+5) [y.dv 32 dgC]=(l.set i (l[i].withCh y)).flatMap grC:=by
 unfold zk7y;rw [y0q,show i*6+5+1=(i+1)*6 by omega,zkb2 zry4,List.take_add,z10w zry4,zkb2 zry4,y02 h,y01,y04,if_pos h,y0t,y01]
 rw [y05 (by rw [zry4]; omega)]
 simp only [y0f]
 rfl
theorem zbcp {h:List AObj} {id off:Nat} {v:DV} {l:List DV} (hc:v.cells=[v]) (ho:v.one=true) (hl:off<l.length):zy6o h id 1 off v (some l)=some (.junk,h.set id (.cells (zk7y l off [v]))):=by
 simp only [zy6o,hc,List.length_cons,List.length_nil,y0a,y0e,ho,y0b]
 first|done|rw [if_pos ⟨trivial,by omega,trivial⟩]
theorem zbvn {a b c v:DV}:zk7y [a,b,c] 0 [v]=[v,b,c]:=rfl
theorem zgna {a b c v:DV}:zk7y [a,b,c] 1 [v]=[a,v,c]:=rfl
theorem ztfh {a b c v:DV}:zk7y [a,b,c] 2 [v]=[a,b,v]:=rfl
attribute [simp] zbvn zgna ztfh
def I3 (c:Clu):DV:=mutD (2+(mutO c.g grC).length) 37 c.i inC
def zpsa (c:Clu):DV := .agg [mutD 2 6 c.clone.g grC,I3 c,.int .i64 c.next]
def zvu3 (c:Clu):List AObj := .cells [mutD 2 6 c.clone.g grC,I3 c,.int .i64 c.next] :: .cells [mutD 2 6 c.clone.g grC,I3 c,.int .i64 c.next]::(mutO c.clone.g grC++mutO c.i inC)
theorem zbo5 (c:Clu):c.clone.g.l=c.g.l.map Grp.clone:=rfl
theorem zkrv {c:Clu} (h:c.g.l≠[]):c.clone.g.l≠[]:=by simpa [zbo5] using h
theorem zv4y {c:Clu} (h:c.g.l=[]):c.clone.g.l=[]:=by simp [zbo5,h]
theorem zh8h {c:Clu} (h:c.g.l=[]):c.clone.g.clone.dv 6 grC=c.g.clone.dv 6 grC:=by
 simp [Sl.clone,Clu.clone,h,Sl.dv]
theorem zngo {a b c:DV}:oneC 3 true [a,b,c]=some (.agg [a,b,c]):=rfl
theorem z9oo {h:List AObj} {id:Nat} {a b c:DV} {l:List DV} (hl:l.length=3) (h1:a.one=true) (h2:b.one=true) (h3:c.one=true):zy6o h id 3 0 (.agg [a,b,c]) (some l)=some (.junk,h.set id (.cells [a,b,c])):=zfc1 rfl hl (by simp [h1,h2,h3])
attribute [simp] zngo z9oo
def S110 (c:Clu) (oi:List AObj) (i:Nat):St:=zc10 (.mp 0 3 0) (.mp 1 3 0) (.int .i64 c.g.l.length) (.int .i64 i) (.cells [mutD 2 6 c.g grC,I3 c,.int .i64 c.next] :: .cells [.nils,.nils,.int .i64 0] :: .cells ((gsi c.g.l i).flatMap grC)::oi)
theorem zpq0 {α:Type} {id s:Nat} {x:Sl α} {f:α→List DV}:(mutD id s x f).one=true:=by
 by_cases h:x.l=[]
 ·rw [zpj6 h]; exact z4ja _
 ·rw [z2ra h]; rfl
theorem zflp {α:Type} {id s:Nat} {x:Sl α} {f:α→List DV}:(mutD id s x f).cells=[mutD id s x f]:=by
 by_cases h:x.l=[]
 ·rw [zpj6 h]; exact zs9p _
 ·rw [z2ra h]; rfl
theorem zpel {α:Type} {id s:Nat} {x:Sl α} {f:α→List DV}:(mutD id s x f).known=true:=by
 by_cases h:x.l=[]
 ·rw [zpj6 h]; exact ztw5 _
 ·rw [z2ra h]; rfl
attribute [simp] zpq0 zflp zpel
def S111 (c:Clu):St:=zc10 (.mp 0 3 0) (.mp 1 3 0) (.int .i64 c.g.clone.l.length) (.int .i64 0) (.cells [c.g.clone.dv 6 grC,mutD 2 37 c.i inC,.int .i64 c.next] :: .cells [.nils,.nils,.int .i64 0]::mutO c.i inC)
theorem z9io (c:Clu):RunsH T110 a131 [.agg (clC c)] [] (zpsa c) (zvu3 c):=by
 refine ⟨?_⟩;have x:=c.g.b;by_cases hg:c.g.l=[]
 ·have d:=zpj6 (id:=2) (s:=6) (f:=grC) hg;have e:=z4ry (f:=grC) hg;have j:=zpj6 (id:=2) (s:=6) (f:=grC) (zv4y hg);have k:=z4ry (f:=grC) (zv4y hg);have q:=zh8h hg;have r:c.g.clone.l.length=0:=by rw [show c.g.clone.l=c.g.l from rfl,hg]; rfl
  simp (disch:=first|omega|simp<;>omega|fail) [-zE,a131,zunk,z1hi,zm2v,zrvm,clC,d,e,zbcp];refine zlm5 (fun _:Nat=>S111 c) (fun _=>0) (fun _=>True) 0 (yWS (by simp [-zE,S111])) trivial (fun _ _ => ?_)
  simp (disch:=first|omega|simp<;>omega|fail) [-zE,zd5j,zc10,S111,r,zpsa,zvu3,I3,e,j,k,q]
 ·have d:=z2ra (id:=2) (s:=6) (f:=grC) hg;have e:=z895 (f:=grC) hg;have j:=z2ra (id:=2) (s:=6) (f:=grC) (zkrv hg);have k:=z895 (f:=grC) (zkrv hg);have t:=z1rq zry4 c.g.l;simp (disch:=first|omega|simp<;>omega|fail) [-zE,a131,zunk,z1hi,zm2v,zrvm,clC,d,e,t,zbcp];refine zlm5 (S110 c (mutO c.i inC)) (fun i=>c.g.l.length-i) (fun i=>i≤c.g.l.length) 0 (yWS (by simp [-zE,z7fj,I3,d,e])) (by omega) (fun i hi => ?_)
  have n:=z1rq zry4 (gsi c.g.l i);have u:=zirn (l:=c.g.l) (i:=i);rw [u] at n;simp (disch:=first|omega|simp<;>omega|fail) [-zE,zd5j,zc10,S110,d];by_cases h:i<c.g.l.length
  ·have m:(i:Int)<c.g.l.length:=by omega
   have a:i<(gsi c.g.l i).length:=by omega
   have v:i*6+5<c.g.l.length*6:=by omega
   have o:=zfof a;rw [zlpw h a] at o;have p:=ztq3 a (y:=c.g.l[i].ch.clone);rw [zlpw h a,show c.g.l[i].withCh c.g.l[i].ch.clone=c.g.l[i].clone from rfl,zhwq h] at p
   simp (disch:=first|omega|simp<;>omega|fail) [-zE,m,h,n,o,zvdg,zgv2,zbcp,v,p];exact ⟨i+1,yWS (by simp [-zE,d]),by omega,by omega⟩
  ·have m:¬ (i:Int)<c.g.l.length:=by omega
   have w:=zxdi (l:=c.g.l) (i:=i) (by omega)
   simp (disch:=first|omega|simp<;>omega|fail) [-zE,h,m,w,zpsa,zvu3,I3,e,j,k,zbo5]
end
section
def clW (n:Nat) (c:Clu):List DV:=[mutD (n+2) 6 c.clone.g grC,mutD (n+(2+(mutO c.g grC).length)) 37 c.i inC,.int .i64 c.next]
theorem zmt6 {α:Type} {n id s:Nat} {x:Sl α} {f:α→List DV} (hp : ∀ a,zbao (f a)=true):shD n (mutD id s x f)=mutD (n+id) s x f:=by
 by_cases h:x.l=[]
 ·rw [zpj6 h,zpj6 h]; exact za7m n _ (zxxb hp _)
 ·rw [z2ra h,z2ra h]; rfl
noncomputable def cNC:List DV→Nat→Option (DV × List AObj):=conN (fun _=>True) (fun c:Clu=>[.agg (clC c)]) (fun c=>(zpsa c,zvu3 c))
theorem z1a8 {c:Clu} {n:Nat}:cNC [.agg (clC c)] n=some (.agg (clW n c),.cells (clW n c) :: .cells (clW n c)::(mutO c.clone.g grC++mutO c.i inC)):=by
 have:=zqtp (A:=fun _=>True) (f:=fun x:Clu=>[.agg (clC x)]) (g:=fun c=>(zpsa c,zvu3 c)) (fun a b e=>by
  simp only [List.cons.injEq,DV.agg.injEq,and_true] at e;rw [zh7t e]) c trivial n
 simp only [zpsa,zvu3,I3,z820,zz2n,z623,zmt6 zxeb,zmt6 z9kv,z96c,y0s,List.map_append,z05k,zxjt zxeb,zxjt z9kv] at this;exact this
noncomputable def T112:Tbl:=addT 129 (.pure (cC1 zwdn)) (addT 139 (.pure (cG1 zoy9)) (addT 140 (.pure (cCSS grpD)) (addT 131 (.new cNC) (addT 81 (.pure cCD) (addT 130 (.pure cTm) (addT 82 (.pure (cCi fun c i => .int .i64 (z092 c.i.l i))) tbl0))))))
theorem zfnc:T112 129 = .pure (cC1 zwdn):=by simp [T112]
theorem zulc:T112 131 = .new cNC:=by simp [T112]
theorem zb4g:T112 130 = .pure cTm:=by simp [T112]
theorem zw51:T112.Sound P:=z0rp (z2au fun x _=>zljw mix zmu9 Tryz.func129 z1y5 (ztir x)) (z0rp (z2au fun x _=>zljw mix z2gv Tryz.func139 zt91 (zzqf x)) (z0rp (z2au fun x _=>zljw mix z149 Tryz.func140 zvf9 (zy3o x.1 x.2.1 x.2.2)) (z0rp (z3ld (fun x _=>by simp) fun x _=>zv22 mix z5g0 Tryz.func131 zsra (z9io x)) (z0rp (z2au fun x _=>zspn x) (z0rp (zayt fun t=>zljw mix zr5o Tryz.func130 zndb (z4qz t)) (z0rp (z2au fun x _=>zljw mix zw83 Tryz.func82 zftu (z7dp x.1 x.2)) zr5o))))))
theorem zdhs {g:Sl Grp} {i:Sl Ins} {n:Int}:clC ⟨g,i,n⟩=[g.dv 6 grC,i.dv 37 inC,.int .i64 n]:=rfl
theorem z3cj:clC clu0=[.nils,.nils,.int .i64 0]:=rfl
theorem zjad {α:Type} {x:Sl α} {s b m:Nat} {f:α→List DV} {h:List AObj} {cs:List DV} (hx:x.l=[]) (hb:b≤16384) (h0:0<s) (hm:m*s=cs.length) (hm0:0<m) (hbig:m≤4294967296) :
  appX h s b (x.clone.dv s f) m cs=some (.ms h.length cs.length 0 s m cs.length,h++[.cells cs]):=by
 obtain ⟨k,l,a,c⟩:=x;cases (show l=[] from hx)
 cases k with
 | none=>exact zsuq hb h0 hm hm0 hbig
 | some q =>
  have:=ztup (h:=h) (s:=s) (b:=b) (n:=0) (m:=m) (ds:=[]) (cs:=cs) hb h0 hm hm0 (by omega)
  simp only [List.length_nil,Nat.zero_add,List.nil_append] at this;exact this
theorem z4c0 {h:List AObj} {k:Nat} {l:List Grp}:z4tt h k (l.flatMap grC)=some (l.flatMap grC):=z619 (zp6k zxeb l)
theorem zodk {h:List AObj} {k:Nat} {l:List Ins}:z4tt h k (l.flatMap inC)=some (l.flatMap inC):=z619 (zp6k z9kv l)
theorem zq57 {l:List Grp} {n:Nat} (h:l.length≤n):(l.flatMap grC).take (n*6)=l.flatMap grC:=by rw [z10w zry4,y00 h]
theorem z5fn {l:List Ins} {n:Nat} (h:l.length≤n):(l.flatMap inC).take (n*37)=l.flatMap inC:=by rw [z10w z6gw,y00 h]
theorem zv6z {α:Type} {x:Sl α} {s:Nat} {f:α→List DV} (h:x.l≠[]):x.clone.dv s f = .sl false s x.l.length (x.l.flatMap f):=by simp [Sl.clone,Sl.dv,slD,h]
theorem zdxy {h:List AObj} {id off:Nat} {x:Grp} {l:List DV} (hl:off+6≤l.length):zy6o h id 6 off (.agg (grC x)) (some l)=some (.junk,h.set id (.cells (zk7y l off (grC x)))):=by
 have e:(DV.agg (grC x)).cells=grC x:=rfl;simp only [zy6o,e,zbq1,zry4];rw [if_pos ⟨trivial,hl,trivial⟩]
theorem zk3i {g:Grp}:(grC g).take 6=grC g:=y00 (by simp)
theorem z6oi {g:Ins}:(inC g).take 37=inC g:=y00 (by simp)
attribute [simp] zk3i z6oi z4c0 zodk zbq1 z8go zoxk
theorem z4qu {z:List DV} {g:Grp} (hz:z.length=6):bslD 6 1 z [(0,6,.agg (grC g))]=some (.sl true 6 1 (grC g)):=by
 rw [z7bw (by simp [DV.known]) (by simp [seqD,hz,DV.cells])]; simp [seqD,DV.cells]
end
section
theorem z5pt {c:Clu}:c.clone.g.clone.dv 6 grC=c.clone.g.dv 6 grC:=by
 by_cases h:c.g.l=[]
 ·simp only [Sl.clone,Clu.clone,Sl.dv,h,List.map_nil,if_true];cases c.g.k<;>rfl
 ·simp [Sl.clone,Clu.clone,Sl.dv,h]
theorem zpgv {c:Clu} (h:c.g.l≠[]):c.clone.g.dv 6 grC = .sl false 6 c.g.l.length ((c.g.l.map Grp.clone).flatMap grC):=by
 rw [← z5pt,zv6z (zkrv h),zbo5,List.length_map]
theorem zd00 {z:List DV} {x:Ins} (hz:z.length=37):bslD 37 1 z [(0,37,.agg (inC x))]=some (.sl true 37 1 (inC x)):=by
 rw [z7bw (by simp [DV.known]) (by simp [seqD,hz,DV.cells])]; simp [seqD,DV.cells]
theorem zfu8 {z:List DV} {a b s i e:Int} {d:Dg} (hz:z.length=37):zvnk z [(0,1,.int .i64 a),(1,1,.int .i64 b),(2,32,.agg (dgC d)),(34,1,.int .i64 s),(35,1,.int .i64 i),(36,1,.int .i64 e)]=some (.agg (inC ⟨a,b,d,s,i,e⟩)):=by
 rw [zwos (by simp [DV.known]) (by simp [seqD,hz,DV.cells])]; simp [seqD,DV.cells,inC]
noncomputable def z4xq (c:Clu) (g:Int) (d:Dg) (t:Int):DV := .tup [.agg (clC (z4wu c g d t).1),.int .i64 (z4wu c g d t).2.1,.int .i64 (z4wu c g d t).2.2]
theorem z1bv (c:Clu) (gr:Int) (d:Dg) (t:Int):Runs T112 a125 [.agg (clC c),.int .i64 gr,.agg (dgC d),.int .i64 t] (z4xq c gr d t):=by
 refine ⟨?_⟩;by_cases hv:ValidC c
 case neg =>
  have a:z4wu c gr d t=(clu0,0,1):=by rw [z4wu,if_pos (.inl hv)]
  simp (disch:=first|omega|simp<;>omega|fail) [-zE,a125,zfnc,zf0o,zwdn,zb4g,zixp,z4xq,zewf hv,a,z3cj]
 by_cases hz:d=dg0
 ·have a:z4wu c gr d t=(clu0,0,1):=by rw [z4wu,if_pos (.inr (.inl hz))]
  simp (disch:=first|omega|simp<;>omega|fail) [-zE,a125,zfnc,zf0o,zwdn,zb4g,zixp,z4xq,zogs hv,hz,a,z3cj];simp [← hz,a,z3cj]
 by_cases ht:zcie t
 case neg =>
  have a:z4wu c gr d t=(clu0,0,1):=by rw [z4wu,if_pos (.inr (.inr ht))]
  simp (disch:=first|omega|simp<;>omega|fail) [-zE,a125,zfnc,zf0o,zwdn,zb4g,zixp,z4xq,zogs hv,hz,zewf ht,a,z3cj]
 have j:¬ (¬ ValidC c∨d=dg0∨¬ zcie t):=fun h=>h.elim (fun h=>h hv) (fun h=>h.elim hz (fun h=>h ht))
 have L:=hv.ni;have K:=hv.n0;by_cases g0:gr<0
 ·have a:z4wu c gr d t=(clu0,0,4):=by rw [z4wu,if_neg j,if_pos (.inl g0)]
  simp (disch:=first|omega|simp<;>omega|fail) [-zE,a125,zfnc,zf0o,zwdn,zb4g,zixp,z4xq,zogs hv,hz,zogs ht,g0,a,z3cj]
 by_cases g1:(c.g.l.length:Int)≤gr
 ·have a:z4wu c gr d t=(clu0,0,4):=by rw [z4wu,if_neg j,if_pos (.inr g1)]
  simp (disch:=first|omega|simp<;>omega|fail) [-zE,a125,zfnc,zf0o,zwdn,zb4g,zixp,z4xq,zogs hv,hz,zogs ht,g0,g1,a,z3cj]
 have o:¬ (gr<0∨(c.g.l.length:Int)≤gr):=fun h=>h.elim g0 g1
 by_cases l0:200≤c.i.l.length
 ·have p:(200:Int)≤c.i.l.length:=by omega
  have a:z4wu c gr d t=(clu0,0,3):=by rw [z4wu,if_neg j,if_neg o,if_pos (.inl l0)]
  simp (disch:=first|omega|simp<;>omega|fail) [-zE,a125,zfnc,zf0o,zwdn,zb4g,zixp,z4xq,zogs hv,hz,zogs ht,g0,g1,p,l0,a,z3cj]
 have p:¬ (200:Int)≤c.i.l.length:=by omega
 by_cases l1:1099511627776≤c.next
 ·have a:z4wu c gr d t=(clu0,0,3):=by rw [z4wu,if_neg j,if_neg o,if_pos (.inr l1)]
  simp (disch:=first|omega|simp<;>omega|fail) [-zE,a125,zfnc,zf0o,zwdn,zb4g,zixp,z4xq,zogs hv,hz,zogs ht,g0,g1,p,l0,l1,a,z3cj]
 have r:¬ (200≤c.i.l.length∨1099511627776≤c.next):=fun h=>h.elim l0 l1
 have a:z4wu c gr d t=(⟨c.clone.g,own (c.i.l++[newI c gr d t]),c.next+1⟩,c.next,0):=by rw [z4wu,if_neg j,if_neg o,if_neg r]
 have v:=zqrs (l:=c.i.l++[newI c gr d t]) (s:=37) (f:=inC) (by simp; omega)
 have F : ∀ l:List Grp,(l.flatMap grC).length=l.length*6:=z1rq zry4;have z : ∀ l:List Ins,(l.flatMap inC).length=l.length*37:=z1rq z6gw;have q:DV.int .i64 c.next::DV.int .i64 gr::(dgC d++[DV.int .i64 1,DV.int .i64 t,DV.int .i64 (-1)])=inC (newI c gr d t):=rfl;have u:c.g.l≠[]:=by intro e; rw [e] at g1; simp at g1; omega
 have A:=z895 (f:=grC) u;have B:=z2ra (id:=5) (s:=6) (f:=grC) (zkrv u);have C:=z895 (f:=grC) (zkrv u);have D:=zpgv u;have E:=zq57 (l:=c.g.l.map Grp.clone) (n:=c.g.l.length) (by simp)
 by_cases hi:c.i.l=[]
 ·have w:=fun id=>zpj6 (id:=id) (s:=37) (f:=inC) hi
  have y:=z4ry (f:=inC) hi;have G:=fun h cs=>zjad (x:=c.i) (s:=37) (b:=72) (m:=1) (f:=inC) (h:=h) (cs:=inC cs) hi (by decide) (by decide) (by simp) (by decide) (by decide)
  have v:(own (c.i.l++[newI c gr d t])).dv 37 inC = .sl false 37 1 (inC (newI c gr d t)):=by rw [v,hi]; simp
  simp (disch:=first|omega|simp<;>omega|fail) [-zE,a125,zfnc,zf0o,zwdn,zb4g,zixp,z4xq,zogs hv,hz,zogs ht,g0,g1,p,l0,l1,zulc,z1a8,clW,zbcp,zd00,q,a,zdhs,v,zbo5,A,B,C,G,D,E,w,y,F,z]
 ·have w:=fun id=>z2ra (id:=id) (s:=37) (f:=inC) hi
  have y:=z895 (f:=inC) hi;have I:(c.i.l.flatMap inC++inC (newI c gr d t)).take ((c.i.l.length+1)*37)=c.i.l.flatMap inC++inC (newI c gr d t):=y00 (by rw [List.length_append,z,z6gw]; omega)
  have J : ∀ H k,z4tt H k (c.i.l.flatMap inC++inC (newI c gr d t))=some (c.i.l.flatMap inC++inC (newI c gr d t)):=fun H k=>z619 (zg0c (zp6k z9kv _) (z9kv _))
  simp (disch:=first|omega|simp<;>omega|fail) [-zE,a125,zfnc,zf0o,zwdn,zb4g,zixp,z4xq,zogs hv,hz,zogs ht,g0,g1,p,l0,l1,zulc,z1a8,clW,zbcp,zd00,q,a,zdhs,v,zbo5,A,B,C,D,E,I,J,w,y,F,z]
theorem zy86 {l:List Ins} {k j:Nat} (h:k<l.length) (hj:j<37) {v:DV}:zk7y (l.flatMap inC) (k*37+j) [v]=(l.take k).flatMap inC++(zk7y (inC l[k]) j [v]++(l.drop (k+1)).flatMap inC):=by
 have a:=z6gw l[k];unfold zk7y;rw [y0q,List.take_add,z10w z6gw,zkb2 z6gw,Nat.add_assoc,← y06,zkb2 z6gw,y02 h,y01];rw [y05 (by omega),List.drop_append_of_le_length (by omega)]
 simp only [y0f]
theorem z8ez {l:List Ins} {k:Nat} (h:k<l.length) {y:Ins}:(l.set k y).flatMap inC=(l.take k).flatMap inC++(inC y++(l.drop (k+1)).flatMap inC):=by
 rw [y04,if_pos h,y0t,y01]
theorem zdp7 (x:Ins):inC x=(DV.int .i64 x.id :: .int .i64 x.grp::dgC x.art)++[.int .i64 x.state,.int .i64 x.since,.int .i64 x.den]:=rfl
theorem zqxx (x:Ins):(DV.int .i64 x.id :: .int .i64 x.grp::dgC x.art).length=34:=by simp
theorem zq62 (x:Ins) (v:Int):zk7y (inC x) 34 [.int .i64 v]=inC (x.st v):=by
 have h:=zqxx x;rw [zdp7,zdp7];unfold zk7y;rw [y05 (by omega),y00 (by omega),y0h,y03 (by simp),h]
 simp [Ins.st]
theorem z6lb (x:Ins) (v:Int):zk7y (inC x) 35 [.int .i64 v]=inC (x.si v):=by
 have h:=zqxx x;rw [zdp7,zdp7];unfold zk7y;rw [y0k,y00 (by omega),y0h,y03 (by simp),h]
 simp [Ins.si]
theorem zp4m (x:Ins) (v:Int):zk7y (inC x) 36 [.int .i64 v]=inC (x.de v):=by
 have h:=zqxx x;rw [zdp7,zdp7];unfold zk7y;rw [y0k,y00 (by omega),y0h,y03 (by simp),h]
 simp [Ins.de]
theorem zajs {H:List AObj} {id k:Nat} {l:List Ins} {v:Int} (h:k<l.length):zy6o H id 1 (k*37+34) (.int .i64 v) (some (l.flatMap inC))=some (.junk,H.set id (.cells ((l.set k (l[k].st v)).flatMap inC))):=by
 rw [zbcp rfl rfl (by rw [z1rq z6gw]; omega),zy86 h (by decide),zq62,z8ez h]
theorem zjzz {H:List AObj} {id k:Nat} {l:List Ins} {v:Int} (h:k<l.length):zy6o H id 1 (k*37+35) (.int .i64 v) (some (l.flatMap inC))=some (.junk,H.set id (.cells ((l.set k (l[k].si v)).flatMap inC))):=by
 rw [zbcp rfl rfl (by rw [z1rq z6gw]; omega),zy86 h (by decide),z6lb,z8ez h]
end
end Go.Proofs.YtaihpefemjlilaaGreatDoor

