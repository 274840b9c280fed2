/-
  51 texts of mine in one.
-/
import Derived.Lib.IndexLaws
import Derived.Test.YtjknipdiglpnlaaGreatDoorProg
import Derived.Test.YtjknipdiglpnlaaGreatDoorCb4aa5538
import Derived.Test.YtjknipdiglpnlaaGreatDoorC7567e9ca
import Derived.Test.YtjknipdiglpnlaaGreatDoorC4caf267d
set_option maxRecDepth 20000
set_option maxHeartbeats 4000000
open List renaming map_take → zA, map_drop → zB, map_set → zC, map_append → zD, drop_one → zE
set_option linter.unusedSimpArgs false
set_option linter.unusedVariables false
namespace Go.Proofs.YtjknipdiglpnlaaGreatDoor
open Go Go.Am
abbrev B8:=BitVec 8
inductive Pt where
 | one (c:B8)|dot|some|whole
deriving DecidableEq
def Pt.kind:Pt→Int
 | .one _=>0 | .dot=>1 | .some=>2 | .whole=>3
def Pt.chr:Pt→B8
 | .one c=>c|_=>0#8
def Pt.long:Pt→Bool
 | .some=>true | .whole=>true|_=>false
def Pt.takes:Pt→B8→Bool
 | .one c,b=>b == c | .whole,_=>true|_,b=>b != 47#8
def bAt (s:List UInt8) (i:Nat):B8:=(s.getD i 0).toBitVec
def row (x:Pt) (s:List UInt8) (prev:Nat→Bool):Nat→Bool
 | 0=>x.long&&prev 0
 | i+1=>if x.long then prev (i+1)||(row x s prev i&&x.takes (bAt s i)) else prev i&&x.takes (bAt s i)
def M (l:List Pt) (s:List UInt8):Nat→Nat→Bool
 | 0=>fun i=>i == 0
 | k+1=>row (l.getD k .dot) s (M l s k)
theorem zbas (l s) (i:Nat):M l s 0 i=(i == 0):=rfl
theorem z9av (l s) (k:Nat):M l s (k+1) 0=((l.getD k .dot).long&&M l s k 0):=rfl
theorem zbwv {l s} {k i:Nat} (h:(l.getD k .dot).long=true):M l s (k+1) (i+1)=(M l s k (i+1)||(M l s (k+1) i&&(l.getD k .dot).takes (bAt s i))):=by
 show row _ _ _ (i+1)=_
 rw [row,if_pos h]; rfl
theorem ze32 {l s} {k i:Nat} (h:(l.getD k .dot).long=false):M l s (k+1) (i+1)=(M l s k i&&(l.getD k .dot).takes (bAt s i)):=by
 show row _ _ _ (i+1)=_
 rw [row,if_neg (by rw [h]; simp)]
def prs:List UInt8→Option (List Pt)
 | [] => .some []
 | c::r =>
  if c.toBitVec=92#8 then
   match r with
   | []=>none
   | d::r'=>(prs r').map fun l => .one d.toBitVec::l
  else if c.toBitVec=42#8 then
   match r with
   | [] => .some [.some]
   | d::r'=>if d.toBitVec=42#8 then (prs r').map fun l => .whole::l else (prs (d::r')).map fun l => .some::l
  else if c.toBitVec=63#8 then (prs r).map fun l => .dot::l
  else (prs r).map fun l => .one c.toBitVec::l
def noZ (s:List UInt8):Bool:=s.all fun c=>c != 0
def zfn1 (p:List UInt8):Option (List Pt):=if 1≤p.length∧p.length≤200∧noZ p=true then prs p else none
def z2fg:List UInt8→List (List UInt8)
 | []=>[[]]
 | c::r=>if c=47 then []::z2fg r else
  match z2fg r with
  | []=>[[c]]
  | h::t=>(c::h)::t
def okC (x:List UInt8):Bool:=x != []&&x != [46]&&x != [46,46]
def zj1f (s:List UInt8):Bool:=decide (1≤s.length)&&decide (s.length≤200)&&noZ s&&(z2fg s).all okC
def zenh (p s:List UInt8):Bool:=match zfn1 p with
 | none=>false
 | .some l=>zj1f s&&M l s l.length s.length
theorem zq22 (c:UInt8):c.toBitVec.toNat.toUInt8=c:=by simp
theorem zf0z : ∀ (s:List UInt8),z2fg s≠[]
 | []=>by simp [z2fg]
 | c::r=>by
  rw [z2fg]
  split
  ·simp
  ·split<;>simp
theorem zjyx (r:List UInt8):z2fg (47::r)=[]::z2fg r:=by simp [z2fg]
theorem zyty {c:UInt8} {r h:List UInt8} {t:List (List UInt8)} (hc:c≠47) (hr:z2fg r=h::t):z2fg (c::r)=(c::h)::t:=by simp [z2fg,hc,hr]
theorem zzaw (r:List UInt8) : ∃ h t,z2fg r=h::t:=by
 cases e:z2fg r with
 | nil=>exact absurd e (zf0z r)
 | cons h t=>exact ⟨h,t,rfl⟩
theorem z1q7 (b:UInt8) (l:List UInt8) (c:UInt8):Lib.indexByte (b::l) c=if b=c then 0 else if Lib.indexByte l c = -1 then -1 else Lib.indexByte l c+1:=by
 simp [Lib.indexByte]
theorem zbf3 : ∀ {s:List UInt8},Lib.indexByte s 47 = -1→z2fg s=[s]
 | [],_=>rfl
 | c::r,h=>by
  rw [z1q7] at h
  split at h
  ·simp at h
  ·rename_i hc
   split at h
   ·rename_i hr; exact zyty hc (zbf3 hr)
   ·have:=Lib.indexByte_ge r 47; omega
theorem zjoj : ∀ {s:List UInt8} {o:Nat},Lib.indexByte s 47=o→z2fg s=s.take o::z2fg (s.drop (o+1))
 | [],o,h=>by simp [Lib.indexByte] at h
 | c::r,o,h=>by
  rw [z1q7] at h
  split at h
  ·rename_i hc
   have:o=0:=by omega
   subst this; subst hc
   simp [zjyx]
  ·rename_i hc
   split at h
   ·omega
   ·obtain ⟨o',rfl⟩ : ∃ o',o=o'+1:=⟨o-1,by have:=Lib.indexByte_ge r 47; omega⟩
    have:=zjoj (s:=r) (o:=o') (by omega)
    rw [zyty hc this]
    simp
theorem z9lv : ∀ (s:List UInt8),(z2fg s).length=Lib.countByte s 47+1
 | []=>rfl
 | c::r=>by
  have ih:=z9lv r
  obtain ⟨h,t,e⟩:=zzaw r
  by_cases hc:c=47
  ·subst hc; rw [zjyx]; simp [ih,Lib.countByte]
  ·rw [zyty hc e]
   rw [e] at ih
   simp [Lib.countByte,List.count_cons,hc] at ih ⊢
   exact ih
theorem zmnd : ∀ (a b:List UInt8),z2fg (a++47::b)=z2fg a++z2fg b
 | [],b=>by simp [z2fg]
 | c::a,b=>by
  have ih:=zmnd a b
  obtain ⟨h,t,e⟩:=zzaw a
  by_cases hc:c=47
  ·subst hc; rw [List.cons_append,zjyx,zjyx,ih]; rfl
  ·rw [List.cons_append,zyty hc e,zyty hc (h:=h) (t:=t++z2fg b) (by rw [ih,e]; rfl)]; rfl
theorem zc5k : ∀ (s:List UInt8),noZ s=decide (Lib.indexByte s 0 = -1)
 | []=>rfl
 | c::r=>by
  have ih:=zc5k r
  have hg:=Lib.indexByte_ge r 0
  have e:noZ (c::r)=(c != 0&&noZ r):=by simp [noZ]
  rw [e,ih,z1q7]
  by_cases hc:c=0
  ·simp [hc]
  ·by_cases hr:Lib.indexByte r 0 = -1
   ·simp [hc,hr]
   ·simp [hc,hr]; omega
theorem z8bu {s:List UInt8} {c:UInt8} {o:Nat} (h:Lib.indexByte s c=o):o<s.length:=by
 have:=(Lib.indexByte_some h).1
 exact (List.getElem?_eq_some_iff.1 this).1
end Go.Proofs.YtjknipdiglpnlaaGreatDoor
set_option linter.unusedSimpArgs false
set_option linter.unusedVariables false
namespace Go.Proofs.YtjknipdiglpnlaaGreatDoor
open Go Go.Am
abbrev Dg:={ a:List B8 // a.length=32 }
def dgC (d:Dg):List DV:=d.1.map w8
def dg0:Dg:=⟨rep 32 0#8,by simp [rep]⟩
theorem z1t1 (d:Dg):(dgC d).length=32:=by simp [dgC,d.2]
theorem z6je (d:Dg):zbao (dgC d)=true:=zdqb
theorem zib9 {a b:Dg} (h:dgC a=dgC b):a=b:=Subtype.ext (by rw [dgC,dgC,zwcl] at h; exact h)
structure Sl (α:Type) where
 k:Option Bool
 l:List α
 h:k=none→l=[]
 b:l.length≤4294967296
def Sl.dv {α:Type} (x:Sl α) (s:Nat) (f:α→List DV):DV:=slD x.k s x.l.length (x.l.flatMap f)
section
variable {α:Type} {f:α→List DV} {s:Nat} {h:List AObj} {x:Sl α} {n k:Nat}
theorem z1rq (hu : ∀ a,(f a).length=s) : ∀ (l:List α),(l.flatMap f).length=l.length*s
 | []=>by simp
 | a::l=>by rw [List.flatMap_cons,List.length_append,hu,z1rq hu l,List.length_cons,Nat.add_mul]; omega
theorem z10w (hu : ∀ a,(f a).length=s) : ∀ (l:List α) (i:Nat),(l.flatMap f).take (i*s)=(l.take i).flatMap f
 | [],i=>by simp
 | a::l,0=>by simp
 | a::l,i+1=>by
  have ha:=hu a
  rw [List.flatMap_cons,List.take_append,List.take_of_length_le (by rw [ha,Nat.add_mul]; omega),ha,show (i+1)*s-s=i*s from by rw [Nat.add_mul]; omega,z10w hu l,List.take_succ_cons,List.flatMap_cons]
theorem zkb2 (hu : ∀ a,(f a).length=s) : ∀ (l:List α) (i:Nat),(l.flatMap f).drop (i*s)=(l.drop i).flatMap f
 | [],i=>by simp
 | a::l,0=>by simp
 | a::l,i+1=>by
  have ha:=hu a
  rw [List.flatMap_cons,List.drop_append,List.drop_of_length_le (by rw [ha,Nat.add_mul]; omega),ha,show (i+1)*s-s=i*s from by rw [Nat.add_mul]; omega,zkb2 hu l,List.nil_append,List.drop_succ_cons]
theorem zdao (hu : ∀ a,(f a).length=s) {l:List α} {i:Nat} (hi:i<l.length):((l.flatMap f).drop (i*s)).take s=f l[i]:=by
 rw [zkb2 hu,List.drop_eq_getElem_cons hi,List.flatMap_cons,List.take_left' (hu _)]
theorem zg0c : ∀ {a b:List DV},zbao a=true→zbao b=true→zbao (a++b)=true
 | [],_,_,h=>h
 | d::r,b,h1,h2=>by simp only [List.cons_append,zbao,Bool.and_eq_true] at *; exact ⟨h1.1,zg0c h1.2 h2⟩
theorem zp6k (hp : ∀ a,zbao (f a)=true) : ∀ (l:List α),zbao (l.flatMap f)=true
 | []=>rfl
 | a::l=>by rw [List.flatMap_cons]; exact zg0c (hp a) (zp6k hp l)
theorem z47w (hu : ∀ a,(f a).length=s) {l:List α} {i:Nat} (hi:i<l.length) (b:α):zk7y (l.flatMap f) (i*s) (f b)=(l.set i b).flatMap f:=by
 unfold zk7y
 rw [z10w hu,hu b,show i*s+s=(i+1)*s by rw [Nat.add_mul,Nat.one_mul],zkb2 hu,List.set_eq_take_append_cons_drop,if_pos hi]
 simp
theorem zxxb (hp : ∀ a,zbao (f a)=true) (x:Sl α):zyp8 (x.dv s f)=true:=by
 obtain ⟨k,l,h,hb1⟩:=x
 cases k with
 | none=>rfl
 | some b=>show zbao _=true; exact zp6k hp l
theorem z4ja (x:Sl α):(x.dv s f).one=true:=by obtain ⟨k,l,h,hb1⟩:=x; cases k<;>rfl
theorem ztw5 (x:Sl α):(x.dv s f).known=true:=by obtain ⟨k,l,h,hb1⟩:=x; cases k<;>rfl
theorem zfr8 (x:Sl α):(x.dv s f).cells=[x.dv s f]:=by obtain ⟨k,l,h,hb1⟩:=x; cases k<;>rfl
theorem zupj:lenD h (x.dv s f)=some (.int .i64 x.l.length):=by
 obtain ⟨k,l,h,hb1⟩:=x
 cases k with
 | none=>cases h rfl; rfl
 | some b=>rfl
theorem zalo (hu : ∀ a,(f a).length=s) {i:Nat} (hi:i<x.l.length):zpsc h s (x.dv s f) i=some (.ref (f x.l[i])):=by
 obtain ⟨k,l,h,hb1⟩:=x
 cases k with
 | none=>cases h rfl; simp at hi
 | some b =>
  simp only [Sl.dv,zip4]
  rw [zsu0 (by omega) (by simp only at hi; omega),Int.toNat_natCast,zdao hu hi]
theorem zllv (hu : ∀ a,(f a).length=s):visS h (x.dv s f)=some (x.l.length,x.l.flatMap f):=zplv (fun e=>by simp [x.h e]) (z1rq hu _)
theorem zwaa (hu : ∀ a,(f a).length=s):visY h (x.dv s f)=some (x.l.length,x.l.flatMap f):=by
 rw [← zllv (h:=h) hu]
 obtain ⟨k,l,h,hb1⟩:=x; cases k<;>rfl
def Sl.part (x:Sl α) (i j:Nat) (b:Bool):Sl α:=⟨x.k.map fun c=>c&&b,(x.l.drop i).take (j-i),fun e=>by simp at e; simp [x.h e],by have:=x.b; simp; omega⟩
theorem z0ke (hu : ∀ a,(f a).length=s) {lo hi:Option DV} {i j:Nat} (hb:zo77 x.l.length lo hi=some (i,j)) (hij:j≤x.l.length):ziwb h s (x.dv s f) lo hi none=some ((x.part i j (j == x.l.length)).dv s f):=by
 obtain ⟨k,l,h,hb1⟩:=x
 cases k with
 | none=>cases h rfl; simp at hb hij; simp only [Sl.dv,z6vl,Sl.part,Option.map_none]; rw [zmk5 hb]
 | some b =>
  simp only at hb hij
  simp only [Sl.dv,zip4,Sl.part,Option.map_some]
  rw [zygc hb,zkb2 hu,z10w hu]
  simp only [List.length_take,List.length_drop]
  congr 2
  omega
theorem z2x3:zrfk h (x.dv s f)=some (0,x.k.isNone):=by obtain ⟨k,l,h,hb1⟩:=x; cases k<;>rfl
end
structure Grp where
 ns:List UInt8
 im:List UInt8
 want:Int
 least:Int
 down:Int
 ch:Sl Dg
def grC (g:Grp):List DV:=[.str g.ns,.str g.im,.int .i64 g.want,.int .i64 g.least,.int .i64 g.down,g.ch.dv 32 dgC]
structure Ins where
 id:Int
 grp:Int
 art:Dg
 state:Int
 since:Int
 den:Int
 deriving DecidableEq
def inC (x:Ins):List DV := .int .i64 x.id :: .int .i64 x.grp::(dgC x.art++[.int .i64 x.state,.int .i64 x.since,.int .i64 x.den])
structure Clu where
 g:Sl Grp
 i:Sl Ins
 next:Int
def clC (c:Clu):List DV:=[c.g.dv 6 grC,c.i.dv 37 inC,.int .i64 c.next]
theorem zry4 (g:Grp):(grC g).length=6:=by simp [grC]
theorem z6gw (x:Ins):(inC x).length=37:=by simp [inC,z1t1]
theorem zlha (c:Clu):(clC c).length=3:=by simp [clC]
theorem zpfc (x:Sl Dg):zyp8 (x.dv 32 dgC)=true:=zxxb z6je x
theorem zxeb (g:Grp):zbao (grC g)=true:=by simp [grC,zbao,zyp8,zpfc]
theorem z9kv (x:Ins):zbao (inC x)=true:=by
 simp only [inC,zbao,zyp8,Bool.true_and]
 exact zg0c (z6je _) (by simp [zbao,zyp8])
theorem z1vd (x:Sl Grp):zyp8 (x.dv 6 grC)=true:=zxxb zxeb x
theorem zcha (x:Sl Ins):zyp8 (x.dv 37 inC)=true:=zxxb z9kv x
theorem zy11 (c:Clu):zbao (clC c)=true:=by simp [clC,zbao,zyp8,z1vd,zcha]
theorem zrji (x:Ins):(inC x).drop 2=dgC x.art++[.int .i64 x.state,.int .i64 x.since,.int .i64 x.den]:=rfl
theorem zlh1 (x:Ins):(inC x).drop 34=[.int .i64 x.state,.int .i64 x.since,.int .i64 x.den]:=by
 rw [show (34:Nat)=2+32 from rfl,← List.drop_drop,zrji,List.drop_left' (z1t1 _)]
theorem z3vc (x:Ins):(inC x).drop 35=[.int .i64 x.since,.int .i64 x.den]:=by
 rw [show (35:Nat)=34+1 from rfl,← List.drop_drop,zlh1]; rfl
theorem zlte (x:Ins):(inC x).drop 36=[.int .i64 x.den]:=by
 rw [show (36:Nat)=34+2 from rfl,← List.drop_drop,zlh1]; rfl
section
variable {x:Ins} {g:Grp} {c:Clu} {d:Dg} {r:List DV}
theorem zgz3:oneC 1 false (inC x)=some (.int .i64 x.id):=rfl
theorem zyv0:oneC 1 false ((inC x).drop 1)=some (.int .i64 x.grp):=rfl
theorem zm6n:oneC 32 true ((inC x).drop 2)=some (.agg (dgC x.art)):=by
 rw [zrji]; simp only [oneC,if_true]; rw [if_pos (by simp [z1t1]),List.take_left' (z1t1 _)]
theorem zvh3:oneC 1 false ((inC x).drop 34)=some (.int .i64 x.state):=by rw [zlh1]; rfl
theorem zmwz:oneC 1 false ((inC x).drop 35)=some (.int .i64 x.since):=by rw [z3vc]; rfl
theorem z0hu:oneC 1 false ((inC x).drop 36)=some (.int .i64 x.den):=by rw [zlte]; rfl
theorem zisq:oneC 37 true (inC x)=some (.agg (inC x)):=by simp [oneC,z6gw,List.take_of_length_le]
theorem zuce:oneC 6 true (grC g)=some (.agg (grC g)):=rfl
theorem zn7v:oneC 1 false (grC g)=some (.str g.ns):=rfl
theorem zuiq:oneC 1 false ((grC g).drop 1)=some (.str g.im):=rfl
theorem zhlv:oneC 1 false ((grC g).drop 2)=some (.int .i64 g.want):=rfl
theorem z9em:oneC 1 false ((grC g).drop 3)=some (.int .i64 g.least):=rfl
theorem z8ho:oneC 1 false ((grC g).drop 4)=some (.int .i64 g.down):=rfl
theorem zmm6:oneC 1 false ((grC g).drop 5)=some (g.ch.dv 32 dgC):=rfl
theorem zei9:oneC 3 true (clC c)=some (.agg (clC c)):=rfl
theorem zhtb:oneC 1 false (clC c)=some (c.g.dv 6 grC):=rfl
theorem zxyh:oneC 1 false ((clC c).drop 1)=some (c.i.dv 37 inC):=rfl
theorem zawu:oneC 1 false ((clC c).drop 2)=some (.int .i64 c.next):=rfl
theorem zwwo:oneC 32 true (dgC d)=some (.agg (dgC d)):=by simp [oneC,z1t1,List.take_of_length_le]
theorem zkf8 {off n:Nat} {a:Bool} (hl:off+n≤37):zhj0 off n a (.agg (inC x))=oneC n a ((inC x).drop off):=by simp [zhj0,z6gw,hl]
theorem z28g {off n:Nat} {a:Bool} (hl:off+n≤6):zhj0 off n a (.agg (grC g))=oneC n a ((grC g).drop off):=by simp [zhj0,zry4,hl]
theorem z715 {off n:Nat} {a:Bool} (hl:off+n≤3):zhj0 off n a (.agg (clC c))=oneC n a ((clC c).drop off):=by simp [zhj0,zlha,hl]
end
attribute [simp] z1t1 zry4 z6gw zlha zupj z2x3 z4ja ztw5 zfr8 zgz3 zyv0 zm6n zvh3 zmwz z0hu zisq zuce zn7v zuiq zhlv z9em z8ho zmm6 zei9 zhtb zxyh zawu zwwo zkf8 z28g z715 z6je zxeb z9kv zy11 zpfc z1vd zcha
theorem zid2 : ∀ {ks1 ks2:List Nat} {a1 a2 b1 b2:List DV},a1.length=ks1.length→b1.length=ks1.length→z32s (ks1++ks2) (a1++a2) (b1++b2)=(z32s ks1 a1 b1).bind fun p=>(z32s ks2 a2 b2).map fun q=>p&&q
 | [],ks2,[],a2,[],b2,_,_=>by simp [z32s]
 | k::ks1,ks2,x::a1,a2,y::b1,b2,h1,h2=>by
  simp only [List.cons_append,z32s,zid2 (ks1:=ks1) (a1:=a1) (b1:=b1) (by simpa using h1) (by simpa using h2)]
  cases znnj k x y<;>simp only [Option.bind_none,Option.bind_some]
  cases z32s ks1 a1 b1<;>simp only [Option.bind_none,Option.bind_some,Option.map_none,Option.map_some]
  cases z32s ks2 a2 b2<;>simp only [Option.map_none,Option.map_some,Bool.and_assoc]
theorem zyiz {a b:Dg}:z32s (zi5g [(32,0)]) (dgC a) (dgC b)=some (decide (a=b)):=by
 rw [dgC,dgC,zgre a.2 b.2]
 simp only [Subtype.ext_iff]
theorem zbik {a b c a' b' c':Int}:z32s [0,0,0] [.int .i64 a,.int .i64 b,.int .i64 c] [.int .i64 a',.int .i64 b',.int .i64 c']=some (decide (a=a'∧b=b'∧c=c')):=by
 simp [z32s,znnj]; rfl
theorem z540 {a b a' b':Int}:z32s [0,0] [.int .i64 a,.int .i64 b] [.int .i64 a',.int .i64 b']=some (decide (a=a'∧b=b')):=by
 simp [z32s,znnj]; rfl
theorem zmar {x y:Ins}:z32s (zi5g [(37,0)]) (inC x) (inC y)=some (decide (x=y)):=by
 have e:zi5g [(37,0)]=[0,0]++(zi5g [(32,0)]++[0,0,0]):=by decide
 have e1 : ∀ x:Ins,inC x=[.int .i64 x.id,.int .i64 x.grp]++(dgC x.art++[.int .i64 x.state,.int .i64 x.since,.int .i64 x.den]):=fun _=>rfl
 rw [e,e1,e1,zid2 rfl rfl,zid2 (by simp [z1t1,zi5g]) (by simp [z1t1,zi5g]),zyiz,z540,zbik]
 obtain ⟨a,b,c,d,e,f⟩:=x
 obtain ⟨a',b',c',d',e',f'⟩:=y
 simp only [Option.bind_some,Option.map_some,Ins.mk.injEq,Option.some.injEq,Bool.decide_and,Bool.and_assoc]
theorem z4hl:rep 32 (w8 0#8)=dgC dg0:=by rw [dgC,dg0,zi7v]
theorem zii6:List.map w8 (rep 32 0#8)=dgC dg0:=rfl
attribute [simp] zyiz zmar zii6
def ixI {α:Type} (p:α→Bool):List α→Int
 | [] => -1
 | a::l=>if p a=true then 0 else if ixI p l<0 then -1 else ixI p l+1
end Go.Proofs.YtjknipdiglpnlaaGreatDoor
set_option linter.unusedSimpArgs false
set_option linter.unusedVariables false
namespace Go.Proofs.YtjknipdiglpnlaaGreatDoor
open Go Go.Am
def okCh (l:List Dg):Prop := ∀ i (h:i<l.length),l[i]≠dg0∧l[i] ∉ l.take i
structure ValidG (g:Grp):Prop where
 ns:zj1f g.ns=true
 im:zj1f g.im=true
 w0:0≤g.want
 w1:g.want≤8
 l0:0≤g.least
 l1:g.least≤g.want
 d0:0≤g.down
 d1:g.down≤g.want
 n:g.ch.l.length≤6
 ch:okCh g.ch.l
def fitG (ns im:List UInt8) (g:Grp):Bool:=decide (g.ns=ns)&&decide (g.im=im)
def z9w0 (l:List Grp) (ns im:List UInt8):Int:=ixI (fitG ns im) l
abbrev z7dc (t:Int):Prop:=0≤t∧t≤1099511627776
structure SoundI (n:Nat) (next:Int) (x:Ins):Prop where
 id0:1≤x.id
 id1:x.id<next
 g0:0≤x.grp
 g1:x.grp<n
 art:x.art≠dg0
 s0:1≤x.state
 s1:x.state≤3
 si:z7dc x.since
 de:x.den = -1∨z7dc x.den
structure ValidC (c:Clu):Prop where
 ng:c.g.l.length≤16
 ni:c.i.l.length≤200
 n0:1≤c.next
 n1:c.next≤1099511627776
 g : ∀ i (h:i<c.g.l.length),ValidG c.g.l[i]∧z9w0 c.g.l c.g.l[i].ns c.g.l[i].im=i
 i : ∀ i (h:i<c.i.l.length),SoundI c.g.l.length c.next c.i.l[i]∧(∀ h0:0<i,c.i.l[i-1].id<c.i.l[i].id)
def own {α:Type} (l:List α):Sl α:=if h:l.length≤4294967296 then ⟨some false,l,by simp,h⟩ else ⟨none,[],fun _=>rfl,by simp⟩
theorem z3e9 {α:Type} {l:List α} (h:l.length≤4294967296):(own l).l=l:=by rw [own,dif_pos h]
theorem zqrs {α:Type} {l:List α} {s:Nat} {f:α→List DV} (h:l.length≤4294967296):(own l).dv s f = .sl false s l.length (l.flatMap f):=by rw [own,dif_pos h]; rfl
def gl (g:Grp):List UInt8 × List UInt8 × Int × Int × Int × List Dg:=(g.ns,g.im,g.want,g.least,g.down,g.ch.l)
structure SameC (a b:Clu):Prop where
 g:a.g.l.map gl=b.g.l.map gl
 i:a.i.l=b.i.l
 n:a.next=b.next
theorem SameC.refl (a:Clu):SameC a a:=⟨rfl,rfl,rfl⟩
def Ins.st (x:Ins) (v:Int):Ins:=⟨x.id,x.grp,x.art,v,x.since,x.den⟩
def Ins.si (x:Ins) (v:Int):Ins:=⟨x.id,x.grp,x.art,x.state,v,x.den⟩
def Ins.de (x:Ins) (v:Int):Ins:=⟨x.id,x.grp,x.art,x.state,x.since,v⟩
end Go.Proofs.YtjknipdiglpnlaaGreatDoor
set_option linter.unusedSimpArgs false
set_option linter.unusedVariables false
namespace Go.Proofs.YtjknipdiglpnlaaGreatDoor
open Go Go.Am
noncomputable abbrev P:Program:=Tryz.prog
theorem mix:P.follows .mixedOrders=true:=by kernel_rfl
end Go.Proofs.YtjknipdiglpnlaaGreatDoor
set_option linter.unusedSimpArgs false
set_option linter.unusedVariables false
namespace Go.Proofs.YtjknipdiglpnlaaGreatDoor
open Go Go.Am
def a17:AFn where
 code:=(.seq (.region false [⟨none,(some 4),.mov (.k (.int .i64 0))⟩])
 (.seq (.seq (.region false [⟨none,(some 6),.mov (.t 1)⟩,
  ⟨none,(some 7),.bin .lss (.t 6) (.k (.int .i64 1))⟩])
 (.cond (.t 7) (.seq (.region false [⟨none,(some 4),.mov (.k (.int .i64 0))⟩])
 .ret)
 .skip))
 (.seq (.region false [⟨none,(some 8),.mov (.t 0)⟩,
  ⟨none,(some 9),.nilc (.t 8)⟩,
  ⟨none,(some 10),.fld 1 (.t 9)⟩,
  ⟨none,(some 11),.load 1 false (.t 10)⟩,
  ⟨none,(some 12),.bin .mul (.t 11) (.k (.int .i64 7))⟩,
  ⟨none,(some 13),.bin .add (.t 12) (.k (.int .i64 3))⟩,
  ⟨none,(some 5),.mov (.t 13)⟩])
 (.seq (.seq (.region true [⟨none,(some 14),.mov (.t 0)⟩,
  ⟨none,(some 15),.nilc (.t 14)⟩,
  ⟨none,(some 16),.fld 1 (.t 15)⟩,
  ⟨none,(some 17),.load 1 false (.t 16)⟩,
  ⟨none,(some 18),.mov (.t 0)⟩,
  ⟨none,(some 19),.nilc (.t 18)⟩,
  ⟨none,(some 20),.fld 0 (.t 19)⟩,
  ⟨none,(some 21),.load 1 false (.t 20)⟩,
  ⟨none,(some 22),.len (.t 21)⟩,
  ⟨none,(some 23),.bin .lss (.t 17) (.t 22)⟩])
 (.cond (.t 23) (.region true [⟨none,(some 24),.mov (.t 0)⟩,
  ⟨none,(some 25),.nilc (.t 24)⟩,
  ⟨none,(some 26),.fld 0 (.t 25)⟩,
  ⟨none,(some 27),.load 1 false (.t 26)⟩,
  ⟨none,(some 28),.mov (.t 0)⟩,
  ⟨none,(some 29),.nilc (.t 28)⟩,
  ⟨none,(some 30),.fld 1 (.t 29)⟩,
  ⟨none,(some 31),.load 1 false (.t 30)⟩,
  ⟨none,(some 32),.idxS 1 (.t 27) (.t 31)⟩,
  ⟨none,(some 33),.load 1 false (.t 32)⟩,
  ⟨none,(some 5),.mov (.t 33)⟩])
 .skip))
 (.seq (.region false [⟨none,(some 34),.mov (.t 0)⟩,
  ⟨none,(some 35),.nilc (.t 34)⟩,
  ⟨none,(some 36),.fld 1 (.t 35)⟩,
  ⟨none,(some 37),.load 1 false (.t 36)⟩,
  ⟨none,(some 38),.bin .add (.t 37) (.k (.int .i64 1))⟩,
  ⟨none,(some 39),.nilc (.t 34)⟩,
  ⟨none,(some 40),.fld 1 (.t 39)⟩,
  ⟨none,none,.store 1 (.t 40) (.t 38)⟩])
 (.seq (.region false [⟨none,(some 41),.mov (.t 5)⟩,
  ⟨none,(some 42),.mov (.t 1)⟩,
  ⟨none,(some 43),.bin .rem (.t 41) (.t 42)⟩,
  ⟨none,(some 44),.mov (.t 1)⟩,
  ⟨none,(some 45),.bin .add (.t 43) (.t 44)⟩,
  ⟨none,(some 46),.mov (.t 1)⟩,
  ⟨none,(some 47),.bin .rem (.t 45) (.t 46)⟩,
  ⟨none,(some 4),.mov (.t 47)⟩])
 .ret))))))
 ntmps:=48
 res:=[.tmp 4]
theorem zcaf:zsjc P Tryz.f17=some a17:=by kernel_rfl
def a45:AFn where
 code:=(.seq (.region false [⟨none,(some 4),.mov (.k (.str []))⟩])
 (.seq (.region false [⟨none,(some 5),.mov (.t 1)⟩,
  ⟨none,(some 6),.mov (.t 0)⟩,
  ⟨none,(some 7),.mov (.t 1)⟩,
  ⟨none,(some 8),.len (.t 7)⟩,
  ⟨none,(some 9),.call (.k (.fn (.func 17) [] [])) [(.t 6),(.t 8)]⟩,
  ⟨none,(some 10),.idxS 1 (.t 5) (.t 9)⟩,
  ⟨none,(some 11),.load 1 false (.t 10)⟩,
  ⟨none,(some 4),.mov (.t 11)⟩])
 .ret))
 ntmps:=12
 res:=[.tmp 4]
theorem z94d:zsjc P Tryz.f45=some a45:=by kernel_rfl
def a39:AFn where
 code:=(.seq (.region false [⟨none,(some 2),.alloc (rep 32 (w8 0#8))⟩])
 (.seq (.region false [⟨none,(some 3),.mov (.t 0)⟩,
  ⟨none,(some 4),.call (.k (.fn (.func 17) [] [])) [(.t 3),(.k (.int .i64 6))]⟩,
  ⟨none,(some 5),.bin .add (.k (.int .i64 1)) (.t 4)⟩,
  ⟨none,(some 6),.conv .u8 (.t 5)⟩,
  ⟨none,(some 7),.build (rep 32 (w8 0#8)) [(0,1,(.t 6))]⟩,
  ⟨none,none,.store 32 (.t 2) (.t 7)⟩])
 .ret))
 ntmps:=8
 res:=[.cell 2 32 true]
theorem zjwo:zsjc P Tryz.f39=some a39:=by kernel_rfl
end Go.Proofs.YtjknipdiglpnlaaGreatDoor
set_option linter.unusedSimpArgs false
set_option linter.unusedVariables false
namespace Go.Proofs.YtjknipdiglpnlaaGreatDoor
open Go Go.Am
section
variable {α β:Type} {lt:α→α→Bool}
def insR (lt:α→α→Bool) (x:α) (l:List α):List α:=(l.reverse.dropWhile (lt x)).reverse++x::(l.reverse.takeWhile (lt x)).reverse
theorem zv9v {x:α} {A B:List α} (hB : ∀ b ∈ B,lt x b=true) (hA:A=[] ∨ ∃ (A':List α) (y:α),A=A'++[y]∧lt x y=false):insR lt x (A++B)=A++x::B:=by
 unfold insR
 have hB' : ∀ b ∈ B.reverse,lt x b=true:=fun b hb=>hB b (List.mem_reverse.1 hb)
 rw [List.reverse_append]
 rw [List.dropWhile_append_of_pos hB',List.takeWhile_append_of_pos hB']
 rcases hA with rfl|⟨A',y,rfl,hy⟩
 ·simp
 ·simp [List.dropWhile_cons,List.takeWhile_cons,hy]
theorem zcx2 {x:α} {l:List α}:(insR lt x l).Perm (x::l):=by
 unfold insR
 refine List.perm_middle.trans (List.Perm.cons x ?_)
 rw [← List.reverse_append,List.takeWhile_append_dropWhile]
 simp
theorem zpre {p:α→Bool} : ∀ {l:List α},l.dropWhile p=[] ∨ ∃ y r,l.dropWhile p=y::r∧p y=false
 | [] => .inl rfl
 | a::l=>by
  rw [List.dropWhile_cons]
  cases h:p a with
  | true=>exact zpre
  | false=>exact .inr ⟨a,l,rfl,h⟩
theorem zeqt {p:α→Bool} : ∀ {l:List α},∀ b ∈ l.takeWhile p,p b=true
 | [],b,h=>by simp at h
 | a::l,b,h=>by
  rw [List.takeWhile_cons] at h
  cases ha:p a with
  | true =>
   rw [ha,if_pos rfl] at h
   rcases List.mem_cons.1 h with rfl|h
   ·exact ha
   ·exact zeqt b h
  | false=>rw [ha] at h; simp at h
theorem zyus (x:α) (l:List α) : ∃ A B,l=A++B∧insR lt x l=A++x::B∧(∀ b ∈ B,lt x b=true)∧(A=[] ∨ ∃ (A':List α) (y:α),A=A'++[y]∧lt x y=false):=by
 refine ⟨(l.reverse.dropWhile (lt x)).reverse,(l.reverse.takeWhile (lt x)).reverse,?_,rfl,fun b hb=>zeqt b (List.mem_reverse.1 hb),?_⟩
 ·rw [← List.reverse_append,List.takeWhile_append_dropWhile,List.reverse_reverse]
 ·rcases zpre (p:=lt x) (l:=l.reverse) with h|⟨y,r,h,hy⟩
  ·exact .inl (by rw [h]; rfl)
  ·exact .inr ⟨r.reverse,y,by rw [h,List.reverse_cons],hy⟩
end
structure GoodI (l:List Ins):Prop where
 s : ∀ x ∈ l,1≤x.state∧x.state≤3 ∧ -1≤x.den
 d:l.Pairwise (fun x y=>x.id<y.id)
end Go.Proofs.YtjknipdiglpnlaaGreatDoor
set_option linter.unusedSimpArgs false
set_option linter.unusedVariables false
namespace Go.Proofs.YtjknipdiglpnlaaGreatDoor
open Go Go.Am
end Go.Proofs.YtjknipdiglpnlaaGreatDoor
set_option linter.unusedSimpArgs false
set_option linter.unusedVariables false
namespace Go.Proofs.YtjknipdiglpnlaaGreatDoor
open Go Go.Am
end Go.Proofs.YtjknipdiglpnlaaGreatDoor
set_option linter.unusedSimpArgs false
set_option linter.unusedVariables false
namespace Go.Proofs.YtjknipdiglpnlaaGreatDoor
open Go Go.Am
end Go.Proofs.YtjknipdiglpnlaaGreatDoor
set_option linter.unusedSimpArgs false
set_option linter.unusedVariables false
namespace Go.Proofs.YtjknipdiglpnlaaGreatDoor
open Go Go.Am
def zy47:ACode :=
 (.seq (.seq (.region false [⟨none,(some 7),.mov (.t 4)⟩,
  ⟨none,(some 8),.bin .gtr (.t 7) (.k (.int .i64 0))⟩])
 (.cond (.t 8) .skip
 (.exit 0)))
 (.seq (.block 1 (.region false [⟨none,(some 11),.mov (.t 3)⟩,
  ⟨none,(some 12),.mov (.t 0)⟩,
  ⟨none,(some 13),.bsl 1 5 [(.str [])] [(0,1,(.k (.str [97]))),(1,1,(.k (.str [98]))),(2,1,(.k (.str [115,114,99]))),(3,1,(.k (.str [111,117,116]))),(4,1,(.k (.str [108,105,98])))]⟩,
  ⟨none,(some 14),.call (.k (.fn (.func 45) [] [])) [(.t 12),(.t 13)]⟩,
  ⟨none,(some 15),.bin .add (.t 11) (.t 14)⟩,
  ⟨none,(some 16),.bin .add (.t 15) (.k (.str [47]))⟩,
  ⟨none,(some 3),.mov (.t 16)⟩]))
 (.region false [⟨none,(some 9),.mov (.t 4)⟩,
  ⟨none,(some 10),.bin .sub (.t 9) (.k (.int .i64 1))⟩,
  ⟨none,(some 4),.mov (.t 10)⟩])))
def zqr3 (x0 x3 x4:DV) (h:List AObj):St:=⟨[x0,.junk,.junk,x3,x4]++js 17,h⟩
def a38:AFn where
 code:=(.seq (.region false [⟨none,(some 2),.mov (.k (.str []))⟩])
 (.seq (.region false [⟨none,(some 3),.mov (.k (.str []))⟩])
 (.seq (.seq (.region false [⟨none,(some 5),.mov (.t 0)⟩,
  ⟨none,(some 6),.call (.k (.fn (.func 17) [] [])) [(.t 5),(.k (.int .i64 3))]⟩,
  ⟨none,(some 4),.mov (.t 6)⟩])
 (.block 0 (.loop zy47)))
 (.seq (.region false [⟨none,(some 17),.mov (.t 3)⟩,
  ⟨none,(some 18),.mov (.t 0)⟩,
  ⟨none,(some 19),.bsl 1 6 [(.str [])] [(0,1,(.k (.str [97]))),(1,1,(.k (.str [98]))),(2,1,(.k (.str [97,46,99]))),(3,1,(.k (.str [98,46,104]))),(4,1,(.k (.str [120]))),(5,1,(.k (.str [111,117,116])))]⟩,
  ⟨none,(some 20),.call (.k (.fn (.func 45) [] [])) [(.t 18),(.t 19)]⟩,
  ⟨none,(some 21),.bin .add (.t 17) (.t 20)⟩,
  ⟨none,(some 2),.mov (.t 21)⟩])
 .ret))))
 ntmps:=22
 res:=[.tmp 2]
theorem zclx:zsjc P Tryz.f38=some a38:=by kernel_rfl
def z01n:ACode :=
 (.seq (.seq (.region false [⟨none,(some 8),.mov (.t 6)⟩,
  ⟨none,(some 9),.mov (.t 0)⟩,
  ⟨none,(some 10),.len (.t 9)⟩,
  ⟨none,(some 11),.bin .lss (.t 8) (.t 10)⟩])
 (.cond (.t 11) .skip
 (.exit 0)))
 (.seq (.block 1 (.seq (.region true [⟨none,(some 14),.mov (.t 0)⟩,
  ⟨none,(some 15),.mov (.t 6)⟩,
  ⟨none,(some 16),.idxS 33 (.t 14) (.t 15)⟩,
  ⟨none,(some 17),.fld 0 (.t 16)⟩,
  ⟨none,(some 18),.load 1 false (.t 17)⟩,
  ⟨none,(some 19),.fld 0 (.t 3)⟩,
  ⟨none,(some 20),.load 1 false (.t 19)⟩,
  ⟨none,(some 21),.bin .neq (.t 18) (.t 20)⟩])
 (.cond (.t 21) (.region false [⟨none,(some 22),.mov (.t 5)⟩,
  ⟨none,(some 23),.mov (.t 0)⟩,
  ⟨none,(some 24),.mov (.t 6)⟩,
  ⟨none,(some 25),.idxS 33 (.t 23) (.t 24)⟩,
  ⟨none,(some 26),.load 33 true (.t 25)⟩,
  ⟨none,(some 27),.bsl 33 1 [(.str []),(w8 0#8),(w8 0#8),(w8 0#8),(w8 0#8),(w8 0#8),(w8 0#8),(w8 0#8),(w8 0#8),(w8 0#8),(w8 0#8),(w8 0#8),(w8 0#8),(w8 0#8),(w8 0#8),(w8 0#8),(w8 0#8),(w8 0#8),(w8 0#8),(w8 0#8),(w8 0#8),(w8 0#8),(w8 0#8),(w8 0#8),(w8 0#8),(w8 0#8),(w8 0#8),(w8 0#8),(w8 0#8),(w8 0#8),(w8 0#8),(w8 0#8),(w8 0#8)] [(0,33,(.t 26))]⟩,
  ⟨none,(some 28),.app 33 48 (.t 22) (.t 27)⟩,
  ⟨none,(some 5),.mov (.t 28)⟩])
 .skip)))
 (.region false [⟨none,(some 12),.mov (.t 6)⟩,
  ⟨none,(some 13),.bin .add (.t 12) (.k (.int .i64 1))⟩,
  ⟨none,(some 6),.mov (.t 13)⟩])))
def zznl (x0 x3 x5 x6:DV) (h:List AObj):St:=⟨[x0,.junk,.junk,x3,.junk,x5,x6]++js 64,h⟩
def z0dk:ACode :=
 (.seq (.seq (.region true [⟨none,(some 36),.mov (.t 7)⟩,
  ⟨none,(some 37),.bin .gtr (.t 36) (.k (.int .i64 0))⟩,
  ⟨none,(some 38),.mov (.t 37)⟩,
  ⟨(some (38,true)),(some 39),.mov (.t 5)⟩,
  ⟨(some (38,true)),(some 40),.mov (.t 7)⟩,
  ⟨(some (38,true)),(some 41),.idxS 33 (.t 39) (.t 40)⟩,
  ⟨(some (38,true)),(some 42),.fld 0 (.t 41)⟩,
  ⟨(some (38,true)),(some 43),.load 1 false (.t 42)⟩,
  ⟨(some (38,true)),(some 44),.mov (.t 5)⟩,
  ⟨(some (38,true)),(some 45),.mov (.t 7)⟩,
  ⟨(some (38,true)),(some 46),.bin .sub (.t 45) (.k (.int .i64 1))⟩,
  ⟨(some (38,true)),(some 47),.idxS 33 (.t 44) (.t 46)⟩,
  ⟨(some (38,true)),(some 48),.fld 0 (.t 47)⟩,
  ⟨(some (38,true)),(some 49),.load 1 false (.t 48)⟩,
  ⟨(some (38,true)),(some 50),.bin .lss (.t 43) (.t 49)⟩,
  ⟨none,(some 51),.pick (.t 38) (.t 50) (.k (.bool false))⟩])
 (.cond (.t 51) .skip
 (.exit 2)))
 (.seq (.block 3 (.region true [⟨none,(some 54),.mov (.t 5)⟩,
  ⟨none,(some 55),.mov (.t 7)⟩,
  ⟨none,(some 56),.mov (.t 5)⟩,
  ⟨none,(some 57),.mov (.t 7)⟩,
  ⟨none,(some 58),.bin .sub (.t 57) (.k (.int .i64 1))⟩,
  ⟨none,(some 59),.mov (.t 5)⟩,
  ⟨none,(some 60),.mov (.t 7)⟩,
  ⟨none,(some 61),.bin .sub (.t 60) (.k (.int .i64 1))⟩,
  ⟨none,(some 62),.idxS 33 (.t 59) (.t 61)⟩,
  ⟨none,(some 63),.load 33 true (.t 62)⟩,
  ⟨none,(some 64),.mov (.t 5)⟩,
  ⟨none,(some 65),.mov (.t 7)⟩,
  ⟨none,(some 66),.idxS 33 (.t 64) (.t 65)⟩,
  ⟨none,(some 67),.load 33 true (.t 66)⟩,
  ⟨none,(some 68),.idxS 33 (.t 54) (.t 55)⟩,
  ⟨none,none,.store 33 (.t 68) (.t 63)⟩,
  ⟨none,(some 69),.idxS 33 (.t 56) (.t 58)⟩,
  ⟨none,none,.store 33 (.t 69) (.t 67)⟩]))
 (.region false [⟨none,(some 52),.mov (.t 7)⟩,
  ⟨none,(some 53),.bin .sub (.t 52) (.k (.int .i64 1))⟩,
  ⟨none,(some 7),.mov (.t 53)⟩])))
def zv9l (x5 x7:DV) (h:List AObj):St:=⟨js 5++[x5,.junk,x7]++js 63,h⟩
def a37:AFn where
 code:=(.seq (.region false [⟨none,(some 3),.box (.t 1)⟩,
  ⟨none,(some 4),.mov (.k .nils)⟩])
 (.seq (.region false [⟨none,(some 5),.mov (.k .nils)⟩])
 (.seq (.seq (.region false [⟨none,(some 6),.mov (.k (.int .i64 0))⟩])
 (.block 0 (.loop z01n)))
 (.seq (.region false [⟨none,(some 29),.mov (.t 5)⟩,
  ⟨none,(some 30),.load 33 true (.t 3)⟩,
  ⟨none,(some 31),.bsl 33 1 [(.str []),(w8 0#8),(w8 0#8),(w8 0#8),(w8 0#8),(w8 0#8),(w8 0#8),(w8 0#8),(w8 0#8),(w8 0#8),(w8 0#8),(w8 0#8),(w8 0#8),(w8 0#8),(w8 0#8),(w8 0#8),(w8 0#8),(w8 0#8),(w8 0#8),(w8 0#8),(w8 0#8),(w8 0#8),(w8 0#8),(w8 0#8),(w8 0#8),(w8 0#8),(w8 0#8),(w8 0#8),(w8 0#8),(w8 0#8),(w8 0#8),(w8 0#8),(w8 0#8)] [(0,33,(.t 30))]⟩,
  ⟨none,(some 32),.app 33 48 (.t 29) (.t 31)⟩,
  ⟨none,(some 5),.mov (.t 32)⟩])
 (.seq (.seq (.region false [⟨none,(some 33),.mov (.t 5)⟩,
  ⟨none,(some 34),.len (.t 33)⟩,
  ⟨none,(some 35),.bin .sub (.t 34) (.k (.int .i64 1))⟩,
  ⟨none,(some 7),.mov (.t 35)⟩])
 (.block 2 (.loop z0dk)))
 (.seq (.region false [⟨none,(some 70),.mov (.t 5)⟩,
  ⟨none,(some 4),.mov (.t 70)⟩])
 .ret))))))
 ntmps:=71
 res:=[.tmp 4]
theorem z554:zsjc P Tryz.f37=some a37:=by kernel_rfl
def a36:AFn where
 code:=(.seq (.region false [⟨none,(some 4),.mov (.k .nils)⟩])
 (.seq (.region true [⟨none,(some 5),.bsl 33 0 [(.str []),(w8 0#8),(w8 0#8),(w8 0#8),(w8 0#8),(w8 0#8),(w8 0#8),(w8 0#8),(w8 0#8),(w8 0#8),(w8 0#8),(w8 0#8),(w8 0#8),(w8 0#8),(w8 0#8),(w8 0#8),(w8 0#8),(w8 0#8),(w8 0#8),(w8 0#8),(w8 0#8),(w8 0#8),(w8 0#8),(w8 0#8),(w8 0#8),(w8 0#8),(w8 0#8),(w8 0#8),(w8 0#8),(w8 0#8),(w8 0#8),(w8 0#8),(w8 0#8)] []⟩,
  ⟨none,(some 6),.mov (.t 0)⟩,
  ⟨none,(some 7),.mov (.t 1)⟩,
  ⟨none,(some 8),.slcS 33 (.t 6) none (some (.t 7)) none⟩,
  ⟨none,(some 9),.app 33 48 (.t 5) (.t 8)⟩,
  ⟨none,(some 10),.mov (.t 0)⟩,
  ⟨none,(some 11),.mov (.t 1)⟩,
  ⟨none,(some 12),.bin .add (.t 11) (.k (.int .i64 1))⟩,
  ⟨none,(some 13),.slcS 33 (.t 10) (some (.t 12)) none none⟩,
  ⟨none,(some 14),.app 33 48 (.t 9) (.t 13)⟩,
  ⟨none,(some 4),.mov (.t 14)⟩,
  ⟨none,none,.apart (.t 10) (.t 9)⟩])
 .ret))
 ntmps:=15
 res:=[.tmp 4]
theorem zj68:zsjc P Tryz.f36=some a36:=by kernel_rfl
def ztv8:ACode :=
 (.seq (.seq (.region false [⟨none,(some 11),.mov (.t 6)⟩,
  ⟨none,(some 12),.bin .gtr (.t 11) (.k (.int .i64 0))⟩])
 (.cond (.t 12) .skip
 (.exit 0)))
 (.seq (.block 1 (.region false [⟨none,(some 15),.mov (.t 5)⟩,
  ⟨none,(some 16),.mov (.t 0)⟩,
  ⟨none,(some 17),.call (.k (.fn (.func 38) [] [])) [(.t 16)]⟩,
  ⟨none,(some 18),.mov (.t 0)⟩,
  ⟨none,(some 19),.call (.k (.fn (.func 39) [] [])) [(.t 18)]⟩,
  ⟨none,(some 20),.build [(.str []),(w8 0#8),(w8 0#8),(w8 0#8),(w8 0#8),(w8 0#8),(w8 0#8),(w8 0#8),(w8 0#8),(w8 0#8),(w8 0#8),(w8 0#8),(w8 0#8),(w8 0#8),(w8 0#8),(w8 0#8),(w8 0#8),(w8 0#8),(w8 0#8),(w8 0#8),(w8 0#8),(w8 0#8),(w8 0#8),(w8 0#8),(w8 0#8),(w8 0#8),(w8 0#8),(w8 0#8),(w8 0#8),(w8 0#8),(w8 0#8),(w8 0#8),(w8 0#8)] [(0,1,(.t 17)),(1,32,(.t 19))]⟩,
  ⟨none,(some 21),.call (.k (.fn (.func 37) [] [])) [(.t 15),(.t 20)]⟩,
  ⟨none,(some 5),.mov (.t 21)⟩]))
 (.region false [⟨none,(some 13),.mov (.t 6)⟩,
  ⟨none,(some 14),.bin .sub (.t 13) (.k (.int .i64 1))⟩,
  ⟨none,(some 6),.mov (.t 14)⟩])))
def zbg2 (x0 x5 x6:DV) (h:List AObj):St:=⟨[x0]++js 4++[x5,x6]++js 16,h⟩
def a35:AFn where
 code:=(.seq (.region false [⟨none,(some 4),.mov (.k .nils)⟩])
 (.seq (.region false [⟨none,(some 5),.mov (.k .nils)⟩])
 (.seq (.seq (.region false [⟨none,(some 7),.mov (.t 0)⟩,
  ⟨none,(some 8),.mov (.t 1)⟩,
  ⟨none,(some 9),.bin .add (.t 8) (.k (.int .i64 1))⟩,
  ⟨none,(some 10),.call (.k (.fn (.func 17) [] [])) [(.t 7),(.t 9)]⟩,
  ⟨none,(some 6),.mov (.t 10)⟩])
 (.block 0 (.loop ztv8)))
 (.seq (.region false [⟨none,(some 22),.mov (.t 5)⟩,
  ⟨none,(some 4),.mov (.t 22)⟩])
 .ret))))
 ntmps:=23
 res:=[.tmp 4]
theorem zxwh:zsjc P Tryz.f35=some a35:=by kernel_rfl
def zvfu:ACode :=
 (.seq (.seq (.region false [⟨none,(some 8),.mov (.t 5)⟩,
  ⟨none,(some 9),.bin .gtr (.t 8) (.k (.int .i64 0))⟩])
 (.cond (.t 9) .skip
 (.exit 0)))
 (.seq (.block 1 (.seq (.region false [⟨none,(some 12),.mov (.t 0)⟩,
  ⟨none,(some 13),.call (.k (.fn (.func 17) [] [])) [(.t 12),(.k (.int .i64 3))]⟩,
  ⟨none,(some 14),.bin .eql (.t 13) (.k (.int .i64 0))⟩,
  ⟨none,(some 15),.mov (.t 14)⟩,
  ⟨(some (15,true)),(some 16),.mov (.t 1)⟩,
  ⟨(some (15,true)),(some 17),.len (.t 16)⟩,
  ⟨(some (15,true)),(some 18),.bin .gtr (.t 17) (.k (.int .i64 0))⟩,
  ⟨none,(some 19),.pick (.t 15) (.t 18) (.k (.bool false))⟩])
 (.cond (.t 19) (.region false [⟨none,(some 20),.mov (.t 1)⟩,
  ⟨none,(some 21),.mov (.t 0)⟩,
  ⟨none,(some 22),.mov (.t 1)⟩,
  ⟨none,(some 23),.len (.t 22)⟩,
  ⟨none,(some 24),.call (.k (.fn (.func 17) [] [])) [(.t 21),(.t 23)]⟩,
  ⟨none,(some 25),.call (.k (.fn (.func 36) [] [])) [(.t 20),(.t 24)]⟩,
  ⟨none,(some 1),.mov (.t 25)⟩])
 (.region false [⟨none,(some 26),.mov (.t 1)⟩,
  ⟨none,(some 27),.mov (.t 0)⟩,
  ⟨none,(some 28),.call (.k (.fn (.func 38) [] [])) [(.t 27)]⟩,
  ⟨none,(some 29),.mov (.t 0)⟩,
  ⟨none,(some 30),.call (.k (.fn (.func 39) [] [])) [(.t 29)]⟩,
  ⟨none,(some 31),.build [(.str []),(w8 0#8),(w8 0#8),(w8 0#8),(w8 0#8),(w8 0#8),(w8 0#8),(w8 0#8),(w8 0#8),(w8 0#8),(w8 0#8),(w8 0#8),(w8 0#8),(w8 0#8),(w8 0#8),(w8 0#8),(w8 0#8),(w8 0#8),(w8 0#8),(w8 0#8),(w8 0#8),(w8 0#8),(w8 0#8),(w8 0#8),(w8 0#8),(w8 0#8),(w8 0#8),(w8 0#8),(w8 0#8),(w8 0#8),(w8 0#8),(w8 0#8),(w8 0#8)] [(0,1,(.t 28)),(1,32,(.t 30))]⟩,
  ⟨none,(some 32),.call (.k (.fn (.func 37) [] [])) [(.t 26),(.t 31)]⟩,
  ⟨none,(some 1),.mov (.t 32)⟩]))))
 (.region false [⟨none,(some 10),.mov (.t 5)⟩,
  ⟨none,(some 11),.bin .sub (.t 10) (.k (.int .i64 1))⟩,
  ⟨none,(some 5),.mov (.t 11)⟩])))
def zs05 (x0 x1 x5:DV) (h:List AObj):St:=⟨[x0,x1,.junk,.junk,.junk,x5]++js 28,h⟩
def a16:AFn where
 code:=(.seq (.region false [⟨none,(some 4),.mov (.k .nils)⟩])
 (.seq (.seq (.region false [⟨none,(some 6),.mov (.t 0)⟩,
  ⟨none,(some 7),.call (.k (.fn (.func 17) [] [])) [(.t 6),(.k (.int .i64 4))]⟩,
  ⟨none,(some 5),.mov (.t 7)⟩])
 (.block 0 (.loop zvfu)))
 (.seq (.region false [⟨none,(some 33),.mov (.t 1)⟩,
  ⟨none,(some 4),.mov (.t 33)⟩])
 .ret)))
 ntmps:=34
 res:=[.tmp 4]
theorem zddi:zsjc P Tryz.f16=some a16:=by kernel_rfl
def a15:AFn where
 code:=(.seq (.region false [⟨none,(some 4),.alloc [(.str []),.nils,.nils]⟩])
 (.seq (.region false [⟨none,(some 6),.mov (.t 0)⟩,
  ⟨none,(some 7),.call (.k (.fn (.func 35) [] [])) [(.t 6),(.k (.int .i64 5))]⟩,
  ⟨none,(some 5),.mov (.t 7)⟩])
 (.seq (.region false [⟨none,(some 8),.mov (.t 1)⟩,
  ⟨none,(some 9),.mov (.t 5)⟩,
  ⟨none,(some 10),.mov (.t 0)⟩,
  ⟨none,(some 11),.mov (.t 5)⟩,
  ⟨none,(some 12),.call (.k (.fn (.func 16) [] [])) [(.t 10),(.t 11)]⟩,
  ⟨none,(some 13),.build [(.str []),.nils,.nils] [(0,1,(.t 8)),(1,1,(.t 9)),(2,1,(.t 12))]⟩,
  ⟨none,none,.store 3 (.t 4) (.t 13)⟩])
 .ret)))
 ntmps:=14
 res:=[.cell 4 3 true]
theorem zz37:zsjc P Tryz.f15=some a15:=by kernel_rfl
end Go.Proofs.YtjknipdiglpnlaaGreatDoor
set_option linter.unusedSimpArgs false
set_option linter.unusedVariables false
namespace Go.Proofs.YtjknipdiglpnlaaGreatDoor
open Go Go.Am
end Go.Proofs.YtjknipdiglpnlaaGreatDoor
set_option linter.unusedSimpArgs false
set_option linter.unusedVariables false
namespace Go.Proofs.YtjknipdiglpnlaaGreatDoor
open Go Go.Am
def a44:AFn where
 code:=(.seq (.region false [⟨none,(some 2),.mov (.k (.str []))⟩])
 (.seq (.region false [⟨none,(some 3),.mov (.t 0)⟩,
  ⟨none,(some 4),.bsl 1 14 [(.str [])] [(0,1,(.k (.str [42]))),(1,1,(.k (.str [42,42]))),(2,1,(.k (.str [97]))),(3,1,(.k (.str [97,42]))),(4,1,(.k (.str [115,114,99,47,42]))),(5,1,(.k (.str [115,114,99,47,42,42]))),(6,1,(.k (.str [42,42,46,99]))),(7,1,(.k (.str [63]))),(8,1,(.k (.str [111,117,116,47,42]))),(9,1,(.k (.str [42,47,97]))),(10,1,(.k (.str [97,46,99]))),(11,1,(.k (.str [42,42,47,97]))),(12,1,(.k (.str [111,117,116]))),(13,1,(.k (.str [98,42,42])))]⟩,
  ⟨none,(some 5),.call (.k (.fn (.func 45) [] [])) [(.t 3),(.t 4)]⟩,
  ⟨none,(some 2),.mov (.t 5)⟩])
 .ret))
 ntmps:=6
 res:=[.tmp 2]
theorem zeo7:zsjc P Tryz.f44=some a44:=by kernel_rfl
def a46:AFn where
 code:=(.seq (.region false [⟨none,(some 2),.mov (.k (.str []))⟩])
 (.seq (.region false [⟨none,(some 3),.mov (.t 0)⟩,
  ⟨none,(some 4),.bsl 1 6 [(.str [])] [(0,1,(.k (.str []))),(1,1,(.k (.str []))),(2,1,(.k (.str [115,114,99]))),(3,1,(.k (.str [111,117,116]))),(4,1,(.k (.str [97]))),(5,1,(.k (.str [115,114,99,47,97])))]⟩,
  ⟨none,(some 5),.call (.k (.fn (.func 45) [] [])) [(.t 3),(.t 4)]⟩,
  ⟨none,(some 2),.mov (.t 5)⟩])
 .ret))
 ntmps:=6
 res:=[.tmp 2]
theorem znv1:zsjc P Tryz.f46=some a46:=by kernel_rfl
def a19:AFn where
 code:=(.seq (.region false [⟨none,(some 4),.alloc [(.int .i64 0),(.str []),(.str []),(.bool false),(.str []),(.str [])]⟩])
 (.seq (.region false [⟨none,(some 6),.mov (.t 0)⟩,
  ⟨none,(some 7),.call (.k (.fn (.func 17) [] [])) [(.t 6),(.k (.int .i64 7))]⟩,
  ⟨none,(some 8),.bin .add (.k (.int .i64 1)) (.t 7)⟩,
  ⟨none,(some 9),.mov (.t 0)⟩,
  ⟨none,(some 10),.call (.k (.fn (.func 44) [] [])) [(.t 9)]⟩,
  ⟨none,(some 11),.build [(.int .i64 0),(.str []),(.str []),(.bool false),(.str []),(.str [])] [(0,1,(.t 8)),(1,1,(.t 10))]⟩,
  ⟨none,(some 5),.alloc [(.int .i64 0),(.str []),(.str []),(.bool false),(.str []),(.str [])]⟩,
  ⟨none,none,.store 6 (.t 5) (.t 11)⟩])
 (.seq (.seq (.region false [⟨none,(some 12),.fld 0 (.t 5)⟩,
  ⟨none,(some 13),.load 1 false (.t 12)⟩,
  ⟨none,(some 14),.bin .eql (.t 13) (.k (.int .i64 1))⟩])
 (.cond (.t 14) (.seq (.seq (.region false [⟨none,(some 15),.mov (.t 1)⟩,
  ⟨none,(some 16),.len (.t 15)⟩,
  ⟨none,(some 17),.bin .eql (.t 16) (.k (.int .i64 0))⟩])
 (.cond (.t 17) (.seq (.region false [⟨none,(some 18),.fld 1 (.t 5)⟩,
  ⟨none,(some 19),.load 1 false (.t 18)⟩,
  ⟨none,(some 20),.build [(.int .i64 0),(.str []),(.str []),(.bool false),(.str []),(.str [])] [(0,1,(.k (.int .i64 5))),(1,1,(.t 19))]⟩,
  ⟨none,none,.store 6 (.t 4) (.t 20)⟩])
 .ret)
 .skip))
 (.region false [⟨none,(some 21),.mov (.t 0)⟩,
  ⟨none,(some 22),.mov (.t 1)⟩,
  ⟨none,(some 23),.call (.k (.fn (.func 45) [] [])) [(.t 21),(.t 22)]⟩,
  ⟨none,(some 24),.mov (.t 0)⟩,
  ⟨none,(some 25),.call (.k (.fn (.func 17) [] [])) [(.t 24),(.k (.int .i64 3))]⟩,
  ⟨none,(some 26),.bin .gtr (.t 25) (.k (.int .i64 0))⟩,
  ⟨none,(some 27),.mov (.t 0)⟩,
  ⟨none,(some 28),.call (.k (.fn (.func 46) [] [])) [(.t 27)]⟩,
  ⟨none,(some 29),.mov (.t 0)⟩,
  ⟨none,(some 30),.call (.k (.fn (.func 46) [] [])) [(.t 29)]⟩,
  ⟨none,(some 31),.fld 2 (.t 5)⟩,
  ⟨none,none,.store 1 (.t 31) (.t 23)⟩,
  ⟨none,(some 32),.fld 3 (.t 5)⟩,
  ⟨none,none,.store 1 (.t 32) (.t 26)⟩,
  ⟨none,(some 33),.fld 4 (.t 5)⟩,
  ⟨none,none,.store 1 (.t 33) (.t 28)⟩,
  ⟨none,(some 34),.fld 5 (.t 5)⟩,
  ⟨none,none,.store 1 (.t 34) (.t 30)⟩]))
 .skip))
 (.seq (.region false [⟨none,(some 35),.load 6 true (.t 5)⟩,
  ⟨none,none,.store 6 (.t 4) (.t 35)⟩])
 .ret))))
 ntmps:=36
 res:=[.cell 4 6 true]
theorem zlqi:zsjc P Tryz.f19=some a19:=by kernel_rfl
def a7L0:ACode :=
 (.seq (.seq (.region false [⟨none,(some 13),.mov (.t 8)⟩,
  ⟨none,(some 14),.bin .gtr (.t 13) (.k (.int .i64 0))⟩])
 (.cond (.t 14) .skip
 (.exit 0)))
 (.seq (.block 1 (.region false [⟨none,(some 17),.mov (.t 7)⟩,
  ⟨none,(some 18),.mov (.t 0)⟩,
  ⟨none,(some 19),.mov (.t 1)⟩,
  ⟨none,(some 20),.call (.k (.fn (.func 19) [] [])) [(.t 18),(.t 19)]⟩,
  ⟨none,(some 21),.bsl 6 1 [(.int .i64 0),(.str []),(.str []),(.bool false),(.str []),(.str [])] [(0,6,(.t 20))]⟩,
  ⟨none,(some 22),.app 6 80 (.t 17) (.t 21)⟩,
  ⟨none,(some 7),.mov (.t 22)⟩]))
 (.region false [⟨none,(some 15),.mov (.t 8)⟩,
  ⟨none,(some 16),.bin .sub (.t 15) (.k (.int .i64 1))⟩,
  ⟨none,(some 8),.mov (.t 16)⟩])))
def a7S0 (x0 x1 x7 x8:DV) (h:List AObj):St:=⟨[x0,x1]++js 5++[x7,x8]++js 15,h⟩
def a7:AFn where
 code:=(.seq (.region false [⟨none,(some 6),.mov (.k .nils)⟩])
 (.seq (.region false [⟨none,(some 7),.mov (.k .nils)⟩])
 (.seq (.seq (.region false [⟨none,(some 9),.mov (.t 0)⟩,
  ⟨none,(some 10),.mov (.t 2)⟩,
  ⟨none,(some 11),.bin .add (.t 10) (.k (.int .i64 1))⟩,
  ⟨none,(some 12),.call (.k (.fn (.func 17) [] [])) [(.t 9),(.t 11)]⟩,
  ⟨none,(some 8),.mov (.t 12)⟩])
 (.block 0 (.loop a7L0)))
 (.seq (.region false [⟨none,(some 23),.mov (.t 7)⟩,
  ⟨none,(some 6),.mov (.t 23)⟩])
 .ret))))
 ntmps:=24
 res:=[.tmp 6]
theorem zdfl:zsjc P Tryz.f7=some a7:=by kernel_rfl
def a70:AFn where
 code:=(.seq (.region false [⟨none,(some 1),.box (.t 0)⟩,
  ⟨none,(some 2),.mov (.k (.bool false))⟩])
 (.seq (.region false [⟨none,(some 3),.fld 0 (.t 1)⟩,
  ⟨none,(some 4),.load 1 false (.t 3)⟩,
  ⟨none,(some 5),.call (.k (.fn (.func 71) [] [])) [(.t 4)]⟩,
  ⟨none,(some 6),.mov (.t 5)⟩,
  ⟨(some (6,true)),(some 7),.fld 1 (.t 1)⟩,
  ⟨(some (6,true)),(some 8),.load 32 true (.t 7)⟩,
  ⟨(some (6,true)),(some 9),.build (rep 32 (w8 0#8)) []⟩,
  ⟨(some (6,true)),(some 10),.eqa true [(32,0)] (.t 8) (.t 9)⟩,
  ⟨none,(some 11),.pick (.t 6) (.t 10) (.k (.bool false))⟩,
  ⟨none,(some 2),.mov (.t 11)⟩])
 .ret))
 ntmps:=12
 res:=[.tmp 2]
theorem zhcw:zsjc P Tryz.f70=some a70:=by kernel_rfl
def z1eu:ACode :=
 (.seq (.seq (.region false [⟨none,(some 7),.mov (.t 3)⟩,
  ⟨none,(some 8),.mov (.t 0)⟩,
  ⟨none,(some 9),.len (.t 8)⟩,
  ⟨none,(some 10),.bin .lss (.t 7) (.t 9)⟩])
 (.cond (.t 10) .skip
 (.exit 0)))
 (.seq (.block 1 (.seq (.region true [⟨none,(some 13),.mov (.t 0)⟩,
  ⟨none,(some 14),.mov (.t 3)⟩,
  ⟨none,(some 15),.idxS 33 (.t 13) (.t 14)⟩,
  ⟨none,(some 16),.load 33 true (.t 15)⟩,
  ⟨none,(some 17),.callN (.k (.fn (.func 70) [] [])) [(.t 16)]⟩,
  ⟨none,(some 18),.un .not (.t 17)⟩,
  ⟨none,(some 19),.mov (.t 18)⟩,
  ⟨(some (19,false)),(some 20),.mov (.t 3)⟩,
  ⟨(some (19,false)),(some 21),.bin .gtr (.t 20) (.k (.int .i64 0))⟩,
  ⟨(some (19,false)),(some 22),.mov (.t 21)⟩,
  ⟨(some (22,true)),(some 23),.mov (.t 0)⟩,
  ⟨(some (22,true)),(some 24),.mov (.t 3)⟩,
  ⟨(some (22,true)),(some 25),.bin .sub (.t 24) (.k (.int .i64 1))⟩,
  ⟨(some (22,true)),(some 26),.idxS 33 (.t 23) (.t 25)⟩,
  ⟨(some (22,true)),(some 27),.fld 0 (.t 26)⟩,
  ⟨(some (22,true)),(some 28),.load 1 false (.t 27)⟩,
  ⟨(some (22,true)),(some 29),.mov (.t 0)⟩,
  ⟨(some (22,true)),(some 30),.mov (.t 3)⟩,
  ⟨(some (22,true)),(some 31),.idxS 33 (.t 29) (.t 30)⟩,
  ⟨(some (22,true)),(some 32),.fld 0 (.t 31)⟩,
  ⟨(some (22,true)),(some 33),.load 1 false (.t 32)⟩,
  ⟨(some (22,true)),(some 34),.bin .geq (.t 28) (.t 33)⟩,
  ⟨(some (19,false)),(some 35),.pick (.t 22) (.t 34) (.k (.bool false))⟩,
  ⟨none,(some 36),.pick (.t 19) (.k (.bool true)) (.t 35)⟩])
 (.cond (.t 36) (.seq (.region false [⟨none,(some 2),.mov (.k (.bool false))⟩])
 .ret)
 .skip)))
 (.region false [⟨none,(some 11),.mov (.t 3)⟩,
  ⟨none,(some 12),.bin .add (.t 11) (.k (.int .i64 1))⟩,
  ⟨none,(some 3),.mov (.t 12)⟩])))
def zuzy (x0 x3:DV) (h:List AObj):St:=⟨[x0,.junk,.junk,x3]++js 33,h⟩
def a40:AFn where
 code:=(.seq (.region false [⟨none,(some 2),.mov (.k (.bool false))⟩])
 (.seq (.seq (.region false [⟨none,(some 4),.mov (.t 0)⟩,
  ⟨none,(some 5),.len (.t 4)⟩,
  ⟨none,(some 6),.bin .gtr (.t 5) (.k (.int .i64 64))⟩])
 (.cond (.t 6) (.seq (.region false [⟨none,(some 2),.mov (.k (.bool false))⟩])
 .ret)
 .skip))
 (.seq (.seq (.region false [⟨none,(some 3),.mov (.k (.int .i64 0))⟩])
 (.block 0 (.loop z1eu)))
 (.seq (.region false [⟨none,(some 2),.mov (.k (.bool true))⟩])
 .ret))))
 ntmps:=37
 res:=[.tmp 2]
theorem zn9f:zsjc P Tryz.f40=some a40:=by kernel_rfl
def zf3u:ACode :=
 (.seq (.seq (.region true [⟨none,(some 7),.mov (.t 6)⟩,
  ⟨none,(some 8),.mov (.t 0)⟩,
  ⟨none,(some 9),.len (.t 8)⟩,
  ⟨none,(some 10),.bin .lss (.t 7) (.t 9)⟩,
  ⟨none,(some 11),.mov (.t 10)⟩,
  ⟨(some (11,true)),(some 12),.mov (.t 0)⟩,
  ⟨(some (11,true)),(some 13),.mov (.t 6)⟩,
  ⟨(some (11,true)),(some 14),.idxS 33 (.t 12) (.t 13)⟩,
  ⟨(some (11,true)),(some 15),.fld 0 (.t 14)⟩,
  ⟨(some (11,true)),(some 16),.load 1 false (.t 15)⟩,
  ⟨(some (11,true)),(some 17),.fld 0 (.t 3)⟩,
  ⟨(some (11,true)),(some 18),.load 1 false (.t 17)⟩,
  ⟨(some (11,true)),(some 19),.bin .lss (.t 16) (.t 18)⟩,
  ⟨none,(some 20),.pick (.t 11) (.t 19) (.k (.bool false))⟩])
 (.cond (.t 20) .skip
 (.exit 0)))
 (.block 1 (.seq (.region false [⟨none,(some 21),.mov (.t 5)⟩,
  ⟨none,(some 22),.mov (.t 0)⟩,
  ⟨none,(some 23),.mov (.t 6)⟩,
  ⟨none,(some 24),.idxS 33 (.t 22) (.t 23)⟩,
  ⟨none,(some 25),.load 33 true (.t 24)⟩,
  ⟨none,(some 26),.bsl 33 1 [(.str []),(w8 0#8),(w8 0#8),(w8 0#8),(w8 0#8),(w8 0#8),(w8 0#8),(w8 0#8),(w8 0#8),(w8 0#8),(w8 0#8),(w8 0#8),(w8 0#8),(w8 0#8),(w8 0#8),(w8 0#8),(w8 0#8),(w8 0#8),(w8 0#8),(w8 0#8),(w8 0#8),(w8 0#8),(w8 0#8),(w8 0#8),(w8 0#8),(w8 0#8),(w8 0#8),(w8 0#8),(w8 0#8),(w8 0#8),(w8 0#8),(w8 0#8),(w8 0#8)] [(0,33,(.t 25))]⟩,
  ⟨none,(some 27),.app 33 48 (.t 21) (.t 26)⟩,
  ⟨none,(some 5),.mov (.t 27)⟩])
 (.region false [⟨none,(some 28),.mov (.t 6)⟩,
  ⟨none,(some 29),.bin .add (.t 28) (.k (.int .i64 1))⟩,
  ⟨none,(some 6),.mov (.t 29)⟩]))))
def zq6l (x0 x3 x5 x6:DV) (h:List AObj):St:=⟨[x0,.junk,.junk,x3,.junk,x5,x6]++js 31,h⟩
def a43:AFn where
 code:=(.seq (.region false [⟨none,(some 3),.box (.t 1)⟩,
  ⟨none,(some 4),.mov (.k .nils)⟩])
 (.seq (.region false [⟨none,(some 5),.mov (.k .nils)⟩])
 (.seq (.region false [⟨none,(some 6),.mov (.k (.int .i64 0))⟩])
 (.seq (.block 0 (.loop zf3u))
 (.seq (.region true [⟨none,(some 30),.mov (.t 5)⟩,
  ⟨none,(some 31),.load 33 true (.t 3)⟩,
  ⟨none,(some 32),.bsl 33 1 [(.str []),(w8 0#8),(w8 0#8),(w8 0#8),(w8 0#8),(w8 0#8),(w8 0#8),(w8 0#8),(w8 0#8),(w8 0#8),(w8 0#8),(w8 0#8),(w8 0#8),(w8 0#8),(w8 0#8),(w8 0#8),(w8 0#8),(w8 0#8),(w8 0#8),(w8 0#8),(w8 0#8),(w8 0#8),(w8 0#8),(w8 0#8),(w8 0#8),(w8 0#8),(w8 0#8),(w8 0#8),(w8 0#8),(w8 0#8),(w8 0#8),(w8 0#8),(w8 0#8)] [(0,33,(.t 31))]⟩,
  ⟨none,(some 33),.app 33 48 (.t 30) (.t 32)⟩,
  ⟨none,(some 34),.mov (.t 0)⟩,
  ⟨none,(some 35),.mov (.t 6)⟩,
  ⟨none,(some 36),.slcS 33 (.t 34) (some (.t 35)) none none⟩,
  ⟨none,(some 37),.app 33 48 (.t 33) (.t 36)⟩,
  ⟨none,(some 4),.mov (.t 37)⟩,
  ⟨none,none,.apart (.t 34) (.t 33)⟩])
 .ret)))))
 ntmps:=38
 res:=[.tmp 4]
theorem zbv8:zsjc P Tryz.f43=some a43:=by kernel_rfl
def zjhm:ACode :=
 (.seq (.seq (.region false [⟨none,(some 25),.mov (.t 9)⟩,
  ⟨none,(some 26),.mov (.t 0)⟩,
  ⟨none,(some 27),.len (.t 26)⟩,
  ⟨none,(some 28),.bin .lss (.t 25) (.t 27)⟩])
 (.cond (.t 28) .skip
 (.exit 0)))
 (.seq (.block 1 (.seq (.region false [⟨none,(some 32),.mov (.t 1)⟩,
  ⟨none,(some 33),.mov (.t 2)⟩,
  ⟨none,(some 34),.mov (.t 0)⟩,
  ⟨none,(some 35),.mov (.t 9)⟩,
  ⟨none,(some 36),.idxS 33 (.t 34) (.t 35)⟩,
  ⟨none,(some 37),.fld 0 (.t 36)⟩,
  ⟨none,(some 38),.load 1 false (.t 37)⟩,
  ⟨none,(some 39),.call (.k (.fn (.func 42) [] [])) [(.t 32),(.t 33),(.t 38)]⟩,
  ⟨none,(some 31),.mov (.t 39)⟩,
  ⟨none,(some 40),.ext (.t 31) 0⟩,
  ⟨none,(some 41),.ext (.t 31) 1⟩,
  ⟨none,(some 10),.mov (.t 40)⟩,
  ⟨none,(some 11),.mov (.t 41)⟩])
 (.seq (.region false [⟨none,(some 42),.mov (.t 11)⟩])
 (.cond (.t 42) (.region false [⟨none,(some 43),.mov (.t 8)⟩,
  ⟨none,(some 44),.mov (.t 10)⟩,
  ⟨none,(some 45),.mov (.t 0)⟩,
  ⟨none,(some 46),.mov (.t 9)⟩,
  ⟨none,(some 47),.idxS 33 (.t 45) (.t 46)⟩,
  ⟨none,(some 48),.fld 1 (.t 47)⟩,
  ⟨none,(some 49),.load 32 true (.t 48)⟩,
  ⟨none,(some 50),.build [(.str []),(w8 0#8),(w8 0#8),(w8 0#8),(w8 0#8),(w8 0#8),(w8 0#8),(w8 0#8),(w8 0#8),(w8 0#8),(w8 0#8),(w8 0#8),(w8 0#8),(w8 0#8),(w8 0#8),(w8 0#8),(w8 0#8),(w8 0#8),(w8 0#8),(w8 0#8),(w8 0#8),(w8 0#8),(w8 0#8),(w8 0#8),(w8 0#8),(w8 0#8),(w8 0#8),(w8 0#8),(w8 0#8),(w8 0#8),(w8 0#8),(w8 0#8),(w8 0#8)] [(0,1,(.t 44)),(1,32,(.t 49))]⟩,
  ⟨none,(some 51),.call (.k (.fn (.func 43) [] [])) [(.t 43),(.t 50)]⟩,
  ⟨none,(some 8),.mov (.t 51)⟩])
 .skip))))
 (.region false [⟨none,(some 29),.mov (.t 9)⟩,
  ⟨none,(some 30),.bin .add (.t 29) (.k (.int .i64 1))⟩,
  ⟨none,(some 9),.mov (.t 30)⟩])))
def zzg5 (x0 x1 x2 x8 x9:DV) (h:List AObj):St:=⟨[x0,x1,x2]++js 5++[x8,x9]++js 43,h⟩
def a18:AFn where
 code:=(.seq (.region false [⟨none,(some 6),.mov (.k .nils)⟩,
  ⟨none,(some 7),.mov (.k (.int .i64 0))⟩])
 (.seq (.seq (.region false [⟨none,(some 12),.mov (.t 0)⟩,
  ⟨none,(some 13),.call (.k (.fn (.func 40) [] [])) [(.t 12)]⟩,
  ⟨none,(some 14),.un .not (.t 13)⟩,
  ⟨none,(some 15),.mov (.t 14)⟩,
  ⟨(some (15,false)),(some 16),.mov (.t 1)⟩,
  ⟨(some (15,false)),(some 17),.call (.k (.fn (.func 41) [] [])) [(.t 16)]⟩,
  ⟨(some (15,false)),(some 18),.un .not (.t 17)⟩,
  ⟨none,(some 19),.pick (.t 15) (.k (.bool true)) (.t 18)⟩,
  ⟨none,(some 20),.mov (.t 19)⟩,
  ⟨(some (20,false)),(some 21),.mov (.t 2)⟩,
  ⟨(some (20,false)),(some 22),.call (.k (.fn (.func 41) [] [])) [(.t 21)]⟩,
  ⟨(some (20,false)),(some 23),.un .not (.t 22)⟩,
  ⟨none,(some 24),.pick (.t 20) (.k (.bool true)) (.t 23)⟩])
 (.cond (.t 24) (.seq (.region false [⟨none,(some 6),.mov (.k .nils)⟩,
  ⟨none,(some 7),.mov (.k (.int .i64 1))⟩])
 .ret)
 .skip))
 (.seq (.region false [⟨none,(some 8),.mov (.k .nils)⟩])
 (.seq (.seq (.region false [⟨none,(some 9),.mov (.k (.int .i64 0))⟩])
 (.block 0 (.loop zjhm)))
 (.seq (.region false [⟨none,(some 52),.mov (.t 8)⟩,
  ⟨none,(some 6),.mov (.t 52)⟩,
  ⟨none,(some 7),.mov (.k (.int .i64 0))⟩])
 .ret)))))
 ntmps:=53
 res:=[.tmp 6,.tmp 7]
theorem zt5q:zsjc P Tryz.f18=some a18:=by kernel_rfl
def z6p4:ACode :=
 (.seq (.seq (.region false [⟨none,(some 7),.mov (.t 6)⟩,
  ⟨none,(some 8),.mov (.t 0)⟩,
  ⟨none,(some 9),.len (.t 8)⟩,
  ⟨none,(some 10),.bin .lss (.t 7) (.t 9)⟩])
 (.cond (.t 10) .skip
 (.exit 0)))
 (.seq (.block 1 (.seq (.region false [⟨none,(some 13),.mov (.t 0)⟩,
  ⟨none,(some 14),.mov (.t 6)⟩,
  ⟨none,(some 15),.idxS 33 (.t 13) (.t 14)⟩,
  ⟨none,(some 16),.fld 0 (.t 15)⟩,
  ⟨none,(some 17),.load 1 false (.t 16)⟩,
  ⟨none,(some 18),.mov (.t 1)⟩,
  ⟨none,(some 19),.bin .eql (.t 17) (.t 18)⟩])
 (.cond (.t 19) (.seq (.region false [⟨none,(some 20),.mov (.t 0)⟩,
  ⟨none,(some 21),.mov (.t 6)⟩,
  ⟨none,(some 22),.idxS 33 (.t 20) (.t 21)⟩,
  ⟨none,(some 23),.fld 1 (.t 22)⟩,
  ⟨none,(some 24),.load 32 true (.t 23)⟩,
  ⟨none,none,.store 32 (.t 4) (.t 24)⟩,
  ⟨none,(some 5),.mov (.k (.bool true))⟩])
 .ret)
 .skip)))
 (.region false [⟨none,(some 11),.mov (.t 6)⟩,
  ⟨none,(some 12),.bin .add (.t 11) (.k (.int .i64 1))⟩,
  ⟨none,(some 6),.mov (.t 12)⟩])))
def zgxj (x0 x1 x4 x6:DV) (h:List AObj):St:=⟨[x0,x1,.junk,.junk,x4,.junk,x6]++js 19,h⟩
def a66:AFn where
 code:=(.seq (.region false [⟨none,(some 4),.alloc (rep 32 (w8 0#8))⟩,
  ⟨none,(some 5),.mov (.k (.bool false))⟩])
 (.seq (.seq (.region false [⟨none,(some 6),.mov (.k (.int .i64 0))⟩])
 (.block 0 (.loop z6p4)))
 (.seq (.region false [⟨none,(some 25),.build (rep 32 (w8 0#8)) []⟩,
  ⟨none,none,.store 32 (.t 4) (.t 25)⟩,
  ⟨none,(some 5),.mov (.k (.bool false))⟩])
 .ret)))
 ntmps:=26
 res:=[.cell 4 32 true,.tmp 5]
theorem z3a6:zsjc P Tryz.f66=some a66:=by kernel_rfl
def a6:AFn where
 code:=(.seq (.region false [⟨none,(some 2),.alloc [(.str []),.nils,.nils,.nils,(.bool false)]⟩])
 (.seq (.region false [⟨none,(some 6),.mov (.t 0)⟩,
  ⟨none,(some 7),.call (.k (.fn (.func 15) [] [])) [(.t 6),(.k (.str [102,101,116,99,104]))]⟩,
  ⟨none,(some 3),.alloc [(.str []),.nils,.nils]⟩,
  ⟨none,none,.store 3 (.t 3) (.t 7)⟩])
 (.seq (.region true [⟨none,(some 8),.fld 2 (.t 3)⟩,
  ⟨none,(some 9),.load 1 false (.t 8)⟩,
  ⟨none,(some 10),.mov (.t 0)⟩,
  ⟨none,(some 11),.fld 2 (.t 3)⟩,
  ⟨none,(some 12),.load 1 false (.t 11)⟩,
  ⟨none,(some 13),.callT (.k (.fn (.func 16) [] [])) [(.t 10),(.t 12)]⟩,
  ⟨none,(some 14),.build [(.str []),.nils,.nils] [(0,1,(.k (.str [98,117,105,108,100]))),(1,1,(.t 9)),(2,1,(.t 13))]⟩,
  ⟨none,(some 4),.alloc [(.str []),.nils,.nils]⟩,
  ⟨none,none,.store 3 (.t 4) (.t 14)⟩,
  ⟨none,none,.apart (.t 3) (.t 10)⟩,
  ⟨none,none,.apart (.t 8) (.t 10)⟩])
 (.seq (.region true [⟨none,(some 15),.fld 2 (.t 4)⟩,
  ⟨none,(some 16),.load 1 false (.t 15)⟩,
  ⟨none,(some 17),.mov (.t 0)⟩,
  ⟨none,(some 18),.mov (.t 0)⟩,
  ⟨none,(some 19),.fld 2 (.t 4)⟩,
  ⟨none,(some 20),.load 1 false (.t 19)⟩,
  ⟨none,(some 21),.callT (.k (.fn (.func 16) [] [])) [(.t 18),(.t 20)]⟩,
  ⟨none,(some 22),.callT (.k (.fn (.func 16) [] [])) [(.t 17),(.t 21)]⟩,
  ⟨none,(some 23),.build [(.str []),.nils,.nils] [(0,1,(.k (.str [112,97,99,107]))),(1,1,(.t 16)),(2,1,(.t 22))]⟩,
  ⟨none,(some 5),.alloc [(.str []),.nils,.nils]⟩,
  ⟨none,none,.store 3 (.t 5) (.t 23)⟩,
  ⟨none,none,.apart (.t 4) (.t 18)⟩,
  ⟨none,none,.apart (.t 4) (.t 17)⟩,
  ⟨none,none,.apart (.t 15) (.t 18)⟩,
  ⟨none,none,.apart (.t 15) (.t 17)⟩])
 (.seq (.seq (.region false [⟨none,(some 24),.mov (.t 0)⟩,
  ⟨none,(some 25),.call (.k (.fn (.func 17) [] [])) [(.t 24),(.k (.int .i64 3))]⟩,
  ⟨none,(some 26),.bin .eql (.t 25) (.k (.int .i64 0))⟩])
 (.cond (.t 26) (.seq (.region false [⟨none,(some 28),.fld 2 (.t 4)⟩,
  ⟨none,(some 29),.load 1 false (.t 28)⟩,
  ⟨none,(some 30),.call (.k (.fn (.func 18) [] [])) [(.t 29),(.k (.str [])),(.k (.str [105,110]))]⟩,
  ⟨none,(some 27),.mov (.t 30)⟩,
  ⟨none,(some 31),.ext (.t 27) 0⟩,
  ⟨none,(some 32),.ext (.t 27) 1⟩,
  ⟨none,(some 33),.fld 1 (.t 5)⟩,
  ⟨none,none,.store 1 (.t 33) (.t 31)⟩])
 (.region false [⟨none,(some 34),.mov (.t 0)⟩,
  ⟨none,(some 35),.fld 1 (.t 5)⟩,
  ⟨none,(some 36),.load 1 false (.t 35)⟩,
  ⟨none,(some 37),.call (.k (.fn (.func 16) [] [])) [(.t 34),(.t 36)]⟩,
  ⟨none,(some 38),.fld 2 (.t 5)⟩,
  ⟨none,none,.store 1 (.t 38) (.t 37)⟩]))
 .skip))
 (.seq (.region true [⟨none,(some 39),.load 3 true (.t 5)⟩,
  ⟨none,(some 40),.load 3 true (.t 3)⟩,
  ⟨none,(some 41),.load 3 true (.t 4)⟩,
  ⟨none,(some 42),.bsl 3 2 [(.str []),.nils,.nils] [(0,3,(.t 40)),(3,3,(.t 41))]⟩,
  ⟨none,(some 43),.mov (.t 0)⟩,
  ⟨none,(some 44),.callT (.k (.fn (.func 17) [] [])) [(.t 43),(.k (.int .i64 2))]⟩,
  ⟨none,(some 45),.bin .eql (.t 44) (.k (.int .i64 0))⟩,
  ⟨none,(some 46),.build [(.str []),.nils,.nils,.nils,(.bool false)] [(0,3,(.t 39)),(3,1,(.t 42)),(4,1,(.t 45))]⟩,
  ⟨none,none,.store 5 (.t 2) (.t 46)⟩,
  ⟨none,none,.apart (.t 5) (.t 43)⟩,
  ⟨none,none,.apart (.t 3) (.t 43)⟩,
  ⟨none,none,.apart (.t 4) (.t 43)⟩])
 .ret))))))
 ntmps:=47
 res:=[.cell 2 5 true]
theorem zc7x:zsjc P Tryz.f6=some a6:=by kernel_rfl
end Go.Proofs.YtjknipdiglpnlaaGreatDoor
set_option linter.unusedSimpArgs false
set_option linter.unusedVariables false
namespace Go.Proofs.YtjknipdiglpnlaaGreatDoor
open Go Go.Am
end Go.Proofs.YtjknipdiglpnlaaGreatDoor
set_option linter.unusedSimpArgs false
set_option linter.unusedVariables false
namespace Go.Proofs.YtjknipdiglpnlaaGreatDoor
open Go Go.Am
theorem z1ch {α:Type} {f:α→List DV} {s:Nat} (hu : ∀ a,(f a).length=s) (h0:0<s) (hi : ∀ a b,f a=f b→a=b) : ∀ {l l':List α},l.flatMap f=l'.flatMap f→l=l'
 | [],[],_=>rfl
 | [],b::l',e=>by have:=congrArg List.length e; simp [hu] at this; omega
 | a::l,[],e=>by have:=congrArg List.length e; simp [hu] at this; omega
 | a::l,b::l',e=>by
  rw [List.flatMap_cons,List.flatMap_cons] at e
  have:=List.append_inj e (by rw [hu,hu])
  rw [hi _ _ this.1,z1ch hu h0 hi this.2]
theorem zcq7 {α:Type} {f:α→List DV} {s:Nat} (hu : ∀ a,(f a).length=s) (h0:0<s) (hi : ∀ a b,f a=f b→a=b) {x y:Sl α} (e:x.dv s f=y.dv s f):x=y:=by
 obtain ⟨k,l,h,hb⟩:=x
 obtain ⟨k',l',h',hb'⟩:=y
 cases k with
 | none =>
  cases k' with
  | none=>cases h rfl; cases h' rfl; rfl
  | some b=>simp [Sl.dv,slD] at e
 | some b =>
  cases k' with
  | none=>simp [Sl.dv,slD] at e
  | some b' =>
   simp only [Sl.dv,slD,DV.sl.injEq] at e
   obtain ⟨rfl,_,_,e⟩:=e
   cases z1ch hu h0 hi e
   rfl
theorem zsn4 {α:Type} {f:α→List DV} {g:α→DV} (hi : ∀ a b,f a=f b→a=b) (a:α):con (fun _=>True) f g (f a)=some (g a):=zzno (fun a b e=>by rw [hi a b e]) a trivial
abbrev Str:=List UInt8
def stC (s:Str):List DV:=[.str s]
theorem zqv6 (s:Str):(stC s).length=1:=rfl
theorem zds6 (s:Str):zbao (stC s)=true:=rfl
theorem zwaz {a b:Str} (h:stC a=stC b):a=b:=by simpa [stC] using h
structure Fct where
 kind:Int
 own:Str
 rev:Dg
 lay:Str
 run:Str
 at_:Int
 agr:Bool
 tgt:Dg
 docs:Sl Dg
structure Fnd where
 inv:Dg
 comp:Int
 id:Str
 sev:Int
 hd:Sl Dg
 st:Int
 dd:Sl Dg
 con:Bool
structure Cas where
 art:Dg
 at_:Int
 f:Sl Fct
 n:Sl Fnd
 d:Sl Str
structure Org where
 rev:Dg
 lay:Str
 run:Str
 deriving DecidableEq
def orC (o:Org):List DV:=dgC o.rev++[.str o.lay,.str o.run]
structure Req where
 kind:Int
 n:Int
 m:Int
 text:Str
 deriving DecidableEq
def rqC (q:Req):List DV:=[.int .i64 q.kind,.int .i64 q.n,.int .i64 q.m,.str q.text]
structure Sup where
 holds:Bool
 docs:Sl Dg
 missing:Int
theorem zhrh {a b:Org}:z32s (zi5g [(32,0),(2,1)]) (orC a) (orC b)=some (decide (a=b)):=by
 have e:zi5g [(32,0),(2,1)]=zi5g [(32,0)]++[1,1]:=rfl
 rw [e,orC,orC,zid2 (by simp [z1t1,zi5g]) (by simp [z1t1,zi5g]),zyiz]
 obtain ⟨a1,a2,a3⟩:=a
 obtain ⟨b1,b2,b3⟩:=b
 simp [z32s,znnj,Bool.and_assoc,zcn6]
theorem zq6c {a b:Req}:z32s [0,0,0,1] (rqC a) (rqC b)=some (decide (a=b)):=by
 obtain ⟨a1,a2,a3,a4⟩:=a
 obtain ⟨b1,b2,b3,b4⟩:=b
 simp [rqC,z32s,znnj,zcn6,Bool.beq_eq_decide_eq]
attribute [simp] zhrh zq6c
end Go.Proofs.YtjknipdiglpnlaaGreatDoor
set_option linter.unusedSimpArgs false
set_option linter.unusedVariables false
namespace Go.Proofs.YtjknipdiglpnlaaGreatDoor
open Go Go.Am
structure Tot {α:Type} (lt:α→α→Bool):Prop where
 irr : ∀ a,lt a a=false
 tr : ∀ a b c,lt a b=true→lt b c=true→lt a c=true
 tot : ∀ a b,lt a b=true∨a=b∨lt b a=true
set_option linter.unusedSectionVars false
section
variable {α:Type} [DecidableEq α] {lt:α→α→Bool}
def Asc (lt:α→α→Bool) (l:List α):Prop:=l.Pairwise (fun a b=>lt a b=true)
end
theorem zrk4 : ∀ a:Str,Op.bytesLess a a=false
 | []=>rfl
 | a::l=>by simp [Op.bytesLess,zrk4 l]
theorem z8c3 : ∀ a b c:Str,Op.bytesLess a b=true→Op.bytesLess b c=true→Op.bytesLess a c=true
 | _,_,[],_,h=>by simp [Op.bytesLess] at h
 | [],_,_::_,_,_=>rfl
 | _::_,[],_::_,h,_=>by simp [Op.bytesLess] at h
 | a::x,b::y,c::z,h1,h2=>by
  simp only [Op.bytesLess,Bool.or_eq_true,Bool.and_eq_true,decide_eq_true_eq,beq_iff_eq] at *
  rcases h1 with h1|⟨h1,h1'⟩
  ·rcases h2 with h2|⟨h2,h2'⟩
   ·exact .inl (UInt8.lt_trans h1 h2)
   ·exact .inl (h2▸h1)
  ·rcases h2 with h2|⟨h2,h2'⟩
   ·exact .inl (h1▸h2)
   ·exact .inr ⟨h1.trans h2,z8c3 _ _ _ h1' h2'⟩
theorem zoet : ∀ a b:Str,Op.bytesLess a b=true∨a=b∨Op.bytesLess b a=true
 | [],[] => .inr (.inl rfl)
 | [],_::_ => .inl rfl
 | _::_,[] => .inr (.inr rfl)
 | a::x,b::y=>by
  simp only [Op.bytesLess,Bool.or_eq_true,Bool.and_eq_true,decide_eq_true_eq,beq_iff_eq]
  rcases UInt8.lt_or_lt_of_ne (a:=a) (b:=b) |> fun h=>(Classical.em (a=b)).imp_right h with e|e|e
  ·rcases zoet x y with q|q|q
   ·exact .inl (.inr ⟨e,q⟩)
   ·exact .inr (.inl (by rw [e,q]))
   ·exact .inr (.inr (.inr ⟨e.symm,q⟩))
  ·exact .inl (.inl e)
  ·exact .inr (.inr (.inl e))
end Go.Proofs.YtjknipdiglpnlaaGreatDoor
set_option linter.unusedSimpArgs false
set_option linter.unusedVariables false
namespace Go.Proofs.YtjknipdiglpnlaaGreatDoor
open Go Go.Am
set_option linter.unusedSectionVars false
section
variable {β κ:Type} [DecidableEq κ]
def addG (s:β→β→Bool):List (List β)→β→List (List β)
 | [],x=>[[x]]
 | g::r,x=>if (match g with|[]=>false|y::_=>s y x) then (g++[x])::r else g::addG s r x
def grpG (s:β→β→Bool) (l:List β):List (List β):=l.foldl (addG s) []
end
section
variable {α β:Type} [DecidableEq α] {lt:α→α→Bool}
end
section
variable {γ:Type} {bef:γ→γ→Bool}
end
end Go.Proofs.YtjknipdiglpnlaaGreatDoor
set_option linter.unusedSimpArgs false
set_option linter.unusedVariables false
namespace Go.Proofs.YtjknipdiglpnlaaGreatDoor
open Go Go.Am
set_option linter.unusedSectionVars false
section
variable {α β κ:Type} [DecidableEq α] [DecidableEq κ] (lt:α→α→Bool) (own:β→α) (key:β→κ)
def badG (g:List β):Bool:=match g with
 | []=>false
 | w::r=>(w::r).any fun v => !decide (key v=key w)
end
section
variable {α β κ:Type} [DecidableEq α] [DecidableEq κ] {lt:α→α→Bool} {own:β→α} {key:β→κ}
def Conf (own:β→α) (key:β→κ) (V:List β) (o:α):Prop := ∃ v ∈ V,∃ w ∈ V,own v=o∧own w=o∧key v≠key w
structure Sng (lt:α→α→Bool) (own:β→α) (key:β→κ) (V S:List β):Prop where
 asc:Asc lt (S.map own)
 sub : ∀ v ∈ S,v ∈ V
 mem : ∀ x,x ∈ S.map own↔(∃ v ∈ V,own v=x)∧¬ Conf own key V x
end
end Go.Proofs.YtjknipdiglpnlaaGreatDoor
set_option linter.unusedSimpArgs false
set_option linter.unusedVariables false
namespace Go.Proofs.YtjknipdiglpnlaaGreatDoor
open Go Go.Am
set_option linter.unusedSectionVars false
section
variable {α β κ:Type} [DecidableEq α] [DecidableEq κ] {lt:α→α→Bool} {own:β→α} {key:β→κ}
end
end Go.Proofs.YtjknipdiglpnlaaGreatDoor
set_option linter.unusedSimpArgs false
set_option linter.unusedVariables false
namespace Go.Proofs.YtjknipdiglpnlaaGreatDoor
open Go Go.Am
set_option linter.unusedSectionVars false
inductive DRes (γ:Type) where
 | thr
 | dis
 | ok (c:γ)
def DRes.map {γ δ:Type} (f:γ→δ):DRes γ→DRes δ
 | .thr => .thr
 | .dis => .dis
 | .ok c => .ok (f c)
section
variable {γ δ:Type}
end
section
variable {α β κ:Type} [DecidableEq α] [DecidableEq κ] {lt:α→α→Bool} {own:β→α} {key:β→κ}
end
end Go.Proofs.YtjknipdiglpnlaaGreatDoor
set_option linter.unusedSimpArgs false
set_option linter.unusedVariables false
namespace Go.Proofs.YtjknipdiglpnlaaGreatDoor
open Go Go.Am
def nilS {α:Type}:Sl α:=⟨none,[],fun _=>rfl,by simp⟩
def ownN {α:Type} (l:List α):Sl α:=if l.isEmpty then nilS else own l
theorem zce3 {α:Type}:ownN ([]:List α)=nilS:=rfl
theorem z527 {α:Type} {l:List α} (h:l≠[]):ownN l=own l:=by cases l with|nil=>exact absurd rfl h|cons a l=>rfl
theorem zd8n {α:Type} {l:List α} (h:l.length≤4294967296):(ownN l).l=l:=by
 cases l with
 | nil=>rfl
 | cons a l=>rw [z527 (by simp),z3e9 h]
theorem z2i7 {α:Type} {s:Nat} {f:α→List DV}:(ownN ([]:List α)).dv s f = .nils:=rfl
theorem zgr3 {α:Type} {l:List α} {s:Nat} {f:α→List DV} (h:l≠[]) (hb:l.length≤4294967296):(ownN l).dv s f = .sl false s l.length (l.flatMap f):=by rw [z527 h,zqrs hb]
mutual
theorem z8b8 (n:Nat) : ∀ (d:DV),zyp8 d=true→Am.below n d=true
 | .agg cs,h=>by simp only [zyp8] at h; simp only [Am.below]; exact zmq5 n cs h
 | .tup cs,h=>by simp only [zyp8] at h; simp only [Am.below]; exact zmq5 n cs h
 | .sl _ _ _ cs,h=>by simp only [zyp8] at h; simp only [Am.below]; exact zmq5 n cs h
 | .ref cs,h=>by simp only [zyp8] at h; simp only [Am.below]; exact zmq5 n cs h
 | .fn _ a b,h=>by simp only [zyp8,Bool.and_eq_true] at h; simp only [Am.below,Bool.and_eq_true]; exact ⟨zmq5 n a h.1,zmq5 n b h.2⟩
 | .iface _ v,h=>by simp only [zyp8] at h; simp only [Am.below]; exact z8b8 n v h
 | .ms ..,h=>by simp [zyp8] at h
 | .mp ..,h=>by simp [zyp8] at h
 | .int ..,_=>rfl
 | .bool ..,_=>rfl
 | .str ..,_=>rfl
 | .nilp,_=>rfl
 | .nilm,_=>rfl
 | .nilf,_=>rfl
 | .nili,_=>rfl
 | .nils,_=>rfl
 | .junk,_=>rfl
theorem zmq5 (n:Nat) : ∀ (l:List DV),zbao l=true→z1r6 n l=true
 | [],_=>rfl
 | d::r,h=>by simp only [zbao,Bool.and_eq_true] at h; simp only [z1r6,Bool.and_eq_true]; exact ⟨z8b8 n d h.1,zmq5 n r h.2⟩
end
theorem zoxk {d:Dg}:(dgC d).all DV.one=true:=zzst
theorem z3om {h:List AObj} {k:Nat} {c:Dg}:z4tt h k (dgC c)=some (dgC c):=z619 (z6je c)
theorem zbw6 {n:Nat} {g:Dg}:z1r6 n (dgC g)=true:=zmq5 n _ (z6je g)
theorem zes9 {h:List AObj} {id:Nat} {d:Dg} {l:List DV} (hl:l.length=32):zy6o h id 32 0 (.agg (dgC d)) (some l)=some (.junk,h.set id (.cells (dgC d))):=zfc1 (z1t1 d) hl zzst
theorem zxh4 {h:List AObj} {k:Nat} {f:Fn} {x:DV}:snap h (k+1) (.fn f [] [x])=(snap h (k+1) x).map fun y => .fn f [] [y]:=by
 simp only [snap,zcxt,zoyo]
 cases zcxt _ x<;>rfl
theorem znxs {h:List AObj} {k:Nat} {f:Fn} {x y:DV}:snap h (k+1) (.fn f [] [x,y])=(snap h (k+1) x).bind fun a=>(snap h (k+1) y).map fun b => .fn f [] [a,b]:=by
 simp only [snap,zcxt,zoyo]
 cases zcxt _ x<;>simp only [Option.bind_some,Option.bind_none]
 ·rfl
 ·cases zcxt _ y<;>rfl
theorem zfco {h:List AObj} {k:Nat} {f:Fn} {x y z:DV}:snap h (k+1) (.fn f [] [x,y,z])=(snap h (k+1) x).bind fun a=>(snap h (k+1) y).bind fun b=>(snap h (k+1) z).map fun c => .fn f [] [a,b,c]:=by
 simp only [snap,zcxt,zoyo]
 cases zcxt _ x<;>simp only [Option.bind_some,Option.bind_none]
 ·rfl
 ·cases zcxt _ y<;>simp only [Option.bind_some,Option.bind_none]
  ·rfl
  ·cases zcxt _ z<;>rfl
theorem zxbs {h:List AObj} {k:Nat} {f:Fn} {l:List DV}:snap h k (.fn f [] l)=(z4tt h k l).map (.fn f []):=by
 cases k<;>simp only [snap,zcxt,zoyo,z4tt,zncu]<;>first|rfl|(cases zp5p _ l<;>rfl)
theorem zvvi {h:List AObj} {k:Nat} {f:Fn}:snap h k (.fn f [] [])=some (.fn f [] []):=by cases k<;>rfl
attribute [simp] zxh4 znxs zfco zvvi
theorem zjj2 {pre l:List AObj} {ver:Nat}:objV (pre++l) pre.length ver=objV l 0 ver:=by
 unfold objV ziu0; rw [List.getElem?_append_right (by omega),Nat.sub_self]
theorem zxft {pre l:List AObj} {o:AObj}:(pre++l).set pre.length o=pre++l.set 0 o:=by rw [List.set_append_right _ _ (by omega)]; simp
section
variable {α:Type} {lt:α→α→Bool}
end
def fl {α:Type} (f:α→List DV) (l:List α):List DV:=l.flatMap f
theorem z8lx {α:Type} {f:α→List DV} {K:Nat} (hu : ∀ a,(f a).length=K) (l:List α):(fl f l).length=l.length*K:=z1rq hu l
section
variable {α:Type} {f:α→List DV} {K:Nat}
theorem zfiy (hu : ∀ a,(f a).length=K) {l:List α} {i:Nat} (hi:i<l.length):oneC K true ((fl f l).drop (i*K))=some (.agg (f l[i])):=by
 rw [fl,zkb2 hu,List.drop_eq_getElem_cons hi,List.flatMap_cons,zza5 (by simp [hu]),List.take_left' (hu _)]
theorem zdvi (hu : ∀ a,(f a).length=K) (h0:0<K) (ha : ∀ a,(f a).all DV.one=true) {h:List AObj} {id i:Nat} {l:List α} {x:α} (hi:i<l.length):zy6o h id K (i*K) (.agg (f x)) (some (fl f l))=some (.junk,h.set id (.cells (fl f (l.set i x)))):=by
 have hl:=z8lx hu l
 have h1:i*K+K≤l.length*K:=by rw [← Nat.succ_mul]; exact Nat.mul_le_mul_right _ hi
 simp only [zy6o,DV.cells,hu,ha,hl]
 rw [if_pos ⟨trivial,h1,trivial⟩,fl,z47w hu hi,fl]
theorem z9jy {f:α→List DV} (h : ∀ a,(f a).all DV.one=true) : ∀ (l:List α),(l.flatMap f).all DV.one=true
 | []=>rfl
 | a::l=>by rw [List.flatMap_cons,List.all_append,h,z9jy h l]; rfl
end
theorem z590 {α:Type} {f:α→List DV} {K:Nat} (hu : ∀ a,(f a).length=K) (l:List α) (i:Nat):(fl f l).take (i*K)=(l.take i).flatMap f:=z10w hu l i
theorem z29t {α:Type} {f:α→List DV} {K:Nat} (hu : ∀ a,(f a).length=K) (hp : ∀ a,zbao (f a)=true) {pre:List AObj} {l:List α} {m:Nat}:snap (pre++[.cells (fl f l)]) 3 (.ms pre.length (l.length*K) 0 K m (l.length*K))=some (.sl false K m ((l.take m).flatMap f)):=by
 rw [zve7,zjj2,z1zn,if_pos (z8lx hu l),Option.bind_some,List.drop_zero,z590 hu,z619 (zp6k hp _)]
 rfl
section
variable {α:Type} {f:α→List DV} {K:Nat}
theorem zkaf {l m:List α}:fl f (l++m)=fl f l++fl f m:=by unfold fl; exact List.flatMap_append ..
theorem zvrp {h:List AObj} {id b m:Nat} {l:List α} {cs:List α} (hu : ∀ a,(f a).length=K) (h0:0<K) (hb:b≤16384) (ha : ∀ a,(f a).all DV.one=true) (hm:cs.length=m) (hbig:l.length+m≤4294967296) (ho:objV h id (l.length*K)=some (fl f l)) :
  appX h K b (.ms id (l.length*K) 0 K l.length (l.length*K)) m (cs.flatMap f)=some (.ms id ((l.length+m)*K) 0 K (l.length+m) ((l.length+m)*K),h.set id (.cells (fl f (l++cs)))):=by
 have hc:(cs.flatMap f).length=m*K:=by rw [z1rq hu,hm]
 rw [zbho rfl hb h0 (by rw [hc]) hbig (z9jy ha cs),ho,Option.map_some,hc,← Nat.add_mul,zkaf]
 rfl
end
theorem storeO_1 {h:List AObj} {id off:Nat} {v:DV} {l:List DV} (hc:v.cells=[v]) (ho:v.one=true) (hl:off<l.length):zy6o h id 1 off v (some l)=some (.junk,h.set id (.cells (zk7y l off [v]))):=by
 simp only [zy6o,hc,List.length_cons,List.length_nil,List.all_cons,List.all_nil,ho,Bool.and_self]
 first|done|rw [if_pos ⟨trivial,by omega,trivial⟩]
theorem zig9 {α:Type} {p:α→Bool} : ∀ {l:List α} {i:Nat} (hi:i≤l.length),(∀ j (h:j<l.length),j<i→p l[j]=true)→(i=l.length ∨ ∃ h:i<l.length,p l[i]=false)→l.takeWhile p=l.take i∧l.dropWhile p=l.drop i
 | [],i,hi,_,_=>by simp
 | a::l,0,_,_,h=>by
  have ha:p a=false:=by
   rcases h with h|⟨_,h⟩
   ·simp at h
   ·simpa using h
  simp [List.takeWhile_cons,List.dropWhile_cons,ha]
 | a::l,i+1,hi,h1,h2=>by
  have ha:p a=true:=h1 0 (by simp) (by omega)
  have ih:=zig9 (p:=p) (l:=l) (i:=i) (by simpa using hi) (fun j hj hji=>h1 (j+1) (Nat.succ_lt_succ hj) (by omega)) (by
   rcases h2 with h|⟨h,q⟩
   ·exact .inl (by simpa using h)
   ·exact .inr ⟨by simpa using h,by simpa using q⟩)
  simp [List.takeWhile_cons,List.dropWhile_cons,ha,ih.1,ih.2]
theorem zch3 {α:Type} {x:Sl α} {s:Nat} {f:α→List DV} {b:DV}:z87v (x.dv s f) b=b.known:=by
 obtain ⟨k,l,h,hb⟩:=x
 cases k with
 | none=>exact z8bo
 | some c=>exact zhyd
section
variable {α:Type} {f:α→List DV} {K:Nat}
def oV (k K:Nat) (l:List α):DV:=if l=[] then .nils else .ms k (l.length*K) 0 K l.length (l.length*K)
def oT (f:α→List DV) (l:List α):List AObj:=if l=[] then [] else [.cells (fl f l)]
theorem zl8p {k:Nat}:oV k K ([]:List α) = .nils:=rfl
theorem zkrk:oT f []=[]:=rfl
theorem zpni {k:Nat} {l:List α} (h:l≠[]):oV k K l = .ms k (l.length*K) 0 K l.length (l.length*K):=if_neg h
theorem zu2l {l:List α} (h:l≠[]):oT f l=[.cells (fl f l)]:=if_neg h
theorem z612 {k b:Nat} {l cs:List α} {h:List AObj} (hp:h.length=k) (hu : ∀ a,(f a).length=K) (h0:0<K) (hb:b≤16384) (ha : ∀ a,(f a).all DV.one=true) (hbig:l.length+cs.length≤4294967296) :
  appX (h++oT f l) K b (oV k K l) cs.length (cs.flatMap f)=some (oV k K (l++cs),h++oT f (l++cs)):=by
 by_cases e:l=[]
 ·subst e
  rw [zl8p,zkrk,List.append_nil,List.nil_append]
  by_cases e2:cs=[]
  ·subst e2
   rw [show ([]:List α).flatMap f=[] from rfl,List.length_nil,zw6v hb h0,zl8p,zkrk,List.append_nil]
  ·have:=zsuq (h:=h) (s:=K) (b:=b) (m:=cs.length) (cs:=cs.flatMap f) hb h0 (by rw [z1rq hu]) (List.length_pos_iff.2 e2) (by simp at hbig; omega)
   rw [this,zpni e2,zu2l e2,z1rq hu,hp]; rfl
 ·have ho:objV (h++[AObj.cells (fl f l)]) k (l.length*K)=some (fl f l):=by
   unfold objV ziu0
   rw [List.getElem?_append_right (by omega),show k-h.length=0 by omega]
   simp [z8lx hu]
  have:=zvrp (h:=h++[AObj.cells (fl f l)]) (id:=k) (b:=b) (l:=l) (m:=cs.length) (cs:=cs) hu h0 hb ha rfl hbig ho
  rw [zpni e,zu2l e,this,zpni (by simp [e]),zu2l (by simp [e]),List.length_append,List.set_append_right _ _ (by omega),show k-h.length=0 by omega]
  rfl
theorem zte0 {k b:Nat} {l:List α} {x:α} {h:List AObj} (hp:h.length=k) (hu : ∀ a,(f a).length=K) (h0:0<K) (hb:b≤16384) (ha : ∀ a,(f a).all DV.one=true) (hbig:l.length+1≤4294967296) :
  appX (h++oT f l) K b (oV k K l) 1 (f x)=some (oV k K (l++[x]),h++oT f (l++[x])):=by
 have:=z612 (cs:=[x]) (b:=b) hp hu h0 hb ha hbig
 simpa using this
theorem zigm {k:Nat} {l:List α} {h:List AObj} (hp:h.length=k) (hu : ∀ a,(f a).length=K) (hf : ∀ a,zbao (f a)=true) (hb:l.length≤4294967296) {r:List AObj}:snap (h++(oT f l++r)) 3 (oV k K l)=some ((ownN l).dv K f):=by
 by_cases e:l=[]
 ·subst e; rw [z2i7]; rfl
 ·rw [zpni e,zu2l e,zgr3 e hb,zve7]
  have ho:objV (h++([AObj.cells (fl f l)]++r)) k (l.length*K)=some (fl f l):=by
   unfold objV ziu0
   rw [List.getElem?_append_right (by omega),show k-h.length=0 by omega]
   simp [z8lx hu]
  rw [ho,Option.bind_some,List.drop_zero,z590 hu,List.take_length,z619 (zp6k hf _)]
  rfl
theorem zd81 {n:Nat} {l:List α} (hf : ∀ a,zbao (f a)=true):zlf2 n (oT f l)=true:=by
 unfold oT
 split
 ·rfl
 ·simp only [zlf2,fl,zmq5 _ _ (zp6k hf _),Bool.and_self]
end
def kLt (n:Nat):Nat→Bool:=fun id=>decide (id<n)
mutual
theorem zw9i {h:List AObj} (n:Nat) : ∀ (d:DV),Am.below n d=true→fzS (kLt n) h 3 d=some d
 | .agg cs,q=>by simp only [Am.below] at q; rw [zf3h,zw41 n cs q]; rfl
 | .tup cs,q=>by simp only [Am.below] at q; rw [zliz,zw41 n cs q]; rfl
 | .sl _ _ _ cs,q=>by simp only [Am.below] at q; rw [zfs9,zw41 n cs q]; rfl
 | .ref cs,q=>by simp only [Am.below] at q; rw [zeo2,zw41 n cs q]; rfl
 | .fn _ a b,q=>by simp only [Am.below,Bool.and_eq_true] at q; rw [z284,zw41 n a q.1,zw41 n b q.2]; rfl
 | .iface t v,q=>by
  simp only [Am.below] at q
  have:=zw9i (h:=h) n v q
  simp only [fzS,zcxt] at this ⊢
  rw [this]; rfl
 | .ms id ..,q=>by simp only [Am.below,decide_eq_true_eq] at q; rw [zi9r,if_pos (by simpa [kLt] using q)]
 | .mp id ..,q=>by simp only [Am.below,decide_eq_true_eq] at q; rw [zept,if_pos (by simpa [kLt] using q)]
 | .int ..,_=>zzxw rfl
 | .bool ..,_=>zzxw rfl
 | .str ..,_=>zzxw rfl
 | .nilp,_=>zzxw rfl
 | .nilm,_=>zzxw rfl
 | .nilf,_=>zzxw rfl
 | .nili,_=>zzxw rfl
 | .nils,_=>zzxw rfl
 | .junk,_=>zzxw rfl
theorem zw41 {h:List AObj} (n:Nat) : ∀ (l:List DV),z1r6 n l=true→fzSo (kLt n) h 3 l=some l
 | [],_=>zmvq
 | d::r,q=>by simp only [z1r6,Bool.and_eq_true] at q; rw [zhuj,zw9i n d q.1,zw41 n r q.2]; rfl
end
theorem zd3c {h:List AObj} {n:Nat} {d:DV} (q:Am.below n d=true):mk1 (kLt n) h d=d:=zwy6 (zw9i n d q)
theorem zxf4 {h:List AObj} {n:Nat} : ∀ {l:List DV},z1r6 n l=true→mkL (kLt n) h l=l
 | [],_=>rfl
 | d::r,q=>by simp only [z1r6,Bool.and_eq_true] at q; rw [z8t0,zd3c q.1,zxf4 q.2]
theorem z6z7 {h:List AObj} {n:Nat} : ∀ {l:List AObj} {i:Nat},i+l.length≤n→zlf2 n l=true→mkO (kLt n) h i l=l
 | [],i,_,_=>rfl
 | .cells a::r,i,hi,q=>by
  simp only [zlf2,Bool.and_eq_true] at q
  simp only [List.length_cons] at hi
  rw [ztik,if_pos (by simp [kLt]; omega),zxf4 q.1,z6z7 (by omega) q.2]
 | .dead::r,i,hi,q=>by
  simp only [zlf2] at q
  simp only [List.length_cons] at hi
  rw [zsk4,z6z7 (by omega) q]
theorem z26m {K:Nat→Bool} {h:List AObj} : ∀ {a b:List AObj} {i:Nat},mkO K h i (a++b)=mkO K h i a++mkO K h (i+a.length) b
 | [],b,i=>rfl
 | .cells c::r,b,i=>by rw [List.cons_append,ztik,ztik,z26m,List.cons_append,List.length_cons,Nat.add_assoc,Nat.add_comm 1]
 | .dead::r,b,i=>by rw [List.cons_append,zsk4,zsk4,z26m,List.cons_append,List.length_cons,Nat.add_assoc,Nat.add_comm 1]
theorem zz5t {H:List AObj} {cs:List DV} {off:Nat} (hp:zbao cs=true):mk1 (kLt H.length) (H++[.cells cs]) (.mp H.length cs.length off) = .ref (cs.drop off):=by
 refine zwy6 ?_
 have ho:objV (H++[AObj.cells cs]) H.length cs.length=some cs:=by
  unfold objV ziu0
  rw [List.getElem?_append_right (Nat.le_refl _),Nat.sub_self]; simp
 have hd:zbao (cs.drop off)=true:=by
  have : ∀ (l:List DV) (k:Nat),zbao l=true→zbao (l.drop k)=true:=by
   intro l
   induction l with
   | nil=>intro k _; simp [zbao]
   | cons d r ih =>
    intro k h
    simp only [zbao,Bool.and_eq_true] at h
    cases k with
    | zero=>simp [zbao,h]
    | succ k=>exact ih k h.2
  exact this _ _ hp
 rw [zept,if_neg (by simp [kLt]),ho,Option.bind_some,zl6f hd]; rfl
theorem zs10 {P:Program} {n0:Nat} {x:ACode} {Φ:AExit→St→Prop} {t t':List DV} {H:List AObj} {cs:List DV} (hH:zlf2 H.length H=true) (hn:n0≤H.length)
  (ht:znqe (mkL (kLt H.length) (H++[.cells cs]) t) t') (hb:z1r6 H.length t'=true) (h:V P n0 x Φ ⟨t',H⟩):V P n0 x Φ ⟨t,H++[.cells cs]⟩:=by
 refine V_mk (kLt H.length) ?_
 rw [z26m,z6z7 (by omega) hH,ztik,if_neg (by simp [kLt]),zfxb]
 exact zqfd (zju2 (tail:=[.dead]) ht rfl hn hb hH) h
end Go.Proofs.YtjknipdiglpnlaaGreatDoor
set_option linter.unusedSimpArgs false
set_option linter.unusedVariables false
namespace Go.Proofs.YtjknipdiglpnlaaGreatDoor
open Go Go.Am
structure Ent where
 path:Str
 dg:Dg
 deriving DecidableEq
def enC (x:Ent):List DV:=(.str x.path)::(dgC x.dg)
theorem zuso (x:Ent):(enC x).length=33:=by simp [enC,z1t1]
theorem zt9q (x:Ent):zbao (enC x)=true:=by
 unfold enC
 simp only [zbao,zyp8,Bool.true_and]; exact z6je _
theorem zxv7 {a b:Ent} (e:enC a=enC b):a=b:=by
 obtain ⟨a0,a1⟩:=a
 obtain ⟨b0,b1⟩:=b
 simp only [enC,List.cons.injEq,DV.str.injEq] at e
 rw [e.1,zib9 e.2]
theorem z6p9 {x:Ent}:oneC 33 true (enC x)=some (.agg (enC x)):=by simp [oneC,zuso,List.take_of_length_le]
theorem zfqa {x:Ent} {off n:Nat} {a:Bool} (hl:off+n≤33):zhj0 off n a (.agg (enC x))=oneC n a ((enC x).drop off):=by simp [zhj0,zuso,hl]
theorem z6eq {x:Ent} {n:Nat}:z1r6 n (enC x)=true:=zmq5 n _ (zt9q x)
theorem zo6u {x:Ent}:(enC x).all DV.one=true:=by simp only [enC,List.all_cons,List.all_append,zoxk,zzmf,z3gw,zxyr,z4ja,List.all_nil,Bool.and_self]
theorem zrai {x:Ent} {h:List AObj} {id:Nat} {l:List DV} (hl:l.length=33):zy6o h id 33 0 (.agg (enC x)) (some l)=some (.junk,h.set id (.cells (enC x))):=zfc1 (zuso x) hl zo6u
theorem z5qg {h:List AObj} {k:Nat} {x:Ent}:z4tt h k (enC x)=some (enC x):=z619 (zt9q x)
theorem zyjb {K:Nat→Bool} {h:List AObj} {x:Ent}:mkL K h (enC x)=enC x:=zrip (zt9q x)
theorem z5fr {x:Ent}:oneC 1 false (enC x)=some (.str x.path):=rfl
theorem z88p {x:Ent}:oneC 32 true ((enC x).drop 1)=some (.agg (dgC x.dg)):=by show oneC 32 true (dgC x.dg)=_; simp [oneC,z1t1,List.take_of_length_le]
structure Vrb where
 nm:Str
 vl:Str
 deriving DecidableEq
def vaC (x:Vrb):List DV:=(.str x.nm)::([.str x.vl])
theorem zqri (x:Vrb):(vaC x).length=2:=by simp [vaC,z1t1]
theorem zxwt (x:Vrb):zbao (vaC x)=true:=by
 unfold vaC
 simp [zbao,zyp8]
theorem zieq {x:Vrb}:oneC 2 true (vaC x)=some (.agg (vaC x)):=by simp [oneC,zqri,List.take_of_length_le]
theorem zegk {x:Vrb} {off n:Nat} {a:Bool} (hl:off+n≤2):zhj0 off n a (.agg (vaC x))=oneC n a ((vaC x).drop off):=by simp [zhj0,zqri,hl]
theorem zw37 {x:Vrb} {n:Nat}:z1r6 n (vaC x)=true:=zmq5 n _ (zxwt x)
theorem z4t4 {x:Vrb}:(vaC x).all DV.one=true:=by simp only [vaC,List.all_cons,List.all_append,zoxk,zzmf,z3gw,zxyr,z4ja,List.all_nil,Bool.and_self]
theorem zjux {x:Vrb} {h:List AObj} {id:Nat} {l:List DV} (hl:l.length=2):zy6o h id 2 0 (.agg (vaC x)) (some l)=some (.junk,h.set id (.cells (vaC x))):=zfc1 (zqri x) hl z4t4
theorem z3av {h:List AObj} {k:Nat} {x:Vrb}:z4tt h k (vaC x)=some (vaC x):=z619 (zxwt x)
theorem zfqg {K:Nat→Bool} {h:List AObj} {x:Vrb}:mkL K h (vaC x)=vaC x:=zrip (zxwt x)
theorem zh4z {x:Vrb}:oneC 1 false (vaC x)=some (.str x.nm):=rfl
theorem zu5l {x:Vrb}:oneC 1 false ((vaC x).drop 1)=some (.str x.vl):=rfl
structure Rec where
 run:Str
 scope:Str
 step:Str
 at_:Int
 cmd:Sl Str
 env:Sl Vrb
 m:Sl Ent
 p:Sl Ent
def reC (x:Rec):List DV:=(.str x.run)::((.str x.scope)::((.str x.step)::((.int .i64 x.at_)::((x.cmd.dv 1 stC)::((x.env.dv 2 vaC)::((x.m.dv 33 enC)::([x.p.dv 33 enC])))))))
theorem z74o (x:Rec):(reC x).length=8:=by simp [reC,z1t1]
theorem zfuu (x:Sl Str):zyp8 (x.dv 1 stC)=true:=zxxb zds6 x
theorem zlgv {n:Nat} {x:Sl Str}:Am.below n (x.dv 1 stC)=true:=z8b8 n _ (zfuu x)
theorem zdef {x y:Sl Str} (e:x.dv 1 stC=y.dv 1 stC):x=y:=zcq7 zqv6 (by decide) (fun _ _=>zwaz) e
theorem z0a9 (x:Sl Vrb):zyp8 (x.dv 2 vaC)=true:=zxxb zxwt x
theorem zs4d {n:Nat} {x:Sl Vrb}:Am.below n (x.dv 2 vaC)=true:=z8b8 n _ (z0a9 x)
theorem zru8 (x:Sl Ent):zyp8 (x.dv 33 enC)=true:=zxxb zt9q x
theorem zb48 {n:Nat} {x:Sl Ent}:Am.below n (x.dv 33 enC)=true:=z8b8 n _ (zru8 x)
theorem zdvs {x y:Sl Ent} (e:x.dv 33 enC=y.dv 33 enC):x=y:=zcq7 zuso (by decide) (fun _ _=>zxv7) e
theorem zqkx (x:Rec):zbao (reC x)=true:=by
 unfold reC
 simp [zbao,zyp8,zfuu,z0a9,zru8]
theorem zbr1 {x:Rec}:oneC 8 true (reC x)=some (.agg (reC x)):=by simp [oneC,z74o,List.take_of_length_le]
theorem zqc3 {x:Rec} {off n:Nat} {a:Bool} (hl:off+n≤8):zhj0 off n a (.agg (reC x))=oneC n a ((reC x).drop off):=by simp [zhj0,z74o,hl]
theorem zwhl {x:Rec} {n:Nat}:z1r6 n (reC x)=true:=zmq5 n _ (zqkx x)
theorem z8jm {x:Rec}:(reC x).all DV.one=true:=by simp only [reC,List.all_cons,List.all_append,zoxk,zzmf,z3gw,zxyr,z4ja,List.all_nil,Bool.and_self]
theorem zhem {x:Rec} {h:List AObj} {id:Nat} {l:List DV} (hl:l.length=8):zy6o h id 8 0 (.agg (reC x)) (some l)=some (.junk,h.set id (.cells (reC x))):=zfc1 (z74o x) hl z8jm
theorem zopz {h:List AObj} {k:Nat} {x:Rec}:z4tt h k (reC x)=some (reC x):=z619 (zqkx x)
theorem zish {K:Nat→Bool} {h:List AObj} {x:Rec}:mkL K h (reC x)=reC x:=zrip (zqkx x)
theorem zwo9 {x:Rec}:oneC 1 false (reC x)=some (.str x.run):=rfl
theorem z5cj {x:Rec}:oneC 1 false ((reC x).drop 1)=some (.str x.scope):=rfl
theorem zhaq {x:Rec}:oneC 1 false ((reC x).drop 2)=some (.str x.step):=rfl
theorem zb4u {x:Rec}:oneC 1 false ((reC x).drop 3)=some (.int .i64 x.at_):=rfl
theorem zgok {x:Rec}:oneC 1 false ((reC x).drop 4)=some (x.cmd.dv 1 stC):=rfl
theorem zhl9 {x:Rec}:oneC 1 false ((reC x).drop 5)=some (x.env.dv 2 vaC):=rfl
theorem z05i {x:Rec}:oneC 1 false ((reC x).drop 6)=some (x.m.dv 33 enC):=rfl
theorem zbc5 {x:Rec}:oneC 1 false ((reC x).drop 7)=some (x.p.dv 33 enC):=rfl
structure Att where
 own:Str
 rc:Rec
def atC (x:Att):List DV:=(.str x.own)::(reC x.rc)
theorem zu2q (x:Att):(atC x).length=9:=by simp [atC,z1t1,z74o]
theorem z83l (x:Att):zbao (atC x)=true:=by
 unfold atC
 simp [zbao,zyp8,zqkx]
theorem znv7 {x:Att}:oneC 9 true (atC x)=some (.agg (atC x)):=by simp [oneC,zu2q,List.take_of_length_le]
theorem zxu4 {x:Att} {off n:Nat} {a:Bool} (hl:off+n≤9):zhj0 off n a (.agg (atC x))=oneC n a ((atC x).drop off):=by simp [zhj0,zu2q,hl]
theorem z03k {x:Att} {n:Nat}:z1r6 n (atC x)=true:=zmq5 n _ (z83l x)
theorem zwh8 {x:Att}:(atC x).all DV.one=true:=by simp only [atC,List.all_cons,List.all_append,zoxk,zzmf,z3gw,zxyr,z4ja,List.all_nil,Bool.and_self,z8jm]
theorem z5ch {x:Att} {h:List AObj} {id:Nat} {l:List DV} (hl:l.length=9):zy6o h id 9 0 (.agg (atC x)) (some l)=some (.junk,h.set id (.cells (atC x))):=zfc1 (zu2q x) hl zwh8
theorem zf52 {h:List AObj} {k:Nat} {x:Att}:z4tt h k (atC x)=some (atC x):=z619 (z83l x)
theorem zt28 {K:Nat→Bool} {h:List AObj} {x:Att}:mkL K h (atC x)=atC x:=zrip (z83l x)
theorem zkpj {x:Att}:oneC 1 false (atC x)=some (.str x.own):=rfl
theorem zo7q {x:Att}:oneC 8 true ((atC x).drop 1)=some (.agg (reC x.rc)):=rfl
theorem z6lh {x:Att}:oneC 1 false ((atC x).drop 1)=some (.str x.rc.run):=rfl
theorem zo6a {x:Att}:oneC 1 false ((atC x).drop 2)=some (.str x.rc.scope):=rfl
theorem z77v {x:Att}:oneC 1 false ((atC x).drop 3)=some (.str x.rc.step):=rfl
theorem zn34 {x:Att}:oneC 1 false ((atC x).drop 4)=some (.int .i64 x.rc.at_):=rfl
theorem zyok {x:Att}:oneC 1 false ((atC x).drop 5)=some (x.rc.cmd.dv 1 stC):=rfl
theorem zapw {x:Att}:oneC 1 false ((atC x).drop 6)=some (x.rc.env.dv 2 vaC):=rfl
theorem z7jb {x:Att}:oneC 1 false ((atC x).drop 7)=some (x.rc.m.dv 33 enC):=rfl
theorem zh1e {x:Att}:oneC 1 false ((atC x).drop 8)=some (x.rc.p.dv 33 enC):=rfl
structure Lnk where
 step:Str
 m:Sl Ent
 p:Sl Ent
def lkC (x:Lnk):List DV:=(.str x.step)::((x.m.dv 33 enC)::([x.p.dv 33 enC]))
theorem z9tw (x:Lnk):(lkC x).length=3:=by simp [lkC,z1t1]
theorem z53g (x:Lnk):zbao (lkC x)=true:=by
 unfold lkC
 simp [zbao,zyp8,zru8]
theorem zja4 {a b:Lnk} (e:lkC a=lkC b):a=b:=by
 obtain ⟨a0,a1,a2⟩:=a
 obtain ⟨b0,b1,b2⟩:=b
 simp only [lkC,List.cons.injEq,DV.int.injEq,DV.str.injEq,DV.bool.injEq,true_and,and_true] at e
 rw [e.1,zdvs (e.2.1),zdvs (e.2.2)]
theorem zrer {x:Lnk}:oneC 3 true (lkC x)=some (.agg (lkC x)):=by simp [oneC,z9tw,List.take_of_length_le]
theorem zvzp {x:Lnk} {off n:Nat} {a:Bool} (hl:off+n≤3):zhj0 off n a (.agg (lkC x))=oneC n a ((lkC x).drop off):=by simp [zhj0,z9tw,hl]
theorem zlpm {x:Lnk} {n:Nat}:z1r6 n (lkC x)=true:=zmq5 n _ (z53g x)
theorem z6ct {x:Lnk}:(lkC x).all DV.one=true:=by simp only [lkC,List.all_cons,List.all_append,zoxk,zzmf,z3gw,zxyr,z4ja,List.all_nil,Bool.and_self]
theorem z6cz {x:Lnk} {h:List AObj} {id:Nat} {l:List DV} (hl:l.length=3):zy6o h id 3 0 (.agg (lkC x)) (some l)=some (.junk,h.set id (.cells (lkC x))):=zfc1 (z9tw x) hl z6ct
theorem z9r1 {h:List AObj} {k:Nat} {x:Lnk}:z4tt h k (lkC x)=some (lkC x):=z619 (z53g x)
theorem zcto {K:Nat→Bool} {h:List AObj} {x:Lnk}:mkL K h (lkC x)=lkC x:=zrip (z53g x)
theorem z380 {x:Lnk}:oneC 1 false (lkC x)=some (.str x.step):=rfl
theorem zfi3 {x:Lnk}:oneC 1 false ((lkC x).drop 1)=some (x.m.dv 33 enC):=rfl
theorem zj40 {x:Lnk}:oneC 1 false ((lkC x).drop 2)=some (x.p.dv 33 enC):=rfl
structure Vot where
 own:Str
 lnk:Lnk
def voC (x:Vot):List DV:=(.str x.own)::(lkC x.lnk)
theorem zu4u (x:Vot):(voC x).length=4:=by simp [voC,z1t1,z9tw]
theorem zc6g (x:Vot):zbao (voC x)=true:=by
 unfold voC
 simp [zbao,zyp8,z53g]
theorem zhol {x:Vot}:oneC 4 true (voC x)=some (.agg (voC x)):=by simp [oneC,zu4u,List.take_of_length_le]
theorem ztkf {x:Vot} {off n:Nat} {a:Bool} (hl:off+n≤4):zhj0 off n a (.agg (voC x))=oneC n a ((voC x).drop off):=by simp [zhj0,zu4u,hl]
theorem zv6a {x:Vot} {n:Nat}:z1r6 n (voC x)=true:=zmq5 n _ (zc6g x)
theorem z0cw {x:Vot}:(voC x).all DV.one=true:=by simp only [voC,List.all_cons,List.all_append,zoxk,zzmf,z3gw,zxyr,z4ja,List.all_nil,Bool.and_self,z6ct]
theorem zuf9 {x:Vot} {h:List AObj} {id:Nat} {l:List DV} (hl:l.length=4):zy6o h id 4 0 (.agg (voC x)) (some l)=some (.junk,h.set id (.cells (voC x))):=zfc1 (zu4u x) hl z0cw
theorem znis {h:List AObj} {k:Nat} {x:Vot}:z4tt h k (voC x)=some (voC x):=z619 (zc6g x)
theorem zo6e {K:Nat→Bool} {h:List AObj} {x:Vot}:mkL K h (voC x)=voC x:=zrip (zc6g x)
theorem z28l {x:Vot}:oneC 1 false (voC x)=some (.str x.own):=rfl
theorem zkpz {x:Vot}:oneC 3 true ((voC x).drop 1)=some (.agg (lkC x.lnk)):=rfl
theorem zsoe {x:Vot}:oneC 1 false ((voC x).drop 1)=some (.str x.lnk.step):=rfl
theorem z2y7 {x:Vot}:oneC 1 false ((voC x).drop 2)=some (x.lnk.m.dv 33 enC):=rfl
theorem zctd {x:Vot}:oneC 1 false ((voC x).drop 3)=some (x.lnk.p.dv 33 enC):=rfl
structure Agr where
 lnk:Lnk
 owners:Sl Str
 eqv:Sl Str
def agC (x:Agr):List DV:=lkC x.lnk++((x.owners.dv 1 stC)::([x.eqv.dv 1 stC]))
theorem znh2 (x:Agr):(agC x).length=5:=by simp [agC,z1t1,z9tw]
theorem z1u0 (x:Agr):zbao (agC x)=true:=by
 unfold agC
 exact zg0c (z53g _) (by simp [zbao,zfuu])
theorem zd17 {x:Agr}:oneC 5 true (agC x)=some (.agg (agC x)):=by simp [oneC,znh2,List.take_of_length_le]
theorem zi6g {x:Agr} {off n:Nat} {a:Bool} (hl:off+n≤5):zhj0 off n a (.agg (agC x))=oneC n a ((agC x).drop off):=by simp [zhj0,znh2,hl]
theorem zegd {x:Agr} {n:Nat}:z1r6 n (agC x)=true:=zmq5 n _ (z1u0 x)
theorem z892 {x:Agr}:(agC x).all DV.one=true:=by simp only [agC,List.all_cons,List.all_append,zoxk,zzmf,z3gw,zxyr,z4ja,List.all_nil,Bool.and_self,z6ct]
theorem z2q5 {x:Agr} {h:List AObj} {id:Nat} {l:List DV} (hl:l.length=5):zy6o h id 5 0 (.agg (agC x)) (some l)=some (.junk,h.set id (.cells (agC x))):=zfc1 (znh2 x) hl z892
theorem zki6 {h:List AObj} {k:Nat} {x:Agr}:z4tt h k (agC x)=some (agC x):=z619 (z1u0 x)
theorem z454 {K:Nat→Bool} {h:List AObj} {x:Agr}:mkL K h (agC x)=agC x:=zrip (z1u0 x)
theorem zrbu {x:Agr}:oneC 3 true (agC x)=some (.agg (lkC x.lnk)):=rfl
theorem z0wg {x:Agr}:oneC 1 false (agC x)=some (.str x.lnk.step):=rfl
theorem zu3j {x:Agr}:oneC 1 false ((agC x).drop 1)=some (x.lnk.m.dv 33 enC):=rfl
theorem z14s {x:Agr}:oneC 1 false ((agC x).drop 2)=some (x.lnk.p.dv 33 enC):=rfl
theorem zntj {x:Agr}:oneC 1 false ((agC x).drop 3)=some (x.owners.dv 1 stC):=rfl
theorem z1r2 {x:Agr}:oneC 1 false ((agC x).drop 4)=some (x.eqv.dv 1 stC):=rfl
structure Rul where
 kind:Int
 pat:Str
 frm:Str
 prod:Bool
 inn:Str
 to:Str
 deriving DecidableEq
def ruC (x:Rul):List DV:=(.int .i64 x.kind)::((.str x.pat)::((.str x.frm)::((.bool x.prod)::((.str x.inn)::([.str x.to])))))
theorem zpvo (x:Rul):(ruC x).length=6:=by simp [ruC,z1t1]
theorem z3bz (x:Rul):zbao (ruC x)=true:=by
 unfold ruC
 simp [zbao,zyp8]
theorem z49a {a b:Rul} (e:ruC a=ruC b):a=b:=by
 obtain ⟨a0,a1,a2,a3,a4,a5⟩:=a
 obtain ⟨b0,b1,b2,b3,b4,b5⟩:=b
 simp only [ruC,List.cons.injEq,DV.int.injEq,DV.str.injEq,DV.bool.injEq,true_and,and_true] at e
 rw [e.1,e.2.1,e.2.2.1,e.2.2.2.1,e.2.2.2.2.1,e.2.2.2.2.2]
theorem zxsc {x:Rul}:oneC 6 true (ruC x)=some (.agg (ruC x)):=by simp [oneC,zpvo,List.take_of_length_le]
theorem z5ml {x:Rul} {off n:Nat} {a:Bool} (hl:off+n≤6):zhj0 off n a (.agg (ruC x))=oneC n a ((ruC x).drop off):=by simp [zhj0,zpvo,hl]
theorem ziwl {x:Rul} {n:Nat}:z1r6 n (ruC x)=true:=zmq5 n _ (z3bz x)
theorem zqv3 {x:Rul}:(ruC x).all DV.one=true:=by simp only [ruC,List.all_cons,List.all_append,zoxk,zzmf,z3gw,zxyr,z4ja,List.all_nil,Bool.and_self]
theorem z3hv {x:Rul} {h:List AObj} {id:Nat} {l:List DV} (hl:l.length=6):zy6o h id 6 0 (.agg (ruC x)) (some l)=some (.junk,h.set id (.cells (ruC x))):=zfc1 (zpvo x) hl zqv3
theorem zs09 {h:List AObj} {k:Nat} {x:Rul}:z4tt h k (ruC x)=some (ruC x):=z619 (z3bz x)
theorem znpy {K:Nat→Bool} {h:List AObj} {x:Rul}:mkL K h (ruC x)=ruC x:=zrip (z3bz x)
theorem zdj1 {x:Rul}:oneC 1 false (ruC x)=some (.int .i64 x.kind):=rfl
theorem zrx3 {x:Rul}:oneC 1 false ((ruC x).drop 1)=some (.str x.pat):=rfl
theorem zuq2 {x:Rul}:oneC 1 false ((ruC x).drop 2)=some (.str x.frm):=rfl
theorem zhx9 {x:Rul}:oneC 1 false ((ruC x).drop 3)=some (.bool x.prod):=rfl
theorem z9c8 {x:Rul}:oneC 1 false ((ruC x).drop 4)=some (.str x.inn):=rfl
theorem z9al {x:Rul}:oneC 1 false ((ruC x).drop 5)=some (.str x.to):=rfl
structure Spc where
 name:Str
 del:Bool
 thr:Int
 by_:Sl Str
 cmd:Sl Str
 mats:Sl Rul
 prods:Sl Rul
def spC (x:Spc):List DV:=(.str x.name)::((.bool x.del)::((.int .i64 x.thr)::((x.by_.dv 1 stC)::((x.cmd.dv 1 stC)::((x.mats.dv 6 ruC)::([x.prods.dv 6 ruC]))))))
theorem zz68 (x:Spc):(spC x).length=7:=by simp [spC,z1t1]
theorem zy5l (x:Sl Rul):zyp8 (x.dv 6 ruC)=true:=zxxb z3bz x
theorem zxqp {n:Nat} {x:Sl Rul}:Am.below n (x.dv 6 ruC)=true:=z8b8 n _ (zy5l x)
theorem z041 {x y:Sl Rul} (e:x.dv 6 ruC=y.dv 6 ruC):x=y:=zcq7 zpvo (by decide) (fun _ _=>z49a) e
theorem zhi7 (x:Spc):zbao (spC x)=true:=by
 unfold spC
 simp [zbao,zyp8,zfuu,zy5l]
theorem z8s9 {x:Spc}:oneC 7 true (spC x)=some (.agg (spC x)):=by simp [oneC,zz68,List.take_of_length_le]
theorem zhc1 {x:Spc} {off n:Nat} {a:Bool} (hl:off+n≤7):zhj0 off n a (.agg (spC x))=oneC n a ((spC x).drop off):=by simp [zhj0,zz68,hl]
theorem z2i6 {x:Spc} {n:Nat}:z1r6 n (spC x)=true:=zmq5 n _ (zhi7 x)
theorem zb2j {x:Spc}:(spC x).all DV.one=true:=by simp only [spC,List.all_cons,List.all_append,zoxk,zzmf,z3gw,zxyr,z4ja,List.all_nil,Bool.and_self]
theorem zf01 {x:Spc} {h:List AObj} {id:Nat} {l:List DV} (hl:l.length=7):zy6o h id 7 0 (.agg (spC x)) (some l)=some (.junk,h.set id (.cells (spC x))):=zfc1 (zz68 x) hl zb2j
theorem z4nn {h:List AObj} {k:Nat} {x:Spc}:z4tt h k (spC x)=some (spC x):=z619 (zhi7 x)
theorem zuav {K:Nat→Bool} {h:List AObj} {x:Spc}:mkL K h (spC x)=spC x:=zrip (zhi7 x)
theorem zwo7 {x:Spc}:oneC 1 false (spC x)=some (.str x.name):=rfl
theorem zl3n {x:Spc}:oneC 1 false ((spC x).drop 1)=some (.bool x.del):=rfl
theorem z66y {x:Spc}:oneC 1 false ((spC x).drop 2)=some (.int .i64 x.thr):=rfl
theorem z5rd {x:Spc}:oneC 1 false ((spC x).drop 3)=some (x.by_.dv 1 stC):=rfl
theorem z436 {x:Spc}:oneC 1 false ((spC x).drop 4)=some (x.cmd.dv 1 stC):=rfl
theorem zop3 {x:Spc}:oneC 1 false ((spC x).drop 5)=some (x.mats.dv 6 ruC):=rfl
theorem z81m {x:Spc}:oneC 1 false ((spC x).drop 6)=some (x.prods.dv 6 ruC):=rfl
theorem z88i {a b:Ent}:z32s (zi5g [(1,1),(32,0)]) (enC a) (enC b)=some (decide (a=b)):=by
 have e:zi5g [(1,1),(32,0)]=[1]++zi5g [(32,0)]:=rfl
 have e2 : ∀ x:Ent,enC x=[.str x.path]++dgC x.dg:=fun x=>rfl
 rw [e,e2,e2,zid2 rfl rfl,zyiz]
 obtain ⟨a1,a2⟩:=a
 obtain ⟨b1,b2⟩:=b
 simp [z32s,znnj,zcn6]
theorem z7va {a b:Vrb}:z32s (zi5g [(2,1)]) (vaC a) (vaC b)=some (decide (a=b)):=by
 obtain ⟨a1,a2⟩:=a
 obtain ⟨b1,b2⟩:=b
 show z32s [1,1] _ _=_
 simp [vaC,z32s,znnj,zcn6]
attribute [simp] zuso zt9q z6p9 zfqa z6eq zrai z5qg zyjb z5fr z88p zqri zxwt zieq zegk zw37 zjux z3av zfqg zh4z zu5l zfuu zlgv z0a9 zs4d zru8 zb48 z74o zqkx zbr1 zqc3 zwhl zhem zopz zish zwo9 z5cj zhaq zb4u zgok zhl9 z05i zbc5 zu2q z83l znv7 zxu4 z03k z5ch zf52 zt28 zkpj zo7q z6lh zo6a z77v zn34 zyok zapw z7jb zh1e z9tw z53g zrer zvzp zlpm z6cz z9r1 zcto z380 zfi3 zj40 zu4u zc6g zhol ztkf zv6a zuf9 znis zo6e z28l zkpz zsoe z2y7 zctd znh2 z1u0 zd17 zi6g zegd z2q5 zki6 z454 zrbu z0wg zu3j z14s zntj z1r2 zpvo z3bz zxsc z5ml ziwl z3hv zs09 znpy zdj1 zrx3 zuq2 zhx9 z9c8 z9al zy5l zxqp zz68 zhi7 z8s9 zhc1 z2i6 zf01 z4nn zuav zwo7 zl3n z66y z5rd z436 zop3 z81m z88i z7va z3om zbw6 zes9 zds6
end Go.Proofs.YtjknipdiglpnlaaGreatDoor
set_option linter.unusedSimpArgs false
set_option linter.unusedVariables false
namespace Go.Proofs.YtjknipdiglpnlaaGreatDoor
open Go Go.Am
def fIx {α:Type} (p:α→Bool):List α→Int
 | [] => -1
 | a::l=>if p a then 0 else if fIx p l<0 then -1 else fIx p l+1
theorem z67l {α:Type} {p:α→Bool} : ∀ {l:List α} {i:Nat} (hi:i<l.length),p l[i]=true→(∀ j (h:j<l.length),j<i→p l[j]=false)→fIx p l=i
 | a::l,0,_,h,_=>by simp only [List.getElem_cons_zero] at h; simp [fIx,h]
 | a::l,i+1,hi,h,h2=>by
  have ha:p a=false:=h2 0 (by simp) (by omega)
  have ih:=z67l (p:=p) (l:=l) (i:=i) (by simpa using hi) (by simpa using h) fun j hj hji=>by
   have:=h2 (j+1) (by simpa using hj) (by omega)
   simpa using this
  simp only [fIx,ha,ih]
  rw [if_neg (by simp),if_neg (by omega)]; omega
theorem zf0r {α:Type} {p:α→Bool} : ∀ {l:List α},(∀ a ∈ l,p a=false)→fIx p l = -1
 | [],_=>rfl
 | a::l,h=>by
  have ih:=zf0r (p:=p) (l:=l) fun b hb=>h b (by simp [hb])
  simp [fIx,h a (by simp),ih]
theorem za4c {α:Type} (p:α→Bool) : ∀ (l:List α),(fIx p l = -1 ∧ ∀ a ∈ l,p a=false) ∨ ∃ i,∃ hi:i<l.length,fIx p l=i∧p l[i]=true ∧ ∀ j (h:j<l.length),j<i→p l[j]=false
 | [] => .inl ⟨rfl,fun a h=>by simp at h⟩
 | a::l=>by
  by_cases ha:p a=true
  ·exact .inr ⟨0,by simp,by simp [fIx,ha],by simpa using ha,fun j _ hj=>by omega⟩
  ·have ha:p a=false:=by simpa using ha
   rcases za4c p l with ⟨h1,h2⟩|⟨i,hi,h1,h2,h3⟩
   ·exact .inl ⟨by simp [fIx,ha,h1],fun b hb=>by
     rcases List.mem_cons.1 hb with rfl|hb
     ·exact ha
     ·exact h2 b hb⟩
   ·refine .inr ⟨i+1,by simpa using hi,?_,by simpa using h2,fun j hj hji => ?_⟩
    ·simp only [fIx,ha,h1]; rw [if_neg (by simp),if_neg (by omega)]; omega
    ·cases j with
     | zero=>exact ha
     | succ j=>simpa using h3 j (by simpa using hj) (by omega)
end Go.Proofs.YtjknipdiglpnlaaGreatDoor
set_option linter.unusedSimpArgs false
set_option linter.unusedVariables false
namespace Go.Proofs.YtjknipdiglpnlaaGreatDoor
open Go Go.Am
end Go.Proofs.YtjknipdiglpnlaaGreatDoor
set_option linter.unusedSimpArgs false
set_option linter.unusedVariables false
namespace Go.Proofs.YtjknipdiglpnlaaGreatDoor
open Go Go.Am
structure SF where
 k:Nat
 s:Vot→Vot→Bool
 c:List DV→Option DV
 e : ∀ a b,c [.agg (voC a),.agg (voC b)]=some (.bool (s a b))
 h:(Con.pure c).Sound P k
def SF.dv (F:SF):DV := .fn (.func F.k) [] []
end Go.Proofs.YtjknipdiglpnlaaGreatDoor
set_option linter.unusedSimpArgs false
set_option linter.unusedVariables false
namespace Go.Proofs.YtjknipdiglpnlaaGreatDoor
open Go Go.Am
abbrev Slt:=Option Nat × List Vot
structure GI (F:SF) (V:List Vot) (sl:List Slt) (objs:List (List Vot)):Prop where
 gs:sl.map (·.2)=grpG F.s V
 one : ∀ c ∈ sl,c.1=none→c.2.length=1
 big : ∀ k (h:k<sl.length) j,sl[k].1=some j→objs[j]? = some sl[k].2∧2≤sl[k].2.length
 inj : ∀ k k' (h:k<sl.length) (h':k'<sl.length) j,sl[k].1=some j→sl[k'].1=some j→k=k'
 nil:sl=[]→objs=[]
end Go.Proofs.YtjknipdiglpnlaaGreatDoor
set_option linter.unusedSimpArgs false
set_option linter.unusedVariables false
namespace Go.Proofs.YtjknipdiglpnlaaGreatDoor
open Go Go.Am
structure GA where
 i:Nat
 sl:List Slt
 objs:List (List Vot)
end Go.Proofs.YtjknipdiglpnlaaGreatDoor
set_option linter.unusedSimpArgs false
set_option linter.unusedVariables false
namespace Go.Proofs.YtjknipdiglpnlaaGreatDoor
open Go Go.Am
end Go.Proofs.YtjknipdiglpnlaaGreatDoor
set_option linter.unusedSimpArgs false
set_option linter.unusedVariables false
namespace Go.Proofs.YtjknipdiglpnlaaGreatDoor
open Go Go.Am
theorem zrqk {P:Program} {f:FuncId} {fn:Func} (hf:P.funcs[f]? = some fn) {af:AFn} (hc:zsjc P fn=some af) {args:List DV} {h:List AObj} {v:DV} {k:List AObj} (hr:V P h.length af.code (retH af.res v k) ⟨zr5g af.ntmps args,h⟩):zwy1 P f args h (fun d k'=>d=v∧k'=k) :=
 zcpc hf hc (zftn (fun _ _ h=>h.out) hr)
inductive TwoS|p|q
open Classical in
noncomputable def ptH (a0:List DV) (h0:List AObj) (r:DV) (h1:List AObj):List DV→List AObj→Option (DV × List AObj):=fun a h=>if a=a0∧h=h0 then some (r,h1) else none
theorem zpvh {a0:List DV} {h0:List AObj} {r:DV} {h1:List AObj}:ptH a0 h0 r h1 a0 h0=some (r,h1):=if_pos ⟨rfl,rfl⟩
theorem zdmv {k:FuncId} {a0:List DV} {h0:List AObj} {r:DV} {h1:List AObj} (hc:zwy1 P k a0 h0 (fun d h=>d=r∧h=h1)):(Con.heap (ptH a0 h0 r h1)).Sound P k:=by
 intro args h v h' e
 unfold ptH at e
 split at e
 ·rename_i q
  simp only [Option.some.injEq,Prod.mk.injEq] at e
  obtain ⟨rfl,rfl⟩:=e
  rw [q.1,q.2]; exact hc
 ·cases e
noncomputable def TH (k:Nat) (a0:List DV) (h0:List AObj) (r:DV) (h1:List AObj):Tbl:=addT k (.heap (ptH a0 h0 r h1)) tbl0
theorem TH_k {k:Nat} {a0:List DV} {h0:List AObj} {r:DV} {h1:List AObj}:TH k a0 h0 r h1 k = .heap (ptH a0 h0 r h1):=by simp [TH]
theorem z84q {k:Nat} {a0:List DV} {h0:List AObj} {r:DV} {h1:List AObj} (hc:zwy1 P k a0 h0 (fun d h=>d=r∧h=h1)):(TH k a0 h0 r h1).Sound P:=z0rp (zdmv hc) zr5o
theorem zy87 {a b:List UInt8}:zhl4 .lss (.str a) (.str b)=some (.bool (Op.bytesLess a b)):=rfl
attribute [simp] zy87
theorem zrmv {a b:Str}:zhl4 .gtr (.str a) (.str b)=some (.bool (Op.bytesLess b a)):=by
 have e:zhl4 .gtr (.str a) (.str b)=some (.bool (!(Op.bytesLess a b||a == b))):=by simp [zhl4,zdnj]
 rw [e]
 congr 2
 rcases zoet a b with h|h|h
 ·have h':Op.bytesLess b a=false:=by
   cases q:Op.bytesLess b a with
   | false=>rfl
   | true=>have:=z8c3 _ _ _ h q; rw [zrk4] at this; cases this
  rw [h,h']; rfl
 ·subst h; simp [zrk4]
 ·have h':Op.bytesLess a b=false:=by
   cases q:Op.bytesLess a b with
   | false=>rfl
   | true=>have:=z8c3 _ _ _ h q; rw [zrk4] at this; cases this
  have hn:¬ a=b:=fun e=>by rw [e,zrk4] at h; cases h
  rw [h,h']; simp [hn]
attribute [simp] zrmv
structure IPg (α:Type) where
 A:List α
 B:List α
def z8u0 {α:Type} (lt:α→α→Bool) (x:α) (B:List α):Prop := ∀ b ∈ B,lt x b=true
theorem z72y {α:Type} {A B R:List α} {x y:α}:((A++[y]++x::(B++R)).set (A.length+1) y).set A.length x=A++x::(y::B++R):=by
 rw [List.append_assoc,List.set_append_right _ _ (by omega),show A.length+1-A.length=1 by omega]
 simp
end Go.Proofs.YtjknipdiglpnlaaGreatDoor
set_option linter.unusedSimpArgs false
set_option linter.unusedVariables false
namespace Go.Proofs.YtjknipdiglpnlaaGreatDoor
open Go Go.Am
end Go.Proofs.YtjknipdiglpnlaaGreatDoor
set_option linter.unusedSimpArgs false
set_option linter.unusedVariables false
namespace Go.Proofs.YtjknipdiglpnlaaGreatDoor
open Go Go.Am
def vKey (v:Vot):List Ent × List Ent:=(v.lnk.m.l,v.lnk.p.l)
end Go.Proofs.YtjknipdiglpnlaaGreatDoor
set_option linter.unusedSimpArgs false
set_option linter.unusedVariables false
namespace Go.Proofs.YtjknipdiglpnlaaGreatDoor
open Go Go.Am
section
variable {α:Type} {f:α→List DV} {K:Nat}
end
structure CI where
 f:Bool
 S:List Vot
 Q:List Str
def CI.H (c:CI):List AObj:=if c.f then oT voC c.S++oT stC c.Q else oT stC c.Q++oT voC c.S
structure CI.Ok (c:CI):Prop where
 a:c.f=true→c.S=[]→c.Q=[]
 b:c.f=false→c.Q=[]→c.S=[]
end Go.Proofs.YtjknipdiglpnlaaGreatDoor
set_option linter.unusedSimpArgs false
set_option linter.unusedVariables false
namespace Go.Proofs.YtjknipdiglpnlaaGreatDoor
open Go Go.Am
def sngL (L:List (Sl Vot)):List Vot:=(L.filter fun g => !badG vKey g.l).filterMap fun g=>g.l.head?
def eqvL (L:List (Sl Vot)):List Str:=(L.filter fun g=>badG vKey g.l).filterMap fun g=>g.l.head?.map Vot.own
structure CJ where
 c:CI
 i:Nat
structure CJok (G:Sl (Sl Vot)) (a:CJ):Prop where
 hi:a.i≤G.l.length
 ok:a.c.Ok
 s:a.c.S=sngL (G.l.take a.i)
 q:a.c.Q=eqvL (G.l.take a.i)
end Go.Proofs.YtjknipdiglpnlaaGreatDoor
set_option linter.unusedSimpArgs false
set_option linter.unusedVariables false
namespace Go.Proofs.YtjknipdiglpnlaaGreatDoor
open Go Go.Am
end Go.Proofs.YtjknipdiglpnlaaGreatDoor
set_option linter.unusedSimpArgs false
set_option linter.unusedVariables false
namespace Go.Proofs.YtjknipdiglpnlaaGreatDoor
open Go Go.Am
theorem z0em {P:Program} {n0:Nat} {x:ACode} {Φ:AExit→St→Prop} {t t':List DV} {H R:List AObj} (hH:zlf2 H.length H=true) (hn:n0≤H.length)
  (ht:znqe (mkL (kLt H.length) (H++R) t) t') (hb:z1r6 H.length t'=true) (h:V P n0 x Φ ⟨t',H⟩):V P n0 x Φ ⟨t,H++R⟩:=by
 refine V_mk (kLt H.length) ?_
 rw [z26m,z6z7 (by omega) hH]
 exact zqfd (zju2 ht rfl hn hb hH) h
theorem zjwe {k K:Nat} {α:Type} {l:List α}:(oV k K l).cells=[oV k K l]:=by unfold oV; split<;>rfl
theorem z6jg {k K:Nat} {α:Type} {l:List α}:(oV k K l).one=true:=by unfold oV; split<;>rfl
structure C2 where
 H:List AObj
 q:DV
 o:DV
 G:DV
 n:Int
 i:Int
structure C2ok (c:C2):Prop where
 hb : ∀ n,zlf2 n c.H=true
 hn:1≤c.H.length
 q:zyp8 c.q=true
 o : ∀ n,c.H.length≤n→Am.below n c.o=true
 G:zyp8 c.G=true
end Go.Proofs.YtjknipdiglpnlaaGreatDoor
set_option linter.unusedSimpArgs false
set_option linter.unusedVariables false
namespace Go.Proofs.YtjknipdiglpnlaaGreatDoor
open Go Go.Am
end Go.Proofs.YtjknipdiglpnlaaGreatDoor
set_option linter.unusedSimpArgs false
set_option linter.unusedVariables false
namespace Go.Proofs.YtjknipdiglpnlaaGreatDoor
open Go Go.Am
end Go.Proofs.YtjknipdiglpnlaaGreatDoor
set_option linter.unusedSimpArgs false
set_option linter.unusedVariables false
namespace Go.Proofs.YtjknipdiglpnlaaGreatDoor
open Go Go.Am
def zvjk (s:Spc) (a:Agr):Bool:=decide ((a.owners.l.length:Int)<s.thr)
end Go.Proofs.YtjknipdiglpnlaaGreatDoor
set_option linter.unusedSimpArgs false
set_option linter.unusedVariables false
namespace Go.Proofs.YtjknipdiglpnlaaGreatDoor
open Go Go.Am
def kepL (s:Spc) (l:List Agr):List Agr:=l.filter fun a => !zvjk s a
structure DA where
 K:List Agr
 M:List Agr
 j:Nat
structure DAok (s:Spc) (A:List Agr) (a:DA):Prop where
 k:a.K=kepL s (A.take a.j)
 l:a.K.length+a.M.length=a.j
 m:1≤a.M.length
 j:a.j≤A.length
end Go.Proofs.YtjknipdiglpnlaaGreatDoor
set_option linter.unusedSimpArgs false
set_option linter.unusedVariables false
namespace Go.Proofs.YtjknipdiglpnlaaGreatDoor
open Go Go.Am
end Go.Proofs.YtjknipdiglpnlaaGreatDoor
set_option linter.unusedSimpArgs false
set_option linter.unusedVariables false
namespace Go.Proofs.YtjknipdiglpnlaaGreatDoor
open Go Go.Am
section
variable {α:Type} {f:α→List DV} {K:Nat}
def oW (k K:Nat) (l:List α):DV:=if l=[] then .sl true K 0 [] else .ms k (l.length*K) 0 K l.length (l.length*K)
theorem ze3w {k:Nat}:oW k K ([]:List α) = .sl true K 0 []:=rfl
theorem zpml {k:Nat} {l:List α} (h:l≠[]):oW k K l=oV k K l:=by rw [zpni h]; exact if_neg h
theorem zg9v {k:Nat} {l:List α}:(oW k K l).known=true:=by unfold oW; split<;>rfl
theorem znxx {k b:Nat} {l cs:List α} {h:List AObj} (hp:h.length=k) (hu : ∀ a,(f a).length=K) (h0:0<K) (hb:b≤16384) (ha : ∀ a,(f a).all DV.one=true) (hbig:l.length+cs.length≤4294967296) :
  appX (h++oT f l) K b (oW k K l) cs.length (cs.flatMap f)=some (oW k K (l++cs),h++oT f (l++cs)):=by
 by_cases e:l=[]
 ·subst e
  rw [ze3w,zkrk,List.append_nil,List.nil_append]
  by_cases e2:cs=[]
  ·subst e2
   rw [show ([]:List α).flatMap f=[] from rfl,List.length_nil,zegt hb h0,ze3w,zkrk,List.append_nil]
  ·have:=ztup (h:=h) (s:=K) (b:=b) (n:=0) (m:=cs.length) (ds:=[]) (cs:=cs.flatMap f) hb h0 (by rw [z1rq hu]) (List.length_pos_iff.2 e2) (by simp at hbig; omega)
   rw [this,zpml e2,zpni e2,zu2l e2,z1rq hu,hp]
   simp [fl]
 ·rw [zpml e,zpml (by simp [e])]
  exact z612 hp hu h0 hb ha hbig
end
theorem zu1c {k K:Nat} {α:Type} {l:List α}:(oV k K l).known=true:=by unfold oV; split<;>rfl
theorem zye0 {s:Str} {m p:Sl Ent}:zvnk [.str [],.nils,.nils] [(0,1,.str s),(1,1,m.dv 33 enC),(2,1,p.dv 33 enC)]=some (.agg (lkC ⟨s,m,p⟩)):=by
 simp [zvnk,zi03,zk7y,lkC]
end Go.Proofs.YtjknipdiglpnlaaGreatDoor
set_option linter.unusedSimpArgs false
set_option linter.unusedVariables false
namespace Go.Proofs.YtjknipdiglpnlaaGreatDoor
open Go Go.Am
structure Tp where
 k:Option Bool
 l:List Int
 h:k=none→l=[]
 at_:Nat
def inI (n:Int):List DV:=[.int .i64 n]
def Tp.sl (t:Tp):DV:=slD t.k 1 t.l.length (t.l.flatMap inI)
def tpC (t:Tp):List DV:=[t.sl,.int .i64 t.at_]
def Tp.adv (t:Tp) (m:Nat):Tp:={ t with at_:=t.at_+m }
theorem zg97 (n:Int):(inI n).length=1:=rfl
theorem zyj0 (n:Int):zbao (inI n)=true:=rfl
theorem z5yb (t:Tp):zyp8 t.sl=true:=by
 obtain ⟨k,l,h,a⟩:=t
 cases k with
 | none=>rfl
 | some b=>show zbao _=true; exact zp6k zyj0 l
theorem zs7w (t:Tp):zbao (tpC t)=true:=by simp [tpC,zbao,z5yb,zyp8]
theorem zl4f (t:Tp):(tpC t).length=2:=by simp [tpC]
theorem zwhz (t:Tp) (H:List AObj):lenD H t.sl=some (.int .i64 t.l.length):=zjc6 (fun e=>by rw [t.h e]; rfl)
theorem zmwh (t:Tp) (H:List AObj) {i:Nat} (hi:i<t.l.length):zpsc H 1 t.sl i=some (.ref [.int .i64 t.l[i]]):=by
 obtain ⟨k,l,h,a⟩:=t
 cases k with
 | none=>simp only at hi; rw [h rfl] at hi; simp at hi
 | some b =>
  simp only [Tp.sl,zip4]
  rw [zsu0 (by omega) (by simp only at hi; omega),Int.toNat_natCast,zdao zg97 hi]; rfl
theorem zxr4 (t:Tp):t.sl.one=true:=by obtain ⟨k,l,h,a⟩:=t; cases k<;>rfl
theorem zn8z (t:Tp):t.sl.known=true:=by obtain ⟨k,l,h,a⟩:=t; cases k<;>rfl
theorem zymw (t:Tp):t.sl.cells=[t.sl]:=by obtain ⟨k,l,h,a⟩:=t; cases k<;>rfl
theorem zpy8 (t:Tp) (n k:Nat) (H:List AObj):fz n H k t.sl=some t.sl:=zqge (z5yb t)
theorem ziad : ∀ {a b:List Int},a.flatMap inI=b.flatMap inI→a=b
 | [],[],_=>rfl
 | [],y::b,h=>by simp [inI] at h
 | x::a,[],h=>by simp [inI] at h
 | x::a,y::b,h=>by
  simp only [List.flatMap_cons,inI,List.singleton_append,List.cons.injEq,DV.int.injEq,true_and] at h
  rw [h.1,ziad h.2]
theorem z15z {a b:Tp} (h:tpC a=tpC b):a=b:=by
 obtain ⟨k,l,h1,p⟩:=a
 obtain ⟨k',l',h2,p'⟩:=b
 simp only [tpC,Tp.sl,List.cons.injEq,DV.int.injEq,true_and,and_true,Int.natCast_inj] at h
 obtain ⟨h,rfl⟩:=h
 cases k with
 | none=>cases k' with
  | none=>rw [Tp.mk.injEq]; exact ⟨rfl,by rw [h1 rfl,h2 rfl],rfl⟩
  | some b=>simp [slD] at h
 | some b=>cases k' with
  | none=>simp [slD] at h
  | some b' =>
   simp only [zip4,DV.sl.injEq] at h
   obtain ⟨rfl,_,_,h⟩:=h
   rw [Tp.mk.injEq]; exact ⟨rfl,ziad h,rfl⟩
attribute [simp] zwhz zxr4 zn8z zymw zpy8 zl4f
def zq5q (t:Tp):Int:=if h:t.at_<t.l.length then t.l[t.at_] else t.at_*7+3
def tpN (t:Tp) (n:Int):Int:=if n<1 then 0 else zq5q t % n
def tpS (t:Tp) (n:Int):Tp:=if n<1 then t else t.adv 1
theorem z4rs (t:Tp) (n:Int):0≤tpN t n:=by
 unfold tpN; split
 ·omega
 ·exact Int.emod_nonneg _ (by omega)
theorem z2s7 (t:Tp) {n:Int} (h:1≤n):tpN t n<n:=by
 unfold tpN; rw [if_neg (by omega)]; exact Int.emod_lt_of_pos _ (by omega)
theorem z1rh (t:Tp) (m:Nat):(t.adv m).sl=t.sl:=by simp [Tp.adv,Tp.sl]
theorem zpza (t:Tp) (m:Nat):(t.adv m).at_=t.at_+m:=by simp [Tp.adv]
theorem zk2k (t:Tp) (m:Nat):(t.adv m).l=t.l:=by simp [Tp.adv]
attribute [simp] z1rh zpza zk2k
theorem zhly (x n:Int) (h:1≤n) (h2:n≤4294967296):IntKind.i64.wrap (x.tmod n+n)=x.tmod n+n∧(x.tmod n+n).tmod n=x % n:=by
 have h1:=Int.tmod_lt_of_pos x (show 0<n by omega)
 have h3 : -n<x.tmod n:=by
  have:=Int.lt_tmod_of_pos x (show 0<n by omega)
  omega
 refine ⟨znmn (by omega) (by omega),?_⟩
 rw [Int.tmod_eq_emod_of_nonneg (by omega),Int.add_emod_right]
 rw [Int.tmod_eq_emod]
 split
 ·simp
 ·rw [Int.natAbs_of_nonneg (show 0≤n by omega)]; simp
theorem z1hg (t:Tp) (n:Int) (ht:t.at_<4294967296) (hn:n≤4294967296):RunsF tbl0 a17 [.mp 0 2 0,.int .i64 n] [.cells (tpC t)] (.int .i64 (tpN t n)) [.cells (tpC (tpS t n))]:=by
 refine ⟨?_⟩
 by_cases h:n<1
 ·have e1:tpN t n=0:=by rw [tpN,if_pos h]
  have e2:tpS t n=t:=by rw [tpS,if_pos h]
  rw [e1,e2]
  simp (disch:=first|omega|simp<;>omega|fail) [-zA,-zB,-zC,-zD,-zE,a17,tpC,h]
 have e2:tpS t n=t.adv 1:=by rw [tpS,if_neg h]
 obtain ⟨f1,f2⟩:=zhly (zq5q t) n (by omega) hn
 have e3:tpN t n=zq5q t % n:=by rw [tpN,if_neg h]
 rw [← e3] at f2
 rw [e2]
 have hn0:n≠0:=by omega
 by_cases hl:t.at_<t.l.length
 ·have hl':(t.at_:Int)<t.l.length:=by omega
  have hr:t.l[t.at_]=zq5q t:=by rw [zq5q,dif_pos hl]
  have hi:=fun H=>zmwh t H hl
  simp (disch:=first|omega|simp<;>omega|fail) [-zA,-zB,-zC,-zD,-zE,a17,tpC,h,hl,hl',hi,hr,hn0,f1,f2,-Int.tmod_eq_emod_of_nonneg]
 ·have hl':¬ (t.at_:Int)<t.l.length:=by omega
  have hr:(t.at_:Int)*7+3=zq5q t:=by rw [zq5q,dif_neg hl]
  have hw:(t.at_:Int)*7<9223372036854775808:=by omega
  simp (disch:=first|omega|simp<;>omega|fail) [-zA,-zB,-zC,-zD,-zE,a17,tpC,h,hl,hl',hr,hn0,f1,f2,-Int.tmod_eq_emod_of_nonneg]
theorem zjmf (t:Tp) (a b:Nat):(t.adv a).adv b=t.adv (a+b):=by simp [Tp.adv,Nat.add_assoc]
theorem zi8m {t:Tp} {n:Int} (h:1≤n):tpS t n=t.adv 1:=by rw [tpS,if_neg (by omega)]
noncomputable def z1m3:List DV→List DV→Option (DV × List DV):=conT (fun a:Tp × Int=>a.1.at_<4294967296∧a.2≤4294967296) (fun a=>[.int .i64 a.2]) (fun a=>tpC a.1) (fun a=>(.int .i64 (tpN a.1 a.2),tpC (tpS a.1 a.2)))
theorem zs7j {t:Tp} {n:Int} (h1:t.at_<4294967296) (h2:n≤4294967296):z1m3 [.int .i64 n] (tpC t)=some (.int .i64 (tpN t n),tpC (tpS t n)) :=
 ztyo (A:=fun a:Tp × Int=>a.1.at_<4294967296∧a.2≤4294967296) (f:=fun a=>[.int .i64 a.2]) (s:=fun a=>tpC a.1) (by
  rintro ⟨a,n⟩ ⟨b,m⟩ e1 e2
  simp only [List.cons.injEq,DV.int.injEq,true_and,and_true] at e1
  rw [e1,z15z e2]) (t,n) ⟨h1,h2⟩
theorem z44h {t:Tp} {n:Int} (h1:t.at_<4294967296) (h2:n≤4294967296) (h3:1≤n):z1m3 [.int .i64 n] (tpC t)=some (.int .i64 (tpN t n),tpC (t.adv 1)):=by rw [zs7j h1 h2,zi8m h3]
theorem z51e:(Con.tch z1m3).Sound P 17 :=
 z0tq (fun a _=>⟨rfl,zs7w _,rfl,zs7w _⟩) fun a h=>zizi mix zr5o Tryz.func17 zcaf (z1hg a.1 a.2 h.1 h.2) (Nat.le_refl _)
noncomputable def T150:Tbl:=addT 17 (.tch z1m3) tbl0
theorem zp0f:T150 17 = .tch z1m3:=by simp [T150]
theorem zt0z:T150.Sound P:=z0rp z51e zr5o
def zzh5 (t:Tp) (l:List (List UInt8)):List UInt8:=l.getD (tpN t l.length).toNat []
theorem zqrp (t:Tp) {l:List (List UInt8)} (h:l≠[]):zzh5 t l ∈ l:=by
 have h0:1≤l.length:=by cases l with|nil=>exact absurd rfl h|cons _ _=>simp
 have h1:=z4rs t l.length
 have h2:=z2s7 t (n:=l.length) (by omega)
 have h3:(tpN t l.length).toNat<l.length:=by omega
 rw [zzh5,List.getD_eq_getElem?_getD,List.getElem?_eq_getElem h3]
 exact List.getElem_mem h3
theorem z4zb (t:Tp) (l:List (List UInt8)) (ht:t.at_<4000000000) (h0:1≤l.length) (hl:l.length≤4294967296):RunsF T150 a45 [.mp 0 2 0,.sl true 1 l.length (l.map .str)] [.cells (tpC t)] (.str (zzh5 t l)) [.cells (tpC (t.adv 1))]:=by
 refine ⟨?_⟩
 have h1:=z4rs t l.length
 have h2:=z2s7 t (n:=l.length) (by omega)
 obtain ⟨N,hN⟩ : ∃ N:Nat,tpN t l.length=N:=⟨_,(Int.toNat_of_nonneg h1).symm⟩
 have h3:N<l.length:=by omega
 have e:zzh5 t l=l[N]:=by rw [zzh5,hN,Int.toNat_natCast,List.getD_eq_getElem?_getD,List.getElem?_eq_getElem h3]; rfl
 have hd:((l.map DV.str).drop N).take 1=[.str l[N]]:=by
  rw [← List.map_drop,List.drop_eq_getElem_cons h3]; rfl
 have hfz:fzL 1 [.cells (tpC (t.adv 1))] (tpC (t.adv 1)) (tpC (t.adv 1)):=znnb (zs7w _)
 simp (disch:=first|omega|simp<;>omega|fail) [-zA,-zB,-zC,-zD,-zE,a45,zp0f,z44h,hN,h3,e,hd,hfz,zbao]
noncomputable def zqck:List DV→List DV→Option (DV × List DV):=conT (fun a:Tp × List (List UInt8)=>a.1.at_<4000000000∧1≤a.2.length∧a.2.length≤4294967296) (fun a=>[.sl true 1 a.2.length (a.2.map .str)]) (fun a=>tpC a.1) (fun a=>(.str (zzh5 a.1 a.2),tpC (a.1.adv 1)))
theorem zsi8 : ∀ {a b:List (List UInt8)},a.map DV.str=b.map DV.str→a=b
 | [],[],_=>rfl
 | [],y::b,h=>by simp at h
 | x::a,[],h=>by simp at h
 | x::a,y::b,h=>by
  simp only [List.map_cons,List.cons.injEq,DV.str.injEq] at h
  rw [h.1,zsi8 h.2]
theorem ze0z {t:Tp} {l:List (List UInt8)} (h:t.at_<4000000000) (h1:1≤l.length) (h2:l.length≤4294967296):zqck [.sl true 1 l.length (l.map .str)] (tpC t)=some (.str (zzh5 t l),tpC (t.adv 1)) :=
 ztyo (A:=fun a:Tp × List (List UInt8)=>a.1.at_<4000000000∧1≤a.2.length∧a.2.length≤4294967296) (f:=fun a=>[.sl true 1 a.2.length (a.2.map .str)]) (s:=fun a=>tpC a.1) (by
  rintro ⟨a,n⟩ ⟨b,m⟩ e1 e2
  simp only [List.cons.injEq,DV.sl.injEq,true_and,and_true] at e1
  rw [zsi8 e1.2,z15z e2]) (t,l) ⟨h,h1,h2⟩
theorem z3hj:(Con.tch zqck).Sound P 45 :=
 z0tq (fun a _=>⟨by simp [zbao,zyp8]; exact List.rec rfl (fun _ _ ih=>by simpa [zbao,zyp8] using ih) a.2,zs7w _,rfl,zs7w _⟩) fun a h=>zizi mix zt0z Tryz.func45 z94d (z4zb a.1 a.2 h.1 h.2.1 h.2.2) (Nat.le_refl _)
def dgW (b:BitVec 8):Dg:=⟨b::rep 31 0#8,by simp [rep]⟩
abbrev dgB (z:Int):Dg:=dgW (BitVec.ofInt 8 z)
theorem z7ni {b:BitVec 8}:zvnk (dgC dg0) [(0,1,w8 b)]=some (.agg (dgC (dgW b))):=rfl
def sumV (t:Tp):Dg:=dgB (1+tpN t 6)
theorem zf9j {z:Int} (h0:1≤z) (h1:z≤255):dgB z≠dg0:=by
 intro e
 have:=congrArg (fun d:Dg=>d.1.head?) e
 simp [dgW,dg0,rep,List.replicate] at this
 have h2:=congrArg BitVec.toNat this
 simp at h2
 omega
theorem z7d3 (t:Tp):sumV t≠dg0:=by
 have h1:=z4rs t 6
 have h2:=z2s7 t (n:=6) (by omega)
 exact zf9j (by omega) (by omega)
theorem zizk (t:Tp) (ht:t.at_<4000000000):RunsF T150 a39 [.mp 0 2 0] [.cells (tpC t)] (.agg (dgC (sumV t))) [.cells (tpC (t.adv 1))]:=by
 refine ⟨?_⟩
 have h1:=z4rs t 6
 have h2:=z2s7 t (n:=6) (by omega)
 have hfz : ∀ k,fzL 1 k (tpC (t.adv 1)) (tpC (t.adv 1)):=fun k=>znnb (zs7w _)
 simp (disch:=first|omega|simp<;>omega|fail) [-zA,-zB,-zC,-zD,-zE,a39,zp0f,z44h,hfz,z7ni,sumV,zojd (z6je _)]
noncomputable def cSum:List DV→List DV→Option (DV × List DV):=conT (fun a:Tp=>a.at_<4000000000) (fun a=>[]) tpC (fun a=>(.agg (dgC (sumV a)),tpC (a.adv 1)))
theorem zliq {t:Tp} (h:t.at_<4000000000):cSum [] (tpC t)=some (.agg (dgC (sumV t)),tpC (t.adv 1)) :=
 ztyo (A:=fun a:Tp=>a.at_<4000000000) (f:=fun a=>[]) (s:=tpC) (fun a b _ e=>by rw [z15z e]) t h
theorem z8dz:(Con.tch cSum).Sound P 39 :=
 z0tq (fun a _=>⟨rfl,zs7w _,by simp [zyp8],zs7w _⟩) fun a h=>zizi mix zt0z Tryz.func39 zjwo (zizk a h) (Nat.le_refl _)
structure Nl where
 k:Option Bool
 l:List Int
 h:k=none→l=[]
 b:l.length≤9223372036854775807
def Nl.dv (x:Nl):DV:=slD x.k 1 x.l.length (x.l.flatMap inI)
theorem zkbj {t:Tp}:zvnk [.nils,.int .i64 0] [(0,1,t.sl)]=some (.agg [t.sl,.int .i64 0]):=by simp [zvnk,zi03,zk7y]
end Go.Proofs.YtjknipdiglpnlaaGreatDoor
set_option linter.unusedSimpArgs false
set_option linter.unusedVariables false
namespace Go.Proofs.YtjknipdiglpnlaaGreatDoor
open Go Go.Am
def nmA:List Str:=[[97],[98],[115,114,99],[111,117,116],[108,105,98]]
def nmB:List Str:=[[97],[98],[97,46,99],[98,46,104],[120],[111,117,116]]
def pthL:Nat→Tp→Str→Str × Tp
 | 0,t,s=>(s,t)
 | k+1,t,s=>pthL k (t.adv 1) (s++zzh5 t nmA++[47])
def zf1o (t:Tp):Nat:=(tpN t 3).toNat
def zczq (t:Tp):Str:=(pthL (zf1o t) (t.adv 1) []).1++zzh5 (pthL (zf1o t) (t.adv 1) []).2 nmB
def zvs1 (t:Tp):Tp:=(pthL (zf1o t) (t.adv 1) []).2.adv 1
theorem zyo7 : ∀ (k:Nat) (t:Tp) (s:Str),(pthL k t s).2.at_=t.at_+k
 | 0,_,_=>rfl
 | k+1,t,s=>by rw [pthL,zyo7,zpza]; omega
theorem z9sd (t:Tp):zf1o t≤2:=by
 have h1:=z4rs t 3
 have h2:=z2s7 t (n:=3) (by omega)
 unfold zf1o; omega
theorem z89h (t:Tp):tpN t 3=zf1o t:=by
 have h1:=z4rs t 3
 unfold zf1o; omega
theorem zj8l (t:Tp):(zvs1 t).at_≤t.at_+4:=by have:=z9sd t; simp only [zvs1,zpza,zyo7]; omega
def pLt (a b:Ent):Bool:=Op.bytesLess a.path b.path
def putF (s:List Ent) (x:Ent):List Ent:=s.filter fun y => !decide (y.path=x.path)
def putV (s:List Ent) (x:Ent):List Ent:=insR pLt x (putF s x)
theorem zk1d (s:List Ent) (x:Ent):(putF s x).length≤s.length:=List.length_filter_le ..
theorem z3b0 (s:List Ent) (x:Ent):(putV s x).length≤s.length+1:=by
 unfold putV
 rw [zcx2.length_eq,List.length_cons]
 have:=zk1d s x; omega
theorem zfin (s:List Ent) (x:Ent):putV s x≠[]:=fun e=>by
 have:=(zcx2 (lt:=pLt) (x:=x) (l:=putF s x)).length_eq
 unfold putV at e
 rw [e] at this; simp at this
def zzy4 (s:List Ent) (i:Nat):List Ent:=s.take i++s.drop (i+1)
theorem zy3g (s:List Ent) (i:Nat):(zzy4 s i).length≤s.length:=by
 unfold zzy4; rw [List.length_append,List.length_take,List.length_drop]; omega
def emp1 {α:Type}:Sl α:=⟨some true,[],by simp,by simp⟩
def zmmk (s:List Ent) (i:Nat):Sl Ent:=if zzy4 s i=[] then emp1 else own (zzy4 s i)
theorem znxd {s:List Ent} {i:Nat} (h:s.length≤4294967296):(zmmk s i).l=zzy4 s i:=by
 unfold zmmk
 split
 ·rename_i e; rw [e]; rfl
 ·rw [z3e9 (Nat.le_trans (zy3g s i) h)]
def newE (t:Tp):Ent:=⟨zczq t,sumV (zvs1 t)⟩
def newT (t:Tp):Tp:=(zvs1 t).adv 1
theorem ztvs (t:Tp):(newT t).at_≤t.at_+5:=by have:=zj8l t; simp only [newT,zpza]; omega
def snpL:Nat→Tp × List Ent→Tp × List Ent
 | 0,a=>a
 | n+1,a=>snpL n (newT a.1,putV a.2 (newE a.1))
theorem zevg : ∀ (n:Nat) (a:Tp × List Ent),(snpL n a).1.at_≤a.1.at_+5*n∧(snpL n a).2.length≤a.2.length+n
 | 0,a=>by simp [snpL]
 | n+1,a=>by
  have h:=zevg n (newT a.1,putV a.2 (newE a.1))
  have h1:=ztvs a.1
  have h2:=z3b0 a.2 (newE a.1)
  simp only at h
  rw [snpL]
  omega
def zep5 (t:Tp) (m:Nat):Nat:=(tpN t (m+1)).toNat
theorem zgro (t:Tp) (m:Nat):zep5 t m≤m:=by
 have h1:=z4rs t (m+1)
 have h2:=z2s7 t (n:=m+1) (by omega)
 unfold zep5; omega
theorem znaf (t:Tp) (m:Nat):tpN t (m+1)=zep5 t m:=by
 have h1:=z4rs t (m+1)
 unfold zep5; omega
def zgxx (t:Tp) (m:Nat):Tp × List Ent:=snpL (zep5 t m) (t.adv 1,[])
def zvj4 (a:Tp × Sl Ent):Tp × Sl Ent :=
 if tpN a.1 3=0∧a.2.l≠[] then (a.1.adv 2,zmmk a.2.l (tpN (a.1.adv 1) a.2.l.length).toNat)
 else (newT (a.1.adv 1),own (putV a.2.l (newE (a.1.adv 1))))
def edtL:Nat→Tp × Sl Ent→Tp × Sl Ent
 | 0,a=>a
 | n+1,a=>edtL n (zvj4 a)
theorem zkr6 {a:Tp × Sl Ent} (h:a.2.l.length+1≤4294967296):(zvj4 a).1.at_≤a.1.at_+6∧(zvj4 a).2.l.length≤a.2.l.length+1:=by
 unfold zvj4
 split
 ·have:=zy3g a.2.l (tpN (a.1.adv 1) a.2.l.length).toNat
  simp only [zpza,znxd (show a.2.l.length≤4294967296 by omega)]
  omega
 ·have h1:=ztvs (a.1.adv 1)
  have h2:=z3b0 a.2.l (newE (a.1.adv 1))
  rw [z3e9 (by omega)]
  simp only [zpza] at h1
  simp only; omega
theorem zrnf : ∀ (n:Nat) (a:Tp × Sl Ent),a.2.l.length+n≤4294967296→(edtL n a).1.at_≤a.1.at_+6*n∧(edtL n a).2.l.length≤a.2.l.length+n
 | 0,a,_=>by simp [edtL]
 | n+1,a,h=>by
  have h1:=zkr6 (a:=a) (by omega)
  have h2:=zrnf n (zvj4 a) (by omega)
  rw [edtL]; omega
def zp4t (t:Tp):Nat:=zep5 t 3
def z7ym (t:Tp) (s:Sl Ent):Tp × Sl Ent:=edtL (zp4t t) (t.adv 1,s)
theorem za6t {t:Tp} {s:Sl Ent} (h:s.l.length≤4000000000):(z7ym t s).1.at_≤t.at_+19∧(z7ym t s).2.l.length≤s.l.length+3:=by
 have h0:=zgro t 3
 have h1:=zrnf (zp4t t) (t.adv 1,s) (by unfold zp4t; simp only; omega)
 unfold z7ym
 simp only [zpza] at h1
 have h2:zp4t t≤3:=h0
 omega
def zxwj (t:Tp):Sl Ent:=ownN (zgxx t 5).2
def zyjl (t:Tp) (st:Str):Lnk:=⟨st,zxwj t,(z7ym (zgxx t 5).1 (zxwj t)).2⟩
def zd2t (t:Tp):Tp:=(z7ym (zgxx t 5).1 (zxwj t)).1
theorem zk7x (t:Tp) (m:Nat):(zgxx t m).1.at_≤t.at_+1+5*m∧(zgxx t m).2.length≤m:=by
 have h0:=zgro t m
 have h1:=zevg (zep5 t m) (t.adv 1,[])
 unfold zgxx
 simp only [zpza,List.length_nil] at h1
 omega
theorem zr0a (t:Tp):(zxwj t).l.length≤5:=by
 have h:=(zk7x t 5).2
 unfold zxwj; rw [zd8n (by omega)]; exact h
theorem zoiq (t:Tp) (st:Str):(zyjl t st).m.l.length≤5∧(zyjl t st).p.l.length≤8∧(zd2t t).at_≤t.at_+45:=by
 have h0:=zr0a t
 have h1:=za6t (t:=(zgxx t 5).1) (s:=zxwj t) (by omega)
 have h2:=(zk7x t 5).1
 refine ⟨h0,?_,?_⟩
 ·simp only [zyjl]; omega
 ·simp only [zd2t]; omega
end Go.Proofs.YtjknipdiglpnlaaGreatDoor
set_option linter.unusedSimpArgs false
set_option linter.unusedVariables false
namespace Go.Proofs.YtjknipdiglpnlaaGreatDoor
open Go Go.Am
end Go.Proofs.YtjknipdiglpnlaaGreatDoor
set_option linter.unusedSimpArgs false
set_option linter.unusedVariables false
namespace Go.Proofs.YtjknipdiglpnlaaGreatDoor
open Go Go.Am
noncomputable def zga7:Tbl:=addT 17 (.tch z1m3) (addT 45 (.tch zqck) tbl0)
theorem zamd:zga7 17 = .tch z1m3:=by simp [zga7]
theorem zqj4:zga7 45 = .tch zqck:=by simp [zga7]
theorem z695:zga7.Sound P:=z0rp z51e (z0rp z3hj zr5o)
theorem z0ff {a b:Str} (h:a.length+b.length≤4611686018427387904):zhl4 .add (.str a) (.str b)=some (.str (a++b)):=by simp [zhl4,zdnj,h]
theorem z4q5 (t:Tp):(zzh5 t nmA).length≤3:=by
 have:=zqrp t (l:=nmA) (by decide)
 generalize zzh5 t nmA=x at this ⊢
 simp only [nmA,List.mem_cons,List.not_mem_nil,or_false] at this
 rcases this with e|e|e|e|e<;>subst e<;>decide
theorem z2ex (t:Tp):(zzh5 t nmB).length≤3:=by
 have:=zqrp t (l:=nmB) (by decide)
 generalize zzh5 t nmB=x at this ⊢
 simp only [nmB,List.mem_cons,List.not_mem_nil,or_false] at this
 rcases this with e|e|e|e|e|e<;>subst e<;>decide
structure PL where
 k:Nat
 t:Tp
 s:Str
def zdph (a:PL):St:=zqr3 (.mp 0 2 0) (.str a.s) (.int .i64 a.k) [.cells (tpC a.t)]
theorem zqqw (t:Tp) (ht:t.at_<3900000000):RunsF zga7 a38 [.mp 0 2 0] [.cells (tpC t)] (.str (zczq t)) [.cells (tpC (zvs1 t))]:=by
 refine ⟨?_⟩
 have n1:=z89h t
 have n2:=z9sd t
 obtain ⟨R,hR⟩ : ∃ R,pthL (zf1o t) (t.adv 1) []=R:=⟨_,rfl⟩
 have hv:zczq t=R.1++zzh5 R.2 nmB:=by unfold zczq; rw [hR]
 have hT:zvs1 t=R.2.adv 1:=by unfold zvs1; rw [hR]
 obtain ⟨N,hN⟩ : ∃ N,zf1o t=N:=⟨_,rfl⟩
 rw [hN] at n1 n2 hR
 rw [hv,hT]
 simp (disch:=first|omega|simp<;>omega|fail) [-zA,-zB,-zC,-zD,-zE,a38,zamd,z44h,n1]
 refine zlm5 zdph (fun a=>a.k) (fun a=>pthL a.k a.t a.s=R∧a.t.at_+a.k<3950000000∧a.s.length+4*a.k≤100) ⟨N,t.adv 1,[]⟩ (z515 (by simp (disch:=first|omega|simp<;>omega|fail) [-zA,-zB,-zC,-zD,-zE,zdph,zqr3]) (by simp (disch:=first|omega|simp<;>omega|fail) [-zA,-zB,-zC,-zD,-zE,zdph,zqr3])) ⟨hR,by simp only [zpza]; omega,by simp only [List.length_nil]; omega⟩ (fun a ha => ?_)
 obtain ⟨k,u,s⟩:=a
 obtain ⟨r1,r2,r3⟩:=ha
 simp only at r1 r2 r3
 simp only [zdph]
 by_cases hk:0<k
 ·obtain ⟨k,rfl⟩ : ∃ k',k=k'+1:=⟨k-1,by omega⟩
  have hk':(0:Int)<((k+1:Nat):Int):=by omega
  have hp:zqck [.sl true 1 5 [.str [97],.str [98],.str [115,114,99],.str [111,117,116],.str [108,105,98]]] (tpC u)=some (.str (zzh5 u nmA),tpC (u.adv 1)):=ze0z (l:=nmA) (by omega) (by decide) (by decide)
  have b1:=z4q5 u
  have b2:zhl4 .add (.str s) (.str (zzh5 u nmA))=some (.str (s++zzh5 u nmA)):=z0ff (by omega)
  have b3:zhl4 .add (.str (s++zzh5 u nmA)) (.str [47])=some (.str (s++zzh5 u nmA++[47])):=z0ff (by simp; omega)
  simp (disch:=first|omega|simp<;>omega|fail) [-zA,-zB,-zC,-zD,-zE,zy47,zqr3,zqj4,hp,b2,b3]
  exact ⟨⟨k,u.adv 1,s++zzh5 u nmA++[47]⟩,z515 (by simp (disch:=first|omega|simp<;>omega|fail) [-zA,-zB,-zC,-zD,-zE,zdph,zqr3]) (by simp (disch:=first|omega|simp<;>omega|fail) [-zA,-zB,-zC,-zD,-zE,zdph,zqr3]),by simp only; omega,r1,by simp only [zpza]; omega,by simp only [List.length_append,List.length_singleton]; omega⟩
 ·obtain rfl:k=0:=by omega
  have e:R=(s,u):=r1.symm
  subst e
  have hp:zqck [.sl true 1 6 [.str [97],.str [98],.str [97,46,99],.str [98,46,104],.str [120],.str [111,117,116]]] (tpC u)=some (.str (zzh5 u nmB),tpC (u.adv 1)):=ze0z (l:=nmB) (by omega) (by decide) (by decide)
  have hfz : ∀ k,fzL 1 k (tpC (u.adv 1)) (tpC (u.adv 1)):=fun k=>znnb (zs7w _)
  have b1:=z2ex u
  have b2:zhl4 .add (.str s) (.str (zzh5 u nmB))=some (.str (s++zzh5 u nmB)):=z0ff (by omega)
  simp (disch:=first|omega|simp<;>omega|fail) [-zA,-zB,-zC,-zD,-zE,zy47,zqr3,zqj4,hp,hfz,b2]
noncomputable def zu0i:List DV→List DV→Option (DV × List DV):=conT (fun a:Tp=>a.at_<3900000000) (fun a=>[]) tpC (fun a=>(.str (zczq a),tpC (zvs1 a)))
theorem zi9c {t:Tp} (h:t.at_<3900000000):zu0i [] (tpC t)=some (.str (zczq t),tpC (zvs1 t)) :=
 ztyo (A:=fun a:Tp=>a.at_<3900000000) (f:=fun a=>[]) (s:=tpC) (fun a b _ e=>by rw [z15z e]) t h
theorem zndi:(Con.tch zu0i).Sound P 38 :=
 z0tq (fun a _=>⟨rfl,zs7w _,rfl,zs7w _⟩) fun a h=>zizi mix z695 Tryz.func38 zclx (zqqw a h) (Nat.le_refl _)
theorem zdny {x:Ent}:bslD 33 1 [.str [],w8 0#8,w8 0#8,w8 0#8,w8 0#8,w8 0#8,w8 0#8,w8 0#8,w8 0#8,w8 0#8,w8 0#8,w8 0#8,w8 0#8,w8 0#8,w8 0#8,w8 0#8,w8 0#8,w8 0#8,w8 0#8,w8 0#8,w8 0#8,w8 0#8,w8 0#8,w8 0#8,w8 0#8,w8 0#8,w8 0#8,w8 0#8,w8 0#8,w8 0#8,w8 0#8,w8 0#8,w8 0#8] [(0,33,.agg (enC x))]=some (.sl true 33 1 (enC x)):=by
 have h1:=zuso x
 simp [bslD,zi03,zk7y,reps,h1,List.drop_of_length_le]
theorem zdo5 {L:List Ent} {i:Nat} (hi:i<L.length):oneC 1 false ((fl enC L).drop (i*33))=some (.str L[i].path):=by
 rw [fl,zkb2 zuso,List.drop_eq_getElem_cons hi,List.flatMap_cons]; rfl
theorem zpju {l:List Ent} {x y:Ent}:putF (l++[y]) x=putF l x++(if y.path=x.path then [] else [y]):=by
 unfold putF
 rw [List.filter_append]
 by_cases h:y.path=x.path<;>simp [h]
def zyte (s:Sl Ent) (x:Ent) (i:Nat):St:=zznl (s.dv 33 enC) (.mp 0 33 0) (oV 1 33 (putF (s.l.take i) x)) (.int .i64 i) (.cells (enC x)::oT enC (putF (s.l.take i) x))
def z525 (n:Nat) (x:Ent) (a:IPg Ent):St:=zv9l (.ms 1 (n*33) 0 33 n (n*33)) (.int .i64 a.A.length) [.cells (enC x),.cells (fl enC (a.A++x::a.B))]
theorem zet6 (s:Sl Ent) (x:Ent) (hs:s.l.length≤1000):Runs tbl0 a37 [s.dv 33 enC,.agg (enC x)] ((own (putV s.l x)).dv 33 enC):=by
 refine ⟨?_⟩
 obtain ⟨N,hN⟩ : ∃ N,s.l.length=N:=⟨_,rfl⟩
 rw [hN] at hs
 simp (disch:=first|omega|simp<;>omega|fail) [-zA,-zB,-zC,-zD,-zE,a37]
 refine zlm5 (zyte s x) (fun i=>N-i) (fun i=>i≤N) 0 (z515 (by simp (disch:=first|omega|simp<;>omega|fail) [-zA,-zB,-zC,-zD,-zE,zyte,zznl,putF,zl8p]) (by simp (disch:=first|omega|simp<;>omega|fail) [-zA,-zB,-zC,-zD,-zE,zyte,zznl,putF,zkrk])) (by omega) (fun i hi => ?_)
 simp only [zyte]
 by_cases h:i<N
 ·have h':(i:Int)<N:=by omega
  have hg : ∀ H,zpsc H 33 (s.dv 33 enC) i=some (.ref (enC s.l[i])):=fun H=>zalo zuso (by omega)
  have hnx:putF (s.l.take (i+1)) x=putF (s.l.take i) x++(if s.l[i].path=x.path then [] else [s.l[i]]):=by rw [List.take_succ_eq_append_getElem (by omega),zpju]
  have hfl:=zk1d (s.l.take i) x
  rw [List.length_take] at hfl
  obtain ⟨y,hy⟩ : ∃ y,s.l[i]=y:=⟨_,rfl⟩
  rw [hy] at hg hnx
  obtain ⟨F,hF⟩ : ∃ F,putF (s.l.take i) x=F:=⟨_,rfl⟩
  rw [hF] at hnx hfl ⊢
  have hap:=zte0 (f:=enC) (k:=1) (b:=48) (l:=F) (x:=y) (h:=[AObj.cells (enC x)]) rfl zuso (by decide) (by decide) (fun _=>zo6u) (by omega)
  simp only [List.cons_append,List.nil_append] at hap
  by_cases e:y.path=x.path
  ·rw [if_pos e,List.append_nil] at hnx
   simp (disch:=first|omega|simp<;>omega|fail) [-zA,-zB,-zC,-zD,-zE,z01n,zznl,hN,h,h',hg,z5fr,e]
   exact ⟨i+1,z515 (by simp (disch:=first|omega|simp<;>omega|fail) [-zA,-zB,-zC,-zD,-zE,zyte,zznl,hnx]) (by simp (disch:=first|omega|simp<;>omega|fail) [-zA,-zB,-zC,-zD,-zE,zyte,zznl,hnx]),by omega,by omega⟩
  ·rw [if_neg e] at hnx
   simp (disch:=first|omega|simp<;>omega|fail) [-zA,-zB,-zC,-zD,-zE,z01n,zznl,hN,h,h',hg,z5fr,e,z6p9,zdny,hap]
   exact ⟨i+1,z515 (by simp (disch:=first|omega|simp<;>omega|fail) [-zA,-zB,-zC,-zD,-zE,zyte,zznl,hnx]) (by simp (disch:=first|omega|simp<;>omega|fail) [-zA,-zB,-zC,-zD,-zE,zyte,zznl,hnx]),by omega,by omega⟩
 have h':¬ (i:Int)<N:=by omega
 rw [List.take_of_length_le (show s.l.length≤i by omega)]
 have hfl:=zk1d s.l x
 have hr:putV s.l x=insR pLt x (putF s.l x):=rfl
 have hrl:=z3b0 s.l x
 rw [hr] at hrl ⊢
 obtain ⟨Q,hQ⟩ : ∃ Q,putF s.l x=Q:=⟨_,rfl⟩
 rw [hQ] at hfl hrl ⊢
 have hap:=zte0 (f:=enC) (k:=1) (b:=48) (l:=Q) (x:=x) (h:=[AObj.cells (enC x)]) rfl zuso (by decide) (by decide) (fun _=>zo6u) (by omega)
 simp only [List.cons_append,List.nil_append] at hap
 obtain ⟨n,hn⟩ : ∃ n,Q.length+1=n:=⟨_,rfl⟩
 have hQn:(Q++[x]).length=n:=by rw [List.length_append,List.length_singleton,hn]
 have eV:oV 1 33 (Q++[x]) = .ms 1 (n*33) 0 33 n (n*33):=by rw [zpni (by simp),hQn]
 have eT:oT enC (Q++[x])=[.cells (fl enC (Q++[x]))]:=zu2l (by simp)
 rw [eV,eT] at hap
 obtain ⟨G0,hG0⟩ : ∃ G,fl enC (Q++[x])=G:=⟨_,rfl⟩
 have hG0l:G0.length=n*33:=by rw [← hG0,z8lx zuso,hQn]
 rw [hG0] at hap
 have hsub:IntKind.i64.wrap ((n:Int)-1)=(Q.length:Int):=by rw [← hn]; rw [znmn (by omega) (by omega)]; omega
 have hsub':(n:Int)-1=(Q.length:Int):=by omega
 simp (disch:=first|omega|simp<;>omega|fail) [-zA,-zB,-zC,-zD,-zE,z01n,zznl,hN,h,h',z6p9,zdny,hap,hG0l,hsub']
 refine zlm5 (z525 n x) (fun a=>a.A.length) (fun a=>a.A++a.B=Q∧z8u0 pLt x a.B) ⟨Q,[]⟩ (z515 (by simp (disch:=first|omega|simp<;>omega|fail) [-zA,-zB,-zC,-zD,-zE,z525,zv9l]) (by simp (disch:=first|omega|simp<;>omega|fail) [-zA,-zB,-zC,-zD,-zE,z525,zv9l,hG0])) ⟨by simp,fun b hb=>by simp at hb⟩ (fun a ha => ?_)
 obtain ⟨A,B⟩:=a
 obtain ⟨r1,r2⟩:=ha
 simp only at r1 r2
 simp only [z525]
 have hpu : ∀ L:List Ent,zbao (L.flatMap enC)=true:=fun L=>zp6k zt9q L
 rcases (List.eq_nil_or_concat A) with rfl|⟨A',y,rfl⟩
 ·have e:insR pLt x Q=x::B:=by rw [← r1]; exact zv9v r2 (.inl rfl)
  rw [e] at hrl ⊢
  have hBn:(x::B).length=n:=by rw [← hn,← r1]; simp
  have hsn:=z29t (f:=enC) (K:=33) zuso zt9q (pre:=[AObj.cells (enC x)]) (l:=x::B) (m:=n)
  rw [hBn,List.take_of_length_le (Nat.le_of_eq hBn)] at hsn
  simp only [List.length_singleton,List.cons_append,List.nil_append] at hsn
  rw [zqrs (by omega),hBn]
  generalize (x::B).flatMap enC=Z at hsn ⊢
  simp (disch:=first|omega|simp<;>omega|fail) [-zA,-zB,-zC,-zD,-zE,z0dk,zv9l,hsn]
 ·rw [List.concat_eq_append] at r1
  rw [List.concat_eq_append]
  have hAl:A'.length+1+B.length+1=n:=by rw [← hn,← r1]; simp; omega
  obtain ⟨L,hL⟩ : ∃ L,A'++[y]++x::B=L:=⟨_,rfl⟩
  have hLl:L.length=n:=by rw [← hL]; simp; omega
  obtain ⟨p,hp⟩ : ∃ p,A'.length=p:=⟨_,rfl⟩
  have g1 : ∀ h:p<L.length,L[p]=y:=fun h=>by subst hL hp; simp
  have g2 : ∀ h:p+1<L.length,L[p+1]=x:=fun h=>by subst hL hp; simp [List.getElem_append_right]
  have hs':=z72y (A:=A') (B:=B) (R:=[]) (x:=x) (y:=y)
  rw [List.append_nil,List.append_nil,hL,hp] at hs'
  obtain ⟨G,hG⟩ : ∃ G,fl enC L=G:=⟨_,rfl⟩
  have hGl:G.length=n*33:=by rw [← hG,z8lx zuso,hLl]
  obtain ⟨G2,hG2⟩ : ∃ G2,fl enC (L.set (p+1) y)=G2:=⟨_,rfl⟩
  have hG2l:G2.length=n*33:=by rw [← hG2,z8lx zuso,List.length_set,hLl]
  have o1:oneC 33 true (G.drop (p*33))=some (.agg (enC y)):=by rw [← hG,zfiy zuso (by omega),g1]
  have o2:oneC 33 true (G.drop ((p+1)*33))=some (.agg (enC x)):=by rw [← hG,zfiy zuso (by omega),g2]
  have o3:oneC 1 false (G.drop (p*33))=some (.str y.path):=by rw [← hG,zdo5 (by omega),g1]
  have o4:oneC 1 false (G.drop ((p+1)*33))=some (.str x.path):=by rw [← hG,zdo5 (by omega),g2]
  have s1 : ∀ h:List AObj,zy6o h 1 33 ((p+1)*33) (.agg (enC y)) (some G)=some (.junk,h.set 1 (.cells G2)):=fun h=>by rw [← hG,zdvi zuso (by decide) (fun _=>zo6u) (by omega),hG2]
  have s2 : ∀ h:List AObj,zy6o h 1 33 (p*33) (.agg (enC x)) (some G2)=some (.junk,h.set 1 (.cells (fl enC (A'++x::(y::B))))):=fun h=>by rw [← hG2,zdvi zuso (by decide) (fun _=>zo6u) (by rw [List.length_set]; omega),hs']
  have t1:((p:Int)+1).toNat=p+1:=by omega
  have t2:(A'++[y]).length=p+1:=by rw [← hp]; simp
  have q0:(0:Int)<(p:Int)+1:=by omega
  have q1:(p:Int)+1-1=p:=by omega
  have q2:(p:Int)+1<n:=by omega
  have q2n:p+1<n:=by omega
  have q3:(p:Int)<n:=by omega
  have q3n:p<n:=by omega
  have hlt : ∀ {a b:Str},zhl4 .lss (.str a) (.str b)=some (.bool (Op.bytesLess a b)):=rfl
  have hc0:pLt x y=Op.bytesLess x.path y.path:=rfl
  rw [hL,hG,t2]
  cases hc:pLt x y with
  | true =>
   rw [hc0] at hc
   simp (disch:=first|omega|simp<;>omega|fail) [-zA,-zB,-zC,-zD,-zE,z0dk,zv9l,hGl,hG2l,o1,o2,o3,o4,s1,s2,t1,q0,q1,q2,q2n,q3,q3n,hlt,hc]
   refine ⟨⟨A',y::B⟩,z515 (by simp (disch:=first|omega|simp<;>omega|fail) [-zA,-zB,-zC,-zD,-zE,z525,zv9l,hp]) (by simp (disch:=first|omega|simp<;>omega|fail) [-zA,-zB,-zC,-zD,-zE,z525,zv9l]),by simp,by simpa using r1,fun b hb => ?_⟩
   rcases List.mem_cons.1 hb with rfl|hb
   ·rw [hc0]; exact hc
   ·exact r2 b hb
  | false =>
   have e:insR pLt x Q=A'++[y]++x::B:=by rw [← r1]; exact zv9v r2 (.inr ⟨A',y,rfl,hc⟩)
   rw [hc0] at hc
   rw [e,hL]
   have hsn:=z29t (f:=enC) (K:=33) zuso zt9q (pre:=[AObj.cells (enC x)]) (l:=L) (m:=n)
   rw [hLl,List.take_of_length_le (Nat.le_of_eq hLl),hG] at hsn
   simp only [List.length_singleton,List.cons_append,List.nil_append] at hsn
   rw [zqrs (by omega),hLl]
   generalize L.flatMap enC=Z at hsn ⊢
   simp (disch:=first|omega|simp<;>omega|fail) [-zA,-zB,-zC,-zD,-zE,z0dk,zv9l,hGl,o3,o4,t1,q0,q1,q2,q2n,q3,q3n,hlt,hc,hsn]
noncomputable def cPut:List DV→Option DV:=con (fun a:Sl Ent × Ent=>a.1.l.length≤1000) (fun a=>[a.1.dv 33 enC,.agg (enC a.2)]) (fun a=>(own (putV a.1.l a.2)).dv 33 enC)
theorem zx4n {s:Sl Ent} {x:Ent} (h:s.l.length≤1000):cPut [s.dv 33 enC,.agg (enC x)]=some ((own (putV s.l x)).dv 33 enC) :=
 zzno (A:=fun a:Sl Ent × Ent=>a.1.l.length≤1000) (f:=fun a=>[a.1.dv 33 enC,.agg (enC a.2)]) (g:=fun a=>(own (putV a.1.l a.2)).dv 33 enC) (by
  rintro ⟨a,b⟩ ⟨c,d⟩ e
  simp only [List.cons.injEq,DV.agg.injEq,and_true] at e
  rw [zdvs e.1,zxv7 e.2]) (s,x) h
theorem zuao:(Con.pure cPut).Sound P 37:=z2au fun a h=>zljw mix zr5o Tryz.func37 z554 (zet6 a.1 a.2 h)
end Go.Proofs.YtjknipdiglpnlaaGreatDoor
set_option linter.unusedSimpArgs false
set_option linter.unusedVariables false
namespace Go.Proofs.YtjknipdiglpnlaaGreatDoor
open Go Go.Am
theorem z1lj (s:Sl Ent) (i:Nat) (hs:s.l.length≤1000) (hi:i<s.l.length):Runs tbl0 a36 [s.dv 33 enC,.int .i64 i] ((zmmk s.l i).dv 33 enC):=by
 refine ⟨?_⟩
 have hs1 : ∀ H,ziwb H 33 (s.dv 33 enC) none (some (.int .i64 i)) none=some ((s.part 0 i (i == s.l.length)).dv 33 enC):=fun H=>z0ke zuso (by simp [zo77,iD]; omega) (by omega)
 have hs2 : ∀ H,ziwb H 33 (s.dv 33 enC) (some (.int .i64 (i+1))) none none=some ((s.part (i+1) s.l.length (s.l.length == s.l.length)).dv 33 enC):=fun H=>z0ke zuso (by simp [zo77,iD]; omega) (Nat.le_refl _)
 obtain ⟨Y1,hY1⟩ : ∃ Y,s.part 0 i (i == s.l.length)=Y:=⟨_,rfl⟩
 obtain ⟨Y2,hY2⟩ : ∃ Y,s.part (i+1) s.l.length (s.l.length == s.l.length)=Y:=⟨_,rfl⟩
 have hY1l:Y1.l=s.l.take i:=by rw [← hY1]; show (s.l.drop 0).take (i-0)=_; simp
 have hY2l:Y2.l=s.l.drop (i+1):=by rw [← hY2]; show (s.l.drop (i+1)).take (s.l.length-(i+1))=_; exact List.take_of_length_le (by simp)
 have hr:zzy4 s.l i=s.l.take i++s.l.drop (i+1):=rfl
 have hrl:=zy3g s.l i
 have hTl:(s.l.take i).length=i:=by rw [List.length_take]; omega
 have hDl:(s.l.drop (i+1)).length=s.l.length-(i+1):=List.length_drop ..
 obtain ⟨A,hA⟩ : ∃ A,s.l.take i=A:=⟨_,rfl⟩
 obtain ⟨D,hD⟩ : ∃ D,s.l.drop (i+1)=D:=⟨_,rfl⟩
 rw [hY1] at hs1
 rw [hY2] at hs2
 rw [hA] at hY1l hr hTl
 rw [hD] at hY2l hr hDl
 have hv1 : ∀ H,visY H (Y1.dv 33 enC)=some (A.length,A.flatMap enC):=fun H=>by rw [zwaa zuso,hY1l]
 have hv2 : ∀ H,visY H (Y2.dv 33 enC)=some (D.length,D.flatMap enC):=fun H=>by rw [zwaa zuso,hY2l]
 have ap1:=znxx (f:=enC) (k:=0) (b:=48) (l:=[]) (cs:=A) (h:=[]) rfl zuso (by decide) (by decide) (fun _=>zo6u) (by simp; omega)
 have ap2:=znxx (f:=enC) (k:=0) (b:=48) (l:=A) (cs:=D) (h:=[]) rfl zuso (by decide) (by decide) (fun _=>zo6u) (by omega)
 simp only [List.nil_append,ze3w,zkrk] at ap1 ap2
 have hkn : ∀ {l:List Ent},(oW 0 33 l).known=true:=zg9v
 have hdr:(zmmk s.l i).dv 33 enC=if zzy4 s.l i=[] then .sl true 33 0 [] else (own (zzy4 s.l i)).dv 33 enC:=by unfold zmmk; split<;>rfl
 rw [hr] at hdr hrl
 rw [hdr]
 obtain ⟨Z,hZ⟩ : ∃ Z,A++D=Z:=⟨_,rfl⟩
 rw [hZ] at ap2 hrl ⊢
 by_cases e:Z=[]
 ·subst e
  rw [if_pos rfl]
  rw [ze3w,zkrk] at ap2
  simp (disch:=first|omega|simp<;>omega|fail) [-zA,-zB,-zC,-zD,-zE,a36,hs1,hs2,hv1,hv2,ap1,ap2,zch3,hkn]
 ·rw [if_neg e]
  have hsn:=zigm (f:=enC) (K:=33) (k:=0) (l:=Z) (h:=[]) (r:=[]) rfl zuso zt9q (by omega)
  rw [z527 e] at hsn
  simp only [List.nil_append,List.append_nil] at hsn
  rw [zpml e] at ap2
  simp (disch:=first|omega|simp<;>omega|fail) [-zA,-zB,-zC,-zD,-zE,a36,hs1,hs2,hv1,hv2,ap1,ap2,zch3,hkn,hsn]
noncomputable def cDrp:List DV→Option DV:=con (fun a:Sl Ent × Nat=>a.1.l.length≤1000∧a.2<a.1.l.length) (fun a=>[a.1.dv 33 enC,.int .i64 a.2]) (fun a=>(zmmk a.1.l a.2).dv 33 enC)
theorem z4ij {s:Sl Ent} {i:Nat} (h:s.l.length≤1000) (h2:i<s.l.length):cDrp [s.dv 33 enC,.int .i64 i]=some ((zmmk s.l i).dv 33 enC) :=
 zzno (A:=fun a:Sl Ent × Nat=>a.1.l.length≤1000∧a.2<a.1.l.length) (f:=fun a=>[a.1.dv 33 enC,.int .i64 a.2]) (g:=fun a=>(zmmk a.1.l a.2).dv 33 enC) (by
  rintro ⟨a,b⟩ ⟨c,d⟩ e
  simp only [List.cons.injEq,DV.int.injEq,true_and,and_true,Int.natCast_inj] at e
  rw [zdvs e.1,e.2]) (s,i) ⟨h,h2⟩
theorem zb3v:(Con.pure cDrp).Sound P 36:=z2au fun a h=>zljw mix zr5o Tryz.func36 zj68 (z1lj a.1 a.2 h.1 h.2)
end Go.Proofs.YtjknipdiglpnlaaGreatDoor
set_option linter.unusedSimpArgs false
set_option linter.unusedVariables false
namespace Go.Proofs.YtjknipdiglpnlaaGreatDoor
open Go Go.Am
theorem zg8c {p:Str} {d:Dg}:zvnk [.str [],w8 0#8,w8 0#8,w8 0#8,w8 0#8,w8 0#8,w8 0#8,w8 0#8,w8 0#8,w8 0#8,w8 0#8,w8 0#8,w8 0#8,w8 0#8,w8 0#8,w8 0#8,w8 0#8,w8 0#8,w8 0#8,w8 0#8,w8 0#8,w8 0#8,w8 0#8,w8 0#8,w8 0#8,w8 0#8,w8 0#8,w8 0#8,w8 0#8,w8 0#8,w8 0#8,w8 0#8,w8 0#8] [(0,1,.str p),(1,32,.agg (dgC d))]=some (.agg (enC ⟨p,d⟩)):=by
 have h1:=z1t1 d
 simp [zvnk,zi03,zk7y,enC,h1,List.drop_of_length_le]
noncomputable def z8cb:Tbl:=addT 17 (.tch z1m3) (addT 38 (.tch zu0i) (addT 39 (.tch cSum) (addT 37 (.pure cPut) (addT 36 (.pure cDrp) tbl0))))
theorem zf42:z8cb 17 = .tch z1m3:=by simp [z8cb]
theorem z2fv:z8cb 38 = .tch zu0i:=by simp [z8cb]
theorem zgng:z8cb 39 = .tch cSum:=by simp [z8cb]
theorem z73q:z8cb 37 = .pure cPut:=by simp [z8cb]
theorem z8lo:z8cb 36 = .pure cDrp:=by simp [z8cb]
theorem zleh:z8cb.Sound P:=z0rp z51e (z0rp zndi (z0rp z8dz (z0rp zuao (z0rp zb3v zr5o))))
structure NL where
 k:Nat
 t:Tp
 s:List Ent
def z2ze (m:Nat) (a:NL):St:=zbg2 (.mp 0 2 0) ((ownN a.s).dv 33 enC) (.int .i64 a.k) [.cells (tpC a.t)]
theorem zx9h:(nilS:Sl Ent).dv 33 enC = .nils:=rfl
theorem z29k (t:Tp) (m:Nat) (ht:t.at_<3800000000) (hm:m≤100):RunsF z8cb a35 [.mp 0 2 0,.int .i64 m] [.cells (tpC t)] ((ownN (zgxx t m).2).dv 33 enC) [.cells (tpC (zgxx t m).1)]:=by
 refine ⟨?_⟩
 have n1:=znaf t m
 have n2:=zgro t m
 have hv:zgxx t m=snpL (zep5 t m) (t.adv 1,[]):=rfl
 obtain ⟨R,hR⟩ : ∃ R,snpL (zep5 t m) (t.adv 1,[])=R:=⟨_,rfl⟩
 rw [hR] at hv
 obtain ⟨N,hN⟩ : ∃ N,zep5 t m=N:=⟨_,rfl⟩
 rw [hN] at n1 n2 hR
 rw [hv]
 have hnx:z1m3 [.int .i64 ((m:Int)+1)] (tpC t)=some (.int .i64 N,tpC (t.adv 1)):=by rw [z44h (by omega) (by omega) (by omega),n1]
 simp (disch:=first|omega|simp<;>omega|fail) [-zA,-zB,-zC,-zD,-zE,a35,zf42,hnx]
 refine zlm5 (z2ze m) (fun a=>a.k) (fun a=>snpL a.k (a.t,a.s)=R∧a.t.at_+5*a.k<3810000000∧a.s.length+a.k≤100) ⟨N,t.adv 1,[]⟩ (z515 (by simp (disch:=first|omega|simp<;>omega|fail) [-zA,-zB,-zC,-zD,-zE,z2ze,zbg2,zce3,zx9h]) (by simp (disch:=first|omega|simp<;>omega|fail) [-zA,-zB,-zC,-zD,-zE,z2ze,zbg2])) ⟨hR,by simp only [zpza]; omega,by simp only [List.length_nil]; omega⟩ (fun a ha => ?_)
 obtain ⟨k,u,s⟩:=a
 obtain ⟨r1,r2,r3⟩:=ha
 simp only at r1 r2 r3
 simp only [z2ze]
 by_cases hk:0<k
 ·obtain ⟨k,rfl⟩ : ∃ k',k=k'+1:=⟨k-1,by omega⟩
  have hk':(0:Int)<((k+1:Nat):Int):=by omega
  have k1:=zi9c (t:=u) (by omega)
  have ha:=zj8l u
  have k2:=zliq (t:=zvs1 u) (by omega)
  have hnw:(zvs1 u).adv 1=newT u:=rfl
  have hne:(⟨zczq u,sumV (zvs1 u)⟩:Ent)=newE u:=rfl
  rw [hnw] at k2
  have hsl:(ownN s).l=s:=zd8n (by omega)
  have k3:=zx4n (s:=ownN s) (x:=newE u) (by rw [hsl]; omega)
  rw [hsl,← z527 (zfin s (newE u))] at k3
  have k3:cPut [(ownN s).dv 33 enC,.agg (.str (zczq u)::dgC (sumV (zvs1 u)))]=some ((ownN (putV s (newE u))).dv 33 enC):=k3
  have hat:=ztvs u
  have hpl:=z3b0 s (newE u)
  simp (disch:=first|omega|simp<;>omega|fail) [-zA,-zB,-zC,-zD,-zE,ztv8,zbg2,z2fv,k1,zgng,k2,zg8c,hne,z73q,k3,zru8]
  exact ⟨⟨k,newT u,putV s (newE u)⟩,z515 (by simp (disch:=first|omega|simp<;>omega|fail) [-zA,-zB,-zC,-zD,-zE,z2ze,zbg2]) (by simp (disch:=first|omega|simp<;>omega|fail) [-zA,-zB,-zC,-zD,-zE,z2ze,zbg2]),by simp only; omega,r1,by simp only; omega,by simp only; omega⟩
 ·obtain rfl:k=0:=by omega
  have e:R=(u,s):=r1.symm
  subst e
  have hfz : ∀ k,fzL 1 k (tpC u) (tpC u):=fun k=>znnb (zs7w _)
  have hfy : ∀ H,fz 1 H 3 ((ownN s).dv 33 enC)=some ((ownN s).dv 33 enC):=fun H=>zqge (zru8 _)
  simp (disch:=first|omega|simp<;>omega|fail) [-zA,-zB,-zC,-zD,-zE,ztv8,zbg2,hfz,hfy]
noncomputable def cSnp:List DV→List DV→Option (DV × List DV):=conT (fun a:Tp × Nat=>a.1.at_<3800000000∧a.2≤100) (fun a=>[.int .i64 a.2]) (fun a=>tpC a.1) (fun a=>((ownN (zgxx a.1 a.2).2).dv 33 enC,tpC (zgxx a.1 a.2).1))
theorem zt2p {t:Tp} {m:Nat} (h:t.at_<3800000000) (hm:m≤100):cSnp [.int .i64 m] (tpC t)=some ((ownN (zgxx t m).2).dv 33 enC,tpC (zgxx t m).1) :=
 ztyo (A:=fun a:Tp × Nat=>a.1.at_<3800000000∧a.2≤100) (f:=fun a=>[.int .i64 a.2]) (s:=fun a=>tpC a.1) (by
  rintro ⟨a,n⟩ ⟨b,m⟩ e1 e2
  simp only [List.cons.injEq,DV.int.injEq,true_and,and_true,Int.natCast_inj] at e1
  rw [e1,z15z e2]) (t,m) ⟨h,hm⟩
theorem zg3i:(Con.tch cSnp).Sound P 35 :=
 z0tq (fun a _=>⟨rfl,zs7w _,zru8 _,zs7w _⟩) fun a h=>zizi mix zleh Tryz.func35 zxwh (z29k a.1 a.2 h.1 h.2) (Nat.le_refl _)
structure DL where
 k:Nat
 t:Tp
 s:Sl Ent
def zlkl (a:DL):St:=zs05 (.mp 0 2 0) (a.s.dv 33 enC) (.int .i64 a.k) [.cells (tpC a.t)]
theorem z438 (t:Tp) (s0:Sl Ent) (ht:t.at_<3800000000) (hs0:s0.l.length≤800):RunsF z8cb a16 [.mp 0 2 0,s0.dv 33 enC] [.cells (tpC t)] ((z7ym t s0).2.dv 33 enC) [.cells (tpC (z7ym t s0).1)]:=by
 refine ⟨?_⟩
 have n1:tpN t 4=zp4t t:=znaf t 3
 have n2:zp4t t≤3:=zgro t 3
 have hv:z7ym t s0=edtL (zp4t t) (t.adv 1,s0):=rfl
 obtain ⟨R,hR⟩ : ∃ R,edtL (zp4t t) (t.adv 1,s0)=R:=⟨_,rfl⟩
 rw [hR] at hv
 obtain ⟨N,hN⟩ : ∃ N,zp4t t=N:=⟨_,rfl⟩
 rw [hN] at n1 n2 hR
 rw [hv]
 simp (disch:=first|omega|simp<;>omega|fail) [-zA,-zB,-zC,-zD,-zE,a16,zf42,z44h,n1]
 refine zlm5 zlkl (fun a=>a.k) (fun a=>edtL a.k (a.t,a.s)=R∧a.t.at_+6*a.k<3810000000∧a.s.l.length+a.k≤900) ⟨N,t.adv 1,s0⟩ (z515 (by simp (disch:=first|omega|simp<;>omega|fail) [-zA,-zB,-zC,-zD,-zE,zlkl,zs05]) (by simp (disch:=first|omega|simp<;>omega|fail) [-zA,-zB,-zC,-zD,-zE,zlkl,zs05])) ⟨hR,by simp only [zpza]; omega,by simp only; omega⟩ (fun a ha => ?_)
 obtain ⟨k,u,s⟩:=a
 obtain ⟨r1,r2,r3⟩:=ha
 simp only at r1 r2 r3
 simp only [zlkl]
 by_cases hk:0<k
 case neg =>
  obtain rfl:k=0:=by omega
  have e:R=(u,s):=r1.symm
  subst e
  have hfz : ∀ k,fzL 1 k (tpC u) (tpC u):=fun k=>znnb (zs7w _)
  have hfy : ∀ H,fz 1 H 3 (s.dv 33 enC)=some (s.dv 33 enC):=fun H=>zqge (zru8 _)
  simp (disch:=first|omega|simp<;>omega|fail) [-zA,-zB,-zC,-zD,-zE,zvfu,zs05,hfz,hfy]
 obtain ⟨k,rfl⟩ : ∃ k',k=k'+1:=⟨k-1,by omega⟩
 have hk':(0:Int)<((k+1:Nat):Int):=by omega
 have r1':edtL k (zvj4 (u,s))=R:=r1
 have hok:=zkr6 (a:=(u,s)) (by simp only; omega)
 simp only at hok
 have k0:z1m3 [.int .i64 3] (tpC u)=some (.int .i64 (tpN u 3),tpC (u.adv 1)):=z44h (by omega) (by omega) (by omega)
 have hlen : ∀ H,lenD H (s.dv 33 enC)=some (.int .i64 s.l.length):=fun H=>zupj
 obtain ⟨q,hq⟩ : ∃ q,tpN u 3=q:=⟨_,rfl⟩
 rw [hq] at k0
 by_cases c:q=0∧s.l≠[]
 ·obtain ⟨c1,c2⟩:=c
  subst c1
  have hl0:0<s.l.length:=List.length_pos_iff.2 c2
  have hl0':(0:Int)<s.l.length:=by omega
  have m1:=z4rs (u.adv 1) s.l.length
  have m2:=z2s7 (u.adv 1) (n:=s.l.length) (by omega)
  obtain ⟨J,hJ⟩ : ∃ J:Nat,tpN (u.adv 1) s.l.length=J:=⟨_,(Int.toNat_of_nonneg m1).symm⟩
  have k1:=z44h (t:=u.adv 1) (n:=(s.l.length:Int)) (by simp only [zpza]; omega) (by omega) (by omega)
  rw [hJ,zjmf] at k1
  have k2:=z4ij (s:=s) (i:=J) (by omega) (by omega)
  have he:zvj4 (u,s)=(u.adv 2,zmmk s.l J):=by
   unfold zvj4
   rw [if_pos ⟨hq,c2⟩]
   simp only [hJ,Int.toNat_natCast]
  rw [he] at r1' hok
  simp only [zpza] at hok
  obtain ⟨n,hn⟩ : ∃ n,s.l.length=n:=⟨_,rfl⟩
  rw [hn] at hlen hl0 hl0' k1
  simp (disch:=first|omega|simp<;>omega|fail) [-zA,-zB,-zC,-zD,-zE,zvfu,zs05,zf42,k0,hlen,hl0,hl0',k1,z8lo,k2,zru8]
  exact ⟨⟨k,u.adv 2,zmmk s.l J⟩,z515 (by simp (disch:=first|omega|simp<;>omega|fail) [-zA,-zB,-zC,-zD,-zE,zlkl,zs05]) (by simp (disch:=first|omega|simp<;>omega|fail) [-zA,-zB,-zC,-zD,-zE,zlkl,zs05]),by simp only; omega,r1',by simp only [zpza]; omega,by simp only; omega⟩
 ·have he:zvj4 (u,s)=(newT (u.adv 1),own (putV s.l (newE (u.adv 1)))):=by
   unfold zvj4
   rw [if_neg (by rw [hq]; exact c)]
  rw [he] at r1' hok
  simp only at hok
  have k1:=zi9c (t:=u.adv 1) (by simp only [zpza]; omega)
  have ha:=zj8l (u.adv 1)
  have k2:=zliq (t:=zvs1 (u.adv 1)) (by simp only [zpza] at ha; omega)
  have hnw:(zvs1 (u.adv 1)).adv 1=newT (u.adv 1):=rfl
  have hne:(⟨zczq (u.adv 1),sumV (zvs1 (u.adv 1))⟩:Ent)=newE (u.adv 1):=rfl
  rw [hnw] at k2
  have k3:cPut [s.dv 33 enC,.agg (.str (zczq (u.adv 1))::dgC (sumV (zvs1 (u.adv 1))))]=some ((own (putV s.l (newE (u.adv 1)))).dv 33 enC):=zx4n (s:=s) (x:=newE (u.adv 1)) (by omega)
  by_cases c1:q=0
  ·have c2:s.l=[]:=Classical.byContradiction fun h=>c ⟨c1,h⟩
   have hl0:s.l.length=0:=by rw [c2]; rfl
   rw [hl0] at hlen
   subst c1
   simp (disch:=first|omega|simp<;>omega|fail) [-zA,-zB,-zC,-zD,-zE,zvfu,zs05,zf42,k0,hlen,z2fv,k1,zgng,k2,zg8c,hne,z73q,k3,zru8]
   exact ⟨⟨k,newT (u.adv 1),own (putV s.l (newE (u.adv 1)))⟩,z515 (by simp (disch:=first|omega|simp<;>omega|fail) [-zA,-zB,-zC,-zD,-zE,zlkl,zs05]) (by simp (disch:=first|omega|simp<;>omega|fail) [-zA,-zB,-zC,-zD,-zE,zlkl,zs05]),by simp only; omega,r1',by simp only; omega,by simp only; omega⟩
  ·simp (disch:=first|omega|simp<;>omega|fail) [-zA,-zB,-zC,-zD,-zE,zvfu,zs05,zf42,k0,c1,z2fv,k1,zgng,k2,zg8c,hne,z73q,k3,zru8]
   exact ⟨⟨k,newT (u.adv 1),own (putV s.l (newE (u.adv 1)))⟩,z515 (by simp (disch:=first|omega|simp<;>omega|fail) [-zA,-zB,-zC,-zD,-zE,zlkl,zs05]) (by simp (disch:=first|omega|simp<;>omega|fail) [-zA,-zB,-zC,-zD,-zE,zlkl,zs05]),by simp only; omega,r1',by simp only; omega,by simp only; omega⟩
noncomputable def cEdt:List DV→List DV→Option (DV × List DV):=conT (fun a:Tp × Sl Ent=>a.1.at_<3800000000∧a.2.l.length≤800) (fun a=>[a.2.dv 33 enC]) (fun a=>tpC a.1) (fun a=>((z7ym a.1 a.2).2.dv 33 enC,tpC (z7ym a.1 a.2).1))
theorem zref {t:Tp} {s:Sl Ent} (h:t.at_<3800000000) (hm:s.l.length≤800):cEdt [s.dv 33 enC] (tpC t)=some ((z7ym t s).2.dv 33 enC,tpC (z7ym t s).1) :=
 ztyo (A:=fun a:Tp × Sl Ent=>a.1.at_<3800000000∧a.2.l.length≤800) (f:=fun a=>[a.2.dv 33 enC]) (s:=fun a=>tpC a.1) (g:=fun a=>((z7ym a.1 a.2).2.dv 33 enC,tpC (z7ym a.1 a.2).1)) (by
  rintro ⟨a,n⟩ ⟨b,m⟩ e1 e2
  simp only [List.cons.injEq,and_true] at e1
  rw [zdvs e1,z15z e2]) (t,s) ⟨h,hm⟩
theorem zg4h:(Con.tch cEdt).Sound P 16 :=
 z0tq (fun a _=>⟨by simp [zbao,zru8],zs7w _,zru8 _,zs7w _⟩) fun a h=>zizi mix zleh Tryz.func16 zddi (z438 a.1 a.2 h.1 h.2) (Nat.le_refl _)
noncomputable def z6hl:Tbl:=addT 35 (.tch cSnp) (addT 16 (.tch cEdt) tbl0)
theorem z70k:z6hl 35 = .tch cSnp:=by simp [z6hl]
theorem zhen:z6hl 16 = .tch cEdt:=by simp [z6hl]
theorem zl8g:z6hl.Sound P:=z0rp zg3i (z0rp zg4h zr5o)
theorem zc0o (t:Tp) (st:Str) (ht:t.at_<3700000000):RunsF z6hl a15 [.mp 0 2 0,.str st] [.cells (tpC t)] (.agg (lkC (zyjl t st))) [.cells (tpC (zd2t t))]:=by
 refine ⟨?_⟩
 have k1:=zt2p (t:=t) (m:=5) (by omega) (by omega)
 have h1:=zk7x t 5
 have hm:ownN (zgxx t 5).2=zxwj t:=rfl
 rw [hm] at k1
 have hl:=zr0a t
 have k2:=zref (t:=(zgxx t 5).1) (s:=zxwj t) (by omega) (by omega)
 have hT:(z7ym (zgxx t 5).1 (zxwj t)).1=zd2t t:=rfl
 rw [hT] at k2
 have hr:zyjl t st=⟨st,zxwj t,(z7ym (zgxx t 5).1 (zxwj t)).2⟩:=rfl
 rw [hr]
 obtain ⟨M,hM⟩ : ∃ M,zxwj t=M:=⟨_,rfl⟩
 rw [hM] at k1 k2 ⊢
 obtain ⟨Q,hQ⟩ : ∃ Q,(z7ym (zgxx t 5).1 M).2=Q:=⟨_,rfl⟩
 rw [hQ] at k2 ⊢
 obtain ⟨U,hU⟩ : ∃ U,(zgxx t 5).1=U:=⟨_,rfl⟩
 rw [hU] at k1 k2
 obtain ⟨V,hV⟩ : ∃ V,zd2t t=V:=⟨_,rfl⟩
 rw [hV] at k2 ⊢
 have k1':cSnp [.int .i64 5] (tpC t)=some (M.dv 33 enC,tpC U):=k1
 have hfz : ∀ k,fzL 1 k (tpC V) (tpC V):=fun k=>znnb (zs7w _)
 have hfy : ∀ H,fzLo 1 H 3 (lkC ⟨st,M,Q⟩)=some (lkC ⟨st,M,Q⟩):=fun H=>zojd (z53g _)
 simp (disch:=first|omega|simp<;>omega|fail) [-zA,-zB,-zC,-zD,-zE,a15,z70k,k1',zhen,k2,zye0,hfz,hfy]
 show (oneC 3 true (lkC ⟨st,M,Q⟩)).bind _=_
 rw [zrer]
 exact zqge (by simp [zyp8])
noncomputable def cLkT:List DV→List DV→Option (DV × List DV):=conT (fun a:Tp × Str=>a.1.at_<3700000000) (fun a=>[.str a.2]) (fun a=>tpC a.1) (fun a=>(.agg (lkC (zyjl a.1 a.2)),tpC (zd2t a.1)))
theorem zauq {t:Tp} {st:Str} (h:t.at_<3700000000):cLkT [.str st] (tpC t)=some (.agg (lkC (zyjl t st)),tpC (zd2t t)) :=
 ztyo (A:=fun a:Tp × Str=>a.1.at_<3700000000) (f:=fun a=>[.str a.2]) (s:=fun a=>tpC a.1) (g:=fun a=>(.agg (lkC (zyjl a.1 a.2)),tpC (zd2t a.1))) (by
  rintro ⟨a,n⟩ ⟨b,m⟩ e1 e2
  simp only [List.cons.injEq,DV.str.injEq,and_true] at e1
  rw [e1,z15z e2]) (t,st) h
theorem z3ot:(Con.tch cLkT).Sound P 15 :=
 z0tq (fun a _=>⟨rfl,zs7w _,by simp [zyp8],zs7w _⟩) fun a h=>zizi mix zl8g Tryz.func15 zz37 (zc0o a.1 a.2 h) (Nat.le_refl _)
end Go.Proofs.YtjknipdiglpnlaaGreatDoor
set_option linter.unusedSimpArgs false
set_option linter.unusedVariables false
namespace Go.Proofs.YtjknipdiglpnlaaGreatDoor
open Go Go.Am
end Go.Proofs.YtjknipdiglpnlaaGreatDoor
set_option linter.unusedSimpArgs false
set_option linter.unusedVariables false
namespace Go.Proofs.YtjknipdiglpnlaaGreatDoor
open Go Go.Am
abbrev yDg:Ty := .arr 32 (.int .u8)
abbrev yEn:Ty := .st [.str,yDg]
abbrev yRu:Ty := .st [.int .i64,.str,.str,.bool,.str,.str]
theorem okEn {ds:List DV} (h:Ty.Ok yEn ds) : ∃ x:Ent,True∧ds=enC x:=by
 simp only [yEn,Ty.Ok,Ty.OkL] at h
 obtain ⟨a1,b1,rfl,h1,a2,b2,rfl,h2,rfl⟩:=h
 obtain ⟨s1,rfl⟩:=h1
 obtain ⟨b,hb,rfl⟩:=zgcd (show Ty.Ok yDg a2 by simpa only [Ty.Ok] using h2)
 exact ⟨⟨s1,⟨b,hb⟩⟩,trivial,by simp [enC,dgC]⟩
theorem zjzy {ds:List DV} (h:Ty.Ok (.sl (.int .i64)) ds) : ∃ x:Nl,(∀ n ∈ x.l,-9223372036854775808≤n∧n≤9223372036854775807)∧ds=[x.dv]:=by
 obtain ⟨k,l,h1,h2,rfl,hb⟩:=z61h (f:=inI) (R:=fun n => -9223372036854775808≤n∧n≤9223372036854775807) (fun ds h=>by obtain ⟨n,hn,rfl⟩:=zrcx h; exact ⟨n,hn,rfl⟩) h
 exact ⟨⟨k,l,h1,hb⟩,h2,rfl⟩
def nlT (x:Nl):Tp:=⟨x.k,x.l,x.h,0⟩
theorem z9fj (x:Nl):(nlT x).sl=x.dv:=rfl
theorem z1ga (x:Nl):tpC (nlT x)=[x.dv,.int .i64 0]:=rfl
theorem z9k1 (x:Nl):zvnk [.nils,.int .i64 0] [(0,1,x.dv)]=some (.agg (tpC (nlT x))):=by rw [← z9fj,zkbj]; rfl
end Go.Proofs.YtjknipdiglpnlaaGreatDoor
set_option linter.unusedSimpArgs false
set_option linter.unusedVariables false
namespace Go.Proofs.YtjknipdiglpnlaaGreatDoor
open Go Go.Am
def a60:AFn where
 code:=(.seq (.region false [⟨none,(some 2),.mov (.k (.str []))⟩])
 (.seq (.region false [⟨none,(some 4),.bsl 1 8 [(.str [])] [(0,1,(.k (.str []))),(1,1,(.k (.str [109,97,116,99,104]))),(2,1,(.k (.str [99,114,101,97,116,101]))),(3,1,(.k (.str [109,111,100,105,102,121]))),(4,1,(.k (.str [100,101,108,101,116,101]))),(5,1,(.k (.str [97,108,108,111,119]))),(6,1,(.k (.str [100,105,115,97,108,108,111,119]))),(7,1,(.k (.str [114,101,113,117,105,114,101])))]⟩,
  ⟨none,(some 3),.mov (.t 4)⟩])
 (.seq (.seq (.region false [⟨none,(some 5),.mov (.t 0)⟩,
  ⟨none,(some 6),.bin .lss (.t 5) (.k (.int .i64 0))⟩,
  ⟨none,(some 7),.mov (.t 6)⟩,
  ⟨(some (7,false)),(some 8),.mov (.t 0)⟩,
  ⟨(some (7,false)),(some 9),.mov (.t 3)⟩,
  ⟨(some (7,false)),(some 10),.len (.t 9)⟩,
  ⟨(some (7,false)),(some 11),.bin .geq (.t 8) (.t 10)⟩,
  ⟨none,(some 12),.pick (.t 7) (.k (.bool true)) (.t 11)⟩])
 (.cond (.t 12) (.seq (.region false [⟨none,(some 2),.mov (.k (.str []))⟩])
 .ret)
 .skip))
 (.seq (.region false [⟨none,(some 13),.mov (.t 3)⟩,
  ⟨none,(some 14),.mov (.t 0)⟩,
  ⟨none,(some 15),.idxS 1 (.t 13) (.t 14)⟩,
  ⟨none,(some 16),.load 1 false (.t 15)⟩,
  ⟨none,(some 2),.mov (.t 16)⟩])
 .ret))))
 ntmps:=17
 res:=[.tmp 2]
theorem z6e9:zsjc P Tryz.f60=some a60:=by kernel_rfl
def z1dk:ACode :=
 (.seq (.seq (.region false [⟨none,(some 13),.mov (.t 3)⟩,
  ⟨none,(some 14),.mov (.t 0)⟩,
  ⟨none,(some 15),.lenStr (.t 14)⟩,
  ⟨none,(some 16),.bin .lss (.t 13) (.t 15)⟩])
 (.cond (.t 16) .skip
 (.exit 0)))
 (.seq (.block 1 (.seq (.region false [⟨none,(some 19),.mov (.t 0)⟩,
  ⟨none,(some 20),.mov (.t 3)⟩,
  ⟨none,(some 21),.idxStr (.t 19) (.t 20)⟩,
  ⟨none,(some 4),.mov (.t 21)⟩])
 (.seq (.seq (.region false [⟨none,(some 22),.mov (.t 4)⟩,
  ⟨none,(some 23),.bin .geq (.t 22) (.k (w8 97#8))⟩,
  ⟨none,(some 24),.mov (.t 23)⟩,
  ⟨(some (24,true)),(some 25),.mov (.t 4)⟩,
  ⟨(some (24,true)),(some 26),.bin .leq (.t 25) (.k (w8 122#8))⟩,
  ⟨none,(some 27),.pick (.t 24) (.t 26) (.k (.bool false))⟩,
  ⟨none,(some 28),.mov (.t 27)⟩,
  ⟨(some (28,false)),(some 29),.mov (.t 4)⟩,
  ⟨(some (28,false)),(some 30),.bin .geq (.t 29) (.k (w8 48#8))⟩,
  ⟨(some (28,false)),(some 31),.mov (.t 30)⟩,
  ⟨(some (31,true)),(some 32),.mov (.t 4)⟩,
  ⟨(some (31,true)),(some 33),.bin .leq (.t 32) (.k (w8 57#8))⟩,
  ⟨(some (28,false)),(some 34),.pick (.t 31) (.t 33) (.k (.bool false))⟩,
  ⟨none,(some 35),.pick (.t 28) (.k (.bool true)) (.t 34)⟩,
  ⟨none,(some 36),.mov (.t 35)⟩,
  ⟨(some (36,false)),(some 37),.mov (.t 3)⟩,
  ⟨(some (36,false)),(some 38),.bin .gtr (.t 37) (.k (.int .i64 0))⟩,
  ⟨(some (36,false)),(some 39),.mov (.t 38)⟩,
  ⟨(some (39,true)),(some 40),.mov (.t 4)⟩,
  ⟨(some (39,true)),(some 41),.bin .eql (.t 40) (.k (w8 46#8))⟩,
  ⟨(some (39,true)),(some 42),.mov (.t 41)⟩,
  ⟨(some (42,false)),(some 43),.mov (.t 4)⟩,
  ⟨(some (42,false)),(some 44),.bin .eql (.t 43) (.k (w8 95#8))⟩,
  ⟨(some (39,true)),(some 45),.pick (.t 42) (.k (.bool true)) (.t 44)⟩,
  ⟨(some (39,true)),(some 46),.mov (.t 45)⟩,
  ⟨(some (46,false)),(some 47),.mov (.t 4)⟩,
  ⟨(some (46,false)),(some 48),.bin .eql (.t 47) (.k (w8 45#8))⟩,
  ⟨(some (39,true)),(some 49),.pick (.t 46) (.k (.bool true)) (.t 48)⟩,
  ⟨(some (36,false)),(some 50),.pick (.t 39) (.t 49) (.k (.bool false))⟩,
  ⟨none,(some 51),.pick (.t 36) (.k (.bool true)) (.t 50)⟩])
 (.cond (.t 51) (.exit 1)
 .skip))
 (.seq (.region false [⟨none,(some 2),.mov (.k (.bool false))⟩])
 .ret))))
 (.region false [⟨none,(some 17),.mov (.t 3)⟩,
  ⟨none,(some 18),.bin .add (.t 17) (.k (.int .i64 1))⟩,
  ⟨none,(some 3),.mov (.t 18)⟩])))
def zbk2 (x0 x3:DV) (h:List AObj):St:=⟨[x0,.junk,.junk,x3]++js 48,h⟩
def a62:AFn where
 code:=(.seq (.region false [⟨none,(some 2),.mov (.k (.bool false))⟩])
 (.seq (.seq (.region false [⟨none,(some 5),.mov (.t 0)⟩,
  ⟨none,(some 6),.lenStr (.t 5)⟩,
  ⟨none,(some 7),.bin .lss (.t 6) (.k (.int .i64 1))⟩,
  ⟨none,(some 8),.mov (.t 7)⟩,
  ⟨(some (8,false)),(some 9),.mov (.t 0)⟩,
  ⟨(some (8,false)),(some 10),.lenStr (.t 9)⟩,
  ⟨(some (8,false)),(some 11),.bin .gtr (.t 10) (.k (.int .i64 64))⟩,
  ⟨none,(some 12),.pick (.t 8) (.k (.bool true)) (.t 11)⟩])
 (.cond (.t 12) (.seq (.region false [⟨none,(some 2),.mov (.k (.bool false))⟩])
 .ret)
 .skip))
 (.seq (.seq (.region false [⟨none,(some 3),.mov (.k (.int .i64 0))⟩])
 (.block 0 (.loop z1dk)))
 (.seq (.region false [⟨none,(some 2),.mov (.k (.bool true))⟩])
 .ret))))
 ntmps:=52
 res:=[.tmp 2]
theorem z0i3:zsjc P Tryz.f62=some a62:=by kernel_rfl
def a63:AFn where
 code:=(.seq (.region false [⟨none,(some 2),.mov (.k (.bool false))⟩])
 (.seq (.region false [⟨none,(some 3),.mov (.t 0)⟩,
  ⟨none,(some 4),.bin .eql (.t 3) (.k (.str []))⟩,
  ⟨none,(some 5),.mov (.t 4)⟩,
  ⟨(some (5,false)),(some 6),.mov (.t 0)⟩,
  ⟨(some (5,false)),(some 7),.call (.k (.fn (.func 76) [] [])) [(.t 6)]⟩,
  ⟨none,(some 8),.pick (.t 5) (.k (.bool true)) (.t 7)⟩,
  ⟨none,(some 2),.mov (.t 8)⟩])
 .ret))
 ntmps:=9
 res:=[.tmp 2]
theorem z2tu:zsjc P Tryz.f63=some a63:=by kernel_rfl
def a28:AFn where
 code:=(.seq (.region false [⟨none,(some 1),.box (.t 0)⟩,
  ⟨none,(some 2),.mov (.k (.bool false))⟩])
 (.seq (.block 0 (.seq (.region false [⟨none,(some 4),.fld 0 (.t 1)⟩,
  ⟨none,(some 5),.load 1 false (.t 4)⟩,
  ⟨none,(some 6),.call (.k (.fn (.func 60) [] [])) [(.t 5)]⟩,
  ⟨none,(some 7),.bin .eql (.t 6) (.k (.str []))⟩,
  ⟨none,(some 8),.mov (.t 7)⟩,
  ⟨(some (8,false)),(some 9),.fld 1 (.t 1)⟩,
  ⟨(some (8,false)),(some 10),.load 1 false (.t 9)⟩,
  ⟨(some (8,false)),(some 11),.call (.k (.fn (.func 61) [] [])) [(.t 10)]⟩,
  ⟨(some (8,false)),(some 12),.un .not (.t 11)⟩,
  ⟨none,(some 13),.pick (.t 8) (.k (.bool true)) (.t 12)⟩,
  ⟨none,(some 3),.mov (.t 13)⟩])
 (.cond (.t 3) (.seq (.region false [⟨none,(some 2),.mov (.k (.bool false))⟩])
 .ret)
 (.seq (.region false [⟨none,(some 15),.fld 0 (.t 1)⟩,
  ⟨none,(some 16),.load 1 false (.t 15)⟩,
  ⟨none,(some 17),.bin .eql (.t 16) (.k (.int .i64 1))⟩,
  ⟨none,(some 14),.mov (.t 17)⟩])
 (.cond (.t 14) (.seq (.region false [⟨none,(some 18),.fld 2 (.t 1)⟩,
  ⟨none,(some 19),.load 1 false (.t 18)⟩,
  ⟨none,(some 20),.call (.k (.fn (.func 62) [] [])) [(.t 19)]⟩,
  ⟨none,(some 21),.mov (.t 20)⟩,
  ⟨(some (21,true)),(some 22),.fld 4 (.t 1)⟩,
  ⟨(some (21,true)),(some 23),.load 1 false (.t 22)⟩,
  ⟨(some (21,true)),(some 24),.call (.k (.fn (.func 63) [] [])) [(.t 23)]⟩,
  ⟨none,(some 25),.pick (.t 21) (.t 24) (.k (.bool false))⟩,
  ⟨none,(some 26),.mov (.t 25)⟩,
  ⟨(some (26,true)),(some 27),.fld 5 (.t 1)⟩,
  ⟨(some (26,true)),(some 28),.load 1 false (.t 27)⟩,
  ⟨(some (26,true)),(some 29),.call (.k (.fn (.func 63) [] [])) [(.t 28)]⟩,
  ⟨none,(some 30),.pick (.t 26) (.t 29) (.k (.bool false))⟩,
  ⟨none,(some 2),.mov (.t 30)⟩])
 .ret)
 .skip)))))
 (.seq (.region false [⟨none,(some 31),.fld 2 (.t 1)⟩,
  ⟨none,(some 32),.load 1 false (.t 31)⟩,
  ⟨none,(some 33),.bin .eql (.t 32) (.k (.str []))⟩,
  ⟨none,(some 34),.mov (.t 33)⟩,
  ⟨(some (34,true)),(some 35),.fld 4 (.t 1)⟩,
  ⟨(some (34,true)),(some 36),.load 1 false (.t 35)⟩,
  ⟨(some (34,true)),(some 37),.bin .eql (.t 36) (.k (.str []))⟩,
  ⟨none,(some 38),.pick (.t 34) (.t 37) (.k (.bool false))⟩,
  ⟨none,(some 39),.mov (.t 38)⟩,
  ⟨(some (39,true)),(some 40),.fld 5 (.t 1)⟩,
  ⟨(some (39,true)),(some 41),.load 1 false (.t 40)⟩,
  ⟨(some (39,true)),(some 42),.bin .eql (.t 41) (.k (.str []))⟩,
  ⟨none,(some 43),.pick (.t 39) (.t 42) (.k (.bool false))⟩,
  ⟨none,(some 44),.mov (.t 43)⟩,
  ⟨(some (44,true)),(some 45),.fld 3 (.t 1)⟩,
  ⟨(some (44,true)),(some 46),.load 1 false (.t 45)⟩,
  ⟨(some (44,true)),(some 47),.un .not (.t 46)⟩,
  ⟨none,(some 48),.pick (.t 44) (.t 47) (.k (.bool false))⟩,
  ⟨none,(some 2),.mov (.t 48)⟩])
 .ret)))
 ntmps:=49
 res:=[.tmp 2]
theorem z43f:zsjc P Tryz.f28=some a28:=by kernel_rfl
def zfle:ACode :=
 (.seq (.region false [⟨none,(some 9),.bin .lss (.t 8) (.t 7)⟩])
 (.seq (.cond (.t 9) .skip
 (.exit 0))
 (.seq (.block 1 (.seq (.region false [⟨none,(some 10),.mov (.t 8)⟩,
  ⟨none,(some 5),.mov (.t 10)⟩])
 (.seq (.region false [⟨none,(some 11),.mov (.t 1)⟩,
  ⟨none,(some 12),.mov (.t 0)⟩,
  ⟨none,(some 13),.mov (.t 5)⟩,
  ⟨none,(some 14),.idxS 6 (.t 12) (.t 13)⟩,
  ⟨none,(some 15),.load 6 true (.t 14)⟩,
  ⟨none,(some 16),.call (.t 11) [(.t 15)]⟩])
 (.cond (.t 16) (.seq (.region false [⟨none,(some 17),.mov (.t 5)⟩,
  ⟨none,(some 4),.mov (.t 17)⟩])
 .ret)
 .skip))))
 (.region false [⟨none,(some 18),.bin .add (.t 8) (.k (.int .i64 1))⟩,
  ⟨none,(some 8),.mov (.t 18)⟩]))))
def zbq4 (x0 x1 x7 x8:DV) (h:List AObj):St:=⟨[x0,x1]++js 5++[x7,x8]++js 10,h⟩
def a67:AFn where
 code:=(.seq (.region false [⟨none,(some 4),.mov (.k (.int .i64 0))⟩])
 (.seq (.seq (.region false [⟨none,(some 6),.mov (.t 0)⟩,
  ⟨none,(some 7),.len (.t 6)⟩,
  ⟨none,(some 8),.mov (.k (.int .i64 0))⟩])
 (.block 0 (.loop zfle)))
 (.seq (.region false [⟨none,(some 4),.mov (.k (.int .i64 (-1)))⟩])
 .ret)))
 ntmps:=19
 res:=[.tmp 4]
theorem zy8u:zsjc P Tryz.f67=some a67:=by kernel_rfl
def a32:AFn where
 code:=(.seq (.region false [⟨none,(some 4),.mov (.k (.bool false))⟩])
 (.seq (.region false [⟨none,(some 5),.mov (.t 0)⟩,
  ⟨none,(some 6),.mov (.t 1)⟩,
  ⟨none,(some 7),.call (.k (.fn (.func 67) [] [])) [(.t 5),(.t 6)]⟩,
  ⟨none,(some 8),.bin .geq (.t 7) (.k (.int .i64 0))⟩,
  ⟨none,(some 4),.mov (.t 8)⟩])
 .ret))
 ntmps:=9
 res:=[.tmp 4]
theorem zvrg:zsjc P Tryz.f32=some a32:=by kernel_rfl
def a33:AFn where
 code:=(.seq (.region false [⟨none,(some 1),.box (.t 0)⟩,
  ⟨none,(some 2),.mov (.k (.bool false))⟩])
 (.seq (.region false [⟨none,(some 3),.load 6 true (.t 1)⟩,
  ⟨none,(some 4),.call (.k (.fn (.func 28) [] [])) [(.t 3)]⟩,
  ⟨none,(some 5),.un .not (.t 4)⟩,
  ⟨none,(some 2),.mov (.t 5)⟩])
 .ret))
 ntmps:=6
 res:=[.tmp 2]
theorem zojn:zsjc P Tryz.f33=some a33:=by kernel_rfl
def a12:AFn where
 code:=(.seq (.region false [⟨none,(some 2),.mov (.k (.bool false))⟩])
 (.seq (.seq (.region false [⟨none,(some 4),.mov (.t 0)⟩,
  ⟨none,(some 5),.len (.t 4)⟩,
  ⟨none,(some 6),.bin .eql (.t 5) (.k (.int .i64 0))⟩,
  ⟨none,(some 7),.mov (.t 6)⟩,
  ⟨(some (7,false)),(some 8),.mov (.t 0)⟩,
  ⟨(some (7,false)),(some 9),.call (.k (.fn (.func 32) [] [])) [(.t 8),(.k (.fn (.func 33) [] []))]⟩,
  ⟨none,(some 10),.pick (.t 7) (.k (.bool true)) (.t 9)⟩])
 (.cond (.t 10) (.seq (.region false [⟨none,(some 2),.mov (.k (.bool false))⟩])
 .ret)
 .skip))
 (.seq (.region false [⟨none,(some 11),.mov (.t 0)⟩,
  ⟨none,(some 12),.mov (.t 0)⟩,
  ⟨none,(some 13),.len (.t 12)⟩,
  ⟨none,(some 14),.bin .sub (.t 13) (.k (.int .i64 1))⟩,
  ⟨none,(some 15),.idxS 6 (.t 11) (.t 14)⟩,
  ⟨none,(some 16),.load 6 true (.t 15)⟩,
  ⟨none,(some 3),.alloc [(.int .i64 0),(.str []),(.str []),(.bool false),(.str []),(.str [])]⟩,
  ⟨none,none,.store 6 (.t 3) (.t 16)⟩])
 (.seq (.region false [⟨none,(some 17),.fld 0 (.t 3)⟩,
  ⟨none,(some 18),.load 1 false (.t 17)⟩,
  ⟨none,(some 19),.bin .eql (.t 18) (.k (.int .i64 6))⟩,
  ⟨none,(some 20),.mov (.t 19)⟩,
  ⟨(some (20,true)),(some 21),.fld 1 (.t 3)⟩,
  ⟨(some (20,true)),(some 22),.load 1 false (.t 21)⟩,
  ⟨(some (20,true)),(some 23),.bin .eql (.t 22) (.k (.str [42,42]))⟩,
  ⟨none,(some 24),.pick (.t 20) (.t 23) (.k (.bool false))⟩,
  ⟨none,(some 2),.mov (.t 24)⟩])
 .ret))))
 ntmps:=25
 res:=[.tmp 2]
theorem zqkh:zsjc P Tryz.f12=some a12:=by kernel_rfl
end Go.Proofs.YtjknipdiglpnlaaGreatDoor
set_option linter.unusedSimpArgs false
set_option linter.unusedVariables false
namespace Go.Proofs.YtjknipdiglpnlaaGreatDoor
open Go Go.Am
def z5oa:ACode :=
 (.seq (.region false [⟨none,(some 11),.bin .lss (.t 10) (.t 9)⟩])
 (.seq (.cond (.t 11) .skip
 (.exit 0))
 (.seq (.block 1 (.seq (.region false [⟨none,(some 12),.idxS 33 (.t 8) (.t 10)⟩,
  ⟨none,(some 13),.load 33 true (.t 12)⟩,
  ⟨none,(some 7),.alloc [(.str []),(w8 0#8),(w8 0#8),(w8 0#8),(w8 0#8),(w8 0#8),(w8 0#8),(w8 0#8),(w8 0#8),(w8 0#8),(w8 0#8),(w8 0#8),(w8 0#8),(w8 0#8),(w8 0#8),(w8 0#8),(w8 0#8),(w8 0#8),(w8 0#8),(w8 0#8),(w8 0#8),(w8 0#8),(w8 0#8),(w8 0#8),(w8 0#8),(w8 0#8),(w8 0#8),(w8 0#8),(w8 0#8),(w8 0#8),(w8 0#8),(w8 0#8),(w8 0#8)]⟩,
  ⟨none,none,.store 33 (.t 7) (.t 13)⟩])
 (.seq (.region false [⟨none,(some 14),.fld 0 (.t 7)⟩,
  ⟨none,(some 15),.load 1 false (.t 14)⟩,
  ⟨none,(some 16),.mov (.t 1)⟩,
  ⟨none,(some 17),.bin .eql (.t 15) (.t 16)⟩])
 (.cond (.t 17) (.seq (.region false [⟨none,(some 18),.fld 1 (.t 7)⟩,
  ⟨none,(some 19),.load 32 true (.t 18)⟩,
  ⟨none,none,.store 32 (.t 4) (.t 19)⟩,
  ⟨none,(some 5),.mov (.k (.bool true))⟩])
 .ret)
 .skip))))
 (.region false [⟨none,(some 20),.bin .add (.t 10) (.k (.int .i64 1))⟩,
  ⟨none,(some 10),.mov (.t 20)⟩]))))
def zv4w (x1 x4 x8 x9 x10:DV) (h:List AObj):St:=⟨[.junk,x1,.junk,.junk,x4,.junk,.junk,.junk,x8,x9,x10]++js 11,h⟩
def a52:AFn where
 code:=(.seq (.region false [⟨none,(some 4),.alloc (rep 32 (w8 0#8))⟩,
  ⟨none,(some 5),.mov (.k (.bool false))⟩])
 (.seq (.seq (.region false [⟨none,(some 8),.mov (.t 0)⟩,
  ⟨none,(some 9),.len (.t 8)⟩,
  ⟨none,(some 10),.mov (.k (.int .i64 0))⟩])
 (.block 0 (.loop z5oa)))
 (.seq (.region false [⟨none,(some 21),.build (rep 32 (w8 0#8)) []⟩,
  ⟨none,none,.store 32 (.t 4) (.t 21)⟩,
  ⟨none,(some 5),.mov (.k (.bool false))⟩])
 .ret)))
 ntmps:=22
 res:=[.cell 4 32 true,.tmp 5]
theorem zil0:zsjc P Tryz.f52=some a52:=by kernel_rfl
def zzdb:ACode :=
 (.seq (.region false [⟨none,(some 13),.bin .lss (.t 12) (.t 11)⟩])
 (.seq (.cond (.t 13) .skip
 (.exit 0))
 (.seq (.block 1 (.seq (.region false [⟨none,(some 14),.idxS 3 (.t 10) (.t 12)⟩,
  ⟨none,(some 15),.load 3 true (.t 14)⟩,
  ⟨none,(some 6),.alloc [(.str []),.nils,.nils]⟩,
  ⟨none,none,.store 3 (.t 6) (.t 15)⟩])
 (.seq (.seq (.region false [⟨none,(some 16),.fld 0 (.t 6)⟩,
  ⟨none,(some 17),.load 1 false (.t 16)⟩,
  ⟨none,(some 18),.fld 2 (.t 3)⟩,
  ⟨none,(some 19),.load 1 false (.t 18)⟩,
  ⟨none,(some 20),.bin .neq (.t 17) (.t 19)⟩])
 (.cond (.t 20) (.exit 1)
 .skip))
 (.seq (.seq (.region false [⟨none,(some 21),.fld 3 (.t 3)⟩,
  ⟨none,(some 22),.load 1 false (.t 21)⟩])
 (.cond (.t 22) (.seq (.region false [⟨none,(some 23),.fld 2 (.t 6)⟩,
  ⟨none,(some 24),.load 1 false (.t 23)⟩,
  ⟨none,(some 4),.mov (.t 24)⟩])
 .ret)
 .skip))
 (.seq (.region false [⟨none,(some 25),.fld 1 (.t 6)⟩,
  ⟨none,(some 26),.load 1 false (.t 25)⟩,
  ⟨none,(some 4),.mov (.t 26)⟩])
 .ret)))))
 (.region false [⟨none,(some 27),.bin .add (.t 12) (.k (.int .i64 1))⟩,
  ⟨none,(some 12),.mov (.t 27)⟩]))))
def zgz1 (x3 x10 x11 x12:DV) (h:List AObj):St:=⟨[.junk,.junk,.junk,x3]++js 6++[x10,x11,x12]++js 15,h⟩
def a47:AFn where
 code:=(.seq (.region false [⟨none,(some 3),.box (.t 1)⟩,
  ⟨none,(some 4),.mov (.k .nils)⟩])
 (.seq (.seq (.region false [⟨none,(some 7),.mov (.t 0)⟩,
  ⟨none,(some 8),.nilc (.t 7)⟩,
  ⟨none,(some 9),.fld 4 (.t 8)⟩,
  ⟨none,(some 10),.load 1 false (.t 9)⟩,
  ⟨none,(some 11),.len (.t 10)⟩,
  ⟨none,(some 12),.mov (.k (.int .i64 0))⟩])
 (.block 0 (.loop zzdb)))
 (.seq (.region false [⟨none,(some 4),.mov (.k .nils)⟩])
 .ret)))
 ntmps:=28
 res:=[.tmp 4]
theorem zzqr:zsjc P Tryz.f47=some a47:=by kernel_rfl
def a49:AFn where
 code:=(.seq (.region false [⟨none,(some 5),.mov (.k (.bool false))⟩])
 (.seq (.region false [⟨none,(some 14),.fld 4 (.t 1)⟩,
  ⟨none,(some 15),.load 1 false (.t 14)⟩,
  ⟨none,(some 16),.mov (.t 0)⟩,
  ⟨none,(some 17),.call (.k (.fn (.func 50) [] [])) [(.t 15),(.k (.str [])),(.t 16)]⟩,
  ⟨none,(some 13),.mov (.t 17)⟩,
  ⟨none,(some 18),.ext (.t 13) 0⟩,
  ⟨none,(some 19),.ext (.t 13) 1⟩,
  ⟨none,(some 6),.mov (.t 18)⟩,
  ⟨none,(some 7),.mov (.t 19)⟩])
 (.seq (.seq (.region false [⟨none,(some 20),.mov (.t 7)⟩,
  ⟨none,(some 21),.un .not (.t 20)⟩,
  ⟨none,(some 22),.mov (.t 21)⟩,
  ⟨(some (22,false)),(some 23),.fld 1 (.t 1)⟩,
  ⟨(some (22,false)),(some 24),.load 1 false (.t 23)⟩,
  ⟨(some (22,false)),(some 25),.mov (.t 6)⟩,
  ⟨(some (22,false)),(some 26),.call (.k (.fn (.func 51) [] [])) [(.t 24),(.t 25)]⟩,
  ⟨(some (22,false)),(some 27),.un .not (.t 26)⟩,
  ⟨none,(some 28),.pick (.t 22) (.k (.bool true)) (.t 27)⟩])
 (.cond (.t 28) (.seq (.region false [⟨none,(some 5),.mov (.k (.bool false))⟩])
 .ret)
 .skip))
 (.seq (.region false [⟨none,(some 30),.fld 5 (.t 1)⟩,
  ⟨none,(some 31),.load 1 false (.t 30)⟩,
  ⟨none,(some 32),.mov (.t 6)⟩,
  ⟨none,(some 33),.call (.k (.fn (.func 50) [] [])) [(.k (.str [])),(.t 31),(.t 32)]⟩,
  ⟨none,(some 29),.mov (.t 33)⟩,
  ⟨none,(some 34),.ext (.t 29) 0⟩,
  ⟨none,(some 35),.ext (.t 29) 1⟩,
  ⟨none,(some 8),.mov (.t 34)⟩,
  ⟨none,(some 7),.mov (.t 35)⟩])
 (.seq (.seq (.region false [⟨none,(some 36),.mov (.t 7)⟩,
  ⟨none,(some 37),.un .not (.t 36)⟩])
 (.cond (.t 37) (.seq (.region false [⟨none,(some 5),.mov (.k (.bool false))⟩])
 .ret)
 .skip))
 (.seq (.region false [⟨none,(some 39),.load 1 false (.t 2)⟩,
  ⟨none,(some 40),.mov (.t 8)⟩,
  ⟨none,(some 41),.call (.k (.fn (.func 52) [] [])) [(.t 39),(.t 40)]⟩,
  ⟨none,(some 38),.mov (.t 41)⟩,
  ⟨none,(some 42),.ext (.t 38) 0⟩,
  ⟨none,(some 43),.ext (.t 38) 1⟩,
  ⟨none,(some 9),.alloc (rep 32 (w8 0#8))⟩,
  ⟨none,none,.store 32 (.t 9) (.t 42)⟩,
  ⟨none,(some 10),.mov (.t 43)⟩])
 (.seq (.region false [⟨none,(some 45),.load 1 false (.t 3)⟩,
  ⟨none,(some 46),.nilc (.t 45)⟩,
  ⟨none,(some 47),.fld 3 (.t 46)⟩,
  ⟨none,(some 48),.load 1 false (.t 47)⟩,
  ⟨none,(some 49),.mov (.t 0)⟩,
  ⟨none,(some 50),.call (.k (.fn (.func 52) [] [])) [(.t 48),(.t 49)]⟩,
  ⟨none,(some 44),.mov (.t 50)⟩,
  ⟨none,(some 51),.ext (.t 44) 0⟩,
  ⟨none,(some 52),.ext (.t 44) 1⟩,
  ⟨none,(some 11),.alloc (rep 32 (w8 0#8))⟩,
  ⟨none,none,.store 32 (.t 11) (.t 51)⟩,
  ⟨none,(some 12),.mov (.t 52)⟩])
 (.seq (.region false [⟨none,(some 53),.mov (.t 10)⟩,
  ⟨none,(some 54),.mov (.t 53)⟩,
  ⟨(some (54,true)),(some 55),.load 32 true (.t 9)⟩,
  ⟨(some (54,true)),(some 56),.load 32 true (.t 11)⟩,
  ⟨(some (54,true)),(some 57),.eqa false [(32,0)] (.t 55) (.t 56)⟩,
  ⟨none,(some 58),.pick (.t 54) (.t 57) (.k (.bool false))⟩,
  ⟨none,(some 5),.mov (.t 58)⟩])
 .ret))))))))
 ntmps:=59
 res:=[.tmp 5]
theorem zdc4:zsjc P Tryz.f49=some a49:=by kernel_rfl
def a81:AFn where
 code:=(.seq (.region false [⟨none,(some 5),.mov (.k (.bool false))⟩])
 (.seq (.region false [⟨none,(some 11),.load 1 false (.t 1)⟩,
  ⟨none,(some 12),.nilc (.t 11)⟩,
  ⟨none,(some 13),.fld 0 (.t 12)⟩,
  ⟨none,(some 14),.fld 1 (.t 13)⟩,
  ⟨none,(some 15),.load 1 false (.t 14)⟩,
  ⟨none,(some 16),.mov (.t 0)⟩,
  ⟨none,(some 17),.call (.k (.fn (.func 52) [] [])) [(.t 15),(.t 16)]⟩,
  ⟨none,(some 10),.mov (.t 17)⟩,
  ⟨none,(some 18),.ext (.t 10) 0⟩,
  ⟨none,(some 19),.ext (.t 10) 1⟩,
  ⟨none,(some 6),.alloc (rep 32 (w8 0#8))⟩,
  ⟨none,none,.store 32 (.t 6) (.t 18)⟩,
  ⟨none,(some 7),.mov (.t 19)⟩])
 (.seq (.region false [⟨none,(some 21),.load 1 false (.t 1)⟩,
  ⟨none,(some 22),.nilc (.t 21)⟩,
  ⟨none,(some 23),.fld 0 (.t 22)⟩,
  ⟨none,(some 24),.fld 2 (.t 23)⟩,
  ⟨none,(some 25),.load 1 false (.t 24)⟩,
  ⟨none,(some 26),.mov (.t 0)⟩,
  ⟨none,(some 27),.call (.k (.fn (.func 52) [] [])) [(.t 25),(.t 26)]⟩,
  ⟨none,(some 20),.mov (.t 27)⟩,
  ⟨none,(some 28),.ext (.t 20) 0⟩,
  ⟨none,(some 29),.ext (.t 20) 1⟩,
  ⟨none,(some 8),.alloc (rep 32 (w8 0#8))⟩,
  ⟨none,none,.store 32 (.t 8) (.t 28)⟩,
  ⟨none,(some 9),.mov (.t 29)⟩])
 (.seq (.region true [⟨none,(some 30),.load 1 false (.t 2)⟩,
  ⟨none,(some 31),.mov (.t 0)⟩,
  ⟨none,(some 32),.callE (.k (.fn (.func 51) [] [])) [(.t 30),(.t 31)]⟩,
  ⟨none,(some 33),.mov (.t 32)⟩,
  ⟨(some (33,true)),(some 34),.load 1 false (.t 3)⟩,
  ⟨(some (33,true)),(some 35),.mov (.t 7)⟩,
  ⟨(some (33,true)),(some 36),.mov (.t 9)⟩,
  ⟨(some (33,true)),(some 37),.load 32 true (.t 6)⟩,
  ⟨(some (33,true)),(some 38),.load 32 true (.t 8)⟩,
  ⟨(some (33,true)),(some 39),.eqa false [(32,0)] (.t 37) (.t 38)⟩,
  ⟨(some (33,true)),(some 40),.callE (.t 34) [(.t 35),(.t 36),(.t 39)]⟩,
  ⟨none,(some 41),.pick (.t 33) (.t 40) (.k (.bool false))⟩,
  ⟨none,(some 5),.mov (.t 41)⟩])
 .ret))))
 ntmps:=42
 res:=[.tmp 5]
theorem zgev:zsjc P Tryz.f81=some a81:=by kernel_rfl
def a54:AFn where
 code:=(.seq (.region false [⟨none,(some 6),.mov (.k (.bool false))⟩])
 (.seq (.region false [⟨none,(some 7),.mov (.t 0)⟩,
  ⟨none,(some 8),.un .not (.t 7)⟩,
  ⟨none,(some 9),.mov (.t 8)⟩,
  ⟨(some (9,true)),(some 10),.mov (.t 1)⟩,
  ⟨none,(some 11),.pick (.t 9) (.t 10) (.k (.bool false))⟩,
  ⟨none,(some 6),.mov (.t 11)⟩])
 .ret))
 ntmps:=12
 res:=[.tmp 6]
theorem zq4q:zsjc P Tryz.f54=some a54:=by kernel_rfl
def a55:AFn where
 code:=(.seq (.region false [⟨none,(some 6),.mov (.k (.bool false))⟩])
 (.seq (.region false [⟨none,(some 7),.mov (.t 0)⟩,
  ⟨none,(some 8),.mov (.t 7)⟩,
  ⟨(some (8,true)),(some 9),.mov (.t 1)⟩,
  ⟨none,(some 10),.pick (.t 8) (.t 9) (.k (.bool false))⟩,
  ⟨none,(some 11),.mov (.t 10)⟩,
  ⟨(some (11,true)),(some 12),.mov (.t 2)⟩,
  ⟨(some (11,true)),(some 13),.un .not (.t 12)⟩,
  ⟨none,(some 14),.pick (.t 11) (.t 13) (.k (.bool false))⟩,
  ⟨none,(some 6),.mov (.t 14)⟩])
 .ret))
 ntmps:=15
 res:=[.tmp 6]
theorem ze8s:zsjc P Tryz.f55=some a55:=by kernel_rfl
def a56:AFn where
 code:=(.seq (.region false [⟨none,(some 6),.mov (.k (.bool false))⟩])
 (.seq (.region false [⟨none,(some 7),.mov (.t 0)⟩,
  ⟨none,(some 8),.mov (.t 7)⟩,
  ⟨(some (8,true)),(some 9),.mov (.t 1)⟩,
  ⟨(some (8,true)),(some 10),.un .not (.t 9)⟩,
  ⟨none,(some 11),.pick (.t 8) (.t 10) (.k (.bool false))⟩,
  ⟨none,(some 6),.mov (.t 11)⟩])
 .ret))
 ntmps:=12
 res:=[.tmp 6]
theorem zhp1:zsjc P Tryz.f56=some a56:=by kernel_rfl
def a57:AFn where
 code:=(.seq (.region false [⟨none,(some 3),.mov (.k (.bool false))⟩])
 (.seq (.region false [⟨none,(some 4),.fld 1 (.t 1)⟩,
  ⟨none,(some 5),.load 1 false (.t 4)⟩,
  ⟨none,(some 6),.mov (.t 0)⟩,
  ⟨none,(some 7),.call (.k (.fn (.func 51) [] [])) [(.t 5),(.t 6)]⟩,
  ⟨none,(some 3),.mov (.t 7)⟩])
 .ret))
 ntmps:=8
 res:=[.tmp 3]
theorem zfce:zsjc P Tryz.f57=some a57:=by kernel_rfl
def a59:AFn where
 code:=(.seq (.region false [⟨none,(some 3),.mov (.k (.bool false))⟩])
 (.seq (.region false [⟨none,(some 4),.fld 1 (.t 1)⟩,
  ⟨none,(some 5),.load 1 false (.t 4)⟩,
  ⟨none,(some 6),.mov (.t 0)⟩,
  ⟨none,(some 7),.call (.k (.fn (.func 51) [] [])) [(.t 5),(.t 6)]⟩,
  ⟨none,(some 3),.mov (.t 7)⟩])
 .ret))
 ntmps:=8
 res:=[.tmp 3]
theorem zwsz:zsjc P Tryz.f59=some a59:=by kernel_rfl
def zu6t:ACode :=
 (.seq (.region false [⟨none,(some 9),.bin .lss (.t 8) (.t 7)⟩])
 (.seq (.cond (.t 9) .skip
 (.exit 0))
 (.seq (.block 1 (.seq (.region false [⟨none,(some 10),.mov (.t 8)⟩,
  ⟨none,(some 5),.mov (.t 10)⟩])
 (.seq (.region false [⟨none,(some 11),.mov (.t 1)⟩,
  ⟨none,(some 12),.mov (.t 0)⟩,
  ⟨none,(some 13),.mov (.t 5)⟩,
  ⟨none,(some 14),.idxS 1 (.t 12) (.t 13)⟩,
  ⟨none,(some 15),.load 1 false (.t 14)⟩,
  ⟨none,(some 16),.call (.t 11) [(.t 15)]⟩])
 (.cond (.t 16) (.seq (.region false [⟨none,(some 17),.mov (.t 5)⟩,
  ⟨none,(some 4),.mov (.t 17)⟩])
 .ret)
 .skip))))
 (.region false [⟨none,(some 18),.bin .add (.t 8) (.k (.int .i64 1))⟩,
  ⟨none,(some 8),.mov (.t 18)⟩]))))
def z13x (x0 x1 x7 x8:DV) (h:List AObj):St:=⟨[x0,x1]++js 5++[x7,x8]++js 10,h⟩
def a82:AFn where
 code:=(.seq (.region false [⟨none,(some 4),.mov (.k (.int .i64 0))⟩])
 (.seq (.seq (.region false [⟨none,(some 6),.mov (.t 0)⟩,
  ⟨none,(some 7),.len (.t 6)⟩,
  ⟨none,(some 8),.mov (.k (.int .i64 0))⟩])
 (.block 0 (.loop zu6t)))
 (.seq (.region false [⟨none,(some 4),.mov (.k (.int .i64 (-1)))⟩])
 .ret)))
 ntmps:=19
 res:=[.tmp 4]
theorem zftu:zsjc P Tryz.f82=some a82:=by kernel_rfl
def a58:AFn where
 code:=(.seq (.region false [⟨none,(some 4),.mov (.k (.bool false))⟩])
 (.seq (.region false [⟨none,(some 5),.mov (.t 0)⟩,
  ⟨none,(some 6),.mov (.t 1)⟩,
  ⟨none,(some 7),.call (.k (.fn (.func 82) [] [])) [(.t 5),(.t 6)]⟩,
  ⟨none,(some 8),.bin .geq (.t 7) (.k (.int .i64 0))⟩,
  ⟨none,(some 4),.mov (.t 8)⟩])
 .ret))
 ntmps:=9
 res:=[.tmp 4]
theorem zt5h:zsjc P Tryz.f58=some a58:=by kernel_rfl
def zndk:ACode :=
 (.seq (.seq (.region false [⟨none,(some 16),.mov (.t 6)⟩,
  ⟨none,(some 17),.mov (.t 0)⟩,
  ⟨none,(some 18),.len (.t 17)⟩,
  ⟨none,(some 19),.bin .lss (.t 16) (.t 18)⟩])
 (.cond (.t 19) .skip
 (.exit 0)))
 (.seq (.block 1 (.seq (.region false [⟨none,(some 22),.mov (.t 0)⟩,
  ⟨none,(some 23),.mov (.t 6)⟩,
  ⟨none,(some 24),.idxS 1 (.t 22) (.t 23)⟩,
  ⟨none,(some 25),.load 1 false (.t 24)⟩,
  ⟨none,(some 7),.mov (.t 25)⟩])
 (.seq (.region false [⟨none,(some 26),.mov (.t 1)⟩,
  ⟨none,(some 27),.mov (.t 7)⟩,
  ⟨none,(some 28),.call (.t 26) [(.t 27)]⟩,
  ⟨none,(some 29),.un .not (.t 28)⟩])
 (.cond (.t 29) (.seq (.region false [⟨none,(some 30),.mov (.t 0)⟩,
  ⟨none,(some 31),.mov (.t 5)⟩,
  ⟨none,(some 32),.mov (.t 7)⟩,
  ⟨none,(some 33),.idxS 1 (.t 30) (.t 31)⟩,
  ⟨none,none,.store 1 (.t 33) (.t 32)⟩])
 (.region false [⟨none,(some 34),.mov (.t 5)⟩,
  ⟨none,(some 35),.bin .add (.t 34) (.k (.int .i64 1))⟩,
  ⟨none,(some 5),.mov (.t 35)⟩]))
 .skip))))
 (.region false [⟨none,(some 20),.mov (.t 6)⟩,
  ⟨none,(some 21),.bin .add (.t 20) (.k (.int .i64 1))⟩,
  ⟨none,(some 6),.mov (.t 21)⟩])))
def zkbr (x0 x1 x5 x6:DV) (h:List AObj):St:=⟨[x0,x1,.junk,.junk,.junk,x5,x6]++js 35,h⟩
def a74:AFn where
 code:=(.seq (.region false [⟨none,(some 4),.mov (.k .nils)⟩])
 (.seq (.region false [⟨none,(some 8),.mov (.t 0)⟩,
  ⟨none,(some 9),.mov (.t 1)⟩,
  ⟨none,(some 10),.call (.k (.fn (.func 82) [] [])) [(.t 8),(.t 9)]⟩,
  ⟨none,(some 5),.mov (.t 10)⟩])
 (.seq (.seq (.region false [⟨none,(some 11),.mov (.t 5)⟩,
  ⟨none,(some 12),.bin .eql (.t 11) (.k (.int .i64 (-1)))⟩])
 (.cond (.t 12) (.seq (.region false [⟨none,(some 13),.mov (.t 0)⟩,
  ⟨none,(some 4),.mov (.t 13)⟩])
 .ret)
 .skip))
 (.seq (.seq (.region false [⟨none,(some 14),.mov (.t 5)⟩,
  ⟨none,(some 15),.bin .add (.t 14) (.k (.int .i64 1))⟩,
  ⟨none,(some 6),.mov (.t 15)⟩])
 (.block 0 (.loop zndk)))
 (.seq (.region false [⟨none,(some 36),.mov (.t 0)⟩,
  ⟨none,(some 37),.mov (.t 5)⟩,
  ⟨none,(some 38),.slcS 1 (.t 36) (some (.t 37)) none none⟩,
  ⟨none,none,.clr 1 [(.str [])] (.t 38)⟩])
 (.seq (.region false [⟨none,(some 39),.mov (.t 0)⟩,
  ⟨none,(some 40),.mov (.t 5)⟩,
  ⟨none,(some 41),.slcS 1 (.t 39) none (some (.t 40)) none⟩,
  ⟨none,(some 4),.mov (.t 41)⟩])
 .ret))))))
 ntmps:=42
 res:=[.tmp 4]
theorem z26r:zsjc P Tryz.f74=some a74:=by kernel_rfl
def a48:AFn where
 code:=(.region false [⟨none,(some 4),.mov (.t 0)⟩,
  ⟨none,(some 5),.mov (.t 0)⟩,
  ⟨none,(some 6),.nilc (.t 5)⟩,
  ⟨none,(some 7),.fld 5 (.t 6)⟩,
  ⟨none,(some 8),.load 1 false (.t 7)⟩,
  ⟨none,(some 9),.mov (.t 1)⟩,
  ⟨none,(some 10),.call (.k (.fn (.func 74) [] [])) [(.t 8),(.t 9)]⟩,
  ⟨none,(some 11),.nilc (.t 4)⟩,
  ⟨none,(some 12),.fld 5 (.t 11)⟩,
  ⟨none,none,.store 1 (.t 12) (.t 10)⟩])
 ntmps:=13
 res:=[]
theorem zwi2:zsjc P Tryz.f48=some a48:=by kernel_rfl
def a53:AFn where
 code:=(.seq (.region false [⟨none,(some 3),.box (.t 0)⟩,
  ⟨none,(some 4),.box (.t 1)⟩,
  ⟨none,(some 5),.box (.t 2)⟩,
  ⟨none,(some 6),.mov (.k (.str []))⟩,
  ⟨none,(some 7),.mov (.k (.bool false))⟩])
 (.seq (.region false [⟨none,(some 8),.load 1 false (.t 3)⟩,
  ⟨none,(some 9),.mkf (.func 81) [] [(.t 3),(.t 4),(.t 5)]⟩,
  ⟨none,(some 10),.call (.k (.fn (.func 48) [] [])) [(.t 8),(.t 9)]⟩])
 (.seq (.region false [⟨none,(some 6),.mov (.k (.str []))⟩,
  ⟨none,(some 7),.mov (.k (.bool true))⟩])
 .ret)))
 ntmps:=11
 res:=[.tmp 6,.tmp 7]
theorem zq51:zsjc P Tryz.f53=some a53:=by kernel_rfl
def a21:AFn where
 code:=(.seq (.region false [⟨none,(some 2),.box (.t 0)⟩,
  ⟨none,(some 3),.box (.t 1)⟩,
  ⟨none,(some 4),.mov (.k (.str []))⟩,
  ⟨none,(some 5),.mov (.k (.bool false))⟩])
 (.seq (.region false [⟨none,(some 7),.load 1 false (.t 2)⟩,
  ⟨none,(some 8),.load 6 true (.t 3)⟩,
  ⟨none,(some 9),.call (.k (.fn (.func 47) [] [])) [(.t 7),(.t 8)]⟩,
  ⟨none,(some 6),.alloc [.nils]⟩,
  ⟨none,none,.store 1 (.t 6) (.t 9)⟩])
 (.seq (.region false [⟨none,(some 10),.load 1 false (.t 2)⟩,
  ⟨none,(some 11),.mkf (.func 49) [] [(.t 3),(.t 6),(.t 2)]⟩,
  ⟨none,(some 12),.call (.k (.fn (.func 48) [] [])) [(.t 10),(.t 11)]⟩])
 (.seq (.region false [⟨none,(some 4),.mov (.k (.str []))⟩,
  ⟨none,(some 5),.mov (.k (.bool true))⟩])
 .ret))))
 ntmps:=13
 res:=[.tmp 4,.tmp 5]
theorem zyfb:zsjc P Tryz.f21=some a21:=by kernel_rfl
def a22:AFn where
 code:=(.seq (.region false [⟨none,(some 3),.box (.t 1)⟩,
  ⟨none,(some 4),.mov (.k (.str []))⟩,
  ⟨none,(some 5),.mov (.k (.bool false))⟩])
 (.seq (.region false [⟨none,(some 6),.mov (.t 0)⟩,
  ⟨none,(some 7),.fld 1 (.t 3)⟩,
  ⟨none,(some 8),.load 1 false (.t 7)⟩,
  ⟨none,(some 9),.call (.k (.fn (.func 53) [] [])) [(.t 6),(.t 8),(.k (.fn (.func 54) [] []))]⟩,
  ⟨none,(some 10),.ext (.t 9) 0⟩,
  ⟨none,(some 11),.ext (.t 9) 1⟩,
  ⟨none,(some 4),.mov (.t 10)⟩,
  ⟨none,(some 5),.mov (.t 11)⟩])
 .ret))
 ntmps:=12
 res:=[.tmp 4,.tmp 5]
theorem zi98:zsjc P Tryz.f22=some a22:=by kernel_rfl
def a23:AFn where
 code:=(.seq (.region false [⟨none,(some 3),.box (.t 1)⟩,
  ⟨none,(some 4),.mov (.k (.str []))⟩,
  ⟨none,(some 5),.mov (.k (.bool false))⟩])
 (.seq (.region false [⟨none,(some 6),.mov (.t 0)⟩,
  ⟨none,(some 7),.fld 1 (.t 3)⟩,
  ⟨none,(some 8),.load 1 false (.t 7)⟩,
  ⟨none,(some 9),.call (.k (.fn (.func 53) [] [])) [(.t 6),(.t 8),(.k (.fn (.func 55) [] []))]⟩,
  ⟨none,(some 10),.ext (.t 9) 0⟩,
  ⟨none,(some 11),.ext (.t 9) 1⟩,
  ⟨none,(some 4),.mov (.t 10)⟩,
  ⟨none,(some 5),.mov (.t 11)⟩])
 .ret))
 ntmps:=12
 res:=[.tmp 4,.tmp 5]
theorem ztyx:zsjc P Tryz.f23=some a23:=by kernel_rfl
def a24:AFn where
 code:=(.seq (.region false [⟨none,(some 3),.box (.t 1)⟩,
  ⟨none,(some 4),.mov (.k (.str []))⟩,
  ⟨none,(some 5),.mov (.k (.bool false))⟩])
 (.seq (.region false [⟨none,(some 6),.mov (.t 0)⟩,
  ⟨none,(some 7),.fld 1 (.t 3)⟩,
  ⟨none,(some 8),.load 1 false (.t 7)⟩,
  ⟨none,(some 9),.call (.k (.fn (.func 53) [] [])) [(.t 6),(.t 8),(.k (.fn (.func 56) [] []))]⟩,
  ⟨none,(some 10),.ext (.t 9) 0⟩,
  ⟨none,(some 11),.ext (.t 9) 1⟩,
  ⟨none,(some 4),.mov (.t 10)⟩,
  ⟨none,(some 5),.mov (.t 11)⟩])
 .ret))
 ntmps:=12
 res:=[.tmp 4,.tmp 5]
theorem zcoa:zsjc P Tryz.f24=some a24:=by kernel_rfl
def a25:AFn where
 code:=(.seq (.region false [⟨none,(some 3),.box (.t 1)⟩,
  ⟨none,(some 4),.mov (.k (.str []))⟩,
  ⟨none,(some 5),.mov (.k (.bool false))⟩])
 (.seq (.region false [⟨none,(some 6),.mov (.t 0)⟩,
  ⟨none,(some 7),.mkf (.func 57) [] [(.t 3)]⟩,
  ⟨none,(some 8),.call (.k (.fn (.func 48) [] [])) [(.t 6),(.t 7)]⟩])
 (.seq (.region false [⟨none,(some 4),.mov (.k (.str []))⟩,
  ⟨none,(some 5),.mov (.k (.bool true))⟩])
 .ret)))
 ntmps:=9
 res:=[.tmp 4,.tmp 5]
theorem zgum:zsjc P Tryz.f25=some a25:=by kernel_rfl
def zr3y:ACode :=
 (.seq (.region false [⟨none,(some 14),.bin .lss (.t 13) (.t 12)⟩])
 (.seq (.cond (.t 14) .skip
 (.exit 0))
 (.seq (.block 1 (.seq (.region false [⟨none,(some 15),.idxS 1 (.t 11) (.t 13)⟩,
  ⟨none,(some 16),.load 1 false (.t 15)⟩,
  ⟨none,(some 7),.mov (.t 16)⟩])
 (.seq (.region false [⟨none,(some 17),.fld 1 (.t 3)⟩,
  ⟨none,(some 18),.load 1 false (.t 17)⟩,
  ⟨none,(some 19),.mov (.t 7)⟩,
  ⟨none,(some 20),.call (.k (.fn (.func 51) [] [])) [(.t 18),(.t 19)]⟩])
 (.cond (.t 20) (.seq (.region false [⟨none,(some 21),.mov (.t 7)⟩,
  ⟨none,(some 4),.mov (.t 21)⟩,
  ⟨none,(some 5),.mov (.k (.bool false))⟩])
 .ret)
 .skip))))
 (.region false [⟨none,(some 22),.bin .add (.t 13) (.k (.int .i64 1))⟩,
  ⟨none,(some 13),.mov (.t 22)⟩]))))
def zhlx (x3 x11 x12 x13:DV) (h:List AObj):St:=⟨[.junk,.junk,.junk,x3]++js 7++[x11,x12,x13]++js 9,h⟩
def a26:AFn where
 code:=(.seq (.region false [⟨none,(some 3),.box (.t 1)⟩,
  ⟨none,(some 4),.mov (.k (.str []))⟩,
  ⟨none,(some 5),.mov (.k (.bool false))⟩])
 (.seq (.seq (.region false [⟨none,(some 8),.mov (.t 0)⟩,
  ⟨none,(some 9),.nilc (.t 8)⟩,
  ⟨none,(some 10),.fld 5 (.t 9)⟩,
  ⟨none,(some 11),.load 1 false (.t 10)⟩,
  ⟨none,(some 12),.len (.t 11)⟩,
  ⟨none,(some 13),.mov (.k (.int .i64 0))⟩])
 (.block 0 (.loop zr3y)))
 (.seq (.region false [⟨none,(some 4),.mov (.k (.str []))⟩,
  ⟨none,(some 5),.mov (.k (.bool true))⟩])
 .ret)))
 ntmps:=23
 res:=[.tmp 4,.tmp 5]
theorem z9gs:zsjc P Tryz.f26=some a26:=by kernel_rfl
def a27:AFn where
 code:=(.seq (.region false [⟨none,(some 3),.box (.t 1)⟩,
  ⟨none,(some 4),.mov (.k (.str []))⟩,
  ⟨none,(some 5),.mov (.k (.bool false))⟩])
 (.seq (.region false [⟨none,(some 6),.mov (.t 0)⟩,
  ⟨none,(some 7),.nilc (.t 6)⟩,
  ⟨none,(some 8),.fld 5 (.t 7)⟩,
  ⟨none,(some 9),.load 1 false (.t 8)⟩,
  ⟨none,(some 10),.mkf (.func 59) [] [(.t 3)]⟩,
  ⟨none,(some 11),.call (.k (.fn (.func 58) [] [])) [(.t 9),(.t 10)]⟩,
  ⟨none,(some 4),.mov (.k (.str []))⟩,
  ⟨none,(some 5),.mov (.t 11)⟩])
 .ret))
 ntmps:=12
 res:=[.tmp 4,.tmp 5]
theorem z3hx:zsjc P Tryz.f27=some a27:=by kernel_rfl
def z382:ACode :=
 (.seq (.region false [⟨none,(some 35),.bin .lss (.t 34) (.t 33)⟩])
 (.seq (.cond (.t 35) .skip
 (.exit 0))
 (.seq (.block 1 (.seq (.region false [⟨none,(some 36),.idxS 33 (.t 32) (.t 34)⟩,
  ⟨none,(some 37),.load 33 true (.t 36)⟩,
  ⟨none,(some 11),.alloc [(.str []),(w8 0#8),(w8 0#8),(w8 0#8),(w8 0#8),(w8 0#8),(w8 0#8),(w8 0#8),(w8 0#8),(w8 0#8),(w8 0#8),(w8 0#8),(w8 0#8),(w8 0#8),(w8 0#8),(w8 0#8),(w8 0#8),(w8 0#8),(w8 0#8),(w8 0#8),(w8 0#8),(w8 0#8),(w8 0#8),(w8 0#8),(w8 0#8),(w8 0#8),(w8 0#8),(w8 0#8),(w8 0#8),(w8 0#8),(w8 0#8),(w8 0#8),(w8 0#8)]⟩,
  ⟨none,none,.store 33 (.t 11) (.t 37)⟩])
 (.region true [⟨none,(some 38),.mov (.t 9)⟩,
  ⟨none,(some 39),.mov (.t 9)⟩,
  ⟨none,(some 40),.nilc (.t 39)⟩,
  ⟨none,(some 41),.fld 5 (.t 40)⟩,
  ⟨none,(some 42),.load 1 false (.t 41)⟩,
  ⟨none,(some 43),.fld 0 (.t 11)⟩,
  ⟨none,(some 44),.load 1 false (.t 43)⟩,
  ⟨none,(some 45),.bsl 1 1 [(.str [])] [(0,1,(.t 44))]⟩,
  ⟨none,(some 46),.app 1 16 (.t 42) (.t 45)⟩,
  ⟨none,(some 47),.nilc (.t 38)⟩,
  ⟨none,(some 48),.fld 5 (.t 47)⟩,
  ⟨none,none,.store 1 (.t 48) (.t 46)⟩])))
 (.region false [⟨none,(some 49),.bin .add (.t 34) (.k (.int .i64 1))⟩,
  ⟨none,(some 34),.mov (.t 49)⟩]))))
def z9o7 (x0 x8 x9 x32 x33 x34:DV) (h:List AObj):St:=⟨[x0]++js 7++[x8,x9]++js 22++[x32,x33,x34]++js 71,h⟩
def zln2:ACode :=
 (.seq (.region false [⟨none,(some 68),.bin .lss (.t 67) (.t 66)⟩])
 (.seq (.cond (.t 68) .skip
 (.exit 2))
 (.seq (.block 3 (.seq (.region false [⟨none,(some 69),.mov (.t 67)⟩,
  ⟨none,(some 70),.idxS 6 (.t 65) (.t 67)⟩,
  ⟨none,(some 71),.load 6 true (.t 70)⟩,
  ⟨none,(some 14),.alloc [(.int .i64 0),(.str []),(.str []),(.bool false),(.str []),(.str [])]⟩,
  ⟨none,(some 13),.mov (.t 69)⟩,
  ⟨none,none,.store 6 (.t 14) (.t 71)⟩])
 (.seq (.seq (.region false [⟨none,(some 72),.load 6 true (.t 14)⟩,
  ⟨none,(some 73),.call (.k (.fn (.func 28) [] [])) [(.t 72)]⟩,
  ⟨none,(some 74),.un .not (.t 73)⟩])
 (.cond (.t 74) (.seq (.region false [⟨none,(some 75),.mov (.t 9)⟩,
  ⟨none,(some 76),.nilc (.t 75)⟩,
  ⟨none,(some 77),.fld 5 (.t 76)⟩,
  ⟨none,(some 78),.load 1 false (.t 77)⟩,
  ⟨none,(some 79),.mov (.t 13)⟩,
  ⟨none,(some 80),.build [.nils,(.int .i64 0),(.str [])] [(0,1,(.t 78)),(1,1,(.t 79))]⟩,
  ⟨none,none,.store 3 (.t 8) (.t 80)⟩])
 .ret)
 .skip))
 (.seq (.region true [⟨none,(some 82),.mov (.t 12)⟩,
  ⟨none,(some 83),.fld 0 (.t 14)⟩,
  ⟨none,(some 84),.load 1 false (.t 83)⟩,
  ⟨none,(some 85),.idxS 1 (.t 82) (.t 84)⟩,
  ⟨none,(some 86),.load 1 false (.t 85)⟩,
  ⟨none,(some 87),.load 6 true (.t 14)⟩,
  ⟨none,(some 88),.callE (.t 86) [(.t 87)]⟩,
  ⟨none,(some 81),.mov (.t 88)⟩,
  ⟨none,(some 89),.ext (.t 81) 0⟩,
  ⟨none,(some 90),.ext (.t 81) 1⟩,
  ⟨none,(some 15),.mov (.t 89)⟩,
  ⟨none,(some 16),.mov (.t 90)⟩])
 (.seq (.region false [⟨none,(some 91),.mov (.t 16)⟩,
  ⟨none,(some 92),.un .not (.t 91)⟩])
 (.cond (.t 92) (.seq (.region false [⟨none,(some 93),.mov (.t 9)⟩,
  ⟨none,(some 94),.nilc (.t 93)⟩,
  ⟨none,(some 95),.fld 5 (.t 94)⟩,
  ⟨none,(some 96),.load 1 false (.t 95)⟩,
  ⟨none,(some 97),.mov (.t 13)⟩,
  ⟨none,(some 98),.mov (.t 15)⟩,
  ⟨none,(some 99),.build [.nils,(.int .i64 0),(.str [])] [(0,1,(.t 96)),(1,1,(.t 97)),(2,1,(.t 98))]⟩,
  ⟨none,none,.store 3 (.t 8) (.t 99)⟩])
 .ret)
 .skip))))))
 (.region false [⟨none,(some 100),.bin .add (.t 67) (.k (.int .i64 1))⟩,
  ⟨none,(some 67),.mov (.t 100)⟩]))))
def zxy2 (x8 x9 x12 x65 x66 x67:DV) (h:List AObj):St:=⟨js 8++[x8,x9,.junk,.junk,x12]++js 52++[x65,x66,x67]++js 38,h⟩
def a10:AFn where
 code:=(.seq (.region false [⟨none,(some 6),.box (.t 2)⟩,
  ⟨none,(some 8),.alloc [.nils,(.int .i64 0),(.str [])]⟩])
 (.seq (.region false [⟨none,(some 17),.load 3 true (.t 6)⟩,
  ⟨none,(some 18),.fld 1 (.t 6)⟩,
  ⟨none,(some 19),.load 1 false (.t 18)⟩,
  ⟨none,(some 20),.mov (.t 3)⟩,
  ⟨none,(some 21),.build [(.str []),.nils,.nils,.nils,.nils,.nils] [(0,3,(.t 17)),(3,1,(.t 19)),(4,1,(.t 20))]⟩,
  ⟨none,(some 22),.box (.t 21)⟩,
  ⟨none,(some 9),.mov (.t 22)⟩])
 (.seq (.seq (.region false [⟨none,(some 23),.mov (.t 1)⟩])
 (.cond (.t 23) (.region false [⟨none,(some 24),.mov (.t 9)⟩,
  ⟨none,(some 25),.fld 2 (.t 6)⟩,
  ⟨none,(some 26),.load 1 false (.t 25)⟩,
  ⟨none,(some 27),.nilc (.t 24)⟩,
  ⟨none,(some 28),.fld 3 (.t 27)⟩,
  ⟨none,none,.store 1 (.t 28) (.t 26)⟩])
 .skip))
 (.seq (.seq (.region false [⟨none,(some 29),.mov (.t 9)⟩,
  ⟨none,(some 30),.nilc (.t 29)⟩,
  ⟨none,(some 31),.fld 3 (.t 30)⟩,
  ⟨none,(some 32),.load 1 false (.t 31)⟩,
  ⟨none,(some 33),.len (.t 32)⟩,
  ⟨none,(some 34),.mov (.k (.int .i64 0))⟩])
 (.block 0 (.loop z382)))
 (.seq (.region false [⟨none,(some 50),.mov (.t 9)⟩,
  ⟨none,(some 51),.mkf (.func 21) [(.t 50)] []⟩,
  ⟨none,(some 52),.mov (.t 9)⟩,
  ⟨none,(some 53),.mkf (.func 22) [(.t 52)] []⟩,
  ⟨none,(some 54),.mov (.t 9)⟩,
  ⟨none,(some 55),.mkf (.func 23) [(.t 54)] []⟩,
  ⟨none,(some 56),.mov (.t 9)⟩,
  ⟨none,(some 57),.mkf (.func 24) [(.t 56)] []⟩,
  ⟨none,(some 58),.mov (.t 9)⟩,
  ⟨none,(some 59),.mkf (.func 25) [(.t 58)] []⟩,
  ⟨none,(some 60),.mov (.t 9)⟩,
  ⟨none,(some 61),.mkf (.func 26) [(.t 60)] []⟩,
  ⟨none,(some 62),.mov (.t 9)⟩,
  ⟨none,(some 63),.mkf (.func 27) [(.t 62)] []⟩,
  ⟨none,(some 64),.bsl 1 8 [.nilf] [(0,1,(.k .nilf)),(1,1,(.t 51)),(2,1,(.t 53)),(3,1,(.t 55)),(4,1,(.t 57)),(5,1,(.t 59)),(6,1,(.t 61)),(7,1,(.t 63))]⟩,
  ⟨none,(some 12),.mov (.t 64)⟩])
 (.seq (.seq (.region false [⟨none,(some 65),.mov (.t 0)⟩,
  ⟨none,(some 66),.len (.t 65)⟩,
  ⟨none,(some 67),.mov (.k (.int .i64 0))⟩])
 (.block 2 (.loop zln2)))
 (.seq (.region false [⟨none,(some 101),.mov (.t 9)⟩,
  ⟨none,(some 102),.nilc (.t 101)⟩,
  ⟨none,(some 103),.fld 5 (.t 102)⟩,
  ⟨none,(some 104),.load 1 false (.t 103)⟩,
  ⟨none,(some 105),.build [.nils,(.int .i64 0),(.str [])] [(0,1,(.t 104)),(1,1,(.k (.int .i64 (-1))))]⟩,
  ⟨none,none,.store 3 (.t 8) (.t 105)⟩])
 .ret)))))))
 ntmps:=106
 res:=[.cell 8 3 true]
theorem z1ee:zsjc P Tryz.f10=some a10:=by kernel_rfl
end Go.Proofs.YtjknipdiglpnlaaGreatDoor
set_option linter.unusedSimpArgs false
set_option linter.unusedVariables false
namespace Go.Proofs.YtjknipdiglpnlaaGreatDoor
open Go Go.Am
def a14:AFn where
 code:=(.seq (.region false [⟨none,(some 0),.mov (.k (.bool false))⟩])
 (.seq (.region false [⟨none,(some 3),.build [(.int .i64 0),(.str []),(.str []),(.bool false),(.str []),(.str [])] [(0,1,(.k (.int .i64 5))),(1,1,(.k (.str [97])))]⟩,
  ⟨none,(some 4),.build [(.int .i64 0),(.str []),(.str []),(.bool false),(.str []),(.str [])] [(0,1,(.k (.int .i64 6))),(1,1,(.k (.str [42,42])))]⟩,
  ⟨none,(some 5),.bsl 6 2 [(.int .i64 0),(.str []),(.str []),(.bool false),(.str []),(.str [])] [(0,6,(.t 3)),(6,6,(.t 4))]⟩,
  ⟨none,(some 1),.mov (.t 5)⟩])
 (.seq (.region false [⟨none,(some 6),.mov (.t 1)⟩,
  ⟨none,(some 7),.build (rep 32 (w8 0#8)) [(0,1,(.k (w8 1#8)))]⟩,
  ⟨none,(some 8),.build [(.str []),(w8 0#8),(w8 0#8),(w8 0#8),(w8 0#8),(w8 0#8),(w8 0#8),(w8 0#8),(w8 0#8),(w8 0#8),(w8 0#8),(w8 0#8),(w8 0#8),(w8 0#8),(w8 0#8),(w8 0#8),(w8 0#8),(w8 0#8),(w8 0#8),(w8 0#8),(w8 0#8),(w8 0#8),(w8 0#8),(w8 0#8),(w8 0#8),(w8 0#8),(w8 0#8),(w8 0#8),(w8 0#8),(w8 0#8),(w8 0#8),(w8 0#8),(w8 0#8)] [(0,1,(.k (.str [97]))),(1,32,(.t 7))]⟩,
  ⟨none,(some 9),.build (rep 32 (w8 0#8)) [(0,1,(.k (w8 1#8)))]⟩,
  ⟨none,(some 10),.build [(.str []),(w8 0#8),(w8 0#8),(w8 0#8),(w8 0#8),(w8 0#8),(w8 0#8),(w8 0#8),(w8 0#8),(w8 0#8),(w8 0#8),(w8 0#8),(w8 0#8),(w8 0#8),(w8 0#8),(w8 0#8),(w8 0#8),(w8 0#8),(w8 0#8),(w8 0#8),(w8 0#8),(w8 0#8),(w8 0#8),(w8 0#8),(w8 0#8),(w8 0#8),(w8 0#8),(w8 0#8),(w8 0#8),(w8 0#8),(w8 0#8),(w8 0#8),(w8 0#8)] [(0,1,(.k (.str [98]))),(1,32,(.t 9))]⟩,
  ⟨none,(some 11),.bsl 33 2 [(.str []),(w8 0#8),(w8 0#8),(w8 0#8),(w8 0#8),(w8 0#8),(w8 0#8),(w8 0#8),(w8 0#8),(w8 0#8),(w8 0#8),(w8 0#8),(w8 0#8),(w8 0#8),(w8 0#8),(w8 0#8),(w8 0#8),(w8 0#8),(w8 0#8),(w8 0#8),(w8 0#8),(w8 0#8),(w8 0#8),(w8 0#8),(w8 0#8),(w8 0#8),(w8 0#8),(w8 0#8),(w8 0#8),(w8 0#8),(w8 0#8),(w8 0#8),(w8 0#8)] [(0,33,(.t 8)),(33,33,(.t 10))]⟩,
  ⟨none,(some 12),.build [(.str []),.nils,.nils] [(1,1,(.t 11))]⟩,
  ⟨none,(some 13),.call (.k (.fn (.func 10) [] [])) [(.t 6),(.k (.bool false)),(.t 12),(.k .nils)]⟩,
  ⟨none,(some 2),.alloc [.nils,(.int .i64 0),(.str [])]⟩,
  ⟨none,none,.store 3 (.t 2) (.t 13)⟩])
 (.seq (.region false [⟨none,(some 14),.fld 1 (.t 2)⟩,
  ⟨none,(some 15),.load 1 false (.t 14)⟩,
  ⟨none,(some 16),.bin .eql (.t 15) (.k (.int .i64 1))⟩,
  ⟨none,(some 17),.mov (.t 16)⟩,
  ⟨(some (17,true)),(some 18),.fld 2 (.t 2)⟩,
  ⟨(some (17,true)),(some 19),.load 1 false (.t 18)⟩,
  ⟨(some (17,true)),(some 20),.bin .eql (.t 19) (.k (.str [98]))⟩,
  ⟨none,(some 21),.pick (.t 17) (.t 20) (.k (.bool false))⟩,
  ⟨none,(some 22),.mov (.t 21)⟩,
  ⟨(some (22,true)),(some 23),.mov (.t 1)⟩,
  ⟨(some (22,true)),(some 24),.call (.k (.fn (.func 12) [] [])) [(.t 23)]⟩,
  ⟨none,(some 25),.pick (.t 22) (.t 24) (.k (.bool false))⟩,
  ⟨none,(some 0),.mov (.t 25)⟩])
 .ret))))
 ntmps:=26
 res:=[.tmp 0]
theorem zzfl:zsjc P Tryz.f14=some a14:=by kernel_rfl
def a8:AFn where
 code:=(.seq (.region false [⟨none,(some 0),.mov (.k .nils)⟩])
 (.seq (.region false [⟨none,(some 1),.bsl 1 3 [(.str [])] [(0,1,(.k (.str [102,101,116,99,104]))),(1,1,(.k (.str [98,117,105,108,100]))),(2,1,(.k (.str [110,111,110,101])))]⟩,
  ⟨none,(some 0),.mov (.t 1)⟩])
 .ret))
 ntmps:=2
 res:=[.tmp 0]
theorem zwbl:zsjc P Tryz.f8=some a8:=by kernel_rfl
def a9:AFn where
 code:=(.seq (.region false [⟨none,(some 2),.box (.t 0)⟩,
  ⟨none,(some 3),.box (.t 1)⟩,
  ⟨none,(some 4),.mov (.k (.bool false))⟩])
 (.seq (.region false [⟨none,(some 5),.fld 1 (.t 2)⟩,
  ⟨none,(some 6),.load 1 false (.t 5)⟩,
  ⟨none,(some 7),.fld 1 (.t 3)⟩,
  ⟨none,(some 8),.load 1 false (.t 7)⟩,
  ⟨none,(some 9),.bin .eql (.t 6) (.t 8)⟩,
  ⟨none,(some 10),.mov (.t 9)⟩,
  ⟨(some (10,true)),(some 11),.fld 2 (.t 2)⟩,
  ⟨(some (10,true)),(some 12),.load 1 false (.t 11)⟩,
  ⟨(some (10,true)),(some 13),.fld 2 (.t 3)⟩,
  ⟨(some (10,true)),(some 14),.load 1 false (.t 13)⟩,
  ⟨(some (10,true)),(some 15),.bin .eql (.t 12) (.t 14)⟩,
  ⟨none,(some 16),.pick (.t 10) (.t 15) (.k (.bool false))⟩,
  ⟨none,(some 17),.mov (.t 16)⟩,
  ⟨(some (17,true)),(some 18),.fld 0 (.t 2)⟩,
  ⟨(some (17,true)),(some 19),.load 1 false (.t 18)⟩,
  ⟨(some (17,true)),(some 20),.fld 0 (.t 3)⟩,
  ⟨(some (17,true)),(some 21),.load 1 false (.t 20)⟩,
  ⟨(some (17,true)),(some 22),.call (.k (.fn (.func 20) [] [])) [(.t 19),(.t 21)]⟩,
  ⟨none,(some 23),.pick (.t 17) (.t 22) (.k (.bool false))⟩,
  ⟨none,(some 4),.mov (.t 23)⟩])
 .ret))
 ntmps:=24
 res:=[.tmp 4]
theorem z528:zsjc P Tryz.f9=some a9:=by kernel_rfl
def a4L0:ACode :=
 (.seq (.seq (.region false [⟨none,(some 4),.mov (.t 3)⟩,
  ⟨none,(some 5),.mov (.t 0)⟩,
  ⟨none,(some 6),.len (.t 5)⟩,
  ⟨none,(some 7),.bin .lss (.t 4) (.t 6)⟩])
 (.cond (.t 7) .skip
 (.exit 0)))
 (.seq (.block 1 (.seq (.region false [⟨none,(some 10),.mov (.t 0)⟩,
  ⟨none,(some 11),.mov (.t 3)⟩,
  ⟨none,(some 12),.idxS 6 (.t 10) (.t 11)⟩,
  ⟨none,(some 13),.fld 1 (.t 12)⟩,
  ⟨none,(some 14),.load 1 false (.t 13)⟩,
  ⟨none,(some 15),.lenStr (.t 14)⟩,
  ⟨none,(some 16),.bin .gtr (.t 15) (.k (.int .i64 300))⟩,
  ⟨none,(some 17),.mov (.t 16)⟩,
  ⟨(some (17,false)),(some 18),.mov (.t 0)⟩,
  ⟨(some (17,false)),(some 19),.mov (.t 3)⟩,
  ⟨(some (17,false)),(some 20),.idxS 6 (.t 18) (.t 19)⟩,
  ⟨(some (17,false)),(some 21),.fld 4 (.t 20)⟩,
  ⟨(some (17,false)),(some 22),.load 1 false (.t 21)⟩,
  ⟨(some (17,false)),(some 23),.lenStr (.t 22)⟩,
  ⟨(some (17,false)),(some 24),.bin .gtr (.t 23) (.k (.int .i64 300))⟩,
  ⟨none,(some 25),.pick (.t 17) (.k (.bool true)) (.t 24)⟩,
  ⟨none,(some 26),.mov (.t 25)⟩,
  ⟨(some (26,false)),(some 27),.mov (.t 0)⟩,
  ⟨(some (26,false)),(some 28),.mov (.t 3)⟩,
  ⟨(some (26,false)),(some 29),.idxS 6 (.t 27) (.t 28)⟩,
  ⟨(some (26,false)),(some 30),.fld 5 (.t 29)⟩,
  ⟨(some (26,false)),(some 31),.load 1 false (.t 30)⟩,
  ⟨(some (26,false)),(some 32),.lenStr (.t 31)⟩,
  ⟨(some (26,false)),(some 33),.bin .gtr (.t 32) (.k (.int .i64 300))⟩,
  ⟨none,(some 34),.pick (.t 26) (.k (.bool true)) (.t 33)⟩,
  ⟨none,(some 35),.mov (.t 34)⟩,
  ⟨(some (35,false)),(some 36),.mov (.t 0)⟩,
  ⟨(some (35,false)),(some 37),.mov (.t 3)⟩,
  ⟨(some (35,false)),(some 38),.idxS 6 (.t 36) (.t 37)⟩,
  ⟨(some (35,false)),(some 39),.fld 2 (.t 38)⟩,
  ⟨(some (35,false)),(some 40),.load 1 false (.t 39)⟩,
  ⟨(some (35,false)),(some 41),.lenStr (.t 40)⟩,
  ⟨(some (35,false)),(some 42),.bin .gtr (.t 41) (.k (.int .i64 300))⟩,
  ⟨none,(some 43),.pick (.t 35) (.k (.bool true)) (.t 42)⟩])
 (.cond (.t 43) (.seq (.region false [⟨none,(some 2),.mov (.k (.bool false))⟩])
 .ret)
 .skip)))
 (.region false [⟨none,(some 8),.mov (.t 3)⟩,
  ⟨none,(some 9),.bin .add (.t 8) (.k (.int .i64 1))⟩,
  ⟨none,(some 3),.mov (.t 9)⟩])))
def a4S0 (x0 x3:DV) (h:List AObj):St:=⟨[x0,.junk,.junk,x3]++js 43,h⟩
def a4:AFn where
 code:=(.seq (.region false [⟨none,(some 2),.mov (.k (.bool false))⟩])
 (.seq (.seq (.region false [⟨none,(some 3),.mov (.k (.int .i64 0))⟩])
 (.block 0 (.loop a4L0)))
 (.seq (.region false [⟨none,(some 44),.mov (.t 0)⟩,
  ⟨none,(some 45),.len (.t 44)⟩,
  ⟨none,(some 46),.bin .leq (.t 45) (.k (.int .i64 40))⟩,
  ⟨none,(some 2),.mov (.t 46)⟩])
 .ret)))
 ntmps:=47
 res:=[.tmp 2]
theorem zn8d:zsjc P Tryz.f4=some a4:=by kernel_rfl
def zy4c:ACode :=
 (.seq (.seq (.region false [⟨none,(some 11),.mov (.t 5)⟩,
  ⟨none,(some 12),.mov (.t 0)⟩,
  ⟨none,(some 13),.len (.t 12)⟩,
  ⟨none,(some 14),.bin .lss (.t 11) (.t 13)⟩])
 (.cond (.t 14) .skip
 (.exit 0)))
 (.seq (.block 1 (.seq (.region true [⟨none,(some 17),.mov (.t 0)⟩,
  ⟨none,(some 18),.mov (.t 5)⟩,
  ⟨none,(some 19),.idxS 1 (.t 17) (.t 18)⟩,
  ⟨none,(some 20),.load 1 false (.t 19)⟩,
  ⟨none,(some 21),.mov (.t 1)⟩,
  ⟨none,(some 22),.mov (.t 5)⟩,
  ⟨none,(some 23),.idxS 1 (.t 21) (.t 22)⟩,
  ⟨none,(some 24),.load 1 false (.t 23)⟩,
  ⟨none,(some 25),.bin .neq (.t 20) (.t 24)⟩])
 (.cond (.t 25) (.seq (.region false [⟨none,(some 4),.mov (.k (.bool false))⟩])
 .ret)
 .skip)))
 (.region false [⟨none,(some 15),.mov (.t 5)⟩,
  ⟨none,(some 16),.bin .add (.t 15) (.k (.int .i64 1))⟩,
  ⟨none,(some 5),.mov (.t 16)⟩])))
def zfgh (x0 x1 x5:DV) (h:List AObj):St:=⟨[x0,x1,.junk,.junk,.junk,x5]++js 20,h⟩
def a20:AFn where
 code:=(.seq (.region false [⟨none,(some 4),.mov (.k (.bool false))⟩])
 (.seq (.seq (.region false [⟨none,(some 6),.mov (.t 0)⟩,
  ⟨none,(some 7),.len (.t 6)⟩,
  ⟨none,(some 8),.mov (.t 1)⟩,
  ⟨none,(some 9),.len (.t 8)⟩,
  ⟨none,(some 10),.bin .neq (.t 7) (.t 9)⟩])
 (.cond (.t 10) (.seq (.region false [⟨none,(some 4),.mov (.k (.bool false))⟩])
 .ret)
 .skip))
 (.seq (.seq (.region false [⟨none,(some 5),.mov (.k (.int .i64 0))⟩])
 (.block 0 (.loop zy4c)))
 (.seq (.region false [⟨none,(some 4),.mov (.k (.bool true))⟩])
 .ret))))
 ntmps:=26
 res:=[.tmp 4]
theorem zfgm:zsjc P Tryz.f20=some a20:=by kernel_rfl
end Go.Proofs.YtjknipdiglpnlaaGreatDoor
