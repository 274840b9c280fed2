/-
  15 texts of mine in one.
-/
import Derived.Test.YtjknipdiglpnlaaGreatDoorCb4aa5538
import Derived.Test.YtjknipdiglpnlaaGreatDoorC7567e9ca
import Derived.Test.YtjknipdiglpnlaaGreatDoorC4caf267d
import Derived.Test.YtjknipdiglpnlaaGreatDoorC713d6067
import Derived.Test.YtjknipdiglpnlaaGreatDoorCf8ffbf03
set_option maxRecDepth 20000
set_option maxHeartbeats 4000000
open List renaming map_take → zA, map_drop → zB, map_set → zC, map_append → zD, drop_one → zE
set_option linter.unusedSimpArgs false
set_option linter.unusedVariables false
namespace Go.Proofs.YtjknipdiglpnlaaGreatDoor
open Go Go.Am
structure Y49 where
 l:List Pt
 i:Nat
def S49 (p:List UInt8) (x:Y49):St:=ztza (.str p) (ownD 0 2 .nils x.l.length (z6j5 x.l)) (.int .i64 x.i) (ownH (z6j5 x.l))
def m49 (p:List UInt8) (x:Y49):Nat:=p.length-x.i
def R49 (p:List UInt8) (x:Y49):Prop:=R15 p ⟨x.l,x.i⟩∧noZ (p.take x.i)=true
theorem zqwg {p:List UInt8} {i:Nat} (h:i<p.length) (hz:p[i]=0):noZ p=false:=by
 rw [noZ,List.all_eq_false]
 exact ⟨p[i],List.getElem_mem h,by simp [hz]⟩
theorem zhap {p:List UInt8} (h:noZ p=false):zfn1 p=none:=by rw [zfn1,if_neg (by rw [h]; simp)]
theorem zaig {p:List UInt8} {i:Nat} (h:i+1<p.length) (h0:noZ (p.take i)=true) (h1:p[i]≠0) (h2:p[i+1]≠0):noZ (p.take (i+2))=true:=by
 rw [z8tt h,z8tt (by omega),h0]; simp [h1,h2]
theorem zuqg {p:List UInt8} {i:Nat} (h:i<p.length) (h0:noZ (p.take i)=true) (h1:p[i]≠0):noZ (p.take (i+1))=true:=by
 rw [z8tt h,h0]; simp [h1]
theorem znf3 (p:List UInt8):Runs tbl0 a83 [.str p] (z8r4 p):=by
 refine ⟨?_⟩
 by_cases h1:p=[]
 ·subst h1
  simp (disch:=first|omega|simp<;>omega|fail) [-zA,-zB,-zC,-zD,-zE,a83,z8r4,show zfn1 []=none from rfl,zoby]
 by_cases h2:200<p.length
 ·have h2':(200:Int)<p.length:=by omega
  have hp:zfn1 p=none:=by rw [zfn1,if_neg (by omega)]
  simp (disch:=first|omega|simp<;>omega|fail) [-zA,-zB,-zC,-zD,-zE,a83,h1,h2',z8r4,hp,zoby]
 have h2':¬ (200:Int)<p.length:=by omega
 have h3:1≤p.length:=by have:=List.length_pos_iff.2 h1; omega
 simp (disch:=first|omega|simp<;>omega|fail) [-zA,-zB,-zC,-zD,-zE,a83,h1,h2']
 refine zlm5 (S49 p) (m49 p) (R49 p) ⟨[],0⟩ (z515 (by simp (disch:=first|omega|simp<;>omega|fail) [-zA,-zB,-zC,-zD,-zE,ownD,z6j5]) (by simp (disch:=first|omega|simp<;>omega|fail) [-zA,-zB,-zC,-zD,-zE,ownH,z6j5])) ⟨⟨by simp,by simp,by simp⟩,rfl⟩ (fun x hx => ?_)
 obtain ⟨l,i⟩:=x
 obtain ⟨hx,hnz⟩:=hx
 have hx':=hx
 obtain ⟨hi,hl,hpr⟩:=hx'
 simp only at hi hl hpr hnz
 have hlen:=z4u6 l
 simp (disch:=first|omega|simp<;>omega|fail) [-zA,-zB,-zC,-zD,-zE,zubw,ztza,S49]
 by_cases h:i<p.length
 ·have h4:(i:Int)<p.length:=by omega
  have hd:p.drop i=p[i]::p.drop (i+1):=List.drop_eq_getElem_cons h
  have e12:(i:Int)+1+1=i+2:=by omega
  by_cases c0:p[i]=0
  ·have b0:p[i].toBitVec=0#8:=zw4m.2 c0
   have hp:=zhap (zqwg h c0)
   simp (disch:=first|omega|simp<;>omega|fail) [-zA,-zB,-zC,-zD,-zE,h4,h,b0,z8r4,hp,zoby]
  have b0:¬ p[i].toBitVec=0#8:=fun e=>c0 (zw4m.1 e)
  have b0q:(p[i].toBitVec == 0#8)=false:=by simp [b0]
  by_cases c1:p[i]=92
  ·have b1:p[i].toBitVec=92#8:=zw4m.2 c1
   by_cases h5:i+1=p.length
   ·have h5':(i:Int)+1=p.length:=by omega
    have hq:prs p=none:=by rw [hpr,hd,c1,List.drop_eq_nil_of_le (by omega),zt8b]; rfl
    have hp:zfn1 p=none:=by unfold zfn1; split<;>first|exact hq|rfl
    simp (disch:=first|omega|simp<;>omega|fail) [-zA,-zB,-zC,-zD,-zE,h4,h,b1,h5',z8r4,hp,zoby]
   ·have h5':¬ (i:Int)+1=p.length:=by omega
    have h6:i+1<p.length:=by omega
    by_cases c5:p[i+1]=0
    ·have b5:p[i+1].toBitVec=0#8:=zw4m.2 c5
     have hp:=zhap (zqwg h6 c5)
     simp (disch:=first|omega|simp<;>omega|fail) [-zA,-zB,-zC,-zD,-zE,h4,h,b1,h5',h6,b5,z8r4,hp,zoby]
    have b5:¬ p[i+1].toBitVec=0#8:=fun e=>c5 (zw4m.1 e)
    have b5q:(p[i+1].toBitVec == 0#8)=false:=by simp [b5]
    have hd2:p.drop (i+1)=p[i+1]::p.drop (i+2):=List.drop_eq_getElem_cons h6
    have hs:=zq8c (n:=i+2) (y := .one p[i+1].toBitVec) hx (by simp) (by omega) (by show prs (p.drop i)=_; rw [hd,hd2,c1,z32i])
    simp (disch:=first|omega|simp<;>omega|fail) [-zA,-zB,-zC,-zD,-zE,h4,h,b1,h5',h6,b5,b5q,hlen,e12]
    exact ⟨⟨l++[.one p[i+1].toBitVec],i+2⟩,z515 (by simp (disch:=first|omega|simp<;>omega|fail) [-zA,-zB,-zC,-zD,-zE,e12,zip6,ptC,Pt.kind,Pt.chr]) (by simp (disch:=first|omega|simp<;>omega|fail) [-zA,-zB,-zC,-zD,-zE,zip6,ptC,Pt.kind,Pt.chr]),by simp [m49]; omega,hs,zaig h6 hnz c0 c5⟩
  ·have b1:¬ p[i].toBitVec=92#8:=fun e=>c1 (zw4m.1 e)
   have b1q:(p[i].toBitVec == 92#8)=false:=by simp [b1]
   by_cases c3:p[i]=42
   ·have b3:p[i].toBitVec=42#8:=zw4m.2 c3
    by_cases h6:i+1<p.length
    ·have h6':(i:Int)+1<p.length:=by omega
     have hd2:p.drop (i+1)=p[i+1]::p.drop (i+2):=List.drop_eq_getElem_cons h6
     by_cases c4:p[i+1]=42
     ·have b4:p[i+1].toBitVec=42#8:=zw4m.2 c4
      have hs:=zq8c (n:=i+2) (y := .whole) hx (by simp) (by omega) (by show prs (p.drop i)=_; rw [hd,hd2,c3,c4,zqqt])
      simp (disch:=first|omega|simp<;>omega|fail) [-zA,-zB,-zC,-zD,-zE,z9ia,h4,h,b0,b0q,b1,b1q,b3,h6,h6',b4,hlen,e12]
      exact ⟨⟨l++[.whole],i+2⟩,z515 (by simp (disch:=first|omega|simp<;>omega|fail) [-zA,-zB,-zC,-zD,-zE,e12,zip6,ptC,Pt.kind,Pt.chr]) (by simp (disch:=first|omega|simp<;>omega|fail) [-zA,-zB,-zC,-zD,-zE,zip6,ptC,Pt.kind,Pt.chr]),by simp [m49]; omega,hs,zaig h6 hnz c0 (by rw [c4]; decide)⟩
     ·have b4:¬ p[i+1].toBitVec=42#8:=fun e=>c4 (zw4m.1 e)
      have b4q:(p[i+1].toBitVec == 42#8)=false:=by simp [b4]
      have hs:=zq8c (n:=i+1) (y := .some) hx (by simp) (by omega) (by show prs (p.drop i)=_; rw [hd,hd2,c3,zpjv c4])
      simp (disch:=first|omega|simp<;>omega|fail) [-zA,-zB,-zC,-zD,-zE,z9ia,h4,h,b0,b0q,b1,b1q,b3,h6,h6',b4,b4q,hlen]
      exact ⟨⟨l++[.some],i+1⟩,z515 (by simp (disch:=first|omega|simp<;>omega|fail) [-zA,-zB,-zC,-zD,-zE,zip6,ptC,Pt.kind,Pt.chr]) (by simp (disch:=first|omega|simp<;>omega|fail) [-zA,-zB,-zC,-zD,-zE,zip6,ptC,Pt.kind,Pt.chr]),by simp [m49]; omega,hs,zuqg h hnz c0⟩
    ·have h6':¬ (i:Int)+1<p.length:=by omega
     have hs:=zq8c (n:=i+1) (y := .some) hx (by simp) (by omega) (by show prs (p.drop i)=_; rw [hd,c3,List.drop_eq_nil_of_le (by omega),zkwm]; rfl)
     simp (disch:=first|omega|simp<;>omega|fail) [-zA,-zB,-zC,-zD,-zE,z9ia,h4,h,b0,b0q,b1,b1q,b3,h6',hlen]
     exact ⟨⟨l++[.some],i+1⟩,z515 (by simp (disch:=first|omega|simp<;>omega|fail) [-zA,-zB,-zC,-zD,-zE,zip6,ptC,Pt.kind,Pt.chr]) (by simp (disch:=first|omega|simp<;>omega|fail) [-zA,-zB,-zC,-zD,-zE,zip6,ptC,Pt.kind,Pt.chr]),by simp [m49]; omega,hs,zuqg h hnz c0⟩
   ·have b3:¬ p[i].toBitVec=42#8:=fun e=>c3 (zw4m.1 e)
    have b3q:(p[i].toBitVec == 42#8)=false:=by simp [b3]
    by_cases c2:p[i]=63
    ·have b2:p[i].toBitVec=63#8:=zw4m.2 c2
     have hs:=zq8c (n:=i+1) (y := .dot) hx (by simp) (by omega) (by show prs (p.drop i)=_; rw [hd,c2,z28c])
     simp (disch:=first|omega|simp<;>omega|fail) [-zA,-zB,-zC,-zD,-zE,z9ia,h4,h,b0,b0q,b1,b1q,b2,b3,b3q,hlen]
     exact ⟨⟨l++[.dot],i+1⟩,z515 (by simp (disch:=first|omega|simp<;>omega|fail) [-zA,-zB,-zC,-zD,-zE,zip6,ptC,Pt.kind,Pt.chr]) (by simp (disch:=first|omega|simp<;>omega|fail) [-zA,-zB,-zC,-zD,-zE,zip6,ptC,Pt.kind,Pt.chr]),by simp [m49]; omega,hs,zuqg h hnz c0⟩
    ·have b2:¬ p[i].toBitVec=63#8:=fun e=>c2 (zw4m.1 e)
     have b2q:(p[i].toBitVec == 63#8)=false:=by simp [b2]
     have hs:=zq8c (n:=i+1) (y := .one p[i].toBitVec) hx (by simp) (by omega) (by show prs (p.drop i)=_; rw [hd,zmw4 c1 c3 c2])
     simp (disch:=first|omega|simp<;>omega|fail) [-zA,-zB,-zC,-zD,-zE,z9ia,h4,h,b0,b0q,b1,b1q,b2,b2q,b3,b3q,hlen]
     exact ⟨⟨l++[.one p[i].toBitVec],i+1⟩,z515 (by simp (disch:=first|omega|simp<;>omega|fail) [-zA,-zB,-zC,-zD,-zE,zip6,ptC,Pt.kind,Pt.chr]) (by simp (disch:=first|omega|simp<;>omega|fail) [-zA,-zB,-zC,-zD,-zE,zip6,ptC,Pt.kind,Pt.chr]),by simp [m49]; omega,hs,zuqg h hnz c0⟩
 ·have h4:¬ (i:Int)<p.length:=by omega
  obtain rfl:i=p.length:=by omega
  rw [List.drop_length] at hpr
  rw [List.take_length] at hnz
  have hq:prs p = .some l:=by rw [hpr]; simp [prs]
  have hp:zfn1 p = .some l:=by rw [zfn1,if_pos ⟨by omega,by omega,hnz⟩,hq]
  have hne:=zfht h1 hq
  have ht:(z6j5 l).take (l.length*2)=z6j5 l:=List.take_of_length_le (by omega)
  simp (disch:=first|omega|simp<;>omega|fail) [-zA,-zB,-zC,-zD,-zE,h4,z8l3 (zbvb hne),zpgk (zbvb hne),z8r4,hp,zoby,ht,zyoh,hlen]
def T75:Tbl:=addT 83 (.pure (cS z8r4)) tbl0
theorem zuzw:T75 83 = .pure (cS z8r4):=by simp [T75]
theorem zkpo:T75.Sound P:=z0rp (zzn8 fun p=>zljw mix zr5o Tryz.func83 z6eh (znf3 p)) zr5o
theorem zkeg (p:List UInt8):Runs T75 a68 [.str p] (z01o p):=by
 refine ⟨?_⟩
 cases h:zfn1 p with
 | none=>simp (disch:=first|omega|simp<;>omega|fail) [-zA,-zB,-zC,-zD,-zE,a68,zuzw,zk5k,z8r4,h,zoby,z01o]
 | some l=>simp (disch:=first|omega|simp<;>omega|fail) [-zA,-zB,-zC,-zD,-zE,a68,zuzw,zk5k,z8r4,h,zoby,z01o]
end Go.Proofs.YtjknipdiglpnlaaGreatDoor
set_option linter.unusedSimpArgs false
set_option linter.unusedVariables false
set_option maxRecDepth 8000
namespace Go.Proofs.YtjknipdiglpnlaaGreatDoor
open Go Go.Am
def zajr:List Ent→Str→Option Dg
 | [],_=>none
 | e::r,p=>if e.path=p then some e.dg else zajr r p
theorem zc1r {p:Str} : ∀ {l:List Ent} {i:Nat} (hi:i<l.length),l[i].path=p→(∀ j (h:j<l.length),j<i→l[j].path≠p)→zajr l p=some l[i].dg
 | a::l,0,_,h,_=>by simp only [List.getElem_cons_zero] at h; simp [zajr,h]
 | a::l,i+1,hi,h,h2=>by
  have ha:a.path≠p:=h2 0 (by simp) (by omega)
  have ih:=zc1r (l:=l) (i:=i) (by simpa using hi) (by simpa using h) fun j hj hji=>by
   have:=h2 (j+1) (by simpa using hj) (by omega)
   simpa using this
  simp [zajr,ha,ih]
theorem zkqa {p:Str} : ∀ {l:List Ent},(∀ a ∈ l,a.path≠p)→zajr l p=none
 | [],_=>rfl
 | a::l,h=>by simp [zajr,h a (by simp),zkqa (l:=l) fun b hb=>h b (by simp [hb])]
def dgO (o:Option Dg):Dg:=o.getD dg0
def zqrh (o:Option Dg):DV := .tup [.agg (dgC (dgO o)),.bool o.isSome]
def zb8b (x:Sl Ent) (p:Str) (i:Nat):St:=zv4w (.str p) (.mp 0 32 0) (x.dv 33 enC) (.int .i64 x.l.length) (.int .i64 i) [.cells (dgC dg0)]
theorem z3xx (x:Sl Ent) (p:Str):Runs tbl0 a52 [x.dv 33 enC,.str p] (zqrh (zajr x.l p)):=by
 refine ⟨?_⟩
 have hb:=x.b
 have hbd : ∀ k,zvnk (dgC dg0) k=zvnk (rep 32 (w8 0#8)) k:=fun k=>by rw [z4hl]
 have hb0:zvnk (dgC dg0) []=some (.agg (dgC dg0)):=rfl
 simp (disch:=first|omega|simp<;>omega|fail) [-zA,-zB,-zC,-zD,-zE,a52,z4hl]
 refine zlm5 (zb8b x p) (fun i=>x.l.length-i) (fun i=>i≤x.l.length ∧ ∀ j (h:j<x.l.length),j<i→x.l[j].path≠p) 0 (z515 (by simp (disch:=first|omega|simp<;>omega|fail) [-zA,-zB,-zC,-zD,-zE,zb8b,zv4w]) (by simp (disch:=first|omega|simp<;>omega|fail) [-zA,-zB,-zC,-zD,-zE,zb8b,zv4w,z4hl])) ⟨by omega,fun j _ hj=>by omega⟩ (fun i hi => ?_)
 obtain ⟨q1,q2⟩:=hi
 simp only [zb8b]
 by_cases q:i<x.l.length
 ·have g':(i:Int)<x.l.length:=by omega
  have hy : ∀ H,zpsc H 33 (x.dv 33 enC) i=some (.ref (enC x.l[i])):=fun H=>zalo zuso q
  have hinv:x.l[i].path≠p → ∀ j (h:j<x.l.length),j<i+1→x.l[j].path≠p:=fun e j hj hji=>by
   by_cases ej:j=i
   ·subst ej; exact e
   ·exact q2 j hj (by omega)
  have hr:x.l[i].path=p→zajr x.l p=some x.l[i].dg:=fun e=>zc1r q e q2
  obtain ⟨u,hu⟩ : ∃ u,x.l[i]=u:=⟨_,rfl⟩
  rw [hu] at hy hinv hr
  by_cases e:u.path=p
  ·have hr:=hr e
   simp (disch:=first|omega|simp<;>omega|fail) [-zA,-zB,-zC,-zD,-zE,z5oa,zv4w,q,g',hy,e,hr,zqrh,dgO]
  ·have hinv:=hinv e
   simp (disch:=first|omega|simp<;>omega|fail) [-zA,-zB,-zC,-zD,-zE,z5oa,zv4w,q,g',hy,e]
   exact ⟨i+1,zju2 (tail:=[.cells (enC u)]) (by simp (disch:=first|omega|simp<;>omega|fail) [-zA,-zB,-zC,-zD,-zE,zb8b,zv4w]) (by simp (disch:=first|omega|simp<;>omega|fail) [-zA,-zB,-zC,-zD,-zE,zb8b,zv4w]) (by simp (disch:=first|omega|simp<;>omega|fail) [-zA,-zB,-zC,-zD,-zE]) (by simp (disch:=first|omega|simp<;>omega|fail) [-zA,-zB,-zC,-zD,-zE,zb8b,zv4w,z1r6,Am.below,zb48,js]) (by simp only [zlf2,zbw6,Bool.and_self]),by omega,by omega,hinv⟩
 ·have g':¬ (i:Int)<x.l.length:=by omega
  have hr:zajr x.l p=none:=zkqa fun a ha=>by
   obtain ⟨j,hj,e⟩:=List.getElem_of_mem ha
   have:=q2 j hj (by omega)
   rw [e] at this; exact this
  simp (disch:=first|omega|simp<;>omega|fail) [-zA,-zB,-zC,-zD,-zE,z5oa,zv4w,q,g',hr,z4hl,hb0,zqrh,dgO]
noncomputable def cLoo:List DV→Option DV:=con (fun _=>True) (fun a:Sl Ent × Str=>[a.1.dv 33 enC,.str a.2]) (fun a=>zqrh (zajr a.1.l a.2))
theorem zfl1 {x:Sl Ent} {p:Str}:cLoo [x.dv 33 enC,.str p]=some (zqrh (zajr x.l p)) :=
 zsn4 (f:=fun a:Sl Ent × Str=>[a.1.dv 33 enC,.str a.2]) (g:=fun a=>zqrh (zajr a.1.l a.2)) (by
  rintro ⟨a,b⟩ ⟨c,d⟩ e
  simp only [List.cons.injEq,DV.str.injEq,and_true] at e
  rw [zdvs e.1,e.2]) (x,p)
theorem z9xq:(Con.pure cLoo).Sound P 52:=z2au fun a _=>zljw mix zr5o Tryz.func52 zil0 (z3xx a.1 a.2)
def z46z (p s:List UInt8):DV := .bool (zenh p s)
structure Sd where
 self:Lnk
 files:Sl Ent
 done:Sl Lnk
def sdC (s:Sd) (q:DV):List DV:=[.str s.self.step,s.self.m.dv 33 enC,s.self.p.dv 33 enC,s.files.dv 33 enC,s.done.dv 3 lkC,q]
noncomputable def zbnj:Tbl:=addT 52 (.pure cLoo) (addT 51 (.pure (cSS z46z)) (addT 50 (.pure (cSSS relD)) tbl0))
theorem zymb:zbnj 52 = .pure cLoo:=by simp [zbnj]
theorem zskg:zbnj 51 = .pure (cSS z46z):=by simp [zbnj]
theorem z4t1:zbnj 50 = .pure (cSSS relD):=by simp [zbnj]
theorem z1ax:zbnj.Sound P:=z0rp z9xq (z0rp (zd7v fun p s=>zljw mix zy0e Tryz.func51 z8rx (z3jz p s)) (z0rp (ztgs fun a b s=>zljw mix zek7 Tryz.func50 z12y (zpcq a b s)) zr5o))
def matB (r:Rul) (fs own:List Ent) (p:Str):Bool:=match relO r.inn [] p with
 | none=>false
 | some rest=>zenh r.pat rest&&(match relO [] r.to rest with
  | none=>false
  | some there=>(zajr fs there).isSome&&decide (dgO (zajr fs there)=dgO (zajr own p)))
theorem zb1d {s:Sd} {q:DV}:oneC 1 false ((sdC s q).drop 3)=some (s.files.dv 33 enC):=rfl
theorem z84t (r:Rul) (fs:Sl Ent) (s:Sd) (q:DV) (p:Str):Runs zbnj a49 [.str p,.ref (ruC r),.ref [fs.dv 33 enC],.ref [.ref (sdC s q)]] (.bool (matB r fs.l s.files.l p)):=by
 refine ⟨?_⟩
 have hr : ∀ o,optS o=match o with|none => .tup [.str [],.bool false]|some s => .tup [.str s,.bool true]:=fun o=>by cases o<;>rfl
 cases h1:relO r.inn [] p with
 | none=>simp (disch:=first|omega|simp<;>omega|fail) [-zA,-zB,-zC,-zD,-zE,a49,z4t1,zfnp,relD,h1,optS,matB]
 | some rest =>
  cases h2:zenh r.pat rest with
  | false=>simp (disch:=first|omega|simp<;>omega|fail) [-zA,-zB,-zC,-zD,-zE,a49,z4t1,zfnp,relD,h1,optS,matB,zskg,z5o0,z46z,h2]
  | true =>
   cases h3:relO [] r.to rest with
   | none=>simp (disch:=first|omega|simp<;>omega|fail) [-zA,-zB,-zC,-zD,-zE,a49,z4t1,zfnp,relD,h1,optS,matB,zskg,z5o0,z46z,h2,h3]
   | some there =>
    cases h4:zajr fs.l there with
    | none=>simp (disch:=first|omega|simp<;>omega|fail) [-zA,-zB,-zC,-zD,-zE,a49,z4t1,zfnp,relD,h1,optS,matB,zskg,z5o0,z46z,h2,h3,zymb,zfl1,zqrh,h4,zb1d,z4hl,dgO]
    | some d=>simp (disch:=first|omega|simp<;>omega|fail) [-zA,-zB,-zC,-zD,-zE,a49,z4t1,zfnp,relD,h1,optS,matB,zskg,z5o0,z46z,h2,h3,zymb,zfl1,zqrh,h4,zb1d,z4hl,dgO]
def acB:Nat→Bool→Bool→Bool→Bool
 | 0,b,a,_ => !b&&a
 | 1,b,a,e=>b&&a && !e
 | _,b,a,_=>b && !a
def acF (k:Nat):Nat:=match k with|0=>54|1=>55|_=>56
theorem zvk5 (b a e:Bool):Runs tbl0 a54 [.bool b,.bool a,.bool e] (.bool (acB 0 b a e)):=by
 refine ⟨?_⟩
 cases b<;>simp (disch:=first|omega|simp<;>omega|fail) [-zA,-zB,-zC,-zD,-zE,a54,acB]
theorem z4r8 (b a e:Bool):Runs tbl0 a55 [.bool b,.bool a,.bool e] (.bool (acB 1 b a e)):=by
 refine ⟨?_⟩
 cases b<;>cases a<;>cases e<;>simp (disch:=first|omega|simp<;>omega|fail) [-zA,-zB,-zC,-zD,-zE,a55,acB]
theorem zk7n (b a e:Bool):Runs tbl0 a56 [.bool b,.bool a,.bool e] (.bool (acB 2 b a e)):=by
 refine ⟨?_⟩
 cases b<;>simp (disch:=first|omega|simp<;>omega|fail) [-zA,-zB,-zC,-zD,-zE,a56,acB]
def cAc (k:Nat):List DV→Option DV
 | [.bool b,.bool a,.bool e]=>some (.bool (acB k b a e))|_=>none
theorem zc4w {k:Nat} {b a e:Bool}:cAc k [.bool b,.bool a,.bool e]=some (.bool (acB k b a e)):=rfl
theorem z144 {f k:Nat} (h : ∀ b a e,Am.Sem P f [.bool b,.bool a,.bool e] (.bool (acB k b a e))):(Con.pure (cAc k)).Sound P f:=by
 intro args v q
 unfold cAc at q
 split at q
 ·simp at q; subst q; exact h _ _ _
 ·simp at q
noncomputable def zpgo:Tbl:=addT 54 (.pure (cAc 0)) (addT 55 (.pure (cAc 1)) (addT 56 (.pure (cAc 2)) zbnj))
theorem z8qy:zpgo 52 = .pure cLoo:=by simp [zpgo,zbnj]
theorem zctv:zpgo 51 = .pure (cSS z46z):=by simp [zpgo,zbnj]
theorem zakk:zpgo.Sound P :=
 z0rp (z144 fun b a e=>zljw mix zr5o Tryz.func54 zq4q (zvk5 b a e))
 (z0rp (z144 fun b a e=>zljw mix zr5o Tryz.func55 ze8s (z4r8 b a e))
 (z0rp (z144 fun b a e=>zljw mix zr5o Tryz.func56 zhp1 (zk7n b a e)) z1ax))
def chgB (k:Nat) (pat:Str) (m p:List Ent) (x:Str):Bool :=
 zenh pat x&&acB k (zajr m x).isSome (zajr p x).isSome (decide (dgO (zajr m x)=dgO (zajr p x)))
theorem z3ap {s:Sd} {q:DV}:oneC 1 false ((sdC s q).drop 1)=some (s.self.m.dv 33 enC):=rfl
theorem zfo1 {s:Sd} {q:DV}:oneC 1 false ((sdC s q).drop 2)=some (s.self.p.dv 33 enC):=rfl
theorem zyd1 (k:Nat) (hk:k<3) (pat:Str) (s:Sd) (q:DV) (p:Str):Runs zpgo a81 [.str p,.ref [.ref (sdC s q)],.ref [.str pat],.ref [.fn (.func (acF k)) [] []]] (.bool (chgB k pat s.self.m.l s.self.p.l p)):=by
 refine ⟨?_⟩
 obtain ⟨A,hA⟩ : ∃ A,zajr s.self.m.l p=A:=⟨_,rfl⟩
 obtain ⟨B,hB⟩ : ∃ B,zajr s.self.p.l p=B:=⟨_,rfl⟩
 have hac : ∀ k,k<3 → ∃ k',k=k'∧zpgo (acF k') = .pure (cAc k'):=fun k h=>by
  rcases k with _|_|_|k<;>first|omega|exact ⟨_,rfl,by simp [acF,zpgo]⟩
 obtain ⟨_,rfl,hT⟩:=hac k hk
 obtain ⟨g,hg⟩ : ∃ g,acF k=g:=⟨_,rfl⟩
 rw [hg] at hT ⊢
 cases h2:zenh pat p with
 | false=>simp (disch:=first|omega|simp<;>omega|fail) [-zA,-zB,-zC,-zD,-zE,a81,chgB,zctv,z5o0,z46z,h2,z8qy,zfl1,zqrh,hA,hB,z3ap,zfo1,z4hl]
 | true=>simp (disch:=first|omega|simp<;>omega|fail) [-zA,-zB,-zC,-zD,-zE,a81,chgB,zctv,z5o0,z46z,h2,z8qy,zfl1,zqrh,hA,hB,z3ap,zfo1,z4hl,hT,zc4w]
theorem z8uq (r:Rul) (p:Str):Runs zbnj a57 [.str p,.ref (ruC r)] (.bool (zenh r.pat p)):=by
 refine ⟨?_⟩
 simp (disch:=first|omega|simp<;>omega|fail) [-zA,-zB,-zC,-zD,-zE,a57,zskg,z5o0,z46z]
theorem zamt (r:Rul) (p:Str):Runs zbnj a59 [.str p,.ref (ruC r)] (.bool (zenh r.pat p)):=by
 refine ⟨?_⟩
 simp (disch:=first|omega|simp<;>omega|fail) [-zA,-zB,-zC,-zD,-zE,a59,zskg,z5o0,z46z]
theorem zm65 (r:Rul) (fs:Sl Ent) (s:Sd) (q:DV) (p:Str):Am.Sem P 49 [.str p,.ref (ruC r),.ref [fs.dv 33 enC],.ref [.ref (sdC s q)]] (.bool (matB r fs.l s.files.l p)):=zljw mix z1ax Tryz.func49 zdc4 (z84t r fs s q p)
theorem zxto (k:Nat) (hk:k<3) (pat:Str) (s:Sd) (q:DV) (p:Str):Am.Sem P 81 [.str p,.ref [.ref (sdC s q)],.ref [.str pat],.ref [.fn (.func (acF k)) [] []]] (.bool (chgB k pat s.self.m.l s.self.p.l p)):=zljw mix zakk Tryz.func81 zgev (zyd1 k hk pat s q p)
theorem zqks (r:Rul) (p:Str):Am.Sem P 57 [.str p,.ref (ruC r)] (.bool (zenh r.pat p)):=zljw mix z1ax Tryz.func57 zfce (z8uq r p)
theorem zb64 (r:Rul) (p:Str):Am.Sem P 59 [.str p,.ref (ruC r)] (.bool (zenh r.pat p)):=zljw mix z1ax Tryz.func59 zwsz (zamt r p)
end Go.Proofs.YtjknipdiglpnlaaGreatDoor
set_option linter.unusedSimpArgs false
set_option linter.unusedVariables false
namespace Go.Proofs.YtjknipdiglpnlaaGreatDoor
open Go Go.Am
theorem z4of (x:Pt):Runs tbl0 a84 [.agg (ptC x)] (.bool x.long):=by
 refine ⟨?_⟩
 cases x with
 | one c=>simp (disch:=first|omega|simp<;>omega|fail) [-zA,-zB,-zC,-zD,-zE,a84,ptC,Pt.kind,Pt.chr,Pt.long]
 | dot=>simp (disch:=first|omega|simp<;>omega|fail) [-zA,-zB,-zC,-zD,-zE,a84,ptC,Pt.kind,Pt.chr,Pt.long]
 | some=>simp (disch:=first|omega|simp<;>omega|fail) [-zA,-zB,-zC,-zD,-zE,a84,ptC,Pt.kind,Pt.chr,Pt.long]
 | whole=>simp (disch:=first|omega|simp<;>omega|fail) [-zA,-zB,-zC,-zD,-zE,a84,ptC,Pt.kind,Pt.chr,Pt.long]
theorem zij3 (x:Pt) (b:B8):Runs tbl0 a85 [.agg (ptC x),w8 b] (.bool (x.takes b)):=by
 refine ⟨?_⟩
 cases x with
 | one c =>
  by_cases hb:c=b
  ·simp (disch:=first|omega|simp<;>omega|fail) [-zA,-zB,-zC,-zD,-zE,a85,ptC,Pt.kind,Pt.chr,Pt.takes,hb]
  ·have hb1:(c == b)=false:=by simp [hb]
   have hb2:(b == c)=false:=by simp [Ne.symm hb]
   simp (disch:=first|omega|simp<;>omega|fail) [-zA,-zB,-zC,-zD,-zE,a85,ptC,Pt.kind,Pt.chr,Pt.takes,hb,hb1,hb2]
 | dot=>simp (disch:=first|omega|simp<;>omega|fail) [-zA,-zB,-zC,-zD,-zE,a85,ptC,Pt.kind,Pt.chr,Pt.takes]
 | some=>simp (disch:=first|omega|simp<;>omega|fail) [-zA,-zB,-zC,-zD,-zE,a85,ptC,Pt.kind,Pt.chr,Pt.takes]
 | whole=>simp (disch:=first|omega|simp<;>omega|fail) [-zA,-zB,-zC,-zD,-zE,a85,ptC,Pt.kind,Pt.chr,Pt.takes]
theorem zf5a {f:Nat→Bool} {n m:Nat} {x:Bool}:(zkxs f n).set m x=zkxs (fun j=>if j=m then x else f j) n:=by
 apply List.ext_getElem (by simp [zkxs])
 intro j h1 h2
 rw [List.getElem_set]
 simp only [zkxs,List.getElem_map,List.getElem_range]
 by_cases e:m=j
 ·subst e; simp
 ·simp [e,Ne.symm e]
theorem z6mz {f g:Nat→Bool} {n:Nat} (h : ∀ j,j≤n→f j=g j):zkxs f n=zkxs g n:=by
 apply List.ext_getElem (by simp [zkxs])
 intro j h1 h2
 simp only [zkxs,List.getElem_map,List.getElem_range]
 exact h j (by simp [zkxs] at h1; omega)
theorem zelj {l:List Pt} {s:List UInt8} {k n:Nat} (h : ∀ j,R l s j 0=decide (j≤k)):inn (fun _=>true) k n=zkxs (fun j=>R l s j 0) n:=by
 apply List.ext_getElem (by simp [inn,zkxs])
 intro j h1 h2
 simp [inn,zkxs,h]
theorem zxib (a tk lg:Nat→Bool) (n:Nat):zdol (n+1)=zkxs (nx a tk lg 0) n:=by
 apply List.ext_getElem (by simp [zdol,zkxs])
 intro j h1 h2
 simp [zdol,zkxs,nx]
theorem znk5 (b lg:Nat→Bool):ep b lg 0=b:=by
 funext j
 unfold ep
 cases j with
 | zero=>rfl
 | succ j=>rw [if_neg (by omega)]
theorem zcpt (b lg:Nat→Bool) (k:Nat):ep b lg k k=fin b lg k:=if_pos (Nat.le_refl _)
theorem zlyc {b lg:Nat→Bool} {k:Nat} (h:(fin b lg k&&lg k)=true):(fun j=>if j=k+1 then true else ep b lg k j)=ep b lg (k+1):=by
 funext j
 by_cases e:j=k+1
 ·subst e; rw [if_pos rfl,zcpt,fin,h]; simp
 ·rw [if_neg e]
  unfold ep
  by_cases hj:j≤k
  ·rw [if_pos hj,if_pos (by omega)]
  ·rw [if_neg hj,if_neg (by omega)]
theorem z017 {b lg:Nat→Bool} {k:Nat} (h:(fin b lg k&&lg k)=false):ep b lg k=ep b lg (k+1):=by
 funext j
 by_cases e:j=k+1
 ·subst e; rw [zcpt,fin,h]; unfold ep; rw [if_neg (by omega)]; simp
 ·unfold ep
  by_cases hj:j≤k
  ·rw [if_pos hj,if_pos (by omega)]
  ·rw [if_neg hj,if_neg (by omega)]
theorem z0c8 {a tk lg:Nat→Bool} {k m:Nat} (h:(a k&&tk k)=true) (hm:(if lg k then k else k+1)=m):(fun j=>if j=m then true else nx a tk lg k j)=nx a tk lg (k+1):=by
 funext j
 rw [nx,h,hm]
 by_cases e:j=m<;>simp [e]
theorem zbtn {a tk lg:Nat→Bool} {k:Nat} (h:(a k&&tk k)=false):nx a tk lg k=nx a tk lg (k+1):=by
 funext j
 rw [nx,h]; simp
def lgF (l:List Pt) (k:Nat):Bool:=(l.getD k .dot).long
def tkF (l:List Pt) (s:List UInt8) (i k:Nat):Bool:=(l.getD k .dot).takes (bAt s i)
def nxF (l:List Pt) (s:List UInt8) (i k:Nat):Nat→Bool:=nx (fun j=>R l s j i) (tkF l s i) (lgF l) k
def epF (l:List Pt) (s:List UInt8) (i k:Nat):Nat→Bool:=ep (nxF l s i l.length) (lgF l) k
theorem ztvc {l:List Pt} {s:List UInt8} {i:Nat}:zkxs (epF l s i l.length) l.length=zkxs (fun j=>R l s j (i+1)) l.length:=by
 refine z6mz fun j hj => ?_
 rw [epF,ep,if_pos hj]
 exact zol2 _ _ _ (fun k _=>rfl) (fun k _=>rfl) (fun k _=>rfl) j hj
noncomputable def zilg:List DV→Option DV:=con (fun (_:Pt × B8)=>True) (fun a=>[.agg (ptC a.1),w8 a.2]) (fun a => .bool (a.1.takes a.2))
theorem znih {x:Pt} {b:B8}:zilg [.agg [.int .i64 x.kind,w8 x.chr],w8 b]=some (.bool (x.takes b)) :=
 z400 (A:=fun (_:Pt × B8)=>True) (a:=(x,b)) (f:=fun a=>[.agg (ptC a.1),w8 a.2]) (g:=fun a => .bool (a.1.takes a.2)) (by
  rintro ⟨a,b⟩ ⟨c,d⟩ _ _ e; simp only [List.cons.injEq,DV.agg.injEq,z21y,and_true] at e; obtain ⟨e1,rfl⟩:=e; rw [zq5p e1]) trivial
noncomputable def T76:Tbl:=addT 84 (.pure zupo) (addT 85 (.pure zilg) (addT 83 (.pure (cS z8r4)) (addT 71 (.pure (cS za1j)) tbl0)))
theorem z5m5:T76 84 = .pure zupo:=by simp [T76]
theorem zwpu:T76 85 = .pure zilg:=by simp [T76]
theorem z6ci:T76 83 = .pure (cS z8r4):=by simp [T76]
theorem z6q8:T76 71 = .pure (cS za1j):=by simp [T76]
theorem zx50:T76.Sound P :=
 z0rp (z2au fun x _=>zljw mix zr5o Tryz.func84 z3cy (z4of x))
 (z0rp (z2au fun a _=>zljw mix zr5o Tryz.func85 zu0j (zij3 a.1 a.2))
 (z0rp (zzn8 fun p=>zljw mix zr5o Tryz.func83 z6eh (znf3 p))
 (z0rp (zzn8 fun p=>zljw mix zfxp Tryz.func71 zbtg (z80k p)) zr5o)))
def ptsD (l:List Pt):DV := .sl false 2 l.length (z6j5 l)
def atD (id n:Nat):DV := .ms id (n+1) 0 1 (n+1) (n+1)
def S15a (l:List Pt) (s:List UInt8) (k:Nat):St:=zeq8 (.str s) (ptsD l) (atD 0 l.length) (.int .i64 k) [.cells ((inn (fun _=>true) k l.length).map DV.bool)]
structure X15b where
 i:Nat
 pre:List AObj
def S15b (l:List Pt) (s:List UInt8) (x:X15b):St:=z2y3 (.str s) (ptsD l) (atD x.pre.length l.length) (.int .i64 x.i) (x.pre++[.cells ((zkxs (fun j=>R l s j x.i) l.length).map DV.bool)])
def S15c (l:List Pt) (s:List UInt8) (i:Nat) (pre:List AObj) (k:Nat):St :=
 zvj0 (.str s) (ptsD l) (atD pre.length l.length) (.int .i64 i) (atD (pre.length+1) l.length) (.int .i64 k) (pre++[.cells ((zkxs (fun j=>R l s j i) l.length).map DV.bool),.cells ((zkxs (nxF l s i k) l.length).map DV.bool)])
def S15d (l:List Pt) (s:List UInt8) (i:Nat) (pre:List AObj) (k:Nat):St :=
 z7fh (.str s) (ptsD l) (.int .i64 i) (atD (pre.length+1) l.length) (.int .i64 k) (pre++[.cells ((zkxs (fun j=>R l s j i) l.length).map DV.bool),.cells ((zkxs (epF l s i k) l.length).map DV.bool)])
theorem z0ay (p s:List UInt8) (l:List Pt) (hm:zenh p s=M l s l.length s.length) (hsl:s.length≤200) (hlp:l.length≤200) (st:St) (hst:Weak 0 st (S15b l s ⟨0,[]⟩)) :
  W T76 0 (.loop zyoa) (z0mx 2 (seqK T76 0 (z6m4 7 a64.code) (retK a64.res (z46z p s)))) st:=by
 have hlc:=z4u6 l
 refine zlm5 (S15b l s) (fun x=>s.length-x.i) (fun x=>x.i≤s.length) ⟨0,[]⟩ hst (by simp) (fun x hx => ?_)
 obtain ⟨i,pre⟩:=x
 simp only at hx
 have hlr:=z4jn (fun j=>R l s j i) l.length
 simp (disch:=first|omega|simp<;>omega|fail) [-zA,-zB,-zC,-zD,-zE,zyoa,z2y3,S15b,ptsD,atD,z6m4,a64]
 by_cases h:i<s.length
 ·have h1:(i:Int)<s.length:=by omega
  have hba:=z8rj h
  simp (disch:=first|omega|simp<;>omega|fail) [-zA,-zB,-zC,-zD,-zE,h,h1]
  have hr0:rep (l.length+1) (DV.bool false)=(zkxs (nxF l s i 0) l.length).map DV.bool:=by
   rw [z09a,zxib (fun j=>R l s j i) (tkF l s i) (lgF l)]; rfl
  refine zlm5 (S15c l s i pre) (fun k=>l.length-k) (fun k=>k≤l.length) 0 (z515 (by simp (disch:=first|omega|simp<;>omega|fail) [-zA,-zB,-zC,-zD,-zE,ptsD,atD]) (by simp (disch:=first|omega|simp<;>omega|fail) [-zA,-zB,-zC,-zD,-zE,hr0])) (by omega) (fun k hk => ?_)
  have hln:=z4jn (nxF l s i k) l.length
  simp (disch:=first|omega|simp<;>omega|fail) [-zA,-zB,-zC,-zD,-zE,zomp,zvj0,S15c,ptsD,atD]
  by_cases hk1:k<l.length
  ·have hk2:(k:Int)<l.length:=by omega
   have hg:=zhys hk1
   have hgd:l.getD k .dot=l[k]:=by rw [List.getD_eq_getElem?_getD,List.getElem?_eq_getElem hk1]; rfl
   obtain ⟨y,hy⟩ : ∃ y,l[k]=y:=⟨_,rfl⟩
   rw [hy] at hgd
   obtain ⟨v1,hv1⟩ : ∃ v1,R l s k i=v1:=⟨_,rfl⟩
   obtain ⟨v2,hv2⟩ : ∃ v2,y.takes s[i].toBitVec=v2:=⟨_,rfl⟩
   have ht:tkF l s i k=v2:=by rw [tkF,hgd,hba,hv2]
   obtain ⟨v3,hv3⟩ : ∃ v3,y.long=v3:=⟨_,rfl⟩
   have hlg:lgF l k=v3:=by rw [lgF,hgd,hv3]
   cases v1
   ·have hs:=zbtn (a:=fun j=>R l s j i) (tk:=tkF l s i) (lg:=lgF l) (k:=k) (by rw [hv1]; rfl)
    have hs:nxF l s i k=nxF l s i (k+1):=hs
    simp (disch:=first|omega|simp<;>omega|fail) [-zA,-zB,-zC,-zD,-zE,hk1,hk2,hg,hy,zfvc,zwpu,z5m5,znih,zfa9,zf0q,zjj2,zm3y,zxft,zj3v,hlr,hln,hv1,h]
    exact ⟨k+1,z515 (by simp (disch:=first|omega|simp<;>omega|fail) [-zA,-zB,-zC,-zD,-zE,ptsD,atD]) (by simp (disch:=first|omega|simp<;>omega|fail) [-zA,-zB,-zC,-zD,-zE,hs]),by omega,by omega⟩
   ·cases v2
    ·have hs:=zbtn (a:=fun j=>R l s j i) (tk:=tkF l s i) (lg:=lgF l) (k:=k) (by rw [ht]; simp)
     have hs:nxF l s i k=nxF l s i (k+1):=hs
     simp (disch:=first|omega|simp<;>omega|fail) [-zA,-zB,-zC,-zD,-zE,hk1,hk2,hg,hy,zfvc,zwpu,z5m5,znih,zfa9,zf0q,zjj2,zm3y,zxft,zj3v,hlr,hln,hv1,hv2,h]
     exact ⟨k+1,z515 (by simp (disch:=first|omega|simp<;>omega|fail) [-zA,-zB,-zC,-zD,-zE,ptsD,atD]) (by simp (disch:=first|omega|simp<;>omega|fail) [-zA,-zB,-zC,-zD,-zE,hs]),by omega,by omega⟩
    ·cases v3
     ·have hs:=z0c8 (a:=fun j=>R l s j i) (tk:=tkF l s i) (lg:=lgF l) (k:=k) (m:=k+1) (by rw [ht,hv1]; rfl) (by rw [hlg]; rfl)
      have hset:(zkxs (nxF l s i k) l.length).set (k+1) true=zkxs (nxF l s i (k+1)) l.length:=by rw [zf5a]; exact congrArg (fun f=>zkxs f l.length) hs
      simp (disch:=first|omega|simp<;>omega|fail) [-zA,-zB,-zC,-zD,-zE,hk1,hk2,hg,hy,zfvc,zwpu,z5m5,znih,zfa9,zf0q,zjj2,zm3y,zxft,zj3v,hlr,hln,hv1,hv2,hv3,h,z8ev]
      exact ⟨k+1,z515 (by simp (disch:=first|omega|simp<;>omega|fail) [-zA,-zB,-zC,-zD,-zE,ptsD,atD]) (by simp (disch:=first|omega|simp<;>omega|fail) [-zA,-zB,-zC,-zD,-zE,hset]),by omega,by omega⟩
     ·have hs:=z0c8 (a:=fun j=>R l s j i) (tk:=tkF l s i) (lg:=lgF l) (k:=k) (m:=k) (by rw [ht,hv1]; rfl) (by rw [hlg]; rfl)
      have hset:(zkxs (nxF l s i k) l.length).set k true=zkxs (nxF l s i (k+1)) l.length:=by rw [zf5a]; exact congrArg (fun f=>zkxs f l.length) hs
      simp (disch:=first|omega|simp<;>omega|fail) [-zA,-zB,-zC,-zD,-zE,hk1,hk2,hg,hy,zfvc,zwpu,z5m5,znih,zfa9,zf0q,zjj2,zm3y,zxft,zj3v,hlr,hln,hv1,hv2,hv3,h,z8ev]
      exact ⟨k+1,z515 (by simp (disch:=first|omega|simp<;>omega|fail) [-zA,-zB,-zC,-zD,-zE,ptsD,atD]) (by simp (disch:=first|omega|simp<;>omega|fail) [-zA,-zB,-zC,-zD,-zE,hset]),by omega,by omega⟩
  ·have hk2:¬ (k:Int)<l.length:=by omega
   obtain rfl:k=l.length:=by omega
   simp (disch:=first|omega|simp<;>omega|fail) [-zA,-zB,-zC,-zD,-zE,hk2]
   have he0:nxF l s i l.length=epF l s i 0:=by rw [epF,znk5]
   refine zlm5 (S15d l s i pre) (fun k=>l.length-k) (fun k=>k≤l.length) 0 (z515 (by simp (disch:=first|omega|simp<;>omega|fail) [-zA,-zB,-zC,-zD,-zE,ptsD,atD]) (by simp (disch:=first|omega|simp<;>omega|fail) [-zA,-zB,-zC,-zD,-zE,he0])) (by omega) (fun k hk => ?_)
   have hln:=z4jn (epF l s i k) l.length
   simp (disch:=first|omega|simp<;>omega|fail) [-zA,-zB,-zC,-zD,-zE,zpfu,z7fh,S15d,ptsD,atD]
   by_cases hk1:k<l.length
   ·have hk2:(k:Int)<l.length:=by omega
    have hg:=zhys hk1
    have hgd:l.getD k .dot=l[k]:=by rw [List.getD_eq_getElem?_getD,List.getElem?_eq_getElem hk1]; rfl
    obtain ⟨y,hy⟩ : ∃ y,l[k]=y:=⟨_,rfl⟩
    rw [hy] at hgd
    obtain ⟨v1,hv1⟩ : ∃ v1,epF l s i k k=v1:=⟨_,rfl⟩
    have hfv:fin (nxF l s i l.length) (lgF l) k=v1:=by rw [← hv1,epF,zcpt]
    obtain ⟨v3,hv3⟩ : ∃ v3,y.long=v3:=⟨_,rfl⟩
    have hlg:lgF l k=v3:=by rw [lgF,hgd,hv3]
    cases v1
    ·have hs:=z017 (b:=nxF l s i l.length) (lg:=lgF l) (k:=k) (by rw [hfv]; rfl)
     have hs:epF l s i k=epF l s i (k+1):=hs
     simp (disch:=first|omega|simp<;>omega|fail) [-zA,-zB,-zC,-zD,-zE,hk1,hk2,hg,hy,zfvc,z5m5,zfa9,zf0q,zjj2,zm3y,zxft,zj3v,hln,hv1]
     exact ⟨k+1,z515 (by simp (disch:=first|omega|simp<;>omega|fail) [-zA,-zB,-zC,-zD,-zE,ptsD,atD]) (by simp (disch:=first|omega|simp<;>omega|fail) [-zA,-zB,-zC,-zD,-zE,hs]),by omega,by omega⟩
    ·cases v3
     ·have hs:=z017 (b:=nxF l s i l.length) (lg:=lgF l) (k:=k) (by rw [hlg]; simp)
      have hs:epF l s i k=epF l s i (k+1):=hs
      simp (disch:=first|omega|simp<;>omega|fail) [-zA,-zB,-zC,-zD,-zE,hk1,hk2,hg,hy,zfvc,z5m5,zfa9,zf0q,zjj2,zm3y,zxft,zj3v,hln,hv1,hv3]
      exact ⟨k+1,z515 (by simp (disch:=first|omega|simp<;>omega|fail) [-zA,-zB,-zC,-zD,-zE,ptsD,atD]) (by simp (disch:=first|omega|simp<;>omega|fail) [-zA,-zB,-zC,-zD,-zE,hs]),by omega,by omega⟩
     ·have hs:=zlyc (b:=nxF l s i l.length) (lg:=lgF l) (k:=k) (by rw [hfv,hlg]; rfl)
      have hset:(zkxs (epF l s i k) l.length).set (k+1) true=zkxs (epF l s i (k+1)) l.length:=by rw [zf5a]; exact congrArg (fun f=>zkxs f l.length) hs
      simp (disch:=first|omega|simp<;>omega|fail) [-zA,-zB,-zC,-zD,-zE,hk1,hk2,hg,hy,zfvc,z5m5,zfa9,zf0q,zjj2,zm3y,zxft,zj3v,hln,hv1,hv3,z8ev]
      exact ⟨k+1,z515 (by simp (disch:=first|omega|simp<;>omega|fail) [-zA,-zB,-zC,-zD,-zE,ptsD,atD]) (by simp (disch:=first|omega|simp<;>omega|fail) [-zA,-zB,-zC,-zD,-zE,hset]),by omega,by omega⟩
   ·have hk2:¬ (k:Int)<l.length:=by omega
    obtain rfl:k=l.length:=by omega
    have hep:=ztvc (l:=l) (s:=s) (i:=i)
    simp (disch:=first|omega|simp<;>omega|fail) [-zA,-zB,-zC,-zD,-zE,hk2]
    exact ⟨⟨i+1,pre++[.cells ((zkxs (fun j=>R l s j i) l.length).map DV.bool)]⟩,z515 (by simp (disch:=first|omega|simp<;>omega|fail) [-zA,-zB,-zC,-zD,-zE,ptsD,atD]) (by simp (disch:=first|omega|simp<;>omega|fail) [-zA,-zB,-zC,-zD,-zE,hep]),by show s.length-(i+1)<s.length-i; omega,by show i+1≤s.length; omega⟩
 ·have h1:¬ (i:Int)<s.length:=by omega
  obtain rfl:i=s.length:=by omega
  have hR:=z0fy l s s.length
  simp (disch:=first|omega|simp<;>omega|fail) [-zA,-zB,-zC,-zD,-zE,h1,zjj2,zj3v,hlr,z46z,hm,hR]
theorem zfpx (p s:List UInt8):Runs T76 a64 [.str p,.str s] (z46z p s):=by
 refine ⟨?_⟩
 cases hp:zfn1 p with
 | none =>
  have hm:zenh p s=false:=by rw [zenh,hp]
  simp (disch:=first|omega|simp<;>omega|fail) [-zA,-zB,-zC,-zD,-zE,a64,z6ci,zk5k,z8r4,hp,zoby,z46z,hm]
 | some l =>
 by_cases hs:zj1f s=true
 case neg =>
  have hs:zj1f s=false:=by simpa using hs
  have hm:zenh p s=false:=by rw [zenh,hp]; simp [hs]
  simp (disch:=first|omega|simp<;>omega|fail) [-zA,-zB,-zC,-zD,-zE,a64,z6ci,z6q8,zk5k,z8r4,hp,zoby,za1j,hs,z46z,hm]
 have hm:zenh p s=M l s l.length s.length:=by rw [zenh,hp]; simp [hs]
 have hsl:s.length≤200:=(zpps hs).2.1
 have hlp:=zxnm hp
 have hlc:=z4u6 l
 have hr0:=zfp3 (fun _=>true) l.length
 simp (disch:=first|omega|simp<;>omega|fail) [-zA,-zB,-zC,-zD,-zE,a64,z6ci,z6q8,zk5k,z8r4,hp,zoby,za1j,hs]
 refine zlm5 (S15a l s) (fun k=>l.length-k) (fun k=>k≤l.length ∧ ∀ j,j<k→(l.getD j .dot).long=true) 0 (z515 (by simp (disch:=first|omega|simp<;>omega|fail) [-zA,-zB,-zC,-zD,-zE,ptsD,atD]) (by simp (disch:=first|omega|simp<;>omega|fail) [-zA,-zB,-zC,-zD,-zE,hr0])) ⟨by omega,by intro j hj; omega⟩ (fun k hk => ?_)
 obtain ⟨hk1,hk2⟩:=hk
 have hli:=zbo5 (fun _=>true) k l.length
 simp (disch:=first|omega|simp<;>omega|fail) [-zA,-zB,-zC,-zD,-zE,zscl,zeq8,S15a,ptsD,atD]
 by_cases h:k<l.length
 ·have h1:(k:Int)<l.length:=by omega
  have hg:=zhys h
  have hgd:l.getD k .dot=l[k]:=by rw [List.getD_eq_getElem?_getD,List.getElem?_eq_getElem h]; rfl
  by_cases hl:l[k].long=true
  ·have hset:=zaip (f:=fun _=>true) h
   simp (disch:=first|omega|simp<;>omega|fail) [-zA,-zB,-zC,-zD,-zE,h,h1,hg,zfvc,z5m5,zfa9,hl,z8ev,hli]
   refine ⟨k+1,z515 (by simp (disch:=first|omega|simp<;>omega|fail) [-zA,-zB,-zC,-zD,-zE,ptsD,atD]) (by simp (disch:=first|omega|simp<;>omega|fail) [-zA,-zB,-zC,-zD,-zE,hset]),by omega,by omega,fun j hj => ?_⟩
   by_cases e:j=k
   ·simp only [e,List.getElem?_eq_getElem h]; exact hl
   ·exact hk2 j (by omega)
  ·have hl:l[k].long=false:=by simpa using hl
   have hR:=z3rn (s:=s) hk2 (by rw [hgd]; exact hl)
   have hrow:=zelj (n:=l.length) hR
   simp (disch:=first|omega|simp<;>omega|fail) [-zA,-zB,-zC,-zD,-zE,h,h1,hg,zfvc,z5m5,zfa9,hl]
   exact z0ay p s l hm hsl hlp _ (z515 (by simp (disch:=first|omega|simp<;>omega|fail) [-zA,-zB,-zC,-zD,-zE,S15b,z2y3,ptsD,atD]) (by simp (disch:=first|omega|simp<;>omega|fail) [-zA,-zB,-zC,-zD,-zE,S15b,z2y3,hrow]))
 ·have h1:¬ (k:Int)<l.length:=by omega
  obtain rfl:k=l.length:=by omega
  have hgd:(l.getD l.length .dot).long=false:=by rw [List.getD_eq_getElem?_getD,List.getElem?_eq_none (by omega)]; rfl
  have hR:=z3rn (s:=s) hk2 hgd
  have hrow:=zelj (n:=l.length) hR
  simp (disch:=first|omega|simp<;>omega|fail) [-zA,-zB,-zC,-zD,-zE,h1]
  exact z0ay p s l hm hsl hlp _ (z515 (by simp (disch:=first|omega|simp<;>omega|fail) [-zA,-zB,-zC,-zD,-zE,S15b,z2y3,ptsD,atD]) (by simp (disch:=first|omega|simp<;>omega|fail) [-zA,-zB,-zC,-zD,-zE,S15b,z2y3,hrow]))
end Go.Proofs.YtjknipdiglpnlaaGreatDoor
set_option linter.unusedSimpArgs false
set_option linter.unusedVariables false
namespace Go.Proofs.YtjknipdiglpnlaaGreatDoor
open Go Go.Am
def T80:Tbl:=addT 71 (.pure (cS za1j)) tbl0
theorem zti8:T80 71 = .pure (cS za1j):=by simp [T80]
theorem zpnl:T80.Sound P:=z0rp (zzn8 fun p=>zljw mix zfxp Tryz.func71 zbtg (z80k p)) zr5o
theorem z0t3 (s:List UInt8):Runs T80 a41 [.str s] (dirB s):=by
 refine ⟨?_⟩
 by_cases h:s=[]
 ·subst h; simp (disch:=first|omega|simp<;>omega|fail) [-zA,-zB,-zC,-zD,-zE,a41,dirB,dirD]
 ·have hd:dirD s=zj1f s:=by simp [dirD,h]
  simp (disch:=first|omega|simp<;>omega|fail) [-zA,-zB,-zC,-zD,-zE,a41,dirB,hd,h,zti8,zk5k,za1j]
def cSSb (g:List UInt8→List UInt8→DV):List DV→Option DV
 | [.str s,.str p]=>if s.length≤100000∧p.length≤100000 then some (g s p) else none|_=>none
theorem zff7 {g s p} (h:s.length≤100000) (h':p.length≤100000):cSSb g [.str s,.str p]=some (g s p):=if_pos ⟨h,h'⟩
theorem zztp {f:Nat} {g:List UInt8→List UInt8→DV} (h : ∀ s p,s.length≤100000→p.length≤100000→Am.Sem P f [.str s,.str p] (g s p)):(Con.pure (cSSb g)).Sound P f:=by
 intro args v e
 unfold cSSb at e
 split at e
 ·split at e
  ·rename_i hl; simp at e; subst e; exact h _ _ hl.1 hl.2
  ·simp at e
 ·simp at e
def zw9t (d s:List UInt8):Option (List UInt8):=if d=[] then some s else if d.length+1<s.length∧s.take d.length=d∧s.getD d.length 0=47 then some (s.drop (d.length+1)) else none
def zf3z (d s:List UInt8):DV:=optS (zw9t d s)
def zos8 (d r:List UInt8):DV := .str (zukt d r)
theorem zaxv (d s:List UInt8) (hd:d.length≤100000) (hs:s.length≤100000):Runs tbl0 a72 [.str d,.str s] (zf3z d s):=by
 refine ⟨?_⟩
 by_cases h0:d=[]
 ·subst h0; simp (disch:=first|omega|simp<;>omega|fail) [-zA,-zB,-zC,-zD,-zE,a72,zf3z,zw9t,optS]
 by_cases h1:d.length+1<s.length
 case neg =>
  have h1':¬ (d.length:Int)+1<s.length:=by omega
  have hr:zw9t d s=none:=by rw [zw9t,if_neg h0,if_neg (fun h=>h1 h.1)]
  simp (disch:=first|omega|simp<;>omega|fail) [-zA,-zB,-zC,-zD,-zE,a72,h0,h1',zf3z,hr,optS]
 have h1':(d.length:Int)+1<s.length:=by omega
 have hle:d.length≤s.length:=by omega
 have hlt:d.length<s.length:=by omega
 by_cases h2:s.take d.length=d
 case neg =>
  have hr:zw9t d s=none:=by rw [zw9t,if_neg h0,if_neg (fun h=>h2 h.2.1)]
  simp (disch:=first|omega|simp<;>omega|fail) [-zA,-zB,-zC,-zD,-zE,a72,h0,h1',hle,h2,zf3z,hr,optS]
 have hg:s.getD d.length 0=s[d.length]:=by rw [List.getD_eq_getElem?_getD,List.getElem?_eq_getElem hlt]; rfl
 by_cases h3:s[d.length]=47
 case neg =>
  have b1:¬ s[d.length].toBitVec=47#8:=fun e=>h3 (zw4m.1 e)
  have b1q:(s[d.length].toBitVec == 47#8)=false:=by simp [b1]
  have hr:zw9t d s=none:=by rw [zw9t,if_neg h0,if_neg (fun h=>h3 (by rw [← hg]; exact h.2.2))]
  simp (disch:=first|omega|simp<;>omega|fail) [-zA,-zB,-zC,-zD,-zE,a72,h0,h1',hle,hlt,h2,b1,b1q,zf3z,hr,optS]
 have b1:s[d.length].toBitVec=47#8:=zw4m.2 h3
 have hr:zw9t d s=some (s.drop (d.length+1)):=by rw [zw9t,if_neg h0,if_pos ⟨h1,h2,by rw [hg]; exact h3⟩]
 have e1:((d.length:Int)+1).toNat=d.length+1:=by omega
 have ht:(s.drop (d.length+1)).take (s.length-(d.length+1))=s.drop (d.length+1):=List.take_of_length_le (by simp)
 have h4:(d.length:Int)+1≤s.length:=by omega
 have h5:d.length+1≤s.length:=by omega
 simp (disch:=first|omega|simp<;>omega|fail) [-zA,-zB,-zC,-zD,-zE,a72,h0,h1',hle,hlt,h2,b1,e1,ht,h4,h5,zf3z,hr,optS]
theorem zpds (d s:List UInt8) (hd:d.length≤100000) (hs:s.length≤100000):Runs tbl0 a73 [.str d,.str s] (zos8 d s):=by
 refine ⟨?_⟩
 by_cases h0:d=[]
 ·subst h0; simp (disch:=first|omega|simp<;>omega|fail) [-zA,-zB,-zC,-zD,-zE,a73,zos8,zukt]
 ·simp (disch:=first|omega|simp<;>omega|fail) [-zA,-zB,-zC,-zD,-zE,a73,h0,zos8,zukt]
theorem zny4 {d s:List UInt8} (hs:zj1f s=true):zw9t d s=z7z9 d s:=by
 unfold zw9t z7z9
 by_cases h0:d=[]
 ·rw [if_pos h0,if_pos h0]
 rw [if_neg h0,if_neg h0]
 by_cases ht:s.take (d.length+1)=d++[47]
 ·rw [if_pos ht]
  have hl:=congrArg List.length ht
  rw [List.length_take,List.length_append,List.length_singleton] at hl
  have hlt:d.length<s.length:=by omega
  have h2:s.take d.length=d:=by
   have:=congrArg (List.take d.length) ht
   rw [List.take_take,List.take_left' rfl] at this
   rwa [show min d.length (d.length+1)=d.length by omega] at this
  have h3:s.getD d.length 0=47:=by
   have:=congrArg (·[d.length]?) ht
   simp only [List.getElem?_take_of_lt (Nat.lt_succ_self _),List.getElem?_append_right (Nat.le_refl _)] at this
   rw [List.getD_eq_getElem?_getD,this]; simp
  have h1:d.length+1<s.length:=by
   by_cases e:s.length=d.length+1
   ·exfalso
    have hse:s=d++47::[]:=by rw [← ht,List.take_of_length_le (by omega)]
    rw [hse,zdx1] at hs
    simp [z2fg,okC] at hs
   ·omega
  rw [if_pos ⟨h1,h2,h3⟩]
 ·rw [if_neg ht,if_neg]
  rintro ⟨h1,h2,h3⟩
  apply ht
  have hlt:d.length<s.length:=by omega
  rw [zmqh hlt,h2]
  rw [List.getD_eq_getElem?_getD,List.getElem?_eq_getElem hlt] at h3
  have h3:s[d.length]=47:=h3
  rw [h3]
def T81:Tbl:=addT 41 (.pure (cS dirB)) (addT 72 (.pure (cSSb zf3z)) (addT 73 (.pure (cSSb zos8)) T80))
theorem z2np:T81 71 = .pure (cS za1j):=by simp [T81,T80]
theorem z89t:T81 41 = .pure (cS dirB):=by simp [T81]
theorem zcis:T81 72 = .pure (cSSb zf3z):=by simp [T81]
theorem zufs:T81 73 = .pure (cSSb zos8):=by simp [T81]
theorem z130:T81.Sound P :=
 z0rp (zzn8 fun s=>zljw mix zpnl Tryz.func41 z5y8 (z0t3 s))
 (z0rp (zztp fun s p h h'=>zljw mix zr5o Tryz.func72 z0xs (zaxv s p h h'))
 (z0rp (zztp fun s p h h'=>zljw mix zr5o Tryz.func73 zn06 (zpds s p h h')) zpnl))
theorem zov0 (a b s:List UInt8):Runs T81 a42 [.str a,.str b,.str s] (relD a b s):=by
 refine ⟨?_⟩
 by_cases ha:dirD a=true
 case neg =>
  have hr:relO a b s=none:=by rw [relO,if_neg (by simp [ha])]
  have ha:dirD a=false:=by simpa using ha
  simp (disch:=first|omega|simp<;>omega|fail) [-zA,-zB,-zC,-zD,-zE,a42,z89t,zk5k,dirB,ha,relD,hr,optS]
 by_cases hb:dirD b=true
 case neg =>
  have hr:relO a b s=none:=by rw [relO,if_neg (by simp [hb])]
  have hb:dirD b=false:=by simpa using hb
  simp (disch:=first|omega|simp<;>omega|fail) [-zA,-zB,-zC,-zD,-zE,a42,z89t,zk5k,dirB,ha,hb,relD,hr,optS]
 by_cases hs:zj1f s=true
 case neg =>
  have hr:relO a b s=none:=by rw [relO,if_neg (by simp [hs])]
  have hs:zj1f s=false:=by simpa using hs
  simp (disch:=first|omega|simp<;>omega|fail) [-zA,-zB,-zC,-zD,-zE,a42,z89t,z2np,zk5k,dirB,za1j,ha,hb,hs,relD,hr,optS]
 have la:=zl50 ha
 have lb:=zl50 hb
 have ls:=(zpps hs).2.1
 have hr:relO a b s=(z7z9 a s).bind fun r=>if zj1f (zukt b r)=true then some (zukt b r) else none:=by rw [relO,if_pos ⟨ha,hb,hs⟩]
 have hrest:=zff7 (g:=zf3z) (s:=a) (p:=s) (by omega) (by omega)
 rw [zf3z,zny4 hs] at hrest
 cases hre:z7z9 a s with
 | none =>
  rw [hre] at hrest hr
  have hr:relO a b s=none:=hr
  simp (disch:=first|omega|simp<;>omega|fail) [-zA,-zB,-zC,-zD,-zE,a42,z89t,z2np,zcis,zk5k,dirB,za1j,ha,hb,hs,hrest,relD,hr,optS]
 | some r =>
  have hrl:r.length≤200:=by
   unfold z7z9 at hre
   split at hre
   ·simp only [Option.some.injEq] at hre; rw [← hre]; exact ls
   ·split at hre
    ·simp only [Option.some.injEq] at hre; rw [← hre,List.length_drop]; omega
    ·simp at hre
  rw [hre,optS] at hrest
  rw [hre,Option.bind_some] at hr
  have hun:=zff7 (g:=zos8) (s:=b) (p:=r) (by omega) (by omega)
  rw [zos8] at hun
  by_cases hu:zj1f (zukt b r)=true
  ·rw [if_pos hu] at hr
   simp (disch:=first|omega|simp<;>omega|fail) [-zA,-zB,-zC,-zD,-zE,a42,z89t,z2np,zcis,zufs,zk5k,dirB,za1j,ha,hb,hs,hrest,hun,hu,relD,hr,optS]
  ·rw [if_neg hu] at hr
   have hu:zj1f (zukt b r)=false:=by simpa using hu
   simp (disch:=first|omega|simp<;>omega|fail) [-zA,-zB,-zC,-zD,-zE,a42,z89t,z2np,zcis,zufs,zk5k,dirB,za1j,ha,hb,hs,hrest,hun,hu,relD,hr,optS]
end Go.Proofs.YtjknipdiglpnlaaGreatDoor
set_option linter.unusedSimpArgs false
set_option linter.unusedVariables false
set_option maxRecDepth 8000
namespace Go.Proofs.YtjknipdiglpnlaaGreatDoor
open Go Go.Am
open Classical in
noncomputable def cPd (g:Nat) (p:Str→Bool):List DV→Option DV
 | .str x::cap=>if Am.Sem P g (.str x::cap) (.bool (p x)) then some (.bool (p x)) else none
 | _=>none
theorem zoqy {g:Nat} {p:Str→Bool} {x:Str} {cap:List DV} (h:Am.Sem P g (.str x::cap) (.bool (p x))):cPd g p (.str x::cap)=some (.bool (p x)):=if_pos h
theorem zlx6 {g:Nat} {p:Str→Bool}:(Con.pure (cPd g p)).Sound P g:=by
 intro args v e
 unfold cPd at e
 split at e
 ·split at e
  ·rename_i h; simp at e; subst e; exact h
  ·simp at e
 ·simp at e
open Classical in
noncomputable def ptP (a0:List DV) (r:DV):List DV→Option DV:=fun a=>if a=a0 then some r else none
theorem zr20 {a0:List DV} {r:DV}:ptP a0 r a0=some r:=if_pos rfl
theorem zc2x {k:FuncId} {a0:List DV} {r:DV} (hc:Am.Sem P k a0 r):(Con.pure (ptP a0 r)).Sound P k:=by
 intro args v e
 unfold ptP at e
 split at e
 ·rename_i q; simp at e; subst e q; exact hc
 ·simp at e
noncomputable def TP (g:Nat) (p:Str→Bool):Tbl:=addT g (.pure (cPd g p)) tbl0
theorem TP_g {g:Nat} {p:Str→Bool}:TP g p g = .pure (cPd g p):=by simp [TP]
theorem zdr5 {g:Nat} {p:Str→Bool}:(TP g p).Sound P:=z0rp zlx6 zr5o
def zhr1 (x:Sl Str) (fn:DV) (i:Nat):St:=z13x (x.dv 1 stC) fn (.int .i64 x.l.length) (.int .i64 i) []
theorem znei (x:Sl Str) {g:Nat} {cap:List DV} {p:Str→Bool} (hcap:zbao cap=true) (h : ∀ s,Am.Sem P g (.str s::cap) (.bool (p s))) :
  Runs (TP g p) a82 [x.dv 1 stC,.fn (.func g) [] cap] (.int .i64 (fIx p x.l)):=by
 refine ⟨?_⟩
 have hb:=x.b
 obtain ⟨T,hT⟩ : ∃ T,TP g p=T:=⟨_,rfl⟩
 have hTg:T g = .pure (cPd g p):=by rw [← hT,TP_g]
 rw [hT]
 have hl : ∀ H,lenD H (x.dv 1 stC)=some (.int .i64 x.l.length):=fun H=>zupj
 simp (disch:=first|omega|simp<;>omega|fail) [-zA,-zB,-zC,-zD,-zE,a82,hl]
 refine zlm5 (zhr1 x (.fn (.func g) [] cap)) (fun i=>x.l.length-i) (fun i=>i≤x.l.length ∧ ∀ j (h:j<x.l.length),j<i→p x.l[j]=false) 0 (z515 (by simp (disch:=first|omega|simp<;>omega|fail) [-zA,-zB,-zC,-zD,-zE,zhr1,z13x]) (by simp (disch:=first|omega|simp<;>omega|fail) [-zA,-zB,-zC,-zD,-zE,zhr1,z13x])) ⟨by omega,fun j _ hj=>by omega⟩ (fun i hi => ?_)
 obtain ⟨q1,q2⟩:=hi
 simp only [zhr1]
 by_cases q:i<x.l.length
 ·have g':(i:Int)<x.l.length:=by omega
  have hy : ∀ H,zpsc H 1 (x.dv 1 stC) i=some (.ref (stC x.l[i])):=fun H=>zalo zqv6 q
  have hinv:p x.l[i]=false → ∀ j (h:j<x.l.length),j<i+1→p x.l[j]=false:=fun e j hj hji=>by
   by_cases ej:j=i
   ·subst ej; exact e
   ·exact q2 j hj (by omega)
  have hr:p x.l[i]=true→fIx p x.l=i:=fun e=>z67l q e q2
  obtain ⟨u,hu⟩ : ∃ u,x.l[i]=u:=⟨_,rfl⟩
  rw [hu] at hy hinv hr
  have hc:=zoqy (h u)
  cases e:p u with
  | true =>
   have hr:=hr e
   rw [e] at hc
   simp (disch:=first|omega|simp<;>omega|fail) [-zA,-zB,-zC,-zD,-zE,zu6t,z13x,q,g',hy,stC,hTg,hcap,hc,hr]
  | false =>
   have hinv:=hinv e
   rw [e] at hc
   simp (disch:=first|omega|simp<;>omega|fail) [-zA,-zB,-zC,-zD,-zE,zu6t,z13x,q,g',hy,stC,hTg,hcap,hc]
   exact ⟨i+1,z515 (by simp (disch:=first|omega|simp<;>omega|fail) [-zA,-zB,-zC,-zD,-zE,zhr1,z13x]) (by simp (disch:=first|omega|simp<;>omega|fail) [-zA,-zB,-zC,-zD,-zE,zhr1,z13x]),by omega,by omega,fun j h hj=>hinv j h hj⟩
 ·have g':¬ (i:Int)<x.l.length:=by omega
  have hr:fIx p x.l = -1:=zf0r fun a ha=>by
   obtain ⟨j,hj,e⟩:=List.getElem_of_mem ha
   have:=q2 j hj (by omega)
   rw [e] at this; exact this
  simp (disch:=first|omega|simp<;>omega|fail) [-zA,-zB,-zC,-zD,-zE,zu6t,z13x,q,g',hr]
theorem zwhu (x:Sl Str) {g:Nat} {cap:List DV} {p:Str→Bool} (hcap:zbao cap=true) (h : ∀ s,Am.Sem P g (.str s::cap) (.bool (p s))):Am.Sem P 82 [x.dv 1 stC,.fn (.func g) [] cap] (.int .i64 (fIx p x.l)) :=
 zljw mix zdr5 Tryz.func82 zftu (znei x hcap h)
noncomputable def TI (k:Nat) (a0:List DV) (r:DV):Tbl:=addT k (.pure (ptP a0 r)) tbl0
theorem TI_k {k:Nat} {a0:List DV} {r:DV}:TI k a0 r k = .pure (ptP a0 r):=by simp [TI]
theorem zyyb {k:Nat} {a0:List DV} {r:DV} (hc:Am.Sem P k a0 r):(TI k a0 r).Sound P:=z0rp (zc2x hc) zr5o
theorem zq8h (x:Sl Str) {g:Nat} {cap:List DV} {p:Str→Bool} (hcap:zbao cap=true) :
  Runs (TI 82 [x.dv 1 stC,.fn (.func g) [] cap] (.int .i64 (fIx p x.l))) a58 [x.dv 1 stC,.fn (.func g) [] cap] (.bool (x.l.any p)):=by
 refine ⟨?_⟩
 have h:=zs42 (p:=p) (l:=x.l)
 have hd:decide (0≤fIx p x.l)=x.l.any p:=by
  cases e:x.l.any p with
  | true=>exact decide_eq_true (h.2 e)
  | false=>exact decide_eq_false fun q=>by rw [h.1 q] at e; cases e
 have hfp:zyp8 (.fn (.func g) [] cap)=true:=by simp [zyp8,zbao,hcap]
 simp (disch:=first|omega|simp<;>omega|fail) [-zA,-zB,-zC,-zD,-zE,a58,TI_k,zr20,hfp,hcap,hd]
theorem z7il (x:Sl Str) {g:Nat} {cap:List DV} {p:Str→Bool} (hcap:zbao cap=true) (h : ∀ s,Am.Sem P g (.str s::cap) (.bool (p s))):Am.Sem P 58 [x.dv 1 stC,.fn (.func g) [] cap] (.bool (x.l.any p)) :=
 zljw mix (zyyb (zwhu x hcap h)) Tryz.func58 zt5h (zq8h x hcap)
def sts (l:List Str):List DV:=l.map DV.str
theorem z8p2 (l:List Str):(sts l).length=l.length:=by simp [sts]
theorem z2sf (a b:List Str):sts (a++b)=sts a++sts b:=by simp [sts]
theorem z77x (l:List Str):zbao (sts l)=true:=by
 unfold sts; exact zgzn fun _=>rfl
theorem z8we (l:List Str):l.flatMap stC=sts l:=by
 induction l with
 | nil=>rfl
 | cons a l ih=>rw [List.flatMap_cons,ih]; rfl
def repE (n:Nat):List Str:=List.replicate n []
def qD (k N m:Nat):DV := .ms k N 0 1 m N
def zwyd (p:Str→Bool) (l:List Str):List Str:=l.filter fun a => !p a
theorem zbdz (p:Str→Bool) (l:List Str):(zwyd p l).length≤l.length:=List.length_filter_le ..
theorem zjbt {p:Str→Bool} {l:List Str} (h : ∀ a ∈ l,p a=false):zwyd p l=l:=List.filter_eq_self.2 fun a ha=>by rw [h a ha]; rfl
theorem zvyh {p:Str→Bool} {l:List Str} {x:Str}:zwyd p (l++[x])=zwyd p l++(if p x then [] else [x]):=by
 unfold zwyd; rw [List.filter_append]
 cases h:p x<;>simp [h]
structure CloQ (pre:List AObj) (N:Nat) (g:Nat) (capI:List DV) (p:Str→Bool):Prop where
 sn : ∀ L:List Str,L.length=N → ∃ cap,z4tt (pre++[.cells (sts L)]) 3 capI=some cap∧zbao cap=true ∧ ∀ s,Am.Sem P g (.str s::cap) (.bool (p s))
 ne:g≠82
structure DS where
 K:List Str
 M:List Str
 j:Nat
structure DSok (p:Str→Bool) (A:List Str) (a:DS):Prop where
 k:a.K=zwyd p (A.take a.j)
 l:a.K.length+a.M.length=a.j
 m:1≤a.M.length
 j:a.j≤A.length
def ztmt (pre:List AObj) (A R:List Str) (N n:Nat) (fn:DV) (a:DS):St:=zkbr (qD pre.length N n) fn (.int .i64 a.K.length) (.int .i64 a.j) (pre++[.cells (sts (a.K++(a.M++(A.drop a.j++R))))])
theorem z123 {pre:List AObj} {A R:List Str} {N:Nat} (hN:A.length+R.length=N) (hb:A.length≤4294967296):snap (pre++[.cells (sts (A++R))]) 3 (qD pre.length N A.length)=some ((own A).dv 1 stC):=by
 have ho:objV (pre++[AObj.cells (sts (A++R))]) pre.length N=some (sts (A++R)):=by
  unfold objV ziu0
  rw [List.getElem?_append_right (Nat.le_refl _),Nat.sub_self]; simp [z8p2,hN]
 rw [zqrs hb,z8we,qD,zve7,ho,Option.bind_some,List.drop_zero]
 have ht:(sts (A++R)).take (A.length*1)=sts A:=by rw [Nat.mul_one,z2sf,List.take_left' (z8p2 A)]
 rw [ht,z619 (z77x A)]; rfl
theorem zkfv (pre:List AObj) (A R:List Str) (N:Nat) (hN:A.length+R.length=N) (hA:N≤65536) {g:Nat} {capI:List DV} {p:Str→Bool} (hF:CloQ pre N g capI p) :
  V P (pre++[AObj.cells (sts (A++R))]).length a74.code (retH a74.res (qD pre.length N (zwyd p A).length) (pre++[.cells (sts (zwyd p A++(repE (A.length-(zwyd p A).length)++R)))])) ⟨zr5g a74.ntmps [qD pre.length N A.length,.fn (.func g) [] capI],pre++[.cells (sts (A++R))]⟩:=by
 obtain ⟨hF,hne⟩:=hF
 obtain ⟨cap0,hc1,hc2,hc3⟩:=hF (A++R) (by rw [List.length_append,hN])
 have hsq:=z123 (pre:=pre) (A:=A) (R:=R) (N:=N) hN (by omega)
 have hsem:=zwhu (own A) hc2 hc3
 rw [z3e9 (by omega)] at hsem
 have hfn:snap (pre++[.cells (sts (A++R))]) 3 (.fn (.func g) [] capI)=some (.fn (.func g) [] cap0):=by rw [zxbs,hc1]; rfl
 have hpq : ∀ m,zyp8 (qD pre.length N m)=false:=fun m=>rfl
 have hTI:=zyyb hsem
 obtain ⟨a0,ha0⟩ : ∃ a0,[(own A).dv 1 stC,DV.fn (.func g) [] cap0]=a0:=⟨_,rfl⟩
 have hTk:TI 82 a0 (.int .i64 (fIx p A)) 82 = .pure (ptP a0 (.int .i64 (fIx p A))):=TI_k
 have hpt:ptP a0 (.int .i64 (fIx p A)) [(own A).dv 1 stC,DV.fn (.func g) [] cap0]=some (.int .i64 (fIx p A)):=by rw [ha0]; exact zr20
 rw [ha0] at hTI
 obtain ⟨T,hT⟩ : ∃ T,TI 82 a0 (.int .i64 (fIx p A))=T:=⟨_,rfl⟩
 rw [hT] at hTI hTk
 obtain ⟨X,hX⟩ : ∃ X,fIx p A=X:=⟨_,rfl⟩
 rw [hX] at hTk hpt
 refine zbn1 (V_W mix zr5o ?_)
 simp (disch:=first|omega|simp<;>omega|fail) [-zA,-zB,-zC,-zD,-zE,a74]
 refine zbn1 (V_W mix hTI ?_)
 simp (disch:=first|omega|simp<;>omega|fail) [-zA,-zB,-zC,-zD,-zE,hTk,hpq,hsq,hfn,hpt]
 refine zbn1 (zbn1 (V_W mix zr5o ?_))
 simp (disch:=first|omega|simp<;>omega|fail) [-zA,-zB,-zC,-zD,-zE]
 refine V_W mix zr5o ?_
 rcases za4c p A with ⟨f1,f2⟩|⟨i,hi,f1,f2,f3⟩
 ·rw [hX] at f1
  subst f1
  have hk:=zjbt f2
  rw [hk,Nat.sub_self]
  simp (disch:=first|omega|simp<;>omega|fail) [-zA,-zB,-zC,-zD,-zE,repE]
 rw [hX] at f1
 subst f1
 have hi1:¬ (i:Int) = -1:=by omega
 simp (disch:=first|omega|simp<;>omega|fail) [-zA,-zB,-zC,-zD,-zE,hi1]
 refine zbn1 (zbn1 (V_W mix zr5o ?_))
 simp (disch:=first|omega|simp<;>omega|fail) [-zA,-zB,-zC,-zD,-zE]
 obtain ⟨fn,hfnq⟩ : ∃ fn,DV.fn (.func g) [] capI=fn:=⟨_,rfl⟩
 obtain ⟨n,hn⟩ : ∃ n,A.length=n:=⟨_,rfl⟩
 have hki:zwyd p (A.take i)=A.take i:=zjbt fun a ha=>by
  obtain ⟨j,hj,e⟩:=List.getElem_of_mem ha
  rw [List.length_take] at hj
  rw [← e,List.getElem_take]; exact f3 j (by omega) (by omega)
 have hil:(A.take i).length=i:=by rw [List.length_take]; omega
 have hsp:A.take i++([A[i]]++(A.drop (i+1)++R))=A++R:=by
  rw [List.singleton_append,← List.cons_append,← List.drop_eq_getElem_cons hi,← List.append_assoc,List.take_append_drop]
 have hkA:zwyd p (A.take (i+1))=A.take i:=by
  rw [List.take_succ_eq_append_getElem hi,zvyh,f2,hki]; simp
 rw [hfnq,hn]
 refine z3mo (ztbr (ztmt pre A R N n fn) (fun a=>n-a.j) (DSok p A) ⟨A.take i,[A[i]],i+1⟩ (z515 (by simp (disch:=first|omega|simp<;>omega|fail) [-zA,-zB,-zC,-zD,-zE,ztmt,zkbr,hil]) (by simp only [ztmt,zkbr]; rw [hsp])) ⟨hkA.symm,by simp only [List.length_singleton]; omega,by simp,by simp only; omega⟩ (fun a ha => ?_))
 obtain ⟨K,M,j⟩:=a
 obtain ⟨a1,a2,a3,a4⟩:=ha
 simp only at a1 a2 a3 a4
 simp only [ztmt]
 refine zbn1 (V_W mix zr5o ?_)
 by_cases h:j<n
 case neg =>
  have h':¬ (j:Int)<n:=by omega
  have hK:zwyd p A=K:=by rw [a1,List.take_of_length_le (by omega)]
  have hd:A.drop j=[]:=List.drop_of_length_le (by omega)
  have hKl:K.length+M.length=n:=by omega
  rw [hd,List.nil_append]
  obtain ⟨c,hc⟩ : ∃ c,K.length=c:=⟨_,rfl⟩
  have hfl:(sts (K++(M++R))).length=N:=by rw [z8p2]; simp only [List.length_append]; omega
  have hs1 : ∀ H,ziwb H 1 (.ms pre.length N 0 1 n N) (some (.int .i64 c)) none none=(objV H pre.length N).map fun _ => .ms pre.length N c 1 (n-c) N:=fun H=>by
   rw [zam4 (l:=c) (m:=n) (by simp [zo77,iD]; omega),Nat.zero_add,Nat.mul_one]
  have hs2 : ∀ H,ziwb H 1 (.ms pre.length N 0 1 n N) none (some (.int .i64 c)) none=(objV H pre.length N).map fun _ => .ms pre.length N 0 1 c N:=fun H=>by
   rw [zam4 (l:=0) (m:=c) (by simp [zo77,iD]; omega),Nat.zero_mul,Nat.zero_add,Nat.sub_zero]
  have hcl : ∀ H,clrD H 1 [.str []] (.ms pre.length N c 1 (n-c) N)=(objV H pre.length N).map fun l=>(.tup [],H.set pre.length (.cells (zk7y l c (reps (n-c) [.str []])))):=fun H=>z7ty rfl (by decide) rfl (by omega)
  have hrp : ∀ m,reps m [DV.str []]=sts (repE m):=fun m=>by
   unfold repE
   induction m with
   | zero=>rfl
   | succ m ih=>rw [List.replicate_succ]; show _++reps m _=_; rw [ih]; rfl
  have hspl:zk7y (sts (K++(M++R))) c (reps (n-c) [.str []])=sts (K++(repE (n-c)++R)):=by
   rw [hrp]
   unfold zk7y
   simp only [z2sf]
   rw [List.take_left' (by rw [z8p2,hc]),z8p2,repE,List.length_replicate]
   have:(sts K++(sts M++sts R)).drop (c+(n-c))=sts R:=by
    rw [← List.append_assoc,List.drop_left' (by rw [List.length_append,z8p2,z8p2]; omega)]
   rw [this,List.append_assoc]
  have hfl2:(sts (K++(repE (n-c)++R))).length=N:=by rw [z8p2]; simp only [List.length_append,repE,List.length_replicate]; omega
  rw [hK,hc]
  obtain ⟨X1,hX1⟩ : ∃ X1,sts (K++(M++R))=X1:=⟨_,rfl⟩
  obtain ⟨X2,hX2⟩ : ∃ X2,sts (K++(repE (n-c)++R))=X2:=⟨_,rfl⟩
  rw [hX1] at hfl hspl
  rw [hX2] at hfl2 hspl
  rw [zmcu] at hspl
  rw [hX1,hX2]
  simp (disch:=first|omega|simp<;>omega|fail) [-zA,-zB,-zC,-zD,-zE,zndk,zkbr,qD,h,h',hfl,zjj2,z1zn]
  refine zbn1 (V_W mix zr5o ?_)
  simp (disch:=first|omega|simp<;>omega|fail) [-zA,-zB,-zC,-zD,-zE,hs1,hcl,hspl,hfl,zjj2,z1zn,zxft]
  refine zbn1 (V_W mix zr5o ?_)
  simp (disch:=first|omega|simp<;>omega|fail) [-zA,-zB,-zC,-zD,-zE,hs2,hfl2,zjj2,z1zn]
  refine V_W mix zr5o ?_
  simp (disch:=first|omega|simp<;>omega|fail) [-zA,-zB,-zC,-zD,-zE]
 have h':(j:Int)<n:=by omega
 have hjl:j<A.length:=by omega
 obtain ⟨x,hx⟩ : ∃ x,A[j]=x:=⟨_,rfl⟩
 have hd:A.drop j=x::A.drop (j+1):=by rw [List.drop_eq_getElem_cons hjl,hx]
 have hk1:zwyd p (A.take (j+1))=K++(if p x then [] else [x]):=by rw [List.take_succ_eq_append_getElem hjl,zvyh,← a1,hx]
 obtain ⟨D,hD⟩ : ∃ D,A.drop (j+1)=D:=⟨_,rfl⟩
 have hDl:D.length=n-(j+1):=by rw [← hD,List.length_drop,hn]
 rw [hD] at hd
 rw [hd]
 obtain ⟨L,hL⟩ : ∃ L,K++(M++(x::D++R))=L:=⟨_,rfl⟩
 have hLl:L.length=N:=by rw [← hL]; simp; omega
 have hjL : ∀ h:j<L.length,L[j]=x:=fun h=>by
  subst hL
  rw [List.getElem_append_right (by omega),List.getElem_append_right (by omega)]
  simp [show j-K.length-M.length=0 by omega]
 rw [hL]
 obtain ⟨cap,hp1,hp2,hp3⟩:=hF L hLl
 have hcd0:=zoqy (hp3 x)
 have hcd : ∀ H,zyo0 (cPd g p) (.str x::capI) (pre++[.cells (sts L)])=H→H=some (.bool (p x)):=fun H e=>by
  rw [← e]
  cases hI:zbao capI with
  | true =>
   have e1:capI=cap:=by rw [z619 hI] at hp1; exact Option.some.inj hp1
   rw [z7h3 (by simp only [zbao,zyp8,hI,Bool.and_self]),e1,hcd0]
  | false=>rw [zl41 (by simp only [zbao,hI,Bool.and_false]),zrz6,hp1,zpcv]; simp [hcd0]
 have hcd:=hcd _ rfl
 have hjN:j<L.length:=by omega
 have o1:oneC 1 false ((sts L).drop j)=some (.str x):=by unfold sts; rw [z68l hjN,hjL]
 have hGl:(sts L).length=N:=by rw [z8p2,hLl]
 obtain ⟨c,hc⟩ : ∃ c,K.length=c:=⟨_,rfl⟩
 have hcn:c<n:=by omega
 have hcn':(c:Int)<n:=by omega
 have hst : ∀ h:List AObj,zy6o h pre.length 1 c (.str x) (some (sts L))=some (.junk,h.set pre.length (.cells (sts (L.set c x)))):=fun h=>by
  rw [Am.storeO_1 rfl rfl (by omega)]
  unfold sts
  rw [List.map_set]
 obtain ⟨G,hG⟩ : ∃ G,sts L=G:=⟨_,rfl⟩
 rw [hG] at hGl hcd hst o1
 rw [hG,hc]
 have hTP:=zdr5 (g:=g) (p:=p)
 have hTg:=TP_g (g:=g) (p:=p)
 obtain ⟨T2,hT2⟩ : ∃ T2,TP g p=T2:=⟨_,rfl⟩
 rw [hT2] at hTP hTg
 simp (disch:=first|omega|simp<;>omega|fail) [-zA,-zB,-zC,-zD,-zE,zndk,zkbr,qD,h,h',hGl,zjj2,z1zn]
 refine zbn1 (z3mo (zbn1 (V_W mix zr5o ?_)))
 simp (disch:=first|omega|simp<;>omega|fail) [-zA,-zB,-zC,-zD,-zE,h,h',hGl,zjj2,z1zn,o1]
 rw [← hfnq]
 refine zbn1 (V_W mix hTP ?_)
 cases hsm:p x with
 | true =>
  rw [hsm] at hcd hk1
  have hfin:sts (K++((M++[x])++(A.drop (j+1)++R)))=G:=by rw [hD,← hG,← hL]; simp
  simp (disch:=first|omega|simp<;>omega|fail) [-zA,-zB,-zC,-zD,-zE,hTg,hcd,-ztar]
  refine V_W mix zr5o ?_
  simp (disch:=first|omega|simp<;>omega|fail) [-zA,-zB,-zC,-zD,-zE]
  refine V_W mix zr5o ?_
  simp (disch:=first|omega|simp<;>omega|fail) [-zA,-zB,-zC,-zD,-zE]
  exact ⟨⟨K,M++[x],j+1⟩,z515 (by simp (disch:=first|omega|simp<;>omega|fail) [-zA,-zB,-zC,-zD,-zE,ztmt,zkbr,qD,hc,hfnq]) (by simp only [ztmt,zkbr]; rw [hfin]),by simp only; omega,⟨by simpa using hk1.symm,by simp only [List.length_append,List.length_singleton]; omega,by simp,by simp only; omega⟩⟩
 | false =>
  rw [hsm] at hcd hk1
  obtain ⟨m0,M',rfl⟩ : ∃ m0 M',M=m0::M':=by
   cases M with
   | nil=>simp at a3
   | cons m0 M'=>exact ⟨m0,M',rfl⟩
  have hset:sts (L.set c x)=sts ((K++[x])++((M'++[x])++(D++R))):=by
   rw [← hL,← hc,List.set_append_right _ _ (Nat.le_refl _),Nat.sub_self]; simp
  simp (disch:=first|omega|simp<;>omega|fail) [-zA,-zB,-zC,-zD,-zE,hTg,hcd,-ztar]
  refine V_W mix zr5o ?_
  simp (disch:=first|omega|simp<;>omega|fail) [-zA,-zB,-zC,-zD,-zE,hGl,zjj2,z1zn,hst,zxft,hcn,hcn',hset]
  refine V_W mix zr5o ?_
  simp (disch:=first|omega|simp<;>omega|fail) [-zA,-zB,-zC,-zD,-zE]
  exact ⟨⟨K++[x],M'++[x],j+1⟩,z515 (by simp (disch:=first|omega|simp<;>omega|fail) [-zA,-zB,-zC,-zD,-zE,ztmt,zkbr,qD,hc,hfnq]) (by simp only [ztmt,zkbr]; rw [hD]; simp),by simp only; omega,⟨by simpa using hk1.symm,by simp only [List.length_append,List.length_singleton]; simp only [List.length_cons] at a2; omega,by simp,by simp only; omega⟩⟩
theorem zb6u (pre:List AObj) (A R:List Str) (N:Nat) (hN:A.length+R.length=N) (hA:N≤65536) {g:Nat} {capI:List DV} {p:Str→Bool} (hF:CloQ pre N g capI p) :
  zwy1 P 74 [qD pre.length N A.length,.fn (.func g) [] capI] (pre++[.cells (sts (A++R))]) (fun d h=>d=qD pre.length N (zwyd p A).length∧h=pre++[.cells (sts (zwyd p A++(repE (A.length-(zwyd p A).length)++R)))]) :=
 zrqk Tryz.func74 z26r (zkfv pre A R N hN hA hF)
end Go.Proofs.YtjknipdiglpnlaaGreatDoor
set_option linter.unusedSimpArgs false
set_option linter.unusedVariables false
set_option maxRecDepth 8000
namespace Go.Proofs.YtjknipdiglpnlaaGreatDoor
open Go Go.Am
theorem zys6 (x:Sl Lnk):zyp8 (x.dv 3 lkC)=true:=zxxb z53g x
theorem zi59 {x y:Sl Lnk} (e:x.dv 3 lkC=y.dv 3 lkC):x=y:=zcq7 z9tw (by decide) (fun _ _=>zja4) e
def qV (N m:Nat):DV:=if N=0 then .nils else qD 3 N m
def qT (N:Nat) (L:List Str):List AObj:=if N=0 then [] else [.cells (sts L)]
structure Fr where
 a:List DV
 b:List DV
 pa:zbao a=true
 pb:zbao b=true
 s:Sd
 N:Nat
 hN:N≤65536
def Fr.H (F:Fr) (Q R:List Str):List AObj:=[.cells F.a,.cells F.b,.cells (sdC F.s (qV F.N Q.length))]++qT F.N (Q++R)
theorem z28u {n:Nat} {s:Sd} {q:DV} (h:Am.below n q=true):z1r6 n (sdC s q)=true:=by
 simp only [sdC,z1r6,Am.below,zb48,z8b8 n _ (zys6 _),h,Bool.and_self]
theorem Fr.below (F:Fr) (Q R:List Str) {n:Nat} (hn:(F.H Q R).length≤n):zlf2 n (F.H Q R)=true:=by
 unfold Fr.H at hn ⊢
 by_cases h:F.N=0
 ·rw [qV,qT,if_pos h,if_pos h] at *
  simp only [List.append_nil,zlf2,zmq5 n _ F.pa,zmq5 n _ F.pb,z28u (show Am.below n .nils=true from rfl),Bool.and_self]
 ·rw [qV,qT,if_neg h,if_neg h] at *
  have h3:Am.below n (qD 3 F.N Q.length)=true:=by simp only [qD,Am.below]; simp at hn; simp; omega
  simp only [List.cons_append,List.nil_append,zlf2,zmq5 n _ F.pa,zmq5 n _ F.pb,z28u h3,zmq5 n _ (z77x _),Bool.and_self]
theorem Fr.len (F:Fr) (Q R:List Str):2<(F.H Q R).length∧(F.N≠0→3<(F.H Q R).length):=by
 unfold Fr.H qT
 split
 ·rename_i h; exact ⟨by simp,fun q=>absurd h q⟩
 ·exact ⟨by simp,fun _=>by simp⟩
theorem zwrr (s:Sd) (q:DV):(sdC s q).length=6:=rfl
theorem Fr.hO (F:Fr) (Q R:List Str) (X:List AObj):objV (F.H Q R++X) 2 6=some (sdC F.s (qV F.N Q.length)):=rfl
theorem Fr.hO0 (F:Fr) (Q R:List Str):objV (F.H Q R) 2 6=some (sdC F.s (qV F.N Q.length)):=rfl
theorem zi9h {s:Sd} {q:DV}:oneC 1 false ((sdC s q).drop 5)=some q:=rfl
theorem zse0 {h:List AObj} {k:Nat} {s:Sd} {q:DV}:z4tt h k (sdC s q)=(snap h k q).map fun q'=>sdC s q':=by
 have e : ∀ (x:Sl Ent),snap h k (x.dv 33 enC)=some (x.dv 33 enC):=fun x=>z6nl (zru8 x)
 have e2:snap h k (s.done.dv 3 lkC)=some (s.done.dv 3 lkC):=z6nl (zys6 _)
 simp only [sdC,zrz6,zpcv,e,e2,zfu7,Option.bind_some,Option.map_some]
 cases snap h k q<;>rfl
theorem z65m {s:Sd} {q:DV} (h:zyp8 q=true):zbao (sdC s q)=true:=by
 simp only [sdC,zbao,zyp8,zru8,zys6,h,Bool.and_self]
structure Clo (s:Sd) (g:Nat) (capI:List DV) (p:Str→Bool):Prop where
 sn : ∀ (H:List AObj) (q q':DV),objV H 2 6=some (sdC s q)→(∀ k,snap H (k+1) q=some q')→zyp8 q'=true → ∃ cap,z4tt H 3 capI=some cap∧zbao cap=true ∧ ∀ x,Am.Sem P g (.str x::cap) (.bool (p x))
 ne:g≠82
theorem zwpy {H:List AObj} {N m k:Nat} {L:List Str} (ho:objV H 3 N=some (sts L)):snap H (k+1) (qD 3 N m)=some (.sl false 1 m ((sts L).take (m*1))):=by
 have hp:zbao ((sts L).take (m*1))=true:=by
  unfold sts; rw [← List.map_take]; exact z77x _
 rw [qD,zve7,ho,Option.bind_some,List.drop_zero,z619 hp]; rfl
theorem Clo.q {s:Sd} {g:Nat} {capI:List DV} {p:Str→Bool} (h:Clo s g capI p) (a b:List DV) (N m:Nat):CloQ [.cells a,.cells b,.cells (sdC s (qD 3 N m))] N g capI p:=by
 refine ⟨fun L hL => ?_,h.ne⟩
 have ho:objV ([AObj.cells a,.cells b,.cells (sdC s (qD 3 N m))]++[.cells (sts L)]) 3 N=some (sts L):=by
  show (if (sts L).length=N then some (sts L) else none)=_
  rw [if_pos (by rw [z8p2,hL])]
 refine h.sn _ (qD 3 N m) _ rfl (fun k=>zwpy ho) ?_
 simp only [zyp8]
 unfold sts; rw [← List.map_take]; exact z77x _
theorem zw4a:(nilS:Sl Str).dv 1 stC = .nils:=rfl
theorem zr82 (H:List AObj) {g:Nat} {capI cap:List DV} {p:Str→Bool} (h1:z4tt H 3 capI=some cap) (h2:zbao cap=true) :
  RunsH (TI 82 [.nils,.fn (.func g) [] cap] (.int .i64 (-1))) a74 [.nils,.fn (.func g) [] capI] H .nils H:=by
 refine ⟨?_⟩
 have hfn:snap H 3 (.fn (.func g) [] capI)=some (.fn (.func g) [] cap):=by rw [zxbs,h1]; rfl
 obtain ⟨a0,ha0⟩ : ∃ a0,[DV.nils,DV.fn (.func g) [] cap]=a0:=⟨_,rfl⟩
 have hTk:TI 82 a0 (.int .i64 (-1)) 82 = .pure (ptP a0 (.int .i64 (-1))):=TI_k
 have hpt:ptP a0 (.int .i64 (-1)) [DV.nils,DV.fn (.func g) [] cap]=some (.int .i64 (-1)):=by rw [ha0]; exact zr20
 rw [ha0]
 obtain ⟨T,hT⟩ : ∃ T,TI 82 a0 (.int .i64 (-1))=T:=⟨_,rfl⟩
 rw [hT] at hTk ⊢
 have hcall:zyo0 (ptP a0 (.int .i64 (-1))) [DV.nils,.fn (.func g) [] capI] H=some (.int .i64 (-1)):=by
  cases hI:zbao capI with
  | true =>
   have e1:capI=cap:=by rw [z619 hI] at h1; exact Option.some.inj h1
   rw [z7h3 (by simp [zbao,zyp8,hI]),e1,hpt]
  | false=>rw [zl41 (by simp [zbao,zyp8,hI]),zrz6,z7d7,zrz6,hfn]; simp [hpt]
 simp (disch:=first|omega|simp<;>omega|fail) [-zA,-zB,-zC,-zD,-zE,a74,hTk,hcall,-ztar]
theorem zvu6 (H:List AObj) {g:Nat} {capI cap:List DV} {p:Str→Bool} (h1:z4tt H 3 capI=some cap) (h2:zbao cap=true) (h3 : ∀ x,Am.Sem P g (.str x::cap) (.bool (p x))) :
  zwy1 P 74 [.nils,.fn (.func g) [] capI] H (fun d h=>d = .nils∧h=H):=by
 have hs:=zwhu nilS h2 h3
 rw [zw4a] at hs
 exact zv22 mix (zyyb hs) Tryz.func74 z26r (zr82 (p:=p) H h1 h2)
theorem z5ht {h:List AObj} {id:Nat} {s:Sd} {q v:DV} (hc:v.cells=[v]) (ho:v.one=true):zy6o h id 1 5 v (some (sdC s q))=some (.junk,h.set id (.cells (sdC s v))):=by
 rw [Am.storeO_1 hc ho (by rw [zwrr]; decide)]; rfl
theorem zcie (F:Fr) (Q R:List Str) (hL:Q.length+R.length=F.N) {g:Nat} {capI:List DV} {p:Str→Bool} (hF:Clo F.s g capI p) :
  zwy1 P 48 [.mp 2 6 0,.fn (.func g) [] capI] (F.H Q R) (fun d h=>d = .tup []∧h=F.H (zwyd p Q) (repE (Q.length-(zwyd p Q).length)++R)):=by
 by_cases h0:F.N=0
 ·have hQ:Q=[]:=List.eq_nil_of_length_eq_zero (by omega)
  have hR:R=[]:=List.eq_nil_of_length_eq_zero (by omega)
  subst hQ hR
  obtain ⟨cap,h1,h2,h3⟩:=hF.sn (F.H [] []) .nils .nils (by unfold Fr.H; rw [qV,if_pos h0]; rfl) (fun k=>z7d7) rfl
  have hc:=zvu6 (F.H [] []) h1 h2 h3
  have hO:=F.hO0 [] []
  have e:F.H (zwyd p []) (repE (([]:List Str).length-(zwyd p []).length)++[])=F.H [] []:=rfl
  have eq0:qV F.N ([]:List Str).length = .nils:=by rw [qV,if_pos h0]
  rw [eq0] at hO
  have hset:(F.H [] []).set 2 (.cells (sdC F.s .nils))=F.H [] []:=by unfold Fr.H; rw [eq0]; rfl
  rw [e]
  obtain ⟨H,hH⟩ : ∃ H,F.H [] []=H:=⟨_,rfl⟩
  rw [hH] at hc hO hset ⊢
  refine zv22 mix (z84q hc) Tryz.func48 zwi2 (show RunsH _ _ _ _ _ _ from ⟨?_⟩)
  have hst:zy6o H 2 1 5 .nils (some (sdC F.s .nils))=some (.junk,H.set 2 (.cells (sdC F.s .nils))):=z5ht rfl rfl
  simp (disch:=first|omega|simp<;>omega|fail) [-zA,-zB,-zC,-zD,-zE,a48,hO,zi9h,TH_k,zpvh,hst,hset]
 ·have hq : ∀ m,qV F.N m=qD 3 F.N m:=fun m=>by rw [qV,if_neg h0]
  have hc:=zb6u [.cells F.a,.cells F.b,.cells (sdC F.s (qD 3 F.N Q.length))] Q R F.N hL F.hN (hF.q F.a F.b F.N Q.length)
  obtain ⟨c,hcc⟩ : ∃ c,(zwyd p Q).length=c:=⟨_,rfl⟩
  have e1:F.H Q R=[.cells F.a,.cells F.b,.cells (sdC F.s (qD 3 F.N Q.length)),.cells (sts (Q++R))]:=by unfold Fr.H; rw [hq,qT,if_neg h0]; rfl
  have e2:F.H (zwyd p Q) (repE (Q.length-c)++R)=[.cells F.a,.cells F.b,.cells (sdC F.s (qD 3 F.N c)),.cells (sts (zwyd p Q++(repE (Q.length-c)++R)))]:=by unfold Fr.H; rw [hq,qT,if_neg h0,hcc]; rfl
  rw [hcc]
  rw [e1,e2]
  simp only [List.length_cons,List.length_nil,Nat.zero_add,Nat.reduceAdd,List.cons_append,List.nil_append,hcc] at hc
  obtain ⟨X,hX⟩ : ∃ X,sts (zwyd p Q++(repE (Q.length-c)++R))=X:=⟨_,rfl⟩
  obtain ⟨Y,hY⟩ : ∃ Y,sts (Q++R)=Y:=⟨_,rfl⟩
  rw [hX,hY] at hc
  rw [hX,hY]
  refine zv22 mix (z84q hc) Tryz.func48 zwi2 (show RunsH _ _ _ _ _ _ from ⟨?_⟩)
  have hst : ∀ (h:List AObj) (q:DV),zy6o h 2 1 5 (qD 3 F.N c) (some (sdC F.s q))=some (.junk,h.set 2 (.cells (sdC F.s (qD 3 F.N c)))):=fun h q=>z5ht rfl rfl
  have hob : ∀ (m:Nat) (Z:List DV),objV [.cells F.a,.cells F.b,.cells (sdC F.s (qD 3 F.N m)),.cells Z] 2 6=some (sdC F.s (qD 3 F.N m)):=fun m Z=>rfl
  simp (disch:=first|omega|simp<;>omega|fail) [-zA,-zB,-zC,-zD,-zE,a48,hob,zi9h,TH_k,zpvh,hst]
end Go.Proofs.YtjknipdiglpnlaaGreatDoor
set_option linter.unusedSimpArgs false
set_option linter.unusedVariables false
set_option maxRecDepth 8000
namespace Go.Proofs.YtjknipdiglpnlaaGreatDoor
open Go Go.Am
def zmcg:List Lnk→Rul→Sl Ent
 | [],_=>nilS
 | x::l,r=>if x.step=r.frm then (if r.prod then x.p else x.m) else zmcg l r
theorem zqyy {r:Rul} : ∀ {l:List Lnk} {i:Nat} (hi:i<l.length),l[i].step=r.frm→(∀ j (h:j<l.length),j<i→l[j].step≠r.frm)→zmcg l r=if r.prod then l[i].p else l[i].m
 | a::l,0,_,h,_=>by simp only [List.getElem_cons_zero] at h; simp [zmcg,h]
 | a::l,i+1,hi,h,h2=>by
  have ha:a.step≠r.frm:=h2 0 (by simp) (by omega)
  have ih:=zqyy (l:=l) (i:=i) (by simpa using hi) (by simpa using h) fun j hj hji=>by
   have:=h2 (j+1) (by simpa using hj) (by omega)
   simpa using this
  simp [zmcg,ha,ih]
theorem zlwx {r:Rul} : ∀ {l:List Lnk},(∀ a ∈ l,a.step≠r.frm)→zmcg l r=nilS
 | [],_=>rfl
 | a::l,h=>by simp [zmcg,h a (by simp),zlwx (l:=l) fun b hb=>h b (by simp [hb])]
theorem zh5h {H R:List AObj} {cs cs':List DV} {id off:Nat} (ho:objV (H++R) id cs.length=some cs) (hid:H.length≤id) (hf:fzSo (kLt H.length) (H++R) 2 (cs.drop off)=some cs'):mk1 (kLt H.length) (H++R) (.mp id cs.length off) = .ref cs':=by
 refine zwy6 ?_
 rw [zept,if_neg (by simp [kLt]; omega),ho,Option.bind_some,hf]; rfl
theorem zb5y {K:Nat→Bool} {h:List AObj} {id v o:Nat} (hk:K id=true):fzSo K h 2 [.mp id v o]=some [.mp id v o]:=by
 rw [zhuj,zmvq,z0h0,if_pos hk]; rfl
theorem z27d {H:List AObj} {l:List DV} {R:List AObj}:objV (H ++ .cells l::R) H.length l.length=some l:=by
 rw [zjj2,z1zn,if_pos rfl]
theorem zpw0 {H:List AObj} {x:AObj} {l:List DV} {R:List AObj}:objV (H++x :: .cells l::R) (H.length+1) l.length=some l:=by
 unfold objV ziu0; rw [List.getElem?_append_right (by omega),show H.length+1-H.length=1 by omega]; simp
theorem z1v4 {H:List AObj} {x y:AObj} {l:List DV} {R:List AObj}:objV (H++x::y :: .cells l::R) (H.length+2) l.length=some l:=by
 unfold objV ziu0; rw [List.getElem?_append_right (by omega),show H.length+2-H.length=2 by omega]; simp
def zyzl (H:List AObj) (r:Rul) (x:Sl Lnk) (i:Nat):St:=zgz1 (.ref (ruC r)) (x.dv 3 lkC) (.int .i64 x.l.length) (.int .i64 i) H
theorem zgr6 (F:Fr) (Q R:List Str) (r:Rul):zwy1 P 47 [.mp 2 6 0,.agg (ruC r)] (F.H Q R) (fun d h=>d=(zmcg F.s.done.l r).dv 33 enC∧h=F.H Q R):=by
 refine zrqk Tryz.func47 zzqr ?_
 have hl2:=(F.len Q R).1
 have hbl:=F.below Q R (Nat.le_refl _)
 have hO:=F.hO0 Q R
 obtain ⟨q,hq⟩ : ∃ q,qV F.N Q.length=q:=⟨_,rfl⟩
 rw [hq] at hO
 obtain ⟨H,hH⟩ : ∃ H,F.H Q R=H:=⟨_,rfl⟩
 rw [hH] at hO hl2 hbl ⊢
 obtain ⟨x,hx⟩ : ∃ x,F.s.done=x:=⟨_,rfl⟩
 have hxd:oneC 1 false ((sdC F.s q).drop 4)=some (x.dv 3 lkC):=by rw [← hx]; rfl
 rw [hx]
 have hb:=x.b
 have hlx : ∀ H,lenD H (x.dv 3 lkC)=some (.int .i64 x.l.length):=fun H=>zupj
 have e1:=zz5t (H:=H) (cs:=ruC r) (off:=0) (z3bz r)
 have e2 : ∀ h,mk1 (kLt H.length) h (.mp 2 6 0) = .mp 2 6 0:=fun h=>zd3c (by simp [Am.below,hl2])
 refine zbn1 (V_W mix zr5o ?_)
 simp (disch:=first|omega|simp<;>omega|fail) [-zA,-zB,-zC,-zD,-zE,a47]
 refine zs10 (n0:=H.length) (H:=H) (cs:=ruC r) (t':=[.mp 2 6 0,.junk,.junk,.ref (ruC r)]++js 24) hbl (Nat.le_refl _) ?_ (by simp (disch:=first|omega|simp<;>omega|fail) [-zA,-zB,-zC,-zD,-zE,z1r6,Am.below,hl2]) ?_
 ·rw [zpvo,List.drop_zero] at e1
  simp (disch:=first|omega|simp<;>omega|fail) [-zA,-zB,-zC,-zD,-zE,e1,e2,-z1bt,-zdpe]
 refine zbn1 (zbn1 (V_W mix zr5o ?_))
 simp (disch:=first|omega|simp<;>omega|fail) [-zA,-zB,-zC,-zD,-zE,hO,hxd,hlx]
 refine z3mo (ztbr (zyzl H r x) (fun i=>x.l.length-i) (fun i=>i≤x.l.length ∧ ∀ j (h:j<x.l.length),j<i→x.l[j].step≠r.frm) 0 (z515 (by simp (disch:=first|omega|simp<;>omega|fail) [-zA,-zB,-zC,-zD,-zE,zyzl,zgz1]) (by simp (disch:=first|omega|simp<;>omega|fail) [-zA,-zB,-zC,-zD,-zE,zyzl,zgz1])) ⟨by omega,fun j _ hj=>by omega⟩ (fun i hi => ?_))
 obtain ⟨q1,q2⟩:=hi
 simp only [zyzl]
 refine zbn1 (V_W mix zr5o ?_)
 by_cases g:i<x.l.length
 case neg =>
  have g':¬ (i:Int)<x.l.length:=by omega
  have hr:zmcg x.l r=nilS:=zlwx fun a ha=>by
   obtain ⟨j,hj,e⟩:=List.getElem_of_mem ha
   have:=q2 j hj (by omega)
   rw [e] at this; exact this
  rw [hr]
  simp (disch:=first|omega|simp<;>omega|fail) [-zA,-zB,-zC,-zD,-zE,zzdb,zgz1,g,g']
  refine zbn1 (V_W mix zr5o ?_)
  simp (disch:=first|omega|simp<;>omega|fail) [-zA,-zB,-zC,-zD,-zE]
  refine zbn1 (V_W mix zr5o ?_)
  simp (disch:=first|omega|simp<;>omega|fail) [-zA,-zB,-zC,-zD,-zE]
  refine V_W mix zr5o ?_
  simp (disch:=first|omega|simp<;>omega|fail) [-zA,-zB,-zC,-zD,-zE,z2i7]
  try rfl
 have g':(i:Int)<x.l.length:=by omega
 have hy : ∀ H,zpsc H 3 (x.dv 3 lkC) i=some (.ref (lkC x.l[i])):=fun H=>zalo z9tw g
 have hinv:x.l[i].step≠r.frm → ∀ j (h:j<x.l.length),j<i+1→x.l[j].step≠r.frm:=fun e j hj hji=>by
  by_cases ej:j=i
  ·subst ej; exact e
  ·exact q2 j hj (by omega)
 have hr:x.l[i].step=r.frm→zmcg x.l r=if r.prod then x.l[i].p else x.l[i].m:=fun e=>zqyy g e q2
 obtain ⟨u,hu⟩ : ∃ u,x.l[i]=u:=⟨_,rfl⟩
 rw [hu] at hy hinv hr
 have e3:=zz5t (H:=H) (cs:=lkC u) (off:=0) (z53g u)
 have e4 : ∀ h,mk1 (kLt H.length) h (x.dv 3 lkC)=x.dv 3 lkC:=fun h=>zvft (zys6 x)
 have e5 : ∀ h,mk1 (kLt H.length) h (.ref (ruC r)) = .ref (ruC r):=fun h=>zvft (by simp [zyp8])
 have e6 : ∀ h,mk1 (kLt H.length) h (.ref (lkC u)) = .ref (lkC u):=fun h=>zvft (by simp [zyp8,z53g])
 simp (disch:=first|omega|simp<;>omega|fail) [-zA,-zB,-zC,-zD,-zE,zzdb,zgz1,g,g']
 refine zbn1 (V_W mix zr5o ?_)
 simp (disch:=first|omega|simp<;>omega|fail) [-zA,-zB,-zC,-zD,-zE]
 refine zbn1 (z3mo (zbn1 (V_W mix zr5o ?_)))
 simp (disch:=first|omega|simp<;>omega|fail) [-zA,-zB,-zC,-zD,-zE,hy,zrer]
 refine zs10 (n0:=H.length) (H:=H) (cs:=lkC u) (t':=[.junk,.junk,.junk,.ref (ruC r),.junk,.junk,.ref (lkC u),.junk,.junk,.junk,x.dv 3 lkC,.int .i64 x.l.length,.int .i64 i]++js 15) hbl (Nat.le_refl _) ?_ (by simp (disch:=first|omega|simp<;>omega|fail) [-zA,-zB,-zC,-zD,-zE,z1r6,Am.below,z8b8 _ _ (zys6 x),zmq5 _ _ (z53g u)]) ?_
 ·rw [z9tw,List.drop_zero] at e3
  simp (disch:=first|omega|simp<;>omega|fail) [-zA,-zB,-zC,-zD,-zE,e3,e4,e5,e6,-z1bt,-zdpe]
 refine V_W mix zr5o ?_
 by_cases e:u.step=r.frm
 ·have hr:=hr e
  rw [hr]
  cases hp:r.prod with
  | true=>simp (disch:=first|omega|simp<;>omega|fail) [-zA,-zB,-zC,-zD,-zE,e,hp]
  | false=>simp (disch:=first|omega|simp<;>omega|fail) [-zA,-zB,-zC,-zD,-zE,e,hp]
 ·have hinv:=hinv e
  simp (disch:=first|omega|simp<;>omega|fail) [-zA,-zB,-zC,-zD,-zE,e]
  refine V_W mix zr5o ?_
  simp (disch:=first|omega|simp<;>omega|fail) [-zA,-zB,-zC,-zD,-zE]
  exact ⟨i+1,z515 (by simp (disch:=first|omega|simp<;>omega|fail) [-zA,-zB,-zC,-zD,-zE,zyzl,zgz1]) (by simp (disch:=first|omega|simp<;>omega|fail) [-zA,-zB,-zC,-zD,-zE,zyzl,zgz1]),by omega,by omega,hinv⟩
theorem zxbm (s:Sd) (r:Rul) (fs:Sl Ent):Clo s 49 [.ref (ruC r),.ref [fs.dv 33 enC],.ref [.mp 2 6 0]] (matB r fs.l s.files.l) :=
 ⟨fun H q q' h1 h2 h3=>⟨[.ref (ruC r),.ref [fs.dv 33 enC],.ref [.ref (sdC s q')]],by
  have e:snap H 3 (fs.dv 33 enC)=some (fs.dv 33 enC):=z6nl (zru8 fs)
  have h2':snap H 2 q=some q':=h2 1
  simp only [zrz6,zfu7,zud9,zs09,zgbg,h1,e,Option.bind_some,List.drop_zero,zse0,h2',Option.map_some],
  by simp only [zbao,zyp8,z3bz,zru8,z65m h3,Bool.and_self],fun x=>zm65 r fs s q' x⟩,by decide⟩
theorem zpos (s:Sd) (k:Nat) (hk:k<3) (pat:Str):Clo s 81 [.ref [.mp 2 6 0],.ref [.str pat],.ref [.fn (.func (acF k)) [] []]] (chgB k pat s.self.m.l s.self.p.l) :=
 ⟨fun H q q' h1 h2 h3=>⟨[.ref [.ref (sdC s q')],.ref [.str pat],.ref [.fn (.func (acF k)) [] []]],by
  have h2':snap H 2 q=some q':=h2 1
  simp only [zrz6,zfu7,zud9,zgbg,h1,Option.bind_some,List.drop_zero,zse0,h2',Option.map_some,zpcv,zvvi],
  by simp only [zbao,zyp8,z65m h3,Bool.and_self],fun x=>zxto k hk pat s q' x⟩,by decide⟩
theorem za09 (s:Sd) (r:Rul):Clo s 57 [.ref (ruC r)] (zenh r.pat) :=
 ⟨fun H q q' h1 h2 h3=>⟨[.ref (ruC r)],by simp only [zrz6,zfu7,zud9,zs09,Option.bind_some,Option.map_some],
  by simp only [zbao,zyp8,z3bz,Bool.and_self],fun x=>zqks r x⟩,by decide⟩
def okD:DV := .tup [.str [],.bool true]
theorem zwui (F:Fr) (Q R:List Str) (hL:Q.length+R.length=F.N) (r:Rul):zwy1 P 21 [.mp 2 6 0,.agg (ruC r)] (F.H Q R) (fun d h=>d=okD∧h=F.H (zwyd (matB r (zmcg F.s.done.l r).l F.s.files.l) Q) (repE (Q.length-(zwyd (matB r (zmcg F.s.done.l r).l F.s.files.l) Q).length)++R)):=by
 refine zrqk Tryz.func21 zyfb ?_
 have hl2:=(F.len Q R).1
 have hbl:=F.below Q R (Nat.le_refl _)
 have c1:=zgr6 F Q R r
 have c2:=zcie F Q R hL (zxbm F.s r (zmcg F.s.done.l r))
 obtain ⟨H',hH'⟩ : ∃ H',F.H (zwyd (matB r (zmcg F.s.done.l r).l F.s.files.l) Q) (repE (Q.length-(zwyd (matB r (zmcg F.s.done.l r).l F.s.files.l) Q).length)++R)=H':=⟨_,rfl⟩
 rw [hH'] at c2 ⊢
 obtain ⟨fs,hfs⟩ : ∃ fs,zmcg F.s.done.l r=fs:=⟨_,rfl⟩
 rw [hfs] at c1 c2
 obtain ⟨H,hH⟩ : ∃ H,F.H Q R=H:=⟨_,rfl⟩
 rw [hH] at hl2 hbl c1 c2 ⊢
 have hl3:2<H.length:=hl2
 have e2 : ∀ h,mk1 (kLt H.length) h (.mp 2 6 0) = .mp 2 6 0:=fun h=>zd3c (by simp [Am.below,hl2])
 have hk2:kLt H.length 2=true:=by simp [kLt,hl2]
 have e1:=zh5h (H:=H) (R:=[.cells [.mp 2 6 0],.cells (ruC r)]) (cs:=[.mp 2 6 0]) (off:=0) z27d (Nat.le_refl _) (zb5y hk2)
 have e3:=zh5h (H:=H) (R:=[.cells [.mp 2 6 0],.cells (ruC r)]) (cs:=ruC r) (off:=0) zpw0 (by omega) (zl6f (z3bz r))
 have e4:=zh5h (H:=H) (R:=[.cells [fs.dv 33 enC]]) (cs:=[fs.dv 33 enC]) (off:=0) z27d (Nat.le_refl _) (zl6f (by simp only [List.drop_zero,zbao,zru8,Bool.and_self]))
 have e5 : ∀ h,mk1 (kLt H.length) h (.ref (ruC r)) = .ref (ruC r):=fun h=>zvft (by simp only [zyp8,z3bz])
 have e6 : ∀ h,mk1 (kLt H.length) h (.ref [.mp 2 6 0]) = .ref [.mp 2 6 0]:=fun h=>zd3c (by simp [Am.below,z1r6,hl2])
 refine zbn1 (V_W mix zr5o ?_)
 simp (disch:=first|omega|simp<;>omega|fail) [-zA,-zB,-zC,-zD,-zE,a21]
 refine z0em (H:=H) (R:=[.cells [.mp 2 6 0],.cells (ruC r)]) (t':=[.mp 2 6 0,.junk,.ref [.mp 2 6 0],.ref (ruC r),.str [],.bool false]++js 7) hbl (Nat.le_refl _) ?_ (by simp (disch:=first|omega|simp<;>omega|fail) [-zA,-zB,-zC,-zD,-zE,z1r6,Am.below,hl2]) ?_
 ·simp only [zpvo,List.length_cons,List.length_nil,Nat.zero_add] at e1 e3
  simp (disch:=first|omega|simp<;>omega|fail) [-zA,-zB,-zC,-zD,-zE,e1,e2,e3,-z1bt,-zdpe]
 have hst : ∀ (h:List AObj) (id:Nat),zy6o h id 1 0 (fs.dv 33 enC) (some [.nils])=some (.junk,h.set id (.cells [fs.dv 33 enC])):=fun h id=>by
  rw [Am.storeO_1 (zfr8 _) (z4ja _) (by decide)]; rfl
 refine zbn1 (V_W mix (z84q c1) ?_)
 simp (disch:=first|omega|simp<;>omega|fail) [-zA,-zB,-zC,-zD,-zE,TH_k,zpvh,zxsc,zjj2,z1zn,zxft,hst]
 refine z0em (H:=H) (R:=[.cells [fs.dv 33 enC]]) (t':=[.mp 2 6 0,.junk,.ref [.mp 2 6 0],.ref (ruC r),.str [],.bool false,.ref [fs.dv 33 enC]]++js 6) hbl (Nat.le_refl _) ?_ (by simp (disch:=first|omega|simp<;>omega|fail) [-zA,-zB,-zC,-zD,-zE,z1r6,Am.below,hl2,zb48]) ?_
 ·simp only [List.length_cons,List.length_nil,Nat.zero_add] at e4
  simp (disch:=first|omega|simp<;>omega|fail) [-zA,-zB,-zC,-zD,-zE,e2,e4,e5,e6,-z1bt,-zdpe]
 refine zbn1 (V_W mix (z84q c2) ?_)
 simp (disch:=first|omega|simp<;>omega|fail) [-zA,-zB,-zC,-zD,-zE,TH_k,zpvh]
 refine V_W mix zr5o ?_
 simp (disch:=first|omega|simp<;>omega|fail) [-zA,-zB,-zC,-zD,-zE,okD]
theorem zpxu (F:Fr) (Q R:List Str) (hL:Q.length+R.length=F.N) (k:Nat) (hk:k<3) (pat:Str):zwy1 P 53 [.mp 2 6 0,.str pat,.fn (.func (acF k)) [] []] (F.H Q R) (fun d h=>d=okD∧h=F.H (zwyd (chgB k pat F.s.self.m.l F.s.self.p.l) Q) (repE (Q.length-(zwyd (chgB k pat F.s.self.m.l F.s.self.p.l) Q).length)++R)):=by
 refine zrqk Tryz.func53 zq51 ?_
 have hl2:=(F.len Q R).1
 have hbl:=F.below Q R (Nat.le_refl _)
 have c2:=zcie F Q R hL (zpos F.s k hk pat)
 obtain ⟨H',hH'⟩ : ∃ H',F.H (zwyd (chgB k pat F.s.self.m.l F.s.self.p.l) Q) (repE (Q.length-(zwyd (chgB k pat F.s.self.m.l F.s.self.p.l) Q).length)++R)=H':=⟨_,rfl⟩
 rw [hH'] at c2 ⊢
 obtain ⟨f,hf⟩ : ∃ f,DV.fn (.func (acF k)) [] []=f:=⟨_,rfl⟩
 have hfp:zyp8 f=true:=by rw [← hf]; rfl
 have hfk:f.known=true:=by rw [← hf]; rfl
 have hfc:f.cells=[f]:=by rw [← hf]; rfl
 have hfo:f.one=true:=by rw [← hf]; rfl
 have hbx : ∀ h,boxD h f=some (.mp h.length 1 0,h++[.cells [f]]):=fun h=>by rw [← hf]; rfl
 rw [hf] at c2 ⊢
 obtain ⟨H,hH⟩ : ∃ H,F.H Q R=H:=⟨_,rfl⟩
 rw [hH] at hl2 hbl c2 ⊢
 have hl3:2<H.length:=hl2
 have e2 : ∀ h,mk1 (kLt H.length) h (.mp 2 6 0) = .mp 2 6 0:=fun h=>zd3c (by simp [Am.below,hl2])
 have hk2:kLt H.length 2=true:=by simp [kLt,hl2]
 have e1:=zh5h (H:=H) (R:=[.cells [.mp 2 6 0],.cells [.str pat],.cells [f]]) (cs:=[.mp 2 6 0]) (off:=0) z27d (Nat.le_refl _) (zb5y hk2)
 have e3:=zh5h (H:=H) (R:=[.cells [.mp 2 6 0],.cells [.str pat],.cells [f]]) (cs:=[.str pat]) (off:=0) zpw0 (by omega) (zl6f (by simp only [List.drop_zero,zbao,zyp8,Bool.and_self]))
 have e4:=zh5h (H:=H) (R:=[.cells [.mp 2 6 0],.cells [.str pat],.cells [f]]) (cs:=[f]) (off:=0) z1v4 (by omega) (zl6f (by simp only [List.drop_zero,zbao,hfp,Bool.and_self]))
 refine zbn1 (V_W mix zr5o ?_)
 simp (disch:=first|omega|simp<;>omega|fail) [-zA,-zB,-zC,-zD,-zE,a53,hbx]
 refine z0em (H:=H) (R:=[.cells [.mp 2 6 0],.cells [.str pat],.cells [f]]) (t':=[.mp 2 6 0,.junk,.junk,.ref [.mp 2 6 0],.ref [.str pat],.ref [f],.str [],.bool false]++js 3) hbl (Nat.le_refl _) ?_ (by simp (disch:=first|omega|simp<;>omega|fail) [-zA,-zB,-zC,-zD,-zE,z1r6,Am.below,hl2,z8b8 _ _ hfp]) ?_
 ·simp only [List.length_cons,List.length_nil,Nat.zero_add] at e1 e3 e4
  simp (disch:=first|omega|simp<;>omega|fail) [-zA,-zB,-zC,-zD,-zE,e1,e2,e3,e4,-z1bt,-zdpe]
 refine zbn1 (V_W mix (z84q c2) ?_)
 simp (disch:=first|omega|simp<;>omega|fail) [-zA,-zB,-zC,-zD,-zE,TH_k,zpvh]
 refine V_W mix zr5o ?_
 simp (disch:=first|omega|simp<;>omega|fail) [-zA,-zB,-zC,-zD,-zE,okD]
theorem ztrn (F:Fr) (Q R:List Str) (hL:Q.length+R.length=F.N) (r:Rul):zwy1 P 22 [.mp 2 6 0,.agg (ruC r)] (F.H Q R) (fun d h=>d=okD∧h=F.H (zwyd (chgB 0 r.pat F.s.self.m.l F.s.self.p.l) Q) (repE (Q.length-(zwyd (chgB 0 r.pat F.s.self.m.l F.s.self.p.l) Q).length)++R)):=by
 refine zrqk Tryz.func22 zi98 ?_
 have hl2:=(F.len Q R).1
 have hbl:=F.below Q R (Nat.le_refl _)
 have c2:=zpxu F Q R hL 0 (by decide) r.pat
 simp only [acF] at c2
 obtain ⟨H',hH'⟩ : ∃ H',F.H (zwyd (chgB 0 r.pat F.s.self.m.l F.s.self.p.l) Q) (repE (Q.length-(zwyd (chgB 0 r.pat F.s.self.m.l F.s.self.p.l) Q).length)++R)=H':=⟨_,rfl⟩
 rw [hH'] at c2 ⊢
 obtain ⟨H,hH⟩ : ∃ H,F.H Q R=H:=⟨_,rfl⟩
 rw [hH] at hl2 hbl c2 ⊢
 have hl3:2<H.length:=hl2
 have e2 : ∀ h,mk1 (kLt H.length) h (.mp 2 6 0) = .mp 2 6 0:=fun h=>zd3c (by simp [Am.below,hl2])
 have hk2:kLt H.length 2=true:=by simp [kLt,hl2]
 have e1:=zz5t (H:=H) (cs:=ruC r) (off:=0) (z3bz r)
 refine zbn1 (V_W mix zr5o ?_)
 simp (disch:=first|omega|simp<;>omega|fail) [-zA,-zB,-zC,-zD,-zE,a22]
 refine zs10 (n0:=H.length) (H:=H) (cs:=ruC r) (t':=[.mp 2 6 0,.junk,.junk,.ref (ruC r),.str [],.bool false]++js 6) hbl (Nat.le_refl _) ?_ (by simp (disch:=first|omega|simp<;>omega|fail) [-zA,-zB,-zC,-zD,-zE,z1r6,Am.below,hl2]) ?_
 ·rw [zpvo,List.drop_zero] at e1
  simp (disch:=first|omega|simp<;>omega|fail) [-zA,-zB,-zC,-zD,-zE,e1,e2,-z1bt,-zdpe]
 refine zbn1 (V_W mix (z84q c2) ?_)
 simp (disch:=first|omega|simp<;>omega|fail) [-zA,-zB,-zC,-zD,-zE,TH_k,zpvh,okD]
 refine V_W mix zr5o ?_
 simp (disch:=first|omega|simp<;>omega|fail) [-zA,-zB,-zC,-zD,-zE]
theorem zl0d (F:Fr) (Q R:List Str) (hL:Q.length+R.length=F.N) (r:Rul):zwy1 P 23 [.mp 2 6 0,.agg (ruC r)] (F.H Q R) (fun d h=>d=okD∧h=F.H (zwyd (chgB 1 r.pat F.s.self.m.l F.s.self.p.l) Q) (repE (Q.length-(zwyd (chgB 1 r.pat F.s.self.m.l F.s.self.p.l) Q).length)++R)):=by
 refine zrqk Tryz.func23 ztyx ?_
 have hl2:=(F.len Q R).1
 have hbl:=F.below Q R (Nat.le_refl _)
 have c2:=zpxu F Q R hL 1 (by decide) r.pat
 simp only [acF] at c2
 obtain ⟨H',hH'⟩ : ∃ H',F.H (zwyd (chgB 1 r.pat F.s.self.m.l F.s.self.p.l) Q) (repE (Q.length-(zwyd (chgB 1 r.pat F.s.self.m.l F.s.self.p.l) Q).length)++R)=H':=⟨_,rfl⟩
 rw [hH'] at c2 ⊢
 obtain ⟨H,hH⟩ : ∃ H,F.H Q R=H:=⟨_,rfl⟩
 rw [hH] at hl2 hbl c2 ⊢
 have hl3:2<H.length:=hl2
 have e2 : ∀ h,mk1 (kLt H.length) h (.mp 2 6 0) = .mp 2 6 0:=fun h=>zd3c (by simp [Am.below,hl2])
 have hk2:kLt H.length 2=true:=by simp [kLt,hl2]
 have e1:=zz5t (H:=H) (cs:=ruC r) (off:=0) (z3bz r)
 refine zbn1 (V_W mix zr5o ?_)
 simp (disch:=first|omega|simp<;>omega|fail) [-zA,-zB,-zC,-zD,-zE,a23]
 refine zs10 (n0:=H.length) (H:=H) (cs:=ruC r) (t':=[.mp 2 6 0,.junk,.junk,.ref (ruC r),.str [],.bool false]++js 6) hbl (Nat.le_refl _) ?_ (by simp (disch:=first|omega|simp<;>omega|fail) [-zA,-zB,-zC,-zD,-zE,z1r6,Am.below,hl2]) ?_
 ·rw [zpvo,List.drop_zero] at e1
  simp (disch:=first|omega|simp<;>omega|fail) [-zA,-zB,-zC,-zD,-zE,e1,e2,-z1bt,-zdpe]
 refine zbn1 (V_W mix (z84q c2) ?_)
 simp (disch:=first|omega|simp<;>omega|fail) [-zA,-zB,-zC,-zD,-zE,TH_k,zpvh,okD]
 refine V_W mix zr5o ?_
 simp (disch:=first|omega|simp<;>omega|fail) [-zA,-zB,-zC,-zD,-zE]
theorem zcqt (F:Fr) (Q R:List Str) (hL:Q.length+R.length=F.N) (r:Rul):zwy1 P 24 [.mp 2 6 0,.agg (ruC r)] (F.H Q R) (fun d h=>d=okD∧h=F.H (zwyd (chgB 2 r.pat F.s.self.m.l F.s.self.p.l) Q) (repE (Q.length-(zwyd (chgB 2 r.pat F.s.self.m.l F.s.self.p.l) Q).length)++R)):=by
 refine zrqk Tryz.func24 zcoa ?_
 have hl2:=(F.len Q R).1
 have hbl:=F.below Q R (Nat.le_refl _)
 have c2:=zpxu F Q R hL 2 (by decide) r.pat
 simp only [acF] at c2
 obtain ⟨H',hH'⟩ : ∃ H',F.H (zwyd (chgB 2 r.pat F.s.self.m.l F.s.self.p.l) Q) (repE (Q.length-(zwyd (chgB 2 r.pat F.s.self.m.l F.s.self.p.l) Q).length)++R)=H':=⟨_,rfl⟩
 rw [hH'] at c2 ⊢
 obtain ⟨H,hH⟩ : ∃ H,F.H Q R=H:=⟨_,rfl⟩
 rw [hH] at hl2 hbl c2 ⊢
 have hl3:2<H.length:=hl2
 have e2 : ∀ h,mk1 (kLt H.length) h (.mp 2 6 0) = .mp 2 6 0:=fun h=>zd3c (by simp [Am.below,hl2])
 have hk2:kLt H.length 2=true:=by simp [kLt,hl2]
 have e1:=zz5t (H:=H) (cs:=ruC r) (off:=0) (z3bz r)
 refine zbn1 (V_W mix zr5o ?_)
 simp (disch:=first|omega|simp<;>omega|fail) [-zA,-zB,-zC,-zD,-zE,a24]
 refine zs10 (n0:=H.length) (H:=H) (cs:=ruC r) (t':=[.mp 2 6 0,.junk,.junk,.ref (ruC r),.str [],.bool false]++js 6) hbl (Nat.le_refl _) ?_ (by simp (disch:=first|omega|simp<;>omega|fail) [-zA,-zB,-zC,-zD,-zE,z1r6,Am.below,hl2]) ?_
 ·rw [zpvo,List.drop_zero] at e1
  simp (disch:=first|omega|simp<;>omega|fail) [-zA,-zB,-zC,-zD,-zE,e1,e2,-z1bt,-zdpe]
 refine zbn1 (V_W mix (z84q c2) ?_)
 simp (disch:=first|omega|simp<;>omega|fail) [-zA,-zB,-zC,-zD,-zE,TH_k,zpvh,okD]
 refine V_W mix zr5o ?_
 simp (disch:=first|omega|simp<;>omega|fail) [-zA,-zB,-zC,-zD,-zE]
theorem z8ug (F:Fr) (Q R:List Str) (hL:Q.length+R.length=F.N) (r:Rul):zwy1 P 25 [.mp 2 6 0,.agg (ruC r)] (F.H Q R) (fun d h=>d=okD∧h=F.H (zwyd (zenh r.pat) Q) (repE (Q.length-(zwyd (zenh r.pat) Q).length)++R)):=by
 refine zrqk Tryz.func25 zgum ?_
 have hl2:=(F.len Q R).1
 have hbl:=F.below Q R (Nat.le_refl _)
 have c2:=zcie F Q R hL (za09 F.s r)
 obtain ⟨H',hH'⟩ : ∃ H',F.H (zwyd (zenh r.pat) Q) (repE (Q.length-(zwyd (zenh r.pat) Q).length)++R)=H':=⟨_,rfl⟩
 rw [hH'] at c2 ⊢
 obtain ⟨H,hH⟩ : ∃ H,F.H Q R=H:=⟨_,rfl⟩
 rw [hH] at hl2 hbl c2 ⊢
 have hl3:2<H.length:=hl2
 have e2 : ∀ h,mk1 (kLt H.length) h (.mp 2 6 0) = .mp 2 6 0:=fun h=>zd3c (by simp [Am.below,hl2])
 have hk2:kLt H.length 2=true:=by simp [kLt,hl2]
 have e1:=zz5t (H:=H) (cs:=ruC r) (off:=0) (z3bz r)
 refine zbn1 (V_W mix zr5o ?_)
 simp (disch:=first|omega|simp<;>omega|fail) [-zA,-zB,-zC,-zD,-zE,a25]
 refine zs10 (n0:=H.length) (H:=H) (cs:=ruC r) (t':=[.mp 2 6 0,.junk,.junk,.ref (ruC r),.str [],.bool false]++js 3) hbl (Nat.le_refl _) ?_ (by simp (disch:=first|omega|simp<;>omega|fail) [-zA,-zB,-zC,-zD,-zE,z1r6,Am.below,hl2]) ?_
 ·rw [zpvo,List.drop_zero] at e1
  simp (disch:=first|omega|simp<;>omega|fail) [-zA,-zB,-zC,-zD,-zE,e1,e2,-z1bt,-zdpe]
 refine zbn1 (V_W mix (z84q c2) ?_)
 simp (disch:=first|omega|simp<;>omega|fail) [-zA,-zB,-zC,-zD,-zE,TH_k,zpvh]
 refine V_W mix zr5o ?_
 simp (disch:=first|omega|simp<;>omega|fail) [-zA,-zB,-zC,-zD,-zE,okD]
end Go.Proofs.YtjknipdiglpnlaaGreatDoor
set_option linter.unusedSimpArgs false
set_option linter.unusedVariables false
set_option maxRecDepth 8000
namespace Go.Proofs.YtjknipdiglpnlaaGreatDoor
open Go Go.Am
theorem Fr.qlen (F:Fr) (Q R X:_) (hL:Q.length+R.length=F.N):lenD (F.H Q R++X) (qV F.N Q.length)=some (.int .i64 Q.length):=by
 by_cases h0:F.N=0
 ·rw [qV,if_pos h0]
  have:Q.length=0:=by omega
  rw [this]; rfl
 ·rw [qV,if_neg h0,qD,z59c]
  have ho:objV (F.H Q R++X) 3 F.N=some (sts (Q++R)):=by
   unfold Fr.H; rw [qT,if_neg h0]
   show (if (sts (Q++R)).length=F.N then some (sts (Q++R)) else none)=_
   rw [if_pos (by rw [z8p2,List.length_append,hL])]
  rw [ho]; rfl
theorem Fr.qobj (F:Fr) (Q R X:_) (hL:Q.length+R.length=F.N) (h0:F.N≠0):objV (F.H Q R++X) 3 F.N=some (sts (Q++R)):=by
 unfold Fr.H; rw [qT,if_neg h0]
 show (if (sts (Q++R)).length=F.N then some (sts (Q++R)) else none)=_
 rw [if_pos (by rw [z8p2,List.length_append,hL])]
theorem zc0g {Q R:List Str} {i:Nat} (hi:i<Q.length):oneC 1 false ((sts (Q++R)).drop i)=some (.str Q[i]):=by
 unfold sts
 rw [z68l (by rw [List.length_append]; omega),List.getElem_append_left hi]
def zidp (o:Option Str):DV := .tup [.str (o.getD []),.bool o.isNone]
noncomputable def zdi3:Tbl:=addT 51 (.pure (cSS z46z)) tbl0
theorem z4ie:zdi3 51 = .pure (cSS z46z):=by simp [zdi3]
theorem zmmd:zdi3.Sound P:=z0rp (zd7v fun p s=>zljw mix zy0e Tryz.func51 z8rx (z3jz p s)) zr5o
def zouf (H:List AObj) (r:Rul) (q:DV) (n i:Nat):St:=zhlx (.ref (ruC r)) q (.int .i64 n) (.int .i64 i) H
theorem zhxf {p:Str→Bool} : ∀ {l:List Str} {i:Nat} (hi:i<l.length),p l[i]=true→(∀ j (h:j<l.length),j<i→p l[j]=false)→l.find? p=some l[i]
 | a::l,0,_,h,_=>by simp only [List.getElem_cons_zero] at h; simp [List.find?_cons,h]
 | a::l,i+1,hi,h,h2=>by
  have ha:p a=false:=h2 0 (by simp) (by omega)
  have ih:=zhxf (p:=p) (l:=l) (i:=i) (by simpa using hi) (by simpa using h) fun j hj hji=>by
   have:=h2 (j+1) (by simpa using hj) (by omega)
   simpa using this
  simp [List.find?_cons,ha,ih]
theorem z11n {p:Str→Bool} {l:List Str} (h : ∀ a ∈ l,p a=false):l.find? p=none:=by
 rw [List.find?_eq_none]; intro a ha; rw [h a ha]; simp
theorem zrz5 (F:Fr) (Q R:List Str) (hL:Q.length+R.length=F.N) (r:Rul):zwy1 P 26 [.mp 2 6 0,.agg (ruC r)] (F.H Q R) (fun d h=>d=zidp (Q.find? (zenh r.pat))∧h=F.H Q R):=by
 refine zrqk Tryz.func26 z9gs ?_
 have hl2:=(F.len Q R).1
 have hbl:=F.below Q R (Nat.le_refl _)
 have hO:=F.hO0 Q R
 have hql:=F.qlen Q R [] hL
 rw [List.append_nil] at hql
 have hNn:=F.hN
 have hqi : ∀ i,i<Q.length→zpsc (F.H Q R) 1 (qV F.N Q.length) i=some (.mp 3 F.N i):=fun i hi=>by
  have h0:F.N≠0:=by omega
  have ho:=F.qobj Q R [] hL h0
  rw [List.append_nil] at ho
  rw [qV,if_neg h0,qD,zq11 (by omega) (by omega),ho]
  simp
 have hob:0<Q.length→objV (F.H Q R) 3 F.N=some (sts (Q++R)):=fun hi=>by
  have ho:=F.qobj Q R [] hL (by omega)
  rwa [List.append_nil] at ho
 have hqp : ∀ n,n=(F.H Q R).length→Am.below n (qV F.N Q.length)=true:=fun n e=>by
  by_cases h0:F.N=0
  ·rw [qV,if_pos h0]; rfl
  ·have:=(F.len Q R).2 h0
   rw [qV,if_neg h0,qD]; simp only [Am.below,decide_eq_true_eq]; omega
 have hqp:=hqp _ rfl
 obtain ⟨q,hq⟩ : ∃ q,qV F.N Q.length=q:=⟨_,rfl⟩
 rw [hq] at hO hql hqi hqp
 obtain ⟨H,hH⟩ : ∃ H,F.H Q R=H:=⟨_,rfl⟩
 rw [hH] at hO hl2 hbl hql hqi hob hqp ⊢
 have e1:=zz5t (H:=H) (cs:=ruC r) (off:=0) (z3bz r)
 have e2 : ∀ h,mk1 (kLt H.length) h (.mp 2 6 0) = .mp 2 6 0:=fun h=>zd3c (by simp [Am.below,hl2])
 refine zbn1 (V_W mix zr5o ?_)
 simp (disch:=first|omega|simp<;>omega|fail) [-zA,-zB,-zC,-zD,-zE,a26]
 refine zs10 (n0:=H.length) (H:=H) (cs:=ruC r) (t':=[.mp 2 6 0,.junk,.junk,.ref (ruC r)]++js 19) hbl (Nat.le_refl _) ?_ (by simp (disch:=first|omega|simp<;>omega|fail) [-zA,-zB,-zC,-zD,-zE,z1r6,Am.below,hl2]) ?_
 ·rw [zpvo,List.drop_zero] at e1
  simp (disch:=first|omega|simp<;>omega|fail) [-zA,-zB,-zC,-zD,-zE,e1,e2,-z1bt,-zdpe]
 refine zbn1 (zbn1 (V_W mix zr5o ?_))
 simp (disch:=first|omega|simp<;>omega|fail) [-zA,-zB,-zC,-zD,-zE,hO,zi9h,hql]
 refine z3mo (ztbr (zouf H r q Q.length) (fun i=>Q.length-i) (fun i=>i≤Q.length ∧ ∀ j (h:j<Q.length),j<i→zenh r.pat Q[j]=false) 0 (z515 (by simp (disch:=first|omega|simp<;>omega|fail) [-zA,-zB,-zC,-zD,-zE,zouf,zhlx]) (by simp (disch:=first|omega|simp<;>omega|fail) [-zA,-zB,-zC,-zD,-zE,zouf,zhlx])) ⟨by omega,fun j _ hj=>by omega⟩ (fun i hi => ?_))
 obtain ⟨q1,q2⟩:=hi
 simp only [zouf]
 by_cases g:i<Q.length
 case neg =>
  have g':¬ (i:Int)<Q.length:=by omega
  have hr:Q.find? (zenh r.pat)=none:=z11n fun a ha=>by
   obtain ⟨j,hj,e⟩:=List.getElem_of_mem ha
   have:=q2 j hj (by omega)
   rw [e] at this; exact this
  rw [hr]
  refine zbn1 (V_W mix zr5o ?_)
  simp (disch:=first|omega|simp<;>omega|fail) [-zA,-zB,-zC,-zD,-zE,zr3y,zhlx,g,g']
  refine zbn1 (V_W mix zr5o ?_)
  simp (disch:=first|omega|simp<;>omega|fail) [-zA,-zB,-zC,-zD,-zE]
  refine zbn1 (V_W mix zr5o ?_)
  simp (disch:=first|omega|simp<;>omega|fail) [-zA,-zB,-zC,-zD,-zE]
  refine V_W mix zr5o ?_
  simp (disch:=first|omega|simp<;>omega|fail) [-zA,-zB,-zC,-zD,-zE,zidp]
 have g':(i:Int)<Q.length:=by omega
 have hy:=hqi i g
 have hb:=hob (by omega)
 have o1:=zc0g (R:=R) g
 have hinv:zenh r.pat Q[i]=false → ∀ j (h:j<Q.length),j<i+1→zenh r.pat Q[j]=false:=fun e j hj hji=>by
  by_cases ej:j=i
  ·subst ej; exact e
  ·exact q2 j hj (by omega)
 have hr:zenh r.pat Q[i]=true→Q.find? (zenh r.pat)=some Q[i]:=fun e=>zhxf g e q2
 obtain ⟨u,hu⟩ : ∃ u,Q[i]=u:=⟨_,rfl⟩
 rw [hu] at o1 hinv hr
 obtain ⟨Z,hZ⟩ : ∃ Z,sts (Q++R)=Z:=⟨_,rfl⟩
 rw [hZ] at hb o1
 refine V_W mix zmmd ?_
 cases e:zenh r.pat u with
 | true =>
  rw [hr e]
  simp (disch:=first|omega|simp<;>omega|fail) [-zA,-zB,-zC,-zD,-zE,zr3y,zhlx,g,g',hy,hb,o1,z4ie,z5o0,z46z,e,zidp]
 | false =>
  have hinv:=hinv e
  simp (disch:=first|omega|simp<;>omega|fail) [-zA,-zB,-zC,-zD,-zE,zr3y,zhlx,g,g',hy,hb,o1,z4ie,z5o0,z46z,e]
  exact ⟨i+1,z515 (by simp (disch:=first|omega|simp<;>omega|fail) [-zA,-zB,-zC,-zD,-zE,zouf,zhlx]) (by simp (disch:=first|omega|simp<;>omega|fail) [-zA,-zB,-zC,-zD,-zE,zouf,zhlx]),by omega,by omega,fun j h hj=>hinv j h hj⟩
def qS (N:Nat) (Q:List Str):Sl Str:=if N=0 then nilS else own Q
theorem zsdb (F:Fr) (Q R:List Str) (hL:Q.length+R.length=F.N) (r:Rul):zwy1 P 27 [.mp 2 6 0,.agg (ruC r)] (F.H Q R) (fun d h=>d=zidp (if Q.any (zenh r.pat) then none else some [])∧h=F.H Q R):=by
 refine zrqk Tryz.func27 z3hx ?_
 have hl2:=(F.len Q R).1
 have hbl:=F.below Q R (Nat.le_refl _)
 have hO:=F.hO0 Q R
 have hNn:=F.hN
 obtain ⟨fn,hfn⟩ : ∃ fn,DV.fn (.func 59) [] [.ref (ruC r)]=fn:=⟨_,rfl⟩
 have hfp:zyp8 fn=true:=by rw [← hfn]; simp [zyp8,zbao]
 obtain ⟨x,hx1,hx2,hx3⟩ : ∃ x:Sl Str,x.l=Q∧snap (F.H Q R) 3 (qV F.N Q.length)=some (x.dv 1 stC)∧(zyp8 (qV F.N Q.length)=true→qV F.N Q.length=x.dv 1 stC):=by
  by_cases h0:F.N=0
  ·have hQ:Q=[]:=List.eq_nil_of_length_eq_zero (by omega)
   refine ⟨nilS,by rw [hQ]; rfl,?_,fun _ => ?_⟩
   ·rw [qV,if_pos h0,zw4a]; exact z7d7
   ·rw [qV,if_pos h0,zw4a]
  ·refine ⟨own Q,z3e9 (by omega),?_,fun q => ?_⟩
   ·have h:=z123 (pre:=[.cells F.a,.cells F.b,.cells (sdC F.s (qD 3 F.N Q.length))]) (A:=Q) (R:=R) (N:=F.N) hL (by omega)
    have e1:F.H Q R=[.cells F.a,.cells F.b,.cells (sdC F.s (qD 3 F.N Q.length))]++[.cells (sts (Q++R))]:=by unfold Fr.H; rw [qV,qT,if_neg h0,if_neg h0]
    rw [e1,qV,if_neg h0]; exact h
   ·rw [qV,if_neg h0] at q; simp [qD,zyp8] at q
 have hsem:=z7il x (g:=59) (cap:=[.ref (ruC r)]) (p:=zenh r.pat) (by simp only [zbao,zyp8,z3bz,Bool.and_self]) (fun s=>zb64 r s)
 rw [hfn,hx1] at hsem
 obtain ⟨q,hq⟩ : ∃ q,qV F.N Q.length=q:=⟨_,rfl⟩
 rw [hq] at hO hx2 hx3
 obtain ⟨H,hH⟩ : ∃ H,F.H Q R=H:=⟨_,rfl⟩
 rw [hH] at hO hl2 hbl hx2 ⊢
 obtain ⟨b,hb⟩ : ∃ b,Q.any (zenh r.pat)=b:=⟨_,rfl⟩
 rw [hb] at hsem ⊢
 have hpt:ptP [x.dv 1 stC,fn] (.bool b) [x.dv 1 stC,fn]=some (.bool b):=zr20
 have hcall:zyo0 (ptP [x.dv 1 stC,fn] (.bool b)) [q,fn] H=some (.bool b):=by
  cases hI:zyp8 q with
  | true=>rw [z7h3 (by simp [zbao,hI,hfp]),hx3 hI,hpt]
  | false =>
   have hfs:snap H 3 fn=some fn:=z6nl hfp
   rw [zl41 (by simp [zbao,hI]),zrz6,hx2,zrz6,hfs]; simp [hpt]
 have hTk:TI 58 [x.dv 1 stC,fn] (.bool b) 58 = .pure (ptP [x.dv 1 stC,fn] (.bool b)):=TI_k
 have hTs:=zyyb hsem
 obtain ⟨T,hT⟩ : ∃ T,TI 58 [x.dv 1 stC,fn] (.bool b)=T:=⟨_,rfl⟩
 rw [hT] at hTk hTs
 obtain ⟨c,hc⟩ : ∃ c,ptP [x.dv 1 stC,fn] (.bool b)=c:=⟨_,rfl⟩
 rw [hc] at hcall hTk
 have e1:=zz5t (H:=H) (cs:=ruC r) (off:=0) (z3bz r)
 have e2 : ∀ h,mk1 (kLt H.length) h (.mp 2 6 0) = .mp 2 6 0:=fun h=>zd3c (by simp [Am.below,hl2])
 refine zbn1 (V_W mix zr5o ?_)
 simp (disch:=first|omega|simp<;>omega|fail) [-zA,-zB,-zC,-zD,-zE,a27]
 refine zs10 (n0:=H.length) (H:=H) (cs:=ruC r) (t':=[.mp 2 6 0,.junk,.junk,.ref (ruC r),.str [],.bool false]++js 6) hbl (Nat.le_refl _) ?_ (by simp (disch:=first|omega|simp<;>omega|fail) [-zA,-zB,-zC,-zD,-zE,z1r6,Am.below,hl2]) ?_
 ·rw [zpvo,List.drop_zero] at e1
  simp (disch:=first|omega|simp<;>omega|fail) [-zA,-zB,-zC,-zD,-zE,e1,e2,-z1bt,-zdpe]
 refine zbn1 (V_W mix hTs ?_)
 simp (disch:=first|omega|simp<;>omega|fail) [-zA,-zB,-zC,-zD,-zE,hO,zi9h,hTk,hfn,hcall,-ztar]
 refine V_W mix zr5o ?_
 cases b with
 | true=>simp (disch:=first|omega|simp<;>omega|fail) [-zA,-zB,-zC,-zD,-zE,zidp]
 | false=>simp (disch:=first|omega|simp<;>omega|fail) [-zA,-zB,-zC,-zD,-zE,zidp]
def metK:Nat→Nat
 | 1=>21|2=>22|3=>23|4=>24|5=>25|6=>26|_=>27
def zkvg (s:Sd) (r:Rul) (k:Nat):Str→Bool:=match k with
 | 1=>matB r (zmcg s.done.l r).l s.files.l
 | 2=>chgB 0 r.pat s.self.m.l s.self.p.l
 | 3=>chgB 1 r.pat s.self.m.l s.self.p.l
 | 4=>chgB 2 r.pat s.self.m.l s.self.p.l
 | 5=>zenh r.pat
 | _=>fun _=>false
def zkx0 (r:Rul) (k:Nat) (Q:List Str):Option Str:=match k with
 | 6=>Q.find? (zenh r.pat)
 | 7=>if Q.any (zenh r.pat) then none else some []
 | _=>none
theorem zpkc {Q:List Str}:zwyd (fun _=>false) Q=Q:=zjbt fun _ _=>rfl
theorem zmbk (F:Fr) (Q R:List Str) (hL:Q.length+R.length=F.N) (r:Rul) (k:Nat) (h1:1≤k) (h7:k≤7) :
  zwy1 P (metK k) [.mp 2 6 0,.agg (ruC r)] (F.H Q R) (fun d h=>d=zidp (zkx0 r k Q)∧h=F.H (zwyd (zkvg F.s r k) Q) (repE (Q.length-(zwyd (zkvg F.s r k) Q).length)++R)):=by
 have e : ∀ R:List Str,repE 0++R=R:=fun _=>rfl
 rcases k with _|_|_|_|_|_|_|_|k
 ·omega
 ·exact zwui F Q R hL r
 ·exact ztrn F Q R hL r
 ·exact zl0d F Q R hL r
 ·exact zcqt F Q R hL r
 ·exact z8ug F Q R hL r
 ·simp only [zkvg,zpkc,Nat.sub_self,e]; exact zrz5 F Q R hL r
 ·simp only [zkvg,zpkc,Nat.sub_self,e]; exact zsdb F Q R hL r
 ·omega
end Go.Proofs.YtjknipdiglpnlaaGreatDoor
set_option linter.unusedSimpArgs false
set_option linter.unusedVariables false
set_option maxRecDepth 20000
namespace Go.Proofs.YtjknipdiglpnlaaGreatDoor
open Go Go.Am
structure Res where
 fi:Int
 pa:Str
 le:List Str
 deriving DecidableEq
def appL (s:Sd):List Rul→Nat→List Str→Res
 | [],_,Q=>⟨-1,[],Q⟩
 | r::l,i,Q=>if z8mn r=true then (match zkx0 r r.kind.toNat Q with
   | some p=>⟨i,p,zwyd (zkvg s r r.kind.toNat) Q⟩
   | none=>appL s l (i+1) (zwyd (zkvg s r r.kind.toNat) Q))
  else ⟨i,[],Q⟩
def zw2l (l:List Ent):List Str:=l.map (·.path)
theorem z1cm (l:List Ent):(zw2l l).length=l.length:=by simp [zw2l]
def zmoc (pr:Bool) (x:Lnk):Sl Ent:=if pr then x.p else x.m
def sdOf (pr:Bool) (x:Lnk) (done:Sl Lnk):Sd:=⟨x,zmoc pr x,done⟩
def zr9o (l:List Rul) (pr:Bool) (x:Lnk) (done:Sl Lnk):Res:=appL (sdOf pr x done) l 0 (zw2l (zmoc pr x).l)
def z6t9 (N:Nat) (r:Res):DV := .agg [(qS N r.le).dv 1 stC,.int .i64 r.fi,.str r.pa]
def r0C:List DV:=[.nils,.int .i64 0,.str []]
def zj0d:DV := .sl true 1 8 [.nilf,.fn (.func 21) [.mp 2 6 0] [],.fn (.func 22) [.mp 2 6 0] [],.fn (.func 23) [.mp 2 6 0] [],.fn (.func 24) [.mp 2 6 0] [],.fn (.func 25) [.mp 2 6 0] [],.fn (.func 26) [.mp 2 6 0] [],.fn (.func 27) [.mp 2 6 0] []]
def HQ (x:Lnk) (s:Sd) (l:List Str):List AObj := .cells (lkC x) :: .cells r0C :: .cells (sdC s (oV 3 1 l))::oT stC l
theorem HQ_F (F:Fr) (l:List Str) (hl:l.length=F.N) (x:Lnk) (ha:F.a=lkC x) (hb:F.b=r0C):HQ x F.s l=F.H l []:=by
 unfold HQ Fr.H
 rw [ha,hb,List.append_nil]
 by_cases h0:F.N=0
 ·have e:l=[]:=List.eq_nil_of_length_eq_zero (by omega)
  rw [qV,qT,if_pos h0,if_pos h0,e,zl8p,zkrk]; rfl
 ·have e:l≠[]:=fun q=>by rw [q] at hl; exact h0 hl.symm
  rw [qV,qT,if_neg h0,if_neg h0,zpni e,zu2l e,qD,hl,Nat.mul_one]
  show _::_::_::[AObj.cells (fl stC l)]=_
  rw [fl,z8we]; rfl
theorem zc3o {r:Rul} (h:z8mn r=true) : ∃ k:Nat,r.kind=k∧1≤k∧k≤7:=by
 have h1:zk3j r.kind≠[]:=by
  intro e
  unfold z8mn at h
  simp [e] at h
 obtain ⟨a,b⟩:=zcgp.1 h1
 obtain ⟨k,hk⟩:=Int.eq_ofNat_of_zero_le (show 0≤r.kind by omega)
 exact ⟨k,hk,by omega,by omega⟩
def z56y (x:Lnk) (s:Sd) (l:Sl Rul) (f:Sl Ent) (i:Nat):St:=z9o7 (l.dv 6 ruC) (.mp 1 3 0) (.mp 2 6 0) (f.dv 33 enC) (.int .i64 f.l.length) (.int .i64 i) (HQ x s ((zw2l f.l).take i))
structure AS where
 i:Nat
 Q:List Str
 R:List Str
def zaqw (F:Fr) (l:Sl Rul) (a:AS):St:=zxy2 (.mp 1 3 0) (.mp 2 6 0) zj0d (l.dv 6 ruC) (.int .i64 l.l.length) (.int .i64 a.i) (F.H a.Q a.R)
theorem zemx {N m:Nat}:(qV N m).known=true:=by unfold qV; split<;>rfl
theorem zr9r {N m:Nat}:(qV N m).one=true:=by unfold qV; split<;>rfl
theorem zqdn {N m:Nat}:(qV N m).cells=[qV N m]:=by unfold qV; split<;>rfl
theorem z6o8 {a b c:DV}:oneC 3 true [a,b,c]=some (.agg [a,b,c]):=rfl
theorem zzw4 {q:DV} (hc:q.cells=[q]) (hq:q.known=true) (i:Int):zvnk [.nils,.int .i64 0,.str []] [(0,1,q),(1,1,.int .i64 i)]=some (.agg [q,.int .i64 i,.str []]):=by
 simp [zvnk,zi03,zk7y,hq,hc]
theorem zkup {q:DV} (hc:q.cells=[q]) (hq:q.known=true) (i:Int) (p:Str):zvnk [.nils,.int .i64 0,.str []] [(0,1,q),(1,1,.int .i64 i),(2,1,.str p)]=some (.agg [q,.int .i64 i,.str p]):=by
 simp [zvnk,zi03,zk7y,hq,hc]
theorem st13 {h:List AObj} {id:Nat} {q:DV} (ho:q.one=true) (i:Int) (p:Str):zy6o h id 3 0 (.agg [q,.int .i64 i,.str p]) (some r0C)=some (.junk,h.set id (.cells [q,.int .i64 i,.str p])):=zfc1 rfl rfl (by simp [ho])
theorem Fr.ret (F:Fr) (Q R:List Str) (hL:Q.length+R.length=F.N) (C:List DV):objV ((F.H Q R).set 1 (.cells C)) 1 C.length=some C∧snap ((F.H Q R).set 1 (.cells C)) 3 (qV F.N Q.length)=some ((qS F.N Q).dv 1 stC)∧snap ((F.H Q R).set 1 (.cells C)) 2 (qV F.N Q.length)=some ((qS F.N Q).dv 1 stC):=by
 have hNn:=F.hN
 have hs : ∀ k,snap ((F.H Q R).set 1 (.cells C)) (k+1) (qV F.N Q.length)=some ((qS F.N Q).dv 1 stC):=fun k=>by
  by_cases h0:F.N=0
  ·rw [qV,qS,if_pos h0,if_pos h0,zw4a]; exact z7d7
  ·have ho:objV ((F.H Q R).set 1 (.cells C)) 3 F.N=some (sts (Q++R)):=by
    unfold Fr.H; rw [qT,if_neg h0]
    show (if (sts (Q++R)).length=F.N then some (sts (Q++R)) else none)=_
    rw [if_pos (by rw [z8p2,List.length_append,hL])]
   rw [qV,qS,if_neg h0,if_neg h0,zwpy ho,zqrs (by omega),z8we,Nat.mul_one,z2sf,List.take_left' (z8p2 Q)]
 refine ⟨?_,hs 2,hs 1⟩
 unfold Fr.H
 show (if C.length=C.length then some C else none)=_
 rw [if_pos rfl]
theorem zhgh (k:Nat) (h1:1≤k) (h7:k≤7) (H:List AObj):zpsc H 1 zj0d (k:Int)=some (.ref [.fn (.func (metK k)) [.mp 2 6 0] []]):=by
 rcases k with _|_|_|_|_|_|_|_|k<;>first|omega|rfl
def z81i:ACode:=match a10.code with | .seq _ (.seq _ (.seq _ r))=>r|c=>c
theorem ze06 (l:Sl Rul) (x:Lnk) (done:Sl Lnk) (f:Sl Ent) (hN:f.l.length≤65536) (s:Sd) (hs:s=⟨x,f,done⟩) :
  V P 0 z81i (retK a10.res (z6t9 f.l.length (appL s l.l 0 (zw2l f.l)))) ⟨[l.dv 6 ruC]++js 7++[.mp 1 3 0,.mp 2 6 0]++js 96,[.cells (lkC x),.cells r0C,.cells (sdC s .nils)]⟩:=by
 have hlb:=l.b
 have hfb:=f.b
 have hll : ∀ H,lenD H (l.dv 6 ruC)=some (.int .i64 l.l.length):=fun H=>zupj
 have hlf : ∀ H,lenD H (f.dv 33 enC)=some (.int .i64 f.l.length):=fun H=>zupj
 have hfs1 : ∀ q,oneC 1 false ((sdC s q).drop 3)=some (f.dv 33 enC):=fun q=>by rw [hs]; rfl
 obtain ⟨A,hA⟩ : ∃ A,a10.res=A:=⟨_,rfl⟩
 rw [hA]
 obtain ⟨RR,hRR⟩ : ∃ RR,appL s l.l 0 (zw2l f.l)=RR:=⟨_,rfl⟩
 rw [hRR]
 have ho0 : ∀ (q:DV) (T:List AObj),objV (.cells (lkC x) :: .cells r0C :: .cells (sdC s q)::T) 2 6=some (sdC s q):=fun q T=>rfl
 simp only [z81i,a10]
 refine zbn1 (zbn1 (V_W mix zr5o ?_))
 simp (disch:=first|omega|simp<;>omega|fail) [-zA,-zB,-zC,-zD,-zE,hfs1,hlf,ho0]
 refine z3mo (ztbr (z56y x s l f) (fun i=>f.l.length-i) (fun i=>i≤f.l.length) 0 (z515 (by simp (disch:=first|omega|simp<;>omega|fail) [-zA,-zB,-zC,-zD,-zE,z56y,z9o7]) (by simp (disch:=first|omega|simp<;>omega|fail) [-zA,-zB,-zC,-zD,-zE,z56y,z9o7,HQ,zl8p,zkrk])) (by omega) (fun i hi => ?_))
 simp only [z56y]
 refine zbn1 (V_W mix zr5o ?_)
 by_cases g:i<f.l.length
 ·have g':(i:Int)<f.l.length:=by omega
  have hy : ∀ H,zpsc H 33 (f.dv 33 enC) i=some (.ref (enC f.l[i])):=fun H=>zalo zuso g
  have htk:(zw2l f.l).take (i+1)=(zw2l f.l).take i++[f.l[i].path]:=by
   rw [List.take_succ_eq_append_getElem (by rw [z1cm]; exact g)]; simp [zw2l]
  obtain ⟨u,hu⟩ : ∃ u,f.l[i]=u:=⟨_,rfl⟩
  rw [hu] at hy htk
  obtain ⟨L,hL⟩ : ∃ L,(zw2l f.l).take i=L:=⟨_,rfl⟩
  have hLl:L.length=i:=by rw [← hL,List.length_take,z1cm]; omega
  rw [hL] at htk ⊢
  obtain ⟨H,hH⟩ : ∃ H,HQ x s L=H:=⟨_,rfl⟩
  have hl2:2<H.length:=by rw [← hH]; simp [HQ]
  have hbl:zlf2 H.length H=true:=by
   rw [← hH]
   have e1:Am.below (HQ x s L).length (oV 3 1 L)=true:=by
    unfold HQ oV oT
    split<;>simp [Am.below]
   have e2 : ∀ n,zlf2 n (oT stC L)=true:=fun n=>zd81 zds6
   unfold HQ at e1 ⊢
   simp only [zlf2,zmq5 _ _ (z53g x),z28u e1,e2,Bool.and_true,Bool.true_and]
   rfl
  have e1:=zz5t (H:=H) (cs:=enC u) (off:=0) (zt9q u)
  have e2 : ∀ h,mk1 (kLt H.length) h (.mp 2 6 0) = .mp 2 6 0:=fun h=>zd3c (by simp [Am.below,hl2])
  have e3 : ∀ h,mk1 (kLt H.length) h (.mp 1 3 0) = .mp 1 3 0:=fun h=>zd3c (by simp [Am.below]; omega)
  have e4 : ∀ h,mk1 (kLt H.length) h (f.dv 33 enC)=f.dv 33 enC:=fun h=>zvft (zru8 f)
  have e5 : ∀ h,mk1 (kLt H.length) h (l.dv 6 ruC)=l.dv 6 ruC:=fun h=>zvft (zy5l l)
  have hl1:1<H.length:=by omega
  rw [hH]
  simp (disch:=first|omega|simp<;>omega|fail) [-zA,-zB,-zC,-zD,-zE,z382,z9o7,g,g']
  refine zbn1 (V_W mix zr5o ?_)
  simp (disch:=first|omega|simp<;>omega|fail) [-zA,-zB,-zC,-zD,-zE]
  refine zbn1 (z3mo (zbn1 (V_W mix zr5o ?_)))
  simp (disch:=first|omega|simp<;>omega|fail) [-zA,-zB,-zC,-zD,-zE,hy]
  refine zs10 (n0:=0) (H:=H) (cs:=enC u) (t':=[l.dv 6 ruC]++js 7++[.mp 1 3 0,.mp 2 6 0,.junk,.ref (enC u)]++js 20++[f.dv 33 enC,.int .i64 f.l.length,.int .i64 i]++js 71) hbl (by omega) ?_ (by simp (disch:=first|omega|simp<;>omega|fail) [-zA,-zB,-zC,-zD,-zE,z1r6,Am.below,hl2,hl1,zb48,z8b8 _ _ (zy5l l)]) ?_
  ·rw [zuso,List.drop_zero] at e1
   simp (disch:=first|omega|simp<;>omega|fail) [-zA,-zB,-zC,-zD,-zE,e1,e2,e3,e4,e5,-z1bt,-zdpe]
  rw [← hH]
  simp only [HQ]
  have hap:appX (.cells (lkC x) :: .cells r0C :: .cells (sdC s (oV 3 1 L))::oT stC L) 1 16 (oV 3 1 L) 1 [.str u.path]=some (oV 3 1 (L++[u.path]),.cells (lkC x) :: .cells r0C :: .cells (sdC s (oV 3 1 L))::oT stC (L++[u.path])) :=
   zte0 (k:=3) (K:=1) (b:=16) (f:=stC) (l:=L) (x:=u.path) (h:=[.cells (lkC x),.cells r0C,.cells (sdC s (oV 3 1 L))]) rfl zqv6 (by decide) (by decide) (fun _=>rfl) (by omega)
  have ho : ∀ (q:DV) (T:List AObj),objV (.cells (lkC x) :: .cells r0C :: .cells (sdC s q)::T) 2 6=some (sdC s q):=fun q T=>rfl
  have hst : ∀ (h:List AObj) (q:DV),zy6o h 2 1 5 (oV 3 1 (L++[u.path])) (some (sdC s q))=some (.junk,h.set 2 (.cells (sdC s (oV 3 1 (L++[u.path]))))):=fun h q=>z5ht zjwe z6jg
  refine V_W mix zr5o ?_
  simp (disch:=first|omega|simp<;>omega|fail) [-zA,-zB,-zC,-zD,-zE,ho,zi9h,hap,hst]
  refine V_W mix zr5o ?_
  simp (disch:=first|omega|simp<;>omega|fail) [-zA,-zB,-zC,-zD,-zE]
  exact ⟨i+1,z515 (by simp (disch:=first|omega|simp<;>omega|fail) [-zA,-zB,-zC,-zD,-zE,z56y,z9o7]) (by simp only [z56y,z9o7,HQ,htk]),by omega,by omega⟩
 have g':¬ (i:Int)<f.l.length:=by omega
 have htk:(zw2l f.l).take i=zw2l f.l:=List.take_of_length_le (by rw [z1cm]; omega)
 rw [htk]
 simp (disch:=first|omega|simp<;>omega|fail) [-zA,-zB,-zC,-zD,-zE,z382,z9o7,g,g']
 refine zbn1 (V_W mix zr5o ?_)
 simp (disch:=first|omega|simp<;>omega|fail) [-zA,-zB,-zC,-zD,-zE]
 refine zbn1 (V_W mix zr5o ?_)
 simp (disch:=first|omega|simp<;>omega|fail) [-zA,-zB,-zC,-zD,-zE]
 let F:Fr:=⟨lkC x,r0C,z53g x,rfl,s,f.l.length,hN⟩
 have hFH:HQ x s (zw2l f.l)=F.H (zw2l f.l) []:=HQ_F F _ (z1cm _) x rfl rfl
 rw [hFH]
 have hFN:F.N=f.l.length:=rfl
 have hFs:F.s=s:=rfl
 have hFb : ∀ Q R,objV (F.H Q R) 1 3=some r0C:=fun Q R=>rfl
 rw [← zj0d]
 clear_value F
 rw [← hFN]
 have hP0:(zw2l f.l).length+([]:List Str).length=F.N:=by rw [z1cm,hFN]; rfl
 refine zbn1 (zbn1 (V_W mix zr5o ?_))
 simp (disch:=first|omega|simp<;>omega|fail) [-zA,-zB,-zC,-zD,-zE,hll]
 refine z3mo (ztbr (zaqw F l) (fun a=>l.l.length-a.i) (fun a=>a.i≤l.l.length∧a.Q.length+a.R.length=F.N∧appL s (l.l.drop a.i) a.i a.Q=RR) ⟨0,zw2l f.l,[]⟩ (z515 (by simp (disch:=first|omega|simp<;>omega|fail) [-zA,-zB,-zC,-zD,-zE,zaqw,zxy2]) (by simp (disch:=first|omega|simp<;>omega|fail) [-zA,-zB,-zC,-zD,-zE,zaqw,zxy2])) ⟨by simp,hP0,by simpa using hRR⟩ (fun a ha => ?_))
 obtain ⟨i,Q,R⟩:=a
 obtain ⟨h1,h2,h3⟩:=ha
 simp only at h1 h2 h3
 have hO:=F.hO0 Q R
 have hb1:=hFb Q R
 have hqk:=zemx (N:=F.N) (m:=Q.length)
 have hqo:=zr9r (N:=F.N) (m:=Q.length)
 have hqc:=zqdn (N:=F.N) (m:=Q.length)
 obtain ⟨q,hq⟩ : ∃ q,qV F.N Q.length=q:=⟨_,rfl⟩
 have hret:=fun C=>F.ret Q R h2 C
 rw [hq] at hO hqk hqo hqc hret
 have hbl:=F.below Q R (Nat.le_refl _)
 have hl2:=(F.len Q R).1
 have hbd:=zzw4 hqc hqk
 have hst:=fun h id i p=>st13 (h:=h) (id:=id) hqo i p
 rw [hFs] at hO
 simp only [zaqw]
 by_cases g:i<l.l.length
 case neg =>
  have g':¬ (i:Int)<l.l.length:=by omega
  rw [List.drop_of_length_le (by omega)] at h3
  have h3:(⟨-1,[],Q⟩:Res)=RR:=h3
  subst h3
  obtain ⟨r1,r2,r3⟩:=hret [q,.int .i64 (-1),.str []]
  simp only [List.length_cons,List.length_nil,Nat.zero_add,Nat.reduceAdd] at r1
  obtain ⟨H,hH⟩ : ∃ H,F.H Q R=H:=⟨_,rfl⟩
  rw [hH] at hO hb1 r1 r2 r3 ⊢
  refine zbn1 (V_W mix zr5o ?_)
  simp (disch:=first|omega|simp<;>omega|fail) [-zA,-zB,-zC,-zD,-zE,zln2,zxy2,g,g']
  refine zbn1 (V_W mix zr5o ?_)
  simp (disch:=first|omega|simp<;>omega|fail) [-zA,-zB,-zC,-zD,-zE]
  refine zbn1 (V_W mix zr5o ?_)
  simp (disch:=first|omega|simp<;>omega|fail) [-zA,-zB,-zC,-zD,-zE,hO,zi9h,hbd,hb1,hst]
  refine V_W mix zr5o ?_
  rw [← hA]
  simp (disch:=first|omega|simp<;>omega|fail) [-zA,-zB,-zC,-zD,-zE,a10,r1,r2,r3,z6o8,z6t9]
 have g':(i:Int)<l.l.length:=by omega
 have hy : ∀ H,zpsc H 6 (l.dv 6 ruC) i=some (.ref (ruC l.l[i])):=fun H=>zalo zpvo g
 rw [List.drop_eq_getElem_cons g] at h3
 obtain ⟨r,hr⟩ : ∃ r,l.l[i]=r:=⟨_,rfl⟩
 rw [hr] at hy h3
 have e1:=zz5t (H:=F.H Q R) (cs:=ruC r) (off:=0) (z3bz r)
 have e2 : ∀ h,mk1 (kLt (F.H Q R).length) h (.mp 2 6 0) = .mp 2 6 0:=fun h=>zd3c (by simp [Am.below,hl2])
 have e3 : ∀ h,mk1 (kLt (F.H Q R).length) h (.mp 1 3 0) = .mp 1 3 0:=fun h=>zd3c (by simp [Am.below]; omega)
 have e4 : ∀ h,mk1 (kLt (F.H Q R).length) h zj0d=zj0d:=fun h=>zd3c (by simp [Am.below,z1r6,zj0d,hl2])
 have e5 : ∀ h,mk1 (kLt (F.H Q R).length) h (l.dv 6 ruC)=l.dv 6 ruC:=fun h=>zvft (zy5l l)
 have hl1:1<(F.H Q R).length:=by omega
 have htb:Am.below (F.H Q R).length zj0d=true:=by simp [Am.below,z1r6,zj0d,hl2]
 have hcv:=zu0t (r:=r)
 cases hv:z8mn r with
 | false =>
  have h3:(⟨i,[],Q⟩:Res)=RR:=by rw [← h3]; simp [appL,hv]
  subst h3
  rw [hv] at hcv
  obtain ⟨r1,r2,r3⟩:=hret [q,.int .i64 i,.str []]
  simp only [List.length_cons,List.length_nil,Nat.zero_add,Nat.reduceAdd] at r1
  obtain ⟨H,hH⟩ : ∃ H,F.H Q R=H:=⟨_,rfl⟩
  rw [hH] at hO hb1 r1 r2 r3 hbl e1 e2 e3 e4 e5 hl1 hl2 htb ⊢
  refine zbn1 (V_W mix zr5o ?_)
  simp (disch:=first|omega|simp<;>omega|fail) [-zA,-zB,-zC,-zD,-zE,zln2,zxy2,g,g']
  refine zbn1 (V_W mix zr5o ?_)
  simp (disch:=first|omega|simp<;>omega|fail) [-zA,-zB,-zC,-zD,-zE]
  refine zbn1 (z3mo (zbn1 (V_W mix zr5o ?_)))
  simp (disch:=first|omega|simp<;>omega|fail) [-zA,-zB,-zC,-zD,-zE,hy]
  refine zs10 (n0:=0) (H:=H) (cs:=ruC r) (t':=js 8++[.mp 1 3 0,.mp 2 6 0,.junk,.junk,zj0d,.int .i64 i,.ref (ruC r)]++js 50++[l.dv 6 ruC,.int .i64 l.l.length,.int .i64 i]++js 38) hbl (by omega) ?_ (by simp (disch:=first|omega|simp<;>omega|fail) [-zA,-zB,-zC,-zD,-zE,z1r6,Am.below,hl2,hl1,htb,z8b8 _ _ (zy5l l)]) ?_
  ·rw [zpvo,List.drop_zero] at e1
   simp (disch:=first|omega|simp<;>omega|fail) [-zA,-zB,-zC,-zD,-zE,e1,e2,e3,e4,e5,-z1bt,-zdpe]
  refine zbn1 (zbn1 (V_W mix zs7d ?_))
  simp (disch:=first|omega|simp<;>omega|fail) [-zA,-zB,-zC,-zD,-zE,zmf2,hcv]
  refine V_W mix zr5o ?_
  simp (disch:=first|omega|simp<;>omega|fail) [-zA,-zB,-zC,-zD,-zE,hO,zi9h,hbd,hb1,hst]
  rw [← hA]
  simp (disch:=first|omega|simp<;>omega|fail) [-zA,-zB,-zC,-zD,-zE,a10,r1,r2,r3,z6o8,z6t9]
 | true =>
  obtain ⟨k,hk,hk1,hk7⟩:=zc3o hv
  have c:=zmbk F Q R h2 r k hk1 hk7
  have hix:=zhgh k hk1 hk7
  have hkn:r.kind.toNat=k:=by rw [hk]; rfl
  rw [hv] at hcv
  rw [hFs] at c
  have h3:(match zkx0 r k Q with|some p=>(⟨i,p,zwyd (zkvg s r k) Q⟩:Res)|none=>appL s (l.l.drop (i+1)) (i+1) (zwyd (zkvg s r k) Q))=RR:=by rw [← h3]; simp [appL,hv,hkn]
  obtain ⟨Q',hQ'⟩ : ∃ Q',zwyd (zkvg s r k) Q=Q':=⟨_,rfl⟩
  have hkl:=zbdz (zkvg s r k) Q
  rw [hQ'] at c h3 hkl
  obtain ⟨R',hR'⟩ : ∃ R',repE (Q.length-Q'.length)++R=R':=⟨_,rfl⟩
  have hL':Q'.length+R'.length=F.N:=by rw [← hR',List.length_append,repE,List.length_replicate]; omega
  rw [hR'] at c
  have hO':=F.hO0 Q' R'
  have hb1':=hFb Q' R'
  have hqk':=zemx (N:=F.N) (m:=Q'.length)
  have hqo':=zr9r (N:=F.N) (m:=Q'.length)
  have hqc':=zqdn (N:=F.N) (m:=Q'.length)
  obtain ⟨q',hq'⟩ : ∃ q',qV F.N Q'.length=q':=⟨_,rfl⟩
  have hret':=fun C=>F.ret Q' R' hL' C
  rw [hq'] at hO' hqk' hqo' hqc' hret'
  have hbd':=zkup hqc' hqk'
  have hst':=fun h id i p=>st13 (h:=h) (id:=id) hqo' i p
  rw [hFs] at hO'
  have hS':F.H Q' R'=F.H Q' R':=rfl
  obtain ⟨o,ho⟩ : ∃ o,zkx0 r k Q=o:=⟨_,rfl⟩
  rw [ho] at c h3
  obtain ⟨H1,hH1⟩ : ∃ H1,F.H Q' R'=H1:=⟨_,rfl⟩
  rw [hH1] at c hO' hb1' hret'
  obtain ⟨H,hH⟩ : ∃ H,F.H Q R=H:=⟨_,rfl⟩
  rw [hH] at c hO hb1 hbl e1 e2 e3 e4 e5 hl1 hl2 htb ⊢
  refine zbn1 (V_W mix zr5o ?_)
  simp (disch:=first|omega|simp<;>omega|fail) [-zA,-zB,-zC,-zD,-zE,zln2,zxy2,g,g']
  refine zbn1 (V_W mix zr5o ?_)
  simp (disch:=first|omega|simp<;>omega|fail) [-zA,-zB,-zC,-zD,-zE]
  refine zbn1 (z3mo (zbn1 (V_W mix zr5o ?_)))
  simp (disch:=first|omega|simp<;>omega|fail) [-zA,-zB,-zC,-zD,-zE,hy]
  refine zs10 (n0:=0) (H:=H) (cs:=ruC r) (t':=js 8++[.mp 1 3 0,.mp 2 6 0,.junk,.junk,zj0d,.int .i64 i,.ref (ruC r)]++js 50++[l.dv 6 ruC,.int .i64 l.l.length,.int .i64 i]++js 38) hbl (by omega) ?_ (by simp (disch:=first|omega|simp<;>omega|fail) [-zA,-zB,-zC,-zD,-zE,z1r6,Am.below,hl2,hl1,htb,z8b8 _ _ (zy5l l)]) ?_
  ·rw [zpvo,List.drop_zero] at e1
   simp (disch:=first|omega|simp<;>omega|fail) [-zA,-zB,-zC,-zD,-zE,e1,e2,e3,e4,e5,-z1bt,-zdpe]
  refine zbn1 (zbn1 (V_W mix zs7d ?_))
  simp (disch:=first|omega|simp<;>omega|fail) [-zA,-zB,-zC,-zD,-zE,zmf2,hcv]
  refine V_W mix zr5o ?_
  simp (disch:=first|omega|simp<;>omega|fail) [-zA,-zB,-zC,-zD,-zE]
  refine zbn1 (V_W mix (z84q c) ?_)
  simp (disch:=first|omega|simp<;>omega|fail) [-zA,-zB,-zC,-zD,-zE,hk,hix,TH_k,zpvh]
  cases o with
  | some p =>
   have h3:(⟨i,p,Q'⟩:Res)=RR:=h3
   subst h3
   obtain ⟨r1,r2,r3⟩:=hret' [q',.int .i64 i,.str p]
   simp only [List.length_cons,List.length_nil,Nat.zero_add,Nat.reduceAdd] at r1
   simp (disch:=first|omega|simp<;>omega|fail) [-zA,-zB,-zC,-zD,-zE,zidp]
   refine zbn1 (V_W mix zr5o ?_)
   simp (disch:=first|omega|simp<;>omega|fail) [-zA,-zB,-zC,-zD,-zE]
   refine V_W mix zr5o ?_
   simp (disch:=first|omega|simp<;>omega|fail) [-zA,-zB,-zC,-zD,-zE,hO',zi9h,hbd',hb1',hst']
   rw [← hA]
   simp (disch:=first|omega|simp<;>omega|fail) [-zA,-zB,-zC,-zD,-zE,a10,r1,r2,r3,z6o8,z6t9]
  | none =>
   have h3:appL s (l.l.drop (i+1)) (i+1) Q'=RR:=h3
   simp (disch:=first|omega|simp<;>omega|fail) [-zA,-zB,-zC,-zD,-zE,zidp]
   refine zbn1 (V_W mix zr5o ?_)
   simp (disch:=first|omega|simp<;>omega|fail) [-zA,-zB,-zC,-zD,-zE]
   refine V_W mix zr5o ?_
   simp (disch:=first|omega|simp<;>omega|fail) [-zA,-zB,-zC,-zD,-zE]
   refine V_W mix zr5o ?_
   simp (disch:=first|omega|simp<;>omega|fail) [-zA,-zB,-zC,-zD,-zE]
   exact ⟨⟨i+1,Q',R'⟩,z515 (by simp (disch:=first|omega|simp<;>omega|fail) [-zA,-zB,-zC,-zD,-zE,zaqw,zxy2]) (by simp only [zaqw,zxy2,hH1]),by simp only; omega,by simp only; omega,hL',h3⟩
theorem z8ze (l:Sl Rul) (pr:Bool) (x:Lnk) (done:Sl Lnk) (hN:(zmoc pr x).l.length≤65536) :
  V P 0 a10.code (retK a10.res (z6t9 (zmoc pr x).l.length (zr9o l.l pr x done))) ⟨zr5g a10.ntmps [l.dv 6 ruC,.bool pr,.agg (lkC x),done.dv 3 lkC],[]⟩:=by
 obtain ⟨f,hf⟩ : ∃ f,zmoc pr x=f:=⟨_,rfl⟩
 have hA:zr9o l.l pr x done=appL ⟨x,f,done⟩ l.l 0 (zw2l f.l):=by unfold zr9o sdOf; rw [hf]
 rw [hf] at hN
 rw [hA,hf]
 have ht:=ze06 l x done f hN ⟨x,f,done⟩ rfl
 obtain ⟨RR,hRR⟩ : ∃ RR,z6t9 f.l.length (appL ⟨x,f,done⟩ l.l 0 (zw2l f.l))=RR:=⟨_,rfl⟩
 rw [hRR] at ht ⊢
 have hst : ∀ h (id:Nat),zy6o h id 1 3 (x.p.dv 33 enC) (some (sdC ⟨x,x.m,done⟩ .nils))=some (.junk,h.set id (.cells (sdC ⟨x,x.p,done⟩ .nils))):=fun h id=>by
  rw [Am.storeO_1 (zfr8 _) (z4ja _) (by rw [zwrr]; decide)]; rfl
 have hbs:zvnk [.str [],.nils,.nils,.nils,.nils,.nils] [(0,3,.agg (lkC x)),(3,1,x.m.dv 33 enC),(4,1,done.dv 3 lkC)]=some (.agg (sdC ⟨x,x.m,done⟩ .nils)):=by
  simp [zvnk,zi03,zk7y,lkC,sdC]
 have hbx : ∀ h,boxD h (.agg (sdC ⟨x,x.m,done⟩ .nils))=some (.mp h.length 6 0,h++[.cells (sdC ⟨x,x.m,done⟩ .nils)]):=fun h=>by
  rw [zn72]; try rfl
 have hsd : ∀ T,objV (.cells (lkC x) :: .cells [.nils,.int .i64 0,.str []] :: .cells (sdC ⟨x,x.m,done⟩ .nils)::T) 2 6=some (sdC ⟨x,x.m,done⟩ .nils):=fun T=>rfl
 refine zbn1 (V_W mix zr5o ?_)
 simp (disch:=first|omega|simp<;>omega|fail) [-zA,-zB,-zC,-zD,-zE,a10,zrer]
 refine zbn1 (V_W mix zr5o ?_)
 simp (disch:=first|omega|simp<;>omega|fail) [-zA,-zB,-zC,-zD,-zE,zrer,hbs,hbx]
 refine zbn1 (zbn1 (V_W mix zr5o ?_))
 simp (disch:=first|omega|simp<;>omega|fail) [-zA,-zB,-zC,-zD,-zE]
 refine V_W mix zr5o ?_
 cases pr with
 | true =>
  have hf:x.p=f:=hf
  subst hf
  simp (disch:=first|omega|simp<;>omega|fail) [-zA,-zB,-zC,-zD,-zE,hsd,hst]
  exact zqfd (z515 (by simp (disch:=first|omega|simp<;>omega|fail) [-zA,-zB,-zC,-zD,-zE]) rfl) ht
 | false =>
  have hf:x.m=f:=hf
  subst hf
  simp (disch:=first|omega|simp<;>omega|fail) [-zA,-zB,-zC,-zD,-zE]
  exact zqfd (z515 (by simp (disch:=first|omega|simp<;>omega|fail) [-zA,-zB,-zC,-zD,-zE]) rfl) ht
theorem zy2p {a b:Sl Rul × Bool × Lnk × Sl Lnk} (e:[a.1.dv 6 ruC,.bool a.2.1,.agg (lkC a.2.2.1),a.2.2.2.dv 3 lkC]=[b.1.dv 6 ruC,DV.bool b.2.1,.agg (lkC b.2.2.1),b.2.2.2.dv 3 lkC]):a=b:=by
 obtain ⟨a1,a2,a3,a4⟩:=a
 obtain ⟨b1,b2,b3,b4⟩:=b
 simp only [List.cons.injEq,DV.bool.injEq,DV.agg.injEq,and_true] at e
 rw [z041 e.1,e.2.1,zja4 e.2.2.1,zi59 e.2.2.2]
noncomputable def cApp:List DV→Option DV:=con (fun a:Sl Rul × Bool × Lnk × Sl Lnk=>(zmoc a.2.1 a.2.2.1).l.length≤65536) (fun a=>[a.1.dv 6 ruC,.bool a.2.1,.agg (lkC a.2.2.1),a.2.2.2.dv 3 lkC]) (fun a=>z6t9 (zmoc a.2.1 a.2.2.1).l.length (zr9o a.1.l a.2.1 a.2.2.1 a.2.2.2))
theorem zqfs {l:Sl Rul} {pr:Bool} {x:Lnk} {done:Sl Lnk} (h:(zmoc pr x).l.length≤65536):cApp [l.dv 6 ruC,.bool pr,.agg (lkC x),done.dv 3 lkC]=some (z6t9 (zmoc pr x).l.length (zr9o l.l pr x done)) :=
 zzno (A:=fun a:Sl Rul × Bool × Lnk × Sl Lnk=>(zmoc a.2.1 a.2.2.1).l.length≤65536) (f:=fun a=>[a.1.dv 6 ruC,.bool a.2.1,.agg (lkC a.2.2.1),a.2.2.2.dv 3 lkC]) (g:=fun a=>z6t9 (zmoc a.2.1 a.2.2.1).l.length (zr9o a.1.l a.2.1 a.2.2.1 a.2.2.2)) (fun a b e=>by rw [zy2p e]) (l,pr,x,done) h
theorem zhri:(Con.pure cApp).Sound P 10:=z2au fun a h=>znz9 Tryz.func10 z1ee (z8ze a.1 a.2.1 a.2.2.1 a.2.2.2 h)
end Go.Proofs.YtjknipdiglpnlaaGreatDoor
set_option linter.unusedSimpArgs false
set_option linter.unusedVariables false
set_option maxRecDepth 8000
namespace Go.Proofs.YtjknipdiglpnlaaGreatDoor
open Go Go.Am
def aR1:Rul:=⟨5,[97],[],false,[],[]⟩
def aR2:Rul:=⟨6,[42,42],[],false,[],[]⟩
def aRl:Sl Rul:=⟨some true,[aR1,aR2],by simp,by simp⟩
def aE1:Ent:=⟨[97],dgW 1#8⟩
def aE2:Ent:=⟨[98],dgW 1#8⟩
def aM:Sl Ent:=⟨some true,[aE1,aE2],by simp,by simp⟩
def aX:Lnk:=⟨[],aM,nilS⟩
theorem aApp:zr9o aRl.l false aX nilS=⟨1,[98],[[98]]⟩:=by decide +kernel
theorem aStr:zaba aRl.l=true:=by decide +kernel
noncomputable def zroa:Tbl:=addT 10 (.pure cApp) (addT 12 (.pure cStr) tbl0)
theorem zoud:zroa 10 = .pure cApp:=by simp [zroa]
theorem zkm0:zroa 12 = .pure cStr:=by simp [zroa]
theorem zaq8:zroa.Sound P:=z0rp zhri (z0rp zabo zr5o)
theorem bdr2 {k:Int} {p:Str}:zvnk [.int .i64 0,.str [],.str [],.bool false,.str [],.str []] [(0,1,.int .i64 k),(1,1,.str p)]=some (.agg (ruC ⟨k,p,[],false,[],[]⟩)):=by
 simp [zvnk,zi03,zk7y,ruC]
theorem bsr2 {a b:Rul}:bslD 6 2 [.int .i64 0,.str [],.str [],.bool false,.str [],.str []] [(0,6,.agg (ruC a)),(6,6,.agg (ruC b))]=some (.sl true 6 2 (ruC a++ruC b)):=rfl
theorem bse2 {a b:Ent}:bslD 33 2 [.str [],w8 0#8,w8 0#8,w8 0#8,w8 0#8,w8 0#8,w8 0#8,w8 0#8,w8 0#8,w8 0#8,w8 0#8,w8 0#8,w8 0#8,w8 0#8,w8 0#8,w8 0#8,w8 0#8,w8 0#8,w8 0#8,w8 0#8,w8 0#8,w8 0#8,w8 0#8,w8 0#8,w8 0#8,w8 0#8,w8 0#8,w8 0#8,w8 0#8,w8 0#8,w8 0#8,w8 0#8,w8 0#8] [(0,33,.agg (enC a)),(33,33,.agg (enC b))]=some (.sl true 33 2 (enC a++enC b)):=by
 have h1:=zuso a
 have h2:=zuso b
 simp [bslD,zi03,zk7y,reps,h1,h2,List.drop_of_length_le]
theorem zagq:aM.dv 33 enC = .sl true 33 2 (enC aE1++enC aE2):=by simp [aM,Sl.dv,slD]
theorem z8eo:aRl.dv 6 ruC = .sl true 6 2 (ruC aR1++ruC aR2):=by simp [aRl,Sl.dv,slD]
theorem zxeu:Runs zroa a14 [] (.bool true):=by
 refine ⟨?_⟩
 have k1:=zqfs (l:=aRl) (pr:=false) (x:=aX) (done:=nilS) (by simp [zmoc,aX,aM])
 rw [aApp] at k1
 have k2:=zg71 (x:=aRl)
 rw [aStr] at k2
 have hlen:(zmoc false aX).l.length=2:=rfl
 rw [hlen] at k1
 have hM:=zagq
 have hR:=z8eo
 obtain ⟨RD,hRD⟩ : ∃ RD,aRl.dv 6 ruC=RD:=⟨_,rfl⟩
 obtain ⟨MD,hMD⟩ : ∃ MD,aM.dv 33 enC=MD:=⟨_,rfl⟩
 have hRp:zyp8 RD=true:=by rw [← hRD]; exact zy5l _
 have hMp:zyp8 MD=true:=by rw [← hMD]; exact zru8 _
 have hMk:MD.known=true:=by rw [← hMD]; exact ztw5 _
 have hXC:lkC aX=[.str [],MD,.nils]:=by rw [← hMD]; rfl
 rw [hRD] at k1 k2 hR
 rw [hMD] at hM
 rw [hXC] at k1
 have n0:(nilS:Sl Lnk).dv 3 lkC = .nils:=rfl
 rw [n0] at k1
 have b1:zvnk [.int .i64 0,.str [],.str [],.bool false,.str [],.str []] [(0,1,.int .i64 5),(1,1,.str [97])]=some (.agg (ruC aR1)):=bdr2
 have b2:zvnk [.int .i64 0,.str [],.str [],.bool false,.str [],.str []] [(0,1,.int .i64 6),(1,1,.str [42,42])]=some (.agg (ruC aR2)):=bdr2
 have b3:bslD 6 2 [.int .i64 0,.str [],.str [],.bool false,.str [],.str []] [(0,6,.agg (ruC aR1)),(6,6,.agg (ruC aR2))]=some RD:=by rw [bsr2,hR]
 have b4:zvnk (rep 32 (w8 0#8)) [(0,1,w8 1#8)]=some (.agg (dgC (dgW 1#8))):=by rw [z4hl]; exact z7ni
 have b4':zvnk (List.map w8 (rep 32 0#8)) [(0,1,w8 1#8)]=some (.agg (dgC (dgW 1#8))):=by rw [zii6]; exact z7ni
 have b4'':zvnk (dgC dg0) [(0,1,w8 1#8)]=some (.agg (dgC (dgW 1#8))):=z7ni
 have b5:=zg8c (p:=[97]) (d:=dgW 1#8)
 have b6:=zg8c (p:=[98]) (d:=dgW 1#8)
 have b7:=bse2 (a:=⟨[97],dgW 1#8⟩) (b:=⟨[98],dgW 1#8⟩)
 have hM:MD = .sl true 33 2 (enC ⟨[97],dgW 1#8⟩++enC ⟨[98],dgW 1#8⟩):=hM
 rw [← hM] at b7
 have b8:zvnk [.str [],.nils,.nils] [(1,1,MD)]=some (.agg [.str [],MD,.nils]):=by
  have hc:MD.cells=[MD]:=by rw [← hMD]; exact zfr8 _
  simp [zvnk,zi03,zk7y,hMk,hc]
 have hst : ∀ h (id:Nat),zy6o h id 3 0 (.agg [(own [[98]]:Sl Str).dv 1 stC,.int .i64 1,.str [98]]) (some [.nils,.int .i64 0,.str []])=some (.junk,h.set id (.cells [(own [[98]]:Sl Str).dv 1 stC,.int .i64 1,.str [98]])):=fun h id=>zfc1 rfl rfl (by simp [z4ja])
 have hk1:z6t9 2 ⟨1,[98],[[98]]⟩ = .agg [(own [[98]]:Sl Str).dv 1 stC,.int .i64 1,.str [98]]:=rfl
 rw [hk1] at k1
 have hM:MD = .sl true 33 2 (.str [97]::(dgC (dgW 1#8) ++ .str [98]::dgC (dgW 1#8))):=hM
 rw [hM] at b8 k1 hMp
 rw [hR] at k1 k2 hRp
 simp only [zyp8] at hRp hMp
 simp (disch:=first|omega|simp<;>omega|fail) [-zA,-zB,-zC,-zD,-zE,a14,b1,b2,b3,b4,b4',b4'',b5,b6,b7,b8,zoud,zkm0,k1,k2,hRp,hMp,hst]
theorem z7b9:Am.Sem P 14 [] (.bool true):=zljw mix zaq8 Tryz.func14 zzfl zxeu
def cTr:List DV→Option DV
 | []=>some (.bool true)|_=>none
theorem zjnj:cTr []=some (.bool true):=rfl
theorem zql9 {f:Nat} (h:Am.Sem P f [] (.bool true)):(Con.pure cTr).Sound P f:=by
 intro args v e
 unfold cTr at e
 split at e
 ·simp at e; subst e; exact h
 ·simp at e
def stpL:List Str:=[[102,101,116,99,104],[98,117,105,108,100],[110,111,110,101]]
def stpD:DV := .sl true 1 3 [.str [102,101,116,99,104],.str [98,117,105,108,100],.str [110,111,110,101]]
theorem zh00:Runs tbl0 a8 [] stpD:=by
 refine ⟨?_⟩
 simp (disch:=first|omega|simp<;>omega|fail) [-zA,-zB,-zC,-zD,-zE,a8,stpD]
def cSt0:List DV→Option DV
 | []=>some stpD|_=>none
theorem za8k:cSt0 []=some stpD:=rfl
theorem z08o:(Con.pure cSt0).Sound P 8:=by
 intro args v e
 unfold cSt0 at e
 split at e
 ·simp at e; subst e; exact zljw mix zr5o Tryz.func8 zwbl zh00
 ·simp at e
end Go.Proofs.YtjknipdiglpnlaaGreatDoor
set_option linter.unusedSimpArgs false
set_option linter.unusedVariables false
set_option maxRecDepth 8000
namespace Go.Proofs.YtjknipdiglpnlaaGreatDoor
open Go Go.Am
def patL:List Str:=[[42],[42,42],[97],[97,42],[115,114,99,47,42],[115,114,99,47,42,42],[42,42,46,99],[63],[111,117,116,47,42],[42,47,97],[97,46,99],[42,42,47,97],[111,117,116],[98,42,42]]
def dirL:List Str:=[[],[],[115,114,99],[111,117,116],[97],[115,114,99,47,97]]
noncomputable def zxt4:Tbl:=addT 17 (.tch z1m3) (addT 45 (.tch zqck) tbl0)
theorem zbv1:zxt4 45 = .tch zqck:=by simp [zxt4]
theorem z5j4:zxt4.Sound P:=z0rp z51e (z0rp z3hj zr5o)
theorem z3tb (t:Tp) (ht:t.at_<3900000000):RunsF zxt4 a44 [.mp 0 2 0] [.cells (tpC t)] (.str (zzh5 t patL)) [.cells (tpC (t.adv 1))]:=by
 refine ⟨?_⟩
 have hp:zqck [.sl true 1 14 [.str [42],.str [42,42],.str [97],.str [97,42],.str [115,114,99,47,42],.str [115,114,99,47,42,42],.str [42,42,46,99],.str [63],.str [111,117,116,47,42],.str [42,47,97],.str [97,46,99],.str [42,42,47,97],.str [111,117,116],.str [98,42,42]]] (tpC t)=some (.str (zzh5 t patL),tpC (t.adv 1)):=ze0z (l:=patL) (by omega) (by decide) (by decide)
 have hfz : ∀ k,fzL 1 k (tpC (t.adv 1)) (tpC (t.adv 1)):=fun k=>znnb (zs7w _)
 simp (disch:=first|omega|simp<;>omega|fail) [-zA,-zB,-zC,-zD,-zE,a44,zbv1,hp,hfz]
theorem zbw2 (t:Tp) (ht:t.at_<3900000000):RunsF zxt4 a46 [.mp 0 2 0] [.cells (tpC t)] (.str (zzh5 t dirL)) [.cells (tpC (t.adv 1))]:=by
 refine ⟨?_⟩
 have hp:zqck [.sl true 1 6 [.str [],.str [],.str [115,114,99],.str [111,117,116],.str [97],.str [115,114,99,47,97]]] (tpC t)=some (.str (zzh5 t dirL),tpC (t.adv 1)):=ze0z (l:=dirL) (by omega) (by decide) (by decide)
 have hfz : ∀ k,fzL 1 k (tpC (t.adv 1)) (tpC (t.adv 1)):=fun k=>znnb (zs7w _)
 simp (disch:=first|omega|simp<;>omega|fail) [-zA,-zB,-zC,-zD,-zE,a46,zbv1,hp,hfz]
noncomputable def cPtn (l:List Str):List DV→List DV→Option (DV × List DV):=conT (fun a:Tp=>a.at_<3900000000) (fun a=>[]) tpC (fun a=>(.str (zzh5 a l),tpC (a.adv 1)))
theorem z43m {l:List Str} {t:Tp} (h:t.at_<3900000000):cPtn l [] (tpC t)=some (.str (zzh5 t l),tpC (t.adv 1)) :=
 ztyo (A:=fun a:Tp=>a.at_<3900000000) (f:=fun a=>[]) (s:=tpC) (fun a b _ e=>by rw [z15z e]) t h
theorem zox4:(Con.tch (cPtn patL)).Sound P 44 :=
 z0tq (fun a _=>⟨rfl,zs7w _,rfl,zs7w _⟩) fun a h=>zizi mix z5j4 Tryz.func44 zeo7 (z3tb a h) (Nat.le_refl _)
theorem zk74:(Con.tch (cPtn dirL)).Sound P 46 :=
 z0tq (fun a _=>⟨rfl,zs7w _,rfl,zs7w _⟩) fun a h=>zizi mix z5j4 Tryz.func46 znv1 (zbw2 a h) (Nat.le_refl _)
def rulV (t:Tp):Rul:=if tpN t 7=0 then ⟨1,zzh5 (t.adv 1) patL,zzh5 (t.adv 2) stpL,decide (0<tpN (t.adv 3) 3),zzh5 (t.adv 4) dirL,zzh5 (t.adv 5) dirL⟩ else ⟨1+tpN t 7,zzh5 (t.adv 1) patL,[],false,[],[]⟩
def rulT (t:Tp):Tp:=if tpN t 7=0 then t.adv 6 else t.adv 2
theorem zpc2 (t:Tp):(rulT t).at_≤t.at_+6:=by unfold rulT; split<;>simp only [zpza]<;>omega
noncomputable def zxfx:Tbl:=addT 17 (.tch z1m3) (addT 45 (.tch zqck) (addT 44 (.tch (cPtn patL)) (addT 46 (.tch (cPtn dirL)) tbl0)))
theorem z8on:zxfx 17 = .tch z1m3:=by simp [zxfx]
theorem zrpr:zxfx 45 = .tch zqck:=by simp [zxfx]
theorem zhlb:zxfx 44 = .tch (cPtn patL):=by simp [zxfx]
theorem zsns:zxfx 46 = .tch (cPtn dirL):=by simp [zxfx]
theorem zz4v:zxfx.Sound P:=z0rp z51e (z0rp z3hj (z0rp zox4 (z0rp zk74 zr5o)))
theorem zd5b {h:List AObj} {id:Nat} {k:Int} {p a i t v:Str} {b:Bool}:zy6o h id 1 2 (.str v) (some (ruC ⟨k,p,a,b,i,t⟩))=some (.junk,h.set id (.cells (ruC ⟨k,p,v,b,i,t⟩))):=by
 rw [Am.storeO_1 rfl rfl (by rw [zpvo]; decide)]; rfl
theorem zkwp {h:List AObj} {id:Nat} {k:Int} {p a i t:Str} {b v:Bool}:zy6o h id 1 3 (.bool v) (some (ruC ⟨k,p,a,b,i,t⟩))=some (.junk,h.set id (.cells (ruC ⟨k,p,a,v,i,t⟩))):=by
 rw [Am.storeO_1 rfl rfl (by rw [zpvo]; decide)]; rfl
theorem z3oo {h:List AObj} {id:Nat} {k:Int} {p a i t v:Str} {b:Bool}:zy6o h id 1 4 (.str v) (some (ruC ⟨k,p,a,b,i,t⟩))=some (.junk,h.set id (.cells (ruC ⟨k,p,a,b,v,t⟩))):=by
 rw [Am.storeO_1 rfl rfl (by rw [zpvo]; decide)]; rfl
theorem z5uz {h:List AObj} {id:Nat} {k:Int} {p a i t v:Str} {b:Bool}:zy6o h id 1 5 (.str v) (some (ruC ⟨k,p,a,b,i,t⟩))=some (.junk,h.set id (.cells (ruC ⟨k,p,a,b,i,v⟩))):=by
 rw [Am.storeO_1 rfl rfl (by rw [zpvo]; decide)]; rfl
theorem ze1h (t:Tp) (ht:t.at_<3800000000):RunsF zxfx a19 [.mp 0 2 0,stpD] [.cells (tpC t)] (.agg (ruC (rulV t))) [.cells (tpC (rulT t))]:=by
 refine ⟨?_⟩
 have n1:z1m3 [.int .i64 7] (tpC t)=some (.int .i64 (tpN t 7),tpC (t.adv 1)):=z44h (by omega) (by omega) (by omega)
 have lo:=z4rs t 7
 have hi:=z2s7 t (n:=7) (by omega)
 have n2:=z43m (l:=patL) (t:=t.adv 1) (by simp only [zpza]; omega)
 have p2:zqck [stpD] (tpC (t.adv 2))=some (.str (zzh5 (t.adv 2) stpL),tpC (t.adv 3)):=by
  have:=ze0z (t:=t.adv 2) (l:=stpL) (by simp only [zpza]; omega) (by decide) (by decide)
  rwa [zjmf] at this
 have p3:z1m3 [.int .i64 3] (tpC (t.adv 3))=some (.int .i64 (tpN (t.adv 3) 3),tpC (t.adv 4)):=by
  have:=z44h (t:=t.adv 3) (n:=3) (by simp only [zpza]; omega) (by omega) (by omega)
  rwa [zjmf] at this
 have p4:cPtn dirL [] (tpC (t.adv 4))=some (.str (zzh5 (t.adv 4) dirL),tpC (t.adv 5)):=by
  have:=z43m (l:=dirL) (t:=t.adv 4) (by simp only [zpza]; omega)
  rwa [zjmf] at this
 have p5:cPtn dirL [] (tpC (t.adv 5))=some (.str (zzh5 (t.adv 5) dirL),tpC (t.adv 6)):=by
  have:=z43m (l:=dirL) (t:=t.adv 5) (by simp only [zpza]; omega)
  rwa [zjmf] at this
 rw [zjmf] at n2
 have hv:rulV t=if tpN t 7=0 then ⟨1,zzh5 (t.adv 1) patL,zzh5 (t.adv 2) stpL,decide (0<tpN (t.adv 3) 3),zzh5 (t.adv 4) dirL,zzh5 (t.adv 5) dirL⟩ else ⟨1+tpN t 7,zzh5 (t.adv 1) patL,[],false,[],[]⟩:=rfl
 have hT:rulT t=if tpN t 7=0 then t.adv 6 else t.adv 2:=rfl
 have hfz : ∀ t':Tp,∀ k,fzL 1 k (tpC t') (tpC t'):=fun t' k=>znnb (zs7w _)
 have hls : ∀ H,lenD H stpD=some (.int .i64 3):=fun H=>rfl
 obtain ⟨n,hn⟩ : ∃ n,tpN t 7=n:=⟨_,rfl⟩
 rw [hn] at n1 lo hi hv hT
 obtain ⟨sp,hsp⟩ : ∃ sp,stpD=sp:=⟨_,rfl⟩
 have hspp:zyp8 sp=true:=by rw [← hsp]; rfl
 rw [hsp] at p2 hls ⊢
 obtain ⟨x1,hx1⟩ : ∃ x,zzh5 (t.adv 1) patL=x:=⟨_,rfl⟩
 obtain ⟨x2,hx2⟩ : ∃ x,zzh5 (t.adv 2) stpL=x:=⟨_,rfl⟩
 obtain ⟨x3,hx3⟩ : ∃ x,tpN (t.adv 3) 3=x:=⟨_,rfl⟩
 obtain ⟨x4,hx4⟩ : ∃ x,zzh5 (t.adv 4) dirL=x:=⟨_,rfl⟩
 obtain ⟨x5,hx5⟩ : ∃ x,zzh5 (t.adv 5) dirL=x:=⟨_,rfl⟩
 rw [hx1] at n2 hv
 rw [hx2] at p2 hv
 rw [hx3] at p3 hv
 rw [hx4] at p4 hv
 rw [hx5] at p5 hv
 have hb:=bdr2 (k:=1+n) (p:=x1)
 have hso : ∀ (h:List AObj) (id:Nat) (r:Rul),zy6o h id 6 0 (.agg (ruC r)) (some [.int .i64 0,.str [],.str [],.bool false,.str [],.str []])=some (.junk,h.set id (.cells (ruC r))):=fun h id r=>z3hv rfl
 have hfo : ∀ H k r,fzLo 1 H k (ruC r)=some (ruC r):=fun H k r=>zojd (z3bz r)
 by_cases h0:n=0
 ·subst h0
  rw [if_pos rfl] at hv hT
  rw [hv,hT]
  have hb:=bdr2 (k:=1) (p:=x1)
  simp (disch:=first|omega|simp<;>omega|fail) [-zA,-zB,-zC,-zD,-zE,a19,z8on,n1,zhlb,n2,hb,hso,hls,zrpr,p2,p3,zsns,p4,p5,zd5b,zkwp,z3oo,z5uz,hfz,hfo,hspp]
 ·rw [if_neg h0] at hv hT
  rw [hv,hT]
  have h1:¬ 1+n=1:=by omega
  simp (disch:=first|omega|simp<;>omega|fail) [-zA,-zB,-zC,-zD,-zE,a19,z8on,n1,zhlb,n2,hb,hso,h1,h0,hfz,hfo]
noncomputable def cRle:List DV→List DV→Option (DV × List DV):=conT (fun a:Tp=>a.at_<3800000000) (fun a=>[stpD]) tpC (fun a=>(.agg (ruC (rulV a)),tpC (rulT a)))
theorem zt3u {t:Tp} (h:t.at_<3800000000):cRle [stpD] (tpC t)=some (.agg (ruC (rulV t)),tpC (rulT t)) :=
 ztyo (A:=fun a:Tp=>a.at_<3800000000) (f:=fun a=>[stpD]) (s:=tpC) (fun a b _ e=>by rw [z15z e]) t h
theorem z983:(Con.tch cRle).Sound P 19 :=
 z0tq (fun a _=>⟨rfl,zs7w _,by simp only [zyp8,z3bz],zs7w _⟩) fun a h=>zizi mix zz4v Tryz.func19 zlqi (ze1h a h) (Nat.le_refl _)
def rlsL:Nat→Tp→List Rul→Tp × List Rul
 | 0,t,L=>(t,L)
 | k+1,t,L=>rlsL k (rulT t) (L++[rulV t])
theorem zwlu : ∀ (k:Nat) (t:Tp) (L:List Rul),(rlsL k t L).1.at_≤t.at_+6*k∧(rlsL k t L).2.length=L.length+k
 | 0,t,L=>by simp [rlsL]
 | k+1,t,L=>by
  have h:=zwlu k (rulT t) (L++[rulV t])
  have:=zpc2 t
  simp only [rlsL,List.length_append,List.length_singleton] at h ⊢
  omega
def rlsV (t:Tp) (m:Nat):Tp × List Rul:=rlsL (zep5 t m) (t.adv 1) []
theorem z1ku (t:Tp) (m:Nat):(rlsV t m).1.at_≤t.at_+1+6*m∧(rlsV t m).2.length≤m:=by
 have h:=zwlu (zep5 t m) (t.adv 1) []
 have:=zgro t m
 unfold rlsV
 simp only [zpza,List.length_nil] at h
 omega
noncomputable def zsbr:Tbl:=addT 17 (.tch z1m3) (addT 19 (.tch cRle) tbl0)
theorem z3gq:zsbr 17 = .tch z1m3:=by simp [zsbr]
theorem z25k:zsbr 19 = .tch cRle:=by simp [zsbr]
theorem zi6p:zsbr.Sound P:=z0rp z51e (z0rp z983 zr5o)
structure RL where
 k:Nat
 t:Tp
 L:List Rul
def zmr3 (a:RL):St:=a7S0 (.mp 0 2 0) stpD (oV 1 6 a.L) (.int .i64 a.k) (.cells (tpC a.t)::oT ruC a.L)
theorem bsr1 {a:Rul}:bslD 6 1 [.int .i64 0,.str [],.str [],.bool false,.str [],.str []] [(0,6,.agg (ruC a))]=some (.sl true 6 1 (ruC a)):=rfl
theorem z4eg (t:Tp) (m:Nat) (ht:t.at_<3700000000) (hm:m≤100):zwy1 P 7 [.mp 0 2 0,stpD,.int .i64 m] [.cells (tpC t)] (fun d h=>d=oV 1 6 (rlsV t m).2∧h = .cells (tpC (rlsV t m).1)::oT ruC (rlsV t m).2):=by
 refine zrqk Tryz.func7 zdfl ?_
 have n1:=znaf t m
 have n2:=zgro t m
 have hv:rlsV t m=rlsL (zep5 t m) (t.adv 1) []:=rfl
 obtain ⟨R,hR⟩ : ∃ R,rlsL (zep5 t m) (t.adv 1) []=R:=⟨_,rfl⟩
 rw [hR] at hv
 obtain ⟨N,hN⟩ : ∃ N,zep5 t m=N:=⟨_,rfl⟩
 rw [hN] at n1 n2 hR
 rw [hv]
 have hnx:z1m3 [.int .i64 ((m:Int)+1)] (tpC t)=some (.int .i64 N,tpC (t.adv 1)):=by rw [z44h (by omega) (by omega) (by omega),n1]
 refine zbn1 (V_W mix zr5o ?_)
 simp (disch:=first|omega|simp<;>omega|fail) [-zA,-zB,-zC,-zD,-zE,a7]
 refine zbn1 (V_W mix zr5o ?_)
 simp (disch:=first|omega|simp<;>omega|fail) [-zA,-zB,-zC,-zD,-zE]
 refine zbn1 (zbn1 (V_W mix zi6p ?_))
 simp (disch:=first|omega|simp<;>omega|fail) [-zA,-zB,-zC,-zD,-zE,z3gq,hnx]
 refine z3mo (ztbr zmr3 (fun a=>a.k) (fun a=>rlsL a.k a.t a.L=R∧a.t.at_+6*a.k<3750000000∧a.L.length+a.k≤1000) ⟨N,t.adv 1,[]⟩ (z515 (by simp (disch:=first|omega|simp<;>omega|fail) [-zA,-zB,-zC,-zD,-zE,zmr3,a7S0,zl8p]) (by simp (disch:=first|omega|simp<;>omega|fail) [-zA,-zB,-zC,-zD,-zE,zmr3,a7S0,zkrk])) ⟨hR,by simp only [zpza]; omega,by simp only [List.length_nil]; omega⟩ (fun a ha => ?_))
 obtain ⟨k,u,L⟩:=a
 obtain ⟨r1,r2,r3⟩:=ha
 simp only at r1 r2 r3
 simp only [zmr3]
 by_cases hk:0<k
 ·obtain ⟨k,rfl⟩ : ∃ k',k=k'+1:=⟨k-1,by omega⟩
  have hk':(0:Int)<((k+1:Nat):Int):=by omega
  have hr:=zt3u (t:=u) (by omega)
  have hap:appX (.cells (tpC (rulT u))::oT ruC L) 6 80 (oV 1 6 L) 1 (ruC (rulV u))=some (oV 1 6 (L++[rulV u]),.cells (tpC (rulT u))::oT ruC (L++[rulV u])) :=
   zte0 (k:=1) (K:=6) (b:=80) (f:=ruC) (l:=L) (x:=rulV u) (h:=[.cells (tpC (rulT u))]) rfl zpvo (by decide) (by decide) (fun _=>zqv3) (by omega)
  have hat:=zpc2 u
  have hbs:=bsr1 (a:=rulV u)
  refine V_W mix zi6p ?_
  simp (disch:=first|omega|simp<;>omega|fail) [-zA,-zB,-zC,-zD,-zE,a7L0,a7S0,hk',z25k,hr,hbs,hap]
  refine ⟨⟨k,rulT u,L++[rulV u]⟩,z515 (by simp (disch:=first|omega|simp<;>omega|fail) [-zA,-zB,-zC,-zD,-zE,zmr3,a7S0]) (by simp (disch:=first|omega|simp<;>omega|fail) [-zA,-zB,-zC,-zD,-zE,zmr3,a7S0]),by simp only; omega,r1,by simp only; omega,by simp only [List.length_append,List.length_singleton]; omega⟩
 ·obtain rfl:k=0:=by omega
  have e:R=(u,L):=r1.symm
  subst e
  refine V_W mix zi6p ?_
  simp (disch:=first|omega|simp<;>omega|fail) [-zA,-zB,-zC,-zD,-zE,a7L0,a7S0]
  refine V_W mix zr5o ?_
  simp (disch:=first|omega|simp<;>omega|fail) [-zA,-zB,-zC,-zD,-zE]
end Go.Proofs.YtjknipdiglpnlaaGreatDoor
set_option linter.unusedSimpArgs false
set_option linter.unusedVariables false
set_option maxRecDepth 8000
namespace Go.Proofs.YtjknipdiglpnlaaGreatDoor
open Go Go.Am
def zhne (x:Sl Ent) (p:Str) (i:Nat):St:=zgxj (x.dv 33 enC) (.str p) (.mp 0 32 0) (.int .i64 i) [.cells (dgC dg0)]
theorem z332 (x:Sl Ent) (p:Str):Runs tbl0 a66 [x.dv 33 enC,.str p] (zqrh (zajr x.l p)):=by
 refine ⟨?_⟩
 have hb:=x.b
 have hb0:zvnk (dgC dg0) []=some (.agg (dgC dg0)):=rfl
 have hlx : ∀ H,lenD H (x.dv 33 enC)=some (.int .i64 x.l.length):=fun H=>zupj
 simp (disch:=first|omega|simp<;>omega|fail) [-zA,-zB,-zC,-zD,-zE,a66,z4hl]
 refine zlm5 (zhne x p) (fun i=>x.l.length-i) (fun i=>i≤x.l.length ∧ ∀ j (h:j<x.l.length),j<i→x.l[j].path≠p) 0 (z515 (by simp (disch:=first|omega|simp<;>omega|fail) [-zA,-zB,-zC,-zD,-zE,zhne,zgxj]) (by simp (disch:=first|omega|simp<;>omega|fail) [-zA,-zB,-zC,-zD,-zE,zhne,zgxj,z4hl])) ⟨by omega,fun j _ hj=>by omega⟩ (fun i hi => ?_)
 obtain ⟨q1,q2⟩:=hi
 simp only [zhne]
 by_cases q:i<x.l.length
 ·have g':(i:Int)<x.l.length:=by omega
  have hy : ∀ H,zpsc H 33 (x.dv 33 enC) i=some (.ref (enC x.l[i])):=fun H=>zalo zuso q
  have hinv:x.l[i].path≠p → ∀ j (h:j<x.l.length),j<i+1→x.l[j].path≠p:=fun e j hj hji=>by
   by_cases ej:j=i
   ·subst ej; exact e
   ·exact q2 j hj (by omega)
  have hr:x.l[i].path=p→zajr x.l p=some x.l[i].dg:=fun e=>zc1r q e q2
  obtain ⟨u,hu⟩ : ∃ u,x.l[i]=u:=⟨_,rfl⟩
  rw [hu] at hy hinv hr
  by_cases e:u.path=p
  ·have hr:=hr e
   simp (disch:=first|omega|simp<;>omega|fail) [-zA,-zB,-zC,-zD,-zE,z6p4,zgxj,hlx,q,g',hy,e,hr,zqrh,dgO]
  ·have hinv:=hinv e
   simp (disch:=first|omega|simp<;>omega|fail) [-zA,-zB,-zC,-zD,-zE,z6p4,zgxj,hlx,q,g',hy,e]
   exact ⟨i+1,z515 (by simp (disch:=first|omega|simp<;>omega|fail) [-zA,-zB,-zC,-zD,-zE,zhne,zgxj]) (by simp (disch:=first|omega|simp<;>omega|fail) [-zA,-zB,-zC,-zD,-zE,zhne,zgxj]),by omega,by omega,hinv⟩
 ·have g':¬ (i:Int)<x.l.length:=by omega
  have hr:zajr x.l p=none:=zkqa fun a ha=>by
   obtain ⟨j,hj,e⟩:=List.getElem_of_mem ha
   have:=q2 j hj (by omega)
   rw [e] at this; exact this
  simp (disch:=first|omega|simp<;>omega|fail) [-zA,-zB,-zC,-zD,-zE,z6p4,zgxj,hlx,q,g',hr,z4hl,hb0,zqrh,dgO]
theorem z5zc:(Con.pure cLoo).Sound P 66:=z2au fun a _=>zljw mix zr5o Tryz.func66 z3a6 (z332 a.1 a.2)
def zim9 (x:Ent):Bool:=zj1f x.path && !decide (x.dg=dg0)
theorem z3zc (x:Ent):Runs T80 a70 [.agg (enC x)] (.bool (zim9 x)):=by
 refine ⟨?_⟩
 have hb0:zvnk (dgC dg0) []=some (.agg (dgC dg0)):=rfl
 cases h:zj1f x.path with
 | false=>simp (disch:=first|omega|simp<;>omega|fail) [-zA,-zB,-zC,-zD,-zE,a70,zti8,zk5k,za1j,h,zim9]
 | true=>simp (disch:=first|omega|simp<;>omega|fail) [-zA,-zB,-zC,-zD,-zE,a70,zti8,zk5k,za1j,h,zim9,z4hl,hb0]
noncomputable def cFin:List DV→Option DV:=con (fun _=>True) (fun x:Ent=>[.agg (enC x)]) (fun x => .bool (zim9 x))
theorem zqtp {x:Ent}:cFin [.agg (enC x)]=some (.bool (zim9 x)):=zsn4 (f:=fun x:Ent=>[.agg (enC x)]) (g:=fun x => .bool (zim9 x)) (fun a b e=>by
 simp only [List.cons.injEq,DV.agg.injEq,and_true] at e; exact zxv7 e) x
theorem zjkc:(Con.pure cFin).Sound P 70:=z2au fun x _=>zljw mix zpnl Tryz.func70 zhcw (z3zc x)
def preB:Option Str→Str→Bool
 | none,_=>true
 | some q,x=>Op.bytesLess q x
def asc4:Option Str→List Ent→Bool
 | _,[]=>true
 | p,e::r=>zim9 e&&preB p e.path&&asc4 (some e.path) r
def z59i (l:List Ent):Bool:=decide (l.length≤64)&&asc4 none l
def prv (l:List Ent) (i:Nat):Option Str:=if i=0 then none else (l[i-1]?).map (·.path)
noncomputable def z0ky:Tbl:=addT 70 (.pure cFin) tbl0
theorem z0ve:z0ky 70 = .pure cFin:=by simp [z0ky]
theorem zw7m:z0ky.Sound P:=z0rp zjkc zr5o
theorem z8wa {a b:Str}:zhl4 .geq (.str a) (.str b)=some (.bool (!Op.bytesLess a b)):=rfl
def zgjt (x:Sl Ent) (i:Nat):St:=zuzy (x.dv 33 enC) (.int .i64 i) []
theorem z9h2 (x:Sl Ent):Runs z0ky a40 [x.dv 33 enC] (.bool (z59i x.l)):=by
 refine ⟨?_⟩
 have hb:=x.b
 have hlx : ∀ H,lenD H (x.dv 33 enC)=some (.int .i64 x.l.length):=fun H=>zupj
 by_cases h64:64<x.l.length
 ·have h64':(64:Int)<x.l.length:=by omega
  have hr:z59i x.l=false:=by unfold z59i; rw [decide_eq_false (by omega)]; rfl
  simp (disch:=first|omega|simp<;>omega|fail) [-zA,-zB,-zC,-zD,-zE,a40,hlx,h64,h64',hr]
 have h64':¬ (64:Int)<x.l.length:=by omega
 have hr:z59i x.l=asc4 none x.l:=by unfold z59i; rw [decide_eq_true (by omega)]; rfl
 rw [hr]
 obtain ⟨B,hB⟩ : ∃ B,asc4 none x.l=B:=⟨_,rfl⟩
 rw [hB]
 simp (disch:=first|omega|simp<;>omega|fail) [-zA,-zB,-zC,-zD,-zE,a40,hlx,h64,h64']
 refine zlm5 (zgjt x) (fun i=>x.l.length-i) (fun i=>i≤x.l.length∧asc4 (prv x.l i) (x.l.drop i)=B) 0 (z515 (by simp (disch:=first|omega|simp<;>omega|fail) [-zA,-zB,-zC,-zD,-zE,zgjt,zuzy]) (by simp (disch:=first|omega|simp<;>omega|fail) [-zA,-zB,-zC,-zD,-zE,zgjt,zuzy])) ⟨by omega,by rw [← hB]; rfl⟩ (fun i hi => ?_)
 obtain ⟨q1,q2⟩:=hi
 simp only [zgjt]
 by_cases q:i<x.l.length
 case neg =>
  have g':¬ (i:Int)<x.l.length:=by omega
  rw [List.drop_of_length_le (by omega)] at q2
  have q2:true=B:=by rw [← q2]; cases prv x.l i<;>rfl
  subst q2
  simp (disch:=first|omega|simp<;>omega|fail) [-zA,-zB,-zC,-zD,-zE,z1eu,zuzy,hlx,q,g']
 have g':(i:Int)<x.l.length:=by omega
 have hy : ∀ H,zpsc H 33 (x.dv 33 enC) i=some (.ref (enC x.l[i])):=fun H=>zalo zuso q
 rw [List.drop_eq_getElem_cons q] at q2
 have hpn:prv x.l (i+1)=some x.l[i].path:=by
  unfold prv; rw [if_neg (by omega),Nat.add_sub_cancel,List.getElem?_eq_getElem q]; rfl
 obtain ⟨u,hu⟩ : ∃ u,x.l[i]=u:=⟨_,rfl⟩
 rw [hu] at hy q2 hpn
 have hf:=zqtp (x:=u)
 have step:asc4 (prv x.l i) (u::x.l.drop (i+1))=(zim9 u&&preB (prv x.l i) u.path&&asc4 (some u.path) (x.l.drop (i+1))):=rfl
 rw [step] at q2
 cases h1:zim9 u with
 | false =>
  rw [h1] at hf q2
  have q2:false=B:=q2
  subst q2
  simp (disch:=first|omega|simp<;>omega|fail) [-zA,-zB,-zC,-zD,-zE,z1eu,zuzy,hlx,q,g',hy,z0ve,hf]
 | true =>
  rw [h1] at hf q2
  by_cases h0:i=0
  ·subst h0
   have q2:asc4 (some u.path) (x.l.drop 1)=B:=by simpa [prv,preB] using q2
   have hpn:prv x.l 1=some u.path:=hpn
   have q0:0<x.l.length:=q
   have hy : ∀ H,zpsc H 33 (x.dv 33 enC) 0=some (.ref (enC u)):=hy
   simp (disch:=first|omega|simp<;>omega|fail) [-zA,-zB,-zC,-zD,-zE,z1eu,zuzy,hlx,q,g',hy,z0ve,hf]
   exact ⟨1,z515 (by simp (disch:=first|omega|simp<;>omega|fail) [-zA,-zB,-zC,-zD,-zE,zgjt,zuzy]) (by simp (disch:=first|omega|simp<;>omega|fail) [-zA,-zB,-zC,-zD,-zE,zgjt,zuzy]),by omega,by omega,by rw [hpn]; exact q2⟩
  ·have hi0:(0:Int)<i:=by omega
   have hin:0<i:=by omega
   have hpi:prv x.l i=some (x.l[i-1]'(by omega)).path:=by
    unfold prv; rw [if_neg h0,List.getElem?_eq_getElem (by omega)]; rfl
   have hy2 : ∀ H,zpsc H 33 (x.dv 33 enC) ((i:Int)-1)=some (.ref (enC (x.l[i-1]'(by omega)))):=fun H=>by
    have:=zalo (h:=H) (x:=x) (i:=i-1) zuso (by omega)
    rwa [show ((i-1:Nat):Int)=(i:Int)-1 by omega] at this
   obtain ⟨w,hw⟩ : ∃ w,(x.l[i-1]'(by omega))=w:=⟨_,rfl⟩
   rw [hw] at hpi hy2
   rw [hpi] at q2
   cases h2:Op.bytesLess w.path u.path with
   | false =>
    have q2:false=B:=by rw [← q2]; simp [h2,preB]
    subst q2
    simp (disch:=first|omega|simp<;>omega|fail) [-zA,-zB,-zC,-zD,-zE,z1eu,zuzy,hlx,q,g',hy,z0ve,hf,hi0,hin,hy2,z8wa,h2]
   | true =>
    have q2:asc4 (some u.path) (x.l.drop (i+1))=B:=by rw [← q2]; simp [h2,preB]
    simp (disch:=first|omega|simp<;>omega|fail) [-zA,-zB,-zC,-zD,-zE,z1eu,zuzy,hlx,q,g',hy,z0ve,hf,hi0,hin,hy2,z8wa,h2]
    exact ⟨i+1,z515 (by simp (disch:=first|omega|simp<;>omega|fail) [-zA,-zB,-zC,-zD,-zE,zgjt,zuzy]) (by simp (disch:=first|omega|simp<;>omega|fail) [-zA,-zB,-zC,-zD,-zE,zgjt,zuzy]),by omega,by omega,by rw [hpn]; exact q2⟩
noncomputable def cVa4:List DV→Option DV:=con (fun _=>True) (fun x:Sl Ent=>[x.dv 33 enC]) (fun x => .bool (z59i x.l))
theorem z44v {x:Sl Ent}:cVa4 [x.dv 33 enC]=some (.bool (z59i x.l)):=zsn4 (f:=fun x:Sl Ent=>[x.dv 33 enC]) (g:=fun x => .bool (z59i x.l)) (fun a b e=>by
 simp only [List.cons.injEq,and_true] at e; exact zdvs e) x
theorem z6ng:(Con.pure cVa4).Sound P 40:=z2au fun x _=>zljw mix zw7m Tryz.func40 zn9f (z9h2 x)
def ltE (x e:Ent):Bool:=Op.bytesLess e.path x.path
def insE (l:List Ent) (x:Ent):List Ent:=l.takeWhile (ltE x)++x::l.dropWhile (ltE x)
theorem zxzo (l:List Ent) (x:Ent):(insE l x).length=l.length+1:=by
 unfold insE
 have:=congrArg List.length (List.takeWhile_append_dropWhile (p:=ltE x) (l:=l))
 simp only [List.length_append,List.length_cons] at this ⊢
 omega
def zzrh (l:Sl Ent) (x:Ent) (i:Nat):St:=zq6l (l.dv 33 enC) (.mp 0 33 0) (oV 1 33 (l.l.take i)) (.int .i64 i) (.cells (enC x)::oT enC (l.l.take i))
theorem z6th (l:Sl Ent) (x:Ent) (hl:l.l.length≤1000):Runs tbl0 a43 [l.dv 33 enC,.agg (enC x)] ((own (insE l.l x)).dv 33 enC):=by
 refine ⟨?_⟩
 have hlx : ∀ H,lenD H (l.dv 33 enC)=some (.int .i64 l.l.length):=fun H=>zupj
 simp (disch:=first|omega|simp<;>omega|fail) [-zA,-zB,-zC,-zD,-zE,a43]
 refine zlm5 (zzrh l x) (fun i=>l.l.length-i) (fun i=>i≤l.l.length ∧ ∀ j (h:j<l.l.length),j<i→ltE x l.l[j]=true) 0 (z515 (by simp (disch:=first|omega|simp<;>omega|fail) [-zA,-zB,-zC,-zD,-zE,zzrh,zq6l,zl8p]) (by simp (disch:=first|omega|simp<;>omega|fail) [-zA,-zB,-zC,-zD,-zE,zzrh,zq6l,zkrk])) ⟨by omega,fun j _ hj=>by omega⟩ (fun i hi => ?_)
 obtain ⟨q1,q2⟩:=hi
 have fin:(i=l.l.length ∨ ∃ h:i<l.l.length,ltE x l.l[i]=false)→insE l.l x=l.l.take i++x::l.l.drop i:=fun h=>by
  obtain ⟨a,b⟩:=zig9 (p:=ltE x) q1 q2 h
  unfold insE; rw [a,b]
 have hil:=zxzo l.l x
 obtain ⟨L,hL⟩ : ∃ L,l.l.take i=L:=⟨_,rfl⟩
 have hLl:L.length=i:=by rw [← hL,List.length_take]; omega
 have hdl:(l.l.drop i).length=l.l.length-i:=List.length_drop ..
 obtain ⟨D,hD⟩ : ∃ D,l.l.drop i=D:=⟨_,rfl⟩
 have hs0 : ∀ H,ziwb H 33 (l.dv 33 enC) (some (.int .i64 i)) none none=some ((l.part i l.l.length (l.l.length == l.l.length)).dv 33 enC):=fun H=>z0ke zuso (by simp [zo77,iD]; omega) (Nat.le_refl _)
 obtain ⟨Y,hY⟩ : ∃ Y,l.part i l.l.length (l.l.length == l.l.length)=Y:=⟨_,rfl⟩
 have hYl:Y.l=D:=by rw [← hY,← hD]; show (l.l.drop i).take (l.l.length-i)=_; exact List.take_of_length_le (by omega)
 rw [hY] at hs0
 have hv : ∀ H,visY H (Y.dv 33 enC)=some (D.length,D.flatMap enC):=fun H=>by rw [zwaa zuso,hYl]
 rw [hD] at hdl
 have fin:(i=l.l.length ∨ ∃ h:i<l.l.length,ltE x l.l[i]=false)→insE l.l x=(L++[x])++D:=fun h=>by rw [fin h,hL,hD]; simp
 simp only [zzrh]
 rw [hL]
 have hap1:=zte0 (f:=enC) (k:=1) (b:=48) (l:=L) (x:=x) (h:=[AObj.cells (enC x)]) rfl zuso (by decide) (by decide) (fun _=>zo6u) (by omega)
 have hap2:=z612 (f:=enC) (k:=1) (b:=48) (l:=L++[x]) (cs:=D) (h:=[AObj.cells (enC x)]) rfl zuso (by decide) (by decide) (fun _=>zo6u) (by simp; omega)
 have hsn:=zigm (f:=enC) (K:=33) (k:=1) (l:=(L++[x])++D) (h:=[AObj.cells (enC x)]) (r:=[]) rfl zuso zt9q (by simp; omega)
 have hne:(L++[x])++D≠[]:=by simp
 rw [z527 hne] at hsn
 simp only [List.cons_append,List.nil_append,List.append_nil] at hap1 hap2 hsn
 have hlt : ∀ {a b:Str},zhl4 .lss (.str a) (.str b)=some (.bool (Op.bytesLess a b)):=rfl
 by_cases h:i<l.l.length
 case neg =>
  have h':¬ (i:Int)<l.l.length:=by omega
  rw [fin (.inl (by omega))]
  generalize (L++[x])++D=Z at hap2 hsn ⊢
  simp (disch:=first|omega|simp<;>omega|fail) [-zA,-zB,-zC,-zD,-zE,zf3u,zq6l,hlx,h,h',zdny,hs0,hv,hap1,hap2,hsn,zch3,zu1c]
 have h':(i:Int)<l.l.length:=by omega
 have hg : ∀ H,zpsc H 33 (l.dv 33 enC) i=some (.ref (enC l.l[i])):=fun H=>zalo zuso h
 have hnx:l.l.take (i+1)=L++[l.l[i]]:=by rw [List.take_succ_eq_append_getElem h,hL]
 have hinv:ltE x l.l[i]=true → ∀ j (h:j<l.l.length),j<i+1→ltE x l.l[j]=true:=fun e j hj hji=>by
  by_cases ej:j=i
  ·subst ej; exact e
  ·exact q2 j hj (by omega)
 have fin2:ltE x l.l[i]=false→insE l.l x=(L++[x])++D:=fun e=>fin (.inr ⟨h,e⟩)
 obtain ⟨y,hy⟩ : ∃ y,l.l[i]=y:=⟨_,rfl⟩
 rw [hy] at hg hnx hinv fin2
 have hap3:=zte0 (f:=enC) (k:=1) (b:=48) (l:=L) (x:=y) (h:=[AObj.cells (enC x)]) rfl zuso (by decide) (by decide) (fun _=>zo6u) (by omega)
 simp only [List.cons_append,List.nil_append] at hap3
 have hc0:ltE x y=Op.bytesLess y.path x.path:=rfl
 cases hc:ltE x y with
 | false =>
  rw [fin2 hc]
  rw [hc0] at hc
  generalize (L++[x])++D=Z at hap2 hsn ⊢
  simp (disch:=first|omega|simp<;>omega|fail) [-zA,-zB,-zC,-zD,-zE,zf3u,zq6l,hlx,h,h',hg,hlt,hc,zdny,hs0,hv,hap1,hap2,hsn,zch3,zu1c]
 | true =>
  have hinv:=hinv hc
  rw [hc0] at hc
  simp (disch:=first|omega|simp<;>omega|fail) [-zA,-zB,-zC,-zD,-zE,zf3u,zq6l,hlx,h,h',hg,hlt,hc,zdny,hap3]
  exact ⟨i+1,z515 (by simp (disch:=first|omega|simp<;>omega|fail) [-zA,-zB,-zC,-zD,-zE,zzrh,zq6l,hnx]) (by simp (disch:=first|omega|simp<;>omega|fail) [-zA,-zB,-zC,-zD,-zE,zzrh,zq6l,hnx]),by omega,by omega,hinv⟩
noncomputable def cIn4:List DV→Option DV:=con (fun a:Sl Ent × Ent=>a.1.l.length≤1000) (fun a=>[a.1.dv 33 enC,.agg (enC a.2)]) (fun a=>(own (insE a.1.l a.2)).dv 33 enC)
theorem zruz {s:Sl Ent} {x:Ent} (h:s.l.length≤1000):cIn4 [s.dv 33 enC,.agg (enC x)]=some ((own (insE s.l x)).dv 33 enC) :=
 zzno (A:=fun a:Sl Ent × Ent=>a.1.l.length≤1000) (f:=fun a=>[a.1.dv 33 enC,.agg (enC a.2)]) (g:=fun a=>(own (insE a.1.l a.2)).dv 33 enC) (by
  rintro ⟨a,b⟩ ⟨c,d⟩ e
  simp only [List.cons.injEq,DV.agg.injEq,and_true] at e
  rw [zdvs e.1,zxv7 e.2]) (s,x) h
theorem zo0h:(Con.pure cIn4).Sound P 43:=z2au fun a h=>zljw mix zr5o Tryz.func43 zbv8 (z6th a.1 a.2 h)
def mvL (a b:Str):List Ent→List Ent→List Ent
 | acc,[]=>acc
 | acc,e::r=>mvL a b (match relO a b e.path with|none=>acc|some p=>insE acc ⟨p,e.dg⟩) r
theorem zis3 (a b:Str) : ∀ (r acc:List Ent),(mvL a b acc r).length≤acc.length+r.length
 | [],acc=>by simp [mvL]
 | e::r,acc=>by
  have h:=zis3 a b r (match relO a b e.path with|none=>acc|some p=>insE acc ⟨p,e.dg⟩)
  rw [mvL]
  have:(match relO a b e.path with|none=>acc|some p=>insE acc ⟨p,e.dg⟩).length≤acc.length+1:=by
   cases relO a b e.path with
   | none=>simp
   | some p=>simp [zxzo]
  simp only [List.length_cons]; omega
def mvOk (s:List Ent) (a b:Str):Bool:=z59i s&&dirD a&&dirD b
def zj0v (s:List Ent) (a b:Str):List Ent:=if mvOk s a b then mvL a b [] s else []
def zy20 (s:List Ent) (a b:Str):Int:=if mvOk s a b then 0 else 1
noncomputable def zcwb:Tbl:=addT 40 (.pure cVa4) (addT 41 (.pure (cS dirB)) (addT 42 (.pure (cSSS relD)) (addT 43 (.pure cIn4) tbl0)))
theorem zvdt:zcwb 40 = .pure cVa4:=by simp [zcwb]
theorem za61:zcwb 41 = .pure (cS dirB):=by simp [zcwb]
theorem zbn8:zcwb 42 = .pure (cSSS relD):=by simp [zcwb]
theorem zksv:zcwb 43 = .pure cIn4:=by simp [zcwb]
theorem z9es:zcwb.Sound P:=z0rp z6ng (z0rp (zzn8 fun s=>zljw mix zpnl Tryz.func41 z5y8 (z0t3 s)) (z0rp (ztgs fun a b s=>zljw mix z130 Tryz.func42 zl17 (zov0 a b s)) (z0rp zo0h zr5o)))
structure MV where
 i:Nat
 A:List Ent
def zxp4 (s:Sl Ent) (a b:Str) (m:MV):St:=zzg5 (s.dv 33 enC) (.str a) (.str b) ((ownN m.A).dv 33 enC) (.int .i64 m.i) []
theorem zcpg (s:Sl Ent) (a b:Str):Runs zcwb a18 [s.dv 33 enC,.str a,.str b] (.tup [(ownN (zj0v s.l a b)).dv 33 enC,.int .i64 (zy20 s.l a b)]):=by
 refine ⟨?_⟩
 have hlx : ∀ H,lenD H (s.dv 33 enC)=some (.int .i64 s.l.length):=fun H=>zupj
 have hv:=z44v (x:=s)
 have hsn : ∀ (h:List AObj) (x:Sl Ent),snap h 3 (x.dv 33 enC)=some (x.dv 33 enC):=fun h x=>z6nl (zru8 x)
 have bad:mvOk s.l a b=false→(ownN (zj0v s.l a b)).dv 33 enC = .nils∧zy20 s.l a b=1:=fun h=>by
  unfold zj0v zy20; rw [h]; exact ⟨rfl,rfl⟩
 cases h1:z59i s.l with
 | false =>
  obtain ⟨e1,e2⟩:=bad (by unfold mvOk; rw [h1]; rfl)
  rw [e1,e2]
  rw [h1] at hv
  simp (disch:=first|omega|simp<;>omega|fail) [-zA,-zB,-zC,-zD,-zE,a18,zvdt,hv]
 | true =>
 rw [h1] at hv
 cases h2:dirD a with
 | false =>
  obtain ⟨e1,e2⟩:=bad (by unfold mvOk; rw [h1,h2]; rfl)
  rw [e1,e2]
  simp (disch:=first|omega|simp<;>omega|fail) [-zA,-zB,-zC,-zD,-zE,a18,zvdt,hv,za61,zk5k,dirB,h2]
 | true =>
 cases h3:dirD b with
 | false =>
  obtain ⟨e1,e2⟩:=bad (by unfold mvOk; rw [h1,h2,h3]; rfl)
  rw [e1,e2]
  simp (disch:=first|omega|simp<;>omega|fail) [-zA,-zB,-zC,-zD,-zE,a18,zvdt,hv,za61,zk5k,dirB,h2,h3]
 | true =>
 have hok:mvOk s.l a b=true:=by unfold mvOk; rw [h1,h2,h3]; rfl
 have hs64:s.l.length≤64:=by
  unfold z59i at h1
  simp only [Bool.and_eq_true,decide_eq_true_eq] at h1
  exact h1.1
 have e1:zj0v s.l a b=mvL a b [] s.l:=if_pos hok
 have e2:zy20 s.l a b=0:=if_pos hok
 rw [e1,e2]
 obtain ⟨R,hR⟩ : ∃ R,mvL a b [] s.l=R:=⟨_,rfl⟩
 rw [hR]
 simp (disch:=first|omega|simp<;>omega|fail) [-zA,-zB,-zC,-zD,-zE,a18,zvdt,hv,za61,zk5k,dirB,h2,h3]
 refine zlm5 (zxp4 s a b) (fun m=>s.l.length-m.i) (fun m=>m.i≤s.l.length∧mvL a b m.A (s.l.drop m.i)=R∧m.A.length≤m.i) ⟨0,[]⟩ (z515 (by simp (disch:=first|omega|simp<;>omega|fail) [-zA,-zB,-zC,-zD,-zE,zxp4,zzg5,z2i7]) (by simp (disch:=first|omega|simp<;>omega|fail) [-zA,-zB,-zC,-zD,-zE,zxp4,zzg5])) ⟨by simp,by simpa using hR,by simp⟩ (fun m hm => ?_)
 obtain ⟨i,A⟩:=m
 obtain ⟨q1,q2,q3⟩:=hm
 simp only at q1 q2 q3
 simp only [zxp4]
 by_cases q:i<s.l.length
 case neg =>
  have g':¬ (i:Int)<s.l.length:=by omega
  rw [List.drop_of_length_le (by omega)] at q2
  have q2:A=R:=q2
  subst q2
  simp (disch:=first|omega|simp<;>omega|fail) [-zA,-zB,-zC,-zD,-zE,zjhm,zzg5,hlx,q,g',hsn]
 have g':(i:Int)<s.l.length:=by omega
 have hy : ∀ H,zpsc H 33 (s.dv 33 enC) i=some (.ref (enC s.l[i])):=fun H=>zalo zuso q
 rw [List.drop_eq_getElem_cons q] at q2
 obtain ⟨u,hu⟩ : ∃ u,s.l[i]=u:=⟨_,rfl⟩
 rw [hu] at hy q2
 rw [mvL] at q2
 have hAl:(ownN A).l=A:=zd8n (by omega)
 cases h4:relO a b u.path with
 | none =>
  rw [h4] at q2
  simp (disch:=first|omega|simp<;>omega|fail) [-zA,-zB,-zC,-zD,-zE,zjhm,zzg5,hlx,q,g',hy,zbn8,zfnp,relD,h4,optS]
  exact ⟨⟨i+1,A⟩,z515 (by simp (disch:=first|omega|simp<;>omega|fail) [-zA,-zB,-zC,-zD,-zE,zxp4,zzg5]) (by simp (disch:=first|omega|simp<;>omega|fail) [-zA,-zB,-zC,-zD,-zE,zxp4,zzg5]),by simp only; omega,by simp only; omega,q2,by simp only; omega⟩
 | some p =>
  rw [h4] at q2
  have hb:=zg8c (p:=p) (d:=u.dg)
  have hin:=zruz (s:=ownN A) (x:=⟨p,u.dg⟩) (by rw [hAl]; omega)
  rw [hAl] at hin
  have hne:insE A ⟨p,u.dg⟩≠[]:=fun e=>by have:=zxzo A ⟨p,u.dg⟩; rw [e] at this; simp at this
  have hil:=zxzo A ⟨p,u.dg⟩
  have q2:mvL a b (insE A ⟨p,u.dg⟩) (s.l.drop (i+1))=R:=q2
  obtain ⟨Z,hZ⟩ : ∃ Z,insE A ⟨p,u.dg⟩=Z:=⟨_,rfl⟩
  rw [hZ] at hin hne hil q2
  have hin2:cIn4 [(ownN A).dv 33 enC,.agg (.str p::dgC u.dg)]=some ((own Z).dv 33 enC):=hin
  simp (disch:=first|omega|simp<;>omega|fail) [-zA,-zB,-zC,-zD,-zE,zjhm,zzg5,hlx,q,g',hy,zbn8,zfnp,relD,h4,optS,hb,zksv,hin,hin2]
  exact ⟨⟨i+1,Z⟩,z515 (by simp (disch:=first|omega|simp<;>omega|fail) [-zA,-zB,-zC,-zD,-zE,zxp4,zzg5,z527 hne]) (by simp (disch:=first|omega|simp<;>omega|fail) [-zA,-zB,-zC,-zD,-zE,zxp4,zzg5]),by simp only; omega,by simp only; omega,q2,by simp only; omega⟩
noncomputable def cMov:List DV→Option DV:=con (fun _=>True) (fun x:Sl Ent × Str × Str=>[x.1.dv 33 enC,.str x.2.1,.str x.2.2]) (fun x => .tup [(ownN (zj0v x.1.l x.2.1 x.2.2)).dv 33 enC,.int .i64 (zy20 x.1.l x.2.1 x.2.2)])
theorem zwkn {s:Sl Ent} {a b:Str}:cMov [s.dv 33 enC,.str a,.str b]=some (.tup [(ownN (zj0v s.l a b)).dv 33 enC,.int .i64 (zy20 s.l a b)]) :=
 zsn4 (f:=fun x:Sl Ent × Str × Str=>[x.1.dv 33 enC,.str x.2.1,.str x.2.2]) (g:=fun x => .tup [(ownN (zj0v x.1.l x.2.1 x.2.2)).dv 33 enC,.int .i64 (zy20 x.1.l x.2.1 x.2.2)]) (by
  rintro ⟨a,b,c⟩ ⟨d,e,f⟩ h
  simp only [List.cons.injEq,DV.str.injEq,and_true] at h
  rw [zdvs h.1,h.2.1,h.2.2]) (s,a,b)
theorem zibo:(Con.pure cMov).Sound P 18:=z2au fun x _=>zljw mix z9es Tryz.func18 zt5q (zcpg x.1 x.2.1 x.2.2)
end Go.Proofs.YtjknipdiglpnlaaGreatDoor
set_option linter.unusedSimpArgs false
set_option linter.unusedVariables false
set_option maxRecDepth 20000
namespace Go.Proofs.YtjknipdiglpnlaaGreatDoor
open Go Go.Am
structure C13 where
 self:Lnk
 done:Sl Lnk
 pr:Bool
def csC (c:C13):List DV:=lkC c.self++[c.done.dv 3 lkC,.bool c.pr]
theorem zadp (c:C13):(csC c).length=5:=rfl
theorem ztlc (c:C13):zbao (csC c)=true:=by
 unfold csC; exact zg0c (z53g _) (by simp only [zbao,zyp8,zys6,Bool.and_self])
def fetS:Str:=[102,101,116,99,104]
def buiS:Str:=[98,117,105,108,100]
def pacS:Str:=[112,97,99,107]
def inS:Str:=[105,110]
def dn2 (a b:Lnk):Sl Lnk:=⟨some true,[a,b],by simp,by simp⟩
theorem znr1 (a b:Lnk):(dn2 a b).dv 3 lkC = .sl true 3 2 (lkC a++lkC b):=by simp [dn2,Sl.dv,slD]
def mdA (t:Tp):Lnk:=zyjl t fetS
def mdE1 (t:Tp):Tp × Sl Ent:=z7ym (zd2t t) (mdA t).p
def mdB (t:Tp):Lnk:=⟨buiS,(mdA t).p,(mdE1 t).2⟩
def mdE2 (t:Tp):Tp × Sl Ent:=z7ym (mdE1 t).1 (mdE1 t).2
def mdE3 (t:Tp):Tp × Sl Ent:=z7ym (mdE2 t).1 (mdE2 t).2
def mdT (t:Tp):Tp:=(mdE3 t).1.adv 1
def mdM (t:Tp):Sl Ent:=ownN (zj0v (mdE1 t).2.l [] inS)
def mdE4 (t:Tp):Tp × Sl Ent:=z7ym (mdT t) (mdM t)
def mdC (t:Tp):Lnk:=if tpN (mdE3 t).1 3=0 then ⟨pacS,mdM t,(mdE4 t).2⟩ else ⟨pacS,(mdE1 t).2,(mdE3 t).2⟩
def mdU (t:Tp):Tp:=if tpN (mdE3 t).1 3=0 then (mdE4 t).1 else mdT t
def madC (t:Tp):C13:=⟨mdC t,dn2 (mdA t) (mdB t),decide (tpN (mdU t) 2=0)⟩
def madT (t:Tp):Tp:=(mdU t).adv 1
theorem z31d (s:List Ent) (a b:Str):(zj0v s a b).length≤s.length:=by
 unfold zj0v
 split
 ·have:=zis3 a b s []; simpa using this
 ·simp
attribute [local irreducible] z7ym zyjl zd2t zxwj ownN tpN
theorem z1bh (t:Tp) (ht:t.at_<3500000000):(mdA t).p.l.length≤8∧(zd2t t).at_≤t.at_+45∧(mdE1 t).2.l.length≤11∧(mdE1 t).1.at_≤t.at_+64∧(mdE2 t).2.l.length≤14∧(mdE2 t).1.at_≤t.at_+83∧(mdE3 t).2.l.length≤17∧(mdE3 t).1.at_≤t.at_+102∧(mdM t).l.length≤11∧(mdE4 t).2.l.length≤14∧(mdE4 t).1.at_≤t.at_+122∧(mdU t).at_≤t.at_+122:=by
 obtain ⟨_,a1,a2⟩:=zoiq t fetS
 have b:=za6t (t:=zd2t t) (s:=(mdA t).p) (by have:(mdA t).p.l.length≤8:=a1; omega)
 have a1:(mdA t).p.l.length≤8:=a1
 have b1:(mdE1 t).1.at_≤(zd2t t).at_+19:=b.1
 have b2:(mdE1 t).2.l.length≤(mdA t).p.l.length+3:=b.2
 have c:=za6t (t:=(mdE1 t).1) (s:=(mdE1 t).2) (by omega)
 have c1:(mdE2 t).1.at_≤(mdE1 t).1.at_+19:=c.1
 have c2:(mdE2 t).2.l.length≤(mdE1 t).2.l.length+3:=c.2
 have d:=za6t (t:=(mdE2 t).1) (s:=(mdE2 t).2) (by omega)
 have d1:(mdE3 t).1.at_≤(mdE2 t).1.at_+19:=d.1
 have d2:(mdE3 t).2.l.length≤(mdE2 t).2.l.length+3:=d.2
 have m:=z31d (mdE1 t).2.l [] inS
 have m1:(mdM t).l.length≤11:=by
  unfold mdM; rw [zd8n (by omega)]; omega
 have e:=za6t (t:=mdT t) (s:=mdM t) (by omega)
 have t1:(mdT t).at_=(mdE3 t).1.at_+1:=by unfold mdT; rw [zpza]
 have e1:(mdE4 t).1.at_≤(mdT t).at_+19:=e.1
 have e2:(mdE4 t).2.l.length≤(mdM t).l.length+3:=e.2
 have u:(mdU t).at_≤t.at_+122:=by
  unfold mdU
  by_cases h:tpN (mdE3 t).1 3=0
  ·rw [if_pos h]; omega
  ·rw [if_neg h]; omega
 clear b c d e m
 generalize zd2t t=x0 at *
 generalize mdA t=x1 at *
 generalize mdE1 t=x2 at *
 generalize mdE2 t=x3 at *
 generalize mdE3 t=x4 at *
 generalize mdE4 t=x5 at *
 generalize mdM t=x6 at *
 generalize mdU t=x7 at *
 generalize mdT t=x8 at *
 refine ⟨?_,?_,?_,?_,?_,?_,?_,?_,?_,?_,?_,?_⟩<;>omega
noncomputable def z9uz:Tbl:=addT 15 (.tch cLkT) (addT 16 (.tch cEdt) (addT 17 (.tch z1m3) (addT 18 (.pure cMov) tbl0)))
theorem zhi2:z9uz 15 = .tch cLkT:=by simp [z9uz]
theorem zbny:z9uz 16 = .tch cEdt:=by simp [z9uz]
theorem z9gi:z9uz 17 = .tch z1m3:=by simp [z9uz]
theorem z27v:z9uz 18 = .pure cMov:=by simp [z9uz]
theorem z2mr:z9uz.Sound P:=z0rp z3ot (z0rp zg4h (z0rp z51e (z0rp zibo zr5o)))
theorem z73r {a b:Lnk}:bslD 3 2 [.str [],.nils,.nils] [(0,3,.agg (lkC a)),(3,3,.agg (lkC b))]=some (.sl true 3 2 (lkC a++lkC b)):=rfl
theorem zle8 {h:List AObj} {id:Nat} {c:C13}:zy6o h id 5 0 (.agg (csC c)) (some [.str [],.nils,.nils,.nils,.bool false])=some (.junk,h.set id (.cells (csC c))):=zfc1 rfl rfl (by simp [csC,lkC,z4ja])
theorem z4ks (t:Tp) (ht:t.at_<3500000000):RunsF z9uz a6 [.mp 0 2 0] [.cells (tpC t)] (.agg (csC (madC t))) [.cells (tpC (madT t))]:=by
 refine ⟨?_⟩
 obtain ⟨b1,b2,b3,b4,b5,b6,b7,b8,b9,b10,b11,b12⟩:=z1bh t ht
 have k1:cLkT [.str [102,101,116,99,104]] (tpC t)=some (.agg (lkC (mdA t)),tpC (zd2t t)):=zauq (t:=t) (st:=fetS) (by omega)
 have k2:cEdt [(mdA t).p.dv 33 enC] (tpC (zd2t t))=some ((mdE1 t).2.dv 33 enC,tpC (mdE1 t).1):=zref (t:=zd2t t) (s:=(mdA t).p) (by omega) (by omega)
 have k3:cEdt [(mdE1 t).2.dv 33 enC] (tpC (mdE1 t).1)=some ((mdE2 t).2.dv 33 enC,tpC (mdE2 t).1):=zref (by omega) (by omega)
 have k4:cEdt [(mdE2 t).2.dv 33 enC] (tpC (mdE2 t).1)=some ((mdE3 t).2.dv 33 enC,tpC (mdE3 t).1):=zref (by omega) (by omega)
 have k5:z1m3 [.int .i64 3] (tpC (mdE3 t).1)=some (.int .i64 (tpN (mdE3 t).1 3),tpC (mdT t)):=z44h (by omega) (by omega) (by omega)
 have k6:cMov [(mdE1 t).2.dv 33 enC,.str [],.str [105,110]]=some (.tup [(mdM t).dv 33 enC,.int .i64 (zy20 (mdE1 t).2.l [] inS)]):=zwkn (s:=(mdE1 t).2) (a:=[]) (b:=inS)
 have t1:(mdT t).at_=(mdE3 t).1.at_+1:=by unfold mdT; rw [zpza]
 have k7:cEdt [(mdM t).dv 33 enC] (tpC (mdT t))=some ((mdE4 t).2.dv 33 enC,tpC (mdE4 t).1):=zref (by omega) (by omega)
 have k8:z1m3 [.int .i64 2] (tpC (mdU t))=some (.int .i64 (tpN (mdU t) 2),tpC (madT t)):=z44h (by omega) (by omega) (by omega)
 have hC:madC t=⟨mdC t,dn2 (mdA t) ⟨buiS,(mdA t).p,(mdE1 t).2⟩,decide (tpN (mdU t) 2=0)⟩:=rfl
 have hc:mdC t=if tpN (mdE3 t).1 3=0 then ⟨pacS,mdM t,(mdE4 t).2⟩ else ⟨pacS,(mdE1 t).2,(mdE3 t).2⟩:=rfl
 have hu:mdU t=if tpN (mdE3 t).1 3=0 then (mdE4 t).1 else mdT t:=rfl
 obtain ⟨E,hE⟩ : ∃ E,zy20 (mdE1 t).2.l [] inS=E:=⟨_,rfl⟩
 rw [hE] at k6
 obtain ⟨A,hA⟩ : ∃ A,mdA t=A:=⟨_,rfl⟩
 rw [hA] at k1 k2 hC
 obtain ⟨A1,A2,A3⟩:=A
 have k2:cEdt [A3.dv 33 enC] (tpC (zd2t t))=some ((mdE1 t).2.dv 33 enC,tpC (mdE1 t).1):=k2
 have hC:madC t=⟨mdC t,dn2 ⟨A1,A2,A3⟩ ⟨buiS,A3,(mdE1 t).2⟩,decide (tpN (mdU t) 2=0)⟩:=hC
 obtain ⟨U0,hU0⟩ : ∃ U,zd2t t=U:=⟨_,rfl⟩
 rw [hU0] at k1 k2
 obtain ⟨E1,hE1⟩ : ∃ U,mdE1 t=U:=⟨_,rfl⟩
 rw [hE1] at k2 k3 k6 hC hc
 obtain ⟨E2,hE2⟩ : ∃ U,mdE2 t=U:=⟨_,rfl⟩
 rw [hE2] at k3 k4
 obtain ⟨E3,hE3⟩ : ∃ U,mdE3 t=U:=⟨_,rfl⟩
 rw [hE3] at k4 k5 hc hu
 obtain ⟨M,hM⟩ : ∃ U,mdM t=U:=⟨_,rfl⟩
 rw [hM] at k6 k7 hc
 obtain ⟨E4,hE4⟩ : ∃ U,mdE4 t=U:=⟨_,rfl⟩
 rw [hE4] at k7 hc hu
 obtain ⟨n,hn⟩ : ∃ U,tpN E3.1 3=U:=⟨_,rfl⟩
 rw [hn] at k5 hc hu
 obtain ⟨TT,hTT⟩ : ∃ U,mdT t=U:=⟨_,rfl⟩
 rw [hTT] at k5 k7 hu
 obtain ⟨UU,hUU⟩ : ∃ U,mdU t=U:=⟨_,rfl⟩
 rw [hUU] at k8 hu hC
 obtain ⟨W,hW⟩ : ∃ U,madT t=U:=⟨_,rfl⟩
 rw [hW] at k8 ⊢
 obtain ⟨n2,hn2⟩ : ∃ U,tpN UU 2=U:=⟨_,rfl⟩
 rw [hn2] at k8 hC
 have hfz : ∀ k,fzL 1 k (tpC W) (tpC W):=fun k=>znnb (zs7w _)
 have hfo : ∀ H c,fzLo 1 H 3 (csC c)=some (csC c):=fun H c=>zojd (ztlc c)
 have hdn:DV.sl true 3 2 (lkC ⟨A1,A2,A3⟩++lkC ⟨buiS,A3,E1.2⟩)=(dn2 ⟨A1,A2,A3⟩ ⟨buiS,A3,E1.2⟩).dv 3 lkC:=(znr1 _ _).symm
 have ho5 : ∀ c,oneC 5 true (csC c)=some (.agg (csC c)):=fun c=>rfl
 have hbs:=z73r (a:=⟨A1,A2,A3⟩) (b:=⟨buiS,A3,E1.2⟩)
 rw [hdn] at hbs
 simp only [buiS] at hbs
 have hC':madC t=⟨mdC t,dn2 ⟨A1,A2,A3⟩ ⟨[98,117,105,108,100],A3,E1.2⟩,decide (n2=0)⟩:=hC
 obtain ⟨D,hD⟩ : ∃ D,dn2 ⟨A1,A2,A3⟩ ⟨[98,117,105,108,100],A3,E1.2⟩=D:=⟨_,rfl⟩
 rw [hD] at hbs hC'
 have st1 : ∀ (h:List AObj) (id:Nat) (v:Sl Ent) (a b c:DV),zy6o h id 1 1 (v.dv 33 enC) (some [a,b,c])=some (.junk,h.set id (.cells [a,v.dv 33 enC,c])):=fun h id v a b c=>by
  rw [Am.storeO_1 (zfr8 _) (z4ja _) (by simp)]; rfl
 have st2 : ∀ (h:List AObj) (id:Nat) (v:Sl Ent) (a b c:DV),zy6o h id 1 2 (v.dv 33 enC) (some [a,b,c])=some (.junk,h.set id (.cells [a,b,v.dv 33 enC])):=fun h id v a b c=>by
  rw [Am.storeO_1 (zfr8 _) (z4ja _) (by simp)]; rfl
 have so5 : ∀ (h:List AObj) (id:Nat) (a:Str) (b c:Sl Ent) (d:Sl Lnk) (e:Bool),zy6o h id 5 0 (.agg [.str a,b.dv 33 enC,c.dv 33 enC,d.dv 3 lkC,.bool e]) (some [.str [],.nils,.nils,.nils,.bool false])=some (.junk,h.set id (.cells [.str a,b.dv 33 enC,c.dv 33 enC,d.dv 3 lkC,.bool e])):=fun h id a b c d e=>zfc1 rfl rfl (by simp [z4ja])
 have so3 : ∀ (h:List AObj) (id:Nat) (a:Str) (b c:Sl Ent),zy6o h id 3 0 (.agg [.str a,b.dv 33 enC,c.dv 33 enC]) (some [.str [],.nils,.nils])=some (.junk,h.set id (.cells [.str a,b.dv 33 enC,c.dv 33 enC])):=fun h id a b c=>zfc1 rfl rfl (by simp [z4ja])
 have bd5 : ∀ (a:Str) (b c:Sl Ent) (d:Sl Lnk) (e:Bool),zvnk [.str [],.nils,.nils,.nils,.bool false] [(0,3,.agg [.str a,b.dv 33 enC,c.dv 33 enC]),(3,1,d.dv 3 lkC),(4,1,.bool e)]=some (.agg [.str a,b.dv 33 enC,c.dv 33 enC,d.dv 3 lkC,.bool e]):=fun a b c d e=>by
  simp [zvnk,zi03,zk7y]
 have bd3 : ∀ (a:Str) (b c:Sl Ent),zvnk [.str [],.nils,.nils] [(0,1,.str a),(1,1,b.dv 33 enC),(2,1,c.dv 33 enC)]=some (.agg [.str a,b.dv 33 enC,c.dv 33 enC]):=fun a b c=>by
  simp [zvnk,zi03,zk7y]
 have o5 : ∀ a b c d e:DV,oneC 5 true [a,b,c,d,e]=some (.agg [a,b,c,d,e]):=fun _ _ _ _ _=>rfl
 have fd : ∀ H (x:Sl Ent),fz 1 H 3 (x.dv 33 enC)=some (x.dv 33 enC):=fun H x=>zqge (zru8 x)
 have fl3 : ∀ H (x:Sl Lnk),fz 1 H 3 (x.dv 3 lkC)=some (x.dv 3 lkC):=fun H x=>zqge (zys6 x)
 have e1:lkC ⟨A1,A2,A3⟩=[.str A1,A2.dv 33 enC,A3.dv 33 enC]:=rfl
 have e2:lkC ⟨[98,117,105,108,100],A3,E1.2⟩=[.str [98,117,105,108,100],A3.dv 33 enC,E1.2.dv 33 enC]:=rfl
 rw [e1] at k1 hbs
 rw [e2] at hbs
 have e3 : ∀ b c d e,csC ⟨⟨pacS,b,c⟩,d,e⟩=[.str [112,97,99,107],b.dv 33 enC,c.dv 33 enC,d.dv 3 lkC,.bool e]:=fun _ _ _ _=>rfl
 by_cases h0:n=0
 ·subst h0
  rw [if_pos rfl] at hc hu
  subst hu
  rw [hC',hc,e3]
  simp (disch:=first|omega|simp<;>omega|fail) [-zA,-zB,-zC,-zD,-zE,a6,zhi2,k1,so3,bd3,zbny,k2,k3,k4,z9gi,k5,z27v,k6,st1,k7,st2,k8,hbs,z6o8,bd5,so5,hfz,o5,fd,fl3,z89m,zkbv]
  rw [← hD,znr1]; rfl
 ·rw [if_neg h0] at hc hu
  subst hu
  rw [hC',hc,e3]
  simp (disch:=first|omega|simp<;>omega|fail) [-zA,-zB,-zC,-zD,-zE,a6,zhi2,k1,so3,bd3,zbny,k2,k3,k4,z9gi,k5,h0,k8,hbs,z6o8,bd5,so5,hfz,o5,fd,fl3,z89m,zkbv]
  rw [← hD,znr1]; rfl
noncomputable def cMa3:List DV→List DV→Option (DV × List DV):=conT (fun a:Tp=>a.at_<3500000000) (fun a=>[]) tpC (fun a=>(.agg (csC (madC a)),tpC (madT a)))
theorem zru6 {t:Tp} (h:t.at_<3500000000):cMa3 [] (tpC t)=some (.agg (csC (madC t)),tpC (madT t)) :=
 ztyo (A:=fun a:Tp=>a.at_<3500000000) (f:=fun a=>[]) (s:=tpC) (fun a b _ e=>by rw [z15z e]) t h
theorem zcri:(Con.tch cMa3).Sound P 6 :=
 z0tq (fun a _=>⟨rfl,zs7w _,by simp only [zyp8,ztlc],zs7w _⟩) fun a h=>zizi mix z2mr Tryz.func6 zc7x (z4ks a h) (Nat.le_refl _)
end Go.Proofs.YtjknipdiglpnlaaGreatDoor
set_option linter.unusedSimpArgs false
set_option linter.unusedVariables false
set_option maxRecDepth 8000
namespace Go.Proofs.YtjknipdiglpnlaaGreatDoor
open Go Go.Am
theorem zv6c : ∀ c ∈ nmB,zj1f c=true ∧ ∀ a ∈ nmA,zj1f (a++[47]++c)=true ∧ ∀ b ∈ nmA,zj1f (a++[47]++b++[47]++c)=true:=by decide +kernel
theorem z1qo (t:Tp):zj1f (zczq t)=true:=by
 have hn:=z9sd t
 unfold zczq
 have hA : ∀ t,zzh5 t nmA ∈ nmA:=fun t=>zqrp t (by decide)
 have hB : ∀ t,zzh5 t nmB ∈ nmB:=fun t=>zqrp t (by decide)
 obtain ⟨n,hN⟩ : ∃ n,zf1o t=n:=⟨_,rfl⟩
 rw [hN] at hn ⊢
 rcases n with _|_|_|n
 ·simpa [pthL] using (zv6c _ (hB (t.adv 1))).1
 ·have:=((zv6c _ (hB ((t.adv 1).adv 1))).2 _ (hA (t.adv 1))).1
  simpa [pthL] using this
 ·have:=((zv6c _ (hB (((t.adv 1).adv 1).adv 1))).2 _ (hA (t.adv 1))).2 _ (hA ((t.adv 1).adv 1))
  simpa [pthL] using this
 ·omega
theorem zc8p (t:Tp):zim9 (newE t)=true:=by
 unfold zim9 newE
 simp [z1qo,z7d3]
def eLt (a b:Ent):Prop:=Op.bytesLess a.path b.path=true
structure GoodE (l:List Ent):Prop where
 s:l.Pairwise eLt
 f : ∀ e ∈ l,zim9 e=true
theorem zey8:GoodE []:=⟨List.Pairwise.nil,fun e h=>by simp at h⟩
theorem zurc {a b c:Ent} (h:eLt a b) (h':eLt b c):eLt a c:=z8c3 _ _ _ h h'
theorem zhdu {a b:Ent} (h:eLt a b):a.path≠b.path:=fun e=>by
 unfold eLt at h; rw [e,zrk4] at h; cases h
theorem zhsq {a b:Ent} (h:Op.bytesLess b.path a.path=false) (hn:a.path≠b.path):eLt a b:=by
 rcases zoet a.path b.path with e|e|e
 ·exact e
 ·exact absurd e hn
 ·rw [h] at e; cases e
theorem z73h {l m:List Ent} (h:GoodE m) (hs:l.Sublist m):GoodE l:=⟨h.s.sublist hs,fun e he=>h.f e (hs.subset he)⟩
theorem zul9 {A B:List Ent} {x:Ent} (h:GoodE (A++B)) (hx:zim9 x=true) (h1 : ∀ a ∈ A,eLt a x) (h2 : ∀ b ∈ B,eLt x b):GoodE (A++x::B):=by
 obtain ⟨s,f⟩:=h
 rw [List.pairwise_append] at s
 refine ⟨?_,fun e he => ?_⟩
 ·rw [List.pairwise_append,List.pairwise_cons]
  refine ⟨s.1,⟨h2,s.2.1⟩,fun a ha b hb => ?_⟩
  rcases List.mem_cons.1 hb with rfl|hb
  ·exact h1 a ha
  ·exact s.2.2 a ha b hb
 ·rcases List.mem_append.1 he with he|he
  ·exact f e (List.mem_append_left _ he)
  ·rcases List.mem_cons.1 he with rfl|he
   ·exact hx
   ·exact f e (List.mem_append_right _ he)
theorem z4za {s:List Ent} {x:Ent} (h:GoodE s) (hx:zim9 x=true):GoodE (putV s x):=by
 have hs:GoodE (putF s x):=z73h h List.filter_sublist
 have hne : ∀ y ∈ putF s x,y.path≠x.path:=fun y hy=>by
  have:=(List.mem_filter.1 hy).2; simpa using this
 obtain ⟨A,B,e1,e2,e3,e4⟩:=zyus (lt:=pLt) x (putF s x)
 unfold putV
 rw [e2]
 rw [e1] at hs hne
 refine zul9 hs hx (fun a ha => ?_) (fun b hb=>e3 b hb)
 rcases e4 with e4|⟨A',y,e4,e5⟩
 ·rw [e4] at ha; simp at ha
 ·have hy:eLt y x:=zhsq e5 (hne y (by rw [e4]; simp))
  rw [e4] at ha
  rcases List.mem_append.1 ha with ha|ha
  ·have:=hs.s
   rw [e4,List.append_assoc] at this
   exact zurc ((List.pairwise_append.1 this).2.2 a ha y (by simp)) hy
  ·simp at ha; rw [ha]; exact hy
theorem z1xt {s:List Ent} {i:Nat} (h:GoodE s):GoodE (zzy4 s i):=by
 refine z73h h ?_
 unfold zzy4
 have e:s.take i++s.drop i=s:=List.take_append_drop i s
 have hd:(s.drop (i+1)).Sublist (s.drop i):=by
  rw [← List.drop_drop]
  exact List.drop_sublist 1 (s.drop i)
 have:=(List.Sublist.refl (s.take i)).append hd
 rwa [e] at this
theorem zs49 : ∀ (n:Nat) (a:Tp × List Ent),GoodE a.2→GoodE (snpL n a).2
 | 0,a,h=>h
 | n+1,a,h=>zs49 n _ (z4za h (zc8p a.1))
theorem zcp3 {a:Tp × Sl Ent} (hb:a.2.l.length+1≤4294967296) (h:GoodE a.2.l):GoodE (zvj4 a).2.l:=by
 unfold zvj4
 split
 ·simp only; rw [znxd (by omega)]; exact z1xt h
 ·have:=z3b0 a.2.l (newE (a.1.adv 1))
  simp only; rw [z3e9 (by omega)]; exact z4za h (zc8p _)
theorem z2oi : ∀ (n:Nat) (a:Tp × Sl Ent),a.2.l.length+n≤4294967296→GoodE a.2.l→GoodE (edtL n a).2.l
 | 0,a,_,h=>h
 | n+1,a,hb,h=>by
  have h1:=zkr6 (a:=a) (by omega)
  exact z2oi n _ (by omega) (zcp3 (by omega) h)
theorem zh2n {t:Tp} {s:Sl Ent} (hb:s.l.length≤4000000000) (h:GoodE s.l):GoodE (z7ym t s).2.l:=by
 have h0:=zgro t 3
 unfold z7ym
 exact z2oi _ _ (by unfold zp4t; simp only; omega) h
theorem zv0x (t:Tp):GoodE (zxwj t).l:=by
 have h:=(zk7x t 5).2
 unfold zxwj; rw [zd8n (by omega)]
 unfold zgxx; exact zs49 _ _ zey8
theorem zzhy (t:Tp) (st:Str):GoodE (zyjl t st).p.l:=by
 have h0:=zr0a t
 unfold zyjl; simp only
 exact zh2n (by omega) (zv0x t)
theorem znfa {l:List Ent} {x e:Ent}:e ∈ insE l x↔e=x∨e ∈ l:=by
 unfold insE
 have h:l.takeWhile (ltE x)++l.dropWhile (ltE x)=l:=List.takeWhile_append_dropWhile
 constructor
 ·intro he
  rcases List.mem_append.1 he with he|he
  ·exact .inr (h▸List.mem_append_left _ he)
  ·rcases List.mem_cons.1 he with he|he
   ·exact .inl he
   ·exact .inr (h▸List.mem_append_right _ he)
 ·rintro (rfl|he)
  ·simp
  ·rw [← h] at he
   rcases List.mem_append.1 he with he|he
   ·exact List.mem_append_left _ he
   ·exact List.mem_append_right _ (List.mem_cons_of_mem _ he)
theorem zgrk {l:List Ent} {x:Ent} (h:GoodE l) (hx:zim9 x=true) (hn : ∀ e ∈ l,e.path≠x.path):GoodE (insE l x):=by
 have hl:l.takeWhile (ltE x)++l.dropWhile (ltE x)=l:=List.takeWhile_append_dropWhile
 unfold insE
 refine zul9 (by rw [hl]; exact h) hx (fun a ha => ?_) (fun b hb => ?_)
 ·exact zeqt (p:=ltE x) a ha
 ·rcases zpre (p:=ltE x) (l:=l) with e|⟨y,r,e,hy⟩
  ·rw [e] at hb; simp at hb
  ·have hyl:y ∈ l:=by rw [← hl,e]; simp
   have hxy:eLt x y:=zhsq hy (fun q=>hn y hyl q.symm)
   have hs:=h.s
   rw [← hl,e] at hs
   rw [e] at hb
   rcases List.mem_cons.1 hb with rfl|hb
   ·exact hxy
   ·exact zurc hxy ((List.pairwise_cons.1 (List.pairwise_append.1 hs).2.1).1 b hb)
theorem zb67 {e:Ent} (h:zim9 e=true):zj1f e.path=true∧e.dg≠dg0:=by
 unfold zim9 at h
 simpa using h
theorem z19j {a b:Str} : ∀ {r acc:List Ent},GoodE acc→GoodE r→(∀ e ∈ acc,∃ s,relO a b s=some e.path ∧ ∀ x ∈ r,x.path≠s)→GoodE (mvL a b acc r)
 | [],acc,h,_,_=>h
 | u::r,acc,h,hr,hd=>by
  have hs:=List.pairwise_cons.1 hr.s
  have hr':GoodE r:=⟨hs.2,fun x hx=>hr.f x (by simp [hx])⟩
  rw [mvL]
  cases hu:relO a b u.path with
  | none =>
   refine z19j h hr' fun e he => ?_
   obtain ⟨s,h1,h2⟩:=hd e he
   exact ⟨s,h1,fun x hx=>h2 x (by simp [hx])⟩
  | some p =>
   have hp:=zrd6 hu
   have hf:=zb67 (hr.f u (by simp))
   refine z19j (zgrk h (by unfold zim9; simp [hp.1,hf.2]) fun e he q => ?_) hr' fun e he => ?_
   ·obtain ⟨s,h1,h2⟩:=hd e he
    have h3:=(zrd6 h1).2
    have q:e.path=p:=q
    rw [q,hp.2] at h3
    exact h2 u (by simp) (Option.some.inj h3)
   ·rcases znfa.1 he with rfl|he
    ·exact ⟨u.path,hu,fun x hx=>(zhdu (hs.1 x hx)).symm⟩
    ·obtain ⟨s,h1,h2⟩:=hd e he
     exact ⟨s,h1,fun x hx=>h2 x (by simp [hx])⟩
theorem zbxo {s:List Ent} {a b:Str} (h:GoodE s):GoodE (zj0v s a b):=by
 unfold zj0v
 split
 ·exact z19j zey8 h fun e he=>by simp at he
 ·exact zey8
attribute [local irreducible] z7ym zyjl zd2t zxwj ownN tpN zj0v
theorem zkct (t:Tp) (ht:t.at_<3500000000):GoodE (mdA t).p.l∧GoodE (mdE1 t).2.l∧GoodE (mdC t).m.l∧GoodE (mdC t).p.l∧(mdC t).m.l.length≤20∧(mdC t).p.l.length≤20:=by
 obtain ⟨b1,b2,b3,b4,b5,b6,b7,b8,b9,b10,b11,b12⟩:=z1bh t ht
 have gA:GoodE (mdA t).p.l:=zzhy t fetS
 have g1:GoodE (mdE1 t).2.l:=by unfold mdE1; exact zh2n (by omega) gA
 have g2:GoodE (mdE2 t).2.l:=by unfold mdE2; exact zh2n (by omega) g1
 have g3:GoodE (mdE3 t).2.l:=by unfold mdE3; exact zh2n (by omega) g2
 have hml:=z31d (mdE1 t).2.l [] inS
 have gM:GoodE (mdM t).l:=by unfold mdM; rw [zd8n (by omega)]; exact zbxo g1
 have g4:GoodE (mdE4 t).2.l:=by unfold mdE4; exact zh2n (by omega) gM
 refine ⟨gA,g1,?_⟩
 by_cases h:tpN (mdE3 t).1 3=0
 ·have e:mdC t=⟨pacS,mdM t,(mdE4 t).2⟩:=if_pos h
  rw [e]
  exact ⟨gM,g4,Nat.le_trans b9 (by omega),Nat.le_trans b10 (by omega)⟩
 ·have e:mdC t=⟨pacS,(mdE1 t).2,(mdE3 t).2⟩:=if_neg h
  rw [e]
  exact ⟨g1,g3,Nat.le_trans b3 (by omega),Nat.le_trans b7 (by omega)⟩
theorem z5n7 (t:Tp):(madC t).self=mdC t:=rfl
theorem z99m (t:Tp):(madT t).at_=(mdU t).at_+1:=by unfold madT; rw [zpza]
theorem z2vp (p:Str→Bool) (l:List Str):(zwyd p l).Sublist l:=List.filter_sublist
theorem zbx7 {s:Sd} : ∀ (l:List Rul) (i:Nat) (Q:List Str),(appL s l i Q).le.Sublist Q
 | [],_,Q=>List.Sublist.refl Q
 | r::l,i,Q=>by
  rw [appL]
  split
  ·cases zkx0 r r.kind.toNat Q with
   | some p=>exact z2vp _ _
   | none=>exact (zbx7 l (i+1) _).trans (z2vp _ _)
  ·exact List.Sublist.refl Q
end Go.Proofs.YtjknipdiglpnlaaGreatDoor
set_option linter.unusedSimpArgs false
set_option linter.unusedVariables false
set_option maxRecDepth 20000
namespace Go.Proofs.YtjknipdiglpnlaaGreatDoor
open Go Go.Am
theorem qS_l {N:Nat} {l:List Str} (h:l.length≤N) (hN:N≤65536):(qS N l).l=l:=by
 unfold qS
 split
 ·have e:l=[]:=List.eq_nil_of_length_eq_zero (by omega)
  rw [e]; rfl
 ·rw [z3e9 (by omega)]
theorem z8gs (l:List Rul) (pr:Bool) (x:Lnk) (d:Sl Lnk):(zr9o l pr x d).le.length≤(zmoc pr x).l.length:=by
 have:=(zbx7 (s:=sdOf pr x d) l 0 (zw2l (zmoc pr x).l)).length_le
 rw [z1cm] at this
 exact this
theorem zkd9 {c:C13}:oneC 1 false ((csC c).drop 4)=some (.bool c.pr):=rfl
theorem zhjn {c:C13}:oneC 1 false ((csC c).drop 3)=some (c.done.dv 3 lkC):=rfl
theorem z167 {c:C13}:oneC 3 true (csC c)=some (.agg (lkC c.self)):=rfl
noncomputable def zm02 (t:Tp) (m:Nat):Tbl:=addT 8 (.pure cSt0) (addT 7 (.heap (ptH [.mp 0 2 0,stpD,.int .i64 m] [.cells (tpC t)] (oV 1 6 (rlsV t m).2) (.cells (tpC (rlsV t m).1)::oT ruC (rlsV t m).2))) tbl0)
theorem z9kq {t:Tp} {m:Nat}:zm02 t m 8 = .pure cSt0:=by simp [zm02]
theorem z0f9 {t:Tp} {m:Nat}:zm02 t m 7 = .heap (ptH [.mp 0 2 0,stpD,.int .i64 m] [.cells (tpC t)] (oV 1 6 (rlsV t m).2) (.cells (tpC (rlsV t m).1)::oT ruC (rlsV t m).2)):=by simp [zm02]
theorem zj6x {t:Tp} {m:Nat} (ht:t.at_<3700000000) (hm:m≤100):(zm02 t m).Sound P:=z0rp z08o (z0rp (zdmv (z4eg t m ht hm)) zr5o)
theorem zj9a {α:Type} {f:α→List DV} {K:Nat} {u:Tp} {L:List α} (hu : ∀ a,(f a).length=K) (hp : ∀ a,zbao (f a)=true) (hb:L.length≤4294967296):mk1 (kLt 1) (.cells (tpC u)::oT f L) (oV 1 K L)=(ownN L).dv K f:=by
 by_cases e:L=[]
 ·subst e; exact zhx5
 ·rw [zpni e,zu2l e,z527 e]
  refine zwy6 ?_
  rw [zi9r,if_neg (by simp [kLt])]
  have ho:objV (AObj.cells (tpC u)::[.cells (fl f L)]) 1 (L.length*K)=some (fl f L):=by
   show (if (fl f L).length=L.length*K then some (fl f L) else none)=_
   rw [if_pos (z8lx hu L)]
  rw [ho,Option.bind_some,List.drop_zero,z590 hu,List.take_length,zl6f (zp6k hp _),zqrs hb]; rfl
attribute [local irreducible] z7ym zyjl zd2t zxwj ownN tpN zj0v mdA mdE1 mdB mdE2 mdE3 mdT mdM mdE4 mdC mdU madC madT rlsV rulV rulT zr9o appL
namespace rulesStrict
end rulesStrict
end Go.Proofs.YtjknipdiglpnlaaGreatDoor
