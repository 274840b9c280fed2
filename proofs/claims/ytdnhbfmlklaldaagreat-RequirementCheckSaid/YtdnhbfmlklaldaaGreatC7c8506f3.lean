/-
  15 texts of mine in one.
-/
import Derived.Test.YtdnhbfmlklaldaaGreatCb1b7f320
import Derived.Test.YtdnhbfmlklaldaaGreatC1d38dafb
import Derived.Test.YtdnhbfmlklaldaaGreatC86a19a23
import Derived.Test.YtdnhbfmlklaldaaGreatCbdac06b7
import Derived.Test.YtdnhbfmlklaldaaGreatC38e3cab2
set_option maxRecDepth 20000
set_option maxHeartbeats 4000000
open List renaming map_take → zA, map_drop → zB, map_set → zC, map_append → zD, drop_one → zE
set_option linter.unusedSimpArgs false
set_option linter.unusedVariables false
namespace Go.Proofs.YtdnhbfmlklaldaaGreat
open Go Go.Am
noncomputable def T620:Tbl:=addT 106 (.pure ztk6) (addT 107 (.pure zzr5) (addT 112 (.pure cCat) tbl0))
theorem zlfr:T620 106 = .pure ztk6:=by simp [T620]
theorem z4uj:T620 107 = .pure zzr5:=by simp [T620]
theorem zy9c:T620 112 = .pure cCat:=by simp [T620]
theorem zpfw:T620.Sound P:=z0rp z38w (z0rp ztbv (z0rp ztpx zr5o))
def InOK (l:List Fct) (y:List Dg):Prop := ∀ f ∈ l,f.docs.l.length+y.length≤1000000
theorem z049 (x:Sl Fct) (n:Int) (y:Sl Dg) (ok:InOK x.l y.l):Runs T620 a74 [x.dv 71 faC,.int .i64 n,y.dv 32 dgC] (.agg (suC (zpu0 x.l n y.l))):=by
 refine ⟨?_⟩
 cases e:x.l with
 | nil =>
  have e0:x.l.length=0:=by rw [e]; rfl
  have hs:zpu0 [] n y.l=zcc9 1:=rfl
  simp (disch:=first|omega|simp<;>omega|fail) [-zA,-zB,-zC,-zD,-zE,a74,e0,e,zlfr,zg94,hs]
 | cons f r =>
  have e0:¬ x.l=[]:=by rw [e]; simp
  have e1:¬ x.l.length=0:=by rw [e]; simp
  have hg : ∀ H,zpsc H 71 (x.dv 71 faC) 0=some (.ref (faC f)):=fun H=>by
   have:=zalo (h:=H) (x:=x) (i:=0) zs77 (by rw [e]; simp)
   rw [show ((0:Nat):Int)=0 from rfl] at this
   rw [this]; simp [e]
  have hf:=ok f (by rw [e]; simp)
  by_cases h:0<n
  ·have hs:zpu0 (f::r) n y.l=zcc9 n:=by simp only [zpu0]; rw [if_pos h]
   simp (disch:=first|omega|simp<;>omega|fail) [-zA,-zB,-zC,-zD,-zE,a74,e0,e1,h,zlfr,zg94,hs]
  ·have hs:zpu0 (f::r) n y.l=zp7s (ownN (f.docs.l++y.l)):=by simp only [zpu0]; rw [if_neg h]
   have c1:=zf44 (x:=f.docs) (y:=y) (by omega)
   have c2:=zk0w (x:=ownN (f.docs.l++y.l)) (by rw [zd8n (by rw [List.length_append]; omega),List.length_append]; omega)
   simp (disch:=first|omega|simp<;>omega|fail) [-zA,-zB,-zC,-zD,-zE,a74,e0,e1,h,hg,zy9c,z4uj,c1,c2,hs]
noncomputable def zy0t:List DV→Option DV:=con (fun a:Sl Fct × Int × Sl Dg=>InOK a.1.l a.2.2.l) (fun a=>[a.1.dv 71 faC,.int .i64 a.2.1,a.2.2.dv 32 dgC]) (fun a => .agg (suC (zpu0 a.1.l a.2.1 a.2.2.l)))
theorem z19c {x:Sl Fct} {n:Int} {y:Sl Dg} (h:InOK x.l y.l):zy0t [x.dv 71 faC,.int .i64 n,y.dv 32 dgC]=some (.agg (suC (zpu0 x.l n y.l))) :=
 zlyi (A:=fun a:Sl Fct × Int × Sl Dg=>InOK a.1.l a.2.2.l) (f:=fun a:Sl Fct × Int × Sl Dg=>[a.1.dv 71 faC,.int .i64 a.2.1,a.2.2.dv 32 dgC]) (g:=fun a => .agg (suC (zpu0 a.1.l a.2.1 a.2.2.l))) (by
  rintro ⟨a,b,c⟩ ⟨a',b',c'⟩ e
  simp only [List.cons.injEq,DV.int.injEq,and_true,true_and] at e
  rw [z4rf e.1,e.2.1,z42k e.2.2]) (x,n,y) h
theorem zwv1:(Con.pure zy0t).Sound P 74:=z2au fun a h=>zljw mix zpfw Tryz.func74 z26r (z049 a.1 a.2.1 a.2.2 h)
noncomputable def T621:Tbl:=addT 106 (.pure ztk6) (addT 110 (.pure zp5o) (addT 68 (.pure cFct) (addT 69 (.pure cEn) tbl0)))
theorem zjnr:T621 106 = .pure ztk6:=by simp [T621]
theorem z94s:T621 110 = .pure zp5o:=by simp [T621]
theorem z4sv:T621 68 = .pure cFct:=by simp [T621]
theorem zp93:T621 69 = .pure cEn:=by simp [T621]
theorem z6io:T621.Sound P:=z0rp z38w (z0rp zce9 (z0rp zbp8 (z0rp zm5m zr5o)))
theorem z1oj {K:Nat→Bool} {h:List AObj} {x:Sl Fct}:mk1 K h (x.dv 71 faC)=x.dv 71 faC:=zvft (zxxb z93p x)
theorem zutw {K:Nat→Bool} {h:List AObj} {x:Sl Fnd}:mk1 K h (x.dv 39 fnC)=x.dv 39 fnC:=zvft (zxxb zl9f x)
theorem z6c5 {K:Nat→Bool} {h:List AObj} {x:Sl Dg}:mk1 K h (x.dv 32 dgC)=x.dv 32 dgC:=zvft (zxxb z3ot x)
theorem z5en {K:Nat→Bool} {h:List AObj} {x:Sl Str}:mk1 K h (x.dv 1 stC)=x.dv 1 stC:=zvft (zxxb zds6 x)
attribute [simp] z1oj zutw z6c5 z5en
def su0:List DV:=[.bool false,.nils,.int .i64 0]
theorem zige:su0.length=3:=by simp [su0]
theorem zl8c:zbao su0=true:=by simp [su0,zbao,zyp8]
attribute [simp] zige zl8c zxm8 z93p zl9f ztvh zhqv zkih
def lV (l:List Dg):DV:=if l=[] then .nils else .ms 2 (l.length*32) 0 32 l.length (l.length*32)
def lH (o:AObj) (l:List Dg):List AObj := .cells su0::(if l=[] then [] else [o,.cells (fl dgC l)])
theorem zi7d {l:List Dg} (h:l≠[]):lV l = .ms 2 (l.length*32) 0 32 l.length (l.length*32):=if_neg h
theorem ziqb {o:AObj} {l:List Dg} (h:l≠[]):lH o l=[.cells su0,o,.cells (fl dgC l)]:=by rw [lH,if_neg h]
def tgS (l:List Fct):List Dg:=l.map (·.tgt)
def S620 (x:Sl Fct) (n:Int) (a:FP):St:=ziva (x.dv 71 faC) (.int .i64 n) (.mp 0 3 0) (lV (tgS (x.l.take a.i))) (x.dv 71 faC) (.int .i64 x.l.length) (.int .i64 a.i) (lH (.cells (faC a.o)) (tgS (x.l.take a.i)))
structure ListOK (l:List Fct) (n:Int):Prop where
 k:l.length≤1000
 e : ∀ d,EnOK (zskr l 5 (.target d)) n
 n0:0≤n
structure LM where
 i:Nat
 m:Int
def S621 (x:Sl Fct) (n:Int) (Y:Sl Dg) (pre:List AObj) (a:LM):St:=zx7a (x.dv 71 faC) (.int .i64 n) (.mp 0 3 0) (.mp (pre.length+1) 3 0) (Y.dv 32 dgC) (.int .i64 Y.l.length) (.int .i64 a.i) (.cells su0::pre++[.cells (suC (zcc9 a.m))])
theorem zvov {h:List AObj} {id:Nat} {m v:Int}:zy6o h id 1 2 (.int .i64 v) (some (suC (zcc9 m)))=some (.junk,h.set id (.cells (suC (zcc9 v)))):=by rw [zltg rfl rfl (by rw [z16g]; decide)]; rfl
theorem zgr9 (x:Sl Fct) (n:Int) (ok:ListOK x.l n):V P 0 a73.code (retK a73.res (.agg (suC (zf55 x.l n)))) ⟨zr5g a73.ntmps [x.dv 71 faC,.int .i64 n],[]⟩:=by
 have hk:=ok.k
 have hb:=x.b
 obtain ⟨R,hR⟩ : ∃ R,zf55 x.l n=R:=⟨_,rfl⟩
 have htl:(tgS x.l).length=x.l.length:=by simp [tgS]
 rw [hR]
 refine zbn1 (V_W mix z6io ?_)
 simp (disch:=first|omega|simp<;>omega|fail) [-zA,-zB,-zC,-zD,-zE,a73]
 refine zbn1 (V_W mix z6io ?_)
 simp (disch:=first|omega|simp<;>omega|fail) [-zA,-zB,-zC,-zD,-zE]
 refine zbn1 (V_W mix z6io ?_)
 simp (disch:=first|omega|simp<;>omega|fail) [-zA,-zB,-zC,-zD,-zE]
 refine zlm5 (S620 x n) (fun a=>x.l.length-a.i) (fun a=>a.i≤x.l.length) ⟨0,fct0⟩ (z515 (by simp (disch:=first|omega|simp<;>omega|fail) [-zA,-zB,-zC,-zD,-zE,S620,ziva,tgS,lV]) (by simp (disch:=first|omega|simp<;>omega|fail) [-zA,-zB,-zC,-zD,-zE,S620,ziva,tgS,lH,su0])) (by simp) (fun a hi => ?_)
 obtain ⟨i,o⟩:=a
 simp only at hi
 simp only [S620]
 by_cases h:i<x.l.length
 ·have h':(i:Int)<x.l.length:=by omega
  have hg : ∀ H,zpsc H 71 (x.dv 71 faC) i=some (.ref (faC x.l[i])):=fun H=>zalo zs77 h
  have hs:tgS (x.l.take (i+1))=tgS (x.l.take i)++[x.l[i].tgt]:=by rw [List.take_succ_eq_append_getElem h,tgS,List.map_append]; rfl
  have hlen:(tgS (x.l.take i)).length≤i:=by simp [tgS]; omega
  obtain ⟨F,hF⟩ : ∃ F,x.l[i]=F:=⟨_,rfl⟩
  rw [hF] at hg hs
  obtain ⟨L,hL⟩ : ∃ L,tgS (x.l.take i)=L:=⟨_,rfl⟩
  rw [hL] at hs hlen ⊢
  by_cases e:L=[]
  ·subst e
   rw [List.nil_append] at hs
   have hap:=zsuq (h:=[AObj.cells su0,.cells (faC F)]) (s:=32) (b:=32) (m:=1) (cs:=dgC F.tgt) (by decide) (by decide) (by rw [z1t1]) (by decide) (by decide)
   simp only [z1t1,List.length_cons,List.length_nil] at hap
   have q1:lV [] = .nils:=rfl
   have q2:lH (.cells (faC o)) []=[.cells su0]:=rfl
   simp (disch:=first|omega|simp<;>omega|fail) [-zA,-zB,-zC,-zD,-zE,zqxw,ziva,h,h',hg,q1,q2,hap]
   have e1:lV [F.tgt] = .ms 2 32 0 32 1 32:=rfl
   have e2:lH (.cells (faC F)) [F.tgt]=[.cells su0,.cells (faC F),.cells (dgC F.tgt)]:=by rw [ziqb (by simp),z4hs]
   exact ⟨⟨i+1,F⟩,z515 (by simp (disch:=first|omega|simp<;>omega|fail) [-zA,-zB,-zC,-zD,-zE,S620,ziva,hs,e1]) (by simp (disch:=first|omega|simp<;>omega|fail) [-zA,-zB,-zC,-zD,-zE,S620,ziva,hs,e2]),by simp only; omega,by simp only; omega⟩
  ·have hap:=zkg3 (h:=[AObj.cells su0,.cells (faC o),.cells (fl dgC L),.cells (faC F)]) (id:=2) (b:=32) (l:=L) (x:=F.tgt) z1t1 (by decide) (by decide) (fun _=>zoxk) (by omega) (by simp [objV,ziu0,z8lx z1t1])
   have q1:=zi7d e
   have q2:=ziqb (o := .cells (faC o)) e
   simp (disch:=first|omega|simp<;>omega|fail) [-zA,-zB,-zC,-zD,-zE,zqxw,ziva,h,h',hg,q1,q2,hap]
   have e0:L++[F.tgt]≠[]:=by simp
   have e1:=zi7d e0
   have e2:=ziqb (o := .cells (faC o)) e0
   rw [List.length_append,List.length_singleton] at e1
   exact ⟨⟨i+1,o⟩,zju2 (tail:=[.cells (faC F)]) (by simp (disch:=first|omega|simp<;>omega|fail) [-zA,-zB,-zC,-zD,-zE,S620,ziva,hs,e1]) (by simp (disch:=first|omega|simp<;>omega|fail) [-zA,-zB,-zC,-zD,-zE,S620,ziva,hs,e2]) (by simp) (by simp (disch:=first|omega|simp<;>omega|fail) [-zA,-zB,-zC,-zD,-zE,S620,ziva,hs,e1,e2,z1r6,Am.below]) (by simp (disch:=first|omega|simp<;>omega|fail) [-zA,-zB,-zC,-zD,-zE,S620,ziva,hs,e2,zlf2,z1r6,Am.below,su0,fl,zmq5 _ _ (zg0c (zp6k z3ot _) (z3ot _)),zmq5 _ _ (zp6k z3ot _)]),by simp only; omega,by simp only; omega⟩
 have h':¬ (i:Int)<x.l.length:=by omega
 have ht:x.l.take i=x.l:=List.take_of_length_le (by omega)
 rw [ht]
 have hY0:(ownN (tgS x.l)).l=tgS x.l:=zd8n (by omega)
 have c0:=zoh6 (x:=ownN (tgS x.l)) (by rw [hY0]; omega)
 obtain ⟨Y,hY⟩ : ∃ Y,zln3 (ownN (tgS x.l))=Y:=⟨_,rfl⟩
 have hul:=zsv6 (lt:=dgLt) (tgS x.l)
 have hYl:Y.l=dgsU (tgS x.l):=by
  rw [← hY]
  unfold zln3
  rw [hY0]
  split
  ·rename_i e; rw [show (ownN (tgS x.l)).clone.l=(ownN (tgS x.l)).l from rfl,hY0,e]; rfl
  ·rw [z3e9 (by unfold dgsU; omega)]
 rw [hY] at c0
 have hR:zdgi x.l n Y.l n=R:=by rw [← hR,hYl]; rfl
 have hYb:Y.l.length≤1000:=by rw [hYl]; unfold dgsU; omega
 have hp:=zp6k z3ot (tgS x.l)
 by_cases e:tgS x.l=[]
 ·have q1:lV (tgS x.l) = .nils:=by rw [e]; rfl
  have q2:lH (.cells (faC o)) (tgS x.l)=[.cells su0]:=by rw [e]; rfl
  have q3:(ownN (tgS x.l)).dv 32 dgC = .nils:=by rw [e]; rfl
  have q4:=q3
  rw [q3] at c0
  simp (disch:=first|omega|simp<;>omega|fail) [-zA,-zB,-zC,-zD,-zE,zqxw,ziva,h,h',q1,q2]
  refine zbn1 (V_W mix z6io ?_)
  simp (disch:=first|omega|simp<;>omega|fail) [-zA,-zB,-zC,-zD,-zE,q1,q2,zjnr,zg94]
  refine zbn1 ?_

  refine zbn1 (V_W mix z6io ?_)
  simp (disch:=first|omega|simp<;>omega|fail) [-zA,-zB,-zC,-zD,-zE,q1,q2,q4,hp,z94s,c0]
  refine z3mo (ztbr (S621 x n Y []) (fun a=>Y.l.length-a.i) (fun a=>a.i≤Y.l.length∧zdgi x.l n (Y.l.drop a.i) a.m=R) ⟨0,n⟩ (z515 (by simp (disch:=first|omega|simp<;>omega|fail) [-zA,-zB,-zC,-zD,-zE,S621,zx7a]) (by simp (disch:=first|omega|simp<;>omega|fail) [-zA,-zB,-zC,-zD,-zE,S621,zx7a])) ⟨by simp,by simpa using hR⟩ (fun a hi => ?_))
  obtain ⟨j,m⟩:=a
  obtain ⟨hj,hR⟩:=hi
  simp only at hj hR
  simp only [S621]
  by_cases h:j<Y.l.length
  ·have h':(j:Int)<Y.l.length:=by omega
   have hg : ∀ H,zpsc H 32 (Y.dv 32 dgC) j=some (.ref (dgC Y.l[j])):=fun H=>zalo z1t1 h
   obtain ⟨d,hd⟩ : ∃ d,Y.l[j]=d:=⟨_,rfl⟩
   rw [List.drop_eq_getElem_cons h,hd] at hR
   rw [hd] at hg
   have c1:cFct [x.dv 71 faC,.int .i64 5,.fn (.func 111) [] [.ref (dgC d)]]=_:=zek8 (x:=x) (k:=5) (s := .target d)
   have hfl:=zjru (l:=x.l) (k:=5) (s := .target d)
   have hfe:(ownN (zskr x.l 5 (.target d))).l=zskr x.l 5 (.target d):=zd8n (by omega)
   have c2:=zo6r (x:=ownN (zskr x.l 5 (.target d))) (n:=n) (by rw [hfe]; exact ok.e d)
   rw [hfe] at c2
   obtain ⟨e,he⟩ : ∃ e,zfyl (zskr x.l 5 (.target d)) n=e:=⟨_,rfl⟩
   unfold zdgi at hR
   rw [he] at hR c2
   refine zbn1 (V_W mix z6io ?_)
   simp (disch:=first|omega|simp<;>omega|fail) [-zA,-zB,-zC,-zD,-zE,zcf7,zx7a,h,h',hg]
   refine zbn1 (V_W mix z6io ?_)
   simp (disch:=first|omega|simp<;>omega|fail) [-zA,-zB,-zC,-zD,-zE]
   refine zbn1 (z3mo (zbn1 (V_W mix z6io ?_)))
   simp (disch:=first|omega|simp<;>omega|fail) [-zA,-zB,-zC,-zD,-zE,hg]
   refine V_mk (fun id=>decide (id≤1)) ?_
   simp (disch:=first|omega|simp<;>omega|fail) [-zA,-zB,-zC,-zD,-zE]
   refine V_W mix z6io ?_
   cases hh:e.holds with
   | true =>
    rw [if_pos hh] at hR
    subst hR
    simp (disch:=first|omega|simp<;>omega|fail) [-zA,-zB,-zC,-zD,-zE,z4sv,zp93,c1,c2,hh]
   | false =>
    rw [if_neg (by rw [hh]; simp)] at hR
    simp (disch:=first|omega|simp<;>omega|fail) [-zA,-zB,-zC,-zD,-zE,z4sv,zp93,c1,c2,hh,zvov]
    refine V_W mix z6io ?_
    simp (disch:=first|omega|simp<;>omega|fail) [-zA,-zB,-zC,-zD,-zE]
    exact ⟨⟨j+1,min m e.missing⟩,zju2 (tail:=[.dead,.cells (suC e)]) (by simp (disch:=first|omega|simp<;>omega|fail) [-zA,-zB,-zC,-zD,-zE,S621,zx7a]) (by simp (disch:=first|omega|simp<;>omega|fail) [-zA,-zB,-zC,-zD,-zE,S621,zx7a,zcc9]) (by simp) (by simp (disch:=first|omega|simp<;>omega|fail) [-zA,-zB,-zC,-zD,-zE,S621,zx7a,z1r6,Am.below]) (by simp (disch:=first|omega|simp<;>omega|fail) [-zA,-zB,-zC,-zD,-zE,S621,zx7a,zlf2,z1r6,Am.below,su0,zoxk,zmq5 _ _ (zp6k z3ot _),fl]),by simp only; omega,by simp only; omega,hR⟩
  ·have h':¬ (j:Int)<Y.l.length:=by omega
   rw [List.drop_of_length_le (by omega)] at hR
   have hR:zcc9 m=R:=hR
   refine zbn1 (V_W mix z6io ?_)
   simp (disch:=first|omega|simp<;>omega|fail) [-zA,-zB,-zC,-zD,-zE,zcf7,zx7a,h,h']
   refine zbn1 (V_W mix z6io ?_)
   simp (disch:=first|omega|simp<;>omega|fail) [-zA,-zB,-zC,-zD,-zE]
   refine V_W mix z6io ?_
   simp (disch:=first|omega|simp<;>omega|fail) [-zA,-zB,-zC,-zD,-zE,hR]

 ·have q1:=zi7d e
  have q2:=ziqb (o := .cells (faC o)) e
  have q4:=hk
  have q3:(ownN (tgS x.l)).dv 32 dgC = .sl false 32 (tgS x.l).length ((tgS x.l).flatMap dgC):=zgr3 e (by omega)
  rw [q3] at c0
  have hp:=zp6k z3ot (tgS x.l)
  have hl:=z1rq z1t1 (tgS x.l)
  have htk:((tgS x.l).flatMap dgC).take ((tgS x.l).length*32)=(tgS x.l).flatMap dgC:=List.take_of_length_le (by omega)
  have hsn : ∀ H j,z4tt H j ((tgS x.l).flatMap dgC)=some ((tgS x.l).flatMap dgC):=fun H j=>z619 hp
  simp (disch:=first|omega|simp<;>omega|fail) [-zA,-zB,-zC,-zD,-zE,zqxw,ziva,h,h',q1,q2]
  refine zbn1 (V_W mix z6io ?_)
  simp (disch:=first|omega|simp<;>omega|fail) [-zA,-zB,-zC,-zD,-zE,q1,q2,zjnr,zg94]
  refine V_mk (fun id=>decide (id=0∨id=3)) ?_
  simp (disch:=first|omega|simp<;>omega|fail) [-zA,-zB,-zC,-zD,-zE,fl,hl,htk,hp]
  refine zbn1 ?_

  refine zbn1 (V_W mix z6io ?_)
  simp (disch:=first|omega|simp<;>omega|fail) [-zA,-zB,-zC,-zD,-zE,q1,q2,q4,hp,z94s,c0]
  refine z3mo (ztbr (S621 x n Y [.dead,.dead]) (fun a=>Y.l.length-a.i) (fun a=>a.i≤Y.l.length∧zdgi x.l n (Y.l.drop a.i) a.m=R) ⟨0,n⟩ (z515 (by simp (disch:=first|omega|simp<;>omega|fail) [-zA,-zB,-zC,-zD,-zE,S621,zx7a]) (by simp (disch:=first|omega|simp<;>omega|fail) [-zA,-zB,-zC,-zD,-zE,S621,zx7a])) ⟨by simp,by simpa using hR⟩ (fun a hi => ?_))
  obtain ⟨j,m⟩:=a
  obtain ⟨hj,hR⟩:=hi
  simp only at hj hR
  simp only [S621]
  by_cases h:j<Y.l.length
  ·have h':(j:Int)<Y.l.length:=by omega
   have hg : ∀ H,zpsc H 32 (Y.dv 32 dgC) j=some (.ref (dgC Y.l[j])):=fun H=>zalo z1t1 h
   obtain ⟨d,hd⟩ : ∃ d,Y.l[j]=d:=⟨_,rfl⟩
   rw [List.drop_eq_getElem_cons h,hd] at hR
   rw [hd] at hg
   have c1:cFct [x.dv 71 faC,.int .i64 5,.fn (.func 111) [] [.ref (dgC d)]]=_:=zek8 (x:=x) (k:=5) (s := .target d)
   have hfl:=zjru (l:=x.l) (k:=5) (s := .target d)
   have hfe:(ownN (zskr x.l 5 (.target d))).l=zskr x.l 5 (.target d):=zd8n (by omega)
   have c2:=zo6r (x:=ownN (zskr x.l 5 (.target d))) (n:=n) (by rw [hfe]; exact ok.e d)
   rw [hfe] at c2
   obtain ⟨e,he⟩ : ∃ e,zfyl (zskr x.l 5 (.target d)) n=e:=⟨_,rfl⟩
   unfold zdgi at hR
   rw [he] at hR c2
   refine zbn1 (V_W mix z6io ?_)
   simp (disch:=first|omega|simp<;>omega|fail) [-zA,-zB,-zC,-zD,-zE,zcf7,zx7a,h,h',hg]
   refine zbn1 (V_W mix z6io ?_)
   simp (disch:=first|omega|simp<;>omega|fail) [-zA,-zB,-zC,-zD,-zE]
   refine zbn1 (z3mo (zbn1 (V_W mix z6io ?_)))
   simp (disch:=first|omega|simp<;>omega|fail) [-zA,-zB,-zC,-zD,-zE,hg]
   refine V_mk (fun id=>decide (id≤3)) ?_
   simp (disch:=first|omega|simp<;>omega|fail) [-zA,-zB,-zC,-zD,-zE]
   refine V_W mix z6io ?_
   cases hh:e.holds with
   | true =>
    rw [if_pos hh] at hR
    subst hR
    simp (disch:=first|omega|simp<;>omega|fail) [-zA,-zB,-zC,-zD,-zE,z4sv,zp93,c1,c2,hh]
   | false =>
    rw [if_neg (by rw [hh]; simp)] at hR
    simp (disch:=first|omega|simp<;>omega|fail) [-zA,-zB,-zC,-zD,-zE,z4sv,zp93,c1,c2,hh,zvov]
    refine V_W mix z6io ?_
    simp (disch:=first|omega|simp<;>omega|fail) [-zA,-zB,-zC,-zD,-zE]
    exact ⟨⟨j+1,min m e.missing⟩,zju2 (tail:=[.dead,.cells (suC e)]) (by simp (disch:=first|omega|simp<;>omega|fail) [-zA,-zB,-zC,-zD,-zE,S621,zx7a]) (by simp (disch:=first|omega|simp<;>omega|fail) [-zA,-zB,-zC,-zD,-zE,S621,zx7a,zcc9]) (by simp) (by simp (disch:=first|omega|simp<;>omega|fail) [-zA,-zB,-zC,-zD,-zE,S621,zx7a,z1r6,Am.below]) (by simp (disch:=first|omega|simp<;>omega|fail) [-zA,-zB,-zC,-zD,-zE,S621,zx7a,zlf2,z1r6,Am.below,su0,zoxk,zmq5 _ _ (zp6k z3ot _),fl]),by simp only; omega,by simp only; omega,hR⟩
  ·have h':¬ (j:Int)<Y.l.length:=by omega
   rw [List.drop_of_length_le (by omega)] at hR
   have hR:zcc9 m=R:=hR
   refine zbn1 (V_W mix z6io ?_)
   simp (disch:=first|omega|simp<;>omega|fail) [-zA,-zB,-zC,-zD,-zE,zcf7,zx7a,h,h']
   refine zbn1 (V_W mix z6io ?_)
   simp (disch:=first|omega|simp<;>omega|fail) [-zA,-zB,-zC,-zD,-zE]
   refine V_W mix z6io ?_
   simp (disch:=first|omega|simp<;>omega|fail) [-zA,-zB,-zC,-zD,-zE,hR]
noncomputable def zw0f:List DV→Option DV:=con (fun a:Sl Fct × Int=>ListOK a.1.l a.2) (fun a=>[a.1.dv 71 faC,.int .i64 a.2]) (fun a => .agg (suC (zf55 a.1.l a.2)))
theorem zu10 {x:Sl Fct} {n:Int} (h:ListOK x.l n):zw0f [x.dv 71 faC,.int .i64 n]=some (.agg (suC (zf55 x.l n))) :=
 zlyi (A:=fun a:Sl Fct × Int=>ListOK a.1.l a.2) (f:=fun a:Sl Fct × Int=>[a.1.dv 71 faC,.int .i64 a.2]) (g:=fun a => .agg (suC (zf55 a.1.l a.2))) (by
  rintro ⟨a,b⟩ ⟨c,d⟩ e
  simp only [List.cons.injEq,DV.int.injEq,and_true,true_and] at e
  rw [z4rf e.1,e.2]) (x,n) h
theorem ze60:(Con.pure zw0f).Sound P 73:=z2au fun a h=>znz9 Tryz.func73 zn06 (zgr9 a.1 a.2 h)
end Go.Proofs.YtdnhbfmlklaldaaGreat
set_option linter.unusedSimpArgs false
set_option linter.unusedVariables false
namespace Go.Proofs.YtdnhbfmlklaldaaGreat
open Go Go.Am
structure CkOK (c:Cas) (all:List Fct) (o:Org) (q:Req):Prop where
 e1:q.kind=1→EnOK (zskr c.f.l 1 (.same o)) q.n
 e3:q.kind=3→EnOK (zskr c.f.l 3 (.source o)) q.n
 e4:q.kind=4→RbOK (zskr c.f.l 4 (.source o)) (zskr all 4 (.source o)) q
 e5:q.kind=5→ListOK (zskr c.f.l 5 .every) q.n
 d : ∀ f ∈ c.f.l,f.docs.l.length≤1000
 e6:q.kind=6→InOK c.f.l (decS c.n.l q.n)
 s:SmN c.n.l
 dd:c.d.l.length≤1000000
 f:c.f.l.length≤1000000
 a:all.length≤1000000
noncomputable def T630:Tbl:=addT 68 (.pure cFct) (addT 69 (.pure cEn) (addT 70 (.pure cOne) (addT 72 (.pure cRbt) (addT 73 (.pure zw0f) (addT 74 (.pure zy0t) (addT 75 (.pure (cFnI (fun l=>l.length≤1000000) gOpn)) (addT 48 (.pure (cFnI SmN gDec)) (addT 78 (.pure cCon) tbl0))))))))
theorem zl70:T630 68 = .pure cFct:=by simp [T630]
theorem zy8r:T630 69 = .pure cEn:=by simp [T630]
theorem zquo:T630 70 = .pure cOne:=by simp [T630]
theorem z4pj:T630 72 = .pure cRbt:=by simp [T630]
theorem z3pd:T630 73 = .pure zw0f:=by simp [T630]
theorem zdvr:T630 74 = .pure zy0t:=by simp [T630]
theorem zsjb:T630 75 = .pure (cFnI (fun l=>l.length≤1000000) gOpn):=by simp [T630]
theorem zizn:T630 48 = .pure (cFnI SmN gDec):=by simp [T630]
theorem zjpv:T630 78 = .pure cCon:=by simp [T630]
theorem zbup:T630.Sound P:=z0rp zbp8 (z0rp zm5m (z0rp zso5 (z0rp zwd7 (z0rp ze60 (z0rp zwv1 (z0rp z2pr (z0rp zdlo (z0rp ztc6 zr5o))))))))
theorem zfae {l:List Fct} {k:Int} {s:Sel} (h:l.length≤1000000):(ownN (zskr l k s)).l=zskr l k s:=zd8n (by have:=zjru (l:=l) (k:=k) (s:=s); omega)
theorem z1si (c:Cas) (o:Org) (q:Req) (all:Sl Fct) (ok:CkOK c all.l o q):V P 0 a42.code (retK a42.res (.agg (suC (zvkf c c.f.l all.l o q)))) ⟨zr5g a42.ntmps [.agg (caC c),.agg (orC o),.agg (rqC q),all.dv 71 faC],[]⟩:=by
 refine zbn1 (V_W mix zbup ?_)
 simp (disch:=first|omega|simp<;>omega|fail) [-zA,-zB,-zC,-zD,-zE,a42]
 refine zbn1 (V_W mix zbup ?_)
 simp (disch:=first|omega|simp<;>omega|fail) [-zA,-zB,-zC,-zD,-zE]
 refine zbn1 (V_W mix zbup ?_)
 simp (disch:=first|omega|simp<;>omega|fail) [-zA,-zB,-zC,-zD,-zE]
 refine V_mk (fun id=>decide (id=3)) ?_
 simp (disch:=first|omega|simp<;>omega|fail) [-zA,-zB,-zC,-zD,-zE]
 refine V_W mix zbup ?_
 have hf:=ok.f
 have ha:=ok.a
 have c5:=zek8 (x:=c.f) (k:=5) (s := .every)
 have l5:=zfae (k:=5) (s := .every) hf
 simp only [Sel.dv,Sel.fid,Sel.cap] at c5
 by_cases e1:q.kind=1
 ·have k1:=zek8 (x:=c.f) (k:=1) (s := .same o)
  have k2:=zo6r (x:=ownN (zskr c.f.l 1 (.same o))) (n:=q.n) (by rw [zfae hf]; exact ok.e1 e1)
  rw [zfae hf] at k2
  simp only [Sel.dv,Sel.fid,Sel.cap] at k1
  have hr:zvkf c c.f.l all.l o q=zfyl (zskr c.f.l 1 (.same o)) q.n:=by unfold zvkf; rw [if_pos e1]
  simp (disch:=first|omega|simp<;>omega|fail) [-zA,-zB,-zC,-zD,-zE,zl70,zy8r,c5,k1,k2,e1,hr]
 by_cases e2:q.kind=2
 ·have k1:=zek8 (x:=c.f) (k:=2) (s := .chained o q)
  have k2:=zcl6 (x:=ownN (zskr c.f.l 2 (.chained o q))) (by rw [zfae hf]; exact fun f h=>ok.d f (zs6z.1 h).1)
  rw [zfae hf] at k2
  simp only [Sel.dv,Sel.fid,Sel.cap,smF] at k1
  have hr:zvkf c c.f.l all.l o q=oneS (zskr c.f.l 2 (.chained o q)):=by unfold zvkf; rw [if_neg e1,if_pos e2]
  simp (disch:=first|omega|simp<;>omega|fail) [-zA,-zB,-zC,-zD,-zE,zl70,zquo,c5,k1,k2,e1,e2,hr]
 by_cases e3:q.kind=3
 ·have k1:=zek8 (x:=c.f) (k:=3) (s := .source o)
  have k2:=zo6r (x:=ownN (zskr c.f.l 3 (.source o))) (n:=q.n) (by rw [zfae hf]; exact ok.e3 e3)
  rw [zfae hf] at k2
  simp only [Sel.dv,Sel.fid,Sel.cap] at k1
  have hr:zvkf c c.f.l all.l o q=zfyl (zskr c.f.l 3 (.source o)) q.n:=by unfold zvkf; rw [if_neg e1,if_neg e2,if_pos e3]
  simp (disch:=first|omega|simp<;>omega|fail) [-zA,-zB,-zC,-zD,-zE,zl70,zy8r,c5,k1,k2,e1,e2,e3,hr]
 by_cases e4:q.kind=4
 ·have k1:=zek8 (x:=c.f) (k:=4) (s := .source o)
  have k3:=zek8 (x:=all) (k:=4) (s := .source o)
  have k2:=zvpz (x:=ownN (zskr c.f.l 4 (.source o))) (y:=ownN (zskr all.l 4 (.source o))) (q:=q) (by rw [zfae hf,zfae ha]; exact ok.e4 e4)
  rw [zfae hf,zfae ha] at k2
  simp only [Sel.dv,Sel.fid,Sel.cap] at k1 k3
  have hr:zvkf c c.f.l all.l o q=zo4d (zskr c.f.l 4 (.source o)) (zskr all.l 4 (.source o)) q:=by unfold zvkf; rw [if_neg e1,if_neg e2,if_neg e3,if_pos e4]
  simp (disch:=first|omega|simp<;>omega|fail) [-zA,-zB,-zC,-zD,-zE,zl70,z4pj,c5,k1,k2,k3,e1,e2,e3,e4,hr]
 by_cases e5:q.kind=5
 ·have k2:=zu10 (x:=ownN (zskr c.f.l 5 .every)) (n:=q.n) (by rw [l5]; exact ok.e5 e5)
  rw [l5] at k2
  have hr:zvkf c c.f.l all.l o q=zf55 (zskr c.f.l 5 .every) q.n:=by unfold zvkf; rw [if_neg e1,if_neg e2,if_neg e3,if_neg e4,if_pos e5]
  simp (disch:=first|omega|simp<;>omega|fail) [-zA,-zB,-zC,-zD,-zE,zl70,z3pd,c5,k2,e1,e2,e3,e4,e5,hr]
 have inok : ∀ {y},InOK c.f.l y→InOK (zskr c.f.l 5 .every) y:=fun h f hf=>h f (zs6z.1 hf).1
 by_cases e6:q.kind=6
 ·have hd:=zdo9 (s:=q.n) ok.s.n ok.s.d
  have ho:(opL c.n.l q.n).length=(zcm1 c.n.l q.n).length:=List.length_map ..
  have hol:(zcm1 c.n.l q.n).length≤c.n.l.length:=List.length_filter_le _ _
  have hn:=ok.s.n
  have k1:cFnI (fun l=>l.length≤1000000) gOpn [c.n.dv 39 fnC,.int .i64 q.n]=some ((ownN (opL c.n.l q.n)).dv 39 fnC):=ze20 (A:=fun l=>l.length≤1000000) (g:=gOpn) (x:=c.n) (s:=q.n) (by show _≤_; omega)
  have k3:cFnI SmN gDec [c.n.dv 39 fnC,.int .i64 q.n]=some ((ownN (decS c.n.l q.n)).dv 32 dgC):=ze20 (g:=gDec) (x:=c.n) (s:=q.n) ok.s
  have hl : ∀ H,lenD H ((ownN (opL c.n.l q.n)).dv 39 fnC)=some (.int .i64 (zcm1 c.n.l q.n).length):=fun H=>by rw [zupj,zd8n (by omega),ho]
  have hdl:(ownN (decS c.n.l q.n)).l=decS c.n.l q.n:=zd8n (by omega)
  have k2:=z19c (x:=ownN (zskr c.f.l 5 .every)) (n:=(zcm1 c.n.l q.n).length) (y:=ownN (decS c.n.l q.n)) (by rw [l5,hdl]; exact inok (ok.e6 e6))
  rw [l5,hdl] at k2
  have hr:zvkf c c.f.l all.l o q=zpu0 (zskr c.f.l 5 .every) (zcm1 c.n.l q.n).length (decS c.n.l q.n):=by unfold zvkf; rw [if_neg e1,if_neg e2,if_neg e3,if_neg e4,if_neg e5,if_pos e6]
  simp (disch:=first|omega|simp<;>omega|fail) [-zA,-zB,-zC,-zD,-zE,zl70,zsjb,zizn,zdvr,c5,k1,k2,k3,hl,e1,e2,e3,e4,e5,e6,hr]
 by_cases e7:q.kind=7
 ·have k1:=zek8 (x:=c.f) (k:=1) (s := .fresh o c q)
  have k2:=zcl6 (x:=ownN (zskr c.f.l 1 (.fresh o c q))) (by rw [zfae hf]; exact fun f h=>ok.d f (zs6z.1 h).1)
  rw [zfae hf] at k2
  simp only [Sel.dv,Sel.fid,Sel.cap,smF] at k1
  have hr:zvkf c c.f.l all.l o q=oneS (zskr c.f.l 1 (.fresh o c q)):=by unfold zvkf; rw [if_neg e1,if_neg e2,if_neg e3,if_neg e4,if_neg e5,if_neg e6,if_pos e7]
  simp (disch:=first|omega|simp<;>omega|fail) [-zA,-zB,-zC,-zD,-zE,zl70,zquo,c5,k1,k2,e1,e2,e3,e4,e5,e6,e7,hr]
 ·have hn:=ok.s.n
  have hdd:=ok.dd
  have hc:=zcsy (l:=c.n.l) (i:=c.n.l.length)
  rw [List.take_length] at hc
  have hw:IntKind.i64.wrap (zu7t c.n.l+(c.d.l.length:Int))=zu7t c.n.l+c.d.l.length:=by rw [IntKind.wrap_i64]; omega
  have hl : ∀ H,lenD H (c.d.dv 1 stC)=some (.int .i64 c.d.l.length):=fun H=>zupj
  have k2:=z19c (x:=ownN (zskr c.f.l 5 .every)) (n:=zu7t c.n.l+c.d.l.length) (y:=nilS) (by rw [l5]; exact inok fun f hf=>by have:=ok.d f hf; simp only [zb11,List.length_nil]; omega)
  rw [l5] at k2
  have hnil:(nilS:Sl Dg).dv 32 dgC = .nils:=rfl
  rw [hnil,zb11] at k2
  have hr:zvkf c c.f.l all.l o q=zpu0 (zskr c.f.l 5 .every) (zu7t c.n.l+c.d.l.length) []:=by unfold zvkf; rw [if_neg e1,if_neg e2,if_neg e3,if_neg e4,if_neg e5,if_neg e6,if_neg e7]
  simp (disch:=first|omega|simp<;>omega|fail) [-zA,-zB,-zC,-zD,-zE,zl70,zjpv,zdvr,c5,zs4w,k2,hl,hw,e1,e2,e3,e4,e5,e6,e7,hr]
end Go.Proofs.YtdnhbfmlklaldaaGreat
set_option linter.unusedSimpArgs false
set_option linter.unusedVariables false
namespace Go.Proofs.YtdnhbfmlklaldaaGreat
open Go Go.Am
noncomputable def cChk:List DV→Option DV:=con (fun a:Cas × Org × Req × Sl Fct=>CkOK a.1 a.2.2.2.l a.2.1 a.2.2.1) (fun a=>[.agg (caC a.1),.agg (orC a.2.1),.agg (rqC a.2.2.1),a.2.2.2.dv 71 faC]) (fun a => .agg (suC (zvkf a.1 a.1.f.l a.2.2.2.l a.2.1 a.2.2.1)))
theorem zmhz {c:Cas} {o:Org} {q:Req} {all:Sl Fct} (h:CkOK c all.l o q):cChk [.agg (caC c),.agg (orC o),.agg (rqC q),all.dv 71 faC]=some (.agg (suC (zvkf c c.f.l all.l o q))) :=
 zlyi (A:=fun a:Cas × Org × Req × Sl Fct=>CkOK a.1 a.2.2.2.l a.2.1 a.2.2.1) (f:=fun a:Cas × Org × Req × Sl Fct=>[.agg (caC a.1),.agg (orC a.2.1),.agg (rqC a.2.2.1),a.2.2.2.dv 71 faC]) (g:=fun a => .agg (suC (zvkf a.1 a.1.f.l a.2.2.2.l a.2.1 a.2.2.1))) (by
  rintro ⟨a,b,c,d⟩ ⟨a',b',c',d'⟩ e
  simp only [List.cons.injEq,DV.agg.injEq,and_true] at e
  rw [zejx e.1,zc65 e.2.1,z82b e.2.2.1,z4rf e.2.2.2]) (c,o,q,all) h
theorem zjcs:(Con.pure cChk).Sound P 42:=z2au fun a h=>znz9 Tryz.func42 zl17 (z1si a.1 a.2.1 a.2.2.1 a.2.2.2 h)
noncomputable def T631:Tbl:=addT 41 (.pure cReq) (addT 42 (.pure cChk) tbl0)
theorem zcly:T631 41 = .pure cReq:=by simp [T631]
theorem zocb:T631 42 = .pure cChk:=by simp [T631]
theorem zjy9:T631.Sound P:=z0rp z8mz (z0rp zjcs zr5o)
theorem zkxe (c:Cas) (o:Org) (q:Req) (ok:reqB q=true→CkOK c c.f.l o q):Runs T631 a20 [.agg (caC c),.agg (orC o),.agg (rqC q)] (.agg (suC (zwwp c o q))):=by
 refine ⟨?_⟩
 cases hq:reqB q with
 | false =>
  have hr:zwwp c o q=supZ:=by unfold zwwp; rw [hq]; rfl
  have e:zvnk [.bool false,.nils,.int .i64 0] []=some (.agg (suC supZ)):=rfl
  simp (disch:=first|omega|simp<;>omega|fail) [-zA,-zB,-zC,-zD,-zE,a20,zcly,zc86,hq,hr,e]
 | true =>
  have hr:zwwp c o q=zvkf c c.f.l c.f.l o q:=by unfold zwwp; rw [hq]; rfl
  have k:=zmhz (ok hq)
  simp (disch:=first|omega|simp<;>omega|fail) [-zA,-zB,-zC,-zD,-zE,a20,zcly,zocb,zc86,hq,hr,k]
noncomputable def cChe:List DV→Option DV:=con (fun a:Cas × Org × Req=>reqB a.2.2=true→CkOK a.1 a.1.f.l a.2.1 a.2.2) (fun a=>[.agg (caC a.1),.agg (orC a.2.1),.agg (rqC a.2.2)]) (fun a => .agg (suC (zwwp a.1 a.2.1 a.2.2)))
theorem z1u0 {c:Cas} {o:Org} {q:Req} (h:reqB q=true→CkOK c c.f.l o q):cChe [.agg (caC c),.agg (orC o),.agg (rqC q)]=some (.agg (suC (zwwp c o q))) :=
 zlyi (A:=fun a:Cas × Org × Req=>reqB a.2.2=true→CkOK a.1 a.1.f.l a.2.1 a.2.2) (f:=fun a:Cas × Org × Req=>[.agg (caC a.1),.agg (orC a.2.1),.agg (rqC a.2.2)]) (g:=fun a => .agg (suC (zwwp a.1 a.2.1 a.2.2))) (by
  rintro ⟨a,b,c⟩ ⟨a',b',c'⟩ e
  simp only [List.cons.injEq,DV.agg.injEq,and_true] at e
  rw [zejx e.1,zc65 e.2.1,z82b e.2.2]) (c,o,q) h
theorem zl6h:(Con.pure cChe).Sound P 20:=z2au fun a h=>zljw mix zjy9 Tryz.func20 zfgm (zkxe a.1 a.2.1 a.2.2 h)
noncomputable def T632:Tbl:=addT 41 (.pure cReq) (addT 42 (.pure cChk) (addT 48 (.pure (cFnI SmN gDec)) (addT 47 (.pure cCf) (addT 50 (.new cNF) (addT 49 (.heap z10r) tbl0)))))
theorem z4at:T632 41 = .pure cReq:=by simp [T632]
theorem z44g:T632 42 = .pure cChk:=by simp [T632]
theorem zuwa:T632 48 = .pure (cFnI SmN gDec):=by simp [T632]
theorem z668:T632 47 = .pure cCf:=by simp [T632]
theorem zx98:T632 50 = .new cNF:=by simp [T632]
theorem z9db:T632 49 = .heap z10r:=by simp [T632]
theorem z912:T632.Sound P:=z0rp z8mz (z0rp zjcs (z0rp zdlo (z0rp zkac (z0rp zu1a (z0rp zoba zr5o)))))
def zcqw (c:Cas) (docs:List Dg):List Fct:=c.f.l.filter fun f=>subB f.docs.l docs
def z613 (c:Cas) (docs:List Dg):Sl Fct:=if c.f.l=[] then c.f.clone else ⟨some false,zcqw c docs,fun e=>by simp at e,by have:=c.f.b; have:=List.length_filter_le (fun f:Fct=>subB f.docs.l docs) c.f.l; unfold zcqw; omega⟩
theorem zke4 {c:Cas} {docs:List Dg}:(z613 c docs).l=zcqw c docs:=by
 unfold z613
 split
 ·rename_i e; unfold zcqw; rw [e]; exact e
 ·rfl
def zev9 (c:Cas) (docs:List Dg):Cas:={ c with f:=z613 c docs }
theorem zdv6 {c c':Cas} {fs all:List Fct} {o:Org} {q:Req} (h1:c'.at_=c.at_) (h2:c'.n=c.n) (h3:c'.d=c.d):zvkf c' fs all o q=zvkf c fs all o q:=by
 unfold zvkf
 rw [h2,h3]
 have:zskr fs 1 (.fresh o c' q)=zskr fs 1 (.fresh o c q):=by unfold zskr Sel.p; simp only [h1]
 rw [this]
structure ByOK (c:Cas) (o:Org) (q:Req) (docs:List Dg):Prop where
 k:CkOK (zev9 c docs) c.f.l o q
 s:SmN c.n.l
 f:c.f.l.length≤1000000
theorem zfzb {c:Cas} {v:DV}:zk7y (caC c) 33 [v]=dgC c.art++[.int .i64 c.at_,v,c.n.dv 39 fnC,c.d.dv 1 stC]:=by
 unfold zk7y
 rw [show (caC c).take 33=dgC c.art++[.int .i64 c.at_] from ?_,show (caC c).drop (33+[v].length)=[c.n.dv 39 fnC,c.d.dv 1 stC] from ?_]
 ·simp
 ·show (caC c).drop 34=_
  rw [show (34:Nat)=32+2 from rfl,← List.drop_drop,zak0]; rfl
 ·rw [caC,List.take_append,List.take_of_length_le (by rw [z1t1]; decide),z1t1]; rfl
theorem ca_f {c:Cas} {y:Sl Fct}:dgC c.art++[.int .i64 c.at_,y.dv 71 faC,c.n.dv 39 fnC,c.d.dv 1 stC]=caC { c with f:=y }:=rfl
theorem zqm6 {K:Nat→Bool} {h:List AObj} : ∀ {a b:List DV},mkL K h (a++b)=mkL K h a++mkL K h b
 | [],b=>rfl
 | d::r,b=>by rw [List.cons_append,mkL,mkL,zqm6,List.cons_append]
theorem zad8 {α:Type} {h:List AObj} {s:Nat} {f:α→List DV} {x:Sl α}:boxD h (x.dv s f)=some (.mp h.length 1 0,h++[.cells [x.dv s f]]):=by
 unfold boxD; rw [ztw5,if_pos rfl,zs9p]; rfl
attribute [simp] zad8
theorem zidb {x:Sl Dg}:zyp8 (x.dv 32 dgC)=true:=zpfc x
theorem zwvs {K:Nat→Bool} {h:List AObj} {k:Nat} {x:Sl Dg}:fzS K h k (x.dv 32 dgC)=some (x.dv 32 dgC):=zzxw (zpfc x)
attribute [simp] zidb zwvs
def zrbg:ACode:=match a22.code with
 | .seq _ (.seq _ (.seq _ y))=>y
 | _ => .skip
def fnM (docs:Sl Dg):DV := .fn (.func 45) [] [.ref [docs.dv 32 dgC]]
def bySt (c:Cas) (o:Org) (q:Req) (docs:Sl Dg):St:=⟨[.junk,.junk,.junk,.junk,.mp 0 36 0,.ref (orC o),.ref (rqC q),.ref [docs.dv 32 dgC],.bool false,.ref [fnM docs]]++js 32,[.cells (caC c),.dead,.dead,.dead,.dead]⟩
theorem zqk8 (c:Cas) (o:Org) (q:Req) (docs:Sl Dg) (k1:CkOK (zev9 c docs.l) c.f.l o q) (k3:c.f.l.length≤1000000):V P 0 zrbg (retK [.tmp 8] (.bool (zvkf (zev9 c docs.l) (zev9 c docs.l).f.l c.f.l o q).holds)) (bySt c o q docs):=by
 have hk:=zmhz k1
 obtain ⟨R,hR⟩ : ∃ R,zvkf (zev9 c docs.l) (zev9 c docs.l).f.l c.f.l o q=R:=⟨_,rfl⟩
 rw [hR] at hk ⊢
 have hpM:zbao [DV.ref [fnM docs]]=true:=by simp [fnM,zbao,zyp8]
 have dok:DFOK ⟨[.cells (caC c),.dead,.dead,.dead,.dead],[.ref [fnM docs]],.out docs,c.f⟩:=⟨fun X=>z619 hpM,zmq5 _ _ hpM,by simp [zlf2,zmq5 _ _ (zkih c)],k3⟩
 have h0:=zrkp (x:=c.f) (n:=5)
 have h1:=zo2w dok
 simp only [List.length_cons,List.length_nil,Nat.zero_add,Fp.fid] at h1
 simp only [zrbg,a22,bySt]
 refine zbn1 (V_W mix z912 ?_)
 simp (disch:=first|omega|simp<;>omega|fail) [-zA,-zB,-zC,-zD,-zE]
 refine zbn1 (V_W mix z912 ?_)
 by_cases e:c.f.l=[]
 ·have hl:z613 c docs.l=c.f.clone:=if_pos e
  rw [zpj6 e,e,z7sv] at h0
  rw [zpj6 e,dlD,if_pos e,e,z7sv,zy6r,z7sv,List.append_nil] at h1
  have hs : ∀ H:List AObj,zy6o H 0 1 33 (c.f.clone.dv 71 faC) (some (caC c))=some (.junk,H.set 0 (.cells (caC (zev9 c docs.l)))):=fun H=>by
   rw [zltg (zs9p _) (z4ja _) (by rw [zt8w]; decide),zfzb,ca_f,zev9,hl]
  simp (disch:=first|omega|simp<;>omega|fail) [-zA,-zB,-zC,-zD,-zE,zx98,z9db,h0,h1,hs]
  refine V_mk (fun _=>false) ?_
  simp (disch:=first|omega|simp<;>omega|fail) [-zA,-zB,-zC,-zD,-zE]
  refine V_W mix z912 ?_
  simp (disch:=first|omega|simp<;>omega|fail) [-zA,-zB,-zC,-zD,-zE,z44g,hk]
 ·have hkp:kp (Fp.out docs).p c.f.l=zcqw c docs.l:=by
   unfold kp zcqw
   congr 1
   funext f
   simp [Fp.p]
  have hl:(z613 c docs.l).dv 71 faC = .sl false 71 (zcqw c docs.l).length ((zcqw c docs.l).flatMap faC):=by
   unfold z613; rw [if_neg e]; rfl
  have hd:=z8wb (p:=(Fp.out docs).p) (z:=fct0) e
  obtain ⟨D,hD⟩ : ∃ D,delO fct0 (Fp.out docs).p c.f.l=D:=⟨_,rfl⟩
  have hDl:D.length=c.f.l.length:=by rw [← hD]; exact zwda _ _
  have hDt:(fl faC D).take ((zcqw c docs.l).length*71)=(zcqw c docs.l).flatMap faC:=by rw [z590 zs77,← hD,← hkp,zgcl]
  rw [z2ra e,zsqo e] at h0
  rw [z2ra e,dlD,if_neg e,zsqo e,zsqo hd,hD,hkp] at h1
  simp only [List.cons_append,List.nil_append] at h1
  obtain ⟨n,hn⟩ : ∃ n,c.f.l.length=n:=⟨_,rfl⟩
  rw [hn] at h0 h1 hDl
  have hfl:(fl faC D).length=n*71:=by rw [z8lx zs77,hDl]
  have hs : ∀ H:List AObj,zy6o H 0 1 33 (.ms 5 (n*71) 0 71 (zcqw c docs.l).length (n*71)) (some (caC c))=some (.junk,H.set 0 (.cells (dgC c.art++[.int .i64 c.at_,.ms 5 (n*71) 0 71 (zcqw c docs.l).length (n*71),c.n.dv 39 fnC,c.d.dv 1 stC]))):=fun H=>by
   rw [zltg rfl rfl (by rw [zt8w]; decide),zfzb]
  have hca:dgC c.art++[.int .i64 c.at_,.sl false 71 (zcqw c docs.l).length ((zcqw c docs.l).flatMap faC),c.n.dv 39 fnC,c.d.dv 1 stC]=caC (zev9 c docs.l):=by rw [← hl]; rfl
  have hp:=zp6k z93p (zcqw c docs.l)
  have hpd:=fun K H=>zrip (K:=K) (h:=H) (z3ot c.art)
  simp (disch:=first|omega|simp<;>omega|fail) [-zA,-zB,-zC,-zD,-zE,zx98,z9db,h0,h1,hs]
  refine V_mk (fun id=>decide (id=0)) ?_
  simp (disch:=first|omega|simp<;>omega|fail) [-zA,-zB,-zC,-zD,-zE,zqm6,hpd,hfl,hDt,hp,hca]
  refine V_W mix z912 ?_
  simp (disch:=first|omega|simp<;>omega|fail) [-zA,-zB,-zC,-zD,-zE,z44g,hk]
theorem zv4n (c:Cas) (o:Org) (q:Req) (docs:Sl Dg) (ok:reqB q=true→ByOK c o q docs.l):V P 0 a22.code (retK a22.res (.bool (ByS c o q docs.l))) ⟨zr5g a22.ntmps [.agg (caC c),.agg (orC o),.agg (rqC q),docs.dv 32 dgC],[]⟩:=by
 refine zbn1 (V_W mix z912 ?_)
 simp (disch:=first|omega|simp<;>omega|fail) [-zA,-zB,-zC,-zD,-zE,a22]
 refine zbn1 (V_W mix z912 ?_)
 simp (disch:=first|omega|simp<;>omega|fail) [-zA,-zB,-zC,-zD,-zE]
 refine V_mk (fun id=>decide (id=0)) ?_
 simp (disch:=first|omega|simp<;>omega|fail) [-zA,-zB,-zC,-zD,-zE]
 refine zbn1 (V_W mix z912 ?_)
 cases hq:reqB q with
 | false =>
  have hr:ByS c o q docs.l=false:=by unfold ByS; rw [hq]; rfl
  simp (disch:=first|omega|simp<;>omega|fail) [-zA,-zB,-zC,-zD,-zE,z4at,zc86,hq,hr]
 | true =>
 obtain ⟨k1,k2,k3⟩:=ok hq
 have k4:cFnI SmN gDec [c.n.dv 39 fnC,.int .i64 q.n]=some ((ownN (decS c.n.l q.n)).dv 32 dgC):=ze20 (g:=gDec) (x:=c.n) (s:=q.n) k2
 have hdl:(ownN (decS c.n.l q.n)).l=decS c.n.l q.n:=zd8n (by have:=zdo9 (s:=q.n) k2.n k2.d; omega)
 have k5:=z8o6 (x:=ownN (decS c.n.l q.n)) (q:=docs)
 rw [hdl] at k5
 simp only [zd09] at k5
 have hb:ByS c o q docs.l=((!decide (q.kind=6)||subB (decS c.n.l q.n) docs.l)&&(zvkf (zev9 c docs.l) (zev9 c docs.l).f.l c.f.l o q).holds):=by
  unfold ByS
  rw [hq,Bool.true_and,zdv6 (c':=zev9 c docs.l) (c:=c) rfl rfl rfl,show (zev9 c docs.l).f.l=zcqw c docs.l from zke4]
  rfl
 have tail:=zqk8 c o q docs k1 k3
 by_cases e6:q.kind=6
 ·cases hs:subB (decS c.n.l q.n) docs.l with
  | false =>
   have hr:ByS c o q docs.l=false:=by rw [hb,hs]; simp [e6]
   simp (disch:=first|omega|simp<;>omega|fail) [-zA,-zB,-zC,-zD,-zE,z4at,zuwa,z668,zc86,hq,e6,hs,k4,k5,hr]
  | true =>
   have hr:ByS c o q docs.l=(zvkf (zev9 c docs.l) (zev9 c docs.l).f.l c.f.l o q).holds:=by rw [hb,hs]; simp
   rw [hr]
   simp (disch:=first|omega|simp<;>omega|fail) [-zA,-zB,-zC,-zD,-zE,z4at,zuwa,z668,zc86,hq,e6,hs,k4,k5]
   exact zqfd (z515 (by simp (disch:=first|omega|simp<;>omega|fail) [-zA,-zB,-zC,-zD,-zE,bySt,fnM]) rfl) tail
 ·have hr:ByS c o q docs.l=(zvkf (zev9 c docs.l) (zev9 c docs.l).f.l c.f.l o q).holds:=by rw [hb]; simp [e6]
  rw [hr]
  simp (disch:=first|omega|simp<;>omega|fail) [-zA,-zB,-zC,-zD,-zE,z4at,zuwa,z668,zc86,hq,e6,k4,k5]
  exact zqfd (z515 (by simp (disch:=first|omega|simp<;>omega|fail) [-zA,-zB,-zC,-zD,-zE,bySt,fnM]) rfl) tail
noncomputable def cBy:List DV→Option DV:=con (fun a:Cas × Org × Req × Sl Dg=>reqB a.2.2.1=true→ByOK a.1 a.2.1 a.2.2.1 a.2.2.2.l) (fun a=>[.agg (caC a.1),.agg (orC a.2.1),.agg (rqC a.2.2.1),a.2.2.2.dv 32 dgC]) (fun a => .bool (ByS a.1 a.2.1 a.2.2.1 a.2.2.2.l))
theorem z33l {c:Cas} {o:Org} {q:Req} {docs:Sl Dg} (h:reqB q=true→ByOK c o q docs.l):cBy [.agg (caC c),.agg (orC o),.agg (rqC q),docs.dv 32 dgC]=some (.bool (ByS c o q docs.l)) :=
 zlyi (A:=fun a:Cas × Org × Req × Sl Dg=>reqB a.2.2.1=true→ByOK a.1 a.2.1 a.2.2.1 a.2.2.2.l) (f:=fun a:Cas × Org × Req × Sl Dg=>[.agg (caC a.1),.agg (orC a.2.1),.agg (rqC a.2.2.1),a.2.2.2.dv 32 dgC]) (g:=fun a => .bool (ByS a.1 a.2.1 a.2.2.1 a.2.2.2.l)) (by
  rintro ⟨a,b,c,d⟩ ⟨a',b',c',d'⟩ e
  simp only [List.cons.injEq,DV.agg.injEq,and_true] at e
  rw [zejx e.1,zc65 e.2.1,z82b e.2.2.1,z42k e.2.2.2]) (c,o,q,docs) h
theorem zg7u:(Con.pure cBy).Sound P 22:=z2au fun a h=>znz9 Tryz.func22 zi98 (zv4n a.1 a.2.1 a.2.2.1 a.2.2.2 h)
end Go.Proofs.YtdnhbfmlklaldaaGreat
set_option linter.unusedSimpArgs false
set_option linter.unusedVariables false
namespace Go.Proofs.YtdnhbfmlklaldaaGreat
open Go Go.Am
def a14:AFn where
 code:=(.seq (.region false [⟨none,(some 0),.mov (.k (.bool false))⟩])
 (.seq (.region false [⟨none,(some 6),.build (rep 32 (w8 0#8)) [(0,1,(.k (w8 1#8)))]⟩,
  ⟨none,(some 7),.build [(w8 0#8),(w8 0#8),(w8 0#8),(w8 0#8),(w8 0#8),(w8 0#8),(w8 0#8),(w8 0#8),(w8 0#8),(w8 0#8),(w8 0#8),(w8 0#8),(w8 0#8),(w8 0#8),(w8 0#8),(w8 0#8),(w8 0#8),(w8 0#8),(w8 0#8),(w8 0#8),(w8 0#8),(w8 0#8),(w8 0#8),(w8 0#8),(w8 0#8),(w8 0#8),(w8 0#8),(w8 0#8),(w8 0#8),(w8 0#8),(w8 0#8),(w8 0#8),(.str []),(.str [])] [(0,32,(.t 6)),(32,1,(.k (.str [108]))),(33,1,(.k (.str [114])))]⟩,
  ⟨none,(some 1),.alloc [(w8 0#8),(w8 0#8),(w8 0#8),(w8 0#8),(w8 0#8),(w8 0#8),(w8 0#8),(w8 0#8),(w8 0#8),(w8 0#8),(w8 0#8),(w8 0#8),(w8 0#8),(w8 0#8),(w8 0#8),(w8 0#8),(w8 0#8),(w8 0#8),(w8 0#8),(w8 0#8),(w8 0#8),(w8 0#8),(w8 0#8),(w8 0#8),(w8 0#8),(w8 0#8),(w8 0#8),(w8 0#8),(w8 0#8),(w8 0#8),(w8 0#8),(w8 0#8),(.str []),(.str [])]⟩,
  ⟨none,none,.store 34 (.t 1) (.t 7)⟩])
 (.seq (.region false [⟨none,(some 8),.build (rep 32 (w8 0#8)) [(0,1,(.k (w8 1#8)))]⟩,
  ⟨none,(some 9),.build (rep 32 (w8 0#8)) [(0,1,(.k (w8 7#8)))]⟩,
  ⟨none,(some 10),.bsl 32 1 (rep 32 (w8 0#8)) [(0,32,(.t 9))]⟩,
  ⟨none,(some 11),.build [(.int .i64 0),(.str []),(w8 0#8),(w8 0#8),(w8 0#8),(w8 0#8),(w8 0#8),(w8 0#8),(w8 0#8),(w8 0#8),(w8 0#8),(w8 0#8),(w8 0#8),(w8 0#8),(w8 0#8),(w8 0#8),(w8 0#8),(w8 0#8),(w8 0#8),(w8 0#8),(w8 0#8),(w8 0#8),(w8 0#8),(w8 0#8),(w8 0#8),(w8 0#8),(w8 0#8),(w8 0#8),(w8 0#8),(w8 0#8),(w8 0#8),(w8 0#8),(w8 0#8),(w8 0#8),(.str []),(.str []),(.int .i64 0),(.bool false),(w8 0#8),(w8 0#8),(w8 0#8),(w8 0#8),(w8 0#8),(w8 0#8),(w8 0#8),(w8 0#8),(w8 0#8),(w8 0#8),(w8 0#8),(w8 0#8),(w8 0#8),(w8 0#8),(w8 0#8),(w8 0#8),(w8 0#8),(w8 0#8),(w8 0#8),(w8 0#8),(w8 0#8),(w8 0#8),(w8 0#8),(w8 0#8),(w8 0#8),(w8 0#8),(w8 0#8),(w8 0#8),(w8 0#8),(w8 0#8),(w8 0#8),(w8 0#8),.nils] [(0,1,(.k (.int .i64 1))),(1,1,(.k (.str [98]))),(2,32,(.t 8)),(34,1,(.k (.str [108]))),(35,1,(.k (.str [114]))),(36,1,(.k (.int .i64 5))),(70,1,(.t 10))]⟩,
  ⟨none,(some 12),.build (rep 32 (w8 0#8)) [(0,1,(.k (w8 1#8)))]⟩,
  ⟨none,(some 13),.build (rep 32 (w8 0#8)) [(0,1,(.k (w8 6#8)))]⟩,
  ⟨none,(some 14),.bsl 32 1 (rep 32 (w8 0#8)) [(0,32,(.t 13))]⟩,
  ⟨none,(some 15),.build [(.int .i64 0),(.str []),(w8 0#8),(w8 0#8),(w8 0#8),(w8 0#8),(w8 0#8),(w8 0#8),(w8 0#8),(w8 0#8),(w8 0#8),(w8 0#8),(w8 0#8),(w8 0#8),(w8 0#8),(w8 0#8),(w8 0#8),(w8 0#8),(w8 0#8),(w8 0#8),(w8 0#8),(w8 0#8),(w8 0#8),(w8 0#8),(w8 0#8),(w8 0#8),(w8 0#8),(w8 0#8),(w8 0#8),(w8 0#8),(w8 0#8),(w8 0#8),(w8 0#8),(w8 0#8),(.str []),(.str []),(.int .i64 0),(.bool false),(w8 0#8),(w8 0#8),(w8 0#8),(w8 0#8),(w8 0#8),(w8 0#8),(w8 0#8),(w8 0#8),(w8 0#8),(w8 0#8),(w8 0#8),(w8 0#8),(w8 0#8),(w8 0#8),(w8 0#8),(w8 0#8),(w8 0#8),(w8 0#8),(w8 0#8),(w8 0#8),(w8 0#8),(w8 0#8),(w8 0#8),(w8 0#8),(w8 0#8),(w8 0#8),(w8 0#8),(w8 0#8),(w8 0#8),(w8 0#8),(w8 0#8),(w8 0#8),.nils] [(0,1,(.k (.int .i64 1))),(1,1,(.k (.str [97]))),(2,32,(.t 12)),(34,1,(.k (.str [108]))),(35,1,(.k (.str [114]))),(36,1,(.k (.int .i64 5))),(70,1,(.t 14))]⟩,
  ⟨none,(some 16),.bsl 71 2 [(.int .i64 0),(.str []),(w8 0#8),(w8 0#8),(w8 0#8),(w8 0#8),(w8 0#8),(w8 0#8),(w8 0#8),(w8 0#8),(w8 0#8),(w8 0#8),(w8 0#8),(w8 0#8),(w8 0#8),(w8 0#8),(w8 0#8),(w8 0#8),(w8 0#8),(w8 0#8),(w8 0#8),(w8 0#8),(w8 0#8),(w8 0#8),(w8 0#8),(w8 0#8),(w8 0#8),(w8 0#8),(w8 0#8),(w8 0#8),(w8 0#8),(w8 0#8),(w8 0#8),(w8 0#8),(.str []),(.str []),(.int .i64 0),(.bool false),(w8 0#8),(w8 0#8),(w8 0#8),(w8 0#8),(w8 0#8),(w8 0#8),(w8 0#8),(w8 0#8),(w8 0#8),(w8 0#8),(w8 0#8),(w8 0#8),(w8 0#8),(w8 0#8),(w8 0#8),(w8 0#8),(w8 0#8),(w8 0#8),(w8 0#8),(w8 0#8),(w8 0#8),(w8 0#8),(w8 0#8),(w8 0#8),(w8 0#8),(w8 0#8),(w8 0#8),(w8 0#8),(w8 0#8),(w8 0#8),(w8 0#8),(w8 0#8),.nils] [(0,71,(.t 11)),(71,71,(.t 15))]⟩,
  ⟨none,(some 17),.build [(w8 0#8),(w8 0#8),(w8 0#8),(w8 0#8),(w8 0#8),(w8 0#8),(w8 0#8),(w8 0#8),(w8 0#8),(w8 0#8),(w8 0#8),(w8 0#8),(w8 0#8),(w8 0#8),(w8 0#8),(w8 0#8),(w8 0#8),(w8 0#8),(w8 0#8),(w8 0#8),(w8 0#8),(w8 0#8),(w8 0#8),(w8 0#8),(w8 0#8),(w8 0#8),(w8 0#8),(w8 0#8),(w8 0#8),(w8 0#8),(w8 0#8),(w8 0#8),(.int .i64 0),.nils,.nils,.nils] [(32,1,(.k (.int .i64 9))),(33,1,(.t 16))]⟩,
  ⟨none,(some 2),.alloc [(w8 0#8),(w8 0#8),(w8 0#8),(w8 0#8),(w8 0#8),(w8 0#8),(w8 0#8),(w8 0#8),(w8 0#8),(w8 0#8),(w8 0#8),(w8 0#8),(w8 0#8),(w8 0#8),(w8 0#8),(w8 0#8),(w8 0#8),(w8 0#8),(w8 0#8),(w8 0#8),(w8 0#8),(w8 0#8),(w8 0#8),(w8 0#8),(w8 0#8),(w8 0#8),(w8 0#8),(w8 0#8),(w8 0#8),(w8 0#8),(w8 0#8),(w8 0#8),(.int .i64 0),.nils,.nils,.nils]⟩,
  ⟨none,none,.store 36 (.t 2) (.t 17)⟩])
 (.seq (.region false [⟨none,(some 18),.load 36 true (.t 2)⟩,
  ⟨none,(some 19),.load 34 true (.t 1)⟩,
  ⟨none,(some 20),.build [(.int .i64 0),(.int .i64 0),(.int .i64 0),(.str [])] [(0,1,(.k (.int .i64 1))),(1,1,(.k (.int .i64 2)))]⟩,
  ⟨none,(some 21),.call (.k (.fn (.func 20) [] [])) [(.t 18),(.t 19),(.t 20)]⟩,
  ⟨none,(some 3),.alloc [(.bool false),.nils,(.int .i64 0)]⟩,
  ⟨none,none,.store 3 (.t 3) (.t 21)⟩])
 (.seq (.region false [⟨none,(some 22),.load 36 true (.t 2)⟩,
  ⟨none,(some 23),.load 34 true (.t 1)⟩,
  ⟨none,(some 24),.build [(.int .i64 0),(.int .i64 0),(.int .i64 0),(.str [])] [(0,1,(.k (.int .i64 1))),(1,1,(.k (.int .i64 3)))]⟩,
  ⟨none,(some 25),.call (.k (.fn (.func 20) [] [])) [(.t 22),(.t 23),(.t 24)]⟩,
  ⟨none,(some 4),.alloc [(.bool false),.nils,(.int .i64 0)]⟩,
  ⟨none,none,.store 3 (.t 4) (.t 25)⟩])
 (.seq (.region false [⟨none,(some 26),.load 36 true (.t 2)⟩,
  ⟨none,(some 27),.call (.k (.fn (.func 18) [] [])) [(.t 26)]⟩,
  ⟨none,(some 5),.mov (.t 27)⟩])
 (.seq (.region true [⟨none,(some 28),.fld 0 (.t 3)⟩,
  ⟨none,(some 29),.load 1 false (.t 28)⟩,
  ⟨none,(some 30),.mov (.t 29)⟩,
  ⟨(some (30,true)),(some 31),.fld 1 (.t 3)⟩,
  ⟨(some (30,true)),(some 32),.load 1 false (.t 31)⟩,
  ⟨(some (30,true)),(some 33),.len (.t 32)⟩,
  ⟨(some (30,true)),(some 34),.bin .eql (.t 33) (.k (.int .i64 2))⟩,
  ⟨none,(some 35),.pick (.t 30) (.t 34) (.k (.bool false))⟩,
  ⟨none,(some 36),.mov (.t 35)⟩,
  ⟨(some (36,true)),(some 37),.fld 0 (.t 4)⟩,
  ⟨(some (36,true)),(some 38),.load 1 false (.t 37)⟩,
  ⟨(some (36,true)),(some 39),.un .not (.t 38)⟩,
  ⟨none,(some 40),.pick (.t 36) (.t 39) (.k (.bool false))⟩,
  ⟨none,(some 41),.mov (.t 40)⟩,
  ⟨(some (41,true)),(some 42),.fld 2 (.t 4)⟩,
  ⟨(some (41,true)),(some 43),.load 1 false (.t 42)⟩,
  ⟨(some (41,true)),(some 44),.bin .eql (.t 43) (.k (.int .i64 1))⟩,
  ⟨none,(some 45),.pick (.t 41) (.t 44) (.k (.bool false))⟩,
  ⟨none,(some 46),.mov (.t 45)⟩,
  ⟨(some (46,true)),(some 47),.mov (.t 5)⟩,
  ⟨(some (46,true)),(some 48),.len (.t 47)⟩,
  ⟨(some (46,true)),(some 49),.bin .eql (.t 48) (.k (.int .i64 1))⟩,
  ⟨none,(some 50),.pick (.t 46) (.t 49) (.k (.bool false))⟩,
  ⟨none,(some 51),.mov (.t 50)⟩,
  ⟨(some (51,true)),(some 52),.mov (.t 5)⟩,
  ⟨(some (51,true)),(some 53),.idxS 34 (.t 52) (.k (.int .i64 0))⟩,
  ⟨(some (51,true)),(some 54),.load 34 true (.t 53)⟩,
  ⟨(some (51,true)),(some 55),.load 34 true (.t 1)⟩,
  ⟨(some (51,true)),(some 56),.eqa false [(32,0),(2,1)] (.t 54) (.t 55)⟩,
  ⟨none,(some 57),.pick (.t 51) (.t 56) (.k (.bool false))⟩,
  ⟨none,(some 58),.mov (.t 57)⟩,
  ⟨(some (58,true)),(some 59),.load 36 true (.t 2)⟩,
  ⟨(some (58,true)),(some 60),.load 34 true (.t 1)⟩,
  ⟨(some (58,true)),(some 61),.build [(.int .i64 0),(.int .i64 0),(.int .i64 0),(.str [])] [(0,1,(.k (.int .i64 7))),(1,1,(.k (.int .i64 4)))]⟩,
  ⟨(some (58,true)),(some 62),.build (rep 32 (w8 0#8)) [(0,1,(.k (w8 6#8)))]⟩,
  ⟨(some (58,true)),(some 63),.bsl 32 1 (rep 32 (w8 0#8)) [(0,32,(.t 62))]⟩,
  ⟨(some (58,true)),(some 64),.callN (.k (.fn (.func 22) [] [])) [(.t 59),(.t 60),(.t 61),(.t 63)]⟩,
  ⟨none,(some 65),.pick (.t 58) (.t 64) (.k (.bool false))⟩,
  ⟨none,(some 0),.mov (.t 65)⟩])
 .ret)))))))
 ntmps:=66
 res:=[.tmp 0]
theorem zzfl:zsjc P Tryz.f14=some a14:=by kernel_rfl
def zlo9:ACode :=
 (.seq (.region false [⟨none,(some 9),.bin .lss (.t 8) (.t 7)⟩])
 (.seq (.cond (.t 9) .skip
 (.exit 0))
 (.seq (.block 1 (.seq (.region false [⟨none,(some 10),.idxS 1 (.t 6) (.t 8)⟩,
  ⟨none,(some 11),.load 1 false (.t 10)⟩,
  ⟨none,(some 5),.mov (.t 11)⟩])
 (.seq (.region false [⟨none,(some 12),.mov (.t 5)⟩,
  ⟨none,(some 13),.mov (.t 3)⟩,
  ⟨none,(some 14),.bin .neq (.t 12) (.t 13)⟩])
 (.cond (.t 14) (.seq (.region false [⟨none,(some 15),.mov (.t 5)⟩,
  ⟨none,(some 2),.mov (.t 15)⟩])
 .ret)
 .skip))))
 (.region false [⟨none,(some 16),.bin .add (.t 8) (.k (.int .i64 1))⟩,
  ⟨none,(some 8),.mov (.t 16)⟩]))))
def zp5l (x3 x6 x7 x8:DV) (h:List AObj):St:=⟨[.junk,.junk,.junk,x3,.junk,.junk,x6,x7,x8]++js 9,h⟩
def a36:AFn where
 code:=(.seq (.region false [⟨none,(some 2),.mov (.k (.int .i64 0))⟩])
 (.seq (.region false [⟨none,(some 3),.mov (.k (.int .i64 0))⟩])
 (.seq (.seq (.region false [⟨none,(some 6),.mov (.t 0)⟩,
  ⟨none,(some 7),.len (.t 6)⟩,
  ⟨none,(some 8),.mov (.k (.int .i64 0))⟩])
 (.block 0 (.loop zlo9)))
 (.seq (.region false [⟨none,(some 17),.mov (.t 3)⟩,
  ⟨none,(some 2),.mov (.t 17)⟩])
 .ret))))
 ntmps:=18
 res:=[.tmp 2]
theorem zj68:zsjc P Tryz.f36=some a36:=by kernel_rfl
def a38:AFn where
 code:=(.seq (.region false [⟨none,(some 4),.mov (.k (.int .i64 0))⟩])
 (.seq (.region false [⟨none,(some 7),.mov (.t 0)⟩,
  ⟨none,(some 8),.call (.k (.fn (.func 63) [] [])) [(.t 7)]⟩,
  ⟨none,(some 5),.mov (.t 8)⟩])
 (.seq (.region false [⟨none,(some 9),.mov (.t 1)⟩,
  ⟨none,(some 10),.call (.k (.fn (.func 63) [] [])) [(.t 9)]⟩,
  ⟨none,(some 6),.mov (.t 10)⟩])
 (.seq (.seq (.region false [⟨none,(some 11),.mov (.t 5)⟩])
 (.cond (.t 11) (.seq (.seq (.region false [⟨none,(some 12),.mov (.t 6)⟩])
 (.cond (.t 12) (.seq (.region false [⟨none,(some 4),.mov (.k (.int .i64 0))⟩])
 .ret)
 .skip))
 (.seq (.region false [⟨none,(some 4),.mov (.k (.int .i64 (-1)))⟩])
 .ret))
 .skip))
 (.seq (.seq (.region false [⟨none,(some 13),.mov (.t 6)⟩])
 (.cond (.t 13) (.seq (.region false [⟨none,(some 4),.mov (.k (.int .i64 1))⟩])
 .ret)
 .skip))
 (.seq (.seq (.region false [⟨none,(some 14),.mov (.t 0)⟩,
  ⟨none,(some 15),.mov (.t 1)⟩,
  ⟨none,(some 16),.bin .lss (.t 14) (.t 15)⟩])
 (.cond (.t 16) (.seq (.region false [⟨none,(some 4),.mov (.k (.int .i64 (-1)))⟩])
 .ret)
 .skip))
 (.seq (.seq (.region false [⟨none,(some 17),.mov (.t 0)⟩,
  ⟨none,(some 18),.mov (.t 1)⟩,
  ⟨none,(some 19),.bin .gtr (.t 17) (.t 18)⟩])
 (.cond (.t 19) (.seq (.region false [⟨none,(some 4),.mov (.k (.int .i64 1))⟩])
 .ret)
 .skip))
 (.seq (.region false [⟨none,(some 4),.mov (.k (.int .i64 0))⟩])
 .ret))))))))
 ntmps:=20
 res:=[.tmp 4]
theorem zclx:zsjc P Tryz.f38=some a38:=by kernel_rfl
def z9mq:ACode :=
 (.seq (.seq (.region false [⟨none,(some 29),.mov (.t 5)⟩,
  ⟨none,(some 30),.mov (.t 4)⟩,
  ⟨none,(some 31),.len (.t 30)⟩,
  ⟨none,(some 32),.bin .lss (.t 29) (.t 31)⟩])
 (.cond (.t 32) .skip
 (.exit 2)))
 (.seq (.block 3 (.seq (.region true [⟨none,(some 35),.mov (.t 4)⟩,
  ⟨none,(some 36),.mov (.t 5)⟩,
  ⟨none,(some 37),.idxS 34 (.t 35) (.t 36)⟩,
  ⟨none,(some 38),.load 34 true (.t 37)⟩,
  ⟨none,(some 39),.mov (.t 4)⟩,
  ⟨none,(some 40),.mov (.t 5)⟩,
  ⟨none,(some 41),.bin .sub (.t 40) (.k (.int .i64 1))⟩,
  ⟨none,(some 42),.idxS 34 (.t 39) (.t 41)⟩,
  ⟨none,(some 43),.load 34 true (.t 42)⟩,
  ⟨none,(some 44),.eqa true [(32,0),(2,1)] (.t 38) (.t 43)⟩])
 (.cond (.t 44) (.seq (.region false [⟨none,(some 45),.mov (.t 0)⟩,
  ⟨none,(some 46),.mov (.t 3)⟩,
  ⟨none,(some 47),.mov (.t 4)⟩,
  ⟨none,(some 48),.mov (.t 5)⟩,
  ⟨none,(some 49),.idxS 34 (.t 47) (.t 48)⟩,
  ⟨none,(some 50),.load 34 true (.t 49)⟩,
  ⟨none,(some 51),.idxS 34 (.t 45) (.t 46)⟩,
  ⟨none,none,.store 34 (.t 51) (.t 50)⟩])
 (.region false [⟨none,(some 52),.mov (.t 3)⟩,
  ⟨none,(some 53),.bin .add (.t 52) (.k (.int .i64 1))⟩,
  ⟨none,(some 3),.mov (.t 53)⟩]))
 .skip)))
 (.region false [⟨none,(some 33),.mov (.t 5)⟩,
  ⟨none,(some 34),.bin .add (.t 33) (.k (.int .i64 1))⟩,
  ⟨none,(some 5),.mov (.t 34)⟩])))
def zbmj (x0 x3 x4 x5:DV) (h:List AObj):St:=⟨[x0,.junk,.junk,x3,x4,x5]++js 55,h⟩
def znbh:ACode :=
 (.seq (.seq (.region false [⟨none,(some 10),.mov (.t 3)⟩,
  ⟨none,(some 11),.mov (.t 0)⟩,
  ⟨none,(some 12),.len (.t 11)⟩,
  ⟨none,(some 13),.bin .lss (.t 10) (.t 12)⟩])
 (.cond (.t 13) .skip
 (.exit 0)))
 (.seq (.block 1 (.seq (.region true [⟨none,(some 16),.mov (.t 0)⟩,
  ⟨none,(some 17),.mov (.t 3)⟩,
  ⟨none,(some 18),.idxS 34 (.t 16) (.t 17)⟩,
  ⟨none,(some 19),.load 34 true (.t 18)⟩,
  ⟨none,(some 20),.mov (.t 0)⟩,
  ⟨none,(some 21),.mov (.t 3)⟩,
  ⟨none,(some 22),.bin .sub (.t 21) (.k (.int .i64 1))⟩,
  ⟨none,(some 23),.idxS 34 (.t 20) (.t 22)⟩,
  ⟨none,(some 24),.load 34 true (.t 23)⟩,
  ⟨none,(some 25),.eqa false [(32,0),(2,1)] (.t 19) (.t 24)⟩])
 (.cond (.t 25) (.seq (.region false [⟨none,(some 26),.mov (.t 0)⟩,
  ⟨none,(some 27),.mov (.t 3)⟩,
  ⟨none,(some 28),.slcS 34 (.t 26) (some (.t 27)) none none⟩,
  ⟨none,(some 4),.mov (.t 28)⟩])
 (.seq (.seq (.region false [⟨none,(some 5),.mov (.k (.int .i64 1))⟩])
 (.block 2 (.loop z9mq)))
 (.seq (.region false [⟨none,(some 54),.mov (.t 0)⟩,
  ⟨none,(some 55),.mov (.t 3)⟩,
  ⟨none,(some 56),.slcS 34 (.t 54) (some (.t 55)) none none⟩,
  ⟨none,none,.clr 34 [(w8 0#8),(w8 0#8),(w8 0#8),(w8 0#8),(w8 0#8),(w8 0#8),(w8 0#8),(w8 0#8),(w8 0#8),(w8 0#8),(w8 0#8),(w8 0#8),(w8 0#8),(w8 0#8),(w8 0#8),(w8 0#8),(w8 0#8),(w8 0#8),(w8 0#8),(w8 0#8),(w8 0#8),(w8 0#8),(w8 0#8),(w8 0#8),(w8 0#8),(w8 0#8),(w8 0#8),(w8 0#8),(w8 0#8),(w8 0#8),(w8 0#8),(w8 0#8),(.str []),(.str [])] (.t 56)⟩])
 (.seq (.region false [⟨none,(some 57),.mov (.t 0)⟩,
  ⟨none,(some 58),.mov (.t 3)⟩,
  ⟨none,(some 59),.slcS 34 (.t 57) none (some (.t 58)) none⟩,
  ⟨none,(some 2),.mov (.t 59)⟩])
 .ret))))
 .skip)))
 (.region false [⟨none,(some 14),.mov (.t 3)⟩,
  ⟨none,(some 15),.bin .add (.t 14) (.k (.int .i64 1))⟩,
  ⟨none,(some 3),.mov (.t 15)⟩])))
def zly3 (x0 x3:DV) (h:List AObj):St:=⟨[x0,.junk,.junk,x3]++js 57,h⟩
def a39:AFn where
 code:=(.seq (.region false [⟨none,(some 2),.mov (.k .nils)⟩])
 (.seq (.seq (.region false [⟨none,(some 6),.mov (.t 0)⟩,
  ⟨none,(some 7),.len (.t 6)⟩,
  ⟨none,(some 8),.bin .lss (.t 7) (.k (.int .i64 2))⟩])
 (.cond (.t 8) (.seq (.region false [⟨none,(some 9),.mov (.t 0)⟩,
  ⟨none,(some 2),.mov (.t 9)⟩])
 .ret)
 .skip))
 (.seq (.seq (.region false [⟨none,(some 3),.mov (.k (.int .i64 1))⟩])
 (.block 0 (.loop znbh)))
 (.seq (.region false [⟨none,(some 60),.mov (.t 0)⟩,
  ⟨none,(some 2),.mov (.t 60)⟩])
 .ret))))
 ntmps:=61
 res:=[.tmp 2]
theorem zjwo:zsjc P Tryz.f39=some a39:=by kernel_rfl
def a35:AFn where
 code:=(.seq (.region false [⟨none,(some 2),.box (.t 0)⟩,
  ⟨none,(some 3),.box (.t 1)⟩,
  ⟨none,(some 4),.mov (.k (.int .i64 0))⟩])
 (.seq (.region true [⟨none,(some 5),.fld 0 (.t 2)⟩,
  ⟨none,(some 6),.slcA 32 1 (.t 5) none none⟩,
  ⟨none,(some 7),.fld 0 (.t 3)⟩,
  ⟨none,(some 8),.slcA 32 1 (.t 7) none none⟩,
  ⟨none,(some 10),.fld 32 (.t 2)⟩,
  ⟨none,(some 11),.load 1 false (.t 10)⟩,
  ⟨none,(some 12),.fld 32 (.t 3)⟩,
  ⟨none,(some 13),.load 1 false (.t 12)⟩,
  ⟨none,(some 15),.fld 33 (.t 2)⟩,
  ⟨none,(some 16),.load 1 false (.t 15)⟩,
  ⟨none,(some 17),.fld 33 (.t 3)⟩,
  ⟨none,(some 18),.load 1 false (.t 17)⟩,
  ⟨none,(some 9),.callN (.k (.fn (.func 37) [] [])) [(.t 6),(.t 8)]⟩,
  ⟨none,(some 14),.callN (.k (.fn (.func 38) [] [])) [(.t 11),(.t 13)]⟩,
  ⟨none,(some 19),.callN (.k (.fn (.func 38) [] [])) [(.t 16),(.t 18)]⟩,
  ⟨none,(some 20),.bsl 1 3 [(.int .i64 0)] [(0,1,(.t 9)),(1,1,(.t 14)),(2,1,(.t 19))]⟩,
  ⟨none,(some 21),.callN (.k (.fn (.func 36) [] [])) [(.t 20)]⟩,
  ⟨none,(some 4),.mov (.t 21)⟩])
 .ret))
 ntmps:=22
 res:=[.tmp 4]
theorem zxwh:zsjc P Tryz.f35=some a35:=by kernel_rfl
def zjhm:ACode :=
 (.seq (.region false [⟨none,(some 10),.bin .lss (.t 9) (.t 8)⟩])
 (.seq (.cond (.t 10) .skip
 (.exit 0))
 (.seq (.block 1 (.seq (.region false [⟨none,(some 11),.idxS 71 (.t 7) (.t 9)⟩,
  ⟨none,(some 12),.load 71 true (.t 11)⟩,
  ⟨none,(some 5),.alloc [(.int .i64 0),(.str []),(w8 0#8),(w8 0#8),(w8 0#8),(w8 0#8),(w8 0#8),(w8 0#8),(w8 0#8),(w8 0#8),(w8 0#8),(w8 0#8),(w8 0#8),(w8 0#8),(w8 0#8),(w8 0#8),(w8 0#8),(w8 0#8),(w8 0#8),(w8 0#8),(w8 0#8),(w8 0#8),(w8 0#8),(w8 0#8),(w8 0#8),(w8 0#8),(w8 0#8),(w8 0#8),(w8 0#8),(w8 0#8),(w8 0#8),(w8 0#8),(w8 0#8),(w8 0#8),(.str []),(.str []),(.int .i64 0),(.bool false),(w8 0#8),(w8 0#8),(w8 0#8),(w8 0#8),(w8 0#8),(w8 0#8),(w8 0#8),(w8 0#8),(w8 0#8),(w8 0#8),(w8 0#8),(w8 0#8),(w8 0#8),(w8 0#8),(w8 0#8),(w8 0#8),(w8 0#8),(w8 0#8),(w8 0#8),(w8 0#8),(w8 0#8),(w8 0#8),(w8 0#8),(w8 0#8),(w8 0#8),(w8 0#8),(w8 0#8),(w8 0#8),(w8 0#8),(w8 0#8),(w8 0#8),(w8 0#8),.nils]⟩,
  ⟨none,none,.store 71 (.t 5) (.t 12)⟩])
 (.seq (.region false [⟨none,(some 13),.fld 0 (.t 5)⟩,
  ⟨none,(some 14),.load 1 false (.t 13)⟩,
  ⟨none,(some 15),.bin .eql (.t 14) (.k (.int .i64 1))⟩])
 (.cond (.t 15) (.region false [⟨none,(some 16),.mov (.t 3)⟩,
  ⟨none,(some 17),.load 71 true (.t 5)⟩,
  ⟨none,(some 18),.call (.k (.fn (.func 33) [] [])) [(.t 17)]⟩,
  ⟨none,(some 19),.bsl 34 1 [(w8 0#8),(w8 0#8),(w8 0#8),(w8 0#8),(w8 0#8),(w8 0#8),(w8 0#8),(w8 0#8),(w8 0#8),(w8 0#8),(w8 0#8),(w8 0#8),(w8 0#8),(w8 0#8),(w8 0#8),(w8 0#8),(w8 0#8),(w8 0#8),(w8 0#8),(w8 0#8),(w8 0#8),(w8 0#8),(w8 0#8),(w8 0#8),(w8 0#8),(w8 0#8),(w8 0#8),(w8 0#8),(w8 0#8),(w8 0#8),(w8 0#8),(w8 0#8),(.str []),(.str [])] [(0,34,(.t 18))]⟩,
  ⟨none,(some 20),.app 34 64 (.t 16) (.t 19)⟩,
  ⟨none,(some 3),.mov (.t 20)⟩])
 .skip))))
 (.region false [⟨none,(some 21),.bin .add (.t 9) (.k (.int .i64 1))⟩,
  ⟨none,(some 9),.mov (.t 21)⟩]))))
def zzg5 (x3 x7 x8 x9:DV) (h:List AObj):St:=⟨[.junk,.junk,.junk,x3,.junk,.junk,.junk,x7,x8,x9]++js 21,h⟩
def a18:AFn where
 code:=(.seq (.region false [⟨none,(some 1),.box (.t 0)⟩,
  ⟨none,(some 2),.mov (.k .nils)⟩])
 (.seq (.region false [⟨none,(some 3),.mov (.k .nils)⟩])
 (.seq (.seq (.region false [⟨none,(some 6),.fld 33 (.t 1)⟩,
  ⟨none,(some 7),.load 1 false (.t 6)⟩,
  ⟨none,(some 8),.len (.t 7)⟩,
  ⟨none,(some 9),.mov (.k (.int .i64 0))⟩])
 (.block 0 (.loop zjhm)))
 (.seq (.seq (.region false [⟨none,(some 22),.mov (.t 3)⟩,
  ⟨none,(some 23),.len (.t 22)⟩,
  ⟨none,(some 24),.bin .eql (.t 23) (.k (.int .i64 0))⟩])
 (.cond (.t 24) (.seq (.region false [⟨none,(some 25),.build [(w8 0#8),(w8 0#8),(w8 0#8),(w8 0#8),(w8 0#8),(w8 0#8),(w8 0#8),(w8 0#8),(w8 0#8),(w8 0#8),(w8 0#8),(w8 0#8),(w8 0#8),(w8 0#8),(w8 0#8),(w8 0#8),(w8 0#8),(w8 0#8),(w8 0#8),(w8 0#8),(w8 0#8),(w8 0#8),(w8 0#8),(w8 0#8),(w8 0#8),(w8 0#8),(w8 0#8),(w8 0#8),(w8 0#8),(w8 0#8),(w8 0#8),(w8 0#8),(.str []),(.str [])] []⟩,
  ⟨none,(some 26),.bsl 34 1 [(w8 0#8),(w8 0#8),(w8 0#8),(w8 0#8),(w8 0#8),(w8 0#8),(w8 0#8),(w8 0#8),(w8 0#8),(w8 0#8),(w8 0#8),(w8 0#8),(w8 0#8),(w8 0#8),(w8 0#8),(w8 0#8),(w8 0#8),(w8 0#8),(w8 0#8),(w8 0#8),(w8 0#8),(w8 0#8),(w8 0#8),(w8 0#8),(w8 0#8),(w8 0#8),(w8 0#8),(w8 0#8),(w8 0#8),(w8 0#8),(w8 0#8),(w8 0#8),(.str []),(.str [])] [(0,34,(.t 25))]⟩,
  ⟨none,(some 2),.mov (.t 26)⟩])
 .ret)
 .skip))
 (.seq (.region false [⟨none,(some 27),.mov (.t 3)⟩,
  ⟨none,(some 28),.call (.k (.fn (.func 34) [] [])) [(.t 27),(.k (.fn (.func 35) [] []))]⟩])
 (.seq (.region false [⟨none,(some 29),.mov (.t 3)⟩,
  ⟨none,(some 30),.call (.k (.fn (.func 39) [] [])) [(.t 29)]⟩,
  ⟨none,(some 2),.mov (.t 30)⟩])
 .ret))))))
 ntmps:=31
 res:=[.tmp 2]
theorem zt5q:zsjc P Tryz.f18=some a18:=by kernel_rfl
end Go.Proofs.YtdnhbfmlklaldaaGreat
set_option linter.unusedSimpArgs false
set_option linter.unusedVariables false
namespace Go.Proofs.YtdnhbfmlklaldaaGreat
open Go Go.Am
def zavf (a b:Str):Int:=if Op.bytesLess a b then -1 else if Op.bytesLess b a then 1 else 0
theorem zrmv {a b:Str}:zhl4 .gtr (.str a) (.str b)=some (.bool (Op.bytesLess b a)):=by
 have e:zhl4 .gtr (.str a) (.str b)=some (.bool (!(Op.bytesLess a b||a == b))):=by simp [zhl4,zdnj]
 rw [e]
 congr 2
 rcases zoet a b with h|h|h
 ·have h':Op.bytesLess b a=false:=by
   cases q:Op.bytesLess b a with
   | false=>rfl
   | true=>have:=z8c3 _ _ _ h q; rw [zrk4] at this; cases this
  rw [h,h']; rfl
 ·subst h; simp [zrk4]
 ·have h':Op.bytesLess a b=false:=by
   cases q:Op.bytesLess a b with
   | false=>rfl
   | true=>have:=z8c3 _ _ _ h q; rw [zrk4] at this; cases this
  have hn:¬ a=b:=fun e=>by rw [e,zrk4] at h; cases h
  rw [h,h']; simp [hn]
attribute [simp] zrmv
theorem za9u (a b:Str):Runs T500 a38 [.str a,.str b] (.int .i64 (zavf a b)):=by
 refine ⟨?_⟩
 unfold zavf
 cases h1:Op.bytesLess a b with
 | true=>simp (disch:=first|omega|simp<;>omega|fail) [-zA,-zB,-zC,-zD,-zE,a38,zp4j,z8u6,h1]
 | false =>
  cases h2:Op.bytesLess b a with
  | true=>simp (disch:=first|omega|simp<;>omega|fail) [-zA,-zB,-zC,-zD,-zE,a38,zp4j,z8u6,h1,h2]
  | false=>simp (disch:=first|omega|simp<;>omega|fail) [-zA,-zB,-zC,-zD,-zE,a38,zp4j,z8u6,h1,h2]
noncomputable def cCs:List DV→Option DV
 | [.str a,.str b]=>some (.int .i64 (zavf a b))|_=>none
theorem zc1k {a b:Str}:cCs [.str a,.str b]=some (.int .i64 (zavf a b)):=rfl
theorem zqxd:(Con.pure cCs).Sound P 38:=by
 intro args v e
 unfold cCs at e
 split at e
 ·simp at e; subst e; exact zljw mix zii9 Tryz.func38 zclx (za9u _ _)
 ·simp at e
def orI (a b c:Int):Int:=if a=0 then (if b=0 then c else b) else a
def S640 (a b c:Int) (i:Nat):St:=zp5l (.int .i64 0) (.sl true 1 3 [.int .i64 a,.int .i64 b,.int .i64 c]) (.int .i64 3) (.int .i64 i) []
theorem z5l8 (a b c:Int):Runs tbl0 a36 [.sl true 1 3 [.int .i64 a,.int .i64 b,.int .i64 c]] (.int .i64 (orI a b c)):=by
 refine ⟨?_⟩
 unfold orI
 simp (disch:=first|omega|simp<;>omega|fail) [-zA,-zB,-zC,-zD,-zE,a36]
 refine zlm5 (S640 a b c) (fun i=>3-i) (fun i=>i≤3∧(1≤i→a=0)∧(2≤i→b=0)∧(3≤i→c=0)) 0 (z515 (by simp (disch:=first|omega|simp<;>omega|fail) [-zA,-zB,-zC,-zD,-zE,S640,zp5l]) (by simp (disch:=first|omega|simp<;>omega|fail) [-zA,-zB,-zC,-zD,-zE,S640,zp5l])) (by omega) (fun i hi => ?_)
 obtain ⟨h1,h2,h3,h4⟩:=hi
 simp only [S640]
 by_cases i0:i=0
 ·subst i0
  by_cases ha:a=0
  ·simp (disch:=first|omega|simp<;>omega|fail) [-zA,-zB,-zC,-zD,-zE,zlo9,zp5l,ha]
   exact ⟨1,z515 (by simp (disch:=first|omega|simp<;>omega|fail) [-zA,-zB,-zC,-zD,-zE,S640,zp5l]) (by simp (disch:=first|omega|simp<;>omega|fail) [-zA,-zB,-zC,-zD,-zE,S640,zp5l]),by omega,by omega⟩
  ·simp (disch:=first|omega|simp<;>omega|fail) [-zA,-zB,-zC,-zD,-zE,zlo9,zp5l,ha]
 by_cases i1:i=1
 ·subst i1
  have ha:=h2 (by omega)
  by_cases hb:b=0
  ·simp (disch:=first|omega|simp<;>omega|fail) [-zA,-zB,-zC,-zD,-zE,zlo9,zp5l,ha,hb]
   exact ⟨2,z515 (by simp (disch:=first|omega|simp<;>omega|fail) [-zA,-zB,-zC,-zD,-zE,S640,zp5l]) (by simp (disch:=first|omega|simp<;>omega|fail) [-zA,-zB,-zC,-zD,-zE,S640,zp5l]),by omega,by omega⟩
  ·simp (disch:=first|omega|simp<;>omega|fail) [-zA,-zB,-zC,-zD,-zE,zlo9,zp5l,ha,hb]
 by_cases i2:i=2
 ·subst i2
  have ha:=h2 (by omega)
  have hb:=h3 (by omega)
  by_cases hc:c=0
  ·simp (disch:=first|omega|simp<;>omega|fail) [-zA,-zB,-zC,-zD,-zE,zlo9,zp5l,ha,hb,hc]
   exact ⟨3,z515 (by simp (disch:=first|omega|simp<;>omega|fail) [-zA,-zB,-zC,-zD,-zE,S640,zp5l]) (by simp (disch:=first|omega|simp<;>omega|fail) [-zA,-zB,-zC,-zD,-zE,S640,zp5l]),by omega,by omega⟩
  ·simp (disch:=first|omega|simp<;>omega|fail) [-zA,-zB,-zC,-zD,-zE,zlo9,zp5l,ha,hb,hc]
 obtain rfl:i=3:=by omega
 have ha:=h2 (by omega)
 have hb:=h3 (by omega)
 have hc:=h4 (by omega)
 simp (disch:=first|omega|simp<;>omega|fail) [-zA,-zB,-zC,-zD,-zE,zlo9,zp5l,ha,hb,hc]
noncomputable def cOi:List DV→Option DV
 | [.sl true 1 3 [.int .i64 a,.int .i64 b,.int .i64 c]]=>some (.int .i64 (orI a b c))|_=>none
theorem zfih {a b c:Int}:cOi [.sl true 1 3 [.int .i64 a,.int .i64 b,.int .i64 c]]=some (.int .i64 (orI a b c)):=rfl
theorem z6wd:(Con.pure cOi).Sound P 36:=by
 intro args v e
 unfold cOi at e
 split at e
 ·simp at e; subst e; exact zljw mix zr5o Tryz.func36 zj68 (z5l8 _ _ _)
 ·simp at e
noncomputable def T640:Tbl:=addT 37 (.pure cBc) (addT 38 (.pure cCs) (addT 36 (.pure cOi) tbl0))
theorem zvi1:T640 37 = .pure cBc:=by simp [T640]
theorem zy0j:T640 38 = .pure cCs:=by simp [T640]
theorem z2i9:T640 36 = .pure cOi:=by simp [T640]
theorem zhwj:T640.Sound P:=z0rp zroj (z0rp zqxd (z0rp z6wd zr5o))
def zhqs (a b:Org):Int:=orI (zsy0 a.rev b.rev) (zavf a.lay b.lay) (zavf a.run b.run)
theorem z5ha {a b:Str}:zavf a b<0↔Op.bytesLess a b=true:=by
 unfold zavf; split
 ·rename_i h; simp [h]
 ·rename_i h; simp [h]; split<;>decide
theorem zmen {a b:Str}:zavf a b=0↔a=b:=by
 unfold zavf
 rcases zoet a b with h|h|h
 ·simp only [h,if_true]; constructor
  ·intro q; omega
  ·intro q; rw [q,zrk4] at h; cases h
 ·subst h; simp [zrk4]
 ·have h':Op.bytesLess a b=false:=by
   cases q:Op.bytesLess a b with
   | false=>rfl
   | true=>have:=z8c3 _ _ _ h q; rw [zrk4] at this; cases this
  simp only [h,h',if_true]
  constructor
  ·intro q; simp at q
  ·intro q; rw [q,zrk4] at h; cases h
theorem zd99 : ∀ (a b:List UInt8),Lib.compareBytes a b=0↔a=b
 | [],[]=>by simp [Lib.compareBytes]
 | [],_::_=>by simp [Lib.compareBytes]
 | _::_,[]=>by simp [Lib.compareBytes]
 | x::a,y::b=>by
  have ih:=zd99 a b
  simp only [Lib.compareBytes]
  by_cases h:x<y
  ·have:¬ x=y:=fun e=>by subst e; exact UInt8.lt_irrefl x h
   simp [h,this]
  ·by_cases h':y<x
   ·have:¬ x=y:=fun e=>by subst e; exact UInt8.lt_irrefl x h'
    simp [h,h',this]
   ·have:x=y:=UInt8.le_antisymm (UInt8.not_lt.1 h') (UInt8.not_lt.1 h)
    subst this; simp [ih]
theorem zj7u {a b:Dg}:zsy0 a b=0↔a=b:=(zd99 _ _).trans ⟨fun e=>znyd _ _ e,fun e=>by rw [e]⟩
theorem zaml {a b:Org}:zhqs a b<0↔orLt a b=true:=by
 unfold zhqs orI orLt zynh
 by_cases h1:a.rev=b.rev
 ·rw [if_pos (zj7u.2 h1),if_pos h1]
  by_cases h2:a.lay=b.lay
  ·rw [if_pos (zmen.2 h2),if_pos h2]; exact z5ha
  ·rw [if_neg (fun q=>h2 (zmen.1 q)),if_neg h2]; exact z5ha
 ·rw [if_neg (fun q=>h1 (zj7u.1 q)),if_neg h1]; exact zxr9
theorem zcpd (a b:Org):Runs T640 a35 [.agg (orC a),.agg (orC b)] (.int .i64 (zhqs a b)):=by
 refine ⟨?_⟩
 have t1 : ∀ (o:Org),(orC o).take 32=dgC o.rev:=fun o=>List.take_left' (z1t1 _)
 have t2 : ∀ f g,cBc [.sl f 1 32 (dgC a.rev),.sl g 1 32 (dgC b.rev)]=_:=fun f g=>z1f4
 simp (disch:=first|omega|simp<;>omega|fail) [-zA,-zB,-zC,-zD,-zE,a35,zvi1,zy0j,z2i9,t1,t2,zc1k,zfih,zu78,zhqs]
def orZ:Org:=⟨dg0,[],[]⟩
theorem zfm5:orC orZ=[w8 0#8,w8 0#8,w8 0#8,w8 0#8,w8 0#8,w8 0#8,w8 0#8,w8 0#8,w8 0#8,w8 0#8,w8 0#8,w8 0#8,w8 0#8,w8 0#8,w8 0#8,w8 0#8,w8 0#8,w8 0#8,w8 0#8,w8 0#8,w8 0#8,w8 0#8,w8 0#8,w8 0#8,w8 0#8,w8 0#8,w8 0#8,w8 0#8,w8 0#8,w8 0#8,w8 0#8,w8 0#8,.str [],.str []]:=rfl
end Go.Proofs.YtdnhbfmlklaldaaGreat
set_option linter.unusedSimpArgs false
set_option linter.unusedVariables false
namespace Go.Proofs.YtdnhbfmlklaldaaGreat
open Go Go.Am
abbrev SO:=List AObj × Sl Org
noncomputable def cMuO (A:SO→Prop) (f:SO→List DV) (g:SO→DV × List AObj):List DV→List AObj→Option (DV × List AObj):=conH A (fun a=>(f a,a.1++mo orC a.2.l)) g
theorem z1cc {A:SO→Prop} {f:SO→List DV} {g:SO→DV × List AObj} (hf : ∀ a b,f a=f b→mutD a.1.length 34 a.2 orC=mutD b.1.length 34 b.2 orC) (hg : ∀ a b:SO,a.1=b.1→a.2.l=b.2.l→(a.2.l=[]→a.2.clone.dv 34 orC=b.2.clone.dv 34 orC)→g a=g b) {a:SO} (h:A a):cMuO A f g (f a) (a.1++mo orC a.2.l)=some (g a) :=
 zu6y (A:=A) (f:=fun a=>(f a,a.1++mo orC a.2.l)) (g:=g) (fun a b h1 h2 e=>by
  simp only [Prod.mk.injEq] at e
  obtain ⟨p,q,r⟩:=zt7j zu78 (by decide) (fun _ _=>zc65) (hf a b e.1) e.2
  exact hg a b p q r) a h
def zuwh (a:SO):DV × List AObj:=(.tup [],a.1++mo orC (zxu4 orLt a.2.l))
theorem zefi (a b:SO) (h1:a.1=b.1) (h2:a.2.l=b.2.l) (h3:a.2.l=[]→a.2.clone.dv 34 orC=b.2.clone.dv 34 orC):zuwh a=zuwh b:=by unfold zuwh; rw [h1,h2]
def znpv (a:SO):DV × List AObj:=(cmD 34 a.1.length orC a.2,a.1++mo orC (zly8 orZ a.2.l))
theorem zvb7 (a b:SO) (h1:a.1=b.1) (h2:a.2.l=b.2.l) (h3:a.2.l=[]→a.2.clone.dv 34 orC=b.2.clone.dv 34 orC):znpv a=znpv b:=by
 unfold znpv cmD
 rw [h1,h2]
 by_cases e:b.2.l=[]
 ·rw [if_pos e,if_pos e,h3 (h2.trans e)]
 ·rw [if_neg e,if_neg e]
def sBO (a:SO):Prop:=a.2.l.length≤1000
def cBO (a:SO):Prop:=a.2.l.length≤1000000
def zhmi (a:SO):List DV:=[mutD a.1.length 34 a.2 orC,(.fn (.func 35) [] [])]
def zhw0 (a:SO):List DV:=[mutD a.1.length 34 a.2 orC]
theorem z4pf {a:SO} (h:a.2.l.length≤1000):cMuO sBO zhmi zuwh (zhmi a) (a.1++mo orC a.2.l)=some (.tup [],a.1++mo orC (zxu4 orLt a.2.l)):=z1cc (fun a b e=>by simp only [zhmi,List.cons.injEq] at e; exact e.1) zefi h
theorem z5x9 {a:SO} (h:a.2.l.length≤1000000):cMuO cBO zhw0 znpv (zhw0 a) (a.1++mo orC a.2.l)=some (znpv a):=z1cc (fun a b e=>by simp only [zhw0,List.cons.injEq] at e; exact e.1) zvb7 h
theorem zpsb (a b:Org):Am.Sem P 35 [.agg (orC a),.agg (orC b)] (.int .i64 (zhqs a b)):=zljw mix zhwj Tryz.func35 zxwh (zcpd a b)
theorem zsfi:Go.Proofs.ltOf zhqs=orLt:=by
 funext a b
 unfold Go.Proofs.ltOf
 cases h:orLt a b with
 | true=>exact decide_eq_true (zaml.2 h)
 | false=>exact decide_eq_false fun q=>by rw [zaml.1 q] at h; cases h
theorem ztkq (x:Org) : ∀ c ∈ orC x,scD c=true:=fun c hc=>by
 rcases List.mem_append.1 hc with h|h
 ·exact zrtr _ c h
 ·simp at h; rcases h with rfl|rfl<;>rfl
theorem zt0e:(Con.heap (cMuO sBO zhmi zuwh)).Sound P 34:=z7sf fun a h=>by
 obtain ⟨pre,x⟩:=a
 have h:x.l.length≤1000:=h
 have hent:Ent P 34:=z36x Tryz.func34 (by kernel_rfl) rfl
 by_cases e:x.l=[]
 ·have h0:(mutD pre.length 34 x orC = .nils ∨ ∃ full s cs,mutD pre.length 34 x orC = .sl full s 0 cs):=by
   rw [zpj6 e]
   have hc:x.clone.l=[]:=by simp [Sl.clone,e]
   exact dv_z hc
  have h1:=z08x (P:=P) zv99 hent (h:=pre++mo orC x.l) (g:=35) h0
  refine h1.mono ?_
  rintro r h' ⟨rfl,rfl⟩
  simp [zuwh,e,zxu4]
 ·haveI:Inhabited Org:=⟨orZ⟩
  have h1:=zh0z (P:=P) zv99 hent (k:=34) Tryz.isAgg30 Tryz.sizeOf30 (f:=orC) zu78 ztkq (g:=35) (z36x Tryz.func35 (by kernel_rfl) rfl) (cf:=zhqs) (by rw [zsfi]; exact zjqi zha4)
   (by rw [zsfi]; exact fun a b p q=>zsri zha4 p q) zpsb (h:=pre++mo orC x.l) (id:=pre.length) (xs:=x.l) (by rw [zsqo e]; unfold ziu0; rw [List.getElem?_append_right (Nat.le_refl _),Nat.sub_self]; rfl) (by decide) e (by omega) (ver:=x.l.length*34) (lim:=x.l.length*34) rfl
  simp only [zhmi,z2ra e]
  refine h1.mono ?_
  rintro r h' ⟨rfl,rfl⟩
  simp only [zuwh]
  rw [zsfi,zbpl zha4,zsqo e,zsqo (zlvn e),zxft]
  simp [fl]
def S644 (pre:List AObj) (n:Nat) (l:List Org) (k:Nat):St:=zly3 (.ms pre.length (n*34) 0 34 n (n*34)) (.int .i64 k) (pre++[.cells (fl orC l)])
def S645 (pre:List AObj) (n k0:Nat) (l:List Org) (a:CPg Org):St:=zbmj (.ms pre.length (n*34) 0 34 n (n*34)) (.int .i64 (zwrc (l.take a.j)).length) (.ms pre.length (n*34) (k0*34) 34 (n-k0) (n*34)) (.int .i64 ((a.j-k0:Nat):Int)) (pre++[.cells (fl orC a.M)])
theorem zydq (pre:List AObj) (l:List Org) (hb:l.length≤1000000) (hne:l≠[]) :
  RunsH tbl0 a39 [.ms pre.length (l.length*34) 0 34 l.length (l.length*34)] (pre++[.cells (fl orC l)]) (.ms pre.length (l.length*34) 0 34 (zwrc l).length (l.length*34)) (pre++[.cells (fl orC (zly8 orZ l))]):=by
 refine ⟨?_⟩
 obtain ⟨n,hn⟩ : ∃ n,l.length=n:=⟨_,rfl⟩
 have hn0:0<n:=by rw [← hn]; exact List.length_pos_iff.2 hne
 have hfl:(fl orC l).length=n*34:=by rw [z8lx zu78,hn]
 have hln:lenD (pre++[.cells (fl orC l)]) (.ms pre.length (n*34) 0 34 n (n*34))=some (.int .i64 n):=by rw [z59c,zjj2,z1zn,if_pos hfl]; rfl
 rw [hn]
 rw [hn] at hb
 by_cases h2:n<2
 ·have h2':(n:Int)<2:=by omega
  have hc:=zmiq (l:=l) (by omega)
  have hcl:(zwrc l).length=n:=by rw [hc,hn]
  have ho:=zixv (z:=orZ) hc
  rw [hcl,ho]
  simp (disch:=first|omega|simp<;>omega|fail) [-zA,-zB,-zC,-zD,-zE,a39,hln,h2,h2',zjj2,z1zn,hfl]
 have h2':¬ (n:Int)<2:=by omega
 simp (disch:=first|omega|simp<;>omega|fail) [-zA,-zB,-zC,-zD,-zE,a39,hln,h2,h2']
 refine zlm5 (S644 pre n l) (fun i=>n-i) (fun i=>1≤i∧i≤n∧zwrc (l.take i)=l.take i) 1 (z515 (by simp (disch:=first|omega|simp<;>omega|fail) [-zA,-zB,-zC,-zD,-zE,S644,zly3]) (by simp (disch:=first|omega|simp<;>omega|fail) [-zA,-zB,-zC,-zD,-zE,S644,zly3])) ⟨by omega,by omega,zmiq (by simp; omega)⟩ (fun i hi => ?_)
 obtain ⟨h3,h4,h5⟩:=hi
 simp (disch:=first|omega|simp<;>omega|fail) [-zA,-zB,-zC,-zD,-zE,znbh,zly3,S644,hln]
 by_cases h:i<n
 ·have h':(i:Int)<n:=by omega
  have hil:i<l.length:=by omega
  have hi1:(((i:Int)-1)).toNat=i-1:=by omega
  have o1:oneC 34 true ((fl orC l).drop (i*34))=some (.agg (orC l[i])):=zfiy zu78 hil
  have o2:oneC 34 true ((fl orC l).drop ((i-1)*34))=some (.agg (orC l[i-1])):=zfiy zu78 (by omega)
  by_cases e:l[i-1]=l[i]
  ·simp (disch:=first|omega|simp<;>omega|fail) [-zA,-zB,-zC,-zD,-zE,h,h',zjj2,z1zn,hfl,hi1,o1,o2,e]
   obtain ⟨hs,hk⟩:=CompI.start (by omega) hil h5 e
   refine zlm5 (S645 pre n i l) (fun a=>n-a.j) (fun a=>CompI l i a) ⟨i+1,l⟩ (z515 (by simp (disch:=first|omega|simp<;>omega|fail) [-zA,-zB,-zC,-zD,-zE,S645,zbmj,hk]) (by simp (disch:=first|omega|simp<;>omega|fail) [-zA,-zB,-zC,-zD,-zE,S645,zbmj])) hs (fun a ha => ?_)
   obtain ⟨j,M⟩:=a
   have h6:=ha.j0
   have h7:=ha.j1
   have h8:=ha.len
   have h9:=ha.k
   simp only at h6 h7 h8 h9
   obtain ⟨K,hK⟩ : ∃ K,(zwrc (l.take j)).length=K:=⟨_,rfl⟩
   obtain ⟨J,hJ⟩ : ∃ J,j-i=J:=⟨_,rfl⟩
   rw [hK] at h9
   have hfM:(fl orC M).length=n*34:=by rw [z8lx zu78,h8,hn]
   have hlM:lenD (pre++[.cells (fl orC M)]) (.ms pre.length (n*34) (i*34) 34 (n-i) (n*34))=some (.int .i64 ((n-i:Nat):Int)):=by rw [z59c,zjj2,z1zn,if_pos hfM]; rfl
   simp (disch:=first|omega|simp<;>omega|fail) [-zA,-zB,-zC,-zD,-zE,z9mq,zbmj,S645,hK,hJ,hlM]
   by_cases hj:j<n
   ·have hj1:(J:Int)<((n-i:Nat):Int):=by omega
    have hj1':J<n-i:=by omega
    have hj2:((J:Int)-1).toNat=J-1:=by omega
    have hj3:i*34+J*34=j*34:=by omega
    have hj4:i*34+(J-1)*34=(j-1)*34:=by omega
    have hjl:j<l.length:=by omega
    obtain ⟨g1,g2⟩:=ha.get hjl (by simp only; omega) (by simp only; omega)
    simp only at g1 g2
    have u1:oneC 34 true ((fl orC M).drop (j*34))=some (.agg (orC l[j])):=by rw [zfiy zu78 (by omega),g1]
    have u2:oneC 34 true ((fl orC M).drop ((j-1)*34))=some (.agg (orC l[j-1])):=by rw [zfiy zu78 (by omega),g2]
    by_cases e2:l[j-1]=l[j]
    ·simp (disch:=first|omega|simp<;>omega|fail) [-zA,-zB,-zC,-zD,-zE,hj1,hj1',hj2,hj3,hj4,zjj2,z1zn,hfM,u1,u2,e2]
     obtain ⟨q1,q2⟩:=ha.same (by omega) hjl e2
     have hJ':j+1-i=J+1:=by omega
     simp only at q1 q2
     exact ⟨⟨j+1,M⟩,z515 (by simp (disch:=first|omega|simp<;>omega|fail) [-zA,-zB,-zC,-zD,-zE,S645,zbmj,q2,hK,hJ']) (by simp (disch:=first|omega|simp<;>omega|fail) [-zA,-zB,-zC,-zD,-zE,S645,zbmj]),by simp only; omega,q1⟩
    ·have e2':¬ l[j]=l[j-1]:=fun q=>e2 q.symm
     have st : ∀ h:List AObj,zy6o h pre.length 34 (K*34) (.agg (orC l[j])) (some (fl orC M))=some (.junk,h.set pre.length (.cells (fl orC (M.set K l[j])))):=fun h=>zdvi zu78 (by decide) (fun _=>zkp2) (by omega)
     simp (disch:=first|omega|simp<;>omega|fail) [-zA,-zB,-zC,-zD,-zE,hj1,hj1',hj2,hj3,hj4,zjj2,z1zn,hfM,u1,u2,st,e2',zxft]
     obtain ⟨q1,q2⟩:=ha.step (by omega) hjl e2
     have hJ':j+1-i=J+1:=by omega
     simp only [hK] at q1 q2
     exact ⟨⟨j+1,M.set K l[j]⟩,z515 (by simp (disch:=first|omega|simp<;>omega|fail) [-zA,-zB,-zC,-zD,-zE,S645,zbmj,q2,hK,hJ']) (by simp (disch:=first|omega|simp<;>omega|fail) [-zA,-zB,-zC,-zD,-zE,S645,zbmj]),by simp only; omega,q1⟩
   ·have hj1:¬ (J:Int)<((n-i:Nat):Int):=by omega
    have hj1':¬ J<n-i:=by omega
    obtain rfl:j=n:=by omega
    have hfin:=ha.fin (by simp only; omega)
    simp only at hfin
    have htl:l.take j=l:=List.take_of_length_le (by omega)
    rw [htl] at hK
    rw [hK] at hfin
    have hclr:clrD (pre++[.cells (fl orC M)]) 34 (orC orZ) (.ms pre.length (j*34) (K*34) 34 (j-K) (j*34))=some (.tup [],pre++[.cells (fl orC (zly8 orZ l))]):=by
     have hov:objV (pre++[.cells (fl orC M)]) pre.length (j*34)=some (fl orC M):=by rw [zjj2,z1zn,if_pos hfM]
     rw [z7ty (s:=34) (m:=j-K) (off:=K*34) (ver:=j*34) (zs:=orC orZ) (zu78 _) (by decide) zkp2 (by omega),hov,Option.map_some,zxft,zqtu]
     have hs:=z507 (f:=orC) zu78 (A:=zwrc l) (B:=M.drop K) (C:=List.replicate (j-K) orZ) (by simp; omega)
     rw [← hfin,hK] at hs
     rw [hs]
     simp only [zly8,hK,hn,List.set_cons_zero]
    have hol:(fl orC (zly8 orZ l)).length=j*34:=by rw [z8lx zu78,zglm,hn]
    rw [zfm5] at hclr
    simp (disch:=first|omega|simp<;>omega|fail) [-zA,-zB,-zC,-zD,-zE,hj1,hj1',zjj2,z1zn,hfM,zxft,hclr,hK,hol]
  ·have e':¬ l[i]=l[i-1]:=fun q=>e q.symm
   simp (disch:=first|omega|simp<;>omega|fail) [-zA,-zB,-zC,-zD,-zE,h,h',zjj2,z1zn,hfl,hi1,o1,o2,e']
   refine ⟨i+1,z515 (by simp (disch:=first|omega|simp<;>omega|fail) [-zA,-zB,-zC,-zD,-zE,S644,zly3]) (by simp (disch:=first|omega|simp<;>omega|fail) [-zA,-zB,-zC,-zD,-zE,S644,zly3]),by omega,by omega,by omega,?_⟩
   rw [z6fn (by omega) hil,if_neg e,h5,List.take_succ_eq_append_getElem hil]
 ·have h':¬ (i:Int)<n:=by omega
  have e2:l.take i=l:=List.take_of_length_le (by omega)
  rw [e2] at h5
  have ho:=zixv (z:=orZ) h5
  simp (disch:=first|omega|simp<;>omega|fail) [-zA,-zB,-zC,-zD,-zE,h,h',ho,h5,hn,zjj2,z1zn,hfl]
theorem z1rx (pre:List AObj) (x:Sl Org) (e:x.l=[]):RunsH tbl0 a39 [x.clone.dv 34 orC] pre (x.clone.dv 34 orC) pre:=by
 refine ⟨?_⟩
 have hl:lenD pre (x.clone.dv 34 orC)=some (.int .i64 0):=by rw [zupj,show x.clone.l=x.l from rfl,e]; rfl
 simp (disch:=first|omega|simp<;>omega|fail) [-zA,-zB,-zC,-zD,-zE,a39,hl]
theorem z3mf {a:SO} (h:cBO a):RunsH tbl0 a39 (zhw0 a) (a.1++mo orC a.2.l) (cmD 34 a.1.length orC a.2) (a.1++mo orC (zly8 orZ a.2.l)):=by
 obtain ⟨pre,x⟩:=a
 by_cases e:x.l=[]
 ·have h1:cmD 34 pre.length orC x=x.clone.dv 34 orC:=if_pos e
  simp only [zhw0,zpj6 e,h1,e,z9e8,z7sv,List.append_nil]
  exact z1rx pre x e
 ·have h1:cmD 34 pre.length orC x = .ms pre.length (x.l.length*34) 0 34 (zwrc x.l).length (x.l.length*34):=if_neg e
  simp only [zhw0,z2ra e,h1,zsqo e,zsqo (zsxr e)]
  exact zydq pre x.l h e
theorem zxqv:(Con.heap (cMuO cBO zhw0 znpv)).Sound P 39:=z7sf fun a h=>zv22 mix zr5o Tryz.func39 zjwo (z3mf h)
end Go.Proofs.YtdnhbfmlklaldaaGreat
set_option linter.unusedSimpArgs false
set_option linter.unusedVariables false
namespace Go.Proofs.YtdnhbfmlklaldaaGreat
open Go Go.Am
noncomputable def T645:Tbl:=addT 33 (.pure cOr) (addT 34 (.heap (cMuO sBO zhmi zuwh)) (addT 39 (.heap (cMuO cBO zhw0 znpv)) tbl0))
theorem z4s5:T645 33 = .pure cOr:=by simp [T645]
theorem za6x:T645 34 = .heap (cMuO sBO zhmi zuwh):=by simp [T645]
theorem zrr1:T645 39 = .heap (cMuO cBO zhw0 znpv):=by simp [T645]
theorem zorh:T645.Sound P:=z0rp zcra (z0rp zt0e (z0rp zxqv zr5o))
def relS (l:List Fct):List Org:=(l.filter fun f=>decide (f.kind=1)).map z5z5
theorem zho3 (l:List Fct):(relS l).length≤l.length:=by unfold relS; rw [List.length_map]; exact List.length_filter_le _ _
theorem zt8j {l:List Fct} {i:Nat} (h:i<l.length):relS (l.take (i+1))=relS (l.take i)++(if l[i].kind=1 then [z5z5 l[i]] else []):=by
 rw [List.take_succ_eq_append_getElem h,relS,List.filter_append,List.map_append,← relS]
 congr 1
 by_cases e:l[i].kind=1<;>simp [e]
def zz6h (l:List Fct):Sl Org:=if relS l=[] then ⟨some true,[orZ],fun e=>by simp at e,by simp⟩ else own (z534 orLt (relS l))
def oV (l:List Org):DV:=if l=[] then .nils else .ms 2 (l.length*34) 0 34 l.length (l.length*34)
def oH (c:Cas) (o:AObj) (l:List Org):List AObj := .cells (caC c)::(if l=[] then [] else [o,.cells (fl orC l)])
theorem zpni {l:List Org} (h:l≠[]):oV l = .ms 2 (l.length*34) 0 34 l.length (l.length*34):=if_neg h
theorem z54r {c:Cas} {o:AObj} {l:List Org} (h:l≠[]):oH c o l=[.cells (caC c),o,.cells (fl orC l)]:=by rw [oH,if_neg h]
def S646 (c:Cas) (a:FP):St:=zzg5 (oV (relS (c.f.l.take a.i))) (c.f.dv 71 faC) (.int .i64 c.f.l.length) (.int .i64 a.i) (oH c (.cells (faC a.o)) (relS (c.f.l.take a.i)))
theorem z42m (c:Cas) (hn:c.f.l.length≤1000):Runs T645 a18 [.agg (caC c)] ((zz6h c.f.l).dv 34 orC):=by
 refine ⟨?_⟩
 have hb:=c.f.b
 simp (disch:=first|omega|simp<;>omega|fail) [-zA,-zB,-zC,-zD,-zE,a18]
 refine zlm5 (S646 c) (fun a=>c.f.l.length-a.i) (fun a=>a.i≤c.f.l.length) ⟨0,fct0⟩ (z515 (by simp (disch:=first|omega|simp<;>omega|fail) [-zA,-zB,-zC,-zD,-zE,S646,zzg5,relS,oV]) (by simp (disch:=first|omega|simp<;>omega|fail) [-zA,-zB,-zC,-zD,-zE,S646,zzg5,relS,oH])) (by simp) (fun a hi => ?_)
 obtain ⟨i,o⟩:=a
 simp only at hi
 simp only [S646]
 by_cases h:i<c.f.l.length
 ·have h':(i:Int)<c.f.l.length:=by omega
  have hg : ∀ H,zpsc H 71 (c.f.dv 71 faC) i=some (.ref (faC c.f.l[i])):=fun H=>zalo zs77 h
  have hs:=zt8j h
  have hlen:(relS (c.f.l.take i)).length≤i:=by have:=zho3 (c.f.l.take i); rw [List.length_take] at this; omega
  obtain ⟨F,hF⟩ : ∃ F,c.f.l[i]=F:=⟨_,rfl⟩
  rw [hF] at hg hs
  obtain ⟨L,hL⟩ : ∃ L,relS (c.f.l.take i)=L:=⟨_,rfl⟩
  rw [hL] at hs hlen ⊢
  by_cases hk:F.kind=1
  case neg =>
   rw [if_neg hk,List.append_nil] at hs
   by_cases e:L=[]
   ·subst e
    have q1:oV [] = .nils:=rfl
    have q2:oH c (.cells (faC o)) []=[.cells (caC c)]:=rfl
    simp (disch:=first|omega|simp<;>omega|fail) [-zA,-zB,-zC,-zD,-zE,zjhm,zzg5,h,h',hg,q1,q2,hk]
    exact ⟨⟨i+1,o⟩,zju2 (tail:=[.cells (faC F)]) (by simp (disch:=first|omega|simp<;>omega|fail) [-zA,-zB,-zC,-zD,-zE,S646,zzg5,hs,q1]) (by simp (disch:=first|omega|simp<;>omega|fail) [-zA,-zB,-zC,-zD,-zE,S646,zzg5,hs,q2]) (Nat.zero_le _) (by simp (disch:=first|omega|simp<;>omega|fail) [-zA,-zB,-zC,-zD,-zE,S646,zzg5,hs,q1,q2,z1r6,Am.below]) (by simp (disch:=first|omega|simp<;>omega|fail) [-zA,-zB,-zC,-zD,-zE,S646,zzg5,hs,q2,zlf2]),by simp only; omega,by simp only; omega⟩
   ·have q1:=zpni e
    have q2:=z54r (c:=c) (o := .cells (faC o)) e
    simp (disch:=first|omega|simp<;>omega|fail) [-zA,-zB,-zC,-zD,-zE,zjhm,zzg5,h,h',hg,q1,q2,hk]
    exact ⟨⟨i+1,o⟩,zju2 (tail:=[.cells (faC F)]) (by simp (disch:=first|omega|simp<;>omega|fail) [-zA,-zB,-zC,-zD,-zE,S646,zzg5,hs,q1]) (by simp (disch:=first|omega|simp<;>omega|fail) [-zA,-zB,-zC,-zD,-zE,S646,zzg5,hs,q2]) (Nat.zero_le _) (by simp (disch:=first|omega|simp<;>omega|fail) [-zA,-zB,-zC,-zD,-zE,S646,zzg5,hs,q1,q2,z1r6,Am.below]) (by simp (disch:=first|omega|simp<;>omega|fail) [-zA,-zB,-zC,-zD,-zE,S646,zzg5,hs,q2,zlf2,fl,zmq5 _ _ (zp6k ztvh _)]),by simp only; omega,by simp only; omega⟩
  rw [if_pos hk] at hs
  obtain ⟨O,hO⟩ : ∃ O,z5z5 F=O:=⟨_,rfl⟩
  have hc:=z68y (f:=F)
  rw [hO] at hs hc
  by_cases e:L=[]
  ·subst e
   rw [List.nil_append] at hs
   have hap:=zsuq (h:=[AObj.cells (caC c),.cells (faC F)]) (s:=34) (b:=64) (m:=1) (cs:=orC O) (by decide) (by decide) (by rw [zu78]) (by decide) (by decide)
   simp only [zu78,List.length_cons,List.length_nil] at hap
   have q1:oV [] = .nils:=rfl
   have q2:oH c (.cells (faC o)) []=[.cells (caC c)]:=rfl
   simp (disch:=first|omega|simp<;>omega|fail) [-zA,-zB,-zC,-zD,-zE,zjhm,zzg5,h,h',hg,q1,q2,hk,z4s5,hc,hap]
   have e1:oV [O] = .ms 2 34 0 34 1 34:=rfl
   have e2:oH c (.cells (faC F)) [O]=[.cells (caC c),.cells (faC F),.cells (orC O)]:=by rw [z54r (by simp),z4hs]
   exact ⟨⟨i+1,F⟩,z515 (by simp (disch:=first|omega|simp<;>omega|fail) [-zA,-zB,-zC,-zD,-zE,S646,zzg5,hs,e1]) (by simp (disch:=first|omega|simp<;>omega|fail) [-zA,-zB,-zC,-zD,-zE,S646,zzg5,hs,e2]),by simp only; omega,by simp only; omega⟩
  ·have hap:=zkg3 (h:=[AObj.cells (caC c),.cells (faC o),.cells (fl orC L),.cells (faC F)]) (id:=2) (b:=64) (l:=L) (x:=O) zu78 (by decide) (by decide) (fun _=>zkp2) (by omega) (by simp [objV,ziu0,z8lx zu78])
   have q1:=zpni e
   have q2:=z54r (c:=c) (o := .cells (faC o)) e
   simp (disch:=first|omega|simp<;>omega|fail) [-zA,-zB,-zC,-zD,-zE,zjhm,zzg5,h,h',hg,q1,q2,hk,z4s5,hc,hap]
   have e0:L++[O]≠[]:=by simp
   have e1:=zpni e0
   have e2:=z54r (c:=c) (o := .cells (faC o)) e0
   rw [List.length_append,List.length_singleton] at e1
   exact ⟨⟨i+1,o⟩,zju2 (tail:=[.cells (faC F)]) (by simp (disch:=first|omega|simp<;>omega|fail) [-zA,-zB,-zC,-zD,-zE,S646,zzg5,hs,e1]) (by simp (disch:=first|omega|simp<;>omega|fail) [-zA,-zB,-zC,-zD,-zE,S646,zzg5,hs,e2]) (Nat.zero_le _) (by simp (disch:=first|omega|simp<;>omega|fail) [-zA,-zB,-zC,-zD,-zE,S646,zzg5,hs,e1,e2,z1r6,Am.below]) (by simp (disch:=first|omega|simp<;>omega|fail) [-zA,-zB,-zC,-zD,-zE,S646,zzg5,hs,e2,zlf2,fl,zmq5 _ _ (zg0c (zp6k ztvh _) (ztvh _)),zmq5 _ _ (zp6k ztvh _)]),by simp only; omega,by simp only; omega⟩
 have h':¬ (i:Int)<c.f.l.length:=by omega
 have ht:c.f.l.take i=c.f.l:=List.take_of_length_le (by omega)
 rw [ht]
 have hrl:=zho3 c.f.l
 obtain ⟨L,hL⟩ : ∃ L,relS c.f.l=L:=⟨_,rfl⟩
 rw [hL] at hrl ⊢
 by_cases e:L=[]
 ·have hr:(zz6h c.f.l).dv 34 orC = .sl true 34 1 (orC orZ):=by unfold zz6h; rw [hL,if_pos e]; rfl
  subst e
  have q1:oV [] = .nils:=rfl
  have q2:oH c (.cells (faC o)) []=[.cells (caC c)]:=rfl
  rw [hr,zfm5]
  simp (disch:=first|omega|simp<;>omega|fail) [-zA,-zB,-zC,-zD,-zE,zjhm,zzg5,h,h',q1,q2]
 ·have hul:=zsv6 (lt:=orLt) L
  have hr:zz6h c.f.l=own (z534 orLt L):=by unfold zz6h; rw [hL,if_neg e]
  have q1:=zpni e
  have q2:=z54r (c:=c) (o := .cells (faC o)) e
  have hol:(own L).l=L:=z3e9 (by omega)
  have hsl:(zxu4 orLt L).length=L.length:=zmgd _
  have h2:=z4pf (a:=([AObj.cells (caC c),.cells (faC o)],own L)) (by show (own L).l.length≤1000; rw [hol]; omega)
  simp only [zhmi,hol,List.length_cons,List.length_nil,Nat.zero_add,List.cons_append,List.nil_append] at h2
  have hwl:(zxu4 orLt L).length=(own L).l.length:=by rw [hol,hsl]
  have h3:=z5x9 (a:=([AObj.cells (caC c),.cells (faC o)],(own L).wl (zxu4 orLt L) hwl)) (by show (zxu4 orLt L).length≤_; omega)
  simp only [zhw0,zl7v,znpv,show ((own L).wl (zxu4 orLt L) hwl).l=zxu4 orLt L from rfl,List.length_cons,List.length_nil,Nat.zero_add,List.cons_append,List.nil_append] at h3
  have e1:zxu4 orLt L≠[]:=zlvn e
  have hm:mutD 2 34 (own L) orC = .ms 2 (L.length*34) 0 34 L.length (L.length*34):=by rw [z2ra (by rw [hol]; exact e),hol]
  have hcm:cmD 34 2 orC ((own L).wl (zxu4 orLt L) hwl) = .ms 2 (L.length*34) 0 34 (z534 orLt L).length (L.length*34):=by
   unfold cmD
   rw [show ((own L).wl (zxu4 orLt L) hwl).l=zxu4 orLt L from rfl,if_neg e1,hsl,zl78 zha4]
  rw [hm,zsqo e,zsqo e1] at h2
  rw [hm,zsqo e1,zsqo (zsxr e1),hcm] at h3
  have hs:=z29t (f:=orC) zu78 ztvh (pre:=[AObj.cells (caC c),.cells (faC o)]) (l:=zly8 orZ (zxu4 orLt L)) (m:=(zwrc (zxu4 orLt L)).length)
  rw [zglm,z0zq,zl78 zha4,hsl] at hs
  simp only [List.length_cons,List.length_nil,Nat.zero_add,List.cons_append,List.nil_append] at hs
  rw [hr,zqrs (by omega)]
  have e0:¬ L.length=0:=fun q=>e (List.eq_nil_of_length_eq_zero q)
  have hfl:(fl orC L).length=L.length*34:=z8lx zu78 L
  simp (disch:=first|omega|simp<;>omega|fail) [-zA,-zB,-zC,-zD,-zE,zjhm,zzg5,h,h',q1,q2,e,e0,hfl,za6x,zrr1,h2,h3,hs]
noncomputable def cOgs:List DV→Option DV:=con (fun c:Cas=>c.f.l.length≤1000) (fun c=>[.agg (caC c)]) (fun c=>(zz6h c.f.l).dv 34 orC)
theorem zudh {c:Cas} (h:c.f.l.length≤1000):cOgs [.agg (caC c)]=some ((zz6h c.f.l).dv 34 orC) :=
 zlyi (A:=fun c:Cas=>c.f.l.length≤1000) (f:=fun c:Cas=>[.agg (caC c)]) (g:=fun c=>(zz6h c.f.l).dv 34 orC) (fun a b e=>by simp only [List.cons.injEq,DV.agg.injEq,and_true] at e; rw [zejx e]) c h
theorem zvwe:(Con.pure cOgs).Sound P 18:=z2au fun c h=>zljw mix zorh Tryz.func18 zt5q (z42m c h)
end Go.Proofs.YtdnhbfmlklaldaaGreat
set_option linter.unusedSimpArgs false
set_option linter.unusedVariables false
namespace Go.Proofs.YtdnhbfmlklaldaaGreat
open Go Go.Am
structure Tp where
 k:Option Bool
 l:List Int
 h:k=none→l=[]
 at_:Nat
def inI (n:Int):List DV:=[.int .i64 n]
def Tp.sl (t:Tp):DV:=slD t.k 1 t.l.length (t.l.flatMap inI)
def tpC (t:Tp):List DV:=[t.sl,.int .i64 t.at_]
def Tp.adv (t:Tp) (m:Nat):Tp:={ t with at_:=t.at_+m }
theorem zg97 (n:Int):(inI n).length=1:=rfl
theorem zyj0 (n:Int):zbao (inI n)=true:=rfl
theorem z5yb (t:Tp):zyp8 t.sl=true:=by
 obtain ⟨k,l,h,a⟩:=t
 cases k with
 | none=>rfl
 | some b=>show zbao _=true; exact zp6k zyj0 l
theorem zs7w (t:Tp):zbao (tpC t)=true:=by simp [tpC,zbao,z5yb,zyp8]
theorem zl4f (t:Tp):(tpC t).length=2:=by simp [tpC]
theorem zwhz (t:Tp) (H:List AObj):lenD H t.sl=some (.int .i64 t.l.length):=zjc6 (fun e=>by rw [t.h e]; rfl)
theorem zmwh (t:Tp) (H:List AObj) {i:Nat} (hi:i<t.l.length):zpsc H 1 t.sl i=some (.ref [.int .i64 t.l[i]]):=by
 obtain ⟨k,l,h,a⟩:=t
 cases k with
 | none=>simp only at hi; rw [h rfl] at hi; simp at hi
 | some b =>
  simp only [Tp.sl,zip4]
  rw [zsu0 (by omega) (by simp only at hi; omega),Int.toNat_natCast,zdao zg97 hi]; rfl
theorem zxr4 (t:Tp):t.sl.one=true:=by obtain ⟨k,l,h,a⟩:=t; cases k<;>rfl
theorem zn8z (t:Tp):t.sl.known=true:=by obtain ⟨k,l,h,a⟩:=t; cases k<;>rfl
theorem zymw (t:Tp):t.sl.cells=[t.sl]:=by obtain ⟨k,l,h,a⟩:=t; cases k<;>rfl
theorem zpy8 (t:Tp) (n k:Nat) (H:List AObj):fz n H k t.sl=some t.sl:=zqge (z5yb t)
theorem ziad : ∀ {a b:List Int},a.flatMap inI=b.flatMap inI→a=b
 | [],[],_=>rfl
 | [],y::b,h=>by simp [inI] at h
 | x::a,[],h=>by simp [inI] at h
 | x::a,y::b,h=>by
  simp only [List.flatMap_cons,inI,List.singleton_append,List.cons.injEq,DV.int.injEq,true_and] at h
  rw [h.1,ziad h.2]
theorem z15z {a b:Tp} (h:tpC a=tpC b):a=b:=by
 obtain ⟨k,l,h1,p⟩:=a
 obtain ⟨k',l',h2,p'⟩:=b
 simp only [tpC,Tp.sl,List.cons.injEq,DV.int.injEq,true_and,and_true,Int.natCast_inj] at h
 obtain ⟨h,rfl⟩:=h
 cases k with
 | none=>cases k' with
  | none=>rw [Tp.mk.injEq]; exact ⟨rfl,by rw [h1 rfl,h2 rfl],rfl⟩
  | some b=>simp [slD] at h
 | some b=>cases k' with
  | none=>simp [slD] at h
  | some b' =>
   simp only [zip4,DV.sl.injEq] at h
   obtain ⟨rfl,_,_,h⟩:=h
   rw [Tp.mk.injEq]; exact ⟨rfl,ziad h,rfl⟩
attribute [simp] zwhz zxr4 zn8z zymw zpy8 zl4f
def zq5q (t:Tp):Int:=if h:t.at_<t.l.length then t.l[t.at_] else t.at_*7+3
def tpN (t:Tp) (n:Int):Int:=if n<1 then 0 else zq5q t % n
def tpS (t:Tp) (n:Int):Tp:=if n<1 then t else t.adv 1
theorem z4rs (t:Tp) (n:Int):0≤tpN t n:=by
 unfold tpN; split
 ·omega
 ·exact Int.emod_nonneg _ (by omega)
theorem z2s7 (t:Tp) {n:Int} (h:1≤n):tpN t n<n:=by
 unfold tpN; rw [if_neg (by omega)]; exact Int.emod_lt_of_pos _ (by omega)
theorem z1rh (t:Tp) (m:Nat):(t.adv m).sl=t.sl:=by simp [Tp.adv,Tp.sl]
theorem zpza (t:Tp) (m:Nat):(t.adv m).at_=t.at_+m:=by simp [Tp.adv]
theorem zk2k (t:Tp) (m:Nat):(t.adv m).l=t.l:=by simp [Tp.adv]
attribute [simp] z1rh zpza zk2k
theorem zhly (x n:Int) (h:1≤n) (h2:n≤4294967296):IntKind.i64.wrap (x.tmod n+n)=x.tmod n+n∧(x.tmod n+n).tmod n=x % n:=by
 have h1:=Int.tmod_lt_of_pos x (show 0<n by omega)
 have h3 : -n<x.tmod n:=by
  have:=Int.lt_tmod_of_pos x (show 0<n by omega)
  omega
 refine ⟨wrap_i64 (by omega) (by omega),?_⟩
 rw [Int.tmod_eq_emod_of_nonneg (by omega),Int.add_emod_right]
 rw [Int.tmod_eq_emod]
 split
 ·simp
 ·rw [Int.natAbs_of_nonneg (show 0≤n by omega)]; simp
theorem z1hg (t:Tp) (n:Int) (ht:t.at_<4294967296) (hn:n≤4294967296):RunsF tbl0 a29 [.mp 0 2 0,.int .i64 n] [.cells (tpC t)] (.int .i64 (tpN t n)) [.cells (tpC (tpS t n))]:=by
 refine ⟨?_⟩
 by_cases h:n<1
 ·have e1:tpN t n=0:=by rw [tpN,if_pos h]
  have e2:tpS t n=t:=by rw [tpS,if_pos h]
  rw [e1,e2]
  simp (disch:=first|omega|simp<;>omega|fail) [-zA,-zB,-zC,-zD,-zE,a29,tpC,h]
 have e2:tpS t n=t.adv 1:=by rw [tpS,if_neg h]
 obtain ⟨f1,f2⟩:=zhly (zq5q t) n (by omega) hn
 have e3:tpN t n=zq5q t % n:=by rw [tpN,if_neg h]
 rw [← e3] at f2
 rw [e2]
 have hn0:n≠0:=by omega
 by_cases hl:t.at_<t.l.length
 ·have hl':(t.at_:Int)<t.l.length:=by omega
  have hr:t.l[t.at_]=zq5q t:=by rw [zq5q,dif_pos hl]
  have hi:=fun H=>zmwh t H hl
  simp (disch:=first|omega|simp<;>omega|fail) [-zA,-zB,-zC,-zD,-zE,a29,tpC,h,hl,hl',hi,hr,hn0,f1,f2,-Int.tmod_eq_emod_of_nonneg]
 ·have hl':¬ (t.at_:Int)<t.l.length:=by omega
  have hr:(t.at_:Int)*7+3=zq5q t:=by rw [zq5q,dif_neg hl]
  have hw:(t.at_:Int)*7<9223372036854775808:=by omega
  simp (disch:=first|omega|simp<;>omega|fail) [-zA,-zB,-zC,-zD,-zE,a29,tpC,h,hl,hl',hr,hn0,f1,f2,-Int.tmod_eq_emod_of_nonneg]
theorem zjmf (t:Tp) (a b:Nat):(t.adv a).adv b=t.adv (a+b):=by simp [Tp.adv,Nat.add_assoc]
theorem zbrh (t:Tp):t.adv 0=t:=by simp [Tp.adv]
theorem zi8m {t:Tp} {n:Int} (h:1≤n):tpS t n=t.adv 1:=by rw [tpS,if_neg (by omega)]
noncomputable def z1m3:List DV→List DV→Option (DV × List DV):=conT (fun a:Tp × Int=>a.1.at_<4294967296∧a.2≤4294967296) (fun a=>[.int .i64 a.2]) (fun a=>tpC a.1) (fun a=>(.int .i64 (tpN a.1 a.2),tpC (tpS a.1 a.2)))
theorem zs7j {t:Tp} {n:Int} (h1:t.at_<4294967296) (h2:n≤4294967296):z1m3 [.int .i64 n] (tpC t)=some (.int .i64 (tpN t n),tpC (tpS t n)) :=
 ztyo (A:=fun a:Tp × Int=>a.1.at_<4294967296∧a.2≤4294967296) (f:=fun a=>[.int .i64 a.2]) (s:=fun a=>tpC a.1) (by
  rintro ⟨a,n⟩ ⟨b,m⟩ e1 e2
  simp only [List.cons.injEq,DV.int.injEq,true_and,and_true] at e1
  rw [e1,z15z e2]) (t,n) ⟨h1,h2⟩
theorem z44h {t:Tp} {n:Int} (h1:t.at_<4294967296) (h2:n≤4294967296) (h3:1≤n):z1m3 [.int .i64 n] (tpC t)=some (.int .i64 (tpN t n),tpC (t.adv 1)):=by rw [zs7j h1 h2,zi8m h3]
theorem z51e:(Con.tch z1m3).Sound P 29 :=
 zqeo (fun a _=>⟨rfl,zs7w _,rfl,zs7w _⟩) fun a h=>zizi mix zr5o Tryz.func29 ztig (z1hg a.1 a.2 h.1 h.2) (Nat.le_refl _)
noncomputable def T150:Tbl:=addT 29 (.tch z1m3) tbl0
theorem zp0f:T150 29 = .tch z1m3:=by simp [T150]
theorem zt0z:T150.Sound P:=z0rp z51e zr5o
def zzh5 (t:Tp) (l:List (List UInt8)):List UInt8:=l.getD (tpN t l.length).toNat []
theorem zqrp (t:Tp) {l:List (List UInt8)} (h:l≠[]):zzh5 t l ∈ l:=by
 have h0:1≤l.length:=by cases l with|nil=>exact absurd rfl h|cons _ _=>simp
 have h1:=z4rs t l.length
 have h2:=z2s7 t (n:=l.length) (by omega)
 have h3:(tpN t l.length).toNat<l.length:=by omega
 rw [zzh5,List.getD_eq_getElem?_getD,List.getElem?_eq_getElem h3]
 exact List.getElem_mem h3
theorem z4zb (t:Tp) (l:List (List UInt8)) (ht:t.at_<4000000000) (h0:1≤l.length) (hl:l.length≤4294967296):RunsF T150 a57 [.mp 0 2 0,.sl true 1 l.length (l.map .str)] [.cells (tpC t)] (.str (zzh5 t l)) [.cells (tpC (t.adv 1))]:=by
 refine ⟨?_⟩
 have h1:=z4rs t l.length
 have h2:=z2s7 t (n:=l.length) (by omega)
 obtain ⟨N,hN⟩ : ∃ N:Nat,tpN t l.length=N:=⟨_,(Int.toNat_of_nonneg h1).symm⟩
 have h3:N<l.length:=by omega
 have e:zzh5 t l=l[N]:=by rw [zzh5,hN,Int.toNat_natCast,List.getD_eq_getElem?_getD,List.getElem?_eq_getElem h3]; rfl
 have hd:((l.map DV.str).drop N).take 1=[.str l[N]]:=by
  rw [← List.map_drop,List.drop_eq_getElem_cons h3]; rfl
 have hfz:fzL 1 [.cells (tpC (t.adv 1))] (tpC (t.adv 1)) (tpC (t.adv 1)):=znnb (zs7w _)
 simp (disch:=first|omega|simp<;>omega|fail) [-zA,-zB,-zC,-zD,-zE,a57,zp0f,z44h,hN,h3,e,hd,hfz,zbao]
noncomputable def zqck:List DV→List DV→Option (DV × List DV):=conT (fun a:Tp × List (List UInt8)=>a.1.at_<4000000000∧1≤a.2.length∧a.2.length≤4294967296) (fun a=>[.sl true 1 a.2.length (a.2.map .str)]) (fun a=>tpC a.1) (fun a=>(.str (zzh5 a.1 a.2),tpC (a.1.adv 1)))
theorem zsi8 : ∀ {a b:List (List UInt8)},a.map DV.str=b.map DV.str→a=b
 | [],[],_=>rfl
 | [],y::b,h=>by simp at h
 | x::a,[],h=>by simp at h
 | x::a,y::b,h=>by
  simp only [List.map_cons,List.cons.injEq,DV.str.injEq] at h
  rw [h.1,zsi8 h.2]
theorem ze0z {t:Tp} {l:List (List UInt8)} (h:t.at_<4000000000) (h1:1≤l.length) (h2:l.length≤4294967296):zqck [.sl true 1 l.length (l.map .str)] (tpC t)=some (.str (zzh5 t l),tpC (t.adv 1)) :=
 ztyo (A:=fun a:Tp × List (List UInt8)=>a.1.at_<4000000000∧1≤a.2.length∧a.2.length≤4294967296) (f:=fun a=>[.sl true 1 a.2.length (a.2.map .str)]) (s:=fun a=>tpC a.1) (by
  rintro ⟨a,n⟩ ⟨b,m⟩ e1 e2
  simp only [List.cons.injEq,DV.sl.injEq,true_and,and_true] at e1
  rw [zsi8 e1.2,z15z e2]) (t,l) ⟨h,h1,h2⟩
theorem z3hj:(Con.tch zqck).Sound P 57 :=
 zqeo (fun a _=>⟨by simp [zbao,zyp8]; exact List.rec rfl (fun _ _ ih=>by simpa [zbao,zyp8] using ih) a.2,zs7w _,rfl,zs7w _⟩) fun a h=>zizi mix zt0z Tryz.func57 zfce (z4zb a.1 a.2 h.1 h.2.1 h.2.2) (Nat.le_refl _)
def dgW (b:BitVec 8):Dg:=⟨b::rep 31 0#8,by simp [rep]⟩
abbrev dgB (z:Int):Dg:=dgW (BitVec.ofInt 8 z)
theorem z7ni {b:BitVec 8}:zvnk (dgC dg0) [(0,1,w8 b)]=some (.agg (dgC (dgW b))):=rfl
def sumV (t:Tp):Dg:=dgB (1+tpN t 6)
theorem zizk (t:Tp) (ht:t.at_<4000000000):RunsF T150 a54 [.mp 0 2 0] [.cells (tpC t)] (.agg (dgC (sumV t))) [.cells (tpC (t.adv 1))]:=by
 refine ⟨?_⟩
 have h1:=z4rs t 6
 have h2:=z2s7 t (n:=6) (by omega)
 have hfz : ∀ k,fzL 1 k (tpC (t.adv 1)) (tpC (t.adv 1)):=fun k=>znnb (zs7w _)
 simp (disch:=first|omega|simp<;>omega|fail) [-zA,-zB,-zC,-zD,-zE,a54,zp0f,z44h,hfz,z7ni,sumV,zojd (z3ot _)]
noncomputable def cSum:List DV→List DV→Option (DV × List DV):=conT (fun a:Tp=>a.at_<4000000000) (fun a=>[]) tpC (fun a=>(.agg (dgC (sumV a)),tpC (a.adv 1)))
theorem zliq {t:Tp} (h:t.at_<4000000000):cSum [] (tpC t)=some (.agg (dgC (sumV t)),tpC (t.adv 1)) :=
 ztyo (A:=fun a:Tp=>a.at_<4000000000) (f:=fun a=>[]) (s:=tpC) (fun a b _ e=>by rw [z15z e]) t h
theorem z8dz:(Con.tch cSum).Sound P 54 :=
 zqeo (fun a _=>⟨rfl,zs7w _,by simp [zyp8],zs7w _⟩) fun a h=>zizi mix zt0z Tryz.func54 zq4q (zizk a h) (Nat.le_refl _)
structure Nl where
 k:Option Bool
 l:List Int
 h:k=none→l=[]
 b:l.length≤9223372036854775807
def Nl.dv (x:Nl):DV:=slD x.k 1 x.l.length (x.l.flatMap inI)
def tp0 (x:Nl) (n:Nat):Tp:=⟨x.k.map fun b=>b&&(min x.l.length n == x.l.length),x.l.take n,fun e=>by simp at e; rw [x.h e]; simp,0⟩
theorem z5n2 (x:Nl) (n:Nat):(tp0 x n).at_=0:=rfl
theorem zkx7 (x:Nl):zyp8 x.dv=true:=z5yb ⟨x.k,x.l,x.h,0⟩
theorem z2kw {a b:Nl} (h:a.dv=b.dv):a=b:=by
 obtain ⟨k,l,h1,p⟩:=a
 obtain ⟨k',l',h2,p'⟩:=b
 have:=z15z (a:=⟨k,l,h1,0⟩) (b:=⟨k',l',h2,0⟩) (by simp only [tpC,Tp.sl]; simp only [Nl.dv] at h; rw [h])
 simp only [Tp.mk.injEq,and_true] at this
 rw [Nl.mk.injEq]; exact this
theorem zkbj {t:Tp}:zvnk [.nils,.int .i64 0] [(0,1,t.sl)]=some (.agg [t.sl,.int .i64 0]):=by simp [zvnk,zi03,zk7y]
theorem zb09 (x:Nl) (n:Nat) (hn:n≤4294967296):RunsF tbl0 a24 [x.dv,.int .i64 n] [] (.mp 0 2 0) [.cells (tpC (tp0 x n))]:=by
 refine ⟨?_⟩
 have hb:=x.b
 have hl : ∀ H,lenD H x.dv=some (.int .i64 x.l.length):=fun H=>zjc6 (fun e=>by rw [x.h e]; rfl)
 have hm:min (x.l.length:Int) n=((min x.l.length n:Nat):Int):=by omega
 have hs : ∀ H,ziwb H 1 x.dv none (some (.int .i64 ((min x.l.length n:Nat):Int))) none=some (tp0 x n).sl:=fun H=>by
  obtain ⟨k,l,h,b⟩:=x
  cases k with
  | none =>
   cases h rfl
   simp only [Nl.dv,z6vl,tp0,Tp.sl,Option.map_none,List.length_nil,Nat.zero_min]
   rw [zmk5 (p:=(0,0)) (by simp [zo77,iD])]
  | some b =>
   simp only [Nl.dv,zip4,tp0,Tp.sl,Option.map_some]
   rw [zygc (l:=0) (m:=min l.length n) (by simp [zo77,iD]; omega)]
   simp only [Nat.zero_mul,List.drop_zero,Nat.sub_zero,List.length_take,z10w zg97,Nat.min_comm n]
   congr 2
   rw [show List.take (min l.length n) l=List.take n l from by rw [Nat.min_comm,← List.take_take,List.take_of_length_le (Nat.le_refl l.length)]]
 have hat:=z5n2 x n
 have hfz : ∀ k,fzL 1 k (tpC (tp0 x n)) (tpC (tp0 x n)):=fun k=>znnb (zs7w _)
 have htp:tpC (tp0 x n)=[(tp0 x n).sl,.int .i64 0]:=rfl
 rw [htp] at hfz ⊢
 simp (disch:=first|omega|simp<;>omega|fail) [-zA,-zB,-zC,-zD,-zE,a24,hl,hm,hs,hfz,zkbj]
noncomputable def zl5p:List DV→Nat→Option (DV × List AObj):=conN (fun a:Nl × Nat=>a.2≤4294967296) (fun a=>[a.1.dv,.int .i64 a.2]) (fun a=>(.mp 0 2 0,[.cells (tpC (tp0 a.1 a.2))]))
theorem zwy3 {x:Nl} {n:Nat} (h:n≤4294967296) (m:Nat):zl5p [x.dv,.int .i64 n] m=some (.mp m 2 0,[.cells (tpC (tp0 x n))]):=by
 have:=zqtp (A:=fun a:Nl × Nat=>a.2≤4294967296) (f:=fun a=>[a.1.dv,.int .i64 a.2]) (g:=fun a=>(.mp 0 2 0,[.cells (tpC (tp0 a.1 a.2))])) (fun a b e=>by
  simp only [List.cons.injEq,DV.int.injEq,true_and,and_true,Int.natCast_inj] at e
  rw [z2kw e.1,e.2]) (x,n) h m
 rw [zl5p,this]
 simp only [z6iw,List.map_cons,List.map_nil,z05k,zj45 _ _ (zs7w _),Nat.add_zero]
theorem ze95:(Con.new zl5p).Sound P 24 :=
 z3ld (fun a _=>by simp [zbao,zkx7,zyp8]) fun a h=>zizi mix zr5o Tryz.func24 zcoa (zb09 a.1 a.2 h) (by simp)
end Go.Proofs.YtdnhbfmlklaldaaGreat
set_option linter.unusedSimpArgs false
set_option linter.unusedVariables false
namespace Go.Proofs.YtdnhbfmlklaldaaGreat
open Go Go.Am
structure CaSm (c:Cas):Prop where
 f:c.f.l.length≤14
 d : ∀ f ∈ c.f.l,f.docs.l.length≤2
 n:c.n.l.length≤8
 m : ∀ f ∈ c.n.l,f.dd.l.length≤1
 e:c.d.l.length≤1
def RqSm (q:Req):Prop:=(q.kind=1∨q.kind=3∨q.kind=4∨q.kind=5)→0≤q.n∧q.n≤6∧0≤q.m∧q.m≤1000000
theorem zarn {l:List Fct} {m:List Str} {k:Nat} (h : ∀ f ∈ l,f.docs.l.length≤2) (hm:m.length≤k):(ztt8 l m).length≤k*2:=by
 have:=zqok (f:=zm3u l) (m:=2) (l:=m) fun n _=>by
  unfold zm3u; split
  ·rename_i f e; exact h f (List.mem_of_find?_eq_some e)
  ·simp
 unfold ztt8
 have:m.length*2≤k*2:=Nat.mul_le_mul_right _ hm
 omega
theorem z8bz {l:List Fct} {n:Int} (h1:l.length≤1000) (h2 : ∀ f ∈ l,f.docs.l.length≤2) (h3:0≤n) (h4:n≤6):EnOK l n :=
 ⟨h1,h3,by omega,fun f hf=>by have:=h2 f hf; omega,by
  have:=zarn (m:=(zzy4 l).take n.toNat) (k:=6) h2 (by rw [List.length_take]; omega)
  omega⟩
theorem zu3n {c:Cas} {all:List Fct} {o:Org} {q:Req} (s:CaSm c) (ha:all.length≤14) (hq:RqSm q):CkOK c all o q:=by
 have L : ∀ {k:Int} {s':Sel},(zskr c.f.l k s').length≤1000:=fun {k} {s'}=>by have:=zjru (l:=c.f.l) (k:=k) (s:=s'); have:=s.f; omega
 have D : ∀ {k:Int} {s':Sel},∀ f ∈ zskr c.f.l k s',f.docs.l.length≤2:=fun f hf=>s.d f (zs6z.1 hf).1
 have hd:(decS c.n.l q.n).length≤8:=by
  have a:=zqok (f:=fun f:Fnd=>f.dd.l) (m:=1) (l:=c.n.l.filter fun f=>decide (q.n≤f.sev)) fun f hf=>s.m f (List.mem_filter.1 hf).1
  have b:=List.length_filter_le (fun f:Fnd=>decide (q.n≤f.sev)) c.n.l
  have:=s.n
  unfold decS; omega
 refine ⟨fun h => ?_,fun h => ?_,fun h => ?_,fun h => ?_,fun f hf=>by have:=s.d f hf; omega,fun h f hf=>by have:=s.d f hf; omega,⟨by have:=s.n; omega,fun f hf=>by have:=s.m f hf; omega⟩,by have:=s.e; omega,by have:=s.f; omega,by omega⟩
 ·obtain ⟨h1,h2,-,-⟩:=hq (.inl h); exact z8bz L D h1 h2
 ·obtain ⟨h1,h2,-,-⟩:=hq (.inr (.inl h)); exact z8bz L D h1 h2
 ·obtain ⟨h1,h2,h3,h4⟩:=hq (.inr (.inr (.inl h)))
  refine ⟨L,by have:=zjru (l:=all) (k:=4) (s := .source o); omega,h1,by omega,h3,h4,fun f hf=>by have:=D f hf; omega,?_⟩
  have:=zarn (m:=(zob0 (zskr c.f.l 4 (.source o)) (zskr all 4 (.source o))).take q.n.toNat) (k:=6) (D (k:=4) (s' := .source o)) (by rw [List.length_take]; omega)
  omega
 ·obtain ⟨h1,h2,-,-⟩:=hq (.inr (.inr (.inr h)))
  refine ⟨L,fun d=>z8bz ?_ (fun f hf=>D f (zs6z.1 hf).1) h1 h2,h1⟩
  have:=zjru (l:=zskr c.f.l 5 .every) (k:=5) (s := .target d)
  have:=L (k:=5) (s' := .every)
  omega
theorem zla1 {c:Cas} {docs:List Dg} (s:CaSm c):CaSm (zev9 c docs):=by
 have hl:(zev9 c docs).f.l=zcqw c docs:=zke4
 refine ⟨?_,fun f hf=>s.d f ?_,s.n,s.m,s.e⟩
 ·rw [hl]; have:=List.length_filter_le (fun f:Fct=>subB f.docs.l docs) c.f.l; have:=s.f; unfold zcqw; omega
 ·rw [hl] at hf; exact (List.mem_filter.1 hf).1
theorem zd9d {c:Cas} {o:Org} {q:Req} {docs:List Dg} (s:CaSm c) (hq:RqSm q):ByOK c o q docs :=
 ⟨zu3n (zla1 s) s.f hq,⟨by have:=s.n; omega,fun f hf=>by have:=s.m f hf; omega⟩,by have:=s.f; omega⟩
def mkD (b:B8):Sl Dg:=⟨some true,[dgW b],fun e=>by simp at e,by simp⟩
def o0:Org:=⟨dgW 1#8,[108],[114]⟩
def fa1:Fct:=⟨1,[98],dgW 1#8,[108],[114],5,false,dg0,mkD 7#8⟩
def fa2:Fct:=⟨1,[97],dgW 1#8,[108],[114],5,false,dg0,mkD 6#8⟩
def ca0:Cas:=⟨dg0,9,⟨some true,[fa1,fa2],fun e=>by simp at e,by simp⟩,nilS,nilS⟩
theorem z5pm:CaSm ca0:=⟨by decide,by decide,by decide,by decide,by decide⟩
theorem bd_o:zvnk [w8 0#8,w8 0#8,w8 0#8,w8 0#8,w8 0#8,w8 0#8,w8 0#8,w8 0#8,w8 0#8,w8 0#8,w8 0#8,w8 0#8,w8 0#8,w8 0#8,w8 0#8,w8 0#8,w8 0#8,w8 0#8,w8 0#8,w8 0#8,w8 0#8,w8 0#8,w8 0#8,w8 0#8,w8 0#8,w8 0#8,w8 0#8,w8 0#8,w8 0#8,w8 0#8,w8 0#8,w8 0#8,.str [],.str []] [(0,32,.agg (dgC (dgW 1#8))),(32,1,.str [108]),(33,1,.str [114])]=some (.agg (orC o0)):=rfl
theorem bs_d {b:B8}:bslD 32 1 (dgC dg0) [(0,32,.agg (dgC (dgW b)))]=some (.sl true 32 1 (dgC (dgW b))):=rfl
theorem zelr:zvnk [.int .i64 0,.str [],w8 0#8,w8 0#8,w8 0#8,w8 0#8,w8 0#8,w8 0#8,w8 0#8,w8 0#8,w8 0#8,w8 0#8,w8 0#8,w8 0#8,w8 0#8,w8 0#8,w8 0#8,w8 0#8,w8 0#8,w8 0#8,w8 0#8,w8 0#8,w8 0#8,w8 0#8,w8 0#8,w8 0#8,w8 0#8,w8 0#8,w8 0#8,w8 0#8,w8 0#8,w8 0#8,w8 0#8,w8 0#8,.str [],.str [],.int .i64 0,.bool false,w8 0#8,w8 0#8,w8 0#8,w8 0#8,w8 0#8,w8 0#8,w8 0#8,w8 0#8,w8 0#8,w8 0#8,w8 0#8,w8 0#8,w8 0#8,w8 0#8,w8 0#8,w8 0#8,w8 0#8,w8 0#8,w8 0#8,w8 0#8,w8 0#8,w8 0#8,w8 0#8,w8 0#8,w8 0#8,w8 0#8,w8 0#8,w8 0#8,w8 0#8,w8 0#8,w8 0#8,w8 0#8,.nils] [(0,1,.int .i64 1),(1,1,.str [98]),(2,32,.agg (dgC (dgW 1#8))),(34,1,.str [108]),(35,1,.str [114]),(36,1,.int .i64 5),(70,1,.sl true 32 1 (dgC (dgW 7#8)))]=some (.agg (faC fa1)):=rfl
theorem zvdq:zvnk [.int .i64 0,.str [],w8 0#8,w8 0#8,w8 0#8,w8 0#8,w8 0#8,w8 0#8,w8 0#8,w8 0#8,w8 0#8,w8 0#8,w8 0#8,w8 0#8,w8 0#8,w8 0#8,w8 0#8,w8 0#8,w8 0#8,w8 0#8,w8 0#8,w8 0#8,w8 0#8,w8 0#8,w8 0#8,w8 0#8,w8 0#8,w8 0#8,w8 0#8,w8 0#8,w8 0#8,w8 0#8,w8 0#8,w8 0#8,.str [],.str [],.int .i64 0,.bool false,w8 0#8,w8 0#8,w8 0#8,w8 0#8,w8 0#8,w8 0#8,w8 0#8,w8 0#8,w8 0#8,w8 0#8,w8 0#8,w8 0#8,w8 0#8,w8 0#8,w8 0#8,w8 0#8,w8 0#8,w8 0#8,w8 0#8,w8 0#8,w8 0#8,w8 0#8,w8 0#8,w8 0#8,w8 0#8,w8 0#8,w8 0#8,w8 0#8,w8 0#8,w8 0#8,w8 0#8,w8 0#8,.nils] [(0,1,.int .i64 1),(1,1,.str [97]),(2,32,.agg (dgC (dgW 1#8))),(34,1,.str [108]),(35,1,.str [114]),(36,1,.int .i64 5),(70,1,.sl true 32 1 (dgC (dgW 6#8)))]=some (.agg (faC fa2)):=rfl
theorem bs_f:bslD 71 2 [.int .i64 0,.str [],w8 0#8,w8 0#8,w8 0#8,w8 0#8,w8 0#8,w8 0#8,w8 0#8,w8 0#8,w8 0#8,w8 0#8,w8 0#8,w8 0#8,w8 0#8,w8 0#8,w8 0#8,w8 0#8,w8 0#8,w8 0#8,w8 0#8,w8 0#8,w8 0#8,w8 0#8,w8 0#8,w8 0#8,w8 0#8,w8 0#8,w8 0#8,w8 0#8,w8 0#8,w8 0#8,w8 0#8,w8 0#8,.str [],.str [],.int .i64 0,.bool false,w8 0#8,w8 0#8,w8 0#8,w8 0#8,w8 0#8,w8 0#8,w8 0#8,w8 0#8,w8 0#8,w8 0#8,w8 0#8,w8 0#8,w8 0#8,w8 0#8,w8 0#8,w8 0#8,w8 0#8,w8 0#8,w8 0#8,w8 0#8,w8 0#8,w8 0#8,w8 0#8,w8 0#8,w8 0#8,w8 0#8,w8 0#8,w8 0#8,w8 0#8,w8 0#8,w8 0#8,w8 0#8,.nils] [(0,71,.agg (faC fa1)),(71,71,.agg (faC fa2))]=some (ca0.f.dv 71 faC):=rfl
theorem bd_c:zvnk [w8 0#8,w8 0#8,w8 0#8,w8 0#8,w8 0#8,w8 0#8,w8 0#8,w8 0#8,w8 0#8,w8 0#8,w8 0#8,w8 0#8,w8 0#8,w8 0#8,w8 0#8,w8 0#8,w8 0#8,w8 0#8,w8 0#8,w8 0#8,w8 0#8,w8 0#8,w8 0#8,w8 0#8,w8 0#8,w8 0#8,w8 0#8,w8 0#8,w8 0#8,w8 0#8,w8 0#8,w8 0#8,.int .i64 0,.nils,.nils,.nils] [(32,1,.int .i64 9),(33,1,.sl true 71 2 (faC fa1++faC fa2))]=some (.agg (caC ca0)):=rfl
theorem bd_q {a b:Int}:zvnk [.int .i64 0,.int .i64 0,.int .i64 0,.str []] [(0,1,.int .i64 a),(1,1,.int .i64 b)]=some (.agg (rqC ⟨a,b,0,[]⟩)):=rfl
theorem fd_o:dgC (dgW 1#8)++[.str [108],.str [114]]=orC o0:=rfl
noncomputable def T650:Tbl:=addT 20 (.pure cChe) (addT 18 (.pure cOgs) (addT 22 (.pure cBy) tbl0))
theorem zruy:T650 20 = .pure cChe:=by simp [T650]
theorem zvn1:T650 18 = .pure cOgs:=by simp [T650]
theorem zuld:T650 22 = .pure cBy:=by simp [T650]
theorem z4dw:T650.Sound P:=z0rp zl6h (z0rp zvwe (z0rp zg7u zr5o))
theorem zgm9:Runs T650 a14 [] (.bool true):=by
 refine ⟨?_⟩
 have k1:=z1u0 (c:=ca0) (o:=o0) (q:=⟨1,2,0,[]⟩) fun _=>zu3n z5pm (by decide) (fun _=>by simp)
 have k2:=z1u0 (c:=ca0) (o:=o0) (q:=⟨1,3,0,[]⟩) fun _=>zu3n z5pm (by decide) (fun _=>by simp)
 have k3:=zudh (c:=ca0) (by decide)
 have k4:=z33l (c:=ca0) (o:=o0) (q:=⟨7,4,0,[]⟩) (docs:=mkD 6#8) fun _=>zd9d z5pm (fun h=>by simp at h)
 rw [show (mkD 6#8).dv 32 dgC = .sl true 32 1 (dgC (dgW 6#8)) from rfl] at k4
 have r1:(zwwp ca0 o0 ⟨1,2,0,[]⟩).holds=true:=by decide +kernel
 have r2:(zwwp ca0 o0 ⟨1,2,0,[]⟩).docs.l.length=2:=by decide +kernel
 have r3:(zwwp ca0 o0 ⟨1,3,0,[]⟩).holds=false:=by decide +kernel
 have r4:(zwwp ca0 o0 ⟨1,3,0,[]⟩).missing=1:=by decide +kernel
 have r5:(zz6h ca0.f.l).l=[o0]:=by decide +kernel
 have r6:ByS ca0 o0 ⟨7,4,0,[]⟩ (mkD 6#8).l=true:=by decide +kernel
 rw [r6] at k4
 obtain ⟨A,hA⟩ : ∃ A,zwwp ca0 o0 ⟨1,2,0,[]⟩=A:=⟨_,rfl⟩
 obtain ⟨B,hB⟩ : ∃ B,zwwp ca0 o0 ⟨1,3,0,[]⟩=B:=⟨_,rfl⟩
 obtain ⟨O,hO⟩ : ∃ O,zz6h ca0.f.l=O:=⟨_,rfl⟩
 rw [hA] at k1 r1 r2
 rw [hB] at k2 r3 r4
 rw [hO] at k3 r5
 have hl : ∀ H,lenD H (O.dv 34 orC)=some (.int .i64 1):=fun H=>by rw [zupj,r5]; rfl
 have hg : ∀ H,zpsc H 34 (O.dv 34 orC) 0=some (.ref (orC o0)):=fun H=>by
  have:=zalo (h:=H) (x:=O) (i:=0) zu78 (by rw [r5]; simp)
  rw [show ((0:Nat):Int)=0 from rfl] at this
  rw [this]; simp [r5]
 have hl2 : ∀ H,lenD H (A.docs.dv 32 dgC)=some (.int .i64 2):=fun H=>by rw [zupj,r2]; rfl
 simp (disch:=first|omega|simp<;>omega|fail) [-zA,-zB,-zC,-zD,-zE,a14,z7ni,bd_o,bs_d,zelr,zvdq,bs_f,bd_c,bd_q,fd_o,zruy,zvn1,zuld,k1,k2,k3,k4,hl,hg,hl2,r1,r3,r4]
noncomputable def cAw:List DV→Option DV
 | []=>some (.bool true)|_=>none
theorem zths:cAw []=some (.bool true):=rfl
theorem z5bk:(Con.pure cAw).Sound P 14:=by
 intro args v e
 unfold cAw at e
 split at e
 ·simp at e; subst e; exact zljw mix z4dw Tryz.func14 zzfl zgm9
 ·simp at e
end Go.Proofs.YtdnhbfmlklaldaaGreat
set_option linter.unusedSimpArgs false
set_option linter.unusedVariables false
namespace Go.Proofs.YtdnhbfmlklaldaaGreat
open Go Go.Am
def zr8m:ACode :=
 (.seq (.seq (.region false [⟨none,(some 19),.mov (.t 8)⟩,
  ⟨none,(some 20),.bin .gtr (.t 19) (.k (.int .i64 0))⟩])
 (.cond (.t 20) .skip
 (.exit 0)))
 (.seq (.block 1 (.region true [⟨none,(some 23),.fld 33 (.t 7)⟩,
  ⟨none,(some 24),.load 1 false (.t 23)⟩,
  ⟨none,(some 25),.mov (.t 0)⟩,
  ⟨none,(some 26),.callT (.k (.fn (.func 55) [] [])) [(.t 25)]⟩,
  ⟨none,(some 27),.bsl 71 1 [(.int .i64 0),(.str []),(w8 0#8),(w8 0#8),(w8 0#8),(w8 0#8),(w8 0#8),(w8 0#8),(w8 0#8),(w8 0#8),(w8 0#8),(w8 0#8),(w8 0#8),(w8 0#8),(w8 0#8),(w8 0#8),(w8 0#8),(w8 0#8),(w8 0#8),(w8 0#8),(w8 0#8),(w8 0#8),(w8 0#8),(w8 0#8),(w8 0#8),(w8 0#8),(w8 0#8),(w8 0#8),(w8 0#8),(w8 0#8),(w8 0#8),(w8 0#8),(w8 0#8),(w8 0#8),(.str []),(.str []),(.int .i64 0),(.bool false),(w8 0#8),(w8 0#8),(w8 0#8),(w8 0#8),(w8 0#8),(w8 0#8),(w8 0#8),(w8 0#8),(w8 0#8),(w8 0#8),(w8 0#8),(w8 0#8),(w8 0#8),(w8 0#8),(w8 0#8),(w8 0#8),(w8 0#8),(w8 0#8),(w8 0#8),(w8 0#8),(w8 0#8),(w8 0#8),(w8 0#8),(w8 0#8),(w8 0#8),(w8 0#8),(w8 0#8),(w8 0#8),(w8 0#8),(w8 0#8),(w8 0#8),(w8 0#8),.nils] [(0,71,(.t 26))]⟩,
  ⟨none,(some 28),.app 71 160 (.t 24) (.t 27)⟩,
  ⟨none,(some 29),.fld 33 (.t 7)⟩,
  ⟨none,none,.store 1 (.t 29) (.t 28)⟩,
  ⟨none,none,.apart (.t 7) (.t 25)⟩,
  ⟨none,none,.apart (.t 23) (.t 25)⟩]))
 (.region false [⟨none,(some 21),.mov (.t 8)⟩,
  ⟨none,(some 22),.bin .sub (.t 21) (.k (.int .i64 1))⟩,
  ⟨none,(some 8),.mov (.t 22)⟩])))
def z3xo (x0 x2 x6 x7 x8:DV) (h:List AObj):St:=⟨[x0,.junk,x2,.junk,.junk,.junk,x6,x7,x8]++js 45,h⟩
def zyoh:ACode :=
 (.seq (.seq (.region false [⟨none,(some 34),.mov (.t 9)⟩,
  ⟨none,(some 35),.bin .gtr (.t 34) (.k (.int .i64 0))⟩])
 (.cond (.t 35) .skip
 (.exit 2)))
 (.seq (.block 3 (.region true [⟨none,(some 38),.fld 34 (.t 7)⟩,
  ⟨none,(some 39),.load 1 false (.t 38)⟩,
  ⟨none,(some 40),.mov (.t 0)⟩,
  ⟨none,(some 41),.callT (.k (.fn (.func 56) [] [])) [(.t 40)]⟩,
  ⟨none,(some 42),.bsl 39 1 [(w8 0#8),(w8 0#8),(w8 0#8),(w8 0#8),(w8 0#8),(w8 0#8),(w8 0#8),(w8 0#8),(w8 0#8),(w8 0#8),(w8 0#8),(w8 0#8),(w8 0#8),(w8 0#8),(w8 0#8),(w8 0#8),(w8 0#8),(w8 0#8),(w8 0#8),(w8 0#8),(w8 0#8),(w8 0#8),(w8 0#8),(w8 0#8),(w8 0#8),(w8 0#8),(w8 0#8),(w8 0#8),(w8 0#8),(w8 0#8),(w8 0#8),(w8 0#8),(.int .i64 0),(.str []),(.int .i64 0),.nils,(.int .i64 0),.nils,(.bool false)] [(0,39,(.t 41))]⟩,
  ⟨none,(some 43),.app 39 128 (.t 39) (.t 42)⟩,
  ⟨none,(some 44),.fld 34 (.t 7)⟩,
  ⟨none,none,.store 1 (.t 44) (.t 43)⟩,
  ⟨none,none,.apart (.t 7) (.t 40)⟩,
  ⟨none,none,.apart (.t 38) (.t 40)⟩]))
 (.region false [⟨none,(some 36),.mov (.t 9)⟩,
  ⟨none,(some 37),.bin .sub (.t 36) (.k (.int .i64 1))⟩,
  ⟨none,(some 9),.mov (.t 37)⟩])))
def znsc (x0 x6 x7 x9:DV) (h:List AObj):St:=⟨[x0]++js 5++[x6,x7,.junk,x9]++js 44,h⟩
def a25:AFn where
 code:=(.seq (.region false [⟨none,(some 6),.alloc [(w8 0#8),(w8 0#8),(w8 0#8),(w8 0#8),(w8 0#8),(w8 0#8),(w8 0#8),(w8 0#8),(w8 0#8),(w8 0#8),(w8 0#8),(w8 0#8),(w8 0#8),(w8 0#8),(w8 0#8),(w8 0#8),(w8 0#8),(w8 0#8),(w8 0#8),(w8 0#8),(w8 0#8),(w8 0#8),(w8 0#8),(w8 0#8),(w8 0#8),(w8 0#8),(w8 0#8),(w8 0#8),(w8 0#8),(w8 0#8),(w8 0#8),(w8 0#8),(.int .i64 0),.nils,.nils,.nils]⟩])
 (.seq (.region false [⟨none,(some 10),.mov (.t 0)⟩,
  ⟨none,(some 11),.call (.k (.fn (.func 54) [] [])) [(.t 10)]⟩,
  ⟨none,(some 12),.mov (.t 0)⟩,
  ⟨none,(some 13),.call (.k (.fn (.func 29) [] [])) [(.t 12),(.k (.int .i64 40))]⟩,
  ⟨none,(some 14),.build [(w8 0#8),(w8 0#8),(w8 0#8),(w8 0#8),(w8 0#8),(w8 0#8),(w8 0#8),(w8 0#8),(w8 0#8),(w8 0#8),(w8 0#8),(w8 0#8),(w8 0#8),(w8 0#8),(w8 0#8),(w8 0#8),(w8 0#8),(w8 0#8),(w8 0#8),(w8 0#8),(w8 0#8),(w8 0#8),(w8 0#8),(w8 0#8),(w8 0#8),(w8 0#8),(w8 0#8),(w8 0#8),(w8 0#8),(w8 0#8),(w8 0#8),(w8 0#8),(.int .i64 0),.nils,.nils,.nils] [(0,32,(.t 11)),(32,1,(.t 13))]⟩,
  ⟨none,(some 7),.alloc [(w8 0#8),(w8 0#8),(w8 0#8),(w8 0#8),(w8 0#8),(w8 0#8),(w8 0#8),(w8 0#8),(w8 0#8),(w8 0#8),(w8 0#8),(w8 0#8),(w8 0#8),(w8 0#8),(w8 0#8),(w8 0#8),(w8 0#8),(w8 0#8),(w8 0#8),(w8 0#8),(w8 0#8),(w8 0#8),(w8 0#8),(w8 0#8),(w8 0#8),(w8 0#8),(w8 0#8),(w8 0#8),(w8 0#8),(w8 0#8),(w8 0#8),(w8 0#8),(.int .i64 0),.nils,.nils,.nils]⟩,
  ⟨none,none,.store 36 (.t 7) (.t 14)⟩])
 (.seq (.seq (.region false [⟨none,(some 15),.mov (.t 0)⟩,
  ⟨none,(some 16),.mov (.t 1)⟩,
  ⟨none,(some 17),.bin .add (.t 16) (.k (.int .i64 1))⟩,
  ⟨none,(some 18),.call (.k (.fn (.func 29) [] [])) [(.t 15),(.t 17)]⟩,
  ⟨none,(some 8),.mov (.t 18)⟩])
 (.block 0 (.loop zr8m)))
 (.seq (.seq (.region false [⟨none,(some 30),.mov (.t 0)⟩,
  ⟨none,(some 31),.mov (.t 2)⟩,
  ⟨none,(some 32),.bin .add (.t 31) (.k (.int .i64 1))⟩,
  ⟨none,(some 33),.call (.k (.fn (.func 29) [] [])) [(.t 30),(.t 32)]⟩,
  ⟨none,(some 9),.mov (.t 33)⟩])
 (.block 2 (.loop zyoh)))
 (.seq (.seq (.region false [⟨none,(some 45),.mov (.t 0)⟩,
  ⟨none,(some 46),.call (.k (.fn (.func 29) [] [])) [(.t 45),(.k (.int .i64 6))]⟩,
  ⟨none,(some 47),.bin .eql (.t 46) (.k (.int .i64 0))⟩])
 (.cond (.t 47) (.region false [⟨none,(some 48),.mov (.t 0)⟩,
  ⟨none,(some 49),.call (.k (.fn (.func 58) [] [])) []⟩,
  ⟨none,(some 50),.call (.k (.fn (.func 57) [] [])) [(.t 48),(.t 49)]⟩,
  ⟨none,(some 51),.bsl 1 1 [(.str [])] [(0,1,(.t 50))]⟩,
  ⟨none,(some 52),.fld 35 (.t 7)⟩,
  ⟨none,none,.store 1 (.t 52) (.t 51)⟩])
 .skip))
 (.seq (.region false [⟨none,(some 53),.load 36 true (.t 7)⟩,
  ⟨none,none,.store 36 (.t 6) (.t 53)⟩])
 .ret))))))
 ntmps:=54
 res:=[.cell 6 36 true]
theorem zgum:zsjc P Tryz.f25=some a25:=by kernel_rfl
def z44u:ACode :=
 (.seq (.seq (.region false [⟨none,(some 36),.mov (.t 4)⟩,
  ⟨none,(some 37),.bin .gtr (.t 36) (.k (.int .i64 0))⟩])
 (.cond (.t 37) .skip
 (.exit 0)))
 (.seq (.block 1 (.region true [⟨none,(some 40),.fld 70 (.t 3)⟩,
  ⟨none,(some 41),.load 1 false (.t 40)⟩,
  ⟨none,(some 42),.mov (.t 0)⟩,
  ⟨none,(some 43),.callT (.k (.fn (.func 29) [] [])) [(.t 42),(.k (.int .i64 12))]⟩,
  ⟨none,(some 44),.bin .add (.k (.int .i64 10)) (.t 43)⟩,
  ⟨none,(some 45),.conv .u8 (.t 44)⟩,
  ⟨none,(some 46),.build (rep 32 (w8 0#8)) [(0,1,(.t 45))]⟩,
  ⟨none,(some 47),.callN (.k (.fn (.func 93) [] [])) [(.t 41),(.t 46)]⟩,
  ⟨none,(some 48),.fld 70 (.t 3)⟩,
  ⟨none,none,.store 1 (.t 48) (.t 47)⟩,
  ⟨none,none,.apart (.t 3) (.t 42)⟩,
  ⟨none,none,.apart (.t 40) (.t 42)⟩]))
 (.region false [⟨none,(some 38),.mov (.t 4)⟩,
  ⟨none,(some 39),.bin .sub (.t 38) (.k (.int .i64 1))⟩,
  ⟨none,(some 4),.mov (.t 39)⟩])))
def zh8t (x0 x2 x3 x4:DV) (h:List AObj):St:=⟨[x0,.junk,x2,x3,x4]++js 45,h⟩
def a55:AFn where
 code:=(.seq (.region false [⟨none,(some 2),.alloc [(.int .i64 0),(.str []),(w8 0#8),(w8 0#8),(w8 0#8),(w8 0#8),(w8 0#8),(w8 0#8),(w8 0#8),(w8 0#8),(w8 0#8),(w8 0#8),(w8 0#8),(w8 0#8),(w8 0#8),(w8 0#8),(w8 0#8),(w8 0#8),(w8 0#8),(w8 0#8),(w8 0#8),(w8 0#8),(w8 0#8),(w8 0#8),(w8 0#8),(w8 0#8),(w8 0#8),(w8 0#8),(w8 0#8),(w8 0#8),(w8 0#8),(w8 0#8),(w8 0#8),(w8 0#8),(.str []),(.str []),(.int .i64 0),(.bool false),(w8 0#8),(w8 0#8),(w8 0#8),(w8 0#8),(w8 0#8),(w8 0#8),(w8 0#8),(w8 0#8),(w8 0#8),(w8 0#8),(w8 0#8),(w8 0#8),(w8 0#8),(w8 0#8),(w8 0#8),(w8 0#8),(w8 0#8),(w8 0#8),(w8 0#8),(w8 0#8),(w8 0#8),(w8 0#8),(w8 0#8),(w8 0#8),(w8 0#8),(w8 0#8),(w8 0#8),(w8 0#8),(w8 0#8),(w8 0#8),(w8 0#8),(w8 0#8),.nils]⟩])
 (.seq (.region false [⟨none,(some 5),.mov (.t 0)⟩,
  ⟨none,(some 6),.call (.k (.fn (.func 29) [] [])) [(.t 5),(.k (.int .i64 5))]⟩,
  ⟨none,(some 7),.bin .add (.k (.int .i64 1)) (.t 6)⟩,
  ⟨none,(some 8),.mov (.t 0)⟩,
  ⟨none,(some 9),.call (.k (.fn (.func 92) [] [])) []⟩,
  ⟨none,(some 10),.call (.k (.fn (.func 57) [] [])) [(.t 8),(.t 9)]⟩,
  ⟨none,(some 11),.mov (.t 0)⟩,
  ⟨none,(some 12),.call (.k (.fn (.func 29) [] [])) [(.t 11),(.k (.int .i64 2))]⟩,
  ⟨none,(some 13),.bin .add (.k (.int .i64 1)) (.t 12)⟩,
  ⟨none,(some 14),.conv .u8 (.t 13)⟩,
  ⟨none,(some 15),.build (rep 32 (w8 0#8)) [(0,1,(.t 14))]⟩,
  ⟨none,(some 16),.mov (.t 0)⟩,
  ⟨none,(some 17),.bsl 1 2 [(.str [])] [(0,1,(.k (.str [115,104,111,112]))),(1,1,(.k (.str [119,101,98])))]⟩,
  ⟨none,(some 18),.call (.k (.fn (.func 57) [] [])) [(.t 16),(.t 17)]⟩,
  ⟨none,(some 19),.mov (.t 0)⟩,
  ⟨none,(some 20),.bsl 1 3 [(.str [])] [(0,1,(.k (.str [114]))),(1,1,(.k (.str [114]))),(2,1,(.k (.str [115])))]⟩,
  ⟨none,(some 21),.call (.k (.fn (.func 57) [] [])) [(.t 19),(.t 20)]⟩,
  ⟨none,(some 22),.mov (.t 0)⟩,
  ⟨none,(some 23),.call (.k (.fn (.func 29) [] [])) [(.t 22),(.k (.int .i64 20))]⟩,
  ⟨none,(some 24),.mov (.t 0)⟩,
  ⟨none,(some 25),.call (.k (.fn (.func 29) [] [])) [(.t 24),(.k (.int .i64 4))]⟩,
  ⟨none,(some 26),.bin .gtr (.t 25) (.k (.int .i64 0))⟩,
  ⟨none,(some 27),.mov (.t 0)⟩,
  ⟨none,(some 28),.call (.k (.fn (.func 29) [] [])) [(.t 27),(.k (.int .i64 2))]⟩,
  ⟨none,(some 29),.bin .add (.k (.int .i64 1)) (.t 28)⟩,
  ⟨none,(some 30),.conv .u8 (.t 29)⟩,
  ⟨none,(some 31),.build (rep 32 (w8 0#8)) [(0,1,(.t 30))]⟩,
  ⟨none,(some 32),.build [(.int .i64 0),(.str []),(w8 0#8),(w8 0#8),(w8 0#8),(w8 0#8),(w8 0#8),(w8 0#8),(w8 0#8),(w8 0#8),(w8 0#8),(w8 0#8),(w8 0#8),(w8 0#8),(w8 0#8),(w8 0#8),(w8 0#8),(w8 0#8),(w8 0#8),(w8 0#8),(w8 0#8),(w8 0#8),(w8 0#8),(w8 0#8),(w8 0#8),(w8 0#8),(w8 0#8),(w8 0#8),(w8 0#8),(w8 0#8),(w8 0#8),(w8 0#8),(w8 0#8),(w8 0#8),(.str []),(.str []),(.int .i64 0),(.bool false),(w8 0#8),(w8 0#8),(w8 0#8),(w8 0#8),(w8 0#8),(w8 0#8),(w8 0#8),(w8 0#8),(w8 0#8),(w8 0#8),(w8 0#8),(w8 0#8),(w8 0#8),(w8 0#8),(w8 0#8),(w8 0#8),(w8 0#8),(w8 0#8),(w8 0#8),(w8 0#8),(w8 0#8),(w8 0#8),(w8 0#8),(w8 0#8),(w8 0#8),(w8 0#8),(w8 0#8),(w8 0#8),(w8 0#8),(w8 0#8),(w8 0#8),(w8 0#8),.nils] [(0,1,(.t 7)),(1,1,(.t 10)),(2,32,(.t 15)),(34,1,(.t 18)),(35,1,(.t 21)),(36,1,(.t 23)),(37,1,(.t 26)),(38,32,(.t 31))]⟩,
  ⟨none,(some 3),.alloc [(.int .i64 0),(.str []),(w8 0#8),(w8 0#8),(w8 0#8),(w8 0#8),(w8 0#8),(w8 0#8),(w8 0#8),(w8 0#8),(w8 0#8),(w8 0#8),(w8 0#8),(w8 0#8),(w8 0#8),(w8 0#8),(w8 0#8),(w8 0#8),(w8 0#8),(w8 0#8),(w8 0#8),(w8 0#8),(w8 0#8),(w8 0#8),(w8 0#8),(w8 0#8),(w8 0#8),(w8 0#8),(w8 0#8),(w8 0#8),(w8 0#8),(w8 0#8),(w8 0#8),(w8 0#8),(.str []),(.str []),(.int .i64 0),(.bool false),(w8 0#8),(w8 0#8),(w8 0#8),(w8 0#8),(w8 0#8),(w8 0#8),(w8 0#8),(w8 0#8),(w8 0#8),(w8 0#8),(w8 0#8),(w8 0#8),(w8 0#8),(w8 0#8),(w8 0#8),(w8 0#8),(w8 0#8),(w8 0#8),(w8 0#8),(w8 0#8),(w8 0#8),(w8 0#8),(w8 0#8),(w8 0#8),(w8 0#8),(w8 0#8),(w8 0#8),(w8 0#8),(w8 0#8),(w8 0#8),(w8 0#8),(w8 0#8),.nils]⟩,
  ⟨none,none,.store 71 (.t 3) (.t 32)⟩])
 (.seq (.seq (.region false [⟨none,(some 33),.mov (.t 0)⟩,
  ⟨none,(some 34),.call (.k (.fn (.func 29) [] [])) [(.t 33),(.k (.int .i64 2))]⟩,
  ⟨none,(some 35),.bin .add (.k (.int .i64 1)) (.t 34)⟩,
  ⟨none,(some 4),.mov (.t 35)⟩])
 (.block 0 (.loop z44u)))
 (.seq (.region false [⟨none,(some 49),.load 71 true (.t 3)⟩,
  ⟨none,none,.store 71 (.t 2) (.t 49)⟩])
 .ret))))
 ntmps:=50
 res:=[.cell 2 71 true]
theorem ze8s:zsjc P Tryz.f55=some a55:=by kernel_rfl
def a56:AFn where
 code:=(.seq (.region false [⟨none,(some 2),.alloc [(w8 0#8),(w8 0#8),(w8 0#8),(w8 0#8),(w8 0#8),(w8 0#8),(w8 0#8),(w8 0#8),(w8 0#8),(w8 0#8),(w8 0#8),(w8 0#8),(w8 0#8),(w8 0#8),(w8 0#8),(w8 0#8),(w8 0#8),(w8 0#8),(w8 0#8),(w8 0#8),(w8 0#8),(w8 0#8),(w8 0#8),(w8 0#8),(w8 0#8),(w8 0#8),(w8 0#8),(w8 0#8),(w8 0#8),(w8 0#8),(w8 0#8),(w8 0#8),(.int .i64 0),(.str []),(.int .i64 0),.nils,(.int .i64 0),.nils,(.bool false)]⟩])
 (.seq (.region false [⟨none,(some 4),.mov (.t 0)⟩,
  ⟨none,(some 5),.call (.k (.fn (.func 29) [] [])) [(.t 4),(.k (.int .i64 2))]⟩,
  ⟨none,(some 6),.bin .add (.k (.int .i64 1)) (.t 5)⟩,
  ⟨none,(some 7),.conv .u8 (.t 6)⟩,
  ⟨none,(some 8),.build (rep 32 (w8 0#8)) [(0,1,(.t 7))]⟩,
  ⟨none,(some 9),.mov (.t 0)⟩,
  ⟨none,(some 10),.call (.k (.fn (.func 29) [] [])) [(.t 9),(.k (.int .i64 4))]⟩,
  ⟨none,(some 11),.mov (.t 0)⟩,
  ⟨none,(some 12),.call (.k (.fn (.func 58) [] [])) []⟩,
  ⟨none,(some 13),.call (.k (.fn (.func 57) [] [])) [(.t 11),(.t 12)]⟩,
  ⟨none,(some 14),.mov (.t 0)⟩,
  ⟨none,(some 15),.call (.k (.fn (.func 29) [] [])) [(.t 14),(.k (.int .i64 10))]⟩,
  ⟨none,(some 16),.bin .add (.k (.int .i64 1)) (.t 15)⟩,
  ⟨none,(some 17),.mov (.t 0)⟩,
  ⟨none,(some 18),.call (.k (.fn (.func 29) [] [])) [(.t 17),(.k (.int .i64 3))]⟩,
  ⟨none,(some 19),.bin .add (.k (.int .i64 30)) (.t 18)⟩,
  ⟨none,(some 20),.conv .u8 (.t 19)⟩,
  ⟨none,(some 21),.build (rep 32 (w8 0#8)) [(0,1,(.t 20))]⟩,
  ⟨none,(some 22),.bsl 32 1 (rep 32 (w8 0#8)) [(0,32,(.t 21))]⟩,
  ⟨none,(some 23),.build [(.int .i64 0),(.str []),(.int .i64 0),.nils] [(0,1,(.t 10)),(1,1,(.t 13)),(2,1,(.t 16)),(3,1,(.t 22))]⟩,
  ⟨none,(some 24),.build [(w8 0#8),(w8 0#8),(w8 0#8),(w8 0#8),(w8 0#8),(w8 0#8),(w8 0#8),(w8 0#8),(w8 0#8),(w8 0#8),(w8 0#8),(w8 0#8),(w8 0#8),(w8 0#8),(w8 0#8),(w8 0#8),(w8 0#8),(w8 0#8),(w8 0#8),(w8 0#8),(w8 0#8),(w8 0#8),(w8 0#8),(w8 0#8),(w8 0#8),(w8 0#8),(w8 0#8),(w8 0#8),(w8 0#8),(w8 0#8),(w8 0#8),(w8 0#8),(.int .i64 0),(.str []),(.int .i64 0),.nils,(.int .i64 0),.nils,(.bool false)] [(0,32,(.t 8)),(32,4,(.t 23))]⟩,
  ⟨none,(some 3),.alloc [(w8 0#8),(w8 0#8),(w8 0#8),(w8 0#8),(w8 0#8),(w8 0#8),(w8 0#8),(w8 0#8),(w8 0#8),(w8 0#8),(w8 0#8),(w8 0#8),(w8 0#8),(w8 0#8),(w8 0#8),(w8 0#8),(w8 0#8),(w8 0#8),(w8 0#8),(w8 0#8),(w8 0#8),(w8 0#8),(w8 0#8),(w8 0#8),(w8 0#8),(w8 0#8),(w8 0#8),(w8 0#8),(w8 0#8),(w8 0#8),(w8 0#8),(w8 0#8),(.int .i64 0),(.str []),(.int .i64 0),.nils,(.int .i64 0),.nils,(.bool false)]⟩,
  ⟨none,none,.store 39 (.t 3) (.t 24)⟩])
 (.seq (.region false [⟨none,(some 25),.mov (.t 0)⟩,
  ⟨none,(some 26),.call (.k (.fn (.func 29) [] [])) [(.t 25),(.k (.int .i64 4))]⟩,
  ⟨none,(some 27),.bin .add (.k (.int .i64 1)) (.t 26)⟩,
  ⟨none,(some 28),.mov (.t 0)⟩,
  ⟨none,(some 29),.call (.k (.fn (.func 29) [] [])) [(.t 28),(.k (.int .i64 6))]⟩,
  ⟨none,(some 30),.bin .eql (.t 29) (.k (.int .i64 0))⟩,
  ⟨none,(some 31),.build [(.int .i64 0),.nils,(.bool false)] [(0,1,(.t 27)),(2,1,(.t 30))]⟩,
  ⟨none,(some 32),.fld 36 (.t 3)⟩,
  ⟨none,none,.store 3 (.t 32) (.t 31)⟩])
 (.seq (.seq (.region false [⟨none,(some 33),.mov (.t 0)⟩,
  ⟨none,(some 34),.call (.k (.fn (.func 29) [] [])) [(.t 33),(.k (.int .i64 3))]⟩,
  ⟨none,(some 35),.bin .gtr (.t 34) (.k (.int .i64 0))⟩])
 (.cond (.t 35) (.region false [⟨none,(some 36),.mov (.t 0)⟩,
  ⟨none,(some 37),.call (.k (.fn (.func 29) [] [])) [(.t 36),(.k (.int .i64 12))]⟩,
  ⟨none,(some 38),.bin .add (.k (.int .i64 10)) (.t 37)⟩,
  ⟨none,(some 39),.conv .u8 (.t 38)⟩,
  ⟨none,(some 40),.build (rep 32 (w8 0#8)) [(0,1,(.t 39))]⟩,
  ⟨none,(some 41),.bsl 32 1 (rep 32 (w8 0#8)) [(0,32,(.t 40))]⟩,
  ⟨none,(some 42),.fld 36 (.t 3)⟩,
  ⟨none,(some 43),.fld 1 (.t 42)⟩,
  ⟨none,none,.store 1 (.t 43) (.t 41)⟩])
 .skip))
 (.seq (.region false [⟨none,(some 44),.load 39 true (.t 3)⟩,
  ⟨none,none,.store 39 (.t 2) (.t 44)⟩])
 .ret)))))
 ntmps:=45
 res:=[.cell 2 39 true]
theorem zcwb:zsjc P Tryz.f56=some a56:=by kernel_rfl
def a26:AFn where
 code:=(.seq (.region false [⟨none,(some 2),.alloc [(w8 0#8),(w8 0#8),(w8 0#8),(w8 0#8),(w8 0#8),(w8 0#8),(w8 0#8),(w8 0#8),(w8 0#8),(w8 0#8),(w8 0#8),(w8 0#8),(w8 0#8),(w8 0#8),(w8 0#8),(w8 0#8),(w8 0#8),(w8 0#8),(w8 0#8),(w8 0#8),(w8 0#8),(w8 0#8),(w8 0#8),(w8 0#8),(w8 0#8),(w8 0#8),(w8 0#8),(w8 0#8),(w8 0#8),(w8 0#8),(w8 0#8),(w8 0#8),(.str []),(.str [])]⟩])
 (.seq (.region false [⟨none,(some 3),.mov (.t 0)⟩,
  ⟨none,(some 4),.call (.k (.fn (.func 29) [] [])) [(.t 3),(.k (.int .i64 2))]⟩,
  ⟨none,(some 5),.bin .add (.k (.int .i64 1)) (.t 4)⟩,
  ⟨none,(some 6),.conv .u8 (.t 5)⟩,
  ⟨none,(some 7),.build (rep 32 (w8 0#8)) [(0,1,(.t 6))]⟩,
  ⟨none,(some 8),.mov (.t 0)⟩,
  ⟨none,(some 9),.bsl 1 2 [(.str [])] [(0,1,(.k (.str [115,104,111,112]))),(1,1,(.k (.str [119,101,98])))]⟩,
  ⟨none,(some 10),.call (.k (.fn (.func 57) [] [])) [(.t 8),(.t 9)]⟩,
  ⟨none,(some 11),.mov (.t 0)⟩,
  ⟨none,(some 12),.bsl 1 2 [(.str [])] [(0,1,(.k (.str [114]))),(1,1,(.k (.str [115])))]⟩,
  ⟨none,(some 13),.call (.k (.fn (.func 57) [] [])) [(.t 11),(.t 12)]⟩,
  ⟨none,(some 14),.build [(w8 0#8),(w8 0#8),(w8 0#8),(w8 0#8),(w8 0#8),(w8 0#8),(w8 0#8),(w8 0#8),(w8 0#8),(w8 0#8),(w8 0#8),(w8 0#8),(w8 0#8),(w8 0#8),(w8 0#8),(w8 0#8),(w8 0#8),(w8 0#8),(w8 0#8),(w8 0#8),(w8 0#8),(w8 0#8),(w8 0#8),(w8 0#8),(w8 0#8),(w8 0#8),(w8 0#8),(w8 0#8),(w8 0#8),(w8 0#8),(w8 0#8),(w8 0#8),(.str []),(.str [])] [(0,32,(.t 7)),(32,1,(.t 10)),(33,1,(.t 13))]⟩,
  ⟨none,none,.store 34 (.t 2) (.t 14)⟩])
 .ret))
 ntmps:=15
 res:=[.cell 2 34 true]
theorem z9gs:zsjc P Tryz.f26=some a26:=by kernel_rfl
def a27:AFn where
 code:=(.seq (.region false [⟨none,(some 2),.alloc [(.int .i64 0),(.int .i64 0),(.int .i64 0),(.str [])]⟩])
 (.seq (.region false [⟨none,(some 4),.mov (.t 0)⟩,
  ⟨none,(some 5),.call (.k (.fn (.func 29) [] [])) [(.t 4),(.k (.int .i64 8))]⟩,
  ⟨none,(some 6),.bin .add (.k (.int .i64 1)) (.t 5)⟩,
  ⟨none,(some 7),.build [(.int .i64 0),(.int .i64 0),(.int .i64 0),(.str [])] [(0,1,(.t 6))]⟩,
  ⟨none,(some 3),.alloc [(.int .i64 0),(.int .i64 0),(.int .i64 0),(.str [])]⟩,
  ⟨none,none,.store 4 (.t 3) (.t 7)⟩])
 (.seq (.seq (.region false [⟨none,(some 8),.fld 0 (.t 3)⟩,
  ⟨none,(some 9),.load 1 false (.t 8)⟩])
 (.block 0 (.seq (.seq (.region false [⟨none,(some 11),.bin .eql (.t 9) (.k (.int .i64 1))⟩,
  ⟨none,(some 10),.mov (.t 11)⟩])
 (.cond (.t 10) .skip
 (.seq (.region false [⟨none,(some 12),.bin .eql (.t 9) (.k (.int .i64 3))⟩,
  ⟨none,(some 10),.mov (.t 12)⟩])
 (.cond (.t 10) .skip
 (.region false [⟨none,(some 13),.bin .eql (.t 9) (.k (.int .i64 5))⟩,
  ⟨none,(some 10),.mov (.t 13)⟩])))))
 (.cond (.t 10) (.region false [⟨none,(some 14),.mov (.t 0)⟩,
  ⟨none,(some 15),.call (.k (.fn (.func 29) [] [])) [(.t 14),(.k (.int .i64 3))]⟩,
  ⟨none,(some 16),.bin .add (.k (.int .i64 1)) (.t 15)⟩,
  ⟨none,(some 17),.fld 1 (.t 3)⟩,
  ⟨none,none,.store 1 (.t 17) (.t 16)⟩])
 (.seq (.region false [⟨none,(some 19),.bin .eql (.t 9) (.k (.int .i64 4))⟩,
  ⟨none,(some 18),.mov (.t 19)⟩])
 (.cond (.t 18) (.region false [⟨none,(some 20),.mov (.t 0)⟩,
  ⟨none,(some 21),.call (.k (.fn (.func 29) [] [])) [(.t 20),(.k (.int .i64 2))]⟩,
  ⟨none,(some 22),.bin .add (.k (.int .i64 1)) (.t 21)⟩,
  ⟨none,(some 23),.mov (.t 0)⟩,
  ⟨none,(some 24),.call (.k (.fn (.func 29) [] [])) [(.t 23),(.k (.int .i64 2))]⟩,
  ⟨none,(some 25),.fld 1 (.t 3)⟩,
  ⟨none,none,.store 1 (.t 25) (.t 22)⟩,
  ⟨none,(some 26),.fld 2 (.t 3)⟩,
  ⟨none,none,.store 1 (.t 26) (.t 24)⟩])
 (.seq (.region false [⟨none,(some 28),.bin .eql (.t 9) (.k (.int .i64 2))⟩,
  ⟨none,(some 27),.mov (.t 28)⟩])
 (.cond (.t 27) (.region false [⟨none,(some 29),.mov (.t 0)⟩,
  ⟨none,(some 30),.bsl 1 2 [(.str [])] [(0,1,(.k (.str [115,104,111,112]))),(1,1,(.k (.str [119,101,98])))]⟩,
  ⟨none,(some 31),.call (.k (.fn (.func 57) [] [])) [(.t 29),(.t 30)]⟩,
  ⟨none,(some 32),.fld 3 (.t 3)⟩,
  ⟨none,none,.store 1 (.t 32) (.t 31)⟩])
 (.seq (.region false [⟨none,(some 34),.bin .eql (.t 9) (.k (.int .i64 6))⟩,
  ⟨none,(some 33),.mov (.t 34)⟩])
 (.cond (.t 33) (.region false [⟨none,(some 35),.mov (.t 0)⟩,
  ⟨none,(some 36),.call (.k (.fn (.func 29) [] [])) [(.t 35),(.k (.int .i64 10))]⟩,
  ⟨none,(some 37),.bin .add (.k (.int .i64 1)) (.t 36)⟩,
  ⟨none,(some 38),.fld 1 (.t 3)⟩,
  ⟨none,none,.store 1 (.t 38) (.t 37)⟩])
 (.seq (.region false [⟨none,(some 40),.bin .eql (.t 9) (.k (.int .i64 7))⟩,
  ⟨none,(some 39),.mov (.t 40)⟩])
 (.cond (.t 39) (.region false [⟨none,(some 41),.mov (.t 0)⟩,
  ⟨none,(some 42),.call (.k (.fn (.func 29) [] [])) [(.t 41),(.k (.int .i64 30))]⟩,
  ⟨none,(some 43),.fld 1 (.t 3)⟩,
  ⟨none,none,.store 1 (.t 43) (.t 42)⟩])
 .skip))))))))))))
 (.seq (.region false [⟨none,(some 44),.load 4 true (.t 3)⟩,
  ⟨none,none,.store 4 (.t 2) (.t 44)⟩])
 .ret))))
 ntmps:=45
 res:=[.cell 2 4 true]
theorem z3hx:zsjc P Tryz.f27=some a27:=by kernel_rfl
def a58:AFn where
 code:=(.seq (.region false [⟨none,(some 0),.mov (.k .nils)⟩])
 (.seq (.region false [⟨none,(some 1),.bsl 1 3 [(.str [])] [(0,1,(.k (.str [119,45,49]))),(1,1,(.k (.str [119,45,50]))),(2,1,(.k (.str [119,45,51])))]⟩,
  ⟨none,(some 0),.mov (.t 1)⟩])
 .ret))
 ntmps:=2
 res:=[.tmp 0]
theorem zt5h:zsjc P Tryz.f58=some a58:=by kernel_rfl
def a92:AFn where
 code:=(.seq (.region false [⟨none,(some 0),.mov (.k .nils)⟩])
 (.seq (.region false [⟨none,(some 1),.bsl 1 4 [(.str [])] [(0,1,(.k (.str [97,110,110]))),(1,1,(.k (.str [98,111,98]))),(2,1,(.k (.str [99,97,116]))),(3,1,(.k (.str [100,97,110])))]⟩,
  ⟨none,(some 0),.mov (.t 1)⟩])
 .ret))
 ntmps:=2
 res:=[.tmp 0]
theorem zypd:zsjc P Tryz.f92=some a92:=by kernel_rfl
def zk9n:ACode :=
 (.seq (.seq (.region false [⟨none,(some 6),.mov (.t 5)⟩,
  ⟨none,(some 7),.mov (.t 0)⟩,
  ⟨none,(some 8),.len (.t 7)⟩,
  ⟨none,(some 9),.bin .lss (.t 6) (.t 8)⟩])
 (.cond (.t 9) .skip
 (.exit 0)))
 (.seq (.block 1 (.seq (.region true [⟨none,(some 12),.mov (.t 0)⟩,
  ⟨none,(some 13),.mov (.t 5)⟩,
  ⟨none,(some 14),.idxS 32 (.t 12) (.t 13)⟩,
  ⟨none,(some 15),.load 32 true (.t 14)⟩,
  ⟨none,(some 16),.load 32 true (.t 3)⟩,
  ⟨none,(some 17),.eqa false [(32,0)] (.t 15) (.t 16)⟩])
 (.cond (.t 17) (.seq (.region false [⟨none,(some 4),.mov (.k (.bool true))⟩])
 .ret)
 .skip)))
 (.region false [⟨none,(some 10),.mov (.t 5)⟩,
  ⟨none,(some 11),.bin .add (.t 10) (.k (.int .i64 1))⟩,
  ⟨none,(some 5),.mov (.t 11)⟩])))
def zd5d (x0 x3 x5:DV) (h:List AObj):St:=⟨[x0,.junk,.junk,x3,.junk,x5]++js 12,h⟩
def a30:AFn where
 code:=(.seq (.region false [⟨none,(some 3),.box (.t 1)⟩,
  ⟨none,(some 4),.mov (.k (.bool false))⟩])
 (.seq (.seq (.region false [⟨none,(some 5),.mov (.k (.int .i64 0))⟩])
 (.block 0 (.loop zk9n)))
 (.seq (.region false [⟨none,(some 4),.mov (.k (.bool false))⟩])
 .ret)))
 ntmps:=18
 res:=[.tmp 4]
theorem z3f8:zsjc P Tryz.f30=some a30:=by kernel_rfl
def zor5:ACode :=
 (.seq (.seq (.region false [⟨none,(some 6),.mov (.t 5)⟩,
  ⟨none,(some 7),.bin .lss (.t 6) (.k (.int .i64 32))⟩])
 (.cond (.t 7) .skip
 (.exit 0)))
 (.seq (.block 1 (.seq (.region true [⟨none,(some 10),.mov (.t 5)⟩,
  ⟨none,(some 11),.idxA 32 1 (.t 2) (.t 10)⟩,
  ⟨none,(some 12),.load 1 false (.t 11)⟩,
  ⟨none,(some 13),.mov (.t 5)⟩,
  ⟨none,(some 14),.idxA 32 1 (.t 3) (.t 13)⟩,
  ⟨none,(some 15),.load 1 false (.t 14)⟩,
  ⟨none,(some 16),.bin .neq (.t 12) (.t 15)⟩])
 (.cond (.t 16) (.seq (.region true [⟨none,(some 17),.mov (.t 5)⟩,
  ⟨none,(some 18),.idxA 32 1 (.t 2) (.t 17)⟩,
  ⟨none,(some 19),.load 1 false (.t 18)⟩,
  ⟨none,(some 20),.mov (.t 5)⟩,
  ⟨none,(some 21),.idxA 32 1 (.t 3) (.t 20)⟩,
  ⟨none,(some 22),.load 1 false (.t 21)⟩,
  ⟨none,(some 23),.bin .lss (.t 19) (.t 22)⟩,
  ⟨none,(some 4),.mov (.t 23)⟩])
 .ret)
 .skip)))
 (.region false [⟨none,(some 8),.mov (.t 5)⟩,
  ⟨none,(some 9),.bin .add (.t 8) (.k (.int .i64 1))⟩,
  ⟨none,(some 5),.mov (.t 9)⟩])))
def zrp1 (x2 x3 x5:DV) (h:List AObj):St:=⟨[.junk,.junk,x2,x3,.junk,x5]++js 18,h⟩
def a59:AFn where
 code:=(.seq (.region false [⟨none,(some 2),.box (.t 0)⟩,
  ⟨none,(some 3),.box (.t 1)⟩,
  ⟨none,(some 4),.mov (.k (.bool false))⟩])
 (.seq (.seq (.region false [⟨none,(some 5),.mov (.k (.int .i64 0))⟩])
 (.block 0 (.loop zor5)))
 (.seq (.region false [⟨none,(some 4),.mov (.k (.bool false))⟩])
 .ret)))
 ntmps:=24
 res:=[.tmp 4]
theorem zwsz:zsjc P Tryz.f59=some a59:=by kernel_rfl
def zzcy:ACode :=
 (.seq (.seq (.region true [⟨none,(some 11),.mov (.t 6)⟩,
  ⟨none,(some 12),.mov (.t 0)⟩,
  ⟨none,(some 13),.len (.t 12)⟩,
  ⟨none,(some 14),.bin .lss (.t 11) (.t 13)⟩,
  ⟨none,(some 15),.mov (.t 14)⟩,
  ⟨(some (15,true)),(some 16),.mov (.t 0)⟩,
  ⟨(some (15,true)),(some 17),.mov (.t 6)⟩,
  ⟨(some (15,true)),(some 18),.idxS 32 (.t 16) (.t 17)⟩,
  ⟨(some (15,true)),(some 19),.load 32 true (.t 18)⟩,
  ⟨(some (15,true)),(some 20),.load 32 true (.t 3)⟩,
  ⟨(some (15,true)),(some 21),.callN (.k (.fn (.func 59) [] [])) [(.t 19),(.t 20)]⟩,
  ⟨none,(some 22),.pick (.t 15) (.t 21) (.k (.bool false))⟩])
 (.cond (.t 22) .skip
 (.exit 0)))
 (.block 1 (.seq (.region false [⟨none,(some 23),.mov (.t 5)⟩,
  ⟨none,(some 24),.mov (.t 0)⟩,
  ⟨none,(some 25),.mov (.t 6)⟩,
  ⟨none,(some 26),.idxS 32 (.t 24) (.t 25)⟩,
  ⟨none,(some 27),.load 32 true (.t 26)⟩,
  ⟨none,(some 28),.bsl 32 1 (rep 32 (w8 0#8)) [(0,32,(.t 27))]⟩,
  ⟨none,(some 29),.app 32 32 (.t 23) (.t 28)⟩,
  ⟨none,(some 5),.mov (.t 29)⟩])
 (.region false [⟨none,(some 30),.mov (.t 6)⟩,
  ⟨none,(some 31),.bin .add (.t 30) (.k (.int .i64 1))⟩,
  ⟨none,(some 6),.mov (.t 31)⟩]))))
def z1yv (x0 x3 x5 x6:DV) (h:List AObj):St:=⟨[x0,.junk,.junk,x3,.junk,x5,x6]++js 33,h⟩
def a93:AFn where
 code:=(.seq (.region false [⟨none,(some 3),.box (.t 1)⟩,
  ⟨none,(some 4),.mov (.k .nils)⟩])
 (.seq (.seq (.region false [⟨none,(some 7),.mov (.t 0)⟩,
  ⟨none,(some 8),.load 32 true (.t 3)⟩,
  ⟨none,(some 9),.call (.k (.fn (.func 30) [] [])) [(.t 7),(.t 8)]⟩])
 (.cond (.t 9) (.seq (.region false [⟨none,(some 10),.mov (.t 0)⟩,
  ⟨none,(some 4),.mov (.t 10)⟩])
 .ret)
 .skip))
 (.seq (.region false [⟨none,(some 5),.mov (.k .nils)⟩])
 (.seq (.region false [⟨none,(some 6),.mov (.k (.int .i64 0))⟩])
 (.seq (.block 0 (.loop zzcy))
 (.seq (.region true [⟨none,(some 32),.mov (.t 5)⟩,
  ⟨none,(some 33),.load 32 true (.t 3)⟩,
  ⟨none,(some 34),.bsl 32 1 (rep 32 (w8 0#8)) [(0,32,(.t 33))]⟩,
  ⟨none,(some 35),.app 32 32 (.t 32) (.t 34)⟩,
  ⟨none,(some 36),.mov (.t 0)⟩,
  ⟨none,(some 37),.mov (.t 6)⟩,
  ⟨none,(some 38),.slcS 32 (.t 36) (some (.t 37)) none none⟩,
  ⟨none,(some 39),.app 32 32 (.t 35) (.t 38)⟩,
  ⟨none,(some 4),.mov (.t 39)⟩,
  ⟨none,none,.apart (.t 36) (.t 35)⟩])
 .ret))))))
 ntmps:=40
 res:=[.tmp 4]
theorem zv7d:zsjc P Tryz.f93=some a93:=by kernel_rfl
end Go.Proofs.YtdnhbfmlklaldaaGreat
set_option linter.unusedSimpArgs false
set_option linter.unusedVariables false
namespace Go.Proofs.YtdnhbfmlklaldaaGreat
open Go Go.Am
def S660 (x:Sl Dg) (d:Dg) (i:Nat):St:=zd5d (x.dv 32 dgC) (.mp 0 32 0) (.int .i64 i) [.cells (dgC d)]
theorem zdpu (x:Sl Dg) (d:Dg):Runs tbl0 a30 [x.dv 32 dgC,.agg (dgC d)] (.bool (decide (d ∈ x.l))):=by
 refine ⟨?_⟩
 have hb:=x.b
 simp (disch:=first|omega|simp<;>omega|fail) [-zA,-zB,-zC,-zD,-zE,a30]
 refine zlm5 (S660 x d) (fun i=>x.l.length-i) (fun i=>i≤x.l.length ∧ ∀ j (hj:j<x.l.length),j<i→¬ x.l[j]=d) 0 (z515 (by simp (disch:=first|omega|simp<;>omega|fail) [-zA,-zB,-zC,-zD,-zE,S660,zd5d]) (by simp (disch:=first|omega|simp<;>omega|fail) [-zA,-zB,-zC,-zD,-zE,S660,zd5d])) ⟨by omega,fun j _ hj=>by omega⟩ (fun i hi => ?_)
 obtain ⟨h1,h2⟩:=hi
 simp (disch:=first|omega|simp<;>omega|fail) [-zA,-zB,-zC,-zD,-zE,zk9n,zd5d,S660]
 by_cases h:i<x.l.length
 ·have h':(i:Int)<x.l.length:=by omega
  have hg : ∀ H,zpsc H 32 (x.dv 32 dgC) i=some (.ref (dgC x.l[i])):=fun H=>zalo z1t1 h
  by_cases e:x.l[i]=d
  ·have hm:d ∈ x.l:=e▸List.getElem_mem h
   simp (disch:=first|omega|simp<;>omega|fail) [-zA,-zB,-zC,-zD,-zE,h',h,hg,e,hm]
  ·simp (disch:=first|omega|simp<;>omega|fail) [-zA,-zB,-zC,-zD,-zE,h',h,hg,e]
   refine ⟨i+1,z515 (by simp (disch:=first|omega|simp<;>omega|fail) [-zA,-zB,-zC,-zD,-zE,S660,zd5d]) (by simp (disch:=first|omega|simp<;>omega|fail) [-zA,-zB,-zC,-zD,-zE,S660,zd5d]),by omega,by omega,fun j hj hji => ?_⟩
   by_cases ej:j=i
   ·subst ej; exact e
   ·exact h2 j hj (by omega)
 ·have h':¬ (i:Int)<x.l.length:=by omega
  have hm:¬ d ∈ x.l:=fun hm=>by
   obtain ⟨j,hj,e⟩:=List.getElem_of_mem hm
   exact h2 j hj (by omega) e
  simp (disch:=first|omega|simp<;>omega|fail) [-zA,-zB,-zC,-zD,-zE,h,h',hm]
noncomputable def cHas:List DV→Option DV:=con (fun _=>True) (fun a:Sl Dg × Dg=>[a.1.dv 32 dgC,.agg (dgC a.2)]) (fun a => .bool (decide (a.2 ∈ a.1.l)))
theorem zqi6 {x:Sl Dg} {d:Dg}:cHas [x.dv 32 dgC,.agg (dgC d)]=some (.bool (decide (d ∈ x.l))) :=
 zsn4 (f:=fun a:Sl Dg × Dg=>[a.1.dv 32 dgC,.agg (dgC a.2)]) (g:=fun a => .bool (decide (a.2 ∈ a.1.l))) (by
  rintro ⟨a,b⟩ ⟨c,d⟩ e
  simp only [List.cons.injEq,DV.agg.injEq,and_true] at e
  rw [z42k e.1,zib9 e.2]) (x,d)
theorem zi6e:(Con.pure cHas).Sound P 30:=z2au fun a _=>zljw mix zr5o Tryz.func30 z3f8 (zdpu a.1 a.2)
theorem zgo4 {a b:B8}:a.toNat.toUInt8<b.toNat.toUInt8↔a<b:=by
 have ha:=a.isLt
 have hb:=b.isLt
 rw [UInt8.lt_iff_toNat_lt,BitVec.lt_def]
 simp only [Nat.toUInt8_eq,UInt8.toNat_ofNat',Nat.mod_eq_of_lt ha,Nat.mod_eq_of_lt hb]
theorem z29k : ∀ (a b:List B8) (i:Nat) (h1:i<a.length) (h2:i<b.length),(∀ j (h1:j<a.length) (h2:j<b.length),j<i→a[j]=b[j])→¬ a[i]=b[i]→Op.bytesLess (a.map fun b=>b.toNat.toUInt8) (b.map fun b=>b.toNat.toUInt8)=decide (a[i]<b[i])
 | [],_,_,h1,_,_,_=>by simp at h1
 | _::_,[],_,_,h2,_,_=>by simp at h2
 | x::a,y::b,0,_,_,_,hn=>by
  simp only [List.getElem_cons_zero] at hn ⊢
  have hxy:¬ x.toNat.toUInt8=y.toNat.toUInt8:=fun e=>hn (zvz3 e)
  simp only [List.map_cons,Op.bytesLess,zgo4]
  simp [hxy,hn]
 | x::a,y::b,i+1,h1,h2,he,hn=>by
  have e0:=he 0 (by simp) (by simp) (by omega)
  simp only [List.getElem_cons_zero] at e0
  subst e0
  have:=z29k a b i (by simpa using h1) (by simpa using h2) (fun j p q hj=>he (j+1) (Nat.succ_lt_succ p) (Nat.succ_lt_succ q) (by omega)) (by simpa using hn)
  simp only [List.map_cons,Op.bytesLess,List.getElem_cons_succ,this]
  simp
theorem zwa6 {a b:Dg} {i:Nat} (hi:i<32) (he : ∀ j (hj:j<32),j<i→a.1[j]'(by rw [a.2]; exact hj)=b.1[j]'(by rw [b.2]; exact hj)) (hn:¬ a.1[i]'(by rw [a.2]; exact hi)=b.1[i]'(by rw [b.2]; exact hi)):dgLt a b=decide (a.1[i]'(by rw [a.2]; exact hi)<b.1[i]'(by rw [b.2]; exact hi)) :=
 z29k a.1 b.1 i _ _ (fun j p q hj=>he j (by rw [a.2] at p; exact p) hj) hn
theorem zz16 {a b:Dg} (he : ∀ j (hj:j<32),a.1[j]'(by rw [a.2]; exact hj)=b.1[j]'(by rw [b.2]; exact hj)):a=b :=
 Subtype.ext (List.ext_getElem (by rw [a.2,b.2]) fun j p q=>he j (by rw [a.2] at p; exact p))
theorem z00n {a:Dg} {i:Nat} (hi:i<32):oneC 1 false ((dgC a).drop i)=some (w8 (a.1[i]'(by rw [a.2]; exact hi))):=by
 have hl:i<(dgC a).length:=by rw [z1t1]; exact hi
 rw [List.drop_eq_getElem_cons hl]
 simp [oneC,dgC]
def S661 (a b:Dg) (i:Nat):St:=zrp1 (.mp 0 32 0) (.mp 1 32 0) (.int .i64 i) [.cells (dgC a),.cells (dgC b)]
theorem zy8c (a b:Dg):Runs tbl0 a59 [.agg (dgC a),.agg (dgC b)] (.bool (dgLt a b)):=by
 refine ⟨?_⟩
 simp (disch:=first|omega|simp<;>omega|fail) [-zA,-zB,-zC,-zD,-zE,a59]
 refine zlm5 (S661 a b) (fun i=>32-i) (fun i=>i≤32 ∧ ∀ j (hj:j<32),j<i→a.1[j]'(by rw [a.2]; exact hj)=b.1[j]'(by rw [b.2]; exact hj)) 0 (z515 (by simp (disch:=first|omega|simp<;>omega|fail) [-zA,-zB,-zC,-zD,-zE,S661,zrp1]) (by simp (disch:=first|omega|simp<;>omega|fail) [-zA,-zB,-zC,-zD,-zE,S661,zrp1])) ⟨by omega,fun j _ hj=>by omega⟩ (fun i hi => ?_)
 obtain ⟨h1,h2⟩:=hi
 simp only [S661]
 by_cases h:i<32
 ·have h':(i:Int)<32:=by omega
  have o1:=z00n (a:=a) h
  have o2:=z00n (a:=b) h
  have la:=z1t1 a
  have lb:=z1t1 b
  by_cases e:a.1[i]'(by rw [a.2]; exact h)=b.1[i]'(by rw [b.2]; exact h)
  ·rw [e] at o1
   simp (disch:=first|omega|simp<;>omega|fail) [-zA,-zB,-zC,-zD,-zE,zor5,zrp1,h,h',o1,o2,la,lb]
   refine ⟨i+1,z515 (by simp (disch:=first|omega|simp<;>omega|fail) [-zA,-zB,-zC,-zD,-zE,S661,zrp1]) (by simp (disch:=first|omega|simp<;>omega|fail) [-zA,-zB,-zC,-zD,-zE,S661,zrp1]),by omega,by omega,fun j hj hji => ?_⟩
   by_cases ej:j=i
   ·subst ej; exact e
   ·exact h2 j hj (by omega)
  ·have hr:=zwa6 h h2 e
   obtain ⟨u,hu⟩ : ∃ u,a.1[i]'(by rw [a.2]; exact h)=u:=⟨_,rfl⟩
   obtain ⟨v,hv⟩ : ∃ v,b.1[i]'(by rw [b.2]; exact h)=v:=⟨_,rfl⟩
   rw [hu] at o1 e hr
   rw [hv] at o2 e hr
   have e':(u == v)=false:=by simp [e]
   have e'':(u != v)=true:=by simp [e]
   simp (disch:=first|omega|simp<;>omega|fail) [-zA,-zB,-zC,-zD,-zE,zor5,zrp1,h,h',o1,o2,e,e',e'',hr,la,lb]
 ·have h':¬ (i:Int)<32:=by omega
  have he:a=b:=zz16 fun j hj=>h2 j hj (by omega)
  have hr:dgLt a b=false:=by rw [he]; exact zc3a.irr b
  simp (disch:=first|omega|simp<;>omega|fail) [-zA,-zB,-zC,-zD,-zE,zor5,zrp1,h,h',hr]
noncomputable def zta3:List DV→Option DV:=con (fun _=>True) (fun a:Dg × Dg=>[.agg (dgC a.1),.agg (dgC a.2)]) (fun a => .bool (dgLt a.1 a.2))
theorem z577 {a b:Dg}:zta3 [.agg (dgC a),.agg (dgC b)]=some (.bool (dgLt a b)) :=
 zsn4 (f:=fun a:Dg × Dg=>[.agg (dgC a.1),.agg (dgC a.2)]) (g:=fun a => .bool (dgLt a.1 a.2)) (by
  rintro ⟨a,b⟩ ⟨c,d⟩ e
  simp only [List.cons.injEq,DV.agg.injEq,and_true] at e
  rw [zib9 e.1,zib9 e.2]) (a,b)
theorem zp63:(Con.pure zta3).Sound P 59:=z2au fun a _=>zljw mix zr5o Tryz.func59 zwsz (zy8c a.1 a.2)
end Go.Proofs.YtdnhbfmlklaldaaGreat
set_option linter.unusedSimpArgs false
set_option linter.unusedVariables false
namespace Go.Proofs.YtdnhbfmlklaldaaGreat
open Go Go.Am
theorem zig9 {α:Type} {p:α→Bool} : ∀ {l:List α} {i:Nat} (hi:i≤l.length),(∀ j (h:j<l.length),j<i→p l[j]=true)→(i=l.length ∨ ∃ h:i<l.length,p l[i]=false)→l.takeWhile p=l.take i∧l.dropWhile p=l.drop i
 | [],i,hi,_,_=>by simp
 | a::l,0,_,_,h=>by
  have ha:p a=false:=by
   rcases h with h|⟨_,h⟩
   ·simp at h
   ·simpa using h
  simp [List.takeWhile_cons,List.dropWhile_cons,ha]
 | a::l,i+1,hi,h1,h2=>by
  have ha:p a=true:=h1 0 (by simp) (by omega)
  have ih:=zig9 (p:=p) (l:=l) (i:=i) (by simpa using hi) (fun j hj hji=>h1 (j+1) (Nat.succ_lt_succ hj) (by omega)) (by
   rcases h2 with h|⟨h,q⟩
   ·exact .inl (by simpa using h)
   ·exact .inr ⟨by simpa using h,by simpa using q⟩)
  simp [List.takeWhile_cons,List.dropWhile_cons,ha,ih.1,ih.2]
theorem zch3 {α:Type} {x:Sl α} {s:Nat} {f:α→List DV} {b:DV}:z87v (x.dv s f) b=b.known:=by
 obtain ⟨k,l,h,hb⟩:=x
 cases k with
 | none=>exact z8bo
 | some c=>exact zhyd
def addF (x:Sl Dg) (d:Dg):Sl Dg:=if d ∈ x.l then x else own (addU dgLt x.l d)
noncomputable def T662:Tbl:=addT 30 (.pure cHas) (addT 59 (.pure zta3) tbl0)
theorem zbwy:T662 30 = .pure cHas:=by simp [T662]
theorem zopp:T662 59 = .pure zta3:=by simp [T662]
theorem zuuq:T662.Sound P:=z0rp zi6e (z0rp zp63 zr5o)
def aV (l:List Dg):DV:=if l=[] then .nils else .ms 1 (l.length*32) 0 32 l.length (l.length*32)
def aH (d:Dg) (l:List Dg):List AObj := .cells (dgC d)::(if l=[] then [] else [.cells (fl dgC l)])
theorem zdzw {l:List Dg} (h:l≠[]):aV l = .ms 1 (l.length*32) 0 32 l.length (l.length*32):=if_neg h
theorem zdv1 {d:Dg} {l:List Dg} (h:l≠[]):aH d l=[.cells (dgC d),.cells (fl dgC l)]:=by rw [aH,if_neg h]
def S662 (x:Sl Dg) (d:Dg) (i:Nat):St:=z1yv (x.dv 32 dgC) (.mp 0 32 0) (aV (x.l.take i)) (.int .i64 i) (aH d (x.l.take i))
theorem ztx0 (x:Sl Dg) (d:Dg) (hn:x.l.length≤1000000):Runs T662 a93 [x.dv 32 dgC,.agg (dgC d)] ((addF x d).dv 32 dgC):=by
 refine ⟨?_⟩
 by_cases hm:d ∈ x.l
 ·have hr:addF x d=x:=if_pos hm
  simp (disch:=first|omega|simp<;>omega|fail) [-zA,-zB,-zC,-zD,-zE,a93,zbwy,zqi6,hm,hr]
 have hr:addF x d=own (addU dgLt x.l d):=if_neg hm
 have hul:=zk4s (lt:=dgLt) (l:=x.l) (d:=d)
 rw [hr,zqrs (by omega)]
 have ha:addU dgLt x.l d=x.l.takeWhile (fun y=>dgLt y d)++d::x.l.dropWhile (fun y=>dgLt y d):=by unfold addU; rw [if_neg hm]
 simp (disch:=first|omega|simp<;>omega|fail) [-zA,-zB,-zC,-zD,-zE,a93,zbwy,zqi6,hm]
 refine zlm5 (S662 x d) (fun i=>x.l.length-i) (fun i=>i≤x.l.length ∧ ∀ j (h:j<x.l.length),j<i→dgLt x.l[j] d=true) 0 (z515 (by simp (disch:=first|omega|simp<;>omega|fail) [-zA,-zB,-zC,-zD,-zE,S662,z1yv,aV]) (by simp (disch:=first|omega|simp<;>omega|fail) [-zA,-zB,-zC,-zD,-zE,S662,z1yv,aH])) ⟨by omega,fun j _ hj=>by omega⟩ (fun i hi => ?_)
 obtain ⟨h1,h2⟩:=hi
 simp only [S662]
 have tail:(i=x.l.length ∨ ∃ h:i<x.l.length,dgLt x.l[i] d=false)→addU dgLt x.l d=x.l.take i++d::x.l.drop i:=fun h=>by
  obtain ⟨e1,e2⟩:=zig9 (p:=fun y=>dgLt y d) h1 h2 h
  rw [ha,e1,e2]
 obtain ⟨L,hL⟩ : ∃ L,x.l.take i=L:=⟨_,rfl⟩
 have hLl:L.length=i:=by rw [← hL,List.length_take]; omega
 have hdl:(x.l.drop i).length=x.l.length-i:=List.length_drop ..
 obtain ⟨D,hD⟩ : ∃ D,x.l.drop i=D:=⟨_,rfl⟩
 have hs0 : ∀ H,ziwb H 32 (x.dv 32 dgC) (some (.int .i64 i)) none none=some ((x.part i x.l.length (x.l.length == x.l.length)).dv 32 dgC):=fun H=>z0ke z1t1 (by simp [zo77,iD]; omega) (Nat.le_refl _)
 obtain ⟨Y,hY⟩ : ∃ Y,x.part i x.l.length (x.l.length == x.l.length)=Y:=⟨_,rfl⟩
 have hYl:Y.l=D:=by rw [← hY,← hD]; show (x.l.drop i).take (x.l.length-i)=_; exact List.take_of_length_le (by omega)
 rw [hY] at hs0
 have hv : ∀ H,visY H (Y.dv 32 dgC)=some (D.length,D.flatMap dgC):=fun H=>by rw [zwaa z1t1,hYl]
 rw [hD] at hdl
 rw [hL,hD] at tail
 rw [hL]
 by_cases h:i<x.l.length
 case neg =>
  have h':¬ (i:Int)<x.l.length:=by omega
  have H:i=x.l.length ∨ ∃ h:i<x.l.length,dgLt x.l[i] d=false := .inl (by omega)
  by_cases e:L=[]
  ·have q1:aV L = .nils:=by rw [e]; rfl
   have q2:aH d L=[.cells (dgC d)]:=by rw [e]; rfl
   have hap:=zsuq (h:=[AObj.cells (dgC d)]) (s:=32) (b:=32) (m:=1) (cs:=dgC d) (by decide) (by decide) (by rw [z1t1]) (by decide) (by decide)
   simp only [z1t1,List.length_cons,List.length_nil,Nat.zero_add] at hap
   have hap2:=zvrp (h:=[AObj.cells (dgC d),.cells (fl dgC [d])]) (id:=1) (b:=32) (l:=[d]) (m:=D.length) (cs:=D) z1t1 (by decide) (by decide) (fun _=>zoxk) rfl (by simp; omega) (by simp [objV,ziu0,z8lx z1t1])
   rw [z4hs] at hap2
   simp only [List.length_cons,List.length_nil,Nat.zero_add,Nat.one_mul] at hap2
   have ht:=tail H
   rw [e,List.nil_append] at ht
   have hfl:(fl dgC (d::D)).length=(1+D.length)*32:=by rw [z8lx z1t1]; simp; omega
   have hpu:=zp6k z3ot (d::D)
   have htk:(fl dgC (d::D)).take ((1+D.length)*32)=(d::D).flatMap dgC:=List.take_of_length_le (by omega)
   have hl1:(d::D).length=1+D.length:=by simp; omega
   have hsn : ∀ H j,z4tt H j ((d::D).flatMap dgC)=some ((d::D).flatMap dgC):=fun H j=>z619 hpu
   rw [ht,hl1]
   generalize (d::D).flatMap dgC=Z at htk hsn ⊢
   simp (disch:=first|omega|simp<;>omega|fail) [-zA,-zB,-zC,-zD,-zE,zzcy,z1yv,h,h',q1,q2,hs0,hv,hap,hap2,hfl,htk,hsn,zch3]
  ·have q1:=zdzw e
   have q2:=zdv1 (d:=d) e
   have hap:=zkg3 (h:=[AObj.cells (dgC d),.cells (fl dgC L)]) (id:=1) (b:=32) (l:=L) (x:=d) z1t1 (by decide) (by decide) (fun _=>zoxk) (by omega) (by simp [objV,ziu0,z8lx z1t1])
   have hap2:=zvrp (h:=[AObj.cells (dgC d),.cells (fl dgC (L++[d]))]) (id:=1) (b:=32) (l:=L++[d]) (m:=D.length) (cs:=D) z1t1 (by decide) (by decide) (fun _=>zoxk) rfl (by simp; omega) (by simp [objV,ziu0,z8lx z1t1])
   have hl0:(L++[d]).length=L.length+1:=by simp
   rw [hl0] at hap2
   have ht:=tail H
   have he:L++[d]++D=L++d::D:=by simp
   rw [he] at hap2
   have hfl:(fl dgC (L++d::D)).length=(L.length+1+D.length)*32:=by rw [z8lx z1t1]; simp; omega
   have hpu:=zp6k z3ot (L++d::D)
   have htk:(fl dgC (L++d::D)).take ((L.length+1+D.length)*32)=(L++d::D).flatMap dgC:=List.take_of_length_le (by omega)
   have hl1:(L++d::D).length=L.length+1+D.length:=by simp; omega
   have hsn : ∀ H j,z4tt H j ((L++d::D).flatMap dgC)=some ((L++d::D).flatMap dgC):=fun H j=>z619 hpu
   rw [ht,hl1]
   generalize (L++d::D).flatMap dgC=Z at htk hsn ⊢
   simp (disch:=first|omega|simp<;>omega|fail) [-zA,-zB,-zC,-zD,-zE,zzcy,z1yv,h,h',q1,q2,hs0,hv,hap,hap2,hfl,htk,hsn,zch3]

 have h':(i:Int)<x.l.length:=by omega
 have hg : ∀ H,zpsc H 32 (x.dv 32 dgC) i=some (.ref (dgC x.l[i])):=fun H=>zalo z1t1 h
 have hnx:x.l.take (i+1)=L++[x.l[i]]:=by rw [List.take_succ_eq_append_getElem h,hL]
 cases hc:dgLt x.l[i] d with
 | false =>
  have H:i=x.l.length ∨ ∃ h:i<x.l.length,dgLt x.l[i] d=false := .inr ⟨h,hc⟩
  obtain ⟨y,hy⟩ : ∃ y,x.l[i]=y:=⟨_,rfl⟩
  rw [hy] at hg hc
  by_cases e:L=[]
  ·have q1:aV L = .nils:=by rw [e]; rfl
   have q2:aH d L=[.cells (dgC d)]:=by rw [e]; rfl
   have hap:=zsuq (h:=[AObj.cells (dgC d)]) (s:=32) (b:=32) (m:=1) (cs:=dgC d) (by decide) (by decide) (by rw [z1t1]) (by decide) (by decide)
   simp only [z1t1,List.length_cons,List.length_nil,Nat.zero_add] at hap
   have hap2:=zvrp (h:=[AObj.cells (dgC d),.cells (fl dgC [d])]) (id:=1) (b:=32) (l:=[d]) (m:=D.length) (cs:=D) z1t1 (by decide) (by decide) (fun _=>zoxk) rfl (by simp; omega) (by simp [objV,ziu0,z8lx z1t1])
   rw [z4hs] at hap2
   simp only [List.length_cons,List.length_nil,Nat.zero_add,Nat.one_mul] at hap2
   have ht:=tail H
   rw [e,List.nil_append] at ht
   have hfl:(fl dgC (d::D)).length=(1+D.length)*32:=by rw [z8lx z1t1]; simp; omega
   have hpu:=zp6k z3ot (d::D)
   have htk:(fl dgC (d::D)).take ((1+D.length)*32)=(d::D).flatMap dgC:=List.take_of_length_le (by omega)
   have hl1:(d::D).length=1+D.length:=by simp; omega
   have hsn : ∀ H j,z4tt H j ((d::D).flatMap dgC)=some ((d::D).flatMap dgC):=fun H j=>z619 hpu
   rw [ht,hl1]
   generalize (d::D).flatMap dgC=Z at htk hsn ⊢
   simp (disch:=first|omega|simp<;>omega|fail) [-zA,-zB,-zC,-zD,-zE,zzcy,z1yv,h,h',hg,hc,zopp,z577,q1,q2,hs0,hv,hap,hap2,hfl,htk,hsn,zch3]
  ·have q1:=zdzw e
   have q2:=zdv1 (d:=d) e
   have hap:=zkg3 (h:=[AObj.cells (dgC d),.cells (fl dgC L)]) (id:=1) (b:=32) (l:=L) (x:=d) z1t1 (by decide) (by decide) (fun _=>zoxk) (by omega) (by simp [objV,ziu0,z8lx z1t1])
   have hap2:=zvrp (h:=[AObj.cells (dgC d),.cells (fl dgC (L++[d]))]) (id:=1) (b:=32) (l:=L++[d]) (m:=D.length) (cs:=D) z1t1 (by decide) (by decide) (fun _=>zoxk) rfl (by simp; omega) (by simp [objV,ziu0,z8lx z1t1])
   have hl0:(L++[d]).length=L.length+1:=by simp
   rw [hl0] at hap2
   have ht:=tail H
   have he:L++[d]++D=L++d::D:=by simp
   rw [he] at hap2
   have hfl:(fl dgC (L++d::D)).length=(L.length+1+D.length)*32:=by rw [z8lx z1t1]; simp; omega
   have hpu:=zp6k z3ot (L++d::D)
   have htk:(fl dgC (L++d::D)).take ((L.length+1+D.length)*32)=(L++d::D).flatMap dgC:=List.take_of_length_le (by omega)
   have hl1:(L++d::D).length=L.length+1+D.length:=by simp; omega
   have hsn : ∀ H j,z4tt H j ((L++d::D).flatMap dgC)=some ((L++d::D).flatMap dgC):=fun H j=>z619 hpu
   rw [ht,hl1]
   generalize (L++d::D).flatMap dgC=Z at htk hsn ⊢
   simp (disch:=first|omega|simp<;>omega|fail) [-zA,-zB,-zC,-zD,-zE,zzcy,z1yv,h,h',hg,hc,zopp,z577,q1,q2,hs0,hv,hap,hap2,hfl,htk,hsn,zch3]

 | true =>
  have hinv : ∀ j (h:j<x.l.length),j<i+1→dgLt x.l[j] d=true:=fun j hj hji=>by
   by_cases ej:j=i
   ·subst ej; exact hc
   ·exact h2 j hj (by omega)
  obtain ⟨y,hy⟩ : ∃ y,x.l[i]=y:=⟨_,rfl⟩
  rw [hy] at hg hc hnx
  by_cases e:L=[]
  ·have q1:aV L = .nils:=by rw [e]; rfl
   have q2:aH d L=[.cells (dgC d)]:=by rw [e]; rfl
   have hap:=zsuq (h:=[AObj.cells (dgC d)]) (s:=32) (b:=32) (m:=1) (cs:=dgC y) (by decide) (by decide) (by rw [z1t1]) (by decide) (by decide)
   simp only [z1t1,List.length_cons,List.length_nil,Nat.zero_add] at hap
   simp (disch:=first|omega|simp<;>omega|fail) [-zA,-zB,-zC,-zD,-zE,zzcy,z1yv,h,h',hg,hc,zopp,z577,q1,q2,hap]
   rw [e,List.nil_append] at hnx
   have e1:aV [y] = .ms 1 32 0 32 1 32:=rfl
   have e2:aH d [y]=[.cells (dgC d),.cells (dgC y)]:=by rw [zdv1 (by simp),z4hs]
   exact ⟨i+1,z515 (by simp (disch:=first|omega|simp<;>omega|fail) [-zA,-zB,-zC,-zD,-zE,S662,z1yv,hnx,e1]) (by simp (disch:=first|omega|simp<;>omega|fail) [-zA,-zB,-zC,-zD,-zE,S662,z1yv,hnx,e2]),by omega,by omega,hinv⟩
  ·have q1:=zdzw e
   have q2:=zdv1 (d:=d) e
   have hap:=zkg3 (h:=[AObj.cells (dgC d),.cells (fl dgC L)]) (id:=1) (b:=32) (l:=L) (x:=y) z1t1 (by decide) (by decide) (fun _=>zoxk) (by omega) (by simp [objV,ziu0,z8lx z1t1])
   simp (disch:=first|omega|simp<;>omega|fail) [-zA,-zB,-zC,-zD,-zE,zzcy,z1yv,h,h',hg,hc,zopp,z577,q1,q2,hap]
   have e0:L++[y]≠[]:=by simp
   have e1:=zdzw e0
   have e2:=zdv1 (d:=d) e0
   rw [List.length_append,List.length_singleton] at e1
   exact ⟨i+1,z515 (by simp (disch:=first|omega|simp<;>omega|fail) [-zA,-zB,-zC,-zD,-zE,S662,z1yv,hnx,e1]) (by simp (disch:=first|omega|simp<;>omega|fail) [-zA,-zB,-zC,-zD,-zE,S662,z1yv,hnx,e2]),by omega,by omega,hinv⟩
noncomputable def cAdd:List DV→Option DV:=con (fun a:Sl Dg × Dg=>a.1.l.length≤1000000) (fun a=>[a.1.dv 32 dgC,.agg (dgC a.2)]) (fun a=>(addF a.1 a.2).dv 32 dgC)
theorem zbsz {x:Sl Dg} {d:Dg} (h:x.l.length≤1000000):cAdd [x.dv 32 dgC,.agg (dgC d)]=some ((addF x d).dv 32 dgC) :=
 zlyi (A:=fun a:Sl Dg × Dg=>a.1.l.length≤1000000) (f:=fun a:Sl Dg × Dg=>[a.1.dv 32 dgC,.agg (dgC a.2)]) (g:=fun a=>(addF a.1 a.2).dv 32 dgC) (by
  rintro ⟨a,b⟩ ⟨c,d⟩ e
  simp only [List.cons.injEq,DV.agg.injEq,and_true] at e
  rw [z42k e.1,zib9 e.2]) (x,d) h
theorem z03l:(Con.pure cAdd).Sound P 93:=z2au fun a h=>zljw mix zuuq Tryz.func93 zv7d (ztx0 a.1 a.2 h)
end Go.Proofs.YtdnhbfmlklaldaaGreat
set_option linter.unusedSimpArgs false
set_option linter.unusedVariables false
namespace Go.Proofs.YtdnhbfmlklaldaaGreat
open Go Go.Am
def zt4y:List Str:=[[97,110,110],[98,111,98],[99,97,116],[100,97,110]]
def ids3:List Str:=[[119,45,49],[119,45,50],[119,45,51]]
def z78s:List Str:=[[115,104,111,112],[119,101,98]]
def z4fh:List Str:=[[114],[114],[115]]
def z1mk:List Str:=[[114],[115]]
theorem znbn {t:Tp} {l:List Str} {n:Nat} (hn:l.length=n) (h0:1≤n) (h1:n≤1000) (h:t.at_<4000000000):zqck [.sl true 1 n (l.map .str)] (tpC t)=some (.str (zzh5 t l),tpC (t.adv 1)):=by
 subst hn; exact ze0z h h0 (by omega)
theorem z9y8 {t:Tp} (h:t.at_<4000000000):zqck [.sl true 1 4 [.str [97,110,110],.str [98,111,98],.str [99,97,116],.str [100,97,110]]] (tpC t)=some (.str (zzh5 t zt4y),tpC (t.adv 1)):=znbn (l:=zt4y) rfl (by decide) (by decide) h
theorem zqj0 {t:Tp} (h:t.at_<4000000000):zqck [.sl true 1 3 [.str [119,45,49],.str [119,45,50],.str [119,45,51]]] (tpC t)=some (.str (zzh5 t ids3),tpC (t.adv 1)):=znbn (l:=ids3) rfl (by decide) (by decide) h
theorem z2fz {t:Tp} (h:t.at_<4000000000):zqck [.sl true 1 2 [.str [115,104,111,112],.str [119,101,98]]] (tpC t)=some (.str (zzh5 t z78s),tpC (t.adv 1)):=znbn (l:=z78s) rfl (by decide) (by decide) h
theorem zo76 {t:Tp} (h:t.at_<4000000000):zqck [.sl true 1 3 [.str [114],.str [114],.str [115]]] (tpC t)=some (.str (zzh5 t z4fh),tpC (t.adv 1)):=znbn (l:=z4fh) rfl (by decide) (by decide) h
theorem zh5o {t:Tp} (h:t.at_<4000000000):zqck [.sl true 1 2 [.str [114],.str [115]]] (tpC t)=some (.str (zzh5 t z1mk),tpC (t.adv 1)):=znbn (l:=z1mk) rfl (by decide) (by decide) h
theorem z8ub:Runs tbl0 a92 [] (.sl true 1 4 [.str [97,110,110],.str [98,111,98],.str [99,97,116],.str [100,97,110]]):=by
 refine ⟨?_⟩
 simp (disch:=first|omega|simp<;>omega|fail) [-zA,-zB,-zC,-zD,-zE,a92]
theorem zlas:Runs tbl0 a58 [] (.sl true 1 3 [.str [119,45,49],.str [119,45,50],.str [119,45,51]]):=by
 refine ⟨?_⟩
 simp (disch:=first|omega|simp<;>omega|fail) [-zA,-zB,-zC,-zD,-zE,a58]
noncomputable def cK (d:DV):List DV→Option DV
 | []=>some d|_=>none
theorem z33p {d:DV}:cK d []=some d:=rfl
theorem zq78 {k:Nat} {d:DV} (h:Am.Sem P k [] d):(Con.pure (cK d)).Sound P k:=by
 intro args v e
 unfold cK at e
 split at e
 ·simp at e; subst e; exact h
 ·simp at e
def ownD:DV := .sl true 1 4 [.str [97,110,110],.str [98,111,98],.str [99,97,116],.str [100,97,110]]
def idsD:DV := .sl true 1 3 [.str [119,45,49],.str [119,45,50],.str [119,45,51]]
noncomputable def T670:Tbl:=addT 29 (.tch z1m3) (addT 57 (.tch zqck) (addT 93 (.pure cAdd) (addT 92 (.pure (cK ownD)) (addT 58 (.pure (cK idsD)) tbl0))))
theorem zl2j:T670 29 = .tch z1m3:=by simp [T670]
theorem zayo:T670 57 = .tch zqck:=by simp [T670]
theorem zk0h:T670 93 = .pure cAdd:=by simp [T670]
theorem zu6w:T670 92 = .pure (cK ownD):=by simp [T670]
theorem z0df:T670 58 = .pure (cK idsD):=by simp [T670]
theorem zhjb:T670.Sound P:=z0rp z51e (z0rp z3hj (z0rp z03l (z0rp (zq78 (zljw mix zr5o Tryz.func92 zypd z8ub)) (z0rp (zq78 (zljw mix zr5o Tryz.func58 zt5h zlas)) zr5o))))
def z4m3 (t:Tp):Org:=⟨dgB (1+tpN t 2),zzh5 (t.adv 1) z78s,zzh5 (t.adv 2) z1mk⟩
theorem z5lm (t:Tp) (ht:t.at_<3000000000):RunsF T670 a26 [.mp 0 2 0] [.cells (tpC t)] (.agg (orC (z4m3 t))) [.cells (tpC (t.adv 3))]:=by
 refine ⟨?_⟩
 have n1:=z4rs t 2
 have n2:=z2s7 t (n:=2) (by omega)
 have hfz : ∀ k,fzL 1 k (tpC (t.adv 3)) (tpC (t.adv 3)):=fun k=>znnb (zs7w _)
 have hr:dgC (dgB (1+tpN t 2))++[.str (zzh5 (t.adv 1) z78s),.str (zzh5 (t.adv 2) z1mk)]=orC (z4m3 t):=rfl
 simp (disch:=first|omega|simp<;>omega|fail) [-zA,-zB,-zC,-zD,-zE,a26,zl2j,zayo,z2fz,zh5o,z44h,zjmf,z7ni,hfz,hr,zojd (ztvh _)]
def znld:Nat→Tp→Sl Dg→Sl Dg
 | 0,_,x=>x
 | k+1,t,x=>znld k (t.adv 1) (addF x (dgB (10+tpN t 12)))
def zb9q (t:Tp) (x:Sl Dg):Fct:=⟨1+tpN t 5,zzh5 (t.adv 1) zt4y,dgB (1+tpN (t.adv 2) 2),zzh5 (t.adv 3) z78s,zzh5 (t.adv 4) z4fh,tpN (t.adv 5) 20,decide (0<tpN (t.adv 6) 4),dgB (1+tpN (t.adv 7) 2),x⟩
def zfp1 (t:Tp):Nat:=(1+tpN (t.adv 8) 2).toNat
def zdx2 (t:Tp):Fct:=zb9q t (znld (zfp1 t) (t.adv 9) nilS)
theorem z97c {k:Int} {o l r:Str} {b c:B8} {a:Int} {g:Bool}:zvnk [.int .i64 0,.str [],w8 0#8,w8 0#8,w8 0#8,w8 0#8,w8 0#8,w8 0#8,w8 0#8,w8 0#8,w8 0#8,w8 0#8,w8 0#8,w8 0#8,w8 0#8,w8 0#8,w8 0#8,w8 0#8,w8 0#8,w8 0#8,w8 0#8,w8 0#8,w8 0#8,w8 0#8,w8 0#8,w8 0#8,w8 0#8,w8 0#8,w8 0#8,w8 0#8,w8 0#8,w8 0#8,w8 0#8,w8 0#8,.str [],.str [],.int .i64 0,.bool false,w8 0#8,w8 0#8,w8 0#8,w8 0#8,w8 0#8,w8 0#8,w8 0#8,w8 0#8,w8 0#8,w8 0#8,w8 0#8,w8 0#8,w8 0#8,w8 0#8,w8 0#8,w8 0#8,w8 0#8,w8 0#8,w8 0#8,w8 0#8,w8 0#8,w8 0#8,w8 0#8,w8 0#8,w8 0#8,w8 0#8,w8 0#8,w8 0#8,w8 0#8,w8 0#8,w8 0#8,w8 0#8,.nils] [(0,1,.int .i64 k),(1,1,.str o),(2,32,.agg (dgC (dgW b))),(34,1,.str l),(35,1,.str r),(36,1,.int .i64 a),(37,1,.bool g),(38,32,.agg (dgC (dgW c)))]=some (.agg (faC ⟨k,o,dgW b,l,r,a,g,dgW c,nilS⟩)):=by kernel_rfl
theorem zin4 {f:Fct} {y:Sl Dg}:zk7y (faC f) 70 [y.dv 32 dgC]=faC { f with docs:=y }:=by
 unfold zk7y
 have e:faC f=(.int .i64 f.kind :: .str f.own::(dgC f.rev++(.str f.lay :: .str f.run :: .int .i64 f.at_ :: .bool f.agr::dgC f.tgt)))++[f.docs.dv 32 dgC]:=by simp [faC]
 have hl:(.int .i64 f.kind :: .str f.own::(dgC f.rev++(.str f.lay :: .str f.run :: .int .i64 f.at_ :: .bool f.agr::dgC f.tgt)):List DV).length=70:=by simp [z1t1]
 rw [e,List.take_left' hl,List.drop_of_length_le (by rw [List.length_append,hl]; simp)]
 simp [faC]
theorem z7ot {h:List AObj} {id:Nat} {f:Fct} {y:Sl Dg}:zy6o h id 1 70 (y.dv 32 dgC) (some (faC f))=some (.junk,h.set id (.cells (faC { f with docs:=y }))):=by
 rw [zltg (zs9p y) (z4ja y) (by rw [zs77]; decide),zin4]
theorem zfdk {x:Sl Dg} {d:Dg} (h:x.l.length≤1000):(addF x d).l.length≤x.l.length+1:=by
 have:=zk4s (lt:=dgLt) (l:=x.l) (d:=d)
 unfold addF; split
 ·omega
 ·rw [z3e9 (by omega)]; omega
structure FM where
 k:Nat
 t:Tp
 x:Sl Dg
def Z71:List DV:=[.int .i64 0,.str [],w8 0#8,w8 0#8,w8 0#8,w8 0#8,w8 0#8,w8 0#8,w8 0#8,w8 0#8,w8 0#8,w8 0#8,w8 0#8,w8 0#8,w8 0#8,w8 0#8,w8 0#8,w8 0#8,w8 0#8,w8 0#8,w8 0#8,w8 0#8,w8 0#8,w8 0#8,w8 0#8,w8 0#8,w8 0#8,w8 0#8,w8 0#8,w8 0#8,w8 0#8,w8 0#8,w8 0#8,w8 0#8,.str [],.str [],.int .i64 0,.bool false,w8 0#8,w8 0#8,w8 0#8,w8 0#8,w8 0#8,w8 0#8,w8 0#8,w8 0#8,w8 0#8,w8 0#8,w8 0#8,w8 0#8,w8 0#8,w8 0#8,w8 0#8,w8 0#8,w8 0#8,w8 0#8,w8 0#8,w8 0#8,w8 0#8,w8 0#8,w8 0#8,w8 0#8,w8 0#8,w8 0#8,w8 0#8,w8 0#8,w8 0#8,w8 0#8,w8 0#8,w8 0#8,.nils]
def S670 (f:Fct) (a:FM):St:=zh8t (.mp 0 2 0) (.mp 1 71 0) (.mp 2 71 0) (.int .i64 a.k) [.cells (tpC a.t),.cells Z71,.cells (faC { f with docs:=a.x })]
theorem zbqu {t:Tp}:zfp1 t≤2∧1≤zfp1 t:=by
 have n1:=z4rs (t.adv 8) 2
 have n2:=z2s7 (t.adv 8) (n:=2) (by omega)
 unfold zfp1; omega
theorem zsit (t:Tp) (ht:t.at_<3000000000):RunsF T670 a55 [.mp 0 2 0] [.cells (tpC t)] (.agg (faC (zdx2 t))) [.cells (tpC (t.adv (9+zfp1 t)))]:=by
 refine ⟨?_⟩
 have n1:=z4rs (t.adv 8) 2
 have n2:=z2s7 (t.adv 8) (n:=2) (by omega)
 have m1:=z4rs t 5
 have m2:=z2s7 t (n:=5) (by omega)
 have m3:=z4rs (t.adv 2) 2
 have m4:=z2s7 (t.adv 2) (n:=2) (by omega)
 have m5:=z4rs (t.adv 7) 2
 have m6:=z2s7 (t.adv 7) (n:=2) (by omega)
 have hfn:(1+tpN (t.adv 8) 2:Int)=zfp1 t:=by unfold zfp1; omega
 have hf2:=(zbqu (t:=t)).1
 obtain ⟨N,hN⟩ : ∃ N,zfp1 t=N:=⟨_,rfl⟩
 rw [hN] at hfn hf2
 unfold zdx2
 rw [hN]
 obtain ⟨R,hR⟩ : ∃ R,znld N (t.adv 9) nilS=R:=⟨_,rfl⟩
 rw [hR]
 have hz:[DV.int .i64 (1+tpN t 5)]=[.int .i64 (1+tpN t 5)]:=rfl
 simp (disch:=first|omega|simp<;>omega|fail) [-zA,-zB,-zC,-zD,-zE,a55,zl2j,zayo,zu6w,z33p,ownD,z9y8,z2fz,zo76,z44h,zjmf,z7ni,z97c]
 refine zlm5 (S670 (zb9q t nilS)) (fun a=>a.k) (fun a=>znld a.k a.t a.x=R∧a.k≤2∧a.t.adv a.k=t.adv (9+N)∧a.t.at_+a.k<3000000100∧a.x.l.length+a.k≤2) ⟨N,t.adv 9,nilS⟩ (z515 (by simp (disch:=first|omega|simp<;>omega|fail) [-zA,-zB,-zC,-zD,-zE,S670,zh8t,hfn]) (by simp (disch:=first|omega|simp<;>omega|fail) [-zA,-zB,-zC,-zD,-zE,S670,zh8t,zb9q,Z71])) ⟨hR,hf2,by simp [zjmf],by simp; omega,by simpa [zb11] using hf2⟩ (fun a ha => ?_)
 obtain ⟨k,u,x⟩:=a
 obtain ⟨r1,r2,r3,r4,r5⟩:=ha
 simp only at r1 r2 r3 r4 r5
 simp only [S670]
 cases k with
 | zero =>
  have r1:x=R:=r1
  subst r1
  rw [zbrh] at r3
  subst r3
  have hfz : ∀ k,fzL 1 k (tpC (t.adv (9+N))) (tpC (t.adv (9+N))):=fun k=>znnb (zs7w _)
  have e:({ zb9q t nilS with docs:=x }:Fct)=zb9q t x:=rfl
  rw [e]
  have hzl:Z71.length=71:=by simp [Z71]
  simp (disch:=first|omega|simp<;>omega|fail) [-zA,-zB,-zC,-zD,-zE,z44u,zh8t,hfz,hzl,zojd (z93p _)]
 | succ k =>
  have r1:znld k (u.adv 1) (addF x (dgB (10+tpN u 12)))=R:=r1
  have hk:(0:Int)<((k+1:Nat):Int):=by omega
  have hk':0<k+1:=by omega
  have hk1:((k+1:Nat):Int)-1=k:=by omega
  have p1:=z4rs u 12
  have p2:=z2s7 u (n:=12) (by omega)
  obtain ⟨d,hd⟩ : ∃ d,dgB (10+tpN u 12)=d:=⟨_,rfl⟩
  rw [hd] at r1
  have hd':dgW (BitVec.ofInt 8 (10+tpN u 12))=d:=hd
  have ca:=zbsz (x:=x) (d:=d) (by omega)
  have hal:=zfdk (x:=x) (d:=d) (by omega)
  obtain ⟨y,hy⟩ : ∃ y,addF x d=y:=⟨_,rfl⟩
  rw [hy] at r1 ca hal
  have hge : ∀ f:Fct,(faC { f with docs:=x }).length=71:=fun f=>zs77 _
  simp (disch:=first|omega|simp<;>omega|fail) [-zA,-zB,-zC,-zD,-zE,z44u,zh8t,hk,hk',zl2j,zk0h,z44h,z7ni,hd',ca,z7ot]
  exact ⟨⟨k,u.adv 1,y⟩,z515 (by simp (disch:=first|omega|simp<;>omega|fail) [-zA,-zB,-zC,-zD,-zE,S670,zh8t]) (by simp (disch:=first|omega|simp<;>omega|fail) [-zA,-zB,-zC,-zD,-zE,S670,zh8t]),by simp,r1,by simp only; omega,by simp only; rw [zjmf,Nat.add_comm 1 k]; exact r3,by simp; omega,by simp only; omega⟩
end Go.Proofs.YtdnhbfmlklaldaaGreat
set_option linter.unusedSimpArgs false
set_option linter.unusedVariables false
namespace Go.Proofs.YtdnhbfmlklaldaaGreat
open Go Go.Am
def zu2o (t:Tp):Fnd:=⟨dgB (1+tpN t 2),tpN (t.adv 1) 4,zzh5 (t.adv 2) ids3,1+tpN (t.adv 3) 10,mkD (BitVec.ofInt 8 (30+tpN (t.adv 4) 3)),0,nilS,false⟩
def z8jt (t:Tp):Fnd:={ zu2o t with st:=1+tpN (t.adv 5) 4,con:=decide (tpN (t.adv 6) 6=0),dd:=if 0<tpN (t.adv 7) 3 then mkD (BitVec.ofInt 8 (10+tpN (t.adv 8) 12)) else nilS }
def zelo (t:Tp):Nat:=if 0<tpN (t.adv 7) 3 then 9 else 8
theorem zahl {b e:B8} {c s:Int} {i:Str}:zvnk [w8 0#8,w8 0#8,w8 0#8,w8 0#8,w8 0#8,w8 0#8,w8 0#8,w8 0#8,w8 0#8,w8 0#8,w8 0#8,w8 0#8,w8 0#8,w8 0#8,w8 0#8,w8 0#8,w8 0#8,w8 0#8,w8 0#8,w8 0#8,w8 0#8,w8 0#8,w8 0#8,w8 0#8,w8 0#8,w8 0#8,w8 0#8,w8 0#8,w8 0#8,w8 0#8,w8 0#8,w8 0#8,.int .i64 0,.str [],.int .i64 0,.nils,.int .i64 0,.nils,.bool false] [(0,32,.agg (dgC (dgW b))),(32,4,.agg [.int .i64 c,.str i,.int .i64 s,.sl true 32 1 (dgC (dgW e))])]=some (.agg (fnC ⟨dgW b,c,i,s,mkD e,0,nilS,false⟩)):=by kernel_rfl
theorem zcyz {e:B8} {c s:Int} {i:Str}:zvnk [.int .i64 0,.str [],.int .i64 0,.nils] [(0,1,.int .i64 c),(1,1,.str i),(2,1,.int .i64 s),(3,1,.sl true 32 1 (dgC (dgW e)))]=some (.agg [.int .i64 c,.str i,.int .i64 s,.sl true 32 1 (dgC (dgW e))]):=by kernel_rfl
theorem zg5n {c:Int} {b:Bool}:zvnk [.int .i64 0,.nils,.bool false] [(0,1,.int .i64 c),(2,1,.bool b)]=some (.agg [.int .i64 c,.nils,.bool b]):=by kernel_rfl
theorem z9zx {h:List AObj} {id:Nat} {f:Fnd} {c:Int} {b:Bool}:zy6o h id 3 36 (.agg [.int .i64 c,.nils,.bool b]) (some (fnC f))=some (.junk,h.set id (.cells (fnC { f with st:=c,dd:=nilS,con:=b }))):=by
 simp only [zy6o,DV.cells,List.length_cons,List.length_nil,z0o0,List.all_cons,List.all_nil,zzmf,z3gw]
 rw [if_pos ⟨trivial,by decide,rfl⟩]
 have e:zk7y (fnC f) 36 [.int .i64 c,.nils,.bool b]=fnC { f with st:=c,dd:=nilS,con:=b }:=by
  unfold zk7y
  have e0:fnC f=(dgC f.inv++[.int .i64 f.comp,.str f.id,.int .i64 f.sev,f.hd.dv 32 dgC])++[.int .i64 f.st,f.dd.dv 32 dgC,.bool f.con]:=by simp [fnC]
  have hl:(dgC f.inv++[.int .i64 f.comp,.str f.id,.int .i64 f.sev,f.hd.dv 32 dgC]:List DV).length=36:=by simp [z1t1]
  rw [e0,List.take_left' hl,List.drop_of_length_le (by rw [List.length_append,hl]; simp)]
  simp [fnC,nilS,Sl.dv,slD]
 rw [e]
theorem z0ut {h:List AObj} {id:Nat} {f:Fnd} {b:B8}:zy6o h id 1 37 (.sl true 32 1 (dgC (dgW b))) (some (fnC f))=some (.junk,h.set id (.cells (fnC { f with dd:=mkD b }))):=zw46 (y:=mkD b)
theorem z2n0 (t:Tp) (ht:t.at_<3000000000):RunsF T670 a56 [.mp 0 2 0] [.cells (tpC t)] (.agg (fnC (z8jt t))) [.cells (tpC (t.adv (zelo t)))]:=by
 refine ⟨?_⟩
 have m1:=z4rs t 2
 have m2:=z2s7 t (n:=2) (by omega)
 have m3:=z4rs (t.adv 3) 10
 have m4:=z2s7 (t.adv 3) (n:=10) (by omega)
 have m5:=z4rs (t.adv 4) 3
 have m6:=z2s7 (t.adv 4) (n:=3) (by omega)
 have m7:=z4rs (t.adv 5) 4
 have m8:=z2s7 (t.adv 5) (n:=4) (by omega)
 have m9:=z4rs (t.adv 8) 12
 have m0:=z2s7 (t.adv 8) (n:=12) (by omega)
 have hfz : ∀ n k,fzL 1 k (tpC (t.adv n)) (tpC (t.adv n)):=fun n k=>znnb (zs7w _)
 by_cases h:0<tpN (t.adv 7) 3
 ·have e1:zelo t=9:=if_pos h
  have e2:fnC ⟨dgW (BitVec.ofInt 8 (1+tpN t 2)),tpN (t.adv 1) 4,zzh5 (t.adv 2) ids3,1+tpN (t.adv 3) 10,mkD (BitVec.ofInt 8 (30+tpN (t.adv 4) 3)),1+tpN (t.adv 5) 4,mkD (BitVec.ofInt 8 (10+tpN (t.adv 8) 12)),decide (tpN (t.adv 6) 6=0)⟩=fnC (z8jt t):=by
   unfold z8jt zu2o; rw [if_pos h]
  rw [e1]
  simp (disch:=first|omega|simp<;>omega|fail) [-zA,-zB,-zC,-zD,-zE,a56,zl2j,zayo,z0df,z33p,idsD,zqj0,z44h,zjmf,z7ni,bs_d,zcyz,zahl,zg5n,z9zx,h,z0ut,hfz,e2,zojd (zl9f _)]
 ·have e1:zelo t=8:=if_neg h
  have e2:fnC ⟨dgW (BitVec.ofInt 8 (1+tpN t 2)),tpN (t.adv 1) 4,zzh5 (t.adv 2) ids3,1+tpN (t.adv 3) 10,mkD (BitVec.ofInt 8 (30+tpN (t.adv 4) 3)),1+tpN (t.adv 5) 4,nilS,decide (tpN (t.adv 6) 6=0)⟩=fnC (z8jt t):=by
   unfold z8jt zu2o; rw [if_neg h]
  rw [e1]
  simp (disch:=first|omega|simp<;>omega|fail) [-zA,-zB,-zC,-zD,-zE,a56,zl2j,zayo,z0df,z33p,idsD,zqj0,z44h,zjmf,z7ni,bs_d,zcyz,zahl,zg5n,z9zx,h,hfz,e2,zojd (zl9f _)]
def reqK (t:Tp):Int:=1+tpN t 8
def reqV (t:Tp):Req :=
 if reqK t=1∨reqK t=3∨reqK t=5 then ⟨reqK t,1+tpN (t.adv 1) 3,0,[]⟩
 else if reqK t=4 then ⟨4,1+tpN (t.adv 1) 2,tpN (t.adv 2) 2,[]⟩
 else if reqK t=2 then ⟨2,0,0,zzh5 (t.adv 1) z78s⟩
 else if reqK t=6 then ⟨6,1+tpN (t.adv 1) 10,0,[]⟩
 else if reqK t=7 then ⟨7,tpN (t.adv 1) 30,0,[]⟩
 else ⟨reqK t,0,0,[]⟩
def reqA (t:Tp):Nat:=if reqK t=4 then 3 else if reqK t=8 then 1 else 2
theorem zg2q (t:Tp):1≤reqK t∧reqK t≤8:=by
 have:=z4rs t 8
 have:=z2s7 t (n:=8) (by omega)
 unfold reqK; omega
theorem ziwc (t:Tp) (ht:t.at_<3000000000):RunsF T670 a27 [.mp 0 2 0] [.cells (tpC t)] (.agg (rqC (reqV t))) [.cells (tpC (t.adv (reqA t)))]:=by
 refine ⟨?_⟩
 have hb:=zg2q t
 have m1:=z4rs (t.adv 1) 3
 have m2:=z2s7 (t.adv 1) (n:=3) (by omega)
 have m3:=z4rs (t.adv 1) 2
 have m4:=z2s7 (t.adv 1) (n:=2) (by omega)
 have m5:=z4rs (t.adv 1) 10
 have m6:=z2s7 (t.adv 1) (n:=10) (by omega)
 have m7:=z4rs t 8
 have m8:=z2s7 t (n:=8) (by omega)
 have hfz : ∀ n k,fzL 1 k (tpC (t.adv n)) (tpC (t.adv n)):=fun n k=>znnb (zs7w _)
 unfold reqV reqA
 obtain ⟨K,hK⟩ : ∃ K,tpN t 8=K:=⟨_,rfl⟩
 rw [hK] at m7 m8
 have hk:reqK t=1+K:=by unfold reqK; rw [hK]
 rw [hk] at hb ⊢
 by_cases e1:K=0
 ·subst e1
  have hw:IntKind.i64.wrap (1+(0:Int))=1:=by decide
  simp (disch:=first|omega|simp<;>omega|fail) [-zA,-zB,-zC,-zD,-zE,a27,zl2j,zayo,z2fz,hK,hw,z44h,zjmf,z7ik,z485,z60m,zkma,hfz,zojd (zhqv _)]
 by_cases e2:K=1
 ·subst e2
  have hw:IntKind.i64.wrap (1+(1:Int))=2:=by decide
  simp (disch:=first|omega|simp<;>omega|fail) [-zA,-zB,-zC,-zD,-zE,a27,zl2j,zayo,z2fz,hK,hw,z44h,zjmf,z7ik,z485,z60m,zkma,hfz,zojd (zhqv _)]
 by_cases e3:K=2
 ·subst e3
  have hw:IntKind.i64.wrap (1+(2:Int))=3:=by decide
  simp (disch:=first|omega|simp<;>omega|fail) [-zA,-zB,-zC,-zD,-zE,a27,zl2j,zayo,z2fz,hK,hw,z44h,zjmf,z7ik,z485,z60m,zkma,hfz,zojd (zhqv _)]
 by_cases e4:K=3
 ·subst e4
  have hw:IntKind.i64.wrap (1+(3:Int))=4:=by decide
  simp (disch:=first|omega|simp<;>omega|fail) [-zA,-zB,-zC,-zD,-zE,a27,zl2j,zayo,z2fz,hK,hw,z44h,zjmf,z7ik,z485,z60m,zkma,hfz,zojd (zhqv _)]
 by_cases e5:K=4
 ·subst e5
  have hw:IntKind.i64.wrap (1+(4:Int))=5:=by decide
  simp (disch:=first|omega|simp<;>omega|fail) [-zA,-zB,-zC,-zD,-zE,a27,zl2j,zayo,z2fz,hK,hw,z44h,zjmf,z7ik,z485,z60m,zkma,hfz,zojd (zhqv _)]
 by_cases e6:K=5
 ·subst e6
  have hw:IntKind.i64.wrap (1+(5:Int))=6:=by decide
  simp (disch:=first|omega|simp<;>omega|fail) [-zA,-zB,-zC,-zD,-zE,a27,zl2j,zayo,z2fz,hK,hw,z44h,zjmf,z7ik,z485,z60m,zkma,hfz,zojd (zhqv _)]
 by_cases e7:K=6
 ·subst e7
  have hw:IntKind.i64.wrap (1+(6:Int))=7:=by decide
  simp (disch:=first|omega|simp<;>omega|fail) [-zA,-zB,-zC,-zD,-zE,a27,zl2j,zayo,z2fz,hK,hw,z44h,zjmf,z7ik,z485,z60m,zkma,hfz,zojd (zhqv _)]
 obtain e8:K=7:=by omega
 subst e8
 have hw:IntKind.i64.wrap (1+(7:Int))=8:=by decide
 simp (disch:=first|omega|simp<;>omega|fail) [-zA,-zB,-zC,-zD,-zE,a27,zl2j,zayo,z2fz,hK,hw,z44h,zjmf,z7ik,z485,z60m,zkma,hfz,zojd (zhqv _)]
noncomputable def cMk (g:Tp→DV) (n:Tp→Nat):List DV→List DV→Option (DV × List DV):=conT (fun a:Tp=>a.at_<3000000000) (fun a=>[]) tpC (fun a=>(g a,tpC (a.adv (n a))))
theorem zkde {g:Tp→DV} {n:Tp→Nat} {t:Tp} (h:t.at_<3000000000):cMk g n [] (tpC t)=some (g t,tpC (t.adv (n t))) :=
 ztyo (A:=fun a:Tp=>a.at_<3000000000) (f:=fun a=>[]) (s:=tpC) (fun a b _ e=>by rw [z15z e]) t h
theorem zdjw {k:Nat} {g:Tp→DV} {n:Tp→Nat} (hp : ∀ t,zyp8 (g t)=true) (h : ∀ t:Tp,t.at_<3000000000→zwy1 P k [.mp 0 2 0] [.cells (tpC t)] (fun d h=>d=g t∧h=[.cells (tpC (t.adv (n t)))])):(Con.tch (cMk g n)).Sound P k :=
 zqeo (fun a _=>⟨rfl,zs7w _,hp a,zs7w _⟩) fun a ha=>h a ha
noncomputable def zpqb (t:Tp):DV := .agg (faC (zdx2 t))
noncomputable def zocd (t:Tp):DV := .agg (fnC (z8jt t))
noncomputable def zbdu (t:Tp):DV := .agg (orC (z4m3 t))
noncomputable def z3tu (t:Tp):DV := .agg (rqC (reqV t))
def zy0h (t:Tp):Nat:=9+zfp1 t
theorem zuih:(Con.tch (cMk zpqb zy0h)).Sound P 55:=zdjw (fun t=>z93p _) fun t h=>zizi mix zhjb Tryz.func55 ze8s (zsit t h) (Nat.le_refl _)
theorem zjbb:(Con.tch (cMk zocd zelo)).Sound P 56:=zdjw (fun t=>zl9f _) fun t h=>zizi mix zhjb Tryz.func56 zcwb (z2n0 t h) (Nat.le_refl _)
theorem zbz5:(Con.tch (cMk zbdu fun _=>3)).Sound P 26:=zdjw (fun t=>ztvh _) fun t h=>zizi mix zhjb Tryz.func26 z9gs (z5lm t h) (Nat.le_refl _)
theorem zmr3:(Con.tch (cMk z3tu reqA)).Sound P 27:=zdjw (fun t=>zhqv _) fun t h=>zizi mix zhjb Tryz.func27 z3hx (ziwc t h) (Nat.le_refl _)
end Go.Proofs.YtdnhbfmlklaldaaGreat
set_option linter.unusedSimpArgs false
set_option linter.unusedVariables false
namespace Go.Proofs.YtdnhbfmlklaldaaGreat
open Go Go.Am
theorem zf6m {P:Program} {f:FuncId} {fn:Func} (hf:P.funcs[f]? = some fn) {af:AFn} (hc:zsjc P fn=some af) {args:List DV} {h:List AObj} {v:DV} {k:List AObj} (hr:V P h.length af.code (retF af.res v k) ⟨zr5g af.ntmps args,h⟩)
  (hn:h.length≤k.length):zwy1 P f args h (fun d k'=>d=v∧k'=k) :=
 (zcpc hf hc (zftn (fun _ _ h=>h.out) hr)).freeze hn
def zqwi:Nat→Tp→List Fct→List Fct × Tp
 | 0,t,l=>(l,t)
 | k+1,t,l=>zqwi k (t.adv (zy0h t)) (l++[zdx2 t])
def z7td:Nat→Tp→List Fnd→List Fnd × Tp
 | 0,t,l=>(l,t)
 | k+1,t,l=>z7td k (t.adv (zelo t)) (l++[z8jt t])
def dblS (t:Tp):Sl Str:=if tpN t 6=0 then ⟨some true,[zzh5 (t.adv 1) ids3],fun e=>by simp at e,by simp⟩ else nilS
def dblA (t:Tp):Nat:=if tpN t 6=0 then 2 else 1
def caP (t:Tp) (F:Nat):List Fct × Tp:=zqwi (tpN (t.adv 2) (F+1)).toNat (t.adv 3) []
def caR (t:Tp) (N:Nat):List Fnd × Tp:=z7td (tpN t (N+1)).toNat (t.adv 1) []
def zhq6 (t:Tp) (F N:Nat):Cas:=⟨sumV t,tpN (t.adv 1) 40,ownN (caP t F).1,ownN (caR (caP t F).2 N).1,dblS (caR (caP t F).2 N).2⟩
def zsjk (t:Tp) (F N:Nat):Tp:=(caR (caP t F).2 N).2.adv (dblA (caR (caP t F).2 N).2)
noncomputable def T680:Tbl:=addT 29 (.tch z1m3) (addT 57 (.tch zqck) (addT 54 (.tch cSum) (addT 58 (.pure (cK idsD)) (addT 55 (.tch (cMk zpqb zy0h)) (addT 56 (.tch (cMk zocd zelo)) tbl0)))))
theorem zcfv:T680 29 = .tch z1m3:=by simp [T680]
theorem zazt:T680 57 = .tch zqck:=by simp [T680]
theorem zrcp:T680 54 = .tch cSum:=by simp [T680]
theorem zvf7:T680 58 = .pure (cK idsD):=by simp [T680]
theorem zmug:T680 55 = .tch (cMk zpqb zy0h):=by simp [T680]
theorem zh59:T680 56 = .tch (cMk zocd zelo):=by simp [T680]
theorem zqws:T680.Sound P:=z0rp z51e (z0rp z3hj (z0rp z8dz (z0rp (zq78 (zljw mix zr5o Tryz.func58 zt5h zlas)) (z0rp zuih (z0rp zjbb zr5o)))))
def Z36:List DV:=[w8 0#8,w8 0#8,w8 0#8,w8 0#8,w8 0#8,w8 0#8,w8 0#8,w8 0#8,w8 0#8,w8 0#8,w8 0#8,w8 0#8,w8 0#8,w8 0#8,w8 0#8,w8 0#8,w8 0#8,w8 0#8,w8 0#8,w8 0#8,w8 0#8,w8 0#8,w8 0#8,w8 0#8,w8 0#8,w8 0#8,w8 0#8,w8 0#8,w8 0#8,w8 0#8,w8 0#8,w8 0#8,.int .i64 0,.nils,.nils,.nils]
theorem zu4k:Z36.length=36:=by simp [Z36]
theorem zi4l:zbao Z36=true:=by simp [Z36,zbao,zyp8]
attribute [simp] zu4k zi4l
def zv0z:ACode:=match a25.code with
 | .seq _ (.seq _ (.seq _ y))=>y
 | _ => .skip
def z7o3:ACode:=match a25.code with
 | .seq _ (.seq _ (.seq _ (.seq _ y)))=>y
 | _ => .skip
def cX (A:Dg) (a:Int) (v1 v2 v3:DV):List DV:=dgC A++[.int .i64 a,v1,v2,v3]
theorem zb0y {A:Dg} {a:Int} {v1 v2 v3:DV}:(cX A a v1 v2 v3).length=36:=by simp [cX,z1t1]
theorem zrnz {A:Dg} {a:Int} {v1 v2 v3:DV}:(cX A a v1 v2 v3).drop 32=[.int .i64 a,v1,v2,v3]:=by unfold cX; rw [zj6k (by decide)]; rfl
theorem cX33 {A:Dg} {a:Int} {v1 v2 v3:DV}:oneC 1 false ((cX A a v1 v2 v3).drop 33)=some v1:=by rw [show (33:Nat)=32+1 from rfl,← List.drop_drop,zrnz]; rfl
theorem cX34 {A:Dg} {a:Int} {v1 v2 v3:DV}:oneC 1 false ((cX A a v1 v2 v3).drop 34)=some v2:=by rw [show (34:Nat)=32+2 from rfl,← List.drop_drop,zrnz]; rfl
theorem zcvp {A:Dg} {a:Int} {v1 v2 v3 v:DV} {k:Nat} (hk:k≤2):zk7y (cX A a v1 v2 v3) (33+k) [v]=cX A a (if k=0 then v else v1) (if k=1 then v else v2) (if k=2 then v else v3):=by
 unfold zk7y
 have e1:(cX A a v1 v2 v3).take (33+k)=dgC A++[DV.int .i64 a,v1,v2,v3].take (1+k):=by
  unfold cX; rw [List.take_append,List.take_of_length_le (by rw [z1t1]; omega),z1t1]; congr 2; omega
 have e2:(cX A a v1 v2 v3).drop (33+k+[v].length)=[DV.int .i64 a,v1,v2,v3].drop (2+k):=by
  rw [show 33+k+[v].length=32+(2+k) by simp; omega,← List.drop_drop,zrnz]
 rw [e1,e2]
 match k,hk with
 | 0,_=>simp [cX]
 | 1,_=>simp [cX]
 | 2,_=>simp [cX]
theorem ztie {h:List AObj} {id:Nat} {A:Dg} {a:Int} {v1 v2 v3 v:DV} (hc:v.cells=[v]) (ho:v.one=true):zy6o h id 1 33 v (some (cX A a v1 v2 v3))=some (.junk,h.set id (.cells (cX A a v v2 v3))):=by
 rw [zltg hc ho (by rw [zb0y]; decide),show (33:Nat)=33+0 from rfl,zcvp (by omega)]; rfl
theorem zgrq {h:List AObj} {id:Nat} {A:Dg} {a:Int} {v1 v2 v3 v:DV} (hc:v.cells=[v]) (ho:v.one=true):zy6o h id 1 34 v (some (cX A a v1 v2 v3))=some (.junk,h.set id (.cells (cX A a v1 v v3))):=by
 rw [zltg hc ho (by rw [zb0y]; decide),show (34:Nat)=33+1 from rfl,zcvp (by omega)]; rfl
theorem zrli {h:List AObj} {id:Nat} {A:Dg} {a:Int} {v1 v2 v3 v:DV} (hc:v.cells=[v]) (ho:v.one=true):zy6o h id 1 35 v (some (cX A a v1 v2 v3))=some (.junk,h.set id (.cells (cX A a v1 v2 v))):=by
 rw [zltg hc ho (by rw [zb0y]; decide),show (35:Nat)=33+2 from rfl,zcvp (by omega)]; rfl
theorem z5bn {A:Dg} {a:Int} {f:Sl Fct} {n:Sl Fnd} {d:Sl Str}:cX A a (f.dv 71 faC) (n.dv 39 fnC) (d.dv 1 stC)=caC ⟨A,a,f,n,d⟩:=rfl
theorem zykt {A:B8} {a:Int}:zvnk [w8 0#8,w8 0#8,w8 0#8,w8 0#8,w8 0#8,w8 0#8,w8 0#8,w8 0#8,w8 0#8,w8 0#8,w8 0#8,w8 0#8,w8 0#8,w8 0#8,w8 0#8,w8 0#8,w8 0#8,w8 0#8,w8 0#8,w8 0#8,w8 0#8,w8 0#8,w8 0#8,w8 0#8,w8 0#8,w8 0#8,w8 0#8,w8 0#8,w8 0#8,w8 0#8,w8 0#8,w8 0#8,.int .i64 0,.nils,.nils,.nils] [(0,32,.agg (dgC (dgW A))),(32,1,.int .i64 a)]=some (.agg (cX (dgW A) a .nils .nils .nils)):=by kernel_rfl
attribute [simp] zb0y cX33 cX34
theorem zwlc {K:Nat→Bool} {h:List AObj} {A:Dg} {a:Int} {v1 v2 v3:DV}:mkL K h (cX A a v1 v2 v3)=cX A a (mk1 K h v1) (mk1 K h v2) (mk1 K h v3):=by
 unfold cX; rw [zqm6,zrip (z3ot A)]; simp
theorem zys9 {A:Dg} {a:Int} {v1 v2 v3:DV}:zbao (cX A a v1 v2 v3)=(zyp8 v1&&(zyp8 v2&&zyp8 v3)):=by
 unfold cX
 have : ∀ (l m:List DV),zbao l=true→zbao (l++m)=zbao m:=fun l m h=>by
  induction l with
  | nil=>rfl
  | cons d r ih=>simp only [zbao,Bool.and_eq_true] at h; simp only [List.cons_append,zbao,h.1,Bool.true_and,ih h.2]
 rw [this _ _ (z3ot A)]
 simp [zbao,zyp8]
theorem zu82 (t:Tp) (A:Dg) (a:Int) (f:Sl Fct) (n:Sl Fnd) (ht:t.at_<3900000000):V P 1 z7o3 (retF [.cell 6 36 true] (.agg (caC ⟨A,a,f,n,dblS t⟩)) [.cells (tpC (t.adv (dblA t)))])
  ⟨[.mp 0 2 0,.junk,.junk,.junk,.junk,.junk,.mp 1 36 0,.mp 2 36 0]++js 46,[.cells (tpC t),.cells Z36,.cells (cX A a (f.dv 71 faC) (n.dv 39 fnC) .nils)]⟩:=by
 refine V_W mix zqws ?_
 have hfz : ∀ n k,fzL 1 k (tpC (t.adv n)) (tpC (t.adv n)):=fun n k=>znnb (zs7w _)
 have hnil:(nilS:Sl Str).dv 1 stC = .nils:=rfl
 by_cases h:tpN t 6=0
 ·have e1:dblA t=2:=if_pos h
  have e2:(dblS t).dv 1 stC = .sl true 1 1 [.str (zzh5 (t.adv 1) ids3)]:=by unfold dblS; rw [if_pos h]; rfl
  have hca:=z5bn (A:=A) (a:=a) (f:=f) (n:=n) (d:=dblS t)
  rw [e2] at hca
  rw [e1,← hca]
  have hone:oneC 36 true (cX A a (f.dv 71 faC) (n.dv 39 fnC) (.sl true 1 1 [.str (zzh5 (t.adv 1) ids3)]))=some (.agg (cX A a (f.dv 71 faC) (n.dv 39 fnC) (.sl true 1 1 [.str (zzh5 (t.adv 1) ids3)]))):=by rw [hca]; exact zc3i
  have hst : ∀ H:List AObj,zy6o H 1 36 0 (.agg (cX A a (f.dv 71 faC) (n.dv 39 fnC) (.sl true 1 1 [.str (zzh5 (t.adv 1) ids3)]))) (some Z36)=some (.junk,H.set 1 (.cells (cX A a (f.dv 71 faC) (n.dv 39 fnC) (.sl true 1 1 [.str (zzh5 (t.adv 1) ids3)])))):=fun H=>by rw [hca]; exact zp1j (by simp [Z36])
  have hpu:zbao (cX A a (f.dv 71 faC) (n.dv 39 fnC) (.sl true 1 1 [.str (zzh5 (t.adv 1) ids3)]))=true:=by rw [hca]; exact zkih _
  have s2 : ∀ (H:List AObj),zy6o H 2 1 35 (.sl true 1 1 [.str (zzh5 (t.adv 1) ids3)]) (some (cX A a (f.dv 71 faC) (n.dv 39 fnC) .nils))=some (.junk,H.set 2 (.cells (cX A a (f.dv 71 faC) (n.dv 39 fnC) (.sl true 1 1 [.str (zzh5 (t.adv 1) ids3)])))):=fun H=>zrli rfl rfl
  simp (disch:=first|omega|simp<;>omega|fail) [-zA,-zB,-zC,-zD,-zE,z7o3,a25,zcfv,zazt,zvf7,z33p,idsD,zqj0,z44h,zjmf,h,hfz,s2,hone,hst,zojd hpu]
 ·have e1:dblA t=1:=if_neg h
  have e2:(dblS t).dv 1 stC = .nils:=by unfold dblS; rw [if_neg h]; rfl
  have hca:=z5bn (A:=A) (a:=a) (f:=f) (n:=n) (d:=dblS t)
  rw [e2] at hca
  rw [e1,← hca]
  have hone:oneC 36 true (cX A a (f.dv 71 faC) (n.dv 39 fnC) .nils)=some (.agg (cX A a (f.dv 71 faC) (n.dv 39 fnC) .nils)):=by rw [hca]; exact zc3i
  have hst : ∀ H:List AObj,zy6o H 1 36 0 (.agg (cX A a (f.dv 71 faC) (n.dv 39 fnC) .nils)) (some Z36)=some (.junk,H.set 1 (.cells (cX A a (f.dv 71 faC) (n.dv 39 fnC) .nils))):=fun H=>by rw [hca]; exact zp1j (by simp [Z36])
  have hpu:zbao (cX A a (f.dv 71 faC) (n.dv 39 fnC) .nils)=true:=by rw [hca]; exact zkih _
  simp (disch:=first|omega|simp<;>omega|fail) [-zA,-zB,-zC,-zD,-zE,z7o3,a25,zcfv,z44h,h,hfz,hone,hst,zojd hpu]
end Go.Proofs.YtdnhbfmlklaldaaGreat
