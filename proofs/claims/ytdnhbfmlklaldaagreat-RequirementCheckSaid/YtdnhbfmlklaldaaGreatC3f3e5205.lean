/-
  13 texts of mine in one.
-/
import Derived.Test.YtdnhbfmlklaldaaGreatCb1b7f320
import Derived.Test.YtdnhbfmlklaldaaGreatC1d38dafb
import Derived.Test.YtdnhbfmlklaldaaGreatC86a19a23
import Derived.Test.YtdnhbfmlklaldaaGreatCbdac06b7
import Derived.Test.YtdnhbfmlklaldaaGreatC38e3cab2
import Derived.Test.YtdnhbfmlklaldaaGreatC7c8506f3
set_option maxRecDepth 20000
set_option maxHeartbeats 4000000
open List renaming map_take → zA, map_drop → zB, map_set → zC, map_append → zD, drop_one → zE
set_option linter.unusedSimpArgs false
set_option linter.unusedVariables false
namespace Go.Proofs.YtdnhbfmlklaldaaGreat
open Go Go.Am
def jV (K:Nat) {α:Type} (l:List α):DV:=if l=[] then .nils else .ms 3 (l.length*K) 0 K l.length (l.length*K)
def jH {α:Type} (f:α→List DV) (l:List α):List AObj:=if l=[] then [] else [.cells (fl f l)]
theorem zynj {K:Nat} {α:Type}:jV K ([]:List α) = .nils:=rfl
theorem za02 {α:Type} {f:α→List DV}:jH f ([]:List α)=[]:=rfl
theorem z2ak {K:Nat} {α:Type} {l:List α} (h:l≠[]):jV K l = .ms 3 (l.length*K) 0 K l.length (l.length*K):=if_neg h
theorem zcp2 {α:Type} {f:α→List DV} {l:List α} (h:l≠[]):jH f l=[.cells (fl f l)]:=if_neg h
theorem z6qd {K:Nat} {α:Type} {l:List α} {x:α}:jV K (l++[x]) = .ms 3 ((l.length+1)*K) 0 K (l.length+1) ((l.length+1)*K):=by rw [z2ak (by simp),List.length_append]; rfl
theorem zr5m {α:Type} {f:α→List DV} {l:List α} {x:α}:jH f (l++[x])=[.cells (fl f (l++[x]))]:=zcp2 (by simp)
structure CM (α:Type) where
 k:Nat
 t:Tp
 l:List α
def S681 (A:Dg) (a:Int) (f:Sl Fct) (s:CM Fnd):St:=znsc (.mp 0 2 0) (.mp 1 36 0) (.mp 2 36 0) (.int .i64 s.k) ([.cells (tpC s.t),.cells Z36,.cells (cX A a (f.dv 71 faC) (jV 39 s.l) .nils)]++jH fnC s.l)
theorem zza1 (t:Tp):zelo t≤9:=by unfold zelo; split<;>omega
theorem z9fk (t:Tp):zy0h t≤11:=by have:=(zbqu (t:=t)).1; unfold zy0h; omega
theorem z2r4 : ∀ (k:Nat) (t:Tp) (l:List Fnd),(z7td k t l).2.at_≤t.at_+9*k∧(z7td k t l).1.length=l.length+k
 | 0,t,l=>by simp [z7td]
 | k+1,t,l=>by
  have:=z2r4 k (t.adv (zelo t)) (l++[z8jt t])
  have:=zza1 t
  simp [z7td] at *; omega
theorem ztxo : ∀ (k:Nat) (t:Tp) (l:List Fct),(zqwi k t l).2.at_≤t.at_+11*k∧(zqwi k t l).1.length=l.length+k
 | 0,t,l=>by simp [zqwi]
 | k+1,t,l=>by
  have:=ztxo k (t.adv (zy0h t)) (l++[zdx2 t])
  have:=z9fk t
  simp [zqwi] at *; omega
theorem z919 (t:Tp) (A:Dg) (a:Int) (f:Sl Fct) (N:Nat) (hN:N≤1000) (ht:t.at_<2900000000):V P 1 zv0z (retF [.cell 6 36 true] (.agg (caC ⟨A,a,f,ownN (caR t N).1,dblS (caR t N).2⟩)) [.cells (tpC ((caR t N).2.adv (dblA (caR t N).2)))])
  ⟨[.mp 0 2 0,.junk,.int .i64 N,.junk,.junk,.junk,.mp 1 36 0,.mp 2 36 0]++js 46,[.cells (tpC t),.cells Z36,.cells (cX A a (f.dv 71 faC) .nils .nils)]⟩:=by
 have n1:=z4rs t (N+1)
 have n2:=z2s7 t (n:=N+1) (by omega)
 obtain ⟨M,hM⟩ : ∃ M:Nat,tpN t (N+1)=M:=⟨_,(Int.toNat_of_nonneg n1).symm⟩
 have hR0:caR t N=z7td M (t.adv 1) []:=by unfold caR; rw [hM,Int.toNat_natCast]
 obtain ⟨R,hR⟩ : ∃ R,caR t N=R:=⟨_,rfl⟩
 rw [hR]
 rw [hR0] at hR
 have hw:IntKind.i64.wrap ((N:Int)+1)=N+1:=by rw [IntKind.wrap_i64]; omega
 simp only [zv0z,a25]
 refine zbn1 (zbn1 (V_W mix zqws ?_))
 simp (disch:=first|omega|simp<;>omega|fail) [-zA,-zB,-zC,-zD,-zE,zcfv,z44h,hw,hM]
 refine z3mo (ztbr (S681 A a f) (fun s=>s.k) (fun s=>z7td s.k s.t s.l=R∧s.t.at_+9*s.k<2900100000∧s.l.length+s.k≤2000) ⟨M,t.adv 1,[]⟩ (z515 (by simp (disch:=first|omega|simp<;>omega|fail) [-zA,-zB,-zC,-zD,-zE,S681,znsc]) (by simp (disch:=first|omega|simp<;>omega|fail) [-zA,-zB,-zC,-zD,-zE,S681,znsc,zynj,za02])) ⟨hR,by simp; omega,by simp; omega⟩ (fun s hs => ?_))
 obtain ⟨k,u,l⟩:=s
 obtain ⟨r1,r2,r3⟩:=hs
 simp only at r1 r2 r3
 simp only [S681]
 cases k with
 | zero =>
  have r1:(l,u)=R:=r1
  subst r1
  refine V_W mix zqws ?_
  by_cases e:l=[]
  ·subst e
   have hnn:(ownN ([]:List Fnd)).dv 39 fnC = .nils:=rfl
   simp (disch:=first|omega|simp<;>omega|fail) [-zA,-zB,-zC,-zD,-zE,zyoh,znsc,zynj,za02]
   refine zqfd (z515 ?_ ?_) (zu82 u A a f (ownN []) (by omega))
   ·simp (disch:=first|omega|simp<;>omega|fail) [-zA,-zB,-zC,-zD,-zE]
   ·rw [hnn]
  ·have hd:(ownN l).dv 39 fnC = .sl false 39 l.length (l.flatMap fnC):=zgr3 e (by omega)
   have q1:=z2ak (K:=39) e
   have q2:=zcp2 (f:=fnC) e
   have hp:=zp6k zl9f l
   have hl:=z1rq z0o0 l
   have htk:(l.flatMap fnC).take (l.length*39)=l.flatMap fnC:=List.take_of_length_le (by omega)
   simp (disch:=first|omega|simp<;>omega|fail) [-zA,-zB,-zC,-zD,-zE,zyoh,znsc,q1,q2]
   refine V_mk (fun id=>decide (id≤2)) ?_
   have hmk:=fun K H=>zrip (K:=K) (h:=H) (zs7w u)
   simp (disch:=first|omega|simp<;>omega|fail) [-zA,-zB,-zC,-zD,-zE,zwlc,fl,hl,htk,hp,hmk]
   refine zqfd (zju2 (tail:=[.dead]) ?_ ?_ ?_ ?_ ?_) (zu82 u A a f (ownN l) (by omega))
   ·simp (disch:=first|omega|simp<;>omega|fail) [-zA,-zB,-zC,-zD,-zE]
   ·rw [hd]; rfl
   ·simp
   ·simp (disch:=first|omega|simp<;>omega|fail) [-zA,-zB,-zC,-zD,-zE,z1r6,Am.below]
   ·rw [hd]
    have hc:zbao (cX A a (f.dv 71 faC) (.sl false 39 l.length (l.flatMap fnC)) .nils)=true:=by rw [zys9]; simp [zyp8,hp,zacf]
    simp (disch:=first|omega|simp<;>omega|fail) [-zA,-zB,-zC,-zD,-zE,zlf2,zmq5 _ _ hc,zmq5 _ _ zi4l,zmq5 _ _ (zs7w _)]
 | succ k =>
  have r1:z7td k (u.adv (zelo u)) (l++[z8jt u])=R:=r1
  have hk:(0:Int)<((k+1:Nat):Int):=by omega
  have hk':0<k+1:=by omega
  have hfa:=zza1 u
  have hg:=zkde (g:=zocd) (n:=zelo) (t:=u) (by omega)
  obtain ⟨F,hF⟩ : ∃ F,z8jt u=F:=⟨_,rfl⟩
  have hgF:zocd u = .agg (fnC F):=by unfold zocd; rw [hF]
  rw [hgF] at hg
  rw [hF] at r1
  obtain ⟨v,hv⟩ : ∃ v,u.adv (zelo u)=v:=⟨_,rfl⟩
  have hva:v.at_=u.at_+zelo u:=by rw [← hv]; simp
  rw [hv] at hg r1
  refine V_W mix zqws ?_
  by_cases e:l=[]
  ·subst e
   have hap:=zsuq (h:=[AObj.cells (tpC v),.cells Z36,.cells (cX A a (f.dv 71 faC) .nils .nils)]) (s:=39) (b:=128) (m:=1) (cs:=fnC F) (by decide) (by decide) (by rw [z0o0]) (by decide) (by decide)
   simp only [z0o0,List.length_cons,List.length_nil,Nat.zero_add] at hap
   have s1 : ∀ H:List AObj,zy6o H 2 1 34 (.ms 3 39 0 39 1 39) (some (cX A a (f.dv 71 faC) .nils .nils))=some (.junk,H.set 2 (.cells (cX A a (f.dv 71 faC) (.ms 3 39 0 39 1 39) .nils))):=fun H=>zgrq rfl rfl
   simp (disch:=first|omega|simp<;>omega|fail) [-zA,-zB,-zC,-zD,-zE,zyoh,znsc,zynj,za02,hk,hk',zh59,hg,hap,s1]
   have e1:jV 39 [F] = .ms 3 39 0 39 1 39:=rfl
   have e2:jH fnC [F]=[.cells (fnC F)]:=by rw [zcp2 (by simp),z4hs]
   exact ⟨⟨k,v,[F]⟩,z515 (by simp (disch:=first|omega|simp<;>omega|fail) [-zA,-zB,-zC,-zD,-zE,S681,znsc]) (by simp (disch:=first|omega|simp<;>omega|fail) [-zA,-zB,-zC,-zD,-zE,S681,znsc,e1,e2]),by simp,r1,by simp only; omega,by simp at r3 ⊢; omega⟩
  ·have q1:=z2ak (K:=39) e
   have q2:=zcp2 (f:=fnC) e
   have hap:=zkg3 (h:=[AObj.cells (tpC v),.cells Z36,.cells (cX A a (f.dv 71 faC) (.ms 3 (l.length*39) 0 39 l.length (l.length*39)) .nils),.cells (fl fnC l)]) (id:=3) (b:=128) (l:=l) (x:=F) z0o0 (by decide) (by decide) (fun _=>zbwe) (by omega) (by simp [objV,ziu0,z8lx z0o0])
   have s1 : ∀ H:List AObj,zy6o H 2 1 34 (.ms 3 ((l.length+1)*39) 0 39 (l.length+1) ((l.length+1)*39)) (some (cX A a (f.dv 71 faC) (.ms 3 (l.length*39) 0 39 l.length (l.length*39)) .nils))=some (.junk,H.set 2 (.cells (cX A a (f.dv 71 faC) (.ms 3 ((l.length+1)*39) 0 39 (l.length+1) ((l.length+1)*39)) .nils))):=fun H=>zgrq rfl rfl
   simp (disch:=first|omega|simp<;>omega|fail) [-zA,-zB,-zC,-zD,-zE,zyoh,znsc,q1,q2,hk,hk',zh59,hg,hap,s1]
   have e1:=z6qd (K:=39) (l:=l) (x:=F)
   have e2:=zr5m (f:=fnC) (l:=l) (x:=F)
   exact ⟨⟨k,v,l++[F]⟩,z515 (by simp (disch:=first|omega|simp<;>omega|fail) [-zA,-zB,-zC,-zD,-zE,S681,znsc]) (by simp (disch:=first|omega|simp<;>omega|fail) [-zA,-zB,-zC,-zD,-zE,S681,znsc,e1,e2]),by simp,r1,by simp only; omega,by simp at r3 ⊢; omega⟩
def S680 (N:Nat) (A:Dg) (a:Int) (s:CM Fct):St:=z3xo (.mp 0 2 0) (.int .i64 N) (.mp 1 36 0) (.mp 2 36 0) (.int .i64 s.k) ([.cells (tpC s.t),.cells Z36,.cells (cX A a (jV 71 s.l) .nils .nils)]++jH faC s.l)
theorem zu54 (t:Tp) (F N:Nat) (hF:F≤1000) (hN:N≤1000) (ht:t.at_<2800000000):V P 1 a25.code (retF a25.res (.agg (caC (zhq6 t F N))) [.cells (tpC (zsjk t F N))]) ⟨zr5g a25.ntmps [.mp 0 2 0,.int .i64 F,.int .i64 N],[.cells (tpC t)]⟩:=by
 have n1:=z4rs (t.adv 2) (F+1)
 have n2:=z2s7 (t.adv 2) (n:=F+1) (by omega)
 obtain ⟨M,hM⟩ : ∃ M:Nat,tpN (t.adv 2) (F+1)=M:=⟨_,(Int.toNat_of_nonneg n1).symm⟩
 have hR0:caP t F=zqwi M (t.adv 3) []:=by unfold caP; rw [hM,Int.toNat_natCast]
 have hat:=ztxo M (t.adv 3) []
 unfold zhq6 zsjk
 obtain ⟨R,hR⟩ : ∃ R,caP t F=R:=⟨_,rfl⟩
 rw [hR]
 rw [hR0] at hR
 rw [hR] at hat
 have hw:IntKind.i64.wrap ((F:Int)+1)=F+1:=by rw [IntKind.wrap_i64]; omega
 have hsum:sumV t=dgW (BitVec.ofInt 8 (1+tpN t 6)):=rfl
 have hbd:=zykt (A:=BitVec.ofInt 8 (1+tpN t 6)) (a:=tpN (t.adv 1) 40)
 rw [← hsum] at hbd
 obtain ⟨A,hA⟩ : ∃ A,sumV t=A:=⟨_,rfl⟩
 obtain ⟨a,ha⟩ : ∃ a,tpN (t.adv 1) 40=a:=⟨_,rfl⟩
 have hsm:=zliq (t:=t) (by omega)
 rw [hA] at hbd hsm ⊢
 rw [ha] at hbd ⊢
 have hcl : ∀ H:List AObj,zy6o H 2 36 0 (.agg (cX A a .nils .nils .nils)) (some [w8 0#8,w8 0#8,w8 0#8,w8 0#8,w8 0#8,w8 0#8,w8 0#8,w8 0#8,w8 0#8,w8 0#8,w8 0#8,w8 0#8,w8 0#8,w8 0#8,w8 0#8,w8 0#8,w8 0#8,w8 0#8,w8 0#8,w8 0#8,w8 0#8,w8 0#8,w8 0#8,w8 0#8,w8 0#8,w8 0#8,w8 0#8,w8 0#8,w8 0#8,w8 0#8,w8 0#8,w8 0#8,.int .i64 0,.nils,.nils,.nils])=some (.junk,H.set 2 (.cells (cX A a .nils .nils .nils))):=fun H=>zfc1 zb0y rfl (by simp [cX,zoxk,zzmf,DV.one])
 refine zbn1 (V_W mix zqws ?_)
 simp (disch:=first|omega|simp<;>omega|fail) [-zA,-zB,-zC,-zD,-zE,a25]
 refine zbn1 (V_W mix zqws ?_)
 simp (disch:=first|omega|simp<;>omega|fail) [-zA,-zB,-zC,-zD,-zE,zcfv,zrcp,hsm,z44h,zjmf,ha,hbd,hcl]
 refine zbn1 (zbn1 (V_W mix zqws ?_))
 simp (disch:=first|omega|simp<;>omega|fail) [-zA,-zB,-zC,-zD,-zE,zcfv,z44h,hw,hM]
 refine z3mo (ztbr (S680 N A a) (fun s=>s.k) (fun s=>zqwi s.k s.t s.l=R∧s.t.at_+11*s.k<2800100000∧s.l.length+s.k≤2000) ⟨M,t.adv 3,[]⟩ (z515 (by simp (disch:=first|omega|simp<;>omega|fail) [-zA,-zB,-zC,-zD,-zE,S680,z3xo]) (by simp (disch:=first|omega|simp<;>omega|fail) [-zA,-zB,-zC,-zD,-zE,S680,z3xo,zynj,za02,Z36,zjmf])) ⟨hR,by simp; omega,by simp; omega⟩ (fun s hs => ?_))
 obtain ⟨k,u,l⟩:=s
 obtain ⟨r1,r2,r3⟩:=hs
 simp only at r1 r2 r3
 simp only [S680]
 cases k with
 | zero =>
  have r1:(l,u)=R:=r1
  subst r1
  have c2:=z919 u A a (ownN l) N hN (by omega)
  simp only [zv0z,a25] at c2
  refine V_W mix zqws ?_
  by_cases e:l=[]
  ·subst e
   have hnn:(ownN ([]:List Fct)).dv 71 faC = .nils:=rfl
   simp (disch:=first|omega|simp<;>omega|fail) [-zA,-zB,-zC,-zD,-zE,zr8m,z3xo,zynj,za02]
   refine zqfd (z515 ?_ ?_) c2
   ·simp (disch:=first|omega|simp<;>omega|fail) [-zA,-zB,-zC,-zD,-zE]
   ·rw [hnn]
  ·have hd:(ownN l).dv 71 faC = .sl false 71 l.length (l.flatMap faC):=zgr3 e (by omega)
   have q1:=z2ak (K:=71) e
   have q2:=zcp2 (f:=faC) e
   have hp:=zp6k z93p l
   have hl:=z1rq zs77 l
   have htk:(l.flatMap faC).take (l.length*71)=l.flatMap faC:=List.take_of_length_le (by omega)
   simp (disch:=first|omega|simp<;>omega|fail) [-zA,-zB,-zC,-zD,-zE,zr8m,z3xo,q1,q2]
   refine V_mk (fun id=>decide (id≤2)) ?_
   have hmk:=fun K H=>zrip (K:=K) (h:=H) (zs7w u)
   simp (disch:=first|omega|simp<;>omega|fail) [-zA,-zB,-zC,-zD,-zE,zwlc,fl,hl,htk,hp,hmk]
   refine zqfd (zju2 (tail:=[.dead]) ?_ ?_ ?_ ?_ ?_) c2
   ·simp (disch:=first|omega|simp<;>omega|fail) [-zA,-zB,-zC,-zD,-zE]
   ·rw [hd]; rfl
   ·simp
   ·simp (disch:=first|omega|simp<;>omega|fail) [-zA,-zB,-zC,-zD,-zE,z1r6,Am.below]
   ·rw [hd]
    have hc:zbao (cX A a (.sl false 71 l.length (l.flatMap faC)) .nils .nils)=true:=by rw [zys9]; simp [zyp8,hp]
    simp (disch:=first|omega|simp<;>omega|fail) [-zA,-zB,-zC,-zD,-zE,zlf2,zmq5 _ _ hc,zmq5 _ _ zi4l,zmq5 _ _ (zs7w _)]
 | succ k =>
  have r1:zqwi k (u.adv (zy0h u)) (l++[zdx2 u])=R:=r1
  have hk:(0:Int)<((k+1:Nat):Int):=by omega
  have hk':0<k+1:=by omega
  have hfa:=z9fk u
  have hg:=zkde (g:=zpqb) (n:=zy0h) (t:=u) (by omega)
  obtain ⟨F,hF⟩ : ∃ F,zdx2 u=F:=⟨_,rfl⟩
  have hgF:zpqb u = .agg (faC F):=by unfold zpqb; rw [hF]
  rw [hgF] at hg
  rw [hF] at r1
  obtain ⟨v,hv⟩ : ∃ v,u.adv (zy0h u)=v:=⟨_,rfl⟩
  have hva:v.at_=u.at_+zy0h u:=by rw [← hv]; simp
  rw [hv] at hg r1
  refine V_W mix zqws ?_
  by_cases e:l=[]
  ·subst e
   have hap:=zsuq (h:=[AObj.cells (tpC v),.cells Z36,.cells (cX A a .nils .nils .nils)]) (s:=71) (b:=160) (m:=1) (cs:=faC F) (by decide) (by decide) (by rw [zs77]) (by decide) (by decide)
   simp only [zs77,List.length_cons,List.length_nil,Nat.zero_add] at hap
   have s1 : ∀ H:List AObj,zy6o H 2 1 33 (.ms 3 71 0 71 1 71) (some (cX A a .nils .nils .nils))=some (.junk,H.set 2 (.cells (cX A a (.ms 3 71 0 71 1 71) .nils .nils))):=fun H=>ztie rfl rfl
   simp (disch:=first|omega|simp<;>omega|fail) [-zA,-zB,-zC,-zD,-zE,zr8m,z3xo,zynj,za02,hk,hk',zmug,hg,hap,s1]
   have e1:jV 71 [F] = .ms 3 71 0 71 1 71:=rfl
   have e2:jH faC [F]=[.cells (faC F)]:=by rw [zcp2 (by simp),z4hs]
   exact ⟨⟨k,v,[F]⟩,z515 (by simp (disch:=first|omega|simp<;>omega|fail) [-zA,-zB,-zC,-zD,-zE,S680,z3xo]) (by simp (disch:=first|omega|simp<;>omega|fail) [-zA,-zB,-zC,-zD,-zE,S680,z3xo,e1,e2]),by simp,r1,by simp only; omega,by simp at r3 ⊢; omega⟩
  ·have q1:=z2ak (K:=71) e
   have q2:=zcp2 (f:=faC) e
   have hap:=zkg3 (h:=[AObj.cells (tpC v),.cells Z36,.cells (cX A a (.ms 3 (l.length*71) 0 71 l.length (l.length*71)) .nils .nils),.cells (fl faC l)]) (id:=3) (b:=160) (l:=l) (x:=F) zs77 (by decide) (by decide) (fun _=>zfgo) (by omega) (by simp [objV,ziu0,z8lx zs77])
   have s1 : ∀ H:List AObj,zy6o H 2 1 33 (.ms 3 ((l.length+1)*71) 0 71 (l.length+1) ((l.length+1)*71)) (some (cX A a (.ms 3 (l.length*71) 0 71 l.length (l.length*71)) .nils .nils))=some (.junk,H.set 2 (.cells (cX A a (.ms 3 ((l.length+1)*71) 0 71 (l.length+1) ((l.length+1)*71)) .nils .nils))):=fun H=>ztie rfl rfl
   simp (disch:=first|omega|simp<;>omega|fail) [-zA,-zB,-zC,-zD,-zE,zr8m,z3xo,q1,q2,hk,hk',zmug,hg,hap,s1]
   have e1:=z6qd (K:=71) (l:=l) (x:=F)
   have e2:=zr5m (f:=faC) (l:=l) (x:=F)
   exact ⟨⟨k,v,l++[F]⟩,z515 (by simp (disch:=first|omega|simp<;>omega|fail) [-zA,-zB,-zC,-zD,-zE,S680,z3xo]) (by simp (disch:=first|omega|simp<;>omega|fail) [-zA,-zB,-zC,-zD,-zE,S680,z3xo,e1,e2]),by simp,r1,by simp only; omega,by simp at r3 ⊢; omega⟩
noncomputable def znvy:List DV→List DV→Option (DV × List DV):=conT (fun a:Tp × Nat × Nat=>a.1.at_<2800000000∧a.2.1≤1000∧a.2.2≤1000) (fun a=>[.int .i64 a.2.1,.int .i64 a.2.2]) (fun a=>tpC a.1) (fun a=>(.agg (caC (zhq6 a.1 a.2.1 a.2.2)),tpC (zsjk a.1 a.2.1 a.2.2)))
theorem z5bc {t:Tp} {F N:Nat} (h:t.at_<2800000000) (h1:F≤1000) (h2:N≤1000):znvy [.int .i64 F,.int .i64 N] (tpC t)=some (.agg (caC (zhq6 t F N)),tpC (zsjk t F N)) :=
 ztyo (A:=fun a:Tp × Nat × Nat=>a.1.at_<2800000000∧a.2.1≤1000∧a.2.2≤1000) (f:=fun a=>[.int .i64 a.2.1,.int .i64 a.2.2]) (s:=fun a=>tpC a.1) (g:=fun a=>(.agg (caC (zhq6 a.1 a.2.1 a.2.2)),tpC (zsjk a.1 a.2.1 a.2.2))) (by
  rintro ⟨a,b,c⟩ ⟨a',b',c'⟩ e1 e2
  simp only [List.cons.injEq,DV.int.injEq,true_and,and_true,Int.natCast_inj] at e1
  rw [e1.1,e1.2,z15z e2]) (t,F,N) ⟨h,h1,h2⟩
theorem zpy7:(Con.tch znvy).Sound P 25:=zqeo (fun a _=>⟨by simp [zbao,zyp8],zs7w _,zkih _,zs7w _⟩) fun a h=>zf6m Tryz.func25 zgum (zu54 a.1 a.2.1 a.2.2 h.2.1 h.2.2 h.1) (Nat.le_refl _)
end Go.Proofs.YtdnhbfmlklaldaaGreat
set_option linter.unusedSimpArgs false
set_option linter.unusedVariables false
namespace Go.Proofs.YtdnhbfmlklaldaaGreat
open Go Go.Am
structure DcOK (c:Cas):Prop where
 f:c.f.l.length≤1000
 d : ∀ f ∈ c.f.l,f.docs.l.length≤1000
 n:c.n.l.length≤1000
 m : ∀ f ∈ c.n.l,f.dd.l.length≤1000
theorem zpdu : ∀ (k:Nat) (t:Tp) (x:Sl Dg),x.l.length+k≤1000→(znld k t x).l.length≤x.l.length+k
 | 0,t,x,_=>Nat.le_refl _
 | k+1,t,x,h=>by
  have h1:=zfdk (x:=x) (d:=dgB (10+tpN t 12)) (by omega)
  have:=zpdu k (t.adv 1) (addF x (dgB (10+tpN t 12))) (by omega)
  unfold znld; omega
theorem zf2u (t:Tp):(zdx2 t).docs.l.length≤2:=by
 have h:=zbqu (t:=t)
 have:=zpdu (zfp1 t) (t.adv 9) nilS (by simp [zb11]; omega)
 simp only [zb11,List.length_nil] at this
 show (znld (zfp1 t) (t.adv 9) nilS).l.length≤2
 omega
theorem zi9x (t:Tp):(z8jt t).dd.l.length≤1:=by
 unfold z8jt; simp only
 split
 ·simp [mkD]
 ·simp [zb11]
theorem zpk6 : ∀ (k:Nat) (t:Tp) (l:List Fct),(∀ f ∈ l,f.docs.l.length≤2) → ∀ f ∈ (zqwi k t l).1,f.docs.l.length≤2
 | 0,t,l,h=>h
 | k+1,t,l,h=>zpk6 k _ _ fun f hf=>by
  rcases List.mem_append.1 hf with q|q
  ·exact h f q
  ·simp at q; rw [q]; exact zf2u t
theorem zjeb : ∀ (k:Nat) (t:Tp) (l:List Fnd),(∀ f ∈ l,f.dd.l.length≤1) → ∀ f ∈ (z7td k t l).1,f.dd.l.length≤1
 | 0,t,l,h=>h
 | k+1,t,l,h=>zjeb k _ _ fun f hf=>by
  rcases List.mem_append.1 hf with q|q
  ·exact h f q
  ·simp at q; rw [q]; exact zi9x t
theorem za99 (t:Tp) (F:Nat):(caP t F).1.length≤F:=by
 have n1:=z4rs (t.adv 2) (F+1)
 have n2:=z2s7 (t.adv 2) (n:=F+1) (by omega)
 have:=(ztxo (tpN (t.adv 2) (F+1)).toNat (t.adv 3) []).2
 simp only [List.length_nil] at this
 unfold caP; omega
theorem z3no (t:Tp) (N:Nat):(caR t N).1.length≤N:=by
 have n1:=z4rs t (N+1)
 have n2:=z2s7 t (n:=N+1) (by omega)
 have:=(z2r4 (tpN t (N+1)).toNat (t.adv 1) []).2
 simp only [List.length_nil] at this
 unfold caR; omega
theorem z9e1 {t:Tp} {F N:Nat} (hF:F≤14) (hN:N≤8):CaSm (zhq6 t F N):=by
 have h1:=za99 t F
 have h2:=z3no (caP t F).2 N
 have e1:(zhq6 t F N).f.l=(caP t F).1:=zd8n (by omega)
 have e2:(zhq6 t F N).n.l=(caR (caP t F).2 N).1:=zd8n (by omega)
 refine ⟨by rw [e1]; omega,?_,by rw [e2]; omega,?_,?_⟩
 ·rw [e1]; exact zpk6 _ _ _ (by simp)
 ·rw [e2]; exact zjeb _ _ _ (by simp)
 ·show (dblS _).l.length≤1
  unfold dblS; split
  ·simp
  ·simp [zb11]
theorem zpit {t:Tp} {F N:Nat}:(zsjk t F N).at_≤t.at_+11*F+9*N+100:=by
 have n1:=z4rs (t.adv 2) (F+1)
 have n2:=z2s7 (t.adv 2) (n:=F+1) (by omega)
 have h1:=(ztxo (tpN (t.adv 2) (F+1)).toNat (t.adv 3) []).1
 have m1:=z4rs (caP t F).2 (N+1)
 have m2:=z2s7 (caP t F).2 (n:=N+1) (by omega)
 have h2:=(z2r4 (tpN (caP t F).2 (N+1)).toNat ((caP t F).2.adv 1) []).1
 have h3:(caP t F).2.at_≤t.at_+3+11*F:=by
  have:(caP t F).2.at_=(zqwi (tpN (t.adv 2) (F+1)).toNat (t.adv 3) []).2.at_:=rfl
  simp only [zpza] at h1
  have:(tpN (t.adv 2) (F+1)).toNat≤F:=by omega
  omega
 have h4:(caR (caP t F).2 N).2.at_≤(caP t F).2.at_+1+9*N:=by
  have:(caR (caP t F).2 N).2.at_=(z7td (tpN (caP t F).2 (N+1)).toNat ((caP t F).2.adv 1) []).2.at_:=rfl
  simp only [zpza] at h2
  have:(tpN (caP t F).2 (N+1)).toNat≤N:=by omega
  omega
 have h5:dblA (caR (caP t F).2 N).2≤2:=by unfold dblA; split<;>omega
 unfold zsjk
 rw [zpza]; omega
theorem zh3a (t:Tp):zt9v (zzh5 t z78s)=true:=by
 have:=zqrp t (l:=z78s) (by simp [z78s])
 generalize zzh5 t z78s=z at this ⊢
 simp only [z78s,List.mem_cons,List.not_mem_nil,or_false] at this
 rcases this with h|h<;>(rw [h]; decide)
theorem zrph (t:Tp):reqB (reqV t)=true:=by
 have hb:=zg2q t
 have a1:=z4rs (t.adv 1) 3
 have a2:=z2s7 (t.adv 1) (n:=3) (by omega)
 have a3:=z4rs (t.adv 1) 2
 have a4:=z2s7 (t.adv 1) (n:=2) (by omega)
 have a5:=z4rs (t.adv 1) 10
 have a6:=z2s7 (t.adv 1) (n:=10) (by omega)
 have a7:=z4rs (t.adv 1) 30
 have a8:=z2s7 (t.adv 1) (n:=30) (by omega)
 have a9:=z4rs (t.adv 2) 2
 have a0:=z2s7 (t.adv 2) (n:=2) (by omega)
 have hn:=zh3a (t.adv 1)
 unfold reqV
 split
 ·rename_i h
  rcases h with h|h|h<;>(simp [reqB,inB,h]; omega)
 split
 ·simp [reqB,inB]; omega
 split
 ·simp [reqB,hn]
 split
 ·simp [reqB,inB]; omega
 split
 ·simp [reqB,inB]; omega
 ·have h8:reqK t=8:=by omega
  simp [reqB,h8]
theorem zekd (t:Tp):RqSm (reqV t):=by
 have hb:=zg2q t
 have a1:=z4rs (t.adv 1) 3
 have a2:=z2s7 (t.adv 1) (n:=3) (by omega)
 have a3:=z4rs (t.adv 1) 2
 have a4:=z2s7 (t.adv 1) (n:=2) (by omega)
 have a9:=z4rs (t.adv 2) 2
 have a0:=z2s7 (t.adv 2) (n:=2) (by omega)
 unfold reqV
 split
 ·intro _; simp only; omega
 split
 ·intro _; simp only; omega
 split
 ·intro h; simp at h
 split
 ·intro h; simp at h
 split
 ·intro h; simp at h
 ·intro h; simp only at h; omega
end Go.Proofs.YtdnhbfmlklaldaaGreat
set_option linter.unusedSimpArgs false
set_option linter.unusedVariables false
namespace Go.Proofs.YtdnhbfmlklaldaaGreat
open Go Go.Am
def a6:AFn where
 code:=(.seq (.region false [⟨none,(some 2),.mov (.k (.bool false))⟩])
 (.seq (.region false [⟨none,(some 8),.mov (.t 0)⟩,
  ⟨none,(some 9),.call (.k (.fn (.func 24) [] [])) [(.t 8),(.k (.int .i64 300))]⟩,
  ⟨none,(some 3),.mov (.t 9)⟩])
 (.seq (.region false [⟨none,(some 10),.mov (.t 3)⟩,
  ⟨none,(some 11),.call (.k (.fn (.func 25) [] [])) [(.t 10),(.k (.int .i64 12)),(.k (.int .i64 6))]⟩,
  ⟨none,(some 12),.mov (.t 3)⟩,
  ⟨none,(some 13),.call (.k (.fn (.func 26) [] [])) [(.t 12)]⟩,
  ⟨none,(some 14),.mov (.t 3)⟩,
  ⟨none,(some 15),.call (.k (.fn (.func 27) [] [])) [(.t 14)]⟩,
  ⟨none,(some 4),.alloc [(w8 0#8),(w8 0#8),(w8 0#8),(w8 0#8),(w8 0#8),(w8 0#8),(w8 0#8),(w8 0#8),(w8 0#8),(w8 0#8),(w8 0#8),(w8 0#8),(w8 0#8),(w8 0#8),(w8 0#8),(w8 0#8),(w8 0#8),(w8 0#8),(w8 0#8),(w8 0#8),(w8 0#8),(w8 0#8),(w8 0#8),(w8 0#8),(w8 0#8),(w8 0#8),(w8 0#8),(w8 0#8),(w8 0#8),(w8 0#8),(w8 0#8),(w8 0#8),(.int .i64 0),.nils,.nils,.nils]⟩,
  ⟨none,(some 5),.alloc [(w8 0#8),(w8 0#8),(w8 0#8),(w8 0#8),(w8 0#8),(w8 0#8),(w8 0#8),(w8 0#8),(w8 0#8),(w8 0#8),(w8 0#8),(w8 0#8),(w8 0#8),(w8 0#8),(w8 0#8),(w8 0#8),(w8 0#8),(w8 0#8),(w8 0#8),(w8 0#8),(w8 0#8),(w8 0#8),(w8 0#8),(w8 0#8),(w8 0#8),(w8 0#8),(w8 0#8),(w8 0#8),(w8 0#8),(w8 0#8),(w8 0#8),(w8 0#8),(.str []),(.str [])]⟩,
  ⟨none,(some 6),.alloc [(.int .i64 0),(.int .i64 0),(.int .i64 0),(.str [])]⟩,
  ⟨none,none,.store 36 (.t 4) (.t 11)⟩,
  ⟨none,none,.store 34 (.t 5) (.t 13)⟩,
  ⟨none,none,.store 4 (.t 6) (.t 15)⟩])
 (.seq (.region false [⟨none,(some 16),.load 36 true (.t 4)⟩,
  ⟨none,(some 17),.load 34 true (.t 5)⟩,
  ⟨none,(some 18),.load 4 true (.t 6)⟩,
  ⟨none,(some 19),.call (.k (.fn (.func 20) [] [])) [(.t 16),(.t 17),(.t 18)]⟩,
  ⟨none,(some 7),.alloc [(.bool false),.nils,(.int .i64 0)]⟩,
  ⟨none,none,.store 3 (.t 7) (.t 19)⟩])
 (.seq (.seq (.region true [⟨none,(some 20),.fld 0 (.t 7)⟩,
  ⟨none,(some 21),.load 1 false (.t 20)⟩,
  ⟨none,(some 22),.load 36 true (.t 4)⟩,
  ⟨none,(some 23),.load 34 true (.t 5)⟩,
  ⟨none,(some 24),.load 4 true (.t 6)⟩,
  ⟨none,(some 25),.load 36 true (.t 4)⟩,
  ⟨none,(some 26),.callN (.k (.fn (.func 28) [] [])) [(.t 25)]⟩,
  ⟨none,(some 27),.callN (.k (.fn (.func 22) [] [])) [(.t 22),(.t 23),(.t 24),(.t 26)]⟩,
  ⟨none,(some 28),.eqb true (.t 21) (.t 27)⟩,
  ⟨none,(some 29),.mov (.t 28)⟩,
  ⟨(some (29,false)),(some 30),.fld 0 (.t 7)⟩,
  ⟨(some (29,false)),(some 31),.load 1 false (.t 30)⟩,
  ⟨(some (29,false)),(some 32),.mov (.t 31)⟩,
  ⟨(some (32,true)),(some 33),.load 36 true (.t 4)⟩,
  ⟨(some (32,true)),(some 34),.load 34 true (.t 5)⟩,
  ⟨(some (32,true)),(some 35),.load 4 true (.t 6)⟩,
  ⟨(some (32,true)),(some 36),.fld 1 (.t 7)⟩,
  ⟨(some (32,true)),(some 37),.load 1 false (.t 36)⟩,
  ⟨(some (32,true)),(some 38),.callN (.k (.fn (.func 22) [] [])) [(.t 33),(.t 34),(.t 35),(.t 37)]⟩,
  ⟨(some (32,true)),(some 39),.un .not (.t 38)⟩,
  ⟨(some (29,false)),(some 40),.pick (.t 32) (.t 39) (.k (.bool false))⟩,
  ⟨none,(some 41),.pick (.t 29) (.k (.bool true)) (.t 40)⟩])
 (.cond (.t 41) (.seq (.region false [⟨none,(some 2),.mov (.k (.bool false))⟩])
 .ret)
 .skip))
 (.seq (.region false [⟨none,(some 42),.fld 0 (.t 7)⟩,
  ⟨none,(some 43),.load 1 false (.t 42)⟩,
  ⟨none,(some 44),.mov (.t 43)⟩,
  ⟨(some (44,true)),(some 45),.fld 2 (.t 7)⟩,
  ⟨(some (44,true)),(some 46),.load 1 false (.t 45)⟩,
  ⟨(some (44,true)),(some 47),.bin .eql (.t 46) (.k (.int .i64 0))⟩,
  ⟨none,(some 48),.pick (.t 44) (.t 47) (.k (.bool false))⟩,
  ⟨none,(some 49),.mov (.t 48)⟩,
  ⟨(some (49,false)),(some 50),.fld 0 (.t 7)⟩,
  ⟨(some (49,false)),(some 51),.load 1 false (.t 50)⟩,
  ⟨(some (49,false)),(some 52),.un .not (.t 51)⟩,
  ⟨(some (49,false)),(some 53),.mov (.t 52)⟩,
  ⟨(some (53,true)),(some 54),.fld 2 (.t 7)⟩,
  ⟨(some (53,true)),(some 55),.load 1 false (.t 54)⟩,
  ⟨(some (53,true)),(some 56),.bin .gtr (.t 55) (.k (.int .i64 0))⟩,
  ⟨(some (49,false)),(some 57),.pick (.t 53) (.t 56) (.k (.bool false))⟩,
  ⟨(some (49,false)),(some 58),.mov (.t 57)⟩,
  ⟨(some (58,true)),(some 59),.fld 1 (.t 7)⟩,
  ⟨(some (58,true)),(some 60),.load 1 false (.t 59)⟩,
  ⟨(some (58,true)),(some 61),.len (.t 60)⟩,
  ⟨(some (58,true)),(some 62),.bin .eql (.t 61) (.k (.int .i64 0))⟩,
  ⟨(some (49,false)),(some 63),.pick (.t 58) (.t 62) (.k (.bool false))⟩,
  ⟨none,(some 64),.pick (.t 49) (.k (.bool true)) (.t 63)⟩,
  ⟨none,(some 65),.mov (.t 64)⟩,
  ⟨(some (65,true)),(some 66),.call (.k (.fn (.func 14) [] [])) []⟩,
  ⟨none,(some 67),.pick (.t 65) (.t 66) (.k (.bool false))⟩,
  ⟨none,(some 2),.mov (.t 67)⟩])
 .ret))))))
 ntmps:=68
 res:=[.tmp 2]
end Go.Proofs.YtdnhbfmlklaldaaGreat
set_option linter.unusedSimpArgs false
set_option linter.unusedVariables false
namespace Go.Proofs.YtdnhbfmlklaldaaGreat
open Go Go.Am
theorem zjzy {ds:List DV} (h:Ty.Ok (.sl (.int .i64)) ds) : ∃ x:Nl,(∀ n ∈ x.l,-9223372036854775808≤n∧n≤9223372036854775807)∧ds=[x.dv]:=by
 obtain ⟨k,l,h1,h2,rfl,hb⟩:=z61h (f:=inI) (R:=fun n => -9223372036854775808≤n∧n≤9223372036854775807) (fun ds h=>by obtain ⟨n,hn,rfl⟩:=zrcx h; exact ⟨n,hn,rfl⟩) h
 exact ⟨⟨k,l,h1,hb⟩,h2,rfl⟩
end Go.Proofs.YtdnhbfmlklaldaaGreat
set_option linter.unusedSimpArgs false
set_option linter.unusedVariables false
namespace Go.Proofs.YtdnhbfmlklaldaaGreat
open Go Go.Am
def CaZ:List DV:=[w8 0#8,w8 0#8,w8 0#8,w8 0#8,w8 0#8,w8 0#8,w8 0#8,w8 0#8,w8 0#8,w8 0#8,w8 0#8,w8 0#8,w8 0#8,w8 0#8,w8 0#8,w8 0#8,w8 0#8,w8 0#8,w8 0#8,w8 0#8,w8 0#8,w8 0#8,w8 0#8,w8 0#8,w8 0#8,w8 0#8,w8 0#8,w8 0#8,w8 0#8,w8 0#8,w8 0#8,w8 0#8,.int .i64 0,.nils,.nils,.nils]
structure Mk3 (x:Nl) (F N:Nat) (c:Cas) (o:Org) (q:Req) (t1 t2 t3:Tp):Prop where
 m1:znvy [.int .i64 F,.int .i64 N] (tpC (tp0 x 300))=some (.agg (caC c),tpC t1)
 m2:cMk zbdu (fun _=>3) [] (tpC t1)=some (.agg (orC o),tpC t2)
 m3:cMk z3tu reqA [] (tpC t2)=some (.agg (rqC q),tpC t3)
 ht:t3.at_≤1000000
 s:CaSm c
 v:reqB q=true
 r:RqSm q
theorem zssi (t:Tp):reqA t≤3:=by
 unfold reqA; split
 ·omega
 ·split<;>omega
theorem mk3 (x:Nl) (F N:Nat) (hF:F≤14) (hN:N≤8) : ∃ c o q t1 t2 t3,Mk3 x F N c o q t1 t2 t3:=by
 have h0:(tp0 x 300).at_=0:=rfl
 have h1:=zpit (t:=tp0 x 300) (F:=F) (N:=N)
 refine ⟨zhq6 (tp0 x 300) F N,z4m3 (zsjk (tp0 x 300) F N),reqV ((zsjk (tp0 x 300) F N).adv 3),zsjk (tp0 x 300) F N,(zsjk (tp0 x 300) F N).adv 3,((zsjk (tp0 x 300) F N).adv 3).adv (reqA ((zsjk (tp0 x 300) F N).adv 3)),?_⟩
 have h2:=zssi ((zsjk (tp0 x 300) F N).adv 3)
 exact ⟨z5bc (by omega) (by omega) (by omega),zkde (by omega),zkde (by rw [zpza]; omega),by rw [zpza,zpza]; omega,z9e1 hF hN,zrph _,zekd _⟩
end Go.Proofs.YtdnhbfmlklaldaaGreat
set_option linter.unusedSimpArgs false
set_option linter.unusedVariables false
namespace Go.Proofs.YtdnhbfmlklaldaaGreat
open Go Go.Am
def z1eu:ACode :=
 (.seq (.seq (.region false [⟨none,(some 11),.mov (.t 5)⟩,
  ⟨none,(some 12),.mov (.t 0)⟩,
  ⟨none,(some 13),.len (.t 12)⟩,
  ⟨none,(some 14),.bin .lss (.t 11) (.t 13)⟩])
 (.cond (.t 14) .skip
 (.exit 0)))
 (.seq (.block 1 (.seq (.region true [⟨none,(some 17),.mov (.t 0)⟩,
  ⟨none,(some 18),.mov (.t 5)⟩,
  ⟨none,(some 19),.idxS 32 (.t 17) (.t 18)⟩,
  ⟨none,(some 20),.load 32 true (.t 19)⟩,
  ⟨none,(some 21),.mov (.t 1)⟩,
  ⟨none,(some 22),.mov (.t 5)⟩,
  ⟨none,(some 23),.idxS 32 (.t 21) (.t 22)⟩,
  ⟨none,(some 24),.load 32 true (.t 23)⟩,
  ⟨none,(some 25),.eqa true [(32,0)] (.t 20) (.t 24)⟩])
 (.cond (.t 25) (.seq (.region false [⟨none,(some 4),.mov (.k (.bool false))⟩])
 .ret)
 .skip)))
 (.region false [⟨none,(some 15),.mov (.t 5)⟩,
  ⟨none,(some 16),.bin .add (.t 15) (.k (.int .i64 1))⟩,
  ⟨none,(some 5),.mov (.t 16)⟩])))
def zuzy (x0 x1 x5:DV) (h:List AObj):St:=⟨[x0,x1,.junk,.junk,.junk,x5]++js 20,h⟩
def a40:AFn where
 code:=(.seq (.region false [⟨none,(some 4),.mov (.k (.bool false))⟩])
 (.seq (.seq (.region false [⟨none,(some 6),.mov (.t 0)⟩,
  ⟨none,(some 7),.len (.t 6)⟩,
  ⟨none,(some 8),.mov (.t 1)⟩,
  ⟨none,(some 9),.len (.t 8)⟩,
  ⟨none,(some 10),.bin .neq (.t 7) (.t 9)⟩])
 (.cond (.t 10) (.seq (.region false [⟨none,(some 4),.mov (.k (.bool false))⟩])
 .ret)
 .skip))
 (.seq (.seq (.region false [⟨none,(some 5),.mov (.k (.int .i64 0))⟩])
 (.block 0 (.loop z1eu)))
 (.seq (.region false [⟨none,(some 4),.mov (.k (.bool true))⟩])
 .ret))))
 ntmps:=26
 res:=[.tmp 4]
theorem zn9f:zsjc P Tryz.f40=some a40:=by kernel_rfl
def ze3w:ACode :=
 (.seq (.seq (.region false [⟨none,(some 27),.mov (.t 3)⟩,
  ⟨none,(some 28),.mov (.t 0)⟩,
  ⟨none,(some 29),.lenStr (.t 28)⟩,
  ⟨none,(some 30),.bin .lss (.t 27) (.t 29)⟩])
 (.cond (.t 30) .skip
 (.exit 0)))
 (.seq (.block 1 (.seq (.region false [⟨none,(some 33),.mov (.t 0)⟩,
  ⟨none,(some 34),.mov (.t 3)⟩,
  ⟨none,(some 35),.idxStr (.t 33) (.t 34)⟩,
  ⟨none,(some 4),.mov (.t 35)⟩])
 (.seq (.region false [⟨none,(some 36),.mov (.t 4)⟩,
  ⟨none,(some 37),.bin .geq (.t 36) (.k (w8 97#8))⟩,
  ⟨none,(some 38),.mov (.t 37)⟩,
  ⟨(some (38,true)),(some 39),.mov (.t 4)⟩,
  ⟨(some (38,true)),(some 40),.bin .leq (.t 39) (.k (w8 122#8))⟩,
  ⟨none,(some 41),.pick (.t 38) (.t 40) (.k (.bool false))⟩,
  ⟨none,(some 42),.mov (.t 41)⟩,
  ⟨(some (42,false)),(some 43),.mov (.t 4)⟩,
  ⟨(some (42,false)),(some 44),.bin .geq (.t 43) (.k (w8 48#8))⟩,
  ⟨(some (42,false)),(some 45),.mov (.t 44)⟩,
  ⟨(some (45,true)),(some 46),.mov (.t 4)⟩,
  ⟨(some (45,true)),(some 47),.bin .leq (.t 46) (.k (w8 57#8))⟩,
  ⟨(some (42,false)),(some 48),.pick (.t 45) (.t 47) (.k (.bool false))⟩,
  ⟨none,(some 49),.pick (.t 42) (.k (.bool true)) (.t 48)⟩,
  ⟨none,(some 50),.mov (.t 49)⟩,
  ⟨(some (50,false)),(some 51),.mov (.t 4)⟩,
  ⟨(some (50,false)),(some 52),.bin .eql (.t 51) (.k (w8 46#8))⟩,
  ⟨none,(some 53),.pick (.t 50) (.k (.bool true)) (.t 52)⟩,
  ⟨none,(some 54),.mov (.t 53)⟩,
  ⟨(some (54,false)),(some 55),.mov (.t 4)⟩,
  ⟨(some (54,false)),(some 56),.bin .eql (.t 55) (.k (w8 95#8))⟩,
  ⟨none,(some 57),.pick (.t 54) (.k (.bool true)) (.t 56)⟩,
  ⟨none,(some 58),.mov (.t 57)⟩,
  ⟨(some (58,false)),(some 59),.mov (.t 4)⟩,
  ⟨(some (58,false)),(some 60),.bin .eql (.t 59) (.k (w8 45#8))⟩,
  ⟨none,(some 61),.pick (.t 58) (.k (.bool true)) (.t 60)⟩,
  ⟨none,(some 62),.un .not (.t 61)⟩])
 (.cond (.t 62) (.seq (.region false [⟨none,(some 2),.mov (.k (.bool false))⟩])
 .ret)
 .skip))))
 (.region false [⟨none,(some 31),.mov (.t 3)⟩,
  ⟨none,(some 32),.bin .add (.t 31) (.k (.int .i64 1))⟩,
  ⟨none,(some 3),.mov (.t 32)⟩])))
def zjnt (x0 x3:DV) (h:List AObj):St:=⟨[x0,.junk,.junk,x3]++js 59,h⟩
def a79:AFn where
 code:=(.seq (.region false [⟨none,(some 2),.mov (.k (.bool false))⟩])
 (.seq (.seq (.region false [⟨none,(some 5),.mov (.t 0)⟩,
  ⟨none,(some 6),.bin .eql (.t 5) (.k (.str []))⟩,
  ⟨none,(some 7),.mov (.t 6)⟩,
  ⟨(some (7,false)),(some 8),.mov (.t 0)⟩,
  ⟨(some (7,false)),(some 9),.lenStr (.t 8)⟩,
  ⟨(some (7,false)),(some 10),.bin .gtr (.t 9) (.k (.int .i64 64))⟩,
  ⟨none,(some 11),.pick (.t 7) (.k (.bool true)) (.t 10)⟩,
  ⟨none,(some 12),.mov (.t 11)⟩,
  ⟨(some (12,false)),(some 13),.mov (.t 0)⟩,
  ⟨(some (12,false)),(some 14),.idxStr (.t 13) (.k (.int .i64 0))⟩,
  ⟨(some (12,false)),(some 15),.bin .eql (.t 14) (.k (w8 46#8))⟩,
  ⟨none,(some 16),.pick (.t 12) (.k (.bool true)) (.t 15)⟩,
  ⟨none,(some 17),.mov (.t 16)⟩,
  ⟨(some (17,false)),(some 18),.mov (.t 0)⟩,
  ⟨(some (17,false)),(some 19),.idxStr (.t 18) (.k (.int .i64 0))⟩,
  ⟨(some (17,false)),(some 20),.bin .eql (.t 19) (.k (w8 95#8))⟩,
  ⟨none,(some 21),.pick (.t 17) (.k (.bool true)) (.t 20)⟩,
  ⟨none,(some 22),.mov (.t 21)⟩,
  ⟨(some (22,false)),(some 23),.mov (.t 0)⟩,
  ⟨(some (22,false)),(some 24),.idxStr (.t 23) (.k (.int .i64 0))⟩,
  ⟨(some (22,false)),(some 25),.bin .eql (.t 24) (.k (w8 45#8))⟩,
  ⟨none,(some 26),.pick (.t 22) (.k (.bool true)) (.t 25)⟩])
 (.cond (.t 26) (.seq (.region false [⟨none,(some 2),.mov (.k (.bool false))⟩])
 .ret)
 .skip))
 (.seq (.seq (.region false [⟨none,(some 3),.mov (.k (.int .i64 0))⟩])
 (.block 0 (.loop ze3w)))
 (.seq (.region false [⟨none,(some 2),.mov (.k (.bool true))⟩])
 .ret))))
 ntmps:=63
 res:=[.tmp 2]
theorem zaq4:zsjc P Tryz.f79=some a79:=by kernel_rfl
def a80:AFn where
 code:=(.seq (.region false [⟨none,(some 2),.mov (.k (.bool false))⟩])
 (.seq (.region false [⟨none,(some 3),.mov (.t 0)⟩,
  ⟨none,(some 4),.bin .geq (.t 3) (.k (.int .i64 0))⟩,
  ⟨none,(some 5),.mov (.t 4)⟩,
  ⟨(some (5,true)),(some 6),.mov (.t 0)⟩,
  ⟨(some (5,true)),(some 7),.bin .leq (.t 6) (.k (.int .i64 1099511627776))⟩,
  ⟨none,(some 8),.pick (.t 5) (.t 7) (.k (.bool false))⟩,
  ⟨none,(some 2),.mov (.t 8)⟩])
 .ret))
 ntmps:=9
 res:=[.tmp 2]
theorem zpfu:zsjc P Tryz.f80=some a80:=by kernel_rfl
def zcng:ACode :=
 (.seq (.seq (.region false [⟨none,(some 6),.mov (.t 5)⟩,
  ⟨none,(some 7),.mov (.t 0)⟩,
  ⟨none,(some 8),.len (.t 7)⟩,
  ⟨none,(some 9),.bin .lss (.t 6) (.t 8)⟩])
 (.cond (.t 9) .skip
 (.exit 0)))
 (.seq (.block 1 (.seq (.region false [⟨none,(some 12),.mov (.t 0)⟩,
  ⟨none,(some 13),.mov (.t 5)⟩,
  ⟨none,(some 14),.idxS 1 (.t 12) (.t 13)⟩,
  ⟨none,(some 15),.load 1 false (.t 14)⟩,
  ⟨none,(some 16),.mov (.t 1)⟩,
  ⟨none,(some 17),.bin .eql (.t 15) (.t 16)⟩])
 (.cond (.t 17) (.seq (.region false [⟨none,(some 4),.mov (.k (.bool true))⟩])
 .ret)
 .skip)))
 (.region false [⟨none,(some 10),.mov (.t 5)⟩,
  ⟨none,(some 11),.bin .add (.t 10) (.k (.int .i64 1))⟩,
  ⟨none,(some 5),.mov (.t 11)⟩])))
def zyf7 (x0 x1 x5:DV) (h:List AObj):St:=⟨[x0,x1,.junk,.junk,.junk,x5]++js 12,h⟩
def a118:AFn where
 code:=(.seq (.region false [⟨none,(some 4),.mov (.k (.bool false))⟩])
 (.seq (.seq (.region false [⟨none,(some 5),.mov (.k (.int .i64 0))⟩])
 (.block 0 (.loop zcng)))
 (.seq (.region false [⟨none,(some 4),.mov (.k (.bool false))⟩])
 .ret)))
 ntmps:=18
 res:=[.tmp 4]
theorem zasg:zsjc P Tryz.f118=some a118:=by kernel_rfl
def z0mi:ACode :=
 (.seq (.seq (.region false [⟨none,(some 11),.mov (.t 6)⟩,
  ⟨none,(some 12),.mov (.t 0)⟩,
  ⟨none,(some 13),.len (.t 12)⟩,
  ⟨none,(some 14),.bin .lss (.t 11) (.t 13)⟩,
  ⟨none,(some 15),.mov (.t 14)⟩,
  ⟨(some (15,true)),(some 16),.mov (.t 0)⟩,
  ⟨(some (15,true)),(some 17),.mov (.t 6)⟩,
  ⟨(some (15,true)),(some 18),.idxS 1 (.t 16) (.t 17)⟩,
  ⟨(some (15,true)),(some 19),.load 1 false (.t 18)⟩,
  ⟨(some (15,true)),(some 20),.mov (.t 1)⟩,
  ⟨(some (15,true)),(some 21),.bin .lss (.t 19) (.t 20)⟩,
  ⟨none,(some 22),.pick (.t 15) (.t 21) (.k (.bool false))⟩])
 (.cond (.t 22) .skip
 (.exit 0)))
 (.block 1 (.seq (.region false [⟨none,(some 23),.mov (.t 5)⟩,
  ⟨none,(some 24),.mov (.t 0)⟩,
  ⟨none,(some 25),.mov (.t 6)⟩,
  ⟨none,(some 26),.idxS 1 (.t 24) (.t 25)⟩,
  ⟨none,(some 27),.load 1 false (.t 26)⟩,
  ⟨none,(some 28),.bsl 1 1 [(.str [])] [(0,1,(.t 27))]⟩,
  ⟨none,(some 29),.app 1 16 (.t 23) (.t 28)⟩,
  ⟨none,(some 5),.mov (.t 29)⟩])
 (.region false [⟨none,(some 30),.mov (.t 6)⟩,
  ⟨none,(some 31),.bin .add (.t 30) (.k (.int .i64 1))⟩,
  ⟨none,(some 6),.mov (.t 31)⟩]))))
def zgik (x0 x1 x5 x6:DV) (h:List AObj):St:=⟨[x0,x1,.junk,.junk,.junk,x5,x6]++js 33,h⟩
def a136:AFn where
 code:=(.seq (.region false [⟨none,(some 4),.mov (.k .nils)⟩])
 (.seq (.seq (.region false [⟨none,(some 7),.mov (.t 0)⟩,
  ⟨none,(some 8),.mov (.t 1)⟩,
  ⟨none,(some 9),.call (.k (.fn (.func 118) [] [])) [(.t 7),(.t 8)]⟩])
 (.cond (.t 9) (.seq (.region false [⟨none,(some 10),.mov (.t 0)⟩,
  ⟨none,(some 4),.mov (.t 10)⟩])
 .ret)
 .skip))
 (.seq (.region false [⟨none,(some 5),.mov (.k .nils)⟩])
 (.seq (.region false [⟨none,(some 6),.mov (.k (.int .i64 0))⟩])
 (.seq (.block 0 (.loop z0mi))
 (.seq (.region true [⟨none,(some 32),.mov (.t 5)⟩,
  ⟨none,(some 33),.mov (.t 1)⟩,
  ⟨none,(some 34),.bsl 1 1 [(.str [])] [(0,1,(.t 33))]⟩,
  ⟨none,(some 35),.app 1 16 (.t 32) (.t 34)⟩,
  ⟨none,(some 36),.mov (.t 0)⟩,
  ⟨none,(some 37),.mov (.t 6)⟩,
  ⟨none,(some 38),.slcS 1 (.t 36) (some (.t 37)) none none⟩,
  ⟨none,(some 39),.app 1 16 (.t 35) (.t 38)⟩,
  ⟨none,(some 4),.mov (.t 39)⟩,
  ⟨none,none,.apart (.t 36) (.t 35)⟩])
 .ret))))))
 ntmps:=40
 res:=[.tmp 4]
theorem zr0w:zsjc P Tryz.f136=some a136:=by kernel_rfl
def a32:AFn where
 code:=(.seq (.region false [⟨none,(some 2),.box (.t 0)⟩,
  ⟨none,(some 3),.box (.t 1)⟩,
  ⟨none,(some 4),.mov (.k (.bool false))⟩])
 (.seq (.seq (.region false [⟨none,(some 5),.fld 0 (.t 2)⟩,
  ⟨none,(some 6),.load 32 true (.t 5)⟩,
  ⟨none,(some 7),.fld 0 (.t 3)⟩,
  ⟨none,(some 8),.load 32 true (.t 7)⟩,
  ⟨none,(some 9),.eqa true [(32,0)] (.t 6) (.t 8)⟩])
 (.cond (.t 9) (.seq (.region false [⟨none,(some 10),.fld 0 (.t 2)⟩,
  ⟨none,(some 11),.load 32 true (.t 10)⟩,
  ⟨none,(some 12),.fld 0 (.t 3)⟩,
  ⟨none,(some 13),.load 32 true (.t 12)⟩,
  ⟨none,(some 14),.call (.k (.fn (.func 59) [] [])) [(.t 11),(.t 13)]⟩,
  ⟨none,(some 4),.mov (.t 14)⟩])
 .ret)
 .skip))
 (.seq (.seq (.region false [⟨none,(some 15),.fld 32 (.t 2)⟩,
  ⟨none,(some 16),.load 1 false (.t 15)⟩,
  ⟨none,(some 17),.fld 32 (.t 3)⟩,
  ⟨none,(some 18),.load 1 false (.t 17)⟩,
  ⟨none,(some 19),.bin .neq (.t 16) (.t 18)⟩])
 (.cond (.t 19) (.seq (.region false [⟨none,(some 20),.fld 32 (.t 2)⟩,
  ⟨none,(some 21),.load 1 false (.t 20)⟩,
  ⟨none,(some 22),.fld 32 (.t 3)⟩,
  ⟨none,(some 23),.load 1 false (.t 22)⟩,
  ⟨none,(some 24),.bin .lss (.t 21) (.t 23)⟩,
  ⟨none,(some 4),.mov (.t 24)⟩])
 .ret)
 .skip))
 (.seq (.region false [⟨none,(some 25),.fld 33 (.t 2)⟩,
  ⟨none,(some 26),.load 1 false (.t 25)⟩,
  ⟨none,(some 27),.fld 33 (.t 3)⟩,
  ⟨none,(some 28),.load 1 false (.t 27)⟩,
  ⟨none,(some 29),.bin .lss (.t 26) (.t 28)⟩,
  ⟨none,(some 4),.mov (.t 29)⟩])
 .ret))))
 ntmps:=30
 res:=[.tmp 4]
theorem zvrg:zsjc P Tryz.f32=some a32:=by kernel_rfl
def a91:AFn where
 code:=(.seq (.region false [⟨none,(some 1),.box (.t 0)⟩,
  ⟨none,(some 2),.mov (.k (.bool false))⟩])
 (.seq (.region false [⟨none,(some 3),.fld 36 (.t 1)⟩,
  ⟨none,(some 4),.fld 0 (.t 3)⟩,
  ⟨none,(some 5),.load 1 false (.t 4)⟩,
  ⟨none,(some 6),.bin .eql (.t 5) (.k (.int .i64 3))⟩,
  ⟨none,(some 7),.mov (.t 6)⟩,
  ⟨(some (7,false)),(some 8),.fld 36 (.t 1)⟩,
  ⟨(some (7,false)),(some 9),.fld 0 (.t 8)⟩,
  ⟨(some (7,false)),(some 10),.load 1 false (.t 9)⟩,
  ⟨(some (7,false)),(some 11),.bin .eql (.t 10) (.k (.int .i64 4))⟩,
  ⟨none,(some 12),.pick (.t 7) (.k (.bool true)) (.t 11)⟩,
  ⟨none,(some 2),.mov (.t 12)⟩])
 .ret))
 ntmps:=13
 res:=[.tmp 2]
theorem z07s:zsjc P Tryz.f91=some a91:=by kernel_rfl
def a43:AFn where
 code:=(.seq (.region false [⟨none,(some 1),.box (.t 0)⟩,
  ⟨none,(some 2),.mov (.k (.bool false))⟩])
 (.seq (.region false [⟨none,(some 4),.fld 1 (.t 1)⟩,
  ⟨none,(some 5),.load 1 false (.t 4)⟩,
  ⟨none,(some 6),.bin .geq (.t 5) (.k (.int .i64 1))⟩,
  ⟨none,(some 7),.mov (.t 6)⟩,
  ⟨(some (7,true)),(some 8),.fld 1 (.t 1)⟩,
  ⟨(some (7,true)),(some 9),.load 1 false (.t 8)⟩,
  ⟨(some (7,true)),(some 10),.bin .leq (.t 9) (.k (.int .i64 32))⟩,
  ⟨none,(some 11),.pick (.t 7) (.t 10) (.k (.bool false))⟩,
  ⟨none,(some 3),.mov (.t 11)⟩])
 (.seq (.seq (.region false [⟨none,(some 12),.fld 0 (.t 1)⟩,
  ⟨none,(some 13),.load 1 false (.t 12)⟩])
 (.block 0 (.seq (.seq (.region false [⟨none,(some 15),.bin .eql (.t 13) (.k (.int .i64 1))⟩,
  ⟨none,(some 14),.mov (.t 15)⟩])
 (.cond (.t 14) .skip
 (.seq (.region false [⟨none,(some 16),.bin .eql (.t 13) (.k (.int .i64 3))⟩,
  ⟨none,(some 14),.mov (.t 16)⟩])
 (.cond (.t 14) .skip
 (.region false [⟨none,(some 17),.bin .eql (.t 13) (.k (.int .i64 5))⟩,
  ⟨none,(some 14),.mov (.t 17)⟩])))))
 (.cond (.t 14) (.seq (.region false [⟨none,(some 18),.mov (.t 3)⟩,
  ⟨none,(some 19),.mov (.t 18)⟩,
  ⟨(some (19,true)),(some 20),.fld 2 (.t 1)⟩,
  ⟨(some (19,true)),(some 21),.load 1 false (.t 20)⟩,
  ⟨(some (19,true)),(some 22),.bin .eql (.t 21) (.k (.int .i64 0))⟩,
  ⟨none,(some 23),.pick (.t 19) (.t 22) (.k (.bool false))⟩,
  ⟨none,(some 24),.mov (.t 23)⟩,
  ⟨(some (24,true)),(some 25),.fld 3 (.t 1)⟩,
  ⟨(some (24,true)),(some 26),.load 1 false (.t 25)⟩,
  ⟨(some (24,true)),(some 27),.bin .eql (.t 26) (.k (.str []))⟩,
  ⟨none,(some 28),.pick (.t 24) (.t 27) (.k (.bool false))⟩,
  ⟨none,(some 2),.mov (.t 28)⟩])
 .ret)
 (.seq (.region false [⟨none,(some 30),.bin .eql (.t 13) (.k (.int .i64 4))⟩,
  ⟨none,(some 29),.mov (.t 30)⟩])
 (.cond (.t 29) (.seq (.region false [⟨none,(some 31),.mov (.t 3)⟩,
  ⟨none,(some 32),.mov (.t 31)⟩,
  ⟨(some (32,true)),(some 33),.fld 2 (.t 1)⟩,
  ⟨(some (32,true)),(some 34),.load 1 false (.t 33)⟩,
  ⟨(some (32,true)),(some 35),.bin .geq (.t 34) (.k (.int .i64 0))⟩,
  ⟨none,(some 36),.pick (.t 32) (.t 35) (.k (.bool false))⟩,
  ⟨none,(some 37),.mov (.t 36)⟩,
  ⟨(some (37,true)),(some 38),.fld 2 (.t 1)⟩,
  ⟨(some (37,true)),(some 39),.load 1 false (.t 38)⟩,
  ⟨(some (37,true)),(some 40),.bin .leq (.t 39) (.k (.int .i64 32))⟩,
  ⟨none,(some 41),.pick (.t 37) (.t 40) (.k (.bool false))⟩,
  ⟨none,(some 42),.mov (.t 41)⟩,
  ⟨(some (42,true)),(some 43),.fld 3 (.t 1)⟩,
  ⟨(some (42,true)),(some 44),.load 1 false (.t 43)⟩,
  ⟨(some (42,true)),(some 45),.bin .eql (.t 44) (.k (.str []))⟩,
  ⟨none,(some 46),.pick (.t 42) (.t 45) (.k (.bool false))⟩,
  ⟨none,(some 2),.mov (.t 46)⟩])
 .ret)
 (.seq (.region false [⟨none,(some 48),.bin .eql (.t 13) (.k (.int .i64 2))⟩,
  ⟨none,(some 47),.mov (.t 48)⟩])
 (.cond (.t 47) (.seq (.region false [⟨none,(some 49),.fld 1 (.t 1)⟩,
  ⟨none,(some 50),.load 1 false (.t 49)⟩,
  ⟨none,(some 51),.bin .eql (.t 50) (.k (.int .i64 0))⟩,
  ⟨none,(some 52),.mov (.t 51)⟩,
  ⟨(some (52,true)),(some 53),.fld 2 (.t 1)⟩,
  ⟨(some (52,true)),(some 54),.load 1 false (.t 53)⟩,
  ⟨(some (52,true)),(some 55),.bin .eql (.t 54) (.k (.int .i64 0))⟩,
  ⟨none,(some 56),.pick (.t 52) (.t 55) (.k (.bool false))⟩,
  ⟨none,(some 57),.mov (.t 56)⟩,
  ⟨(some (57,true)),(some 58),.fld 3 (.t 1)⟩,
  ⟨(some (57,true)),(some 59),.load 1 false (.t 58)⟩,
  ⟨(some (57,true)),(some 60),.call (.k (.fn (.func 79) [] [])) [(.t 59)]⟩,
  ⟨none,(some 61),.pick (.t 57) (.t 60) (.k (.bool false))⟩,
  ⟨none,(some 2),.mov (.t 61)⟩])
 .ret)
 (.seq (.region false [⟨none,(some 63),.bin .eql (.t 13) (.k (.int .i64 6))⟩,
  ⟨none,(some 62),.mov (.t 63)⟩])
 (.cond (.t 62) (.seq (.region false [⟨none,(some 64),.fld 1 (.t 1)⟩,
  ⟨none,(some 65),.load 1 false (.t 64)⟩,
  ⟨none,(some 66),.bin .geq (.t 65) (.k (.int .i64 1))⟩,
  ⟨none,(some 67),.mov (.t 66)⟩,
  ⟨(some (67,true)),(some 68),.fld 1 (.t 1)⟩,
  ⟨(some (67,true)),(some 69),.load 1 false (.t 68)⟩,
  ⟨(some (67,true)),(some 70),.bin .leq (.t 69) (.k (.int .i64 10))⟩,
  ⟨none,(some 71),.pick (.t 67) (.t 70) (.k (.bool false))⟩,
  ⟨none,(some 72),.mov (.t 71)⟩,
  ⟨(some (72,true)),(some 73),.fld 2 (.t 1)⟩,
  ⟨(some (72,true)),(some 74),.load 1 false (.t 73)⟩,
  ⟨(some (72,true)),(some 75),.bin .eql (.t 74) (.k (.int .i64 0))⟩,
  ⟨none,(some 76),.pick (.t 72) (.t 75) (.k (.bool false))⟩,
  ⟨none,(some 77),.mov (.t 76)⟩,
  ⟨(some (77,true)),(some 78),.fld 3 (.t 1)⟩,
  ⟨(some (77,true)),(some 79),.load 1 false (.t 78)⟩,
  ⟨(some (77,true)),(some 80),.bin .eql (.t 79) (.k (.str []))⟩,
  ⟨none,(some 81),.pick (.t 77) (.t 80) (.k (.bool false))⟩,
  ⟨none,(some 2),.mov (.t 81)⟩])
 .ret)
 (.seq (.region false [⟨none,(some 83),.bin .eql (.t 13) (.k (.int .i64 7))⟩,
  ⟨none,(some 82),.mov (.t 83)⟩])
 (.cond (.t 82) (.seq (.region false [⟨none,(some 84),.fld 1 (.t 1)⟩,
  ⟨none,(some 85),.load 1 false (.t 84)⟩,
  ⟨none,(some 86),.call (.k (.fn (.func 80) [] [])) [(.t 85)]⟩,
  ⟨none,(some 87),.mov (.t 86)⟩,
  ⟨(some (87,true)),(some 88),.fld 2 (.t 1)⟩,
  ⟨(some (87,true)),(some 89),.load 1 false (.t 88)⟩,
  ⟨(some (87,true)),(some 90),.bin .eql (.t 89) (.k (.int .i64 0))⟩,
  ⟨none,(some 91),.pick (.t 87) (.t 90) (.k (.bool false))⟩,
  ⟨none,(some 92),.mov (.t 91)⟩,
  ⟨(some (92,true)),(some 93),.fld 3 (.t 1)⟩,
  ⟨(some (92,true)),(some 94),.load 1 false (.t 93)⟩,
  ⟨(some (92,true)),(some 95),.bin .eql (.t 94) (.k (.str []))⟩,
  ⟨none,(some 96),.pick (.t 92) (.t 95) (.k (.bool false))⟩,
  ⟨none,(some 2),.mov (.t 96)⟩])
 .ret)
 (.seq (.region false [⟨none,(some 98),.bin .eql (.t 13) (.k (.int .i64 8))⟩,
  ⟨none,(some 97),.mov (.t 98)⟩])
 (.cond (.t 97) (.seq (.region false [⟨none,(some 99),.fld 1 (.t 1)⟩,
  ⟨none,(some 100),.load 1 false (.t 99)⟩,
  ⟨none,(some 101),.bin .eql (.t 100) (.k (.int .i64 0))⟩,
  ⟨none,(some 102),.mov (.t 101)⟩,
  ⟨(some (102,true)),(some 103),.fld 2 (.t 1)⟩,
  ⟨(some (102,true)),(some 104),.load 1 false (.t 103)⟩,
  ⟨(some (102,true)),(some 105),.bin .eql (.t 104) (.k (.int .i64 0))⟩,
  ⟨none,(some 106),.pick (.t 102) (.t 105) (.k (.bool false))⟩,
  ⟨none,(some 107),.mov (.t 106)⟩,
  ⟨(some (107,true)),(some 108),.fld 3 (.t 1)⟩,
  ⟨(some (107,true)),(some 109),.load 1 false (.t 108)⟩,
  ⟨(some (107,true)),(some 110),.bin .eql (.t 109) (.k (.str []))⟩,
  ⟨none,(some 111),.pick (.t 107) (.t 110) (.k (.bool false))⟩,
  ⟨none,(some 2),.mov (.t 111)⟩])
 .ret)
 .skip))))))))))))))
 (.seq (.region false [⟨none,(some 2),.mov (.k (.bool false))⟩])
 .ret))))
 ntmps:=112
 res:=[.tmp 2]
theorem zbv8:zsjc P Tryz.f43=some a43:=by kernel_rfl
def a31:AFn where
 code:=(.seq (.region false [⟨none,(some 1),.box (.t 0)⟩,
  ⟨none,(some 2),.alloc [(w8 0#8),(w8 0#8),(w8 0#8),(w8 0#8),(w8 0#8),(w8 0#8),(w8 0#8),(w8 0#8),(w8 0#8),(w8 0#8),(w8 0#8),(w8 0#8),(w8 0#8),(w8 0#8),(w8 0#8),(w8 0#8),(w8 0#8),(w8 0#8),(w8 0#8),(w8 0#8),(w8 0#8),(w8 0#8),(w8 0#8),(w8 0#8),(w8 0#8),(w8 0#8),(w8 0#8),(w8 0#8),(w8 0#8),(w8 0#8),(w8 0#8),(w8 0#8),(.str []),(.str [])]⟩])
 (.seq (.region false [⟨none,(some 3),.fld 2 (.t 1)⟩,
  ⟨none,(some 4),.load 32 true (.t 3)⟩,
  ⟨none,(some 5),.fld 34 (.t 1)⟩,
  ⟨none,(some 6),.load 1 false (.t 5)⟩,
  ⟨none,(some 7),.fld 35 (.t 1)⟩,
  ⟨none,(some 8),.load 1 false (.t 7)⟩,
  ⟨none,(some 9),.build [(w8 0#8),(w8 0#8),(w8 0#8),(w8 0#8),(w8 0#8),(w8 0#8),(w8 0#8),(w8 0#8),(w8 0#8),(w8 0#8),(w8 0#8),(w8 0#8),(w8 0#8),(w8 0#8),(w8 0#8),(w8 0#8),(w8 0#8),(w8 0#8),(w8 0#8),(w8 0#8),(w8 0#8),(w8 0#8),(w8 0#8),(w8 0#8),(w8 0#8),(w8 0#8),(w8 0#8),(w8 0#8),(w8 0#8),(w8 0#8),(w8 0#8),(w8 0#8),(.str []),(.str [])] [(0,32,(.t 4)),(32,1,(.t 6)),(33,1,(.t 8))]⟩,
  ⟨none,none,.store 34 (.t 2) (.t 9)⟩])
 .ret))
 ntmps:=10
 res:=[.cell 2 34 true]
theorem zjer:zsjc P Tryz.f31=some a31:=by kernel_rfl
def zujz:ACode :=
 (.seq (.seq (.region false [⟨none,(some 31),.mov (.t 8)⟩,
  ⟨none,(some 32),.mov (.t 3)⟩,
  ⟨none,(some 33),.len (.t 32)⟩,
  ⟨none,(some 34),.bin .lss (.t 31) (.t 33)⟩])
 (.cond (.t 34) .skip
 (.exit 2)))
 (.seq (.block 3 (.region true [⟨none,(some 37),.mov (.t 7)⟩,
  ⟨none,(some 38),.mov (.t 37)⟩,
  ⟨(some (38,false)),(some 39),.mov (.t 3)⟩,
  ⟨(some (38,false)),(some 40),.mov (.t 8)⟩,
  ⟨(some (38,false)),(some 41),.idxS 34 (.t 39) (.t 40)⟩,
  ⟨(some (38,false)),(some 42),.load 34 true (.t 41)⟩,
  ⟨(some (38,false)),(some 43),.load 34 true (.t 5)⟩,
  ⟨(some (38,false)),(some 44),.eqa false [(32,0),(2,1)] (.t 42) (.t 43)⟩,
  ⟨none,(some 45),.pick (.t 38) (.k (.bool true)) (.t 44)⟩,
  ⟨none,(some 7),.mov (.t 45)⟩]))
 (.region false [⟨none,(some 35),.mov (.t 8)⟩,
  ⟨none,(some 36),.bin .add (.t 35) (.k (.int .i64 1))⟩,
  ⟨none,(some 8),.mov (.t 36)⟩])))
def zqpn (x1 x3 x4 x5 x6 x7 x8:DV) (h:List AObj):St:=⟨[.junk,x1,.junk,x3,x4,x5,x6,x7,x8]++js 69,h⟩
def zfed:ACode :=
 (.seq (.seq (.region true [⟨none,(some 46),.mov (.t 6)⟩,
  ⟨none,(some 47),.bin .gtr (.t 46) (.k (.int .i64 0))⟩,
  ⟨none,(some 48),.mov (.t 47)⟩,
  ⟨(some (48,true)),(some 49),.load 34 true (.t 5)⟩,
  ⟨(some (48,true)),(some 50),.mov (.t 3)⟩,
  ⟨(some (48,true)),(some 51),.mov (.t 6)⟩,
  ⟨(some (48,true)),(some 52),.bin .sub (.t 51) (.k (.int .i64 1))⟩,
  ⟨(some (48,true)),(some 53),.idxS 34 (.t 50) (.t 52)⟩,
  ⟨(some (48,true)),(some 54),.load 34 true (.t 53)⟩,
  ⟨(some (48,true)),(some 55),.callN (.k (.fn (.func 32) [] [])) [(.t 49),(.t 54)]⟩,
  ⟨none,(some 56),.pick (.t 48) (.t 55) (.k (.bool false))⟩])
 (.cond (.t 56) .skip
 (.exit 4)))
 (.block 5 (.region false [⟨none,(some 57),.mov (.t 6)⟩,
  ⟨none,(some 58),.bin .sub (.t 57) (.k (.int .i64 1))⟩,
  ⟨none,(some 6),.mov (.t 58)⟩])))
def zse9 (x1 x3 x4 x5 x6 x7:DV) (h:List AObj):St:=⟨[.junk,x1,.junk,x3,x4,x5,x6,x7]++js 70,h⟩
def zywk:ACode :=
 (.seq (.seq (.region false [⟨none,(some 9),.mov (.t 4)⟩,
  ⟨none,(some 10),.fld 33 (.t 1)⟩,
  ⟨none,(some 11),.load 1 false (.t 10)⟩,
  ⟨none,(some 12),.len (.t 11)⟩,
  ⟨none,(some 13),.bin .lss (.t 9) (.t 12)⟩])
 (.cond (.t 13) .skip
 (.exit 0)))
 (.seq (.block 1 (.seq (.seq (.region false [⟨none,(some 16),.fld 33 (.t 1)⟩,
  ⟨none,(some 17),.load 1 false (.t 16)⟩,
  ⟨none,(some 18),.mov (.t 4)⟩,
  ⟨none,(some 19),.idxS 71 (.t 17) (.t 18)⟩,
  ⟨none,(some 20),.fld 0 (.t 19)⟩,
  ⟨none,(some 21),.load 1 false (.t 20)⟩,
  ⟨none,(some 22),.bin .neq (.t 21) (.k (.int .i64 1))⟩])
 (.cond (.t 22) (.exit 1)
 .skip))
 (.seq (.region false [⟨none,(some 23),.fld 33 (.t 1)⟩,
  ⟨none,(some 24),.load 1 false (.t 23)⟩,
  ⟨none,(some 25),.mov (.t 4)⟩,
  ⟨none,(some 26),.idxS 71 (.t 24) (.t 25)⟩,
  ⟨none,(some 27),.load 71 true (.t 26)⟩,
  ⟨none,(some 28),.call (.k (.fn (.func 31) [] [])) [(.t 27)]⟩,
  ⟨none,(some 29),.mov (.t 3)⟩,
  ⟨none,(some 30),.len (.t 29)⟩,
  ⟨none,(some 5),.alloc [(w8 0#8),(w8 0#8),(w8 0#8),(w8 0#8),(w8 0#8),(w8 0#8),(w8 0#8),(w8 0#8),(w8 0#8),(w8 0#8),(w8 0#8),(w8 0#8),(w8 0#8),(w8 0#8),(w8 0#8),(w8 0#8),(w8 0#8),(w8 0#8),(w8 0#8),(w8 0#8),(w8 0#8),(w8 0#8),(w8 0#8),(w8 0#8),(w8 0#8),(w8 0#8),(w8 0#8),(w8 0#8),(w8 0#8),(w8 0#8),(w8 0#8),(w8 0#8),(.str []),(.str [])]⟩,
  ⟨none,none,.store 34 (.t 5) (.t 28)⟩,
  ⟨none,(some 6),.mov (.t 30)⟩,
  ⟨none,(some 7),.mov (.k (.bool false))⟩])
 (.seq (.seq (.region false [⟨none,(some 8),.mov (.k (.int .i64 0))⟩])
 (.block 2 (.loop zujz)))
 (.seq (.block 4 (.loop zfed))
 (.seq (.region false [⟨none,(some 59),.mov (.t 7)⟩,
  ⟨none,(some 60),.un .not (.t 59)⟩])
 (.cond (.t 60) (.region true [⟨none,(some 61),.mov (.t 3)⟩,
  ⟨none,(some 62),.mov (.t 6)⟩,
  ⟨none,(some 63),.slcS 34 (.t 61) none (some (.t 62)) none⟩,
  ⟨none,(some 64),.app 34 64 (.k .nils) (.t 63)⟩,
  ⟨none,(some 65),.load 34 true (.t 5)⟩,
  ⟨none,(some 66),.bsl 34 1 [(w8 0#8),(w8 0#8),(w8 0#8),(w8 0#8),(w8 0#8),(w8 0#8),(w8 0#8),(w8 0#8),(w8 0#8),(w8 0#8),(w8 0#8),(w8 0#8),(w8 0#8),(w8 0#8),(w8 0#8),(w8 0#8),(w8 0#8),(w8 0#8),(w8 0#8),(w8 0#8),(w8 0#8),(w8 0#8),(w8 0#8),(w8 0#8),(w8 0#8),(w8 0#8),(w8 0#8),(w8 0#8),(w8 0#8),(w8 0#8),(w8 0#8),(w8 0#8),(.str []),(.str [])] [(0,34,(.t 65))]⟩,
  ⟨none,(some 67),.app 34 64 (.t 64) (.t 66)⟩,
  ⟨none,(some 68),.mov (.t 3)⟩,
  ⟨none,(some 69),.mov (.t 6)⟩,
  ⟨none,(some 70),.slcS 34 (.t 68) (some (.t 69)) none none⟩,
  ⟨none,(some 71),.app 34 64 (.t 67) (.t 70)⟩,
  ⟨none,(some 3),.mov (.t 71)⟩,
  ⟨none,none,.apart (.t 5) (.t 64)⟩,
  ⟨none,none,.apart (.t 68) (.t 64)⟩,
  ⟨none,none,.apart (.t 68) (.t 67)⟩])
 .skip)))))))
 (.region false [⟨none,(some 14),.mov (.t 4)⟩,
  ⟨none,(some 15),.bin .add (.t 14) (.k (.int .i64 1))⟩,
  ⟨none,(some 4),.mov (.t 15)⟩])))
def z3g7 (x1 x3 x4:DV) (h:List AObj):St:=⟨[.junk,x1,.junk,x3,x4]++js 73,h⟩
def a15:AFn where
 code:=(.seq (.region false [⟨none,(some 1),.box (.t 0)⟩,
  ⟨none,(some 2),.mov (.k .nils)⟩])
 (.seq (.region false [⟨none,(some 3),.mov (.k .nils)⟩])
 (.seq (.seq (.region false [⟨none,(some 4),.mov (.k (.int .i64 0))⟩])
 (.block 0 (.loop zywk)))
 (.seq (.seq (.region false [⟨none,(some 72),.mov (.t 3)⟩,
  ⟨none,(some 73),.len (.t 72)⟩,
  ⟨none,(some 74),.bin .eql (.t 73) (.k (.int .i64 0))⟩])
 (.cond (.t 74) (.region false [⟨none,(some 75),.build [(w8 0#8),(w8 0#8),(w8 0#8),(w8 0#8),(w8 0#8),(w8 0#8),(w8 0#8),(w8 0#8),(w8 0#8),(w8 0#8),(w8 0#8),(w8 0#8),(w8 0#8),(w8 0#8),(w8 0#8),(w8 0#8),(w8 0#8),(w8 0#8),(w8 0#8),(w8 0#8),(w8 0#8),(w8 0#8),(w8 0#8),(w8 0#8),(w8 0#8),(w8 0#8),(w8 0#8),(w8 0#8),(w8 0#8),(w8 0#8),(w8 0#8),(w8 0#8),(.str []),(.str [])] []⟩,
  ⟨none,(some 76),.bsl 34 1 [(w8 0#8),(w8 0#8),(w8 0#8),(w8 0#8),(w8 0#8),(w8 0#8),(w8 0#8),(w8 0#8),(w8 0#8),(w8 0#8),(w8 0#8),(w8 0#8),(w8 0#8),(w8 0#8),(w8 0#8),(w8 0#8),(w8 0#8),(w8 0#8),(w8 0#8),(w8 0#8),(w8 0#8),(w8 0#8),(w8 0#8),(w8 0#8),(w8 0#8),(w8 0#8),(w8 0#8),(w8 0#8),(w8 0#8),(w8 0#8),(w8 0#8),(w8 0#8),(.str []),(.str [])] [(0,34,(.t 75))]⟩,
  ⟨none,(some 3),.mov (.t 76)⟩])
 .skip))
 (.seq (.region false [⟨none,(some 77),.mov (.t 3)⟩,
  ⟨none,(some 2),.mov (.t 77)⟩])
 .ret)))))
 ntmps:=78
 res:=[.tmp 2]
theorem zz37:zsjc P Tryz.f15=some a15:=by kernel_rfl
def zbs4:ACode :=
 (.seq (.seq (.region false [⟨none,(some 5),.mov (.t 4)⟩,
  ⟨none,(some 6),.mov (.t 0)⟩,
  ⟨none,(some 7),.len (.t 6)⟩,
  ⟨none,(some 8),.bin .lss (.t 5) (.t 7)⟩])
 (.cond (.t 8) .skip
 (.exit 0)))
 (.seq (.block 1 (.region false [⟨none,(some 11),.mov (.t 3)⟩,
  ⟨none,(some 12),.mov (.t 0)⟩,
  ⟨none,(some 13),.mov (.t 4)⟩,
  ⟨none,(some 14),.idxS 71 (.t 12) (.t 13)⟩,
  ⟨none,(some 15),.fld 1 (.t 14)⟩,
  ⟨none,(some 16),.load 1 false (.t 15)⟩,
  ⟨none,(some 17),.call (.k (.fn (.func 136) [] [])) [(.t 11),(.t 16)]⟩,
  ⟨none,(some 3),.mov (.t 17)⟩]))
 (.region false [⟨none,(some 9),.mov (.t 4)⟩,
  ⟨none,(some 10),.bin .add (.t 9) (.k (.int .i64 1))⟩,
  ⟨none,(some 4),.mov (.t 10)⟩])))
def zg8g (x0 x3 x4:DV) (h:List AObj):St:=⟨[x0,.junk,.junk,x3,x4]++js 14,h⟩
def a115:AFn where
 code:=(.seq (.region false [⟨none,(some 2),.mov (.k .nils)⟩])
 (.seq (.region false [⟨none,(some 3),.mov (.k .nils)⟩])
 (.seq (.seq (.region false [⟨none,(some 4),.mov (.k (.int .i64 0))⟩])
 (.block 0 (.loop zbs4)))
 (.seq (.region false [⟨none,(some 18),.mov (.t 3)⟩,
  ⟨none,(some 2),.mov (.t 18)⟩])
 .ret))))
 ntmps:=19
 res:=[.tmp 2]
theorem zv17:zsjc P Tryz.f115=some a115:=by kernel_rfl
def zw44:ACode :=
 (.seq (.seq (.region false [⟨none,(some 6),.mov (.t 5)⟩,
  ⟨none,(some 7),.mov (.t 1)⟩,
  ⟨none,(some 8),.len (.t 7)⟩,
  ⟨none,(some 9),.bin .lss (.t 6) (.t 8)⟩])
 (.cond (.t 9) .skip
 (.exit 0)))
 (.seq (.block 1 (.region false [⟨none,(some 12),.mov (.t 0)⟩,
  ⟨none,(some 13),.mov (.t 1)⟩,
  ⟨none,(some 14),.mov (.t 5)⟩,
  ⟨none,(some 15),.idxS 32 (.t 13) (.t 14)⟩,
  ⟨none,(some 16),.load 32 true (.t 15)⟩,
  ⟨none,(some 17),.call (.k (.fn (.func 93) [] [])) [(.t 12),(.t 16)]⟩,
  ⟨none,(some 0),.mov (.t 17)⟩]))
 (.region false [⟨none,(some 10),.mov (.t 5)⟩,
  ⟨none,(some 11),.bin .add (.t 10) (.k (.int .i64 1))⟩,
  ⟨none,(some 5),.mov (.t 11)⟩])))
def z20v (x0 x1 x5:DV) (h:List AObj):St:=⟨[x0,x1,.junk,.junk,.junk,x5]++js 13,h⟩
def a86:AFn where
 code:=(.seq (.region false [⟨none,(some 4),.mov (.k .nils)⟩])
 (.seq (.seq (.region false [⟨none,(some 5),.mov (.k (.int .i64 0))⟩])
 (.block 0 (.loop zw44)))
 (.seq (.region false [⟨none,(some 18),.mov (.t 0)⟩,
  ⟨none,(some 4),.mov (.t 18)⟩])
 .ret)))
 ntmps:=19
 res:=[.tmp 4]
theorem z2i3:zsjc P Tryz.f86=some a86:=by kernel_rfl
def zcri:ACode :=
 (.seq (.seq (.region false [⟨none,(some 22),.mov (.t 8)⟩,
  ⟨none,(some 23),.mov (.t 0)⟩,
  ⟨none,(some 24),.len (.t 23)⟩,
  ⟨none,(some 25),.bin .lss (.t 22) (.t 24)⟩])
 (.cond (.t 25) .skip
 (.exit 2)))
 (.seq (.block 3 (.seq (.region true [⟨none,(some 28),.mov (.t 0)⟩,
  ⟨none,(some 29),.mov (.t 8)⟩,
  ⟨none,(some 30),.idxS 71 (.t 28) (.t 29)⟩,
  ⟨none,(some 31),.fld 1 (.t 30)⟩,
  ⟨none,(some 32),.load 1 false (.t 31)⟩,
  ⟨none,(some 33),.mov (.t 6)⟩,
  ⟨none,(some 34),.mov (.t 7)⟩,
  ⟨none,(some 35),.idxS 1 (.t 33) (.t 34)⟩,
  ⟨none,(some 36),.load 1 false (.t 35)⟩,
  ⟨none,(some 37),.bin .eql (.t 32) (.t 36)⟩])
 (.cond (.t 37) (.seq (.region false [⟨none,(some 38),.mov (.t 5)⟩,
  ⟨none,(some 39),.mov (.t 0)⟩,
  ⟨none,(some 40),.mov (.t 8)⟩,
  ⟨none,(some 41),.idxS 71 (.t 39) (.t 40)⟩,
  ⟨none,(some 42),.fld 70 (.t 41)⟩,
  ⟨none,(some 43),.load 1 false (.t 42)⟩,
  ⟨none,(some 44),.call (.k (.fn (.func 86) [] [])) [(.t 38),(.t 43)]⟩,
  ⟨none,(some 5),.mov (.t 44)⟩])
 (.exit 2))
 .skip)))
 (.region false [⟨none,(some 26),.mov (.t 8)⟩,
  ⟨none,(some 27),.bin .add (.t 26) (.k (.int .i64 1))⟩,
  ⟨none,(some 8),.mov (.t 27)⟩])))
def zmkv (x0 x1 x5 x6 x7 x8:DV) (h:List AObj):St:=⟨[x0,x1,.junk,.junk,.junk,x5,x6,x7,x8]++js 37,h⟩
def z04p:ACode :=
 (.seq (.seq (.region false [⟨none,(some 11),.mov (.t 7)⟩,
  ⟨none,(some 12),.mov (.t 6)⟩,
  ⟨none,(some 13),.len (.t 12)⟩,
  ⟨none,(some 14),.bin .lss (.t 11) (.t 13)⟩,
  ⟨none,(some 15),.mov (.t 14)⟩,
  ⟨(some (15,true)),(some 16),.mov (.t 7)⟩,
  ⟨(some (15,true)),(some 17),.mov (.t 1)⟩,
  ⟨(some (15,true)),(some 18),.bin .lss (.t 16) (.t 17)⟩,
  ⟨none,(some 19),.pick (.t 15) (.t 18) (.k (.bool false))⟩])
 (.cond (.t 19) .skip
 (.exit 0)))
 (.seq (.block 1 (.seq (.region false [⟨none,(some 8),.mov (.k (.int .i64 0))⟩])
 (.block 2 (.loop zcri))))
 (.region false [⟨none,(some 20),.mov (.t 7)⟩,
  ⟨none,(some 21),.bin .add (.t 20) (.k (.int .i64 1))⟩,
  ⟨none,(some 7),.mov (.t 21)⟩])))
def zabz (x0 x1 x5 x6 x7:DV) (h:List AObj):St:=⟨[x0,x1,.junk,.junk,.junk,x5,x6,x7]++js 38,h⟩
def a116:AFn where
 code:=(.seq (.region false [⟨none,(some 4),.mov (.k .nils)⟩])
 (.seq (.region false [⟨none,(some 5),.mov (.k .nils)⟩])
 (.seq (.region false [⟨none,(some 9),.mov (.t 0)⟩,
  ⟨none,(some 10),.call (.k (.fn (.func 115) [] [])) [(.t 9)]⟩,
  ⟨none,(some 6),.mov (.t 10)⟩])
 (.seq (.seq (.region false [⟨none,(some 7),.mov (.k (.int .i64 0))⟩])
 (.block 0 (.loop z04p)))
 (.seq (.region false [⟨none,(some 45),.mov (.t 5)⟩,
  ⟨none,(some 4),.mov (.t 45)⟩])
 .ret)))))
 ntmps:=46
 res:=[.tmp 4]
theorem z3rp:zsjc P Tryz.f116=some a116:=by kernel_rfl
def a82:AFn where
 code:=(.seq (.region false [⟨none,(some 4),.alloc [(.bool false),.nils,(.int .i64 0)]⟩])
 (.seq (.seq (.region false [⟨none,(some 6),.mov (.t 0)⟩,
  ⟨none,(some 7),.call (.k (.fn (.func 115) [] [])) [(.t 6)]⟩,
  ⟨none,(some 8),.len (.t 7)⟩,
  ⟨none,(some 5),.mov (.t 8)⟩])
 (.seq (.region false [⟨none,(some 9),.mov (.t 5)⟩,
  ⟨none,(some 10),.mov (.t 1)⟩,
  ⟨none,(some 11),.bin .lss (.t 9) (.t 10)⟩])
 (.cond (.t 11) (.seq (.region false [⟨none,(some 12),.mov (.t 1)⟩,
  ⟨none,(some 13),.mov (.t 5)⟩,
  ⟨none,(some 14),.bin .sub (.t 12) (.t 13)⟩,
  ⟨none,(some 15),.build [(.bool false),.nils,(.int .i64 0)] [(2,1,(.t 14))]⟩,
  ⟨none,none,.store 3 (.t 4) (.t 15)⟩])
 .ret)
 .skip)))
 (.seq (.region false [⟨none,(some 16),.mov (.t 0)⟩,
  ⟨none,(some 17),.mov (.t 1)⟩,
  ⟨none,(some 18),.call (.k (.fn (.func 116) [] [])) [(.t 16),(.t 17)]⟩,
  ⟨none,(some 19),.build [(.bool false),.nils,(.int .i64 0)] [(0,1,(.k (.bool true))),(1,1,(.t 18))]⟩,
  ⟨none,none,.store 3 (.t 4) (.t 19)⟩])
 .ret)))
 ntmps:=20
 res:=[.cell 4 3 true]
theorem zftu:zsjc P Tryz.f82=some a82:=by kernel_rfl
def a85:AFn where
 code:=(.seq (.region false [⟨none,(some 2),.alloc [(.bool false),.nils,(.int .i64 0)]⟩])
 (.seq (.seq (.region false [⟨none,(some 3),.mov (.t 0)⟩,
  ⟨none,(some 4),.len (.t 3)⟩,
  ⟨none,(some 5),.bin .eql (.t 4) (.k (.int .i64 0))⟩])
 (.cond (.t 5) (.seq (.region false [⟨none,(some 6),.build [(.bool false),.nils,(.int .i64 0)] [(2,1,(.k (.int .i64 1)))]⟩,
  ⟨none,none,.store 3 (.t 2) (.t 6)⟩])
 .ret)
 .skip))
 (.seq (.region false [⟨none,(some 7),.mov (.t 0)⟩,
  ⟨none,(some 8),.idxS 71 (.t 7) (.k (.int .i64 0))⟩,
  ⟨none,(some 9),.fld 70 (.t 8)⟩,
  ⟨none,(some 10),.load 1 false (.t 9)⟩,
  ⟨none,(some 11),.call (.k (.fn (.func 86) [] [])) [(.k .nils),(.t 10)]⟩,
  ⟨none,(some 12),.build [(.bool false),.nils,(.int .i64 0)] [(0,1,(.k (.bool true))),(1,1,(.t 11))]⟩,
  ⟨none,none,.store 3 (.t 2) (.t 12)⟩])
 .ret)))
 ntmps:=13
 res:=[.cell 2 3 true]
theorem zu0j:zsjc P Tryz.f85=some a85:=by kernel_rfl
def z9us:ACode :=
 (.seq (.seq (.region false [⟨none,(some 11),.mov (.t 8)⟩,
  ⟨none,(some 12),.fld 33 (.t 3)⟩,
  ⟨none,(some 13),.load 1 false (.t 12)⟩,
  ⟨none,(some 14),.len (.t 13)⟩,
  ⟨none,(some 15),.bin .lss (.t 11) (.t 14)⟩])
 (.cond (.t 15) .skip
 (.exit 0)))
 (.seq (.block 1 (.seq (.region false [⟨none,(some 18),.fld 33 (.t 3)⟩,
  ⟨none,(some 19),.load 1 false (.t 18)⟩,
  ⟨none,(some 20),.mov (.t 8)⟩,
  ⟨none,(some 21),.idxS 71 (.t 19) (.t 20)⟩,
  ⟨none,(some 22),.load 71 true (.t 21)⟩,
  ⟨none,(some 9),.alloc [(.int .i64 0),(.str []),(w8 0#8),(w8 0#8),(w8 0#8),(w8 0#8),(w8 0#8),(w8 0#8),(w8 0#8),(w8 0#8),(w8 0#8),(w8 0#8),(w8 0#8),(w8 0#8),(w8 0#8),(w8 0#8),(w8 0#8),(w8 0#8),(w8 0#8),(w8 0#8),(w8 0#8),(w8 0#8),(w8 0#8),(w8 0#8),(w8 0#8),(w8 0#8),(w8 0#8),(w8 0#8),(w8 0#8),(w8 0#8),(w8 0#8),(w8 0#8),(w8 0#8),(w8 0#8),(.str []),(.str []),(.int .i64 0),(.bool false),(w8 0#8),(w8 0#8),(w8 0#8),(w8 0#8),(w8 0#8),(w8 0#8),(w8 0#8),(w8 0#8),(w8 0#8),(w8 0#8),(w8 0#8),(w8 0#8),(w8 0#8),(w8 0#8),(w8 0#8),(w8 0#8),(w8 0#8),(w8 0#8),(w8 0#8),(w8 0#8),(w8 0#8),(w8 0#8),(w8 0#8),(w8 0#8),(w8 0#8),(w8 0#8),(w8 0#8),(w8 0#8),(w8 0#8),(w8 0#8),(w8 0#8),(w8 0#8),.nils]⟩,
  ⟨none,none,.store 71 (.t 9) (.t 22)⟩])
 (.seq (.region false [⟨none,(some 10),.mov (.k (.bool false))⟩])
 (.seq (.seq (.region false [⟨none,(some 23),.fld 0 (.t 5)⟩,
  ⟨none,(some 24),.load 1 false (.t 23)⟩])
 (.block 2 (.seq (.region false [⟨none,(some 29),.bin .eql (.t 24) (.k (.int .i64 1))⟩,
  ⟨none,(some 28),.mov (.t 29)⟩])
 (.cond (.t 28) (.region true [⟨none,(some 30),.fld 0 (.t 9)⟩,
  ⟨none,(some 31),.load 1 false (.t 30)⟩,
  ⟨none,(some 32),.bin .eql (.t 31) (.k (.int .i64 1))⟩,
  ⟨none,(some 33),.mov (.t 32)⟩,
  ⟨(some (33,true)),(some 34),.load 71 true (.t 9)⟩,
  ⟨(some (33,true)),(some 36),.load 34 true (.t 4)⟩,
  ⟨(some (33,true)),(some 35),.callN (.k (.fn (.func 31) [] [])) [(.t 34)]⟩,
  ⟨(some (33,true)),(some 37),.eqa false [(32,0),(2,1)] (.t 35) (.t 36)⟩,
  ⟨none,(some 38),.pick (.t 33) (.t 37) (.k (.bool false))⟩,
  ⟨none,(some 10),.mov (.t 38)⟩])
 (.seq (.region false [⟨none,(some 40),.bin .eql (.t 24) (.k (.int .i64 2))⟩,
  ⟨none,(some 39),.mov (.t 40)⟩])
 (.cond (.t 39) (.region true [⟨none,(some 41),.fld 0 (.t 9)⟩,
  ⟨none,(some 42),.load 1 false (.t 41)⟩,
  ⟨none,(some 43),.bin .eql (.t 42) (.k (.int .i64 2))⟩,
  ⟨none,(some 44),.mov (.t 43)⟩,
  ⟨(some (44,true)),(some 45),.load 71 true (.t 9)⟩,
  ⟨(some (44,true)),(some 47),.load 34 true (.t 4)⟩,
  ⟨(some (44,true)),(some 46),.callN (.k (.fn (.func 31) [] [])) [(.t 45)]⟩,
  ⟨(some (44,true)),(some 48),.eqa false [(32,0),(2,1)] (.t 46) (.t 47)⟩,
  ⟨none,(some 49),.pick (.t 44) (.t 48) (.k (.bool false))⟩,
  ⟨none,(some 50),.mov (.t 49)⟩,
  ⟨(some (50,true)),(some 51),.fld 34 (.t 9)⟩,
  ⟨(some (50,true)),(some 52),.load 1 false (.t 51)⟩,
  ⟨(some (50,true)),(some 53),.fld 3 (.t 5)⟩,
  ⟨(some (50,true)),(some 54),.load 1 false (.t 53)⟩,
  ⟨(some (50,true)),(some 55),.bin .eql (.t 52) (.t 54)⟩,
  ⟨none,(some 56),.pick (.t 50) (.t 55) (.k (.bool false))⟩,
  ⟨none,(some 10),.mov (.t 56)⟩])
 (.seq (.region false [⟨none,(some 58),.bin .eql (.t 24) (.k (.int .i64 3))⟩,
  ⟨none,(some 57),.mov (.t 58)⟩])
 (.cond (.t 57) (.region false [⟨none,(some 59),.fld 0 (.t 9)⟩,
  ⟨none,(some 60),.load 1 false (.t 59)⟩,
  ⟨none,(some 61),.bin .eql (.t 60) (.k (.int .i64 3))⟩,
  ⟨none,(some 62),.mov (.t 61)⟩,
  ⟨(some (62,true)),(some 63),.fld 2 (.t 9)⟩,
  ⟨(some (62,true)),(some 64),.load 32 true (.t 63)⟩,
  ⟨(some (62,true)),(some 65),.fld 0 (.t 4)⟩,
  ⟨(some (62,true)),(some 66),.load 32 true (.t 65)⟩,
  ⟨(some (62,true)),(some 67),.eqa false [(32,0)] (.t 64) (.t 66)⟩,
  ⟨none,(some 68),.pick (.t 62) (.t 67) (.k (.bool false))⟩,
  ⟨none,(some 10),.mov (.t 68)⟩])
 (.seq (.region false [⟨none,(some 70),.bin .eql (.t 24) (.k (.int .i64 4))⟩,
  ⟨none,(some 69),.mov (.t 70)⟩])
 (.cond (.t 69) (.region false [⟨none,(some 71),.fld 0 (.t 9)⟩,
  ⟨none,(some 72),.load 1 false (.t 71)⟩,
  ⟨none,(some 73),.bin .eql (.t 72) (.k (.int .i64 4))⟩,
  ⟨none,(some 74),.mov (.t 73)⟩,
  ⟨(some (74,true)),(some 75),.fld 2 (.t 9)⟩,
  ⟨(some (74,true)),(some 76),.load 32 true (.t 75)⟩,
  ⟨(some (74,true)),(some 77),.fld 0 (.t 4)⟩,
  ⟨(some (74,true)),(some 78),.load 32 true (.t 77)⟩,
  ⟨(some (74,true)),(some 79),.eqa false [(32,0)] (.t 76) (.t 78)⟩,
  ⟨none,(some 80),.pick (.t 74) (.t 79) (.k (.bool false))⟩,
  ⟨none,(some 10),.mov (.t 80)⟩])
 (.seq (.region false [⟨none,(some 82),.bin .eql (.t 24) (.k (.int .i64 7))⟩,
  ⟨none,(some 81),.mov (.t 82)⟩])
 (.cond (.t 81) (.region true [⟨none,(some 83),.fld 0 (.t 9)⟩,
  ⟨none,(some 84),.load 1 false (.t 83)⟩,
  ⟨none,(some 85),.bin .eql (.t 84) (.k (.int .i64 1))⟩,
  ⟨none,(some 86),.mov (.t 85)⟩,
  ⟨(some (86,true)),(some 87),.load 71 true (.t 9)⟩,
  ⟨(some (86,true)),(some 89),.load 34 true (.t 4)⟩,
  ⟨(some (86,true)),(some 88),.callN (.k (.fn (.func 31) [] [])) [(.t 87)]⟩,
  ⟨(some (86,true)),(some 90),.eqa false [(32,0),(2,1)] (.t 88) (.t 89)⟩,
  ⟨none,(some 91),.pick (.t 86) (.t 90) (.k (.bool false))⟩,
  ⟨none,(some 92),.mov (.t 91)⟩,
  ⟨(some (92,true)),(some 93),.fld 36 (.t 9)⟩,
  ⟨(some (92,true)),(some 94),.load 1 false (.t 93)⟩,
  ⟨(some (92,true)),(some 95),.callN (.k (.fn (.func 80) [] [])) [(.t 94)]⟩,
  ⟨none,(some 96),.pick (.t 92) (.t 95) (.k (.bool false))⟩,
  ⟨none,(some 97),.mov (.t 96)⟩,
  ⟨(some (97,true)),(some 98),.fld 32 (.t 3)⟩,
  ⟨(some (97,true)),(some 99),.load 1 false (.t 98)⟩,
  ⟨(some (97,true)),(some 100),.callN (.k (.fn (.func 80) [] [])) [(.t 99)]⟩,
  ⟨none,(some 101),.pick (.t 97) (.t 100) (.k (.bool false))⟩,
  ⟨none,(some 102),.mov (.t 101)⟩,
  ⟨(some (102,true)),(some 103),.fld 36 (.t 9)⟩,
  ⟨(some (102,true)),(some 104),.load 1 false (.t 103)⟩,
  ⟨(some (102,true)),(some 105),.fld 32 (.t 3)⟩,
  ⟨(some (102,true)),(some 106),.load 1 false (.t 105)⟩,
  ⟨(some (102,true)),(some 107),.bin .leq (.t 104) (.t 106)⟩,
  ⟨none,(some 108),.pick (.t 102) (.t 107) (.k (.bool false))⟩,
  ⟨none,(some 109),.mov (.t 108)⟩,
  ⟨(some (109,true)),(some 110),.fld 32 (.t 3)⟩,
  ⟨(some (109,true)),(some 111),.load 1 false (.t 110)⟩,
  ⟨(some (109,true)),(some 112),.fld 36 (.t 9)⟩,
  ⟨(some (109,true)),(some 113),.load 1 false (.t 112)⟩,
  ⟨(some (109,true)),(some 114),.bin .sub (.t 111) (.t 113)⟩,
  ⟨(some (109,true)),(some 115),.fld 1 (.t 5)⟩,
  ⟨(some (109,true)),(some 116),.load 1 false (.t 115)⟩,
  ⟨(some (109,true)),(some 117),.bin .leq (.t 114) (.t 116)⟩,
  ⟨none,(some 118),.pick (.t 109) (.t 117) (.k (.bool false))⟩,
  ⟨none,(some 10),.mov (.t 118)⟩])
 (.region false [⟨none,(some 25),.fld 0 (.t 9)⟩,
  ⟨none,(some 26),.load 1 false (.t 25)⟩,
  ⟨none,(some 27),.bin .eql (.t 26) (.k (.int .i64 5))⟩,
  ⟨none,(some 10),.mov (.t 27)⟩])))))))))))))
 (.seq (.region false [⟨none,(some 119),.mov (.t 10)⟩])
 (.cond (.t 119) (.region false [⟨none,(some 120),.mov (.t 7)⟩,
  ⟨none,(some 121),.load 71 true (.t 9)⟩,
  ⟨none,(some 122),.bsl 71 1 [(.int .i64 0),(.str []),(w8 0#8),(w8 0#8),(w8 0#8),(w8 0#8),(w8 0#8),(w8 0#8),(w8 0#8),(w8 0#8),(w8 0#8),(w8 0#8),(w8 0#8),(w8 0#8),(w8 0#8),(w8 0#8),(w8 0#8),(w8 0#8),(w8 0#8),(w8 0#8),(w8 0#8),(w8 0#8),(w8 0#8),(w8 0#8),(w8 0#8),(w8 0#8),(w8 0#8),(w8 0#8),(w8 0#8),(w8 0#8),(w8 0#8),(w8 0#8),(w8 0#8),(w8 0#8),(.str []),(.str []),(.int .i64 0),(.bool false),(w8 0#8),(w8 0#8),(w8 0#8),(w8 0#8),(w8 0#8),(w8 0#8),(w8 0#8),(w8 0#8),(w8 0#8),(w8 0#8),(w8 0#8),(w8 0#8),(w8 0#8),(w8 0#8),(w8 0#8),(w8 0#8),(w8 0#8),(w8 0#8),(w8 0#8),(w8 0#8),(w8 0#8),(w8 0#8),(w8 0#8),(w8 0#8),(w8 0#8),(w8 0#8),(w8 0#8),(w8 0#8),(w8 0#8),(w8 0#8),(w8 0#8),(w8 0#8),.nils] [(0,71,(.t 121))]⟩,
  ⟨none,(some 123),.app 71 160 (.t 120) (.t 122)⟩,
  ⟨none,(some 7),.mov (.t 123)⟩])
 .skip))))))
 (.region false [⟨none,(some 16),.mov (.t 8)⟩,
  ⟨none,(some 17),.bin .add (.t 16) (.k (.int .i64 1))⟩,
  ⟨none,(some 8),.mov (.t 17)⟩])))
def zihg (x3 x4 x5 x7 x8:DV) (h:List AObj):St:=⟨[.junk,.junk,.junk,x3,x4,x5,.junk,x7,x8]++js 116,h⟩
def a81:AFn where
 code:=(.seq (.region false [⟨none,(some 3),.box (.t 0)⟩,
  ⟨none,(some 4),.box (.t 1)⟩,
  ⟨none,(some 5),.box (.t 2)⟩,
  ⟨none,(some 6),.mov (.k .nils)⟩])
 (.seq (.region false [⟨none,(some 7),.mov (.k .nils)⟩])
 (.seq (.seq (.region false [⟨none,(some 8),.mov (.k (.int .i64 0))⟩])
 (.block 0 (.loop z9us)))
 (.seq (.region false [⟨none,(some 124),.mov (.t 7)⟩,
  ⟨none,(some 6),.mov (.t 124)⟩])
 .ret))))
 ntmps:=125
 res:=[.tmp 6]
theorem zgev:zsjc P Tryz.f81=some a81:=by kernel_rfl
def zdve:ACode :=
 (.seq (.seq (.region false [⟨none,(some 5),.mov (.t 4)⟩,
  ⟨none,(some 6),.mov (.t 0)⟩,
  ⟨none,(some 7),.len (.t 6)⟩,
  ⟨none,(some 8),.bin .lss (.t 5) (.t 7)⟩])
 (.cond (.t 8) .skip
 (.exit 0)))
 (.seq (.block 1 (.seq (.region false [⟨none,(some 11),.mov (.t 0)⟩,
  ⟨none,(some 12),.mov (.t 4)⟩,
  ⟨none,(some 13),.idxS 71 (.t 11) (.t 12)⟩,
  ⟨none,(some 14),.fld 37 (.t 13)⟩,
  ⟨none,(some 15),.load 1 false (.t 14)⟩,
  ⟨none,(some 16),.un .not (.t 15)⟩])
 (.cond (.t 16) (.region false [⟨none,(some 17),.mov (.t 3)⟩,
  ⟨none,(some 18),.mov (.t 0)⟩,
  ⟨none,(some 19),.mov (.t 4)⟩,
  ⟨none,(some 20),.idxS 71 (.t 18) (.t 19)⟩,
  ⟨none,(some 21),.fld 1 (.t 20)⟩,
  ⟨none,(some 22),.load 1 false (.t 21)⟩,
  ⟨none,(some 23),.call (.k (.fn (.func 136) [] [])) [(.t 17),(.t 22)]⟩,
  ⟨none,(some 3),.mov (.t 23)⟩])
 .skip)))
 (.region false [⟨none,(some 9),.mov (.t 4)⟩,
  ⟨none,(some 10),.bin .add (.t 9) (.k (.int .i64 1))⟩,
  ⟨none,(some 4),.mov (.t 10)⟩])))
def zj5j (x0 x3 x4:DV) (h:List AObj):St:=⟨[x0,.junk,.junk,x3,x4]++js 20,h⟩
def a117:AFn where
 code:=(.seq (.region false [⟨none,(some 2),.mov (.k .nils)⟩])
 (.seq (.region false [⟨none,(some 3),.mov (.k .nils)⟩])
 (.seq (.seq (.region false [⟨none,(some 4),.mov (.k (.int .i64 0))⟩])
 (.block 0 (.loop zdve)))
 (.seq (.region false [⟨none,(some 24),.mov (.t 3)⟩,
  ⟨none,(some 2),.mov (.t 24)⟩])
 .ret))))
 ntmps:=25
 res:=[.tmp 2]
theorem zt1q:zsjc P Tryz.f117=some a117:=by kernel_rfl
def zubw:ACode :=
 (.seq (.seq (.region false [⟨none,(some 14),.mov (.t 9)⟩,
  ⟨none,(some 15),.mov (.t 1)⟩,
  ⟨none,(some 16),.len (.t 15)⟩,
  ⟨none,(some 17),.bin .lss (.t 14) (.t 16)⟩])
 (.cond (.t 17) .skip
 (.exit 0)))
 (.seq (.block 1 (.seq (.region false [⟨none,(some 20),.mov (.t 7)⟩,
  ⟨none,(some 21),.mov (.t 1)⟩,
  ⟨none,(some 22),.mov (.t 9)⟩,
  ⟨none,(some 23),.idxS 71 (.t 21) (.t 22)⟩,
  ⟨none,(some 24),.fld 1 (.t 23)⟩,
  ⟨none,(some 25),.load 1 false (.t 24)⟩,
  ⟨none,(some 26),.call (.k (.fn (.func 118) [] [])) [(.t 20),(.t 25)]⟩,
  ⟨none,(some 27),.un .not (.t 26)⟩])
 (.cond (.t 27) (.region false [⟨none,(some 28),.mov (.t 8)⟩,
  ⟨none,(some 29),.mov (.t 1)⟩,
  ⟨none,(some 30),.mov (.t 9)⟩,
  ⟨none,(some 31),.idxS 71 (.t 29) (.t 30)⟩,
  ⟨none,(some 32),.load 71 true (.t 31)⟩,
  ⟨none,(some 33),.bsl 71 1 [(.int .i64 0),(.str []),(w8 0#8),(w8 0#8),(w8 0#8),(w8 0#8),(w8 0#8),(w8 0#8),(w8 0#8),(w8 0#8),(w8 0#8),(w8 0#8),(w8 0#8),(w8 0#8),(w8 0#8),(w8 0#8),(w8 0#8),(w8 0#8),(w8 0#8),(w8 0#8),(w8 0#8),(w8 0#8),(w8 0#8),(w8 0#8),(w8 0#8),(w8 0#8),(w8 0#8),(w8 0#8),(w8 0#8),(w8 0#8),(w8 0#8),(w8 0#8),(w8 0#8),(w8 0#8),(.str []),(.str []),(.int .i64 0),(.bool false),(w8 0#8),(w8 0#8),(w8 0#8),(w8 0#8),(w8 0#8),(w8 0#8),(w8 0#8),(w8 0#8),(w8 0#8),(w8 0#8),(w8 0#8),(w8 0#8),(w8 0#8),(w8 0#8),(w8 0#8),(w8 0#8),(w8 0#8),(w8 0#8),(w8 0#8),(w8 0#8),(w8 0#8),(w8 0#8),(w8 0#8),(w8 0#8),(w8 0#8),(w8 0#8),(w8 0#8),(w8 0#8),(w8 0#8),(w8 0#8),(w8 0#8),(w8 0#8),.nils] [(0,71,(.t 32))]⟩,
  ⟨none,(some 34),.app 71 160 (.t 28) (.t 33)⟩,
  ⟨none,(some 8),.mov (.t 34)⟩])
 .skip)))
 (.region false [⟨none,(some 18),.mov (.t 9)⟩,
  ⟨none,(some 19),.bin .add (.t 18) (.k (.int .i64 1))⟩,
  ⟨none,(some 9),.mov (.t 19)⟩])))
def ztza (x1 x5 x6 x7 x8 x9:DV) (h:List AObj):St:=⟨[.junk,x1,.junk,.junk,.junk,x5,x6,x7,x8,x9]++js 42,h⟩
def a83:AFn where
 code:=(.seq (.region false [⟨none,(some 5),.box (.t 2)⟩,
  ⟨none,(some 6),.alloc [(.bool false),.nils,(.int .i64 0)]⟩])
 (.seq (.region false [⟨none,(some 12),.mov (.t 0)⟩,
  ⟨none,(some 13),.call (.k (.fn (.func 117) [] [])) [(.t 12)]⟩,
  ⟨none,(some 7),.mov (.t 13)⟩])
 (.seq (.region false [⟨none,(some 8),.mov (.k .nils)⟩])
 (.seq (.seq (.region false [⟨none,(some 9),.mov (.k (.int .i64 0))⟩])
 (.block 0 (.loop zubw)))
 (.seq (.region false [⟨none,(some 35),.mov (.t 8)⟩,
  ⟨none,(some 36),.fld 1 (.t 5)⟩,
  ⟨none,(some 37),.load 1 false (.t 36)⟩,
  ⟨none,(some 38),.call (.k (.fn (.func 82) [] [])) [(.t 35),(.t 37)]⟩,
  ⟨none,(some 10),.alloc [(.bool false),.nils,(.int .i64 0)]⟩,
  ⟨none,none,.store 3 (.t 10) (.t 38)⟩])
 (.seq (.seq (.region false [⟨none,(some 39),.mov (.t 7)⟩,
  ⟨none,(some 40),.len (.t 39)⟩,
  ⟨none,(some 41),.fld 2 (.t 5)⟩,
  ⟨none,(some 42),.load 1 false (.t 41)⟩,
  ⟨none,(some 43),.bin .sub (.t 40) (.t 42)⟩,
  ⟨none,(some 11),.mov (.t 43)⟩])
 (.seq (.region false [⟨none,(some 44),.mov (.t 11)⟩,
  ⟨none,(some 45),.bin .gtr (.t 44) (.k (.int .i64 0))⟩])
 (.cond (.t 45) (.region false [⟨none,(some 46),.fld 2 (.t 10)⟩,
  ⟨none,(some 47),.load 1 false (.t 46)⟩,
  ⟨none,(some 48),.mov (.t 11)⟩,
  ⟨none,(some 49),.bin .add (.t 47) (.t 48)⟩,
  ⟨none,(some 50),.build [(.bool false),.nils,(.int .i64 0)] [(2,1,(.t 49))]⟩,
  ⟨none,none,.store 3 (.t 10) (.t 50)⟩])
 .skip)))
 (.seq (.region false [⟨none,(some 51),.load 3 true (.t 10)⟩,
  ⟨none,none,.store 3 (.t 6) (.t 51)⟩])
 .ret)))))))
 ntmps:=52
 res:=[.cell 6 3 true]
theorem z6eh:zsjc P Tryz.f83=some a83:=by kernel_rfl
def zvoz:ACode :=
 (.seq (.seq (.region false [⟨none,(some 12),.mov (.t 6)⟩,
  ⟨none,(some 13),.mov (.t 0)⟩,
  ⟨none,(some 14),.len (.t 13)⟩,
  ⟨none,(some 15),.bin .lss (.t 12) (.t 14)⟩])
 (.cond (.t 15) .skip
 (.exit 0)))
 (.seq (.block 1 (.region false [⟨none,(some 18),.mov (.t 5)⟩,
  ⟨none,(some 19),.mov (.t 0)⟩,
  ⟨none,(some 20),.mov (.t 6)⟩,
  ⟨none,(some 21),.idxS 71 (.t 19) (.t 20)⟩,
  ⟨none,(some 22),.fld 38 (.t 21)⟩,
  ⟨none,(some 23),.load 32 true (.t 22)⟩,
  ⟨none,(some 24),.call (.k (.fn (.func 93) [] [])) [(.t 18),(.t 23)]⟩,
  ⟨none,(some 5),.mov (.t 24)⟩]))
 (.region false [⟨none,(some 16),.mov (.t 6)⟩,
  ⟨none,(some 17),.bin .add (.t 16) (.k (.int .i64 1))⟩,
  ⟨none,(some 6),.mov (.t 17)⟩])))
def zphm (x0 x3 x4 x5 x6:DV) (h:List AObj):St:=⟨[x0,.junk,.junk,x3,x4,x5,x6]++js 71,h⟩
def z0jx:ACode :=
 (.seq (.seq (.region false [⟨none,(some 35),.mov (.t 10)⟩,
  ⟨none,(some 36),.mov (.t 0)⟩,
  ⟨none,(some 37),.len (.t 36)⟩,
  ⟨none,(some 38),.bin .lss (.t 35) (.t 37)⟩])
 (.cond (.t 38) .skip
 (.exit 4)))
 (.seq (.block 5 (.seq (.region true [⟨none,(some 41),.mov (.t 0)⟩,
  ⟨none,(some 42),.mov (.t 10)⟩,
  ⟨none,(some 43),.idxS 71 (.t 41) (.t 42)⟩,
  ⟨none,(some 44),.fld 38 (.t 43)⟩,
  ⟨none,(some 45),.load 32 true (.t 44)⟩,
  ⟨none,(some 46),.mov (.t 5)⟩,
  ⟨none,(some 47),.mov (.t 8)⟩,
  ⟨none,(some 48),.idxS 32 (.t 46) (.t 47)⟩,
  ⟨none,(some 49),.load 32 true (.t 48)⟩,
  ⟨none,(some 50),.eqa false [(32,0)] (.t 45) (.t 49)⟩])
 (.cond (.t 50) (.region false [⟨none,(some 51),.mov (.t 9)⟩,
  ⟨none,(some 52),.mov (.t 0)⟩,
  ⟨none,(some 53),.mov (.t 10)⟩,
  ⟨none,(some 54),.idxS 71 (.t 52) (.t 53)⟩,
  ⟨none,(some 55),.load 71 true (.t 54)⟩,
  ⟨none,(some 56),.bsl 71 1 [(.int .i64 0),(.str []),(w8 0#8),(w8 0#8),(w8 0#8),(w8 0#8),(w8 0#8),(w8 0#8),(w8 0#8),(w8 0#8),(w8 0#8),(w8 0#8),(w8 0#8),(w8 0#8),(w8 0#8),(w8 0#8),(w8 0#8),(w8 0#8),(w8 0#8),(w8 0#8),(w8 0#8),(w8 0#8),(w8 0#8),(w8 0#8),(w8 0#8),(w8 0#8),(w8 0#8),(w8 0#8),(w8 0#8),(w8 0#8),(w8 0#8),(w8 0#8),(w8 0#8),(w8 0#8),(.str []),(.str []),(.int .i64 0),(.bool false),(w8 0#8),(w8 0#8),(w8 0#8),(w8 0#8),(w8 0#8),(w8 0#8),(w8 0#8),(w8 0#8),(w8 0#8),(w8 0#8),(w8 0#8),(w8 0#8),(w8 0#8),(w8 0#8),(w8 0#8),(w8 0#8),(w8 0#8),(w8 0#8),(w8 0#8),(w8 0#8),(w8 0#8),(w8 0#8),(w8 0#8),(w8 0#8),(w8 0#8),(w8 0#8),(w8 0#8),(w8 0#8),(w8 0#8),(w8 0#8),(w8 0#8),(w8 0#8),.nils] [(0,71,(.t 55))]⟩,
  ⟨none,(some 57),.app 71 160 (.t 51) (.t 56)⟩,
  ⟨none,(some 9),.mov (.t 57)⟩])
 .skip)))
 (.region false [⟨none,(some 39),.mov (.t 10)⟩,
  ⟨none,(some 40),.bin .add (.t 39) (.k (.int .i64 1))⟩,
  ⟨none,(some 10),.mov (.t 40)⟩])))
def zftw (x0 x3 x4 x5 x7 x8 x9 x10:DV) (h:List AObj):St:=⟨[x0,.junk,.junk,x3,x4,x5,.junk,x7,x8,x9,x10]++js 67,h⟩
def z0e6:ACode :=
 (.seq (.seq (.region false [⟨none,(some 31),.mov (.t 8)⟩,
  ⟨none,(some 32),.bin .geq (.t 31) (.k (.int .i64 0))⟩])
 (.cond (.t 32) .skip
 (.exit 2)))
 (.seq (.block 3 (.seq (.region false [⟨none,(some 9),.mov (.k .nils)⟩])
 (.seq (.seq (.region false [⟨none,(some 10),.mov (.k (.int .i64 0))⟩])
 (.block 4 (.loop z0jx)))
 (.seq (.region false [⟨none,(some 58),.mov (.t 9)⟩,
  ⟨none,(some 59),.fld 1 (.t 3)⟩,
  ⟨none,(some 60),.load 1 false (.t 59)⟩,
  ⟨none,(some 61),.call (.k (.fn (.func 82) [] [])) [(.t 58),(.t 60)]⟩,
  ⟨none,(some 11),.alloc [(.bool false),.nils,(.int .i64 0)]⟩,
  ⟨none,none,.store 3 (.t 11) (.t 61)⟩])
 (.seq (.region false [⟨none,(some 62),.fld 0 (.t 11)⟩,
  ⟨none,(some 63),.load 1 false (.t 62)⟩,
  ⟨none,(some 64),.mov (.t 63)⟩,
  ⟨(some (64,false)),(some 65),.fld 0 (.t 7)⟩,
  ⟨(some (64,false)),(some 66),.load 1 false (.t 65)⟩,
  ⟨(some (64,false)),(some 67),.un .not (.t 66)⟩,
  ⟨(some (64,false)),(some 68),.mov (.t 67)⟩,
  ⟨(some (68,true)),(some 69),.fld 2 (.t 11)⟩,
  ⟨(some (68,true)),(some 70),.load 1 false (.t 69)⟩,
  ⟨(some (68,true)),(some 71),.fld 2 (.t 7)⟩,
  ⟨(some (68,true)),(some 72),.load 1 false (.t 71)⟩,
  ⟨(some (68,true)),(some 73),.bin .lss (.t 70) (.t 72)⟩,
  ⟨(some (64,false)),(some 74),.pick (.t 68) (.t 73) (.k (.bool false))⟩,
  ⟨none,(some 75),.pick (.t 64) (.k (.bool true)) (.t 74)⟩])
 (.cond (.t 75) (.region false [⟨none,(some 76),.load 3 true (.t 11)⟩,
  ⟨none,none,.store 3 (.t 7) (.t 76)⟩])
 .skip))))))
 (.region false [⟨none,(some 33),.mov (.t 8)⟩,
  ⟨none,(some 34),.bin .sub (.t 33) (.k (.int .i64 1))⟩,
  ⟨none,(some 8),.mov (.t 34)⟩])))
def z9kw (x0 x3 x4 x5 x7 x8:DV) (h:List AObj):St:=⟨[x0,.junk,.junk,x3,x4,x5,.junk,x7,x8]++js 69,h⟩
def a84:AFn where
 code:=(.seq (.region false [⟨none,(some 3),.box (.t 1)⟩,
  ⟨none,(some 4),.alloc [(.bool false),.nils,(.int .i64 0)]⟩])
 (.seq (.region false [⟨none,(some 5),.mov (.k .nils)⟩])
 (.seq (.seq (.region false [⟨none,(some 6),.mov (.k (.int .i64 0))⟩])
 (.block 0 (.loop zvoz)))
 (.seq (.region false [⟨none,(some 25),.fld 1 (.t 3)⟩,
  ⟨none,(some 26),.load 1 false (.t 25)⟩,
  ⟨none,(some 27),.build [(.bool false),.nils,(.int .i64 0)] [(2,1,(.t 26))]⟩,
  ⟨none,(some 7),.alloc [(.bool false),.nils,(.int .i64 0)]⟩,
  ⟨none,none,.store 3 (.t 7) (.t 27)⟩])
 (.seq (.seq (.region false [⟨none,(some 28),.mov (.t 5)⟩,
  ⟨none,(some 29),.len (.t 28)⟩,
  ⟨none,(some 30),.bin .sub (.t 29) (.k (.int .i64 1))⟩,
  ⟨none,(some 8),.mov (.t 30)⟩])
 (.block 2 (.loop z0e6)))
 (.seq (.region false [⟨none,(some 77),.load 3 true (.t 7)⟩,
  ⟨none,none,.store 3 (.t 4) (.t 77)⟩])
 .ret))))))
 ntmps:=78
 res:=[.cell 4 3 true]
theorem z3cy:zsjc P Tryz.f84=some a84:=by kernel_rfl
def zt7b:ACode :=
 (.seq (.seq (.region false [⟨none,(some 9),.mov (.t 8)⟩,
  ⟨none,(some 10),.mov (.t 0)⟩,
  ⟨none,(some 11),.len (.t 10)⟩,
  ⟨none,(some 12),.bin .lss (.t 9) (.t 11)⟩])
 (.cond (.t 12) .skip
 (.exit 0)))
 (.seq (.block 1 (.seq (.seq (.region false [⟨none,(some 15),.mov (.t 0)⟩,
  ⟨none,(some 16),.mov (.t 8)⟩,
  ⟨none,(some 17),.idxS 39 (.t 15) (.t 16)⟩,
  ⟨none,(some 18),.fld 32 (.t 17)⟩,
  ⟨none,(some 19),.fld 2 (.t 18)⟩,
  ⟨none,(some 20),.load 1 false (.t 19)⟩,
  ⟨none,(some 21),.mov (.t 1)⟩,
  ⟨none,(some 22),.bin .lss (.t 20) (.t 21)⟩])
 (.cond (.t 22) (.exit 1)
 .skip))
 (.seq (.region false [⟨none,(some 23),.mov (.t 6)⟩,
  ⟨none,(some 24),.mov (.t 0)⟩,
  ⟨none,(some 25),.mov (.t 8)⟩,
  ⟨none,(some 26),.idxS 39 (.t 24) (.t 25)⟩,
  ⟨none,(some 27),.fld 36 (.t 26)⟩,
  ⟨none,(some 28),.fld 1 (.t 27)⟩,
  ⟨none,(some 29),.load 1 false (.t 28)⟩,
  ⟨none,(some 30),.call (.k (.fn (.func 86) [] [])) [(.t 23),(.t 29)]⟩,
  ⟨none,(some 6),.mov (.t 30)⟩])
 (.seq (.region false [⟨none,(some 31),.mov (.t 0)⟩,
  ⟨none,(some 32),.mov (.t 8)⟩,
  ⟨none,(some 33),.idxS 39 (.t 31) (.t 32)⟩,
  ⟨none,(some 34),.load 39 true (.t 33)⟩,
  ⟨none,(some 35),.call (.k (.fn (.func 91) [] [])) [(.t 34)]⟩])
 (.cond (.t 35) (.region false [⟨none,(some 36),.mov (.t 7)⟩,
  ⟨none,(some 37),.bin .add (.t 36) (.k (.int .i64 1))⟩,
  ⟨none,(some 7),.mov (.t 37)⟩])
 .skip)))))
 (.region false [⟨none,(some 13),.mov (.t 8)⟩,
  ⟨none,(some 14),.bin .add (.t 13) (.k (.int .i64 1))⟩,
  ⟨none,(some 8),.mov (.t 14)⟩])))
def znp4 (x0 x1 x6 x7 x8:DV) (h:List AObj):St:=⟨[x0,x1]++js 4++[x6,x7,x8]++js 31,h⟩
def a53:AFn where
 code:=(.seq (.region false [⟨none,(some 4),.mov (.k .nils)⟩,
  ⟨none,(some 5),.mov (.k (.int .i64 0))⟩])
 (.seq (.region false [⟨none,(some 6),.mov (.k .nils)⟩])
 (.seq (.region false [⟨none,(some 7),.mov (.k (.int .i64 0))⟩])
 (.seq (.seq (.region false [⟨none,(some 8),.mov (.k (.int .i64 0))⟩])
 (.block 0 (.loop zt7b)))
 (.seq (.region false [⟨none,(some 38),.mov (.t 6)⟩,
  ⟨none,(some 39),.mov (.t 7)⟩,
  ⟨none,(some 4),.mov (.t 38)⟩,
  ⟨none,(some 5),.mov (.t 39)⟩])
 .ret)))))
 ntmps:=40
 res:=[.tmp 4,.tmp 5]
theorem zzvp:zsjc P Tryz.f53=some a53:=by kernel_rfl
def zdyu:ACode :=
 (.seq (.seq (.region false [⟨none,(some 8),.mov (.t 4)⟩,
  ⟨none,(some 9),.fld 34 (.t 1)⟩,
  ⟨none,(some 10),.load 1 false (.t 9)⟩,
  ⟨none,(some 11),.len (.t 10)⟩,
  ⟨none,(some 12),.bin .lss (.t 8) (.t 11)⟩])
 (.cond (.t 12) .skip
 (.exit 0)))
 (.seq (.block 1 (.seq (.region false [⟨none,(some 15),.fld 34 (.t 1)⟩,
  ⟨none,(some 16),.load 1 false (.t 15)⟩,
  ⟨none,(some 17),.mov (.t 4)⟩,
  ⟨none,(some 18),.idxS 39 (.t 16) (.t 17)⟩,
  ⟨none,(some 19),.fld 36 (.t 18)⟩,
  ⟨none,(some 20),.fld 2 (.t 19)⟩,
  ⟨none,(some 21),.load 1 false (.t 20)⟩])
 (.cond (.t 21) (.region false [⟨none,(some 22),.mov (.t 3)⟩,
  ⟨none,(some 23),.bin .add (.t 22) (.k (.int .i64 1))⟩,
  ⟨none,(some 3),.mov (.t 23)⟩])
 .skip)))
 (.region false [⟨none,(some 13),.mov (.t 4)⟩,
  ⟨none,(some 14),.bin .add (.t 13) (.k (.int .i64 1))⟩,
  ⟨none,(some 4),.mov (.t 14)⟩])))
def z0ky (x1 x3 x4:DV) (h:List AObj):St:=⟨[.junk,x1,.junk,x3,x4]++js 20,h⟩
def a87:AFn where
 code:=(.seq (.region false [⟨none,(some 1),.box (.t 0)⟩,
  ⟨none,(some 2),.mov (.k (.int .i64 0))⟩])
 (.seq (.region false [⟨none,(some 5),.fld 35 (.t 1)⟩,
  ⟨none,(some 6),.load 1 false (.t 5)⟩,
  ⟨none,(some 7),.len (.t 6)⟩,
  ⟨none,(some 3),.mov (.t 7)⟩])
 (.seq (.seq (.region false [⟨none,(some 4),.mov (.k (.int .i64 0))⟩])
 (.block 0 (.loop zdyu)))
 (.seq (.region false [⟨none,(some 24),.mov (.t 3)⟩,
  ⟨none,(some 2),.mov (.t 24)⟩])
 .ret))))
 ntmps:=25
 res:=[.tmp 2]
theorem zfhg:zsjc P Tryz.f87=some a87:=by kernel_rfl
def a44:AFn where
 code:=(.seq (.region false [⟨none,(some 4),.box (.t 0)⟩,
  ⟨none,(some 6),.box (.t 2)⟩,
  ⟨none,(some 7),.box (.t 3)⟩,
  ⟨none,(some 8),.alloc [(.bool false),.nils,(.int .i64 0)]⟩])
 (.seq (.region false [⟨none,(some 15),.load 36 true (.t 4)⟩,
  ⟨none,(some 9),.alloc [(w8 0#8),(w8 0#8),(w8 0#8),(w8 0#8),(w8 0#8),(w8 0#8),(w8 0#8),(w8 0#8),(w8 0#8),(w8 0#8),(w8 0#8),(w8 0#8),(w8 0#8),(w8 0#8),(w8 0#8),(w8 0#8),(w8 0#8),(w8 0#8),(w8 0#8),(w8 0#8),(w8 0#8),(w8 0#8),(w8 0#8),(w8 0#8),(w8 0#8),(w8 0#8),(w8 0#8),(w8 0#8),(w8 0#8),(w8 0#8),(w8 0#8),(w8 0#8),(.int .i64 0),.nils,.nils,.nils]⟩,
  ⟨none,none,.store 36 (.t 9) (.t 15)⟩])
 (.seq (.region false [⟨none,(some 16),.mov (.t 1)⟩,
  ⟨none,(some 17),.fld 33 (.t 9)⟩,
  ⟨none,none,.store 1 (.t 17) (.t 16)⟩])
 (.seq (.region false [⟨none,(some 18),.load 36 true (.t 9)⟩,
  ⟨none,(some 19),.load 34 true (.t 6)⟩,
  ⟨none,(some 20),.load 4 true (.t 7)⟩,
  ⟨none,(some 21),.call (.k (.fn (.func 81) [] [])) [(.t 18),(.t 19),(.t 20)]⟩,
  ⟨none,(some 10),.mov (.t 21)⟩])
 (.seq (.seq (.region false [⟨none,(some 22),.fld 0 (.t 7)⟩,
  ⟨none,(some 23),.load 1 false (.t 22)⟩])
 (.block 0 (.seq (.seq (.region false [⟨none,(some 25),.bin .eql (.t 23) (.k (.int .i64 1))⟩,
  ⟨none,(some 24),.mov (.t 25)⟩])
 (.cond (.t 24) .skip
 (.region false [⟨none,(some 26),.bin .eql (.t 23) (.k (.int .i64 3))⟩,
  ⟨none,(some 24),.mov (.t 26)⟩])))
 (.cond (.t 24) (.seq (.region false [⟨none,(some 27),.mov (.t 10)⟩,
  ⟨none,(some 28),.fld 1 (.t 7)⟩,
  ⟨none,(some 29),.load 1 false (.t 28)⟩,
  ⟨none,(some 30),.call (.k (.fn (.func 82) [] [])) [(.t 27),(.t 29)]⟩,
  ⟨none,none,.store 3 (.t 8) (.t 30)⟩])
 .ret)
 (.seq (.region false [⟨none,(some 32),.bin .eql (.t 23) (.k (.int .i64 4))⟩,
  ⟨none,(some 31),.mov (.t 32)⟩])
 (.cond (.t 31) (.seq (.region true [⟨none,(some 33),.load 36 true (.t 4)⟩,
  ⟨none,(some 34),.load 34 true (.t 6)⟩,
  ⟨none,(some 35),.load 4 true (.t 7)⟩,
  ⟨none,(some 37),.mov (.t 10)⟩,
  ⟨none,(some 38),.load 4 true (.t 7)⟩,
  ⟨none,(some 36),.callN (.k (.fn (.func 81) [] [])) [(.t 33),(.t 34),(.t 35)]⟩,
  ⟨none,(some 39),.callN (.k (.fn (.func 83) [] [])) [(.t 36),(.t 37),(.t 38)]⟩,
  ⟨none,none,.store 3 (.t 8) (.t 39)⟩])
 .ret)
 (.seq (.region false [⟨none,(some 41),.bin .eql (.t 23) (.k (.int .i64 5))⟩,
  ⟨none,(some 40),.mov (.t 41)⟩])
 (.cond (.t 40) (.seq (.region false [⟨none,(some 42),.mov (.t 10)⟩,
  ⟨none,(some 43),.load 4 true (.t 7)⟩,
  ⟨none,(some 44),.call (.k (.fn (.func 84) [] [])) [(.t 42),(.t 43)]⟩,
  ⟨none,none,.store 3 (.t 8) (.t 44)⟩])
 .ret)
 .skip))))))))
 (.seq (.region false [⟨none,(some 45),.mov (.t 10)⟩,
  ⟨none,(some 46),.call (.k (.fn (.func 85) [] [])) [(.t 45)]⟩,
  ⟨none,(some 11),.alloc [(.bool false),.nils,(.int .i64 0)]⟩,
  ⟨none,none,.store 3 (.t 11) (.t 46)⟩])
 (.seq (.seq (.region false [⟨none,(some 47),.fld 0 (.t 7)⟩,
  ⟨none,(some 48),.load 1 false (.t 47)⟩,
  ⟨none,(some 49),.bin .eql (.t 48) (.k (.int .i64 6))⟩,
  ⟨none,(some 50),.mov (.t 49)⟩,
  ⟨(some (50,true)),(some 51),.fld 0 (.t 11)⟩,
  ⟨(some (50,true)),(some 52),.load 1 false (.t 51)⟩,
  ⟨none,(some 53),.pick (.t 50) (.t 52) (.k (.bool false))⟩])
 (.cond (.t 53) (.seq (.region false [⟨none,(some 55),.fld 34 (.t 4)⟩,
  ⟨none,(some 56),.load 1 false (.t 55)⟩,
  ⟨none,(some 57),.fld 1 (.t 7)⟩,
  ⟨none,(some 58),.load 1 false (.t 57)⟩,
  ⟨none,(some 59),.call (.k (.fn (.func 53) [] [])) [(.t 56),(.t 58)]⟩,
  ⟨none,(some 54),.mov (.t 59)⟩,
  ⟨none,(some 60),.ext (.t 54) 0⟩,
  ⟨none,(some 61),.ext (.t 54) 1⟩,
  ⟨none,(some 12),.mov (.t 60)⟩,
  ⟨none,(some 13),.mov (.t 61)⟩])
 (.seq (.seq (.region false [⟨none,(some 62),.mov (.t 13)⟩,
  ⟨none,(some 63),.bin .gtr (.t 62) (.k (.int .i64 0))⟩])
 (.cond (.t 63) (.seq (.region false [⟨none,(some 64),.mov (.t 13)⟩,
  ⟨none,(some 65),.build [(.bool false),.nils,(.int .i64 0)] [(2,1,(.t 64))]⟩,
  ⟨none,none,.store 3 (.t 8) (.t 65)⟩])
 .ret)
 .skip))
 (.region false [⟨none,(some 66),.fld 1 (.t 11)⟩,
  ⟨none,(some 67),.load 1 false (.t 66)⟩,
  ⟨none,(some 68),.mov (.t 12)⟩,
  ⟨none,(some 69),.call (.k (.fn (.func 86) [] [])) [(.t 67),(.t 68)]⟩,
  ⟨none,(some 70),.fld 1 (.t 11)⟩,
  ⟨none,none,.store 1 (.t 70) (.t 69)⟩])))
 .skip))
 (.seq (.seq (.region false [⟨none,(some 71),.load 36 true (.t 4)⟩,
  ⟨none,(some 72),.call (.k (.fn (.func 87) [] [])) [(.t 71)]⟩,
  ⟨none,(some 14),.mov (.t 72)⟩])
 (.seq (.region false [⟨none,(some 73),.fld 0 (.t 7)⟩,
  ⟨none,(some 74),.load 1 false (.t 73)⟩,
  ⟨none,(some 75),.bin .eql (.t 74) (.k (.int .i64 8))⟩,
  ⟨none,(some 76),.mov (.t 75)⟩,
  ⟨(some (76,true)),(some 77),.fld 0 (.t 11)⟩,
  ⟨(some (76,true)),(some 78),.load 1 false (.t 77)⟩,
  ⟨none,(some 79),.pick (.t 76) (.t 78) (.k (.bool false))⟩,
  ⟨none,(some 80),.mov (.t 79)⟩,
  ⟨(some (80,true)),(some 81),.mov (.t 14)⟩,
  ⟨(some (80,true)),(some 82),.bin .gtr (.t 81) (.k (.int .i64 0))⟩,
  ⟨none,(some 83),.pick (.t 80) (.t 82) (.k (.bool false))⟩])
 (.cond (.t 83) (.seq (.region false [⟨none,(some 84),.mov (.t 14)⟩,
  ⟨none,(some 85),.build [(.bool false),.nils,(.int .i64 0)] [(2,1,(.t 84))]⟩,
  ⟨none,none,.store 3 (.t 8) (.t 85)⟩])
 .ret)
 .skip)))
 (.seq (.region false [⟨none,(some 86),.load 3 true (.t 11)⟩,
  ⟨none,none,.store 3 (.t 8) (.t 86)⟩])
 .ret)))))))))
 ntmps:=87
 res:=[.cell 8 3 true]
theorem zeo7:zsjc P Tryz.f44=some a44:=by kernel_rfl
def a21:AFn where
 code:=(.seq (.region false [⟨none,(some 3),.box (.t 0)⟩,
  ⟨none,(some 4),.box (.t 1)⟩,
  ⟨none,(some 5),.box (.t 2)⟩,
  ⟨none,(some 6),.alloc [(.bool false),.nils,(.int .i64 0)]⟩])
 (.seq (.seq (.region false [⟨none,(some 7),.load 4 true (.t 5)⟩,
  ⟨none,(some 8),.call (.k (.fn (.func 43) [] [])) [(.t 7)]⟩,
  ⟨none,(some 9),.un .not (.t 8)⟩])
 (.cond (.t 9) (.seq (.region false [⟨none,(some 10),.build [(.bool false),.nils,(.int .i64 0)] []⟩,
  ⟨none,none,.store 3 (.t 6) (.t 10)⟩])
 .ret)
 .skip))
 (.seq (.region false [⟨none,(some 11),.load 36 true (.t 3)⟩,
  ⟨none,(some 12),.fld 33 (.t 3)⟩,
  ⟨none,(some 13),.load 1 false (.t 12)⟩,
  ⟨none,(some 14),.load 34 true (.t 4)⟩,
  ⟨none,(some 15),.load 4 true (.t 5)⟩,
  ⟨none,(some 16),.call (.k (.fn (.func 44) [] [])) [(.t 11),(.t 13),(.t 14),(.t 15)]⟩,
  ⟨none,none,.store 3 (.t 6) (.t 16)⟩])
 .ret)))
 ntmps:=17
 res:=[.cell 6 3 true]
theorem zyfb:zsjc P Tryz.f21=some a21:=by kernel_rfl
def a19:AFn where
 code:=(.seq (.region false [⟨none,(some 2),.box (.t 0)⟩,
  ⟨none,(some 3),.box (.t 1)⟩,
  ⟨none,(some 4),.mov (.k (.bool false))⟩])
 (.seq (.region false [⟨none,(some 5),.fld 0 (.t 2)⟩,
  ⟨none,(some 6),.load 1 false (.t 5)⟩,
  ⟨none,(some 7),.fld 0 (.t 3)⟩,
  ⟨none,(some 8),.load 1 false (.t 7)⟩,
  ⟨none,(some 9),.eqb false (.t 6) (.t 8)⟩,
  ⟨none,(some 10),.mov (.t 9)⟩,
  ⟨(some (10,true)),(some 11),.fld 2 (.t 2)⟩,
  ⟨(some (10,true)),(some 12),.load 1 false (.t 11)⟩,
  ⟨(some (10,true)),(some 13),.fld 2 (.t 3)⟩,
  ⟨(some (10,true)),(some 14),.load 1 false (.t 13)⟩,
  ⟨(some (10,true)),(some 15),.bin .eql (.t 12) (.t 14)⟩,
  ⟨none,(some 16),.pick (.t 10) (.t 15) (.k (.bool false))⟩,
  ⟨none,(some 17),.mov (.t 16)⟩,
  ⟨(some (17,true)),(some 18),.fld 1 (.t 2)⟩,
  ⟨(some (17,true)),(some 19),.load 1 false (.t 18)⟩,
  ⟨(some (17,true)),(some 20),.fld 1 (.t 3)⟩,
  ⟨(some (17,true)),(some 21),.load 1 false (.t 20)⟩,
  ⟨(some (17,true)),(some 22),.call (.k (.fn (.func 40) [] [])) [(.t 19),(.t 21)]⟩,
  ⟨none,(some 23),.pick (.t 17) (.t 22) (.k (.bool false))⟩,
  ⟨none,(some 4),.mov (.t 23)⟩])
 .ret))
 ntmps:=24
 res:=[.tmp 4]
theorem zlqi:zsjc P Tryz.f19=some a19:=by kernel_rfl
def z4pl:ACode :=
 (.seq (.seq (.region false [⟨none,(some 11),.mov (.t 5)⟩,
  ⟨none,(some 12),.mov (.t 0)⟩,
  ⟨none,(some 13),.len (.t 12)⟩,
  ⟨none,(some 14),.bin .lss (.t 11) (.t 13)⟩])
 (.cond (.t 14) .skip
 (.exit 0)))
 (.seq (.block 1 (.seq (.region true [⟨none,(some 17),.mov (.t 0)⟩,
  ⟨none,(some 18),.mov (.t 5)⟩,
  ⟨none,(some 19),.idxS 34 (.t 17) (.t 18)⟩,
  ⟨none,(some 20),.load 34 true (.t 19)⟩,
  ⟨none,(some 21),.mov (.t 1)⟩,
  ⟨none,(some 22),.mov (.t 5)⟩,
  ⟨none,(some 23),.idxS 34 (.t 21) (.t 22)⟩,
  ⟨none,(some 24),.load 34 true (.t 23)⟩,
  ⟨none,(some 25),.eqa true [(32,0),(2,1)] (.t 20) (.t 24)⟩])
 (.cond (.t 25) (.seq (.region false [⟨none,(some 4),.mov (.k (.bool false))⟩])
 .ret)
 .skip)))
 (.region false [⟨none,(some 15),.mov (.t 5)⟩,
  ⟨none,(some 16),.bin .add (.t 15) (.k (.int .i64 1))⟩,
  ⟨none,(some 5),.mov (.t 16)⟩])))
def zhcc (x0 x1 x5:DV) (h:List AObj):St:=⟨[x0,x1,.junk,.junk,.junk,x5]++js 20,h⟩
def a17:AFn where
 code:=(.seq (.region false [⟨none,(some 4),.mov (.k (.bool false))⟩])
 (.seq (.seq (.region false [⟨none,(some 6),.mov (.t 0)⟩,
  ⟨none,(some 7),.len (.t 6)⟩,
  ⟨none,(some 8),.mov (.t 1)⟩,
  ⟨none,(some 9),.len (.t 8)⟩,
  ⟨none,(some 10),.bin .neq (.t 7) (.t 9)⟩])
 (.cond (.t 10) (.seq (.region false [⟨none,(some 4),.mov (.k (.bool false))⟩])
 .ret)
 .skip))
 (.seq (.seq (.region false [⟨none,(some 5),.mov (.k (.int .i64 0))⟩])
 (.block 0 (.loop z4pl)))
 (.seq (.region false [⟨none,(some 4),.mov (.k (.bool true))⟩])
 .ret))))
 ntmps:=26
 res:=[.tmp 4]
theorem zcaf:zsjc P Tryz.f17=some a17:=by kernel_rfl
end Go.Proofs.YtdnhbfmlklaldaaGreat
set_option linter.unusedSimpArgs false
set_option linter.unusedVariables false
namespace Go.Proofs.YtdnhbfmlklaldaaGreat
open Go Go.Am
theorem zonj {s:Str}:(stC s).all DV.one=true:=rfl
def S740 (x:Sl Str) (d:Str) (i:Nat):St:=zyf7 (x.dv 1 stC) (.str d) (.int .i64 i) []
theorem zy1k (x:Sl Str) (d:Str):Runs tbl0 a118 [x.dv 1 stC,.str d] (.bool (decide (d ∈ x.l))):=by
 refine ⟨?_⟩
 have hb:=x.b
 simp (disch:=first|omega|simp<;>omega|fail) [-zA,-zB,-zC,-zD,-zE,a118]
 refine zlm5 (S740 x d) (fun i=>x.l.length-i) (fun i=>i≤x.l.length ∧ ∀ j (hj:j<x.l.length),j<i→¬ x.l[j]=d) 0 (z515 (by simp (disch:=first|omega|simp<;>omega|fail) [-zA,-zB,-zC,-zD,-zE,S740,zyf7]) (by simp (disch:=first|omega|simp<;>omega|fail) [-zA,-zB,-zC,-zD,-zE,S740,zyf7])) ⟨by omega,fun j _ hj=>by omega⟩ (fun i hi => ?_)
 obtain ⟨h1,h2⟩:=hi
 simp (disch:=first|omega|simp<;>omega|fail) [-zA,-zB,-zC,-zD,-zE,zcng,zyf7,S740]
 by_cases h:i<x.l.length
 ·have h':(i:Int)<x.l.length:=by omega
  have hg : ∀ H,zpsc H 1 (x.dv 1 stC) i=some (.ref [.str x.l[i]]):=fun H=>zalo zqv6 h
  by_cases e:x.l[i]=d
  ·have hm:d ∈ x.l:=e▸List.getElem_mem h
   simp (disch:=first|omega|simp<;>omega|fail) [-zA,-zB,-zC,-zD,-zE,h',h,hg,e,hm]
  ·simp (disch:=first|omega|simp<;>omega|fail) [-zA,-zB,-zC,-zD,-zE,h',h,hg,e]
   refine ⟨i+1,z515 (by simp (disch:=first|omega|simp<;>omega|fail) [-zA,-zB,-zC,-zD,-zE,S740,zyf7]) (by simp (disch:=first|omega|simp<;>omega|fail) [-zA,-zB,-zC,-zD,-zE,S740,zyf7]),by omega,by omega,fun j hj hji => ?_⟩
   by_cases ej:j=i
   ·subst ej; exact e
   ·exact h2 j hj (by omega)
 ·have h':¬ (i:Int)<x.l.length:=by omega
  have hm:¬ d ∈ x.l:=fun hm=>by
   obtain ⟨j,hj,e⟩:=List.getElem_of_mem hm
   exact h2 j hj (by omega) e
  simp (disch:=first|omega|simp<;>omega|fail) [-zA,-zB,-zC,-zD,-zE,h',h,hm]
noncomputable def z8zr:List DV→Option DV:=con (fun _=>True) (fun a:Sl Str × Str=>[a.1.dv 1 stC,.str a.2]) (fun a => .bool (decide (a.2 ∈ a.1.l)))
theorem zjet {x:Sl Str} {d:Str}:z8zr [x.dv 1 stC,.str d]=some (.bool (decide (d ∈ x.l))) :=
 zsn4 (f:=fun a:Sl Str × Str=>[a.1.dv 1 stC,.str a.2]) (g:=fun a => .bool (decide (a.2 ∈ a.1.l))) (by
  rintro ⟨a,b⟩ ⟨c,d⟩ e
  simp only [List.cons.injEq,DV.str.injEq,and_true] at e
  rw [z8p4 e.1,e.2]) (x,d)
theorem zd4q:(Con.pure z8zr).Sound P 118:=z2au fun a _=>zljw mix zr5o Tryz.func118 zasg (zy1k a.1 a.2)
def addN (x:Sl Str) (d:Str):Sl Str:=if d ∈ x.l then x else own (addU Op.bytesLess x.l d)
noncomputable def T741:Tbl:=addT 118 (.pure z8zr) tbl0
theorem zzfo:T741 118 = .pure z8zr:=by simp [T741]
theorem z0k7:T741.Sound P:=z0rp zd4q zr5o
def aW (l:List Str):DV:=if l=[] then .nils else .ms 0 l.length 0 1 l.length l.length
def aG (l:List Str):List AObj:=if l=[] then [] else [.cells (fl stC l)]
theorem z5rj {l:List Str} (h:l≠[]):aW l = .ms 0 l.length 0 1 l.length l.length:=if_neg h
theorem z8uj {l:List Str} (h:l≠[]):aG l=[.cells (fl stC l)]:=if_neg h
def S741 (x:Sl Str) (d:Str) (i:Nat):St:=zgik (x.dv 1 stC) (.str d) (aW (x.l.take i)) (.int .i64 i) (aG (x.l.take i))
theorem z1s9 (x:Sl Str) (d:Str) (hn:x.l.length≤1000000):Runs T741 a136 [x.dv 1 stC,.str d] ((addN x d).dv 1 stC):=by
 refine ⟨?_⟩
 by_cases hm:d ∈ x.l
 ·have hr:addN x d=x:=if_pos hm
  simp (disch:=first|omega|simp<;>omega|fail) [-zA,-zB,-zC,-zD,-zE,a136,zzfo,zjet,hm,hr]
 have hr:addN x d=own (addU Op.bytesLess x.l d):=if_neg hm
 have hul:=zk4s (lt:=Op.bytesLess) (l:=x.l) (d:=d)
 rw [hr,zqrs (by omega)]
 have ha:addU Op.bytesLess x.l d=x.l.takeWhile (fun y=>Op.bytesLess y d)++d::x.l.dropWhile (fun y=>Op.bytesLess y d):=by unfold addU; rw [if_neg hm]
 simp (disch:=first|omega|simp<;>omega|fail) [-zA,-zB,-zC,-zD,-zE,a136,zzfo,zjet,hm]
 refine zlm5 (S741 x d) (fun i=>x.l.length-i) (fun i=>i≤x.l.length ∧ ∀ j (h:j<x.l.length),j<i→Op.bytesLess x.l[j] d=true) 0 (z515 (by simp (disch:=first|omega|simp<;>omega|fail) [-zA,-zB,-zC,-zD,-zE,S741,zgik,aW]) (by simp (disch:=first|omega|simp<;>omega|fail) [-zA,-zB,-zC,-zD,-zE,S741,zgik,aG])) ⟨by omega,fun j _ hj=>by omega⟩ (fun i hi => ?_)
 obtain ⟨h1,h2⟩:=hi
 simp only [S741]
 have tail:(i=x.l.length ∨ ∃ h:i<x.l.length,Op.bytesLess x.l[i] d=false)→addU Op.bytesLess x.l d=x.l.take i++d::x.l.drop i:=fun h=>by
  obtain ⟨e1,e2⟩:=zig9 (p:=fun y=>Op.bytesLess y d) h1 h2 h
  rw [ha,e1,e2]
 obtain ⟨L,hL⟩ : ∃ L,x.l.take i=L:=⟨_,rfl⟩
 have hLl:L.length=i:=by rw [← hL,List.length_take]; omega
 have hdl:(x.l.drop i).length=x.l.length-i:=List.length_drop ..
 obtain ⟨D,hD⟩ : ∃ D,x.l.drop i=D:=⟨_,rfl⟩
 have hs0 : ∀ H,ziwb H 1 (x.dv 1 stC) (some (.int .i64 i)) none none=some ((x.part i x.l.length (x.l.length == x.l.length)).dv 1 stC):=fun H=>z0ke zqv6 (by simp [zo77,iD]; omega) (Nat.le_refl _)
 obtain ⟨Y,hY⟩ : ∃ Y,x.part i x.l.length (x.l.length == x.l.length)=Y:=⟨_,rfl⟩
 have hYl:Y.l=D:=by rw [← hY,← hD]; show (x.l.drop i).take (x.l.length-i)=_; exact List.take_of_length_le (by omega)
 rw [hY] at hs0
 have hv : ∀ H,visY H (Y.dv 1 stC)=some (D.length,D.flatMap stC):=fun H=>by rw [zwaa zqv6,hYl]
 rw [hD] at hdl
 rw [hL,hD] at tail
 rw [hL]
 by_cases h:i<x.l.length
 case neg =>
  have h':¬ (i:Int)<x.l.length:=by omega
  have H:i=x.l.length ∨ ∃ h:i<x.l.length,Op.bytesLess x.l[i] d=false := .inl (by omega)
  by_cases e:L=[]
  ·have q1:aW L = .nils:=by rw [e]; rfl
   have q2:aG L=[]:=by rw [e]; rfl
   have hap:=zsuq (h:=[]) (s:=1) (b:=16) (m:=1) (cs:=stC d) (by decide) (by decide) (by rw [zqv6]) (by decide) (by decide)
   simp only [zqv6,List.length_nil,List.nil_append] at hap
   have hap2:=zvrp (h:=[AObj.cells (fl stC [d])]) (id:=0) (b:=16) (l:=[d]) (m:=D.length) (cs:=D) zqv6 (by decide) (by decide) (fun _=>zonj) rfl (by simp; omega) (by simp [objV,ziu0,z8lx zqv6])
   rw [z4hs] at hap2
   simp only [List.length_cons,List.length_nil,Nat.zero_add,Nat.one_mul] at hap2
   have ht:=tail H
   rw [e,List.nil_append] at ht
   have hfl:(fl stC (d::D)).length=(1+D.length)*1:=by rw [z8lx zqv6]; simp; omega
   have hpu:=zp6k zds6 (d::D)
   have htk:(fl stC (d::D)).take ((1+D.length)*1)=(d::D).flatMap stC:=List.take_of_length_le (by omega)
   have hl1:(d::D).length=1+D.length:=by simp; omega
   have hsn : ∀ H j,z4tt H j ((d::D).flatMap stC)=some ((d::D).flatMap stC):=fun H j=>z619 hpu
   simp only [Nat.mul_one] at hap hap2 hfl htk
   rw [ht,hl1]
   generalize (d::D).flatMap stC=Z at htk hsn ⊢
   have hst:stC d=[.str d]:=rfl
   rw [hst] at hap hap2
   simp (disch:=first|omega|simp<;>omega|fail) [-zA,-zB,-zC,-zD,-zE,z0mi,zgik,h,h',q1,q2,hs0,hv,hap,hap2,hfl,htk,hsn,zch3]
  ·have q1:=z5rj e
   have q2:=z8uj e
   have hap:=zkg3 (h:=[AObj.cells (fl stC L)]) (id:=0) (b:=16) (l:=L) (x:=d) zqv6 (by decide) (by decide) (fun _=>zonj) (by omega) (by simp [objV,ziu0,z8lx zqv6])
   have hap2:=zvrp (h:=[AObj.cells (fl stC (L++[d]))]) (id:=0) (b:=16) (l:=L++[d]) (m:=D.length) (cs:=D) zqv6 (by decide) (by decide) (fun _=>zonj) rfl (by simp; omega) (by simp [objV,ziu0,z8lx zqv6])
   have hl0:(L++[d]).length=L.length+1:=by simp
   rw [hl0] at hap2
   have ht:=tail H
   have he:L++[d]++D=L++d::D:=by simp
   rw [he] at hap2
   have hfl:(fl stC (L++d::D)).length=(L.length+1+D.length)*1:=by rw [z8lx zqv6]; simp; omega
   have hpu:=zp6k zds6 (L++d::D)
   have htk:(fl stC (L++d::D)).take ((L.length+1+D.length)*1)=(L++d::D).flatMap stC:=List.take_of_length_le (by omega)
   have hl1:(L++d::D).length=L.length+1+D.length:=by simp; omega
   have hsn : ∀ H j,z4tt H j ((L++d::D).flatMap stC)=some ((L++d::D).flatMap stC):=fun H j=>z619 hpu
   simp only [Nat.mul_one] at hap hap2 hfl htk
   rw [ht,hl1]
   generalize (L++d::D).flatMap stC=Z at htk hsn ⊢
   have hst:stC d=[.str d]:=rfl
   rw [hst] at hap
   simp (disch:=first|omega|simp<;>omega|fail) [-zA,-zB,-zC,-zD,-zE,z0mi,zgik,h,h',q1,q2,hs0,hv,hap,hap2,hfl,htk,hsn,zch3]

 have h':(i:Int)<x.l.length:=by omega
 have hg : ∀ H,zpsc H 1 (x.dv 1 stC) i=some (.ref [.str x.l[i]]):=fun H=>zalo zqv6 h
 have hnx:x.l.take (i+1)=L++[x.l[i]]:=by rw [List.take_succ_eq_append_getElem h,hL]
 cases hc:Op.bytesLess x.l[i] d with
 | false =>
  have H:i=x.l.length ∨ ∃ h:i<x.l.length,Op.bytesLess x.l[i] d=false := .inr ⟨h,hc⟩
  obtain ⟨y,hy⟩ : ∃ y,x.l[i]=y:=⟨_,rfl⟩
  rw [hy] at hg hc
  by_cases e:L=[]
  ·have q1:aW L = .nils:=by rw [e]; rfl
   have q2:aG L=[]:=by rw [e]; rfl
   have hap:=zsuq (h:=[]) (s:=1) (b:=16) (m:=1) (cs:=stC d) (by decide) (by decide) (by rw [zqv6]) (by decide) (by decide)
   simp only [zqv6,List.length_nil,List.nil_append] at hap
   have hap2:=zvrp (h:=[AObj.cells (fl stC [d])]) (id:=0) (b:=16) (l:=[d]) (m:=D.length) (cs:=D) zqv6 (by decide) (by decide) (fun _=>zonj) rfl (by simp; omega) (by simp [objV,ziu0,z8lx zqv6])
   rw [z4hs] at hap2
   simp only [List.length_cons,List.length_nil,Nat.zero_add,Nat.one_mul] at hap2
   have ht:=tail H
   rw [e,List.nil_append] at ht
   have hfl:(fl stC (d::D)).length=(1+D.length)*1:=by rw [z8lx zqv6]; simp; omega
   have hpu:=zp6k zds6 (d::D)
   have htk:(fl stC (d::D)).take ((1+D.length)*1)=(d::D).flatMap stC:=List.take_of_length_le (by omega)
   have hl1:(d::D).length=1+D.length:=by simp; omega
   have hsn : ∀ H j,z4tt H j ((d::D).flatMap stC)=some ((d::D).flatMap stC):=fun H j=>z619 hpu
   simp only [Nat.mul_one] at hap hap2 hfl htk
   rw [ht,hl1]
   generalize (d::D).flatMap stC=Z at htk hsn ⊢
   have hst:stC d=[.str d]:=rfl
   rw [hst] at hap hap2
   simp (disch:=first|omega|simp<;>omega|fail) [-zA,-zB,-zC,-zD,-zE,z0mi,zgik,h,h',hg,hc,q1,q2,hs0,hv,hap,hap2,hfl,htk,hsn,zch3]
  ·have q1:=z5rj e
   have q2:=z8uj e
   have hap:=zkg3 (h:=[AObj.cells (fl stC L)]) (id:=0) (b:=16) (l:=L) (x:=d) zqv6 (by decide) (by decide) (fun _=>zonj) (by omega) (by simp [objV,ziu0,z8lx zqv6])
   have hap2:=zvrp (h:=[AObj.cells (fl stC (L++[d]))]) (id:=0) (b:=16) (l:=L++[d]) (m:=D.length) (cs:=D) zqv6 (by decide) (by decide) (fun _=>zonj) rfl (by simp; omega) (by simp [objV,ziu0,z8lx zqv6])
   have hl0:(L++[d]).length=L.length+1:=by simp
   rw [hl0] at hap2
   have ht:=tail H
   have he:L++[d]++D=L++d::D:=by simp
   rw [he] at hap2
   have hfl:(fl stC (L++d::D)).length=(L.length+1+D.length)*1:=by rw [z8lx zqv6]; simp; omega
   have hpu:=zp6k zds6 (L++d::D)
   have htk:(fl stC (L++d::D)).take ((L.length+1+D.length)*1)=(L++d::D).flatMap stC:=List.take_of_length_le (by omega)
   have hl1:(L++d::D).length=L.length+1+D.length:=by simp; omega
   have hsn : ∀ H j,z4tt H j ((L++d::D).flatMap stC)=some ((L++d::D).flatMap stC):=fun H j=>z619 hpu
   simp only [Nat.mul_one] at hap hap2 hfl htk
   rw [ht,hl1]
   generalize (L++d::D).flatMap stC=Z at htk hsn ⊢
   have hst:stC d=[.str d]:=rfl
   rw [hst] at hap
   simp (disch:=first|omega|simp<;>omega|fail) [-zA,-zB,-zC,-zD,-zE,z0mi,zgik,h,h',hg,hc,q1,q2,hs0,hv,hap,hap2,hfl,htk,hsn,zch3]

 | true =>
  have hinv : ∀ j (h:j<x.l.length),j<i+1→Op.bytesLess x.l[j] d=true:=fun j hj hji=>by
   by_cases ej:j=i
   ·subst ej; exact hc
   ·exact h2 j hj (by omega)
  obtain ⟨y,hy⟩ : ∃ y,x.l[i]=y:=⟨_,rfl⟩
  rw [hy] at hg hc hnx
  by_cases e:L=[]
  ·have q1:aW L = .nils:=by rw [e]; rfl
   have q2:aG L=[]:=by rw [e]; rfl
   have hap:=zsuq (h:=[]) (s:=1) (b:=16) (m:=1) (cs:=[.str y]) (by decide) (by decide) rfl (by decide) (by decide)
   simp only [List.length_cons,List.length_nil,List.nil_append,Nat.zero_add] at hap
   simp (disch:=first|omega|simp<;>omega|fail) [-zA,-zB,-zC,-zD,-zE,z0mi,zgik,h,h',hg,hc,q1,q2,hap]
   rw [e,List.nil_append] at hnx
   have e1:aW [y] = .ms 0 1 0 1 1 1:=rfl
   have e2:aG [y]=[.cells [.str y]]:=by rw [z8uj (by simp),z4hs]; rfl
   exact ⟨i+1,z515 (by simp (disch:=first|omega|simp<;>omega|fail) [-zA,-zB,-zC,-zD,-zE,S741,zgik,hnx,e1]) (by simp (disch:=first|omega|simp<;>omega|fail) [-zA,-zB,-zC,-zD,-zE,S741,zgik,hnx,e2]),by omega,by omega,hinv⟩
  ·have q1:=z5rj e
   have q2:=z8uj e
   have hap:=zkg3 (h:=[AObj.cells (fl stC L)]) (id:=0) (b:=16) (l:=L) (x:=y) zqv6 (by decide) (by decide) (fun _=>zonj) (by omega) (by simp [objV,ziu0,z8lx zqv6])
   rw [show stC y=[.str y] from rfl] at hap
   simp only [Nat.mul_one] at hap
   simp (disch:=first|omega|simp<;>omega|fail) [-zA,-zB,-zC,-zD,-zE,z0mi,zgik,h,h',hg,hc,q1,q2,hap]
   have e0:L++[y]≠[]:=by simp
   have e1:=z5rj e0
   have e2:=z8uj e0
   rw [List.length_append,List.length_singleton] at e1
   exact ⟨i+1,z515 (by simp (disch:=first|omega|simp<;>omega|fail) [-zA,-zB,-zC,-zD,-zE,S741,zgik,hnx,e1]) (by simp (disch:=first|omega|simp<;>omega|fail) [-zA,-zB,-zC,-zD,-zE,S741,zgik,hnx,e2]),by omega,by omega,hinv⟩
noncomputable def zol6:List DV→Option DV:=con (fun a:Sl Str × Str=>a.1.l.length≤1000000) (fun a=>[a.1.dv 1 stC,.str a.2]) (fun a=>(addN a.1 a.2).dv 1 stC)
theorem zs7i {x:Sl Str} {d:Str} (h:x.l.length≤1000000):zol6 [x.dv 1 stC,.str d]=some ((addN x d).dv 1 stC) :=
 zlyi (A:=fun a:Sl Str × Str=>a.1.l.length≤1000000) (f:=fun a:Sl Str × Str=>[a.1.dv 1 stC,.str a.2]) (g:=fun a=>(addN a.1 a.2).dv 1 stC) (by
  rintro ⟨a,b⟩ ⟨c,d⟩ e
  simp only [List.cons.injEq,DV.str.injEq,and_true] at e
  rw [z8p4 e.1,e.2]) (x,d) h
theorem zed2:(Con.pure zol6).Sound P 136:=z2au fun a h=>zljw mix z0k7 Tryz.func136 zr0w (z1s9 a.1 a.2 h)
theorem zrsc {x:Sl Str} {d:Str} (h:x.l.length≤1000000):(addN x d).l=addU Op.bytesLess x.l d:=by
 unfold addN
 split
 ·rename_i hm; unfold addU; rw [if_pos hm]
 ·have:=zk4s (lt:=Op.bytesLess) (l:=x.l) (d:=d); rw [z3e9 (by omega)]
end Go.Proofs.YtdnhbfmlklaldaaGreat
set_option linter.unusedSimpArgs false
set_option linter.unusedVariables false
namespace Go.Proofs.YtdnhbfmlklaldaaGreat
open Go Go.Am
theorem zpbg : ∀ (m:List Str) (x:Sl Str),x.l.length+m.length≤1000000→(m.foldl addN x).l=m.foldl (addU Op.bytesLess) x.l
 | [],x,_=>rfl
 | a::m,x,h=>by
  simp only [List.length_cons] at h
  have h1:=zrsc (x:=x) (d:=a) (by omega)
  have h2:=zk4s (lt:=Op.bytesLess) (l:=x.l) (d:=a)
  rw [List.foldl_cons,List.foldl_cons,zpbg m _ (by rw [h1]; omega),h1]
theorem z68u {α:Type} {s:Nat} {f:α→List DV}:(nilS:Sl α).dv s f = .nils:=rfl
theorem zg2y {x:Sl Dg} {d:Dg} (h:x.l.length≤1000000):(addF x d).l=addU dgLt x.l d:=by
 unfold addF
 split
 ·rename_i hm; unfold addU; rw [if_pos hm]
 ·have:=zk4s (lt:=dgLt) (l:=x.l) (d:=d); rw [z3e9 (by omega)]
def unR (x:Sl Dg) (m:List Dg):Sl Dg:=m.foldl addF x
theorem zptr : ∀ (m:List Dg) (x:Sl Dg),x.l.length+m.length≤1000000→(unR x m).l=m.foldl (addU dgLt) x.l
 | [],x,_=>rfl
 | a::m,x,h=>by
  simp only [List.length_cons] at h
  have h1:=zg2y (x:=x) (d:=a) (by omega)
  have h2:=zk4s (lt:=dgLt) (l:=x.l) (d:=a)
  have h3:=zptr m (addF x a) (by rw [h1]; omega)
  show (unR (addF x a) m).l=_
  rw [h3,h1]; rfl
theorem zu06 {x:Sl Dg} {a b:List Dg}:unR x (a++b)=unR (unR x a) b:=List.foldl_append ..
def ownR (l:List Fct):Sl Str:=(l.map (·.own)).foldl addN nilS
theorem zsec {l:List Fct} (h:l.length≤1000000):(ownR l).l=zzy4 l:=by
 rw [ownR,zpbg _ _ (by simpa [zb11] using h)]; rfl
theorem zy8e {l:List Fct} {f:Fct}:ownR (l++[f])=addN (ownR l) f.own:=by simp [ownR]
noncomputable def T742:Tbl:=addT 136 (.pure zol6) tbl0
theorem zs9s:T742 136 = .pure zol6:=by simp [T742]
theorem zxn8:T742.Sound P:=z0rp zed2 zr5o
def S742 (x:Sl Fct) (i:Nat):St:=zg8g (x.dv 71 faC) ((ownR (x.l.take i)).dv 1 stC) (.int .i64 i) []
theorem zbst (x:Sl Fct) (hn:x.l.length≤1000000):Runs T742 a115 [x.dv 71 faC] ((ownR x.l).dv 1 stC):=by
 refine ⟨?_⟩
 simp (disch:=first|omega|simp<;>omega|fail) [-zA,-zB,-zC,-zD,-zE,a115]
 refine zlm5 (S742 x) (fun i=>x.l.length-i) (fun i=>i≤x.l.length) 0 (z515 (by simp (disch:=first|omega|simp<;>omega|fail) [-zA,-zB,-zC,-zD,-zE,S742,zg8g,ownR,z68u]) (by simp (disch:=first|omega|simp<;>omega|fail) [-zA,-zB,-zC,-zD,-zE,S742,zg8g])) (by omega) (fun i hi => ?_)
 simp only [S742]
 by_cases h:i<x.l.length
 ·have h':(i:Int)<x.l.length:=by omega
  have hg : ∀ H,zpsc H 71 (x.dv 71 faC) i=some (.ref (faC x.l[i])):=fun H=>zalo zs77 h
  have hs:ownR (x.l.take (i+1))=addN (ownR (x.l.take i)) x.l[i].own:=by rw [List.take_succ_eq_append_getElem h,zy8e]
  have hb:(ownR (x.l.take i)).l.length≤1000000:=by
   rw [zsec (by rw [List.length_take]; omega)]
   have:=zmvi (x.l.take i)
   rw [List.length_take] at this; omega
  have hc:=zs7i (x:=ownR (x.l.take i)) (d:=x.l[i].own) hb
  rw [← hs] at hc
  obtain ⟨f,hf⟩ : ∃ f,x.l[i]=f:=⟨_,rfl⟩
  rw [hf] at hg hc
  obtain ⟨A,hA⟩ : ∃ A,ownR (x.l.take i)=A:=⟨_,rfl⟩
  rw [hA] at hc ⊢
  simp (disch:=first|omega|simp<;>omega|fail) [-zA,-zB,-zC,-zD,-zE,zbs4,zg8g,h,h',hg,zs9s,hc]
  exact ⟨i+1,z515 (by simp (disch:=first|omega|simp<;>omega|fail) [-zA,-zB,-zC,-zD,-zE,S742,zg8g]) (by simp (disch:=first|omega|simp<;>omega|fail) [-zA,-zB,-zC,-zD,-zE,S742,zg8g]),by omega,by omega⟩
 ·have h':¬ (i:Int)<x.l.length:=by omega
  rw [List.take_of_length_le (show x.l.length≤i by omega)]
  simp (disch:=first|omega|simp<;>omega|fail) [-zA,-zB,-zC,-zD,-zE,zbs4,zg8g,h,h']
noncomputable def cOwR:List DV→Option DV:=con (fun x:Sl Fct=>x.l.length≤1000000) (fun x=>[x.dv 71 faC]) (fun x=>(ownR x.l).dv 1 stC)
theorem zoki {x:Sl Fct} (h:x.l.length≤1000000):cOwR [x.dv 71 faC]=some ((ownR x.l).dv 1 stC) :=
 zlyi (A:=fun x:Sl Fct=>x.l.length≤1000000) (f:=fun x:Sl Fct=>[x.dv 71 faC]) (g:=fun x=>(ownR x.l).dv 1 stC) (fun a b e=>by simp only [List.cons.injEq,and_true] at e; rw [z4rf e]) x h
theorem zvs4:(Con.pure cOwR).Sound P 115:=z2au fun x h=>zljw mix zxn8 Tryz.func115 zv17 (zbst x h)
noncomputable def T743:Tbl:=addT 93 (.pure cAdd) tbl0
theorem zhq4:T743 93 = .pure cAdd:=by simp [T743]
theorem zfmm:T743.Sound P:=z0rp z03l zr5o
def S743 (x y:Sl Dg) (i:Nat):St:=z20v ((unR x (y.l.take i)).dv 32 dgC) (y.dv 32 dgC) (.int .i64 i) []
def UnOK (x y:Sl Dg):Prop:=x.l.length+y.l.length≤1000000
theorem z8bn (l m:List Dg):(m.foldl (addU dgLt) l).length≤l.length+m.length:=by have:=znmg (lt:=dgLt) m l; omega
theorem z5xr (x y:Sl Dg) (hn:UnOK x y):Runs T743 a86 [x.dv 32 dgC,y.dv 32 dgC] ((unR x y.l).dv 32 dgC):=by
 refine ⟨?_⟩
 unfold UnOK at hn
 simp (disch:=first|omega|simp<;>omega|fail) [-zA,-zB,-zC,-zD,-zE,a86]
 refine zlm5 (S743 x y) (fun i=>y.l.length-i) (fun i=>i≤y.l.length) 0 (z515 (by simp (disch:=first|omega|simp<;>omega|fail) [-zA,-zB,-zC,-zD,-zE,S743,z20v,unR]) (by simp (disch:=first|omega|simp<;>omega|fail) [-zA,-zB,-zC,-zD,-zE,S743,z20v])) (by omega) (fun i hi => ?_)
 simp only [S743]
 by_cases h:i<y.l.length
 ·have h':(i:Int)<y.l.length:=by omega
  have hg : ∀ H,zpsc H 32 (y.dv 32 dgC) i=some (.ref (dgC y.l[i])):=fun H=>zalo z1t1 h
  have hs:unR x (y.l.take (i+1))=addF (unR x (y.l.take i)) y.l[i]:=by rw [List.take_succ_eq_append_getElem h,zu06]; rfl
  have hb:(unR x (y.l.take i)).l.length≤1000000:=by
   have ht:(y.l.take i).length≤i:=by rw [List.length_take]; omega
   rw [zptr _ _ (by omega)]
   have:=z8bn x.l (y.l.take i)
   omega
  have hc:=zbsz (x:=unR x (y.l.take i)) (d:=y.l[i]) hb
  rw [← hs] at hc
  obtain ⟨f,hf⟩ : ∃ f,y.l[i]=f:=⟨_,rfl⟩
  rw [hf] at hg hc
  obtain ⟨A,hA⟩ : ∃ A,unR x (y.l.take i)=A:=⟨_,rfl⟩
  rw [hA] at hc ⊢
  simp (disch:=first|omega|simp<;>omega|fail) [-zA,-zB,-zC,-zD,-zE,zw44,z20v,h,h',hg,zhq4,hc]
  exact ⟨i+1,z515 (by simp (disch:=first|omega|simp<;>omega|fail) [-zA,-zB,-zC,-zD,-zE,S743,z20v]) (by simp (disch:=first|omega|simp<;>omega|fail) [-zA,-zB,-zC,-zD,-zE,S743,z20v]),by omega,by omega⟩
 ·have h':¬ (i:Int)<y.l.length:=by omega
  rw [List.take_of_length_le (show y.l.length≤i by omega)]
  simp (disch:=first|omega|simp<;>omega|fail) [-zA,-zB,-zC,-zD,-zE,zw44,z20v,h,h']
noncomputable def cUnR:List DV→Option DV:=con (fun a:Sl Dg × Sl Dg=>UnOK a.1 a.2) (fun a=>[a.1.dv 32 dgC,a.2.dv 32 dgC]) (fun a=>(unR a.1 a.2.l).dv 32 dgC)
theorem zsy2 {x y:Sl Dg} (h:UnOK x y):cUnR [x.dv 32 dgC,y.dv 32 dgC]=some ((unR x y.l).dv 32 dgC) :=
 zlyi (A:=fun a:Sl Dg × Sl Dg=>UnOK a.1 a.2) (f:=fun a:Sl Dg × Sl Dg=>[a.1.dv 32 dgC,a.2.dv 32 dgC]) (g:=fun a=>(unR a.1 a.2.l).dv 32 dgC) (by
  rintro ⟨a,b⟩ ⟨c,d⟩ e
  simp only [List.cons.injEq,and_true] at e
  rw [z42k e.1,z42k e.2]) (x,y) h
theorem zuhn:(Con.pure cUnR).Sound P 86:=z2au fun a h=>zljw mix zfmm Tryz.func86 z2i3 (z5xr a.1 a.2 h)
end Go.Proofs.YtdnhbfmlklaldaaGreat
set_option linter.unusedSimpArgs false
set_option linter.unusedVariables false
namespace Go.Proofs.YtdnhbfmlklaldaaGreat
open Go Go.Am
structure RfOK (l:List Fct):Prop where
 n:l.length≤100
 d : ∀ f ∈ l,f.docs.l.length≤1000
theorem zxjb {l:List Fct} (h:RfOK l) (w:Str):(zm3u l w).length≤1000:=by
 unfold zm3u; split
 ·rename_i f e; exact h.d f (List.mem_of_find?_eq_some e)
 ·simp
theorem zkr7 {l:List Fct} (h:RfOK l) (m:List Str):(ztt8 l m).length≤m.length*1000 :=
 zqok (f:=zm3u l) (m:=1000) (l:=m) fun w _=>zxjb h w
def firR (l:List Fct) (i:Nat):Sl Dg:=unR nilS (ztt8 l ((zzy4 l).take i))
theorem zi54 {l:List Fct} {i:Nat} {w:Str} (hw:(zzy4 l)[i]? = some w):firR l (i+1)=unR (firR l i) (zm3u l w):=by
 unfold firR
 rw [List.take_add_one,hw,← zu06]
 congr 1
 simp [ztt8]
theorem zapt {l:List Fct} (h:RfOK l) (i:Nat):(firR l i).l.length≤100000:=by
 have h1:=zkr7 h ((zzy4 l).take i)
 have h2:=zmvi l
 have h3:((zzy4 l).take i).length≤100:=by rw [List.length_take]; have:=h.n; omega
 unfold firR
 rw [zptr _ _ (by simp [zb11]; omega)]
 have:=z8bn (nilS:Sl Dg).l (ztt8 l ((zzy4 l).take i))
 simp only [zb11,List.length_nil] at this ⊢
 omega
theorem zke1 {l:List Fct} (h:RfOK l) (i:Nat):(firR l i).l=dgsU (ztt8 l ((zzy4 l).take i)):=by
 have h1:=zkr7 h ((zzy4 l).take i)
 have h2:=zmvi l
 have h3:((zzy4 l).take i).length≤100:=by rw [List.length_take]; have:=h.n; omega
 unfold firR
 rw [zptr _ _ (by simp [zb11]; omega)]
 rfl
noncomputable def T744:Tbl:=addT 115 (.pure cOwR) (addT 86 (.pure cUnR) tbl0)
theorem z7i3:T744 115 = .pure cOwR:=by simp [T744]
theorem z7f9:T744 86 = .pure cUnR:=by simp [T744]
theorem zwdi:T744.Sound P:=z0rp zvs4 (z0rp zuhn zr5o)
def S744 (x:Sl Fct) (n:Int) (i:Nat):St:=zabz (x.dv 71 faC) (.int .i64 n) ((firR x.l i).dv 32 dgC) ((ownR x.l).dv 1 stC) (.int .i64 i) []
def S745 (x:Sl Fct) (n:Int) (i k:Nat):St:=zmkv (x.dv 71 faC) (.int .i64 n) ((firR x.l i).dv 32 dgC) ((ownR x.l).dv 1 stC) (.int .i64 i) (.int .i64 k) []
theorem zhxf {α:Type} {p:α→Bool} : ∀ {l:List α} {k:Nat} (hk:k<l.length),p l[k]=true→(∀ j (h:j<l.length),j<k→p l[j]=false)→l.find? p=some l[k]
 | a::l,0,_,h,_=>by simp at h; simp [List.find?_cons,h]
 | a::l,k+1,hk,h,h2=>by
  have ha:p a=false:=h2 0 (by simp) (by omega)
  have ih:=zhxf (p:=p) (l:=l) (k:=k) (by simpa using hk) (by simpa using h) fun j hj hjk=>by
   have:=h2 (j+1) (by simp; omega) (by omega)
   simpa using this
  simp [List.find?_cons,ha,ih]
theorem z2fd (x:Sl Fct) (n:Int) (ok:RfOK x.l):Runs T744 a116 [x.dv 71 faC,.int .i64 n] ((firR x.l n.toNat).dv 32 dgC):=by
 refine ⟨?_⟩
 have hxn:=ok.n
 have hol:=zsec (l:=x.l) (by omega)
 have hob:=zmvi x.l
 have ho:=zoki (x:=x) (by omega)
 have hz:firR x.l 0=nilS:=by simp [firR,ztt8,unR]
 simp (disch:=first|omega|simp<;>omega|fail) [-zA,-zB,-zC,-zD,-zE,a116,z7i3,ho]
 refine zlm5 (S744 x n) (fun i=>(zzy4 x.l).length-i) (fun i=>i≤(zzy4 x.l).length∧i≤n.toNat) 0 (z515 (by simp (disch:=first|omega|simp<;>omega|fail) [-zA,-zB,-zC,-zD,-zE,S744,zabz,hz,z68u]) (by simp (disch:=first|omega|simp<;>omega|fail) [-zA,-zB,-zC,-zD,-zE,S744,zabz])) ⟨by omega,by omega⟩ (fun i hi => ?_)
 obtain ⟨hi1,hi2⟩:=hi
 simp only [S744]
 have hlN : ∀ H,lenD H ((ownR x.l).dv 1 stC)=some (.int .i64 (zzy4 x.l).length):=fun H=>by rw [zupj,hol]
 by_cases h:i<(zzy4 x.l).length
 ·have h':(i:Int)<(zzy4 x.l).length:=by omega
  by_cases g:(i:Int)<n
  ·obtain ⟨w,hw⟩ : ∃ w,(zzy4 x.l)[i]=w:=⟨_,rfl⟩
   have hw':(zzy4 x.l)[i]? = some w:=by rw [List.getElem?_eq_getElem h,hw]
   have hgN : ∀ H,zpsc H 1 ((ownR x.l).dv 1 stC) i=some (.ref [.str w]):=fun H=>by
    rw [zalo (x:=ownR x.l) (i:=i) zqv6 (by rw [hol]; exact h)]
    simp only [hol,hw]; rfl
   have hsu:=zi54 hw'
   have hfl:=zapt ok i
   simp (disch:=first|omega|simp<;>omega|fail) [-zA,-zB,-zC,-zD,-zE,z04p,zabz,h,h',g,hlN]
   refine zlm5 (S745 x n i) (fun k=>x.l.length-k) (fun k=>k≤x.l.length ∧ ∀ j (hj:j<x.l.length),j<k→¬ x.l[j].own=w) 0 (z515 (by simp (disch:=first|omega|simp<;>omega|fail) [-zA,-zB,-zC,-zD,-zE,S745,zmkv]) (by simp (disch:=first|omega|simp<;>omega|fail) [-zA,-zB,-zC,-zD,-zE,S745,zmkv])) ⟨by omega,fun j _ hj=>by omega⟩ (fun k hk => ?_)
   obtain ⟨hk1,hk2⟩:=hk
   simp only [S745]
   by_cases c:k<x.l.length
   ·have c':(k:Int)<x.l.length:=by omega
    have hg : ∀ H,zpsc H 71 (x.dv 71 faC) k=some (.ref (faC x.l[k])):=fun H=>zalo zs77 c
    by_cases e:x.l[k].own=w
    ·have hfd:zm3u x.l w=x.l[k].docs.l:=by
      unfold zm3u
      rw [zhxf (p:=fun f:Fct=>decide (f.own=w)) c (by simpa using e) (fun j hj hjk=>by simpa using hk2 j hj hjk)]
     have hd:=ok.d x.l[k] (List.getElem_mem c)
     have hu:=zsy2 (x:=firR x.l i) (y:=x.l[k].docs) (by unfold UnOK; omega)
     rw [← hfd,← hsu] at hu
     obtain ⟨f,hf⟩ : ∃ f,x.l[k]=f:=⟨_,rfl⟩
     rw [hf] at hg hu e
     simp (disch:=first|omega|simp<;>omega|fail) [-zA,-zB,-zC,-zD,-zE,zcri,zmkv,c,c',hg,hgN,e,z7f9,hu]
     exact ⟨i+1,z515 (by simp (disch:=first|omega|simp<;>omega|fail) [-zA,-zB,-zC,-zD,-zE,S744,zabz]) (by simp (disch:=first|omega|simp<;>omega|fail) [-zA,-zB,-zC,-zD,-zE,S744,zabz]),by omega,by omega,by omega⟩
    ·obtain ⟨f,hf⟩ : ∃ f,x.l[k]=f:=⟨_,rfl⟩
     have hinv : ∀ j (hj:j<x.l.length),j<k+1→¬ x.l[j].own=w:=fun j hj hjk=>by
      by_cases ej:j=k
      ·subst ej; exact e
      ·exact hk2 j hj (by omega)
     rw [hf] at hg e
     simp (disch:=first|omega|simp<;>omega|fail) [-zA,-zB,-zC,-zD,-zE,zcri,zmkv,c,c',hg,hgN,e]
     exact ⟨k+1,z515 (by simp (disch:=first|omega|simp<;>omega|fail) [-zA,-zB,-zC,-zD,-zE,S745,zmkv]) (by simp (disch:=first|omega|simp<;>omega|fail) [-zA,-zB,-zC,-zD,-zE,S745,zmkv]),by omega,by omega,hinv⟩
   ·have c':¬ (k:Int)<x.l.length:=by omega
    have hfd:zm3u x.l w=[]:=by
     unfold zm3u
     rw [List.find?_eq_none.2 fun f hf=>by
      obtain ⟨j,hj,e⟩:=List.getElem_of_mem hf
      have:=hk2 j hj (by omega)
      rw [e] at this; simpa using this]
    rw [hfd] at hsu
    have hsu:firR x.l (i+1)=firR x.l i:=hsu
    simp (disch:=first|omega|simp<;>omega|fail) [-zA,-zB,-zC,-zD,-zE,zcri,zmkv,c,c']
    exact ⟨i+1,z515 (by simp (disch:=first|omega|simp<;>omega|fail) [-zA,-zB,-zC,-zD,-zE,S744,zabz,hsu]) (by simp (disch:=first|omega|simp<;>omega|fail) [-zA,-zB,-zC,-zD,-zE,S744,zabz]),by omega,by omega,by omega⟩
  ·rw [show n.toNat=i by omega]
   simp (disch:=first|omega|simp<;>omega|fail) [-zA,-zB,-zC,-zD,-zE,z04p,zabz,h,h',g,hlN]
 ·have h':¬ (i:Int)<(zzy4 x.l).length:=by omega
  have he:firR x.l i=firR x.l n.toNat:=by
   unfold firR
   rw [List.take_of_length_le (by omega),List.take_of_length_le (by omega)]
  rw [he]
  simp (disch:=first|omega|simp<;>omega|fail) [-zA,-zB,-zC,-zD,-zE,z04p,zabz,h,h',hlN]
noncomputable def cFiR:List DV→Option DV:=con (fun a:Sl Fct × Int=>RfOK a.1.l) (fun a=>[a.1.dv 71 faC,.int .i64 a.2]) (fun a=>(firR a.1.l a.2.toNat).dv 32 dgC)
theorem zllh {x:Sl Fct} {n:Int} (h:RfOK x.l):cFiR [x.dv 71 faC,.int .i64 n]=some ((firR x.l n.toNat).dv 32 dgC) :=
 zlyi (A:=fun a:Sl Fct × Int=>RfOK a.1.l) (f:=fun a:Sl Fct × Int=>[a.1.dv 71 faC,.int .i64 a.2]) (g:=fun a=>(firR a.1.l a.2.toNat).dv 32 dgC) (by
  rintro ⟨a,b⟩ ⟨c,d⟩ e
  simp only [List.cons.injEq,DV.int.injEq,and_true,true_and] at e
  rw [z4rf e.1,e.2]) (x,n) h
theorem z04f:(Con.pure cFiR).Sound P 116:=z2au fun a h=>zljw mix zwdi Tryz.func116 z3rp (z2fd a.1 a.2 h)
theorem ze83 {m:Int}:zvnk [.bool false,.nils,.int .i64 0] [(2,1,.int .i64 m)]=some (.agg (suC (zcc9 m))):=rfl
theorem zz4a {x:Sl Dg}:zvnk [.bool false,.nils,.int .i64 0] [(0,1,.bool true),(1,1,x.dv 32 dgC)]=some (.agg (suC ⟨true,x,0⟩)):=by
 obtain ⟨k,l,h,hb⟩:=x
 cases k<;>rfl
theorem z559 {s:Sup} {h:List AObj} {id:Nat}:zy6o h id 3 0 (.agg (suC s)) (some [.bool false,.nils,.int .i64 0])=some (.junk,h.set id (.cells (suC s))):=z1dg rfl
def z0l6 (l:List Fct) (n:Int):Sup:=if ((zzy4 l).length:Int)<n then zcc9 (n-(zzy4 l).length) else ⟨true,firR l n.toNat,0⟩
def zods (l:List Fct):Sup:=match l with
 | []=>zcc9 1
 | f::_=>⟨true,unR nilS f.docs.l,0⟩
noncomputable def T746:Tbl:=addT 115 (.pure cOwR) (addT 86 (.pure cUnR) (addT 116 (.pure cFiR) tbl0))
theorem z28w:T746 115 = .pure cOwR:=by simp [T746]
theorem zjc9:T746 86 = .pure cUnR:=by simp [T746]
theorem z578:T746 116 = .pure cFiR:=by simp [T746]
theorem zjnl:T746.Sound P:=z0rp zvs4 (z0rp zuhn (z0rp z04f zr5o))
theorem z8xk (x:Sl Fct) (n:Int) (ok:RfOK x.l) (hn : -1000000≤n∧n≤4611686018427387904):Runs T746 a82 [x.dv 71 faC,.int .i64 n] (.agg (suC (z0l6 x.l n))):=by
 refine ⟨?_⟩
 have hxn:=ok.n
 have hol:=zsec (l:=x.l) (by omega)
 have hob:=zmvi x.l
 have ho:=zoki (x:=x) (by omega)
 have hf:=zllh (x:=x) (n:=n) ok
 have hlN : ∀ H,lenD H ((ownR x.l).dv 1 stC)=some (.int .i64 (zzy4 x.l).length):=fun H=>by rw [zupj,hol]
 obtain ⟨m,hm⟩ : ∃ m,(zzy4 x.l).length=m:=⟨_,rfl⟩
 rw [hm] at hlN hob
 by_cases h:(m:Int)<n
 ·have hr:z0l6 x.l n=zcc9 (n-m):=by unfold z0l6; rw [hm,if_pos h]
  have hw:IntKind.i64.wrap (n-m)=n-m:=by rw [IntKind.wrap_i64]; omega
  rw [hr]
  simp (disch:=first|omega|simp<;>omega|fail) [-zA,-zB,-zC,-zD,-zE,a82,z28w,ho,hlN,h,hw,ze83,z559]
 ·have hr:z0l6 x.l n=⟨true,firR x.l n.toNat,0⟩:=by unfold z0l6; rw [hm,if_neg h]
  rw [hr]
  simp (disch:=first|omega|simp<;>omega|fail) [-zA,-zB,-zC,-zD,-zE,a82,z28w,z578,ho,hf,hlN,h,zz4a,z559]
noncomputable def cEnR:List DV→Option DV:=con (fun a:Sl Fct × Int=>RfOK a.1.l ∧ -1000000≤a.2∧a.2≤4611686018427387904) (fun a=>[a.1.dv 71 faC,.int .i64 a.2]) (fun a => .agg (suC (z0l6 a.1.l a.2)))
theorem zdqm {x:Sl Fct} {n:Int} (h:RfOK x.l) (h1 : -1000000≤n) (h2:n≤4611686018427387904):cEnR [x.dv 71 faC,.int .i64 n]=some (.agg (suC (z0l6 x.l n))) :=
 zlyi (A:=fun a:Sl Fct × Int=>RfOK a.1.l ∧ -1000000≤a.2∧a.2≤4611686018427387904) (f:=fun a:Sl Fct × Int=>[a.1.dv 71 faC,.int .i64 a.2]) (g:=fun a => .agg (suC (z0l6 a.1.l a.2))) (by
  rintro ⟨a,b⟩ ⟨c,d⟩ e
  simp only [List.cons.injEq,DV.int.injEq,and_true,true_and] at e
  rw [z4rf e.1,e.2]) (x,n) ⟨h,h1,h2⟩
theorem z2rm:(Con.pure cEnR).Sound P 82:=z2au fun a h=>zljw mix zjnl Tryz.func82 zftu (z8xk a.1 a.2 h.1 h.2)
theorem zh1j (x:Sl Fct) (ok:RfOK x.l):Runs T746 a85 [x.dv 71 faC] (.agg (suC (zods x.l))):=by
 refine ⟨?_⟩
 cases e:x.l with
 | nil =>
  have hl : ∀ H,lenD H (x.dv 71 faC)=some (.int .i64 0):=fun H=>by rw [zupj,e]; rfl
  simp (disch:=first|omega|simp<;>omega|fail) [-zA,-zB,-zC,-zD,-zE,a85,hl,zods,ze83,z559]
 | cons f r =>
  have hl : ∀ H,lenD H (x.dv 71 faC)=some (.int .i64 (r.length+1)):=fun H=>by rw [zupj,e]; simp
  have h0:0<x.l.length:=by rw [e]; simp
  have hg : ∀ H,zpsc H 71 (x.dv 71 faC) ((0:Nat):Int)=some (.ref (faC x.l[0])):=fun H=>zalo zs77 h0
  have hf:x.l[0]=f:=by simp [e]
  rw [hf] at hg
  have hg : ∀ H,zpsc H 71 (x.dv 71 faC) 0=some (.ref (faC f)):=hg
  have hd:=ok.d f (by rw [e]; simp)
  have hu:=zsy2 (x:=nilS) (y:=f.docs) (by unfold UnOK; simp [zb11]; omega)
  rw [z68u] at hu
  have hne:¬ (r.length:Int)+1=0:=by omega
  simp (disch:=first|omega|simp<;>omega|fail) [-zA,-zB,-zC,-zD,-zE,a85,hl,hne,hg,zjc9,hu,zods,zz4a,z559]
noncomputable def cSoR:List DV→Option DV:=con (fun x:Sl Fct=>RfOK x.l) (fun x=>[x.dv 71 faC]) (fun x => .agg (suC (zods x.l)))
theorem z780 {x:Sl Fct} (h:RfOK x.l):cSoR [x.dv 71 faC]=some (.agg (suC (zods x.l))) :=
 zlyi (A:=fun x:Sl Fct=>RfOK x.l) (f:=fun x:Sl Fct=>[x.dv 71 faC]) (g:=fun x => .agg (suC (zods x.l))) (fun a b e=>by simp only [List.cons.injEq,and_true] at e; rw [z4rf e]) x h
theorem z1cp:(Con.pure cSoR).Sound P 85:=z2au fun x h=>zljw mix zjnl Tryz.func85 zu0j (zh1j x h)
end Go.Proofs.YtdnhbfmlklaldaaGreat
set_option linter.unusedSimpArgs false
set_option linter.unusedVariables false
namespace Go.Proofs.YtdnhbfmlklaldaaGreat
open Go Go.Am
def difR (l:List Fct):Sl Str:=ownR (l.filter fun f => !f.agr)
theorem zlsy {l:List Fct} (h:l.length≤1000000):(difR l).l=zqgg l:=by
 have:=List.length_filter_le (fun f:Fct => !f.agr) l
 rw [difR,zsec (by omega)]; rfl
def S750 (x:Sl Fct) (i:Nat):St:=zj5j (x.dv 71 faC) ((difR (x.l.take i)).dv 1 stC) (.int .i64 i) []
theorem zjy5 (x:Sl Fct) (hn:x.l.length≤1000000):Runs T742 a117 [x.dv 71 faC] ((difR x.l).dv 1 stC):=by
 refine ⟨?_⟩
 simp (disch:=first|omega|simp<;>omega|fail) [-zA,-zB,-zC,-zD,-zE,a117]
 refine zlm5 (S750 x) (fun i=>x.l.length-i) (fun i=>i≤x.l.length) 0 (z515 (by simp (disch:=first|omega|simp<;>omega|fail) [-zA,-zB,-zC,-zD,-zE,S750,zj5j,difR,ownR,z68u]) (by simp (disch:=first|omega|simp<;>omega|fail) [-zA,-zB,-zC,-zD,-zE,S750,zj5j])) (by omega) (fun i hi => ?_)
 simp only [S750]
 by_cases h:i<x.l.length
 ·have h':(i:Int)<x.l.length:=by omega
  have hg : ∀ H,zpsc H 71 (x.dv 71 faC) i=some (.ref (faC x.l[i])):=fun H=>zalo zs77 h
  obtain ⟨f,hf⟩ : ∃ f,x.l[i]=f:=⟨_,rfl⟩
  have ht:x.l.take (i+1)=x.l.take i++[f]:=by rw [List.take_succ_eq_append_getElem h,hf]
  rw [hf] at hg
  cases ha:f.agr with
  | true =>
   have hs:difR (x.l.take (i+1))=difR (x.l.take i):=by rw [ht]; unfold difR; rw [List.filter_append]; simp [List.filter,ha]
   simp (disch:=first|omega|simp<;>omega|fail) [-zA,-zB,-zC,-zD,-zE,zdve,zj5j,h,h',hg,ha]
   exact ⟨i+1,z515 (by simp (disch:=first|omega|simp<;>omega|fail) [-zA,-zB,-zC,-zD,-zE,S750,zj5j,hs]) (by simp (disch:=first|omega|simp<;>omega|fail) [-zA,-zB,-zC,-zD,-zE,S750,zj5j]),by omega,by omega⟩
  | false =>
   have hs:difR (x.l.take (i+1))=addN (difR (x.l.take i)) f.own:=by rw [ht]; unfold difR; rw [List.filter_append,← zy8e]; simp [List.filter,ha]
   have hb:(difR (x.l.take i)).l.length≤1000000:=by
    rw [zlsy (by rw [List.length_take]; omega)]
    have:=zmvi ((x.l.take i).filter fun f => !f.agr)
    have h2:=List.length_filter_le (fun f:Fct => !f.agr) (x.l.take i)
    rw [List.length_take] at h2
    unfold zqgg; omega
   have hc:=zs7i (x:=difR (x.l.take i)) (d:=f.own) hb
   rw [← hs] at hc
   obtain ⟨A,hA⟩ : ∃ A,difR (x.l.take i)=A:=⟨_,rfl⟩
   rw [hA] at hc ⊢
   simp (disch:=first|omega|simp<;>omega|fail) [-zA,-zB,-zC,-zD,-zE,zdve,zj5j,h,h',hg,ha,zs9s,hc]
   exact ⟨i+1,z515 (by simp (disch:=first|omega|simp<;>omega|fail) [-zA,-zB,-zC,-zD,-zE,S750,zj5j]) (by simp (disch:=first|omega|simp<;>omega|fail) [-zA,-zB,-zC,-zD,-zE,S750,zj5j]),by omega,by omega⟩
 ·have h':¬ (i:Int)<x.l.length:=by omega
  rw [List.take_of_length_le (show x.l.length≤i by omega)]
  simp (disch:=first|omega|simp<;>omega|fail) [-zA,-zB,-zC,-zD,-zE,zdve,zj5j,h,h']
noncomputable def cDiR:List DV→Option DV:=con (fun x:Sl Fct=>x.l.length≤1000000) (fun x=>[x.dv 71 faC]) (fun x=>(difR x.l).dv 1 stC)
theorem z4bz {x:Sl Fct} (h:x.l.length≤1000000):cDiR [x.dv 71 faC]=some ((difR x.l).dv 1 stC) :=
 zlyi (A:=fun x:Sl Fct=>x.l.length≤1000000) (f:=fun x:Sl Fct=>[x.dv 71 faC]) (g:=fun x=>(difR x.l).dv 1 stC) (fun a b e=>by simp only [List.cons.injEq,and_true] at e; rw [z4rf e]) x h
theorem zt5w:(Con.pure cDiR).Sound P 117:=z2au fun x h=>zljw mix zxn8 Tryz.func117 zt1q (zjy5 x h)
theorem z5eg (f:Fct):Runs tbl0 a31 [.agg (faC f)] (.agg (orC (z5z5 f))):=by
 refine ⟨?_⟩
 have hor:dgC f.rev++[.str f.lay,.str f.run]=orC (z5z5 f):=rfl
 simp (disch:=first|omega|simp<;>omega|fail) [-zA,-zB,-zC,-zD,-zE,a31,hor]
theorem z0js:(Con.pure cOr).Sound P 31:=z2au fun f _=>zljw mix zr5o Tryz.func31 zjer (z5eg f)
theorem zs8z (t:Int):Runs tbl0 a80 [.int .i64 t] (.bool (tmB t)):=by
 refine ⟨?_⟩
 by_cases h0:0≤t
 ·by_cases h1:t≤1099511627776
  ·simp (disch:=first|omega|simp<;>omega|fail) [-zA,-zB,-zC,-zD,-zE,a80,h0,h1,tmB]
  ·simp (disch:=first|omega|simp<;>omega|fail) [-zA,-zB,-zC,-zD,-zE,a80,h0,h1,tmB]
 ·simp (disch:=first|omega|simp<;>omega|fail) [-zA,-zB,-zC,-zD,-zE,a80,h0,tmB]
theorem ztmd:(Con.pure cTm).Sound P 80:=by
 intro args v e
 unfold cTm at e
 split at e
 ·simp at e; subst e; exact zljw mix zr5o Tryz.func80 zpfu (zs8z _)
 ·simp at e
theorem zaa8 {t:Int} (h:tmB t=true):0≤t∧t≤1099511627776:=by simpa [tmB] using h
def kqR (q:Req):Int:=if q.kind=1 then 1 else if q.kind=2 then 2 else if q.kind=3 then 3 else if q.kind=4 then 4 else if q.kind=7 then 1 else 5
def sqR (c:Cas) (o:Org) (q:Req):Sel:=if q.kind=1 then .same o else if q.kind=2 then .chained o q else if q.kind=3 then .source o else if q.kind=4 then .source o else if q.kind=7 then .fresh o c q else .every
def fitR (c:Cas) (o:Org) (q:Req) (f:Fct):Bool:=decide (f.kind=kqR q)&&(sqR c o q).p f
def zgw4 (c:Cas) (o:Org) (q:Req) (l:List Fct):List Fct:=l.filter (fitR c o q)
theorem zh6v {c:Cas} {o:Org} {q:Req} {l:List Fct} {f:Fct}:zgw4 c o q (l++[f])=zgw4 c o q l++(if fitR c o q f then [f] else []):=by
 unfold zgw4
 rw [List.filter_append]
 congr 1
 cases h:fitR c o q f<;>simp [List.filter,h]
noncomputable def T751:Tbl:=addT 31 (.pure cOr) (addT 80 (.pure cTm) tbl0)
theorem zygr:T751 31 = .pure cOr:=by simp [T751]
theorem z1r7:T751 80 = .pure cTm:=by simp [T751]
theorem zwts:T751.Sound P:=z0rp z0js (z0rp ztmd zr5o)
def pV (L:List Fct):DV:=if L=[] then .nils else .ms 3 (L.length*71) 0 71 L.length (L.length*71)
def pT (L:List Fct):List AObj:=if L=[] then [] else [.cells (fl faC L)]
theorem zwde {L:List Fct} (h:L≠[]):pV L = .ms 3 (L.length*71) 0 71 L.length (L.length*71):=if_neg h
theorem zt94 {L:List Fct} (h:L≠[]):pT L=[.cells (fl faC L)]:=by rw [pT,if_neg h]
def S751 (c:Cas) (o:Org) (q:Req) (i:Nat):St:=zihg (.mp 0 36 0) (.mp 1 34 0) (.mp 2 4 0) (pV (zgw4 c o q (c.f.l.take i))) (.int .i64 i) (.cells (caC c) :: .cells (orC o) :: .cells (rqC q)::pT (zgw4 c o q (c.f.l.take i)))
theorem zw6t {x:Fct}:bslD 71 1 [.int .i64 0,.str [],w8 0#8,w8 0#8,w8 0#8,w8 0#8,w8 0#8,w8 0#8,w8 0#8,w8 0#8,w8 0#8,w8 0#8,w8 0#8,w8 0#8,w8 0#8,w8 0#8,w8 0#8,w8 0#8,w8 0#8,w8 0#8,w8 0#8,w8 0#8,w8 0#8,w8 0#8,w8 0#8,w8 0#8,w8 0#8,w8 0#8,w8 0#8,w8 0#8,w8 0#8,w8 0#8,w8 0#8,w8 0#8,.str [],.str [],.int .i64 0,.bool false,w8 0#8,w8 0#8,w8 0#8,w8 0#8,w8 0#8,w8 0#8,w8 0#8,w8 0#8,w8 0#8,w8 0#8,w8 0#8,w8 0#8,w8 0#8,w8 0#8,w8 0#8,w8 0#8,w8 0#8,w8 0#8,w8 0#8,w8 0#8,w8 0#8,w8 0#8,w8 0#8,w8 0#8,w8 0#8,w8 0#8,w8 0#8,w8 0#8,w8 0#8,w8 0#8,w8 0#8,w8 0#8,.nils] [(0,71,.agg (faC x))]=some (.sl true 71 1 (faC x)):=by
 have h1:=zs77 x
 simp [bslD,zi03,zk7y,reps,h1,List.drop_of_length_le]
def PkT:ACode:=match z9us with
 | .seq _ (.seq (.block _ (.seq _ (.seq _ (.seq _ y)))) _)=>y
 | _ => .skip
def PkR:ACode:=match z9us with
 | .seq _ (.seq _ y)=>y
 | _ => .skip
def PkS (c:Cas) (o:Org) (q:Req) (L:List Fct) (i:Nat) (F:Fct) (b:Bool):St:=⟨[.junk,.junk,.junk,.mp 0 36 0,.mp 1 34 0,.mp 2 4 0,.junk,pV L,.int .i64 i,.ref (faC F),.bool b]++js 114,.cells (caC c) :: .cells (orC o) :: .cells (rqC q)::pT L⟩
theorem zxen {c:Cas} {o:Org} {q:Req} {L:List Fct} {i:Nat} {F:Fct} {b:Bool} (hn:c.f.l.length≤1000000) (hl:L.length≤i) (hi:i<c.f.l.length)
  (hs:zgw4 c o q (c.f.l.take (i+1))=L++(if b then [F] else [])) {Φ0:AExit→St→Prop} :
  V P 0 PkT (z0mx 1 (z2pk P 0 PkR (z13e 0 (S751 c o q) (fun i=>c.f.l.length-i) (fun i=>i≤c.f.l.length) i Φ0))) (PkS c o q L i F b):=by
 have hvF : ∀ H,visY H (.sl true 71 1 (faC F))=some (1,faC F):=fun H=>by simp [visY,zs77]
 simp only [PkT,PkR,z9us,PkS]
 refine zbn1 (V_W mix zwts ?_)
 simp (disch:=first|omega|simp<;>omega|fail) [-zA,-zB,-zC,-zD,-zE]
 refine V_W mix zwts ?_
 cases b with
 | false =>
  have hs:zgw4 c o q (c.f.l.take (i+1))=L:=by rw [hs]; simp
  simp (disch:=first|omega|simp<;>omega|fail) [-zA,-zB,-zC,-zD,-zE]
  refine V_W mix zwts ?_
  simp (disch:=first|omega|simp<;>omega|fail) [-zA,-zB,-zC,-zD,-zE]
  exact ⟨i+1,z515 (by simp (disch:=first|omega|simp<;>omega|fail) [-zA,-zB,-zC,-zD,-zE,S751,zihg,hs]) (by simp (disch:=first|omega|simp<;>omega|fail) [-zA,-zB,-zC,-zD,-zE,S751,zihg,hs]),by omega,by omega⟩
 | true =>
  have hs:zgw4 c o q (c.f.l.take (i+1))=L++[F]:=by rw [hs]; rfl
  have e1:=zwde (L:=L++[F]) (by simp)
  have e2:=zt94 (L:=L++[F]) (by simp)
  rw [List.length_append,List.length_singleton] at e1
  by_cases e:L=[]
  ·subst e
   have hap:=zsuq (h:=[AObj.cells (caC c),.cells (orC o),.cells (rqC q)]) (s:=71) (b:=160) (m:=1) (cs:=faC F) (by decide) (by decide) (by rw [zs77]) (by decide) (by decide)
   simp only [zs77,List.length_cons,List.length_nil,Nat.zero_add] at hap
   have hs:zgw4 c o q (c.f.l.take (i+1))=[F]:=hs
   have q1:pV [] = .nils:=rfl
   have q2:pT []=[]:=rfl
   have e1:pV [F] = .ms 3 71 0 71 1 71:=rfl
   have e2:pT [F]=[.cells (faC F)]:=by rw [zt94 (by simp),z4hs]
   simp (disch:=first|omega|simp<;>omega|fail) [-zA,-zB,-zC,-zD,-zE,q1,q2,zw6t,hvF,hap]
   refine V_W mix zwts ?_
   simp (disch:=first|omega|simp<;>omega|fail) [-zA,-zB,-zC,-zD,-zE]
   exact ⟨i+1,z515 (by simp (disch:=first|omega|simp<;>omega|fail) [-zA,-zB,-zC,-zD,-zE,S751,zihg,hs,e1]) (by simp (disch:=first|omega|simp<;>omega|fail) [-zA,-zB,-zC,-zD,-zE,S751,zihg,hs,e2]),by omega,by omega⟩
  ·have q1:=zwde e
   have q2:=zt94 e
   have hap:=zkg3 (h:=[AObj.cells (caC c),.cells (orC o),.cells (rqC q),.cells (fl faC L)]) (id:=3) (b:=160) (l:=L) (x:=F) zs77 (by decide) (by decide) (fun _=>zfgo) (by omega) (by simp [objV,ziu0,z8lx zs77])
   simp (disch:=first|omega|simp<;>omega|fail) [-zA,-zB,-zC,-zD,-zE,q1,q2,zw6t,hvF,hap]
   refine V_W mix zwts ?_
   simp (disch:=first|omega|simp<;>omega|fail) [-zA,-zB,-zC,-zD,-zE]
   exact ⟨i+1,z515 (by simp (disch:=first|omega|simp<;>omega|fail) [-zA,-zB,-zC,-zD,-zE,S751,zihg,hs,e1]) (by simp (disch:=first|omega|simp<;>omega|fail) [-zA,-zB,-zC,-zD,-zE,S751,zihg,hs,e2]),by omega,by omega⟩
def PkT0:ACode:=match z9us with
 | .seq _ (.seq (.block _ (.seq _ y)) _)=>y
 | _ => .skip
theorem z2yl {c:Cas} {o:Org} {q:Req} {L:List Fct} {i:Nat} {F:Fct} (hn:c.f.l.length≤1000000) (hl:L.length≤i) (hi:i<c.f.l.length)
  (hs:zgw4 c o q (c.f.l.take (i+1))=L++(if fitR c o q F then [F] else [])) {Φ0:AExit→St→Prop} :
  V P 0 PkT0 (z0mx 1 (z2pk P 0 PkR (z13e 0 (S751 c o q) (fun i=>c.f.l.length-i) (fun i=>i≤c.f.l.length) i Φ0)))
   ⟨[.junk,.junk,.junk,.mp 0 36 0,.mp 1 34 0,.mp 2 4 0,.junk,pV L,.int .i64 i,.ref (faC F)]++js 115,.cells (caC c) :: .cells (orC o) :: .cells (rqC q)::pT L⟩:=by
 have ho:=z68y (f:=F)
 have tail:=fun b (hb:fitR c o q F=b)=>zxen (Φ0:=Φ0) (F:=F) (b:=b) hn hl hi (by rw [hs,hb])
 simp only [PkT0,z9us]
 refine zbn1 (V_W mix zwts ?_)
 simp (disch:=first|omega|simp<;>omega|fail) [-zA,-zB,-zC,-zD,-zE]
 refine zbn1 (V_W mix zwts ?_)
 by_cases k1:q.kind=1
 ·by_cases g1:F.kind=1
  ·by_cases g2:z5z5 F=o
   ·have hf:fitR c o q F=true:=by simp [fitR,kqR,sqR,Sel.p,k1,g1,g2]
    simp (disch:=first|omega|simp<;>omega|fail) [-zA,-zB,-zC,-zD,-zE,zygr,z1r7,ho,zixp,k1,g1,g2]
    exact zqfd (z515 (by simp (disch:=first|omega|simp<;>omega|fail) [-zA,-zB,-zC,-zD,-zE,PkS]) (by simp (disch:=first|omega|simp<;>omega|fail) [-zA,-zB,-zC,-zD,-zE,PkS])) (tail true hf)
   ·have hf:fitR c o q F=false:=by simp [fitR,kqR,sqR,Sel.p,k1,g1,g2]
    simp (disch:=first|omega|simp<;>omega|fail) [-zA,-zB,-zC,-zD,-zE,zygr,z1r7,ho,zixp,k1,g1,g2]
    exact zqfd (z515 (by simp (disch:=first|omega|simp<;>omega|fail) [-zA,-zB,-zC,-zD,-zE,PkS]) (by simp (disch:=first|omega|simp<;>omega|fail) [-zA,-zB,-zC,-zD,-zE,PkS])) (tail false hf)
  ·have hf:fitR c o q F=false:=by simp [fitR,kqR,sqR,Sel.p,k1,g1]
   simp (disch:=first|omega|simp<;>omega|fail) [-zA,-zB,-zC,-zD,-zE,zygr,z1r7,ho,zixp,k1,g1]
   exact zqfd (z515 (by simp (disch:=first|omega|simp<;>omega|fail) [-zA,-zB,-zC,-zD,-zE,PkS]) (by simp (disch:=first|omega|simp<;>omega|fail) [-zA,-zB,-zC,-zD,-zE,PkS])) (tail false hf)
 by_cases k2:q.kind=2
 ·by_cases g1:F.kind=2
  ·by_cases g2:z5z5 F=o
   ·by_cases g3:F.lay=q.text
    ·have hf:fitR c o q F=true:=by simp [fitR,kqR,sqR,Sel.p,k1,k2,g1,g2,g3]
     simp (disch:=first|omega|simp<;>omega|fail) [-zA,-zB,-zC,-zD,-zE,zygr,z1r7,ho,zixp,k1,k2,g1,g2,g3]
     exact zqfd (z515 (by simp (disch:=first|omega|simp<;>omega|fail) [-zA,-zB,-zC,-zD,-zE,PkS]) (by simp (disch:=first|omega|simp<;>omega|fail) [-zA,-zB,-zC,-zD,-zE,PkS])) (tail true hf)
    ·have hf:fitR c o q F=false:=by simp [fitR,kqR,sqR,Sel.p,k1,k2,g1,g2,g3]
     simp (disch:=first|omega|simp<;>omega|fail) [-zA,-zB,-zC,-zD,-zE,zygr,z1r7,ho,zixp,k1,k2,g1,g2,g3]
     exact zqfd (z515 (by simp (disch:=first|omega|simp<;>omega|fail) [-zA,-zB,-zC,-zD,-zE,PkS]) (by simp (disch:=first|omega|simp<;>omega|fail) [-zA,-zB,-zC,-zD,-zE,PkS])) (tail false hf)
   ·have hf:fitR c o q F=false:=by simp [fitR,kqR,sqR,Sel.p,k1,k2,g1,g2]
    simp (disch:=first|omega|simp<;>omega|fail) [-zA,-zB,-zC,-zD,-zE,zygr,z1r7,ho,zixp,k1,k2,g1,g2]
    exact zqfd (z515 (by simp (disch:=first|omega|simp<;>omega|fail) [-zA,-zB,-zC,-zD,-zE,PkS]) (by simp (disch:=first|omega|simp<;>omega|fail) [-zA,-zB,-zC,-zD,-zE,PkS])) (tail false hf)
  ·have hf:fitR c o q F=false:=by simp [fitR,kqR,sqR,Sel.p,k1,k2,g1]
   simp (disch:=first|omega|simp<;>omega|fail) [-zA,-zB,-zC,-zD,-zE,zygr,z1r7,ho,zixp,k1,k2,g1]
   exact zqfd (z515 (by simp (disch:=first|omega|simp<;>omega|fail) [-zA,-zB,-zC,-zD,-zE,PkS]) (by simp (disch:=first|omega|simp<;>omega|fail) [-zA,-zB,-zC,-zD,-zE,PkS])) (tail false hf)
 by_cases k3:q.kind=3
 ·by_cases g1:F.kind=3
  ·by_cases g2:F.rev=o.rev
   ·have hf:fitR c o q F=true:=by simp [fitR,kqR,sqR,Sel.p,k1,k2,k3,g1,g2]
    simp (disch:=first|omega|simp<;>omega|fail) [-zA,-zB,-zC,-zD,-zE,zygr,z1r7,ho,zixp,k1,k2,k3,g1,g2]
    exact zqfd (z515 (by simp (disch:=first|omega|simp<;>omega|fail) [-zA,-zB,-zC,-zD,-zE,PkS]) (by simp (disch:=first|omega|simp<;>omega|fail) [-zA,-zB,-zC,-zD,-zE,PkS])) (tail true hf)
   ·have hf:fitR c o q F=false:=by simp [fitR,kqR,sqR,Sel.p,k1,k2,k3,g1,g2]
    simp (disch:=first|omega|simp<;>omega|fail) [-zA,-zB,-zC,-zD,-zE,zygr,z1r7,ho,zixp,k1,k2,k3,g1,g2]
    exact zqfd (z515 (by simp (disch:=first|omega|simp<;>omega|fail) [-zA,-zB,-zC,-zD,-zE,PkS]) (by simp (disch:=first|omega|simp<;>omega|fail) [-zA,-zB,-zC,-zD,-zE,PkS])) (tail false hf)
  ·have hf:fitR c o q F=false:=by simp [fitR,kqR,sqR,Sel.p,k1,k2,k3,g1]
   simp (disch:=first|omega|simp<;>omega|fail) [-zA,-zB,-zC,-zD,-zE,zygr,z1r7,ho,zixp,k1,k2,k3,g1]
   exact zqfd (z515 (by simp (disch:=first|omega|simp<;>omega|fail) [-zA,-zB,-zC,-zD,-zE,PkS]) (by simp (disch:=first|omega|simp<;>omega|fail) [-zA,-zB,-zC,-zD,-zE,PkS])) (tail false hf)
 by_cases k4:q.kind=4
 ·by_cases g1:F.kind=4
  ·by_cases g2:F.rev=o.rev
   ·have hf:fitR c o q F=true:=by simp [fitR,kqR,sqR,Sel.p,k1,k2,k3,k4,g1,g2]
    simp (disch:=first|omega|simp<;>omega|fail) [-zA,-zB,-zC,-zD,-zE,zygr,z1r7,ho,zixp,k1,k2,k3,k4,g1,g2]
    exact zqfd (z515 (by simp (disch:=first|omega|simp<;>omega|fail) [-zA,-zB,-zC,-zD,-zE,PkS]) (by simp (disch:=first|omega|simp<;>omega|fail) [-zA,-zB,-zC,-zD,-zE,PkS])) (tail true hf)
   ·have hf:fitR c o q F=false:=by simp [fitR,kqR,sqR,Sel.p,k1,k2,k3,k4,g1,g2]
    simp (disch:=first|omega|simp<;>omega|fail) [-zA,-zB,-zC,-zD,-zE,zygr,z1r7,ho,zixp,k1,k2,k3,k4,g1,g2]
    exact zqfd (z515 (by simp (disch:=first|omega|simp<;>omega|fail) [-zA,-zB,-zC,-zD,-zE,PkS]) (by simp (disch:=first|omega|simp<;>omega|fail) [-zA,-zB,-zC,-zD,-zE,PkS])) (tail false hf)
  ·have hf:fitR c o q F=false:=by simp [fitR,kqR,sqR,Sel.p,k1,k2,k3,k4,g1]
   simp (disch:=first|omega|simp<;>omega|fail) [-zA,-zB,-zC,-zD,-zE,zygr,z1r7,ho,zixp,k1,k2,k3,k4,g1]
   exact zqfd (z515 (by simp (disch:=first|omega|simp<;>omega|fail) [-zA,-zB,-zC,-zD,-zE,PkS]) (by simp (disch:=first|omega|simp<;>omega|fail) [-zA,-zB,-zC,-zD,-zE,PkS])) (tail false hf)
 by_cases k7:q.kind=7
 ·by_cases g1:F.kind=1
  ·by_cases g2:z5z5 F=o
   ·cases g3:tmB F.at_ with
    | false =>
     have hf:fitR c o q F=false:=by simp [fitR,kqR,sqR,Sel.p,k1,k2,k3,k4,k7,g1,g2,g3]
     simp (disch:=first|omega|simp<;>omega|fail) [-zA,-zB,-zC,-zD,-zE,zygr,z1r7,ho,zixp,k1,k2,k3,k4,k7,g1,g2,g3]
     exact zqfd (z515 (by simp (disch:=first|omega|simp<;>omega|fail) [-zA,-zB,-zC,-zD,-zE,PkS]) (by simp (disch:=first|omega|simp<;>omega|fail) [-zA,-zB,-zC,-zD,-zE,PkS])) (tail false hf)
    | true =>
     cases g4:tmB c.at_ with
     | false =>
      have hf:fitR c o q F=false:=by simp [fitR,kqR,sqR,Sel.p,k1,k2,k3,k4,k7,g1,g2,g3,g4]
      simp (disch:=first|omega|simp<;>omega|fail) [-zA,-zB,-zC,-zD,-zE,zygr,z1r7,ho,zixp,k1,k2,k3,k4,k7,g1,g2,g3,g4]
      exact zqfd (z515 (by simp (disch:=first|omega|simp<;>omega|fail) [-zA,-zB,-zC,-zD,-zE,PkS]) (by simp (disch:=first|omega|simp<;>omega|fail) [-zA,-zB,-zC,-zD,-zE,PkS])) (tail false hf)
     | true =>
      by_cases g5:F.at_≤c.at_
      ·have hwc:IntKind.i64.wrap (c.at_-F.at_)=c.at_-F.at_:=by
        have t1:=zaa8 g3
        have t2:=zaa8 g4
        rw [IntKind.wrap_i64]; omega
       by_cases g6:c.at_-F.at_≤q.n
       ·have hf:fitR c o q F=true:=by simp [fitR,kqR,sqR,Sel.p,k1,k2,k3,k4,k7,g1,g2,g3,g4,g5,g6]
        simp (disch:=first|omega|simp<;>omega|fail) [-zA,-zB,-zC,-zD,-zE,zygr,z1r7,ho,zixp,k1,k2,k3,k4,k7,g1,g2,g3,g4,g5,g6,hwc]
        exact zqfd (z515 (by simp (disch:=first|omega|simp<;>omega|fail) [-zA,-zB,-zC,-zD,-zE,PkS]) (by simp (disch:=first|omega|simp<;>omega|fail) [-zA,-zB,-zC,-zD,-zE,PkS])) (tail true hf)
       ·have hf:fitR c o q F=false:=by simp [fitR,kqR,sqR,Sel.p,k1,k2,k3,k4,k7,g1,g2,g3,g4,g5,g6]
        simp (disch:=first|omega|simp<;>omega|fail) [-zA,-zB,-zC,-zD,-zE,zygr,z1r7,ho,zixp,k1,k2,k3,k4,k7,g1,g2,g3,g4,g5,g6,hwc]
        exact zqfd (z515 (by simp (disch:=first|omega|simp<;>omega|fail) [-zA,-zB,-zC,-zD,-zE,PkS]) (by simp (disch:=first|omega|simp<;>omega|fail) [-zA,-zB,-zC,-zD,-zE,PkS])) (tail false hf)
      ·have hf:fitR c o q F=false:=by simp [fitR,kqR,sqR,Sel.p,k1,k2,k3,k4,k7,g1,g2,g3,g4,g5]
       simp (disch:=first|omega|simp<;>omega|fail) [-zA,-zB,-zC,-zD,-zE,zygr,z1r7,ho,zixp,k1,k2,k3,k4,k7,g1,g2,g3,g4,g5]
       exact zqfd (z515 (by simp (disch:=first|omega|simp<;>omega|fail) [-zA,-zB,-zC,-zD,-zE,PkS]) (by simp (disch:=first|omega|simp<;>omega|fail) [-zA,-zB,-zC,-zD,-zE,PkS])) (tail false hf)
   ·have hf:fitR c o q F=false:=by simp [fitR,kqR,sqR,Sel.p,k1,k2,k3,k4,k7,g1,g2]
    simp (disch:=first|omega|simp<;>omega|fail) [-zA,-zB,-zC,-zD,-zE,zygr,z1r7,ho,zixp,k1,k2,k3,k4,k7,g1,g2]
    exact zqfd (z515 (by simp (disch:=first|omega|simp<;>omega|fail) [-zA,-zB,-zC,-zD,-zE,PkS]) (by simp (disch:=first|omega|simp<;>omega|fail) [-zA,-zB,-zC,-zD,-zE,PkS])) (tail false hf)
  ·have hf:fitR c o q F=false:=by simp [fitR,kqR,sqR,Sel.p,k1,k2,k3,k4,k7,g1]
   simp (disch:=first|omega|simp<;>omega|fail) [-zA,-zB,-zC,-zD,-zE,zygr,z1r7,ho,zixp,k1,k2,k3,k4,k7,g1]
   exact zqfd (z515 (by simp (disch:=first|omega|simp<;>omega|fail) [-zA,-zB,-zC,-zD,-zE,PkS]) (by simp (disch:=first|omega|simp<;>omega|fail) [-zA,-zB,-zC,-zD,-zE,PkS])) (tail false hf)
 by_cases g1:F.kind=5
 ·have hf:fitR c o q F=true:=by simp [fitR,kqR,sqR,Sel.p,k1,k2,k3,k4,k7,g1]
  simp (disch:=first|omega|simp<;>omega|fail) [-zA,-zB,-zC,-zD,-zE,zygr,z1r7,ho,zixp,k1,k2,k3,k4,k7,g1]
  exact zqfd (z515 (by simp (disch:=first|omega|simp<;>omega|fail) [-zA,-zB,-zC,-zD,-zE,PkS]) (by simp (disch:=first|omega|simp<;>omega|fail) [-zA,-zB,-zC,-zD,-zE,PkS])) (tail true hf)
 ·have hf:fitR c o q F=false:=by simp [fitR,kqR,sqR,Sel.p,k1,k2,k3,k4,k7,g1]
  simp (disch:=first|omega|simp<;>omega|fail) [-zA,-zB,-zC,-zD,-zE,zygr,z1r7,ho,zixp,k1,k2,k3,k4,k7,g1]
  exact zqfd (z515 (by simp (disch:=first|omega|simp<;>omega|fail) [-zA,-zB,-zC,-zD,-zE,PkS]) (by simp (disch:=first|omega|simp<;>omega|fail) [-zA,-zB,-zC,-zD,-zE,PkS])) (tail false hf)
theorem z2wp (c:Cas) (o:Org) (q:Req) (hn:c.f.l.length≤1000000):V P 0 a81.code (retK a81.res ((ownN (zgw4 c o q c.f.l)).dv 71 faC)) ⟨zr5g a81.ntmps [.agg (caC c),.agg (orC o),.agg (rqC q)],[]⟩:=by
 refine zbn1 (V_W mix zwts ?_)
 simp (disch:=first|omega|simp<;>omega|fail) [-zA,-zB,-zC,-zD,-zE,a81]
 refine zbn1 (V_W mix zwts ?_)
 simp (disch:=first|omega|simp<;>omega|fail) [-zA,-zB,-zC,-zD,-zE]
 refine zbn1 (zbn1 (V_W mix zwts ?_))
 simp (disch:=first|omega|simp<;>omega|fail) [-zA,-zB,-zC,-zD,-zE]
 refine z3mo (ztbr (S751 c o q) (fun i=>c.f.l.length-i) (fun i=>i≤c.f.l.length) 0 (z515 (by simp (disch:=first|omega|simp<;>omega|fail) [-zA,-zB,-zC,-zD,-zE,S751,zihg,zgw4,pV]) (by simp (disch:=first|omega|simp<;>omega|fail) [-zA,-zB,-zC,-zD,-zE,S751,zihg,zgw4,pT])) (by omega) (fun i hi => ?_))
 simp only [S751]
 refine zbn1 (V_W mix zwts ?_)
 by_cases h:i<c.f.l.length
 case neg =>
  have h':¬ (i:Int)<c.f.l.length:=by omega
  rw [List.take_of_length_le (show c.f.l.length≤i by omega)]
  have hlen:(zgw4 c o q c.f.l).length≤1000000:=Nat.le_trans (List.length_filter_le _ _) hn
  obtain ⟨L,hL⟩ : ∃ L,zgw4 c o q c.f.l=L:=⟨_,rfl⟩
  rw [hL] at hlen ⊢
  by_cases e:L=[]
  ·subst e
   have q1:pV [] = .nils:=rfl
   simp (disch:=first|omega|simp<;>omega|fail) [-zA,-zB,-zC,-zD,-zE,z9us,zihg,h,h',q1,z2i7]
   refine V_W mix zwts ?_
   simp (disch:=first|omega|simp<;>omega|fail) [-zA,-zB,-zC,-zD,-zE]
  ·have q1:=zwde e
   have q2:=zt94 e
   have hfl:(fl faC L).length=L.length*71:=z8lx zs77 L
   have htk:(fl faC L).take (L.length*71)=L.flatMap faC:=List.take_of_length_le (by omega)
   have hpu:=zp6k z93p L
   have hsn : ∀ H j,z4tt H j (L.flatMap faC)=some (L.flatMap faC):=fun H j=>z619 hpu
   have hdv:=zgr3 (s:=71) (f:=faC) e (by omega)
   rw [hdv]
   generalize L.flatMap faC=Z at htk hsn ⊢
   simp (disch:=first|omega|simp<;>omega|fail) [-zA,-zB,-zC,-zD,-zE,z9us,zihg,h,h',q1,q2]
   refine V_W mix zwts ?_
   simp (disch:=first|omega|simp<;>omega|fail) [-zA,-zB,-zC,-zD,-zE,hfl,htk,hsn]
 have h':(i:Int)<c.f.l.length:=by omega
 have hg : ∀ H,zpsc H 71 (c.f.dv 71 faC) i=some (.ref (faC c.f.l[i])):=fun H=>zalo zs77 h
 obtain ⟨F,hF⟩ : ∃ F,c.f.l[i]=F:=⟨_,rfl⟩
 have hs:=zh6v (c:=c) (o:=o) (q:=q) (l:=c.f.l.take i) (f:=F)
 rw [← hF,← List.take_succ_eq_append_getElem h,hF] at hs
 rw [hF] at hg
 have hlen:(zgw4 c o q (c.f.l.take i)).length≤i:=by
  have:=List.length_filter_le (fitR c o q) (c.f.l.take i)
  rw [List.length_take] at this; unfold zgw4; omega
 obtain ⟨L,hL⟩ : ∃ L,zgw4 c o q (c.f.l.take i)=L:=⟨_,rfl⟩
 rw [hL] at hs hlen ⊢
 simp (disch:=first|omega|simp<;>omega|fail) [-zA,-zB,-zC,-zD,-zE,z9us,zihg,h,h']
 refine zbn1 (z3mo (zbn1 (V_W mix zwts ?_)))
 simp (disch:=first|omega|simp<;>omega|fail) [-zA,-zB,-zC,-zD,-zE,hg,h,h']
 by_cases e:L=[]
 ·subst e
  have q1:pV [] = .nils:=rfl
  have q2:pT []=[]:=rfl
  simp (disch:=first|omega|simp<;>omega|fail) [-zA,-zB,-zC,-zD,-zE,q1,q2]
  refine V_mk (fun id=>decide (id<3)) ?_
  simp (disch:=first|omega|simp<;>omega|fail) [-zA,-zB,-zC,-zD,-zE]
  exact zqfd (zju2 (tail:=[.dead]) (by simp (disch:=first|omega|simp<;>omega|fail) [-zA,-zB,-zC,-zD,-zE,q1]) (by simp (disch:=first|omega|simp<;>omega|fail) [-zA,-zB,-zC,-zD,-zE,q2]) (by simp) (by simp (disch:=first|omega|simp<;>omega|fail) [-zA,-zB,-zC,-zD,-zE,q1,z1r6,Am.below,z8j3]) (by simp (disch:=first|omega|simp<;>omega|fail) [-zA,-zB,-zC,-zD,-zE,q2,zlf2,z8j3,zd49,z2g3,zljy])) (z2yl hn hlen h hs)
 ·have q1:=zwde e
  have q2:=zt94 e
  have hpu : ∀ H,mkL (fun id=>decide (id<4)) H (fl faC L)=fl faC L:=fun H=>zrip (zp6k z93p _)
  simp (disch:=first|omega|simp<;>omega|fail) [-zA,-zB,-zC,-zD,-zE,q1,q2]
  refine V_mk (fun id=>decide (id<4)) ?_
  simp (disch:=first|omega|simp<;>omega|fail) [-zA,-zB,-zC,-zD,-zE,hpu]
  exact zqfd (zju2 (tail:=[.dead]) (by simp (disch:=first|omega|simp<;>omega|fail) [-zA,-zB,-zC,-zD,-zE,q1]) (by simp (disch:=first|omega|simp<;>omega|fail) [-zA,-zB,-zC,-zD,-zE,q2]) (by simp) (by simp (disch:=first|omega|simp<;>omega|fail) [-zA,-zB,-zC,-zD,-zE,q1,q2,z1r6,Am.below,z8j3]) (by simp (disch:=first|omega|simp<;>omega|fail) [-zA,-zB,-zC,-zD,-zE,q2,zlf2,z8j3,zd49,z2g3,zljy,fl,zmq5 _ _ (zp6k z93p _)])) (z2yl hn hlen h hs)
noncomputable def cPkR:List DV→Option DV:=con (fun a:Cas × Org × Req=>a.1.f.l.length≤1000000) (fun a=>[.agg (caC a.1),.agg (orC a.2.1),.agg (rqC a.2.2)]) (fun a=>(ownN (zgw4 a.1 a.2.1 a.2.2 a.1.f.l)).dv 71 faC)
theorem zdry {c:Cas} {o:Org} {q:Req} (h:c.f.l.length≤1000000):cPkR [.agg (caC c),.agg (orC o),.agg (rqC q)]=some ((ownN (zgw4 c o q c.f.l)).dv 71 faC) :=
 zlyi (A:=fun a:Cas × Org × Req=>a.1.f.l.length≤1000000) (f:=fun a:Cas × Org × Req=>[.agg (caC a.1),.agg (orC a.2.1),.agg (rqC a.2.2)]) (g:=fun a=>(ownN (zgw4 a.1 a.2.1 a.2.2 a.1.f.l)).dv 71 faC) (by
  rintro ⟨a,b,c⟩ ⟨a',b',c'⟩ e
  simp only [List.cons.injEq,DV.agg.injEq,and_true] at e
  rw [zejx e.1,zc65 e.2.1,z82b e.2.2]) (c,o,q) h
theorem zk1i:(Con.pure cPkR).Sound P 81:=z2au fun a h=>znz9 Tryz.func81 zgev (z2wp a.1 a.2.1 a.2.2 h)
end Go.Proofs.YtdnhbfmlklaldaaGreat
set_option linter.unusedSimpArgs false
set_option linter.unusedVariables false
namespace Go.Proofs.YtdnhbfmlklaldaaGreat
open Go Go.Am
def agrL (l left:List Fct):List Fct:=left.filter fun f => !decide (f.own ∈ zqgg l)
def zhjf (l left:List Fct) (q:Req):Sup:=if 0<((zqgg l).length:Int)-q.m then zcc9 ((z0l6 (agrL l left) q.n).missing+((zqgg l).length-q.m)) else z0l6 (agrL l left) q.n
theorem zgwn {l m:List Fct} {f:Fct}:agrL l (m++[f])=agrL l m++(if f.own ∈ zqgg l then [] else [f]):=by
 unfold agrL
 rw [List.filter_append]
 congr 1
 by_cases h:f.own ∈ zqgg l<;>simp [List.filter,h]
noncomputable def T752:Tbl:=addT 117 (.pure cDiR) (addT 118 (.pure z8zr) (addT 82 (.pure cEnR) tbl0))
theorem zal9:T752 117 = .pure cDiR:=by simp [T752]
theorem zfwy:T752 118 = .pure z8zr:=by simp [T752]
theorem zqop:T752 82 = .pure cEnR:=by simp [T752]
theorem zsbx:T752.Sound P:=z0rp zt5w (z0rp zd4q (z0rp z2rm zr5o))
def rV (L:List Fct):DV:=if L=[] then .nils else .ms 2 (L.length*71) 0 71 L.length (L.length*71)
def rH (q:Req) (L:List Fct):List AObj := .cells (rqC q) :: .cells su0::(if L=[] then [] else [.cells (fl faC L)])
theorem zzu8 {L:List Fct} (h:L≠[]):rV L = .ms 2 (L.length*71) 0 71 L.length (L.length*71):=if_neg h
theorem zb4v {q:Req} {L:List Fct} (h:L≠[]):rH q L=[.cells (rqC q),.cells su0,.cells (fl faC L)]:=by rw [rH,if_neg h]
def S752 (l x:Sl Fct) (q:Req) (i:Nat):St:=ztza (x.dv 71 faC) (.mp 0 4 0) (.mp 1 3 0) ((difR l.l).dv 1 stC) (rV (agrL l.l (x.l.take i))) (.int .i64 i) (rH q (agrL l.l (x.l.take i)))
theorem z23v {s:Sup} {h:List AObj} {id:Nat}:zy6o h id 3 0 (.agg (suC s)) (some su0)=some (.junk,h.set id (.cells (suC s))):=z1dg rfl
theorem z438 {s r:Sup} {h:List AObj} {id:Nat}:zy6o h id 3 0 (.agg (suC s)) (some (suC r))=some (.junk,h.set id (.cells (suC s))):=z1dg rfl
structure RbR (l left:List Fct) (q:Req):Prop where
 l:l.length≤1000000
 a:RfOK left
 n : -1000000≤q.n∧q.n≤1000000
 m : -1000000≤q.m∧q.m≤1000000
theorem zxzf {l left:List Fct} (h:RfOK left):RfOK (agrL l left):=⟨by have:=List.length_filter_le (fun f:Fct => !decide (f.own ∈ zqgg l)) left; have:=h.n; unfold agrL; omega,fun f hf=>h.d f (List.mem_filter.1 hf).1⟩
theorem zpj1 {l:List Fct} {n:Int} (hn:n≤1000000):0≤(z0l6 l n).missing∧(z0l6 l n).missing≤1000000:=by
 unfold z0l6
 split
 ·simp only [zcc9]; omega
 ·simp
theorem zfld (l x:Sl Fct) (q:Req) (ok:RbR l.l x.l q):V P 0 a83.code (retK a83.res (.agg (suC (zhjf l.l x.l q)))) ⟨zr5g a83.ntmps [l.dv 71 faC,x.dv 71 faC,.agg (rqC q)],[]⟩:=by
 have hl:=ok.l
 have hxn:=ok.a.n
 have hq:=ok.n
 have hm:=ok.m
 have hd:=z4bz (x:=l) hl
 have hdl:=zlsy (l:=l.l) hl
 have hab:=zmvi (l.l.filter fun f => !f.agr)
 have hab2:=List.length_filter_le (fun f:Fct => !f.agr) l.l
 have hab:(zqgg l.l).length≤1000000:=by unfold zqgg; omega
 have hlD : ∀ H,lenD H ((difR l.l).dv 1 stC)=some (.int .i64 (zqgg l.l).length):=fun H=>by rw [zupj,hdl]
 refine zbn1 (V_W mix zsbx ?_)
 simp (disch:=first|omega|simp<;>omega|fail) [-zA,-zB,-zC,-zD,-zE,a83]
 refine zbn1 (V_W mix zsbx ?_)
 simp (disch:=first|omega|simp<;>omega|fail) [-zA,-zB,-zC,-zD,-zE,zal9,hd]
 refine zbn1 (V_W mix zsbx ?_)
 simp (disch:=first|omega|simp<;>omega|fail) [-zA,-zB,-zC,-zD,-zE]
 refine zbn1 (V_W mix zsbx ?_)
 simp (disch:=first|omega|simp<;>omega|fail) [-zA,-zB,-zC,-zD,-zE]
 refine zlm5 (S752 l x q) (fun i=>x.l.length-i) (fun i=>i≤x.l.length) 0 (z515 (by simp (disch:=first|omega|simp<;>omega|fail) [-zA,-zB,-zC,-zD,-zE,S752,ztza,agrL,rV]) (by simp (disch:=first|omega|simp<;>omega|fail) [-zA,-zB,-zC,-zD,-zE,S752,ztza,agrL,rH,su0])) (by omega) (fun i hi => ?_)
 simp only [S752]
 by_cases h:i<x.l.length
 ·have h':(i:Int)<x.l.length:=by omega
  have hg : ∀ H,zpsc H 71 (x.dv 71 faC) i=some (.ref (faC x.l[i])):=fun H=>zalo zs77 h
  obtain ⟨F,hF⟩ : ∃ F,x.l[i]=F:=⟨_,rfl⟩
  have hs:=zgwn (l:=l.l) (m:=x.l.take i) (f:=F)
  rw [← hF,← List.take_succ_eq_append_getElem h,hF] at hs
  rw [hF] at hg
  have hlen:(agrL l.l (x.l.take i)).length≤i:=by
   have:=List.length_filter_le (fun f:Fct => !decide (f.own ∈ zqgg l.l)) (x.l.take i)
   rw [List.length_take] at this; unfold agrL; omega
  obtain ⟨L,hL⟩ : ∃ L,agrL l.l (x.l.take i)=L:=⟨_,rfl⟩
  rw [hL] at hs hlen ⊢
  have hvF : ∀ H,visY H (.sl true 71 1 (faC F))=some (1,faC F):=fun H=>by simp [visY,zs77]
  have hc:=zjet (x:=difR l.l) (d:=F.own)
  rw [hdl] at hc
  by_cases hm:F.own ∈ zqgg l.l
  ·rw [if_pos hm,List.append_nil] at hs
   by_cases e:L=[]
   ·subst e
    have q1:rV [] = .nils:=rfl
    have q2:rH q []=[.cells (rqC q),.cells su0]:=rfl
    simp (disch:=first|omega|simp<;>omega|fail) [-zA,-zB,-zC,-zD,-zE,zubw,ztza,h,h',hg,q1,q2,zfwy,hc,hm]
    exact ⟨i+1,z515 (by simp (disch:=first|omega|simp<;>omega|fail) [-zA,-zB,-zC,-zD,-zE,S752,ztza,hs,q1]) (by simp (disch:=first|omega|simp<;>omega|fail) [-zA,-zB,-zC,-zD,-zE,S752,ztza,hs,q2]),by omega,by omega⟩
   ·have q1:=zzu8 e
    have q2:=zb4v (q:=q) e
    simp (disch:=first|omega|simp<;>omega|fail) [-zA,-zB,-zC,-zD,-zE,zubw,ztza,h,h',hg,q1,q2,zfwy,hc,hm]
    exact ⟨i+1,z515 (by simp (disch:=first|omega|simp<;>omega|fail) [-zA,-zB,-zC,-zD,-zE,S752,ztza,hs,q1]) (by simp (disch:=first|omega|simp<;>omega|fail) [-zA,-zB,-zC,-zD,-zE,S752,ztza,hs,q2]),by omega,by omega⟩
  ·rw [if_neg hm] at hs
   have e1:=zzu8 (L:=L++[F]) (by simp)
   have e2:=zb4v (q:=q) (L:=L++[F]) (by simp)
   rw [List.length_append,List.length_singleton] at e1
   by_cases e:L=[]
   ·subst e
    have q1:rV [] = .nils:=rfl
    have q2:rH q []=[.cells (rqC q),.cells su0]:=rfl
    have hap:=zsuq (h:=[AObj.cells (rqC q),.cells su0]) (s:=71) (b:=160) (m:=1) (cs:=faC F) (by decide) (by decide) (by rw [zs77]) (by decide) (by decide)
    simp only [zs77,List.length_cons,List.length_nil,Nat.zero_add] at hap
    have hs:agrL l.l (x.l.take (i+1))=[F]:=hs
    have e1:rV [F] = .ms 2 71 0 71 1 71:=rfl
    have e2:rH q [F]=[.cells (rqC q),.cells su0,.cells (faC F)]:=by rw [zb4v (by simp),z4hs]
    simp (disch:=first|omega|simp<;>omega|fail) [-zA,-zB,-zC,-zD,-zE,zubw,ztza,h,h',hg,q1,q2,zfwy,hc,hm,zw6t,hvF,hap]
    exact ⟨i+1,z515 (by simp (disch:=first|omega|simp<;>omega|fail) [-zA,-zB,-zC,-zD,-zE,S752,ztza,hs,e1]) (by simp (disch:=first|omega|simp<;>omega|fail) [-zA,-zB,-zC,-zD,-zE,S752,ztza,hs,e2]),by omega,by omega⟩
   ·have q1:=zzu8 e
    have q2:=zb4v (q:=q) e
    have hap:=zkg3 (h:=[AObj.cells (rqC q),.cells su0,.cells (fl faC L)]) (id:=2) (b:=160) (l:=L) (x:=F) zs77 (by decide) (by decide) (fun _=>zfgo) (by omega) (by simp [objV,ziu0,z8lx zs77])
    simp (disch:=first|omega|simp<;>omega|fail) [-zA,-zB,-zC,-zD,-zE,zubw,ztza,h,h',hg,q1,q2,zfwy,hc,hm,zw6t,hvF,hap]
    exact ⟨i+1,z515 (by simp (disch:=first|omega|simp<;>omega|fail) [-zA,-zB,-zC,-zD,-zE,S752,ztza,hs,e1]) (by simp (disch:=first|omega|simp<;>omega|fail) [-zA,-zB,-zC,-zD,-zE,S752,ztza,hs,e2]),by omega,by omega⟩
 have h':¬ (i:Int)<x.l.length:=by omega
 rw [List.take_of_length_le (show x.l.length≤i by omega)]
 have hao:=zxzf (l:=l.l) ok.a
 have hms:=zpj1 (l:=agrL l.l x.l) (n:=q.n) (by omega)
 obtain ⟨A,hA⟩ : ∃ A,(zqgg l.l).length=A:=⟨_,rfl⟩
 rw [hA] at hlD hab
 have hwA:IntKind.i64.wrap ((A:Int)-q.m)=A-q.m:=by rw [IntKind.wrap_i64]; omega
 have hr:zhjf l.l x.l q=if 0<(A:Int)-q.m then zcc9 ((z0l6 (agrL l.l x.l) q.n).missing+(A-q.m)) else z0l6 (agrL l.l x.l) q.n:=by unfold zhjf; rw [hA]
 rw [hr]
 have hown:(ownN (agrL l.l x.l)).l=agrL l.l x.l:=zd8n (by have:=hao.n; omega)
 have hc:=zdqm (x:=ownN (agrL l.l x.l)) (n:=q.n) (by rw [hown]; exact hao) (by omega) (by omega)
 rw [hown] at hc
 obtain ⟨S,hS⟩ : ∃ S,z0l6 (agrL l.l x.l) q.n=S:=⟨_,rfl⟩
 rw [hS] at hc hms ⊢
 have hwS:IntKind.i64.wrap (S.missing+(A-q.m))=S.missing+(A-q.m):=by rw [IntKind.wrap_i64]; omega
 obtain ⟨L,hL⟩ : ∃ L,agrL l.l x.l=L:=⟨_,rfl⟩
 rw [hL] at hc ⊢
 obtain ⟨X,hX⟩ : ∃ X,(if 0<(A:Int)-q.m then zcc9 (S.missing+(A-q.m)) else S)=X:=⟨_,rfl⟩
 by_cases e:L=[]
 ·subst e
  have q1:rV [] = .nils:=rfl
  have q2:rH q []=[.cells (rqC q),.cells su0]:=rfl
  rw [z2i7] at hc
  rw [show (if 0<(A:Int)-q.m then zcc9 (S.missing+(A-q.m)) else S)=X from hX]
  simp (disch:=first|omega|simp<;>omega|fail) [-zA,-zB,-zC,-zD,-zE,zubw,ztza,h,h',q1,q2]
  refine V_W mix zsbx ?_
  by_cases g:q.m<A
  ·rw [← hX,if_pos (show 0<(A:Int)-q.m by omega)]
   simp (disch:=first|omega|simp<;>omega|fail) [-zA,-zB,-zC,-zD,-zE,zqop,hc,z559,z438,z23v,hlD,hwA,g,hwS,ze83]
  ·rw [← hX,if_neg (show ¬ 0<(A:Int)-q.m by omega)]
   simp (disch:=first|omega|simp<;>omega|fail) [-zA,-zB,-zC,-zD,-zE,zqop,hc,z559,z438,z23v,hlD,hwA,g]
 ·have q1:=zzu8 e
  have q2:=zb4v (q:=q) e
  have hlb:L.length≤100:=by rw [← hL]; exact hao.n
  have hfl:(fl faC L).length=L.length*71:=z8lx zs77 L
  have htk:(fl faC L).take (L.length*71)=L.flatMap faC:=List.take_of_length_le (by omega)
  have hpu:=zp6k z93p L
  rw [zgr3 e (by omega)] at hc
  rw [show (if 0<(A:Int)-q.m then zcc9 (S.missing+(A-q.m)) else S)=X from hX]
  simp (disch:=first|omega|simp<;>omega|fail) [-zA,-zB,-zC,-zD,-zE,zubw,ztza,h,h',q1,q2]
  refine V_mk (fun id=>decide (id<2)) ?_
  simp (disch:=first|omega|simp<;>omega|fail) [-zA,-zB,-zC,-zD,-zE,hfl,htk,hpu]
  refine V_W mix zsbx ?_
  by_cases g:q.m<A
  ·rw [← hX,if_pos (show 0<(A:Int)-q.m by omega)]
   simp (disch:=first|omega|simp<;>omega|fail) [-zA,-zB,-zC,-zD,-zE,zqop,hc,hpu,z559,z438,z23v,hlD,hwA,g,hwS,ze83]
  ·rw [← hX,if_neg (show ¬ 0<(A:Int)-q.m by omega)]
   simp (disch:=first|omega|simp<;>omega|fail) [-zA,-zB,-zC,-zD,-zE,zqop,hc,hpu,z559,z438,z23v,hlD,hwA,g]
noncomputable def cRbR:List DV→Option DV:=con (fun a:Sl Fct × Sl Fct × Req=>RbR a.1.l a.2.1.l a.2.2) (fun a=>[a.1.dv 71 faC,a.2.1.dv 71 faC,.agg (rqC a.2.2)]) (fun a => .agg (suC (zhjf a.1.l a.2.1.l a.2.2)))
theorem z9iz {l x:Sl Fct} {q:Req} (h:RbR l.l x.l q):cRbR [l.dv 71 faC,x.dv 71 faC,.agg (rqC q)]=some (.agg (suC (zhjf l.l x.l q))) :=
 zlyi (A:=fun a:Sl Fct × Sl Fct × Req=>RbR a.1.l a.2.1.l a.2.2) (f:=fun a:Sl Fct × Sl Fct × Req=>[a.1.dv 71 faC,a.2.1.dv 71 faC,.agg (rqC a.2.2)]) (g:=fun a => .agg (suC (zhjf a.1.l a.2.1.l a.2.2))) (by
  rintro ⟨a,b,c⟩ ⟨a',b',c'⟩ e
  simp only [List.cons.injEq,DV.agg.injEq,and_true] at e
  rw [z4rf e.1,z4rf e.2.1,z82b e.2.2]) (l,x,q) h
theorem z6n1:(Con.pure cRbR).Sound P 83:=z2au fun a h=>znz9 Tryz.func83 z6eh (zfld a.1 a.2.1 a.2.2 h)
end Go.Proofs.YtdnhbfmlklaldaaGreat
set_option linter.unusedSimpArgs false
set_option linter.unusedVariables false
namespace Go.Proofs.YtdnhbfmlklaldaaGreat
open Go Go.Am
def ofL (l:List Fct) (d:Dg):List Fct:=l.filter fun f=>decide (f.tgt=d)
theorem z4ws {m:List Fct} {f:Fct} {d:Dg}:ofL (m++[f]) d=ofL m d++(if f.tgt=d then [f] else []):=by
 unfold ofL
 rw [List.filter_append]
 congr 1
 by_cases h:f.tgt=d<;>simp [List.filter,h]
theorem z5be {l:List Fct} {d:Dg} (h:RfOK l):RfOK (ofL l d):=⟨by have:=List.length_filter_le (fun f:Fct=>decide (f.tgt=d)) l; have:=h.n; unfold ofL; omega,fun f hf=>h.d f (List.mem_filter.1 hf).1⟩
def zqxa (l:List Fct) (n:Int) (b:Sup) (d:Dg):Sup:=if (z0l6 (ofL l d) n).holds||(!b.holds&&decide ((z0l6 (ofL l d) n).missing<b.missing)) then z0l6 (ofL l d) n else b
def zu6h (l:List Fct) (n:Int):Sup:=(dgsU (tgS l)).foldr (fun d b=>zqxa l n b d) (zcc9 n)
noncomputable def T753:Tbl:=addT 93 (.pure cAdd) (addT 82 (.pure cEnR) tbl0)
theorem zo2o:T753 93 = .pure cAdd:=by simp [T753]
theorem zw54:T753 82 = .pure cEnR:=by simp [T753]
theorem zas3:T753.Sound P:=z0rp z03l (z0rp z2rm zr5o)
def pI (p:Nat):Int:=(p:Int)-1
theorem pI_0:pI 0 = -1:=rfl
theorem pI_s {j:Nat}:pI (j+1)=j:=by unfold pI; omega
def iV (L:List Fct):DV:=if L=[] then .nils else .ms 3 (L.length*71) 0 71 L.length (L.length*71)
def iH (q:Req) (B:Sup) (L:List Fct):List AObj := .cells (rqC q) :: .cells su0 :: .cells (suC B)::(if L=[] then [] else [.cells (fl faC L)])
theorem zh4s {L:List Fct} (h:L≠[]):iV L = .ms 3 (L.length*71) 0 71 L.length (L.length*71):=if_neg h
theorem zic2 {q:Req} {B:Sup} {L:List Fct} (h:L≠[]):iH q B L=[.cells (rqC q),.cells su0,.cells (suC B),.cells (fl faC L)]:=by rw [iH,if_neg h]
structure LfP where
 p:Nat
 B:Sup
def S753 (x:Sl Fct) (q:Req) (i:Nat):St:=zphm (x.dv 71 faC) (.mp 0 4 0) (.mp 1 3 0) ((unR nilS ((tgS x.l).take i)).dv 32 dgC) (.int .i64 i) [.cells (rqC q),.cells su0]
def S754 (x:Sl Fct) (q:Req) (Y:Sl Dg) (a:LfP):St:=z9kw (x.dv 71 faC) (.mp 0 4 0) (.mp 1 3 0) (Y.dv 32 dgC) (.mp 2 3 0) (.int .i64 (pI a.p)) [.cells (rqC q),.cells su0,.cells (suC a.B)]
def S755 (x:Sl Fct) (q:Req) (Y:Sl Dg) (B:Sup) (j:Nat) (d:Dg) (k:Nat):St:=zftw (x.dv 71 faC) (.mp 0 4 0) (.mp 1 3 0) (Y.dv 32 dgC) (.mp 2 3 0) (.int .i64 j) (iV (ofL (x.l.take k) d)) (.int .i64 k) (iH q B (ofL (x.l.take k) d))
def LfT:ACode:=match z0e6 with
 | .seq _ (.seq (.block _ (.seq _ (.seq _ y))) _)=>y
 | _ => .skip
def LfR:ACode:=match z0e6 with
 | .seq _ (.seq _ y)=>y
 | _ => .skip
def lfI (x:Sl Fct) (q:Req) (Y:Sl Dg) (a:LfP):Prop:=a.p≤Y.l.length∧a.B=(Y.l.drop a.p).foldr (fun d b=>zqxa x.l q.n b d) (zcc9 q.n)
theorem zj26 {x A:Sl Fct} {q:Req} {Y:Sl Dg} {B S N:Sup} {j:Nat} (hc:cEnR [A.dv 71 faC,.int .i64 q.n]=some (.agg (suC S))) (hj:j<Y.l.length)
  (hN:(if S.holds||(!B.holds&&decide (S.missing<B.missing)) then S else B)=N) (hi:lfI x q Y ⟨j,N⟩) {Φ0:AExit→St→Prop} :
  V P 0 LfT (z0mx 3 (z2pk P 0 LfR (z13e 0 (S754 x q Y) (fun a=>a.p) (lfI x q Y) ⟨j+1,B⟩ Φ0)))
   ⟨[x.dv 71 faC,.junk,.junk,.mp 0 4 0,.mp 1 3 0,Y.dv 32 dgC,.junk,.mp 2 3 0,.int .i64 j,A.dv 71 faC]++js 68,[.cells (rqC q),.cells su0,.cells (suC B)]⟩:=by
 have hb:=Y.b
 have hw1:IntKind.i64.wrap ((j:Int)-1)=j-1:=by rw [IntKind.wrap_i64]; omega
 have fin : ∀ X:Sup,X=N→V P 0 LfR (z13e 0 (S754 x q Y) (fun a=>a.p) (lfI x q Y) ⟨j+1,B⟩ Φ0) ⟨[x.dv 71 faC,.junk,.junk,.mp 0 4 0,.mp 1 3 0,Y.dv 32 dgC,.junk,.mp 2 3 0,.int .i64 j]++js 69,[.cells (rqC q),.cells su0,.cells (suC X),.cells (suC S)]⟩:=fun X e=>by
  subst e
  simp only [LfR,z0e6]
  refine V_W mix zas3 ?_
  simp (disch:=first|omega|simp<;>omega|fail) [-zA,-zB,-zC,-zD,-zE,hw1]
  exact ⟨⟨j,X⟩,zju2 (tail:=[.cells (suC S)]) (by simp (disch:=first|omega|simp<;>omega|fail) [-zA,-zB,-zC,-zD,-zE,S754,z9kw,pI]) (by simp (disch:=first|omega|simp<;>omega|fail) [-zA,-zB,-zC,-zD,-zE,S754,z9kw]) (by simp) (by simp (disch:=first|omega|simp<;>omega|fail) [-zA,-zB,-zC,-zD,-zE,S754,z9kw,z1r6,Am.below]) (by simp (disch:=first|omega|simp<;>omega|fail) [-zA,-zB,-zC,-zD,-zE,S754,z9kw,zlf2,zljy,zj4t,z1r6,Am.below,su0]),by simp only; omega,hi⟩
 simp only [LfT,z0e6]
 refine V_W mix zas3 ?_
 cases g1:S.holds with
 | true =>
  rw [g1] at hN
  simp (disch:=first|omega|simp<;>omega|fail) [-zA,-zB,-zC,-zD,-zE,zw54,hc,z559,z438,g1]
  exact zqfd (z515 (by simp (disch:=first|omega|simp<;>omega|fail) [-zA,-zB,-zC,-zD,-zE]) (by simp (disch:=first|omega|simp<;>omega|fail) [-zA,-zB,-zC,-zD,-zE])) (fin S hN)
 | false =>
  cases g2:B.holds with
  | true =>
   rw [g1,g2] at hN
   simp (disch:=first|omega|simp<;>omega|fail) [-zA,-zB,-zC,-zD,-zE,zw54,hc,z559,z438,g1,g2]
   exact zqfd (z515 (by simp (disch:=first|omega|simp<;>omega|fail) [-zA,-zB,-zC,-zD,-zE]) (by simp (disch:=first|omega|simp<;>omega|fail) [-zA,-zB,-zC,-zD,-zE])) (fin B hN)
  | false =>
   by_cases g3:S.missing<B.missing
   ·rw [g1,g2,decide_eq_true g3] at hN
    simp (disch:=first|omega|simp<;>omega|fail) [-zA,-zB,-zC,-zD,-zE,zw54,hc,z559,z438,g1,g2,g3]
    exact zqfd (z515 (by simp (disch:=first|omega|simp<;>omega|fail) [-zA,-zB,-zC,-zD,-zE]) (by simp (disch:=first|omega|simp<;>omega|fail) [-zA,-zB,-zC,-zD,-zE])) (fin S hN)
   ·rw [g1,g2,decide_eq_false g3] at hN
    simp (disch:=first|omega|simp<;>omega|fail) [-zA,-zB,-zC,-zD,-zE,zw54,hc,z559,z438,g1,g2,g3]
    exact zqfd (z515 (by simp (disch:=first|omega|simp<;>omega|fail) [-zA,-zB,-zC,-zD,-zE]) (by simp (disch:=first|omega|simp<;>omega|fail) [-zA,-zB,-zC,-zD,-zE])) (fin B hN)
theorem zstw (x:Sl Fct) (q:Req) (ok:RfOK x.l) (hq : -1000000≤q.n∧q.n≤1000000):V P 0 a84.code (retK a84.res (.agg (suC (zu6h x.l q.n)))) ⟨zr5g a84.ntmps [x.dv 71 faC,.agg (rqC q)],[]⟩:=by
 have hxn:=ok.n
 have htl:(tgS x.l).length=x.l.length:=by simp [tgS]
 obtain ⟨R,hR⟩ : ∃ R,zu6h x.l q.n=R:=⟨_,rfl⟩
 rw [hR]
 refine zbn1 (V_W mix zas3 ?_)
 simp (disch:=first|omega|simp<;>omega|fail) [-zA,-zB,-zC,-zD,-zE,a84]
 refine zbn1 (V_W mix zas3 ?_)
 simp (disch:=first|omega|simp<;>omega|fail) [-zA,-zB,-zC,-zD,-zE]
 refine zbn1 (V_W mix zas3 ?_)
 simp (disch:=first|omega|simp<;>omega|fail) [-zA,-zB,-zC,-zD,-zE]
 refine zlm5 (S753 x q) (fun i=>x.l.length-i) (fun i=>i≤x.l.length) 0 (z515 (by simp (disch:=first|omega|simp<;>omega|fail) [-zA,-zB,-zC,-zD,-zE,S753,zphm,unR,z68u]) (by simp (disch:=first|omega|simp<;>omega|fail) [-zA,-zB,-zC,-zD,-zE,S753,zphm,su0])) (by omega) (fun i hi => ?_)
 simp only [S753]
 by_cases h:i<x.l.length
 ·have h':(i:Int)<x.l.length:=by omega
  have hg : ∀ H,zpsc H 71 (x.dv 71 faC) i=some (.ref (faC x.l[i])):=fun H=>zalo zs77 h
  obtain ⟨F,hF⟩ : ∃ F,x.l[i]=F:=⟨_,rfl⟩
  have ht:(tgS x.l).take (i+1)=(tgS x.l).take i++[F.tgt]:=by
   rw [List.take_succ_eq_append_getElem (by omega)]; simp [tgS,hF]
  have hs:unR nilS ((tgS x.l).take (i+1))=addF (unR nilS ((tgS x.l).take i)) F.tgt:=by rw [ht,zu06]; rfl
  have hb:(unR nilS ((tgS x.l).take i)).l.length≤1000000:=by
   have h1:((tgS x.l).take i).length≤100:=by rw [List.length_take]; omega
   rw [zptr _ _ (by simp [zb11]; omega)]
   have:=z8bn (nilS:Sl Dg).l ((tgS x.l).take i)
   simp only [zb11,List.length_nil] at this ⊢
   omega
  have hc:=zbsz (x:=unR nilS ((tgS x.l).take i)) (d:=F.tgt) hb
  rw [← hs] at hc
  rw [hF] at hg
  obtain ⟨A,hA⟩ : ∃ A,unR nilS ((tgS x.l).take i)=A:=⟨_,rfl⟩
  rw [hA] at hc ⊢
  simp (disch:=first|omega|simp<;>omega|fail) [-zA,-zB,-zC,-zD,-zE,zvoz,zphm,h,h',hg,zo2o,hc]
  exact ⟨i+1,z515 (by simp (disch:=first|omega|simp<;>omega|fail) [-zA,-zB,-zC,-zD,-zE,S753,zphm]) (by simp (disch:=first|omega|simp<;>omega|fail) [-zA,-zB,-zC,-zD,-zE,S753,zphm]),by omega,by omega⟩
 have h':¬ (i:Int)<x.l.length:=by omega
 rw [List.take_of_length_le (show (tgS x.l).length≤i by omega)]
 have hYl:(unR nilS (tgS x.l)).l=dgsU (tgS x.l):=by rw [zptr _ _ (by simp [zb11]; omega)]; rfl
 have hYn:(dgsU (tgS x.l)).length≤100:=by have:=zsv6 (lt:=dgLt) (tgS x.l); unfold dgsU; omega
 obtain ⟨Y,hY⟩ : ∃ Y,unR nilS (tgS x.l)=Y:=⟨_,rfl⟩
 rw [hY] at hYl ⊢
 rw [← hYl] at hYn
 have hR:Y.l.foldr (fun d b=>zqxa x.l q.n b d) (zcc9 q.n)=R:=by rw [← hR,hYl]; rfl
 have hlY : ∀ H,lenD H (Y.dv 32 dgC)=some (.int .i64 Y.l.length):=fun H=>zupj
 simp (disch:=first|omega|simp<;>omega|fail) [-zA,-zB,-zC,-zD,-zE,zvoz,zphm,h,h']
 refine zbn1 (V_W mix zas3 ?_)
 simp (disch:=first|omega|simp<;>omega|fail) [-zA,-zB,-zC,-zD,-zE,ze83,z559]
 refine zbn1 (zbn1 (V_W mix zas3 ?_))
 have hw0:IntKind.i64.wrap ((Y.l.length:Int)-1)=pI Y.l.length:=by unfold pI; rw [IntKind.wrap_i64]; omega
 simp (disch:=first|omega|simp<;>omega|fail) [-zA,-zB,-zC,-zD,-zE,hlY,hw0]
 refine z3mo (ztbr (S754 x q Y) (fun a=>a.p) (lfI x q Y) ⟨Y.l.length,zcc9 q.n⟩ (z515 (by simp (disch:=first|omega|simp<;>omega|fail) [-zA,-zB,-zC,-zD,-zE,S754,z9kw]) (by simp (disch:=first|omega|simp<;>omega|fail) [-zA,-zB,-zC,-zD,-zE,S754,z9kw])) ⟨Nat.le_refl _,by simp⟩ (fun a ha => ?_))
 obtain ⟨p,B⟩:=a
 obtain ⟨hp,hB⟩:=ha
 simp only at hp hB
 simp only [S754]
 cases p with
 | zero =>
  rw [List.drop_zero,hR] at hB
  subst hB
  rw [pI_0]
  refine zbn1 (V_W mix zas3 ?_)
  simp (disch:=first|omega|simp<;>omega|fail) [-zA,-zB,-zC,-zD,-zE,z0e6,z9kw]
  refine V_W mix zas3 ?_
  simp (disch:=first|omega|simp<;>omega|fail) [-zA,-zB,-zC,-zD,-zE,z23v]
 | succ j =>
  have hjl:j<Y.l.length:=by omega
  have hg : ∀ H,zpsc H 32 (Y.dv 32 dgC) j=some (.ref (dgC Y.l[j])):=fun H=>zalo z1t1 hjl
  obtain ⟨d,hd⟩ : ∃ d,Y.l[j]=d:=⟨_,rfl⟩
  have hdr:(Y.l.drop j).foldr (fun d b=>zqxa x.l q.n b d) (zcc9 q.n)=zqxa x.l q.n ((Y.l.drop (j+1)).foldr (fun d b=>zqxa x.l q.n b d) (zcc9 q.n)) d:=by
   rw [List.drop_eq_getElem_cons hjl,hd]; rfl
  rw [hd] at hg
  rw [pI_s]
  have hw1:IntKind.i64.wrap ((j:Int)-1)=j-1:=by rw [IntKind.wrap_i64]; omega
  refine zbn1 (V_W mix zas3 ?_)
  simp (disch:=first|omega|simp<;>omega|fail) [-zA,-zB,-zC,-zD,-zE,z0e6,z9kw]
  refine zbn1 (z3mo (zbn1 (V_W mix zas3 ?_)))
  simp (disch:=first|omega|simp<;>omega|fail) [-zA,-zB,-zC,-zD,-zE]
  refine zbn1 (V_W mix zas3 ?_)
  simp (disch:=first|omega|simp<;>omega|fail) [-zA,-zB,-zC,-zD,-zE]
  refine zlm5 (S755 x q Y B j d) (fun k=>x.l.length-k) (fun k=>k≤x.l.length) 0 (z515 (by simp (disch:=first|omega|simp<;>omega|fail) [-zA,-zB,-zC,-zD,-zE,S755,zftw,ofL,iV]) (by simp (disch:=first|omega|simp<;>omega|fail) [-zA,-zB,-zC,-zD,-zE,S755,zftw,ofL,iH])) (by omega) (fun k hk => ?_)
  simp only [S755]
  by_cases c:k<x.l.length
  ·have c':(k:Int)<x.l.length:=by omega
   have hgF : ∀ H,zpsc H 71 (x.dv 71 faC) k=some (.ref (faC x.l[k])):=fun H=>zalo zs77 c
   obtain ⟨F,hF⟩ : ∃ F,x.l[k]=F:=⟨_,rfl⟩
   have hs:=z4ws (m:=x.l.take k) (f:=F) (d:=d)
   rw [← hF,← List.take_succ_eq_append_getElem c,hF] at hs
   rw [hF] at hgF
   have hlen:(ofL (x.l.take k) d).length≤k:=by
    have:=List.length_filter_le (fun f:Fct=>decide (f.tgt=d)) (x.l.take k)
    rw [List.length_take] at this; unfold ofL; omega
   obtain ⟨L,hL⟩ : ∃ L,ofL (x.l.take k) d=L:=⟨_,rfl⟩
   rw [hL] at hs hlen ⊢
   have hvF : ∀ H,visY H (.sl true 71 1 (faC F))=some (1,faC F):=fun H=>by simp [visY,zs77]
   by_cases hm:F.tgt=d
   ·rw [if_pos hm] at hs
    have e1:=zh4s (L:=L++[F]) (by simp)
    have e2:=zic2 (q:=q) (B:=B) (L:=L++[F]) (by simp)
    rw [List.length_append,List.length_singleton] at e1
    by_cases e:L=[]
    ·subst e
     have q1:iV [] = .nils:=rfl
     have q2:iH q B []=[.cells (rqC q),.cells su0,.cells (suC B)]:=rfl
     have hap:=zsuq (h:=[AObj.cells (rqC q),.cells su0,.cells (suC B)]) (s:=71) (b:=160) (m:=1) (cs:=faC F) (by decide) (by decide) (by rw [zs77]) (by decide) (by decide)
     simp only [zs77,List.length_cons,List.length_nil,Nat.zero_add] at hap
     have hs:ofL (x.l.take (k+1)) d=[F]:=hs
     have e1:iV [F] = .ms 3 71 0 71 1 71:=rfl
     have e2:iH q B [F]=[.cells (rqC q),.cells su0,.cells (suC B),.cells (faC F)]:=by rw [zic2 (by simp),z4hs]
     simp (disch:=first|omega|simp<;>omega|fail) [-zA,-zB,-zC,-zD,-zE,z0jx,zftw,c,c',hgF,hg,q1,q2,hm,zw6t,hvF,hap]
     exact ⟨k+1,z515 (by simp (disch:=first|omega|simp<;>omega|fail) [-zA,-zB,-zC,-zD,-zE,S755,zftw,hs,e1]) (by simp (disch:=first|omega|simp<;>omega|fail) [-zA,-zB,-zC,-zD,-zE,S755,zftw,hs,e2]),by omega,by omega⟩
    ·have q1:=zh4s e
     have q2:=zic2 (q:=q) (B:=B) e
     have hap:=zkg3 (h:=[AObj.cells (rqC q),.cells su0,.cells (suC B),.cells (fl faC L)]) (id:=3) (b:=160) (l:=L) (x:=F) zs77 (by decide) (by decide) (fun _=>zfgo) (by omega) (by simp [objV,ziu0,z8lx zs77])
     simp (disch:=first|omega|simp<;>omega|fail) [-zA,-zB,-zC,-zD,-zE,z0jx,zftw,c,c',hgF,hg,q1,q2,hm,zw6t,hvF,hap]
     exact ⟨k+1,z515 (by simp (disch:=first|omega|simp<;>omega|fail) [-zA,-zB,-zC,-zD,-zE,S755,zftw,hs,e1]) (by simp (disch:=first|omega|simp<;>omega|fail) [-zA,-zB,-zC,-zD,-zE,S755,zftw,hs,e2]),by omega,by omega⟩
   ·rw [if_neg hm,List.append_nil] at hs
    by_cases e:L=[]
    ·subst e
     have q1:iV [] = .nils:=rfl
     have q2:iH q B []=[.cells (rqC q),.cells su0,.cells (suC B)]:=rfl
     simp (disch:=first|omega|simp<;>omega|fail) [-zA,-zB,-zC,-zD,-zE,z0jx,zftw,c,c',hgF,hg,q1,q2,hm]
     exact ⟨k+1,z515 (by simp (disch:=first|omega|simp<;>omega|fail) [-zA,-zB,-zC,-zD,-zE,S755,zftw,hs,q1]) (by simp (disch:=first|omega|simp<;>omega|fail) [-zA,-zB,-zC,-zD,-zE,S755,zftw,hs,q2]),by omega,by omega⟩
    ·have q1:=zh4s e
     have q2:=zic2 (q:=q) (B:=B) e
     simp (disch:=first|omega|simp<;>omega|fail) [-zA,-zB,-zC,-zD,-zE,z0jx,zftw,c,c',hgF,hg,q1,q2,hm]
     exact ⟨k+1,z515 (by simp (disch:=first|omega|simp<;>omega|fail) [-zA,-zB,-zC,-zD,-zE,S755,zftw,hs,q1]) (by simp (disch:=first|omega|simp<;>omega|fail) [-zA,-zB,-zC,-zD,-zE,S755,zftw,hs,q2]),by omega,by omega⟩
  have c':¬ (k:Int)<x.l.length:=by omega
  rw [List.take_of_length_le (show x.l.length≤k by omega)]
  have hao:=z5be (d:=d) ok
  have hown:(ownN (ofL x.l d)).l=ofL x.l d:=zd8n (by have:=hao.n; omega)
  have hc:=zdqm (x:=ownN (ofL x.l d)) (n:=q.n) (by rw [hown]; exact hao) (by omega) (by omega)
  rw [hown] at hc
  obtain ⟨S,hS⟩ : ∃ S,z0l6 (ofL x.l d) q.n=S:=⟨_,rfl⟩
  rw [hS] at hc
  obtain ⟨L,hL⟩ : ∃ L,ofL x.l d=L:=⟨_,rfl⟩
  rw [hL] at hc ⊢
  have hT:=fun Φ0=>zj26 (Φ0:=Φ0) (x:=x) (Y:=Y) (B:=B) (N:=zqxa x.l q.n B d) hc hjl (by unfold zqxa; rw [hS]) ⟨by simp only; omega,by simp only; rw [hdr,← hB]⟩
  by_cases e:L=[]
  ·subst e
   have q1:iV [] = .nils:=rfl
   have q2:iH q B []=[.cells (rqC q),.cells su0,.cells (suC B)]:=rfl
   simp (disch:=first|omega|simp<;>omega|fail) [-zA,-zB,-zC,-zD,-zE,z0jx,zftw,c,c',q1,q2]
   exact zqfd (z515 (by simp (disch:=first|omega|simp<;>omega|fail) [-zA,-zB,-zC,-zD,-zE,z2i7]) (by simp (disch:=first|omega|simp<;>omega|fail) [-zA,-zB,-zC,-zD,-zE])) (hT _)
  ·have q1:=zh4s e
   have q2:=zic2 (q:=q) (B:=B) e
   have hlb:L.length≤100:=by rw [← hL]; exact hao.n
   have hfl:(fl faC L).length=L.length*71:=z8lx zs77 L
   have htk:(fl faC L).take (L.length*71)=L.flatMap faC:=List.take_of_length_le (by omega)
   have hpu:=zp6k z93p L
   simp (disch:=first|omega|simp<;>omega|fail) [-zA,-zB,-zC,-zD,-zE,z0jx,zftw,c,c',q1,q2]
   refine V_mk (fun id=>decide (id<3)) ?_
   simp (disch:=first|omega|simp<;>omega|fail) [-zA,-zB,-zC,-zD,-zE,hfl,htk,hpu]
   exact zqfd (zju2 (tail:=[.dead]) (by simp (disch:=first|omega|simp<;>omega|fail) [-zA,-zB,-zC,-zD,-zE,zgr3 e (show L.length≤4294967296 by omega)]) (by simp (disch:=first|omega|simp<;>omega|fail) [-zA,-zB,-zC,-zD,-zE]) (by simp) (by simp (disch:=first|omega|simp<;>omega|fail) [-zA,-zB,-zC,-zD,-zE,z1r6,Am.below,zgr3 e (show L.length≤4294967296 by omega),zmq5 _ _ hpu,z8b8 _ _ (zacf x)]) (by simp (disch:=first|omega|simp<;>omega|fail) [-zA,-zB,-zC,-zD,-zE,zlf2,zljy,zj4t,z1r6,Am.below,su0])) (hT _)
noncomputable def cLiR:List DV→Option DV:=con (fun a:Sl Fct × Req=>RfOK a.1.l ∧ -1000000≤a.2.n∧a.2.n≤1000000) (fun a=>[a.1.dv 71 faC,.agg (rqC a.2)]) (fun a => .agg (suC (zu6h a.1.l a.2.n)))
theorem z3mz {x:Sl Fct} {q:Req} (h:RfOK x.l) (h1 : -1000000≤q.n) (h2:q.n≤1000000):cLiR [x.dv 71 faC,.agg (rqC q)]=some (.agg (suC (zu6h x.l q.n))) :=
 zlyi (A:=fun a:Sl Fct × Req=>RfOK a.1.l ∧ -1000000≤a.2.n∧a.2.n≤1000000) (f:=fun a:Sl Fct × Req=>[a.1.dv 71 faC,.agg (rqC a.2)]) (g:=fun a => .agg (suC (zu6h a.1.l a.2.n))) (by
  rintro ⟨a,b⟩ ⟨a',b'⟩ e
  simp only [List.cons.injEq,DV.agg.injEq,and_true] at e
  rw [z4rf e.1,z82b e.2]) (x,q) ⟨h,h1,h2⟩
theorem zf9c:(Con.pure cLiR).Sound P 84:=z2au fun a h=>znz9 Tryz.func84 z3cy (zstw a.1 a.2 h.1 h.2)
end Go.Proofs.YtdnhbfmlklaldaaGreat
set_option linter.unusedSimpArgs false
set_option linter.unusedVariables false
namespace Go.Proofs.YtdnhbfmlklaldaaGreat
open Go Go.Am
def S760 (x y:Sl Dg) (i:Nat):St:=zuzy (x.dv 32 dgC) (y.dv 32 dgC) (.int .i64 i) []
theorem zwwh (x y:Sl Dg) (h:x.l=y.l):Runs tbl0 a40 [x.dv 32 dgC,y.dv 32 dgC] (.bool true):=by
 refine ⟨?_⟩
 have hb:=x.b
 have hlx : ∀ H,lenD H (x.dv 32 dgC)=some (.int .i64 x.l.length):=fun H=>zupj
 have hly : ∀ H,lenD H (y.dv 32 dgC)=some (.int .i64 x.l.length):=fun H=>by rw [zupj,← h]
 simp (disch:=first|omega|simp<;>omega|fail) [-zA,-zB,-zC,-zD,-zE,a40,hlx,hly]
 refine zlm5 (S760 x y) (fun i=>x.l.length-i) (fun i=>i≤x.l.length) 0 (z515 (by simp (disch:=first|omega|simp<;>omega|fail) [-zA,-zB,-zC,-zD,-zE,S760,zuzy]) (by simp (disch:=first|omega|simp<;>omega|fail) [-zA,-zB,-zC,-zD,-zE,S760,zuzy])) (by omega) (fun i hi => ?_)
 simp only [S760]
 by_cases g:i<x.l.length
 ·have g':(i:Int)<x.l.length:=by omega
  have hx : ∀ H,zpsc H 32 (x.dv 32 dgC) i=some (.ref (dgC x.l[i])):=fun H=>zalo z1t1 g
  have gy:i<y.l.length:=by rw [← h]; exact g
  have hy : ∀ H,zpsc H 32 (y.dv 32 dgC) i=some (.ref (dgC y.l[i])):=fun H=>zalo z1t1 gy
  have he:y.l[i]=x.l[i]:=by simp only [h]
  rw [he] at hy
  obtain ⟨d,hd⟩ : ∃ d,x.l[i]=d:=⟨_,rfl⟩
  rw [hd] at hx hy
  simp (disch:=first|omega|simp<;>omega|fail) [-zA,-zB,-zC,-zD,-zE,z1eu,zuzy,g,g',hx,hy,hlx]
  exact ⟨i+1,z515 (by simp (disch:=first|omega|simp<;>omega|fail) [-zA,-zB,-zC,-zD,-zE,S760,zuzy]) (by simp (disch:=first|omega|simp<;>omega|fail) [-zA,-zB,-zC,-zD,-zE,S760,zuzy]),by omega,by omega⟩
 ·have g':¬ (i:Int)<x.l.length:=by omega
  simp (disch:=first|omega|simp<;>omega|fail) [-zA,-zB,-zC,-zD,-zE,z1eu,zuzy,g,g',hlx]
noncomputable def cSam:List DV→Option DV:=con (fun a:Sl Dg × Sl Dg=>a.1.l=a.2.l) (fun a=>[a.1.dv 32 dgC,a.2.dv 32 dgC]) (fun _ => .bool true)
theorem zhop {x y:Sl Dg} (h:x.l=y.l):cSam [x.dv 32 dgC,y.dv 32 dgC]=some (.bool true) :=
 zlyi (A:=fun a:Sl Dg × Sl Dg=>a.1.l=a.2.l) (f:=fun a:Sl Dg × Sl Dg=>[a.1.dv 32 dgC,a.2.dv 32 dgC]) (g:=fun _ => .bool true) (fun _ _ _=>rfl) (x,y) h
theorem zwdr:(Con.pure cSam).Sound P 40:=z2au fun a h=>zljw mix zr5o Tryz.func40 zn9f (zwwh a.1 a.2 h)
noncomputable def T760:Tbl:=addT 40 (.pure cSam) tbl0
theorem ztio:T760 40 = .pure cSam:=by simp [T760]
theorem zr6f:T760.Sound P:=z0rp zwdr zr5o
structure SupEq (a b:Sup):Prop where
 h:a.holds=b.holds
 d:a.docs.l=b.docs.l
 m:a.missing=b.missing
theorem zmmb (a b:Sup) (e:SupEq a b):Runs T760 a19 [.agg (suC a),.agg (suC b)] (.bool true):=by
 refine ⟨?_⟩
 have hc:=zhop (x:=a.docs) (y:=b.docs) e.d
 have h1:=e.h
 have h2:=e.m
 cases h3:b.holds with
 | false =>
  rw [h3] at h1
  simp (disch:=first|omega|simp<;>omega|fail) [-zA,-zB,-zC,-zD,-zE,a19,ztio,hc,h1,h2,h3]
 | true =>
  rw [h3] at h1
  simp (disch:=first|omega|simp<;>omega|fail) [-zA,-zB,-zC,-zD,-zE,a19,ztio,hc,h1,h2,h3]
noncomputable def cSSu:List DV→Option DV:=con (fun a:Sup × Sup=>SupEq a.1 a.2) (fun a=>[.agg (suC a.1),.agg (suC a.2)]) (fun _ => .bool true)
theorem z2c9 {a b:Sup} (h:SupEq a b):cSSu [.agg (suC a),.agg (suC b)]=some (.bool true) :=
 zlyi (A:=fun a:Sup × Sup=>SupEq a.1 a.2) (f:=fun a:Sup × Sup=>[.agg (suC a.1),.agg (suC a.2)]) (g:=fun _ => .bool true) (fun _ _ _=>rfl) (a,b) h
theorem zvej:(Con.pure cSSu).Sound P 19:=z2au fun a h=>zljw mix zr6f Tryz.func19 zlqi (zmmb a.1 a.2 h)
def S761 (x y:Sl Org) (i:Nat):St:=zhcc (x.dv 34 orC) (y.dv 34 orC) (.int .i64 i) []
theorem z0di (x y:Sl Org) (h:x.l=y.l):Runs tbl0 a17 [x.dv 34 orC,y.dv 34 orC] (.bool true):=by
 refine ⟨?_⟩
 have hb:=x.b
 have hlx : ∀ H,lenD H (x.dv 34 orC)=some (.int .i64 x.l.length):=fun H=>zupj
 have hly : ∀ H,lenD H (y.dv 34 orC)=some (.int .i64 x.l.length):=fun H=>by rw [zupj,← h]
 simp (disch:=first|omega|simp<;>omega|fail) [-zA,-zB,-zC,-zD,-zE,a17,hlx,hly]
 refine zlm5 (S761 x y) (fun i=>x.l.length-i) (fun i=>i≤x.l.length) 0 (z515 (by simp (disch:=first|omega|simp<;>omega|fail) [-zA,-zB,-zC,-zD,-zE,S761,zhcc]) (by simp (disch:=first|omega|simp<;>omega|fail) [-zA,-zB,-zC,-zD,-zE,S761,zhcc])) (by omega) (fun i hi => ?_)
 simp only [S761]
 by_cases g:i<x.l.length
 ·have g':(i:Int)<x.l.length:=by omega
  have hx : ∀ H,zpsc H 34 (x.dv 34 orC) i=some (.ref (orC x.l[i])):=fun H=>zalo zu78 g
  have gy:i<y.l.length:=by rw [← h]; exact g
  have hy : ∀ H,zpsc H 34 (y.dv 34 orC) i=some (.ref (orC y.l[i])):=fun H=>zalo zu78 gy
  have he:y.l[i]=x.l[i]:=by simp only [h]
  rw [he] at hy
  obtain ⟨d,hd⟩ : ∃ d,x.l[i]=d:=⟨_,rfl⟩
  rw [hd] at hx hy
  simp (disch:=first|omega|simp<;>omega|fail) [-zA,-zB,-zC,-zD,-zE,z4pl,zhcc,g,g',hx,hy,hlx]
  exact ⟨i+1,z515 (by simp (disch:=first|omega|simp<;>omega|fail) [-zA,-zB,-zC,-zD,-zE,S761,zhcc]) (by simp (disch:=first|omega|simp<;>omega|fail) [-zA,-zB,-zC,-zD,-zE,S761,zhcc]),by omega,by omega⟩
 ·have g':¬ (i:Int)<x.l.length:=by omega
  simp (disch:=first|omega|simp<;>omega|fail) [-zA,-zB,-zC,-zD,-zE,z4pl,zhcc,g,g',hlx]
noncomputable def cSOr:List DV→Option DV:=con (fun a:Sl Org × Sl Org=>a.1.l=a.2.l) (fun a=>[a.1.dv 34 orC,a.2.dv 34 orC]) (fun _ => .bool true)
theorem zcdg {x y:Sl Org} (h:x.l=y.l):cSOr [x.dv 34 orC,y.dv 34 orC]=some (.bool true) :=
 zlyi (A:=fun a:Sl Org × Sl Org=>a.1.l=a.2.l) (f:=fun a:Sl Org × Sl Org=>[a.1.dv 34 orC,a.2.dv 34 orC]) (g:=fun _ => .bool true) (fun _ _ _=>rfl) (x,y) h
theorem z53h:(Con.pure cSOr).Sound P 17:=z2au fun a h=>zljw mix zr5o Tryz.func17 zcaf (z0di a.1 a.2 h)
end Go.Proofs.YtdnhbfmlklaldaaGreat
