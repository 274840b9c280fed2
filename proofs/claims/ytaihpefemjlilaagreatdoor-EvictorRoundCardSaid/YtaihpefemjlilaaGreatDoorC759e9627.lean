import Derived.Test.YtaihpefemjlilaaGreatDoorC4bb2b95d
import Derived.Test.YtaihpefemjlilaaGreatDoorC1b265590
import Derived.Test.YtaihpefemjlilaaGreatDoorC2ceefa77
import Derived.Test.YtaihpefemjlilaaGreatDoorC3c839cb1
import Derived.Test.YtaihpefemjlilaaGreatDoorCd734b161
import Derived.Test.YtaihpefemjlilaaGreatDoorCb3c5e46e
import Derived.Test.YtaihpefemjlilaaGreatDoorC2e7c3fe1
import Derived.Test.YtaihpefemjlilaaGreatDoorC1321c039
import Derived.Test.YtaihpefemjlilaaGreatDoorC993bf049
set_option linter.unusedSimpArgs false
set_option linter.unusedVariables false
set_option maxRecDepth 20000
set_option maxHeartbeats 4000000
open List renaming map_take → zA, map_drop → zB, map_set → zC, map_append → zD, drop_one → zE
open Bool renaming and_eq_true → y05, and_self → y0u
open Int renaming toNat_natCast → y0o
open List renaming take_of_length_le → y00, getElem?_eq_getElem → y01, mem_of_mem_take → y02, getElem_mem → y04, take_sublist → y06, drop_zero → y07, take_succ_eq_append_getElem → y08, length_take → y09, find?_eq_some_iff_getElem → y0a, mem_reverse → y0b, getElem_of_mem → y0d, length_append → y0e, foldl_append → y0f, filter_cons → y0g, set_append_right → y0h, length_map → y0i, append_nil → y0j, find?_eq_none → y0l, getElem_of_eq → y0m, getElem?_append_right → y0n, mem_of_find?_eq_some → y0p, mem_append → y0r, length_filter_le → y0t
open Nat renaming le_refl → y03, zero_le → y0c, sub_self → y0k
open Option renaming bind_some → y0q, map_some → y0s
namespace Go.Proofs.YtaihpefemjlilaaGreatDoor
open Go Go.Am
theorem yVW9 {n0:Nat} {x:ACode} {Φ:AExit→St→Prop} {st:St} (h:W tbl0 n0 x Φ st):V P n0 x Φ st:=V_W mix zr5o h
theorem yVS9 {n0:Nat} {x y:ACode} {Φ:AExit→St→Prop} {st:St} (h:W tbl0 n0 x (z2pk P n0 y Φ) st):V P n0 (.seq x y) Φ st:=zbn1 (V_W mix zr5o h)
section
def qSt (k:Nat) (g:Grp) (b:Bool) (x:Ins):Bool:=decide (x.grp=(k:Int))&&(decide (x.state=1)&&(chos g x == b))
theorem zf69 {k:Nat} {g:Grp} {b:Bool} : ∀ x,qSt k g b x=true→x.state≠3:=fun x h=>by
 simp only [qSt,y05,decide_eq_true_eq] at h;omega
theorem zc13 {l:List Int} (h:l.Nodup):l.reverse.Nodup:=List.pairwise_reverse.2 (h.imp fun {a b} q=>q.symm)
theorem znyp {V G:List Int} (h:V.Nodup) (h' : ∀ i ∈ V,i ∈ G):(G.filter (fun i=>decide (i ∉ V))).length+V.length≤G.length:=zwjn h h'
section
variable {c:Clu} {s:Rnd} {B O:Nat} {t:Int} {k:Nat} {tr:List Tri} {ix:List Ixe}
theorem zdwj (h:RI (c.g.l.map gl) s B O) (hk:k<c.g.l.length) {b:Bool}:stgL k (znqs s.c k) b s.c.i.l=idsQ (qSt k c.g.l[k] b) s.c.i.l:=by
 rw [z1ms h.g hk];obtain ⟨G,a⟩ : ∃ G,idsQ (qGd k c.g.l[k]) s.c.i.l=G:=⟨_,rfl⟩;rw [a];show (s.c.i.l.filter (stgB k G b)).map Ins.id=(s.c.i.l.filter (qSt k c.g.l[k] b)).map Ins.id;refine congrArg _ (List.filter_congr fun x hx => ?_)
 unfold stgB qSt;by_cases h1:x.grp=k
 ·by_cases h2:x.state=1
  ·have:decide (x.id ∈ G)=chos c.g.l[k] x:=by
    rw [← a];cases hc:chos c.g.l[k] x with
    | true=>rw [decide_eq_true_eq]; exact z6r9.2 ⟨x,hx,by simp [qGd,z9qu,hc,h1,h2],rfl⟩
    | false =>
     rw [decide_eq_false_iff_not];intro hm;obtain ⟨y,f,p,e⟩:=z6r9.1 hm;have:=z4mt (zyak h.v).d f hx e;subst this;simp [qGd,z9qu,hc] at p
   rw [this]
  ·simp [h2]
 ·simp [h1]
def z7wz (k:Nat) (g:Grp) (l:List Ins):Int:=max (((idsQ (qLv k) l).length:Int)-max g.least (g.want-g.down)) 0
structure Quiet (k:Nat) (g:Grp) (l:List Ins):Prop where
 a:idsQ (qSt k g false) l=[]
 b:((idsQ (qGd k g) l).length:Int)≤g.want∨idsQ (qSt k g true) l=[]
 c:z7wz k g l=0∨(idsQ (qDn k) l=[]∧idsQ (qRp k g) l=[]∧(idsQ (qSp k g) l=[]∨((idsQ (qGd k g) l).length:Int)≤g.want))
theorem zsd3 (h:RI (c.g.l.map gl) s B O) (hk:k<c.g.l.length):(zu3j s.c k).Nodup:=by
 have i:=(zyak h.v).d;rw [zssx h.g hk,List.nodup_append];refine ⟨(zo43 _).nodup_iff.2 (zofr i),?_,fun a f b hb e => ?_⟩
 ·rw [List.nodup_append];refine ⟨zofr i,((zc13 (zofr i)).sublist (y06 _ _)),fun a f b hb e => ?_⟩
  subst e;have hb:=y0b.1 (y02 hb);obtain ⟨x,_,_,p,q⟩:=zp8u i f hb;simp only [qRp,sRep,qSp,z7e4,y05,Bool.not_eq_true'] at p q;rw [q.2.2] at p;simp at p
 ·subst e;have f:=(zo43 _).mem_iff.1 f;rcases y0r.1 hb with hb|hb
  ·obtain ⟨x,_,_,p,q⟩:=zp8u i f hb;simp only [qDn,qRp,sRep,y05,decide_eq_true_eq] at p q;omega
  ·have hb:=y0b.1 (y02 hb);obtain ⟨x,_,_,p,q⟩:=zp8u i f hb;simp only [qDn,qSp,z7e4,chos,y05,decide_eq_true_eq] at p q;omega
theorem zzgu (h:RI (c.g.l.map gl) s B O) (hk:k<c.g.l.length) : ∀ i ∈ zu3j s.c k,i ∈ idsQ (qLv k) s.c.i.l:=fun i hi=>by
 rw [zssx h.g hk] at hi;have key : ∀ {q:Ins→Bool},(∀ x,q x=true→qLv k x=true)→i ∈ idsQ q s.c.i.l→i ∈ idsQ (qLv k) s.c.i.l:=fun hq hm=>by
  obtain ⟨x,hx,p,e⟩:=z6r9.1 hm;exact z6r9.2 ⟨x,hx,hq x p,e⟩
 rcases y0r.1 hi with m|m
 ·exact key (fun x p=>by simp only [qDn,qLv,y05] at p ⊢; exact ⟨p.1,p.2.1⟩) ((zo43 _).mem_iff.1 m)
 ·rcases y0r.1 m with m|m
  ·exact key (fun x p=>by simp only [qRp,sRep,qLv,y05] at p ⊢; exact ⟨p.1,p.2.1.1⟩) m
  ·exact key (fun x p=>by simp only [qSp,z7e4,qLv,y05] at p ⊢; exact ⟨p.1,p.2.1⟩) (y0b.1 (y02 m))
theorem zizy {g:Grp} : ∀ x,qSt k g true x=true→qGd k g x=true:=fun x p=>by
 simp only [qSt,qGd,z9qu,y05,decide_eq_true_eq,beq_iff_eq] at p ⊢;exact ⟨p.1,by omega,p.2.2⟩
end
end
section
instance decRqs:DecidableEq Rqs:=fun a b=>decidable_of_iff (a.ns=b.ns∧a.im=b.im∧a.art=b.art) (by
 obtain ⟨a1,a2,a3⟩:=a
 obtain ⟨b1,b2,b3⟩:=b
 simp)
def fnX (l:List Ixe) (r:Rqs):Int:=ixI (fun x=>decide (ixR x=r)) l
theorem zdg1 {a b a' b':List UInt8}:z32s [1,1] [.str a,.str b] [.str a',.str b']=some (decide (a=a'∧b=b')):=by
 have e : ∀ x y:List UInt8,(x == y)=decide (x=y):=fun x y=>by by_cases h:x=y<;>simp [h]
 simp [z32s,znnj,e]
theorem zchb {x y:Rqs}:z32s (zi5g [(2,1),(32,0)]) (rqC x) (rqC y)=some (decide (x=y)):=by
 have e:zi5g [(2,1),(32,0)]=[1,1]++zi5g [(32,0)]:=by decide
 have d : ∀ x:Rqs,rqC x=[.str x.ns,.str x.im]++dgC x.art:=fun _=>rfl
 rw [e,d,d,zid2 rfl rfl,zyiz,zdg1];obtain ⟨a,b,c⟩:=x;obtain ⟨f,g,h⟩:=y;simp only [y0q,y0s,Rqs.mk.injEq,Option.some.injEq,Bool.decide_and,Bool.and_assoc]
def zqbc (x:Idx) (r:Rqs) (i:Nat):St:=zbk2 (.mp 0 2 0) (.mp 1 34 0) (.int .i64 i) [.cells (xiC x),.cells (rqC r)]
theorem zpqv (x:Idx) (r:Rqs):Runs tbl0 a62 [.agg (xiC x),.agg (rqC r)] (.int .i64 (fnX x.e.l r)):=by
 refine ⟨?_⟩;have u:=x.e.b;have n : ∀ h,boxD h (.agg (xiC x))=some (.mp h.length 2 0,h++[.cells (xiC x)]):=fun h=>by rw [zn72]; rfl
 have m : ∀ h,boxD h (.agg (rqC r))=some (.mp h.length 34 0,h++[.cells (rqC r)]):=fun h=>by rw [zn72,zzeg]
 have o:(xiC x).length=2:=rfl;have q:oneC 1 false ((xiC x).drop 1)=some (x.e.dv 105 ixC):=rfl;have c : ∀ H,lenD H (x.e.dv 105 ixC)=some (.int .i64 x.e.l.length):=fun H=>zupj
 simp (disch:=first|omega|simp<;>omega|fail) [-zE,a62,n,m];refine zlm5 (zqbc x r) (fun i=>x.e.l.length-i) (fun i=>i≤x.e.l.length ∧ ∀ j (hj:j<x.e.l.length),j<i→decide (ixR x.e.l[j]=r)=false) 0 (yWS (by simp [-zE,zqbc,zbk2])) ⟨by omega,fun j _ hj=>by omega⟩ (fun i hi => ?_)
 obtain ⟨t,k⟩:=hi;simp only [zqbc];by_cases h:i<x.e.l.length
 ·have g:(i:Int)<x.e.l.length:=by omega
  have s : ∀ H,zpsc H 105 (x.e.dv 105 ixC) i=some (.ref (ixC x.e.l[i])):=fun H=>zalo zwe8 h
  have f:=zdyd x.e.l[i];have a:=zchb (x:=ixR x.e.l[i]) (y:=r);have d:=zzeg r;by_cases e:ixR x.e.l[i]=r
  ·have p:fnX x.e.l r=i:=zy9u h (by simp [e]) k
   rw [decide_eq_true e] at a;simp (disch:=first|omega|simp<;>omega|fail) [-zE,z1dk,zbk2,g,h,s,o,q,c,f,zed4,d,a,p,zwe8]
  ·rw [decide_eq_false e] at a;simp (disch:=first|omega|simp<;>omega|fail) [-zE,z1dk,zbk2,g,h,s,o,q,c,f,zed4,d,a,zwe8];refine ⟨i+1,yWS (by simp [-zE,zqbc,zbk2]),by omega,by omega,fun j hj hji => ?_⟩
   by_cases ej:j=i
   ·subst ej; simpa using e
   ·simpa using k j hj (by omega)
 ·have g:¬ (i:Int)<x.e.l.length:=by omega
  have p:fnX x.e.l r = -1:=zfki (fun j hj=>k j hj (by omega))
  simp (disch:=first|omega|simp<;>omega|fail) [-zE,z1dk,zbk2,h,g,o,q,c,p]
noncomputable def cFnX:List DV→Option DV:=con (fun _=>True) (fun a:Idx × Rqs=>[.agg (xiC a.1),.agg (rqC a.2)]) (fun a => .int .i64 (fnX a.1.e.l a.2))
theorem z7y2 {x:Idx} {r:Rqs}:cFnX [.agg (xiC x),.agg (rqC r)]=some (.int .i64 (fnX x.e.l r)) :=
 zsn4 (f:=fun a:Idx × Rqs=>[.agg (xiC a.1),.agg (rqC a.2)]) (g:=fun a => .int .i64 (fnX a.1.e.l a.2)) (fun a b e=>z64q e) (x,r)
noncomputable def z1q2:Tbl:=addT 62 (.pure cFnX) tbl0
theorem z7pi:z1q2 62 = .pure cFnX:=by simp [z1q2]
theorem zx2t:z1q2.Sound P:=z0rp (z2au fun a _=>zljw mix zr5o Tryz.func62 z0i3 (zpqv a.1 a.2)) zr5o
def alwL (l:List Ixe) (r:Rqs):Bool:=match l.find? (fun x=>decide (ixR x=r)) with
 | some x=>x.ok
 | none=>false
theorem zhxo (x:Idx) (r:Rqs):Runs z1q2 a31 [.agg (xiC x),.agg (rqC r)] (.bool (alwL x.e.l r)):=by
 refine ⟨?_⟩;have y:=x.e.b;have c : ∀ h,boxD h (.agg (xiC x))=some (.mp h.length 2 0,h++[.cells (xiC x)]):=fun h=>by rw [zn72]; rfl
 have a : ∀ h,boxD h (.agg (rqC r))=some (.mp h.length 34 0,h++[.cells (rqC r)]):=fun h=>by rw [zn72,zzeg]
 have o:(xiC x).length=2:=rfl;have s:oneC 1 false ((xiC x).drop 1)=some (x.e.dv 105 ixC):=rfl;have t:oneC 2 true (xiC x)=some (.agg (xiC x)):=rfl;have g:=z7y2 (x:=x) (r:=r);have p:=zqx0 x;have f:=zhqv r;unfold alwL;cases hf:x.e.l.find? (fun x=>decide (ixR x=r)) with
 | none =>
  rw [y0l] at hf;have k:fnX x.e.l r = -1:=zfki (fun j hj=>by simpa using hf _ (y04 hj))
  rw [k] at g;simp (disch:=first|omega|simp<;>omega|fail) [-zE,a31,c,a,o,s,t,zzeg,zed4,z7pi,g,p,f]
 | some u =>
  rw [y0a] at hf;obtain ⟨v,i,n,rfl,w⟩:=hf;have k:fnX x.e.l r=i:=zy9u n v (fun j hj hji=>by simpa using w j hji)
  rw [k] at g;have m : ∀ H,zpsc H 105 (x.e.dv 105 ixC) i=some (.ref (ixC x.e.l[i])):=fun H=>zalo zwe8 n
  have d:=z9gm x.e.l[i];obtain ⟨u,q⟩ : ∃ u,x.e.l[i]=u:=⟨_,rfl⟩;rw [q] at m d;simp only [q];simp (disch:=first|omega|simp<;>omega|fail) [-zE,a31,c,a,o,s,t,zzeg,zed4,z7pi,g,p,f,m,d,zwe8]
noncomputable def zpn3:List DV→Option DV:=con (fun _=>True) (fun a:Idx × Rqs=>[.agg (xiC a.1),.agg (rqC a.2)]) (fun a => .bool (alwL a.1.e.l a.2))
theorem z40z {x:Idx} {r:Rqs}:zpn3 [.agg (xiC x),.agg (rqC r)]=some (.bool (alwL x.e.l r)) :=
 zsn4 (f:=fun a:Idx × Rqs=>[.agg (xiC a.1),.agg (rqC a.2)]) (g:=fun a => .bool (alwL a.1.e.l a.2)) (fun a b e=>z64q e) (x,r)
theorem zwim:(Con.pure zpn3).Sound P 31:=z2au fun a _=>zljw mix zx2t Tryz.func31 zjer (zhxo a.1 a.2)
theorem z9ya {r:Rqs} {x:Ixe}:cmpR r x=0↔ixR x=r:=by
 obtain ⟨a,b,c⟩:=r;unfold cmpR or3I ixR;simp only [Rqs.mk.injEq];by_cases e1:x.ns=a
 ·rw [if_pos (zmen.2 e1)];by_cases e2:x.im=b
  ·rw [if_pos (zmen.2 e2),zuux]; simp [e1,e2]
  ·rw [if_neg (fun q=>e2 (zmen.1 q))]
   simp only [e1,e2,true_and,false_and,iff_false];exact fun q=>e2 (zmen.1 q)
 ·rw [if_neg (fun q=>e1 (zmen.1 q))]
  simp only [e1,false_and,iff_false];exact fun q=>e1 (zmen.1 q)
theorem z3po {l:List Ixe} (h:SrtX l) (r:Rqs):alwB l r=alwL l r:=by
 have n:=fun i=>zgek (c:=cmpR r) (l:=l) (i:=i)
 unfold alwL;cases hf:l.find? (fun x=>decide (ixR x=r)) with
 | none =>
  rw [y0l] at hf;unfold alwB;have:fOf (cmpR r) l=false:=by
   cases q:fOf (cmpR r) l with
   | false=>rfl
   | true =>
    obtain ⟨p,e⟩:=zsfp q;have:=hf _ (y04 p);simp only [decide_eq_true_eq] at this;exact absurd (z9ya.1 e) this
  rw [this]; rfl
 | some u =>
  rw [y0a] at hf;obtain ⟨a,i,g,rfl,k⟩:=hf;have a:ixR l[i]=r:=by simpa using a
  have d:=n i (by omega) (fun m hm hmi=>by
   have j:=List.pairwise_iff_getElem.1 h m i hm g hmi;have f:=k m hmi;simp only [Bool.not_eq_true',decide_eq_false_iff_not] at f;rw [zqdf,← a];rcases zenn.tot (ixR l[m]) (ixR l[i]) with q|q|q
   ·exact q
   ·exact absurd (q.trans a) f
   ·rw [q] at j; cases j) (fun _ q=>by
   rw [zqdf,a,zenn.irr] at q; cases q)
  have b:=zjjt d g;rw [z9ya.2 a] at b;unfold alwB;rw [b,d,y01 g]; rfl
theorem zkg1 {g:Int} {d:Dg} {x:Tri}:cmpT g d x=0↔x.grp=g∧x.art=d:=by
 unfold cmpT orI;by_cases e:x.grp=g
 ·rw [if_pos (zybz.2 e),zuux]; simp [e]
 ·rw [if_neg (fun q=>e (zybz.1 q))]
  simp only [e,false_and,iff_false];exact fun q=>e (zybz.1 q)
noncomputable def zq2u:Tbl:=addT 75 (.pure zta3) tbl0
theorem z94u:zq2u 75 = .pure zta3:=by simp [zq2u]
theorem zs4r:zq2u.Sound P:=z0rp zp63 zr5o
theorem z9kc (x:Tri):oneC 32 true ((trC x).drop 1)=some (.agg (dgC x.art)):=by
 rw [zst3]; simp only [oneC,if_true]; rw [if_pos (by simp [z1t1]),List.take_left' (z1t1 _)]
def zybp (x:Sl Tri) (g:Int) (d:Dg) (i:Nat):St:=z7h3 (x.dv 35 trC) (.int .i64 g) (.mp 0 32 0) (.int .i64 i) [.cells (dgC d)]
theorem z89k (x:Sl Tri) (g:Int) (d:Dg):Runs zq2u a45 [x.dv 35 trC,.int .i64 g,.agg (dgC d)] (.tup [.int .i64 (kOf (cmpT g d) x.l),.bool (fOf (cmpT g d) x.l)]):=by
 refine ⟨?_⟩;have E:=x.b;have w : ∀ h,boxD h (.agg (dgC d))=some (.mp h.length 32 0,h++[.cells (dgC d)]):=fun h=>by rw [zn72,z1t1]
 have k : ∀ H,lenD H (x.dv 35 trC)=some (.int .i64 x.l.length):=fun H=>zupj
 simp (disch:=first|omega|simp<;>omega|fail) [-zE,a45,w];refine zlm5 (zybp x g d) (fun i=>x.l.length-i) (fun i=>i≤x.l.length ∧ ∀ j (hj:j<x.l.length),j<i→cmpT g d x.l[j]<0) 0 (yWS (by simp [-zE,zybp,z7h3])) ⟨by omega,fun j _ hj=>by omega⟩ (fun i hi => ?_)
 obtain ⟨C,B⟩:=hi;simp only [zybp];have e:=zgek (c:=cmpT g d) (l:=x.l) C (fun m hm hmi=>B m hm hmi)
 by_cases h:i<x.l.length
 case neg =>
  have t:¬ (i:Int)<x.l.length:=by omega
  have o:=e (fun q=>absurd q h)
  have r:=zj9m o h;simp (disch:=first|omega|simp<;>omega|fail) [-zE,zmv1,z7h3,h,t,k,o,r]
 have t:(i:Int)<x.l.length:=by omega
 have u : ∀ H,zpsc H 35 (x.dv 35 trC) i=some (.ref (trC x.l[i])):=fun H=>zalo zezj h
 have f:=zc02 (g:=g) (d:=d) (x:=x.l[i]);have v:=zkg1 (g:=g) (d:=d) (x:=x.l[i]);have s:=fun o=>zjjt (c:=cmpT g d) (l:=x.l) (i:=i) o h
 have n:cmpT g d x.l[i]<0 → ∀ j (hj:j<x.l.length),j<i+1→cmpT g d x.l[j]<0:=fun q j hj hji=>by
  by_cases ej:j=i
  ·subst ej; exact q
  ·exact B j hj (by omega)
 have e:¬ cmpT g d x.l[i]<0→kOf (cmpT g d) x.l=i:=fun q=>e (fun _=>q)
 obtain ⟨y,D⟩ : ∃ y,x.l[i]=y:=⟨_,rfl⟩;rw [D] at u f v s n e;have p:=z577 (a:=y.art) (b:=d);by_cases e1:y.grp<g
 ·simp (disch:=first|omega|simp<;>omega|fail) [-zE,zmv1,z7h3,h,t,k,u,zezj,z7fr,e1];exact ⟨i+1,yWS (by simp [-zE,zybp,z7h3]),by omega,by omega,n (f.2 (.inl e1))⟩
 by_cases e2:y.grp=g
 ·cases e3:dgLt y.art d with
  | true =>
   rw [e3] at p;simp (disch:=first|omega|simp<;>omega|fail) [-zE,zmv1,z7h3,h,t,k,u,zezj,z7fr,z9kc,zwwo,z1t1,e1,e2,z94u,p,z3ot];exact ⟨i+1,yWS (by simp [-zE,zybp,z7h3]),by omega,by omega,n (f.2 (.inr ⟨e2,e3⟩))⟩
  | false =>
   rw [e3] at p;have A:¬ cmpT g d y<0:=fun q=>by
    rcases f.1 q with q|q
    ·exact e1 q
    ·rw [q.2] at e3; cases e3
   have o:=e A;have r:=s o;have z:decide (cmpT g d y=0)=decide (y.art=d):=decide_eq_decide.2 (by rw [v]; simp [e2])
   rw [z] at r;simp (disch:=first|omega|simp<;>omega|fail) [-zE,zmv1,z7h3,h,t,k,u,zezj,z7fr,z9kc,zwwo,z1t1,e1,e2,z94u,p,z3ot,o,r]
 ·have A:¬ cmpT g d y<0:=fun q=>by
   rcases f.1 q with q|q
   ·exact e1 q
   ·exact e2 q.1
  have o:=e A;have r:=s o;have z:decide (cmpT g d y=0)=false:=decide_eq_false fun q=>e2 (v.1 q).1
  rw [z] at r;simp (disch:=first|omega|simp<;>omega|fail) [-zE,zmv1,z7h3,h,t,k,u,zezj,z7fr,e1,e2,o,r]
noncomputable def cFnd:List DV→Option DV:=con (fun _=>True) (fun a:Sl Tri × Int × Dg=>[a.1.dv 35 trC,.int .i64 a.2.1,.agg (dgC a.2.2)]) (fun a => .tup [.int .i64 (kOf (cmpT a.2.1 a.2.2) a.1.l),.bool (fOf (cmpT a.2.1 a.2.2) a.1.l)])
theorem zfnr {x:Sl Tri} {g:Int} {d:Dg}:cFnd [x.dv 35 trC,.int .i64 g,.agg (dgC d)]=some (.tup [.int .i64 (kOf (cmpT g d) x.l),.bool (fOf (cmpT g d) x.l)]) :=
 zsn4 (f:=fun a:Sl Tri × Int × Dg=>[a.1.dv 35 trC,.int .i64 a.2.1,.agg (dgC a.2.2)]) (g:=fun a => .tup [.int .i64 (kOf (cmpT a.2.1 a.2.2) a.1.l),.bool (fOf (cmpT a.2.1 a.2.2) a.1.l)]) (by
  rintro ⟨a,b,c⟩ ⟨a',b',c'⟩ e;simp only [List.cons.injEq,DV.agg.injEq,DV.int.injEq,and_true,true_and] at e;rw [z47i e.1,e.2.1,zib9 e.2.2]) (x,g,d)
theorem zpch:(Con.pure cFnd).Sound P 45:=z2au fun a _=>zljw mix zs4r Tryz.func45 z94d (z89k a.1 a.2.1 a.2.2)
noncomputable def z6at:Tbl:=addT 45 (.pure cFnd) (addT 31 (.pure zpn3) tbl0)
theorem z69h:z6at 45 = .pure cFnd:=by simp [z6at]
theorem zn9f:z6at 31 = .pure zpn3:=by simp [z6at]
theorem zmnc:z6at.Sound P:=z0rp zpch (z0rp zwim zr5o)
def zpvs (c:Clu) (x:Idx) (tr:Sl Tri) (g:Grp) (k t:Int) (i:Nat):St:=zben (tr.dv 35 trC) (.int .i64 k) (.int .i64 t) (.mp 1 2 0) (.mp 2 32 0) (.mp 3 6 0) (.int .i64 i) [.cells (clC c),.cells (xiC x),.cells (dgC dg0),.cells (grC g)]
theorem zck0 (c:Clu) (x:Idx) (tr:Sl Tri) (k t:Int) (ok:SrtX x.e.l):Runs z6at a24 [.agg (clC c),.agg (xiC x),tr.dv 35 trC,.int .i64 k,.int .i64 t] (choD (choC tr.l x.e.l c k t)):=by
 refine ⟨?_⟩;have L : ∀ h,boxD h (.agg (clC c))=some (.mp h.length 3 0,h++[.cells (clC c)]):=fun h=>by rw [zn72,zlha]
 have N : ∀ h,boxD h (.agg (xiC x))=some (.mp h.length 2 0,h++[.cells (xiC x)]):=fun h=>by rw [zn72]; rfl
 have T : ∀ H,lenD H (c.g.dv 6 grC)=some (.int .i64 c.g.l.length):=fun H=>zupj
 have a1:=c.g.b;have f : ∀ d,oneC 32 true (dgC d)=some (.agg (dgC d)):=fun d=>by simp [oneC,z1t1,y00]
 have o:=zvgf;have K:zvnk (dgC dg0) []=some (.agg (dgC dg0)):=rfl;by_cases k0:k<0
 ·have B:choC tr.l x.e.l c k t=none:=by unfold choC grAt; rw [if_neg (by omega)]
  rw [B];simp (disch:=first|omega|simp<;>omega|fail) [-zE,a24,L,N,k0,z4hl,K,o,f,choD]
 by_cases k1:(c.g.l.length:Int)≤k
 ·have B:choC tr.l x.e.l c k t=none:=by
   unfold choC grAt; rw [if_pos (by omega),List.getElem?_eq_none (by omega)]
  rw [B];simp (disch:=first|omega|simp<;>omega|fail) [-zE,a24,L,N,k0,T,k1,z4hl,K,o,f,choD]
 obtain ⟨m,rfl⟩:=Int.eq_ofNat_of_zero_le (show 0≤k by omega)
 have hm:m<c.g.l.length:=by omega
 have S : ∀ H,zpsc H 6 (c.g.dv 6 grC) m=some (.ref (grC c.g.l[m])):=fun H=>zalo zry4 hm
 have B:choC tr.l x.e.l c m t=choF tr.l x.e.l c.g.l[m] m t:=by
  unfold choC grAt; rw [if_pos (by omega),y0o,y01 hm]
 rw [B];obtain ⟨g,hg⟩ : ∃ g,c.g.l[m]=g:=⟨_,rfl⟩;rw [hg] at S;rw [hg];have v : ∀ H,lenD H (g.ch.dv 32 dgC)=some (.int .i64 g.ch.l.length):=fun H=>zupj
 have a0:=g.ch.b;have Z : ∀ (h:List AObj) (id:Nat) (z:List DV),z.length=6→zy6o h id 6 0 (.agg (grC g)) (some z)=some (.junk,h.set id (.cells (grC g))):=fun h id z hz=>zfc1 (zry4 g) hz (by simp [grC,z4ja])
 have k2:¬ (c.g.l.length:Int)≤(m:Int):=k1;have k3:¬ c.g.l.length≤m:=by omega
 simp (disch:=first|omega|simp<;>omega|fail) [-zE,a24,L,N,k0,T,k1,k2,k3,S,z4hl,Z];have G:=zqx0 x;have y:=zm7q tr;refine zlm5 (zpvs c x tr g m t) (fun i=>g.ch.l.length-i) (fun i=>i≤g.ch.l.length ∧ ∀ j (h:j<g.ch.l.length),j<i→choB tr.l x.e.l g m t g.ch.l[j]=false) 0 (yWS (by simp [-zE,zpvs,zben])) ⟨by omega,fun j _ w=>by omega⟩ (fun i hi => ?_)
 obtain ⟨q1,q2⟩:=hi;simp only [zpvs];by_cases h:i<g.ch.l.length
 case neg =>
  have J:¬ (i:Int)<g.ch.l.length:=by omega
  have B:choF tr.l x.e.l g m t=none:=by
   unfold choF;rw [y0l];intro d X;obtain ⟨j,w,e⟩:=y0d X;have:=q2 j w (by omega)
   rw [e] at this; rw [this]; simp
  rw [B];simp (disch:=first|omega|simp<;>omega|fail) [-zE,zqw7,zben,h,J,v,zry4,K,z4hl,o,f,choD]
 have J:(i:Int)<g.ch.l.length:=by omega
 have O : ∀ H,zpsc H 32 (g.ch.dv 32 dgC) i=some (.ref (dgC g.ch.l[i])):=fun H=>zalo z1t1 h
 have a:choB tr.l x.e.l g m t g.ch.l[i]=false → ∀ j (h:j<g.ch.l.length),j<i+1→choB tr.l x.e.l g m t g.ch.l[j]=false:=fun e j w hji=>by
  by_cases ej:j=i
  ·subst ej; exact e
  ·exact q2 j w (by omega)
 have B:choB tr.l x.e.l g m t g.ch.l[i]=true→choF tr.l x.e.l g m t=some g.ch.l[i]:=fun e=>by
  unfold choF;rw [y0a];exact ⟨e,i,h,rfl,fun j w=>by rw [q2 j (by omega) w]; rfl⟩
 obtain ⟨d,X⟩ : ∃ d,g.ch.l[i]=d:=⟨_,rfl⟩;rw [X] at O a B;have n:=zfnr (x:=tr) (g:=m) (d:=d);have q:=z40z (x:=x) (r:=⟨g.ns,g.im,d⟩);rw [← z3po ok] at q;have C:DV.str g.ns :: .str g.im::dgC d=rqC ⟨g.ns,g.im,d⟩:=rfl;have D:choB tr.l x.e.l g m t d=(!zvlr tr.l m d t&&alwB x.e.l ⟨g.ns,g.im,d⟩):=rfl;have p:=fun z (hz:z.length=34)=>zxtu (z:=z) (r:=⟨g.ns,g.im,d⟩) hz
 obtain ⟨R,hR⟩ : ∃ R:Rqs,(⟨g.ns,g.im,d⟩:Rqs)=R:=⟨_,rfl⟩;rw [hR] at q C D p;have p : ∀ z:List DV,z.length=34→zvnk z [(0,1,.str g.ns),(1,1,.str g.im),(2,32,.agg (dgC d))]=some (.agg (rqC R)):=fun z hz=>by rw [← p z hz,← hR]
 have F:zbao (rqC R)=true:=zhqv R;have W:oneC 2 true (xiC x)=some (.agg (xiC x)):=rfl;have s:zvlr tr.l m d t=(fOf (cmpT m d) tr.l&&decide (t<((tr.l[kOf (cmpT m d) tr.l]?).map Tri.af).getD 0)):=rfl;obtain ⟨A,hA⟩ : ∃ A,alwB x.e.l R=A:=⟨_,rfl⟩;rw [hA] at q D;have E:(xiC x).length=2:=rfl;obtain ⟨V,Y⟩ : ∃ V,kOf (cmpT m d) tr.l=V:=⟨_,rfl⟩;have Q:=fun h=>zsfp (c:=cmpT m d) (l:=tr.l) h
 rw [Y] at n s Q;cases hf:fOf (cmpT m d) tr.l with
 | false =>
  rw [hf] at n s;have s:zvlr tr.l m d t=false:=s;rw [s] at D;cases A with
  | true =>
   rw [B (by rw [D]; rfl)]
   simp (disch:=first|omega|simp<;>omega|fail) [-zE,zqw7,zben,h,J,v,O,f,z4hl,o,z69h,n,y,z1t1,E,W,zry4,zn7v,zuiq,zmm6,p,C,zn9f,q,G,F,choD]
  | false =>
   have a:=a (by rw [D]; rfl)
   simp (disch:=first|omega|simp<;>omega|fail) [-zE,zqw7,zben,h,J,v,O,f,z4hl,o,z69h,n,y,z1t1,E,W,zry4,zn7v,zuiq,zmm6,p,C,zn9f,q,G,F];exact ⟨i+1,yWS (by simp [-zE,zpvs,zben]),by omega,by omega,fun j w hji=>a j w hji⟩
 | true =>
  obtain ⟨U,_⟩:=Q hf;have I : ∀ H,zpsc H 35 (tr.dv 35 trC) V=some (.ref (trC tr.l[V])):=fun H=>zalo zezj U
  rw [hf,y01 U] at s;rw [hf] at n;obtain ⟨u,hu⟩ : ∃ u,tr.l[V]=u:=⟨_,rfl⟩;rw [hu] at I s;have s:zvlr tr.l m d t=decide (t<u.af):=s;by_cases hlt:t<u.af
  ·rw [decide_eq_true hlt] at s;rw [s] at D;have a:=a D;simp (disch:=first|omega|simp<;>omega|fail) [-zE,zqw7,zben,h,J,v,O,f,z4hl,o,z69h,n,y,z1t1,zry4,zmm6,I,zobw,zezj,hlt];exact ⟨i+1,yWS (by simp [-zE,zpvs,zben]),by omega,by omega,fun j w hji=>a j w hji⟩
  ·rw [decide_eq_false hlt] at s;rw [s] at D;cases A with
   | true =>
    rw [B (by rw [D]; rfl)]
    simp (disch:=first|omega|simp<;>omega|fail) [-zE,zqw7,zben,h,J,v,O,f,z4hl,o,z69h,n,y,z1t1,I,zobw,zezj,hlt,E,W,zry4,zn7v,zuiq,zmm6,p,C,zn9f,q,G,F,choD]
   | false =>
    have a:=a (by rw [D]; rfl)
    simp (disch:=first|omega|simp<;>omega|fail) [-zE,zqw7,zben,h,J,v,O,f,z4hl,o,z69h,n,y,z1t1,I,zobw,zezj,hlt,E,W,zry4,zn7v,zuiq,zmm6,p,C,zn9f,q,G,F];exact ⟨i+1,yWS (by simp [-zE,zpvs,zben]),by omega,by omega,fun j w hji=>a j w hji⟩
noncomputable def zpwg:List DV→Option DV:=con (fun a:Clu × Idx × Sl Tri × Int × Int=>SrtX a.2.1.e.l) (fun a=>[.agg (clC a.1),.agg (xiC a.2.1),a.2.2.1.dv 35 trC,.int .i64 a.2.2.2.1,.int .i64 a.2.2.2.2]) (fun a=>choD (choC a.2.2.1.l a.2.1.e.l a.1 a.2.2.2.1 a.2.2.2.2))
theorem zdds {c:Clu} {x:Idx} {tr:Sl Tri} {k t:Int} (h:SrtX x.e.l):zpwg [.agg (clC c),.agg (xiC x),tr.dv 35 trC,.int .i64 k,.int .i64 t]=some (choD (choC tr.l x.e.l c k t)) :=
 zzno (A:=fun a:Clu × Idx × Sl Tri × Int × Int=>SrtX a.2.1.e.l) (f:=fun a=>[.agg (clC a.1),.agg (xiC a.2.1),a.2.2.1.dv 35 trC,.int .i64 a.2.2.2.1,.int .i64 a.2.2.2.2]) (g:=fun a=>choD (choC a.2.2.1.l a.2.1.e.l a.1 a.2.2.2.1 a.2.2.2.2)) (by
  rintro ⟨a1,a2,a3,a4,a5⟩ ⟨b1,b2,b3,b4,b5⟩ e;simp only [List.cons.injEq,DV.agg.injEq,DV.int.injEq,and_true,true_and] at e;rw [zh7t e.1,zt7p e.2.1,z47i e.2.2.1,e.2.2.2.1,e.2.2.2.2]) (c,x,tr,k,t) h
theorem zpc3:(Con.pure zpwg).Sound P 24:=z2au fun a h=>zljw mix zmnc Tryz.func24 zcoa (zck0 a.1 a.2.1 a.2.2.1 a.2.2.2.1 a.2.2.2.2 h)
end
section
noncomputable def zd8x (tr:List Tri) (ix:List Ixe) (t:Int) (k:Int) (s:Rnd):Bool × Rnd:=match choC tr ix s.c k t with
 | none=>(false,s)
 | some d=>if (z6qh s.c k d t).2.2=0 then (true,⟨(z6qh s.c k d t).1,s.o++[⟨1,(z6qh s.c k d t).2.1,d⟩]⟩) else (false,s)
noncomputable def zpk2 (tr:List Tri) (ix:List Ixe) (t k:Int):Nat→Rnd→Rnd
 | 0,s=>s
 | m+1,s=>if (zd8x tr ix t k s).1=true then zpk2 tr ix t k m (zd8x tr ix t k s).2 else s
noncomputable def filR (tr:List Tri) (ix:List Ixe) (t k want:Int) (s:Rnd):Rnd:=zpk2 tr ix t k (want-(znqs s.c k).length).toNat s
noncomputable def grR1 (t:Int) (k:Nat) (g:Grp) (s:Rnd):Rnd:=(idsQ (qSt k g false) s.c.i.l).foldl (zepc t) s
noncomputable def grR2 (t:Int) (k:Nat) (g:Grp) (s:Rnd):Rnd:=((idsQ (qSt k g true) s.c.i.l).reverse.take ((znqs s.c k).length-g.want).toNat).foldl (zepc t) s
noncomputable def grR3 (t:Int) (k:Nat) (s:Rnd):Rnd:=((zu3j s.c k).take (z17v s.c k).toNat).foldl (zepc t) s
noncomputable def grpR (tr:List Tri) (ix:List Ixe) (t:Int) (k:Nat) (g:Grp) (s:Rnd):Rnd:=filR tr ix t k g.want (grR3 t k (grR2 t k g (grR1 t k g s)))
noncomputable def rndR (tr:List Tri) (ix:List Ixe) (t:Int) (c:Clu):Nat→Rnd→Rnd
 | 0,s=>s
 | k+1,s=>match c.g.l[k]? with
  | some g=>grpR tr ix t k g (rndR tr ix t c k s)
  | none=>rndR tr ix t c k s
noncomputable def z1oo (gr:List Int) (t:Int) (c:Clu):Rnd:=(ze9z c.i.l 0 gr t).foldl (zepc t) ⟨c,[]⟩
noncomputable def z2t6 (tr:List Tri) (ix:List Ixe) (gr:List Int) (t:Int) (c:Clu):Rnd:=rndR tr ix t c c.g.l.length (z1oo gr t c)
section
variable {c:Clu} {t:Int} {tr:List Tri} {ix:List Ixe} {l:List Ins} {n:Int} {o:List Cmd}
theorem zwp1 {s:Rnd} (h:Vw (c.g.l.map gl) s l n o):RI (c.g.l.map gl) s l.length o.length:=⟨h.v,h.g,by rw [h.i]; exact y03 _,by rw [h.o]; exact y03 _⟩
theorem zbb8 {q:Ins→Bool} (hq : ∀ x,q x=true→x.state≠3) {l:List Ins} : ∀ id ∈ idsQ q l,∃ x ∈ l,x.id=id∧x.state≠3:=fun id hid=>by
 obtain ⟨x,hx,p,e⟩:=z6r9.1 hid;exact ⟨x,hx,e,hq x p⟩
theorem vw_d {s:Rnd} (h:Vw (c.g.l.map gl) s l n o):l.Pairwise (fun x y=>x.id<y.id):=by rw [← h.i]; exact (zyak h.v).d
structure Two (c:Clu) (sP sR:Rnd) (l:List Ins) (n:Int) (o:List Cmd):Prop where
 p:Vw (c.g.l.map gl) sP l n o
 r:Vw (c.g.l.map gl) sR l n o
variable {sP sR:Rnd} {k:Nat}
theorem zm3f (h:Two c sP sR l n o) (hk:k<c.g.l.length):znqs sP.c k=znqs sR.c k:=by
 rw [z1ms h.p.g hk,z1ms h.r.g hk,h.p.i,h.r.i]
theorem zyxy (h:Two c sP sR l n o) (hk:k<c.g.l.length):z17v sP.c k=z17v sR.c k:=by
 rw [zouj h.p.g hk,zouj h.r.g hk,zb41 h.p.g hk,zb41 h.r.g hk,h.p.i,h.r.i]
theorem zw93 (h:Two c sP sR l n o) (hk:k<c.g.l.length):zu3j sP.c k=zu3j sR.c k:=by
 rw [zssx h.p.g hk,zssx h.r.g hk,zm3f h hk,h.p.i,h.r.i];have:ltV sP.c=ltV sR.c:=by
  funext a b;unfold ltV zfmx;rw [h.p.i,h.r.i]
 rw [this]
theorem zt1i (h:Two c sP sR l n o) (ht:zcie t) {V:List Int} (hn:V.Nodup) (hV : ∀ id ∈ V,∃ x ∈ l,x.id=id∧x.state≠3):Two c (V.foldl (zyao t) sP) (V.foldl (zepc t) sR) (mkS t V l) n (o++zzoh l V):=by
 have:=z40n ht h.p h.r hn hV;exact ⟨this.1,this.2⟩
theorem zqgd (h:Two c sP sR l n o) (ht:zcie t) (hk:k<c.g.l.length) : ∃ l' o',Two c (grS1 t k sP) (grR1 t k c.g.l[k] sR) l' n o':=by
 unfold grS1 grR1;rw [zdwj (zwp1 h.p) hk,h.p.i,h.r.i];exact ⟨_,_,zt1i h ht (zofr (vw_d h.p)) (zbb8 zf69)⟩
theorem zl9r (h:Two c sP sR l n o) (ht:zcie t) (hk:k<c.g.l.length) : ∃ l' o',Two c (grS2 t k c.g.l[k].want sP) (grR2 t k c.g.l[k] sR) l' n o':=by
 unfold grS2 grR2;rw [zdwj (zwp1 h.p) hk,zm3f h hk,h.p.i,h.r.i];exact ⟨_,_,zt1i h ht ((zc13 (zofr (vw_d h.p))).sublist (y06 _ _)) (fun id hid=>zbb8 zf69 id (y0b.1 (y02 hid)))⟩
theorem zt8m (h:Two c sP sR l n o) (ht:zcie t) (hk:k<c.g.l.length) : ∃ l' o',Two c (grS3 t k sP) (grR3 t k sR) l' n o':=by
 have b:=zsd3 (zwp1 h.p) hk;have a:=zzgu (zwp1 h.p) hk;rw [h.p.i] at a;unfold grS3 grR3;rw [zyxy h hk];rw [zw93 h hk] at b a ⊢;exact ⟨_,_,zt1i h ht (b.sublist (y06 _ _)) (fun id hid=>zbb8 zw63 id (a id (y02 hid)))⟩
theorem z43j (ht:zcie t) (hk:k<c.g.l.length) {want:Int} : ∀ {m:Nat} {sP sR:Rnd} {l:List Ins} {n:Int} {o:List Cmd},Two c sP sR l n o→l.length+m<200→n+m<1099511627776 → ∃ l' n' o',Two c (zinu tr ix t k want m sP) (zpk2 tr ix t k m sR) l' n' o'
 | 0,sP,sR,l,n,o,h,_,_=>⟨l,n,o,h⟩
 | m+1,sP,sR,l,n,o,h,hl,hn=>by
  have hkg:k<(c.g.l.map gl).length:=by simpa using hk
  have b:choC tr ix sP.c k t=choC tr ix sR.c k t:=zxrl (by rw [h.p.g,h.r.g])
  cases hc:choC tr ix sR.c k t with
  | none =>
   have j:(zusy tr ix t k sP).1=false:=by unfold zusy; rw [b,hc]
   have q:(zd8x tr ix t k sR).1=false:=by unfold zd8x; rw [hc]
   unfold zinu zpk2;rw [if_neg (by rw [j]; decide),if_neg (by rw [q]; decide)]
   exact ⟨l,n,o,h⟩
  | some d =>
   have w:d≠dg0:=by
    have a:=hc;unfold choC grAt at a;rw [if_pos (by omega),y0o] at a
    have f:k<sR.c.g.l.length:=by
     have:=congrArg List.length h.r.g;simp only [y0i] at this;omega
    rw [y01 f] at a;have y:=y0p a;obtain ⟨i,x,e⟩:=y0d y;rw [← e]; exact ((h.r.v.g k f).1.ch i x).1
   have s:=zd62 h.p ht hkg w (by omega) (by omega)
   have u:=zd62 h.r ht hkg w (by omega) (by omega)
   have z:(z4wu sP.c k d t).2.2=0:=by rw [s.1]
   have A:(z4wu sP.c k d t).2.1=n:=by rw [s.1]
   have B:(z6qh sR.c k d t).2.2=0:=by rw [u.2.1]
   have C:(z6qh sR.c k d t).2.1=n:=by rw [u.2.1]
   have j:zusy tr ix t k sP=(true,⟨(z4wu sP.c k d t).1,o++[⟨1,n,d⟩]⟩):=by
    unfold zusy;rw [b,hc];simp only [z,A,h.p.o,if_true]
   have q:zd8x tr ix t k sR=(true,⟨(z6qh sR.c k d t).1,o++[⟨1,n,d⟩]⟩):=by
    unfold zd8x;rw [hc];simp only [B,C,h.r.o,if_true]
   unfold zinu zpk2;rw [j,q];simp only [if_true];exact z43j ht hk (m:=m) ⟨s.2.2.1 _,u.2.2.2 _⟩ (by simp; omega) (by omega)
theorem zjmg (h:Two c sP sR l n o) (ht:zcie t) (hk:k<c.g.l.length) (hl:l.length≤100) (hn:n≤2000000) (hw:c.g.l[k].want≤3) : ∃ l' n' o',Two c (grpS tr ix t k c.g.l[k].want sP) (grpR tr ix t k c.g.l[k] sR) l' n' o':=by
 obtain ⟨j,q,b⟩:=zqgd h ht hk;obtain ⟨m,r,d⟩:=zl9r b ht hk;obtain ⟨e,s,a⟩:=zt8m d ht hk;have f:e.length=l.length:=by
  rw [← a.p.i,← h.p.i];unfold grS3 grS2 grS1;rw [zaui,zaui,zaui]
 unfold grpS grpR filS filR;rw [zm3f a hk];exact z43j ht hk a (by omega) (by omega)
end
section
variable {c:Clu} {gr:List Int} {tr:List Tri} {ix:List Ixe} {t:Int} (hv:ValidC c) (hn:c.g.l.length≤3) (hw : ∀ g ∈ c.g.l,g.want≤3) (hi:c.i.l.length≤10) (hx:c.next≤1000000) (ht:zcie t)
include hv ht in
theorem z1pa:Two c (rnd0 gr t c) (z1oo gr t c) (mkS t (ze9z c.i.l 0 gr t) c.i.l) c.next ([]++zzoh c.i.l (ze9z c.i.l 0 gr t)) :=
 zt1i (sP:=⟨c.clone,[]⟩) (sR:=⟨c,[]⟩) ⟨⟨zwds hv,z9hp _,rfl,rfl,rfl⟩,⟨hv,rfl,rfl,rfl,rfl⟩⟩ ht (zgrg hv) (fun id hid=>by obtain ⟨x,a,b,d,_⟩:=za3t id hid; exact ⟨x,a,b,d⟩)
include hv hn hw hi hx ht in
theorem z14r : ∀ {k:Nat},k≤c.g.l.length → ∃ l n o,Two c (rndS tr ix t c k (rnd0 gr t c)) (rndR tr ix t c k (z1oo gr t c)) l n o
 | 0,_=>⟨_,_,_,z1pa hv ht⟩
 | k+1,hk=>by
  obtain ⟨l,n,o,h⟩:=z14r (k:=k) (by omega)
  have hk':k<c.g.l.length:=by omega
  have m:=ztza hv hn hw hi (tr:=tr) (ix:=ix) (t:=t) (gr:=gr) (k:=k) (by omega)
  have a:=zblg (tr:=tr) (ix:=ix) (t:=t) (s0:=rnd0 gr t c) hw (k:=k) (by omega)
  have d:(rnd0 gr t c).c.next=c.next:=by unfold rnd0; rw [zl9x]; rfl
  have j:=m.b;rw [h.p.i] at j;rw [h.p.n] at a;have f:=zjmg (tr:=tr) (ix:=ix) h ht hk' (by omega) (by omega) (hw _ (y04 hk'))
  have e:rndR tr ix t c (k+1) (z1oo gr t c)=grpR tr ix t k c.g.l[k] (rndR tr ix t c k (z1oo gr t c)):=by
   show (match c.g.l[k]? with|some g=>_|none=>_)=_
   rw [y01 hk']
  rw [e];show ∃ l n o,Two c (grpS tr ix t k (ze6v c k) _) _ l n o;rw [zgyw hk'];exact f
end
end
section
theorem zklw {c:Clu} (hv:ValidC c) (id t:Int):chgR c id t 1 2 3=zjqu c id t 3:=by
 unfold chgR zjqu;have e : ∀ n:Nat,(c.i.l[n]?).map (fun x=>mayR 1 2 x.state)=(c.i.l[n]?).map (fun x=>may 3 x.state):=fun n=>by
  cases h:c.i.l[n]? with
  | none=>rfl
  | some x =>
   obtain ⟨a,e⟩:=List.getElem?_eq_some_iff.1 h;have:=(zyak hv).s x (by rw [← e]; exact y04 a)
   simp only [y0s,mayR,may];rw [if_neg (by decide),← Bool.decide_or]
   exact congrArg some (decide_eq_decide.2 (by omega))
 rw [e]
theorem zwmo (C:Clu) (h:List AObj) (id:Nat) (z:List DV) (hz:z.length=3):zy6o h id 3 0 (.agg (clC C)) (some z)=some (.junk,h.set id (.cells (clC C))):=zfc1 rfl hz (by simp [clC,z4ja])
structure RF where
 pre:List AObj
 hp : ∀ n,pre.length≤n→zlf2 n pre=true
 mid:List AObj
 hm : ∀ n,zlf2 n mid=true
 tl:List AObj
 ht : ∀ n,zlf2 n tl=true
 t:Int
def RF.b (F:RF):Nat:=F.pre.length
def RF.k (F:RF):Nat:=F.b+1+F.mid.length
def RF.rd (F:RF) (c:Clu) (q:DV):List DV:=[c.g.dv 6 grC,c.i.dv 37 inC,.int .i64 c.next,q,.int .i64 F.t]
def oR (o:List Cmd) (tl:List AObj):List AObj:=if o=[] then [] else .cells (fl cmC o)::tl
theorem zmfr {tl:List AObj}:oR [] tl=[]:=rfl
theorem ztxo {o:List Cmd} {tl:List AObj} (h:o≠[]):oR o tl = .cells (fl cmC o)::tl:=if_neg h
def RF.G (F:RF) (c:Clu) (q:DV) (o:List Cmd):List AObj:=F.pre++(.cells (F.rd c q)::(F.mid++oR o F.tl))
def RF.H (F:RF) (s:Rnd):List AObj:=F.G s.c (oV F.k 34 s.o) s.o
section
variable {F:RF} {c c':Clu} {q q':DV} {o:List Cmd}
theorem RF.len_rd:(F.rd c q).length=5:=rfl
theorem RF.obj {X:List AObj}:objV (F.G c q o++X) F.b 5=some (F.rd c q):=by
 unfold RF.G RF.b;rw [List.append_assoc,zjj2]; rfl
theorem RF.obj0:objV (F.G c q o) F.b 5=some (F.rd c q):=by
 have:=RF.obj (F:=F) (c:=c) (q:=q) (o:=o) (X:=[])
 rwa [y0j] at this
theorem RF.set:(F.G c q o).set F.b (.cells (F.rd c' q'))=F.G c' q' o:=by
 unfold RF.G RF.b;rw [y0h _ _ (y03 _),y0k]; rfl
theorem RF.app {x:Cmd} (hb:o.length+1≤4294967296) (h:o=[]→F.tl=[]):appX (F.G c q o) 34 48 (oV F.k 34 o) 1 (cmC x)=some (oV F.k 34 (o++[x]),F.G c q (o++[x])):=by
 by_cases e:o=[]
 ·have g:=h e;subst e;have:=zte0 (k:=F.k) (K:=34) (b:=48) (f:=cmC) (l:=[]) (x:=x) (h:=F.pre++(.cells (F.rd c q)::F.mid)) (by simp [RF.k,RF.b]; omega) zfq1 (by decide) (by decide) z095 hb
  rw [zkrk,y0j] at this;unfold RF.G;rw [zmfr,y0j,this,List.nil_append,zu2l (by simp),ztxo (by simp),g]
  simp
 ·have a:(F.pre++(AObj.cells (F.rd c q)::F.mid)).length=F.k:=by simp [RF.k,RF.b]; omega
  have d : ∀ o',o'≠[]→F.G c q o'=(F.pre++(.cells (F.rd c q)::F.mid))++(.cells (fl cmC o')::F.tl):=fun o' h'=>by
   unfold RF.G; rw [ztxo h']; simp
  have i:objV (F.G c q o) F.k (o.length*34)=some (fl cmC o):=by
   rw [d o e,← a];unfold objV ziu0;rw [y0n (y03 _),y0k];simp [z8lx zfq1]
  have:=zvrp (h:=F.G c q o) (id:=F.k) (b:=48) (K:=34) (f:=cmC) (l:=o) (m:=1) (cs:=[x]) zfq1 (by decide) (by decide) z095 rfl hb i
  rw [show ([x]:List Cmd).flatMap cmC=cmC x by simp] at this
  rw [zpni e,this,zpni (by simp),d o e,d (o++[x]) (by simp),y0h _ _ (by omega),a,y0k,y0e]
  rfl
theorem RF.st3 {H:List AObj} {id:Nat} (hc:q'.cells=[q']) (ho:q'.one=true):zy6o H id 1 3 q' (some (F.rd c q))=some (.junk,H.set id (.cells (F.rd c q'))):=by
 rw [Am.storeO_1 hc ho (by rw [RF.len_rd]; decide)]; rfl
theorem RF.st0 {H:List AObj} {id:Nat}:zy6o H id 3 0 (.agg (clC c')) (some (F.rd c q))=some (.junk,H.set id (.cells (F.rd c' q))):=by
 have h:(DV.agg (clC c')).cells.length=3∧0+3≤(F.rd c q).length∧(DV.agg (clC c')).cells.all DV.one=true:=⟨rfl,by rw [RF.len_rd]; decide,by show (clC c').all DV.one=true; simp [clC,z4ja]⟩
 exact (if_pos h).trans rfl
theorem RF.one3:oneC 3 true (F.rd c q)=some (.agg (clC c)):=rfl
theorem RF.one1:oneC 1 false ((F.rd c q).drop 1)=some (c.i.dv 37 inC):=rfl
theorem RF.oneq:oneC 1 false ((F.rd c q).drop 3)=some q:=rfl
theorem RF.one4:oneC 1 false ((F.rd c q).drop 4)=some (.int .i64 F.t):=rfl
theorem RF.len:F.b<(F.G c q o).length:=by unfold RF.G RF.b; simp
theorem RF.hlen (F:RF) (s:Rnd):(F.H s).length=F.k+(if s.o=[] then 0 else 1+F.tl.length):=by
 unfold RF.H RF.G RF.k RF.b oR;split<;>simp [*]<;>omega
theorem RF.hle (F:RF) {s s1:Rnd} (h:s.o≠[]→s1.o≠[]):(F.H s).length≤(F.H s1).length:=by
 rw [RF.hlen,RF.hlen];by_cases q:s.o=[]
 ·rw [if_pos q]; omega
 ·rw [if_neg q,if_neg (h q)]; omega
theorem RF.below (F:RF) (s:Rnd) {n:Nat} (hn:(F.H s).length≤n):zlf2 n (F.H s)=true:=by
 have d:=F.hlen s;have a:F.pre.length≤n:=by rw [d] at hn; unfold RF.k RF.b at hn; omega
 unfold RF.H RF.G;refine zrlz (F.hp n a) ?_;simp only [zlf2,y05];refine ⟨?_,zrlz (F.hm n) ?_⟩
 ·have e:Am.below n (oV F.k 34 s.o)=true:=by
   by_cases h:s.o=[]
   ·rw [h,zl8p]; rfl
   ·rw [zpni h];simp only [Am.below,decide_eq_true_eq];rw [d,if_neg h] at hn;omega
  simp only [RF.rd,Am.belowL,z8b8 _ _ (z1vd s.c.g),z8b8 _ _ (zcha s.c.i),e]
  rfl
 ·unfold oR;split
  ·rfl
  ·simp only [zlf2,fl,zmq5 _ _ (zp6k zoyx _),F.ht,y0u]
end
theorem zdl9 (t:Int) : ∀ (V:List Int) (s:Rnd),(V.foldl (zepc t) s).o.length=s.o.length+V.length
 | [],s=>by simp
 | a::V,s=>by
  rw [List.foldl_cons,zdl9 t V];simp [zepc]; omega
theorem zv54 (t:Int) : ∀ (V:List Int) (s:Rnd),s.o≠[]→(V.foldl (zepc t) s).o≠[]
 | [],s,h=>h
 | a::V,s,h=>zv54 t V _ (by simp [zepc])
noncomputable def z0c8:Tbl:=addT 30 (.pure (cCi fun c i => .int .i64 (z092 c.i.l i))) (addT 33 (.pure (cCii fun c i t=>zbyq c i t 1 2 3)) tbl0)
theorem z069:z0c8 30 = .pure (cCi fun c i => .int .i64 (z092 c.i.l i)):=by simp [z0c8]
theorem z5xx:z0c8 33 = .pure (cCii fun c i t=>zbyq c i t 1 2 3):=by simp [z0c8]
theorem zzng:z0c8.Sound P:=z0rp zg2n (z0rp z5nl zr5o)
theorem z0lh (F:RF) (s:Rnd) (id:Int) (htl:s.o=[]→F.tl=[]) (hv:ValidC s.c) (hb:s.o.length≤100000) {p:Nat} (hp:p<s.c.i.l.length) (hf:z092 s.c.i.l id=p):zwy1 P 56 [.mp F.b 5 0,.int .i64 id] (F.H s) (fun d h=>d = .tup []∧h=F.H (zepc F.t s id)):=by
 refine zrqk Tryz.func56 zcwb ?_;have Z : ∀ X,objV (F.H s++X) F.b 5=some (F.rd s.c (oV F.k 34 s.o)):=fun X=>RF.obj
 have v:objV (F.H s) F.b 5=some (F.rd s.c (oV F.k 34 s.o)):=RF.obj0;have N:=F.below s (y03 _);have B:F.b<(F.H s).length:=RF.len;have y:=z3mn (g:=fun c i => .int .i64 (z092 c.i.l i)) (x:=s.c) (a:=id)
 simp only [hf] at y;have j:=zl2e (f:=fun c i t=>zbyq c i t 1 2 3) (c:=s.c) (g:=id) (t:=F.t)
 have j:cCii (fun c i t=>zbyq c i t 1 2 3) [.agg (clC s.c),.int .i64 id,.int .i64 F.t]=some (.tup [.agg (clC (zjqu s.c id F.t 3).1),.int .i64 (zjqu s.c id F.t 3).2]):=by
  rw [j]; simp only [zbyq,zklw hv]
 have n:zepc F.t s id=⟨(zjqu s.c id F.t 3).1,s.o++[⟨2,id,z83c s.c.i.l id⟩]⟩:=rfl;obtain ⟨m,O⟩ : ∃ m,(zjqu s.c id F.t 3).1=m:=⟨_,rfl⟩;rw [O] at j n;obtain ⟨e,W⟩ : ∃ e,(zjqu s.c id F.t 3).2=e:=⟨_,rfl⟩;rw [W] at j;have r:=zm7y hp hf;have A : ∀ H,zpsc H 37 (s.c.i.dv 37 inC) p=some (.ref (inC s.c.i.l[p])):=fun H=>zalo z6gw hp
 obtain ⟨u,Y⟩ : ∃ u,s.c.i.l[p]=u:=⟨_,rfl⟩;rw [Y] at r A;rw [r] at n;obtain ⟨C,U⟩ : ∃ C:Cmd,(⟨2,id,u.art⟩:Cmd)=C:=⟨_,rfl⟩;have w:=fun z (hz:z.length=34)=>z3dx (z:=z) (a:=2) (b:=id) (d:=u.art) hz
 have S:DV.int .i64 2 :: .int .i64 id::dgC u.art=cmC C:=by rw [← U]; rfl
 rw [U] at n w;rw [n];have T:=zz5t (H:=F.H s) (cs:=inC u) (off:=0) (z9kv u);have V : ∀ h,mk1 (kLt (F.H s).length) h (.mp F.b 5 0) = .mp F.b 5 0:=fun h=>zd3c (by simp only [Am.below,decide_eq_true_eq]; exact B)
 have L:=RF.app (F:=F) (c:=m) (q:=oV F.k 34 s.o) (o:=s.o) (x:=C) (by omega) htl
 have Q:=zy42 (k:=F.k) (K:=34) (l:=s.o++[C]);have R:=z6jg (k:=F.k) (K:=34) (l:=s.o++[C]);have D:F.H s=F.G s.c (oV F.k 34 s.o) s.o:=rfl;have E:F.H ⟨m,s.o++[C]⟩=F.G m (oV F.k 34 (s.o++[C])) (s.o++[C]):=rfl;have I:objV (F.G m (oV F.k 34 s.o) s.o) F.b 5=some (F.rd m (oV F.k 34 s.o)):=RF.obj0;have J:objV (F.G m (oV F.k 34 s.o) (s.o++[C])) F.b 5=some (F.rd m (oV F.k 34 s.o)):=RF.obj0;refine zbn1 (V_W mix zzng ?_);simp (disch:=first|omega|simp<;>omega|fail) [-zE,a56,v,RF.one1,RF.one3,z069,y,zy11,A,zisq,zec3];refine zs10 (n0:=(F.H s).length) (H:=F.H s) (cs:=inC u) (t':=[.mp F.b 5 0,.int .i64 id,.junk,.junk,.ref (inC u)]++js 42) N (y03 _) ?_ (by simp (disch:=first|omega|simp<;>omega|fail) [-zE,belowL,Am.below,B,zmq5 _ _ (z9kv u)]) ?_
 ·rw [z6gw,y07] at T;simp (disch:=first|omega|simp<;>omega|fail) [-zE,T,V,-z1bt,-zdpe]
 rw [D] at v ⊢;refine zbn1 (V_W mix zzng ?_);simp (disch:=first|omega|simp<;>omega|fail) [-zE,v,RF.one3,RF.one4,z5xx,j,zy11,RF.st0,RF.set];refine V_W mix zzng ?_;simp (disch:=first|omega|simp<;>omega|fail) [-zE,a56,I,RF.oneq,zm6n,w,S,zz6m,L,J,RF.st3 Q R,RF.set,E]
end
section
def RF.addC (F:RF) (e:Bool) (C:Clu):RF :=
 if e then ⟨F.pre,F.hp,F.mid++[.cells (clC C)],fun n=>zrlz (F.hm n) (by simp only [zlf2,zmq5 _ _ (zy11 C),y0u]),F.tl,F.ht,F.t⟩
 else ⟨F.pre,F.hp,F.mid,F.hm,F.tl++[.cells (clC C)],fun n=>zrlz (F.ht n) (by simp only [zlf2,zmq5 _ _ (zy11 C),y0u]),F.t⟩
section
variable {F:RF} {e:Bool} {C C':Clu} {s s':Rnd}
theorem zw9i:(F.addC e C).b=F.b:=by unfold RF.addC; split<;>rfl
theorem zvt5:(F.addC e C).t=F.t:=by unfold RF.addC; split<;>rfl
theorem zmr9:(F.addC e C).pre=F.pre:=by unfold RF.addC; split<;>rfl
theorem z6jn (htl:s.o=[]→F.tl=[]) (h:s.o≠[]→s'.o≠[]):s'.o=[]→(F.addC (decide (s.o=[])) C).tl=[]:=fun h'=>by
 have:s.o=[]:=Classical.byContradiction fun q=>h q h'
 unfold RF.addC;rw [if_pos (by simpa using this)]
 exact htl this
theorem z2xp (htl:s.o=[]→F.tl=[]) (h:s.o≠[]→s'.o≠[]) : ∃ A B,A.length=(F.H s).length ∧ ∀ C,(F.addC (decide (s.o=[])) C).H s'=A++(.cells (clC C)::B):=by
 by_cases e:s.o=[]
 ·have f:=htl e;refine ⟨F.pre++(.cells (F.rd s'.c (oV (F.k+1) 34 s'.o))::F.mid),oR s'.o F.tl,?_,fun C => ?_⟩
  ·rw [RF.hlen,if_pos e]; simp [RF.k,RF.b]; omega
  ·unfold RF.addC;rw [if_pos (by simpa using e)]
   have a : ∀ m:List AObj,(F.pre.length+1+(F.mid++[AObj.cells (clC C)]).length)=F.k+1:=fun m=>by simp [RF.k,RF.b]; omega
   simp only [RF.H,RF.G,RF.k,RF.b,RF.rd] at a ⊢;rw [a []];simp
 ·have d:=h e;refine ⟨F.pre++(.cells (F.rd s'.c (oV F.k 34 s'.o))::(F.mid++(.cells (fl cmC s'.o)::F.tl))),[],?_,fun C => ?_⟩
  ·rw [RF.hlen,if_neg e]; simp [RF.k,RF.b]; omega
  ·unfold RF.addC;rw [if_neg (by simpa using e)]
   simp only [RF.H,RF.G,RF.k,RF.b,RF.rd,ztxo d];simp
theorem zjsf (htl:s.o=[]→F.tl=[]):F.H s++[.cells (clC C)]=(F.addC (decide (s.o=[])) C).H s:=by
 by_cases e:s.o=[]
 ·have a:=htl e;unfold RF.addC;rw [if_pos (by simpa using e)]
  simp only [RF.H,RF.G,RF.rd,e,zl8p,zmfr];simp
 ·unfold RF.addC;rw [if_neg (by simpa using e)]
  simp only [RF.H,RF.G,RF.k,RF.b,RF.rd,ztxo e];simp
theorem zzp7 (htl:s.o=[]→F.tl=[]) (h:s.o≠[]→s'.o≠[]):objV ((F.addC (decide (s.o=[])) C).H s') (F.H s).length 3=some (clC C):=by
 obtain ⟨A,B,a,b⟩:=z2xp (F:=F) htl h;rw [b,← a,zjj2]; rfl
theorem z33c (htl:s.o=[]→F.tl=[]) (h:s.o≠[]→s'.o≠[]):((F.addC (decide (s.o=[])) C).H s').set (F.H s).length (.cells (clC C'))=(F.addC (decide (s.o=[])) C').H s':=by
 obtain ⟨A,B,b,a⟩:=z2xp (F:=F) htl h;rw [a,a,← b,y0h _ _ (y03 _),y0k]; rfl
end
section
variable {c:Clu} {t:Int} {tr:List Tri} {ix:List Ixe} {l:List Ins} {n:Int} {o:List Cmd} {s:Rnd} {k:Nat} {g:Grp}
theorem zn55 (h:Vw (c.g.l.map gl) s l n o) (ht:zcie t) {V:List Int} (hn:V.Nodup) (hV : ∀ id ∈ V,∃ x ∈ l,x.id=id∧x.state≠3):Vw (c.g.l.map gl) (V.foldl (zepc t) s) (mkS t V l) n (o++zzoh l V):=(z40n ht h h hn hV).2
theorem zsd8 (h:Vw (c.g.l.map gl) s l n o) (ht:zcie t) {V:List Int} {id:Int} (hn:V.Nodup) (hV : ∀ id ∈ V,∃ x ∈ l,x.id=id∧x.state≠3) (hid : ∃ x ∈ l,x.id=id) : ∃ (p:Nat) (_:p<(V.foldl (zepc t) s).c.i.l.length),z092 (V.foldl (zepc t) s).c.i.l id=p:=by
 have b:=zn55 h ht hn hV;obtain ⟨x,f,rfl⟩:=hid;obtain ⟨p,k,rfl⟩:=y0d f;have j:(V.foldl (zepc t) s).c.i.l.length=l.length:=by rw [b.i,zo9a]
 have a:p<(V.foldl (zepc t) s).c.i.l.length:=by omega
 refine ⟨p,a,?_⟩;have e:(V.foldl (zepc t) s).c.i.l[p].id=l[p].id:=by
  have:=y0m b.i a;rw [this];unfold mkS;rw [List.getElem_map];split<;>rfl
 rw [← e];exact zvud (zyak b.v).d a
theorem zeoo {q:Ins→Bool} {i:Nat} (h:i<l.length):idsQ q (l.take (i+1))=idsQ q (l.take i)++(if q l[i]=true then [l[i].id] else []):=by
 rw [y08 h,z9c3];congr 1;cases e:q l[i]<;>simp [idsQ,y0g,e]
theorem zjn1 {q:Ins→Bool} {i:Nat} (h:i<l.length):(idsQ q (l.drop i)).reverse=(idsQ q (l.drop (i+1))).reverse++(if q l[i]=true then [l[i].id] else []):=by
 rw [List.drop_eq_getElem_cons h];cases e:q l[i] with
 | false =>
  have:idsQ q (l[i]::l.drop (i+1))=idsQ q (l.drop (i+1)):=by unfold idsQ; rw [y0g,e]; rfl
  rw [this,if_neg (by decide),y0j]
 | true =>
  have:idsQ q (l[i]::l.drop (i+1))=l[i].id::idsQ q (l.drop (i+1)):=by unfold idsQ; rw [y0g,e]; rfl
  rw [this,if_pos rfl,List.reverse_cons]
theorem z7v3 {q:Ins→Bool} {i:Nat} (hd:l.Pairwise (fun x y=>x.id<y.id)):(idsQ q (l.take i)).Nodup:=zofr (hd.sublist (y06 _ _))
theorem z0x4 {q:Ins→Bool} {i:Nat} (hd:l.Pairwise (fun x y=>x.id<y.id)):(idsQ q (l.drop i)).Nodup:=zofr (hd.sublist (List.drop_sublist _ _))
theorem zwx4 {q:Ins→Bool} (hq : ∀ x,q x=true→x.state≠3) {i:Nat} : ∀ id ∈ idsQ q (l.take i),∃ x ∈ l,x.id=id∧x.state≠3:=fun id hid=>by
 obtain ⟨x,hx,e⟩:=zbb8 hq id hid;exact ⟨x,y02 hx,e⟩
theorem zizj (h:Vw (c.g.l.map gl) s l n o) (ht:zcie t) (hk:k<c.g.l.length) {V:List Int} (hn:V.Nodup) (hV : ∀ id ∈ V,id ∈ idsQ (qGd k c.g.l[k]) l):(znqs (V.foldl (zepc t) s).c k).length+V.length=(idsQ (qGd k c.g.l[k]) l).length:=by
 have a:=zn55 h ht hn (fun id hid=>zbb8 zapq id (hV id hid))
 rw [z1ms a.g hk,a.i,z4g5 zapq];have b:=znyp (V:=V) (G:=idsQ (qGd k c.g.l[k]) l) hn hV;have d:=zh1a (V:=V) (zofr (q:=qGd k c.g.l[k]) (vw_d h));omega
theorem zw25 {want:Int} (h:want≤(znqs s.c k).length):filR tr ix t k want s=s:=by
 unfold filR;rw [show (want-((znqs s.c k).length:Int)).toNat=0 by omega]; rfl
theorem z5za {want:Int} (h:(zd8x tr ix t k s).1=false):filR tr ix t k want s=s:=by
 unfold filR;cases (want-((znqs s.c k).length:Int)).toNat with
 | zero=>rfl
 | succ m=>unfold zpk2; rw [h]; rfl
theorem zxjn {want:Int} (h:((znqs s.c k).length:Int)<want) (h1:(zd8x tr ix t k s).1=true) (hg:(znqs (zd8x tr ix t k s).2.c k).length=(znqs s.c k).length+1):filR tr ix t k want s=filR tr ix t k want (zd8x tr ix t k s).2:=by
 unfold filR;rw [hg];obtain ⟨m,a⟩ : ∃ m,(want-((znqs s.c k).length:Int)).toNat=m+1:=⟨(want-((znqs s.c k).length:Int)).toNat-1,by omega⟩
 rw [a,show (want-(((znqs s.c k).length+1:Nat):Int)).toNat=m by omega]
 show (if _ then _ else _)=_
 rw [if_pos h1]
theorem zlom (h:Vw (c.g.l.map gl) s l n o) (hk:k<c.g.l.length) {d:Dg} (hc:choC tr ix s.c k t=some d):d ∈ c.g.l[k].ch.l∧d≠dg0:=by
 rw [zxrl (d:=c) h.g] at hc;have a:k<s.c.g.l.length:=by
  have:=congrArg List.length h.g;simp only [y0i] at this;omega
 unfold choC grAt at hc;rw [if_pos (by omega),y0o,y01 hk] at hc
 have f:=y0p hc;refine ⟨f,?_⟩;have e:gl s.c.g.l[k]=gl c.g.l[k]:=by
  have:=y0m h.g (i:=k) (by simp; omega)
  simpa using this
 simp only [gl,Prod.mk.injEq] at e;have b:d ∈ s.c.g.l[k].ch.l:=by rw [e.2.2.2.2.2]; exact f
 obtain ⟨i,j,e⟩:=y0d b;rw [← e]; exact ((h.v.g k a).1.ch i j).1
theorem zum5 (h:Vw (c.g.l.map gl) s l n o) (ht:zcie t) (hk:k<c.g.l.length) (hl:l.length<200) (hn:n<1099511627776) {d:Dg} (hc:choC tr ix s.c k t=some d):(z6qh s.c k d t).2.2=0∧(z6qh s.c k d t).2.1=n∧Vw (c.g.l.map gl) ⟨(z6qh s.c k d t).1,o++[⟨1,n,d⟩]⟩ (l++[⟨n,k,d,1,t,-1⟩]) (n+1) (o++[⟨1,n,d⟩])∧(znqs (z6qh s.c k d t).1 k).length=(znqs s.c k).length+1:=by
 obtain ⟨j,f⟩:=zlom h hk hc;have a:=zd62 h ht (k:=k) (by simpa using hk) f hl hn
 have v:=a.2.2.2 (o++[⟨1,n,d⟩]);refine ⟨by rw [a.2.1],by rw [a.2.1],v,?_⟩
 have b:=v.g;have e:=v.i;simp only at b e;rw [z1ms b hk,z1ms h.g hk,e,h.i,z9c3,y0e];congr 1;simp [idsQ,y0g,qGd,z9qu,chos,j]
end
end
section
structure GrR (c:Clu) (t:Int) (k:Nat) (g:Grp) (s:Rnd) (n:Int) (o:List Cmd):Prop where
 v:Vw (c.g.l.map gl) s s.c.i.l n o
 hk:k<c.g.l.length
 hg:c.g.l[k]=g
 ht:zcie t
 hl:s.c.i.l.length≤19
 hn:n≤2000000
 ho:o.length≤20000
 w0:0≤g.want
 w1:g.want≤3
theorem zeip {F:RF} {C:Clu} {s s':Rnd} (htl:s.o=[]→F.tl=[]) (h:s.o≠[]→s'.o≠[]):(F.H s).length<((F.addC (decide (s.o=[])) C).H s').length:=by
 obtain ⟨A,B,a,b⟩:=z2xp (F:=F) htl h;rw [b,y0e,a,List.length_cons]; omega
theorem zxlv {c d:Clu} {k:Nat} (h:d.g.l.map gl=c.g.l.map gl) (hk:k<c.g.l.length) {y:Ins} (hy:y.grp=k):choR d y=decide (y.art ∈ c.g.l[k].ch.l):=by
 obtain ⟨g,a,e⟩:=z7pn h hk;simp only [gl,Prod.mk.injEq] at e;unfold choR;rw [hy,a];simp only [e.2.2.2.2.2]
noncomputable def z4bj:Tbl:=addT 91 (.pure (cCx choR)) (addT 36 (.pure (cCk zq4a)) (addT 64 (.pure (cCx zape)) (addT 92 (.pure (cCkA VicOK zfe6)) (addT 35 (.pure (cCkA LimC ze9k)) (addT 24 (.pure zpwg) (addT 93 (.pure (cSta ztas)) tbl0))))))
theorem zfwr:z4bj 91 = .pure (cCx choR):=by simp [z4bj]
theorem zkby:z4bj 36 = .pure (cCk zq4a):=by simp [z4bj]
theorem zypy:z4bj 64 = .pure (cCx zape):=by simp [z4bj]
theorem z9vc:z4bj 92 = .pure (cCkA VicOK zfe6):=by simp [z4bj]
theorem z316:z4bj 35 = .pure (cCkA LimC ze9k):=by simp [z4bj]
theorem z7az:z4bj 24 = .pure zpwg:=by simp [z4bj]
theorem zv9a:z4bj 93 = .pure (cSta ztas):=by simp [z4bj]
theorem zias:z4bj.Sound P:=z0rp zixh (z0rp zm9u (z0rp zqrb (z0rp zw7r (z0rp zoj4 (z0rp zpc3 (z0rp zca2 zr5o))))))
noncomputable def sL1 (t:Int) (k:Nat) (g:Grp) (s:Rnd) (i:Nat):Rnd:=(idsQ (qSt k g false) (s.c.i.l.take i)).foldl (zepc t) s
noncomputable def zabq (F:RF) (x:Idx) (tr:Sl Tri) (N k:Nat) (t:Int) (g:Grp) (s:Rnd) (i:Nat):St:=zv18 (.mp F.b 5 0) (tr.dv 35 trC) (.int .i64 k) (.ref (xiC x)) (.mp N 3 0) (.int .i64 i) (F.H (sL1 t k g s i))
noncomputable def sL2 (t:Int) (k:Nat) (g:Grp) (s:Rnd) (p:Nat):Rnd:=((idsQ (qSt k g true) (s.c.i.l.drop p)).reverse.take ((znqs s.c k).length-g.want).toNat).foldl (zepc t) s
noncomputable def zj2j (F:RF) (x:Idx) (tr:Sl Tri) (N k:Nat) (w t:Int) (g:Grp) (s:Rnd) (p:Nat):St:=zavw (.mp F.b 5 0) (tr.dv 35 trC) (.int .i64 k) (.ref (xiC x)) (.mp N 3 0) (.int .i64 w) (.int .i64 ((p:Int)-1)) (F.H (sL2 t k g s p))
theorem zpev {R:List Int} {m:Nat} {id:Int} (h:(R.take m).length<m):(R++[id]).take m=R.take m++[id]:=by
 rw [y09] at h;rw [y00 (by simp; omega),y00 (by omega)]
theorem zebf {R X:List Int} {m:Nat} (h:¬ (R.take m).length<m):(R++X).take m=R.take m:=by
 rw [y09] at h;rw [List.take_append_of_le_length (by omega)]
noncomputable def sL3 (t:Int) (k:Nat) (s:Rnd) (i:Nat):Rnd:=((zu3j s.c k).take i).foldl (zepc t) s
noncomputable def z43a (F:RF) (x:Idx) (tr:Sl Tri) (k:Nat) (w t:Int) (s:Rnd) (i:Nat):St:=z0nm (.mp F.b 5 0) (tr.dv 35 trC) (.int .i64 k) (.ref (xiC x)) (.int .i64 w) (liV (zu3j s.c k)) (.int .i64 (z17v s.c k)) (.int .i64 i) (F.H (sL3 t k s i))
def zxf4 (F:RF) (x:Idx) (tr:Sl Tri) (k:Nat) (w:Int) (s:Rnd):St:=z01y (.mp F.b 5 0) (tr.dv 35 trC) (.int .i64 k) (.ref (xiC x)) (.int .i64 w) (F.H s)
theorem zidx (F:RF) (x:Idx) (tr:Sl Tri) (hsr:SrtX x.e.l) (c:Clu) (s0 s:Rnd) (n:Int) (k N:Nat) (g:Grp) (hk:k<c.g.l.length) (hg:c.g.l[k]=g) (ht:zcie F.t) (w:Int) (hw:g.want=w) (w0:0≤w) (w1:w≤3) (hv:Vw (c.g.l.map gl) s s.c.i.l n s.o) (hl:s.c.i.l.length≤19) (hn:n≤2000000) (ho:s.o.length≤80000) (hne:s0.o≠[]→s.o≠[]) (hle : ∀ s':Rnd,(s0.o≠[]→s'.o≠[])→N<(F.H s').length) (htl : ∀ s':Rnd,(s0.o≠[]→s'.o≠[])→s'.o=[]→F.tl=[]):V P N (.block 6 (.loop z49e)) (retH [] (.tup []) (F.H (filR tr.l x.e.l F.t k w s))) (zxf4 F x tr k w s):=by
 have T : ∀ n,Am.below n (tr.dv 35 trC)=true:=fun n=>z8b8 _ _ (zm7q tr)
 have U : ∀ n,belowL n (xiC x)=true:=fun n=>zmq5 _ _ (zqx0 x)
 refine z3mo (ztbr (zxf4 F x tr k w) (fun s'=>(w-(znqs s'.c k).length).toNat) (fun s'=>filR tr.l x.e.l F.t k w s'=filR tr.l x.e.l F.t k w s∧(s0.o≠[]→s'.o≠[]) ∧ ∃ y,Vw (c.g.l.map gl) s' s'.c.i.l y s'.o∧s'.c.i.l.length+(w-(znqs s'.c k).length).toNat≤100∧y+(w-(znqs s'.c k).length).toNat≤3000000∧s'.o.length+(w-(znqs s'.c k).length).toNat≤90000) s (yWS (by simp [-zE,zxf4])) ⟨rfl,hne,n,hv,by omega,by omega,by omega⟩ (fun s' hs' => ?_))
 obtain ⟨u1,u2,y,u3,u4,u5,u6⟩:=hs';simp only [zxf4];have hO : ∀ s',objV (F.H s') F.b 5=some (F.rd s'.c (oV F.k 34 s'.o)):=fun s'=>RF.obj0
 have m:=hO s';have S:=ztaz (f:=zq4a) (c:=s'.c) (k:=k);have c0:zq4a s'.c k=liV (znqs s'.c k):=by rw [zj8p u3.v]; rfl
 rw [c0] at S;have I:=zw25 (tr:=tr.l) (ix:=x.e.l) (t:=F.t) (k:=k) (s:=s') (want:=w);have Q:=zxjn (tr:=tr.l) (ix:=x.e.l) (t:=F.t) (k:=k) (s:=s') (want:=w);have c1:=z5za (tr:=tr.l) (ix:=x.e.l) (t:=F.t) (k:=k) (s:=s') (want:=w);have O:=fun d hl hn hc=>zum5 (d:=d) (tr:=tr.l) (ix:=x.e.l) u3 ht hk hl hn hc
 have p:=zdds (c:=s'.c) (tr:=tr) (k:=k) (t:=F.t) hsr;have c7:=hle s' u2;have a3:=htl s' u2;have R:=F.below s' (y03 _);have B:F.b<(F.H s').length:=RF.len;have a2:=zvgf;have e1 : ∀ h,mk1 (kLt (F.H s').length) h (.mp F.b 5 0) = .mp F.b 5 0:=fun h=>zd3c (by simp only [Am.below,decide_eq_true_eq]; exact B)
 have e5 : ∀ h,mk1 (kLt (F.H s').length) h (tr.dv 35 trC)=tr.dv 35 trC:=fun h=>zvft (zm7q tr)
 have e6 : ∀ h,mk1 (kLt (F.H s').length) h (.ref (xiC x)) = .ref (xiC x):=fun h=>zvft (by simp only [zyp8,zqx0])
 have e7 : ∀ h d,mk1 (kLt (F.H s').length) h (.ref (dgC d)) = .ref (dgC d):=fun h d=>zvft (by simp only [zyp8,z3ot])
 have ed:=fun d:Dg=>zz5t (H:=F.H s') (cs:=dgC d) (off:=0) (z3ot d)
 have a1:oneC 2 true (xiC x)=some (.agg (xiC x)):=rfl;have b3:(xiC x).length=2:=rfl;have L:zbao (xiC x)=true:=zqx0 x;have J:=zm7q tr;obtain ⟨GL,r⟩ : ∃ GL,(znqs s'.c k).length=GL:=⟨_,rfl⟩;have E:lenD (F.H s') (liV (znqs s'.c k))=some (.int .i64 GL):=by rw [zo8b,r]
 refine zbn1 (V_W mix zias ?_);rw [r] at I Q u4 u5 u6 O;by_cases gw:(GL:Int)<w
 case neg =>
  have e:=I (by omega)
  rw [← u1,e];simp (disch:=first|omega|simp<;>omega|fail) [-zE,z49e,z01y,m,RF.one3,zkby,S,zy11,E,gw]
 simp (disch:=first|omega|simp<;>omega|fail) [-zE,z49e,z01y,m,RF.one3,zkby,S,zy11,E,gw];obtain ⟨ch,A⟩ : ∃ ch,choC tr.l x.e.l s'.c k F.t=ch:=⟨_,rfl⟩;rw [A] at p;refine z3mo (zbn1 (V_W mix zias ?_));cases ch with
 | none =>
  have p:zpwg [.agg (clC s'.c),.agg (xiC x),tr.dv 35 trC,.int .i64 k,.int .i64 F.t]=some (.tup [.agg (dgC dg0),.bool false]):=p;have e:=c1 (by unfold zd8x; rw [A])
  rw [← u1,e];simp (disch:=first|omega|simp<;>omega|fail) [-zE,m,RF.one3,RF.one4,a1,b3,z7az,p,zy11,L,J,z4hl,a2];refine zs10 (n0:=N) (H:=F.H s') (cs:=dgC dg0) (t':=[.mp F.b 5 0,.junk,tr.dv 35 trC,.int .i64 k,.junk,.ref (xiC x)]++js 5++[.int .i64 w,.junk,.junk,.junk,.junk,.junk,.ref (dgC dg0),.bool false]++js 183) R (by omega) ?_ (by simp (disch:=first|omega|simp<;>omega|fail) [-zE,belowL,Am.below,B,T,U,zmq5 _ _ (z3ot dg0)]) ?_
  ·have Y:=ed dg0;rw [z1t1,y07] at Y;simp (disch:=first|omega|simp<;>omega|fail) [-zE,Y,e1,e5,e6,-z1bt,-zdpe]
  refine yVS9 ?_;simp (disch:=first|omega|simp<;>omega|fail) [-zE]
 | some d =>
  have p:zpwg [.agg (clC s'.c),.agg (xiC x),tr.dv 35 trC,.int .i64 k,.int .i64 F.t]=some (.tup [.agg (dgC d),.bool true]):=p;simp (disch:=first|omega|simp<;>omega|fail) [-zE,m,RF.one3,RF.one4,a1,b3,z7az,p,zy11,L,J,z4hl,a2];refine zs10 (n0:=N) (H:=F.H s') (cs:=dgC d) (t':=[.mp F.b 5 0,.junk,tr.dv 35 trC,.int .i64 k,.junk,.ref (xiC x)]++js 5++[.int .i64 w,.junk,.junk,.junk,.junk,.junk,.ref (dgC d),.bool true]++js 183) R (by omega) ?_ (by simp (disch:=first|omega|simp<;>omega|fail) [-zE,belowL,Am.below,B,T,U,zmq5 _ _ (z3ot d)]) ?_
  ·have Y:=ed d;rw [z1t1,y07] at Y;simp (disch:=first|omega|simp<;>omega|fail) [-zE,Y,e1,e5,e6,-z1bt,-zdpe]
  obtain ⟨r0,r1,X,W⟩:=O d (by omega) (by omega) A
  have D:=zx1h (f:=ztas) (c:=s'.c) (g:=k) (t:=F.t) (d:=d);have D:cSta ztas [.agg (clC s'.c),.int .i64 k,.agg (dgC d),.int .i64 F.t]=some (.tup [.agg (clC (z6qh s'.c k d F.t).1),.int .i64 y,.int .i64 0]):=by
   rw [D];unfold ztas;rw [r0,r1]
  have u:zd8x tr.l x.e.l F.t k s'=(true,⟨(z6qh s'.c k d F.t).1,s'.o++[⟨1,y,d⟩]⟩):=by
   unfold zd8x;rw [A];simp only [r0,r1,if_true]
  have e:=Q gw (by rw [u]) (by rw [u]; exact W)
  rw [u] at e;obtain ⟨j,b9⟩ : ∃ j,(z6qh s'.c k d F.t).1=j:=⟨_,rfl⟩;rw [b9] at D e X W;have c5:=zwmo;refine yVS9 ?_;simp (disch:=first|omega|simp<;>omega|fail) [-zE];refine zbn1 (V_W mix zias ?_);simp (disch:=first|omega|simp<;>omega|fail) [-zE,m,RF.one3,RF.one4,zwwo,z1t1,zv9a,D,zy11,z3ot,c5];have Z:=zz5t (H:=F.H s') (cs:=clC j) (off:=0) (zy11 j);refine zs10 (n0:=N) (H:=F.H s') (cs:=clC j) (t':=[.mp F.b 5 0,.junk,tr.dv 35 trC,.int .i64 k,.junk,.ref (xiC x)]++js 5++[.int .i64 w,.junk,.junk,.junk,.junk,.junk,.ref (dgC d),.junk,.ref (clC j),.int .i64 y,.int .i64 0]++js 180) R (by omega) ?_ (by simp (disch:=first|omega|simp<;>omega|fail) [-zE,belowL,Am.below,B,T,U,zmq5 _ _ (z3ot d),zmq5 _ _ (zy11 j)]) ?_
  ·rw [zlha,y07] at Z;simp (disch:=first|omega|simp<;>omega|fail) [-zE,Z,e1,e5,e6,e7,-z1bt,-zdpe]
  refine yVS9 ?_;simp (disch:=first|omega|simp<;>omega|fail) [-zE];obtain ⟨C,hC⟩ : ∃ C:Cmd,(⟨1,y,d⟩:Cmd)=C:=⟨_,rfl⟩;have a0:=fun z (hz:z.length=34)=>z3dx (z:=z) (a:=1) (b:=y) (d:=d) hz
  have c4:DV.int .i64 1 :: .int .i64 y::dgC d=cmC C:=by rw [← hC]; rfl
  rw [hC] at a0 e X;have b8:=RF.app (F:=F) (c:=j) (q:=oV F.k 34 s'.o) (o:=s'.o) (x:=C) (by omega) a3
  have c2:=zy42 (k:=F.k) (K:=34) (l:=s'.o++[C]);have c3:=z6jg (k:=F.k) (K:=34) (l:=s'.o++[C]);have b4:F.H s'=F.G s'.c (oV F.k 34 s'.o) s'.o:=rfl;have b5:F.H ⟨j,s'.o++[C]⟩=F.G j (oV F.k 34 (s'.o++[C])) (s'.o++[C]):=rfl;have b6:objV (F.G j (oV F.k 34 s'.o) s'.o) F.b 5=some (F.rd j (oV F.k 34 s'.o)):=RF.obj0;have b7:objV (F.G j (oV F.k 34 s'.o) (s'.o++[C])) F.b 5=some (F.rd j (oV F.k 34 s'.o)):=RF.obj0;rw [b4] at m ⊢;refine yVS9 ?_;simp (disch:=first|omega|simp<;>omega|fail) [-zE,m,zei9,RF.st0,RF.set];refine yVW9 ?_;simp (disch:=first|omega|simp<;>omega|fail) [-zE,b6,RF.oneq,zwwo,a0,c4,zz6m,b8,b7,RF.st3 c2 c3,RF.set];refine ⟨⟨j,s'.o++[C]⟩,yWS (by simp [-zE,zxf4,z01y,b5]),?_,by rw [← e,u1],fun _=>by simp,y+1,⟨X.v,X.g,rfl,X.n,rfl⟩,?_,?_,?_⟩
  ·simp only [W,r]; omega
  ·show j.i.l.length+_≤100;have c6:j.i.l.length=s'.c.i.l.length+1:=by
    have:=congrArg List.length X.i;simpa using this
   simp only [W,r];omega
  ·simp only [W,r]; omega
  ·show (s'.o++[C]).length+_≤90000;rw [y0e,List.length_singleton];simp only [W,r];omega
theorem zw5s (F:RF) (x:Idx) (tr:Sl Tri) (hsr:SrtX x.e.l) (c:Clu) (s:Rnd) (n:Int) (o:List Cmd) (k:Nat) (g:Grp) (q:GrR c F.t k g s n o) (htl:s.o=[]→F.tl=[]):zwy1 P 57 [.mp F.b 5 0,.agg (xiC x),tr.dv 35 trC,.int .i64 k] (F.H s) (fun d h=>d = .tup []∧h=(F.addC (decide (s.o=[])) (grR1 F.t k g s).c).H (grpR tr.l x.e.l F.t k g s)):=by
 refine zrqk Tryz.func57 zfce ?_;obtain ⟨hv,hk,hg,ht,hl,hn,ho,w0,w1⟩:=q;have l7:=F.below s (y03 _);have g9:F.b<(F.H s).length:=RF.len;have l8 : ∀ h,boxD h (.agg (xiC x))=some (.mp h.length 2 0,h++[.cells (xiC x)]):=fun h=>by rw [zn72]; rfl
 have i1:=zz5t (H:=F.H s) (cs:=xiC x) (off:=0) (zqx0 x);have m6:(xiC x).length=2:=rfl;have e1 : ∀ h,mk1 (kLt (F.H s).length) h (.mp F.b 5 0) = .mp F.b 5 0:=fun h=>zd3c (by simp only [Am.below,decide_eq_true_eq]; exact g9)
 have e2 : ∀ h,mk1 (kLt (F.H s).length) h (tr.dv 35 trC)=tr.dv 35 trC:=fun h=>zvft (zm7q tr)
 have h5 : ∀ n,Am.below n (tr.dv 35 trC)=true:=fun n=>z8b8 _ _ (zm7q tr)
 have h6 : ∀ n,belowL n (xiC x)=true:=fun n=>zmq5 _ _ (zqx0 x)
 refine yVS9 ?_;simp (disch:=first|omega|simp<;>omega|fail) [-zE,a57,l8];refine zs10 (n0:=(F.H s).length) (H:=F.H s) (cs:=xiC x) (t':=[.mp F.b 5 0,.junk,tr.dv 35 trC,.int .i64 k,.junk,.ref (xiC x)]++js 196) l7 (y03 _) ?_ (by simp (disch:=first|omega|simp<;>omega|fail) [-zE,belowL,Am.below,g9,h5,h6]) ?_
 ·rw [m6,y07] at i1;simp (disch:=first|omega|simp<;>omega|fail) [-zE,i1,e1,e2,-z1bt,-zdpe]
 have l4:objV (F.H s) F.b 5=some (F.rd s.c (oV F.k 34 s.o)):=RF.obj0;have k3:=zwmo;have i5:=zjsf (F:=F) (C:=s.c) htl;obtain ⟨L,d6⟩ : ∃ L,F.addC (decide (s.o=[])) s.c=L:=⟨_,rfl⟩;have e9:L.b=F.b:=by rw [← d6]; exact zw9i
 have i2:L.t=F.t:=by rw [← d6]; exact zvt5
 have h4:=fun s' (h:s.o≠[]→s'.o≠[])=>zzp7 (F:=F) (C:=s.c) (s':=s') htl h
 have d2:=fun C' s' (h:s.o≠[]→s'.o≠[])=>z33c (F:=F) (C:=s.c) (C':=C') (s':=s') htl h
 have g7:=fun s' (h:s.o≠[]→s'.o≠[])=>zeip (F:=F) (C:=s.c) (s':=s') htl h
 have f8:=fun s' (h:s.o≠[]→s'.o≠[])=>z6jn (F:=F) (C:=s.c) (s':=s') htl h
 rw [d6] at i5;simp only [d6] at h4 d2 g7 f8;refine yVS9 ?_;simp (disch:=first|omega|simp<;>omega|fail) [-zE,l4,RF.one3,k3,i5];obtain ⟨N,hN⟩ : ∃ N,(F.H s).length=N:=⟨_,rfl⟩;rw [hN] at g9;simp only [hN] at h4 d2 g7;rw [hN];refine zbn1 (yVS9 ?_);simp (disch:=first|omega|simp<;>omega|fail) [-zE];rw [← e9];have k4:sL1 F.t k g s 0=s:=rfl;refine z3mo (ztbr (zabq L x tr N k F.t g s) (fun i=>s.c.i.l.length-i) (fun i=>i≤s.c.i.l.length) 0 (yWS (by simp [-zE,zabq,zv18,k4])) (y0c _) (fun i hi => ?_))
 simp only [zabq];have l5 : ∀ s',objV (L.H s') L.b 5=some (L.rd s'.c (oV L.k 34 s'.o)):=fun s'=>RF.obj0
 have g8 : ∀ (C:Clu) H,lenD H (C.i.dv 37 inC)=some (.int .i64 C.i.l.length):=fun C H=>zupj
 have hd:=vw_d hv;have c8:c.g.l[k]=g:=hg;have hq : ∀ y,qSt k g false y=(decide (y.grp=(k:Int))&&(decide (y.state=1)&&(chos g y == false))):=fun y=>rfl
 have d8 : ∀ y,chos g y=(decide (y.den<0)&&decide (y.art ∈ g.ch.l)):=fun y=>rfl
 have f4:=fun i=>z7v3 (q:=qSt k g false) (i:=i) hd
 have f2:=fun i=>zwx4 (l:=s.c.i.l) (q:=qSt k g false) zf69 (i:=i)
 have f7:=fun i=>zdl9 F.t (idsQ (qSt k g false) (s.c.i.l.take i)) s
 have i6:=fun i=>show (idsQ (qSt k g false) (s.c.i.l.take i)).length≤19 by
  unfold idsQ;rw [y0i];have:=y0t (qSt k g false) (s.c.i.l.take i);rw [y09] at this;omega
 have b8 : ∀ i,s.o≠[]→(sL1 F.t k g s i).o≠[]:=fun i h=>zv54 _ _ _ h
 have k7:s.o=o:=hv.o;have n2:s.o.length=o.length:=by rw [k7]
 have l1 : ∀ i,Vw (c.g.l.map gl) (sL1 F.t k g s i) _ n _:=fun i=>zn55 hv ht (f4 i) (f2 i)
 have O:=h4 (sL1 F.t k g s i) (b8 i);refine yVS9 ?_;by_cases gi:i<s.c.i.l.length
 case pos =>
  have g4:(i:Int)<s.c.i.l.length:=by omega
  have a2:=fun H=>zalo (x:=s.c.i) (h:=H) z6gw gi
  have B:sL1 F.t k g s (i+1)=((if qSt k g false s.c.i.l[i]=true then [s.c.i.l[i].id] else [])).foldl (zepc F.t) (sL1 F.t k g s i):=by
   unfold sL1; rw [zeoo gi,y0f]
  have d9:=z6nc (f:=choR) (c:=s.c) (x:=s.c.i.l[i]);have z:=zsd8 hv ht (f4 i) (f2 i) ⟨s.c.i.l[i],y04 gi,rfl⟩;have c6:ValidC (sL1 F.t k g s i).c:=(l1 i).v;have c2:(sL1 F.t k g s i).o.length≤100000:=by
   have T:=f7 i;have h2:=i6 i;have:(sL1 F.t k g s i).o.length=s.o.length+(idsQ (qSt k g false) (s.c.i.l.take i)).length:=T;rw [k7] at this;omega
  have z : ∃ (p:Nat) (_:p<(sL1 F.t k g s i).c.i.l.length),z092 (sL1 F.t k g s i).c.i.l s.c.i.l[i].id=p:=z;have X:=fun (e:s.c.i.l[i].grp=(k:Int))=>zxlv (c:=c) (d:=s.c) (k:=k) (y:=s.c.i.l[i]) hv.g hk e
  rw [c8] at X;have J:=f8 (sL1 F.t k g s i) (b8 i);have a0:=L.below (sL1 F.t k g s i) (y03 _);have G:=g7 (sL1 F.t k g s i) (b8 i);have I:L.b<(L.H (sL1 F.t k g s i)).length:=RF.len;obtain ⟨a,h7⟩ : ∃ a,sL1 F.t k g s i=a:=⟨_,rfl⟩;rw [h7] at B z c6 c2 J a0 G I O ⊢;obtain ⟨y,hy⟩ : ∃ y,s.c.i.l[i]=y:=⟨_,rfl⟩;rw [hy] at a2 B d9 z X;have ec:=zz5t (H:=L.H a) (cs:=inC y) (off:=0) (z9kv y);have e3 : ∀ h,mk1 (kLt (L.H a).length) h (.mp L.b 5 0) = .mp L.b 5 0:=fun h=>zd3c (by simp only [Am.below,decide_eq_true_eq]; exact I)
  have e4 : ∀ h,mk1 (kLt (L.H a).length) h (.mp N 3 0) = .mp N 3 0:=fun h=>zd3c (by simp only [Am.below,decide_eq_true_eq]; exact G)
  have e5 : ∀ h,mk1 (kLt (L.H a).length) h (tr.dv 35 trC)=tr.dv 35 trC:=fun h=>zvft (zm7q tr)
  have e6 : ∀ h,mk1 (kLt (L.H a).length) h (.ref (xiC x)) = .ref (xiC x):=fun h=>zvft (by simp only [zyp8,zqx0])
  simp (disch:=first|omega|simp<;>omega|fail) [-zE,za9c,zv18,O,zxyh,g8,gi,g4];refine zbn1 (z3mo (yVS9 ?_));simp (disch:=first|omega|simp<;>omega|fail) [-zE,O,zxyh,a2,zisq,zec3];refine zs10 (n0:=N) (H:=L.H a) (cs:=inC y) (t':=[.mp L.b 5 0,.junk,tr.dv 35 trC,.int .i64 k,.junk,.ref (xiC x),.junk,.junk,.mp N 3 0,.int .i64 i,.ref (inC y)]++js 191) a0 (by omega) ?_ (by simp (disch:=first|omega|simp<;>omega|fail) [-zE,belowL,Am.below,I,G,h5,h6,zmq5 _ _ (z9kv y)]) ?_
  ·rw [z6gw,y07] at ec;simp (disch:=first|omega|simp<;>omega|fail) [-zE,ec,e3,e4,e5,e6,-z1bt,-zdpe]
  refine zbn1 (V_W mix zias ?_);have K:qSt k g false y=false→sL1 F.t k g s (i+1)=a:=fun e=>by rw [B,e]; rfl
  by_cases T:y.grp=k
  case neg =>
   have e:=K (by rw [hq,decide_eq_false T]; rfl)
   simp (disch:=first|omega|simp<;>omega|fail) [-zE,zyv0,T];refine yVW9 ?_;simp (disch:=first|omega|simp<;>omega|fail) [-zE];refine yVW9 ?_;simp (disch:=first|omega|simp<;>omega|fail) [-zE];exact ⟨i+1,yWS (by simp [-zE,zabq,zv18,e]),by omega,by omega⟩
  obtain ⟨p,hp,c5⟩:=z;have Q:=z0lh L a y.id J c6 c2 hp c5;rw [i2] at Q;have W:qSt k g false y=true→sL1 F.t k g s (i+1)=zepc F.t a y.id:=fun e=>by rw [B,e]; rfl
  obtain ⟨j,d0⟩ : ∃ j,zepc F.t a y.id=j:=⟨_,rfl⟩;rw [d0] at Q W;obtain ⟨TB,fB,sB,b1,b2,b3⟩:=exTH zr5o Q;by_cases h2:y.state=1
  case neg =>
   have e:=K (by rw [hq,decide_eq_false h2]; simp)
   simp (disch:=first|omega|simp<;>omega|fail) [-zE,zyv0,T,zvh3,h2];refine yVW9 ?_;simp (disch:=first|omega|simp<;>omega|fail) [-zE];refine yVW9 ?_;simp (disch:=first|omega|simp<;>omega|fail) [-zE];exact ⟨i+1,yWS (by simp [-zE,zabq,zv18,e]),by omega,by omega⟩
  by_cases h3:0≤y.den
  ·have e:=W (by rw [hq,d8,decide_eq_true T,decide_eq_true h2,decide_eq_false (show ¬ y.den<0 by omega)]; rfl)
   simp (disch:=first|omega|simp<;>omega|fail) [-zE,zyv0,T,zvh3,h2,z0hu,h3];refine V_W mix sB ?_;simp (disch:=first|omega|simp<;>omega|fail) [-zE,zgz3,b1,b2];refine yVW9 ?_;simp (disch:=first|omega|simp<;>omega|fail) [-zE];exact ⟨i+1,yWS (by simp [-zE,zabq,zv18,e]),by omega,by omega⟩
  have X:=X T;obtain ⟨b,hb⟩ : ∃ b,decide (y.art ∈ g.ch.l)=b:=⟨_,rfl⟩;rw [X,hb] at d9;cases b with
  | true =>
   have e:=K (by rw [hq,d8,hb,decide_eq_true (show y.den<0 by omega)]; simp)
   simp (disch:=first|omega|simp<;>omega|fail) [-zE,zyv0,T,zvh3,h2,z0hu,h3,O,zei9,zisq,zfwr,d9,zy11,z9kv];refine yVW9 ?_;simp (disch:=first|omega|simp<;>omega|fail) [-zE];refine yVW9 ?_;simp (disch:=first|omega|simp<;>omega|fail) [-zE];exact ⟨i+1,yWS (by simp [-zE,zabq,zv18,e]),by omega,by omega⟩
  | false =>
   have e:=W (by rw [hq,d8,hb,decide_eq_true T,decide_eq_true h2]; simp)
   simp (disch:=first|omega|simp<;>omega|fail) [-zE,zyv0,T,zvh3,h2,z0hu,h3,O,zei9,zisq,zfwr,d9,zy11,z9kv];refine V_W mix sB ?_;simp (disch:=first|omega|simp<;>omega|fail) [-zE,zgz3,b1,b2];refine yVW9 ?_;simp (disch:=first|omega|simp<;>omega|fail) [-zE];exact ⟨i+1,yWS (by simp [-zE,zabq,zv18,e]),by omega,by omega⟩
 have g4:¬ (i:Int)<s.c.i.l.length:=by omega
 have m3:s.c.i.l.take i=s.c.i.l:=y00 (by omega)
 have j2:sL1 F.t k g s i=grR1 F.t k g s:=by unfold sL1 grR1; rw [m3]
 have c9:=b8 i;have d4:=l1 i;have e7:=f7 i;have n5:=i6 i;have e7:(sL1 F.t k g s i).o.length=s.o.length+(idsQ (qSt k g false) (s.c.i.l.take i)).length:=e7;rw [j2] at c9 d4 e7 O ⊢;have n1:s.c.g.l.length=c.g.l.length:=by have:=congrArg List.length hv.g; simpa using this
 have hG:=fun H=>zalo (x:=s.c.g) (h:=H) zry4 (show k<s.c.g.l.length by omega)
 have g6:(s.c.g.l[k]'(by omega)).want=g.want:=by
  have e:gl (s.c.g.l[k]'(by omega))=gl c.g.l[k]:=by
   have:=y0m hv.g (i:=k) (by simp; omega)
   simpa using this
  simp only [gl,Prod.mk.injEq] at e;rw [← hg]; exact e.2.2.1
 obtain ⟨gg,m2⟩ : ∃ gg,s.c.g.l[k]'(by omega)=gg:=⟨_,rfl⟩
 rw [m2] at hG g6;obtain ⟨w,hw⟩ : ∃ w,g.want=w:=⟨_,rfl⟩;rw [hw] at g6;simp (disch:=first|omega|simp<;>omega|fail) [-zE,za9c,zv18,O,zxyh,g8,gi,g4];refine yVS9 ?_;simp (disch:=first|omega|simp<;>omega|fail) [-zE,O,zhtb,hG,zhlv,zry4,g6];have a3:Vw (c.g.l.map gl) (grR1 F.t k g s) (grR1 F.t k g s).c.i.l n (grR1 F.t k g s).o:=⟨d4.v,d4.g,rfl,d4.n,rfl⟩;have j6:(grR1 F.t k g s).c.i.l.length=s.c.i.l.length:=by rw [d4.i,zo9a]
 have b4:=d2 (grR1 F.t k g s).c (grR1 F.t k g s) c9;have j5:grpR tr.l x.e.l F.t k g s=filR tr.l x.e.l F.t k g.want (grR3 F.t k (grR2 F.t k g (grR1 F.t k g s))):=rfl;rw [j5];obtain ⟨a,h7⟩ : ∃ a,grR1 F.t k g s=a:=⟨_,rfl⟩;rw [h7] at c9 a3 e7 j6 b4 O ⊢;have c1:=fun s' (h:s.o≠[]→s'.o≠[])=>zzp7 (F:=F) (C:=a.c) (s':=s') htl h
 have b7:=fun s' (h:s.o≠[]→s'.o≠[])=>zeip (F:=F) (C:=a.c) (s':=s') htl h
 have c3:=fun s' (h:s.o≠[]→s'.o≠[])=>z6jn (F:=F) (C:=a.c) (s':=s') htl h
 simp only [hN] at c1 b7;obtain ⟨D,d7⟩ : ∃ D,F.addC (decide (s.o=[])) a.c=D:=⟨_,rfl⟩;have i3:D.b=F.b:=by rw [← d7]; exact zw9i
 have b5:D.t=F.t:=by rw [← d7]; exact zvt5
 rw [d7] at b4;simp only [d7] at c1 b7 c3 ⊢;have i7:=l5 a;refine yVS9 ?_;simp (disch:=first|omega|simp<;>omega|fail) [-zE,i7,RF.one3,O,k3,b4];have i8 : ∀ s',objV (D.H s') D.b 5=some (D.rd s'.c (oV D.k 34 s'.o)):=fun s'=>RF.obj0
 rw [e9,← i3];have i9:=c1 a c9;refine zbn1 (yVS9 ?_);simp (disch:=first|omega|simp<;>omega|fail) [-zE,i9,zxyh,g8];have k5:sL2 F.t k g a a.c.i.l.length=a:=by unfold sL2; rw [List.drop_length]; simp [idsQ]
 refine z3mo (ztbr (zj2j D x tr N k w F.t g a) (fun p=>p) (fun p=>p≤a.c.i.l.length) a.c.i.l.length (yWS (by simp [-zE,zj2j,zavw,k5])) (y03 _) (fun p hp => ?_))
 simp only [zj2j];have m0:=vw_d a3;have e8 : ∀ y,qSt k g true y=(decide (y.grp=(k:Int))&&(decide (y.state=1)&&(chos g y == true))):=fun y=>rfl
 have b9 : ∀ p,s.o≠[]→(sL2 F.t k g a p).o≠[]:=fun p h=>zv54 _ _ _ (c9 h)
 have i4:=z1ms a3.g hk;rw [c8] at i4;obtain ⟨m,hm⟩ : ∃ m,((znqs a.c k).length-g.want).toNat=m:=⟨_,rfl⟩;have c7 : ∀ p,((idsQ (qSt k g true) (a.c.i.l.drop p)).reverse.take m).Nodup:=fun p=>(zc13 (z0x4 m0)).sublist (y06 _ _)
 have f0 : ∀ p,∀ V ∈ (idsQ (qSt k g true) (a.c.i.l.drop p)).reverse.take m,V ∈ idsQ (qGd k g) a.c.i.l:=fun p V E=>by
  obtain ⟨y,hy,e1,e2⟩:=z6r9.1 (y0b.1 (y02 E));exact z6r9.2 ⟨y,List.mem_of_mem_drop hy,zizy y e1,e2⟩
 have f1 : ∀ p,∀ V ∈ (idsQ (qSt k g true) (a.c.i.l.drop p)).reverse.take m,∃ x ∈ a.c.i.l,x.id=V∧x.state≠3:=fun p V E=>zbb8 zapq V (f0 p V E)
 have l2 : ∀ p,Vw (c.g.l.map gl) (sL2 F.t k g a p) _ n _:=fun p=>by
  have:=zn55 a3 ht (c7 p) (f1 p);unfold sL2;rw [hm];exact this
 have j8 : ∀ p,(sL2 F.t k g a p).o.length≤a.o.length+19:=fun p=>by
  unfold sL2;rw [hm,zdl9];have T:(idsQ (qSt k g true) (a.c.i.l.drop p)).length≤19:=by
   unfold idsQ;rw [y0i];have:=y0t (qSt k g true) (a.c.i.l.drop p);rw [List.length_drop] at this;omega
  rw [y09,List.length_reverse];omega
 have b6:=c1 (sL2 F.t k g a p) (b9 p);refine yVS9 ?_;by_cases hp0:p=0
 case neg =>
  obtain ⟨r,rfl⟩ : ∃ r,p=r+1:=⟨p-1,by omega⟩
  have hr:r<a.c.i.l.length:=by omega
  have l9:((r+1:Nat):Int)-1=r:=by omega
  rw [l9];have m4:(0:Int)≤r:=by omega
  have a2:=fun H=>zalo (x:=a.c.i) (h:=H) z6gw hr
  have c4:=zizj (k:=k) a3 ht hk (c7 (r+1)) (fun V E=>by rw [c8]; exact f0 (r+1) V E)
  rw [c8,← i4] at c4;have c4:(znqs (sL2 F.t k g a (r+1)).c k).length+((idsQ (qSt k g true) (a.c.i.l.drop (r+1))).reverse.take m).length=(znqs a.c k).length:=by
   unfold sL2; rw [hm]; exact c4
  have B:sL2 F.t k g a r=((((idsQ (qSt k g true) (a.c.i.l.drop (r+1))).reverse++(if qSt k g true a.c.i.l[r]=true then [a.c.i.l[r].id] else [])).take m)).foldl (zepc F.t) a:=by
   unfold sL2; rw [hm,zjn1 hr]
  have U:sL2 F.t k g a (r+1)=((idsQ (qSt k g true) (a.c.i.l.drop (r+1))).reverse.take m).foldl (zepc F.t) a:=by
   unfold sL2; rw [hm]
  have z:=zsd8 a3 ht (c7 (r+1)) (f1 (r+1)) ⟨a.c.i.l[r],y04 hr,rfl⟩;rw [← U] at z;have c6:ValidC (sL2 F.t k g a (r+1)).c:=(l2 (r+1)).v;have c2:=j8 (r+1);have a1:=ztaz (f:=zq4a) (c:=(sL2 F.t k g a (r+1)).c) (k:=k);have m1:zq4a (sL2 F.t k g a (r+1)).c k=liV (znqs (sL2 F.t k g a (r+1)).c k):=by rw [zj8p c6]; rfl
  rw [m1] at a1;have e0:=z6nc (f:=zape) (c:=a.c) (x:=a.c.i.l[r]);have X:=fun (e:a.c.i.l[r].grp=(k:Int))=>zxlv (c:=c) (d:=a.c) (k:=k) (y:=a.c.i.l[r]) a3.g hk e
  rw [c8] at X;have j0:=((zyak a3.v).s _ (y04 hr)).2.2;have J:=c3 (sL2 F.t k g a (r+1)) (b9 (r+1));have a0:=D.below (sL2 F.t k g a (r+1)) (y03 _);have G:=b7 (sL2 F.t k g a (r+1)) (b9 (r+1));have I:D.b<(D.H (sL2 F.t k g a (r+1))).length:=RF.len;have u:=i8 (sL2 F.t k g a (r+1));obtain ⟨R,l6⟩ : ∃ R,(idsQ (qSt k g true) (a.c.i.l.drop (r+1))).reverse=R:=⟨_,rfl⟩;rw [l6] at c4 B U;obtain ⟨j,d0⟩ : ∃ j,sL2 F.t k g a (r+1)=j:=⟨_,rfl⟩;rw [d0] at z c6 c2 J a0 G I b6 a1 c4 u U ⊢;obtain ⟨y,hy⟩ : ∃ y,a.c.i.l[r]=y:=⟨_,rfl⟩;rw [hy] at a2 B z e0 X j0;obtain ⟨GL,l3⟩ : ∃ GL,znqs j.c k=GL:=⟨_,rfl⟩;rw [l3] at a1 c4;obtain ⟨p,hp,c5⟩:=z;have Q:=z0lh D j y.id J c6 (by omega) hp c5
  rw [b5] at Q;have K:qSt k g true y=false→sL2 F.t k g a r=j:=fun e=>by rw [B,e,U]; simp
  have i0:¬ (w:Int)<GL.length→sL2 F.t k g a r=j:=fun e=>by
   rw [B,U,zebf (by omega)]
  have W:(w:Int)<GL.length→qSt k g true y=true→sL2 F.t k g a r=zepc F.t j y.id:=fun e1 e2=>by
   rw [B,e2,U,if_pos rfl,zpev (by omega),y0f]; rfl
  obtain ⟨s3,h8⟩ : ∃ s3,zepc F.t j y.id=s3:=⟨_,rfl⟩;rw [h8] at Q W;obtain ⟨TB,fB,sB,b1,b2,b3⟩:=exTH zr5o Q;have ec:=zz5t (H:=D.H j) (cs:=inC y) (off:=0) (z9kv y);have e3 : ∀ h,mk1 (kLt (D.H j).length) h (.mp D.b 5 0) = .mp D.b 5 0:=fun h=>zd3c (by simp only [Am.below,decide_eq_true_eq]; exact I)
  have e4 : ∀ h,mk1 (kLt (D.H j).length) h (.mp N 3 0) = .mp N 3 0:=fun h=>zd3c (by simp only [Am.below,decide_eq_true_eq]; exact G)
  have e5 : ∀ h,mk1 (kLt (D.H j).length) h (tr.dv 35 trC)=tr.dv 35 trC:=fun h=>zvft (zm7q tr)
  have e6 : ∀ h,mk1 (kLt (D.H j).length) h (.ref (xiC x)) = .ref (xiC x):=fun h=>zvft (by simp only [zyp8,zqx0])
  simp (disch:=first|omega|simp<;>omega|fail) [-zE,z93n,zavw,m4];refine zbn1 (z3mo (yVS9 ?_));simp (disch:=first|omega|simp<;>omega|fail) [-zE,b6,zxyh,a2,zisq,zec3];refine zs10 (n0:=N) (H:=D.H j) (cs:=inC y) (t':=[.mp D.b 5 0,.junk,tr.dv 35 trC,.int .i64 k,.junk,.ref (xiC x),.junk,.junk,.mp N 3 0,.junk,.junk,.int .i64 w,.int .i64 r,.ref (inC y)]++js 188) a0 (by omega) ?_ (by simp (disch:=first|omega|simp<;>omega|fail) [-zE,belowL,Am.below,I,G,h5,h6,zmq5 _ _ (z9kv y)]) ?_
  ·rw [z6gw,y07] at ec;simp (disch:=first|omega|simp<;>omega|fail) [-zE,ec,e3,e4,e5,e6,-z1bt,-zdpe]
  refine zbn1 (V_W mix zias ?_);by_cases g1:(w:Int)<GL.length
  case neg =>
   have e:=i0 g1;simp (disch:=first|omega|simp<;>omega|fail) [-zE,u,RF.one3,zkby,a1,zy11,zo8b,g1];refine yVW9 ?_;simp (disch:=first|omega|simp<;>omega|fail) [-zE];refine yVW9 ?_;simp (disch:=first|omega|simp<;>omega|fail) [-zE];exact ⟨r,yWS (by simp [-zE,zj2j,zavw,e]),by omega,by omega⟩
  by_cases T:y.grp=k
  case neg =>
   have e:=K (by rw [e8,decide_eq_false T]; rfl)
   simp (disch:=first|omega|simp<;>omega|fail) [-zE,u,RF.one3,zkby,a1,zy11,zo8b,g1,zyv0,T];refine yVW9 ?_;simp (disch:=first|omega|simp<;>omega|fail) [-zE];refine yVW9 ?_;simp (disch:=first|omega|simp<;>omega|fail) [-zE];exact ⟨r,yWS (by simp [-zE,zj2j,zavw,e]),by omega,by omega⟩
  by_cases h2:y.state=1
  case neg =>
   have e:=K (by rw [e8,decide_eq_false h2]; simp)
   simp (disch:=first|omega|simp<;>omega|fail) [-zE,u,RF.one3,zkby,a1,zy11,zo8b,g1,zyv0,T,zvh3,h2];refine yVW9 ?_;simp (disch:=first|omega|simp<;>omega|fail) [-zE];refine yVW9 ?_;simp (disch:=first|omega|simp<;>omega|fail) [-zE];exact ⟨r,yWS (by simp [-zE,zj2j,zavw,e]),by omega,by omega⟩
  have j1:zape a.c y=chos g y:=by
   unfold zape;rw [X T,d8,decide_eq_true h2,Bool.true_or,Bool.true_and];congr 1;exact decide_eq_decide.2 (by omega)
  obtain ⟨b,hb⟩ : ∃ b,chos g y=b:=⟨_,rfl⟩;rw [j1,hb] at e0;cases b with
  | false =>
   have e:=K (by rw [e8,hb]; simp)
   simp (disch:=first|omega|simp<;>omega|fail) [-zE,u,RF.one3,zkby,a1,zy11,zo8b,g1,zyv0,T,zvh3,h2,b6,zei9,zisq,zypy,e0,z9kv];refine yVW9 ?_;simp (disch:=first|omega|simp<;>omega|fail) [-zE];refine yVW9 ?_;simp (disch:=first|omega|simp<;>omega|fail) [-zE];exact ⟨r,yWS (by simp [-zE,zj2j,zavw,e]),by omega,by omega⟩
  | true =>
   have e:=W g1 (by rw [e8,hb,decide_eq_true T,decide_eq_true h2]; rfl)
   simp (disch:=first|omega|simp<;>omega|fail) [-zE,u,RF.one3,zkby,a1,zy11,zo8b,g1,zyv0,T,zvh3,h2,b6,zei9,zisq,zypy,e0,z9kv];refine V_W mix sB ?_;simp (disch:=first|omega|simp<;>omega|fail) [-zE,zgz3,b1,b2];refine yVW9 ?_;simp (disch:=first|omega|simp<;>omega|fail) [-zE];exact ⟨r,yWS (by simp [-zE,zj2j,zavw,e]),by omega,by omega⟩
 subst hp0;have j3:sL2 F.t k g a 0=grR2 F.t k g a:=by unfold sL2 grR2; rw [y07]
 have h0:=b9 0;have d5:=l2 0;have f6:=j8 0;have u:=i8 (sL2 F.t k g a 0);have m7:¬ (0:Int)≤((0:Nat):Int)-1:=by omega
 rw [j3] at h0 d5 f6 u ⊢;simp (disch:=first|omega|simp<;>omega|fail) [-zE,z93n,zavw,m7];have S:Vw (c.g.l.map gl) (grR2 F.t k g a) (grR2 F.t k g a).c.i.l n (grR2 F.t k g a).o:=⟨d5.v,d5.g,rfl,d5.n,rfl⟩;have j7:(grR2 F.t k g a).c.i.l.length=a.c.i.l.length:=by rw [d5.i,zo9a]
 obtain ⟨j,d0⟩ : ∃ j,grR2 F.t k g a=j:=⟨_,rfl⟩;rw [d0] at h0 S j7 f6 u ⊢;have k8:=ztpi (A:=VicOK) (f:=zfe6) (c:=j.c) (k:=k) (zt0b S.v (by omega))
 have k9:zfe6 j.c k=liV (zu3j j.c k):=by rw [zay2 S.v]; rfl
 rw [k9] at k8;have k1:=ztpi (A:=LimC) (f:=ze9k) (c:=j.c) (k:=k) (zo0d S.v);have k2:ze9k j.c k = .int .i64 (z17v j.c k):=by rw [z6ez S.v]; rfl
 rw [k2] at k1;have k0:0≤z17v j.c k:=by rw [zouj S.g hk]; omega
 have m5:=zsd3 (zwp1 S) hk;have l0:=fun V E=>zbb8 zw63 V (zzgu (zwp1 S) hk V E)
 have n3:=z9e8 (c:=j.c) (k:=k);have j4:grR3 F.t k j=((zu3j j.c k).take (z17v j.c k).toNat).foldl (zepc F.t) j:=rfl;refine zbn1 (V_W mix zias ?_);simp (disch:=first|omega|simp<;>omega|fail) [-zE,u,RF.one3,z9vc,k8,z316,k1,zy11];refine zbn1 (yVS9 ?_);simp (disch:=first|omega|simp<;>omega|fail) [-zE];have k6:sL3 F.t k j 0=j:=rfl;refine z3mo (ztbr (z43a D x tr k w F.t j) (fun i=>(zu3j j.c k).length-i) (fun i=>i≤(zu3j j.c k).length∧(i:Int)≤z17v j.c k) 0 (yWS (by simp [-zE,z43a,z0nm,k6])) ⟨y0c _,k0⟩ (fun i hi => ?_))
 obtain ⟨n4,m8⟩:=hi;simp only [z43a];have c0:s.o≠[]→(sL3 F.t k j i).o≠[]:=fun h=>zv54 _ _ _ (h0 h)
 have f5:((zu3j j.c k).take i).Nodup:=m5.sublist (y06 _ _);have f9 : ∀ V ∈ (zu3j j.c k).take i,∃ x ∈ j.c.i.l,x.id=V∧x.state≠3:=fun V E=>l0 V (y02 E)
 have d3:Vw (c.g.l.map gl) (sL3 F.t k j i) _ n _:=zn55 S ht f5 f9;have j9:(sL3 F.t k j i).o.length≤j.o.length+57:=by
  unfold sL3;rw [zdl9,y09];omega
 refine yVS9 ?_;by_cases g3:i<(zu3j j.c k).length∧(i:Int)<z17v j.c k
 case pos =>
  obtain ⟨Y,g2⟩:=g3;have Z:(i:Int)<(zu3j j.c k).length:=by omega
  have a2:=fun H=>zcq2 H Y
  have z:=zsd8 S ht f5 f9 (by obtain ⟨x,hx,e,_⟩:=l0 _ (y04 Y); exact ⟨x,hx,e⟩)
  have z : ∃ (p:Nat) (_:p<(sL3 F.t k j i).c.i.l.length),z092 (sL3 F.t k j i).c.i.l (zu3j j.c k)[i]=p:=z;have B:sL3 F.t k j (i+1)=zepc F.t (sL3 F.t k j i) (zu3j j.c k)[i]:=by
   unfold sL3; rw [y08 Y,y0f]; rfl
  have J:=c3 (sL3 F.t k j i) c0;obtain ⟨p,hp,c5⟩:=z;obtain ⟨V,E⟩ : ∃ V,(zu3j j.c k)[i]=V:=⟨_,rfl⟩;rw [E] at a2 c5 B;have Q:=z0lh D (sL3 F.t k j i) V J d3.v (by omega) hp c5
  rw [b5,← B] at Q;obtain ⟨TB,fB,sB,b1,b2,b3⟩:=exTH zr5o Q;simp (disch:=first|omega|simp<;>omega|fail) [-zE,zr68,z0nm,zo8b,Y,Z,g2];refine zbn1 (z3mo (V_W mix sB ?_));simp (disch:=first|omega|simp<;>omega|fail) [-zE,a2,b1,b2];refine yVW9 ?_;simp (disch:=first|omega|simp<;>omega|fail) [-zE];exact ⟨i+1,yWS (by simp [-zE,z43a,z0nm]),by omega,by omega,by omega⟩
 have g5:sL3 F.t k j i=grR3 F.t k j:=by
  rw [j4]; unfold sL3;by_cases q:i<(zu3j j.c k).length
  ·have:i=(z17v j.c k).toNat:=by
    have:¬ (i:Int)<z17v j.c k:=fun e=>g3 ⟨q,e⟩
    omega
   rw [this]
  ·rw [y00 (by omega),y00 (by omega)]
 have h9:Vw (c.g.l.map gl) (sL3 F.t k j i) (sL3 F.t k j i).c.i.l n (sL3 F.t k j i).o:=⟨d3.v,d3.g,rfl,d3.n,rfl⟩;have f3:(sL3 F.t k j i).c.i.l.length=j.c.i.l.length:=by rw [d3.i,zo9a]
 rw [g5] at c0 h9 f3 j9 ⊢;obtain ⟨s3,h8⟩ : ∃ s3,grR3 F.t k j=s3:=⟨_,rfl⟩;rw [h8] at c0 h9 f3 j9 ⊢;have g0:=zidx D x tr hsr c s s3 n k N g hk hg (by rw [b5]; exact ht) w hw (by omega) (by omega) h9 (by omega) hn (by omega) c0 b7 c3
 rw [b5,← hw] at g0;rw [← hw];by_cases Y:i<(zu3j j.c k).length
 ·have Z:(i:Int)<(zu3j j.c k).length:=by omega
  have g2:¬ (i:Int)<z17v j.c k:=fun e=>g3 ⟨Y,e⟩
  simp (disch:=first|omega|simp<;>omega|fail) [-zE,zr68,z0nm,zo8b,Y,Z,g2];exact zqfd (z515 (by simp (disch:=first|omega|simp<;>omega|fail) [-zE,zxf4,z01y]) rfl) g0
 ·have Z:¬ (i:Int)<(zu3j j.c k).length:=by omega
  simp (disch:=first|omega|simp<;>omega|fail) [-zE,zr68,z0nm,zo8b,Y,Z];exact zqfd (z515 (by simp (disch:=first|omega|simp<;>omega|fail) [-zE,zxf4,z01y]) rfl) g0
end
section
theorem zba3 {tr:List Tri} {ix:List Ixe} {t k:Int} : ∀ {m:Nat} {s:Rnd},s.o≠[]→(zpk2 tr ix t k m s).o≠[]
 | 0,s,h=>h
 | m+1,s,h=>by
  unfold zpk2;split
  ·refine zba3 ?_;unfold zd8x;split
   ·exact h
   ·split
    ·simp
    ·exact h
  ·exact h
theorem z0fg {tr:List Tri} {ix:List Ixe} {t:Int} {k:Nat} {g:Grp} {s:Rnd} (h:s.o≠[]):(grpR tr ix t k g s).o≠[]:=by
 unfold grpR filR;refine zba3 ?_;unfold grR3;refine zv54 _ _ _ ?_;unfold grR2;refine zv54 _ _ _ ?_;unfold grR1;exact zv54 _ _ _ h
theorem z05h {tr:List Tri} {ix:List Ixe} {t:Int} {c:Clu} {s:Rnd} {k:Nat} (hk:k<c.g.l.length):rndR tr ix t c (k+1) s=grpR tr ix t k c.g.l[k] (rndR tr ix t c k s):=by
 show (match c.g.l[k]? with|some g=>_|none=>_)=_
 rw [y01 hk]
def rF0 (c:Clu) (x:Idx) (t:Int):RF:=⟨[.cells (clC c),.cells (xiC x),.cells [.nils,.nils,.int .i64 0]],fun n _=>by simp only [zlf2,zmq5 _ _ (zy11 c),zmq5 _ _ (zqx0 x),Bool.true_and]; rfl,[],fun _=>rfl,[],fun _=>rfl,t⟩
noncomputable def frK (F:RF) (tr:List Tri) (ix:List Ixe) (t:Int) (c:Clu) (s:Rnd):Nat→RF
 | 0=>F
 | k+1=>match c.g.l[k]? with
  | some g=>(frK F tr ix t c s k).addC (decide ((rndR tr ix t c k s).o=[])) (grR1 t k g (rndR tr ix t c k s)).c
  | none=>frK F tr ix t c s k
section
variable {F:RF} {tr:List Tri} {ix:List Ixe} {t:Int} {c:Clu} {s:Rnd}
theorem zwpb {k:Nat} (hk:k<c.g.l.length):frK F tr ix t c s (k+1)=(frK F tr ix t c s k).addC (decide ((rndR tr ix t c k s).o=[])) (grR1 t k c.g.l[k] (rndR tr ix t c k s)).c:=by
 show (match c.g.l[k]? with|some g=>_|none=>_)=_
 rw [y01 hk]
theorem zhoh : ∀ {k:Nat},k≤c.g.l.length→(frK F tr ix t c s k).b=F.b
 | 0,_=>rfl
 | k+1,h=>by rw [zwpb (by omega),zw9i,zhoh (by omega)]
theorem z03e : ∀ {k:Nat},k≤c.g.l.length→(frK F tr ix t c s k).t=F.t
 | 0,_=>rfl
 | k+1,h=>by rw [zwpb (by omega),zvt5,z03e (by omega)]
theorem z5mp : ∀ {k:Nat},k≤c.g.l.length→(frK F tr ix t c s k).pre=F.pre
 | 0,_=>rfl
 | k+1,h=>by rw [zwpb (by omega),zmr9,z5mp (by omega)]
theorem zpdq (h0:s.o=[]→F.tl=[]) : ∀ {k:Nat},k≤c.g.l.length→(rndR tr ix t c k s).o=[]→(frK F tr ix t c s k).tl=[]
 | 0,_,h=>h0 h
 | k+1,hk,h=>by
  rw [zwpb (by omega)]
  exact z6jn (zpdq h0 (k:=k) (by omega)) (fun q=>by rw [z05h (by omega)]; exact z0fg q) h
end
theorem zppj {h:List AObj} {i j n:Nat} {X:AObj} (hne:i≠j):objV (h.set i X) j n=objV h j n:=by
 unfold objV ziu0;rw [List.getElem?_set_ne hne]
theorem RF.objo {F:RF} {c:Clu} {q:DV} {o:List Cmd} (e:o≠[]):objV (F.G c q o) F.k (o.length*34)=some (fl cmC o):=by
 have a:(F.pre++(AObj.cells (F.rd c q)::F.mid)).length=F.k:=by simp [RF.k,RF.b]; omega
 have d:F.G c q o=(F.pre++(.cells (F.rd c q)::F.mid))++(.cells (fl cmC o)::F.tl):=by
  unfold RF.G; rw [ztxo e]; simp
 rw [d,← a];unfold objV ziu0;rw [y0n (y03 _),y0k];simp [z8lx zfq1]
theorem zgmw {F:RF} {s:Rnd} {i:Nat} {X:AObj} (hi:i<F.k):mk1 (kLt 0) ((F.H s).set i X) (oV F.k 34 s.o)=cmV s.o:=by
 by_cases e:s.o=[]
 ·rw [e]; exact zhx5
 ·rw [zpni e,zjem e];refine zwy6 ?_;rw [zi9r,if_neg (by simp [kLt]),zppj (by omega)]
  have a:objV (F.H s) F.k (s.o.length*34)=some (fl cmC s.o):=RF.objo e;rw [a,y0q,y07];have b:(fl cmC s.o).take (s.o.length*34)=s.o.flatMap cmC:=y00 (by rw [z8lx zfq1]; omega)
  rw [b,zl6f (zp6k zoyx s.o)]; rfl
structure RdR (a:RdA):Prop where
 v:ValidC a.c
 n:a.c.g.l.length≤3
 w : ∀ g ∈ a.c.g.l,g.want≤3
 i:a.c.i.l.length≤10
 nx:a.c.next≤1000000
 tm:zcie a.t
 sr:SrtX a.x.e.l
 ov:OvR (a.c,a.gr,a.t)
theorem ztj1 {a:RdA} (q:RdR a) {k:Nat} (hk:k<a.c.g.l.length) : ∃ n,GrR a.c a.t k a.c.g.l[k] (rndR a.tr.l a.x.e.l a.t a.c k (z1oo a.gr.l a.t a.c)) n (rndR a.tr.l a.x.e.l a.t a.c k (z1oo a.gr.l a.t a.c)).o:=by
 obtain ⟨l,n,o,h⟩:=z14r (tr:=a.tr.l) (ix:=a.x.e.l) (gr:=a.gr.l) q.v q.n q.w q.i q.nx q.tm (k:=k) (by omega)
 have u:=ztza q.v q.n q.w q.i (tr:=a.tr.l) (ix:=a.x.e.l) (t:=a.t) (gr:=a.gr.l) (k:=k) (by omega)
 have m:=zblg (tr:=a.tr.l) (ix:=a.x.e.l) (t:=a.t) (s0:=rnd0 a.gr.l a.t a.c) q.w (k:=k) (by omega)
 have y:(rnd0 a.gr.l a.t a.c).c.next=a.c.next:=by unfold rnd0; rw [zl9x]; rfl
 have A:=q.n;have s:=q.nx;have z:=u.b;have d:=u.o;rw [h.p.i] at z;rw [h.p.o] at d;rw [h.p.n] at m;have f:=h.r.i;have j:=h.r.o;refine ⟨n,⟨h.r.v,h.r.g,rfl,h.r.n,rfl⟩,hk,rfl,q.tm,by rw [f]; omega,by omega,by rw [j]; omega,(q.v.g k hk).1.w0,q.w _ (y04 hk)⟩
noncomputable def dR (t:Int) (c:Clu) (V:List Int) (i:Nat):Rnd:=(V.take i).foldl (zepc t) ⟨c,[]⟩
noncomputable def zgdn (F:RF) (tr:Sl Tri) (c:Clu) (V:List Int) (i:Nat):St:=zhlx (tr.dv 35 trC) (.mp 0 3 0) (.mp 1 2 0) (.mp 2 3 0) (.mp 3 5 0) (liV V) (.int .i64 i) (F.H (dR F.t c V i))
noncomputable def zqzg (F:RF) (x:Idx) (tr:Sl Tri) (t:Int) (c:Clu) (s:Rnd) (k:Nat):St:=zbwj (tr.dv 35 trC) (.mp 0 3 0) (.mp 1 2 0) (.mp 2 3 0) (.mp 3 5 0) (.int .i64 k) ((frK F tr.l x.e.l t c s k).H (rndR tr.l x.e.l t c k s))
noncomputable def zp33:Tbl:=addT 32 (.pure z5kd) tbl0
theorem ze17:zp33 32 = .pure z5kd:=by simp [zp33]
theorem zvce:zp33.Sound P:=z0rp z60y zr5o
theorem z25d {c:Clu} {t:Int}:zvnk [.nils,.nils,.int .i64 0,.nils,.int .i64 0] [(0,3,.agg (clC c)),(4,1,.int .i64 t)]=some (.agg [c.g.dv 6 grC,c.i.dv 37 inC,.int .i64 c.next,.nils,.int .i64 t]):=by
 simp [zvnk,zi03,zk7y,DV.known,DV.cells,clC,Sl.dv]
theorem zxa3 (a:RdA) (q:RdR a):Am.Sem P 26 [.agg (clC a.c),.agg (xiC a.x),a.tr.dv 35 trC,a.gr.dv,.int .i64 a.t] (rdV (z2t6 a.tr.l a.x.e.l a.gr.l a.t a.c)):=by
 refine znz9 Tryz.func26 z9gs ?_;have S:=fun k hk=>ztj1 q (k:=k) hk
 have hv:=q.v;have B:=zota q.ov;have J:=fun id A=>za3t (l:=a.c.i.l) (gr:=a.gr.l) (t:=a.t) id A
 have I:=zgrg q.v (gr:=a.gr.l) (t:=a.t);have Z:=z9p7 (gr:=a.gr.l) (t:=a.t) (l:=a.c.i.l) (j:=0);have c6:=q.i;have W:=q.tm;have b9:=q.sr;clear q;obtain ⟨c,x,tr,gr,t⟩:=a;simp only at S hv B J I Z c6 W b9 ⊢;have B:z5kd [.agg (clC c),gr.dv,.int .i64 t]=some (liV (ze9z c.i.l 0 gr.l t)):=B;have d3:z2t6 tr.l x.e.l gr.l t c=rndR tr.l x.e.l t c c.g.l.length (z1oo gr.l t c):=rfl;have b7:z1oo gr.l t c=(ze9z c.i.l 0 gr.l t).foldl (zepc t) ⟨c,[]⟩:=rfl;rw [d3];obtain ⟨V,hV⟩ : ∃ V,ze9z c.i.l 0 gr.l t=V:=⟨_,rfl⟩;rw [hV] at B J I Z b7;obtain ⟨F,X⟩ : ∃ F,rF0 c x t=F:=⟨_,rfl⟩;have E:F.t=t:=by rw [← X]; rfl
 have D:F.b=3:=by rw [← X]; rfl
 have K:F.tl=[]:=by rw [← X]; rfl
 have c1:[AObj.cells (clC c),.cells (xiC x),.cells [.nils,.nils,.int .i64 0],.cells [c.g.dv 6 grC,c.i.dv 37 inC,.int .i64 c.next,.nils,.int .i64 t]]=F.H ⟨c,[]⟩:=by rw [← X]; rfl
 have Y:F.pre=[.cells (clC c),.cells (xiC x),.cells [.nils,.nils,.int .i64 0]]:=by rw [← X]; rfl
 have T : ∀ (F':RF) (s:Rnd),F'.pre=F.pre→objV (F'.H s) 0 3=some (clC c)∧objV (F'.H s) 1 2=some (xiC x)∧objV (F'.H s) 2 3=some [.nils,.nils,.int .i64 0]:=fun F' s h=>by
  unfold RF.H RF.G;rw [h,Y];exact ⟨rfl,rfl,rfl⟩
 have e3:=zqx0 x;have e0:=zm7q tr;have d2:=zkx7 gr;have a3:oneC 3 true (clC c)=some (.agg (clC c)):=rfl;have d0:oneC 2 true (xiC x)=some (.agg (xiC x)):=rfl;have b5:oneC 1 false (clC c)=some (c.g.dv 6 grC):=rfl;have a2 : ∀ H,lenD H (c.g.dv 6 grC)=some (.int .i64 c.g.l.length):=fun H=>zupj
 have c8:(xiC x).length=2:=rfl;have d9:=c.g.b;have c3:=z25d (c:=c) (t:=t);refine yVS9 ?_;simp (disch:=first|omega|simp<;>omega|fail) [-zE,a26,c8];refine yVS9 ?_;simp (disch:=first|omega|simp<;>omega|fail) [-zE,a3,c3,c1];obtain ⟨p0,p1,p2⟩:=T F ⟨c,[]⟩ rfl;refine zbn1 (V_W mix zvce ?_);simp (disch:=first|omega|simp<;>omega|fail) [-zE,p0,a3,ze17,B,zy11,d2];refine zbn1 (yVS9 ?_);simp (disch:=first|omega|simp<;>omega|fail) [-zE];have c4:dR F.t c V 0=⟨c,[]⟩:=rfl;refine z3mo (ztbr (zgdn F tr c V) (fun i=>V.length-i) (fun i=>i≤V.length) 0 (yWS (by simp [-zE,zgdn,zhlx,c4])) (y0c _) (fun i hi => ?_))
 simp only [zgdn];have h0:Vw (c.g.l.map gl) ⟨c,[]⟩ c.i.l c.next []:=⟨hv,rfl,rfl,rfl,rfl⟩;have L : ∀ id ∈ V.take i,∃ x ∈ c.i.l,x.id=id∧x.state≠3:=fun id A=>by
  obtain ⟨x,h1,h2,h3,_⟩:=J id (y02 A);exact ⟨x,h1,h2,h3⟩
 refine yVS9 ?_;by_cases g:i<V.length
 case pos =>
  have g':(i:Int)<V.length:=by omega
  have a1:=fun H=>zcq2 H g
  have d7:=zn55 (t:=F.t) h0 (by rw [E]; exact W) (I.sublist (y06 i V)) L
  have c9:=zsd8 (t:=F.t) h0 (by rw [E]; exact W) (I.sublist (y06 i V)) L (id:=V[i]) (by obtain ⟨x,h1,h2,_⟩:=J _ (y04 g); exact ⟨x,h1,h2⟩)
  have C:dR F.t c V (i+1)=zepc F.t (dR F.t c V i) V[i]:=by
   unfold dR; rw [y08 g,y0f]; rfl
  have d5:(dR F.t c V i).o.length≤100000:=by
   unfold dR;rw [zdl9,y09];show 0+_≤_;omega
  obtain ⟨p,hp,b6⟩:=c9;obtain ⟨id,A⟩ : ∃ id,V[i]=id:=⟨_,rfl⟩;rw [A] at a1 b6 C;have z:=z0lh F (dR F.t c V i) id (fun _=>K) d7.v d5 hp b6
  rw [← C,D] at z;obtain ⟨TB,fB,sB,b1,b2,b3⟩:=exTH zr5o z;simp (disch:=first|omega|simp<;>omega|fail) [-zE,zr3y,zhlx,zo8b,g,g'];refine zbn1 (z3mo (V_W mix sB ?_));simp (disch:=first|omega|simp<;>omega|fail) [-zE,a1,b1,b2];refine yVW9 ?_;simp (disch:=first|omega|simp<;>omega|fail) [-zE];exact ⟨i+1,yWS (by simp [-zE,zgdn,zhlx]),by omega,by omega⟩
 have g':¬ (i:Int)<V.length:=by omega
 have c5:dR F.t c V i=z1oo gr.l t c:=by
  rw [b7,← E]; unfold dR; rw [y00 (by omega)]
 rw [c5];obtain ⟨w,d4⟩ : ∃ w,z1oo gr.l t c=w:=⟨_,rfl⟩;rw [d4] at S ⊢;simp (disch:=first|omega|simp<;>omega|fail) [-zE,zr3y,zhlx,zo8b,g,g'];refine zbn1 (yVS9 ?_);simp (disch:=first|omega|simp<;>omega|fail) [-zE];have c7:frK F tr.l x.e.l t c w 0=F:=rfl;have b8:rndR tr.l x.e.l t c 0 w=w:=rfl;refine z3mo (ztbr (zqzg F x tr t c w) (fun k=>c.g.l.length-k) (fun k=>k≤c.g.l.length) 0 (yWS (by simp [-zE,zqzg,zbwj,c7,b8])) (y0c _) (fun k hk => ?_))
 simp only [zqzg];have m:=zhoh (F:=F) (tr:=tr.l) (ix:=x.e.l) (t:=t) (c:=c) (s:=w) hk;have y:=z03e (F:=F) (tr:=tr.l) (ix:=x.e.l) (t:=t) (c:=c) (s:=w) hk;have u:=z5mp (F:=F) (tr:=tr.l) (ix:=x.e.l) (t:=t) (c:=c) (s:=w) hk;have r:=zpdq (F:=F) (tr:=tr.l) (ix:=x.e.l) (t:=t) (c:=c) (s:=w) (fun _=>K) hk
 refine yVS9 ?_;by_cases gk:k<c.g.l.length
 case pos =>
  have N:(k:Int)<c.g.l.length:=by omega
  obtain ⟨n,a0⟩:=S k gk;have C:=z05h (tr:=tr.l) (ix:=x.e.l) (t:=t) (s:=w) gk;have Q:=zwpb (F:=F) (tr:=tr.l) (ix:=x.e.l) (t:=t) (s:=w) gk;obtain ⟨d,U⟩ : ∃ d,rndR tr.l x.e.l t c k w=d:=⟨_,rfl⟩;rw [U] at a0 C Q r ⊢;obtain ⟨f,O⟩ : ∃ f,frK F tr.l x.e.l t c w k=f:=⟨_,rfl⟩;rw [O] at Q m y u r ⊢;obtain ⟨q0,q1,q2⟩:=T f d u;have c0:f.t=t:=by rw [y,E]
  have z:=zw5s f x tr b9 c d n d.o k c.g.l[k] (by rw [c0]; exact a0) r
  rw [c0,← Q,← C,m,D] at z;obtain ⟨TB,fB,sB,b1,b2,b3⟩:=exTH zr5o z;simp (disch:=first|omega|simp<;>omega|fail) [-zE,zmzd,zbwj,q0,b5,a2,gk,N];refine zbn1 (z3mo (V_W mix sB ?_));simp (disch:=first|omega|simp<;>omega|fail) [-zE,q1,d0,b1,b2];refine yVW9 ?_;simp (disch:=first|omega|simp<;>omega|fail) [-zE];exact ⟨k+1,yWS (by simp [-zE,zqzg,zbwj]),by omega,by omega⟩
 have N:¬ (k:Int)<c.g.l.length:=by omega
 obtain rfl:k=c.g.l.length:=by omega
 obtain ⟨d,U⟩ : ∃ d,rndR tr.l x.e.l t c c.g.l.length w=d:=⟨_,rfl⟩;rw [U] at r ⊢;obtain ⟨f,O⟩ : ∃ f,frK F tr.l x.e.l t c w c.g.l.length=f:=⟨_,rfl⟩;rw [O] at m y u r ⊢;obtain ⟨q0,q1,q2⟩:=T f d u;have c2:objV (f.H d) 3 5=some (f.rd d.c (oV f.k 34 d.o)):=by
  have:=RF.obj0 (F:=f) (c:=d.c) (q:=oV f.k 34 d.o) (o:=d.o);rw [m,D] at this;exact this
 have d6:=zwmo;have d8:3<f.k:=by unfold RF.k; rw [m,D]; omega
 simp (disch:=first|omega|simp<;>omega|fail) [-zE,zmzd,zbwj,q0,b5,a2,gk,N];refine yVS9 ?_;simp (disch:=first|omega|simp<;>omega|fail) [-zE,c2,RF.one3,RF.oneq,q2,d6,zy11];have hO:objV ([]++(f.H d).set 2 (.cells (clC d.c))) 2 (clC d.c).length=some (clC d.c):=by
  rw [List.nil_append];unfold RF.H RF.G;rw [u,Y]; rfl
 have e1:mk1 (kLt 0) ((f.H d).set 2 (.cells (clC d.c))) (.mp 2 3 0) = .ref (clC d.c):=zh5h (H:=[]) (R:=(f.H d).set 2 (.cells (clC d.c))) (cs:=clC d.c) (cs':=clC d.c) (id:=2) (off:=0) hO (y0c _) (zl6f (zy11 d.c));have e2:mk1 (kLt 0) ((f.H d).set 2 (.cells (clC d.c))) (oV f.k 34 d.o)=cmV d.o:=zgmw (by omega)
 refine z0em (n0:=0) (H:=[]) (R:=(f.H d).set 2 (.cells (clC d.c))) (t':=js 10++[.ref (clC d.c),cmV d.o]++js 44) rfl (y0c _) ?_ (by simp (disch:=first|omega|simp<;>omega|fail) [-zE,belowL,Am.below,z8b8 _ _ (zx70 d.o),zmq5 _ _ (zy11 d.c)]) ?_
 ·simp (disch:=first|omega|simp<;>omega|fail) [-zE,e1,e2,-z1bt,-zdpe]
 have b4:oneC 3 true (clC d.c)=some (.agg (clC d.c)):=rfl;refine yVW9 ?_;simp (disch:=first|omega|simp<;>omega|fail) [-zE,a26,rdV,b4,z6nl (zx70 d.o)]
end
section
def cmSl (l:List Cmd) (h:l.length≤100000):Sl Cmd:=⟨if l=[] then none else some false,l,fun e=>by
 by_cases q:l=[]
 ·exact q
 ·simp [q] at e,by omega⟩
theorem zb37 {l:List Cmd} (h:l.length≤100000):(cmSl l h).dv 34 cmC=cmV l:=by
 unfold cmSl cmV Sl.dv;by_cases q:l=[]
 ·simp only [q,if_true]; rfl
 ·simp only [q,if_false]; rfl
theorem z5ip {l:List Cmd} (h:l.length≤100000) (H:List AObj):lenD H (cmV l)=some (.int .i64 l.length):=by
 have:=zupj (x:=cmSl l h) (h:=H) (s:=34) (f:=cmC);rw [zb37] at this; exact this
theorem zg1b {l:List Cmd} (h:l.length≤100000) (H:List AObj) {j:Nat} (hj:j<l.length):zpsc H 34 (cmV l) j=some (.ref (cmC l[j])):=by
 have:=zalo (x:=cmSl l h) (h:=H) zfq1 hj;rw [zb37] at this; exact this
theorem zlco (x:Cmd):oneC 34 true (cmC x)=some (.agg (cmC x)):=by simp [oneC,zfq1,y00]
theorem zaz6 {x y:Cmd}:z32s (zi5g [(34,0)]) (cmC x) (cmC y)=some (decide (x=y)):=by
 have e:zi5g [(34,0)]=[0,0]++zi5g [(32,0)]:=by decide
 have d : ∀ x:Cmd,cmC x=[.int .i64 x.kind,.int .i64 x.id]++dgC x.art:=fun _=>rfl
 rw [e,d,d,zid2 rfl rfl,zyiz,z540];obtain ⟨a,b,c⟩:=x;obtain ⟨f,g,h⟩:=y;simp only [y0q,y0s,Cmd.mk.injEq,Option.some.injEq,Bool.decide_and,Bool.and_assoc]
def zjf1 (o:List Cmd) (i:Nat):St:=zuuu (cmV o) (cmV o) (.int .i64 i) []
theorem zkkj (o:List Cmd) (h:o.length≤100000):Runs tbl0 a28 [cmV o,cmV o] (.bool true):=by
 refine ⟨?_⟩;have d:=fun H=>z5ip h H
 simp (disch:=first|omega|simp<;>omega|fail) [-zE,a28,d];refine zlm5 (zjf1 o) (fun i=>o.length-i) (fun i=>i≤o.length) 0 (yWS (by simp [-zE,zjf1,zuuu])) (y0c _) (fun i hi => ?_)
 simp only [zjf1];by_cases g:i<o.length
 ·have c:(i:Int)<o.length:=by omega
  have b:=fun H=>zg1b h H g
  obtain ⟨C,e⟩ : ∃ C,o[i]=C:=⟨_,rfl⟩;rw [e] at b;have a:=zaz6 (x:=C) (y:=C);rw [decide_eq_true rfl] at a;simp (disch:=first|omega|simp<;>omega|fail) [-zE,zkwz,zuuu,d,g,c,b,zlco,a];exact ⟨i+1,yWS (by simp [-zE,zjf1,zuuu]),by omega,by omega⟩
 ·have c:¬ (i:Int)<o.length:=by omega
  simp (disch:=first|omega|simp<;>omega|fail) [-zE,zkwz,zuuu,d,g,c]
noncomputable def cScm:List DV→Option DV:=con (fun o:List Cmd=>o.length≤100000) (fun o=>[cmV o,cmV o]) (fun _ => .bool true)
theorem z7vv {o:List Cmd} (h:o.length≤100000):cScm [cmV o,cmV o]=some (.bool true):=zzno (A:=fun o:List Cmd=>o.length≤100000) (f:=fun o=>[cmV o,cmV o]) (g:=fun _=>DV.bool true) (fun _ _ _=>rfl) o h
noncomputable def z2no:List DV→Option DV:=con RdR (fun a=>[.agg (clC a.c),.agg (xiC a.x),a.tr.dv 35 trC,a.gr.dv,.int .i64 a.t]) (fun a=>rdV (z2t6 a.tr.l a.x.e.l a.gr.l a.t a.c))
theorem ziiv {a:RdA} (h:RdR a):z2no [.agg (clC a.c),.agg (xiC a.x),a.tr.dv 35 trC,a.gr.dv,.int .i64 a.t]=some (rdV (z2t6 a.tr.l a.x.e.l a.gr.l a.t a.c)) :=
 zzno (A:=RdR) (f:=fun a=>[.agg (clC a.c),.agg (xiC a.x),a.tr.dv 35 trC,a.gr.dv,.int .i64 a.t]) (g:=fun a=>rdV (z2t6 a.tr.l a.x.e.l a.gr.l a.t a.c)) (by
  rintro ⟨a1,a2,a3,a4,a5⟩ ⟨b1,b2,b3,b4,b5⟩ e;simp only [List.cons.injEq,DV.agg.injEq,DV.int.injEq,and_true,true_and] at e;rw [zh7t e.1,zt7p e.2.1,z47i e.2.2.1,z2kw e.2.2.2.1,e.2.2.2.2]) a h
theorem z4vf {u:Tp} {a:RdA} (hf:ScnF (scnV u).1 a):SrtX a.x.e.l:=by
 obtain ⟨_,d⟩:=z7ak u 8;obtain ⟨w,b⟩ : ∃ w,(scnV u).1.x=idxL w (zcpt u 8).1 (3*(zcpt u 8).1.g.l.length):=⟨_,rfl⟩;have c:((scnV u).1.x).length≤100000:=by rw [b,zjjk]; omega
 have e:=hf.x;rw [← zz41 c] at e;have:=zrpw e;rw [this];show SrtX (scnV u).1.x;rw [b]; exact z41v _
theorem zqu7 {u:Tp} (hu:u.at_=0):(scnV u).2.at_<4294967296:=by
 have a:=z2ep u 8 (by decide) (by decide)
 have b:=zukg u 8 (by decide) (by decide)
 obtain ⟨_,h⟩:=z7ak u 8;have d:=zso0 (t:=(zcpt u 8).2.adv (3*(zcpt u 8).1.g.l.length)) (c:=(zcpt u 8).1) (3*(zcpt u 8).1.g.l.length);have f:((zcpt u 8).2.adv (3*(zcpt u 8).1.g.l.length)).at_=(zcpt u 8).2.at_+3*(zcpt u 8).1.g.l.length:=rfl;have e:(scnV u).2.at_=(triS ((zcpt u 8).2.adv (3*(zcpt u 8).1.g.l.length)) (zcpt u 8).1 (3*(zcpt u 8).1.g.l.length)).1.at_+(zcpt u 8).1.i.l.length+1:=rfl;rw [e];omega
noncomputable def zwbe:Tbl:=addT 12 (.new cScn) (addT 13 (.tch z1m3) (addT 25 (.pure cRnd) (addT 26 (.pure z2no) (addT 27 (.pure cCC) (addT 28 (.pure cScm) (addT 21 (.pure cTru) tbl0))))))
theorem z4vy:zwbe 12 = .new cScn:=by simp [zwbe]
theorem zao2:zwbe 13 = .tch z1m3:=by simp [zwbe]
theorem zmiq:zwbe 25 = .pure cRnd:=by simp [zwbe]
theorem z8ux:zwbe 26 = .pure z2no:=by simp [zwbe]
theorem zf55:zwbe 27 = .pure cCC:=by simp [zwbe]
theorem zqxf:zwbe 28 = .pure cScm:=by simp [zwbe]
theorem z7bf:zwbe 21 = .pure cTru:=by simp [zwbe]
theorem zk45:zwbe.Sound P:=z0rp zr8u (z0rp z51e (z0rp zclv (z0rp (z2au fun a h=>zxa3 a h) (z0rp zgg0 (z0rp (z2au fun o h=>zljw mix zr5o Tryz.func28 z43f (zkkj o h)) (z0rp (zi1x zul1) zr5o))))))
theorem zpa1 {s:Scn} {a:RdA} (hf:ScnF s a) (hsr:SrtX a.x.e.l) (gr:Nl) (hg : ∀ n ∈ gr.l,ok64 n) : ∃ (R R':Rnd) (o:List Cmd),cRnd [.agg (clC s.c),.agg [.int .i64 0,isV s.x],trV s.tr,gr.dv,.int .i64 s.t]=some (.tup [.agg (clC R.c),cmV o])∧z2no [.agg (clC s.c),.agg [.int .i64 0,isV s.x],trV s.tr,gr.dv,.int .i64 s.t]=some (.tup [.agg (clC R'.c),cmV o])∧ziu6 R.c R'.c=true∧o.length≤100000:=by
 have j:OvOK (a.c,gr,a.t):=⟨hf.ok.ov.d,hg,hf.ok.ov.t⟩;have b:=zunp (a:=⟨a.c,a.x,a.tr,gr,a.t⟩) (zrko hf.v hf.n hf.w hf.i hf.ok.ch j);have f:=ziiv (a:=⟨a.c,a.x,a.tr,gr,a.t⟩) ⟨hf.v,hf.n,hf.w,hf.i,hf.nx,hf.tm,hsr,⟨j,fun x hx=>⟨((zyak hf.v).s x hx).1,((zyak hf.v).s x hx).2.1⟩⟩⟩
 obtain ⟨l,n,o,h⟩:=z14r (tr:=a.tr.l) (ix:=a.x.e.l) (gr:=gr.l) hf.v hf.n hf.w hf.i hf.nx hf.tm (k:=a.c.g.l.length) (y03 _);have m:=ztza hf.v hf.n hf.w hf.i (tr:=a.tr.l) (ix:=a.x.e.l) (t:=a.t) (gr:=gr.l) (k:=a.c.g.l.length) (y03 _);have A:=hf.n;have q:=m.o;rw [h.p.o] at q;have u:xiC a.x=[.int .i64 0,isV s.x]:=by unfold xiC; rw [hf.x0,hf.x]
 simp only at b f;have y:rndP a.tr.l a.x.e.l gr.l a.t a.c=rndS a.tr.l a.x.e.l a.t a.c a.c.g.l.length (rnd0 gr.l a.t a.c):=rfl;have z:z2t6 a.tr.l a.x.e.l gr.l a.t a.c=rndR a.tr.l a.x.e.l a.t a.c a.c.g.l.length (z1oo gr.l a.t a.c):=rfl;rw [y] at b;rw [z] at f;unfold rdV at b f;rw [h.p.o] at b;rw [h.r.o] at f;rw [u,hf.tr,hf.c,hf.t] at b f;rw [hf.c,hf.t] at h;refine ⟨_,_,o,b,f,zogs ⟨by rw [h.p.g,h.r.g],by rw [h.p.i,h.r.i],by rw [h.p.n,h.r.n]⟩,by omega⟩
theorem zicn (x y:Nl) (hy : ∀ n ∈ y.l,ok64 n):Runs zwbe a5 [x.dv,y.dv] (.bool true):=by
 refine ⟨?_⟩;obtain ⟨u,W⟩ : ∃ u,tp0 x 300=u:=⟨_,rfl⟩;have F:u.at_=0:=by rw [← W]; rfl
 have m:=fun n=>zd92 (x:=x) (n:=n)
 rw [W] at m;obtain ⟨a,p⟩:=ztew u F;have E:=z4vf p;have O:=zqu7 F;obtain ⟨s,hs⟩ : ∃ s,(scnV u).1=s:=⟨_,rfl⟩;rw [hs] at p m;obtain ⟨w,hw⟩ : ∃ w,(scnV u).2=w:=⟨_,rfl⟩;rw [hw] at m O;have J:=z44h (t:=w) (n:=4) (by omega) (by decide) (by decide)
 have X:=zkx7 x;have T:=zkx7 y;have Q:scnC s=o8 s.c (.int .i64 0) (isV s.x) (trV s.tr) (liV s.gr) (.int .i64 s.t):=rfl;rw [Q] at m;have s8:=fun H=>zws3 (c:=s.c) (a := .int .i64 0) (b:=isV s.x) (d:=trV s.tr) (e:=liV s.gr) (f := .int .i64 s.t) (H:=H) (id:=3) rfl (zcwq _) (zq54 _) (zj6i _) rfl
 have s6:=fun H=>zdmn (c:=s.c) (a := .int .i64 0) (b:=isV s.x) (d:=trV s.tr) (e:=liV s.gr) (f := .int .i64 s.t) (H:=H) (id:=3) (x:=y.dv) z9db zck2
 have Y:=fun e=>show oneC 2 true ((o8 s.c (.int .i64 0) (isV s.x) (trV s.tr) e (.int .i64 s.t)).drop 3)=some (.agg [.int .i64 0,isV s.x]) from rfl
 have Z:=fun e=>show oneC 1 false ((o8 s.c (.int .i64 0) (isV s.x) (trV s.tr) e (.int .i64 s.t)).drop 5)=some (trV s.tr) from rfl
 have l6:oneC 1 false ((o8 s.c (.int .i64 0) (isV s.x) (trV s.tr) (liV s.gr) (.int .i64 s.t)).drop 6)=some (liV s.gr):=rfl;have V:oneC 1 false ((o8 s.c (.int .i64 0) (isV s.x) (trV s.tr) y.dv (.int .i64 s.t)).drop 6)=some y.dv:=by
  show oneC 1 false [y.dv,.int .i64 s.t]=_
  rfl
 have l7:=fun e=>show oneC 1 false ((o8 s.c (.int .i64 0) (isV s.x) (trV s.tr) e (.int .i64 s.t)).drop 7)=some (.int .i64 s.t) from rfl
 have v : ∀ c a b d e f,(o8 c a b d e f).length=8:=fun c a b d e f=>rfl
 have A:=fun c=>zy11 c
 have D:=zm03 s.x;have B:=znen s.tr;have S:=z4yh s.gr;have i:=zwmo;have q : ∀ C,oneC 3 true (clC C)=some (.agg (clC C)):=fun C=>rfl
 have r : ∀ C,(clC C).length=3:=fun C=>rfl
 by_cases hz:tpN w 4=0
 ·obtain ⟨R,K,o,G,I,L,N⟩:=zpa1 p E y hy;have h:=zkj3 (a:=R.c) (b:=K.c);rw [L] at h;have k:=z7vv N;have j:=zx70 o;rw [hz] at J;simp (disch:=first|omega|simp<;>omega|fail) [-zE,a5,z4vy,m,X,s8,o8_3,Y,Z,V,l7,v,zao2,J,s6,zmiq,G,z8ux,I,A,D,B,T,i,q,r,zf55,h,zqxf,k,j,z7bf,cTru]
 ·obtain ⟨R,K,o,G,I,L,N⟩:=zpa1 p E a.gr p.ok.ov.g;rw [p.gr] at G I;have h:=zkj3 (a:=R.c) (b:=K.c);rw [L] at h;have k:=z7vv N;have j:=zx70 o;obtain ⟨z,U⟩ : ∃ z,tpN w 4=z:=⟨_,rfl⟩;rw [U] at J hz;simp (disch:=first|omega|simp<;>omega|fail) [-zE,a5,z4vy,m,X,s8,o8_3,Y,Z,l6,l7,v,zao2,J,hz,zmiq,G,z8ux,I,A,D,B,S,i,q,r,zf55,h,zqxf,k,j,z7bf,cTru]
namespace evictorRound
theorem law_holds (dvs) (h:Ty.Args [.sl (.int .i64),.sl (.int .i64)] dvs):Am.Sem P 5 dvs (.bool true):=by
 obtain ⟨d1,g,rfl,b,f,i,rfl,c,rfl⟩:=h;obtain ⟨x,_,d⟩:=zjzy b;obtain ⟨y,a,e⟩:=zjzy c;cases d; cases e;exact zljw mix zk45 Tryz.func5 zonh (zicn x y (fun n hn=>⟨by have:=(a n hn).1; omega,by have:=(a n hn).2; omega⟩))
end evictorRound
end
end Go.Proofs.YtaihpefemjlilaaGreatDoor

