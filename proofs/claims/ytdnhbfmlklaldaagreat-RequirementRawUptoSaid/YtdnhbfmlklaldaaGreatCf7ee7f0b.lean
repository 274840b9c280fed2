/-
  9 texts of mine in one.
-/
import Derived.Test.YtdnhbfmlklaldaaGreatCb1b7f320
import Derived.Test.YtdnhbfmlklaldaaGreatC1d38dafb
import Derived.Test.YtdnhbfmlklaldaaGreatC86a19a23
import Derived.Test.YtdnhbfmlklaldaaGreatC7dcf1055
import Derived.Test.YtdnhbfmlklaldaaGreatC6a9b145a
import Derived.Test.YtdnhbfmlklaldaaGreatCc0b81b2c
import Derived.Test.YtdnhbfmlklaldaaGreatC3ec7874e
import Derived.Test.YtdnhbfmlklaldaaGreatC6e4544c8
set_option maxRecDepth 20000
set_option maxHeartbeats 4000000
open List renaming map_take → zA, map_drop → zB, map_set → zC, map_append → zD, drop_one → zE
set_option linter.unusedSimpArgs false
set_option linter.unusedVariables false
namespace Go.Proofs.YtdnhbfmlklaldaaGreat
open Go Go.Am
noncomputable def T796:Tbl:=addT 31 (.pure cOr) (addT 32 (.pure cLsO) tbl0)
theorem zc5t:T796 31 = .pure cOr:=by simp [T796]
theorem zjts:T796 32 = .pure cLsO:=by simp [T796]
theorem z79n:T796.Sound P:=z0rp z0js (z0rp zarw zr5o)
def ogL (l:List Fct):List Org:=z534 orLt (relS l)
theorem zmkh {l:List Fct} {i:Nat} (h:i<l.length):ogL (l.take (i+1))=if l[i].kind=1 then addU orLt (ogL (l.take i)) (z5z5 l[i]) else ogL (l.take i):=by
 unfold ogL
 rw [zt8j h]
 split
 ·unfold z534; rw [List.foldl_append]; rfl
 ·rw [List.append_nil]
theorem zm12 (l:List Fct):(ogL l).length≤l.length:=by
 have:=zsv6 (lt:=orLt) (relS l); have:=zho3 l; unfold ogL; omega
theorem zpb2 {α:Type} [DecidableEq α] {lt:α→α→Bool} (o:Tot lt) {L:List α} {d:α} {k:Nat} (ha:Asc lt L) (hn:d ∉ L) (hk:k≤L.length)
  (h1 : ∀ j (hj:j<L.length),k≤j→lt d L[j]=true) (h2:k=0 ∨ ∃ j,∃ hj:j<L.length,k=j+1∧lt d L[j]=false):addU lt L d=L.take k++d::L.drop k:=by
 have hlt : ∀ j (hj:j<L.length),j<k→lt L[j] d=true:=fun j hj hjk=>by
  rcases h2 with rfl|⟨m,hm,rfl,hf⟩
  ·omega
  ·have hmd:lt L[m] d=true:=by
    rcases o.tot L[m] d with e|e|e
    ·exact e
    ·exact absurd (e▸List.getElem_mem hm) hn
    ·rw [hf] at e; cases e
   by_cases e:j=m
   ·subst e; exact hmd
   ·exact o.tr _ _ _ (List.pairwise_iff_getElem.1 ha j m hj hm (by omega)) hmd
 have hge:k=L.length ∨ ∃ h:k<L.length,lt L[k] d=false:=by
  by_cases e:k=L.length
  ·exact .inl e
  ·have hk':k<L.length:=by omega
   refine .inr ⟨hk',?_⟩
   cases q:lt L[k] d with
   | false=>rfl
   | true=>have:=o.tr _ _ _ q (h1 k hk' (Nat.le_refl _)); rw [o.irr] at this; cases this
 obtain ⟨e1,e2⟩:=zig9 (p:=fun y=>lt y d) hk hlt hge
 unfold addU
 rw [if_neg hn,e1,e2]
def S796 (c:Cas) (i:Nat):St:=z3g7 (.mp 0 36 0) ((ownN (ogL (c.f.l.take i))).dv 34 orC) (.int .i64 i) [.cells (caC c)]
def S797 (c:Cas) (L:List Org) (i:Nat) (O:Org) (j:Nat):St:=zqpn (.mp 0 36 0) ((ownN L).dv 34 orC) (.int .i64 i) (.mp 1 34 0) (.int .i64 L.length) (.bool (decide (O ∈ L.take j))) (.int .i64 j) [.cells (caC c),.cells (orC O)]
def S798 (c:Cas) (L:List Org) (i:Nat) (O:Org) (k:Nat):St:=zse9 (.mp 0 36 0) ((ownN L).dv 34 orC) (.int .i64 i) (.mp 1 34 0) (.int .i64 k) (.bool (decide (O ∈ L))) [.cells (caC c),.cells (orC O)]
theorem zqwf {x:Org}:bslD 34 1 [w8 0#8,w8 0#8,w8 0#8,w8 0#8,w8 0#8,w8 0#8,w8 0#8,w8 0#8,w8 0#8,w8 0#8,w8 0#8,w8 0#8,w8 0#8,w8 0#8,w8 0#8,w8 0#8,w8 0#8,w8 0#8,w8 0#8,w8 0#8,w8 0#8,w8 0#8,w8 0#8,w8 0#8,w8 0#8,w8 0#8,w8 0#8,w8 0#8,w8 0#8,w8 0#8,w8 0#8,w8 0#8,.str [],.str []] [(0,34,.agg (orC x))]=some (.sl true 34 1 (orC x)):=by
 have h1:=zu78 x
 simp [bslD,zi03,zk7y,reps,h1,List.drop_of_length_le]
def OgT:ACode:=match zywk with
 | .seq _ (.seq (.block _ (.seq _ (.seq _ (.seq _ (.seq _ y))))) _)=>y
 | _ => .skip
def OgR:ACode:=match zywk with
 | .seq _ (.seq _ y)=>y
 | _ => .skip
theorem zw3n {c:Cas} {L:List Org} {i k:Nat} {O:Org} (hb:L.length≤1000) (hi:i<c.f.l.length) (hi2:c.f.l.length≤1000) (hk:k≤L.length)
  (next:O ∉ L→ogL (c.f.l.take (i+1))=L.take k++O::L.drop k) (same:O ∈ L→ogL (c.f.l.take (i+1))=L) {Φ0:AExit→St→Prop} :
  V P 0 OgT (z0mx 1 (z2pk P 0 OgR (z13e 0 (S796 c) (fun i=>c.f.l.length-i) (fun i=>i≤c.f.l.length) i Φ0))) (S798 c L i O k):=by
 have hol:(ownN L).l=L:=zd8n (by omega)
 have hop:zyp8 ((ownN L).dv 34 orC)=true:=zxxb ztvh _
 simp only [OgT,zywk,S798,zse9]
 refine zbn1 (V_W mix z79n ?_)
 by_cases hm:O ∈ L
 ·have hs:=same hm
  simp (disch:=first|omega|simp<;>omega|fail) [-zA,-zB,-zC,-zD,-zE,hm]
  refine V_W mix z79n ?_
  simp (disch:=first|omega|simp<;>omega|fail) [-zA,-zB,-zC,-zD,-zE]
  refine zqfd (st':=⟨[.junk,.mp 0 36 0,.junk,(ownN L).dv 34 orC,.int .i64 i]++js 73,[.cells (caC c)]⟩) (zju2 (tail:=[.cells (orC O)]) (by simp (disch:=first|omega|simp<;>omega|fail) [-zA,-zB,-zC,-zD,-zE]) (by simp (disch:=first|omega|simp<;>omega|fail) [-zA,-zB,-zC,-zD,-zE]) (by simp) (by simp (disch:=first|omega|simp<;>omega|fail) [-zA,-zB,-zC,-zD,-zE,z1r6,Am.below,z8b8 _ _ hop]) (by simp (disch:=first|omega|simp<;>omega|fail) [-zA,-zB,-zC,-zD,-zE,zlf2,zmq5 _ _ (zkih c)])) ?_
  simp only [OgR,zywk]
  refine V_W mix z79n ?_
  simp (disch:=first|omega|simp<;>omega|fail) [-zA,-zB,-zC,-zD,-zE]
  exact ⟨i+1,z515 (by simp (disch:=first|omega|simp<;>omega|fail) [-zA,-zB,-zC,-zD,-zE,S796,z3g7,hs]) (by simp (disch:=first|omega|simp<;>omega|fail) [-zA,-zB,-zC,-zD,-zE,S796,z3g7]),by omega,by omega⟩
 have hs:=next hm
 have hv1 : ∀ H,ziwb H 34 ((ownN L).dv 34 orC) none (some (.int .i64 k)) none=some (((ownN L).part 0 k (k == (ownN L).l.length)).dv 34 orC):=fun H=>z0ke zu78 (by simp [zo77,iD,hol]; omega) (by rw [hol]; exact hk)
 have hv2 : ∀ H,ziwb H 34 ((ownN L).dv 34 orC) (some (.int .i64 k)) none none=some (((ownN L).part k (ownN L).l.length ((ownN L).l.length == (ownN L).l.length)).dv 34 orC):=fun H=>z0ke zu78 (by simp [zo77,iD,hol]; omega) (Nat.le_refl _)
 obtain ⟨Y,hY⟩ : ∃ Y,(ownN L).part 0 k (k == (ownN L).l.length)=Y:=⟨_,rfl⟩
 obtain ⟨Z,hZ⟩ : ∃ Z,(ownN L).part k (ownN L).l.length ((ownN L).l.length == (ownN L).l.length)=Z:=⟨_,rfl⟩
 have hYl:Y.l=L.take k:=by rw [← hY,show ((ownN L).part 0 k (k == (ownN L).l.length)).l=(ownN L).l.take k from by simp [Sl.part],hol]
 have hZl:Z.l=L.drop k:=by rw [← hZ]; show ((ownN L).l.drop k).take ((ownN L).l.length-k)=_; rw [hol]; exact List.take_of_length_le (by simp)
 rw [hY] at hv1
 rw [hZ] at hv2
 obtain ⟨A,hA⟩ : ∃ A,L.take k=A:=⟨_,rfl⟩
 obtain ⟨D,hD⟩ : ∃ D,L.drop k=D:=⟨_,rfl⟩
 have hAl:A.length=k:=by rw [← hA,List.length_take]; omega
 have hDl:D.length≤1000:=by rw [← hD,List.length_drop]; omega
 have w1 : ∀ H,visY H (Y.dv 34 orC)=some (A.length,A.flatMap orC):=fun H=>by rw [zwaa zu78,hYl,hA]
 have w2 : ∀ H,visY H (Z.dv 34 orC)=some (D.length,D.flatMap orC):=fun H=>by rw [zwaa zu78,hZl,hD]
 have w3 : ∀ H,visY H (.sl true 34 1 (orC O))=some (1,orC O):=fun H=>by simp [visY,zu78]
 rw [hA,hD] at hs
 have hN:A++O::D≠[]:=by simp
 have hNl:(A++O::D).length=A.length+1+D.length:=by simp; omega
 have hres:(ownN (A++O::D)).dv 34 orC = .sl false 34 (A.length+1+D.length) ((A++O::D).flatMap orC):=by rw [zgr3 hN (by omega),hNl]
 have hpu:=zp6k ztvh (A++O::D)
 have hfl:(fl orC (A++O::D)).length=(A.length+1+D.length)*34:=by rw [z8lx zu78,hNl]
 have htk:(fl orC (A++O::D)).take ((A.length+1+D.length)*34)=(A++O::D).flatMap orC:=List.take_of_length_le (by omega)
 by_cases e:A=[]
 ·have hap0:=zw6v (h:=[AObj.cells (caC c),.cells (orC O)]) (s:=34) (b:=64) (by decide) (by decide)
  have hap:=zsuq (h:=[AObj.cells (caC c),.cells (orC O)]) (s:=34) (b:=64) (m:=1) (cs:=orC O) (by decide) (by decide) (by rw [zu78]) (by decide) (by decide)
  simp only [zu78,List.length_cons,List.length_nil,Nat.zero_add] at hap
  have hap2:=zvrp (h:=[AObj.cells (caC c),.cells (orC O),.cells (fl orC [O])]) (id:=2) (b:=64) (l:=[O]) (m:=D.length) (cs:=D) zu78 (by decide) (by decide) (fun _=>zkp2) rfl (by simp; omega) (by simp [objV,ziu0,z8lx zu78])
  rw [z4hs] at hap2
  simp only [List.length_cons,List.length_nil,Nat.zero_add,Nat.one_mul] at hap2
  rw [show [O]++D=O::D from rfl] at hap2
  rw [e] at w1
  simp only [List.length_nil,List.flatMap_nil] at w1
  subst e
  simp only [List.nil_append,List.length_nil,Nat.zero_add] at hs hres hpu hfl htk
  generalize hG:(O::D).flatMap orC=G at htk hres hpu
  generalize hFF:fl orC (O::D)=FF at htk hfl hap2
  simp (disch:=first|omega|simp<;>omega|fail) [-zA,-zB,-zC,-zD,-zE,hm]
  refine V_W mix z79n ?_
  simp (disch:=first|omega|simp<;>omega|fail) [-zA,-zB,-zC,-zD,-zE,hv1,hv2,w1,w2,w3,hap0,hap,hap2,zqwf,zch3]
  refine V_mk (fun id=>decide (id=0)) ?_
  simp (disch:=first|omega|simp<;>omega|fail) [-zA,-zB,-zC,-zD,-zE,hfl,htk,hpu,hop]
  refine zqfd (st':=⟨[.junk,.mp 0 36 0,.junk,.sl false 34 (1+D.length) G,.int .i64 i]++js 73,[.cells (caC c)]⟩) (zju2 (tail:=[.dead,.dead]) (by simp (disch:=first|omega|simp<;>omega|fail) [-zA,-zB,-zC,-zD,-zE]) (by simp (disch:=first|omega|simp<;>omega|fail) [-zA,-zB,-zC,-zD,-zE]) (by simp) (by simp (disch:=first|omega|simp<;>omega|fail) [-zA,-zB,-zC,-zD,-zE,z1r6,Am.below,zmq5 _ _ hpu]) (by simp (disch:=first|omega|simp<;>omega|fail) [-zA,-zB,-zC,-zD,-zE,zlf2,zmq5 _ _ (zkih c)])) ?_
  simp only [OgR,zywk]
  refine V_W mix z79n ?_
  simp (disch:=first|omega|simp<;>omega|fail) [-zA,-zB,-zC,-zD,-zE]
  exact ⟨i+1,z515 (by simp (disch:=first|omega|simp<;>omega|fail) [-zA,-zB,-zC,-zD,-zE,S796,z3g7,hs,hres]) (by simp (disch:=first|omega|simp<;>omega|fail) [-zA,-zB,-zC,-zD,-zE,S796,z3g7]),by omega,by omega⟩
 ·have hap0:=zsuq (h:=[AObj.cells (caC c),.cells (orC O)]) (s:=34) (b:=64) (m:=A.length) (cs:=A.flatMap orC) (by decide) (by decide) (z1rq zu78 _).symm (List.length_pos_iff.2 e) (by omega)
  rw [z1rq zu78] at hap0
  simp only [List.length_cons,List.length_nil,Nat.zero_add] at hap0
  have hap:=zkg3 (h:=[AObj.cells (caC c),.cells (orC O),.cells (fl orC A)]) (id:=2) (b:=64) (l:=A) (x:=O) zu78 (by decide) (by decide) (fun _=>zkp2) (by omega) (by simp [objV,ziu0,z8lx zu78])
  have hap2:=zvrp (h:=[AObj.cells (caC c),.cells (orC O),.cells (fl orC (A++[O]))]) (id:=2) (b:=64) (l:=A++[O]) (m:=D.length) (cs:=D) zu78 (by decide) (by decide) (fun _=>zkp2) rfl (by simp; omega) (by simp [objV,ziu0,z8lx zu78])
  have hl0:(A++[O]).length=A.length+1:=by simp
  have he:A++[O]++D=A++O::D:=by simp
  rw [hl0,he] at hap2
  have e5:fl orC A=A.flatMap orC:=rfl
  rw [e5] at hap
  generalize hG:(A++O::D).flatMap orC=G at htk hres hpu
  generalize hFF:fl orC (A++O::D)=FF at htk hfl hap2
  simp (disch:=first|omega|simp<;>omega|fail) [-zA,-zB,-zC,-zD,-zE,hm]
  refine V_W mix z79n ?_
  simp (disch:=first|omega|simp<;>omega|fail) [-zA,-zB,-zC,-zD,-zE,hv1,hv2,w1,w2,w3,hap0,hap,hap2,zqwf,zch3]
  refine V_mk (fun id=>decide (id=0)) ?_
  simp (disch:=first|omega|simp<;>omega|fail) [-zA,-zB,-zC,-zD,-zE,hfl,htk,hpu,hop]
  refine zqfd (st':=⟨[.junk,.mp 0 36 0,.junk,.sl false 34 (A.length+1+D.length) G,.int .i64 i]++js 73,[.cells (caC c)]⟩) (zju2 (tail:=[.dead,.dead]) (by simp (disch:=first|omega|simp<;>omega|fail) [-zA,-zB,-zC,-zD,-zE]) (by simp (disch:=first|omega|simp<;>omega|fail) [-zA,-zB,-zC,-zD,-zE]) (by simp) (by simp (disch:=first|omega|simp<;>omega|fail) [-zA,-zB,-zC,-zD,-zE,z1r6,Am.below,zmq5 _ _ hpu]) (by simp (disch:=first|omega|simp<;>omega|fail) [-zA,-zB,-zC,-zD,-zE,zlf2,zmq5 _ _ (zkih c)])) ?_
  simp only [OgR,zywk]
  refine V_W mix z79n ?_
  simp (disch:=first|omega|simp<;>omega|fail) [-zA,-zB,-zC,-zD,-zE]
  exact ⟨i+1,z515 (by simp (disch:=first|omega|simp<;>omega|fail) [-zA,-zB,-zC,-zD,-zE,S796,z3g7,hs,hres]) (by simp (disch:=first|omega|simp<;>omega|fail) [-zA,-zB,-zC,-zD,-zE,S796,z3g7]),by omega,by omega⟩
theorem zfhw (c:Cas) (hn:c.f.l.length≤1000):V P 0 a15.code (retK a15.res ((zz6h c.f.l).dv 34 orC)) ⟨zr5g a15.ntmps [.agg (caC c)],[]⟩:=by
 refine zbn1 (V_W mix z79n ?_)
 simp (disch:=first|omega|simp<;>omega|fail) [-zA,-zB,-zC,-zD,-zE,a15]
 refine zbn1 (V_W mix z79n ?_)
 simp (disch:=first|omega|simp<;>omega|fail) [-zA,-zB,-zC,-zD,-zE]
 refine zbn1 (zbn1 (V_W mix z79n ?_))
 simp (disch:=first|omega|simp<;>omega|fail) [-zA,-zB,-zC,-zD,-zE]
 refine z3mo (ztbr (S796 c) (fun i=>c.f.l.length-i) (fun i=>i≤c.f.l.length) 0 (z515 (by simp (disch:=first|omega|simp<;>omega|fail) [-zA,-zB,-zC,-zD,-zE,S796,z3g7,ogL,relS,z534,z2i7]) (by simp (disch:=first|omega|simp<;>omega|fail) [-zA,-zB,-zC,-zD,-zE,S796,z3g7])) (by omega) (fun i hi => ?_))
 simp only [S796]
 refine zbn1 (V_W mix z79n ?_)
 by_cases h:i<c.f.l.length
 case neg =>
  have h':¬ (i:Int)<c.f.l.length:=by omega
  rw [List.take_of_length_le (show c.f.l.length≤i by omega)]
  have hl:=zm12 c.f.l
  by_cases e:relS c.f.l=[]
  ·have e0:ogL c.f.l=[]:=by unfold ogL; rw [e]; rfl
   have hr:(zz6h c.f.l).dv 34 orC = .sl true 34 1 (orC orZ):=by unfold zz6h; rw [if_pos e]; rfl
   rw [hr,zfm5,e0,z2i7]
   simp (disch:=first|omega|simp<;>omega|fail) [-zA,-zB,-zC,-zD,-zE,zywk,z3g7,h,h']
   refine zbn1 (V_W mix z79n ?_)
   simp (disch:=first|omega|simp<;>omega|fail) [-zA,-zB,-zC,-zD,-zE]
   refine V_W mix z79n ?_
   simp (disch:=first|omega|simp<;>omega|fail) [-zA,-zB,-zC,-zD,-zE]
  ·have e0:ogL c.f.l≠[]:=fun q=>by
    cases hq:relS c.f.l with
    | nil=>exact e hq
    | cons a r =>
     have:a ∈ ogL c.f.l:=by unfold ogL; rw [zoav zha4,hq]; simp
     rw [q] at this; simp at this
   have hr:(zz6h c.f.l).dv 34 orC=(ownN (ogL c.f.l)).dv 34 orC:=by unfold zz6h; rw [if_neg e,z527 e0]; rfl
   have hlD : ∀ H,lenD H ((ownN (ogL c.f.l)).dv 34 orC)=some (.int .i64 (ogL c.f.l).length):=fun H=>by rw [zupj,zd8n (by omega)]
   have hne:¬ (ogL c.f.l).length=0:=fun q=>e0 (List.eq_nil_of_length_eq_zero q)
   have hne':¬ ((ogL c.f.l).length:Int)=0:=by omega
   rw [hr]
   obtain ⟨X,hX⟩ : ∃ X,ownN (ogL c.f.l)=X:=⟨_,rfl⟩
   rw [hX] at hlD ⊢
   simp (disch:=first|omega|simp<;>omega|fail) [-zA,-zB,-zC,-zD,-zE,zywk,z3g7,h,h']
   refine zbn1 (V_W mix z79n ?_)
   simp (disch:=first|omega|simp<;>omega|fail) [-zA,-zB,-zC,-zD,-zE,hlD,hne,hne']
   refine V_W mix z79n ?_
   simp (disch:=first|omega|simp<;>omega|fail) [-zA,-zB,-zC,-zD,-zE]
 have h':(i:Int)<c.f.l.length:=by omega
 have hg : ∀ H,zpsc H 71 (c.f.dv 71 faC) i=some (.ref (faC c.f.l[i])):=fun H=>zalo zs77 h
 have hs:=zmkh h
 obtain ⟨F,hF⟩ : ∃ F,c.f.l[i]=F:=⟨_,rfl⟩
 rw [hF] at hg hs
 have hlen:(ogL (c.f.l.take i)).length≤1000:=by have:=zm12 (c.f.l.take i); rw [List.length_take] at this; omega
 have hasc:Asc orLt (ogL (c.f.l.take i)):=zy4b zha4 _
 obtain ⟨L,hL⟩ : ∃ L,ogL (c.f.l.take i)=L:=⟨_,rfl⟩
 rw [hL] at hs hlen hasc ⊢
 have hol:(ownN L).l=L:=zd8n (by omega)
 have hop:zyp8 ((ownN L).dv 34 orC)=true:=zxxb ztvh _
 have hlL : ∀ H,lenD H ((ownN L).dv 34 orC)=some (.int .i64 L.length):=fun H=>by rw [zupj,hol]
 have hix : ∀ (j:Nat) (hj:j<L.length) H,zpsc H 34 ((ownN L).dv 34 orC) j=some (.ref (orC L[j])):=fun j hj H=>by
  rw [zalo (x:=ownN L) (i:=j) zu78 (by rw [hol]; exact hj)]
  simp only [hol]
 by_cases hk:F.kind=1
 case neg =>
  rw [if_neg hk] at hs
  simp (disch:=first|omega|simp<;>omega|fail) [-zA,-zB,-zC,-zD,-zE,zywk,z3g7,h,h',hg]
  refine zbn1 (z3mo (zbn1 (V_W mix z79n ?_)))
  simp (disch:=first|omega|simp<;>omega|fail) [-zA,-zB,-zC,-zD,-zE,h,h',hg,hk]
  refine V_W mix z79n ?_
  simp (disch:=first|omega|simp<;>omega|fail) [-zA,-zB,-zC,-zD,-zE]
  exact ⟨i+1,z515 (by simp (disch:=first|omega|simp<;>omega|fail) [-zA,-zB,-zC,-zD,-zE,S796,z3g7,hs]) (by simp (disch:=first|omega|simp<;>omega|fail) [-zA,-zB,-zC,-zD,-zE,S796,z3g7]),by omega,by omega⟩
 rw [if_pos hk] at hs
 obtain ⟨O,hO⟩ : ∃ O,z5z5 F=O:=⟨_,rfl⟩
 have hc:=z68y (f:=F)
 rw [hO] at hs hc
 simp (disch:=first|omega|simp<;>omega|fail) [-zA,-zB,-zC,-zD,-zE,zywk,z3g7,h,h',hg]
 refine zbn1 (z3mo (zbn1 (V_W mix z79n ?_)))
 simp (disch:=first|omega|simp<;>omega|fail) [-zA,-zB,-zC,-zD,-zE,h,h',hg,hk]
 refine zbn1 (V_W mix z79n ?_)
 simp (disch:=first|omega|simp<;>omega|fail) [-zA,-zB,-zC,-zD,-zE,h,h',hg,zc5t,hc,hlL]
 refine zbn1 (zbn1 (V_W mix z79n ?_))
 simp (disch:=first|omega|simp<;>omega|fail) [-zA,-zB,-zC,-zD,-zE]
 refine V_W mix z79n ?_
 simp (disch:=first|omega|simp<;>omega|fail) [-zA,-zB,-zC,-zD,-zE]
 refine zlm5 (S797 c L i O) (fun j=>L.length-j) (fun j=>j≤L.length) 0 (z515 (by simp (disch:=first|omega|simp<;>omega|fail) [-zA,-zB,-zC,-zD,-zE,S797,zqpn]) (by simp (disch:=first|omega|simp<;>omega|fail) [-zA,-zB,-zC,-zD,-zE,S797,zqpn])) (by omega) (fun j hj => ?_)
 simp only [S797]
 by_cases g:j<L.length
 ·have g':(j:Int)<L.length:=by omega
  have hx:=hix j g
  have hm:O ∈ L.take (j+1)↔(O ∈ L.take j∨L[j]=O):=by
   rw [List.take_succ_eq_append_getElem g,List.mem_append,List.mem_singleton]
   exact or_congr_right ⟨Eq.symm,Eq.symm⟩
  obtain ⟨y,hy⟩ : ∃ y,L[j]=y:=⟨_,rfl⟩
  rw [hy] at hx hm
  by_cases e:O ∈ L.take j
  ·have hm2:O ∈ L.take (j+1):=hm.2 (.inl e)
   simp (disch:=first|omega|simp<;>omega|fail) [-zA,-zB,-zC,-zD,-zE,zujz,zqpn,g,g',hx,hlL,e]
   exact ⟨j+1,z515 (by simp (disch:=first|omega|simp<;>omega|fail) [-zA,-zB,-zC,-zD,-zE,S797,zqpn,hm2]) (by simp (disch:=first|omega|simp<;>omega|fail) [-zA,-zB,-zC,-zD,-zE,S797,zqpn]),by omega,by omega⟩
  ·by_cases e2:y=O
   ·have hm2:O ∈ L.take (j+1):=hm.2 (.inr e2)
    simp (disch:=first|omega|simp<;>omega|fail) [-zA,-zB,-zC,-zD,-zE,zujz,zqpn,g,g',hx,hlL,e,e2]
    exact ⟨j+1,z515 (by simp (disch:=first|omega|simp<;>omega|fail) [-zA,-zB,-zC,-zD,-zE,S797,zqpn,hm2]) (by simp (disch:=first|omega|simp<;>omega|fail) [-zA,-zB,-zC,-zD,-zE,S797,zqpn]),by omega,by omega⟩
   ·have hm2:¬ O ∈ L.take (j+1):=fun q=>(hm.1 q).elim e e2
    simp (disch:=first|omega|simp<;>omega|fail) [-zA,-zB,-zC,-zD,-zE,zujz,zqpn,g,g',hx,hlL,e,e2]
    exact ⟨j+1,z515 (by simp (disch:=first|omega|simp<;>omega|fail) [-zA,-zB,-zC,-zD,-zE,S797,zqpn,hm2]) (by simp (disch:=first|omega|simp<;>omega|fail) [-zA,-zB,-zC,-zD,-zE,S797,zqpn]),by omega,by omega⟩
 have g':¬ (j:Int)<L.length:=by omega
 rw [List.take_of_length_le (show L.length≤j by omega)]
 simp (disch:=first|omega|simp<;>omega|fail) [-zA,-zB,-zC,-zD,-zE,zujz,zqpn,g,g',hlL]
 refine zbn1 (V_W mix z79n ?_)
 simp (disch:=first|omega|simp<;>omega|fail) [-zA,-zB,-zC,-zD,-zE]
 refine zlm5 (S798 c L i O) (fun k=>k) (fun k=>k≤L.length ∧ ∀ j (hj:j<L.length),k≤j→orLt O L[j]=true) L.length (z515 (by simp (disch:=first|omega|simp<;>omega|fail) [-zA,-zB,-zC,-zD,-zE,S798,zse9]) (by simp (disch:=first|omega|simp<;>omega|fail) [-zA,-zB,-zC,-zD,-zE,S798,zse9])) ⟨by omega,fun j hj hjk=>by omega⟩ (fun k hk => ?_)
 obtain ⟨hk1,hk2⟩:=hk
 simp only [S798]
 have next:(k=0 ∨ ∃ j,∃ hj:j<L.length,k=j+1∧orLt O L[j]=false)→O ∉ L→ogL (c.f.l.take (i+1))=L.take k++O::L.drop k:=fun q hn=>by rw [hs,zpb2 zha4 hasc hn hk1 hk2 q]
 have same:O ∈ L→ogL (c.f.l.take (i+1))=L:=fun q=>by rw [hs]; unfold addU; rw [if_pos q]
 rcases Nat.eq_zero_or_pos k with z|z
 ·subst z
  simp (disch:=first|omega|simp<;>omega|fail) [-zA,-zB,-zC,-zD,-zE,zfed,zse9]
  exact zqfd (z515 (by simp (disch:=first|omega|simp<;>omega|fail) [-zA,-zB,-zC,-zD,-zE,S798,zse9]) (by simp (disch:=first|omega|simp<;>omega|fail) [-zA,-zB,-zC,-zD,-zE,S798,zse9])) (zw3n hlen h hn (Nat.zero_le _) (next (.inl rfl)) same)
 ·obtain ⟨m,rfl⟩ : ∃ m,k=m+1:=⟨k-1,by omega⟩
  have hml:m<L.length:=by omega
  have hx:=hix m hml
  have hv:=z92d (a:=O) (b:=L[m])
  have hw:IntKind.i64.wrap ((m:Int)+1-1)=m:=by rw [IntKind.wrap_i64]; omega
  cases hc2:orLt O L[m] with
  | true =>
   have hinv : ∀ j (hj:j<L.length),m≤j→orLt O L[j]=true:=fun j hj hjm=>by
    by_cases ej:j=m
    ·subst ej; exact hc2
    ·exact hk2 j hj (by omega)
   rw [hc2] at hv
   obtain ⟨y,hy⟩ : ∃ y,L[m]=y:=⟨_,rfl⟩
   rw [hy] at hx hv
   simp (disch:=first|omega|simp<;>omega|fail) [-zA,-zB,-zC,-zD,-zE,zfed,zse9,hw,hx,zjts,hv]
   exact ⟨m,z515 (by simp (disch:=first|omega|simp<;>omega|fail) [-zA,-zB,-zC,-zD,-zE,S798,zse9]) (by simp (disch:=first|omega|simp<;>omega|fail) [-zA,-zB,-zC,-zD,-zE,S798,zse9]),by omega,by omega,hinv⟩
  | false =>
   have hN:=next (.inr ⟨m,hml,rfl,hc2⟩)
   rw [hc2] at hv
   obtain ⟨y,hy⟩ : ∃ y,L[m]=y:=⟨_,rfl⟩
   rw [hy] at hx hv
   simp (disch:=first|omega|simp<;>omega|fail) [-zA,-zB,-zC,-zD,-zE,zfed,zse9,hw,hx,zjts,hv]
   exact zqfd (z515 (by simp (disch:=first|omega|simp<;>omega|fail) [-zA,-zB,-zC,-zD,-zE,S798,zse9]) (by simp (disch:=first|omega|simp<;>omega|fail) [-zA,-zB,-zC,-zD,-zE,S798,zse9])) (zw3n hlen h hn hk1 hN same)
theorem zhf5:(Con.pure cOgs).Sound P 15:=z2au fun c h=>znz9 Tryz.func15 zz37 (zfhw c h)
end Go.Proofs.YtdnhbfmlklaldaaGreat
set_option linter.unusedSimpArgs false
set_option linter.unusedVariables false
namespace Go.Proofs.YtdnhbfmlklaldaaGreat
open Go Go.Am
def a4:AFn where
 code:=(.seq (.region false [⟨none,(some 2),.mov (.k (.bool false))⟩])
 (.seq (.region false [⟨none,(some 7),.mov (.t 0)⟩,
  ⟨none,(some 8),.call (.k (.fn (.func 24) [] [])) [(.t 7),(.k (.int .i64 300))]⟩,
  ⟨none,(some 3),.mov (.t 8)⟩])
 (.seq (.region false [⟨none,(some 9),.mov (.t 3)⟩,
  ⟨none,(some 10),.call (.k (.fn (.func 25) [] [])) [(.t 9),(.k (.int .i64 12)),(.k (.int .i64 6))]⟩,
  ⟨none,(some 11),.mov (.t 3)⟩,
  ⟨none,(some 12),.call (.k (.fn (.func 26) [] [])) [(.t 11)]⟩,
  ⟨none,(some 13),.mov (.t 3)⟩,
  ⟨none,(some 14),.call (.k (.fn (.func 27) [] [])) [(.t 13)]⟩,
  ⟨none,(some 4),.alloc [(w8 0#8),(w8 0#8),(w8 0#8),(w8 0#8),(w8 0#8),(w8 0#8),(w8 0#8),(w8 0#8),(w8 0#8),(w8 0#8),(w8 0#8),(w8 0#8),(w8 0#8),(w8 0#8),(w8 0#8),(w8 0#8),(w8 0#8),(w8 0#8),(w8 0#8),(w8 0#8),(w8 0#8),(w8 0#8),(w8 0#8),(w8 0#8),(w8 0#8),(w8 0#8),(w8 0#8),(w8 0#8),(w8 0#8),(w8 0#8),(w8 0#8),(w8 0#8),(.int .i64 0),.nils,.nils,.nils]⟩,
  ⟨none,(some 5),.alloc [(w8 0#8),(w8 0#8),(w8 0#8),(w8 0#8),(w8 0#8),(w8 0#8),(w8 0#8),(w8 0#8),(w8 0#8),(w8 0#8),(w8 0#8),(w8 0#8),(w8 0#8),(w8 0#8),(w8 0#8),(w8 0#8),(w8 0#8),(w8 0#8),(w8 0#8),(w8 0#8),(w8 0#8),(w8 0#8),(w8 0#8),(w8 0#8),(w8 0#8),(w8 0#8),(w8 0#8),(w8 0#8),(w8 0#8),(w8 0#8),(w8 0#8),(w8 0#8),(.str []),(.str [])]⟩,
  ⟨none,(some 6),.alloc [(.int .i64 0),(.int .i64 0),(.int .i64 0),(.str [])]⟩,
  ⟨none,none,.store 36 (.t 4) (.t 10)⟩,
  ⟨none,none,.store 34 (.t 5) (.t 12)⟩,
  ⟨none,none,.store 4 (.t 6) (.t 14)⟩])
 (.seq (.region true [⟨none,(some 15),.load 36 true (.t 4)⟩,
  ⟨none,(some 16),.load 34 true (.t 5)⟩,
  ⟨none,(some 17),.load 4 true (.t 6)⟩,
  ⟨none,(some 19),.load 36 true (.t 4)⟩,
  ⟨none,(some 20),.load 34 true (.t 5)⟩,
  ⟨none,(some 21),.load 4 true (.t 6)⟩,
  ⟨none,(some 18),.callN (.k (.fn (.func 20) [] [])) [(.t 15),(.t 16),(.t 17)]⟩,
  ⟨none,(some 22),.callN (.k (.fn (.func 21) [] [])) [(.t 19),(.t 20),(.t 21)]⟩,
  ⟨none,(some 23),.callN (.k (.fn (.func 19) [] [])) [(.t 18),(.t 22)]⟩,
  ⟨none,(some 24),.mov (.t 23)⟩,
  ⟨(some (24,true)),(some 25),.load 36 true (.t 4)⟩,
  ⟨(some (24,true)),(some 27),.load 36 true (.t 4)⟩,
  ⟨(some (24,true)),(some 26),.callN (.k (.fn (.func 18) [] [])) [(.t 25)]⟩,
  ⟨(some (24,true)),(some 28),.callN (.k (.fn (.func 15) [] [])) [(.t 27)]⟩,
  ⟨(some (24,true)),(some 29),.callN (.k (.fn (.func 17) [] [])) [(.t 26),(.t 28)]⟩,
  ⟨none,(some 30),.pick (.t 24) (.t 29) (.k (.bool false))⟩,
  ⟨none,(some 31),.mov (.t 30)⟩,
  ⟨(some (31,true)),(some 32),.callN (.k (.fn (.func 14) [] [])) []⟩,
  ⟨none,(some 33),.pick (.t 31) (.t 32) (.k (.bool false))⟩,
  ⟨none,(some 2),.mov (.t 33)⟩])
 .ret))))
 ntmps:=34
 res:=[.tmp 2]
end Go.Proofs.YtdnhbfmlklaldaaGreat
set_option linter.unusedSimpArgs false
set_option linter.unusedVariables false
namespace Go.Proofs.YtdnhbfmlklaldaaGreat
open Go Go.Am
end Go.Proofs.YtdnhbfmlklaldaaGreat
set_option linter.unusedSimpArgs false
set_option linter.unusedVariables false
namespace Go.Proofs.YtdnhbfmlklaldaaGreat
open Go Go.Am
end Go.Proofs.YtdnhbfmlklaldaaGreat
set_option linter.unusedSimpArgs false
set_option linter.unusedVariables false
namespace Go.Proofs.YtdnhbfmlklaldaaGreat
open Go Go.Am
theorem zo5r {l:List Fct} (hl:l.length≤1000):0<(zz6h l).l.length:=by
 unfold zz6h
 split
 ·exact Nat.one_pos
 ·rename_i e
  rw [z3e9 (by have:=zsv6 (lt:=orLt) (relS l); have:=zho3 l; omega)]
  cases hq:relS l with
  | nil=>exact absurd hq e
  | cons a r =>
   have:a ∈ z534 orLt (a::r):=by rw [zoav zha4]; simp
   exact List.length_pos_of_mem this
end Go.Proofs.YtdnhbfmlklaldaaGreat
set_option linter.unusedSimpArgs false
set_option linter.unusedVariables false
namespace Go.Proofs.YtdnhbfmlklaldaaGreat
open Go Go.Am
def zml0:ACode :=
 (.seq (.seq (.region false [⟨none,(some 4),.mov (.t 3)⟩,
  ⟨none,(some 5),.fld 33 (.t 1)⟩,
  ⟨none,(some 6),.load 1 false (.t 5)⟩,
  ⟨none,(some 7),.len (.t 6)⟩,
  ⟨none,(some 8),.bin .lss (.t 4) (.t 7)⟩])
 (.cond (.t 8) .skip
 (.exit 0)))
 (.seq (.block 1 (.seq (.region false [⟨none,(some 11),.fld 33 (.t 1)⟩,
  ⟨none,(some 12),.load 1 false (.t 11)⟩,
  ⟨none,(some 13),.mov (.t 3)⟩,
  ⟨none,(some 14),.idxS 71 (.t 12) (.t 13)⟩,
  ⟨none,(some 15),.fld 70 (.t 14)⟩,
  ⟨none,(some 16),.load 1 false (.t 15)⟩,
  ⟨none,(some 17),.len (.t 16)⟩,
  ⟨none,(some 18),.bin .gtr (.t 17) (.k (.int .i64 8))⟩])
 (.cond (.t 18) (.seq (.region false [⟨none,(some 2),.mov (.k (.bool false))⟩])
 .ret)
 .skip)))
 (.region false [⟨none,(some 9),.mov (.t 3)⟩,
  ⟨none,(some 10),.bin .add (.t 9) (.k (.int .i64 1))⟩,
  ⟨none,(some 3),.mov (.t 10)⟩])))
def z91a (x1 x3:DV) (h:List AObj):St:=⟨[.junk,x1,.junk,x3]++js 31,h⟩
def a13:AFn where
 code:=(.seq (.region false [⟨none,(some 1),.box (.t 0)⟩,
  ⟨none,(some 2),.mov (.k (.bool false))⟩])
 (.seq (.seq (.region false [⟨none,(some 3),.mov (.k (.int .i64 0))⟩])
 (.block 0 (.loop zml0)))
 (.seq (.region false [⟨none,(some 19),.fld 33 (.t 1)⟩,
  ⟨none,(some 20),.load 1 false (.t 19)⟩,
  ⟨none,(some 21),.len (.t 20)⟩,
  ⟨none,(some 22),.bin .leq (.t 21) (.k (.int .i64 20))⟩,
  ⟨none,(some 23),.mov (.t 22)⟩,
  ⟨(some (23,true)),(some 24),.fld 34 (.t 1)⟩,
  ⟨(some (23,true)),(some 25),.load 1 false (.t 24)⟩,
  ⟨(some (23,true)),(some 26),.len (.t 25)⟩,
  ⟨(some (23,true)),(some 27),.bin .leq (.t 26) (.k (.int .i64 20))⟩,
  ⟨none,(some 28),.pick (.t 23) (.t 27) (.k (.bool false))⟩,
  ⟨none,(some 29),.mov (.t 28)⟩,
  ⟨(some (29,true)),(some 30),.fld 35 (.t 1)⟩,
  ⟨(some (29,true)),(some 31),.load 1 false (.t 30)⟩,
  ⟨(some (29,true)),(some 32),.len (.t 31)⟩,
  ⟨(some (29,true)),(some 33),.bin .leq (.t 32) (.k (.int .i64 8))⟩,
  ⟨none,(some 34),.pick (.t 29) (.t 33) (.k (.bool false))⟩,
  ⟨none,(some 2),.mov (.t 34)⟩])
 .ret)))
 ntmps:=35
 res:=[.tmp 2]
theorem zm5y:zsjc P Tryz.f13=some a13:=by kernel_rfl
end Go.Proofs.YtdnhbfmlklaldaaGreat
set_option linter.unusedSimpArgs false
set_option linter.unusedVariables false
namespace Go.Proofs.YtdnhbfmlklaldaaGreat
open Go Go.Am
theorem zkch {α:Type} {e:Ty} {f:α→List DV} {R:α→Prop} {M:Nat} (he : ∀ ds,e.Ok ds→z1t3 ds≤M → ∃ a,R a∧ds=f a) : ∀ (gs:List (List DV)),(∀ g ∈ gs,e.Ok g)→z1t3 gs.flatten≤M → ∃ l:List α,l.length=gs.length∧(∀ a ∈ l,R a)∧gs=l.map f
 | [],_,_=>⟨[],rfl,fun a h=>by simp at h,rfl⟩
 | g::gs,h,hb=>by
  rw [List.flatten_cons,z51p] at hb
  obtain ⟨a,ha,rfl⟩:=he g (h g (by simp)) (by omega)
  obtain ⟨l,h1,h2,rfl⟩:=zkch he gs (fun g' hg=>h g' (by simp [hg])) (by omega)
  refine ⟨a::l,by simp,fun b hb => ?_,rfl⟩
  rcases List.mem_cons.1 hb with rfl|hb
  ·exact ha
  ·exact h2 b hb
theorem z3jx {α:Type} {f:α→List DV} {s:Nat} (hu : ∀ a,s≤z1t3 (f a)) : ∀ l:List α,l.length*s≤z1t3 (l.flatMap f)
 | []=>by simp
 | a::l=>by
  have:=z3jx hu l
  have:=hu a
  rw [List.flatMap_cons,z51p,List.length_cons,Nat.add_mul]; omega
theorem zxl8 {α:Type} {e:Ty} {f:α→List DV} {R:α→Prop} {s M:Nat} (hM:M≤4294967296) (hs:e.size=s) (h0:0<s) (hu : ∀ a,s≤z1t3 (f a)) (he : ∀ ds,e.Ok ds→z1t3 ds≤M → ∃ a,R a∧ds=f a) {ds:List DV} (h:Ty.Ok (.sl e) ds) (hb:z1t3 ds≤M) :
  ∃ x:Sl α,x.l.length*s≤M∧(∀ a ∈ x.l,R a)∧ds=[x.dv s f]:=by
 simp only [Ty.Ok] at h
 rcases h with rfl|⟨gs,rfl,_,h⟩
 ·exact ⟨nilS,by simp [zb11],fun a h=>by simp [zb11] at h,rfl⟩
 ·simp only [z1t3,dvSz,Nat.add_zero] at hb
  obtain ⟨l,h1,h2,rfl⟩:=zkch he gs h (by omega)
  have h3:=z3jx hu l
  have h4:(l.map f).flatten=l.flatMap f:=by simp [List.flatMap]
  rw [h4] at hb
  have h5:l.length*s≤M:=by omega
  have h6:l.length*1≤l.length*s:=Nat.mul_le_mul_left _ h0
  refine ⟨⟨some false,l,fun h=>by simp at h,by omega⟩,h5,h2,?_⟩
  rw [h4,hs,List.length_map]; rfl
abbrev yDg:Ty := .arr 32 (.int .u8)
abbrev yFa:Ty := .st [.int .i64,.str,yDg,.str,.str,.int .i64,.bool,yDg,.sl yDg]
abbrev yFn:Ty := .st [yDg,.st [.int .i64,.str,.int .i64,.sl yDg],.st [.int .i64,.sl yDg,.bool]]
abbrev yCa:Ty := .st [yDg,.int .i64,.sl yFa,.sl yFn,.sl .str]
abbrev yOr:Ty := .st [yDg,.str,.str]
abbrev yRq:Ty := .st [.int .i64,.int .i64,.int .i64,.str]
theorem zi3e : ∀ l:List B8,z1t3 (l.map w8)=l.length
 | []=>rfl
 | b::l=>by rw [List.map_cons,z1t3,zi3e l,List.length_cons,show dvSz (w8 b)=1 from rfl]; omega
theorem zrol (d:Dg):z1t3 (dgC d)=32:=by rw [dgC,zi3e]; exact d.2
theorem okD {ds:List DV} (h:Ty.Ok yDg ds) : ∃ d:Dg,True∧ds=dgC d:=by
 obtain ⟨b,h1,rfl⟩:=zgcd h
 exact ⟨⟨b,h1⟩,trivial,rfl⟩
theorem okDs {ds:List DV} (h:Ty.Ok (.sl yDg) ds) (hb:z1t3 ds≤1048576) : ∃ x:Sl Dg,x.l.length≤40000∧ds=[x.dv 32 dgC]:=by
 obtain ⟨x,h1,_,h2⟩:=zxl8 (R:=fun _=>True) (M:=1048576) (s:=32) (by decide) rfl (by decide) (fun d=>Nat.le_of_eq (zrol d).symm) (fun ds h _=>okD h) h hb
 exact ⟨x,by omega,h2⟩
theorem okFa {ds:List DV} (h:Ty.Ok yFa ds) (hb:z1t3 ds≤1048576) : ∃ f:Fct,True∧ds=faC f:=by
 simp only [yFa,Ty.Ok,Ty.OkL] at h
 obtain ⟨a1,b1,rfl,h1,a2,b2,rfl,h2,a3,b3,rfl,h3,a4,b4,rfl,h4,a5,b5,rfl,h5,a6,b6,rfl,h6,a7,b7,rfl,h7,a8,b8,rfl,h8,a9,b9,rfl,h9,rfl⟩:=h
 simp only [z51p] at hb
 obtain ⟨n1,rfl,_⟩:=h1
 obtain ⟨s2,rfl⟩:=h2
 obtain ⟨d3,_,rfl⟩:=okD (show Ty.Ok yDg a3 by simpa only [Ty.Ok] using h3)
 obtain ⟨s4,rfl⟩:=h4
 obtain ⟨s5,rfl⟩:=h5
 obtain ⟨n6,rfl,_⟩:=h6
 obtain ⟨b7,rfl⟩:=h7
 obtain ⟨d8,_,rfl⟩:=okD (show Ty.Ok yDg a8 by simpa only [Ty.Ok] using h8)
 obtain ⟨x9,_,rfl⟩:=okDs (ds:=a9) (by simpa only [yDg,Ty.Ok] using h9) (by omega)
 exact ⟨⟨n1,s2,d3,s4,s5,n6,b7,d8,x9⟩,trivial,by simp [faC]⟩
theorem okFn {ds:List DV} (h:Ty.Ok yFn ds) (hb:z1t3 ds≤1048576) : ∃ f:Fnd,f.dd.l.length≤40000∧ds=fnC f:=by
 simp only [yFn,Ty.Ok,Ty.OkL] at h
 obtain ⟨a1,b1,rfl,h1,a2,b2,rfl,⟨a3,b3,rfl,h3,a4,b4,rfl,h4,a5,b5,rfl,h5,a6,b6,rfl,h6,rfl⟩,a7,b7,rfl,⟨a8,b8,rfl,h8,a9,b9,rfl,h9,a10,b10,rfl,h10,rfl⟩,rfl⟩:=h
 simp only [z51p] at hb
 obtain ⟨d1,_,rfl⟩:=okD (show Ty.Ok yDg a1 by simpa only [Ty.Ok] using h1)
 obtain ⟨n3,rfl,_⟩:=h3
 obtain ⟨s4,rfl⟩:=h4
 obtain ⟨n5,rfl,_⟩:=h5
 obtain ⟨x6,_,rfl⟩:=okDs (ds:=a6) (by simpa only [yDg,Ty.Ok] using h6) (by omega)
 obtain ⟨n8,rfl,_⟩:=h8
 obtain ⟨x9,h9b,rfl⟩:=okDs (ds:=a9) (by simpa only [yDg,Ty.Ok] using h9) (by omega)
 obtain ⟨b10,rfl⟩:=h10
 exact ⟨⟨d1,n3,s4,n5,x6,n8,x9,b10⟩,h9b,by simp [fnC]⟩
theorem zosg (f:Fct):71≤z1t3 (faC f):=by
 simp only [faC,z1t3,z51p,zrol]
 obtain ⟨k,l,h,hb⟩:=f.docs
 cases k<;>simp [dvSz,Sl.dv,slD,z1t3]<;>omega
theorem z910 (f:Fnd):39≤z1t3 (fnC f):=by
 simp only [fnC,z1t3,z51p,zrol]
 have : ∀ x:Sl Dg,1≤dvSz (x.dv 32 dgC):=fun x=>by
  obtain ⟨k,l,h,hb⟩:=x
  cases k<;>simp [dvSz,Sl.dv,slD]
 have e1:=this f.hd
 have e2:=this f.dd
 simp only [dvSz]; omega
theorem okCa {ds:List DV} (h:Ty.Ok yCa ds) (hb:z1t3 ds≤1048576) : ∃ c:Cas,(∀ f ∈ c.n.l,f.dd.l.length≤40000)∧ds=caC c:=by
 rw [yCa,Ty.Ok] at h
 simp only [Ty.OkL] at h
 obtain ⟨a1,b1,rfl,h1,a2,b2,rfl,h2,a3,b3,rfl,h3,a4,b4,rfl,h4,a5,b5,rfl,h5,rfl⟩:=h
 simp only [z51p] at hb
 obtain ⟨d1,_,rfl⟩:=okD h1
 obtain ⟨n2,_,rfl⟩:=zrcx h2
 obtain ⟨x3,_,_,rfl⟩:=zxl8 (R:=fun _=>True) (M:=1048576) (s:=71) (by decide) rfl (by decide) zosg (fun ds h hb=>okFa h hb) h3 (by omega)
 obtain ⟨x4,_,h4b,rfl⟩:=zxl8 (R:=fun f:Fnd=>f.dd.l.length≤40000) (M:=1048576) (s:=39) (by decide) rfl (by decide) z910 (fun ds h hb=>okFn h hb) h4 (by omega)
 obtain ⟨x5,_,_,rfl⟩:=zxl8 (f:=stC) (R:=fun _=>True) (M:=1048576) (s:=1) (by decide) rfl (by decide) (fun s=>by simp [stC,z1t3,dvSz]) (fun ds h _=>by obtain ⟨s,rfl⟩:=(show ∃ s,ds=[.str s] from h); exact ⟨s,trivial,rfl⟩) h5 (by omega)
 exact ⟨⟨d1,n2,x3,x4,x5⟩,h4b,by simp [caC]⟩
theorem okOr {ds:List DV} (h:Ty.Ok yOr ds) : ∃ o:Org,ds=orC o:=by
 rw [yOr,Ty.Ok] at h
 simp only [Ty.OkL] at h
 obtain ⟨a1,b1,rfl,h1,a2,b2,rfl,h2,a3,b3,rfl,h3,rfl⟩:=h
 obtain ⟨d1,_,rfl⟩:=okD h1
 obtain ⟨s2,rfl⟩:=(show ∃ s,a2=[.str s] from h2)
 obtain ⟨s3,rfl⟩:=(show ∃ s,a3=[.str s] from h3)
 exact ⟨⟨d1,s2,s3⟩,by simp [orC]⟩
theorem okRq {ds:List DV} (h:Ty.Ok yRq ds) : ∃ q:Req,ds=rqC q:=by
 rw [yRq,Ty.Ok] at h
 simp only [Ty.OkL] at h
 obtain ⟨a1,b1,rfl,h1,a2,b2,rfl,h2,a3,b3,rfl,h3,a4,b4,rfl,h4,rfl⟩:=h
 obtain ⟨n1,_,rfl⟩:=zrcx h1
 obtain ⟨n2,_,rfl⟩:=zrcx h2
 obtain ⟨n3,_,rfl⟩:=zrcx h3
 obtain ⟨s4,rfl⟩:=(show ∃ s,a4=[.str s] from h4)
 exact ⟨⟨n1,n2,n3,s4⟩,by simp [rqC]⟩
def fewB (c:Cas):Bool:=c.f.l.all (fun f=>decide (f.docs.l.length≤8))&&(decide (c.f.l.length≤20)&&(decide (c.n.l.length≤20)&&decide (c.d.l.length≤8)))
def S804 (c:Cas) (i:Nat):St:=z91a (.mp 0 36 0) (.int .i64 i) [.cells (caC c)]
theorem zl8m (c:Cas):Runs tbl0 a13 [.agg (caC c)] (.bool (fewB c)):=by
 refine ⟨?_⟩
 have hb:=c.f.b
 simp (disch:=first|omega|simp<;>omega|fail) [-zA,-zB,-zC,-zD,-zE,a13]
 refine zlm5 (S804 c) (fun i=>c.f.l.length-i) (fun i=>i≤c.f.l.length ∧ ∀ j (hj:j<c.f.l.length),j<i→c.f.l[j].docs.l.length≤8) 0 (z515 (by simp (disch:=first|omega|simp<;>omega|fail) [-zA,-zB,-zC,-zD,-zE,S804,z91a]) (by simp (disch:=first|omega|simp<;>omega|fail) [-zA,-zB,-zC,-zD,-zE,S804,z91a])) ⟨by omega,fun j _ hj=>by omega⟩ (fun i hi => ?_)
 obtain ⟨h1,h2⟩:=hi
 simp only [S804]
 by_cases h:i<c.f.l.length
 ·have h':(i:Int)<c.f.l.length:=by omega
  have hg : ∀ H,zpsc H 71 (c.f.dv 71 faC) i=some (.ref (faC c.f.l[i])):=fun H=>zalo zs77 h
  by_cases g:c.f.l[i].docs.l.length≤8
  ·have hinv : ∀ j (hj:j<c.f.l.length),j<i+1→c.f.l[j].docs.l.length≤8:=fun j hj hji=>by
    by_cases ej:j=i
    ·subst ej; exact g
    ·exact h2 j hj (by omega)
   obtain ⟨F,hF⟩ : ∃ F,c.f.l[i]=F:=⟨_,rfl⟩
   rw [hF] at hg g
   have g':¬ (8:Int)<F.docs.l.length:=by omega
   have g2:¬ 8<F.docs.l.length:=by omega
   simp (disch:=first|omega|simp<;>omega|fail) [-zA,-zB,-zC,-zD,-zE,zml0,z91a,h,h',hg,g',g2]
   exact ⟨i+1,z515 (by simp (disch:=first|omega|simp<;>omega|fail) [-zA,-zB,-zC,-zD,-zE,S804,z91a]) (by simp (disch:=first|omega|simp<;>omega|fail) [-zA,-zB,-zC,-zD,-zE,S804,z91a]),by omega,by omega,hinv⟩
  ·have hr:fewB c=false:=by
    unfold fewB
    rw [List.all_eq_false.2 ⟨c.f.l[i],List.getElem_mem h,by simpa using g⟩]; rfl
   obtain ⟨F,hF⟩ : ∃ F,c.f.l[i]=F:=⟨_,rfl⟩
   rw [hF] at hg g
   have g':(8:Int)<F.docs.l.length:=by omega
   have g2:8<F.docs.l.length:=by omega
   simp (disch:=first|omega|simp<;>omega|fail) [-zA,-zB,-zC,-zD,-zE,zml0,z91a,h,h',hg,g',g2,hr]
 ·have h':¬ (i:Int)<c.f.l.length:=by omega
  have ha:c.f.l.all (fun f=>decide (f.docs.l.length≤8))=true:=by
   rw [List.all_eq_true]
   intro f hf
   obtain ⟨j,hj,e⟩:=List.getElem_of_mem hf
   have:=h2 j hj (by omega)
   rw [e] at this; simpa using this
  have hr:fewB c=(decide (c.f.l.length≤20)&&(decide (c.n.l.length≤20)&&decide (c.d.l.length≤8))):=by unfold fewB; rw [ha,Bool.true_and]
  obtain ⟨R,hR⟩ : ∃ R,fewB c=R:=⟨_,rfl⟩
  rw [hR] at hr ⊢
  obtain ⟨a,ha⟩ : ∃ a,c.f.l.length=a:=⟨_,rfl⟩
  obtain ⟨b,hb⟩ : ∃ b,c.n.l.length=b:=⟨_,rfl⟩
  obtain ⟨d,hd⟩ : ∃ d,c.d.l.length=d:=⟨_,rfl⟩
  have l1 : ∀ H,lenD H (c.f.dv 71 faC)=some (.int .i64 a):=fun H=>by rw [zupj,ha]
  have l2 : ∀ H,lenD H (c.n.dv 39 fnC)=some (.int .i64 b):=fun H=>by rw [zupj,hb]
  have l3 : ∀ H,lenD H (c.d.dv 1 stC)=some (.int .i64 d):=fun H=>by rw [zupj,hd]
  rw [ha,hb,hd] at hr
  subst hr
  have h3:¬ (i:Int)<a:=by omega
  have h4:¬ i<a:=by omega
  by_cases e1:a≤20
  ·have e1':(a:Int)≤20:=by omega
   by_cases e2:b≤20
   ·have e2':(b:Int)≤20:=by omega
    by_cases e3:d≤8
    ·have e3':(d:Int)≤8:=by omega
     simp (disch:=first|omega|simp<;>omega|fail) [-zA,-zB,-zC,-zD,-zE,zml0,z91a,h3,h4,l1,l2,l3,e1,e1',e2,e2',e3,e3']
    ·have e3':¬ (d:Int)≤8:=by omega
     simp (disch:=first|omega|simp<;>omega|fail) [-zA,-zB,-zC,-zD,-zE,zml0,z91a,h3,h4,l1,l2,l3,e1,e1',e2,e2',e3,e3']
   ·have e2':¬ (b:Int)≤20:=by omega
    simp (disch:=first|omega|simp<;>omega|fail) [-zA,-zB,-zC,-zD,-zE,zml0,z91a,h3,h4,l1,l2,l3,e1,e1',e2,e2']
  ·have e1':¬ (a:Int)≤20:=by omega
   simp (disch:=first|omega|simp<;>omega|fail) [-zA,-zB,-zC,-zD,-zE,zml0,z91a,h3,h4,l1,l2,l3,e1,e1']
noncomputable def zjfz:List DV→Option DV:=con (fun _=>True) (fun c:Cas=>[.agg (caC c)]) (fun c => .bool (fewB c))
theorem zg6s {c:Cas}:zjfz [.agg (caC c)]=some (.bool (fewB c)):=zsn4 (f:=fun c:Cas=>[.agg (caC c)]) (g:=fun c => .bool (fewB c)) (fun a b e=>by simp only [List.cons.injEq,DV.agg.injEq,and_true] at e; exact zejx e) c
theorem z1ow:(Con.pure zjfz).Sound P 13:=z2au fun c _=>zljw mix zr5o Tryz.func13 zm5y (zl8m c)
end Go.Proofs.YtdnhbfmlklaldaaGreat
set_option linter.unusedSimpArgs false
set_option linter.unusedVariables false
namespace Go.Proofs.YtdnhbfmlklaldaaGreat
open Go Go.Am
def a3:AFn where
 code:=(.seq (.region false [⟨none,(some 5),.box (.t 0)⟩,
  ⟨none,(some 6),.box (.t 1)⟩,
  ⟨none,(some 7),.box (.t 2)⟩,
  ⟨none,(some 10),.mov (.k (.bool false))⟩])
 (.seq (.seq (.region false [⟨none,(some 12),.load 36 true (.t 5)⟩,
  ⟨none,(some 13),.call (.k (.fn (.func 13) [] [])) [(.t 12)]⟩,
  ⟨none,(some 14),.un .not (.t 13)⟩,
  ⟨none,(some 15),.mov (.t 14)⟩,
  ⟨(some (15,false)),(some 16),.mov (.t 3)⟩,
  ⟨(some (15,false)),(some 17),.len (.t 16)⟩,
  ⟨(some (15,false)),(some 18),.bin .gtr (.t 17) (.k (.int .i64 30))⟩,
  ⟨none,(some 19),.pick (.t 15) (.k (.bool true)) (.t 18)⟩])
 (.cond (.t 19) (.seq (.region false [⟨none,(some 20),.call (.k (.fn (.func 14) [] [])) []⟩,
  ⟨none,(some 10),.mov (.t 20)⟩])
 .ret)
 .skip))
 (.seq (.region false [⟨none,(some 21),.load 36 true (.t 5)⟩,
  ⟨none,(some 22),.call (.k (.fn (.func 15) [] [])) [(.t 21)]⟩,
  ⟨none,(some 11),.mov (.t 22)⟩])
 (.seq (.seq (.region false [⟨none,(some 23),.mov (.t 4)⟩,
  ⟨none,(some 24),.bin .geq (.t 23) (.k (.int .i64 0))⟩])
 (.cond (.t 24) (.seq (.region false [⟨none,(some 25),.mov (.t 11)⟩,
  ⟨none,(some 26),.mov (.t 4)⟩,
  ⟨none,(some 27),.mov (.t 11)⟩,
  ⟨none,(some 28),.len (.t 27)⟩,
  ⟨none,(some 29),.bin .rem (.t 26) (.t 28)⟩,
  ⟨none,(some 30),.idxS 34 (.t 25) (.t 29)⟩,
  ⟨none,(some 31),.load 34 true (.t 30)⟩,
  ⟨none,none,.store 34 (.t 6) (.t 31)⟩])
 (.region false [⟨none,(some 32),.fld 0 (.t 7)⟩,
  ⟨none,(some 33),.load 1 false (.t 32)⟩,
  ⟨none,(some 34),.call (.k (.fn (.func 16) [] [])) [(.t 33),(.k (.int .i64 8))]⟩,
  ⟨none,(some 35),.bin .add (.k (.int .i64 1)) (.t 34)⟩,
  ⟨none,(some 36),.fld 0 (.t 7)⟩,
  ⟨none,none,.store 1 (.t 36) (.t 35)⟩]))
 .skip))
 (.seq (.region true [⟨none,(some 37),.load 36 true (.t 5)⟩,
  ⟨none,(some 39),.mov (.t 11)⟩,
  ⟨none,(some 38),.callN (.k (.fn (.func 18) [] [])) [(.t 37)]⟩,
  ⟨none,(some 40),.callN (.k (.fn (.func 17) [] [])) [(.t 38),(.t 39)]⟩,
  ⟨none,(some 41),.mov (.t 40)⟩,
  ⟨(some (41,true)),(some 42),.load 36 true (.t 5)⟩,
  ⟨(some (41,true)),(some 43),.load 34 true (.t 6)⟩,
  ⟨(some (41,true)),(some 44),.load 4 true (.t 7)⟩,
  ⟨(some (41,true)),(some 46),.load 36 true (.t 5)⟩,
  ⟨(some (41,true)),(some 47),.load 34 true (.t 6)⟩,
  ⟨(some (41,true)),(some 48),.load 4 true (.t 7)⟩,
  ⟨(some (41,true)),(some 45),.callN (.k (.fn (.func 20) [] [])) [(.t 42),(.t 43),(.t 44)]⟩,
  ⟨(some (41,true)),(some 49),.callN (.k (.fn (.func 21) [] [])) [(.t 46),(.t 47),(.t 48)]⟩,
  ⟨(some (41,true)),(some 50),.callN (.k (.fn (.func 19) [] [])) [(.t 45),(.t 49)]⟩,
  ⟨none,(some 51),.pick (.t 41) (.t 50) (.k (.bool false))⟩,
  ⟨none,(some 52),.mov (.t 51)⟩,
  ⟨(some (52,true)),(some 53),.load 36 true (.t 5)⟩,
  ⟨(some (52,true)),(some 54),.load 34 true (.t 6)⟩,
  ⟨(some (52,true)),(some 55),.load 4 true (.t 7)⟩,
  ⟨(some (52,true)),(some 56),.mov (.t 3)⟩,
  ⟨(some (52,true)),(some 58),.load 36 true (.t 5)⟩,
  ⟨(some (52,true)),(some 59),.load 34 true (.t 6)⟩,
  ⟨(some (52,true)),(some 60),.load 4 true (.t 7)⟩,
  ⟨(some (52,true)),(some 61),.mov (.t 3)⟩,
  ⟨(some (52,true)),(some 57),.callN (.k (.fn (.func 22) [] [])) [(.t 53),(.t 54),(.t 55),(.t 56)]⟩,
  ⟨(some (52,true)),(some 62),.callN (.k (.fn (.func 23) [] [])) [(.t 58),(.t 59),(.t 60),(.t 61)]⟩,
  ⟨(some (52,true)),(some 63),.eqb false (.t 57) (.t 62)⟩,
  ⟨none,(some 64),.pick (.t 52) (.t 63) (.k (.bool false))⟩,
  ⟨none,(some 65),.mov (.t 64)⟩,
  ⟨(some (65,true)),(some 66),.callN (.k (.fn (.func 14) [] [])) []⟩,
  ⟨none,(some 67),.pick (.t 65) (.t 66) (.k (.bool false))⟩,
  ⟨none,(some 10),.mov (.t 67)⟩])
 .ret)))))
 ntmps:=68
 res:=[.tmp 10]
theorem z842:zsjc P Tryz.f3=some a3:=by kernel_rfl
end Go.Proofs.YtdnhbfmlklaldaaGreat
set_option linter.unusedSimpArgs false
set_option linter.unusedVariables false
namespace Go.Proofs.YtdnhbfmlklaldaaGreat
open Go Go.Am
structure CaRw (c:Cas):Prop where
 f:c.f.l.length≤20
 d : ∀ f ∈ c.f.l,f.docs.l.length≤8
 n:c.n.l.length≤20
 m : ∀ f ∈ c.n.l,f.dd.l.length≤40000
 e:c.d.l.length≤8
theorem zgwx {c:Cas} (h:fewB c=true) (hm : ∀ f ∈ c.n.l,f.dd.l.length≤40000):CaRw c:=by
 simp only [fewB,Bool.and_eq_true,List.all_eq_true,decide_eq_true_eq] at h
 exact ⟨h.2.1,h.1,h.2.2.1,hm,h.2.2.2⟩
theorem zv1l {q:Req} (h:reqB q=true):(q.kind=1∨q.kind=3∨q.kind=4∨q.kind=5)→0≤q.n∧q.n≤32∧(q.kind=4→0≤q.m∧q.m≤32):=fun hk=>by
 unfold reqB at h
 split at h
 ·rename_i g
  simp only [inB,Bool.and_eq_true,decide_eq_true_eq] at h
  exact ⟨by omega,by omega,fun e=>by omega⟩
 ·split at h
  ·simp only [inB,Bool.and_eq_true,decide_eq_true_eq] at h
   exact ⟨by omega,by omega,fun e=>by omega⟩
  ·omega
theorem zwzm {l:List Fct} {m:List Str} {k:Nat} (h : ∀ f ∈ l,f.docs.l.length≤8) (hm:m.length≤k):(ztt8 l m).length≤k*8:=by
 have:=zqok (f:=zm3u l) (m:=8) (l:=m) fun n _=>by
  unfold zm3u; split
  ·rename_i f e; exact h f (List.mem_of_find?_eq_some e)
  ·simp
 unfold ztt8
 have:m.length*8≤k*8:=Nat.mul_le_mul_right _ hm
 omega
theorem zqdp {l:List Fct} {n:Int} (h1:l.length≤20) (h2 : ∀ f ∈ l,f.docs.l.length≤8) (h3:0≤n) (h4:n≤32):EnOK l n :=
 ⟨by omega,h3,by omega,fun f hf=>by have:=h2 f hf; omega,by
  have:=zwzm (m:=(zzy4 l).take n.toNat) (k:=20) h2 (by have:=zmvi l; rw [List.length_take]; omega)
  omega⟩
theorem ztgf {c:Cas} {all:List Fct} {o:Org} {q:Req} (s:CaRw c) (ha:all.length≤20) (hq:reqB q=true):CkOK c all o q:=by
 have L : ∀ {k:Int} {s':Sel},(zskr c.f.l k s').length≤20:=fun {k} {s'}=>by have:=zjru (l:=c.f.l) (k:=k) (s:=s'); have:=s.f; omega
 have D : ∀ {k:Int} {s':Sel},∀ f ∈ zskr c.f.l k s',f.docs.l.length≤8:=fun f hf=>s.d f (zs6z.1 hf).1
 have hd:=zdo9 (s:=q.n) s.n s.m
 have hd:(decS c.n.l q.n).length≤800000:=by
  have a:=zqok (f:=fun f:Fnd=>f.dd.l) (m:=40000) (l:=c.n.l.filter fun f=>decide (q.n≤f.sev)) fun f hf=>s.m f (List.mem_filter.1 hf).1
  have b:=List.length_filter_le (fun f:Fnd=>decide (q.n≤f.sev)) c.n.l
  have:=s.n
  unfold decS; omega
 refine ⟨fun h => ?_,fun h => ?_,fun h => ?_,fun h => ?_,fun f hf=>by have:=s.d f hf; omega,fun h f hf=>by have:=s.d f hf; omega,⟨s.n,s.m⟩,by have:=s.e; omega,by have:=s.f; omega,by omega⟩
 ·obtain ⟨h1,h2,-⟩:=zv1l hq (.inl h); exact zqdp L D h1 h2
 ·obtain ⟨h1,h2,-⟩:=zv1l hq (.inr (.inl h)); exact zqdp L D h1 h2
 ·obtain ⟨h1,h2,h3⟩:=zv1l hq (.inr (.inr (.inl h)))
  obtain ⟨h3,h4⟩:=h3 h
  refine ⟨by have:=L (k:=4) (s' := .source o); omega,by have:=zjru (l:=all) (k:=4) (s := .source o); omega,h1,by omega,h3,by omega,fun f hf=>by have:=D f hf; omega,?_⟩
  have hl:(zob0 (zskr c.f.l 4 (.source o)) (zskr all 4 (.source o))).length≤20:=by
   have:=zmvi (zskr c.f.l 4 (.source o))
   have:=L (k:=4) (s' := .source o)
   have:=List.length_filter_le (fun n => !decide (n ∈ zqgg (zskr all 4 (.source o)))) (zzy4 (zskr c.f.l 4 (.source o)))
   unfold zob0; omega
  have:=zwzm (m:=(zob0 (zskr c.f.l 4 (.source o)) (zskr all 4 (.source o))).take q.n.toNat) (k:=20) (D (k:=4) (s' := .source o)) (by rw [List.length_take]; omega)
  omega
 ·obtain ⟨h1,h2,-⟩:=zv1l hq (.inr (.inr (.inr h)))
  refine ⟨by have:=L (k:=5) (s' := .every); omega,fun d=>zqdp ?_ (fun f hf=>D f (zs6z.1 hf).1) h1 h2,h1⟩
  have:=zjru (l:=zskr c.f.l 5 .every) (k:=5) (s := .target d)
  have:=L (k:=5) (s' := .every)
  omega
theorem z49u {c:Cas} {docs:List Dg} (s:CaRw c):CaRw (zev9 c docs):=by
 have hl:(zev9 c docs).f.l=zcqw c docs:=zke4
 refine ⟨?_,fun f hf=>s.d f ?_,s.n,s.m,s.e⟩
 ·rw [hl]; have:=List.length_filter_le (fun f:Fct=>subB f.docs.l docs) c.f.l; have:=s.f; unfold zcqw; omega
 ·rw [hl] at hf; exact (List.mem_filter.1 hf).1
theorem zxz7 {c:Cas} {o:Org} {q:Req} {docs:List Dg} (s:CaRw c) (hq:reqB q=true):ByOK c o q docs :=
 ⟨ztgf (z49u s) s.f hq,⟨s.n,s.m⟩,by have:=s.f; omega⟩
theorem zne0 {c:Cas} (s:CaRw c):RfOK c.f.l:=⟨by have:=s.f; omega,fun f hf=>by have:=s.d f hf; omega⟩
theorem zs7a {c:Cas} (s:CaRw c):FnOK c.n.l:=⟨s.n,s.m⟩
theorem zx8u {c:Cas} {x:Sl Fct} {q:Req} (s:CaRw c) (hq:reqB q=true) (hx:RfOK x.l):SuOK c x q :=
 ⟨hx,by have:=s.f; omega,zs7a s,by have:=s.e; omega,fun h=>by have:=zv1l hq h; omega,fun h=>by have:=(zv1l hq (.inr (.inr (.inl h)))).2.2 h; omega⟩
noncomputable def T805:Tbl:=addT 13 (.pure zjfz) (addT 16 (.pure zqmv) (addT 20 (.pure cChe) (addT 21 (.pure cChR) (addT 19 (.pure cSSu) (addT 18 (.pure cOgs) (addT 15 (.pure cOgs) (addT 17 (.pure cSOr) (addT 22 (.pure cBy) (addT 23 (.pure cByR) (addT 14 (.pure cAw) tbl0))))))))))
theorem zxtz:T805 13 = .pure zjfz:=by simp [T805]
theorem zp1k:T805 16 = .pure zqmv:=by simp [T805]
theorem zpim:T805 20 = .pure cChe:=by simp [T805]
theorem zstt:T805 21 = .pure cChR:=by simp [T805]
theorem zv75:T805 19 = .pure cSSu:=by simp [T805]
theorem zup2:T805 18 = .pure cOgs:=by simp [T805]
theorem z8j8:T805 15 = .pure cOgs:=by simp [T805]
theorem zpyp:T805 17 = .pure cSOr:=by simp [T805]
theorem zf15:T805 22 = .pure cBy:=by simp [T805]
theorem z2bh:T805 23 = .pure cByR:=by simp [T805]
theorem zgk6:T805 14 = .pure cAw:=by simp [T805]
theorem zvqd:T805.Sound P:=z0rp z1ow (z0rp zt30 (z0rp zl6h (z0rp z0mf (z0rp zvej (z0rp zvwe (z0rp zhf5 (z0rp z53h (z0rp zg7u (z0rp zqjg (z0rp z5bk zr5o))))))))))
theorem zc2w {h:List AObj} {id:Nat} {q:Req} {n:Int}:zy6o h id 1 0 (.int .i64 n) (some (rqC q))=some (.junk,h.set id (.cells (rqC { q with kind:=n }))):=by rw [zltg rfl rfl (by rw [zzeg]; decide)]; rfl
def RawT:ACode:=match a3.code with
 | .seq _ (.seq _ (.seq _ (.seq _ y)))=>y
 | _ => .skip
theorem zl93 (c:Cas) (o:Org) (q:Req) (l:Sl Dg) (f:Int) (s:CaRw c) :
  V P 0 RawT (retK a3.res (.bool true)) ⟨[.junk,.junk,.junk,l.dv 32 dgC,.int .i64 f,.mp 0 36 0,.mp 1 34 0,.mp 2 4 0,.junk,.junk,.bool false,(zz6h c.f.l).dv 34 orC]++js 56,[.cells (caC c),.cells (orC o),.cells (rqC q)]⟩:=by
 have k1:=z1u0 (c:=c) (o:=o) (q:=q) fun h=>ztgf s s.f h
 have k2:=z776 (c:=c) (o:=o) (q:=q) fun h=>zx8u s h (zne0 s)
 have k3:=z2c9 (zrjr (c:=c) (o:=o) (q:=q) (zne0 s) (zs7a s))
 have k4:=zudh (c:=c) (by have:=s.f; omega)
 have k5:=zcdg (x:=zz6h c.f.l) (y:=zz6h c.f.l) rfl
 have k6:cByR [.agg (caC c),.agg (orC o),.agg (rqC q),l.dv 32 dgC]=some (.bool (ByS c o q l.l)):=by
  rw [zach fun h=>⟨by have:=s.f; omega,zs7a s,fun y h1 h2=>zx8u s h ⟨by have:=s.f; omega,fun f hf=>by have:=s.d f (h1 f hf); omega⟩⟩,zpks (zne0 s) (zs7a s)]
 have k7:=z33l (c:=c) (o:=o) (q:=q) (docs:=l) fun h=>zxz7 s h
 obtain ⟨A,hA⟩ : ∃ A,zwwp c o q=A:=⟨_,rfl⟩
 obtain ⟨B,hB⟩ : ∃ B,ze4s c o q=B:=⟨_,rfl⟩
 obtain ⟨O,hO⟩ : ∃ O,zz6h c.f.l=O:=⟨_,rfl⟩
 obtain ⟨R,hR⟩ : ∃ R,ByS c o q l.l=R:=⟨_,rfl⟩
 rw [hA] at k1 k3
 rw [hB] at k2 k3
 rw [hO] at k4 k5 ⊢
 rw [hR] at k6 k7
 simp only [RawT,a3]
 refine V_W mix zvqd ?_
 cases R with
 | true=>simp (disch:=first|omega|simp<;>omega|fail) [-zA,-zB,-zC,-zD,-zE,zpim,zstt,zv75,zup2,z8j8,zpyp,zf15,z2bh,zgk6,k1,k2,k3,k4,k5,k6,k7,zths]
 | false=>simp (disch:=first|omega|simp<;>omega|fail) [-zA,-zB,-zC,-zD,-zE,zpim,zstt,zv75,zup2,z8j8,zpyp,zf15,z2bh,zgk6,k1,k2,k3,k4,k5,k6,k7,zths]
theorem zmmj (c:Cas) (o:Org) (q:Req) (l:Sl Dg) (f:Int) (hm : ∀ f ∈ c.n.l,f.dd.l.length≤40000) :
  V P 0 a3.code (retK a3.res (.bool true)) ⟨zr5g a3.ntmps [.agg (caC c),.agg (orC o),.agg (rqC q),l.dv 32 dgC,.int .i64 f],[]⟩:=by
 have hlb:=l.b
 have hll : ∀ H,lenD H (l.dv 32 dgC)=some (.int .i64 l.l.length):=fun H=>zupj
 have tail:=fun (h:fewB c=true) o' q'=>zl93 c o' q' l f (zgwx h hm)
 simp only [RawT,a3] at tail
 refine zbn1 (V_W mix zvqd ?_)
 simp (disch:=first|omega|simp<;>omega|fail) [-zA,-zB,-zC,-zD,-zE,a3]
 refine zbn1 (V_W mix zvqd ?_)
 cases hf:fewB c with
 | false=>simp (disch:=first|omega|simp<;>omega|fail) [-zA,-zB,-zC,-zD,-zE,zxtz,zg6s,hf,zgk6,zths]
 | true =>
 have s:=zgwx hf hm
 have k4:=zudh (c:=c) (by have:=s.f; omega)
 have p3:=zo5r (l:=c.f.l) (by have:=s.f; omega)
 have tail:=tail hf
 obtain ⟨O,hO⟩ : ∃ O,zz6h c.f.l=O:=⟨_,rfl⟩
 rw [hO] at k4 p3
 simp only [hO] at tail
 have hOb:=O.b
 have hlO : ∀ H,lenD H (O.dv 34 orC)=some (.int .i64 O.l.length):=fun H=>zupj
 by_cases h3:30<l.l.length
 ·have h3':(30:Int)<l.l.length:=by omega
  simp (disch:=first|omega|simp<;>omega|fail) [-zA,-zB,-zC,-zD,-zE,zxtz,zg6s,hf,zgk6,zths,hll,h3,h3']
 have h3':¬ (30:Int)<l.l.length:=by omega
 simp (disch:=first|omega|simp<;>omega|fail) [-zA,-zB,-zC,-zD,-zE,zxtz,zg6s,hf,hll,h3,h3']
 refine zbn1 (V_W mix zvqd ?_)
 simp (disch:=first|omega|simp<;>omega|fail) [-zA,-zB,-zC,-zD,-zE,z8j8,k4]
 refine zbn1 (V_W mix zvqd ?_)
 by_cases hg:0≤f
 ·have hn0:¬ (O.l.length:Int)=0:=by omega
  obtain ⟨k,hk,hkk⟩ : ∃ k:Nat,k<O.l.length∧f.tmod (O.l.length:Int)=k:=by
   have h1:=Int.tmod_eq_emod_of_nonneg (b:=(O.l.length:Int)) hg
   have h2:=Int.emod_nonneg f hn0
   have h4:=Int.emod_lt_of_pos f (show (0:Int)<O.l.length by omega)
   exact ⟨(f.tmod (O.l.length:Int)).toNat,by omega,by omega⟩
  have hi : ∀ H,zpsc H 34 (O.dv 34 orC) k=some (.ref (orC O.l[k])):=fun H=>zalo zu78 hk
  have w1:=zcb9 (n:=q.kind) (k:=8) (by omega) (by omega)
  have hu:0≤q.kind % 8∧q.kind % 8<8:=by omega
  obtain ⟨u,hu1⟩ : ∃ u,q.kind % 8=u:=⟨_,rfl⟩
  rw [hu1] at w1 hu
  have wu:IntKind.i64.wrap (1+u)=1+u:=by rw [IntKind.wrap_i64]; omega
  obtain ⟨y,hy⟩ : ∃ y,O.l[k]=y:=⟨_,rfl⟩
  rw [hy] at hi
  have hl1:=zu78 o
  simp (disch:=first|omega|simp<;>omega|fail) [-zA,-zB,-zC,-zD,-zE,hg,hlO,hn0,hkk,hi,zp1k,w1,wu,zc2w,-Int.tmod_eq_emod_of_nonneg]
  exact zqfd (z515 (by simp (disch:=first|omega|simp<;>omega|fail) [-zA,-zB,-zC,-zD,-zE]) (by simp (disch:=first|omega|simp<;>omega|fail) [-zA,-zB,-zC,-zD,-zE])) (tail y { q with kind:=1+u })
 ·simp (disch:=first|omega|simp<;>omega|fail) [-zA,-zB,-zC,-zD,-zE,hg]
  exact zqfd (z515 (by simp (disch:=first|omega|simp<;>omega|fail) [-zA,-zB,-zC,-zD,-zE]) (by simp (disch:=first|omega|simp<;>omega|fail) [-zA,-zB,-zC,-zD,-zE])) (tail o q)
namespace requirementRaw
theorem law_holds (dvs) (h:Ty.Args [yCa,yOr,yRq,.sl yDg,.int .i64] dvs) (hM:z1t3 dvs≤1048576):Am.Sem P 3 dvs (.bool true):=by
 obtain ⟨d1,l1,rfl,h1,d2,l2,rfl,h2,d3,l3,rfl,h3,d4,l4,rfl,h4,d5,l5,rfl,h5,rfl⟩:=h
 simp only [z1t3] at hM
 obtain ⟨c,hm,rfl⟩:=okCa h1 (by simp only [Ty.dv,dvSz] at hM; omega)
 obtain ⟨o,rfl⟩:=okOr h2
 obtain ⟨q,rfl⟩:=okRq h3
 have h4b:z1t3 d4≤1048576:=by
  have h4':=h4
  simp only [Ty.Ok] at h4'
  rcases h4' with rfl|⟨gs,rfl,_⟩
  ·simp [z1t3,dvSz]
  ·simp only [Ty.dv,List.headD_cons] at hM
   simp only [z1t3,Nat.add_zero]; omega
 obtain ⟨l,_,rfl⟩:=okDs h4 h4b
 obtain ⟨f,_,rfl⟩:=zrcx h5
 exact znz9 Tryz.func3 z842 (zmmj c o q l f hm)
end requirementRaw
end Go.Proofs.YtdnhbfmlklaldaaGreat
