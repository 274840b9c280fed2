import Derived.Test.YtaihpefemjlilaaGreatDoorC4bb2b95d
import Derived.Test.YtaihpefemjlilaaGreatDoorC1b265590
import Derived.Test.YtaihpefemjlilaaGreatDoorC2ceefa77
import Derived.Test.YtaihpefemjlilaaGreatDoorC3c839cb1
import Derived.Test.YtaihpefemjlilaaGreatDoorCd734b161
set_option linter.unusedSimpArgs false
set_option linter.unusedVariables false
set_option maxRecDepth 20000
set_option maxHeartbeats 4000000
open List renaming map_take → zA, map_drop → zB, map_set → zC, map_append → zD, drop_one → zE
open Int renaming toNat_natCast → y01, toNat_of_nonneg → y06, tmod_eq_emod_of_nonneg → y0c
open List renaming getElem?_eq_getElem → y00, getD_eq_getElem?_getD → y02, take_of_length_le → y04, getElem_mem → y05, getElem_append_left → y07, take_succ_eq_append_getElem → y08, map_cons → y09, length_map → y0a, set_append_right → y0b, length_pos_iff → y0d, getElem_append_right → y0e, pairwise_iff_getElem → y0f, mem_cons → y0g, length_filter_le → y0i, getElem_of_mem → y0j, dropWhile_cons → y0k, takeWhile_cons → y0l, length_append → y0m, drop_eq_getElem_cons → y0n, getElem?_eq_none_iff → y0o, map_nil → y0p, length_nil → y0r, map_append → y0s, getElem_cons_zero → y0u, pairwise_append → y0v, reverse_append → y0w
open Nat renaming le_refl → y03, sub_self → y0q, add_mul → y0t
open Option renaming getD_some → y0h
namespace Go.Proofs.YtaihpefemjlilaaGreatDoor
open Go Go.Am
open Option renaming none → yg, some → yh
open AOp renaming mov → qA, pick → qB, bin → qC, eqa → qD, eqb → qE, eqn → qF, un → qG, load → qH, store → qI, idxS → qJ, idxA → qK, fld → qL, getf → qM, idxV → qN, idxStr → qO, slcS → qP, slcStr → qQ, alloc → qR, box → qS, build → qT, bsl → qU, len → qV, lenStr → qW, app → qX, cpy → qY, apart → qZ, nilc → qd, ext → qe, call → qf, callN → qg, callT → qh, mm → qi
open ACode renaming skip → qj, region → qk, seq → ql, cond → qm, block → qn, loop → qo, exit → qp, ret → qq
@[simp] def yz50:List DV:=[(.int .i64 0),(.int .i64 0),(w8 0#8),(w8 0#8),(w8 0#8),(w8 0#8),(w8 0#8),(w8 0#8),(w8 0#8),(w8 0#8),(w8 0#8),(w8 0#8),(w8 0#8),(w8 0#8),(w8 0#8),(w8 0#8),(w8 0#8),(w8 0#8),(w8 0#8),(w8 0#8),(w8 0#8),(w8 0#8),(w8 0#8),(w8 0#8),(w8 0#8),(w8 0#8),(w8 0#8),(w8 0#8),(w8 0#8),(w8 0#8),(w8 0#8),(w8 0#8),(w8 0#8),(w8 0#8),(.int .i64 0),(.int .i64 0),(.int .i64 0)]
section
def S120 (x:Sl Dg) (d:Dg) (i:Nat):St:=zudq (x.dv 32 dgC) (.mp 0 32 0) (.int .i64 i) [.cells (dgC d)]
theorem zfg2 (x:Sl Dg) (d:Dg):Runs tbl0 a50 [x.dv 32 dgC,.agg (dgC d)] (hasB x d):=by
 refine ⟨?_⟩;have n:=x.b;simp (disch:=first|omega|simp<;>omega|fail) [-zE,a50];refine zlm5 (S120 x d) (fun i=>x.l.length-i) (fun i=>i≤x.l.length ∧ ∀ j (a:j<x.l.length),j<i→¬ x.l[j]=d) 0 (yWS (by simp [-zE])) ⟨by omega,fun j _ a=>by omega⟩ (fun i hi => ?_)
 obtain ⟨m,g⟩:=hi;simp (disch:=first|omega|simp<;>omega|fail) [-zE,z5j4,zudq,S120];by_cases h:i<x.l.length
 ·have f:(i:Int)<x.l.length:=by omega
  have k : ∀ H,zpsc H 32 (x.dv 32 dgC) i=some (.ref (dgC x.l[i])):=fun H=>zalo z1t1 h
  by_cases e:x.l[i]=d
  ·have c:d ∈ x.l:=e▸y05 h;simp (disch:=first|omega|simp<;>omega|fail) [-zE,f,h,k,e,hasB,c]
  ·simp (disch:=first|omega|simp<;>omega|fail) [-zE,f,h,k,e];refine ⟨i+1,yWS (by simp [-zE]),by omega,by omega,fun j a hji => ?_⟩
   by_cases ej:j=i
   ·subst ej; exact e
   ·exact g j a (by omega)
 ·have f:¬ (i:Int)<x.l.length:=by omega
  have c:¬ d ∈ x.l:=fun c=>by
   obtain ⟨j,a,e⟩:=y0j c;exact g j a (by omega) e
  simp (disch:=first|omega|simp<;>omega|fail) [-zE,h,f,hasB,c]
theorem zs8z (t:Int):Runs tbl0 a96 [.int .i64 t] (.bool (tv (zcie t))):=by
 refine ⟨?_⟩;by_cases h0:0≤t
 ·by_cases h1:t≤1099511627776
  ·simp (disch:=first|omega|simp<;>omega|fail) [-zE,a96,h0,h1,zogs (show zcie t from ⟨h0,h1⟩)]
  ·simp (disch:=first|omega|simp<;>omega|fail) [-zE,a96,h0,h1,zewf (show ¬ zcie t from fun h=>h1 h.2)]
 ·simp (disch:=first|omega|simp<;>omega|fail) [-zE,a96,h0,zewf (show ¬ zcie t from fun h=>h0 h.1)]
noncomputable def T120:Tbl:=addT 95 (.pure (cS za1j)) (addT 50 (.pure (cDgs hasB)) (addT 96 (.pure cTm) tbl0))
theorem z21x:T120 95 = .pure (cS za1j):=by simp [T120]
theorem znjh:T120 50 = .pure (cDgs hasB):=by simp [T120]
theorem znpa:T120 96 = .pure cTm:=by simp [T120]
theorem zp0j:T120.Sound P:=z0rp (zzn8 fun s=>zljw mix zfxp Tryz.func95 z4uo (z80k s)) (z0rp (z2au fun p _=>zljw mix zr5o Tryz.func50 z12y (zfg2 p.1 p.2)) (z0rp (zayt fun t=>zljw mix zr5o Tryz.func96 z54d (zs8z t)) zr5o))
def S121 (c:Clu) (ns im:List UInt8) (i:Nat):St:=zw1i (.str ns) (.str im) (.mp 0 3 0) (.int .i64 i) [.cells (clC c)]
theorem zfav (c:Clu) (ns im:List UInt8):Runs tbl0 a60 [.agg (clC c),.str ns,.str im] (grpD c ns im):=by
 refine ⟨?_⟩;have m:=c.g.b;simp (disch:=first|omega|simp<;>omega|fail) [-zE,a60];refine zlm5 (S121 c ns im) (fun i=>c.g.l.length-i) (fun i=>i≤c.g.l.length ∧ ∀ j (hj:j<c.g.l.length),j<i→fitG ns im c.g.l[j]=false) 0 (yWS (by simp [-zE])) ⟨by omega,fun j _ hj=>by omega⟩ (fun i hi => ?_)
 obtain ⟨k,d⟩:=hi;simp (disch:=first|omega|simp<;>omega|fail) [-zE,zm5a,zw1i,S121];by_cases h:i<c.g.l.length
 ·have a:(i:Int)<c.g.l.length:=by omega
  have e : ∀ H,zpsc H 6 (c.g.dv 6 grC) i=some (.ref (grC c.g.l[i])):=fun H=>zalo zry4 h
  by_cases e1:c.g.l[i].ns=ns
  ·by_cases e2:c.g.l[i].im=im
   ·have f:z9w0 c.g.l ns im=i:=zy9u h (by simp [fitG,e1,e2]) d
    simp (disch:=first|omega|simp<;>omega|fail) [-zE,a,h,e,e1,e2,grpD,f]
   ·simp (disch:=first|omega|simp<;>omega|fail) [-zE,a,h,e,e1,e2];refine ⟨i+1,yWS (by simp [-zE]),by omega,by omega,fun j hj hji => ?_⟩
    by_cases ej:j=i
    ·subst ej; simp [fitG,e2]
    ·exact d j hj (by omega)
  ·simp (disch:=first|omega|simp<;>omega|fail) [-zE,a,h,e,e1];refine ⟨i+1,yWS (by simp [-zE]),by omega,by omega,fun j hj hji => ?_⟩
   by_cases ej:j=i
   ·subst ej; simp [fitG,e1]
   ·exact d j hj (by omega)
 ·have a:¬ (i:Int)<c.g.l.length:=by omega
  have f:z9w0 c.g.l ns im = -1:=zfki (fun j hj=>d j hj (by omega))
  simp (disch:=first|omega|simp<;>omega|fail) [-zE,h,a,grpD,f]
def S122 (c:Clu) (id:Int) (i:Nat):St:=zd5d (.int .i64 id) (.mp 0 3 0) (.int .i64 i) [.cells (clC c)]
theorem z9e4 (c:Clu) (id:Int):Runs tbl0 a30 [.agg (clC c),.int .i64 id] (.int .i64 (z092 c.i.l id)):=by
 refine ⟨?_⟩;have m:=c.i.b;simp (disch:=first|omega|simp<;>omega|fail) [-zE,a30];refine zlm5 (S122 c id) (fun i=>c.i.l.length-i) (fun i=>i≤c.i.l.length ∧ ∀ j (hj:j<c.i.l.length),j<i→decide (c.i.l[j].id=id)=false) 0 (yWS (by simp [-zE])) ⟨by omega,fun j _ hj=>by omega⟩ (fun i hi => ?_)
 obtain ⟨k,d⟩:=hi;simp (disch:=first|omega|simp<;>omega|fail) [-zE,zk9n,zd5d,S122];by_cases h:i<c.i.l.length
 ·have a:(i:Int)<c.i.l.length:=by omega
  have g : ∀ H,zpsc H 37 (c.i.dv 37 inC) i=some (.ref (inC c.i.l[i])):=fun H=>zalo z6gw h
  by_cases e:c.i.l[i].id=id
  ·have f:z092 c.i.l id=i:=zy9u h (by simp [e]) d
   simp (disch:=first|omega|simp<;>omega|fail) [-zE,a,h,g,e,f]
  ·simp (disch:=first|omega|simp<;>omega|fail) [-zE,a,h,g,e];refine ⟨i+1,yWS (by simp [-zE]),by omega,by omega,fun j hj hji => ?_⟩
   by_cases ej:j=i
   ·subst ej; exact e
   ·simpa using d j hj (by omega)
 ·have a:¬ (i:Int)<c.i.l.length:=by omega
  have f:z092 c.i.l id = -1:=zfki (fun j hj=>d j hj (by omega))
  simp (disch:=first|omega|simp<;>omega|fail) [-zE,h,a,f]
theorem z2ge (c:Clu) (x:Ins):Runs T120 a61 [.agg (clC c),.agg (inC x)] (zmtb c x):=by
 refine ⟨?_⟩;by_cases k0:1≤x.id
 case neg =>
  have a:¬ SoundI c.g.l.length c.next x:=fun h=>k0 h.id0
  simp (disch:=first|omega|simp<;>omega|fail) [-zE,a61,znpa,zixp,zmtb,zewf a,k0]
 by_cases k1:x.id<c.next
 case neg =>
  have a:¬ SoundI c.g.l.length c.next x:=fun h=>k1 h.id1
  simp (disch:=first|omega|simp<;>omega|fail) [-zE,a61,znpa,zixp,zmtb,zewf a,k0,k1]
 by_cases k2:0≤x.grp
 case neg =>
  have a:¬ SoundI c.g.l.length c.next x:=fun h=>k2 h.g0
  simp (disch:=first|omega|simp<;>omega|fail) [-zE,a61,znpa,zixp,zmtb,zewf a,k0,k1,k2]
 by_cases k3:x.grp<c.g.l.length
 case neg =>
  have a:¬ SoundI c.g.l.length c.next x:=fun h=>k3 h.g1
  simp (disch:=first|omega|simp<;>omega|fail) [-zE,a61,znpa,zixp,zmtb,zewf a,k0,k1,k2,k3]
 by_cases b:¬ x.art=dg0
 case neg =>
  have b:x.art=dg0:=Classical.not_not.1 b;have a:¬ SoundI c.g.l.length c.next x:=fun h=>h.art b
  simp (disch:=first|omega|simp<;>omega|fail) [-zE,a61,znpa,zixp,zmtb,zewf a,k0,k1,k2,k3,b]
 by_cases k5:1≤x.state
 case neg =>
  have a:¬ SoundI c.g.l.length c.next x:=fun h=>k5 h.s0
  simp (disch:=first|omega|simp<;>omega|fail) [-zE,a61,znpa,zixp,zmtb,zewf a,k0,k1,k2,k3,b,k5]
 by_cases k6:x.state≤3
 case neg =>
  have a:¬ SoundI c.g.l.length c.next x:=fun h=>k6 h.s1
  simp (disch:=first|omega|simp<;>omega|fail) [-zE,a61,znpa,zixp,zmtb,zewf a,k0,k1,k2,k3,b,k5,k6]
 by_cases k7:zcie x.since
 case neg =>
  have a:¬ SoundI c.g.l.length c.next x:=fun h=>k7 h.si
  simp (disch:=first|omega|simp<;>omega|fail) [-zE,a61,znpa,zixp,zmtb,zewf a,k0,k1,k2,k3,b,k5,k6,zewf k7]
 by_cases k8 : -1≤x.den
 case neg =>
  have a:¬ SoundI c.g.l.length c.next x:=fun h=>by rcases h.de with h|h<;>omega
  simp (disch:=first|omega|simp<;>omega|fail) [-zE,a61,znpa,zixp,zmtb,zewf a,k0,k1,k2,k3,b,k5,k6,zogs k7,k8]
 by_cases k9:x.den≤1099511627776
 ·have d:SoundI c.g.l.length c.next x:=⟨k0,k1,k2,k3,b,k5,k6,k7,by
   by_cases h:x.den = -1
   ·exact .inl h
   ·exact .inr ⟨by omega,k9⟩⟩
  simp (disch:=first|omega|simp<;>omega|fail) [-zE,a61,znpa,zixp,zmtb,zogs d,k0,k1,k2,k3,b,k5,k6,zogs k7,k8,k9]
 ·have a:¬ SoundI c.g.l.length c.next x:=fun h=>by rcases h.de with h|h<;>omega
  simp (disch:=first|omega|simp<;>omega|fail) [-zE,a61,znpa,zixp,zmtb,zewf a,k0,k1,k2,k3,b,k5,k6,zogs k7,k8,k9]
def S123 (g:Grp) (i:Nat):St:=zrp1 (.mp 0 6 0) (.int .i64 i) [.cells (grC g)]
theorem zwe9 (g:Grp):Runs T120 a59 [.agg (grC g)] (zoy9 g):=by
 refine ⟨?_⟩;have z:=g.ch.b;by_cases k:zj1f g.ns=true
 case neg =>
  have a:¬ ValidG g:=fun h=>k h.ns
  have k:zj1f g.ns=false:=by simpa using k
  simp (disch:=first|omega|simp<;>omega|fail) [-zE,a59,z21x,zk5k,za1j,zoy9,zewf a,k]
 by_cases m:zj1f g.im=true
 case neg =>
  have a:¬ ValidG g:=fun h=>m h.im
  have m:zj1f g.im=false:=by simpa using m
  simp (disch:=first|omega|simp<;>omega|fail) [-zE,a59,z21x,zk5k,za1j,zoy9,zewf a,k,m]
 by_cases k2:0≤g.want
 case neg =>
  have a:¬ ValidG g:=fun h=>k2 h.w0
  have c:g.want<0:=by omega
  simp (disch:=first|omega|simp<;>omega|fail) [-zE,a59,z21x,zk5k,za1j,zoy9,zewf a,k,m,k2,c]
 have c:¬ g.want<0:=by omega
 by_cases k3:g.want≤8
 case neg =>
  have a:¬ ValidG g:=fun h=>k3 h.w1
  have d:8<g.want:=by omega
  simp (disch:=first|omega|simp<;>omega|fail) [-zE,a59,z21x,zk5k,za1j,zoy9,zewf a,k,m,k2,c,k3,d]
 have d:¬ 8<g.want:=by omega
 by_cases k4:0≤g.least
 case neg =>
  have a:¬ ValidG g:=fun h=>k4 h.l0
  have f:g.least<0:=by omega
  simp (disch:=first|omega|simp<;>omega|fail) [-zE,a59,z21x,zk5k,za1j,zoy9,zewf a,k,m,k2,c,k3,d,k4,f]
 have f:¬ g.least<0:=by omega
 by_cases k5:g.least≤g.want
 case neg =>
  have a:¬ ValidG g:=fun h=>k5 h.l1
  have o:g.want<g.least:=by omega
  simp (disch:=first|omega|simp<;>omega|fail) [-zE,a59,z21x,zk5k,za1j,zoy9,zewf a,k,m,k2,c,k3,d,k4,f,k5,o]
 have o:¬ g.want<g.least:=by omega
 by_cases k6:0≤g.down
 case neg =>
  have a:¬ ValidG g:=fun h=>k6 h.d0
  have p:g.down<0:=by omega
  simp (disch:=first|omega|simp<;>omega|fail) [-zE,a59,z21x,zk5k,za1j,zoy9,zewf a,k,m,k2,c,k3,d,k4,f,k5,o,k6,p]
 have p:¬ g.down<0:=by omega
 by_cases k7:g.down≤g.want
 case neg =>
  have a:¬ ValidG g:=fun h=>k7 h.d1
  have r:g.want<g.down:=by omega
  simp (disch:=first|omega|simp<;>omega|fail) [-zE,a59,z21x,zk5k,za1j,zoy9,zewf a,k,m,k2,c,k3,d,k4,f,k5,o,k6,p,k7,r]
 have r:¬ g.want<g.down:=by omega
 by_cases k8:g.ch.l.length≤6
 case neg =>
  have a:¬ ValidG g:=fun h=>k8 h.n
  have s:¬ (g.ch.l.length:Int)≤6:=by omega
  have q:(6:Int)<g.ch.l.length:=by omega
  simp (disch:=first|omega|simp<;>omega|fail) [-zE,a59,z21x,zk5k,za1j,zoy9,zewf a,k,m,k2,c,k3,d,k4,f,k5,o,k6,p,k7,r,k8,s,q]
 have s:(g.ch.l.length:Int)≤6:=by omega
 have q:¬ (6:Int)<g.ch.l.length:=by omega
 simp (disch:=first|omega|simp<;>omega|fail) [-zE,a59,z21x,zk5k,za1j,k,m,k2,c,k3,d,k4,f,k5,o,k6,p,k7,r,k8,s,q];refine zlm5 (S123 g) (fun i=>g.ch.l.length-i) (fun i=>i≤g.ch.l.length ∧ ∀ j (hj:j<g.ch.l.length),j<i→g.ch.l[j]≠dg0∧g.ch.l[j] ∉ g.ch.l.take j) 0 (yWS (by simp [-zE])) ⟨by omega,fun j _ hj=>by omega⟩ (fun i hi => ?_)
 obtain ⟨y,w⟩:=hi;simp (disch:=first|omega|simp<;>omega|fail) [-zE,zor5,zrp1,S123];by_cases h:i<g.ch.l.length
 ·have t:(i:Int)<g.ch.l.length:=by omega
  have v : ∀ H,zpsc H 32 (g.ch.dv 32 dgC) i=some (.ref (dgC g.ch.l[i])):=fun H=>zalo z1t1 h
  have u : ∀ H,z390 H 32 (g.ch.dv 32 dgC) none (some (.int .i64 i)) none=some ((g.ch.part 0 i (i == g.ch.l.length)).dv 32 dgC):=fun H=>z78j z1t1 (by omega)
  by_cases e:g.ch.l[i]=dg0
  ·have a:¬ ValidG g:=fun hv=>(hv.ch i h).1 e
   simp (disch:=first|omega|simp<;>omega|fail) [-zE,t,h,v,e,zoy9,zewf a]
  ·by_cases e2:g.ch.l[i] ∈ g.ch.l.take i
   ·have a:¬ ValidG g:=fun hv=>(hv.ch i h).2 e2
    simp (disch:=first|omega|simp<;>omega|fail) [-zE,t,h,v,u,e,znjh,ztlh,hasB,zuuc,e2,zoy9,zewf a]
   ·simp (disch:=first|omega|simp<;>omega|fail) [-zE,t,h,v,u,e,znjh,ztlh,hasB,zuuc,e2];refine ⟨i+1,yWS (by simp [-zE]),by omega,by omega,fun j hj hji => ?_⟩
    by_cases ej:j=i
    ·subst ej; exact ⟨e,e2⟩
    ·exact w j hj (by omega)
 ·have t:¬ (i:Int)<g.ch.l.length:=by omega
  have x:ValidG g:=⟨k,m,k2,k3,k4,k5,k6,k7,k8,fun j hj=>w j hj (by omega)⟩
  simp (disch:=first|omega|simp<;>omega|fail) [-zE,h,t,zoy9,zogs x]
noncomputable def T121:Tbl:=addT 59 (.pure (cG1 zoy9)) (addT 60 (.pure (cCSS grpD)) (addT 61 (.pure (cCI zmtb)) tbl0))
theorem zwai:T121 59 = .pure (cG1 zoy9):=by simp [T121]
theorem zcuh:T121 60 = .pure (cCSS grpD):=by simp [T121]
theorem zxwq:T121 61 = .pure (cCI zmtb):=by simp [T121]
theorem zwqh:T121.Sound P:=z0rp (z2au fun x _=>zljw mix zp0j Tryz.func59 zwsz (zwe9 x)) (z0rp (z2au fun x _=>zljw mix zr5o Tryz.func60 z6e9 (zfav x.1 x.2.1 x.2.2)) (z0rp (z2au fun x _=>zljw mix zp0j Tryz.func61 zuuw (z2ge x.1 x.2)) zr5o))
def S124 (c:Clu) (i:Nat):St:=z4rh (.mp 0 3 0) (.int .i64 i) [.cells (clC c)]
def S125 (c:Clu) (i:Nat):St:=zk3w (.mp 0 3 0) (.int .i64 i) [.cells (clC c)]
theorem zkeg (c:Clu):Runs T121 a29 [.agg (clC c)] (zwdn c):=by
 refine ⟨?_⟩;have s:=c.g.b;have t:=c.i.b;by_cases k0:(16:Int)<c.g.l.length
 ·have a:¬ ValidC c:=fun h=>by have:=h.ng; omega
  simp (disch:=first|omega|simp<;>omega|fail) [-zE,a29,k0,zwdn,zewf a]
 by_cases k1:(200:Int)<c.i.l.length
 ·have a:¬ ValidC c:=fun h=>by have:=h.ni; omega
  simp (disch:=first|omega|simp<;>omega|fail) [-zE,a29,k0,k1,zwdn,zewf a]
 by_cases k2:c.next<1
 ·have a:¬ ValidC c:=fun h=>by have:=h.n0; omega
  simp (disch:=first|omega|simp<;>omega|fail) [-zE,a29,k0,k1,k2,zwdn,zewf a]
 by_cases k3:1099511627776<c.next
 ·have a:¬ ValidC c:=fun h=>by have:=h.n1; omega
  simp (disch:=first|omega|simp<;>omega|fail) [-zE,a29,k0,k1,k2,k3,zwdn,zewf a]
 simp (disch:=first|omega|simp<;>omega|fail) [-zE,a29,k0,k1,k2,k3];refine zlm5 (S124 c) (fun i=>c.g.l.length-i) (fun i=>i≤c.g.l.length ∧ ∀ j (hj:j<c.g.l.length),j<i→ValidG c.g.l[j]∧z9w0 c.g.l c.g.l[j].ns c.g.l[j].im=j) 0 (yWS (by simp [-zE])) ⟨by omega,fun j _ hj=>by omega⟩ (fun i hi => ?_)
 obtain ⟨q,n⟩:=hi;simp (disch:=first|omega|simp<;>omega|fail) [-zE,zpik,z4rh,S124];by_cases h:i<c.g.l.length
 ·have f:(i:Int)<c.g.l.length:=by omega
  have m : ∀ H,zpsc H 6 (c.g.dv 6 grC) i=some (.ref (grC c.g.l[i])):=fun H=>zalo zry4 h
  by_cases e:ValidG c.g.l[i]
  ·by_cases e2:z9w0 c.g.l c.g.l[i].ns c.g.l[i].im=i
   ·simp (disch:=first|omega|simp<;>omega|fail) [-zE,f,h,m,zwai,zoex,zoy9,zogs e,zcuh,zojl,grpD,e2];refine ⟨i+1,yWS (by simp [-zE]),by omega,by omega,fun j hj hji => ?_⟩
    by_cases ej:j=i
    ·subst ej; exact ⟨e,e2⟩
    ·exact n j hj (by omega)
   ·have a:¬ ValidC c:=fun hv=>e2 (hv.g i h).2
    simp (disch:=first|omega|simp<;>omega|fail) [-zE,f,h,m,zwai,zoex,zoy9,zogs e,zcuh,zojl,grpD,e2,zwdn,zewf a]
  ·have a:¬ ValidC c:=fun hv=>e (hv.g i h).1
   simp (disch:=first|omega|simp<;>omega|fail) [-zE,f,h,m,zwai,zoex,zoy9,zewf e,zwdn,zewf a]
 have f:¬ (i:Int)<c.g.l.length:=by omega
 have r : ∀ j (hj:j<c.g.l.length),ValidG c.g.l[j]∧z9w0 c.g.l c.g.l[j].ns c.g.l[j].im=j:=fun j hj=>n j hj (by omega)
 simp (disch:=first|omega|simp<;>omega|fail) [-zE,h,f];refine zlm5 (S125 c) (fun i=>c.i.l.length-i) (fun i=>i≤c.i.l.length ∧ ∀ j (hj:j<c.i.l.length),j<i→SoundI c.g.l.length c.next c.i.l[j]∧(∀ h0:0<j,c.i.l[j-1].id<c.i.l[j].id)) 0 (yWS (by simp [-zE])) ⟨by omega,fun j _ hj=>by omega⟩ (fun i hi => ?_)
 obtain ⟨q,n⟩:=hi;simp (disch:=first|omega|simp<;>omega|fail) [-zE,zjn5,zk3w,S125];by_cases h:i<c.i.l.length
 ·have f:(i:Int)<c.i.l.length:=by omega
  have m : ∀ H,zpsc H 37 (c.i.dv 37 inC) i=some (.ref (inC c.i.l[i])):=fun H=>zalo z6gw h
  by_cases e:SoundI c.g.l.length c.next c.i.l[i]
  ·by_cases e0:i=0
   ·have k:¬ (0:Int)<i:=by omega
    have d:¬ 0<i:=by omega
    simp (disch:=first|omega|simp<;>omega|fail) [-zE,f,h,m,zxwq,ziv1,zmtb,zogs e,k,d];refine ⟨i+1,yWS (by simp [-zE]),by omega,by omega,fun j hj hji => ?_⟩
    obtain rfl:j=i:=by omega
    exact ⟨e,fun h0=>by omega⟩
   ·have k:(0:Int)<i:=by omega
    have d:0<i:=by omega
    have p:(i:Int)-1=(i-1:Nat):=by omega
    have o : ∀ H,zpsc H 37 (c.i.dv 37 inC) ((i-1:Nat):Int)=some (.ref (inC c.i.l[i-1])):=fun H=>zalo z6gw (by omega)
    by_cases e2:c.i.l[i].id≤c.i.l[i-1].id
    ·have a:¬ ValidC c:=fun hv=>by have:=(hv.i i h).2 (by omega); omega
     simp (disch:=first|omega|simp<;>omega|fail) [-zE,f,h,m,zxwq,ziv1,zmtb,zogs e,k,d,p,o,e2,zwdn,zewf a]
    ·simp (disch:=first|omega|simp<;>omega|fail) [-zE,f,h,m,zxwq,ziv1,zmtb,zogs e,k,d,p,o,e2];refine ⟨i+1,yWS (by simp [-zE]),by omega,by omega,fun j hj hji => ?_⟩
     by_cases ej:j=i
     ·subst ej; exact ⟨e,fun _=>by omega⟩
     ·exact n j hj (by omega)
  ·have a:¬ ValidC c:=fun hv=>e (hv.i i h).1
   simp (disch:=first|omega|simp<;>omega|fail) [-zE,f,h,m,zxwq,ziv1,zmtb,zewf e,zwdn,zewf a]
 ·have f:¬ (i:Int)<c.i.l.length:=by omega
  have u:ValidC c:=⟨by omega,by omega,by omega,by omega,r,fun j hj=>n j hj (by omega)⟩
  simp (disch:=first|omega|simp<;>omega|fail) [-zE,h,f,zwdn,zogs u]
end
section
def a13:AFn:=⟨(ql (yc [yR 4 (.int .i64 0)]) (ql (ql (yc [yL 6 1,⟨yg,yh 7,qC .lss (.t 6) (.k (.int .i64 1))⟩]) (yd 7 (ql (yc [yR 4 (.int .i64 0)]) qq) qj)) (ql (yc [yL 8 0,yT 9 8,yN 10 1 9,yM 11 1 false 10,⟨yg,yh 12,qC .mul (.t 11) (.k (.int .i64 7))⟩,⟨yg,yh 13,qC .add (.t 12) (.k (.int .i64 3))⟩,yL 5 13]) (ql (ql (qk true [yL 14 0,yT 15 14,yN 16 1 15,yM 17 1 false 16,yL 18 0,yT 19 18,yN 20 0 19,yM 21 1 false 20,yS 22 21,yO 23 .lss 17 22]) (yd 23 (qk true [yL 24 0,yT 25 24,yN 26 0 25,yM 27 1 false 26,yL 28 0,yT 29 28,yN 30 1 29,yM 31 1 false 30,yQ 32 1 27 31,yM 33 1 false 32,yL 5 33]) qj)) (ql (yc [yL 34 0,yT 35 34,yN 36 1 35,yM 37 1 false 36,⟨yg,yh 38,qC .add (.t 37) (.k (.int .i64 1))⟩,yT 39 34,yN 40 1 39,ya 1 40 38]) (ql (yc [yL 41 5,yL 42 1,yO 43 .rem 41 42,yL 44 1,yO 45 .add 43 44,yL 46 1,yO 47 .rem 45 46,yL 4 47]) qq)))))),48,[.tmp 4]⟩
theorem zm5y:zsjc P Tryz.f13=some a13:=by kernel_rfl
def a98:AFn:=⟨(ql (yc [yR 4 (.str [])]) (ql (yc [yL 5 1,yL 6 0,yL 7 1,yS 8 7,yU 9 13 [.t 6,.t 8],yQ 10 1 5 9,yM 11 1 false 10,yL 4 11]) qq)),12,[.tmp 4]⟩
theorem zg8b:zsjc P Tryz.f98=some a98:=by kernel_rfl
def a99:AFn:=⟨(ql (yc [⟨yg,yh 2,qR (rep 32 (w8 0#8))⟩]) (ql (yc [yL 3 0,yU 4 13 [.t 3,(.k (.int .i64 6))],⟨yg,yh 5,qC .add (.k (.int .i64 1)) (.t 4)⟩,⟨yg,yh 6,.conv .u8 (.t 5)⟩,⟨yg,yh 7,qT (rep 32 (w8 0#8)) [(0,1,(.t 6))]⟩,ya 32 2 7]) qq)),8,[.cell 2 32 true]⟩
theorem zcou:zsjc P Tryz.f99=some a99:=by kernel_rfl
def a37:AFn:=⟨(ql (yc [yR 4 .nilp]) (ql (yc [yL 5 0,yL 6 0,yS 7 6,yL 8 1,⟨yg,yh 9,qi false [.t 7,.t 8]⟩,⟨yg,yh 10,qP 1 (.t 5) yg (yh (.t 9)) yg⟩,⟨yg,yh 11,qT [.nils,(.int .i64 0)] [(0,1,(.t 10))]⟩,yZ 12 11,yL 4 12]) qq)),13,[.tmp 4]⟩
theorem z554:zsjc P Tryz.f37=some a37:=by kernel_rfl
def z6p4:ACode :=
 (.seq (.seq (.region false [⟨none,(some 31),.mov (.t 6)⟩,
  ⟨none,(some 32),.bin .geq (.t 31) (.k (.int .i64 0))⟩])
 (.cond (.t 32) .skip
 (.exit 0)))
 (.seq (.block 1 (.seq (.region false [⟨none,(some 35),.mov (.t 0)⟩,
  ⟨none,(some 36),.call (.k (.fn (.func 99) [] [])) [(.t 35)]⟩,
  ⟨none,(some 7),.alloc (rep 32 (w8 0#8))⟩,
  ⟨none,none,.store 32 (.t 7) (.t 36)⟩])
 (.seq (.seq (.region false [⟨none,(some 37),.mov (.t 1)⟩,
  ⟨none,(some 38),.len (.t 37)⟩,
  ⟨none,(some 39),.bin .gtr (.t 38) (.k (.int .i64 0))⟩,
  ⟨none,(some 40),.mov (.t 39)⟩,
  ⟨(some (40,true)),(some 41),.mov (.t 0)⟩,
  ⟨(some (40,true)),(some 42),.call (.k (.fn (.func 13) [] [])) [(.t 41),(.k (.int .i64 6))]⟩,
  ⟨(some (40,true)),(some 43),.bin .gtr (.t 42) (.k (.int .i64 0))⟩,
  ⟨none,(some 44),.pick (.t 40) (.t 43) (.k (.bool false))⟩])
 (.cond (.t 44) (.region false [⟨none,(some 45),.mov (.t 1)⟩,
  ⟨none,(some 46),.mov (.t 0)⟩,
  ⟨none,(some 47),.mov (.t 1)⟩,
  ⟨none,(some 48),.len (.t 47)⟩,
  ⟨none,(some 49),.call (.k (.fn (.func 13) [] [])) [(.t 46),(.t 48)]⟩,
  ⟨none,(some 50),.idxS 32 (.t 45) (.t 49)⟩,
  ⟨none,(some 51),.load 32 true (.t 50)⟩,
  ⟨none,none,.store 32 (.t 7) (.t 51)⟩])
 .skip))
 (.seq (.region false [⟨none,(some 52),.fld 5 (.t 5)⟩,
  ⟨none,(some 53),.load 1 false (.t 52)⟩,
  ⟨none,(some 54),.load 32 true (.t 7)⟩,
  ⟨none,(some 55),.call (.k (.fn (.func 50) [] [])) [(.t 53),(.t 54)]⟩,
  ⟨none,(some 56),.un .not (.t 55)⟩])
 (.cond (.t 56) (.region false [⟨none,(some 57),.fld 5 (.t 5)⟩,
  ⟨none,(some 58),.load 1 false (.t 57)⟩,
  ⟨none,(some 59),.load 32 true (.t 7)⟩,
  ⟨none,(some 60),.bsl 32 1 (rep 32 (w8 0#8)) [(0,32,(.t 59))]⟩,
  ⟨none,(some 61),.app 32 32 (.t 58) (.t 60)⟩,
  ⟨none,(some 62),.fld 5 (.t 5)⟩,
  ⟨none,none,.store 1 (.t 62) (.t 61)⟩])
 .skip)))))
 (.region false [⟨none,(some 33),.mov (.t 6)⟩,
  ⟨none,(some 34),.bin .sub (.t 33) (.k (.int .i64 1))⟩,
  ⟨none,(some 6),.mov (.t 34)⟩])))
def zgxj (x0 x1 x4 x5 x6:DV) (h:List AObj):St:=⟨[x0,x1,.junk,.junk,x4,x5,x6]++js 57,h⟩
def a66:AFn:=⟨(ql (yc [⟨yg,yh 4,qR [(.str []),(.str []),(.int .i64 0),(.int .i64 0),(.int .i64 0),.nils]⟩]) (ql (yc [yL 8 0,⟨yg,yh 9,qU 1 2 [(.str [])] [(0,1,(.k (.str [112,114,111,100]))),(1,1,(.k (.str [116,101,115,116])))]⟩,yU 10 98 [.t 8,.t 9],yL 11 0,⟨yg,yh 12,qU 1 2 [(.str [])] [(0,1,(.k (.str [119,101,98]))),(1,1,(.k (.str [100,98])))]⟩,yU 13 98 [.t 11,.t 12],yL 14 0,yU 15 13 [.t 14,(.k (.int .i64 4))],⟨yg,yh 16,qT [(.str []),(.str []),(.int .i64 0),(.int .i64 0),(.int .i64 0),.nils] [(0,1,(.t 10)),(1,1,(.t 13)),(2,1,(.t 15))]⟩,⟨yg,yh 5,qR [(.str []),(.str []),(.int .i64 0),(.int .i64 0),(.int .i64 0),.nils]⟩,ya 6 5 16]) (ql (qk true [yL 17 0,yN 18 2 5,yM 19 1 false 18,⟨yg,yh 20,qC .add (.t 19) (.k (.int .i64 1))⟩,⟨yg,yh 21,qh (.k (.fn (.func 13) [] [])) [.t 17,.t 20]⟩,yL 22 0,yN 23 2 5,yM 24 1 false 23,⟨yg,yh 25,qC .add (.t 24) (.k (.int .i64 1))⟩,⟨yg,yh 26,qh (.k (.fn (.func 13) [] [])) [.t 22,.t 25]⟩,yN 27 3 5,ya 1 27 21,yN 28 4 5,ya 1 28 26,⟨yg,yg,qZ (.t 5) (.t 17)⟩,⟨yg,yg,qZ (.t 23) (.t 17)⟩,⟨yg,yg,qZ (.t 5) (.t 22)⟩]) (ql (ql (yc [yL 29 0,yU 30 13 [.t 29,(.k (.int .i64 3))],yL 6 30]) (qn 0 (qo z6p4))) (ql (yc [yM 63 6 true 5,ya 6 4 63]) qq))))),64,[.cell 4 6 true]⟩
theorem z3a6:zsjc P Tryz.f66=some a66:=by kernel_rfl
def zy47:ACode :=
 (.seq (.seq (.region false [⟨none,(some 23),.mov (.t 7)⟩,
  ⟨none,(some 24),.bin .gtr (.t 23) (.k (.int .i64 0))⟩])
 (.cond (.t 24) .skip
 (.exit 0)))
 (.seq (.block 1 (.seq (.region true [⟨none,(some 28),.load 3 true (.t 6)⟩,
  ⟨none,(some 29),.mov (.t 0)⟩,
  ⟨none,(some 30),.mov (.t 5)⟩,
  ⟨none,(some 31),.callT (.k (.fn (.func 66) [] [])) [(.t 29),(.t 30)]⟩,
  ⟨none,(some 32),.callN (.k (.fn (.func 65) [] [])) [(.t 28),(.t 31)]⟩,
  ⟨none,(some 27),.mov (.t 32)⟩,
  ⟨none,(some 33),.ext (.t 27) 0⟩,
  ⟨none,(some 34),.ext (.t 27) 1⟩,
  ⟨none,(some 8),.alloc [.nils,.nils,(.int .i64 0)]⟩,
  ⟨none,none,.store 3 (.t 8) (.t 33)⟩,
  ⟨none,(some 9),.mov (.t 34)⟩,
  ⟨none,none,.apart (.t 6) (.t 29)⟩])
 (.seq (.region false [⟨none,(some 35),.mov (.t 9)⟩,
  ⟨none,(some 36),.bin .eql (.t 35) (.k (.int .i64 0))⟩])
 (.cond (.t 36) (.region false [⟨none,(some 37),.load 3 true (.t 8)⟩,
  ⟨none,none,.store 3 (.t 6) (.t 37)⟩])
 .skip))))
 (.region false [⟨none,(some 25),.mov (.t 7)⟩,
  ⟨none,(some 26),.bin .sub (.t 25) (.k (.int .i64 1))⟩,
  ⟨none,(some 7),.mov (.t 26)⟩])))
def zqr3 (x0 x1 x4 x5 x6 x7:DV) (h:List AObj):St:=⟨[x0,x1,.junk,.junk,x4,x5,x6,x7]++js 76,h⟩
def zwu9:ACode :=
 (.seq (.seq (.region false [⟨none,(some 42),.mov (.t 10)⟩,
  ⟨none,(some 43),.bin .gtr (.t 42) (.k (.int .i64 0))⟩])
 (.cond (.t 43) .skip
 (.exit 2)))
 (.seq (.block 3 (.seq (.region true [⟨none,(some 46),.fld 2 (.t 6)⟩,
  ⟨none,(some 47),.load 1 false (.t 46)⟩,
  ⟨none,(some 48),.mov (.t 0)⟩,
  ⟨none,(some 49),.fld 0 (.t 6)⟩,
  ⟨none,(some 50),.load 1 false (.t 49)⟩,
  ⟨none,(some 51),.len (.t 50)⟩,
  ⟨none,(some 52),.callT (.k (.fn (.func 13) [] [])) [(.t 48),(.t 51)]⟩,
  ⟨none,(some 53),.mov (.t 5)⟩,
  ⟨none,(some 54),.mov (.t 0)⟩,
  ⟨none,(some 55),.callT (.k (.fn (.func 13) [] [])) [(.t 54),(.k (.int .i64 3))]⟩,
  ⟨none,(some 56),.idxS 32 (.t 53) (.t 55)⟩,
  ⟨none,(some 57),.load 32 true (.t 56)⟩,
  ⟨none,(some 58),.mov (.t 0)⟩,
  ⟨none,(some 59),.callT (.k (.fn (.func 13) [] [])) [(.t 58),(.k (.int .i64 3))]⟩,
  ⟨none,(some 60),.bin .add (.k (.int .i64 1)) (.t 59)⟩,
  ⟨none,(some 61),.mov (.t 0)⟩,
  ⟨none,(some 62),.callT (.k (.fn (.func 13) [] [])) [(.t 61),(.k (.int .i64 30))]⟩,
  ⟨none,(some 63),.build yz50 [(0,1,(.t 47)),(1,1,(.t 52)),(2,32,(.t 57)),(34,1,(.t 60)),(35,1,(.t 62)),(36,1,(.k (.int .i64 (-1))))]⟩,
  ⟨none,(some 11),.alloc yz50⟩,
  ⟨none,none,.store 37 (.t 11) (.t 63)⟩,
  ⟨none,none,.apart (.t 6) (.t 48)⟩,
  ⟨none,none,.apart (.t 6) (.t 54)⟩,
  ⟨none,none,.apart (.t 6) (.t 58)⟩,
  ⟨none,none,.apart (.t 6) (.t 61)⟩,
  ⟨none,none,.apart (.t 46) (.t 48)⟩,
  ⟨none,none,.apart (.t 46) (.t 54)⟩,
  ⟨none,none,.apart (.t 46) (.t 58)⟩,
  ⟨none,none,.apart (.t 46) (.t 61)⟩,
  ⟨none,none,.apart (.t 53) (.t 58)⟩,
  ⟨none,none,.apart (.t 53) (.t 61)⟩,
  ⟨none,none,.apart (.t 56) (.t 58)⟩,
  ⟨none,none,.apart (.t 56) (.t 61)⟩])
 (.seq (.seq (.region false [⟨none,(some 64),.mov (.t 0)⟩,
  ⟨none,(some 65),.call (.k (.fn (.func 13) [] [])) [(.t 64),(.k (.int .i64 3))]⟩,
  ⟨none,(some 66),.bin .eql (.t 65) (.k (.int .i64 0))⟩])
 (.cond (.t 66) (.region false [⟨none,(some 67),.mov (.t 0)⟩,
  ⟨none,(some 68),.call (.k (.fn (.func 13) [] [])) [(.t 67),(.k (.int .i64 30))]⟩,
  ⟨none,(some 69),.fld 36 (.t 11)⟩,
  ⟨none,none,.store 1 (.t 69) (.t 68)⟩])
 .skip))
 (.seq (.region false [⟨none,(some 70),.fld 1 (.t 6)⟩,
  ⟨none,(some 71),.load 1 false (.t 70)⟩,
  ⟨none,(some 72),.load 37 true (.t 11)⟩,
  ⟨none,(some 73),.bsl 37 1 yz50 [(0,37,(.t 72))]⟩,
  ⟨none,(some 74),.app 37 72 (.t 71) (.t 73)⟩,
  ⟨none,(some 75),.fld 1 (.t 6)⟩,
  ⟨none,none,.store 1 (.t 75) (.t 74)⟩])
 (.region true [⟨none,(some 76),.fld 2 (.t 6)⟩,
  ⟨none,(some 77),.load 1 false (.t 76)⟩,
  ⟨none,(some 78),.mov (.t 0)⟩,
  ⟨none,(some 79),.callT (.k (.fn (.func 13) [] [])) [(.t 78),(.k (.int .i64 2))]⟩,
  ⟨none,(some 80),.bin .add (.k (.int .i64 1)) (.t 79)⟩,
  ⟨none,(some 81),.bin .add (.t 77) (.t 80)⟩,
  ⟨none,(some 82),.fld 2 (.t 6)⟩,
  ⟨none,none,.store 1 (.t 82) (.t 81)⟩,
  ⟨none,none,.apart (.t 6) (.t 78)⟩,
  ⟨none,none,.apart (.t 76) (.t 78)⟩])))))
 (.region false [⟨none,(some 44),.mov (.t 10)⟩,
  ⟨none,(some 45),.bin .sub (.t 44) (.k (.int .i64 1))⟩,
  ⟨none,(some 10),.mov (.t 45)⟩])))
def zsio (x0 x4 x5 x6 x10:DV) (h:List AObj):St:=⟨[x0,.junk,.junk,.junk,x4,x5,x6,.junk,.junk,.junk,x10]++js 73,h⟩
def a38:AFn:=⟨(ql (yc [⟨yg,yh 4,qR [.nils,.nils,(.int .i64 0)]⟩]) (ql (yc [⟨yg,yh 12,qT (rep 32 (w8 0#8)) [(0,1,(.k (w8 1#8)))]⟩,⟨yg,yh 13,qT (rep 32 (w8 0#8)) [(0,1,(.k (w8 2#8)))]⟩,⟨yg,yh 14,qT (rep 32 (w8 0#8)) [(0,1,(.k (w8 3#8)))]⟩,⟨yg,yh 15,qU 32 3 (rep 32 (w8 0#8)) [(0,32,(.t 12)),(32,32,(.t 13)),(64,32,(.t 14))]⟩,yL 5 15]) (ql (yc [yL 16 0,yU 17 13 [.t 16,(.k (.int .i64 4))],⟨yg,yh 18,qC .add (.k (.int .i64 1)) (.t 17)⟩,⟨yg,yh 19,qT [.nils,.nils,(.int .i64 0)] [(2,1,(.t 18))]⟩,⟨yg,yh 6,qR [.nils,.nils,(.int .i64 0)]⟩,ya 3 6 19]) (ql (ql (yc [yL 20 0,yU 21 13 [.t 20,(.k (.int .i64 2))],⟨yg,yh 22,qC .add (.k (.int .i64 1)) (.t 21)⟩,yL 7 22]) (qn 0 (qo zy47))) (ql (ql (yc [yL 38 0,yL 39 1,⟨yg,yh 40,qC .add (.t 39) (.k (.int .i64 1))⟩,yU 41 13 [.t 38,.t 40],yL 10 41]) (qn 2 (qo zwu9))) (ql (yc [yM 83 3 true 6,ya 3 4 83]) qq)))))),84,[.cell 4 3 true]⟩
theorem zclx:zsjc P Tryz.f38=some a38:=by kernel_rfl
end
section
structure Tp where
 k:Option Bool
 l:List Int
 h:k=none→l=[]
 at_:Nat
def inI (n:Int):List DV:=[.int .i64 n]
def Tp.sl (t:Tp):DV:=slD t.k 1 t.l.length (t.l.flatMap inI)
def tpC (t:Tp):List DV:=[t.sl,.int .i64 t.at_]
def Tp.adv (t:Tp) (m:Nat):Tp:={ t with at_:=t.at_+m }
theorem zg97 (n:Int):(inI n).length=1:=rfl
theorem zyj0 (n:Int):zbao (inI n)=true:=rfl
theorem z5yb (t:Tp):zyp8 t.sl=true:=by
 obtain ⟨k,l,h,a⟩:=t;cases k with
 | none=>rfl
 | some b=>show zbao _=true; exact zp6k zyj0 l
theorem zs7w (t:Tp):zbao (tpC t)=true:=by simp [tpC,zbao,z5yb,zyp8]
theorem zl4f (t:Tp):(tpC t).length=2:=by simp [tpC]
theorem zwhz (t:Tp) (H:List AObj):lenD H t.sl=some (.int .i64 t.l.length):=zjc6 (fun e=>by rw [t.h e]; rfl)
theorem zmwh (t:Tp) (H:List AObj) {i:Nat} (hi:i<t.l.length):zpsc H 1 t.sl i=some (.ref [.int .i64 t.l[i]]):=by
 obtain ⟨k,l,h,a⟩:=t;cases k with
 | none=>simp only at hi; rw [h rfl] at hi; simp at hi
 | some b =>
  simp only [Tp.sl,zip4];rw [zsu0 (by omega) (by simp only at hi; omega),y01,zdao zg97 hi]; rfl
theorem zxr4 (t:Tp):t.sl.one=true:=by obtain ⟨k,l,h,a⟩:=t; cases k<;>rfl
theorem zn8z (t:Tp):t.sl.known=true:=by obtain ⟨k,l,h,a⟩:=t; cases k<;>rfl
theorem zymw (t:Tp):t.sl.cells=[t.sl]:=by obtain ⟨k,l,h,a⟩:=t; cases k<;>rfl
theorem zpy8 (t:Tp) (n k:Nat) (H:List AObj):fz n H k t.sl=some t.sl:=zqge (z5yb t)
theorem ziad : ∀ {a b:List Int},a.flatMap inI=b.flatMap inI→a=b
 | [],[],_=>rfl
 | [],y::b,h=>by simp [inI] at h
 | x::a,[],h=>by simp [inI] at h
 | x::a,y::b,h=>by
  simp only [List.flatMap_cons,inI,List.singleton_append,List.cons.injEq,DV.int.injEq,true_and] at h;rw [h.1,ziad h.2]
theorem z15z {a b:Tp} (h:tpC a=tpC b):a=b:=by
 obtain ⟨k,l,d,p⟩:=a;obtain ⟨c,f,e,g⟩:=b;simp only [tpC,Tp.sl,List.cons.injEq,DV.int.injEq,true_and,and_true,Int.natCast_inj] at h;obtain ⟨h,rfl⟩:=h;cases k with
 | none=>cases c with
  | none=>rw [Tp.mk.injEq]; exact ⟨rfl,by rw [d rfl,e rfl],rfl⟩
  | some b=>simp [slD] at h
 | some b=>cases c with
  | none=>simp [slD] at h
  | some b' =>
   simp only [zip4,DV.sl.injEq] at h;obtain ⟨rfl,_,_,h⟩:=h;rw [Tp.mk.injEq]; exact ⟨rfl,ziad h,rfl⟩
attribute [simp] zwhz zxr4 zn8z zymw zpy8 zl4f
def zq5q (t:Tp):Int:=if h:t.at_<t.l.length then t.l[t.at_] else t.at_*7+3
def tpN (t:Tp) (n:Int):Int:=if n<1 then 0 else zq5q t % n
def tpS (t:Tp) (n:Int):Tp:=if n<1 then t else t.adv 1
theorem z4rs (t:Tp) (n:Int):0≤tpN t n:=by
 unfold tpN; split
 ·omega
 ·exact Int.emod_nonneg _ (by omega)
theorem z2s7 (t:Tp) {n:Int} (h:1≤n):tpN t n<n:=by
 unfold tpN; rw [if_neg (by omega)]; exact Int.emod_lt_of_pos _ (by omega)
theorem z7xa (t:Tp) (n:Int):(tpS t n).at_≤t.at_+1:=by
 unfold tpS; split
 ·omega
 ·exact y03 _
theorem z1rh (t:Tp) (m:Nat):(t.adv m).sl=t.sl:=by simp [Tp.adv,Tp.sl]
theorem zpza (t:Tp) (m:Nat):(t.adv m).at_=t.at_+m:=by simp [Tp.adv]
theorem zk2k (t:Tp) (m:Nat):(t.adv m).l=t.l:=by simp [Tp.adv]
attribute [simp] z1rh zpza zk2k
theorem zhly (x n:Int) (h:1≤n) (h2:n≤4294967296):IntKind.i64.wrap (x.tmod n+n)=x.tmod n+n∧(x.tmod n+n).tmod n=x % n:=by
 have a:=Int.tmod_lt_of_pos x (show 0<n by omega)
 have b : -n<x.tmod n:=by
  have:=Int.lt_tmod_of_pos x (show 0<n by omega)
  omega
 refine ⟨znmn (by omega) (by omega),?_⟩
 rw [y0c (by omega),Int.add_emod_right]
 rw [Int.tmod_eq_emod];split
 ·simp
 ·rw [Int.natAbs_of_nonneg (show 0≤n by omega)]; simp
theorem z1hg (t:Tp) (n:Int) (ht:t.at_<4294967296) (hn:n≤4294967296):RunsF tbl0 a13 [.mp 0 2 0,.int .i64 n] [.cells (tpC t)] (.int .i64 (tpN t n)) [.cells (tpC (tpS t n))]:=by
 refine ⟨?_⟩;by_cases h:n<1
 ·have g:tpN t n=0:=by rw [tpN,if_pos h]
  have c:tpS t n=t:=by rw [tpS,if_pos h]
  rw [g,c];simp (disch:=first|omega|simp<;>omega|fail) [-zE,a13,tpC,h]
 have c:tpS t n=t.adv 1:=by rw [tpS,if_neg h]
 obtain ⟨f,d⟩:=zhly (zq5q t) n (by omega) hn
 have i:tpN t n=zq5q t % n:=by rw [tpN,if_neg h]
 rw [← i] at d;rw [c];have b:n≠0:=by omega
 by_cases hl:t.at_<t.l.length
 ·have a:(t.at_:Int)<t.l.length:=by omega
  have e:t.l[t.at_]=zq5q t:=by rw [zq5q,dif_pos hl]
  have j:=fun H=>zmwh t H hl
  simp (disch:=first|omega|simp<;>omega|fail) [-zE,a13,tpC,h,hl,a,j,e,b,f,d,-y0c]
 ·have a:¬ (t.at_:Int)<t.l.length:=by omega
  have e:(t.at_:Int)*7+3=zq5q t:=by rw [zq5q,dif_neg hl]
  have k:(t.at_:Int)*7<9223372036854775808:=by omega
  simp (disch:=first|omega|simp<;>omega|fail) [-zE,a13,tpC,h,hl,a,e,b,f,d,-y0c]
theorem zjmf (t:Tp) (a b:Nat):(t.adv a).adv b=t.adv (a+b):=by simp [Tp.adv,Nat.add_assoc]
theorem zbrh (t:Tp):t.adv 0=t:=by simp [Tp.adv]
theorem zi8m {t:Tp} {n:Int} (h:1≤n):tpS t n=t.adv 1:=by rw [tpS,if_neg (by omega)]
noncomputable def z1m3:List DV→List DV→Option (DV × List DV):=conT (fun a:Tp × Int=>a.1.at_<4294967296∧a.2≤4294967296) (fun a=>[.int .i64 a.2]) (fun a=>tpC a.1) (fun a=>(.int .i64 (tpN a.1 a.2),tpC (tpS a.1 a.2)))
theorem zs7j {t:Tp} {n:Int} (h1:t.at_<4294967296) (h2:n≤4294967296):z1m3 [.int .i64 n] (tpC t)=some (.int .i64 (tpN t n),tpC (tpS t n)) :=
 ztyo (A:=fun a:Tp × Int=>a.1.at_<4294967296∧a.2≤4294967296) (f:=fun a=>[.int .i64 a.2]) (s:=fun a=>tpC a.1) (by
  rintro ⟨a,n⟩ ⟨b,m⟩ e1 e2;simp only [List.cons.injEq,DV.int.injEq,true_and,and_true] at e1;rw [e1,z15z e2]) (t,n) ⟨h1,h2⟩
theorem z44h {t:Tp} {n:Int} (h1:t.at_<4294967296) (h2:n≤4294967296) (h3:1≤n):z1m3 [.int .i64 n] (tpC t)=some (.int .i64 (tpN t n),tpC (t.adv 1)):=by rw [zs7j h1 h2,zi8m h3]
theorem z51e:(Con.tch z1m3).Sound P 13 :=
 z0tq (fun a _=>⟨rfl,zs7w _,rfl,zs7w _⟩) fun a h=>zizi mix zr5o Tryz.func13 zm5y (z1hg a.1 a.2 h.1 h.2) (y03 _)
noncomputable def T150:Tbl:=addT 13 (.tch z1m3) tbl0
theorem zp0f:T150 13 = .tch z1m3:=by simp [T150]
theorem zt0z:T150.Sound P:=z0rp z51e zr5o
def zzh5 (t:Tp) (l:List (List UInt8)):List UInt8:=l.getD (tpN t l.length).toNat []
theorem zqrp (t:Tp) {l:List (List UInt8)} (h:l≠[]):zzh5 t l ∈ l:=by
 have b:1≤l.length:=by cases l with|nil=>exact absurd rfl h|cons _ _=>simp
 have c:=z4rs t l.length;have d:=z2s7 t (n:=l.length) (by omega)
 have a:(tpN t l.length).toNat<l.length:=by omega
 rw [zzh5,y02,y00 a];exact y05 a
theorem z4zb (t:Tp) (l:List (List UInt8)) (ht:t.at_<4000000000) (h0:1≤l.length) (hl:l.length≤4294967296):RunsF T150 a98 [.mp 0 2 0,.sl true 1 l.length (l.map .str)] [.cells (tpC t)] (.str (zzh5 t l)) [.cells (tpC (t.adv 1))]:=by
 refine ⟨?_⟩;have d:=z4rs t l.length;have g:=z2s7 t (n:=l.length) (by omega)
 obtain ⟨N,c⟩ : ∃ N:Nat,tpN t l.length=N:=⟨_,(y06 d).symm⟩;have a:N<l.length:=by omega
 have e:zzh5 t l=l[N]:=by rw [zzh5,c,y01,y02,y00 a]; rfl
 have f:((l.map DV.str).drop N).take 1=[.str l[N]]:=by
  rw [← List.map_drop,y0n a]; rfl
 have b:fzL 1 [.cells (tpC (t.adv 1))] (tpC (t.adv 1)) (tpC (t.adv 1)):=znnb (zs7w _);simp (disch:=first|omega|simp<;>omega|fail) [-zE,a98,zp0f,z44h,c,a,e,f,b,zbao]
noncomputable def zqck:List DV→List DV→Option (DV × List DV):=conT (fun a:Tp × List (List UInt8)=>a.1.at_<4000000000∧1≤a.2.length∧a.2.length≤4294967296) (fun a=>[.sl true 1 a.2.length (a.2.map .str)]) (fun a=>tpC a.1) (fun a=>(.str (zzh5 a.1 a.2),tpC (a.1.adv 1)))
theorem zsi8 : ∀ {a b:List (List UInt8)},a.map DV.str=b.map DV.str→a=b
 | [],[],_=>rfl
 | [],y::b,h=>by simp at h
 | x::a,[],h=>by simp at h
 | x::a,y::b,h=>by
  simp only [y09,List.cons.injEq,DV.str.injEq] at h;rw [h.1,zsi8 h.2]
theorem ze0z {t:Tp} {l:List (List UInt8)} (h:t.at_<4000000000) (h1:1≤l.length) (h2:l.length≤4294967296):zqck [.sl true 1 l.length (l.map .str)] (tpC t)=some (.str (zzh5 t l),tpC (t.adv 1)) :=
 ztyo (A:=fun a:Tp × List (List UInt8)=>a.1.at_<4000000000∧1≤a.2.length∧a.2.length≤4294967296) (f:=fun a=>[.sl true 1 a.2.length (a.2.map .str)]) (s:=fun a=>tpC a.1) (by
  rintro ⟨a,n⟩ ⟨b,m⟩ e1 e2;simp only [List.cons.injEq,DV.sl.injEq,true_and,and_true] at e1;rw [zsi8 e1.2,z15z e2]) (t,l) ⟨h,h1,h2⟩
theorem zztn {t:Tp} {a b:List UInt8} (h:t.at_<4000000000):zqck [.sl true 1 2 [.str a,.str b]] (tpC t)=some (.str (zzh5 t [a,b]),tpC (t.adv 1)):=ze0z (l:=[a,b]) h (by simp) (by simp)
theorem z3hj:(Con.tch zqck).Sound P 98 :=
 z0tq (fun a _=>⟨by simp [zbao,zyp8]; exact List.rec rfl (fun _ _ ih=>by simpa [zbao,zyp8] using ih) a.2,zs7w _,rfl,zs7w _⟩) fun a h=>zizi mix zt0z Tryz.func98 zg8b (z4zb a.1 a.2 h.1 h.2.1 h.2.2) (y03 _)
def dgW (b:BitVec 8):Dg:=⟨b::rep 31 0#8,by simp [rep]⟩
abbrev dgB (z:Int):Dg:=dgW (BitVec.ofInt 8 z)
theorem z7ni {b:BitVec 8}:zvnk (dgC dg0) [(0,1,w8 b)]=some (.agg (dgC (dgW b))):=rfl
def sumV (t:Tp):Dg:=dgB (1+tpN t 6)
theorem zf9j {z:Int} (h0:1≤z) (h1:z≤255):dgB z≠dg0:=by
 intro e;have:=congrArg (fun d:Dg=>d.1.head?) e
 simp [dgW,dg0,rep,List.replicate] at this;have a:=congrArg BitVec.toNat this;simp at a;omega
theorem z7d3 (t:Tp):sumV t≠dg0:=by
 have a:=z4rs t 6;have b:=z2s7 t (n:=6) (by omega)
 exact zf9j (by omega) (by omega)
theorem zizk (t:Tp) (ht:t.at_<4000000000):RunsF T150 a99 [.mp 0 2 0] [.cells (tpC t)] (.agg (dgC (sumV t))) [.cells (tpC (t.adv 1))]:=by
 refine ⟨?_⟩;have b:=z4rs t 6;have c:=z2s7 t (n:=6) (by omega)
 have a : ∀ k,fzL 1 k (tpC (t.adv 1)) (tpC (t.adv 1)):=fun k=>znnb (zs7w _)
 simp (disch:=first|omega|simp<;>omega|fail) [-zE,a99,zp0f,z44h,a,z7ni,sumV,zojd (z3ot _)]
noncomputable def cSum:List DV→List DV→Option (DV × List DV):=conT (fun a:Tp=>a.at_<4000000000) (fun a=>[]) tpC (fun a=>(.agg (dgC (sumV a)),tpC (a.adv 1)))
theorem zliq {t:Tp} (h:t.at_<4000000000):cSum [] (tpC t)=some (.agg (dgC (sumV t)),tpC (t.adv 1)) :=
 ztyo (A:=fun a:Tp=>a.at_<4000000000) (f:=fun a=>[]) (s:=tpC) (fun a b _ e=>by rw [z15z e]) t h
theorem z8dz:(Con.tch cSum).Sound P 99 :=
 z0tq (fun a _=>⟨rfl,zs7w _,by simp [zyp8],zs7w _⟩) fun a h=>zizi mix zt0z Tryz.func99 zcou (zizk a h) (y03 _)
structure Nl where
 k:Option Bool
 l:List Int
 h:k=none→l=[]
 b:l.length≤9223372036854775807
def Nl.dv (x:Nl):DV:=slD x.k 1 x.l.length (x.l.flatMap inI)
def tp0 (x:Nl) (n:Nat):Tp:=⟨x.k.map fun b=>b&&(min x.l.length n == x.l.length),x.l.take n,fun e=>by simp at e; rw [x.h e]; simp,0⟩
theorem z5n2 (x:Nl) (n:Nat):(tp0 x n).at_=0:=rfl
theorem zkx7 (x:Nl):zyp8 x.dv=true:=z5yb ⟨x.k,x.l,x.h,0⟩
theorem z2kw {a b:Nl} (h:a.dv=b.dv):a=b:=by
 obtain ⟨k,l,c,p⟩:=a;obtain ⟨e,f,d,g⟩:=b;have:=z15z (a:=⟨k,l,c,0⟩) (b:=⟨e,f,d,0⟩) (by simp only [tpC,Tp.sl]; simp only [Nl.dv] at h; rw [h])
 simp only [Tp.mk.injEq,and_true] at this;rw [Nl.mk.injEq]; exact this
theorem zkbj {t:Tp}:zvnk [.nils,.int .i64 0] [(0,1,t.sl)]=some (.agg [t.sl,.int .i64 0]):=by simp [zvnk,zi03,zk7y]
theorem zb09 (x:Nl) (n:Nat) (hn:n≤4294967296):RunsF tbl0 a37 [x.dv,.int .i64 n] [] (.mp 0 2 0) [.cells (tpC (tp0 x n))]:=by
 refine ⟨?_⟩;have j:=x.b;have f : ∀ H,lenD H x.dv=some (.int .i64 x.l.length):=fun H=>zjc6 (fun e=>by rw [x.h e]; rfl)
 have g:min (x.l.length:Int) n=((min x.l.length n:Nat):Int):=by omega
 have i : ∀ H,z390 H 1 x.dv none (some (.int .i64 ((min x.l.length n:Nat):Int))) none=some (tp0 x n).sl:=fun H=>by
  obtain ⟨k,l,h,b⟩:=x;cases k with
  | none =>
   cases h rfl
   simp only [Nl.dv,zbpn,tp0,Tp.sl,Option.map_none,y0r,Nat.zero_min];rw [zmk5 (p:=(0,0)) (by simp [zo77,iD])]
  | some b =>
   simp only [Nl.dv,zip4,tp0,Tp.sl,Option.map_some];rw [zygc (l:=0) (m:=min l.length n) (by simp [zo77,iD]; omega)]
   simp only [Nat.zero_mul,List.drop_zero,Nat.sub_zero,List.length_take,z10w zg97,Nat.min_comm n];congr 2;rw [show List.take (min l.length n) l=List.take n l from by rw [Nat.min_comm,← List.take_take,y04 (y03 l.length)]]
 have d:=z5n2 x n;have a : ∀ k,fzL 1 k (tpC (tp0 x n)) (tpC (tp0 x n)):=fun k=>znnb (zs7w _)
 have c:tpC (tp0 x n)=[(tp0 x n).sl,.int .i64 0]:=rfl;rw [c] at a ⊢;simp (disch:=first|omega|simp<;>omega|fail) [-zE,a37,f,g,i,a,zkbj,zluv,zy6n]
noncomputable def zl5p:List DV→Nat→Option (DV × List AObj):=conN (fun a:Nl × Nat=>a.2≤4294967296) (fun a=>[a.1.dv,.int .i64 a.2]) (fun a=>(.mp 0 2 0,[.cells (tpC (tp0 a.1 a.2))]))
theorem zwy3 {x:Nl} {n:Nat} (h:n≤4294967296) (m:Nat):zl5p [x.dv,.int .i64 n] m=some (.mp m 2 0,[.cells (tpC (tp0 x n))]):=by
 have:=zqtp (A:=fun a:Nl × Nat=>a.2≤4294967296) (f:=fun a=>[a.1.dv,.int .i64 a.2]) (g:=fun a=>(.mp 0 2 0,[.cells (tpC (tp0 a.1 a.2))])) (fun a b e=>by
  simp only [List.cons.injEq,DV.int.injEq,true_and,and_true,Int.natCast_inj] at e;rw [z2kw e.1,e.2]) (x,n) h m
 rw [zl5p,this];simp only [z6iw,y09,y0p,z05k,zj45 _ _ (zs7w _),Nat.add_zero]
theorem ze95:(Con.new zl5p).Sound P 37 :=
 z3ld (fun a _=>by simp [zbao,zkx7,zyp8]) fun a h=>zizi mix zr5o Tryz.func37 z554 (zb09 a.1 a.2 h) (by simp)
end
section
def gOne (x:Sl Dg) (t:Tp):Dg × Tp:=if 0<tpN (t.adv 1) 6 then (x.l.getD (tpN (t.adv 2) x.l.length).toNat dg0,t.adv 3) else (sumV t,t.adv 2)
def gAdd (l:List Dg) (d:Dg):List Dg:=if d ∈ l then l else l++[d]
def zz63 (x:Sl Dg):Nat→Tp→List Dg→List Dg × Tp
 | 0,t,l=>(l,t)
 | k+1,t,l=>zz63 x k (gOne x t).2 (gAdd l (gOne x t).1)
def zlt0 (t:Tp) (x:Sl Dg):Grp × Tp :=
 (⟨zzh5 t [[112,114,111,100],[116,101,115,116]],zzh5 (t.adv 1) [[119,101,98],[100,98]],tpN (t.adv 2) 4,tpN (t.adv 3) (tpN (t.adv 2) 4+1),tpN (t.adv 4) (tpN (t.adv 2) 4+1),
  own (zz63 x ((tpN (t.adv 5) 3).toNat+1) (t.adv 6) []).1⟩,(zz63 x ((tpN (t.adv 5) 3).toNat+1) (t.adv 6) []).2)
theorem ze4v (x:Sl Dg) (t:Tp):(gOne x t).2.at_≤t.at_+3:=by unfold gOne; split<;>simp
theorem z3m3 (l:List Dg) (d:Dg):(gAdd l d).length≤l.length+1:=by unfold gAdd; split<;>simp
structure GS where
 k:Nat
 t:Tp
 l:List Dg
 d:Dg
structure GC where
 ns:List UInt8
 im:List UInt8
 want:Int
 least:Int
 down:Int
def zlt4 (g:GC) (ch:DV):List DV:=[.str g.ns,.str g.im,.int .i64 g.want,.int .i64 g.least,.int .i64 g.down,ch]
def z18d:List DV:=[.str [],.str [],.int .i64 0,.int .i64 0,.int .i64 0,.nils]
def gH (g:GC) (a:GS):List AObj:=if a.l=[] then [.cells (tpC a.t),.cells z18d,.cells (zlt4 g .nils)] else
 [.cells (tpC a.t),.cells z18d,.cells (zlt4 g (.ms 4 (a.l.length*32) 0 32 a.l.length (a.l.length*32))),.cells (dgC a.d),.cells (a.l.flatMap dgC)]
def S160 (g:GC) (x:Sl Dg) (a:GS):St:=zgxj (.mp 0 2 0) (x.dv 32 dgC) (.mp 1 6 0) (.mp 2 6 0) (.int .i64 ((a.k:Int)-1)) (gH g a)
theorem z1yk {g:GC} {a:GS} (h:a.l=[]):gH g a=[.cells (tpC a.t),.cells z18d,.cells (zlt4 g .nils)]:=if_pos h
theorem zju3 {g:GC} {a:GS} (h:a.l≠[]):gH g a=[.cells (tpC a.t),.cells z18d,.cells (zlt4 g (.ms 4 (a.l.length*32) 0 32 a.l.length (a.l.length*32))),.cells (dgC a.d),.cells (a.l.flatMap dgC)]:=if_neg h
noncomputable def T160:Tbl:=addT 13 (.tch z1m3) (addT 98 (.tch zqck) (addT 99 (.tch cSum) (addT 50 (.pure (cDgs hasB)) tbl0)))
theorem zb2f:T160 13 = .tch z1m3:=by simp [T160]
theorem zomg:T160 98 = .tch zqck:=by simp [T160]
theorem z3k3:T160 99 = .tch cSum:=by simp [T160]
theorem zcl1:T160 50 = .pure (cDgs hasB):=by simp [T160]
theorem zqob:T160.Sound P:=z0rp z51e (z0rp z3hj (z0rp z8dz (z0rp (z2au fun p _=>zljw mix zr5o Tryz.func50 z12y (zfg2 p.1 p.2)) zr5o)))
theorem z31o {a b:List UInt8} {n:Int}:zvnk [.str [],.str [],.int .i64 0,.int .i64 0,.int .i64 0,.nils] [(0,1,.str a),(1,1,.str b),(2,1,.int .i64 n)]=some (.agg [.str a,.str b,.int .i64 n,.int .i64 0,.int .i64 0,.nils]):=rfl
theorem zg14 {h:List AObj} {id:Nat} {a b c d e f:DV} {l:List DV} (hl:l.length=6) (h1:a.one=true) (h2:b.one=true) (h3:c.one=true) (h4:d.one=true) (h5:e.one=true) (h6:f.one=true) :
  zy6o h id 6 0 (.agg [a,b,c,d,e,f]) (some l)=some (.junk,h.set id (.cells [a,b,c,d,e,f])):=zfc1 rfl hl (by simp [h1,h2,h3,h4,h5,h6])
theorem znj4 {a b c d e f:DV}:oneC 6 true [a,b,c,d,e,f]=some (.agg [a,b,c,d,e,f]):=rfl
theorem zd42 (t:Tp) (x:Sl Dg) (ht:t.at_<3999999000) (hx:1≤x.l.length):RunsF T160 a66 [.mp 0 2 0,x.dv 32 dgC] [.cells (tpC t)] (.agg (grC (zlt0 t x).1)) [.cells (tpC (zlt0 t x).2)]:=by
 refine ⟨?_⟩;have W:=z4rs (t.adv 2) 4;have X:=z2s7 (t.adv 2) (n:=4) (by omega)
 have Y:=z4rs (t.adv 5) 3;have Z:=z2s7 (t.adv 5) (n:=3) (by omega)
 unfold zlt0;obtain ⟨r,J⟩ : ∃ r,zz63 x ((tpN (t.adv 5) 3).toNat+1) (t.adv 6) []=r:=⟨_,rfl⟩;rw [J];obtain ⟨w,L⟩ : ∃ w,tpN (t.adv 2) 4=w:=⟨_,rfl⟩;rw [L] at W X ⊢;obtain ⟨N,G⟩ : ∃ N:Nat,tpN (t.adv 5) 3=N:=⟨_,(y06 Y).symm⟩;rw [G,y01] at J;rw [G] at Z;obtain ⟨U,D⟩ : ∃ w',tpN (t.adv 3) (w+1)=w':=⟨_,rfl⟩;obtain ⟨O,C⟩ : ∃ w',tpN (t.adv 4) (w+1)=w':=⟨_,rfl⟩;rw [D,C];simp (disch:=first|omega|simp<;>omega|fail) [-zE,a66,zb2f,zomg,zztn,z44h,L,G,zjmf,D,C,z31o,zg14];refine zlm5 (S160 ⟨zzh5 t [[112,114,111,100],[116,101,115,116]],zzh5 (t.adv 1) [[119,101,98],[100,98]],w,U,O⟩ x) (fun a=>a.k) (fun a=>zz63 x a.k a.t a.l=r∧a.t.at_+3*a.k<4000000000∧a.l.length+a.k≤4∧(a.l=[]→1≤a.k)) ⟨N+1,t.adv 6,[],dg0⟩ ?_ ?_ (fun a ha => ?_)
 ·rw [S160,z1yk rfl];exact z515 (by simp (disch:=first|omega|simp<;>omega|fail) [-zE,zgxj]) (by simp (disch:=first|omega|simp<;>omega|fail) [-zE,zlt4,z18d])
 ·exact ⟨J,by simp; omega,by simp; omega,fun _=>by simp⟩
 obtain ⟨k,u,l,E⟩:=a;obtain ⟨F,Q,R,K⟩:=ha;simp only at F Q R K;cases k with
 | zero =>
  have s:l≠[]:=fun e=>by have:=K e; omega
  rw [S160,zju3 s];have e:r=(l,u):=F.symm;subst e;have m:=z1rq z1t1 l;have c:=zp6k z3ot l;have p:(l.flatMap dgC).take (l.length*32)=l.flatMap dgC:=y04 (by omega)
  have I : ∀ k,fzL 1 k (tpC u) (tpC u):=fun k=>znnb (zs7w _)
  simp (disch:=first|omega|simp<;>omega|fail) [-zE,z6p4,zgxj,zlt4,z18d,znj4,zg14,m,p,I,zqrs,zojd c,grC]
 | succ k =>
 have V:=z4rs (u.adv 2) x.l.length;have m2:=z2s7 (u.adv 2) (n:=x.l.length) (by omega)
 obtain ⟨M,y⟩ : ∃ M:Nat,tpN (u.adv 2) x.l.length=M:=⟨_,(y06 V).symm⟩;have B:M<x.l.length:=by omega
 have T:=x.b;have i : ∀ H,zpsc H 32 (x.dv 32 dgC) M=some (.ref (dgC x.l[M])):=fun H=>zalo z1t1 B
 have q:0<x.l.length:=by omega
 have o:(0:Int)<x.l.length:=by omega
 have S:((k+1:Nat):Int)-1=k:=by omega
 have h:zz63 x k (gOne x u).2 (gAdd l (gOne x u).1)=r:=F;by_cases s:l=[]
 ·rw [S160,z1yk s];subst s;have z : ∀ d,cDgs hasB [.nils,.agg (dgC d)]=some (.bool false):=fun d=>by
   have:=ztlh (g:=hasB) (x:=⟨none,[],fun _=>rfl,by simp⟩) (d:=d)
   exact this.trans (by simp [hasB])
  by_cases hb:0<tpN (u.adv 1) 6
  ·have f:gOne x u=(x.l[M],u.adv 3):=by rw [gOne,if_pos hb,y,y01,y02,y00 B]; rfl
   rw [f] at h;simp (disch:=first|omega|simp<;>omega|fail) [-zE,z6p4,zgxj,z3k3,zb2f,zcl1,zliq,z44h,zjmf,q,o,hb,y,i,zlt4,z,zbcp];refine ⟨⟨k,u.adv 3,[x.l[M]],x.l[M]⟩,?_,by simp,by simpa [gAdd] using h,by simp; omega,by simp; omega,fun e=>by simp at e⟩
   rw [S160,zju3 (by simp)]
   exact z515 (by simp (disch:=first|omega|simp<;>omega|fail) [-zE,zgxj]) (by simp (disch:=first|omega|simp<;>omega|fail) [-zE,zlt4])
  ·have f:gOne x u=((sumV u),u.adv 2):=by rw [gOne,if_neg hb]
   rw [f] at h;simp (disch:=first|omega|simp<;>omega|fail) [-zE,z6p4,zgxj,z3k3,zb2f,zcl1,zliq,z44h,zjmf,q,o,hb,y,i,zlt4,z,zbcp];refine ⟨⟨k,u.adv 2,[(sumV u)],(sumV u)⟩,?_,by simp,by simpa [gAdd] using h,by simp; omega,by simp; omega,fun e=>by simp at e⟩
   rw [S160,zju3 (by simp)]
   exact z515 (by simp (disch:=first|omega|simp<;>omega|fail) [-zE,zgxj]) (by simp (disch:=first|omega|simp<;>omega|fail) [-zE,zlt4])
 ·rw [S160,zju3 s];have A:l.length≤4294967296:=by omega
  have m:=z1rq z1t1 l;have c:=zp6k z3ot l;have p:(l.flatMap dgC).take (l.length*32)=l.flatMap dgC:=y04 (by omega)
  have v : ∀ H j,z4tt H j (l.flatMap dgC)=some (l.flatMap dgC):=fun H j=>z619 c
  by_cases hb:0<tpN (u.adv 1) 6
  ·have f:gOne x u=(x.l[M],u.adv 3):=by rw [gOne,if_pos hb,y,y01,y02,y00 B]; rfl
   rw [f] at h;have z:cDgs hasB [.sl false 32 l.length (l.flatMap dgC),.agg (dgC x.l[M])]=some (.bool (decide (x.l[M] ∈ l))) :=
    ztlh (g:=hasB) (x:=⟨some false,l,fun e=>by simp at e,A⟩) (d:=x.l[M])
   by_cases hm:x.l[M] ∈ l
   ·simp (disch:=first|omega|simp<;>omega|fail) [-zE,z6p4,zgxj,z3k3,zb2f,zcl1,zliq,z44h,zjmf,q,o,hb,y,i,zlt4,z,zbcp,m,c,p,v,hm];refine ⟨⟨k,u.adv 3,l,E⟩,?_,by simp,by simpa [gAdd,hm] using h,by simp; omega,by simp; omega,fun e=>absurd e s⟩
    rw [S160,zju3 s];exact zju2 (tail:=[.cells (dgC x.l[M])]) (by simp (disch:=first|omega|simp<;>omega|fail) [-zE,zgxj]) (by simp (disch:=first|omega|simp<;>omega|fail) [-zE,zlt4]) (by simp) (by simp [Am.belowL,Am.below]) (by simp [zlf2,Am.belowL,Am.below,zmq5 _ _ (zs7w _),zmq5 _ _ c,zmq5 _ _ (zg0c c (z3ot _)),z18d,zlt4])
   ·simp (disch:=first|omega|simp<;>omega|fail) [-zE,z6p4,zgxj,z3k3,zb2f,zcl1,zliq,z44h,zjmf,q,o,hb,y,i,zlt4,z,zbcp,m,c,p,v,hm];refine ⟨⟨k,u.adv 3,l++[x.l[M]],E⟩,?_,by simp,by simpa [gAdd,hm] using h,by simp; omega,by simp; omega,fun e=>by simp at e⟩
    rw [S160,zju3 (by simp)]
    exact zju2 (tail:=[.cells (dgC x.l[M])]) (by simp (disch:=first|omega|simp<;>omega|fail) [-zE,zgxj]) (by simp (disch:=first|omega|simp<;>omega|fail) [-zE,zlt4,y0t]) (by simp) (by simp [Am.belowL,Am.below]) (by simp [zlf2,Am.belowL,Am.below,zmq5 _ _ (zs7w _),zmq5 _ _ c,zmq5 _ _ (zg0c c (z3ot _)),z18d,zlt4])
  ·have f:gOne x u=((sumV u),u.adv 2):=by rw [gOne,if_neg hb]
   rw [f] at h;have z:cDgs hasB [.sl false 32 l.length (l.flatMap dgC),.agg (dgC (sumV u))]=some (.bool (decide ((sumV u) ∈ l))) :=
    ztlh (g:=hasB) (x:=⟨some false,l,fun e=>by simp at e,A⟩) (d:=(sumV u))
   by_cases hm:(sumV u) ∈ l
   ·simp (disch:=first|omega|simp<;>omega|fail) [-zE,z6p4,zgxj,z3k3,zb2f,zcl1,zliq,z44h,zjmf,q,o,hb,y,i,zlt4,z,zbcp,m,c,p,v,hm];refine ⟨⟨k,u.adv 2,l,E⟩,?_,by simp,by simpa [gAdd,hm] using h,by simp; omega,by simp; omega,fun e=>absurd e s⟩
    rw [S160,zju3 s];exact zju2 (tail:=[.cells (dgC (sumV u))]) (by simp (disch:=first|omega|simp<;>omega|fail) [-zE,zgxj]) (by simp (disch:=first|omega|simp<;>omega|fail) [-zE,zlt4]) (by simp) (by simp [Am.belowL,Am.below]) (by simp [zlf2,Am.belowL,Am.below,zmq5 _ _ (zs7w _),zmq5 _ _ c,zmq5 _ _ (zg0c c (z3ot _)),z18d,zlt4])
   ·simp (disch:=first|omega|simp<;>omega|fail) [-zE,z6p4,zgxj,z3k3,zb2f,zcl1,zliq,z44h,zjmf,q,o,hb,y,i,zlt4,z,zbcp,m,c,p,v,hm];refine ⟨⟨k,u.adv 2,l++[(sumV u)],E⟩,?_,by simp,by simpa [gAdd,hm] using h,by simp; omega,by simp; omega,fun e=>by simp at e⟩
    rw [S160,zju3 (by simp)]
    exact zju2 (tail:=[.cells (dgC (sumV u))]) (by simp (disch:=first|omega|simp<;>omega|fail) [-zE,zgxj]) (by simp (disch:=first|omega|simp<;>omega|fail) [-zE,zlt4,y0t]) (by simp) (by simp [Am.belowL,Am.below]) (by simp [zlf2,Am.belowL,Am.below,zmq5 _ _ (zs7w _),zmq5 _ _ c,zmq5 _ _ (zg0c c (z3ot _)),z18d,zlt4])
end
section
def cpD {α:Type} (id s:Nat) (x:Sl α):DV:=if x.l=[] then .nils else .ms id (x.l.length*s) 0 s x.l.length (x.l.length*s)
theorem z2ml {α:Type} {id s:Nat} {x:Sl α} (h:x.l=[]):cpD id s x = .nils:=if_pos h
theorem z6jk {α:Type} {id s:Nat} {x:Sl α} (h:x.l≠[]):cpD id s x = .ms id (x.l.length*s) 0 s x.l.length (x.l.length*s):=if_neg h
theorem zbn2 {α:Type} {id s:Nat} {x:Sl α}:(cpD id s x).one=true:=by unfold cpD; split<;>rfl
theorem zjy1 {α:Type} {id s:Nat} {x:Sl α}:(cpD id s x).cells=[cpD id s x]:=by unfold cpD; split<;>rfl
theorem zufi {α:Type} {id s:Nat} {x:Sl α}:(cpD id s x).known=true:=by unfold cpD; split<;>rfl
theorem z962 {α:Type} {n id s:Nat} {x:Sl α}:shD n (cpD id s x)=cpD (n+id) s x:=by unfold cpD; split<;>rfl
attribute [simp] zbn2 zjy1 zufi
def zcli (n:Nat) (c:Clu):List DV:=[cpD (n+2) 6 c.g,cpD (n+(2+(mutO c.g grC).length)) 37 c.i,.int .i64 c.next]
def zmsj (n:Nat) (c:Clu):List AObj := .cells (clC c) :: .cells (zcli n c)::(mutO c.g grC++mutO c.i inC)
theorem zlwt {a b:DV} {n:Int} (h1:a.known=true) (h2:a.cells=[a]) (h3:b.known=true) (h4:b.cells=[b]):zvnk [.nils,.nils,.int .i64 0] [(0,1,a),(1,1,b),(2,1,.int .i64 n)]=some (.agg [a,b,.int .i64 n]):=by
 have c:(DV.int .i64 n).cells=[.int .i64 n]:=rfl;have d:(DV.int .i64 n).known=true:=rfl;simp [zvnk,zi03,zk7y,h1,h2,h3,h4,c,d]
theorem zpsr (c:Clu):RunsH tbl0 a97 [.agg (clC c)] [] (.agg (zcli 0 c)) (zmsj 0 c):=by
 refine ⟨?_⟩;have u:=c.g.b;have v:=c.i.b;have n:=fun H=>zwaa (h:=H) (x:=c.g) zry4
 have j:=fun H=>zwaa (h:=H) (x:=c.i) z6gw
 have q:=z1rq zry4 c.g.l;have r:=z1rq z6gw c.i.l;by_cases hg:c.g.l=[]
 ·have k:=fun id=>z2ml (id:=id) (s:=6) hg
  have m:=z4ry (f:=grC) hg;have o:c.g.l.length=0:=by rw [hg]; rfl
  have t:c.g.l.flatMap grC=[]:=by rw [hg]; rfl
  rw [o,t] at n;by_cases hi:c.i.l=[]
  ·have a:=fun id=>z2ml (id:=id) (s:=37) hi
   have d:=z4ry (f:=inC) hi;have e:c.i.l.length=0:=by rw [hi]; rfl
   have p:c.i.l.flatMap inC=[]:=by rw [hi]; rfl
   rw [e,p] at j;simp (disch:=first|omega|simp<;>omega|fail) [-zE,a97,zcli,zmsj,n,j,k,m,a,d,zlwt]
  ·have a:=fun id=>z6jk (id:=id) (s:=37) hi
   have d:=z895 (f:=inC) hi;have e:0<c.i.l.length:=y0d.2 hi;simp (disch:=first|omega|simp<;>omega|fail) [-zE,a97,zcli,zmsj,n,j,k,m,a,d,e,r,zlwt]
 ·have k:=fun id=>z6jk (id:=id) (s:=6) hg
  have m:=z895 (f:=grC) hg;have o:0<c.g.l.length:=y0d.2 hg;by_cases hi:c.i.l=[]
  ·have a:=fun id=>z2ml (id:=id) (s:=37) hi
   have d:=z4ry (f:=inC) hi;have e:c.i.l.length=0:=by rw [hi]; rfl
   have p:c.i.l.flatMap inC=[]:=by rw [hi]; rfl
   rw [e,p] at j;simp (disch:=first|omega|simp<;>omega|fail) [-zE,a97,zcli,zmsj,n,j,k,m,o,q,a,d,zlwt]
  ·have a:=fun id=>z6jk (id:=id) (s:=37) hi
   have d:=z895 (f:=inC) hi;have e:0<c.i.l.length:=y0d.2 hi;simp (disch:=first|omega|simp<;>omega|fail) [-zE,a97,zcli,zmsj,n,j,k,m,o,q,a,d,e,r,zlwt]
def zi08 (c:Clu):List DV:=[cpD 2 6 c.g,cpD (2+(mutO c.g grC).length) 37 c.i,.int .i64 c.next]
def zv63 (c:Clu):List AObj := .cells (clC c) :: .cells (zi08 c)::(mutO c.g grC++mutO c.i inC)
theorem zypb (c:Clu):RunsH tbl0 a97 [.agg (clC c)] [] (.agg (zi08 c)) (zv63 c):=by
 have:=zpsr c;simpa [zcli,zmsj,zi08,zv63] using this
noncomputable def cNCp:List DV→Nat→Option (DV × List AObj):=conN (fun _=>True) (fun c:Clu=>[.agg (clC c)]) (fun c=>(.agg (zi08 c),zv63 c))
theorem z48d {c:Clu} {n:Nat}:cNCp [.agg (clC c)] n=some (.agg (zcli n c),zmsj n c):=by
 have:=zqtp (A:=fun _=>True) (f:=fun x:Clu=>[.agg (clC x)]) (g:=fun c=>(.agg (zi08 c),zv63 c)) (fun a b e=>by
  simp only [List.cons.injEq,DV.agg.injEq,and_true] at e;rw [zh7t e]) c trivial n
 simp only [zi08,zv63,z820,zz2n,z623,z962,z96c,y09,y0s,z05k,zxjt zxeb,zxjt z9kv,Nat.zero_add,zj45 _ _ (zy11 c)] at this;exact this
noncomputable def T170:Tbl:=addT 29 (.pure (cC1 zwdn)) (addT 59 (.pure (cG1 zoy9)) (addT 60 (.pure (cCSS grpD)) (addT 97 (.new cNCp) (addT 30 (.pure (cCi fun c i => .int .i64 (z092 c.i.l i))) (addT 96 (.pure cTm) tbl0)))))
theorem z7cg:T170 29 = .pure (cC1 zwdn):=by simp [T170]
theorem zdha:T170 59 = .pure (cG1 zoy9):=by simp [T170]
theorem zfxf:T170 60 = .pure (cCSS grpD):=by simp [T170]
theorem zlm3:T170 97 = .new cNCp:=by simp [T170]
theorem z9s5:T170 30 = .pure (cCi fun c i => .int .i64 (z092 c.i.l i)):=by simp [T170]
theorem zjeq:T170 96 = .pure cTm:=by simp [T170]
theorem zfgl:T170.Sound P:=z0rp (z2au fun x _=>zljw mix zwqh Tryz.func29 ztig (zkeg x)) (z0rp (z2au fun x _=>zljw mix zp0j Tryz.func59 zwsz (zwe9 x)) (z0rp (z2au fun x _=>zljw mix zr5o Tryz.func60 z6e9 (zfav x.1 x.2.1 x.2.2)) (z0rp (z3ld (fun x _=>by simp) fun x _=>zv22 mix zr5o Tryz.func97 z0a8 (zypb x)) (z0rp (z2au fun x _=>zljw mix zr5o Tryz.func30 z3f8 (z9e4 x.1 x.2)) (z0rp (zayt fun t=>zljw mix zr5o Tryz.func96 z54d (zs8z t)) zr5o)))))
noncomputable def z52c (c:Clu) (g:Grp):DV := .tup [.agg (clC (zxl9 c g).1),.int .i64 (zxl9 c g).2]
theorem zejx {α:Type} {x:Sl α} {s:Nat} {f:α→List DV} (h:x.l=[]):x.copy.dv s f = .nils:=by simp [Sl.copy,Sl.dv,slD,h]
theorem zm8x {α:Type} {x:Sl α} {s:Nat} {f:α→List DV} (h:x.l≠[]):x.copy.dv s f = .sl false s x.l.length (x.l.flatMap f):=by simp [Sl.copy,Sl.dv,slD,h]
theorem z0hz (c:Clu) (g:Grp):Runs T170 a65 [.agg (clC c),.agg (grC g)] (z52c c g):=by
 refine ⟨?_⟩;by_cases hv:ValidC c
 case neg =>
  have o:zxl9 c g=(clu0,1):=by rw [zxl9,if_pos (.inl hv)]
  simp (disch:=first|omega|simp<;>omega|fail) [-zE,a65,z7cg,zf0o,zwdn,zewf hv,z52c,o,z3cj]
 by_cases hvg:ValidG g
 case neg =>
  have o:zxl9 c g=(clu0,1):=by rw [zxl9,if_pos (.inr hvg)]
  simp (disch:=first|omega|simp<;>omega|fail) [-zE,a65,z7cg,zf0o,zwdn,zogs hv,zdha,zoex,zoy9,zewf hvg,z52c,o,z3cj]
 have w:¬ (¬ ValidC c∨¬ ValidG g):=fun h=>h.elim (fun h=>h hv) (fun h=>h hvg)
 have I:=hv.ng;have x : ∀ l:List Grp,(l.flatMap grC).length=l.length*6:=z1rq zry4;have C : ∀ l:List Ins,(l.flatMap inC).length=l.length*37:=z1rq z6gw;by_cases hx:z9w0 c.g.l g.ns g.im<0
 ·have a:¬ (0:Int)≤z9w0 c.g.l g.ns g.im:=by omega
  by_cases hl:16≤c.g.l.length
  ·have m:(16:Int)≤c.g.l.length:=by omega
   have o:zxl9 c g=(clu0,3):=by rw [zxl9,if_neg w,if_pos hx,if_pos hl]
   have r:c.g.l≠[]:=by intro e; rw [e] at hl; simp at hl
   have p:=z895 (f:=grC) r;have q:=fun id=>z6jk (id:=id) (s:=6) r
   by_cases hi:c.i.l=[]
   ·have b:=fun id=>z2ml (id:=id) (s:=37) hi
    have d:=z4ry (f:=inC) hi;have j:=zejx (s:=37) (f:=inC) hi;simp (disch:=first|omega|simp<;>omega|fail) [-zE,a65,z7cg,zf0o,zwdn,zogs hv,zdha,zoex,zoy9,zogs hvg,zfxf,zojl,grpD,zlm3,z48d,zcli,zmsj,zbcp,z4qu,z52c,o,zdhs,hx,a,m,hl,p,q,z3cj,b,d,j]
   ·have b:=fun id=>z6jk (id:=id) (s:=37) hi
    have d:=z895 (f:=inC) hi;have j:=zm8x (s:=37) (f:=inC) hi;have v:=z5fn (l:=c.i.l) (y03 _);simp (disch:=first|omega|simp<;>omega|fail) [-zE,a65,z7cg,zf0o,zwdn,zogs hv,zdha,zoex,zoy9,zogs hvg,zfxf,zojl,grpD,zlm3,z48d,zcli,zmsj,zbcp,z4qu,z52c,o,zdhs,hx,a,m,hl,p,q,z3cj,b,d,j,v,C]
  ·have m:¬ (16:Int)≤c.g.l.length:=by omega
   have o:zxl9 c g=(⟨own (c.g.l++[g]),c.i.copy,c.next⟩,0):=by rw [zxl9,if_neg w,if_pos hx,if_neg hl]
   have u:=zqrs (l:=c.g.l++[g]) (s:=6) (f:=grC) (by simp; omega)
   by_cases r:c.g.l=[]
   ·have p:=z4ry (f:=grC) r;have q:=fun id=>z2ml (id:=id) (s:=6) r
    have u:(own (c.g.l++[g])).dv 6 grC = .sl false 6 1 (grC g):=by rw [u,r]; simp
    by_cases hi:c.i.l=[]
    ·have b:=fun id=>z2ml (id:=id) (s:=37) hi
     have d:=z4ry (f:=inC) hi;have j:=zejx (s:=37) (f:=inC) hi;simp (disch:=first|omega|simp<;>omega|fail) [-zE,a65,z7cg,zf0o,zwdn,zogs hv,zdha,zoex,zoy9,zogs hvg,zfxf,zojl,grpD,zlm3,z48d,zcli,zmsj,zbcp,z4qu,z52c,o,zdhs,hx,a,m,hl,u,p,q,b,d,j]
    ·have b:=fun id=>z6jk (id:=id) (s:=37) hi
     have d:=z895 (f:=inC) hi;have j:=zm8x (s:=37) (f:=inC) hi;have v:=z5fn (l:=c.i.l) (y03 _);simp (disch:=first|omega|simp<;>omega|fail) [-zE,a65,z7cg,zf0o,zwdn,zogs hv,zdha,zoex,zoy9,zogs hvg,zfxf,zojl,grpD,zlm3,z48d,zcli,zmsj,zbcp,z4qu,z52c,o,zdhs,hx,a,m,hl,u,p,q,b,d,j,v,C]
   ·have p:=z895 (f:=grC) r;have q:=fun id=>z6jk (id:=id) (s:=6) r
    have D:(c.g.l.flatMap grC++grC g).take ((c.g.l.length+1)*6)=c.g.l.flatMap grC++grC g:=y04 (by rw [y0m,x,zry4]; omega)
    have z : ∀ H k,z4tt H k (c.g.l.flatMap grC++grC g)=some (c.g.l.flatMap grC++grC g):=fun H k=>z619 (zg0c (zp6k zxeb _) (zxeb _))
    have J:(c.g.l.length+1)*6=c.g.l.length*6+6:=by omega
    by_cases hi:c.i.l=[]
    ·have b:=fun id=>z2ml (id:=id) (s:=37) hi
     have d:=z4ry (f:=inC) hi;have j:=zejx (s:=37) (f:=inC) hi;simp (disch:=first|omega|simp<;>omega|fail) [-zE,a65,z7cg,zf0o,zwdn,zogs hv,zdha,zoex,zoy9,zogs hvg,zfxf,zojl,grpD,zlm3,z48d,zcli,zmsj,zbcp,z4qu,z52c,o,zdhs,hx,a,m,hl,u,p,q,D,z,x,b,d,j]
    ·have b:=fun id=>z6jk (id:=id) (s:=37) hi
     have d:=z895 (f:=inC) hi;have j:=zm8x (s:=37) (f:=inC) hi;have v:=z5fn (l:=c.i.l) (y03 _);simp (disch:=first|omega|simp<;>omega|fail) [-zE,a65,z7cg,zf0o,zwdn,zogs hv,zdha,zoex,zoy9,zogs hvg,zfxf,zojl,grpD,zlm3,z48d,zcli,zmsj,zbcp,z4qu,z52c,o,zdhs,hx,a,m,hl,u,p,q,D,z,x,b,d,j,v,C]
 ·obtain ⟨k,A,t,G,_⟩:=ziel (show 0≤z9w0 c.g.l g.ns g.im by omega)
  have t:z9w0 c.g.l g.ns g.im=k:=t;have o:zxl9 c g=(⟨own (c.g.l.set k g),c.i.copy,c.next⟩,0):=by rw [zxl9,if_neg w,if_neg hx,t]; rfl
  have u:=zqrs (l:=c.g.l.set k g) (s:=6) (f:=grC) (by simp; omega)
  have r:c.g.l≠[]:=by intro e; rw [e] at A; simp at A
  have p:=z895 (f:=grC) r;have q:=fun id=>z6jk (id:=id) (s:=6) r
  have a:(0:Int)≤k:=by omega
  have B:(k:Int)<c.g.l.length:=by omega
  have F:zk7y (c.g.l.flatMap grC) (k*6) (grC g)=(c.g.l.set k g).flatMap grC:=z47w zry4 A _;have E:=zq57 (l:=c.g.l.set k g) (n:=c.g.l.length) (by simp)
  have y : ∀ H id,zy6o H id 6 (k*6) (.agg (grC g)) (some (c.g.l.flatMap grC))=some (.junk,H.set id (.cells ((c.g.l.set k g).flatMap grC))):=fun H id=>by
   rw [zdxy (by rw [x]; omega),F]
  by_cases hi:c.i.l=[]
  ·have b:=fun id=>z2ml (id:=id) (s:=37) hi
   have d:=z4ry (f:=inC) hi;have j:=zejx (s:=37) (f:=inC) hi;simp (disch:=first|omega|simp<;>omega|fail) [-zE,a65,z7cg,zf0o,zwdn,zogs hv,zdha,zoex,zoy9,zogs hvg,zfxf,zojl,grpD,zlm3,z48d,zcli,zmsj,zbcp,z4qu,z52c,o,zdhs,t,a,B,A,u,p,q,E,y,x,b,d,j]
  ·have b:=fun id=>z6jk (id:=id) (s:=37) hi
   have d:=z895 (f:=inC) hi;have j:=zm8x (s:=37) (f:=inC) hi;have v:=z5fn (l:=c.i.l) (y03 _);simp (disch:=first|omega|simp<;>omega|fail) [-zE,a65,z7cg,zf0o,zwdn,zogs hv,zdha,zoex,zoy9,zogs hvg,zfxf,zojl,grpD,zlm3,z48d,zcli,zmsj,zbcp,z4qu,z52c,o,zdhs,t,a,B,A,u,p,q,E,y,x,b,d,j,v,C]
end
section
theorem zrb4 (x:Sl Dg) : ∀ (k:Nat) (t:Tp) (l:List Dg),(zz63 x k t l).2.at_≤t.at_+3*k
 | 0,t,l=>y03 _
 | k+1,t,l=>by
  have h1:=zrb4 x k (gOne x t).2 (gAdd l (gOne x t).1);have h2:=ze4v x t;show (zz63 x k (gOne x t).2 (gAdd l (gOne x t).1)).2.at_≤_;omega
theorem z4ft (t:Tp) (x:Sl Dg):(zlt0 t x).2.at_≤t.at_+15:=by
 have a:=z4rs (t.adv 5) 3;have b:=z2s7 (t.adv 5) (n:=3) (by omega)
 have:=zrb4 x ((tpN (t.adv 5) 3).toNat+1) (t.adv 6) [];simp only [zlt0,zpza] at this ⊢;omega
noncomputable def cGrp:List DV→List DV→Option (DV × List DV):=conT (fun a:Tp × Sl Dg=>a.1.at_<3999999000∧1≤a.2.l.length) (fun a=>[a.2.dv 32 dgC]) (fun a=>tpC a.1) (fun a=>(.agg (grC (zlt0 a.1 a.2).1),tpC (zlt0 a.1 a.2).2))
theorem zs2t {t:Tp} {x:Sl Dg} (h1:t.at_<3999999000) (h2:1≤x.l.length):cGrp [x.dv 32 dgC] (tpC t)=some (.agg (grC (zlt0 t x).1),tpC (zlt0 t x).2) :=
 ztyo (A:=fun a:Tp × Sl Dg=>a.1.at_<3999999000∧1≤a.2.l.length) (f:=fun a=>[a.2.dv 32 dgC]) (s:=fun a=>tpC a.1) (by
  rintro ⟨a,n⟩ ⟨b,m⟩ e1 e2;simp only [List.cons.injEq,and_true] at e1;rw [z42k e1,z15z e2]) (t,x) ⟨h1,h2⟩
theorem zohn:(Con.tch cGrp).Sound P 66 :=
 z0tq (fun a _=>⟨by simp [zbao],zs7w _,by simp [zyp8],zs7w _⟩) fun a h=>zizi mix zqob Tryz.func66 z3a6 (zd42 a.1 a.2 h.1 h.2) (y03 _)
def zdmg:Sl Dg:=⟨some true,[dgW 1#8,dgW 2#8,dgW 3#8],by simp,by simp⟩
def nilI:Sl Ins:=⟨none,[],fun _=>rfl,by simp⟩
def nilG:Sl Grp:=⟨none,[],fun _=>rfl,by simp⟩
noncomputable def dOne (c:Clu) (t:Tp):Clu:=if (zxl9 c (zlt0 t zdmg).1).2=0 then (zxl9 c (zlt0 t zdmg).1).1 else c
noncomputable def zp0i:Nat→Clu→Tp→Clu × Tp
 | 0,c,t=>(c,t)
 | k+1,c,t=>zp0i k (dOne c t) (zlt0 t zdmg).2
def iIns (n:Nat) (next:Int) (t:Tp):Ins:=⟨next,tpN t n,zdmg.l.getD (tpN (tpS t n) 3).toNat dg0,1+tpN ((tpS t n).adv 1) 3,tpN ((tpS t n).adv 2) 30,if tpN ((tpS t n).adv 3) 3=0 then tpN ((tpS t n).adv 4) 30 else -1⟩
def iTp (n:Nat) (t:Tp):Tp:=if tpN ((tpS t n).adv 3) 3=0 then (tpS t n).adv 5 else (tpS t n).adv 4
def zgc4 (n:Nat):Nat→List Ins→Int→Tp→List Ins × Int × Tp
 | 0,l,next,t=>(l,next,t)
 | k+1,l,next,t=>zgc4 n k (l++[iIns n next t]) (next+(1+tpN (iTp n t) 2)) ((iTp n t).adv 1)
def cl0 (t:Tp):Clu:=⟨nilG,nilI,1+tpN t 4⟩
noncomputable def clD (t:Tp):Clu × Tp:=zp0i ((tpN (t.adv 1) 2).toNat+1) (cl0 t) (t.adv 2)
noncomputable def clI (t:Tp) (m:Int):List Ins × Int × Tp:=zgc4 (clD t).1.g.l.length (tpN (clD t).2 (m+1)).toNat [] (clD t).1.next ((clD t).2.adv 1)
noncomputable def zcpt (t:Tp) (m:Int):Clu × Tp:=(⟨(clD t).1.g,if (clI t m).1=[] then nilI else own (clI t m).1,(clI t m).2.1⟩,(clI t m).2.2)
theorem zctk {c:Clu} {g:Grp} (h:(zxl9 c g).2=0) (hi:c.i=nilI):(zxl9 c g).1.i=nilI:=by
 have a:nilI.copy=nilI:=rfl;unfold zxl9 at h ⊢;split at h<;>try (simp at h; done)
 rename_i h1
 rw [if_neg h1];split at h
 ·rename_i h2
  rw [if_pos h2];split at h<;>try (simp at h; done)
  rename_i h3
  rw [if_neg h3,hi]; rfl
 ·rename_i h2
  rw [if_neg h2,hi]; rfl
theorem zsvm {c:Clu} {t:Tp} (hi:c.i=nilI):(dOne c t).i=nilI:=by
 unfold dOne; split
 ·rename_i h; exact zctk h hi
 ·exact hi
theorem zkcx : ∀ (k:Nat) (c:Clu) (t:Tp),(zp0i k c t).2.at_≤t.at_+15*k
 | 0,_,_=>y03 _
 | k+1,c,t=>by
  have h1:=zkcx k (dOne c t) (zlt0 t zdmg).2;have h2:=z4ft t zdmg;show (zp0i k (dOne c t) (zlt0 t zdmg).2).2.at_≤_;omega
theorem zjgn (n:Nat) (t:Tp):(iTp n t).at_≤t.at_+6:=by
 have:=z7xa t n;unfold iTp; split<;>simp<;>omega
noncomputable def zf02 (g:Clu→Grp→DV):List DV→Option DV:=con (fun _=>True) (fun p:Clu × Grp=>[.agg (clC p.1),.agg (grC p.2)]) (fun p=>g p.1 p.2)
theorem z26u {f:Clu→Grp→DV} {c:Clu} {g:Grp}:zf02 f [.agg (clC c),.agg (grC g)]=some (f c g) :=
 zsn4 (f:=fun p:Clu × Grp=>[.agg (clC p.1),.agg (grC p.2)]) (by
  rintro ⟨a,b⟩ ⟨a',b'⟩ e;simp only [List.cons.injEq,DV.agg.injEq,and_true] at e;rw [zh7t e.1,zs5w e.2]) (c,g)
noncomputable def T180:Tbl:=addT 13 (.tch z1m3) (addT 66 (.tch cGrp) (addT 65 (.pure (zf02 z52c)) tbl0))
theorem zjpl:T180 13 = .tch z1m3:=by simp [T180]
theorem zzcy:T180 66 = .tch cGrp:=by simp [T180]
theorem z4q2:T180 65 = .pure (zf02 z52c):=by simp [T180]
theorem z0cc:T180.Sound P:=z0rp z51e (z0rp zohn (z0rp (z2au fun p _=>zljw mix zfgl Tryz.func65 zh04 (z0hz p.1 p.2)) zr5o))
theorem z1ip:zdmg.dv 32 dgC = .sl true 32 3 (dgC (dgW 1#8)++(dgC (dgW 2#8)++dgC (dgW 3#8))):=by simp [zdmg,Sl.dv,slD]
structure DS where
 k:Nat
 c:Clu
 t:Tp
def S180 (m:Int) (a:DS):St:=zqr3 (.mp 0 2 0) (.int .i64 m) (.mp 1 3 0) (zdmg.dv 32 dgC) (.mp 2 3 0) (.int .i64 a.k) [.cells (tpC a.t),.cells [.nils,.nils,.int .i64 0],.cells (clC a.c)]
theorem zt3y:bslD 32 3 (dgC dg0) [(0,32,.agg (dgC (dgW 1#8))),(32,32,.agg (dgC (dgW 2#8))),(64,32,.agg (dgC (dgW 3#8)))]=some (zdmg.dv 32 dgC):=by
 rw [z7bw (by simp [DV.known]) (by simp [seqD,DV.cells])]; simp [seqD,DV.cells,zdmg,Sl.dv,slD]
theorem z7ol {n:Int}:zvnk [.nils,.nils,.int .i64 0] [(2,1,.int .i64 n)]=some (.agg [.nils,.nils,.int .i64 n]):=rfl
theorem zk2b {c:Clu} {g:Grp} (h:(zxl9 c g).2=0):(zxl9 c g).1.next=c.next:=by
 unfold zxl9 at h ⊢;split at h<;>try (simp at h; done)
 rename_i h1
 rw [if_neg h1];split at h
 ·rename_i h2
  rw [if_pos h2];split at h<;>try (simp at h; done)
  rename_i h3
  rw [if_neg h3]
 ·rename_i h2
  rw [if_neg h2]
theorem zouy {c:Clu} {t:Tp}:(dOne c t).next=c.next:=by
 unfold dOne; split
 ·rename_i h; exact zk2b h
 ·rfl
structure IS where
 k:Nat
 l:List Ins
 n:Int
 t:Tp
 x:Ins
def iH (g:Sl Grp) (a:IS):List AObj:=if a.l=[] then [.cells (tpC a.t),.cells [.nils,.nils,.int .i64 0],.cells [g.dv 6 grC,.nils,.int .i64 a.n]] else
 [.cells (tpC a.t),.cells [.nils,.nils,.int .i64 0],.cells [g.dv 6 grC,.ms 4 (a.l.length*37) 0 37 a.l.length (a.l.length*37),.int .i64 a.n],.cells (inC a.x),.cells (a.l.flatMap inC)]
theorem zycw {g:Sl Grp} {a:IS} (h:a.l=[]):iH g a=[.cells (tpC a.t),.cells [.nils,.nils,.int .i64 0],.cells [g.dv 6 grC,.nils,.int .i64 a.n]]:=if_pos h
theorem zywk {g:Sl Grp} {a:IS} (h:a.l≠[]):iH g a=[.cells (tpC a.t),.cells [.nils,.nils,.int .i64 0],.cells [g.dv 6 grC,.ms 4 (a.l.length*37) 0 37 a.l.length (a.l.length*37),.int .i64 a.n],.cells (inC a.x),.cells (a.l.flatMap inC)]:=if_neg h
def S181 (g:Sl Grp) (a:IS):St:=zsio (.mp 0 2 0) (.mp 1 3 0) (zdmg.dv 32 dgC) (.mp 2 3 0) (.int .i64 a.k) (iH g a)
def in0:Ins:=⟨0,0,dg0,0,0,0⟩
theorem zvod:[DV.int .i64 0,.int .i64 0,w8 0#8,w8 0#8,w8 0#8,w8 0#8,w8 0#8,w8 0#8,w8 0#8,w8 0#8,w8 0#8,w8 0#8,w8 0#8,w8 0#8,w8 0#8,w8 0#8,w8 0#8,w8 0#8,w8 0#8,w8 0#8,w8 0#8,w8 0#8,w8 0#8,w8 0#8,w8 0#8,w8 0#8,w8 0#8,w8 0#8,w8 0#8,w8 0#8,w8 0#8,w8 0#8,w8 0#8,w8 0#8,.int .i64 0,.int .i64 0,.int .i64 0]=inC in0:=rfl
theorem zdwi (x:Ins) (v:Int):(inC x).set 36 (.int .i64 v)=inC ⟨x.id,x.grp,x.art,x.state,x.since,v⟩:=by
 have h:=zqxx x;rw [zdp7,zdp7,y0b _ _ (by omega),h]
 rfl
theorem zvci (t:Tp) (m:Int) (ht:t.at_<3990000000) (h0:0≤m) (h1:m≤1000):RunsF T180 a38 [.mp 0 2 0,.int .i64 m] [.cells (tpC t)] (.agg (clC (zcpt t m).1)) [.cells (tpC (zcpt t m).2)]:=by
 refine ⟨?_⟩;have n1:=z4rs t 4;have n2:=z2s7 t (n:=4) (by omega)
 have n3:=z4rs (t.adv 1) 2;have n4:=z2s7 (t.adv 1) (n:=2) (by omega)
 obtain ⟨N,hN⟩ : ∃ N:Nat,tpN (t.adv 1) 2=N:=⟨_,(y06 n3).symm⟩;simp (disch:=first|omega|simp<;>omega|fail) [-zE,a38,zjpl,z44h,zjmf,z7ni,zt3y,z7ol,hN];refine zlm5 (S180 m) (fun a=>a.k) (fun a=>zp0i a.k a.c a.t=clD t∧a.t.at_+100*a.k<3995000000∧a.c.i=nilI∧a.c.next=1+tpN t 4) ⟨N+1,cl0 t,t.adv 2⟩ ?_ ?_ (fun a ha => ?_)
 ·exact z515 (by simp (disch:=first|omega|simp<;>omega|fail) [-zE,S180,zqr3,z1ip,show (1+(N:Int))=N+1 from Int.add_comm _ _]) (by simp (disch:=first|omega|simp<;>omega|fail) [-zE,S180,cl0,zdhs,nilG,nilI,Sl.dv,zbpn])
 ·exact ⟨by simp [clD,hN],by simp; omega,rfl,rfl⟩
 obtain ⟨k,c,u⟩:=a;obtain ⟨x,S,O,T⟩:=ha;simp only at x S O T;simp (disch:=first|omega|simp<;>omega|fail) [-zE,zy47,zqr3,S180];by_cases hk:0<k
 ·obtain ⟨k,rfl⟩ : ∃ k',k=k'+1:=⟨k-1,by omega⟩
  have p:(0:Int)<((k+1:Nat):Int):=by omega
  have g1:=z4ft u zdmg;have e:zp0i k (dOne c u) (zlt0 u zdmg).2=clD t:=x;have C:1≤zdmg.l.length:=by simp [zdmg]
  have Z:=zsvm (t:=u) O;have a0:=zouy (c:=c) (t:=u);obtain ⟨G,R⟩ : ∃ G,(zlt0 u zdmg).1=G:=⟨_,rfl⟩;obtain ⟨V,X⟩ : ∃ V,(zlt0 u zdmg).2=V:=⟨_,rfl⟩;obtain ⟨E,Q⟩ : ∃ E,zxl9 c G=E:=⟨_,rfl⟩;rw [X] at g1 e;by_cases he:E.2=0
  ·have D:dOne c u=E.1:=by rw [dOne,R,Q,if_pos he]
   simp (disch:=first|omega|simp<;>omega|fail) [-zE,zzcy,z4q2,zs2t,z26u,z52c,R,X,Q,he,C];refine ⟨⟨k,E.1,V⟩,zju2 (tail:=[.cells (clC E.1)]) (by simp (disch:=first|omega|simp<;>omega|fail) [-zE,S180,zqr3]) (by simp (disch:=first|omega|simp<;>omega|fail) [-zE,S180]) (by simp [S180,zqr3]) (by simp [S180,zqr3,Am.belowL,Am.below]) (by simp [S180,zqr3,zlf2,Am.belowL,Am.below,zmq5 _ _ (zs7w _)]),by simp,by rw [← D]; exact e,by simp; omega,by rw [← D]; exact Z,by rw [← D,a0]; exact T⟩
  ·have D:dOne c u=c:=by rw [dOne,R,Q,if_neg he]
   simp (disch:=first|omega|simp<;>omega|fail) [-zE,zzcy,z4q2,zs2t,z26u,z52c,R,X,Q,he,C];refine ⟨⟨k,c,V⟩,zju2 (tail:=[.cells (clC E.1)]) (by simp (disch:=first|omega|simp<;>omega|fail) [-zE,S180,zqr3]) (by simp (disch:=first|omega|simp<;>omega|fail) [-zE,S180]) (by simp [S180,zqr3]) (by simp [S180,zqr3,Am.belowL,Am.below]) (by simp [S180,zqr3,zlf2,Am.belowL,Am.below,zmq5 _ _ (zs7w _)]),by simp,by rw [D] at e; exact e,by simp; omega,O,T⟩
 obtain rfl:k=0:=by omega
 have ec:clD t=(c,u):=x.symm;have m1:=z4rs u (m+1);have m2:=z2s7 u (n:=m+1) (by omega)
 obtain ⟨K,hK⟩ : ∃ K:Nat,tpN u (m+1)=K:=⟨_,(y06 m1).symm⟩;obtain ⟨g,ci,nx⟩:=c;simp only at O T;subst O;have hI:clI t m=zgc4 g.l.length K [] nx (u.adv 1):=by rw [clI,ec]; simp only [hK,y01]
 obtain ⟨r,hr⟩ : ∃ r,zgc4 g.l.length K [] nx (u.adv 1)=r:=⟨_,rfl⟩;have Y:zcpt t m=(⟨g,if r.1=[] then nilI else own r.1,r.2.1⟩,r.2.2):=by rw [zcpt,hI,hr,ec]
 rw [Y];have a3:=g.b;simp (disch:=first|omega|simp<;>omega|fail) [-zE,zjpl,z44h,hK];refine zlm5 (S181 g) (fun a=>a.k) (fun a=>zgc4 g.l.length a.k a.l a.n a.t=r∧a.t.at_+100*a.k<3999999000∧0≤a.n∧a.n+2*a.k≤10000∧a.l.length+a.k≤2000) ⟨K,[],nx,u.adv 1,in0⟩ ?_ ?_ (fun a ha => ?_)
 ·rw [S181,zycw rfl];exact z515 (by simp (disch:=first|omega|simp<;>omega|fail) [-zE,zsio]) (by simp (disch:=first|omega|simp<;>omega|fail) [-zE,zdhs,nilI,Sl.dv,zbpn])
 ·exact ⟨hr,by simp; omega,by simp; omega,by simp; omega,by simp; omega⟩
 clear x S;obtain ⟨k,l,n,v,x0⟩:=a;obtain ⟨x,S,q1,q2,L⟩:=ha;simp only at x S q1 q2 L;by_cases hk:0<k
 ·obtain ⟨k,rfl⟩ : ∃ k',k=k'+1:=⟨k-1,by omega⟩
  have p:(0:Int)<((k+1:Nat):Int):=by omega
  have hU:=z7xa v g.l.length;obtain ⟨U,f⟩ : ∃ U,tpS v g.l.length=U:=⟨_,rfl⟩;rw [f] at hU;have p1:=z4rs U 3;have p2:=z2s7 U (n:=3) (by omega)
  obtain ⟨M,B⟩ : ∃ M:Nat,tpN U 3=M:=⟨_,(y06 p1).symm⟩;have y:M<zdmg.l.length:=by simp [zdmg]; omega
  have j : ∀ H,zpsc H 32 (zdmg.dv 32 dgC) M=some (.ref (dgC zdmg.l[M])):=fun H=>zalo z1t1 y
  have s : ∀ b,z87v (zdmg.dv 32 dgC) b=b.known:=fun b=>zd7a rfl
  have p3:=z4rs (U.adv 1) 3;have p4:=z2s7 (U.adv 1) (n:=3) (by omega)
  by_cases hz:tpN (U.adv 3) 3=0
  ·skip
   have z:=z4rs (U.adv 5) 2;have A:=z2s7 (U.adv 5) (n:=2) (by omega)
   obtain ⟨J,w⟩ : ∃ J,tpN (U.adv 5) 2=J:=⟨_,rfl⟩;rw [w] at z A;have hx:iIns g.l.length n v=⟨n,tpN v g.l.length,zdmg.l[M],1+tpN (U.adv 1) 3,tpN (U.adv 2) 30,(tpN (U.adv 4) 30)⟩:=by
    simp only [iIns,f,B,y01,y02,y00 y,y0h,hz,if_true,if_false]
   have W:iTp g.l.length v=(U.adv 5):=by simp only [iTp,f,hz,if_true,if_false]
   have e:zgc4 g.l.length k (l++[iIns g.l.length n v]) (n+(1+tpN (iTp g.l.length v) 2)) ((iTp g.l.length v).adv 1)=r:=x;rw [hx,W,w,zjmf] at e;have d:(DV.int .i64 n::DV.int .i64 (tpN v g.l.length)::(dgC zdmg.l[M]++[DV.int .i64 (1+tpN (U.adv 1) 3),DV.int .i64 (tpN (U.adv 2) 30),DV.int .i64 (-1)]))=inC ⟨n,tpN v g.l.length,zdmg.l[M],1+tpN (U.adv 1) 3,tpN (U.adv 2) 30,-1⟩:=rfl;have o:(DV.int .i64 n::DV.int .i64 (tpN v g.l.length)::(dgC zdmg.l[M]++[DV.int .i64 (1+tpN (U.adv 1) 3),DV.int .i64 (tpN (U.adv 2) 30),DV.int .i64 (tpN (U.adv 4) 30)]))=inC ⟨n,tpN v g.l.length,zdmg.l[M],1+tpN (U.adv 1) 3,tpN (U.adv 2) 30,tpN (U.adv 4) 30⟩:=rfl;by_cases hl:l=[]
   ·skip
    subst hl;rw [S181,zycw rfl];simp (disch:=first|omega|simp<;>omega|fail) [-zE,zwu9,zsio,zjpl,z44h,zs7j,zjmf,f,B,j,zbcp,zvod,zfu8,zd00,zp4m,p,hz,w,s,d,Ins.de,zdwi,o];refine ⟨⟨k,[(⟨n,tpN v g.l.length,zdmg.l[M],1+tpN (U.adv 1) 3,tpN (U.adv 2) 30,(tpN (U.adv 4) 30)⟩:Ins)],n+(1+J),(U.adv 6),(⟨n,tpN v g.l.length,zdmg.l[M],1+tpN (U.adv 1) 3,tpN (U.adv 2) 30,(tpN (U.adv 4) 30)⟩:Ins)⟩,?_,by simp,by simpa using e,by simp; omega,by simp; omega,by simp; omega,by simp at L ⊢; omega⟩
    rw [S181,zywk (by simp)]
    exact z515 (by simp (disch:=first|omega|simp<;>omega|fail) [-zE,zsio]) (by simp (disch:=first|omega|simp<;>omega|fail) [-zE,Ins.de])
   ·have h:=z1rq z6gw l;have q:=zp6k z9kv l;rw [S181,zywk hl];simp (disch:=first|omega|simp<;>omega|fail) [-zE,zwu9,zsio,zjpl,z44h,zs7j,zjmf,f,B,j,zbcp,zvod,zfu8,zd00,zp4m,p,hz,w,s,d,Ins.de,zdwi,o,h];refine ⟨⟨k,l++[(⟨n,tpN v g.l.length,zdmg.l[M],1+tpN (U.adv 1) 3,tpN (U.adv 2) 30,(tpN (U.adv 4) 30)⟩:Ins)],n+(1+J),(U.adv 6),x0⟩,?_,by simp,e,by simp; omega,by simp; omega,by simp; omega,by simp at L ⊢; omega⟩
    rw [S181,zywk (by simp)]
    exact zju2 (tail:=[.cells (inC (⟨n,tpN v g.l.length,zdmg.l[M],1+tpN (U.adv 1) 3,tpN (U.adv 2) 30,(tpN (U.adv 4) 30)⟩:Ins))]) (by simp (disch:=first|omega|simp<;>omega|fail) [-zE,zsio]) (by simp (disch:=first|omega|simp<;>omega|fail) [-zE,y0t,Ins.de]) (by simp [zsio]) (by simp [zsio,Am.belowL,Am.below]) (by simp [zsio,zlf2,Am.belowL,Am.below,zmq5 _ _ (zs7w _),zmq5 _ _ (zg0c q (z9kv _))])
  ·skip
   have z:=z4rs (U.adv 4) 2;have A:=z2s7 (U.adv 4) (n:=2) (by omega)
   obtain ⟨J,w⟩ : ∃ J,tpN (U.adv 4) 2=J:=⟨_,rfl⟩;rw [w] at z A;have hx:iIns g.l.length n v=⟨n,tpN v g.l.length,zdmg.l[M],1+tpN (U.adv 1) 3,tpN (U.adv 2) 30,(-1)⟩:=by
    simp only [iIns,f,B,y01,y02,y00 y,y0h,hz,if_true,if_false]
   have W:iTp g.l.length v=(U.adv 4):=by simp only [iTp,f,hz,if_true,if_false]
   have e:zgc4 g.l.length k (l++[iIns g.l.length n v]) (n+(1+tpN (iTp g.l.length v) 2)) ((iTp g.l.length v).adv 1)=r:=x;rw [hx,W,w,zjmf] at e;have d:(DV.int .i64 n::DV.int .i64 (tpN v g.l.length)::(dgC zdmg.l[M]++[DV.int .i64 (1+tpN (U.adv 1) 3),DV.int .i64 (tpN (U.adv 2) 30),DV.int .i64 (-1)]))=inC ⟨n,tpN v g.l.length,zdmg.l[M],1+tpN (U.adv 1) 3,tpN (U.adv 2) 30,-1⟩:=rfl;by_cases hl:l=[]
   ·skip
    subst hl;rw [S181,zycw rfl];simp (disch:=first|omega|simp<;>omega|fail) [-zE,zwu9,zsio,zjpl,z44h,zs7j,zjmf,f,B,j,zbcp,zvod,zfu8,zd00,zp4m,p,hz,w,s,d,Ins.de,zdwi];refine ⟨⟨k,[(⟨n,tpN v g.l.length,zdmg.l[M],1+tpN (U.adv 1) 3,tpN (U.adv 2) 30,(-1)⟩:Ins)],n+(1+J),(U.adv 5),(⟨n,tpN v g.l.length,zdmg.l[M],1+tpN (U.adv 1) 3,tpN (U.adv 2) 30,(-1)⟩:Ins)⟩,?_,by simp,by simpa using e,by simp; omega,by simp; omega,by simp; omega,by simp at L ⊢; omega⟩
    rw [S181,zywk (by simp)]
    exact z515 (by simp (disch:=first|omega|simp<;>omega|fail) [-zE,zsio]) (by simp (disch:=first|omega|simp<;>omega|fail) [-zE,Ins.de])
   ·have h:=z1rq z6gw l;have q:=zp6k z9kv l;rw [S181,zywk hl];simp (disch:=first|omega|simp<;>omega|fail) [-zE,zwu9,zsio,zjpl,z44h,zs7j,zjmf,f,B,j,zbcp,zvod,zfu8,zd00,zp4m,p,hz,w,s,d,Ins.de,zdwi,h];refine ⟨⟨k,l++[(⟨n,tpN v g.l.length,zdmg.l[M],1+tpN (U.adv 1) 3,tpN (U.adv 2) 30,(-1)⟩:Ins)],n+(1+J),(U.adv 5),x0⟩,?_,by simp,e,by simp; omega,by simp; omega,by simp; omega,by simp at L ⊢; omega⟩
    rw [S181,zywk (by simp)]
    exact zju2 (tail:=[.cells (inC (⟨n,tpN v g.l.length,zdmg.l[M],1+tpN (U.adv 1) 3,tpN (U.adv 2) 30,(-1)⟩:Ins))]) (by simp (disch:=first|omega|simp<;>omega|fail) [-zE,zsio]) (by simp (disch:=first|omega|simp<;>omega|fail) [-zE,y0t,Ins.de]) (by simp [zsio]) (by simp [zsio,Am.belowL,Am.below]) (by simp [zsio,zlf2,Am.belowL,Am.below,zmq5 _ _ (zs7w _),zmq5 _ _ (zg0c q (z9kv _))])
 ·obtain rfl:k=0:=by omega
  have er:r=(l,n,v):=x.symm;subst er;have I : ∀ k,fzL 1 k (tpC v) (tpC v):=fun k=>znnb (zs7w _)
  have F : ∀ H k,fz 1 H k (g.dv 6 grC)=some (g.dv 6 grC):=fun H k=>zqge (z1vd g)
  have a1:nilI.dv 37 inC = .nils:=rfl;by_cases hl:l=[]
  ·subst hl;rw [S181,zycw rfl];simp (disch:=first|omega|simp<;>omega|fail) [-zE,zwu9,zsio,I,F,a1,zdhs]
  ·have h:=z1rq z6gw l;have q:=zp6k z9kv l;have a2:=z5fn (l:=l) (y03 _);rw [S181,zywk hl];simp (disch:=first|omega|simp<;>omega|fail) [-zE,zwu9,zsio,I,F,zdhs,h,a2,hl,zqrs,zojd q]
noncomputable def cClu:List DV→List DV→Option (DV × List DV):=conT (fun a:Tp × Int=>a.1.at_<3990000000∧0≤a.2∧a.2≤1000) (fun a=>[.int .i64 a.2]) (fun a=>tpC a.1) (fun a=>(.agg (clC (zcpt a.1 a.2).1),tpC (zcpt a.1 a.2).2))
theorem z9dl {t:Tp} {m:Int} (h1:t.at_<3990000000) (h2:0≤m) (h3:m≤1000):cClu [.int .i64 m] (tpC t)=some (.agg (clC (zcpt t m).1),tpC (zcpt t m).2) :=
 ztyo (A:=fun a:Tp × Int=>a.1.at_<3990000000∧0≤a.2∧a.2≤1000) (f:=fun a=>[.int .i64 a.2]) (s:=fun a=>tpC a.1) (by
  rintro ⟨a,n⟩ ⟨b,m⟩ e1 e2;simp only [List.cons.injEq,DV.int.injEq,true_and,and_true] at e1;rw [e1,z15z e2]) (t,m) ⟨h1,h2,h3⟩
theorem zwvn:(Con.tch cClu).Sound P 38 :=
 z0tq (fun a _=>⟨rfl,zs7w _,by simp [zyp8],zs7w _⟩) fun a h=>zizi mix z0cc Tryz.func38 zclx (zvci a.1 a.2 h.1 h.2.1 h.2.2) (y03 _)
end
section
theorem z1f1 {l:List Dg} {d:Dg} (h1:l.Nodup) (h2 : ∀ x ∈ l,x≠dg0) (hd:d≠dg0):(gAdd l d).Nodup∧(∀ x ∈ gAdd l d,x≠dg0):=by
 unfold gAdd;split
 ·exact ⟨h1,h2⟩
 ·rename_i hn
  refine ⟨List.nodup_append.2 ⟨h1,by simp,fun a ha b hb => ?_⟩,fun x hx => ?_⟩
  ·simp at hb; subst hb; exact fun e=>hn (e▸ha)
  ·rcases List.mem_append.1 hx with h|h
   ·exact h2 x h
   ·simp at h; subst h; exact hd
theorem zfn5 : ∀ x ∈ zdmg.l,x≠dg0:=by
 intro x hx;simp only [zdmg,y0g,List.not_mem_nil,or_false] at hx;rcases hx with rfl|rfl|rfl<;>decide
theorem zeo1 {x:Sl Dg} (hx : ∀ d ∈ x.l,d≠dg0) (h0:1≤x.l.length) (t:Tp):(gOne x t).1≠dg0:=by
 unfold gOne;split
 ·have b:=z4rs (t.adv 2) x.l.length;have c:=z2s7 (t.adv 2) (n:=x.l.length) (by omega)
  have a:(tpN (t.adv 2) x.l.length).toNat<x.l.length:=by omega
  simp only [y02,y00 a,y0h];exact hx _ (y05 a)
 ·exact z7d3 t
theorem zqz7 {x:Sl Dg} (hx : ∀ d ∈ x.l,d≠dg0) (h0:1≤x.l.length) : ∀ (k:Nat) (t:Tp) (l:List Dg),l.Nodup→(∀ d ∈ l,d≠dg0)→(zz63 x k t l).1.Nodup∧(∀ d ∈ (zz63 x k t l).1,d≠dg0)∧(zz63 x k t l).1.length≤l.length+k
 | 0,t,l,h1,h2=>⟨h1,h2,y03 _⟩
 | k+1,t,l,h1,h2=>by
  obtain ⟨g1,g2⟩:=z1f1 h1 h2 (zeo1 hx h0 t);obtain ⟨k1,k2,k3⟩:=zqz7 hx h0 k (gOne x t).2 (gAdd l (gOne x t).1) g1 g2;have:=z3m3 l (gOne x t).1;exact ⟨k1,k2,by show (zz63 x k (gOne x t).2 (gAdd l (gOne x t).1)).1.length≤_; omega⟩
theorem zw8p {l:List Dg} (h1:l.Nodup) (h2 : ∀ d ∈ l,d≠dg0):okCh l:=by
 intro i hi;refine ⟨h2 _ (y05 hi),fun hm => ?_⟩
 obtain ⟨j,a,e⟩:=y0j hm;simp at a;rw [List.getElem_take] at e;have:=(List.getElem_inj (xs:=l) (i:=j) (j:=i) (h₀:=by omega) (h₁:=hi) h1).1 e
 omega
theorem ztyj {t:Tp} {a b:List UInt8} (ha:zj1f a=true) (hb:zj1f b=true):zj1f (zzh5 t [a,b])=true:=by
 have:=zqrp t (l:=[a,b]) (by simp)
 simp only [y0g,List.not_mem_nil,or_false] at this;rcases this with e|e<;>rw [e]<;>assumption
theorem zjze (t:Tp) {x:Sl Dg} (hx : ∀ d ∈ x.l,d≠dg0) (h0:1≤x.l.length):ValidG (zlt0 t x).1:=by
 have f:=z4rs (t.adv 2) 4;have i:=z2s7 (t.adv 2) (n:=4) (by omega)
 have g:=z4rs (t.adv 3) (tpN (t.adv 2) 4+1);have j:=z2s7 (t.adv 3) (n:=tpN (t.adv 2) 4+1) (by omega)
 have h:=z4rs (t.adv 4) (tpN (t.adv 2) 4+1);have k:=z2s7 (t.adv 4) (n:=tpN (t.adv 2) 4+1) (by omega)
 have m:=z4rs (t.adv 5) 3;have o:=z2s7 (t.adv 5) (n:=3) (by omega)
 obtain ⟨b,c,e⟩:=zqz7 hx h0 ((tpN (t.adv 5) 3).toNat+1) (t.adv 6) [] (by simp) (by simp)
 simp only [y0r] at e;have a:(zlt0 t x).1.ch.l=(zz63 x ((tpN (t.adv 5) 3).toNat+1) (t.adv 6) []).1:=z3e9 (by omega)
 refine ⟨ztyj (by decide) (by decide),ztyj (by decide) (by decide),f,by show tpN (t.adv 2) 4≤8; omega,g,by show tpN (t.adv 3) _≤tpN (t.adv 2) 4; omega,h,by show tpN (t.adv 4) _≤tpN (t.adv 2) 4; omega,by rw [a]; omega,by rw [a]; exact zw8p b c⟩
theorem zr8d (g:Grp):fitG g.ns g.im g=true:=by simp [fitG]
theorem z6sw {a b:Grp} (h1:a.ns=b.ns) (h2:a.im=b.im) (ns im:List UInt8):fitG ns im a=fitG ns im b:=by simp [fitG,h1,h2]
structure UG (l:List Grp):Prop where
 n:l.length≤16
 g : ∀ i (h:i<l.length),ValidG l[i]∧z9w0 l l[i].ns l[i].im=i
theorem zlgs {l:List Grp} {g:Grp} (h:UG l) (hg:ValidG g) (hx:z9w0 l g.ns g.im<0) (hn:l.length<16):UG (l++[g]):=by
 refine ⟨by simp; omega,fun i hi => ?_⟩
 simp only [y0m,List.length_singleton] at hi;by_cases hil:i<l.length
 ·rw [y07 hil];obtain ⟨c,a⟩:=h.g i hil;refine ⟨c,zy9u (by simp; omega) ?_ (fun j hj hji => ?_)⟩
  ·rw [y07 hil]; exact zr8d _
  ·rw [y07 (by omega)]
   obtain ⟨k,m,d,f,b⟩:=ziel (p:=fitG l[i].ns l[i].im) (l:=l) (by rw [show ixI (fitG l[i].ns l[i].im) l=(i:Int) from a]; omega)
   have:k=i:=by
    have:ixI (fitG l[i].ns l[i].im) l=(i:Int):=a;omega
   subst this;exact b j (by omega) hji
 ·have e:i=l.length:=by omega
  subst e;rw [y0e (y03 _)];simp only [y0q,y0u];refine ⟨hg,zy9u (by simp) ?_ (fun j hj hji => ?_)⟩
  ·rw [y0e (y03 _)]; simp only [y0q,y0u]; exact zr8d _
  ·rw [y07 hji]; exact z378 hx j hji
theorem zaam {l l':List Grp} (hl:l.length=l'.length) (h : ∀ i (h1:i<l.length) (h2:i<l'.length),l[i].ns=l'[i].ns∧l[i].im=l'[i].im) (ns im:List UInt8):z9w0 l ns im=z9w0 l' ns im:=by
 by_cases hx:0≤z9w0 l ns im
 ·obtain ⟨k,b,a,c,d⟩:=ziel hx;have a:z9w0 l ns im=k:=a;rw [a];refine (zy9u (by omega) ?_ (fun j hj hji => ?_)).symm
  ·rw [← z6sw (h k b (by omega)).1 (h k b (by omega)).2]; exact c
  ·rw [← z6sw (h j (by omega) hj).1 (h j (by omega) hj).2]; exact d j (by omega) hji
 ·have h1:=zkgb (fitG ns im) l;have h2:z9w0 l ns im = -1:=by have:z9w0 l ns im=ixI (fitG ns im) l:=rfl; omega
  rw [h2];refine (zfki fun j hj => ?_).symm
  rw [← z6sw (h j (by omega) hj).1 (h j (by omega) hj).2]
  exact z378 (show ixI (fitG ns im) l<0 by have:z9w0 l ns im=ixI (fitG ns im) l:=rfl; omega) j (by omega)
theorem z3at {l:List Grp} {g:Grp} {k:Nat} (h:UG l) (hg:ValidG g) (hk:k<l.length) (hx:z9w0 l g.ns g.im=k):UG (l.set k g):=by
 have f:fitG g.ns g.im l[k]=true:=by
  obtain ⟨j,s,q,d,r⟩:=ziel (p:=fitG g.ns g.im) (l:=l) (by rw [show ixI (fitG g.ns g.im) l=(k:Int) from hx]; omega)
  have:j=k:=by have:ixI (fitG g.ns g.im) l=(k:Int):=hx; omega
  subst this; exact d
 have b:l[k].ns=g.ns∧l[k].im=g.im:=by simpa [fitG] using f
 have c : ∀ i (h1:i<(l.set k g).length) (h2:i<l.length),(l.set k g)[i].ns=l[i].ns∧(l.set k g)[i].im=l[i].im:=fun i h1 h2=>by
  rw [List.getElem_set];split
  ·rename_i e; subst e; exact ⟨b.1.symm,b.2.symm⟩
  ·exact ⟨rfl,rfl⟩
 refine ⟨by simpa using h.n,fun i hi => ?_⟩
 have a:i<l.length:=by simpa using hi
 obtain ⟨m,o⟩:=c i hi a;refine ⟨?_,?_⟩
 ·rw [List.getElem_set];split
  ·exact hg
  ·exact (h.g i a).1
 ·rw [m,o,zaam (by simp) c]; exact (h.g i a).2
structure CG (c:Clu):Prop where
 u:UG c.g.l
 i:c.i=nilI
 n0:1≤c.next
 n1:c.next≤4
theorem CG.valid {c:Clu} (h:CG c):ValidC c:=⟨h.u.n,by rw [h.i]; simp [nilI],h.n0,by have:=h.n1; omega,h.u.g,fun i hi=>by rw [h.i] at hi; simp [nilI] at hi⟩
theorem zv26 {c:Clu} {g:Grp} (h:CG c) (hg:ValidG g) (he:(zxl9 c g).2=0):CG (zxl9 c g).1∧(zxl9 c g).1.g.l≠[]:=by
 refine ⟨⟨?_,zctk he h.i,by rw [zk2b he]; exact h.n0,by rw [zk2b he]; exact h.n1⟩,?_⟩ <;>
 ·have d:¬ (¬ ValidC c∨¬ ValidG g):=fun q=>q.elim (fun q=>q h.valid) (fun q=>q hg)
  have m:=h.u.n;unfold zxl9 at he ⊢;rw [if_neg d] at he ⊢;split at he
  ·rename_i hx
   rw [if_pos hx];split at he
   ·simp at he
   ·rename_i hl
    rw [if_neg hl];simp only;rw [z3e9 (by simp; omega)]
    first
     | exact zlgs h.u hg hx (by omega)
     | simp
  ·rename_i hx
   rw [if_neg hx];obtain ⟨k,b,a,f,j⟩:=ziel (show 0≤z9w0 c.g.l g.ns g.im by omega)
   have a:z9w0 c.g.l g.ns g.im=k:=a;simp only;rw [a,y01,z3e9 (by simp; omega)]
   first
    | exact z3at h.u hg b a
    | (intro e; have:=congrArg List.length e; simp at this; rw [this] at b; simp at b)
theorem z9qq {c:Clu} {g:Grp} (h:CG c) (hg:ValidG g) (h0:c.g.l=[]):(zxl9 c g).2=0:=by
 have a:¬ (¬ ValidC c∨¬ ValidG g):=fun q=>q.elim (fun q=>q h.valid) (fun q=>q hg)
 have b:z9w0 c.g.l g.ns g.im<0:=by rw [h0]; simp [z9w0,ixI]
 unfold zxl9;rw [if_neg a,if_pos b,if_neg (by rw [h0]; simp)]
theorem zc4z {c:Clu} {t:Tp} (h:CG c):CG (dOne c t)∧(dOne c t).g.l≠[]:=by
 have a:=zjze t zfn5 (x:=zdmg) (by simp [zdmg])
 unfold dOne;split
 ·rename_i he; exact zv26 h a he
 ·rename_i he
  refine ⟨h,fun h0=>he (z9qq h a h0)⟩
theorem zm72 : ∀ (k:Nat) (c:Clu) (t:Tp),CG c→CG (zp0i k c t).1∧((1≤k∨c.g.l≠[])→(zp0i k c t).1.g.l≠[])
 | 0,c,t,h=>⟨h,fun q=>q.elim (fun q=>by omega) id⟩
 | k+1,c,t,h=>by
  obtain ⟨g1,g2⟩:=zc4z (t:=t) h;obtain ⟨k1,k2⟩:=zm72 k (dOne c t) (zlt0 t zdmg).2 g1;exact ⟨k1,fun _=>k2 (.inr g2)⟩
theorem zoar (t:Tp):CG (cl0 t):=by
 have a:=z4rs t 4;have b:=z2s7 t (n:=4) (by omega)
 exact ⟨⟨by simp [cl0,nilG],fun i hi=>by simp [cl0,nilG] at hi⟩,rfl,by simp only [cl0]; omega,by simp only [cl0]; omega⟩
theorem zfm1 (t:Tp):CG (clD t).1∧(clD t).1.g.l≠[]:=by
 obtain ⟨a,b⟩:=zm72 ((tpN (t.adv 1) 2).toNat+1) (cl0 t) (t.adv 2) (zoar t);exact ⟨a,b (.inl (by omega))⟩
structure IG (ng:Nat) (l:List Ins) (n:Int):Prop where
 s : ∀ x ∈ l,SoundI ng n x
 o:l.Pairwise fun a b=>a.id<b.id
theorem SoundI.up {ng:Nat} {n m:Int} {x:Ins} (h:SoundI ng n x) (hm:n≤m):SoundI ng m x:=⟨h.id0,by have:=h.id1; omega,h.g0,h.g1,h.art,h.s0,h.s1,h.si,h.de⟩
theorem zgsj {ng:Nat} {n m:Int} {t:Tp} (hn:1≤n) (hm:n<m) (hg:1≤ng):SoundI ng m (iIns ng n t):=by
 have b:=z4rs t ng;have f:=z2s7 t (n:=ng) (by omega)
 have g:=z4rs (tpS t ng) 3;have h:=z2s7 (tpS t ng) (n:=3) (by omega)
 have i:=z4rs ((tpS t ng).adv 1) 3;have j:=z2s7 ((tpS t ng).adv 1) (n:=3) (by omega)
 have d:=z4rs ((tpS t ng).adv 2) 30;have k:=z2s7 ((tpS t ng).adv 2) (n:=30) (by omega)
 have e:=z4rs ((tpS t ng).adv 4) 30;have c:=z2s7 ((tpS t ng).adv 4) (n:=30) (by omega)
 have a:(tpN (tpS t ng) 3).toNat<zdmg.l.length:=by simp [zdmg]; omega
 refine ⟨hn,hm,b,by simp only [iIns]; omega,?_,by simp only [iIns]; omega,by simp only [iIns]; omega,⟨d,by simp only [iIns]; omega⟩,?_⟩
 ·simp only [iIns,y02,y00 a,y0h];exact zfn5 _ (y05 a)
 ·simp only [iIns];split
  ·exact .inr ⟨e,by omega⟩
  ·exact .inl rfl
theorem zc7j {ng:Nat} (hg:1≤ng) : ∀ (k:Nat) (l:List Ins) (n:Int) (t:Tp),1≤n→IG ng l n→IG ng (zgc4 ng k l n t).1 (zgc4 ng k l n t).2.1∧1≤(zgc4 ng k l n t).2.1∧(zgc4 ng k l n t).2.1≤n+2*k∧(zgc4 ng k l n t).1.length=l.length+k
 | 0,l,n,t,hn,h=>⟨h,hn,by simp [zgc4],rfl⟩
 | k+1,l,n,t,hn,h=>by
  have j1:=z4rs (iTp ng t) 2;have j2:=z2s7 (iTp ng t) (n:=2) (by omega)
  have hs:IG ng (l++[iIns ng n t]) (n+(1+tpN (iTp ng t) 2)):=by
   refine ⟨fun x hx => ?_,y0v.2 ⟨h.o,by simp,fun a ha b hb => ?_⟩⟩
   ·rcases List.mem_append.1 hx with q|q
    ·exact (h.s x q).up (by omega)
    ·simp at q; subst q; exact zgsj hn (by omega) hg
   ·simp at hb; subst hb; exact (h.s a ha).id1
  obtain ⟨c,d,f,e⟩:=zc7j hg k (l++[iIns ng n t]) (n+(1+tpN (iTp ng t) 2)) ((iTp ng t).adv 1) (by omega) hs
  refine ⟨c,d,?_,?_⟩
  ·show (zgc4 ng k (l++[iIns ng n t]) (n+(1+tpN (iTp ng t) 2)) ((iTp ng t).adv 1)).2.1≤_;omega
  ·show (zgc4 ng k (l++[iIns ng n t]) (n+(1+tpN (iTp ng t) 2)) ((iTp ng t).adv 1)).1.length=_;rw [e]; simp; omega
theorem zy9o {l:List Ins} (h:l.Pairwise fun a b=>a.id<b.id) (i:Nat) (hi:i<l.length) (h0:0<i):l[i-1].id<l[i].id :=
 y0f.1 h (i-1) i (by omega) hi (by omega)
theorem zlnb (t:Tp) (m:Int) (h0:0≤m) (h1:m≤200):ValidC (zcpt t m).1∧(zcpt t m).1.g.l≠[]:=by
 obtain ⟨f,q⟩:=zfm1 t;have y:=z4rs (clD t).2 (m+1);have z:=z2s7 (clD t).2 (n:=m+1) (by omega)
 have k:1≤(clD t).1.g.l.length:=y0d.2 q;obtain ⟨p,r,x,h⟩:=zc7j k (tpN (clD t).2 (m+1)).toNat [] (clD t).1.next ((clD t).2.adv 1) f.n0 ⟨by simp,by simp⟩
 have w:=f.n1;have v:clI t m=zgc4 (clD t).1.g.l.length (tpN (clD t).2 (m+1)).toNat [] (clD t).1.next ((clD t).2.adv 1):=rfl;rw [← v] at p r x h;have a:(zcpt t m).1.i.l=(clI t m).1:=by
  simp only [zcpt];split
  ·rename_i e; rw [e]; rfl
  ·exact z3e9 (by rw [h]; simp; omega)
 have b:(zcpt t m).1.g=(clD t).1.g:=rfl;have d:(zcpt t m).1.next=(clI t m).2.1:=rfl;simp only [y0r,Nat.zero_add] at h;refine ⟨⟨by rw [b]; exact f.u.n,by rw [a,h]; omega,by rw [d]; exact r,by rw [d]; omega,fun i hi=>f.u.g i hi,fun i hi => ?_⟩,q⟩
 have c:i<(clI t m).1.length:=by rw [← a]; exact hi
 have e : ∀ j (hj:j<(zcpt t m).1.i.l.length),(zcpt t m).1.i.l[j]=(clI t m).1[j]'(by rw [← a]; exact hj):=fun j hj=>by simp only [a]
 refine ⟨?_,fun h0 => ?_⟩
 ·rw [e i hi];exact p.s _ (y05 c)
 ·rw [e i hi,e (i-1) (by omega)]
  exact zy9o p.o i c h0
end
section
section
variable {α β:Type} {lt:α→α→Bool}
def insR (lt:α→α→Bool) (x:α) (l:List α):List α:=(l.reverse.dropWhile (lt x)).reverse++x::(l.reverse.takeWhile (lt x)).reverse
def zxu4 (lt:α→α→Bool) (l:List α):List α:=l.foldl (fun a x=>insR lt x a) []
theorem zv9v {x:α} {A B:List α} (hB : ∀ b ∈ B,lt x b=true) (hA:A=[] ∨ ∃ (A':List α) (y:α),A=A'++[y]∧lt x y=false):insR lt x (A++B)=A++x::B:=by
 unfold insR;have a : ∀ b ∈ B.reverse,lt x b=true:=fun b hb=>hB b (List.mem_reverse.1 hb)
 rw [y0w];rw [List.dropWhile_append_of_pos a,List.takeWhile_append_of_pos a];rcases hA with rfl|⟨A',y,rfl,hy⟩
 ·simp
 ·simp [y0k,y0l,hy]
theorem zcx2 {x:α} {l:List α}:(insR lt x l).Perm (x::l):=by
 unfold insR;refine List.perm_middle.trans (List.Perm.cons x ?_);rw [← y0w,List.takeWhile_append_dropWhile];simp
theorem zuk7 {l:List α} {x:α}:zxu4 lt (l++[x])=insR lt x (zxu4 lt l):=by simp [zxu4]
theorem z77f {P:List α→Prop} (h0:P []) (h1 : ∀ l x,P l→P (l++[x])) : ∀ l,P l:=by
 intro l;rw [← List.reverse_reverse l];induction l.reverse with
 | nil=>exact h0
 | cons a r ih=>rw [List.reverse_cons]; exact h1 _ _ ih
theorem zo43 (l:List α):(zxu4 lt l).Perm l:=by
 induction l using z77f with
 | h0=>exact List.Perm.refl _
 | h1 l x ih =>
  rw [zuk7];refine zcx2.trans ((List.Perm.cons x ih).trans ?_);exact (List.perm_append_comm (l₁:=[x]) (l₂:=l))
theorem z0ct {f:α→β} {p:β→Bool} {q:α→Bool} : ∀ {l:List α},(∀ y ∈ l,p (f y)=q y)→(l.map f).takeWhile p=(l.takeWhile q).map f∧(l.map f).dropWhile p=(l.dropWhile q).map f
 | [],_=>⟨rfl,rfl⟩
 | a::l,h=>by
  have ih:=z0ct (l:=l) (fun y hy=>h y (by simp [hy]))
  have ha:=h a (by simp)
  rw [y09,y0l,y0k,y0l,y0k,ha];cases q a<;>simp [ih.1,ih.2]
theorem z25o {f:α→β} {lt':β→β→Bool} {x:α} {l:List α} (h : ∀ y ∈ l,lt' (f x) (f y)=lt x y):insR lt' (f x) (l.map f)=(insR lt x l).map f:=by
 unfold insR;have:=z0ct (f:=f) (p:=lt' (f x)) (q:=lt x) (l:=l.reverse) (fun y hy=>h y (List.mem_reverse.1 hy))
 rw [← List.map_reverse,this.1,this.2];simp
theorem zmcs {f:α→β} {lt':β→β→Bool} : ∀ {l:List α},l.Pairwise (fun y x=>lt' (f x) (f y)=lt x y)→zxu4 lt' (l.map f)=(zxu4 lt l).map f:=by
 intro l;induction l using z77f with
 | h0=>intro _; rfl
 | h1 l x ih =>
  intro h;rw [y0v] at h;obtain ⟨h1,_,a⟩:=h;rw [y0s,y09,y0p,zuk7,zuk7,ih h1];exact z25o fun y hy=>a y ((zo43 l).mem_iff.1 hy) x (by simp)
end
def chos (g:Grp) (x:Ins):Bool:=decide (x.den<0)&&decide (x.art ∈ g.ch.l)
def grAt (c:Clu) (k:Int):Option Grp:=if 0≤k then c.g.l[k.toNat]? else none
def selL (l:List Ins) (k:Int) (p:Ins→Bool):List Ins:=l.filter fun x=>decide (x.grp=k)&&p x
def idsP (c:Clu) (k:Int) (sel:Grp→Ins→Bool):List Int:=match grAt c k with
 | some g=>(selL c.i.l k (sel g)).map Ins.id
 | none=>[]
def z6db (_:Grp) (x:Ins):Bool:=decide (x.state=2)
def z9qu (g:Grp) (x:Ins):Bool:=decide (x.state≠3)&&chos g x
def sDen (_:Grp) (x:Ins):Bool:=decide (x.state=2)&&decide (0≤x.den)
def sRep (g:Grp) (x:Ins):Bool:=decide (x.state=2)&&decide (x.den<0) && !chos g x
def z7e4 (g:Grp) (x:Ins):Bool:=decide (x.state=2)&&chos g x
def zd1c (c:Clu) (k:Int):Nat:=(idsP c k z6db).length
def znqs (c:Clu) (k:Int):List Int:=idsP c k z9qu
def z17v (c:Clu) (k:Int):Int:=match grAt c k with
 | some g=>max ((zd1c c k:Int)-max g.least (g.want-g.down)) 0
 | none=>0
def zfmx (c:Clu) (id:Int):Int:=match c.i.l.find? (fun x=>decide (x.id=id)) with
 | some x=>x.den
 | none=>0
def ltV (c:Clu) (a b:Int):Bool:=decide (zfmx c a<zfmx c b)||(decide (zfmx c a=zfmx c b)&&decide (a<b))
def zu3j (c:Clu) (k:Int):List Int:=match grAt c k with
 | some g=>zxu4 (ltV c) (idsP c k sDen)++(idsP c k sRep++(idsP c k z7e4).reverse.take ((znqs c k).length-g.want).toNat)
 | none=>[]
def z9hf (x:Ins) (gr t:Int):Bool:=decide (x.state≠3)&&(decide (0≤x.den)&&decide (gr≤t-x.den))
def ze9z (l:List Ins) (i:Nat) (gr:List Int) (t:Int):List Int:=match l with
 | []=>[]
 | x::r=>if z9hf x (gr.getD i 0) t=true then x.id::ze9z r (i+1) gr t else ze9z r (i+1) gr t
def zj6b (g:Grp) (x:Ins):Bool:=(decide (x.state=1)||decide (x.state=2))&&(decide (x.den = -1)&&decide (x.art ∈ g.ch.l))
def zvda (x y:Ins):Bool:=decide (x.den<y.den)
def z120 (l:List Ins) (k:Int):List Ins:=zxu4 zvda (selL l k (fun x=>decide (x.state=2)&&decide (0≤x.den)))
def zw7h (g:Grp) (l:List Ins) (k:Int):List Ins:=selL l k (fun x=>decide (x.state=2)&&(decide (x.den<0) && !decide (x.art ∈ g.ch.l)))
def z56d (g:Grp) (l:List Ins) (k:Int):List Ins:=selL l k (fun x=>decide (x.state=2)&&zj6b g x)
def z2f6 (g:Grp) (l:List Ins) (k:Int):List Ins:=z120 l k++(zw7h g l k++(z56d g l k).reverse.take ((selL l k (zj6b g)).length-g.want).toNat)
theorem zcf2 {l:List Ins} {k:Int} {p q:Ins→Bool} (h : ∀ x ∈ l,p x=q x):selL l k p=selL l k q:=by
 unfold selL;refine List.filter_congr fun x hx => ?_
 rw [h x hx]
theorem zrr7 {l:List Ins} {k:Int} {p:Ins→Bool}:(selL l k p).Sublist l:=List.filter_sublist
structure GoodI (l:List Ins):Prop where
 s : ∀ x ∈ l,1≤x.state∧x.state≤3 ∧ -1≤x.den
 d:l.Pairwise (fun x y=>x.id<y.id)
theorem zrab {l:List Ins} (h : ∀ i (h:i<l.length),∀ h0:0<i,(l[i-1]'(by omega)).id<l[i].id):l.Pairwise (fun x y=>x.id<y.id):=by
 rw [y0f];intro i j hi hj hij;induction j with
 | zero=>omega
 | succ j ih =>
  have a:=h (j+1) hj (by omega)
  by_cases e:i=j
  ·subst e; simpa using a
  ·have:=ih (by omega) (by omega)
   simp at a;omega
theorem zyak {c:Clu} (hv:ValidC c):GoodI c.i.l:=by
 refine ⟨fun x hx => ?_,zrab fun i h h0=>(hv.i i h).2 h0⟩
 obtain ⟨i,a,rfl⟩:=y0j hx;obtain ⟨g,_⟩:=hv.i i a;refine ⟨g.s0,g.s1,?_⟩;rcases g.de with e|e
 ·omega
 ·have:=e.1; omega
theorem zm2t {l:List Ins} (hd:l.Pairwise (fun x y=>x.id<y.id)) {x:Ins} (hx:x ∈ l):l.find? (fun y=>decide (y.id=x.id))=some x:=by
 induction l with
 | nil=>simp at hx
 | cons a l ih =>
  rw [List.pairwise_cons] at hd;rw [List.find?_cons];rcases y0g.1 hx with rfl|hx
  ·simp
  ·have:=hd.1 x hx;rw [show decide (a.id=x.id)=false from by simp; omega]
   exact ih hd.2 hx
theorem ze9c {c:Clu} (hg:GoodI c.i.l) {x:Ins} (hx:x ∈ c.i.l):zfmx c x.id=x.den:=by
 unfold zfmx; rw [zm2t hg.d hx]
theorem z2c0 {l l':List Ins} (h:l'.Sublist l) (hd:l.Pairwise (fun x y=>x.id<y.id)):l'.Pairwise (fun x y=>x.id<y.id):=hd.sublist h
theorem zlet {c:Clu} (hg:GoodI c.i.l) {l:List Ins} (hs:l.Sublist c.i.l):zxu4 (ltV c) (l.map Ins.id)=(zxu4 zvda l).map Ins.id:=by
 refine zmcs ?_;refine (z2c0 hs hg.d).imp_of_mem fun {y x} hy hx hlt => ?_
 rw [ltV,zvda,ze9c hg (hs.subset hx),ze9c hg (hs.subset hy)];have:decide (x.id<y.id)=false:=by simp; omega
 rw [this,Bool.and_false,Bool.or_false]
theorem zitu {c:Clu} (hg:GoodI c.i.l) {k:Int} {g:Grp} (hk:grAt c k=some g):zu3j c k=(z2f6 g c.i.l k).map Ins.id:=by
 have b:idsP c k sDen=(selL c.i.l k (fun x=>decide (x.state=2)&&decide (0≤x.den))).map Ins.id:=by unfold idsP; rw [hk]; rfl
 have d:idsP c k sRep=(zw7h g c.i.l k).map Ins.id:=by
  unfold idsP; rw [hk];refine congrArg _ (zcf2 fun x hx => ?_)
  simp only [sRep,chos];cases decide (x.state=2)<;>cases decide (x.den<0)<;>cases decide (x.art ∈ g.ch.l)<;>rfl
 have a : ∀ x ∈ c.i.l,decide (x.den<0)=decide (x.den = -1):=fun x hx=>by
  have:=(hg.s x hx).2.2;exact decide_eq_decide.2 (by omega)
 have e:idsP c k z7e4=(z56d g c.i.l k).map Ins.id:=by
  unfold idsP; rw [hk];refine congrArg _ (zcf2 fun x hx => ?_)
  simp only [z7e4,zj6b,chos,a x hx];by_cases h:x.state=2
  ·simp [h]
  ·simp [h]
 have f:znqs c k=(selL c.i.l k (zj6b g)).map Ins.id:=by
  unfold znqs idsP; rw [hk];refine congrArg _ (zcf2 fun x hx => ?_)
  obtain ⟨j,m,_⟩:=hg.s x hx;have:decide (x.state≠3)=(decide (x.state=1)||decide (x.state=2)):=by
   rw [← Bool.decide_or]; exact decide_eq_decide.2 (by omega)
  simp only [z9qu,zj6b,chos,a x hx,this]
 unfold zu3j;rw [hk];simp only [b,d,e,f,zlet hg zrr7,y0a,z2f6,z120,y0s,List.map_take,List.map_reverse]
end
section
theorem z4mt {l:List Ins} (hd:l.Pairwise (fun x y=>x.id<y.id)) {x y:Ins} (hx:x ∈ l) (hy:y ∈ l) (e:x.id=y.id):x=y:=by
 have a:=zm2t hd hx;have b:=zm2t hd hy;rw [e,b] at a;exact (Option.some.inj a).symm
structure VicFacts (g:Grp) (l:List Ins) (k:Int) (v:List Int):Prop where
 oneC : ∀ x ∈ l,x.grp=k→x.state=2→zj6b g x=false→v.count x.id=1
 le : ∀ x ∈ l,x.grp=k→x.state=2→zj6b g x=true→v.count x.id≤1
 sum:((z56d g l k).map fun x=>v.count x.id).sum=min ((selL l k (zj6b g)).length-g.want).toNat (z56d g l k).length
 len:v.length=(selL l k fun x=>decide (x.state=2) && !zj6b g x).length+((z56d g l k).map fun x=>v.count x.id).sum
theorem zunx {t:Int} {gr:List Int} {n:Int} : ∀ {l:List Ins} {i:Nat},n ∈ ze9z l i gr t ↔ ∃ (j:Nat) (h:j<l.length),z9hf l[j] (gr.getD (i+j) 0) t=true∧l[j].id=n
 | [],i=>by simp [ze9z]
 | x::l,i=>by
  have ih:=zunx (t:=t) (gr:=gr) (n:=n) (l:=l) (i:=i+1);have e:(∃ (j:Nat) (h:j<(x::l).length),z9hf (x::l)[j] (gr.getD (i+j) 0) t=true∧(x::l)[j].id=n)↔(z9hf x (gr.getD i 0) t=true∧x.id=n) ∨ ∃ (j:Nat) (h:j<l.length),z9hf l[j] (gr.getD (i+1+j) 0) t=true∧l[j].id=n:=by
   constructor
   ·rintro ⟨j,h,h1,h2⟩;cases j with
    | zero=>exact .inl ⟨h1,h2⟩
    | succ j=>exact .inr ⟨j,by simpa using h,by rw [show i+1+j=i+(j+1) by omega]; exact h1,h2⟩
   ·rintro (⟨h1,h2⟩|⟨j,h,h1,h2⟩)
    ·exact ⟨0,by simp,h1,h2⟩
    ·exact ⟨j+1,by simpa using h,by rw [show i+(j+1)=i+1+j by omega]; exact h1,h2⟩
  rw [e,← ih];by_cases h:z9hf x (gr.getD i 0) t=true
  ·rw [ze9z,if_pos h,y0g];constructor
   ·rintro (q|q)
    ·exact .inl ⟨h,q.symm⟩
    ·exact .inr q
   ·rintro (q|q)
    ·exact .inl q.2.symm
    ·exact .inr q
  ·rw [ze9z,if_neg h];constructor
   ·exact fun q => .inr q
   ·rintro (q|q)
    ·exact absurd q.1 h
    ·exact q
end
section
theorem z9td {l:List Grp} : ∀ i (h1:i<(l.map Grp.clone).length) (h2:i<l.length),(l.map Grp.clone)[i].ns=l[i].ns∧(l.map Grp.clone)[i].im=l[i].im:=fun i h1 h2=>by
 rw [List.getElem_map]; exact ⟨rfl,rfl⟩
theorem zkys {g:Grp} (h:ValidG g):ValidG g.clone:=⟨h.ns,h.im,h.w0,h.w1,h.l0,h.l1,h.d0,h.d1,h.n,h.ch⟩
theorem zf78 {c:Clu} (hv:ValidC c) : ∀ i (h:i<(c.g.l.map Grp.clone).length),ValidG (c.g.l.map Grp.clone)[i]∧z9w0 (c.g.l.map Grp.clone) (c.g.l.map Grp.clone)[i].ns (c.g.l.map Grp.clone)[i].im=i:=by
 intro i hi;have a:i<c.g.l.length:=by simpa using hi
 obtain ⟨b,d⟩:=hv.g i a;rw [(z9td i hi a).1,(z9td i hi a).2,List.getElem_map];refine ⟨zkys b,?_⟩;rw [zaam (l:=c.g.l.map Grp.clone) (l':=c.g.l) (by simp) z9td]
 exact d
theorem zqis {c:Clu} (hv:ValidC c) {y:Sl Ins} (hl:y.l.length=c.i.l.length) (h : ∀ i (h1:i<y.l.length) (h2:i<c.i.l.length),y.l[i].id=c.i.l[i].id∧SoundI c.g.l.length c.next y.l[i]):ValidC ⟨c.clone.g,y,c.next⟩:=by
 have a:c.clone.g.l=c.g.l.map Grp.clone:=rfl;refine ⟨by show c.clone.g.l.length≤16; rw [a]; simpa using hv.ng,by show y.l.length≤200; rw [hl]; exact hv.ni,hv.n0,hv.n1,zf78 hv,fun i hi => ?_⟩
 have d:i<y.l.length:=hi;have b:i<c.i.l.length:=by omega
 have k:i-1<y.l.length:=by omega
 have e:i-1<c.i.l.length:=by omega
 obtain ⟨f,j⟩:=h i d b;obtain ⟨b1,_⟩:=h (i-1) k e;refine ⟨?_,fun h0 => ?_⟩
 ·show SoundI c.clone.g.l.length c.next y.l[i];rw [a,y0a]; exact j
 ·show y.l[i-1].id<y.l[i].id;rw [f,b1];exact (hv.i i b).2 h0
def runB (k:Int) (x:Ins):Bool:=decide (x.grp=k)&&decide (x.state=2)
def z6xi (x:Ins):Ins:=(x.st 3).si 50
def zzoq (k:Int):List Ins→Nat→List Ins
 | [],_=>[]
 | x::r,0=>x::r
 | x::r,n+1=>if runB k x=true then z6xi x::zzoq k r n else x::zzoq k r (n+1)
def cntR (k:Int) (l:List Ins):Nat:=(l.filter (runB k)).length
theorem zihc {k:Int} {l:List Ins} {i:Nat} (h:i<l.length):cntR k (l.take (i+1))=cntR k (l.take i)+(if runB k l[i]=true then 1 else 0):=by
 rw [y08 h,cntR,List.filter_append,y0m];congr 1;simp only [List.filter_cons,List.filter_nil];split<;>rfl
theorem z00u {c:Clu} {k:Int} {g:Grp} (hk:grAt c k=some g):zd1c c k=cntR k c.i.l:=by
 simp only [zd1c,idsP,hk,y0a,selL,cntR]; rfl
def lim3 (g:Grp):Int × Int × Int:=(g.want,g.least,g.down)
theorem zvud {l:List Ins} (hd:l.Pairwise (fun x y=>x.id<y.id)) {i:Nat} (h:i<l.length):z092 l l[i].id=i:=by
 refine zy9u h (by simp) fun j hj hji => ?_
 have:=y0f.1 hd j i hj h hji;simp; omega
structure Stp (c d:Clu) (k:Int) (n:Nat):Prop where
 v:ValidC d
 i:d.i.l=zzoq k c.i.l n
 n:d.next=c.next
 g:d.g.l.map lim3=c.g.l.map lim3
end
section
theorem zjzy {ds:List DV} (h:Ty.Ok (.sl (.int .i64)) ds) : ∃ x:Nl,(∀ n ∈ x.l,-9223372036854775808≤n∧n≤9223372036854775807)∧ds=[x.dv]:=by
 obtain ⟨k,l,a,b,rfl,c⟩:=z61h (f:=inI) (R:=fun n => -9223372036854775808≤n∧n≤9223372036854775807) (fun ds h=>by obtain ⟨n,d,rfl⟩:=zrcx h; exact ⟨n,d,rfl⟩) h
 exact ⟨⟨k,l,a,c⟩,b,rfl⟩
end
section
def z91y:ACode :=
 (.seq (.region false [⟨none,(some 23),.bin .lss (.t 22) (.t 21)⟩])
 (.seq (.cond (.t 23) .skip
 (.exit 0))
 (.seq (.block 1 (.seq (.region false [⟨none,(some 24),.idxS 37 (.t 20) (.t 22)⟩,
  ⟨none,(some 25),.load 37 true (.t 24)⟩,
  ⟨none,(some 9),.alloc yz50⟩,
  ⟨none,none,.store 37 (.t 9) (.t 25)⟩])
 (.seq (.region true [⟨none,(some 26),.fld 1 (.t 9)⟩,
  ⟨none,(some 27),.load 1 false (.t 26)⟩,
  ⟨none,(some 28),.mov (.t 1)⟩,
  ⟨none,(some 29),.bin .eql (.t 27) (.t 28)⟩,
  ⟨none,(some 30),.mov (.t 29)⟩,
  ⟨(some (30,true)),(some 31),.mov (.t 2)⟩,
  ⟨(some (30,true)),(some 32),.fld 0 (.t 3)⟩,
  ⟨(some (30,true)),(some 33),.load 1 false (.t 32)⟩,
  ⟨(some (30,true)),(some 34),.mov (.t 1)⟩,
  ⟨(some (30,true)),(some 35),.idxS 6 (.t 33) (.t 34)⟩,
  ⟨(some (30,true)),(some 36),.load 6 true (.t 35)⟩,
  ⟨(some (30,true)),(some 37),.load 37 true (.t 9)⟩,
  ⟨(some (30,true)),(some 38),.callE (.t 31) [(.t 36),(.t 37)]⟩,
  ⟨none,(some 39),.pick (.t 30) (.t 38) (.k (.bool false))⟩])
 (.cond (.t 39) (.region false [⟨none,(some 40),.mov (.t 7)⟩,
  ⟨none,(some 41),.fld 0 (.t 9)⟩,
  ⟨none,(some 42),.load 1 false (.t 41)⟩,
  ⟨none,(some 43),.bsl 1 1 [(.int .i64 0)] [(0,1,(.t 42))]⟩,
  ⟨none,(some 44),.app 1 8 (.t 40) (.t 43)⟩,
  ⟨none,(some 7),.mov (.t 44)⟩])
 .skip))))
 (.region false [⟨none,(some 45),.bin .add (.t 22) (.k (.int .i64 1))⟩,
  ⟨none,(some 22),.mov (.t 45)⟩]))))
def zhqq (x1 x2 x3 x7 x20 x21 x22:DV) (h:List AObj):St:=⟨[.junk,x1,x2,x3,.junk,.junk,.junk,x7]++js 12++[x20,x21,x22]++js 24,h⟩
def a112:AFn:=⟨(ql (yc [yZ 3 0,yR 6 .nils]) (ql (ql (yc [yL 10 1,⟨yg,yh 11,qC .lss (.t 10) (.k (.int .i64 0))⟩,yL 12 11,⟨yh (12,false),yh 13,qA (.t 1)⟩,⟨yh (12,false),yh 14,qL 0 (.t 3)⟩,⟨yh (12,false),yh 15,qH 1 false (.t 14)⟩,⟨yh (12,false),yh 16,qV (.t 15)⟩,⟨yh (12,false),yh 17,qC .geq (.t 13) (.t 16)⟩,yY 18 12 17]) (yd 18 (ql (yc [yR 6 .nils]) qq) qj)) (ql (yc [yR 7 .nils]) (ql (ql (yc [yN 19 1 3,yM 20 1 false 19,yS 21 20,yR 22 (.int .i64 0)]) (qn 0 (qo z91y))) (ql (yc [yL 46 7,yL 6 46]) qq))))),47,[.tmp 6]⟩
theorem zhnv:zsjc P Tryz.f112=some a112:=by kernel_rfl
def a116:AFn:=⟨(ql (yc [yZ 2 0,yZ 3 1,yR 4 (.bool false)]) (ql (yc [yN 5 34 3,yM 6 1 false 5,⟨yg,yh 7,qC .eql (.t 6) (.k (.int .i64 2))⟩,yL 4 7]) qq)),8,[.tmp 4]⟩
theorem z3rp:zsjc P Tryz.f116=some a116:=by kernel_rfl
def a114:AFn:=⟨(ql (yc [yZ 2 0,yZ 3 1,yR 4 (.bool false)]) (ql (yc [yN 5 36 3,yM 6 1 false 5,⟨yg,yh 7,qC .lss (.t 6) (.k (.int .i64 0))⟩,yL 8 7,⟨yh (8,true),yh 9,qL 5 (.t 2)⟩,⟨yh (8,true),yh 10,qH 1 false (.t 9)⟩,⟨yh (8,true),yh 11,qL 2 (.t 3)⟩,⟨yh (8,true),yh 12,qH 32 true (.t 11)⟩,⟨yh (8,true),yh 13,qf (.k (.fn (.func 49) [] [])) [.t 10,.t 12]⟩,yX 14 8 13,yL 4 14]) qq)),15,[.tmp 4]⟩
theorem zgcx:zsjc P Tryz.f114=some a114:=by kernel_rfl
def a124:AFn:=⟨(ql (yc [yZ 2 0,yR 4 (.int .i64 0)]) (ql (yc [yM 5 3 true 2,yL 6 1,⟨yg,yh 7,qf (.k (.fn (.func 112) [] [])) [.t 5,.t 6,(.k (.fn (.func 116) [] []))]⟩,yS 8 7,yL 4 8]) qq)),9,[.tmp 4]⟩
theorem ze8k:zsjc P Tryz.f124=some a124:=by kernel_rfl
def a113:AFn:=⟨(ql (yc [yZ 2 0,yZ 3 1,yR 4 (.bool false)]) (ql (yc [yN 5 34 3,yM 6 1 false 5,⟨yg,yh 7,qC .neq (.t 6) (.k (.int .i64 3))⟩,yL 8 7,⟨yh (8,true),yh 9,qH 6 true (.t 2)⟩,⟨yh (8,true),yh 10,qH 37 true (.t 3)⟩,⟨yh (8,true),yh 11,qf (.k (.fn (.func 114) [] [])) [.t 9,.t 10]⟩,yX 12 8 11,yL 4 12]) qq)),13,[.tmp 4]⟩
theorem zz1e:zsjc P Tryz.f113=some a113:=by kernel_rfl
def a87:AFn:=⟨(ql (yc [yZ 2 0,yR 4 .nils]) (ql (yc [yM 5 3 true 2,yL 6 1,⟨yg,yh 7,qf (.k (.fn (.func 112) [] [])) [.t 5,.t 6,(.k (.fn (.func 113) [] []))]⟩,yL 4 7]) qq)),8,[.tmp 4]⟩
theorem zfhg:zsjc P Tryz.f87=some a87:=by kernel_rfl
def a89:AFn:=⟨(ql (yc [yZ 2 0,yR 4 (.int .i64 0)]) (ql (ql (yc [yL 6 1,⟨yg,yh 7,qC .lss (.t 6) (.k (.int .i64 0))⟩,yL 8 7,⟨yh (8,false),yh 9,qA (.t 1)⟩,⟨yh (8,false),yh 10,qL 0 (.t 2)⟩,⟨yh (8,false),yh 11,qH 1 false (.t 10)⟩,⟨yh (8,false),yh 12,qV (.t 11)⟩,⟨yh (8,false),yh 13,qC .geq (.t 9) (.t 12)⟩,yY 14 8 13]) (yd 14 (ql (yc [yR 4 (.int .i64 0)]) qq) qj)) (ql (yc [yN 15 0 2,yM 16 1 false 15,yL 17 1,yQ 18 6 16 17,yM 19 6 true 18,⟨yg,yh 5,qR [(.str []),(.str []),(.int .i64 0),(.int .i64 0),(.int .i64 0),.nils]⟩,ya 6 5 19]) (ql (qk true [yM 20 3 true 2,yL 21 1,yN 23 3 5,yM 24 1 false 23,yN 25 2 5,yM 26 1 false 25,yN 27 4 5,yM 28 1 false 27,yO 29 .sub 26 28,⟨yg,yh 30,qi true [.t 24,.t 29]⟩,yV 22 124 [.t 20,.t 21],yO 31 .sub 22 30,⟨yg,yh 32,qi true [.t 31,(.k (.int .i64 0))]⟩,yL 4 32]) qq)))),33,[.tmp 4]⟩
theorem z42j:zsjc P Tryz.f89=some a89:=by kernel_rfl
def a120:AFn:=⟨(ql (yc [yZ 2 0,yZ 3 1,yR 4 (.int .i64 0)]) (ql (yc [yN 6 1 2,yM 7 1 false 6,⟨yg,yh 8,.mkf (.func 135) [] [.t 3]⟩,yU 9 107 [.t 7,.t 8],yL 5 9]) (ql (yc [yN 10 1 2,yM 11 1 false 10,yL 12 5,yQ 13 37 11 12,yN 14 36 13,yM 15 1 false 14,yL 4 15]) qq))),16,[.tmp 4]⟩
theorem zrxr:zsjc P Tryz.f120=some a120:=by kernel_rfl
def a135:AFn:=⟨(ql (yc [yZ 2 0,yR 3 (.bool false)]) (ql (yc [yN 4 0 2,yM 5 1 false 4,yM 6 1 false 1,yO 7 .eql 5 6,yL 3 7]) qq)),8,[.tmp 3]⟩
theorem z8cr:zsjc P Tryz.f135=some a135:=by kernel_rfl
def a115:AFn:=⟨(ql (yc [yZ 2 0,yZ 3 1,yR 4 (.bool false)]) (ql (yc [yM 5 6 true 2,yM 6 37 true 3,yU 7 116 [.t 5,.t 6],yL 8 7,⟨yh (8,true),yh 9,qL 36 (.t 3)⟩,⟨yh (8,true),yh 10,qH 1 false (.t 9)⟩,⟨yh (8,true),yh 11,qC .geq (.t 10) (.k (.int .i64 0))⟩,yX 12 8 11,yL 4 12]) qq)),13,[.tmp 4]⟩
theorem zv17:zsjc P Tryz.f115=some a115:=by kernel_rfl
def a118:AFn:=⟨(ql (yc [yR 5 (.int .i64 0)]) (ql (qk true [yM 6 3 true 2,yL 7 0,yM 9 3 true 2,yL 10 1,yL 13 0,yL 14 1,yV 8 120 [.t 6,.t 7],yV 11 120 [.t 9,.t 10],yV 12 119 [.t 8,.t 11],yV 15 71 [.t 13,.t 14],⟨yg,yh 16,qU 1 2 [(.int .i64 0)] [(0,1,(.t 12)),(1,1,(.t 15))]⟩,yV 17 70 [.t 16],yL 5 17]) qq)),18,[.tmp 5]⟩
theorem zasg:zsjc P Tryz.f118=some a118:=by kernel_rfl
def a121:AFn:=⟨(ql (yc [yZ 2 0,yZ 3 1,yR 4 (.bool false)]) (ql (yc [yM 5 6 true 2,yM 6 37 true 3,yU 7 116 [.t 5,.t 6],yL 8 7,⟨yh (8,true),yh 9,qL 36 (.t 3)⟩,⟨yh (8,true),yh 10,qH 1 false (.t 9)⟩,⟨yh (8,true),yh 11,qC .lss (.t 10) (.k (.int .i64 0))⟩,yX 12 8 11,yL 13 12,⟨yh (13,true),yh 14,qH 6 true (.t 2)⟩,⟨yh (13,true),yh 15,qH 37 true (.t 3)⟩,⟨yh (13,true),yh 16,qf (.k (.fn (.func 114) [] [])) [.t 14,.t 15]⟩,⟨yh (13,true),yh 17,qG .not (.t 16)⟩,yX 18 13 17,yL 4 18]) qq)),19,[.tmp 4]⟩
theorem zfl0:zsjc P Tryz.f121=some a121:=by kernel_rfl
def a122:AFn:=⟨(ql (yc [yZ 2 0,yZ 3 1,yR 4 (.bool false)]) (ql (yc [yM 5 6 true 2,yM 6 37 true 3,yU 7 116 [.t 5,.t 6],yL 8 7,⟨yh (8,true),yh 9,qH 6 true (.t 2)⟩,⟨yh (8,true),yh 10,qH 37 true (.t 3)⟩,⟨yh (8,true),yh 11,qf (.k (.fn (.func 114) [] [])) [.t 9,.t 10]⟩,yX 12 8 11,yL 4 12]) qq)),13,[.tmp 4]⟩
theorem z2hw:zsjc P Tryz.f122=some a122:=by kernel_rfl
def a88:AFn:=⟨(ql (yc [yZ 2 0,yR 4 .nils]) (ql (ql (yc [yL 9 1,⟨yg,yh 10,qC .lss (.t 9) (.k (.int .i64 0))⟩,yL 11 10,⟨yh (11,false),yh 12,qA (.t 1)⟩,⟨yh (11,false),yh 13,qL 0 (.t 2)⟩,⟨yh (11,false),yh 14,qH 1 false (.t 13)⟩,⟨yh (11,false),yh 15,qV (.t 14)⟩,⟨yh (11,false),yh 16,qC .geq (.t 12) (.t 15)⟩,yY 17 11 16]) (yd 17 (ql (yc [yR 4 .nils]) qq) qj)) (ql (yc [yM 18 3 true 2,yL 19 1,⟨yg,yh 20,qf (.k (.fn (.func 112) [] [])) [.t 18,.t 19,(.k (.fn (.func 115) [] []))]⟩,yL 5 20]) (ql (yc [yL 21 5,⟨yg,yh 22,.mkf (.func 118) [] [.t 2]⟩,yU 23 117 [.t 21,.t 22]]) (ql (yc [yM 24 3 true 2,yL 25 1,⟨yg,yh 26,qf (.k (.fn (.func 112) [] [])) [.t 24,.t 25,(.k (.fn (.func 121) [] []))]⟩,yL 6 26]) (ql (yc [yM 27 3 true 2,yL 28 1,⟨yg,yh 29,qf (.k (.fn (.func 112) [] [])) [.t 27,.t 28,(.k (.fn (.func 122) [] []))]⟩,yL 7 29]) (ql (yc [yL 30 7,yU 31 86 [.t 30]]) (ql (qk true [yM 32 3 true 2,yL 33 1,yN 36 0 2,yM 37 1 false 36,yL 38 1,yQ 39 6 37 38,yN 40 2 39,yM 41 1 false 40,yV 34 87 [.t 32,.t 33],yS 35 34,yO 42 .sub 35 41,⟨yg,yh 43,qi true [.t 42,(.k (.int .i64 0))]⟩,yL 8 43]) (ql (yc [yL 44 5,yL 45 6,yL 46 7,yL 47 8,yL 48 7,yS 49 48,⟨yg,yh 50,qi false [.t 47,.t 49]⟩,⟨yg,yh 51,qP 1 (.t 46) yg (yh (.t 50)) yg⟩,⟨yg,yh 52,qU 1 3 [.nils] [(0,1,(.t 44)),(1,1,(.t 45)),(2,1,(.t 51))]⟩,yU 53 123 [.t 52],yL 4 53]) qq))))))))),54,[.tmp 4]⟩
theorem zqgj:zsjc P Tryz.f88=some a88:=by kernel_rfl
def a84:AFn:=⟨(ql (yc [yR 6 (.bool false)]) (ql (ql (yc [yL 7 2,yL 8 0,yO 9 .geq 7 8]) (yd 9 (ql (yc [yL 10 2,yL 11 0,yO 12 .sub 10 11,yL 13 1,yO 14 .geq 12 13,yL 6 14]) qq) qj)) (ql (yc [yL 15 1,⟨yg,yh 16,qC .lss (.t 15) (.k (.int .i64 0))⟩,yL 17 16,⟨yh (17,true),yh 18,qA (.t 1)⟩,⟨yh (17,true),yh 19,qA (.t 0)⟩,⟨yh (17,true),yh 20,qC .add (.t 18) (.t 19)⟩,⟨yh (17,true),yh 21,qA (.t 2)⟩,⟨yh (17,true),yh 22,qC .leq (.t 20) (.t 21)⟩,yX 23 17 22,yL 6 23]) qq))),24,[.tmp 6]⟩
theorem z3cy:zsjc P Tryz.f84=some a84:=by kernel_rfl
def zpde:ACode :=
 (.seq (.region false [⟨none,(some 15),.bin .lss (.t 14) (.t 13)⟩])
 (.seq (.cond (.t 15) .skip
 (.exit 0))
 (.seq (.block 1 (.seq (.region false [⟨none,(some 16),.mov (.t 14)⟩,
  ⟨none,(some 17),.idxS 37 (.t 12) (.t 14)⟩,
  ⟨none,(some 18),.load 37 true (.t 17)⟩,
  ⟨none,(some 9),.alloc yz50⟩,
  ⟨none,(some 8),.mov (.t 16)⟩,
  ⟨none,none,.store 37 (.t 9) (.t 18)⟩])
 (.seq (.region false [⟨none,(some 10),.mov (.k (.int .i64 0))⟩])
 (.seq (.seq (.region false [⟨none,(some 19),.mov (.t 8)⟩,
  ⟨none,(some 20),.mov (.t 1)⟩,
  ⟨none,(some 21),.len (.t 20)⟩,
  ⟨none,(some 22),.bin .lss (.t 19) (.t 21)⟩])
 (.cond (.t 22) (.region false [⟨none,(some 23),.mov (.t 1)⟩,
  ⟨none,(some 24),.mov (.t 8)⟩,
  ⟨none,(some 25),.idxS 1 (.t 23) (.t 24)⟩,
  ⟨none,(some 26),.load 1 false (.t 25)⟩,
  ⟨none,(some 10),.mov (.t 26)⟩])
 .skip))
 (.seq (.region false [⟨none,(some 27),.fld 34 (.t 9)⟩,
  ⟨none,(some 28),.load 1 false (.t 27)⟩,
  ⟨none,(some 29),.bin .neq (.t 28) (.k (.int .i64 3))⟩,
  ⟨none,(some 30),.mov (.t 29)⟩,
  ⟨(some (30,true)),(some 31),.fld 36 (.t 9)⟩,
  ⟨(some (30,true)),(some 32),.load 1 false (.t 31)⟩,
  ⟨(some (30,true)),(some 33),.bin .geq (.t 32) (.k (.int .i64 0))⟩,
  ⟨none,(some 34),.pick (.t 30) (.t 33) (.k (.bool false))⟩,
  ⟨none,(some 35),.mov (.t 34)⟩,
  ⟨(some (35,true)),(some 36),.fld 36 (.t 9)⟩,
  ⟨(some (35,true)),(some 37),.load 1 false (.t 36)⟩,
  ⟨(some (35,true)),(some 38),.mov (.t 10)⟩,
  ⟨(some (35,true)),(some 39),.mov (.t 2)⟩,
  ⟨(some (35,true)),(some 40),.call (.k (.fn (.func 84) [] [])) [(.t 37),(.t 38),(.t 39)]⟩,
  ⟨none,(some 41),.pick (.t 35) (.t 40) (.k (.bool false))⟩])
 (.cond (.t 41) (.region false [⟨none,(some 42),.mov (.t 7)⟩,
  ⟨none,(some 43),.fld 0 (.t 9)⟩,
  ⟨none,(some 44),.load 1 false (.t 43)⟩,
  ⟨none,(some 45),.bsl 1 1 [(.int .i64 0)] [(0,1,(.t 44))]⟩,
  ⟨none,(some 46),.app 1 8 (.t 42) (.t 45)⟩,
  ⟨none,(some 7),.mov (.t 46)⟩])
 .skip))))))
 (.region false [⟨none,(some 47),.bin .add (.t 14) (.k (.int .i64 1))⟩,
  ⟨none,(some 14),.mov (.t 47)⟩]))))
def z213 (x1 x2 x7 x12 x13 x14:DV) (h:List AObj):St:=⟨[.junk,x1,x2]++js 4++[x7]++js 4++[x12,x13,x14]++js 34,h⟩
def a54:AFn:=⟨(ql (yc [yZ 3 0,yR 6 .nils]) (ql (yc [yR 7 .nils]) (ql (ql (yc [yN 11 1 3,yM 12 1 false 11,yS 13 12,yR 14 (.int .i64 0)]) (qn 0 (qo zpde))) (ql (yc [yL 48 7,yL 6 48]) qq)))),49,[.tmp 6]⟩
theorem zq4q:zsjc P Tryz.f54=some a54:=by kernel_rfl
def a117:AFn:=⟨(yc [yL 4 0,yL 5 0,yS 6 5,yL 7 1,yU 8 133 [.t 4,.t 6,.t 7]]),9,[]⟩
theorem zt1q:zsjc P Tryz.f117=some a117:=by kernel_rfl
def zlcx:ACode :=
 (.seq (.seq (.region false [⟨none,(some 11),.mov (.t 8)⟩,
  ⟨none,(some 12),.mov (.t 1)⟩,
  ⟨none,(some 13),.bin .leq (.t 11) (.t 12)⟩])
 (.cond (.t 13) .skip
 (.exit 0)))
 (.block 1 (.seq (.region false [⟨none,(some 14),.mov (.t 0)⟩,
  ⟨none,(some 15),.mov (.t 7)⟩,
  ⟨none,(some 16),.mov (.t 8)⟩,
  ⟨none,(some 17),.mov (.t 2)⟩,
  ⟨none,(some 18),.call (.k (.fn (.func 142) [] [])) [(.t 14),(.t 15),(.t 16),(.t 17)]⟩])
 (.seq (.region false [⟨none,(some 19),.mov (.t 8)⟩,
  ⟨none,(some 7),.mov (.t 19)⟩])
 (.region false [⟨none,(some 20),.mov (.t 8)⟩,
  ⟨none,(some 21),.mov (.t 6)⟩,
  ⟨none,(some 22),.bin .add (.t 20) (.t 21)⟩,
  ⟨none,(some 8),.mov (.t 22)⟩])))))
def z58v (x0 x1 x2 x6 x7 x8:DV) (h:List AObj):St:=⟨[x0,x1,x2,.junk,.junk,.junk,x6,x7,x8]++js 54,h⟩
def zzs8:ACode :=
 (.seq (.seq (.region false [⟨none,(some 33),.mov (.t 8)⟩,
  ⟨none,(some 34),.mov (.t 1)⟩,
  ⟨none,(some 35),.bin .leq (.t 33) (.t 34)⟩])
 (.cond (.t 35) .skip
 (.exit 4)))
 (.block 5 (.seq (.region false [⟨none,(some 36),.mov (.t 0)⟩,
  ⟨none,(some 37),.mov (.t 7)⟩,
  ⟨none,(some 38),.mov (.t 7)⟩,
  ⟨none,(some 39),.mov (.t 6)⟩,
  ⟨none,(some 40),.bin .add (.t 38) (.t 39)⟩,
  ⟨none,(some 41),.mov (.t 8)⟩,
  ⟨none,(some 42),.mov (.t 2)⟩,
  ⟨none,(some 43),.call (.k (.fn (.func 143) [] [])) [(.t 36),(.t 37),(.t 40),(.t 41),(.t 42)]⟩])
 (.seq (.region false [⟨none,(some 44),.mov (.t 8)⟩,
  ⟨none,(some 7),.mov (.t 44)⟩])
 (.region false [⟨none,(some 45),.mov (.t 8)⟩,
  ⟨none,(some 46),.mov (.t 6)⟩,
  ⟨none,(some 47),.bin .mul (.k (.int .i64 2)) (.t 46)⟩,
  ⟨none,(some 48),.bin .add (.t 45) (.t 47)⟩,
  ⟨none,(some 8),.mov (.t 48)⟩])))))
def z4o2:ACode :=
 (.seq (.seq (.region false [⟨none,(some 28),.mov (.t 6)⟩,
  ⟨none,(some 29),.mov (.t 1)⟩,
  ⟨none,(some 30),.bin .lss (.t 28) (.t 29)⟩])
 (.cond (.t 30) .skip
 (.exit 2)))
 (.block 3 (.seq (.region false [⟨none,(some 31),.mov (.t 6)⟩,
  ⟨none,(some 32),.bin .mul (.k (.int .i64 2)) (.t 31)⟩,
  ⟨none,(some 7),.mov (.k (.int .i64 0))⟩,
  ⟨none,(some 8),.mov (.t 32)⟩])
 (.seq (.block 4 (.loop zzs8))
 (.seq (.seq (.region false [⟨none,(some 49),.mov (.t 7)⟩,
  ⟨none,(some 50),.mov (.t 6)⟩,
  ⟨none,(some 51),.bin .add (.t 49) (.t 50)⟩,
  ⟨none,(some 9),.mov (.t 51)⟩])
 (.seq (.region false [⟨none,(some 52),.mov (.t 9)⟩,
  ⟨none,(some 53),.mov (.t 1)⟩,
  ⟨none,(some 54),.bin .lss (.t 52) (.t 53)⟩])
 (.cond (.t 54) (.region false [⟨none,(some 55),.mov (.t 0)⟩,
  ⟨none,(some 56),.mov (.t 7)⟩,
  ⟨none,(some 57),.mov (.t 9)⟩,
  ⟨none,(some 58),.mov (.t 1)⟩,
  ⟨none,(some 59),.mov (.t 2)⟩,
  ⟨none,(some 60),.call (.k (.fn (.func 143) [] [])) [(.t 55),(.t 56),(.t 57),(.t 58),(.t 59)]⟩])
 .skip)))
 (.region false [⟨none,(some 61),.mov (.t 6)⟩,
  ⟨none,(some 62),.bin .mul (.t 61) (.k (.int .i64 2))⟩,
  ⟨none,(some 6),.mov (.t 62)⟩]))))))
def zh9n (x0 x1 x2 x6:DV) (h:List AObj):St:=⟨[x0,x1,x2,.junk,.junk,.junk,x6]++js 56,h⟩
def a133:AFn:=⟨(ql (yc [yR 6 (.int .i64 20)]) (ql (yc [yL 10 6,yR 7 (.int .i64 0),yL 8 10]) (ql (qn 0 (qo zlcx)) (ql (yc [yL 23 0,yL 24 7,yL 25 1,yL 26 2,yU 27 142 [.t 23,.t 24,.t 25,.t 26]]) (qn 2 (qo z4o2)))))),63,[]⟩
theorem zl8e:zsjc P Tryz.f133=some a133:=by kernel_rfl
def zhot:ACode :=
 (.seq (.seq (.region true [⟨none,(some 18),.mov (.t 9)⟩,
  ⟨none,(some 19),.mov (.t 1)⟩,
  ⟨none,(some 20),.bin .gtr (.t 18) (.t 19)⟩,
  ⟨none,(some 21),.mov (.t 20)⟩,
  ⟨(some (21,true)),(some 22),.mov (.t 3)⟩,
  ⟨(some (21,true)),(some 23),.mov (.t 0)⟩,
  ⟨(some (21,true)),(some 24),.mov (.t 9)⟩,
  ⟨(some (21,true)),(some 25),.idxS 1 (.t 23) (.t 24)⟩,
  ⟨(some (21,true)),(some 26),.load 1 false (.t 25)⟩,
  ⟨(some (21,true)),(some 27),.mov (.t 0)⟩,
  ⟨(some (21,true)),(some 28),.mov (.t 9)⟩,
  ⟨(some (21,true)),(some 29),.bin .sub (.t 28) (.k (.int .i64 1))⟩,
  ⟨(some (21,true)),(some 30),.idxS 1 (.t 27) (.t 29)⟩,
  ⟨(some (21,true)),(some 31),.load 1 false (.t 30)⟩,
  ⟨(some (21,true)),(some 32),.callE (.t 22) [(.t 26),(.t 31)]⟩,
  ⟨(some (21,true)),(some 33),.bin .lss (.t 32) (.k (.int .i64 0))⟩,
  ⟨none,(some 34),.pick (.t 21) (.t 33) (.k (.bool false))⟩])
 (.cond (.t 34) .skip
 (.exit 2)))
 (.seq (.block 3 (.region true [⟨none,(some 37),.mov (.t 0)⟩,
  ⟨none,(some 38),.mov (.t 9)⟩,
  ⟨none,(some 39),.mov (.t 0)⟩,
  ⟨none,(some 40),.mov (.t 9)⟩,
  ⟨none,(some 41),.bin .sub (.t 40) (.k (.int .i64 1))⟩,
  ⟨none,(some 42),.mov (.t 0)⟩,
  ⟨none,(some 43),.mov (.t 9)⟩,
  ⟨none,(some 44),.bin .sub (.t 43) (.k (.int .i64 1))⟩,
  ⟨none,(some 45),.idxS 1 (.t 42) (.t 44)⟩,
  ⟨none,(some 46),.load 1 false (.t 45)⟩,
  ⟨none,(some 47),.mov (.t 0)⟩,
  ⟨none,(some 48),.mov (.t 9)⟩,
  ⟨none,(some 49),.idxS 1 (.t 47) (.t 48)⟩,
  ⟨none,(some 50),.load 1 false (.t 49)⟩,
  ⟨none,(some 51),.idxS 1 (.t 37) (.t 38)⟩,
  ⟨none,none,.store 1 (.t 51) (.t 46)⟩,
  ⟨none,(some 52),.idxS 1 (.t 39) (.t 41)⟩,
  ⟨none,none,.store 1 (.t 52) (.t 50)⟩]))
 (.region false [⟨none,(some 35),.mov (.t 9)⟩,
  ⟨none,(some 36),.bin .sub (.t 35) (.k (.int .i64 1))⟩,
  ⟨none,(some 9),.mov (.t 36)⟩])))
def zgpl (x0 x1 x2 x3 x8 x9:DV) (h:List AObj):St:=⟨[x0,x1,x2,x3]++js 4++[x8,x9]++js 43,h⟩
def z3nb:ACode :=
 (.seq (.seq (.region false [⟨none,(some 12),.mov (.t 8)⟩,
  ⟨none,(some 13),.mov (.t 2)⟩,
  ⟨none,(some 14),.bin .lss (.t 12) (.t 13)⟩])
 (.cond (.t 14) .skip
 (.exit 0)))
 (.seq (.block 1 (.seq (.region false [⟨none,(some 17),.mov (.t 8)⟩,
  ⟨none,(some 9),.mov (.t 17)⟩])
 (.block 2 (.loop zhot))))
 (.region false [⟨none,(some 15),.mov (.t 8)⟩,
  ⟨none,(some 16),.bin .add (.t 15) (.k (.int .i64 1))⟩,
  ⟨none,(some 8),.mov (.t 16)⟩])))
def zzbm (x0 x1 x2 x3 x8:DV) (h:List AObj):St:=⟨[x0,x1,x2,x3]++js 4++[x8]++js 44,h⟩
def a142:AFn:=⟨(ql (yc [yL 10 1,⟨yg,yh 11,qC .add (.t 10) (.k (.int .i64 1))⟩,yL 8 11]) (qn 0 (qo z3nb))),53,[]⟩
theorem ztmv:zsjc P Tryz.f142=some a142:=by kernel_rfl
def zw44:ACode :=
 (.seq (.seq (.region false [⟨none,(some 7),.mov (.t 2)⟩,
  ⟨none,(some 8),.mov (.t 3)⟩,
  ⟨none,(some 9),.bin .lss (.t 7) (.t 8)⟩])
 (.cond (.t 9) .skip
 (.exit 0)))
 (.seq (.block 1 (.region true [⟨none,(some 14),.mov (.t 0)⟩,
  ⟨none,(some 15),.mov (.t 2)⟩,
  ⟨none,(some 16),.mov (.t 0)⟩,
  ⟨none,(some 17),.mov (.t 3)⟩,
  ⟨none,(some 18),.mov (.t 0)⟩,
  ⟨none,(some 19),.mov (.t 3)⟩,
  ⟨none,(some 20),.idxS 1 (.t 18) (.t 19)⟩,
  ⟨none,(some 21),.load 1 false (.t 20)⟩,
  ⟨none,(some 22),.mov (.t 0)⟩,
  ⟨none,(some 23),.mov (.t 2)⟩,
  ⟨none,(some 24),.idxS 1 (.t 22) (.t 23)⟩,
  ⟨none,(some 25),.load 1 false (.t 24)⟩,
  ⟨none,(some 26),.idxS 1 (.t 14) (.t 15)⟩,
  ⟨none,none,.store 1 (.t 26) (.t 21)⟩,
  ⟨none,(some 27),.idxS 1 (.t 16) (.t 17)⟩,
  ⟨none,none,.store 1 (.t 27) (.t 25)⟩]))
 (.region false [⟨none,(some 10),.mov (.t 2)⟩,
  ⟨none,(some 11),.bin .add (.t 10) (.k (.int .i64 1))⟩,
  ⟨none,(some 12),.mov (.t 3)⟩,
  ⟨none,(some 13),.bin .sub (.t 12) (.k (.int .i64 1))⟩,
  ⟨none,(some 2),.mov (.t 11)⟩,
  ⟨none,(some 3),.mov (.t 13)⟩])))
def z20v (x0 x2 x3:DV) (h:List AObj):St:=⟨[x0,.junk,x2,x3]++js 24,h⟩
def a86:AFn:=⟨(ql (yc [yL 4 0,yS 5 4,⟨yg,yh 6,qC .sub (.t 5) (.k (.int .i64 1))⟩,yR 2 (.int .i64 0),yL 3 6]) (qn 0 (qo zw44))),28,[]⟩
theorem z2i3:zsjc P Tryz.f86=some a86:=by kernel_rfl
def z1ci:ACode :=
 (.seq (.region false [⟨none,(some 12),.bin .lss (.t 11) (.t 10)⟩])
 (.seq (.cond (.t 12) .skip
 (.exit 0))
 (.seq (.block 1 (.seq (.region false [⟨none,(some 13),.idxS 1 (.t 9) (.t 11)⟩,
  ⟨none,(some 14),.load 1 false (.t 13)⟩,
  ⟨none,(some 5),.mov (.t 14)⟩])
 (.seq (.region false [⟨none,(some 15),.mov (.t 3)⟩,
  ⟨none,(some 16),.mov (.t 5)⟩,
  ⟨none,(some 17),.len (.t 16)⟩,
  ⟨none,(some 18),.bin .add (.t 15) (.t 17)⟩,
  ⟨none,(some 3),.mov (.t 18)⟩])
 (.seq (.region false [⟨none,(some 19),.mov (.t 3)⟩,
  ⟨none,(some 20),.bin .lss (.t 19) (.k (.int .i64 0))⟩])
 (.cond (.t 20) (.region false [⟨none,(some 21),.ext (.k .junk) 0⟩,
  ⟨none,none,.ext (.k .junk) 0⟩])
 .skip)))))
 (.region false [⟨none,(some 22),.bin .add (.t 11) (.k (.int .i64 1))⟩,
  ⟨none,(some 11),.mov (.t 22)⟩]))))
def zkuy (x0 x3 x9 x10 x11:DV) (h:List AObj):St:=⟨[x0,.junk,.junk,x3]++js 5++[x9,x10,x11]++js 24,h⟩
def zgnt:ACode :=
 (.seq (.region false [⟨none,(some 28),.bin .lss (.t 27) (.t 26)⟩])
 (.seq (.cond (.t 28) .skip
 (.exit 2))
 (.seq (.block 3 (.seq (.region false [⟨none,(some 29),.idxS 1 (.t 25) (.t 27)⟩,
  ⟨none,(some 30),.load 1 false (.t 29)⟩,
  ⟨none,(some 8),.mov (.t 30)⟩])
 (.region false [⟨none,(some 31),.mov (.t 6)⟩,
  ⟨none,(some 32),.mov (.t 8)⟩,
  ⟨none,(some 33),.app 1 8 (.t 31) (.t 32)⟩,
  ⟨none,(some 6),.mov (.t 33)⟩])))
 (.region false [⟨none,(some 34),.bin .add (.t 27) (.k (.int .i64 1))⟩,
  ⟨none,(some 27),.mov (.t 34)⟩]))))
def z0qo (x6 x25 x26 x27:DV) (h:List AObj):St:=⟨js 6++[x6]++js 18++[x25,x26,x27]++js 8,h⟩
def a123:AFn:=⟨(ql (yc [yR 2 .nils]) (ql (yc [yR 3 (.int .i64 0)]) (ql (ql (yc [yL 9 0,yS 10 9,yR 11 (.int .i64 0)]) (qn 0 (qo z1ci))) (ql (yc [yL 23 3,yU 24 136 [(.k .nils),.t 23],yL 6 24]) (ql (ql (yc [yL 25 0,yS 26 25,yR 27 (.int .i64 0)]) (qn 2 (qo zgnt))) (ql (yc [yL 35 6,yL 2 35]) qq)))))),36,[.tmp 2]⟩
theorem zw8s:zsjc P Tryz.f123=some a123:=by kernel_rfl
def z3a0:ACode :=
 (.seq (.region false [⟨none,(some 9),.bin .lss (.t 8) (.t 7)⟩])
 (.seq (.cond (.t 9) .skip
 (.exit 0))
 (.seq (.block 1 (.seq (.region false [⟨none,(some 10),.idxS 1 (.t 6) (.t 8)⟩,
  ⟨none,(some 11),.load 1 false (.t 10)⟩,
  ⟨none,(some 5),.mov (.t 11)⟩])
 (.seq (.region false [⟨none,(some 12),.mov (.t 5)⟩,
  ⟨none,(some 13),.mov (.t 3)⟩,
  ⟨none,(some 14),.bin .neq (.t 12) (.t 13)⟩])
 (.cond (.t 14) (.seq (.region false [⟨none,(some 15),.mov (.t 5)⟩,
  ⟨none,(some 2),.mov (.t 15)⟩])
 .ret)
 .skip))))
 (.region false [⟨none,(some 16),.bin .add (.t 8) (.k (.int .i64 1))⟩,
  ⟨none,(some 8),.mov (.t 16)⟩]))))
def ziom (x3 x6 x7 x8:DV) (h:List AObj):St:=⟨[.junk,.junk,.junk,x3,.junk,.junk,x6,x7,x8]++js 9,h⟩
def a70:AFn:=⟨(ql (yc [yR 2 (.int .i64 0)]) (ql (yc [yR 3 (.int .i64 0)]) (ql (ql (yc [yL 6 0,yS 7 6,yR 8 (.int .i64 0)]) (qn 0 (qo z3a0))) (ql (yc [yL 17 3,yL 2 17]) qq)))),18,[.tmp 2]⟩
theorem zhcw:zsjc P Tryz.f70=some a70:=by kernel_rfl
def a71:AFn:=⟨(ql (yc [yR 4 (.int .i64 0)]) (ql (yc [yL 7 0,yU 8 101 [.t 7],yL 5 8]) (ql (yc [yL 9 1,yU 10 101 [.t 9],yL 6 10]) (ql (ql (yc [yL 11 5]) (yd 11 (ql (ql (yc [yL 12 6]) (yd 12 (ql (yc [yR 4 (.int .i64 0)]) qq) qj)) (ql (yc [yR 4 (.int .i64 (-1))]) qq)) qj)) (ql (ql (yc [yL 13 6]) (yd 13 (ql (yc [yR 4 (.int .i64 1)]) qq) qj)) (ql (ql (yc [yL 14 0,yL 15 1,yO 16 .lss 14 15]) (yd 16 (ql (yc [yR 4 (.int .i64 (-1))]) qq) qj)) (ql (ql (yc [yL 17 0,yL 18 1,yO 19 .gtr 17 18]) (yd 19 (ql (yc [yR 4 (.int .i64 1)]) qq) qj)) (ql (yc [yR 4 (.int .i64 0)]) qq)))))))),20,[.tmp 4]⟩
theorem zbtg:zsjc P Tryz.f71=some a71:=by kernel_rfl
def a119:AFn:=⟨(ql (yc [yR 4 (.int .i64 0)]) (ql (yc [yL 7 0,yU 8 134 [.t 7],yL 5 8]) (ql (yc [yL 9 1,yU 10 134 [.t 9],yL 6 10]) (ql (ql (yc [yL 11 5]) (yd 11 (ql (ql (yc [yL 12 6]) (yd 12 (ql (yc [yR 4 (.int .i64 0)]) qq) qj)) (ql (yc [yR 4 (.int .i64 (-1))]) qq)) qj)) (ql (ql (yc [yL 13 6]) (yd 13 (ql (yc [yR 4 (.int .i64 1)]) qq) qj)) (ql (ql (yc [yL 14 0,yL 15 1,yO 16 .lss 14 15]) (yd 16 (ql (yc [yR 4 (.int .i64 (-1))]) qq) qj)) (ql (ql (yc [yL 17 0,yL 18 1,yO 19 .gtr 17 18]) (yd 19 (ql (yc [yR 4 (.int .i64 1)]) qq) qj)) (ql (yc [yR 4 (.int .i64 0)]) qq)))))))),20,[.tmp 4]⟩
theorem zaj0:zsjc P Tryz.f119=some a119:=by kernel_rfl
def a101:AFn:=⟨(ql (yc [yR 2 (.bool false)]) (ql (yc [yL 3 0,yL 4 0,yO 5 .neq 3 4,yL 2 5]) qq)),6,[.tmp 2]⟩
theorem zzmu:zsjc P Tryz.f101=some a101:=by kernel_rfl
def a134:AFn:=⟨(ql (yc [yR 2 (.bool false)]) (ql (yc [yL 3 0,yL 4 0,yO 5 .neq 3 4,yL 2 5]) qq)),6,[.tmp 2]⟩
theorem zccp:zsjc P Tryz.f134=some a134:=by kernel_rfl
end
section
noncomputable def cSel (p:Grp→Ins→Bool):List DV→Option DV:=con (fun _=>True) (fun a:Grp × Ins=>[.agg (grC a.1),.agg (inC a.2)]) (fun a => .bool (p a.1 a.2))
theorem zfuw {p:Grp→Ins→Bool} {g:Grp} {x:Ins}:cSel p [.agg (grC g),.agg (inC x)]=some (.bool (p g x)) :=
 zsn4 (f:=fun a:Grp × Ins=>[.agg (grC a.1),.agg (inC a.2)]) (by
  rintro ⟨a,b⟩ ⟨c,d⟩ e;simp only [List.cons.injEq,DV.agg.injEq,and_true] at e;rw [zs5w e.1,zpbj e.2]) (g,x)
theorem zssk {k:FuncId} {p:Grp→Ins→Bool} (h : ∀ g x,Am.Sem P k [.agg (grC g),.agg (inC x)] (.bool (p g x))):(Con.pure (cSel p)).Sound P k:=z2au fun a _=>h a.1 a.2
theorem zh1i (g:Grp) (x:Ins):Runs tbl0 a116 [.agg (grC g),.agg (inC x)] (.bool (z6db g x)):=by
 refine ⟨?_⟩;by_cases h:x.state=2
 ·simp (disch:=first|omega|simp<;>omega|fail) [-zE,a116,z6db,h]
 ·simp (disch:=first|omega|simp<;>omega|fail) [-zE,a116,z6db,h]
noncomputable def T200:Tbl:=addT 49 (.pure (cDgs hasB)) tbl0
theorem zhk1:T200 49 = .pure (cDgs hasB):=by simp [T200]
theorem zqfs:T200.Sound P:=z0rp (z2au fun p _=>zljw mix zntx Tryz.func49 zdc4 (zntt p.1 p.2)) zr5o
theorem zcre (g:Grp) (x:Ins):Runs T200 a114 [.agg (grC g),.agg (inC x)] (.bool (chos g x)):=by
 refine ⟨?_⟩;by_cases h:x.den<0
 ·simp (disch:=first|omega|simp<;>omega|fail) [-zE,a114,chos,h,zhk1,ztlh,hasB]
 ·simp (disch:=first|omega|simp<;>omega|fail) [-zE,a114,chos,h]
noncomputable def T201:Tbl:=addT 116 (.pure (cSel z6db)) (addT 114 (.pure (cSel chos)) tbl0)
theorem zz2x:T201 116 = .pure (cSel z6db):=by simp [T201]
theorem z2xr:T201 114 = .pure (cSel chos):=by simp [T201]
theorem zo83:(Con.pure (cSel z6db)).Sound P 116:=zssk fun g x=>zljw mix zr5o Tryz.func116 z3rp (zh1i g x)
theorem zieo:T201.Sound P:=z0rp zo83 (z0rp (zssk fun g x=>zljw mix zqfs Tryz.func114 zgcx (zcre g x)) zr5o)
theorem zkns (g:Grp) (x:Ins):Runs T201 a113 [.agg (grC g),.agg (inC x)] (.bool (z9qu g x)):=by
 refine ⟨?_⟩;by_cases h:x.state=3
 ·simp (disch:=first|omega|simp<;>omega|fail) [-zE,a113,z9qu,h,z2xr,zfuw]
 ·simp (disch:=first|omega|simp<;>omega|fail) [-zE,a113,z9qu,h,z2xr,zfuw]
theorem z6d4 (g:Grp) (x:Ins):Runs T201 a115 [.agg (grC g),.agg (inC x)] (.bool (sDen g x)):=by
 refine ⟨?_⟩;by_cases h:x.state=2
 ·simp (disch:=first|omega|simp<;>omega|fail) [-zE,a115,sDen,z6db,h,zz2x,zfuw]
 ·simp (disch:=first|omega|simp<;>omega|fail) [-zE,a115,sDen,z6db,h,zz2x,zfuw]
theorem z42r (g:Grp) (x:Ins):Runs T201 a121 [.agg (grC g),.agg (inC x)] (.bool (sRep g x)):=by
 refine ⟨?_⟩;by_cases h:x.state=2
 ·by_cases h1:x.den<0
  ·simp (disch:=first|omega|simp<;>omega|fail) [-zE,a121,sRep,z6db,h,h1,zz2x,z2xr,zfuw]
  ·simp (disch:=first|omega|simp<;>omega|fail) [-zE,a121,sRep,z6db,h,h1,zz2x,z2xr,zfuw]
 ·simp (disch:=first|omega|simp<;>omega|fail) [-zE,a121,sRep,z6db,h,zz2x,zfuw]
theorem zi6h (g:Grp) (x:Ins):Runs T201 a122 [.agg (grC g),.agg (inC x)] (.bool (z7e4 g x)):=by
 refine ⟨?_⟩;by_cases h:x.state=2
 ·simp (disch:=first|omega|simp<;>omega|fail) [-zE,a122,z7e4,z6db,h,zz2x,z2xr,zfuw]
 ·simp (disch:=first|omega|simp<;>omega|fail) [-zE,a122,z7e4,z6db,h,zz2x,zfuw]
inductive W5 where
 | live|good|den|rep|spare
def W5.fid:W5→Nat
 | .live=>116
 | .good=>113
 | .den=>115
 | .rep=>121
 | .spare=>122
def W5.sel:W5→Grp→Ins→Bool
 | .live=>z6db
 | .good=>z9qu
 | .den=>sDen
 | .rep=>sRep
 | .spare=>z7e4
theorem W5.inj {a b:W5} (h:a.fid=b.fid):a=b:=by cases a<;>cases b<;>first|rfl|(simp [W5.fid] at h)
noncomputable def T202:Tbl:=addT 116 (.pure (cSel z6db)) (addT 113 (.pure (cSel z9qu)) (addT 115 (.pure (cSel sDen)) (addT 121 (.pure (cSel sRep)) (addT 122 (.pure (cSel z7e4)) tbl0))))
theorem z7is (w:W5):T202 w.fid = .pure (cSel w.sel):=by cases w<;>simp [T202,W5.fid,W5.sel]
theorem z5dd:T202.Sound P:=z0rp zo83 (z0rp (zssk fun g x=>zljw mix zieo Tryz.func113 zz1e (zkns g x)) (z0rp (zssk fun g x=>zljw mix zieo Tryz.func115 zv17 (z6d4 g x)) (z0rp (zssk fun g x=>zljw mix zieo Tryz.func121 zfl0 (z42r g x)) (z0rp (zssk fun g x=>zljw mix zieo Tryz.func122 z2hw (zi6h g x)) zr5o))))
def cmpI (a b:Int):Int:=if a<b then -1 else if b<a then 1 else 0
def orI (a b:Int):Int:=if a=0 then b else a
noncomputable def cNaN:List DV→Option DV:=con (fun _=>True) (fun a:Int=>[.int .i64 a]) (fun _ => .bool false)
theorem z0kw {a:Int}:cNaN [.int .i64 a]=some (.bool false) :=
 zsn4 (f:=fun a:Int=>[.int .i64 a]) (g:=fun _ => .bool false) (by intro a b e; simpa using e) a
theorem zimq (a:Int):Runs tbl0 a134 [.int .i64 a] (.bool false):=by
 refine ⟨?_⟩;simp (disch:=first|omega|simp<;>omega|fail) [-zE,a134]
theorem zc8m (a:Int):Runs tbl0 a101 [.int .i64 a] (.bool false):=by
 refine ⟨?_⟩;simp (disch:=first|omega|simp<;>omega|fail) [-zE,a101]
noncomputable def T203:Tbl:=addT 134 (.pure cNaN) (addT 101 (.pure cNaN) tbl0)
theorem z38x:T203 134 = .pure cNaN:=by simp [T203]
theorem z43x:T203 101 = .pure cNaN:=by simp [T203]
theorem ztzm:T203.Sound P:=z0rp (z2au fun a _=>zljw mix zr5o Tryz.func134 zccp (zimq a)) (z0rp (z2au fun a _=>zljw mix zr5o Tryz.func101 zzmu (zc8m a)) zr5o)
noncomputable def cII (f:Int→Int→DV):List DV→Option DV:=con (fun _=>True) (fun a:Int × Int=>[.int .i64 a.1,.int .i64 a.2]) (fun a=>f a.1 a.2)
theorem zmei {f:Int→Int→DV} {a b:Int}:cII f [.int .i64 a,.int .i64 b]=some (f a b) :=
 zsn4 (f:=fun a:Int × Int=>[.int .i64 a.1,.int .i64 a.2]) (g:=fun a=>f a.1 a.2) (by
  rintro ⟨a,b⟩ ⟨c,d⟩ e;simp only [List.cons.injEq,DV.int.injEq,and_true,true_and] at e;rw [e.1,e.2]) (a,b)
theorem zqye (a b:Int):Runs T203 a119 [.int .i64 a,.int .i64 b] (.int .i64 (cmpI a b)):=by
 refine ⟨?_⟩;by_cases h:a<b
 ·simp (disch:=first|omega|simp<;>omega|fail) [-zE,a119,z38x,z0kw,cmpI,h]
 ·by_cases h':b<a
  ·simp (disch:=first|omega|simp<;>omega|fail) [-zE,a119,z38x,z0kw,cmpI,h,h']
  ·simp (disch:=first|omega|simp<;>omega|fail) [-zE,a119,z38x,z0kw,cmpI,h,h']
theorem zcof (a b:Int):Runs T203 a71 [.int .i64 a,.int .i64 b] (.int .i64 (cmpI a b)):=by
 refine ⟨?_⟩;by_cases h:a<b
 ·simp (disch:=first|omega|simp<;>omega|fail) [-zE,a71,z43x,z0kw,cmpI,h]
 ·by_cases h':b<a
  ·simp (disch:=first|omega|simp<;>omega|fail) [-zE,a71,z43x,z0kw,cmpI,h,h']
  ·simp (disch:=first|omega|simp<;>omega|fail) [-zE,a71,z43x,z0kw,cmpI,h,h']
noncomputable def cOr:List DV→Option DV:=con (fun _=>True) (fun a:Int × Int=>[.sl true 1 2 [.int .i64 a.1,.int .i64 a.2]]) (fun a => .int .i64 (orI a.1 a.2))
theorem z68y {a b:Int}:cOr [.sl true 1 2 [.int .i64 a,.int .i64 b]]=some (.int .i64 (orI a b)) :=
 zsn4 (f:=fun a:Int × Int=>[.sl true 1 2 [.int .i64 a.1,.int .i64 a.2]]) (g:=fun a => .int .i64 (orI a.1 a.2)) (by
  rintro ⟨a,b⟩ ⟨c,d⟩ e;simp only [List.cons.injEq,DV.sl.injEq,DV.int.injEq,and_true,true_and] at e;rw [e.1,e.2]) (a,b)
def S204 (a b:Int) (i:Nat):St:=ziom (.int .i64 0) (.sl true 1 2 [.int .i64 a,.int .i64 b]) (.int .i64 2) (.int .i64 i) []
theorem z5l8 (a b:Int):Runs tbl0 a70 [.sl true 1 2 [.int .i64 a,.int .i64 b]] (.int .i64 (orI a b)):=by
 refine ⟨?_⟩;simp (disch:=first|omega|simp<;>omega|fail) [-zE,a70];refine zlm5 (S204 a b) (fun i=>2-i) (fun i=>i≤2∧(0<i→a=0)∧(1<i→b=0)) 0 (yWS (by simp [-zE])) ⟨by omega,fun h=>by omega,fun h=>by omega⟩ (fun i hi => ?_)
 obtain ⟨j,d,f⟩:=hi;simp (disch:=first|omega|simp<;>omega|fail) [-zE,z3a0,ziom,S204];rcases (show i=0∨i=1∨i=2 by omega) with rfl|rfl|rfl
 ·by_cases e:a=0
  ·simp (disch:=first|omega|simp<;>omega|fail) [-zE,e];refine ⟨1,yWS (by simp [-zE]),?_⟩
   simp [e]
  ·simp (disch:=first|omega|simp<;>omega|fail) [-zE,e,orI]
 ·have c:=d (by omega)
  by_cases e:b=0
  ·simp (disch:=first|omega|simp<;>omega|fail) [-zE,e];refine ⟨2,yWS (by simp [-zE]),?_⟩
   simp [e,c]
  ·simp (disch:=first|omega|simp<;>omega|fail) [-zE,e,orI,c]
 ·have c:=d (by omega)
  have g:=f (by omega)
  simp (disch:=first|omega|simp<;>omega|fail) [-zE,orI,c,g]
end
section
def idsL (c:Clu) (k:Int) (p:Grp→Ins→Bool):List Ins:=match grAt c k with
 | some g=>selL c.i.l k (p g)
 | none=>[]
theorem z1c3 {c:Clu} {k:Int} {p:Grp→Ins→Bool}:idsP c k p=(idsL c k p).map Ins.id:=by unfold idsP idsL; cases grAt c k<;>rfl
def idC (l:List Ins):List DV:=(l.map Ins.id).flatMap inI
theorem z1cu (l:List Ins):(idC l).length=l.length:=by
 have:=z1rq zg97 (l.map Ins.id);rw [idC,this]; simp
theorem zwhe (l:List Ins):zbao (idC l)=true:=zp6k zyj0 _
theorem zea0 {n:Nat} {l:List Ins}:belowL n (idC l)=true:=zmq5 n _ (zwhe l)
theorem z6bj {n:Nat} {l:List Ins} {y:Int}:belowL n (idC l++[.int .i64 y])=true:=zmq5 n _ (zg0c (zwhe l) rfl)
theorem zmhq (l:List Ins) (x:Ins):idC l++[.int .i64 x.id]=idC (l++[x]):=by simp [idC,inI]
theorem zghr (x:Ins):idC [x]=[.int .i64 x.id]:=rfl
def idV (n:Nat) (l:List Ins):DV:=if l=[] then .nils else .ms n l.length 0 1 l.length l.length
def idO (c:Clu) (l:List Ins):List AObj:=match l with
 | []=>[.cells (clC c)]
 | x::r=>[.cells (clC c),.cells (inC x),.cells (idC (x::r))]
theorem zcew {n:Nat}:idV n [] = .nils:=rfl
theorem zzb3 {n:Nat} {l:List Ins} (h:l≠[]):idV n l = .ms n l.length 0 1 l.length l.length:=if_neg h
theorem zuwx {c:Clu}:idO c []=[.cells (clC c)]:=rfl
theorem ztnf {c:Clu} {x:Ins} {r:List Ins}:idO c (x::r)=[.cells (clC c),.cells (inC x),.cells (idC (x::r))]:=rfl
structure DSi where
 i:Nat
 l:List Ins
def S210 (c:Clu) (k:Int) (f:DV) (a:DSi):St:=zhqq (.int .i64 k) f (.mp 0 3 0) (idV 2 a.l) (c.i.dv 37 inC) (.int .i64 c.i.l.length) (.int .i64 a.i) (idO c a.l)
theorem zk04 {l:List Ins} {k:Int} {p:Ins→Bool} {i:Nat} (h:i<l.length):selL (l.take (i+1)) k p=selL (l.take i) k p++(if decide (l[i].grp=k)&&p l[i] then [l[i]] else []):=by
 rw [y08 h,selL,List.filter_append];congr 1;simp only [List.filter_cons,List.filter_nil]
theorem zsx4 {h:List AObj} {l:List Ins} {c:List DV} {o x:AObj} {y:Int} (hl:0<l.length) (hb:l.length<4294967296):appX [o,x,.cells (idC l),.cells c] 1 8 (.ms 2 l.length 0 1 l.length l.length) 1 [.int .i64 y]=some (.ms 2 (l.length+1) 0 1 (l.length+1) (l.length+1),[o,x,.cells (idC l++[.int .i64 y]),.cells c]):=by
 have:=z1cu l;rw [zbho (by simp) (by omega) (by omega) (by simp) (by omega) (by simp [DV.one])]
 simp [objV,ziu0,this]
theorem zn3e (c:Clu) (k:Int) (w:W5):RunsH T202 a112 [.agg (clC c),.int .i64 k,.fn (.func w.fid) [] []] [] (idV 2 (idsL c k w.sel)) (idO c (idsL c k w.sel)):=by
 refine ⟨?_⟩;obtain ⟨f,O⟩ : ∃ f,w.fid=f:=⟨_,rfl⟩;have m:=z7is w;rw [O] at m;rw [O];obtain ⟨p,Q⟩ : ∃ p,w.sel=p:=⟨_,rfl⟩;rw [Q] at m;rw [Q];by_cases h0:k<0
 ·have v:grAt c k=none:=if_neg (by omega)
  simp (disch:=first|omega|simp<;>omega|fail) [-zE,a112,h0,idsL,v,idV,idO]
 obtain ⟨K,rfl⟩ : ∃ K:Nat,k=K:=⟨k.toNat,by omega⟩
 by_cases h1:c.g.l.length≤K
 ·have v:grAt c K=none:=by
   rw [grAt,if_pos (by omega),y01,y0o]; exact h1
  have n:(c.g.l.length:Int)≤K:=by omega
  simp (disch:=first|omega|simp<;>omega|fail) [-zE,a112,h0,h1,n,idsL,v,idV,idO]
 have J:K<c.g.l.length:=by omega
 have v:grAt c K=some c.g.l[K]:=by rw [grAt,if_pos (by omega),y01,y00 J]
 have n:¬ (c.g.l.length:Int)≤K:=by omega
 have q:=fun h=>zalo (x:=c.g) (h:=h) zry4 J
 have u:idsL c K p=selL c.i.l K (p c.g.l[K]):=by unfold idsL; rw [v]
 rw [u];obtain ⟨G,t⟩ : ∃ G,c.g.l[K]=G:=⟨_,rfl⟩;rw [t] at q;rw [t];have R:=c.i.b;simp (disch:=first|omega|simp<;>omega|fail) [-zE,a112,h0,h1,n];refine zlm5 (S210 c K (.fn (.func f) [] [])) (fun a=>c.i.l.length-a.i) (fun a=>a.i≤c.i.l.length∧a.l=selL (c.i.l.take a.i) K (p G)) ⟨0,[]⟩ (z515 (by simp (disch:=first|omega|simp<;>omega|fail) [-zE,S210,zhqq,zcew]) (by simp (disch:=first|omega|simp<;>omega|fail) [-zE,S210,zuwx])) ⟨by simp,by simp [selL]⟩ (fun a ha => ?_)
 obtain ⟨i,l⟩:=a;obtain ⟨S,C⟩:=ha;simp only at S C;simp (disch:=first|omega|simp<;>omega|fail) [-zE,z91y,zhqq,S210];by_cases h:i<c.i.l.length
 ·have j:(i:Int)<c.i.l.length:=by omega
  have s:=fun H=>zalo (x:=c.i) (h:=H) z6gw h
  have A:=zk04 (k:=K) (p:=p G) h;obtain ⟨x,r⟩ : ∃ x,c.i.l[i]=x:=⟨_,rfl⟩;rw [r] at A;have F:l.length≤i:=by rw [C]; exact Nat.le_trans (y0i _ _) (by simp; omega)
  have N:=z1cu l;rw [← C] at A;by_cases e1:x.grp=K
  ·cases e2:p G x with
   | true =>
    have d:selL (c.i.l.take (i+1)) K (p G)=l++[x]:=by rw [A]; simp [e1,e2]
    cases l with
    | nil =>
     simp (disch:=first|omega|simp<;>omega|fail) [-zE,zcew,zuwx,h,j,s,r,q,m,zfuw,e1,e2];refine ⟨⟨i+1,[x]⟩,z515 (by simp (disch:=first|omega|simp<;>omega|fail) [-zE,S210,zhqq,idV]) (by simp (disch:=first|omega|simp<;>omega|fail) [-zE,S210,ztnf,zghr]),by simp; omega,by simp; omega,by simpa using d.symm⟩
    | cons y l =>
     have I:idV 2 (y::l) = .ms 2 (y::l).length 0 1 (y::l).length (y::l).length:=rfl;obtain ⟨L,u⟩ : ∃ L,y::l=L:=⟨_,rfl⟩;have D:0<L.length:=by rw [← u]; simp
     have B : ∀ z,idO c (L++[z])=[.cells (clC c),.cells (inC y),.cells (idC L++[.int .i64 z.id])]:=fun z=>by rw [zmhq,← u]; rfl
     rw [I,ztnf];rw [u] at F N d ⊢;have E:=fun H o z c y=>zsx4 (h:=H) (l:=L) (o:=o) (x:=z) (c:=c) (y:=y) D (by omega)
     simp (disch:=first|omega|simp<;>omega|fail) [-zE,h,j,s,r,q,m,zfuw,e1,e2,E,N];refine ⟨⟨i+1,L++[x]⟩,zju2 (tail:=[.cells (inC x)]) (by simp (disch:=first|omega|simp<;>omega|fail) [-zE,S210,zhqq,idV]) (by simp (disch:=first|omega|simp<;>omega|fail) [-zE,S210,B]) (by simp [S210,zhqq,B]) (by simp [S210,zhqq,B,idV,belowL,Am.below]) (by simp [S210,zhqq,B,zlf2,zea0,z6bj]),by simp; omega,by simp; omega,by simpa using d.symm⟩
   | false =>
    have d:selL (c.i.l.take (i+1)) K (p G)=l:=by rw [A]; simp [e2]
    cases l with
    | nil =>
     simp (disch:=first|omega|simp<;>omega|fail) [-zE,zcew,zuwx,h,j,s,r,q,m,zfuw,e1,e2];refine ⟨⟨i+1,[]⟩,zju2 (tail:=[.cells (inC x)]) (by simp (disch:=first|omega|simp<;>omega|fail) [-zE,S210,zhqq,idV]) (by simp (disch:=first|omega|simp<;>omega|fail) [-zE,S210,zuwx]) (by simp [S210,zhqq,zuwx]) (by simp [S210,zhqq,zuwx,idV,belowL,Am.below]) (by simp [S210,zhqq,zuwx,zlf2,zea0]),by simp; omega,by simp; omega,by simpa using d.symm⟩
    | cons y l =>
     simp (disch:=first|omega|simp<;>omega|fail) [-zE,idV,ztnf,h,j,s,r,q,m,zfuw,e1,e2];refine ⟨⟨i+1,y::l⟩,zju2 (tail:=[.cells (inC x)]) (by simp (disch:=first|omega|simp<;>omega|fail) [-zE,S210,zhqq,idV]) (by simp (disch:=first|omega|simp<;>omega|fail) [-zE,S210,ztnf]) (by simp [S210,zhqq,ztnf]) (by simp [S210,zhqq,ztnf,idV,belowL,Am.below]) (by simp [S210,zhqq,ztnf,zlf2,zea0]),by simp; omega,by simp; omega,by simpa using d.symm⟩
  ·have d:selL (c.i.l.take (i+1)) K (p G)=l:=by rw [A]; simp [e1]
   cases l with
   | nil =>
    simp (disch:=first|omega|simp<;>omega|fail) [-zE,zcew,zuwx,h,j,s,r,q,m,zfuw,e1];refine ⟨⟨i+1,[]⟩,zju2 (tail:=[.cells (inC x)]) (by simp (disch:=first|omega|simp<;>omega|fail) [-zE,S210,zhqq,idV]) (by simp (disch:=first|omega|simp<;>omega|fail) [-zE,S210,zuwx]) (by simp [S210,zhqq,zuwx]) (by simp [S210,zhqq,zuwx,idV,belowL,Am.below]) (by simp [S210,zhqq,zuwx,zlf2,zea0]),by simp; omega,by simp; omega,by simpa using d.symm⟩
   | cons y l =>
    simp (disch:=first|omega|simp<;>omega|fail) [-zE,idV,ztnf,h,j,s,r,q,m,zfuw,e1];refine ⟨⟨i+1,y::l⟩,zju2 (tail:=[.cells (inC x)]) (by simp (disch:=first|omega|simp<;>omega|fail) [-zE,S210,zhqq,idV]) (by simp (disch:=first|omega|simp<;>omega|fail) [-zE,S210,ztnf]) (by simp [S210,zhqq,ztnf]) (by simp [S210,zhqq,ztnf,idV,belowL,Am.below]) (by simp [S210,zhqq,ztnf,zlf2,zea0]),by simp; omega,by simp; omega,by simpa using d.symm⟩
 ·have j:¬ (i:Int)<c.i.l.length:=by omega
  have e:selL c.i.l K (p G)=l:=by rw [C,y04 (by omega)]
  simp (disch:=first|omega|simp<;>omega|fail) [-zE,h,j,e]
end
section
def liV (l:List Int):DV:=if l=[] then .nils else .sl false 1 l.length (l.flatMap inI)
theorem zxxz:liV [] = .nils:=rfl
theorem zefw {l:List Int} (h:l≠[]):liV l = .sl false 1 l.length (l.flatMap inI):=if_neg h
theorem z4yh (l:List Int):zyp8 (liV l)=true:=by
 unfold liV; split
 ·rfl
 ·show zbao _=true; exact zp6k zyj0 l
theorem zo8b (H:List AObj) (l:List Int):lenD H (liV l)=some (.int .i64 l.length):=by
 unfold liV; split
 ·rename_i h; subst h; rfl
 ·rfl
theorem zcq2 (H:List AObj) {l:List Int} {i:Nat} (hi:i<l.length):zpsc H 1 (liV l) i=some (.ref [.int .i64 l[i]]):=by
 unfold liV; split
 ·rename_i h; subst h; simp at hi
 ·rw [zsu0 (by omega) (by omega),y01,zdao zg97 hi]; rfl
theorem zj6i (l:List Int):(liV l).one=true:=by unfold liV; split<;>rfl
theorem z2h8 (l:List Int):(liV l).known=true:=by unfold liV; split<;>rfl
theorem zf8a (l:List Int):(liV l).cells=[liV l]:=by unfold liV; split<;>rfl
theorem zqdh {a b:List Int} (h:liV a=liV b):a=b:=by
 unfold liV at h;split at h<;>split at h
 ·rename_i h1 h2; rw [h1,h2]
 ·simp at h
 ·simp at h
 ·simp only [DV.sl.injEq] at h; exact ziad h.2.2.2
theorem zuw8 (n k:Nat) (H:List AObj) (l:List Int):fz n H k (liV l)=some (liV l):=zqge (z4yh l)
theorem zzkh (k:Nat) (H:List AObj) (l:List Int):snap H k (liV l)=some (liV l):=z6nl (z4yh l)
theorem zlhx (n:Nat) (l:List Int):Am.below n (liV l)=true:=z8b8 n _ (z4yh l)
attribute [simp] z4yh zo8b zj6i z2h8 zf8a zuw8 zzkh zlhx
theorem zr1m {n m:Nat} {l:List Ins}:shD n (idV m l)=idV (n+m) l:=by
 unfold idV; split<;>rfl
theorem z6ax {n:Nat} {c:Clu} {l:List Ins}:(idO c l).map (shO n)=idO c l:=by
 cases l with
 | nil=>rw [zuwx]; simp only [y09,y0p,z05k,zj45 n _ (zy11 c)]
 | cons x r=>rw [ztnf]; simp only [y09,y0p,z05k,zj45 n _ (zy11 c),zj45 n _ (z9kv x),zj45 n _ (zwhe _)]
noncomputable def cIds:List DV→Nat→Option (DV × List AObj):=conN (fun _=>True) (fun a:Clu × Int × W5=>[.agg (clC a.1),.int .i64 a.2.1,.fn (.func a.2.2.fid) [] []]) (fun a=>(idV 2 (idsL a.1 a.2.1 a.2.2.sel),idO a.1 (idsL a.1 a.2.1 a.2.2.sel)))
theorem zr07 {c:Clu} {k:Int} (w:W5) {n:Nat}:cIds [.agg (clC c),.int .i64 k,.fn (.func w.fid) [] []] n=some (idV (n+2) (idsL c k w.sel),idO c (idsL c k w.sel)):=by
 have:=zqtp (A:=fun _=>True) (f:=fun a:Clu × Int × W5=>[.agg (clC a.1),.int .i64 a.2.1,.fn (.func a.2.2.fid) [] []]) (g:=fun a=>(idV 2 (idsL a.1 a.2.1 a.2.2.sel),idO a.1 (idsL a.1 a.2.1 a.2.2.sel))) (by
  rintro ⟨a,b,c⟩ ⟨a',b',c'⟩ e;simp only [List.cons.injEq,DV.agg.injEq,DV.int.injEq,DV.fn.injEq,Fn.func.injEq,and_true,true_and] at e;rw [zh7t e.1,e.2.1,W5.inj e.2.2]) (c,k,w) trivial n
 rw [zr1m,z6ax] at this;exact this
theorem z2ld:(Con.new cIds).Sound P 112:=z3ld (fun a _=>by simp [zbao,zyp8,zy11]) fun a _=>zv22 mix z5dd Tryz.func112 zhnv (zn3e a.1 a.2.1 a.2.2)
noncomputable def T211:Tbl:=addT 112 (.new cIds) tbl0
theorem zdkv:T211 112 = .new cIds:=by simp [T211]
theorem z0u5:T211.Sound P:=z0rp z2ld zr5o
theorem ze4y {c:Clu} {k:Int} {n:Nat}:cIds [.agg (clC c),.int .i64 k,.fn (.func 116) [] []] n=some (idV (n+2) (idsL c k z6db),idO c (idsL c k z6db)):=zr07 .live
theorem zb7t {c:Clu} {k:Int} {n:Nat}:cIds [.agg (clC c),.int .i64 k,.fn (.func 113) [] []] n=some (idV (n+2) (idsL c k z9qu),idO c (idsL c k z9qu)):=zr07 .good
theorem zf1r {c:Clu} {k:Int} {n:Nat}:cIds [.agg (clC c),.int .i64 k,.fn (.func 115) [] []] n=some (idV (n+2) (idsL c k sDen),idO c (idsL c k sDen)):=zr07 .den
theorem zn1n {c:Clu} {k:Int} {n:Nat}:cIds [.agg (clC c),.int .i64 k,.fn (.func 121) [] []] n=some (idV (n+2) (idsL c k sRep),idO c (idsL c k sRep)):=zr07 .rep
theorem zsck {c:Clu} {k:Int} {n:Nat}:cIds [.agg (clC c),.int .i64 k,.fn (.func 122) [] []] n=some (idV (n+2) (idsL c k z7e4),idO c (idsL c k z7e4)):=zr07 .spare
theorem z4t2 (c:Clu) (k:Int):Runs T211 a124 [.agg (clC c),.int .i64 k] (.int .i64 (zd1c c k)):=by
 refine ⟨?_⟩;have e:zd1c c k=(idsL c k z6db).length:=by rw [zd1c,z1c3,y0a]
 rw [e];cases hl:idsL c k z6db with
 | nil=>simp (disch:=first|omega|simp<;>omega|fail) [-zE,a124,zdkv,ze4y,hl,zcew,zuwx]
 | cons x r =>
  have a:=z1cu (x::r);simp only [List.length_cons] at a;have b:idV 3 (x::r) = .ms 3 (r.length+1) 0 1 (r.length+1) (r.length+1):=rfl;simp (disch:=first|omega|simp<;>omega|fail) [-zE,a124,zdkv,ze4y,hl,b,ztnf,a]
theorem zt5o (l:List Ins):(idC l).take l.length=idC l:=y04 (by rw [z1cu]; omega)
theorem zh3a (c:Clu) (k:Int):Runs T211 a87 [.agg (clC c),.int .i64 k] (liV (znqs c k)):=by
 refine ⟨?_⟩;have e:znqs c k=(idsL c k z9qu).map Ins.id:=by rw [znqs,z1c3]
 rw [e];cases hl:idsL c k z9qu with
 | nil=>simp (disch:=first|omega|simp<;>omega|fail) [-zE,a87,zdkv,zb7t,hl,zcew,zuwx,zxxz]
 | cons x r =>
  have a:=z1cu (x::r);have b:=zt5o (x::r);simp only [List.length_cons] at a b;have d:idV 3 (x::r) = .ms 3 (r.length+1) 0 1 (r.length+1) (r.length+1):=rfl;have f:liV (x.id::r.map Ins.id) = .sl false 1 (r.length+1) (idC (x::r)):=by
   have:liV ((x::r).map Ins.id) = .sl false 1 ((x::r).map Ins.id).length (idC (x::r)):=rfl;simpa using this
  simp (disch:=first|omega|simp<;>omega|fail) [-zE,a87,zdkv,zb7t,hl,d,ztnf,a,b,f,z619 (zwhe _)]
noncomputable def cCk (f:Clu→Int→DV):List DV→Option DV:=con (fun _=>True) (fun a:Clu × Int=>[.agg (clC a.1),.int .i64 a.2]) (fun a=>f a.1 a.2)
theorem ztaz {f:Clu→Int→DV} {c:Clu} {k:Int}:cCk f [.agg (clC c),.int .i64 k]=some (f c k) :=
 zsn4 (f:=fun a:Clu × Int=>[.agg (clC a.1),.int .i64 a.2]) (g:=fun a=>f a.1 a.2) (by
  rintro ⟨a,b⟩ ⟨c,d⟩ e;simp only [List.cons.injEq,DV.agg.injEq,DV.int.injEq,and_true,true_and] at e;rw [zh7t e.1,e.2]) (c,k)
def zmwp (c:Clu) (k:Int):DV := .int .i64 (zd1c c k)
def z3tq (c:Clu) (k:Int):DV:=liV (znqs c k)
def zc12 (c:Clu) (k:Int):DV := .int .i64 (z17v c k)
noncomputable def T212:Tbl:=addT 124 (.pure (cCk zmwp)) (addT 87 (.pure (cCk z3tq)) tbl0)
theorem zluy:T212 124 = .pure (cCk zmwp):=by simp [T212]
theorem zrqz:(Con.pure (cCk zmwp)).Sound P 124:=z2au fun a _=>zljw mix z0u5 Tryz.func124 ze8k (z4t2 a.1 a.2)
theorem zjal:(Con.pure (cCk z3tq)).Sound P 87:=z2au fun a _=>zljw mix z0u5 Tryz.func87 zfhg (zh3a a.1 a.2)
theorem z3vd:T212.Sound P:=z0rp zrqz (z0rp zjal zr5o)
theorem zkxy {c:Clu} {k:Int} (h:k<0):grAt c k=none:=if_neg (by omega)
theorem zxgx {c:Clu} {K:Nat} (h:c.g.l.length≤K):grAt c K=none:=by
 rw [grAt,if_pos (by omega),y01,y0o]; exact h
theorem zlav {c:Clu} {K:Nat} (h:K<c.g.l.length):grAt c K=some c.g.l[K]:=by rw [grAt,if_pos (by omega),y01,y00 h]
def zb68 (g:Grp):Prop:=(-1000000000≤g.want∧g.want≤1000000000)∧(-1000000000≤g.least∧g.least≤1000000000) ∧ -1000000000≤g.down∧g.down≤1000000000
theorem zk4z {c:Clu} {k:Int}:zd1c c k≤c.i.l.length:=by
 unfold zd1c idsP;split
 ·rw [y0a]; exact y0i _ _
 ·simp
theorem z7in {c:Clu} {k:Int}:(znqs c k).length≤c.i.l.length:=by
 unfold znqs idsP;split
 ·rw [y0a]; exact y0i _ _
 ·simp
theorem zebb (c:Clu) (k:Int) (hL : ∀ g ∈ c.g.l,zb68 g):Runs T212 a89 [.agg (clC c),.int .i64 k] (zc12 c k):=by
 refine ⟨?_⟩;by_cases h0:k<0
 ·have e:z17v c k=0:=by rw [z17v,zkxy h0]
  simp (disch:=first|omega|simp<;>omega|fail) [-zE,a89,h0,zc12,e]
 obtain ⟨K,rfl⟩ : ∃ K:Nat,k=K:=⟨k.toNat,by omega⟩
 by_cases h1:c.g.l.length≤K
 ·have e:z17v c K=0:=by rw [z17v,zxgx h1]
  have d:(c.g.l.length:Int)≤K:=by omega
  simp (disch:=first|omega|simp<;>omega|fail) [-zE,a89,h0,h1,d,zc12,e]
 have f:K<c.g.l.length:=by omega
 have d:¬ (c.g.l.length:Int)≤K:=by omega
 have m:=fun h=>zalo (x:=c.g) (h:=h) zry4 f
 have a:=hL _ (y05 f);have e:z17v c K=max ((zd1c c K:Int)-max c.g.l[K].least (c.g.l[K].want-c.g.l[K].down)) 0:=by rw [z17v,zlav f]
 obtain ⟨G,j⟩ : ∃ G,c.g.l[K]=G:=⟨_,rfl⟩;rw [j] at m a e;obtain ⟨⟨r,s⟩,⟨l1,l2⟩,d1,d2⟩:=a;have p:=zk4z (c:=c) (k:=K);have o:=c.i.b;obtain ⟨M,n⟩ : ∃ M,max G.least (G.want-G.down)=M:=⟨_,rfl⟩;rw [n] at e;have q : -2000000000≤M∧M≤2000000000:=by omega
 simp (disch:=first|omega|simp<;>omega|fail) [-zE,a89,h0,h1,d,m,zluy,ztaz,zmwp,zc12,e,zm4y,n,zluv,zaqi]
end
section
theorem zong (x:Ins) (id:Int):Runs tbl0 a135 [.agg (inC x),.ref [.int .i64 id]] (.bool (decide (x.id=id))):=by
 refine ⟨?_⟩;simp (disch:=first|omega|simp<;>omega|fail) [-zE,a135]
noncomputable def T213:Tbl:=addT 135 (.pure cFi1) tbl0
theorem zav1:T213 135 = .pure cFi1:=by simp [T213]
theorem zeac:T213.Sound P:=z0rp (z2au fun p _=>zljw mix zr5o Tryz.func135 z8cr (zong p.1 p.2)) zr5o
abbrev fS (id:Int):DV := .fn (.func 135) [] [.ref [.int .i64 id]]
def S213 (x:Sl Ins) (id:Int) (i:Nat):St:=z4h4 (x.dv 37 inC) (fS id) (.int .i64 x.l.length) (.int .i64 i) []
theorem z6rm (x:Sl Ins) (id:Int):Runs T213 a107 [x.dv 37 inC,fS id] (.int .i64 (z092 x.l id)):=by
 refine ⟨?_⟩;have k:=x.b;simp (disch:=first|omega|simp<;>omega|fail) [-zE,a107];refine zlm5 (S213 x id) (fun i=>x.l.length-i) (fun i=>i≤x.l.length ∧ ∀ j (hj:j<x.l.length),j<i→decide (x.l[j].id=id)=false) 0 (yWS (by simp [-zE])) ⟨by omega,fun j _ hj=>by omega⟩ (fun i hi => ?_)
 obtain ⟨g,c⟩:=hi;simp (disch:=first|omega|simp<;>omega|fail) [-zE,z8wl,z4h4,S213];by_cases h:i<x.l.length
 ·have a:(i:Int)<x.l.length:=by omega
  have f:=zalo (x:=x) (h:=[]) z6gw h;by_cases e:x.l[i].id=id
  ·have d:z092 x.l id=i:=zy9u h (by simp [e]) c
   simp (disch:=first|omega|simp<;>omega|fail) [-zE,a,h,f,zav1,zbqj,e,d]
  ·simp (disch:=first|omega|simp<;>omega|fail) [-zE,a,h,f,zav1,zbqj,e];refine ⟨i+1,yWS (by simp [-zE]),by omega,by omega,fun j hj hji => ?_⟩
   by_cases ej:j=i
   ·subst ej; exact e
   ·simpa using c j hj (by omega)
 ·have a:¬ (i:Int)<x.l.length:=by omega
  have d:z092 x.l id = -1:=zfki (fun j hj=>c j hj (by omega))
  simp (disch:=first|omega|simp<;>omega|fail) [-zE,h,a,d]
noncomputable def cIxS:List DV→Option DV:=con (fun _=>True) (fun p:Sl Ins × Int=>[p.1.dv 37 inC,fS p.2]) (fun p => .int .i64 (z092 p.1.l p.2))
theorem zt5a {x:Sl Ins} {id:Int}:cIxS [x.dv 37 inC,fS id]=some (.int .i64 (z092 x.l id)) :=
 zsn4 (f:=fun p:Sl Ins × Int=>[p.1.dv 37 inC,fS p.2]) (by
  rintro ⟨a,b⟩ ⟨a',b'⟩ e;simp only [List.cons.injEq,DV.fn.injEq,DV.ref.injEq,DV.int.injEq,and_true,true_and] at e;rw [zcq7 z6gw (by decide) (fun _ _=>zpbj) e.1,e.2]) (x,id)
noncomputable def T214:Tbl:=addT 107 (.pure cIxS) tbl0
theorem zqls:T214 107 = .pure cIxS:=by simp [T214]
theorem zz4i:T214.Sound P:=z0rp (z2au fun p _=>zljw mix zeac Tryz.func107 z38u (z6rm p.1 p.2)) zr5o
theorem zxnu {c:Clu} {id:Int} (h:0≤z092 c.i.l id) : ∃ (i:Nat) (hi:i<c.i.l.length),z092 c.i.l id=i∧c.i.l[i].den=zfmx c id:=by
 obtain ⟨i,hi,e,a,b⟩:=ziel h;refine ⟨i,hi,e,?_⟩;have:c.i.l.find? (fun x=>decide (x.id=id))=some c.i.l[i]:=by
  rw [List.find?_eq_some_iff_getElem];exact ⟨a,i,hi,rfl,fun j hj=>by simpa using b j (by omega) hj⟩
 rw [zfmx,this]
theorem zydm (c:Clu) (id:Int) (h:0≤z092 c.i.l id):Runs T214 a120 [.agg (clC c),.int .i64 id] (.int .i64 (zfmx c id)):=by
 refine ⟨?_⟩;obtain ⟨i,e,a,b⟩:=zxnu h;have d:=fun H=>zalo (x:=c.i) (h:=H) z6gw e
 simp (disch:=first|omega|simp<;>omega|fail) [-zE,a120,zqls,zt5a,a,d,b]
noncomputable def cSi:List DV→Option DV:=con (fun a:Clu × Int=>0≤z092 a.1.i.l a.2) (fun a:Clu × Int=>[.agg (clC a.1),.int .i64 a.2]) (fun a => .int .i64 (zfmx a.1 a.2))
theorem zu8v {c:Clu} {id:Int} (h:0≤z092 c.i.l id):cSi [.agg (clC c),.int .i64 id]=some (.int .i64 (zfmx c id)) :=
 zzno (f:=fun a:Clu × Int=>[.agg (clC a.1),.int .i64 a.2]) (g:=fun a => .int .i64 (zfmx a.1 a.2)) (by
  rintro ⟨a,b⟩ ⟨c,d⟩ e;simp only [List.cons.injEq,DV.agg.injEq,DV.int.injEq,and_true,true_and] at e;rw [zh7t e.1,e.2]) (c,id) h
noncomputable def T215:Tbl:=addT 120 (.pure cSi) (addT 119 (.pure (cII fun a b => .int .i64 (cmpI a b))) (addT 71 (.pure (cII fun a b => .int .i64 (cmpI a b))) (addT 70 (.pure cOr) tbl0)))
theorem zml3:T215 120 = .pure cSi:=by simp [T215]
theorem zm1t:T215 119 = .pure (cII fun a b => .int .i64 (cmpI a b)):=by simp [T215]
theorem z1w2:T215 71 = .pure (cII fun a b => .int .i64 (cmpI a b)):=by simp [T215]
theorem zcnr:T215 70 = .pure cOr:=by simp [T215]
theorem z2nw:T215.Sound P:=z0rp (z2au fun p h=>zljw mix zz4i Tryz.func120 zrxr (zydm p.1 p.2 h)) (z0rp (z2au fun p _=>zljw mix ztzm Tryz.func119 zaj0 (zqye p.1 p.2)) (z0rp (z2au fun p _=>zljw mix ztzm Tryz.func71 zbtg (zcof p.1 p.2)) (z0rp (z2au fun p _=>zljw mix zr5o Tryz.func70 zhcw (z5l8 p.1 p.2)) zr5o)))
def cmpV (c:Clu) (a b:Int):Int:=orI (cmpI (zfmx c a) (zfmx c b)) (cmpI a b)
theorem zljf {c:Clu} {a b:Int}:cmpV c a b<0↔ltV c a b=true:=by
 simp only [cmpV,orI,cmpI,ltV,Bool.or_eq_true,Bool.and_eq_true,decide_eq_true_eq];split<;>(try split at *)<;>(try split)<;>(try split)<;>omega
theorem zdoj (c:Clu) (a b:Int) (ha:0≤z092 c.i.l a) (hb:0≤z092 c.i.l b):Runs T215 a118 [.int .i64 a,.int .i64 b,.ref (clC c)] (.int .i64 (cmpV c a b)):=by
 refine ⟨?_⟩;have d:=zu8v ha;have e:=zu8v hb;simp (disch:=first|omega|simp<;>omega|fail) [-zE,a118,zml3,zm1t,z1w2,zcnr,d,e,zmei,z68y,cmpV]
end
section
set_option maxRecDepth 4000
noncomputable def cV2:List DV→Option DV:=con (fun a:Clu × Int × Int=>0≤z092 a.1.i.l a.2.1∧0≤z092 a.1.i.l a.2.2) (fun a:Clu × Int × Int=>[.int .i64 a.2.1,.int .i64 a.2.2,.ref (clC a.1)]) (fun a => .int .i64 (cmpV a.1 a.2.1 a.2.2))
theorem zi7c {c:Clu} {a b:Int} (ha:0≤z092 c.i.l a) (hb:0≤z092 c.i.l b):cV2 [.int .i64 a,.int .i64 b,.ref (clC c)]=some (.int .i64 (cmpV c a b)) :=
 zzno (f:=fun a:Clu × Int × Int=>[.int .i64 a.2.1,.int .i64 a.2.2,.ref (clC a.1)]) (g:=fun a => .int .i64 (cmpV a.1 a.2.1 a.2.2)) (by
  rintro ⟨a,b,c⟩ ⟨d,e,f⟩ h;simp only [List.cons.injEq,DV.ref.injEq,DV.int.injEq,and_true,true_and] at h;rw [zh7t h.2.2,h.1,h.2.1]) (c,a,b) ⟨ha,hb⟩
noncomputable def T216:Tbl:=addT 118 (.pure cV2) tbl0
theorem z214:T216 118 = .pure cV2:=by simp [T216]
theorem zqkk:T216.Sound P:=z0rp (z2au fun p h=>zljw mix z2nw Tryz.func118 zasg (zdoj p.1 p.2.1 p.2.2 h.1 h.2)) zr5o
theorem zjj2 {pre l:List AObj} {ver:Nat}:objV (pre++l) pre.length ver=objV l 0 ver:=by
 unfold objV ziu0; rw [List.getElem?_append_right (by omega),y0q]
theorem zxft {pre l:List AObj} {o:AObj}:(pre++l).set pre.length o=pre++l.set 0 o:=by rw [y0b _ _ (by omega)]; simp
abbrev fV2:DV := .fn (.func 118) [] [.mp 0 3 0]
structure IP where
 A:List Int
 B:List Int
def S220 (pre:List AObj) (P:Nat) (n:Nat) (l:List Int) (lt:Int→Int→Bool) (i:Nat):St:=zzbm (.ms P n 0 1 n n) (.int .i64 0) (.int .i64 n) fV2 (.int .i64 i) (pre++[.cells ((zxu4 lt (l.take i)++l.drop i).map (.int .i64))])
def S221 (pre:List AObj) (P:Nat) (n i:Nat) (x:Int) (R:List Int) (a:IP):St:=zgpl (.ms P n 0 1 n n) (.int .i64 0) (.int .i64 n) fV2 (.int .i64 i) (.int .i64 a.A.length) (pre++[.cells ((a.A++x::(a.B++R)).map (.int .i64))])
theorem zmgd {lt:Int→Int→Bool} (l:List Int):(zxu4 lt l).length=l.length:=(zo43 l).length_eq
theorem zk1b {lt:Int→Int→Bool} {l:List Int} (h:l.length≤1):zxu4 lt l=l:=by
 match l,h with
 | [],_=>rfl
 | [a],_=>rfl
theorem z72y {A B R:List Int} {x y:Int}:((A++[y]++x::(B++R)).set (A.length+1) y).set A.length x=A++x::(y::B++R):=by
 rw [List.append_assoc,y0b _ _ (by omega),show A.length+1-A.length=1 by omega,y0b _ _ (by omega),y0q]
 rfl
theorem zwc3 (c:Clu) (pre:List AObj) (l:List Int) (hpre : ∀ X,objV (pre++X) 0 3=some (clC c)) (hl : ∀ a ∈ l,0≤z092 c.i.l a) (hb:l.length≤1000000) :
  RunsH T216 a142 [.ms pre.length l.length 0 1 l.length l.length,.int .i64 0,.int .i64 l.length,fV2] (pre++[.cells (l.map (.int .i64))]) (.tup []) (pre++[.cells ((zxu4 (ltV c) l).map (.int .i64))]):=by
 refine ⟨?_⟩;obtain ⟨n,J⟩ : ∃ n,l.length=n:=⟨_,rfl⟩;obtain ⟨W,hP⟩ : ∃ p,pre.length=p:=⟨_,rfl⟩;obtain ⟨d,t⟩ : ∃ d,ltV c=d:=⟨_,rfl⟩;rw [J,t];rw [J] at hb;simp (disch:=first|omega|simp<;>omega|fail) [-zA,-zB,-zC,-zD,-zE,a142];refine zlm5 (S220 pre pre.length n l d) (fun i=>n+1-i) (fun i=>1≤i∧(i≤n∨n=0)) 1 (z515 (by simp (disch:=first|omega|simp<;>omega|fail) [-zA,-zB,-zC,-zD,-zE,S220,zzbm]) ?_) ⟨by omega,by omega⟩ (fun i hi => ?_)
 ·simp (disch:=first|omega|simp<;>omega|fail) [-zA,-zB,-zC,-zD,-zE,S220,zzbm];rw [zk1b (by simp; omega),List.take_append_drop]
 obtain ⟨Y,Z⟩:=hi;simp (disch:=first|omega|simp<;>omega|fail) [-zA,-zB,-zC,-zD,-zE,z3nb,zzbm,S220];by_cases h:i<n
 ·have z:(i:Int)<n:=by omega
  have k:i<l.length:=by omega
  obtain ⟨x,F⟩ : ∃ x,l[i]=x:=⟨_,rfl⟩;have V:l.drop i=x::l.drop (i+1):=by rw [y0n k,F]
  obtain ⟨Q,u⟩ : ∃ Q,zxu4 d (l.take i)=Q:=⟨_,rfl⟩;have s:Q.length=i:=by rw [← u,zmgd]; simp; omega
  have g:zxu4 d (l.take (i+1))=insR d x Q:=by rw [y08 k,zuk7,u,F]
  have C : ∀ y ∈ Q,0≤z092 c.i.l y:=fun y hy=>hl y (List.mem_of_mem_take ((zo43 _).mem_iff.1 (u▸hy)))
  have G:0≤z092 c.i.l x:=hl x (F▸y05 k);obtain ⟨R,v⟩ : ∃ R,l.drop (i+1)=R:=⟨_,rfl⟩;have U:R.length=n-(i+1):=by rw [← v]; simp; omega
  rw [V,u,v];simp (disch:=first|omega|simp<;>omega|fail) [-zA,-zB,-zC,-zD,-zE,h,z];refine zlm5 (S221 pre pre.length n i x R) (fun a=>a.A.length) (fun a=>a.A++a.B=Q ∧ ∀ b ∈ a.B,d x b=true) ⟨Q,[]⟩ (yWS (by simp [-zA,-zB,-zC,-zD,-zE,S221,zgpl,s])) ⟨by simp,by simp⟩ (fun a ha => ?_)
  obtain ⟨A,B⟩:=a;obtain ⟨o,w⟩:=ha;simp only at o w;simp (disch:=first|omega|simp<;>omega|fail) [-zA,-zB,-zC,-zD,-zE,zhot,zgpl,S221];rcases (List.eq_nil_or_concat A) with rfl|⟨A',y,rfl⟩
  ·have e:insR d x Q=x::B:=by rw [← o]; exact zv9v w (.inl rfl)
   have f:zxu4 d (l.take (i+1))++l.drop (i+1)=x::(B++R):=by rw [g,e,v]; rfl
   simp (disch:=first|omega|simp<;>omega|fail) [-zA,-zB,-zC,-zD,-zE];refine ⟨i+1,yWS (by simp [-zA,-zB,-zC,-zD,-zE,S220,zzbm,f]),by omega,by omega,by omega⟩
  ·rw [List.concat_eq_append] at o;have D:0≤z092 c.i.l y:=C y (by rw [← o]; simp)
   have T:A'.length+1+B.length=i:=by rw [← s,← o]; simp; omega
   obtain ⟨L,j⟩ : ∃ L,A'++[y]++x::(B++R)=L:=⟨_,rfl⟩;have r:L.length=n:=by rw [← j]; simp; omega
   have H : ∀ h:A'.length<L.length,L[A'.length]=y:=fun h=>by subst j; simp
   have I : ∀ h:A'.length+1<L.length,L[A'.length+1]=x:=fun h=>by subst j; simp [y0e]
   have K:=z72y (A:=A') (B:=B) (R:=R) (x:=x) (y:=y);rw [j] at K;have N:=zi7c G D;have E:=zljf (c:=c) (a:=x) (b:=y);rw [t] at E;cases hc:d x y with
   | true =>
    have m:cmpV c x y<0:=E.2 hc;simp (disch:=first|omega|(simp [-zA,-zB,-zC,-zD,-zE]<;>omega)|fail) [-zA,-zB,-zC,-zD,-zE,j,r,H,I,z214,N,hpre,zjj2,zxft,m,ziq3,K]
    refine ⟨⟨A',y::B⟩,yWS (by simp [-zA,-zB,-zC,-zD,-zE,S221,zgpl]),by simp,by simpa using o,fun b hb => ?_⟩
    rcases y0g.1 hb with rfl|hb
    ·exact hc
    ·exact w b hb
   | false =>
    have m:¬ cmpV c x y<0:=fun q=>by rw [E.1 q] at hc; cases hc
    simp (disch:=first|omega|(simp [-zA,-zB,-zC,-zD,-zE]<;>omega)|fail) [-zA,-zB,-zC,-zD,-zE,j,r,H,I,z214,N,hpre,zjj2,zxft,m]
    have e:insR d x Q=A'++[y]++x::B:=by rw [← o]; exact zv9v w (.inr ⟨A',y,rfl,hc⟩)
    have f:zxu4 d (l.take (i+1))++l.drop (i+1)=L:=by rw [g,e,v,← j]; simp
    refine ⟨i+1,yWS (by simp [-zA,-zB,-zC,-zD,-zE,S220,zzbm,f]),by omega,by omega,by omega⟩
 ·have z:¬ (i:Int)<n:=by omega
  have O:l.drop i=[]:=List.drop_of_length_le (by omega)
  have S:l.take i=l:=y04 (by omega)
  simp (disch:=first|omega|simp<;>omega|fail) [-zA,-zB,-zC,-zD,-zE,h,z,O,S]
end
end Go.Proofs.YtaihpefemjlilaaGreatDoor

