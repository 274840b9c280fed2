/-
  27 texts of mine in one.
-/
import Derived.Test.YtaihpefemjlilaaDoorC51115a3f
import Derived.Test.YtaihpefemjlilaaDoorC46c001cc
import Derived.Test.YtaihpefemjlilaaDoorC2aaef907
import Derived.Test.YtaihpefemjlilaaDoorC320499bd
import Derived.Test.YtaihpefemjlilaaDoorC22951a68
set_option maxRecDepth 20000
set_option maxHeartbeats 4000000
open List renaming map_take → zA, map_drop → zB, map_set → zC, map_append → zD, drop_one → zE
open Bool renaming and_self → y1a
open Int renaming toNat_of_nonneg → y09, toNat_natCast → y0d, tmod_eq_emod_of_nonneg → y0i
open List renaming take_of_length_le → y00, length_set → y03, drop_zero → y04, length_singleton → y05, length_append → y07, getElem_mem → y08, take_append_of_le_length → y0a, getElem?_eq_getElem → y0b, getD_eq_getElem?_getD → y0f, getElem?_append_right → y0g, append_nil → y0h, getElem_append_left → y0j, getElem?_set_self → y0l, set_append_left → y0m, length_pos_iff → y0o, drop_eq_getElem_cons → y0p, mem_or_eq_of_mem_set → y0q, getElem_cons_zero → y0s, drop_of_length_le → y0t, set_append_right → y0u, getElem_of_mem → y0w, map_cons → y0x, mem_cons → y0y, flatMap_cons → y0z, getElem_append_right → y10, length_take → y11, not_mem_nil → y12, getElem_set → y13, mem_map → y14, length_nil → y15, nodup_cons → y16, nil_append → y17, getElem_set_self → y19, flatMap_append → y1b
open Nat renaming le_refl → y06, add_sub_cancel_left → y0c, add_zero → y0e, add_mul → y0n, sub_self → y0r, zero_mul → y1c
open Option renaming bind_some → y01, map_some → y02, bind_eq_some_iff → y0k, ite_none_right_eq_some → y0v, map_eq_some_iff → y18
namespace Go.Proofs.YtaihpefemjlilaaDoor
section
set_option linter.unusedSimpArgs false
set_option linter.unusedVariables false
open Go Go.Am
def S120 (x:Sl Dg) (d:Dg) (i:Nat):St:=zpkh (x.dv 32 dgC) (.mp 0 32 0) (.int .i64 i) [.cells (dgC d)]
theorem zfg2 (x:Sl Dg) (d:Dg):Runs tbl0 a27 [x.dv 32 dgC,.agg (dgC d)] (hasB x d):=by
 refine ⟨?_⟩
 have hb:=x.b
 simp (disch:=first|omega|simp<;>omega|fail) [-zA,-zB,-zC,-zD,-zE,a27]
 refine zlm5 (S120 x d) (fun i=>x.l.length-i) (fun i=>i≤x.l.length ∧ ∀ j (hj:j<x.l.length),j<i→¬ x.l[j]=d) 0 (z515 (by simp (disch:=first|omega|simp<;>omega|fail) [-zA,-zB,-zC,-zD,-zE]) (by simp (disch:=first|omega|simp<;>omega|fail) [-zA,-zB,-zC,-zD,-zE])) ⟨by omega,fun j _ hj=>by omega⟩ (fun i hi => ?_)
 obtain ⟨h1,h2⟩:=hi
 simp (disch:=first|omega|simp<;>omega|fail) [-zA,-zB,-zC,-zD,-zE,zcoh,zpkh,S120]
 by_cases h:i<x.l.length
 ·have h':(i:Int)<x.l.length:=by omega
  have hg : ∀ H,zpsc H 32 (x.dv 32 dgC) i=some (.ref (dgC x.l[i])):=fun H=>zalo z1t1 h
  by_cases e:x.l[i]=d
  ·have hm:d ∈ x.l:=e▸y08 h
   simp (disch:=first|omega|simp<;>omega|fail) [-zA,-zB,-zC,-zD,-zE,h',h,hg,e,hasB,hm]
  ·simp (disch:=first|omega|simp<;>omega|fail) [-zA,-zB,-zC,-zD,-zE,h',h,hg,e]
   refine ⟨i+1,z515 (by simp (disch:=first|omega|simp<;>omega|fail) [-zA,-zB,-zC,-zD,-zE]) (by simp (disch:=first|omega|simp<;>omega|fail) [-zA,-zB,-zC,-zD,-zE]),by omega,by omega,fun j hj hji => ?_⟩
   by_cases ej:j=i
   ·subst ej; exact e
   ·exact h2 j hj (by omega)
 ·have h':¬ (i:Int)<x.l.length:=by omega
  have hm:¬ d ∈ x.l:=fun hm=>by
   obtain ⟨j,hj,e⟩:=y0w hm
   exact h2 j hj (by omega) e
  simp (disch:=first|omega|simp<;>omega|fail) [-zA,-zB,-zC,-zD,-zE,h,h',hasB,hm]
theorem zs8z (t:Int):Runs tbl0 a50 [.int .i64 t] (.bool (tv (zcie t))):=by
 refine ⟨?_⟩
 by_cases h0:0≤t
 ·by_cases h1:t≤1099511627776
  ·simp (disch:=first|omega|simp<;>omega|fail) [-zA,-zB,-zC,-zD,-zE,a50,h0,h1,zogs (show zcie t from ⟨h0,h1⟩)]
  ·simp (disch:=first|omega|simp<;>omega|fail) [-zA,-zB,-zC,-zD,-zE,a50,h0,h1,zewf (show ¬ zcie t from fun h=>h1 h.2)]
 ·simp (disch:=first|omega|simp<;>omega|fail) [-zA,-zB,-zC,-zD,-zE,a50,h0,zewf (show ¬ zcie t from fun h=>h0 h.1)]
noncomputable def T120:Tbl:=addT 26 (.pure (cS za1j)) (addT 27 (.pure (cDgs hasB)) (addT 50 (.pure cTm) tbl0))
theorem z21x:T120 26 = .pure (cS za1j):=by simp [T120]
theorem znjh:T120 27 = .pure (cDgs hasB):=by simp [T120]
theorem znpa:T120 50 = .pure cTm:=by simp [T120]
theorem zp0j:T120.Sound P:=z0rp (zzn8 fun s=>zljw mix zfxp Tryd.func26 z9gs (z80k s)) (z0rp (z2au fun p _=>zljw mix zr5o Tryd.func27 z3hx (zfg2 p.1 p.2)) (z0rp (zayt fun t=>zljw mix zr5o Tryd.func50 z12y (zs8z t)) zr5o))
def S121 (c:Clu) (ns im:List UInt8) (i:Nat):St:=z38d (.str ns) (.str im) (.mp 0 3 0) (.int .i64 i) [.cells (clC c)]
theorem zfav (c:Clu) (ns im:List UInt8):Runs tbl0 a22 [.agg (clC c),.str ns,.str im] (grpD c ns im):=by
 refine ⟨?_⟩
 have hb:=c.g.b
 simp (disch:=first|omega|simp<;>omega|fail) [-zA,-zB,-zC,-zD,-zE,a22]
 refine zlm5 (S121 c ns im) (fun i=>c.g.l.length-i) (fun i=>i≤c.g.l.length ∧ ∀ j (hj:j<c.g.l.length),j<i→fitG ns im c.g.l[j]=false) 0 (z515 (by simp (disch:=first|omega|simp<;>omega|fail) [-zA,-zB,-zC,-zD,-zE]) (by simp (disch:=first|omega|simp<;>omega|fail) [-zA,-zB,-zC,-zD,-zE])) ⟨by omega,fun j _ hj=>by omega⟩ (fun i hi => ?_)
 obtain ⟨h1,h2⟩:=hi
 simp (disch:=first|omega|simp<;>omega|fail) [-zA,-zB,-zC,-zD,-zE,zved,z38d,S121]
 by_cases h:i<c.g.l.length
 ·have h':(i:Int)<c.g.l.length:=by omega
  have hg : ∀ H,zpsc H 6 (c.g.dv 6 grC) i=some (.ref (grC c.g.l[i])):=fun H=>zalo zry4 h
  by_cases e1:c.g.l[i].ns=ns
  ·by_cases e2:c.g.l[i].im=im
   ·have hr:z9w0 c.g.l ns im=i:=zy9u h (by simp [fitG,e1,e2]) h2
    simp (disch:=first|omega|simp<;>omega|fail) [-zA,-zB,-zC,-zD,-zE,h',h,hg,e1,e2,grpD,hr]
   ·simp (disch:=first|omega|simp<;>omega|fail) [-zA,-zB,-zC,-zD,-zE,h',h,hg,e1,e2]
    refine ⟨i+1,z515 (by simp (disch:=first|omega|simp<;>omega|fail) [-zA,-zB,-zC,-zD,-zE]) (by simp (disch:=first|omega|simp<;>omega|fail) [-zA,-zB,-zC,-zD,-zE]),by omega,by omega,fun j hj hji => ?_⟩
    by_cases ej:j=i
    ·subst ej; simp [fitG,e2]
    ·exact h2 j hj (by omega)
  ·simp (disch:=first|omega|simp<;>omega|fail) [-zA,-zB,-zC,-zD,-zE,h',h,hg,e1]
   refine ⟨i+1,z515 (by simp (disch:=first|omega|simp<;>omega|fail) [-zA,-zB,-zC,-zD,-zE]) (by simp (disch:=first|omega|simp<;>omega|fail) [-zA,-zB,-zC,-zD,-zE]),by omega,by omega,fun j hj hji => ?_⟩
   by_cases ej:j=i
   ·subst ej; simp [fitG,e1]
   ·exact h2 j hj (by omega)
 ·have h':¬ (i:Int)<c.g.l.length:=by omega
  have hr:z9w0 c.g.l ns im = -1:=zfki (fun j hj=>h2 j hj (by omega))
  simp (disch:=first|omega|simp<;>omega|fail) [-zA,-zB,-zC,-zD,-zE,h,h',grpD,hr]
theorem z2ge (c:Clu) (x:Ins):Runs T120 a23 [.agg (clC c),.agg (inC x)] (zmtb c x):=by
 refine ⟨?_⟩
 by_cases k0:1≤x.id
 case neg =>
  have hn:¬ SoundI c.g.l.length c.next x:=fun h=>k0 h.id0
  simp (disch:=first|omega|simp<;>omega|fail) [-zA,-zB,-zC,-zD,-zE,a23,znpa,zixp,zmtb,zewf hn,k0]
 by_cases k1:x.id<c.next
 case neg =>
  have hn:¬ SoundI c.g.l.length c.next x:=fun h=>k1 h.id1
  simp (disch:=first|omega|simp<;>omega|fail) [-zA,-zB,-zC,-zD,-zE,a23,znpa,zixp,zmtb,zewf hn,k0,k1]
 by_cases k2:0≤x.grp
 case neg =>
  have hn:¬ SoundI c.g.l.length c.next x:=fun h=>k2 h.g0
  simp (disch:=first|omega|simp<;>omega|fail) [-zA,-zB,-zC,-zD,-zE,a23,znpa,zixp,zmtb,zewf hn,k0,k1,k2]
 by_cases k3:x.grp<c.g.l.length
 case neg =>
  have hn:¬ SoundI c.g.l.length c.next x:=fun h=>k3 h.g1
  simp (disch:=first|omega|simp<;>omega|fail) [-zA,-zB,-zC,-zD,-zE,a23,znpa,zixp,zmtb,zewf hn,k0,k1,k2,k3]
 by_cases k4:¬ x.art=dg0
 case neg =>
  have k4:x.art=dg0:=Classical.not_not.1 k4
  have hn:¬ SoundI c.g.l.length c.next x:=fun h=>h.art k4
  simp (disch:=first|omega|simp<;>omega|fail) [-zA,-zB,-zC,-zD,-zE,a23,znpa,zixp,zmtb,zewf hn,k0,k1,k2,k3,k4]
 by_cases k5:1≤x.state
 case neg =>
  have hn:¬ SoundI c.g.l.length c.next x:=fun h=>k5 h.s0
  simp (disch:=first|omega|simp<;>omega|fail) [-zA,-zB,-zC,-zD,-zE,a23,znpa,zixp,zmtb,zewf hn,k0,k1,k2,k3,k4,k5]
 by_cases k6:x.state≤3
 case neg =>
  have hn:¬ SoundI c.g.l.length c.next x:=fun h=>k6 h.s1
  simp (disch:=first|omega|simp<;>omega|fail) [-zA,-zB,-zC,-zD,-zE,a23,znpa,zixp,zmtb,zewf hn,k0,k1,k2,k3,k4,k5,k6]
 by_cases k7:zcie x.since
 case neg =>
  have hn:¬ SoundI c.g.l.length c.next x:=fun h=>k7 h.si
  simp (disch:=first|omega|simp<;>omega|fail) [-zA,-zB,-zC,-zD,-zE,a23,znpa,zixp,zmtb,zewf hn,k0,k1,k2,k3,k4,k5,k6,zewf k7]
 by_cases k8 : -1≤x.den
 case neg =>
  have hn:¬ SoundI c.g.l.length c.next x:=fun h=>by rcases h.de with h|h<;>omega
  simp (disch:=first|omega|simp<;>omega|fail) [-zA,-zB,-zC,-zD,-zE,a23,znpa,zixp,zmtb,zewf hn,k0,k1,k2,k3,k4,k5,k6,zogs k7,k8]
 by_cases k9:x.den≤1099511627776
 ·have hy:SoundI c.g.l.length c.next x:=⟨k0,k1,k2,k3,k4,k5,k6,k7,by
   by_cases h:x.den = -1
   ·exact .inl h
   ·exact .inr ⟨by omega,k9⟩⟩
  simp (disch:=first|omega|simp<;>omega|fail) [-zA,-zB,-zC,-zD,-zE,a23,znpa,zixp,zmtb,zogs hy,k0,k1,k2,k3,k4,k5,k6,zogs k7,k8,k9]
 ·have hn:¬ SoundI c.g.l.length c.next x:=fun h=>by rcases h.de with h|h<;>omega
  simp (disch:=first|omega|simp<;>omega|fail) [-zA,-zB,-zC,-zD,-zE,a23,znpa,zixp,zmtb,zewf hn,k0,k1,k2,k3,k4,k5,k6,zogs k7,k8,k9]
def S123 (g:Grp) (i:Nat):St:=z6m2 (.mp 0 6 0) (.int .i64 i) [.cells (grC g)]
theorem zwe9 (g:Grp):Runs T120 a12 [.agg (grC g)] (zoy9 g):=by
 refine ⟨?_⟩
 have hb:=g.ch.b
 by_cases k0:zj1f g.ns=true
 case neg =>
  have hn:¬ ValidG g:=fun h=>k0 h.ns
  have k0:zj1f g.ns=false:=by simpa using k0
  simp (disch:=first|omega|simp<;>omega|fail) [-zA,-zB,-zC,-zD,-zE,a12,z21x,zk5k,za1j,zoy9,zewf hn,k0]
 by_cases k1:zj1f g.im=true
 case neg =>
  have hn:¬ ValidG g:=fun h=>k1 h.im
  have k1:zj1f g.im=false:=by simpa using k1
  simp (disch:=first|omega|simp<;>omega|fail) [-zA,-zB,-zC,-zD,-zE,a12,z21x,zk5k,za1j,zoy9,zewf hn,k0,k1]
 by_cases k2:0≤g.want
 case neg =>
  have hn:¬ ValidG g:=fun h=>k2 h.w0
  have k2':g.want<0:=by omega
  simp (disch:=first|omega|simp<;>omega|fail) [-zA,-zB,-zC,-zD,-zE,a12,z21x,zk5k,za1j,zoy9,zewf hn,k0,k1,k2,k2']
 have k2':¬ g.want<0:=by omega
 by_cases k3:g.want≤8
 case neg =>
  have hn:¬ ValidG g:=fun h=>k3 h.w1
  have k3':8<g.want:=by omega
  simp (disch:=first|omega|simp<;>omega|fail) [-zA,-zB,-zC,-zD,-zE,a12,z21x,zk5k,za1j,zoy9,zewf hn,k0,k1,k2,k2',k3,k3']
 have k3':¬ 8<g.want:=by omega
 by_cases k4:0≤g.least
 case neg =>
  have hn:¬ ValidG g:=fun h=>k4 h.l0
  have k4':g.least<0:=by omega
  simp (disch:=first|omega|simp<;>omega|fail) [-zA,-zB,-zC,-zD,-zE,a12,z21x,zk5k,za1j,zoy9,zewf hn,k0,k1,k2,k2',k3,k3',k4,k4']
 have k4':¬ g.least<0:=by omega
 by_cases k5:g.least≤g.want
 case neg =>
  have hn:¬ ValidG g:=fun h=>k5 h.l1
  have k5':g.want<g.least:=by omega
  simp (disch:=first|omega|simp<;>omega|fail) [-zA,-zB,-zC,-zD,-zE,a12,z21x,zk5k,za1j,zoy9,zewf hn,k0,k1,k2,k2',k3,k3',k4,k4',k5,k5']
 have k5':¬ g.want<g.least:=by omega
 by_cases k6:0≤g.down
 case neg =>
  have hn:¬ ValidG g:=fun h=>k6 h.d0
  have k6':g.down<0:=by omega
  simp (disch:=first|omega|simp<;>omega|fail) [-zA,-zB,-zC,-zD,-zE,a12,z21x,zk5k,za1j,zoy9,zewf hn,k0,k1,k2,k2',k3,k3',k4,k4',k5,k5',k6,k6']
 have k6':¬ g.down<0:=by omega
 by_cases k7:g.down≤g.want
 case neg =>
  have hn:¬ ValidG g:=fun h=>k7 h.d1
  have k7':g.want<g.down:=by omega
  simp (disch:=first|omega|simp<;>omega|fail) [-zA,-zB,-zC,-zD,-zE,a12,z21x,zk5k,za1j,zoy9,zewf hn,k0,k1,k2,k2',k3,k3',k4,k4',k5,k5',k6,k6',k7,k7']
 have k7':¬ g.want<g.down:=by omega
 by_cases k8:g.ch.l.length≤6
 case neg =>
  have hn:¬ ValidG g:=fun h=>k8 h.n
  have k8':¬ (g.ch.l.length:Int)≤6:=by omega
  have k8'':(6:Int)<g.ch.l.length:=by omega
  simp (disch:=first|omega|simp<;>omega|fail) [-zA,-zB,-zC,-zD,-zE,a12,z21x,zk5k,za1j,zoy9,zewf hn,k0,k1,k2,k2',k3,k3',k4,k4',k5,k5',k6,k6',k7,k7',k8,k8',k8'']
 have k8':(g.ch.l.length:Int)≤6:=by omega
 have k8'':¬ (6:Int)<g.ch.l.length:=by omega
 simp (disch:=first|omega|simp<;>omega|fail) [-zA,-zB,-zC,-zD,-zE,a12,z21x,zk5k,za1j,k0,k1,k2,k2',k3,k3',k4,k4',k5,k5',k6,k6',k7,k7',k8,k8',k8'']
 refine zlm5 (S123 g) (fun i=>g.ch.l.length-i) (fun i=>i≤g.ch.l.length ∧ ∀ j (hj:j<g.ch.l.length),j<i→g.ch.l[j]≠dg0∧g.ch.l[j] ∉ g.ch.l.take j) 0 (z515 (by simp (disch:=first|omega|simp<;>omega|fail) [-zA,-zB,-zC,-zD,-zE]) (by simp (disch:=first|omega|simp<;>omega|fail) [-zA,-zB,-zC,-zD,-zE])) ⟨by omega,fun j _ hj=>by omega⟩ (fun i hi => ?_)
 obtain ⟨h1,h2⟩:=hi
 simp (disch:=first|omega|simp<;>omega|fail) [-zA,-zB,-zC,-zD,-zE,z9ex,z6m2,S123]
 by_cases h:i<g.ch.l.length
 ·have h':(i:Int)<g.ch.l.length:=by omega
  have hg : ∀ H,zpsc H 32 (g.ch.dv 32 dgC) i=some (.ref (dgC g.ch.l[i])):=fun H=>zalo z1t1 h
  have hsl : ∀ H,ziwb H 32 (g.ch.dv 32 dgC) none (some (.int .i64 i)) none=some ((g.ch.part 0 i (i == g.ch.l.length)).dv 32 dgC):=fun H=>z78j z1t1 (by omega)
  by_cases e:g.ch.l[i]=dg0
  ·have hn:¬ ValidG g:=fun hv=>(hv.ch i h).1 e
   simp (disch:=first|omega|simp<;>omega|fail) [-zA,-zB,-zC,-zD,-zE,h',h,hg,e,zoy9,zewf hn]
  ·by_cases e2:g.ch.l[i] ∈ g.ch.l.take i
   ·have hn:¬ ValidG g:=fun hv=>(hv.ch i h).2 e2
    simp (disch:=first|omega|simp<;>omega|fail) [-zA,-zB,-zC,-zD,-zE,h',h,hg,hsl,e,znjh,ztlh,hasB,zuuc,e2,zoy9,zewf hn]
   ·simp (disch:=first|omega|simp<;>omega|fail) [-zA,-zB,-zC,-zD,-zE,h',h,hg,hsl,e,znjh,ztlh,hasB,zuuc,e2]
    refine ⟨i+1,z515 (by simp (disch:=first|omega|simp<;>omega|fail) [-zA,-zB,-zC,-zD,-zE]) (by simp (disch:=first|omega|simp<;>omega|fail) [-zA,-zB,-zC,-zD,-zE]),by omega,by omega,fun j hj hji => ?_⟩
    by_cases ej:j=i
    ·subst ej; exact ⟨e,e2⟩
    ·exact h2 j hj (by omega)
 ·have h':¬ (i:Int)<g.ch.l.length:=by omega
  have hy:ValidG g:=⟨k0,k1,k2,k3,k4,k5,k6,k7,k8,fun j hj=>h2 j hj (by omega)⟩
  simp (disch:=first|omega|simp<;>omega|fail) [-zA,-zB,-zC,-zD,-zE,h,h',zoy9,zogs hy]
noncomputable def T121:Tbl:=addT 12 (.pure (cG1 zoy9)) (addT 22 (.pure (cCSS grpD)) (addT 23 (.pure (cCI zmtb)) tbl0))
theorem zwai:T121 12 = .pure (cG1 zoy9):=by simp [T121]
theorem zcuh:T121 22 = .pure (cCSS grpD):=by simp [T121]
theorem zxwq:T121 23 = .pure (cCI zmtb):=by simp [T121]
theorem zwqh:T121.Sound P:=z0rp (z2au fun x _=>zljw mix zp0j Tryd.func12 zqkh (zwe9 x)) (z0rp (z2au fun x _=>zljw mix zr5o Tryd.func22 zi98 (zfav x.1 x.2.1 x.2.2)) (z0rp (z2au fun x _=>zljw mix zp0j Tryd.func23 ztyx (z2ge x.1 x.2)) zr5o))
def S124 (c:Clu) (i:Nat):St:=z9o7 (.mp 0 3 0) (.int .i64 i) [.cells (clC c)]
def S125 (c:Clu) (i:Nat):St:=zxy2 (.mp 0 3 0) (.int .i64 i) [.cells (clC c)]
theorem zkeg (c:Clu):Runs T121 a10 [.agg (clC c)] (zwdn c):=by
 refine ⟨?_⟩
 have hbg:=c.g.b
 have hbi:=c.i.b
 by_cases k0:(16:Int)<c.g.l.length
 ·have hn:¬ ValidC c:=fun h=>by have:=h.ng; omega
  simp (disch:=first|omega|simp<;>omega|fail) [-zA,-zB,-zC,-zD,-zE,a10,k0,zwdn,zewf hn]
 by_cases k1:(200:Int)<c.i.l.length
 ·have hn:¬ ValidC c:=fun h=>by have:=h.ni; omega
  simp (disch:=first|omega|simp<;>omega|fail) [-zA,-zB,-zC,-zD,-zE,a10,k0,k1,zwdn,zewf hn]
 by_cases k2:c.next<1
 ·have hn:¬ ValidC c:=fun h=>by have:=h.n0; omega
  simp (disch:=first|omega|simp<;>omega|fail) [-zA,-zB,-zC,-zD,-zE,a10,k0,k1,k2,zwdn,zewf hn]
 by_cases k3:1099511627776<c.next
 ·have hn:¬ ValidC c:=fun h=>by have:=h.n1; omega
  simp (disch:=first|omega|simp<;>omega|fail) [-zA,-zB,-zC,-zD,-zE,a10,k0,k1,k2,k3,zwdn,zewf hn]
 simp (disch:=first|omega|simp<;>omega|fail) [-zA,-zB,-zC,-zD,-zE,a10,k0,k1,k2,k3]
 refine zlm5 (S124 c) (fun i=>c.g.l.length-i) (fun i=>i≤c.g.l.length ∧ ∀ j (hj:j<c.g.l.length),j<i→ValidG c.g.l[j]∧z9w0 c.g.l c.g.l[j].ns c.g.l[j].im=j) 0 (z515 (by simp (disch:=first|omega|simp<;>omega|fail) [-zA,-zB,-zC,-zD,-zE]) (by simp (disch:=first|omega|simp<;>omega|fail) [-zA,-zB,-zC,-zD,-zE])) ⟨by omega,fun j _ hj=>by omega⟩ (fun i hi => ?_)
 obtain ⟨h1,h2⟩:=hi
 simp (disch:=first|omega|simp<;>omega|fail) [-zA,-zB,-zC,-zD,-zE,z382,z9o7,S124]
 by_cases h:i<c.g.l.length
 ·have h':(i:Int)<c.g.l.length:=by omega
  have hg : ∀ H,zpsc H 6 (c.g.dv 6 grC) i=some (.ref (grC c.g.l[i])):=fun H=>zalo zry4 h
  by_cases e:ValidG c.g.l[i]
  ·by_cases e2:z9w0 c.g.l c.g.l[i].ns c.g.l[i].im=i
   ·simp (disch:=first|omega|simp<;>omega|fail) [-zA,-zB,-zC,-zD,-zE,h',h,hg,zwai,zoex,zoy9,zogs e,zcuh,zojl,grpD,e2]
    refine ⟨i+1,z515 (by simp (disch:=first|omega|simp<;>omega|fail) [-zA,-zB,-zC,-zD,-zE]) (by simp (disch:=first|omega|simp<;>omega|fail) [-zA,-zB,-zC,-zD,-zE]),by omega,by omega,fun j hj hji => ?_⟩
    by_cases ej:j=i
    ·subst ej; exact ⟨e,e2⟩
    ·exact h2 j hj (by omega)
   ·have hn:¬ ValidC c:=fun hv=>e2 (hv.g i h).2
    simp (disch:=first|omega|simp<;>omega|fail) [-zA,-zB,-zC,-zD,-zE,h',h,hg,zwai,zoex,zoy9,zogs e,zcuh,zojl,grpD,e2,zwdn,zewf hn]
  ·have hn:¬ ValidC c:=fun hv=>e (hv.g i h).1
   simp (disch:=first|omega|simp<;>omega|fail) [-zA,-zB,-zC,-zD,-zE,h',h,hg,zwai,zoex,zoy9,zewf e,zwdn,zewf hn]
 have h':¬ (i:Int)<c.g.l.length:=by omega
 have hG : ∀ j (hj:j<c.g.l.length),ValidG c.g.l[j]∧z9w0 c.g.l c.g.l[j].ns c.g.l[j].im=j:=fun j hj=>h2 j hj (by omega)
 simp (disch:=first|omega|simp<;>omega|fail) [-zA,-zB,-zC,-zD,-zE,h,h']
 refine zlm5 (S125 c) (fun i=>c.i.l.length-i) (fun i=>i≤c.i.l.length ∧ ∀ j (hj:j<c.i.l.length),j<i→SoundI c.g.l.length c.next c.i.l[j]∧(∀ h0:0<j,c.i.l[j-1].id<c.i.l[j].id)) 0 (z515 (by simp (disch:=first|omega|simp<;>omega|fail) [-zA,-zB,-zC,-zD,-zE]) (by simp (disch:=first|omega|simp<;>omega|fail) [-zA,-zB,-zC,-zD,-zE])) ⟨by omega,fun j _ hj=>by omega⟩ (fun i hi => ?_)
 obtain ⟨h1,h2⟩:=hi
 simp (disch:=first|omega|simp<;>omega|fail) [-zA,-zB,-zC,-zD,-zE,zln2,zxy2,S125]
 by_cases h:i<c.i.l.length
 ·have h':(i:Int)<c.i.l.length:=by omega
  have hg : ∀ H,zpsc H 37 (c.i.dv 37 inC) i=some (.ref (inC c.i.l[i])):=fun H=>zalo z6gw h
  by_cases e:SoundI c.g.l.length c.next c.i.l[i]
  ·by_cases e0:i=0
   ·have e0':¬ (0:Int)<i:=by omega
    have e0'':¬ 0<i:=by omega
    simp (disch:=first|omega|simp<;>omega|fail) [-zA,-zB,-zC,-zD,-zE,h',h,hg,zxwq,ziv1,zmtb,zogs e,e0',e0'']
    refine ⟨i+1,z515 (by simp (disch:=first|omega|simp<;>omega|fail) [-zA,-zB,-zC,-zD,-zE]) (by simp (disch:=first|omega|simp<;>omega|fail) [-zA,-zB,-zC,-zD,-zE]),by omega,by omega,fun j hj hji => ?_⟩
    obtain rfl:j=i:=by omega
    exact ⟨e,fun h0=>by omega⟩
   ·have e0':(0:Int)<i:=by omega
    have e0'':0<i:=by omega
    have em:(i:Int)-1=(i-1:Nat):=by omega
    have hg2 : ∀ H,zpsc H 37 (c.i.dv 37 inC) ((i-1:Nat):Int)=some (.ref (inC c.i.l[i-1])):=fun H=>zalo z6gw (by omega)
    by_cases e2:c.i.l[i].id≤c.i.l[i-1].id
    ·have hn:¬ ValidC c:=fun hv=>by have:=(hv.i i h).2 (by omega); omega
     simp (disch:=first|omega|simp<;>omega|fail) [-zA,-zB,-zC,-zD,-zE,h',h,hg,zxwq,ziv1,zmtb,zogs e,e0',e0'',em,hg2,e2,zwdn,zewf hn]
    ·simp (disch:=first|omega|simp<;>omega|fail) [-zA,-zB,-zC,-zD,-zE,h',h,hg,zxwq,ziv1,zmtb,zogs e,e0',e0'',em,hg2,e2]
     refine ⟨i+1,z515 (by simp (disch:=first|omega|simp<;>omega|fail) [-zA,-zB,-zC,-zD,-zE]) (by simp (disch:=first|omega|simp<;>omega|fail) [-zA,-zB,-zC,-zD,-zE]),by omega,by omega,fun j hj hji => ?_⟩
     by_cases ej:j=i
     ·subst ej; exact ⟨e,fun _=>by omega⟩
     ·exact h2 j hj (by omega)
  ·have hn:¬ ValidC c:=fun hv=>e (hv.i i h).1
   simp (disch:=first|omega|simp<;>omega|fail) [-zA,-zB,-zC,-zD,-zE,h',h,hg,zxwq,ziv1,zmtb,zewf e,zwdn,zewf hn]
 ·have h':¬ (i:Int)<c.i.l.length:=by omega
  have hy:ValidC c:=⟨by omega,by omega,by omega,by omega,hG,fun j hj=>h2 j hj (by omega)⟩
  simp (disch:=first|omega|simp<;>omega|fail) [-zA,-zB,-zC,-zD,-zE,h,h',zwdn,zogs hy]
end
section
set_option linter.unusedSimpArgs false
set_option linter.unusedVariables false
open Go Go.Am
def a7:AFn where
 code:=(.seq (.region false [⟨none,(some 4),.mov (.k (.int .i64 0))⟩])
 (.seq (.seq (.region false [⟨none,(some 6),.mov (.t 1)⟩,
  ⟨none,(some 7),.bin .lss (.t 6) (.k (.int .i64 1))⟩])
 (.cond (.t 7) (.seq (.region false [⟨none,(some 4),.mov (.k (.int .i64 0))⟩])
 .ret)
 .skip))
 (.seq (.region false [⟨none,(some 8),.mov (.t 0)⟩,
  ⟨none,(some 9),.nilc (.t 8)⟩,
  ⟨none,(some 10),.fld 1 (.t 9)⟩,
  ⟨none,(some 11),.load 1 false (.t 10)⟩,
  ⟨none,(some 12),.bin .mul (.t 11) (.k (.int .i64 7))⟩,
  ⟨none,(some 13),.bin .add (.t 12) (.k (.int .i64 3))⟩,
  ⟨none,(some 5),.mov (.t 13)⟩])
 (.seq (.seq (.region true [⟨none,(some 14),.mov (.t 0)⟩,
  ⟨none,(some 15),.nilc (.t 14)⟩,
  ⟨none,(some 16),.fld 1 (.t 15)⟩,
  ⟨none,(some 17),.load 1 false (.t 16)⟩,
  ⟨none,(some 18),.mov (.t 0)⟩,
  ⟨none,(some 19),.nilc (.t 18)⟩,
  ⟨none,(some 20),.fld 0 (.t 19)⟩,
  ⟨none,(some 21),.load 1 false (.t 20)⟩,
  ⟨none,(some 22),.len (.t 21)⟩,
  ⟨none,(some 23),.bin .lss (.t 17) (.t 22)⟩])
 (.cond (.t 23) (.region true [⟨none,(some 24),.mov (.t 0)⟩,
  ⟨none,(some 25),.nilc (.t 24)⟩,
  ⟨none,(some 26),.fld 0 (.t 25)⟩,
  ⟨none,(some 27),.load 1 false (.t 26)⟩,
  ⟨none,(some 28),.mov (.t 0)⟩,
  ⟨none,(some 29),.nilc (.t 28)⟩,
  ⟨none,(some 30),.fld 1 (.t 29)⟩,
  ⟨none,(some 31),.load 1 false (.t 30)⟩,
  ⟨none,(some 32),.idxS 1 (.t 27) (.t 31)⟩,
  ⟨none,(some 33),.load 1 false (.t 32)⟩,
  ⟨none,(some 5),.mov (.t 33)⟩])
 .skip))
 (.seq (.region false [⟨none,(some 34),.mov (.t 0)⟩,
  ⟨none,(some 35),.nilc (.t 34)⟩,
  ⟨none,(some 36),.fld 1 (.t 35)⟩,
  ⟨none,(some 37),.load 1 false (.t 36)⟩,
  ⟨none,(some 38),.bin .add (.t 37) (.k (.int .i64 1))⟩,
  ⟨none,(some 39),.nilc (.t 34)⟩,
  ⟨none,(some 40),.fld 1 (.t 39)⟩,
  ⟨none,none,.store 1 (.t 40) (.t 38)⟩])
 (.seq (.region false [⟨none,(some 41),.mov (.t 5)⟩,
  ⟨none,(some 42),.mov (.t 1)⟩,
  ⟨none,(some 43),.bin .rem (.t 41) (.t 42)⟩,
  ⟨none,(some 44),.mov (.t 1)⟩,
  ⟨none,(some 45),.bin .add (.t 43) (.t 44)⟩,
  ⟨none,(some 46),.mov (.t 1)⟩,
  ⟨none,(some 47),.bin .rem (.t 45) (.t 46)⟩,
  ⟨none,(some 4),.mov (.t 47)⟩])
 .ret))))))
 ntmps:=48
 res:=[.tmp 4]
theorem zdfl:zsjc P Tryd.f7=some a7:=by kernel_rfl
def a45:AFn where
 code:=(.seq (.region false [⟨none,(some 4),.mov (.k (.str []))⟩])
 (.seq (.region false [⟨none,(some 5),.mov (.t 1)⟩,
  ⟨none,(some 6),.mov (.t 0)⟩,
  ⟨none,(some 7),.mov (.t 1)⟩,
  ⟨none,(some 8),.len (.t 7)⟩,
  ⟨none,(some 9),.call (.k (.fn (.func 7) [] [])) [(.t 6),(.t 8)]⟩,
  ⟨none,(some 10),.idxS 1 (.t 5) (.t 9)⟩,
  ⟨none,(some 11),.load 1 false (.t 10)⟩,
  ⟨none,(some 4),.mov (.t 11)⟩])
 .ret))
 ntmps:=12
 res:=[.tmp 4]
theorem z94d:zsjc P Tryd.f45=some a45:=by kernel_rfl
def a46:AFn where
 code:=(.seq (.region false [⟨none,(some 2),.alloc (rep 32 (w8 0#8))⟩])
 (.seq (.region false [⟨none,(some 3),.mov (.t 0)⟩,
  ⟨none,(some 4),.call (.k (.fn (.func 7) [] [])) [(.t 3),(.k (.int .i64 6))]⟩,
  ⟨none,(some 5),.bin .add (.k (.int .i64 1)) (.t 4)⟩,
  ⟨none,(some 6),.conv .u8 (.t 5)⟩,
  ⟨none,(some 7),.build (rep 32 (w8 0#8)) [(0,1,(.t 6))]⟩,
  ⟨none,none,.store 32 (.t 2) (.t 7)⟩])
 .ret))
 ntmps:=8
 res:=[.cell 2 32 true]
theorem znv1:zsjc P Tryd.f46=some a46:=by kernel_rfl
def a5:AFn where
 code:=(.seq (.region false [⟨none,(some 4),.mov (.k .nilp)⟩])
 (.seq (.region false [⟨none,(some 5),.mov (.t 0)⟩,
  ⟨none,(some 6),.mov (.t 0)⟩,
  ⟨none,(some 7),.len (.t 6)⟩,
  ⟨none,(some 8),.mov (.t 1)⟩,
  ⟨none,(some 9),.mm false [(.t 7),(.t 8)]⟩,
  ⟨none,(some 10),.slcS 1 (.t 5) none (some (.t 9)) none⟩,
  ⟨none,(some 11),.build [.nils,(.int .i64 0)] [(0,1,(.t 10))]⟩,
  ⟨none,(some 12),.box (.t 11)⟩,
  ⟨none,(some 4),.mov (.t 12)⟩])
 .ret))
 ntmps:=13
 res:=[.tmp 4]
theorem zonh:zsjc P Tryd.f5=some a5:=by kernel_rfl
def a8:AFn where
 code:=(.seq (.region false [⟨none,(some 4),.mov (.k (.int .i64 0))⟩])
 (.seq (.region false [⟨none,(some 5),.mov (.t 0)⟩,
  ⟨none,(some 6),.mov (.t 1)⟩,
  ⟨none,(some 7),.bin .rem (.t 5) (.t 6)⟩,
  ⟨none,(some 8),.mov (.t 1)⟩,
  ⟨none,(some 9),.bin .add (.t 7) (.t 8)⟩,
  ⟨none,(some 10),.mov (.t 1)⟩,
  ⟨none,(some 11),.bin .rem (.t 9) (.t 10)⟩,
  ⟨none,(some 4),.mov (.t 11)⟩])
 .ret))
 ntmps:=12
 res:=[.tmp 4]
theorem zwbl:zsjc P Tryd.f8=some a8:=by kernel_rfl
def zihe:ACode :=
 (.seq (.seq (.region false [⟨none,(some 31),.mov (.t 6)⟩,
  ⟨none,(some 32),.bin .geq (.t 31) (.k (.int .i64 0))⟩])
 (.cond (.t 32) .skip
 (.exit 0)))
 (.seq (.block 1 (.seq (.region false [⟨none,(some 35),.mov (.t 0)⟩,
  ⟨none,(some 36),.call (.k (.fn (.func 46) [] [])) [(.t 35)]⟩,
  ⟨none,(some 7),.alloc (rep 32 (w8 0#8))⟩,
  ⟨none,none,.store 32 (.t 7) (.t 36)⟩])
 (.seq (.seq (.region false [⟨none,(some 37),.mov (.t 1)⟩,
  ⟨none,(some 38),.len (.t 37)⟩,
  ⟨none,(some 39),.bin .gtr (.t 38) (.k (.int .i64 0))⟩,
  ⟨none,(some 40),.mov (.t 39)⟩,
  ⟨(some (40,true)),(some 41),.mov (.t 0)⟩,
  ⟨(some (40,true)),(some 42),.call (.k (.fn (.func 7) [] [])) [(.t 41),(.k (.int .i64 6))]⟩,
  ⟨(some (40,true)),(some 43),.bin .gtr (.t 42) (.k (.int .i64 0))⟩,
  ⟨none,(some 44),.pick (.t 40) (.t 43) (.k (.bool false))⟩])
 (.cond (.t 44) (.region false [⟨none,(some 45),.mov (.t 1)⟩,
  ⟨none,(some 46),.mov (.t 0)⟩,
  ⟨none,(some 47),.mov (.t 1)⟩,
  ⟨none,(some 48),.len (.t 47)⟩,
  ⟨none,(some 49),.call (.k (.fn (.func 7) [] [])) [(.t 46),(.t 48)]⟩,
  ⟨none,(some 50),.idxS 32 (.t 45) (.t 49)⟩,
  ⟨none,(some 51),.load 32 true (.t 50)⟩,
  ⟨none,none,.store 32 (.t 7) (.t 51)⟩])
 .skip))
 (.seq (.region false [⟨none,(some 52),.fld 5 (.t 5)⟩,
  ⟨none,(some 53),.load 1 false (.t 52)⟩,
  ⟨none,(some 54),.load 32 true (.t 7)⟩,
  ⟨none,(some 55),.call (.k (.fn (.func 27) [] [])) [(.t 53),(.t 54)]⟩,
  ⟨none,(some 56),.un .not (.t 55)⟩])
 (.cond (.t 56) (.region false [⟨none,(some 57),.fld 5 (.t 5)⟩,
  ⟨none,(some 58),.load 1 false (.t 57)⟩,
  ⟨none,(some 59),.load 32 true (.t 7)⟩,
  ⟨none,(some 60),.bsl 32 1 (rep 32 (w8 0#8)) [(0,32,(.t 59))]⟩,
  ⟨none,(some 61),.app 32 32 (.t 58) (.t 60)⟩,
  ⟨none,(some 62),.fld 5 (.t 5)⟩,
  ⟨none,none,.store 1 (.t 62) (.t 61)⟩])
 .skip)))))
 (.region false [⟨none,(some 33),.mov (.t 6)⟩,
  ⟨none,(some 34),.bin .sub (.t 33) (.k (.int .i64 1))⟩,
  ⟨none,(some 6),.mov (.t 34)⟩])))
def z0ci (x0 x1 x4 x5 x6:DV) (h:List AObj):St:=⟨[x0,x1,.junk,.junk,x4,x5,x6]++js 57,h⟩
def a19:AFn where
 code:=(.seq (.region false [⟨none,(some 4),.alloc [(.str []),(.str []),(.int .i64 0),(.int .i64 0),(.int .i64 0),.nils]⟩])
 (.seq (.region false [⟨none,(some 8),.mov (.t 0)⟩,
  ⟨none,(some 9),.bsl 1 2 [(.str [])] [(0,1,(.k (.str [112,114,111,100]))),(1,1,(.k (.str [116,101,115,116])))]⟩,
  ⟨none,(some 10),.call (.k (.fn (.func 45) [] [])) [(.t 8),(.t 9)]⟩,
  ⟨none,(some 11),.mov (.t 0)⟩,
  ⟨none,(some 12),.bsl 1 2 [(.str [])] [(0,1,(.k (.str [119,101,98]))),(1,1,(.k (.str [100,98])))]⟩,
  ⟨none,(some 13),.call (.k (.fn (.func 45) [] [])) [(.t 11),(.t 12)]⟩,
  ⟨none,(some 14),.mov (.t 0)⟩,
  ⟨none,(some 15),.call (.k (.fn (.func 7) [] [])) [(.t 14),(.k (.int .i64 4))]⟩,
  ⟨none,(some 16),.build [(.str []),(.str []),(.int .i64 0),(.int .i64 0),(.int .i64 0),.nils] [(0,1,(.t 10)),(1,1,(.t 13)),(2,1,(.t 15))]⟩,
  ⟨none,(some 5),.alloc [(.str []),(.str []),(.int .i64 0),(.int .i64 0),(.int .i64 0),.nils]⟩,
  ⟨none,none,.store 6 (.t 5) (.t 16)⟩])
 (.seq (.region true [⟨none,(some 17),.mov (.t 0)⟩,
  ⟨none,(some 18),.fld 2 (.t 5)⟩,
  ⟨none,(some 19),.load 1 false (.t 18)⟩,
  ⟨none,(some 20),.bin .add (.t 19) (.k (.int .i64 1))⟩,
  ⟨none,(some 21),.callT (.k (.fn (.func 7) [] [])) [(.t 17),(.t 20)]⟩,
  ⟨none,(some 22),.mov (.t 0)⟩,
  ⟨none,(some 23),.fld 2 (.t 5)⟩,
  ⟨none,(some 24),.load 1 false (.t 23)⟩,
  ⟨none,(some 25),.bin .add (.t 24) (.k (.int .i64 1))⟩,
  ⟨none,(some 26),.callT (.k (.fn (.func 7) [] [])) [(.t 22),(.t 25)]⟩,
  ⟨none,(some 27),.fld 3 (.t 5)⟩,
  ⟨none,none,.store 1 (.t 27) (.t 21)⟩,
  ⟨none,(some 28),.fld 4 (.t 5)⟩,
  ⟨none,none,.store 1 (.t 28) (.t 26)⟩,
  ⟨none,none,.apart (.t 5) (.t 17)⟩,
  ⟨none,none,.apart (.t 23) (.t 17)⟩,
  ⟨none,none,.apart (.t 5) (.t 22)⟩])
 (.seq (.seq (.region false [⟨none,(some 29),.mov (.t 0)⟩,
  ⟨none,(some 30),.call (.k (.fn (.func 7) [] [])) [(.t 29),(.k (.int .i64 3))]⟩,
  ⟨none,(some 6),.mov (.t 30)⟩])
 (.block 0 (.loop zihe)))
 (.seq (.region false [⟨none,(some 63),.load 6 true (.t 5)⟩,
  ⟨none,none,.store 6 (.t 4) (.t 63)⟩])
 .ret)))))
 ntmps:=64
 res:=[.cell 4 6 true]
theorem zlqi:zsjc P Tryd.f19=some a19:=by kernel_rfl
def a6L0:ACode :=
 (.seq (.seq (.region false [⟨none,(some 23),.mov (.t 7)⟩,
  ⟨none,(some 24),.bin .gtr (.t 23) (.k (.int .i64 0))⟩])
 (.cond (.t 24) .skip
 (.exit 0)))
 (.seq (.block 1 (.seq (.region true [⟨none,(some 28),.load 3 true (.t 6)⟩,
  ⟨none,(some 29),.mov (.t 0)⟩,
  ⟨none,(some 30),.mov (.t 5)⟩,
  ⟨none,(some 31),.callE (.k (.fn (.func 19) [] [])) [(.t 29),(.t 30)]⟩,
  ⟨none,(some 32),.callN (.k (.fn (.func 18) [] [])) [(.t 28),(.t 31)]⟩,
  ⟨none,(some 27),.mov (.t 32)⟩,
  ⟨none,(some 33),.ext (.t 27) 0⟩,
  ⟨none,(some 34),.ext (.t 27) 1⟩,
  ⟨none,(some 8),.alloc [.nils,.nils,(.int .i64 0)]⟩,
  ⟨none,none,.store 3 (.t 8) (.t 33)⟩,
  ⟨none,(some 9),.mov (.t 34)⟩,
  ⟨none,none,.apart (.t 6) (.t 29)⟩])
 (.seq (.region false [⟨none,(some 35),.mov (.t 9)⟩,
  ⟨none,(some 36),.bin .eql (.t 35) (.k (.int .i64 0))⟩])
 (.cond (.t 36) (.region false [⟨none,(some 37),.load 3 true (.t 8)⟩,
  ⟨none,none,.store 3 (.t 6) (.t 37)⟩])
 .skip))))
 (.region false [⟨none,(some 25),.mov (.t 7)⟩,
  ⟨none,(some 26),.bin .sub (.t 25) (.k (.int .i64 1))⟩,
  ⟨none,(some 7),.mov (.t 26)⟩])))
def a6S0 (x0 x1 x4 x5 x6 x7:DV) (h:List AObj):St:=⟨[x0,x1,.junk,.junk,x4,x5,x6,x7]++js 76,h⟩
def a6L1:ACode :=
 (.seq (.seq (.region false [⟨none,(some 42),.mov (.t 10)⟩,
  ⟨none,(some 43),.bin .gtr (.t 42) (.k (.int .i64 0))⟩])
 (.cond (.t 43) .skip
 (.exit 2)))
 (.seq (.block 3 (.seq (.region true [⟨none,(some 46),.fld 2 (.t 6)⟩,
  ⟨none,(some 47),.load 1 false (.t 46)⟩,
  ⟨none,(some 48),.mov (.t 0)⟩,
  ⟨none,(some 49),.fld 0 (.t 6)⟩,
  ⟨none,(some 50),.load 1 false (.t 49)⟩,
  ⟨none,(some 51),.len (.t 50)⟩,
  ⟨none,(some 52),.callT (.k (.fn (.func 7) [] [])) [(.t 48),(.t 51)]⟩,
  ⟨none,(some 53),.mov (.t 5)⟩,
  ⟨none,(some 54),.mov (.t 0)⟩,
  ⟨none,(some 55),.callT (.k (.fn (.func 7) [] [])) [(.t 54),(.k (.int .i64 3))]⟩,
  ⟨none,(some 56),.idxS 32 (.t 53) (.t 55)⟩,
  ⟨none,(some 57),.load 32 true (.t 56)⟩,
  ⟨none,(some 58),.mov (.t 0)⟩,
  ⟨none,(some 59),.callT (.k (.fn (.func 7) [] [])) [(.t 58),(.k (.int .i64 3))]⟩,
  ⟨none,(some 60),.bin .add (.k (.int .i64 1)) (.t 59)⟩,
  ⟨none,(some 61),.mov (.t 0)⟩,
  ⟨none,(some 62),.callT (.k (.fn (.func 7) [] [])) [(.t 61),(.k (.int .i64 30))]⟩,
  ⟨none,(some 63),.build [(.int .i64 0),(.int .i64 0),(w8 0#8),(w8 0#8),(w8 0#8),(w8 0#8),(w8 0#8),(w8 0#8),(w8 0#8),(w8 0#8),(w8 0#8),(w8 0#8),(w8 0#8),(w8 0#8),(w8 0#8),(w8 0#8),(w8 0#8),(w8 0#8),(w8 0#8),(w8 0#8),(w8 0#8),(w8 0#8),(w8 0#8),(w8 0#8),(w8 0#8),(w8 0#8),(w8 0#8),(w8 0#8),(w8 0#8),(w8 0#8),(w8 0#8),(w8 0#8),(w8 0#8),(w8 0#8),(.int .i64 0),(.int .i64 0),(.int .i64 0)] [(0,1,(.t 47)),(1,1,(.t 52)),(2,32,(.t 57)),(34,1,(.t 60)),(35,1,(.t 62)),(36,1,(.k (.int .i64 (-1))))]⟩,
  ⟨none,(some 11),.alloc [(.int .i64 0),(.int .i64 0),(w8 0#8),(w8 0#8),(w8 0#8),(w8 0#8),(w8 0#8),(w8 0#8),(w8 0#8),(w8 0#8),(w8 0#8),(w8 0#8),(w8 0#8),(w8 0#8),(w8 0#8),(w8 0#8),(w8 0#8),(w8 0#8),(w8 0#8),(w8 0#8),(w8 0#8),(w8 0#8),(w8 0#8),(w8 0#8),(w8 0#8),(w8 0#8),(w8 0#8),(w8 0#8),(w8 0#8),(w8 0#8),(w8 0#8),(w8 0#8),(w8 0#8),(w8 0#8),(.int .i64 0),(.int .i64 0),(.int .i64 0)]⟩,
  ⟨none,none,.store 37 (.t 11) (.t 63)⟩,
  ⟨none,none,.apart (.t 6) (.t 48)⟩,
  ⟨none,none,.apart (.t 6) (.t 54)⟩,
  ⟨none,none,.apart (.t 6) (.t 58)⟩,
  ⟨none,none,.apart (.t 6) (.t 61)⟩,
  ⟨none,none,.apart (.t 46) (.t 48)⟩,
  ⟨none,none,.apart (.t 46) (.t 54)⟩,
  ⟨none,none,.apart (.t 46) (.t 58)⟩,
  ⟨none,none,.apart (.t 46) (.t 61)⟩,
  ⟨none,none,.apart (.t 53) (.t 58)⟩,
  ⟨none,none,.apart (.t 53) (.t 61)⟩,
  ⟨none,none,.apart (.t 56) (.t 58)⟩,
  ⟨none,none,.apart (.t 56) (.t 61)⟩])
 (.seq (.seq (.region false [⟨none,(some 64),.mov (.t 0)⟩,
  ⟨none,(some 65),.call (.k (.fn (.func 7) [] [])) [(.t 64),(.k (.int .i64 3))]⟩,
  ⟨none,(some 66),.bin .eql (.t 65) (.k (.int .i64 0))⟩])
 (.cond (.t 66) (.region false [⟨none,(some 67),.mov (.t 0)⟩,
  ⟨none,(some 68),.call (.k (.fn (.func 7) [] [])) [(.t 67),(.k (.int .i64 30))]⟩,
  ⟨none,(some 69),.fld 36 (.t 11)⟩,
  ⟨none,none,.store 1 (.t 69) (.t 68)⟩])
 .skip))
 (.seq (.region false [⟨none,(some 70),.fld 1 (.t 6)⟩,
  ⟨none,(some 71),.load 1 false (.t 70)⟩,
  ⟨none,(some 72),.load 37 true (.t 11)⟩,
  ⟨none,(some 73),.bslO 37 1 [(.int .i64 0),(.int .i64 0),(w8 0#8),(w8 0#8),(w8 0#8),(w8 0#8),(w8 0#8),(w8 0#8),(w8 0#8),(w8 0#8),(w8 0#8),(w8 0#8),(w8 0#8),(w8 0#8),(w8 0#8),(w8 0#8),(w8 0#8),(w8 0#8),(w8 0#8),(w8 0#8),(w8 0#8),(w8 0#8),(w8 0#8),(w8 0#8),(w8 0#8),(w8 0#8),(w8 0#8),(w8 0#8),(w8 0#8),(w8 0#8),(w8 0#8),(w8 0#8),(w8 0#8),(w8 0#8),(.int .i64 0),(.int .i64 0),(.int .i64 0)] [(0,37,(.t 72))]⟩,
  ⟨none,(some 74),.app 37 72 (.t 71) (.t 73)⟩,
  ⟨none,(some 75),.fld 1 (.t 6)⟩,
  ⟨none,none,.store 1 (.t 75) (.t 74)⟩])
 (.region true [⟨none,(some 76),.fld 2 (.t 6)⟩,
  ⟨none,(some 77),.load 1 false (.t 76)⟩,
  ⟨none,(some 78),.mov (.t 0)⟩,
  ⟨none,(some 79),.callT (.k (.fn (.func 7) [] [])) [(.t 78),(.k (.int .i64 2))]⟩,
  ⟨none,(some 80),.bin .add (.k (.int .i64 1)) (.t 79)⟩,
  ⟨none,(some 81),.bin .add (.t 77) (.t 80)⟩,
  ⟨none,(some 82),.fld 2 (.t 6)⟩,
  ⟨none,none,.store 1 (.t 82) (.t 81)⟩,
  ⟨none,none,.apart (.t 6) (.t 78)⟩,
  ⟨none,none,.apart (.t 76) (.t 78)⟩])))))
 (.region false [⟨none,(some 44),.mov (.t 10)⟩,
  ⟨none,(some 45),.bin .sub (.t 44) (.k (.int .i64 1))⟩,
  ⟨none,(some 10),.mov (.t 45)⟩])))
def a6S1 (x0 x4 x5 x6 x10:DV) (h:List AObj):St:=⟨[x0,.junk,.junk,.junk,x4,x5,x6,.junk,.junk,.junk,x10]++js 73,h⟩
def a6:AFn where
 code:=(.seq (.region false [⟨none,(some 4),.alloc [.nils,.nils,(.int .i64 0)]⟩])
 (.seq (.region false [⟨none,(some 12),.build (rep 32 (w8 0#8)) [(0,1,(.k (w8 1#8)))]⟩,
  ⟨none,(some 13),.build (rep 32 (w8 0#8)) [(0,1,(.k (w8 2#8)))]⟩,
  ⟨none,(some 14),.build (rep 32 (w8 0#8)) [(0,1,(.k (w8 3#8)))]⟩,
  ⟨none,(some 15),.bsl 32 3 (rep 32 (w8 0#8)) [(0,32,(.t 12)),(32,32,(.t 13)),(64,32,(.t 14))]⟩,
  ⟨none,(some 5),.mov (.t 15)⟩])
 (.seq (.region false [⟨none,(some 16),.mov (.t 0)⟩,
  ⟨none,(some 17),.call (.k (.fn (.func 7) [] [])) [(.t 16),(.k (.int .i64 4))]⟩,
  ⟨none,(some 18),.bin .add (.k (.int .i64 1)) (.t 17)⟩,
  ⟨none,(some 19),.build [.nils,.nils,(.int .i64 0)] [(2,1,(.t 18))]⟩,
  ⟨none,(some 6),.alloc [.nils,.nils,(.int .i64 0)]⟩,
  ⟨none,none,.store 3 (.t 6) (.t 19)⟩])
 (.seq (.seq (.region false [⟨none,(some 20),.mov (.t 0)⟩,
  ⟨none,(some 21),.call (.k (.fn (.func 7) [] [])) [(.t 20),(.k (.int .i64 2))]⟩,
  ⟨none,(some 22),.bin .add (.k (.int .i64 1)) (.t 21)⟩,
  ⟨none,(some 7),.mov (.t 22)⟩])
 (.block 0 (.loop a6L0)))
 (.seq (.seq (.region false [⟨none,(some 38),.mov (.t 0)⟩,
  ⟨none,(some 39),.mov (.t 1)⟩,
  ⟨none,(some 40),.bin .add (.t 39) (.k (.int .i64 1))⟩,
  ⟨none,(some 41),.call (.k (.fn (.func 7) [] [])) [(.t 38),(.t 40)]⟩,
  ⟨none,(some 10),.mov (.t 41)⟩])
 (.block 2 (.loop a6L1)))
 (.seq (.region false [⟨none,(some 83),.load 3 true (.t 6)⟩,
  ⟨none,none,.store 3 (.t 4) (.t 83)⟩])
 .ret))))))
 ntmps:=84
 res:=[.cell 4 3 true]
theorem zc7x:zsjc P Tryd.f6=some a6:=by kernel_rfl
end
section
set_option linter.unusedSimpArgs false
set_option linter.unusedVariables false
open Go Go.Am
structure Tp where
 k:Option Bool
 l:List Int
 h:k=none→l=[]
 at_:Nat
def inI (n:Int):List DV:=[.int .i64 n]
def Tp.sl (t:Tp):DV:=slD t.k 1 t.l.length (t.l.flatMap inI)
def tpC (t:Tp):List DV:=[t.sl,.int .i64 t.at_]
def Tp.adv (t:Tp) (m:Nat):Tp:={ t with at_:=t.at_+m }
theorem zg97 (n:Int):(inI n).length=1:=rfl
theorem zyj0 (n:Int):zbao (inI n)=true:=rfl
theorem z5yb (t:Tp):zyp8 t.sl=true:=by
 obtain ⟨k,l,h,a⟩:=t
 cases k with
 | none=>rfl
 | some b=>show zbao _=true; exact zp6k zyj0 l
theorem zs7w (t:Tp):zbao (tpC t)=true:=by simp [tpC,zbao,z5yb,zyp8]
theorem zl4f (t:Tp):(tpC t).length=2:=by simp [tpC]
theorem zwhz (t:Tp) (H:List AObj):lenD H t.sl=some (.int .i64 t.l.length):=zjc6 (fun e=>by rw [t.h e]; rfl)
theorem zmwh (t:Tp) (H:List AObj) {i:Nat} (hi:i<t.l.length):zpsc H 1 t.sl i=some (.ref [.int .i64 t.l[i]]):=by
 obtain ⟨k,l,h,a⟩:=t
 cases k with
 | none=>simp only at hi; rw [h rfl] at hi; simp at hi
 | some b =>
  simp only [Tp.sl,zip4]
  rw [zsu0 (by omega) (by simp only at hi; omega),y0d,zdao zg97 hi]; rfl
theorem zxr4 (t:Tp):t.sl.one=true:=by obtain ⟨k,l,h,a⟩:=t; cases k<;>rfl
theorem zn8z (t:Tp):t.sl.known=true:=by obtain ⟨k,l,h,a⟩:=t; cases k<;>rfl
theorem zymw (t:Tp):t.sl.cells=[t.sl]:=by obtain ⟨k,l,h,a⟩:=t; cases k<;>rfl
theorem zpy8 (t:Tp) (n k:Nat) (H:List AObj):fz n H k t.sl=some t.sl:=zqge (z5yb t)
theorem ziad : ∀ {a b:List Int},a.flatMap inI=b.flatMap inI→a=b
 | [],[],_=>rfl
 | [],y::b,h=>by simp [inI] at h
 | x::a,[],h=>by simp [inI] at h
 | x::a,y::b,h=>by
  simp only [y0z,inI,List.singleton_append,List.cons.injEq,DV.int.injEq,true_and] at h
  rw [h.1,ziad h.2]
theorem z15z {a b:Tp} (h:tpC a=tpC b):a=b:=by
 obtain ⟨k,l,h1,p⟩:=a
 obtain ⟨k',l',h2,p'⟩:=b
 simp only [tpC,Tp.sl,List.cons.injEq,DV.int.injEq,true_and,and_true,Int.natCast_inj] at h
 obtain ⟨h,rfl⟩:=h
 cases k with
 | none=>cases k' with
  | none=>rw [Tp.mk.injEq]; exact ⟨rfl,by rw [h1 rfl,h2 rfl],rfl⟩
  | some b=>simp [slD] at h
 | some b=>cases k' with
  | none=>simp [slD] at h
  | some b' =>
   simp only [zip4,DV.sl.injEq] at h
   obtain ⟨rfl,_,_,h⟩:=h
   rw [Tp.mk.injEq]; exact ⟨rfl,ziad h,rfl⟩
attribute [simp] zwhz zxr4 zn8z zymw zpy8 zl4f
def zq5q (t:Tp):Int:=if h:t.at_<t.l.length then t.l[t.at_] else t.at_*7+3
def tpN (t:Tp) (n:Int):Int:=if n<1 then 0 else zq5q t % n
def tpS (t:Tp) (n:Int):Tp:=if n<1 then t else t.adv 1
theorem z4rs (t:Tp) (n:Int):0≤tpN t n:=by
 unfold tpN; split
 ·omega
 ·exact Int.emod_nonneg _ (by omega)
theorem z2s7 (t:Tp) {n:Int} (h:1≤n):tpN t n<n:=by
 unfold tpN; rw [if_neg (by omega)]; exact Int.emod_lt_of_pos _ (by omega)
theorem z1rh (t:Tp) (m:Nat):(t.adv m).sl=t.sl:=by simp [Tp.adv,Tp.sl]
theorem zpza (t:Tp) (m:Nat):(t.adv m).at_=t.at_+m:=by simp [Tp.adv]
theorem zk2k (t:Tp) (m:Nat):(t.adv m).l=t.l:=by simp [Tp.adv]
attribute [simp] z1rh zpza zk2k
theorem zhly (x n:Int) (h:1≤n) (h2:n≤4294967296):IntKind.i64.wrap (x.tmod n+n)=x.tmod n+n∧(x.tmod n+n).tmod n=x % n:=by
 have h1:=Int.tmod_lt_of_pos x (show 0<n by omega)
 have h3 : -n<x.tmod n:=by
  have:=Int.lt_tmod_of_pos x (show 0<n by omega)
  omega
 refine ⟨znmn (by omega) (by omega),?_⟩
 rw [y0i (by omega),Int.add_emod_right]
 rw [Int.tmod_eq_emod]
 split
 ·simp
 ·rw [Int.natAbs_of_nonneg (show 0≤n by omega)]; simp
theorem z1hg (t:Tp) (n:Int) (ht:t.at_<4294967296) (hn:n≤4294967296):RunsF tbl0 a7 [.mp 0 2 0,.int .i64 n] [.cells (tpC t)] (.int .i64 (tpN t n)) [.cells (tpC (tpS t n))]:=by
 refine ⟨?_⟩
 by_cases h:n<1
 ·have e1:tpN t n=0:=by rw [tpN,if_pos h]
  have e2:tpS t n=t:=by rw [tpS,if_pos h]
  rw [e1,e2]
  simp (disch:=first|omega|simp<;>omega|fail) [-zA,-zB,-zC,-zD,-zE,a7,tpC,h]
 have e2:tpS t n=t.adv 1:=by rw [tpS,if_neg h]
 obtain ⟨f1,f2⟩:=zhly (zq5q t) n (by omega) hn
 have e3:tpN t n=zq5q t % n:=by rw [tpN,if_neg h]
 rw [← e3] at f2
 rw [e2]
 have hn0:n≠0:=by omega
 by_cases hl:t.at_<t.l.length
 ·have hl':(t.at_:Int)<t.l.length:=by omega
  have hr:t.l[t.at_]=zq5q t:=by rw [zq5q,dif_pos hl]
  have hi:=fun H=>zmwh t H hl
  simp (disch:=first|omega|simp<;>omega|fail) [-zA,-zB,-zC,-zD,-zE,a7,tpC,h,hl,hl',hi,hr,hn0,f1,f2,-y0i]
 ·have hl':¬ (t.at_:Int)<t.l.length:=by omega
  have hr:(t.at_:Int)*7+3=zq5q t:=by rw [zq5q,dif_neg hl]
  have hw:(t.at_:Int)*7<9223372036854775808:=by omega
  simp (disch:=first|omega|simp<;>omega|fail) [-zA,-zB,-zC,-zD,-zE,a7,tpC,h,hl,hl',hr,hn0,f1,f2,-y0i]
theorem zjmf (t:Tp) (a b:Nat):(t.adv a).adv b=t.adv (a+b):=by simp [Tp.adv,Nat.add_assoc]
theorem zi8m {t:Tp} {n:Int} (h:1≤n):tpS t n=t.adv 1:=by rw [tpS,if_neg (by omega)]
noncomputable def z1m3:List DV→List DV→Option (DV × List DV):=conT (fun a:Tp × Int=>a.1.at_<4294967296∧a.2≤4294967296) (fun a=>[.int .i64 a.2]) (fun a=>tpC a.1) (fun a=>(.int .i64 (tpN a.1 a.2),tpC (tpS a.1 a.2)))
theorem zs7j {t:Tp} {n:Int} (h1:t.at_<4294967296) (h2:n≤4294967296):z1m3 [.int .i64 n] (tpC t)=some (.int .i64 (tpN t n),tpC (tpS t n)) :=
 ztyo (A:=fun a:Tp × Int=>a.1.at_<4294967296∧a.2≤4294967296) (f:=fun a=>[.int .i64 a.2]) (s:=fun a=>tpC a.1) (by
  rintro ⟨a,n⟩ ⟨b,m⟩ e1 e2
  simp only [List.cons.injEq,DV.int.injEq,true_and,and_true] at e1
  rw [e1,z15z e2]) (t,n) ⟨h1,h2⟩
theorem z44h {t:Tp} {n:Int} (h1:t.at_<4294967296) (h2:n≤4294967296) (h3:1≤n):z1m3 [.int .i64 n] (tpC t)=some (.int .i64 (tpN t n),tpC (t.adv 1)):=by rw [zs7j h1 h2,zi8m h3]
theorem z51e:(Con.tch z1m3).Sound P 7 :=
 z0tq (fun a _=>⟨rfl,zs7w _,rfl,zs7w _⟩) fun a h=>zizi mix zr5o Tryd.func7 zdfl (z1hg a.1 a.2 h.1 h.2) (y06 _)
noncomputable def T150:Tbl:=addT 7 (.tch z1m3) tbl0
theorem zp0f:T150 7 = .tch z1m3:=by simp [T150]
theorem zt0z:T150.Sound P:=z0rp z51e zr5o
def zzh5 (t:Tp) (l:List (List UInt8)):List UInt8:=l.getD (tpN t l.length).toNat []
theorem zqrp (t:Tp) {l:List (List UInt8)} (h:l≠[]):zzh5 t l ∈ l:=by
 have h0:1≤l.length:=by cases l with|nil=>exact absurd rfl h|cons _ _=>simp
 have h1:=z4rs t l.length
 have h2:=z2s7 t (n:=l.length) (by omega)
 have h3:(tpN t l.length).toNat<l.length:=by omega
 rw [zzh5,y0f,y0b h3]
 exact y08 h3
theorem z4zb (t:Tp) (l:List (List UInt8)) (ht:t.at_<4000000000) (h0:1≤l.length) (hl:l.length≤4294967296):RunsF T150 a45 [.mp 0 2 0,.sl true 1 l.length (l.map .str)] [.cells (tpC t)] (.str (zzh5 t l)) [.cells (tpC (t.adv 1))]:=by
 refine ⟨?_⟩
 have h1:=z4rs t l.length
 have h2:=z2s7 t (n:=l.length) (by omega)
 obtain ⟨N,hN⟩ : ∃ N:Nat,tpN t l.length=N:=⟨_,(y09 h1).symm⟩
 have h3:N<l.length:=by omega
 have e:zzh5 t l=l[N]:=by rw [zzh5,hN,y0d,y0f,y0b h3]; rfl
 have hd:((l.map DV.str).drop N).take 1=[.str l[N]]:=by
  rw [← List.map_drop,y0p h3]; rfl
 have hfz:fzL 1 [.cells (tpC (t.adv 1))] (tpC (t.adv 1)) (tpC (t.adv 1)):=znnb (zs7w _)
 simp (disch:=first|omega|simp<;>omega|fail) [-zA,-zB,-zC,-zD,-zE,a45,zp0f,z44h,hN,h3,e,hd,hfz,zbao]
noncomputable def zqck:List DV→List DV→Option (DV × List DV):=conT (fun a:Tp × List (List UInt8)=>a.1.at_<4000000000∧1≤a.2.length∧a.2.length≤4294967296) (fun a=>[.sl true 1 a.2.length (a.2.map .str)]) (fun a=>tpC a.1) (fun a=>(.str (zzh5 a.1 a.2),tpC (a.1.adv 1)))
theorem zsi8 : ∀ {a b:List (List UInt8)},a.map DV.str=b.map DV.str→a=b
 | [],[],_=>rfl
 | [],y::b,h=>by simp at h
 | x::a,[],h=>by simp at h
 | x::a,y::b,h=>by
  simp only [y0x,List.cons.injEq,DV.str.injEq] at h
  rw [h.1,zsi8 h.2]
theorem ze0z {t:Tp} {l:List (List UInt8)} (h:t.at_<4000000000) (h1:1≤l.length) (h2:l.length≤4294967296):zqck [.sl true 1 l.length (l.map .str)] (tpC t)=some (.str (zzh5 t l),tpC (t.adv 1)) :=
 ztyo (A:=fun a:Tp × List (List UInt8)=>a.1.at_<4000000000∧1≤a.2.length∧a.2.length≤4294967296) (f:=fun a=>[.sl true 1 a.2.length (a.2.map .str)]) (s:=fun a=>tpC a.1) (by
  rintro ⟨a,n⟩ ⟨b,m⟩ e1 e2
  simp only [List.cons.injEq,DV.sl.injEq,true_and,and_true] at e1
  rw [zsi8 e1.2,z15z e2]) (t,l) ⟨h,h1,h2⟩
theorem zztn {t:Tp} {a b:List UInt8} (h:t.at_<4000000000):zqck [.sl true 1 2 [.str a,.str b]] (tpC t)=some (.str (zzh5 t [a,b]),tpC (t.adv 1)):=ze0z (l:=[a,b]) h (by simp) (by simp)
theorem z3hj:(Con.tch zqck).Sound P 45 :=
 z0tq (fun a _=>⟨by simp [zbao,zyp8]; exact List.rec rfl (fun _ _ ih=>by simpa [zbao,zyp8] using ih) a.2,zs7w _,rfl,zs7w _⟩) fun a h=>zizi mix zt0z Tryd.func45 z94d (z4zb a.1 a.2 h.1 h.2.1 h.2.2) (y06 _)
def dgW (b:BitVec 8):Dg:=⟨b::rep 31 0#8,by simp [rep]⟩
abbrev dgB (z:Int):Dg:=dgW (BitVec.ofInt 8 z)
theorem z7ni {b:BitVec 8}:zvnk (dgC dg0) [(0,1,w8 b)]=some (.agg (dgC (dgW b))):=rfl
def sumV (t:Tp):Dg:=dgB (1+tpN t 6)
theorem zf9j {z:Int} (h0:1≤z) (h1:z≤255):dgB z≠dg0:=by
 intro e
 have:=congrArg (fun d:Dg=>d.1.head?) e
 simp [dgW,dg0,rep,List.replicate] at this
 have h2:=congrArg BitVec.toNat this
 simp at h2
 omega
theorem z7d3 (t:Tp):sumV t≠dg0:=by
 have h1:=z4rs t 6
 have h2:=z2s7 t (n:=6) (by omega)
 exact zf9j (by omega) (by omega)
theorem zizk (t:Tp) (ht:t.at_<4000000000):RunsF T150 a46 [.mp 0 2 0] [.cells (tpC t)] (.agg (dgC (sumV t))) [.cells (tpC (t.adv 1))]:=by
 refine ⟨?_⟩
 have h1:=z4rs t 6
 have h2:=z2s7 t (n:=6) (by omega)
 have hfz : ∀ k,fzL 1 k (tpC (t.adv 1)) (tpC (t.adv 1)):=fun k=>znnb (zs7w _)
 simp (disch:=first|omega|simp<;>omega|fail) [-zA,-zB,-zC,-zD,-zE,a46,zp0f,z44h,hfz,z7ni,sumV,zojd (z3ot _)]
noncomputable def cSum:List DV→List DV→Option (DV × List DV):=conT (fun a:Tp=>a.at_<4000000000) (fun a=>[]) tpC (fun a=>(.agg (dgC (sumV a)),tpC (a.adv 1)))
theorem zliq {t:Tp} (h:t.at_<4000000000):cSum [] (tpC t)=some (.agg (dgC (sumV t)),tpC (t.adv 1)) :=
 ztyo (A:=fun a:Tp=>a.at_<4000000000) (f:=fun a=>[]) (s:=tpC) (fun a b _ e=>by rw [z15z e]) t h
theorem z8dz:(Con.tch cSum).Sound P 46 :=
 z0tq (fun a _=>⟨rfl,zs7w _,by simp [zyp8],zs7w _⟩) fun a h=>zizi mix zt0z Tryd.func46 znv1 (zizk a h) (y06 _)
theorem z38l (n k:Int) (h1:1≤k) (h2:k≤4294967296):Runs tbl0 a8 [.int .i64 n,.int .i64 k] (.int .i64 (n % k)):=by
 refine ⟨?_⟩
 obtain ⟨f1,f2⟩:=zhly n k h1 h2
 have h0:k≠0:=by omega
 simp (disch:=first|omega|simp<;>omega|fail) [-zA,-zB,-zC,-zD,-zE,a8,h0,f1,f2,-y0i]
noncomputable def zqmv:List DV→Option DV
 | [.int .i64 n,.int .i64 k]=>if 1≤k∧k≤4294967296 then some (.int .i64 (n % k)) else none
 | _=>none
theorem zcb9 {n k:Int} (h1:1≤k) (h2:k≤4294967296):zqmv [.int .i64 n,.int .i64 k]=some (.int .i64 (n % k)):=if_pos ⟨h1,h2⟩
theorem zno0:(Con.pure zqmv).Sound P 8:=by
 intro args v e
 unfold zqmv at e
 split at e
 ·obtain ⟨⟨h1,h2⟩,e⟩:=y0v.1 e
  simp at e; subst e
  exact zljw mix zr5o Tryd.func8 zwbl (z38l _ _ h1 h2)
 ·simp at e
structure Nl where
 k:Option Bool
 l:List Int
 h:k=none→l=[]
 b:l.length≤9223372036854775807
def Nl.dv (x:Nl):DV:=slD x.k 1 x.l.length (x.l.flatMap inI)
def tp0 (x:Nl) (n:Nat):Tp:=⟨x.k.map fun b=>b&&(min x.l.length n == x.l.length),x.l.take n,fun e=>by simp at e; rw [x.h e]; simp,0⟩
theorem z5n2 (x:Nl) (n:Nat):(tp0 x n).at_=0:=rfl
theorem zkx7 (x:Nl):zyp8 x.dv=true:=z5yb ⟨x.k,x.l,x.h,0⟩
theorem z2kw {a b:Nl} (h:a.dv=b.dv):a=b:=by
 obtain ⟨k,l,h1,p⟩:=a
 obtain ⟨k',l',h2,p'⟩:=b
 have:=z15z (a:=⟨k,l,h1,0⟩) (b:=⟨k',l',h2,0⟩) (by simp only [tpC,Tp.sl]; simp only [Nl.dv] at h; rw [h])
 simp only [Tp.mk.injEq,and_true] at this
 rw [Nl.mk.injEq]; exact this
theorem zkbj {t:Tp}:zvnk [.nils,.int .i64 0] [(0,1,t.sl)]=some (.agg [t.sl,.int .i64 0]):=by simp [zvnk,zi03,zk7y]
theorem zb09 (x:Nl) (n:Nat) (hn:n≤4294967296):RunsF tbl0 a5 [x.dv,.int .i64 n] [] (.mp 0 2 0) [.cells (tpC (tp0 x n))]:=by
 refine ⟨?_⟩
 have hb:=x.b
 have hl : ∀ H,lenD H x.dv=some (.int .i64 x.l.length):=fun H=>zjc6 (fun e=>by rw [x.h e]; rfl)
 have hm:min (x.l.length:Int) n=((min x.l.length n:Nat):Int):=by omega
 have hs : ∀ H,ziwb H 1 x.dv none (some (.int .i64 ((min x.l.length n:Nat):Int))) none=some (tp0 x n).sl:=fun H=>by
  obtain ⟨k,l,h,b⟩:=x
  cases k with
  | none =>
   cases h rfl
   simp only [Nl.dv,z6vl,tp0,Tp.sl,Option.map_none,y15,Nat.zero_min]
   rw [zmk5 (p:=(0,0)) (by simp [zo77,iD])]
  | some b =>
   simp only [Nl.dv,zip4,tp0,Tp.sl,y02]
   rw [zygc (l:=0) (m:=min l.length n) (by simp [zo77,iD]; omega)]
   simp only [y1c,y04,Nat.sub_zero,y11,z10w zg97,Nat.min_comm n]
   congr 2
   rw [show List.take (min l.length n) l=List.take n l from by rw [Nat.min_comm,← List.take_take,y00 (y06 l.length)]]
 have hat:=z5n2 x n
 have hfz : ∀ k,fzL 1 k (tpC (tp0 x n)) (tpC (tp0 x n)):=fun k=>znnb (zs7w _)
 have htp:tpC (tp0 x n)=[(tp0 x n).sl,.int .i64 0]:=rfl
 rw [htp] at hfz ⊢
 simp (disch:=first|omega|simp<;>omega|fail) [-zA,-zB,-zC,-zD,-zE,a5,hl,hm,hs,hfz,zkbj,zluv,zy6n]
noncomputable def zl5p:List DV→Nat→Option (DV × List AObj):=conN (fun a:Nl × Nat=>a.2≤4294967296) (fun a=>[a.1.dv,.int .i64 a.2]) (fun a=>(.mp 0 2 0,[.cells (tpC (tp0 a.1 a.2))]))
theorem zwy3 {x:Nl} {n:Nat} (h:n≤4294967296) (m:Nat):zl5p [x.dv,.int .i64 n] m=some (.mp m 2 0,[.cells (tpC (tp0 x n))]):=by
 have:=zqtp (A:=fun a:Nl × Nat=>a.2≤4294967296) (f:=fun a=>[a.1.dv,.int .i64 a.2]) (g:=fun a=>(.mp 0 2 0,[.cells (tpC (tp0 a.1 a.2))])) (fun a b e=>by
  simp only [List.cons.injEq,DV.int.injEq,true_and,and_true,Int.natCast_inj] at e
  rw [z2kw e.1,e.2]) (x,n) h m
 rw [zl5p,this]
 simp only [z6iw,y0x,List.map_nil,z05k,zj45 _ _ (zs7w _),y0e]
theorem ze95:(Con.new zl5p).Sound P 5 :=
 z3ld (fun a _=>by simp [zbao,zkx7,zyp8]) fun a h=>zizi mix zr5o Tryd.func5 zonh (zb09 a.1 a.2 h) (by simp)
end
section
set_option linter.unusedSimpArgs false
set_option linter.unusedVariables false
open Go Go.Am
def gOne (x:Sl Dg) (t:Tp):Dg × Tp:=if 0<tpN (t.adv 1) 6 then (x.l.getD (tpN (t.adv 2) x.l.length).toNat dg0,t.adv 3) else (sumV t,t.adv 2)
def gAdd (l:List Dg) (d:Dg):List Dg:=if d ∈ l then l else l++[d]
def zz63 (x:Sl Dg):Nat→Tp→List Dg→List Dg × Tp
 | 0,t,l=>(l,t)
 | k+1,t,l=>zz63 x k (gOne x t).2 (gAdd l (gOne x t).1)
def zlt0 (t:Tp) (x:Sl Dg):Grp × Tp :=
 (⟨zzh5 t [[112,114,111,100],[116,101,115,116]],zzh5 (t.adv 1) [[119,101,98],[100,98]],tpN (t.adv 2) 4,tpN (t.adv 3) (tpN (t.adv 2) 4+1),tpN (t.adv 4) (tpN (t.adv 2) 4+1),
  own (zz63 x ((tpN (t.adv 5) 3).toNat+1) (t.adv 6) []).1⟩,(zz63 x ((tpN (t.adv 5) 3).toNat+1) (t.adv 6) []).2)
theorem ze4v (x:Sl Dg) (t:Tp):(gOne x t).2.at_≤t.at_+3:=by unfold gOne; split<;>simp
theorem z9wk (l:List Dg) (d:Dg):gAdd l d≠[]:=by
 unfold gAdd; split
 ·rename_i h; intro e; rw [e] at h; simp at h
 ·simp
theorem z3m3 (l:List Dg) (d:Dg):(gAdd l d).length≤l.length+1:=by unfold gAdd; split<;>simp
structure GS where
 k:Nat
 t:Tp
 l:List Dg
 d:Dg
structure GC where
 ns:List UInt8
 im:List UInt8
 want:Int
 least:Int
 down:Int
def zlt4 (g:GC) (ch:DV):List DV:=[.str g.ns,.str g.im,.int .i64 g.want,.int .i64 g.least,.int .i64 g.down,ch]
def z18d:List DV:=[.str [],.str [],.int .i64 0,.int .i64 0,.int .i64 0,.nils]
def gH (g:GC) (a:GS):List AObj:=if a.l=[] then [.cells (tpC a.t),.cells z18d,.cells (zlt4 g .nils)] else
 [.cells (tpC a.t),.cells z18d,.cells (zlt4 g (.ms 4 (a.l.length*32) 0 32 a.l.length (a.l.length*32))),.cells (dgC a.d),.cells (a.l.flatMap dgC)]
def S160 (g:GC) (x:Sl Dg) (a:GS):St:=z0ci (.mp 0 2 0) (x.dv 32 dgC) (.mp 1 6 0) (.mp 2 6 0) (.int .i64 ((a.k:Int)-1)) (gH g a)
theorem z1yk {g:GC} {a:GS} (h:a.l=[]):gH g a=[.cells (tpC a.t),.cells z18d,.cells (zlt4 g .nils)]:=if_pos h
theorem zju3 {g:GC} {a:GS} (h:a.l≠[]):gH g a=[.cells (tpC a.t),.cells z18d,.cells (zlt4 g (.ms 4 (a.l.length*32) 0 32 a.l.length (a.l.length*32))),.cells (dgC a.d),.cells (a.l.flatMap dgC)]:=if_neg h
noncomputable def T160:Tbl:=addT 7 (.tch z1m3) (addT 45 (.tch zqck) (addT 46 (.tch cSum) (addT 27 (.pure (cDgs hasB)) tbl0)))
theorem zb2f:T160 7 = .tch z1m3:=by simp [T160]
theorem zomg:T160 45 = .tch zqck:=by simp [T160]
theorem z3k3:T160 46 = .tch cSum:=by simp [T160]
theorem zcl1:T160 27 = .pure (cDgs hasB):=by simp [T160]
theorem zqob:T160.Sound P:=z0rp z51e (z0rp z3hj (z0rp z8dz (z0rp (z2au fun p _=>zljw mix zr5o Tryd.func27 z3hx (zfg2 p.1 p.2)) zr5o)))
theorem z31o {a b:List UInt8} {n:Int}:zvnk [.str [],.str [],.int .i64 0,.int .i64 0,.int .i64 0,.nils] [(0,1,.str a),(1,1,.str b),(2,1,.int .i64 n)]=some (.agg [.str a,.str b,.int .i64 n,.int .i64 0,.int .i64 0,.nils]):=rfl
theorem zg14 {h:List AObj} {id:Nat} {a b c d e f:DV} {l:List DV} (hl:l.length=6) (h1:a.one=true) (h2:b.one=true) (h3:c.one=true) (h4:d.one=true) (h5:e.one=true) (h6:f.one=true) :
  zy6o h id 6 0 (.agg [a,b,c,d,e,f]) (some l)=some (.junk,h.set id (.cells [a,b,c,d,e,f])):=zfc1 rfl hl (by simp [h1,h2,h3,h4,h5,h6])
theorem znj4 {a b c d e f:DV}:oneC 6 true [a,b,c,d,e,f]=some (.agg [a,b,c,d,e,f]):=rfl
end
section
set_option linter.unusedSimpArgs false
set_option linter.unusedVariables false
open Go Go.Am
def cpD {α:Type} (id s:Nat) (x:Sl α):DV:=if x.l=[] then .nils else .ms id (x.l.length*s) 0 s x.l.length (x.l.length*s)
theorem zbn2 {α:Type} {id s:Nat} {x:Sl α}:(cpD id s x).one=true:=by unfold cpD; split<;>rfl
theorem zjy1 {α:Type} {id s:Nat} {x:Sl α}:(cpD id s x).cells=[cpD id s x]:=by unfold cpD; split<;>rfl
theorem zufi {α:Type} {id s:Nat} {x:Sl α}:(cpD id s x).known=true:=by unfold cpD; split<;>rfl
attribute [simp] zbn2 zjy1 zufi
theorem zlwt {a b:DV} {n:Int} (h1:a.known=true) (h2:a.cells=[a]) (h3:b.known=true) (h4:b.cells=[b]):zvnk [.nils,.nils,.int .i64 0] [(0,1,a),(1,1,b),(2,1,.int .i64 n)]=some (.agg [a,b,.int .i64 n]):=by
 have q1:(DV.int .i64 n).cells=[.int .i64 n]:=rfl
 have q2:(DV.int .i64 n).known=true:=rfl
 simp [zvnk,zi03,zk7y,h1,h2,h3,h4,q1,q2]
end
section
set_option linter.unusedSimpArgs false
set_option linter.unusedVariables false
open Go Go.Am
theorem ok_n {ds:List DV} (h:Ty.Ok (.int .i64) ds) : ∃ n:Int,(-9223372036854775808≤n∧n≤9223372036854775807)∧ds=[.int .i64 n]:=zrcx h
theorem zjzy {ds:List DV} (h:Ty.Ok (.sl (.int .i64)) ds) : ∃ x:Nl,(∀ n ∈ x.l,-9223372036854775808≤n∧n≤9223372036854775807)∧ds=[x.dv]:=by
 obtain ⟨k,l,h1,h2,rfl,hb⟩:=z61h (f:=inI) (R:=fun n => -9223372036854775808≤n∧n≤9223372036854775807) (fun ds h=>by obtain ⟨n,hn,rfl⟩:=zrcx h; exact ⟨n,hn,rfl⟩) h
 exact ⟨⟨k,l,h1,hb⟩,h2,rfl⟩
end
section
set_option linter.unusedSimpArgs false
set_option linter.unusedVariables false
open Go Go.Am
end
section
set_option linter.unusedSimpArgs false
set_option linter.unusedVariables false
open Go Go.Am
theorem z12q (s:Int):Runs tbl0 a58 [.int .i64 s] (.bool (decide (s=1))):=by
 refine ⟨?_⟩
 simp (disch:=first|omega|simp<;>omega|fail) [-zA,-zB,-zC,-zD,-zE,a58]
def cIb (g:Int→Bool):List DV→Option DV
 | [.int .i64 s]=>some (.bool (g s))|_=>none
theorem z57z {g:Int→Bool} {s:Int}:cIb g [.int .i64 s]=some (.bool (g s)):=rfl
theorem z47b {f:Nat} {g:Int→Bool} (h : ∀ s,Am.Sem P f [.int .i64 s] (.bool (g s))):(Con.pure (cIb g)).Sound P f:=by
 intro args v e
 unfold cIb at e
 split at e
 ·simp at e; subst e; exact h _
 ·simp at e
noncomputable def zobb (c:Clu) (id t to:Int):DV := .tup [.agg (clC (z5wo c id t to).1),.int .i64 (z5wo c id t to).2]
theorem zc46 {c:Clu} (hv:ValidC c) {k:Nat} (hk:k<c.i.l.length):c.g.l≠[]:=by
 intro e
 have h1:=(hv.i k hk).1.g0
 have h2:=(hv.i k hk).1.g1
 rw [e] at h2; simp at h2; omega
noncomputable def cChg (M:Nat) (to:Int):List DV→Option DV:=con (fun _=>True) (fun p:Clu × Int × Int=>[.agg (clC p.1),.int .i64 p.2.1,.int .i64 p.2.2,.int .i64 to,.fn (.func M) [] []]) (fun p=>zobb p.1 p.2.1 p.2.2 to)
theorem zesv {M:Nat} {to:Int} {c:Clu} {id t:Int}:cChg M to [.agg (clC c),.int .i64 id,.int .i64 t,.int .i64 to,.fn (.func M) [] []]=some (zobb c id t to) :=
 zsn4 (f:=fun p:Clu × Int × Int=>[.agg (clC p.1),.int .i64 p.2.1,.int .i64 p.2.2,.int .i64 to,.fn (.func M) [] []]) (by
  rintro ⟨a,b,c⟩ ⟨a',b',c'⟩ e
  simp only [List.cons.injEq,DV.agg.injEq,DV.int.injEq,and_true,true_and] at e
  rw [zh7t e.1,e.2.1,e.2.2]) (c,id,t)
end
section
set_option linter.unusedSimpArgs false
set_option linter.unusedVariables false
open Go Go.Am
end
section
set_option linter.unusedSimpArgs false
set_option linter.unusedVariables false
open Go Go.Am
def a13:AFn where
 code:=(.seq (.region false [⟨none,(some 0),.mov (.k (.bool false))⟩])
 (.seq (.region false [⟨none,(some 11),.build [.nils,.nils,(.int .i64 0)] [(2,1,(.k (.int .i64 1)))]⟩,
  ⟨none,(some 12),.build (rep 32 (w8 0#8)) [(0,1,(.k (w8 1#8)))]⟩,
  ⟨none,(some 13),.bsl 32 1 (rep 32 (w8 0#8)) [(0,32,(.t 12))]⟩,
  ⟨none,(some 14),.build [(.str []),(.str []),(.int .i64 0),(.int .i64 0),(.int .i64 0),.nils] [(0,1,(.k (.str [97]))),(1,1,(.k (.str [98]))),(2,1,(.k (.int .i64 1))),(5,1,(.t 13))]⟩,
  ⟨none,(some 15),.call (.k (.fn (.func 28) [] [])) [(.t 11),(.t 14)]⟩,
  ⟨none,(some 10),.mov (.t 15)⟩,
  ⟨none,(some 16),.ext (.t 10) 0⟩,
  ⟨none,(some 17),.ext (.t 10) 1⟩,
  ⟨none,(some 1),.alloc [.nils,.nils,(.int .i64 0)]⟩,
  ⟨none,none,.store 3 (.t 1) (.t 16)⟩,
  ⟨none,(some 2),.mov (.t 17)⟩])
 (.seq (.region false [⟨none,(some 19),.load 3 true (.t 1)⟩,
  ⟨none,(some 20),.build (rep 32 (w8 0#8)) [(0,1,(.k (w8 1#8)))]⟩,
  ⟨none,(some 21),.call (.k (.fn (.func 29) [] [])) [(.t 19),(.k (.int .i64 0)),(.t 20),(.k (.int .i64 5))]⟩,
  ⟨none,(some 18),.mov (.t 21)⟩,
  ⟨none,(some 22),.ext (.t 18) 0⟩,
  ⟨none,(some 23),.ext (.t 18) 1⟩,
  ⟨none,(some 24),.ext (.t 18) 2⟩,
  ⟨none,(some 3),.alloc [.nils,.nils,(.int .i64 0)]⟩,
  ⟨none,none,.store 3 (.t 3) (.t 22)⟩,
  ⟨none,(some 4),.mov (.t 23)⟩,
  ⟨none,(some 5),.mov (.t 24)⟩])
 (.seq (.region false [⟨none,(some 26),.load 3 true (.t 3)⟩,
  ⟨none,(some 27),.call (.k (.fn (.func 30) [] [])) [(.t 26),(.k (.int .i64 1)),(.k (.int .i64 6))]⟩,
  ⟨none,(some 25),.mov (.t 27)⟩,
  ⟨none,(some 28),.ext (.t 25) 0⟩,
  ⟨none,(some 29),.ext (.t 25) 1⟩,
  ⟨none,(some 6),.alloc [.nils,.nils,(.int .i64 0)]⟩,
  ⟨none,none,.store 3 (.t 6) (.t 28)⟩,
  ⟨none,(some 7),.mov (.t 29)⟩])
 (.seq (.region false [⟨none,(some 31),.load 3 true (.t 6)⟩,
  ⟨none,(some 32),.call (.k (.fn (.func 30) [] [])) [(.t 31),(.k (.int .i64 1)),(.k (.int .i64 7))]⟩,
  ⟨none,(some 30),.mov (.t 32)⟩,
  ⟨none,(some 33),.ext (.t 30) 0⟩,
  ⟨none,(some 34),.ext (.t 30) 1⟩,
  ⟨none,(some 8),.alloc [.nils,.nils,(.int .i64 0)]⟩,
  ⟨none,none,.store 3 (.t 8) (.t 33)⟩,
  ⟨none,(some 9),.mov (.t 34)⟩])
 (.seq (.region false [⟨none,(some 35),.mov (.t 2)⟩,
  ⟨none,(some 36),.bin .eql (.t 35) (.k (.int .i64 0))⟩,
  ⟨none,(some 37),.mov (.t 36)⟩,
  ⟨(some (37,true)),(some 38),.mov (.t 5)⟩,
  ⟨(some (37,true)),(some 39),.bin .eql (.t 38) (.k (.int .i64 0))⟩,
  ⟨none,(some 40),.pick (.t 37) (.t 39) (.k (.bool false))⟩,
  ⟨none,(some 41),.mov (.t 40)⟩,
  ⟨(some (41,true)),(some 42),.mov (.t 7)⟩,
  ⟨(some (41,true)),(some 43),.bin .eql (.t 42) (.k (.int .i64 0))⟩,
  ⟨none,(some 44),.pick (.t 41) (.t 43) (.k (.bool false))⟩,
  ⟨none,(some 45),.mov (.t 44)⟩,
  ⟨(some (45,true)),(some 46),.mov (.t 4)⟩,
  ⟨(some (45,true)),(some 47),.bin .eql (.t 46) (.k (.int .i64 1))⟩,
  ⟨none,(some 48),.pick (.t 45) (.t 47) (.k (.bool false))⟩,
  ⟨none,(some 49),.mov (.t 48)⟩,
  ⟨(some (49,true)),(some 50),.fld 1 (.t 6)⟩,
  ⟨(some (49,true)),(some 51),.load 1 false (.t 50)⟩,
  ⟨(some (49,true)),(some 52),.idxS 37 (.t 51) (.k (.int .i64 0))⟩,
  ⟨(some (49,true)),(some 53),.fld 34 (.t 52)⟩,
  ⟨(some (49,true)),(some 54),.load 1 false (.t 53)⟩,
  ⟨(some (49,true)),(some 55),.bin .eql (.t 54) (.k (.int .i64 2))⟩,
  ⟨none,(some 56),.pick (.t 49) (.t 55) (.k (.bool false))⟩,
  ⟨none,(some 57),.mov (.t 56)⟩,
  ⟨(some (57,true)),(some 58),.mov (.t 9)⟩,
  ⟨(some (57,true)),(some 59),.bin .eql (.t 58) (.k (.int .i64 30))⟩,
  ⟨none,(some 60),.pick (.t 57) (.t 59) (.k (.bool false))⟩,
  ⟨none,(some 61),.mov (.t 60)⟩,
  ⟨(some (61,true)),(some 62),.load 3 true (.t 6)⟩,
  ⟨(some (61,true)),(some 63),.call (.k (.fn (.func 9) [] [])) [(.t 62)]⟩,
  ⟨none,(some 64),.pick (.t 61) (.t 63) (.k (.bool false))⟩,
  ⟨none,(some 65),.mov (.t 64)⟩,
  ⟨(some (65,true)),(some 66),.load 3 true (.t 6)⟩,
  ⟨(some (65,true)),(some 67),.call (.k (.fn (.func 31) [] [])) [(.t 66),(.k (.int .i64 1))]⟩,
  ⟨(some (65,true)),(some 68),.bin .eql (.t 67) (.k (.int .i64 0))⟩,
  ⟨none,(some 69),.pick (.t 65) (.t 68) (.k (.bool false))⟩,
  ⟨none,(some 70),.mov (.t 69)⟩,
  ⟨(some (70,true)),(some 71),.load 3 true (.t 6)⟩,
  ⟨(some (70,true)),(some 72),.call (.k (.fn (.func 20) [] [])) [(.t 71),(.k (.str [97])),(.k (.str [98]))]⟩,
  ⟨(some (70,true)),(some 73),.bin .eql (.t 72) (.k (.int .i64 0))⟩,
  ⟨none,(some 74),.pick (.t 70) (.t 73) (.k (.bool false))⟩,
  ⟨none,(some 0),.mov (.t 74)⟩])
 .ret))))))
 ntmps:=75
 res:=[.tmp 0]
theorem zm5y:zsjc P Tryd.f13=some a13:=by kernel_rfl
end
section
set_option linter.unusedSimpArgs false
set_option linter.unusedVariables false
open Go Go.Am
def a3:AFn where
 code:=(.seq (.region false [⟨none,(some 7),.box (.t 3)⟩,
  ⟨none,(some 8),.mov (.k (.bool false))⟩])
 (.seq (.region false [⟨none,(some 13),.mov (.t 0)⟩,
  ⟨none,(some 14),.call (.k (.fn (.func 5) [] [])) [(.t 13),(.k (.int .i64 150))]⟩,
  ⟨none,(some 9),.mov (.t 14)⟩])
 (.seq (.region false [⟨none,(some 15),.mov (.t 9)⟩,
  ⟨none,(some 16),.call (.k (.fn (.func 6) [] [])) [(.t 15),(.k (.int .i64 6))]⟩,
  ⟨none,(some 10),.alloc [.nils,.nils,(.int .i64 0)]⟩,
  ⟨none,none,.store 3 (.t 10) (.t 16)⟩])
 (.seq (.region true [⟨none,(some 17),.fld 0 (.t 10)⟩,
  ⟨none,(some 18),.load 1 false (.t 17)⟩,
  ⟨none,(some 19),.mov (.t 9)⟩,
  ⟨none,(some 20),.fld 0 (.t 10)⟩,
  ⟨none,(some 21),.load 1 false (.t 20)⟩,
  ⟨none,(some 22),.len (.t 21)⟩,
  ⟨none,(some 23),.callT (.k (.fn (.func 7) [] [])) [(.t 19),(.t 22)]⟩,
  ⟨none,(some 24),.idxS 6 (.t 18) (.t 23)⟩,
  ⟨none,(some 11),.mov (.t 24)⟩,
  ⟨none,none,.apart (.t 10) (.t 19)⟩,
  ⟨none,none,.apart (.t 17) (.t 19)⟩])
 (.seq (.seq (.region false [⟨none,(some 25),.fld 1 (.t 10)⟩,
  ⟨none,(some 26),.load 1 false (.t 25)⟩,
  ⟨none,(some 27),.len (.t 26)⟩,
  ⟨none,(some 28),.bin .eql (.t 27) (.k (.int .i64 0))⟩])
 (.cond (.t 28) (.seq (.region false [⟨none,(some 29),.fld 2 (.t 10)⟩,
  ⟨none,(some 30),.load 1 false (.t 29)⟩,
  ⟨none,(some 31),.build (rep 32 (w8 0#8)) [(0,1,(.k (w8 1#8)))]⟩,
  ⟨none,(some 32),.build [(.int .i64 0),(.int .i64 0),(w8 0#8),(w8 0#8),(w8 0#8),(w8 0#8),(w8 0#8),(w8 0#8),(w8 0#8),(w8 0#8),(w8 0#8),(w8 0#8),(w8 0#8),(w8 0#8),(w8 0#8),(w8 0#8),(w8 0#8),(w8 0#8),(w8 0#8),(w8 0#8),(w8 0#8),(w8 0#8),(w8 0#8),(w8 0#8),(w8 0#8),(w8 0#8),(w8 0#8),(w8 0#8),(w8 0#8),(w8 0#8),(w8 0#8),(w8 0#8),(w8 0#8),(w8 0#8),(.int .i64 0),(.int .i64 0),(.int .i64 0)] [(0,1,(.t 30)),(2,32,(.t 31)),(34,1,(.k (.int .i64 1))),(36,1,(.k (.int .i64 (-1))))]⟩,
  ⟨none,(some 33),.bslO 37 1 [(.int .i64 0),(.int .i64 0),(w8 0#8),(w8 0#8),(w8 0#8),(w8 0#8),(w8 0#8),(w8 0#8),(w8 0#8),(w8 0#8),(w8 0#8),(w8 0#8),(w8 0#8),(w8 0#8),(w8 0#8),(w8 0#8),(w8 0#8),(w8 0#8),(w8 0#8),(w8 0#8),(w8 0#8),(w8 0#8),(w8 0#8),(w8 0#8),(w8 0#8),(w8 0#8),(w8 0#8),(w8 0#8),(w8 0#8),(w8 0#8),(w8 0#8),(w8 0#8),(w8 0#8),(w8 0#8),(.int .i64 0),(.int .i64 0),(.int .i64 0)] [(0,37,(.t 32))]⟩,
  ⟨none,(some 34),.fld 1 (.t 10)⟩,
  ⟨none,none,.store 1 (.t 34) (.t 33)⟩])
 (.region false [⟨none,(some 35),.fld 2 (.t 10)⟩,
  ⟨none,(some 36),.load 1 false (.t 35)⟩,
  ⟨none,(some 37),.bin .add (.t 36) (.k (.int .i64 1))⟩,
  ⟨none,(some 38),.fld 2 (.t 10)⟩,
  ⟨none,none,.store 1 (.t 38) (.t 37)⟩]))
 .skip))
 (.seq (.region true [⟨none,(some 39),.fld 1 (.t 10)⟩,
  ⟨none,(some 40),.load 1 false (.t 39)⟩,
  ⟨none,(some 41),.mov (.t 9)⟩,
  ⟨none,(some 42),.fld 1 (.t 10)⟩,
  ⟨none,(some 43),.load 1 false (.t 42)⟩,
  ⟨none,(some 44),.len (.t 43)⟩,
  ⟨none,(some 45),.callT (.k (.fn (.func 7) [] [])) [(.t 41),(.t 44)]⟩,
  ⟨none,(some 46),.idxS 37 (.t 40) (.t 45)⟩,
  ⟨none,(some 12),.mov (.t 46)⟩,
  ⟨none,none,.apart (.t 10) (.t 41)⟩,
  ⟨none,none,.apart (.t 39) (.t 41)⟩])
 (.seq (.seq (.region false [⟨none,(some 47),.mov (.t 1)⟩,
  ⟨none,(some 48),.call (.k (.fn (.func 8) [] [])) [(.t 47),(.k (.int .i64 13))]⟩])
 (.block 0 (.seq (.region false [⟨none,(some 59),.bin .eql (.t 48) (.k (.int .i64 0))⟩,
  ⟨none,(some 58),.mov (.t 59)⟩])
 (.cond (.t 58) (.region false [⟨none,(some 60),.mov (.t 11)⟩,
  ⟨none,(some 61),.mov (.t 2)⟩,
  ⟨none,(some 62),.nilc (.t 60)⟩,
  ⟨none,(some 63),.fld 2 (.t 62)⟩,
  ⟨none,none,.store 1 (.t 63) (.t 61)⟩])
 (.seq (.region false [⟨none,(some 65),.bin .eql (.t 48) (.k (.int .i64 1))⟩,
  ⟨none,(some 64),.mov (.t 65)⟩])
 (.cond (.t 64) (.region false [⟨none,(some 66),.mov (.t 11)⟩,
  ⟨none,(some 67),.mov (.t 2)⟩,
  ⟨none,(some 68),.nilc (.t 66)⟩,
  ⟨none,(some 69),.fld 3 (.t 68)⟩,
  ⟨none,none,.store 1 (.t 69) (.t 67)⟩])
 (.seq (.region false [⟨none,(some 71),.bin .eql (.t 48) (.k (.int .i64 2))⟩,
  ⟨none,(some 70),.mov (.t 71)⟩])
 (.cond (.t 70) (.region false [⟨none,(some 72),.mov (.t 11)⟩,
  ⟨none,(some 73),.mov (.t 2)⟩,
  ⟨none,(some 74),.nilc (.t 72)⟩,
  ⟨none,(some 75),.fld 4 (.t 74)⟩,
  ⟨none,none,.store 1 (.t 75) (.t 73)⟩])
 (.seq (.region false [⟨none,(some 77),.bin .eql (.t 48) (.k (.int .i64 3))⟩,
  ⟨none,(some 76),.mov (.t 77)⟩])
 (.cond (.t 76) (.region true [⟨none,(some 78),.mov (.t 11)⟩,
  ⟨none,(some 79),.mov (.t 11)⟩,
  ⟨none,(some 80),.nilc (.t 79)⟩,
  ⟨none,(some 81),.fld 5 (.t 80)⟩,
  ⟨none,(some 82),.load 1 false (.t 81)⟩,
  ⟨none,(some 83),.load 32 true (.t 7)⟩,
  ⟨none,(some 84),.bsl 32 1 (rep 32 (w8 0#8)) [(0,32,(.t 83))]⟩,
  ⟨none,(some 85),.app 32 32 (.t 82) (.t 84)⟩,
  ⟨none,(some 86),.nilc (.t 78)⟩,
  ⟨none,(some 87),.fld 5 (.t 86)⟩,
  ⟨none,none,.store 1 (.t 87) (.t 85)⟩])
 (.seq (.region false [⟨none,(some 89),.bin .eql (.t 48) (.k (.int .i64 4))⟩,
  ⟨none,(some 88),.mov (.t 89)⟩])
 (.cond (.t 88) (.region false [⟨none,(some 90),.mov (.t 11)⟩,
  ⟨none,(some 91),.nilc (.t 90)⟩,
  ⟨none,(some 92),.fld 0 (.t 91)⟩,
  ⟨none,none,.store 1 (.t 92) (.k (.str [47]))⟩])
 (.seq (.region false [⟨none,(some 94),.bin .eql (.t 48) (.k (.int .i64 5))⟩,
  ⟨none,(some 93),.mov (.t 94)⟩])
 (.cond (.t 93) (.region false [⟨none,(some 95),.mov (.t 12)⟩,
  ⟨none,(some 96),.mov (.t 2)⟩,
  ⟨none,(some 97),.nilc (.t 95)⟩,
  ⟨none,(some 98),.fld 0 (.t 97)⟩,
  ⟨none,none,.store 1 (.t 98) (.t 96)⟩])
 (.seq (.region false [⟨none,(some 100),.bin .eql (.t 48) (.k (.int .i64 6))⟩,
  ⟨none,(some 99),.mov (.t 100)⟩])
 (.cond (.t 99) (.region false [⟨none,(some 101),.mov (.t 12)⟩,
  ⟨none,(some 102),.mov (.t 2)⟩,
  ⟨none,(some 103),.nilc (.t 101)⟩,
  ⟨none,(some 104),.fld 1 (.t 103)⟩,
  ⟨none,none,.store 1 (.t 104) (.t 102)⟩])
 (.seq (.region false [⟨none,(some 106),.bin .eql (.t 48) (.k (.int .i64 7))⟩,
  ⟨none,(some 105),.mov (.t 106)⟩])
 (.cond (.t 105) (.region false [⟨none,(some 107),.mov (.t 12)⟩,
  ⟨none,(some 108),.load 32 true (.t 7)⟩,
  ⟨none,(some 109),.nilc (.t 107)⟩,
  ⟨none,(some 110),.fld 2 (.t 109)⟩,
  ⟨none,none,.store 32 (.t 110) (.t 108)⟩])
 (.seq (.region false [⟨none,(some 112),.bin .eql (.t 48) (.k (.int .i64 8))⟩,
  ⟨none,(some 111),.mov (.t 112)⟩])
 (.cond (.t 111) (.region false [⟨none,(some 113),.mov (.t 12)⟩,
  ⟨none,(some 114),.mov (.t 2)⟩,
  ⟨none,(some 115),.nilc (.t 113)⟩,
  ⟨none,(some 116),.fld 34 (.t 115)⟩,
  ⟨none,none,.store 1 (.t 116) (.t 114)⟩])
 (.seq (.region false [⟨none,(some 118),.bin .eql (.t 48) (.k (.int .i64 9))⟩,
  ⟨none,(some 117),.mov (.t 118)⟩])
 (.cond (.t 117) (.region false [⟨none,(some 119),.mov (.t 12)⟩,
  ⟨none,(some 120),.mov (.t 2)⟩,
  ⟨none,(some 121),.nilc (.t 119)⟩,
  ⟨none,(some 122),.fld 35 (.t 121)⟩,
  ⟨none,none,.store 1 (.t 122) (.t 120)⟩])
 (.seq (.region false [⟨none,(some 124),.bin .eql (.t 48) (.k (.int .i64 10))⟩,
  ⟨none,(some 123),.mov (.t 124)⟩])
 (.cond (.t 123) (.region false [⟨none,(some 125),.mov (.t 12)⟩,
  ⟨none,(some 126),.mov (.t 2)⟩,
  ⟨none,(some 127),.nilc (.t 125)⟩,
  ⟨none,(some 128),.fld 36 (.t 127)⟩,
  ⟨none,none,.store 1 (.t 128) (.t 126)⟩])
 (.seq (.region false [⟨none,(some 130),.bin .eql (.t 48) (.k (.int .i64 11))⟩,
  ⟨none,(some 129),.mov (.t 130)⟩])
 (.cond (.t 129) (.region false [⟨none,(some 131),.mov (.t 2)⟩,
  ⟨none,(some 132),.fld 2 (.t 10)⟩,
  ⟨none,none,.store 1 (.t 132) (.t 131)⟩])
 (.region true [⟨none,(some 49),.fld 0 (.t 10)⟩,
  ⟨none,(some 50),.load 1 false (.t 49)⟩,
  ⟨none,(some 51),.fld 0 (.t 10)⟩,
  ⟨none,(some 52),.load 1 false (.t 51)⟩,
  ⟨none,(some 53),.idxS 6 (.t 52) (.k (.int .i64 0))⟩,
  ⟨none,(some 54),.load 6 true (.t 53)⟩,
  ⟨none,(some 55),.bsl 6 1 [(.str []),(.str []),(.int .i64 0),(.int .i64 0),(.int .i64 0),.nils] [(0,6,(.t 54))]⟩,
  ⟨none,(some 56),.app 6 80 (.t 50) (.t 55)⟩,
  ⟨none,(some 57),.fld 0 (.t 10)⟩,
  ⟨none,none,.store 1 (.t 57) (.t 56)⟩])))))))))))))))))))))))))))
 (.seq (.region true [⟨none,(some 133),.load 3 true (.t 10)⟩,
  ⟨none,(some 135),.load 3 true (.t 10)⟩,
  ⟨none,(some 134),.callN (.k (.fn (.func 9) [] [])) [(.t 133)]⟩,
  ⟨none,(some 136),.callN (.k (.fn (.func 10) [] [])) [(.t 135)]⟩,
  ⟨none,(some 137),.eqb false (.t 134) (.t 136)⟩,
  ⟨none,(some 138),.mov (.t 137)⟩,
  ⟨(some (138,true)),(some 139),.mov (.t 11)⟩,
  ⟨(some (138,true)),(some 140),.nilc (.t 139)⟩,
  ⟨(some (138,true)),(some 141),.load 6 true (.t 140)⟩,
  ⟨(some (138,true)),(some 143),.mov (.t 11)⟩,
  ⟨(some (138,true)),(some 144),.nilc (.t 143)⟩,
  ⟨(some (138,true)),(some 145),.load 6 true (.t 144)⟩,
  ⟨(some (138,true)),(some 142),.callN (.k (.fn (.func 11) [] [])) [(.t 141)]⟩,
  ⟨(some (138,true)),(some 146),.callN (.k (.fn (.func 12) [] [])) [(.t 145)]⟩,
  ⟨(some (138,true)),(some 147),.eqb false (.t 142) (.t 146)⟩,
  ⟨none,(some 148),.pick (.t 138) (.t 147) (.k (.bool false))⟩,
  ⟨none,(some 149),.mov (.t 148)⟩,
  ⟨(some (149,true)),(some 150),.callN (.k (.fn (.func 13) [] [])) []⟩,
  ⟨none,(some 151),.pick (.t 149) (.t 150) (.k (.bool false))⟩,
  ⟨none,(some 8),.mov (.t 151)⟩])
 .ret))))))))
 ntmps:=152
 res:=[.tmp 8]
theorem z842:zsjc P Tryd.f3=some a3:=by kernel_rfl
end
section
set_option linter.unusedSimpArgs false
set_option linter.unusedVariables false
open Go Go.Am
noncomputable def cDep (g:Clu→Grp→DV):List DV→Option DV:=con (fun _=>True) (fun p:Clu × Grp=>[.agg (clC p.1),.agg (grC p.2)]) (fun p=>g p.1 p.2)
theorem zm3o {f:Clu→Grp→DV} {c:Clu} {g:Grp}:cDep f [.agg (clC c),.agg (grC g)]=some (f c g) :=
 zsn4 (f:=fun p:Clu × Grp=>[.agg (clC p.1),.agg (grC p.2)]) (by
  rintro ⟨a,b⟩ ⟨a',b'⟩ e
  simp only [List.cons.injEq,DV.agg.injEq,and_true] at e
  rw [zh7t e.1,zs5w e.2]) (c,g)
noncomputable def cSta (f:Clu→Int→Dg→Int→DV):List DV→Option DV:=con (fun _=>True) (fun p:Clu × Int × Dg × Int=>[.agg (clC p.1),.int .i64 p.2.1,.agg (dgC p.2.2.1),.int .i64 p.2.2.2]) (fun p=>f p.1 p.2.1 p.2.2.1 p.2.2.2)
theorem zx1h {f:Clu→Int→Dg→Int→DV} {c:Clu} {g t:Int} {d:Dg}:cSta f [.agg (clC c),.int .i64 g,.agg (dgC d),.int .i64 t]=some (f c g d t) :=
 zsn4 (f:=fun p:Clu × Int × Dg × Int=>[.agg (clC p.1),.int .i64 p.2.1,.agg (dgC p.2.2.1),.int .i64 p.2.2.2]) (by
  rintro ⟨a,b,c,d⟩ ⟨a',b',c',d'⟩ e
  simp only [List.cons.injEq,DV.agg.injEq,DV.int.injEq,and_true,true_and] at e
  rw [zh7t e.1,e.2.1,zib9 e.2.2.1,e.2.2.2]) (c,g,d,t)
noncomputable def cCii (f:Clu→Int→Int→DV):List DV→Option DV:=con (fun _=>True) (fun p:Clu × Int × Int=>[.agg (clC p.1),.int .i64 p.2.1,.int .i64 p.2.2]) (fun p=>f p.1 p.2.1 p.2.2)
theorem zl2e {f:Clu→Int→Int→DV} {c:Clu} {g t:Int}:cCii f [.agg (clC c),.int .i64 g,.int .i64 t]=some (f c g t) :=
 zsn4 (f:=fun p:Clu × Int × Int=>[.agg (clC p.1),.int .i64 p.2.1,.int .i64 p.2.2]) (by
  rintro ⟨a,b,d⟩ ⟨a',b',d'⟩ e
  simp only [List.cons.injEq,DV.agg.injEq,DV.int.injEq,and_true,true_and] at e
  rw [zh7t e.1,e.2.1,e.2.2]) (c,g,t)
def d1:Dg:=⟨1#8::rep 31 0#8,by simp⟩
theorem zzgb:d1≠dg0:=by decide
structure OneG (c:Clu) (x:Grp):Prop where
 g:c.g.l=[x]
 v:ValidG x
 a:x.ns=[97]
 b:x.im=[98]
theorem zup3 {x:Grp} (h:ValidG x):ValidG x.clone:=⟨h.ns,h.im,h.w0,h.w1,h.l0,h.l1,h.d0,h.d1,h.n,h.ch⟩
theorem zobj {c:Clu} {x:Grp} (hg:OneG c x) (hi:c.i.l=[] ∨ ∃ y,c.i.l=[y]∧SoundI 1 c.next y) (h1:1≤c.next) (h2:c.next≤1099511627776):ValidC c:=by
 obtain ⟨⟨gk,gl,gh,gb⟩,⟨ik,il,ih,ib⟩,n⟩:=c
 obtain ⟨e,hv,ea,eb⟩:=hg
 simp only at e hi h1 h2
 subst e
 refine ⟨by simp,?_,h1,h2,fun i h => ?_,fun i h => ?_⟩
 ·rcases hi with rfl|⟨y,rfl,_⟩<;>simp
 ·simp only [y05] at h
  obtain rfl:i=0:=by omega
  exact ⟨hv,by simp [z9w0,ixI,fitG]⟩
 ·rcases hi with rfl|⟨y,rfl,hy⟩
  ·simp at h
  ·simp only [y05] at h
   obtain rfl:i=0:=by omega
   exact ⟨hy,fun h0=>by omega⟩
def cA:Clu:=⟨⟨none,[],fun _=>rfl,by simp⟩,⟨none,[],fun _=>rfl,by simp⟩,1⟩
theorem z8g8:ValidC cA:=⟨by simp [cA],by simp [cA],by simp [cA],by simp [cA],fun i h=>by simp [cA] at h,fun i h=>by simp [cA] at h⟩
theorem z201 {g:Grp} (hv:ValidG g) (ha:g.ns=[97]) (hb:g.im=[98]) : ∃ c,zeu8 cA g=(c,0)∧OneG c g.clone∧c.i.l=[]∧c.next=1:=by
 refine ⟨⟨own (cA.g.l.map Grp.clone++[g.clone]),cA.i.clone,cA.next⟩,?_,?_,rfl,rfl⟩
 ·rw [zeu8,if_neg (by simp [z8g8,hv]),if_pos (by simp [cA,z9w0,ixI]),if_neg (by simp [cA])]
 ·exact ⟨by rw [z3e9 (by simp [cA])]; simp [cA],zup3 hv,ha,hb⟩
theorem zqes {c:Clu} {x:Grp} (hg:OneG c x) (hi:c.i.l=[]) (hn:c.next=1) {t:Int} (ht:zcie t) : ∃ c',z4wu c 0 d1 t=(c',1,0)∧OneG c' x.clone∧c'.i.l=[⟨1,0,d1,1,t,-1⟩]∧c'.next=2:=by
 have hv:ValidC c:=zobj hg (.inl hi) (by omega) (by omega)
 have hl:c.g.l.length=1:=by rw [hg.g]; rfl
 refine ⟨⟨c.clone.g,own (c.i.l++[newI c 0 d1 t]),c.next+1⟩,?_,?_,?_,?_⟩
 ·rw [z4wu,if_neg (by simp [hv,zzgb,ht]),if_neg (by rw [hl]; decide),if_neg (by rw [hi,hn]; decide),hn]
 ·exact ⟨by simp [zbo5,hg.g],zup3 hg.v,hg.a,hg.b⟩
 ·rw [hi,z3e9 (by simp)]; simp [newI,hn]
 ·simp [hn]
theorem zhti {c:Clu} {x:Grp} {y:Ins} (hg:OneG c x) (hi:c.i.l=[y]) (hn:c.next=2) (hy:SoundI 1 2 y) (hid:y.id=1) {t:Int} (ht:zcie t) {to:Int} (hto:to=2∨to=3) :
  (may to y.state=true ∧ ∃ c',z5wo c 1 t to=(c',0)∧OneG c' x.clone∧c'.i.l=[(y.st to).si t]∧c'.next=2)∨(may to y.state=false∧z5wo c 1 t to=(clu0,30)):=by
 have hv:ValidC c:=zobj hg (.inr ⟨y,hi,hn▸hy⟩) (by omega) (by omega)
 have hf:z092 c.i.l 1=0:=by rw [hi]; simp [z092,ixI,hid]
 cases hm:may to y.state with
 | true =>
  refine .inl ⟨rfl,⟨c.clone.g,own (setI c.i.l 0 to t),c.next⟩,?_,?_,?_,hn⟩
  ·rw [z5wo,if_neg (by simp [hv,ht]),hf,if_neg (by decide),if_pos (by rw [hi]; simp [hm])]
   rfl
  ·exact ⟨by simp [zbo5,hg.g],zup3 hg.v,hg.a,hg.b⟩
  ·rw [hi,show setI [y] 0 to t=[(y.st to).si t] from rfl,z3e9 (by simp)]
 | false =>
  refine .inr ⟨rfl,?_⟩
  rw [z5wo,if_neg (by simp [hv,ht]),hf,if_neg (by decide),if_neg (by rw [hi]; simp [hm])]
def gA:Grp:=⟨[97],[98],1,0,0,⟨some true,[d1],by simp,by simp⟩⟩
theorem z02k:ValidG gA:=⟨by decide,by decide,by decide,by decide,by decide,by decide,by decide,by decide,by decide,fun i h=>by
 have:i=0:=by simp [gA] at h; exact h
 subst this
 exact ⟨zzgb,by simp⟩⟩
end
section
set_option linter.unusedSimpArgs false
set_option linter.unusedVariables false
open Go Go.Am
theorem zzmg {x:Sl Ins} {y:Ins} (h:x.l=[y]) (H:List AObj):zpsc H 37 (x.dv 37 inC) 0=some (.ref (inC y)):=by
 have h0:0<x.l.length:=by rw [h]; simp
 have:=zalo (h:=H) (x:=x) z6gw h0
 simp only [h,y0s] at this
 exact this
theorem zdkt {st t:Int} (h1:1≤st) (h2:st≤3) (ht:zcie t):SoundI 1 2 ⟨1,0,d1,st,t,-1⟩:=⟨Int.le_refl _,by show (1:Int)<2; decide,Int.le_refl _,by show (0:Int)<1; decide,zzgb,h1,h2,ht,.inl rfl⟩
theorem b0:zvnk [.nils,.nils,.int .i64 0] [(2,1,.int .i64 1)]=some (.agg [.nils,.nils,.int .i64 1]):=rfl
theorem b1:zvnk (dgC dg0) [(0,1,w8 1#8)]=some (.agg (dgC d1)):=rfl
theorem b2:bslD 32 1 (dgC dg0) [(0,32,.agg (dgC d1))]=some (.sl true 32 1 (dgC d1)):=rfl
noncomputable def z7wg:List DV→Option DV
 | []=>some (.bool true)|_=>none
theorem zg9q {f:Nat} (h:Am.Sem P f [] (.bool true)):(Con.pure z7wg).Sound P f:=by
 intro args v e
 unfold z7wg at e
 split at e
 ·simp at e; subst e; exact h
 ·simp at e
end
section
set_option linter.unusedSimpArgs false
set_option linter.unusedVariables false
open Go Go.Am
structure LG where
 ns:List UInt8
 im:List UInt8
 want:Int
 least:Int
 down:Int
 ci:Nat
 ch:List Dg
def LG.c (g:LG):List DV:=zlt4 ⟨g.ns,g.im,g.want,g.least,g.down⟩ (.ms g.ci (g.ch.length*32) 0 32 g.ch.length (g.ch.length*32))
def LG.f (g:LG):Grp:=⟨g.ns,g.im,g.want,g.least,g.down,own g.ch⟩
def chV (t:Tp) (x:Sl Dg):List Dg:=(zz63 x ((tpN (t.adv 5) 3).toNat+1) (t.adv 6) []).1
def gLv (ci:Nat) (t:Tp) (x:Sl Dg):LG:=⟨zzh5 t [[112,114,111,100],[116,101,115,116]],zzh5 (t.adv 1) [[119,101,98],[100,98]],tpN (t.adv 2) 4,tpN (t.adv 3) (tpN (t.adv 2) 4+1),tpN (t.adv 4) (tpN (t.adv 2) 4+1),ci,chV t x⟩
theorem zrj8 {ci:Nat} {t:Tp} {x:Sl Dg}:(gLv ci t x).f=(zlt0 t x).1:=rfl
def zedx (t:Tp) (x:Sl Dg):List AObj:=[.cells (gLv 4 t x).c,.cells (gLv 4 t x).c,.cells (dgC (gOne x (t.adv 6)).1),.cells ((gLv 4 t x).ch.flatMap dgC)]
theorem zuvq (t:Tp) (x:Sl Dg) (ht:t.at_<3999999000) (hx:1≤x.l.length):RunsH T160 a19 [.mp 0 2 0,x.dv 32 dgC] [.cells (tpC t)] (.agg (gLv 4 t x).c) (.cells (tpC (zlt0 t x).2)::zedx t x):=by
 refine ⟨?_⟩
 have n1:=z4rs (t.adv 2) 4
 have n2:=z2s7 (t.adv 2) (n:=4) (by omega)
 have n5:=z4rs (t.adv 5) 3
 have n6:=z2s7 (t.adv 5) (n:=3) (by omega)
 unfold gLv zedx gLv chV zlt0
 obtain ⟨r,hr⟩ : ∃ r,zz63 x ((tpN (t.adv 5) 3).toNat+1) (t.adv 6) []=r:=⟨_,rfl⟩
 rw [hr]
 obtain ⟨w,hw⟩ : ∃ w,tpN (t.adv 2) 4=w:=⟨_,rfl⟩
 rw [hw] at n1 n2 ⊢
 obtain ⟨N,hN⟩ : ∃ N:Nat,tpN (t.adv 5) 3=N:=⟨_,(y09 n5).symm⟩
 rw [hN,y0d] at hr
 rw [hN] at n6
 obtain ⟨le,hle⟩ : ∃ w',tpN (t.adv 3) (w+1)=w':=⟨_,rfl⟩
 obtain ⟨dn,hdn⟩ : ∃ w',tpN (t.adv 4) (w+1)=w':=⟨_,rfl⟩
 rw [hle,hdn]
 simp (disch:=first|omega|simp<;>omega|fail) [-zA,-zB,-zC,-zD,-zE,a19,zb2f,zomg,zztn,z44h,hw,hN,zjmf,hle,hdn,z31o,zg14]
 refine zlm5 (S160 ⟨zzh5 t [[112,114,111,100],[116,101,115,116]],zzh5 (t.adv 1) [[119,101,98],[100,98]],w,le,dn⟩ x) (fun a=>a.k) (fun a=>zz63 x a.k a.t a.l=r∧a.t.at_+3*a.k<4000000000∧a.l.length+a.k≤4∧(a.l=[]→1≤a.k)∧(a.l=[]→a.t=t.adv 6)∧(a.l≠[]→a.d=(gOne x (t.adv 6)).1)) ⟨N+1,t.adv 6,[],dg0⟩ ?_ ?_ (fun a ha => ?_)
 ·rw [S160,z1yk rfl]
  exact z515 (by simp (disch:=first|omega|simp<;>omega|fail) [-zA,-zB,-zC,-zD,-zE,z0ci]) (by simp (disch:=first|omega|simp<;>omega|fail) [-zA,-zB,-zC,-zD,-zE,zlt4,z18d])
 ·exact ⟨hr,by simp; omega,by simp; omega,fun _=>by simp,fun _=>rfl,fun e=>absurd rfl e⟩
 obtain ⟨k,u,l,d0⟩:=a
 obtain ⟨h1,h2,h3,h4,h5,h6⟩:=ha
 simp only at h1 h2 h3 h4 h5 h6
 cases k with
 | zero =>
  have hl:l≠[]:=fun e=>by have:=h4 e; omega
  rw [S160,zju3 hl]
  have e:r=(l,u):=h1.symm
  subst e
  have hlen:=z1rq z1t1 l
  have hpl:=zp6k z3ot l
  have htk:(l.flatMap dgC).take (l.length*32)=l.flatMap dgC:=y00 (by omega)
  have h7:=h6 hl
  subst h7
  simp (disch:=first|omega|simp<;>omega|fail) [-zA,-zB,-zC,-zD,-zE,zihe,z0ci,zlt4,z18d,znj4,zg14,LG.c]
 | succ k =>
 have m1:=z4rs (u.adv 2) x.l.length
 have m2:=z2s7 (u.adv 2) (n:=x.l.length) (by omega)
 obtain ⟨M,hM⟩ : ∃ M:Nat,tpN (u.adv 2) x.l.length=M:=⟨_,(y09 m1).symm⟩
 have hMl:M<x.l.length:=by omega
 have hxb:=x.b
 have hget : ∀ H,zpsc H 32 (x.dv 32 dgC) M=some (.ref (dgC x.l[M])):=fun H=>zalo z1t1 hMl
 have hx0:0<x.l.length:=by omega
 have hx0':(0:Int)<x.l.length:=by omega
 have hk1:((k+1:Nat):Int)-1=k:=by omega
 have h1':zz63 x k (gOne x u).2 (gAdd l (gOne x u).1)=r:=h1
 by_cases hl:l=[]
 ·rw [S160,z1yk hl]
  subst hl
  have hh : ∀ d,cDgs hasB [.nils,.agg (dgC d)]=some (.bool false):=fun d=>by
   have:=ztlh (g:=hasB) (x:=⟨none,[],fun _=>rfl,by simp⟩) (d:=d)
   exact this.trans (by simp [hasB])
  by_cases hb:0<tpN (u.adv 1) 6
  ·have hone:gOne x u=(x.l[M],u.adv 3):=by rw [gOne,if_pos hb,hM,y0d,y0f,y0b hMl]; rfl
   rw [hone] at h1'
   simp (disch:=first|omega|simp<;>omega|fail) [-zA,-zB,-zC,-zD,-zE,zihe,z0ci,z3k3,zb2f,zcl1,zliq,z44h,zjmf,hx0,hx0',hb,hM,hget,zlt4,hh,zbcp]
   refine ⟨⟨k,u.adv 3,[x.l[M]],x.l[M]⟩,?_,by simp,by simpa [gAdd] using h1',by simp; omega,by simp; omega,fun e=>by simp at e,fun e=>by simp at e,fun _=>by rw [← h5 rfl,hone]⟩
   rw [S160,zju3 (by simp)]
   exact z515 (by simp (disch:=first|omega|simp<;>omega|fail) [-zA,-zB,-zC,-zD,-zE,z0ci]) (by simp (disch:=first|omega|simp<;>omega|fail) [-zA,-zB,-zC,-zD,-zE,zlt4])
  ·have hone:gOne x u=((sumV u),u.adv 2):=by rw [gOne,if_neg hb]
   rw [hone] at h1'
   simp (disch:=first|omega|simp<;>omega|fail) [-zA,-zB,-zC,-zD,-zE,zihe,z0ci,z3k3,zb2f,zcl1,zliq,z44h,zjmf,hx0,hx0',hb,hM,hget,zlt4,hh,zbcp]
   refine ⟨⟨k,u.adv 2,[(sumV u)],(sumV u)⟩,?_,by simp,by simpa [gAdd] using h1',by simp; omega,by simp; omega,fun e=>by simp at e,fun e=>by simp at e,fun _=>by rw [← h5 rfl,hone]⟩
   rw [S160,zju3 (by simp)]
   exact z515 (by simp (disch:=first|omega|simp<;>omega|fail) [-zA,-zB,-zC,-zD,-zE,z0ci]) (by simp (disch:=first|omega|simp<;>omega|fail) [-zA,-zB,-zC,-zD,-zE,zlt4])
 ·rw [S160,zju3 hl]
  have hl32:l.length≤4294967296:=by omega
  have hlen:=z1rq z1t1 l
  have hpl:=zp6k z3ot l
  have htk:(l.flatMap dgC).take (l.length*32)=l.flatMap dgC:=y00 (by omega)
  have hsn : ∀ H j,z4tt H j (l.flatMap dgC)=some (l.flatMap dgC):=fun H j=>z619 hpl
  by_cases hb:0<tpN (u.adv 1) 6
  ·have hone:gOne x u=(x.l[M],u.adv 3):=by rw [gOne,if_pos hb,hM,y0d,y0f,y0b hMl]; rfl
   rw [hone] at h1'
   have hh:cDgs hasB [.sl false 32 l.length (l.flatMap dgC),.agg (dgC x.l[M])]=some (.bool (decide (x.l[M] ∈ l))) :=
    ztlh (g:=hasB) (x:=⟨some false,l,fun e=>by simp at e,hl32⟩) (d:=x.l[M])
   by_cases hm:x.l[M] ∈ l
   ·simp (disch:=first|omega|simp<;>omega|fail) [-zA,-zB,-zC,-zD,-zE,zihe,z0ci,z3k3,zb2f,zcl1,zliq,z44h,zjmf,hx0,hx0',hb,hM,hget,zlt4,hh,zbcp,hlen,hpl,htk,hsn,hm]
    refine ⟨⟨k,u.adv 3,l,d0⟩,?_,by simp,by simpa [gAdd,hm] using h1',by simp; omega,by simp; omega,fun e=>absurd e hl,fun e=>absurd e hl,fun _=>h6 hl⟩
    rw [S160,zju3 hl]
    exact zju2 (tail:=[.cells (dgC x.l[M])]) (by simp (disch:=first|omega|simp<;>omega|fail) [-zA,-zB,-zC,-zD,-zE,z0ci]) (by simp (disch:=first|omega|simp<;>omega|fail) [-zA,-zB,-zC,-zD,-zE,zlt4]) (by simp) (by simp [Am.belowL,Am.below]) (by simp [zlf2,Am.belowL,Am.below,zmq5 _ _ (zs7w _),zmq5 _ _ hpl,zmq5 _ _ (zg0c hpl (z3ot _)),z18d,zlt4])
   ·simp (disch:=first|omega|simp<;>omega|fail) [-zA,-zB,-zC,-zD,-zE,zihe,z0ci,z3k3,zb2f,zcl1,zliq,z44h,zjmf,hx0,hx0',hb,hM,hget,zlt4,hh,zbcp,hlen,hpl,htk,hsn,hm]
    refine ⟨⟨k,u.adv 3,l++[x.l[M]],d0⟩,?_,by simp,by simpa [gAdd,hm] using h1',by simp; omega,by simp; omega,fun e=>by simp at e,fun e=>by simp at e,fun _=>h6 hl⟩
    rw [S160,zju3 (by simp)]
    exact zju2 (tail:=[.cells (dgC x.l[M])]) (by simp (disch:=first|omega|simp<;>omega|fail) [-zA,-zB,-zC,-zD,-zE,z0ci]) (by simp (disch:=first|omega|simp<;>omega|fail) [-zA,-zB,-zC,-zD,-zE,zlt4,y0n]) (by simp) (by simp [Am.belowL,Am.below]) (by simp [zlf2,Am.belowL,Am.below,zmq5 _ _ (zs7w _),zmq5 _ _ hpl,zmq5 _ _ (zg0c hpl (z3ot _)),z18d,zlt4])
  ·have hone:gOne x u=((sumV u),u.adv 2):=by rw [gOne,if_neg hb]
   rw [hone] at h1'
   have hh:cDgs hasB [.sl false 32 l.length (l.flatMap dgC),.agg (dgC (sumV u))]=some (.bool (decide ((sumV u) ∈ l))) :=
    ztlh (g:=hasB) (x:=⟨some false,l,fun e=>by simp at e,hl32⟩) (d:=(sumV u))
   by_cases hm:(sumV u) ∈ l
   ·simp (disch:=first|omega|simp<;>omega|fail) [-zA,-zB,-zC,-zD,-zE,zihe,z0ci,z3k3,zb2f,zcl1,zliq,z44h,zjmf,hx0,hx0',hb,hM,hget,zlt4,hh,zbcp,hlen,hpl,htk,hsn,hm]
    refine ⟨⟨k,u.adv 2,l,d0⟩,?_,by simp,by simpa [gAdd,hm] using h1',by simp; omega,by simp; omega,fun e=>absurd e hl,fun e=>absurd e hl,fun _=>h6 hl⟩
    rw [S160,zju3 hl]
    exact zju2 (tail:=[.cells (dgC (sumV u))]) (by simp (disch:=first|omega|simp<;>omega|fail) [-zA,-zB,-zC,-zD,-zE,z0ci]) (by simp (disch:=first|omega|simp<;>omega|fail) [-zA,-zB,-zC,-zD,-zE,zlt4]) (by simp) (by simp [Am.belowL,Am.below]) (by simp [zlf2,Am.belowL,Am.below,zmq5 _ _ (zs7w _),zmq5 _ _ hpl,zmq5 _ _ (zg0c hpl (z3ot _)),z18d,zlt4])
   ·simp (disch:=first|omega|simp<;>omega|fail) [-zA,-zB,-zC,-zD,-zE,zihe,z0ci,z3k3,zb2f,zcl1,zliq,z44h,zjmf,hx0,hx0',hb,hM,hget,zlt4,hh,zbcp,hlen,hpl,htk,hsn,hm]
    refine ⟨⟨k,u.adv 2,l++[(sumV u)],d0⟩,?_,by simp,by simpa [gAdd,hm] using h1',by simp; omega,by simp; omega,fun e=>by simp at e,fun e=>by simp at e,fun _=>h6 hl⟩
    rw [S160,zju3 (by simp)]
    exact zju2 (tail:=[.cells (dgC (sumV u))]) (by simp (disch:=first|omega|simp<;>omega|fail) [-zA,-zB,-zC,-zD,-zE,z0ci]) (by simp (disch:=first|omega|simp<;>omega|fail) [-zA,-zB,-zC,-zD,-zE,zlt4,y0n]) (by simp) (by simp [Am.belowL,Am.below]) (by simp [zlf2,Am.belowL,Am.below,zmq5 _ _ (zs7w _),zmq5 _ _ hpl,zmq5 _ _ (zg0c hpl (z3ot _)),z18d,zlt4])
theorem z76k {id n ci:Nat} {t:Tp} {x:Sl Dg}:rnL id n (gLv (ci+1) t x).c=(gLv (n+ci) t x).c:=by
 simp only [LG.c,gLv,zlt4,zuoj,zjqi,zu07,z72s,z8s4]
def ze6j (n:Nat) (t:Tp) (x:Sl Dg):List AObj:=[.cells (gLv (n+3) t x).c,.cells (gLv (n+3) t x).c,.cells (dgC (gOne x (t.adv 6)).1),.cells ((gLv 0 t x).ch.flatMap dgC)]
noncomputable def cGrL:List DV→List AObj→Option (DV × List AObj):=z92l (fun a:Tp × Sl Dg=>a.1.at_<3999999000∧1≤a.2.l.length) (fun a=>[a.2.dv 32 dgC]) (fun a=>tpC a.1) (fun a=>(.agg (gLv 4 a.1 a.2).c,tpC (zlt0 a.1 a.2).2,zedx a.1 a.2))
theorem zjti {t:Tp} {x:Sl Dg} {h:List AObj} {id:Nat} (h1:t.at_<3999999000) (h2:1≤x.l.length) (ho:ziu0 h id=some (tpC t)):cGrL [.mp id 2 0,x.dv 32 dgC] h=some (.agg (gLv (h.length+3) t x).c,h.set id (.cells (tpC (zlt0 t x).2))++ze6j h.length t x):=by
 have:=zkrg (A:=fun a:Tp × Sl Dg=>a.1.at_<3999999000∧1≤a.2.l.length) (f:=fun a=>[a.2.dv 32 dgC]) (s:=fun a=>tpC a.1) (g:=fun a=>(.agg (gLv 4 a.1 a.2).c,tpC (zlt0 a.1 a.2).2,zedx a.1 a.2)) (by
  rintro ⟨a,n⟩ ⟨b,m⟩ e1 e2
  simp only [List.cons.injEq,and_true] at e1
  rw [z42k e1,z15z e2]) (t,x) ⟨h1,h2⟩ (h:=h) (id:=id) (ver:=2) ho rfl
 refine Eq.trans this ?_
 simp only [z0nr,z76k,zmhl _ _ _ (zs7w _),zedx,ze6j,y0x,List.map_nil,z638,zmhl _ _ _ (z3ot _),zmhl _ _ _ (zp6k z3ot _)]
 rfl
theorem zgd2:(Con.heap cGrL).Sound P 19 :=
 zonn (fun a _=>⟨by simp [zbao],zs7w _⟩) fun a h=>zv22 mix zqob Tryd.func19 zlqi (zuvq a.1 a.2 h.1 h.2)
end
section
set_option linter.unusedSimpArgs false
set_option linter.unusedVariables false
open Go Go.Am
theorem zrb4 (x:Sl Dg) : ∀ (k:Nat) (t:Tp) (l:List Dg),(zz63 x k t l).2.at_≤t.at_+3*k
 | 0,t,l=>y06 _
 | k+1,t,l=>by
  have h1:=zrb4 x k (gOne x t).2 (gAdd l (gOne x t).1)
  have h2:=ze4v x t
  show (zz63 x k (gOne x t).2 (gAdd l (gOne x t).1)).2.at_≤_
  omega
theorem z4ft (t:Tp) (x:Sl Dg):(zlt0 t x).2.at_≤t.at_+15:=by
 have n5:=z4rs (t.adv 5) 3
 have n6:=z2s7 (t.adv 5) (n:=3) (by omega)
 have:=zrb4 x ((tpN (t.adv 5) 3).toNat+1) (t.adv 6) []
 simp only [zlt0,zpza] at this ⊢
 omega
def zdmg:Sl Dg:=⟨some true,[dgW 1#8,dgW 2#8,dgW 3#8],by simp,by simp⟩
def nilI:Sl Ins:=⟨none,[],fun _=>rfl,by simp⟩
def nilG:Sl Grp:=⟨none,[],fun _=>rfl,by simp⟩
theorem z1ip:zdmg.dv 32 dgC = .sl true 32 3 (dgC (dgW 1#8)++(dgC (dgW 2#8)++dgC (dgW 3#8))):=by simp [zdmg,Sl.dv,slD]
structure DS where
 k:Nat
 c:Clu
 t:Tp
theorem zt3y:bslD 32 3 (dgC dg0) [(0,32,.agg (dgC (dgW 1#8))),(32,32,.agg (dgC (dgW 2#8))),(64,32,.agg (dgC (dgW 3#8)))]=some (zdmg.dv 32 dgC):=by
 rw [z7bw (by simp [DV.known]) (by simp [seqD,DV.cells])]; simp [seqD,DV.cells,zdmg,Sl.dv,slD]
theorem z7ol {n:Int}:zvnk [.nils,.nils,.int .i64 0] [(2,1,.int .i64 n)]=some (.agg [.nils,.nils,.int .i64 n]):=rfl
structure IS where
 k:Nat
 l:List Ins
 n:Int
 t:Tp
 x:Ins
def in0:Ins:=⟨0,0,dg0,0,0,0⟩
theorem zvod:[DV.int .i64 0,.int .i64 0,w8 0#8,w8 0#8,w8 0#8,w8 0#8,w8 0#8,w8 0#8,w8 0#8,w8 0#8,w8 0#8,w8 0#8,w8 0#8,w8 0#8,w8 0#8,w8 0#8,w8 0#8,w8 0#8,w8 0#8,w8 0#8,w8 0#8,w8 0#8,w8 0#8,w8 0#8,w8 0#8,w8 0#8,w8 0#8,w8 0#8,w8 0#8,w8 0#8,w8 0#8,w8 0#8,w8 0#8,w8 0#8,.int .i64 0,.int .i64 0,.int .i64 0]=inC in0:=rfl
theorem zdwi (x:Ins) (v:Int):(inC x).set 36 (.int .i64 v)=inC ⟨x.id,x.grp,x.art,x.state,x.since,v⟩:=by
 have h:=zqxx x
 rw [zdp7,zdp7,y0u _ _ (by omega),h]
 rfl
end
section
set_option linter.unusedSimpArgs false
set_option linter.unusedVariables false
open Go Go.Am
theorem z1f1 {l:List Dg} {d:Dg} (h1:l.Nodup) (h2 : ∀ x ∈ l,x≠dg0) (hd:d≠dg0):(gAdd l d).Nodup∧(∀ x ∈ gAdd l d,x≠dg0):=by
 unfold gAdd
 split
 ·exact ⟨h1,h2⟩
 ·rename_i hn
  refine ⟨List.nodup_append.2 ⟨h1,by simp,fun a ha b hb => ?_⟩,fun x hx => ?_⟩
  ·simp at hb; subst hb; exact fun e=>hn (e▸ha)
  ·rcases List.mem_append.1 hx with h|h
   ·exact h2 x h
   ·simp at h; subst h; exact hd
theorem zfn5 : ∀ x ∈ zdmg.l,x≠dg0:=by
 intro x hx
 simp only [zdmg,y0y,y12,or_false] at hx
 rcases hx with rfl|rfl|rfl<;>decide
theorem zeo1 {x:Sl Dg} (hx : ∀ d ∈ x.l,d≠dg0) (h0:1≤x.l.length) (t:Tp):(gOne x t).1≠dg0:=by
 unfold gOne
 split
 ·have h1:=z4rs (t.adv 2) x.l.length
  have h2:=z2s7 (t.adv 2) (n:=x.l.length) (by omega)
  have h3:(tpN (t.adv 2) x.l.length).toNat<x.l.length:=by omega
  simp only [y0f,y0b h3,Option.getD_some]
  exact hx _ (y08 h3)
 ·exact z7d3 t
theorem zqz7 {x:Sl Dg} (hx : ∀ d ∈ x.l,d≠dg0) (h0:1≤x.l.length) : ∀ (k:Nat) (t:Tp) (l:List Dg),l.Nodup→(∀ d ∈ l,d≠dg0)→(zz63 x k t l).1.Nodup∧(∀ d ∈ (zz63 x k t l).1,d≠dg0)∧(zz63 x k t l).1.length≤l.length+k
 | 0,t,l,h1,h2=>⟨h1,h2,y06 _⟩
 | k+1,t,l,h1,h2=>by
  obtain ⟨g1,g2⟩:=z1f1 h1 h2 (zeo1 hx h0 t)
  obtain ⟨k1,k2,k3⟩:=zqz7 hx h0 k (gOne x t).2 (gAdd l (gOne x t).1) g1 g2
  have:=z3m3 l (gOne x t).1
  exact ⟨k1,k2,by show (zz63 x k (gOne x t).2 (gAdd l (gOne x t).1)).1.length≤_; omega⟩
theorem zw8p {l:List Dg} (h1:l.Nodup) (h2 : ∀ d ∈ l,d≠dg0):okCh l:=by
 intro i hi
 refine ⟨h2 _ (y08 hi),fun hm => ?_⟩
 obtain ⟨j,hj,e⟩:=y0w hm
 simp at hj
 rw [List.getElem_take] at e
 have:=(List.getElem_inj (xs:=l) (i:=j) (j:=i) (h₀:=by omega) (h₁:=hi) h1).1 e
 omega
theorem ztyj {t:Tp} {a b:List UInt8} (ha:zj1f a=true) (hb:zj1f b=true):zj1f (zzh5 t [a,b])=true:=by
 have:=zqrp t (l:=[a,b]) (by simp)
 simp only [y0y,y12,or_false] at this
 rcases this with e|e<;>rw [e]<;>assumption
theorem zjze (t:Tp) {x:Sl Dg} (hx : ∀ d ∈ x.l,d≠dg0) (h0:1≤x.l.length):ValidG (zlt0 t x).1:=by
 have n1:=z4rs (t.adv 2) 4
 have n2:=z2s7 (t.adv 2) (n:=4) (by omega)
 have n3:=z4rs (t.adv 3) (tpN (t.adv 2) 4+1)
 have n4:=z2s7 (t.adv 3) (n:=tpN (t.adv 2) 4+1) (by omega)
 have n5:=z4rs (t.adv 4) (tpN (t.adv 2) 4+1)
 have n6:=z2s7 (t.adv 4) (n:=tpN (t.adv 2) 4+1) (by omega)
 have n7:=z4rs (t.adv 5) 3
 have n8:=z2s7 (t.adv 5) (n:=3) (by omega)
 obtain ⟨k1,k2,k3⟩:=zqz7 hx h0 ((tpN (t.adv 5) 3).toNat+1) (t.adv 6) [] (by simp) (by simp)
 simp only [y15] at k3
 have hl:(zlt0 t x).1.ch.l=(zz63 x ((tpN (t.adv 5) 3).toNat+1) (t.adv 6) []).1:=z3e9 (by omega)
 refine ⟨ztyj (by decide) (by decide),ztyj (by decide) (by decide),n1,by show tpN (t.adv 2) 4≤8; omega,n3,by show tpN (t.adv 3) _≤tpN (t.adv 2) 4; omega,n5,by show tpN (t.adv 4) _≤tpN (t.adv 2) 4; omega,by rw [hl]; omega,by rw [hl]; exact zw8p k1 k2⟩
theorem zr8d (g:Grp):fitG g.ns g.im g=true:=by simp [fitG]
theorem z6sw {a b:Grp} (h1:a.ns=b.ns) (h2:a.im=b.im) (ns im:List UInt8):fitG ns im a=fitG ns im b:=by simp [fitG,h1,h2]
structure UG (l:List Grp):Prop where
 n:l.length≤16
 g : ∀ i (h:i<l.length),ValidG l[i]∧z9w0 l l[i].ns l[i].im=i
theorem zlgs {l:List Grp} {g:Grp} (h:UG l) (hg:ValidG g) (hx:z9w0 l g.ns g.im<0) (hn:l.length<16):UG (l++[g]):=by
 refine ⟨by simp; omega,fun i hi => ?_⟩
 simp only [y07,y05] at hi
 by_cases hil:i<l.length
 ·rw [y0j hil]
  obtain ⟨g1,g2⟩:=h.g i hil
  refine ⟨g1,zy9u (by simp; omega) ?_ (fun j hj hji => ?_)⟩
  ·rw [y0j hil]; exact zr8d _
  ·rw [y0j (by omega)]
   obtain ⟨k,hk,e1,e2,e3⟩:=zgr5 (p:=fitG l[i].ns l[i].im) (l:=l) (by rw [show ixI (fitG l[i].ns l[i].im) l=(i:Int) from g2]; omega)
   have:k=i:=by
    have:ixI (fitG l[i].ns l[i].im) l=(i:Int):=g2
    omega
   subst this
   exact e3 j (by omega) hji
 ·have e:i=l.length:=by omega
  subst e
  rw [y10 (y06 _)]
  simp only [y0r,y0s]
  refine ⟨hg,zy9u (by simp) ?_ (fun j hj hji => ?_)⟩
  ·rw [y10 (y06 _)]; simp only [y0r,y0s]; exact zr8d _
  ·rw [y0j hji]; exact z378 hx j hji
theorem zaam {l l':List Grp} (hl:l.length=l'.length) (h : ∀ i (h1:i<l.length) (h2:i<l'.length),l[i].ns=l'[i].ns∧l[i].im=l'[i].im) (ns im:List UInt8):z9w0 l ns im=z9w0 l' ns im:=by
 by_cases hx:0≤z9w0 l ns im
 ·obtain ⟨k,hk,e1,e2,e3⟩:=zgr5 hx
  have e1:z9w0 l ns im=k:=e1
  rw [e1]
  refine (zy9u (by omega) ?_ (fun j hj hji => ?_)).symm
  ·rw [← z6sw (h k hk (by omega)).1 (h k hk (by omega)).2]; exact e2
  ·rw [← z6sw (h j (by omega) hj).1 (h j (by omega) hj).2]; exact e3 j (by omega) hji
 ·have h1:=zkgb (fitG ns im) l
  have h2:z9w0 l ns im = -1:=by have:z9w0 l ns im=ixI (fitG ns im) l:=rfl; omega
  rw [h2]
  refine (zfki fun j hj => ?_).symm
  rw [← z6sw (h j (by omega) hj).1 (h j (by omega) hj).2]
  exact z378 (show ixI (fitG ns im) l<0 by have:z9w0 l ns im=ixI (fitG ns im) l:=rfl; omega) j (by omega)
theorem z3at {l:List Grp} {g:Grp} {k:Nat} (h:UG l) (hg:ValidG g) (hk:k<l.length) (hx:z9w0 l g.ns g.im=k):UG (l.set k g):=by
 have hf:fitG g.ns g.im l[k]=true:=by
  obtain ⟨j,hj,e1,e2,e3⟩:=zgr5 (p:=fitG g.ns g.im) (l:=l) (by rw [show ixI (fitG g.ns g.im) l=(k:Int) from hx]; omega)
  have:j=k:=by have:ixI (fitG g.ns g.im) l=(k:Int):=hx; omega
  subst this; exact e2
 have hnm:l[k].ns=g.ns∧l[k].im=g.im:=by simpa [fitG] using hf
 have hn : ∀ i (h1:i<(l.set k g).length) (h2:i<l.length),(l.set k g)[i].ns=l[i].ns∧(l.set k g)[i].im=l[i].im:=fun i h1 h2=>by
  rw [y13]
  split
  ·rename_i e; subst e; exact ⟨hnm.1.symm,hnm.2.symm⟩
  ·exact ⟨rfl,rfl⟩
 refine ⟨by simpa using h.n,fun i hi => ?_⟩
 have hi':i<l.length:=by simpa using hi
 obtain ⟨n1,n2⟩:=hn i hi hi'
 refine ⟨?_,?_⟩
 ·rw [y13]
  split
  ·exact hg
  ·exact (h.g i hi').1
 ·rw [n1,n2,zaam (by simp) hn]; exact (h.g i hi').2
structure CG (c:Clu):Prop where
 u:UG c.g.l
 i:c.i=nilI
 n0:1≤c.next
 n1:c.next≤4
theorem CG.valid {c:Clu} (h:CG c):ValidC c:=⟨h.u.n,by rw [h.i]; simp [nilI],h.n0,by have:=h.n1; omega,h.u.g,fun i hi=>by rw [h.i] at hi; simp [nilI] at hi⟩
structure IG (ng:Nat) (l:List Ins) (n:Int):Prop where
 s : ∀ x ∈ l,SoundI ng n x
 o:l.Pairwise fun a b=>a.id<b.id
theorem SoundI.up {ng:Nat} {n m:Int} {x:Ins} (h:SoundI ng n x) (hm:n≤m):SoundI ng m x:=⟨h.id0,by have:=h.id1; omega,h.g0,h.g1,h.art,h.s0,h.s1,h.si,h.de⟩
end
section
set_option linter.unusedSimpArgs false
set_option linter.unusedVariables false
open Go Go.Am
theorem hV0 {h r:List AObj} {ver:Nat}:objV (h++r) h.length ver=objV r 0 ver:=by
 unfold objV ziu0; rw [y0g (by omega),y0r]
theorem hVj {h r:List AObj} {j ver:Nat}:objV (h++r) (h.length+j) ver=objV r j ver:=by
 unfold objV ziu0; rw [y0g (by omega),y0c]
theorem hS0 {h r:List AObj} {o:AObj}:(h++r).set h.length o=h++r.set 0 o:=by rw [y0u _ _ (by omega),y0r]
theorem hSj {h r:List AObj} {j:Nat} {o:AObj}:(h++r).set (h.length+j) o=h++r.set j o:=by rw [y0u _ _ (by omega),y0c]
theorem z5qo {h:List AObj} {k:Nat} : ∀ {a b a' b':List DV},z4tt h k a=some a'→z4tt h k b=some b'→z4tt h k (a++b)=some (a'++b')
 | [],b,a',b',h1,h2=>by simp only [zfu7,Option.some.injEq] at h1; subst h1; exact h2
 | x::a,b,a',b',h1,h2=>by
  rw [zrz6] at h1
  obtain ⟨y,e1,h1⟩:=y0k.1 h1
  obtain ⟨r,e2,e3⟩:=y18.1 h1
  subst e3
  rw [List.cons_append,zrz6,e1,y01,z5qo e2 h2]
  rfl
noncomputable def ptH (a0:List DV) (h0:List AObj) (r:DV) (h1:List AObj):List DV→List AObj→Option (DV × List AObj):=open Classical in fun a h=>if a=a0∧h=h0 then some (r,h1) else none
theorem zpvh {a0:List DV} {h0:List AObj} {r:DV} {h1:List AObj}:ptH a0 h0 r h1 a0 h0=some (r,h1):=if_pos ⟨rfl,rfl⟩
theorem zdmv {k:FuncId} {a0:List DV} {h0:List AObj} {r:DV} {h1:List AObj} (hc:zwy1 P k a0 h0 (fun d h=>d=r∧h=h1)):(Con.heap (ptH a0 h0 r h1)).Sound P k:=by
 intro args h v h' e
 unfold ptH at e
 split at e
 ·rename_i q
  obtain ⟨rfl,rfl⟩:=q
  simp only [Option.some.injEq,Prod.mk.injEq] at e
  obtain ⟨rfl,rfl⟩:=e
  exact hc
 ·simp at e
theorem exTH {k:Nat} {a0:List DV} {h0:List AObj} {r:DV} {h1:List AObj} {T:Tbl} (hs:T.Sound P) (hc:zwy1 P k a0 h0 (fun d h=>d=r∧h=h1)) :
  ∃ (T':Tbl) (f:List DV→List AObj→Option (DV × List AObj)),T'.Sound P∧T' k = .heap f∧f a0 h0=some (r,h1) ∧ ∀ j,j≠k→T' j=T j :=
 ⟨addT k (.heap (ptH a0 h0 r h1)) T,ptH a0 h0 r h1,z0rp (zdmv hc) hs,by simp [addT],zpvh,fun j hj=>by simp [addT,hj]⟩
def lgs (gs:List LG):List DV:=gs.flatMap LG.c
theorem zd3f (g:LG):g.c.length=6:=rfl
theorem zyc3 (gs:List LG):(lgs gs).length=gs.length*6:=z1rq zd3f gs
def gvD (G:Nat) (gs:List LG):DV:=if gs=[] then .nils else .ms G (gs.length*6) 0 6 gs.length (gs.length*6)
def gvC (G:Nat) (gs:List LG):DV:=gvD G gs
theorem zitk {G:Nat} {gs:List LG} (h:gs=[]):gvD G gs = .nils:=if_pos h
theorem z0on {G:Nat} {gs:List LG} (h:gs≠[]):gvD G gs = .ms G (gs.length*6) 0 6 gs.length (gs.length*6):=if_neg h
theorem zajz {G:Nat} {gs:List LG}:(gvD G gs).one=true:=by unfold gvD; split<;>rfl
theorem z7y2 {G:Nat} {gs:List LG}:(gvD G gs).cells=[gvD G gs]:=by unfold gvD; split<;>rfl
theorem zfgs {G:Nat} {gs:List LG}:(gvD G gs).known=true:=by unfold gvD; split<;>rfl
theorem zzny {G:Nat} {gs:List LG}:(gvC G gs).one=true:=zajz
theorem zjfv {G:Nat} {gs:List LG}:(gvC G gs).cells=[gvC G gs]:=z7y2
theorem zqev {G:Nat} {gs:List LG}:(gvC G gs).known=true:=zfgs
attribute [simp] zajz z7y2 zfgs zzny zjfv zqev
structure LgO (h:List AObj) (g:LG):Prop where
 o:ziu0 h g.ci=some (g.ch.flatMap dgC)
 ne:g.ch≠[]
 n:g.ch.length≤1000
structure GsO (h:List AObj) (G:Nat) (gs:List LG):Prop where
 o:gs≠[]→ziu0 h G=some (lgs gs)
 g : ∀ x ∈ gs,LgO h x
 n:gs.length≤20
theorem zl74 {h r:List AObj} {id:Nat} {l:List DV} (e:ziu0 h id=some l):ziu0 (h++r) id=some l:=by
 have:=z7ba e
 unfold ziu0 at e ⊢
 rw [List.getElem?_append_left this]; exact e
theorem LgO.app {h:List AObj} {g:LG} (q:LgO h g) (r:List AObj):LgO (h++r) g:=⟨zl74 q.o,q.ne,q.n⟩
theorem GsO.app {h:List AObj} {G:Nat} {gs:List LG} (q:GsO h G gs) (r:List AObj):GsO (h++r) G gs:=⟨fun e=>zl74 (q.o e),fun x hx=>(q.g x hx).app r,q.n⟩
theorem GsO.objV {h:List AObj} {G:Nat} {gs:List LG} (q:GsO h G gs) (e:gs≠[]):objV h G (gs.length*6)=some (lgs gs):=zw28 (q.o e) (zyc3 gs)
theorem GsO.len {h:List AObj} {G:Nat} {gs:List LG} (q:GsO h G gs):lenD h (gvD G gs)=some (.int .i64 gs.length):=by
 by_cases e:gs=[]
 ·rw [zitk e,e]; rfl
 ·rw [z0on e,z59c,q.objV e]; rfl
theorem GsO.visY {h:List AObj} {G:Nat} {gs:List LG} (q:GsO h G gs):visY h (gvD G gs)=some (gs.length,lgs gs):=by
 by_cases e:gs=[]
 ·rw [zitk e,e]; rfl
 ·rw [z0on e,z24a,q.objV e,y02,y04,y00 (by rw [zyc3]; exact y06 _)]
theorem LgO.snap {h:List AObj} {g:LG} (q:LgO h g) (k:Nat):z4tt h (k+1) g.c=some (grC g.f):=by
 have hn:=q.n
 have hl:(g.ch.flatMap dgC).length=g.ch.length*32:=z1rq z1t1 _
 have e1:(own g.ch).dv 32 dgC = .sl false 32 g.ch.length (g.ch.flatMap dgC):=zqrs (by omega)
 simp only [LG.c,zlt4,zrz6,zfu7,zpcv,zdef,zve7,zw28 q.o hl,y01,y02,y04]
 rw [y00 (by omega),z619 (zp6k z3ot _)]
 simp only [y02,y01,grC,LG.f,e1]
theorem zskz {h:List AObj} {k:Nat} : ∀ {gs:List LG},(∀ x ∈ gs,LgO h x)→z4tt h (k+1) (lgs gs)=some ((gs.map LG.f).flatMap grC)
 | [],_=>rfl
 | g::gs,q=>z5qo ((q g (by simp)).snap k) (zskz fun x hx=>q x (by simp [hx]))
def gsF (gs:List LG):Sl Grp:=if gs=[] then nilG else own (gs.map LG.f)
theorem zesr {gs:List LG} (h:gs.length≤1000):(gsF gs).l=gs.map LG.f:=by
 unfold gsF
 split
 ·rename_i e; rw [e]; rfl
 ·exact z3e9 (by simp; omega)
theorem GsO.snap {h:List AObj} {G:Nat} {gs:List LG} (q:GsO h G gs) (k:Nat):snap h (k+2) (gvD G gs)=some ((gsF gs).dv 6 grC):=by
 by_cases e:gs=[]
 ·rw [zitk e,gsF,if_pos e,z7d7]; rfl
 ·have hn:=q.n
  rw [z0on e,gsF,if_neg e,zve7,q.objV e,y01,y04,y00 (by rw [zyc3]; exact y06 _),zskz q.g,zqrs (by simp; omega)]
  simp
def gsN (gs:List LG):List AObj:=if gs=[] then [] else [.cells (lgs gs)]
def cpL (a b:DV) (n:Int) (gs:List LG):List AObj := .cells [a,.nils,.int .i64 n] :: .cells [b,.nils,.int .i64 n]::gsN gs
theorem z0bz {H:List AObj} {G:Nat} {gs:List LG} (q:GsO H G gs) (n:Int) :
  RunsH tbl0 a44 [.agg [gvD G gs,.nils,.int .i64 n]] H (.agg [gvC (H.length+2) gs,.nils,.int .i64 n]) (H++cpL (gvD G gs) (gvC (H.length+2) gs) n gs):=by
 refine ⟨?_⟩
 have hn:=q.n
 have v1:=fun r=>(q.app r).visY
 have l1:=zyc3 gs
 by_cases hg:gs=[]
 ·have e1 : ∀ id,gvC id gs = .nils:=fun id=>zitk hg
  have e3:gs.length=0:=by rw [hg]; rfl
  have e4:lgs gs=[]:=by rw [hg]; rfl
  have e5:gsN gs=[]:=if_pos hg
  rw [e3,e4] at v1
  simp (disch:=first|omega|simp<;>omega|fail) [-zA,-zB,-zC,-zD,-zE,a44,cpL,e5,v1,e1,zfgs,z7y2,zajz,zlwt,hV0,hVj,hS0,hSj]
 ·have e1 : ∀ id,gvC id gs = .ms id (gs.length*6) 0 6 gs.length (gs.length*6):=fun id=>z0on hg
  have e3:0<gs.length:=y0o.2 hg
  have e5:gsN gs=[.cells (lgs gs)]:=if_neg hg
  simp (disch:=first|omega|simp<;>omega|fail) [-zA,-zB,-zC,-zD,-zE,a44,cpL,e5,v1,e1,e3,l1,zfgs,z7y2,zajz,zlwt,hV0,hVj,hS0,hSj]
end
section
set_option linter.unusedSimpArgs false
set_option linter.unusedVariables false
open Go Go.Am
noncomputable def T440:Tbl:=addT 10 (.pure (cC1 zwdn)) (addT 12 (.pure (cG1 zoy9)) (addT 22 (.pure (cCSS grpD)) tbl0))
theorem z6ck:T440.Sound P:=z0rp (z2au fun x _=>zljw mix zwqh Tryd.func10 z1ee (zkeg x)) (z0rp (z2au fun x _=>zljw mix zp0j Tryd.func12 zqkh (zwe9 x)) (z0rp (z2au fun x _=>zljw mix zr5o Tryd.func22 zi98 (zfav x.1 x.2.1 x.2.2)) zr5o))
def depL (gs:List LG) (g:LG):List LG:=if z9w0 (gs.map LG.f) g.ns g.im<0 then gs++[g] else gs.set (z9w0 (gs.map LG.f) g.ns g.im).toNat g
def cFr (gs:List LG) (n:Int):Clu:=⟨gsF gs,nilI,n⟩
theorem z5tw {h:List AObj} {G:Nat} {gs:List LG} (q:GsO h G gs) (n:Int):z4tt h 3 [.agg [gvD G gs,.nils,.int .i64 n]]=some [.agg (clC (cFr gs n))]:=by
 simp only [zrz6,zfu7,zqb3,q.snap 1,z7d7,zdef,y01,y02]
 rfl
theorem zoj0 {G:Nat} {gs:List LG} {n:Int} {r:List DV} (h:gs≠[]):zbao (.agg [gvD G gs,.nils,.int .i64 n]::r)=false:=by
 rw [z0on h]; rfl
theorem z8yw {G:Nat} {n:Int}:[gvD G [],.nils,.int .i64 n]=clC (cFr [] n):=by
 rw [zitk rfl]; rfl
theorem z264 {c:List DV→Option DV} {h:List AObj} {G:Nat} {gs:List LG} (q:GsO h G gs) {n:Int} {v:DV} (e:c [.agg (clC (cFr gs n))]=some v) (hs:scal v=true):zyo0 c [.agg [gvD G gs,.nils,.int .i64 n]] h=some v:=by
 by_cases hg:gs=[]
 ·subst hg
  rw [z8yw,z7h3 (by simp only [zbao,zyp8,zy11,y1a]),e]
 ·rw [zl41 (zoj0 hg),z5tw q,y01,e,y01,if_pos hs]
theorem zzzs {c:List DV→Option DV} {h:List AObj} {G:Nat} {gs:List LG} (q:GsO h G gs) {n:Int} {a b:List UInt8} {v:DV} (e:c [.agg (clC (cFr gs n)),.str a,.str b]=some v) (hs:scal v=true):zyo0 c [.agg [gvD G gs,.nils,.int .i64 n],.str a,.str b] h=some v:=by
 by_cases hg:gs=[]
 ·subst hg
  rw [z8yw,z7h3 (by simp only [zbao,zyp8,zy11,y1a]),e]
 ·rw [zl41 (zoj0 hg)]
  have e1:=z5tw q n
  simp only [zrz6,zfu7,y02] at e1
  obtain ⟨d,e2,e3⟩:=y0k.1 e1
  simp only [Option.some.injEq,List.cons.injEq,and_true] at e3
  subst e3
  simp only [zrz6,zfu7,e2,zpcv,y01,y02,e]
  rw [if_pos hs]
theorem LgO.agg {h:List AObj} {g:LG} (q:LgO h g):z4tt h 3 [.agg g.c]=some [.agg (grC g.f)]:=by
 simp only [zrz6,zfu7,zqb3,q.snap 2,y01,y02]
theorem zejr {c:List DV→Option DV} {h:List AObj} {g:LG} (q:LgO h g) {v:DV} (e:c [.agg (grC g.f)]=some v) (hs:scal v=true):zyo0 c [.agg g.c] h=some v:=by
 rw [zl41 (by rfl),q.agg,y01,e,y01,if_pos hs]
theorem zdyg {g:LG}:(DV.agg g.c).cells=g.c:=rfl
theorem z8no (g:LG):g.c.all DV.one=true:=rfl
theorem z01d {g:LG}:bslD 6 1 [.str [],.str [],.int .i64 0,.int .i64 0,.int .i64 0,.nils] [(0,6,.agg g.c)]=some (.sl true 6 1 g.c):=by
 have h:(DV.agg g.c).cells=g.c:=rfl
 rw [z7bw (by simp [DV.known]) (by simp [seqD,h,zd3f])]; simp [seqD,h,zd3f]
theorem zfi0 {g:LG}:oneC 6 true g.c=some (.agg g.c):=rfl
theorem zkwy {g:LG}:oneC 1 false g.c=some (.str g.ns):=rfl
theorem za5m {g:LG}:oneC 1 false (g.c.drop 1)=some (.str g.im):=rfl
theorem z2vk {H:List AObj} {G:Nat} {g:LG} {n:Int} (hg:LgO H g) (hv:ValidC (cFr [] n)) (hvg:ValidG g.f) :
  ∃ tail,zwy1 P 18 [.agg [gvD G [],.nils,.int .i64 n],.agg g.c] H (fun d k=>d = .tup [.agg [gvD (H.length+6) [g],.nils,.int .i64 n],.int .i64 0]∧k=H++tail)∧ziu0 (H++tail) (H.length+6)=some (lgs [g]):=by
 have q:GsO H G []:=⟨fun e=>absurd rfl e,by simp,by simp⟩
 have hcp : ∀ r,zwy1 P 44 [.agg [gvD G [],.nils,.int .i64 n]] (H++r) _:=fun r=>zv22 mix zr5o Tryd.func44 zeo7 (z0bz (q.app r) n)
 refine ⟨[.cells [gvD G [],.nils,.int .i64 n],.cells g.c,.cells [gvD (H.length+6) [g],.nils,.int .i64 n],.cells [gvD G [],.nils,.int .i64 n],.cells [.nils,.nils,.int .i64 n],.cells [gvD (H.length+6) [g],.nils,.int .i64 n],.cells g.c],?_,?_⟩
 ·obtain ⟨T,f,hT,t1,t2,t3⟩:=exTH z6ck (hcp [.cells [gvD G [],.nils,.int .i64 n],.cells g.c,.cells [.nils,.nils,.int .i64 0]])
  refine zv22 mix hT Tryd.func18 zt5q ⟨?_⟩
  have T_v:T 10 = .pure (cC1 zwdn):=by rw [t3 _ (by decide)]; simp [T440]
  have T_g:T 12 = .pure (cG1 zoy9):=by rw [t3 _ (by decide)]; simp [T440]
  have T_x:T 22 = .pure (cCSS grpD):=by rw [t3 _ (by decide)]; simp [T440]
  have v1 : ∀ r,zyo0 (cC1 zwdn) [.agg [gvD G [],.nils,.int .i64 n]] (H++r)=some (.bool true):=fun r=>z264 (q.app r) (by rw [zf0o,zwdn,zogs hv]) rfl
  have v2 : ∀ r,zyo0 (cG1 zoy9) [.agg g.c] (H++r)=some (.bool true):=fun r=>zejr (hg.app r) (by rw [zoex,zoy9,zogs hvg]) rfl
  have v3 : ∀ r,zyo0 (cCSS grpD) [.agg [gvD G [],.nils,.int .i64 n],.str g.ns,.str g.im] (H++r)=some (.int .i64 (-1)):=fun r=>zzzs (q.app r) (by rw [zojl]; rfl) rfl
  have v4:=zglo t2
  have v5:=fun r=>(q.app r).len
  have e1 : ∀ id,gvC id [] = .nils:=fun id=>rfl
  have e2 : ∀ id,gvD id [g] = .ms id 6 0 6 1 6:=fun id=>rfl
  have e3:gsN []=[]:=rfl
  have e4 : ∀ H',appX H' 6 80 .nils 1 g.c=some (.ms H'.length 6 0 6 1 6,H'++[.cells g.c]):=fun H'=>zsuq (by omega) (by omega) rfl (by omega) (by omega)
  simp (disch:=first|omega|simp<;>omega|fail) [-zA,-zB,-zC,-zD,-zE,-ztar,zfi0,zkwy,za5m,z01d,cpL,e1,e2,e3,e4,z8no,a18,T_v,T_g,T_x,t1,v1,v2,v3,v4,v5,zfgs,z7y2,zajz,hV0,hVj,hS0,hSj,zdyg,zd3f]
 ·simp [ziu0,lgs]
theorem z65q {H:List AObj} {G:Nat} {gs:List LG} {g:LG} {n:Int} (q:GsO H G gs) (hne:gs≠[]) (h16:gs.length<16) (hg:LgO H g) (hv:ValidC (cFr gs n)) (hvg:ValidG g.f) :
  ∃ tail,zwy1 P 18 [.agg [gvD G gs,.nils,.int .i64 n],.agg g.c] H (fun d k=>d = .tup [.agg [gvD (H.length+5) (depL gs g),.nils,.int .i64 n],.int .i64 0]∧k=H++tail)∧ziu0 (H++tail) (H.length+5)=some (lgs (depL gs g))∧depL gs g≠[]∧(depL gs g).length≤gs.length+1:=by
 have hcp : ∀ r,zwy1 P 44 [.agg [gvD G gs,.nils,.int .i64 n]] (H++r) _:=fun r=>zv22 mix zr5o Tryd.func44 zeo7 (z0bz (q.app r) n)
 obtain ⟨T,f,hT,t1,t2,t3⟩:=exTH z6ck (hcp [.cells [gvD G gs,.nils,.int .i64 n],.cells g.c,.cells [.nils,.nils,.int .i64 0]])
 have T_v:T 10 = .pure (cC1 zwdn):=by rw [t3 _ (by decide)]; simp [T440]
 have T_g:T 12 = .pure (cG1 zoy9):=by rw [t3 _ (by decide)]; simp [T440]
 have T_x:T 22 = .pure (cCSS grpD):=by rw [t3 _ (by decide)]; simp [T440]
 have hgl:(cFr gs n).g.l=gs.map LG.f:=zesr (by omega)
 have v1 : ∀ r,zyo0 (cC1 zwdn) [.agg [gvD G gs,.nils,.int .i64 n]] (H++r)=some (.bool true):=fun r=>z264 (q.app r) (by rw [zf0o,zwdn,zogs hv]) rfl
 have v2 : ∀ r,zyo0 (cG1 zoy9) [.agg g.c] (H++r)=some (.bool true):=fun r=>zejr (hg.app r) (by rw [zoex,zoy9,zogs hvg]) rfl
 have v3 : ∀ r,zyo0 (cCSS grpD) [.agg [gvD G gs,.nils,.int .i64 n],.str g.ns,.str g.im] (H++r)=some (.int .i64 (z9w0 (gs.map LG.f) g.ns g.im)):=fun r=>zzzs (q.app r) (by rw [zojl,← hgl,grpD]) rfl
 have v4:=zglo t2
 have v5:=fun r=>(q.app r).len
 have hl:=zyc3 gs
 have hA:H.length+3+2=H.length+5:=rfl
 have e1 : ∀ id,gvC id gs = .ms id (gs.length*6) 0 6 gs.length (gs.length*6):=fun id=>z0on hne
 have e3:gsN gs=[.cells (lgs gs)]:=if_neg hne
 have h16':¬ (16:Int)≤gs.length:=by omega
 by_cases hx:z9w0 (gs.map LG.f) g.ns g.im<0
 ·have hd:depL gs g=gs++[g]:=if_pos hx
  rw [hd]
  have hx':¬ (0:Int)≤z9w0 (gs.map LG.f) g.ns g.im:=by omega
  have e2 : ∀ id,gvD id (gs++[g]) = .ms id (gs.length*6+6) 0 6 (gs.length+1) (gs.length*6+6):=fun id=>by
   rw [z0on (by simp),y07,y05,y0n]
  have e4 : ∀ H' id,appX H' 6 80 (.ms id (gs.length*6) 0 6 gs.length (gs.length*6)) 1 g.c=(objV H' id (gs.length*6)).map fun l=>(.ms id (gs.length*6+6) 0 6 (gs.length+1) (gs.length*6+6),H'.set id (.cells (l++g.c))):=fun H' id=>zbho rfl (by omega) (by omega) rfl (by omega) (z8no g)
  have e5:lgs (gs++[g])=lgs gs++g.c:=by simp [lgs]
  refine ⟨[.cells [gvD G gs,.nils,.int .i64 n],.cells g.c,.cells [gvD (H.length+5) (gs++[g]),.nils,.int .i64 n],.cells [gvD G gs,.nils,.int .i64 n],.cells [gvC (H.length+5) gs,.nils,.int .i64 n],.cells (lgs (gs++[g])),.cells [gvD (H.length+5) (gs++[g]),.nils,.int .i64 n]],?_,?_,by simp,by simp⟩
  ·refine zv22 mix hT Tryd.func18 zt5q ⟨?_⟩
   simp (disch:=first|omega|simp<;>omega|fail) [-zA,-zB,-zC,-zD,-zE,-ztar,zfi0,zkwy,za5m,z01d,cpL,e1,e2,e3,e4,e5,z8no,a18,T_v,T_g,T_x,t1,v1,v2,v3,v4,v5,zfgs,z7y2,zajz,hV0,hVj,hS0,hSj,zdyg,zd3f,hx',hl,h16',hA]
  ·simp [ziu0]
 ·obtain ⟨k,hk,hke,hkf,_⟩:=zgr5 (show 0≤z9w0 (gs.map LG.f) g.ns g.im by omega)
  have hke:z9w0 (gs.map LG.f) g.ns g.im=k:=hke
  have hk0:k<gs.length:=by simpa using hk
  have hd:depL gs g=gs.set k g:=by rw [depL,if_neg hx,hke,y0d]
  rw [hd]
  rw [hke] at v3
  have hx':(0:Int)≤k:=by omega
  have hk':(k:Int)<gs.length:=by omega
  have e2 : ∀ id,gvD id (gs.set k g) = .ms id (gs.length*6) 0 6 gs.length (gs.length*6):=fun id=>by
   have:gs.set k g≠[]:=by intro e; have:=congrArg List.length e; simp at this; exact hne this
   rw [z0on this,y03]
  have e8:zk7y (lgs gs) (k*6) g.c=lgs (gs.set k g):=z47w zd3f hk0 _
  have e10 : ∀ H id,zy6o H id 6 (k*6) (.agg g.c) (some (lgs gs))=some (.junk,H.set id (.cells (lgs (gs.set k g)))):=fun H id=>by
   rw [← e8]
   simp only [zy6o]
   rw [if_pos ⟨rfl,by omega,z8no g⟩]; rfl
  refine ⟨[.cells [gvD G gs,.nils,.int .i64 n],.cells g.c,.cells [gvD (H.length+5) (gs.set k g),.nils,.int .i64 n],.cells [gvD G gs,.nils,.int .i64 n],.cells [gvC (H.length+5) gs,.nils,.int .i64 n],.cells (lgs (gs.set k g)),.cells [gvD (H.length+5) (gs.set k g),.nils,.int .i64 n]],?_,?_,?_,by simp⟩
  ·refine zv22 mix hT Tryd.func18 zt5q ⟨?_⟩
   simp (disch:=first|omega|simp<;>omega|fail) [-zA,-zB,-zC,-zD,-zE,-ztar,zfi0,zkwy,za5m,z01d,cpL,e1,e2,e3,e10,z8no,a18,T_v,T_g,T_x,t1,v1,v2,v3,v4,v5,zfgs,z7y2,zajz,hV0,hVj,hS0,hSj,zdyg,zd3f,hx',hk',hk0,hl,h16',hA]
  ·simp [ziu0]
  ·intro e; have:=congrArg List.length e; simp at this; exact hne this
end
section
set_option linter.unusedSimpArgs false
set_option linter.unusedVariables false
open Go Go.Am
def clH (t:Tp) (z:AObj) (gv iv:DV) (n:Int) (mid:List AObj):List AObj := .cells (tpC t)::z :: .cells [gv,iv,.int .i64 n]::mid
theorem zpbv {a b c a' b' c':AObj} {m r:List AObj} {id:Nat} {l:List DV} (h:ziu0 (a::b::c::m) id=some l) (h3:3≤id):ziu0 (a'::b'::c'::(m++r)) id=some l:=by
 obtain ⟨j,rfl⟩ : ∃ j,id=j+3:=⟨id-3,by omega⟩
 have h:ziu0 m j=some l:=h
 exact zl74 (r:=r) h
theorem zw98 {a b c:AObj} {m r:List AObj} {j:Nat} {l:List DV} (h:ziu0 r j=some l):ziu0 (a::b::c::(m++r)) (m.length+3+j)=some l:=by
 rw [show m.length+3+j=(m.length+j)+3 by omega]
 show ziu0 (m++r) (m.length+j)=some l
 unfold ziu0 at h ⊢
 rw [y0g (by omega),y0c]; exact h
structure GsA (h:List AObj) (G:Nat) (gs:List LG):Prop where
 s:GsO h G gs
 G3:gs≠[]→3≤G
 c3 : ∀ g ∈ gs,3≤g.ci∧(g.ci≠G)∧g.ns.length≤10∧g.im.length≤10∧g.ch.length≤5
 nd:(gs.map LG.ci).Nodup
theorem GsA.up {a b c a' b' c':AObj} {m r:List AObj} {G:Nat} {gs:List LG} (q:GsA (a::b::c::m) G gs):GsA (a'::b'::c'::(m++r)) G gs :=
 ⟨⟨fun e=>zpbv (q.s.o e) (q.G3 e),fun x hx=>⟨zpbv (q.s.g x hx).o (q.c3 x hx).1,(q.s.g x hx).ne,(q.s.g x hx).n⟩,q.s.n⟩,q.G3,q.c3,q.nd⟩
theorem z51i {gs:List LG} {g x:LG} (h:x ∈ depL gs g):x ∈ gs∨x=g:=by
 unfold depL at h
 split at h
 ·simpa using h
 ·exact y0q h
theorem zr75 {α:Type} {l:List α} (h:l.Nodup) {x:α} (hx:x ∉ l) (k:Nat):(l.set k x).Nodup:=by
 induction l generalizing k with
 | nil=>simp
 | cons a l ih =>
  rw [y16] at h
  simp only [y0y,not_or] at hx
  cases k with
  | zero=>rw [List.set_cons_zero,y16]; exact ⟨hx.2,h.2⟩
  | succ k =>
   rw [List.set_cons_succ,y16]
   refine ⟨fun hm => ?_,ih h.2 hx.2 k⟩
   rcases y0q hm with q|q
   ·exact h.1 q
   ·exact hx.1 q.symm
theorem z74z {gs:List LG} {g:LG} (h:(gs.map LG.ci).Nodup) (hf : ∀ x ∈ gs,x.ci≠g.ci):((depL gs g).map LG.ci).Nodup:=by
 have hx:g.ci ∉ gs.map LG.ci:=fun hm=>by
  obtain ⟨x,h1,h2⟩:=y14.1 hm
  exact hf x h1 h2
 unfold depL
 split
 ·rw [List.map_append]
  exact List.nodup_append.2 ⟨h,by simp,fun a ha b hb e=>by simp at hb; subst hb; subst e; exact hx ha⟩
 ·rw [List.map_set]; exact zr75 h hx _
theorem z7xn {gs:List LG} {g:LG} (h:UG (gs.map LG.f)) (hg:ValidG g.f) (h16:gs.length<16):UG ((depL gs g).map LG.f):=by
 unfold depL
 split
 ·rename_i hx
  rw [List.map_append]
  exact zlgs h hg hx (by simpa using h16)
 ·rename_i hx
  obtain ⟨k,hk,hke,hkf,_⟩:=zgr5 (show 0≤z9w0 (gs.map LG.f) g.ns g.im by omega)
  have hke:z9w0 (gs.map LG.f) g.ns g.im=k:=hke
  rw [hke,y0d,List.map_set]
  exact z3at h hg hk hke
theorem z5r1 {gs:List LG} {n:Int} (h:UG (gs.map LG.f)) (hl:gs.length≤1000) (h1:1≤n) (h2:n≤4):CG (cFr gs n):=⟨by show UG (gsF gs).l; rw [zesr hl]; exact h,rfl,h1,h2⟩
theorem zwt1 {x:Sl Dg} : ∀ (k:Nat) (t:Tp) (l:List Dg),l≠[]→(zz63 x k t l).1≠[]
 | 0,t,l,h=>h
 | k+1,t,l,_=>zwt1 k (gOne x t).2 (gAdd l (gOne x t).1) (z9wk _ _)
theorem z5pi {t:Tp} {x:Sl Dg}:chV t x≠[]:=zwt1 _ (gOne x (t.adv 6)).2 (gAdd [] (gOne x (t.adv 6)).1) (z9wk _ _)
theorem z04p {x:Sl Dg} : ∀ (k:Nat) (t:Tp) (l:List Dg),(zz63 x k t l).1.length≤l.length+k
 | 0,t,l=>y06 _
 | k+1,t,l=>by
  have h1:=z04p k (gOne x t).2 (gAdd l (gOne x t).1) (x:=x)
  have h2:=z3m3 l (gOne x t).1
  show (zz63 x k (gOne x t).2 (gAdd l (gOne x t).1)).1.length≤_
  omega
theorem z61e {t:Tp} {x:Sl Dg}:(chV t x).length≤3:=by
 have n7:=z4rs (t.adv 5) 3
 have n8:=z2s7 (t.adv 5) (n:=3) (by omega)
 have:=z04p (x:=x) ((tpN (t.adv 5) 3).toNat+1) (t.adv 6) []
 simp only [y15] at this
 unfold chV
 omega
theorem z3cn {t:Tp} {a b:List UInt8} (ha:a.length≤10) (hb:b.length≤10):(zzh5 t [a,b]).length≤10:=by
 have:=zqrp t (l:=[a,b]) (by simp)
 simp only [y0y,y12,or_false] at this
 rcases this with e|e<;>rw [e]<;>assumption
theorem zcfc {H:List AObj} {G:Nat} {gs:List LG} {g:LG} {n:Int} {a b c:AObj} {m:List AObj} (hH:H=a::b::c::m) (q:GsA H G gs) (hg:LgO H g) (hg3:3≤g.ci∧g.ns.length≤10∧g.im.length≤10∧g.ch.length≤5) (hfr : ∀ x ∈ gs,x.ci≠g.ci) (hug:UG (gs.map LG.f)) (hvg:ValidG g.f) (h2:gs.length≤5) (n1:1≤n) (n4:n≤4) :
  ∃ (G':Nat) (gs':List LG) (tail:List AObj),zwy1 P 18 [.agg [gvD G gs,.nils,.int .i64 n],.agg g.c] H (fun d k=>d = .tup [.agg [gvD G' gs',.nils,.int .i64 n],.int .i64 0]∧k=H++tail)∧GsA (H++tail) G' gs'∧gs'≠[]∧gs'.length≤gs.length+1∧UG (gs'.map LG.f):=by
 have hv:=(z5r1 hug (by omega) n1 n4).valid
 have hlen:3≤H.length:=by rw [hH]; simp
 by_cases e:gs=[]
 ·subst e
  obtain ⟨tail,h1,h3⟩:=z2vk (G:=G) hg hv hvg
  have hu:UG ([g].map LG.f):=by
   have:=z7xn (gs:=[]) (g:=g) hug hvg (by simp)
   rwa [show depL [] g=[g] from rfl] at this
  refine ⟨_,[g],tail,h1,⟨⟨fun _=>h3,fun x hx => ?_,by simp⟩,fun _=>by omega,fun x hx => ?_,by simp⟩,by simp,by simp,hu⟩
  ·simp at hx; subst hx; exact hg.app tail
  ·simp at hx; subst hx
   have:=z7ba hg.o
   exact ⟨hg3.1,by omega,hg3.2⟩
 ·obtain ⟨tail,h1,h3,h4,h5⟩:=z65q q.s e (by omega) hg hv hvg
  refine ⟨_,depL gs g,tail,h1,⟨⟨fun _=>h3,fun x hx => ?_,by omega⟩,fun _=>by omega,fun x hx => ?_,z74z q.nd hfr⟩,h4,h5,z7xn hug hvg (by omega)⟩
  ·rcases z51i hx with h|h
   ·exact (q.s.g x h).app tail
   ·subst h; exact hg.app tail
  ·rcases z51i hx with h|h
   ·have:=z7ba (q.s.g x h).o
    exact ⟨(q.c3 x h).1,by omega,(q.c3 x h).2.2⟩
   ·subst h
    have:=z7ba hg.o
    exact ⟨hg3.1,by omega,hg3.2⟩
theorem z769 {h:List AObj} {id:Nat} {a b c u v w:DV} (h1:u.one=true) (h2:v.one=true) (h3:w.one=true):zy6o h id 3 0 (.agg [u,v,w]) (some [a,b,c])=some (.junk,h.set id (.cells [u,v,w])):=zfc1 rfl rfl (by simp [h1,h2,h3])
theorem zs2b {u v w:DV}:oneC 3 true [u,v,w]=some (.agg [u,v,w]):=rfl
noncomputable def TB:Tbl:=addT 7 (.tch z1m3) (addT 19 (.heap cGrL) tbl0)
theorem TB_n:TB 7 = .tch z1m3:=by simp [TB]
theorem TB_g:TB 19 = .heap cGrL:=by simp [TB]
theorem zl64:TB.Sound P:=z0rp z51e (z0rp zgd2 zr5o)
structure KS where
 k:Nat
 t:Tp
 gs:List LG
 G:Nat
 mid:List AObj
def cluZ:AObj := .cells [.nils,.nils,.int .i64 0]
def S6 (n:Int) (a:KS):St:=a6S0 (.mp 0 2 0) (.int .i64 6) (.mp 1 3 0) (zdmg.dv 32 dgC) (.mp 2 3 0) (.int .i64 a.k) (clH a.t cluZ (gvD a.G a.gs) .nils n a.mid)
structure KR (n:Int) (a:KS):Prop where
 q:GsA (clH a.t cluZ (gvD a.G a.gs) .nils n a.mid) a.G a.gs
 u:UG (a.gs.map LG.f)
 t:a.t.at_+100*a.k<3995000000
 l:a.gs.length+a.k≤2
 e:a.gs=[]→1≤a.k
theorem z9xo (ci:Nat) (t:Tp):ValidG (gLv ci t zdmg).f:=by rw [zrj8]; exact zjze t zfn5 (by simp [zdmg])
theorem zwj6 {n:Int} (n1:1≤n) (n4:n≤4) {Φ:AExit→St→Prop} (a:KS) (ha:KR n a) (hk:0<a.k):V P 1 a6L0 (z13e 1 (S6 n) (fun a=>a.k) (KR n) a Φ) (S6 n a):=by
 obtain ⟨k,t,gs,G,mid⟩:=a
 obtain ⟨q,u,r2,r3,r4⟩:=ha
 simp only at q u r2 r3 r4 hk
 obtain ⟨k,rfl⟩ : ∃ k',k=k'+1:=⟨k-1,by omega⟩
 have hk':(0:Int)<((k+1:Nat):Int):=by omega
 have g1:=z4ft t zdmg
 obtain ⟨V,hV⟩ : ∃ V,(zlt0 t zdmg).2=V:=⟨_,rfl⟩
 rw [hV] at g1
 have hlen:(clH t cluZ (gvD G gs) .nils n mid).length=mid.length+3:=rfl
 have hc:=zjti (t:=t) (x:=zdmg) (h:=clH t cluZ (gvD G gs) .nils n mid) (id:=0) (by omega) (by simp [zdmg]) rfl
 rw [hV,hlen] at hc
 have hset:(clH t cluZ (gvD G gs) .nils n mid).set 0 (.cells (tpC V))++ze6j (mid.length+3) t zdmg=clH V cluZ (gvD G gs) .nils n (mid++ze6j (mid.length+3) t zdmg):=rfl
 rw [hset] at hc
 obtain ⟨g,hgd⟩ : ∃ g,gLv (mid.length+3+3) t zdmg=g:=⟨_,rfl⟩
 have hgci:g.ci=mid.length+3+3:=by rw [← hgd]; rfl
 have hgch:g.ch=chV t zdmg:=by rw [← hgd]; rfl
 have hN:ze6j (mid.length+3) t zdmg=[.cells g.c,.cells g.c,.cells (dgC (gOne zdmg (t.adv 6)).1),.cells (g.ch.flatMap dgC)]:=by rw [← hgd]; rfl
 rw [hgd] at hc
 have hgO:LgO (clH V cluZ (gvD G gs) .nils n (mid++ze6j (mid.length+3) t zdmg)) g:=by
  refine ⟨?_,by rw [hgch]; exact z5pi,by rw [hgch]; have:=z61e (t:=t) (x:=zdmg); omega⟩
  rw [hgci]
  exact zw98 (j:=3) (by rw [hN]; rfl)
 have hg3:3≤g.ci∧g.ns.length≤10∧g.im.length≤10∧g.ch.length≤5:=by
  refine ⟨by omega,?_,?_,by rw [hgch]; have:=z61e (t:=t) (x:=zdmg); omega⟩
  ·rw [← hgd]; exact z3cn (by simp) (by simp)
  ·rw [← hgd]; exact z3cn (by simp) (by simp)
 have hfr : ∀ x ∈ gs,x.ci≠g.ci:=fun x hx=>by
  have:=z7ba (q.s.g x hx).o
  rw [hlen] at this
  omega
 have q1:GsA (clH V cluZ (gvD G gs) .nils n (mid++ze6j (mid.length+3) t zdmg)) G gs:=q.up
 obtain ⟨G',gs',tail,h1,h2,h3,h4,h5⟩:=zcfc (H:=clH V cluZ (gvD G gs) .nils n (mid++ze6j (mid.length+3) t zdmg)) rfl q1 hgO hg3 hfr u (by rw [← hgd]; exact z9xo _ t) (by omega) n1 n4
 obtain ⟨T,f,hT,t1,t2,t3⟩:=exTH zl64 h1
 have T_n:T 7 = .tch z1m3:=by rw [t3 _ (by decide)]; exact TB_n
 have T_g:T 19 = .heap cGrL:=by rw [t3 _ (by decide)]; exact TB_g
 have hE:z5e5 T (.fn (.func 19) [] []) [.mp 0 2 0,zdmg.dv 32 dgC] (clH t cluZ (gvD G gs) .nils n mid)=some (.agg g.c,clH V cluZ (gvD G gs) .nils n (mid++ze6j (mid.length+3) t zdmg)):=by
  refine zzyf (T:=T) (a:=[]) (b:=[]) ?_ ?_
  ·rw [T_g]; exact hc
  ·rw [← hset]; exact zi0c
 have hD:=zglo t2
 obtain ⟨M,hM⟩ : ∃ M,mid++ze6j (mid.length+3) t zdmg++tail=M:=⟨_,rfl⟩
 have hH:clH V cluZ (gvD G gs) .nils n (mid++ze6j (mid.length+3) t zdmg)++tail=clH V cluZ (gvD G gs) .nils n M:=by rw [← hM]; rfl
 rw [hH] at hD h2
 clear t2 hc hH hM h1
 generalize mid++ze6j (mid.length+3) t zdmg=mid1 at *
 simp only [clH,cluZ] at hE hD
 refine V_W mix hT ?_
 simp (disch:=first|omega|simp<;>omega|fail) [-zA,-zB,-zC,-zD,-zE,S6,clH,cluZ,a6L0,a6S0,hk',hE,t1,hD,hV0,hS0,zfgs,z7y2,zajz,z769,zs2b]
 refine ⟨⟨k,V,gs',G',M++[.cells [gvD G' gs',.nils,.int .i64 n]]⟩,z515 (by simp (disch:=first|omega|simp<;>omega|fail) [-zA,-zB,-zC,-zD,-zE,S6,a6S0]) (by simp (disch:=first|omega|simp<;>omega|fail) [-zA,-zB,-zC,-zD,-zE,S6,clH,cluZ,a6S0]),by simp,?_⟩
 exact ⟨h2.up,h5,by show V.at_+100*k<3995000000; omega,by show gs'.length+k≤2; omega,fun e=>absurd e h3⟩
end
section
set_option linter.unusedSimpArgs false
set_option linter.unusedVariables false
open Go Go.Am
def ivD (I:Nat) (l:List Ins):DV:=if l=[] then .nils else .ms I (l.length*37) 0 37 l.length (l.length*37)
theorem zx4y {I:Nat}:ivD I [] = .nils:=rfl
theorem zpq1 {I:Nat} {l:List Ins} (h:l≠[]):ivD I l = .ms I (l.length*37) 0 37 l.length (l.length*37):=if_neg h
theorem zmp0 {I:Nat} {l:List Ins}:(ivD I l).one=true:=by unfold ivD; split<;>rfl
theorem z0qe {I:Nat} {l:List Ins}:(ivD I l).cells=[ivD I l]:=by unfold ivD; split<;>rfl
theorem zarp {I:Nat} {l:List Ins}:(ivD I l).known=true:=by unfold ivD; split<;>rfl
attribute [simp] zmp0 z0qe zarp
theorem GsA.set {a b c o:AObj} {m:List AObj} {G J:Nat} {gs:List LG} (q:GsA (a::b::c::m) G gs) (h1:gs≠[]→J+3≠G) (h2 : ∀ g ∈ gs,g.ci≠J+3):GsA (a::b::c::m.set J o) G gs:=by
 have key : ∀ {id l},ziu0 (a::b::c::m) id=some l→J+3≠id→ziu0 (a::b::c::m.set J o) id=some l:=fun {id l} e hne=>by
  show ziu0 ((a::b::c::m).set (J+3) o) id=some l
  unfold ziu0 at e ⊢
  rw [List.getElem?_set_ne hne]; exact e
 exact ⟨⟨fun e=>key (q.s.o e) (h1 e),fun x hx=>⟨key (q.s.g x hx).o (Ne.symm (h2 x hx)),(q.s.g x hx).ne,(q.s.g x hx).n⟩,q.s.n⟩,q.G3,q.c3,q.nd⟩
theorem zcq6 {x:Ins}:(inC x).take 37=inC x:=y00 (by rw [z6gw]; exact y06 _)
theorem zkhc {m:List AObj} {x y z:List DV}:ziu0 (m++[.cells x,.cells y,.cells z]) (m.length+2)=some z:=by
 unfold ziu0; rw [y0g (by omega),y0c]; rfl
structure JS where
 k:Nat
 t:Tp
 l:List Ins
 J:Nat
 n:Int
 mid:List AObj
def S7 (G:Nat) (gs:List LG) (a:JS):St:=a6S1 (.mp 0 2 0) (.mp 1 3 0) (zdmg.dv 32 dgC) (.mp 2 3 0) (.int .i64 a.k) (clH a.t cluZ (gvD G gs) (ivD (a.J+3) a.l) a.n a.mid)
structure JR (G:Nat) (gs:List LG) (a:JS):Prop where
 q:GsA (clH a.t cluZ (gvD G gs) (ivD (a.J+3) a.l) a.n a.mid) G gs
 o:a.l≠[]→ziu0 a.mid a.J=some (a.l.flatMap inC)∧a.J+3≠G ∧ ∀ g ∈ gs,g.ci≠a.J+3
 t:a.t.at_+100*a.k<3999999000
 n0:0≤a.n
 n1:a.n+2*a.k≤1000
 l:a.l.length+a.k≤6
theorem zfk8 {G:Nat} {gs:List LG} (hne:gs≠[]) {Φ:AExit→St→Prop} (a:JS) (ha:JR G gs a) (hk:0<a.k):V P 1 a6L1 (z13e 1 (S7 G gs) (fun a=>a.k) (JR G gs) a Φ) (S7 G gs a):=by
 obtain ⟨k,v,l,J,n,mid⟩:=a
 obtain ⟨q,ho,r2,q1,q2,q3⟩:=ha
 simp only at q ho r2 q1 q2 q3 hk
 obtain ⟨k,rfl⟩ : ∃ k',k=k'+1:=⟨k-1,by omega⟩
 have hk':(0:Int)<((k+1:Nat):Int):=by omega
 have hgl:1≤gs.length:=y0o.2 hne
 have hgn:=q.s.n
 have hL : ∀ a b c,lenD (a::b::c::mid) (gvD G gs)=some (.int .i64 gs.length):=fun a b c=>by
  have:=(GsA.up (a':=a) (b':=b) (c':=c) (r:=[]) q).s.len
  rwa [y0h] at this
 have p1:=z4rs (v.adv 1) 3
 have p2:=z2s7 (v.adv 1) (n:=3) (by omega)
 obtain ⟨M,hM⟩ : ∃ M:Nat,tpN (v.adv 1) 3=M:=⟨_,(y09 p1).symm⟩
 have hM3:M<zdmg.l.length:=by simp [zdmg]; omega
 have hget : ∀ H,zpsc H 32 (zdmg.dv 32 dgC) M=some (.ref (dgC zdmg.l[M])):=fun H=>zalo z1t1 hM3
 have hap : ∀ b,z87v (zdmg.dv 32 dgC) b=b.known:=fun b=>zd7a rfl
 have p3:=z4rs (v.adv 2) 3
 have p4:=z2s7 (v.adv 2) (n:=3) (by omega)
 have hg32:(gs.length:Int)≤4294967296:=by omega
 have hg1:(1:Int)≤gs.length:=by omega
 obtain ⟨A,hA⟩ : ∃ A,tpN v gs.length=A:=⟨_,rfl⟩
 obtain ⟨ST,hST⟩ : ∃ A,tpN (v.adv 2) 3=A:=⟨_,rfl⟩
 obtain ⟨SI,hSI⟩ : ∃ A,tpN (v.adv 3) 30=A:=⟨_,rfl⟩
 rw [hST] at p3 p4
 by_cases hz:tpN (v.adv 4) 3=0
 ·skip
  obtain ⟨DE,hDE⟩ : ∃ A,tpN (v.adv 5) 30=A:=⟨_,rfl⟩
  have hj1:=z4rs (v.adv 6) 2
  have hj2:=z2s7 (v.adv 6) (n:=2) (by omega)
  obtain ⟨Q,hj⟩ : ∃ A,tpN (v.adv 6) 2=A:=⟨_,rfl⟩
  rw [hj] at hj1 hj2
  have hfold0:(DV.int .i64 n::DV.int .i64 A::(dgC zdmg.l[M]++[DV.int .i64 (1+ST),DV.int .i64 SI,DV.int .i64 (-1)]))=inC ⟨n,A,zdmg.l[M],1+ST,SI,-1⟩:=rfl
  have hfold:(DV.int .i64 n::DV.int .i64 A::(dgC zdmg.l[M]++[DV.int .i64 (1+ST),DV.int .i64 SI,DV.int .i64 DE]))=inC ⟨n,A,zdmg.l[M],1+ST,SI,DE⟩:=rfl
  obtain ⟨X,hX⟩ : ∃ X:Ins,(⟨n,A,zdmg.l[M],1+ST,SI,DE⟩:Ins)=X:=⟨_,rfl⟩
  by_cases hl:l=[]
  ·subst hl
   have e0 : ∀ i,ivD i [] = .nils:=fun i=>rfl
   refine V_W mix zl64 ?_
   simp (disch:=first|omega|simp<;>omega|fail) [-zA,-zB,-zC,-zD,-zE,a6L1,a6S1,S7,clH,cluZ,TB_n,z44h,zjmf,hA,hST,hSI,hM,hget,zbcp,zvod,zfu8,zd00,zp4m,hk',hz,hj,hap,hL,hg32,hg1,hV0,hVj,hS0,hSj,zcq6,hfold0,Ins.de,zdwi,hfold,hDE,e0,hX]
   refine ⟨⟨k,v.adv 7,[X],mid.length+2,n+(1+Q),mid++[.cells (inC X),.cells (inC X),.cells (inC X)]⟩,z515 (by simp (disch:=first|omega|simp<;>omega|fail) [-zA,-zB,-zC,-zD,-zE,S7,a6S1]) (by simp (disch:=first|omega|simp<;>omega|fail) [-zA,-zB,-zC,-zD,-zE,S7,clH,cluZ,a6S1,ivD]),by simp,?_⟩
   refine ⟨q.up,fun _=>⟨by show ziu0 (mid++[.cells (inC X),.cells (inC X),.cells (inC X)]) (mid.length+2)=some ([X].flatMap inC); rw [zkhc]; simp,?_,fun g hg => ?_⟩,by show (v.adv 7).at_+100*k<3999999000; simp; omega,by show 0≤n+(1+Q); omega,by show n+(1+Q)+2*k≤1000; omega,by show 1+k≤6; simp at q3; omega⟩
   ·have:=z7ba (q.s.o hne); simp [clH] at this ⊢; omega
   ·have:=z7ba (q.s.g g hg).o; simp [clH] at this ⊢; omega
  ·obtain ⟨o1,o2,o3⟩:=ho hl
   have hlen:=z1rq z6gw l
   have hJ:=z7ba o1
   have e0 : ∀ i,ivD i l = .ms i (l.length*37) 0 37 l.length (l.length*37):=fun i=>zpq1 hl
   have e1 : ∀ H' id,appX H' 37 72 (.ms id (l.length*37) 0 37 l.length (l.length*37)) 1 (inC X)=(objV H' id (l.length*37)).map fun c=>(.ms id (l.length*37+37) 0 37 (l.length+1) (l.length*37+37),H'.set id (.cells (c++inC X))):=fun H' id=>by
    have:=zbho (h:=H') (id:=id) (ver:=l.length*37) (s:=37) (n:=l.length) (b:=72) (m:=1) (cs:=inC X) rfl (by omega) (by omega) (by simp) (by omega) (z8go X)
    rwa [z6gw] at this
   have hO : ∀ r,objV (mid++r) J (l.length*37)=some (l.flatMap inC):=fun r=>zw28 (zl74 o1) hlen
   have hSJ : ∀ (r:List AObj) o,(mid++r).set J o=mid.set J o++r:=fun r o=>y0m _ _ hJ
   refine V_W mix zl64 ?_
   simp (disch:=first|omega|simp<;>omega|fail) [-zA,-zB,-zC,-zD,-zE,a6L1,a6S1,S7,clH,cluZ,TB_n,z44h,zjmf,hA,hST,hSI,hM,hget,zbcp,zvod,zfu8,zd00,zp4m,hk',hz,hj,hap,hL,hg32,hg1,hV0,hVj,hS0,hSj,zcq6,hfold0,Ins.de,zdwi,hfold,hDE,e0,e1,hO,hSJ,hX]
   have e2:ivD (J+3) (l++[X]) = .ms (J+3) (l.length*37+37) 0 37 (l.length+1) (l.length*37+37):=by
    rw [zpq1 (by simp),y07,y05,y0n]
   refine ⟨⟨k,v.adv 7,l++[X],J,n+(1+Q),mid.set J (.cells (l.flatMap inC++inC X))++[.cells (inC X),.cells (inC X)]⟩,z515 (by simp (disch:=first|omega|simp<;>omega|fail) [-zA,-zB,-zC,-zD,-zE,S7,a6S1]) (by simp (disch:=first|omega|simp<;>omega|fail) [-zA,-zB,-zC,-zD,-zE,S7,clH,cluZ,a6S1,e2]),by simp,?_⟩
   refine ⟨(q.set (fun _=>o2) o3).up,fun _=>⟨?_,o2,o3⟩,by show (v.adv 7).at_+100*k<3999999000; simp; omega,by show 0≤n+(1+Q); omega,by show n+(1+Q)+2*k≤1000; omega,by show (l++[X]).length+k≤6; simp; omega⟩
   exact zl74 (by simp [ziu0,hJ])
 ·skip
  have hj1:=z4rs (v.adv 5) 2
  have hj2:=z2s7 (v.adv 5) (n:=2) (by omega)
  obtain ⟨Q,hj⟩ : ∃ A,tpN (v.adv 5) 2=A:=⟨_,rfl⟩
  rw [hj] at hj1 hj2
  have hfold0:(DV.int .i64 n::DV.int .i64 A::(dgC zdmg.l[M]++[DV.int .i64 (1+ST),DV.int .i64 SI,DV.int .i64 (-1)]))=inC ⟨n,A,zdmg.l[M],1+ST,SI,-1⟩:=rfl
  obtain ⟨X,hX⟩ : ∃ X:Ins,(⟨n,A,zdmg.l[M],1+ST,SI,(-1)⟩:Ins)=X:=⟨_,rfl⟩
  by_cases hl:l=[]
  ·subst hl
   have e0 : ∀ i,ivD i [] = .nils:=fun i=>rfl
   refine V_W mix zl64 ?_
   simp (disch:=first|omega|simp<;>omega|fail) [-zA,-zB,-zC,-zD,-zE,a6L1,a6S1,S7,clH,cluZ,TB_n,z44h,zjmf,hA,hST,hSI,hM,hget,zbcp,zvod,zfu8,zd00,zp4m,hk',hz,hj,hap,hL,hg32,hg1,hV0,hVj,hS0,hSj,zcq6,hfold0,Ins.de,zdwi,e0,hX]
   refine ⟨⟨k,v.adv 6,[X],mid.length+2,n+(1+Q),mid++[.cells (inC X),.cells (inC X),.cells (inC X)]⟩,z515 (by simp (disch:=first|omega|simp<;>omega|fail) [-zA,-zB,-zC,-zD,-zE,S7,a6S1]) (by simp (disch:=first|omega|simp<;>omega|fail) [-zA,-zB,-zC,-zD,-zE,S7,clH,cluZ,a6S1,ivD]),by simp,?_⟩
   refine ⟨q.up,fun _=>⟨by show ziu0 (mid++[.cells (inC X),.cells (inC X),.cells (inC X)]) (mid.length+2)=some ([X].flatMap inC); rw [zkhc]; simp,?_,fun g hg => ?_⟩,by show (v.adv 6).at_+100*k<3999999000; simp; omega,by show 0≤n+(1+Q); omega,by show n+(1+Q)+2*k≤1000; omega,by show 1+k≤6; simp at q3; omega⟩
   ·have:=z7ba (q.s.o hne); simp [clH] at this ⊢; omega
   ·have:=z7ba (q.s.g g hg).o; simp [clH] at this ⊢; omega
  ·obtain ⟨o1,o2,o3⟩:=ho hl
   have hlen:=z1rq z6gw l
   have hJ:=z7ba o1
   have e0 : ∀ i,ivD i l = .ms i (l.length*37) 0 37 l.length (l.length*37):=fun i=>zpq1 hl
   have e1 : ∀ H' id,appX H' 37 72 (.ms id (l.length*37) 0 37 l.length (l.length*37)) 1 (inC X)=(objV H' id (l.length*37)).map fun c=>(.ms id (l.length*37+37) 0 37 (l.length+1) (l.length*37+37),H'.set id (.cells (c++inC X))):=fun H' id=>by
    have:=zbho (h:=H') (id:=id) (ver:=l.length*37) (s:=37) (n:=l.length) (b:=72) (m:=1) (cs:=inC X) rfl (by omega) (by omega) (by simp) (by omega) (z8go X)
    rwa [z6gw] at this
   have hO : ∀ r,objV (mid++r) J (l.length*37)=some (l.flatMap inC):=fun r=>zw28 (zl74 o1) hlen
   have hSJ : ∀ (r:List AObj) o,(mid++r).set J o=mid.set J o++r:=fun r o=>y0m _ _ hJ
   refine V_W mix zl64 ?_
   simp (disch:=first|omega|simp<;>omega|fail) [-zA,-zB,-zC,-zD,-zE,a6L1,a6S1,S7,clH,cluZ,TB_n,z44h,zjmf,hA,hST,hSI,hM,hget,zbcp,zvod,zfu8,zd00,zp4m,hk',hz,hj,hap,hL,hg32,hg1,hV0,hVj,hS0,hSj,zcq6,hfold0,Ins.de,zdwi,e0,e1,hO,hSJ,hX]
   have e2:ivD (J+3) (l++[X]) = .ms (J+3) (l.length*37+37) 0 37 (l.length+1) (l.length*37+37):=by
    rw [zpq1 (by simp),y07,y05,y0n]
   refine ⟨⟨k,v.adv 6,l++[X],J,n+(1+Q),mid.set J (.cells (l.flatMap inC++inC X))++[.cells (inC X),.cells (inC X)]⟩,z515 (by simp (disch:=first|omega|simp<;>omega|fail) [-zA,-zB,-zC,-zD,-zE,S7,a6S1]) (by simp (disch:=first|omega|simp<;>omega|fail) [-zA,-zB,-zC,-zD,-zE,S7,clH,cluZ,a6S1,e2]),by simp,?_⟩
   refine ⟨(q.set (fun _=>o2) o3).up,fun _=>⟨?_,o2,o3⟩,by show (v.adv 6).at_+100*k<3999999000; simp; omega,by show 0≤n+(1+Q); omega,by show n+(1+Q)+2*k≤1000; omega,by show (l++[X]).length+k≤6; simp; omega⟩
   exact zl74 (by simp [ziu0,hJ])
end
section
set_option linter.unusedSimpArgs false
set_option linter.unusedVariables false
open Go Go.Am
theorem ze3y {rs:List ARes} {v:DV} {k:List AObj} {Ψ:DV→List AObj→Prop} (hq:Ψ v k) (e:AExit) (st:St) (h:retH rs v k e st):RetA rs Ψ e st:=by
 have h:=h.out
 cases e with
 | normal=>obtain ⟨d,h1,h2,h3⟩:=h; exact ⟨d,h1,by rw [h2,h3]; exact hq⟩
 | ret=>obtain ⟨d,h1,h2,h3⟩:=h; exact ⟨d,h1,by rw [h2,h3]; exact hq⟩
 | exit i=>exact h.elim
structure LvS where
 t:Tp
 gs:List LG
 G:Nat
 l:List Ins
 I:Nat
 n:Int
 m:List AObj
def LvS.d (s:LvS):DV := .agg [gvD s.G s.gs,ivD s.I s.l,.int .i64 s.n]
def LvS.h (s:LvS):List AObj := .cells (tpC s.t)::s.m
structure LvOK (s:LvS):Prop where
 q:GsA s.h s.G s.gs
 ne:s.gs≠[]
 g2:s.gs.length≤2
 o:s.l≠[]→ziu0 s.h s.I=some (s.l.flatMap inC)∧3≤s.I∧s.I≠s.G ∧ ∀ g ∈ s.gs,g.ci≠s.I
 l6:s.l.length≤6
 n0:0≤s.n
 n1:s.n≤1000
 t:s.t.at_<3999999100
theorem z202 (t:Tp) (ht:t.at_<3990000000):zwy1 P 6 [.mp 0 2 0,.int .i64 6] [.cells (tpC t)] (fun d q => ∃ s,LvOK s∧d=s.d∧q=s.h):=by
 refine zcpc Tryd.func6 zc7x ?_
 have n1:=z4rs t 4
 have n2:=z2s7 t (n:=4) (by omega)
 have n3:=z4rs (t.adv 1) 2
 have n4:=z2s7 (t.adv 1) (n:=2) (by omega)
 obtain ⟨N,hN⟩ : ∃ N:Nat,tpN (t.adv 1) 2=N:=⟨_,(y09 n3).symm⟩
 obtain ⟨n,hn⟩ : ∃ n,1+tpN t 4=n:=⟨_,rfl⟩
 have m1:1≤n:=by omega
 have m4:n≤4:=by omega
 have e0 : ∀ i,gvD i [] = .nils:=fun i=>rfl
 simp only [a6]
 refine zbn1 (V_W mix zl64 ?_)
 simp (disch:=first|omega|simp<;>omega|fail) [-zA,-zB,-zC,-zD,-zE]
 refine zbn1 (V_W mix zl64 ?_)
 simp (disch:=first|omega|simp<;>omega|fail) [-zA,-zB,-zC,-zD,-zE,z7ni,zt3y]
 refine zbn1 (V_W mix zl64 ?_)
 simp (disch:=first|omega|simp<;>omega|fail) [-zA,-zB,-zC,-zD,-zE,TB_n,z44h,zjmf,z7ol,hn]
 refine zbn1 (zbn1 (V_W mix zl64 ?_))
 simp (disch:=first|omega|simp<;>omega|fail) [-zA,-zB,-zC,-zD,-zE,TB_n,z44h,zjmf,hN]
 refine z3mo (ztbr (S6 n) (fun a=>a.k) (KR n) ⟨N+1,t.adv 2,[],0,[]⟩ ?_ ?_ (fun a ha => ?_))
 ·exact z515 (by simp (disch:=first|omega|simp<;>omega|fail) [-zA,-zB,-zC,-zD,-zE,S6,a6S0,z1ip,show (1+(N:Int))=N+1 from Int.add_comm _ _]) (by simp (disch:=first|omega|simp<;>omega|fail) [-zA,-zB,-zC,-zD,-zE,S6,clH,cluZ,e0])
 ·exact ⟨⟨⟨fun e=>absurd rfl e,by simp,by simp⟩,fun e=>absurd rfl e,by simp,by simp⟩,⟨by simp,by simp⟩,by simp; omega,by simp; omega,by simp⟩
 by_cases hk:0<a.k
 ·exact zwj6 m1 m4 a ha hk
 obtain ⟨k,u,gs,G,mid⟩:=a
 obtain ⟨q,ug,r2,r3,r4⟩:=ha
 simp only at q ug r2 r3 r4 hk
 obtain rfl:k=0:=by omega
 have hne:gs≠[]:=fun e=>by have:=r4 e; omega
 refine zbn1 (V_W mix zl64 ?_)
 simp (disch:=first|omega|simp<;>omega|fail) [-zA,-zB,-zC,-zD,-zE,S6,a6L0,a6S0]
 have j1:=z4rs u 7
 have j2:=z2s7 u (n:=7) (by omega)
 obtain ⟨K,hK⟩ : ∃ K:Nat,tpN u 7=K:=⟨_,(y09 j1).symm⟩
 refine zbn1 (zbn1 (V_W mix zl64 ?_))
 simp (disch:=first|omega|simp<;>omega|fail) [-zA,-zB,-zC,-zD,-zE,clH,TB_n,z44h,hK]
 refine z3mo (ztbr (S7 G gs) (fun a=>a.k) (JR G gs) ⟨K,u.adv 1,[],0,n,mid⟩ ?_ ?_ (fun a ha => ?_))
 ·exact z515 (by simp (disch:=first|omega|simp<;>omega|fail) [-zA,-zB,-zC,-zD,-zE,S7,a6S1]) (by simp (disch:=first|omega|simp<;>omega|fail) [-zA,-zB,-zC,-zD,-zE,S7,clH,cluZ,zx4y])
 ·exact ⟨by have:=GsA.up (r:=[]) (a' := .cells (tpC (u.adv 1))) (b':=cluZ) (c' := .cells [gvD G gs,ivD (0+3) [],.int .i64 n]) q; rwa [y0h] at this,fun e=>absurd rfl e,by simp; omega,by simp; omega,by simp; omega,by simp; omega⟩
 by_cases hk:0<a.k
 ·exact zfk8 hne a ha hk
 obtain ⟨k,v,l,J,n',mid'⟩:=a
 obtain ⟨q',ho,r2',q1,q2,q3⟩:=ha
 simp only at q' ho r2' q1 q2 q3 hk
 obtain rfl:k=0:=by omega
 refine zbn1 (V_W mix zl64 ?_)
 simp (disch:=first|omega|simp<;>omega|fail) [-zA,-zB,-zC,-zD,-zE,S7,a6L1,a6S1]
 refine zftn (ze3y (v := .agg [gvD G gs,ivD (J+3) l,.int .i64 n']) (k:=clH v (.cells [gvD G gs,ivD (J+3) l,.int .i64 n']) (gvD G gs) (ivD (J+3) l) n' mid') ⟨⟨v,gs,G,l,J+3,n',.cells [gvD G gs,ivD (J+3) l,.int .i64 n'] :: .cells [gvD G gs,ivD (J+3) l,.int .i64 n']::mid'⟩,?_,rfl,rfl⟩) ?_
 ·refine ⟨?_,hne,by simpa using r3,fun e => ?_,by simpa using q3,q1,by show n'≤1000; omega,by show v.at_<3999999100; omega⟩
  ·have:=GsA.up (r:=[]) (a' := .cells (tpC v)) (b' := .cells [gvD G gs,ivD (J+3) l,.int .i64 n']) (c' := .cells [gvD G gs,ivD (J+3) l,.int .i64 n']) q'
   rwa [y0h] at this
  ·obtain ⟨o1,o2,o3⟩:=ho e
   exact ⟨o1,by show 3≤J+3; omega,o2,o3⟩
 refine V_W mix zl64 ?_
 simp (disch:=first|omega|simp<;>omega|fail) [-zA,-zB,-zC,-zD,-zE,clH,cluZ,z769,zs2b]
end
section
set_option linter.unusedSimpArgs false
set_option linter.unusedVariables false
open Go Go.Am
noncomputable def zk98:Tbl:=addT 58 (.pure (cIb fun s=>decide (s=1))) T112
theorem zj65:zk98 58 = .pure (cIb fun s=>decide (s=1)):=by simp [zk98]
theorem zftl:zk98 9 = .pure (cC1 zwdn):=by simp [zk98,T112]
theorem zurs:zk98 55 = .new cNC:=by simp [zk98,T112]
theorem zz9k:zk98 49 = .pure cTm:=by simp [zk98,T112]
theorem zevx:zk98 31 = .pure (cCi fun c i => .int .i64 (z092 c.i.l i)):=by simp [zk98,T112]
theorem zq3k:zk98.Sound P:=z0rp (z47b fun s=>zljw mix zr5o Tryd.func58 zt5h (z12q s)) zw51
theorem zdcm (c:Clu) (id t:Int):Runs zk98 a57 [.agg (clC c),.int .i64 id,.int .i64 t,.int .i64 2,.fn (.func 58) [] []] (zobb c id t 2):=by
 refine ⟨?_⟩
 by_cases hv:ValidC c
 case neg =>
  have hd:z5wo c id t 2=(clu0,1):=by rw [z5wo,if_pos (.inl hv)]
  simp (disch:=first|omega|simp<;>omega|fail) [-zA,-zB,-zC,-zD,-zE,a57,zftl,zf0o,zwdn,zz9k,zixp,zevx,z3mn,zobb,zewf hv,hd,z3cj]
 by_cases ht:zcie t
 case neg =>
  have hd:z5wo c id t 2=(clu0,1):=by rw [z5wo,if_pos (.inr ht)]
  simp (disch:=first|omega|simp<;>omega|fail) [-zA,-zB,-zC,-zD,-zE,a57,zftl,zf0o,zwdn,zz9k,zixp,zevx,z3mn,zobb,zogs hv,zewf ht,hd,z3cj]
 have hnn:¬ (¬ ValidC c∨¬ zcie t):=fun h=>h.elim (fun h=>h hv) (fun h=>h ht)
 by_cases hx:z092 c.i.l id<0
 ·have hd:z5wo c id t 2=(clu0,4):=by rw [z5wo,if_neg hnn,if_pos hx]
  simp (disch:=first|omega|simp<;>omega|fail) [-zA,-zB,-zC,-zD,-zE,a57,zftl,zf0o,zwdn,zz9k,zixp,zevx,z3mn,zobb,zogs hv,zogs ht,hx,hd,z3cj]
 obtain ⟨k,hk,hke,_,_⟩:=zgr5 (show 0≤z092 c.i.l id by omega)
 have hke:z092 c.i.l id=k:=hke
 have hx':¬ (k:Int)<0:=by omega
 have hk':(k:Int)<c.i.l.length:=by omega
 obtain ⟨x,hxe⟩ : ∃ x,c.i.l[k]=x:=⟨_,rfl⟩
 have hgx : ∀ H,zpsc H 37 (c.i.dv 37 inC) k=some (.ref (inC x)):=fun H=>by rw [zalo z6gw hk,hxe]
 have hopt:c.i.l[k]? = some x:=by rw [y0b hk,hxe]
 by_cases hm:x.state=1
 case neg =>
  have hd:z5wo c id t 2=(clu0,30):=by rw [z5wo,if_neg hnn,if_neg hx,hke]; simp [hopt,may]; simpa using hm
  have hm':¬ x.state=1:=by simpa using hm
  simp (disch:=first|omega|simp<;>omega|fail) [-zA,-zB,-zC,-zD,-zE,a57,zftl,zf0o,zwdn,zz9k,zixp,zevx,z3mn,zobb,zogs hv,zogs ht,hke,hx',hk',hk,hgx,zj65,z57z,hm',hd,z3cj]
 have hd:z5wo c id t 2=(⟨c.clone.g,own (c.i.l.set k ((x.st 2).si t)),c.next⟩,0):=by
  rw [z5wo,if_neg hnn,if_neg hx,hke,if_pos (by simp [hopt,may]; simpa using hm)]
  simp only [y0d,setI,hopt]
 have hm':x.state=1:=by simpa using hm
 have ho:=zqrs (l:=c.i.l.set k ((x.st 2).si t)) (s:=37) (f:=inC) (by rw [y03]; exact c.i.b)
 have ha : ∀ l:List Grp,(l.flatMap grC).length=l.length*6:=z1rq zry4
 have hb : ∀ l:List Ins,(l.flatMap inC).length=l.length*37:=z1rq z6gw
 have hg:=zc46 hv hk
 have hi:c.i.l≠[]:=by intro e; rw [e] at hk; simp at hk
 have e2:=z895 (f:=grC) hg
 have e3:=z2ra (id:=4) (s:=6) (f:=grC) (zkrv hg)
 have e4:=z895 (f:=grC) (zkrv hg)
 have e6:=zpgv hg
 have e7:=zq57 (l:=c.g.l.map Grp.clone) (n:=c.g.l.length) (by simp)
 have f1:=z2ra (id:=5) (s:=37) (f:=inC) hi
 have f2:=z895 (f:=inC) hi
 have s1 : ∀ H id,zy6o H id 1 (k*37+34) (.int .i64 2) (some (c.i.l.flatMap inC))=some (.junk,H.set id (.cells ((c.i.l.set k (x.st 2)).flatMap inC))):=fun H id=>by rw [zajs hk,hxe]
 have s2 : ∀ H id,zy6o H id 1 (k*37+35) (.int .i64 t) (some ((c.i.l.set k (x.st 2)).flatMap inC))=some (.junk,H.set id (.cells ((c.i.l.set k ((x.st 2).si t)).flatMap inC))):=fun H id=>by
  rw [zjzz (by rw [y03]; exact hk),y19,List.set_set]
 have e8:=z5fn (l:=c.i.l.set k ((x.st 2).si t)) (n:=c.i.l.length) (by rw [y03]; exact y06 _)
 simp (disch:=first|omega|simp<;>omega|fail) [-zA,-zB,-zC,-zD,-zE,a57,zftl,zf0o,zwdn,zz9k,zixp,zevx,z3mn,zobb,zogs hv,zogs ht,hke,hx',hk',hk,hgx,zj65,z57z,hm',zurs,z1a8,clW,e2,e3,e4,e6,e7,e8,f1,f2,ha,hb,zbo5,zbcp,s1,s2,hd,zdhs,ho]
noncomputable def z1ls:Tbl:=addT 57 (.pure (cChg 58 2)) tbl0
theorem ze64:z1ls 57 = .pure (cChg 58 2):=by simp [z1ls]
theorem zofp:z1ls.Sound P:=z0rp (z2au fun p _=>zljw mix zq3k Tryd.func57 zfce (zdcm p.1 p.2.1 p.2.2)) zr5o
theorem z2qk (c:Clu) (id t:Int):Runs z1ls a30 [.agg (clC c),.int .i64 id,.int .i64 t] (zobb c id t 2):=by
 refine ⟨?_⟩
 simp (disch:=first|omega|simp<;>omega|fail) [-zA,-zB,-zC,-zD,-zE,a30,ze64,zesv,zobb]
noncomputable def zwot:Tbl:=addT 28 (.pure (cDep z5em)) (addT 29 (.pure (cSta z4xq)) (addT 30 (.pure (cCii fun c i t=>zobb c i t 2)) (addT 9 (.pure (cC1 zwdn)) (addT 31 (.pure (cCi fun c i => .int .i64 (z092 c.i.l i))) (addT 20 (.pure (cCSS grpD)) tbl0)))))
theorem z8iv:zwot 28 = .pure (cDep z5em):=by simp [zwot]
theorem zems:zwot 29 = .pure (cSta z4xq):=by simp [zwot]
theorem zang:zwot 30 = .pure (cCii fun c i t=>zobb c i t 2):=by simp [zwot]
theorem zloz:zwot 9 = .pure (cC1 zwdn):=by simp [zwot]
theorem zgz8:zwot 31 = .pure (cCi fun c i => .int .i64 (z092 c.i.l i)):=by simp [zwot]
theorem z095:zwot 20 = .pure (cCSS grpD):=by simp [zwot]
theorem zmqr:zwot.Sound P:=z0rp (z2au fun p _=>zljw mix zw51 Tryd.func28 z43f (zy08 p.1 p.2)) (z0rp (z2au fun p _=>zljw mix zw51 Tryd.func29 ztig (z1bv p.1 p.2.1 p.2.2.1 p.2.2.2)) (z0rp (z2au fun p _=>zljw mix zofp Tryd.func30 z3f8 (z2qk p.1 p.2.1 p.2.2)) (z0rp (z2au fun x _=>zljw mix zmu9 Tryd.func9 z528 (ztir x)) (z0rp (z2au fun x _=>zljw mix zw83 Tryd.func31 zjer (z7dp x.1 x.2)) (z0rp (z2au fun x _=>zljw mix z149 Tryd.func20 zfgm (zy3o x.1 x.2.1 x.2.2)) zr5o)))))
theorem zker:Runs zwot a13 [] (.bool true):=by
 obtain ⟨c1,e1,g1,i1,n1⟩:=z201 z02k rfl rfl
 obtain ⟨c2,e2,g2,i2,n2⟩:=zqes g1 i1 n1 (t:=5) (by decide)
 obtain ⟨c3,e3,g3,i3,n3⟩ : ∃ c',z5wo c2 1 6 2=(c',0)∧OneG c' gA.clone.clone.clone∧c'.i.l=[⟨1,0,d1,2,6,-1⟩]∧c'.next=2:=by
  rcases zhti g2 i2 n2 (zdkt (by decide) (by decide) (by decide)) rfl (t:=6) (by decide) (to:=2) (.inl rfl) with ⟨_,h⟩|⟨h,_⟩
  ·exact h
  ·simp [may] at h
 have e4:z5wo c3 1 7 2=(clu0,30):=by
  rcases zhti g3 i3 n3 (zdkt (by decide) (by decide) (by decide)) rfl (t:=7) (by decide) (to:=2) (.inl rfl) with ⟨h,_⟩|⟨_,h⟩
  ·simp [may] at h
  ·exact h
 have v3:ValidC c3:=zobj g3 (.inr ⟨_,i3,by rw [n3]; exact zdkt (by decide) (by decide) (by decide)⟩) (by omega) (by omega)
 have h3:=zzmg i3
 have k1:z092 c3.i.l 1=0:=by rw [i3]; simp [z092,ixI]
 have k2:z9w0 c3.g.l [97] [98]=0:=by rw [g3.g]; simp [z9w0,ixI,fitG,g3.a,g3.b]
 have f1:cDep z5em [.agg [.nils,.nils,.int .i64 1],.agg [.str [97],.str [98],.int .i64 1,.int .i64 0,.int .i64 0,.sl true 32 1 (dgC d1)]]=some (z5em cA gA):=zm3o (c:=cA) (g:=gA)
 have b3:zvnk [.str [],.str [],.int .i64 0,.int .i64 0,.int .i64 0,.nils] [(0,1,.str [97]),(1,1,.str [98]),(2,1,.int .i64 1),(5,1,.sl true 32 1 (dgC d1))]=some (.agg [.str [97],.str [98],.int .i64 1,.int .i64 0,.int .i64 0,.sl true 32 1 (dgC d1)]):=rfl
 refine ⟨?_⟩
 simp (disch:=first|omega|simp<;>omega|fail) [-zA,-zB,-zC,-zD,-zE,a13,z8iv,zems,zang,zloz,zgz8,z095,b0,b1,b2,b3,f1,zx1h,zl2e,zf0o,z3mn,zojl,z5em,z4xq,zobb,zwdn,grpD,e1,e2,e3,e4,zogs v3,h3,k1,k2]
end
section
set_option linter.unusedSimpArgs false
set_option linter.unusedVariables false
open Go Go.Am
theorem zbix {A m B cs:List DV} {j:Nat} (h:j+cs.length≤m.length):zk7y (A++(m++B)) (A.length+j) cs=A++(zk7y m j cs++B):=by
 unfold zk7y
 have e1:(A++(m++B)).take (A.length+j)=A++m.take j:=by
  rw [List.take_append,y00 (by omega),y0c,y0a (by omega)]
 have e2:(A++(m++B)).drop (A.length+j+cs.length)=m.drop (j+cs.length)++B:=by
  rw [show A.length+j+cs.length=A.length+(j+cs.length) by omega,List.drop_append,y0t (by omega),y0c,y17,List.drop_append_of_le_length (by omega)]
 rw [e1,e2]
 simp
section
variable {α:Type} {f:α→List DV} {K:Nat}
theorem ztxg {l:List α} {k:Nat} (hk:k<l.length):l.flatMap f=(l.take k).flatMap f++(f l[k]++(l.drop (k+1)).flatMap f):=by
 conv=>lhs; rw [← List.take_append_drop k l,y0p hk,y1b,y0z]
theorem z4ry (hu : ∀ a,(f a).length=K) {l:List α} {k:Nat} (hk:k<l.length) {j:Nat} {cs:List DV} (hj:j+cs.length≤K) {x:α} (hx:f x=zk7y (f l[k]) j cs):zk7y (l.flatMap f) (k*K+j) cs=(l.set k x).flatMap f:=by
 have hA:((l.take k).flatMap f).length=k*K:=by rw [z1rq hu,y11,Nat.min_eq_left (by omega)]
 rw [ztxg hk,← hA,zbix (by rw [hu]; exact hj),← hx]
 rw [ztxg (l:=l.set k x) (by simpa using hk),y19]
 congr 1
 ·rw [List.take_set_of_le (y06 k)]
 ·congr 2
  rw [List.drop_set_of_lt (by omega)]
theorem zwul (hu : ∀ a,(f a).length=K) {l:List α} {k:Nat} (hk:k<l.length) : ∃ r,(l.flatMap f).drop (k*K)=f l[k]++r:=by
 have hA:((l.take k).flatMap f).length=k*K:=by rw [z1rq hu,y11,Nat.min_eq_left (by omega)]
 exact ⟨(l.drop (k+1)).flatMap f,by rw [ztxg hk,← hA,List.drop_append,List.drop_length,y0r,y17,y04]⟩
end
def isF (l:List Ins):Sl Ins:=if l=[] then nilI else own l
theorem z9b3 {h:List AObj} {I:Nat} {l:List Ins} (hn:l.length≤1000) (ho:l≠[]→ziu0 h I=some (l.flatMap inC)) (k:Nat):snap h (k+1) (ivD I l)=some ((isF l).dv 37 inC):=by
 by_cases e:l=[]
 ·subst e; rw [zx4y,z7d7]; rfl
 ·have hl:=z1rq z6gw l
  rw [zpq1 e,isF,if_neg e,zve7,zw28 (ho e) hl,y01,y04,y00 (by omega),z619 (zp6k z9kv _),zqrs (by omega)]
  rfl
structure Fin (h:List AObj) (C:Nat) (gp:DV):Prop where
 ex : ∃ (u v:DV) (m:Int) (c':Clu) (gc cs:List DV) (g':Grp),objV h C 3=some [u,v,.int .i64 m]∧z4tt h 3 [.agg [u,v,.int .i64 m]]=some [.agg (clC c')]∧zcxs h gp=some gp∧vis h gp=some cs∧oneC 6 true cs=some (.agg gc)∧z4tt h 3 [.agg gc]=some [.agg (grC g')]
structure LF (h:List AObj) (C G:Nat) (gs:List LG) (I:Nat) (l:List Ins) (n:Int):Prop where
 c:ziu0 h C=some [gvD G gs,ivD I l,.int .i64 n]
 g:GsO h G gs
 i:l≠[]→ziu0 h I=some (l.flatMap inC)
 l:l.length≤1000
theorem LF.fin {h:List AObj} {C G:Nat} {gs:List LG} {I:Nat} {l:List Ins} {n:Int} (q:LF h C G gs I l n) {k:Nat} (hk:k<gs.length):Fin h C (.mp G (gs.length*6) (k*6)):=by
 have hne:gs≠[]:=by intro e; subst e; simp at hk
 have hv:=q.g.objV hne
 obtain ⟨r,hr⟩:=zwul zd3f hk
 refine ⟨gvD G gs,ivD I l,n,⟨gsF gs,isF l,n⟩,gs[k].c,gs[k].c++r,gs[k].f,zw28 q.c rfl,?_,?_,?_,?_,(q.g.g _ (y08 hk)).agg⟩
 ·simp only [zrz6,zfu7,zqb3,q.g.snap 1,z9b3 q.l q.i,zdef,y01,y02]
  rfl
 ·rw [zbff,hv]; rfl
 ·rw [zk6e,hv,y02]
  exact congrArg some hr
 ·simp only [oneC,if_true]
  rw [if_pos (by simp [zd3f]),y0a (by rw [zd3f]; omega),y00 (by rw [zd3f]; omega)]
theorem zhb3 {c:List DV→Option DV} {h:List AObj} {args args':List DV} {v:DV} (hs:z4tt h 3 args=some args') (e:c args'=some v) (hv:scal v=true):zyo0 c args h=some v:=by
 cases hp:zbao args with
 | true =>
  rw [z619 hp] at hs
  simp only [Option.some.injEq] at hs
  subst hs
  rw [z7h3 hp,e]
 | false=>rw [zl41 hp,hs,y01,e,y01,if_pos hv]
theorem z4mo {h:List AObj} {id:Nat} {l c:List DV} (e:ziu0 h id=some l):ziu0 (h.set id (.cells c)) id=some c:=by
 unfold ziu0; rw [y0l (z7ba e)]
theorem LgO.set {h:List AObj} {g:LG} (q:LgO h g) {id:Nat} {c:List DV} (hne:id≠g.ci):LgO (h.set id (.cells c)) g:=⟨by rw [ztfj hne]; exact q.o,q.ne,q.n⟩
structure LA (C G:Nat) (gs:List LG) (I:Nat) (l:List Ins):Prop where
 cg:C≠G
 ci:l≠[]→C≠I∧G≠I
 cc : ∀ x ∈ gs,x.ci≠C∧x.ci≠G∧(l≠[]→x.ci≠I)
 nd:(gs.map LG.ci).Nodup
 n2:gs.length≤2
theorem LF.grp {h:List AObj} {C G:Nat} {gs:List LG} {I:Nat} {l:List Ins} {n:Int} (q:LF h C G gs I l n) (a:LA C G gs I l) {k:Nat} (hk:k<gs.length) {x:LG} (hc:x.ci=gs[k].ci) (hch:x.ch=gs[k].ch) :
  LF (h.set G (.cells (lgs (gs.set k x)))) C G (gs.set k x) I l n:=by
 have hne:gs≠[]:=by intro e; subst e; simp at hk
 have hne':gs.set k x≠[]:=by intro e; have:=congrArg List.length e; simp at this; exact hne this
 have e:gvD G (gs.set k x)=gvD G gs:=by rw [z0on hne,z0on hne',y03]
 refine ⟨by rw [ztfj (Ne.symm a.cg),e]; exact q.c,⟨fun _=>z4mo (q.g.o hne),fun y hy => ?_,by simpa using q.g.n⟩,fun e=>by rw [ztfj (a.ci e).2]; exact q.i e,q.l⟩
 rcases y0q hy with hy|hy
 ·exact (q.g.g y hy).set (Ne.symm (a.cc y hy).2.1)
 ·subst hy
  have hm:=y08 hk
  have w:=(q.g.g _ hm).set (c:=lgs (gs.set k y)) (Ne.symm (a.cc _ hm).2.1)
  exact ⟨by rw [hc,hch]; exact w.o,by rw [hch]; exact w.ne,by rw [hch]; exact w.n⟩
theorem LF.ins {h:List AObj} {C G:Nat} {gs:List LG} {I:Nat} {l:List Ins} {n:Int} (q:LF h C G gs I l n) (a:LA C G gs I l) {j:Nat} (hj:j<l.length) (x:Ins):LF (h.set I (.cells ((l.set j x).flatMap inC))) C G gs I (l.set j x) n:=by
 have hne:l≠[]:=by intro e; subst e; simp at hj
 have hne':l.set j x≠[]:=by intro e; have:=congrArg List.length e; simp at this; exact hne this
 have e:ivD I (l.set j x)=ivD I l:=by rw [zpq1 hne,zpq1 hne',y03]
 exact ⟨by rw [ztfj (Ne.symm (a.ci hne).1),e]; exact q.c,⟨fun e=>by rw [ztfj (Ne.symm (a.ci hne).2)]; exact q.g.o e,fun y hy=>(q.g.g y hy).set (Ne.symm ((a.cc y hy).2.2 hne)),q.g.n⟩,fun _=>z4mo (q.i hne),by simpa using q.l⟩
theorem LF.nxt {h:List AObj} {C G:Nat} {gs:List LG} {I:Nat} {l:List Ins} {n:Int} (q:LF h C G gs I l n) (a:LA C G gs I l) (m:Int):LF (h.set C (.cells [gvD G gs,ivD I l,.int .i64 m])) C G gs I l m :=
 ⟨z4mo q.c,⟨fun e=>by rw [ztfj a.cg]; exact q.g.o e,fun y hy=>(q.g.g y hy).set (Ne.symm (a.cc y hy).1),q.g.n⟩,fun e=>by rw [ztfj (a.ci e).1]; exact q.i e,q.l⟩
theorem LF.oth {h:List AObj} {C G:Nat} {gs:List LG} {I:Nat} {l:List Ins} {n:Int} (q:LF h C G gs I l n) {id:Nat} {c:List DV} (h1:id≠C) (h2:id≠G) (h3:l≠[]→id≠I) (h4 : ∀ x ∈ gs,id≠x.ci):LF (h.set id (.cells c)) C G gs I l n :=
 ⟨by rw [ztfj h1]; exact q.c,⟨fun e=>by rw [ztfj h2]; exact q.g.o e,fun y hy=>(q.g.g y hy).set (h4 y hy),q.g.n⟩,fun e=>by rw [ztfj (h3 e)]; exact q.i e,q.l⟩
theorem z9w5 {h:List AObj} {G:Nat} {gs:List LG} {k j:Nat} (hk:k<gs.length) {y:DV} (hj:j<6) (hc:y.cells=[y]) (h1:y.one=true) {x:LG} (hx:x.c=zk7y gs[k].c j [y]):zy6o h G 1 (k*6+j) y (some (lgs gs))=some (.junk,h.set G (.cells (lgs (gs.set k x)))):=by
 have hl:=zyc3 gs
 simp only [zy6o,hc]
 rw [if_pos ⟨rfl,by rw [hl]; omega,by simp [h1]⟩]
 rw [show zk7y (lgs gs) (k*6+j) [y]=lgs (gs.set k x) from z4ry zd3f hk (by simp; omega) hx]
theorem zcio {h:List AObj} {I m:Nat} {l:List Ins} {k j:Nat} (hk:k<l.length) {y:DV} (hj:j+m≤37) (hm:y.cells.length=m) (h1:y.cells.all DV.one=true) {x:Ins} (hx:inC x=zk7y (inC l[k]) j y.cells):zy6o h I m (k*37+j) y (some (l.flatMap inC))=some (.junk,h.set I (.cells ((l.set k x).flatMap inC))):=by
 have hl:=z1rq z6gw l
 simp only [zy6o]
 rw [if_pos ⟨hm,by rw [hl]; omega,h1⟩]
 rw [show zk7y (l.flatMap inC) (k*37+j) y.cells=(l.set k x).flatMap inC from z4ry z6gw hk (by omega) hx]
theorem zgpi (x:Ins) (v:Int):inC ⟨v,x.grp,x.art,x.state,x.since,x.den⟩=zk7y (inC x) 0 [.int .i64 v]:=rfl
theorem zc0o (x:Ins) (v:Int):inC ⟨x.id,v,x.art,x.state,x.since,x.den⟩=zk7y (inC x) 1 [.int .i64 v]:=rfl
theorem z96l (x:Ins) (d:Dg):inC ⟨x.id,x.grp,d,x.state,x.since,x.den⟩=zk7y (inC x) 2 (dgC d):=by
 have:=zbix (A:=[.int .i64 x.id,.int .i64 x.grp]) (m:=dgC x.art) (B:=[.int .i64 x.state,.int .i64 x.since,.int .i64 x.den]) (cs:=dgC d) (j:=0) (by simp [z1t1])
 refine Eq.trans ?_ this.symm
 have e:zk7y (dgC x.art) 0 (dgC d)=dgC d:=by
  unfold zk7y
  rw [List.take_zero,y17,Nat.zero_add,y0t (by rw [z1t1,z1t1]; exact y06 _),y0h]
 rw [e]; rfl
theorem z9ch (x:Ins) {y z:List DV} {i:Nat} {v:DV} (hi:i<3) (h:zk7y [.int .i64 x.state,.int .i64 x.since,.int .i64 x.den] i [v]=z):zk7y (inC x) (34+i) [v]=(DV.int .i64 x.id :: .int .i64 x.grp::dgC x.art)++z:=by
 have:=zbix (A:=DV.int .i64 x.id :: .int .i64 x.grp::dgC x.art) (m:=[.int .i64 x.state,.int .i64 x.since,.int .i64 x.den]) (B:=[]) (cs:=[v]) (j:=i) (by simp; omega)
 rw [zqxx,y0h,y0h,h] at this
 exact this
theorem zkw1 (x:Ins) (v:Int):inC ⟨x.id,x.grp,x.art,v,x.since,x.den⟩=zk7y (inC x) 34 [.int .i64 v]:=(z9ch (y:=[]) x (i:=0) (by omega) rfl).symm
theorem zn3m (x:Ins) (v:Int):inC ⟨x.id,x.grp,x.art,x.state,v,x.den⟩=zk7y (inC x) 35 [.int .i64 v]:=(z9ch (y:=[]) x (i:=1) (by omega) rfl).symm
theorem z2j3 (x:Ins) (v:Int):inC ⟨x.id,x.grp,x.art,x.state,x.since,v⟩=zk7y (inC x) 36 [.int .i64 v]:=(z9ch (y:=[]) x (i:=2) (by omega) rfl).symm
end
section
set_option linter.unusedSimpArgs false
set_option linter.unusedVariables false
open Go Go.Am
noncomputable def TL:Tbl:=addT 5 (.new zl5p) (addT 7 (.tch z1m3) (addT 8 (.pure zqmv) (addT 9 (.pure (cC1 zwdn)) (addT 10 (.pure (cC1 zwdn)) (addT 11 (.pure (cG1 zoy9)) (addT 12 (.pure (cG1 zoy9)) (addT 13 (.pure z7wg) tbl0)))))))
theorem TL_t:TL 5 = .new zl5p:=by simp [TL]
theorem TL_n:TL 7 = .tch z1m3:=by simp [TL]
theorem TL_w:TL 8 = .pure zqmv:=by simp [TL]
theorem TL_v:TL 9 = .pure (cC1 zwdn):=by simp [TL]
theorem ziqz:TL 10 = .pure (cC1 zwdn):=by simp [TL]
theorem TL_g:TL 11 = .pure (cG1 zoy9):=by simp [TL]
theorem z89v:TL 12 = .pure (cG1 zoy9):=by simp [TL]
theorem TL_a:TL 13 = .pure z7wg:=by simp [TL]
theorem zd8n:TL.Sound P:=z0rp ze95 (z0rp z51e (z0rp zno0
 (z0rp (z2au fun x _=>zljw mix zmu9 Tryd.func9 z528 (ztir x))
 (z0rp (z2au fun x _=>zljw mix zwqh Tryd.func10 z1ee (zkeg x))
 (z0rp (z2au fun x _=>zljw mix z2gv Tryd.func11 zbwx (zzqf x))
 (z0rp (z2au fun x _=>zljw mix zp0j Tryd.func12 zqkh (zwe9 x))
 (z0rp (zg9q (zljw mix zmqr Tryd.func13 zm5y zker)) zr5o)))))))
def LG.up (g:LG):LG:=⟨g.ns,g.im,g.want,g.least,g.down,g.ci+1,g.ch⟩
theorem zrzb {g:LG} (h:3≤g.ci):rnL 1 2 g.c=g.up.c:=by
 obtain ⟨c,hc⟩ : ∃ c,g.ci=c+1:=⟨g.ci-1,by omega⟩
 simp only [LG.c,zlt4,zuoj,zjqi,zu07,z72s,hc,z8s4,LG.up]
 rw [show 2+c=c+1+1 by omega]
theorem z0au : ∀ {gs:List LG},(∀ g ∈ gs,3≤g.ci)→rnL 1 2 (lgs gs)=lgs (gs.map LG.up)
 | [],_=>rfl
 | g::gs,h=>by
  show rnL 1 2 (g.c++lgs gs)=g.up.c++lgs (gs.map LG.up)
  rw [zzl0,zrzb (h g (by simp)),z0au fun x hx=>h x (by simp [hx])]
def hM (s:LvS) (d:Dg):List AObj := .cells (dgC d) :: .cells (tpC s.t)::s.m.map (rnO 1 2)
theorem zly6 {s:LvS} {d:Dg} {id:Nat} {l:List DV} (h:ziu0 s.h id=some l) (h3:3≤id):ziu0 (hM s d) (id+1)=some (rnL 1 2 l):=by
 obtain ⟨j,rfl⟩ : ∃ j,id=j+1:=⟨id-1,by omega⟩
 have h:ziu0 s.m j=some l:=h
 show ziu0 (s.m.map (rnO 1 2)) j=some (rnL 1 2 l)
 have:=zhmt h
 unfold ziu0
 rw [List.getElem?_map,this]
 rfl
def vM (s:LvS):List DV:=[gvD (s.G+1) (s.gs.map LG.up),ivD (s.I+1) s.l,.int .i64 s.n]
theorem LvOK.rn {s:LvS} (q:LvOK s):rnD 1 2 s.d = .agg (vM s):=by
 have h1:=q.q.G3 q.ne
 have hne:s.gs.map LG.up≠[]:=by simpa using q.ne
 obtain ⟨G,hG⟩ : ∃ c,s.G=c+1:=⟨s.G-1,by omega⟩
 have e1:rnD 1 2 (gvD s.G s.gs)=gvD (s.G+1) (s.gs.map LG.up):=by
  rw [z0on q.ne,z0on hne,hG,z8s4,List.length_map,show 2+G=G+1+1 by omega]
 have e2:rnD 1 2 (ivD s.I s.l)=ivD (s.I+1) s.l:=by
  by_cases e:s.l=[]
  ·rw [e,zx4y,zx4y]; rfl
  ·have:=(q.o e).2.1
   obtain ⟨I,hI⟩ : ∃ c,s.I=c+1:=⟨s.I-1,by omega⟩
   rw [zpq1 e,zpq1 e,hI,z8s4,show 2+I=I+1+1 by omega]
 show DV.agg (rnL 1 2 [gvD s.G s.gs,ivD s.I s.l,.int .i64 s.n])=_
 rw [zuoj,zuoj,zuoj,zjqi,e1,e2,z72s]; rfl
structure LH (h:List AObj) (C G:Nat) (gs:List LG) (I:Nat) (l:List Ins) (n:Int) (d:Dg) (t:Tp):Prop where
 q:LF h C G gs I l n
 a:LA C G gs I l
 ne:gs≠[]
 o0:ziu0 h 0=some (dgC d)
 o1:ziu0 h 1=some (tpC t)
 C2:2≤C
 G2:2≤G
 I2:l≠[]→2≤I
 c2 : ∀ x ∈ gs,2≤x.ci∧x.ch.length≤5
 l6:l.length≤6
 n0:0≤n
 n1:n≤1001
 t:t.at_<3999999200
theorem LvOK.lh {s:LvS} (q:LvOK s) (d:Dg):LH (hM s d++[.cells (vM s)]) (hM s d).length (s.G+1) (s.gs.map LG.up) (s.I+1) s.l s.n d s.t:=by
 have hne:s.gs.map LG.up≠[]:=by simpa using q.ne
 have hG:=zly6 (d:=d) (q.q.s.o q.ne) (q.q.G3 q.ne)
 rw [z0au fun g hg=>(q.q.c3 g hg).1] at hG
 have hc : ∀ x ∈ s.gs,ziu0 (hM s d) (x.ci+1)=some (x.ch.flatMap dgC):=fun x hx=>by
  have:=zly6 (d:=d) (q.q.s.g x hx).o (q.q.c3 x hx).1
  rwa [zmhl _ _ _ (zp6k z3ot _)] at this
 have hI:s.l≠[]→ziu0 (hM s d) (s.I+1)=some (s.l.flatMap inC):=fun e=>by
  have:=zly6 (d:=d) (q.o e).1 (q.o e).2.1
  rwa [zmhl _ _ _ (zp6k z9kv _)] at this
 have hl6:=q.l6
 have hg2:=q.g2
 have hlen:(hM s d).length=s.m.length+2:=by simp [hM]
 refine ⟨⟨by simp [ziu0,vM],⟨fun _=>zl74 hG,fun y hy => ?_,by simp; omega⟩,fun e=>zl74 (hI e),by omega⟩,⟨?_,fun e => ?_,fun y hy => ?_,?_,by simpa using hg2⟩,hne,rfl,rfl,by omega,by have:=q.q.G3 q.ne; omega,fun e=>by have:=(q.o e).2.1; omega,fun y hy => ?_,hl6,q.n0,by have:=q.n1; omega,by have:=q.t; omega⟩
 ·obtain ⟨x,hx,rfl⟩:=y14.1 hy
  exact ⟨zl74 (hc x hx),(q.q.s.g x hx).ne,(q.q.s.g x hx).n⟩
 ·have:=z7ba hG; omega
 ·have:=z7ba (hI e)
  have:=(q.o e).2.2.1
  exact ⟨by omega,by omega⟩
 ·obtain ⟨x,hx,rfl⟩:=y14.1 hy
  have h1:=z7ba (hc x hx)
  have h2:=(q.q.c3 x hx).2.1
  refine ⟨?_,?_,fun e => ?_⟩
  ·show x.ci+1≠_; omega
  ·show x.ci+1≠_; omega
  ·have:=(q.o e).2.2.2 x hx
   show x.ci+1≠_; omega
 ·have e:(s.gs.map LG.up).map LG.ci=(s.gs.map LG.ci).map (· + 1):=by simp [List.map_map,Function.comp_def,LG.up]
  rw [e]
  exact List.Pairwise.map _ (fun a b h=>by omega) q.q.nd
 ·obtain ⟨x,hx,rfl⟩:=y14.1 hy
  have:=(q.q.c3 x hx)
  exact ⟨by show 2≤x.ci+1; omega,this.2.2.2.2⟩
theorem LH.lt {h:List AObj} {C G:Nat} {gs:List LG} {I:Nat} {l:List Ins} {n:Int} {d:Dg} {t:Tp} (q:LH h C G gs I l n d t):C<h.length:=z7ba q.q.c
theorem LH.tape {h:List AObj} {C G:Nat} {gs:List LG} {I:Nat} {l:List Ins} {n:Int} {d:Dg} {t t':Tp} (q:LH h C G gs I l n d t) (ht:t'.at_<3999999200):LH (h.set 1 (.cells (tpC t'))) C G gs I l n d t':=by
 have h1:=q.C2
 have h2:=q.G2
 exact ⟨q.q.oth (by omega) (by omega) (fun e=>by have:=q.I2 e; omega) (fun x hx=>by have:=(q.c2 x hx).1; omega),q.a,q.ne,by rw [ztfj (by omega)]; exact q.o0,z4mo q.o1,q.C2,q.G2,q.I2,q.c2,q.l6,q.n0,q.n1,ht⟩
def inX (n:Int):Ins:=⟨n,0,dgW 1#8,1,0,-1⟩
theorem zfq0 {n:Int}:zvnk (inC in0) [(0,1,.int .i64 n),(2,32,.agg (dgC (dgW 1#8))),(34,1,.int .i64 1),(36,1,.int .i64 (-1))]=some (.agg (inC (inX n))):=rfl
theorem zcgn {h:List AObj} {C v:Nat} {c:List DV} (hl:C<h.length):objV (h.set C (.cells c)) C v=if c.length=v then some c else none:=by
 unfold objV ziu0; rw [y0l hl]; rfl
theorem zelk {h r:List AObj} {C v:Nat} {c:List DV} (hl:C<h.length):objV (h.set C (.cells c)++r) C v=if c.length=v then some c else none:=by
 rw [← y0m _ _ hl]; exact zcgn (by simp; omega)
theorem LH.first {h:List AObj} {C G:Nat} {gs:List LG} {I:Nat} {n:Int} {d:Dg} {t:Tp} (q:LH h C G gs I [] n d t) (hn:n≤1000) (x:Ins):LH (h.set C (.cells [gvD G gs,ivD h.length [x],.int .i64 (n+1)])++[AObj.cells (inC x)]) C G gs h.length [x] (n+1) d t:=by
 have hc:=q.lt
 have hG:=z7ba (q.q.g.o q.ne)
 have hci : ∀ y ∈ gs,y.ci<h.length:=fun y hy=>z7ba (q.q.g.g y hy).o
 have h1:=q.C2
 have h2:=q.n0
 rw [← y0m _ _ hc]
 refine ⟨⟨z4mo (zl74 q.q.c),⟨fun e=>by rw [ztfj q.a.cg]; exact zl74 (q.q.g.o e),fun y hy=>((q.q.g.g y hy).app _).set (Ne.symm (q.a.cc y hy).1),q.q.g.n⟩,fun _ => ?_,by simp⟩,⟨q.a.cg,fun _=>⟨by omega,by omega⟩,fun y hy=>⟨(q.a.cc y hy).1,(q.a.cc y hy).2.1,fun _=>by have:=hci y hy; omega⟩,q.a.nd,q.a.n2⟩,q.ne,by rw [ztfj (by omega)]; exact zl74 q.o0,by rw [ztfj (by omega)]; exact zl74 q.o1,q.C2,q.G2,fun _=>by omega,q.c2,by simp,by omega,by omega,q.t⟩
 have e:ziu0 (h++[AObj.cells (inC x)]) h.length=some (inC x):=by simp [ziu0]
 rw [ztfj (by omega),e]
 simp
end
section
set_option linter.unusedSimpArgs false
set_option linter.unusedVariables false
open Go Go.Am
def LG.cho (g:LG) (d:Dg):LG:=⟨g.ns,g.im,g.want,g.least,g.down,g.ci,g.ch++[d]⟩
theorem zb03 {gs:List LG} (h:(gs.map LG.ci).Nodup) {i k:Nat} (hi:i<gs.length) (hk:k<gs.length) (hne:i≠k):gs[i].ci≠gs[k].ci:=fun e=>by
 have:=(List.getElem_inj (xs:=gs.map LG.ci) (i:=i) (j:=k) (h₀:=by simpa using hi) (h₁:=by simpa using hk) h).1 (by simpa using e)
 exact hne this
theorem LF.cho {h:List AObj} {C G:Nat} {gs:List LG} {I:Nat} {l:List Ins} {n:Int} (q:LF h C G gs I l n) (a:LA C G gs I l) {k:Nat} (hk:k<gs.length) (d:Dg) (h5:gs[k].ch.length≤5) :
  LF ((h.set gs[k].ci (.cells ((gs[k].ch++[d]).flatMap dgC))).set G (.cells (lgs (gs.set k (gs[k].cho d))))) C G (gs.set k (gs[k].cho d)) I l n:=by
 have hne:gs≠[]:=by intro e; subst e; simp at hk
 have hne':gs.set k (gs[k].cho d)≠[]:=by intro e; have:=congrArg List.length e; simp at this; exact hne this
 have e:gvD G (gs.set k (gs[k].cho d))=gvD G gs:=by rw [z0on hne,z0on hne',y03]
 have hm:=y08 hk
 obtain ⟨a1,a2,a3⟩:=a.cc _ hm
 have hG:ziu0 (h.set gs[k].ci (.cells ((gs[k].ch++[d]).flatMap dgC))) G=some (lgs gs):=by rw [ztfj a2]; exact q.g.o hne
 refine ⟨by rw [ztfj (Ne.symm a.cg),ztfj a1,e]; exact q.c,⟨fun _=>z4mo hG,fun y hy => ?_,by simpa using q.g.n⟩,fun e=>by rw [ztfj (a.ci e).2,ztfj (a3 e)]; exact q.i e,q.l⟩
 obtain ⟨i,hi,rfl⟩:=y0w hy
 simp only [y03] at hi
 rw [y13]
 split
 ·rename_i ek
  subst ek
  exact ⟨by show ziu0 _ gs[k].ci=some ((gs[k].ch++[d]).flatMap dgC); rw [ztfj (Ne.symm a2)]; exact z4mo (q.g.g _ hm).o,by simp [LG.cho],by simp [LG.cho]; omega⟩
 ·rename_i ek
  have hmi:=y08 hi
  exact ((q.g.g _ hmi).set (zb03 a.nd hk hi ek)).set (Ne.symm (a.cc _ hmi).2.1)
theorem z4t0 {gs:List LG} {k:Nat} (hk:k<gs.length):oneC 1 false ((lgs gs).drop (k*6+5))=some (.ms gs[k].ci (gs[k].ch.length*32) 0 32 gs[k].ch.length (gs[k].ch.length*32)):=by
 obtain ⟨r,hr⟩:=zwul zd3f hk
 have:(lgs gs).drop (k*6+5)=((lgs gs).drop (k*6)).drop 5:=by rw [List.drop_drop]
 rw [this,show (lgs gs).drop (k*6)=gs[k].c++r from hr]
 rfl
section
variable {K:Nat→Bool} {h:List AObj}
theorem z13a {k:Nat} : ∀ {a b a' b':List DV},fzSo K h k a=some a'→fzSo K h k b=some b'→fzSo K h k (a++b)=some (a'++b')
 | [],b,a',b',h1,h2=>by simp only [zmvq,Option.some.injEq] at h1; subst h1; exact h2
 | x::a,b,a',b',h1,h2=>by
  rw [zhuj] at h1
  obtain ⟨y,e1,h1⟩:=y0k.1 h1
  obtain ⟨r,e2,e3⟩:=y18.1 h1
  subst e3
  rw [List.cons_append,zhuj,e1,y01,z13a e2 h2]
  rfl
theorem LgO.fz {g:LG} (q:LgO h g) (hK:K g.ci=false):fzSo K h 2 g.c=some (grC g.f):=by
 have hn:=q.n
 have hl:(g.ch.flatMap dgC).length=g.ch.length*32:=z1rq z1t1 _
 have e1:(own g.ch).dv 32 dgC = .sl false 32 g.ch.length (g.ch.flatMap dgC):=zqrs (by omega)
 have e2:fzS K h 2 (.ms g.ci (g.ch.length*32) 0 32 g.ch.length (g.ch.length*32))=some (.sl false 32 g.ch.length (g.ch.flatMap dgC)):=by
  rw [znkh,hK,if_neg (by simp),zw28 q.o hl,y01,y04,y00 (by omega),zl6f (zp6k z3ot _),y02]
 simp only [LG.c,zlt4,zhuj,zmvq,zam1,zb3j,e2,y01,y02,grC,LG.f,e1]
theorem ztzd : ∀ {gs:List LG},(∀ x ∈ gs,LgO h x∧K x.ci=false)→fzSo K h 2 (lgs gs)=some ((gs.map LG.f).flatMap grC)
 | [],_=>rfl
 | g::gs,q=>z13a ((q g (by simp)).1.fz (q g (by simp)).2) (ztzd fun x hx=>q x (by simp [hx]))
theorem z6ci {I:Nat} {l:List Ins} (hn:l.length≤1000) (ho:l≠[]→ziu0 h I=some (l.flatMap inC)) (hK:l≠[]→K I=false):fzS K h 3 (ivD I l)=some ((isF l).dv 37 inC):=by
 by_cases e:l=[]
 ·subst e; rfl
 ·have hl:=z1rq z6gw l
  rw [zpq1 e,isF,if_neg e,zi9r,hK e,if_neg (by simp),zw28 (ho e) hl,y01,y04,y00 (by omega),zl6f (zp6k z9kv _),zqrs (by omega)]
  rfl
end
theorem zuyt {K:Nat→Bool} {h:List AObj} : ∀ (l:List DV),fzSL K h l l
 | []=>trivial
 | _::r=>⟨.inr (.inl rfl),zuyt r⟩
theorem zum0 {K:Nat→Bool} {h:List AObj} : ∀ {a a' b b':List DV},fzSL K h a a'→fzSL K h b b'→fzSL K h (a++b) (a'++b')
 | [],[],_,_,_,h2=>h2
 | [],_::_,_,_,h1,_=>by simp [fzSL] at h1
 | _::_,[],_,_,h1,_=>by simp [fzSL] at h1
 | _::_,_::_,_,_,h1,h2=>⟨h1.1,zum0 h1.2 h2⟩
def J6:List DV:=List.replicate 6 .junk
theorem zunf {A C:List DV} (h:C.length=6):zk7y (A++J6) A.length C=A++C:=by
 unfold zk7y
 rw [List.take_left,h,y0t (by simp [J6]),y0h]
theorem zbs1 {h:List AObj} {G:Nat} {gs:List LG} {g:LG} (hv:objV h G (gs.length*6+6)=some (lgs gs++J6)) (hn:gs.length≤100):appX h 6 80 (.ms G (gs.length*6+6) 0 6 gs.length (gs.length*6+6)) 1 g.c=some (.ms G (gs.length*6+6) 0 6 (gs.length+1) (gs.length*6+6),h.set G (.cells (lgs (gs++[g])))):=by
 unfold objV at hv
 obtain ⟨l,h1,h2⟩:=y0k.1 hv
 obtain ⟨h3,h2⟩:=y0v.1 h2
 simp only [Option.some.injEq] at h2
 subst h2
 have hl:=zyc3 gs
 simp only [appX]
 rw [if_neg (by simp [zd3f]),h1,y01,if_pos ⟨h3,trivial,z8no g⟩,if_neg (by omega),if_pos (by omega)]
 rw [show 0+gs.length*6=(lgs gs).length by omega,zunf (zd3f g)]
 simp [lgs]
theorem LF.app {h:List AObj} {C G:Nat} {gs:List LG} {I:Nat} {l:List Ins} {n:Int} (q:LF h C G gs I l n) (a:LA C G gs I l) {g:LG} (hg:g ∈ gs) {X Y:List DV} :
  LF ((((h.set G (.cells X)).set C (.cells Y)).set G (.cells (lgs (gs++[g])))).set C (.cells [.ms G (gs.length*6+6) 0 6 (gs.length+1) (gs.length*6+6),ivD I l,.int .i64 n])) C G (gs++[g]) I l n:=by
 have hne:gs≠[]:=by intro e; subst e; simp at hg
 have hn2:=a.n2
 have e:gvD G (gs++[g]) = .ms G (gs.length*6+6) 0 6 (gs.length+1) (gs.length*6+6):=by
  rw [z0on (by simp),y07,y05,y0n]
 have hG:=q.g.o hne
 have hC:=q.c
 have hGl:=z7ba hG
 have hCl:=z7ba hC
 refine ⟨?_,⟨fun _ => ?_,fun y hy => ?_,by simp; omega⟩,fun e => ?_,q.l⟩
 ·rw [e]; unfold ziu0; rw [y0l (by simp; omega)]
 ·rw [ztfj a.cg]; unfold ziu0; rw [y0l (by simp; omega)]
 ·have hy':y ∈ gs:=by
   rcases List.mem_append.1 hy with hy|hy
   ·exact hy
   ·simp at hy; subst hy; exact hg
  obtain ⟨a1,a2,_⟩:=a.cc y hy'
  exact ((((q.g.g y hy').set (Ne.symm a2)).set (Ne.symm a1)).set (Ne.symm a2)).set (Ne.symm a1)
 ·obtain ⟨a1,a2⟩:=a.ci e
  rw [ztfj a1,ztfj a2,ztfj a1,ztfj a2]; exact q.i e
end
section
set_option linter.unusedSimpArgs false
set_option linter.unusedVariables false
open Go Go.Am
theorem z637 {i:Nat} {d:Option Nat} {r:List AOper} {t:List DV} {h:List AObj} {Φ:St→Prop} (hs:zysb P r ⟨putT t d (t.getD i .junk),h⟩ Φ):zysb P (⟨none,d,.mov (.t i)⟩::r) ⟨t,h⟩ Φ:=hs
theorem zgb5 {f:Opd} {ags:List Opd} {d:Option Nat} {r:List AOper} {t:List DV} {h:List AObj} {Φ:St→Prop} {g:Nat} {first captured:List DV} {Ψ:DV→List AObj→Prop} (he:ev t f = .fn (.func g) first captured) (hc:zwy1 P g (first++ags.map (ev t)++captured) h Ψ)
  (hs : ∀ v h',Ψ v h'→zysb P r ⟨putT t d v,h'⟩ Φ):zysb P (⟨none,d,.call f ags⟩::r) ⟨t,h⟩ Φ:=by
 simp only [zysb,zo4i,he]
 exact hc.mono hs
theorem zvi1 {T:Tbl} (hT:T.Sound P) {l:List AOper} {t:List DV} {h:List AObj} {Φ:AExit→St→Prop} (hw:W T 0 (.region false l) Φ ⟨t,h⟩):zysb P l ⟨t,h⟩ (Φ .normal):=by
 have:=z7sh hT _ _ _ _ (fun _ _ h=>h) hw.out
 simpa only [awp,Bool.false_eq_true,if_false] using this
def sA (which n0:Int) (C G k v:Nat) (h:List AObj):St:=⟨[.junk,.int .i64 which,.int .i64 n0,.junk,.junk,.junk,.junk,.mp 0 32 0,.bool false,.mp 1 2 0,.mp C 3 0,.mp G v (k*6)]++js 140,h⟩
structure MidA (which n0:Int) (d:Dg) (C G k:Nat) (gs:List LG) (t:Tp) (e:AExit) (s:St):Prop where
 ex:e = .normal ∧ ∃ h I l n,LH h C G gs I l n d t∧l≠[]∧Weak 0 s (sA which n0 C G k (gs.length*6) h)
def sB (w n0:Int) (C G k v I j u:Nat) (h:List AObj):St:=⟨[.junk,.junk,.int .i64 n0,.junk,.junk,.junk,.junk,.mp 0 32 0,.bool false,.junk,.mp C 3 0,.mp G v (k*6),.mp I u (j*37)]++js 35++[.int .i64 w]++js 103,h⟩
def sC (C:Nat) (gp:DV) (h:List AObj):St:=⟨[.junk,.junk,.junk,.junk,.junk,.junk,.junk,.junk,.junk,.junk,.mp C 3 0,gp]++js 140,h⟩
structure MidC (C:Nat) (e:AExit) (s:St):Prop where
 ex:e = .normal ∧ ∃ h gp,Fin h C gp∧Weak 0 s (sC C gp h)
theorem z849 (x:Nl) (which n0:Int) (d:Dg):V P 0 a3.code (retK a3.res (.bool true)) ⟨zr5g a3.ntmps [x.dv,.int .i64 which,.int .i64 n0,.agg (dgC d)],[]⟩:=by
 simp only [a3]
 refine zbn1 (V_W mix zd8n ?_)
 simp (disch:=first|omega|simp<;>omega|fail) [-zA,-zB,-zC,-zD,-zE]
 have hT:zl5p [x.dv,.int .i64 150] 1=some (.mp 1 2 0,[.cells (tpC (tp0 x 150))]):=zwy3 (n:=150) (by omega) 1
 refine zbn1 (V_W mix zd8n ?_)
 simp (disch:=first|omega|simp<;>omega|fail) [-zA,-zB,-zC,-zD,-zE,TL_t,hT]
 have hcl:=zwy1.tchR (h:=[.cells (dgC d),.cells (tpC (tp0 x 150))]) (id:=1) (r:=[.int .i64 6]) (l:=tpC (tp0 x 150)) rfl (zs7w _) (fun d q h=>by obtain ⟨s,_,_,e⟩:=h; exact ⟨_,_,e⟩) (z202 (tp0 x 150) (by rw [z5n2]; omega)) rfl
 have hcl:=hcl.mono (Ψ':=fun v q => ∃ s,LvOK s∧v = .agg (vM s)∧q=hM s d) (fun v q ⟨v0,l',k,⟨s,hs,e1,e2⟩,e3,e4⟩=>⟨s,hs,by
   subst e1; rw [e3]; exact hs.rn,by
   simp only [LvS.h,List.cons.injEq,AObj.cells.injEq] at e2
   obtain ⟨rfl,rfl⟩:=e2
   rw [e4,zmhl _ _ _ (zs7w _)]; rfl⟩)
 refine zbn1 (zd9i mix ?_)
 simp only [awp,Bool.false_eq_true,if_false]
 refine z637 (zgb5 rfl hcl (fun v q ⟨s,hs,e1,e2⟩ => ?_))
 subst e1 e2
 refine zvi1 zd8n ?_
 have hq:=hs.lh d
 have hst : ∀ h id a b c,zy6o h id 3 0 (.agg (vM s)) (some [a,b,c])=some (.junk,h.set id (.cells (vM s))):=fun h id a b c=>by simp only [vM]; exact z769 (by simp) (by simp) (by simp)
 have hn1:s.n≤1000:=hs.n1
 have ht0:s.t.at_<3999999100:=hs.t
 generalize hM s d=H at hq ⊢
 simp (disch:=first|omega|simp<;>omega|fail) [-zA,-zB,-zC,-zD,-zE,hst,hS0,hV0]
 generalize H++[.cells (vM s)]=h at hq ⊢
 generalize H.length=C at hq ⊢
 refine zqfd (st':=⟨[.junk,.int .i64 which,.int .i64 n0,.junk,.junk,.junk,.junk,.mp 0 32 0,.bool false,.mp 1 2 0,.mp C 3 0]++js 141,h⟩) (z515 (by simp (disch:=first|omega|simp<;>omega|fail) [-zA,-zB,-zC,-zD,-zE]) (by simp (disch:=first|omega|simp<;>omega|fail) [-zA,-zB,-zC,-zD,-zE])) ?_
 generalize s.G+1=G at hq
 generalize s.gs.map LG.up=gs at hq
 generalize s.I+1=I at hq
 generalize s.l=l at hq
 generalize s.n=n at hq hn1
 generalize s.t=t at hq ht0
 clear hst hcl hT hs
 have hgl:1≤gs.length:=y0o.2 hq.ne
 have hg2:=hq.a.n2
 have hta:=hq.t
 have hC2:=hq.C2
 have hG2:=hq.G2
 have hC1:¬ C=1:=by omega
 have hC1':¬ 1=C:=by omega
 have vC:objV h C 3=some [gvD G gs,ivD I l,.int .i64 n]:=zw28 hq.q.c rfl
 have v1:objV h 1 2=some (tpC t):=zw28 hq.o1 rfl
 have hL:=hq.q.g.len
 have k1:=z4rs t gs.length
 have k2:=z2s7 t (n:=(gs.length:Int)) (by omega)
 obtain ⟨k,hk⟩ : ∃ k:Nat,tpN t gs.length=k:=⟨_,(y09 k1).symm⟩
 rw [hk] at k2
 have hkl:k<gs.length:=by omega
 have hg1:(1:Int)≤gs.length:=by omega
 have hg32:(gs.length:Int)≤4294967296:=by omega
 have hq1:=hq.tape (t':=t.adv 1) (by simp; omega)
 have hix:zpsc (h.set 1 (.cells (tpC (t.adv 1)))) 6 (gvD G gs) k=some (.mp G (gs.length*6) (k*6)):=by
  rw [z0on hq.ne]
  simp only [zpsc]
  rw [if_pos ⟨trivial,by omega,by omega⟩,hq1.q.g.objV hq.ne]
  simp
 refine zbn1 (V_W mix zd8n ?_)
 simp (disch:=first|omega|simp<;>omega|fail) [-zA,-zB,-zC,-zD,-zE,TL_n,vC,v1,hL,z44h,hk,hg1,hg32,hix,hC1,hC1']
 generalize h.set 1 (.cells (tpC (t.adv 1)))=h1 at hq1 ⊢
 have hadv:(t.adv 1).at_=t.at_+1:=by simp
 generalize t.adv 1=t1 at hq1 hadv ⊢
 clear hq hix v1 vC hL
 refine zbn1 (zftn (Φ:=MidA which n0 d C G k gs t1) (fun e s ⟨he,h2,I2,l2,n2,hq2,hl2,hw⟩ => ?_) ?_)
 rotate_left 1
 ·have vC:objV h1 C 3=some [gvD G gs,ivD I l,.int .i64 n]:=zw28 hq1.q.c rfl
  have hL:lenD h1 (ivD I l)=some (.int .i64 l.length):=by
   by_cases e:l=[]
   ·subst e; rfl
   ·rw [zpq1 e,z59c,zw28 (hq1.q.i e) (z1rq z6gw l)]; rfl
  by_cases e:l=[]
  ·subst e
   have hCl:=hq1.lt
   have vC2 : ∀ r,objV (h1++r) C 3=some [gvD G gs,ivD I [],.int .i64 n]:=fun r=>zw28 (zl74 hq1.q.c) rfl
   have hn0:=hq1.n0
   refine V_W mix zd8n ?_
   simp (disch:=first|omega|simp<;>omega|fail) [-zA,-zB,-zC,-zD,-zE,vC,hL,z7ni,zvod,zfq0,zd00,vC2,zbcp,zcgn,zelk]
   exact ⟨rfl,_,h1.length,[inX n],n+1,hq1.first hn1 (inX n),by simp,z515 (by simp (disch:=first|omega|simp<;>omega|fail) [-zA,-zB,-zC,-zD,-zE,sA]) (by simp (disch:=first|omega|simp<;>omega|fail) [-zA,-zB,-zC,-zD,-zE,sA,ivD])⟩
  ·have e1:¬ l.length=0:=fun q=>e (List.eq_nil_of_length_eq_zero q)
   have e2:¬ (l.length:Int)=0:=by omega
   refine V_W mix zd8n ?_
   simp (disch:=first|omega|simp<;>omega|fail) [-zA,-zB,-zC,-zD,-zE,vC,hL,e1,e2,e]
   exact ⟨rfl,_,I,l,n,hq1,e,z515 (by simp (disch:=first|omega|simp<;>omega|fail) [-zA,-zB,-zC,-zD,-zE,sA]) (by simp (disch:=first|omega|simp<;>omega|fail) [-zA,-zB,-zC,-zD,-zE,sA])⟩
 subst he
 clear hq1 hn1
 show V P 0 _ _ s
 refine zqfd hw ?_

 have hll:1≤l2.length:=y0o.2 hl2
 have hl6:=hq2.l6
 have hta2:=hq2.t
 have vC:objV h2 C 3=some [gvD G gs,ivD I2 l2,.int .i64 n2]:=zw28 hq2.q.c rfl
 have v1:objV h2 1 2=some (tpC t1):=zw28 hq2.o1 rfl
 have hL:lenD h2 (ivD I2 l2)=some (.int .i64 l2.length):=by rw [zpq1 hl2,z59c,zw28 (hq2.q.i hl2) (z1rq z6gw l2)]; rfl
 have k1:=z4rs t1 l2.length
 have k2':=z2s7 t1 (n:=(l2.length:Int)) (by omega)
 obtain ⟨j,hj⟩ : ∃ k:Nat,tpN t1 l2.length=k:=⟨_,(y09 k1).symm⟩
 rw [hj] at k2'
 have hjl:j<l2.length:=by omega
 have hg1:(1:Int)≤l2.length:=by omega
 have hg32:(l2.length:Int)≤4294967296:=by omega
 have hq3:=hq2.tape (t':=t1.adv 1) (by simp; omega)
 have hix:zpsc (h2.set 1 (.cells (tpC (t1.adv 1)))) 37 (ivD I2 l2) j=some (.mp I2 (l2.length*37) (j*37)):=by
  rw [zpq1 hl2]
  simp only [zpsc]
  rw [if_pos ⟨trivial,by omega,by omega⟩,zw28 (hq3.q.i hl2) (z1rq z6gw l2)]
  simp
 refine zbn1 (V_W mix zd8n ?_)
 simp (disch:=first|omega|simp<;>omega|fail) [-zA,-zB,-zC,-zD,-zE,sA,TL_n,vC,v1,hL,z44h,hj,hg1,hg32,hix,hC1,hC1']
 generalize h2.set 1 (.cells (tpC (t1.adv 1)))=h3 at hq3 ⊢
 generalize t1.adv 1=t3 at hq3
 clear hq2 hix v1 vC hL
 have hwi:=zcb9 (n:=which) (k:=13) (by decide) (by decide)
 refine zbn1 (zbn1 (V_W mix zd8n ?_))
 simp (disch:=first|omega|simp<;>omega|fail) [-zA,-zB,-zC,-zD,-zE,TL_w,hwi]
 generalize which % 13=w
 refine zqfd (st':=sB w n0 C G k (gs.length*6) I2 j (l2.length*37) h3) (z515 (by simp (disch:=first|omega|simp<;>omega|fail) [-zA,-zB,-zC,-zD,-zE,sB]) (by simp (disch:=first|omega|simp<;>omega|fail) [-zA,-zB,-zC,-zD,-zE,sB])) ?_
 have q:=hq3.q
 have a:=hq3.a
 have vC:objV h3 C 3=some [gvD G gs,ivD I2 l2,.int .i64 n2]:=zw28 q.c rfl
 have vG:objV h3 G (gs.length*6)=some (lgs gs):=q.g.objV hq3.ne
 have vI:objV h3 I2 (l2.length*37)=some (l2.flatMap inC):=zw28 (q.i hl2) (z1rq z6gw l2)
 have v0:objV h3 0 32=some (dgC d):=zw28 hq3.o0 (z1t1 d)
 refine zftn (Φ:=MidC C) (fun e s ⟨he,h',gp,hf,hw⟩ => ?_) ?_
 ·subst he
  show V P 0 _ _ s
  refine zqfd hw ?_
  obtain ⟨u,v,m,c',gc,cs,g',f1,f2,f3,f4,f5,f6⟩:=hf.ex
  have b1:zyo0 (cC1 zwdn) [.agg [u,v,.int .i64 m]] h'=some (zwdn c'):=zhb3 f2 zf0o rfl
  have b2:zyo0 (cG1 zoy9) [.agg gc] h'=some (zoy9 g'):=zhb3 f6 zoex rfl
  have b3:zyo0 z7wg [] h'=some (.bool true):=rfl
  have c1:zwdn c' = .bool (tv (ValidC c')):=rfl
  have c2:zoy9 g' = .bool (tv (ValidG g')):=rfl
  refine V_W mix zd8n ?_
  simp (disch:=first|omega|simp<;>omega|fail) [-zA,-zB,-zC,-zD,-zE,-ztar,sC,TL_v,ziqz,TL_g,z89v,TL_a,f1,f3,f4,f5,b1,b2,b3,c1,c2,zs2b]
 by_cases hw0:w=0
 ·subst hw0
  have hst:=z9w5 (h:=h3) (G:=G) hkl (j:=2) (y := .int .i64 n0) (x:=⟨gs[k].ns,gs[k].im,n0,gs[k].least,gs[k].down,gs[k].ci,gs[k].ch⟩) (by omega) rfl rfl rfl
  have hf:=(q.grp a hkl (x:=⟨gs[k].ns,gs[k].im,n0,gs[k].least,gs[k].down,gs[k].ci,gs[k].ch⟩) rfl rfl).fin (k:=k) (by simpa using hkl)
  rw [y03] at hf
  try simp only [y0e] at hst
  refine V_W mix zd8n ?_
  simp (disch:=first|omega|simp<;>omega|fail) [-zA,-zB,-zC,-zD,-zE,sB,vG,hst]
  exact ⟨rfl,_,_,hf,z515 (by simp (disch:=first|omega|simp<;>omega|fail) [-zA,-zB,-zC,-zD,-zE,sC]) (by simp (disch:=first|omega|simp<;>omega|fail) [-zA,-zB,-zC,-zD,-zE,sC])⟩
 by_cases hw1:w=1
 ·subst hw1
  have hst:=z9w5 (h:=h3) (G:=G) hkl (j:=3) (y := .int .i64 n0) (x:=⟨gs[k].ns,gs[k].im,gs[k].want,n0,gs[k].down,gs[k].ci,gs[k].ch⟩) (by omega) rfl rfl rfl
  have hf:=(q.grp a hkl (x:=⟨gs[k].ns,gs[k].im,gs[k].want,n0,gs[k].down,gs[k].ci,gs[k].ch⟩) rfl rfl).fin (k:=k) (by simpa using hkl)
  rw [y03] at hf
  try simp only [y0e] at hst
  refine V_W mix zd8n ?_
  simp (disch:=first|omega|simp<;>omega|fail) [-zA,-zB,-zC,-zD,-zE,sB,vG,hst]
  exact ⟨rfl,_,_,hf,z515 (by simp (disch:=first|omega|simp<;>omega|fail) [-zA,-zB,-zC,-zD,-zE,sC]) (by simp (disch:=first|omega|simp<;>omega|fail) [-zA,-zB,-zC,-zD,-zE,sC])⟩
 by_cases hw2:w=2
 ·subst hw2
  have hst:=z9w5 (h:=h3) (G:=G) hkl (j:=4) (y := .int .i64 n0) (x:=⟨gs[k].ns,gs[k].im,gs[k].want,gs[k].least,n0,gs[k].ci,gs[k].ch⟩) (by omega) rfl rfl rfl
  have hf:=(q.grp a hkl (x:=⟨gs[k].ns,gs[k].im,gs[k].want,gs[k].least,n0,gs[k].ci,gs[k].ch⟩) rfl rfl).fin (k:=k) (by simpa using hkl)
  rw [y03] at hf
  try simp only [y0e] at hst
  refine V_W mix zd8n ?_
  simp (disch:=first|omega|simp<;>omega|fail) [-zA,-zB,-zC,-zD,-zE,sB,vG,hst]
  exact ⟨rfl,_,_,hf,z515 (by simp (disch:=first|omega|simp<;>omega|fail) [-zA,-zB,-zC,-zD,-zE,sC]) (by simp (disch:=first|omega|simp<;>omega|fail) [-zA,-zB,-zC,-zD,-zE,sC])⟩
 by_cases hw4:w=4
 ·subst hw4
  have hst:=z9w5 (h:=h3) (G:=G) hkl (j:=0) (y := .str [47]) (x:=⟨[47],gs[k].im,gs[k].want,gs[k].least,gs[k].down,gs[k].ci,gs[k].ch⟩) (by omega) rfl rfl rfl
  have hf:=(q.grp a hkl (x:=⟨[47],gs[k].im,gs[k].want,gs[k].least,gs[k].down,gs[k].ci,gs[k].ch⟩) rfl rfl).fin (k:=k) (by simpa using hkl)
  rw [y03] at hf
  try simp only [y0e] at hst
  refine V_W mix zd8n ?_
  simp (disch:=first|omega|simp<;>omega|fail) [-zA,-zB,-zC,-zD,-zE,sB,vG,hst]
  exact ⟨rfl,_,_,hf,z515 (by simp (disch:=first|omega|simp<;>omega|fail) [-zA,-zB,-zC,-zD,-zE,sC]) (by simp (disch:=first|omega|simp<;>omega|fail) [-zA,-zB,-zC,-zD,-zE,sC])⟩
 by_cases hw5:w=5
 ·subst hw5
  have hst:=zcio (h:=h3) (I:=I2) (m:=1) hjl (j:=0) (y := .int .i64 n0) (x:=⟨n0,l2[j].grp,l2[j].art,l2[j].state,l2[j].since,l2[j].den⟩) (by omega) (by rfl) (by rfl) (zgpi _ _)
  have hf:=(q.ins a hjl ⟨n0,l2[j].grp,l2[j].art,l2[j].state,l2[j].since,l2[j].den⟩).fin (k:=k) hkl
  try simp only [y0e] at hst
  refine V_W mix zd8n ?_
  simp (disch:=first|omega|simp<;>omega|fail) [-zA,-zB,-zC,-zD,-zE,sB,vI,hst,v0]
  exact ⟨rfl,_,_,hf,z515 (by simp (disch:=first|omega|simp<;>omega|fail) [-zA,-zB,-zC,-zD,-zE,sC]) (by simp (disch:=first|omega|simp<;>omega|fail) [-zA,-zB,-zC,-zD,-zE,sC])⟩
 by_cases hw6:w=6
 ·subst hw6
  have hst:=zcio (h:=h3) (I:=I2) (m:=1) hjl (j:=1) (y := .int .i64 n0) (x:=⟨l2[j].id,n0,l2[j].art,l2[j].state,l2[j].since,l2[j].den⟩) (by omega) (by rfl) (by rfl) (zc0o _ _)
  have hf:=(q.ins a hjl ⟨l2[j].id,n0,l2[j].art,l2[j].state,l2[j].since,l2[j].den⟩).fin (k:=k) hkl
  try simp only [y0e] at hst
  refine V_W mix zd8n ?_
  simp (disch:=first|omega|simp<;>omega|fail) [-zA,-zB,-zC,-zD,-zE,sB,vI,hst,v0]
  exact ⟨rfl,_,_,hf,z515 (by simp (disch:=first|omega|simp<;>omega|fail) [-zA,-zB,-zC,-zD,-zE,sC]) (by simp (disch:=first|omega|simp<;>omega|fail) [-zA,-zB,-zC,-zD,-zE,sC])⟩
 by_cases hw7:w=7
 ·subst hw7
  have hst:=zcio (h:=h3) (I:=I2) (m:=32) hjl (j:=2) (y := .agg (dgC d)) (x:=⟨l2[j].id,l2[j].grp,d,l2[j].state,l2[j].since,l2[j].den⟩) (by omega) (by exact z1t1 d) (by exact zoxk) (z96l _ _)
  have hf:=(q.ins a hjl ⟨l2[j].id,l2[j].grp,d,l2[j].state,l2[j].since,l2[j].den⟩).fin (k:=k) hkl
  try simp only [y0e] at hst
  refine V_W mix zd8n ?_
  simp (disch:=first|omega|simp<;>omega|fail) [-zA,-zB,-zC,-zD,-zE,sB,vI,hst,v0]
  exact ⟨rfl,_,_,hf,z515 (by simp (disch:=first|omega|simp<;>omega|fail) [-zA,-zB,-zC,-zD,-zE,sC]) (by simp (disch:=first|omega|simp<;>omega|fail) [-zA,-zB,-zC,-zD,-zE,sC])⟩
 by_cases hw8:w=8
 ·subst hw8
  have hst:=zcio (h:=h3) (I:=I2) (m:=1) hjl (j:=34) (y := .int .i64 n0) (x:=⟨l2[j].id,l2[j].grp,l2[j].art,n0,l2[j].since,l2[j].den⟩) (by omega) (by rfl) (by rfl) (zkw1 _ _)
  have hf:=(q.ins a hjl ⟨l2[j].id,l2[j].grp,l2[j].art,n0,l2[j].since,l2[j].den⟩).fin (k:=k) hkl
  try simp only [y0e] at hst
  refine V_W mix zd8n ?_
  simp (disch:=first|omega|simp<;>omega|fail) [-zA,-zB,-zC,-zD,-zE,sB,vI,hst,v0]
  exact ⟨rfl,_,_,hf,z515 (by simp (disch:=first|omega|simp<;>omega|fail) [-zA,-zB,-zC,-zD,-zE,sC]) (by simp (disch:=first|omega|simp<;>omega|fail) [-zA,-zB,-zC,-zD,-zE,sC])⟩
 by_cases hw9:w=9
 ·subst hw9
  have hst:=zcio (h:=h3) (I:=I2) (m:=1) hjl (j:=35) (y := .int .i64 n0) (x:=⟨l2[j].id,l2[j].grp,l2[j].art,l2[j].state,n0,l2[j].den⟩) (by omega) (by rfl) (by rfl) (zn3m _ _)
  have hf:=(q.ins a hjl ⟨l2[j].id,l2[j].grp,l2[j].art,l2[j].state,n0,l2[j].den⟩).fin (k:=k) hkl
  try simp only [y0e] at hst
  refine V_W mix zd8n ?_
  simp (disch:=first|omega|simp<;>omega|fail) [-zA,-zB,-zC,-zD,-zE,sB,vI,hst,v0]
  exact ⟨rfl,_,_,hf,z515 (by simp (disch:=first|omega|simp<;>omega|fail) [-zA,-zB,-zC,-zD,-zE,sC]) (by simp (disch:=first|omega|simp<;>omega|fail) [-zA,-zB,-zC,-zD,-zE,sC])⟩
 by_cases hw10:w=10
 ·subst hw10
  have hst:=zcio (h:=h3) (I:=I2) (m:=1) hjl (j:=36) (y := .int .i64 n0) (x:=⟨l2[j].id,l2[j].grp,l2[j].art,l2[j].state,l2[j].since,n0⟩) (by omega) (by rfl) (by rfl) (z2j3 _ _)
  have hf:=(q.ins a hjl ⟨l2[j].id,l2[j].grp,l2[j].art,l2[j].state,l2[j].since,n0⟩).fin (k:=k) hkl
  try simp only [y0e] at hst
  refine V_W mix zd8n ?_
  simp (disch:=first|omega|simp<;>omega|fail) [-zA,-zB,-zC,-zD,-zE,sB,vI,hst,v0]
  exact ⟨rfl,_,_,hf,z515 (by simp (disch:=first|omega|simp<;>omega|fail) [-zA,-zB,-zC,-zD,-zE,sC]) (by simp (disch:=first|omega|simp<;>omega|fail) [-zA,-zB,-zC,-zD,-zE,sC])⟩
 by_cases hw11:w=11
 ·subst hw11
  have hf:=(q.nxt a n0).fin (k:=k) hkl
  refine V_W mix zd8n ?_
  simp (disch:=first|omega|simp<;>omega|fail) [-zA,-zB,-zC,-zD,-zE,sB,vC,zbcp]
  exact ⟨rfl,_,_,hf,z515 (by simp (disch:=first|omega|simp<;>omega|fail) [-zA,-zB,-zC,-zD,-zE,sC]) (by simp (disch:=first|omega|simp<;>omega|fail) [-zA,-zB,-zC,-zD,-zE,sC])⟩
 by_cases hw3:w=3
 ·subst hw3
  have hm:=y08 hkl
  have h5:=(hq3.c2 _ hm).2
  obtain ⟨a1,a2,a3⟩:=a.cc _ hm
  have hl:=z1rq z1t1 gs[k].ch
  obtain ⟨L,hLe⟩ : ∃ L,(gs[k].ch++[d]).length=L:=⟨_,rfl⟩
  have hL1:gs[k].ch.length+1=L:=by rw [← hLe]; simp
  have vc:objV h3 gs[k].ci (gs[k].ch.length*32)=some (gs[k].ch.flatMap dgC):=zw28 (q.g.g _ hm).o hl
  have hap:appX h3 32 32 (.ms gs[k].ci (gs[k].ch.length*32) 0 32 gs[k].ch.length (gs[k].ch.length*32)) 1 (dgC d)=some (.ms gs[k].ci (L*32) 0 32 L (L*32),h3.set gs[k].ci (.cells ((gs[k].ch++[d]).flatMap dgC))):=by
   rw [zbho rfl (by omega) (by omega) (by rw [z1t1]) (by omega) zoxk,vc,z1t1,hL1]
   have:gs[k].ch.length*32+32=L*32:=by omega
   rw [this]
   simp
  have vG2:objV (h3.set gs[k].ci (.cells ((gs[k].ch++[d]).flatMap dgC))) G (gs.length*6)=some (lgs gs):=zw28 (by rw [ztfj a2]; exact q.g.o hq3.ne) (zyc3 gs)
  have hst:=z9w5 (h:=h3.set gs[k].ci (.cells ((gs[k].ch++[d]).flatMap dgC))) (G:=G) hkl (j:=5) (y := .ms gs[k].ci (L*32) 0 32 L (L*32)) (x:=gs[k].cho d) (by omega) rfl rfl (by rw [← hLe]; rfl)
  have hca:=z4t0 hkl
  have hbs:bslD 32 1 (dgC dg0) [(0,32,.agg (dgC d))]=some (.sl true 32 1 (dgC d)):=by
   rw [z7bw (by simp [DV.known]) (by simp [seqD,DV.cells,z1t1])]; simp [seqD,DV.cells]
  have hf:=(q.cho a hkl d h5).fin (k:=k) (by simpa using hkl)
  rw [y03] at hf
  refine V_W mix zd8n ?_
  simp (disch:=first|omega|simp<;>omega|fail) [-zA,-zB,-zC,-zD,-zE,sB,vG,v0,hca,hbs,hap,vG2,hst,-y1b]
  exact ⟨rfl,_,_,hf,z515 (by simp (disch:=first|omega|simp<;>omega|fail) [-zA,-zB,-zC,-zD,-zE,sC]) (by simp (disch:=first|omega|simp<;>omega|fail) [-zA,-zB,-zC,-zD,-zE,sC])⟩
 have hn2:=a.n2
 have hne:=hq3.ne
 have hC2':=q.c
 rw [z0on hne] at hC2'
 have hG':=q.g.o hne
 have hgl0:0<gs.length:=by omega
 have hKc : ∀ x ∈ gs,LgO h3 x∧(x.ci == C)=false:=fun x hx=>⟨q.g.g x hx,by simpa using (a.cc x hx).1⟩
 have hKG:(G == C)=false:=by simpa using Ne.symm a.cg
 have hKI:l2≠[]→(I2 == C)=false:=fun e=>by simpa using Ne.symm (a.ci e).1
 have hiv:fzS (· == C) h3 3 (ivD I2 l2)=some ((isF l2).dv 37 inC):=z6ci q.l q.i hKI
 have hgv:fzS (· == C) h3 3 (.ms G (gs.length*6) 0 6 gs.length (gs.length*6))=some (.sl false 6 gs.length ((gs.map LG.f).flatMap grC)):=by
  rw [zi9r,hKG,if_neg (by simp),vG,y01,y04,y00 (by rw [zyc3]; omega),ztzd hKc]
  rfl
 have hgp:fzS (· == C) h3 3 (.mp G (gs.length*6) (k*6))=some (.ref (((gs.drop k).map LG.f).flatMap grC)):=by
  rw [zept,hKG,if_neg (by simp),vG,y01,show (lgs gs).drop (k*6)=lgs (gs.drop k) from zkb2 zd3f gs k,ztzd fun x hx=>hKc x (List.mem_of_mem_drop hx)]
  rfl
 have hid:fzS (· == C) h3 3 (.mp C 3 0)=some (.mp C 3 0):=by rw [zept,if_pos (by simp)]
 refine z6ri (G:=G) (C:=C) (i:=11) (s:=6) (off:=k*6) (rest:=[ivD I2 l2,.int .i64 n2]) (rest':=[(isF l2).dv 37 inC,.int .i64 n2]) (t':=[.junk,.junk,.junk,.junk,.junk,.junk,.junk,.junk,.bool false,.junk,.mp C 3 0,.ref (((gs.drop k).map LG.f).flatMap grC),.junk]++js 35++[.int .i64 w]++js 103) hG' (zyc3 gs) rfl (by omega) hC2' a.cg rfl hgv ?_ ?_ ?_ ?_
 ·refine zum0 (zum0 (zum0 ?_ (zuyt _)) (zuyt _)) (zuyt _)
  simp only [fzSL,hgp,true_or,or_true,true_and,and_true]
 ·simp [fzSL,hiv]
 ·have vC4:objV ((h3.set G (.cells (lgs gs++J6))).set C (.cells [.ms G (gs.length*6+6) 0 6 gs.length (gs.length*6+6),ivD I2 l2,.int .i64 n2])) C 3=some [.ms G (gs.length*6+6) 0 6 gs.length (gs.length*6+6),ivD I2 l2,.int .i64 n2]:=by
   rw [zcgn (by have:=hq3.lt; simpa using this)]; rfl
  have vG4:objV ((h3.set G (.cells (lgs gs++J6))).set C (.cells [.ms G (gs.length*6+6) 0 6 gs.length (gs.length*6+6),ivD I2 l2,.int .i64 n2])) G (gs.length*6+6)=some (lgs gs++J6):=by
   refine zw28 (by rw [ztfj a.cg]; exact z4mo hG') ?_
   rw [y07,zyc3]; rfl
  have hm0:=y08 hgl0
  have hf:=(q.app a hm0 (X:=lgs gs++J6) (Y:=[.ms G (gs.length*6+6) 0 6 gs.length (gs.length*6+6),ivD I2 l2,.int .i64 n2])).fin (k:=k) (by simp; omega)
  rw [y07,y05,y0n,Nat.one_mul] at hf
  have h4l:C<(((h3.set G (.cells (lgs gs++J6))).set C (.cells [.ms G (gs.length*6+6) 0 6 gs.length (gs.length*6+6),ivD I2 l2,.int .i64 n2]))).length:=by have:=hq3.lt; simpa using this
  have hJ:List.replicate 6 DV.junk=J6:=rfl
  rw [hJ]
  generalize (h3.set G (.cells (lgs gs++J6))).set C (.cells [.ms G (gs.length*6+6) 0 6 gs.length (gs.length*6+6),ivD I2 l2,.int .i64 n2])=h4 at vC4 vG4 hf h4l ⊢
  have hap:=zbs1 (g:=gs[0]) vG4 (by omega)
  have ho0:oneC 6 true (lgs gs++J6)=some (.agg gs[0].c):=by
   obtain ⟨r,hr⟩:=zwul zd3f hgl0
   rw [y1c,y04] at hr
   rw [show lgs gs=gs[0].c++r from hr]
   simp only [oneC,if_true]
   rw [if_pos (by simp [zd3f]),List.append_assoc,y0a (by rw [zd3f]; omega),y00 (by rw [zd3f]; omega)]
  have vC5 : ∀ X,objV (h4.set G (.cells X)) C 3=some [.ms G (gs.length*6+6) 0 6 gs.length (gs.length*6+6),ivD I2 l2,.int .i64 n2]:=fun X=>by
   rw [← vC4]; unfold objV; rw [ztfj (Ne.symm a.cg)]
  have hs0 : ∀ H y a b c,y.cells=[y]→y.one=true→zy6o H C 1 0 y (some [a,b,c])=some (.junk,H.set C (.cells [y,b,c])):=fun H y a b c h1 h2=>by
   simp only [zy6o,h1]; rw [if_pos ⟨rfl,by simp,by simp [h2]⟩]; rfl
  refine V_W mix zd8n ?_
  simp (disch:=first|omega|simp<;>omega|fail) [-zA,-zB,-zC,-zD,-zE,sB,vC4,vG4,ho0,z01d,hap,vC5,hgl0,hs0,hw0,hw1,hw2,hw3,hw4,hw5,hw6,hw7,hw8,hw9,hw10,hw11]
  exact ⟨rfl,_,_,hf,z515 (by simp (disch:=first|omega|simp<;>omega|fail) [-zA,-zB,-zC,-zD,-zE,sC]) (by simp (disch:=first|omega|simp<;>omega|fail) [-zA,-zB,-zC,-zD,-zE,sC])⟩
 ·intro h' hl' hC'
  have vCB:objV h' C 3=some [.sl true 6 gs.length ((gs.map LG.f).flatMap grC),(isF l2).dv 37 inC,.int .i64 n2]:=zw28 hC' rfl
  have vCB2 : ∀ r,objV (h'++r) C 3=some [.sl true 6 gs.length ((gs.map LG.f).flatMap grC),(isF l2).dv 37 inC,.int .i64 n2]:=fun r=>zw28 (zl74 hC') rfl
  have hCl:C<h'.length:=z7ba hC'
  have hfl:((gs.map LG.f).flatMap grC).length=gs.length*6:=by rw [z1rq zry4,List.length_map]
  have ho0:oneC 6 true (((gs.map LG.f).flatMap grC).take 6)=some (.agg (grC gs[0].f)):=by
   obtain ⟨r,hr⟩:=zwul (f:=grC) (l:=gs.map LG.f) zry4 (by simpa using hgl0)
   rw [y1c,y04,List.getElem_map] at hr
   rw [hr,y0a (by rw [zry4]; omega),y00 (by rw [zry4]; omega)]
   simp only [oneC,if_true]
   rw [if_pos (by rw [zry4]; omega),y00 (by rw [zry4]; omega)]
  have hap : ∀ H,appX H 6 80 (.sl true 6 gs.length ((gs.map LG.f).flatMap grC)) 1 (grC gs[0].f)=some (.ms H.length (gs.length*6+6) 0 6 (gs.length+1) (gs.length*6+6),H++[.cells ((gs.map LG.f).flatMap grC++grC gs[0].f)]):=fun H=>by
   have:=ztup (h:=H) (s:=6) (b:=80) (n:=gs.length) (m:=1) (ds:=(gs.map LG.f).flatMap grC) (cs:=grC gs[0].f) (by omega) (by omega) (by rw [zry4]) (by omega) (by omega)
   rw [hfl,zry4] at this
   exact this
  have hs0 : ∀ H y a b c,y.cells=[y]→y.one=true→zy6o H C 1 0 y (some [a,b,c])=some (.junk,H.set C (.cells [y,b,c])):=fun H y a b c h1 h2=>by
   simp only [zy6o,h1]; rw [if_pos ⟨rfl,by simp,by simp [h2]⟩]; rfl
  have hbg:bslD 6 1 [.str [],.str [],.int .i64 0,.int .i64 0,.int .i64 0,.nils] [(0,6,.agg (grC gs[0].f))]=some (.sl true 6 1 (grC gs[0].f)):=z4qu rfl
  have hpu:zbao ((gs.map LG.f).flatMap grC++grC gs[0].f)=true:=zg0c (zp6k zxeb _) (zxeb _)
  have hlen2:((gs.map LG.f).flatMap grC++grC gs[0].f).length=gs.length*6+6:=by rw [y07,hfl,zry4]
  have hf:Fin (h'.set C (.cells [.ms h'.length (gs.length*6+6) 0 6 (gs.length+1) (gs.length*6+6),(isF l2).dv 37 inC,.int .i64 n2])++[.cells ((gs.map LG.f).flatMap grC++grC gs[0].f)]) C (.ref (((gs.drop k).map LG.f).flatMap grC)):=by
   have hdk:(gs.drop k).map LG.f=gs[k].f::((gs.drop (k+1)).map LG.f):=by rw [y0p hkl,y0x]
   have e1:objV (h'.set C (.cells [.ms h'.length (gs.length*6+6) 0 6 (gs.length+1) (gs.length*6+6),(isF l2).dv 37 inC,.int .i64 n2])++[.cells ((gs.map LG.f).flatMap grC++grC gs[0].f)]) h'.length (gs.length*6+6)=some ((gs.map LG.f).flatMap grC++grC gs[0].f):=by
    refine zw28 ?_ hlen2
    have:(h'.set C (.cells [.ms h'.length (gs.length*6+6) 0 6 (gs.length+1) (gs.length*6+6),(isF l2).dv 37 inC,.int .i64 n2])).length=h'.length:=by simp
    unfold ziu0
    rw [y0g (by omega),this,y0r]; rfl
   have hil:(isF l2).l.length≤4294967296:=(isF l2).b
   refine ⟨.ms h'.length (gs.length*6+6) 0 6 (gs.length+1) (gs.length*6+6),(isF l2).dv 37 inC,n2,⟨own (gs.map LG.f++[gs[0].f]),isF l2,n2⟩,grC gs[k].f,((gs.drop k).map LG.f).flatMap grC,gs[k].f,by rw [zelk hCl]; rfl,?_,zbjf,z8ob,?_,z619 (by simp only [zbao,zyp8,zxeb,y1a])⟩
   ·have e2:(own (gs.map LG.f++[gs[0].f])).dv 6 grC = .sl false 6 (gs.length+1) ((gs.map LG.f).flatMap grC++grC gs[0].f):=by
     rw [zqrs (by simp; omega)]; simp
    have e3:snap (h'.set C (.cells [.ms h'.length (gs.length*6+6) 0 6 (gs.length+1) (gs.length*6+6),(isF l2).dv 37 inC,.int .i64 n2])++[.cells ((gs.map LG.f).flatMap grC++grC gs[0].f)]) 3 (.ms h'.length (gs.length*6+6) 0 6 (gs.length+1) (gs.length*6+6))=some (.sl false 6 (gs.length+1) ((gs.map LG.f).flatMap grC++grC gs[0].f)):=by
     rw [zve7,e1,y01,y04,y00 (by rw [hlen2]; omega),z619 hpu]; rfl
    simp only [zrz6,zfu7,zqb3,e3,z6nl (zxxb z9kv (isF l2)),zdef,y01,y02,clC,e2]
   ·rw [hdk,y0z]
    simp only [oneC,if_true]
    rw [if_pos (by rw [y07,zry4]; omega),y0a (by rw [zry4]; omega),y00 (by rw [zry4]; omega)]
  refine V_W mix zd8n ?_
  simp (disch:=first|omega|simp<;>omega|fail) [-zA,-zB,-zC,-zD,-zE,sB,vCB,vCB2,ho0,hbg,hap,hgl0,hs0,hw0,hw1,hw2,hw3,hw4,hw5,hw6,hw7,hw8,hw9,hw10,hw11]
  exact ⟨rfl,_,_,hf,z515 (by simp (disch:=first|omega|simp<;>omega|fail) [-zA,-zB,-zC,-zD,-zE,sC]) (by simp (disch:=first|omega|simp<;>omega|fail) [-zA,-zB,-zC,-zD,-zE,sC])⟩
end
section
set_option linter.unusedSimpArgs false
set_option linter.unusedVariables false
open Go Go.Am
namespace workloadChanged
theorem law_holds (dvs) (h:Ty.Args [.sl (.int .i64),.int .i64,.int .i64,.arr 32 (.int .u8)] dvs):Am.Sem P 3 dvs (.bool true):=by
 obtain ⟨d1,l1,rfl,h1,d2,l2,rfl,h2,d3,l3,rfl,h3,d4,l4,rfl,h4,rfl⟩:=h
 obtain ⟨x,_,hx⟩:=zjzy h1
 obtain ⟨p,_,hp⟩:=ok_n h2
 obtain ⟨q,_,hq⟩:=ok_n h3
 obtain ⟨b,hb,hd⟩:=zgcd h4
 cases hx; cases hp; cases hq
 subst hd
 exact znz9 Tryd.func3 z842 (z849 x p q ⟨b,hb⟩)
end workloadChanged
end
end Go.Proofs.YtaihpefemjlilaaDoor
