/-
  20 texts of mine in one.
-/
import Derived.Test.YtjknipdiglpnlaaCcd3143aa
import Derived.Test.YtjknipdiglpnlaaCe656babf
import Derived.Test.YtjknipdiglpnlaaCf7009e0f
import Derived.Test.YtjknipdiglpnlaaC7d5a05df
import Derived.Test.YtjknipdiglpnlaaC3bc791cf
set_option maxRecDepth 20000
set_option maxHeartbeats 4000000
open List renaming map_take → zA, map_drop → zB, map_set → zC, map_append → zD, drop_one → zE
open Bool renaming and_self → y0g, true_and → y16
open Int renaming tmod_eq_emod_of_nonneg → y0m, toNat_natCast → y0z, natCast_inj → y11, toNat_of_nonneg → y17
open List renaming nil_append → y00, length_append → y01, take_succ_eq_append_getElem → y02, length_singleton → y03, cons_append → y04, append_nil → y05, take_of_length_le → y06, length_take → y07, length_cons → y09, drop_eq_getElem_cons → y0a, map_cons → y0b, getElem_cons_zero → y0c, flatMap_cons → y0d, filter_append → y0e, length_nil → y0f, mem_cons → y0h, eq_nil_of_length_eq_zero → y0i, length_filter_le → y0j, length_drop → y0k, getElem_mem → y0l, length_map → y0n, getElem_append_right → y0o, append_assoc → y0q, drop_of_length_le → y0r, length_replicate → y0s, set_append_right → y0t, take_append_of_le_length → y0u, getElem_of_mem → y0v, length_pos_iff → y0w, getD_eq_getElem?_getD → y0y, getElem?_eq_getElem → y10, getElem_cons_succ → y12, singleton_append → y13, drop_zero → y14, concat_eq_append → y15, map_nil → y18, map_map → y1c
open Nat renaming le_refl → y08, zero_add → y0p, zero_le → y0x, sub_self → y19, le_of_eq → y1a, le_trans → y1b
namespace Go.Proofs.Ytjknipdiglpnlaa
section
set_option linter.unusedSimpArgs false
set_option linter.unusedVariables false
open Go Go.Am
noncomputable def T957 (F:SF):Tbl:=addT 33 (.pure cVot) (addT 32 (.pure (cGrp F)) tbl0)
theorem z6ph {F:SF}:T957 F 33 = .pure cVot:=by simp [T957]
theorem zdr7 {F:SF}:T957 F 32 = .pure (cGrp F):=by simp [T957]
theorem z520 (F:SF):(T957 F).Sound P:=z0rp zcdr (z0rp (zohn F) zr5o)
def qvA (V:List Vot):DV:=(ownN (eqv1 V)).dv 1 stC
theorem zb7u (V:List Vot):zyp8 (qvA V)=true:=zfuu _
theorem z0ma (s:Spc) (l:Sl Att) (hl:l.l.length≤20) {Φ:AExit→St→Prop} (hΦ:Φ .ret ⟨js 4++[oV 1 5 (zj70 (votL s l.l)),qvA (votL s l.l)]++js 71,.cells (spC s)::oT agC (zj70 (votL s l.l))⟩) :
  V P 0 a12.code Φ ⟨zr5g a12.ntmps [.agg (spC s),l.dv 9 atC],[]⟩:=by
 have hV:=zldt s l.l
 have hVs:=zz5s s l.l
 have k1:=zgda (s:=s) hl
 have hUl:(ownN (votS s l.l)).l=votS s l.l:=zd8n (by omega)
 have k2:=zs2t (F:=F1) (U:=ownN (votS s l.l))
 rw [hUl] at k2
 have hG1:grpD (grpG F1.s (votS s l.l))=grp1 (votL s l.l):=rfl
 rw [hG1,znwp] at k2
 obtain ⟨V,hVV⟩ : ∃ V,votL s l.l=V:=⟨_,rfl⟩
 rw [hVV] at hV k2 hΦ
 have g1:=zcnw (V:=V) (by omega)
 have g1n:=zubd (V:=V) (by omega)
 have g2:=znbr (V:=V) (by omega)
 have g2n:=zw6n (V:=V) (by omega)
 have hs1:=zz8u (V:=V) (by omega)
 have he1:=z131 (V:=V) (by omega)
 have hSl:(ownN (sng1 V)).l=sng1 V:=zd8n (by omega)
 have k3:=zs2t (F:=F3) (U:=ownN (sng1 V))
 rw [hSl] at k3
 have hG2:grpD (grpG F3.s (sng1 V))=grp2 V:=rfl
 rw [hG2,zpo2] at k3
 refine zbn1 (V_W mix zr5o ?_)
 simp (disch:=first|omega|simp<;>omega|fail) [-zA,-zB,-zC,-zD,-zE,a12]
 refine zbn1 (V_W mix zr5o ?_)
 simp (disch:=first|omega|simp<;>omega|fail) [-zA,-zB,-zC,-zD,-zE]
 refine zbn1 (V_W mix zr5o ?_)
 simp (disch:=first|omega|simp<;>omega|fail) [-zA,-zB,-zC,-zD,-zE]
 refine zbn1 (zbn1 (V_W mix (z520 F1) ?_))
 simp (disch:=first|omega|simp<;>omega|fail) [-zA,-zB,-zC,-zD,-zE,z8s9,z6ph,zdr7,k1,k2,zu1r,znfs]
 refine z3mo (ztbr (S954 s (grp1 V)) (fun a=>(grp1 V).l.length-a.i) (CJok (grp1 V)) ⟨⟨true,[],[]⟩,0⟩ (z515 (by simp (disch:=first|omega|simp<;>omega|fail) [-zA,-zB,-zC,-zD,-zE,S954,z6m2,CI.sv,CI.qv,zl8p]) (by simp (disch:=first|omega|simp<;>omega|fail) [-zA,-zB,-zC,-zD,-zE,S954,z6m2,CI.H,zkrk])) ⟨y0x _,⟨fun _ _=>rfl,fun _ _=>rfl⟩,rfl,rfl⟩ (fun a ha=>zh6a (by omega) g1n a ha ?_ ?_))
 ·intro c ok hS hQ
  rw [z233,zd2q]
  have hS':c.S=sng1 V:=hS
  have hQ':c.Q=eqv1 V:=hQ
  refine zy4i (o := .cells (spC s)) (t':=js 6++[(ownN (sng1 V)).dv 4 voC,qvA V]++js 69) rfl (zhi7 s) (by omega) ?_ (by simp (disch:=first|omega|simp<;>omega|fail) [-zA,-zB,-zC,-zD,-zE,belowL,Am.below,z8b8 _ _ (znfs _),z8b8 _ _ (zb7u _)]) ?_
  ·have e1:=CI.sv_mk (c:=c) (o := .cells (spC s)) (by rw [hS']; omega)
   have e2:=CI.qv_mk (c:=c) (o := .cells (spC s)) (by rw [hQ']; omega)
   rw [hS'] at e1
   rw [hQ'] at e2
   have e3:(ownN (eqv1 V)).dv 1 stC=qvA V:=rfl
   rw [e3] at e2
   simp (disch:=first|omega|simp<;>omega|fail) [-zA,-zB,-zC,-zD,-zE,e1,e2]
  refine zbn1 (V_W mix (z520 F3) ?_)
  simp (disch:=first|omega|simp<;>omega|fail) [-zA,-zB,-zC,-zD,-zE]
  refine zbn1 (zbn1 (V_W mix (z520 F3) ?_))
  simp (disch:=first|omega|simp<;>omega|fail) [-zA,-zB,-zC,-zD,-zE,zdr7,k3,znfs]
  refine z3mo (ztbr (S956 s (qvA V) (grp2 V)) (fun i=>(grp2 V).l.length-i) (fun i=>i≤(grp2 V).l.length) 0 (z515 (by simp (disch:=first|omega|simp<;>omega|fail) [-zA,-zB,-zC,-zD,-zE,S956,z7i3,zl8p]) (by simp (disch:=first|omega|simp<;>omega|fail) [-zA,-zB,-zC,-zD,-zE,S956,z7i3,zkrk])) (y0x _) (fun i hi=>zm1f (zb7u V) (by omega) (fun g hg=>⟨(g2n g hg).1,by have:=(g2n g hg).2; omega⟩) i hi ?_ ?_))
  ·rw [z233,zd2q]
   have hAl:=z9h1 (V:=V) (by omega)
   have hcall:=z1wq [.cells (spC s)] ((grp2 V).l.map agrG) (by rw [y0n]; omega)
   simp only [y04,y00,y09,y0f,y0p] at hcall
   have hv2:zq4g aLt ((grp2 V).l.map agrG)=zj70 V:=rfl
   rw [hv2] at hcall
   have ho:oV 1 5 ((grp2 V).l.map agrG)=oV 1 5 (zj70 V):=by
    unfold oV
    have e0:(zj70 V).length=((grp2 V).l.map agrG).length:=zmgd _
    rw [e0]
    by_cases e:(grp2 V).l.map agrG=[]
    ·rw [if_pos e,if_pos (by unfold zj70; rw [e]; rfl)]
    ·rw [if_neg e,if_neg (show ¬ zj70 V=[] from zlvn e)]
   rw [ho] at hcall ⊢
   refine zbn1 (V_W mix (z84q hcall) ?_)
   simp (disch:=first|omega|simp<;>omega|fail) [-zA,-zB,-zC,-zD,-zE,TH_k,zpvh]
   refine zbn1 (V_W mix zr5o ?_)
   simp (disch:=first|omega|simp<;>omega|fail) [-zA,-zB,-zC,-zD,-zE]
   refine zqfd (st':=⟨js 4++[oV 1 5 (zj70 V),qvA V]++js 71,.cells (spC s)::oT agC (zj70 V)⟩) (z515 ?_ rfl) ?_
   ·simp (disch:=first|omega|simp<;>omega|fail) [-zA,-zB,-zC,-zD,-zE]
   refine V_W mix zr5o ?_
   simp (disch:=first|omega|simp<;>omega|fail) [-zA,-zB,-zC,-zD,-zE]
   exact hΦ
  ·intro st st' hw' h
   rw [z233,zd2q] at h ⊢
   exact zqfd hw' h
 ·intro st st' hw' h
  rw [z233,zd2q] at h ⊢
  exact zqfd hw' h
theorem zqbl (s:Spc) (l:Sl Att) (hl:l.l.length≤20):V P 0 a12.code (retK a12.res (.tup [(ownN (zj70 (votL s l.l))).dv 5 agC,qvA (votL s l.l)])) ⟨zr5g a12.ntmps [.agg (spC s),l.dv 9 atC],[]⟩:=by
 have hV:=zldt s l.l
 have hA:=z9h1 (V:=votL s l.l) (by omega)
 refine z0ma s l hl ?_
 have hsn:=zigm (k:=1) (l:=zj70 (votL s l.l)) (h:=[AObj.cells (spC s)]) (r:=[]) rfl znh2 z1u0 (by omega)
 rw [y05] at hsn
 simp only [y04,y00] at hsn
 have hq : ∀ H k,snap H k (qvA (votL s l.l))=some (qvA (votL s l.l)):=fun H k=>z6nl (zb7u _)
 simp (disch:=first|omega|simp<;>omega|fail) [-zA,-zB,-zC,-zD,-zE,a12,hsn,hq]
noncomputable def cCmp:List DV→Option DV:=con (fun a:Spc × Sl Att=>a.2.l.length≤20) (fun a:Spc × Sl Att=>[.agg (spC a.1),a.2.dv 9 atC]) (fun a => .tup [(ownN (zj70 (votL a.1 a.2.l))).dv 5 agC,qvA (votL a.1 a.2.l)])
theorem zg9a {a b:Spc × Sl Att} (e:[DV.agg (spC a.1),a.2.dv 9 atC]=[.agg (spC b.1),b.2.dv 9 atC]):a=b:=by
 obtain ⟨a1,a2⟩:=a
 obtain ⟨b1,b2⟩:=b
 simp only [List.cons.injEq,DV.agg.injEq,and_true] at e
 rw [z1d3 e.1,z965 e.2]
theorem zvlb {s:Spc} {l:Sl Att} (h:l.l.length≤20):cCmp [.agg (spC s),l.dv 9 atC]=some (.tup [(ownN (zj70 (votL s l.l))).dv 5 agC,qvA (votL s l.l)]) :=
 zzno (A:=fun a:Spc × Sl Att=>a.2.l.length≤20) (f:=fun a:Spc × Sl Att=>[.agg (spC a.1),a.2.dv 9 atC]) (g:=fun a => .tup [(ownN (zj70 (votL a.1 a.2.l))).dv 5 agC,qvA (votL a.1 a.2.l)]) (fun a b e=>by rw [zg9a e]) (s,l) h
theorem z7zd:(Con.pure cCmp).Sound P 12:=z2au fun a h=>znz9 Try.func12 zqkh (zqbl a.1 a.2 h)
theorem zxcq (s:Spc) (l:Sl Att) (hl:l.l.length≤20):V P ([]:List AObj).length a12.code (retH a12.res (.tup [oV 1 5 (zj70 (votL s l.l)),qvA (votL s l.l)]) (.cells (spC s)::oT agC (zj70 (votL s l.l)))) ⟨zr5g a12.ntmps [.agg (spC s),l.dv 9 atC],[]⟩:=by
 refine z0ma s l hl ?_
 simp (disch:=first|omega|simp<;>omega|fail) [-zA,-zB,-zC,-zD,-zE,a12]
noncomputable def cCmn:List DV→Nat→Option (DV × List AObj):=conN (fun a:Spc × Sl Att=>a.2.l.length≤20) (fun a:Spc × Sl Att=>[.agg (spC a.1),a.2.dv 9 atC]) (fun a=>(.tup [oV 1 5 (zj70 (votL a.1 a.2.l)),qvA (votL a.1 a.2.l)],.cells (spC a.1)::oT agC (zj70 (votL a.1 a.2.l))))
theorem zcgd {n k K:Nat} {α:Type} {l:List α}:shD n (oV k K l)=oV (n+k) K l:=by
 unfold oV; split<;>rfl
theorem zveq {n:Nat} {α:Type} {f:α→List DV} {l:List α} (hp : ∀ a,zbao (f a)=true):(oT f l).map (shO n)=oT f l:=by
 unfold oT
 split
 ·rfl
 ·simp only [y0b,y18,z05k,fl,zj45 n _ (zp6k hp _)]
theorem zj79 {s:Spc} {l:Sl Att} (h:l.l.length≤20) (n:Nat):cCmn [.agg (spC s),l.dv 9 atC] n=some (.tup [oV (n+1) 5 (zj70 (votL s l.l)),qvA (votL s l.l)],.cells (spC s)::oT agC (zj70 (votL s l.l))):=by
 have:=zqtp (A:=fun a:Spc × Sl Att=>a.2.l.length≤20) (f:=fun a:Spc × Sl Att=>[.agg (spC a.1),a.2.dv 9 atC]) (g:=fun a=>(.tup [oV 1 5 (zj70 (votL a.1 a.2.l)),qvA (votL a.1 a.2.l)],.cells (spC a.1)::oT agC (zj70 (votL a.1 a.2.l)))) (fun a b e=>by rw [zg9a e]) (s,l) h n
 rw [cCmn,this]
 simp only [y0b,z05k,zj45 n _ (zhi7 s),zveq z1u0]
 congr 2
 show DV.tup [shD n (oV 1 5 (zj70 (votL s l.l))),shD n (qvA (votL s l.l))]=_
 rw [zcgd,za7m n _ (zb7u _)]
theorem zkeo:(Con.new cCmn).Sound P 12 :=
 z3ld (fun a _=>by simp [zbao,zyp8,zu1r]) fun a h=>zrqk Try.func12 zqkh (zxcq a.1 a.2 h)
end
section
set_option linter.unusedSimpArgs false
set_option linter.unusedVariables false
open Go Go.Am
theorem z165 (x:Sl Agr):zyp8 (x.dv 5 agC)=true:=zxxb z1u0 x
theorem z70f {x y:Sl Agr} (e:x.dv 5 agC=y.dv 5 agC):x=y:=zcq7 znh2 (by decide) (fun _ _=>zum4) e
def zvjk (s:Spc) (a:Agr):Bool:=decide ((a.owners.l.length:Int)<s.thr)
theorem z92y (s:Spc) (a:Agr):Runs tbl0 a46 [.agg (agC a),.ref (spC s)] (.bool (zvjk s a)):=by
 refine ⟨?_⟩
 have hl : ∀ H,lenD H (a.owners.dv 1 stC)=some (.int .i64 a.owners.l.length):=fun H=>zupj
 simp (disch:=first|omega|simp<;>omega|fail) [-zA,-zB,-zC,-zD,-zE,a46,zntj,z66y,hl,zvjk]
noncomputable def cDc1:List DV→Option DV:=con (fun _=>True) (fun a:Spc × Agr=>[.agg (agC a.2),.ref (spC a.1)]) (fun a => .bool (zvjk a.1 a.2))
theorem zxx2 {s:Spc} {a:Agr}:cDc1 [.agg (agC a),.ref (spC s)]=some (.bool (zvjk s a)) :=
 zsn4 (f:=fun a:Spc × Agr=>[.agg (agC a.2),.ref (spC a.1)]) (g:=fun a => .bool (zvjk a.1 a.2)) (by
  rintro ⟨a,b⟩ ⟨c,d⟩ e
  simp only [List.cons.injEq,DV.agg.injEq,DV.ref.injEq,and_true] at e
  rw [zum4 e.1,z1d3 e.2]) (s,a)
theorem zcl0:(Con.pure cDc1).Sound P 46:=z2au fun a _=>zljw mix zr5o Try.func46 znv1 (z92y a.1 a.2)
noncomputable def T960:Tbl:=addT 46 (.pure cDc1) tbl0
theorem zl3o:T960 46 = .pure cDc1:=by simp [T960]
theorem zkoa:T960.Sound P:=z0rp zcl0 zr5o
def dfn (s:Spc):DV := .fn (.func 46) [] [.ref (spC s)]
def S960 (s:Spc) (x:Sl Agr) (i:Nat):St:=zm1u (x.dv 5 agC) (dfn s) (.int .i64 x.l.length) (.int .i64 i) []
theorem zl1j (s:Spc) (x:Sl Agr):Runs T960 a65 [x.dv 5 agC,dfn s] (.int .i64 (fIx (zvjk s) x.l)):=by
 refine ⟨?_⟩
 have hb:=x.b
 simp (disch:=first|omega|simp<;>omega|fail) [-zA,-zB,-zC,-zD,-zE,a65]
 refine zlm5 (S960 s x) (fun i=>x.l.length-i) (fun i=>i≤x.l.length ∧ ∀ j (h:j<x.l.length),j<i→zvjk s x.l[j]=false) 0 (z515 (by simp (disch:=first|omega|simp<;>omega|fail) [-zA,-zB,-zC,-zD,-zE,S960,zm1u]) (by simp (disch:=first|omega|simp<;>omega|fail) [-zA,-zB,-zC,-zD,-zE,S960,zm1u])) ⟨by omega,fun j _ hj=>by omega⟩ (fun i hi => ?_)
 obtain ⟨q1,q2⟩:=hi
 simp only [S960]
 by_cases q:i<x.l.length
 ·have g':(i:Int)<x.l.length:=by omega
  have hy : ∀ H,zpsc H 5 (x.dv 5 agC) i=some (.ref (agC x.l[i])):=fun H=>zalo znh2 q
  have hc:=zxx2 (s:=s) (a:=x.l[i])
  have hinv:zvjk s x.l[i]=false → ∀ j (h:j<x.l.length),j<i+1→zvjk s x.l[j]=false:=fun e j hj hji=>by
   by_cases ej:j=i
   ·subst ej; exact e
   ·exact q2 j hj (by omega)
  have hr:zvjk s x.l[i]=true→fIx (zvjk s) x.l=i:=fun e=>z67l q e q2
  obtain ⟨u,hu⟩ : ∃ u,x.l[i]=u:=⟨_,rfl⟩
  rw [hu] at hy hc hinv hr
  cases e:zvjk s u with
  | true =>
   have hr:=hr e
   rw [e] at hc
   simp (disch:=first|omega|simp<;>omega|fail) [-zA,-zB,-zC,-zD,-zE,zur0,zm1u,q,g',hy,zd17,dfn,zl3o,hc,hr]
  | false =>
   have hinv:=hinv e
   rw [e] at hc
   simp (disch:=first|omega|simp<;>omega|fail) [-zA,-zB,-zC,-zD,-zE,zur0,zm1u,q,g',hy,zd17,dfn,zl3o,hc]
   exact ⟨i+1,z515 (by simp (disch:=first|omega|simp<;>omega|fail) [-zA,-zB,-zC,-zD,-zE,S960,zm1u,dfn]) (by simp (disch:=first|omega|simp<;>omega|fail) [-zA,-zB,-zC,-zD,-zE,S960,zm1u]),by omega,by omega,fun j h hj=>by simpa using hinv j h hj⟩
 ·have g':¬ (i:Int)<x.l.length:=by omega
  have hr:fIx (zvjk s) x.l = -1:=zf0r fun a ha=>by
   obtain ⟨j,hj,e⟩:=y0v ha
   have:=q2 j hj (by omega)
   rw [e] at this; exact this
  simp (disch:=first|omega|simp<;>omega|fail) [-zA,-zB,-zC,-zD,-zE,zur0,zm1u,q,g',hr]
noncomputable def cAix:List DV→Option DV:=con (fun _=>True) (fun a:Spc × Sl Agr=>[a.2.dv 5 agC,dfn a.1]) (fun a => .int .i64 (fIx (zvjk a.1) a.2.l))
theorem zjni {s:Spc} {x:Sl Agr}:cAix [x.dv 5 agC,dfn s]=some (.int .i64 (fIx (zvjk s) x.l)) :=
 zsn4 (f:=fun a:Spc × Sl Agr=>[a.2.dv 5 agC,dfn a.1]) (g:=fun a => .int .i64 (fIx (zvjk a.1) a.2.l)) (by
  rintro ⟨a,b⟩ ⟨c,d⟩ e
  simp only [List.cons.injEq,dfn,DV.fn.injEq,DV.ref.injEq,and_true,true_and] at e
  rw [z70f e.1,z1d3 e.2]) (s,x)
theorem zi1y:(Con.pure cAix).Sound P 65:=z2au fun a _=>zljw mix zkoa Try.func65 zh04 (zl1j a.1 a.2)
noncomputable def T961:Tbl:=addT 65 (.pure cAix) T960
theorem zt9j:T961 65 = .pure cAix:=by simp [T961]
theorem z8g9:T961 46 = .pure cDc1:=by simp [T961,T960]
theorem zjez:T961.Sound P:=z0rp zi1y zkoa
end
section
set_option linter.unusedSimpArgs false
set_option linter.unusedVariables false
open Go Go.Am
def agr0:Agr:=⟨⟨[],nilS,nilS⟩,nilS,nilS⟩
theorem zxlt:agC agr0=[.str [],.nils,.nils,.nils,.nils]:=rfl
def kepL (s:Spc) (l:List Agr):List Agr:=l.filter fun a => !zvjk s a
def delL (s:Spc) (A:List Agr):List Agr:=kepL s A++List.replicate (A.length-(kepL s A).length) agr0
def delV (k:Nat) (s:Spc) (A:List Agr):DV:=if A=[] then .nils else .ms k (A.length*5) 0 5 (kepL s A).length (A.length*5)
theorem zcmj (s:Spc) (A:List Agr):(kepL s A).length≤A.length:=y0j ..
theorem zr1v (s:Spc) (A:List Agr):(delL s A).length=A.length:=by
 unfold delL; have:=zcmj s A
 rw [y01,y0s]; omega
theorem za2d {s:Spc} {A:List Agr} (h : ∀ a ∈ A,zvjk s a=false):kepL s A=A:=List.filter_eq_self.2 fun a ha=>by rw [h a ha]; rfl
theorem zxrd {s:Spc} {l:List Agr} {x:Agr}:kepL s (l++[x])=kepL s l++(if zvjk s x then [] else [x]):=by
 unfold kepL; rw [y0e]
 cases h:zvjk s x<;>simp [h]
def dfm:DV := .fn (.func 46) [] [.mp 0 7 0]
theorem zrpz {pre:List AObj} {a b:AObj} {ver:Nat}:objV (pre++[a,b]) (pre.length+1) ver=objV [b] 0 ver:=by
 unfold objV ziu0; rw [List.getElem?_append_right (by omega),show pre.length+1-pre.length=1 by omega]; rfl
theorem z6rf {pre:List AObj} {a b o:AObj}:(pre++[a,b]).set (pre.length+1) o=pre++[a,o]:=by rw [y0t _ _ (by omega),show pre.length+1-pre.length=1 by omega]; rfl
structure DA where
 K:List Agr
 M:List Agr
 j:Nat
structure DAok (s:Spc) (A:List Agr) (a:DA):Prop where
 k:a.K=kepL s (A.take a.j)
 l:a.K.length+a.M.length=a.j
 m:1≤a.M.length
 j:a.j≤A.length
def S961 (pre:List AObj) (A:List Agr) (n:Nat) (a:DA):St:=z7h3 (.ms pre.length (n*5) 0 5 n (n*5)) dfm (.int .i64 a.K.length) (.int .i64 a.j) (pre++[.cells (fl agC (a.K++(a.M++A.drop a.j)))])
theorem z75l (s:Spc) (p':List AObj) (A:List Agr) (hA:A.length≤20) (hp : ∀ n,zlf2 n (.cells (spC s)::p')=true) :
  V P ((AObj.cells (spC s)::p')++oT agC A).length a45.code (retH a45.res (delV (AObj.cells (spC s)::p').length s A) ((.cells (spC s)::p')++oT agC (delL s A))) ⟨zr5g a45.ntmps [oV (AObj.cells (spC s)::p').length 5 A,dfm],(.cells (spC s)::p')++oT agC A⟩:=by
 obtain ⟨pre,hpre⟩ : ∃ pre,(AObj.cells (spC s)::p')=pre:=⟨_,rfl⟩
 have hsn0:=zigm (k:=pre.length) (l:=A) (h:=pre) (r:=[]) rfl znh2 z1u0 (by omega)
 rw [y05] at hsn0
 have hO0 : ∀ R,objV (pre++R) 0 7=some (spC s):=fun R=>by rw [← hpre]; simp [objV,ziu0]
 have hfn : ∀ R,snap (pre++R) 3 dfm=some (dfn s):=fun R=>by
  have:=hO0 R
  simp (disch:=first|omega|simp<;>omega|fail) [-zA,-zB,-zC,-zD,-zE,dfm,dfn,this]
 have hix:=zjni (s:=s) (x:=ownN A)
 rw [zd8n (by omega)] at hix
 rw [hpre] at hp ⊢
 have h1:1≤pre.length:=by rw [← hpre]; simp
 refine zbn1 (V_W mix zjez ?_)
 simp (disch:=first|omega|simp<;>omega|fail) [-zA,-zB,-zC,-zD,-zE,a45]
 have hnp:zyp8 dfm=false:=rfl
 have hdel:A=[]→oV pre.length 5 A=delV pre.length s A:=fun e=>by subst e; rfl
 obtain ⟨N,hN⟩ : ∃ N,fIx (zvjk s) A=N:=⟨_,rfl⟩
 rw [hN] at hix
 rcases za4c (zvjk s) A with ⟨f1,f2⟩|⟨i,hi,f1,f2,f3⟩
 ·rw [hN] at f1
  subst f1
  have hk:=za2d f2
  have e1:delL s A=A:=by unfold delL; rw [hk,y19]; simp
  have e2:delV pre.length s A=oV pre.length 5 A:=by unfold delV oV; rw [hk]
  rw [e1,e2]
  refine zbn1 (V_W mix zjez ?_)
  simp (disch:=first|omega|simp<;>omega|fail) [-zA,-zB,-zC,-zD,-zE,zt9j,hsn0,hfn,hix,hnp]
  refine zbn1 (zbn1 (V_W mix zjez ?_))
  simp (disch:=first|omega|simp<;>omega|fail) [-zA,-zB,-zC,-zD,-zE]
  refine V_W mix zjez ?_
  simp (disch:=first|omega|simp<;>omega|fail) [-zA,-zB,-zC,-zD,-zE]
 rw [hN] at f1
 subst f1
 have hne:A≠[]:=fun e=>by rw [e] at hi; simp at hi
 obtain ⟨n,hn⟩ : ∃ n,A.length=n:=⟨_,rfl⟩
 have e2:delV pre.length s A = .ms pre.length (n*5) 0 5 (kepL s A).length (n*5):=by unfold delV; rw [if_neg hne,hn]
 have e3:delL s A≠[]:=fun e=>by have:=zr1v s A; rw [e] at this; exact hne (y0i this.symm)
 rw [e2,zu2l e3]
 rw [zpni hne,zu2l hne] at hsn0 ⊢
 rw [hn] at hsn0 ⊢
 refine zbn1 (V_W mix zjez ?_)
 simp (disch:=first|omega|simp<;>omega|fail) [-zA,-zB,-zC,-zD,-zE,zt9j,hsn0,hfn,hix,hnp]
 refine zbn1 (zbn1 (V_W mix zjez ?_))
 simp (disch:=first|omega|simp<;>omega|fail) [-zA,-zB,-zC,-zD,-zE]
 refine V_W mix zjez ?_
 simp (disch:=first|omega|simp<;>omega|fail) [-zA,-zB,-zC,-zD,-zE]
 refine zbn1 (zbn1 (V_W mix zjez ?_))
 simp (disch:=first|omega|simp<;>omega|fail) [-zA,-zB,-zC,-zD,-zE]
 have hki:kepL s (A.take i)=A.take i:=za2d fun a ha=>by
  obtain ⟨j,hj,e⟩:=y0v ha
  rw [y07] at hj
  rw [← e,List.getElem_take]; exact f3 j (by omega) (by omega)
 have hil:(A.take i).length=i:=by rw [y07]; omega
 have hsp:A.take i++([A[i]]++A.drop (i+1))=A:=by
  rw [y13,← y0a hi,List.take_append_drop]
 refine z3mo (ztbr (S961 pre A n) (fun a=>n-a.j) (DAok s A) ⟨A.take i,[A[i]],i+1⟩ (z515 (by simp (disch:=first|omega|simp<;>omega|fail) [-zA,-zB,-zC,-zD,-zE,S961,z7h3,hil]) (by simp (disch:=first|omega|simp<;>omega|fail) [-zA,-zB,-zC,-zD,-zE,S961,z7h3,hsp])) ⟨?_,by simp only [y03]; omega,by simp,by simp only; omega⟩ (fun a ha => ?_))
 ·rw [y02 hi,zxrd,f2,hki]; simp
 obtain ⟨K,M,j⟩:=a
 obtain ⟨a1,a2,a3,a4⟩:=ha
 simp only at a1 a2 a3 a4
 simp only [S961]
 refine zbn1 (V_W mix zjez ?_)
 by_cases h:j<n
 case neg =>
  have h':¬ (j:Int)<n:=by omega
  have hK:kepL s A=K:=by rw [a1,y06 (by omega)]
  have hd:A.drop j=[]:=y0r (by omega)
  have hKl:K.length+M.length=n:=by omega
  rw [hd,y05]
  have hfl:(fl agC (K++M)).length=n*5:=by rw [z8lx znh2,y01,hKl]
  obtain ⟨c,hc⟩ : ∃ c,K.length=c:=⟨_,rfl⟩
  have hs1 : ∀ H,ziwb H 5 (.ms pre.length (n*5) 0 5 n (n*5)) (some (.int .i64 c)) none none=(objV H pre.length (n*5)).map fun _ => .ms pre.length (n*5) (c*5) 5 (n-c) (n*5):=fun H=>by
   rw [zam4 (l:=c) (m:=n) (by simp [zo77,iD]; omega),y0p]
  have hs2 : ∀ H,ziwb H 5 (.ms pre.length (n*5) 0 5 n (n*5)) none (some (.int .i64 c)) none=(objV H pre.length (n*5)).map fun _ => .ms pre.length (n*5) 0 5 c (n*5):=fun H=>by
   rw [zam4 (l:=0) (m:=c) (by simp [zo77,iD]; omega),Nat.zero_mul,y0p,Nat.sub_zero]
  have hcl : ∀ H,clrD H 5 [.str [],.nils,.nils,.nils,.nils] (.ms pre.length (n*5) (c*5) 5 (n-c) (n*5))=(objV H pre.length (n*5)).map fun l=>(.tup [],H.set pre.length (.cells (zk7y l (c*5) (reps (n-c) (agC agr0))))):=fun H=>z7ty rfl (by decide) rfl (by omega)
  have hsp:zk7y (fl agC (K++M)) (c*5) (reps (n-c) (agC agr0))=fl agC (K++List.replicate (n-c) agr0):=by
   rw [zqtu (f:=agC),← hc]
   exact z507 znh2 (by rw [y0s]; omega)
  have hfl2:(fl agC (K++List.replicate (n-c) agr0)).length=n*5:=by rw [z8lx znh2,y01,y0s,hc]; congr 1; omega
  have hdl:delL s A=K++List.replicate (n-c) agr0:=by unfold delL; rw [hK,hc,hn]
  rw [hdl,hK,hc]
  simp (disch:=first|omega|simp<;>omega|fail) [-zA,-zB,-zC,-zD,-zE,zmv1,z7h3,h,h',hfl,zjj2,z1zn]
  refine zbn1 (V_W mix zjez ?_)
  simp (disch:=first|omega|simp<;>omega|fail) [-zA,-zB,-zC,-zD,-zE,hs1,hcl,hsp,hfl,zjj2,z1zn,zxft]
  refine zbn1 (V_W mix zjez ?_)
  simp (disch:=first|omega|simp<;>omega|fail) [-zA,-zB,-zC,-zD,-zE,hs2,hfl2,zjj2,z1zn]
  refine V_W mix zjez ?_
  simp (disch:=first|omega|simp<;>omega|fail) [-zA,-zB,-zC,-zD,-zE]
 have h':(j:Int)<n:=by omega
 have hjl:j<A.length:=by omega
 obtain ⟨x,hx⟩ : ∃ x,A[j]=x:=⟨_,rfl⟩
 have hd:A.drop j=x::A.drop (j+1):=by rw [y0a hjl,hx]
 have hk1:kepL s (A.take (j+1))=K++(if zvjk s x then [] else [x]):=by rw [y02 hjl,zxrd,← a1,hx]
 obtain ⟨R,hR⟩ : ∃ R,A.drop (j+1)=R:=⟨_,rfl⟩
 have hRl:R.length=n-(j+1):=by rw [← hR,y0k,hn]
 rw [hR] at hd
 rw [hd]
 obtain ⟨L,hL⟩ : ∃ L,K++(M++x::R)=L:=⟨_,rfl⟩
 have hLl:L.length=n:=by rw [← hL]; simp; omega
 have hjL : ∀ h:j<L.length,L[j]=x:=fun h=>by
  subst hL
  rw [y0o (by omega),y0o (by omega)]
  simp [show j-K.length-M.length=0 by omega]
 rw [hL]
 obtain ⟨G,hG⟩ : ∃ G,fl agC L=G:=⟨_,rfl⟩
 have hGl:G.length=n*5:=by rw [← hG,z8lx znh2,hLl]
 have hGp:zbao G=true:=by rw [← hG]; exact zp6k z1u0 L
 have o1:oneC 5 true (G.drop (j*5))=some (.agg (agC x)):=by rw [← hG,zfiy znh2 (by omega),hjL]
 have hix2 : ∀ H,zpsc H 5 (.ms pre.length (n*5) 0 5 n (n*5)) (j:Int)=(objV H pre.length (n*5)).map fun _ => .mp pre.length (n*5) (j*5):=fun H=>by
  simp (disch:=first|omega|simp<;>omega|fail) [-zA,-zB,-zC,-zD,-zE,h,h']
 rw [hG]
 obtain ⟨c,hc⟩ : ∃ c,K.length=c:=⟨_,rfl⟩
 have hcn:c<n:=by omega
 have hcn':(c:Int)<n:=by omega
 have hHb:zlf2 (pre.length+1) (pre++[.cells G])=true:=zebc (hp _) (by simp only [zlf2,zmq5 _ _ hGp,y0g])
 rw [hc]
 simp (disch:=first|omega|simp<;>omega|fail) [-zA,-zB,-zC,-zD,-zE,zmv1,z7h3,h,h',hGl,zjj2,z1zn]
 refine zbn1 (z3mo (zbn1 (V_W mix zjez ?_)))
 simp (disch:=first|omega|simp<;>omega|fail) [-zA,-zB,-zC,-zD,-zE,h,h',hGl,zjj2,z1zn,o1,zrpz,z6rf]
 rw [show pre++[AObj.cells G,AObj.cells (agC x)]=(pre++[.cells G])++[.cells (agC x)] by simp]
 have hHl:(pre++[AObj.cells G]).length=pre.length+1:=by simp
 refine zs10 (n0:=pre.length+1) (H:=pre++[.cells G]) (cs:=agC x) (t':=[.ms pre.length (n*5) 0 5 n (n*5),dfm,.junk,.junk,.junk,.int .i64 c,.int .i64 j,.ref (agC x)]++js 34) (by rw [hHl]; exact hHb) (y1a hHl.symm) ?_ (by simp (disch:=first|omega|simp<;>omega|fail) [-zA,-zB,-zC,-zD,-zE,belowL,Am.below,dfm]) ?_
 ·have e1:=zz5t (H:=pre++[.cells G]) (cs:=agC x) (off:=0) (z1u0 x)
  rw [hHl,znh2,y14] at e1
  simp only [y0q,y04,y00] at e1
  have e2 : ∀ h,mk1 (kLt (pre.length+1)) h (.ms pre.length (n*5) 0 5 n (n*5)) = .ms pre.length (n*5) 0 5 n (n*5):=fun h=>zd3c (by simp [Am.below])
  have e3 : ∀ h,mk1 (kLt (pre.length+1)) h dfm=dfm:=fun h=>zd3c (by simp [Am.below,dfm,belowL])
  rw [hHl]
  simp (disch:=first|omega|simp<;>omega|fail) [-zA,-zB,-zC,-zD,-zE,e1,e2,e3,-z1bt,-zdpe]
 have hcd:=zxx2 (s:=s) (a:=x)
 refine V_W mix zjez ?_
 cases hsm:zvjk s x with
 | true =>
  rw [hsm] at hcd hk1
  have hfin:fl agC (K++((M++[x])++A.drop (j+1)))=G:=by rw [hR,← hG,← hL]; simp
  simp (disch:=first|omega|simp<;>omega|fail) [-zA,-zB,-zC,-zD,-zE,dfm,zd17,z8g9,hcd,hO0]
  refine V_W mix zjez ?_
  simp (disch:=first|omega|simp<;>omega|fail) [-zA,-zB,-zC,-zD,-zE]
  exact ⟨⟨K,M++[x],j+1⟩,z515 (by simp (disch:=first|omega|simp<;>omega|fail) [-zA,-zB,-zC,-zD,-zE,S961,z7h3,dfm,hc]) (by simp only [S961,z7h3]; rw [hfin]),by simp only; omega,⟨by simpa using hk1.symm,by simp only [y01,y03]; omega,by simp,by simp only; omega⟩⟩
 | false =>
  rw [hsm] at hcd hk1
  obtain ⟨m0,M',rfl⟩ : ∃ m0 M',M=m0::M':=by
   cases M with
   | nil=>simp at a3
   | cons m0 M'=>exact ⟨m0,M',rfl⟩
  have hset:L.set c x=(K++[x])++((M'++[x])++R):=by
   rw [← hL,← hc,y0t _ _ (y08 _),y19]; simp
  have hst : ∀ h:List AObj,zy6o h pre.length 5 (c*5) (.agg (agC x)) (some G)=some (.junk,h.set pre.length (.cells (fl agC ((K++[x])++((M'++[x])++R))))):=fun h=>by rw [← hG,zdvi znh2 (by decide) (fun _=>z892) (by omega),hset]
  simp (disch:=first|omega|simp<;>omega|fail) [-zA,-zB,-zC,-zD,-zE,dfm,zd17,z8g9,hcd,hO0,hGl,zjj2,z1zn,hst,zxft,hcn,hcn']
  refine V_W mix zjez ?_
  simp (disch:=first|omega|simp<;>omega|fail) [-zA,-zB,-zC,-zD,-zE]
  exact ⟨⟨K++[x],M'++[x],j+1⟩,z515 (by simp (disch:=first|omega|simp<;>omega|fail) [-zA,-zB,-zC,-zD,-zE,S961,z7h3,dfm,hc]) (by simp (disch:=first|omega|simp<;>omega|fail) [-zA,-zB,-zC,-zD,-zE,S961,z7h3,hR]),by simp only; omega,⟨by simpa using hk1.symm,by simp only [y01,y03]; simp only [y09] at a2; omega,by simp,by simp only; omega⟩⟩
theorem zni1 (s:Spc) (p':List AObj) (A:List Agr) (hA:A.length≤20) (hp : ∀ n,zlf2 n (.cells (spC s)::p')=true):zwy1 P 45 [oV (AObj.cells (spC s)::p').length 5 A,dfm] ((.cells (spC s)::p')++oT agC A) (fun d h=>d=delV (AObj.cells (spC s)::p').length s A∧h=(.cells (spC s)::p')++oT agC (delL s A)) :=
 zrqk Try.func45 z94d (z75l s p' A hA hp)
end
section
set_option linter.unusedSimpArgs false
set_option linter.unusedVariables false
open Go Go.Am
def enS (s:Spc) (A:List Agr):Sl Agr:=if A=[] then nilS else own (kepL s A)
theorem znmy {s:Spc} {A:List Agr} (h:A.length≤20):(enS s A).l=kepL s A:=by
 unfold enS
 split
 ·rename_i e; subst e; rfl
 ·have:=zcmj s A
  rw [z3e9 (by omega)]
def decA (s:Spc) (V:List Vot):Agr × Int:=match decF (fun a:Agr=>a.owners.l.length) s.thr (zj70 V) with
 | .thr=>(agr0,10)
 | .dis=>(agr0,11)
 | .ok a=>(⟨a.lnk,a.owners,ownN (eqv1 V)⟩,0)
theorem zbp1 {s:Spc} {A:List Agr} (hA:A.length≤20) {H:List AObj} {k:Nat} (hk:k≤H.length):mk1 (kLt k) (H++oT agC (delL s A)) (delV H.length s A)=(enS s A).dv 5 agC:=by
 have hkl:=zcmj s A
 by_cases e:A=[]
 ·subst e; exact zhx5
 ·have hd:delL s A≠[]:=fun q=>by have:=zr1v s A; rw [q] at this; exact e (y0i this.symm)
  have hd2:(fl agC (delL s A)).length=A.length*5:=by rw [z8lx znh2,zr1v]
  have htk:(fl agC (delL s A)).take ((kepL s A).length*5)=(kepL s A).flatMap agC:=by
   rw [z590 znh2]; unfold delL; rw [List.take_left' rfl]
  unfold delV enS
  rw [if_neg e,if_neg e,zu2l hd]
  refine zwy6 ?_
  rw [zi9r,if_neg (by simp [kLt]; omega),zjj2,z1zn,if_pos hd2,Option.bind_some,y14,htk,zl6f (zp6k z1u0 _),zqrs (by omega)]; rfl
noncomputable def T962:Tbl:=addT 12 (.new cCmn) tbl0
theorem zm8b:T962 12 = .new cCmn:=by simp [T962]
theorem zwd6:T962.Sound P:=z0rp zkeo zr5o
theorem zyss:zvnk [.str [],.nils,.nils,.nils,.nils] []=some (.agg (agC agr0)):=rfl
theorem zpir (s:Spc) (l:Sl Att) (hl:l.l.length≤20):V P 0 a14.code (retK a14.res (.tup [.agg (agC (decA s (votL s l.l)).1),.int .i64 (decA s (votL s l.l)).2])) ⟨zr5g a14.ntmps [.agg (spC s),l.dv 9 atC],[]⟩:=by
 have hV:=zldt s l.l
 have k1:=fun n=>zj79 (s:=s) hl n
 obtain ⟨V,hVV⟩ : ∃ V,votL s l.l=V:=⟨_,rfl⟩
 rw [hVV] at hV k1 ⊢
 have hAl:=z9h1 (V:=V) (by omega)
 have hq:=zb7u V
 have hdec:decA s V=match decF (fun a:Agr=>a.owners.l.length) s.thr (zj70 V) with
  | .thr=>(agr0,10)
  | .dis=>(agr0,11)
  | .ok a=>(⟨a.lnk,a.owners,ownN (eqv1 V)⟩,0):=rfl
 obtain ⟨A,hA⟩ : ∃ A,zj70 V=A:=⟨_,rfl⟩
 rw [hA] at k1 hAl hdec
 have hcall:=zni1 s [.cells (agC agr0),.cells (spC s)] A (by omega) (fun n=>by simp only [zlf2,z2i6,zegd,y0g])
 have hmk:=zbp1 (s:=s) (A:=A) (by omega) (H:=[AObj.cells (spC s),.cells (agC agr0),.cells (spC s)]) (k:=2) (by simp)
 have hEl:=znmy (s:=s) (A:=A) (by omega)
 obtain ⟨E,hE⟩ : ∃ E,enS s A=E:=⟨_,rfl⟩
 rw [hE] at hmk hEl
 have hqm : ∀ K h,mk1 K h (qvA V)=qvA V:=fun K h=>zvft hq
 simp only [y04,y00,y09,y0f,y0p,Nat.reduceAdd] at hcall hmk
 refine zbn1 (V_W mix zr5o ?_)
 simp (disch:=first|omega|simp<;>omega|fail) [-zA,-zB,-zC,-zD,-zE,a14]
 rw [← zxlt]
 refine zbn1 (V_W mix zwd6 ?_)
 simp (disch:=first|omega|simp<;>omega|fail) [-zA,-zB,-zC,-zD,-zE,z8s9,zm8b,k1,zu1r]
 refine zbn1 (V_W mix (z84q hcall) ?_)
 simp (disch:=first|omega|simp<;>omega|fail) [-zA,-zB,-zC,-zD,-zE,TH_k,zpvh,dfm]
 refine z0em (H:=[AObj.cells (spC s),.cells (agC agr0)]) (R := .cells (spC s)::oT agC (delL s A)) (t':=[.junk,.junk,.mp 0 7 0,.junk,.mp 1 5 0,.int .i64 0,.junk,qvA V,E.dv 5 agC]++js 31) (by simp only [zlf2,z2i6,zegd,y0g]) (by simp) ?_ (by simp (disch:=first|omega|simp<;>omega|fail) [-zA,-zB,-zC,-zD,-zE,belowL,Am.below,z8b8 _ _ hq,z8b8 _ _ (z165 E)]) ?_
 ·simp only [y09,y0f,y0p,Nat.reduceAdd,y04,y00]
  have e2 : ∀ h,mk1 (kLt 2) h (.mp 0 7 0) = .mp 0 7 0:=fun h=>zd3c (by simp [Am.below])
  have e3 : ∀ h,mk1 (kLt 2) h (.mp 1 5 0) = .mp 1 5 0:=fun h=>zd3c (by simp [Am.below])
  simp (disch:=first|omega|simp<;>omega|fail) [-zA,-zB,-zC,-zD,-zE,e2,e3,hmk,hqm,-z1bt,-zdpe]
 have hlE : ∀ H,lenD H (E.dv 5 agC)=some (.int .i64 E.l.length):=fun H=>zupj
 have hEk:kepL s A=enoL (fun a:Agr=>a.owners.l.length) s.thr A:=rfl
 rw [hEk] at hEl
 refine V_W mix zr5o ?_
 by_cases ht:s.thr<1
 ·have hd:decA s V=(agr0,10):=by rw [hdec]; unfold decF; rw [if_pos ht]
  rw [hd]
  simp (disch:=first|omega|simp<;>omega|fail) [-zA,-zB,-zC,-zD,-zE,z66y,ht,zyss]
 have hzz:E.l≠[] → ∀ H,∃ y r,E.l=y::r∧zpsc H 5 (E.dv 5 agC) 0=some (.ref (agC y)):=fun hne H=>by
  cases e:E.l with
  | nil=>exact absurd e hne
  | cons y r =>
   have:=zalo (h:=H) (x:=E) (i:=0) znh2 (by rw [e]; simp)
   rw [show ((0:Nat):Int)=0 from rfl] at this
   exact ⟨y,r,rfl,by rw [this]; simp [e]⟩
 rcases hEE:E.l with _|⟨y,_|⟨z,r⟩⟩
 ·have hd:decA s V=(agr0,10):=by rw [hdec]; unfold decF; rw [if_neg ht,← hEl,hEE]
  rw [hEE] at hlE
  rw [hd]
  simp (disch:=first|omega|simp<;>omega|fail) [-zA,-zB,-zC,-zD,-zE,z66y,ht,hlE,zyss]
 ·have hd:decA s V=(⟨y.lnk,y.owners,ownN (eqv1 V)⟩,0):=by rw [hdec]; unfold decF; rw [if_neg ht,← hEl,hEE]
  have hi : ∀ H,zpsc H 5 (E.dv 5 agC) 0=some (.ref (agC y)):=fun H=>by
   obtain ⟨y',r,e,h⟩:=hzz (by rw [hEE]; simp) H
   rw [hEE] at e; cases e; exact h
  have hst : ∀ (H:List AObj) (id:Nat),zy6o H id 1 4 (qvA V) (some (agC y))=some (.junk,H.set id (.cells (agC ⟨y.lnk,y.owners,ownN (eqv1 V)⟩))):=fun H id=>by
   have:qvA V=(ownN (eqv1 V)).dv 1 stC:=rfl
   rw [this,Am.storeO_1 (zfr8 _) (z4ja _) (by rw [znh2]; decide)]; rfl
  rw [hEE] at hlE
  rw [hd]
  simp (disch:=first|omega|simp<;>omega|fail) [-zA,-zB,-zC,-zD,-zE,z66y,ht,hlE,hi,zd17,hst]
 ·have hd:decA s V=(agr0,11):=by rw [hdec]; unfold decF; rw [if_neg ht,← hEl,hEE]
  rw [hEE] at hlE
  have hl2:¬ ((z::r).length:Int)+1=0:=by omega
  have hl3:(1:Int)<((z::r).length:Int)+1:=by simp; omega
  have hl4:((y::z::r).length:Int)=((z::r).length:Int)+1:=by simp
  obtain ⟨N,hN⟩ : ∃ N:Nat,(z::r).length=N:=⟨_,rfl⟩
  rw [hN] at hl2 hl3 hl4
  simp only [hl4] at hlE
  rw [hd]
  simp (disch:=first|omega|simp<;>omega|fail) [-zA,-zB,-zC,-zD,-zE,z66y,ht,hlE,zyss,hl2,hl3]
noncomputable def cDec:List DV→Option DV:=con (fun a:Spc × Sl Att=>a.2.l.length≤20) (fun a:Spc × Sl Att=>[.agg (spC a.1),a.2.dv 9 atC]) (fun a => .tup [.agg (agC (decA a.1 (votL a.1 a.2.l)).1),.int .i64 (decA a.1 (votL a.1 a.2.l)).2])
theorem z6ch {s:Spc} {l:Sl Att} (h:l.l.length≤20):cDec [.agg (spC s),l.dv 9 atC]=some (.tup [.agg (agC (decA s (votL s l.l)).1),.int .i64 (decA s (votL s l.l)).2]) :=
 zzno (A:=fun a:Spc × Sl Att=>a.2.l.length≤20) (f:=fun a:Spc × Sl Att=>[.agg (spC a.1),a.2.dv 9 atC]) (g:=fun a => .tup [.agg (agC (decA a.1 (votL a.1 a.2.l)).1),.int .i64 (decA a.1 (votL a.1 a.2.l)).2]) (fun a b e=>by rw [zg9a e]) (s,l) h
theorem zdlo:(Con.pure cDec).Sound P 14:=z2au fun a h=>znz9 Try.func14 zzfl (zpir a.1 a.2 h)
end
section
set_option linter.unusedSimpArgs false
set_option linter.unusedVariables false
open Go Go.Am
section
variable {α:Type} {f:α→List DV} {K:Nat}
def oW (k K:Nat) (l:List α):DV:=if l=[] then .sl true K 0 [] else .ms k (l.length*K) 0 K l.length (l.length*K)
theorem ze3w {k:Nat}:oW k K ([]:List α) = .sl true K 0 []:=rfl
theorem zpml {k:Nat} {l:List α} (h:l≠[]):oW k K l=oV k K l:=by rw [zpni h]; exact if_neg h
theorem zg9v {k:Nat} {l:List α}:(oW k K l).known=true:=by unfold oW; split<;>rfl
theorem znxx {k b:Nat} {l cs:List α} {h:List AObj} (hp:h.length=k) (hu : ∀ a,(f a).length=K) (h0:0<K) (hb:b≤16384) (ha : ∀ a,(f a).all DV.one=true) (hbig:l.length+cs.length≤4294967296) :
  appX (h++oT f l) K b (oW k K l) cs.length (cs.flatMap f)=some (oW k K (l++cs),h++oT f (l++cs)):=by
 by_cases e:l=[]
 ·subst e
  rw [ze3w,zkrk,y05,y00]
  by_cases e2:cs=[]
  ·subst e2
   rw [show ([]:List α).flatMap f=[] from rfl,y0f,zegt hb h0,ze3w,zkrk,y05]
  ·have:=ztup (h:=h) (s:=K) (b:=b) (n:=0) (m:=cs.length) (ds:=[]) (cs:=cs.flatMap f) hb h0 (by rw [z1rq hu]) (y0w.2 e2) (by simp at hbig; omega)
   rw [this,zpml e2,zpni e2,zu2l e2,z1rq hu,hp]
   simp [fl]
 ·rw [zpml e,zpml (by simp [e])]
  exact z612 hp hu h0 hb ha hbig
end
theorem z3gr {P:Program} {x:ACode} {Φ:AExit→St→Prop} {t t':List DV} {R:List AObj} (ht:znqe (mkL (kLt 0) R t) t') (hb:belowL 0 t'=true) (h:V P 0 x Φ ⟨t',[]⟩):V P 0 x Φ ⟨t,R⟩:=by
 have:=z0em (H:=[]) (R:=R) (t:=t) (t':=t') (P:=P) (n0:=0) (x:=x) (Φ:=Φ) rfl (y08 _) ht hb h
 exact this
theorem zu1c {k K:Nat} {α:Type} {l:List α}:(oV k K l).known=true:=by unfold oV; split<;>rfl
theorem zye0 {s:Str} {m p:Sl Ent}:zvnk [.str [],.nils,.nils] [(0,1,.str s),(1,1,m.dv 33 enC),(2,1,p.dv 33 enC)]=some (.agg (lkC ⟨s,m,p⟩)):=by
 simp [zvnk,zi03,zk7y,lkC]
end
section
set_option linter.unusedSimpArgs false
set_option linter.unusedVariables false
open Go Go.Am
structure Tp where
 k:Option Bool
 l:List Int
 h:k=none→l=[]
 at_:Nat
def inI (n:Int):List DV:=[.int .i64 n]
def Tp.sl (t:Tp):DV:=slD t.k 1 t.l.length (t.l.flatMap inI)
def tpC (t:Tp):List DV:=[t.sl,.int .i64 t.at_]
def Tp.adv (t:Tp) (m:Nat):Tp:={ t with at_:=t.at_+m }
theorem zg97 (n:Int):(inI n).length=1:=rfl
theorem zyj0 (n:Int):zbao (inI n)=true:=rfl
theorem z5yb (t:Tp):zyp8 t.sl=true:=by
 obtain ⟨k,l,h,a⟩:=t
 cases k with
 | none=>rfl
 | some b=>show zbao _=true; exact zp6k zyj0 l
theorem zs7w (t:Tp):zbao (tpC t)=true:=by simp [tpC,zbao,z5yb,zyp8]
theorem zl4f (t:Tp):(tpC t).length=2:=by simp [tpC]
theorem zwhz (t:Tp) (H:List AObj):lenD H t.sl=some (.int .i64 t.l.length):=zjc6 (fun e=>by rw [t.h e]; rfl)
theorem zmwh (t:Tp) (H:List AObj) {i:Nat} (hi:i<t.l.length):zpsc H 1 t.sl i=some (.ref [.int .i64 t.l[i]]):=by
 obtain ⟨k,l,h,a⟩:=t
 cases k with
 | none=>simp only at hi; rw [h rfl] at hi; simp at hi
 | some b =>
  simp only [Tp.sl,zip4]
  rw [zsu0 (by omega) (by simp only at hi; omega),y0z,zdao zg97 hi]; rfl
theorem zxr4 (t:Tp):t.sl.one=true:=by obtain ⟨k,l,h,a⟩:=t; cases k<;>rfl
theorem zn8z (t:Tp):t.sl.known=true:=by obtain ⟨k,l,h,a⟩:=t; cases k<;>rfl
theorem zymw (t:Tp):t.sl.cells=[t.sl]:=by obtain ⟨k,l,h,a⟩:=t; cases k<;>rfl
theorem zpy8 (t:Tp) (n k:Nat) (H:List AObj):fz n H k t.sl=some t.sl:=zqge (z5yb t)
theorem ziad : ∀ {a b:List Int},a.flatMap inI=b.flatMap inI→a=b
 | [],[],_=>rfl
 | [],y::b,h=>by simp [inI] at h
 | x::a,[],h=>by simp [inI] at h
 | x::a,y::b,h=>by
  simp only [y0d,inI,y13,List.cons.injEq,DV.int.injEq,true_and] at h
  rw [h.1,ziad h.2]
theorem z15z {a b:Tp} (h:tpC a=tpC b):a=b:=by
 obtain ⟨k,l,h1,p⟩:=a
 obtain ⟨k',l',h2,p'⟩:=b
 simp only [tpC,Tp.sl,List.cons.injEq,DV.int.injEq,true_and,and_true,y11] at h
 obtain ⟨h,rfl⟩:=h
 cases k with
 | none=>cases k' with
  | none=>rw [Tp.mk.injEq]; exact ⟨rfl,by rw [h1 rfl,h2 rfl],rfl⟩
  | some b=>simp [slD] at h
 | some b=>cases k' with
  | none=>simp [slD] at h
  | some b' =>
   simp only [zip4,DV.sl.injEq] at h
   obtain ⟨rfl,_,_,h⟩:=h
   rw [Tp.mk.injEq]; exact ⟨rfl,ziad h,rfl⟩
attribute [simp] zwhz zxr4 zn8z zymw zpy8 zl4f
def zq5q (t:Tp):Int:=if h:t.at_<t.l.length then t.l[t.at_] else t.at_*7+3
def tpN (t:Tp) (n:Int):Int:=if n<1 then 0 else zq5q t % n
def tpS (t:Tp) (n:Int):Tp:=if n<1 then t else t.adv 1
theorem z4rs (t:Tp) (n:Int):0≤tpN t n:=by
 unfold tpN; split
 ·omega
 ·exact Int.emod_nonneg _ (by omega)
theorem z2s7 (t:Tp) {n:Int} (h:1≤n):tpN t n<n:=by
 unfold tpN; rw [if_neg (by omega)]; exact Int.emod_lt_of_pos _ (by omega)
theorem z1rh (t:Tp) (m:Nat):(t.adv m).sl=t.sl:=by simp [Tp.adv,Tp.sl]
theorem zpza (t:Tp) (m:Nat):(t.adv m).at_=t.at_+m:=by simp [Tp.adv]
theorem zk2k (t:Tp) (m:Nat):(t.adv m).l=t.l:=by simp [Tp.adv]
attribute [simp] z1rh zpza zk2k
theorem zhly (x n:Int) (h:1≤n) (h2:n≤4294967296):IntKind.i64.wrap (x.tmod n+n)=x.tmod n+n∧(x.tmod n+n).tmod n=x % n:=by
 have h1:=Int.tmod_lt_of_pos x (show 0<n by omega)
 have h3 : -n<x.tmod n:=by
  have:=Int.lt_tmod_of_pos x (show 0<n by omega)
  omega
 refine ⟨znmn (by omega) (by omega),?_⟩
 rw [y0m (by omega),Int.add_emod_right]
 rw [Int.tmod_eq_emod]
 split
 ·simp
 ·rw [Int.natAbs_of_nonneg (show 0≤n by omega)]; simp
theorem z1hg (t:Tp) (n:Int) (ht:t.at_<4294967296) (hn:n≤4294967296):RunsF tbl0 a25 [.mp 0 2 0,.int .i64 n] [.cells (tpC t)] (.int .i64 (tpN t n)) [.cells (tpC (tpS t n))]:=by
 refine ⟨?_⟩
 by_cases h:n<1
 ·have e1:tpN t n=0:=by rw [tpN,if_pos h]
  have e2:tpS t n=t:=by rw [tpS,if_pos h]
  rw [e1,e2]
  simp (disch:=first|omega|simp<;>omega|fail) [-zA,-zB,-zC,-zD,-zE,a25,tpC,h]
 have e2:tpS t n=t.adv 1:=by rw [tpS,if_neg h]
 obtain ⟨f1,f2⟩:=zhly (zq5q t) n (by omega) hn
 have e3:tpN t n=zq5q t % n:=by rw [tpN,if_neg h]
 rw [← e3] at f2
 rw [e2]
 have hn0:n≠0:=by omega
 by_cases hl:t.at_<t.l.length
 ·have hl':(t.at_:Int)<t.l.length:=by omega
  have hr:t.l[t.at_]=zq5q t:=by rw [zq5q,dif_pos hl]
  have hi:=fun H=>zmwh t H hl
  simp (disch:=first|omega|simp<;>omega|fail) [-zA,-zB,-zC,-zD,-zE,a25,tpC,h,hl,hl',hi,hr,hn0,f1,f2,-y0m]
 ·have hl':¬ (t.at_:Int)<t.l.length:=by omega
  have hr:(t.at_:Int)*7+3=zq5q t:=by rw [zq5q,dif_neg hl]
  have hw:(t.at_:Int)*7<9223372036854775808:=by omega
  simp (disch:=first|omega|simp<;>omega|fail) [-zA,-zB,-zC,-zD,-zE,a25,tpC,h,hl,hl',hr,hn0,f1,f2,-y0m]
theorem zjmf (t:Tp) (a b:Nat):(t.adv a).adv b=t.adv (a+b):=by simp [Tp.adv,Nat.add_assoc]
theorem zi8m {t:Tp} {n:Int} (h:1≤n):tpS t n=t.adv 1:=by rw [tpS,if_neg (by omega)]
noncomputable def z1m3:List DV→List DV→Option (DV × List DV):=conT (fun a:Tp × Int=>a.1.at_<4294967296∧a.2≤4294967296) (fun a=>[.int .i64 a.2]) (fun a=>tpC a.1) (fun a=>(.int .i64 (tpN a.1 a.2),tpC (tpS a.1 a.2)))
theorem zs7j {t:Tp} {n:Int} (h1:t.at_<4294967296) (h2:n≤4294967296):z1m3 [.int .i64 n] (tpC t)=some (.int .i64 (tpN t n),tpC (tpS t n)) :=
 ztyo (A:=fun a:Tp × Int=>a.1.at_<4294967296∧a.2≤4294967296) (f:=fun a=>[.int .i64 a.2]) (s:=fun a=>tpC a.1) (by
  rintro ⟨a,n⟩ ⟨b,m⟩ e1 e2
  simp only [List.cons.injEq,DV.int.injEq,true_and,and_true] at e1
  rw [e1,z15z e2]) (t,n) ⟨h1,h2⟩
theorem z44h {t:Tp} {n:Int} (h1:t.at_<4294967296) (h2:n≤4294967296) (h3:1≤n):z1m3 [.int .i64 n] (tpC t)=some (.int .i64 (tpN t n),tpC (t.adv 1)):=by rw [zs7j h1 h2,zi8m h3]
theorem z51e:(Con.tch z1m3).Sound P 25 :=
 z0tq (fun a _=>⟨rfl,zs7w _,rfl,zs7w _⟩) fun a h=>zizi mix zr5o Try.func25 zgum (z1hg a.1 a.2 h.1 h.2) (y08 _)
noncomputable def T150:Tbl:=addT 25 (.tch z1m3) tbl0
theorem zp0f:T150 25 = .tch z1m3:=by simp [T150]
theorem zt0z:T150.Sound P:=z0rp z51e zr5o
def zzh5 (t:Tp) (l:List (List UInt8)):List UInt8:=l.getD (tpN t l.length).toNat []
theorem zqrp (t:Tp) {l:List (List UInt8)} (h:l≠[]):zzh5 t l ∈ l:=by
 have h0:1≤l.length:=by cases l with|nil=>exact absurd rfl h|cons _ _=>simp
 have h1:=z4rs t l.length
 have h2:=z2s7 t (n:=l.length) (by omega)
 have h3:(tpN t l.length).toNat<l.length:=by omega
 rw [zzh5,y0y,y10 h3]
 exact y0l h3
theorem z4zb (t:Tp) (l:List (List UInt8)) (ht:t.at_<4000000000) (h0:1≤l.length) (hl:l.length≤4294967296):RunsF T150 a27 [.mp 0 2 0,.sl true 1 l.length (l.map .str)] [.cells (tpC t)] (.str (zzh5 t l)) [.cells (tpC (t.adv 1))]:=by
 refine ⟨?_⟩
 have h1:=z4rs t l.length
 have h2:=z2s7 t (n:=l.length) (by omega)
 obtain ⟨N,hN⟩ : ∃ N:Nat,tpN t l.length=N:=⟨_,(y17 h1).symm⟩
 have h3:N<l.length:=by omega
 have e:zzh5 t l=l[N]:=by rw [zzh5,hN,y0z,y0y,y10 h3]; rfl
 have hd:((l.map DV.str).drop N).take 1=[.str l[N]]:=by
  rw [← List.map_drop,y0a h3]; rfl
 have hfz:fzL 1 [.cells (tpC (t.adv 1))] (tpC (t.adv 1)) (tpC (t.adv 1)):=znnb (zs7w _)
 simp (disch:=first|omega|simp<;>omega|fail) [-zA,-zB,-zC,-zD,-zE,a27,zp0f,z44h,hN,h3,e,hd,hfz,zbao]
noncomputable def zqck:List DV→List DV→Option (DV × List DV):=conT (fun a:Tp × List (List UInt8)=>a.1.at_<4000000000∧1≤a.2.length∧a.2.length≤4294967296) (fun a=>[.sl true 1 a.2.length (a.2.map .str)]) (fun a=>tpC a.1) (fun a=>(.str (zzh5 a.1 a.2),tpC (a.1.adv 1)))
theorem zsi8 : ∀ {a b:List (List UInt8)},a.map DV.str=b.map DV.str→a=b
 | [],[],_=>rfl
 | [],y::b,h=>by simp at h
 | x::a,[],h=>by simp at h
 | x::a,y::b,h=>by
  simp only [y0b,List.cons.injEq,DV.str.injEq] at h
  rw [h.1,zsi8 h.2]
theorem ze0z {t:Tp} {l:List (List UInt8)} (h:t.at_<4000000000) (h1:1≤l.length) (h2:l.length≤4294967296):zqck [.sl true 1 l.length (l.map .str)] (tpC t)=some (.str (zzh5 t l),tpC (t.adv 1)) :=
 ztyo (A:=fun a:Tp × List (List UInt8)=>a.1.at_<4000000000∧1≤a.2.length∧a.2.length≤4294967296) (f:=fun a=>[.sl true 1 a.2.length (a.2.map .str)]) (s:=fun a=>tpC a.1) (by
  rintro ⟨a,n⟩ ⟨b,m⟩ e1 e2
  simp only [List.cons.injEq,DV.sl.injEq,true_and,and_true] at e1
  rw [zsi8 e1.2,z15z e2]) (t,l) ⟨h,h1,h2⟩
theorem z3hj:(Con.tch zqck).Sound P 27 :=
 z0tq (fun a _=>⟨by simp [zbao,zyp8]; exact List.rec rfl (fun _ _ ih=>by simpa [zbao,zyp8] using ih) a.2,zs7w _,rfl,zs7w _⟩) fun a h=>zizi mix zt0z Try.func27 z3hx (z4zb a.1 a.2 h.1 h.2.1 h.2.2) (y08 _)
def dgW (b:BitVec 8):Dg:=⟨b::rep 31 0#8,by simp [rep]⟩
abbrev dgB (z:Int):Dg:=dgW (BitVec.ofInt 8 z)
theorem z7ni {b:BitVec 8}:zvnk (dgC dg0) [(0,1,w8 b)]=some (.agg (dgC (dgW b))):=rfl
def sumV (t:Tp):Dg:=dgB (1+tpN t 6)
theorem zizk (t:Tp) (ht:t.at_<4000000000):RunsF T150 a69 [.mp 0 2 0] [.cells (tpC t)] (.agg (dgC (sumV t))) [.cells (tpC (t.adv 1))]:=by
 refine ⟨?_⟩
 have h1:=z4rs t 6
 have h2:=z2s7 t (n:=6) (by omega)
 have hfz : ∀ k,fzL 1 k (tpC (t.adv 1)) (tpC (t.adv 1)):=fun k=>znnb (zs7w _)
 simp (disch:=first|omega|simp<;>omega|fail) [-zA,-zB,-zC,-zD,-zE,a69,zp0f,z44h,hfz,z7ni,sumV,zojd (z6je _)]
noncomputable def cSum:List DV→List DV→Option (DV × List DV):=conT (fun a:Tp=>a.at_<4000000000) (fun a=>[]) tpC (fun a=>(.agg (dgC (sumV a)),tpC (a.adv 1)))
theorem zliq {t:Tp} (h:t.at_<4000000000):cSum [] (tpC t)=some (.agg (dgC (sumV t)),tpC (t.adv 1)) :=
 ztyo (A:=fun a:Tp=>a.at_<4000000000) (f:=fun a=>[]) (s:=tpC) (fun a b _ e=>by rw [z15z e]) t h
theorem z8dz:(Con.tch cSum).Sound P 69 :=
 z0tq (fun a _=>⟨rfl,zs7w _,by simp [zyp8],zs7w _⟩) fun a h=>zizi mix zt0z Try.func69 z713 (zizk a h) (y08 _)
structure Nl where
 k:Option Bool
 l:List Int
 h:k=none→l=[]
 b:l.length≤9223372036854775807
def Nl.dv (x:Nl):DV:=slD x.k 1 x.l.length (x.l.flatMap inI)
theorem zkx7 (x:Nl):zyp8 x.dv=true:=z5yb ⟨x.k,x.l,x.h,0⟩
theorem z2kw {a b:Nl} (h:a.dv=b.dv):a=b:=by
 obtain ⟨k,l,h1,p⟩:=a
 obtain ⟨k',l',h2,p'⟩:=b
 have:=z15z (a:=⟨k,l,h1,0⟩) (b:=⟨k',l',h2,0⟩) (by simp only [tpC,Tp.sl]; simp only [Nl.dv] at h; rw [h])
 simp only [Tp.mk.injEq,and_true] at this
 rw [Nl.mk.injEq]; exact this
theorem zkbj {t:Tp}:zvnk [.nils,.int .i64 0] [(0,1,t.sl)]=some (.agg [t.sl,.int .i64 0]):=by simp [zvnk,zi03,zk7y]
end
section
set_option linter.unusedSimpArgs false
set_option linter.unusedVariables false
open Go Go.Am
def nmA:List Str:=[[97],[98],[115,114,99],[111,117,116],[108,105,98]]
def nmB:List Str:=[[97],[98],[97,46,99],[98,46,104],[120],[111,117,116]]
def pthL:Nat→Tp→Str→Str × Tp
 | 0,t,s=>(s,t)
 | k+1,t,s=>pthL k (t.adv 1) (s++zzh5 t nmA++[47])
def zf1o (t:Tp):Nat:=(tpN t 3).toNat
def zczq (t:Tp):Str:=(pthL (zf1o t) (t.adv 1) []).1++zzh5 (pthL (zf1o t) (t.adv 1) []).2 nmB
def zvs1 (t:Tp):Tp:=(pthL (zf1o t) (t.adv 1) []).2.adv 1
theorem zyo7 : ∀ (k:Nat) (t:Tp) (s:Str),(pthL k t s).2.at_=t.at_+k
 | 0,_,_=>rfl
 | k+1,t,s=>by rw [pthL,zyo7,zpza]; omega
theorem z9sd (t:Tp):zf1o t≤2:=by
 have h1:=z4rs t 3
 have h2:=z2s7 t (n:=3) (by omega)
 unfold zf1o; omega
theorem z89h (t:Tp):tpN t 3=zf1o t:=by
 have h1:=z4rs t 3
 unfold zf1o; omega
theorem zj8l (t:Tp):(zvs1 t).at_≤t.at_+4:=by have:=z9sd t; simp only [zvs1,zpza,zyo7]; omega
def pLt (a b:Ent):Bool:=Op.bytesLess a.path b.path
def putF (s:List Ent) (x:Ent):List Ent:=s.filter fun y => !decide (y.path=x.path)
def putV (s:List Ent) (x:Ent):List Ent:=insR pLt x (putF s x)
theorem zk1d (s:List Ent) (x:Ent):(putF s x).length≤s.length:=y0j ..
theorem z3b0 (s:List Ent) (x:Ent):(putV s x).length≤s.length+1:=by
 unfold putV
 rw [zcx2.length_eq,y09]
 have:=zk1d s x; omega
theorem zfin (s:List Ent) (x:Ent):putV s x≠[]:=fun e=>by
 have:=(zcx2 (lt:=pLt) (x:=x) (l:=putF s x)).length_eq
 unfold putV at e
 rw [e] at this; simp at this
def zoqy (s:List Ent) (i:Nat):List Ent:=s.take i++s.drop (i+1)
theorem zy3g (s:List Ent) (i:Nat):(zoqy s i).length≤s.length:=by
 unfold zoqy; rw [y01,y07,y0k]; omega
def emp1 {α:Type}:Sl α:=⟨some true,[],by simp,by simp⟩
def zmmk (s:List Ent) (i:Nat):Sl Ent:=if zoqy s i=[] then emp1 else own (zoqy s i)
theorem znxd {s:List Ent} {i:Nat} (h:s.length≤4294967296):(zmmk s i).l=zoqy s i:=by
 unfold zmmk
 split
 ·rename_i e; rw [e]; rfl
 ·rw [z3e9 (y1b (zy3g s i) h)]
def newE (t:Tp):Ent:=⟨zczq t,sumV (zvs1 t)⟩
def newT (t:Tp):Tp:=(zvs1 t).adv 1
theorem ztvs (t:Tp):(newT t).at_≤t.at_+5:=by have:=zj8l t; simp only [newT,zpza]; omega
def snpL:Nat→Tp × List Ent→Tp × List Ent
 | 0,a=>a
 | n+1,a=>snpL n (newT a.1,putV a.2 (newE a.1))
theorem zevg : ∀ (n:Nat) (a:Tp × List Ent),(snpL n a).1.at_≤a.1.at_+5*n∧(snpL n a).2.length≤a.2.length+n
 | 0,a=>by simp [snpL]
 | n+1,a=>by
  have h:=zevg n (newT a.1,putV a.2 (newE a.1))
  have h1:=ztvs a.1
  have h2:=z3b0 a.2 (newE a.1)
  simp only at h
  rw [snpL]
  omega
def zep5 (t:Tp) (m:Nat):Nat:=(tpN t (m+1)).toNat
theorem z3zi (t:Tp) (m:Nat):zep5 t m≤m:=by
 have h1:=z4rs t (m+1)
 have h2:=z2s7 t (n:=m+1) (by omega)
 unfold zep5; omega
theorem znaf (t:Tp) (m:Nat):tpN t (m+1)=zep5 t m:=by
 have h1:=z4rs t (m+1)
 unfold zep5; omega
def zgxx (t:Tp) (m:Nat):Tp × List Ent:=snpL (zep5 t m) (t.adv 1,[])
def zvj4 (a:Tp × Sl Ent):Tp × Sl Ent :=
 if tpN a.1 3=0∧a.2.l≠[] then (a.1.adv 2,zmmk a.2.l (tpN (a.1.adv 1) a.2.l.length).toNat)
 else (newT (a.1.adv 1),own (putV a.2.l (newE (a.1.adv 1))))
def edtL:Nat→Tp × Sl Ent→Tp × Sl Ent
 | 0,a=>a
 | n+1,a=>edtL n (zvj4 a)
theorem zkr6 {a:Tp × Sl Ent} (h:a.2.l.length+1≤4294967296):(zvj4 a).1.at_≤a.1.at_+6∧(zvj4 a).2.l.length≤a.2.l.length+1:=by
 unfold zvj4
 split
 ·have:=zy3g a.2.l (tpN (a.1.adv 1) a.2.l.length).toNat
  simp only [zpza,znxd (show a.2.l.length≤4294967296 by omega)]
  omega
 ·have h1:=ztvs (a.1.adv 1)
  have h2:=z3b0 a.2.l (newE (a.1.adv 1))
  rw [z3e9 (by omega)]
  simp only [zpza] at h1
  simp only; omega
theorem zrnf : ∀ (n:Nat) (a:Tp × Sl Ent),a.2.l.length+n≤4294967296→(edtL n a).1.at_≤a.1.at_+6*n∧(edtL n a).2.l.length≤a.2.l.length+n
 | 0,a,_=>by simp [edtL]
 | n+1,a,h=>by
  have h1:=zkr6 (a:=a) (by omega)
  have h2:=zrnf n (zvj4 a) (by omega)
  rw [edtL]; omega
def zp4t (t:Tp):Nat:=zep5 t 3
def z7ym (t:Tp) (s:Sl Ent):Tp × Sl Ent:=edtL (zp4t t) (t.adv 1,s)
theorem za6t {t:Tp} {s:Sl Ent} (h:s.l.length≤4000000000):(z7ym t s).1.at_≤t.at_+19∧(z7ym t s).2.l.length≤s.l.length+3:=by
 have h0:=z3zi t 3
 have h1:=zrnf (zp4t t) (t.adv 1,s) (by unfold zp4t; simp only; omega)
 unfold z7ym
 simp only [zpza] at h1
 have h2:zp4t t≤3:=h0
 omega
def zxwj (t:Tp):Sl Ent:=ownN (zgxx t 5).2
def zyjl (t:Tp) (st:Str):Lnk:=⟨st,zxwj t,(z7ym (zgxx t 5).1 (zxwj t)).2⟩
def zd2t (t:Tp):Tp:=(z7ym (zgxx t 5).1 (zxwj t)).1
theorem zk7x (t:Tp) (m:Nat):(zgxx t m).1.at_≤t.at_+1+5*m∧(zgxx t m).2.length≤m:=by
 have h0:=z3zi t m
 have h1:=zevg (zep5 t m) (t.adv 1,[])
 unfold zgxx
 simp only [zpza,y0f] at h1
 omega
theorem zr0a (t:Tp):(zxwj t).l.length≤5:=by
 have h:=(zk7x t 5).2
 unfold zxwj; rw [zd8n (by omega)]; exact h
theorem zoiq (t:Tp) (st:Str):(zyjl t st).m.l.length≤5∧(zyjl t st).p.l.length≤8∧(zd2t t).at_≤t.at_+45:=by
 have h0:=zr0a t
 have h1:=za6t (t:=(zgxx t 5).1) (s:=zxwj t) (by omega)
 have h2:=(zk7x t 5).1
 refine ⟨h0,?_,?_⟩
 ·simp only [zyjl]; omega
 ·simp only [zd2t]; omega
def zivf (t:Tp):Tp × Lnk × Lnk :=
 let a:=zyjl t [98,117,105,108,100]
 let e:=z7ym (zd2t t) a.p
 (e.1,a,{ a with p:=e.2 })
theorem zaow (t:Tp):(zivf t).1.at_≤t.at_+64∧(zivf t).2.1.m.l.length≤5∧(zivf t).2.1.p.l.length≤8∧(zivf t).2.2.m.l.length≤5∧(zivf t).2.2.p.l.length≤11:=by
 obtain ⟨h1,h2,h3⟩:=zoiq t [98,117,105,108,100]
 have h4:=za6t (t:=zd2t t) (s:=(zyjl t [98,117,105,108,100]).p) (by omega)
 simp only [zivf]
 omega
end
section
set_option linter.unusedSimpArgs false
set_option linter.unusedVariables false
open Go Go.Am
def NotI {α:Type} (l:List α) (v:α) (i:Nat):Prop := ∀ j (h1:j<l.length),j<i→l[j]≠v
def S972 (x:Sl Str) (v:Str) (i:Nat):St:=zben (x.dv 1 stC) (.str v) (.int .i64 i) []
theorem zkg5 (x:Sl Str) (v:Str):Runs tbl0 a24 [x.dv 1 stC,.str v] (.bool (decide (v ∈ x.l))):=by
 refine ⟨?_⟩
 have hb:=x.b
 obtain ⟨n,hn⟩ : ∃ n,x.l.length=n:=⟨_,rfl⟩
 simp (disch:=first|omega|simp<;>omega|fail) [-zA,-zB,-zC,-zD,-zE,a24]
 refine zlm5 (S972 x v) (fun i=>n-i) (fun i=>i≤n∧NotI x.l v i) 0 (z515 (by simp (disch:=first|omega|simp<;>omega|fail) [-zA,-zB,-zC,-zD,-zE,S972,zben]) (by simp (disch:=first|omega|simp<;>omega|fail) [-zA,-zB,-zC,-zD,-zE,S972,zben])) ⟨by omega,fun j _ hj=>by omega⟩ (fun i hi => ?_)
 obtain ⟨q1,q2⟩:=hi
 simp only [S972]
 by_cases q:i<n
 ·have g':(i:Int)<n:=by omega
  have hx : ∀ H,zpsc H 1 (x.dv 1 stC) i=some (.ref (stC x.l[i])):=fun H=>zalo zqv6 (by omega)
  have hinv:x.l[i]≠v→NotI x.l v (i+1):=fun e j h1 hji=>by
   by_cases ej:j=i
   ·subst ej; exact e
   ·exact q2 j h1 (by omega)
  have hr:x.l[i]=v→v ∈ x.l:=fun e=>e▸y0l _
  obtain ⟨u,hu⟩ : ∃ u,x.l[i]=u:=⟨_,rfl⟩
  rw [hu] at hx hinv hr
  by_cases e:u=v
  ·have hr:=hr e
   have hr':decide (v ∈ x.l)=true:=by simpa using hr
   rw [hr']
   simp (disch:=first|omega|simp<;>omega|fail) [-zA,-zB,-zC,-zD,-zE,zqw7,zben,hn,q,g',hx,stC,e]
  ·have hinv:=hinv e
   simp (disch:=first|omega|simp<;>omega|fail) [-zA,-zB,-zC,-zD,-zE,zqw7,zben,hn,q,g',hx,stC,e]
   exact ⟨i+1,z515 (by simp (disch:=first|omega|simp<;>omega|fail) [-zA,-zB,-zC,-zD,-zE,S972,zben]) (by simp (disch:=first|omega|simp<;>omega|fail) [-zA,-zB,-zC,-zD,-zE,S972,zben]),by omega,by omega,hinv⟩
 ·have g':¬ (i:Int)<n:=by omega
  have hr:decide (v ∈ x.l)=false:=by
   rw [decide_eq_false_iff_not]
   intro hv
   obtain ⟨j,hj,e⟩:=y0v hv
   exact q2 j hj (by omega) e
  rw [hr]
  simp (disch:=first|omega|simp<;>omega|fail) [-zA,-zB,-zC,-zD,-zE,zqw7,zben,hn,q,g']
noncomputable def cH02:List DV→Option DV:=con (fun _=>True) (fun a:Sl Str × Str=>[a.1.dv 1 stC,.str a.2]) (fun a => .bool (decide (a.2 ∈ a.1.l)))
theorem z299 {x:Sl Str} {v:Str}:cH02 [x.dv 1 stC,.str v]=some (.bool (decide (v ∈ x.l))) :=
 zsn4 (f:=fun a:Sl Str × Str=>[a.1.dv 1 stC,.str a.2]) (g:=fun a => .bool (decide (a.2 ∈ a.1.l))) (by
  rintro ⟨a,b⟩ ⟨c,d⟩ e
  simp only [List.cons.injEq,DV.str.injEq,and_true] at e
  rw [zdef e.1,e.2]) (x,v)
theorem znod:(Con.pure cH02).Sound P 24:=z2au fun a _=>zljw mix zr5o Try.func24 zcoa (zkg5 a.1 a.2)
end
section
set_option linter.unusedSimpArgs false
set_option linter.unusedVariables false
open Go Go.Am
def eqBy {α:Type} (p:α→α→Bool):List α→List α→Bool
 | [],[]=>true
 | a::l,b::m=>p a b&&eqBy p l m
 | [],_::_=>false
 | _::_,[]=>false
theorem zunb {α:Type} {p:α→α→Bool} : ∀ {l m:List α},l.length≠m.length→eqBy p l m=false
 | [],[],h=>absurd rfl h
 | a::l,b::m,h=>by rw [eqBy,zunb (l:=l) (m:=m) (by simpa using h),Bool.and_false]
 | [],_::_,_=>rfl
 | _::_,[],_=>rfl
theorem zfcj {α:Type} {p:α→α→Bool} : ∀ {l m:List α} {i:Nat} (h1:i<l.length) (h2:i<m.length),p l[i] m[i]=false→eqBy p l m=false
 | [],_,_,h1,_,_=>by simp at h1
 | _::_,[],_,_,h2,_=>by simp at h2
 | a::l,b::m,0,_,_,h=>by rw [eqBy]; simp only [y0c] at h; rw [h]; rfl
 | a::l,b::m,i+1,h1,h2,h=>by
  rw [eqBy,zfcj (l:=l) (m:=m) (i:=i) (by simpa using h1) (by simpa using h2) (by simpa using h),Bool.and_false]
theorem z0pu {α:Type} {p:α→α→Bool} : ∀ {l m:List α},l.length=m.length→(∀ j (h1:j<l.length) (h2:j<m.length),p l[j] m[j]=true)→eqBy p l m=true
 | [],[],_,_=>rfl
 | [],_::_,h,_=>by simp at h
 | _::_,[],h,_=>by simp at h
 | a::l,b::m,h,ha=>by
  have h0:=ha 0 (by simp) (by simp)
  simp only [y0c] at h0
  rw [eqBy,h0,y16]
  exact z0pu (by simpa using h) fun j h1 h2=>by
   have:=ha (j+1) (by simpa using h1) (by simpa using h2)
   simpa using this
def eqD {α:Type} [DecidableEq α] (a b:α):Bool:=decide (a=b)
def PreI {α:Type} (p:α→α→Bool) (l m:List α) (i:Nat):Prop := ∀ j (h1:j<l.length) (h2:j<m.length),j<i→p l[j] m[j]=true
theorem z3w8 {α:Type} [DecidableEq α] : ∀ {l m:List α},eqBy eqD l m=decide (l=m)
 | [],[]=>rfl
 | [],_::_=>rfl
 | _::_,[]=>rfl
 | a::l,b::m=>by
  rw [eqBy,z3w8]
  by_cases h1:a=b<;>by_cases h2:l=m<;>simp [h1,h2,eqD]
theorem zoxo {α β:Type} {p:α→α→Bool} {f g:β→α} : ∀ {l:List β},(∀ x ∈ l,p (f x) (g x)=true)→eqBy p (l.map f) (l.map g)=true
 | [],_=>rfl
 | a::l,h=>by rw [y0b,y0b,eqBy,h a (by simp),y16]; exact zoxo fun x hx=>h x (by simp [hx])
def S970 (x y:Sl Str) (i:Nat):St:=zhcc (x.dv 1 stC) (y.dv 1 stC) (.int .i64 i) []
theorem zxbn (x y:Sl Str):Runs tbl0 a17 [x.dv 1 stC,y.dv 1 stC] (.bool (eqBy eqD x.l y.l)):=by
 refine ⟨?_⟩
 have hb:=x.b
 have hb2:=y.b
 obtain ⟨n,hn⟩ : ∃ n,x.l.length=n:=⟨_,rfl⟩
 obtain ⟨m,hm⟩ : ∃ m,y.l.length=m:=⟨_,rfl⟩
 by_cases hl:n=m
 case neg =>
  have hl':¬ (n:Int)=m:=by omega
  rw [zunb (by omega)]
  simp (disch:=first|omega|simp<;>omega|fail) [-zA,-zB,-zC,-zD,-zE,a17,hn,hm,hl,hl']
 subst hl
 simp (disch:=first|omega|simp<;>omega|fail) [-zA,-zB,-zC,-zD,-zE,a17,hn,hm]
 refine zlm5 (S970 x y) (fun i=>n-i) (fun i=>i≤n∧PreI eqD x.l y.l i) 0 (z515 (by simp (disch:=first|omega|simp<;>omega|fail) [-zA,-zB,-zC,-zD,-zE,S970,zhcc]) (by simp (disch:=first|omega|simp<;>omega|fail) [-zA,-zB,-zC,-zD,-zE,S970,zhcc])) ⟨by omega,fun j _ _ hj=>by omega⟩ (fun i hi => ?_)
 obtain ⟨q1,q2⟩:=hi
 simp only [S970]
 by_cases q:i<n
 ·have g':(i:Int)<n:=by omega
  have hx : ∀ H,zpsc H 1 (x.dv 1 stC) i=some (.ref (stC x.l[i])):=fun H=>zalo (by first|exact zqv6|exact fun _=>rfl) (by omega)
  have hy : ∀ H,zpsc H 1 (y.dv 1 stC) i=some (.ref (stC y.l[i])):=fun H=>zalo (by first|exact zqv6|exact fun _=>rfl) (by omega)
  have hinv:eqD x.l[i] y.l[i]=true→PreI eqD x.l y.l (i+1):=fun e j h1 h2 hji=>by
   by_cases ej:j=i
   ·subst ej; exact e
   ·exact q2 j h1 h2 (by omega)
  have hr:eqD x.l[i] y.l[i]=false→eqBy eqD x.l y.l=false:=fun e=>zfcj (by omega) (by omega) e
  obtain ⟨u,hu⟩ : ∃ u,x.l[i]=u:=⟨_,rfl⟩
  obtain ⟨v,hv⟩ : ∃ v,y.l[i]=v:=⟨_,rfl⟩
  rw [hu] at hx hinv hr
  rw [hv] at hy hinv hr

  cases e:eqD u v with
  | true =>
   have hinv':=hinv e
   clear hinv
   have e:u=v:=by simpa [eqD] using e
   subst e
   simp (disch:=first|omega|simp<;>omega|fail) [-zA,-zB,-zC,-zD,-zE,z4pl,zhcc,hn,hm,q,g',hx,hy,stC]
   exact ⟨i+1,z515 (by simp (disch:=first|omega|simp<;>omega|fail) [-zA,-zB,-zC,-zD,-zE,S970,zhcc]) (by simp (disch:=first|omega|simp<;>omega|fail) [-zA,-zB,-zC,-zD,-zE,S970,zhcc]),by omega,by omega,hinv'⟩
  | false =>
   rw [hr e]
   have e:¬ u=v:=by simpa [eqD] using e
   simp (disch:=first|omega|simp<;>omega|fail) [-zA,-zB,-zC,-zD,-zE,z4pl,zhcc,hn,hm,q,g',hx,hy,stC,e]
 ·have g':¬ (i:Int)<n:=by omega
  rw [z0pu (by omega) fun j h1 h2=>q2 j h1 h2 (by omega)]
  simp (disch:=first|omega|simp<;>omega|fail) [-zA,-zB,-zC,-zD,-zE,z4pl,zhcc,hn,hm,q,g']
noncomputable def cS02:List DV→Option DV:=con (fun _=>True) (fun a:Sl Str × Sl Str=>[a.1.dv 1 stC,a.2.dv 1 stC]) (fun a => .bool (eqBy eqD a.1.l a.2.l))
theorem z3c8 {x y:Sl Str}:cS02 [x.dv 1 stC,y.dv 1 stC]=some (.bool (eqBy eqD x.l y.l)) :=
 zsn4 (f:=fun a:Sl Str × Sl Str=>[a.1.dv 1 stC,a.2.dv 1 stC]) (g:=fun a => .bool (eqBy eqD a.1.l a.2.l)) (by
  rintro ⟨a,b⟩ ⟨c,d⟩ e
  simp only [List.cons.injEq,and_true] at e
  rw [zdef e.1,zdef e.2]) (x,y)
theorem ze7f:(Con.pure cS02).Sound P 17:=z2au fun a _=>zljw mix zr5o Try.func17 zcaf (zxbn a.1 a.2)
def S971 {B:Nat} (x y:SlB B Ent) (i:Nat):St:=zudq (x.dv 33 enC) (y.dv 33 enC) (.int .i64 i) []
theorem zrph {B:Nat} (hB:B≤9223372036854775807) (x y:SlB B Ent):Runs tbl0 a50 [x.dv 33 enC,y.dv 33 enC] (.bool (eqBy eqD x.l y.l)):=by
 refine ⟨?_⟩
 have hb:=x.b
 have hb2:=y.b
 obtain ⟨n,hn⟩ : ∃ n,x.l.length=n:=⟨_,rfl⟩
 obtain ⟨m,hm⟩ : ∃ m,y.l.length=m:=⟨_,rfl⟩
 by_cases hl:n=m
 case neg =>
  have hl':¬ (n:Int)=m:=by omega
  rw [zunb (by omega)]
  simp (disch:=first|omega|simp<;>omega|fail) [-zA,-zB,-zC,-zD,-zE,a50,hn,hm,hl,hl']
 subst hl
 simp (disch:=first|omega|simp<;>omega|fail) [-zA,-zB,-zC,-zD,-zE,a50,hn,hm]
 refine zlm5 (S971 x y) (fun i=>n-i) (fun i=>i≤n∧PreI eqD x.l y.l i) 0 (z515 (by simp (disch:=first|omega|simp<;>omega|fail) [-zA,-zB,-zC,-zD,-zE,S971,zudq]) (by simp (disch:=first|omega|simp<;>omega|fail) [-zA,-zB,-zC,-zD,-zE,S971,zudq])) ⟨by omega,fun j _ _ hj=>by omega⟩ (fun i hi => ?_)
 obtain ⟨q1,q2⟩:=hi
 simp only [S971]
 by_cases q:i<n
 ·have g':(i:Int)<n:=by omega
  have hx : ∀ H,zpsc H 33 (x.dv 33 enC) i=some (.ref (enC x.l[i])):=fun H=>zalo (by first|exact zuso|exact fun _=>rfl) (by omega)
  have hy : ∀ H,zpsc H 33 (y.dv 33 enC) i=some (.ref (enC y.l[i])):=fun H=>zalo (by first|exact zuso|exact fun _=>rfl) (by omega)
  have hinv:eqD x.l[i] y.l[i]=true→PreI eqD x.l y.l (i+1):=fun e j h1 h2 hji=>by
   by_cases ej:j=i
   ·subst ej; exact e
   ·exact q2 j h1 h2 (by omega)
  have hr:eqD x.l[i] y.l[i]=false→eqBy eqD x.l y.l=false:=fun e=>zfcj (by omega) (by omega) e
  obtain ⟨u,hu⟩ : ∃ u,x.l[i]=u:=⟨_,rfl⟩
  obtain ⟨v,hv⟩ : ∃ v,y.l[i]=v:=⟨_,rfl⟩
  rw [hu] at hx hinv hr
  rw [hv] at hy hinv hr
  have hc:z32s (zi5g [(1,1),(32,0)]) (enC u) (enC v)=some (eqD u v):=z88i
  cases e:eqD u v with
  | true =>
   have hinv':=hinv e
   clear hinv
   rw [e] at hc
   simp (disch:=first|omega|simp<;>omega|fail) [-zA,-zB,-zC,-zD,-zE,z5j4,zudq,hn,hm,q,g',hx,hy,z6p9,hc]
   exact ⟨i+1,z515 (by simp (disch:=first|omega|simp<;>omega|fail) [-zA,-zB,-zC,-zD,-zE,S971,zudq]) (by simp (disch:=first|omega|simp<;>omega|fail) [-zA,-zB,-zC,-zD,-zE,S971,zudq]),by omega,by omega,hinv'⟩
  | false =>
   rw [hr e]
   rw [e] at hc
   simp (disch:=first|omega|simp<;>omega|fail) [-zA,-zB,-zC,-zD,-zE,z5j4,zudq,hn,hm,q,g',hx,hy,z6p9,hc]
 ·have g':¬ (i:Int)<n:=by omega
  rw [z0pu (by omega) fun j h1 h2=>q2 j h1 h2 (by omega)]
  simp (disch:=first|omega|simp<;>omega|fail) [-zA,-zB,-zC,-zD,-zE,z5j4,zudq,hn,hm,q,g']
noncomputable def cS04:List DV→Option DV:=con (fun _=>True) (fun a:Sl Ent × Sl Ent=>[a.1.dv 33 enC,a.2.dv 33 enC]) (fun a => .bool (eqBy eqD a.1.l a.2.l))
theorem z1gc {x y:Sl Ent}:cS04 [x.dv 33 enC,y.dv 33 enC]=some (.bool (eqBy eqD x.l y.l)) :=
 zsn4 (f:=fun a:Sl Ent × Sl Ent=>[a.1.dv 33 enC,a.2.dv 33 enC]) (g:=fun a => .bool (eqBy eqD a.1.l a.2.l)) (by
  rintro ⟨a,b⟩ ⟨c,d⟩ e
  simp only [List.cons.injEq,and_true] at e
  rw [zdvs e.1,zdvs e.2]) (x,y)
theorem zm97:(Con.pure cS04).Sound P 50:=z2au fun a _=>zljw mix zr5o Try.func50 z12y (zrph (by decide) a.1 a.2)
theorem zku2 {x y:Sl Str}:cS02 [x.dv 1 stC,y.dv 1 stC]=some (.bool (decide (x.l=y.l))):=by rw [z3c8,z3w8]
theorem zjtb {x y:Sl Ent}:cS04 [x.dv 33 enC,y.dv 33 enC]=some (.bool (decide (x.l=y.l))):=by rw [z1gc,z3w8]
def lnkR (r:Rec):Lnk:=⟨r.step,r.m,r.p⟩
theorem zhmz (r:Rec):Runs tbl0 a42 [.agg (reC r)] (.agg (lkC (lnkR r))):=by
 refine ⟨?_⟩
 simp (disch:=first|omega|simp<;>omega|fail) [-zA,-zB,-zC,-zD,-zE,a42,zhaq,z05i,zbc5,zye0,z6cz]
 show (oneC 3 true (lkC (lnkR r))).bind _=_
 rw [zrer]
 simp (disch:=first|omega|simp<;>omega|fail) [-zA,-zB,-zC,-zD,-zE,lnkR]
noncomputable def cLnk:List DV→Option DV:=con (fun _=>True) (fun r:Rec=>[.agg (reC r)]) (fun r => .agg (lkC (lnkR r)))
theorem zcrp {r:Rec}:cLnk [.agg (reC r)]=some (.agg (lkC (lnkR r))) :=
 zsn4 (f:=fun r:Rec=>[.agg (reC r)]) (g:=fun r => .agg (lkC (lnkR r))) (fun a b e=>by simp only [List.cons.injEq,DV.agg.injEq,and_true] at e; rw [zre0 e]) r
theorem z1by:(Con.pure cLnk).Sound P 42:=z2au fun a _=>zljw mix zr5o Try.func42 zl17 (zhmz a)
noncomputable def T973:Tbl:=addT 50 (.pure cS04) (addT 17 (.pure cS02) tbl0)
theorem zrvm:T973 50 = .pure cS04:=by simp [T973]
theorem zyjx:T973.Sound P:=z0rp zm97 (z0rp ze7f zr5o)
theorem zo60 {a b c d:Lnk} (e:[DV.agg (lkC a),.agg (lkC b)]=[.agg (lkC c),.agg (lkC d)]):a=c∧b=d:=by
 simp only [List.cons.injEq,DV.agg.injEq,and_true] at e
 exact ⟨zja4 e.1,zja4 e.2⟩
theorem zf57 (a b:Lnk):Runs T973 a22 [.agg (lkC a),.agg (lkC b)] (.bool (zxyz a b)):=by
 refine ⟨?_⟩
 have h1:=zjtb (x:=a.m) (y:=b.m)
 have h2:=zjtb (x:=a.p) (y:=b.p)
 unfold zxyz
 cases e1:decide (a.m.l=b.m.l)<;>rw [e1] at h1
 ·simp (disch:=first|omega|simp<;>omega|fail) [-zA,-zB,-zC,-zD,-zE,a22,zfi3,zj40,zrvm,h1]
 ·simp (disch:=first|omega|simp<;>omega|fail) [-zA,-zB,-zC,-zD,-zE,a22,zfi3,zj40,zrvm,h1,h2]
noncomputable def cS15:List DV→Option DV:=con (fun _=>True) (fun a:Lnk × Lnk=>[.agg (lkC a.1),.agg (lkC a.2)]) (fun a => .bool (zxyz a.1 a.2))
theorem z3rl {a b:Lnk}:cS15 [.agg (lkC a),.agg (lkC b)]=some (.bool (zxyz a b)) :=
 zsn4 (f:=fun a:Lnk × Lnk=>[.agg (lkC a.1),.agg (lkC a.2)]) (g:=fun a => .bool (zxyz a.1 a.2)) (by
  rintro ⟨a,b⟩ ⟨c,d⟩ e
  obtain ⟨rfl,rfl⟩:=zo60 e; rfl) (a,b)
theorem zrpw:(Con.pure cS15).Sound P 22:=z2au fun a _=>zljw mix zyjx Try.func22 zi98 (zf57 a.1 a.2)
def lkEq (a b:Lnk):Bool:=decide (a.step=b.step)&&zxyz a b
theorem zinh (a b:Lnk):Runs T973 a47 [.agg (lkC a),.agg (lkC b)] (.bool (lkEq a b)):=by
 refine ⟨?_⟩
 have h1:=zjtb (x:=a.m) (y:=b.m)
 have h2:=zjtb (x:=a.p) (y:=b.p)
 unfold lkEq zxyz
 by_cases e0:a.step=b.step
 ·cases e1:decide (a.m.l=b.m.l)<;>rw [e1] at h1
  ·simp (disch:=first|omega|simp<;>omega|fail) [-zA,-zB,-zC,-zD,-zE,a47,z380,zfi3,zj40,zrvm,h1,e0]
  ·simp (disch:=first|omega|simp<;>omega|fail) [-zA,-zB,-zC,-zD,-zE,a47,z380,zfi3,zj40,zrvm,h1,h2,e0]
 ·simp (disch:=first|omega|simp<;>omega|fail) [-zA,-zB,-zC,-zD,-zE,a47,z380,zfi3,zj40,e0]
noncomputable def cSlk:List DV→Option DV:=con (fun _=>True) (fun a:Lnk × Lnk=>[.agg (lkC a.1),.agg (lkC a.2)]) (fun a => .bool (lkEq a.1 a.2))
theorem zo08 {a b:Lnk}:cSlk [.agg (lkC a),.agg (lkC b)]=some (.bool (lkEq a b)) :=
 zsn4 (f:=fun a:Lnk × Lnk=>[.agg (lkC a.1),.agg (lkC a.2)]) (g:=fun a => .bool (lkEq a.1 a.2)) (by
  rintro ⟨a,b⟩ ⟨c,d⟩ e
  obtain ⟨rfl,rfl⟩:=zo60 e; rfl) (a,b)
theorem z7jq:(Con.pure cSlk).Sound P 47:=z2au fun a _=>zljw mix zyjx Try.func47 zzqr (zinh a.1 a.2)
def agEq (a b:Agr):Bool:=lkEq a.lnk b.lnk&&(decide (a.owners.l=b.owners.l)&&decide (a.eqv.l=b.eqv.l))
noncomputable def T974:Tbl:=addT 47 (.pure cSlk) T973
theorem zr7f:T974 47 = .pure cSlk:=by simp [T974]
theorem z5fc:T974 17 = .pure cS02:=by simp [T974,T973]
theorem zznw:T974.Sound P:=z0rp z7jq zyjx
theorem z7fy (a b:Agr):Runs T974 a18 [.agg (agC a),.agg (agC b)] (.bool (agEq a b)):=by
 refine ⟨?_⟩
 have h0:=zo08 (a:=a.lnk) (b:=b.lnk)
 have h1:=zku2 (x:=a.owners) (y:=b.owners)
 have h2:=zku2 (x:=a.eqv) (y:=b.eqv)
 unfold agEq
 cases e0:lkEq a.lnk b.lnk<;>rw [e0] at h0
 ·simp (disch:=first|omega|simp<;>omega|fail) [-zA,-zB,-zC,-zD,-zE,a18,zrbu,zr7f,h0]
 ·cases e1:decide (a.owners.l=b.owners.l)<;>rw [e1] at h1
  ·simp (disch:=first|omega|simp<;>omega|fail) [-zA,-zB,-zC,-zD,-zE,a18,zrbu,zntj,zr7f,z5fc,h0,h1]
  ·simp (disch:=first|omega|simp<;>omega|fail) [-zA,-zB,-zC,-zD,-zE,a18,zrbu,zntj,z1r2,zr7f,z5fc,h0,h1,h2]
noncomputable def cSag:List DV→Option DV:=con (fun _=>True) (fun a:Agr × Agr=>[.agg (agC a.1),.agg (agC a.2)]) (fun a => .bool (agEq a.1 a.2))
theorem zgdj {a b c d:Agr} (e:[DV.agg (agC a),.agg (agC b)]=[.agg (agC c),.agg (agC d)]):a=c∧b=d:=by
 simp only [List.cons.injEq,DV.agg.injEq,and_true] at e
 exact ⟨zum4 e.1,zum4 e.2⟩
theorem z7w4 {a b:Agr}:cSag [.agg (agC a),.agg (agC b)]=some (.bool (agEq a b)) :=
 zsn4 (f:=fun a:Agr × Agr=>[.agg (agC a.1),.agg (agC a.2)]) (g:=fun a => .bool (agEq a.1 a.2)) (by
  rintro ⟨a,b⟩ ⟨c,d⟩ e
  obtain ⟨rfl,rfl⟩:=zgdj e; rfl) (a,b)
theorem zc89:(Con.pure cSag).Sound P 18:=z2au fun a _=>zljw mix zznw Try.func18 zt5q (z7fy a.1 a.2)
noncomputable def T975:Tbl:=addT 18 (.pure cSag) tbl0
theorem zl3l:T975 18 = .pure cSag:=by simp [T975]
theorem zyfc:T975.Sound P:=z0rp zc89 zr5o
def S975 (x y:Sl Agr) (i:Nat):St:=zs05 (x.dv 5 agC) (y.dv 5 agC) (.int .i64 i) []
theorem z5na (x y:Sl Agr):Runs T975 a16 [x.dv 5 agC,y.dv 5 agC] (.bool (eqBy agEq x.l y.l)):=by
 refine ⟨?_⟩
 have hb:=x.b
 have hb2:=y.b
 obtain ⟨n,hn⟩ : ∃ n,x.l.length=n:=⟨_,rfl⟩
 obtain ⟨m,hm⟩ : ∃ m,y.l.length=m:=⟨_,rfl⟩
 by_cases hl:n=m
 case neg =>
  have hl':¬ (n:Int)=m:=by omega
  rw [zunb (by omega)]
  simp (disch:=first|omega|simp<;>omega|fail) [-zA,-zB,-zC,-zD,-zE,a16,hn,hm,hl,hl']
 subst hl
 simp (disch:=first|omega|simp<;>omega|fail) [-zA,-zB,-zC,-zD,-zE,a16,hn,hm]
 refine zlm5 (S975 x y) (fun i=>n-i) (fun i=>i≤n∧PreI agEq x.l y.l i) 0 (z515 (by simp (disch:=first|omega|simp<;>omega|fail) [-zA,-zB,-zC,-zD,-zE,S975,zs05]) (by simp (disch:=first|omega|simp<;>omega|fail) [-zA,-zB,-zC,-zD,-zE,S975,zs05])) ⟨by omega,fun j _ _ hj=>by omega⟩ (fun i hi => ?_)
 obtain ⟨q1,q2⟩:=hi
 simp only [S975]
 by_cases q:i<n
 ·have g':(i:Int)<n:=by omega
  have hx : ∀ H,zpsc H 5 (x.dv 5 agC) i=some (.ref (agC x.l[i])):=fun H=>zalo (by first|exact znh2|exact fun _=>rfl) (by omega)
  have hy : ∀ H,zpsc H 5 (y.dv 5 agC) i=some (.ref (agC y.l[i])):=fun H=>zalo (by first|exact znh2|exact fun _=>rfl) (by omega)
  have hinv:agEq x.l[i] y.l[i]=true→PreI agEq x.l y.l (i+1):=fun e j h1 h2 hji=>by
   by_cases ej:j=i
   ·subst ej; exact e
   ·exact q2 j h1 h2 (by omega)
  have hr:agEq x.l[i] y.l[i]=false→eqBy agEq x.l y.l=false:=fun e=>zfcj (by omega) (by omega) e
  obtain ⟨u,hu⟩ : ∃ u,x.l[i]=u:=⟨_,rfl⟩
  obtain ⟨v,hv⟩ : ∃ v,y.l[i]=v:=⟨_,rfl⟩
  rw [hu] at hx hinv hr
  rw [hv] at hy hinv hr
  have hc:=z7w4 (a:=u) (b:=v)
  cases e:agEq u v with
  | true =>
   have hinv':=hinv e
   clear hinv
   rw [e] at hc
   simp (disch:=first|omega|simp<;>omega|fail) [-zA,-zB,-zC,-zD,-zE,zvfu,zs05,hn,hm,q,g',hx,hy,zd17,zl3l,hc]
   exact ⟨i+1,z515 (by simp (disch:=first|omega|simp<;>omega|fail) [-zA,-zB,-zC,-zD,-zE,S975,zs05]) (by simp (disch:=first|omega|simp<;>omega|fail) [-zA,-zB,-zC,-zD,-zE,S975,zs05]),by omega,by omega,hinv'⟩
  | false =>
   rw [hr e]
   rw [e] at hc
   simp (disch:=first|omega|simp<;>omega|fail) [-zA,-zB,-zC,-zD,-zE,zvfu,zs05,hn,hm,q,g',hx,hy,zd17,zl3l,hc]
 ·have g':¬ (i:Int)<n:=by omega
  rw [z0pu (by omega) fun j h1 h2=>q2 j h1 h2 (by omega)]
  simp (disch:=first|omega|simp<;>omega|fail) [-zA,-zB,-zC,-zD,-zE,zvfu,zs05,hn,hm,q,g']
noncomputable def cLca:List DV→Option DV:=con (fun _=>True) (fun a:Sl Agr × Sl Agr=>[a.1.dv 5 agC,a.2.dv 5 agC]) (fun a => .bool (eqBy agEq a.1.l a.2.l))
theorem z337 {x y:Sl Agr}:cLca [x.dv 5 agC,y.dv 5 agC]=some (.bool (eqBy agEq x.l y.l)) :=
 zsn4 (f:=fun a:Sl Agr × Sl Agr=>[a.1.dv 5 agC,a.2.dv 5 agC]) (g:=fun a => .bool (eqBy agEq a.1.l a.2.l)) (by
  rintro ⟨a,b⟩ ⟨c,d⟩ e
  simp only [List.cons.injEq,and_true] at e
  rw [z70f e.1,z70f e.2]) (x,y)
theorem zgfn:(Con.pure cLca).Sound P 16:=z2au fun a _=>zljw mix zyfc Try.func16 zddi (z5na a.1 a.2)
end
section
set_option linter.unusedSimpArgs false
set_option linter.unusedVariables false
open Go Go.Am
def zcm3 (a b:Rec):Bool:=decide (a.run=b.run)&&(decide (a.scope=b.scope)&&(decide (a.at_=b.at_)&&(decide (a.cmd.l=b.cmd.l)&&(eqBy eqD a.env.l b.env.l&&lkEq (lnkR a) (lnkR b)))))
noncomputable def T976:Tbl:=addT 17 (.pure cS02) (addT 42 (.pure cLnk) (addT 47 (.pure cSlk) tbl0))
theorem z6mf:T976 17 = .pure cS02:=by simp [T976]
theorem znsy:T976 42 = .pure cLnk:=by simp [T976]
theorem z9ta:T976 47 = .pure cSlk:=by simp [T976]
theorem z37j:T976.Sound P:=z0rp ze7f (z0rp z1by (z0rp z7jq zr5o))
def S976 (a b:Rec) (i:Nat):St:=zuuu (.mp 0 8 0) (.mp 1 8 0) (.int .i64 i) [.cells (reC a),.cells (reC b)]
theorem zven (a b:Rec):Runs T976 a28 [.agg (reC a),.agg (reC b)] (.bool (zcm3 a b)):=by
 refine ⟨?_⟩
 have hb:=a.env.b
 have hb2:=b.env.b
 have hc:=zku2 (x:=a.cmd) (y:=b.cmd)
 unfold zcm3
 by_cases e1:a.run=b.run
 case neg=>simp (disch:=first|omega|simp<;>omega|fail) [-zA,-zB,-zC,-zD,-zE,a28,zwo9,e1]
 by_cases e2:a.scope=b.scope
 case neg=>simp (disch:=first|omega|simp<;>omega|fail) [-zA,-zB,-zC,-zD,-zE,a28,zwo9,z5cj,e1,e2]
 by_cases e3:a.at_=b.at_
 case neg=>simp (disch:=first|omega|simp<;>omega|fail) [-zA,-zB,-zC,-zD,-zE,a28,zwo9,z5cj,zb4u,e1,e2,e3]
 cases e4:decide (a.cmd.l=b.cmd.l)<;>rw [e4] at hc
 ·simp (disch:=first|omega|simp<;>omega|fail) [-zA,-zB,-zC,-zD,-zE,a28,zwo9,z5cj,zb4u,zgok,e1,e2,e3,z6mf,hc]
 obtain ⟨n,hn⟩ : ∃ n,a.env.l.length=n:=⟨_,rfl⟩
 obtain ⟨m,hm⟩ : ∃ m,b.env.l.length=m:=⟨_,rfl⟩
 by_cases hl:n=m
 case neg =>
  have hl':¬ (n:Int)=m:=by omega
  have hne:eqBy eqD a.env.l b.env.l=false:=zunb (by omega)
  simp (disch:=first|omega|simp<;>omega|fail) [-zA,-zB,-zC,-zD,-zE,a28,zwo9,z5cj,zb4u,zgok,zhl9,e1,e2,e3,z6mf,hc,hn,hm,hl,hl',hne]
 subst hl
 simp (disch:=first|omega|simp<;>omega|fail) [-zA,-zB,-zC,-zD,-zE,a28,zwo9,z5cj,zb4u,zgok,zhl9,e1,e2,e3,z6mf,hc,hn,hm]
 refine zlm5 (S976 a b) (fun i=>n-i) (fun i=>i≤n∧PreI eqD a.env.l b.env.l i) 0 (z515 (by simp (disch:=first|omega|simp<;>omega|fail) [-zA,-zB,-zC,-zD,-zE,S976,zuuu]) (by simp (disch:=first|omega|simp<;>omega|fail) [-zA,-zB,-zC,-zD,-zE,S976,zuuu])) ⟨by omega,fun j _ _ hj=>by omega⟩ (fun i hi => ?_)
 obtain ⟨q1,q2⟩:=hi
 simp only [S976]
 by_cases q:i<n
 ·have g':(i:Int)<n:=by omega
  have hx : ∀ H,zpsc H 2 (a.env.dv 2 vaC) i=some (.ref (vaC a.env.l[i])):=fun H=>zalo zqri (by omega)
  have hy : ∀ H,zpsc H 2 (b.env.dv 2 vaC) i=some (.ref (vaC b.env.l[i])):=fun H=>zalo zqri (by omega)
  have hinv:eqD a.env.l[i] b.env.l[i]=true→PreI eqD a.env.l b.env.l (i+1):=fun e j h1 h2 hji=>by
   by_cases ej:j=i
   ·subst ej; exact e
   ·exact q2 j h1 h2 (by omega)
  have hr:eqD a.env.l[i] b.env.l[i]=false→eqBy eqD a.env.l b.env.l=false:=fun e=>zfcj (by omega) (by omega) e
  obtain ⟨u,hu⟩ : ∃ u,a.env.l[i]=u:=⟨_,rfl⟩
  obtain ⟨v,hv⟩ : ∃ v,b.env.l[i]=v:=⟨_,rfl⟩
  rw [hu] at hx hinv hr
  rw [hv] at hy hinv hr
  have hcv:z32s (zi5g [(2,1)]) (vaC u) (vaC v)=some (eqD u v):=z7va
  cases e:eqD u v with
  | true =>
   have hinv':=hinv e
   rw [e] at hcv
   simp (disch:=first|omega|simp<;>omega|fail) [-zA,-zB,-zC,-zD,-zE,zkwz,zuuu,hn,hm,q,g',hx,hy,zhl9,zieq,hcv]
   exact ⟨i+1,z515 (by simp (disch:=first|omega|simp<;>omega|fail) [-zA,-zB,-zC,-zD,-zE,S976,zuuu]) (by simp (disch:=first|omega|simp<;>omega|fail) [-zA,-zB,-zC,-zD,-zE,S976,zuuu]),by omega,by omega,hinv'⟩
  | false =>
   rw [hr e]
   rw [e] at hcv
   simp (disch:=first|omega|simp<;>omega|fail) [-zA,-zB,-zC,-zD,-zE,zkwz,zuuu,hn,hm,q,g',hx,hy,zhl9,zieq,hcv]
 ·have g':¬ (i:Int)<n:=by omega
  have he:eqBy eqD a.env.l b.env.l=true:=z0pu (by omega) fun j h1 h2=>q2 j h1 h2 (by omega)
  have k1:=zcrp (r:=a)
  have k2:=zcrp (r:=b)
  have k3:=zo08 (a:=lnkR a) (b:=lnkR b)
  simp (disch:=first|omega|simp<;>omega|fail) [-zA,-zB,-zC,-zD,-zE,zkwz,zuuu,hn,hm,q,g',zhl9,he,zbr1,znsy,z9ta,k1,k2,k3]
noncomputable def cRec:List DV→Option DV:=con (fun _=>True) (fun a:Rec × Rec=>[.agg (reC a.1),.agg (reC a.2)]) (fun a => .bool (zcm3 a.1 a.2))
theorem z4qs {a b:Rec}:cRec [.agg (reC a),.agg (reC b)]=some (.bool (zcm3 a b)) :=
 zsn4 (f:=fun a:Rec × Rec=>[.agg (reC a.1),.agg (reC a.2)]) (g:=fun a => .bool (zcm3 a.1 a.2)) (by
  rintro ⟨a,b⟩ ⟨c,d⟩ e
  simp only [List.cons.injEq,DV.agg.injEq,and_true] at e
  rw [zre0 e.1,zre0 e.2]) (a,b)
theorem zg1f:(Con.pure cRec).Sound P 28:=z2au fun a _=>zljw mix z37j Try.func28 z43f (zven a.1 a.2)
noncomputable def T977:Tbl:=addT 28 (.pure cRec) tbl0
theorem zzvy:T977 28 = .pure cRec:=by simp [T977]
theorem zgx0:T977.Sound P:=z0rp zg1f zr5o
def atEq (a b:Att):Bool:=decide (a.own=b.own)&&zcm3 a.rc b.rc
def S977 (x y:Sl Att) (i:Nat):St:=a9S0 (x.dv 9 atC) (y.dv 9 atC) (.int .i64 i) []
theorem zf5o (x y:Sl Att):Runs T977 a9 [x.dv 9 atC,y.dv 9 atC] (.bool (eqBy atEq x.l y.l)):=by
 refine ⟨?_⟩
 have hb:=x.b
 have hb2:=y.b
 obtain ⟨n,hn⟩ : ∃ n,x.l.length=n:=⟨_,rfl⟩
 obtain ⟨m,hm⟩ : ∃ m,y.l.length=m:=⟨_,rfl⟩
 by_cases hl:n=m
 case neg =>
  have hl':¬ (n:Int)=m:=by omega
  rw [zunb (by omega)]
  simp (disch:=first|omega|simp<;>omega|fail) [-zA,-zB,-zC,-zD,-zE,a9,hn,hm,hl,hl']
 subst hl
 simp (disch:=first|omega|simp<;>omega|fail) [-zA,-zB,-zC,-zD,-zE,a9,hn,hm]
 refine zlm5 (S977 x y) (fun i=>n-i) (fun i=>i≤n∧PreI atEq x.l y.l i) 0 (z515 (by simp (disch:=first|omega|simp<;>omega|fail) [-zA,-zB,-zC,-zD,-zE,S977,a9S0]) (by simp (disch:=first|omega|simp<;>omega|fail) [-zA,-zB,-zC,-zD,-zE,S977,a9S0])) ⟨by omega,fun j _ _ hj=>by omega⟩ (fun i hi => ?_)
 obtain ⟨q1,q2⟩:=hi
 simp only [S977]
 by_cases q:i<n
 ·have g':(i:Int)<n:=by omega
  have hx : ∀ H,zpsc H 9 (x.dv 9 atC) i=some (.ref (atC x.l[i])):=fun H=>zalo (by first|exact zu2q|exact fun _=>rfl) (by omega)
  have hy : ∀ H,zpsc H 9 (y.dv 9 atC) i=some (.ref (atC y.l[i])):=fun H=>zalo (by first|exact zu2q|exact fun _=>rfl) (by omega)
  have hinv:atEq x.l[i] y.l[i]=true→PreI atEq x.l y.l (i+1):=fun e j h1 h2 hji=>by
   by_cases ej:j=i
   ·subst ej; exact e
   ·exact q2 j h1 h2 (by omega)
  have hr:atEq x.l[i] y.l[i]=false→eqBy atEq x.l y.l=false:=fun e=>zfcj (by omega) (by omega) e
  obtain ⟨u,hu⟩ : ∃ u,x.l[i]=u:=⟨_,rfl⟩
  obtain ⟨v,hv⟩ : ∃ v,y.l[i]=v:=⟨_,rfl⟩
  rw [hu] at hx hinv hr
  rw [hv] at hy hinv hr
  have hc:=z4qs (a:=u.rc) (b:=v.rc)
  cases e:atEq u v with
  | true =>
   have hinv':=hinv e
   clear hinv
   have e0:u.own=v.own∧zcm3 u.rc v.rc=true:=by simpa [atEq] using e
   rw [e0.2] at hc
   have e1:=e0.1
   simp (disch:=first|omega|simp<;>omega|fail) [-zA,-zB,-zC,-zD,-zE,a9L0,a9S0,hn,hm,q,g',hx,hy,zkpj,zo7q,zzvy,hc,e1]
   exact ⟨i+1,z515 (by simp (disch:=first|omega|simp<;>omega|fail) [-zA,-zB,-zC,-zD,-zE,S977,a9S0]) (by simp (disch:=first|omega|simp<;>omega|fail) [-zA,-zB,-zC,-zD,-zE,S977,a9S0]),by omega,by omega,hinv'⟩
  | false =>
   rw [hr e]
   by_cases e1:u.own=v.own
   ·have e0:zcm3 u.rc v.rc=false:=by simpa [atEq,e1] using e
    rw [e0] at hc
    simp (disch:=first|omega|simp<;>omega|fail) [-zA,-zB,-zC,-zD,-zE,a9L0,a9S0,hn,hm,q,g',hx,hy,zkpj,zo7q,zzvy,hc,e1]
   ·simp (disch:=first|omega|simp<;>omega|fail) [-zA,-zB,-zC,-zD,-zE,a9L0,a9S0,hn,hm,q,g',hx,hy,zkpj,e1]
 ·have g':¬ (i:Int)<n:=by omega
  rw [z0pu (by omega) fun j h1 h2=>q2 j h1 h2 (by omega)]
  simp (disch:=first|omega|simp<;>omega|fail) [-zA,-zB,-zC,-zD,-zE,a9L0,a9S0,hn,hm,q,g']
noncomputable def cSat:List DV→Option DV:=con (fun _=>True) (fun a:Sl Att × Sl Att=>[a.1.dv 9 atC,a.2.dv 9 atC]) (fun a => .bool (eqBy atEq a.1.l a.2.l))
theorem zu2h {x y:Sl Att}:cSat [x.dv 9 atC,y.dv 9 atC]=some (.bool (eqBy atEq x.l y.l)) :=
 zsn4 (f:=fun a:Sl Att × Sl Att=>[a.1.dv 9 atC,a.2.dv 9 atC]) (g:=fun a => .bool (eqBy atEq a.1.l a.2.l)) (by
  rintro ⟨a,b⟩ ⟨c,d⟩ e
  simp only [List.cons.injEq,and_true] at e
  rw [z965 e.1,z965 e.2]) (x,y)
theorem z5uz:(Con.pure cSat).Sound P 9:=z2au fun a _=>zljw mix zgx0 Try.func9 z528 (zf5o a.1 a.2)
def elR (s:Spc) (x:Att):Bool:=decide (x.own ∈ s.by_.l)&&(decide (x.rc.step=s.name)&&(decide (s.cmd.l=[])||decide (s.cmd.l=x.rc.cmd.l)))
theorem zl4y (s:Spc) (x:Att):elR s x=eliP s x:=by
 unfold elR eliP
 cases decide (x.own ∈ s.by_.l)<;>cases decide (x.rc.step=s.name)<;>cases (decide (s.cmd.l=[])||decide (s.cmd.l=x.rc.cmd.l))<;>rfl
def eliR (s:Spc) (l:List Att):List Att:=l.filter (eliP s)
theorem ztci {s:Spc} {l:List Att} {x:Att}:eliR s (l++[x])=eliR s l++(if eliP s x then [x] else []):=by
 unfold eliR
 rw [y0e]
 cases h:eliP s x<;>simp [h]
theorem zvie (s:Spc) (l:List Att):(eliR s l).length≤l.length:=y0j _ _
noncomputable def T978:Tbl:=addT 24 (.pure cH02) (addT 17 (.pure cS02) tbl0)
theorem zej4:T978 24 = .pure cH02:=by simp [T978]
theorem zhjm:T978 17 = .pure cS02:=by simp [T978]
theorem zr39:T978.Sound P:=z0rp znod (z0rp ze7f zr5o)
def S978 (s:Spc) (l:Sl Att) (i:Nat):St:=z7en (l.dv 9 atC) (.mp 0 7 0) (oV 1 9 (eliR s (l.l.take i))) (.int .i64 i) (.cells (spC s)::oT atC (eliR s (l.l.take i)))
theorem z470 (s:Spc) (l:Sl Att) (hb:l.l.length≤1000000):V P 0 a11.code (retK a11.res ((ownN (eliR s l.l)).dv 9 atC)) ⟨zr5g a11.ntmps [.agg (spC s),l.dv 9 atC],[]⟩:=by
 have hE1:=zvie s l.l
 refine zbn1 (V_W mix zr39 ?_)
 simp (disch:=first|omega|simp<;>omega|fail) [-zA,-zB,-zC,-zD,-zE,a11]
 refine zbn1 (V_W mix zr39 ?_)
 simp (disch:=first|omega|simp<;>omega|fail) [-zA,-zB,-zC,-zD,-zE]
 refine zbn1 (zbn1 (V_W mix zr39 ?_))
 simp (disch:=first|omega|simp<;>omega|fail) [-zA,-zB,-zC,-zD,-zE]
 refine z3mo (ztbr (S978 s l) (fun i=>l.l.length-i) (fun i=>i≤l.l.length) 0 (z515 (by simp (disch:=first|omega|simp<;>omega|fail) [-zA,-zB,-zC,-zD,-zE,S978,z7en,zl8p,eliR]) (by simp (disch:=first|omega|simp<;>omega|fail) [-zA,-zB,-zC,-zD,-zE,S978,z7en,zkrk,eliR])) (by omega) (fun i hi => ?_))
 simp only [S978]
 refine zbn1 (V_W mix zr39 ?_)
 by_cases h:i<l.l.length
 case neg =>
  have h':¬ (i:Int)<l.l.length:=by omega
  rw [y06 (show l.l.length≤i by omega)]
  have hsn:=zigm (k:=1) (l:=eliR s l.l) (h:=[AObj.cells (spC s)]) (r:=[]) rfl zu2q z83l (by omega)
  rw [y05] at hsn
  simp only [y04,y00] at hsn
  simp (disch:=first|omega|simp<;>omega|fail) [-zA,-zB,-zC,-zD,-zE,zv5f,z7en,h,h']
  refine zbn1 (V_W mix zr39 ?_)
  simp (disch:=first|omega|simp<;>omega|fail) [-zA,-zB,-zC,-zD,-zE]
  refine V_W mix zr39 ?_
  simp (disch:=first|omega|simp<;>omega|fail) [-zA,-zB,-zC,-zD,-zE,hsn]
 have h':(i:Int)<l.l.length:=by omega
 have hg : ∀ H,zpsc H 9 (l.dv 9 atC) i=some (.ref (atC l.l[i])):=fun H=>zalo zu2q h
 have hs:eliR s (l.l.take (i+1))=eliR s (l.l.take i)++(if eliP s l.l[i] then [l.l[i]] else []):=by rw [y02 h,ztci]
 have hlen:(eliR s (l.l.take i)).length≤i:=y1b (zvie _ _) (by rw [y07]; omega)
 obtain ⟨x,hx⟩ : ∃ x,l.l[i]=x:=⟨_,rfl⟩
 rw [hx] at hg hs
 obtain ⟨L,hL⟩ : ∃ L,eliR s (l.l.take i)=L:=⟨_,rfl⟩
 rw [hL] at hs hlen ⊢
 have hTb : ∀ n,zlf2 n (oT atC L)=true:=fun n=>zd81 z83l
 have hVb:Am.below (1+(oT atC L).length) (oV 1 9 L)=true:=zv6o
 have hVb':Am.below ((oT atC L).length+1) (oV 1 9 L)=true:=by rw [Nat.add_comm]; exact hVb
 have hap:=zte0 (k:=1) (b:=168) (l:=L) (x:=x) (h:=[AObj.cells (spC s)]) rfl zu2q (by decide) (by decide) (fun _=>zwh8) (by omega)
 simp only [y04,y00] at hap
 have k1:=z299 (x:=s.by_) (v:=x.own)
 have k2:=zku2 (x:=s.cmd) (y:=x.rc.cmd)
 have hlc : ∀ H,lenD H (s.cmd.dv 1 stC)=some (.int .i64 s.cmd.l.length):=fun H=>zupj
 simp (disch:=first|omega|simp<;>omega|fail) [-zA,-zB,-zC,-zD,-zE,zv5f,z7en,h,h']
 refine zbn1 (z3mo (zbn1 (V_W mix zr39 ?_)))
 simp (disch:=first|omega|simp<;>omega|fail) [-zA,-zB,-zC,-zD,-zE,hg,znv7,z5ch]
 refine zs10 (H := .cells (spC s)::oT atC L) (cs:=atC x) (t':=[.junk,l.dv 9 atC,.mp 0 7 0,.junk,.junk,oV 1 9 L,.int .i64 i,.ref (atC x)]++js 42) (by simp (disch:=first|omega|simp<;>omega|fail) [-zA,-zB,-zC,-zD,-zE,zlf2,hTb]) (by simp) ?_ (by simp (disch:=first|omega|simp<;>omega|fail) [-zA,-zB,-zC,-zD,-zE,belowL,Am.below,hVb',z8b8 _ _ (zu1r l)]) ?_
 ·have e1:=zz5t (H := .cells (spC s)::oT atC L) (cs:=atC x) (off:=0) (z83l x)
  have e2 : ∀ h,mk1 (kLt ((AObj.cells (spC s)::oT atC L).length)) h (oV 1 9 L)=oV 1 9 L:=fun h=>zd3c (by rw [y09]; exact hVb')
  have e3 : ∀ h,mk1 (kLt ((AObj.cells (spC s)::oT atC L).length)) h (.mp 0 7 0) = .mp 0 7 0:=fun h=>zd3c (by simp [Am.below])
  have e4 : ∀ K h,mk1 K h (l.dv 9 atC)=l.dv 9 atC:=fun K h=>zvft (zu1r l)
  simp only [y04,y09,zu2q,y14] at e1 e2 e3
  simp (disch:=first|omega|simp<;>omega|fail) [-zA,-zB,-zC,-zD,-zE,e1,e2,e3,e4]
 have fin : ∀ L':List Att,L'=eliR s (l.l.take (i+1))→V P 0 (.region false [⟨none,(some 12),.mov (.t 6)⟩,⟨none,(some 13),.bin .add (.t 12) (.k (.int .i64 1))⟩,⟨none,(some 6),.mov (.t 13)⟩]) (z13e 0 (S978 s l) (fun i=>l.l.length-i) (fun i=>i≤l.l.length) i (z0mx 0 (z2pk P 0 ((ACode.region false [⟨none,(some 49),.mov (.t 5)⟩,⟨none,(some 4),.mov (.t 49)⟩]).seq ACode.ret) (retK a11.res ((ownN (eliR s l.l)).dv 9 atC))))) ⟨[.junk,l.dv 9 atC,.mp 0 7 0,.junk,.junk,oV 1 9 L',.int .i64 i]++js 43,.cells (spC s)::oT atC L'⟩:=fun L' hL'=>by
  refine V_W mix zr39 ?_
  simp (disch:=first|omega|simp<;>omega|fail) [-zA,-zB,-zC,-zD,-zE]
  exact ⟨i+1,z515 (by simp (disch:=first|omega|simp<;>omega|fail) [-zA,-zB,-zC,-zD,-zE,S978,z7en,hL']) (by simp (disch:=first|omega|simp<;>omega|fail) [-zA,-zB,-zC,-zD,-zE,S978,z7en,hL']),by omega,by omega⟩
 rw [← zl4y] at hs
 refine V_W mix zr39 ?_
 unfold elR at hs
 cases b1:decide (x.own ∈ s.by_.l)<;>rw [b1] at hs k1
 ·simp (disch:=first|omega|simp<;>omega|fail) [-zA,-zB,-zC,-zD,-zE,zkpj,z5rd,zej4,k1]
  refine zqfd (z515 ?_ rfl) (fin L (by rw [hs]; simp))
  simp (disch:=first|omega|simp<;>omega|fail) [-zA,-zB,-zC,-zD,-zE]
 by_cases b2:x.rc.step=s.name
 case neg =>
  have b2':decide (x.rc.step=s.name)=false:=by simpa using b2
  rw [b2'] at hs
  simp (disch:=first|omega|simp<;>omega|fail) [-zA,-zB,-zC,-zD,-zE,zkpj,z77v,zwo7,z5rd,zej4,k1,b2]
  refine zqfd (z515 ?_ rfl) (fin L (by rw [hs]; simp))
  simp (disch:=first|omega|simp<;>omega|fail) [-zA,-zB,-zC,-zD,-zE]
 have b2':decide (x.rc.step=s.name)=true:=by simpa using b2
 rw [b2'] at hs
 by_cases b3:s.cmd.l=[]
 ·have b3':decide (s.cmd.l=[])=true:=by simpa using b3
  rw [b3'] at hs
  have b4:(s.cmd.l.length:Int)=0:=by rw [b3]; rfl
  rw [b4] at hlc
  simp (disch:=first|omega|simp<;>omega|fail) [-zA,-zB,-zC,-zD,-zE,zkpj,z77v,zwo7,z5rd,z436,zej4,k1,b2,hlc,znv7,zsdw,hap]
  refine zqfd (z515 ?_ rfl) (fin (L++[x]) (by rw [hs]; simp))
  simp (disch:=first|omega|simp<;>omega|fail) [-zA,-zB,-zC,-zD,-zE]
 have b3':decide (s.cmd.l=[])=false:=by simpa using b3
 rw [b3',Bool.false_or] at hs
 have b4:¬ (s.cmd.l.length:Int)=0:=fun e=>b3 (y0i (by omega))
 have b5:s.cmd.l.length≠0:=by omega
 obtain ⟨N,hN⟩ : ∃ N,s.cmd.l.length=N:=⟨_,rfl⟩
 rw [hN] at hlc b4 b5
 cases b6:decide (s.cmd.l=x.rc.cmd.l)<;>rw [b6] at hs k2
 ·simp (disch:=first|omega|simp<;>omega|fail) [-zA,-zB,-zC,-zD,-zE,zkpj,z77v,zyok,zwo7,z5rd,z436,zej4,zhjm,k1,k2,b2,hlc,b4,b5]
  refine zqfd (z515 ?_ rfl) (fin L (by rw [hs]; simp))
  simp (disch:=first|omega|simp<;>omega|fail) [-zA,-zB,-zC,-zD,-zE]
 ·simp (disch:=first|omega|simp<;>omega|fail) [-zA,-zB,-zC,-zD,-zE,zkpj,z77v,zyok,zwo7,z5rd,z436,zej4,zhjm,k1,k2,b2,hlc,b4,b5,znv7,zsdw,hap]
  refine zqfd (z515 ?_ rfl) (fin (L++[x]) (by rw [hs]; simp))
  simp (disch:=first|omega|simp<;>omega|fail) [-zA,-zB,-zC,-zD,-zE]
noncomputable def cElR:List DV→Option DV:=con (fun a:Spc × Sl Att=>a.2.l.length≤1000000) (fun a:Spc × Sl Att=>[.agg (spC a.1),a.2.dv 9 atC]) (fun a=>(ownN (eliR a.1 a.2.l)).dv 9 atC)
theorem z9wx {s:Spc} {l:Sl Att} (h:l.l.length≤1000000):cElR [.agg (spC s),l.dv 9 atC]=some ((ownN (eliR s l.l)).dv 9 atC) :=
 zzno (A:=fun a:Spc × Sl Att=>a.2.l.length≤1000000) (f:=fun a:Spc × Sl Att=>[.agg (spC a.1),a.2.dv 9 atC]) (g:=fun a=>(ownN (eliR a.1 a.2.l)).dv 9 atC) (fun a b e=>by rw [zg9a e]) (s,l) h
theorem zh5w:(Con.pure cElR).Sound P 11:=z2au fun a h=>znz9 Try.func11 zbwx (z470 a.1 a.2 h)
end
section
set_option linter.unusedSimpArgs false
set_option linter.unusedVariables false
open Go Go.Am
def addS (x:Sl Str) (w:Str):Sl Str:=if w ∈ x.l then x else own (addU vLss x.l w)
noncomputable def T979:Tbl:=addT 24 (.pure cH02) tbl0
theorem zcyh:T979 24 = .pure cH02:=by simp [T979]
theorem zowh:T979.Sound P:=z0rp znod zr5o
def S979 (x:Sl Str) (w:Str) (i:Nat):St:=zq6l (x.dv 1 stC) (.str w) (oV 0 1 (x.l.take i)) (.int .i64 i) (oT stC (x.l.take i))
theorem z1s9 (x:Sl Str) (w:Str) (hn:x.l.length≤1000000):Runs T979 a43 [x.dv 1 stC,.str w] ((addS x w).dv 1 stC):=by
 refine ⟨?_⟩
 have hh:=z299 (x:=x) (v:=w)
 by_cases hm:w ∈ x.l
 ·have hr:addS x w=x:=if_pos hm
  have hm':decide (w ∈ x.l)=true:=by simpa using hm
  rw [hm'] at hh
  have hsx : ∀ H,snap H 3 (x.dv 1 stC)=some (x.dv 1 stC):=fun H=>z6nl (zfuu x)
  simp (disch:=first|omega|simp<;>omega|fail) [-zA,-zB,-zC,-zD,-zE,a43,zcyh,hh,hr,hsx]
 have hr:addS x w=own (addU vLss x.l w):=if_neg hm
 have hm':decide (w ∈ x.l)=false:=by simpa using hm
 rw [hm'] at hh
 have hul:=zk4s (lt:=vLss) (l:=x.l) (d:=w)
 rw [hr]
 have ha:addU vLss x.l w=x.l.takeWhile (fun y=>vLss y w)++w::x.l.dropWhile (fun y=>vLss y w):=by unfold addU; rw [if_neg hm]
 simp (disch:=first|omega|simp<;>omega|fail) [-zA,-zB,-zC,-zD,-zE,a43,zcyh,hh]
 refine zlm5 (S979 x w) (fun i=>x.l.length-i) (fun i=>i≤x.l.length ∧ ∀ j (h:j<x.l.length),j<i→vLss x.l[j] w=true) 0 (z515 (by simp (disch:=first|omega|simp<;>omega|fail) [-zA,-zB,-zC,-zD,-zE,S979,zq6l,zl8p]) (by simp (disch:=first|omega|simp<;>omega|fail) [-zA,-zB,-zC,-zD,-zE,S979,zq6l,zkrk])) ⟨by omega,fun j _ hj=>by omega⟩ (fun i hi => ?_)
 obtain ⟨h1,h2⟩:=hi
 simp only [S979]
 have tail:(i=x.l.length ∨ ∃ h:i<x.l.length,vLss x.l[i] w=false)→addU vLss x.l w=(x.l.take i++[w])++x.l.drop i:=fun h=>by
  obtain ⟨e1,e2⟩:=zig9 (p:=fun y=>vLss y w) h1 h2 h
  rw [ha,e1,e2]; simp
 obtain ⟨L,hL⟩ : ∃ L,x.l.take i=L:=⟨_,rfl⟩
 have hLl:L.length=i:=by rw [← hL,y07]; omega
 have hdl:(x.l.drop i).length=x.l.length-i:=y0k ..
 obtain ⟨D,hD⟩ : ∃ D,x.l.drop i=D:=⟨_,rfl⟩
 have hs0 : ∀ H,ziwb H 1 (x.dv 1 stC) (some (.int .i64 i)) none none=some ((x.part i x.l.length (x.l.length == x.l.length)).dv 1 stC):=fun H=>z0ke zqv6 (by simp [zo77,iD]; omega) (y08 _)
 obtain ⟨Y,hY⟩ : ∃ Y,x.part i x.l.length (x.l.length == x.l.length)=Y:=⟨_,rfl⟩
 have hYl:Y.l=D:=by rw [← hY,← hD]; show (x.l.drop i).take (x.l.length-i)=_; exact y06 (by omega)
 rw [hY] at hs0
 have hv : ∀ H,visY H (Y.dv 1 stC)=some (D.length,D.flatMap stC):=fun H=>by rw [zwaa zqv6,hYl]
 rw [hD] at hdl
 rw [hL,hD] at tail
 rw [hL]
 have hap1:=zte0 (f:=stC) (k:=0) (b:=16) (l:=L) (x:=w) (h:=[]) rfl (fun _=>rfl) (by decide) (by decide) zlxs (by omega)
 have hap2:=z612 (f:=stC) (K:=1) (k:=0) (b:=16) (l:=L++[w]) (cs:=D) (h:=[]) rfl (fun _=>rfl) (by decide) (by decide) zlxs (by simp; omega)
 have hsn:=zigm (f:=stC) (K:=1) (k:=0) (l:=(L++[w])++D) (h:=[]) (r:=[]) rfl (fun _=>rfl) z0tx (by simp; omega)
 have hne:(L++[w])++D≠[]:=by simp
 rw [z527 hne] at hsn
 rw [show stC w=[DV.str w] from rfl] at hap1
 simp only [y00,y05] at hap1 hap2 hsn
 by_cases h:i<x.l.length
 case neg =>
  have h':¬ (i:Int)<x.l.length:=by omega
  rw [tail (.inl (by omega))]
  generalize (L++[w])++D=Z at hap2 hsn ⊢
  simp (disch:=first|omega|simp<;>omega|fail) [-zA,-zB,-zC,-zD,-zE,zf3u,zq6l,h,h',hs0,hv,hap1,hap2,hsn,zch3,zu1c]
 have h':(i:Int)<x.l.length:=by omega
 have hg : ∀ H,zpsc H 1 (x.dv 1 stC) i=some (.ref (stC x.l[i])):=fun H=>zalo zqv6 h
 have hnx:x.l.take (i+1)=L++[x.l[i]]:=by rw [y02 h,hL]
 have hinv:vLss x.l[i] w=true → ∀ j (h:j<x.l.length),j<i+1→vLss x.l[j] w=true:=fun e j hj hji=>by
  by_cases ej:j=i
  ·subst ej; exact e
  ·exact h2 j hj (by omega)
 have tail2:vLss x.l[i] w=false→addU vLss x.l w=(L++[w])++D:=fun e=>tail (.inr ⟨h,e⟩)
 obtain ⟨y,hy⟩ : ∃ y,x.l[i]=y:=⟨_,rfl⟩
 rw [hy] at hg hnx hinv tail2
 have hap3:=zte0 (f:=stC) (k:=0) (b:=16) (l:=L) (x:=y) (h:=[]) rfl (fun _=>rfl) (by decide) (by decide) zlxs (by omega)
 rw [show stC y=[DV.str y] from rfl] at hap3
 simp only [y00] at hap3
 have hlt : ∀ {a b:Str},zhl4 .lss (.str a) (.str b)=some (.bool (vLss a b)):=rfl
 cases hc:vLss y w with
 | false =>
  rw [tail2 hc]
  generalize (L++[w])++D=Z at hap2 hsn ⊢
  simp (disch:=first|omega|simp<;>omega|fail) [-zA,-zB,-zC,-zD,-zE,zf3u,zq6l,h,h',hg,stC,hlt,hc,hs0,hv,hap1,hap2,hsn,zch3,zu1c]
 | true =>
  simp (disch:=first|omega|simp<;>omega|fail) [-zA,-zB,-zC,-zD,-zE,zf3u,zq6l,h,h',hg,stC,hlt,hc,zylz,hap3]
  exact ⟨i+1,z515 (by simp (disch:=first|omega|simp<;>omega|fail) [-zA,-zB,-zC,-zD,-zE,S979,zq6l,hnx]) (by simp (disch:=first|omega|simp<;>omega|fail) [-zA,-zB,-zC,-zD,-zE,S979,zq6l,hnx]),by omega,by omega,hinv hc⟩
noncomputable def cAdS:List DV→Option DV:=con (fun a:Sl Str × Str=>a.1.l.length≤1000000) (fun a=>[a.1.dv 1 stC,.str a.2]) (fun a=>(addS a.1 a.2).dv 1 stC)
theorem ztag {x:Sl Str} {w:Str} (h:x.l.length≤1000000):cAdS [x.dv 1 stC,.str w]=some ((addS x w).dv 1 stC) :=
 zzno (A:=fun a:Sl Str × Str=>a.1.l.length≤1000000) (f:=fun a=>[a.1.dv 1 stC,.str a.2]) (g:=fun a=>(addS a.1 a.2).dv 1 stC) (by
  rintro ⟨a,b⟩ ⟨c,d⟩ e
  simp only [List.cons.injEq,DV.str.injEq,and_true] at e
  rw [zdef e.1,e.2]) (x,w) h
theorem zr85:(Con.pure cAdS).Sound P 43:=z2au fun a h=>zljw mix zowh Try.func43 zbv8 (z1s9 a.1 a.2 h)
theorem z3dh {x:Sl Str} {w:Str} (h:x.l.length≤1000000):(addS x w).l=addU vLss x.l w:=by
 unfold addS
 split
 ·rename_i e; unfold addU; rw [if_pos e]
 ·have:=zk4s (lt:=vLss) (l:=x.l) (d:=w)
  rw [z3e9 (by omega)]
end
section
set_option linter.unusedSimpArgs false
set_option linter.unusedVariables false
open Go Go.Am
def vtR (x:Att):Vot:=⟨x.own,lnkR x.rc⟩
theorem z68u:(nilS:Sl Str).dv 1 stC = .nils:=rfl
def za3e (A:List Str):Sl Str:=A.foldl addS nilS
theorem z4qg {A:List Str} {w:Str}:za3e (A++[w])=addS (za3e A) w:=by simp [za3e]
theorem z1mc {A:List Str} (h:A.length≤1000000):(za3e A).l=z534 vLss A:=by
 induction A using z77f with
 | h0=>rfl
 | h1 A w ih =>
  rw [y01,y03] at h
  have ih:=ih (by omega)
  have hl:=zsv6 (lt:=vLss) A
  rw [z4qg,z3dh (by rw [ih]; omega),ih]
  simp [z534]
def zeus (v:Vot) (W:List Vot):List Str:=(W.filter fun y=>decide (y.own=v.own) && !decide (vKey v=vKey y)).map fun _=>v.own
theorem zz85 {v y:Vot} {W:List Vot}:zeus v (W++[y])=zeus v W++(if decide (y.own=v.own) && !decide (vKey v=vKey y) then [v.own] else []):=by
 unfold zeus
 rw [y0e,List.map_append]
 cases h:(decide (y.own=v.own) && !decide (vKey v=vKey y))<;>simp [h]
theorem zfcl {v:Vot} {W:List Vot}:(zeus v W).length≤W.length:=by unfold zeus; rw [y0n]; exact y0j _ _
theorem zskl {v:Vot} : ∀ {V pre:List Vot},eqLs Vot.own vKey pre (V++[v])=eqLs Vot.own vKey pre V++zeus v (pre++V)
 | [],pre=>by simp [eqLs,zeus]
 | y::V,pre=>by
  rw [y04,eqLs,eqLs,zskl]
  simp only [y0q,y04,y00]
theorem z45g {n:Nat} {V:List Vot} (h:V.length≤n):(eqLs Vot.own vKey [] V).length≤V.length*n:=by
 induction V using z77f with
 | h0=>simp [eqLs]
 | h1 V v ih =>
  rw [y01,y03] at h ⊢
  have:=ih (by omega)
  have h2:=zfcl (v:=v) (W:=[]++V)
  rw [zskl,y01,Nat.add_mul,Nat.one_mul]
  simp only [y00] at h2 ⊢
  omega
def eqA (l:List Vot) (i:Nat):List Str:=eqLs Vot.own vKey [] (l.take i)
noncomputable def T980:Tbl:=addT 42 (.pure cLnk) (addT 22 (.pure cS15) (addT 43 (.pure cAdS) tbl0))
theorem znn5:T980 42 = .pure cLnk:=by simp [T980]
theorem z2m4:T980 22 = .pure cS15:=by simp [T980]
theorem ztam:T980 43 = .pure cAdS:=by simp [T980]
theorem zyrb:T980.Sound P:=z0rp z1by (z0rp zrpw (z0rp zr85 zr5o))
def S980 (l:Sl Att) (i:Nat):St:=z96a (l.dv 9 atC) ((za3e (eqA (l.l.map vtR) i)).dv 1 stC) (.int .i64 i) []
def S981 (l:Sl Att) (i:Nat) (v:Vot) (k:Nat):St:=zz9m (l.dv 9 atC) ((za3e (eqA (l.l.map vtR) i++zeus v ((l.l.map vtR).take k))).dv 1 stC) (.int .i64 i) (.int .i64 k) []
theorem zxxg (l:Sl Att) (hl:l.l.length≤100):Runs T980 a41 [l.dv 9 atC] ((za3e (eqLs Vot.own vKey [] (l.l.map vtR))).dv 1 stC):=by
 refine ⟨?_⟩
 obtain ⟨n,hn⟩ : ∃ n,l.l.length=n:=⟨_,rfl⟩
 rw [hn] at hl
 obtain ⟨V,hV⟩ : ∃ V,l.l.map vtR=V:=⟨_,rfl⟩
 have hVn:V.length=n:=by rw [← hV,y0n,hn]
 have hVi : ∀ i (h:i<l.l.length),∃ h2:i<V.length,V[i]=vtR l.l[i]:=fun i h=>⟨by omega,by subst hV; simp⟩
 simp (disch:=first|omega|simp<;>omega|fail) [-zA,-zB,-zC,-zD,-zE,a41]
 refine zlm5 (S980 l) (fun i=>n-i) (fun i=>i≤n) 0 (z515 (by simp (disch:=first|omega|simp<;>omega|fail) [-zA,-zB,-zC,-zD,-zE,S980,z96a,eqA,za3e,eqLs,z68u]) (by simp (disch:=first|omega|simp<;>omega|fail) [-zA,-zB,-zC,-zD,-zE,S980,z96a])) (by omega) (fun i hi => ?_)
 simp only [S980]
 rw [hV]
 by_cases h:i<n
 case neg =>
  have h':¬ (i:Int)<n:=by omega
  have e:eqA V i=eqLs Vot.own vKey [] V:=by unfold eqA; rw [y06 (by omega)]
  rw [e]
  have hsx : ∀ H,snap H 3 ((za3e (eqLs Vot.own vKey [] V)).dv 1 stC)=some ((za3e (eqLs Vot.own vKey [] V)).dv 1 stC):=fun H=>z6nl (zfuu _)
  simp (disch:=first|omega|simp<;>omega|fail) [-zA,-zB,-zC,-zD,-zE,zumm,z96a,hn,h,h',hsx]
 have h':(i:Int)<n:=by omega
 obtain ⟨hiV,hvi⟩:=hVi i (by omega)
 have hg : ∀ H,zpsc H 9 (l.dv 9 atC) i=some (.ref (atC l.l[i])):=fun H=>zalo zu2q (by omega)
 obtain ⟨x,hx⟩ : ∃ x,l.l[i]=x:=⟨_,rfl⟩
 rw [hx] at hg hvi
 have hnx:eqA V (i+1)=eqA V i++zeus (vtR x) (V.take i):=by
  unfold eqA
  rw [y02 hiV,zskl,hvi]; rfl
 have hAl:(eqA V i).length≤10000:=by
  have:=z45g (n:=n) (V:=V.take i) (by rw [y07]; omega)
  rw [y07] at this
  have h2:min i V.length*n≤100*100:=Nat.mul_le_mul (by omega) hl
  unfold eqA; omega
 simp (disch:=first|omega|simp<;>omega|fail) [-zA,-zB,-zC,-zD,-zE,zumm,z96a,hn,h,h']
 refine zlm5 (S981 l i (vtR x)) (fun k=>i-k) (fun k=>k≤i) 0 (z515 (by simp (disch:=first|omega|simp<;>omega|fail) [-zA,-zB,-zC,-zD,-zE,S981,zz9m,zeus,hV]) (by simp (disch:=first|omega|simp<;>omega|fail) [-zA,-zB,-zC,-zD,-zE,S981,zz9m])) (by omega) (fun k hk => ?_)
 simp only [S981]
 rw [hV]
 by_cases q:k<i
 case neg =>
  have q':¬ (k:Int)<i:=by omega
  have e:k=i:=by omega
  subst e
  simp (disch:=first|omega|simp<;>omega|fail) [-zA,-zB,-zC,-zD,-zE,zn9l,zz9m,q,q']
  exact ⟨k+1,z515 (by simp (disch:=first|omega|simp<;>omega|fail) [-zA,-zB,-zC,-zD,-zE,S980,z96a,hV,hnx]) (by simp (disch:=first|omega|simp<;>omega|fail) [-zA,-zB,-zC,-zD,-zE,S980,z96a]),by omega,by omega⟩
 have q':(k:Int)<i:=by omega
 obtain ⟨hkV,hvk⟩:=hVi k (by omega)
 have hgk : ∀ H,zpsc H 9 (l.dv 9 atC) k=some (.ref (atC l.l[k])):=fun H=>zalo zu2q (by omega)
 obtain ⟨y,hy⟩ : ∃ y,l.l[k]=y:=⟨_,rfl⟩
 rw [hy] at hgk hvk
 have hrow:zeus (vtR x) (V.take (k+1))=zeus (vtR x) (V.take k)++(if decide (y.own=x.own) && !decide (vKey (vtR x)=vKey (vtR y)) then [x.own] else []):=by
  rw [y02 hkV,zz85,hvk]; rfl
 have hRl:(zeus (vtR x) (V.take k)).length≤100:=y1b zfcl (by rw [y07]; omega)
 obtain ⟨A,hA⟩ : ∃ A,eqA V i++zeus (vtR x) (V.take k)=A:=⟨_,rfl⟩
 have hAl2:A.length≤20000:=by rw [← hA,y01]; omega
 have hnA : ∀ r,zeus (vtR x) (V.take (k+1))=zeus (vtR x) (V.take k)++r→eqA V i++zeus (vtR x) (V.take (k+1))=A++r:=fun r e=>by rw [e,← hA,y0q]
 have hfl:(za3e A).l.length≤1000000:=by rw [z1mc (by omega)]; have:=zsv6 (lt:=vLss) A; omega
 have k1:=zcrp (r:=x.rc)
 have k2:=zcrp (r:=y.rc)
 have k3:=z3rl (a:=lnkR x.rc) (b:=lnkR y.rc)
 have k3e:zxyz (lnkR x.rc) (lnkR y.rc)=decide (vKey (vtR x)=vKey (vtR y)):=zf7y (a:=vtR x) (b:=vtR y)
 have k4:=ztag (x:=za3e A) (w:=x.own) hfl
 rw [← z4qg] at k4
 rw [k3e] at k3
 rw [hA]
 by_cases e1:x.own=y.own
 case neg =>
  have e1':decide (y.own=x.own)=false:=by simpa using fun e=>e1 e.symm
  rw [e1'] at hrow
  have hn2:=hnA [] (by simpa using hrow)
  rw [y05] at hn2
  simp (disch:=first|omega|simp<;>omega|fail) [-zA,-zB,-zC,-zD,-zE,zn9l,zz9m,q,q',hg,hgk,zkpj,e1]
  exact ⟨k+1,z515 (by simp (disch:=first|omega|simp<;>omega|fail) [-zA,-zB,-zC,-zD,-zE,S981,zz9m,hV,hn2]) (by simp (disch:=first|omega|simp<;>omega|fail) [-zA,-zB,-zC,-zD,-zE,S981,zz9m]),by omega,by omega⟩
 have e1':decide (y.own=x.own)=true:=by simpa using e1.symm
 rw [e1'] at hrow
 cases e2:decide (vKey (vtR x)=vKey (vtR y)) with
 | true =>
  rw [e2] at hrow k3
  have hn2:=hnA [] (by simpa using hrow)
  rw [y05] at hn2
  simp (disch:=first|omega|simp<;>omega|fail) [-zA,-zB,-zC,-zD,-zE,zn9l,zz9m,q,q',hg,hgk,zkpj,zo7q,e1,znn5,z2m4,k1,k2,k3]
  exact ⟨k+1,z515 (by simp (disch:=first|omega|simp<;>omega|fail) [-zA,-zB,-zC,-zD,-zE,S981,zz9m,hV,hn2]) (by simp (disch:=first|omega|simp<;>omega|fail) [-zA,-zB,-zC,-zD,-zE,S981,zz9m]),by omega,by omega⟩
 | false =>
  rw [e2] at hrow k3
  have hn2:=hnA [x.own] (by simpa using hrow)
  rw [e1] at k4 hn2
  simp (disch:=first|omega|simp<;>omega|fail) [-zA,-zB,-zC,-zD,-zE,zn9l,zz9m,q,q',hg,hgk,zkpj,zo7q,e1,znn5,z2m4,ztam,k1,k2,k3,k4,zfuu]
  exact ⟨k+1,z515 (by simp (disch:=first|omega|simp<;>omega|fail) [-zA,-zB,-zC,-zD,-zE,S981,zz9m,hV,hn2]) (by simp (disch:=first|omega|simp<;>omega|fail) [-zA,-zB,-zC,-zD,-zE,S981,zz9m]),by omega,by omega⟩
noncomputable def cEqv:List DV→Option DV:=con (fun l:Sl Att=>l.l.length≤100) (fun l=>[l.dv 9 atC]) (fun l=>(za3e (eqLs Vot.own vKey [] (l.l.map vtR))).dv 1 stC)
theorem za53 {l:Sl Att} (h:l.l.length≤100):cEqv [l.dv 9 atC]=some ((za3e (eqLs Vot.own vKey [] (l.l.map vtR))).dv 1 stC) :=
 zzno (A:=fun l:Sl Att=>l.l.length≤100) (f:=fun l=>[l.dv 9 atC]) (g:=fun l=>(za3e (eqLs Vot.own vKey [] (l.l.map vtR))).dv 1 stC) (fun a b e=>by
  simp only [List.cons.injEq,and_true] at e
  rw [z965 e]) l h
theorem zgo0:(Con.pure cEqv).Sound P 41:=z2au fun a h=>zljw mix zyrb Try.func41 z5y8 (zxxg a h)
end
section
set_option linter.unusedSimpArgs false
set_option linter.unusedVariables false
open Go Go.Am
def befA (a b:Agr):Bool:=befC vLss (a,a.owners.l) (b,b.owners.l)
theorem zquj (a b:Agr) (ha:a.owners.l≠[]) (hb:b.owners.l≠[]):Runs tbl0 a64 [.agg (agC a),.agg (agC b)] (.bool (befA a b)):=by
 refine ⟨?_⟩
 have hla : ∀ H,lenD H (a.owners.dv 1 stC)=some (.int .i64 a.owners.l.length):=fun H=>zupj
 have hlb : ∀ H,lenD H (b.owners.dv 1 stC)=some (.int .i64 b.owners.l.length):=fun H=>zupj
 have hlt : ∀ {a b:Str},zhl4 .lss (.str a) (.str b)=some (.bool (vLss a b)):=rfl
 obtain ⟨x,r,hx⟩ : ∃ x r,a.owners.l=x::r:=by
  cases e:a.owners.l with
  | nil=>exact absurd e ha
  | cons x r=>exact ⟨x,r,rfl⟩
 obtain ⟨y,q,hy⟩ : ∃ y q,b.owners.l=y::q:=by
  cases e:b.owners.l with
  | nil=>exact absurd e hb
  | cons y q=>exact ⟨y,q,rfl⟩
 have hia : ∀ H,zpsc H 1 (a.owners.dv 1 stC) 0=some (.ref (stC x)):=fun H=>by
  have:=zalo (h:=H) (x:=a.owners) (i:=0) zqv6 (by rw [hx]; simp)
  rw [show ((0:Nat):Int)=0 from rfl] at this
  rw [this]; simp [hx]
 have hib : ∀ H,zpsc H 1 (b.owners.dv 1 stC) 0=some (.ref (stC y)):=fun H=>by
  have:=zalo (h:=H) (x:=b.owners) (i:=0) zqv6 (by rw [hy]; simp)
  rw [show ((0:Nat):Int)=0 from rfl] at this
  rw [this]; simp [hy]
 obtain ⟨m,hm⟩ : ∃ m,a.owners.l.length=m:=⟨_,rfl⟩
 obtain ⟨n,hn⟩ : ∃ n,b.owners.l.length=n:=⟨_,rfl⟩
 rw [hm] at hla
 rw [hn] at hlb
 by_cases e:m=n
 ·subst e
  have hr:befA a b=vLss x y:=by unfold befA befC; rw [if_neg (by simp only; omega),hx,hy]
  rw [hr]
  simp (disch:=first|omega|simp<;>omega|fail) [-zA,-zB,-zC,-zD,-zE,a64,zntj,hla,hlb,hia,hib,stC,hlt]
 ·have e':¬ (m:Int)=n:=by omega
  have hr:befA a b=decide (n<m):=by unfold befA befC; simp only; rw [hm,hn,if_pos e]
  rw [hr]
  by_cases q:n<m
  ·have q':(n:Int)<m:=by omega
   simp (disch:=first|omega|simp<;>omega|fail) [-zA,-zB,-zC,-zD,-zE,a64,zntj,hla,hlb,e,e',q,q']
  ·have q':¬ (n:Int)<m:=by omega
   simp (disch:=first|omega|simp<;>omega|fail) [-zA,-zB,-zC,-zD,-zE,a64,zntj,hla,hlb,e,e',q,q']
noncomputable def cBef:List DV→Option DV:=con (fun a:Agr × Agr=>a.1.owners.l≠[]∧a.2.owners.l≠[]) (fun a:Agr × Agr=>[.agg (agC a.1),.agg (agC a.2)]) (fun a => .bool (befA a.1 a.2))
theorem zhgt {a b:Agr} (h1:a.owners.l≠[]) (h2:b.owners.l≠[]):cBef [.agg (agC a),.agg (agC b)]=some (.bool (befA a b)) :=
 zzno (A:=fun a:Agr × Agr=>a.1.owners.l≠[]∧a.2.owners.l≠[]) (f:=fun a:Agr × Agr=>[.agg (agC a.1),.agg (agC a.2)]) (g:=fun a => .bool (befA a.1 a.2)) (by
  rintro ⟨a,b⟩ ⟨c,d⟩ e
  obtain ⟨rfl,rfl⟩:=zgdj e; rfl) (a,b) ⟨h1,h2⟩
theorem z9lb:(Con.pure cBef).Sound P 64:=z2au fun a h=>zljw mix zr5o Try.func64 zerh (zquj a.1 a.2 h.1 h.2)
theorem zaby {γ:Type} {b:γ→γ→Bool} {l:List γ} {x:γ}:zgsx b (l++[x])=insB b (zgsx b l) x:=by simp [zgsx]
theorem zfoq {γ:Type} {b:γ→γ→Bool} {l:List γ} {y:γ} (h:y ∈ zgsx b l):y ∈ l:=by
 induction l using z77f with
 | h0=>exact h
 | h1 l x ih =>
  rw [zaby] at h
  rcases zcns.1 h with e|e
  ·rw [e]; simp
  ·exact List.mem_append.2 (.inl (ih e))
theorem z3kf {γ:Type} {b:γ→γ→Bool} {l:List γ} {x:γ}:(insB b l x).length=l.length+1:=by
 unfold insB
 have:=congrArg List.length (List.takeWhile_append_dropWhile (p:=fun y=>b y x) (l:=l))
 rw [y01] at this ⊢
 rw [y09]; omega
theorem z8gt {γ:Type} {b:γ→γ→Bool} (l:List γ):(zgsx b l).length=l.length:=by
 induction l using z77f with
 | h0=>rfl
 | h1 l x ih=>rw [zaby,z3kf,ih]; simp
def OrdT:ACode:=match zktq with
 | .seq _ (.seq (.block _ (.seq _ (.seq _ y))) _)=>y
 | _ => .skip
def OrdR:ACode:=match zktq with
 | .seq _ (.seq _ y)=>y
 | _ => .skip
noncomputable def T984:Tbl:=addT 64 (.pure cBef) tbl0
theorem ziw2:T984 64 = .pure cBef:=by simp [T984]
theorem zhks:T984.Sound P:=z0rp z9lb zr5o
def S984 (l:Sl Agr) (i:Nat):St:=zuwp (l.dv 5 agC) ((ownN (zgsx befA (l.l.take i))).dv 5 agC) (.int .i64 i) []
theorem zk3s {l O:Sl Agr} {Q:List Agr} {x:Agr} {n i k:Nat} (hn:l.l.length=n) (hl:n≤1000) (h:i<n) (hg : ∀ H,zpsc H 5 (l.dv 5 agC) i=some (.ref (agC x))) (hOl:O.l=Q) (hQl:Q.length=i) (hk:k≤i)
  (hnx:zgsx befA (l.l.take (i+1))=(Q.take k++[x])++Q.drop k) {Φ0:AExit→St→Prop} :
  V P 0 OrdT (z0mx 1 (z2pk P 0 OrdR (z13e 0 (S984 l) (fun i=>n-i) (fun i=>i≤n) i Φ0))) ⟨[l.dv 5 agC,.junk,.junk,O.dv 5 agC,.int .i64 i,.int .i64 k]++js 39,[]⟩:=by
 have hOn:O.l.length=i:=by rw [hOl,hQl]
 have hs1 : ∀ H,ziwb H 5 (O.dv 5 agC) none (some (.int .i64 k)) none=some ((O.part 0 k (k == O.l.length)).dv 5 agC):=fun H=>z0ke znh2 (by simp [zo77,iD]; omega) (by omega)
 have hs2 : ∀ H,ziwb H 5 (O.dv 5 agC) (some (.int .i64 k)) none none=some ((O.part k O.l.length (O.l.length == O.l.length)).dv 5 agC):=fun H=>z0ke znh2 (by simp [zo77,iD]; omega) (y08 _)
 obtain ⟨Y1,hY1⟩ : ∃ Y,O.part 0 k (k == O.l.length)=Y:=⟨_,rfl⟩
 obtain ⟨Y2,hY2⟩ : ∃ Y,O.part k O.l.length (O.l.length == O.l.length)=Y:=⟨_,rfl⟩
 have hY1l:Y1.l=Q.take k:=by rw [← hY1,← hOl]; show (O.l.drop 0).take (k-0)=_; simp
 have hY2l:Y2.l=Q.drop k:=by rw [← hY2,← hOl]; show (O.l.drop k).take (O.l.length-k)=_; exact y06 (by simp)
 have hTl:(Q.take k).length=k:=by rw [y07]; omega
 have hDl:(Q.drop k).length=i-k:=by rw [y0k,hQl]
 obtain ⟨A,hA⟩ : ∃ A,Q.take k=A:=⟨_,rfl⟩
 obtain ⟨D,hD⟩ : ∃ D,Q.drop k=D:=⟨_,rfl⟩
 rw [hY1] at hs1
 rw [hY2] at hs2
 rw [hA] at hY1l hnx hTl
 rw [hD] at hY2l hnx hDl
 have hv1 : ∀ H,visY H (Y1.dv 5 agC)=some (A.length,A.flatMap agC):=fun H=>by rw [zwaa znh2,hY1l]
 have hv2 : ∀ H,visY H (Y2.dv 5 agC)=some (D.length,D.flatMap agC):=fun H=>by rw [zwaa znh2,hY2l]
 have ap1:=znxx (f:=agC) (k:=0) (b:=112) (l:=[]) (cs:=A) (h:=[]) rfl znh2 (by decide) (by decide) (fun _=>z892) (by simp; omega)
 have ap2:=znxx (f:=agC) (k:=0) (b:=112) (l:=A) (cs:=[x]) (h:=[]) rfl znh2 (by decide) (by decide) (fun _=>z892) (by simp; omega)
 have ap3:=znxx (f:=agC) (k:=0) (b:=112) (l:=A++[x]) (cs:=D) (h:=[]) rfl znh2 (by decide) (by decide) (fun _=>z892) (by simp; omega)
 simp only [y00,y05,ze3w,zkrk,y03,y0d,List.flatMap_nil] at ap1 ap2 ap3
 obtain ⟨Z,hZ⟩ : ∃ Z,A++[x]++D=Z:=⟨_,rfl⟩
 have hZn:Z≠[]:=by rw [← hZ]; simp
 have hZl:Z.length≤2000:=by rw [← hZ]; simp; omega
 rw [hZ] at ap3 hnx
 have hmk:=z2a4 (f:=agC) (K:=5) (k:=0) (n:=0) (l:=Z) (h:=[]) (r:=[]) rfl (y08 _) znh2 z1u0 (by omega)
 simp only [y00,y05] at hmk
 rw [zpml hZn] at ap3
 have hkn : ∀ {l:List Agr},(oW 0 5 l).known=true:=zg9v
 refine V_W mix zr5o ?_
 simp (disch:=first|omega|simp<;>omega|fail) [-zA,-zB,-zC,-zD,-zE,OrdT,zktq,hs1,hs2,hv1,hv2,ap1,ap2,ap3,hg,zd17,zxuz,zch3,hkn,zu1c]
 refine z3gr (t':=[l.dv 5 agC,.junk,.junk,(ownN Z).dv 5 agC,.int .i64 i]++js 40) ?_ (by simp (disch:=first|omega|simp<;>omega|fail) [-zA,-zB,-zC,-zD,-zE,belowL,Am.below,z8b8 _ _ (z165 l),z8b8 _ _ (z165 (ownN Z))]) ?_
 ·have e4 : ∀ K h,mk1 K h (l.dv 5 agC)=l.dv 5 agC:=fun K h=>zvft (z165 l)
  simp (disch:=first|omega|simp<;>omega|fail) [-zA,-zB,-zC,-zD,-zE,e4,hmk]
 refine V_W mix zr5o ?_
 simp (disch:=first|omega|simp<;>omega|fail) [-zA,-zB,-zC,-zD,-zE,OrdR,zktq]
 exact ⟨i+1,z515 (by simp (disch:=first|omega|simp<;>omega|fail) [-zA,-zB,-zC,-zD,-zE,S984,zuwp,hnx]) (by simp (disch:=first|omega|simp<;>omega|fail) [-zA,-zB,-zC,-zD,-zE,S984,zuwp]),by omega,by omega⟩
def S985 (l:Sl Agr) (i:Nat) (O:Sl Agr) (k:Nat):St:=ziy1 (l.dv 5 agC) (O.dv 5 agC) (.int .i64 i) (.int .i64 k) []
theorem zw09 (l:Sl Agr) (hl:l.l.length≤1000) (hne : ∀ a ∈ l.l,a.owners.l≠[]):V P 0 a44.code (retK a44.res ((ownN (zgsx befA l.l)).dv 5 agC)) ⟨zr5g a44.ntmps [l.dv 5 agC],[]⟩:=by
 obtain ⟨n,hn⟩ : ∃ n,l.l.length=n:=⟨_,rfl⟩
 rw [hn] at hl
 refine zbn1 (V_W mix zhks ?_)
 simp (disch:=first|omega|simp<;>omega|fail) [-zA,-zB,-zC,-zD,-zE,a44]
 refine zbn1 (V_W mix zhks ?_)
 simp (disch:=first|omega|simp<;>omega|fail) [-zA,-zB,-zC,-zD,-zE]
 refine zbn1 (zbn1 (V_W mix zhks ?_))
 simp (disch:=first|omega|simp<;>omega|fail) [-zA,-zB,-zC,-zD,-zE]
 have hnilA:(nilS:Sl Agr).dv 5 agC = .nils:=rfl
 refine z3mo (ztbr (S984 l) (fun i=>n-i) (fun i=>i≤n) 0 (z515 (by simp (disch:=first|omega|simp<;>omega|fail) [-zA,-zB,-zC,-zD,-zE,S984,zuwp,zgsx,zce3,hnilA]) (by simp (disch:=first|omega|simp<;>omega|fail) [-zA,-zB,-zC,-zD,-zE,S984,zuwp])) (by omega) (fun i hi => ?_))
 simp only [S984]
 refine zbn1 (V_W mix zhks ?_)
 by_cases h:i<n
 case neg =>
  have h':¬ (i:Int)<n:=by omega
  rw [y06 (show l.l.length≤i by omega)]
  have hsx : ∀ H,snap H 3 ((ownN (zgsx befA l.l)).dv 5 agC)=some ((ownN (zgsx befA l.l)).dv 5 agC):=fun H=>z6nl (z165 _)
  simp (disch:=first|omega|simp<;>omega|fail) [-zA,-zB,-zC,-zD,-zE,zktq,zuwp,hn,h,h']
  refine zbn1 (V_W mix zhks ?_)
  simp (disch:=first|omega|simp<;>omega|fail) [-zA,-zB,-zC,-zD,-zE]
  refine V_W mix zhks ?_
  simp (disch:=first|omega|simp<;>omega|fail) [-zA,-zB,-zC,-zD,-zE,hsx]
 have h':(i:Int)<n:=by omega
 have hg : ∀ H,zpsc H 5 (l.dv 5 agC) i=some (.ref (agC l.l[i])):=fun H=>zalo znh2 (by omega)
 have hxn:=hne _ (y0l (show i<l.l.length by omega))
 have hnx:zgsx befA (l.l.take (i+1))=insB befA (zgsx befA (l.l.take i)) l.l[i]:=by rw [y02 (by omega),zaby]
 obtain ⟨x,hx⟩ : ∃ x,l.l[i]=x:=⟨_,rfl⟩
 rw [hx] at hg hxn hnx
 have hQl:(zgsx befA (l.l.take i)).length=i:=by rw [z8gt,y07]; omega
 have hQn : ∀ a ∈ zgsx befA (l.l.take i),a.owners.l≠[]:=fun a ha=>hne a ((List.take_sublist _ _).subset (zfoq ha))
 have hOl:(ownN (zgsx befA (l.l.take i))).l=zgsx befA (l.l.take i):=zd8n (by omega)
 obtain ⟨Q,hQ⟩ : ∃ Q,zgsx befA (l.l.take i)=Q:=⟨_,rfl⟩
 rw [hQ] at hnx hQl hQn hOl ⊢
 obtain ⟨O,hO⟩ : ∃ O,ownN Q=O:=⟨_,rfl⟩
 rw [hO] at hOl ⊢
 simp (disch:=first|omega|simp<;>omega|fail) [-zA,-zB,-zC,-zD,-zE,zktq,zuwp,hn,h,h']
 refine zbn1 (z3mo (zbn1 (V_W mix zhks ?_)))
 simp (disch:=first|omega|simp<;>omega|fail) [-zA,-zB,-zC,-zD,-zE]
 refine zbn1 (z3mo (ztbr (S985 l i O) (fun k=>i-k) (fun k=>k≤i ∧ ∀ j (h:j<Q.length),j<k→befA Q[j] x=true) 0 (z515 (by simp (disch:=first|omega|simp<;>omega|fail) [-zA,-zB,-zC,-zD,-zE,S985,ziy1]) (by simp (disch:=first|omega|simp<;>omega|fail) [-zA,-zB,-zC,-zD,-zE,S985,ziy1])) ⟨by omega,fun j _ hj=>by omega⟩ (fun k hk => ?_)))
 obtain ⟨q1,q2⟩:=hk
 simp only [S985]
 have tail:(k=Q.length ∨ ∃ h:k<Q.length,befA Q[k] x=false)→insB befA Q x=(Q.take k++[x])++Q.drop k:=fun h=>by
  obtain ⟨e1,e2⟩:=zig9 (p:=fun y=>befA y x) (by omega) q2 h
  unfold insB; rw [e1,e2]; simp
 have fin:=fun (hz:insB befA Q x=(Q.take k++[x])++Q.drop k) Φ0=>zk3s (l:=l) (O:=O) (Q:=Q) (x:=x) (i:=i) (k:=k) hn hl h hg hOl hQl q1 (by rw [hnx,hz]) (Φ0:=Φ0)
 refine V_W mix zhks ?_
 have hOn:O.l.length=i:=by rw [hOl,hQl]
 by_cases q:k<i
 case neg =>
  have q':¬ (k:Int)<i:=by omega
  simp (disch:=first|omega|simp<;>omega|fail) [-zA,-zB,-zC,-zD,-zE,zf25,ziy1,hOn,q,q']
  refine zqfd (z515 ?_ rfl) (fin (tail (.inl (by omega))) _)
  simp (disch:=first|omega|simp<;>omega|fail) [-zA,-zB,-zC,-zD,-zE]
 have q':(k:Int)<i:=by omega
 have hgk : ∀ H,zpsc H 5 (O.dv 5 agC) k=some (.ref (agC (O.l[k]'(by omega)))):=fun H=>zalo znh2 (by omega)
 have hyq:O.l[k]'(by omega)=Q[k]'(by omega):=by simp only [hOl]
 rw [hyq] at hgk
 have hyn:=hQn _ (y0l (show k<Q.length by omega))
 have hc:=zhgt hyn hxn
 have hinv:befA (Q[k]'(by omega)) x=true → ∀ j (h:j<Q.length),j<k+1→befA Q[j] x=true:=fun e j hj hji=>by
  by_cases ej:j=k
  ·subst ej; exact e
  ·exact q2 j hj (by omega)
 have tail2:befA (Q[k]'(by omega)) x=false→insB befA Q x=(Q.take k++[x])++Q.drop k:=fun e=>tail (.inr ⟨by omega,e⟩)
 obtain ⟨y,hy⟩ : ∃ y,Q[k]'(by omega)=y:=⟨_,rfl⟩
 rw [hy] at hgk hc hinv tail2
 cases hb:befA y x with
 | false =>
  rw [hb] at hc
  simp (disch:=first|omega|simp<;>omega|fail) [-zA,-zB,-zC,-zD,-zE,zf25,ziy1,hOn,q,q',hg,hgk,zd17,ziw2,hc]
  refine zqfd (z515 ?_ rfl) (fin (tail2 hb) _)
  simp (disch:=first|omega|simp<;>omega|fail) [-zA,-zB,-zC,-zD,-zE]
 | true =>
  rw [hb] at hc
  have hinv':=hinv hb
  simp (disch:=first|omega|simp<;>omega|fail) [-zA,-zB,-zC,-zD,-zE,zf25,ziy1,hOn,q,q',hg,hgk,zd17,ziw2,hc]
  exact ⟨k+1,z515 (by simp (disch:=first|omega|simp<;>omega|fail) [-zA,-zB,-zC,-zD,-zE,S985,ziy1]) (by simp (disch:=first|omega|simp<;>omega|fail) [-zA,-zB,-zC,-zD,-zE,S985,ziy1]),by omega,by omega,fun j h hj=>by simpa using hinv' j h hj⟩
noncomputable def cOrd:List DV→Option DV:=con (fun l:Sl Agr=>l.l.length≤1000 ∧ ∀ a ∈ l.l,a.owners.l≠[]) (fun l=>[l.dv 5 agC]) (fun l=>(ownN (zgsx befA l.l)).dv 5 agC)
theorem zqnd {l:Sl Agr} (h:l.l.length≤1000) (h2 : ∀ a ∈ l.l,a.owners.l≠[]):cOrd [l.dv 5 agC]=some ((ownN (zgsx befA l.l)).dv 5 agC) :=
 zzno (A:=fun l:Sl Agr=>l.l.length≤1000 ∧ ∀ a ∈ l.l,a.owners.l≠[]) (f:=fun l=>[l.dv 5 agC]) (g:=fun l=>(ownN (zgsx befA l.l)).dv 5 agC) (fun a b e=>by
  simp only [List.cons.injEq,and_true] at e
  rw [z70f e]) l ⟨h,h2⟩
theorem zqxw:(Con.pure cOrd).Sound P 44:=z2au fun a h=>znz9 Try.func44 zeo7 (zw09 a h.1 h.2)
end
section
set_option linter.unusedSimpArgs false
set_option linter.unusedVariables false
open Go Go.Am
def newA (s:Spc) (x:Att):Agr:=⟨⟨s.name,x.rc.m,x.rc.p⟩,nilS,nilS⟩
def addO (a:Agr) (w:Str):Agr:=⟨a.lnk,addS a.owners w,a.eqv⟩
def addR (s:Spc) (x:Att):List Agr→List Agr
 | []=>[addO (newA s x) x.own]
 | c::r=>if zxyz c.lnk (lnkR x.rc) then addO c x.own::r else c::addR s x r
theorem zdmn {s:Spc} {x:Att} : ∀ {C:List Agr},(∀ j (h:j<C.length),zxyz C[j].lnk (lnkR x.rc)=false)→addR s x C=C++[addO (newA s x) x.own]
 | [],_=>rfl
 | c::r,h=>by
  have h0:=h 0 (by simp)
  simp only [y0c] at h0
  rw [addR,h0,zdmn (C:=r) fun j hj=>by have:=h (j+1) (by simpa using hj); simpa using this]
  simp
theorem zpsu {s:Spc} {x:Att} : ∀ {C:List Agr} {k:Nat} (hk:k<C.length),(∀ j (h:j<C.length),j<k→zxyz C[j].lnk (lnkR x.rc)=false)→zxyz C[k].lnk (lnkR x.rc)=true→addR s x C=C.set k (addO C[k] x.own)
 | [],_,hk,_,_=>by simp at hk
 | c::r,0,_,_,h2=>by simp only [y0c] at h2; rw [addR,h2]; simp
 | c::r,k+1,hk,h1,h2=>by
  have h0:=h1 0 (by simp) (by omega)
  simp only [y0c] at h0
  simp only [y12] at h2
  rw [addR,h0,zpsu (C:=r) (k:=k) (by simpa using hk) (fun j hj hjk=>by have:=h1 (j+1) (by simpa using hj) (by omega); simpa using this) h2]
  simp
def outA (s:Spc) (bad:List Str) (L:List Att):List Agr:=(L.filter fun x => !decide (x.own ∈ bad)).foldl (fun C x=>addR s x C) []
theorem zbfq {s:Spc} {bad:List Str} {L:List Att} {x:Att}:outA s bad (L++[x])=if decide (x.own ∈ bad) then outA s bad L else addR s x (outA s bad L):=by
 unfold outA
 rw [y0e,List.foldl_append]
 cases h:decide (x.own ∈ bad)<;>simp [h]
theorem z33u {s:Spc} {x:Att} {n:Nat} (hn:n≤1000000-1) : ∀ {C:List Agr},(∀ a ∈ C,a.owners.l.length≤n∧a.owners.l≠[])→(addR s x C).length≤C.length+1 ∧ ∀ a ∈ addR s x C,a.owners.l.length≤n+1∧a.owners.l≠[]
 | [],_=>by
  have h1:((addO (newA s x) x.own).owners).l=[x.own]:=by
   show (addS nilS x.own).l=_
   rw [z3dh (by rw [zb11]; simp),zb11]; simp [addU]
  refine ⟨by simp [addR],fun a ha => ?_⟩
  rw [addR,List.mem_singleton] at ha
  subst ha
  rw [h1]; simp
 | c::r,h=>by
  have hc:=h c (by simp)
  have hr:=fun a (ha:a ∈ r)=>h a (by simp [ha])
  rw [addR]
  split
  ·refine ⟨by simp,fun a ha => ?_⟩
   rcases y0h.1 ha with e|ha
   ·subst e
    have h1:(addO c x.own).owners.l=addU vLss c.owners.l x.own:=z3dh (by omega)
    have h2:=zk4s (lt:=vLss) (l:=c.owners.l) (d:=x.own)
    rw [h1]
    refine ⟨by omega,fun e => ?_⟩
    have:x.own ∈ addU vLss c.owners.l x.own:=(z53k (lt:=vLss)).2 (.inl rfl)
    rw [e] at this; simp at this
   ·have:=hr a ha; exact ⟨by omega,this.2⟩
  ·obtain ⟨i1,i2⟩:=z33u (s:=s) (x:=x) hn hr
   refine ⟨by simp; omega,fun a ha => ?_⟩
   rcases y0h.1 ha with e|ha
   ·subst e; exact ⟨by omega,hc.2⟩
   ·exact i2 a ha
theorem zvrq {s:Spc} {bad:List Str} {L:List Att} (h:L.length≤1000):(outA s bad L).length≤L.length ∧ ∀ a ∈ outA s bad L,a.owners.l.length≤L.length∧a.owners.l≠[]:=by
 induction L using z77f with
 | h0=>exact ⟨by simp [outA],fun a ha=>by simp [outA] at ha⟩
 | h1 L x ih =>
  rw [y01,y03] at h ⊢
  obtain ⟨i1,i2⟩:=ih (by omega)
  rw [zbfq]
  split
  ·exact ⟨by omega,fun a ha=>⟨by have:=(i2 a ha).1; omega,(i2 a ha).2⟩⟩
  ·obtain ⟨j1,j2⟩:=z33u (s:=s) (x:=x) (n:=L.length) (by omega) i2
   exact ⟨by omega,j2⟩
theorem zna9 {A B:List DV} {o:Nat} {v:DV} (h:o<A.length):zk7y (A++B) o [v]=zk7y A o [v]++B:=by
 unfold zk7y
 rw [y0u (by omega),List.drop_append_of_le_length (by simp; omega)]
 simp
theorem zuom {A B:List DV} {o:Nat} {v:DV}:zk7y (A++B) (A.length+o) [v]=A++zk7y B o [v]:=by
 unfold zk7y
 rw [List.take_length_add_append,show A.length+o+[v].length=A.length+(o+[v].length) by omega,List.drop_length_add_append]
 simp
theorem zc6y {α:Type} {f:α→List DV} {K:Nat} (hu : ∀ a,(f a).length=K) {o:Nat} {v:DV} (ho:o<K) : ∀ {C:List α} {k:Nat} (hk:k<C.length) {y:α},f y=zk7y (f C[k]) o [v]→zk7y (fl f C) (k*K+o) [v]=fl f (C.set k y)
 | [],_,hk,_,_=>by simp at hk
 | c::r,0,_,y,h=>by
  simp only [y0c] at h
  simp only [fl,y0d,List.set_cons_zero,Nat.zero_mul,y0p]
  rw [zna9 (by rw [hu]; exact ho),← h]
 | c::r,k+1,hk,y,h=>by
  simp only [y12] at h
  have ih:=zc6y hu ho (C:=r) (k:=k) (by simpa using hk) h
  simp only [fl,y0d,List.set_cons_succ] at ih ⊢
  rw [show (k+1)*K+o=(f c).length+(k*K+o) by rw [hu,Nat.succ_mul]; omega,zuom,ih]
theorem z4ow {C:List Agr} {k:Nat} (hk:k<C.length):oneC 3 true ((fl agC C).drop (k*5))=some (.agg (lkC C[k].lnk)):=by
 rw [fl,zkb2 znh2,y0a hk,y0d,zza5 (by rw [y01,znh2]; omega)]
 rw [y0u (by rw [znh2]; omega)]; rfl
theorem zroz {C:List Agr} {k:Nat} (hk:k<C.length):oneC 1 false ((fl agC C).drop (k*5+3))=some (C[k].owners.dv 1 stC):=by
 rw [← List.drop_drop,fl,zkb2 znh2,y0a hk,y0d]; rfl
theorem z3se {C:List Agr} {k:Nat} (hk:k<C.length) {w:Str} {h:List AObj} {id:Nat}:zy6o h id 1 (k*5+3) ((addS C[k].owners w).dv 1 stC) (some (fl agC C))=some (.junk,h.set id (.cells (fl agC (C.set k (addO C[k] w))))):=by
 have h1:k*5+5≤C.length*5:=by rw [← Nat.succ_mul]; exact Nat.mul_le_mul_right _ hk
 rw [storeO_1 (zfr8 _) (z4ja _) (by rw [z8lx znh2]; omega),zc6y znh2 (by decide) hk (y:=addO C[k] w) rfl]
theorem zsf0 {L:Lnk} {n:Str} {h:List AObj} {id:Nat}:zy6o h id 1 0 (.str n) (some (lkC L))=some (.junk,h.set id (.cells (lkC ⟨n,L.m,L.p⟩))):=by
 rw [Am.storeO_1 rfl rfl (by rw [z9tw]; decide)]; rfl
noncomputable def T986:Tbl:=addT 24 (.pure cH02) (addT 42 (.pure cLnk) (addT 22 (.pure cS15) (addT 43 (.pure cAdS) tbl0)))
theorem zcpx:T986 24 = .pure cH02:=by simp [T986]
theorem zbwr:T986 42 = .pure cLnk:=by simp [T986]
theorem zizy:T986 22 = .pure cS15:=by simp [T986]
theorem zw5v:T986 43 = .pure cAdS:=by simp [T986]
theorem ztdv:T986.Sound P:=z0rp znod (z0rp z1by (z0rp zrpw (z0rp zr85 zr5o)))
theorem zj9n {s:Spc} {x:Att}:zvnk [.str [],.nils,.nils,.nils,.nils] [(0,3,.agg (lkC ⟨s.name,x.rc.m,x.rc.p⟩))]=some (.agg (agC (newA s x))):=rfl
theorem zdt4 {s:Spc} {x:Att}:oneC 1 false ((agC (newA s x)).drop 3)=some .nils:=rfl
theorem z9ni {A:Agr} {w:Str} {h:List AObj} {id:Nat}:zy6o h id 1 3 ((addS A.owners w).dv 1 stC) (some (agC A))=some (.junk,h.set id (.cells (agC (addO A w)))):=by
 rw [storeO_1 (zfr8 _) (z4ja _) (by rw [znh2]; decide)]; rfl
structure CR where
 p:List AObj
 i:Nat
structure CRok (s:Spc) (E:Sl Att) (B:Sl Str) (a:CR):Prop where
 i:a.i≤E.l.length
 p : ∃ p',a.p = .cells (spC s)::p'
 b : ∀ n,zlf2 n a.p=true
def S986 (s:Spc) (E:Sl Att) (B:Sl Str) (a:CR):St:=z91a (E.dv 9 atC) (.mp 0 7 0) (B.dv 1 stC) (oV a.p.length 5 (outA s B.l (E.l.take a.i))) (.int .i64 a.i) (a.p++oT agC (outA s B.l (E.l.take a.i)))
def S987 (E:Sl Att) (B:Sl Str) (i:Nat) (pre:List AObj) (C:List Agr) (L:Lnk) (k:Nat):St:=z6xj (E.dv 9 atC) (.mp 0 7 0) (B.dv 1 stC) (oV pre.length 5 C) (.int .i64 i) (.mp (pre.length+1) 3 0) (.int .i64 k) (pre++[.cells (fl agC C),.cells (lkC L)])
theorem z6b7 {s:Spc} {E:Sl Att} {B:Sl Str} {n:Nat} (hn:E.l.length=n) (hl:n≤100) (a:CR) (ha:CRok s E B a) {Φ:AExit→St→Prop}
  (hexit : ∀ p':List AObj,(∀ n,zlf2 n (.cells (spC s)::p')=true)→Φ (.exit 0) ⟨[.junk,.junk,.mp 0 7 0,.junk,.junk,.junk,B.dv 1 stC,oV (AObj.cells (spC s)::p').length 5 (outA s B.l E.l)]++js 73,(.cells (spC s)::p')++oT agC (outA s B.l E.l)⟩)
  (hw : ∀ st st',Weak 0 st st'→Φ (.exit 0) st'→Φ (.exit 0) st) :
  W T986 0 zml0 (z13e 0 (S986 s E B) (fun a=>n-a.i) (CRok s E B) a Φ) (S986 s E B a):=by
 obtain ⟨p,i⟩:=a
 obtain ⟨hi,⟨p',hp'⟩,hb⟩:=ha
 simp only at hi hp' hb
 rw [hn] at hi
 simp only [S986]
 by_cases h:i<n
 case neg =>
  have h':¬ (i:Int)<n:=by omega
  rw [y06 (show E.l.length≤i by omega)]
  subst hp'
  have hx:=hexit p' hb
  simp (disch:=first|omega|simp<;>omega|fail) [-zA,-zB,-zC,-zD,-zE,zml0,z91a,hn,h,h']
  refine hw _ _ (z515 ?_ rfl) hx
  simp (disch:=first|omega|simp<;>omega|fail) [-zA,-zB,-zC,-zD,-zE]
 have h':(i:Int)<n:=by omega
 have hg : ∀ H,zpsc H 9 (E.dv 9 atC) i=some (.ref (atC E.l[i])):=fun H=>zalo zu2q (by omega)
 have hnx:outA s B.l (E.l.take (i+1))=if decide (E.l[i].own ∈ B.l) then outA s B.l (E.l.take i) else addR s E.l[i] (outA s B.l (E.l.take i)):=by rw [y02 (by omega),zbfq]
 obtain ⟨x,hx⟩ : ∃ x,E.l[i]=x:=⟨_,rfl⟩
 rw [hx] at hg hnx
 have hCok:=zvrq (s:=s) (bad:=B.l) (L:=E.l.take i) (by rw [y07]; omega)
 have hTl:(E.l.take i).length=i:=by rw [y07]; omega
 rw [hTl] at hCok
 obtain ⟨C,hC⟩ : ∃ C,outA s B.l (E.l.take i)=C:=⟨_,rfl⟩
 rw [hC] at hnx hCok ⊢
 have hO0 : ∀ R,objV (p++R) 0 7=some (spC s):=fun R=>by rw [hp']; simp [objV,ziu0]
 have k1:=z299 (x:=B) (v:=x.own)
 have k2:=zcrp (r:=x.rc)
 have hp1:1≤p.length:=by rw [hp']; simp
 cases hbad:decide (x.own ∈ B.l) with
 | true =>
  rw [hbad] at k1 hnx
  rw [if_pos rfl] at hnx
  simp (disch:=first|omega|simp<;>omega|fail) [-zA,-zB,-zC,-zD,-zE,zml0,z91a,hn,h,h',hg,zkpj,zcpx,k1]
  exact ⟨⟨p,i+1⟩,z515 (by simp (disch:=first|omega|simp<;>omega|fail) [-zA,-zB,-zC,-zD,-zE,S986,z91a,hnx]) (by simp only [S986,z91a,hnx]),by simp only; omega,⟨by simp only; omega,⟨p',hp'⟩,hb⟩⟩
 | false =>
  rw [hbad] at k1 hnx
  rw [if_neg (by simp)] at hnx
  by_cases hCe:C=[]
  ·subst hCe
   simp (disch:=first|omega|simp<;>omega|fail) [-zA,-zB,-zC,-zD,-zE,zml0,z91a,hn,h,h',hg,zkpj,zo7q,zcpx,zbwr,k1,k2,zl8p,zkrk]
   have hr0:addR s x []=[addO (newA s x) x.own]:=rfl
   rw [hr0] at hnx
   have hno:(newA s x).owners.dv 1 stC = .nils:=rfl
   obtain ⟨A,hA⟩ : ∃ A,addO (newA s x) x.own=A:=⟨_,rfl⟩
   rw [hA] at hnx
   have k3:=ztag (x:=nilS) (w:=x.own) (by simp [zb11])
   rw [z68u] at k3
   obtain ⟨X,hX⟩ : ∃ X,AObj.cells (lkC ⟨s.name,x.rc.m,x.rc.p⟩)=X:=⟨_,rfl⟩
   have hXb : ∀ m,zlf2 m (p++[X])=true:=fun m=>zebc (hb m) (by rw [← hX]; simp only [zlf2,zlpm,y0g])
   have hap:=zsuq (h:=p++[X]) (s:=5) (b:=112) (m:=1) (cs:=agC (newA s x)) (by decide) (by decide) (by rw [znh2]) (by decide) (by decide)
   simp only [znh2,y01,y03,y0q,y04,y00] at hap
   have hst : ∀ H:List AObj,zy6o H p.length 1 0 (.str s.name) (some (lkC (lnkR x.rc)))=some (.junk,H.set p.length X):=fun H=>by rw [zsf0,← hX]; rfl
   have hst2 : ∀ H:List AObj,zy6o H (p.length+1) 1 3 ((addS nilS x.own).dv 1 stC) (some (agC (newA s x)))=some (.junk,H.set (p.length+1) (.cells (agC A))):=fun H=>by rw [← hA]; exact z9ni (A:=newA s x) (w:=x.own)
   have hoX : ∀ R,objV (p++X::R) p.length 3=some (lkC ⟨s.name,x.rc.m,x.rc.p⟩):=fun R=>by rw [zjj2,← hX,z1zn,if_pos (z9tw _)]
   refine zlm5 (fun _:Unit=>z6xj (E.dv 9 atC) (.mp 0 7 0) (B.dv 1 stC) .nils (.int .i64 i) (.mp p.length 3 0) (.int .i64 0) (p++[.cells (lkC (lnkR x.rc))])) (fun _=>0) (fun _=>True) () (z515 (by simp (disch:=first|omega|simp<;>omega|fail) [-zA,-zB,-zC,-zD,-zE,z6xj]) (by simp (disch:=first|omega|simp<;>omega|fail) [-zA,-zB,-zC,-zD,-zE,z6xj])) trivial (fun _ _ => ?_)
   simp (disch:=first|omega|simp<;>omega|fail) [-zA,-zB,-zC,-zD,-zE,zrap,z6xj,hO0,zwo7,zjj2,z1zn,hst,zxft,hoX,zrer,zj9n,zxuz,hap,zrpz,z6rf,zdt4,hg,zkpj,zw5v,hno,k3,hst2]
   refine ⟨⟨p++[X],i+1⟩,z515 (by simp (disch:=first|omega|simp<;>omega|fail) [-zA,-zB,-zC,-zD,-zE,S986,z91a,hnx,zpni]) (by simp (disch:=first|omega|simp<;>omega|fail) [-zA,-zB,-zC,-zD,-zE,S986,z91a,hnx,zu2l,z4hs]),by simp only; omega,⟨by simp only; omega,⟨p'++[X],by simp only; rw [hp']; rfl⟩,hXb⟩⟩
  ·obtain ⟨c,hc⟩ : ∃ c,C.length=c:=⟨_,rfl⟩
   have hc0:1≤c:=by rw [← hc]; exact y0w.2 hCe
   have hc1:c≤1000:=by have:=hCok.1; omega
   obtain ⟨L,hL⟩ : ∃ L,lnkR x.rc=L:=⟨_,rfl⟩
   rw [hL] at k2
   have eV:oV p.length 5 C = .ms p.length (c*5) 0 5 c (c*5):=by rw [zpni hCe,hc]
   obtain ⟨G,hG⟩ : ∃ G,fl agC C=G:=⟨_,rfl⟩
   have hGl:G.length=c*5:=by rw [← hG,z8lx znh2,hc]
   have eT:oT agC C=[.cells G]:=by rw [zu2l hCe,hG]
   -- the end of a round
   have fin : ∀ (C2:List Agr) (Y:AObj) (t:List DV),outA s B.l (E.l.take (i+1))=C2→C2≠[]→znqe t (S986 s E B ⟨p,i+1⟩).t → ∃ b:CR,Weak 0 ⟨t,p++[.cells (fl agC C2),Y]⟩ (S986 s E B b)∧n-b.i<n-i∧CRok s E B b:=fun C2 Y t h1 h2 h3=>by
    refine ⟨⟨p,i+1⟩,?_,by simp only; omega,⟨by simp only; omega,⟨p',hp'⟩,hb⟩⟩
    have eS:S986 s E B ⟨p,i+1⟩=z91a (E.dv 9 atC) (.mp 0 7 0) (B.dv 1 stC) (oV p.length 5 C2) (.int .i64 ((i+1:Nat):Int)) (p++[.cells (fl agC C2)]):=by simp only [S986,h1,zu2l h2]
    rw [eS] at h3 ⊢
    refine zju2 (h:=p++[.cells (fl agC C2),Y]) (h':=p++[.cells (fl agC C2)]) (tail:=[Y]) h3 (by simp) (y0x _) ?_ ?_
    ·rw [zpni h2]
     simp (disch:=first|omega|simp<;>omega|fail) [-zA,-zB,-zC,-zD,-zE,z91a,belowL,Am.below,z8b8 _ _ (zu1r E),z8b8 _ _ (zfuu B)]
    ·exact zebc (hb _) (by simp only [zlf2,fl,zmq5 _ _ (zp6k z1u0 C2),y0g])
   rw [eV,eT]
   simp (disch:=first|omega|simp<;>omega|fail) [-zA,-zB,-zC,-zD,-zE,zml0,z91a,hn,h,h',hg,zkpj,zo7q,zcpx,zbwr,k1,k2,hL,zrpz,z1zn,z6rf]
   refine zlm5 (S987 E B i p C L) (fun k=>c-k) (fun k=>k≤c ∧ ∀ j (h:j<C.length),j<k→zxyz C[j].lnk L=false) 0 (z515 (by simp (disch:=first|omega|simp<;>omega|fail) [-zA,-zB,-zC,-zD,-zE,S987,z6xj,eV]) (by simp (disch:=first|omega|simp<;>omega|fail) [-zA,-zB,-zC,-zD,-zE,S987,z6xj,hG])) ⟨by omega,fun j _ hj=>by omega⟩ (fun k hk => ?_)
   obtain ⟨q1,q2⟩:=hk
   simp only [S987]
   rw [eV,hG]
   by_cases q:k<c
   case neg =>
    have q':¬ (k:Int)<c:=by omega
    have ek:k=c:=by omega
    subst ek
    have hadd:addR s x C=C++[addO (newA s x) x.own]:=zdmn fun j hj=>by rw [hL]; exact q2 j hj (by omega)
    rw [hadd] at hnx
    have hLm:L.m=x.rc.m:=by rw [← hL]; rfl
    have hLp:L.p=x.rc.p:=by rw [← hL]; rfl
    have hno:(newA s x).owners.dv 1 stC = .nils:=rfl
    have k3:=ztag (x:=nilS) (w:=x.own) (by simp [zb11])
    rw [z68u] at k3
    obtain ⟨X,hX⟩ : ∃ X,AObj.cells (lkC ⟨s.name,x.rc.m,x.rc.p⟩)=X:=⟨_,rfl⟩
    have hst : ∀ H:List AObj,zy6o H (p.length+1) 1 0 (.str s.name) (some (lkC L))=some (.junk,H.set (p.length+1) X):=fun H=>by rw [zsf0,← hX,hLm,hLp]
    have hoX : ∀ a,objV (p++[a,X]) (p.length+1) 3=some (lkC ⟨s.name,x.rc.m,x.rc.p⟩):=fun a=>by rw [zrpz,← hX,z1zn,if_pos (z9tw _)]
    have hap:=zkg3 (f:=agC) (K:=5) (h:=p++[.cells G,X]) (id:=p.length) (b:=112) (l:=C) (x:=newA s x) znh2 (by decide) (by decide) (fun _=>z892) (by omega) (by rw [zjj2,z1zn,hc,if_pos hGl,hG])
    rw [hc,zxft] at hap
    simp only [List.set_cons_zero] at hap
    obtain ⟨C1,hC1⟩ : ∃ C1,C++[newA s x]=C1:=⟨_,rfl⟩
    have hC1l:C1.length=k+1:=by rw [← hC1]; simp; exact hc
    have hC1k : ∀ h:k<C1.length,C1[k]=newA s x:=fun h=>by subst hC1; simp [← hc]
    rw [hC1] at hap
    obtain ⟨G1,hG1⟩ : ∃ G1,fl agC C1=G1:=⟨_,rfl⟩
    have hG1l:G1.length=(k+1)*5:=by rw [← hG1,z8lx znh2,hC1l]
    have ho1:=zroz (C:=C1) (k:=k) (by omega)
    rw [hC1k,hno,hG1] at ho1
    have hst2 : ∀ H:List AObj,zy6o H p.length 1 (k*5+3) ((addS nilS x.own).dv 1 stC) (some G1)=some (.junk,H.set p.length (.cells (fl agC (C++[addO (newA s x) x.own])))):=fun H=>by
     have:=z3se (C:=C1) (k:=k) (by omega) (w:=x.own) (h:=H) (id:=p.length)
     rw [hC1k,hG1] at this
     rw [show (addS nilS x.own)=addS (newA s x).owners x.own from rfl,this,← hC1,← hc,y0t _ _ (y08 _),y19]; rfl
    rw [hG1] at hap
    simp (disch:=first|omega|simp<;>omega|fail) [-zA,-zB,-zC,-zD,-zE,zrap,z6xj,hGl,q,q',hO0,zwo7,zjj2,z1zn,zrpz,hst,zxft,z6rf,hoX,zrer,zj9n,zxuz,hap,hG1l,ho1,hg,zkpj,zw5v,k3,hst2]
    refine fin (C++[addO (newA s x) x.own]) X _ hnx (by simp) ?_
    simp (disch:=first|omega|simp<;>omega|fail) [-zA,-zB,-zC,-zD,-zE,S986,z91a,hnx,zpni,hc]
   have q':(k:Int)<c:=by omega
   have hkl:k<C.length:=by omega
   have o1:=z4ow hkl
   have o2:=zroz hkl
   rw [hG] at o1 o2
   have kS:=z3rl (a:=C[k].lnk) (b:=L)
   have hix : ∀ R,zpsc (p ++ .cells G::R) 5 (.ms p.length (c*5) 0 5 c (c*5)) (k:Int)=some (.mp p.length (c*5) (k*5)):=fun R=>by
    simp (disch:=first|omega|simp<;>omega|fail) [-zA,-zB,-zC,-zD,-zE,q,q',zjj2,z1zn,hGl]
   cases hsm:zxyz C[k].lnk L with
   | false =>
    rw [hsm] at kS
    simp (disch:=first|omega|simp<;>omega|fail) [-zA,-zB,-zC,-zD,-zE,zrap,z6xj,hGl,q,q',zjj2,z1zn,zrpz,zrer,o1,zizy,kS]
    refine ⟨k+1,z515 (by simp (disch:=first|omega|simp<;>omega|fail) [-zA,-zB,-zC,-zD,-zE,S987,z6xj,eV]) (by simp (disch:=first|omega|simp<;>omega|fail) [-zA,-zB,-zC,-zD,-zE,S987,z6xj,hG]),by omega,by omega,fun j hj hji => ?_⟩
    by_cases ej:j=k
    ·subst ej; exact hsm
    ·exact q2 j (by omega) (by omega)
   | true =>
    rw [hsm] at kS
    have hadd:addR s x C=C.set k (addO C[k] x.own):=zpsu hkl (fun j hj hji=>by rw [hL]; exact q2 j hj hji) (by rw [hL]; exact hsm)
    rw [hadd] at hnx
    have k3:=ztag (x:=C[k].owners) (w:=x.own) (by have:=(hCok.2 _ (y0l hkl)).1; omega)
    have hst2 : ∀ H:List AObj,zy6o H p.length 1 (k*5+3) ((addS C[k].owners x.own).dv 1 stC) (some G)=some (.junk,H.set p.length (.cells (fl agC (C.set k (addO C[k] x.own))))):=fun H=>by rw [← hG]; exact z3se hkl
    have hek:¬ k=c:=by omega
    have hek':¬ (k:Int)=c:=by omega
    simp (disch:=first|omega|simp<;>omega|fail) [-zA,-zB,-zC,-zD,-zE,zrap,z6xj,hGl,q,q',zjj2,z1zn,zrpz,zrer,o1,zizy,kS,hek,hek',o2,hg,zkpj,zw5v,k3,hst2,zxft]
    refine fin (C.set k (addO C[k] x.own)) (.cells (lkC L)) _ hnx (by simpa using hCe) ?_
    simp (disch:=first|omega|simp<;>omega|fail) [-zA,-zB,-zC,-zD,-zE,S986,z91a,hnx,zpni,hc,hCe]
end
section
set_option linter.unusedSimpArgs false
set_option linter.unusedVariables false
open Go Go.Am
def badR (s:Spc) (l:List Att):Sl Str:=za3e (eqLs Vot.own vKey [] ((eliR s l).map vtR))
def outB (s:Spc) (l:List Att):List Agr:=outA s (badR s l).l (eliR s l)
def cmpB (s:Spc) (l:List Att):List Agr:=zgsx befA (outB s l)
theorem z9f9 {s:Spc} {l:List Att} (h:l.length≤100):(outB s l).length≤100 ∧ ∀ a ∈ outB s l,a.owners.l.length≤100∧a.owners.l≠[]:=by
 have h1:=zvie s l
 have h2:=zvrq (s:=s) (bad:=(badR s l).l) (L:=eliR s l) (by omega)
 exact ⟨by have:=h2.1; unfold outB; omega,fun a ha=>⟨by have:=(h2.2 a ha).1; omega,(h2.2 a ha).2⟩⟩
noncomputable def T988:Tbl:=addT 11 (.pure cElR) (addT 41 (.pure cEqv) (addT 44 (.pure cOrd) tbl0))
theorem z9ba:T988 11 = .pure cElR:=by simp [T988]
theorem zwzt:T988 41 = .pure cEqv:=by simp [T988]
theorem ziuo:T988 44 = .pure cOrd:=by simp [T988]
theorem z4bc:T988.Sound P:=z0rp zh5w (z0rp zgo0 (z0rp zqxw zr5o))
theorem zfqx (s:Spc) (l:Sl Att) (hl:l.l.length≤100):V P 0 a13.code (retK a13.res (.tup [(ownN (cmpB s l.l)).dv 5 agC,(badR s l.l).dv 1 stC])) ⟨zr5g a13.ntmps [.agg (spC s),l.dv 9 atC],[]⟩:=by
 have hE:=zvie s l.l
 have k1:=z9wx (s:=s) (l:=l) (by omega)
 have hEl:(ownN (eliR s l.l)).l=eliR s l.l:=zd8n (by omega)
 have k2:=za53 (l:=ownN (eliR s l.l)) (by rw [hEl]; omega)
 rw [hEl] at k2
 have hB:za3e (eqLs Vot.own vKey [] ((eliR s l.l).map vtR))=badR s l.l:=rfl
 rw [hB] at k2
 have hO:outA s (badR s l.l).l (eliR s l.l)=outB s l.l:=rfl
 have hC:zgsx befA (outB s l.l)=cmpB s l.l:=rfl
 have hOk:=z9f9 (s:=s) hl
 obtain ⟨E,hEE⟩ : ∃ E,ownN (eliR s l.l)=E:=⟨_,rfl⟩
 rw [hEE] at k1 k2 hEl
 rw [← hEl] at hO
 obtain ⟨B,hBB⟩ : ∃ B,badR s l.l=B:=⟨_,rfl⟩
 rw [hBB] at k2 hO ⊢
 obtain ⟨O,hOO⟩ : ∃ O,outB s l.l=O:=⟨_,rfl⟩
 rw [hOO] at hO hC hOk
 rw [← hC]
 have hOl:(ownN O).l=O:=zd8n (by have:=hOk.1; omega)
 have k3:=zqnd (l:=ownN O) (by rw [hOl]; have:=hOk.1; omega) (by rw [hOl]; exact fun a ha=>(hOk.2 a ha).2)
 rw [hOl] at k3
 refine zbn1 (V_W mix z4bc ?_)
 simp (disch:=first|omega|simp<;>omega|fail) [-zA,-zB,-zC,-zD,-zE,a13]
 refine zbn1 (V_W mix z4bc ?_)
 simp (disch:=first|omega|simp<;>omega|fail) [-zA,-zB,-zC,-zD,-zE,z8s9,z9ba,k1,zu1r]
 refine zbn1 (V_W mix z4bc ?_)
 simp (disch:=first|omega|simp<;>omega|fail) [-zA,-zB,-zC,-zD,-zE,zwzt,k2,zu1r]
 refine zbn1 (V_W mix z4bc ?_)
 simp (disch:=first|omega|simp<;>omega|fail) [-zA,-zB,-zC,-zD,-zE]
 refine zbn1 (zbn1 (V_W mix z4bc ?_))
 simp (disch:=first|omega|simp<;>omega|fail) [-zA,-zB,-zC,-zD,-zE]
 refine z3mo (ztbr (S986 s E B) (fun a=>E.l.length-a.i) (CRok s E B) ⟨[.cells (spC s)],0⟩ (z515 (by simp (disch:=first|omega|simp<;>omega|fail) [-zA,-zB,-zC,-zD,-zE,S986,z91a,outA,zl8p]) (by simp (disch:=first|omega|simp<;>omega|fail) [-zA,-zB,-zC,-zD,-zE,S986,z91a,outA,zkrk])) ⟨y0x _,⟨[],rfl⟩,fun n=>by simp only [zlf2,z2i6,y0g]⟩ (fun a ha=>V_W mix ztdv (z6b7 rfl (by rw [hEl]; omega) a ha ?_ ?_)))
 ·intro p' hb
  rw [z233,zd2q,hO]
  have hmk:=z2a4 (f:=agC) (K:=5) (k:=(AObj.cells (spC s)::p').length) (n:=(AObj.cells (spC s)::p').length) (l:=O) (h := .cells (spC s)::p') (r:=[]) rfl (y08 _) znh2 z1u0 (by have:=hOk.1; omega)
  rw [y05] at hmk
  refine z0em (t':=js 6++[B.dv 1 stC,(ownN O).dv 5 agC]++js 73) (hb _) (y0x _) ?_ (by simp (disch:=first|omega|simp<;>omega|fail) [-zA,-zB,-zC,-zD,-zE,belowL,Am.below,z8b8 _ _ (zfuu B),z8b8 _ _ (z165 (ownN O))]) ?_
  ·have e4 : ∀ K h,mk1 K h (B.dv 1 stC)=B.dv 1 stC:=fun K h=>zvft (zfuu B)
   generalize (AObj.cells (spC s)::p').length=N at hmk ⊢
   simp only [y04] at hmk
   simp (disch:=first|omega|simp<;>omega|fail) [-zA,-zB,-zC,-zD,-zE,e4,hmk,-z1bt]
  have hs1 : ∀ H,snap H 3 ((ownN (zgsx befA O)).dv 5 agC)=some ((ownN (zgsx befA O)).dv 5 agC):=fun H=>z6nl (z165 _)
  have hs2 : ∀ H,snap H 3 (B.dv 1 stC)=some (B.dv 1 stC):=fun H=>z6nl (zfuu _)
  refine zbn1 (V_W mix z4bc ?_)
  simp (disch:=first|omega|simp<;>omega|fail) [-zA,-zB,-zC,-zD,-zE,ziuo,k3,z165]
  refine V_W mix z4bc ?_
  simp (disch:=first|omega|simp<;>omega|fail) [-zA,-zB,-zC,-zD,-zE,hs1,hs2]
 ·intro st st' hw' h
  rw [z233,zd2q] at h ⊢
  exact zqfd hw' h
noncomputable def cCrp:List DV→Option DV:=con (fun a:Spc × Sl Att=>a.2.l.length≤100) (fun a:Spc × Sl Att=>[.agg (spC a.1),a.2.dv 9 atC]) (fun a => .tup [(ownN (cmpB a.1 a.2.l)).dv 5 agC,(badR a.1 a.2.l).dv 1 stC])
theorem zwh1 {s:Spc} {l:Sl Att} (h:l.l.length≤100):cCrp [.agg (spC s),l.dv 9 atC]=some (.tup [(ownN (cmpB s l.l)).dv 5 agC,(badR s l.l).dv 1 stC]) :=
 zzno (A:=fun a:Spc × Sl Att=>a.2.l.length≤100) (f:=fun a:Spc × Sl Att=>[.agg (spC a.1),a.2.dv 9 atC]) (g:=fun a => .tup [(ownN (cmpB a.1 a.2.l)).dv 5 agC,(badR a.1 a.2.l).dv 1 stC]) (fun a b e=>by rw [zg9a e]) (s,l) h
theorem zg77:(Con.pure cCrp).Sound P 13:=z2au fun a h=>znz9 Try.func13 zm5y (zfqx a.1 a.2 h)
def decB (s:Spc) (l:List Att):Agr × Int:=match decR (fun a:Agr=>a.owners.l.length) s.thr (cmpB s l) with
 | .thr=>(agr0,10)
 | .dis=>(agr0,11)
 | .ok a=>(⟨a.lnk,a.owners,badR s l⟩,0)
noncomputable def T989:Tbl:=addT 13 (.pure cCrp) tbl0
theorem zmpg:T989 13 = .pure cCrp:=by simp [T989]
theorem zh8u:T989.Sound P:=z0rp zg77 zr5o
theorem z7zz (s:Spc) (l:Sl Att) (hl:l.l.length≤100):Runs T989 a15 [.agg (spC s),l.dv 9 atC] (.tup [.agg (agC (decB s l.l).1),.int .i64 (decB s l.l).2]):=by
 refine ⟨?_⟩
 have k1:=zwh1 (s:=s) hl
 have hOk:=z9f9 (s:=s) hl
 have hCl:(ownN (cmpB s l.l)).l=cmpB s l.l:=zd8n (by unfold cmpB; rw [z8gt]; have:=hOk.1; omega)
 have hdec:decB s l.l=match decR (fun a:Agr=>a.owners.l.length) s.thr (cmpB s l.l) with
  | .thr=>(agr0,10)
  | .dis=>(agr0,11)
  | .ok a=>(⟨a.lnk,a.owners,badR s l.l⟩,0):=rfl
 have hst : ∀ (y:Agr) (B:Sl Str) (H:List AObj) (id:Nat),zy6o H id 1 4 (B.dv 1 stC) (some (agC y))=some (.junk,H.set id (.cells (agC ⟨y.lnk,y.owners,B⟩))):=fun y B H id=>by
  rw [storeO_1 (zfr8 _) (z4ja _) (by rw [znh2]; decide)]; rfl
 obtain ⟨B,hB⟩ : ∃ B,badR s l.l=B:=⟨_,rfl⟩
 rw [hB] at k1 hdec
 obtain ⟨E,hE⟩ : ∃ E,ownN (cmpB s l.l)=E:=⟨_,rfl⟩
 rw [hE] at k1 hCl
 rw [← hCl] at hdec
 have hlE : ∀ H,lenD H (E.dv 5 agC)=some (.int .i64 E.l.length):=fun H=>zupj
 have hlo : ∀ (a:Agr) H,lenD H (a.owners.dv 1 stC)=some (.int .i64 a.owners.l.length):=fun a H=>zupj
 rcases hEE:E.l with _|⟨y,r⟩
 ·have hd:decB s l.l=(agr0,10):=by rw [hdec,hEE]; rfl
  rw [hEE] at hlE
  rw [hd]
  by_cases ht:s.thr<1
  ·simp (disch:=first|omega|simp<;>omega|fail) [-zA,-zB,-zC,-zD,-zE,a15,z8s9,zmpg,k1,zu1r,z66y,ht,zyss]
   rfl
  ·simp (disch:=first|omega|simp<;>omega|fail) [-zA,-zB,-zC,-zD,-zE,a15,z8s9,zmpg,k1,zu1r,z66y,ht,hlE,zyss]
   rfl
 have hi0 : ∀ H,zpsc H 5 (E.dv 5 agC) 0=some (.ref (agC y)):=fun H=>by
  have:=zalo (h:=H) (x:=E) (i:=0) znh2 (by rw [hEE]; simp)
  rw [show ((0:Nat):Int)=0 from rfl] at this
  rw [this]; simp [hEE]
 have hl0:¬ ((y::r).length:Int)=0:=by simp only [y09]; omega
 by_cases ht:s.thr<1
 ·have hd:decB s l.l=(agr0,10):=by rw [hdec,hEE]; simp [decR,ht]
  rw [hd]
  simp (disch:=first|omega|simp<;>omega|fail) [-zA,-zB,-zC,-zD,-zE,a15,z8s9,zmpg,k1,zu1r,z66y,ht,zyss]
  rfl
 by_cases hy:(y.owners.l.length:Int)<s.thr
 ·have hd:decB s l.l=(agr0,10):=by rw [hdec,hEE]; simp [decR,hy]
  rw [hd]
  rw [hEE] at hlE
  obtain ⟨N,hN⟩ : ∃ N,(y::r).length=N:=⟨_,rfl⟩
  rw [hN] at hlE hl0
  have hl0':N≠0:=by omega
  simp (disch:=first|omega|simp<;>omega|fail) [-zA,-zB,-zC,-zD,-zE,a15,z8s9,zmpg,k1,zu1r,z66y,ht,hlE,hl0,hl0',hi0,zntj,hlo,hy,zyss]
  rfl
 rcases r with _|⟨z,r⟩
 ·have hd:decB s l.l=(⟨y.lnk,y.owners,B⟩,0):=by rw [hdec,hEE]; simp [decR,hy,ht]
  rw [hd]
  rw [hEE] at hlE
  simp (disch:=first|omega|simp<;>omega|fail) [-zA,-zB,-zC,-zD,-zE,a15,z8s9,zmpg,k1,zu1r,z66y,ht,hlE,hi0,zntj,hlo,hy,zd17,hst]
 have hi1 : ∀ H,zpsc H 5 (E.dv 5 agC) 1=some (.ref (agC z)):=fun H=>by
  have:=zalo (h:=H) (x:=E) (i:=1) znh2 (by rw [hEE]; simp)
  rw [show ((1:Nat):Int)=1 from rfl] at this
  rw [this]; simp [hEE]
 have hl1:(1:Int)<((y::z::r).length:Int):=by simp only [y09]; omega
 rw [hEE] at hlE
 by_cases hz:s.thr≤(z.owners.l.length:Int)
 ·have hd:decB s l.l=(agr0,11):=by rw [hdec,hEE]; simp [decR,hy,ht,hz]
  rw [hd]
  obtain ⟨N,hN⟩ : ∃ N,(y::z::r).length=N:=⟨_,rfl⟩
  rw [hN] at hlE hl0 hl1
  have hl0':N≠0:=by omega
  have hl1':1<N:=by omega
  simp (disch:=first|omega|simp<;>omega|fail) [-zA,-zB,-zC,-zD,-zE,a15,z8s9,zmpg,k1,zu1r,z66y,ht,hlE,hl0,hl0',hl1,hl1',hi0,hi1,zntj,hlo,hy,hz,zyss]
  rfl
 ·have hd:decB s l.l=(⟨y.lnk,y.owners,B⟩,0):=by rw [hdec,hEE]; simp [decR,hy,ht,hz]
  rw [hd]
  obtain ⟨N,hN⟩ : ∃ N,(y::z::r).length=N:=⟨_,rfl⟩
  rw [hN] at hlE hl0 hl1
  have hl0':N≠0:=by omega
  have hl1':1<N:=by omega
  simp (disch:=first|omega|simp<;>omega|fail) [-zA,-zB,-zC,-zD,-zE,a15,z8s9,zmpg,k1,zu1r,z66y,ht,hlE,hl0,hl0',hl1,hl1',hi0,hi1,zntj,hlo,hy,hz,zd17,hst]
noncomputable def cDeB:List DV→Option DV:=con (fun a:Spc × Sl Att=>a.2.l.length≤100) (fun a:Spc × Sl Att=>[.agg (spC a.1),a.2.dv 9 atC]) (fun a => .tup [.agg (agC (decB a.1 a.2.l).1),.int .i64 (decB a.1 a.2.l).2])
theorem zaq6 {s:Spc} {l:Sl Att} (h:l.l.length≤100):cDeB [.agg (spC s),l.dv 9 atC]=some (.tup [.agg (agC (decB s l.l).1),.int .i64 (decB s l.l).2]) :=
 zzno (A:=fun a:Spc × Sl Att=>a.2.l.length≤100) (f:=fun a:Spc × Sl Att=>[.agg (spC a.1),a.2.dv 9 atC]) (g:=fun a => .tup [.agg (agC (decB a.1 a.2.l).1),.int .i64 (decB a.1 a.2.l).2]) (fun a b e=>by rw [zg9a e]) (s,l) h
theorem zyei:(Con.pure cDeB).Sound P 15:=z2au fun a h=>zljw mix zh8u Try.func15 zz37 (z7zz a.1 a.2 h)
end
section
set_option linter.unusedSimpArgs false
set_option linter.unusedVariables false
open Go Go.Am
def ok2 (v:Vot):Str × (List Ent × List Ent):=(v.own,vKey v)
theorem zjth {s:Spc} {x:Att}:ok2 (vtS s (z28h x))=ok2 (vtR x):=by
 simp only [ok2,vtS,z28h,vKey,vtR,lnkR,zpzq _ x.rc.m.b,zpzq _ x.rc.p.b]
theorem z117 {s:Spc} {l:List Att}:(votL s l).map ok2=((eliR s l).map vtR).map ok2:=by
 unfold votL eliS eliR
 rw [y1c,y1c,y1c]
 exact List.map_congr_left fun x _=>zjth
theorem zifv {s:Spc} {l:List Att} : ∀ p,p ∈ (votL s l).map (fun v=>(v.own,vKey v))↔p ∈ ((eliR s l).map vtR).map (fun v=>(v.own,vKey v)):=fun p=>by
 have:=z117 (s:=s) (l:=l)
 unfold ok2 at this
 rw [this]
theorem z08r {s:Spc} {x:Att} : ∀ {C:List Agr},(∀ a ∈ C,a.owners.l.length≤1000000)→(addR s x C).map pA=addK vLss (C.map pA) (vKey (vtR x)) x.own
 | [],_=>by
  have h1:(addS nilS x.own).l=addU vLss [] x.own:=by rw [z3dh (by rw [zb11]; simp),zb11]
  simp only [addR,y0b,y18,addK,pA,addO,newA,h1,vKey,vtR,lnkR]
 | c::r,h=>by
  have hc:=h c (by simp)
  have ih:=z08r (s:=s) (x:=x) (C:=r) fun a ha=>h a (by simp [ha])
  have hs:zxyz c.lnk (lnkR x.rc)=decide ((pA c).1=vKey (vtR x)):=zf7y (a:=⟨[],c.lnk⟩) (b:=vtR x)
  rw [addR,y0b,addK,hs]
  by_cases e:(pA c).1=vKey (vtR x)
  ·rw [if_pos (by simpa using e),if_pos e,y0b]
   have h1:(addS c.owners x.own).l=addU vLss c.owners.l x.own:=z3dh hc
   simp only [pA,addO,h1]
  ·rw [if_neg (by simpa using e),if_neg e,y0b,ih]
theorem zsxc {s:Spc} {bad:List Str} {L:List Att} (h:L.length≤1000):(outA s bad L).map pA=(((L.filter fun x => !decide (x.own ∈ bad)).map vtR).foldl (addC vLss Vot.own vKey) []).map (pC vKey):=by
 induction L using z77f with
 | h0=>rfl
 | h1 L x ih =>
  rw [y01,y03] at h
  have ih:=ih (by omega)
  have hok:=(zvrq (s:=s) (bad:=bad) (L:=L) (by omega)).2
  rw [zbfq,y0e]
  cases hb:decide (x.own ∈ bad)
  ·rw [if_neg (by simp),z08r (fun a ha=>by have:=(hok a ha).1; omega),ih]
   simp only [List.filter_cons,hb,Bool.not_false,if_true,List.filter_nil,List.map_append,y0b,y18,List.foldl_append,List.foldl_cons,List.foldl_nil,zhcz]
   rfl
  ·rw [if_pos rfl,ih]
   simp only [List.filter_cons,hb,Bool.not_true,Bool.false_eq_true,if_false,List.filter_nil,y05]
theorem zfo2 {s:Spc} {l:List Att} (h:l.length≤100):(badR s l).l=eqvR vLss Vot.own vKey ((eliR s l).map vtR):=by
 have hE:=zvie s l
 have h1:=z45g (n:=100) (V:=(eliR s l).map vtR) (by rw [y0n]; omega)
 rw [y0n] at h1
 unfold badR eqvR
 rw [z1mc (by omega)]
theorem zuf7 {s:Spc} {l:List Att} (h:l.length≤100):(cmpB s l).map pA=z9dw vLss Vot.own vKey (votL s l):=by
 have hE:=zvie s l
 rw [z5bf z3gj zifv,← zxzu,zwl1 z3gj]
 unfold cmpB cmpR
 rw [zjmx (f:=pA) (b1:=befA) (b2:=befC vLss) (fun _ _=>rfl),zjmx (f:=pC vKey) (b1:=befC vLss) (b2:=befC vLss) (fun _ _=>rfl)]
 congr 1
 unfold outB outR
 rw [zsxc (by omega),zfo2 h,zb3z]
 refine congrArg (fun W:List Att=>List.map (pC vKey) (List.foldl (addC vLss Vot.own vKey) [] (W.map vtR))) (List.filter_congr fun x _ => ?_)
 exact congrArg _ (decide_eq_decide.2 Iff.rfl)
theorem z3xl {s:Spc} {l:List Att} (h:l.length≤100):(zj70 (votL s l)).map pA=(cmpB s l).map pA:=by
 have hV:=zldt s l
 rw [zey4 (by omega),zuf7 h]
theorem z9ww {s:Spc} {l:List Att} (h:l.length≤100):eqv1 (votL s l)=(badR s l).l:=by
 have hV:=zldt s l
 rw [zz7g (by omega),zfo2 h]
 exact z1kn z3gj zifv
theorem zrbq {s:Spc} {x:Att} : ∀ {C:List Agr},(∀ a ∈ C,a.lnk.step=s.name∧a.eqv=nilS) → ∀ a ∈ addR s x C,a.lnk.step=s.name∧a.eqv=nilS
 | [],_,a,ha=>by
  rw [addR,List.mem_singleton] at ha
  subst ha; exact ⟨rfl,rfl⟩
 | c::r,h,a,ha=>by
  rw [addR] at ha
  split at ha
  ·rcases y0h.1 ha with e|ha
   ·subst e; exact h c (by simp)
   ·exact h a (by simp [ha])
  ·rcases y0h.1 ha with e|ha
   ·subst e; exact h a (by simp)
   ·exact zrbq (fun a ha=>h a (by simp [ha])) a ha
theorem zw95 {s:Spc} {bad:List Str} {L:List Att} : ∀ a ∈ outA s bad L,a.lnk.step=s.name∧a.eqv=nilS:=by
 induction L using z77f with
 | h0=>intro a ha; simp [outA] at ha
 | h1 L x ih =>
  rw [zbfq]
  split
  ·exact ih
  ·exact zrbq ih
theorem z0u6 {s:Spc} {l:List Att} : ∀ a ∈ cmpB s l,a.lnk.step=s.name∧a.eqv=nilS:=fun a ha=>zw95 a (zfoq ha)
theorem zgt1 {s:Spc} {l:List Att} (h:l.length≤100) : ∀ a ∈ zj70 (votL s l),a.lnk.step=s.name∧a.eqv=nilS:=fun a ha=>by
 have hV:=zldt s l
 obtain ⟨h1,_,_,h2⟩:=zkqo (V:=votL s l) (by omega) a ha
 refine ⟨?_,h1⟩
 obtain ⟨v,hv,e⟩:=List.mem_map.1 h2
 unfold votL at hv
 obtain ⟨x,hx,rfl⟩:=List.mem_map.1 hv
 rw [← e]; rfl
theorem z2od {a b:Agr} (h1:pA a=pA b) (h2:a.lnk.step=b.lnk.step) (h3:a.eqv.l=b.eqv.l):agEq a b=true:=by
 simp only [pA,Prod.mk.injEq] at h1
 simp [agEq,lkEq,zxyz,h1.1.1,h1.1.2,h1.2,h2,h3]
theorem z4cr : ∀ {C D:List Agr},C.map pA=D.map pA→(∀ a ∈ C,∀ b ∈ D,a.lnk.step=b.lnk.step∧a.eqv.l=b.eqv.l)→eqBy agEq C D=true
 | [],[],_,_=>rfl
 | [],_::_,h,_=>by simp at h
 | _::_,[],h,_=>by simp at h
 | a::C,b::D,h,hs=>by
  simp only [y0b,List.cons.injEq] at h
  have h0:=hs a (by simp) b (by simp)
  rw [eqBy,z2od h.1 h0.1 h0.2,z4cr h.2 fun a ha b hb=>hs a (by simp [ha]) b (by simp [hb])]; rfl
theorem zhu6 {s:Spc} {l:List Att} (h:l.length≤100):eqBy agEq (zj70 (votL s l)) (cmpB s l)=true :=
 z4cr (z3xl h) fun a ha b hb=>by
  have h1:=zgt1 h a ha
  have h2:=z0u6 b hb
  rw [h1.1,h2.1,h1.2,h2.2]; exact ⟨rfl,rfl⟩
theorem z63e {x:Att}:atEq (z28h x) x=true:=by
 have he:eqBy eqD (cpS x.rc.env).l x.rc.env.l=true:=by rw [zpzq _ x.rc.env.b,z3w8]; simp
 simp only [atEq,zcm3,z28h,lkEq,lnkR,zxyz,zpzq _ x.rc.m.b,zpzq _ x.rc.p.b,zpzq _ x.rc.cmd.b,decide_true,y0g,y16,Bool.and_true,he]
theorem zhcu {s:Spc} {l:List Att}:eqBy atEq (eliS s l) (eliR s l)=true:=by
 have:eliR s l=(l.filter (eliP s)).map id:=by rw [List.map_id]; rfl
 rw [this]
 exact zoxo fun x _=>z63e
def lnA (a:Agr):Nat:=a.owners.l.length
def lnK (c:(List Ent × List Ent) × List Str):Nat:=c.2.length
theorem zru2 {s:Spc} {l:List Att} (h:l.length≤100):(decF lnA s.thr (zj70 (votL s l))).map pA=decF lnK s.thr (z9dw vLss Vot.own vKey (votL s l)):=by
 have hV:=zldt s l
 rw [← zey4 (by omega)]
 exact (z6bw (len:=lnA) (len':=lnK) (f:=pA) fun c=>rfl).symm
theorem zf5r {s:Spc} {l:List Att} (h:l.length≤100):(decR lnA s.thr (cmpB s l)).map pA=decF lnK s.thr (z9dw vLss Vot.own vKey (votL s l)):=by
 rw [zyc4 (len:=lnK) (zg8z z3gj _),← zuf7 h]
 exact (z7yd (len:=lnA) (len':=lnK) (f:=pA) fun c=>rfl).symm
theorem z7mj {γ:Type} {len:γ→Nat} {thr:Int} {C:List γ} {c:γ} (h:decF len thr C = .ok c):c ∈ C:=by
 have he : ∀ x,x ∈ enoL len thr C→x ∈ C:=fun x hx=>(List.mem_filter.1 hx).1
 unfold decF at h
 split at h
 ·cases h
 ·split at h
  ·cases h
  ·rename_i a e
   cases h
   exact he _ (by rw [e]; simp)
  ·cases h
theorem zpq4 {γ:Type} {len:γ→Nat} {thr:Int} {C:List γ} {c:γ} (h:decR len thr C = .ok c):c ∈ C:=by
 rcases C with _|⟨a,_|⟨b,r⟩⟩
 ·cases h
 ·simp only [decR] at h
  split at h
  ·cases h
  ·cases h; simp
 ·simp only [decR] at h
  split at h
  ·cases h
  ·split at h
   ·cases h
   ·cases h; simp
theorem zixt {s:Spc} {l:List Att} (h:l.length≤100):agEq (decA s (votL s l)).1 (decB s l).1=true∧(decA s (votL s l)).2=(decB s l).2:=by
 have hV:=zldt s l
 have h1:=(zru2 (s:=s) h).trans (zf5r h).symm
 have a0:agEq agr0 agr0=true:=z2od rfl rfl rfl
 unfold decA decB
 show agEq (match decF lnA s.thr (zj70 (votL s l)) with | .thr=>(agr0,(10:Int)) | .dis=>(agr0,11) | .ok a=>(⟨a.lnk,a.owners,ownN (eqv1 (votL s l))⟩,0)).1 (match decR lnA s.thr (cmpB s l) with | .thr=>(agr0,(10:Int)) | .dis=>(agr0,11) | .ok a=>(⟨a.lnk,a.owners,badR s l⟩,0)).1=true ∧
  (match decF lnA s.thr (zj70 (votL s l)) with | .thr=>(agr0,(10:Int)) | .dis=>(agr0,11) | .ok a=>(⟨a.lnk,a.owners,ownN (eqv1 (votL s l))⟩,0)).2=(match decR lnA s.thr (cmpB s l) with | .thr=>(agr0,(10:Int)) | .dis=>(agr0,11) | .ok a=>(⟨a.lnk,a.owners,badR s l⟩,0)).2
 cases e1:decF lnA s.thr (zj70 (votL s l))<;>cases e2:decR lnA s.thr (cmpB s l)<;>rw [e1,e2] at h1<;>simp only [DRes.map] at h1<;>try cases h1
 ·exact ⟨a0,rfl⟩
 ·exact ⟨a0,rfl⟩
 ·rename_i a b
  have ha:=zgt1 h a (z7mj e1)
  have hb:=z0u6 b (zpq4 e2)
  have hp:pA a=pA b:=by simpa using h1
  have he:=z131 (V:=votL s l) (by omega)
  refine ⟨z2od hp (ha.1.trans hb.1.symm) ?_,rfl⟩
  show (ownN (eqv1 (votL s l))).l=(badR s l).l
  rw [zd8n (by omega),z9ww h]
end
section
set_option linter.unusedSimpArgs false
set_option linter.unusedVariables false
open Go Go.Am
noncomputable def zga7:Tbl:=addT 25 (.tch z1m3) (addT 27 (.tch zqck) tbl0)
theorem zamd:zga7 25 = .tch z1m3:=by simp [zga7]
theorem zqj4:zga7 27 = .tch zqck:=by simp [zga7]
theorem z695:zga7.Sound P:=z0rp z51e (z0rp z3hj zr5o)
theorem z0ff {a b:Str} (h:a.length+b.length≤4611686018427387904):zhl4 .add (.str a) (.str b)=some (.str (a++b)):=by simp [zhl4,zdnj,h]
theorem zq04 (t:Tp):(zzh5 t nmA).length≤3:=by
 have:=zqrp t (l:=nmA) (by decide)
 generalize zzh5 t nmA=x at this ⊢
 simp only [nmA,y0h,List.not_mem_nil,or_false] at this
 rcases this with e|e|e|e|e<;>subst e<;>decide
theorem z2ex (t:Tp):(zzh5 t nmB).length≤3:=by
 have:=zqrp t (l:=nmB) (by decide)
 generalize zzh5 t nmB=x at this ⊢
 simp only [nmB,y0h,List.not_mem_nil,or_false] at this
 rcases this with e|e|e|e|e|e<;>subst e<;>decide
structure PL where
 k:Nat
 t:Tp
 s:Str
def zdph (a:PL):St:=zd78 (.mp 0 2 0) (.str a.s) (.int .i64 a.k) [.cells (tpC a.t)]
theorem zqqw (t:Tp) (ht:t.at_<3900000000):RunsF zga7 a68 [.mp 0 2 0] [.cells (tpC t)] (.str (zczq t)) [.cells (tpC (zvs1 t))]:=by
 refine ⟨?_⟩
 have n1:=z89h t
 have n2:=z9sd t
 obtain ⟨R,hR⟩ : ∃ R,pthL (zf1o t) (t.adv 1) []=R:=⟨_,rfl⟩
 have hv:zczq t=R.1++zzh5 R.2 nmB:=by unfold zczq; rw [hR]
 have hT:zvs1 t=R.2.adv 1:=by unfold zvs1; rw [hR]
 obtain ⟨N,hN⟩ : ∃ N,zf1o t=N:=⟨_,rfl⟩
 rw [hN] at n1 n2 hR
 rw [hv,hT]
 simp (disch:=first|omega|simp<;>omega|fail) [-zA,-zB,-zC,-zD,-zE,a68,zamd,z44h,n1]
 refine zlm5 zdph (fun a=>a.k) (fun a=>pthL a.k a.t a.s=R∧a.t.at_+a.k<3950000000∧a.s.length+4*a.k≤100) ⟨N,t.adv 1,[]⟩ (z515 (by simp (disch:=first|omega|simp<;>omega|fail) [-zA,-zB,-zC,-zD,-zE,zdph,zd78]) (by simp (disch:=first|omega|simp<;>omega|fail) [-zA,-zB,-zC,-zD,-zE,zdph,zd78])) ⟨hR,by simp only [zpza]; omega,by simp only [y0f]; omega⟩ (fun a ha => ?_)
 obtain ⟨k,u,s⟩:=a
 obtain ⟨r1,r2,r3⟩:=ha
 simp only at r1 r2 r3
 simp only [zdph]
 by_cases hk:0<k
 ·obtain ⟨k,rfl⟩ : ∃ k',k=k'+1:=⟨k-1,by omega⟩
  have hk':(0:Int)<((k+1:Nat):Int):=by omega
  have hp:zqck [.sl true 1 5 [.str [97],.str [98],.str [115,114,99],.str [111,117,116],.str [108,105,98]]] (tpC u)=some (.str (zzh5 u nmA),tpC (u.adv 1)):=ze0z (l:=nmA) (by omega) (by decide) (by decide)
  have b1:=zq04 u
  have b2:zhl4 .add (.str s) (.str (zzh5 u nmA))=some (.str (s++zzh5 u nmA)):=z0ff (by omega)
  have b3:zhl4 .add (.str (s++zzh5 u nmA)) (.str [47])=some (.str (s++zzh5 u nmA++[47])):=z0ff (by simp; omega)
  simp (disch:=first|omega|simp<;>omega|fail) [-zA,-zB,-zC,-zD,-zE,z0bm,zd78,zqj4,hp,b2,b3]
  exact ⟨⟨k,u.adv 1,s++zzh5 u nmA++[47]⟩,z515 (by simp (disch:=first|omega|simp<;>omega|fail) [-zA,-zB,-zC,-zD,-zE,zdph,zd78]) (by simp (disch:=first|omega|simp<;>omega|fail) [-zA,-zB,-zC,-zD,-zE,zdph,zd78]),by simp only; omega,r1,by simp only [zpza]; omega,by simp only [y01,y03]; omega⟩
 ·obtain rfl:k=0:=by omega
  have e:R=(s,u):=r1.symm
  subst e
  have hp:zqck [.sl true 1 6 [.str [97],.str [98],.str [97,46,99],.str [98,46,104],.str [120],.str [111,117,116]]] (tpC u)=some (.str (zzh5 u nmB),tpC (u.adv 1)):=ze0z (l:=nmB) (by omega) (by decide) (by decide)
  have hfz : ∀ k,fzL 1 k (tpC (u.adv 1)) (tpC (u.adv 1)):=fun k=>znnb (zs7w _)
  have b1:=z2ex u
  have b2:zhl4 .add (.str s) (.str (zzh5 u nmB))=some (.str (s++zzh5 u nmB)):=z0ff (by omega)
  simp (disch:=first|omega|simp<;>omega|fail) [-zA,-zB,-zC,-zD,-zE,z0bm,zd78,zqj4,hp,hfz,b2]
noncomputable def zu0i:List DV→List DV→Option (DV × List DV):=conT (fun a:Tp=>a.at_<3900000000) (fun a=>[]) tpC (fun a=>(.str (zczq a),tpC (zvs1 a)))
theorem zi9c {t:Tp} (h:t.at_<3900000000):zu0i [] (tpC t)=some (.str (zczq t),tpC (zvs1 t)) :=
 ztyo (A:=fun a:Tp=>a.at_<3900000000) (f:=fun a=>[]) (s:=tpC) (fun a b _ e=>by rw [z15z e]) t h
theorem zndi:(Con.tch zu0i).Sound P 68 :=
 z0tq (fun a _=>⟨rfl,zs7w _,rfl,zs7w _⟩) fun a h=>zizi mix z695 Try.func68 z20i (zqqw a h) (y08 _)
theorem zdny {x:Ent}:bslD 33 1 [.str [],w8 0#8,w8 0#8,w8 0#8,w8 0#8,w8 0#8,w8 0#8,w8 0#8,w8 0#8,w8 0#8,w8 0#8,w8 0#8,w8 0#8,w8 0#8,w8 0#8,w8 0#8,w8 0#8,w8 0#8,w8 0#8,w8 0#8,w8 0#8,w8 0#8,w8 0#8,w8 0#8,w8 0#8,w8 0#8,w8 0#8,w8 0#8,w8 0#8,w8 0#8,w8 0#8,w8 0#8,w8 0#8] [(0,33,.agg (enC x))]=some (.sl true 33 1 (enC x)):=by
 have h1:=zuso x
 simp [bslD,zi03,zk7y,reps,h1,y0r]
theorem zdo5 {L:List Ent} {i:Nat} (hi:i<L.length):oneC 1 false ((fl enC L).drop (i*33))=some (.str L[i].path):=by
 rw [fl,zkb2 zuso,y0a hi,y0d]; rfl
theorem zpju {l:List Ent} {x y:Ent}:putF (l++[y]) x=putF l x++(if y.path=x.path then [] else [y]):=by
 unfold putF
 rw [y0e]
 by_cases h:y.path=x.path<;>simp [h]
def zyte (s:Sl Ent) (x:Ent) (i:Nat):St:=zbq4 (s.dv 33 enC) (.mp 0 33 0) (oV 1 33 (putF (s.l.take i) x)) (.int .i64 i) (.cells (enC x)::oT enC (putF (s.l.take i) x))
def z525 (n:Nat) (x:Ent) (a:IPg Ent):St:=z8vo (.ms 1 (n*33) 0 33 n (n*33)) (.int .i64 a.A.length) [.cells (enC x),.cells (fl enC (a.A++x::a.B))]
theorem zet6 (s:Sl Ent) (x:Ent) (hs:s.l.length≤1000):Runs tbl0 a67 [s.dv 33 enC,.agg (enC x)] ((own (putV s.l x)).dv 33 enC):=by
 refine ⟨?_⟩
 obtain ⟨N,hN⟩ : ∃ N,s.l.length=N:=⟨_,rfl⟩
 rw [hN] at hs
 simp (disch:=first|omega|simp<;>omega|fail) [-zA,-zB,-zC,-zD,-zE,a67]
 refine zlm5 (zyte s x) (fun i=>N-i) (fun i=>i≤N) 0 (z515 (by simp (disch:=first|omega|simp<;>omega|fail) [-zA,-zB,-zC,-zD,-zE,zyte,zbq4,putF,zl8p]) (by simp (disch:=first|omega|simp<;>omega|fail) [-zA,-zB,-zC,-zD,-zE,zyte,zbq4,putF,zkrk])) (by omega) (fun i hi => ?_)
 simp only [zyte]
 by_cases h:i<N
 ·have h':(i:Int)<N:=by omega
  have hg : ∀ H,zpsc H 33 (s.dv 33 enC) i=some (.ref (enC s.l[i])):=fun H=>zalo zuso (by omega)
  have hnx:putF (s.l.take (i+1)) x=putF (s.l.take i) x++(if s.l[i].path=x.path then [] else [s.l[i]]):=by rw [y02 (by omega),zpju]
  have hfl:=zk1d (s.l.take i) x
  rw [y07] at hfl
  obtain ⟨y,hy⟩ : ∃ y,s.l[i]=y:=⟨_,rfl⟩
  rw [hy] at hg hnx
  obtain ⟨F,hF⟩ : ∃ F,putF (s.l.take i) x=F:=⟨_,rfl⟩
  rw [hF] at hnx hfl ⊢
  have hap:=zte0 (f:=enC) (k:=1) (b:=48) (l:=F) (x:=y) (h:=[AObj.cells (enC x)]) rfl zuso (by decide) (by decide) (fun _=>zo6u) (by omega)
  simp only [y04,y00] at hap
  by_cases e:y.path=x.path
  ·rw [if_pos e,y05] at hnx
   simp (disch:=first|omega|simp<;>omega|fail) [-zA,-zB,-zC,-zD,-zE,zfle,zbq4,hN,h,h',hg,z5fr,e]
   exact ⟨i+1,z515 (by simp (disch:=first|omega|simp<;>omega|fail) [-zA,-zB,-zC,-zD,-zE,zyte,zbq4,hnx]) (by simp (disch:=first|omega|simp<;>omega|fail) [-zA,-zB,-zC,-zD,-zE,zyte,zbq4,hnx]),by omega,by omega⟩
  ·rw [if_neg e] at hnx
   simp (disch:=first|omega|simp<;>omega|fail) [-zA,-zB,-zC,-zD,-zE,zfle,zbq4,hN,h,h',hg,z5fr,e,z6p9,zdny,hap]
   exact ⟨i+1,z515 (by simp (disch:=first|omega|simp<;>omega|fail) [-zA,-zB,-zC,-zD,-zE,zyte,zbq4,hnx]) (by simp (disch:=first|omega|simp<;>omega|fail) [-zA,-zB,-zC,-zD,-zE,zyte,zbq4,hnx]),by omega,by omega⟩
 have h':¬ (i:Int)<N:=by omega
 rw [y06 (show s.l.length≤i by omega)]
 have hfl:=zk1d s.l x
 have hr:putV s.l x=insR pLt x (putF s.l x):=rfl
 have hrl:=z3b0 s.l x
 rw [hr] at hrl ⊢
 obtain ⟨Q,hQ⟩ : ∃ Q,putF s.l x=Q:=⟨_,rfl⟩
 rw [hQ] at hfl hrl ⊢
 have hap:=zte0 (f:=enC) (k:=1) (b:=48) (l:=Q) (x:=x) (h:=[AObj.cells (enC x)]) rfl zuso (by decide) (by decide) (fun _=>zo6u) (by omega)
 simp only [y04,y00] at hap
 obtain ⟨n,hn⟩ : ∃ n,Q.length+1=n:=⟨_,rfl⟩
 have hQn:(Q++[x]).length=n:=by rw [y01,y03,hn]
 have eV:oV 1 33 (Q++[x]) = .ms 1 (n*33) 0 33 n (n*33):=by rw [zpni (by simp),hQn]
 have eT:oT enC (Q++[x])=[.cells (fl enC (Q++[x]))]:=zu2l (by simp)
 rw [eV,eT] at hap
 obtain ⟨G0,hG0⟩ : ∃ G,fl enC (Q++[x])=G:=⟨_,rfl⟩
 have hG0l:G0.length=n*33:=by rw [← hG0,z8lx zuso,hQn]
 rw [hG0] at hap
 have hsub:IntKind.i64.wrap ((n:Int)-1)=(Q.length:Int):=by rw [← hn]; rw [znmn (by omega) (by omega)]; omega
 have hsub':(n:Int)-1=(Q.length:Int):=by omega
 simp (disch:=first|omega|simp<;>omega|fail) [-zA,-zB,-zC,-zD,-zE,zfle,zbq4,hN,h,h',z6p9,zdny,hap,hG0l,hsub']
 refine zlm5 (z525 n x) (fun a=>a.A.length) (fun a=>a.A++a.B=Q∧z8u0 pLt x a.B) ⟨Q,[]⟩ (z515 (by simp (disch:=first|omega|simp<;>omega|fail) [-zA,-zB,-zC,-zD,-zE,z525,z8vo]) (by simp (disch:=first|omega|simp<;>omega|fail) [-zA,-zB,-zC,-zD,-zE,z525,z8vo,hG0])) ⟨by simp,fun b hb=>by simp at hb⟩ (fun a ha => ?_)
 obtain ⟨A,B⟩:=a
 obtain ⟨r1,r2⟩:=ha
 simp only at r1 r2
 simp only [z525]
 have hpu : ∀ L:List Ent,zbao (L.flatMap enC)=true:=fun L=>zp6k zt9q L
 rcases (List.eq_nil_or_concat A) with rfl|⟨A',y,rfl⟩
 ·have e:insR pLt x Q=x::B:=by rw [← r1]; exact zv9v r2 (.inl rfl)
  rw [e] at hrl ⊢
  have hBn:(x::B).length=n:=by rw [← hn,← r1]; simp
  have hsn:=z29t (f:=enC) (K:=33) zuso zt9q (pre:=[AObj.cells (enC x)]) (l:=x::B) (m:=n)
  rw [hBn,y06 (y1a hBn)] at hsn
  simp only [y03,y04,y00] at hsn
  rw [zqrs (by omega),hBn]
  generalize (x::B).flatMap enC=Z at hsn ⊢
  simp (disch:=first|omega|simp<;>omega|fail) [-zA,-zB,-zC,-zD,-zE,zmm6,z8vo,hsn]
 ·rw [y15] at r1
  rw [y15]
  have hAl:A'.length+1+B.length+1=n:=by rw [← hn,← r1]; simp; omega
  obtain ⟨L,hL⟩ : ∃ L,A'++[y]++x::B=L:=⟨_,rfl⟩
  have hLl:L.length=n:=by rw [← hL]; simp; omega
  obtain ⟨p,hp⟩ : ∃ p,A'.length=p:=⟨_,rfl⟩
  have g1 : ∀ h:p<L.length,L[p]=y:=fun h=>by subst hL hp; simp
  have g2 : ∀ h:p+1<L.length,L[p+1]=x:=fun h=>by subst hL hp; simp [y0o]
  have hs':=z72y (A:=A') (B:=B) (R:=[]) (x:=x) (y:=y)
  rw [y05,y05,hL,hp] at hs'
  obtain ⟨G,hG⟩ : ∃ G,fl enC L=G:=⟨_,rfl⟩
  have hGl:G.length=n*33:=by rw [← hG,z8lx zuso,hLl]
  obtain ⟨G2,hG2⟩ : ∃ G2,fl enC (L.set (p+1) y)=G2:=⟨_,rfl⟩
  have hG2l:G2.length=n*33:=by rw [← hG2,z8lx zuso,List.length_set,hLl]
  have o1:oneC 33 true (G.drop (p*33))=some (.agg (enC y)):=by rw [← hG,zfiy zuso (by omega),g1]
  have o2:oneC 33 true (G.drop ((p+1)*33))=some (.agg (enC x)):=by rw [← hG,zfiy zuso (by omega),g2]
  have o3:oneC 1 false (G.drop (p*33))=some (.str y.path):=by rw [← hG,zdo5 (by omega),g1]
  have o4:oneC 1 false (G.drop ((p+1)*33))=some (.str x.path):=by rw [← hG,zdo5 (by omega),g2]
  have s1 : ∀ h:List AObj,zy6o h 1 33 ((p+1)*33) (.agg (enC y)) (some G)=some (.junk,h.set 1 (.cells G2)):=fun h=>by rw [← hG,zdvi zuso (by decide) (fun _=>zo6u) (by omega),hG2]
  have s2 : ∀ h:List AObj,zy6o h 1 33 (p*33) (.agg (enC x)) (some G2)=some (.junk,h.set 1 (.cells (fl enC (A'++x::(y::B))))):=fun h=>by rw [← hG2,zdvi zuso (by decide) (fun _=>zo6u) (by rw [List.length_set]; omega),hs']
  have t1:((p:Int)+1).toNat=p+1:=by omega
  have t2:(A'++[y]).length=p+1:=by rw [← hp]; simp
  have q0:(0:Int)<(p:Int)+1:=by omega
  have q1:(p:Int)+1-1=p:=by omega
  have q2:(p:Int)+1<n:=by omega
  have q2n:p+1<n:=by omega
  have q3:(p:Int)<n:=by omega
  have q3n:p<n:=by omega
  have hlt : ∀ {a b:Str},zhl4 .lss (.str a) (.str b)=some (.bool (Op.bytesLess a b)):=rfl
  have hc0:pLt x y=Op.bytesLess x.path y.path:=rfl
  rw [hL,hG,t2]
  cases hc:pLt x y with
  | true =>
   rw [hc0] at hc
   simp (disch:=first|omega|simp<;>omega|fail) [-zA,-zB,-zC,-zD,-zE,zmm6,z8vo,hGl,hG2l,o1,o2,o3,o4,s1,s2,t1,q0,q1,q2,q2n,q3,q3n,hlt,hc]
   refine ⟨⟨A',y::B⟩,z515 (by simp (disch:=first|omega|simp<;>omega|fail) [-zA,-zB,-zC,-zD,-zE,z525,z8vo,hp]) (by simp (disch:=first|omega|simp<;>omega|fail) [-zA,-zB,-zC,-zD,-zE,z525,z8vo]),by simp,by simpa using r1,fun b hb => ?_⟩
   rcases y0h.1 hb with rfl|hb
   ·rw [hc0]; exact hc
   ·exact r2 b hb
  | false =>
   have e:insR pLt x Q=A'++[y]++x::B:=by rw [← r1]; exact zv9v r2 (.inr ⟨A',y,rfl,hc⟩)
   rw [hc0] at hc
   rw [e,hL]
   have hsn:=z29t (f:=enC) (K:=33) zuso zt9q (pre:=[AObj.cells (enC x)]) (l:=L) (m:=n)
   rw [hLl,y06 (y1a hLl),hG] at hsn
   simp only [y03,y04,y00] at hsn
   rw [zqrs (by omega),hLl]
   generalize L.flatMap enC=Z at hsn ⊢
   simp (disch:=first|omega|simp<;>omega|fail) [-zA,-zB,-zC,-zD,-zE,zmm6,z8vo,hGl,o3,o4,t1,q0,q1,q2,q2n,q3,q3n,hlt,hc,hsn]
noncomputable def cPut:List DV→Option DV:=con (fun a:Sl Ent × Ent=>a.1.l.length≤1000) (fun a=>[a.1.dv 33 enC,.agg (enC a.2)]) (fun a=>(own (putV a.1.l a.2)).dv 33 enC)
theorem zx4n {s:Sl Ent} {x:Ent} (h:s.l.length≤1000):cPut [s.dv 33 enC,.agg (enC x)]=some ((own (putV s.l x)).dv 33 enC) :=
 zzno (A:=fun a:Sl Ent × Ent=>a.1.l.length≤1000) (f:=fun a=>[a.1.dv 33 enC,.agg (enC a.2)]) (g:=fun a=>(own (putV a.1.l a.2)).dv 33 enC) (by
  rintro ⟨a,b⟩ ⟨c,d⟩ e
  simp only [List.cons.injEq,DV.agg.injEq,and_true] at e
  rw [zdvs e.1,zxv7 e.2]) (s,x) h
theorem zuao:(Con.pure cPut).Sound P 67:=z2au fun a h=>zljw mix zr5o Try.func67 zy8u (zet6 a.1 a.2 h)
end
section
set_option linter.unusedSimpArgs false
set_option linter.unusedVariables false
open Go Go.Am
theorem z1lj (s:Sl Ent) (i:Nat) (hs:s.l.length≤1000) (hi:i<s.l.length):Runs tbl0 a66 [s.dv 33 enC,.int .i64 i] ((zmmk s.l i).dv 33 enC):=by
 refine ⟨?_⟩
 have hs1 : ∀ H,ziwb H 33 (s.dv 33 enC) none (some (.int .i64 i)) none=some ((s.part 0 i (i == s.l.length)).dv 33 enC):=fun H=>z0ke zuso (by simp [zo77,iD]; omega) (by omega)
 have hs2 : ∀ H,ziwb H 33 (s.dv 33 enC) (some (.int .i64 (i+1))) none none=some ((s.part (i+1) s.l.length (s.l.length == s.l.length)).dv 33 enC):=fun H=>z0ke zuso (by simp [zo77,iD]; omega) (y08 _)
 obtain ⟨Y1,hY1⟩ : ∃ Y,s.part 0 i (i == s.l.length)=Y:=⟨_,rfl⟩
 obtain ⟨Y2,hY2⟩ : ∃ Y,s.part (i+1) s.l.length (s.l.length == s.l.length)=Y:=⟨_,rfl⟩
 have hY1l:Y1.l=s.l.take i:=by rw [← hY1]; show (s.l.drop 0).take (i-0)=_; simp
 have hY2l:Y2.l=s.l.drop (i+1):=by rw [← hY2]; show (s.l.drop (i+1)).take (s.l.length-(i+1))=_; exact y06 (by simp)
 have hr:zoqy s.l i=s.l.take i++s.l.drop (i+1):=rfl
 have hrl:=zy3g s.l i
 have hTl:(s.l.take i).length=i:=by rw [y07]; omega
 have hDl:(s.l.drop (i+1)).length=s.l.length-(i+1):=y0k ..
 obtain ⟨A,hA⟩ : ∃ A,s.l.take i=A:=⟨_,rfl⟩
 obtain ⟨D,hD⟩ : ∃ D,s.l.drop (i+1)=D:=⟨_,rfl⟩
 rw [hY1] at hs1
 rw [hY2] at hs2
 rw [hA] at hY1l hr hTl
 rw [hD] at hY2l hr hDl
 have hv1 : ∀ H,visY H (Y1.dv 33 enC)=some (A.length,A.flatMap enC):=fun H=>by rw [zwaa zuso,hY1l]
 have hv2 : ∀ H,visY H (Y2.dv 33 enC)=some (D.length,D.flatMap enC):=fun H=>by rw [zwaa zuso,hY2l]
 have ap1:=znxx (f:=enC) (k:=0) (b:=48) (l:=[]) (cs:=A) (h:=[]) rfl zuso (by decide) (by decide) (fun _=>zo6u) (by simp; omega)
 have ap2:=znxx (f:=enC) (k:=0) (b:=48) (l:=A) (cs:=D) (h:=[]) rfl zuso (by decide) (by decide) (fun _=>zo6u) (by omega)
 simp only [y00,ze3w,zkrk] at ap1 ap2
 have hkn : ∀ {l:List Ent},(oW 0 33 l).known=true:=zg9v
 have hdr:(zmmk s.l i).dv 33 enC=if zoqy s.l i=[] then .sl true 33 0 [] else (own (zoqy s.l i)).dv 33 enC:=by unfold zmmk; split<;>rfl
 rw [hr] at hdr hrl
 rw [hdr]
 obtain ⟨Z,hZ⟩ : ∃ Z,A++D=Z:=⟨_,rfl⟩
 rw [hZ] at ap2 hrl ⊢
 by_cases e:Z=[]
 ·subst e
  rw [if_pos rfl]
  rw [ze3w,zkrk] at ap2
  simp (disch:=first|omega|simp<;>omega|fail) [-zA,-zB,-zC,-zD,-zE,a66,hs1,hs2,hv1,hv2,ap1,ap2,zch3,hkn]
 ·rw [if_neg e]
  have hsn:=zigm (f:=enC) (K:=33) (k:=0) (l:=Z) (h:=[]) (r:=[]) rfl zuso zt9q (by omega)
  rw [z527 e] at hsn
  simp only [y00,y05] at hsn
  rw [zpml e] at ap2
  simp (disch:=first|omega|simp<;>omega|fail) [-zA,-zB,-zC,-zD,-zE,a66,hs1,hs2,hv1,hv2,ap1,ap2,zch3,hkn,hsn]
noncomputable def cDrp:List DV→Option DV:=con (fun a:Sl Ent × Nat=>a.1.l.length≤1000∧a.2<a.1.l.length) (fun a=>[a.1.dv 33 enC,.int .i64 a.2]) (fun a=>(zmmk a.1.l a.2).dv 33 enC)
theorem z4ij {s:Sl Ent} {i:Nat} (h:s.l.length≤1000) (h2:i<s.l.length):cDrp [s.dv 33 enC,.int .i64 i]=some ((zmmk s.l i).dv 33 enC) :=
 zzno (A:=fun a:Sl Ent × Nat=>a.1.l.length≤1000∧a.2<a.1.l.length) (f:=fun a=>[a.1.dv 33 enC,.int .i64 a.2]) (g:=fun a=>(zmmk a.1.l a.2).dv 33 enC) (by
  rintro ⟨a,b⟩ ⟨c,d⟩ e
  simp only [List.cons.injEq,DV.int.injEq,true_and,and_true,y11] at e
  rw [zdvs e.1,e.2]) (s,i) ⟨h,h2⟩
theorem zb3v:(Con.pure cDrp).Sound P 66:=z2au fun a h=>zljw mix zr5o Try.func66 z3a6 (z1lj a.1 a.2 h.1 h.2)
end
section
set_option linter.unusedSimpArgs false
set_option linter.unusedVariables false
open Go Go.Am
theorem zg8c {p:Str} {d:Dg}:zvnk [.str [],w8 0#8,w8 0#8,w8 0#8,w8 0#8,w8 0#8,w8 0#8,w8 0#8,w8 0#8,w8 0#8,w8 0#8,w8 0#8,w8 0#8,w8 0#8,w8 0#8,w8 0#8,w8 0#8,w8 0#8,w8 0#8,w8 0#8,w8 0#8,w8 0#8,w8 0#8,w8 0#8,w8 0#8,w8 0#8,w8 0#8,w8 0#8,w8 0#8,w8 0#8,w8 0#8,w8 0#8,w8 0#8] [(0,1,.str p),(1,32,.agg (dgC d))]=some (.agg (enC ⟨p,d⟩)):=by
 have h1:=z1t1 d
 simp [zvnk,zi03,zk7y,enC,h1,y0r]
noncomputable def z8cb:Tbl:=addT 25 (.tch z1m3) (addT 68 (.tch zu0i) (addT 69 (.tch cSum) (addT 67 (.pure cPut) (addT 66 (.pure cDrp) tbl0))))
theorem zf42:z8cb 25 = .tch z1m3:=by simp [z8cb]
theorem z2fv:z8cb 68 = .tch zu0i:=by simp [z8cb]
theorem zgng:z8cb 69 = .tch cSum:=by simp [z8cb]
theorem z73q:z8cb 67 = .pure cPut:=by simp [z8cb]
theorem z8lo:z8cb 66 = .pure cDrp:=by simp [z8cb]
theorem zleh:z8cb.Sound P:=z0rp z51e (z0rp zndi (z0rp z8dz (z0rp zuao (z0rp zb3v zr5o))))
structure NL where
 k:Nat
 t:Tp
 s:List Ent
def z2ze (m:Nat) (a:NL):St:=z6ev (.mp 0 2 0) ((ownN a.s).dv 33 enC) (.int .i64 a.k) [.cells (tpC a.t)]
theorem zx9h:(nilS:Sl Ent).dv 33 enC = .nils:=rfl
theorem z29k (t:Tp) (m:Nat) (ht:t.at_<3800000000) (hm:m≤100):RunsF z8cb a51 [.mp 0 2 0,.int .i64 m] [.cells (tpC t)] ((ownN (zgxx t m).2).dv 33 enC) [.cells (tpC (zgxx t m).1)]:=by
 refine ⟨?_⟩
 have n1:=znaf t m
 have n2:=z3zi t m
 have hv:zgxx t m=snpL (zep5 t m) (t.adv 1,[]):=rfl
 obtain ⟨R,hR⟩ : ∃ R,snpL (zep5 t m) (t.adv 1,[])=R:=⟨_,rfl⟩
 rw [hR] at hv
 obtain ⟨N,hN⟩ : ∃ N,zep5 t m=N:=⟨_,rfl⟩
 rw [hN] at n1 n2 hR
 rw [hv]
 have hnx:z1m3 [.int .i64 ((m:Int)+1)] (tpC t)=some (.int .i64 N,tpC (t.adv 1)):=by rw [z44h (by omega) (by omega) (by omega),n1]
 simp (disch:=first|omega|simp<;>omega|fail) [-zA,-zB,-zC,-zD,-zE,a51,zf42,hnx]
 refine zlm5 (z2ze m) (fun a=>a.k) (fun a=>snpL a.k (a.t,a.s)=R∧a.t.at_+5*a.k<3810000000∧a.s.length+a.k≤100) ⟨N,t.adv 1,[]⟩ (z515 (by simp (disch:=first|omega|simp<;>omega|fail) [-zA,-zB,-zC,-zD,-zE,z2ze,z6ev,zce3,zx9h]) (by simp (disch:=first|omega|simp<;>omega|fail) [-zA,-zB,-zC,-zD,-zE,z2ze,z6ev])) ⟨hR,by simp only [zpza]; omega,by simp only [y0f]; omega⟩ (fun a ha => ?_)
 obtain ⟨k,u,s⟩:=a
 obtain ⟨r1,r2,r3⟩:=ha
 simp only at r1 r2 r3
 simp only [z2ze]
 by_cases hk:0<k
 ·obtain ⟨k,rfl⟩ : ∃ k',k=k'+1:=⟨k-1,by omega⟩
  have hk':(0:Int)<((k+1:Nat):Int):=by omega
  have k1:=zi9c (t:=u) (by omega)
  have ha:=zj8l u
  have k2:=zliq (t:=zvs1 u) (by omega)
  have hnw:(zvs1 u).adv 1=newT u:=rfl
  have hne:(⟨zczq u,sumV (zvs1 u)⟩:Ent)=newE u:=rfl
  rw [hnw] at k2
  have hsl:(ownN s).l=s:=zd8n (by omega)
  have k3:=zx4n (s:=ownN s) (x:=newE u) (by rw [hsl]; omega)
  rw [hsl,← z527 (zfin s (newE u))] at k3
  have k3:cPut [(ownN s).dv 33 enC,.agg (.str (zczq u)::dgC (sumV (zvs1 u)))]=some ((ownN (putV s (newE u))).dv 33 enC):=k3
  have hat:=ztvs u
  have hpl:=z3b0 s (newE u)
  simp (disch:=first|omega|simp<;>omega|fail) [-zA,-zB,-zC,-zD,-zE,zz44,z6ev,z2fv,k1,zgng,k2,zg8c,hne,z73q,k3,zru8]
  exact ⟨⟨k,newT u,putV s (newE u)⟩,z515 (by simp (disch:=first|omega|simp<;>omega|fail) [-zA,-zB,-zC,-zD,-zE,z2ze,z6ev]) (by simp (disch:=first|omega|simp<;>omega|fail) [-zA,-zB,-zC,-zD,-zE,z2ze,z6ev]),by simp only; omega,r1,by simp only; omega,by simp only; omega⟩
 ·obtain rfl:k=0:=by omega
  have e:R=(u,s):=r1.symm
  subst e
  have hfz : ∀ k,fzL 1 k (tpC u) (tpC u):=fun k=>znnb (zs7w _)
  have hfy : ∀ H,fz 1 H 3 ((ownN s).dv 33 enC)=some ((ownN s).dv 33 enC):=fun H=>zqge (zru8 _)
  simp (disch:=first|omega|simp<;>omega|fail) [-zA,-zB,-zC,-zD,-zE,zz44,z6ev,hfz,hfy]
noncomputable def cSnp:List DV→List DV→Option (DV × List DV):=conT (fun a:Tp × Nat=>a.1.at_<3800000000∧a.2≤100) (fun a=>[.int .i64 a.2]) (fun a=>tpC a.1) (fun a=>((ownN (zgxx a.1 a.2).2).dv 33 enC,tpC (zgxx a.1 a.2).1))
theorem zt2p {t:Tp} {m:Nat} (h:t.at_<3800000000) (hm:m≤100):cSnp [.int .i64 m] (tpC t)=some ((ownN (zgxx t m).2).dv 33 enC,tpC (zgxx t m).1) :=
 ztyo (A:=fun a:Tp × Nat=>a.1.at_<3800000000∧a.2≤100) (f:=fun a=>[.int .i64 a.2]) (s:=fun a=>tpC a.1) (by
  rintro ⟨a,n⟩ ⟨b,m⟩ e1 e2
  simp only [List.cons.injEq,DV.int.injEq,true_and,and_true,y11] at e1
  rw [e1,z15z e2]) (t,m) ⟨h,hm⟩
theorem zg3i:(Con.tch cSnp).Sound P 51 :=
 z0tq (fun a _=>⟨rfl,zs7w _,zru8 _,zs7w _⟩) fun a h=>zizi mix zleh Try.func51 z8rx (z29k a.1 a.2 h.1 h.2) (y08 _)
structure DL where
 k:Nat
 t:Tp
 s:Sl Ent
def zlkl (a:DL):St:=zzv7 (.mp 0 2 0) (a.s.dv 33 enC) (.int .i64 a.k) [.cells (tpC a.t)]
theorem z438 (t:Tp) (s0:Sl Ent) (ht:t.at_<3800000000) (hs0:s0.l.length≤800):RunsF z8cb a48 [.mp 0 2 0,s0.dv 33 enC] [.cells (tpC t)] ((z7ym t s0).2.dv 33 enC) [.cells (tpC (z7ym t s0).1)]:=by
 refine ⟨?_⟩
 have n1:tpN t 4=zp4t t:=znaf t 3
 have n2:zp4t t≤3:=z3zi t 3
 have hv:z7ym t s0=edtL (zp4t t) (t.adv 1,s0):=rfl
 obtain ⟨R,hR⟩ : ∃ R,edtL (zp4t t) (t.adv 1,s0)=R:=⟨_,rfl⟩
 rw [hR] at hv
 obtain ⟨N,hN⟩ : ∃ N,zp4t t=N:=⟨_,rfl⟩
 rw [hN] at n1 n2 hR
 rw [hv]
 simp (disch:=first|omega|simp<;>omega|fail) [-zA,-zB,-zC,-zD,-zE,a48,zf42,z44h,n1]
 refine zlm5 zlkl (fun a=>a.k) (fun a=>edtL a.k (a.t,a.s)=R∧a.t.at_+6*a.k<3810000000∧a.s.l.length+a.k≤900) ⟨N,t.adv 1,s0⟩ (z515 (by simp (disch:=first|omega|simp<;>omega|fail) [-zA,-zB,-zC,-zD,-zE,zlkl,zzv7]) (by simp (disch:=first|omega|simp<;>omega|fail) [-zA,-zB,-zC,-zD,-zE,zlkl,zzv7])) ⟨hR,by simp only [zpza]; omega,by simp only; omega⟩ (fun a ha => ?_)
 obtain ⟨k,u,s⟩:=a
 obtain ⟨r1,r2,r3⟩:=ha
 simp only at r1 r2 r3
 simp only [zlkl]
 by_cases hk:0<k
 case neg =>
  obtain rfl:k=0:=by omega
  have e:R=(u,s):=r1.symm
  subst e
  have hfz : ∀ k,fzL 1 k (tpC u) (tpC u):=fun k=>znnb (zs7w _)
  have hfy : ∀ H,fz 1 H 3 (s.dv 33 enC)=some (s.dv 33 enC):=fun H=>zqge (zru8 _)
  simp (disch:=first|omega|simp<;>omega|fail) [-zA,-zB,-zC,-zD,-zE,zlq3,zzv7,hfz,hfy]
 obtain ⟨k,rfl⟩ : ∃ k',k=k'+1:=⟨k-1,by omega⟩
 have hk':(0:Int)<((k+1:Nat):Int):=by omega
 have r1':edtL k (zvj4 (u,s))=R:=r1
 have hok:=zkr6 (a:=(u,s)) (by simp only; omega)
 simp only at hok
 have k0:z1m3 [.int .i64 3] (tpC u)=some (.int .i64 (tpN u 3),tpC (u.adv 1)):=z44h (by omega) (by omega) (by omega)
 have hlen : ∀ H,lenD H (s.dv 33 enC)=some (.int .i64 s.l.length):=fun H=>zupj
 obtain ⟨q,hq⟩ : ∃ q,tpN u 3=q:=⟨_,rfl⟩
 rw [hq] at k0
 by_cases c:q=0∧s.l≠[]
 ·obtain ⟨c1,c2⟩:=c
  subst c1
  have hl0:0<s.l.length:=y0w.2 c2
  have hl0':(0:Int)<s.l.length:=by omega
  have m1:=z4rs (u.adv 1) s.l.length
  have m2:=z2s7 (u.adv 1) (n:=s.l.length) (by omega)
  obtain ⟨J,hJ⟩ : ∃ J:Nat,tpN (u.adv 1) s.l.length=J:=⟨_,(y17 m1).symm⟩
  have k1:=z44h (t:=u.adv 1) (n:=(s.l.length:Int)) (by simp only [zpza]; omega) (by omega) (by omega)
  rw [hJ,zjmf] at k1
  have k2:=z4ij (s:=s) (i:=J) (by omega) (by omega)
  have he:zvj4 (u,s)=(u.adv 2,zmmk s.l J):=by
   unfold zvj4
   rw [if_pos ⟨hq,c2⟩]
   simp only [hJ,y0z]
  rw [he] at r1' hok
  simp only [zpza] at hok
  obtain ⟨n,hn⟩ : ∃ n,s.l.length=n:=⟨_,rfl⟩
  rw [hn] at hlen hl0 hl0' k1
  simp (disch:=first|omega|simp<;>omega|fail) [-zA,-zB,-zC,-zD,-zE,zlq3,zzv7,zf42,k0,hlen,hl0,hl0',k1,z8lo,k2,zru8]
  exact ⟨⟨k,u.adv 2,zmmk s.l J⟩,z515 (by simp (disch:=first|omega|simp<;>omega|fail) [-zA,-zB,-zC,-zD,-zE,zlkl,zzv7]) (by simp (disch:=first|omega|simp<;>omega|fail) [-zA,-zB,-zC,-zD,-zE,zlkl,zzv7]),by simp only; omega,r1',by simp only [zpza]; omega,by simp only; omega⟩
 ·have he:zvj4 (u,s)=(newT (u.adv 1),own (putV s.l (newE (u.adv 1)))):=by
   unfold zvj4
   rw [if_neg (by rw [hq]; exact c)]
  rw [he] at r1' hok
  simp only at hok
  have k1:=zi9c (t:=u.adv 1) (by simp only [zpza]; omega)
  have ha:=zj8l (u.adv 1)
  have k2:=zliq (t:=zvs1 (u.adv 1)) (by simp only [zpza] at ha; omega)
  have hnw:(zvs1 (u.adv 1)).adv 1=newT (u.adv 1):=rfl
  have hne:(⟨zczq (u.adv 1),sumV (zvs1 (u.adv 1))⟩:Ent)=newE (u.adv 1):=rfl
  rw [hnw] at k2
  have k3:cPut [s.dv 33 enC,.agg (.str (zczq (u.adv 1))::dgC (sumV (zvs1 (u.adv 1))))]=some ((own (putV s.l (newE (u.adv 1)))).dv 33 enC):=zx4n (s:=s) (x:=newE (u.adv 1)) (by omega)
  by_cases c1:q=0
  ·have c2:s.l=[]:=Classical.byContradiction fun h=>c ⟨c1,h⟩
   have hl0:s.l.length=0:=by rw [c2]; rfl
   rw [hl0] at hlen
   subst c1
   simp (disch:=first|omega|simp<;>omega|fail) [-zA,-zB,-zC,-zD,-zE,zlq3,zzv7,zf42,k0,hlen,z2fv,k1,zgng,k2,zg8c,hne,z73q,k3,zru8]
   exact ⟨⟨k,newT (u.adv 1),own (putV s.l (newE (u.adv 1)))⟩,z515 (by simp (disch:=first|omega|simp<;>omega|fail) [-zA,-zB,-zC,-zD,-zE,zlkl,zzv7]) (by simp (disch:=first|omega|simp<;>omega|fail) [-zA,-zB,-zC,-zD,-zE,zlkl,zzv7]),by simp only; omega,r1',by simp only; omega,by simp only; omega⟩
  ·simp (disch:=first|omega|simp<;>omega|fail) [-zA,-zB,-zC,-zD,-zE,zlq3,zzv7,zf42,k0,c1,z2fv,k1,zgng,k2,zg8c,hne,z73q,k3,zru8]
   exact ⟨⟨k,newT (u.adv 1),own (putV s.l (newE (u.adv 1)))⟩,z515 (by simp (disch:=first|omega|simp<;>omega|fail) [-zA,-zB,-zC,-zD,-zE,zlkl,zzv7]) (by simp (disch:=first|omega|simp<;>omega|fail) [-zA,-zB,-zC,-zD,-zE,zlkl,zzv7]),by simp only; omega,r1',by simp only; omega,by simp only; omega⟩
noncomputable def cEdt:List DV→List DV→Option (DV × List DV):=conT (fun a:Tp × Sl Ent=>a.1.at_<3800000000∧a.2.l.length≤800) (fun a=>[a.2.dv 33 enC]) (fun a=>tpC a.1) (fun a=>((z7ym a.1 a.2).2.dv 33 enC,tpC (z7ym a.1 a.2).1))
theorem zref {t:Tp} {s:Sl Ent} (h:t.at_<3800000000) (hm:s.l.length≤800):cEdt [s.dv 33 enC] (tpC t)=some ((z7ym t s).2.dv 33 enC,tpC (z7ym t s).1) :=
 ztyo (A:=fun a:Tp × Sl Ent=>a.1.at_<3800000000∧a.2.l.length≤800) (f:=fun a=>[a.2.dv 33 enC]) (s:=fun a=>tpC a.1) (g:=fun a=>((z7ym a.1 a.2).2.dv 33 enC,tpC (z7ym a.1 a.2).1)) (by
  rintro ⟨a,n⟩ ⟨b,m⟩ e1 e2
  simp only [List.cons.injEq,and_true] at e1
  rw [zdvs e1,z15z e2]) (t,s) ⟨h,hm⟩
theorem zg4h:(Con.tch cEdt).Sound P 48 :=
 z0tq (fun a _=>⟨by simp [zbao,zru8],zs7w _,zru8 _,zs7w _⟩) fun a h=>zizi mix zleh Try.func48 zwi2 (z438 a.1 a.2 h.1 h.2) (y08 _)
noncomputable def z6hl:Tbl:=addT 51 (.tch cSnp) (addT 48 (.tch cEdt) tbl0)
theorem z70k:z6hl 51 = .tch cSnp:=by simp [z6hl]
theorem zhen:z6hl 48 = .tch cEdt:=by simp [z6hl]
theorem zl8g:z6hl.Sound P:=z0rp zg3i (z0rp zg4h zr5o)
theorem zc0o (t:Tp) (st:Str) (ht:t.at_<3700000000):RunsF z6hl a23 [.mp 0 2 0,.str st] [.cells (tpC t)] (.agg (lkC (zyjl t st))) [.cells (tpC (zd2t t))]:=by
 refine ⟨?_⟩
 have k1:=zt2p (t:=t) (m:=5) (by omega) (by omega)
 have h1:=zk7x t 5
 have hm:ownN (zgxx t 5).2=zxwj t:=rfl
 rw [hm] at k1
 have hl:=zr0a t
 have k2:=zref (t:=(zgxx t 5).1) (s:=zxwj t) (by omega) (by omega)
 have hT:(z7ym (zgxx t 5).1 (zxwj t)).1=zd2t t:=rfl
 rw [hT] at k2
 have hr:zyjl t st=⟨st,zxwj t,(z7ym (zgxx t 5).1 (zxwj t)).2⟩:=rfl
 rw [hr]
 obtain ⟨M,hM⟩ : ∃ M,zxwj t=M:=⟨_,rfl⟩
 rw [hM] at k1 k2 ⊢
 obtain ⟨Q,hQ⟩ : ∃ Q,(z7ym (zgxx t 5).1 M).2=Q:=⟨_,rfl⟩
 rw [hQ] at k2 ⊢
 obtain ⟨U,hU⟩ : ∃ U,(zgxx t 5).1=U:=⟨_,rfl⟩
 rw [hU] at k1 k2
 obtain ⟨V,hV⟩ : ∃ V,zd2t t=V:=⟨_,rfl⟩
 rw [hV] at k2 ⊢
 have k1':cSnp [.int .i64 5] (tpC t)=some (M.dv 33 enC,tpC U):=k1
 have hfz : ∀ k,fzL 1 k (tpC V) (tpC V):=fun k=>znnb (zs7w _)
 have hfy : ∀ H,fzLo 1 H 3 (lkC ⟨st,M,Q⟩)=some (lkC ⟨st,M,Q⟩):=fun H=>zojd (z53g _)
 simp (disch:=first|omega|simp<;>omega|fail) [-zA,-zB,-zC,-zD,-zE,a23,z70k,k1',zhen,k2,zye0,hfz,hfy]
 show (oneC 3 true (lkC ⟨st,M,Q⟩)).bind _=_
 rw [zrer]
 exact zqge (by simp [zyp8])
noncomputable def cLkT:List DV→List DV→Option (DV × List DV):=conT (fun a:Tp × Str=>a.1.at_<3700000000) (fun a=>[.str a.2]) (fun a=>tpC a.1) (fun a=>(.agg (lkC (zyjl a.1 a.2)),tpC (zd2t a.1)))
theorem zauq {t:Tp} {st:Str} (h:t.at_<3700000000):cLkT [.str st] (tpC t)=some (.agg (lkC (zyjl t st)),tpC (zd2t t)) :=
 ztyo (A:=fun a:Tp × Str=>a.1.at_<3700000000) (f:=fun a=>[.str a.2]) (s:=fun a=>tpC a.1) (g:=fun a=>(.agg (lkC (zyjl a.1 a.2)),tpC (zd2t a.1))) (by
  rintro ⟨a,n⟩ ⟨b,m⟩ e1 e2
  simp only [List.cons.injEq,DV.str.injEq,and_true] at e1
  rw [e1,z15z e2]) (t,st) h
theorem z3ot:(Con.tch cLkT).Sound P 23 :=
 z0tq (fun a _=>⟨rfl,zs7w _,by simp [zyp8],zs7w _⟩) fun a h=>zizi mix zl8g Try.func23 ztyx (zc0o a.1 a.2 h) (y08 _)
def lksS (t:Tp):Sl Lnk:=⟨some true,[(zivf t).2.1,(zivf t).2.2,(zivf t).2.1],by simp,by simp⟩
theorem zclz (t:Tp):(lksS t).dv 3 lkC = .sl true 3 3 (lkC (zivf t).2.1++(lkC (zivf t).2.2++lkC (zivf t).2.1)):=by simp [lksS,SlB.dv,slD]
theorem z8q9 (x:Sl Lnk):zyp8 (x.dv 3 lkC)=true:=zxxb z53g x
theorem zs9p {a b c:Lnk}:bslD 3 3 [.str [],.nils,.nils] [(0,3,.agg (lkC a)),(3,3,.agg (lkC b)),(6,3,.agg (lkC c))]=some (.sl true 3 3 (lkC a++(lkC b++lkC c))):=rfl
noncomputable def z6ep:Tbl:=addT 23 (.tch cLkT) (addT 48 (.tch cEdt) tbl0)
theorem ztch:z6ep 23 = .tch cLkT:=by simp [z6ep]
theorem z994:z6ep 48 = .tch cEdt:=by simp [z6ep]
theorem zp3o:z6ep.Sound P:=z0rp z3ot (z0rp zg4h zr5o)
theorem zxv9 {L:Lnk} {v:Sl Ent} {h:List AObj} {id:Nat}:zy6o h id 1 2 (v.dv 33 enC) (some (lkC L))=some (.junk,h.set id (.cells (lkC ⟨L.step,L.m,v⟩))):=by
 rw [storeO_1 (zfr8 _) (z4ja _) (by rw [z9tw]; decide)]; rfl
theorem zlwk (t:Tp) (ht:t.at_<3600000000):RunsF z6ep a20 [.mp 0 2 0] [.cells (tpC t)] ((lksS t).dv 3 lkC) [.cells (tpC (zivf t).1)]:=by
 refine ⟨?_⟩
 have k1:=zauq (t:=t) (st:=[98,117,105,108,100]) (by omega)
 obtain ⟨h1,h2,h3⟩:=zoiq t [98,117,105,108,100]
 have k2:=zref (t:=zd2t t) (s:=(zyjl t [98,117,105,108,100]).p) (by omega) (by omega)
 rw [zclz]
 simp only [zivf]
 obtain ⟨A,hA⟩ : ∃ A,zyjl t [98,117,105,108,100]=A:=⟨_,rfl⟩
 rw [hA] at k1 k2 ⊢
 obtain ⟨U,hU⟩ : ∃ U,zd2t t=U:=⟨_,rfl⟩
 rw [hU] at k1 k2 ⊢
 obtain ⟨E,hE⟩ : ∃ E,z7ym U A.p=E:=⟨_,rfl⟩
 rw [hE] at k2 ⊢
 have hfz : ∀ k,fzL 1 k (tpC E.1) (tpC E.1):=fun k=>znnb (zs7w _)
 have hp:zbao (lkC A++(lkC ⟨A.step,A.m,E.2⟩++lkC A))=true:=zg0c (z53g _) (zg0c (z53g _) (z53g _))
 have hfy : ∀ H,fzLo 1 H 3 (lkC A++(lkC ⟨A.step,A.m,E.2⟩++lkC A))=some (lkC A++(lkC ⟨A.step,A.m,E.2⟩++lkC A)):=fun H=>zojd hp
 simp (disch:=first|omega|simp<;>omega|fail) [-zA,-zB,-zC,-zD,-zE,a20,ztch,k1,z994,k2,zrer,zj40,zxv9,zs9p,hfz]
 exact hfy _
noncomputable def cLks:List DV→List DV→Option (DV × List DV):=conT (fun a:Tp=>a.at_<3600000000) (fun _=>[]) tpC (fun a=>((lksS a).dv 3 lkC,tpC (zivf a).1))
theorem z723 {t:Tp} (h:t.at_<3600000000):cLks [] (tpC t)=some ((lksS t).dv 3 lkC,tpC (zivf t).1) :=
 ztyo (A:=fun a:Tp=>a.at_<3600000000) (f:=fun _=>[]) (s:=tpC) (g:=fun a=>((lksS a).dv 3 lkC,tpC (zivf a).1)) (fun a b _ e=>by rw [z15z e]) t h
theorem zdfr:(Con.tch cLks).Sound P 20 :=
 z0tq (fun a _=>⟨rfl,zs7w _,z8q9 (lksS a),zs7w _⟩) fun a h=>zizi mix zp3o Try.func20 zfgm (zlwk a h) (y08 _)
def ownS:Sl Str:=⟨some true,[[97,110,110],[98,111,98],[99,97,116],[100,97,110]],by simp,by simp⟩
theorem zwck:ownS.dv 1 stC = .sl true 1 4 [.str [97,110,110],.str [98,111,98],.str [99,97,116],.str [100,97,110]]:=rfl
theorem zf7l:Runs tbl0 a26 [] (ownS.dv 1 stC):=by
 refine ⟨?_⟩
 rw [zwck]
 simp (disch:=first|omega|simp<;>omega|fail) [-zA,-zB,-zC,-zD,-zE,a26]
noncomputable def cOwn:List DV→Option DV:=con (fun _=>True) (fun _:Unit=>[]) (fun _=>ownS.dv 1 stC)
theorem zj2t:cOwn []=some (ownS.dv 1 stC):=zsn4 (f:=fun _:Unit=>[]) (g:=fun _=>ownS.dv 1 stC) (fun _ _ _=>rfl) ()
theorem zisi:(Con.pure cOwn).Sound P 26:=z2au fun _ _=>zljw mix zr5o Try.func26 z9gs zf7l
end
section
set_option linter.unusedSimpArgs false
set_option linter.unusedVariables false
open Go Go.Am
def bld:Str:=[98,117,105,108,100]
def ann:Str:=[97,110,110]
def awS:Spc:=⟨bld,false,1,⟨some true,[ann],by simp,by simp⟩,nilS,nilS,nilS⟩
def awX:Att:=⟨ann,⟨[],[],bld,2,nilS,nilS,nilS,nilS⟩⟩
def awL:Sl Att:=⟨some true,[awX],by simp,by simp⟩
theorem aw1:(decA awS (votL awS awL.l)).2=0:=by rfl
theorem aw2:(decA awS (votL awS awL.l)).1.lnk.step=bld:=by rfl
theorem aw3:(decA awS (votL awS awL.l)).1.owners.l.length=1:=by rfl
noncomputable def z3ic:Tbl:=addT 14 (.pure cDec) tbl0
theorem zpkd:z3ic 14 = .pure cDec:=by simp [z3ic]
theorem zd3g:z3ic.Sound P:=z0rp zdlo zr5o
theorem zovi:spC awS=[.str [98,117,105,108,100],.bool false,.int .i64 1,.sl true 1 1 [.str [97,110,110]],.nils,.nils,.nils]:=rfl
theorem zstd:awL.dv 9 atC = .sl true 9 1 [.str [97,110,110],.str [],.str [],.str [98,117,105,108,100],.int .i64 2,.nils,.nils,.nils,.nils]:=rfl
theorem zfqn:zvnk [.str [],.bool false,.int .i64 0,.nils,.nils,.nils,.nils] [(0,1,.str [98,117,105,108,100]),(2,1,.int .i64 1),(3,1,.sl true 1 1 [.str [97,110,110]])]=some (.agg [.str [98,117,105,108,100],.bool false,.int .i64 1,.sl true 1 1 [.str [97,110,110]],.nils,.nils,.nils]):=rfl
theorem ziw9:zvnk [.str [],.str [],.str [],.int .i64 0,.nils,.nils,.nils,.nils] [(2,1,.str [98,117,105,108,100]),(3,1,.int .i64 2)]=some (.agg [.str [],.str [],.str [98,117,105,108,100],.int .i64 2,.nils,.nils,.nils,.nils]):=rfl
theorem z1op:zvnk [.str [],.str [],.str [],.str [],.int .i64 0,.nils,.nils,.nils,.nils] [(0,1,.str [97,110,110]),(1,8,.agg [.str [],.str [],.str [98,117,105,108,100],.int .i64 2,.nils,.nils,.nils,.nils])]=some (.agg [.str [97,110,110],.str [],.str [],.str [98,117,105,108,100],.int .i64 2,.nils,.nils,.nils,.nils]):=rfl
theorem z8i9:bslD 9 1 [.str [],.str [],.str [],.str [],.int .i64 0,.nils,.nils,.nils,.nils] [(0,9,.agg [.str [97,110,110],.str [],.str [],.str [98,117,105,108,100],.int .i64 2,.nils,.nils,.nils,.nils])]=some (.sl true 9 1 [.str [97,110,110],.str [],.str [],.str [98,117,105,108,100],.int .i64 2,.nils,.nils,.nils,.nils]):=rfl
theorem aw_o:oneC 7 true [.str [98,117,105,108,100],.bool false,.int .i64 1,.sl true 1 1 [.str [97,110,110]],.nils,.nils,.nils]=some (.agg [.str [98,117,105,108,100],.bool false,.int .i64 1,.sl true 1 1 [.str [97,110,110]],.nils,.nils,.nils]):=rfl
theorem zgm9:Runs z3ic a19 [] (.bool true):=by
 refine ⟨?_⟩
 have k:=z6ch (s:=awS) (l:=awL) (by simp [awL])
 have h1:=aw1
 have h2:=aw2
 have h3:=aw3
 rw [zovi,zstd] at k
 obtain ⟨A,e,hA⟩ : ∃ A e,decA awS (votL awS awL.l)=(A,e):=⟨_,_,rfl⟩
 rw [hA] at k h1 h2 h3
 simp only at k h1 h2 h3
 subst h1
 have hlo : ∀ H,lenD H (A.owners.dv 1 stC)=some (.int .i64 A.owners.l.length):=fun H=>zupj
 rw [h3] at hlo
 have h2':A.lnk.step=[98,117,105,108,100]:=h2
 simp (disch:=first|omega|simp<;>omega|fail) [-zA,-zB,-zC,-zD,-zE,a19,zfqn,ziw9,z1op,z8i9,aw_o,zbao,zyp8,zpkd,k,z0wg,zntj,hlo,h2']
noncomputable def cAwk:List DV→Option DV:=con (fun _=>True) (fun _:Unit=>[]) (fun _ => .bool true)
theorem zzs2:cAwk []=some (.bool true):=zsn4 (f:=fun _:Unit=>[]) (g:=fun _=>DV.bool true) (fun _ _ _=>rfl) ()
theorem z41w:(Con.pure cAwk).Sound P 19:=z2au fun _ _=>zljw mix zd3g Try.func19 zlqi zgm9
end
end Go.Proofs.Ytjknipdiglpnlaa
