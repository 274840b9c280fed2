/-
  13 texts of mine in one.
-/
import Derived.Test.YtaihpefemjlilaaGreatDoorCd62ad478
import Derived.Test.YtaihpefemjlilaaGreatDoorCac4878f9
import Derived.Test.YtaihpefemjlilaaGreatDoorC49c39fef
import Derived.Test.YtaihpefemjlilaaGreatDoorCe661facf
import Derived.Test.YtaihpefemjlilaaGreatDoorCd905271c
import Derived.Test.YtaihpefemjlilaaGreatDoorCa30ce466
import Derived.Test.YtaihpefemjlilaaGreatDoorCf4d7e8c8
import Derived.Test.YtaihpefemjlilaaGreatDoorCe6cf28be
set_option maxRecDepth 20000
set_option maxHeartbeats 4000000
open List renaming map_take → zA, map_drop → zB, map_set → zC, map_append → zD, drop_one → zE
open Bool renaming and_eq_true → y02
open Int renaming toNat_natCast → y0a
open List renaming getElem?_eq_getElem → y00, mem_append → y01, filter_cons → y04, mem_of_mem_take → y05, append_nil → y06, mem_reverse → y07, append_assoc → y08, getElem_of_mem → y09, getElem_mem → y0b, mem_map → y0c, getElem?_eq_none → y0d, pairwise_iff_getElem → y0e, length_take → y0f, length_reverse → y0g, getElem_of_eq → y0h, take_sublist → y0i, pairwise_append → y0j, mem_filter → y0k, filter_filter → y0l, length_append → y0m, take_of_length_le → y0n, map_cons → y0o, foldl_cons → y0p, map_append → y0q, map_congr_left → y0r, filter_eq_self → y0s, countP_eq_length_filter → y0t, nodup_append → y0u, mem_of_find?_eq_some → y0v, pairwise_singleton → y0w, length_singleton → y0x, take_nil → y0y
open Nat renaming le_refl → y03
namespace Go.Proofs.YtaihpefemjlilaaGreatDoor
section
set_option linter.unusedSimpArgs false
set_option linter.unusedVariables false
set_option maxRecDepth 20000
open Go Go.Am
structure Scn where
 c:Clu
 x:List Ixe
 tr:List Tri
 gr:List Int
 t:Int
def scnC (s:Scn):List DV:=[s.c.g.dv 6 grC,s.c.i.dv 37 inC,.int .i64 s.c.next,.int .i64 0,isV s.x,trV s.tr,liV s.gr,.int .i64 s.t]
noncomputable def scnV (u:Tp):Scn × Tp :=
 let c:=(zcpt u 8).1
 let w:=(zcpt u 8).2
 let n:=3*c.g.l.length
 let w1:=w.adv n
 let w2:=(triS w1 c n).1
 let w3:=w2.adv c.i.l.length
 (⟨c,idxL w c n,(triS w1 c n).2,graL w2 c.i.l.length,30+tpN w3 20⟩,w3.adv 1)
noncomputable def z8gk:Tbl:=addT 37 (.new zl5p) (addT 38 (.tch cClu) (addT 13 (.tch z1m3) (addT 39 (.tch cIdx) (addT 40 (.tch cTri) (addT 41 (.tch cGra) tbl0)))))
theorem z9vj:z8gk 37 = .new zl5p:=by simp [z8gk]
theorem zf0m:z8gk 38 = .tch cClu:=by simp [z8gk]
theorem zkp3:z8gk 13 = .tch z1m3:=by simp [z8gk]
theorem z6jf:z8gk 39 = .tch cIdx:=by simp [z8gk]
theorem zj0z:z8gk 40 = .tch cTri:=by simp [z8gk]
theorem zdoe:z8gk 41 = .tch cGra:=by simp [z8gk]
theorem zqvq:z8gk.Sound P:=z0rp ze95 (z0rp zwvn (z0rp z51e (z0rp zkb9 (z0rp zka8 (z0rp z10g zr5o)))))
theorem zq54 (l:List Tri):(trV l).one=true:=by unfold trV; split<;>rfl
theorem zdci (l:List Tri):(trV l).cells=[trV l]:=by unfold trV; split<;>rfl
def o8 (c:Clu) (a b d e f:DV):List DV:=[c.g.dv 6 grC,c.i.dv 37 inC,.int .i64 c.next,a,b,d,e,f]
theorem o8_b {c:Clu}:zvnk [.nils,.nils,.int .i64 0,.int .i64 0,.nils,.nils,.nils,.int .i64 0] [(0,3,.agg (clC c))]=some (.agg (o8 c (.int .i64 0) .nils .nils .nils (.int .i64 0))):=rfl
section
variable {c:Clu} {a b d e f:DV} {H:List AObj} {id:Nat}
theorem z6ng (h1:a.one=true) (h2:b.one=true) (h3:d.one=true) (h4:e.one=true) (h5:f.one=true):(o8 c a b d e f).all DV.one=true:=by simp [o8,z4ja,h1,h2,h3,h4,h5]
theorem zws3 (h1:a.one=true) (h2:b.one=true) (h3:d.one=true) (h4:e.one=true) (h5:f.one=true):zy6o H id 8 0 (.agg (o8 c a b d e f)) (some [.nils,.nils,.int .i64 0,.int .i64 0,.nils,.nils,.nils,.int .i64 0])=some (.junk,H.set id (.cells (o8 c a b d e f))):=zfc1 rfl rfl (z6ng h1 h2 h3 h4 h5)
theorem o8_3:oneC 3 true (o8 c a b d e f)=some (.agg (clC c)):=rfl
theorem o8_8:oneC 8 true (o8 c a b d e f)=some (.agg (o8 c a b d e f)):=rfl
theorem z3nx {x y:DV} (h1:x.one=true) (h2:y.one=true):zy6o H id 2 3 (.agg [x,y]) (some (o8 c a b d e f))=some (.junk,H.set id (.cells (o8 c x y d e f))):=by
 have h:(DV.agg [x,y]).cells.length=2∧3+2≤(o8 c a b d e f).length∧(DV.agg [x,y]).cells.all DV.one=true:=⟨rfl,by show 5≤8; decide,by simp [DV.cells,h1,h2]⟩
 exact (if_pos h).trans rfl
theorem zo9w {x:DV} (hc:x.cells=[x]) (ho:x.one=true):zy6o H id 1 5 x (some (o8 c a b d e f))=some (.junk,H.set id (.cells (o8 c a b x e f))):=by
 rw [Am.storeO_1 hc ho (by show 5<8; decide)]; rfl
theorem zdmn {x:DV} (hc:x.cells=[x]) (ho:x.one=true):zy6o H id 1 6 x (some (o8 c a b d e f))=some (.junk,H.set id (.cells (o8 c a b d x f))):=by
 rw [Am.storeO_1 hc ho (by show 6<8; decide)]; rfl
theorem z7tb {x:DV} (hc:x.cells=[x]) (ho:x.one=true):zy6o H id 1 7 x (some (o8 c a b d e f))=some (.junk,H.set id (.cells (o8 c a b d e x))):=by
 rw [Am.storeO_1 hc ho (by show 7<8; decide)]; rfl
end
theorem zfog (x:Nl):RunsH z8gk a12 [x.dv] [] (.tup [.agg (scnC (scnV (tp0 x 300)).1),.mp 1 2 0]) [.cells (scnC (scnV (tp0 x 300)).1),.cells (tpC (scnV (tp0 x 300)).2),.cells (scnC (scnV (tp0 x 300)).1)]:=by
 refine ⟨?_⟩
 obtain ⟨u,hu⟩ : ∃ u,tp0 x 300=u:=⟨_,rfl⟩
 have hua:u.at_=0:=by rw [← hu]; rfl
 obtain ⟨hv,hg⟩:=zlnb u 8 (by decide) (by decide)
 have hn9:=zukg u 8 (by decide) (by decide)
 have hat:=z2ep u 8 (by decide) (by decide)
 have hT:=fun m=>zwy3 (x:=x) (n:=300) (by decide) m
 rw [hu] at hT
 simp only [show ((300:Nat):Int)=300 from rfl] at hT
 rw [hu]
 have hsc:scnV u=(⟨(zcpt u 8).1,idxL (zcpt u 8).2 (zcpt u 8).1 (3*(zcpt u 8).1.g.l.length),(triS ((zcpt u 8).2.adv (3*(zcpt u 8).1.g.l.length)) (zcpt u 8).1 (3*(zcpt u 8).1.g.l.length)).2,graL (triS ((zcpt u 8).2.adv (3*(zcpt u 8).1.g.l.length)) (zcpt u 8).1 (3*(zcpt u 8).1.g.l.length)).1 (zcpt u 8).1.i.l.length,30+tpN ((triS ((zcpt u 8).2.adv (3*(zcpt u 8).1.g.l.length)) (zcpt u 8).1 (3*(zcpt u 8).1.g.l.length)).1.adv (zcpt u 8).1.i.l.length) 20⟩,((triS ((zcpt u 8).2.adv (3*(zcpt u 8).1.g.l.length)) (zcpt u 8).1 (3*(zcpt u 8).1.g.l.length)).1.adv (zcpt u 8).1.i.l.length).adv 1):=rfl
 rw [hsc]
 clear hsc
 have hC:=z9dl (t:=u) (m:=8) (by omega) (by decide) (by decide)
 obtain ⟨c,hc⟩ : ∃ c,(zcpt u 8).1=c:=⟨_,rfl⟩
 obtain ⟨w,hw⟩ : ∃ w,(zcpt u 8).2=w:=⟨_,rfl⟩
 rw [hc,hw] at hC
 rw [hc] at hv hg hn9
 rw [hw] at hat
 rw [hc,hw]
 have hng:=hv.ng
 have hI:=zj2w (t:=w) (c:=c) (by omega) (by omega)
 have hpI:=zm03 (idxL w c (3*c.g.l.length))
 have hoI:=zcwq (idxL w c (3*c.g.l.length))
 obtain ⟨n,hn⟩ : ∃ n,c.g.l.length=n:=⟨_,rfl⟩
 rw [hn] at hI hng hpI hoI
 rw [hn]
 have hTr:=zbtb (t:=w.adv (3*n)) (c:=c) (by show w.at_+3*n<_; omega) (by omega)
 rw [hn] at hTr
 have htl:=zso0 (t:=w.adv (3*n)) (c:=c) (3*n)
 have hwa:(w.adv (3*n)).at_=w.at_+3*n:=rfl
 obtain ⟨T,hTe⟩ : ∃ T,triS (w.adv (3*n)) c (3*n)=T:=⟨_,rfl⟩
 rw [hTe] at hTr htl
 rw [hTe]
 obtain ⟨w2,tr⟩:=T
 simp only at hTr htl ⊢
 have hG:=zxh3 (t:=w2) (c:=c) (by omega) (by omega)
 obtain ⟨X,hX⟩ : ∃ X,idxL w c (3*n)=X:=⟨_,rfl⟩
 rw [hX] at hI hpI hoI
 rw [hX]
 obtain ⟨m,hm⟩ : ∃ m,c.i.l.length=m:=⟨_,rfl⟩
 rw [hm] at hG hn9
 rw [hm]
 have hN:=z44h (t:=w2.adv m) (n:=20) (by show w2.at_+m<_; omega) (by decide) (by decide)
 have hz:=z2s7 (w2.adv m) (n:=20) (by decide)
 have hz0:=z4rs (w2.adv m) 20
 obtain ⟨z,hze⟩ : ∃ z,tpN (w2.adv m) 20=z:=⟨_,rfl⟩
 rw [hze] at hN hz hz0
 rw [hze]
 obtain ⟨w4,hw4⟩ : ∃ w4,(w2.adv m).adv 1=w4:=⟨_,rfl⟩
 rw [hw4] at hN
 rw [hw4]
 obtain ⟨g,hge⟩ : ∃ g,graL w2 m=g:=⟨_,rfl⟩
 rw [hge] at hG
 rw [hge]
 have hx:=zkx7 x
 have s2:=fun H=>z3nx (c:=c) (a := .int .i64 0) (b := .nils) (d := .nils) (e := .nils) (f := .int .i64 0) (H:=H) (id:=2) (x := .int .i64 0) (y:=isV X) rfl hoI
 have s5:=fun H=>zo9w (c:=c) (a := .int .i64 0) (b:=isV X) (d := .nils) (e := .nils) (f := .int .i64 0) (H:=H) (id:=2) (zdci tr) (zq54 tr)
 have s6:=fun H=>zdmn (c:=c) (a := .int .i64 0) (b:=isV X) (d:=trV tr) (e := .nils) (f := .int .i64 0) (H:=H) (id:=2) (zf8a g) (zj6i g)
 have s7:=fun H=>z7tb (c:=c) (a := .int .i64 0) (b:=isV X) (d:=trV tr) (e:=liV g) (f := .int .i64 0) (H:=H) (id:=2) (x := .int .i64 (30+z)) rfl rfl
 have s8:=fun H=>zws3 (c:=c) (a := .int .i64 0) (b:=isV X) (d:=trV tr) (e:=liV g) (f := .int .i64 (30+z)) (H:=H) (id:=0) rfl hoI (zq54 tr) (zj6i g) rfl
 have s0:=fun H=>zws3 (c:=c) (a := .int .i64 0) (b := .nils) (d := .nils) (e := .nils) (f := .int .i64 0) (H:=H) (id:=2) rfl rfl rfl rfl rfl
 have hlo : ∀ a b d e f,(o8 c a b d e f).length=8:=fun a b d e f=>rfl
 have hfin:scnC ⟨c,X,tr,g,30+z⟩=o8 c (.int .i64 0) (isV X) (trV tr) (liV g) (.int .i64 (30+z)):=rfl
 rw [hfin]
 simp (disch:=first|omega|simp<;>omega|fail) [-zA,-zB,-zC,-zD,-zE,o8_b,s0,s2,s5,s6,s7,s8,o8_3,o8_8,hlo,zy11,a12,z9vj,hT,zf0m,hC,z6jf,hI,zj0z,hTr,zdoe,hG,zkp3,hN,hx]
 done
end
section
set_option linter.unusedSimpArgs false
set_option linter.unusedVariables false
set_option maxRecDepth 20000
open Go Go.Am
theorem zenn:Tot lsP:=by
 have h:=zqwe (f:=fun a:Rqs=>(a.ns,(a.im,a.art))) (fun a b e=>by
  obtain ⟨a1,a2,a3⟩:=a
  obtain ⟨b1,b2,b3⟩:=b
  simp only [Prod.mk.injEq] at e
  rw [e.1,e.2.1,e.2.2]) (zcht z3gj (zcht z3gj zc3a))
 have e:(fun a b:Rqs=>zynh Op.bytesLess (zynh Op.bytesLess dgLt) (a.ns,(a.im,a.art)) (b.ns,(b.im,b.art)))=lsP:=by
  funext a b; rfl
 rw [e] at h
 exact h
def SrtX (l:List Ixe):Prop:=l.Pairwise fun a b=>lsP (ixR b) (ixR a)=false
theorem z7jw {a b c:Rqs} (h1:lsP b a=false) (h2:lsP b c=true):lsP a c=true:=by
 rcases zenn.tot a b with h|h|h
 ·exact zenn.tr _ _ _ h h2
 ·rw [h]; exact h2
 ·rw [h] at h1; cases h1
theorem z83d {a b e:Rqs} (h1:lsP b a=false) (h2:lsP e b=false):lsP e a=false:=by
 cases h:lsP e a with
 | false=>rfl
 | true =>
  rcases zenn.tot a b with q|q|q
  ·rw [zenn.tr _ _ _ h q] at h2; cases h2
  ·rw [q] at h; rw [h] at h2; cases h2
  ·rw [q] at h1; cases h1
theorem zd43 {e:Rqs} {l:List Ixe} : ∀ k,k≤l.length→(∀ j (hj:j<l.length),insK e l k≤j→j<k→lsP e (ixR l[j])=true)∧(∀ i (hi:i<l.length),i+1=insK e l k→lsP e (ixR l[i])=false)
 | 0,_=>⟨fun j hj _ h=>by omega,fun i hi h=>by simp [insK] at h⟩
 | k+1,hk=>by
  have hlt:k<l.length:=by omega
  have hu:insK e l (k+1)=if lsP e (ixR l[k])=true then insK e l k else k+1:=by
   conv=>lhs; unfold insK
   rw [y00 hlt]
  cases h:lsP e (ixR l[k]) with
  | true =>
   rw [h,if_pos rfl] at hu
   obtain ⟨a,b⟩:=zd43 (e:=e) (l:=l) k (by omega)
   rw [hu]
   refine ⟨fun j hj h1 h2 => ?_,b⟩
   by_cases ej:j=k
   ·subst ej; exact h
   ·exact a j hj h1 (by omega)
  | false =>
   rw [h,if_neg (by simp)] at hu
   rw [hu]
   refine ⟨fun j hj h1 h2=>by omega,fun i hi h1 => ?_⟩
   obtain rfl:i=k:=by omega
   exact h
theorem zhsg {l:List Ixe} {e:Ixe} (h:SrtX l):SrtX (insX l e):=by
 have hle:=z13x (e:=ixR e) (l:=l) l.length
 obtain ⟨s1,s2⟩:=zd43 (e:=ixR e) (l:=l) l.length (y03 _)
 unfold insX
 obtain ⟨k,hk⟩ : ∃ k,insK (ixR e) l l.length=k:=⟨_,rfl⟩
 rw [hk] at hle s1 s2 ⊢
 have hp:=y0e.1 h
 have before : ∀ i (hi:i<l.length),i<k→lsP (ixR e) (ixR l[i])=false:=fun i hi hik=>by
  by_cases q:i+1=k
  ·exact s2 i hi q
  ·exact z83d (hp i (k-1) hi (by omega) (by omega)) (s2 (k-1) (by omega) (by omega))
 have after : ∀ j (hj:j<l.length),k≤j→lsP (ixR l[j]) (ixR e)=false:=fun j hj hkj=>by
  cases q:lsP (ixR l[j]) (ixR e) with
  | false=>rfl
  | true =>
   have:=zenn.tr _ _ _ (s1 j hj hkj hj) q
   rw [zenn.irr] at this; cases this
 unfold SrtX
 rw [y0j,y0j]
 refine ⟨h.sublist (y0i _ _),⟨y0w _ _,h.sublist (List.drop_sublist _ _),fun a ha b hb => ?_⟩,fun a ha b hb => ?_⟩
 ·obtain rfl:a=e:=by simpa using ha
  obtain ⟨j,hj,rfl⟩:=y09 hb
  rw [List.getElem_drop]
  exact after _ _ (by omega)
 ·obtain ⟨i,hi,rfl⟩:=y09 ha
  rw [y0f] at hi
  rw [List.getElem_take]
  rcases y01.1 hb with hb|hb
  ·obtain rfl:b=e:=by simpa using hb
   exact before _ _ (by omega)
  ·obtain ⟨j,hj,rfl⟩:=y09 hb
   rw [List.length_drop] at hj
   rw [List.getElem_drop]
   exact hp i (k+j) (by omega) (by omega) (by omega)
theorem z41v {t:Tp} {c:Clu} : ∀ m,SrtX (idxL t c m)
 | 0=>List.Pairwise.nil
 | m+1=>zhsg (z41v m)
theorem zqdf {r:Rqs} {x:Ixe}:cmpR r x<0↔lsP (ixR x) r=true:=by
 rw [zaif,decide_eq_true_eq]; rfl
theorem z4xb {l:List Ixe} (h:SrtX l) (r:Rqs):Mono (cmpR r) l:=by
 intro i j hi hj hij hc
 rw [zqdf] at hc ⊢
 exact z7jw (y0e.1 h i j hi hj hij) hc
def ltT (a b:Tri):Prop:=a.grp<b.grp∨(a.grp=b.grp∧dgLt a.art b.art=true)
theorem zgl2 {i j:Nat} (h:i<j) (hj:j<3):dgLt (dgB ((i:Int)+1)) (dgB ((j:Int)+1))=true:=by
 have:(i=0∧j=1)∨(i=0∧j=2)∨(i=1∧j=2):=by omega
 rcases this with ⟨rfl,rfl⟩|⟨rfl,rfl⟩|⟨rfl,rfl⟩<;>rfl
theorem z2rl {t:Tp} {c:Clu} : ∀ m,(triS t c m).2.Pairwise ltT ∧ ∀ y ∈ (triS t c m).2,∃ p:Nat,p<m∧y.grp=(p / 3:Nat)∧y.art=dgB (((p % 3:Nat):Int)+1)
 | 0=>⟨List.Pairwise.nil,fun y hy=>by simp [triS] at hy⟩
 | m+1=>by
  obtain ⟨h1,h2⟩:=z2rl (t:=t) (c:=c) m
  have up : ∀ y ∈ (triS t c m).2,∃ p:Nat,p<m+1∧y.grp=(p / 3:Nat)∧y.art=dgB (((p % 3:Nat):Int)+1):=fun y hy=>by
   obtain ⟨p,a,b⟩:=h2 y hy
   exact ⟨p,by omega,b⟩
  unfold triS
  split
  ·split
   ·split
    ·simp only
     rw [y0j]
     refine ⟨⟨h1,y0w _ _,fun a ha b hb => ?_⟩,fun y hy => ?_⟩
     ·obtain rfl:b=_:=by simpa using hb
      obtain ⟨p,p1,p2,p3⟩:=h2 a ha
      unfold ltT
      rw [p2,p3]
      simp only
      by_cases q:p / 3=m / 3
      ·exact .inr ⟨by omega,zgl2 (i:=p % 3) (j:=m % 3) (by omega) (by omega)⟩
      ·exact .inl (by omega)
     ·rcases y01.1 hy with hy|hy
      ·exact up y hy
      ·obtain rfl:y=_:=by simpa using hy
       exact ⟨m,by omega,rfl,rfl⟩
    ·exact ⟨h1,up⟩
   ·exact ⟨h1,up⟩
  ·exact ⟨h1,up⟩
theorem zyto {a b:Int}:cmpI a b<0↔a<b:=by unfold cmpI; split<;>(try split)<;>omega
theorem zybz {a b:Int}:cmpI a b=0↔a=b:=by unfold cmpI; split<;>(try split)<;>omega
theorem zc02 {g:Int} {d:Dg} {x:Tri}:cmpT g d x<0↔x.grp<g∨(x.grp=g∧dgLt x.art d=true):=by
 unfold cmpT orI
 by_cases e:x.grp=g
 ·rw [if_pos (zybz.2 e),zxr9]
  simp [e]
 ·rw [if_neg (fun q=>e (zybz.1 q)),zyto]
  simp [e]
theorem zc0u {l:List Tri} (h:l.Pairwise ltT) (k:Int) (d:Dg):Mono (cmpT k d) l:=by
 intro i j hi hj hij hc
 rw [zc02] at hc ⊢
 have:=y0e.1 h i j hi hj hij
 unfold ltT at this
 rcases this with a|⟨a1,a2⟩
 ·rcases hc with b|⟨b1,b2⟩
  ·exact .inl (by omega)
  ·exact .inl (by omega)
 ·rcases hc with b|⟨b1,b2⟩
  ·exact .inl (by omega)
  ·exact .inr ⟨by omega,zc3a.tr _ _ _ a2 b2⟩
end
section
set_option linter.unusedSimpArgs false
set_option linter.unusedVariables false
set_option maxRecDepth 20000
open Go Go.Am
structure RI (gs:List (List UInt8 × List UInt8 × Int × Int × Int × List Dg)) (s:Rnd) (B O:Nat):Prop where
 v:ValidC s.c
 g:s.c.g.l.map gl=gs
 b:s.c.i.l.length≤B
 o:s.o.length≤O
section
variable {gs:List (List UInt8 × List UInt8 × Int × Int × Int × List Dg)} {s:Rnd} {B O:Nat} {t:Int}
theorem zzee (h:RI gs s B O) {B' O':Nat} (hb:B≤B') (ho:O≤O'):RI gs s B' O':=⟨h.v,h.g,by have:=h.b; omega,by have:=h.o; omega⟩
theorem z7tf (h:RI gs s B O) (id:Int):RI gs (zyao t s id) B (O+1):=by
 by_cases h0:(z5wo s.c id t 3).2=0
 ·obtain ⟨i,hi,hf⟩:=zkzr h0
  have ht:zcie t:=by
   by_cases q:zcie t
   ·exact q
   ·unfold z5wo at h0; rw [if_pos (.inr q)] at h0; simp at h0
  have hst:s.c.i.l[i].state≠3:=by
   unfold z5wo at h0
   rw [if_neg (fun q=>q.elim (fun q=>q h.v) (fun q=>q ht)),hf,if_neg (by omega),y0a,y00 hi] at h0
   intro e
   simp [may,e] at h0
  have hid:s.c.i.l[i].id=id:=by
   obtain ⟨j,hj,e,p1,_⟩:=ziel (p:=fun x:Ins=>decide (x.id=id)) (l:=s.c.i.l) (by show (0:Int)≤z092 s.c.i.l id; rw [hf]; omega)
   have e:z092 s.c.i.l id=j:=e
   rw [hf] at e
   obtain rfl:i=j:=by omega
   simpa using p1
  have hv:=(z1s1 (gs:=gs) (s:=s) (l:=s.c.i.l) (n:=s.c.next) (o:=s.o) ⟨h.v,h.g,rfl,rfl,rfl⟩ ht (y0b hi) hst).1
  rw [hid] at hv
  exact ⟨hv.v,hv.g,by rw [hv.i,zo9a]; exact h.b,by rw [hv.o]; simp [zzoh]; exact h.o⟩
 ·have e:zyao t s id=s:=by unfold zyao; rw [if_neg h0]
  rw [e]; exact zzee h (y03 _) (by omega)
theorem z165 : ∀ {V:List Int} {s:Rnd} {O:Nat},RI gs s B O→RI gs (V.foldl (zyao t) s) B (O+V.length)
 | [],s,O,h=>h
 | a::V,s,O,h=>by
  have:=z165 (V:=V) (z7tf (t:=t) h a)
  rw [y0p,List.length_cons]
  exact zzee this (y03 _) (by omega)
theorem z3da (h:RI gs s B O) {tr:List Tri} {ix:List Ixe} {k:Int}:RI gs (zusy tr ix t k s).2 (B+1) (O+1):=by
 cases hb:(zusy tr ix t k s).1 with
 | false=>rw [z0v2 hb]; exact zzee h (by omega) (by omega)
 | true =>
  have hg:=zu5r hb
  cases hc:choC tr ix s.c k t with
  | none=>unfold zusy at hb; rw [hc] at hb; simp at hb
  | some d =>
   have hs:zusy tr ix t k s=if (z4wu s.c k d t).2.2=0 then (true,⟨(z4wu s.c k d t).1,s.o++[⟨1,(z4wu s.c k d t).2.1,d⟩]⟩) else (false,s):=by unfold zusy; rw [hc]
   by_cases h0:(z4wu s.c k d t).2.2=0
   ·rw [if_pos h0] at hs
    have hst:=h0
    unfold z4wu at hst
    split at hst
    ·simp at hst
    rename_i c1
    split at hst
    ·simp at hst
    rename_i c2
    split at hst
    ·simp at hst
    rename_i c3
    have ht:zcie t:=Classical.byContradiction fun q=>c1 (.inr (.inr q))
    have hd:d≠dg0:=fun q=>c1 (.inr (.inl q))
    obtain ⟨K,rfl⟩ : ∃ K:Nat,k=K:=⟨k.toNat,by omega⟩
    have hgl:gs.length=s.c.g.l.length:=by rw [← h.g]; simp
    have hv:=(zd62 (gs:=gs) (s:=s) (l:=s.c.i.l) (n:=s.c.next) (o:=s.o) ⟨h.v,h.g,rfl,rfl,rfl⟩ ht (k:=K) (by omega) hd (by omega) (by omega)).2.2.1
    have hv:=hv (s.o++[⟨1,(z4wu s.c K d t).2.1,d⟩])
    rw [hs]
    exact ⟨hv.v,hv.g,by rw [hv.i]; simp; exact h.b,by simp; exact h.o⟩
   ·rw [if_neg h0] at hs; rw [hs] at hb; simp at hb
theorem z6og {tr:List Tri} {ix:List Ixe} {k want:Int} : ∀ {m:Nat} {s:Rnd} {B O:Nat},RI gs s B O→RI gs (zinu tr ix t k want m s) (B+m) (O+m)
 | 0,s,B,O,h=>h
 | m+1,s,B,O,h=>by
  unfold zinu
  split
  ·exact zzee (z6og (m:=m) (z3da h)) (by omega) (by omega)
  ·exact zzee h (by omega) (by omega)
theorem zf4b (h:RI gs s B O) {tr:List Tri} {ix:List Ixe} {k want:Int}:RI gs (filS tr ix t k want s) (B+want.toNat) (O+want.toNat):=by
 unfold filS
 exact zzee (z6og h) (by omega) (by omega)
end
end
section
set_option linter.unusedSimpArgs false
set_option linter.unusedVariables false
set_option maxRecDepth 20000
open Go Go.Am
section
variable {gs:List (List UInt8 × List UInt8 × Int × Int × Int × List Dg)} {s:Rnd} {B O:Nat} {t:Int}
theorem zux2 (h:RI gs s B O) {k:Int}:RI gs (grS1 t k s) B (O+B):=by
 have h1:=zt4h (k:=k) (G:=znqs s.c k) (b:=false) (l:=s.c.i.l)
 have:=h.b
 exact zzee (z165 (t:=t) (V:=stgL k (znqs s.c k) false s.c.i.l) h) (y03 _) (by omega)
theorem znba (h:RI gs s B O) {k want:Int}:RI gs (grS2 t k want s) B (O+B):=by
 have h1:=zt4h (k:=k) (G:=znqs s.c k) (b:=true) (l:=s.c.i.l)
 have:=h.b
 have h2:((stgL k (znqs s.c k) true s.c.i.l).reverse.take ((znqs s.c k).length-want).toNat).length≤B:=by
  rw [y0f,y0g]; omega
 exact zzee (z165 (t:=t) (V:=(stgL k (znqs s.c k) true s.c.i.l).reverse.take ((znqs s.c k).length-want).toNat) h) (y03 _) (by omega)
theorem zfti (h:RI gs s B O) {k:Int}:RI gs (grS3 t k s) B (O+3*B):=by
 have h1:=z9e8 (c:=s.c) (k:=k)
 have:=h.b
 have h2:((zu3j s.c k).take (z17v s.c k).toNat).length≤3*B:=by rw [y0f]; omega
 exact zzee (z165 (t:=t) (V:=(zu3j s.c k).take (z17v s.c k).toNat) h) (y03 _) (by omega)
theorem z714 (h:RI gs s B O) {tr:List Tri} {ix:List Ixe} {k want:Int}:RI gs (grpS tr ix t k want s) (B+want.toNat) (O+5*B+want.toNat) :=
 zzee (zf4b (zfti (znba (zux2 h)))) (by omega) (by omega)
theorem z8wq (h:RI gs s B O) (hB:B≤19) (hO:O≤20000) {k:Nat} {want:Int} (hk:k<s.c.g.l.length) (hw:s.c.g.l[k].want=want):GrOK t s k want:=by
 obtain ⟨q,_⟩:=h.v.g k hk
 have w0:=q.w0
 have w1:=q.w1
 have hb:=h.b
 have ho:=h.o
 refine ⟨hk,hw,by omega,by omega,by omega,by omega,?_⟩
 have r:=znba (t:=t) (k:=k) (want:=want) (zux2 (t:=t) (k:=k) h)
 exact zt0b r.v (by have:=r.b; omega)
end
theorem z4ua {c d:Clu} (h:d.g.l.map gl=c.g.l.map gl) {k:Nat} (hk:k<c.g.l.length) : ∃ hk':k<d.g.l.length,d.g.l[k].want=ze6v c k:=by
 have hl:d.g.l.length=c.g.l.length:=by have:=congrArg List.length h; simpa using this
 refine ⟨by omega,?_⟩
 have e:gl (d.g.l[k]'(by omega))=gl c.g.l[k]:=by
  have:=y0h h (i:=k) (by simp; omega)
  simpa using this
 unfold ze6v
 rw [y00 hk]
 simp only [gl,Prod.mk.injEq] at e
 exact e.2.2.1
theorem z3g1 {c:Clu} {s0:Rnd} {tr:List Tri} {ix:List Ixe} {t:Int} {B0 O0:Nat} (h0:RI (c.g.l.map gl) s0 B0 O0) (hw : ∀ g ∈ c.g.l,g.want≤3) : ∀ {k:Nat},k≤c.g.l.length→k≤3→B0+9≤19→RI (c.g.l.map gl) (rndS tr ix t c k s0) (B0+3*k) (O0+100*k)
 | 0,_,_,_=>h0
 | k+1,hk,h3,hB=>by
  have ih:=z3g1 (tr:=tr) (ix:=ix) (t:=t) h0 hw (k:=k) (by omega) (by omega) hB
  have hwk:ze6v c k≤3:=by
   unfold ze6v
   rw [y00 (show k<c.g.l.length by omega)]
   exact hw _ (y0b _)
  exact zzee (z714 (tr:=tr) (ix:=ix) (t:=t) (k:=k) (want:=ze6v c k) ih) (by omega) (by omega)
theorem zwds {c:Clu} (hv:ValidC c):ValidC c.clone :=
 zqis hv (y:=c.i.clone) rfl fun i h1 h2=>⟨rfl,(hv.i i h2).1⟩
theorem zpyu {c:Clu} (hv:ValidC c) {gr:List Int} {t:Int}:RI (c.g.l.map gl) (rnd0 gr t c) c.i.l.length c.i.l.length:=by
 have h0:RI (c.g.l.map gl) ⟨c.clone,[]⟩ c.i.l.length 0:=⟨zwds hv,z9hp _,y03 _,y03 _⟩
 have hL:=z9p7 (gr:=gr) (t:=t) (l:=c.i.l) (j:=0)
 exact zzee (z165 (t:=t) (V:=ze9z c.i.l 0 gr t) h0) (y03 _) (by omega)
theorem zrko {a:RdA} (hv:ValidC a.c) (hn:a.c.g.l.length≤3) (hw : ∀ g ∈ a.c.g.l,g.want≤3) (hi:a.c.i.l.length≤10) (hch:ChOK a.x a.tr) (hov:OvOK (a.c,a.gr,a.t)):RdOK a:=by
 refine ⟨hch,hov,by omega,fun k hk => ?_⟩
 have h0:=zzee (zpyu (gr:=a.gr.l) (t:=a.t) hv) hi hi
 have h1:=z3g1 (tr:=a.tr.l) (ix:=a.x.e.l) (t:=a.t) h0 hw (k:=k) (by omega) (by omega) (by decide)
 obtain ⟨p,q⟩:=z4ua h1.g hk
 exact z8wq h1 (by omega) (by omega) p q
def Sml (c:Clu) (n:Nat):Prop:=(∀ x ∈ c.g.l,x.want≤3)∧c.g.l.length≤n
theorem zipw {c:Clu} {g:Grp} {n:Nat} (h:(zxl9 c g).2=0) (hc:Sml c n) (hn:n≤100) (hg:g.want≤3):Sml (zxl9 c g).1 (n+1):=by
 obtain ⟨h1,h2⟩:=hc
 unfold zxl9 at h ⊢
 split at h
 ·simp at h
 rename_i c1
 rw [if_neg c1]
 split at h
 ·rename_i c2
  rw [if_pos c2]
  split at h
  ·simp at h
  rename_i c3
  rw [if_neg c3]
  have hol:(own (c.g.l++[g])).l=c.g.l++[g]:=z3e9 (by simp; omega)
  refine ⟨fun x hx => ?_,by show (own _).l.length≤_; rw [hol]; simp; omega⟩
  have hx:x ∈ (own (c.g.l++[g])).l:=hx
  rw [hol] at hx
  rcases y01.1 hx with hx|hx
  ·exact h1 x hx
  ·obtain rfl:x=g:=by simpa using hx
   exact hg
 ·rename_i c2
  rw [if_neg c2]
  have hol:(own (c.g.l.set (z9w0 c.g.l g.ns g.im).toNat g)).l=c.g.l.set (z9w0 c.g.l g.ns g.im).toNat g:=z3e9 (by simp; omega)
  refine ⟨fun x hx => ?_,by show (own _).l.length≤_; rw [hol]; simp; omega⟩
  have hx:x ∈ (own (c.g.l.set (z9w0 c.g.l g.ns g.im).toNat g)).l:=hx
  rw [hol] at hx
  rcases List.mem_or_eq_of_mem_set hx with hx|hx
  ·exact h1 x hx
  ·rw [hx]; exact hg
theorem zk8v : ∀ (k:Nat) (c:Clu) (t:Tp) (n:Nat),Sml c n→n+k≤100→Sml (zp0i k c t).1 (n+k)
 | 0,c,t,n,h,_=>h
 | k+1,c,t,n,h,hn=>by
  have hw:(zlt0 t zdmg).1.want≤3:=by
   have:=z2s7 (t.adv 2) (n:=4) (by decide)
   show tpN (t.adv 2) 4≤3
   omega
  have h1:Sml (dOne c t) (n+1):=by
   unfold dOne
   split
   ·rename_i q; exact zipw q h (by omega) hw
   ·exact ⟨h.1,by have:=h.2; omega⟩
  have:=zk8v k (dOne c t) (zlt0 t zdmg).2 (n+1) h1 (by omega)
  show Sml (zp0i k (dOne c t) (zlt0 t zdmg).2).1 (n+(k+1))
  rw [show n+(k+1)=n+1+k by omega]
  exact this
theorem z7ak (t:Tp) (m:Int):Sml (zcpt t m).1 2:=by
 have h0:Sml (cl0 t) 0:=⟨fun x hx=>by simp [cl0,nilG] at hx,by simp [cl0,nilG]⟩
 have hz:=z2s7 (t.adv 1) (n:=2) (by decide)
 have hz0:=z4rs (t.adv 1) 2
 have h1:=zk8v ((tpN (t.adv 1) 2).toNat+1) (cl0 t) (t.adv 2) 0 h0 (by omega)
 exact ⟨h1.1,by have:=h1.2; show (clD t).1.g.l.length≤2; unfold clD; omega⟩
end
section
set_option linter.unusedSimpArgs false
set_option linter.unusedVariables false
set_option maxRecDepth 20000
open Go Go.Am
theorem zpl6 (s:Scn):zbao (scnC s)=true:=by
 simp only [scnC,zbao,zyp8,z1vd,zcha,zm03,znen,z4yh,Bool.and_self]
noncomputable def cScn:List DV→Nat→Option (DV × List AObj):=conN (fun _=>True) (fun x:Nl=>[x.dv]) (fun x=>(.tup [.agg (scnC (scnV (tp0 x 300)).1),.mp 1 2 0],[.cells (scnC (scnV (tp0 x 300)).1),.cells (tpC (scnV (tp0 x 300)).2),.cells (scnC (scnV (tp0 x 300)).1)]))
theorem zd92 {x:Nl} {n:Nat}:cScn [x.dv] n=some (.tup [.agg (scnC (scnV (tp0 x 300)).1),.mp (n+1) 2 0],[.cells (scnC (scnV (tp0 x 300)).1),.cells (tpC (scnV (tp0 x 300)).2),.cells (scnC (scnV (tp0 x 300)).1)]):=by
 have:=zqtp (A:=fun _=>True) (f:=fun x:Nl=>[x.dv]) (g:=fun x=>(DV.tup [.agg (scnC (scnV (tp0 x 300)).1),.mp 1 2 0],[AObj.cells (scnC (scnV (tp0 x 300)).1),.cells (tpC (scnV (tp0 x 300)).2),.cells (scnC (scnV (tp0 x 300)).1)])) (fun a b e=>by
  simp only [List.cons.injEq,and_true] at e
  rw [z2kw e]) x trivial n
 rw [cScn,this]
 simp [shD,shO,shL,zj45,zpl6,zs7w,Nat.add_comm]
theorem zr8u:(Con.new cScn).Sound P 12:=z3ld (fun x _=>by simp [zbao,zkx7]) fun x _=>zv22 mix zqvq Tryz.func12 zqkh (zfog x)
noncomputable def cRnd:List DV→Option DV:=con RdOK (fun a=>[.agg (clC a.c),.agg (xiC a.x),a.tr.dv 35 trC,a.gr.dv,.int .i64 a.t]) (fun a=>rdV (rndP a.tr.l a.x.e.l a.gr.l a.t a.c))
theorem zunp {a:RdA} (h:RdOK a):cRnd [.agg (clC a.c),.agg (xiC a.x),a.tr.dv 35 trC,a.gr.dv,.int .i64 a.t]=some (rdV (rndP a.tr.l a.x.e.l a.gr.l a.t a.c)) :=
 zzno (A:=RdOK) (f:=fun a=>[.agg (clC a.c),.agg (xiC a.x),a.tr.dv 35 trC,a.gr.dv,.int .i64 a.t]) (g:=fun a=>rdV (rndP a.tr.l a.x.e.l a.gr.l a.t a.c)) (by
  rintro ⟨a1,a2,a3,a4,a5⟩ ⟨b1,b2,b3,b4,b5⟩ e
  simp only [List.cons.injEq,DV.agg.injEq,DV.int.injEq,and_true,true_and] at e
  rw [zh7t e.1,zt7p e.2.1,z47i e.2.2.1,z2kw e.2.2.2.1,e.2.2.2.2]) a h
theorem zclv:(Con.pure cRnd).Sound P 25:=z2au fun a h=>z81i a h
end
section
set_option linter.unusedSimpArgs false
set_option linter.unusedVariables false
set_option maxRecDepth 20000
open Go Go.Am
theorem zxrl {tr:List Tri} {ix:List Ixe} {c d:Clu} {k:Nat} {t:Int} (h:c.g.l.map gl=d.g.l.map gl):choC tr ix c k t=choC tr ix d k t:=by
 have hl:c.g.l.length=d.g.l.length:=by have:=congrArg List.length h; simpa using this
 unfold choC grAt
 rw [if_pos (by omega),if_pos (by omega),y0a]
 by_cases hk:k<c.g.l.length
 ·rw [y00 hk,y00 (show k<d.g.l.length by omega)]
  have e:gl c.g.l[k]=gl (d.g.l[k]'(by omega)):=by
   have:=y0h h (i:=k) (by simp; omega)
   simpa using this
  simp only [gl,Prod.mk.injEq] at e
  obtain ⟨e1,e2,_,_,_,e6⟩:=e
  show choF tr ix c.g.l[k] k t=choF tr ix (d.g.l[k]'(by omega)) k t
  unfold choF
  rw [e6]
  have hb:choB tr ix c.g.l[k] k t=choB tr ix (d.g.l[k]'(by omega)) k t:=by
   funext x
   unfold choB
   rw [e1,e2]
  rw [hb]
 ·rw [y0d (by omega),y0d (by omega)]
theorem zmpl {t:Int} {s:Rnd} {id:Int}:(zyao t s id).c.next=s.c.next:=by
 unfold zyao
 split
 ·rename_i h
  show (z5wo s.c id t 3).1.next=_
  unfold z5wo at h ⊢
  by_cases h1:¬ ValidC s.c∨¬ zcie t
  ·rw [if_pos h1] at h; simp at h
  rw [if_neg h1] at h ⊢
  by_cases h2:z092 s.c.i.l id<0
  ·rw [if_pos h2] at h; simp at h
  rw [if_neg h2] at h ⊢
  split at h
  ·rename_i h3; rw [if_pos h3]
  ·simp at h
 ·rfl
theorem zl9x {t:Int} : ∀ {V:List Int} {s:Rnd},(V.foldl (zyao t) s).c.next=s.c.next
 | [],s=>rfl
 | a::V,s=>by rw [y0p,zl9x,zmpl]
theorem zzn3 {tr:List Tri} {ix:List Ixe} {t k:Int} {s:Rnd}:(zusy tr ix t k s).2.c.next≤s.c.next+1:=by
 unfold zusy
 split
 ·simp only; omega
 ·split
  ·rename_i h
   rw [(zzaj h).1]
   exact Int.le_refl _
  ·simp only; omega
theorem zhbq {gs:List (List UInt8 × List UInt8 × Int × Int × Int × List Dg)} {s:Rnd} {B O:Nat} {t:Int} (h:RI gs s B O) (ht:zcie t) (hB:B<200) (hn:s.c.next<1099511627776) {tr:List Tri} {ix:List Ixe} {k:Nat} {d:Dg} (hc:choC tr ix s.c k t=some d):(zusy tr ix t k s).1=true:=by
 have hk:k<s.c.g.l.length∧d≠dg0:=by
  unfold choC grAt at hc
  rw [if_pos (by omega),y0a] at hc
  by_cases hk:k<s.c.g.l.length
  ·rw [y00 hk] at hc
   have hm:=y0v hc
   obtain ⟨i,hi,e⟩:=y09 hm
   exact ⟨hk,by rw [← e]; exact ((h.v.g k hk).1.ch i hi).1⟩
  ·rw [y0d (by omega)] at hc; simp at hc
 have hgl:gs.length=s.c.g.l.length:=by rw [← h.g]; simp
 have hb:=h.b
 have hv:=(zd62 (gs:=gs) (s:=s) (l:=s.c.i.l) (n:=s.c.next) (o:=s.o) ⟨h.v,h.g,rfl,rfl,rfl⟩ ht (k:=k) (by omega) hk.2 (by omega) hn).1
 have h0:(z4wu s.c k d t).2.2=0:=by rw [hv]
 unfold zusy
 rw [hc]
 simp only [h0,if_true]
theorem zrh1 {gs:List (List UInt8 × List UInt8 × Int × Int × Int × List Dg)} {t:Int} (ht:zcie t) {tr:List Tri} {ix:List Ixe} {k:Nat} {want:Int} : ∀ {m:Nat} {s:Rnd} {B O:Nat},RI gs s B O→B+m<200→s.c.next+m<1099511627776→(choC tr ix s.c k t).isSome=true→(znqs (zinu tr ix t k want m s).c k).length=(znqs s.c k).length+m
 | 0,s,B,O,h,_,_,_=>rfl
 | m+1,s,B,O,h,hB,hn,hc=>by
  obtain ⟨d,hd⟩:=Option.isSome_iff_exists.1 hc
  have hy:=zhbq h ht (by omega) (by omega) hd
  have hg:=(zu5r hy).1
  have hs:=z3da (t:=t) h (tr:=tr) (ix:=ix) (k:=k)
  have hx:=zzn3 (tr:=tr) (ix:=ix) (t:=t) (k:=k) (s:=s)
  unfold zinu
  rw [if_pos hy]
  have hcc:choC tr ix (zusy tr ix t k s).2.c k t=choC tr ix s.c k t:=zxrl (by rw [hs.g,h.g])
  rw [zrh1 ht (m:=m) hs (by omega) (by omega) (by rw [hcc]; exact hc),hg]
  omega
end
section
set_option linter.unusedSimpArgs false
set_option linter.unusedVariables false
set_option maxRecDepth 20000
open Go Go.Am
def part (k:Int) (l:List Ins):List Ins:=l.filter fun x=>decide (x.grp=k)
theorem z3e1 {k t:Int} {V:List Int} : ∀ {l:List Ins},(∀ x ∈ l,x.id ∈ V→x.grp≠k)→part k (mkS t V l)=part k l
 | [],_=>rfl
 | a::l,h=>by
  have ih:=z3e1 (k:=k) (t:=t) (V:=V) (l:=l) (fun x hx=>h x (by simp [hx]))
  unfold part mkS at ih ⊢
  rw [y0o,y04,y04,ih]
  by_cases hm:a.id ∈ V
  ·have hg:=h a (by simp) hm
   rw [if_pos hm]
   simp [zzdy,hg]
  ·rw [if_neg hm]
def own2 (l:List Ins):List (Int × Int):=l.map fun x=>(x.id,x.grp)
theorem zpmk {t:Int} {V:List Int} {l:List Ins}:own2 (mkS t V l)=own2 l:=by
 unfold own2 mkS
 rw [List.map_map]
 refine y0r fun x _ => ?_
 simp only [Function.comp]
 split<;>rfl
section
variable {gs:List (List UInt8 × List UInt8 × Int × Int × Int × List Dg)} {B:Nat} {t:Int}
theorem z3az {s:Rnd} {O:Nat} (h:RI gs s B O) (id:Int):(zyao t s id).c.i.l=mkS t [id] s.c.i.l∨(zyao t s id).c.i.l=s.c.i.l:=by
 by_cases h0:(z5wo s.c id t 3).2=0
 ·left
  obtain ⟨i,hi,hf⟩:=zkzr h0
  have ht:zcie t:=by
   by_cases q:zcie t
   ·exact q
   ·unfold z5wo at h0; rw [if_pos (.inr q)] at h0; simp at h0
  have hst:s.c.i.l[i].state≠3:=by
   unfold z5wo at h0
   rw [if_neg (fun q=>q.elim (fun q=>q h.v) (fun q=>q ht)),hf,if_neg (by omega),y0a,y00 hi] at h0
   intro e
   simp [may,e] at h0
  have hid:s.c.i.l[i].id=id:=by
   obtain ⟨j,hj,e,p1,_⟩:=ziel (p:=fun x:Ins=>decide (x.id=id)) (l:=s.c.i.l) (by show (0:Int)≤z092 s.c.i.l id; rw [hf]; omega)
   have e:z092 s.c.i.l id=j:=e
   rw [hf] at e
   obtain rfl:i=j:=by omega
   simpa using p1
  have hv:=(z1s1 (gs:=gs) (s:=s) (l:=s.c.i.l) (n:=s.c.next) (o:=s.o) ⟨h.v,h.g,rfl,rfl,rfl⟩ ht (y0b hi) hst).1
  rw [hid] at hv
  exact hv.i
 ·right
  unfold zyao; rw [if_neg h0]
theorem zvfe {k:Int} : ∀ {V:List Int} {s:Rnd} {O:Nat},RI gs s B O→(∀ id ∈ V,∀ g,(id,g) ∈ own2 s.c.i.l→g≠k)→part k (V.foldl (zyao t) s).c.i.l=part k s.c.i.l
 | [],s,O,_,_=>rfl
 | a::V,s,O,h,hV=>by
  rw [y0p]
  have hr:=z7tf (t:=t) h a
  have hl:=z3az (t:=t) h a
  have ho:own2 (zyao t s a).c.i.l=own2 s.c.i.l:=by
   rcases hl with e|e<;>rw [e]
   exact zpmk
  rw [zvfe (V:=V) hr (fun id hid g hg=>hV id (by simp [hid]) g (by rw [← ho]; exact hg))]
  rcases hl with e|e<;>rw [e]
  refine z3e1 fun x hx hm => ?_
  have:x.id=a:=by simpa using hm
  exact hV a (by simp) x.grp (y0c.2 ⟨x,hx,by rw [this]⟩)
theorem z70f {s:Rnd} {O:Nat} (h:RI gs s B O) {id g g':Int} (h1:(id,g) ∈ own2 s.c.i.l) (h2:(id,g') ∈ own2 s.c.i.l):g=g':=by
 obtain ⟨x,hx,e⟩:=y0c.1 h1
 obtain ⟨y,hy,e'⟩:=y0c.1 h2
 simp only [Prod.mk.injEq] at e e'
 obtain ⟨i,hi,rfl⟩:=y09 hx
 obtain ⟨j,hj,rfl⟩:=y09 hy
 have hd:=y0e.1 (zyak h.v).d
 have:i=j:=by
  rcases Nat.lt_trichotomy i j with q|q|q
  ·have:=hd i j hi hj q; omega
  ·exact q
  ·have:=hd j i hj hi q; omega
 subst this
 rw [← e.2,← e'.2]
theorem zpqw {s:Rnd} {O:Nat} (h:RI gs s B O) {k k':Int} (hk:k'≠k) {V:List Int} (hV : ∀ id ∈ V,(id,k') ∈ own2 s.c.i.l) : ∀ id ∈ V,∀ g,(id,g) ∈ own2 s.c.i.l→g≠k:=fun id hid g hg=>by
 rw [z70f h hg (hV id hid)]; exact hk
theorem zaob {k:Int} {G:List Int} {b:Bool} {l:List Ins} : ∀ id ∈ stgL k G b l,(id,k) ∈ own2 l:=fun id hid=>by
 obtain ⟨x,hx,rfl⟩:=y0c.1 hid
 obtain ⟨h1,h2⟩:=y0k.1 hx
 have hg:x.grp=k:=by
  unfold stgB at h2
  simp only [y02,decide_eq_true_eq] at h2
  exact h2.1
 exact y0c.2 ⟨x,h1,by rw [hg]⟩
theorem z0ky {c:Clu} {k:Int} {sel:Grp→Ins→Bool} : ∀ id ∈ idsP c k sel,(id,k) ∈ own2 c.i.l:=fun id hid=>by
 unfold idsP at hid
 split at hid
 ·obtain ⟨x,hx,rfl⟩:=y0c.1 hid
  unfold selL at hx
  obtain ⟨h1,h2⟩:=y0k.1 hx
  simp only [y02,decide_eq_true_eq] at h2
  exact y0c.2 ⟨x,h1,by rw [h2.1]⟩
 ·simp at hid
theorem zwyf {c:Clu} {k:Int} : ∀ id ∈ zu3j c k,(id,k) ∈ own2 c.i.l:=fun id hid=>by
 unfold zu3j at hid
 split at hid
 ·rcases y01.1 hid with h|h
  ·exact z0ky id ((zo43 _).mem_iff.1 h)
  ·rcases y01.1 h with h|h
   ·exact z0ky id h
   ·exact z0ky id (y07.1 (y05 h))
 ·simp at hid
theorem zokn {s:Rnd} {tr:List Tri} {ix:List Ixe} {k k':Int} (hk:k'≠k):part k (zusy tr ix t k' s).2.c.i.l=part k s.c.i.l:=by
 unfold zusy
 split
 ·rfl
 ·split
  ·rename_i h0
   obtain ⟨e1,_,e3⟩:=zzaj h0
   show part k (z4wu _ _ _ _).1.i.l=_
   rw [e1]
   show part k (own _).l=_
   rw [z3e9 (by simp; omega)]
   unfold part
   rw [List.filter_append]
   simp [newI,hk]
  ·rfl
theorem zyy9 {tr:List Tri} {ix:List Ixe} {k k' want:Int} (hk:k'≠k) : ∀ {m:Nat} {s:Rnd},part k (zinu tr ix t k' want m s).c.i.l=part k s.c.i.l
 | 0,s=>rfl
 | m+1,s=>by
  unfold zinu
  split
  ·rw [zyy9 hk,zokn hk]
  ·rfl
theorem zlyt {s:Rnd} {O:Nat} (h:RI gs s B O) {tr:List Tri} {ix:List Ixe} {k k' want:Int} (hk:k'≠k):part k (grpS tr ix t k' want s).c.i.l=part k s.c.i.l:=by
 have r1:=zux2 (t:=t) (k:=k') h
 have r2:=znba (t:=t) (k:=k') (want:=want) r1
 have e1:part k (grS1 t k' s).c.i.l=part k s.c.i.l:=zvfe h (zpqw h hk zaob)
 have e2:part k (grS2 t k' want (grS1 t k' s)).c.i.l=part k (grS1 t k' s).c.i.l:=zvfe r1 (zpqw r1 hk fun id hid=>zaob id (y07.1 (y05 hid)))
 have e3:part k (grS3 t k' (grS2 t k' want (grS1 t k' s))).c.i.l=part k (grS2 t k' want (grS1 t k' s)).c.i.l:=zvfe r2 (zpqw r2 hk fun id hid=>zwyf id (y05 hid))
 show part k (zinu tr ix t k' want _ _).c.i.l=_
 rw [zyy9 hk,e3,e2,e1]
end
end
section
set_option linter.unusedSimpArgs false
set_option linter.unusedVariables false
set_option maxRecDepth 20000
open Go Go.Am
theorem zzme {c d:Clu} {k:Nat} (h:c.g.l.map gl=d.g.l.map gl) (hp:part k c.i.l=part k d.i.l):znqs c k=znqs d k:=by
 have hl:c.g.l.length=d.g.l.length:=by have:=congrArg List.length h; simpa using this
 have hs : ∀ (l:List Ins) (p:Ins→Bool),selL l k p=(part k l).filter p:=fun l p=>by
  unfold selL part
  rw [y0l]
  congr 1
  funext x
  rw [Bool.and_comm]
 unfold znqs idsP grAt
 rw [if_pos (by omega),if_pos (by omega),y0a]
 by_cases hk:k<c.g.l.length
 ·rw [y00 hk,y00 (show k<d.g.l.length by omega)]
  have e:gl c.g.l[k]=gl (d.g.l[k]'(by omega)):=by
   have:=y0h h (i:=k) (by simp; omega)
   simpa using this
  simp only [gl,Prod.mk.injEq] at e
  obtain ⟨_,_,_,_,_,e6⟩:=e
  simp only
  rw [hs,hs,hp]
  have hb:z9qu c.g.l[k]=z9qu (d.g.l[k]'(by omega)):=by
   funext x
   unfold z9qu chos
   rw [e6]
  rw [hb]
 ·rw [y0d (by omega),y0d (by omega)]
theorem zpwj {tr:List Tri} {ix:List Ixe} {t k want:Int} : ∀ {m:Nat} {s:Rnd},(zinu tr ix t k want m s).c.next≤s.c.next+m
 | 0,s=>by simp [zinu]
 | m+1,s=>by
  unfold zinu
  split
  ·have h1:=zpwj (tr:=tr) (ix:=ix) (t:=t) (k:=k) (want:=want) (m:=m) (s:=(zusy tr ix t k s).2)
   have h2:=zzn3 (tr:=tr) (ix:=ix) (t:=t) (k:=k) (s:=s)
   omega
  ·omega
theorem zwk4 {t k want:Int} {s:Rnd}:(grS3 t k (grS2 t k want (grS1 t k s))).c.next=s.c.next:=by
 unfold grS3
 rw [zl9x]
 unfold grS2
 rw [zl9x]
 unfold grS1
 rw [zl9x]
theorem zvzy {tr:List Tri} {ix:List Ixe} {t k want:Int} {s:Rnd}:(grpS tr ix t k want s).c.next≤s.c.next+want.toNat:=by
 unfold grpS filS
 have:=zpwj (tr:=tr) (ix:=ix) (t:=t) (k:=k) (want:=want) (m:=(want-((znqs (grS3 t k (grS2 t k want (grS1 t k s))).c k).length:Int)).toNat) (s:=grS3 t k (grS2 t k want (grS1 t k s)))
 rw [zwk4] at this
 omega
theorem zblg {c:Clu} {s0:Rnd} {tr:List Tri} {ix:List Ixe} {t:Int} (hw : ∀ g ∈ c.g.l,g.want≤3) : ∀ {k:Nat},k≤c.g.l.length→(rndS tr ix t c k s0).c.next≤s0.c.next+3*k
 | 0,_=>by simp [rndS]
 | k+1,hk=>by
  have ih:=zblg (tr:=tr) (ix:=ix) (t:=t) (s0:=s0) hw (k:=k) (by omega)
  have hwk:ze6v c k≤3:=by
   unfold ze6v
   rw [y00 (show k<c.g.l.length by omega)]
   exact hw _ (y0b _)
  have h1:=zvzy (tr:=tr) (ix:=ix) (t:=t) (k:=k) (want:=ze6v c k) (s:=rndS tr ix t c k s0)
  show (grpS tr ix t k (ze6v c k) (rndS tr ix t c k s0)).c.next≤_
  omega
section
variable {c:Clu} {gr:List Int} {tr:List Tri} {ix:List Ixe} {t:Int} (hv:ValidC c) (hn:c.g.l.length≤3) (hw : ∀ g ∈ c.g.l,g.want≤3) (hi:c.i.l.length≤10) (hx:c.next≤1000000) (ht:zcie t)
include hv hn hw hi in
theorem ztza {k:Nat} (hk:k≤c.g.l.length):RI (c.g.l.map gl) (rndS tr ix t c k (rnd0 gr t c)) (10+3*k) (10+100*k) :=
 z3g1 (zzee (zpyu hv) hi hi) hw hk (by omega) (by decide)
include hv hn hw hi in
theorem z7c1 {k:Nat} : ∀ {m:Nat},k<m→m≤c.g.l.length→part k (rndS tr ix t c m (rnd0 gr t c)).c.i.l=part k (rndS tr ix t c (k+1) (rnd0 gr t c)).c.i.l
 | 0,h,_=>by omega
 | m+1,h,hm=>by
  by_cases e:k=m
  ·subst e; rfl
  ·have ih:=z7c1 (k:=k) (m:=m) (by omega) (by omega)
   rw [← ih]
   exact zlyt (ztza hv hn hw hi (tr:=tr) (ix:=ix) (t:=t) (gr:=gr) (k:=m) (by omega)) (by omega)
include hv hn hw hi hx ht in
theorem z2vc {k:Nat} (hk:k<c.g.l.length) (hc:(choC tr ix (rndP tr ix gr t c).c k t).isSome=true):ze6v c k≤(znqs (rndP tr ix gr t c).c k).length:=by
 have rN:=ztza hv hn hw hi (tr:=tr) (ix:=ix) (t:=t) (gr:=gr) (k:=c.g.l.length) (y03 _)
 have rK:=ztza hv hn hw hi (tr:=tr) (ix:=ix) (t:=t) (gr:=gr) (k:=k) (by omega)
 have rS:=ztza hv hn hw hi (tr:=tr) (ix:=ix) (t:=t) (gr:=gr) (k:=k+1) (by omega)
 have hp:=z7c1 hv hn hw hi (tr:=tr) (ix:=ix) (t:=t) (gr:=gr) (k:=k) (m:=c.g.l.length) hk (y03 _)
 have hg:znqs (rndP tr ix gr t c).c k=znqs (rndS tr ix t c (k+1) (rnd0 gr t c)).c k:=zzme (by show (rndS tr ix t c c.g.l.length (rnd0 gr t c)).c.g.l.map gl=_; rw [rN.g,rS.g]) hp
 rw [hg]
 have hnx:=zblg (tr:=tr) (ix:=ix) (t:=t) (s0:=rnd0 gr t c) hw (k:=k) (by omega)
 have h0x:(rnd0 gr t c).c.next=c.next:=by unfold rnd0; rw [zl9x]; rfl
 have hwk:ze6v c k≤3:=by
  unfold ze6v
  rw [y00 hk]
  exact hw _ (y0b _)
 obtain ⟨s,hs⟩ : ∃ s,rndS tr ix t c k (rnd0 gr t c)=s:=⟨_,rfl⟩
 rw [hs] at rK hnx
 have r3:=zfti (t:=t) (k:=k) (znba (t:=t) (k:=k) (want:=ze6v c k) (zux2 (t:=t) (k:=k) rK))
 have n3:=zwk4 (t:=t) (k:=k) (want:=ze6v c k) (s:=s)
 show ze6v c k≤(znqs (grpS tr ix t k (ze6v c k) (rndS tr ix t c k (rnd0 gr t c))).c k).length
 rw [hs]
 unfold grpS filS
 obtain ⟨s3,hs3⟩ : ∃ s3,grS3 t k (grS2 t k (ze6v c k) (grS1 t k s))=s3:=⟨_,rfl⟩
 rw [hs3] at r3 n3 ⊢
 have hcc:choC tr ix s3.c k t=choC tr ix (rndP tr ix gr t c).c k t:=zxrl (by rw [r3.g]; exact rN.g.symm)
 have:=zrh1 (tr:=tr) (ix:=ix) (k:=k) (want:=ze6v c k) (m:=(ze6v c k-((znqs s3.c k).length:Int)).toNat) ht r3 (by omega) (by omega) (by rw [hcc]; exact hc)
 rw [this]
 omega
end
end
section
set_option linter.unusedSimpArgs false
set_option linter.unusedVariables false
set_option maxRecDepth 20000
open Go Go.Am
theorem znuy (t:Tp) (m:Int) (h0:0≤m) (h1:m≤200):(zcpt t m).1.next≤1000000:=by
 obtain ⟨hc,hg⟩:=zfm1 t
 have m1:=z4rs (clD t).2 (m+1)
 have m2:=z2s7 (clD t).2 (n:=m+1) (by omega)
 have hgl:1≤(clD t).1.g.l.length:=List.length_pos_iff.2 hg
 obtain ⟨-,-,k3,-⟩:=zc7j hgl (tpN (clD t).2 (m+1)).toNat [] (clD t).1.next ((clD t).2.adv 1) hc.n0 ⟨by simp,by simp⟩
 have hn1:=hc.n1
 show (zgc4 (clD t).1.g.l.length (tpN (clD t).2 (m+1)).toNat [] (clD t).1.next ((clD t).2.adv 1)).2.1≤_
 omega
def trSl (l:List Tri) (h:l.length≤100000):Sl Tri:=⟨if l=[] then none else some false,l,fun e=>by
 by_cases q:l=[]
 ·exact q
 ·simp [q] at e,by omega⟩
theorem z3eh {l:List Tri} (h:l.length≤100000):(trSl l h).dv 35 trC=trV l:=by
 unfold trSl trV Sl.dv
 by_cases q:l=[]
 ·simp only [q,if_true]; rfl
 ·simp only [q,if_false]; rfl
structure ScnF (s:Scn) (a:RdA):Prop where
 ok:RdOK a
 c:a.c=s.c
 x0:a.x.at_=0
 x:a.x.e.dv 105 ixC=isV s.x
 tr:a.tr.dv 35 trC=trV s.tr
 gr:a.gr.dv=liV s.gr
 t:a.t=s.t
 v:ValidC a.c
 n:a.c.g.l.length≤3
 w : ∀ g ∈ a.c.g.l,g.want≤3
 i:a.c.i.l.length≤10
 nx:a.c.next≤1000000
 tm:zcie a.t
theorem ztew (u:Tp) (hu:u.at_=0) : ∃ a,ScnF (scnV u).1 a:=by
 obtain ⟨hv,hg⟩:=zlnb u 8 (by decide) (by decide)
 have hn9:=zukg u 8 (by decide) (by decide)
 have hat:=z2ep u 8 (by decide) (by decide)
 have hnx:=znuy u 8 (by decide) (by decide)
 obtain ⟨sw,sn⟩:=z7ak u 8
 obtain ⟨c,hc⟩ : ∃ c,(zcpt u 8).1=c:=⟨_,rfl⟩
 obtain ⟨w,hw⟩ : ∃ w,(zcpt u 8).2=w:=⟨_,rfl⟩
 rw [hc] at hv hg hn9 hnx sw sn
 have hi10:c.i.l.length≤10:=by omega
 have hil:=zjjk (t:=w) (c:=c) (3*c.g.l.length)
 have htl:=zso0 (t:=w.adv (3*c.g.l.length)) (c:=c) (3*c.g.l.length)
 have hts:=(z2rl (t:=w.adv (3*c.g.l.length)) (c:=c) (3*c.g.l.length)).1
 have hixs:=z41v (t:=w) (c:=c) (3*c.g.l.length)
 obtain ⟨w2,hw2⟩ : ∃ w2,(triS (w.adv (3*c.g.l.length)) c (3*c.g.l.length)).1=w2:=⟨_,rfl⟩
 have hgl:=zuov (t:=w2) (n:=c.i.l.length)
 have hz:=z2s7 (w2.adv c.i.l.length) (n:=20) (by decide)
 have hz0:=z4rs (w2.adv c.i.l.length) 20
 have htm:zcie (30+tpN (w2.adv c.i.l.length) 20):=⟨by omega,by omega⟩
 have hsc:(scnV u).1=⟨c,idxL w c (3*c.g.l.length),(triS (w.adv (3*c.g.l.length)) c (3*c.g.l.length)).2,graL w2 c.i.l.length,30+tpN (w2.adv c.i.l.length) 20⟩:=by rw [← hw2,← hc,← hw]; rfl
 rw [hsc]
 have hch:ChOK ⟨0,isS (idxL w c (3*c.g.l.length)) (by omega)⟩ (trSl (triS (w.adv (3*c.g.l.length)) c (3*c.g.l.length)).2 (by omega)):=⟨fun k d=>zc0u hts k d,fun r=>z4xb hixs r⟩
 have hov:OvOK (c,nlO (graL w2 c.i.l.length) (by omega),30+tpN (w2.adv c.i.l.length) 20):=by
  refine ⟨fun x hx => ?_,fun n hn => ?_,(show okT (30+tpN (w2.adv c.i.l.length) 20) from ⟨by omega,by omega⟩)⟩
  ·have hx:x ∈ c.i.l:=hx
   obtain ⟨j,hj,rfl⟩:=y09 hx
   rcases (hv.i j hj).1.de with e|e
   ·rw [e]; exact ⟨by decide,by decide⟩
   ·exact ⟨by have:=e.1; omega,by have:=e.2; omega⟩
  ·have hn:n ∈ graL w2 c.i.l.length:=hn
   have:=z3e0 hn
   exact ⟨by omega,by omega⟩
 exact ⟨⟨c,⟨0,isS (idxL w c (3*c.g.l.length)) (by omega)⟩,trSl (triS (w.adv (3*c.g.l.length)) c (3*c.g.l.length)).2 (by omega),nlO (graL w2 c.i.l.length) (by omega),30+tpN (w2.adv c.i.l.length) 20⟩,zrko hv (by show c.g.l.length≤3; omega) sw hi10 hch hov,rfl,rfl,zz41 (by omega),z3eh (by omega),zigl (by omega),rfl,hv,by show c.g.l.length≤3; omega,sw,hi10,hnx,htm⟩
end
section
set_option linter.unusedSimpArgs false
set_option linter.unusedVariables false
set_option maxRecDepth 20000
open Go Go.Am
section
variable {gs:List (List UInt8 × List UInt8 × Int × Int × Int × List Dg)} {B:Nat} {t:Int}
theorem zln6 {s:Rnd} {O:Nat} (h:RI gs s B O) (ht:zcie t) (id:Int):(∃ x ∈ s.c.i.l,x.id=id∧x.state≠3∧(zyao t s id).c.i.l=mkS t [id] s.c.i.l∧(zyao t s id).o=s.o++zzoh s.c.i.l [id])∨(zyao t s id=s ∧ ∀ x ∈ s.c.i.l,x.id=id→x.state=3):=by
 by_cases hx : ∃ x ∈ s.c.i.l,x.id=id∧x.state≠3
 ·obtain ⟨x,hm,rfl,hs⟩:=hx
  have hv:=(z1s1 (gs:=gs) (s:=s) (l:=s.c.i.l) (n:=s.c.next) (o:=s.o) ⟨h.v,h.g,rfl,rfl,rfl⟩ ht hm hs).1
  exact .inl ⟨x,hm,rfl,hs,hv.i,hv.o⟩
 ·refine .inr ⟨?_,fun x hm e=>Classical.byContradiction fun q=>hx ⟨x,hm,e,q⟩⟩
  unfold zyao
  rw [if_neg]
  intro h0
  obtain ⟨i,hi,hf⟩:=zkzr h0
  have hst:s.c.i.l[i].state≠3:=by
   unfold z5wo at h0
   rw [if_neg (fun q=>q.elim (fun q=>q h.v) (fun q=>q ht)),hf,if_neg (by omega),y0a,y00 hi] at h0
   intro e
   simp [may,e] at h0
  have hid:s.c.i.l[i].id=id:=by
   obtain ⟨j,hj,e,p1,_⟩:=ziel (p:=fun x:Ins=>decide (x.id=id)) (l:=s.c.i.l) (by show (0:Int)≤z092 s.c.i.l id; rw [hf]; omega)
   have e:z092 s.c.i.l id=j:=e
   rw [hf] at e
   obtain rfl:i=j:=by omega
   simpa using p1
  exact hx ⟨_,y0b hi,hid,hst⟩
def idsQ (q:Ins→Bool) (l:List Ins):List Int:=(l.filter q).map Ins.id
theorem z6r9 {q:Ins→Bool} {l:List Ins} {id:Int}:id ∈ idsQ q l ↔ ∃ x ∈ l,q x=true∧x.id=id:=by
 unfold idsQ
 rw [y0c]
 constructor
 ·rintro ⟨x,hx,e⟩
  obtain ⟨h1,h2⟩:=y0k.1 hx
  exact ⟨x,h1,h2,e⟩
 ·rintro ⟨x,hx,hq,e⟩
  exact ⟨x,y0k.2 ⟨hx,hq⟩,e⟩
theorem z9c3 {q:Ins→Bool} {l l':List Ins}:idsQ q (l++l')=idsQ q l++idsQ q l':=by
 unfold idsQ; rw [List.filter_append,y0q]
theorem z4g5 {q:Ins→Bool} (hq : ∀ x,q x=true→x.state≠3) {V:List Int} : ∀ {l:List Ins},idsQ q (mkS t V l)=(idsQ q l).filter (fun id=>decide (id ∉ V))
 | []=>rfl
 | a::l=>by
  have ih:=z4g5 hq (V:=V) (l:=l)
  have h3:q (stI t a)=false:=by
   cases e:q (stI t a) with
   | false=>rfl
   | true=>exact absurd (zgls t a) (hq _ e)
  unfold idsQ mkS at ih ⊢
  rw [y0o]
  by_cases hm:a.id ∈ V
  ·rw [if_pos hm,y04,h3,y04]
   cases hqa:q a
   ·simpa using ih
   ·simp only [Bool.false_eq_true,if_false,if_true,y0o,y04,hm,not_true_eq_false,decide_false]
    exact ih
  ·rw [if_neg hm,y04,y04]
   cases hqa:q a
   ·simpa using ih
   ·simp only [if_true,y0o,y04]
    rw [if_pos (by simp [hm])]
    rw [ih]
theorem zic6 {s:Rnd} {O:Nat} (h:RI gs s B O) (ht:zcie t) {q:Ins→Bool} (hq : ∀ x,q x=true→x.state≠3) (id:Int):idsQ q (zyao t s id).c.i.l=(idsQ q s.c.i.l).filter (fun i=>decide (i ∉ [id])):=by
 rcases zln6 h ht id with ⟨x,_,_,_,e,_⟩|⟨e,hn⟩
 ·rw [e,z4g5 hq]
 ·rw [e]
  symm
  rw [y0s]
  intro i hi
  obtain ⟨x,hx,hqx,e⟩:=z6r9.1 hi
  simp only [List.mem_singleton,decide_eq_true_eq]
  intro ei
  exact hq x hqx (hn x hx (by rw [e,ei]))
theorem zpz6 (ht:zcie t) {q:Ins→Bool} (hq : ∀ x,q x=true→x.state≠3) : ∀ {V:List Int} {s:Rnd} {O:Nat},RI gs s B O→idsQ q (V.foldl (zyao t) s).c.i.l=(idsQ q s.c.i.l).filter (fun i=>decide (i ∉ V))
 | [],s,O,h=>by
  symm
  show (idsQ q s.c.i.l).filter _=idsQ q s.c.i.l
  rw [y0s]
  intro i _
  simp
 | a::V,s,O,h=>by
  rw [y0p,zpz6 ht hq (V:=V) (z7tf (t:=t) h a),zic6 h ht hq a,y0l]
  congr 1
  funext i
  by_cases e:i=a
  ·simp [e]
  ·simp [e]
theorem znha {s:Rnd} {tr:List Tri} {ix:List Ixe} {k:Int}:(zusy tr ix t k s).2=s ∨ ∃ d,choC tr ix s.c k t=some d∧(zusy tr ix t k s).2.c.i.l=s.c.i.l++[newI s.c k d t]∧(zusy tr ix t k s).2.c.next=s.c.next+1∧(zusy tr ix t k s).2.o=s.o++[⟨1,s.c.next,d⟩]:=by
 cases hc:choC tr ix s.c k t with
 | none=>left; unfold zusy; rw [hc]
 | some d =>
  have hs:zusy tr ix t k s=if (z4wu s.c k d t).2.2=0 then (true,⟨(z4wu s.c k d t).1,s.o++[⟨1,(z4wu s.c k d t).2.1,d⟩]⟩) else (false,s):=by unfold zusy; rw [hc]
  by_cases h0:(z4wu s.c k d t).2.2=0
  ·right
   rw [if_pos h0] at hs
   obtain ⟨e1,e2,e3⟩:=zzaj h0
   have hol:(own (s.c.i.l++[newI s.c k d t])).l=s.c.i.l++[newI s.c k d t]:=z3e9 (by simp; omega)
   refine ⟨d,rfl,?_,?_,?_⟩
   ·rw [hs]; show (z4wu s.c k d t).1.i.l=_; rw [e1]; exact hol
   ·rw [hs]; show (z4wu s.c k d t).1.next=_; rw [e1]
   ·rw [hs]; show s.o++[⟨1,(z4wu s.c k d t).2.1,d⟩]=_; rw [e2]
  ·left; rw [if_neg h0] at hs; rw [hs]
end
def zapb (x:Ins):Cmd:=⟨1,x.id,x.art⟩
structure TR (c:Clu) (tr:List Tri) (ix:List Ixe) (t k:Int) (s:Rnd) (V:List Int) (N:List Ins):Prop where
 l:s.c.i.l=mkS t V c.i.l++N
 nd:V.Nodup
 iv : ∀ id ∈ V,∃ x ∈ c.i.l,x.id=id∧x.state≠3
 ni : ∀ x ∈ N,c.next≤x.id∧x.id<s.c.next∧0≤x.grp∧x.grp<k∧x.state=1∧x.den = -1∧choC tr ix c x.grp t=some x.art
 np:N.Pairwise (fun x y=>x.id<y.id)
 o:s.o.Perm (zzoh c.i.l V++N.map zapb)
 nx:c.next≤s.c.next
section
variable {c:Clu} {tr:List Tri} {ix:List Ixe} {t k:Int} {B:Nat}
theorem z0vo {V:List Int} {l:List Ins} {a:Int} (h:a ∉ V):mkS t [a] (mkS t V l)=mkS t (V++[a]) l:=by
 unfold mkS
 rw [List.map_map]
 refine y0r fun z _ => ?_
 simp only [Function.comp,List.mem_singleton,y01]
 by_cases hz:z.id ∈ V
 ·have hne:z.id≠a:=fun e=>h (by rw [← e]; exact hz)
  rw [if_pos hz,if_neg (by rw [z4j6]; exact hne),if_pos (.inl hz)]
 ·rw [if_neg hz]
  by_cases e:z.id=a
  ·rw [if_pos e,if_pos (.inr e)]
  ·rw [if_neg e,if_neg (fun q=>q.elim hz e)]
theorem zpvt {V:List Int} {l:List Ins} (h : ∀ x ∈ l,x.id ∉ V):mkS t V l=l:=by
 unfold mkS
 rw [y0r (g:=id) fun x hx=>by rw [if_neg (h x hx)]; rfl]
 simp
theorem z4ov {V:List Int} {l l':List Ins}:mkS t V (l++l')=mkS t V l++mkS t V l':=by unfold mkS; rw [y0q]
theorem zapa {s:Rnd} {V:List Int} {N:List Ins} (q:TR c tr ix t k s V N) {k':Int} (hk:k≤k'):TR c tr ix t k' s V N :=
 ⟨q.l,q.nd,q.iv,fun x hx=>by obtain ⟨a1,a2,a3,a4,a5⟩:=q.ni x hx; exact ⟨a1,a2,a3,by omega,a5⟩,q.np,q.o,q.nx⟩
theorem zga9 (hv:ValidC c) {s:Rnd} {O:Nat} (h:RI (c.g.l.map gl) s B O) (ht:zcie t) {V:List Int} {N:List Ins} (q:TR c tr ix t k s V N) {id:Int} (hn : ∀ x ∈ N,x.id≠id) : ∃ W,TR c tr ix t k (zyao t s id) (V++W) N:=by
 rcases zln6 h ht id with ⟨x,hx,rfl,hs,e1,e2⟩|⟨e,_⟩
 ·refine ⟨[x.id],?_⟩
  have hx':=hx
  rw [q.l] at hx'
  have hxm:x ∈ mkS t V c.i.l:=(y01.1 hx').resolve_right fun m=>hn x m rfl
  obtain ⟨y,hy,e⟩:=y0c.1 hxm
  have hyV:y.id ∉ V:=fun m=>by
   rw [if_pos m] at e
   exact hs (by rw [← e]; rfl)
  rw [if_neg hyV] at e
  subst e
  have hcm:z83c s.c.i.l y.id=z83c c.i.l y.id:=by rw [zmpd (zyak h.v).d hx,zmpd (zyak hv).d hy]
  refine ⟨?_,?_,?_,?_,q.np,?_,?_⟩
  ·rw [e1,q.l,z4ov,z0vo hyV,zpvt (l:=N) fun z hz=>by simpa using hn z hz]
  ·rw [y0u]
   refine ⟨q.nd,by simp,fun a ha b hb => ?_⟩
   have hb:b=y.id:=by simpa using hb
   rw [hb]
   exact fun e=>hyV (by rw [← e]; exact ha)
  ·intro id hid
   rcases y01.1 hid with m|m
   ·exact q.iv id m
   ·have m:id=y.id:=by simpa using m
    exact ⟨y,hy,m.symm,hs⟩
  ·intro z hz
   rw [zmpl]
   exact q.ni z hz
  ·rw [e2]
   have e3:zzoh s.c.i.l [y.id]=zzoh c.i.l [y.id]:=by simp only [zzoh,y0o,List.map_nil,hcm]
   have e4:zzoh c.i.l (V++[y.id])=zzoh c.i.l V++zzoh c.i.l [y.id]:=by simp only [zzoh,y0q]
   rw [e3,e4,y08]
   refine (List.Perm.append_right _ q.o).trans ?_
   rw [y08]
   exact List.Perm.append_left _ List.perm_append_comm
  ·rw [zmpl]; exact q.nx
 ·exact ⟨[],by rw [e,y06]; exact q⟩
theorem zfhc (hv:ValidC c) (ht:zcie t) {N:List Ins} : ∀ {L:List Int} {s:Rnd} {O:Nat} {V:List Int},RI (c.g.l.map gl) s B O→TR c tr ix t k s V N→(∀ id ∈ L,∀ x ∈ N,x.id≠id) → ∃ W,TR c tr ix t k (L.foldl (zyao t) s) (V++W) N
 | [],s,O,V,_,q,_=>⟨[],by rw [y06]; exact q⟩
 | a::L,s,O,V,h,q,hn=>by
  obtain ⟨W,hW⟩:=zga9 hv h ht q (hn a (by simp))
  obtain ⟨W',hW'⟩:=zfhc hv ht (L:=L) (z7tf (t:=t) h a) hW (fun id hid=>hn id (by simp [hid]))
  exact ⟨W++W',by rw [← y08]; exact hW'⟩
theorem z6hg {s:Rnd} {O:Nat} (h:RI (c.g.l.map gl) s B O) {V:List Int} {N:List Ins} (q:TR c tr ix t k s V N) {K:Nat} (hk:(K:Int)<k) : ∃ N',TR c tr ix t k (zusy tr ix t K s).2 V (N++N'):=by
 rcases znha (t:=t) (s:=s) (tr:=tr) (ix:=ix) (k:=K) with e|⟨d,hc,e1,e2,e3⟩
 ·exact ⟨[],by rw [e,y06]; exact q⟩
 ·refine ⟨[newI s.c K d t],?_,q.nd,q.iv,?_,?_,?_,?_⟩
  ·rw [e1,q.l,y08]
  ·intro x hx
   rw [e2]
   rcases y01.1 hx with m|m
   ·obtain ⟨a1,a2,a3⟩:=q.ni x m
    exact ⟨a1,by omega,a3⟩
   ·have m:x=newI s.c K d t:=by simpa using m
    subst m
    have hnx:=q.nx
    refine ⟨hnx,by show s.c.next<s.c.next+1; omega,by show (0:Int)≤K; omega,hk,rfl,rfl,?_⟩
    show choC tr ix c K t=some d
    rw [← zxrl (c:=s.c) h.g]
    exact hc
  ·rw [y0j]
   refine ⟨q.np,by simp,fun a ha b hb => ?_⟩
   have m:b=newI s.c K d t:=by simpa using hb
   subst m
   exact (q.ni a ha).2.1
  ·rw [e3,y0q,← y08]
   exact List.Perm.append_right _ q.o
  ·rw [e2]; have:=q.nx; omega
theorem z8dy {want:Int} {V:List Int} {K:Nat} (hk:(K:Int)<k) : ∀ {m:Nat} {s:Rnd} {B O:Nat} {N:List Ins},RI (c.g.l.map gl) s B O→TR c tr ix t k s V N → ∃ N',TR c tr ix t k (zinu tr ix t K want m s) V (N++N')
 | 0,s,B,O,N,_,q=>⟨[],by rw [y06]; exact q⟩
 | m+1,s,B,O,N,h,q=>by
  obtain ⟨N',hN'⟩:=z6hg h q hk
  unfold zinu
  split
  ·obtain ⟨N2,hN2⟩:=z8dy hk (want:=want) (m:=m) (z3da (t:=t) h) hN'
   exact ⟨N'++N2,by rw [← y08]; exact hN2⟩
  ·exact ⟨[],by rw [y06]; exact q⟩
theorem z00g (hv:ValidC c) (ht:zcie t) {K:Nat} {s:Rnd} {O:Nat} (h:RI (c.g.l.map gl) s B O) {V:List Int} {N:List Ins} (q:TR c tr ix t K s V N) {want:Int} : ∃ W N',TR c tr ix t ((K+1:Nat):Int) (grpS tr ix t K want s) (V++W) (N++N'):=by
 have r1:=zux2 (t:=t) (k:=K) h
 have r2:=znba (t:=t) (k:=K) (want:=want) r1
 have r3:=zfti (t:=t) (k:=K) r2
 have hno : ∀ {s':Rnd} {O':Nat} {V':List Int},RI (c.g.l.map gl) s' B O'→TR c tr ix t K s' V' N → ∀ id,(id,(K:Int)) ∈ own2 s'.c.i.l → ∀ x ∈ N,x.id≠id:=fun {s' O' V'} r q' id hid x hx e=>by
  have hm:(id,x.grp) ∈ own2 s'.c.i.l:=y0c.2 ⟨x,by rw [q'.l]; exact y01.2 (.inr hx),by rw [e]⟩
  have:=z70f r hm hid
  have:=(q'.ni x hx).2.2.2.1
  omega
 obtain ⟨W1,q1⟩:=zfhc hv ht (L:=stgL K (znqs s.c K) false s.c.i.l) h q (fun id hid=>hno h q id (zaob id hid))
 have q1:TR c tr ix t K (grS1 t K s) (V++W1) N:=q1
 obtain ⟨W2,q2⟩:=zfhc hv ht (L:=(stgL K (znqs (grS1 t K s).c K) true (grS1 t K s).c.i.l).reverse.take ((znqs (grS1 t K s).c K).length-want).toNat) r1 q1 (fun id hid=>hno r1 q1 id (zaob id (y07.1 (y05 hid))))
 have q2:TR c tr ix t K (grS2 t K want (grS1 t K s)) (V++W1++W2) N:=q2
 obtain ⟨W3,q3⟩:=zfhc hv ht (L:=(zu3j (grS2 t K want (grS1 t K s)).c K).take (z17v (grS2 t K want (grS1 t K s)).c K).toNat) r2 q2 (fun id hid=>hno r2 q2 id (zwyf id (y05 hid)))
 have q3:TR c tr ix t K (grS3 t K (grS2 t K want (grS1 t K s))) (V++W1++W2++W3) N:=q3
 obtain ⟨N',q4⟩:=z8dy (k:=((K+1:Nat):Int)) (K:=K) (by omega) (want:=want) (m:=(want-(znqs (grS3 t K (grS2 t K want (grS1 t K s))).c K).length).toNat) r3 (zapa q3 (by omega))
 refine ⟨W1++W2++W3,N',?_⟩
 rw [← y08,← y08]
 exact q4
end
theorem z85t {gr:List Int} {t:Int} : ∀ {l:List Ins} {i:Nat},(ze9z l i gr t).Sublist (l.map Ins.id)
 | [],_=>List.Sublist.refl _
 | x::r,i=>by
  have ih:=z85t (gr:=gr) (t:=t) (l:=r) (i:=i+1)
  unfold ze9z
  split
  ·exact ih.cons_cons _
  ·exact ih.cons _
theorem zgrg {c:Clu} (hv:ValidC c) {gr:List Int} {t:Int}:(ze9z c.i.l 0 gr t).Nodup:=by
 have h:=zg4k.1 (zyak hv).d
 exact (h.sublist z85t).imp fun {a b} q e=>by omega
theorem za3t {l:List Ins} {gr:List Int} {t:Int} : ∀ id ∈ ze9z l 0 gr t,∃ x ∈ l,x.id=id∧x.state≠3∧0≤x.den:=fun id hid=>by
 obtain ⟨j,hj,h1,h2⟩:=zunx.1 hid
 simp only [z9hf,y02,decide_eq_true_eq] at h1
 exact ⟨_,y0b hj,h2,h1.1,h1.2.1⟩
section
variable {c:Clu} {gr:List Int} {tr:List Tri} {ix:List Ixe} {t:Int} (hv:ValidC c) (hn:c.g.l.length≤3) (hw : ∀ g ∈ c.g.l,g.want≤3) (hi:c.i.l.length≤10) (ht:zcie t)
include hv ht in
theorem zwot:TR c tr ix t 0 (rnd0 gr t c) (ze9z c.i.l 0 gr t) []:=by
 have h0:Vw (c.g.l.map gl) ⟨c.clone,[]⟩ c.i.l c.next []:=⟨zwds hv,z9hp _,rfl,rfl,rfl⟩
 have h:=(z40n (s:=⟨c.clone,[]⟩) (s':=⟨c.clone,[]⟩) ht h0 h0 (zgrg hv (gr:=gr) (t:=t)) (fun id hid=>by obtain ⟨x,a,b,d,_⟩:=za3t id hid; exact ⟨x,a,b,d⟩)).1
 have h:Vw (c.g.l.map gl) (rnd0 gr t c) _ c.next _:=h
 refine ⟨by rw [h.i,y06],zgrg hv,fun id hid=>by obtain ⟨x,a,b,d,_⟩:=za3t id hid; exact ⟨x,a,b,d⟩,by simp,List.Pairwise.nil,?_,by rw [h.n]; exact Int.le_refl _⟩
 rw [h.o]
 simp
include hv hn hw hi ht in
theorem zva5 : ∀ {k:Nat},k≤c.g.l.length → ∃ W N,TR c tr ix t k (rndS tr ix t c k (rnd0 gr t c)) (ze9z c.i.l 0 gr t++W) N
 | 0,_=>⟨[],[],by rw [y06]; exact zwot hv ht⟩
 | k+1,hk=>by
  obtain ⟨W,N,q⟩:=zva5 (k:=k) (by omega)
  obtain ⟨W',N',q'⟩:=z00g hv ht (ztza hv hn hw hi (tr:=tr) (ix:=ix) (t:=t) (gr:=gr) (k:=k) (by omega)) q (want:=ze6v c k)
  exact ⟨W++W',N++N',by rw [← y08]; exact q'⟩
include hv hn hw hi ht in
theorem z6bz : ∃ W N,TR c tr ix t c.g.l.length (rndP tr ix gr t c) (ze9z c.i.l 0 gr t++W) N:=zva5 hv hn hw hi ht (y03 _)
end
end
section
set_option linter.unusedSimpArgs false
set_option linter.unusedVariables false
set_option maxRecDepth 20000
open Go Go.Am
def qGd (k:Nat) (g:Grp) (x:Ins):Bool:=decide (x.grp=(k:Int))&&z9qu g x
def qLv (k:Nat) (x:Ins):Bool:=decide (x.grp=(k:Int))&&decide (x.state=2)
def qDn (k:Nat) (x:Ins):Bool:=decide (x.grp=(k:Int))&&(decide (x.state=2)&&decide (0≤x.den))
def qRp (k:Nat) (g:Grp) (x:Ins):Bool:=decide (x.grp=(k:Int))&&sRep g x
def qSp (k:Nat) (g:Grp) (x:Ins):Bool:=decide (x.grp=(k:Int))&&z7e4 g x
theorem zapq {k:Nat} {g:Grp} : ∀ x,qGd k g x=true→x.state≠3:=fun x h=>by
 simp only [qGd,z9qu,y02,decide_eq_true_eq] at h
 exact h.2.1
theorem zw63 {k:Nat} : ∀ x,qLv k x=true→x.state≠3:=fun x h=>by
 simp only [qLv,y02,decide_eq_true_eq] at h
 omega
section
variable {c d:Clu} {k:Nat} (h:d.g.l.map gl=c.g.l.map gl) (hk:k<c.g.l.length)
include h hk in
theorem z7pn : ∃ g,grAt d k=some g∧gl g=gl c.g.l[k]:=by
 have hl:d.g.l.length=c.g.l.length:=by have:=congrArg List.length h; simpa using this
 refine ⟨d.g.l[k]'(by omega),?_,?_⟩
 ·unfold grAt; rw [if_pos (by omega),y0a,y00 (by omega)]
 ·have:=y0h h (i:=k) (by simp; omega)
  simpa using this
include h hk in
theorem z1ms:znqs d k=idsQ (qGd k c.g.l[k]) d.i.l:=by
 obtain ⟨g,hg,e⟩:=z7pn h hk
 simp only [gl,Prod.mk.injEq] at e
 obtain ⟨_,_,_,_,_,e6⟩:=e
 have hs:z9qu g=z9qu c.g.l[k]:=by
  funext x; unfold z9qu chos; rw [e6]
 unfold znqs idsP
 rw [hg]
 simp only [hs]
 rfl
include h hk in
theorem zb41:zd1c d k=(idsQ (qLv k) d.i.l).length:=by
 obtain ⟨g,hg,_⟩:=z7pn h hk
 unfold zd1c idsP
 rw [hg]
 rfl
include h hk in
theorem zouj:z17v d k=max ((zd1c d k:Int)-max c.g.l[k].least (c.g.l[k].want-c.g.l[k].down)) 0:=by
 obtain ⟨g,hg,e⟩:=z7pn h hk
 simp only [gl,Prod.mk.injEq] at e
 obtain ⟨_,_,e3,e4,e5,_⟩:=e
 unfold z17v
 rw [hg]
 simp only [e3,e4,e5]
include h hk in
theorem zssx:zu3j d k=zxu4 (ltV d) (idsQ (qDn k) d.i.l)++(idsQ (qRp k c.g.l[k]) d.i.l++(idsQ (qSp k c.g.l[k]) d.i.l).reverse.take ((znqs d k).length-c.g.l[k].want).toNat):=by
 obtain ⟨g,hg,e⟩:=z7pn h hk
 simp only [gl,Prod.mk.injEq] at e
 obtain ⟨_,_,e3,_,_,e6⟩:=e
 have h1:sRep g=sRep c.g.l[k]:=by funext x; unfold sRep chos; rw [e6]
 have h2:z7e4 g=z7e4 c.g.l[k]:=by funext x; unfold z7e4 chos; rw [e6]
 unfold zu3j idsP
 rw [hg]
 simp only [h1,h2,e3]
 rfl
end
theorem zwjn : ∀ {V G:List Int},V.Nodup→(∀ i ∈ V,i ∈ G)→(G.filter (fun i=>decide (i ∉ V))).length+V.length≤G.length
 | [],G,_,_=>by
  rw [y0s.2 (fun i _=>by simp)]
  exact y03 _
 | a::V,G,hn,h=>by
  rw [List.nodup_cons] at hn
  have h1:(G.filter (fun i=>decide (i≠a))).length<G.length:=List.length_filter_lt_length_iff_exists.2 ⟨a,h a (by simp),by simp⟩
  have h2:=zwjn (V:=V) (G:=G.filter (fun i=>decide (i≠a))) hn.2 (fun i hi=>y0k.2 ⟨h i (by simp [hi]),by
   rw [decide_eq_true_eq]
   rintro rfl
   exact hn.1 hi⟩)
  rw [y0l] at h2
  have e:(fun i=>decide (i ∉ a::V))=fun i=>decide (i ∉ V)&&decide (i≠a):=by
   funext i
   by_cases e:i=a<;>simp [e]
  rw [e,List.length_cons]
  omega
theorem ztuz {p q:Int→Bool} {l:List Int} (h : ∀ x ∈ l,p x=true→q x=true):(l.filter p).length≤(l.filter q).length:=by
 rw [← y0t,← y0t]
 exact List.countP_mono_left h
theorem zofr {q:Ins→Bool} {l:List Ins} (hd:l.Pairwise (fun x y=>x.id<y.id)):(idsQ q l).Nodup:=by
 have:=(zg4k.1 hd).sublist ((List.filter_sublist (p:=q) (l:=l)).map Ins.id)
 exact this.imp fun {a b} q e=>by omega
section
variable {c:Clu} {s:Rnd} {B O:Nat} {t:Int} {k:Nat} {tr:List Tri} {ix:List Ixe}
theorem zp8u {l:List Ins} (hd:l.Pairwise (fun x y=>x.id<y.id)) {p q:Ins→Bool} {i:Int} (h1:i ∈ idsQ p l) (h2:i ∈ idsQ q l) : ∃ x ∈ l,x.id=i∧p x=true∧q x=true:=by
 obtain ⟨x,hx,hp,e⟩:=z6r9.1 h1
 obtain ⟨y,hy,hq,e'⟩:=z6r9.1 h2
 have:=z4mt hd hx hy (by rw [e,e'])
 subst this
 exact ⟨x,hx,e,hp,hq⟩
theorem zeq5 {p:Ins→Bool} {l:List Ins}:idsQ (fun x=>decide (x.grp=(k:Int))&&p x) l=idsQ p (part k l):=by
 unfold idsQ part
 rw [y0l]
 congr 2
 funext x
 rw [Bool.and_comm]
end
section
variable {c:Clu} {gr:List Int} {tr:List Tri} {ix:List Ixe} {t:Int} (hv:ValidC c) (hn:c.g.l.length≤3) (hw : ∀ g ∈ c.g.l,g.want≤3) (hi:c.i.l.length≤10) (ht:zcie t)
theorem zgyw {c:Clu} {k:Nat} (hk:k<c.g.l.length):ze6v c k=c.g.l[k].want:=by unfold ze6v; rw [y00 hk]
end
end
section
set_option linter.unusedSimpArgs false
set_option linter.unusedVariables false
set_option maxRecDepth 20000
open Go Go.Am
def qSt (k:Nat) (g:Grp) (b:Bool) (x:Ins):Bool:=decide (x.grp=(k:Int))&&(decide (x.state=1)&&(chos g x == b))
theorem zf69 {k:Nat} {g:Grp} {b:Bool} : ∀ x,qSt k g b x=true→x.state≠3:=fun x h=>by
 simp only [qSt,y02,decide_eq_true_eq] at h
 omega
theorem zicl {k:Nat} : ∀ x,qDn k x=true→x.state≠3:=fun x h=>by
 simp only [qDn,y02,decide_eq_true_eq] at h
 omega
theorem zr8t {k:Nat} {g:Grp} : ∀ x,qRp k g x=true→x.state≠3:=fun x h=>by
 simp only [qRp,sRep,y02,decide_eq_true_eq] at h
 omega
theorem zag1 {k:Nat} {g:Grp} : ∀ x,qSp k g x=true→x.state≠3:=fun x h=>by
 simp only [qSp,z7e4,y02,decide_eq_true_eq] at h
 omega
theorem zc13 {l:List Int} (h:l.Nodup):l.reverse.Nodup:=List.pairwise_reverse.2 (h.imp fun {a b} q=>q.symm)
theorem ztf9 {V G:List Int} (h : ∀ i ∈ G,i ∈ V):G.filter (fun i=>decide (i ∉ V))=[]:=by
 rw [List.filter_eq_nil_iff]
 intro i hi
 simp [h i hi]
theorem znyp {V G:List Int} (h:V.Nodup) (h' : ∀ i ∈ V,i ∈ G):(G.filter (fun i=>decide (i ∉ V))).length+V.length≤G.length:=zwjn h h'
section
variable {c:Clu} {s:Rnd} {B O:Nat} {t:Int} {k:Nat} {tr:List Tri} {ix:List Ixe}
theorem zdwj (h:RI (c.g.l.map gl) s B O) (hk:k<c.g.l.length) {b:Bool}:stgL k (znqs s.c k) b s.c.i.l=idsQ (qSt k c.g.l[k] b) s.c.i.l:=by
 rw [z1ms h.g hk]
 obtain ⟨G,hG⟩ : ∃ G,idsQ (qGd k c.g.l[k]) s.c.i.l=G:=⟨_,rfl⟩
 rw [hG]
 show (s.c.i.l.filter (stgB k G b)).map Ins.id=(s.c.i.l.filter (qSt k c.g.l[k] b)).map Ins.id
 refine congrArg _ (List.filter_congr fun x hx => ?_)
 unfold stgB qSt
 by_cases h1:x.grp=k
 ·by_cases h2:x.state=1
  ·have:decide (x.id ∈ G)=chos c.g.l[k] x:=by
    rw [← hG]
    cases hc:chos c.g.l[k] x with
    | true=>rw [decide_eq_true_eq]; exact z6r9.2 ⟨x,hx,by simp [qGd,z9qu,hc,h1,h2],rfl⟩
    | false =>
     rw [decide_eq_false_iff_not]
     intro hm
     obtain ⟨y,hy,p,e⟩:=z6r9.1 hm
     have:=z4mt (zyak h.v).d hy hx e
     subst this
     simp [qGd,z9qu,hc] at p
   rw [this]
  ·simp [h2]
 ·simp [h1]
def z7wz (k:Nat) (g:Grp) (l:List Ins):Int:=max (((idsQ (qLv k) l).length:Int)-max g.least (g.want-g.down)) 0
structure Quiet (k:Nat) (g:Grp) (l:List Ins):Prop where
 a:idsQ (qSt k g false) l=[]
 b:((idsQ (qGd k g) l).length:Int)≤g.want∨idsQ (qSt k g true) l=[]
 c:z7wz k g l=0∨(idsQ (qDn k) l=[]∧idsQ (qRp k g) l=[]∧(idsQ (qSp k g) l=[]∨((idsQ (qGd k g) l).length:Int)≤g.want))
theorem zjha {g:Grp} {l l':List Ins} (h:part k l=part k l') (q:Quiet k g l):Quiet k g l':=by
 have e : ∀ p:Ins→Bool,idsQ (fun x=>decide (x.grp=(k:Int))&&p x) l=idsQ (fun x=>decide (x.grp=(k:Int))&&p x) l':=fun p=>by rw [zeq5,zeq5,h]
 have e1:idsQ (qSt k g false) l=idsQ (qSt k g false) l':=e (fun x=>decide (x.state=1)&&(chos g x == false))
 have e2:idsQ (qSt k g true) l=idsQ (qSt k g true) l':=e (fun x=>decide (x.state=1)&&(chos g x == true))
 have e3:idsQ (qGd k g) l=idsQ (qGd k g) l':=e (z9qu g)
 have e4:idsQ (qLv k) l=idsQ (qLv k) l':=e (fun x=>decide (x.state=2))
 have e5:idsQ (qDn k) l=idsQ (qDn k) l':=e (fun x=>decide (x.state=2)&&decide (0≤x.den))
 have e6:idsQ (qRp k g) l=idsQ (qRp k g) l':=e (sRep g)
 have e7:idsQ (qSp k g) l=idsQ (qSp k g) l':=e (z7e4 g)
 obtain ⟨a,b,c⟩:=q
 unfold z7wz at c
 rw [e1] at a
 rw [e2,e3] at b
 rw [e3,e4,e5,e6,e7] at c
 exact ⟨a,b,c⟩
theorem zsd3 (h:RI (c.g.l.map gl) s B O) (hk:k<c.g.l.length):(zu3j s.c k).Nodup:=by
 have hd:=(zyak h.v).d
 rw [zssx h.g hk,y0u]
 refine ⟨(zo43 _).nodup_iff.2 (zofr hd),?_,fun a ha b hb e => ?_⟩
 ·rw [y0u]
  refine ⟨zofr hd,((zc13 (zofr hd)).sublist (y0i _ _)),fun a ha b hb e => ?_⟩
  subst e
  have hb:=y07.1 (y05 hb)
  obtain ⟨x,_,_,p,q⟩:=zp8u hd ha hb
  simp only [qRp,sRep,qSp,z7e4,y02,Bool.not_eq_true'] at p q
  rw [q.2.2] at p
  simp at p
 ·subst e
  have ha:=(zo43 _).mem_iff.1 ha
  rcases y01.1 hb with hb|hb
  ·obtain ⟨x,_,_,p,q⟩:=zp8u hd ha hb
   simp only [qDn,qRp,sRep,y02,decide_eq_true_eq] at p q
   omega
  ·have hb:=y07.1 (y05 hb)
   obtain ⟨x,_,_,p,q⟩:=zp8u hd ha hb
   simp only [qDn,qSp,z7e4,chos,y02,decide_eq_true_eq] at p q
   omega
theorem zzgu (h:RI (c.g.l.map gl) s B O) (hk:k<c.g.l.length) : ∀ i ∈ zu3j s.c k,i ∈ idsQ (qLv k) s.c.i.l:=fun i hi=>by
 rw [zssx h.g hk] at hi
 have key : ∀ {q:Ins→Bool},(∀ x,q x=true→qLv k x=true)→i ∈ idsQ q s.c.i.l→i ∈ idsQ (qLv k) s.c.i.l:=fun hq hm=>by
  obtain ⟨x,hx,p,e⟩:=z6r9.1 hm
  exact z6r9.2 ⟨x,hx,hq x p,e⟩
 rcases y01.1 hi with m|m
 ·exact key (fun x p=>by simp only [qDn,qLv,y02] at p ⊢; exact ⟨p.1,p.2.1⟩) ((zo43 _).mem_iff.1 m)
 ·rcases y01.1 m with m|m
  ·exact key (fun x p=>by simp only [qRp,sRep,qLv,y02] at p ⊢; exact ⟨p.1,p.2.1.1⟩) m
  ·exact key (fun x p=>by simp only [qSp,z7e4,qLv,y02] at p ⊢; exact ⟨p.1,p.2.1⟩) (y07.1 (y05 m))
theorem zcr3 {g:Grp} : ∀ x,qSp k g x=true→qGd k g x=true:=fun x p=>by
 simp only [qSp,z7e4,qGd,z9qu,y02,decide_eq_true_eq] at p ⊢
 exact ⟨p.1,by omega,p.2.2⟩
theorem zizy {g:Grp} : ∀ x,qSt k g true x=true→qGd k g x=true:=fun x p=>by
 simp only [qSt,qGd,z9qu,y02,decide_eq_true_eq,beq_iff_eq] at p ⊢
 exact ⟨p.1,by omega,p.2.2⟩
theorem znki {p q:Ins→Bool} {l:List Ins} (h : ∀ x,p x=true→q x=true) : ∀ i ∈ idsQ p l,i ∈ idsQ q l:=fun i hi=>by
 obtain ⟨x,hx,hp,e⟩:=z6r9.1 hi
 exact z6r9.2 ⟨x,hx,h x hp,e⟩
theorem zaj8 (h:RI (c.g.l.map gl) s B O) (ht:zcie t) (hk:k<c.g.l.length):idsQ (qSt k c.g.l[k] false) (grS1 t k s).c.i.l=[]:=by
 unfold grS1
 rw [zpz6 ht zf69 h,zdwj h hk]
 exact ztf9 fun i hi=>hi
theorem zr3d (h:RI (c.g.l.map gl) s B O) (ht:zcie t) (hk:k<c.g.l.length) (ha:idsQ (qSt k c.g.l[k] false) s.c.i.l=[]):idsQ (qSt k c.g.l[k] false) (grS2 t k c.g.l[k].want s).c.i.l=[]∧(((idsQ (qGd k c.g.l[k]) (grS2 t k c.g.l[k].want s).c.i.l).length:Int)≤c.g.l[k].want∨idsQ (qSt k c.g.l[k] true) (grS2 t k c.g.l[k].want s).c.i.l=[]):=by
 have hd:=(zyak h.v).d
 have hgi:=z1ms h.g hk
 have hsi:=zdwj h hk (b:=true)
 obtain ⟨m,hm⟩ : ∃ m,(((znqs s.c k).length:Int)-c.g.l[k].want).toNat=m:=⟨_,rfl⟩
 unfold grS2
 rw [zpz6 ht zf69 h,zpz6 ht zf69 h,zpz6 ht zapq h,ha,hsi,hm]
 refine ⟨rfl,?_⟩
 by_cases hl:(idsQ (qSt k c.g.l[k] true) s.c.i.l).length≤m
 ·right
  rw [y0n (by rw [y0g]; exact hl)]
  exact ztf9 fun i hi=>y07.2 hi
 ·left
  have hx:=znyp (V:=(idsQ (qSt k c.g.l[k] true) s.c.i.l).reverse.take m) (G:=idsQ (qGd k c.g.l[k]) s.c.i.l) ((zc13 (zofr hd)).sublist (y0i _ _)) (fun i hi=>znki zizy i (y07.1 (y05 hi)))
  rw [y0f,y0g] at hx
  rw [hgi] at hm
  omega
theorem zm0c (h:RI (c.g.l.map gl) s B O) (ht:zcie t) (hk:k<c.g.l.length) (ha:idsQ (qSt k c.g.l[k] false) s.c.i.l=[]) (hb:((idsQ (qGd k c.g.l[k]) s.c.i.l).length:Int)≤c.g.l[k].want∨idsQ (qSt k c.g.l[k] true) s.c.i.l=[]):Quiet k c.g.l[k] (grS3 t k s).c.i.l:=by
 have hd:=(zyak h.v).d
 have hgi:=z1ms h.g hk
 have hr:=zouj h.g hk
 rw [zb41 h.g hk] at hr
 have hv:=zssx h.g hk
 have hvn:=zsd3 h hk
 have hvl:=zzgu h hk
 obtain ⟨r,hr'⟩ : ∃ r,z17v s.c k=r:=⟨_,rfl⟩
 rw [hr'] at hr
 obtain ⟨VV,hVV⟩ : ∃ VV,zu3j s.c k=VV:=⟨_,rfl⟩
 rw [hVV] at hv hvn hvl
 have st : ∀ {q:Ins→Bool},(∀ x,q x=true→x.state≠3)→idsQ q (grS3 t k s).c.i.l=(idsQ q s.c.i.l).filter (fun i=>decide (i ∉ VV.take r.toNat)):=fun hq=>by
  unfold grS3
  rw [zpz6 ht hq h,hVV,hr']
 refine ⟨by rw [st zf69,ha]; rfl,?_,?_⟩
 ·rw [st zapq,st zf69]
  rcases hb with hb|hb
  ·left
   have:=List.length_filter_le (fun i=>decide (i ∉ VV.take r.toNat)) (idsQ (qGd k c.g.l[k]) s.c.i.l)
   omega
  ·right; rw [hb]; rfl
 ·unfold z7wz
  rw [st zw63,st zicl,st zr8t,st zag1,st zapq]
  by_cases hl:VV.length≤r.toNat
  ·right
   rw [y0n hl]
   refine ⟨ztf9 fun i hi => ?_,ztf9 fun i hi => ?_,?_⟩
   ·rw [hv]; exact y01.2 (.inl ((zo43 _).mem_iff.2 hi))
   ·rw [hv]; exact y01.2 (.inr (y01.2 (.inl hi)))
   ·obtain ⟨m,hm⟩ : ∃ m,(((znqs s.c k).length:Int)-c.g.l[k].want).toNat=m:=⟨_,rfl⟩
    rw [hm] at hv
    by_cases hs:(idsQ (qSp k c.g.l[k]) s.c.i.l).length≤m
    ·left
     refine ztf9 fun i hi => ?_
     rw [hv,y0n (l:=(idsQ (qSp k c.g.l[k]) s.c.i.l).reverse) (by rw [y0g]; exact hs)]
     exact y01.2 (.inr (y01.2 (.inr (y07.2 hi))))
    ·right
     have hx:=znyp (V:=(idsQ (qSp k c.g.l[k]) s.c.i.l).reverse.take m) (G:=idsQ (qGd k c.g.l[k]) s.c.i.l) ((zc13 (zofr hd)).sublist (y0i _ _)) (fun i hi=>znki zcr3 i (y07.1 (y05 hi)))
     rw [y0f,y0g] at hx
     have hy:=ztuz (p:=fun i=>decide (i ∉ VV)) (q:=fun i=>decide (i ∉ (idsQ (qSp k c.g.l[k]) s.c.i.l).reverse.take m)) (l:=idsQ (qGd k c.g.l[k]) s.c.i.l) fun i hi hp=>by
      rw [decide_eq_true_eq] at hp ⊢
      exact fun q=>hp (by rw [hv]; exact y01.2 (.inr (y01.2 (.inr q))))
     rw [hgi] at hm
     omega
  ·left
   have hx:=znyp (V:=VV.take r.toNat) (G:=idsQ (qLv k) s.c.i.l) (hvn.sublist (y0i _ _)) (fun i hi=>hvl i (y05 hi))
   rw [y0f] at hx
   omega
theorem zfr2 (h:RI (c.g.l.map gl) s B O) (hk:k<c.g.l.length) (q:Quiet k c.g.l[k] s.c.i.l) (hg:((idsQ (qGd k c.g.l[k]) s.c.i.l).length:Int)+1≤c.g.l[k].want):Quiet k c.g.l[k] (zusy tr ix t k s).2.c.i.l∧(idsQ (qGd k c.g.l[k]) (zusy tr ix t k s).2.c.i.l).length≤(idsQ (qGd k c.g.l[k]) s.c.i.l).length+1:=by
 rcases znha (t:=t) (s:=s) (tr:=tr) (ix:=ix) (k:=k) with e|⟨d,hc,e,_,_⟩
 ·rw [e]; exact ⟨q,Nat.le_succ _⟩
 ·rw [e]
  obtain ⟨x,hx⟩ : ∃ x,newI s.c k d t=x:=⟨_,rfl⟩
  have hdm:d ∈ c.g.l[k].ch.l:=by
   rw [zxrl (d:=c) h.g] at hc
   unfold choC grAt at hc
   rw [if_pos (by omega),y0a,y00 hk] at hc
   exact y0v hc
  have hch:chos c.g.l[k] x=true:=by rw [← hx]; simp [newI,chos,hdm]
  have hgr:x.grp=k:=by rw [← hx]; rfl
  have hst:x.state=1:=by rw [← hx]; rfl
  rw [hx]
  have e1:idsQ (qSt k c.g.l[k] false) [x]=[]:=by simp [idsQ,y04,qSt,hch]
  have e3:idsQ (qGd k c.g.l[k]) [x]=[x.id]:=by simp [idsQ,y04,qGd,z9qu,hch,hgr,hst]
  have e4:idsQ (qLv k) [x]=[]:=by simp [idsQ,y04,qLv,hst]
  have e5:idsQ (qDn k) [x]=[]:=by simp [idsQ,y04,qDn,hst]
  have e6:idsQ (qRp k c.g.l[k]) [x]=[]:=by simp [idsQ,y04,qRp,sRep,hst]
  have e7:idsQ (qSp k c.g.l[k]) [x]=[]:=by simp [idsQ,y04,qSp,z7e4,hst]
  obtain ⟨qa,qb,qc⟩:=q
  refine ⟨⟨?_,?_,?_⟩,?_⟩
  ·rw [z9c3,qa,e1]; rfl
  ·left
   rw [z9c3,e3,y0m]
   simp only [y0x]
   omega
  ·unfold z7wz at qc ⊢
   rw [z9c3,e4,y06,z9c3,e5,y06,z9c3,e6,y06,z9c3,e7,y06]
   rcases qc with qc|⟨q1,q2,_⟩
   ·exact .inl qc
   ·refine .inr ⟨q1,q2,.inr ?_⟩
    rw [z9c3,e3,y0m]
    simp only [y0x]
    omega
  ·rw [z9c3,e3,y0m]; exact y03 _
theorem zco9 (hk:k<c.g.l.length) {want:Int} : ∀ {m:Nat} {s:Rnd} {B O:Nat},RI (c.g.l.map gl) s B O→Quiet k c.g.l[k] s.c.i.l→(m=0∨((idsQ (qGd k c.g.l[k]) s.c.i.l).length:Int)+m≤c.g.l[k].want)→Quiet k c.g.l[k] (zinu tr ix t k want m s).c.i.l
 | 0,s,B,O,_,q,_=>q
 | m+1,s,B,O,h,q,hm=>by
  have hm:=hm.resolve_left (by omega)
  unfold zinu
  split
  ·obtain ⟨q',hl⟩:=zfr2 (tr:=tr) (ix:=ix) (t:=t) h hk q (by omega)
   exact zco9 hk (z3da (t:=t) (tr:=tr) (ix:=ix) (k:=k) h) q' (.inr (by omega))
  ·exact q
theorem zbqh (h:RI (c.g.l.map gl) s B O) (ht:zcie t) (hk:k<c.g.l.length):Quiet k c.g.l[k] (grpS tr ix t k c.g.l[k].want s).c.i.l:=by
 have r1:=zux2 (t:=t) (k:=k) h
 have r2:=znba (t:=t) (k:=k) (want:=c.g.l[k].want) r1
 have r3:=zfti (t:=t) (k:=k) r2
 have q1:=zaj8 h ht hk
 obtain ⟨qa,qb⟩:=zr3d r1 ht hk q1
 have q3:=zm0c r2 ht hk qa qb
 have hg:=z1ms r3.g hk
 refine zco9 hk r3 q3 ?_
 rw [hg]
 omega
theorem zr86 (h:RI (c.g.l.map gl) s B O) (hk:k<c.g.l.length) (q:Quiet k c.g.l[k] s.c.i.l) (hc:(choC tr ix s.c k t).isSome=true→c.g.l[k].want≤(znqs s.c k).length):grpS tr ix t k c.g.l[k].want s=s:=by
 have hgi:=z1ms h.g hk
 have e1:grS1 t k s=s:=by
  unfold grS1
  rw [zdwj h hk,q.a]; rfl
 have e2:grS2 t k c.g.l[k].want s=s:=by
  unfold grS2
  rcases q.b with b|b
  ·rw [hgi,show (((idsQ (qGd k c.g.l[k]) s.c.i.l).length:Int)-c.g.l[k].want).toNat=0 by omega,List.take_zero]; rfl
  ·rw [zdwj h hk,b,List.reverse_nil,y0y]; rfl
 have e3:grS3 t k s=s:=by
  unfold grS3
  rcases q.c with b|⟨b1,b2,b3⟩
  ·have:z17v s.c k=0:=by rw [zouj h.g hk,zb41 h.g hk]; exact b
   rw [this]; rfl
  ·have:zu3j s.c k=[]:=by
    rw [zssx h.g hk,b1,b2]
    rcases b3 with b3|b3
    ·rw [b3,List.reverse_nil,y0y]; rfl
    ·rw [hgi,show (((idsQ (qGd k c.g.l[k]) s.c.i.l).length:Int)-c.g.l[k].want).toNat=0 by omega,List.take_zero]; rfl
   rw [this,y0y]; rfl
 unfold grpS
 rw [e1,e2,e3]
 unfold filS
 cases hm:(c.g.l[k].want-((znqs s.c k).length:Int)).toNat with
 | zero=>rfl
 | succ m =>
  have hn:choC tr ix s.c k t=none:=by
   cases hcc:choC tr ix s.c k t with
   | none=>rfl
   | some d=>rw [hcc] at hc; have:=hc rfl; omega
  have:(zusy tr ix t k s).1=false:=by unfold zusy; rw [hn]
  unfold zinu
  rw [if_neg (by rw [this]; decide)]
end
section
variable {c:Clu} {gr:List Int} {tr:List Tri} {ix:List Ixe} {t:Int} (hv:ValidC c) (hn:c.g.l.length≤3) (hw : ∀ g ∈ c.g.l,g.want≤3) (hi:c.i.l.length≤10) (hx:c.next≤1000000) (ht:zcie t)
include hv hn hw hi ht in
theorem zkf4:ze9z (rndP tr ix gr t c).c.i.l 0 gr t=[]:=by
 obtain ⟨W,N,q⟩:=z6bz (tr:=tr) (ix:=ix) (gr:=gr) hv hn hw hi ht
 rw [List.eq_nil_iff_forall_not_mem]
 intro n hm
 obtain ⟨j,hj,h1,h2⟩:=zunx.1 hm
 rw [Nat.zero_add] at h1
 have hg:=y0h q.l hj
 simp only [hg] at h1
 by_cases hjl:j<c.i.l.length
 ·rw [List.getElem_append_left (by rw [zo9a]; exact hjl)] at h1
  simp only [mkS,List.getElem_map] at h1
  by_cases hV:c.i.l[j].id ∈ ze9z c.i.l 0 gr t++W
  ·rw [if_pos hV] at h1
   simp [z9hf,zgls] at h1
  ·rw [if_neg hV] at h1
   exact hV (y01.2 (.inl (zunx.2 ⟨j,hjl,by rw [Nat.zero_add]; exact h1,rfl⟩)))
 ·rw [List.getElem_append_right (by rw [zo9a]; omega)] at h1
  have hjj:j<(mkS t (ze9z c.i.l 0 gr t++W) c.i.l++N).length:=by rw [← q.l]; exact hj
  rw [y0m,zo9a] at hjj
  have:=(q.ni _ (y0b (show j-(mkS t (ze9z c.i.l 0 gr t++W) c.i.l).length<N.length by rw [zo9a]; omega))).2.2.2.2.2.1
  simp only [z9hf,y02,decide_eq_true_eq] at h1
  omega
include hv hn hw hi ht in
theorem zdcr {k:Nat} (hk:k<c.g.l.length):Quiet k c.g.l[k] (rndP tr ix gr t c).c.i.l:=by
 have rK:=ztza hv hn hw hi (tr:=tr) (ix:=ix) (t:=t) (gr:=gr) (k:=k) (by omega)
 have p1:part k (rndP tr ix gr t c).c.i.l=part k (rndS tr ix t c (k+1) (rnd0 gr t c)).c.i.l:=z7c1 hv hn hw hi (tr:=tr) (ix:=ix) (t:=t) (gr:=gr) (k:=k) (m:=c.g.l.length) hk (y03 _)
 refine zjha p1.symm ?_
 show Quiet k c.g.l[k] (grpS tr ix t k (ze6v c k) (rndS tr ix t c k (rnd0 gr t c))).c.i.l
 rw [zgyw hk]
 exact zbqh rK ht hk
include hv hn hw hi ht hx in
theorem ztjs:(∀ k,k≤c.g.l.length→rndS tr ix t (rndP tr ix gr t c).c k (rnd0 gr t (rndP tr ix gr t c).c)=⟨(rndP tr ix gr t c).c.clone,[]⟩)∧rndP tr ix gr t (rndP tr ix gr t c).c=⟨(rndP tr ix gr t c).c.clone,[]⟩:=by
 have rN:=ztza hv hn hw hi (tr:=tr) (ix:=ix) (t:=t) (gr:=gr) (k:=c.g.l.length) (y03 _)
 have hen:=fun k (hk:k<c.g.l.length)=>z2vc hv hn hw hi hx ht (tr:=tr) (ix:=ix) (gr:=gr) hk
 have hq:=fun k (hk:k<c.g.l.length)=>zdcr (tr:=tr) (ix:=ix) (gr:=gr) hv hn hw hi ht hk
 have hov:=zkf4 (tr:=tr) (ix:=ix) (gr:=gr) hv hn hw hi ht
 have hrp:rndS tr ix t c c.g.l.length (rnd0 gr t c)=rndP tr ix gr t c:=rfl
 rw [hrp] at rN
 obtain ⟨R,hR⟩ : ∃ R,rndP tr ix gr t c=R:=⟨_,rfl⟩
 rw [hR] at rN hen hq hov ⊢
 have h0:rnd0 gr t R.c=⟨R.c.clone,[]⟩:=by unfold rnd0; rw [hov]; rfl
 have hg0:R.c.clone.g.l.map gl=c.g.l.map gl:=by rw [← rN.g]; exact z9hp _
 have r0:RI (c.g.l.map gl) ⟨R.c.clone,[]⟩ (10+3*c.g.l.length) 0:=⟨zwds rN.v,hg0,rN.b,y03 _⟩
 have key : ∀ k,k≤c.g.l.length→rndS tr ix t R.c k (rnd0 gr t R.c)=⟨R.c.clone,[]⟩:=by
  intro k
  induction k with
  | zero=>intro _; exact h0
  | succ k ih =>
   intro hk
   have hk':k<c.g.l.length:=by omega
   show grpS tr ix t k (ze6v R.c k) (rndS tr ix t R.c k (rnd0 gr t R.c))=_
   rw [ih (by omega)]
   have hw1:ze6v R.c k=c.g.l[k].want:=by
    obtain ⟨p,e⟩:=z4ua rN.g hk'
    rw [zgyw p,e,zgyw hk']
   rw [hw1]
   refine zr86 r0 hk' (hq k hk') fun hc => ?_
   have hc:(choC tr ix R.c.clone k t).isSome=true:=hc
   rw [zxrl (d:=R.c) (by rw [hg0,rN.g])] at hc
   have h1:=hen k hk' hc
   rw [zgyw hk'] at h1
   have h2:znqs R.c.clone k=znqs R.c k:=zzme (by rw [hg0,rN.g]) rfl
   show _≤((znqs R.c.clone k).length:Int)
   rw [h2]; exact h1
 refine ⟨key,?_⟩
 have hlen:R.c.g.l.length=c.g.l.length:=by have:=congrArg List.length rN.g; simpa using this
 unfold rndP
 rw [hlen]
 exact key _ (y03 _)
end
end
section
set_option linter.unusedSimpArgs false
set_option linter.unusedVariables false
set_option maxRecDepth 20000
open Go Go.Am
noncomputable def zanc:Tbl:=addT 12 (.new cScn) (addT 25 (.pure cRnd) (addT 27 (.pure cCC) (addT 29 (.pure (cC1 zwdn)) (addT 21 (.pure cTru) tbl0))))
theorem z5do:zanc 12 = .new cScn:=by simp [zanc]
theorem zil9:zanc 25 = .pure cRnd:=by simp [zanc]
theorem zz5i:zanc 27 = .pure cCC:=by simp [zanc]
theorem zsnf:zanc 29 = .pure (cC1 zwdn):=by simp [zanc]
theorem zqkz:zanc 21 = .pure cTru:=by simp [zanc]
theorem z5z3:zanc.Sound P:=z0rp zr8u (z0rp zclv (z0rp zgg0 (z0rp (z2au fun x _=>zljw mix zwqh Tryz.func29 ztig (zkeg x)) (z0rp (zi1x zul1) zr5o))))
theorem zlzq {s:Scn} {a:RdA} (hf:ScnF s a):RdOK ⟨(rndP a.tr.l a.x.e.l a.gr.l a.t a.c).c,a.x,a.tr,a.gr,a.t⟩:=by
 have rN:RI (a.c.g.l.map gl) (rndP a.tr.l a.x.e.l a.gr.l a.t a.c) (10+3*a.c.g.l.length) (10+100*a.c.g.l.length):=ztza hf.v hf.n hf.w hf.i (tr:=a.tr.l) (ix:=a.x.e.l) (t:=a.t) (gr:=a.gr.l) (k:=a.c.g.l.length) (y03 _)
 have tw:=(ztjs (tr:=a.tr.l) (ix:=a.x.e.l) (gr:=a.gr.l) hf.v hf.n hf.w hf.i hf.nx hf.tm).1
 have hn:=hf.n
 obtain ⟨R,hR⟩ : ∃ R,rndP a.tr.l a.x.e.l a.gr.l a.t a.c=R:=⟨_,rfl⟩
 rw [hR] at rN tw ⊢
 have hlen:R.c.g.l.length=a.c.g.l.length:=by have:=congrArg List.length rN.g; simpa using this
 have hb:=rN.b
 refine ⟨hf.ok.ch,⟨fun x hx => ?_,hf.ok.ov.g,hf.ok.ov.t⟩,by show R.c.i.l.length≤200; omega,fun k hk => ?_⟩
 ·have hx:x ∈ R.c.i.l:=hx
  obtain ⟨j,hj,rfl⟩:=y09 hx
  rcases (rN.v.i j hj).1.de with e|e
  ·rw [e]; exact ⟨by decide,by decide⟩
  ·exact ⟨by have:=e.1; omega,by have:=e.2; omega⟩
 ·have hk:k<R.c.g.l.length:=hk
  show GrOK a.t (rndS a.tr.l a.x.e.l a.t R.c k (rnd0 a.gr.l a.t R.c)) k (ze6v R.c k)
  rw [tw k (by omega)]
  have hg0:R.c.clone.g.l.map gl=a.c.g.l.map gl:=by rw [← rN.g]; exact z9hp _
  have r0:RI (a.c.g.l.map gl) ⟨R.c.clone,[]⟩ (10+3*a.c.g.l.length) 0:=⟨zwds rN.v,hg0,rN.b,y03 _⟩
  obtain ⟨p,q⟩:=z4ua (c:=R.c) (d:=R.c.clone) (z9hp _) hk
  exact z8wq r0 (by omega) (by omega) p q
theorem zvqm (x:Nl):Runs zanc a6 [x.dv] (.bool true):=by
 refine ⟨?_⟩
 obtain ⟨u,hu⟩ : ∃ u,tp0 x 300=u:=⟨_,rfl⟩
 have hua:u.at_=0:=by rw [← hu]; rfl
 have hS:=fun n=>zd92 (x:=x) (n:=n)
 rw [hu] at hS
 obtain ⟨a,hf⟩:=ztew u hua
 obtain ⟨s,hs⟩ : ∃ s,(scnV u).1=s:=⟨_,rfl⟩
 rw [hs] at hf hS
 obtain ⟨w,hw⟩ : ∃ w,(scnV u).2=w:=⟨_,rfl⟩
 rw [hw] at hS
 have hR:=zunp hf.ok
 have hR2:=zunp (zlzq hf)
 have tw:=(ztjs (tr:=a.tr.l) (ix:=a.x.e.l) (gr:=a.gr.l) hf.v hf.n hf.w hf.i hf.nx hf.tm).2
 have hRv:ValidC (rndP a.tr.l a.x.e.l a.gr.l a.t a.c).c:=(ztza hf.v hf.n hf.w hf.i (tr:=a.tr.l) (ix:=a.x.e.l) (t:=a.t) (gr:=a.gr.l) (k:=a.c.g.l.length) (y03 _)).v
 have hxx:xiC a.x=[.int .i64 0,isV s.x]:=by unfold xiC; rw [hf.x0,hf.x]
 simp only [tw] at hR2
 rw [hxx,hf.tr,hf.gr,hf.c,hf.t] at hR hR2
 rw [hf.c,hf.t] at hRv
 have hx:=zkx7 x
 have ho8:scnC s=o8 s.c (.int .i64 0) (isV s.x) (trV s.tr) (liV s.gr) (.int .i64 s.t):=rfl
 rw [ho8] at hS
 have s8:=fun H=>zws3 (c:=s.c) (a := .int .i64 0) (b:=isV s.x) (d:=trV s.tr) (e:=liV s.gr) (f := .int .i64 s.t) (H:=H) (id:=3) rfl (zcwq _) (zq54 _) (zj6i _) rfl
 have l3:oneC 2 true ((o8 s.c (.int .i64 0) (isV s.x) (trV s.tr) (liV s.gr) (.int .i64 s.t)).drop 3)=some (.agg [.int .i64 0,isV s.x]):=rfl
 have l5:oneC 1 false ((o8 s.c (.int .i64 0) (isV s.x) (trV s.tr) (liV s.gr) (.int .i64 s.t)).drop 5)=some (trV s.tr):=rfl
 have l6:oneC 1 false ((o8 s.c (.int .i64 0) (isV s.x) (trV s.tr) (liV s.gr) (.int .i64 s.t)).drop 6)=some (liV s.gr):=rfl
 have l7:oneC 1 false ((o8 s.c (.int .i64 0) (isV s.x) (trV s.tr) (liV s.gr) (.int .i64 s.t)).drop 7)=some (.int .i64 s.t):=rfl
 have hlo : ∀ c a b d e f,(o8 c a b d e f).length=8:=fun c a b d e f=>rfl
 have hpc:=fun c=>zy11 c
 have hpv:=zm03 s.x
 have hpt:=znen s.tr
 have hpg:=z4yh s.gr
 obtain ⟨R,hRR⟩ : ∃ R,rndP a.tr.l a.x.e.l a.gr.l s.t s.c=R:=⟨_,rfl⟩
 rw [hRR] at hR hR2 hRv
 have hR2:cRnd [.agg (clC R.c),.agg [.int .i64 0,isV s.x],trV s.tr,liV s.gr,.int .i64 s.t]=some (.tup [.agg (clC R.c.clone),.nils]):=hR2
 have hsm:SameC R.c R.c.clone:=⟨(z9hp _).symm,rfl,rfl⟩
 have hse:=zkj3 (a:=R.c) (b:=R.c.clone)
 have hsb:ziu6 R.c R.c.clone=true:=zogs hsm
 rw [hsb] at hse
 have hva:=zf0o (g:=zwdn) (x:=R.c)
 have hvb:zwdn R.c = .bool true:=by unfold zwdn; rw [zogs hRv]
 rw [hvb] at hva
 have hst3 : ∀ (c:Clu) (h:List AObj) (id:Nat),zy6o h id 3 0 (.agg (clC c)) (some [.nils,.nils,.int .i64 0])=some (.junk,h.set id (.cells (clC c))):=fun c h id=>zfc1 rfl rfl (by simp [clC,z4ja])
 have hcl : ∀ c,oneC 3 true (clC c)=some (.agg (clC c)):=fun c=>rfl
 have hl3 : ∀ c,(clC c).length=3:=fun c=>rfl
 simp (disch:=first|omega|simp<;>omega|fail) [-zA,-zB,-zC,-zD,-zE,a6,z5do,hS,hx,s8,o8_3,l3,l5,l6,l7,hlo,zil9,hR,hR2,rdV,hpc,hpv,hpt,hpg,hst3,hcl,hl3,zz5i,hse,zsnf,hva,zqkz,cTru]
namespace evictorTwice
theorem law_holds (dvs) (h:Ty.Args [.sl (.int .i64)] dvs):Am.Sem P 6 dvs (.bool true):=by
 obtain ⟨d1,l1,rfl,h1,rfl⟩:=h
 obtain ⟨x,_,hx⟩:=zjzy h1
 cases hx
 exact zljw mix z5z3 Tryz.func6 zc7x (zvqm x)
end evictorTwice
end
end Go.Proofs.YtaihpefemjlilaaGreatDoor
