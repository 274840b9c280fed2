/-
  12 texts of mine in one.
-/
import Derived.Test.YtaihpefemjlilaaGreatDoorC16c54cbb
import Derived.Test.YtaihpefemjlilaaGreatDoorC3c36ba98
import Derived.Test.YtaihpefemjlilaaGreatDoorCab99a2e3
import Derived.Test.YtaihpefemjlilaaGreatDoorC44d96b08
import Derived.Test.YtaihpefemjlilaaGreatDoorCd8ba28c9
import Derived.Test.YtaihpefemjlilaaGreatDoorCfe9d2740
import Derived.Test.YtaihpefemjlilaaGreatDoorCc8926219
import Derived.Test.YtaihpefemjlilaaGreatDoorCee5d00f4
set_option maxRecDepth 20000
set_option maxHeartbeats 4000000
open List renaming map_take → zA, map_drop → zB, map_set → zC, map_append → zD, drop_one → zE
set_option linter.unusedSimpArgs false
set_option linter.unusedVariables false
set_option maxRecDepth 20000
namespace Go.Proofs.YtaihpefemjlilaaGreatDoor
open Go Go.Am
structure Scn where
 c:Clu
 x:List Ixe
 tr:List Tri
 gr:List Int
 t:Int
def scnC (s:Scn):List DV:=[s.c.g.dv 6 grC,s.c.i.dv 37 inC,.int .i64 s.c.next,.int .i64 0,isV s.x,trV s.tr,liV s.gr,.int .i64 s.t]
noncomputable def scnV (u:Tp):Scn × Tp :=
 let c:=(zcpt u 8).1
 let w:=(zcpt u 8).2
 let n:=3*c.g.l.length
 let w1:=w.adv n
 let w2:=(triS w1 c n).1
 let w3:=w2.adv c.i.l.length
 (⟨c,idxL w c n,(triS w1 c n).2,graL w2 c.i.l.length,30+tpN w3 20⟩,w3.adv 1)
noncomputable def z8gk:Tbl:=addT 37 (.new zl5p) (addT 38 (.tch cClu) (addT 13 (.tch z1m3) (addT 39 (.tch cIdx) (addT 40 (.tch cTri) (addT 41 (.tch cGra) tbl0)))))
theorem z9vj:z8gk 37 = .new zl5p:=by simp [z8gk]
theorem zf0m:z8gk 38 = .tch cClu:=by simp [z8gk]
theorem zkp3:z8gk 13 = .tch z1m3:=by simp [z8gk]
theorem z6jf:z8gk 39 = .tch cIdx:=by simp [z8gk]
theorem zj0z:z8gk 40 = .tch cTri:=by simp [z8gk]
theorem zdoe:z8gk 41 = .tch cGra:=by simp [z8gk]
theorem zqvq:z8gk.Sound P:=z0rp ze95 (z0rp zwvn (z0rp z51e (z0rp zkb9 (z0rp zka8 (z0rp z10g zr5o)))))
theorem zq54 (l:List Tri):(trV l).one=true:=by unfold trV; split<;>rfl
theorem zdci (l:List Tri):(trV l).cells=[trV l]:=by unfold trV; split<;>rfl
def o8 (c:Clu) (a b d e f:DV):List DV:=[c.g.dv 6 grC,c.i.dv 37 inC,.int .i64 c.next,a,b,d,e,f]
theorem o8_b {c:Clu}:zvnk [.nils,.nils,.int .i64 0,.int .i64 0,.nils,.nils,.nils,.int .i64 0] [(0,3,.agg (clC c))]=some (.agg (o8 c (.int .i64 0) .nils .nils .nils (.int .i64 0))):=rfl
section
variable {c:Clu} {a b d e f:DV} {H:List AObj} {id:Nat}
theorem z6ng (h1:a.one=true) (h2:b.one=true) (h3:d.one=true) (h4:e.one=true) (h5:f.one=true):(o8 c a b d e f).all DV.one=true:=by simp [o8,z4ja,h1,h2,h3,h4,h5]
theorem zws3 (h1:a.one=true) (h2:b.one=true) (h3:d.one=true) (h4:e.one=true) (h5:f.one=true):zy6o H id 8 0 (.agg (o8 c a b d e f)) (some [.nils,.nils,.int .i64 0,.int .i64 0,.nils,.nils,.nils,.int .i64 0])=some (.junk,H.set id (.cells (o8 c a b d e f))):=zfc1 rfl rfl (z6ng h1 h2 h3 h4 h5)
theorem o8_3:oneC 3 true (o8 c a b d e f)=some (.agg (clC c)):=rfl
theorem o8_8:oneC 8 true (o8 c a b d e f)=some (.agg (o8 c a b d e f)):=rfl
theorem z3nx {x y:DV} (h1:x.one=true) (h2:y.one=true):zy6o H id 2 3 (.agg [x,y]) (some (o8 c a b d e f))=some (.junk,H.set id (.cells (o8 c x y d e f))):=by
 have h:(DV.agg [x,y]).cells.length=2∧3+2≤(o8 c a b d e f).length∧(DV.agg [x,y]).cells.all DV.one=true:=⟨rfl,by show 5≤8; decide,by simp [DV.cells,h1,h2]⟩
 exact (if_pos h).trans rfl
theorem zo9w {x:DV} (hc:x.cells=[x]) (ho:x.one=true):zy6o H id 1 5 x (some (o8 c a b d e f))=some (.junk,H.set id (.cells (o8 c a b x e f))):=by
 rw [Am.storeO_1 hc ho (by show 5<8; decide)]; rfl
theorem zdmn {x:DV} (hc:x.cells=[x]) (ho:x.one=true):zy6o H id 1 6 x (some (o8 c a b d e f))=some (.junk,H.set id (.cells (o8 c a b d x f))):=by
 rw [Am.storeO_1 hc ho (by show 6<8; decide)]; rfl
theorem z7tb {x:DV} (hc:x.cells=[x]) (ho:x.one=true):zy6o H id 1 7 x (some (o8 c a b d e f))=some (.junk,H.set id (.cells (o8 c a b d e x))):=by
 rw [Am.storeO_1 hc ho (by show 7<8; decide)]; rfl
end
theorem zfog (x:Nl):RunsH z8gk a12 [x.dv] [] (.tup [.agg (scnC (scnV (tp0 x 300)).1),.mp 1 2 0]) [.cells (scnC (scnV (tp0 x 300)).1),.cells (tpC (scnV (tp0 x 300)).2),.cells (scnC (scnV (tp0 x 300)).1)]:=by
 refine ⟨?_⟩
 obtain ⟨u,hu⟩ : ∃ u,tp0 x 300=u:=⟨_,rfl⟩
 have hua:u.at_=0:=by rw [← hu]; rfl
 obtain ⟨hv,hg⟩:=zlnb u 8 (by decide) (by decide)
 have hn9:=zukg u 8 (by decide) (by decide)
 have hat:=z2ep u 8 (by decide) (by decide)
 have hT:=fun m=>zwy3 (x:=x) (n:=300) (by decide) m
 rw [hu] at hT
 simp only [show ((300:Nat):Int)=300 from rfl] at hT
 rw [hu]
 have hsc:scnV u=(⟨(zcpt u 8).1,idxL (zcpt u 8).2 (zcpt u 8).1 (3*(zcpt u 8).1.g.l.length),(triS ((zcpt u 8).2.adv (3*(zcpt u 8).1.g.l.length)) (zcpt u 8).1 (3*(zcpt u 8).1.g.l.length)).2,graL (triS ((zcpt u 8).2.adv (3*(zcpt u 8).1.g.l.length)) (zcpt u 8).1 (3*(zcpt u 8).1.g.l.length)).1 (zcpt u 8).1.i.l.length,30+tpN ((triS ((zcpt u 8).2.adv (3*(zcpt u 8).1.g.l.length)) (zcpt u 8).1 (3*(zcpt u 8).1.g.l.length)).1.adv (zcpt u 8).1.i.l.length) 20⟩,((triS ((zcpt u 8).2.adv (3*(zcpt u 8).1.g.l.length)) (zcpt u 8).1 (3*(zcpt u 8).1.g.l.length)).1.adv (zcpt u 8).1.i.l.length).adv 1):=rfl
 rw [hsc]
 clear hsc
 have hC:=z9dl (t:=u) (m:=8) (by omega) (by decide) (by decide)
 obtain ⟨c,hc⟩ : ∃ c,(zcpt u 8).1=c:=⟨_,rfl⟩
 obtain ⟨w,hw⟩ : ∃ w,(zcpt u 8).2=w:=⟨_,rfl⟩
 rw [hc,hw] at hC
 rw [hc] at hv hg hn9
 rw [hw] at hat
 rw [hc,hw]
 have hng:=hv.ng
 have hI:=zj2w (t:=w) (c:=c) (by omega) (by omega)
 have hpI:=zm03 (idxL w c (3*c.g.l.length))
 have hoI:=zcwq (idxL w c (3*c.g.l.length))
 obtain ⟨n,hn⟩ : ∃ n,c.g.l.length=n:=⟨_,rfl⟩
 rw [hn] at hI hng hpI hoI
 rw [hn]
 have hTr:=zbtb (t:=w.adv (3*n)) (c:=c) (by show w.at_+3*n<_; omega) (by omega)
 rw [hn] at hTr
 have htl:=zso0 (t:=w.adv (3*n)) (c:=c) (3*n)
 have hwa:(w.adv (3*n)).at_=w.at_+3*n:=rfl
 obtain ⟨T,hTe⟩ : ∃ T,triS (w.adv (3*n)) c (3*n)=T:=⟨_,rfl⟩
 rw [hTe] at hTr htl
 rw [hTe]
 obtain ⟨w2,tr⟩:=T
 simp only at hTr htl ⊢
 have hG:=zxh3 (t:=w2) (c:=c) (by omega) (by omega)
 obtain ⟨X,hX⟩ : ∃ X,idxL w c (3*n)=X:=⟨_,rfl⟩
 rw [hX] at hI hpI hoI
 rw [hX]
 obtain ⟨m,hm⟩ : ∃ m,c.i.l.length=m:=⟨_,rfl⟩
 rw [hm] at hG hn9
 rw [hm]
 have hN:=z44h (t:=w2.adv m) (n:=20) (by show w2.at_+m<_; omega) (by decide) (by decide)
 have hz:=z2s7 (w2.adv m) (n:=20) (by decide)
 have hz0:=z4rs (w2.adv m) 20
 obtain ⟨z,hze⟩ : ∃ z,tpN (w2.adv m) 20=z:=⟨_,rfl⟩
 rw [hze] at hN hz hz0
 rw [hze]
 obtain ⟨w4,hw4⟩ : ∃ w4,(w2.adv m).adv 1=w4:=⟨_,rfl⟩
 rw [hw4] at hN
 rw [hw4]
 obtain ⟨g,hge⟩ : ∃ g,graL w2 m=g:=⟨_,rfl⟩
 rw [hge] at hG
 rw [hge]
 have hx:=zkx7 x
 have s2:=fun H=>z3nx (c:=c) (a := .int .i64 0) (b := .nils) (d := .nils) (e := .nils) (f := .int .i64 0) (H:=H) (id:=2) (x := .int .i64 0) (y:=isV X) rfl hoI
 have s5:=fun H=>zo9w (c:=c) (a := .int .i64 0) (b:=isV X) (d := .nils) (e := .nils) (f := .int .i64 0) (H:=H) (id:=2) (zdci tr) (zq54 tr)
 have s6:=fun H=>zdmn (c:=c) (a := .int .i64 0) (b:=isV X) (d:=trV tr) (e := .nils) (f := .int .i64 0) (H:=H) (id:=2) (zf8a g) (zj6i g)
 have s7:=fun H=>z7tb (c:=c) (a := .int .i64 0) (b:=isV X) (d:=trV tr) (e:=liV g) (f := .int .i64 0) (H:=H) (id:=2) (x := .int .i64 (30+z)) rfl rfl
 have s8:=fun H=>zws3 (c:=c) (a := .int .i64 0) (b:=isV X) (d:=trV tr) (e:=liV g) (f := .int .i64 (30+z)) (H:=H) (id:=0) rfl hoI (zq54 tr) (zj6i g) rfl
 have s0:=fun H=>zws3 (c:=c) (a := .int .i64 0) (b := .nils) (d := .nils) (e := .nils) (f := .int .i64 0) (H:=H) (id:=2) rfl rfl rfl rfl rfl
 have hlo : ∀ a b d e f,(o8 c a b d e f).length=8:=fun a b d e f=>rfl
 have hfin:scnC ⟨c,X,tr,g,30+z⟩=o8 c (.int .i64 0) (isV X) (trV tr) (liV g) (.int .i64 (30+z)):=rfl
 rw [hfin]
 simp (disch:=first|omega|simp<;>omega|fail) [-zA,-zB,-zC,-zD,-zE,o8_b,s0,s2,s5,s6,s7,s8,o8_3,o8_8,hlo,zy11,a12,z9vj,hT,zf0m,hC,z6jf,hI,zj0z,hTr,zdoe,hG,zkp3,hN,hx]
 done
end Go.Proofs.YtaihpefemjlilaaGreatDoor
set_option linter.unusedSimpArgs false
set_option linter.unusedVariables false
set_option maxRecDepth 20000
namespace Go.Proofs.YtaihpefemjlilaaGreatDoor
open Go Go.Am
theorem zenn:Tot lsP:=by
 have h:=zqwe (f:=fun a:Rqs=>(a.ns,(a.im,a.art))) (fun a b e=>by
  obtain ⟨a1,a2,a3⟩:=a
  obtain ⟨b1,b2,b3⟩:=b
  simp only [Prod.mk.injEq] at e
  rw [e.1,e.2.1,e.2.2]) (zcht z3gj (zcht z3gj zc3a))
 have e:(fun a b:Rqs=>zynh Op.bytesLess (zynh Op.bytesLess dgLt) (a.ns,(a.im,a.art)) (b.ns,(b.im,b.art)))=lsP:=by
  funext a b; rfl
 rw [e] at h
 exact h
def SrtX (l:List Ixe):Prop:=l.Pairwise fun a b=>lsP (ixR b) (ixR a)=false
theorem z7jw {a b c:Rqs} (h1:lsP b a=false) (h2:lsP b c=true):lsP a c=true:=by
 rcases zenn.tot a b with h|h|h
 ·exact zenn.tr _ _ _ h h2
 ·rw [h]; exact h2
 ·rw [h] at h1; cases h1
theorem z83d {a b e:Rqs} (h1:lsP b a=false) (h2:lsP e b=false):lsP e a=false:=by
 cases h:lsP e a with
 | false=>rfl
 | true =>
  rcases zenn.tot a b with q|q|q
  ·rw [zenn.tr _ _ _ h q] at h2; cases h2
  ·rw [q] at h; rw [h] at h2; cases h2
  ·rw [q] at h1; cases h1
theorem zd43 {e:Rqs} {l:List Ixe} : ∀ k,k≤l.length→(∀ j (hj:j<l.length),insK e l k≤j→j<k→lsP e (ixR l[j])=true)∧(∀ i (hi:i<l.length),i+1=insK e l k→lsP e (ixR l[i])=false)
 | 0,_=>⟨fun j hj _ h=>by omega,fun i hi h=>by simp [insK] at h⟩
 | k+1,hk=>by
  have hlt:k<l.length:=by omega
  have hu:insK e l (k+1)=if lsP e (ixR l[k])=true then insK e l k else k+1:=by
   conv=>lhs; unfold insK
   rw [List.getElem?_eq_getElem hlt]
  cases h:lsP e (ixR l[k]) with
  | true =>
   rw [h,if_pos rfl] at hu
   obtain ⟨a,b⟩:=zd43 (e:=e) (l:=l) k (by omega)
   rw [hu]
   refine ⟨fun j hj h1 h2 => ?_,b⟩
   by_cases ej:j=k
   ·subst ej; exact h
   ·exact a j hj h1 (by omega)
  | false =>
   rw [h,if_neg (by simp)] at hu
   rw [hu]
   refine ⟨fun j hj h1 h2=>by omega,fun i hi h1 => ?_⟩
   obtain rfl:i=k:=by omega
   exact h
theorem zhsg {l:List Ixe} {e:Ixe} (h:SrtX l):SrtX (insX l e):=by
 have hle:=z13x (e:=ixR e) (l:=l) l.length
 obtain ⟨s1,s2⟩:=zd43 (e:=ixR e) (l:=l) l.length (Nat.le_refl _)
 unfold insX
 obtain ⟨k,hk⟩ : ∃ k,insK (ixR e) l l.length=k:=⟨_,rfl⟩
 rw [hk] at hle s1 s2 ⊢
 have hp:=List.pairwise_iff_getElem.1 h
 have before : ∀ i (hi:i<l.length),i<k→lsP (ixR e) (ixR l[i])=false:=fun i hi hik=>by
  by_cases q:i+1=k
  ·exact s2 i hi q
  ·exact z83d (hp i (k-1) hi (by omega) (by omega)) (s2 (k-1) (by omega) (by omega))
 have after : ∀ j (hj:j<l.length),k≤j→lsP (ixR l[j]) (ixR e)=false:=fun j hj hkj=>by
  cases q:lsP (ixR l[j]) (ixR e) with
  | false=>rfl
  | true =>
   have:=zenn.tr _ _ _ (s1 j hj hkj hj) q
   rw [zenn.irr] at this; cases this
 unfold SrtX
 rw [List.pairwise_append,List.pairwise_append]
 refine ⟨h.sublist (List.take_sublist _ _),⟨List.pairwise_singleton _ _,h.sublist (List.drop_sublist _ _),fun a ha b hb => ?_⟩,fun a ha b hb => ?_⟩
 ·obtain rfl:a=e:=by simpa using ha
  obtain ⟨j,hj,rfl⟩:=List.getElem_of_mem hb
  rw [List.getElem_drop]
  exact after _ _ (by omega)
 ·obtain ⟨i,hi,rfl⟩:=List.getElem_of_mem ha
  rw [List.length_take] at hi
  rw [List.getElem_take]
  rcases List.mem_append.1 hb with hb|hb
  ·obtain rfl:b=e:=by simpa using hb
   exact before _ _ (by omega)
  ·obtain ⟨j,hj,rfl⟩:=List.getElem_of_mem hb
   rw [List.length_drop] at hj
   rw [List.getElem_drop]
   exact hp i (k+j) (by omega) (by omega) (by omega)
theorem z41v {t:Tp} {c:Clu} : ∀ m,SrtX (idxL t c m)
 | 0=>List.Pairwise.nil
 | m+1=>zhsg (z41v m)
theorem zqdf {r:Rqs} {x:Ixe}:cmpR r x<0↔lsP (ixR x) r=true:=by
 rw [zaif,decide_eq_true_eq]; rfl
theorem z4xb {l:List Ixe} (h:SrtX l) (r:Rqs):Mono (cmpR r) l:=by
 intro i j hi hj hij hc
 rw [zqdf] at hc ⊢
 exact z7jw (List.pairwise_iff_getElem.1 h i j hi hj hij) hc
def ltT (a b:Tri):Prop:=a.grp<b.grp∨(a.grp=b.grp∧dgLt a.art b.art=true)
theorem zgl2 {i j:Nat} (h:i<j) (hj:j<3):dgLt (dgB ((i:Int)+1)) (dgB ((j:Int)+1))=true:=by
 have:(i=0∧j=1)∨(i=0∧j=2)∨(i=1∧j=2):=by omega
 rcases this with ⟨rfl,rfl⟩|⟨rfl,rfl⟩|⟨rfl,rfl⟩<;>rfl
theorem z2rl {t:Tp} {c:Clu} : ∀ m,(triS t c m).2.Pairwise ltT ∧ ∀ y ∈ (triS t c m).2,∃ p:Nat,p<m∧y.grp=(p / 3:Nat)∧y.art=dgB (((p % 3:Nat):Int)+1)
 | 0=>⟨List.Pairwise.nil,fun y hy=>by simp [triS] at hy⟩
 | m+1=>by
  obtain ⟨h1,h2⟩:=z2rl (t:=t) (c:=c) m
  have up : ∀ y ∈ (triS t c m).2,∃ p:Nat,p<m+1∧y.grp=(p / 3:Nat)∧y.art=dgB (((p % 3:Nat):Int)+1):=fun y hy=>by
   obtain ⟨p,a,b⟩:=h2 y hy
   exact ⟨p,by omega,b⟩
  unfold triS
  split
  ·split
   ·split
    ·simp only
     rw [List.pairwise_append]
     refine ⟨⟨h1,List.pairwise_singleton _ _,fun a ha b hb => ?_⟩,fun y hy => ?_⟩
     ·obtain rfl:b=_:=by simpa using hb
      obtain ⟨p,p1,p2,p3⟩:=h2 a ha
      unfold ltT
      rw [p2,p3]
      simp only
      by_cases q:p / 3=m / 3
      ·exact .inr ⟨by omega,zgl2 (i:=p % 3) (j:=m % 3) (by omega) (by omega)⟩
      ·exact .inl (by omega)
     ·rcases List.mem_append.1 hy with hy|hy
      ·exact up y hy
      ·obtain rfl:y=_:=by simpa using hy
       exact ⟨m,by omega,rfl,rfl⟩
    ·exact ⟨h1,up⟩
   ·exact ⟨h1,up⟩
  ·exact ⟨h1,up⟩
theorem zyto {a b:Int}:cmpI a b<0↔a<b:=by unfold cmpI; split<;>(try split)<;>omega
theorem zybz {a b:Int}:cmpI a b=0↔a=b:=by unfold cmpI; split<;>(try split)<;>omega
theorem zc02 {g:Int} {d:Dg} {x:Tri}:cmpT g d x<0↔x.grp<g∨(x.grp=g∧dgLt x.art d=true):=by
 unfold cmpT orI
 by_cases e:x.grp=g
 ·rw [if_pos (zybz.2 e),zxr9]
  simp [e]
 ·rw [if_neg (fun q=>e (zybz.1 q)),zyto]
  simp [e]
theorem zc0u {l:List Tri} (h:l.Pairwise ltT) (k:Int) (d:Dg):Mono (cmpT k d) l:=by
 intro i j hi hj hij hc
 rw [zc02] at hc ⊢
 have:=List.pairwise_iff_getElem.1 h i j hi hj hij
 unfold ltT at this
 rcases this with a|⟨a1,a2⟩
 ·rcases hc with b|⟨b1,b2⟩
  ·exact .inl (by omega)
  ·exact .inl (by omega)
 ·rcases hc with b|⟨b1,b2⟩
  ·exact .inl (by omega)
  ·exact .inr ⟨by omega,zc3a.tr _ _ _ a2 b2⟩
end Go.Proofs.YtaihpefemjlilaaGreatDoor
set_option linter.unusedSimpArgs false
set_option linter.unusedVariables false
set_option maxRecDepth 20000
namespace Go.Proofs.YtaihpefemjlilaaGreatDoor
open Go Go.Am
structure RI (gs:List (List UInt8 × List UInt8 × Int × Int × Int × List Dg)) (s:Rnd) (B O:Nat):Prop where
 v:ValidC s.c
 g:s.c.g.l.map gl=gs
 b:s.c.i.l.length≤B
 o:s.o.length≤O
section
variable {gs:List (List UInt8 × List UInt8 × Int × Int × Int × List Dg)} {s:Rnd} {B O:Nat} {t:Int}
theorem zzee (h:RI gs s B O) {B' O':Nat} (hb:B≤B') (ho:O≤O'):RI gs s B' O':=⟨h.v,h.g,by have:=h.b; omega,by have:=h.o; omega⟩
theorem z7tf (h:RI gs s B O) (id:Int):RI gs (zyao t s id) B (O+1):=by
 by_cases h0:(z5wo s.c id t 3).2=0
 ·obtain ⟨i,hi,hf⟩:=zkzr h0
  have ht:zcie t:=by
   by_cases q:zcie t
   ·exact q
   ·unfold z5wo at h0; rw [if_pos (.inr q)] at h0; simp at h0
  have hst:s.c.i.l[i].state≠3:=by
   unfold z5wo at h0
   rw [if_neg (fun q=>q.elim (fun q=>q h.v) (fun q=>q ht)),hf,if_neg (by omega),Int.toNat_natCast,List.getElem?_eq_getElem hi] at h0
   intro e
   simp [may,e] at h0
  have hid:s.c.i.l[i].id=id:=by
   obtain ⟨j,hj,e,p1,_⟩:=ziel (p:=fun x:Ins=>decide (x.id=id)) (l:=s.c.i.l) (by show (0:Int)≤z092 s.c.i.l id; rw [hf]; omega)
   have e:z092 s.c.i.l id=j:=e
   rw [hf] at e
   obtain rfl:i=j:=by omega
   simpa using p1
  have hv:=(z1s1 (gs:=gs) (s:=s) (l:=s.c.i.l) (n:=s.c.next) (o:=s.o) ⟨h.v,h.g,rfl,rfl,rfl⟩ ht (List.getElem_mem hi) hst).1
  rw [hid] at hv
  exact ⟨hv.v,hv.g,by rw [hv.i,zo9a]; exact h.b,by rw [hv.o]; simp [zzoh]; exact h.o⟩
 ·have e:zyao t s id=s:=by unfold zyao; rw [if_neg h0]
  rw [e]; exact zzee h (Nat.le_refl _) (by omega)
theorem z165 : ∀ {V:List Int} {s:Rnd} {O:Nat},RI gs s B O→RI gs (V.foldl (zyao t) s) B (O+V.length)
 | [],s,O,h=>h
 | a::V,s,O,h=>by
  have:=z165 (V:=V) (z7tf (t:=t) h a)
  rw [List.foldl_cons,List.length_cons]
  exact zzee this (Nat.le_refl _) (by omega)
theorem z3da (h:RI gs s B O) {tr:List Tri} {ix:List Ixe} {k:Int}:RI gs (zusy tr ix t k s).2 (B+1) (O+1):=by
 cases hb:(zusy tr ix t k s).1 with
 | false=>rw [z0v2 hb]; exact zzee h (by omega) (by omega)
 | true =>
  have hg:=zu5r hb
  cases hc:choC tr ix s.c k t with
  | none=>unfold zusy at hb; rw [hc] at hb; simp at hb
  | some d =>
   have hs:zusy tr ix t k s=if (z4wu s.c k d t).2.2=0 then (true,⟨(z4wu s.c k d t).1,s.o++[⟨1,(z4wu s.c k d t).2.1,d⟩]⟩) else (false,s):=by unfold zusy; rw [hc]
   by_cases h0:(z4wu s.c k d t).2.2=0
   ·rw [if_pos h0] at hs
    have hst:=h0
    unfold z4wu at hst
    split at hst
    ·simp at hst
    rename_i c1
    split at hst
    ·simp at hst
    rename_i c2
    split at hst
    ·simp at hst
    rename_i c3
    have ht:zcie t:=Classical.byContradiction fun q=>c1 (.inr (.inr q))
    have hd:d≠dg0:=fun q=>c1 (.inr (.inl q))
    obtain ⟨K,rfl⟩ : ∃ K:Nat,k=K:=⟨k.toNat,by omega⟩
    have hgl:gs.length=s.c.g.l.length:=by rw [← h.g]; simp
    have hv:=(zd62 (gs:=gs) (s:=s) (l:=s.c.i.l) (n:=s.c.next) (o:=s.o) ⟨h.v,h.g,rfl,rfl,rfl⟩ ht (k:=K) (by omega) hd (by omega) (by omega)).2.2.1
    have hv:=hv (s.o++[⟨1,(z4wu s.c K d t).2.1,d⟩])
    rw [hs]
    exact ⟨hv.v,hv.g,by rw [hv.i]; simp; exact h.b,by simp; exact h.o⟩
   ·rw [if_neg h0] at hs; rw [hs] at hb; simp at hb
theorem z6og {tr:List Tri} {ix:List Ixe} {k want:Int} : ∀ {m:Nat} {s:Rnd} {B O:Nat},RI gs s B O→RI gs (zinu tr ix t k want m s) (B+m) (O+m)
 | 0,s,B,O,h=>h
 | m+1,s,B,O,h=>by
  unfold zinu
  split
  ·exact zzee (z6og (m:=m) (z3da h)) (by omega) (by omega)
  ·exact zzee h (by omega) (by omega)
theorem zf4b (h:RI gs s B O) {tr:List Tri} {ix:List Ixe} {k want:Int}:RI gs (filS tr ix t k want s) (B+want.toNat) (O+want.toNat):=by
 unfold filS
 exact zzee (z6og h) (by omega) (by omega)
end
end Go.Proofs.YtaihpefemjlilaaGreatDoor
set_option linter.unusedSimpArgs false
set_option linter.unusedVariables false
set_option maxRecDepth 20000
namespace Go.Proofs.YtaihpefemjlilaaGreatDoor
open Go Go.Am
section
variable {gs:List (List UInt8 × List UInt8 × Int × Int × Int × List Dg)} {s:Rnd} {B O:Nat} {t:Int}
theorem zux2 (h:RI gs s B O) {k:Int}:RI gs (grS1 t k s) B (O+B):=by
 have h1:=zt4h (k:=k) (G:=znqs s.c k) (b:=false) (l:=s.c.i.l)
 have:=h.b
 exact zzee (z165 (t:=t) (V:=stgL k (znqs s.c k) false s.c.i.l) h) (Nat.le_refl _) (by omega)
theorem znba (h:RI gs s B O) {k want:Int}:RI gs (grS2 t k want s) B (O+B):=by
 have h1:=zt4h (k:=k) (G:=znqs s.c k) (b:=true) (l:=s.c.i.l)
 have:=h.b
 have h2:((stgL k (znqs s.c k) true s.c.i.l).reverse.take ((znqs s.c k).length-want).toNat).length≤B:=by
  rw [List.length_take,List.length_reverse]; omega
 exact zzee (z165 (t:=t) (V:=(stgL k (znqs s.c k) true s.c.i.l).reverse.take ((znqs s.c k).length-want).toNat) h) (Nat.le_refl _) (by omega)
theorem zfti (h:RI gs s B O) {k:Int}:RI gs (grS3 t k s) B (O+3*B):=by
 have h1:=z9e8 (c:=s.c) (k:=k)
 have:=h.b
 have h2:((zu3j s.c k).take (z17v s.c k).toNat).length≤3*B:=by rw [List.length_take]; omega
 exact zzee (z165 (t:=t) (V:=(zu3j s.c k).take (z17v s.c k).toNat) h) (Nat.le_refl _) (by omega)
theorem z714 (h:RI gs s B O) {tr:List Tri} {ix:List Ixe} {k want:Int}:RI gs (grpS tr ix t k want s) (B+want.toNat) (O+5*B+want.toNat) :=
 zzee (zf4b (zfti (znba (zux2 h)))) (by omega) (by omega)
theorem z8wq (h:RI gs s B O) (hB:B≤19) (hO:O≤20000) {k:Nat} {want:Int} (hk:k<s.c.g.l.length) (hw:s.c.g.l[k].want=want):GrOK t s k want:=by
 obtain ⟨q,_⟩:=h.v.g k hk
 have w0:=q.w0
 have w1:=q.w1
 have hb:=h.b
 have ho:=h.o
 refine ⟨hk,hw,by omega,by omega,by omega,by omega,?_⟩
 have r:=znba (t:=t) (k:=k) (want:=want) (zux2 (t:=t) (k:=k) h)
 exact zt0b r.v (by have:=r.b; omega)
end
theorem z4ua {c d:Clu} (h:d.g.l.map gl=c.g.l.map gl) {k:Nat} (hk:k<c.g.l.length) : ∃ hk':k<d.g.l.length,d.g.l[k].want=ze6v c k:=by
 have hl:d.g.l.length=c.g.l.length:=by have:=congrArg List.length h; simpa using this
 refine ⟨by omega,?_⟩
 have e:gl (d.g.l[k]'(by omega))=gl c.g.l[k]:=by
  have:=List.getElem_of_eq h (i:=k) (by simp; omega)
  simpa using this
 unfold ze6v
 rw [List.getElem?_eq_getElem hk]
 simp only [gl,Prod.mk.injEq] at e
 exact e.2.2.1
theorem z3g1 {c:Clu} {s0:Rnd} {tr:List Tri} {ix:List Ixe} {t:Int} {B0 O0:Nat} (h0:RI (c.g.l.map gl) s0 B0 O0) (hw : ∀ g ∈ c.g.l,g.want≤3) : ∀ {k:Nat},k≤c.g.l.length→k≤3→B0+9≤19→RI (c.g.l.map gl) (rndS tr ix t c k s0) (B0+3*k) (O0+100*k)
 | 0,_,_,_=>h0
 | k+1,hk,h3,hB=>by
  have ih:=z3g1 (tr:=tr) (ix:=ix) (t:=t) h0 hw (k:=k) (by omega) (by omega) hB
  have hwk:ze6v c k≤3:=by
   unfold ze6v
   rw [List.getElem?_eq_getElem (show k<c.g.l.length by omega)]
   exact hw _ (List.getElem_mem _)
  exact zzee (z714 (tr:=tr) (ix:=ix) (t:=t) (k:=k) (want:=ze6v c k) ih) (by omega) (by omega)
theorem zwds {c:Clu} (hv:ValidC c):ValidC c.clone :=
 zqis hv (y:=c.i.clone) rfl fun i h1 h2=>⟨rfl,(hv.i i h2).1⟩
theorem zpyu {c:Clu} (hv:ValidC c) {gr:List Int} {t:Int}:RI (c.g.l.map gl) (rnd0 gr t c) c.i.l.length c.i.l.length:=by
 have h0:RI (c.g.l.map gl) ⟨c.clone,[]⟩ c.i.l.length 0:=⟨zwds hv,z9hp _,Nat.le_refl _,Nat.le_refl _⟩
 have hL:=z9p7 (gr:=gr) (t:=t) (l:=c.i.l) (j:=0)
 exact zzee (z165 (t:=t) (V:=ze9z c.i.l 0 gr t) h0) (Nat.le_refl _) (by omega)
theorem zrko {a:RdA} (hv:ValidC a.c) (hn:a.c.g.l.length≤3) (hw : ∀ g ∈ a.c.g.l,g.want≤3) (hi:a.c.i.l.length≤10) (hch:ChOK a.x a.tr) (hov:OvOK (a.c,a.gr,a.t)):RdOK a:=by
 refine ⟨hch,hov,by omega,fun k hk => ?_⟩
 have h0:=zzee (zpyu (gr:=a.gr.l) (t:=a.t) hv) hi hi
 have h1:=z3g1 (tr:=a.tr.l) (ix:=a.x.e.l) (t:=a.t) h0 hw (k:=k) (by omega) (by omega) (by decide)
 obtain ⟨p,q⟩:=z4ua h1.g hk
 exact z8wq h1 (by omega) (by omega) p q
def Sml (c:Clu) (n:Nat):Prop:=(∀ x ∈ c.g.l,x.want≤3)∧c.g.l.length≤n
theorem zipw {c:Clu} {g:Grp} {n:Nat} (h:(zxl9 c g).2=0) (hc:Sml c n) (hn:n≤100) (hg:g.want≤3):Sml (zxl9 c g).1 (n+1):=by
 obtain ⟨h1,h2⟩:=hc
 unfold zxl9 at h ⊢
 split at h
 ·simp at h
 rename_i c1
 rw [if_neg c1]
 split at h
 ·rename_i c2
  rw [if_pos c2]
  split at h
  ·simp at h
  rename_i c3
  rw [if_neg c3]
  have hol:(own (c.g.l++[g])).l=c.g.l++[g]:=z3e9 (by simp; omega)
  refine ⟨fun x hx => ?_,by show (own _).l.length≤_; rw [hol]; simp; omega⟩
  have hx:x ∈ (own (c.g.l++[g])).l:=hx
  rw [hol] at hx
  rcases List.mem_append.1 hx with hx|hx
  ·exact h1 x hx
  ·obtain rfl:x=g:=by simpa using hx
   exact hg
 ·rename_i c2
  rw [if_neg c2]
  have hol:(own (c.g.l.set (z9w0 c.g.l g.ns g.im).toNat g)).l=c.g.l.set (z9w0 c.g.l g.ns g.im).toNat g:=z3e9 (by simp; omega)
  refine ⟨fun x hx => ?_,by show (own _).l.length≤_; rw [hol]; simp; omega⟩
  have hx:x ∈ (own (c.g.l.set (z9w0 c.g.l g.ns g.im).toNat g)).l:=hx
  rw [hol] at hx
  rcases List.mem_or_eq_of_mem_set hx with hx|hx
  ·exact h1 x hx
  ·rw [hx]; exact hg
theorem zk8v : ∀ (k:Nat) (c:Clu) (t:Tp) (n:Nat),Sml c n→n+k≤100→Sml (zp0i k c t).1 (n+k)
 | 0,c,t,n,h,_=>h
 | k+1,c,t,n,h,hn=>by
  have hw:(zlt0 t zdmg).1.want≤3:=by
   have:=z2s7 (t.adv 2) (n:=4) (by decide)
   show tpN (t.adv 2) 4≤3
   omega
  have h1:Sml (dOne c t) (n+1):=by
   unfold dOne
   split
   ·rename_i q; exact zipw q h (by omega) hw
   ·exact ⟨h.1,by have:=h.2; omega⟩
  have:=zk8v k (dOne c t) (zlt0 t zdmg).2 (n+1) h1 (by omega)
  show Sml (zp0i k (dOne c t) (zlt0 t zdmg).2).1 (n+(k+1))
  rw [show n+(k+1)=n+1+k by omega]
  exact this
theorem z7ak (t:Tp) (m:Int):Sml (zcpt t m).1 2:=by
 have h0:Sml (cl0 t) 0:=⟨fun x hx=>by simp [cl0,nilG] at hx,by simp [cl0,nilG]⟩
 have hz:=z2s7 (t.adv 1) (n:=2) (by decide)
 have hz0:=z4rs (t.adv 1) 2
 have h1:=zk8v ((tpN (t.adv 1) 2).toNat+1) (cl0 t) (t.adv 2) 0 h0 (by omega)
 exact ⟨h1.1,by have:=h1.2; show (clD t).1.g.l.length≤2; unfold clD; omega⟩
end Go.Proofs.YtaihpefemjlilaaGreatDoor
set_option linter.unusedSimpArgs false
set_option linter.unusedVariables false
set_option maxRecDepth 20000
namespace Go.Proofs.YtaihpefemjlilaaGreatDoor
open Go Go.Am
theorem zpl6 (s:Scn):zbao (scnC s)=true:=by
 simp only [scnC,zbao,zyp8,z1vd,zcha,zm03,znen,z4yh,Bool.and_self]
noncomputable def cScn:List DV→Nat→Option (DV × List AObj):=conN (fun _=>True) (fun x:Nl=>[x.dv]) (fun x=>(.tup [.agg (scnC (scnV (tp0 x 300)).1),.mp 1 2 0],[.cells (scnC (scnV (tp0 x 300)).1),.cells (tpC (scnV (tp0 x 300)).2),.cells (scnC (scnV (tp0 x 300)).1)]))
theorem zd92 {x:Nl} {n:Nat}:cScn [x.dv] n=some (.tup [.agg (scnC (scnV (tp0 x 300)).1),.mp (n+1) 2 0],[.cells (scnC (scnV (tp0 x 300)).1),.cells (tpC (scnV (tp0 x 300)).2),.cells (scnC (scnV (tp0 x 300)).1)]):=by
 have:=zqtp (A:=fun _=>True) (f:=fun x:Nl=>[x.dv]) (g:=fun x=>(DV.tup [.agg (scnC (scnV (tp0 x 300)).1),.mp 1 2 0],[AObj.cells (scnC (scnV (tp0 x 300)).1),.cells (tpC (scnV (tp0 x 300)).2),.cells (scnC (scnV (tp0 x 300)).1)])) (fun a b e=>by
  simp only [List.cons.injEq,and_true] at e
  rw [z2kw e]) x trivial n
 rw [cScn,this]
 simp [shD,shO,shL,zj45,zpl6,zs7w,Nat.add_comm]
theorem zr8u:(Con.new cScn).Sound P 12:=z3ld (fun x _=>by simp [zbao,zkx7]) fun x _=>zv22 mix zqvq Tryz.func12 zqkh (zfog x)
noncomputable def cRnd:List DV→Option DV:=con RdOK (fun a=>[.agg (clC a.c),.agg (xiC a.x),a.tr.dv 35 trC,a.gr.dv,.int .i64 a.t]) (fun a=>rdV (rndP a.tr.l a.x.e.l a.gr.l a.t a.c))
theorem zunp {a:RdA} (h:RdOK a):cRnd [.agg (clC a.c),.agg (xiC a.x),a.tr.dv 35 trC,a.gr.dv,.int .i64 a.t]=some (rdV (rndP a.tr.l a.x.e.l a.gr.l a.t a.c)) :=
 zzno (A:=RdOK) (f:=fun a=>[.agg (clC a.c),.agg (xiC a.x),a.tr.dv 35 trC,a.gr.dv,.int .i64 a.t]) (g:=fun a=>rdV (rndP a.tr.l a.x.e.l a.gr.l a.t a.c)) (by
  rintro ⟨a1,a2,a3,a4,a5⟩ ⟨b1,b2,b3,b4,b5⟩ e
  simp only [List.cons.injEq,DV.agg.injEq,DV.int.injEq,and_true,true_and] at e
  rw [zh7t e.1,zt7p e.2.1,z47i e.2.2.1,z2kw e.2.2.2.1,e.2.2.2.2]) a h
theorem zclv:(Con.pure cRnd).Sound P 25:=z2au fun a h=>z81i a h
end Go.Proofs.YtaihpefemjlilaaGreatDoor
set_option linter.unusedSimpArgs false
set_option linter.unusedVariables false
set_option maxRecDepth 20000
namespace Go.Proofs.YtaihpefemjlilaaGreatDoor
open Go Go.Am
end Go.Proofs.YtaihpefemjlilaaGreatDoor
set_option linter.unusedSimpArgs false
set_option linter.unusedVariables false
set_option maxRecDepth 20000
namespace Go.Proofs.YtaihpefemjlilaaGreatDoor
open Go Go.Am
def part (k:Int) (l:List Ins):List Ins:=l.filter fun x=>decide (x.grp=k)
theorem z3e1 {k t:Int} {V:List Int} : ∀ {l:List Ins},(∀ x ∈ l,x.id ∈ V→x.grp≠k)→part k (mkS t V l)=part k l
 | [],_=>rfl
 | a::l,h=>by
  have ih:=z3e1 (k:=k) (t:=t) (V:=V) (l:=l) (fun x hx=>h x (by simp [hx]))
  unfold part mkS at ih ⊢
  rw [List.map_cons,List.filter_cons,List.filter_cons,ih]
  by_cases hm:a.id ∈ V
  ·have hg:=h a (by simp) hm
   rw [if_pos hm]
   simp [zzdy,hg]
  ·rw [if_neg hm]
def own2 (l:List Ins):List (Int × Int):=l.map fun x=>(x.id,x.grp)
theorem zpmk {t:Int} {V:List Int} {l:List Ins}:own2 (mkS t V l)=own2 l:=by
 unfold own2 mkS
 rw [List.map_map]
 refine List.map_congr_left fun x _ => ?_
 simp only [Function.comp]
 split<;>rfl
section
variable {gs:List (List UInt8 × List UInt8 × Int × Int × Int × List Dg)} {B:Nat} {t:Int}
theorem z3az {s:Rnd} {O:Nat} (h:RI gs s B O) (id:Int):(zyao t s id).c.i.l=mkS t [id] s.c.i.l∨(zyao t s id).c.i.l=s.c.i.l:=by
 by_cases h0:(z5wo s.c id t 3).2=0
 ·left
  obtain ⟨i,hi,hf⟩:=zkzr h0
  have ht:zcie t:=by
   by_cases q:zcie t
   ·exact q
   ·unfold z5wo at h0; rw [if_pos (.inr q)] at h0; simp at h0
  have hst:s.c.i.l[i].state≠3:=by
   unfold z5wo at h0
   rw [if_neg (fun q=>q.elim (fun q=>q h.v) (fun q=>q ht)),hf,if_neg (by omega),Int.toNat_natCast,List.getElem?_eq_getElem hi] at h0
   intro e
   simp [may,e] at h0
  have hid:s.c.i.l[i].id=id:=by
   obtain ⟨j,hj,e,p1,_⟩:=ziel (p:=fun x:Ins=>decide (x.id=id)) (l:=s.c.i.l) (by show (0:Int)≤z092 s.c.i.l id; rw [hf]; omega)
   have e:z092 s.c.i.l id=j:=e
   rw [hf] at e
   obtain rfl:i=j:=by omega
   simpa using p1
  have hv:=(z1s1 (gs:=gs) (s:=s) (l:=s.c.i.l) (n:=s.c.next) (o:=s.o) ⟨h.v,h.g,rfl,rfl,rfl⟩ ht (List.getElem_mem hi) hst).1
  rw [hid] at hv
  exact hv.i
 ·right
  unfold zyao; rw [if_neg h0]
theorem zvfe {k:Int} : ∀ {V:List Int} {s:Rnd} {O:Nat},RI gs s B O→(∀ id ∈ V,∀ g,(id,g) ∈ own2 s.c.i.l→g≠k)→part k (V.foldl (zyao t) s).c.i.l=part k s.c.i.l
 | [],s,O,_,_=>rfl
 | a::V,s,O,h,hV=>by
  rw [List.foldl_cons]
  have hr:=z7tf (t:=t) h a
  have hl:=z3az (t:=t) h a
  have ho:own2 (zyao t s a).c.i.l=own2 s.c.i.l:=by
   rcases hl with e|e<;>rw [e]
   exact zpmk
  rw [zvfe (V:=V) hr (fun id hid g hg=>hV id (by simp [hid]) g (by rw [← ho]; exact hg))]
  rcases hl with e|e<;>rw [e]
  refine z3e1 fun x hx hm => ?_
  have:x.id=a:=by simpa using hm
  exact hV a (by simp) x.grp (List.mem_map.2 ⟨x,hx,by rw [this]⟩)
theorem z70f {s:Rnd} {O:Nat} (h:RI gs s B O) {id g g':Int} (h1:(id,g) ∈ own2 s.c.i.l) (h2:(id,g') ∈ own2 s.c.i.l):g=g':=by
 obtain ⟨x,hx,e⟩:=List.mem_map.1 h1
 obtain ⟨y,hy,e'⟩:=List.mem_map.1 h2
 simp only [Prod.mk.injEq] at e e'
 obtain ⟨i,hi,rfl⟩:=List.getElem_of_mem hx
 obtain ⟨j,hj,rfl⟩:=List.getElem_of_mem hy
 have hd:=List.pairwise_iff_getElem.1 (zyak h.v).d
 have:i=j:=by
  rcases Nat.lt_trichotomy i j with q|q|q
  ·have:=hd i j hi hj q; omega
  ·exact q
  ·have:=hd j i hj hi q; omega
 subst this
 rw [← e.2,← e'.2]
theorem zpqw {s:Rnd} {O:Nat} (h:RI gs s B O) {k k':Int} (hk:k'≠k) {V:List Int} (hV : ∀ id ∈ V,(id,k') ∈ own2 s.c.i.l) : ∀ id ∈ V,∀ g,(id,g) ∈ own2 s.c.i.l→g≠k:=fun id hid g hg=>by
 rw [z70f h hg (hV id hid)]; exact hk
theorem zaob {k:Int} {G:List Int} {b:Bool} {l:List Ins} : ∀ id ∈ stgL k G b l,(id,k) ∈ own2 l:=fun id hid=>by
 obtain ⟨x,hx,rfl⟩:=List.mem_map.1 hid
 obtain ⟨h1,h2⟩:=List.mem_filter.1 hx
 have hg:x.grp=k:=by
  unfold stgB at h2
  simp only [Bool.and_eq_true,decide_eq_true_eq] at h2
  exact h2.1
 exact List.mem_map.2 ⟨x,h1,by rw [hg]⟩
theorem z0ky {c:Clu} {k:Int} {sel:Grp→Ins→Bool} : ∀ id ∈ idsP c k sel,(id,k) ∈ own2 c.i.l:=fun id hid=>by
 unfold idsP at hid
 split at hid
 ·obtain ⟨x,hx,rfl⟩:=List.mem_map.1 hid
  unfold selL at hx
  obtain ⟨h1,h2⟩:=List.mem_filter.1 hx
  simp only [Bool.and_eq_true,decide_eq_true_eq] at h2
  exact List.mem_map.2 ⟨x,h1,by rw [h2.1]⟩
 ·simp at hid
theorem zwyf {c:Clu} {k:Int} : ∀ id ∈ zu3j c k,(id,k) ∈ own2 c.i.l:=fun id hid=>by
 unfold zu3j at hid
 split at hid
 ·rcases List.mem_append.1 hid with h|h
  ·exact z0ky id ((zo43 _).mem_iff.1 h)
  ·rcases List.mem_append.1 h with h|h
   ·exact z0ky id h
   ·exact z0ky id (List.mem_reverse.1 (List.mem_of_mem_take h))
 ·simp at hid
theorem zokn {s:Rnd} {tr:List Tri} {ix:List Ixe} {k k':Int} (hk:k'≠k):part k (zusy tr ix t k' s).2.c.i.l=part k s.c.i.l:=by
 unfold zusy
 split
 ·rfl
 ·split
  ·rename_i h0
   obtain ⟨e1,_,e3⟩:=zzaj h0
   show part k (z4wu _ _ _ _).1.i.l=_
   rw [e1]
   show part k (own _).l=_
   rw [z3e9 (by simp; omega)]
   unfold part
   rw [List.filter_append]
   simp [newI,hk]
  ·rfl
theorem zyy9 {tr:List Tri} {ix:List Ixe} {k k' want:Int} (hk:k'≠k) : ∀ {m:Nat} {s:Rnd},part k (zinu tr ix t k' want m s).c.i.l=part k s.c.i.l
 | 0,s=>rfl
 | m+1,s=>by
  unfold zinu
  split
  ·rw [zyy9 hk,zokn hk]
  ·rfl
theorem zlyt {s:Rnd} {O:Nat} (h:RI gs s B O) {tr:List Tri} {ix:List Ixe} {k k' want:Int} (hk:k'≠k):part k (grpS tr ix t k' want s).c.i.l=part k s.c.i.l:=by
 have r1:=zux2 (t:=t) (k:=k') h
 have r2:=znba (t:=t) (k:=k') (want:=want) r1
 have e1:part k (grS1 t k' s).c.i.l=part k s.c.i.l:=zvfe h (zpqw h hk zaob)
 have e2:part k (grS2 t k' want (grS1 t k' s)).c.i.l=part k (grS1 t k' s).c.i.l:=zvfe r1 (zpqw r1 hk fun id hid=>zaob id (List.mem_reverse.1 (List.mem_of_mem_take hid)))
 have e3:part k (grS3 t k' (grS2 t k' want (grS1 t k' s))).c.i.l=part k (grS2 t k' want (grS1 t k' s)).c.i.l:=zvfe r2 (zpqw r2 hk fun id hid=>zwyf id (List.mem_of_mem_take hid))
 show part k (zinu tr ix t k' want _ _).c.i.l=_
 rw [zyy9 hk,e3,e2,e1]
end
end Go.Proofs.YtaihpefemjlilaaGreatDoor
set_option linter.unusedSimpArgs false
set_option linter.unusedVariables false
set_option maxRecDepth 20000
namespace Go.Proofs.YtaihpefemjlilaaGreatDoor
open Go Go.Am
theorem zzme {c d:Clu} {k:Nat} (h:c.g.l.map gl=d.g.l.map gl) (hp:part k c.i.l=part k d.i.l):znqs c k=znqs d k:=by
 have hl:c.g.l.length=d.g.l.length:=by have:=congrArg List.length h; simpa using this
 have hs : ∀ (l:List Ins) (p:Ins→Bool),selL l k p=(part k l).filter p:=fun l p=>by
  unfold selL part
  rw [List.filter_filter]
  congr 1
  funext x
  rw [Bool.and_comm]
 unfold znqs idsP grAt
 rw [if_pos (by omega),if_pos (by omega),Int.toNat_natCast]
 by_cases hk:k<c.g.l.length
 ·rw [List.getElem?_eq_getElem hk,List.getElem?_eq_getElem (show k<d.g.l.length by omega)]
  have e:gl c.g.l[k]=gl (d.g.l[k]'(by omega)):=by
   have:=List.getElem_of_eq h (i:=k) (by simp; omega)
   simpa using this
  simp only [gl,Prod.mk.injEq] at e
  obtain ⟨_,_,_,_,_,e6⟩:=e
  simp only
  rw [hs,hs,hp]
  have hb:z9qu c.g.l[k]=z9qu (d.g.l[k]'(by omega)):=by
   funext x
   unfold z9qu chos
   rw [e6]
  rw [hb]
 ·rw [List.getElem?_eq_none (by omega),List.getElem?_eq_none (by omega)]
section
variable {c:Clu} {gr:List Int} {tr:List Tri} {ix:List Ixe} {t:Int} (hv:ValidC c) (hn:c.g.l.length≤3) (hw : ∀ g ∈ c.g.l,g.want≤3) (hi:c.i.l.length≤10) (hx:c.next≤1000000) (ht:zcie t)
include hv hn hw hi in
theorem ztza {k:Nat} (hk:k≤c.g.l.length):RI (c.g.l.map gl) (rndS tr ix t c k (rnd0 gr t c)) (10+3*k) (10+100*k) :=
 z3g1 (zzee (zpyu hv) hi hi) hw hk (by omega) (by decide)
include hv hn hw hi in
theorem z7c1 {k:Nat} : ∀ {m:Nat},k<m→m≤c.g.l.length→part k (rndS tr ix t c m (rnd0 gr t c)).c.i.l=part k (rndS tr ix t c (k+1) (rnd0 gr t c)).c.i.l
 | 0,h,_=>by omega
 | m+1,h,hm=>by
  by_cases e:k=m
  ·subst e; rfl
  ·have ih:=z7c1 (k:=k) (m:=m) (by omega) (by omega)
   rw [← ih]
   exact zlyt (ztza hv hn hw hi (tr:=tr) (ix:=ix) (t:=t) (gr:=gr) (k:=m) (by omega)) (by omega)
include hv hn hw hi hx ht in
end
end Go.Proofs.YtaihpefemjlilaaGreatDoor
set_option linter.unusedSimpArgs false
set_option linter.unusedVariables false
set_option maxRecDepth 20000
namespace Go.Proofs.YtaihpefemjlilaaGreatDoor
open Go Go.Am
theorem znuy (t:Tp) (m:Int) (h0:0≤m) (h1:m≤200):(zcpt t m).1.next≤1000000:=by
 obtain ⟨hc,hg⟩:=zfm1 t
 have m1:=z4rs (clD t).2 (m+1)
 have m2:=z2s7 (clD t).2 (n:=m+1) (by omega)
 have hgl:1≤(clD t).1.g.l.length:=List.length_pos_iff.2 hg
 obtain ⟨-,-,k3,-⟩:=zc7j hgl (tpN (clD t).2 (m+1)).toNat [] (clD t).1.next ((clD t).2.adv 1) hc.n0 ⟨by simp,by simp⟩
 have hn1:=hc.n1
 show (zgc4 (clD t).1.g.l.length (tpN (clD t).2 (m+1)).toNat [] (clD t).1.next ((clD t).2.adv 1)).2.1≤_
 omega
def trSl (l:List Tri) (h:l.length≤100000):Sl Tri:=⟨if l=[] then none else some false,l,fun e=>by
 by_cases q:l=[]
 ·exact q
 ·simp [q] at e,by omega⟩
theorem z3eh {l:List Tri} (h:l.length≤100000):(trSl l h).dv 35 trC=trV l:=by
 unfold trSl trV Sl.dv
 by_cases q:l=[]
 ·simp only [q,if_true]; rfl
 ·simp only [q,if_false]; rfl
structure ScnF (s:Scn) (a:RdA):Prop where
 ok:RdOK a
 c:a.c=s.c
 x0:a.x.at_=0
 x:a.x.e.dv 105 ixC=isV s.x
 tr:a.tr.dv 35 trC=trV s.tr
 gr:a.gr.dv=liV s.gr
 t:a.t=s.t
 v:ValidC a.c
 n:a.c.g.l.length≤3
 w : ∀ g ∈ a.c.g.l,g.want≤3
 i:a.c.i.l.length≤10
 nx:a.c.next≤1000000
 tm:zcie a.t
theorem ztew (u:Tp) (hu:u.at_=0) : ∃ a,ScnF (scnV u).1 a:=by
 obtain ⟨hv,hg⟩:=zlnb u 8 (by decide) (by decide)
 have hn9:=zukg u 8 (by decide) (by decide)
 have hat:=z2ep u 8 (by decide) (by decide)
 have hnx:=znuy u 8 (by decide) (by decide)
 obtain ⟨sw,sn⟩:=z7ak u 8
 obtain ⟨c,hc⟩ : ∃ c,(zcpt u 8).1=c:=⟨_,rfl⟩
 obtain ⟨w,hw⟩ : ∃ w,(zcpt u 8).2=w:=⟨_,rfl⟩
 rw [hc] at hv hg hn9 hnx sw sn
 have hi10:c.i.l.length≤10:=by omega
 have hil:=zjjk (t:=w) (c:=c) (3*c.g.l.length)
 have htl:=zso0 (t:=w.adv (3*c.g.l.length)) (c:=c) (3*c.g.l.length)
 have hts:=(z2rl (t:=w.adv (3*c.g.l.length)) (c:=c) (3*c.g.l.length)).1
 have hixs:=z41v (t:=w) (c:=c) (3*c.g.l.length)
 obtain ⟨w2,hw2⟩ : ∃ w2,(triS (w.adv (3*c.g.l.length)) c (3*c.g.l.length)).1=w2:=⟨_,rfl⟩
 have hgl:=zuov (t:=w2) (n:=c.i.l.length)
 have hz:=z2s7 (w2.adv c.i.l.length) (n:=20) (by decide)
 have hz0:=z4rs (w2.adv c.i.l.length) 20
 have htm:zcie (30+tpN (w2.adv c.i.l.length) 20):=⟨by omega,by omega⟩
 have hsc:(scnV u).1=⟨c,idxL w c (3*c.g.l.length),(triS (w.adv (3*c.g.l.length)) c (3*c.g.l.length)).2,graL w2 c.i.l.length,30+tpN (w2.adv c.i.l.length) 20⟩:=by rw [← hw2,← hc,← hw]; rfl
 rw [hsc]
 have hch:ChOK ⟨0,isS (idxL w c (3*c.g.l.length)) (by omega)⟩ (trSl (triS (w.adv (3*c.g.l.length)) c (3*c.g.l.length)).2 (by omega)):=⟨fun k d=>zc0u hts k d,fun r=>z4xb hixs r⟩
 have hov:OvOK (c,nlO (graL w2 c.i.l.length) (by omega),30+tpN (w2.adv c.i.l.length) 20):=by
  refine ⟨fun x hx => ?_,fun n hn => ?_,(show okT (30+tpN (w2.adv c.i.l.length) 20) from ⟨by omega,by omega⟩)⟩
  ·have hx:x ∈ c.i.l:=hx
   obtain ⟨j,hj,rfl⟩:=List.getElem_of_mem hx
   rcases (hv.i j hj).1.de with e|e
   ·rw [e]; exact ⟨by decide,by decide⟩
   ·exact ⟨by have:=e.1; omega,by have:=e.2; omega⟩
  ·have hn:n ∈ graL w2 c.i.l.length:=hn
   have:=z3e0 hn
   exact ⟨by omega,by omega⟩
 exact ⟨⟨c,⟨0,isS (idxL w c (3*c.g.l.length)) (by omega)⟩,trSl (triS (w.adv (3*c.g.l.length)) c (3*c.g.l.length)).2 (by omega),nlO (graL w2 c.i.l.length) (by omega),30+tpN (w2.adv c.i.l.length) 20⟩,zrko hv (by show c.g.l.length≤3; omega) sw hi10 hch hov,rfl,rfl,zz41 (by omega),z3eh (by omega),zigl (by omega),rfl,hv,by show c.g.l.length≤3; omega,sw,hi10,hnx,htm⟩
end Go.Proofs.YtaihpefemjlilaaGreatDoor
set_option linter.unusedSimpArgs false
set_option linter.unusedVariables false
set_option maxRecDepth 20000
namespace Go.Proofs.YtaihpefemjlilaaGreatDoor
open Go Go.Am
section
variable {gs:List (List UInt8 × List UInt8 × Int × Int × Int × List Dg)} {B:Nat} {t:Int}
theorem zln6 {s:Rnd} {O:Nat} (h:RI gs s B O) (ht:zcie t) (id:Int):(∃ x ∈ s.c.i.l,x.id=id∧x.state≠3∧(zyao t s id).c.i.l=mkS t [id] s.c.i.l∧(zyao t s id).o=s.o++zzoh s.c.i.l [id])∨(zyao t s id=s ∧ ∀ x ∈ s.c.i.l,x.id=id→x.state=3):=by
 by_cases hx : ∃ x ∈ s.c.i.l,x.id=id∧x.state≠3
 ·obtain ⟨x,hm,rfl,hs⟩:=hx
  have hv:=(z1s1 (gs:=gs) (s:=s) (l:=s.c.i.l) (n:=s.c.next) (o:=s.o) ⟨h.v,h.g,rfl,rfl,rfl⟩ ht hm hs).1
  exact .inl ⟨x,hm,rfl,hs,hv.i,hv.o⟩
 ·refine .inr ⟨?_,fun x hm e=>Classical.byContradiction fun q=>hx ⟨x,hm,e,q⟩⟩
  unfold zyao
  rw [if_neg]
  intro h0
  obtain ⟨i,hi,hf⟩:=zkzr h0
  have hst:s.c.i.l[i].state≠3:=by
   unfold z5wo at h0
   rw [if_neg (fun q=>q.elim (fun q=>q h.v) (fun q=>q ht)),hf,if_neg (by omega),Int.toNat_natCast,List.getElem?_eq_getElem hi] at h0
   intro e
   simp [may,e] at h0
  have hid:s.c.i.l[i].id=id:=by
   obtain ⟨j,hj,e,p1,_⟩:=ziel (p:=fun x:Ins=>decide (x.id=id)) (l:=s.c.i.l) (by show (0:Int)≤z092 s.c.i.l id; rw [hf]; omega)
   have e:z092 s.c.i.l id=j:=e
   rw [hf] at e
   obtain rfl:i=j:=by omega
   simpa using p1
  exact hx ⟨_,List.getElem_mem hi,hid,hst⟩
def idsQ (q:Ins→Bool) (l:List Ins):List Int:=(l.filter q).map Ins.id
theorem z6r9 {q:Ins→Bool} {l:List Ins} {id:Int}:id ∈ idsQ q l ↔ ∃ x ∈ l,q x=true∧x.id=id:=by
 unfold idsQ
 rw [List.mem_map]
 constructor
 ·rintro ⟨x,hx,e⟩
  obtain ⟨h1,h2⟩:=List.mem_filter.1 hx
  exact ⟨x,h1,h2,e⟩
 ·rintro ⟨x,hx,hq,e⟩
  exact ⟨x,List.mem_filter.2 ⟨hx,hq⟩,e⟩
theorem z9c3 {q:Ins→Bool} {l l':List Ins}:idsQ q (l++l')=idsQ q l++idsQ q l':=by
 unfold idsQ; rw [List.filter_append,List.map_append]
theorem z4g5 {q:Ins→Bool} (hq : ∀ x,q x=true→x.state≠3) {V:List Int} : ∀ {l:List Ins},idsQ q (mkS t V l)=(idsQ q l).filter (fun id=>decide (id ∉ V))
 | []=>rfl
 | a::l=>by
  have ih:=z4g5 hq (V:=V) (l:=l)
  have h3:q (stI t a)=false:=by
   cases e:q (stI t a) with
   | false=>rfl
   | true=>exact absurd (zgls t a) (hq _ e)
  unfold idsQ mkS at ih ⊢
  rw [List.map_cons]
  by_cases hm:a.id ∈ V
  ·rw [if_pos hm,List.filter_cons,h3,List.filter_cons]
   cases hqa:q a
   ·simpa using ih
   ·simp only [Bool.false_eq_true,if_false,if_true,List.map_cons,List.filter_cons,hm,not_true_eq_false,decide_false]
    exact ih
  ·rw [if_neg hm,List.filter_cons,List.filter_cons]
   cases hqa:q a
   ·simpa using ih
   ·simp only [if_true,List.map_cons,List.filter_cons]
    rw [if_pos (by simp [hm])]
    rw [ih]
theorem zic6 {s:Rnd} {O:Nat} (h:RI gs s B O) (ht:zcie t) {q:Ins→Bool} (hq : ∀ x,q x=true→x.state≠3) (id:Int):idsQ q (zyao t s id).c.i.l=(idsQ q s.c.i.l).filter (fun i=>decide (i ∉ [id])):=by
 rcases zln6 h ht id with ⟨x,_,_,_,e,_⟩|⟨e,hn⟩
 ·rw [e,z4g5 hq]
 ·rw [e]
  symm
  rw [List.filter_eq_self]
  intro i hi
  obtain ⟨x,hx,hqx,e⟩:=z6r9.1 hi
  simp only [List.mem_singleton,decide_eq_true_eq]
  intro ei
  exact hq x hqx (hn x hx (by rw [e,ei]))
theorem zpz6 (ht:zcie t) {q:Ins→Bool} (hq : ∀ x,q x=true→x.state≠3) : ∀ {V:List Int} {s:Rnd} {O:Nat},RI gs s B O→idsQ q (V.foldl (zyao t) s).c.i.l=(idsQ q s.c.i.l).filter (fun i=>decide (i ∉ V))
 | [],s,O,h=>by
  symm
  show (idsQ q s.c.i.l).filter _=idsQ q s.c.i.l
  rw [List.filter_eq_self]
  intro i _
  simp
 | a::V,s,O,h=>by
  rw [List.foldl_cons,zpz6 ht hq (V:=V) (z7tf (t:=t) h a),zic6 h ht hq a,List.filter_filter]
  congr 1
  funext i
  by_cases e:i=a
  ·simp [e]
  ·simp [e]
theorem znha {s:Rnd} {tr:List Tri} {ix:List Ixe} {k:Int}:(zusy tr ix t k s).2=s ∨ ∃ d,choC tr ix s.c k t=some d∧(zusy tr ix t k s).2.c.i.l=s.c.i.l++[newI s.c k d t]∧(zusy tr ix t k s).2.c.next=s.c.next+1∧(zusy tr ix t k s).2.o=s.o++[⟨1,s.c.next,d⟩]:=by
 cases hc:choC tr ix s.c k t with
 | none=>left; unfold zusy; rw [hc]
 | some d =>
  have hs:zusy tr ix t k s=if (z4wu s.c k d t).2.2=0 then (true,⟨(z4wu s.c k d t).1,s.o++[⟨1,(z4wu s.c k d t).2.1,d⟩]⟩) else (false,s):=by unfold zusy; rw [hc]
  by_cases h0:(z4wu s.c k d t).2.2=0
  ·right
   rw [if_pos h0] at hs
   obtain ⟨e1,e2,e3⟩:=zzaj h0
   have hol:(own (s.c.i.l++[newI s.c k d t])).l=s.c.i.l++[newI s.c k d t]:=z3e9 (by simp; omega)
   refine ⟨d,rfl,?_,?_,?_⟩
   ·rw [hs]; show (z4wu s.c k d t).1.i.l=_; rw [e1]; exact hol
   ·rw [hs]; show (z4wu s.c k d t).1.next=_; rw [e1]
   ·rw [hs]; show s.o++[⟨1,(z4wu s.c k d t).2.1,d⟩]=_; rw [e2]
  ·left; rw [if_neg h0] at hs; rw [hs]
end
def zapb (x:Ins):Cmd:=⟨1,x.id,x.art⟩
structure TR (c:Clu) (tr:List Tri) (ix:List Ixe) (t k:Int) (s:Rnd) (V:List Int) (N:List Ins):Prop where
 l:s.c.i.l=mkS t V c.i.l++N
 nd:V.Nodup
 iv : ∀ id ∈ V,∃ x ∈ c.i.l,x.id=id∧x.state≠3
 ni : ∀ x ∈ N,c.next≤x.id∧x.id<s.c.next∧0≤x.grp∧x.grp<k∧x.state=1∧x.den = -1∧choC tr ix c x.grp t=some x.art
 np:N.Pairwise (fun x y=>x.id<y.id)
 o:s.o.Perm (zzoh c.i.l V++N.map zapb)
 nx:c.next≤s.c.next
section
variable {c:Clu} {tr:List Tri} {ix:List Ixe} {t k:Int} {B:Nat}
end
theorem z85t {gr:List Int} {t:Int} : ∀ {l:List Ins} {i:Nat},(ze9z l i gr t).Sublist (l.map Ins.id)
 | [],_=>List.Sublist.refl _
 | x::r,i=>by
  have ih:=z85t (gr:=gr) (t:=t) (l:=r) (i:=i+1)
  unfold ze9z
  split
  ·exact ih.cons_cons _
  ·exact ih.cons _
theorem zgrg {c:Clu} (hv:ValidC c) {gr:List Int} {t:Int}:(ze9z c.i.l 0 gr t).Nodup:=by
 have h:=zg4k.1 (zyak hv).d
 exact (h.sublist z85t).imp fun {a b} q e=>by omega
theorem za3t {l:List Ins} {gr:List Int} {t:Int} : ∀ id ∈ ze9z l 0 gr t,∃ x ∈ l,x.id=id∧x.state≠3∧0≤x.den:=fun id hid=>by
 obtain ⟨j,hj,h1,h2⟩:=zunx.1 hid
 simp only [z9hf,Bool.and_eq_true,decide_eq_true_eq] at h1
 exact ⟨_,List.getElem_mem hj,h2,h1.1,h1.2.1⟩
section
variable {c:Clu} {gr:List Int} {tr:List Tri} {ix:List Ixe} {t:Int} (hv:ValidC c) (hn:c.g.l.length≤3) (hw : ∀ g ∈ c.g.l,g.want≤3) (hi:c.i.l.length≤10) (ht:zcie t)
include hv ht in
theorem zwot:TR c tr ix t 0 (rnd0 gr t c) (ze9z c.i.l 0 gr t) []:=by
 have h0:Vw (c.g.l.map gl) ⟨c.clone,[]⟩ c.i.l c.next []:=⟨zwds hv,z9hp _,rfl,rfl,rfl⟩
 have h:=(z40n (s:=⟨c.clone,[]⟩) (s':=⟨c.clone,[]⟩) ht h0 h0 (zgrg hv (gr:=gr) (t:=t)) (fun id hid=>by obtain ⟨x,a,b,d,_⟩:=za3t id hid; exact ⟨x,a,b,d⟩)).1
 have h:Vw (c.g.l.map gl) (rnd0 gr t c) _ c.next _:=h
 refine ⟨by rw [h.i,List.append_nil],zgrg hv,fun id hid=>by obtain ⟨x,a,b,d,_⟩:=za3t id hid; exact ⟨x,a,b,d⟩,by simp,List.Pairwise.nil,?_,by rw [h.n]; exact Int.le_refl _⟩
 rw [h.o]
 simp
include hv hn hw hi ht in
end
end Go.Proofs.YtaihpefemjlilaaGreatDoor
set_option linter.unusedSimpArgs false
set_option linter.unusedVariables false
set_option maxRecDepth 20000
namespace Go.Proofs.YtaihpefemjlilaaGreatDoor
open Go Go.Am
def qGd (k:Nat) (g:Grp) (x:Ins):Bool:=decide (x.grp=(k:Int))&&z9qu g x
def qDn (k:Nat) (x:Ins):Bool:=decide (x.grp=(k:Int))&&(decide (x.state=2)&&decide (0≤x.den))
def qRp (k:Nat) (g:Grp) (x:Ins):Bool:=decide (x.grp=(k:Int))&&sRep g x
def qSp (k:Nat) (g:Grp) (x:Ins):Bool:=decide (x.grp=(k:Int))&&z7e4 g x
theorem zapq {k:Nat} {g:Grp} : ∀ x,qGd k g x=true→x.state≠3:=fun x h=>by
 simp only [qGd,z9qu,Bool.and_eq_true,decide_eq_true_eq] at h
 exact h.2.1
section
variable {c d:Clu} {k:Nat} (h:d.g.l.map gl=c.g.l.map gl) (hk:k<c.g.l.length)
include h hk in
theorem z7pn : ∃ g,grAt d k=some g∧gl g=gl c.g.l[k]:=by
 have hl:d.g.l.length=c.g.l.length:=by have:=congrArg List.length h; simpa using this
 refine ⟨d.g.l[k]'(by omega),?_,?_⟩
 ·unfold grAt; rw [if_pos (by omega),Int.toNat_natCast,List.getElem?_eq_getElem (by omega)]
 ·have:=List.getElem_of_eq h (i:=k) (by simp; omega)
  simpa using this
include h hk in
theorem z1ms:znqs d k=idsQ (qGd k c.g.l[k]) d.i.l:=by
 obtain ⟨g,hg,e⟩:=z7pn h hk
 simp only [gl,Prod.mk.injEq] at e
 obtain ⟨_,_,_,_,_,e6⟩:=e
 have hs:z9qu g=z9qu c.g.l[k]:=by
  funext x; unfold z9qu chos; rw [e6]
 unfold znqs idsP
 rw [hg]
 simp only [hs]
 rfl
include h hk in
theorem zssx:zu3j d k=zxu4 (ltV d) (idsQ (qDn k) d.i.l)++(idsQ (qRp k c.g.l[k]) d.i.l++(idsQ (qSp k c.g.l[k]) d.i.l).reverse.take ((znqs d k).length-c.g.l[k].want).toNat):=by
 obtain ⟨g,hg,e⟩:=z7pn h hk
 simp only [gl,Prod.mk.injEq] at e
 obtain ⟨_,_,e3,_,_,e6⟩:=e
 have h1:sRep g=sRep c.g.l[k]:=by funext x; unfold sRep chos; rw [e6]
 have h2:z7e4 g=z7e4 c.g.l[k]:=by funext x; unfold z7e4 chos; rw [e6]
 unfold zu3j idsP
 rw [hg]
 simp only [h1,h2,e3]
 rfl
end
theorem zy4e {a:Int} : ∀ {G:List Int},G.Nodup→G.length≤(G.filter (fun i=>decide (i≠a))).length+1
 | [],_=>by simp
 | b::G,h=>by
  rw [List.nodup_cons] at h
  by_cases e:b=a
  ·subst e
   have:G.filter (fun i=>decide (i≠b))=G:=List.filter_eq_self.2 fun i hi=>by
    rw [decide_eq_true_eq]
    rintro rfl
    exact h.1 hi
   rw [List.filter_cons,if_neg (by simp),this,List.length_cons]
   omega
  ·have:=zy4e (a:=a) h.2
   rw [List.filter_cons,if_pos (by simpa using e),List.length_cons,List.length_cons]
   omega
theorem zh1a : ∀ {V G:List Int},G.Nodup→G.length≤(G.filter (fun i=>decide (i ∉ V))).length+V.length
 | [],G,_=>by
  rw [List.filter_eq_self.2 (fun i _=>by simp)]
  exact Nat.le_add_right _ _
 | a::V,G,h=>by
  have h1:=zy4e (a:=a) h
  have h2:=zh1a (V:=V) (G:=G.filter (fun i=>decide (i≠a))) (h.sublist List.filter_sublist)
  rw [List.filter_filter] at h2
  have e:(fun i=>decide (i ∉ a::V))=fun i=>decide (i ∉ V)&&decide (i≠a):=by
   funext i
   by_cases e:i=a<;>simp [e]
  rw [e,List.length_cons]
  omega
theorem ztuz {p q:Int→Bool} {l:List Int} (h : ∀ x ∈ l,p x=true→q x=true):(l.filter p).length≤(l.filter q).length:=by
 rw [← List.countP_eq_length_filter,← List.countP_eq_length_filter]
 exact List.countP_mono_left h
theorem zofr {q:Ins→Bool} {l:List Ins} (hd:l.Pairwise (fun x y=>x.id<y.id)):(idsQ q l).Nodup:=by
 have:=(zg4k.1 hd).sublist ((List.filter_sublist (p:=q) (l:=l)).map Ins.id)
 exact this.imp fun {a b} q e=>by omega
theorem zgng {V G:List Int} (h : ∀ i ∈ G,i ∉ V):G.filter (fun i=>decide (i ∉ V))=G:=List.filter_eq_self.2 fun i hi=>by rw [decide_eq_true_eq]; exact h i hi
section
variable {c:Clu} {s:Rnd} {B O:Nat} {t:Int} {k:Nat} {tr:List Tri} {ix:List Ixe}
theorem z0iv (h:RI (c.g.l.map gl) s B O) (ht:zcie t) (hk:k<c.g.l.length) (V:List Int):znqs (V.foldl (zyao t) s).c k=(znqs s.c k).filter (fun i=>decide (i ∉ V)):=by
 rw [z1ms (z165 (t:=t) (V:=V) h).g hk,z1ms h.g hk,zpz6 ht zapq h]
theorem zp8u {l:List Ins} (hd:l.Pairwise (fun x y=>x.id<y.id)) {p q:Ins→Bool} {i:Int} (h1:i ∈ idsQ p l) (h2:i ∈ idsQ q l) : ∃ x ∈ l,x.id=i∧p x=true∧q x=true:=by
 obtain ⟨x,hx,hp,e⟩:=z6r9.1 h1
 obtain ⟨y,hy,hq,e'⟩:=z6r9.1 h2
 have:=z4mt hd hx hy (by rw [e,e'])
 subst this
 exact ⟨x,hx,e,hp,hq⟩
theorem zacw (h:RI (c.g.l.map gl) s B O) (ht:zcie t) (hk:k<c.g.l.length):znqs (grS1 t k s).c k=znqs s.c k:=by
 unfold grS1
 rw [z0iv h ht hk]
 refine zgng fun i hi hm => ?_
 obtain ⟨x,hx,e⟩:=List.mem_map.1 hm
 have h2:=(List.mem_filter.1 hx).2
 simp only [stgB,Bool.and_eq_true,decide_eq_true_eq] at h2
 have h3:=h2.2.2
 rw [e] at h3
 simp [hi] at h3
theorem zv2b (h:RI (c.g.l.map gl) s B O) (ht:zcie t) (hk:k<c.g.l.length) {want:Int} (hw:0≤want):(((znqs s.c k).length:Int)≤want→znqs (grS2 t k want s).c k=znqs s.c k)∧min ((znqs s.c k).length:Int) want≤(znqs (grS2 t k want s).c k).length:=by
 constructor
 ·intro hle
  unfold grS2
  rw [show (((znqs s.c k).length:Int)-want).toNat=0 by omega,List.take_zero]
  rfl
 ·unfold grS2
  rw [z0iv h ht hk]
  have hn:(znqs s.c k).Nodup:=by rw [z1ms h.g hk]; exact zofr (zyak h.v).d
  have hl:((stgL k (znqs s.c k) true s.c.i.l).reverse.take (((znqs s.c k).length:Int)-want).toNat).length≤(((znqs s.c k).length:Int)-want).toNat:=by
   rw [List.length_take]; omega
  have:=zh1a (V:=(stgL k (znqs s.c k) true s.c.i.l).reverse.take (((znqs s.c k).length:Int)-want).toNat) hn
  omega
theorem zw2t (h:RI (c.g.l.map gl) s B O) (ht:zcie t) (hk:k<c.g.l.length) (hw:0≤c.g.l[k].want):(((znqs s.c k).length:Int)≤c.g.l[k].want→znqs (grS3 t k s).c k=znqs s.c k)∧min ((znqs s.c k).length:Int) c.g.l[k].want≤(znqs (grS3 t k s).c k).length:=by
 have hd:=(zyak h.v).d
 have hn:(znqs s.c k).Nodup:=by rw [z1ms h.g hk]; exact zofr hd
 obtain ⟨S,hS⟩ : ∃ S,(idsQ (qSp k c.g.l[k]) s.c.i.l).reverse.take ((znqs s.c k).length-c.g.l[k].want).toNat=S:=⟨_,rfl⟩
 have hSl:S.length≤(((znqs s.c k).length:Int)-c.g.l[k].want).toNat:=by rw [← hS,List.length_take]; omega
 have key : ∀ i ∈ znqs s.c k,i ∈ (zu3j s.c k).take (z17v s.c k).toNat→i ∈ S:=fun i hi hm=>by
  have hm:=List.mem_of_mem_take hm
  rw [zssx h.g hk,hS] at hm
  rw [z1ms h.g hk] at hi
  rcases List.mem_append.1 hm with m|m
  ·obtain ⟨x,_,_,p,q⟩:=zp8u hd hi ((zo43 _).mem_iff.1 m)
   simp only [qGd,z9qu,chos,qDn,Bool.and_eq_true,decide_eq_true_eq] at p q
   omega
  ·rcases List.mem_append.1 m with m|m
   ·obtain ⟨x,_,_,p,q⟩:=zp8u hd hi m
    simp only [qGd,z9qu,qRp,sRep,Bool.and_eq_true,Bool.not_eq_true'] at p q
    rw [p.2.2] at q
    simp at q
   ·exact m
 unfold grS3
 rw [z0iv h ht hk]
 constructor
 ·intro hle
  have hS0:S=[]:=List.eq_nil_of_length_eq_zero (by omega)
  refine zgng fun i hi hm => ?_
  have:=key i hi hm
  rw [hS0] at this
  simp at this
 ·have h1:=zh1a (V:=S) hn
  have h2:=ztuz (p:=fun i=>decide (i ∉ S)) (q:=fun i=>decide (i ∉ (zu3j s.c k).take (z17v s.c k).toNat)) (l:=znqs s.c k) fun i hi hp=>by
   rw [decide_eq_true_eq] at hp ⊢
   exact fun m=>hp (key i hi m)
  omega
theorem zxhy (h:RI (c.g.l.map gl) s B O) (hk:k<c.g.l.length) {k':Int} : ∃ E,znqs (zusy tr ix t k' s).2.c k=znqs s.c k++E:=by
 rw [z1ms (z3da (t:=t) (tr:=tr) (ix:=ix) (k:=k') h).g hk,z1ms h.g hk]
 rcases znha (t:=t) (s:=s) (tr:=tr) (ix:=ix) (k:=k') with e|⟨d,_,e,_,_⟩
 ·exact ⟨[],by rw [e,List.append_nil]⟩
 ·exact ⟨_,by rw [e,z9c3]⟩
theorem zyx5 (hk:k<c.g.l.length) {k' want:Int} : ∀ {m:Nat} {s:Rnd} {B O:Nat},RI (c.g.l.map gl) s B O → ∃ E,znqs (zinu tr ix t k' want m s).c k=znqs s.c k++E
 | 0,s,B,O,_=>⟨[],by rw [List.append_nil]; rfl⟩
 | m+1,s,B,O,h=>by
  unfold zinu
  split
  ·obtain ⟨E,hE⟩:=zxhy (tr:=tr) (ix:=ix) (t:=t) h hk (k':=k')
   obtain ⟨E',hE'⟩:=zyx5 hk (k':=k') (want:=want) (m:=m) (z3da (t:=t) (tr:=tr) (ix:=ix) (k:=k') h)
   exact ⟨E++E',by rw [hE',hE,List.append_assoc]⟩
  ·exact ⟨[],by rw [List.append_nil]⟩
theorem zopt (h:RI (c.g.l.map gl) s B O) (ht:zcie t) (hk:k<c.g.l.length) (hw:0≤c.g.l[k].want):(((znqs s.c k).length:Int)≤c.g.l[k].want → ∀ id ∈ znqs s.c k,id ∈ znqs (grpS tr ix t k c.g.l[k].want s).c k)∧min ((znqs s.c k).length:Int) c.g.l[k].want≤(znqs (grpS tr ix t k c.g.l[k].want s).c k).length:=by
 have r1:=zux2 (t:=t) (k:=k) h
 have r2:=znba (t:=t) (k:=k) (want:=c.g.l[k].want) r1
 have r3:=zfti (t:=t) (k:=k) r2
 have e1:=zacw h ht hk
 obtain ⟨a2,b2⟩:=zv2b r1 ht hk hw
 obtain ⟨a3,b3⟩:=zw2t r2 ht hk hw
 rw [e1] at a2 b2
 obtain ⟨E,hE⟩:=zyx5 (tr:=tr) (ix:=ix) (t:=t) hk (k':=k) (want:=c.g.l[k].want) (m:=(c.g.l[k].want-(znqs (grS3 t k (grS2 t k c.g.l[k].want (grS1 t k s))).c k).length).toNat) r3
 have hE:znqs (grpS tr ix t k c.g.l[k].want s).c k=znqs (grS3 t k (grS2 t k c.g.l[k].want (grS1 t k s))).c k++E:=hE
 rw [hE]
 constructor
 ·intro hle id hid
  have x2:=a2 hle
  rw [x2] at a3
  rw [a3 hle]
  exact List.mem_append.2 (.inl hid)
 ·rw [List.length_append]
  omega
end
section
variable {c:Clu} {gr:List Int} {tr:List Tri} {ix:List Ixe} {t:Int} (hv:ValidC c) (hn:c.g.l.length≤3) (hw : ∀ g ∈ c.g.l,g.want≤3) (hi:c.i.l.length≤10) (ht:zcie t)
include hv hn hw hi in
theorem z6gx {k:Nat} : ∀ {m:Nat},m≤k→m≤c.g.l.length→part k (rndS tr ix t c m (rnd0 gr t c)).c.i.l=part k (rnd0 gr t c).c.i.l
 | 0,_,_=>rfl
 | m+1,h,hm=>by
  rw [← z6gx (k:=k) (m:=m) (by omega) (by omega)]
  exact zlyt (ztza hv hn hw hi (tr:=tr) (ix:=ix) (t:=t) (gr:=gr) (k:=m) (by omega)) (by omega)
theorem zgyw {c:Clu} {k:Nat} (hk:k<c.g.l.length):ze6v c k=c.g.l[k].want:=by unfold ze6v; rw [List.getElem?_eq_getElem hk]
include hv ht in
theorem zyja {k:Nat} (hk:k<c.g.l.length):znqs (rnd0 gr t c).c k=znqs c k:=by
 have q:=zwot (tr:=[]) (ix:=[]) (gr:=gr) hv ht
 have hg:=(zpyu hv (gr:=gr) (t:=t)).g
 rw [z1ms hg hk,z1ms rfl hk,q.l,List.append_nil,z4g5 zapq]
 refine zgng fun i hi hm => ?_
 obtain ⟨x,hx,p,e⟩:=z6r9.1 hi
 obtain ⟨y,hy,e',_,hy0⟩:=za3t i hm
 have:=z4mt (zyak hv).d hx hy (by rw [e,e'])
 subst this
 simp only [qGd,z9qu,chos,Bool.and_eq_true,decide_eq_true_eq] at p
 omega
include hv hn hw hi ht in
theorem wanted {k:Nat} (hk:k<c.g.l.length):(((znqs c k).length:Int)≤ze6v c k → ∀ id ∈ znqs c k,id ∈ znqs (rndP tr ix gr t c).c k)∧min ((znqs c k).length:Int) (ze6v c k)≤(znqs (rndP tr ix gr t c).c k).length:=by
 have rN:=ztza hv hn hw hi (tr:=tr) (ix:=ix) (t:=t) (gr:=gr) (k:=c.g.l.length) (Nat.le_refl _)
 have rK:=ztza hv hn hw hi (tr:=tr) (ix:=ix) (t:=t) (gr:=gr) (k:=k) (by omega)
 have rS:=ztza hv hn hw hi (tr:=tr) (ix:=ix) (t:=t) (gr:=gr) (k:=k+1) (by omega)
 have r0:=zpyu hv (gr:=gr) (t:=t)
 have hg1:znqs (rndP tr ix gr t c).c k=znqs (rndS tr ix t c (k+1) (rnd0 gr t c)).c k:=zzme (by show (rndS tr ix t c c.g.l.length (rnd0 gr t c)).c.g.l.map gl=_; rw [rN.g,rS.g]) (z7c1 hv hn hw hi (tr:=tr) (ix:=ix) (t:=t) (gr:=gr) (k:=k) (m:=c.g.l.length) hk (Nat.le_refl _))
 have hg0:znqs (rndS tr ix t c k (rnd0 gr t c)).c k=znqs c k:=by
  rw [← zyja (gr:=gr) hv ht hk]
  exact zzme (by rw [rK.g,r0.g]) (z6gx hv hn hw hi (Nat.le_refl _) (by omega))
 have hw0:0≤c.g.l[k].want:=(hv.g k hk).1.w0
 have h:=zopt (tr:=tr) (ix:=ix) rK ht hk hw0
 rw [hg0,← zgyw hk] at h
 rw [hg1]
 exact h
include hv hn hw hi ht in
end
end Go.Proofs.YtaihpefemjlilaaGreatDoor
set_option linter.unusedSimpArgs false
set_option linter.unusedVariables false
set_option maxRecDepth 20000
namespace Go.Proofs.YtaihpefemjlilaaGreatDoor
open Go Go.Am
noncomputable def zy1c:Tbl:=addT 12 (.new cScn) (addT 25 (.pure cRnd) (addT 30 (.pure (cCi fun c i => .int .i64 (z092 c.i.l i))) (addT 36 (.pure (cCk zq4a)) (addT 21 (.pure cTru) tbl0))))
theorem zbck:zy1c 12 = .new cScn:=by simp [zy1c]
theorem zycs:zy1c 25 = .pure cRnd:=by simp [zy1c]
theorem zppo:zy1c 30 = .pure (cCi fun c i => .int .i64 (z092 c.i.l i)):=by simp [zy1c]
theorem zprh:zy1c 36 = .pure (cCk zq4a):=by simp [zy1c]
theorem z7df:zy1c 21 = .pure cTru:=by simp [zy1c]
theorem zq2x:zy1c.Sound P:=z0rp zr8u (z0rp zclv (z0rp zg2n (z0rp zm9u (z0rp (zi1x zul1) zr5o))))
noncomputable def zxu9 (o:List DV) (w:Tp) (c:Clu) (k:Nat):St:=z9o7 (.mp 3 8 0) (.mp 4 3 0) (.int .i64 k) [.cells o,.cells (tpC w),.cells o,.cells o,.cells (clC c)]
noncomputable def zby9 (o:List DV) (w:Tp) (c:Clu) (k:Nat) (G:List Int) (i:Nat):St:=zxy2 (.mp 3 8 0) (.mp 4 3 0) (.int .i64 k) (liV G) (.int .i64 i) [.cells o,.cells (tpC w),.cells o,.cells o,.cells (clC c)]
theorem z8z4 {c:Clu} {k:Int}:(znqs c k).length≤c.i.l.length:=by
 unfold znqs idsP
 split
 ·rw [List.length_map]; exact zrr7.length_le
 ·simp
theorem z7rh {c:Clu} (hv:ValidC c) {k:Int} {id:Int} (h:id ∈ znqs c k) : ∃ (p:Nat) (hp:p<c.i.l.length),z092 c.i.l id=p∧c.i.l[p].id=id∧¬ c.i.l[p].state=3:=by
 unfold znqs idsP at h
 split at h
 ·obtain ⟨x,hx,e⟩:=List.mem_map.1 h
  obtain ⟨h1,_,h3⟩:=z44q.1 hx
  obtain ⟨p,hp,rfl⟩:=List.getElem_of_mem h1
  refine ⟨p,hp,by rw [← e]; exact zvud (zyak hv).d hp,e,?_⟩
  unfold z9qu at h3
  simp only [Bool.and_eq_true,decide_eq_true_eq] at h3
  exact h3.1
 ·simp at h
theorem zzam (x:Nl):Runs zy1c a10 [x.dv] (.bool true):=by
 refine ⟨?_⟩
 obtain ⟨u,hu⟩ : ∃ u,tp0 x 300=u:=⟨_,rfl⟩
 have hua:u.at_=0:=by rw [← hu]; rfl
 have hS:=fun n=>zd92 (x:=x) (n:=n)
 rw [hu] at hS
 obtain ⟨a,hf⟩:=ztew u hua
 obtain ⟨s,hs⟩ : ∃ s,(scnV u).1=s:=⟨_,rfl⟩
 rw [hs] at hf hS
 obtain ⟨w,hw⟩ : ∃ w,(scnV u).2=w:=⟨_,rfl⟩
 rw [hw] at hS
 have hR:=zunp hf.ok
 have hxx:xiC a.x=[.int .i64 0,isV s.x]:=by unfold xiC; rw [hf.x0,hf.x]
 rw [hxx,hf.tr,hf.gr,hf.c,hf.t] at hR
 have hx:=zkx7 x
 have ho8:scnC s=o8 s.c (.int .i64 0) (isV s.x) (trV s.tr) (liV s.gr) (.int .i64 s.t):=rfl
 rw [ho8] at hS
 have s8:=fun H=>zws3 (c:=s.c) (a := .int .i64 0) (b:=isV s.x) (d:=trV s.tr) (e:=liV s.gr) (f := .int .i64 s.t) (H:=H) (id:=3) rfl (zcwq _) (zq54 _) (zj6i _) rfl
 have l0:oneC 1 false (o8 s.c (.int .i64 0) (isV s.x) (trV s.tr) (liV s.gr) (.int .i64 s.t))=some (s.c.g.dv 6 grC):=rfl
 have l3:oneC 2 true ((o8 s.c (.int .i64 0) (isV s.x) (trV s.tr) (liV s.gr) (.int .i64 s.t)).drop 3)=some (.agg [.int .i64 0,isV s.x]):=rfl
 have l5:oneC 1 false ((o8 s.c (.int .i64 0) (isV s.x) (trV s.tr) (liV s.gr) (.int .i64 s.t)).drop 5)=some (trV s.tr):=rfl
 have l6:oneC 1 false ((o8 s.c (.int .i64 0) (isV s.x) (trV s.tr) (liV s.gr) (.int .i64 s.t)).drop 6)=some (liV s.gr):=rfl
 have l7:oneC 1 false ((o8 s.c (.int .i64 0) (isV s.x) (trV s.tr) (liV s.gr) (.int .i64 s.t)).drop 7)=some (.int .i64 s.t):=rfl
 have hlo : ∀ c a b d e f,(o8 c a b d e f).length=8:=fun c a b d e f=>rfl
 have hpc:=fun c=>zy11 c
 have hpv:=zm03 s.x
 have hpt:=znen s.tr
 have hpg:=z4yh s.gr
 obtain ⟨R,hRR⟩ : ∃ R,rndP a.tr.l a.x.e.l a.gr.l s.t s.c=R:=⟨_,rfl⟩
 rw [hRR] at hR
 have hst3 : ∀ (h:List AObj) (id:Nat),zy6o h id 3 0 (.agg (clC R.c)) (some [.nils,.nils,.int .i64 0])=some (.junk,h.set id (.cells (clC R.c))):=fun h id=>zfc1 rfl rfl (by simp [clC,z4ja])
 simp (disch:=first|omega|simp<;>omega|fail) [-zA,-zB,-zC,-zD,-zE,a10,zbck,hS,hx,s8,o8_3,l3,l5,l6,l7,hlo,zycs,hR,rdV,hpc,hpv,hpt,hpg,hst3]
 have hRI:=ztza hf.v hf.n hf.w hf.i (tr:=a.tr.l) (ix:=a.x.e.l) (t:=a.t) (gr:=a.gr.l) (k:=a.c.g.l.length) (Nat.le_refl _)
 have hRp:rndP a.tr.l a.x.e.l a.gr.l a.t a.c=R:=by rw [← hRR,← hf.t,← hf.c]
 have hwa:=fun k hk=>wanted (tr:=a.tr.l) (ix:=a.x.e.l) (gr:=a.gr.l) hf.v hf.n hf.w hf.i hf.tm (k:=k) hk
 have hv:=hf.v
 have hn:=hf.n
 have hRv:ValidC R.c:=by rw [← hRp]; exact hRI.v
 rw [hRp] at hwa
 have hc:=hf.c
 rw [hc] at hwa hv hn
 have hlg : ∀ H,lenD H (s.c.g.dv 6 grC)=some (.int .i64 s.c.g.l.length):=fun H=>zupj
 have hl3:(clC R.c).length=3:=rfl
 have hcl:oneC 3 true (clC R.c)=some (.agg (clC R.c)):=rfl
 have hi1:oneC 1 false ((clC R.c).drop 1)=some (R.c.i.dv 37 inC):=rfl
 have l8:oneC 3 true (o8 s.c (.int .i64 0) (isV s.x) (trV s.tr) (liV s.gr) (.int .i64 s.t))=some (.agg (clC s.c)):=rfl
 obtain ⟨o,ho⟩ : ∃ o,o8 s.c (.int .i64 0) (isV s.x) (trV s.tr) (liV s.gr) (.int .i64 s.t)=o:=⟨_,rfl⟩
 have hol:o.length=8:=by rw [← ho]; rfl
 have hop:zbao o=true:=by rw [← ho]; exact zpl6 s
 rw [ho] at l0 l8 ⊢
 have hbel : ∀ n,belowL n o=true∧belowL n (tpC w)=true∧belowL n (clC R.c)=true:=fun n=>⟨zmq5 _ _ hop,zmq5 _ _ (zs7w w),zmq5 _ _ (zy11 R.c)⟩
 refine zlm5 (zxu9 o w R.c) (fun k=>s.c.g.l.length-k) (fun k=>k≤s.c.g.l.length) 0 (z515 (by simp (disch:=first|omega|simp<;>omega|fail) [-zA,-zB,-zC,-zD,-zE,zxu9,z9o7]) (by simp (disch:=first|omega|simp<;>omega|fail) [-zA,-zB,-zC,-zD,-zE,zxu9,z9o7])) (Nat.zero_le _) (fun k hk => ?_)
 simp only [zxu9]
 by_cases h:k<s.c.g.l.length
 case neg =>
  have h':¬ (k:Int)<s.c.g.l.length:=by omega
  simp (disch:=first|omega|simp<;>omega|fail) [-zA,-zB,-zC,-zD,-zE,z382,z9o7,h,h',l0,hlg,hol,z7df,cTru]
 have h':(k:Int)<s.c.g.l.length:=by omega
 have hG : ∀ H,zpsc H 6 (s.c.g.dv 6 grC) k=some (.ref (grC s.c.g.l[k])):=fun H=>zalo zry4 h
 obtain ⟨w1,w2⟩:=hwa k h
 rw [zgyw h] at w1 w2
 obtain ⟨g,hge⟩ : ∃ g,s.c.g.l[k]=g:=⟨_,rfl⟩
 rw [hge] at hG w1 w2
 have hgs:=ztaz (f:=zq4a) (c:=s.c) (k:=k)
 have hgd1:zq4a s.c k=liV (znqs s.c k):=by rw [zj8p hv]; rfl
 rw [hgd1] at hgs
 have hgr:=ztaz (f:=zq4a) (c:=R.c) (k:=k)
 have hgd2:zq4a R.c k=liV (znqs R.c k):=by rw [zj8p hRv]; rfl
 rw [hgd2] at hgr
 have hfg:=fun id=>z7rh hRv (k:=k) (id:=id)
 have hGb:=z8z4 (c:=s.c) (k:=k)
 have hi10:=hf.i
 rw [hc] at hi10
 obtain ⟨G,hGG⟩ : ∃ G,znqs s.c k=G:=⟨_,rfl⟩
 rw [hGG] at hgs w1 w2 hGb
 obtain ⟨G',hGG'⟩ : ∃ G',znqs R.c k=G':=⟨_,rfl⟩
 rw [hGG'] at hgr w1 w2 hfg
 have hpG:=z4yh G
 have hpG':=z4yh G'
 obtain ⟨M,hM⟩ : ∃ M,min (G.length:Int) g.want=M:=⟨_,rfl⟩
 have w3:¬ (G'.length:Int)<M:=by omega
 by_cases hle:(G.length:Int)≤g.want
 case neg =>
  simp (disch:=first|omega|simp<;>omega|fail) [-zA,-zB,-zC,-zD,-zE,z382,z9o7,h,h',l0,l8,hlg,hol,hl3,hcl,hG,grC,zprh,hgs,hgr,zo8b,hle,hpc,zluv,zy6n,hM,w3]
  exact ⟨k+1,z515 (by simp (disch:=first|omega|simp<;>omega|fail) [-zA,-zB,-zC,-zD,-zE,zxu9,z9o7]) (by simp (disch:=first|omega|simp<;>omega|fail) [-zA,-zB,-zC,-zD,-zE,zxu9,z9o7]),by omega,by omega⟩
 simp (disch:=first|omega|simp<;>omega|fail) [-zA,-zB,-zC,-zD,-zE,z382,z9o7,h,h',l0,l8,hlg,hol,hl3,hcl,hG,grC,zprh,hgs,zo8b,hle,hpc]
 refine zlm5 (zby9 o w R.c k G) (fun i=>G.length-i) (fun i=>i≤G.length) 0 (z515 (by simp (disch:=first|omega|simp<;>omega|fail) [-zA,-zB,-zC,-zD,-zE,zby9,zxy2]) (by simp (disch:=first|omega|simp<;>omega|fail) [-zA,-zB,-zC,-zD,-zE,zby9,zxy2])) (Nat.zero_le _) (fun i hi => ?_)
 simp only [zby9]
 by_cases hj:i<G.length
 case neg =>
  have hj':¬ (i:Int)<G.length:=by omega
  simp (disch:=first|omega|simp<;>omega|fail) [-zA,-zB,-zC,-zD,-zE,zln2,zxy2,hj,hj',l0,hol,hl3,hcl,hG,grC,zprh,hgr,zo8b,hpc,zluv,zy6n,hM,w3]
  exact ⟨k+1,z515 (by simp (disch:=first|omega|simp<;>omega|fail) [-zA,-zB,-zC,-zD,-zE,zxu9,z9o7]) (by simp (disch:=first|omega|simp<;>omega|fail) [-zA,-zB,-zC,-zD,-zE,zxu9,z9o7]),by omega,by omega⟩
 have hj':(i:Int)<G.length:=by omega
 have hix:=fun H=>zcq2 H hj
 obtain ⟨p,hp,f1,f2,f3⟩:=hfg G[i] (w1 hle _ (List.getElem_mem hj))
 have hfi:=z3mn (g:=fun c i => .int .i64 (z092 c.i.l i)) (x:=R.c) (a:=G[i])
 simp only [f1] at hfi
 have hip:=fun H=>zalo (x:=R.c.i) (h:=H) z6gw hp
 obtain ⟨id,hid⟩ : ∃ id,G[i]=id:=⟨_,rfl⟩
 rw [hid] at hix hfi
 obtain ⟨y,hy⟩ : ∃ y,R.c.i.l[p]=y:=⟨_,rfl⟩
 rw [hy] at hip f3
 have hpn:¬ (p:Int)<0:=by omega
 simp (disch:=first|omega|simp<;>omega|fail) [-zA,-zB,-zC,-zD,-zE,zln2,zxy2,hj,hj',hol,hl3,hcl,hi1,hix,zppo,hfi,hpn,hip,f3,hpc,zo8b]
 exact ⟨i+1,z515 (by simp (disch:=first|omega|simp<;>omega|fail) [-zA,-zB,-zC,-zD,-zE,zby9,zxy2]) (by simp (disch:=first|omega|simp<;>omega|fail) [-zA,-zB,-zC,-zD,-zE,zby9,zxy2]),by omega,by omega⟩
namespace evictorWanted
theorem law_holds (dvs) (h:Ty.Args [.sl (.int .i64)] dvs):Am.Sem P 10 dvs (.bool true):=by
 obtain ⟨d1,l1,rfl,h1,rfl⟩:=h
 obtain ⟨x,_,hx⟩:=zjzy h1
 cases hx
 exact zljw mix zq2x Tryz.func10 z1ee (zzam x)
end evictorWanted
end Go.Proofs.YtaihpefemjlilaaGreatDoor
