/-
  15 texts of mine in one.
-/
import Derived.Test.YtaihpefemjlilaaGreatDoorCd62ad478
import Derived.Test.YtaihpefemjlilaaGreatDoorCac4878f9
import Derived.Test.YtaihpefemjlilaaGreatDoorC49c39fef
import Derived.Test.YtaihpefemjlilaaGreatDoorCe661facf
import Derived.Test.YtaihpefemjlilaaGreatDoorC4171248c
import Derived.Test.YtaihpefemjlilaaGreatDoorCea942082
import Derived.Test.YtaihpefemjlilaaGreatDoorCb6ee058e
import Derived.Test.YtaihpefemjlilaaGreatDoorC7764857a
set_option maxRecDepth 20000
set_option maxHeartbeats 4000000
open List renaming map_take → zA, map_drop → zB, map_set → zC, map_append → zD, drop_one → zE
open Bool renaming and_eq_true → y0b
open Int renaming toNat_natCast → y0a
open List renaming getElem?_eq_getElem → y00, mem_append → y01, append_assoc → y02, pairwise_iff_getElem → y03, getElem_of_mem → y04, mem_map → y06, getElem_mem → y07, append_nil → y08, pairwise_append → y09, mem_of_mem_take → y0c, find?_eq_some_iff_getElem → y0d, length_take → y0e, pairwise_singleton → y0f, map_append → y0g, getElem?_eq_none → y0h, map_congr_left → y0i
open Nat renaming le_refl → y05
namespace Go.Proofs.YtaihpefemjlilaaGreatDoor
section
set_option linter.unusedSimpArgs false
set_option linter.unusedVariables false
set_option maxRecDepth 20000
open Go Go.Am
theorem zenn:Tot lsP:=by
 have h:=zqwe (f:=fun a:Rqs=>(a.ns,(a.im,a.art))) (fun a b e=>by
  obtain ⟨a1,a2,a3⟩:=a
  obtain ⟨b1,b2,b3⟩:=b
  simp only [Prod.mk.injEq] at e
  rw [e.1,e.2.1,e.2.2]) (zcht z3gj (zcht z3gj zc3a))
 have e:(fun a b:Rqs=>zynh Op.bytesLess (zynh Op.bytesLess dgLt) (a.ns,(a.im,a.art)) (b.ns,(b.im,b.art)))=lsP:=by
  funext a b; rfl
 rw [e] at h
 exact h
def SrtX (l:List Ixe):Prop:=l.Pairwise fun a b=>lsP (ixR b) (ixR a)=false
theorem z7jw {a b c:Rqs} (h1:lsP b a=false) (h2:lsP b c=true):lsP a c=true:=by
 rcases zenn.tot a b with h|h|h
 ·exact zenn.tr _ _ _ h h2
 ·rw [h]; exact h2
 ·rw [h] at h1; cases h1
theorem z83d {a b e:Rqs} (h1:lsP b a=false) (h2:lsP e b=false):lsP e a=false:=by
 cases h:lsP e a with
 | false=>rfl
 | true =>
  rcases zenn.tot a b with q|q|q
  ·rw [zenn.tr _ _ _ h q] at h2; cases h2
  ·rw [q] at h; rw [h] at h2; cases h2
  ·rw [q] at h1; cases h1
theorem zd43 {e:Rqs} {l:List Ixe} : ∀ k,k≤l.length→(∀ j (hj:j<l.length),insK e l k≤j→j<k→lsP e (ixR l[j])=true)∧(∀ i (hi:i<l.length),i+1=insK e l k→lsP e (ixR l[i])=false)
 | 0,_=>⟨fun j hj _ h=>by omega,fun i hi h=>by simp [insK] at h⟩
 | k+1,hk=>by
  have hlt:k<l.length:=by omega
  have hu:insK e l (k+1)=if lsP e (ixR l[k])=true then insK e l k else k+1:=by
   conv=>lhs; unfold insK
   rw [y00 hlt]
  cases h:lsP e (ixR l[k]) with
  | true =>
   rw [h,if_pos rfl] at hu
   obtain ⟨a,b⟩:=zd43 (e:=e) (l:=l) k (by omega)
   rw [hu]
   refine ⟨fun j hj h1 h2 => ?_,b⟩
   by_cases ej:j=k
   ·subst ej; exact h
   ·exact a j hj h1 (by omega)
  | false =>
   rw [h,if_neg (by simp)] at hu
   rw [hu]
   refine ⟨fun j hj h1 h2=>by omega,fun i hi h1 => ?_⟩
   obtain rfl:i=k:=by omega
   exact h
theorem zhsg {l:List Ixe} {e:Ixe} (h:SrtX l):SrtX (insX l e):=by
 have hle:=z13x (e:=ixR e) (l:=l) l.length
 obtain ⟨s1,s2⟩:=zd43 (e:=ixR e) (l:=l) l.length (y05 _)
 unfold insX
 obtain ⟨k,hk⟩ : ∃ k,insK (ixR e) l l.length=k:=⟨_,rfl⟩
 rw [hk] at hle s1 s2 ⊢
 have hp:=y03.1 h
 have before : ∀ i (hi:i<l.length),i<k→lsP (ixR e) (ixR l[i])=false:=fun i hi hik=>by
  by_cases q:i+1=k
  ·exact s2 i hi q
  ·exact z83d (hp i (k-1) hi (by omega) (by omega)) (s2 (k-1) (by omega) (by omega))
 have after : ∀ j (hj:j<l.length),k≤j→lsP (ixR l[j]) (ixR e)=false:=fun j hj hkj=>by
  cases q:lsP (ixR l[j]) (ixR e) with
  | false=>rfl
  | true =>
   have:=zenn.tr _ _ _ (s1 j hj hkj hj) q
   rw [zenn.irr] at this; cases this
 unfold SrtX
 rw [y09,y09]
 refine ⟨h.sublist (List.take_sublist _ _),⟨y0f _ _,h.sublist (List.drop_sublist _ _),fun a ha b hb => ?_⟩,fun a ha b hb => ?_⟩
 ·obtain rfl:a=e:=by simpa using ha
  obtain ⟨j,hj,rfl⟩:=y04 hb
  rw [List.getElem_drop]
  exact after _ _ (by omega)
 ·obtain ⟨i,hi,rfl⟩:=y04 ha
  rw [y0e] at hi
  rw [List.getElem_take]
  rcases y01.1 hb with hb|hb
  ·obtain rfl:b=e:=by simpa using hb
   exact before _ _ (by omega)
  ·obtain ⟨j,hj,rfl⟩:=y04 hb
   rw [List.length_drop] at hj
   rw [List.getElem_drop]
   exact hp i (k+j) (by omega) (by omega) (by omega)
theorem z41v {t:Tp} {c:Clu} : ∀ m,SrtX (idxL t c m)
 | 0=>List.Pairwise.nil
 | m+1=>zhsg (z41v m)
theorem zqdf {r:Rqs} {x:Ixe}:cmpR r x<0↔lsP (ixR x) r=true:=by
 rw [zaif,decide_eq_true_eq]; rfl
theorem z4xb {l:List Ixe} (h:SrtX l) (r:Rqs):Mono (cmpR r) l:=by
 intro i j hi hj hij hc
 rw [zqdf] at hc ⊢
 exact z7jw (y03.1 h i j hi hj hij) hc
def ltT (a b:Tri):Prop:=a.grp<b.grp∨(a.grp=b.grp∧dgLt a.art b.art=true)
theorem zgl2 {i j:Nat} (h:i<j) (hj:j<3):dgLt (dgB ((i:Int)+1)) (dgB ((j:Int)+1))=true:=by
 have:(i=0∧j=1)∨(i=0∧j=2)∨(i=1∧j=2):=by omega
 rcases this with ⟨rfl,rfl⟩|⟨rfl,rfl⟩|⟨rfl,rfl⟩<;>rfl
theorem z2rl {t:Tp} {c:Clu} : ∀ m,(triS t c m).2.Pairwise ltT ∧ ∀ y ∈ (triS t c m).2,∃ p:Nat,p<m∧y.grp=(p / 3:Nat)∧y.art=dgB (((p % 3:Nat):Int)+1)
 | 0=>⟨List.Pairwise.nil,fun y hy=>by simp [triS] at hy⟩
 | m+1=>by
  obtain ⟨h1,h2⟩:=z2rl (t:=t) (c:=c) m
  have up : ∀ y ∈ (triS t c m).2,∃ p:Nat,p<m+1∧y.grp=(p / 3:Nat)∧y.art=dgB (((p % 3:Nat):Int)+1):=fun y hy=>by
   obtain ⟨p,a,b⟩:=h2 y hy
   exact ⟨p,by omega,b⟩
  unfold triS
  split
  ·split
   ·split
    ·simp only
     rw [y09]
     refine ⟨⟨h1,y0f _ _,fun a ha b hb => ?_⟩,fun y hy => ?_⟩
     ·obtain rfl:b=_:=by simpa using hb
      obtain ⟨p,p1,p2,p3⟩:=h2 a ha
      unfold ltT
      rw [p2,p3]
      simp only
      by_cases q:p / 3=m / 3
      ·exact .inr ⟨by omega,zgl2 (i:=p % 3) (j:=m % 3) (by omega) (by omega)⟩
      ·exact .inl (by omega)
     ·rcases y01.1 hy with hy|hy
      ·exact up y hy
      ·obtain rfl:y=_:=by simpa using hy
       exact ⟨m,by omega,rfl,rfl⟩
    ·exact ⟨h1,up⟩
   ·exact ⟨h1,up⟩
  ·exact ⟨h1,up⟩
theorem zyto {a b:Int}:cmpI a b<0↔a<b:=by unfold cmpI; split<;>(try split)<;>omega
theorem zybz {a b:Int}:cmpI a b=0↔a=b:=by unfold cmpI; split<;>(try split)<;>omega
theorem zc02 {g:Int} {d:Dg} {x:Tri}:cmpT g d x<0↔x.grp<g∨(x.grp=g∧dgLt x.art d=true):=by
 unfold cmpT orI
 by_cases e:x.grp=g
 ·rw [if_pos (zybz.2 e),zxr9]
  simp [e]
 ·rw [if_neg (fun q=>e (zybz.1 q)),zyto]
  simp [e]
theorem zc0u {l:List Tri} (h:l.Pairwise ltT) (k:Int) (d:Dg):Mono (cmpT k d) l:=by
 intro i j hi hj hij hc
 rw [zc02] at hc ⊢
 have:=y03.1 h i j hi hj hij
 unfold ltT at this
 rcases this with a|⟨a1,a2⟩
 ·rcases hc with b|⟨b1,b2⟩
  ·exact .inl (by omega)
  ·exact .inl (by omega)
 ·rcases hc with b|⟨b1,b2⟩
  ·exact .inl (by omega)
  ·exact .inr ⟨by omega,zc3a.tr _ _ _ a2 b2⟩
end
section
set_option linter.unusedSimpArgs false
set_option linter.unusedVariables false
set_option maxRecDepth 20000
open Go Go.Am
structure RI (gs:List (List UInt8 × List UInt8 × Int × Int × Int × List Dg)) (s:Rnd) (B O:Nat):Prop where
 v:ValidC s.c
 g:s.c.g.l.map gl=gs
 b:s.c.i.l.length≤B
 o:s.o.length≤O
section
variable {gs:List (List UInt8 × List UInt8 × Int × Int × Int × List Dg)} {s:Rnd} {B O:Nat} {t:Int}
theorem zzee (h:RI gs s B O) {B' O':Nat} (hb:B≤B') (ho:O≤O'):RI gs s B' O':=⟨h.v,h.g,by have:=h.b; omega,by have:=h.o; omega⟩
theorem z7tf (h:RI gs s B O) (id:Int):RI gs (zyao t s id) B (O+1):=by
 by_cases h0:(z5wo s.c id t 3).2=0
 ·obtain ⟨i,hi,hf⟩:=zkzr h0
  have ht:zcie t:=by
   by_cases q:zcie t
   ·exact q
   ·unfold z5wo at h0; rw [if_pos (.inr q)] at h0; simp at h0
  have hst:s.c.i.l[i].state≠3:=by
   unfold z5wo at h0
   rw [if_neg (fun q=>q.elim (fun q=>q h.v) (fun q=>q ht)),hf,if_neg (by omega),y0a,y00 hi] at h0
   intro e
   simp [may,e] at h0
  have hid:s.c.i.l[i].id=id:=by
   obtain ⟨j,hj,e,p1,_⟩:=ziel (p:=fun x:Ins=>decide (x.id=id)) (l:=s.c.i.l) (by show (0:Int)≤z092 s.c.i.l id; rw [hf]; omega)
   have e:z092 s.c.i.l id=j:=e
   rw [hf] at e
   obtain rfl:i=j:=by omega
   simpa using p1
  have hv:=(z1s1 (gs:=gs) (s:=s) (l:=s.c.i.l) (n:=s.c.next) (o:=s.o) ⟨h.v,h.g,rfl,rfl,rfl⟩ ht (y07 hi) hst).1
  rw [hid] at hv
  exact ⟨hv.v,hv.g,by rw [hv.i,zo9a]; exact h.b,by rw [hv.o]; simp [zzoh]; exact h.o⟩
 ·have e:zyao t s id=s:=by unfold zyao; rw [if_neg h0]
  rw [e]; exact zzee h (y05 _) (by omega)
theorem z165 : ∀ {V:List Int} {s:Rnd} {O:Nat},RI gs s B O→RI gs (V.foldl (zyao t) s) B (O+V.length)
 | [],s,O,h=>h
 | a::V,s,O,h=>by
  have:=z165 (V:=V) (z7tf (t:=t) h a)
  rw [List.foldl_cons,List.length_cons]
  exact zzee this (y05 _) (by omega)
theorem z3da (h:RI gs s B O) {tr:List Tri} {ix:List Ixe} {k:Int}:RI gs (zusy tr ix t k s).2 (B+1) (O+1):=by
 cases hb:(zusy tr ix t k s).1 with
 | false=>rw [z0v2 hb]; exact zzee h (by omega) (by omega)
 | true =>
  have hg:=zu5r hb
  cases hc:choC tr ix s.c k t with
  | none=>unfold zusy at hb; rw [hc] at hb; simp at hb
  | some d =>
   have hs:zusy tr ix t k s=if (z4wu s.c k d t).2.2=0 then (true,⟨(z4wu s.c k d t).1,s.o++[⟨1,(z4wu s.c k d t).2.1,d⟩]⟩) else (false,s):=by unfold zusy; rw [hc]
   by_cases h0:(z4wu s.c k d t).2.2=0
   ·rw [if_pos h0] at hs
    have hst:=h0
    unfold z4wu at hst
    split at hst
    ·simp at hst
    rename_i c1
    split at hst
    ·simp at hst
    rename_i c2
    split at hst
    ·simp at hst
    rename_i c3
    have ht:zcie t:=Classical.byContradiction fun q=>c1 (.inr (.inr q))
    have hd:d≠dg0:=fun q=>c1 (.inr (.inl q))
    obtain ⟨K,rfl⟩ : ∃ K:Nat,k=K:=⟨k.toNat,by omega⟩
    have hgl:gs.length=s.c.g.l.length:=by rw [← h.g]; simp
    have hv:=(zd62 (gs:=gs) (s:=s) (l:=s.c.i.l) (n:=s.c.next) (o:=s.o) ⟨h.v,h.g,rfl,rfl,rfl⟩ ht (k:=K) (by omega) hd (by omega) (by omega)).2.2.1
    have hv:=hv (s.o++[⟨1,(z4wu s.c K d t).2.1,d⟩])
    rw [hs]
    exact ⟨hv.v,hv.g,by rw [hv.i]; simp; exact h.b,by simp; exact h.o⟩
   ·rw [if_neg h0] at hs; rw [hs] at hb; simp at hb
theorem z6og {tr:List Tri} {ix:List Ixe} {k want:Int} : ∀ {m:Nat} {s:Rnd} {B O:Nat},RI gs s B O→RI gs (zinu tr ix t k want m s) (B+m) (O+m)
 | 0,s,B,O,h=>h
 | m+1,s,B,O,h=>by
  unfold zinu
  split
  ·exact zzee (z6og (m:=m) (z3da h)) (by omega) (by omega)
  ·exact zzee h (by omega) (by omega)
theorem zf4b (h:RI gs s B O) {tr:List Tri} {ix:List Ixe} {k want:Int}:RI gs (filS tr ix t k want s) (B+want.toNat) (O+want.toNat):=by
 unfold filS
 exact zzee (z6og h) (by omega) (by omega)
end
end
section
set_option linter.unusedSimpArgs false
set_option linter.unusedVariables false
set_option maxRecDepth 20000
open Go Go.Am
section
variable {gs:List (List UInt8 × List UInt8 × Int × Int × Int × List Dg)} {s:Rnd} {B O:Nat} {t:Int}
theorem zux2 (h:RI gs s B O) {k:Int}:RI gs (grS1 t k s) B (O+B):=by
 have h1:=zt4h (k:=k) (G:=znqs s.c k) (b:=false) (l:=s.c.i.l)
 have:=h.b
 exact zzee (z165 (t:=t) (V:=stgL k (znqs s.c k) false s.c.i.l) h) (y05 _) (by omega)
theorem znba (h:RI gs s B O) {k want:Int}:RI gs (grS2 t k want s) B (O+B):=by
 have h1:=zt4h (k:=k) (G:=znqs s.c k) (b:=true) (l:=s.c.i.l)
 have:=h.b
 have h2:((stgL k (znqs s.c k) true s.c.i.l).reverse.take ((znqs s.c k).length-want).toNat).length≤B:=by
  rw [y0e,List.length_reverse]; omega
 exact zzee (z165 (t:=t) (V:=(stgL k (znqs s.c k) true s.c.i.l).reverse.take ((znqs s.c k).length-want).toNat) h) (y05 _) (by omega)
theorem zfti (h:RI gs s B O) {k:Int}:RI gs (grS3 t k s) B (O+3*B):=by
 have h1:=z9e8 (c:=s.c) (k:=k)
 have:=h.b
 have h2:((zu3j s.c k).take (z17v s.c k).toNat).length≤3*B:=by rw [y0e]; omega
 exact zzee (z165 (t:=t) (V:=(zu3j s.c k).take (z17v s.c k).toNat) h) (y05 _) (by omega)
theorem z714 (h:RI gs s B O) {tr:List Tri} {ix:List Ixe} {k want:Int}:RI gs (grpS tr ix t k want s) (B+want.toNat) (O+5*B+want.toNat) :=
 zzee (zf4b (zfti (znba (zux2 h)))) (by omega) (by omega)
theorem z8wq (h:RI gs s B O) (hB:B≤19) (hO:O≤20000) {k:Nat} {want:Int} (hk:k<s.c.g.l.length) (hw:s.c.g.l[k].want=want):GrOK t s k want:=by
 obtain ⟨q,_⟩:=h.v.g k hk
 have w0:=q.w0
 have w1:=q.w1
 have hb:=h.b
 have ho:=h.o
 refine ⟨hk,hw,by omega,by omega,by omega,by omega,?_⟩
 have r:=znba (t:=t) (k:=k) (want:=want) (zux2 (t:=t) (k:=k) h)
 exact zt0b r.v (by have:=r.b; omega)
end
theorem z4ua {c d:Clu} (h:d.g.l.map gl=c.g.l.map gl) {k:Nat} (hk:k<c.g.l.length) : ∃ hk':k<d.g.l.length,d.g.l[k].want=ze6v c k:=by
 have hl:d.g.l.length=c.g.l.length:=by have:=congrArg List.length h; simpa using this
 refine ⟨by omega,?_⟩
 have e:gl (d.g.l[k]'(by omega))=gl c.g.l[k]:=by
  have:=List.getElem_of_eq h (i:=k) (by simp; omega)
  simpa using this
 unfold ze6v
 rw [y00 hk]
 simp only [gl,Prod.mk.injEq] at e
 exact e.2.2.1
theorem z3g1 {c:Clu} {s0:Rnd} {tr:List Tri} {ix:List Ixe} {t:Int} {B0 O0:Nat} (h0:RI (c.g.l.map gl) s0 B0 O0) (hw : ∀ g ∈ c.g.l,g.want≤3) : ∀ {k:Nat},k≤c.g.l.length→k≤3→B0+9≤19→RI (c.g.l.map gl) (rndS tr ix t c k s0) (B0+3*k) (O0+100*k)
 | 0,_,_,_=>h0
 | k+1,hk,h3,hB=>by
  have ih:=z3g1 (tr:=tr) (ix:=ix) (t:=t) h0 hw (k:=k) (by omega) (by omega) hB
  have hwk:ze6v c k≤3:=by
   unfold ze6v
   rw [y00 (show k<c.g.l.length by omega)]
   exact hw _ (y07 _)
  exact zzee (z714 (tr:=tr) (ix:=ix) (t:=t) (k:=k) (want:=ze6v c k) ih) (by omega) (by omega)
theorem zwds {c:Clu} (hv:ValidC c):ValidC c.clone :=
 zqis hv (y:=c.i.clone) rfl fun i h1 h2=>⟨rfl,(hv.i i h2).1⟩
theorem zpyu {c:Clu} (hv:ValidC c) {gr:List Int} {t:Int}:RI (c.g.l.map gl) (rnd0 gr t c) c.i.l.length c.i.l.length:=by
 have h0:RI (c.g.l.map gl) ⟨c.clone,[]⟩ c.i.l.length 0:=⟨zwds hv,z9hp _,y05 _,y05 _⟩
 have hL:=z9p7 (gr:=gr) (t:=t) (l:=c.i.l) (j:=0)
 exact zzee (z165 (t:=t) (V:=ze9z c.i.l 0 gr t) h0) (y05 _) (by omega)
theorem zrko {a:RdA} (hv:ValidC a.c) (hn:a.c.g.l.length≤3) (hw : ∀ g ∈ a.c.g.l,g.want≤3) (hi:a.c.i.l.length≤10) (hch:ChOK a.x a.tr) (hov:OvOK (a.c,a.gr,a.t)):RdOK a:=by
 refine ⟨hch,hov,by omega,fun k hk => ?_⟩
 have h0:=zzee (zpyu (gr:=a.gr.l) (t:=a.t) hv) hi hi
 have h1:=z3g1 (tr:=a.tr.l) (ix:=a.x.e.l) (t:=a.t) h0 hw (k:=k) (by omega) (by omega) (by decide)
 obtain ⟨p,q⟩:=z4ua h1.g hk
 exact z8wq h1 (by omega) (by omega) p q
def Sml (c:Clu) (n:Nat):Prop:=(∀ x ∈ c.g.l,x.want≤3)∧c.g.l.length≤n
theorem zipw {c:Clu} {g:Grp} {n:Nat} (h:(zxl9 c g).2=0) (hc:Sml c n) (hn:n≤100) (hg:g.want≤3):Sml (zxl9 c g).1 (n+1):=by
 obtain ⟨h1,h2⟩:=hc
 unfold zxl9 at h ⊢
 split at h
 ·simp at h
 rename_i c1
 rw [if_neg c1]
 split at h
 ·rename_i c2
  rw [if_pos c2]
  split at h
  ·simp at h
  rename_i c3
  rw [if_neg c3]
  have hol:(own (c.g.l++[g])).l=c.g.l++[g]:=z3e9 (by simp; omega)
  refine ⟨fun x hx => ?_,by show (own _).l.length≤_; rw [hol]; simp; omega⟩
  have hx:x ∈ (own (c.g.l++[g])).l:=hx
  rw [hol] at hx
  rcases y01.1 hx with hx|hx
  ·exact h1 x hx
  ·obtain rfl:x=g:=by simpa using hx
   exact hg
 ·rename_i c2
  rw [if_neg c2]
  have hol:(own (c.g.l.set (z9w0 c.g.l g.ns g.im).toNat g)).l=c.g.l.set (z9w0 c.g.l g.ns g.im).toNat g:=z3e9 (by simp; omega)
  refine ⟨fun x hx => ?_,by show (own _).l.length≤_; rw [hol]; simp; omega⟩
  have hx:x ∈ (own (c.g.l.set (z9w0 c.g.l g.ns g.im).toNat g)).l:=hx
  rw [hol] at hx
  rcases List.mem_or_eq_of_mem_set hx with hx|hx
  ·exact h1 x hx
  ·rw [hx]; exact hg
theorem zk8v : ∀ (k:Nat) (c:Clu) (t:Tp) (n:Nat),Sml c n→n+k≤100→Sml (zp0i k c t).1 (n+k)
 | 0,c,t,n,h,_=>h
 | k+1,c,t,n,h,hn=>by
  have hw:(zlt0 t zdmg).1.want≤3:=by
   have:=z2s7 (t.adv 2) (n:=4) (by decide)
   show tpN (t.adv 2) 4≤3
   omega
  have h1:Sml (dOne c t) (n+1):=by
   unfold dOne
   split
   ·rename_i q; exact zipw q h (by omega) hw
   ·exact ⟨h.1,by have:=h.2; omega⟩
  have:=zk8v k (dOne c t) (zlt0 t zdmg).2 (n+1) h1 (by omega)
  show Sml (zp0i k (dOne c t) (zlt0 t zdmg).2).1 (n+(k+1))
  rw [show n+(k+1)=n+1+k by omega]
  exact this
theorem z7ak (t:Tp) (m:Int):Sml (zcpt t m).1 2:=by
 have h0:Sml (cl0 t) 0:=⟨fun x hx=>by simp [cl0,nilG] at hx,by simp [cl0,nilG]⟩
 have hz:=z2s7 (t.adv 1) (n:=2) (by decide)
 have hz0:=z4rs (t.adv 1) 2
 have h1:=zk8v ((tpN (t.adv 1) 2).toNat+1) (cl0 t) (t.adv 2) 0 h0 (by omega)
 exact ⟨h1.1,by have:=h1.2; show (clD t).1.g.l.length≤2; unfold clD; omega⟩
end
section
set_option linter.unusedSimpArgs false
set_option linter.unusedVariables false
set_option maxRecDepth 20000
open Go Go.Am
theorem zpl6 (s:Scn):zbao (scnC s)=true:=by
 simp only [scnC,zbao,zyp8,z1vd,zcha,zm03,znen,z4yh,Bool.and_self]
noncomputable def cScn:List DV→Nat→Option (DV × List AObj):=conN (fun _=>True) (fun x:Nl=>[x.dv]) (fun x=>(.tup [.agg (scnC (scnV (tp0 x 300)).1),.mp 1 2 0],[.cells (scnC (scnV (tp0 x 300)).1),.cells (tpC (scnV (tp0 x 300)).2),.cells (scnC (scnV (tp0 x 300)).1)]))
theorem zd92 {x:Nl} {n:Nat}:cScn [x.dv] n=some (.tup [.agg (scnC (scnV (tp0 x 300)).1),.mp (n+1) 2 0],[.cells (scnC (scnV (tp0 x 300)).1),.cells (tpC (scnV (tp0 x 300)).2),.cells (scnC (scnV (tp0 x 300)).1)]):=by
 have:=zqtp (A:=fun _=>True) (f:=fun x:Nl=>[x.dv]) (g:=fun x=>(DV.tup [.agg (scnC (scnV (tp0 x 300)).1),.mp 1 2 0],[AObj.cells (scnC (scnV (tp0 x 300)).1),.cells (tpC (scnV (tp0 x 300)).2),.cells (scnC (scnV (tp0 x 300)).1)])) (fun a b e=>by
  simp only [List.cons.injEq,and_true] at e
  rw [z2kw e]) x trivial n
 rw [cScn,this]
 simp [shD,shO,shL,zj45,zpl6,zs7w,Nat.add_comm]
theorem zr8u:(Con.new cScn).Sound P 12:=z3ld (fun x _=>by simp [zbao,zkx7]) fun x _=>zv22 mix zqvq Tryz.func12 zqkh (zfog x)
noncomputable def cRnd:List DV→Option DV:=con RdOK (fun a=>[.agg (clC a.c),.agg (xiC a.x),a.tr.dv 35 trC,a.gr.dv,.int .i64 a.t]) (fun a=>rdV (rndP a.tr.l a.x.e.l a.gr.l a.t a.c))
theorem zunp {a:RdA} (h:RdOK a):cRnd [.agg (clC a.c),.agg (xiC a.x),a.tr.dv 35 trC,a.gr.dv,.int .i64 a.t]=some (rdV (rndP a.tr.l a.x.e.l a.gr.l a.t a.c)) :=
 zzno (A:=RdOK) (f:=fun a=>[.agg (clC a.c),.agg (xiC a.x),a.tr.dv 35 trC,a.gr.dv,.int .i64 a.t]) (g:=fun a=>rdV (rndP a.tr.l a.x.e.l a.gr.l a.t a.c)) (by
  rintro ⟨a1,a2,a3,a4,a5⟩ ⟨b1,b2,b3,b4,b5⟩ e
  simp only [List.cons.injEq,DV.agg.injEq,DV.int.injEq,and_true,true_and] at e
  rw [zh7t e.1,zt7p e.2.1,z47i e.2.2.1,z2kw e.2.2.2.1,e.2.2.2.2]) a h
theorem zclv:(Con.pure cRnd).Sound P 25:=z2au fun a h=>z81i a h
end
section
set_option linter.unusedSimpArgs false
set_option linter.unusedVariables false
set_option maxRecDepth 20000
open Go Go.Am
theorem zxrl {tr:List Tri} {ix:List Ixe} {c d:Clu} {k:Nat} {t:Int} (h:c.g.l.map gl=d.g.l.map gl):choC tr ix c k t=choC tr ix d k t:=by
 have hl:c.g.l.length=d.g.l.length:=by have:=congrArg List.length h; simpa using this
 unfold choC grAt
 rw [if_pos (by omega),if_pos (by omega),y0a]
 by_cases hk:k<c.g.l.length
 ·rw [y00 hk,y00 (show k<d.g.l.length by omega)]
  have e:gl c.g.l[k]=gl (d.g.l[k]'(by omega)):=by
   have:=List.getElem_of_eq h (i:=k) (by simp; omega)
   simpa using this
  simp only [gl,Prod.mk.injEq] at e
  obtain ⟨e1,e2,_,_,_,e6⟩:=e
  show choF tr ix c.g.l[k] k t=choF tr ix (d.g.l[k]'(by omega)) k t
  unfold choF
  rw [e6]
  have hb:choB tr ix c.g.l[k] k t=choB tr ix (d.g.l[k]'(by omega)) k t:=by
   funext x
   unfold choB
   rw [e1,e2]
  rw [hb]
 ·rw [y0h (by omega),y0h (by omega)]
theorem zmpl {t:Int} {s:Rnd} {id:Int}:(zyao t s id).c.next=s.c.next:=by
 unfold zyao
 split
 ·rename_i h
  show (z5wo s.c id t 3).1.next=_
  unfold z5wo at h ⊢
  by_cases h1:¬ ValidC s.c∨¬ zcie t
  ·rw [if_pos h1] at h; simp at h
  rw [if_neg h1] at h ⊢
  by_cases h2:z092 s.c.i.l id<0
  ·rw [if_pos h2] at h; simp at h
  rw [if_neg h2] at h ⊢
  split at h
  ·rename_i h3; rw [if_pos h3]
  ·simp at h
 ·rfl
end
section
set_option linter.unusedSimpArgs false
set_option linter.unusedVariables false
set_option maxRecDepth 20000
open Go Go.Am
def part (k:Int) (l:List Ins):List Ins:=l.filter fun x=>decide (x.grp=k)
def own2 (l:List Ins):List (Int × Int):=l.map fun x=>(x.id,x.grp)
section
variable {gs:List (List UInt8 × List UInt8 × Int × Int × Int × List Dg)} {B:Nat} {t:Int}
theorem z70f {s:Rnd} {O:Nat} (h:RI gs s B O) {id g g':Int} (h1:(id,g) ∈ own2 s.c.i.l) (h2:(id,g') ∈ own2 s.c.i.l):g=g':=by
 obtain ⟨x,hx,e⟩:=y06.1 h1
 obtain ⟨y,hy,e'⟩:=y06.1 h2
 simp only [Prod.mk.injEq] at e e'
 obtain ⟨i,hi,rfl⟩:=y04 hx
 obtain ⟨j,hj,rfl⟩:=y04 hy
 have hd:=y03.1 (zyak h.v).d
 have:i=j:=by
  rcases Nat.lt_trichotomy i j with q|q|q
  ·have:=hd i j hi hj q; omega
  ·exact q
  ·have:=hd j i hj hi q; omega
 subst this
 rw [← e.2,← e'.2]
theorem zaob {k:Int} {G:List Int} {b:Bool} {l:List Ins} : ∀ id ∈ stgL k G b l,(id,k) ∈ own2 l:=fun id hid=>by
 obtain ⟨x,hx,rfl⟩:=y06.1 hid
 obtain ⟨h1,h2⟩:=List.mem_filter.1 hx
 have hg:x.grp=k:=by
  unfold stgB at h2
  simp only [y0b,decide_eq_true_eq] at h2
  exact h2.1
 exact y06.2 ⟨x,h1,by rw [hg]⟩
theorem z0ky {c:Clu} {k:Int} {sel:Grp→Ins→Bool} : ∀ id ∈ idsP c k sel,(id,k) ∈ own2 c.i.l:=fun id hid=>by
 unfold idsP at hid
 split at hid
 ·obtain ⟨x,hx,rfl⟩:=y06.1 hid
  unfold selL at hx
  obtain ⟨h1,h2⟩:=List.mem_filter.1 hx
  simp only [y0b,decide_eq_true_eq] at h2
  exact y06.2 ⟨x,h1,by rw [h2.1]⟩
 ·simp at hid
theorem zwyf {c:Clu} {k:Int} : ∀ id ∈ zu3j c k,(id,k) ∈ own2 c.i.l:=fun id hid=>by
 unfold zu3j at hid
 split at hid
 ·rcases y01.1 hid with h|h
  ·exact z0ky id ((zo43 _).mem_iff.1 h)
  ·rcases y01.1 h with h|h
   ·exact z0ky id h
   ·exact z0ky id (List.mem_reverse.1 (y0c h))
 ·simp at hid
end
end
section
set_option linter.unusedSimpArgs false
set_option linter.unusedVariables false
set_option maxRecDepth 20000
open Go Go.Am
section
variable {c:Clu} {gr:List Int} {tr:List Tri} {ix:List Ixe} {t:Int} (hv:ValidC c) (hn:c.g.l.length≤3) (hw : ∀ g ∈ c.g.l,g.want≤3) (hi:c.i.l.length≤10) (hx:c.next≤1000000) (ht:zcie t)
include hv hn hw hi in
theorem ztza {k:Nat} (hk:k≤c.g.l.length):RI (c.g.l.map gl) (rndS tr ix t c k (rnd0 gr t c)) (10+3*k) (10+100*k) :=
 z3g1 (zzee (zpyu hv) hi hi) hw hk (by omega) (by decide)
end
end
section
set_option linter.unusedSimpArgs false
set_option linter.unusedVariables false
set_option maxRecDepth 20000
open Go Go.Am
theorem znuy (t:Tp) (m:Int) (h0:0≤m) (h1:m≤200):(zcpt t m).1.next≤1000000:=by
 obtain ⟨hc,hg⟩:=zfm1 t
 have m1:=z4rs (clD t).2 (m+1)
 have m2:=z2s7 (clD t).2 (n:=m+1) (by omega)
 have hgl:1≤(clD t).1.g.l.length:=List.length_pos_iff.2 hg
 obtain ⟨-,-,k3,-⟩:=zc7j hgl (tpN (clD t).2 (m+1)).toNat [] (clD t).1.next ((clD t).2.adv 1) hc.n0 ⟨by simp,by simp⟩
 have hn1:=hc.n1
 show (zgc4 (clD t).1.g.l.length (tpN (clD t).2 (m+1)).toNat [] (clD t).1.next ((clD t).2.adv 1)).2.1≤_
 omega
def trSl (l:List Tri) (h:l.length≤100000):Sl Tri:=⟨if l=[] then none else some false,l,fun e=>by
 by_cases q:l=[]
 ·exact q
 ·simp [q] at e,by omega⟩
theorem z3eh {l:List Tri} (h:l.length≤100000):(trSl l h).dv 35 trC=trV l:=by
 unfold trSl trV Sl.dv
 by_cases q:l=[]
 ·simp only [q,if_true]; rfl
 ·simp only [q,if_false]; rfl
structure ScnF (s:Scn) (a:RdA):Prop where
 ok:RdOK a
 c:a.c=s.c
 x0:a.x.at_=0
 x:a.x.e.dv 105 ixC=isV s.x
 tr:a.tr.dv 35 trC=trV s.tr
 gr:a.gr.dv=liV s.gr
 t:a.t=s.t
 v:ValidC a.c
 n:a.c.g.l.length≤3
 w : ∀ g ∈ a.c.g.l,g.want≤3
 i:a.c.i.l.length≤10
 nx:a.c.next≤1000000
 tm:zcie a.t
theorem ztew (u:Tp) (hu:u.at_=0) : ∃ a,ScnF (scnV u).1 a:=by
 obtain ⟨hv,hg⟩:=zlnb u 8 (by decide) (by decide)
 have hn9:=zukg u 8 (by decide) (by decide)
 have hat:=z2ep u 8 (by decide) (by decide)
 have hnx:=znuy u 8 (by decide) (by decide)
 obtain ⟨sw,sn⟩:=z7ak u 8
 obtain ⟨c,hc⟩ : ∃ c,(zcpt u 8).1=c:=⟨_,rfl⟩
 obtain ⟨w,hw⟩ : ∃ w,(zcpt u 8).2=w:=⟨_,rfl⟩
 rw [hc] at hv hg hn9 hnx sw sn
 have hi10:c.i.l.length≤10:=by omega
 have hil:=zjjk (t:=w) (c:=c) (3*c.g.l.length)
 have htl:=zso0 (t:=w.adv (3*c.g.l.length)) (c:=c) (3*c.g.l.length)
 have hts:=(z2rl (t:=w.adv (3*c.g.l.length)) (c:=c) (3*c.g.l.length)).1
 have hixs:=z41v (t:=w) (c:=c) (3*c.g.l.length)
 obtain ⟨w2,hw2⟩ : ∃ w2,(triS (w.adv (3*c.g.l.length)) c (3*c.g.l.length)).1=w2:=⟨_,rfl⟩
 have hgl:=zuov (t:=w2) (n:=c.i.l.length)
 have hz:=z2s7 (w2.adv c.i.l.length) (n:=20) (by decide)
 have hz0:=z4rs (w2.adv c.i.l.length) 20
 have htm:zcie (30+tpN (w2.adv c.i.l.length) 20):=⟨by omega,by omega⟩
 have hsc:(scnV u).1=⟨c,idxL w c (3*c.g.l.length),(triS (w.adv (3*c.g.l.length)) c (3*c.g.l.length)).2,graL w2 c.i.l.length,30+tpN (w2.adv c.i.l.length) 20⟩:=by rw [← hw2,← hc,← hw]; rfl
 rw [hsc]
 have hch:ChOK ⟨0,isS (idxL w c (3*c.g.l.length)) (by omega)⟩ (trSl (triS (w.adv (3*c.g.l.length)) c (3*c.g.l.length)).2 (by omega)):=⟨fun k d=>zc0u hts k d,fun r=>z4xb hixs r⟩
 have hov:OvOK (c,nlO (graL w2 c.i.l.length) (by omega),30+tpN (w2.adv c.i.l.length) 20):=by
  refine ⟨fun x hx => ?_,fun n hn => ?_,(show okT (30+tpN (w2.adv c.i.l.length) 20) from ⟨by omega,by omega⟩)⟩
  ·have hx:x ∈ c.i.l:=hx
   obtain ⟨j,hj,rfl⟩:=y04 hx
   rcases (hv.i j hj).1.de with e|e
   ·rw [e]; exact ⟨by decide,by decide⟩
   ·exact ⟨by have:=e.1; omega,by have:=e.2; omega⟩
  ·have hn:n ∈ graL w2 c.i.l.length:=hn
   have:=z3e0 hn
   exact ⟨by omega,by omega⟩
 exact ⟨⟨c,⟨0,isS (idxL w c (3*c.g.l.length)) (by omega)⟩,trSl (triS (w.adv (3*c.g.l.length)) c (3*c.g.l.length)).2 (by omega),nlO (graL w2 c.i.l.length) (by omega),30+tpN (w2.adv c.i.l.length) 20⟩,zrko hv (by show c.g.l.length≤3; omega) sw hi10 hch hov,rfl,rfl,zz41 (by omega),z3eh (by omega),zigl (by omega),rfl,hv,by show c.g.l.length≤3; omega,sw,hi10,hnx,htm⟩
end
section
set_option linter.unusedSimpArgs false
set_option linter.unusedVariables false
set_option maxRecDepth 20000
open Go Go.Am
section
variable {gs:List (List UInt8 × List UInt8 × Int × Int × Int × List Dg)} {B:Nat} {t:Int}
theorem zln6 {s:Rnd} {O:Nat} (h:RI gs s B O) (ht:zcie t) (id:Int):(∃ x ∈ s.c.i.l,x.id=id∧x.state≠3∧(zyao t s id).c.i.l=mkS t [id] s.c.i.l∧(zyao t s id).o=s.o++zzoh s.c.i.l [id])∨(zyao t s id=s ∧ ∀ x ∈ s.c.i.l,x.id=id→x.state=3):=by
 by_cases hx : ∃ x ∈ s.c.i.l,x.id=id∧x.state≠3
 ·obtain ⟨x,hm,rfl,hs⟩:=hx
  have hv:=(z1s1 (gs:=gs) (s:=s) (l:=s.c.i.l) (n:=s.c.next) (o:=s.o) ⟨h.v,h.g,rfl,rfl,rfl⟩ ht hm hs).1
  exact .inl ⟨x,hm,rfl,hs,hv.i,hv.o⟩
 ·refine .inr ⟨?_,fun x hm e=>Classical.byContradiction fun q=>hx ⟨x,hm,e,q⟩⟩
  unfold zyao
  rw [if_neg]
  intro h0
  obtain ⟨i,hi,hf⟩:=zkzr h0
  have hst:s.c.i.l[i].state≠3:=by
   unfold z5wo at h0
   rw [if_neg (fun q=>q.elim (fun q=>q h.v) (fun q=>q ht)),hf,if_neg (by omega),y0a,y00 hi] at h0
   intro e
   simp [may,e] at h0
  have hid:s.c.i.l[i].id=id:=by
   obtain ⟨j,hj,e,p1,_⟩:=ziel (p:=fun x:Ins=>decide (x.id=id)) (l:=s.c.i.l) (by show (0:Int)≤z092 s.c.i.l id; rw [hf]; omega)
   have e:z092 s.c.i.l id=j:=e
   rw [hf] at e
   obtain rfl:i=j:=by omega
   simpa using p1
  exact hx ⟨_,y07 hi,hid,hst⟩
theorem znha {s:Rnd} {tr:List Tri} {ix:List Ixe} {k:Int}:(zusy tr ix t k s).2=s ∨ ∃ d,choC tr ix s.c k t=some d∧(zusy tr ix t k s).2.c.i.l=s.c.i.l++[newI s.c k d t]∧(zusy tr ix t k s).2.c.next=s.c.next+1∧(zusy tr ix t k s).2.o=s.o++[⟨1,s.c.next,d⟩]:=by
 cases hc:choC tr ix s.c k t with
 | none=>left; unfold zusy; rw [hc]
 | some d =>
  have hs:zusy tr ix t k s=if (z4wu s.c k d t).2.2=0 then (true,⟨(z4wu s.c k d t).1,s.o++[⟨1,(z4wu s.c k d t).2.1,d⟩]⟩) else (false,s):=by unfold zusy; rw [hc]
  by_cases h0:(z4wu s.c k d t).2.2=0
  ·right
   rw [if_pos h0] at hs
   obtain ⟨e1,e2,e3⟩:=zzaj h0
   have hol:(own (s.c.i.l++[newI s.c k d t])).l=s.c.i.l++[newI s.c k d t]:=z3e9 (by simp; omega)
   refine ⟨d,rfl,?_,?_,?_⟩
   ·rw [hs]; show (z4wu s.c k d t).1.i.l=_; rw [e1]; exact hol
   ·rw [hs]; show (z4wu s.c k d t).1.next=_; rw [e1]
   ·rw [hs]; show s.o++[⟨1,(z4wu s.c k d t).2.1,d⟩]=_; rw [e2]
  ·left; rw [if_neg h0] at hs; rw [hs]
end
def zapb (x:Ins):Cmd:=⟨1,x.id,x.art⟩
structure TR (c:Clu) (tr:List Tri) (ix:List Ixe) (t k:Int) (s:Rnd) (V:List Int) (N:List Ins):Prop where
 l:s.c.i.l=mkS t V c.i.l++N
 nd:V.Nodup
 iv : ∀ id ∈ V,∃ x ∈ c.i.l,x.id=id∧x.state≠3
 ni : ∀ x ∈ N,c.next≤x.id∧x.id<s.c.next∧0≤x.grp∧x.grp<k∧x.state=1∧x.den = -1∧choC tr ix c x.grp t=some x.art
 np:N.Pairwise (fun x y=>x.id<y.id)
 o:s.o.Perm (zzoh c.i.l V++N.map zapb)
 nx:c.next≤s.c.next
section
variable {c:Clu} {tr:List Tri} {ix:List Ixe} {t k:Int} {B:Nat}
theorem z0vo {V:List Int} {l:List Ins} {a:Int} (h:a ∉ V):mkS t [a] (mkS t V l)=mkS t (V++[a]) l:=by
 unfold mkS
 rw [List.map_map]
 refine y0i fun z _ => ?_
 simp only [Function.comp,List.mem_singleton,y01]
 by_cases hz:z.id ∈ V
 ·have hne:z.id≠a:=fun e=>h (by rw [← e]; exact hz)
  rw [if_pos hz,if_neg (by rw [z4j6]; exact hne),if_pos (.inl hz)]
 ·rw [if_neg hz]
  by_cases e:z.id=a
  ·rw [if_pos e,if_pos (.inr e)]
  ·rw [if_neg e,if_neg (fun q=>q.elim hz e)]
theorem zpvt {V:List Int} {l:List Ins} (h : ∀ x ∈ l,x.id ∉ V):mkS t V l=l:=by
 unfold mkS
 rw [y0i (g:=id) fun x hx=>by rw [if_neg (h x hx)]; rfl]
 simp
theorem z4ov {V:List Int} {l l':List Ins}:mkS t V (l++l')=mkS t V l++mkS t V l':=by unfold mkS; rw [y0g]
theorem zapa {s:Rnd} {V:List Int} {N:List Ins} (q:TR c tr ix t k s V N) {k':Int} (hk:k≤k'):TR c tr ix t k' s V N :=
 ⟨q.l,q.nd,q.iv,fun x hx=>by obtain ⟨a1,a2,a3,a4,a5⟩:=q.ni x hx; exact ⟨a1,a2,a3,by omega,a5⟩,q.np,q.o,q.nx⟩
theorem zga9 (hv:ValidC c) {s:Rnd} {O:Nat} (h:RI (c.g.l.map gl) s B O) (ht:zcie t) {V:List Int} {N:List Ins} (q:TR c tr ix t k s V N) {id:Int} (hn : ∀ x ∈ N,x.id≠id) : ∃ W,TR c tr ix t k (zyao t s id) (V++W) N:=by
 rcases zln6 h ht id with ⟨x,hx,rfl,hs,e1,e2⟩|⟨e,_⟩
 ·refine ⟨[x.id],?_⟩
  have hx':=hx
  rw [q.l] at hx'
  have hxm:x ∈ mkS t V c.i.l:=(y01.1 hx').resolve_right fun m=>hn x m rfl
  obtain ⟨y,hy,e⟩:=y06.1 hxm
  have hyV:y.id ∉ V:=fun m=>by
   rw [if_pos m] at e
   exact hs (by rw [← e]; rfl)
  rw [if_neg hyV] at e
  subst e
  have hcm:z83c s.c.i.l y.id=z83c c.i.l y.id:=by rw [zmpd (zyak h.v).d hx,zmpd (zyak hv).d hy]
  refine ⟨?_,?_,?_,?_,q.np,?_,?_⟩
  ·rw [e1,q.l,z4ov,z0vo hyV,zpvt (l:=N) fun z hz=>by simpa using hn z hz]
  ·rw [List.nodup_append]
   refine ⟨q.nd,by simp,fun a ha b hb => ?_⟩
   have hb:b=y.id:=by simpa using hb
   rw [hb]
   exact fun e=>hyV (by rw [← e]; exact ha)
  ·intro id hid
   rcases y01.1 hid with m|m
   ·exact q.iv id m
   ·have m:id=y.id:=by simpa using m
    exact ⟨y,hy,m.symm,hs⟩
  ·intro z hz
   rw [zmpl]
   exact q.ni z hz
  ·rw [e2]
   have e3:zzoh s.c.i.l [y.id]=zzoh c.i.l [y.id]:=by simp only [zzoh,List.map_cons,List.map_nil,hcm]
   have e4:zzoh c.i.l (V++[y.id])=zzoh c.i.l V++zzoh c.i.l [y.id]:=by simp only [zzoh,y0g]
   rw [e3,e4,y02]
   refine (List.Perm.append_right _ q.o).trans ?_
   rw [y02]
   exact List.Perm.append_left _ List.perm_append_comm
  ·rw [zmpl]; exact q.nx
 ·exact ⟨[],by rw [e,y08]; exact q⟩
theorem zfhc (hv:ValidC c) (ht:zcie t) {N:List Ins} : ∀ {L:List Int} {s:Rnd} {O:Nat} {V:List Int},RI (c.g.l.map gl) s B O→TR c tr ix t k s V N→(∀ id ∈ L,∀ x ∈ N,x.id≠id) → ∃ W,TR c tr ix t k (L.foldl (zyao t) s) (V++W) N
 | [],s,O,V,_,q,_=>⟨[],by rw [y08]; exact q⟩
 | a::L,s,O,V,h,q,hn=>by
  obtain ⟨W,hW⟩:=zga9 hv h ht q (hn a (by simp))
  obtain ⟨W',hW'⟩:=zfhc hv ht (L:=L) (z7tf (t:=t) h a) hW (fun id hid=>hn id (by simp [hid]))
  exact ⟨W++W',by rw [← y02]; exact hW'⟩
theorem z6hg {s:Rnd} {O:Nat} (h:RI (c.g.l.map gl) s B O) {V:List Int} {N:List Ins} (q:TR c tr ix t k s V N) {K:Nat} (hk:(K:Int)<k) : ∃ N',TR c tr ix t k (zusy tr ix t K s).2 V (N++N'):=by
 rcases znha (t:=t) (s:=s) (tr:=tr) (ix:=ix) (k:=K) with e|⟨d,hc,e1,e2,e3⟩
 ·exact ⟨[],by rw [e,y08]; exact q⟩
 ·refine ⟨[newI s.c K d t],?_,q.nd,q.iv,?_,?_,?_,?_⟩
  ·rw [e1,q.l,y02]
  ·intro x hx
   rw [e2]
   rcases y01.1 hx with m|m
   ·obtain ⟨a1,a2,a3⟩:=q.ni x m
    exact ⟨a1,by omega,a3⟩
   ·have m:x=newI s.c K d t:=by simpa using m
    subst m
    have hnx:=q.nx
    refine ⟨hnx,by show s.c.next<s.c.next+1; omega,by show (0:Int)≤K; omega,hk,rfl,rfl,?_⟩
    show choC tr ix c K t=some d
    rw [← zxrl (c:=s.c) h.g]
    exact hc
  ·rw [y09]
   refine ⟨q.np,by simp,fun a ha b hb => ?_⟩
   have m:b=newI s.c K d t:=by simpa using hb
   subst m
   exact (q.ni a ha).2.1
  ·rw [e3,y0g,← y02]
   exact List.Perm.append_right _ q.o
  ·rw [e2]; have:=q.nx; omega
theorem z8dy {want:Int} {V:List Int} {K:Nat} (hk:(K:Int)<k) : ∀ {m:Nat} {s:Rnd} {B O:Nat} {N:List Ins},RI (c.g.l.map gl) s B O→TR c tr ix t k s V N → ∃ N',TR c tr ix t k (zinu tr ix t K want m s) V (N++N')
 | 0,s,B,O,N,_,q=>⟨[],by rw [y08]; exact q⟩
 | m+1,s,B,O,N,h,q=>by
  obtain ⟨N',hN'⟩:=z6hg h q hk
  unfold zinu
  split
  ·obtain ⟨N2,hN2⟩:=z8dy hk (want:=want) (m:=m) (z3da (t:=t) h) hN'
   exact ⟨N'++N2,by rw [← y02]; exact hN2⟩
  ·exact ⟨[],by rw [y08]; exact q⟩
theorem z00g (hv:ValidC c) (ht:zcie t) {K:Nat} {s:Rnd} {O:Nat} (h:RI (c.g.l.map gl) s B O) {V:List Int} {N:List Ins} (q:TR c tr ix t K s V N) {want:Int} : ∃ W N',TR c tr ix t ((K+1:Nat):Int) (grpS tr ix t K want s) (V++W) (N++N'):=by
 have r1:=zux2 (t:=t) (k:=K) h
 have r2:=znba (t:=t) (k:=K) (want:=want) r1
 have r3:=zfti (t:=t) (k:=K) r2
 have hno : ∀ {s':Rnd} {O':Nat} {V':List Int},RI (c.g.l.map gl) s' B O'→TR c tr ix t K s' V' N → ∀ id,(id,(K:Int)) ∈ own2 s'.c.i.l → ∀ x ∈ N,x.id≠id:=fun {s' O' V'} r q' id hid x hx e=>by
  have hm:(id,x.grp) ∈ own2 s'.c.i.l:=y06.2 ⟨x,by rw [q'.l]; exact y01.2 (.inr hx),by rw [e]⟩
  have:=z70f r hm hid
  have:=(q'.ni x hx).2.2.2.1
  omega
 obtain ⟨W1,q1⟩:=zfhc hv ht (L:=stgL K (znqs s.c K) false s.c.i.l) h q (fun id hid=>hno h q id (zaob id hid))
 have q1:TR c tr ix t K (grS1 t K s) (V++W1) N:=q1
 obtain ⟨W2,q2⟩:=zfhc hv ht (L:=(stgL K (znqs (grS1 t K s).c K) true (grS1 t K s).c.i.l).reverse.take ((znqs (grS1 t K s).c K).length-want).toNat) r1 q1 (fun id hid=>hno r1 q1 id (zaob id (List.mem_reverse.1 (y0c hid))))
 have q2:TR c tr ix t K (grS2 t K want (grS1 t K s)) (V++W1++W2) N:=q2
 obtain ⟨W3,q3⟩:=zfhc hv ht (L:=(zu3j (grS2 t K want (grS1 t K s)).c K).take (z17v (grS2 t K want (grS1 t K s)).c K).toNat) r2 q2 (fun id hid=>hno r2 q2 id (zwyf id (y0c hid)))
 have q3:TR c tr ix t K (grS3 t K (grS2 t K want (grS1 t K s))) (V++W1++W2++W3) N:=q3
 obtain ⟨N',q4⟩:=z8dy (k:=((K+1:Nat):Int)) (K:=K) (by omega) (want:=want) (m:=(want-(znqs (grS3 t K (grS2 t K want (grS1 t K s))).c K).length).toNat) r3 (zapa q3 (by omega))
 refine ⟨W1++W2++W3,N',?_⟩
 rw [← y02,← y02]
 exact q4
end
theorem z85t {gr:List Int} {t:Int} : ∀ {l:List Ins} {i:Nat},(ze9z l i gr t).Sublist (l.map Ins.id)
 | [],_=>List.Sublist.refl _
 | x::r,i=>by
  have ih:=z85t (gr:=gr) (t:=t) (l:=r) (i:=i+1)
  unfold ze9z
  split
  ·exact ih.cons_cons _
  ·exact ih.cons _
theorem zgrg {c:Clu} (hv:ValidC c) {gr:List Int} {t:Int}:(ze9z c.i.l 0 gr t).Nodup:=by
 have h:=zg4k.1 (zyak hv).d
 exact (h.sublist z85t).imp fun {a b} q e=>by omega
theorem za3t {l:List Ins} {gr:List Int} {t:Int} : ∀ id ∈ ze9z l 0 gr t,∃ x ∈ l,x.id=id∧x.state≠3∧0≤x.den:=fun id hid=>by
 obtain ⟨j,hj,h1,h2⟩:=zunx.1 hid
 simp only [z9hf,y0b,decide_eq_true_eq] at h1
 exact ⟨_,y07 hj,h2,h1.1,h1.2.1⟩
section
variable {c:Clu} {gr:List Int} {tr:List Tri} {ix:List Ixe} {t:Int} (hv:ValidC c) (hn:c.g.l.length≤3) (hw : ∀ g ∈ c.g.l,g.want≤3) (hi:c.i.l.length≤10) (ht:zcie t)
include hv ht in
theorem zwot:TR c tr ix t 0 (rnd0 gr t c) (ze9z c.i.l 0 gr t) []:=by
 have h0:Vw (c.g.l.map gl) ⟨c.clone,[]⟩ c.i.l c.next []:=⟨zwds hv,z9hp _,rfl,rfl,rfl⟩
 have h:=(z40n (s:=⟨c.clone,[]⟩) (s':=⟨c.clone,[]⟩) ht h0 h0 (zgrg hv (gr:=gr) (t:=t)) (fun id hid=>by obtain ⟨x,a,b,d,_⟩:=za3t id hid; exact ⟨x,a,b,d⟩)).1
 have h:Vw (c.g.l.map gl) (rnd0 gr t c) _ c.next _:=h
 refine ⟨by rw [h.i,y08],zgrg hv,fun id hid=>by obtain ⟨x,a,b,d,_⟩:=za3t id hid; exact ⟨x,a,b,d⟩,by simp,List.Pairwise.nil,?_,by rw [h.n]; exact Int.le_refl _⟩
 rw [h.o]
 simp
include hv hn hw hi ht in
theorem zva5 : ∀ {k:Nat},k≤c.g.l.length → ∃ W N,TR c tr ix t k (rndS tr ix t c k (rnd0 gr t c)) (ze9z c.i.l 0 gr t++W) N
 | 0,_=>⟨[],[],by rw [y08]; exact zwot hv ht⟩
 | k+1,hk=>by
  obtain ⟨W,N,q⟩:=zva5 (k:=k) (by omega)
  obtain ⟨W',N',q'⟩:=z00g hv ht (ztza hv hn hw hi (tr:=tr) (ix:=ix) (t:=t) (gr:=gr) (k:=k) (by omega)) q (want:=ze6v c k)
  exact ⟨W++W',N++N',by rw [← y02]; exact q'⟩
include hv hn hw hi ht in
theorem z6bz : ∃ W N,TR c tr ix t c.g.l.length (rndP tr ix gr t c) (ze9z c.i.l 0 gr t++W) N:=zva5 hv hn hw hi ht (y05 _)
end
end
section
set_option linter.unusedSimpArgs false
set_option linter.unusedVariables false
set_option maxRecDepth 20000
open Go Go.Am
section
variable {c d:Clu} {k:Nat} (h:d.g.l.map gl=c.g.l.map gl) (hk:k<c.g.l.length)
end
section
variable {c:Clu} {s:Rnd} {B O:Nat} {t:Int} {k:Nat} {tr:List Tri} {ix:List Ixe}
end
section
variable {c:Clu} {gr:List Int} {tr:List Tri} {ix:List Ixe} {t:Int} (hv:ValidC c) (hn:c.g.l.length≤3) (hw : ∀ g ∈ c.g.l,g.want≤3) (hi:c.i.l.length≤10) (ht:zcie t)
end
end
section
set_option linter.unusedSimpArgs false
set_option linter.unusedVariables false
set_option maxRecDepth 20000
open Go Go.Am
def kdO (l:List Ins) (y:Ins):Int:=match l.find? (fun x=>decide (x.id=y.id)) with
 | none=>1
 | some x=>if y.state≠x.state then 2 else 0
def cmdO (l:List Ins) (y:Ins):Cmd:=⟨kdO l y,y.id,y.art⟩
structure CmF (l0 l:List Ins) (o:List Cmd):Prop where
 nd:o.Nodup
 p0 : ∀ y ∈ l,kdO l0 y=0→cmdO l0 y ∉ o
 p1 : ∀ y ∈ l,¬ kdO l0 y=0→cmdO l0 y ∈ o
 s2 : ∀ y ∈ l,kdO l0 y=2→y.state=3
 s1 : ∀ y ∈ l,kdO l0 y=1→y.state=1
 n:(l.filter fun y=>decide (¬ kdO l0 y=0)).length=o.length
 le:l0.length≤l.length
section
variable {c:Clu} {tr:List Tri} {ix:List Ixe} {t k:Int} {s:Rnd} {V:List Int} {N:List Ins}
end
end
section
set_option linter.unusedSimpArgs false
set_option linter.unusedVariables false
set_option maxRecDepth 20000
open Go Go.Am
def cmSl (l:List Cmd) (h:l.length≤100000):Sl Cmd:=⟨if l=[] then none else some false,l,fun e=>by
 by_cases q:l=[]
 ·exact q
 ·simp [q] at e,by omega⟩
theorem zb37 {l:List Cmd} (h:l.length≤100000):(cmSl l h).dv 34 cmC=cmV l:=by
 unfold cmSl cmV Sl.dv
 by_cases q:l=[]
 ·simp only [q,if_true]; rfl
 ·simp only [q,if_false]; rfl
theorem z5ip {l:List Cmd} (h:l.length≤100000) (H:List AObj):lenD H (cmV l)=some (.int .i64 l.length):=by
 have:=zupj (x:=cmSl l h) (h:=H) (s:=34) (f:=cmC)
 rw [zb37] at this; exact this
theorem zg1b {l:List Cmd} (h:l.length≤100000) (H:List AObj) {j:Nat} (hj:j<l.length):zpsc H 34 (cmV l) j=some (.ref (cmC l[j])):=by
 have:=zalo (x:=cmSl l h) (h:=H) zfq1 hj
 rw [zb37] at this; exact this
end
section
set_option linter.unusedSimpArgs false
set_option linter.unusedVariables false
set_option maxRecDepth 20000
open Go Go.Am
instance decRqs:DecidableEq Rqs:=fun a b=>decidable_of_iff (a.ns=b.ns∧a.im=b.im∧a.art=b.art) (by
 obtain ⟨a1,a2,a3⟩:=a
 obtain ⟨b1,b2,b3⟩:=b
 simp)
def fnX (l:List Ixe) (r:Rqs):Int:=ixI (fun x=>decide (ixR x=r)) l
theorem zdg1 {a b a' b':List UInt8}:z32s [1,1] [.str a,.str b] [.str a',.str b']=some (decide (a=a'∧b=b')):=by
 have e : ∀ x y:List UInt8,(x == y)=decide (x=y):=fun x y=>by by_cases h:x=y<;>simp [h]
 simp [z32s,znnj,e]
theorem zchb {x y:Rqs}:z32s (zi5g [(2,1),(32,0)]) (rqC x) (rqC y)=some (decide (x=y)):=by
 have e:zi5g [(2,1),(32,0)]=[1,1]++zi5g [(32,0)]:=by decide
 have e1 : ∀ x:Rqs,rqC x=[.str x.ns,.str x.im]++dgC x.art:=fun _=>rfl
 rw [e,e1,e1,zid2 rfl rfl,zyiz,zdg1]
 obtain ⟨a,b,c⟩:=x
 obtain ⟨a',b',c'⟩:=y
 simp only [Option.bind_some,Option.map_some,Rqs.mk.injEq,Option.some.injEq,Bool.decide_and,Bool.and_assoc]
def zqbc (x:Idx) (r:Rqs) (i:Nat):St:=zbk2 (.mp 0 2 0) (.mp 1 34 0) (.int .i64 i) [.cells (xiC x),.cells (rqC r)]
theorem zpqv (x:Idx) (r:Rqs):Runs tbl0 a62 [.agg (xiC x),.agg (rqC r)] (.int .i64 (fnX x.e.l r)):=by
 refine ⟨?_⟩
 have hb:=x.e.b
 have hbx : ∀ h,boxD h (.agg (xiC x))=some (.mp h.length 2 0,h++[.cells (xiC x)]):=fun h=>by rw [zn72]; rfl
 have hbr : ∀ h,boxD h (.agg (rqC r))=some (.mp h.length 34 0,h++[.cells (rqC r)]):=fun h=>by rw [zn72,zzeg]
 have hl:(xiC x).length=2:=rfl
 have o1:oneC 1 false ((xiC x).drop 1)=some (x.e.dv 105 ixC):=rfl
 have hlx : ∀ H,lenD H (x.e.dv 105 ixC)=some (.int .i64 x.e.l.length):=fun H=>zupj
 simp (disch:=first|omega|simp<;>omega|fail) [-zA,-zB,-zC,-zD,-zE,a62,hbx,hbr]
 refine zlm5 (zqbc x r) (fun i=>x.e.l.length-i) (fun i=>i≤x.e.l.length ∧ ∀ j (hj:j<x.e.l.length),j<i→decide (ixR x.e.l[j]=r)=false) 0 (z515 (by simp (disch:=first|omega|simp<;>omega|fail) [-zA,-zB,-zC,-zD,-zE,zqbc,zbk2]) (by simp (disch:=first|omega|simp<;>omega|fail) [-zA,-zB,-zC,-zD,-zE,zqbc,zbk2])) ⟨by omega,fun j _ hj=>by omega⟩ (fun i hi => ?_)
 obtain ⟨h1,h2⟩:=hi
 simp only [zqbc]
 by_cases h:i<x.e.l.length
 ·have h':(i:Int)<x.e.l.length:=by omega
  have hg : ∀ H,zpsc H 105 (x.e.dv 105 ixC) i=some (.ref (ixC x.e.l[i])):=fun H=>zalo zwe8 h
  have hrq:=zdyd x.e.l[i]
  have hce:=zchb (x:=ixR x.e.l[i]) (y:=r)
  have hlq:=zzeg r
  by_cases e:ixR x.e.l[i]=r
  ·have hr:fnX x.e.l r=i:=zy9u h (by simp [e]) h2
   rw [decide_eq_true e] at hce
   simp (disch:=first|omega|simp<;>omega|fail) [-zA,-zB,-zC,-zD,-zE,z1dk,zbk2,h',h,hg,hl,o1,hlx,hrq,zed4,hlq,hce,hr,zwe8]
  ·rw [decide_eq_false e] at hce
   simp (disch:=first|omega|simp<;>omega|fail) [-zA,-zB,-zC,-zD,-zE,z1dk,zbk2,h',h,hg,hl,o1,hlx,hrq,zed4,hlq,hce,zwe8]
   refine ⟨i+1,z515 (by simp (disch:=first|omega|simp<;>omega|fail) [-zA,-zB,-zC,-zD,-zE,zqbc,zbk2]) (by simp (disch:=first|omega|simp<;>omega|fail) [-zA,-zB,-zC,-zD,-zE,zqbc,zbk2]),by omega,by omega,fun j hj hji => ?_⟩
   by_cases ej:j=i
   ·subst ej; simpa using e
   ·simpa using h2 j hj (by omega)
 ·have h':¬ (i:Int)<x.e.l.length:=by omega
  have hr:fnX x.e.l r = -1:=zfki (fun j hj=>h2 j hj (by omega))
  simp (disch:=first|omega|simp<;>omega|fail) [-zA,-zB,-zC,-zD,-zE,z1dk,zbk2,h,h',hl,o1,hlx,hr]
noncomputable def cFnX:List DV→Option DV:=con (fun _=>True) (fun a:Idx × Rqs=>[.agg (xiC a.1),.agg (rqC a.2)]) (fun a => .int .i64 (fnX a.1.e.l a.2))
theorem z7y2 {x:Idx} {r:Rqs}:cFnX [.agg (xiC x),.agg (rqC r)]=some (.int .i64 (fnX x.e.l r)) :=
 zsn4 (f:=fun a:Idx × Rqs=>[.agg (xiC a.1),.agg (rqC a.2)]) (g:=fun a => .int .i64 (fnX a.1.e.l a.2)) (fun a b e=>z64q e) (x,r)
noncomputable def z1q2:Tbl:=addT 62 (.pure cFnX) tbl0
theorem z7pi:z1q2 62 = .pure cFnX:=by simp [z1q2]
theorem zx2t:z1q2.Sound P:=z0rp (z2au fun a _=>zljw mix zr5o Tryz.func62 z0i3 (zpqv a.1 a.2)) zr5o
def alwL (l:List Ixe) (r:Rqs):Bool:=match l.find? (fun x=>decide (ixR x=r)) with
 | some x=>x.ok
 | none=>false
theorem zhxo (x:Idx) (r:Rqs):Runs z1q2 a31 [.agg (xiC x),.agg (rqC r)] (.bool (alwL x.e.l r)):=by
 refine ⟨?_⟩
 have hb:=x.e.b
 have hbx : ∀ h,boxD h (.agg (xiC x))=some (.mp h.length 2 0,h++[.cells (xiC x)]):=fun h=>by rw [zn72]; rfl
 have hbr : ∀ h,boxD h (.agg (rqC r))=some (.mp h.length 34 0,h++[.cells (rqC r)]):=fun h=>by rw [zn72,zzeg]
 have hl:(xiC x).length=2:=rfl
 have o1:oneC 1 false ((xiC x).drop 1)=some (x.e.dv 105 ixC):=rfl
 have o2:oneC 2 true (xiC x)=some (.agg (xiC x)):=rfl
 have hc:=z7y2 (x:=x) (r:=r)
 have hp:=zqx0 x
 have hpr:=zhqv r
 unfold alwL
 cases hf:x.e.l.find? (fun x=>decide (ixR x=r)) with
 | none =>
  rw [List.find?_eq_none] at hf
  have hr:fnX x.e.l r = -1:=zfki (fun j hj=>by simpa using hf _ (y07 hj))
  rw [hr] at hc
  simp (disch:=first|omega|simp<;>omega|fail) [-zA,-zB,-zC,-zD,-zE,a31,hbx,hbr,hl,o1,o2,zzeg,zed4,z7pi,hc,hp,hpr]
 | some u =>
  rw [y0d] at hf
  obtain ⟨h1,i,hi,rfl,h2⟩:=hf
  have hr:fnX x.e.l r=i:=zy9u hi h1 (fun j hj hji=>by simpa using h2 j hji)
  rw [hr] at hc
  have hg : ∀ H,zpsc H 105 (x.e.dv 105 ixC) i=some (.ref (ixC x.e.l[i])):=fun H=>zalo zwe8 hi
  have hok:=z9gm x.e.l[i]
  obtain ⟨u,hu⟩ : ∃ u,x.e.l[i]=u:=⟨_,rfl⟩
  rw [hu] at hg hok
  simp only [hu]
  simp (disch:=first|omega|simp<;>omega|fail) [-zA,-zB,-zC,-zD,-zE,a31,hbx,hbr,hl,o1,o2,zzeg,zed4,z7pi,hc,hp,hpr,hg,hok,zwe8]
noncomputable def zpn3:List DV→Option DV:=con (fun _=>True) (fun a:Idx × Rqs=>[.agg (xiC a.1),.agg (rqC a.2)]) (fun a => .bool (alwL a.1.e.l a.2))
theorem z40z {x:Idx} {r:Rqs}:zpn3 [.agg (xiC x),.agg (rqC r)]=some (.bool (alwL x.e.l r)) :=
 zsn4 (f:=fun a:Idx × Rqs=>[.agg (xiC a.1),.agg (rqC a.2)]) (g:=fun a => .bool (alwL a.1.e.l a.2)) (fun a b e=>z64q e) (x,r)
theorem zwim:(Con.pure zpn3).Sound P 31:=z2au fun a _=>zljw mix zx2t Tryz.func31 zjer (zhxo a.1 a.2)
theorem z9ya {r:Rqs} {x:Ixe}:cmpR r x=0↔ixR x=r:=by
 obtain ⟨a,b,c⟩:=r
 unfold cmpR or3I ixR
 simp only [Rqs.mk.injEq]
 by_cases e1:x.ns=a
 ·rw [if_pos (zmen.2 e1)]
  by_cases e2:x.im=b
  ·rw [if_pos (zmen.2 e2),zuux]; simp [e1,e2]
  ·rw [if_neg (fun q=>e2 (zmen.1 q))]
   simp only [e1,e2,true_and,false_and,iff_false]
   exact fun q=>e2 (zmen.1 q)
 ·rw [if_neg (fun q=>e1 (zmen.1 q))]
  simp only [e1,false_and,iff_false]
  exact fun q=>e1 (zmen.1 q)
theorem z3po {l:List Ixe} (h:SrtX l) (r:Rqs):alwB l r=alwL l r:=by
 have hk:=fun i=>zgek (c:=cmpR r) (l:=l) (i:=i)
 unfold alwL
 cases hf:l.find? (fun x=>decide (ixR x=r)) with
 | none =>
  rw [List.find?_eq_none] at hf
  unfold alwB
  have:fOf (cmpR r) l=false:=by
   cases q:fOf (cmpR r) l with
   | false=>rfl
   | true =>
    obtain ⟨p,e⟩:=zsfp q
    have:=hf _ (y07 p)
    simp only [decide_eq_true_eq] at this
    exact absurd (z9ya.1 e) this
  rw [this]; rfl
 | some u =>
  rw [y0d] at hf
  obtain ⟨h1,i,hi,rfl,h2⟩:=hf
  have h1:ixR l[i]=r:=by simpa using h1
  have hki:=hk i (by omega) (fun m hm hmi=>by
   have hp:=y03.1 h m i hm hi hmi
   have hne:=h2 m hmi
   simp only [Bool.not_eq_true',decide_eq_false_iff_not] at hne
   rw [zqdf,← h1]
   rcases zenn.tot (ixR l[m]) (ixR l[i]) with q|q|q
   ·exact q
   ·exact absurd (q.trans h1) hne
   ·rw [q] at hp; cases hp) (fun _ q=>by
   rw [zqdf,h1,zenn.irr] at q; cases q)
  have hfo:=zjjt hki hi
  rw [z9ya.2 h1] at hfo
  unfold alwB
  rw [hfo,hki,y00 hi]; rfl
theorem zkg1 {g:Int} {d:Dg} {x:Tri}:cmpT g d x=0↔x.grp=g∧x.art=d:=by
 unfold cmpT orI
 by_cases e:x.grp=g
 ·rw [if_pos (zybz.2 e),zuux]; simp [e]
 ·rw [if_neg (fun q=>e (zybz.1 q))]
  simp only [e,false_and,iff_false]
  exact fun q=>e (zybz.1 q)
theorem z9kc (x:Tri):oneC 32 true ((trC x).drop 1)=some (.agg (dgC x.art)):=by
 rw [zst3]; simp only [oneC,if_true]; rw [if_pos (by simp [z1t1]),List.take_left' (z1t1 _)]
end
section
set_option linter.unusedSimpArgs false
set_option linter.unusedVariables false
set_option maxRecDepth 20000
open Go Go.Am
theorem z4vf {u:Tp} {a:RdA} (hf:ScnF (scnV u).1 a):SrtX a.x.e.l:=by
 obtain ⟨_,sn⟩:=z7ak u 8
 obtain ⟨w,hw⟩ : ∃ w,(scnV u).1.x=idxL w (zcpt u 8).1 (3*(zcpt u 8).1.g.l.length):=⟨_,rfl⟩
 have hl:((scnV u).1.x).length≤100000:=by rw [hw,zjjk]; omega
 have e:=hf.x
 rw [← zz41 hl] at e
 have:=zrpw e
 rw [this]
 show SrtX (scnV u).1.x
 rw [hw]; exact z41v _
theorem zins {u:Tp} {a:RdA} (hf:ScnF (scnV u).1 a):a.tr.l.Pairwise ltT:=by
 obtain ⟨_,sn⟩:=z7ak u 8
 obtain ⟨w,hw⟩ : ∃ w,(scnV u).1.tr=(triS w (zcpt u 8).1 (3*(zcpt u 8).1.g.l.length)).2:=⟨_,rfl⟩
 have hl:((scnV u).1.tr).length≤100000:=by
  rw [hw]
  have:=zso0 (t:=w) (c:=(zcpt u 8).1) (3*(zcpt u 8).1.g.l.length)
  omega
 have e:=hf.tr
 rw [← z3eh hl] at e
 have:=z47i e
 rw [this]
 show (scnV u).1.tr.Pairwise ltT
 rw [hw]; exact (z2rl _).1
end
section
set_option linter.unusedSimpArgs false
set_option linter.unusedVariables false
set_option maxRecDepth 20000
open Go Go.Am
theorem zl8g {l:List Tri} (h:l.Pairwise ltT) {k t:Int} {d:Dg} (hw:zvlr l k d t=false) {j:Nat} (hj:j<l.length) (h1:l[j].grp=k) (h2:l[j].art=d):¬ t<l[j].af:=by
 have hp:=y03.1 h
 have hk:=zgek (c:=cmpT k d) (l:=l) (i:=j) (by omega) (fun m hm hmj=>by
  rw [zc02,← h1,← h2]
  exact hp m j hm hj hmj) (fun _ q=>by
  have:=zkg1.2 ⟨h1,h2⟩
  omega)
 have hf:=zjjt hk hj
 rw [zkg1.2 ⟨h1,h2⟩] at hf
 unfold zvlr at hw
 rw [hf,hk,y00 hj] at hw
 simpa using hw
theorem zf4q {c:Clu} {tr:List Tri} {ix:List Ixe} {t k:Int} {s:Rnd} {V:List Int} {N:List Ins} (q:TR c tr ix t k s V N) (hsv:ValidC s.c) (hg:s.c.g.l.map gl=c.g.l.map gl) {C:Cmd} (hC:C ∈ s.o) (hk:C.kind=1) :
  ∃ (p:Nat) (hp:p<s.c.i.l.length) (m:Nat) (hm:m<s.c.g.l.length),z092 s.c.i.l C.id=p∧s.c.i.l[p].grp=m∧zvlr tr m C.art t=false∧alwB ix ⟨s.c.g.l[m].ns,s.c.g.l[m].im,C.art⟩=true:=by
 rw [q.o.mem_iff,y01] at hC
 rcases hC with h|h
 ·obtain ⟨id,_,rfl⟩:=y06.1 h
  simp only at hk; omega
 ·obtain ⟨y,hy,rfl⟩:=y06.1 h
  obtain ⟨a1,a2,a3,a4,a5,a6,a7⟩:=q.ni y hy
  have hm:y ∈ s.c.i.l:=by rw [q.l]; exact y01.2 (.inr hy)
  obtain ⟨p,hp,rfl⟩:=y04 hm
  obtain ⟨m,hmm⟩:=Int.eq_ofNat_of_zero_le a3
  have hml:m<s.c.g.l.length:=by have:=(hsv.i p hp).1.g1; omega
  rw [hmm,zxrl (d:=s.c) hg.symm] at a7
  refine ⟨p,hp,m,hml,zvud (zyak hsv).d hp,hmm,?_⟩
  unfold choC grAt at a7
  rw [if_pos (by omega),y0a,y00 hml] at a7
  have hb:=List.find?_some a7
  unfold choB at hb
  simp only [y0b,Bool.not_eq_true'] at hb
  exact hb
noncomputable def z5ly:Tbl:=addT 12 (.new cScn) (addT 25 (.pure cRnd) (addT 30 (.pure (cCi fun c i => .int .i64 (z092 c.i.l i))) (addT 31 (.pure zpn3) (addT 21 (.pure cTru) tbl0))))
theorem z9e9:z5ly 12 = .new cScn:=by simp [z5ly]
theorem zvx4:z5ly 25 = .pure cRnd:=by simp [z5ly]
theorem zith:z5ly 30 = .pure (cCi fun c i => .int .i64 (z092 c.i.l i)):=by simp [z5ly]
theorem zls9:z5ly 31 = .pure zpn3:=by simp [z5ly]
theorem zmit:z5ly 21 = .pure cTru:=by simp [z5ly]
theorem zmdb:z5ly.Sound P:=z0rp zr8u (z0rp zclv (z0rp zg2n (z0rp zwim (z0rp (zi1x zul1) zr5o))))
theorem zsez {x:Cmd}:oneC 1 false (cmC x)=some (.int .i64 x.kind):=rfl
theorem ziwb {x:Cmd}:oneC 1 false ((cmC x).drop 1)=some (.int .i64 x.id):=rfl
theorem zeam {x:Cmd}:oneC 32 true ((cmC x).drop 2)=some (.agg (dgC x.art)):=by
 have h:(cmC x).drop 2=dgC x.art:=rfl
 rw [h]; simp [oneC,z1t1,List.take_of_length_le]
noncomputable def zdhq (o:List DV) (w:Tp) (R:Rnd) (i:Nat):St:=a8S0 (.mp 3 8 0) (.mp 4 3 0) (cmV R.o) (.int .i64 i) [.cells o,.cells (tpC w),.cells o,.cells o,.cells (clC R.c)]
noncomputable def z9b2 (o:List DV) (w:Tp) (R:Rnd) (i p:Nat) (g:Grp) (j:Nat):St:=a8S1 (.mp 3 8 0) (.mp 4 3 0) (cmV R.o) (.int .i64 i) (.int .i64 p) (.int .i64 j) [.cells o,.cells (tpC w),.cells o,.cells o,.cells (clC R.c),.cells (grC g)]
theorem zolq (x:Nl):Runs z5ly a8 [x.dv] (.bool true):=by
 refine ⟨?_⟩
 obtain ⟨u,hu⟩ : ∃ u,tp0 x 300=u:=⟨_,rfl⟩
 have hua:u.at_=0:=by rw [← hu]; rfl
 have hS:=fun n=>zd92 (x:=x) (n:=n)
 rw [hu] at hS
 obtain ⟨a,hf⟩:=ztew u hua
 have hsr:=z4vf hf
 have htri:=zins hf
 obtain ⟨s,hs⟩ : ∃ s,(scnV u).1=s:=⟨_,rfl⟩
 rw [hs] at hf hS
 obtain ⟨w,hw⟩ : ∃ w,(scnV u).2=w:=⟨_,rfl⟩
 rw [hw] at hS
 have hR:=zunp hf.ok
 have hxx:xiC a.x=[.int .i64 0,isV s.x]:=by unfold xiC; rw [hf.x0,hf.x]
 rw [hxx,hf.tr,hf.gr,hf.c,hf.t] at hR
 have hx:=zkx7 x
 have ho8:scnC s=o8 s.c (.int .i64 0) (isV s.x) (trV s.tr) (liV s.gr) (.int .i64 s.t):=rfl
 rw [ho8] at hS
 have s8:=fun H=>zws3 (c:=s.c) (a := .int .i64 0) (b:=isV s.x) (d:=trV s.tr) (e:=liV s.gr) (f := .int .i64 s.t) (H:=H) (id:=3) rfl (zcwq _) (zq54 _) (zj6i _) rfl
 have l3:oneC 2 true ((o8 s.c (.int .i64 0) (isV s.x) (trV s.tr) (liV s.gr) (.int .i64 s.t)).drop 3)=some (.agg [.int .i64 0,isV s.x]):=rfl
 have l5:oneC 1 false ((o8 s.c (.int .i64 0) (isV s.x) (trV s.tr) (liV s.gr) (.int .i64 s.t)).drop 5)=some (trV s.tr):=rfl
 have l6:oneC 1 false ((o8 s.c (.int .i64 0) (isV s.x) (trV s.tr) (liV s.gr) (.int .i64 s.t)).drop 6)=some (liV s.gr):=rfl
 have l7:oneC 1 false ((o8 s.c (.int .i64 0) (isV s.x) (trV s.tr) (liV s.gr) (.int .i64 s.t)).drop 7)=some (.int .i64 s.t):=rfl
 have hlo : ∀ c a b d e f,(o8 c a b d e f).length=8:=fun c a b d e f=>rfl
 have hpc:=fun c=>zy11 c
 have hpv:=zm03 s.x
 have hpt:=znen s.tr
 have hpg:=z4yh s.gr
 obtain ⟨R,hRR⟩ : ∃ R,rndP a.tr.l a.x.e.l a.gr.l s.t s.c=R:=⟨_,rfl⟩
 rw [hRR] at hR
 have hst3 : ∀ (h:List AObj) (id:Nat),zy6o h id 3 0 (.agg (clC R.c)) (some [.nils,.nils,.int .i64 0])=some (.junk,h.set id (.cells (clC R.c))):=fun h id=>zfc1 rfl rfl (by simp [clC,z4ja])
 simp (disch:=first|omega|simp<;>omega|fail) [-zA,-zB,-zC,-zD,-zE,a8,z9e9,hS,hx,s8,o8_3,l3,l5,l6,l7,hlo,zvx4,hR,rdV,hpc,hpv,hpt,hpg,hst3]
 have hRI:=ztza hf.v hf.n hf.w hf.i (tr:=a.tr.l) (ix:=a.x.e.l) (t:=a.t) (gr:=a.gr.l) (k:=a.c.g.l.length) (y05 _)
 have hRp:rndP a.tr.l a.x.e.l a.gr.l a.t a.c=R:=by rw [← hRR,← hf.t,← hf.c]
 have hRS:rndS a.tr.l a.x.e.l a.t a.c a.c.g.l.length (rnd0 a.gr.l a.t a.c)=R:=hRp
 rw [hRS] at hRI
 obtain ⟨W,N,q⟩:=z6bz (tr:=a.tr.l) (ix:=a.x.e.l) (gr:=a.gr.l) hf.v hf.n hf.w hf.i hf.tm
 rw [hRp] at q
 have hn3:=hf.n
 have hcs:=fun C hC hk=>zf4q (C:=C) q hRI.v hRI.g hC hk
 have hob:=hRI.o
 have hOl:R.o.length≤100000:=by omega
 have hlO:=fun H=>z5ip hOl H
 have hpO:=zx70 R.o
 have hlT : ∀ H,lenD H (trV s.tr)=some (.int .i64 a.tr.l.length):=fun H=>by rw [← hf.tr]; exact zupj
 have hTi : ∀ (H:List AObj) (j:Nat) (hj:j<a.tr.l.length),zpsc H 35 (trV s.tr) j=some (.ref (trC a.tr.l[j])):=fun H j hj=>by rw [← hf.tr]; exact zalo zezj hj
 have hTb:=a.tr.b
 have hl3:(clC R.c).length=3:=rfl
 have hl2:oneC 3 true (clC R.c)=some (.agg (clC R.c)):=rfl
 have hi0:oneC 1 false (clC R.c)=some (R.c.g.dv 6 grC):=rfl
 have hi1:oneC 1 false ((clC R.c).drop 1)=some (R.c.i.dv 37 inC):=rfl
 obtain ⟨o,ho⟩ : ∃ o,o8 s.c (.int .i64 0) (isV s.x) (trV s.tr) (liV s.gr) (.int .i64 s.t)=o:=⟨_,rfl⟩
 have hol:o.length=8:=by rw [← ho]; rfl
 have hop:zbao o=true:=by rw [← ho]; exact zpl6 s
 rw [ho] at l3 l5 l7 ⊢
 have hsg : ∀ (g:Grp) (h:List AObj) (id:Nat) (z:List DV),z.length=6→zy6o h id 6 0 (.agg (grC g)) (some z)=some (.junk,h.set id (.cells (grC g))):=fun g h id z hz=>zfc1 (zry4 g) hz (by simp [grC,z4ja])
 refine zlm5 (zdhq o w R) (fun k=>R.o.length-k) (fun k=>k≤R.o.length) 0 (z515 (by simp (disch:=first|omega|simp<;>omega|fail) [-zA,-zB,-zC,-zD,-zE,zdhq,a8S0]) (by simp (disch:=first|omega|simp<;>omega|fail) [-zA,-zB,-zC,-zD,-zE,zdhq,a8S0])) (Nat.zero_le _) (fun i hi => ?_)
 simp only [zdhq]
 by_cases h:i<R.o.length
 case neg =>
  have h':¬ (i:Int)<R.o.length:=by omega
  simp (disch:=first|omega|simp<;>omega|fail) [-zA,-zB,-zC,-zD,-zE,a8L0,a8S0,h,h',hlO,zmit,cTru]
 have h':(i:Int)<R.o.length:=by omega
 have hix:=fun H=>zg1b hOl H h
 have hcs:=hcs _ (y07 h)
 obtain ⟨C,hC⟩ : ∃ C,R.o[i]=C:=⟨_,rfl⟩
 rw [hC] at hix hcs
 by_cases hk:C.kind=1
 case neg =>
  simp (disch:=first|omega|simp<;>omega|fail) [-zA,-zB,-zC,-zD,-zE,a8L0,a8S0,h,h',hlO,hix,zfq1,zsez,hk]
  exact ⟨i+1,z515 (by simp (disch:=first|omega|simp<;>omega|fail) [-zA,-zB,-zC,-zD,-zE,zdhq,a8S0]) (by simp (disch:=first|omega|simp<;>omega|fail) [-zA,-zB,-zC,-zD,-zE,zdhq,a8S0]),by omega,by omega⟩
 obtain ⟨p,hp,m,hm,f1,f2,f3,f4⟩:=hcs hk
 have hfi:=z3mn (g:=fun c i => .int .i64 (z092 c.i.l i)) (x:=R.c) (a:=C.id)
 simp only [f1] at hfi
 have hpn:¬ (p:Int)<0:=by omega
 have hip:=fun H=>zalo (x:=R.c.i) (h:=H) z6gw hp
 have hgp:=fun H=>zalo (x:=R.c.g) (h:=H) zry4 hm
 have hwn:=fun j hj h1 h2=>zl8g htri f3 (j:=j) hj h1 h2
 rw [hf.t] at hwn
 have hal:=z40z (x:=a.x) (r:=⟨R.c.g.l[m].ns,R.c.g.l[m].im,C.art⟩)
 rw [← z3po hsr,f4,hxx] at hal
 obtain ⟨y,hy⟩ : ∃ y,R.c.i.l[p]=y:=⟨_,rfl⟩
 rw [hy] at hip f2
 obtain ⟨g,hg⟩ : ∃ g,R.c.g.l[m]=g:=⟨_,rfl⟩
 rw [hg] at hgp hal
 have hrq:DV.str g.ns :: .str g.im::dgC C.art=rqC ⟨g.ns,g.im,C.art⟩:=rfl
 obtain ⟨Q,hQ⟩ : ∃ Q:Rqs,(⟨g.ns,g.im,C.art⟩:Rqs)=Q:=⟨_,rfl⟩
 rw [hQ] at hal hrq
 have hpr:zbao (rqC Q)=true:=zhqv Q
 simp (disch:=first|omega|simp<;>omega|fail) [-zA,-zB,-zC,-zD,-zE,a8L0,a8S0,h,h',hlO,hix,zfq1,zsez,ziwb,zeam,hk,hl3,hl2,hi0,hi1,zith,hfi,hpc,hpn,hip,zyv0,f2,hgp,zuce,hsg,l3,hol,zry4,zn7v,zuiq,hrq,zls9,hal,hpv,hpr]
 refine zlm5 (z9b2 o w R i p g) (fun j=>a.tr.l.length-j) (fun j=>j≤a.tr.l.length) 0 (z515 (by simp (disch:=first|omega|simp<;>omega|fail) [-zA,-zB,-zC,-zD,-zE,z9b2,a8S1]) (by simp (disch:=first|omega|simp<;>omega|fail) [-zA,-zB,-zC,-zD,-zE,z9b2,a8S1])) (Nat.zero_le _) (fun j hj => ?_)
 simp only [z9b2]
 by_cases hjl:j<a.tr.l.length
 case neg =>
  have hjl':¬ (j:Int)<a.tr.l.length:=by omega
  simp (disch:=first|omega|simp<;>omega|fail) [-zA,-zB,-zC,-zD,-zE,a8L1,a8S1,hjl,hjl',l5,hol,hlT]
  exact ⟨i+1,zju2 (tail:=[.cells (grC g)]) (by simp (disch:=first|omega|simp<;>omega|fail) [-zA,-zB,-zC,-zD,-zE,zdhq,a8S0]) (by simp (disch:=first|omega|simp<;>omega|fail) [-zA,-zB,-zC,-zD,-zE,zdhq,a8S0]) (by simp (disch:=first|omega|simp<;>omega|fail) [-zA,-zB,-zC,-zD,-zE]) (by simp (disch:=first|omega|simp<;>omega|fail) [-zA,-zB,-zC,-zD,-zE,belowL,Am.below,z8b8 _ _ hpO]) (by simp (disch:=first|omega|simp<;>omega|fail) [-zA,-zB,-zC,-zD,-zE,zlf2,zmq5 _ _ (zs7w w),zmq5 _ _ (zy11 R.c),zmq5 _ _ hop]),by omega,by omega⟩
 have hjl':(j:Int)<a.tr.l.length:=by omega
 have hti:=fun H=>hTi H j hjl
 have hwn:=hwn j hjl
 obtain ⟨v,hv⟩ : ∃ v,a.tr.l[j]=v:=⟨_,rfl⟩
 rw [hv] at hti hwn
 by_cases e1:v.grp=m
 case neg =>
  simp (disch:=first|omega|simp<;>omega|fail) [-zA,-zB,-zC,-zD,-zE,a8L1,a8S1,hjl,hjl',l5,hol,hlT,hti,z7fr,zezj,hl3,hi1,hip,z6gw,zyv0,f2,e1]
  exact ⟨j+1,z515 (by simp (disch:=first|omega|simp<;>omega|fail) [-zA,-zB,-zC,-zD,-zE,z9b2,a8S1]) (by simp (disch:=first|omega|simp<;>omega|fail) [-zA,-zB,-zC,-zD,-zE,z9b2,a8S1]),by omega,by omega⟩
 by_cases e2:v.art=C.art
 case neg =>
  simp (disch:=first|omega|simp<;>omega|fail) [-zA,-zB,-zC,-zD,-zE,a8L1,a8S1,hjl,hjl',l5,hol,hlT,hti,z7fr,z9kc,zezj,hl3,hi1,hip,z6gw,zyv0,f2,e1,hix,zfq1,zeam,e2]
  exact ⟨j+1,z515 (by simp (disch:=first|omega|simp<;>omega|fail) [-zA,-zB,-zC,-zD,-zE,z9b2,a8S1]) (by simp (disch:=first|omega|simp<;>omega|fail) [-zA,-zB,-zC,-zD,-zE,z9b2,a8S1]),by omega,by omega⟩
 have e3:=hwn e1 e2
 simp (disch:=first|omega|simp<;>omega|fail) [-zA,-zB,-zC,-zD,-zE,a8L1,a8S1,hjl,hjl',l5,l7,hol,hlT,hti,z7fr,z9kc,zobw,zezj,hl3,hi1,hip,z6gw,zyv0,f2,e1,hix,zfq1,zeam,e2,e3]
 exact ⟨j+1,z515 (by simp (disch:=first|omega|simp<;>omega|fail) [-zA,-zB,-zC,-zD,-zE,z9b2,a8S1]) (by simp (disch:=first|omega|simp<;>omega|fail) [-zA,-zB,-zC,-zD,-zE,z9b2,a8S1]),by omega,by omega⟩
namespace evictorAllowed
theorem law_holds (dvs) (h:Ty.Args [.sl (.int .i64)] dvs):Am.Sem P 8 dvs (.bool true):=by
 obtain ⟨d1,l1,rfl,h1,rfl⟩:=h
 obtain ⟨x,_,hx⟩:=zjzy h1
 cases hx
 exact zljw mix zmdb Tryz.func8 zwbl (zolq x)
end evictorAllowed
end
end Go.Proofs.YtaihpefemjlilaaGreatDoor
