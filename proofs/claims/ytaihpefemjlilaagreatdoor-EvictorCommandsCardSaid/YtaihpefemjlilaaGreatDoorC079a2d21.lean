/-
  11 texts of mine in one.
-/
import Derived.Test.YtaihpefemjlilaaGreatDoorC16c54cbb
import Derived.Test.YtaihpefemjlilaaGreatDoorC3c36ba98
import Derived.Test.YtaihpefemjlilaaGreatDoorCab99a2e3
import Derived.Test.YtaihpefemjlilaaGreatDoorC44d96b08
import Derived.Test.YtaihpefemjlilaaGreatDoorCd8ba28c9
import Derived.Test.YtaihpefemjlilaaGreatDoorC746836e8
import Derived.Test.YtaihpefemjlilaaGreatDoorC7bdaf093
import Derived.Test.YtaihpefemjlilaaGreatDoorC07d66714
set_option maxRecDepth 20000
set_option maxHeartbeats 4000000
open List renaming map_take → zA, map_drop → zB, map_set → zC, map_append → zD, drop_one → zE
set_option linter.unusedSimpArgs false
set_option linter.unusedVariables false
set_option maxRecDepth 20000
namespace Go.Proofs.YtaihpefemjlilaaGreatDoor
open Go Go.Am
structure RI (gs:List (List UInt8 × List UInt8 × Int × Int × Int × List Dg)) (s:Rnd) (B O:Nat):Prop where
 v:ValidC s.c
 g:s.c.g.l.map gl=gs
 b:s.c.i.l.length≤B
 o:s.o.length≤O
section
variable {gs:List (List UInt8 × List UInt8 × Int × Int × Int × List Dg)} {s:Rnd} {B O:Nat} {t:Int}
theorem zzee (h:RI gs s B O) {B' O':Nat} (hb:B≤B') (ho:O≤O'):RI gs s B' O':=⟨h.v,h.g,by have:=h.b; omega,by have:=h.o; omega⟩
theorem z7tf (h:RI gs s B O) (id:Int):RI gs (zyao t s id) B (O+1):=by
 by_cases h0:(z5wo s.c id t 3).2=0
 ·obtain ⟨i,hi,hf⟩:=zkzr h0
  have ht:zcie t:=by
   by_cases q:zcie t
   ·exact q
   ·unfold z5wo at h0; rw [if_pos (.inr q)] at h0; simp at h0
  have hst:s.c.i.l[i].state≠3:=by
   unfold z5wo at h0
   rw [if_neg (fun q=>q.elim (fun q=>q h.v) (fun q=>q ht)),hf,if_neg (by omega),Int.toNat_natCast,List.getElem?_eq_getElem hi] at h0
   intro e
   simp [may,e] at h0
  have hid:s.c.i.l[i].id=id:=by
   obtain ⟨j,hj,e,p1,_⟩:=ziel (p:=fun x:Ins=>decide (x.id=id)) (l:=s.c.i.l) (by show (0:Int)≤z092 s.c.i.l id; rw [hf]; omega)
   have e:z092 s.c.i.l id=j:=e
   rw [hf] at e
   obtain rfl:i=j:=by omega
   simpa using p1
  have hv:=(z1s1 (gs:=gs) (s:=s) (l:=s.c.i.l) (n:=s.c.next) (o:=s.o) ⟨h.v,h.g,rfl,rfl,rfl⟩ ht (List.getElem_mem hi) hst).1
  rw [hid] at hv
  exact ⟨hv.v,hv.g,by rw [hv.i,zo9a]; exact h.b,by rw [hv.o]; simp [zzoh]; exact h.o⟩
 ·have e:zyao t s id=s:=by unfold zyao; rw [if_neg h0]
  rw [e]; exact zzee h (Nat.le_refl _) (by omega)
theorem z165 : ∀ {V:List Int} {s:Rnd} {O:Nat},RI gs s B O→RI gs (V.foldl (zyao t) s) B (O+V.length)
 | [],s,O,h=>h
 | a::V,s,O,h=>by
  have:=z165 (V:=V) (z7tf (t:=t) h a)
  rw [List.foldl_cons,List.length_cons]
  exact zzee this (Nat.le_refl _) (by omega)
theorem z3da (h:RI gs s B O) {tr:List Tri} {ix:List Ixe} {k:Int}:RI gs (zusy tr ix t k s).2 (B+1) (O+1):=by
 cases hb:(zusy tr ix t k s).1 with
 | false=>rw [z0v2 hb]; exact zzee h (by omega) (by omega)
 | true =>
  have hg:=zu5r hb
  cases hc:choC tr ix s.c k t with
  | none=>unfold zusy at hb; rw [hc] at hb; simp at hb
  | some d =>
   have hs:zusy tr ix t k s=if (z4wu s.c k d t).2.2=0 then (true,⟨(z4wu s.c k d t).1,s.o++[⟨1,(z4wu s.c k d t).2.1,d⟩]⟩) else (false,s):=by unfold zusy; rw [hc]
   by_cases h0:(z4wu s.c k d t).2.2=0
   ·rw [if_pos h0] at hs
    have hst:=h0
    unfold z4wu at hst
    split at hst
    ·simp at hst
    rename_i c1
    split at hst
    ·simp at hst
    rename_i c2
    split at hst
    ·simp at hst
    rename_i c3
    have ht:zcie t:=Classical.byContradiction fun q=>c1 (.inr (.inr q))
    have hd:d≠dg0:=fun q=>c1 (.inr (.inl q))
    obtain ⟨K,rfl⟩ : ∃ K:Nat,k=K:=⟨k.toNat,by omega⟩
    have hgl:gs.length=s.c.g.l.length:=by rw [← h.g]; simp
    have hv:=(zd62 (gs:=gs) (s:=s) (l:=s.c.i.l) (n:=s.c.next) (o:=s.o) ⟨h.v,h.g,rfl,rfl,rfl⟩ ht (k:=K) (by omega) hd (by omega) (by omega)).2.2.1
    have hv:=hv (s.o++[⟨1,(z4wu s.c K d t).2.1,d⟩])
    rw [hs]
    exact ⟨hv.v,hv.g,by rw [hv.i]; simp; exact h.b,by simp; exact h.o⟩
   ·rw [if_neg h0] at hs; rw [hs] at hb; simp at hb
theorem z6og {tr:List Tri} {ix:List Ixe} {k want:Int} : ∀ {m:Nat} {s:Rnd} {B O:Nat},RI gs s B O→RI gs (zinu tr ix t k want m s) (B+m) (O+m)
 | 0,s,B,O,h=>h
 | m+1,s,B,O,h=>by
  unfold zinu
  split
  ·exact zzee (z6og (m:=m) (z3da h)) (by omega) (by omega)
  ·exact zzee h (by omega) (by omega)
theorem zf4b (h:RI gs s B O) {tr:List Tri} {ix:List Ixe} {k want:Int}:RI gs (filS tr ix t k want s) (B+want.toNat) (O+want.toNat):=by
 unfold filS
 exact zzee (z6og h) (by omega) (by omega)
end
end Go.Proofs.YtaihpefemjlilaaGreatDoor
set_option linter.unusedSimpArgs false
set_option linter.unusedVariables false
set_option maxRecDepth 20000
namespace Go.Proofs.YtaihpefemjlilaaGreatDoor
open Go Go.Am
section
variable {gs:List (List UInt8 × List UInt8 × Int × Int × Int × List Dg)} {s:Rnd} {B O:Nat} {t:Int}
theorem zux2 (h:RI gs s B O) {k:Int}:RI gs (grS1 t k s) B (O+B):=by
 have h1:=zt4h (k:=k) (G:=znqs s.c k) (b:=false) (l:=s.c.i.l)
 have:=h.b
 exact zzee (z165 (t:=t) (V:=stgL k (znqs s.c k) false s.c.i.l) h) (Nat.le_refl _) (by omega)
theorem znba (h:RI gs s B O) {k want:Int}:RI gs (grS2 t k want s) B (O+B):=by
 have h1:=zt4h (k:=k) (G:=znqs s.c k) (b:=true) (l:=s.c.i.l)
 have:=h.b
 have h2:((stgL k (znqs s.c k) true s.c.i.l).reverse.take ((znqs s.c k).length-want).toNat).length≤B:=by
  rw [List.length_take,List.length_reverse]; omega
 exact zzee (z165 (t:=t) (V:=(stgL k (znqs s.c k) true s.c.i.l).reverse.take ((znqs s.c k).length-want).toNat) h) (Nat.le_refl _) (by omega)
theorem zfti (h:RI gs s B O) {k:Int}:RI gs (grS3 t k s) B (O+3*B):=by
 have h1:=z9e8 (c:=s.c) (k:=k)
 have:=h.b
 have h2:((zu3j s.c k).take (z17v s.c k).toNat).length≤3*B:=by rw [List.length_take]; omega
 exact zzee (z165 (t:=t) (V:=(zu3j s.c k).take (z17v s.c k).toNat) h) (Nat.le_refl _) (by omega)
theorem z714 (h:RI gs s B O) {tr:List Tri} {ix:List Ixe} {k want:Int}:RI gs (grpS tr ix t k want s) (B+want.toNat) (O+5*B+want.toNat) :=
 zzee (zf4b (zfti (znba (zux2 h)))) (by omega) (by omega)
theorem z8wq (h:RI gs s B O) (hB:B≤19) (hO:O≤20000) {k:Nat} {want:Int} (hk:k<s.c.g.l.length) (hw:s.c.g.l[k].want=want):GrOK t s k want:=by
 obtain ⟨q,_⟩:=h.v.g k hk
 have w0:=q.w0
 have w1:=q.w1
 have hb:=h.b
 have ho:=h.o
 refine ⟨hk,hw,by omega,by omega,by omega,by omega,?_⟩
 have r:=znba (t:=t) (k:=k) (want:=want) (zux2 (t:=t) (k:=k) h)
 exact zt0b r.v (by have:=r.b; omega)
end
theorem z4ua {c d:Clu} (h:d.g.l.map gl=c.g.l.map gl) {k:Nat} (hk:k<c.g.l.length) : ∃ hk':k<d.g.l.length,d.g.l[k].want=ze6v c k:=by
 have hl:d.g.l.length=c.g.l.length:=by have:=congrArg List.length h; simpa using this
 refine ⟨by omega,?_⟩
 have e:gl (d.g.l[k]'(by omega))=gl c.g.l[k]:=by
  have:=List.getElem_of_eq h (i:=k) (by simp; omega)
  simpa using this
 unfold ze6v
 rw [List.getElem?_eq_getElem hk]
 simp only [gl,Prod.mk.injEq] at e
 exact e.2.2.1
theorem z3g1 {c:Clu} {s0:Rnd} {tr:List Tri} {ix:List Ixe} {t:Int} {B0 O0:Nat} (h0:RI (c.g.l.map gl) s0 B0 O0) (hw : ∀ g ∈ c.g.l,g.want≤3) : ∀ {k:Nat},k≤c.g.l.length→k≤3→B0+9≤19→RI (c.g.l.map gl) (rndS tr ix t c k s0) (B0+3*k) (O0+100*k)
 | 0,_,_,_=>h0
 | k+1,hk,h3,hB=>by
  have ih:=z3g1 (tr:=tr) (ix:=ix) (t:=t) h0 hw (k:=k) (by omega) (by omega) hB
  have hwk:ze6v c k≤3:=by
   unfold ze6v
   rw [List.getElem?_eq_getElem (show k<c.g.l.length by omega)]
   exact hw _ (List.getElem_mem _)
  exact zzee (z714 (tr:=tr) (ix:=ix) (t:=t) (k:=k) (want:=ze6v c k) ih) (by omega) (by omega)
theorem zwds {c:Clu} (hv:ValidC c):ValidC c.clone :=
 zqis hv (y:=c.i.clone) rfl fun i h1 h2=>⟨rfl,(hv.i i h2).1⟩
theorem zpyu {c:Clu} (hv:ValidC c) {gr:List Int} {t:Int}:RI (c.g.l.map gl) (rnd0 gr t c) c.i.l.length c.i.l.length:=by
 have h0:RI (c.g.l.map gl) ⟨c.clone,[]⟩ c.i.l.length 0:=⟨zwds hv,z9hp _,Nat.le_refl _,Nat.le_refl _⟩
 have hL:=z9p7 (gr:=gr) (t:=t) (l:=c.i.l) (j:=0)
 exact zzee (z165 (t:=t) (V:=ze9z c.i.l 0 gr t) h0) (Nat.le_refl _) (by omega)
theorem zrko {a:RdA} (hv:ValidC a.c) (hn:a.c.g.l.length≤3) (hw : ∀ g ∈ a.c.g.l,g.want≤3) (hi:a.c.i.l.length≤10) (hch:ChOK a.x a.tr) (hov:OvOK (a.c,a.gr,a.t)):RdOK a:=by
 refine ⟨hch,hov,by omega,fun k hk => ?_⟩
 have h0:=zzee (zpyu (gr:=a.gr.l) (t:=a.t) hv) hi hi
 have h1:=z3g1 (tr:=a.tr.l) (ix:=a.x.e.l) (t:=a.t) h0 hw (k:=k) (by omega) (by omega) (by decide)
 obtain ⟨p,q⟩:=z4ua h1.g hk
 exact z8wq h1 (by omega) (by omega) p q
def Sml (c:Clu) (n:Nat):Prop:=(∀ x ∈ c.g.l,x.want≤3)∧c.g.l.length≤n
theorem zipw {c:Clu} {g:Grp} {n:Nat} (h:(zxl9 c g).2=0) (hc:Sml c n) (hn:n≤100) (hg:g.want≤3):Sml (zxl9 c g).1 (n+1):=by
 obtain ⟨h1,h2⟩:=hc
 unfold zxl9 at h ⊢
 split at h
 ·simp at h
 rename_i c1
 rw [if_neg c1]
 split at h
 ·rename_i c2
  rw [if_pos c2]
  split at h
  ·simp at h
  rename_i c3
  rw [if_neg c3]
  have hol:(own (c.g.l++[g])).l=c.g.l++[g]:=z3e9 (by simp; omega)
  refine ⟨fun x hx => ?_,by show (own _).l.length≤_; rw [hol]; simp; omega⟩
  have hx:x ∈ (own (c.g.l++[g])).l:=hx
  rw [hol] at hx
  rcases List.mem_append.1 hx with hx|hx
  ·exact h1 x hx
  ·obtain rfl:x=g:=by simpa using hx
   exact hg
 ·rename_i c2
  rw [if_neg c2]
  have hol:(own (c.g.l.set (z9w0 c.g.l g.ns g.im).toNat g)).l=c.g.l.set (z9w0 c.g.l g.ns g.im).toNat g:=z3e9 (by simp; omega)
  refine ⟨fun x hx => ?_,by show (own _).l.length≤_; rw [hol]; simp; omega⟩
  have hx:x ∈ (own (c.g.l.set (z9w0 c.g.l g.ns g.im).toNat g)).l:=hx
  rw [hol] at hx
  rcases List.mem_or_eq_of_mem_set hx with hx|hx
  ·exact h1 x hx
  ·rw [hx]; exact hg
theorem zk8v : ∀ (k:Nat) (c:Clu) (t:Tp) (n:Nat),Sml c n→n+k≤100→Sml (zp0i k c t).1 (n+k)
 | 0,c,t,n,h,_=>h
 | k+1,c,t,n,h,hn=>by
  have hw:(zlt0 t zdmg).1.want≤3:=by
   have:=z2s7 (t.adv 2) (n:=4) (by decide)
   show tpN (t.adv 2) 4≤3
   omega
  have h1:Sml (dOne c t) (n+1):=by
   unfold dOne
   split
   ·rename_i q; exact zipw q h (by omega) hw
   ·exact ⟨h.1,by have:=h.2; omega⟩
  have:=zk8v k (dOne c t) (zlt0 t zdmg).2 (n+1) h1 (by omega)
  show Sml (zp0i k (dOne c t) (zlt0 t zdmg).2).1 (n+(k+1))
  rw [show n+(k+1)=n+1+k by omega]
  exact this
theorem z7ak (t:Tp) (m:Int):Sml (zcpt t m).1 2:=by
 have h0:Sml (cl0 t) 0:=⟨fun x hx=>by simp [cl0,nilG] at hx,by simp [cl0,nilG]⟩
 have hz:=z2s7 (t.adv 1) (n:=2) (by decide)
 have hz0:=z4rs (t.adv 1) 2
 have h1:=zk8v ((tpN (t.adv 1) 2).toNat+1) (cl0 t) (t.adv 2) 0 h0 (by omega)
 exact ⟨h1.1,by have:=h1.2; show (clD t).1.g.l.length≤2; unfold clD; omega⟩
end Go.Proofs.YtaihpefemjlilaaGreatDoor
set_option linter.unusedSimpArgs false
set_option linter.unusedVariables false
set_option maxRecDepth 20000
namespace Go.Proofs.YtaihpefemjlilaaGreatDoor
open Go Go.Am
theorem zpl6 (s:Scn):zbao (scnC s)=true:=by
 simp only [scnC,zbao,zyp8,z1vd,zcha,zm03,znen,z4yh,Bool.and_self]
noncomputable def cScn:List DV→Nat→Option (DV × List AObj):=conN (fun _=>True) (fun x:Nl=>[x.dv]) (fun x=>(.tup [.agg (scnC (scnV (tp0 x 300)).1),.mp 1 2 0],[.cells (scnC (scnV (tp0 x 300)).1),.cells (tpC (scnV (tp0 x 300)).2),.cells (scnC (scnV (tp0 x 300)).1)]))
theorem zd92 {x:Nl} {n:Nat}:cScn [x.dv] n=some (.tup [.agg (scnC (scnV (tp0 x 300)).1),.mp (n+1) 2 0],[.cells (scnC (scnV (tp0 x 300)).1),.cells (tpC (scnV (tp0 x 300)).2),.cells (scnC (scnV (tp0 x 300)).1)]):=by
 have:=zqtp (A:=fun _=>True) (f:=fun x:Nl=>[x.dv]) (g:=fun x=>(DV.tup [.agg (scnC (scnV (tp0 x 300)).1),.mp 1 2 0],[AObj.cells (scnC (scnV (tp0 x 300)).1),.cells (tpC (scnV (tp0 x 300)).2),.cells (scnC (scnV (tp0 x 300)).1)])) (fun a b e=>by
  simp only [List.cons.injEq,and_true] at e
  rw [z2kw e]) x trivial n
 rw [cScn,this]
 simp [shD,shO,shL,zj45,zpl6,zs7w,Nat.add_comm]
theorem zr8u:(Con.new cScn).Sound P 12:=z3ld (fun x _=>by simp [zbao,zkx7]) fun x _=>zv22 mix zqvq Tryz.func12 zqkh (zfog x)
noncomputable def cRnd:List DV→Option DV:=con RdOK (fun a=>[.agg (clC a.c),.agg (xiC a.x),a.tr.dv 35 trC,a.gr.dv,.int .i64 a.t]) (fun a=>rdV (rndP a.tr.l a.x.e.l a.gr.l a.t a.c))
theorem zunp {a:RdA} (h:RdOK a):cRnd [.agg (clC a.c),.agg (xiC a.x),a.tr.dv 35 trC,a.gr.dv,.int .i64 a.t]=some (rdV (rndP a.tr.l a.x.e.l a.gr.l a.t a.c)) :=
 zzno (A:=RdOK) (f:=fun a=>[.agg (clC a.c),.agg (xiC a.x),a.tr.dv 35 trC,a.gr.dv,.int .i64 a.t]) (g:=fun a=>rdV (rndP a.tr.l a.x.e.l a.gr.l a.t a.c)) (by
  rintro ⟨a1,a2,a3,a4,a5⟩ ⟨b1,b2,b3,b4,b5⟩ e
  simp only [List.cons.injEq,DV.agg.injEq,DV.int.injEq,and_true,true_and] at e
  rw [zh7t e.1,zt7p e.2.1,z47i e.2.2.1,z2kw e.2.2.2.1,e.2.2.2.2]) a h
theorem zclv:(Con.pure cRnd).Sound P 25:=z2au fun a h=>z81i a h
end Go.Proofs.YtaihpefemjlilaaGreatDoor
set_option linter.unusedSimpArgs false
set_option linter.unusedVariables false
set_option maxRecDepth 20000
namespace Go.Proofs.YtaihpefemjlilaaGreatDoor
open Go Go.Am
theorem zxrl {tr:List Tri} {ix:List Ixe} {c d:Clu} {k:Nat} {t:Int} (h:c.g.l.map gl=d.g.l.map gl):choC tr ix c k t=choC tr ix d k t:=by
 have hl:c.g.l.length=d.g.l.length:=by have:=congrArg List.length h; simpa using this
 unfold choC grAt
 rw [if_pos (by omega),if_pos (by omega),Int.toNat_natCast]
 by_cases hk:k<c.g.l.length
 ·rw [List.getElem?_eq_getElem hk,List.getElem?_eq_getElem (show k<d.g.l.length by omega)]
  have e:gl c.g.l[k]=gl (d.g.l[k]'(by omega)):=by
   have:=List.getElem_of_eq h (i:=k) (by simp; omega)
   simpa using this
  simp only [gl,Prod.mk.injEq] at e
  obtain ⟨e1,e2,_,_,_,e6⟩:=e
  show choF tr ix c.g.l[k] k t=choF tr ix (d.g.l[k]'(by omega)) k t
  unfold choF
  rw [e6]
  have hb:choB tr ix c.g.l[k] k t=choB tr ix (d.g.l[k]'(by omega)) k t:=by
   funext x
   unfold choB
   rw [e1,e2]
  rw [hb]
 ·rw [List.getElem?_eq_none (by omega),List.getElem?_eq_none (by omega)]
theorem zmpl {t:Int} {s:Rnd} {id:Int}:(zyao t s id).c.next=s.c.next:=by
 unfold zyao
 split
 ·rename_i h
  show (z5wo s.c id t 3).1.next=_
  unfold z5wo at h ⊢
  by_cases h1:¬ ValidC s.c∨¬ zcie t
  ·rw [if_pos h1] at h; simp at h
  rw [if_neg h1] at h ⊢
  by_cases h2:z092 s.c.i.l id<0
  ·rw [if_pos h2] at h; simp at h
  rw [if_neg h2] at h ⊢
  split at h
  ·rename_i h3; rw [if_pos h3]
  ·simp at h
 ·rfl
end Go.Proofs.YtaihpefemjlilaaGreatDoor
set_option linter.unusedSimpArgs false
set_option linter.unusedVariables false
set_option maxRecDepth 20000
namespace Go.Proofs.YtaihpefemjlilaaGreatDoor
open Go Go.Am
def part (k:Int) (l:List Ins):List Ins:=l.filter fun x=>decide (x.grp=k)
def own2 (l:List Ins):List (Int × Int):=l.map fun x=>(x.id,x.grp)
section
variable {gs:List (List UInt8 × List UInt8 × Int × Int × Int × List Dg)} {B:Nat} {t:Int}
theorem z70f {s:Rnd} {O:Nat} (h:RI gs s B O) {id g g':Int} (h1:(id,g) ∈ own2 s.c.i.l) (h2:(id,g') ∈ own2 s.c.i.l):g=g':=by
 obtain ⟨x,hx,e⟩:=List.mem_map.1 h1
 obtain ⟨y,hy,e'⟩:=List.mem_map.1 h2
 simp only [Prod.mk.injEq] at e e'
 obtain ⟨i,hi,rfl⟩:=List.getElem_of_mem hx
 obtain ⟨j,hj,rfl⟩:=List.getElem_of_mem hy
 have hd:=List.pairwise_iff_getElem.1 (zyak h.v).d
 have:i=j:=by
  rcases Nat.lt_trichotomy i j with q|q|q
  ·have:=hd i j hi hj q; omega
  ·exact q
  ·have:=hd j i hj hi q; omega
 subst this
 rw [← e.2,← e'.2]
theorem zaob {k:Int} {G:List Int} {b:Bool} {l:List Ins} : ∀ id ∈ stgL k G b l,(id,k) ∈ own2 l:=fun id hid=>by
 obtain ⟨x,hx,rfl⟩:=List.mem_map.1 hid
 obtain ⟨h1,h2⟩:=List.mem_filter.1 hx
 have hg:x.grp=k:=by
  unfold stgB at h2
  simp only [Bool.and_eq_true,decide_eq_true_eq] at h2
  exact h2.1
 exact List.mem_map.2 ⟨x,h1,by rw [hg]⟩
theorem z0ky {c:Clu} {k:Int} {sel:Grp→Ins→Bool} : ∀ id ∈ idsP c k sel,(id,k) ∈ own2 c.i.l:=fun id hid=>by
 unfold idsP at hid
 split at hid
 ·obtain ⟨x,hx,rfl⟩:=List.mem_map.1 hid
  unfold selL at hx
  obtain ⟨h1,h2⟩:=List.mem_filter.1 hx
  simp only [Bool.and_eq_true,decide_eq_true_eq] at h2
  exact List.mem_map.2 ⟨x,h1,by rw [h2.1]⟩
 ·simp at hid
theorem zwyf {c:Clu} {k:Int} : ∀ id ∈ zu3j c k,(id,k) ∈ own2 c.i.l:=fun id hid=>by
 unfold zu3j at hid
 split at hid
 ·rcases List.mem_append.1 hid with h|h
  ·exact z0ky id ((zo43 _).mem_iff.1 h)
  ·rcases List.mem_append.1 h with h|h
   ·exact z0ky id h
   ·exact z0ky id (List.mem_reverse.1 (List.mem_of_mem_take h))
 ·simp at hid
end
end Go.Proofs.YtaihpefemjlilaaGreatDoor
set_option linter.unusedSimpArgs false
set_option linter.unusedVariables false
set_option maxRecDepth 20000
namespace Go.Proofs.YtaihpefemjlilaaGreatDoor
open Go Go.Am
section
variable {c:Clu} {gr:List Int} {tr:List Tri} {ix:List Ixe} {t:Int} (hv:ValidC c) (hn:c.g.l.length≤3) (hw : ∀ g ∈ c.g.l,g.want≤3) (hi:c.i.l.length≤10) (hx:c.next≤1000000) (ht:zcie t)
include hv hn hw hi in
theorem ztza {k:Nat} (hk:k≤c.g.l.length):RI (c.g.l.map gl) (rndS tr ix t c k (rnd0 gr t c)) (10+3*k) (10+100*k) :=
 z3g1 (zzee (zpyu hv) hi hi) hw hk (by omega) (by decide)
include hv hn hw hi in
end
end Go.Proofs.YtaihpefemjlilaaGreatDoor
set_option linter.unusedSimpArgs false
set_option linter.unusedVariables false
set_option maxRecDepth 20000
namespace Go.Proofs.YtaihpefemjlilaaGreatDoor
open Go Go.Am
theorem znuy (t:Tp) (m:Int) (h0:0≤m) (h1:m≤200):(zcpt t m).1.next≤1000000:=by
 obtain ⟨hc,hg⟩:=zfm1 t
 have m1:=z4rs (clD t).2 (m+1)
 have m2:=z2s7 (clD t).2 (n:=m+1) (by omega)
 have hgl:1≤(clD t).1.g.l.length:=List.length_pos_iff.2 hg
 obtain ⟨-,-,k3,-⟩:=zc7j hgl (tpN (clD t).2 (m+1)).toNat [] (clD t).1.next ((clD t).2.adv 1) hc.n0 ⟨by simp,by simp⟩
 have hn1:=hc.n1
 show (zgc4 (clD t).1.g.l.length (tpN (clD t).2 (m+1)).toNat [] (clD t).1.next ((clD t).2.adv 1)).2.1≤_
 omega
def trSl (l:List Tri) (h:l.length≤100000):Sl Tri:=⟨if l=[] then none else some false,l,fun e=>by
 by_cases q:l=[]
 ·exact q
 ·simp [q] at e,by omega⟩
theorem z3eh {l:List Tri} (h:l.length≤100000):(trSl l h).dv 35 trC=trV l:=by
 unfold trSl trV Sl.dv
 by_cases q:l=[]
 ·simp only [q,if_true]; rfl
 ·simp only [q,if_false]; rfl
structure ScnF (s:Scn) (a:RdA):Prop where
 ok:RdOK a
 c:a.c=s.c
 x0:a.x.at_=0
 x:a.x.e.dv 105 ixC=isV s.x
 tr:a.tr.dv 35 trC=trV s.tr
 gr:a.gr.dv=liV s.gr
 t:a.t=s.t
 v:ValidC a.c
 n:a.c.g.l.length≤3
 w : ∀ g ∈ a.c.g.l,g.want≤3
 i:a.c.i.l.length≤10
 nx:a.c.next≤1000000
 tm:zcie a.t
theorem ztew (u:Tp) (hu:u.at_=0) : ∃ a,ScnF (scnV u).1 a:=by
 obtain ⟨hv,hg⟩:=zlnb u 8 (by decide) (by decide)
 have hn9:=zukg u 8 (by decide) (by decide)
 have hat:=z2ep u 8 (by decide) (by decide)
 have hnx:=znuy u 8 (by decide) (by decide)
 obtain ⟨sw,sn⟩:=z7ak u 8
 obtain ⟨c,hc⟩ : ∃ c,(zcpt u 8).1=c:=⟨_,rfl⟩
 obtain ⟨w,hw⟩ : ∃ w,(zcpt u 8).2=w:=⟨_,rfl⟩
 rw [hc] at hv hg hn9 hnx sw sn
 have hi10:c.i.l.length≤10:=by omega
 have hil:=zjjk (t:=w) (c:=c) (3*c.g.l.length)
 have htl:=zso0 (t:=w.adv (3*c.g.l.length)) (c:=c) (3*c.g.l.length)
 have hts:=(z2rl (t:=w.adv (3*c.g.l.length)) (c:=c) (3*c.g.l.length)).1
 have hixs:=z41v (t:=w) (c:=c) (3*c.g.l.length)
 obtain ⟨w2,hw2⟩ : ∃ w2,(triS (w.adv (3*c.g.l.length)) c (3*c.g.l.length)).1=w2:=⟨_,rfl⟩
 have hgl:=zuov (t:=w2) (n:=c.i.l.length)
 have hz:=z2s7 (w2.adv c.i.l.length) (n:=20) (by decide)
 have hz0:=z4rs (w2.adv c.i.l.length) 20
 have htm:zcie (30+tpN (w2.adv c.i.l.length) 20):=⟨by omega,by omega⟩
 have hsc:(scnV u).1=⟨c,idxL w c (3*c.g.l.length),(triS (w.adv (3*c.g.l.length)) c (3*c.g.l.length)).2,graL w2 c.i.l.length,30+tpN (w2.adv c.i.l.length) 20⟩:=by rw [← hw2,← hc,← hw]; rfl
 rw [hsc]
 have hch:ChOK ⟨0,isS (idxL w c (3*c.g.l.length)) (by omega)⟩ (trSl (triS (w.adv (3*c.g.l.length)) c (3*c.g.l.length)).2 (by omega)):=⟨fun k d=>zc0u hts k d,fun r=>z4xb hixs r⟩
 have hov:OvOK (c,nlO (graL w2 c.i.l.length) (by omega),30+tpN (w2.adv c.i.l.length) 20):=by
  refine ⟨fun x hx => ?_,fun n hn => ?_,(show okT (30+tpN (w2.adv c.i.l.length) 20) from ⟨by omega,by omega⟩)⟩
  ·have hx:x ∈ c.i.l:=hx
   obtain ⟨j,hj,rfl⟩:=List.getElem_of_mem hx
   rcases (hv.i j hj).1.de with e|e
   ·rw [e]; exact ⟨by decide,by decide⟩
   ·exact ⟨by have:=e.1; omega,by have:=e.2; omega⟩
  ·have hn:n ∈ graL w2 c.i.l.length:=hn
   have:=z3e0 hn
   exact ⟨by omega,by omega⟩
 exact ⟨⟨c,⟨0,isS (idxL w c (3*c.g.l.length)) (by omega)⟩,trSl (triS (w.adv (3*c.g.l.length)) c (3*c.g.l.length)).2 (by omega),nlO (graL w2 c.i.l.length) (by omega),30+tpN (w2.adv c.i.l.length) 20⟩,zrko hv (by show c.g.l.length≤3; omega) sw hi10 hch hov,rfl,rfl,zz41 (by omega),z3eh (by omega),zigl (by omega),rfl,hv,by show c.g.l.length≤3; omega,sw,hi10,hnx,htm⟩
end Go.Proofs.YtaihpefemjlilaaGreatDoor
set_option linter.unusedSimpArgs false
set_option linter.unusedVariables false
set_option maxRecDepth 20000
namespace Go.Proofs.YtaihpefemjlilaaGreatDoor
open Go Go.Am
section
variable {gs:List (List UInt8 × List UInt8 × Int × Int × Int × List Dg)} {B:Nat} {t:Int}
theorem zln6 {s:Rnd} {O:Nat} (h:RI gs s B O) (ht:zcie t) (id:Int):(∃ x ∈ s.c.i.l,x.id=id∧x.state≠3∧(zyao t s id).c.i.l=mkS t [id] s.c.i.l∧(zyao t s id).o=s.o++zzoh s.c.i.l [id])∨(zyao t s id=s ∧ ∀ x ∈ s.c.i.l,x.id=id→x.state=3):=by
 by_cases hx : ∃ x ∈ s.c.i.l,x.id=id∧x.state≠3
 ·obtain ⟨x,hm,rfl,hs⟩:=hx
  have hv:=(z1s1 (gs:=gs) (s:=s) (l:=s.c.i.l) (n:=s.c.next) (o:=s.o) ⟨h.v,h.g,rfl,rfl,rfl⟩ ht hm hs).1
  exact .inl ⟨x,hm,rfl,hs,hv.i,hv.o⟩
 ·refine .inr ⟨?_,fun x hm e=>Classical.byContradiction fun q=>hx ⟨x,hm,e,q⟩⟩
  unfold zyao
  rw [if_neg]
  intro h0
  obtain ⟨i,hi,hf⟩:=zkzr h0
  have hst:s.c.i.l[i].state≠3:=by
   unfold z5wo at h0
   rw [if_neg (fun q=>q.elim (fun q=>q h.v) (fun q=>q ht)),hf,if_neg (by omega),Int.toNat_natCast,List.getElem?_eq_getElem hi] at h0
   intro e
   simp [may,e] at h0
  have hid:s.c.i.l[i].id=id:=by
   obtain ⟨j,hj,e,p1,_⟩:=ziel (p:=fun x:Ins=>decide (x.id=id)) (l:=s.c.i.l) (by show (0:Int)≤z092 s.c.i.l id; rw [hf]; omega)
   have e:z092 s.c.i.l id=j:=e
   rw [hf] at e
   obtain rfl:i=j:=by omega
   simpa using p1
  exact hx ⟨_,List.getElem_mem hi,hid,hst⟩
theorem znha {s:Rnd} {tr:List Tri} {ix:List Ixe} {k:Int}:(zusy tr ix t k s).2=s ∨ ∃ d,choC tr ix s.c k t=some d∧(zusy tr ix t k s).2.c.i.l=s.c.i.l++[newI s.c k d t]∧(zusy tr ix t k s).2.c.next=s.c.next+1∧(zusy tr ix t k s).2.o=s.o++[⟨1,s.c.next,d⟩]:=by
 cases hc:choC tr ix s.c k t with
 | none=>left; unfold zusy; rw [hc]
 | some d =>
  have hs:zusy tr ix t k s=if (z4wu s.c k d t).2.2=0 then (true,⟨(z4wu s.c k d t).1,s.o++[⟨1,(z4wu s.c k d t).2.1,d⟩]⟩) else (false,s):=by unfold zusy; rw [hc]
  by_cases h0:(z4wu s.c k d t).2.2=0
  ·right
   rw [if_pos h0] at hs
   obtain ⟨e1,e2,e3⟩:=zzaj h0
   have hol:(own (s.c.i.l++[newI s.c k d t])).l=s.c.i.l++[newI s.c k d t]:=z3e9 (by simp; omega)
   refine ⟨d,rfl,?_,?_,?_⟩
   ·rw [hs]; show (z4wu s.c k d t).1.i.l=_; rw [e1]; exact hol
   ·rw [hs]; show (z4wu s.c k d t).1.next=_; rw [e1]
   ·rw [hs]; show s.o++[⟨1,(z4wu s.c k d t).2.1,d⟩]=_; rw [e2]
  ·left; rw [if_neg h0] at hs; rw [hs]
end
def zapb (x:Ins):Cmd:=⟨1,x.id,x.art⟩
structure TR (c:Clu) (tr:List Tri) (ix:List Ixe) (t k:Int) (s:Rnd) (V:List Int) (N:List Ins):Prop where
 l:s.c.i.l=mkS t V c.i.l++N
 nd:V.Nodup
 iv : ∀ id ∈ V,∃ x ∈ c.i.l,x.id=id∧x.state≠3
 ni : ∀ x ∈ N,c.next≤x.id∧x.id<s.c.next∧0≤x.grp∧x.grp<k∧x.state=1∧x.den = -1∧choC tr ix c x.grp t=some x.art
 np:N.Pairwise (fun x y=>x.id<y.id)
 o:s.o.Perm (zzoh c.i.l V++N.map zapb)
 nx:c.next≤s.c.next
section
variable {c:Clu} {tr:List Tri} {ix:List Ixe} {t k:Int} {B:Nat}
theorem z0vo {V:List Int} {l:List Ins} {a:Int} (h:a ∉ V):mkS t [a] (mkS t V l)=mkS t (V++[a]) l:=by
 unfold mkS
 rw [List.map_map]
 refine List.map_congr_left fun z _ => ?_
 simp only [Function.comp,List.mem_singleton,List.mem_append]
 by_cases hz:z.id ∈ V
 ·have hne:z.id≠a:=fun e=>h (by rw [← e]; exact hz)
  rw [if_pos hz,if_neg (by rw [z4j6]; exact hne),if_pos (.inl hz)]
 ·rw [if_neg hz]
  by_cases e:z.id=a
  ·rw [if_pos e,if_pos (.inr e)]
  ·rw [if_neg e,if_neg (fun q=>q.elim hz e)]
theorem zpvt {V:List Int} {l:List Ins} (h : ∀ x ∈ l,x.id ∉ V):mkS t V l=l:=by
 unfold mkS
 rw [List.map_congr_left (g:=id) fun x hx=>by rw [if_neg (h x hx)]; rfl]
 simp
theorem z4ov {V:List Int} {l l':List Ins}:mkS t V (l++l')=mkS t V l++mkS t V l':=by unfold mkS; rw [List.map_append]
theorem zapa {s:Rnd} {V:List Int} {N:List Ins} (q:TR c tr ix t k s V N) {k':Int} (hk:k≤k'):TR c tr ix t k' s V N :=
 ⟨q.l,q.nd,q.iv,fun x hx=>by obtain ⟨a1,a2,a3,a4,a5⟩:=q.ni x hx; exact ⟨a1,a2,a3,by omega,a5⟩,q.np,q.o,q.nx⟩
theorem zga9 (hv:ValidC c) {s:Rnd} {O:Nat} (h:RI (c.g.l.map gl) s B O) (ht:zcie t) {V:List Int} {N:List Ins} (q:TR c tr ix t k s V N) {id:Int} (hn : ∀ x ∈ N,x.id≠id) : ∃ W,TR c tr ix t k (zyao t s id) (V++W) N:=by
 rcases zln6 h ht id with ⟨x,hx,rfl,hs,e1,e2⟩|⟨e,_⟩
 ·refine ⟨[x.id],?_⟩
  have hx':=hx
  rw [q.l] at hx'
  have hxm:x ∈ mkS t V c.i.l:=(List.mem_append.1 hx').resolve_right fun m=>hn x m rfl
  obtain ⟨y,hy,e⟩:=List.mem_map.1 hxm
  have hyV:y.id ∉ V:=fun m=>by
   rw [if_pos m] at e
   exact hs (by rw [← e]; rfl)
  rw [if_neg hyV] at e
  subst e
  have hcm:z83c s.c.i.l y.id=z83c c.i.l y.id:=by rw [zmpd (zyak h.v).d hx,zmpd (zyak hv).d hy]
  refine ⟨?_,?_,?_,?_,q.np,?_,?_⟩
  ·rw [e1,q.l,z4ov,z0vo hyV,zpvt (l:=N) fun z hz=>by simpa using hn z hz]
  ·rw [List.nodup_append]
   refine ⟨q.nd,by simp,fun a ha b hb => ?_⟩
   have hb:b=y.id:=by simpa using hb
   rw [hb]
   exact fun e=>hyV (by rw [← e]; exact ha)
  ·intro id hid
   rcases List.mem_append.1 hid with m|m
   ·exact q.iv id m
   ·have m:id=y.id:=by simpa using m
    exact ⟨y,hy,m.symm,hs⟩
  ·intro z hz
   rw [zmpl]
   exact q.ni z hz
  ·rw [e2]
   have e3:zzoh s.c.i.l [y.id]=zzoh c.i.l [y.id]:=by simp only [zzoh,List.map_cons,List.map_nil,hcm]
   have e4:zzoh c.i.l (V++[y.id])=zzoh c.i.l V++zzoh c.i.l [y.id]:=by simp only [zzoh,List.map_append]
   rw [e3,e4,List.append_assoc]
   refine (List.Perm.append_right _ q.o).trans ?_
   rw [List.append_assoc]
   exact List.Perm.append_left _ List.perm_append_comm
  ·rw [zmpl]; exact q.nx
 ·exact ⟨[],by rw [e,List.append_nil]; exact q⟩
theorem zfhc (hv:ValidC c) (ht:zcie t) {N:List Ins} : ∀ {L:List Int} {s:Rnd} {O:Nat} {V:List Int},RI (c.g.l.map gl) s B O→TR c tr ix t k s V N→(∀ id ∈ L,∀ x ∈ N,x.id≠id) → ∃ W,TR c tr ix t k (L.foldl (zyao t) s) (V++W) N
 | [],s,O,V,_,q,_=>⟨[],by rw [List.append_nil]; exact q⟩
 | a::L,s,O,V,h,q,hn=>by
  obtain ⟨W,hW⟩:=zga9 hv h ht q (hn a (by simp))
  obtain ⟨W',hW'⟩:=zfhc hv ht (L:=L) (z7tf (t:=t) h a) hW (fun id hid=>hn id (by simp [hid]))
  exact ⟨W++W',by rw [← List.append_assoc]; exact hW'⟩
theorem z6hg {s:Rnd} {O:Nat} (h:RI (c.g.l.map gl) s B O) {V:List Int} {N:List Ins} (q:TR c tr ix t k s V N) {K:Nat} (hk:(K:Int)<k) : ∃ N',TR c tr ix t k (zusy tr ix t K s).2 V (N++N'):=by
 rcases znha (t:=t) (s:=s) (tr:=tr) (ix:=ix) (k:=K) with e|⟨d,hc,e1,e2,e3⟩
 ·exact ⟨[],by rw [e,List.append_nil]; exact q⟩
 ·refine ⟨[newI s.c K d t],?_,q.nd,q.iv,?_,?_,?_,?_⟩
  ·rw [e1,q.l,List.append_assoc]
  ·intro x hx
   rw [e2]
   rcases List.mem_append.1 hx with m|m
   ·obtain ⟨a1,a2,a3⟩:=q.ni x m
    exact ⟨a1,by omega,a3⟩
   ·have m:x=newI s.c K d t:=by simpa using m
    subst m
    have hnx:=q.nx
    refine ⟨hnx,by show s.c.next<s.c.next+1; omega,by show (0:Int)≤K; omega,hk,rfl,rfl,?_⟩
    show choC tr ix c K t=some d
    rw [← zxrl (c:=s.c) h.g]
    exact hc
  ·rw [List.pairwise_append]
   refine ⟨q.np,by simp,fun a ha b hb => ?_⟩
   have m:b=newI s.c K d t:=by simpa using hb
   subst m
   exact (q.ni a ha).2.1
  ·rw [e3,List.map_append,← List.append_assoc]
   exact List.Perm.append_right _ q.o
  ·rw [e2]; have:=q.nx; omega
theorem z8dy {want:Int} {V:List Int} {K:Nat} (hk:(K:Int)<k) : ∀ {m:Nat} {s:Rnd} {B O:Nat} {N:List Ins},RI (c.g.l.map gl) s B O→TR c tr ix t k s V N → ∃ N',TR c tr ix t k (zinu tr ix t K want m s) V (N++N')
 | 0,s,B,O,N,_,q=>⟨[],by rw [List.append_nil]; exact q⟩
 | m+1,s,B,O,N,h,q=>by
  obtain ⟨N',hN'⟩:=z6hg h q hk
  unfold zinu
  split
  ·obtain ⟨N2,hN2⟩:=z8dy hk (want:=want) (m:=m) (z3da (t:=t) h) hN'
   exact ⟨N'++N2,by rw [← List.append_assoc]; exact hN2⟩
  ·exact ⟨[],by rw [List.append_nil]; exact q⟩
theorem z00g (hv:ValidC c) (ht:zcie t) {K:Nat} {s:Rnd} {O:Nat} (h:RI (c.g.l.map gl) s B O) {V:List Int} {N:List Ins} (q:TR c tr ix t K s V N) {want:Int} : ∃ W N',TR c tr ix t ((K+1:Nat):Int) (grpS tr ix t K want s) (V++W) (N++N'):=by
 have r1:=zux2 (t:=t) (k:=K) h
 have r2:=znba (t:=t) (k:=K) (want:=want) r1
 have r3:=zfti (t:=t) (k:=K) r2
 have hno : ∀ {s':Rnd} {O':Nat} {V':List Int},RI (c.g.l.map gl) s' B O'→TR c tr ix t K s' V' N → ∀ id,(id,(K:Int)) ∈ own2 s'.c.i.l → ∀ x ∈ N,x.id≠id:=fun {s' O' V'} r q' id hid x hx e=>by
  have hm:(id,x.grp) ∈ own2 s'.c.i.l:=List.mem_map.2 ⟨x,by rw [q'.l]; exact List.mem_append.2 (.inr hx),by rw [e]⟩
  have:=z70f r hm hid
  have:=(q'.ni x hx).2.2.2.1
  omega
 obtain ⟨W1,q1⟩:=zfhc hv ht (L:=stgL K (znqs s.c K) false s.c.i.l) h q (fun id hid=>hno h q id (zaob id hid))
 have q1:TR c tr ix t K (grS1 t K s) (V++W1) N:=q1
 obtain ⟨W2,q2⟩:=zfhc hv ht (L:=(stgL K (znqs (grS1 t K s).c K) true (grS1 t K s).c.i.l).reverse.take ((znqs (grS1 t K s).c K).length-want).toNat) r1 q1 (fun id hid=>hno r1 q1 id (zaob id (List.mem_reverse.1 (List.mem_of_mem_take hid))))
 have q2:TR c tr ix t K (grS2 t K want (grS1 t K s)) (V++W1++W2) N:=q2
 obtain ⟨W3,q3⟩:=zfhc hv ht (L:=(zu3j (grS2 t K want (grS1 t K s)).c K).take (z17v (grS2 t K want (grS1 t K s)).c K).toNat) r2 q2 (fun id hid=>hno r2 q2 id (zwyf id (List.mem_of_mem_take hid)))
 have q3:TR c tr ix t K (grS3 t K (grS2 t K want (grS1 t K s))) (V++W1++W2++W3) N:=q3
 obtain ⟨N',q4⟩:=z8dy (k:=((K+1:Nat):Int)) (K:=K) (by omega) (want:=want) (m:=(want-(znqs (grS3 t K (grS2 t K want (grS1 t K s))).c K).length).toNat) r3 (zapa q3 (by omega))
 refine ⟨W1++W2++W3,N',?_⟩
 rw [← List.append_assoc,← List.append_assoc]
 exact q4
end
theorem z85t {gr:List Int} {t:Int} : ∀ {l:List Ins} {i:Nat},(ze9z l i gr t).Sublist (l.map Ins.id)
 | [],_=>List.Sublist.refl _
 | x::r,i=>by
  have ih:=z85t (gr:=gr) (t:=t) (l:=r) (i:=i+1)
  unfold ze9z
  split
  ·exact ih.cons_cons _
  ·exact ih.cons _
theorem zgrg {c:Clu} (hv:ValidC c) {gr:List Int} {t:Int}:(ze9z c.i.l 0 gr t).Nodup:=by
 have h:=zg4k.1 (zyak hv).d
 exact (h.sublist z85t).imp fun {a b} q e=>by omega
theorem za3t {l:List Ins} {gr:List Int} {t:Int} : ∀ id ∈ ze9z l 0 gr t,∃ x ∈ l,x.id=id∧x.state≠3∧0≤x.den:=fun id hid=>by
 obtain ⟨j,hj,h1,h2⟩:=zunx.1 hid
 simp only [z9hf,Bool.and_eq_true,decide_eq_true_eq] at h1
 exact ⟨_,List.getElem_mem hj,h2,h1.1,h1.2.1⟩
section
variable {c:Clu} {gr:List Int} {tr:List Tri} {ix:List Ixe} {t:Int} (hv:ValidC c) (hn:c.g.l.length≤3) (hw : ∀ g ∈ c.g.l,g.want≤3) (hi:c.i.l.length≤10) (ht:zcie t)
include hv ht in
theorem zwot:TR c tr ix t 0 (rnd0 gr t c) (ze9z c.i.l 0 gr t) []:=by
 have h0:Vw (c.g.l.map gl) ⟨c.clone,[]⟩ c.i.l c.next []:=⟨zwds hv,z9hp _,rfl,rfl,rfl⟩
 have h:=(z40n (s:=⟨c.clone,[]⟩) (s':=⟨c.clone,[]⟩) ht h0 h0 (zgrg hv (gr:=gr) (t:=t)) (fun id hid=>by obtain ⟨x,a,b,d,_⟩:=za3t id hid; exact ⟨x,a,b,d⟩)).1
 have h:Vw (c.g.l.map gl) (rnd0 gr t c) _ c.next _:=h
 refine ⟨by rw [h.i,List.append_nil],zgrg hv,fun id hid=>by obtain ⟨x,a,b,d,_⟩:=za3t id hid; exact ⟨x,a,b,d⟩,by simp,List.Pairwise.nil,?_,by rw [h.n]; exact Int.le_refl _⟩
 rw [h.o]
 simp
include hv hn hw hi ht in
theorem zva5 : ∀ {k:Nat},k≤c.g.l.length → ∃ W N,TR c tr ix t k (rndS tr ix t c k (rnd0 gr t c)) (ze9z c.i.l 0 gr t++W) N
 | 0,_=>⟨[],[],by rw [List.append_nil]; exact zwot hv ht⟩
 | k+1,hk=>by
  obtain ⟨W,N,q⟩:=zva5 (k:=k) (by omega)
  obtain ⟨W',N',q'⟩:=z00g hv ht (ztza hv hn hw hi (tr:=tr) (ix:=ix) (t:=t) (gr:=gr) (k:=k) (by omega)) q (want:=ze6v c k)
  exact ⟨W++W',N++N',by rw [← List.append_assoc]; exact q'⟩
include hv hn hw hi ht in
theorem z6bz : ∃ W N,TR c tr ix t c.g.l.length (rndP tr ix gr t c) (ze9z c.i.l 0 gr t++W) N:=zva5 hv hn hw hi ht (Nat.le_refl _)
end
end Go.Proofs.YtaihpefemjlilaaGreatDoor
set_option linter.unusedSimpArgs false
set_option linter.unusedVariables false
set_option maxRecDepth 20000
namespace Go.Proofs.YtaihpefemjlilaaGreatDoor
open Go Go.Am
section
variable {c d:Clu} {k:Nat} (h:d.g.l.map gl=c.g.l.map gl) (hk:k<c.g.l.length)
include h hk in
end
theorem zy4e {a:Int} : ∀ {G:List Int},G.Nodup→G.length≤(G.filter (fun i=>decide (i≠a))).length+1
 | [],_=>by simp
 | b::G,h=>by
  rw [List.nodup_cons] at h
  by_cases e:b=a
  ·subst e
   have:G.filter (fun i=>decide (i≠b))=G:=List.filter_eq_self.2 fun i hi=>by
    rw [decide_eq_true_eq]
    rintro rfl
    exact h.1 hi
   rw [List.filter_cons,if_neg (by simp),this,List.length_cons]
   omega
  ·have:=zy4e (a:=a) h.2
   rw [List.filter_cons,if_pos (by simpa using e),List.length_cons,List.length_cons]
   omega
theorem zh1a : ∀ {V G:List Int},G.Nodup→G.length≤(G.filter (fun i=>decide (i ∉ V))).length+V.length
 | [],G,_=>by
  rw [List.filter_eq_self.2 (fun i _=>by simp)]
  exact Nat.le_add_right _ _
 | a::V,G,h=>by
  have h1:=zy4e (a:=a) h
  have h2:=zh1a (V:=V) (G:=G.filter (fun i=>decide (i≠a))) (h.sublist List.filter_sublist)
  rw [List.filter_filter] at h2
  have e:(fun i=>decide (i ∉ a::V))=fun i=>decide (i ∉ V)&&decide (i≠a):=by
   funext i
   by_cases e:i=a<;>simp [e]
  rw [e,List.length_cons]
  omega
theorem zwjn : ∀ {V G:List Int},V.Nodup→(∀ i ∈ V,i ∈ G)→(G.filter (fun i=>decide (i ∉ V))).length+V.length≤G.length
 | [],G,_,_=>by
  rw [List.filter_eq_self.2 (fun i _=>by simp)]
  exact Nat.le_refl _
 | a::V,G,hn,h=>by
  rw [List.nodup_cons] at hn
  have h1:(G.filter (fun i=>decide (i≠a))).length<G.length:=List.length_filter_lt_length_iff_exists.2 ⟨a,h a (by simp),by simp⟩
  have h2:=zwjn (V:=V) (G:=G.filter (fun i=>decide (i≠a))) hn.2 (fun i hi=>List.mem_filter.2 ⟨h i (by simp [hi]),by
   rw [decide_eq_true_eq]
   rintro rfl
   exact hn.1 hi⟩)
  rw [List.filter_filter] at h2
  have e:(fun i=>decide (i ∉ a::V))=fun i=>decide (i ∉ V)&&decide (i≠a):=by
   funext i
   by_cases e:i=a<;>simp [e]
  rw [e,List.length_cons]
  omega
section
variable {c:Clu} {s:Rnd} {B O:Nat} {t:Int} {k:Nat} {tr:List Tri} {ix:List Ixe}
end
section
variable {c:Clu} {gr:List Int} {tr:List Tri} {ix:List Ixe} {t:Int} (hv:ValidC c) (hn:c.g.l.length≤3) (hw : ∀ g ∈ c.g.l,g.want≤3) (hi:c.i.l.length≤10) (ht:zcie t)
include hv hn hw hi in
end
end Go.Proofs.YtaihpefemjlilaaGreatDoor
set_option linter.unusedSimpArgs false
set_option linter.unusedVariables false
set_option maxRecDepth 20000
namespace Go.Proofs.YtaihpefemjlilaaGreatDoor
open Go Go.Am
def kdO (l:List Ins) (y:Ins):Int:=match l.find? (fun x=>decide (x.id=y.id)) with
 | none=>1
 | some x=>if y.state≠x.state then 2 else 0
def cmdO (l:List Ins) (y:Ins):Cmd:=⟨kdO l y,y.id,y.art⟩
structure CmF (l0 l:List Ins) (o:List Cmd):Prop where
 nd:o.Nodup
 p0 : ∀ y ∈ l,kdO l0 y=0→cmdO l0 y ∉ o
 p1 : ∀ y ∈ l,¬ kdO l0 y=0→cmdO l0 y ∈ o
 s2 : ∀ y ∈ l,kdO l0 y=2→y.state=3
 s1 : ∀ y ∈ l,kdO l0 y=1→y.state=1
 n:(l.filter fun y=>decide (¬ kdO l0 y=0)).length=o.length
 le:l0.length≤l.length
theorem zh60 {o:List Cmd} (h:o.Nodup) (a:Cmd):(a ∈ o→o.count a=1)∧(a ∉ o→o.count a=0):=by
 refine ⟨fun hm => ?_,fun hm=>List.count_eq_zero.2 hm⟩
 have h1:=List.nodup_iff_count.1 h a
 have h2:=List.count_pos_iff.2 hm
 omega
section
variable {c:Clu} {tr:List Tri} {ix:List Ixe} {t k:Int} {s:Rnd} {V:List Int} {N:List Ins}
theorem zf2a (hv:ValidC c) (q:TR c tr ix t k s V N) {y:Ins} (hy:y ∈ N):kdO c.i.l y=1:=by
 have hn:c.i.l.find? (fun x=>decide (x.id=y.id))=none:=by
  rw [List.find?_eq_none]
  intro x hx
  obtain ⟨j,hj,rfl⟩:=List.getElem_of_mem hx
  have:=(hv.i j hj).1.id1
  have:=(q.ni y hy).1
  simp only [decide_eq_true_eq]
  omega
 unfold kdO
 rw [hn]
theorem z65c (hv:ValidC c) (q:TR c tr ix t k s V N) {x:Ins} (hx:x ∈ c.i.l) (hV:x.id ∈ V):kdO c.i.l (stI t x)=2:=by
 have hd:=(zyak hv).d
 have hf:=zm2t hd hx
 unfold kdO
 rw [z4j6,hf]
 obtain ⟨z,hz,e,hs⟩:=q.iv _ hV
 have:=z4mt hd hz hx e
 subst this
 have h3:(stI t z).state≠z.state:=fun e=>hs (by rw [← e]; rfl)
 simp only [h3,ne_eq,not_false_eq_true,if_true]
theorem zryo (hv:ValidC c) {x:Ins} (hx:x ∈ c.i.l):kdO c.i.l x=0:=by
 have hf:=zm2t (zyak hv).d hx
 unfold kdO
 rw [hf]
 simp
theorem za8r (hv:ValidC c) (q:TR c tr ix t k s V N):CmF c.i.l s.c.i.l s.o:=by
 have hd:=(zyak hv).d
 have hV1:(zzoh c.i.l V).Nodup:=by
  unfold zzoh
  show List.Pairwise _ _
  rw [List.pairwise_map]
  exact q.nd.imp fun {a b} h e=>h (by simp only [Cmd.mk.injEq] at e; exact e.2.1)
 have hN1:(N.map zapb).Nodup:=by
  show List.Pairwise _ _
  rw [List.pairwise_map]
  exact q.np.imp fun {a b} h e=>by
   simp only [zapb,Cmd.mk.injEq] at e
   omega
 have hnd:s.o.Nodup:=by
  rw [q.o.nodup_iff,List.nodup_append]
  refine ⟨hV1,hN1,fun a ha b hb e => ?_⟩
  obtain ⟨id,_,rfl⟩:=List.mem_map.1 ha
  obtain ⟨y,_,rfl⟩:=List.mem_map.1 hb
  simp only [zapb,Cmd.mk.injEq] at e
  omega
 have hmem : ∀ a:Cmd,a ∈ s.o↔(∃ id ∈ V,a=⟨2,id,z83c c.i.l id⟩) ∨ ∃ y ∈ N,a=zapb y:=fun a=>by
  rw [q.o.mem_iff,List.mem_append]
  constructor
  ·rintro (h|h)
   ·obtain ⟨id,h1,e⟩:=List.mem_map.1 h
    exact .inl ⟨id,h1,e.symm⟩
   ·obtain ⟨y,h1,e⟩:=List.mem_map.1 h
    exact .inr ⟨y,h1,e.symm⟩
  ·rintro (⟨id,h,e⟩|⟨y,h,e⟩)
   ·exact .inl (List.mem_map.2 ⟨id,h,e.symm⟩)
   ·exact .inr (List.mem_map.2 ⟨y,h,e.symm⟩)
 have hcase : ∀ y ∈ s.c.i.l,(∃ x ∈ c.i.l,x.id ∈ V∧y=stI t x)∨(y ∈ c.i.l∧y.id ∉ V)∨y ∈ N:=fun y hy=>by
  rw [q.l] at hy
  rcases List.mem_append.1 hy with h|h
  ·obtain ⟨x,hx,e⟩:=List.mem_map.1 h
   by_cases hV:x.id ∈ V
   ·rw [if_pos hV] at e; exact .inl ⟨x,hx,hV,e.symm⟩
   ·rw [if_neg hV] at e; subst e; exact .inr (.inl ⟨hx,hV⟩)
  ·exact .inr (.inr h)
 refine ⟨hnd,fun y hy h0 hm => ?_,fun y hy h0 => ?_,fun y hy h2 => ?_,fun y hy h1 => ?_,?_,?_⟩
 ·unfold cmdO at hm
  rw [h0,hmem] at hm
  rcases hm with ⟨id,_,e⟩|⟨y,_,e⟩
  ·simp only [Cmd.mk.injEq] at e; omega
  ·simp only [zapb,Cmd.mk.injEq] at e; omega
 ·rcases hcase y hy with ⟨x,hx,hV,rfl⟩|⟨hx,_⟩|hN
  ·unfold cmdO
   rw [z65c hv q hx hV,hmem]
   refine .inl ⟨x.id,hV,?_⟩
   rw [zmpd hd hx]; rfl
  ·exact absurd (zryo hv hx) h0
  ·unfold cmdO
   rw [zf2a hv q hN,hmem]
   exact .inr ⟨y,hN,rfl⟩
 ·rcases hcase y hy with ⟨x,hx,hV,rfl⟩|⟨hx,_⟩|hN
  ·rfl
  ·rw [zryo hv hx] at h2; omega
  ·have:=zf2a hv q hN; omega
 ·rcases hcase y hy with ⟨x,hx,hV,rfl⟩|⟨hx,_⟩|hN
  ·rw [z65c hv q hx hV] at h1; omega
  ·rw [zryo hv hx] at h1; omega
  ·exact (q.ni y hN).2.2.2.2.1
 ·have hol:s.o.length=V.length+N.length:=by rw [q.o.length_eq,List.length_append,zzoh,List.length_map,List.length_map]
  rw [q.l,List.filter_append,List.length_append]
  have e2:N.filter (fun y=>decide (¬ kdO c.i.l y=0))=N:=List.filter_eq_self.2 fun y hy=>by rw [zf2a hv q hy]; rfl
  have e1:((mkS t V c.i.l).filter fun y=>decide (¬ kdO c.i.l y=0)).length=(c.i.l.filter fun x=>decide (x.id ∈ V)).length:=by
   unfold mkS
   rw [List.filter_map,List.length_map]
   congr 1
   refine List.filter_congr fun x hx => ?_
   simp only [Function.comp]
   refine decide_eq_decide.2 ?_
   by_cases hV:x.id ∈ V
   ·rw [if_pos hV,z65c hv q hx hV]; simp [hV]
   ·rw [if_neg hV,zryo hv hx]; simp [hV]
  have hnd0:(c.i.l.map Ins.id).Nodup:=(zg4k.1 hd).imp fun {a b} q e=>by omega
  have f1:=zwjn (V:=V) (G:=c.i.l.map Ins.id) q.nd (fun i hi=>by obtain ⟨x,hx,e,_⟩:=q.iv i hi; exact List.mem_map.2 ⟨x,hx,e⟩)
  have f2:=zh1a (V:=V) hnd0
  have f3 : ∀ p:Int→Bool,((c.i.l.map Ins.id).filter p).length=(c.i.l.filter fun x=>p x.id).length:=fun p=>by rw [List.filter_map,List.length_map]; rfl
  rw [f3,List.length_map] at f1 f2
  have f4 : ∀ l:List Ins,(l.filter fun x=>decide (x.id ∈ V)).length+(l.filter fun x=>decide (x.id ∉ V)).length=l.length:=fun l=>by
   induction l with
   | nil=>rfl
   | cons a l ih =>
    by_cases hm:a.id ∈ V
    ·simp only [List.filter_cons,hm,decide_true,if_true,not_true_eq_false,decide_false,Bool.false_eq_true,if_false,List.length_cons]; omega
    ·simp only [List.filter_cons,hm,decide_true,if_true,not_false_eq_true,decide_false,Bool.false_eq_true,if_false,List.length_cons]; omega
  have f5:=f4 c.i.l
  rw [e1,e2,hol]
  omega
 ·rw [q.l,List.length_append,zo9a]; omega
end
end Go.Proofs.YtaihpefemjlilaaGreatDoor
set_option linter.unusedSimpArgs false
set_option linter.unusedVariables false
set_option maxRecDepth 20000
namespace Go.Proofs.YtaihpefemjlilaaGreatDoor
open Go Go.Am
def cmSl (l:List Cmd) (h:l.length≤100000):Sl Cmd:=⟨if l=[] then none else some false,l,fun e=>by
 by_cases q:l=[]
 ·exact q
 ·simp [q] at e,by omega⟩
theorem zb37 {l:List Cmd} (h:l.length≤100000):(cmSl l h).dv 34 cmC=cmV l:=by
 unfold cmSl cmV Sl.dv
 by_cases q:l=[]
 ·simp only [q,if_true]; rfl
 ·simp only [q,if_false]; rfl
theorem z5ip {l:List Cmd} (h:l.length≤100000) (H:List AObj):lenD H (cmV l)=some (.int .i64 l.length):=by
 have:=zupj (x:=cmSl l h) (h:=H) (s:=34) (f:=cmC)
 rw [zb37] at this; exact this
theorem zg1b {l:List Cmd} (h:l.length≤100000) (H:List AObj) {j:Nat} (hj:j<l.length):zpsc H 34 (cmV l) j=some (.ref (cmC l[j])):=by
 have:=zalo (x:=cmSl l h) (h:=H) zfq1 hj
 rw [zb37] at this; exact this
theorem zlco (x:Cmd):oneC 34 true (cmC x)=some (.agg (cmC x)):=by simp [oneC,zfq1,List.take_of_length_le]
theorem zaz6 {x y:Cmd}:z32s (zi5g [(34,0)]) (cmC x) (cmC y)=some (decide (x=y)):=by
 have e:zi5g [(34,0)]=[0,0]++zi5g [(32,0)]:=by decide
 have e1 : ∀ x:Cmd,cmC x=[.int .i64 x.kind,.int .i64 x.id]++dgC x.art:=fun _=>rfl
 rw [e,e1,e1,zid2 rfl rfl,zyiz,z540]
 obtain ⟨a,b,c⟩:=x
 obtain ⟨a',b',c'⟩:=y
 simp only [Option.bind_some,Option.map_some,Cmd.mk.injEq,Option.some.injEq,Bool.decide_and,Bool.and_assoc]
theorem zl5x (l:List Ins) (y:Ins):(z092 l y.id = -1∧kdO l y=1) ∨ ∃ (p:Nat) (hp:p<l.length),z092 l y.id=p∧kdO l y=if y.state≠l[p].state then 2 else 0:=by
 unfold kdO
 cases hf:l.find? (fun x=>decide (x.id=y.id)) with
 | none =>
  left
  rw [List.find?_eq_none] at hf
  exact ⟨zfki fun j hj=>by simpa using hf _ (List.getElem_mem hj),rfl⟩
 | some x =>
  right
  rw [List.find?_eq_some_iff_getElem] at hf
  obtain ⟨h1,i,hi,rfl,h2⟩:=hf
  exact ⟨i,hi,zy9u hi h1 (fun j hj hji=>by simpa using h2 j hji),rfl⟩
noncomputable def zr1d:Tbl:=addT 12 (.new cScn) (addT 25 (.pure cRnd) (addT 30 (.pure (cCi fun c i => .int .i64 (z092 c.i.l i))) (addT 21 (.pure cTru) tbl0)))
theorem z20t:zr1d 12 = .new cScn:=by simp [zr1d]
theorem zj97:zr1d 25 = .pure cRnd:=by simp [zr1d]
theorem zdyp:zr1d 30 = .pure (cCi fun c i => .int .i64 (z092 c.i.l i)):=by simp [zr1d]
theorem z5kh:zr1d 21 = .pure cTru:=by simp [zr1d]
theorem zgw3:zr1d.Sound P:=z0rp zr8u (z0rp zclv (z0rp zg2n (z0rp (zi1x zul1) zr5o)))
def cntO (l0 l:List Ins) (i:Nat):Nat:=((l.take i).filter fun y=>decide (¬ kdO l0 y=0)).length
theorem zt3o {l0 l:List Ins} {i:Nat} (h:i<l.length):cntO l0 l (i+1)=cntO l0 l i+(if kdO l0 l[i]=0 then 0 else 1):=by
 unfold cntO
 rw [List.take_succ_eq_append_getElem h,List.filter_append,List.length_append]
 by_cases e:kdO l0 l[i]=0
 ·simp [e]
 ·simp [e]
theorem z9oh {o:List Cmd} {j:Nat} (h:j<o.length) (C:Cmd):(o.take (j+1)).count C=(o.take j).count C+(if o[j]=C then 1 else 0):=by
 rw [List.take_succ_eq_append_getElem h,List.count_append,List.count_singleton]
 by_cases e:o[j]=C
 ·simp [e]
 ·simp [e]
noncomputable def zs0r (o:List DV) (w:Tp) (s0:List Ins) (R:Rnd) (i:Nat):St:=a7S0 (.mp 3 8 0) (.mp 4 3 0) (cmV R.o) (.int .i64 (cntO s0 R.c.i.l i)) (.int .i64 i) [.cells o,.cells (tpC w),.cells o,.cells o,.cells (clC R.c)]
noncomputable def zg7v (o:List DV) (w:Tp) (s0:List Ins) (R:Rnd) (i:Nat) (y:Ins) (K:Int) (C:Cmd) (j:Nat):St:=a7S1 (.mp 3 8 0) (.mp 4 3 0) (cmV R.o) (.int .i64 (cntO s0 R.c.i.l i)) (.int .i64 i) (.mp 5 37 0) (.int .i64 K) (.int .i64 ((R.o.take j).count C)) (.int .i64 j) [.cells o,.cells (tpC w),.cells o,.cells o,.cells (clC R.c),.cells (inC y)]
theorem zmjd (x:Nl):Runs zr1d a7 [x.dv] (.bool true):=by
 refine ⟨?_⟩
 obtain ⟨u,hu⟩ : ∃ u,tp0 x 300=u:=⟨_,rfl⟩
 have hua:u.at_=0:=by rw [← hu]; rfl
 have hS:=fun n=>zd92 (x:=x) (n:=n)
 rw [hu] at hS
 obtain ⟨a,hf⟩:=ztew u hua
 obtain ⟨s,hs⟩ : ∃ s,(scnV u).1=s:=⟨_,rfl⟩
 rw [hs] at hf hS
 obtain ⟨w,hw⟩ : ∃ w,(scnV u).2=w:=⟨_,rfl⟩
 rw [hw] at hS
 have hR:=zunp hf.ok
 have hxx:xiC a.x=[.int .i64 0,isV s.x]:=by unfold xiC; rw [hf.x0,hf.x]
 rw [hxx,hf.tr,hf.gr,hf.c,hf.t] at hR
 have hx:=zkx7 x
 have ho8:scnC s=o8 s.c (.int .i64 0) (isV s.x) (trV s.tr) (liV s.gr) (.int .i64 s.t):=rfl
 rw [ho8] at hS
 have s8:=fun H=>zws3 (c:=s.c) (a := .int .i64 0) (b:=isV s.x) (d:=trV s.tr) (e:=liV s.gr) (f := .int .i64 s.t) (H:=H) (id:=3) rfl (zcwq _) (zq54 _) (zj6i _) rfl
 have l1:oneC 1 false ((o8 s.c (.int .i64 0) (isV s.x) (trV s.tr) (liV s.gr) (.int .i64 s.t)).drop 1)=some (s.c.i.dv 37 inC):=rfl
 have l3:oneC 2 true ((o8 s.c (.int .i64 0) (isV s.x) (trV s.tr) (liV s.gr) (.int .i64 s.t)).drop 3)=some (.agg [.int .i64 0,isV s.x]):=rfl
 have l5:oneC 1 false ((o8 s.c (.int .i64 0) (isV s.x) (trV s.tr) (liV s.gr) (.int .i64 s.t)).drop 5)=some (trV s.tr):=rfl
 have l6:oneC 1 false ((o8 s.c (.int .i64 0) (isV s.x) (trV s.tr) (liV s.gr) (.int .i64 s.t)).drop 6)=some (liV s.gr):=rfl
 have l7:oneC 1 false ((o8 s.c (.int .i64 0) (isV s.x) (trV s.tr) (liV s.gr) (.int .i64 s.t)).drop 7)=some (.int .i64 s.t):=rfl
 have hlo : ∀ c a b d e f,(o8 c a b d e f).length=8:=fun c a b d e f=>rfl
 have hpc:=fun c=>zy11 c
 have hpv:=zm03 s.x
 have hpt:=znen s.tr
 have hpg:=z4yh s.gr
 obtain ⟨R,hRR⟩ : ∃ R,rndP a.tr.l a.x.e.l a.gr.l s.t s.c=R:=⟨_,rfl⟩
 rw [hRR] at hR
 have hst3 : ∀ (h:List AObj) (id:Nat),zy6o h id 3 0 (.agg (clC R.c)) (some [.nils,.nils,.int .i64 0])=some (.junk,h.set id (.cells (clC R.c))):=fun h id=>zfc1 rfl rfl (by simp [clC,z4ja])
 simp (disch:=first|omega|simp<;>omega|fail) [-zA,-zB,-zC,-zD,-zE,a7,z20t,hS,hx,s8,o8_3,l3,l5,l6,l7,hlo,zj97,hR,rdV,hpc,hpv,hpt,hpg,hst3]
 have hRI:=ztza hf.v hf.n hf.w hf.i (tr:=a.tr.l) (ix:=a.x.e.l) (t:=a.t) (gr:=a.gr.l) (k:=a.c.g.l.length) (Nat.le_refl _)
 have hRp:rndP a.tr.l a.x.e.l a.gr.l a.t a.c=R:=by rw [← hRR,← hf.t,← hf.c]
 have hRS:rndS a.tr.l a.x.e.l a.t a.c a.c.g.l.length (rnd0 a.gr.l a.t a.c)=R:=hRp
 rw [hRS] at hRI
 obtain ⟨W,N,q⟩:=z6bz (tr:=a.tr.l) (ix:=a.x.e.l) (gr:=a.gr.l) hf.v hf.n hf.w hf.i hf.tm
 rw [hRp] at q
 have F:=za8r hf.v q
 have hn3:=hf.n
 rw [hf.c] at F
 have hob:=hRI.o
 have hib:=hRI.b
 have hOl:R.o.length≤100000:=by omega
 have hlO:=fun H=>z5ip hOl H
 have hpO:=zx70 R.o
 have hli : ∀ H,lenD H (R.c.i.dv 37 inC)=some (.int .i64 R.c.i.l.length):=fun H=>zupj
 have hli0 : ∀ H,lenD H (s.c.i.dv 37 inC)=some (.int .i64 s.c.i.l.length):=fun H=>zupj
 have hl3:(clC R.c).length=3:=rfl
 have hi1:oneC 1 false ((clC R.c).drop 1)=some (R.c.i.dv 37 inC):=rfl
 have l8:oneC 3 true (o8 s.c (.int .i64 0) (isV s.x) (trV s.tr) (liV s.gr) (.int .i64 s.t))=some (.agg (clC s.c)):=rfl
 obtain ⟨o,ho⟩ : ∃ o,o8 s.c (.int .i64 0) (isV s.x) (trV s.tr) (liV s.gr) (.int .i64 s.t)=o:=⟨_,rfl⟩
 have hol:o.length=8:=by rw [← ho]; rfl
 have hop:zbao o=true:=by rw [← ho]; exact zpl6 s
 rw [ho] at l1 l8 ⊢
 have hcl:cntO s.c.i.l R.c.i.l R.c.i.l.length=R.o.length:=by
  unfold cntO
  rw [List.take_of_length_le (Nat.le_refl _)]
  exact F.n
 have hle:=F.le
 refine zlm5 (zs0r o w s.c.i.l R) (fun k=>R.c.i.l.length-k) (fun k=>k≤R.c.i.l.length) 0 (z515 (by simp (disch:=first|omega|simp<;>omega|fail) [-zA,-zB,-zC,-zD,-zE,zs0r,a7S0,cntO]) (by simp (disch:=first|omega|simp<;>omega|fail) [-zA,-zB,-zC,-zD,-zE,zs0r,a7S0])) (Nat.zero_le _) (fun i hi => ?_)
 simp only [zs0r]
 by_cases h:i<R.c.i.l.length
 case neg =>
  have h':¬ (i:Int)<R.c.i.l.length:=by omega
  obtain rfl:i=R.c.i.l.length:=by omega
  rw [hcl]
  have hle':(s.c.i.l.length:Int)≤R.c.i.l.length:=by omega
  simp (disch:=first|omega|simp<;>omega|fail) [-zA,-zB,-zC,-zD,-zE,a7L0,a7S0,h,h',hi1,hli,hl3,hlO,l1,hli0,hol,hle,hle',z5kh,cTru]
 have h':(i:Int)<R.c.i.l.length:=by omega
 have hym:=List.getElem_mem h
 have hip:=fun H=>zalo (x:=R.c.i) (h:=H) z6gw h
 have hsc:=zt3o (l0:=s.c.i.l) h
 have hp0:=F.p0 _ hym
 have hp1:=F.p1 _ hym
 have hs2:=F.s2 _ hym
 have hs1:=F.s1 _ hym
 have hkd:=zl5x s.c.i.l R.c.i.l[i]
 have hcle:cntO s.c.i.l R.c.i.l i≤1000:=by
  unfold cntO
  have:=List.length_filter_le (fun y=>decide (¬ kdO s.c.i.l y=0)) (R.c.i.l.take i)
  rw [List.length_take] at this
  omega
 obtain ⟨y,hy⟩ : ∃ y,R.c.i.l[i]=y:=⟨_,rfl⟩
 rw [hy] at hip hsc hp0 hp1 hs2 hs1 hkd
 have hfc:=z3mn (g:=fun c i => .int .i64 (z092 c.i.l i)) (x:=s.c) (a:=y.id)
 have hnd:=zh60 F.nd (cmdO s.c.i.l y)
 have hbc:=fun z a b d (hz:z.length=34)=>z3dx (z:=z) (a:=a) (b:=b) (d:=d) hz
 have hpy:=z9kv y
 rcases hkd with ⟨f1,f2⟩|⟨p,hp,f1,f2⟩
 ·simp only [f1] at hfc
  rw [f2] at hsc hp0 hp1 hs2 hs1
  have hC:cmdO s.c.i.l y=⟨1,y.id,y.art⟩:=by unfold cmdO; rw [f2]
  rw [hC] at hp0 hp1 hnd
  simp (disch:=first|omega|simp<;>omega|fail) [-zA,-zB,-zC,-zD,-zE,a7L0,a7S0,h,h',hi1,hli,hl3,hip,zisq,zec3,l8,hol,zgz3,zvh3,zdyp,hfc,hpc]
  obtain ⟨C,hCC⟩ : ∃ C:Cmd,(⟨1,y.id,y.art⟩:Cmd)=C:=⟨_,rfl⟩
  have hrw:DV.int .i64 1 :: .int .i64 y.id::dgC y.art=cmC C:=by rw [← hCC]; rfl
  have hbc:=fun z (hz:z.length=34)=>z3dx (z:=z) (a:=1) (b:=y.id) (d:=y.art) hz
  rw [hCC] at hp0 hp1 hnd hbc
  refine zlm5 (zg7v o w s.c.i.l R i y 1 C) (fun j=>R.o.length-j) (fun j=>j≤R.o.length) 0 (z515 (by simp (disch:=first|omega|simp<;>omega|fail) [-zA,-zB,-zC,-zD,-zE,zg7v,a7S1]) (by simp (disch:=first|omega|simp<;>omega|fail) [-zA,-zB,-zC,-zD,-zE,zg7v,a7S1])) (Nat.zero_le _) (fun j hj => ?_)
  simp only [zg7v]
  by_cases g:j<R.o.length
  case neg =>
   have g':¬ (j:Int)<R.o.length:=by omega
   obtain rfl:j=R.o.length:=by omega
   rw [List.take_of_length_le (Nat.le_refl _)]
   rw [hnd.1 (hp1 (by decide))]
   have h1:=hs1 rfl
   rw [if_neg (by decide)] at hsc
   simp (disch:=first|omega|simp<;>omega|fail) [-zA,-zB,-zC,-zD,-zE,a7L1,a7S1,g,g',hlO,zvh3,h1]
   exact ⟨i+1,zju2 (tail:=[.cells (inC y)]) (by simp (disch:=first|omega|simp<;>omega|fail) [-zA,-zB,-zC,-zD,-zE,zs0r,a7S0,hsc]) (by simp (disch:=first|omega|simp<;>omega|fail) [-zA,-zB,-zC,-zD,-zE,zs0r,a7S0]) (by simp (disch:=first|omega|simp<;>omega|fail) [-zA,-zB,-zC,-zD,-zE]) (by simp (disch:=first|omega|simp<;>omega|fail) [-zA,-zB,-zC,-zD,-zE,belowL,Am.below,z8b8 _ _ hpO]) (by simp (disch:=first|omega|simp<;>omega|fail) [-zA,-zB,-zC,-zD,-zE,zlf2,zmq5 _ _ (zs7w w),zmq5 _ _ (zy11 R.c),zmq5 _ _ hop]),by omega,by omega⟩
  have g':(j:Int)<R.o.length:=by omega
  have hix:=fun H=>zg1b hOl H g
  have hcs:=z9oh g C
  have hnn:(R.o.take j).count C≤1000:=by
   have:=List.count_le_length (a:=C) (l:=R.o.take j)
   rw [List.length_take] at this
   omega
  obtain ⟨z,hz⟩ : ∃ z,R.o[j]=z:=⟨_,rfl⟩
  rw [hz] at hix hcs
  have hcq:=zaz6 (x:=z) (y:=C)
  by_cases e:z=C
  ·rw [if_pos e] at hcs
   rw [decide_eq_true e] at hcq
   obtain ⟨n,hn⟩ : ∃ n,(R.o.take j).count C=n:=⟨_,rfl⟩
   rw [hn] at hcs hnn ⊢
   simp (disch:=first|omega|simp<;>omega|fail) [-zA,-zB,-zC,-zD,-zE,a7L1,a7S1,g,g',hlO,hix,zlco,zgz3,zm6n,hbc,hrw,hcq]
   exact ⟨j+1,z515 (by simp (disch:=first|omega|simp<;>omega|fail) [-zA,-zB,-zC,-zD,-zE,zg7v,a7S1,hcs]) (by simp (disch:=first|omega|simp<;>omega|fail) [-zA,-zB,-zC,-zD,-zE,zg7v,a7S1]),by omega,by omega⟩
  ·rw [if_neg e] at hcs
   rw [decide_eq_false e] at hcq
   obtain ⟨n,hn⟩ : ∃ n,(R.o.take j).count C=n:=⟨_,rfl⟩
   rw [hn] at hcs hnn ⊢
   simp (disch:=first|omega|simp<;>omega|fail) [-zA,-zB,-zC,-zD,-zE,a7L1,a7S1,g,g',hlO,hix,zlco,zgz3,zm6n,hbc,hrw,hcq]
   exact ⟨j+1,z515 (by simp (disch:=first|omega|simp<;>omega|fail) [-zA,-zB,-zC,-zD,-zE,zg7v,a7S1,hcs]) (by simp (disch:=first|omega|simp<;>omega|fail) [-zA,-zB,-zC,-zD,-zE,zg7v,a7S1]),by omega,by omega⟩
 have hiq:=fun H=>zalo (x:=s.c.i) (h:=H) z6gw hp
 simp only [f1] at hfc
 have hpn:¬ (p:Int)<0:=by omega
 obtain ⟨v,hv⟩ : ∃ v,s.c.i.l[p]=v:=⟨_,rfl⟩
 rw [hv] at hiq f2
 by_cases est:y.state=v.state
 ·rw [if_neg (fun q=>q est)] at f2
  rw [f2] at hsc hp0 hp1 hs2 hs1
  have hC:cmdO s.c.i.l y=⟨0,y.id,y.art⟩:=by unfold cmdO; rw [f2]
  rw [hC] at hp0 hp1 hnd
  simp (disch:=first|omega|simp<;>omega|fail) [-zA,-zB,-zC,-zD,-zE,a7L0,a7S0,h,h',hi1,hli,hl3,hip,zisq,zec3,l8,hol,zgz3,zvh3,zdyp,hfc,hpc,hpn,l1,hiq,est]
  obtain ⟨C,hCC⟩ : ∃ C:Cmd,(⟨0,y.id,y.art⟩:Cmd)=C:=⟨_,rfl⟩
  have hrw:DV.int .i64 0 :: .int .i64 y.id::dgC y.art=cmC C:=by rw [← hCC]; rfl
  have hbc:=fun z (hz:z.length=34)=>z3dx (z:=z) (a:=0) (b:=y.id) (d:=y.art) hz
  rw [hCC] at hp0 hp1 hnd hbc
  refine zlm5 (zg7v o w s.c.i.l R i y 0 C) (fun j=>R.o.length-j) (fun j=>j≤R.o.length) 0 (z515 (by simp (disch:=first|omega|simp<;>omega|fail) [-zA,-zB,-zC,-zD,-zE,zg7v,a7S1]) (by simp (disch:=first|omega|simp<;>omega|fail) [-zA,-zB,-zC,-zD,-zE,zg7v,a7S1])) (Nat.zero_le _) (fun j hj => ?_)
  simp only [zg7v]
  by_cases g:j<R.o.length
  case neg =>
   have g':¬ (j:Int)<R.o.length:=by omega
   obtain rfl:j=R.o.length:=by omega
   rw [List.take_of_length_le (Nat.le_refl _)]
   rw [hnd.2 (hp0 rfl)]
   rw [if_pos rfl] at hsc
   simp (disch:=first|omega|simp<;>omega|fail) [-zA,-zB,-zC,-zD,-zE,a7L1,a7S1,g,g',hlO,zvh3]
   exact ⟨i+1,zju2 (tail:=[.cells (inC y)]) (by simp (disch:=first|omega|simp<;>omega|fail) [-zA,-zB,-zC,-zD,-zE,zs0r,a7S0,hsc]) (by simp (disch:=first|omega|simp<;>omega|fail) [-zA,-zB,-zC,-zD,-zE,zs0r,a7S0]) (by simp (disch:=first|omega|simp<;>omega|fail) [-zA,-zB,-zC,-zD,-zE]) (by simp (disch:=first|omega|simp<;>omega|fail) [-zA,-zB,-zC,-zD,-zE,belowL,Am.below,z8b8 _ _ hpO]) (by simp (disch:=first|omega|simp<;>omega|fail) [-zA,-zB,-zC,-zD,-zE,zlf2,zmq5 _ _ (zs7w w),zmq5 _ _ (zy11 R.c),zmq5 _ _ hop]),by omega,by omega⟩
  have g':(j:Int)<R.o.length:=by omega
  have hix:=fun H=>zg1b hOl H g
  have hcs:=z9oh g C
  have hnn:(R.o.take j).count C≤1000:=by
   have:=List.count_le_length (a:=C) (l:=R.o.take j)
   rw [List.length_take] at this
   omega
  obtain ⟨z,hz⟩ : ∃ z,R.o[j]=z:=⟨_,rfl⟩
  rw [hz] at hix hcs
  have hcq:=zaz6 (x:=z) (y:=C)
  by_cases e:z=C
  ·rw [if_pos e] at hcs
   rw [decide_eq_true e] at hcq
   obtain ⟨n,hn⟩ : ∃ n,(R.o.take j).count C=n:=⟨_,rfl⟩
   rw [hn] at hcs hnn ⊢
   simp (disch:=first|omega|simp<;>omega|fail) [-zA,-zB,-zC,-zD,-zE,a7L1,a7S1,g,g',hlO,hix,zlco,zgz3,zm6n,hbc,hrw,hcq]
   exact ⟨j+1,z515 (by simp (disch:=first|omega|simp<;>omega|fail) [-zA,-zB,-zC,-zD,-zE,zg7v,a7S1,hcs]) (by simp (disch:=first|omega|simp<;>omega|fail) [-zA,-zB,-zC,-zD,-zE,zg7v,a7S1]),by omega,by omega⟩
  ·rw [if_neg e] at hcs
   rw [decide_eq_false e] at hcq
   obtain ⟨n,hn⟩ : ∃ n,(R.o.take j).count C=n:=⟨_,rfl⟩
   rw [hn] at hcs hnn ⊢
   simp (disch:=first|omega|simp<;>omega|fail) [-zA,-zB,-zC,-zD,-zE,a7L1,a7S1,g,g',hlO,hix,zlco,zgz3,zm6n,hbc,hrw,hcq]
   exact ⟨j+1,z515 (by simp (disch:=first|omega|simp<;>omega|fail) [-zA,-zB,-zC,-zD,-zE,zg7v,a7S1,hcs]) (by simp (disch:=first|omega|simp<;>omega|fail) [-zA,-zB,-zC,-zD,-zE,zg7v,a7S1]),by omega,by omega⟩
 ·rw [if_pos est] at f2
  rw [f2] at hsc hp0 hp1 hs2 hs1
  have hC:cmdO s.c.i.l y=⟨2,y.id,y.art⟩:=by unfold cmdO; rw [f2]
  rw [hC] at hp0 hp1 hnd
  simp (disch:=first|omega|simp<;>omega|fail) [-zA,-zB,-zC,-zD,-zE,a7L0,a7S0,h,h',hi1,hli,hl3,hip,zisq,zec3,l8,hol,zgz3,zvh3,zdyp,hfc,hpc,hpn,l1,hiq,est]
  obtain ⟨C,hCC⟩ : ∃ C:Cmd,(⟨2,y.id,y.art⟩:Cmd)=C:=⟨_,rfl⟩
  have hrw:DV.int .i64 2 :: .int .i64 y.id::dgC y.art=cmC C:=by rw [← hCC]; rfl
  have hbc:=fun z (hz:z.length=34)=>z3dx (z:=z) (a:=2) (b:=y.id) (d:=y.art) hz
  rw [hCC] at hp0 hp1 hnd hbc
  refine zlm5 (zg7v o w s.c.i.l R i y 2 C) (fun j=>R.o.length-j) (fun j=>j≤R.o.length) 0 (z515 (by simp (disch:=first|omega|simp<;>omega|fail) [-zA,-zB,-zC,-zD,-zE,zg7v,a7S1]) (by simp (disch:=first|omega|simp<;>omega|fail) [-zA,-zB,-zC,-zD,-zE,zg7v,a7S1])) (Nat.zero_le _) (fun j hj => ?_)
  simp only [zg7v]
  by_cases g:j<R.o.length
  case neg =>
   have g':¬ (j:Int)<R.o.length:=by omega
   obtain rfl:j=R.o.length:=by omega
   rw [List.take_of_length_le (Nat.le_refl _)]
   rw [hnd.1 (hp1 (by decide))]
   have h1:=hs2 rfl
   rw [if_neg (by decide)] at hsc
   simp (disch:=first|omega|simp<;>omega|fail) [-zA,-zB,-zC,-zD,-zE,a7L1,a7S1,g,g',hlO,zvh3,h1]
   exact ⟨i+1,zju2 (tail:=[.cells (inC y)]) (by simp (disch:=first|omega|simp<;>omega|fail) [-zA,-zB,-zC,-zD,-zE,zs0r,a7S0,hsc]) (by simp (disch:=first|omega|simp<;>omega|fail) [-zA,-zB,-zC,-zD,-zE,zs0r,a7S0]) (by simp (disch:=first|omega|simp<;>omega|fail) [-zA,-zB,-zC,-zD,-zE]) (by simp (disch:=first|omega|simp<;>omega|fail) [-zA,-zB,-zC,-zD,-zE,belowL,Am.below,z8b8 _ _ hpO]) (by simp (disch:=first|omega|simp<;>omega|fail) [-zA,-zB,-zC,-zD,-zE,zlf2,zmq5 _ _ (zs7w w),zmq5 _ _ (zy11 R.c),zmq5 _ _ hop]),by omega,by omega⟩
  have g':(j:Int)<R.o.length:=by omega
  have hix:=fun H=>zg1b hOl H g
  have hcs:=z9oh g C
  have hnn:(R.o.take j).count C≤1000:=by
   have:=List.count_le_length (a:=C) (l:=R.o.take j)
   rw [List.length_take] at this
   omega
  obtain ⟨z,hz⟩ : ∃ z,R.o[j]=z:=⟨_,rfl⟩
  rw [hz] at hix hcs
  have hcq:=zaz6 (x:=z) (y:=C)
  by_cases e:z=C
  ·rw [if_pos e] at hcs
   rw [decide_eq_true e] at hcq
   obtain ⟨n,hn⟩ : ∃ n,(R.o.take j).count C=n:=⟨_,rfl⟩
   rw [hn] at hcs hnn ⊢
   simp (disch:=first|omega|simp<;>omega|fail) [-zA,-zB,-zC,-zD,-zE,a7L1,a7S1,g,g',hlO,hix,zlco,zgz3,zm6n,hbc,hrw,hcq]
   exact ⟨j+1,z515 (by simp (disch:=first|omega|simp<;>omega|fail) [-zA,-zB,-zC,-zD,-zE,zg7v,a7S1,hcs]) (by simp (disch:=first|omega|simp<;>omega|fail) [-zA,-zB,-zC,-zD,-zE,zg7v,a7S1]),by omega,by omega⟩
  ·rw [if_neg e] at hcs
   rw [decide_eq_false e] at hcq
   obtain ⟨n,hn⟩ : ∃ n,(R.o.take j).count C=n:=⟨_,rfl⟩
   rw [hn] at hcs hnn ⊢
   simp (disch:=first|omega|simp<;>omega|fail) [-zA,-zB,-zC,-zD,-zE,a7L1,a7S1,g,g',hlO,hix,zlco,zgz3,zm6n,hbc,hrw,hcq]
   exact ⟨j+1,z515 (by simp (disch:=first|omega|simp<;>omega|fail) [-zA,-zB,-zC,-zD,-zE,zg7v,a7S1,hcs]) (by simp (disch:=first|omega|simp<;>omega|fail) [-zA,-zB,-zC,-zD,-zE,zg7v,a7S1]),by omega,by omega⟩
namespace evictorCommands
theorem law_holds (dvs) (h:Ty.Args [.sl (.int .i64)] dvs):Am.Sem P 7 dvs (.bool true):=by
 obtain ⟨d1,l1,rfl,h1,rfl⟩:=h
 obtain ⟨x,_,hx⟩:=zjzy h1
 cases hx
 exact zljw mix zgw3 Tryz.func7 zdfl (zmjd x)
end evictorCommands
end Go.Proofs.YtaihpefemjlilaaGreatDoor
