/-
  7 texts of mine in one.
-/
import Derived.Test.YtaihpefemjlilaaGreatDoorC16c54cbb
import Derived.Test.YtaihpefemjlilaaGreatDoorC3c36ba98
import Derived.Test.YtaihpefemjlilaaGreatDoorCab99a2e3
import Derived.Test.YtaihpefemjlilaaGreatDoorC44d96b08
import Derived.Test.YtaihpefemjlilaaGreatDoorCd8ba28c9
import Derived.Test.YtaihpefemjlilaaGreatDoorC0d6876e1
import Derived.Test.YtaihpefemjlilaaGreatDoorC7797044f
import Derived.Test.YtaihpefemjlilaaGreatDoorC822e1df6
set_option maxRecDepth 20000
set_option maxHeartbeats 4000000
open List renaming map_take → zA, map_drop → zB, map_set → zC, map_append → zD, drop_one → zE
set_option linter.unusedSimpArgs false
set_option linter.unusedVariables false
set_option maxRecDepth 20000
namespace Go.Proofs.YtaihpefemjlilaaGreatDoor
open Go Go.Am
structure RI (gs:List (List UInt8 × List UInt8 × Int × Int × Int × List Dg)) (s:Rnd) (B O:Nat):Prop where
 v:ValidC s.c
 g:s.c.g.l.map gl=gs
 b:s.c.i.l.length≤B
 o:s.o.length≤O
section
variable {gs:List (List UInt8 × List UInt8 × Int × Int × Int × List Dg)} {s:Rnd} {B O:Nat} {t:Int}
theorem zzee (h:RI gs s B O) {B' O':Nat} (hb:B≤B') (ho:O≤O'):RI gs s B' O':=⟨h.v,h.g,by have:=h.b; omega,by have:=h.o; omega⟩
theorem z7tf (h:RI gs s B O) (id:Int):RI gs (zyao t s id) B (O+1):=by
 by_cases h0:(z5wo s.c id t 3).2=0
 ·obtain ⟨i,hi,hf⟩:=zkzr h0
  have ht:zcie t:=by
   by_cases q:zcie t
   ·exact q
   ·unfold z5wo at h0; rw [if_pos (.inr q)] at h0; simp at h0
  have hst:s.c.i.l[i].state≠3:=by
   unfold z5wo at h0
   rw [if_neg (fun q=>q.elim (fun q=>q h.v) (fun q=>q ht)),hf,if_neg (by omega),Int.toNat_natCast,List.getElem?_eq_getElem hi] at h0
   intro e
   simp [may,e] at h0
  have hid:s.c.i.l[i].id=id:=by
   obtain ⟨j,hj,e,p1,_⟩:=ziel (p:=fun x:Ins=>decide (x.id=id)) (l:=s.c.i.l) (by show (0:Int)≤z092 s.c.i.l id; rw [hf]; omega)
   have e:z092 s.c.i.l id=j:=e
   rw [hf] at e
   obtain rfl:i=j:=by omega
   simpa using p1
  have hv:=(z1s1 (gs:=gs) (s:=s) (l:=s.c.i.l) (n:=s.c.next) (o:=s.o) ⟨h.v,h.g,rfl,rfl,rfl⟩ ht (List.getElem_mem hi) hst).1
  rw [hid] at hv
  exact ⟨hv.v,hv.g,by rw [hv.i,zo9a]; exact h.b,by rw [hv.o]; simp [zzoh]; exact h.o⟩
 ·have e:zyao t s id=s:=by unfold zyao; rw [if_neg h0]
  rw [e]; exact zzee h (Nat.le_refl _) (by omega)
theorem z165 : ∀ {V:List Int} {s:Rnd} {O:Nat},RI gs s B O→RI gs (V.foldl (zyao t) s) B (O+V.length)
 | [],s,O,h=>h
 | a::V,s,O,h=>by
  have:=z165 (V:=V) (z7tf (t:=t) h a)
  rw [List.foldl_cons,List.length_cons]
  exact zzee this (Nat.le_refl _) (by omega)
theorem z3da (h:RI gs s B O) {tr:List Tri} {ix:List Ixe} {k:Int}:RI gs (zusy tr ix t k s).2 (B+1) (O+1):=by
 cases hb:(zusy tr ix t k s).1 with
 | false=>rw [z0v2 hb]; exact zzee h (by omega) (by omega)
 | true =>
  have hg:=zu5r hb
  cases hc:choC tr ix s.c k t with
  | none=>unfold zusy at hb; rw [hc] at hb; simp at hb
  | some d =>
   have hs:zusy tr ix t k s=if (z4wu s.c k d t).2.2=0 then (true,⟨(z4wu s.c k d t).1,s.o++[⟨1,(z4wu s.c k d t).2.1,d⟩]⟩) else (false,s):=by unfold zusy; rw [hc]
   by_cases h0:(z4wu s.c k d t).2.2=0
   ·rw [if_pos h0] at hs
    have hst:=h0
    unfold z4wu at hst
    split at hst
    ·simp at hst
    rename_i c1
    split at hst
    ·simp at hst
    rename_i c2
    split at hst
    ·simp at hst
    rename_i c3
    have ht:zcie t:=Classical.byContradiction fun q=>c1 (.inr (.inr q))
    have hd:d≠dg0:=fun q=>c1 (.inr (.inl q))
    obtain ⟨K,rfl⟩ : ∃ K:Nat,k=K:=⟨k.toNat,by omega⟩
    have hgl:gs.length=s.c.g.l.length:=by rw [← h.g]; simp
    have hv:=(zd62 (gs:=gs) (s:=s) (l:=s.c.i.l) (n:=s.c.next) (o:=s.o) ⟨h.v,h.g,rfl,rfl,rfl⟩ ht (k:=K) (by omega) hd (by omega) (by omega)).2.2.1
    have hv:=hv (s.o++[⟨1,(z4wu s.c K d t).2.1,d⟩])
    rw [hs]
    exact ⟨hv.v,hv.g,by rw [hv.i]; simp; exact h.b,by simp; exact h.o⟩
   ·rw [if_neg h0] at hs; rw [hs] at hb; simp at hb
theorem z6og {tr:List Tri} {ix:List Ixe} {k want:Int} : ∀ {m:Nat} {s:Rnd} {B O:Nat},RI gs s B O→RI gs (zinu tr ix t k want m s) (B+m) (O+m)
 | 0,s,B,O,h=>h
 | m+1,s,B,O,h=>by
  unfold zinu
  split
  ·exact zzee (z6og (m:=m) (z3da h)) (by omega) (by omega)
  ·exact zzee h (by omega) (by omega)
theorem zf4b (h:RI gs s B O) {tr:List Tri} {ix:List Ixe} {k want:Int}:RI gs (filS tr ix t k want s) (B+want.toNat) (O+want.toNat):=by
 unfold filS
 exact zzee (z6og h) (by omega) (by omega)
end
end Go.Proofs.YtaihpefemjlilaaGreatDoor
set_option linter.unusedSimpArgs false
set_option linter.unusedVariables false
set_option maxRecDepth 20000
namespace Go.Proofs.YtaihpefemjlilaaGreatDoor
open Go Go.Am
section
variable {gs:List (List UInt8 × List UInt8 × Int × Int × Int × List Dg)} {s:Rnd} {B O:Nat} {t:Int}
theorem zux2 (h:RI gs s B O) {k:Int}:RI gs (grS1 t k s) B (O+B):=by
 have h1:=zt4h (k:=k) (G:=znqs s.c k) (b:=false) (l:=s.c.i.l)
 have:=h.b
 exact zzee (z165 (t:=t) (V:=stgL k (znqs s.c k) false s.c.i.l) h) (Nat.le_refl _) (by omega)
theorem znba (h:RI gs s B O) {k want:Int}:RI gs (grS2 t k want s) B (O+B):=by
 have h1:=zt4h (k:=k) (G:=znqs s.c k) (b:=true) (l:=s.c.i.l)
 have:=h.b
 have h2:((stgL k (znqs s.c k) true s.c.i.l).reverse.take ((znqs s.c k).length-want).toNat).length≤B:=by
  rw [List.length_take,List.length_reverse]; omega
 exact zzee (z165 (t:=t) (V:=(stgL k (znqs s.c k) true s.c.i.l).reverse.take ((znqs s.c k).length-want).toNat) h) (Nat.le_refl _) (by omega)
theorem zfti (h:RI gs s B O) {k:Int}:RI gs (grS3 t k s) B (O+3*B):=by
 have h1:=z9e8 (c:=s.c) (k:=k)
 have:=h.b
 have h2:((zu3j s.c k).take (z17v s.c k).toNat).length≤3*B:=by rw [List.length_take]; omega
 exact zzee (z165 (t:=t) (V:=(zu3j s.c k).take (z17v s.c k).toNat) h) (Nat.le_refl _) (by omega)
theorem z714 (h:RI gs s B O) {tr:List Tri} {ix:List Ixe} {k want:Int}:RI gs (grpS tr ix t k want s) (B+want.toNat) (O+5*B+want.toNat) :=
 zzee (zf4b (zfti (znba (zux2 h)))) (by omega) (by omega)
theorem z8wq (h:RI gs s B O) (hB:B≤19) (hO:O≤20000) {k:Nat} {want:Int} (hk:k<s.c.g.l.length) (hw:s.c.g.l[k].want=want):GrOK t s k want:=by
 obtain ⟨q,_⟩:=h.v.g k hk
 have w0:=q.w0
 have w1:=q.w1
 have hb:=h.b
 have ho:=h.o
 refine ⟨hk,hw,by omega,by omega,by omega,by omega,?_⟩
 have r:=znba (t:=t) (k:=k) (want:=want) (zux2 (t:=t) (k:=k) h)
 exact zt0b r.v (by have:=r.b; omega)
end
theorem z4ua {c d:Clu} (h:d.g.l.map gl=c.g.l.map gl) {k:Nat} (hk:k<c.g.l.length) : ∃ hk':k<d.g.l.length,d.g.l[k].want=ze6v c k:=by
 have hl:d.g.l.length=c.g.l.length:=by have:=congrArg List.length h; simpa using this
 refine ⟨by omega,?_⟩
 have e:gl (d.g.l[k]'(by omega))=gl c.g.l[k]:=by
  have:=List.getElem_of_eq h (i:=k) (by simp; omega)
  simpa using this
 unfold ze6v
 rw [List.getElem?_eq_getElem hk]
 simp only [gl,Prod.mk.injEq] at e
 exact e.2.2.1
theorem z3g1 {c:Clu} {s0:Rnd} {tr:List Tri} {ix:List Ixe} {t:Int} {B0 O0:Nat} (h0:RI (c.g.l.map gl) s0 B0 O0) (hw : ∀ g ∈ c.g.l,g.want≤3) : ∀ {k:Nat},k≤c.g.l.length→k≤3→B0+9≤19→RI (c.g.l.map gl) (rndS tr ix t c k s0) (B0+3*k) (O0+100*k)
 | 0,_,_,_=>h0
 | k+1,hk,h3,hB=>by
  have ih:=z3g1 (tr:=tr) (ix:=ix) (t:=t) h0 hw (k:=k) (by omega) (by omega) hB
  have hwk:ze6v c k≤3:=by
   unfold ze6v
   rw [List.getElem?_eq_getElem (show k<c.g.l.length by omega)]
   exact hw _ (List.getElem_mem _)
  exact zzee (z714 (tr:=tr) (ix:=ix) (t:=t) (k:=k) (want:=ze6v c k) ih) (by omega) (by omega)
theorem zwds {c:Clu} (hv:ValidC c):ValidC c.clone :=
 zqis hv (y:=c.i.clone) rfl fun i h1 h2=>⟨rfl,(hv.i i h2).1⟩
theorem zpyu {c:Clu} (hv:ValidC c) {gr:List Int} {t:Int}:RI (c.g.l.map gl) (rnd0 gr t c) c.i.l.length c.i.l.length:=by
 have h0:RI (c.g.l.map gl) ⟨c.clone,[]⟩ c.i.l.length 0:=⟨zwds hv,z9hp _,Nat.le_refl _,Nat.le_refl _⟩
 have hL:=z9p7 (gr:=gr) (t:=t) (l:=c.i.l) (j:=0)
 exact zzee (z165 (t:=t) (V:=ze9z c.i.l 0 gr t) h0) (Nat.le_refl _) (by omega)
theorem zrko {a:RdA} (hv:ValidC a.c) (hn:a.c.g.l.length≤3) (hw : ∀ g ∈ a.c.g.l,g.want≤3) (hi:a.c.i.l.length≤10) (hch:ChOK a.x a.tr) (hov:OvOK (a.c,a.gr,a.t)):RdOK a:=by
 refine ⟨hch,hov,by omega,fun k hk => ?_⟩
 have h0:=zzee (zpyu (gr:=a.gr.l) (t:=a.t) hv) hi hi
 have h1:=z3g1 (tr:=a.tr.l) (ix:=a.x.e.l) (t:=a.t) h0 hw (k:=k) (by omega) (by omega) (by decide)
 obtain ⟨p,q⟩:=z4ua h1.g hk
 exact z8wq h1 (by omega) (by omega) p q
def Sml (c:Clu) (n:Nat):Prop:=(∀ x ∈ c.g.l,x.want≤3)∧c.g.l.length≤n
theorem zipw {c:Clu} {g:Grp} {n:Nat} (h:(zxl9 c g).2=0) (hc:Sml c n) (hn:n≤100) (hg:g.want≤3):Sml (zxl9 c g).1 (n+1):=by
 obtain ⟨h1,h2⟩:=hc
 unfold zxl9 at h ⊢
 split at h
 ·simp at h
 rename_i c1
 rw [if_neg c1]
 split at h
 ·rename_i c2
  rw [if_pos c2]
  split at h
  ·simp at h
  rename_i c3
  rw [if_neg c3]
  have hol:(own (c.g.l++[g])).l=c.g.l++[g]:=z3e9 (by simp; omega)
  refine ⟨fun x hx => ?_,by show (own _).l.length≤_; rw [hol]; simp; omega⟩
  have hx:x ∈ (own (c.g.l++[g])).l:=hx
  rw [hol] at hx
  rcases List.mem_append.1 hx with hx|hx
  ·exact h1 x hx
  ·obtain rfl:x=g:=by simpa using hx
   exact hg
 ·rename_i c2
  rw [if_neg c2]
  have hol:(own (c.g.l.set (z9w0 c.g.l g.ns g.im).toNat g)).l=c.g.l.set (z9w0 c.g.l g.ns g.im).toNat g:=z3e9 (by simp; omega)
  refine ⟨fun x hx => ?_,by show (own _).l.length≤_; rw [hol]; simp; omega⟩
  have hx:x ∈ (own (c.g.l.set (z9w0 c.g.l g.ns g.im).toNat g)).l:=hx
  rw [hol] at hx
  rcases List.mem_or_eq_of_mem_set hx with hx|hx
  ·exact h1 x hx
  ·rw [hx]; exact hg
theorem zk8v : ∀ (k:Nat) (c:Clu) (t:Tp) (n:Nat),Sml c n→n+k≤100→Sml (zp0i k c t).1 (n+k)
 | 0,c,t,n,h,_=>h
 | k+1,c,t,n,h,hn=>by
  have hw:(zlt0 t zdmg).1.want≤3:=by
   have:=z2s7 (t.adv 2) (n:=4) (by decide)
   show tpN (t.adv 2) 4≤3
   omega
  have h1:Sml (dOne c t) (n+1):=by
   unfold dOne
   split
   ·rename_i q; exact zipw q h (by omega) hw
   ·exact ⟨h.1,by have:=h.2; omega⟩
  have:=zk8v k (dOne c t) (zlt0 t zdmg).2 (n+1) h1 (by omega)
  show Sml (zp0i k (dOne c t) (zlt0 t zdmg).2).1 (n+(k+1))
  rw [show n+(k+1)=n+1+k by omega]
  exact this
theorem z7ak (t:Tp) (m:Int):Sml (zcpt t m).1 2:=by
 have h0:Sml (cl0 t) 0:=⟨fun x hx=>by simp [cl0,nilG] at hx,by simp [cl0,nilG]⟩
 have hz:=z2s7 (t.adv 1) (n:=2) (by decide)
 have hz0:=z4rs (t.adv 1) 2
 have h1:=zk8v ((tpN (t.adv 1) 2).toNat+1) (cl0 t) (t.adv 2) 0 h0 (by omega)
 exact ⟨h1.1,by have:=h1.2; show (clD t).1.g.l.length≤2; unfold clD; omega⟩
end Go.Proofs.YtaihpefemjlilaaGreatDoor
set_option linter.unusedSimpArgs false
set_option linter.unusedVariables false
set_option maxRecDepth 20000
namespace Go.Proofs.YtaihpefemjlilaaGreatDoor
open Go Go.Am
theorem zpl6 (s:Scn):zbao (scnC s)=true:=by
 simp only [scnC,zbao,zyp8,z1vd,zcha,zm03,znen,z4yh,Bool.and_self]
noncomputable def cScn:List DV→Nat→Option (DV × List AObj):=conN (fun _=>True) (fun x:Nl=>[x.dv]) (fun x=>(.tup [.agg (scnC (scnV (tp0 x 300)).1),.mp 1 2 0],[.cells (scnC (scnV (tp0 x 300)).1),.cells (tpC (scnV (tp0 x 300)).2),.cells (scnC (scnV (tp0 x 300)).1)]))
theorem zd92 {x:Nl} {n:Nat}:cScn [x.dv] n=some (.tup [.agg (scnC (scnV (tp0 x 300)).1),.mp (n+1) 2 0],[.cells (scnC (scnV (tp0 x 300)).1),.cells (tpC (scnV (tp0 x 300)).2),.cells (scnC (scnV (tp0 x 300)).1)]):=by
 have:=zqtp (A:=fun _=>True) (f:=fun x:Nl=>[x.dv]) (g:=fun x=>(DV.tup [.agg (scnC (scnV (tp0 x 300)).1),.mp 1 2 0],[AObj.cells (scnC (scnV (tp0 x 300)).1),.cells (tpC (scnV (tp0 x 300)).2),.cells (scnC (scnV (tp0 x 300)).1)])) (fun a b e=>by
  simp only [List.cons.injEq,and_true] at e
  rw [z2kw e]) x trivial n
 rw [cScn,this]
 simp [shD,shO,shL,zj45,zpl6,zs7w,Nat.add_comm]
theorem zr8u:(Con.new cScn).Sound P 12:=z3ld (fun x _=>by simp [zbao,zkx7]) fun x _=>zv22 mix zqvq Tryz.func12 zqkh (zfog x)
noncomputable def cRnd:List DV→Option DV:=con RdOK (fun a=>[.agg (clC a.c),.agg (xiC a.x),a.tr.dv 35 trC,a.gr.dv,.int .i64 a.t]) (fun a=>rdV (rndP a.tr.l a.x.e.l a.gr.l a.t a.c))
theorem zunp {a:RdA} (h:RdOK a):cRnd [.agg (clC a.c),.agg (xiC a.x),a.tr.dv 35 trC,a.gr.dv,.int .i64 a.t]=some (rdV (rndP a.tr.l a.x.e.l a.gr.l a.t a.c)) :=
 zzno (A:=RdOK) (f:=fun a=>[.agg (clC a.c),.agg (xiC a.x),a.tr.dv 35 trC,a.gr.dv,.int .i64 a.t]) (g:=fun a=>rdV (rndP a.tr.l a.x.e.l a.gr.l a.t a.c)) (by
  rintro ⟨a1,a2,a3,a4,a5⟩ ⟨b1,b2,b3,b4,b5⟩ e
  simp only [List.cons.injEq,DV.agg.injEq,DV.int.injEq,and_true,true_and] at e
  rw [zh7t e.1,zt7p e.2.1,z47i e.2.2.1,z2kw e.2.2.2.1,e.2.2.2.2]) a h
theorem zclv:(Con.pure cRnd).Sound P 25:=z2au fun a h=>z81i a h
end Go.Proofs.YtaihpefemjlilaaGreatDoor
set_option linter.unusedSimpArgs false
set_option linter.unusedVariables false
set_option maxRecDepth 20000
namespace Go.Proofs.YtaihpefemjlilaaGreatDoor
open Go Go.Am
theorem zxrl {tr:List Tri} {ix:List Ixe} {c d:Clu} {k:Nat} {t:Int} (h:c.g.l.map gl=d.g.l.map gl):choC tr ix c k t=choC tr ix d k t:=by
 have hl:c.g.l.length=d.g.l.length:=by have:=congrArg List.length h; simpa using this
 unfold choC grAt
 rw [if_pos (by omega),if_pos (by omega),Int.toNat_natCast]
 by_cases hk:k<c.g.l.length
 ·rw [List.getElem?_eq_getElem hk,List.getElem?_eq_getElem (show k<d.g.l.length by omega)]
  have e:gl c.g.l[k]=gl (d.g.l[k]'(by omega)):=by
   have:=List.getElem_of_eq h (i:=k) (by simp; omega)
   simpa using this
  simp only [gl,Prod.mk.injEq] at e
  obtain ⟨e1,e2,_,_,_,e6⟩:=e
  show choF tr ix c.g.l[k] k t=choF tr ix (d.g.l[k]'(by omega)) k t
  unfold choF
  rw [e6]
  have hb:choB tr ix c.g.l[k] k t=choB tr ix (d.g.l[k]'(by omega)) k t:=by
   funext x
   unfold choB
   rw [e1,e2]
  rw [hb]
 ·rw [List.getElem?_eq_none (by omega),List.getElem?_eq_none (by omega)]
theorem zmpl {t:Int} {s:Rnd} {id:Int}:(zyao t s id).c.next=s.c.next:=by
 unfold zyao
 split
 ·rename_i h
  show (z5wo s.c id t 3).1.next=_
  unfold z5wo at h ⊢
  by_cases h1:¬ ValidC s.c∨¬ zcie t
  ·rw [if_pos h1] at h; simp at h
  rw [if_neg h1] at h ⊢
  by_cases h2:z092 s.c.i.l id<0
  ·rw [if_pos h2] at h; simp at h
  rw [if_neg h2] at h ⊢
  split at h
  ·rename_i h3; rw [if_pos h3]
  ·simp at h
 ·rfl
theorem zl9x {t:Int} : ∀ {V:List Int} {s:Rnd},(V.foldl (zyao t) s).c.next=s.c.next
 | [],s=>rfl
 | a::V,s=>by rw [List.foldl_cons,zl9x,zmpl]
theorem zzn3 {tr:List Tri} {ix:List Ixe} {t k:Int} {s:Rnd}:(zusy tr ix t k s).2.c.next≤s.c.next+1:=by
 unfold zusy
 split
 ·simp only; omega
 ·split
  ·rename_i h
   rw [(zzaj h).1]
   exact Int.le_refl _
  ·simp only; omega
theorem zhbq {gs:List (List UInt8 × List UInt8 × Int × Int × Int × List Dg)} {s:Rnd} {B O:Nat} {t:Int} (h:RI gs s B O) (ht:zcie t) (hB:B<200) (hn:s.c.next<1099511627776) {tr:List Tri} {ix:List Ixe} {k:Nat} {d:Dg} (hc:choC tr ix s.c k t=some d):(zusy tr ix t k s).1=true:=by
 have hk:k<s.c.g.l.length∧d≠dg0:=by
  unfold choC grAt at hc
  rw [if_pos (by omega),Int.toNat_natCast] at hc
  by_cases hk:k<s.c.g.l.length
  ·rw [List.getElem?_eq_getElem hk] at hc
   have hm:=List.mem_of_find?_eq_some hc
   obtain ⟨i,hi,e⟩:=List.getElem_of_mem hm
   exact ⟨hk,by rw [← e]; exact ((h.v.g k hk).1.ch i hi).1⟩
  ·rw [List.getElem?_eq_none (by omega)] at hc; simp at hc
 have hgl:gs.length=s.c.g.l.length:=by rw [← h.g]; simp
 have hb:=h.b
 have hv:=(zd62 (gs:=gs) (s:=s) (l:=s.c.i.l) (n:=s.c.next) (o:=s.o) ⟨h.v,h.g,rfl,rfl,rfl⟩ ht (k:=k) (by omega) hk.2 (by omega) hn).1
 have h0:(z4wu s.c k d t).2.2=0:=by rw [hv]
 unfold zusy
 rw [hc]
 simp only [h0,if_true]
theorem zrh1 {gs:List (List UInt8 × List UInt8 × Int × Int × Int × List Dg)} {t:Int} (ht:zcie t) {tr:List Tri} {ix:List Ixe} {k:Nat} {want:Int} : ∀ {m:Nat} {s:Rnd} {B O:Nat},RI gs s B O→B+m<200→s.c.next+m<1099511627776→(choC tr ix s.c k t).isSome=true→(znqs (zinu tr ix t k want m s).c k).length=(znqs s.c k).length+m
 | 0,s,B,O,h,_,_,_=>rfl
 | m+1,s,B,O,h,hB,hn,hc=>by
  obtain ⟨d,hd⟩:=Option.isSome_iff_exists.1 hc
  have hy:=zhbq h ht (by omega) (by omega) hd
  have hg:=(zu5r hy).1
  have hs:=z3da (t:=t) h (tr:=tr) (ix:=ix) (k:=k)
  have hx:=zzn3 (tr:=tr) (ix:=ix) (t:=t) (k:=k) (s:=s)
  unfold zinu
  rw [if_pos hy]
  have hcc:choC tr ix (zusy tr ix t k s).2.c k t=choC tr ix s.c k t:=zxrl (by rw [hs.g,h.g])
  rw [zrh1 ht (m:=m) hs (by omega) (by omega) (by rw [hcc]; exact hc),hg]
  omega
end Go.Proofs.YtaihpefemjlilaaGreatDoor
set_option linter.unusedSimpArgs false
set_option linter.unusedVariables false
set_option maxRecDepth 20000
namespace Go.Proofs.YtaihpefemjlilaaGreatDoor
open Go Go.Am
def part (k:Int) (l:List Ins):List Ins:=l.filter fun x=>decide (x.grp=k)
theorem z3e1 {k t:Int} {V:List Int} : ∀ {l:List Ins},(∀ x ∈ l,x.id ∈ V→x.grp≠k)→part k (mkS t V l)=part k l
 | [],_=>rfl
 | a::l,h=>by
  have ih:=z3e1 (k:=k) (t:=t) (V:=V) (l:=l) (fun x hx=>h x (by simp [hx]))
  unfold part mkS at ih ⊢
  rw [List.map_cons,List.filter_cons,List.filter_cons,ih]
  by_cases hm:a.id ∈ V
  ·have hg:=h a (by simp) hm
   rw [if_pos hm]
   simp [zzdy,hg]
  ·rw [if_neg hm]
def own2 (l:List Ins):List (Int × Int):=l.map fun x=>(x.id,x.grp)
theorem zpmk {t:Int} {V:List Int} {l:List Ins}:own2 (mkS t V l)=own2 l:=by
 unfold own2 mkS
 rw [List.map_map]
 refine List.map_congr_left fun x _ => ?_
 simp only [Function.comp]
 split<;>rfl
section
variable {gs:List (List UInt8 × List UInt8 × Int × Int × Int × List Dg)} {B:Nat} {t:Int}
theorem z3az {s:Rnd} {O:Nat} (h:RI gs s B O) (id:Int):(zyao t s id).c.i.l=mkS t [id] s.c.i.l∨(zyao t s id).c.i.l=s.c.i.l:=by
 by_cases h0:(z5wo s.c id t 3).2=0
 ·left
  obtain ⟨i,hi,hf⟩:=zkzr h0
  have ht:zcie t:=by
   by_cases q:zcie t
   ·exact q
   ·unfold z5wo at h0; rw [if_pos (.inr q)] at h0; simp at h0
  have hst:s.c.i.l[i].state≠3:=by
   unfold z5wo at h0
   rw [if_neg (fun q=>q.elim (fun q=>q h.v) (fun q=>q ht)),hf,if_neg (by omega),Int.toNat_natCast,List.getElem?_eq_getElem hi] at h0
   intro e
   simp [may,e] at h0
  have hid:s.c.i.l[i].id=id:=by
   obtain ⟨j,hj,e,p1,_⟩:=ziel (p:=fun x:Ins=>decide (x.id=id)) (l:=s.c.i.l) (by show (0:Int)≤z092 s.c.i.l id; rw [hf]; omega)
   have e:z092 s.c.i.l id=j:=e
   rw [hf] at e
   obtain rfl:i=j:=by omega
   simpa using p1
  have hv:=(z1s1 (gs:=gs) (s:=s) (l:=s.c.i.l) (n:=s.c.next) (o:=s.o) ⟨h.v,h.g,rfl,rfl,rfl⟩ ht (List.getElem_mem hi) hst).1
  rw [hid] at hv
  exact hv.i
 ·right
  unfold zyao; rw [if_neg h0]
theorem zvfe {k:Int} : ∀ {V:List Int} {s:Rnd} {O:Nat},RI gs s B O→(∀ id ∈ V,∀ g,(id,g) ∈ own2 s.c.i.l→g≠k)→part k (V.foldl (zyao t) s).c.i.l=part k s.c.i.l
 | [],s,O,_,_=>rfl
 | a::V,s,O,h,hV=>by
  rw [List.foldl_cons]
  have hr:=z7tf (t:=t) h a
  have hl:=z3az (t:=t) h a
  have ho:own2 (zyao t s a).c.i.l=own2 s.c.i.l:=by
   rcases hl with e|e<;>rw [e]
   exact zpmk
  rw [zvfe (V:=V) hr (fun id hid g hg=>hV id (by simp [hid]) g (by rw [← ho]; exact hg))]
  rcases hl with e|e<;>rw [e]
  refine z3e1 fun x hx hm => ?_
  have:x.id=a:=by simpa using hm
  exact hV a (by simp) x.grp (List.mem_map.2 ⟨x,hx,by rw [this]⟩)
theorem z70f {s:Rnd} {O:Nat} (h:RI gs s B O) {id g g':Int} (h1:(id,g) ∈ own2 s.c.i.l) (h2:(id,g') ∈ own2 s.c.i.l):g=g':=by
 obtain ⟨x,hx,e⟩:=List.mem_map.1 h1
 obtain ⟨y,hy,e'⟩:=List.mem_map.1 h2
 simp only [Prod.mk.injEq] at e e'
 obtain ⟨i,hi,rfl⟩:=List.getElem_of_mem hx
 obtain ⟨j,hj,rfl⟩:=List.getElem_of_mem hy
 have hd:=List.pairwise_iff_getElem.1 (zyak h.v).d
 have:i=j:=by
  rcases Nat.lt_trichotomy i j with q|q|q
  ·have:=hd i j hi hj q; omega
  ·exact q
  ·have:=hd j i hj hi q; omega
 subst this
 rw [← e.2,← e'.2]
theorem zpqw {s:Rnd} {O:Nat} (h:RI gs s B O) {k k':Int} (hk:k'≠k) {V:List Int} (hV : ∀ id ∈ V,(id,k') ∈ own2 s.c.i.l) : ∀ id ∈ V,∀ g,(id,g) ∈ own2 s.c.i.l→g≠k:=fun id hid g hg=>by
 rw [z70f h hg (hV id hid)]; exact hk
theorem zaob {k:Int} {G:List Int} {b:Bool} {l:List Ins} : ∀ id ∈ stgL k G b l,(id,k) ∈ own2 l:=fun id hid=>by
 obtain ⟨x,hx,rfl⟩:=List.mem_map.1 hid
 obtain ⟨h1,h2⟩:=List.mem_filter.1 hx
 have hg:x.grp=k:=by
  unfold stgB at h2
  simp only [Bool.and_eq_true,decide_eq_true_eq] at h2
  exact h2.1
 exact List.mem_map.2 ⟨x,h1,by rw [hg]⟩
theorem z0ky {c:Clu} {k:Int} {sel:Grp→Ins→Bool} : ∀ id ∈ idsP c k sel,(id,k) ∈ own2 c.i.l:=fun id hid=>by
 unfold idsP at hid
 split at hid
 ·obtain ⟨x,hx,rfl⟩:=List.mem_map.1 hid
  unfold selL at hx
  obtain ⟨h1,h2⟩:=List.mem_filter.1 hx
  simp only [Bool.and_eq_true,decide_eq_true_eq] at h2
  exact List.mem_map.2 ⟨x,h1,by rw [h2.1]⟩
 ·simp at hid
theorem zwyf {c:Clu} {k:Int} : ∀ id ∈ zu3j c k,(id,k) ∈ own2 c.i.l:=fun id hid=>by
 unfold zu3j at hid
 split at hid
 ·rcases List.mem_append.1 hid with h|h
  ·exact z0ky id ((zo43 _).mem_iff.1 h)
  ·rcases List.mem_append.1 h with h|h
   ·exact z0ky id h
   ·exact z0ky id (List.mem_reverse.1 (List.mem_of_mem_take h))
 ·simp at hid
theorem zokn {s:Rnd} {tr:List Tri} {ix:List Ixe} {k k':Int} (hk:k'≠k):part k (zusy tr ix t k' s).2.c.i.l=part k s.c.i.l:=by
 unfold zusy
 split
 ·rfl
 ·split
  ·rename_i h0
   obtain ⟨e1,_,e3⟩:=zzaj h0
   show part k (z4wu _ _ _ _).1.i.l=_
   rw [e1]
   show part k (own _).l=_
   rw [z3e9 (by simp; omega)]
   unfold part
   rw [List.filter_append]
   simp [newI,hk]
  ·rfl
theorem zyy9 {tr:List Tri} {ix:List Ixe} {k k' want:Int} (hk:k'≠k) : ∀ {m:Nat} {s:Rnd},part k (zinu tr ix t k' want m s).c.i.l=part k s.c.i.l
 | 0,s=>rfl
 | m+1,s=>by
  unfold zinu
  split
  ·rw [zyy9 hk,zokn hk]
  ·rfl
theorem zlyt {s:Rnd} {O:Nat} (h:RI gs s B O) {tr:List Tri} {ix:List Ixe} {k k' want:Int} (hk:k'≠k):part k (grpS tr ix t k' want s).c.i.l=part k s.c.i.l:=by
 have r1:=zux2 (t:=t) (k:=k') h
 have r2:=znba (t:=t) (k:=k') (want:=want) r1
 have e1:part k (grS1 t k' s).c.i.l=part k s.c.i.l:=zvfe h (zpqw h hk zaob)
 have e2:part k (grS2 t k' want (grS1 t k' s)).c.i.l=part k (grS1 t k' s).c.i.l:=zvfe r1 (zpqw r1 hk fun id hid=>zaob id (List.mem_reverse.1 (List.mem_of_mem_take hid)))
 have e3:part k (grS3 t k' (grS2 t k' want (grS1 t k' s))).c.i.l=part k (grS2 t k' want (grS1 t k' s)).c.i.l:=zvfe r2 (zpqw r2 hk fun id hid=>zwyf id (List.mem_of_mem_take hid))
 show part k (zinu tr ix t k' want _ _).c.i.l=_
 rw [zyy9 hk,e3,e2,e1]
end
end Go.Proofs.YtaihpefemjlilaaGreatDoor
set_option linter.unusedSimpArgs false
set_option linter.unusedVariables false
set_option maxRecDepth 20000
namespace Go.Proofs.YtaihpefemjlilaaGreatDoor
open Go Go.Am
theorem zzme {c d:Clu} {k:Nat} (h:c.g.l.map gl=d.g.l.map gl) (hp:part k c.i.l=part k d.i.l):znqs c k=znqs d k:=by
 have hl:c.g.l.length=d.g.l.length:=by have:=congrArg List.length h; simpa using this
 have hs : ∀ (l:List Ins) (p:Ins→Bool),selL l k p=(part k l).filter p:=fun l p=>by
  unfold selL part
  rw [List.filter_filter]
  congr 1
  funext x
  rw [Bool.and_comm]
 unfold znqs idsP grAt
 rw [if_pos (by omega),if_pos (by omega),Int.toNat_natCast]
 by_cases hk:k<c.g.l.length
 ·rw [List.getElem?_eq_getElem hk,List.getElem?_eq_getElem (show k<d.g.l.length by omega)]
  have e:gl c.g.l[k]=gl (d.g.l[k]'(by omega)):=by
   have:=List.getElem_of_eq h (i:=k) (by simp; omega)
   simpa using this
  simp only [gl,Prod.mk.injEq] at e
  obtain ⟨_,_,_,_,_,e6⟩:=e
  simp only
  rw [hs,hs,hp]
  have hb:z9qu c.g.l[k]=z9qu (d.g.l[k]'(by omega)):=by
   funext x
   unfold z9qu chos
   rw [e6]
  rw [hb]
 ·rw [List.getElem?_eq_none (by omega),List.getElem?_eq_none (by omega)]
theorem zpwj {tr:List Tri} {ix:List Ixe} {t k want:Int} : ∀ {m:Nat} {s:Rnd},(zinu tr ix t k want m s).c.next≤s.c.next+m
 | 0,s=>by simp [zinu]
 | m+1,s=>by
  unfold zinu
  split
  ·have h1:=zpwj (tr:=tr) (ix:=ix) (t:=t) (k:=k) (want:=want) (m:=m) (s:=(zusy tr ix t k s).2)
   have h2:=zzn3 (tr:=tr) (ix:=ix) (t:=t) (k:=k) (s:=s)
   omega
  ·omega
theorem zwk4 {t k want:Int} {s:Rnd}:(grS3 t k (grS2 t k want (grS1 t k s))).c.next=s.c.next:=by
 unfold grS3
 rw [zl9x]
 unfold grS2
 rw [zl9x]
 unfold grS1
 rw [zl9x]
theorem zvzy {tr:List Tri} {ix:List Ixe} {t k want:Int} {s:Rnd}:(grpS tr ix t k want s).c.next≤s.c.next+want.toNat:=by
 unfold grpS filS
 have:=zpwj (tr:=tr) (ix:=ix) (t:=t) (k:=k) (want:=want) (m:=(want-((znqs (grS3 t k (grS2 t k want (grS1 t k s))).c k).length:Int)).toNat) (s:=grS3 t k (grS2 t k want (grS1 t k s)))
 rw [zwk4] at this
 omega
theorem zblg {c:Clu} {s0:Rnd} {tr:List Tri} {ix:List Ixe} {t:Int} (hw : ∀ g ∈ c.g.l,g.want≤3) : ∀ {k:Nat},k≤c.g.l.length→(rndS tr ix t c k s0).c.next≤s0.c.next+3*k
 | 0,_=>by simp [rndS]
 | k+1,hk=>by
  have ih:=zblg (tr:=tr) (ix:=ix) (t:=t) (s0:=s0) hw (k:=k) (by omega)
  have hwk:ze6v c k≤3:=by
   unfold ze6v
   rw [List.getElem?_eq_getElem (show k<c.g.l.length by omega)]
   exact hw _ (List.getElem_mem _)
  have h1:=zvzy (tr:=tr) (ix:=ix) (t:=t) (k:=k) (want:=ze6v c k) (s:=rndS tr ix t c k s0)
  show (grpS tr ix t k (ze6v c k) (rndS tr ix t c k s0)).c.next≤_
  omega
section
variable {c:Clu} {gr:List Int} {tr:List Tri} {ix:List Ixe} {t:Int} (hv:ValidC c) (hn:c.g.l.length≤3) (hw : ∀ g ∈ c.g.l,g.want≤3) (hi:c.i.l.length≤10) (hx:c.next≤1000000) (ht:zcie t)
include hv hn hw hi in
theorem ztza {k:Nat} (hk:k≤c.g.l.length):RI (c.g.l.map gl) (rndS tr ix t c k (rnd0 gr t c)) (10+3*k) (10+100*k) :=
 z3g1 (zzee (zpyu hv) hi hi) hw hk (by omega) (by decide)
include hv hn hw hi in
theorem z7c1 {k:Nat} : ∀ {m:Nat},k<m→m≤c.g.l.length→part k (rndS tr ix t c m (rnd0 gr t c)).c.i.l=part k (rndS tr ix t c (k+1) (rnd0 gr t c)).c.i.l
 | 0,h,_=>by omega
 | m+1,h,hm=>by
  by_cases e:k=m
  ·subst e; rfl
  ·have ih:=z7c1 (k:=k) (m:=m) (by omega) (by omega)
   rw [← ih]
   exact zlyt (ztza hv hn hw hi (tr:=tr) (ix:=ix) (t:=t) (gr:=gr) (k:=m) (by omega)) (by omega)
include hv hn hw hi hx ht in
theorem z2vc {k:Nat} (hk:k<c.g.l.length) (hc:(choC tr ix (rndP tr ix gr t c).c k t).isSome=true):ze6v c k≤(znqs (rndP tr ix gr t c).c k).length:=by
 have rN:=ztza hv hn hw hi (tr:=tr) (ix:=ix) (t:=t) (gr:=gr) (k:=c.g.l.length) (Nat.le_refl _)
 have rK:=ztza hv hn hw hi (tr:=tr) (ix:=ix) (t:=t) (gr:=gr) (k:=k) (by omega)
 have rS:=ztza hv hn hw hi (tr:=tr) (ix:=ix) (t:=t) (gr:=gr) (k:=k+1) (by omega)
 have hp:=z7c1 hv hn hw hi (tr:=tr) (ix:=ix) (t:=t) (gr:=gr) (k:=k) (m:=c.g.l.length) hk (Nat.le_refl _)
 have hg:znqs (rndP tr ix gr t c).c k=znqs (rndS tr ix t c (k+1) (rnd0 gr t c)).c k:=zzme (by show (rndS tr ix t c c.g.l.length (rnd0 gr t c)).c.g.l.map gl=_; rw [rN.g,rS.g]) hp
 rw [hg]
 have hnx:=zblg (tr:=tr) (ix:=ix) (t:=t) (s0:=rnd0 gr t c) hw (k:=k) (by omega)
 have h0x:(rnd0 gr t c).c.next=c.next:=by unfold rnd0; rw [zl9x]; rfl
 have hwk:ze6v c k≤3:=by
  unfold ze6v
  rw [List.getElem?_eq_getElem hk]
  exact hw _ (List.getElem_mem _)
 obtain ⟨s,hs⟩ : ∃ s,rndS tr ix t c k (rnd0 gr t c)=s:=⟨_,rfl⟩
 rw [hs] at rK hnx
 have r3:=zfti (t:=t) (k:=k) (znba (t:=t) (k:=k) (want:=ze6v c k) (zux2 (t:=t) (k:=k) rK))
 have n3:=zwk4 (t:=t) (k:=k) (want:=ze6v c k) (s:=s)
 show ze6v c k≤(znqs (grpS tr ix t k (ze6v c k) (rndS tr ix t c k (rnd0 gr t c))).c k).length
 rw [hs]
 unfold grpS filS
 obtain ⟨s3,hs3⟩ : ∃ s3,grS3 t k (grS2 t k (ze6v c k) (grS1 t k s))=s3:=⟨_,rfl⟩
 rw [hs3] at r3 n3 ⊢
 have hcc:choC tr ix s3.c k t=choC tr ix (rndP tr ix gr t c).c k t:=zxrl (by rw [r3.g]; exact rN.g.symm)
 have:=zrh1 (tr:=tr) (ix:=ix) (k:=k) (want:=ze6v c k) (m:=(ze6v c k-((znqs s3.c k).length:Int)).toNat) ht r3 (by omega) (by omega) (by rw [hcc]; exact hc)
 rw [this]
 omega
end
end Go.Proofs.YtaihpefemjlilaaGreatDoor
set_option linter.unusedSimpArgs false
set_option linter.unusedVariables false
set_option maxRecDepth 20000
namespace Go.Proofs.YtaihpefemjlilaaGreatDoor
open Go Go.Am
theorem znuy (t:Tp) (m:Int) (h0:0≤m) (h1:m≤200):(zcpt t m).1.next≤1000000:=by
 obtain ⟨hc,hg⟩:=zfm1 t
 have m1:=z4rs (clD t).2 (m+1)
 have m2:=z2s7 (clD t).2 (n:=m+1) (by omega)
 have hgl:1≤(clD t).1.g.l.length:=List.length_pos_iff.2 hg
 obtain ⟨-,-,k3,-⟩:=zc7j hgl (tpN (clD t).2 (m+1)).toNat [] (clD t).1.next ((clD t).2.adv 1) hc.n0 ⟨by simp,by simp⟩
 have hn1:=hc.n1
 show (zgc4 (clD t).1.g.l.length (tpN (clD t).2 (m+1)).toNat [] (clD t).1.next ((clD t).2.adv 1)).2.1≤_
 omega
noncomputable def zeua:Tbl:=addT 12 (.new cScn) (addT 25 (.pure cRnd) (addT 23 (.pure cCho) (addT 36 (.pure (cCk zq4a)) (addT 21 (.pure cTru) tbl0))))
theorem z9l9:zeua 12 = .new cScn:=by simp [zeua]
theorem zad4:zeua 25 = .pure cRnd:=by simp [zeua]
theorem zmd1:zeua 23 = .pure cCho:=by simp [zeua]
theorem zjyw:zeua 36 = .pure (cCk zq4a):=by simp [zeua]
theorem zxe8:zeua 21 = .pure cTru:=by simp [zeua]
theorem zp7a:zeua.Sound P:=z0rp zr8u (z0rp zclv (z0rp zq37 (z0rp zm9u (z0rp (zi1x zul1) zr5o))))
def trSl (l:List Tri) (h:l.length≤100000):Sl Tri:=⟨if l=[] then none else some false,l,fun e=>by
 by_cases q:l=[]
 ·exact q
 ·simp [q] at e,by omega⟩
theorem z3eh {l:List Tri} (h:l.length≤100000):(trSl l h).dv 35 trC=trV l:=by
 unfold trSl trV Sl.dv
 by_cases q:l=[]
 ·simp only [q,if_true]; rfl
 ·simp only [q,if_false]; rfl
structure ScnF (s:Scn) (a:RdA):Prop where
 ok:RdOK a
 c:a.c=s.c
 x0:a.x.at_=0
 x:a.x.e.dv 105 ixC=isV s.x
 tr:a.tr.dv 35 trC=trV s.tr
 gr:a.gr.dv=liV s.gr
 t:a.t=s.t
 v:ValidC a.c
 n:a.c.g.l.length≤3
 w : ∀ g ∈ a.c.g.l,g.want≤3
 i:a.c.i.l.length≤10
 nx:a.c.next≤1000000
 tm:zcie a.t
theorem ztew (u:Tp) (hu:u.at_=0) : ∃ a,ScnF (scnV u).1 a:=by
 obtain ⟨hv,hg⟩:=zlnb u 8 (by decide) (by decide)
 have hn9:=zukg u 8 (by decide) (by decide)
 have hat:=z2ep u 8 (by decide) (by decide)
 have hnx:=znuy u 8 (by decide) (by decide)
 obtain ⟨sw,sn⟩:=z7ak u 8
 obtain ⟨c,hc⟩ : ∃ c,(zcpt u 8).1=c:=⟨_,rfl⟩
 obtain ⟨w,hw⟩ : ∃ w,(zcpt u 8).2=w:=⟨_,rfl⟩
 rw [hc] at hv hg hn9 hnx sw sn
 have hi10:c.i.l.length≤10:=by omega
 have hil:=zjjk (t:=w) (c:=c) (3*c.g.l.length)
 have htl:=zso0 (t:=w.adv (3*c.g.l.length)) (c:=c) (3*c.g.l.length)
 have hts:=(z2rl (t:=w.adv (3*c.g.l.length)) (c:=c) (3*c.g.l.length)).1
 have hixs:=z41v (t:=w) (c:=c) (3*c.g.l.length)
 obtain ⟨w2,hw2⟩ : ∃ w2,(triS (w.adv (3*c.g.l.length)) c (3*c.g.l.length)).1=w2:=⟨_,rfl⟩
 have hgl:=zuov (t:=w2) (n:=c.i.l.length)
 have hz:=z2s7 (w2.adv c.i.l.length) (n:=20) (by decide)
 have hz0:=z4rs (w2.adv c.i.l.length) 20
 have htm:zcie (30+tpN (w2.adv c.i.l.length) 20):=⟨by omega,by omega⟩
 have hsc:(scnV u).1=⟨c,idxL w c (3*c.g.l.length),(triS (w.adv (3*c.g.l.length)) c (3*c.g.l.length)).2,graL w2 c.i.l.length,30+tpN (w2.adv c.i.l.length) 20⟩:=by rw [← hw2,← hc,← hw]; rfl
 rw [hsc]
 have hch:ChOK ⟨0,isS (idxL w c (3*c.g.l.length)) (by omega)⟩ (trSl (triS (w.adv (3*c.g.l.length)) c (3*c.g.l.length)).2 (by omega)):=⟨fun k d=>zc0u hts k d,fun r=>z4xb hixs r⟩
 have hov:OvOK (c,nlO (graL w2 c.i.l.length) (by omega),30+tpN (w2.adv c.i.l.length) 20):=by
  refine ⟨fun x hx => ?_,fun n hn => ?_,(show okT (30+tpN (w2.adv c.i.l.length) 20) from ⟨by omega,by omega⟩)⟩
  ·have hx:x ∈ c.i.l:=hx
   obtain ⟨j,hj,rfl⟩:=List.getElem_of_mem hx
   rcases (hv.i j hj).1.de with e|e
   ·rw [e]; exact ⟨by decide,by decide⟩
   ·exact ⟨by have:=e.1; omega,by have:=e.2; omega⟩
  ·have hn:n ∈ graL w2 c.i.l.length:=hn
   have:=z3e0 hn
   exact ⟨by omega,by omega⟩
 exact ⟨⟨c,⟨0,isS (idxL w c (3*c.g.l.length)) (by omega)⟩,trSl (triS (w.adv (3*c.g.l.length)) c (3*c.g.l.length)).2 (by omega),nlO (graL w2 c.i.l.length) (by omega),30+tpN (w2.adv c.i.l.length) 20⟩,zrko hv (by show c.g.l.length≤3; omega) sw hi10 hch hov,rfl,rfl,zz41 (by omega),z3eh (by omega),zigl (by omega),rfl,hv,by show c.g.l.length≤3; omega,sw,hi10,hnx,htm⟩
noncomputable def zbvp (o:List DV) (w:Tp) (c:Clu) (k:Nat):St:=z7en (.mp 3 8 0) (.mp 4 3 0) (.int .i64 k) [.cells o,.cells (tpC w),.cells o,.cells o,.cells (clC c)]
theorem zpoi (x:Nl):Runs zeua a11 [x.dv] (.bool true):=by
 refine ⟨?_⟩
 obtain ⟨u,hu⟩ : ∃ u,tp0 x 300=u:=⟨_,rfl⟩
 have hua:u.at_=0:=by rw [← hu]; rfl
 have hS:=fun n=>zd92 (x:=x) (n:=n)
 rw [hu] at hS
 obtain ⟨a,hf⟩:=ztew u hua
 obtain ⟨s,hs⟩ : ∃ s,(scnV u).1=s:=⟨_,rfl⟩
 rw [hs] at hf hS
 obtain ⟨w,hw⟩ : ∃ w,(scnV u).2=w:=⟨_,rfl⟩
 rw [hw] at hS
 have hR:=zunp hf.ok
 have hxx:xiC a.x=[.int .i64 0,isV s.x]:=by unfold xiC; rw [hf.x0,hf.x]
 rw [hxx,hf.tr,hf.gr,hf.c,hf.t] at hR
 have hx:=zkx7 x
 have ho8:scnC s=o8 s.c (.int .i64 0) (isV s.x) (trV s.tr) (liV s.gr) (.int .i64 s.t):=rfl
 rw [ho8] at hS
 have s8:=fun H=>zws3 (c:=s.c) (a := .int .i64 0) (b:=isV s.x) (d:=trV s.tr) (e:=liV s.gr) (f := .int .i64 s.t) (H:=H) (id:=3) rfl (zcwq _) (zq54 _) (zj6i _) rfl
 have l3:oneC 2 true ((o8 s.c (.int .i64 0) (isV s.x) (trV s.tr) (liV s.gr) (.int .i64 s.t)).drop 3)=some (.agg [.int .i64 0,isV s.x]):=rfl
 have l5:oneC 1 false ((o8 s.c (.int .i64 0) (isV s.x) (trV s.tr) (liV s.gr) (.int .i64 s.t)).drop 5)=some (trV s.tr):=rfl
 have l6:oneC 1 false ((o8 s.c (.int .i64 0) (isV s.x) (trV s.tr) (liV s.gr) (.int .i64 s.t)).drop 6)=some (liV s.gr):=rfl
 have l7:oneC 1 false ((o8 s.c (.int .i64 0) (isV s.x) (trV s.tr) (liV s.gr) (.int .i64 s.t)).drop 7)=some (.int .i64 s.t):=rfl
 have hlo : ∀ c a b d e f,(o8 c a b d e f).length=8:=fun c a b d e f=>rfl
 have hpc:=fun c=>zy11 c
 have hpv:=zm03 s.x
 have hpt:=znen s.tr
 have hpg:=z4yh s.gr
 obtain ⟨R,hRR⟩ : ∃ R,rndP a.tr.l a.x.e.l a.gr.l s.t s.c=R:=⟨_,rfl⟩
 rw [hRR] at hR
 have hst3 : ∀ (h:List AObj) (id:Nat),zy6o h id 3 0 (.agg (clC R.c)) (some [.nils,.nils,.int .i64 0])=some (.junk,h.set id (.cells (clC R.c))):=fun h id=>zfc1 rfl rfl (by simp [clC,z4ja])
 simp (disch:=first|omega|simp<;>omega|fail) [-zA,-zB,-zC,-zD,-zE,a11,z9l9,hS,hx,s8,o8_3,l3,l5,l6,l7,hlo,zad4,hR,rdV,hpc,hpv,hpt,hpg,hst3]
 have hRI:=ztza hf.v hf.n hf.w hf.i (tr:=a.tr.l) (ix:=a.x.e.l) (t:=a.t) (gr:=a.gr.l) (k:=a.c.g.l.length) (Nat.le_refl _)
 have hRe:rndS a.tr.l a.x.e.l a.t a.c a.c.g.l.length (rnd0 a.gr.l a.t a.c)=R:=by rw [← hRR,← hf.t,← hf.c]; rfl
 have hen:=fun k hk hc=>z2vc hf.v hf.n hf.w hf.i hf.nx hf.tm (tr:=a.tr.l) (ix:=a.x.e.l) (gr:=a.gr.l) (k:=k) hk hc
 have hRp:rndP a.tr.l a.x.e.l a.gr.l a.t a.c=R:=hRe
 rw [hRe] at hRI
 rw [hRp] at hen
 have hgl2:=fun k hk=>z4ua (c:=a.c) (d:=R.c) hRI.g (k:=k) hk
 have hlen:R.c.g.l.length=a.c.g.l.length:=by have:=congrArg List.length hRI.g; simpa using this
 have hsm:R.c.g.l.length≤3:=by have:=hf.n; omega
 have hlg : ∀ H,lenD H (R.c.g.dv 6 grC)=some (.int .i64 R.c.g.l.length):=fun H=>zupj
 have hg1:oneC 1 false (clC R.c)=some (R.c.g.dv 6 grC):=rfl
 have hl3:(clC R.c).length=3:=rfl
 have hcl:oneC 3 true (clC R.c)=some (.agg (clC R.c)):=rfl
 have hsd : ∀ (h:List AObj) (id:Nat) (d e:Dg),zy6o h id 32 0 (.agg (dgC d)) (some (dgC e))=some (.junk,h.set id (.cells (dgC d))):=fun h id d e=>zfc1 (z1t1 _) (z1t1 _) (by simp [dgC,zzst])
 obtain ⟨o,ho⟩ : ∃ o,o8 s.c (.int .i64 0) (isV s.x) (trV s.tr) (liV s.gr) (.int .i64 s.t)=o:=⟨_,rfl⟩
 have hol:o.length=8:=by rw [← ho]; rfl
 have hop:zbao o=true:=by rw [← ho]; exact zpl6 s
 rw [ho] at l3 l5 l7 ⊢
 refine zlm5 (zbvp o w R.c) (fun k=>R.c.g.l.length-k) (fun k=>k≤R.c.g.l.length) 0 (z515 (by simp (disch:=first|omega|simp<;>omega|fail) [-zA,-zB,-zC,-zD,-zE,zbvp,z7en]) (by simp (disch:=first|omega|simp<;>omega|fail) [-zA,-zB,-zC,-zD,-zE,zbvp,z7en])) (Nat.zero_le _) (fun k hk => ?_)
 simp only [zbvp]
 by_cases h:k<R.c.g.l.length
 case neg =>
  have h':¬ (k:Int)<R.c.g.l.length:=by omega
  simp (disch:=first|omega|simp<;>omega|fail) [-zA,-zB,-zC,-zD,-zE,zv5f,z7en,h,h',hg1,hlg,hl3,zxe8,cTru]
 have h':(k:Int)<R.c.g.l.length:=by omega
 have hG : ∀ H,zpsc H 6 (R.c.g.dv 6 grC) k=some (.ref (grC R.c.g.l[k])):=fun H=>zalo zry4 h
 obtain ⟨p,hw2⟩:=hgl2 k (by omega)
 have hen:=hen k (by omega)
 obtain ⟨g,hge⟩ : ∃ g,R.c.g.l[k]=g:=⟨_,rfl⟩
 rw [hge] at hG hw2
 have hc:=zfp2 (c:=R.c) (k:=k) (t:=a.t) hf.ok.ch
 rw [hxx,hf.tr] at hc
 obtain ⟨C,hC⟩ : ∃ C,choC a.tr.l a.x.e.l R.c k a.t=C:=⟨_,rfl⟩
 rw [hC] at hc hen
 rw [hf.t] at hc
 have hgd:=ztaz (f:=zq4a) (c:=R.c) (k:=k)
 have hgdd:zq4a R.c k=liV (znqs R.c k):=by rw [zj8p hRI.v]; rfl
 rw [hgdd] at hgd
 rw [← hw2] at hen
 obtain ⟨GL,hGL⟩ : ∃ GL,znqs R.c k=GL:=⟨_,rfl⟩
 rw [hGL] at hgd hen
 cases C with
 | none =>
  have hc:cCho [.agg (clC R.c),.agg [.int .i64 0,isV s.x],trV s.tr,.int .i64 k,.int .i64 s.t]=some (.tup [.agg (dgC dg0),.bool false]):=hc
  simp (disch:=first|omega|simp<;>omega|fail) [-zA,-zB,-zC,-zD,-zE,zv5f,z7en,h,h',hg1,hlg,hl3,hcl,hol,l3,l5,l7,zmd1,hc,hpc,hpv,hpt,z4hl,hsd,z1t1]
  exact ⟨k+1,zju2 (tail:=[.cells (dgC dg0)]) (by simp (disch:=first|omega|simp<;>omega|fail) [-zA,-zB,-zC,-zD,-zE,zbvp,z7en]) (by simp (disch:=first|omega|simp<;>omega|fail) [-zA,-zB,-zC,-zD,-zE,zbvp,z7en]) (by simp (disch:=first|omega|simp<;>omega|fail) [-zA,-zB,-zC,-zD,-zE]) (by simp (disch:=first|omega|simp<;>omega|fail) [-zA,-zB,-zC,-zD,-zE,belowL,Am.below]) (by simp (disch:=first|omega|simp<;>omega|fail) [-zA,-zB,-zC,-zD,-zE,zlf2,zmq5 _ _ (zs7w w),zmq5 _ _ (zy11 R.c),zmq5 _ _ hop]),by omega,by omega⟩
 | some d =>
  have hc:cCho [.agg (clC R.c),.agg [.int .i64 0,isV s.x],trV s.tr,.int .i64 k,.int .i64 s.t]=some (.tup [.agg (dgC d),.bool true]):=hc
  have hen:=hen rfl
  have hnl:¬ (GL.length:Int)<g.want:=by omega
  simp (disch:=first|omega|simp<;>omega|fail) [-zA,-zB,-zC,-zD,-zE,zv5f,z7en,h,h',hg1,hlg,hl3,hcl,hol,l3,l5,l7,zmd1,hc,hpc,hpv,hpt,z4hl,hsd,z1t1,hG,grC,zjyw,hgd,zo8b,hnl]
  exact ⟨k+1,zju2 (tail:=[.cells (dgC d)]) (by simp (disch:=first|omega|simp<;>omega|fail) [-zA,-zB,-zC,-zD,-zE,zbvp,z7en]) (by simp (disch:=first|omega|simp<;>omega|fail) [-zA,-zB,-zC,-zD,-zE,zbvp,z7en]) (by simp (disch:=first|omega|simp<;>omega|fail) [-zA,-zB,-zC,-zD,-zE]) (by simp (disch:=first|omega|simp<;>omega|fail) [-zA,-zB,-zC,-zD,-zE,belowL,Am.below]) (by simp (disch:=first|omega|simp<;>omega|fail) [-zA,-zB,-zC,-zD,-zE,zlf2,zmq5 _ _ (zs7w w),zmq5 _ _ (zy11 R.c),zmq5 _ _ hop]),by omega,by omega⟩
namespace evictorEnough
theorem law_holds (dvs) (h:Ty.Args [.sl (.int .i64)] dvs):Am.Sem P 11 dvs (.bool true):=by
 obtain ⟨d1,l1,rfl,h1,rfl⟩:=h
 obtain ⟨x,_,hx⟩:=zjzy h1
 cases hx
 exact zljw mix zp7a Tryz.func11 zbwx (zpoi x)
end evictorEnough
end Go.Proofs.YtaihpefemjlilaaGreatDoor
