/-
  44 texts of mine in one.
-/
import Derived.Lib.AppendZeros
import Derived.WalkKit
import Derived.Test.YtaihpefemjlilaaGreatDoorCd62ad478
import Derived.Test.YtaihpefemjlilaaGreatDoorCac4878f9
import Derived.Test.YtaihpefemjlilaaGreatDoorC789d9038
import Derived.Test.YtaihpefemjlilaaGreatDoorCe648326b
import Derived.Test.YtaihpefemjlilaaGreatDoorCe5973b22
import Derived.Test.YtaihpefemjlilaaGreatDoorCcccf210b
set_option maxRecDepth 20000
set_option maxHeartbeats 4000000
open List renaming map_take → zA, map_drop → zB, map_set → zC, map_append → zD, drop_one → zE
open Int renaming toNat_natCast → y09
open List renaming eq_nil_of_length_eq_zero → y00, length_set → y01, getElem?_eq_getElem → y02, take_of_length_le → y03, length_append → y04, getElem_of_mem → y05, getElem?_eq_some_iff → y06, getElem?_append_left → y07, getElem_append_left → y08, length_filter_le → y0a, length_map → y0b, getElem_of_eq → y0d, flatMap_cons → y0e, map_append → y0g, append_nil → y0h, length_nil → y0i, getElem?_eq_none → y0k, drop_zero → y0l, getElem_set_self → y0m, map_cons → y0n, replicate_succ → y0o, map_congr_left → y0p, mem_map → y0q
open Nat renaming le_refl → y0c, mul_one → y0r
open Option renaming bind_some → y0f, map_some → y0j
namespace Go.Proofs.YtaihpefemjlilaaGreatDoor
section
set_option linter.unusedSimpArgs false
set_option linter.unusedVariables false
open Go Go.RowKit Go.Am
theorem zupw:(P.info? 3).map (fun i=>(i.zero,i.size,i.bytes))=some (some (.int .i64 0),1,8):=by kernel_rfl
set_option maxRecDepth 100000 in
theorem z4t9 (w:World):Calls Tryz.prog 136 #[.slice none 0 0,.int .i64 0] w fun e w'=>e = .returned (.slice none 0 0)∧w'=w:=by
 go_enter Tryz.func136,Tryz.ntmps136
 go_wp2
 go_ret
 exact ⟨rfl,rfl⟩
set_option maxRecDepth 100000 in
theorem zv1e (n:Nat) (w:World) (hn:1≤n) (hb:n≤1000000):Calls Tryz.prog 136 #[.slice none 0 0,.int .i64 n] w fun e w' =>
  ∃ cap,n≤cap∧e = .returned (.slice (some ⟨w.heap.size,0,none⟩) 0 cap)∧w'=w.drew.alloc (.cells (Builtin.zeroCells (Value.int .i64 0).cells n++Builtin.zeroCells (Value.int .i64 0).cells (cap-n)) 3):=by
 obtain ⟨i0,hi,hz0,hz1,hz2⟩:=info_parts zupw
 have happ:=Lib.run_append_nil_zeros (P:=P) w 22 3 22 3 i0 (.int .i64 0) .i64 .i64 Tryz.underlying22 Tryz.underlying3 hi hz0 n (by omega) (by omega) (by omega) (by rw [hz2]; omega)
 generalize hcap:grownCap w n 0 3=cap2 at happ
 have hcapge:n≤cap2:=by rw [← hcap]; exact grownCap_ge w _ 0 3
 generalize hZ:(Builtin.zeroCells (Value.int .i64 0).cells n++Builtin.zeroCells (Value.int .i64 0).cells (cap2-n))=Z at happ
 go_enter Tryz.func136,Tryz.ntmps136
 go_wp2_with (at_builtin; refine Lib.wpList_append_run _ rfl _ _ _ _ rfl _ _ rfl rfl _ _ happ ?_)
 go_wp2
 go_ret
 exact ⟨cap2,hcapge,rfl,by rw [hZ]; rfl⟩
def z8h2 (p n:Nat):DV:=if n=0 then .nils else .ms p n 0 1 0 n
def zuiy (n:Nat):List AObj:=if n=0 then [] else [.cells (reps n [.int .i64 0])]
theorem zfbw (n:Nat):(reps n [DV.int .i64 0]).length=n:=by
 induction n with
 | zero=>rfl
 | succ n ih=>simp only [reps,y04,ih]; simp; try omega
theorem z58y (n:Nat) (hb:n≤1000000):zwy1 P 136 [.nils,.int .i64 n] [] (fun d h=>d=z8h2 0 n∧h=zuiy n):=by
 refine fun X0 base w E vs hh hr => ?_
 obtain ⟨v1,v2,hv⟩ : ∃ v1 v2,vs = #[v1,v2]:=by
  have h1:vs.toList.length=2:=hr.1
  match hq:vs.toList,h1 with
  | [v1,v2],_=>exact ⟨v1,v2,Array.ext' (by simpa using hq)⟩
 subst hv
 have r1:Rep E (FX X0 E) w v1 .nils:=hr.2 0 (by simp) (by simp)
 have r2:Rep E (FX X0 E) w v2 (.int .i64 n):=hr.2 1 (by simp) (by simp)
 cases r1
 cases r2
 refine Does.of_ent (z36x Tryz.func136 (by kernel_rfl) rfl) ?_
 by_cases h0:n=0
 ·subst h0
  refine (z4t9 w).mono ?_
  rintro e w' ⟨rfl,rfl⟩
  exact ⟨_,.nils,[],E,rfl,⟨rfl,rfl⟩,hh,.nils,.refl _ _ _ _⟩
 ·refine (zv1e n w (by omega) hb).mono ?_
  rintro e w' ⟨cap,hc,rfl,rfl⟩
  have hz : ∀ (E:Env) (X:Forb) (w:World),RepA E X w (Value.int .i64 0).cells.toList [.int .i64 0]:=fun E X w=>by
   refine ⟨rfl,fun i h1 h2 => ?_⟩
   have:i=0:=by simp at h2; omega
   subst this
   exact .int _ _
  have hR:=zr6e (hz E (FX X0 E) w.drew) (s:=1) rfl (by decide) n
  have hn:=zkum hh.drew hR (Builtin.zeroCells (Value.int .i64 0).cells (cap-n)).toList 3
  have he:((Builtin.zeroCells (Value.int .i64 0).cells n).toList++(Builtin.zeroCells (Value.int .i64 0).cells (cap-n)).toList).toArray=Builtin.zeroCells (Value.int .i64 0).cells n++Builtin.zeroCells (Value.int .i64 0).cells (cap-n):=by apply Array.ext'; simp
  rw [he] at hn
  have hE:E=[]:=y00 (by simpa using hh.len)
  subst hE
  refine ⟨_,.ms 0 n 0 1 0 n,[.cells (reps n [.int .i64 0])],_,rfl,⟨by simp [z8h2,h0],by simp [zuiy,h0]⟩,hn.1,?_,(zjji X0 base [] w).trans hn.2⟩
  have hl:=zfbw n
  have hs:(Builtin.zeroCells (Value.int .i64 0).cells n++Builtin.zeroCells (Value.int .i64 0).cells (cap-n)).size=cap:=by
   simp [zle2,Value.cells]; omega
  exact z6v0 (b:=w.drew.heap.size) (L:=(reps n [DV.int .i64 0]).length) (arr:=Builtin.zeroCells (Value.int .i64 0).cells n++Builtin.zeroCells (Value.int .i64 0).cells (cap-n)) (t:=3) (by simp) hl.symm (heap_alloc_new w.drew _) (by omega) (by omega) (fun _=>rfl) (by omega) (by rw [hs]; omega)
noncomputable def zii2:List DV→Nat→Option (DV × List AObj):=conN (fun n:Nat=>n≤1000000) (fun n=>[.nils,.int .i64 n]) (fun n=>(z8h2 0 n,zuiy n))
theorem z073 {k n:Nat}:shD k (z8h2 0 n)=z8h2 k n:=by unfold z8h2; split<;>rfl
theorem zoui {k n:Nat}:(zuiy n).map (shO k)=zuiy n:=by
 unfold zuiy; split
 ·rfl
 ·simp only [y0n,List.map_nil,z05k]
  rw [zj45 k _ ?_]
  induction n with
  | zero=>rfl
  | succ n ih =>
   by_cases h:n=0
   ·subst h; rfl
   ·exact zg0c rfl (ih h)
theorem zp5d {n k:Nat} (h:n≤1000000):zii2 [.nils,.int .i64 n] k=some (z8h2 k n,zuiy n):=by
 have:=zqtp (A:=fun n:Nat=>n≤1000000) (f:=fun n=>[.nils,.int .i64 n]) (g:=fun n=>(z8h2 0 n,zuiy n)) (fun a b e=>by
  simp only [List.cons.injEq,DV.int.injEq,and_true,true_and,Int.natCast_inj] at e
  rw [e]) n h k
 rw [z073,zoui] at this
 exact this
theorem zlc7:(Con.new zii2).Sound P 136:=z3ld (fun n _=>rfl) fun n h=>z58y n h
end
section
set_option linter.unusedSimpArgs false
set_option linter.unusedVariables false
open Go Go.Am
def srtV (p:Nat) (l:List Int):DV:=if l=[] then .nils else .ms p l.length 0 1 l.length l.length
def srtH (pre:List AObj) (l:List Int):List AObj:=if l=[] then pre else pre++[.cells (l.map (.int .i64))]
theorem zh11 {p:Nat}:srtV p [] = .nils:=rfl
theorem zwug {pre:List AObj}:srtH pre []=pre:=rfl
theorem zgky {p:Nat} {l:List Int} (h:l≠[]):srtV p l = .ms p l.length 0 1 l.length l.length:=if_neg h
theorem zzyq {pre:List AObj} {l:List Int} (h:l≠[]):srtH pre l=pre++[.cells (l.map (.int .i64))]:=if_neg h
theorem ztsi {pre pre':List AObj} {l l':List Int} (h1:srtV pre.length l=srtV pre'.length l') (h2:srtH pre l=srtH pre' l'):pre=pre'∧l=l':=by
 by_cases e:l=[]
 ·by_cases e':l'=[]
  ·subst e e'; exact ⟨h2,rfl⟩
  ·subst e; rw [zh11,zgky e'] at h1; cases h1
 ·by_cases e':l'=[]
  ·subst e'; rw [zh11,zgky e] at h1; cases h1
  ·rw [zzyq e,zzyq e'] at h2
   have h:=List.append_inj' h2 rfl
   refine ⟨h.1,?_⟩
   have h3:=h.2
   simp only [List.cons.injEq,AObj.cells.injEq,and_true,zwfp] at h3
   exact h3
structure SrtOK (a:Clu × List AObj × List Int):Prop where
 h : ∀ X,objV (a.2.1++X) 0 3=some (clC a.1)
 l : ∀ x ∈ a.2.2,0≤z092 a.1.i.l x
 b:a.2.2.length≤19
theorem SrtOK.c {a b:Clu × List AObj × List Int} (h1:SrtOK a) (h2:SrtOK b) (e:a.2.1=b.2.1):a.1=b.1:=by
 have q1:=h1.h []
 have q2:=h2.h []
 rw [e,q2] at q1
 exact zh7t (Option.some.inj q1).symm
noncomputable def zgw0 (f:Clu × List AObj × List Int→List DV):List DV→List AObj→Option (DV × List AObj):=conH SrtOK (fun a=>(f a,srtH a.2.1 a.2.2)) (fun a=>(.tup [],srtH a.2.1 (zxu4 (ltV a.1) a.2.2)))
theorem zs7q {f:Clu × List AObj × List Int→List DV} (hf : ∀ a b,f a=f b→srtV a.2.1.length a.2.2=srtV b.2.1.length b.2.2) {a:Clu × List AObj × List Int} (h:SrtOK a):zgw0 f (f a) (srtH a.2.1 a.2.2)=some (.tup [],srtH a.2.1 (zxu4 (ltV a.1) a.2.2)) :=
 zu6y (A:=SrtOK) (f:=fun a=>(f a,srtH a.2.1 a.2.2)) (g:=fun a=>(.tup [],srtH a.2.1 (zxu4 (ltV a.1) a.2.2))) (fun a b h1 h2 e=>by
  simp only [Prod.mk.injEq] at e
  obtain ⟨p,q⟩:=ztsi (hf a b e.1) e.2
  rw [p,q,h1.c h2 p]) a h
def fIns (a:Clu × List AObj × List Int):List DV:=[srtV a.2.1.length a.2.2,.int .i64 0,.int .i64 a.2.2.length,fV2]
def fStb (a:Clu × List AObj × List Int):List DV:=[srtV a.2.1.length a.2.2,.int .i64 a.2.2.length,fV2]
def fSrt (a:Clu × List AObj × List Int):List DV:=[srtV a.2.1.length a.2.2,fV2]
theorem z7g0 {c:Clu} {pre:List AObj} {l:List Int} (h:SrtOK (c,pre,l)):zgw0 fIns [srtV pre.length l,.int .i64 0,.int .i64 l.length,fV2] (srtH pre l)=some (.tup [],srtH pre (zxu4 (ltV c) l)) :=
 zs7q (f:=fIns) (fun a b e=>by simp only [fIns,List.cons.injEq] at e; exact e.1) h
theorem z24v {c:Clu} {pre:List AObj} {l:List Int} (h:SrtOK (c,pre,l)):zgw0 fStb [srtV pre.length l,.int .i64 l.length,fV2] (srtH pre l)=some (.tup [],srtH pre (zxu4 (ltV c) l)) :=
 zs7q (f:=fStb) (fun a b e=>by simp only [fStb,List.cons.injEq] at e; exact e.1) h
theorem zllv {c:Clu} {pre:List AObj} {l:List Int} (h:SrtOK (c,pre,l)):zgw0 fSrt [srtV pre.length l,fV2] (srtH pre l)=some (.tup [],srtH pre (zxu4 (ltV c) l)) :=
 zs7q (f:=fSrt) (fun a b e=>by simp only [fSrt,List.cons.injEq] at e; exact e.1) h
theorem z0p1 {lt:Int→Int→Bool} {l:List Int} (h:l≠[]):zxu4 lt l≠[]:=fun e=>h (y00 (by rw [← zmgd (lt:=lt),e]; rfl))
theorem zplv (pre:List AObj):RunsH T216 a142 [.nils,.int .i64 0,.int .i64 0,fV2] pre (.tup []) pre:=by
 refine ⟨?_⟩
 simp (disch:=first|omega|(simp [-zA,-zB,-zC,-zD,-zE]<;>omega)|fail) [-zA,-zB,-zC,-zD,-zE,a142]
 refine zlm5 (fun _:Unit=>zzbm .nils (.int .i64 0) (.int .i64 0) fV2 (.int .i64 1) pre) (fun _=>0) (fun _=>True) () (z515 (by simp (disch:=first|omega|(simp [-zA,-zB,-zC,-zD,-zE]<;>omega)|fail) [-zA,-zB,-zC,-zD,-zE,zzbm]) (by simp (disch:=first|omega|(simp [-zA,-zB,-zC,-zD,-zE]<;>omega)|fail) [-zA,-zB,-zC,-zD,-zE,zzbm])) trivial (fun i hi => ?_)
 simp (disch:=first|omega|(simp [-zA,-zB,-zC,-zD,-zE]<;>omega)|fail) [-zA,-zB,-zC,-zD,-zE,z3nb,zzbm]
theorem zaa2 {a:Clu × List AObj × List Int} (h:SrtOK a):RunsH T216 a142 (fIns a) (srtH a.2.1 a.2.2) (.tup []) (srtH a.2.1 (zxu4 (ltV a.1) a.2.2)):=by
 obtain ⟨c,pre,l⟩:=a
 by_cases e:l=[]
 ·subst e; exact zplv pre
 ·have:=zwc3 c pre l h.h h.l (by have:=h.b; simp at this; omega)
  simp only [fIns,zgky e,zzyq e,zzyq (z0p1 e)]
  exact this
noncomputable def T217:Tbl:=addT 142 (.heap (zgw0 fIns)) tbl0
theorem zls2:T217 142 = .heap (zgw0 fIns):=by simp [T217]
theorem z7l6:T217.Sound P:=z0rp (zh92 fun a h=>zv22 mix zqkk Tryz.func142 ztmv (zaa2 h)) zr5o
theorem zoqc {pre:List AObj} {l:List Int}:lenD (srtH pre l) (srtV pre.length l)=some (.int .i64 l.length):=by
 by_cases e:l=[]
 ·subst e; rfl
 ·rw [zgky e,zzyq e]
  simp [zrsa]
theorem zoxb {a:Clu × List AObj × List Int} (h:SrtOK a):RunsH T217 a133 (fStb a) (srtH a.2.1 a.2.2) (.tup []) (srtH a.2.1 (zxu4 (ltV a.1) a.2.2)):=by
 obtain ⟨c,pre,l⟩:=a
 refine ⟨?_⟩
 have hb:=h.b
 have he:=z7g0 h
 simp only at hb he ⊢
 obtain ⟨n,hn⟩ : ∃ n,l.length=n:=⟨_,rfl⟩
 rw [hn] at hb he
 simp only [fStb,hn]
 obtain ⟨V,hV⟩ : ∃ V,srtV pre.length l=V:=⟨_,rfl⟩
 rw [hV] at he ⊢
 obtain ⟨H,hH⟩ : ∃ H,srtH pre l=H:=⟨_,rfl⟩
 rw [hH] at he ⊢
 obtain ⟨K,hK⟩ : ∃ K,srtH pre (zxu4 (ltV c) l)=K:=⟨_,rfl⟩
 rw [hK] at he ⊢
 have h1:¬ (20:Int)≤n:=by omega
 have h2:¬ (20:Int)<n:=by omega
 simp (disch:=first|omega|(simp [-zA,-zB,-zC,-zD,-zE]<;>omega)|fail) [-zA,-zB,-zC,-zD,-zE,a133]
 refine zlm5 (fun _:Unit=>z58v V (.int .i64 n) fV2 (.int .i64 20) (.int .i64 0) (.int .i64 20) H) (fun _=>0) (fun _=>True) () (z515 (by simp (disch:=first|omega|(simp [-zA,-zB,-zC,-zD,-zE]<;>omega)|fail) [-zA,-zB,-zC,-zD,-zE,z58v]) (by simp (disch:=first|omega|(simp [-zA,-zB,-zC,-zD,-zE]<;>omega)|fail) [-zA,-zB,-zC,-zD,-zE,z58v])) trivial (fun i hi => ?_)
 simp (disch:=first|omega|(simp [-zA,-zB,-zC,-zD,-zE]<;>omega)|fail) [-zA,-zB,-zC,-zD,-zE,zlcx,z58v,h1,zls2,he]
 refine zlm5 (fun _:Unit=>zh9n V (.int .i64 n) fV2 (.int .i64 20) K) (fun _=>0) (fun _=>True) () ?_ trivial (fun i hi => ?_)
 ·exact z515 (by simp (disch:=first|omega|(simp [-zA,-zB,-zC,-zD,-zE]<;>omega)|fail) [-zA,-zB,-zC,-zD,-zE,zh9n]) (by simp (disch:=first|omega|(simp [-zA,-zB,-zC,-zD,-zE]<;>omega)|fail) [-zA,-zB,-zC,-zD,-zE,zh9n])
 simp (disch:=first|omega|(simp [-zA,-zB,-zC,-zD,-zE]<;>omega)|fail) [-zA,-zB,-zC,-zD,-zE,z4o2,zh9n,h2]
end
section
set_option linter.unusedSimpArgs false
set_option linter.unusedVariables false
open Go Go.Am
noncomputable def T218:Tbl:=addT 133 (.heap (zgw0 fStb)) tbl0
theorem ze4f:T218 133 = .heap (zgw0 fStb):=by simp [T218]
theorem zcyn:T218.Sound P:=z0rp (zh92 fun a h=>zv22 mix z7l6 Tryz.func133 zl8e (zoxb h)) zr5o
theorem z9pg {a:Clu × List AObj × List Int} (h:SrtOK a):RunsH T218 a117 (fSrt a) (srtH a.2.1 a.2.2) (.tup []) (srtH a.2.1 (zxu4 (ltV a.1) a.2.2)):=by
 obtain ⟨c,pre,l⟩:=a
 refine ⟨?_⟩
 have he:=z24v h
 have hl:=zoqc (pre:=pre) (l:=l)
 simp only at he hl ⊢
 simp only [fSrt]
 obtain ⟨V,hV⟩ : ∃ V,srtV pre.length l=V:=⟨_,rfl⟩
 rw [hV] at he hl ⊢
 obtain ⟨H,hH⟩ : ∃ H,srtH pre l=H:=⟨_,rfl⟩
 rw [hH] at he hl ⊢
 simp (disch:=first|omega|(simp [-zA,-zB,-zC,-zD,-zE]<;>omega)|fail) [-zA,-zB,-zC,-zD,-zE,a117,ze4f,he,hl]
theorem z6r3:(Con.heap (zgw0 fSrt)).Sound P 117:=zh92 fun a h=>zv22 mix zcyn Tryz.func117 zt1q (z9pg h)
structure RS where
 i:Nat
 j:Nat
 L:List Int
def S230 (pre:List AObj) (P n:Nat) (a:RS):St:=z20v (.ms P n 0 1 n n) (.int .i64 a.i) (.int .i64 a.j) (pre++[.cells (a.L.map (.int .i64))])
structure RInv (l:List Int) (n:Nat) (a:RS):Prop where
 s:a.i+a.j+1=n
 ln:a.L.length=n
 g : ∀ k,k<n→a.L[k]? = if k<a.i∨a.j<k then l[n-1-k]? else l[k]?
theorem zvfq {l:List Int} {n:Nat} {a:RS} (hl:l.length=n) (h:RInv l n a) (he:a.j≤a.i):a.L=l.reverse:=by
 apply List.ext_getElem?
 intro k
 by_cases hk:k<n
 ·rw [h.g k hk,List.getElem?_reverse (by omega),hl]
  split
  ·rfl
  ·have:=h.s
   have:n-1-k=k:=by omega
   rw [this]
 ·rw [y0k (by rw [h.ln]; omega),y0k (by rw [List.length_reverse]; omega)]
theorem zhbx {l:List Int} {n:Nat} {i j:Nat} {L:List Int} (hl:l.length=n) (h:RInv l n ⟨i,j,L⟩) (hi:i<j) (x y:Int) (hx:L[i]? = some x) (hy:L[j]? = some y):RInv l n ⟨i+1,j-1,(L.set i y).set j x⟩:=by
 obtain ⟨h1,h2,h3⟩:=h
 simp only at h1 h2 h3
 refine ⟨by simp only; omega,by simpa using h2,fun k hk => ?_⟩
 have gx:=h3 i (by omega)
 have gy:=h3 j (by omega)
 rw [if_neg (by omega),hx] at gx
 rw [if_neg (by omega),hy] at gy
 have hLk:=h3 k hk
 simp only [List.getElem?_set,y01]
 by_cases e1:j=k
 ·subst e1
  rw [if_pos rfl,if_pos (by omega),if_pos (by omega),show n-1-j=i by omega]
  exact gx
 ·rw [if_neg e1]
  by_cases e2:i=k
  ·subst e2
   rw [if_pos rfl,if_pos (by omega),if_pos (by omega),show n-1-i=j by omega]
   exact gy
  ·rw [if_neg e2,hLk]
   by_cases e3:k<i∨j<k
   ·rw [if_pos e3,if_pos (by omega)]
   ·rw [if_neg e3,if_neg (by omega)]
theorem zj4k (pre:List AObj) (l:List Int) (h0:l≠[]) (hb:l.length≤1000000):RunsH tbl0 a86 [.ms pre.length l.length 0 1 l.length l.length] (pre++[.cells (l.map (.int .i64))]) (.tup []) (pre++[.cells (l.reverse.map (.int .i64))]):=by
 refine ⟨?_⟩
 obtain ⟨n,hn⟩ : ∃ n,l.length=n:=⟨_,rfl⟩
 rw [hn] at hb ⊢
 obtain ⟨m,rfl⟩ : ∃ m,n=m+1:=⟨n-1,by cases l with|nil=>exact absurd rfl h0|cons a l=>simp at hn; omega⟩
 simp (disch:=first|omega|(simp [-zA,-zB,-zC,-zD,-zE]<;>omega)|fail) [-zA,-zB,-zC,-zD,-zE,a86,zjj2,hn]
 refine zlm5 (S230 pre pre.length (m+1)) (fun a=>a.j+1-a.i) (fun a=>RInv l (m+1) a) ⟨0,m,l⟩ (z515 (by simp (disch:=first|omega|(simp [-zA,-zB,-zC,-zD,-zE]<;>omega)|fail) [-zA,-zB,-zC,-zD,-zE,S230,z20v]) (by simp (disch:=first|omega|(simp [-zA,-zB,-zC,-zD,-zE]<;>omega)|fail) [-zA,-zB,-zC,-zD,-zE,S230,z20v])) ⟨by simp,hn,fun k hk=>by rw [if_neg (by simp only; omega)]⟩ (fun a ha => ?_)
 obtain ⟨i,j,L⟩:=a
 have hs:=ha.s
 have hl:=ha.ln
 simp only at hs hl
 simp (disch:=first|omega|(simp [-zA,-zB,-zC,-zD,-zE]<;>omega)|fail) [-zA,-zB,-zC,-zD,-zE,zw44,z20v,S230]
 by_cases h:i<j
 ·have h':(i:Int)<j:=by omega
  have hi:i<L.length:=by omega
  have hj:j<L.length:=by omega
  have hij:j<(L.set i L[j]).length:=by rw [y01]; exact hj
  have hj1:((j-1:Nat):Int)=(j:Int)-1:=by omega
  have hnx:=zhbx hn ha h L[i] L[j] (y02 hi) (y02 hj)
  simp (disch:=first|omega|(simp [-zA,-zB,-zC,-zD,-zE]<;>omega)|fail) [-zA,-zB,-zC,-zD,-zE,h,h',hl,hi,hj,zjj2,zxft,ziq3,y01]
  refine ⟨⟨i+1,j-1,(L.set i L[j]).set j L[i]⟩,z515 (by simp (disch:=first|omega|(simp [-zA,-zB,-zC,-zD,-zE]<;>omega)|fail) [-zA,-zB,-zC,-zD,-zE,S230,z20v,hj1]) (by simp (disch:=first|omega|(simp [-zA,-zB,-zC,-zD,-zE]<;>omega)|fail) [-zA,-zB,-zC,-zD,-zE,S230,z20v]),by simp only; omega,hnx⟩
 ·have h':¬ (i:Int)<j:=by omega
  have e:=zvfq hn ha (by simp only; omega)
  simp only at e
  simp (disch:=first|omega|(simp [-zA,-zB,-zC,-zD,-zE]<;>omega)|fail) [-zA,-zB,-zC,-zD,-zE,h,h',e]
theorem zyu2 (pre:List AObj):RunsH tbl0 a86 [.nils] pre (.tup []) pre:=by
 refine ⟨?_⟩
 simp (disch:=first|omega|(simp [-zA,-zB,-zC,-zD,-zE]<;>omega)|fail) [-zA,-zB,-zC,-zD,-zE,a86]
 refine zlm5 (fun _:Unit=>z20v .nils (.int .i64 0) (.int .i64 (-1)) pre) (fun _=>0) (fun _=>True) () (z515 (by simp (disch:=first|omega|(simp [-zA,-zB,-zC,-zD,-zE]<;>omega)|fail) [-zA,-zB,-zC,-zD,-zE,z20v]) (by simp (disch:=first|omega|(simp [-zA,-zB,-zC,-zD,-zE]<;>omega)|fail) [-zA,-zB,-zC,-zD,-zE,z20v])) trivial (fun i hi => ?_)
 simp (disch:=first|omega|(simp [-zA,-zB,-zC,-zD,-zE]<;>omega)|fail) [-zA,-zB,-zC,-zD,-zE,zw44,z20v]
noncomputable def cRev:List DV→List AObj→Option (DV × List AObj):=conH (fun a:List AObj × List Int=>a.2.length≤1000000) (fun a=>([srtV a.1.length a.2],srtH a.1 a.2)) (fun a=>(.tup [],srtH a.1 a.2.reverse))
theorem zdxu {pre:List AObj} {l:List Int} (h:l.length≤1000000):cRev [srtV pre.length l] (srtH pre l)=some (.tup [],srtH pre l.reverse) :=
 zcpb (A:=fun a:List AObj × List Int=>a.2.length≤1000000) (f:=fun a=>([srtV a.1.length a.2],srtH a.1 a.2)) (g:=fun a=>(.tup [],srtH a.1 a.2.reverse)) (fun a b e=>by
  simp only [Prod.mk.injEq,List.cons.injEq,and_true] at e
  obtain ⟨p,q⟩:=ztsi e.1 e.2
  rw [p,q]) (pre,l) h
theorem zx90:(Con.heap cRev).Sound P 86:=zh92 fun a h=>zv22 mix zr5o Tryz.func86 z2i3 (by
 obtain ⟨pre,l⟩:=a
 by_cases e:l=[]
 ·subst e; exact zyu2 pre
 ·have:=zj4k pre l e h
  simp only [zgky e,zzyq e,zzyq (show l.reverse≠[] by simpa using e)]
  exact this)
end
section
set_option linter.unusedSimpArgs false
set_option linter.unusedVariables false
open Go Go.Am
structure VisL (h:List AObj) (x:DV) (l:List Int):Prop where
 len : ∀ X,lenD (h++X) x=some (.int .i64 l.length)
 vis : ∀ X,visY (h++X) x=some (l.length,l.map (.int .i64))
 oneC:x.one=true
structure CA where
 h:List AObj
 x:DV
 y:DV
 z:DV
 lx:List Int
 ly:List Int
 lz:List Int
structure CAOK (a:CA):Prop where
 x:VisL a.h a.x a.lx
 y:VisL a.h a.y a.ly
 z:VisL a.h a.z a.lz
 b:a.lx.length+a.ly.length+a.lz.length≤1000000
def newV (p n k:Nat):DV:=if n=0 then .nils else .ms p n 0 1 k n
def newH (pre:List AObj) (n:Nat) (u:List Int):List AObj:=if n=0 then pre else pre++[.cells ((u++List.replicate (n-u.length) 0).map (.int .i64))]
theorem zzao (pre:List AObj) (n:Nat) (u:List Int) : ∃ X,newH pre n u=pre++X:=by
 unfold newH; split
 ·exact ⟨[],by simp⟩
 ·exact ⟨_,rfl⟩
theorem zbix {u v:List Int} {m:Nat} (hm:v.length≤m):zk7y ((u++List.replicate m 0).map (DV.int .i64)) u.length (v.map (.int .i64))=(u++v++List.replicate (m-v.length) 0).map (DV.int .i64):=by
 unfold zk7y
 rw [← List.map_take,← List.map_drop,List.take_left' rfl,y0b,← List.drop_drop,List.drop_left' rfl,List.drop_replicate,← y0g,← y0g]
theorem znme {pre:List AObj} {n:Nat} {u v:List Int} (h:u.length+v.length≤n) (hn:n≤1000000):appX (newH pre n u) 1 8 (newV pre.length n u.length) v.length (v.map (.int .i64))=some (newV pre.length n (u.length+v.length),newH pre n (u++v)):=by
 by_cases h0:n=0
 ·subst h0
  have hu:u=[]:=y00 (by omega)
  have hv:v=[]:=y00 (by omega)
  subst hu hv
  exact zw6v (by decide) (by decide)
 ·simp only [newV,newH,if_neg h0]
  have hl:((u++List.replicate (n-u.length) 0).map (DV.int .i64)).length=n:=by simp; omega
  have ho:ziu0 (pre++[.cells ((u++List.replicate (n-u.length) 0).map (DV.int .i64))]) pre.length=some ((u++List.replicate (n-u.length) 0).map (DV.int .i64)):=by simp [ziu0]
  have hs:=zbix (u:=u) (v:=v) (m:=n-u.length) (by omega)
  have ha:(v.map (DV.int .i64)).all DV.one=true:=by simp [DV.one]
  unfold appX
  rw [if_neg (by simp)]
  simp only [ho,y0f,hl,ha,and_true,if_true]
  by_cases hv:v.length=0
  ·have hv':v=[]:=y00 hv
   subst hv'
   simp
  ·rw [if_neg hv,if_pos (by omega)]
   rw [zxft]
   simp only [Nat.zero_add,y0r,hs,List.set_cons_zero,y04,show n-u.length-v.length=n-(u.length+v.length) by omega]
theorem zy6x {p n:Nat}:newV p n 0=z8h2 p n:=rfl
theorem z7d9 {pre:List AObj} {n:Nat}:newH pre n []=pre++zuiy n:=by
 unfold newH zuiy; split
 ·simp
 ·have:reps n [DV.int .i64 0]=(List.replicate n 0).map (.int .i64):=by
   induction n with
   | zero=>rfl
   | succ n ih =>
    by_cases h:n=0
    ·subst h; rfl
    ·have:=ih h
     simp only [reps] at this ⊢
     rw [y0o,List.flatten_cons,this,y0o]; rfl
  rw [this]; simp
noncomputable def T219:Tbl:=addT 136 (.new zii2) tbl0
theorem zzxd:T219 136 = .new zii2:=by simp [T219]
theorem z1wr:T219.Sound P:=z0rp zlc7 zr5o
def zev2 (a b c:Nat):Nat→Nat
 | 0=>0
 | 1=>a
 | 2=>a+b
 | _=>a+b+c
def z038 (a b c:List Int):Nat→List Int
 | 0=>[]
 | 1=>a
 | 2=>a++b
 | _=>a++(b++c)
def S240 (a:CA) (i:Nat):St:=zkuy (.sl true 1 3 [a.x,a.y,a.z]) (.int .i64 (zev2 a.lx.length a.ly.length a.lz.length i)) (.sl true 1 3 [a.x,a.y,a.z]) (.int .i64 3) (.int .i64 i) a.h
def S241 (a:CA) (n:Nat) (i:Nat):St:=z0qo (newV a.h.length n (z038 a.lx a.ly a.lz i).length) (.sl true 1 3 [a.x,a.y,a.z]) (.int .i64 3) (.int .i64 i) (newH a.h n (z038 a.lx a.ly a.lz i))
theorem zcx3 (a:CA) (h:CAOK a):RunsH T219 a123 [.sl true 1 3 [a.x,a.y,a.z]] a.h (srtV a.h.length (a.lx++(a.ly++a.lz))) (srtH a.h (a.lx++(a.ly++a.lz))):=by
 refine ⟨?_⟩
 obtain ⟨n,hn⟩ : ∃ n,a.lx.length+a.ly.length+a.lz.length=n:=⟨_,rfl⟩
 have hb:=h.b
 rw [hn] at hb
 have lx:=h.x.len []
 have ly:=h.y.len []
 have lz:=h.z.len []
 rw [y0h] at lx ly lz
 have ox:=h.x.oneC
 have oy:=h.y.oneC
 have oz:=h.z.oneC
 have n1:¬ (a.lx.length:Int)<0:=by omega
 have n2:¬ (a.lx.length:Int)+(a.ly.length:Int)<0:=by omega
 have n3:¬ (a.lx.length:Int)+(a.ly.length:Int)+(a.lz.length:Int)<0:=by omega
 have hvx : ∀ n u,visY (newH a.h n u) a.x=some (a.lx.length,a.lx.map (.int .i64)):=fun n u=>by obtain ⟨X,e⟩:=zzao a.h n u; rw [e]; exact h.x.vis X
 have hvy : ∀ n u,visY (newH a.h n u) a.y=some (a.ly.length,a.ly.map (.int .i64)):=fun n u=>by obtain ⟨X,e⟩:=zzao a.h n u; rw [e]; exact h.y.vis X
 have hvz : ∀ n u,visY (newH a.h n u) a.z=some (a.lz.length,a.lz.map (.int .i64)):=fun n u=>by obtain ⟨X,e⟩:=zzao a.h n u; rw [e]; exact h.z.vis X
 simp (disch:=first|omega|(simp [-zA,-zB,-zC,-zD,-zE]<;>omega)|fail) [-zA,-zB,-zC,-zD,-zE,a123]
 refine zlm5 (S240 a) (fun i=>3-i) (fun i=>i≤3) 0 (z515 (by simp (disch:=first|omega|(simp [-zA,-zB,-zC,-zD,-zE]<;>omega)|fail) [-zA,-zB,-zC,-zD,-zE,S240,zkuy,zev2]) (by simp (disch:=first|omega|(simp [-zA,-zB,-zC,-zD,-zE]<;>omega)|fail) [-zA,-zB,-zC,-zD,-zE,S240,zkuy])) (by omega) (fun i hi => ?_)
 simp (disch:=first|omega|(simp [-zA,-zB,-zC,-zD,-zE]<;>omega)|fail) [-zA,-zB,-zC,-zD,-zE,z1ci,zkuy,S240]
 rcases (show i=0∨i=1∨i=2∨i=3 by omega) with rfl|rfl|rfl|rfl
 ·simp (disch:=first|omega|(simp [-zA,-zB,-zC,-zD,-zE]<;>omega)|fail) [-zA,-zB,-zC,-zD,-zE,lx,ox,zev2,n1]
  exact ⟨1,z515 (by simp (disch:=first|omega|(simp [-zA,-zB,-zC,-zD,-zE]<;>omega)|fail) [-zA,-zB,-zC,-zD,-zE,S240,zkuy,zev2]) (by simp (disch:=first|omega|(simp [-zA,-zB,-zC,-zD,-zE]<;>omega)|fail) [-zA,-zB,-zC,-zD,-zE,S240,zkuy]),by simp⟩
 ·simp (disch:=first|omega|(simp [-zA,-zB,-zC,-zD,-zE]<;>omega)|fail) [-zA,-zB,-zC,-zD,-zE,ly,oy,zev2,n2]
  exact ⟨2,z515 (by simp (disch:=first|omega|(simp [-zA,-zB,-zC,-zD,-zE]<;>omega)|fail) [-zA,-zB,-zC,-zD,-zE,S240,zkuy,zev2]) (by simp (disch:=first|omega|(simp [-zA,-zB,-zC,-zD,-zE]<;>omega)|fail) [-zA,-zB,-zC,-zD,-zE,S240,zkuy]),by simp⟩
 ·simp (disch:=first|omega|(simp [-zA,-zB,-zC,-zD,-zE]<;>omega)|fail) [-zA,-zB,-zC,-zD,-zE,lz,oz,zev2,n3]
  exact ⟨3,z515 (by simp (disch:=first|omega|(simp [-zA,-zB,-zC,-zD,-zE]<;>omega)|fail) [-zA,-zB,-zC,-zD,-zE,S240,zkuy,zev2]) (by simp (disch:=first|omega|(simp [-zA,-zB,-zC,-zD,-zE]<;>omega)|fail) [-zA,-zB,-zC,-zD,-zE,S240,zkuy]),by simp⟩
 ·have hg:=zp5d (n:=n) (k:=a.h.length) hb
  simp (disch:=first|omega|(simp [-zA,-zB,-zC,-zD,-zE]<;>omega)|fail) [-zA,-zB,-zC,-zD,-zE,zev2,hn,zzxd,hg]
  refine zlm5 (S241 a n) (fun i=>3-i) (fun i=>i≤3) 0 (z515 (by simp (disch:=first|omega|(simp [-zA,-zB,-zC,-zD,-zE]<;>omega)|fail) [-zA,-zB,-zC,-zD,-zE,S241,z0qo,z038,zy6x]) (by simp (disch:=first|omega|(simp [-zA,-zB,-zC,-zD,-zE]<;>omega)|fail) [-zA,-zB,-zC,-zD,-zE,S241,z0qo,z038,z7d9])) (by omega) (fun i hi => ?_)
  simp (disch:=first|omega|(simp [-zA,-zB,-zC,-zD,-zE]<;>omega)|fail) [-zA,-zB,-zC,-zD,-zE,zgnt,z0qo,S241]
  rcases (show i=0∨i=1∨i=2∨i=3 by omega) with rfl|rfl|rfl|rfl
  ·have ha:=znme (pre:=a.h) (n:=n) (u:=[]) (v:=a.lx) (by simp; omega) hb
   simp only [List.nil_append,y0i,Nat.zero_add] at ha
   simp (disch:=first|omega|(simp [-zA,-zB,-zC,-zD,-zE]<;>omega)|fail) [-zA,-zB,-zC,-zD,-zE,z038,ox,hvx,ha]
   exact ⟨1,z515 (by simp (disch:=first|omega|(simp [-zA,-zB,-zC,-zD,-zE]<;>omega)|fail) [-zA,-zB,-zC,-zD,-zE,S241,z0qo,z038]) (by simp (disch:=first|omega|(simp [-zA,-zB,-zC,-zD,-zE]<;>omega)|fail) [-zA,-zB,-zC,-zD,-zE,S241,z0qo,z038]),by simp⟩
  ·have ha:=znme (pre:=a.h) (n:=n) (u:=a.lx) (v:=a.ly) (by omega) hb
   simp (disch:=first|omega|(simp [-zA,-zB,-zC,-zD,-zE]<;>omega)|fail) [-zA,-zB,-zC,-zD,-zE,z038,oy,hvy,ha]
   exact ⟨2,z515 (by simp (disch:=first|omega|(simp [-zA,-zB,-zC,-zD,-zE]<;>omega)|fail) [-zA,-zB,-zC,-zD,-zE,S241,z0qo,z038]) (by simp (disch:=first|omega|(simp [-zA,-zB,-zC,-zD,-zE]<;>omega)|fail) [-zA,-zB,-zC,-zD,-zE,S241,z0qo,z038]),by simp⟩
  ·have ha:=znme (pre:=a.h) (n:=n) (u:=a.lx++a.ly) (v:=a.lz) (by simp; omega) hb
   simp only [y04,List.append_assoc,Nat.add_assoc] at ha
   simp (disch:=first|omega|(simp [-zA,-zB,-zC,-zD,-zE]<;>omega)|fail) [-zA,-zB,-zC,-zD,-zE,z038,oz,hvz,ha,Nat.add_assoc]
   exact ⟨3,z515 (by simp (disch:=first|omega|(simp [-zA,-zB,-zC,-zD,-zE]<;>omega)|fail) [-zA,-zB,-zC,-zD,-zE,S241,z0qo,z038]) (by simp (disch:=first|omega|(simp [-zA,-zB,-zC,-zD,-zE]<;>omega)|fail) [-zA,-zB,-zC,-zD,-zE,S241,z0qo,z038]),by simp⟩
  ·have e1:newV a.h.length n (a.lx++(a.ly++a.lz)).length=srtV a.h.length (a.lx++(a.ly++a.lz)):=by
    have hl:(a.lx++(a.ly++a.lz)).length=n:=by simp only [y04]; omega
    unfold newV srtV
    by_cases e:n=0
    ·rw [if_pos e,if_pos (y00 (by omega))]
    ·rw [if_neg e,if_neg (fun q=>e (by rw [← hl,q]; rfl)),hl]
   have e2:newH a.h n (a.lx++(a.ly++a.lz))=srtH a.h (a.lx++(a.ly++a.lz)):=by
    have hl:(a.lx++(a.ly++a.lz)).length=n:=by simp only [y04]; omega
    unfold newH srtH
    by_cases e:n=0
    ·rw [if_pos e,if_pos (y00 (by omega))]
    ·rw [if_neg e,if_neg (fun q=>e (by rw [← hl,q]; rfl)),hl,Nat.sub_self,List.replicate_zero,y0h]
   simp only [y04] at e1
   simp (disch:=first|omega|(simp [-zA,-zB,-zC,-zD,-zE]<;>omega)|fail) [-zA,-zB,-zC,-zD,-zE,z038,e1,e2]
end
section
set_option linter.unusedSimpArgs false
set_option linter.unusedVariables false
open Go Go.Am
theorem zwd9 {a b:CA} (h1:CAOK a) (h2:CAOK b) (e:([.sl true 1 3 [a.x,a.y,a.z]],a.h)=(([.sl true 1 3 [b.x,b.y,b.z]],b.h):List DV × List AObj)):(a.h,a.lx,a.ly,a.lz)=(b.h,b.lx,b.ly,b.lz):=by
 simp only [Prod.mk.injEq,List.cons.injEq,DV.sl.injEq,and_true,true_and] at e
 obtain ⟨⟨e1,e2,e3⟩,e4⟩:=e
 have f : ∀ {h:List AObj} {x:DV} {l l':List Int},VisL h x l→VisL h x l'→l=l':=fun p q=>by
  have p1:=p.vis []
  rw [q.vis []] at p1
  simp only [Option.some.injEq,Prod.mk.injEq,zwfp] at p1
  exact p1.2.symm
 have p1:=h1.x
 have p2:=h1.y
 have p3:=h1.z
 rw [e1,e4] at p1
 rw [e2,e4] at p2
 rw [e3,e4] at p3
 rw [f p1 h2.x,f p2 h2.y,f p3 h2.z,e4]
noncomputable def cCat:List DV→List AObj→Option (DV × List AObj):=conH CAOK (fun a=>([.sl true 1 3 [a.x,a.y,a.z]],a.h)) (fun a=>(srtV a.h.length (a.lx++(a.ly++a.lz)),srtH a.h (a.lx++(a.ly++a.lz))))
theorem zf44 {a:CA} (h:CAOK a):cCat [.sl true 1 3 [a.x,a.y,a.z]] a.h=some (srtV a.h.length (a.lx++(a.ly++a.lz)),srtH a.h (a.lx++(a.ly++a.lz))) :=
 zu6y (A:=CAOK) (f:=fun a=>([.sl true 1 3 [a.x,a.y,a.z]],a.h)) (g:=fun a=>(srtV a.h.length (a.lx++(a.ly++a.lz)),srtH a.h (a.lx++(a.ly++a.lz)))) (fun a b h1 h2 e=>by
  have q:=zwd9 h1 h2 e
  simp only [Prod.mk.injEq] at q
  obtain ⟨q1,q2,q3,q4⟩:=q
  rw [q1,q2,q3,q4]) a h
theorem ztpx:(Con.heap cCat).Sound P 123:=zh92 fun a h=>zv22 mix z1wr Tryz.func123 zw8s (zcx3 a h)
def idP (pre:List AObj) (c:Clu) (l:List Ins):List AObj:=match l with
 | []=>pre++[.cells (clC c)]
 | x::_=>pre++[.cells (clC c),.cells (inC x)]
theorem zs4t (l:List Ins):idC l=(l.map Ins.id).map (.int .i64):=by
 induction l with
 | nil=>rfl
 | cons a l ih=>simp only [idC,y0n,y0e] at ih ⊢; rw [ih]; rfl
theorem zi30 {pre:List AObj} {c:Clu} {l:List Ins}:pre++idO c l=srtH (idP pre c l) (l.map Ins.id):=by
 cases l with
 | nil=>rfl
 | cons x r=>rw [ztnf,idP,zzyq (by simp),← zs4t]; simp
theorem zryu {pre:List AObj} {c:Clu} {l:List Ins}:idV (pre.length+2) l=srtV (idP pre c l).length (l.map Ins.id):=by
 cases l with
 | nil=>rfl
 | cons x r=>rw [zzb3 (by simp),zgky (by simp)]; simp [idP]
theorem zsde (pre:List AObj) (c:Clu) (l:List Ins) : ∃ X,idP pre c l=pre++X:=by
 cases l with
 | nil=>exact ⟨_,rfl⟩
 | cons x r=>exact ⟨_,rfl⟩
theorem zdjm (pre:List AObj) (l:List Int) : ∃ X,srtH pre l=pre++X:=by
 by_cases e:l=[]
 ·subst e; exact ⟨[],by simp [zwug]⟩
 ·exact ⟨_,zzyq e⟩
theorem zt8z {H:List AObj} {p:Nat} {l m:List Int} (hl:m.length=l.length) (ho:l≠[]→H[p]? = some (.cells (m.map (.int .i64)))):VisL H (srtV p l) m:=by
 by_cases e:l=[]
 ·subst e
  have:=y00 hl
  subst this
  exact ⟨fun X=>rfl,fun X=>rfl,rfl⟩
 ·have h1:=ho e
  have hlt:p<H.length:=(y06.1 h1).1
  have h2 : ∀ X ver,ver=l.length→objV (H++X) p ver=some (m.map (.int .i64)):=fun X ver hv=>by
   unfold objV ziu0
   rw [y07 hlt,h1]
   simp [hl,hv]
  rw [zgky e]
  refine ⟨fun X => ?_,fun X => ?_,rfl⟩
  ·simp [h2 X _ rfl,hl]
  ·rw [z24a,h2 X _ rfl]
   simp [hl,y03]
theorem zfnw {H:List AObj} {p n K:Nat} {m:List Int} (hn:m.length=n) (hK:K≤n) (ho:H[p]? = some (.cells (m.map (.int .i64)))):VisL H (.ms p n 0 1 K n) (m.take K):=by
 have hlt:p<H.length:=(y06.1 ho).1
 have h2 : ∀ X,objV (H++X) p n=some (m.map (.int .i64)):=fun X=>by
  unfold objV ziu0
  rw [y07 hlt,ho]
  simp [hn]
 refine ⟨fun X => ?_,fun X => ?_,rfl⟩
 ·simp [h2 X,hn,Nat.min_eq_left hK]
 ·rw [z24a,h2 X,y0j,y0l,y0r,List.length_take,hn,Nat.min_eq_left hK,List.map_take]
theorem ztrh {pre:List AObj} {l:List Int}:snap (srtH pre l) 3 (srtV pre.length l)=some (liV l):=by
 by_cases e:l=[]
 ·subst e; rfl
 ·rw [zgky e,zzyq e,zefw e,zve7,zrsa,if_pos (by simp)]
  have:l.flatMap inI=l.map (.int .i64):=by
   clear e
   induction l with
   | nil=>rfl
   | cons a l ih=>rw [y0e,ih]; rfl
  rw [this]
  simp only [y0f,y0l,y0r,y03 (show (l.map (DV.int .i64)).length≤l.length by simp),zb2p,y0j]
theorem zics {pre:List AObj} {l:List Int} (h:l≠[]):(srtH pre l)[pre.length]? = some (.cells (l.map (.int .i64))):=by rw [zzyq h]; simp
theorem zyip {A B:List AObj} {p:Nat} {o:AObj} (h:A[p]? = some o) (hf : ∃ X,B=A++X):B[p]? = some o:=by
 obtain ⟨X,rfl⟩:=hf
 rw [y07 (y06.1 h).1]; exact h
theorem zt5b {A B C:List AObj} (h1 : ∃ X,B=A++X) (h2 : ∃ X,C=B++X) : ∃ X,C=A++X:=by
 obtain ⟨X,rfl⟩:=h1
 obtain ⟨Y,rfl⟩:=h2
 exact ⟨X++Y,by simp⟩
theorem z92m {a:AObj} {B:List AObj} (h : ∃ X,B=[a]++X) : ∀ X,∃ Y,B++X=a::Y:=fun X=>by
 obtain ⟨Z,rfl⟩:=h
 exact ⟨_,rfl⟩
theorem z4f8 {c:Clu} {B:List AObj} (h : ∃ X,B=[.cells (clC c)]++X) (X:List AObj):objV (B++X) 0 3=some (clC c):=by
 obtain ⟨Y,e⟩:=z92m h X
 rw [e,z1zn,if_pos (zlha c)]
noncomputable def T220:Tbl:=addT 112 (.new cIds) (addT 117 (.heap (zgw0 fSrt)) (addT 86 (.heap cRev) (addT 87 (.pure (cCk z3tq)) (addT 123 (.heap cCat) tbl0))))
theorem zs6d:T220 112 = .new cIds:=by simp [T220]
theorem z7pr:T220 117 = .heap (zgw0 fSrt):=by simp [T220]
theorem zfh2:T220 86 = .heap cRev:=by simp [T220]
theorem zvo7:T220 87 = .pure (cCk z3tq):=by simp [T220]
theorem zc8x:T220 123 = .heap cCat:=by simp [T220]
theorem ziby:T220.Sound P:=z0rp z2ld (z0rp z6r3 (z0rp zx90 (z0rp zjal (z0rp ztpx zr5o))))
structure VicOK (c:Clu):Prop where
 n:c.i.l.length≤19
 l : ∀ g ∈ c.g.l,zb68 g
theorem z896 {c:Clu} {k:Int} {p:Grp→Ins→Bool}:(idsL c k p).length≤c.i.l.length:=by
 unfold idsL
 split
 ·exact y0a _ _
 ·simp
theorem zw26 {c:Clu} {k:Int} {p:Grp→Ins→Bool} {x:Ins} (h:x ∈ idsL c k p):x ∈ c.i.l:=by
 unfold idsL at h
 split at h
 ·exact zrr7.subset h
 ·simp at h
theorem ze9o {l:List Ins} {x:Ins} (h:x ∈ l):0≤z092 l x.id:=by
 by_cases hn:z092 l x.id<0
 ·obtain ⟨i,hi,rfl⟩:=y05 h
  have:=z378 hn i hi
  simp at this
 ·omega
theorem zi26 {p:Nat} {l:List Int}:(srtV p l).cells=[srtV p l]:=by unfold srtV; split<;>rfl
theorem zv1m {p:Nat} {l:List Int}:(srtV p l).known=true:=by unfold srtV; split<;>rfl
theorem zbja (c:Clu) (k:Int) (hv:VicOK c):Runs T220 a88 [.agg (clC c),.int .i64 k] (liV (zu3j c k)):=by
 refine ⟨?_⟩
 by_cases h0:k<0
 ·have hr:zu3j c k=[]:=by rw [zu3j,zkxy h0]
  simp (disch:=first|omega|(simp [-zA,-zB,-zC,-zD,-zE]<;>omega)|fail) [-zA,-zB,-zC,-zD,-zE,a88,h0,hr,zxxz]
 obtain ⟨K,rfl⟩ : ∃ K:Nat,k=K:=⟨k.toNat,by omega⟩
 by_cases h1:c.g.l.length≤K
 ·have hr:zu3j c K=[]:=by rw [zu3j,zxgx h1]
  have h1':(c.g.l.length:Int)≤K:=by omega
  simp (disch:=first|omega|(simp [-zA,-zB,-zC,-zD,-zE]<;>omega)|fail) [-zA,-zB,-zC,-zD,-zE,a88,h0,h1,h1',hr,zxxz]
 have h2:K<c.g.l.length:=by omega
 have h1':¬ (c.g.l.length:Int)≤K:=by omega
 have hG:=fun h=>zalo (x:=c.g) (h:=h) zry4 h2
 have hlim:=hv.l _ (List.getElem_mem h2)
 have hr:zu3j c K=zxu4 (ltV c) (idsP c K sDen)++(idsP c K sRep++(idsP c K z7e4).reverse.take ((znqs c K).length-c.g.l[K].want).toNat):=by rw [zu3j,zlav h2]
 obtain ⟨G,hGe⟩ : ∃ G,c.g.l[K]=G:=⟨_,rfl⟩
 rw [hGe] at hG hlim hr
 obtain ⟨⟨w1,w2⟩,-,-⟩:=hlim
 have hgl:=z7in (c:=c) (k:=K)
 have hn:=hv.n
 rw [z1c3,z1c3,z1c3] at hr
 -- the lists
 have bD:=z896 (c:=c) (k:=K) (p:=sDen)
 have bR:=z896 (c:=c) (k:=K) (p:=sRep)
 have bS:=z896 (c:=c) (k:=K) (p:=z7e4)
 have mD : ∀ x ∈ (idsL c K sDen).map Ins.id,0≤z092 c.i.l x:=fun x hx=>by
  obtain ⟨y,hy,rfl⟩:=y0q.1 hx
  exact ze9o (zw26 hy)
 obtain ⟨D,hD⟩ : ∃ D,idsL c K sDen=D:=⟨_,rfl⟩
 obtain ⟨R,hR⟩ : ∃ R,idsL c K sRep=R:=⟨_,rfl⟩
 obtain ⟨S,hS⟩ : ∃ S,idsL c K z7e4=S:=⟨_,rfl⟩
 rw [hD] at hr bD mD
 rw [hR] at hr bR
 rw [hS] at hr bS
 obtain ⟨lD,hlD⟩ : ∃ l,D.map Ins.id=l:=⟨_,rfl⟩
 obtain ⟨lR,hlR⟩ : ∃ l,R.map Ins.id=l:=⟨_,rfl⟩
 obtain ⟨lS,hlS⟩ : ∃ l,S.map Ins.id=l:=⟨_,rfl⟩
 have nD:lD.length=D.length:=by rw [← hlD,y0b]
 have nR:lR.length=R.length:=by rw [← hlR,y0b]
 have nS:lS.length=S.length:=by rw [← hlS,y0b]
 rw [hlD,hlR,hlS] at hr
 rw [hlD] at mD
 -- the heaps
 obtain ⟨preD,hpD⟩ : ∃ p,idP [.cells (clC c)] c D=p:=⟨_,rfl⟩
 have fD : ∃ X,preD=[.cells (clC c)]++X:=hpD▸zsde _ _ _
 have eD:AObj.cells (clC c)::idO c D=srtH preD lD:=by rw [← hpD,← hlD]; exact zi30 (pre:=[.cells (clC c)])
 have vD:idV 3 D=srtV preD.length lD:=by rw [← hpD,← hlD]; exact zryu (pre:=[.cells (clC c)])
 obtain ⟨sD,hsD⟩ : ∃ s,zxu4 (ltV c) lD=s:=⟨_,rfl⟩
 have nsD:sD.length=lD.length:=by rw [← hsD,zmgd]
 have hsort:=zllv (c:=c) (pre:=preD) (l:=lD) ⟨z4f8 fD,mD,by simp only; omega⟩
 rw [hsD] at hsort
 obtain ⟨V1,hV1⟩ : ∃ v,srtV preD.length lD=v:=⟨_,rfl⟩
 rw [hV1] at vD hsort
 obtain ⟨H0,hH0⟩ : ∃ h,srtH preD lD=h:=⟨_,rfl⟩
 rw [hH0] at eD hsort
 obtain ⟨H1,hH1⟩ : ∃ h,srtH preD sD=h:=⟨_,rfl⟩
 rw [hH1] at hsort
 have f1 : ∃ X,H1=preD++X:=hH1▸zdjm _ _
 obtain ⟨preR,hpR⟩ : ∃ p,idP H1 c R=p:=⟨_,rfl⟩
 have eR:H1++idO c R=srtH preR lR:=by rw [← hpR,← hlR]; exact zi30
 have vR:idV (H1.length+2) R=srtV preR.length lR:=by rw [← hpR,← hlR]; exact zryu
 obtain ⟨H2,hH2⟩ : ∃ h,srtH preR lR=h:=⟨_,rfl⟩
 rw [hH2] at eR
 have f2 : ∃ X,H2=H1++X:=zt5b (hpR▸zsde _ _ _) (hH2▸zdjm _ _)
 obtain ⟨V2,hV2⟩ : ∃ v,srtV preR.length lR=v:=⟨_,rfl⟩
 rw [hV2] at vR
 obtain ⟨preS,hpS⟩ : ∃ p,idP H2 c S=p:=⟨_,rfl⟩
 have eS:H2++idO c S=srtH preS lS:=by rw [← hpS,← hlS]; exact zi30
 have vS:idV (H2.length+2) S=srtV preS.length lS:=by rw [← hpS,← hlS]; exact zryu
 have hrev:=zdxu (pre:=preS) (l:=lS) (by omega)
 obtain ⟨H3,hH3⟩ : ∃ h,srtH preS lS=h:=⟨_,rfl⟩
 rw [hH3] at eS hrev
 obtain ⟨H4,hH4⟩ : ∃ h,srtH preS lS.reverse=h:=⟨_,rfl⟩
 rw [hH4] at hrev
 have f4 : ∃ X,H4=H2++X:=zt5b (hpS▸zsde _ _ _) (hH4▸zdjm _ _)
 have f14:=zt5b f2 f4
 have o1:=z4f8 (zt5b fD f1) []
 have o2:=z4f8 (zt5b (zt5b fD f1) f2) []
 have o4:=z4f8 (zt5b (zt5b fD f1) f14) []
 rw [y0h] at o1 o2 o4
 obtain ⟨V3,hV3⟩ : ∃ v,srtV preS.length lS=v:=⟨_,rfl⟩
 rw [hV3] at vS hrev
 -- how many
 obtain ⟨e,he⟩ : ∃ e,max ((znqs c K).length-G.want:Int) 0=e:=⟨_,rfl⟩
 obtain ⟨m,hm⟩ : ∃ m:Nat,min e (lS.length:Int)=m:=⟨(min e (lS.length:Int)).toNat,by omega⟩
 have hml:m≤lS.length:=by omega
 have htake:lS.reverse.take ((znqs c K).length-G.want).toNat=lS.reverse.take m:=by
  by_cases q:((znqs c K).length-G.want).toNat≤lS.length
  ·rw [show ((znqs c K).length-G.want).toNat=m by omega]
  ·rw [y03 (by simp; omega),y03 (by simp; omega)]
 rw [htake] at hr
 -- what is read at the end
 have L1:VisL H4 V1 sD:=by
  rw [← hV1]
  exact zt8z nsD fun q=>zyip (hH1▸zics (fun q'=>q (y00 (by rw [← nsD,q']; rfl)))) f14
 have L2:VisL H4 V2 lR:=by
  rw [← hV2]
  exact zt8z rfl fun q=>zyip (hH2▸zics q) f4
 have L3:lenD H4 V3=some (.int .i64 lS.length):=by
  have:VisL H4 V3 lS.reverse:=by
   rw [← hV3]
   exact zt8z (by simp) fun q=>by
    have:=zics (pre:=preS) (l:=lS.reverse) (by simpa using q)
    rw [hH4] at this; exact this
  have:=this.len []
  simpa using this
 obtain ⟨Z,hZ,hZv,hZk,hZc⟩ : ∃ Z,z390 H4 1 V3 none (some (.int .i64 m)) none=some Z∧VisL H4 Z (lS.reverse.take m)∧Z.known=true∧Z.cells=[Z]:=by
  by_cases q:lS=[]
  ·subst q
   have:m=0:=by simpa using hml
   subst this
   refine ⟨.nils,?_,⟨fun X=>rfl,fun X=>rfl,rfl⟩,rfl,rfl⟩
   rw [← hV3,zh11]
   exact zmk5 (ztya (by omega) (by omega))
  ·have hl:=zics (pre:=preS) (l:=lS.reverse) (by simpa using q)
   rw [hH4] at hl
   have hvv:=zfnw (n:=lS.length) (K:=m) (by simp) hml hl
   refine ⟨_,?_,hvv,rfl,rfl⟩
   have ho:objV H4 preS.length lS.length=some (lS.reverse.map (.int .i64)):=by
    unfold objV ziu0; rw [hl]; simp
   rw [← hV3,zgky q,zam4 (ztya (by omega) (by omega)),ho]
   simp
 have hcat:=zf44 (a:=⟨H4,V1,V2,Z,sD,lR,lS.reverse.take m⟩) ⟨L1,L2,hZv,by simp; omega⟩
 simp only at hcat
 have k1:V1.known=true:=hV1▸zv1m
 have k2:V2.known=true:=hV2▸zv1m
 have c1:V1.cells=[V1]:=hV1▸zi26
 have c2:V2.cells=[V2]:=hV2▸zi26
 have hbsl:bslD 1 3 [.nils] [(0,1,V1),(1,1,V2),(2,1,Z)]=some (.sl true 1 3 [V1,V2,Z]):=by
  rw [z7bw (by simp [k1,k2,hZk]) (by simp [seqD,c1,c2,hZc])]
  simp [seqD,c1,c2,hZc]
 rw [hr]
 have hsnap:=ztrh (pre:=H4) (l:=sD++(lR++lS.reverse.take m))
 rw [hsD]
 obtain ⟨A,hA⟩ : ∃ a,sD++(lR++lS.reverse.take m)=a:=⟨_,rfl⟩
 rw [hA] at hcat hsnap ⊢
 obtain ⟨V4,hV4⟩ : ∃ v,srtV H4.length A=v:=⟨_,rfl⟩
 obtain ⟨H5,hH5⟩ : ∃ h,srtH H4 A=h:=⟨_,rfl⟩
 rw [hV4,hH5] at hcat hsnap
 have hge : -2000000000≤((znqs c K).length:Int)-G.want∧((znqs c K).length:Int)-G.want≤2000000000:=by omega
 simp (disch:=first|omega|(simp [-zA,-zB,-zC,-zD,-zE]<;>omega)|fail) [-zA,-zB,-zC,-zD,-zE,a88,h0,h1,h1',zs6d,z7pr,zfh2,zvo7,zc8x,zf1r,zn1n,zsck,hD,hR,hS,eD,vD,hsort,eR,vR,eS,vS,hrev,o1,o2,o4,hG,ztaz,z3tq,zluv,zaqi,zy6n,he,hm,L3,hZ,k1,k2,hZk,hbsl,hcat,hsnap]
end
section
set_option linter.unusedSimpArgs false
set_option linter.unusedVariables false
open Go Go.Am
theorem ziny (H:List AObj) (x:Nl):lenD H x.dv=some (.int .i64 x.l.length):=zwhz ⟨x.k,x.l,x.h,0⟩ H
theorem z74y (H:List AObj) (x:Nl) {i:Nat} (hi:i<x.l.length):zpsc H 1 x.dv i=some (.ref [.int .i64 x.l[i]]):=zmwh ⟨x.k,x.l,x.h,0⟩ H hi
theorem zhx7 (x:Nl):x.dv.one=true:=zxr4 ⟨x.k,x.l,x.h,0⟩
theorem zxy5 (x:Nl):x.dv.known=true:=zn8z ⟨x.k,x.l,x.h,0⟩
theorem ztqv (x:Nl):x.dv.cells=[x.dv]:=zymw ⟨x.k,x.l,x.h,0⟩
theorem zdvk {n:Nat} {x:Nl}:Am.below n x.dv=true:=z8b8 n _ (zkx7 x)
attribute [simp] zdvk ziny zhx7 zxy5 ztqv zkx7
def okT (t:Int):Prop := -2199023255552≤t∧t≤2199023255552
def ok64 (n:Int):Prop := -9223372036854775808≤n∧n≤9223372036854775807
theorem z2lv (s n t:Int) (h1:0≤s∧okT s) (h2:ok64 n) (h3:okT t):Runs tbl0 a84 [.int .i64 s,.int .i64 n,.int .i64 t] (.bool (decide (n≤t-s))):=by
 refine ⟨?_⟩
 obtain ⟨p0,p1,p2⟩:=h1
 obtain ⟨q1,q2⟩:=h2
 obtain ⟨r1,r2⟩:=h3
 by_cases h:s≤t
 ·simp (disch:=first|omega|(simp [-zA,-zB,-zC,-zD,-zE]<;>omega)|fail) [-zA,-zB,-zC,-zD,-zE,a84,h]
 ·by_cases hn:n<0
  ·have e:decide (n+s≤t)=decide (n≤t-s):=decide_eq_decide.2 (by omega)
   simp (disch:=first|omega|(simp [-zA,-zB,-zC,-zD,-zE]<;>omega)|fail) [-zA,-zB,-zC,-zD,-zE,a84,h,hn,e]
  ·have e:decide (n≤t-s)=false:=by simp; omega
   simp (disch:=first|omega|(simp [-zA,-zB,-zC,-zD,-zE]<;>omega)|fail) [-zA,-zB,-zC,-zD,-zE,a84,h,hn,e]
noncomputable def cEla:List DV→Option DV:=con (fun a:Int × Int × Int=>(0≤a.1∧okT a.1)∧ok64 a.2.1∧okT a.2.2) (fun a:Int × Int × Int=>[.int .i64 a.1,.int .i64 a.2.1,.int .i64 a.2.2]) (fun a => .bool (decide (a.2.1≤a.2.2-a.1)))
theorem zlm0 {s n t:Int} (h1:0≤s∧okT s) (h2:ok64 n) (h3:okT t):cEla [.int .i64 s,.int .i64 n,.int .i64 t]=some (.bool (decide (n≤t-s))) :=
 zzno (f:=fun a:Int × Int × Int=>[.int .i64 a.1,.int .i64 a.2.1,.int .i64 a.2.2]) (g:=fun a => .bool (decide (a.2.1≤a.2.2-a.1))) (by
  rintro ⟨a,b,c⟩ ⟨d,e,f⟩ h
  simp only [List.cons.injEq,DV.int.injEq,and_true,true_and] at h
  rw [h.1,h.2.1,h.2.2]) (s,n,t) ⟨h1,h2,h3⟩
noncomputable def T230:Tbl:=addT 84 (.pure cEla) tbl0
theorem z474:T230 84 = .pure cEla:=by simp [T230]
theorem z8f4:T230.Sound P:=z0rp (z2au fun a h=>zljw mix zr5o Tryz.func84 z3cy (z2lv a.1 a.2.1 a.2.2 h.1 h.2.1 h.2.2)) zr5o
theorem zcgk {x:Ins} {gr:List Int} {t:Int} : ∀ {l:List Ins} {j:Nat},ze9z (l++[x]) j gr t=ze9z l j gr t++(if z9hf x (gr.getD (j+l.length) 0) t=true then [x.id] else [])
 | [],j=>by simp only [List.nil_append,ze9z,y0i,Nat.add_zero]
 | y::l,j=>by
  have ih:=zcgk (x:=x) (gr:=gr) (t:=t) (l:=l) (j:=j+1)
  have e:j+1+l.length=j+(y::l).length:=by simp; omega
  rw [e] at ih
  simp only [List.cons_append,ze9z,ih]
  split<;>simp
theorem z9p7 {gr:List Int} {t:Int} : ∀ {l:List Ins} {j:Nat},(ze9z l j gr t).length≤l.length
 | [],_=>by simp [ze9z]
 | x::l,j=>by
  have:=z9p7 (gr:=gr) (t:=t) (l:=l) (j:=j+1)
  rw [ze9z]
  split<;>simp<;>omega
structure OvOK (a:Clu × Nl × Int):Prop where
 d : ∀ x ∈ a.1.i.l,okT x.den
 g : ∀ n ∈ a.2.1.l,ok64 n
 t:okT a.2.2
structure OS where
 i:Nat
 L:List Int
 x:Ins
def ovH (c:Clu) (a:OS):List AObj:=if a.L=[] then [.cells (clC c)] else [.cells (clC c),.cells (inC a.x),.cells (a.L.map (.int .i64))]
end
section
set_option linter.unusedSimpArgs false
set_option linter.unusedVariables false
open Go Go.Am
end
section
set_option linter.unusedSimpArgs false
set_option linter.unusedVariables false
open Go Go.Am
def vicD (c:Clu) (k:Int):DV:=liV (zu3j c k)
noncomputable def cCkA (A:Clu→Prop) (f:Clu→Int→DV):List DV→Option DV:=con (fun a:Clu × Int=>A a.1) (fun a:Clu × Int=>[.agg (clC a.1),.int .i64 a.2]) (fun a=>f a.1 a.2)
theorem ztpi {A:Clu→Prop} {f:Clu→Int→DV} {c:Clu} {k:Int} (h:A c):cCkA A f [.agg (clC c),.int .i64 k]=some (f c k) :=
 zzno (f:=fun a:Clu × Int=>[.agg (clC a.1),.int .i64 a.2]) (g:=fun a=>f a.1 a.2) (by
  rintro ⟨a,b⟩ ⟨c,d⟩ e
  simp only [List.cons.injEq,DV.agg.injEq,DV.int.injEq,and_true,true_and] at e
  rw [zh7t e.1,e.2]) (c,k) h
theorem zaz7:(Con.pure (cCkA VicOK vicD)).Sound P 88:=z2au fun a h=>zljw mix ziby Tryz.func88 zqgj (zbja a.1 a.2 h)
def LimC (c:Clu):Prop := ∀ g ∈ c.g.l,zb68 g
theorem ztkb:(Con.pure (cCkA LimC zc12)).Sound P 89:=z2au fun a h=>zljw mix z3vd Tryz.func89 z42j (zebb a.1 a.2 h)
noncomputable def zrio:List DV→Option DV:=con OvOK (fun a:Clu × Nl × Int=>[.agg (clC a.1),a.2.1.dv,.int .i64 a.2.2]) (fun a=>liV (ze9z a.1.i.l 0 a.2.1.l a.2.2))
theorem z90w {c:Clu} {g:Nl} {t:Int} (h:OvOK (c,g,t)):zrio [.agg (clC c),g.dv,.int .i64 t]=some (liV (ze9z c.i.l 0 g.l t)) :=
 zzno (f:=fun a:Clu × Nl × Int=>[.agg (clC a.1),a.2.1.dv,.int .i64 a.2.2]) (g:=fun a=>liV (ze9z a.1.i.l 0 a.2.1.l a.2.2)) (by
  rintro ⟨a,b,c⟩ ⟨d,e,f⟩ h
  simp only [List.cons.injEq,DV.agg.injEq,DV.int.injEq,and_true,true_and] at h
  rw [zh7t h.1,z2kw h.2.1,h.2.2]) (c,g,t) h
noncomputable def cTru:List DV→Option DV
 | []=>some (.bool true)|_=>none
theorem zi1x {f:Nat} (h:Am.Sem P f [] (.bool true)):(Con.pure cTru).Sound P f:=by
 intro args v e
 unfold cTru at e
 split at e
 ·simp at e; subst e; exact h
 ·simp at e
end
section
set_option linter.unusedSimpArgs false
set_option linter.unusedVariables false
open Go Go.Am
theorem zty1 (ng:Nat) : ∀ (k:Nat) (l:List Ins) (n:Int) (t:Tp),(zgc4 ng k l n t).2.2.at_≤t.at_+7*k
 | 0,l,n,t=>by simp [zgc4]
 | k+1,l,n,t=>by
  have h1:=zty1 ng k (l++[iIns ng n t]) (n+(1+tpN (iTp ng t) 2)) ((iTp ng t).adv 1)
  have h2:=zjgn ng t
  show (zgc4 ng k (l++[iIns ng n t]) (n+(1+tpN (iTp ng t) 2)) ((iTp ng t).adv 1)).2.2.at_≤_
  have h3:((iTp ng t).adv 1).at_=(iTp ng t).at_+1:=rfl
  omega
theorem z2ep (t:Tp) (m:Int) (h0:0≤m) (h1:m≤200):(zcpt t m).2.at_≤t.at_+2000:=by
 have m1:=z4rs (clD t).2 (m+1)
 have m2:=z2s7 (clD t).2 (n:=m+1) (by omega)
 have h2:=zty1 (clD t).1.g.l.length (tpN (clD t).2 (m+1)).toNat [] (clD t).1.next ((clD t).2.adv 1)
 have h3:((clD t).2.adv 1).at_=(clD t).2.at_+1:=rfl
 have q1:=z4rs (t.adv 1) 2
 have q2:=z2s7 (t.adv 1) (n:=2) (by omega)
 have h4:(clD t).2.at_≤t.at_+2+15*((tpN (t.adv 1) 2).toNat+1):=zkcx _ _ _
 show (zgc4 (clD t).1.g.l.length (tpN (clD t).2 (m+1)).toNat [] (clD t).1.next ((clD t).2.adv 1)).2.2.at_≤_
 omega
theorem zukg (t:Tp) (m:Int) (h0:0≤m) (h1:m≤200):(zcpt t m).1.i.l.length≤m:=by
 obtain ⟨hc,hg⟩:=zfm1 t
 have m1:=z4rs (clD t).2 (m+1)
 have m2:=z2s7 (clD t).2 (n:=m+1) (by omega)
 have hgl:1≤(clD t).1.g.l.length:=List.length_pos_iff.2 hg
 obtain ⟨-,-,-,k4⟩:=zc7j hgl (tpN (clD t).2 (m+1)).toNat [] (clD t).1.next ((clD t).2.adv 1) hc.n0 ⟨by simp,by simp⟩
 have hI:clI t m=zgc4 (clD t).1.g.l.length (tpN (clD t).2 (m+1)).toNat [] (clD t).1.next ((clD t).2.adv 1):=rfl
 rw [← hI] at k4
 have hil:(zcpt t m).1.i.l=(clI t m).1:=by
  simp only [zcpt]
  split
  ·rename_i e; rw [e]; rfl
  ·exact z3e9 (by rw [k4]; simp; omega)
 rw [hil,k4]; simp; omega
theorem zo0d {c:Clu} (hv:ValidC c):LimC c:=fun g hg=>by
 obtain ⟨i,hi,rfl⟩:=y05 hg
 have h:=(hv.g i hi).1
 exact ⟨⟨by have:=h.w0; omega,by have:=h.w1; omega⟩,⟨by have:=h.l0; omega,by have:=h.l1; have:=h.w1; omega⟩,by have:=h.d0; omega,by have:=h.d1; have:=h.w1; omega⟩
theorem zt0b {c:Clu} (hv:ValidC c) (h:c.i.l.length≤19):VicOK c:=⟨h,zo0d hv⟩
theorem zgr5 {c:Clu} {k:Int} (h0:0≤k) (h1:k<c.g.l.length) : ∃ g,grAt c k=some g:=by
 have:k.toNat<c.g.l.length:=by omega
 exact ⟨_,by rw [grAt,if_pos h0,y02 this]⟩
theorem zg2n:(Con.pure (cCi fun c i => .int .i64 (z092 c.i.l i))).Sound P 30:=z2au fun x _=>zljw mix zr5o Tryz.func30 z3f8 (z9e4 x.1 x.2)
end
section
set_option linter.unusedSimpArgs false
set_option linter.unusedVariables false
open Go Go.Am
end
section
set_option linter.unusedSimpArgs false
set_option linter.unusedVariables false
open Go Go.Am
def zumm:ACode :=
 (.seq (.seq (.region false [⟨none,(some 7),.mov (.t 6)⟩,
  ⟨none,(some 8),.fld 1 (.t 3)⟩,
  ⟨none,(some 9),.load 1 false (.t 8)⟩,
  ⟨none,(some 10),.len (.t 9)⟩,
  ⟨none,(some 11),.bin .lss (.t 7) (.t 10)⟩])
 (.cond (.t 11) .skip
 (.exit 0)))
 (.seq (.block 1 (.region false [⟨none,(some 14),.mov (.t 5)⟩,
  ⟨none,(some 15),.mov (.t 0)⟩,
  ⟨none,(some 16),.call (.k (.fn (.func 13) [] [])) [(.t 15),(.k (.int .i64 25))]⟩,
  ⟨none,(some 17),.bsl 1 1 [(.int .i64 0)] [(0,1,(.t 16))]⟩,
  ⟨none,(some 18),.app 1 8 (.t 14) (.t 17)⟩,
  ⟨none,(some 5),.mov (.t 18)⟩]))
 (.region false [⟨none,(some 12),.mov (.t 6)⟩,
  ⟨none,(some 13),.bin .add (.t 12) (.k (.int .i64 1))⟩,
  ⟨none,(some 6),.mov (.t 13)⟩])))
def z96a (x0 x3 x5 x6:DV) (h:List AObj):St:=⟨[x0,.junk,.junk,x3,.junk,x5,x6]++js 13,h⟩
def a41:AFn where
 code:=(.seq (.region false [⟨none,(some 3),.box (.t 1)⟩,
  ⟨none,(some 4),.mov (.k .nils)⟩])
 (.seq (.region false [⟨none,(some 5),.mov (.k .nils)⟩])
 (.seq (.seq (.region false [⟨none,(some 6),.mov (.k (.int .i64 0))⟩])
 (.block 0 (.loop zumm)))
 (.seq (.region false [⟨none,(some 19),.mov (.t 5)⟩,
  ⟨none,(some 4),.mov (.t 19)⟩])
 .ret))))
 ntmps:=20
 res:=[.tmp 4]
theorem z5y8:zsjc P Tryz.f41=some a41:=by kernel_rfl
def zx0e:ACode :=
 (.seq (.seq (.region false [⟨none,(some 11),.mov (.t 8)⟩,
  ⟨none,(some 12),.fld 1 (.t 3)⟩,
  ⟨none,(some 13),.load 1 false (.t 12)⟩,
  ⟨none,(some 14),.len (.t 13)⟩,
  ⟨none,(some 15),.bin .lss (.t 11) (.t 14)⟩])
 (.cond (.t 15) .skip
 (.exit 0)))
 (.seq (.block 1 (.seq (.region false [⟨none,(some 18),.fld 1 (.t 3)⟩,
  ⟨none,(some 19),.load 1 false (.t 18)⟩,
  ⟨none,(some 20),.mov (.t 8)⟩,
  ⟨none,(some 21),.idxS 37 (.t 19) (.t 20)⟩,
  ⟨none,(some 22),.load 37 true (.t 21)⟩,
  ⟨none,(some 9),.alloc [(.int .i64 0),(.int .i64 0),(w8 0#8),(w8 0#8),(w8 0#8),(w8 0#8),(w8 0#8),(w8 0#8),(w8 0#8),(w8 0#8),(w8 0#8),(w8 0#8),(w8 0#8),(w8 0#8),(w8 0#8),(w8 0#8),(w8 0#8),(w8 0#8),(w8 0#8),(w8 0#8),(w8 0#8),(w8 0#8),(w8 0#8),(w8 0#8),(w8 0#8),(w8 0#8),(w8 0#8),(w8 0#8),(w8 0#8),(w8 0#8),(w8 0#8),(w8 0#8),(w8 0#8),(w8 0#8),(.int .i64 0),(.int .i64 0),(.int .i64 0)]⟩,
  ⟨none,none,.store 37 (.t 9) (.t 22)⟩,
  ⟨none,(some 10),.mov (.k (.int .i64 0))⟩])
 (.seq (.seq (.region false [⟨none,(some 23),.mov (.t 8)⟩,
  ⟨none,(some 24),.mov (.t 1)⟩,
  ⟨none,(some 25),.len (.t 24)⟩,
  ⟨none,(some 26),.bin .lss (.t 23) (.t 25)⟩])
 (.cond (.t 26) (.region false [⟨none,(some 27),.mov (.t 1)⟩,
  ⟨none,(some 28),.mov (.t 8)⟩,
  ⟨none,(some 29),.idxS 1 (.t 27) (.t 28)⟩,
  ⟨none,(some 30),.load 1 false (.t 29)⟩,
  ⟨none,(some 10),.mov (.t 30)⟩])
 .skip))
 (.seq (.region false [⟨none,(some 31),.fld 34 (.t 9)⟩,
  ⟨none,(some 32),.load 1 false (.t 31)⟩,
  ⟨none,(some 33),.bin .eql (.t 32) (.k (.int .i64 1))⟩,
  ⟨none,(some 34),.mov (.t 33)⟩,
  ⟨(some (34,false)),(some 35),.fld 34 (.t 9)⟩,
  ⟨(some (34,false)),(some 36),.load 1 false (.t 35)⟩,
  ⟨(some (34,false)),(some 37),.bin .eql (.t 36) (.k (.int .i64 2))⟩,
  ⟨none,(some 38),.pick (.t 34) (.k (.bool true)) (.t 37)⟩,
  ⟨none,(some 39),.mov (.t 38)⟩,
  ⟨(some (39,true)),(some 40),.fld 36 (.t 9)⟩,
  ⟨(some (39,true)),(some 41),.load 1 false (.t 40)⟩,
  ⟨(some (39,true)),(some 42),.bin .geq (.t 41) (.k (.int .i64 0))⟩,
  ⟨none,(some 43),.pick (.t 39) (.t 42) (.k (.bool false))⟩,
  ⟨none,(some 44),.mov (.t 43)⟩,
  ⟨(some (44,true)),(some 45),.mov (.t 2)⟩,
  ⟨(some (44,true)),(some 46),.fld 36 (.t 9)⟩,
  ⟨(some (44,true)),(some 47),.load 1 false (.t 46)⟩,
  ⟨(some (44,true)),(some 48),.bin .sub (.t 45) (.t 47)⟩,
  ⟨(some (44,true)),(some 49),.mov (.t 10)⟩,
  ⟨(some (44,true)),(some 50),.bin .geq (.t 48) (.t 49)⟩,
  ⟨none,(some 51),.pick (.t 44) (.t 50) (.k (.bool false))⟩])
 (.cond (.t 51) (.region false [⟨none,(some 52),.mov (.t 7)⟩,
  ⟨none,(some 53),.fld 0 (.t 9)⟩,
  ⟨none,(some 54),.load 1 false (.t 53)⟩,
  ⟨none,(some 55),.bsl 1 1 [(.int .i64 0)] [(0,1,(.t 54))]⟩,
  ⟨none,(some 56),.app 1 8 (.t 52) (.t 55)⟩,
  ⟨none,(some 7),.mov (.t 56)⟩])
 .skip)))))
 (.region false [⟨none,(some 16),.mov (.t 8)⟩,
  ⟨none,(some 17),.bin .add (.t 16) (.k (.int .i64 1))⟩,
  ⟨none,(some 8),.mov (.t 17)⟩])))
def z8ja (x1 x2 x3 x7 x8:DV) (h:List AObj):St:=⟨[.junk,x1,x2,x3,.junk,.junk,.junk,x7,x8]++js 49,h⟩
def a32:AFn where
 code:=(.seq (.region false [⟨none,(some 3),.box (.t 0)⟩,
  ⟨none,(some 6),.mov (.k .nils)⟩])
 (.seq (.region false [⟨none,(some 7),.mov (.k .nils)⟩])
 (.seq (.seq (.region false [⟨none,(some 8),.mov (.k (.int .i64 0))⟩])
 (.block 0 (.loop zx0e)))
 (.seq (.region false [⟨none,(some 57),.mov (.t 7)⟩,
  ⟨none,(some 6),.mov (.t 57)⟩])
 .ret))))
 ntmps:=58
 res:=[.tmp 6]
theorem zvrg:zsjc P Tryz.f32=some a32:=by kernel_rfl
end
section
set_option linter.unusedSimpArgs false
set_option linter.unusedVariables false
open Go Go.Am
def zx6w:ACode :=
 (.seq (.seq (.region false [⟨none,(some 7),.mov (.t 6)⟩,
  ⟨none,(some 8),.fld 1 (.t 2)⟩,
  ⟨none,(some 9),.load 1 false (.t 8)⟩,
  ⟨none,(some 10),.len (.t 9)⟩,
  ⟨none,(some 11),.bin .lss (.t 7) (.t 10)⟩])
 (.cond (.t 11) .skip
 (.exit 0)))
 (.seq (.block 1 (.seq (.region false [⟨none,(some 14),.fld 1 (.t 2)⟩,
  ⟨none,(some 15),.load 1 false (.t 14)⟩,
  ⟨none,(some 16),.mov (.t 6)⟩,
  ⟨none,(some 17),.idxS 37 (.t 15) (.t 16)⟩,
  ⟨none,(some 18),.fld 1 (.t 17)⟩,
  ⟨none,(some 19),.load 1 false (.t 18)⟩,
  ⟨none,(some 20),.mov (.t 1)⟩,
  ⟨none,(some 21),.bin .eql (.t 19) (.t 20)⟩,
  ⟨none,(some 22),.mov (.t 21)⟩,
  ⟨(some (22,true)),(some 23),.fld 1 (.t 2)⟩,
  ⟨(some (22,true)),(some 24),.load 1 false (.t 23)⟩,
  ⟨(some (22,true)),(some 25),.mov (.t 6)⟩,
  ⟨(some (22,true)),(some 26),.idxS 37 (.t 24) (.t 25)⟩,
  ⟨(some (22,true)),(some 27),.fld 34 (.t 26)⟩,
  ⟨(some (22,true)),(some 28),.load 1 false (.t 27)⟩,
  ⟨(some (22,true)),(some 29),.bin .eql (.t 28) (.k (.int .i64 2))⟩,
  ⟨none,(some 30),.pick (.t 22) (.t 29) (.k (.bool false))⟩])
 (.cond (.t 30) (.region false [⟨none,(some 31),.mov (.t 5)⟩,
  ⟨none,(some 32),.bin .add (.t 31) (.k (.int .i64 1))⟩,
  ⟨none,(some 5),.mov (.t 32)⟩])
 .skip)))
 (.region false [⟨none,(some 12),.mov (.t 6)⟩,
  ⟨none,(some 13),.bin .add (.t 12) (.k (.int .i64 1))⟩,
  ⟨none,(some 6),.mov (.t 13)⟩])))
def z225 (x1 x2 x5 x6:DV) (h:List AObj):St:=⟨[.junk,x1,x2,.junk,.junk,x5,x6]++js 27,h⟩
def a34:AFn where
 code:=(.seq (.region false [⟨none,(some 2),.box (.t 0)⟩,
  ⟨none,(some 4),.mov (.k (.int .i64 0))⟩])
 (.seq (.region false [⟨none,(some 5),.mov (.k (.int .i64 0))⟩])
 (.seq (.seq (.region false [⟨none,(some 6),.mov (.k (.int .i64 0))⟩])
 (.block 0 (.loop zx6w)))
 (.seq (.region false [⟨none,(some 33),.mov (.t 5)⟩,
  ⟨none,(some 4),.mov (.t 33)⟩])
 .ret))))
 ntmps:=34
 res:=[.tmp 4]
theorem zk28:zsjc P Tryz.f34=some a34:=by kernel_rfl
def a35:AFn where
 code:=(.seq (.region false [⟨none,(some 2),.box (.t 0)⟩,
  ⟨none,(some 4),.mov (.k (.int .i64 0))⟩])
 (.seq (.seq (.region false [⟨none,(some 6),.mov (.t 1)⟩,
  ⟨none,(some 7),.bin .lss (.t 6) (.k (.int .i64 0))⟩,
  ⟨none,(some 8),.mov (.t 7)⟩,
  ⟨(some (8,false)),(some 9),.mov (.t 1)⟩,
  ⟨(some (8,false)),(some 10),.fld 0 (.t 2)⟩,
  ⟨(some (8,false)),(some 11),.load 1 false (.t 10)⟩,
  ⟨(some (8,false)),(some 12),.len (.t 11)⟩,
  ⟨(some (8,false)),(some 13),.bin .geq (.t 9) (.t 12)⟩,
  ⟨none,(some 14),.pick (.t 8) (.k (.bool true)) (.t 13)⟩])
 (.cond (.t 14) (.seq (.region false [⟨none,(some 4),.mov (.k (.int .i64 0))⟩])
 .ret)
 .skip))
 (.seq (.region false [⟨none,(some 15),.fld 0 (.t 2)⟩,
  ⟨none,(some 16),.load 1 false (.t 15)⟩,
  ⟨none,(some 17),.mov (.t 1)⟩,
  ⟨none,(some 18),.idxS 6 (.t 16) (.t 17)⟩,
  ⟨none,(some 19),.load 6 true (.t 18)⟩,
  ⟨none,(some 5),.alloc [(.str []),(.str []),(.int .i64 0),(.int .i64 0),(.int .i64 0),.nils]⟩,
  ⟨none,none,.store 6 (.t 5) (.t 19)⟩])
 (.seq (.region true [⟨none,(some 20),.load 3 true (.t 2)⟩,
  ⟨none,(some 21),.mov (.t 1)⟩,
  ⟨none,(some 23),.fld 3 (.t 5)⟩,
  ⟨none,(some 24),.load 1 false (.t 23)⟩,
  ⟨none,(some 25),.fld 2 (.t 5)⟩,
  ⟨none,(some 26),.load 1 false (.t 25)⟩,
  ⟨none,(some 27),.fld 4 (.t 5)⟩,
  ⟨none,(some 28),.load 1 false (.t 27)⟩,
  ⟨none,(some 29),.bin .sub (.t 26) (.t 28)⟩,
  ⟨none,(some 30),.mm true [(.t 24),(.t 29)]⟩,
  ⟨none,(some 22),.callN (.k (.fn (.func 34) [] [])) [(.t 20),(.t 21)]⟩,
  ⟨none,(some 31),.bin .sub (.t 22) (.t 30)⟩,
  ⟨none,(some 32),.mm true [(.k (.int .i64 0)),(.t 31)]⟩,
  ⟨none,(some 4),.mov (.t 32)⟩])
 .ret))))
 ntmps:=33
 res:=[.tmp 4]
theorem zxwh:zsjc P Tryz.f35=some a35:=by kernel_rfl
end
section
set_option linter.unusedSimpArgs false
set_option linter.unusedVariables false
open Go Go.Am
end
section
set_option linter.unusedSimpArgs false
set_option linter.unusedVariables false
open Go Go.Am
end
section
set_option linter.unusedSimpArgs false
set_option linter.unusedVariables false
open Go Go.Am
def graL (t:Tp) (n:Nat):List Int:=(List.range n).map fun i=>tpN (t.adv i) 25
theorem zw91 {t:Tp} {n:Nat}:graL t (n+1)=graL t n++[tpN (t.adv n) 25]:=by simp [graL,List.range_succ]
theorem zuov {t:Tp} {n:Nat}:(graL t n).length=n:=by simp [graL]
theorem z3e0 {t:Tp} {n:Nat} {x:Int} (h:x ∈ graL t n):0≤x∧x<25:=by
 obtain ⟨i,_,rfl⟩:=y0q.1 h
 exact ⟨z4rs _ _,z2s7 _ (by decide)⟩
noncomputable def T290:Tbl:=addT 13 (.tch z1m3) tbl0
theorem zsmr:T290 13 = .tch z1m3:=by simp [T290]
theorem zgkm:T290.Sound P:=z0rp z51e zr5o
theorem zzdw {l:List Int} {o x:AObj} {y:Int} (hl:0<l.length) (hb:l.length<4294967296):appX [o,x,.cells (l.map (.int .i64))] 1 8 (.ms 2 l.length 0 1 l.length l.length) 1 [.int .i64 y]=some (.ms 2 (l.length+1) 0 1 (l.length+1) (l.length+1),[o,x,.cells ((l++[y]).map (.int .i64))]):=by
 have ho:objV [o,x,.cells (l.map (.int .i64))] 2 l.length=some (l.map (.int .i64)):=by simp [objV,ziu0]
 rw [zbho (by simp) (by omega) (by omega) (by simp) (by omega) (by simp [DV.one]),ho,y0j,y0g]
 rfl
def gr3 (t:Tp) (c:Clu) (L:List Int):List AObj:=if L=[] then [.cells (tpC t),.cells (clC c)] else [.cells (tpC t),.cells (clC c),.cells (L.map (.int .i64))]
theorem zbhy {t:Tp} {c:Clu}:gr3 t c []=[.cells (tpC t),.cells (clC c)]:=rfl
theorem zdlm {t:Tp} {c:Clu} {L:List Int} (h:L≠[]):gr3 t c L=[.cells (tpC t),.cells (clC c),.cells (L.map (.int .i64))]:=if_neg h
def S290 (t:Tp) (c:Clu) (i:Nat):St:=z96a (.mp 0 2 0) (.mp 1 3 0) (srtV 2 (graL t i)) (.int .i64 i) (gr3 (t.adv i) c (graL t i))
theorem zywt (t:Tp) (c:Clu) (ht:t.at_<4000000000) (hn:c.i.l.length≤1000):RunsF T290 a41 [.mp 0 2 0,.agg (clC c)] [.cells (tpC t)] (liV (graL t c.i.l.length)) [.cells (tpC (t.adv c.i.l.length))]:=by
 refine ⟨?_⟩
 obtain ⟨n,hne⟩ : ∃ n,c.i.l.length=n:=⟨_,rfl⟩
 rw [hne] at hn ⊢
 simp (disch:=first|omega|simp<;>omega|fail) [-zA,-zB,-zC,-zD,-zE,a41]
 refine zlm5 (S290 t c) (fun i=>n-i) (fun i=>i≤n) 0 (z515 (by simp (disch:=first|omega|simp<;>omega|fail) [-zA,-zB,-zC,-zD,-zE,S290,z96a,graL,srtV]) (by simp (disch:=first|omega|simp<;>omega|fail) [-zA,-zB,-zC,-zD,-zE,S290,z96a,graL,gr3,zbrh])) (by omega) (fun i hi => ?_)
 simp (disch:=first|omega|simp<;>omega|fail) [-zA,-zB,-zC,-zD,-zE,zumm,z96a,S290,hne]
 have hgl:=zuov (t:=t) (n:=i)
 have hgs:=zw91 (t:=t) (n:=i)
 have hN:=z44h (t:=t.adv i) (n:=25) (by show t.at_+i<_; omega) (by decide) (by decide)
 rw [zjmf] at hN
 obtain ⟨L,hL⟩ : ∃ L,graL t i=L:=⟨_,rfl⟩
 rw [hL] at hgl hgs
 rw [hL]
 by_cases h:i<n
 ·have h':(i:Int)<n:=by omega
  obtain ⟨y,hy⟩ : ∃ y,tpN (t.adv i) 25=y:=⟨_,rfl⟩
  rw [hy] at hN hgs
  by_cases q:L=[]
  ·subst q
   simp (disch:=first|omega|simp<;>omega|fail) [-zA,-zB,-zC,-zD,-zE,hne,h,h',zsmr,hN,zh11,zbhy]
   have hV:srtV 2 (graL t (i+1)) = .ms 2 1 0 1 1 1:=by rw [hgs]; rfl
   have hH:gr3 (t.adv (i+1)) c (graL t (i+1))=[.cells (tpC (t.adv (i+1))),.cells (clC c),.cells [.int .i64 y]]:=by rw [hgs]; rfl
   exact ⟨i+1,z515 (by simp (disch:=first|omega|simp<;>omega|fail) [-zA,-zB,-zC,-zD,-zE,S290,z96a,hV]) (by simp (disch:=first|omega|simp<;>omega|fail) [-zA,-zB,-zC,-zD,-zE,S290,z96a,hH]),by omega,by omega⟩
  ·have hV:=zgky (p:=2) q
   have hLp:0<L.length:=by cases L with|nil=>exact absurd rfl q|cons a l=>simp
   have hap:=fun o x y=>zzdw (l:=L) (o:=o) (x:=x) (y:=y) hLp (by omega)
   rw [hgl] at hV hap
   simp (disch:=first|omega|simp<;>omega|fail) [-zA,-zB,-zC,-zD,-zE,hne,h,h',zsmr,hN,hV,zdlm q,hgl,hap]
   have hV:srtV 2 (graL t (i+1)) = .ms 2 (i+1) 0 1 (i+1) (i+1):=by rw [hgs,zgky (by simp),y04,hgl]; rfl
   have hH:gr3 (t.adv (i+1)) c (graL t (i+1))=[.cells (tpC (t.adv (i+1))),.cells (clC c),.cells ((L++[y]).map (.int .i64))]:=by rw [hgs,zdlm (by simp)]
   exact ⟨i+1,z515 (by simp (disch:=first|omega|simp<;>omega|fail) [-zA,-zB,-zC,-zD,-zE,S290,z96a,hV]) (by simp (disch:=first|omega|simp<;>omega|fail) [-zA,-zB,-zC,-zD,-zE,S290,z96a,hH]),by omega,by omega⟩
 ·have h':¬ (i:Int)<n:=by omega
  obtain rfl:i=n:=by omega
  have hfz : ∀ k,fzL 1 k (tpC (t.adv i)) (tpC (t.adv i)):=fun k=>znnb (zs7w _)
  by_cases q:L=[]
  ·subst q
   simp (disch:=first|omega|simp<;>omega|fail) [-zA,-zB,-zC,-zD,-zE,hne,h,h',zh11,zbhy,hL,zxxz,hfz]
  ·have hV:=zgky (p:=2) q
   rw [hgl] at hV
   have ht:(L.map (DV.int .i64)).take i=L.map (DV.int .i64):=y03 (by simp [hgl])
   have hli:liV L = .sl false 1 i (L.map (.int .i64)):=by
    have e : ∀ l:List Int,l.flatMap inI=l.map (.int .i64):=fun l=>by
     induction l with
     | nil=>rfl
     | cons a l ih=>rw [y0e,ih]; rfl
    rw [zefw q,hgl,e]
   simp (disch:=first|omega|simp<;>omega|fail) [-zA,-zB,-zC,-zD,-zE,hne,h,h',hV,zdlm q,hgl,hL,hli,hfz,ht,zojd znqj]
noncomputable def cGra:List DV→List DV→Option (DV × List DV):=conT (fun a:Tp × Clu=>a.1.at_<4000000000∧a.2.i.l.length≤1000) (fun a=>[.agg (clC a.2)]) (fun a=>tpC a.1) (fun a=>(liV (graL a.1 a.2.i.l.length),tpC (a.1.adv a.2.i.l.length)))
theorem zxh3 {t:Tp} {c:Clu} (h1:t.at_<4000000000) (h2:c.i.l.length≤1000):cGra [.agg (clC c)] (tpC t)=some (liV (graL t c.i.l.length),tpC (t.adv c.i.l.length)) :=
 ztyo (A:=fun a:Tp × Clu=>a.1.at_<4000000000∧a.2.i.l.length≤1000) (f:=fun a=>[.agg (clC a.2)]) (s:=fun a=>tpC a.1) (by
  rintro ⟨a,n⟩ ⟨b,m⟩ e1 e2
  simp only [List.cons.injEq,DV.agg.injEq,and_true] at e1
  rw [zh7t e1,z15z e2]) (t,c) ⟨h1,h2⟩
theorem z10g:(Con.tch cGra).Sound P 41 :=
 z0tq (fun a _=>⟨by simp [zbao,zyp8,zy11],zs7w _,z4yh _,zs7w _⟩) fun a h=>zizi mix zgkm Tryz.func41 z5y8 (zywt a.1 a.2 h.1 h.2) (y0c _)
def nlO (l:List Int) (h:l.length≤1000000):Nl:=⟨if l=[] then none else some false,l,fun e=>by
 by_cases q:l=[]
 ·exact q
 ·simp [q] at e,by omega⟩
theorem zigl {l:List Int} (h:l.length≤1000000):(nlO l h).dv=liV l:=by
 unfold nlO Nl.dv liV
 by_cases q:l=[]
 ·simp only [q,if_true]; rfl
 ·simp only [q,if_false]; rfl
end
section
set_option linter.unusedSimpArgs false
set_option linter.unusedVariables false
open Go Go.Am
structure OvR (a:Clu × Nl × Int):Prop where
 o:OvOK a
 s : ∀ x ∈ a.1.i.l,1≤x.state∧x.state≤3
noncomputable def z5kd:List DV→Option DV:=con OvR (fun a:Clu × Nl × Int=>[.agg (clC a.1),a.2.1.dv,.int .i64 a.2.2]) (fun a=>liV (ze9z a.1.i.l 0 a.2.1.l a.2.2))
theorem zota {c:Clu} {g:Nl} {t:Int} (h:OvR (c,g,t)):z5kd [.agg (clC c),g.dv,.int .i64 t]=some (liV (ze9z c.i.l 0 g.l t)) :=
 zzno (f:=fun a:Clu × Nl × Int=>[.agg (clC a.1),a.2.1.dv,.int .i64 a.2.2]) (g:=fun a=>liV (ze9z a.1.i.l 0 a.2.1.l a.2.2)) (by
  rintro ⟨a,b,c⟩ ⟨d,e,f⟩ h
  simp only [List.cons.injEq,DV.agg.injEq,DV.int.injEq,and_true,true_and] at h
  rw [zh7t h.1,z2kw h.2.1,h.2.2]) (c,g,t) h
end
section
set_option linter.unusedSimpArgs false
set_option linter.unusedVariables false
open Go Go.Am
def S340 (c:Clu) (k:Int) (i:Nat):St:=z225 (.int .i64 k) (.mp 0 3 0) (.int .i64 (cntR k (c.i.l.take i))) (.int .i64 i) [.cells (clC c)]
theorem zn1j (c:Clu) (k:Int):Runs tbl0 a34 [.agg (clC c),.int .i64 k] (.int .i64 (cntR k c.i.l)):=by
 refine ⟨?_⟩
 obtain ⟨n,hn⟩ : ∃ n,c.i.l.length=n:=⟨_,rfl⟩
 have hib:=c.i.b
 simp (disch:=first|omega|simp<;>omega|fail) [-zA,-zB,-zC,-zD,-zE,a34]
 refine zlm5 (S340 c k) (fun i=>n-i) (fun i=>i≤n) 0 (z515 (by simp (disch:=first|omega|simp<;>omega|fail) [-zA,-zB,-zC,-zD,-zE,S340,z225,cntR]) (by simp (disch:=first|omega|simp<;>omega|fail) [-zA,-zB,-zC,-zD,-zE,S340,z225])) (by omega) (fun i hi => ?_)
 simp (disch:=first|omega|simp<;>omega|fail) [-zA,-zB,-zC,-zD,-zE,zx6w,z225,S340,hn]
 by_cases h:i<n
 ·have h':(i:Int)<n:=by omega
  have h2:i<c.i.l.length:=by omega
  have hx:=fun H=>zalo (x:=c.i) (h:=H) z6gw h2
  have hs:=zihc (k:=k) h2
  have hle:cntR k (c.i.l.take i)≤i:=Nat.le_trans (y0a _ _) (by simp; omega)
  obtain ⟨x,hxe⟩ : ∃ x,c.i.l[i]=x:=⟨_,rfl⟩
  simp only [hxe] at hx hs
  obtain ⟨m,hm⟩ : ∃ m,cntR k (c.i.l.take i)=m:=⟨_,rfl⟩
  rw [hm] at hs hle
  rw [hm]
  by_cases e1:x.grp=k
  ·by_cases e2:x.state=2
   ·have hs':cntR k (c.i.l.take (i+1))=m+1:=by rw [hs]; simp [runB,e1,e2]
    simp (disch:=first|omega|simp<;>omega|fail) [-zA,-zB,-zC,-zD,-zE,h,h',hx,e1,e2]
    exact ⟨i+1,z515 (by simp (disch:=first|omega|simp<;>omega|fail) [-zA,-zB,-zC,-zD,-zE,S340,z225,hs']) (by simp (disch:=first|omega|simp<;>omega|fail) [-zA,-zB,-zC,-zD,-zE,S340,z225]),by omega,by omega⟩
   ·have hs':cntR k (c.i.l.take (i+1))=m:=by rw [hs]; simp [runB,e2]
    simp (disch:=first|omega|simp<;>omega|fail) [-zA,-zB,-zC,-zD,-zE,h,h',hx,e1,e2]
    exact ⟨i+1,z515 (by simp (disch:=first|omega|simp<;>omega|fail) [-zA,-zB,-zC,-zD,-zE,S340,z225,hs']) (by simp (disch:=first|omega|simp<;>omega|fail) [-zA,-zB,-zC,-zD,-zE,S340,z225]),by omega,by omega⟩
  ·have hs':cntR k (c.i.l.take (i+1))=m:=by rw [hs]; simp [runB,e1]
   simp (disch:=first|omega|simp<;>omega|fail) [-zA,-zB,-zC,-zD,-zE,h,h',hx,e1]
   exact ⟨i+1,z515 (by simp (disch:=first|omega|simp<;>omega|fail) [-zA,-zB,-zC,-zD,-zE,S340,z225,hs']) (by simp (disch:=first|omega|simp<;>omega|fail) [-zA,-zB,-zC,-zD,-zE,S340,z225]),by omega,by omega⟩
 ·have h':¬ (i:Int)<n:=by omega
  have e:c.i.l.take i=c.i.l:=y03 (by omega)
  simp (disch:=first|omega|simp<;>omega|fail) [-zA,-zB,-zC,-zD,-zE,h,h',e]
def zku6 (c:Clu) (k:Int):DV := .int .i64 (cntR k c.i.l)
def zv6d (c:Clu) (k:Int):Int:=match grAt c k with
 | some g=>max ((cntR k c.i.l:Int)-max g.least (g.want-g.down)) 0
 | none=>0
def ze9k (c:Clu) (k:Int):DV := .int .i64 (zv6d c k)
theorem zd5o:(Con.pure (cCk zku6)).Sound P 34:=z2au fun a _=>zljw mix zr5o Tryz.func34 zk28 (zn1j a.1 a.2)
noncomputable def T342:Tbl:=addT 34 (.pure (cCk zku6)) tbl0
theorem z627:T342 34 = .pure (cCk zku6):=by simp [T342]
theorem zp54:T342.Sound P:=z0rp zd5o zr5o
theorem zeh4 (c:Clu) (k:Int) (hL : ∀ g ∈ c.g.l,zb68 g):Runs T342 a35 [.agg (clC c),.int .i64 k] (ze9k c k):=by
 refine ⟨?_⟩
 by_cases h0:k<0
 ·have hr:zv6d c k=0:=by rw [zv6d,zkxy h0]
  simp (disch:=first|omega|simp<;>omega|fail) [-zA,-zB,-zC,-zD,-zE,a35,h0,ze9k,hr]
 obtain ⟨K,rfl⟩ : ∃ K:Nat,k=K:=⟨k.toNat,by omega⟩
 by_cases h1:c.g.l.length≤K
 ·have hr:zv6d c K=0:=by rw [zv6d,zxgx h1]
  have h1':(c.g.l.length:Int)≤K:=by omega
  simp (disch:=first|omega|simp<;>omega|fail) [-zA,-zB,-zC,-zD,-zE,a35,h0,h1,h1',ze9k,hr]
 have h2:K<c.g.l.length:=by omega
 have h1':¬ (c.g.l.length:Int)≤K:=by omega
 have hG:=fun h=>zalo (x:=c.g) (h:=h) zry4 h2
 have hlim:=hL _ (List.getElem_mem h2)
 have hr:zv6d c K=max ((cntR K c.i.l:Int)-max c.g.l[K].least (c.g.l[K].want-c.g.l[K].down)) 0:=by rw [zv6d,zlav h2]
 obtain ⟨G,hGe⟩ : ∃ G,c.g.l[K]=G:=⟨_,rfl⟩
 rw [hGe] at hG hlim hr
 obtain ⟨⟨w1,w2⟩,⟨l1,l2⟩,d1,d2⟩:=hlim
 have hll:cntR K c.i.l≤c.i.l.length:=y0a _ _
 have hib:=c.i.b
 obtain ⟨N,hN⟩ : ∃ N,cntR K c.i.l=N:=⟨_,rfl⟩
 obtain ⟨M,hM⟩ : ∃ M,max G.least (G.want-G.down)=M:=⟨_,rfl⟩
 rw [hM,hN] at hr
 rw [hN] at hll
 have m1 : -2000000000≤M∧M≤2000000000:=by omega
 have hmx:max 0 ((N:Int)-M)=max ((N:Int)-M) 0:=by omega
 simp (disch:=first|omega|simp<;>omega|fail) [-zA,-zB,-zC,-zD,-zE,a35,h0,h1,h1',hG,z627,ztaz,zku6,ze9k,hr,zm4y,hM,hN,zluv,zaqi,hmx]
theorem zoj4:(Con.pure (cCkA LimC ze9k)).Sound P 35:=z2au fun a h=>zljw mix zp54 Tryz.func35 zxwh (zeh4 a.1 a.2 h)
end
section
set_option linter.unusedSimpArgs false
set_option linter.unusedVariables false
open Go Go.Am
def deV (D:List Ins):DV:=if D=[] then .nils else .sl false 37 D.length (D.flatMap inC)
def inV (p:Nat) (D:List Ins):DV:=if D=[] then .nils else .ms p (D.length*37) 0 37 D.length (D.length*37)
def inH (pre:List AObj) (D:List Ins):List AObj:=if D=[] then pre else pre++[.cells (D.flatMap inC)]
structure VS where
 i:Nat
 D:List Ins
 O:List Int
 z:Ins
end
section
set_option linter.unusedSimpArgs false
set_option linter.unusedVariables false
open Go Go.Am
def zpbt (H:List AObj):Prop := ∀ o ∈ H,∃ cs,o = .cells cs∧zbao cs=true
theorem zpbt.app {A B:List AObj} (h1:zpbt A) (h2:zpbt B):zpbt (A++B):=fun o ho=>(List.mem_append.1 ho).elim (h1 o) (h2 o)
theorem zpbt.one {cs:List DV} (h:zbao cs=true):zpbt [.cells cs]:=fun o ho=>⟨cs,by simpa using ho,h⟩
theorem zpbt.ov {c:Clu} {a:OS}:zpbt (ovH c a):=by
 unfold ovH; split
 ·exact .one (zy11 c)
 ·exact (zpbt.one (zy11 c)).app ((zpbt.one (z9kv _)).app (.one znqj))
structure InsF (H:List AObj) (x:Ins) (D:List Ins) (q:Nat) (v1 v2:DV):Prop where
 s1 : ∀ K,z390 K 37 (deV D) none (some (.int .i64 q)) none=some v1
 y1 : ∀ K,visY K v1=some (q,(D.take q).flatMap inC)
 s2 : ∀ K,z390 K 37 (deV D) (some (.int .i64 q)) none none=some v2
 y2 : ∀ K,visY K v2=some (D.length-q,(D.drop q).flatMap inC)
 a1:appX (H++[.cells (inC x)]) 37 72 .nils q ((D.take q).flatMap inC)=some (inV (H.length+1) (D.take q),inH (H++[.cells (inC x)]) (D.take q))
 ox:objV (inH (H++[.cells (inC x)]) (D.take q)) H.length 37=some (inC x)
 a2:appX (inH (H++[.cells (inC x)]) (D.take q)) 37 72 (inV (H.length+1) (D.take q)) 1 (inC x)=some (inV (H.length+1) (D.take q++[x]),inH (H++[.cells (inC x)]) (D.take q++[x]))
 a3:appX (inH (H++[.cells (inC x)]) (D.take q++[x])) 37 72 (inV (H.length+1) (D.take q++[x])) (D.length-q) ((D.drop q).flatMap inC)=some (inV (H.length+1) (D.take q++x::D.drop q),inH (H++[.cells (inC x)]) (D.take q++x::D.drop q))
 p1:z87v (.mp H.length 37 0) (inV (H.length+1) (D.take q))=true
structure VR where
 m:Nat
 pre:List AObj
 L:List Int
 M:Int
structure VRI (c:Clu) (g:Grp) (k:Nat) (base:List Int) (M0:Int) (a:VR):Prop where
 m:a.m≤c.i.l.length
 f : ∃ X,a.pre=[.cells (clC c)]++X
 p:zpbt a.pre
 l:a.L=base++(z56d g (c.i.l.drop a.m) k).reverse.map Ins.id
 M:a.M=M0-(z56d g (c.i.l.drop a.m) k).length
 n:(z56d g (c.i.l.drop a.m) k).length≤M0.toNat
end
section
set_option linter.unusedSimpArgs false
set_option linter.unusedVariables false
open Go Go.Am
end
section
set_option linter.unusedSimpArgs false
set_option linter.unusedVariables false
open Go Go.Am
theorem zsc2 {c:Clu} (hv:ValidC c) {k:Int} (hk:grAt c k=none) : ∀ x ∈ c.i.l,¬ x.grp=k:=fun x hx e=>by
 obtain ⟨j,hj,rfl⟩:=y05 hx
 have h:=(hv.i j hj).1
 obtain ⟨g,hg⟩:=zgr5 (c:=c) (k:=k) (by rw [← e]; exact h.g0) (by rw [← e]; exact h.g1)
 rw [hk] at hg; cases hg
theorem zqb9 {c:Clu} (hv:ValidC c) (k:Int):zd1c c k=cntR k c.i.l:=by
 cases hk:grAt c k with
 | some g=>exact z00u hk
 | none =>
  have h:=zsc2 hv hk
  have:c.i.l.filter (runB k)=[]:=by
   rw [List.filter_eq_nil_iff]
   intro x hx
   simp [runB,h x hx]
  simp only [zd1c,idsP,hk,cntR,this,y0i]
theorem z6ez {c:Clu} (hv:ValidC c) (k:Int):z17v c k=zv6d c k:=by
 unfold z17v zv6d; rw [zqb9 hv]; cases grAt c k<;>rfl
namespace disruptionCounts
end disruptionCounts
end
section
set_option linter.unusedSimpArgs false
set_option linter.unusedVariables false
open Go Go.Am
end
section
set_option linter.unusedSimpArgs false
set_option linter.unusedVariables false
open Go Go.Am
theorem zc46 {c:Clu} (hv:ValidC c) {k:Nat} (hk:k<c.i.l.length):c.g.l≠[]:=by
 intro e
 have h1:=(hv.i k hk).1.g0
 have h2:=(hv.i k hk).1.g1
 rw [e] at h2; simp at h2; omega
end
section
set_option linter.unusedSimpArgs false
set_option linter.unusedVariables false
open Go Go.Am
end
section
set_option linter.unusedSimpArgs false
set_option linter.unusedVariables false
open Go Go.Am
def inz:Ins:=⟨0,0,dg0,0,0,0⟩
structure DelF (pre:List AObj) (l:List Ins) (i n:Nat):Prop where
 s1:z390 (pre++[.cells (l.flatMap inC)]) 37 (.ms pre.length (n*37) 0 37 n (n*37)) (some (.int .i64 i)) (some (.int .i64 ((i:Int)+1))) (some (.int .i64 n))=some .junk
 s2:z390 (pre++[.cells (l.flatMap inC)]) 37 (.ms pre.length (n*37) 0 37 n (n*37)) none (some (.int .i64 i)) none=some (.ms pre.length (n*37) 0 37 i (n*37))
 s3:z390 (pre++[.cells (l.flatMap inC)]) 37 (.ms pre.length (n*37) 0 37 n (n*37)) (some (.int .i64 ((i:Int)+1))) none none=some (.ms pre.length (n*37) ((i+1)*37) 37 (n-(i+1)) (n*37))
 y:visY (pre++[.cells (l.flatMap inC)]) (.ms pre.length (n*37) ((i+1)*37) 37 (n-(i+1)) (n*37))=some (n-(i+1),(l.drop (i+1)).flatMap inC)
 a:appX (pre++[.cells (l.flatMap inC)]) 37 72 (.ms pre.length (n*37) 0 37 i (n*37)) (n-(i+1)) ((l.drop (i+1)).flatMap inC)=some (.ms pre.length (n*37) 0 37 (n-1) (n*37),pre++[.cells ((l.eraseIdx i++l.drop (n-1)).flatMap inC)])
 ln:lenD (pre++[.cells ((l.eraseIdx i++l.drop (n-1)).flatMap inC)]) (.ms pre.length (n*37) 0 37 (n-1) (n*37))=some (.int .i64 ((n:Int)-1))
 s4:z390 (pre++[.cells ((l.eraseIdx i++l.drop (n-1)).flatMap inC)]) 37 (.ms pre.length (n*37) 0 37 (n-1) (n*37)) (some (.int .i64 ((n:Int)-1))) (some (.int .i64 n)) none=some (.ms pre.length (n*37) ((n-1)*37) 37 1 (n*37))
 c:clrD (pre++[.cells ((l.eraseIdx i++l.drop (n-1)).flatMap inC)]) 37 (inC inz) (.ms pre.length (n*37) ((n-1)*37) 37 1 (n*37))=some (.tup [],pre++[.cells ((l.eraseIdx i++[inz]).flatMap inC)])
end
section
set_option linter.unusedSimpArgs false
set_option linter.unusedVariables false
open Go Go.Am
end
section
set_option linter.unusedSimpArgs false
set_option linter.unusedVariables false
open Go Go.Am
def a63:AFn where
 code:=(.seq (.region false [⟨none,(some 6),.box (.t 0)⟩,
  ⟨none,(some 12),.alloc [.nils,.nils,(.int .i64 0)]⟩,
  ⟨none,(some 13),.mov (.k (.int .i64 0))⟩])
 (.seq (.seq (.region false [⟨none,(some 17),.load 3 true (.t 6)⟩,
  ⟨none,(some 18),.call (.k (.fn (.func 29) [] [])) [(.t 17)]⟩,
  ⟨none,(some 19),.un .not (.t 18)⟩,
  ⟨none,(some 20),.mov (.t 19)⟩,
  ⟨(some (20,false)),(some 21),.mov (.t 2)⟩,
  ⟨(some (20,false)),(some 22),.call (.k (.fn (.func 96) [] [])) [(.t 21)]⟩,
  ⟨(some (20,false)),(some 23),.un .not (.t 22)⟩,
  ⟨none,(some 24),.pick (.t 20) (.k (.bool true)) (.t 23)⟩])
 (.cond (.t 24) (.seq (.region false [⟨none,(some 25),.build [.nils,.nils,(.int .i64 0)] []⟩,
  ⟨none,none,.store 3 (.t 12) (.t 25)⟩,
  ⟨none,(some 13),.mov (.k (.int .i64 1))⟩])
 .ret)
 .skip))
 (.seq (.region false [⟨none,(some 26),.load 3 true (.t 6)⟩,
  ⟨none,(some 27),.mov (.t 1)⟩,
  ⟨none,(some 28),.call (.k (.fn (.func 30) [] [])) [(.t 26),(.t 27)]⟩,
  ⟨none,(some 14),.mov (.t 28)⟩])
 (.seq (.seq (.region false [⟨none,(some 29),.mov (.t 14)⟩,
  ⟨none,(some 30),.bin .lss (.t 29) (.k (.int .i64 0))⟩])
 (.cond (.t 30) (.seq (.region false [⟨none,(some 31),.build [.nils,.nils,(.int .i64 0)] []⟩,
  ⟨none,none,.store 3 (.t 12) (.t 31)⟩,
  ⟨none,(some 13),.mov (.k (.int .i64 4))⟩])
 .ret)
 .skip))
 (.seq (.seq (.region false [⟨none,(some 32),.fld 1 (.t 6)⟩,
  ⟨none,(some 33),.load 1 false (.t 32)⟩,
  ⟨none,(some 34),.mov (.t 14)⟩,
  ⟨none,(some 35),.idxS 37 (.t 33) (.t 34)⟩,
  ⟨none,(some 36),.fld 34 (.t 35)⟩,
  ⟨none,(some 37),.load 1 false (.t 36)⟩,
  ⟨none,(some 15),.mov (.t 37)⟩])
 (.seq (.region false [⟨none,(some 38),.mov (.t 15)⟩,
  ⟨none,(some 39),.mov (.t 3)⟩,
  ⟨none,(some 40),.bin .neq (.t 38) (.t 39)⟩,
  ⟨none,(some 41),.mov (.t 40)⟩,
  ⟨(some (41,true)),(some 42),.mov (.t 15)⟩,
  ⟨(some (41,true)),(some 43),.mov (.t 4)⟩,
  ⟨(some (41,true)),(some 44),.bin .neq (.t 42) (.t 43)⟩,
  ⟨none,(some 45),.pick (.t 41) (.t 44) (.k (.bool false))⟩])
 (.cond (.t 45) (.seq (.region false [⟨none,(some 46),.build [.nils,.nils,(.int .i64 0)] []⟩,
  ⟨none,none,.store 3 (.t 12) (.t 46)⟩,
  ⟨none,(some 13),.mov (.k (.int .i64 30))⟩])
 .ret)
 .skip)))
 (.seq (.region false [⟨none,(some 47),.load 3 true (.t 6)⟩,
  ⟨none,(some 48),.call (.k (.fn (.func 97) [] [])) [(.t 47)]⟩,
  ⟨none,(some 16),.alloc [.nils,.nils,(.int .i64 0)]⟩,
  ⟨none,none,.store 3 (.t 16) (.t 48)⟩])
 (.seq (.region true [⟨none,(some 49),.fld 1 (.t 16)⟩,
  ⟨none,(some 50),.load 1 false (.t 49)⟩,
  ⟨none,(some 51),.mov (.t 14)⟩,
  ⟨none,(some 52),.fld 1 (.t 16)⟩,
  ⟨none,(some 53),.load 1 false (.t 52)⟩,
  ⟨none,(some 54),.mov (.t 14)⟩,
  ⟨none,(some 55),.mov (.t 5)⟩,
  ⟨none,(some 56),.mov (.t 2)⟩,
  ⟨none,(some 57),.idxS 37 (.t 50) (.t 51)⟩,
  ⟨none,(some 58),.fld 34 (.t 57)⟩,
  ⟨none,none,.store 1 (.t 58) (.t 55)⟩,
  ⟨none,(some 59),.idxS 37 (.t 53) (.t 54)⟩,
  ⟨none,(some 60),.fld 35 (.t 59)⟩,
  ⟨none,none,.store 1 (.t 60) (.t 56)⟩,
  ⟨none,none,.apart (.t 16) (.t 58)⟩,
  ⟨none,none,.apart (.t 52) (.t 58)⟩])
 (.seq (.region false [⟨none,(some 61),.load 3 true (.t 16)⟩,
  ⟨none,none,.store 3 (.t 12) (.t 61)⟩,
  ⟨none,(some 13),.mov (.k (.int .i64 0))⟩])
 .ret))))))))
 ntmps:=62
 res:=[.cell 12 3 true,.tmp 13]
theorem z2tu:zsjc P Tryz.f63=some a63:=by kernel_rfl
def a33:AFn where
 code:=(.seq (.region false [⟨none,(some 3),.box (.t 0)⟩,
  ⟨none,(some 6),.alloc [.nils,.nils,(.int .i64 0)]⟩,
  ⟨none,(some 7),.mov (.k (.int .i64 0))⟩])
 (.seq (.region false [⟨none,(some 8),.load 3 true (.t 3)⟩,
  ⟨none,(some 9),.mov (.t 1)⟩,
  ⟨none,(some 10),.mov (.t 2)⟩,
  ⟨none,(some 11),.call (.k (.fn (.func 63) [] [])) [(.t 8),(.t 9),(.t 10),(.k (.int .i64 1)),(.k (.int .i64 2)),(.k (.int .i64 3))]⟩,
  ⟨none,(some 12),.ext (.t 11) 0⟩,
  ⟨none,(some 13),.ext (.t 11) 1⟩,
  ⟨none,none,.store 3 (.t 6) (.t 12)⟩,
  ⟨none,(some 7),.mov (.t 13)⟩])
 .ret))
 ntmps:=14
 res:=[.cell 6 3 true,.tmp 7]
theorem zojn:zsjc P Tryz.f33=some a33:=by kernel_rfl
end
section
set_option linter.unusedSimpArgs false
set_option linter.unusedVariables false
open Go Go.Am
def mayR (a b s:Int):Bool:=decide (s=a)||decide (s=b)
open Classical in
noncomputable def chgR (c:Clu) (id t a b to:Int):Clu × Int :=
 if ¬ ValidC c∨¬ zcie t then (clu0,1)
 else if z092 c.i.l id<0 then (clu0,4)
 else if ((c.i.l[(z092 c.i.l id).toNat]?).map fun x=>mayR a b x.state)=some true then (⟨c.g.copy,own (setI c.i.l (z092 c.i.l id).toNat to t),c.next⟩,0)
 else (clu0,30)
noncomputable def zbyq (c:Clu) (id t a b to:Int):DV := .tup [.agg (clC (chgR c id t a b to).1),.int .i64 (chgR c id t a b to).2]
theorem zokf (c:Clu) (id t a b to:Int):Runs T170 a63 [.agg (clC c),.int .i64 id,.int .i64 t,.int .i64 a,.int .i64 b,.int .i64 to] (zbyq c id t a b to):=by
 refine ⟨?_⟩
 by_cases hv:ValidC c
 case neg =>
  have hd:chgR c id t a b to=(clu0,1):=by rw [chgR,if_pos (.inl hv)]
  simp (disch:=first|omega|simp<;>omega|fail) [-zA,-zB,-zC,-zD,-zE,a63,z7cg,zf0o,zwdn,zjeq,zixp,z9s5,z3mn,zbyq,zewf hv,hd,z3cj]
 by_cases ht:zcie t
 case neg =>
  have hd:chgR c id t a b to=(clu0,1):=by rw [chgR,if_pos (.inr ht)]
  simp (disch:=first|omega|simp<;>omega|fail) [-zA,-zB,-zC,-zD,-zE,a63,z7cg,zf0o,zwdn,zjeq,zixp,z9s5,z3mn,zbyq,zogs hv,zewf ht,hd,z3cj]
 have hnn:¬ (¬ ValidC c∨¬ zcie t):=fun h=>h.elim (fun h=>h hv) (fun h=>h ht)
 by_cases hx:z092 c.i.l id<0
 ·have hd:chgR c id t a b to=(clu0,4):=by rw [chgR,if_neg hnn,if_pos hx]
  simp (disch:=first|omega|simp<;>omega|fail) [-zA,-zB,-zC,-zD,-zE,a63,z7cg,zf0o,zwdn,zjeq,zixp,z9s5,z3mn,zbyq,zogs hv,zogs ht,hx,hd,z3cj]
 obtain ⟨k,hk,hke,_,_⟩:=ziel (show 0≤z092 c.i.l id by omega)
 have hke:z092 c.i.l id=k:=hke
 have hx':¬ (k:Int)<0:=by omega
 have hk':(k:Int)<c.i.l.length:=by omega
 obtain ⟨x,hxe⟩ : ∃ x,c.i.l[k]=x:=⟨_,rfl⟩
 have hgx : ∀ H,zpsc H 37 (c.i.dv 37 inC) k=some (.ref (inC x)):=fun H=>by rw [zalo z6gw hk,hxe]
 have hopt:c.i.l[k]? = some x:=by rw [y02 hk,hxe]
 by_cases hm:mayR a b x.state=true
 case neg =>
  have hm2:mayR a b x.state=false:=by simpa using hm
  have hd:chgR c id t a b to=(clu0,30):=by rw [chgR,if_neg hnn,if_neg hx,hke]; simp [hopt,hm2]
  have h1:¬ x.state=a:=fun e=>by simp [mayR,e] at hm2
  have h2:¬ x.state=b:=fun e=>by simp [mayR,e] at hm2
  simp (disch:=first|omega|simp<;>omega|fail) [-zA,-zB,-zC,-zD,-zE,a63,z7cg,zf0o,zwdn,zjeq,zixp,z9s5,z3mn,zbyq,zogs hv,zogs ht,hke,hx',hk',hk,hgx,h1,h2,hd,z3cj]
 have hd:chgR c id t a b to=(⟨c.g.copy,own (c.i.l.set k ((x.st to).si t)),c.next⟩,0):=by
  rw [chgR,if_neg hnn,if_neg hx,hke,if_pos (by simp [hopt,hm])]
  simp only [y09,setI,hopt]
 have ho:=zqrs (l:=c.i.l.set k ((x.st to).si t)) (s:=37) (f:=inC) (by rw [y01]; exact c.i.b)
 have ha : ∀ l:List Grp,(l.flatMap grC).length=l.length*6:=z1rq zry4
 have hb : ∀ l:List Ins,(l.flatMap inC).length=l.length*37:=z1rq z6gw
 have hg:=zc46 hv hk
 have hi:c.i.l≠[]:=by intro e; rw [e] at hk; simp at hk
 have e2:=z895 (f:=grC) hg
 have e3:=fun id=>z6jk (id:=id) (s:=6) hg
 have e5:=zm8x (s:=6) (f:=grC) hg
 have e7:=zq57 (l:=c.g.l) (n:=c.g.l.length) (y0c _)
 have f1:=fun id=>z6jk (id:=id) (s:=37) hi
 have f2:=z895 (f:=inC) hi
 have s1 : ∀ H id,zy6o H id 1 (k*37+34) (.int .i64 to) (some (c.i.l.flatMap inC))=some (.junk,H.set id (.cells ((c.i.l.set k (x.st to)).flatMap inC))):=fun H id=>by rw [zajs hk,hxe]
 have s2 : ∀ H id,zy6o H id 1 (k*37+35) (.int .i64 t) (some ((c.i.l.set k (x.st to)).flatMap inC))=some (.junk,H.set id (.cells ((c.i.l.set k ((x.st to).si t)).flatMap inC))):=fun H id=>by
  rw [zjzz (by rw [y01]; exact hk),y0m,List.set_set]
 have e8:=z5fn (l:=c.i.l.set k ((x.st to).si t)) (n:=c.i.l.length) (by rw [y01]; exact y0c _)
 by_cases h1:x.state=a
 ·simp (disch:=first|omega|simp<;>omega|fail) [-zA,-zB,-zC,-zD,-zE,a63,z7cg,zf0o,zwdn,zjeq,zixp,z9s5,z3mn,zbyq,zogs hv,zogs ht,hke,hx',hk',hk,hgx,h1,zlm3,z48d,zcli,zmsj,e2,e3,e5,e7,e8,f1,f2,ha,hb,zbcp,s1,s2,hd,zdhs,ho]
 ·have h2:x.state=b:=by simpa [mayR,h1] using hm
  have h3:¬ b=a:=fun e=>h1 (h2.trans e)
  simp (disch:=first|omega|simp<;>omega|fail) [-zA,-zB,-zC,-zD,-zE,a63,z7cg,zf0o,zwdn,zjeq,zixp,z9s5,z3mn,zbyq,zogs hv,zogs ht,hke,hx',hk',hk,hgx,h3,h2,zlm3,z48d,zcli,zmsj,e2,e3,e5,e7,e8,f1,f2,ha,hb,zbcp,s1,s2,hd,zdhs,ho]
end
section
set_option linter.unusedSimpArgs false
set_option linter.unusedVariables false
open Go Go.Am
noncomputable def cChR:List DV→Option DV:=con (fun _=>True) (fun p:Clu × Int × Int × Int × Int × Int=>[.agg (clC p.1),.int .i64 p.2.1,.int .i64 p.2.2.1,.int .i64 p.2.2.2.1,.int .i64 p.2.2.2.2.1,.int .i64 p.2.2.2.2.2]) (fun p=>zbyq p.1 p.2.1 p.2.2.1 p.2.2.2.1 p.2.2.2.2.1 p.2.2.2.2.2)
theorem z776 {c:Clu} {id t a b to:Int}:cChR [.agg (clC c),.int .i64 id,.int .i64 t,.int .i64 a,.int .i64 b,.int .i64 to]=some (zbyq c id t a b to) :=
 zsn4 (f:=fun p:Clu × Int × Int × Int × Int × Int=>[.agg (clC p.1),.int .i64 p.2.1,.int .i64 p.2.2.1,.int .i64 p.2.2.2.1,.int .i64 p.2.2.2.2.1,.int .i64 p.2.2.2.2.2]) (by
  rintro ⟨a,b,c,d,e,f⟩ ⟨a',b',c',d',e',f'⟩ e
  simp only [List.cons.injEq,DV.agg.injEq,DV.int.injEq,and_true,true_and] at e
  obtain ⟨e1,e2,e3,e4,e5,e6⟩:=e
  rw [zh7t e1,e2,e3,e4,e5,e6]) (c,id,t,a,b,to)
noncomputable def T415:Tbl:=addT 63 (.pure cChR) tbl0
theorem zkjo:T415 63 = .pure cChR:=by simp [T415]
theorem zy1s:T415.Sound P:=z0rp (z2au fun p _=>zljw mix zfgl Tryz.func63 z2tu (zokf p.1 p.2.1 p.2.2.1 p.2.2.2.1 p.2.2.2.2.1 p.2.2.2.2.2)) zr5o
theorem zbeg (c:Clu) (id t:Int):Runs T415 a33 [.agg (clC c),.int .i64 id,.int .i64 t] (zbyq c id t 1 2 3):=by
 refine ⟨?_⟩
 simp (disch:=first|omega|simp<;>omega|fail) [-zA,-zB,-zC,-zD,-zE,a33,zkjo,z776,zbyq]
end
section
set_option linter.unusedSimpArgs false
set_option linter.unusedVariables false
open Go Go.Am
end
section
set_option linter.unusedSimpArgs false
set_option linter.unusedVariables false
open Go Go.Am
end
section
set_option linter.unusedSimpArgs false
set_option linter.unusedVariables false
open Go Go.Am
end
section
set_option linter.unusedSimpArgs false
set_option linter.unusedVariables false
open Go Go.Am
noncomputable def cSta (f:Clu→Int→Dg→Int→DV):List DV→Option DV:=con (fun _=>True) (fun p:Clu × Int × Dg × Int=>[.agg (clC p.1),.int .i64 p.2.1,.agg (dgC p.2.2.1),.int .i64 p.2.2.2]) (fun p=>f p.1 p.2.1 p.2.2.1 p.2.2.2)
theorem zx1h {f:Clu→Int→Dg→Int→DV} {c:Clu} {g t:Int} {d:Dg}:cSta f [.agg (clC c),.int .i64 g,.agg (dgC d),.int .i64 t]=some (f c g d t) :=
 zsn4 (f:=fun p:Clu × Int × Dg × Int=>[.agg (clC p.1),.int .i64 p.2.1,.agg (dgC p.2.2.1),.int .i64 p.2.2.2]) (by
  rintro ⟨a,b,c,d⟩ ⟨a',b',c',d'⟩ e
  simp only [List.cons.injEq,DV.agg.injEq,DV.int.injEq,and_true,true_and] at e
  rw [zh7t e.1,e.2.1,zib9 e.2.2.1,e.2.2.2]) (c,g,d,t)
noncomputable def cCii (f:Clu→Int→Int→DV):List DV→Option DV:=con (fun _=>True) (fun p:Clu × Int × Int=>[.agg (clC p.1),.int .i64 p.2.1,.int .i64 p.2.2]) (fun p=>f p.1 p.2.1 p.2.2)
theorem zl2e {f:Clu→Int→Int→DV} {c:Clu} {g t:Int}:cCii f [.agg (clC c),.int .i64 g,.int .i64 t]=some (f c g t) :=
 zsn4 (f:=fun p:Clu × Int × Int=>[.agg (clC p.1),.int .i64 p.2.1,.int .i64 p.2.2]) (by
  rintro ⟨a,b,d⟩ ⟨a',b',d'⟩ e
  simp only [List.cons.injEq,DV.agg.injEq,DV.int.injEq,and_true,true_and] at e
  rw [zh7t e.1,e.2.1,e.2.2]) (c,g,t)
def d1:Dg:=⟨1#8::rep 31 0#8,by simp⟩
structure OneG (c:Clu) (x:Grp):Prop where
 g:c.g.l=[x]
 v:ValidG x
 a:x.ns=[97]
 b:x.im=[98]
end
section
set_option linter.unusedSimpArgs false
set_option linter.unusedVariables false
open Go Go.Am
theorem b1:zvnk (dgC dg0) [(0,1,w8 1#8)]=some (.agg (dgC d1)):=rfl
theorem b2:bslD 32 1 (dgC dg0) [(0,32,.agg (dgC d1))]=some (.sl true 32 1 (dgC d1)):=rfl
end
section
set_option linter.unusedSimpArgs false
set_option linter.unusedVariables false
open Go Go.Am
theorem z5nl:(Con.pure (cCii fun c i t=>zbyq c i t 1 2 3)).Sound P 33:=z2au fun p _=>zljw mix zy1s Tryz.func33 zojn (zbeg p.1 p.2.1 p.2.2)
end
section
set_option linter.unusedSimpArgs false
set_option linter.unusedVariables false
open Go Go.Am
def z0bm:ACode :=
 (.seq (.seq (.region false [⟨none,(some 15),.mov (.t 9)⟩,
  ⟨none,(some 16),.mov (.t 10)⟩,
  ⟨none,(some 17),.bin .lss (.t 15) (.t 16)⟩])
 (.cond (.t 17) .skip
 (.exit 0)))
 (.block 1 (.seq (.region false [⟨none,(some 18),.mov (.t 9)⟩,
  ⟨none,(some 19),.mov (.t 10)⟩,
  ⟨none,(some 20),.bin .add (.t 18) (.t 19)⟩,
  ⟨none,(some 21),.conv .u64 (.t 20)⟩,
  ⟨none,(some 22),.bin .shr (.t 21) (.k (w64 1#64))⟩,
  ⟨none,(some 23),.conv .i64 (.t 22)⟩,
  ⟨none,(some 11),.mov (.t 23)⟩])
 (.seq (.region true [⟨none,(some 24),.mov (.t 2)⟩,
  ⟨none,(some 25),.mov (.t 0)⟩,
  ⟨none,(some 26),.mov (.t 11)⟩,
  ⟨none,(some 27),.idxS 35 (.t 25) (.t 26)⟩,
  ⟨none,(some 28),.load 35 true (.t 27)⟩,
  ⟨none,(some 29),.load 35 true (.t 4)⟩,
  ⟨none,(some 30),.callE (.t 24) [(.t 28),(.t 29)]⟩,
  ⟨none,(some 31),.bin .lss (.t 30) (.k (.int .i64 0))⟩])
 (.cond (.t 31) (.region false [⟨none,(some 32),.mov (.t 11)⟩,
  ⟨none,(some 33),.bin .add (.t 32) (.k (.int .i64 1))⟩,
  ⟨none,(some 9),.mov (.t 33)⟩])
 (.region false [⟨none,(some 34),.mov (.t 11)⟩,
  ⟨none,(some 10),.mov (.t 34)⟩]))))))
def zd78 (x0 x2 x4 x8 x9 x10:DV) (h:List AObj):St:=⟨[x0,.junk,x2,.junk,x4,.junk,.junk,.junk,x8,x9,x10]++js 38,h⟩
def a68:AFn where
 code:=(.seq (.region false [⟨none,(some 4),.box (.t 1)⟩,
  ⟨none,(some 6),.mov (.k (.int .i64 0))⟩,
  ⟨none,(some 7),.mov (.k (.bool false))⟩])
 (.seq (.region false [⟨none,(some 12),.mov (.t 0)⟩,
  ⟨none,(some 13),.len (.t 12)⟩,
  ⟨none,(some 8),.mov (.t 13)⟩])
 (.seq (.region false [⟨none,(some 14),.mov (.t 8)⟩,
  ⟨none,(some 9),.mov (.k (.int .i64 0))⟩,
  ⟨none,(some 10),.mov (.t 14)⟩])
 (.seq (.block 0 (.loop z0bm))
 (.seq (.region true [⟨none,(some 35),.mov (.t 9)⟩,
  ⟨none,(some 36),.mov (.t 9)⟩,
  ⟨none,(some 37),.mov (.t 8)⟩,
  ⟨none,(some 38),.bin .lss (.t 36) (.t 37)⟩,
  ⟨none,(some 39),.mov (.t 38)⟩,
  ⟨(some (39,true)),(some 40),.mov (.t 2)⟩,
  ⟨(some (39,true)),(some 41),.mov (.t 0)⟩,
  ⟨(some (39,true)),(some 42),.mov (.t 9)⟩,
  ⟨(some (39,true)),(some 43),.idxS 35 (.t 41) (.t 42)⟩,
  ⟨(some (39,true)),(some 44),.load 35 true (.t 43)⟩,
  ⟨(some (39,true)),(some 45),.load 35 true (.t 4)⟩,
  ⟨(some (39,true)),(some 46),.callE (.t 40) [(.t 44),(.t 45)]⟩,
  ⟨(some (39,true)),(some 47),.bin .eql (.t 46) (.k (.int .i64 0))⟩,
  ⟨none,(some 48),.pick (.t 39) (.t 47) (.k (.bool false))⟩,
  ⟨none,(some 6),.mov (.t 35)⟩,
  ⟨none,(some 7),.mov (.t 48)⟩])
 .ret)))))
 ntmps:=49
 res:=[.tmp 6,.tmp 7]
theorem z20i:zsjc P Tryz.f68=some a68:=by kernel_rfl
def a69:AFn where
 code:=(.seq (.region false [⟨none,(some 2),.box (.t 0)⟩,
  ⟨none,(some 3),.box (.t 1)⟩,
  ⟨none,(some 4),.mov (.k (.int .i64 0))⟩])
 (.seq (.region true [⟨none,(some 5),.fld 0 (.t 2)⟩,
  ⟨none,(some 6),.load 1 false (.t 5)⟩,
  ⟨none,(some 7),.fld 0 (.t 3)⟩,
  ⟨none,(some 8),.load 1 false (.t 7)⟩,
  ⟨none,(some 10),.fld 1 (.t 2)⟩,
  ⟨none,(some 11),.slcA 32 1 (.t 10) none none⟩,
  ⟨none,(some 12),.fld 1 (.t 3)⟩,
  ⟨none,(some 13),.slcA 32 1 (.t 12) none none⟩,
  ⟨none,(some 9),.callN (.k (.fn (.func 71) [] [])) [(.t 6),(.t 8)]⟩,
  ⟨none,(some 14),.callN (.k (.fn (.func 72) [] [])) [(.t 11),(.t 13)]⟩,
  ⟨none,(some 15),.bsl 1 2 [(.int .i64 0)] [(0,1,(.t 9)),(1,1,(.t 14))]⟩,
  ⟨none,(some 16),.callN (.k (.fn (.func 70) [] [])) [(.t 15)]⟩,
  ⟨none,(some 4),.mov (.t 16)⟩])
 .ret))
 ntmps:=17
 res:=[.tmp 4]
theorem z713:zsjc P Tryz.f69=some a69:=by kernel_rfl
def a72:AFn where
 code:=(.seq (.region false [⟨none,(some 4),.mov (.k (.int .i64 0))⟩])
 (.seq (.region false [⟨none,(some 5),.mov (.t 0)⟩,
  ⟨none,(some 6),.mov (.t 1)⟩,
  ⟨none,(some 7),.call (.k (.fn (.func 102) [] [])) [(.t 5),(.t 6)]⟩,
  ⟨none,(some 4),.mov (.t 7)⟩])
 .ret))
 ntmps:=8
 res:=[.tmp 4]
theorem z0xs:zsjc P Tryz.f72=some a72:=by kernel_rfl
def a42:AFn where
 code:=(.seq (.region false [⟨none,(some 5),.box (.t 2)⟩,
  ⟨none,(some 6),.mov (.k (.int .i64 0))⟩,
  ⟨none,(some 7),.mov (.k (.bool false))⟩])
 (.seq (.region false [⟨none,(some 8),.mov (.t 0)⟩,
  ⟨none,(some 9),.mov (.t 1)⟩,
  ⟨none,(some 10),.load 32 true (.t 5)⟩,
  ⟨none,(some 11),.build [(.int .i64 0),(w8 0#8),(w8 0#8),(w8 0#8),(w8 0#8),(w8 0#8),(w8 0#8),(w8 0#8),(w8 0#8),(w8 0#8),(w8 0#8),(w8 0#8),(w8 0#8),(w8 0#8),(w8 0#8),(w8 0#8),(w8 0#8),(w8 0#8),(w8 0#8),(w8 0#8),(w8 0#8),(w8 0#8),(w8 0#8),(w8 0#8),(w8 0#8),(w8 0#8),(w8 0#8),(w8 0#8),(w8 0#8),(w8 0#8),(w8 0#8),(w8 0#8),(w8 0#8),(.int .i64 0),(.int .i64 0)] [(0,1,(.t 9)),(1,32,(.t 10))]⟩,
  ⟨none,(some 12),.call (.k (.fn (.func 68) [] [])) [(.t 8),(.t 11),(.k (.fn (.func 69) [] []))]⟩,
  ⟨none,(some 13),.ext (.t 12) 0⟩,
  ⟨none,(some 14),.ext (.t 12) 1⟩,
  ⟨none,(some 6),.mov (.t 13)⟩,
  ⟨none,(some 7),.mov (.t 14)⟩])
 .ret))
 ntmps:=15
 res:=[.tmp 6,.tmp 7]
theorem zl17:zsjc P Tryz.f42=some a42:=by kernel_rfl
def a43:AFn where
 code:=(.seq (.region false [⟨none,(some 2),.mov (.k .nils)⟩])
 (.seq (.seq (.region false [⟨none,(some 3),.mov (.t 0)⟩,
  ⟨none,(some 4),.eqn 0 false (.t 3) (.k .nils)⟩])
 (.cond (.t 4) (.seq (.region false [⟨none,(some 2),.mov (.k .nils)⟩])
 .ret)
 .skip))
 (.seq (.region false [⟨none,(some 5),.bsl 35 0 [(.int .i64 0),(w8 0#8),(w8 0#8),(w8 0#8),(w8 0#8),(w8 0#8),(w8 0#8),(w8 0#8),(w8 0#8),(w8 0#8),(w8 0#8),(w8 0#8),(w8 0#8),(w8 0#8),(w8 0#8),(w8 0#8),(w8 0#8),(w8 0#8),(w8 0#8),(w8 0#8),(w8 0#8),(w8 0#8),(w8 0#8),(w8 0#8),(w8 0#8),(w8 0#8),(w8 0#8),(w8 0#8),(w8 0#8),(w8 0#8),(w8 0#8),(w8 0#8),(w8 0#8),(.int .i64 0),(.int .i64 0)] []⟩,
  ⟨none,(some 6),.mov (.t 0)⟩,
  ⟨none,(some 7),.app 35 56 (.t 5) (.t 6)⟩,
  ⟨none,(some 2),.mov (.t 7)⟩])
 .ret)))
 ntmps:=8
 res:=[.tmp 2]
theorem zbv8:zsjc P Tryz.f43=some a43:=by kernel_rfl
def a44:AFn where
 code:=(.seq (.region false [⟨none,(some 6),.mov (.k .nils)⟩])
 (.seq (.region false [⟨none,(some 10),.mov (.t 0)⟩,
  ⟨none,(some 11),.mov (.t 1)⟩,
  ⟨none,(some 12),.slcS 35 (.t 10) (some (.t 11)) none none⟩])
 (.seq (.region false [⟨none,(some 13),.mov (.t 2)⟩,
  ⟨none,(some 14),.len (.t 13)⟩,
  ⟨none,(some 7),.mov (.t 14)⟩])
 (.seq (.seq (.region false [⟨none,(some 15),.mov (.t 7)⟩,
  ⟨none,(some 16),.bin .eql (.t 15) (.k (.int .i64 0))⟩])
 (.cond (.t 16) (.seq (.region false [⟨none,(some 17),.mov (.t 0)⟩,
  ⟨none,(some 6),.mov (.t 17)⟩])
 .ret)
 .skip))
 (.seq (.region false [⟨none,(some 18),.mov (.t 0)⟩,
  ⟨none,(some 19),.len (.t 18)⟩,
  ⟨none,(some 8),.mov (.t 19)⟩])
 (.seq (.seq (.region false [⟨none,(some 20),.mov (.t 1)⟩,
  ⟨none,(some 21),.mov (.t 8)⟩,
  ⟨none,(some 22),.bin .eql (.t 20) (.t 21)⟩])
 (.cond (.t 22) (.seq (.region false [⟨none,(some 23),.mov (.t 0)⟩,
  ⟨none,(some 24),.mov (.t 2)⟩,
  ⟨none,(some 25),.app 35 56 (.t 23) (.t 24)⟩,
  ⟨none,(some 6),.mov (.t 25)⟩])
 .ret)
 .skip))
 (.seq (.seq (.region false [⟨none,(some 26),.mov (.t 8)⟩,
  ⟨none,(some 27),.mov (.t 7)⟩,
  ⟨none,(some 28),.bin .add (.t 26) (.t 27)⟩,
  ⟨none,(some 29),.mov (.t 0)⟩,
  ⟨none,(some 30),.ext (.k .junk) 0⟩,
  ⟨none,(some 31),.bin .gtr (.t 28) (.t 30)⟩])
 (.cond (.t 31) (.seq (.region false [⟨none,(some 32),.mov (.t 0)⟩,
  ⟨none,(some 33),.mov (.t 1)⟩,
  ⟨none,(some 34),.slcS 35 (.t 32) none (some (.t 33)) none⟩,
  ⟨none,(some 35),.mov (.t 8)⟩,
  ⟨none,(some 36),.mov (.t 7)⟩,
  ⟨none,(some 37),.bin .add (.t 35) (.t 36)⟩,
  ⟨none,(some 38),.mov (.t 1)⟩,
  ⟨none,(some 39),.bin .sub (.t 37) (.t 38)⟩,
  ⟨none,(some 40),.ext (.k .junk) 0⟩,
  ⟨none,(some 9),.mov (.t 40)⟩])
 (.seq (.region false [⟨none,(some 41),.mov (.t 9)⟩,
  ⟨none,(some 42),.mov (.t 1)⟩,
  ⟨none,(some 43),.slcS 35 (.t 41) (some (.t 42)) none none⟩,
  ⟨none,(some 44),.mov (.t 2)⟩,
  ⟨none,(some 45),.cpy 35 (.t 43) (.t 44)⟩])
 (.seq (.region true [⟨none,(some 46),.mov (.t 9)⟩,
  ⟨none,(some 47),.mov (.t 1)⟩,
  ⟨none,(some 48),.mov (.t 7)⟩,
  ⟨none,(some 49),.bin .add (.t 47) (.t 48)⟩,
  ⟨none,(some 50),.slcS 35 (.t 46) (some (.t 49)) none none⟩,
  ⟨none,(some 51),.mov (.t 0)⟩,
  ⟨none,(some 52),.mov (.t 1)⟩,
  ⟨none,(some 53),.slcS 35 (.t 51) (some (.t 52)) none none⟩,
  ⟨none,(some 54),.cpy 35 (.t 50) (.t 53)⟩])
 (.seq (.region false [⟨none,(some 55),.mov (.t 9)⟩,
  ⟨none,(some 6),.mov (.t 55)⟩])
 .ret))))
 .skip))
 (.seq (.region false [⟨none,(some 56),.mov (.t 0)⟩,
  ⟨none,(some 57),.mov (.t 8)⟩,
  ⟨none,(some 58),.mov (.t 7)⟩,
  ⟨none,(some 59),.bin .add (.t 57) (.t 58)⟩,
  ⟨none,(some 60),.slcS 35 (.t 56) none (some (.t 59)) none⟩,
  ⟨none,(some 0),.mov (.t 60)⟩])
 (.seq (.seq (.region false [⟨none,(some 61),.mov (.t 2)⟩,
  ⟨none,(some 62),.mov (.t 0)⟩,
  ⟨none,(some 63),.mov (.t 1)⟩,
  ⟨none,(some 64),.mov (.t 7)⟩,
  ⟨none,(some 65),.bin .add (.t 63) (.t 64)⟩,
  ⟨none,(some 66),.slcS 35 (.t 62) (some (.t 65)) none none⟩,
  ⟨none,(some 67),.call (.k (.fn (.func 73) [] [])) [(.t 61),(.t 66)]⟩,
  ⟨none,(some 68),.un .not (.t 67)⟩])
 (.cond (.t 68) (.seq (.region true [⟨none,(some 69),.mov (.t 0)⟩,
  ⟨none,(some 70),.mov (.t 1)⟩,
  ⟨none,(some 71),.mov (.t 7)⟩,
  ⟨none,(some 72),.bin .add (.t 70) (.t 71)⟩,
  ⟨none,(some 73),.slcS 35 (.t 69) (some (.t 72)) none none⟩,
  ⟨none,(some 74),.mov (.t 0)⟩,
  ⟨none,(some 75),.mov (.t 1)⟩,
  ⟨none,(some 76),.slcS 35 (.t 74) (some (.t 75)) none none⟩,
  ⟨none,(some 77),.cpy 35 (.t 73) (.t 76)⟩])
 (.seq (.region false [⟨none,(some 78),.mov (.t 0)⟩,
  ⟨none,(some 79),.mov (.t 1)⟩,
  ⟨none,(some 80),.slcS 35 (.t 78) (some (.t 79)) none none⟩,
  ⟨none,(some 81),.mov (.t 2)⟩,
  ⟨none,(some 82),.cpy 35 (.t 80) (.t 81)⟩])
 (.seq (.region false [⟨none,(some 83),.mov (.t 0)⟩,
  ⟨none,(some 6),.mov (.t 83)⟩])
 .ret)))
 .skip))
 (.seq (.region false [⟨none,(some 84),.mov (.t 0)⟩,
  ⟨none,(some 85),.mov (.t 8)⟩,
  ⟨none,(some 86),.slcS 35 (.t 84) (some (.t 85)) none none⟩,
  ⟨none,(some 87),.mov (.t 2)⟩,
  ⟨none,(some 88),.cpy 35 (.t 86) (.t 87)⟩])
 (.seq (.region false [⟨none,(some 89),.mov (.t 0)⟩,
  ⟨none,(some 90),.mov (.t 1)⟩,
  ⟨none,(some 91),.slcS 35 (.t 89) (some (.t 90)) none none⟩,
  ⟨none,(some 92),.mov (.t 7)⟩,
  ⟨none,(some 93),.call (.k (.fn (.func 74) [] [])) [(.t 91),(.t 92)]⟩])
 (.seq (.region false [⟨none,(some 94),.mov (.t 0)⟩,
  ⟨none,(some 6),.mov (.t 94)⟩])
 .ret))))))))))))
 ntmps:=95
 res:=[.tmp 6]
theorem zeo7:zsjc P Tryz.f44=some a44:=by kernel_rfl
def a15:AFn where
 code:=(.seq (.region false [⟨none,(some 6),.box (.t 2)⟩,
  ⟨none,(some 8),.mov (.k .nils)⟩])
 (.seq (.region false [⟨none,(some 14),.mov (.t 0)⟩,
  ⟨none,(some 15),.mov (.t 1)⟩,
  ⟨none,(some 16),.load 32 true (.t 6)⟩,
  ⟨none,(some 17),.call (.k (.fn (.func 42) [] [])) [(.t 14),(.t 15),(.t 16)]⟩,
  ⟨none,(some 13),.mov (.t 17)⟩,
  ⟨none,(some 18),.ext (.t 13) 0⟩,
  ⟨none,(some 19),.ext (.t 13) 1⟩,
  ⟨none,(some 9),.mov (.t 18)⟩,
  ⟨none,(some 10),.mov (.t 19)⟩])
 (.seq (.region false [⟨none,(some 20),.mov (.t 0)⟩,
  ⟨none,(some 21),.call (.k (.fn (.func 43) [] [])) [(.t 20)]⟩,
  ⟨none,(some 11),.mov (.t 21)⟩])
 (.seq (.seq (.region false [⟨none,(some 22),.mov (.t 10)⟩,
  ⟨none,(some 23),.un .not (.t 22)⟩])
 (.cond (.t 23) (.region false [⟨none,(some 24),.mov (.t 11)⟩,
  ⟨none,(some 25),.mov (.t 9)⟩,
  ⟨none,(some 26),.mov (.t 1)⟩,
  ⟨none,(some 27),.load 32 true (.t 6)⟩,
  ⟨none,(some 28),.build [(.int .i64 0),(w8 0#8),(w8 0#8),(w8 0#8),(w8 0#8),(w8 0#8),(w8 0#8),(w8 0#8),(w8 0#8),(w8 0#8),(w8 0#8),(w8 0#8),(w8 0#8),(w8 0#8),(w8 0#8),(w8 0#8),(w8 0#8),(w8 0#8),(w8 0#8),(w8 0#8),(w8 0#8),(w8 0#8),(w8 0#8),(w8 0#8),(w8 0#8),(w8 0#8),(w8 0#8),(w8 0#8),(w8 0#8),(w8 0#8),(w8 0#8),(w8 0#8),(w8 0#8),(.int .i64 0),(.int .i64 0)] [(0,1,(.t 26)),(1,32,(.t 27))]⟩,
  ⟨none,(some 29),.bsl 35 1 [(.int .i64 0),(w8 0#8),(w8 0#8),(w8 0#8),(w8 0#8),(w8 0#8),(w8 0#8),(w8 0#8),(w8 0#8),(w8 0#8),(w8 0#8),(w8 0#8),(w8 0#8),(w8 0#8),(w8 0#8),(w8 0#8),(w8 0#8),(w8 0#8),(w8 0#8),(w8 0#8),(w8 0#8),(w8 0#8),(w8 0#8),(w8 0#8),(w8 0#8),(w8 0#8),(w8 0#8),(w8 0#8),(w8 0#8),(w8 0#8),(w8 0#8),(w8 0#8),(w8 0#8),(.int .i64 0),(.int .i64 0)] [(0,35,(.t 28))]⟩,
  ⟨none,(some 30),.call (.k (.fn (.func 44) [] [])) [(.t 24),(.t 25),(.t 29)]⟩,
  ⟨none,(some 11),.mov (.t 30)⟩])
 .skip))
 (.seq (.region false [⟨none,(some 31),.mov (.t 11)⟩,
  ⟨none,(some 32),.mov (.t 9)⟩,
  ⟨none,(some 33),.idxS 35 (.t 31) (.t 32)⟩,
  ⟨none,(some 12),.mov (.t 33)⟩])
 (.seq (.region false [⟨none,(some 34),.mov (.t 12)⟩,
  ⟨none,(some 35),.mov (.t 12)⟩,
  ⟨none,(some 36),.nilc (.t 35)⟩,
  ⟨none,(some 37),.fld 33 (.t 36)⟩,
  ⟨none,(some 38),.load 1 false (.t 37)⟩,
  ⟨none,(some 39),.bin .add (.t 38) (.k (.int .i64 1))⟩,
  ⟨none,(some 40),.mm false [(.t 39),(.k (.int .i64 16))]⟩,
  ⟨none,(some 41),.nilc (.t 34)⟩,
  ⟨none,(some 42),.fld 33 (.t 41)⟩,
  ⟨none,none,.store 1 (.t 42) (.t 40)⟩])
 (.seq (.region false [⟨none,(some 43),.mov (.t 12)⟩,
  ⟨none,(some 44),.mov (.t 3)⟩,
  ⟨none,(some 45),.mov (.t 12)⟩,
  ⟨none,(some 46),.nilc (.t 45)⟩,
  ⟨none,(some 47),.fld 33 (.t 46)⟩,
  ⟨none,(some 48),.load 1 false (.t 47)⟩,
  ⟨none,(some 49),.bin .shl (.k (.int .i64 1)) (.t 48)⟩,
  ⟨none,(some 50),.bin .add (.t 44) (.t 49)⟩,
  ⟨none,(some 51),.mm false [(.t 50),(.k (.int .i64 1099511627776))]⟩,
  ⟨none,(some 52),.nilc (.t 43)⟩,
  ⟨none,(some 53),.fld 34 (.t 52)⟩,
  ⟨none,none,.store 1 (.t 53) (.t 51)⟩])
 (.seq (.region false [⟨none,(some 54),.mov (.t 11)⟩,
  ⟨none,(some 8),.mov (.t 54)⟩])
 .ret))))))))
 ntmps:=55
 res:=[.tmp 8]
theorem zz37:zsjc P Tryz.f15=some a15:=by kernel_rfl
def a47:AFn where
 code:=(.seq (.region false [⟨none,(some 3),.box (.t 0)⟩,
  ⟨none,(some 4),.mov (.k (.bool false))⟩])
 (.seq (.region false [⟨none,(some 5),.fld 0 (.t 3)⟩,
  ⟨none,(some 6),.load 1 false (.t 5)⟩,
  ⟨none,(some 7),.load 1 false (.t 1)⟩,
  ⟨none,(some 8),.bin .eql (.t 6) (.t 7)⟩,
  ⟨none,(some 9),.mov (.t 8)⟩,
  ⟨(some (9,true)),(some 10),.fld 1 (.t 3)⟩,
  ⟨(some (9,true)),(some 11),.load 32 true (.t 10)⟩,
  ⟨(some (9,true)),(some 12),.load 32 true (.t 2)⟩,
  ⟨(some (9,true)),(some 13),.eqa false [(32,0)] (.t 11) (.t 12)⟩,
  ⟨none,(some 14),.pick (.t 9) (.t 13) (.k (.bool false))⟩,
  ⟨none,(some 4),.mov (.t 14)⟩])
 .ret))
 ntmps:=15
 res:=[.tmp 4]
theorem zzqr:zsjc P Tryz.f47=some a47:=by kernel_rfl
def z079:ACode :=
 (.seq (.region false [⟨none,(some 9),.bin .lss (.t 8) (.t 7)⟩])
 (.seq (.cond (.t 9) .skip
 (.exit 0))
 (.seq (.block 1 (.seq (.region false [⟨none,(some 10),.mov (.t 8)⟩,
  ⟨none,(some 5),.mov (.t 10)⟩])
 (.seq (.region false [⟨none,(some 11),.mov (.t 1)⟩,
  ⟨none,(some 12),.mov (.t 0)⟩,
  ⟨none,(some 13),.mov (.t 5)⟩,
  ⟨none,(some 14),.idxS 35 (.t 12) (.t 13)⟩,
  ⟨none,(some 15),.load 35 true (.t 14)⟩,
  ⟨none,(some 16),.call (.t 11) [(.t 15)]⟩])
 (.cond (.t 16) (.seq (.region false [⟨none,(some 17),.mov (.t 5)⟩,
  ⟨none,(some 4),.mov (.t 17)⟩])
 .ret)
 .skip))))
 (.region false [⟨none,(some 18),.bin .add (.t 8) (.k (.int .i64 1))⟩,
  ⟨none,(some 8),.mov (.t 18)⟩]))))
def a76:AFn where
 code:=(.seq (.region false [⟨none,(some 4),.mov (.k (.int .i64 0))⟩])
 (.seq (.seq (.region false [⟨none,(some 6),.mov (.t 0)⟩,
  ⟨none,(some 7),.len (.t 6)⟩,
  ⟨none,(some 8),.mov (.k (.int .i64 0))⟩])
 (.block 0 (.loop z079)))
 (.seq (.region false [⟨none,(some 4),.mov (.k (.int .i64 (-1)))⟩])
 .ret)))
 ntmps:=19
 res:=[.tmp 4]
theorem zuum:zsjc P Tryz.f76=some a76:=by kernel_rfl
def zec8:ACode :=
 (.seq (.seq (.region false [⟨none,(some 16),.mov (.t 6)⟩,
  ⟨none,(some 17),.mov (.t 0)⟩,
  ⟨none,(some 18),.len (.t 17)⟩,
  ⟨none,(some 19),.bin .lss (.t 16) (.t 18)⟩])
 (.cond (.t 19) .skip
 (.exit 0)))
 (.seq (.block 1 (.seq (.region false [⟨none,(some 22),.mov (.t 0)⟩,
  ⟨none,(some 23),.mov (.t 6)⟩,
  ⟨none,(some 24),.idxS 35 (.t 22) (.t 23)⟩,
  ⟨none,(some 25),.load 35 true (.t 24)⟩,
  ⟨none,(some 7),.alloc [(.int .i64 0),(w8 0#8),(w8 0#8),(w8 0#8),(w8 0#8),(w8 0#8),(w8 0#8),(w8 0#8),(w8 0#8),(w8 0#8),(w8 0#8),(w8 0#8),(w8 0#8),(w8 0#8),(w8 0#8),(w8 0#8),(w8 0#8),(w8 0#8),(w8 0#8),(w8 0#8),(w8 0#8),(w8 0#8),(w8 0#8),(w8 0#8),(w8 0#8),(w8 0#8),(w8 0#8),(w8 0#8),(w8 0#8),(w8 0#8),(w8 0#8),(w8 0#8),(w8 0#8),(.int .i64 0),(.int .i64 0)]⟩,
  ⟨none,none,.store 35 (.t 7) (.t 25)⟩])
 (.seq (.region false [⟨none,(some 26),.mov (.t 1)⟩,
  ⟨none,(some 27),.load 35 true (.t 7)⟩,
  ⟨none,(some 28),.call (.t 26) [(.t 27)]⟩,
  ⟨none,(some 29),.un .not (.t 28)⟩])
 (.cond (.t 29) (.seq (.region false [⟨none,(some 30),.mov (.t 0)⟩,
  ⟨none,(some 31),.mov (.t 5)⟩,
  ⟨none,(some 32),.load 35 true (.t 7)⟩,
  ⟨none,(some 33),.idxS 35 (.t 30) (.t 31)⟩,
  ⟨none,none,.store 35 (.t 33) (.t 32)⟩])
 (.region false [⟨none,(some 34),.mov (.t 5)⟩,
  ⟨none,(some 35),.bin .add (.t 34) (.k (.int .i64 1))⟩,
  ⟨none,(some 5),.mov (.t 35)⟩]))
 .skip))))
 (.region false [⟨none,(some 20),.mov (.t 6)⟩,
  ⟨none,(some 21),.bin .add (.t 20) (.k (.int .i64 1))⟩,
  ⟨none,(some 6),.mov (.t 21)⟩])))
def a46:AFn where
 code:=(.seq (.region false [⟨none,(some 4),.mov (.k .nils)⟩])
 (.seq (.region false [⟨none,(some 8),.mov (.t 0)⟩,
  ⟨none,(some 9),.mov (.t 1)⟩,
  ⟨none,(some 10),.call (.k (.fn (.func 76) [] [])) [(.t 8),(.t 9)]⟩,
  ⟨none,(some 5),.mov (.t 10)⟩])
 (.seq (.seq (.region false [⟨none,(some 11),.mov (.t 5)⟩,
  ⟨none,(some 12),.bin .eql (.t 11) (.k (.int .i64 (-1)))⟩])
 (.cond (.t 12) (.seq (.region false [⟨none,(some 13),.mov (.t 0)⟩,
  ⟨none,(some 4),.mov (.t 13)⟩])
 .ret)
 .skip))
 (.seq (.seq (.region false [⟨none,(some 14),.mov (.t 5)⟩,
  ⟨none,(some 15),.bin .add (.t 14) (.k (.int .i64 1))⟩,
  ⟨none,(some 6),.mov (.t 15)⟩])
 (.block 0 (.loop zec8)))
 (.seq (.region false [⟨none,(some 36),.mov (.t 0)⟩,
  ⟨none,(some 37),.mov (.t 5)⟩,
  ⟨none,(some 38),.slcS 35 (.t 36) (some (.t 37)) none none⟩,
  ⟨none,none,.clr 35 [(.int .i64 0),(w8 0#8),(w8 0#8),(w8 0#8),(w8 0#8),(w8 0#8),(w8 0#8),(w8 0#8),(w8 0#8),(w8 0#8),(w8 0#8),(w8 0#8),(w8 0#8),(w8 0#8),(w8 0#8),(w8 0#8),(w8 0#8),(w8 0#8),(w8 0#8),(w8 0#8),(w8 0#8),(w8 0#8),(w8 0#8),(w8 0#8),(w8 0#8),(w8 0#8),(w8 0#8),(w8 0#8),(w8 0#8),(w8 0#8),(w8 0#8),(w8 0#8),(w8 0#8),(.int .i64 0),(.int .i64 0)] (.t 38)⟩])
 (.seq (.region false [⟨none,(some 39),.mov (.t 0)⟩,
  ⟨none,(some 40),.mov (.t 5)⟩,
  ⟨none,(some 41),.slcS 35 (.t 39) none (some (.t 40)) none⟩,
  ⟨none,(some 4),.mov (.t 41)⟩])
 .ret))))))
 ntmps:=42
 res:=[.tmp 4]
theorem znv1:zsjc P Tryz.f46=some a46:=by kernel_rfl
def a17:AFn where
 code:=(.seq (.region false [⟨none,(some 4),.box (.t 1)⟩,
  ⟨none,(some 5),.box (.t 2)⟩,
  ⟨none,(some 6),.mov (.k .nils)⟩])
 (.seq (.region false [⟨none,(some 7),.mov (.t 0)⟩,
  ⟨none,(some 8),.call (.k (.fn (.func 43) [] [])) [(.t 7)]⟩,
  ⟨none,(some 9),.mkf (.func 47) [] [(.t 4),(.t 5)]⟩,
  ⟨none,(some 10),.call (.k (.fn (.func 46) [] [])) [(.t 8),(.t 9)]⟩,
  ⟨none,(some 6),.mov (.t 10)⟩])
 .ret))
 ntmps:=11
 res:=[.tmp 6]
theorem zcaf:zsjc P Tryz.f17=some a17:=by kernel_rfl
def a48:AFn where
 code:=(.seq (.region false [⟨none,(some 3),.box (.t 0)⟩,
  ⟨none,(some 4),.mov (.k (.bool false))⟩])
 (.seq (.region false [⟨none,(some 5),.fld 0 (.t 3)⟩,
  ⟨none,(some 6),.load 1 false (.t 5)⟩,
  ⟨none,(some 7),.load 1 false (.t 1)⟩,
  ⟨none,(some 8),.bin .eql (.t 6) (.t 7)⟩,
  ⟨none,(some 9),.mov (.t 8)⟩,
  ⟨(some (9,true)),(some 10),.load 1 false (.t 2)⟩,
  ⟨(some (9,true)),(some 11),.fld 1 (.t 3)⟩,
  ⟨(some (9,true)),(some 12),.load 32 true (.t 11)⟩,
  ⟨(some (9,true)),(some 13),.call (.k (.fn (.func 49) [] [])) [(.t 10),(.t 12)]⟩,
  ⟨(some (9,true)),(some 14),.un .not (.t 13)⟩,
  ⟨none,(some 15),.pick (.t 9) (.t 14) (.k (.bool false))⟩,
  ⟨none,(some 4),.mov (.t 15)⟩])
 .ret))
 ntmps:=16
 res:=[.tmp 4]
theorem zwi2:zsjc P Tryz.f48=some a48:=by kernel_rfl
def a19:AFn where
 code:=(.seq (.region false [⟨none,(some 4),.box (.t 1)⟩,
  ⟨none,(some 5),.box (.t 2)⟩,
  ⟨none,(some 6),.mov (.k .nils)⟩])
 (.seq (.region false [⟨none,(some 7),.mov (.t 0)⟩,
  ⟨none,(some 8),.call (.k (.fn (.func 43) [] [])) [(.t 7)]⟩,
  ⟨none,(some 9),.mkf (.func 48) [] [(.t 4),(.t 5)]⟩,
  ⟨none,(some 10),.call (.k (.fn (.func 46) [] [])) [(.t 8),(.t 9)]⟩,
  ⟨none,(some 6),.mov (.t 10)⟩])
 .ret))
 ntmps:=11
 res:=[.tmp 6]
theorem zlqi:zsjc P Tryz.f19=some a19:=by kernel_rfl
def z7sf:ACode :=
 (.seq (.seq (.region false [⟨none,(some 15),.mov (.t 9)⟩,
  ⟨none,(some 16),.mov (.t 10)⟩,
  ⟨none,(some 17),.bin .lss (.t 15) (.t 16)⟩])
 (.cond (.t 17) .skip
 (.exit 0)))
 (.block 1 (.seq (.region false [⟨none,(some 18),.mov (.t 9)⟩,
  ⟨none,(some 19),.mov (.t 10)⟩,
  ⟨none,(some 20),.bin .add (.t 18) (.t 19)⟩,
  ⟨none,(some 21),.conv .u64 (.t 20)⟩,
  ⟨none,(some 22),.bin .shr (.t 21) (.k (w64 1#64))⟩,
  ⟨none,(some 23),.conv .i64 (.t 22)⟩,
  ⟨none,(some 11),.mov (.t 23)⟩])
 (.seq (.region true [⟨none,(some 24),.mov (.t 2)⟩,
  ⟨none,(some 25),.mov (.t 0)⟩,
  ⟨none,(some 26),.mov (.t 11)⟩,
  ⟨none,(some 27),.idxS 105 (.t 25) (.t 26)⟩,
  ⟨none,(some 28),.load 105 true (.t 27)⟩,
  ⟨none,(some 29),.load 34 true (.t 4)⟩,
  ⟨none,(some 30),.callE (.t 24) [(.t 28),(.t 29)]⟩,
  ⟨none,(some 31),.bin .lss (.t 30) (.k (.int .i64 0))⟩])
 (.cond (.t 31) (.region false [⟨none,(some 32),.mov (.t 11)⟩,
  ⟨none,(some 33),.bin .add (.t 32) (.k (.int .i64 1))⟩,
  ⟨none,(some 9),.mov (.t 33)⟩])
 (.region false [⟨none,(some 34),.mov (.t 11)⟩,
  ⟨none,(some 10),.mov (.t 34)⟩]))))))
def zq0a (x0 x2 x4 x8 x9 x10:DV) (h:List AObj):St:=⟨[x0,.junk,x2,.junk,x4,.junk,.junk,.junk,x8,x9,x10]++js 38,h⟩
def a104:AFn where
 code:=(.seq (.region false [⟨none,(some 4),.box (.t 1)⟩,
  ⟨none,(some 6),.mov (.k (.int .i64 0))⟩,
  ⟨none,(some 7),.mov (.k (.bool false))⟩])
 (.seq (.region false [⟨none,(some 12),.mov (.t 0)⟩,
  ⟨none,(some 13),.len (.t 12)⟩,
  ⟨none,(some 8),.mov (.t 13)⟩])
 (.seq (.region false [⟨none,(some 14),.mov (.t 8)⟩,
  ⟨none,(some 9),.mov (.k (.int .i64 0))⟩,
  ⟨none,(some 10),.mov (.t 14)⟩])
 (.seq (.block 0 (.loop z7sf))
 (.seq (.region true [⟨none,(some 35),.mov (.t 9)⟩,
  ⟨none,(some 36),.mov (.t 9)⟩,
  ⟨none,(some 37),.mov (.t 8)⟩,
  ⟨none,(some 38),.bin .lss (.t 36) (.t 37)⟩,
  ⟨none,(some 39),.mov (.t 38)⟩,
  ⟨(some (39,true)),(some 40),.mov (.t 2)⟩,
  ⟨(some (39,true)),(some 41),.mov (.t 0)⟩,
  ⟨(some (39,true)),(some 42),.mov (.t 9)⟩,
  ⟨(some (39,true)),(some 43),.idxS 105 (.t 41) (.t 42)⟩,
  ⟨(some (39,true)),(some 44),.load 105 true (.t 43)⟩,
  ⟨(some (39,true)),(some 45),.load 34 true (.t 4)⟩,
  ⟨(some (39,true)),(some 46),.callE (.t 40) [(.t 44),(.t 45)]⟩,
  ⟨(some (39,true)),(some 47),.bin .eql (.t 46) (.k (.int .i64 0))⟩,
  ⟨none,(some 48),.pick (.t 39) (.t 47) (.k (.bool false))⟩,
  ⟨none,(some 6),.mov (.t 35)⟩,
  ⟨none,(some 7),.mov (.t 48)⟩])
 .ret)))))
 ntmps:=49
 res:=[.tmp 6,.tmp 7]
theorem z0mt:zsjc P Tryz.f104=some a104:=by kernel_rfl
def a105:AFn where
 code:=(.seq (.region false [⟨none,(some 2),.box (.t 0)⟩,
  ⟨none,(some 3),.box (.t 1)⟩,
  ⟨none,(some 4),.mov (.k (.int .i64 0))⟩])
 (.seq (.region false [⟨none,(some 5),.fld 0 (.t 2)⟩,
  ⟨none,(some 6),.load 34 true (.t 5)⟩,
  ⟨none,(some 7),.load 34 true (.t 3)⟩,
  ⟨none,(some 8),.call (.k (.fn (.func 106) [] [])) [(.t 6),(.t 7)]⟩,
  ⟨none,(some 4),.mov (.t 8)⟩])
 .ret))
 ntmps:=9
 res:=[.tmp 4]
theorem z9rf:zsjc P Tryz.f105=some a105:=by kernel_rfl
def a106:AFn where
 code:=(.seq (.region false [⟨none,(some 2),.box (.t 0)⟩,
  ⟨none,(some 3),.box (.t 1)⟩,
  ⟨none,(some 4),.mov (.k (.int .i64 0))⟩])
 (.seq (.region true [⟨none,(some 5),.fld 0 (.t 2)⟩,
  ⟨none,(some 6),.load 1 false (.t 5)⟩,
  ⟨none,(some 7),.fld 0 (.t 3)⟩,
  ⟨none,(some 8),.load 1 false (.t 7)⟩,
  ⟨none,(some 10),.fld 1 (.t 2)⟩,
  ⟨none,(some 11),.load 1 false (.t 10)⟩,
  ⟨none,(some 12),.fld 1 (.t 3)⟩,
  ⟨none,(some 13),.load 1 false (.t 12)⟩,
  ⟨none,(some 15),.fld 2 (.t 2)⟩,
  ⟨none,(some 16),.slcA 32 1 (.t 15) none none⟩,
  ⟨none,(some 17),.fld 2 (.t 3)⟩,
  ⟨none,(some 18),.slcA 32 1 (.t 17) none none⟩,
  ⟨none,(some 9),.callN (.k (.fn (.func 128) [] [])) [(.t 6),(.t 8)]⟩,
  ⟨none,(some 14),.callN (.k (.fn (.func 128) [] [])) [(.t 11),(.t 13)]⟩,
  ⟨none,(some 19),.callN (.k (.fn (.func 72) [] [])) [(.t 16),(.t 18)]⟩,
  ⟨none,(some 20),.bsl 1 3 [(.int .i64 0)] [(0,1,(.t 9)),(1,1,(.t 14)),(2,1,(.t 19))]⟩,
  ⟨none,(some 21),.callN (.k (.fn (.func 70) [] [])) [(.t 20)]⟩,
  ⟨none,(some 4),.mov (.t 21)⟩])
 .ret))
 ntmps:=22
 res:=[.tmp 4]
theorem zex6:zsjc P Tryz.f106=some a106:=by kernel_rfl
def a128:AFn where
 code:=(.seq (.region false [⟨none,(some 4),.mov (.k (.int .i64 0))⟩])
 (.seq (.region false [⟨none,(some 7),.mov (.t 0)⟩,
  ⟨none,(some 8),.call (.k (.fn (.func 138) [] [])) [(.t 7)]⟩,
  ⟨none,(some 5),.mov (.t 8)⟩])
 (.seq (.region false [⟨none,(some 9),.mov (.t 1)⟩,
  ⟨none,(some 10),.call (.k (.fn (.func 138) [] [])) [(.t 9)]⟩,
  ⟨none,(some 6),.mov (.t 10)⟩])
 (.seq (.seq (.region false [⟨none,(some 11),.mov (.t 5)⟩])
 (.cond (.t 11) (.seq (.seq (.region false [⟨none,(some 12),.mov (.t 6)⟩])
 (.cond (.t 12) (.seq (.region false [⟨none,(some 4),.mov (.k (.int .i64 0))⟩])
 .ret)
 .skip))
 (.seq (.region false [⟨none,(some 4),.mov (.k (.int .i64 (-1)))⟩])
 .ret))
 .skip))
 (.seq (.seq (.region false [⟨none,(some 13),.mov (.t 6)⟩])
 (.cond (.t 13) (.seq (.region false [⟨none,(some 4),.mov (.k (.int .i64 1))⟩])
 .ret)
 .skip))
 (.seq (.seq (.region false [⟨none,(some 14),.mov (.t 0)⟩,
  ⟨none,(some 15),.mov (.t 1)⟩,
  ⟨none,(some 16),.bin .lss (.t 14) (.t 15)⟩])
 (.cond (.t 16) (.seq (.region false [⟨none,(some 4),.mov (.k (.int .i64 (-1)))⟩])
 .ret)
 .skip))
 (.seq (.seq (.region false [⟨none,(some 17),.mov (.t 0)⟩,
  ⟨none,(some 18),.mov (.t 1)⟩,
  ⟨none,(some 19),.bin .gtr (.t 17) (.t 18)⟩])
 (.cond (.t 19) (.seq (.region false [⟨none,(some 4),.mov (.k (.int .i64 1))⟩])
 .ret)
 .skip))
 (.seq (.region false [⟨none,(some 4),.mov (.k (.int .i64 0))⟩])
 .ret))))))))
 ntmps:=20
 res:=[.tmp 4]
theorem zv7v:zsjc P Tryz.f128=some a128:=by kernel_rfl
def a138:AFn where
 code:=(.seq (.region false [⟨none,(some 2),.mov (.k (.bool false))⟩])
 (.seq (.region false [⟨none,(some 3),.mov (.t 0)⟩,
  ⟨none,(some 4),.mov (.t 0)⟩,
  ⟨none,(some 5),.bin .neq (.t 3) (.t 4)⟩,
  ⟨none,(some 2),.mov (.t 5)⟩])
 .ret))
 ntmps:=6
 res:=[.tmp 2]
theorem zno0:zsjc P Tryz.f138=some a138:=by kernel_rfl
def a78:AFn where
 code:=(.seq (.region false [⟨none,(some 2),.box (.t 0)⟩,
  ⟨none,(some 3),.box (.t 1)⟩,
  ⟨none,(some 4),.mov (.k (.int .i64 0))⟩,
  ⟨none,(some 5),.mov (.k (.bool false))⟩])
 (.seq (.region false [⟨none,(some 6),.fld 1 (.t 2)⟩,
  ⟨none,(some 7),.load 1 false (.t 6)⟩,
  ⟨none,(some 8),.load 34 true (.t 3)⟩,
  ⟨none,(some 9),.call (.k (.fn (.func 104) [] [])) [(.t 7),(.t 8),(.k (.fn (.func 105) [] []))]⟩,
  ⟨none,(some 10),.ext (.t 9) 0⟩,
  ⟨none,(some 11),.ext (.t 9) 1⟩,
  ⟨none,(some 4),.mov (.t 10)⟩,
  ⟨none,(some 5),.mov (.t 11)⟩])
 .ret))
 ntmps:=12
 res:=[.tmp 4,.tmp 5]
theorem zetr:zsjc P Tryz.f78=some a78:=by kernel_rfl
def a51:AFn where
 code:=(.seq (.region false [⟨none,(some 2),.box (.t 0)⟩,
  ⟨none,(some 3),.box (.t 1)⟩,
  ⟨none,(some 4),.mov (.k (.bool false))⟩])
 (.seq (.region false [⟨none,(some 8),.load 2 true (.t 2)⟩,
  ⟨none,(some 9),.load 34 true (.t 3)⟩,
  ⟨none,(some 10),.call (.k (.fn (.func 78) [] [])) [(.t 8),(.t 9)]⟩,
  ⟨none,(some 7),.mov (.t 10)⟩,
  ⟨none,(some 11),.ext (.t 7) 0⟩,
  ⟨none,(some 12),.ext (.t 7) 1⟩,
  ⟨none,(some 5),.mov (.t 11)⟩,
  ⟨none,(some 6),.mov (.t 12)⟩])
 (.seq (.region false [⟨none,(some 13),.mov (.t 6)⟩,
  ⟨none,(some 14),.mov (.t 13)⟩,
  ⟨(some (14,true)),(some 15),.fld 1 (.t 2)⟩,
  ⟨(some (14,true)),(some 16),.load 1 false (.t 15)⟩,
  ⟨(some (14,true)),(some 17),.mov (.t 5)⟩,
  ⟨(some (14,true)),(some 18),.idxS 105 (.t 16) (.t 17)⟩,
  ⟨(some (14,true)),(some 19),.fld 34 (.t 18)⟩,
  ⟨(some (14,true)),(some 20),.fld 0 (.t 19)⟩,
  ⟨(some (14,true)),(some 21),.load 1 false (.t 20)⟩,
  ⟨none,(some 22),.pick (.t 14) (.t 21) (.k (.bool false))⟩,
  ⟨none,(some 4),.mov (.t 22)⟩])
 .ret)))
 ntmps:=23
 res:=[.tmp 4]
theorem z8rx:zsjc P Tryz.f51=some a51:=by kernel_rfl
def zyu0:ACode :=
 (.seq (.region false [⟨none,(some 36),.bin .lss (.t 35) (.t 34)⟩])
 (.seq (.cond (.t 36) .skip
 (.exit 0))
 (.seq (.block 1 (.seq (.region false [⟨none,(some 37),.idxS 32 (.t 33) (.t 35)⟩,
  ⟨none,(some 38),.load 32 true (.t 37)⟩,
  ⟨none,(some 14),.alloc (rep 32 (w8 0#8))⟩,
  ⟨none,none,.store 32 (.t 14) (.t 38)⟩])
 (.seq (.region false [⟨none,(some 40),.mov (.t 2)⟩,
  ⟨none,(some 41),.mov (.t 3)⟩,
  ⟨none,(some 42),.load 32 true (.t 14)⟩,
  ⟨none,(some 43),.call (.k (.fn (.func 42) [] [])) [(.t 40),(.t 41),(.t 42)]⟩,
  ⟨none,(some 39),.mov (.t 43)⟩,
  ⟨none,(some 44),.ext (.t 39) 0⟩,
  ⟨none,(some 45),.ext (.t 39) 1⟩,
  ⟨none,(some 15),.mov (.t 44)⟩,
  ⟨none,(some 16),.mov (.t 45)⟩])
 (.seq (.seq (.region false [⟨none,(some 46),.mov (.t 16)⟩,
  ⟨none,(some 47),.mov (.t 46)⟩,
  ⟨(some (47,true)),(some 48),.mov (.t 2)⟩,
  ⟨(some (47,true)),(some 49),.mov (.t 15)⟩,
  ⟨(some (47,true)),(some 50),.idxS 35 (.t 48) (.t 49)⟩,
  ⟨(some (47,true)),(some 51),.fld 34 (.t 50)⟩,
  ⟨(some (47,true)),(some 52),.load 1 false (.t 51)⟩,
  ⟨(some (47,true)),(some 53),.mov (.t 4)⟩,
  ⟨(some (47,true)),(some 54),.bin .gtr (.t 52) (.t 53)⟩,
  ⟨none,(some 55),.pick (.t 47) (.t 54) (.k (.bool false))⟩])
 (.cond (.t 55) (.exit 1)
 .skip))
 (.seq (.region false [⟨none,(some 56),.load 2 true (.t 6)⟩,
  ⟨none,(some 57),.fld 0 (.t 12)⟩,
  ⟨none,(some 58),.load 1 false (.t 57)⟩,
  ⟨none,(some 59),.fld 1 (.t 12)⟩,
  ⟨none,(some 60),.load 1 false (.t 59)⟩,
  ⟨none,(some 61),.load 32 true (.t 14)⟩,
  ⟨none,(some 62),.build [(.str []),(.str []),(w8 0#8),(w8 0#8),(w8 0#8),(w8 0#8),(w8 0#8),(w8 0#8),(w8 0#8),(w8 0#8),(w8 0#8),(w8 0#8),(w8 0#8),(w8 0#8),(w8 0#8),(w8 0#8),(w8 0#8),(w8 0#8),(w8 0#8),(w8 0#8),(w8 0#8),(w8 0#8),(w8 0#8),(w8 0#8),(w8 0#8),(w8 0#8),(w8 0#8),(w8 0#8),(w8 0#8),(w8 0#8),(w8 0#8),(w8 0#8),(w8 0#8),(w8 0#8)] [(0,1,(.t 58)),(1,1,(.t 60)),(2,32,(.t 61))]⟩,
  ⟨none,(some 63),.call (.k (.fn (.func 51) [] [])) [(.t 56),(.t 62)]⟩])
 (.cond (.t 63) (.seq (.region false [⟨none,(some 64),.load 32 true (.t 14)⟩,
  ⟨none,none,.store 32 (.t 10) (.t 64)⟩,
  ⟨none,(some 11),.mov (.k (.bool true))⟩])
 .ret)
 .skip))))))
 (.region false [⟨none,(some 65),.bin .add (.t 35) (.k (.int .i64 1))⟩,
  ⟨none,(some 35),.mov (.t 65)⟩]))))
def zm3v (x2 x3 x4 x6 x10 x12 x33 x34 x35:DV) (h:List AObj):St:=⟨[.junk,.junk,x2,x3,x4,.junk,x6,.junk,.junk,.junk,x10,.junk,x12]++js 20++[x33,x34,x35]++js 31,h⟩
def a23:AFn where
 code:=(.seq (.region false [⟨none,(some 5),.box (.t 0)⟩,
  ⟨none,(some 6),.box (.t 1)⟩,
  ⟨none,(some 10),.alloc (rep 32 (w8 0#8))⟩,
  ⟨none,(some 11),.mov (.k (.bool false))⟩])
 (.seq (.seq (.region false [⟨none,(some 17),.mov (.t 3)⟩,
  ⟨none,(some 18),.bin .lss (.t 17) (.k (.int .i64 0))⟩,
  ⟨none,(some 19),.mov (.t 18)⟩,
  ⟨(some (19,false)),(some 20),.mov (.t 3)⟩,
  ⟨(some (19,false)),(some 21),.fld 0 (.t 5)⟩,
  ⟨(some (19,false)),(some 22),.load 1 false (.t 21)⟩,
  ⟨(some (19,false)),(some 23),.len (.t 22)⟩,
  ⟨(some (19,false)),(some 24),.bin .geq (.t 20) (.t 23)⟩,
  ⟨none,(some 25),.pick (.t 19) (.k (.bool true)) (.t 24)⟩])
 (.cond (.t 25) (.seq (.region false [⟨none,(some 26),.build (rep 32 (w8 0#8)) []⟩,
  ⟨none,none,.store 32 (.t 10) (.t 26)⟩,
  ⟨none,(some 11),.mov (.k (.bool false))⟩])
 .ret)
 .skip))
 (.seq (.region false [⟨none,(some 27),.fld 0 (.t 5)⟩,
  ⟨none,(some 28),.load 1 false (.t 27)⟩,
  ⟨none,(some 29),.mov (.t 3)⟩,
  ⟨none,(some 30),.idxS 6 (.t 28) (.t 29)⟩,
  ⟨none,(some 31),.load 6 true (.t 30)⟩,
  ⟨none,(some 12),.alloc [(.str []),(.str []),(.int .i64 0),(.int .i64 0),(.int .i64 0),.nils]⟩,
  ⟨none,none,.store 6 (.t 12) (.t 31)⟩])
 (.seq (.seq (.region false [⟨none,(some 32),.fld 5 (.t 12)⟩,
  ⟨none,(some 33),.load 1 false (.t 32)⟩,
  ⟨none,(some 34),.len (.t 33)⟩,
  ⟨none,(some 35),.mov (.k (.int .i64 0))⟩])
 (.block 0 (.loop zyu0)))
 (.seq (.region false [⟨none,(some 66),.build (rep 32 (w8 0#8)) []⟩,
  ⟨none,none,.store 32 (.t 10) (.t 66)⟩,
  ⟨none,(some 11),.mov (.k (.bool false))⟩])
 .ret)))))
 ntmps:=67
 res:=[.cell 10 32 true,.tmp 11]
theorem ztyx:zsjc P Tryz.f23=some a23:=by kernel_rfl
def z5oa:ACode :=
 (.seq (.region false [⟨none,(some 16),.bin .lss (.t 15) (.t 14)⟩])
 (.seq (.cond (.t 16) .skip
 (.exit 0))
 (.seq (.block 1 (.seq (.region false [⟨none,(some 17),.mov (.t 15)⟩,
  ⟨none,(some 3),.mov (.t 17)⟩])
 (.region true [⟨none,(some 18),.fld 0 (.t 1)⟩,
  ⟨none,(some 19),.load 1 false (.t 18)⟩,
  ⟨none,(some 20),.mov (.t 3)⟩,
  ⟨none,(some 21),.fld 0 (.t 1)⟩,
  ⟨none,(some 22),.load 1 false (.t 21)⟩,
  ⟨none,(some 23),.mov (.t 3)⟩,
  ⟨none,(some 24),.idxS 6 (.t 22) (.t 23)⟩,
  ⟨none,(some 25),.fld 5 (.t 24)⟩,
  ⟨none,(some 26),.load 1 false (.t 25)⟩,
  ⟨none,(some 27),.callN (.k (.fn (.func 81) [] [])) [(.t 26)]⟩,
  ⟨none,(some 28),.idxS 6 (.t 19) (.t 20)⟩,
  ⟨none,(some 29),.fld 5 (.t 28)⟩,
  ⟨none,none,.store 1 (.t 29) (.t 27)⟩])))
 (.region false [⟨none,(some 30),.bin .add (.t 15) (.k (.int .i64 1))⟩,
  ⟨none,(some 15),.mov (.t 30)⟩]))))
def zv4w (x1 x2 x14 x15:DV) (h:List AObj):St:=⟨[.junk,x1,x2]++js 11++[x14,x15]++js 16,h⟩
def a52:AFn where
 code:=(.seq (.region false [⟨none,(some 1),.box (.t 0)⟩,
  ⟨none,(some 2),.alloc [.nils,.nils,(.int .i64 0)]⟩])
 (.seq (.region true [⟨none,(some 4),.fld 0 (.t 1)⟩,
  ⟨none,(some 5),.load 1 false (.t 4)⟩,
  ⟨none,(some 7),.fld 1 (.t 1)⟩,
  ⟨none,(some 8),.load 1 false (.t 7)⟩,
  ⟨none,(some 6),.callN (.k (.fn (.func 79) [] [])) [(.t 5)]⟩,
  ⟨none,(some 10),.fld 0 (.t 1)⟩,
  ⟨none,(some 9),.callN (.k (.fn (.func 80) [] [])) [(.t 8)]⟩,
  ⟨none,none,.store 1 (.t 10) (.t 6)⟩,
  ⟨none,(some 11),.fld 1 (.t 1)⟩,
  ⟨none,none,.store 1 (.t 11) (.t 9)⟩])
 (.seq (.seq (.region false [⟨none,(some 12),.fld 0 (.t 1)⟩,
  ⟨none,(some 13),.load 1 false (.t 12)⟩,
  ⟨none,(some 14),.len (.t 13)⟩,
  ⟨none,(some 15),.mov (.k (.int .i64 0))⟩])
 (.block 0 (.loop z5oa)))
 (.seq (.region false [⟨none,(some 31),.load 3 true (.t 1)⟩,
  ⟨none,none,.store 3 (.t 2) (.t 31)⟩])
 .ret))))
 ntmps:=32
 res:=[.cell 2 3 true]
theorem zil0:zsjc P Tryz.f52=some a52:=by kernel_rfl
def zt7b:ACode :=
 (.seq (.region false [⟨none,(some 12),.bin .lss (.t 11) (.t 10)⟩])
 (.seq (.cond (.t 12) .skip
 (.exit 0))
 (.seq (.block 1 (.seq (.region false [⟨none,(some 13),.idxS 1 (.t 9) (.t 11)⟩,
  ⟨none,(some 14),.load 1 false (.t 13)⟩,
  ⟨none,(some 5),.mov (.t 14)⟩])
 (.seq (.region false [⟨none,(some 15),.mov (.t 0)⟩,
  ⟨none,(some 16),.nilc (.t 15)⟩,
  ⟨none,(some 17),.fld 0 (.t 16)⟩,
  ⟨none,(some 18),.load 3 true (.t 17)⟩,
  ⟨none,(some 19),.mov (.t 5)⟩,
  ⟨none,(some 20),.call (.k (.fn (.func 82) [] [])) [(.t 18),(.t 19)]⟩,
  ⟨none,(some 6),.mov (.t 20)⟩])
 (.seq (.region true [⟨none,(some 22),.mov (.t 0)⟩,
  ⟨none,(some 23),.nilc (.t 22)⟩,
  ⟨none,(some 24),.fld 0 (.t 23)⟩,
  ⟨none,(some 25),.load 3 true (.t 24)⟩,
  ⟨none,(some 26),.mov (.t 5)⟩,
  ⟨none,(some 27),.mov (.t 0)⟩,
  ⟨none,(some 28),.nilc (.t 27)⟩,
  ⟨none,(some 29),.fld 6 (.t 28)⟩,
  ⟨none,(some 30),.load 1 false (.t 29)⟩,
  ⟨none,(some 31),.callN (.k (.fn (.func 83) [] [])) [(.t 25),(.t 26),(.t 30)]⟩,
  ⟨none,(some 21),.mov (.t 31)⟩,
  ⟨none,(some 32),.ext (.t 21) 0⟩,
  ⟨none,(some 33),.ext (.t 21) 1⟩,
  ⟨none,(some 7),.alloc [.nils,.nils,(.int .i64 0)]⟩,
  ⟨none,none,.store 3 (.t 7) (.t 32)⟩,
  ⟨none,(some 8),.mov (.t 33)⟩])
 (.seq (.seq (.region false [⟨none,(some 34),.mov (.t 8)⟩,
  ⟨none,(some 35),.bin .neq (.t 34) (.k (.int .i64 0))⟩])
 (.cond (.t 35) (.exit 1)
 .skip))
 (.seq (.region true [⟨none,(some 36),.mov (.t 0)⟩,
  ⟨none,(some 37),.mov (.t 0)⟩,
  ⟨none,(some 38),.nilc (.t 37)⟩,
  ⟨none,(some 39),.fld 7 (.t 38)⟩,
  ⟨none,(some 40),.load 1 false (.t 39)⟩,
  ⟨none,(some 41),.mov (.t 5)⟩,
  ⟨none,(some 42),.mov (.t 0)⟩,
  ⟨none,(some 43),.nilc (.t 42)⟩,
  ⟨none,(some 44),.fld 0 (.t 43)⟩,
  ⟨none,(some 45),.fld 1 (.t 44)⟩,
  ⟨none,(some 46),.load 1 false (.t 45)⟩,
  ⟨none,(some 47),.mov (.t 6)⟩,
  ⟨none,(some 48),.idxS 37 (.t 46) (.t 47)⟩,
  ⟨none,(some 49),.fld 2 (.t 48)⟩,
  ⟨none,(some 50),.load 32 true (.t 49)⟩,
  ⟨none,(some 51),.build [(.int .i64 0),(.int .i64 0),(w8 0#8),(w8 0#8),(w8 0#8),(w8 0#8),(w8 0#8),(w8 0#8),(w8 0#8),(w8 0#8),(w8 0#8),(w8 0#8),(w8 0#8),(w8 0#8),(w8 0#8),(w8 0#8),(w8 0#8),(w8 0#8),(w8 0#8),(w8 0#8),(w8 0#8),(w8 0#8),(w8 0#8),(w8 0#8),(w8 0#8),(w8 0#8),(w8 0#8),(w8 0#8),(w8 0#8),(w8 0#8),(w8 0#8),(w8 0#8),(w8 0#8),(w8 0#8)] [(0,1,(.k (.int .i64 2))),(1,1,(.t 41)),(2,32,(.t 50))]⟩,
  ⟨none,(some 52),.bsl 34 1 [(.int .i64 0),(.int .i64 0),(w8 0#8),(w8 0#8),(w8 0#8),(w8 0#8),(w8 0#8),(w8 0#8),(w8 0#8),(w8 0#8),(w8 0#8),(w8 0#8),(w8 0#8),(w8 0#8),(w8 0#8),(w8 0#8),(w8 0#8),(w8 0#8),(w8 0#8),(w8 0#8),(w8 0#8),(w8 0#8),(w8 0#8),(w8 0#8),(w8 0#8),(w8 0#8),(w8 0#8),(w8 0#8),(w8 0#8),(w8 0#8),(w8 0#8),(w8 0#8),(w8 0#8),(w8 0#8)] [(0,34,(.t 51))]⟩,
  ⟨none,(some 53),.app 34 48 (.t 40) (.t 52)⟩,
  ⟨none,(some 54),.nilc (.t 36)⟩,
  ⟨none,(some 55),.fld 7 (.t 54)⟩,
  ⟨none,none,.store 1 (.t 55) (.t 53)⟩])
 (.region false [⟨none,(some 56),.mov (.t 0)⟩,
  ⟨none,(some 57),.load 3 true (.t 7)⟩,
  ⟨none,(some 58),.nilc (.t 56)⟩,
  ⟨none,(some 59),.fld 0 (.t 58)⟩,
  ⟨none,none,.store 3 (.t 59) (.t 57)⟩])))))))
 (.region false [⟨none,(some 60),.bin .add (.t 11) (.k (.int .i64 1))⟩,
  ⟨none,(some 11),.mov (.t 60)⟩]))))
def znp4 (x0 x9 x10 x11:DV) (h:List AObj):St:=⟨[x0]++js 8++[x9,x10,x11]++js 49,h⟩
def a53:AFn where
 code:=(.seq (.region false [⟨none,(some 9),.mov (.t 1)⟩,
  ⟨none,(some 10),.len (.t 9)⟩,
  ⟨none,(some 11),.mov (.k (.int .i64 0))⟩])
 (.block 0 (.loop zt7b)))
 ntmps:=61
 res:=[]
theorem zq51:zsjc P Tryz.f53=some a53:=by kernel_rfl
def a90:AFn where
 code:=(.seq (.region false [⟨none,(some 4),.mov (.k (.bool false))⟩])
 (.seq (.region true [⟨none,(some 11),.mov (.t 0)⟩,
  ⟨none,(some 12),.nilc (.t 11)⟩,
  ⟨none,(some 13),.fld 0 (.t 12)⟩,
  ⟨none,(some 14),.load 3 true (.t 13)⟩,
  ⟨none,(some 15),.mov (.t 0)⟩,
  ⟨none,(some 16),.nilc (.t 15)⟩,
  ⟨none,(some 17),.fld 3 (.t 16)⟩,
  ⟨none,(some 18),.load 2 true (.t 17)⟩,
  ⟨none,(some 19),.mov (.t 0)⟩,
  ⟨none,(some 20),.nilc (.t 19)⟩,
  ⟨none,(some 21),.fld 5 (.t 20)⟩,
  ⟨none,(some 22),.load 1 false (.t 21)⟩,
  ⟨none,(some 23),.mov (.t 1)⟩,
  ⟨none,(some 24),.mov (.t 0)⟩,
  ⟨none,(some 25),.nilc (.t 24)⟩,
  ⟨none,(some 26),.fld 6 (.t 25)⟩,
  ⟨none,(some 27),.load 1 false (.t 26)⟩,
  ⟨none,(some 28),.callN (.k (.fn (.func 23) [] [])) [(.t 14),(.t 18),(.t 22),(.t 23),(.t 27)]⟩,
  ⟨none,(some 10),.mov (.t 28)⟩,
  ⟨none,(some 29),.ext (.t 10) 0⟩,
  ⟨none,(some 30),.ext (.t 10) 1⟩,
  ⟨none,(some 5),.alloc (rep 32 (w8 0#8))⟩,
  ⟨none,none,.store 32 (.t 5) (.t 29)⟩,
  ⟨none,(some 6),.mov (.t 30)⟩])
 (.seq (.seq (.region false [⟨none,(some 31),.mov (.t 6)⟩,
  ⟨none,(some 32),.un .not (.t 31)⟩])
 (.cond (.t 32) (.seq (.region false [⟨none,(some 4),.mov (.k (.bool false))⟩])
 .ret)
 .skip))
 (.seq (.region true [⟨none,(some 34),.mov (.t 0)⟩,
  ⟨none,(some 35),.nilc (.t 34)⟩,
  ⟨none,(some 36),.fld 0 (.t 35)⟩,
  ⟨none,(some 37),.load 3 true (.t 36)⟩,
  ⟨none,(some 38),.mov (.t 1)⟩,
  ⟨none,(some 39),.load 32 true (.t 5)⟩,
  ⟨none,(some 40),.mov (.t 0)⟩,
  ⟨none,(some 41),.nilc (.t 40)⟩,
  ⟨none,(some 42),.fld 6 (.t 41)⟩,
  ⟨none,(some 43),.load 1 false (.t 42)⟩,
  ⟨none,(some 44),.callN (.k (.fn (.func 125) [] [])) [(.t 37),(.t 38),(.t 39),(.t 43)]⟩,
  ⟨none,(some 33),.mov (.t 44)⟩,
  ⟨none,(some 45),.ext (.t 33) 0⟩,
  ⟨none,(some 46),.ext (.t 33) 1⟩,
  ⟨none,(some 47),.ext (.t 33) 2⟩,
  ⟨none,(some 7),.alloc [.nils,.nils,(.int .i64 0)]⟩,
  ⟨none,none,.store 3 (.t 7) (.t 45)⟩,
  ⟨none,(some 8),.mov (.t 46)⟩,
  ⟨none,(some 9),.mov (.t 47)⟩])
 (.seq (.seq (.region false [⟨none,(some 48),.mov (.t 9)⟩,
  ⟨none,(some 49),.bin .neq (.t 48) (.k (.int .i64 0))⟩])
 (.cond (.t 49) (.seq (.region false [⟨none,(some 4),.mov (.k (.bool false))⟩])
 .ret)
 .skip))
 (.seq (.region false [⟨none,(some 50),.mov (.t 0)⟩,
  ⟨none,(some 51),.load 3 true (.t 7)⟩,
  ⟨none,(some 52),.nilc (.t 50)⟩,
  ⟨none,(some 53),.fld 0 (.t 52)⟩,
  ⟨none,none,.store 3 (.t 53) (.t 51)⟩])
 (.seq (.region true [⟨none,(some 54),.mov (.t 0)⟩,
  ⟨none,(some 55),.mov (.t 0)⟩,
  ⟨none,(some 56),.nilc (.t 55)⟩,
  ⟨none,(some 57),.fld 7 (.t 56)⟩,
  ⟨none,(some 58),.load 1 false (.t 57)⟩,
  ⟨none,(some 59),.mov (.t 8)⟩,
  ⟨none,(some 60),.load 32 true (.t 5)⟩,
  ⟨none,(some 61),.build [(.int .i64 0),(.int .i64 0),(w8 0#8),(w8 0#8),(w8 0#8),(w8 0#8),(w8 0#8),(w8 0#8),(w8 0#8),(w8 0#8),(w8 0#8),(w8 0#8),(w8 0#8),(w8 0#8),(w8 0#8),(w8 0#8),(w8 0#8),(w8 0#8),(w8 0#8),(w8 0#8),(w8 0#8),(w8 0#8),(w8 0#8),(w8 0#8),(w8 0#8),(w8 0#8),(w8 0#8),(w8 0#8),(w8 0#8),(w8 0#8),(w8 0#8),(w8 0#8),(w8 0#8),(w8 0#8)] [(0,1,(.k (.int .i64 1))),(1,1,(.t 59)),(2,32,(.t 60))]⟩,
  ⟨none,(some 62),.bsl 34 1 [(.int .i64 0),(.int .i64 0),(w8 0#8),(w8 0#8),(w8 0#8),(w8 0#8),(w8 0#8),(w8 0#8),(w8 0#8),(w8 0#8),(w8 0#8),(w8 0#8),(w8 0#8),(w8 0#8),(w8 0#8),(w8 0#8),(w8 0#8),(w8 0#8),(w8 0#8),(w8 0#8),(w8 0#8),(w8 0#8),(w8 0#8),(w8 0#8),(w8 0#8),(w8 0#8),(w8 0#8),(w8 0#8),(w8 0#8),(w8 0#8),(w8 0#8),(w8 0#8),(w8 0#8),(w8 0#8)] [(0,34,(.t 61))]⟩,
  ⟨none,(some 63),.app 34 48 (.t 58) (.t 62)⟩,
  ⟨none,(some 64),.nilc (.t 54)⟩,
  ⟨none,(some 65),.fld 7 (.t 64)⟩,
  ⟨none,none,.store 1 (.t 65) (.t 63)⟩])
 (.seq (.region false [⟨none,(some 4),.mov (.k (.bool true))⟩])
 .ret))))))))
 ntmps:=66
 res:=[.tmp 4]
theorem z9pi:zsjc P Tryz.f90=some a90:=by kernel_rfl
def z7q2:ACode :=
 (.seq (.region false [⟨none,(some 24),.bin .lss (.t 23) (.t 22)⟩])
 (.seq (.cond (.t 24) .skip
 (.exit 0))
 (.seq (.block 1 (.seq (.region false [⟨none,(some 25),.idxS 37 (.t 21) (.t 23)⟩,
  ⟨none,(some 26),.load 37 true (.t 25)⟩,
  ⟨none,(some 10),.alloc [(.int .i64 0),(.int .i64 0),(w8 0#8),(w8 0#8),(w8 0#8),(w8 0#8),(w8 0#8),(w8 0#8),(w8 0#8),(w8 0#8),(w8 0#8),(w8 0#8),(w8 0#8),(w8 0#8),(w8 0#8),(w8 0#8),(w8 0#8),(w8 0#8),(w8 0#8),(w8 0#8),(w8 0#8),(w8 0#8),(w8 0#8),(w8 0#8),(w8 0#8),(w8 0#8),(w8 0#8),(w8 0#8),(w8 0#8),(w8 0#8),(w8 0#8),(w8 0#8),(w8 0#8),(w8 0#8),(.int .i64 0),(.int .i64 0),(.int .i64 0)]⟩,
  ⟨none,none,.store 37 (.t 10) (.t 26)⟩])
 (.seq (.region false [⟨none,(some 27),.fld 1 (.t 10)⟩,
  ⟨none,(some 28),.load 1 false (.t 27)⟩,
  ⟨none,(some 29),.mov (.t 1)⟩,
  ⟨none,(some 30),.bin .eql (.t 28) (.t 29)⟩,
  ⟨none,(some 31),.mov (.t 30)⟩,
  ⟨(some (31,true)),(some 32),.fld 34 (.t 10)⟩,
  ⟨(some (31,true)),(some 33),.load 1 false (.t 32)⟩,
  ⟨(some (31,true)),(some 34),.bin .eql (.t 33) (.k (.int .i64 1))⟩,
  ⟨none,(some 35),.pick (.t 31) (.t 34) (.k (.bool false))⟩,
  ⟨none,(some 36),.mov (.t 35)⟩,
  ⟨(some (36,true)),(some 37),.mov (.t 7)⟩,
  ⟨(some (36,true)),(some 38),.fld 0 (.t 10)⟩,
  ⟨(some (36,true)),(some 39),.load 1 false (.t 38)⟩,
  ⟨(some (36,true)),(some 40),.call (.k (.fn (.func 111) [] [])) [(.t 37),(.t 39)]⟩,
  ⟨(some (36,true)),(some 41),.mov (.t 2)⟩,
  ⟨(some (36,true)),(some 42),.eqb false (.t 40) (.t 41)⟩,
  ⟨none,(some 43),.pick (.t 36) (.t 42) (.k (.bool false))⟩])
 (.cond (.t 43) (.region false [⟨none,(some 44),.mov (.t 8)⟩,
  ⟨none,(some 45),.fld 0 (.t 10)⟩,
  ⟨none,(some 46),.load 1 false (.t 45)⟩,
  ⟨none,(some 47),.bsl 1 1 [(.int .i64 0)] [(0,1,(.t 46))]⟩,
  ⟨none,(some 48),.app 1 8 (.t 44) (.t 47)⟩,
  ⟨none,(some 8),.mov (.t 48)⟩])
 .skip))))
 (.region false [⟨none,(some 49),.bin .add (.t 23) (.k (.int .i64 1))⟩,
  ⟨none,(some 23),.mov (.t 49)⟩]))))
def zvu2 (x1 x2 x7 x8 x21 x22 x23:DV) (h:List AObj):St:=⟨[.junk,x1,x2]++js 4++[x7,x8]++js 12++[x21,x22,x23]++js 27,h⟩
def a85:AFn where
 code:=(.seq (.region false [⟨none,(some 6),.mov (.k .nils)⟩])
 (.seq (.region false [⟨none,(some 11),.mov (.t 0)⟩,
  ⟨none,(some 12),.nilc (.t 11)⟩,
  ⟨none,(some 13),.fld 0 (.t 12)⟩,
  ⟨none,(some 14),.load 3 true (.t 13)⟩,
  ⟨none,(some 15),.mov (.t 1)⟩,
  ⟨none,(some 16),.call (.k (.fn (.func 87) [] [])) [(.t 14),(.t 15)]⟩,
  ⟨none,(some 7),.mov (.t 16)⟩])
 (.seq (.region false [⟨none,(some 8),.mov (.k .nils)⟩])
 (.seq (.seq (.region false [⟨none,(some 17),.mov (.t 0)⟩,
  ⟨none,(some 18),.nilc (.t 17)⟩,
  ⟨none,(some 19),.fld 0 (.t 18)⟩,
  ⟨none,(some 20),.fld 1 (.t 19)⟩,
  ⟨none,(some 21),.load 1 false (.t 20)⟩,
  ⟨none,(some 22),.len (.t 21)⟩,
  ⟨none,(some 23),.mov (.k (.int .i64 0))⟩])
 (.block 0 (.loop z7q2)))
 (.seq (.region false [⟨none,(some 50),.mov (.t 8)⟩,
  ⟨none,(some 6),.mov (.t 50)⟩])
 .ret)))))
 ntmps:=51
 res:=[.tmp 6]
theorem zu0j:zsjc P Tryz.f85=some a85:=by kernel_rfl
def z44u:ACode :=
 (.seq (.seq (.region false [⟨none,(some 64),.mov (.t 0)⟩,
  ⟨none,(some 65),.nilc (.t 64)⟩,
  ⟨none,(some 66),.fld 0 (.t 65)⟩,
  ⟨none,(some 67),.load 3 true (.t 66)⟩,
  ⟨none,(some 68),.mov (.t 1)⟩,
  ⟨none,(some 69),.call (.k (.fn (.func 87) [] [])) [(.t 67),(.t 68)]⟩,
  ⟨none,(some 70),.len (.t 69)⟩,
  ⟨none,(some 71),.mov (.t 4)⟩,
  ⟨none,(some 72),.bin .lss (.t 70) (.t 71)⟩])
 (.cond (.t 72) .skip
 (.exit 0)))
 (.block 1 (.seq (.region false [⟨none,(some 73),.mov (.t 0)⟩,
  ⟨none,(some 74),.mov (.t 1)⟩,
  ⟨none,(some 75),.call (.k (.fn (.func 90) [] [])) [(.t 73),(.t 74)]⟩,
  ⟨none,(some 76),.un .not (.t 75)⟩])
 (.cond (.t 76) (.exit 0)
 .skip))))
def zh8t (x0 x1 x4:DV) (h:List AObj):St:=⟨[x0,x1,.junk,.junk,x4]++js 72,h⟩
def a55:AFn where
 code:=(.seq (.region false [⟨none,(some 8),.mov (.t 0)⟩,
  ⟨none,(some 9),.nilc (.t 8)⟩,
  ⟨none,(some 10),.fld 0 (.t 9)⟩,
  ⟨none,(some 11),.fld 0 (.t 10)⟩,
  ⟨none,(some 12),.load 1 false (.t 11)⟩,
  ⟨none,(some 13),.mov (.t 1)⟩,
  ⟨none,(some 14),.idxS 6 (.t 12) (.t 13)⟩,
  ⟨none,(some 15),.fld 2 (.t 14)⟩,
  ⟨none,(some 16),.load 1 false (.t 15)⟩,
  ⟨none,(some 4),.mov (.t 16)⟩])
 (.seq (.region false [⟨none,(some 17),.mov (.t 0)⟩,
  ⟨none,(some 18),.mov (.t 0)⟩,
  ⟨none,(some 19),.mov (.t 1)⟩,
  ⟨none,(some 20),.call (.k (.fn (.func 85) [] [])) [(.t 18),(.t 19),(.k (.bool false))]⟩,
  ⟨none,(some 21),.call (.k (.fn (.func 53) [] [])) [(.t 17),(.t 20)]⟩])
 (.seq (.region false [⟨none,(some 22),.mov (.t 0)⟩,
  ⟨none,(some 23),.mov (.t 1)⟩,
  ⟨none,(some 24),.call (.k (.fn (.func 85) [] [])) [(.t 22),(.t 23),(.k (.bool true))]⟩,
  ⟨none,(some 5),.mov (.t 24)⟩])
 (.seq (.region false [⟨none,(some 25),.mov (.t 5)⟩,
  ⟨none,(some 26),.call (.k (.fn (.func 86) [] [])) [(.t 25)]⟩])
 (.seq (.region false [⟨none,(some 27),.mov (.t 0)⟩,
  ⟨none,(some 28),.nilc (.t 27)⟩,
  ⟨none,(some 29),.fld 0 (.t 28)⟩,
  ⟨none,(some 30),.load 3 true (.t 29)⟩,
  ⟨none,(some 31),.mov (.t 1)⟩,
  ⟨none,(some 32),.call (.k (.fn (.func 87) [] [])) [(.t 30),(.t 31)]⟩,
  ⟨none,(some 33),.len (.t 32)⟩,
  ⟨none,(some 34),.mov (.t 4)⟩,
  ⟨none,(some 35),.bin .sub (.t 33) (.t 34)⟩,
  ⟨none,(some 36),.mm true [(.t 35),(.k (.int .i64 0))]⟩,
  ⟨none,(some 6),.mov (.t 36)⟩])
 (.seq (.region false [⟨none,(some 37),.mov (.t 0)⟩,
  ⟨none,(some 38),.mov (.t 5)⟩,
  ⟨none,(some 39),.mov (.t 6)⟩,
  ⟨none,(some 40),.mov (.t 5)⟩,
  ⟨none,(some 41),.len (.t 40)⟩,
  ⟨none,(some 42),.mm false [(.t 39),(.t 41)]⟩,
  ⟨none,(some 43),.slcS 1 (.t 38) none (some (.t 42)) none⟩,
  ⟨none,(some 44),.call (.k (.fn (.func 53) [] [])) [(.t 37),(.t 43)]⟩])
 (.seq (.region false [⟨none,(some 45),.mov (.t 0)⟩,
  ⟨none,(some 46),.nilc (.t 45)⟩,
  ⟨none,(some 47),.fld 0 (.t 46)⟩,
  ⟨none,(some 48),.load 3 true (.t 47)⟩,
  ⟨none,(some 49),.mov (.t 1)⟩,
  ⟨none,(some 50),.call (.k (.fn (.func 88) [] [])) [(.t 48),(.t 49)]⟩,
  ⟨none,(some 7),.mov (.t 50)⟩])
 (.seq (.region false [⟨none,(some 51),.mov (.t 0)⟩,
  ⟨none,(some 52),.mov (.t 7)⟩,
  ⟨none,(some 53),.mov (.t 0)⟩,
  ⟨none,(some 54),.nilc (.t 53)⟩,
  ⟨none,(some 55),.fld 0 (.t 54)⟩,
  ⟨none,(some 56),.load 3 true (.t 55)⟩,
  ⟨none,(some 57),.mov (.t 1)⟩,
  ⟨none,(some 58),.call (.k (.fn (.func 89) [] [])) [(.t 56),(.t 57)]⟩,
  ⟨none,(some 59),.mov (.t 7)⟩,
  ⟨none,(some 60),.len (.t 59)⟩,
  ⟨none,(some 61),.mm false [(.t 58),(.t 60)]⟩,
  ⟨none,(some 62),.slcS 1 (.t 52) none (some (.t 61)) none⟩,
  ⟨none,(some 63),.call (.k (.fn (.func 53) [] [])) [(.t 51),(.t 62)]⟩])
 (.block 0 (.loop z44u))))))))))
 ntmps:=77
 res:=[]
theorem ze8s:zsjc P Tryz.f55=some a55:=by kernel_rfl
def zr8m:ACode :=
 (.seq (.region false [⟨none,(some 31),.bin .lss (.t 30) (.t 29)⟩])
 (.seq (.cond (.t 31) .skip
 (.exit 0))
 (.seq (.block 1 (.seq (.region false [⟨none,(some 32),.mov (.t 30)⟩,
  ⟨none,(some 13),.mov (.t 32)⟩])
 (.region false [⟨none,(some 33),.mov (.t 12)⟩,
  ⟨none,(some 34),.mov (.t 13)⟩,
  ⟨none,(some 35),.call (.k (.fn (.func 55) [] [])) [(.t 33),(.t 34)]⟩])))
 (.region false [⟨none,(some 36),.bin .add (.t 30) (.k (.int .i64 1))⟩,
  ⟨none,(some 30),.mov (.t 36)⟩]))))
def z3xo (x10 x12 x29 x30:DV) (h:List AObj):St:=⟨js 10++[x10,.junk,x12]++js 16++[x29,x30]++js 14,h⟩
def a25:AFn where
 code:=(.seq (.region false [⟨none,(some 5),.box (.t 0)⟩,
  ⟨none,(some 6),.box (.t 1)⟩,
  ⟨none,(some 10),.alloc [.nils,.nils,(.int .i64 0)]⟩,
  ⟨none,(some 11),.mov (.k .nils)⟩])
 (.seq (.region true [⟨none,(some 14),.load 3 true (.t 5)⟩,
  ⟨none,(some 16),.load 2 true (.t 6)⟩,
  ⟨none,(some 17),.mov (.t 2)⟩,
  ⟨none,(some 18),.mov (.t 4)⟩,
  ⟨none,(some 15),.callN (.k (.fn (.func 52) [] [])) [(.t 14)]⟩,
  ⟨none,(some 19),.build [.nils,.nils,(.int .i64 0),(.int .i64 0),.nils,.nils,(.int .i64 0),.nils] [(0,3,(.t 15)),(3,2,(.t 16)),(5,1,(.t 17)),(6,1,(.t 18))]⟩,
  ⟨none,(some 20),.box (.t 19)⟩,
  ⟨none,(some 12),.mov (.t 20)⟩])
 (.seq (.region false [⟨none,(some 21),.mov (.t 12)⟩,
  ⟨none,(some 22),.load 3 true (.t 5)⟩,
  ⟨none,(some 23),.mov (.t 3)⟩,
  ⟨none,(some 24),.mov (.t 4)⟩,
  ⟨none,(some 25),.call (.k (.fn (.func 54) [] [])) [(.t 22),(.t 23),(.t 24)]⟩,
  ⟨none,(some 26),.call (.k (.fn (.func 53) [] [])) [(.t 21),(.t 25)]⟩])
 (.seq (.seq (.region false [⟨none,(some 27),.fld 0 (.t 5)⟩,
  ⟨none,(some 28),.load 1 false (.t 27)⟩,
  ⟨none,(some 29),.len (.t 28)⟩,
  ⟨none,(some 30),.mov (.k (.int .i64 0))⟩])
 (.block 0 (.loop zr8m)))
 (.seq (.region true [⟨none,(some 37),.mov (.t 12)⟩,
  ⟨none,(some 38),.nilc (.t 37)⟩,
  ⟨none,(some 39),.fld 0 (.t 38)⟩,
  ⟨none,(some 40),.load 3 true (.t 39)⟩,
  ⟨none,(some 41),.mov (.t 12)⟩,
  ⟨none,(some 42),.nilc (.t 41)⟩,
  ⟨none,(some 43),.fld 7 (.t 42)⟩,
  ⟨none,(some 44),.load 1 false (.t 43)⟩,
  ⟨none,none,.store 3 (.t 10) (.t 40)⟩,
  ⟨none,(some 11),.mov (.t 44)⟩,
  ⟨none,none,.apart (.t 41) (.t 10)⟩,
  ⟨none,none,.apart (.t 42) (.t 10)⟩,
  ⟨none,none,.apart (.t 43) (.t 10)⟩])
 .ret)))))
 ntmps:=45
 res:=[.cell 10 3 true,.tmp 11]
theorem zgum:zsjc P Tryz.f25=some a25:=by kernel_rfl
def a111:AFn where
 code:=(.seq (.region false [⟨none,(some 4),.mov (.k (.bool false))⟩])
 (.seq (.region false [⟨none,(some 5),.mov (.t 0)⟩,
  ⟨none,(some 6),.mov (.t 1)⟩,
  ⟨none,(some 7),.call (.k (.fn (.func 132) [] [])) [(.t 5),(.t 6)]⟩,
  ⟨none,(some 8),.bin .geq (.t 7) (.k (.int .i64 0))⟩,
  ⟨none,(some 4),.mov (.t 8)⟩])
 .ret))
 ntmps:=9
 res:=[.tmp 4]
theorem zmlq:zsjc P Tryz.f111=some a111:=by kernel_rfl
def z1gp:ACode :=
 (.seq (.region false [⟨none,(some 9),.bin .lss (.t 8) (.t 7)⟩])
 (.seq (.cond (.t 9) .skip
 (.exit 0))
 (.seq (.block 1 (.seq (.region false [⟨none,(some 10),.mov (.t 8)⟩,
  ⟨none,(some 5),.mov (.t 10)⟩])
 (.seq (.region false [⟨none,(some 11),.mov (.t 1)⟩,
  ⟨none,(some 12),.mov (.t 0)⟩,
  ⟨none,(some 13),.mov (.t 5)⟩,
  ⟨none,(some 14),.idxS 1 (.t 12) (.t 13)⟩,
  ⟨none,(some 15),.load 1 false (.t 14)⟩,
  ⟨none,(some 16),.bin .eql (.t 11) (.t 15)⟩])
 (.cond (.t 16) (.seq (.region false [⟨none,(some 17),.mov (.t 5)⟩,
  ⟨none,(some 4),.mov (.t 17)⟩])
 .ret)
 .skip))))
 (.region false [⟨none,(some 18),.bin .add (.t 8) (.k (.int .i64 1))⟩,
  ⟨none,(some 8),.mov (.t 18)⟩]))))
def zzkc (x0 x1 x7 x8:DV) (h:List AObj):St:=⟨[x0,x1]++js 5++[x7,x8]++js 10,h⟩
def a132:AFn where
 code:=(.seq (.region false [⟨none,(some 4),.mov (.k (.int .i64 0))⟩])
 (.seq (.seq (.region false [⟨none,(some 6),.mov (.t 0)⟩,
  ⟨none,(some 7),.len (.t 6)⟩,
  ⟨none,(some 8),.mov (.k (.int .i64 0))⟩])
 (.block 0 (.loop z1gp)))
 (.seq (.region false [⟨none,(some 4),.mov (.k (.int .i64 (-1)))⟩])
 .ret)))
 ntmps:=19
 res:=[.tmp 4]
theorem zr93:zsjc P Tryz.f132=some a132:=by kernel_rfl
end
section
set_option linter.unusedSimpArgs false
set_option linter.unusedVariables false
open Go Go.Am
def a21:AFn where
 code:=(.seq (.region false [⟨none,(some 0),.mov (.k (.bool false))⟩])
 (.seq (.region false [⟨none,(some 6),.build (rep 32 (w8 0#8)) [(0,1,(.k (w8 1#8)))]⟩,
  ⟨none,(some 7),.bsl 32 1 (rep 32 (w8 0#8)) [(0,32,(.t 6))]⟩,
  ⟨none,(some 8),.build [(.str []),(.str []),(.int .i64 0),(.int .i64 0),(.int .i64 0),.nils] [(0,1,(.k (.str [97]))),(1,1,(.k (.str [98]))),(2,1,(.k (.int .i64 2))),(3,1,(.k (.int .i64 1))),(4,1,(.k (.int .i64 1))),(5,1,(.t 7))]⟩,
  ⟨none,(some 9),.bsl 6 1 [(.str []),(.str []),(.int .i64 0),(.int .i64 0),(.int .i64 0),.nils] [(0,6,(.t 8))]⟩,
  ⟨none,(some 10),.build [.nils,.nils,(.int .i64 0)] [(0,1,(.t 9)),(2,1,(.k (.int .i64 1)))]⟩,
  ⟨none,(some 1),.alloc [.nils,.nils,(.int .i64 0)]⟩,
  ⟨none,none,.store 3 (.t 1) (.t 10)⟩])
 (.seq (.region false [⟨none,(some 11),.build (rep 32 (w8 0#8)) [(0,1,(.k (w8 1#8)))]⟩,
  ⟨none,(some 12),.build [(.str []),(.str []),(w8 0#8),(w8 0#8),(w8 0#8),(w8 0#8),(w8 0#8),(w8 0#8),(w8 0#8),(w8 0#8),(w8 0#8),(w8 0#8),(w8 0#8),(w8 0#8),(w8 0#8),(w8 0#8),(w8 0#8),(w8 0#8),(w8 0#8),(w8 0#8),(w8 0#8),(w8 0#8),(w8 0#8),(w8 0#8),(w8 0#8),(w8 0#8),(w8 0#8),(w8 0#8),(w8 0#8),(w8 0#8),(w8 0#8),(w8 0#8),(w8 0#8),(w8 0#8)] [(0,1,(.k (.str [97]))),(1,1,(.k (.str [98]))),(2,32,(.t 11))]⟩,
  ⟨none,(some 13),.build [(.bool false),(w8 0#8),(w8 0#8),(w8 0#8),(w8 0#8),(w8 0#8),(w8 0#8),(w8 0#8),(w8 0#8),(w8 0#8),(w8 0#8),(w8 0#8),(w8 0#8),(w8 0#8),(w8 0#8),(w8 0#8),(w8 0#8),(w8 0#8),(w8 0#8),(w8 0#8),(w8 0#8),(w8 0#8),(w8 0#8),(w8 0#8),(w8 0#8),(w8 0#8),(w8 0#8),(w8 0#8),(w8 0#8),(w8 0#8),(w8 0#8),(w8 0#8),(w8 0#8),(.int .i64 0),(w8 0#8),(w8 0#8),(w8 0#8),(w8 0#8),(w8 0#8),(w8 0#8),(w8 0#8),(w8 0#8),(w8 0#8),(w8 0#8),(w8 0#8),(w8 0#8),(w8 0#8),(w8 0#8),(w8 0#8),(w8 0#8),(w8 0#8),(w8 0#8),(w8 0#8),(w8 0#8),(w8 0#8),(w8 0#8),(w8 0#8),(w8 0#8),(w8 0#8),(w8 0#8),(w8 0#8),(w8 0#8),(w8 0#8),(w8 0#8),(w8 0#8),(w8 0#8),(.str []),(.str []),.nils] [(0,1,(.k (.bool true)))]⟩,
  ⟨none,(some 14),.build [(.str []),(.str []),(w8 0#8),(w8 0#8),(w8 0#8),(w8 0#8),(w8 0#8),(w8 0#8),(w8 0#8),(w8 0#8),(w8 0#8),(w8 0#8),(w8 0#8),(w8 0#8),(w8 0#8),(w8 0#8),(w8 0#8),(w8 0#8),(w8 0#8),(w8 0#8),(w8 0#8),(w8 0#8),(w8 0#8),(w8 0#8),(w8 0#8),(w8 0#8),(w8 0#8),(w8 0#8),(w8 0#8),(w8 0#8),(w8 0#8),(w8 0#8),(w8 0#8),(w8 0#8),(.bool false),(w8 0#8),(w8 0#8),(w8 0#8),(w8 0#8),(w8 0#8),(w8 0#8),(w8 0#8),(w8 0#8),(w8 0#8),(w8 0#8),(w8 0#8),(w8 0#8),(w8 0#8),(w8 0#8),(w8 0#8),(w8 0#8),(w8 0#8),(w8 0#8),(w8 0#8),(w8 0#8),(w8 0#8),(w8 0#8),(w8 0#8),(w8 0#8),(w8 0#8),(w8 0#8),(w8 0#8),(w8 0#8),(w8 0#8),(w8 0#8),(w8 0#8),(w8 0#8),(.int .i64 0),(w8 0#8),(w8 0#8),(w8 0#8),(w8 0#8),(w8 0#8),(w8 0#8),(w8 0#8),(w8 0#8),(w8 0#8),(w8 0#8),(w8 0#8),(w8 0#8),(w8 0#8),(w8 0#8),(w8 0#8),(w8 0#8),(w8 0#8),(w8 0#8),(w8 0#8),(w8 0#8),(w8 0#8),(w8 0#8),(w8 0#8),(w8 0#8),(w8 0#8),(w8 0#8),(w8 0#8),(w8 0#8),(w8 0#8),(w8 0#8),(w8 0#8),(w8 0#8),(.str []),(.str []),.nils,.nils,(.int .i64 0)] [(0,34,(.t 12)),(34,69,(.t 13))]⟩,
  ⟨none,(some 15),.bsl 105 1 [(.str []),(.str []),(w8 0#8),(w8 0#8),(w8 0#8),(w8 0#8),(w8 0#8),(w8 0#8),(w8 0#8),(w8 0#8),(w8 0#8),(w8 0#8),(w8 0#8),(w8 0#8),(w8 0#8),(w8 0#8),(w8 0#8),(w8 0#8),(w8 0#8),(w8 0#8),(w8 0#8),(w8 0#8),(w8 0#8),(w8 0#8),(w8 0#8),(w8 0#8),(w8 0#8),(w8 0#8),(w8 0#8),(w8 0#8),(w8 0#8),(w8 0#8),(w8 0#8),(w8 0#8),(.bool false),(w8 0#8),(w8 0#8),(w8 0#8),(w8 0#8),(w8 0#8),(w8 0#8),(w8 0#8),(w8 0#8),(w8 0#8),(w8 0#8),(w8 0#8),(w8 0#8),(w8 0#8),(w8 0#8),(w8 0#8),(w8 0#8),(w8 0#8),(w8 0#8),(w8 0#8),(w8 0#8),(w8 0#8),(w8 0#8),(w8 0#8),(w8 0#8),(w8 0#8),(w8 0#8),(w8 0#8),(w8 0#8),(w8 0#8),(w8 0#8),(w8 0#8),(w8 0#8),(.int .i64 0),(w8 0#8),(w8 0#8),(w8 0#8),(w8 0#8),(w8 0#8),(w8 0#8),(w8 0#8),(w8 0#8),(w8 0#8),(w8 0#8),(w8 0#8),(w8 0#8),(w8 0#8),(w8 0#8),(w8 0#8),(w8 0#8),(w8 0#8),(w8 0#8),(w8 0#8),(w8 0#8),(w8 0#8),(w8 0#8),(w8 0#8),(w8 0#8),(w8 0#8),(w8 0#8),(w8 0#8),(w8 0#8),(w8 0#8),(w8 0#8),(w8 0#8),(w8 0#8),(.str []),(.str []),.nils,.nils,(.int .i64 0)] [(0,105,(.t 14))]⟩,
  ⟨none,(some 16),.build [(.int .i64 0),.nils] [(1,1,(.t 15))]⟩,
  ⟨none,(some 2),.alloc [(.int .i64 0),.nils]⟩,
  ⟨none,none,.store 2 (.t 2) (.t 16)⟩])
 (.seq (.region false [⟨none,(some 18),.load 3 true (.t 1)⟩,
  ⟨none,(some 19),.load 2 true (.t 2)⟩,
  ⟨none,(some 20),.call (.k (.fn (.func 25) [] [])) [(.t 18),(.t 19),(.k .nils),(.k .nils),(.k (.int .i64 5))]⟩,
  ⟨none,(some 17),.mov (.t 20)⟩,
  ⟨none,(some 21),.ext (.t 17) 0⟩,
  ⟨none,(some 22),.ext (.t 17) 1⟩,
  ⟨none,(some 3),.alloc [.nils,.nils,(.int .i64 0)]⟩,
  ⟨none,none,.store 3 (.t 3) (.t 21)⟩,
  ⟨none,(some 4),.mov (.t 22)⟩])
 (.seq (.region false [⟨none,(some 23),.build (rep 32 (w8 0#8)) [(0,1,(.k (w8 1#8)))]⟩,
  ⟨none,(some 24),.call (.k (.fn (.func 15) [] [])) [(.k .nils),(.k (.int .i64 0)),(.t 23),(.k (.int .i64 5))]⟩,
  ⟨none,(some 5),.mov (.t 24)⟩])
 (.seq (.region false [⟨none,(some 25),.mov (.t 4)⟩,
  ⟨none,(some 26),.len (.t 25)⟩,
  ⟨none,(some 27),.bin .eql (.t 26) (.k (.int .i64 2))⟩,
  ⟨none,(some 28),.mov (.t 27)⟩,
  ⟨(some (28,true)),(some 29),.fld 1 (.t 3)⟩,
  ⟨(some (28,true)),(some 30),.load 1 false (.t 29)⟩,
  ⟨(some (28,true)),(some 31),.len (.t 30)⟩,
  ⟨(some (28,true)),(some 32),.bin .eql (.t 31) (.k (.int .i64 2))⟩,
  ⟨none,(some 33),.pick (.t 28) (.t 32) (.k (.bool false))⟩,
  ⟨none,(some 34),.mov (.t 33)⟩,
  ⟨(some (34,true)),(some 35),.mov (.t 5)⟩,
  ⟨(some (34,true)),(some 36),.len (.t 35)⟩,
  ⟨(some (34,true)),(some 37),.bin .eql (.t 36) (.k (.int .i64 1))⟩,
  ⟨none,(some 38),.pick (.t 34) (.t 37) (.k (.bool false))⟩,
  ⟨none,(some 39),.mov (.t 38)⟩,
  ⟨(some (39,true)),(some 40),.mov (.t 5)⟩,
  ⟨(some (39,true)),(some 41),.idxS 35 (.t 40) (.k (.int .i64 0))⟩,
  ⟨(some (39,true)),(some 42),.fld 34 (.t 41)⟩,
  ⟨(some (39,true)),(some 43),.load 1 false (.t 42)⟩,
  ⟨(some (39,true)),(some 44),.bin .eql (.t 43) (.k (.int .i64 7))⟩,
  ⟨none,(some 45),.pick (.t 39) (.t 44) (.k (.bool false))⟩,
  ⟨none,(some 46),.mov (.t 45)⟩,
  ⟨(some (46,true)),(some 47),.mov (.t 5)⟩,
  ⟨(some (46,true)),(some 48),.build (rep 32 (w8 0#8)) [(0,1,(.k (w8 1#8)))]⟩,
  ⟨(some (46,true)),(some 49),.call (.k (.fn (.func 17) [] [])) [(.t 47),(.k (.int .i64 0)),(.t 48)]⟩,
  ⟨(some (46,true)),(some 50),.len (.t 49)⟩,
  ⟨(some (46,true)),(some 51),.bin .eql (.t 50) (.k (.int .i64 0))⟩,
  ⟨none,(some 52),.pick (.t 46) (.t 51) (.k (.bool false))⟩,
  ⟨none,(some 53),.mov (.t 52)⟩,
  ⟨(some (53,true)),(some 54),.mov (.t 5)⟩,
  ⟨(some (53,true)),(some 55),.call (.k (.fn (.func 19) [] [])) [(.t 54),(.k (.int .i64 0)),(.k .nils)]⟩,
  ⟨(some (53,true)),(some 56),.len (.t 55)⟩,
  ⟨(some (53,true)),(some 57),.bin .eql (.t 56) (.k (.int .i64 0))⟩,
  ⟨none,(some 58),.pick (.t 53) (.t 57) (.k (.bool false))⟩,
  ⟨none,(some 0),.mov (.t 58)⟩])
 .ret))))))
 ntmps:=59
 res:=[.tmp 0]
theorem zyfb:zsjc P Tryz.f21=some a21:=by kernel_rfl
end
section
set_option linter.unusedSimpArgs false
set_option linter.unusedVariables false
open Go Go.Am
end
section
set_option linter.unusedSimpArgs false
set_option linter.unusedVariables false
open Go Go.Am
def a9L0:ACode :=
 (.seq (.seq (.region false [⟨none,(some 41),.mov (.t 9)⟩,
  ⟨none,(some 42),.mov (.t 7)⟩,
  ⟨none,(some 43),.len (.t 42)⟩,
  ⟨none,(some 44),.bin .lss (.t 41) (.t 43)⟩])
 (.cond (.t 44) .skip
 (.exit 0)))
 (.seq (.block 1 (.seq (.seq (.region true [⟨none,(some 47),.load 3 true (.t 5)⟩,
  ⟨none,(some 48),.mov (.t 7)⟩,
  ⟨none,(some 49),.mov (.t 9)⟩,
  ⟨none,(some 50),.idxS 1 (.t 48) (.t 49)⟩,
  ⟨none,(some 51),.load 1 false (.t 50)⟩,
  ⟨none,(some 52),.callN (.k (.fn (.func 30) [] [])) [(.t 47),(.t 51)]⟩,
  ⟨none,(some 10),.mov (.t 52)⟩])
 (.seq (.region false [⟨none,(some 53),.mov (.t 10)⟩,
  ⟨none,(some 54),.bin .lss (.t 53) (.k (.int .i64 0))⟩,
  ⟨none,(some 55),.mov (.t 54)⟩,
  ⟨(some (55,false)),(some 56),.fld 1 (.t 5)⟩,
  ⟨(some (55,false)),(some 57),.load 1 false (.t 56)⟩,
  ⟨(some (55,false)),(some 58),.mov (.t 10)⟩,
  ⟨(some (55,false)),(some 59),.idxS 37 (.t 57) (.t 58)⟩,
  ⟨(some (55,false)),(some 60),.fld 34 (.t 59)⟩,
  ⟨(some (55,false)),(some 61),.load 1 false (.t 60)⟩,
  ⟨(some (55,false)),(some 62),.bin .neq (.t 61) (.k (.int .i64 3))⟩,
  ⟨none,(some 63),.pick (.t 55) (.k (.bool true)) (.t 62)⟩])
 (.cond (.t 63) (.seq (.region false [⟨none,(some 2),.mov (.k (.bool false))⟩])
 .ret)
 .skip)))
 (.region true [⟨none,(some 65),.load 3 true (.t 8)⟩,
  ⟨none,(some 66),.mov (.t 7)⟩,
  ⟨none,(some 67),.mov (.t 9)⟩,
  ⟨none,(some 68),.idxS 1 (.t 66) (.t 67)⟩,
  ⟨none,(some 69),.load 1 false (.t 68)⟩,
  ⟨none,(some 70),.fld 7 (.t 3)⟩,
  ⟨none,(some 71),.load 1 false (.t 70)⟩,
  ⟨none,(some 72),.callN (.k (.fn (.func 33) [] [])) [(.t 65),(.t 69),(.t 71)]⟩,
  ⟨none,(some 64),.mov (.t 72)⟩,
  ⟨none,(some 73),.ext (.t 64) 0⟩,
  ⟨none,(some 74),.ext (.t 64) 1⟩,
  ⟨none,none,.store 3 (.t 8) (.t 73)⟩])))
 (.region false [⟨none,(some 45),.mov (.t 9)⟩,
  ⟨none,(some 46),.bin .add (.t 45) (.k (.int .i64 1))⟩,
  ⟨none,(some 9),.mov (.t 46)⟩])))
def a9S0 (x3 x5 x7 x8 x9:DV) (h:List AObj):St:=⟨[.junk,.junk,.junk,x3,.junk,x5,.junk,x7,x8,x9]++js 90,h⟩
def a9L1:ACode :=
 (.seq (.seq (.region false [⟨none,(some 75),.mov (.t 11)⟩,
  ⟨none,(some 76),.fld 0 (.t 3)⟩,
  ⟨none,(some 77),.fld 0 (.t 76)⟩,
  ⟨none,(some 78),.load 1 false (.t 77)⟩,
  ⟨none,(some 79),.len (.t 78)⟩,
  ⟨none,(some 80),.bin .lss (.t 75) (.t 79)⟩])
 (.cond (.t 80) .skip
 (.exit 2)))
 (.seq (.block 3 (.seq (.region true [⟨none,(some 83),.load 3 true (.t 8)⟩,
  ⟨none,(some 84),.mov (.t 11)⟩,
  ⟨none,(some 86),.load 3 true (.t 5)⟩,
  ⟨none,(some 87),.mov (.t 11)⟩,
  ⟨none,(some 85),.callN (.k (.fn (.func 34) [] [])) [(.t 83),(.t 84)]⟩,
  ⟨none,(some 88),.callN (.k (.fn (.func 34) [] [])) [(.t 86),(.t 87)]⟩,
  ⟨none,(some 89),.bin .sub (.t 85) (.t 88)⟩,
  ⟨none,(some 12),.mov (.t 89)⟩])
 (.seq (.region false [⟨none,(some 90),.mov (.t 12)⟩,
  ⟨none,(some 91),.bin .lss (.t 90) (.k (.int .i64 0))⟩,
  ⟨none,(some 92),.mov (.t 91)⟩,
  ⟨(some (92,false)),(some 93),.mov (.t 12)⟩,
  ⟨(some (92,false)),(some 94),.load 3 true (.t 8)⟩,
  ⟨(some (92,false)),(some 95),.mov (.t 11)⟩,
  ⟨(some (92,false)),(some 96),.call (.k (.fn (.func 35) [] [])) [(.t 94),(.t 95)]⟩,
  ⟨(some (92,false)),(some 97),.bin .gtr (.t 93) (.t 96)⟩,
  ⟨none,(some 98),.pick (.t 92) (.k (.bool true)) (.t 97)⟩])
 (.cond (.t 98) (.seq (.region false [⟨none,(some 2),.mov (.k (.bool false))⟩])
 .ret)
 .skip))))
 (.region false [⟨none,(some 81),.mov (.t 11)⟩,
  ⟨none,(some 82),.bin .add (.t 81) (.k (.int .i64 1))⟩,
  ⟨none,(some 11),.mov (.t 82)⟩])))
def a9S1 (x3 x5 x8 x11:DV) (h:List AObj):St:=⟨[.junk,.junk,.junk,x3,.junk,x5,.junk,.junk,x8,.junk,.junk,x11]++js 88,h⟩
def a9:AFn where
 code:=(.seq (.region false [⟨none,(some 2),.mov (.k (.bool false))⟩])
 (.seq (.region false [⟨none,(some 14),.mov (.t 0)⟩,
  ⟨none,(some 15),.call (.k (.fn (.func 12) [] [])) [(.t 14)]⟩,
  ⟨none,(some 13),.mov (.t 15)⟩,
  ⟨none,(some 16),.ext (.t 13) 0⟩,
  ⟨none,(some 17),.ext (.t 13) 1⟩,
  ⟨none,(some 3),.alloc [.nils,.nils,(.int .i64 0),(.int .i64 0),.nils,.nils,.nils,(.int .i64 0)]⟩,
  ⟨none,none,.store 8 (.t 3) (.t 16)⟩,
  ⟨none,(some 4),.mov (.t 17)⟩])
 (.seq (.region false [⟨none,(some 19),.fld 0 (.t 3)⟩,
  ⟨none,(some 20),.load 3 true (.t 19)⟩,
  ⟨none,(some 21),.fld 3 (.t 3)⟩,
  ⟨none,(some 22),.load 2 true (.t 21)⟩,
  ⟨none,(some 23),.fld 5 (.t 3)⟩,
  ⟨none,(some 24),.load 1 false (.t 23)⟩,
  ⟨none,(some 25),.fld 6 (.t 3)⟩,
  ⟨none,(some 26),.load 1 false (.t 25)⟩,
  ⟨none,(some 27),.fld 7 (.t 3)⟩,
  ⟨none,(some 28),.load 1 false (.t 27)⟩,
  ⟨none,(some 29),.call (.k (.fn (.func 25) [] [])) [(.t 20),(.t 22),(.t 24),(.t 26),(.t 28)]⟩,
  ⟨none,(some 18),.mov (.t 29)⟩,
  ⟨none,(some 30),.ext (.t 18) 0⟩,
  ⟨none,(some 31),.ext (.t 18) 1⟩,
  ⟨none,(some 5),.alloc [.nils,.nils,(.int .i64 0)]⟩,
  ⟨none,none,.store 3 (.t 5) (.t 30)⟩,
  ⟨none,(some 6),.mov (.t 31)⟩])
 (.seq (.region false [⟨none,(some 32),.fld 0 (.t 3)⟩,
  ⟨none,(some 33),.load 3 true (.t 32)⟩,
  ⟨none,(some 34),.fld 6 (.t 3)⟩,
  ⟨none,(some 35),.load 1 false (.t 34)⟩,
  ⟨none,(some 36),.fld 7 (.t 3)⟩,
  ⟨none,(some 37),.load 1 false (.t 36)⟩,
  ⟨none,(some 38),.call (.k (.fn (.func 32) [] [])) [(.t 33),(.t 35),(.t 37)]⟩,
  ⟨none,(some 7),.mov (.t 38)⟩])
 (.seq (.region false [⟨none,(some 39),.fld 0 (.t 3)⟩,
  ⟨none,(some 40),.load 3 true (.t 39)⟩,
  ⟨none,(some 8),.alloc [.nils,.nils,(.int .i64 0)]⟩,
  ⟨none,none,.store 3 (.t 8) (.t 40)⟩])
 (.seq (.seq (.region false [⟨none,(some 9),.mov (.k (.int .i64 0))⟩])
 (.block 0 (.loop a9L0)))
 (.seq (.seq (.region false [⟨none,(some 11),.mov (.k (.int .i64 0))⟩])
 (.block 2 (.loop a9L1)))
 (.seq (.region false [⟨none,(some 99),.call (.k (.fn (.func 21) [] [])) []⟩,
  ⟨none,(some 2),.mov (.t 99)⟩])
 .ret))))))))
 ntmps:=100
 res:=[.tmp 2]
theorem z528:zsjc P Tryz.f9=some a9:=by kernel_rfl
end
section
set_option linter.unusedSimpArgs false
set_option linter.unusedVariables false
open Go Go.Am
def zjzl:ACode :=
 (.seq (.seq (.region false [⟨none,(some 6),.mov (.t 5)⟩,
  ⟨none,(some 7),.bin .lss (.t 6) (.k (.int .i64 32))⟩])
 (.cond (.t 7) .skip
 (.exit 0)))
 (.seq (.block 1 (.seq (.region true [⟨none,(some 10),.mov (.t 5)⟩,
  ⟨none,(some 11),.idxA 32 1 (.t 2) (.t 10)⟩,
  ⟨none,(some 12),.load 1 false (.t 11)⟩,
  ⟨none,(some 13),.mov (.t 5)⟩,
  ⟨none,(some 14),.idxA 32 1 (.t 3) (.t 13)⟩,
  ⟨none,(some 15),.load 1 false (.t 14)⟩,
  ⟨none,(some 16),.bin .neq (.t 12) (.t 15)⟩])
 (.cond (.t 16) (.seq (.region true [⟨none,(some 17),.mov (.t 5)⟩,
  ⟨none,(some 18),.idxA 32 1 (.t 2) (.t 17)⟩,
  ⟨none,(some 19),.load 1 false (.t 18)⟩,
  ⟨none,(some 20),.mov (.t 5)⟩,
  ⟨none,(some 21),.idxA 32 1 (.t 3) (.t 20)⟩,
  ⟨none,(some 22),.load 1 false (.t 21)⟩,
  ⟨none,(some 23),.bin .lss (.t 19) (.t 22)⟩,
  ⟨none,(some 4),.mov (.t 23)⟩])
 .ret)
 .skip)))
 (.region false [⟨none,(some 8),.mov (.t 5)⟩,
  ⟨none,(some 9),.bin .add (.t 8) (.k (.int .i64 1))⟩,
  ⟨none,(some 5),.mov (.t 9)⟩])))
def zu12 (x2 x3 x5:DV) (h:List AObj):St:=⟨[.junk,.junk,x2,x3,.junk,x5]++js 18,h⟩
def a75:AFn where
 code:=(.seq (.region false [⟨none,(some 2),.box (.t 0)⟩,
  ⟨none,(some 3),.box (.t 1)⟩,
  ⟨none,(some 4),.mov (.k (.bool false))⟩])
 (.seq (.seq (.region false [⟨none,(some 5),.mov (.k (.int .i64 0))⟩])
 (.block 0 (.loop zjzl)))
 (.seq (.region false [⟨none,(some 4),.mov (.k (.bool false))⟩])
 .ret)))
 ntmps:=24
 res:=[.tmp 4]
theorem zrvd:zsjc P Tryz.f75=some a75:=by kernel_rfl
def a100:AFn where
 code:=(.seq (.region false [⟨none,(some 2),.box (.t 0)⟩,
  ⟨none,(some 3),.box (.t 1)⟩,
  ⟨none,(some 4),.mov (.k (.bool false))⟩])
 (.seq (.seq (.region false [⟨none,(some 5),.fld 0 (.t 2)⟩,
  ⟨none,(some 6),.load 1 false (.t 5)⟩,
  ⟨none,(some 7),.fld 0 (.t 3)⟩,
  ⟨none,(some 8),.load 1 false (.t 7)⟩,
  ⟨none,(some 9),.bin .neq (.t 6) (.t 8)⟩])
 (.cond (.t 9) (.seq (.region false [⟨none,(some 10),.fld 0 (.t 2)⟩,
  ⟨none,(some 11),.load 1 false (.t 10)⟩,
  ⟨none,(some 12),.fld 0 (.t 3)⟩,
  ⟨none,(some 13),.load 1 false (.t 12)⟩,
  ⟨none,(some 14),.bin .lss (.t 11) (.t 13)⟩,
  ⟨none,(some 4),.mov (.t 14)⟩])
 .ret)
 .skip))
 (.seq (.seq (.region false [⟨none,(some 15),.fld 1 (.t 2)⟩,
  ⟨none,(some 16),.load 1 false (.t 15)⟩,
  ⟨none,(some 17),.fld 1 (.t 3)⟩,
  ⟨none,(some 18),.load 1 false (.t 17)⟩,
  ⟨none,(some 19),.bin .neq (.t 16) (.t 18)⟩])
 (.cond (.t 19) (.seq (.region false [⟨none,(some 20),.fld 1 (.t 2)⟩,
  ⟨none,(some 21),.load 1 false (.t 20)⟩,
  ⟨none,(some 22),.fld 1 (.t 3)⟩,
  ⟨none,(some 23),.load 1 false (.t 22)⟩,
  ⟨none,(some 24),.bin .lss (.t 21) (.t 23)⟩,
  ⟨none,(some 4),.mov (.t 24)⟩])
 .ret)
 .skip))
 (.seq (.region false [⟨none,(some 25),.fld 2 (.t 2)⟩,
  ⟨none,(some 26),.load 32 true (.t 25)⟩,
  ⟨none,(some 27),.fld 2 (.t 3)⟩,
  ⟨none,(some 28),.load 32 true (.t 27)⟩,
  ⟨none,(some 29),.call (.k (.fn (.func 75) [] [])) [(.t 26),(.t 28)]⟩,
  ⟨none,(some 4),.mov (.t 29)⟩])
 .ret))))
 ntmps:=30
 res:=[.tmp 4]
theorem zec4:zsjc P Tryz.f100=some a100:=by kernel_rfl
def zfle:ACode :=
 (.seq (.seq (.region true [⟨none,(some 9),.mov (.t 5)⟩,
  ⟨none,(some 10),.bin .gtr (.t 9) (.k (.int .i64 0))⟩,
  ⟨none,(some 11),.mov (.t 10)⟩,
  ⟨(some (11,true)),(some 12),.fld 0 (.t 3)⟩,
  ⟨(some (11,true)),(some 13),.load 34 true (.t 12)⟩,
  ⟨(some (11,true)),(some 14),.fld 1 (.t 2)⟩,
  ⟨(some (11,true)),(some 15),.load 1 false (.t 14)⟩,
  ⟨(some (11,true)),(some 16),.mov (.t 5)⟩,
  ⟨(some (11,true)),(some 17),.bin .sub (.t 16) (.k (.int .i64 1))⟩,
  ⟨(some (11,true)),(some 18),.idxS 105 (.t 15) (.t 17)⟩,
  ⟨(some (11,true)),(some 19),.fld 0 (.t 18)⟩,
  ⟨(some (11,true)),(some 20),.load 34 true (.t 19)⟩,
  ⟨(some (11,true)),(some 21),.callN (.k (.fn (.func 100) [] [])) [(.t 13),(.t 20)]⟩,
  ⟨none,(some 22),.pick (.t 11) (.t 21) (.k (.bool false))⟩])
 (.cond (.t 22) .skip
 (.exit 0)))
 (.block 1 (.region false [⟨none,(some 23),.mov (.t 5)⟩,
  ⟨none,(some 24),.bin .sub (.t 23) (.k (.int .i64 1))⟩,
  ⟨none,(some 5),.mov (.t 24)⟩])))
def zbq4 (x2 x3 x4 x5:DV) (h:List AObj):St:=⟨[.junk,.junk,x2,x3,x4,x5]++js 34,h⟩
def a67:AFn where
 code:=(.seq (.region false [⟨none,(some 2),.box (.t 0)⟩,
  ⟨none,(some 3),.box (.t 1)⟩,
  ⟨none,(some 4),.alloc [(.int .i64 0),.nils]⟩])
 (.seq (.region false [⟨none,(some 6),.fld 1 (.t 2)⟩,
  ⟨none,(some 7),.load 1 false (.t 6)⟩,
  ⟨none,(some 8),.len (.t 7)⟩,
  ⟨none,(some 5),.mov (.t 8)⟩])
 (.seq (.block 0 (.loop zfle))
 (.seq (.region true [⟨none,(some 25),.fld 1 (.t 2)⟩,
  ⟨none,(some 26),.load 1 false (.t 25)⟩,
  ⟨none,(some 27),.mov (.t 5)⟩,
  ⟨none,(some 28),.slcS 105 (.t 26) none (some (.t 27)) none⟩,
  ⟨none,(some 29),.app 105 232 (.k .nils) (.t 28)⟩,
  ⟨none,(some 30),.load 105 true (.t 3)⟩,
  ⟨none,(some 31),.bsl 105 1 [(.str []),(.str []),(w8 0#8),(w8 0#8),(w8 0#8),(w8 0#8),(w8 0#8),(w8 0#8),(w8 0#8),(w8 0#8),(w8 0#8),(w8 0#8),(w8 0#8),(w8 0#8),(w8 0#8),(w8 0#8),(w8 0#8),(w8 0#8),(w8 0#8),(w8 0#8),(w8 0#8),(w8 0#8),(w8 0#8),(w8 0#8),(w8 0#8),(w8 0#8),(w8 0#8),(w8 0#8),(w8 0#8),(w8 0#8),(w8 0#8),(w8 0#8),(w8 0#8),(w8 0#8),(.bool false),(w8 0#8),(w8 0#8),(w8 0#8),(w8 0#8),(w8 0#8),(w8 0#8),(w8 0#8),(w8 0#8),(w8 0#8),(w8 0#8),(w8 0#8),(w8 0#8),(w8 0#8),(w8 0#8),(w8 0#8),(w8 0#8),(w8 0#8),(w8 0#8),(w8 0#8),(w8 0#8),(w8 0#8),(w8 0#8),(w8 0#8),(w8 0#8),(w8 0#8),(w8 0#8),(w8 0#8),(w8 0#8),(w8 0#8),(w8 0#8),(w8 0#8),(w8 0#8),(.int .i64 0),(w8 0#8),(w8 0#8),(w8 0#8),(w8 0#8),(w8 0#8),(w8 0#8),(w8 0#8),(w8 0#8),(w8 0#8),(w8 0#8),(w8 0#8),(w8 0#8),(w8 0#8),(w8 0#8),(w8 0#8),(w8 0#8),(w8 0#8),(w8 0#8),(w8 0#8),(w8 0#8),(w8 0#8),(w8 0#8),(w8 0#8),(w8 0#8),(w8 0#8),(w8 0#8),(w8 0#8),(w8 0#8),(w8 0#8),(w8 0#8),(w8 0#8),(w8 0#8),(.str []),(.str []),.nils,.nils,(.int .i64 0)] [(0,105,(.t 30))]⟩,
  ⟨none,(some 32),.app 105 232 (.t 29) (.t 31)⟩,
  ⟨none,(some 33),.fld 1 (.t 2)⟩,
  ⟨none,(some 34),.load 1 false (.t 33)⟩,
  ⟨none,(some 35),.mov (.t 5)⟩,
  ⟨none,(some 36),.slcS 105 (.t 34) (some (.t 35)) none none⟩,
  ⟨none,(some 37),.app 105 232 (.t 32) (.t 36)⟩,
  ⟨none,(some 38),.fld 1 (.t 2)⟩,
  ⟨none,none,.store 1 (.t 38) (.t 37)⟩,
  ⟨none,none,.apart (.t 3) (.t 29)⟩,
  ⟨none,none,.apart (.t 2) (.t 29)⟩,
  ⟨none,none,.apart (.t 33) (.t 29)⟩,
  ⟨none,none,.apart (.t 34) (.t 29)⟩,
  ⟨none,none,.apart (.t 2) (.t 32)⟩,
  ⟨none,none,.apart (.t 33) (.t 32)⟩,
  ⟨none,none,.apart (.t 34) (.t 32)⟩])
 (.seq (.region false [⟨none,(some 39),.load 2 true (.t 2)⟩,
  ⟨none,none,.store 2 (.t 4) (.t 39)⟩])
 .ret)))))
 ntmps:=40
 res:=[.cell 4 2 true]
theorem zy8u:zsjc P Tryz.f67=some a67:=by kernel_rfl
def z9mq:ACode :=
 (.seq (.seq (.region false [⟨none,(some 16),.mov (.t 7)⟩,
  ⟨none,(some 17),.bin .leq (.t 16) (.k (.int .i64 3))⟩])
 (.cond (.t 17) .skip
 (.exit 2)))
 (.seq (.block 3 (.seq (.region true [⟨none,(some 20),.fld 0 (.t 3)⟩,
  ⟨none,(some 21),.load 1 false (.t 20)⟩,
  ⟨none,(some 22),.mov (.t 6)⟩,
  ⟨none,(some 23),.idxS 6 (.t 21) (.t 22)⟩,
  ⟨none,(some 24),.fld 0 (.t 23)⟩,
  ⟨none,(some 25),.load 1 false (.t 24)⟩,
  ⟨none,(some 26),.fld 0 (.t 3)⟩,
  ⟨none,(some 27),.load 1 false (.t 26)⟩,
  ⟨none,(some 28),.mov (.t 6)⟩,
  ⟨none,(some 29),.idxS 6 (.t 27) (.t 28)⟩,
  ⟨none,(some 30),.fld 1 (.t 29)⟩,
  ⟨none,(some 31),.load 1 false (.t 30)⟩,
  ⟨none,(some 32),.mov (.t 7)⟩,
  ⟨none,(some 33),.conv .u8 (.t 32)⟩,
  ⟨none,(some 34),.build (rep 32 (w8 0#8)) [(0,1,(.t 33))]⟩,
  ⟨none,(some 35),.build [(.str []),(.str []),(w8 0#8),(w8 0#8),(w8 0#8),(w8 0#8),(w8 0#8),(w8 0#8),(w8 0#8),(w8 0#8),(w8 0#8),(w8 0#8),(w8 0#8),(w8 0#8),(w8 0#8),(w8 0#8),(w8 0#8),(w8 0#8),(w8 0#8),(w8 0#8),(w8 0#8),(w8 0#8),(w8 0#8),(w8 0#8),(w8 0#8),(w8 0#8),(w8 0#8),(w8 0#8),(w8 0#8),(w8 0#8),(w8 0#8),(w8 0#8),(w8 0#8),(w8 0#8)] [(0,1,(.t 25)),(1,1,(.t 31)),(2,32,(.t 34))]⟩,
  ⟨none,(some 8),.alloc [(.str []),(.str []),(w8 0#8),(w8 0#8),(w8 0#8),(w8 0#8),(w8 0#8),(w8 0#8),(w8 0#8),(w8 0#8),(w8 0#8),(w8 0#8),(w8 0#8),(w8 0#8),(w8 0#8),(w8 0#8),(w8 0#8),(w8 0#8),(w8 0#8),(w8 0#8),(w8 0#8),(w8 0#8),(w8 0#8),(w8 0#8),(w8 0#8),(w8 0#8),(w8 0#8),(w8 0#8),(w8 0#8),(w8 0#8),(w8 0#8),(w8 0#8),(w8 0#8),(w8 0#8)]⟩,
  ⟨none,none,.store 34 (.t 8) (.t 35)⟩])
 (.region true [⟨none,(some 36),.load 2 true (.t 5)⟩,
  ⟨none,(some 37),.load 34 true (.t 8)⟩,
  ⟨none,(some 38),.mov (.t 0)⟩,
  ⟨none,(some 39),.callT (.k (.fn (.func 13) [] [])) [(.t 38),(.k (.int .i64 3))]⟩,
  ⟨none,(some 40),.bin .gtr (.t 39) (.k (.int .i64 0))⟩,
  ⟨none,(some 41),.build [(.bool false),(w8 0#8),(w8 0#8),(w8 0#8),(w8 0#8),(w8 0#8),(w8 0#8),(w8 0#8),(w8 0#8),(w8 0#8),(w8 0#8),(w8 0#8),(w8 0#8),(w8 0#8),(w8 0#8),(w8 0#8),(w8 0#8),(w8 0#8),(w8 0#8),(w8 0#8),(w8 0#8),(w8 0#8),(w8 0#8),(w8 0#8),(w8 0#8),(w8 0#8),(w8 0#8),(w8 0#8),(w8 0#8),(w8 0#8),(w8 0#8),(w8 0#8),(w8 0#8),(.int .i64 0),(w8 0#8),(w8 0#8),(w8 0#8),(w8 0#8),(w8 0#8),(w8 0#8),(w8 0#8),(w8 0#8),(w8 0#8),(w8 0#8),(w8 0#8),(w8 0#8),(w8 0#8),(w8 0#8),(w8 0#8),(w8 0#8),(w8 0#8),(w8 0#8),(w8 0#8),(w8 0#8),(w8 0#8),(w8 0#8),(w8 0#8),(w8 0#8),(w8 0#8),(w8 0#8),(w8 0#8),(w8 0#8),(w8 0#8),(w8 0#8),(w8 0#8),(w8 0#8),(.str []),(.str []),.nils] [(0,1,(.t 40))]⟩,
  ⟨none,(some 42),.build [(.str []),(.str []),(w8 0#8),(w8 0#8),(w8 0#8),(w8 0#8),(w8 0#8),(w8 0#8),(w8 0#8),(w8 0#8),(w8 0#8),(w8 0#8),(w8 0#8),(w8 0#8),(w8 0#8),(w8 0#8),(w8 0#8),(w8 0#8),(w8 0#8),(w8 0#8),(w8 0#8),(w8 0#8),(w8 0#8),(w8 0#8),(w8 0#8),(w8 0#8),(w8 0#8),(w8 0#8),(w8 0#8),(w8 0#8),(w8 0#8),(w8 0#8),(w8 0#8),(w8 0#8),(.bool false),(w8 0#8),(w8 0#8),(w8 0#8),(w8 0#8),(w8 0#8),(w8 0#8),(w8 0#8),(w8 0#8),(w8 0#8),(w8 0#8),(w8 0#8),(w8 0#8),(w8 0#8),(w8 0#8),(w8 0#8),(w8 0#8),(w8 0#8),(w8 0#8),(w8 0#8),(w8 0#8),(w8 0#8),(w8 0#8),(w8 0#8),(w8 0#8),(w8 0#8),(w8 0#8),(w8 0#8),(w8 0#8),(w8 0#8),(w8 0#8),(w8 0#8),(w8 0#8),(.int .i64 0),(w8 0#8),(w8 0#8),(w8 0#8),(w8 0#8),(w8 0#8),(w8 0#8),(w8 0#8),(w8 0#8),(w8 0#8),(w8 0#8),(w8 0#8),(w8 0#8),(w8 0#8),(w8 0#8),(w8 0#8),(w8 0#8),(w8 0#8),(w8 0#8),(w8 0#8),(w8 0#8),(w8 0#8),(w8 0#8),(w8 0#8),(w8 0#8),(w8 0#8),(w8 0#8),(w8 0#8),(w8 0#8),(w8 0#8),(w8 0#8),(w8 0#8),(w8 0#8),(.str []),(.str []),.nils,.nils,(.int .i64 0)] [(0,34,(.t 37)),(34,69,(.t 41))]⟩,
  ⟨none,(some 43),.callN (.k (.fn (.func 67) [] [])) [(.t 36),(.t 42)]⟩,
  ⟨none,none,.store 2 (.t 5) (.t 43)⟩,
  ⟨none,none,.apart (.t 5) (.t 38)⟩,
  ⟨none,none,.apart (.t 8) (.t 38)⟩])))
 (.region false [⟨none,(some 18),.mov (.t 7)⟩,
  ⟨none,(some 19),.bin .add (.t 18) (.k (.int .i64 1))⟩,
  ⟨none,(some 7),.mov (.t 19)⟩])))
def zbmj (x0 x3 x4 x5 x6 x7:DV) (h:List AObj):St:=⟨[x0,.junk,.junk,x3,x4,x5,x6,x7]++js 37,h⟩
def znbh:ACode :=
 (.seq (.seq (.region false [⟨none,(some 9),.mov (.t 6)⟩,
  ⟨none,(some 10),.fld 0 (.t 3)⟩,
  ⟨none,(some 11),.load 1 false (.t 10)⟩,
  ⟨none,(some 12),.len (.t 11)⟩,
  ⟨none,(some 13),.bin .lss (.t 9) (.t 12)⟩])
 (.cond (.t 13) .skip
 (.exit 0)))
 (.seq (.block 1 (.seq (.region false [⟨none,(some 7),.mov (.k (.int .i64 1))⟩])
 (.block 2 (.loop z9mq))))
 (.region false [⟨none,(some 14),.mov (.t 6)⟩,
  ⟨none,(some 15),.bin .add (.t 14) (.k (.int .i64 1))⟩,
  ⟨none,(some 6),.mov (.t 15)⟩])))
def zly3 (x0 x3 x4 x5 x6:DV) (h:List AObj):St:=⟨[x0,.junk,.junk,x3,x4,x5,x6]++js 38,h⟩
def a39:AFn where
 code:=(.seq (.region false [⟨none,(some 3),.box (.t 1)⟩,
  ⟨none,(some 4),.alloc [(.int .i64 0),.nils]⟩])
 (.seq (.region false [⟨none,(some 5),.alloc [(.int .i64 0),.nils]⟩])
 (.seq (.seq (.region false [⟨none,(some 6),.mov (.k (.int .i64 0))⟩])
 (.block 0 (.loop znbh)))
 (.seq (.region false [⟨none,(some 44),.load 2 true (.t 5)⟩,
  ⟨none,none,.store 2 (.t 4) (.t 44)⟩])
 .ret))))
 ntmps:=45
 res:=[.cell 4 2 true]
theorem zjwo:zsjc P Tryz.f39=some a39:=by kernel_rfl
def zb4u:ACode :=
 (.seq (.seq (.region false [⟨none,(some 16),.mov (.t 7)⟩,
  ⟨none,(some 17),.bin .leq (.t 16) (.k (.int .i64 3))⟩])
 (.cond (.t 17) .skip
 (.exit 2)))
 (.seq (.block 3 (.seq (.region false [⟨none,(some 20),.mov (.t 7)⟩,
  ⟨none,(some 21),.conv .u8 (.t 20)⟩,
  ⟨none,(some 22),.build (rep 32 (w8 0#8)) [(0,1,(.t 21))]⟩,
  ⟨none,(some 8),.alloc (rep 32 (w8 0#8))⟩,
  ⟨none,none,.store 32 (.t 8) (.t 22)⟩])
 (.seq (.region true [⟨none,(some 23),.fld 0 (.t 3)⟩,
  ⟨none,(some 24),.load 1 false (.t 23)⟩,
  ⟨none,(some 25),.mov (.t 6)⟩,
  ⟨none,(some 26),.idxS 6 (.t 24) (.t 25)⟩,
  ⟨none,(some 27),.fld 5 (.t 26)⟩,
  ⟨none,(some 28),.load 1 false (.t 27)⟩,
  ⟨none,(some 29),.load 32 true (.t 8)⟩,
  ⟨none,(some 30),.callN (.k (.fn (.func 50) [] [])) [(.t 28),(.t 29)]⟩,
  ⟨none,(some 31),.mov (.t 30)⟩,
  ⟨(some (31,true)),(some 32),.mov (.t 0)⟩,
  ⟨(some (31,true)),(some 33),.callT (.k (.fn (.func 13) [] [])) [(.t 32),(.k (.int .i64 3))]⟩,
  ⟨(some (31,true)),(some 34),.bin .eql (.t 33) (.k (.int .i64 0))⟩,
  ⟨none,(some 35),.pick (.t 31) (.t 34) (.k (.bool false))⟩])
 (.cond (.t 35) (.region true [⟨none,(some 36),.mov (.t 5)⟩,
  ⟨none,(some 37),.mov (.t 6)⟩,
  ⟨none,(some 38),.load 32 true (.t 8)⟩,
  ⟨none,(some 39),.mov (.t 0)⟩,
  ⟨none,(some 40),.callT (.k (.fn (.func 13) [] [])) [(.t 39),(.k (.int .i64 4))]⟩,
  ⟨none,(some 41),.bin .add (.k (.int .i64 1)) (.t 40)⟩,
  ⟨none,(some 42),.mov (.t 0)⟩,
  ⟨none,(some 43),.callT (.k (.fn (.func 13) [] [])) [(.t 42),(.k (.int .i64 40))]⟩,
  ⟨none,(some 44),.build [(.int .i64 0),(w8 0#8),(w8 0#8),(w8 0#8),(w8 0#8),(w8 0#8),(w8 0#8),(w8 0#8),(w8 0#8),(w8 0#8),(w8 0#8),(w8 0#8),(w8 0#8),(w8 0#8),(w8 0#8),(w8 0#8),(w8 0#8),(w8 0#8),(w8 0#8),(w8 0#8),(w8 0#8),(w8 0#8),(w8 0#8),(w8 0#8),(w8 0#8),(w8 0#8),(w8 0#8),(w8 0#8),(w8 0#8),(w8 0#8),(w8 0#8),(w8 0#8),(w8 0#8),(.int .i64 0),(.int .i64 0)] [(0,1,(.t 37)),(1,32,(.t 38)),(33,1,(.t 41)),(34,1,(.t 43))]⟩,
  ⟨none,(some 45),.bsl 35 1 [(.int .i64 0),(w8 0#8),(w8 0#8),(w8 0#8),(w8 0#8),(w8 0#8),(w8 0#8),(w8 0#8),(w8 0#8),(w8 0#8),(w8 0#8),(w8 0#8),(w8 0#8),(w8 0#8),(w8 0#8),(w8 0#8),(w8 0#8),(w8 0#8),(w8 0#8),(w8 0#8),(w8 0#8),(w8 0#8),(w8 0#8),(w8 0#8),(w8 0#8),(w8 0#8),(w8 0#8),(w8 0#8),(w8 0#8),(w8 0#8),(w8 0#8),(w8 0#8),(w8 0#8),(.int .i64 0),(.int .i64 0)] [(0,35,(.t 44))]⟩,
  ⟨none,(some 46),.app 35 56 (.t 36) (.t 45)⟩,
  ⟨none,(some 5),.mov (.t 46)⟩,
  ⟨none,none,.apart (.t 8) (.t 39)⟩,
  ⟨none,none,.apart (.t 8) (.t 42)⟩])
 .skip))))
 (.region false [⟨none,(some 18),.mov (.t 7)⟩,
  ⟨none,(some 19),.bin .add (.t 18) (.k (.int .i64 1))⟩,
  ⟨none,(some 7),.mov (.t 19)⟩])))
def zcq1 (x0 x3 x5 x6 x7:DV) (h:List AObj):St:=⟨[x0,.junk,.junk,x3,.junk,x5,x6,x7]++js 40,h⟩
def z1eu:ACode :=
 (.seq (.seq (.region false [⟨none,(some 9),.mov (.t 6)⟩,
  ⟨none,(some 10),.fld 0 (.t 3)⟩,
  ⟨none,(some 11),.load 1 false (.t 10)⟩,
  ⟨none,(some 12),.len (.t 11)⟩,
  ⟨none,(some 13),.bin .lss (.t 9) (.t 12)⟩])
 (.cond (.t 13) .skip
 (.exit 0)))
 (.seq (.block 1 (.seq (.region false [⟨none,(some 7),.mov (.k (.int .i64 1))⟩])
 (.block 2 (.loop zb4u))))
 (.region false [⟨none,(some 14),.mov (.t 6)⟩,
  ⟨none,(some 15),.bin .add (.t 14) (.k (.int .i64 1))⟩,
  ⟨none,(some 6),.mov (.t 15)⟩])))
def zuzy (x0 x3 x5 x6:DV) (h:List AObj):St:=⟨[x0,.junk,.junk,x3,.junk,x5,x6]++js 41,h⟩
def a40:AFn where
 code:=(.seq (.region false [⟨none,(some 3),.box (.t 1)⟩,
  ⟨none,(some 4),.mov (.k .nils)⟩])
 (.seq (.region false [⟨none,(some 5),.mov (.k .nils)⟩])
 (.seq (.seq (.region false [⟨none,(some 6),.mov (.k (.int .i64 0))⟩])
 (.block 0 (.loop z1eu)))
 (.seq (.region false [⟨none,(some 47),.mov (.t 5)⟩,
  ⟨none,(some 4),.mov (.t 47)⟩])
 .ret))))
 ntmps:=48
 res:=[.tmp 4]
theorem zt62:zsjc P Tryz.f40=some a40:=by kernel_rfl
def a12:AFn where
 code:=(.seq (.region false [⟨none,(some 2),.alloc [.nils,.nils,(.int .i64 0),(.int .i64 0),.nils,.nils,.nils,(.int .i64 0)]⟩,
  ⟨none,(some 3),.mov (.k .nilp)⟩])
 (.seq (.region false [⟨none,(some 6),.mov (.t 0)⟩,
  ⟨none,(some 7),.call (.k (.fn (.func 37) [] [])) [(.t 6),(.k (.int .i64 300))]⟩,
  ⟨none,(some 4),.mov (.t 7)⟩])
 (.seq (.region false [⟨none,(some 8),.mov (.t 4)⟩,
  ⟨none,(some 9),.call (.k (.fn (.func 38) [] [])) [(.t 8),(.k (.int .i64 8))]⟩,
  ⟨none,(some 10),.build [.nils,.nils,(.int .i64 0),(.int .i64 0),.nils,.nils,.nils,(.int .i64 0)] [(0,3,(.t 9))]⟩,
  ⟨none,(some 5),.alloc [.nils,.nils,(.int .i64 0),(.int .i64 0),.nils,.nils,.nils,(.int .i64 0)]⟩,
  ⟨none,none,.store 8 (.t 5) (.t 10)⟩])
 (.seq (.region false [⟨none,(some 11),.mov (.t 4)⟩,
  ⟨none,(some 12),.fld 0 (.t 5)⟩,
  ⟨none,(some 13),.load 3 true (.t 12)⟩,
  ⟨none,(some 14),.call (.k (.fn (.func 39) [] [])) [(.t 11),(.t 13)]⟩,
  ⟨none,(some 15),.fld 3 (.t 5)⟩,
  ⟨none,none,.store 2 (.t 15) (.t 14)⟩])
 (.seq (.region true [⟨none,(some 16),.mov (.t 4)⟩,
  ⟨none,(some 17),.fld 0 (.t 5)⟩,
  ⟨none,(some 18),.load 3 true (.t 17)⟩,
  ⟨none,(some 19),.callT (.k (.fn (.func 40) [] [])) [(.t 16),(.t 18)]⟩,
  ⟨none,(some 20),.mov (.t 4)⟩,
  ⟨none,(some 21),.fld 0 (.t 5)⟩,
  ⟨none,(some 22),.load 3 true (.t 21)⟩,
  ⟨none,(some 23),.callT (.k (.fn (.func 41) [] [])) [(.t 20),(.t 22)]⟩,
  ⟨none,(some 24),.mov (.t 4)⟩,
  ⟨none,(some 25),.callT (.k (.fn (.func 13) [] [])) [(.t 24),(.k (.int .i64 20))]⟩,
  ⟨none,(some 26),.bin .add (.k (.int .i64 30)) (.t 25)⟩,
  ⟨none,(some 27),.fld 5 (.t 5)⟩,
  ⟨none,none,.store 1 (.t 27) (.t 19)⟩,
  ⟨none,(some 28),.fld 6 (.t 5)⟩,
  ⟨none,none,.store 1 (.t 28) (.t 23)⟩,
  ⟨none,(some 29),.fld 7 (.t 5)⟩,
  ⟨none,none,.store 1 (.t 29) (.t 26)⟩,
  ⟨none,none,.apart (.t 5) (.t 16)⟩,
  ⟨none,none,.apart (.t 21) (.t 16)⟩,
  ⟨none,none,.apart (.t 5) (.t 20)⟩,
  ⟨none,none,.apart (.t 5) (.t 24)⟩])
 (.seq (.region false [⟨none,(some 30),.load 8 true (.t 5)⟩,
  ⟨none,(some 31),.mov (.t 4)⟩,
  ⟨none,none,.store 8 (.t 2) (.t 30)⟩,
  ⟨none,(some 3),.mov (.t 31)⟩])
 .ret))))))
 ntmps:=32
 res:=[.cell 2 8 true,.tmp 3]
theorem zqkh:zsjc P Tryz.f12=some a12:=by kernel_rfl
end
section
set_option linter.unusedSimpArgs false
set_option linter.unusedVariables false
open Go Go.Am
structure Cmd where
 kind:Int
 id:Int
 art:Dg
 deriving DecidableEq
structure Rnd where
 c:Clu
 o:List Cmd
def stI (t:Int) (x:Ins):Ins:=(x.st 3).si t
def z83c (l:List Ins) (id:Int):Dg:=match l.find? (fun x=>decide (x.id=id)) with
 | some x=>x.art
 | none=>dg0
open Classical in
noncomputable def zyao (t:Int) (s:Rnd) (id:Int):Rnd :=
 if (z5wo s.c id t 3).2=0 then ⟨(z5wo s.c id t 3).1,s.o++[⟨2,id,z83c s.c.i.l id⟩]⟩ else s
noncomputable def zepc (t:Int) (s:Rnd) (id:Int):Rnd:=⟨(zjqu s.c id t 3).1,s.o++[⟨2,id,z83c s.c.i.l id⟩]⟩
structure Vw (gs:List (List UInt8 × List UInt8 × Int × Int × Int × List Dg)) (s:Rnd) (l:List Ins) (n:Int) (o:List Cmd):Prop where
 v:ValidC s.c
 g:s.c.g.l.map gl=gs
 i:s.c.i.l=l
 n:s.c.next=n
 o:s.o=o
def mkS (t:Int) (V:List Int) (l:List Ins):List Ins:=l.map fun x=>if x.id ∈ V then stI t x else x
def zzoh (l:List Ins) (V:List Int):List Cmd:=V.map fun id=>⟨2,id,z83c l id⟩
theorem z4j6 (t:Int) (x:Ins):(stI t x).id=x.id:=rfl
theorem zzdy (t:Int) (x:Ins):(stI t x).grp=x.grp:=rfl
theorem zkj5 (t:Int) (x:Ins):(stI t x).art=x.art:=rfl
theorem zgls (t:Int) (x:Ins):(stI t x).state=3:=rfl
theorem zo9a {t:Int} {V:List Int} {l:List Ins}:(mkS t V l).length=l.length:=by simp [mkS]
theorem zw7f {t:Int} {l:List Ins}:mkS t [] l=l:=by simp [mkS]
theorem zg4k {l:List Ins}:l.Pairwise (fun x y=>x.id<y.id)↔(l.map Ins.id).Pairwise (· < ·):=by rw [List.pairwise_map]
theorem zmpd {l:List Ins} (hd:l.Pairwise (fun x y=>x.id<y.id)) {x:Ins} (hx:x ∈ l):z83c l x.id=x.art:=by
 unfold z83c; rw [zm2t hd hx]
theorem zq16 {t:Int} {V:List Int} {l:List Ins} {id:Int}:z83c (mkS t V l) id=z83c l id:=by
 unfold z83c mkS
 induction l with
 | nil=>rfl
 | cons a l ih =>
  rw [y0n,List.find?_cons,List.find?_cons]
  by_cases h:a.id=id
  ·by_cases hm:a.id ∈ V
   ·rw [if_pos hm]
    simp [z4j6,h,zkj5]
   ·rw [if_neg hm]; simp [h]
  ·have e1:decide ((if a.id ∈ V then stI t a else a).id=id)=false:=by split<;>simp [z4j6,h]
   rw [e1,decide_eq_false h]
   exact ih
theorem z74g {l:List Ins} (hd:l.Pairwise (fun x y=>x.id<y.id)) {i:Nat} (h:i<l.length) (t:Int):l.set i (stI t l[i])=mkS t [l[i].id] l:=by
 apply List.ext_getElem (by simp [mkS])
 intro j h1 h2
 rw [List.getElem_set]
 simp only [mkS,List.getElem_map,List.mem_singleton]
 have hj:j<l.length:=by simpa using h1
 by_cases e:i=j
 ·subst e; simp
 ·rw [if_neg e,if_neg]
  intro q
  have:=List.pairwise_iff_getElem.1 hd
  rcases Nat.lt_or_gt_of_ne e with c|c
  ·have:=this i j h hj c; omega
  ·have:=this j i hj h c; omega
theorem z6fc {t:Int} {a:Int} {V:List Int} {l:List Ins} (h:a ∉ V):mkS t V (mkS t [a] l)=mkS t (a::V) l:=by
 unfold mkS
 rw [List.map_map]
 refine y0p fun x _ => ?_
 simp only [Function.comp,List.mem_singleton,List.mem_cons]
 by_cases e:x.id=a
 ·simp [e,z4j6,h]
 ·simp [e]
theorem z3z1 {c:Clu} (hv:ValidC c) {t:Int} (ht:zcie t) {i:Nat} (hi:i<c.i.l.length) (hs:c.i.l[i].state≠3) :
  z5wo c c.i.l[i].id t 3=(⟨c.clone.g,own (c.i.l.set i (stI t c.i.l[i])),c.next⟩,0)∧zjqu c c.i.l[i].id t 3=(⟨c.g.copy,own (c.i.l.set i (stI t c.i.l[i])),c.next⟩,0):=by
 have hf:z092 c.i.l c.i.l[i].id=i:=zvud (zyak hv).d hi
 have hset:setI c.i.l i 3 t=c.i.l.set i (stI t c.i.l[i]):=by rw [z2jl hi]; rfl
 constructor
 ·unfold z5wo
  rw [if_neg (fun q=>q.elim (fun q=>q hv) (fun q=>q ht)),hf,if_neg (by omega),y09,y02 hi,if_pos (by simp [may,hs]),hset]
 ·unfold zjqu
  rw [if_neg (fun q=>q.elim (fun q=>q hv) (fun q=>q ht)),hf,if_neg (by omega),y09,y02 hi,if_pos (by simp [may,hs]),hset]
theorem zrl9 {n:Nat} {next t:Int} {x:Ins} (h:SoundI n next x) (ht:zcie t):SoundI n next (stI t x) :=
 ⟨h.id0,h.id1,h.g0,h.g1,h.art,by show (1:Int)≤3; decide,by show (3:Int)≤3; decide,ht,h.de⟩
theorem z4xv {c d:Clu} (hv:ValidC c) (hg:d.g.l.map gl=c.g.l.map gl) (hn:d.next=c.next) (hl:d.i.l.length=c.i.l.length) (h : ∀ i (h1:i<d.i.l.length) (h2:i<c.i.l.length),d.i.l[i].id=c.i.l[i].id∧SoundI c.g.l.length c.next d.i.l[i]):ValidC d:=by
 have hgl:d.g.l.length=c.g.l.length:=by have:=congrArg List.length hg; simpa using this
 have hge : ∀ i (h1:i<d.g.l.length) (h2:i<c.g.l.length),gl d.g.l[i]=gl c.g.l[i]:=fun i h1 h2=>by
  have:=y0d hg (i:=i) (by simpa using h1)
  simpa using this
 have hval : ∀ {a b:Grp},gl a=gl b→ValidG b→ValidG a:=fun {a b} e v=>by
  simp only [gl,Prod.mk.injEq] at e
  obtain ⟨e1,e2,e3,e4,e5,e6⟩:=e
  exact ⟨by rw [e1]; exact v.ns,by rw [e2]; exact v.im,by rw [e3]; exact v.w0,by rw [e3]; exact v.w1,by rw [e4]; exact v.l0,by rw [e4,e3]; exact v.l1,by rw [e5]; exact v.d0,by rw [e5,e3]; exact v.d1,by rw [e6]; exact v.n,by rw [e6]; exact v.ch⟩
 have hnm : ∀ ns im,z9w0 d.g.l ns im=z9w0 c.g.l ns im:=fun ns im=>zaam hgl (fun i h1 h2=>by
  have:=hge i h1 h2
  simp only [gl,Prod.mk.injEq] at this
  exact ⟨this.1,this.2.1⟩) ns im
 refine ⟨by rw [hgl]; exact hv.ng,by rw [hl]; exact hv.ni,by rw [hn]; exact hv.n0,by rw [hn]; exact hv.n1,fun i hi => ?_,fun i hi => ?_⟩
 ·obtain ⟨q1,q2⟩:=hv.g i (by omega)
  have e:=hge i hi (by omega)
  refine ⟨hval e q1,?_⟩
  have e':=e
  simp only [gl,Prod.mk.injEq] at e'
  rw [e'.1,e'.2.1,hnm]; exact q2
 ·obtain ⟨a1,a2⟩:=h i hi (by omega)
  rw [hgl,hn]
  refine ⟨a2,fun h0 => ?_⟩
  obtain ⟨b1,_⟩:=h (i-1) (by omega) (by omega)
  rw [a1,b1]
  exact (hv.i i (by omega)).2 h0
section
variable {gs:List (List UInt8 × List UInt8 × Int × Int × Int × List Dg)} {s:Rnd} {l:List Ins} {n:Int} {o:List Cmd} {t:Int}
theorem z1s1 (h:Vw gs s l n o) (ht:zcie t) {x:Ins} (hx:x ∈ l) (hs:x.state≠3) :
  Vw gs (zyao t s x.id) (mkS t [x.id] l) n (o++zzoh l [x.id])∧Vw gs (zepc t s x.id) (mkS t [x.id] l) n (o++zzoh l [x.id]):=by
 obtain ⟨i,hi,rfl⟩:=y05 hx
 obtain ⟨hv,hg,hl,hn,ho⟩:=h
 subst hl
 have hd:=(zyak hv).d
 obtain ⟨e1,e2⟩:=z3z1 hv ht hi hs
 have hb:(s.c.i.l.set i (stI t s.c.i.l[i])).length≤4294967296:=by rw [y01]; exact s.c.i.b
 have hol:=z3e9 hb
 have hsm:=z74g hd hi t
 have key : ∀ G:Sl Grp,G.l.map gl=s.c.g.l.map gl→ValidC ⟨G,own (s.c.i.l.set i (stI t s.c.i.l[i])),s.c.next⟩:=fun G hG=>by
  refine z4xv hv hG rfl (by show (own _).l.length=_; rw [hol,y01]) fun j h1 h2 => ?_
  have e:(own (s.c.i.l.set i (stI t s.c.i.l[i]))).l[j]=(s.c.i.l.set i (stI t s.c.i.l[i]))[j]'(by rw [y01]; exact h2):=y0d hol h1
  show (own (s.c.i.l.set i (stI t s.c.i.l[i]))).l[j].id=_∧_
  rw [e,List.getElem_set]
  split
  ·rename_i q; subst q
   exact ⟨rfl,zrl9 (hv.i i h2).1 ht⟩
  ·exact ⟨rfl,(hv.i j h2).1⟩
 have hc:s.c.clone.g.l.map gl=s.c.g.l.map gl:=by
  show (s.c.g.l.map Grp.clone).map gl=_
  exact z9hp _
 constructor
 ·unfold zyao
  rw [e1,if_pos rfl]
  exact ⟨key _ hc,by rw [← hg]; exact hc,by show (own _).l=_; rw [hol,hsm],hn,by rw [ho]; rfl⟩
 ·unfold zepc
  rw [e2]
  exact ⟨key _ rfl,hg,by show (own _).l=_; rw [hol,hsm],hn,by rw [ho]; rfl⟩
theorem zlsc {V W:List Int}:zzoh (mkS t W l) V=zzoh l V:=by
 unfold zzoh
 refine y0p fun id _ => ?_
 rw [zq16]
theorem z40n (ht:zcie t) : ∀ {V:List Int} {s s':Rnd} {l:List Ins} {o:List Cmd},Vw gs s l n o→Vw gs s' l n o→V.Nodup→(∀ id ∈ V,∃ x ∈ l,x.id=id∧x.state≠3) →
  Vw gs (V.foldl (zyao t) s) (mkS t V l) n (o++zzoh l V)∧Vw gs (V.foldl (zepc t) s') (mkS t V l) n (o++zzoh l V)
 | [],s,s',l,o,h,h',_,_=>by
  have e:o++zzoh l []=o:=by simp [zzoh]
  rw [zw7f,e]; exact ⟨h,h'⟩
 | a::V,s,s',l,o,h,h',hn,hV=>by
  obtain ⟨x,hx,rfl,hs⟩:=hV a (by simp)
  rw [List.nodup_cons] at hn
  have a1:=(z1s1 h ht hx hs).1
  have a2:=(z1s1 h' ht hx hs).2
  have ih:=z40n ht a1 a2 hn.2 (fun id hid=>by
   obtain ⟨y,hy,e,hys⟩:=hV id (by simp [hid])
   have hne:y.id≠x.id:=fun q=>hn.1 (by rw [← q,e]; exact hid)
   refine ⟨y,y0q.2 ⟨y,hy,by simp [hne]⟩,e,hys⟩)
  rw [z6fc hn.1,zlsc,List.append_assoc] at ih
  exact ih
theorem zd62 (h:Vw gs s l n o) (ht:zcie t) {k:Nat} (hk:k<gs.length) {d:Dg} (hd:d≠dg0) (hl:l.length<200) (hn:n<1099511627776) :
  z4wu s.c k d t=((z4wu s.c k d t).1,n,0)∧z6qh s.c k d t=((z6qh s.c k d t).1,n,0) ∧
  (∀ o',Vw gs ⟨(z4wu s.c k d t).1,o'⟩ (l++[⟨n,k,d,1,t,-1⟩]) (n+1) o')∧(∀ o',Vw gs ⟨(z6qh s.c k d t).1,o'⟩ (l++[⟨n,k,d,1,t,-1⟩]) (n+1) o'):=by
 obtain ⟨hv,hg,hl',hn',ho⟩:=h
 subst hl' hn'
 have hgl:gs.length=s.c.g.l.length:=by rw [← hg]; simp
 have c1:¬ (¬ ValidC s.c∨d=dg0∨¬ zcie t):=fun q=>q.elim (fun q=>q hv) (fun q=>q.elim (fun q=>hd q) (fun q=>q ht))
 have c2:¬ ((k:Int)<0∨(s.c.g.l.length:Int)≤k):=by omega
 have c3:¬ (200≤s.c.i.l.length∨1099511627776≤s.c.next):=by omega
 have e1:z4wu s.c k d t=(⟨s.c.clone.g,own (s.c.i.l++[newI s.c k d t]),s.c.next+1⟩,s.c.next,0):=by rw [z4wu,if_neg c1,if_neg c2,if_neg c3]
 have e2:z6qh s.c k d t=(⟨s.c.g.copy,own (s.c.i.l++[newI s.c k d t]),s.c.next+1⟩,s.c.next,0):=by rw [z6qh,if_neg c1,if_neg c2,if_neg c3]
 have hb:(s.c.i.l++[newI s.c k d t]).length≤4294967296:=by simp; omega
 have hol:=z3e9 hb
 have hc:s.c.clone.g.l.map gl=s.c.g.l.map gl:=by
  show (s.c.g.l.map Grp.clone).map gl=_
  exact z9hp _
 have hclone:=z4xv (d:=⟨s.c.clone.g,s.c.i,s.c.next⟩) hv hc rfl rfl (fun i h1 h2=>⟨rfl,(hv.i i h2).1⟩)
 have key : ∀ G:Sl Grp,ValidC ⟨G,s.c.i,s.c.next⟩→G.l.length=s.c.g.l.length→ValidC ⟨G,own (s.c.i.l++[newI s.c k d t]),s.c.next+1⟩:=fun G hG hGl=>by
  refine ⟨hG.ng,by show (own _).l.length≤_; rw [hol]; simp; omega,by have:=hv.n0; show (1:Int)≤s.c.next+1; omega,by show s.c.next+1≤_; omega,hG.g,fun i hi => ?_⟩
  have hi':i<(s.c.i.l++[newI s.c k d t]).length:=by
   have:i<(own (s.c.i.l++[newI s.c k d t])).l.length:=hi
   rwa [hol] at this
  have e : ∀ j (h1:j<(own (s.c.i.l++[newI s.c k d t])).l.length) (h2:j<(s.c.i.l++[newI s.c k d t]).length),(own (s.c.i.l++[newI s.c k d t])).l[j]=(s.c.i.l++[newI s.c k d t])[j]:=fun j h1 h2=>y0d hol h1
  have hlen:(s.c.i.l++[newI s.c k d t]).length=s.c.i.l.length+1:=by simp
  show SoundI G.l.length (s.c.next+1) (own (s.c.i.l++[newI s.c k d t])).l[i] ∧ ∀ h0:0<i,(own (s.c.i.l++[newI s.c k d t])).l[i-1].id<(own (s.c.i.l++[newI s.c k d t])).l[i].id
  have hll:(own (s.c.i.l++[newI s.c k d t])).l.length=s.c.i.l.length+1:=by rw [hol,hlen]
  rw [e i hi hi']
  by_cases q:i<s.c.i.l.length
  ·rw [y08 q]
   obtain ⟨a1,a2⟩:=hv.i i q
   refine ⟨⟨a1.id0,by have:=a1.id1; omega,a1.g0,by rw [hGl]; exact a1.g1,a1.art,a1.s0,a1.s1,a1.si,a1.de⟩,fun h0 => ?_⟩
   rw [e (i-1) (by rw [hll]; omega) (by omega),y08 (by omega)]
   exact a2 h0
  ·have hii:i=s.c.i.l.length:=by omega
   subst hii
   rw [List.getElem_append_right (y0c _)]
   simp only [Nat.sub_self,List.getElem_cons_zero]
   refine ⟨⟨hv.n0,by show s.c.next<s.c.next+1; omega,by show (0:Int)≤k; omega,by show (k:Int)<G.l.length; omega,hd,by show (1:Int)≤1; decide,by show (1:Int)≤3; decide,ht,.inl rfl⟩,fun h0 => ?_⟩
   rw [e _ (by rw [hll]; omega) (by omega),y08 (by omega)]
   exact (hv.i _ (by omega)).1.id1
 have hcl:s.c.clone.g.l.length=s.c.g.l.length:=by show (s.c.g.l.map Grp.clone).length=_; simp
 refine ⟨by rw [e1],by rw [e2],fun o' => ?_,fun o' => ?_⟩
 ·rw [e1]
  exact ⟨key _ hclone hcl,by show s.c.clone.g.l.map gl=gs; rw [hc]; exact hg,by show (own _).l=_; rw [hol]; rfl,rfl,rfl⟩
 ·rw [e2]
  exact ⟨key _ (z4xv (d:=⟨s.c.g.copy,s.c.i,s.c.next⟩) hv rfl rfl rfl fun i h1 h2=>⟨rfl,(hv.i i h2).1⟩) rfl,hg,by show (own _).l=_; rw [hol]; rfl,rfl,rfl⟩
end
end
section
set_option linter.unusedSimpArgs false
set_option linter.unusedVariables false
set_option maxRecDepth 4000
open Go Go.Am
def zscv (c:Clu) (oi:List AObj) (i:Nat):St:=zv4w (.mp 0 3 0) (.mp 1 3 0) (.int .i64 c.g.l.length) (.int .i64 i) (.cells [mutD 2 6 c.g grC,I3 c,.int .i64 c.next] :: .cells [.nils,.nils,.int .i64 0] :: .cells ((gsi c.g.l i).flatMap grC)::oi)
def zznu (c:Clu):St:=zv4w (.mp 0 3 0) (.mp 1 3 0) (.int .i64 c.g.clone.l.length) (.int .i64 0) (.cells [c.g.clone.dv 6 grC,mutD 2 37 c.i inC,.int .i64 c.next] :: .cells [.nils,.nils,.int .i64 0]::mutO c.i inC)
theorem z7a8 (c:Clu):RunsH T110 a52 [.agg (clC c)] [] (zpsa c) (zvu3 c):=by
 refine ⟨?_⟩
 have hbg:=c.g.b
 by_cases hg:c.g.l=[]
 ·have e1:=zpj6 (id:=2) (s:=6) (f:=grC) hg
  have e2:=z4ry (f:=grC) hg
  have e3:=zpj6 (id:=2) (s:=6) (f:=grC) (zv4y hg)
  have e4:=z4ry (f:=grC) (zv4y hg)
  have e5:=zh8h hg
  have e6:c.g.clone.l.length=0:=by rw [show c.g.clone.l=c.g.l from rfl,hg]; rfl
  simp (disch:=first|omega|simp<;>omega|fail) [-zA,-zB,-zC,-zD,-zE,a52,zunk,z1hi,zm2v,zrvm,clC,e1,e2,zbcp]
  refine zlm5 (fun _:Nat=>zznu c) (fun _=>0) (fun _=>True) 0 (z515 (by simp (disch:=first|omega|simp<;>omega|fail) [-zA,-zB,-zC,-zD,-zE,zznu]) (by simp (disch:=first|omega|simp<;>omega|fail) [-zA,-zB,-zC,-zD,-zE,zznu])) trivial (fun _ _ => ?_)
  simp (disch:=first|omega|simp<;>omega|fail) [-zA,-zB,-zC,-zD,-zE,z5oa,zv4w,zznu,e6,zpsa,zvu3,I3,e2,e3,e4,e5]
 ·have e1:=z2ra (id:=2) (s:=6) (f:=grC) hg
  have e2:=z895 (f:=grC) hg
  have e3:=z2ra (id:=2) (s:=6) (f:=grC) (zkrv hg)
  have e4:=z895 (f:=grC) (zkrv hg)
  have h1:=z1rq zry4 c.g.l
  simp (disch:=first|omega|simp<;>omega|fail) [-zA,-zB,-zC,-zD,-zE,a52,zunk,z1hi,zm2v,zrvm,clC,e1,e2,h1,zbcp]
  refine zlm5 (zscv c (mutO c.i inC)) (fun i=>c.g.l.length-i) (fun i=>i≤c.g.l.length) 0 (z515 (by simp (disch:=first|omega|simp<;>omega|fail) [-zA,-zB,-zC,-zD,-zE,I3,e1,e2]) (by simp (disch:=first|omega|simp<;>omega|fail) [-zA,-zB,-zC,-zD,-zE,z7fj,I3,e1,e2])) (by omega) (fun i hi => ?_)
  have h2:=z1rq zry4 (gsi c.g.l i)
  have h3:=zirn (l:=c.g.l) (i:=i)
  rw [h3] at h2
  simp (disch:=first|omega|simp<;>omega|fail) [-zA,-zB,-zC,-zD,-zE,z5oa,zv4w,zscv,e1]
  by_cases h:i<c.g.l.length
  ·have h':(i:Int)<c.g.l.length:=by omega
   have hi2:i<(gsi c.g.l i).length:=by omega
   have h5:i*6+5<c.g.l.length*6:=by omega
   have hc:=zfof hi2
   rw [zlpw h hi2] at hc
   have hs:=ztq3 hi2 (y:=c.g.l[i].ch.clone)
   rw [zlpw h hi2,show c.g.l[i].withCh c.g.l[i].ch.clone=c.g.l[i].clone from rfl,zhwq h] at hs
   simp (disch:=first|omega|simp<;>omega|fail) [-zA,-zB,-zC,-zD,-zE,h',h,h2,hc,zvdg,zgv2,zbcp,h5,hs]
   exact ⟨i+1,z515 (by simp (disch:=first|omega|simp<;>omega|fail) [-zA,-zB,-zC,-zD,-zE,e1]) (by simp (disch:=first|omega|simp<;>omega|fail) [-zA,-zB,-zC,-zD,-zE,e1]),by omega,by omega⟩
  ·have h':¬ (i:Int)<c.g.l.length:=by omega
   have ha:=zxdi (l:=c.g.l) (i:=i) (by omega)
   simp (disch:=first|omega|simp<;>omega|fail) [-zA,-zB,-zC,-zD,-zE,h,h',ha,zpsa,zvu3,I3,e2,e3,e4,zbo5]
end
section
set_option linter.unusedSimpArgs false
set_option linter.unusedVariables false
open Go Go.Am
theorem z7g3 (s:Int):Runs tbl0 a110 [.int .i64 s] (.bool (decide (s≠3))):=by
 refine ⟨?_⟩
 simp (disch:=first|omega|simp<;>omega|fail) [-zA,-zB,-zC,-zD,-zE,a110]
def cIbs (g:Int→Bool):List DV→Option DV
 | [.int .i64 s]=>some (.bool (g s))|_=>none
theorem zsye {g:Int→Bool} {s:Int}:cIbs g [.int .i64 s]=some (.bool (g s)):=rfl
theorem zrcw {f:Nat} {g:Int→Bool} (h : ∀ s,Am.Sem P f [.int .i64 s] (.bool (g s))):(Con.pure (cIbs g)).Sound P f:=by
 intro args v e
 unfold cIbs at e
 split at e
 ·simp at e; subst e; exact h _
 ·simp at e
noncomputable def z6i5:Tbl:=addT 110 (.pure (cIbs fun s=>decide (s≠3))) T112
theorem zuap:z6i5 110 = .pure (cIbs fun s=>decide (s≠3)):=by simp [z6i5]
theorem zpdn:z6i5 129 = .pure (cC1 zwdn):=by simp [z6i5,T112]
theorem zzhw:z6i5 131 = .new cNC:=by simp [z6i5,T112]
theorem zp4z:z6i5 130 = .pure cTm:=by simp [z6i5,T112]
theorem zvk3:z6i5 82 = .pure (cCi fun c i => .int .i64 (z092 c.i.l i)):=by simp [z6i5,T112]
theorem z6cp:z6i5.Sound P:=z0rp (zrcw fun s=>zljw mix zr5o Tryz.func110 z7w3 (z7g3 s)) zw51
noncomputable def znop (c:Clu) (id t to:Int):DV := .tup [.agg (clC (z5wo c id t to).1),.int .i64 (z5wo c id t to).2]
theorem zlnv {c:Clu} (hv:ValidC c) {k:Nat} (hk:k<c.i.l.length):c.g.l≠[]:=by
 intro e
 have h1:=(hv.i k hk).1.g0
 have h2:=(hv.i k hk).1.g1
 rw [e] at h2; simp at h2; omega
theorem ztam (c:Clu) (id t:Int):Runs z6i5 a109 [.agg (clC c),.int .i64 id,.int .i64 t,.int .i64 3,.fn (.func 110) [] []] (znop c id t 3):=by
 refine ⟨?_⟩
 by_cases hv:ValidC c
 case neg =>
  have hd:z5wo c id t 3=(clu0,1):=by rw [z5wo,if_pos (.inl hv)]
  simp (disch:=first|omega|simp<;>omega|fail) [-zA,-zB,-zC,-zD,-zE,a109,zpdn,zf0o,zwdn,zp4z,zixp,zvk3,z3mn,znop,zewf hv,hd,z3cj]
 by_cases ht:zcie t
 case neg =>
  have hd:z5wo c id t 3=(clu0,1):=by rw [z5wo,if_pos (.inr ht)]
  simp (disch:=first|omega|simp<;>omega|fail) [-zA,-zB,-zC,-zD,-zE,a109,zpdn,zf0o,zwdn,zp4z,zixp,zvk3,z3mn,znop,zogs hv,zewf ht,hd,z3cj]
 have hnn:¬ (¬ ValidC c∨¬ zcie t):=fun h=>h.elim (fun h=>h hv) (fun h=>h ht)
 by_cases hx:z092 c.i.l id<0
 ·have hd:z5wo c id t 3=(clu0,4):=by rw [z5wo,if_neg hnn,if_pos hx]
  simp (disch:=first|omega|simp<;>omega|fail) [-zA,-zB,-zC,-zD,-zE,a109,zpdn,zf0o,zwdn,zp4z,zixp,zvk3,z3mn,znop,zogs hv,zogs ht,hx,hd,z3cj]
 obtain ⟨k,hk,hke,_,_⟩:=ziel (show 0≤z092 c.i.l id by omega)
 have hke:z092 c.i.l id=k:=hke
 have hx':¬ (k:Int)<0:=by omega
 have hk':(k:Int)<c.i.l.length:=by omega
 obtain ⟨x,hxe⟩ : ∃ x,c.i.l[k]=x:=⟨_,rfl⟩
 have hgx : ∀ H,zpsc H 37 (c.i.dv 37 inC) k=some (.ref (inC x)):=fun H=>by rw [zalo z6gw hk,hxe]
 have hopt:c.i.l[k]? = some x:=by rw [y02 hk,hxe]
 by_cases hm:x.state≠3
 case neg =>
  have hd:z5wo c id t 3=(clu0,30):=by rw [z5wo,if_neg hnn,if_neg hx,hke]; simp [hopt,may]; simpa using hm
  have hm':x.state=3:=by simpa using hm
  simp (disch:=first|omega|simp<;>omega|fail) [-zA,-zB,-zC,-zD,-zE,a109,zpdn,zf0o,zwdn,zp4z,zixp,zvk3,z3mn,znop,zogs hv,zogs ht,hke,hx',hk',hk,hgx,zuap,zsye,hm',hd,z3cj]
 have hd:z5wo c id t 3=(⟨c.clone.g,own (c.i.l.set k ((x.st 3).si t)),c.next⟩,0):=by
  rw [z5wo,if_neg hnn,if_neg hx,hke,if_pos (by simp [hopt,may]; simpa using hm)]
  simp only [y09,setI,hopt]
 have hm':¬ x.state=3:=by simpa using hm
 have ho:=zqrs (l:=c.i.l.set k ((x.st 3).si t)) (s:=37) (f:=inC) (by rw [y01]; exact c.i.b)
 have ha : ∀ l:List Grp,(l.flatMap grC).length=l.length*6:=z1rq zry4
 have hb : ∀ l:List Ins,(l.flatMap inC).length=l.length*37:=z1rq z6gw
 have hg:=zlnv hv hk
 have hi:c.i.l≠[]:=by intro e; rw [e] at hk; simp at hk
 have e2:=z895 (f:=grC) hg
 have e3:=z2ra (id:=4) (s:=6) (f:=grC) (zkrv hg)
 have e4:=z895 (f:=grC) (zkrv hg)
 have e6:=zpgv hg
 have e7:=zq57 (l:=c.g.l.map Grp.clone) (n:=c.g.l.length) (by simp)
 have f1:=z2ra (id:=5) (s:=37) (f:=inC) hi
 have f2:=z895 (f:=inC) hi
 have s1 : ∀ H id,zy6o H id 1 (k*37+34) (.int .i64 3) (some (c.i.l.flatMap inC))=some (.junk,H.set id (.cells ((c.i.l.set k (x.st 3)).flatMap inC))):=fun H id=>by rw [zajs hk,hxe]
 have s2 : ∀ H id,zy6o H id 1 (k*37+35) (.int .i64 t) (some ((c.i.l.set k (x.st 3)).flatMap inC))=some (.junk,H.set id (.cells ((c.i.l.set k ((x.st 3).si t)).flatMap inC))):=fun H id=>by
  rw [zjzz (by rw [y01]; exact hk),y0m,List.set_set]
 have e8:=z5fn (l:=c.i.l.set k ((x.st 3).si t)) (n:=c.i.l.length) (by rw [y01]; exact y0c _)
 simp (disch:=first|omega|simp<;>omega|fail) [-zA,-zB,-zC,-zD,-zE,a109,zpdn,zf0o,zwdn,zp4z,zixp,zvk3,z3mn,znop,zogs hv,zogs ht,hke,hx',hk',hk,hgx,zuap,zsye,hm',zzhw,z1a8,clW,e2,e3,e4,e6,e7,e8,f1,f2,ha,hb,zbo5,zbcp,s1,s2,hd,zdhs,ho]
noncomputable def z9ju (M:Nat) (to:Int):List DV→Option DV:=con (fun _=>True) (fun p:Clu × Int × Int=>[.agg (clC p.1),.int .i64 p.2.1,.int .i64 p.2.2,.int .i64 to,.fn (.func M) [] []]) (fun p=>znop p.1 p.2.1 p.2.2 to)
theorem z44l {M:Nat} {to:Int} {c:Clu} {id t:Int}:z9ju M to [.agg (clC c),.int .i64 id,.int .i64 t,.int .i64 to,.fn (.func M) [] []]=some (znop c id t to) :=
 zsn4 (f:=fun p:Clu × Int × Int=>[.agg (clC p.1),.int .i64 p.2.1,.int .i64 p.2.2,.int .i64 to,.fn (.func M) [] []]) (by
  rintro ⟨a,b,c⟩ ⟨a',b',c'⟩ e
  simp only [List.cons.injEq,DV.agg.injEq,DV.int.injEq,and_true,true_and] at e
  rw [zh7t e.1,e.2.1,e.2.2]) (c,id,t)
noncomputable def zev7:Tbl:=addT 109 (.pure (z9ju 110 3)) tbl0
theorem zngr:zev7 109 = .pure (z9ju 110 3):=by simp [zev7]
theorem zobd:zev7.Sound P:=z0rp (z2au fun p _=>zljw mix z6cp Tryz.func109 zoj0 (ztam p.1 p.2.1 p.2.2)) zr5o
theorem zj99 (c:Clu) (id t:Int):Runs zev7 a83 [.agg (clC c),.int .i64 id,.int .i64 t] (znop c id t 3):=by
 refine ⟨?_⟩
 simp (disch:=first|omega|simp<;>omega|fail) [-zA,-zB,-zC,-zD,-zE,a83,zngr,z44l,znop]
end
section
set_option linter.unusedSimpArgs false
set_option linter.unusedVariables false
set_option maxRecDepth 8000
open Go Go.Am
theorem zxl1 {α:Type} {f:α→List DV} {s id:Nat} {x:Sl α} {H:List AObj} (hu : ∀ a,(f a).length=s) (hp : ∀ a,zbao (f a)=true) (ho:x.l≠[]→objV H id (x.l.length*s)=some (x.l.flatMap f)):snap H 3 (mutD id s x f)=some (x.clone.dv s f):=by
 by_cases h:x.l=[]
 ·rw [zpj6 h]; exact z6nl (zxxb hp _)
 ·have hl:=z1rq hu x.l
  have ht:(x.l.flatMap f).take (x.l.length*s)=x.l.flatMap f:=y03 (by omega)
  rw [z2ra h,zve7,ho h,y0f,y0l,ht,z619 (zp6k hp _)]
  simp [Sl.clone,Sl.dv,slD,h]
theorem z2hc (c:Clu):Am.Sem P 52 [.agg (clC c)] (.agg (clC c.clone)) :=
 zzfj ((zv22 mix z5g0 Tryz.func52 zil0 (z7a8 c)).mono fun d h' e=>by
  obtain ⟨rfl,rfl⟩:=e
  have hg:snap (zvu3 c) 3 (mutD 2 6 c.clone.g grC)=some (c.clone.g.clone.dv 6 grC):=zxl1 zry4 zxeb fun h=>by
   unfold zvu3
   rw [z895 h]
   show (if (c.clone.g.l.flatMap grC).length=c.clone.g.l.length*6 then some (c.clone.g.l.flatMap grC) else none)=_
   rw [if_pos (z1rq zry4 _)]
  have hi:snap (zvu3 c) 3 (I3 c)=some (c.i.clone.dv 37 inC):=zxl1 z6gw z9kv fun h=>by
   unfold zvu3
   rw [z895 h]
   by_cases q:c.clone.g.l=[]
   ·have q':c.g.l=[]:=by simpa [zbo5] using q
    rw [z4ry q,z4ry q']
    show (if (c.i.l.flatMap inC).length=c.i.l.length*37 then some (c.i.l.flatMap inC) else none)=_
    rw [if_pos (z1rq z6gw _)]
   ·have q':c.g.l≠[]:=by simpa [zbo5] using q
    rw [z895 q,z895 q']
    show (if (c.i.l.flatMap inC).length=c.i.l.length*37 then some (c.i.l.flatMap inC) else none)=_
    rw [if_pos (z1rq z6gw _)]
  have hgk:c.clone.g.clone.dv 6 grC=c.clone.g.dv 6 grC:=by
   have e:c.clone.g.k=c.g.clone.k:=rfl
   obtain ⟨⟨k,l,h,b⟩,i,n⟩:=c
   cases l with
   | nil=>cases k<;>simp [Clu.clone,Sl.clone,Sl.dv]
   | cons a l=>simp [Clu.clone,Sl.clone,Sl.dv]
  unfold zpsa
  rw [zqb3,zrz6,hg,zrz6,hi,zrz6,zdef,zfu7,hgk]
  rfl)
noncomputable def cEvc:List DV→Option DV:=con (fun _=>True) (fun c:Clu=>[.agg (clC c)]) (fun c => .agg (clC c.clone))
theorem zewe {c:Clu}:cEvc [.agg (clC c)]=some (.agg (clC c.clone)):=zsn4 (f:=fun c:Clu=>[.agg (clC c)]) (g:=fun c => .agg (clC c.clone)) (fun a b e=>by
 simp only [List.cons.injEq,DV.agg.injEq,and_true] at e
 exact zh7t e) c
theorem znvc:(Con.pure cEvc).Sound P 52:=z2au fun c _=>z2hc c
end
end Go.Proofs.YtaihpefemjlilaaGreatDoor
