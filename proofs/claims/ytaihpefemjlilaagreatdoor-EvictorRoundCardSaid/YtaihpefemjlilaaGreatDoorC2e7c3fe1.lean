import Derived.Lib.AppendZeros
import Derived.WalkKit
import Derived.Test.YtaihpefemjlilaaGreatDoorC4bb2b95d
import Derived.Test.YtaihpefemjlilaaGreatDoorC1b265590
import Derived.Test.YtaihpefemjlilaaGreatDoorC2ceefa77
import Derived.Test.YtaihpefemjlilaaGreatDoorC3c839cb1
import Derived.Test.YtaihpefemjlilaaGreatDoorCd734b161
import Derived.Test.YtaihpefemjlilaaGreatDoorCb3c5e46e
set_option linter.unusedSimpArgs false
set_option linter.unusedVariables false
set_option maxRecDepth 20000
set_option maxHeartbeats 4000000
open List renaming map_take → zA, map_drop → zB, map_set → zC, map_append → zD, drop_one → zE
open Int renaming toNat_natCast → y0n
open List renaming take_of_length_le → y00, length_append → y01, eq_nil_of_length_eq_zero → y02, take_succ_eq_append_getElem → y03, map_append → y04, length_filter_le → y05, length_map → y06, getElem?_eq_getElem → y07, append_assoc → y08, append_nil → y0a, getElem_of_mem → y0c, length_set → y0d, nil_append → y0e, length_nil → y0f, drop_zero → y0g, length_cons → y0i, length_reverse → y0k, getElem?_eq_some_iff → y0l, getElem?_append_left → y0m, map_cons → y0p, flatMap_cons → y0q, getElem_mem → y0s, filter_eq_nil_iff → y0t, getElem?_eq_none → y0u, take_append_drop → y0v, replicate_succ → y0w
open Nat renaming zero_le → y09, le_trans → y0h, le_refl → y0j, zero_add → y0o, mul_one → y0x
open Option renaming map_some → y0b, bind_some → y0r
namespace Go.Proofs.YtaihpefemjlilaaGreatDoor
open Go Go.Am
open Option renaming none → yg, some → yh
open AOp renaming mov → qA, pick → qB, bin → qC, eqa → qD, eqb → qE, eqn → qF, un → qG, load → qH, store → qI, idxS → qJ, idxA → qK, fld → qL, getf → qM, idxV → qN, idxStr → qO, slcS → qP, slcStr → qQ, alloc → qR, box → qS, build → qT, bsl → qU, len → qV, lenStr → qW, app → qX, cpy → qY, apart → qZ, nilc → qd, ext → qe, call → qf, callN → qg, callT → qh, mm → qi
open ACode renaming skip → qj, region → qk, seq → ql, cond → qm, block → qn, loop → qo, exit → qp, ret → qq
@[simp] def yz60:List DV:=[(.int .i64 0),(.int .i64 0),(w8 0#8),(w8 0#8),(w8 0#8),(w8 0#8),(w8 0#8),(w8 0#8),(w8 0#8),(w8 0#8),(w8 0#8),(w8 0#8),(w8 0#8),(w8 0#8),(w8 0#8),(w8 0#8),(w8 0#8),(w8 0#8),(w8 0#8),(w8 0#8),(w8 0#8),(w8 0#8),(w8 0#8),(w8 0#8),(w8 0#8),(w8 0#8),(w8 0#8),(w8 0#8),(w8 0#8),(w8 0#8),(w8 0#8),(w8 0#8),(w8 0#8),(w8 0#8),(.int .i64 0),(.int .i64 0),(.int .i64 0)]
section
open Go Go.RowKit Go.Am
theorem zupw:(P.info? 3).map (fun i=>(i.zero,i.size,i.bytes))=some (some (.int .i64 0),1,8):=by kernel_rfl
set_option maxRecDepth 100000 in
theorem z4t9 (w:World):Calls Tryz.prog 136 #[.slice none 0 0,.int .i64 0] w fun e w'=>e = .returned (.slice none 0 0)∧w'=w:=by
 go_enter Tryz.func136,Tryz.ntmps136
 go_wp2
 go_ret
 exact ⟨rfl,rfl⟩
set_option maxRecDepth 100000 in
theorem zv1e (n:Nat) (w:World) (hn:1≤n) (hb:n≤1000000):Calls Tryz.prog 136 #[.slice none 0 0,.int .i64 n] w fun e w' =>
  ∃ cap,n≤cap∧e = .returned (.slice (some ⟨w.heap.size,0,none⟩) 0 cap)∧w'=w.drew.alloc (.cells (Builtin.zeroCells (Value.int .i64 0).cells n++Builtin.zeroCells (Value.int .i64 0).cells (cap-n)) 3):=by
 obtain ⟨h,f,c,g,d⟩:=info_parts zupw;have a:=Lib.run_append_nil_zeros (P:=P) w 22 3 22 3 h (.int .i64 0) .i64 .i64 Tryz.underlying22 Tryz.underlying3 f c n (by omega) (by omega) (by omega) (by rw [d]; omega)
 generalize hcap:grownCap w n 0 3=cap2 at a
 have b:n≤cap2:=by rw [← hcap]; exact grownCap_ge w _ 0 3
 generalize hZ:(Builtin.zeroCells (Value.int .i64 0).cells n++Builtin.zeroCells (Value.int .i64 0).cells (cap2-n))=Z at a
 go_enter Tryz.func136,Tryz.ntmps136
 go_wp2_with (at_builtin; refine Lib.wpList_append_run _ rfl _ _ _ _ rfl _ _ rfl rfl _ _ a ?_)
 go_wp2
 go_ret
 exact ⟨cap2,b,rfl,by rw [hZ]; rfl⟩
def z8h2 (p n:Nat):DV:=if n=0 then .nils else .ms p n 0 1 0 n
def zuiy (n:Nat):List AObj:=if n=0 then [] else [.cells (reps n [.int .i64 0])]
theorem zfbw (n:Nat):(reps n [DV.int .i64 0]).length=n:=by
 induction n with
 | zero=>rfl
 | succ n ih=>simp only [reps,y01,ih]; simp; try omega
theorem z58y (n:Nat) (hb:n≤1000000):zwy1 P 136 [.nils,.int .i64 n] [] (fun d h=>d=z8h2 0 n∧h=zuiy n):=by
 refine fun X0 base w E vs hh hr => ?_
 obtain ⟨a,c,p⟩ : ∃ a c,vs = #[a,c]:=by
  have g:vs.toList.length=2:=hr.1
  match hq:vs.toList,g with
  | [a,c],_=>exact ⟨a,c,Array.ext' (by simpa using hq)⟩
 subst p;have r:Rep E (FX X0 E) w a .nils:=hr.2 0 (by simp) (by simp)
 have u:Rep E (FX X0 E) w c (.int .i64 n):=hr.2 1 (by simp) (by simp)
 cases r
 cases u
 refine Does.of_ent (z36x Tryz.func136 (by kernel_rfl) rfl) ?_
 by_cases h0:n=0
 ·subst h0;refine (z4t9 w).mono ?_;rintro e w' ⟨rfl,rfl⟩;exact ⟨_,.nils,[],E,rfl,⟨rfl,rfl⟩,hh,.nils,.refl _ _ _ _⟩
 ·refine (zv1e n w (by omega) hb).mono ?_
  rintro e w' ⟨cap,hc,rfl,rfl⟩;have q : ∀ (E:Env) (X:Forb) (w:World),RepA E X w (Value.int .i64 0).cells.toList [.int .i64 0]:=fun E X w=>by
   refine ⟨rfl,fun i g h2 => ?_⟩
   have:i=0:=by simp at h2; omega
   subst this;exact .int _ _
  have k:=zr6e (q E (FX X0 E) w.drew) (s:=1) rfl (by decide) n
  have f:=zkum hh.drew k (Builtin.zeroCells (Value.int .i64 0).cells (cap-n)).toList 3;have l:((Builtin.zeroCells (Value.int .i64 0).cells n).toList++(Builtin.zeroCells (Value.int .i64 0).cells (cap-n)).toList).toArray=Builtin.zeroCells (Value.int .i64 0).cells n++Builtin.zeroCells (Value.int .i64 0).cells (cap-n):=by apply Array.ext'; simp
  rw [l] at f;have j:E=[]:=y02 (by simpa using hh.len)
  subst j;refine ⟨_,.ms 0 n 0 1 0 n,[.cells (reps n [.int .i64 0])],_,rfl,⟨by simp [z8h2,h0],by simp [zuiy,h0]⟩,f.1,?_,(zjji X0 base [] w).trans f.2⟩
  have m:=zfbw n;have o:(Builtin.zeroCells (Value.int .i64 0).cells n++Builtin.zeroCells (Value.int .i64 0).cells (cap-n)).size=cap:=by
   simp [zle2,Value.cells]; omega
  exact z6v0 (b:=w.drew.heap.size) (L:=(reps n [DV.int .i64 0]).length) (arr:=Builtin.zeroCells (Value.int .i64 0).cells n++Builtin.zeroCells (Value.int .i64 0).cells (cap-n)) (t:=3) (by simp) m.symm (heap_alloc_new w.drew _) (by omega) (by omega) (fun _=>rfl) (by omega) (by rw [o]; omega)
noncomputable def zii2:List DV→Nat→Option (DV × List AObj):=conN (fun n:Nat=>n≤1000000) (fun n=>[.nils,.int .i64 n]) (fun n=>(z8h2 0 n,zuiy n))
theorem z073 {k n:Nat}:shD k (z8h2 0 n)=z8h2 k n:=by unfold z8h2; split<;>rfl
theorem zoui {k n:Nat}:(zuiy n).map (shO k)=zuiy n:=by
 unfold zuiy; split
 ·rfl
 ·simp only [y0p,List.map_nil,z05k];rw [zj45 k _ ?_];induction n with
  | zero=>rfl
  | succ n ih =>
   by_cases h:n=0
   ·subst h; rfl
   ·exact zg0c rfl (ih h)
theorem zp5d {n k:Nat} (h:n≤1000000):zii2 [.nils,.int .i64 n] k=some (z8h2 k n,zuiy n):=by
 have:=zqtp (A:=fun n:Nat=>n≤1000000) (f:=fun n=>[.nils,.int .i64 n]) (g:=fun n=>(z8h2 0 n,zuiy n)) (fun a b e=>by
  simp only [List.cons.injEq,DV.int.injEq,and_true,true_and,Int.natCast_inj] at e;rw [e]) n h k
 rw [z073,zoui] at this;exact this
theorem zlc7:(Con.new zii2).Sound P 136:=z3ld (fun n _=>rfl) fun n h=>z58y n h
end
section
def srtV (p:Nat) (l:List Int):DV:=if l=[] then .nils else .ms p l.length 0 1 l.length l.length
def srtH (pre:List AObj) (l:List Int):List AObj:=if l=[] then pre else pre++[.cells (l.map (.int .i64))]
theorem zh11 {p:Nat}:srtV p [] = .nils:=rfl
theorem zwug {pre:List AObj}:srtH pre []=pre:=rfl
theorem zgky {p:Nat} {l:List Int} (h:l≠[]):srtV p l = .ms p l.length 0 1 l.length l.length:=if_neg h
theorem zzyq {pre:List AObj} {l:List Int} (h:l≠[]):srtH pre l=pre++[.cells (l.map (.int .i64))]:=if_neg h
theorem ztsi {pre pre':List AObj} {l l':List Int} (h1:srtV pre.length l=srtV pre'.length l') (h2:srtH pre l=srtH pre' l'):pre=pre'∧l=l':=by
 by_cases e:l=[]
 ·by_cases e':l'=[]
  ·subst e e'; exact ⟨h2,rfl⟩
  ·subst e; rw [zh11,zgky e'] at h1; cases h1
 ·by_cases e':l'=[]
  ·subst e'; rw [zh11,zgky e] at h1; cases h1
  ·rw [zzyq e,zzyq e'] at h2;have h:=List.append_inj' h2 rfl;refine ⟨h.1,?_⟩;have a:=h.2;simp only [List.cons.injEq,AObj.cells.injEq,and_true,zwfp] at a;exact a
structure SrtOK (a:Clu × List AObj × List Int):Prop where
 h : ∀ X,objV (a.2.1++X) 0 3=some (clC a.1)
 l : ∀ x ∈ a.2.2,0≤z092 a.1.i.l x
 b:a.2.2.length≤19
theorem SrtOK.c {a b:Clu × List AObj × List Int} (h1:SrtOK a) (h2:SrtOK b) (e:a.2.1=b.2.1):a.1=b.1:=by
 have d:=h1.h [];have f:=h2.h [];rw [e,f] at d;exact zh7t (Option.some.inj d).symm
noncomputable def zgw0 (f:Clu × List AObj × List Int→List DV):List DV→List AObj→Option (DV × List AObj):=conH SrtOK (fun a=>(f a,srtH a.2.1 a.2.2)) (fun a=>(.tup [],srtH a.2.1 (zxu4 (ltV a.1) a.2.2)))
theorem zs7q {f:Clu × List AObj × List Int→List DV} (hf : ∀ a b,f a=f b→srtV a.2.1.length a.2.2=srtV b.2.1.length b.2.2) {a:Clu × List AObj × List Int} (h:SrtOK a):zgw0 f (f a) (srtH a.2.1 a.2.2)=some (.tup [],srtH a.2.1 (zxu4 (ltV a.1) a.2.2)) :=
 zu6y (A:=SrtOK) (f:=fun a=>(f a,srtH a.2.1 a.2.2)) (g:=fun a=>(.tup [],srtH a.2.1 (zxu4 (ltV a.1) a.2.2))) (fun a b h1 h2 e=>by
  simp only [Prod.mk.injEq] at e;obtain ⟨p,q⟩:=ztsi (hf a b e.1) e.2;rw [p,q,h1.c h2 p]) a h
def fIns (a:Clu × List AObj × List Int):List DV:=[srtV a.2.1.length a.2.2,.int .i64 0,.int .i64 a.2.2.length,fV2]
def fStb (a:Clu × List AObj × List Int):List DV:=[srtV a.2.1.length a.2.2,.int .i64 a.2.2.length,fV2]
def fSrt (a:Clu × List AObj × List Int):List DV:=[srtV a.2.1.length a.2.2,fV2]
theorem z7g0 {c:Clu} {pre:List AObj} {l:List Int} (h:SrtOK (c,pre,l)):zgw0 fIns [srtV pre.length l,.int .i64 0,.int .i64 l.length,fV2] (srtH pre l)=some (.tup [],srtH pre (zxu4 (ltV c) l)) :=
 zs7q (f:=fIns) (fun a b e=>by simp only [fIns,List.cons.injEq] at e; exact e.1) h
theorem z24v {c:Clu} {pre:List AObj} {l:List Int} (h:SrtOK (c,pre,l)):zgw0 fStb [srtV pre.length l,.int .i64 l.length,fV2] (srtH pre l)=some (.tup [],srtH pre (zxu4 (ltV c) l)) :=
 zs7q (f:=fStb) (fun a b e=>by simp only [fStb,List.cons.injEq] at e; exact e.1) h
theorem zllv {c:Clu} {pre:List AObj} {l:List Int} (h:SrtOK (c,pre,l)):zgw0 fSrt [srtV pre.length l,fV2] (srtH pre l)=some (.tup [],srtH pre (zxu4 (ltV c) l)) :=
 zs7q (f:=fSrt) (fun a b e=>by simp only [fSrt,List.cons.injEq] at e; exact e.1) h
theorem z0p1 {lt:Int→Int→Bool} {l:List Int} (h:l≠[]):zxu4 lt l≠[]:=fun e=>h (y02 (by rw [← zmgd (lt:=lt),e]; rfl))
theorem zplv (pre:List AObj):RunsH T216 a142 [.nils,.int .i64 0,.int .i64 0,fV2] pre (.tup []) pre:=by
 refine ⟨?_⟩;simp (disch:=first|omega|(simp [-zE]<;>omega)|fail) [-zE,a142]
 refine zlm5 (fun _:Unit=>zzbm .nils (.int .i64 0) (.int .i64 0) fV2 (.int .i64 1) pre) (fun _=>0) (fun _=>True) () (z515 (by simp (disch:=first|omega|(simp [-zE]<;>omega)|fail) [-zE,zzbm]) (by simp (disch:=first|omega|(simp [-zE]<;>omega)|fail) [-zE,zzbm])) trivial (fun i hi => ?_)
 simp (disch:=first|omega|(simp [-zE]<;>omega)|fail) [-zE,z3nb,zzbm]
theorem zaa2 {a:Clu × List AObj × List Int} (h:SrtOK a):RunsH T216 a142 (fIns a) (srtH a.2.1 a.2.2) (.tup []) (srtH a.2.1 (zxu4 (ltV a.1) a.2.2)):=by
 obtain ⟨c,d,l⟩:=a;by_cases e:l=[]
 ·subst e; exact zplv d
 ·have:=zwc3 c d l h.h h.l (by have:=h.b; simp at this; omega)
  simp only [fIns,zgky e,zzyq e,zzyq (z0p1 e)];exact this
noncomputable def T217:Tbl:=addT 142 (.heap (zgw0 fIns)) tbl0
theorem zls2:T217 142 = .heap (zgw0 fIns):=by simp [T217]
theorem z7l6:T217.Sound P:=z0rp (zh92 fun a h=>zv22 mix zqkk Tryz.func142 ztmv (zaa2 h)) zr5o
theorem zoqc {pre:List AObj} {l:List Int}:lenD (srtH pre l) (srtV pre.length l)=some (.int .i64 l.length):=by
 by_cases e:l=[]
 ·subst e; rfl
 ·rw [zgky e,zzyq e];simp [zrsa]
theorem zoxb {a:Clu × List AObj × List Int} (h:SrtOK a):RunsH T217 a133 (fStb a) (srtH a.2.1 a.2.2) (.tup []) (srtH a.2.1 (zxu4 (ltV a.1) a.2.2)):=by
 obtain ⟨c,d,l⟩:=a;refine ⟨?_⟩;have f:=h.b;have e:=z7g0 h;simp only at f e ⊢;obtain ⟨n,g⟩ : ∃ n,l.length=n:=⟨_,rfl⟩;rw [g] at f e;simp only [fStb,g];obtain ⟨V,p⟩ : ∃ V,srtV d.length l=V:=⟨_,rfl⟩;rw [p] at e ⊢;obtain ⟨H,m⟩ : ∃ H,srtH d l=H:=⟨_,rfl⟩;rw [m] at e ⊢;obtain ⟨K,o⟩ : ∃ K,srtH d (zxu4 (ltV c) l)=K:=⟨_,rfl⟩;rw [o] at e ⊢;have j:¬ (20:Int)≤n:=by omega
 have k:¬ (20:Int)<n:=by omega
 simp (disch:=first|omega|(simp [-zE]<;>omega)|fail) [-zE,a133]
 refine zlm5 (fun _:Unit=>z58v V (.int .i64 n) fV2 (.int .i64 20) (.int .i64 0) (.int .i64 20) H) (fun _=>0) (fun _=>True) () (z515 (by simp (disch:=first|omega|(simp [-zE]<;>omega)|fail) [-zE,z58v]) (by simp (disch:=first|omega|(simp [-zE]<;>omega)|fail) [-zE,z58v])) trivial (fun i hi => ?_)
 simp (disch:=first|omega|(simp [-zE]<;>omega)|fail) [-zE,zlcx,z58v,j,zls2,e]
 refine zlm5 (fun _:Unit=>zh9n V (.int .i64 n) fV2 (.int .i64 20) K) (fun _=>0) (fun _=>True) () ?_ trivial (fun i hi => ?_)
 ·exact z515 (by simp (disch:=first|omega|(simp [-zE]<;>omega)|fail) [-zE,zh9n]) (by simp (disch:=first|omega|(simp [-zE]<;>omega)|fail) [-zE,zh9n])
 simp (disch:=first|omega|(simp [-zE]<;>omega)|fail) [-zE,z4o2,zh9n,k]
end
section
noncomputable def T218:Tbl:=addT 133 (.heap (zgw0 fStb)) tbl0
theorem ze4f:T218 133 = .heap (zgw0 fStb):=by simp [T218]
theorem zcyn:T218.Sound P:=z0rp (zh92 fun a h=>zv22 mix z7l6 Tryz.func133 zl8e (zoxb h)) zr5o
theorem z9pg {a:Clu × List AObj × List Int} (h:SrtOK a):RunsH T218 a117 (fSrt a) (srtH a.2.1 a.2.2) (.tup []) (srtH a.2.1 (zxu4 (ltV a.1) a.2.2)):=by
 obtain ⟨c,pre,l⟩:=a;refine ⟨?_⟩;have b:=z24v h;have d:=zoqc (pre:=pre) (l:=l);simp only at b d ⊢;simp only [fSrt];obtain ⟨V,f⟩ : ∃ V,srtV pre.length l=V:=⟨_,rfl⟩;rw [f] at b d ⊢;obtain ⟨H,e⟩ : ∃ H,srtH pre l=H:=⟨_,rfl⟩;rw [e] at b d ⊢;simp (disch:=first|omega|(simp [-zE]<;>omega)|fail) [-zE,a117,ze4f,b,d]
theorem z6r3:(Con.heap (zgw0 fSrt)).Sound P 117:=zh92 fun a h=>zv22 mix zcyn Tryz.func117 zt1q (z9pg h)
structure RS where
 i:Nat
 j:Nat
 L:List Int
def S230 (pre:List AObj) (P n:Nat) (a:RS):St:=z20v (.ms P n 0 1 n n) (.int .i64 a.i) (.int .i64 a.j) (pre++[.cells (a.L.map (.int .i64))])
structure RInv (l:List Int) (n:Nat) (a:RS):Prop where
 s:a.i+a.j+1=n
 ln:a.L.length=n
 g : ∀ k,k<n→a.L[k]? = if k<a.i∨a.j<k then l[n-1-k]? else l[k]?
theorem zvfq {l:List Int} {n:Nat} {a:RS} (hl:l.length=n) (h:RInv l n a) (he:a.j≤a.i):a.L=l.reverse:=by
 apply List.ext_getElem?
 intro k;by_cases hk:k<n
 ·rw [h.g k hk,List.getElem?_reverse (by omega),hl]
  split
  ·rfl
  ·have:=h.s;have:n-1-k=k:=by omega
   rw [this]
 ·rw [y0u (by rw [h.ln]; omega),y0u (by rw [y0k]; omega)]
theorem zhbx {l:List Int} {n:Nat} {i j:Nat} {L:List Int} (hl:l.length=n) (h:RInv l n ⟨i,j,L⟩) (hi:i<j) (x y:Int) (hx:L[i]? = some x) (hy:L[j]? = some y):RInv l n ⟨i+1,j-1,(L.set i y).set j x⟩:=by
 obtain ⟨f,e,a⟩:=h;simp only at f e a;refine ⟨by simp only; omega,by simpa using e,fun k hk => ?_⟩
 have c:=a i (by omega)
 have d:=a j (by omega)
 rw [if_neg (by omega),hx] at c
 rw [if_neg (by omega),hy] at d
 have b:=a k hk;simp only [List.getElem?_set,y0d];by_cases e1:j=k
 ·subst e1;rw [if_pos rfl,if_pos (by omega),if_pos (by omega),show n-1-j=i by omega]
  exact c
 ·rw [if_neg e1];by_cases e2:i=k
  ·subst e2;rw [if_pos rfl,if_pos (by omega),if_pos (by omega),show n-1-i=j by omega]
   exact d
  ·rw [if_neg e2,b];by_cases e3:k<i∨j<k
   ·rw [if_pos e3,if_pos (by omega)]
   ·rw [if_neg e3,if_neg (by omega)]
theorem zj4k (pre:List AObj) (l:List Int) (h0:l≠[]) (hb:l.length≤1000000):RunsH tbl0 a86 [.ms pre.length l.length 0 1 l.length l.length] (pre++[.cells (l.map (.int .i64))]) (.tup []) (pre++[.cells (l.reverse.map (.int .i64))]):=by
 refine ⟨?_⟩;obtain ⟨n,b⟩ : ∃ n,l.length=n:=⟨_,rfl⟩;rw [b] at hb ⊢;obtain ⟨m,rfl⟩ : ∃ m,n=m+1:=⟨n-1,by cases l with|nil=>exact absurd rfl h0|cons a l=>simp at b; omega⟩
 simp (disch:=first|omega|(simp [-zA,-zB,-zC,-zD,-zE]<;>omega)|fail) [-zA,-zB,-zC,-zD,-zE,a86,zjj2,b]
 refine zlm5 (S230 pre pre.length (m+1)) (fun a=>a.j+1-a.i) (fun a=>RInv l (m+1) a) ⟨0,m,l⟩ (z515 (by simp (disch:=first|omega|(simp [-zA,-zB,-zC,-zD,-zE]<;>omega)|fail) [-zA,-zB,-zC,-zD,-zE,S230,z20v]) (by simp (disch:=first|omega|(simp [-zA,-zB,-zC,-zD,-zE]<;>omega)|fail) [-zA,-zB,-zC,-zD,-zE,S230,z20v])) ⟨by simp,b,fun k hk=>by rw [if_neg (by simp only; omega)]⟩ (fun a ha => ?_)
 obtain ⟨i,j,L⟩:=a;have r:=ha.s;have p:=ha.ln;simp only at r p;simp (disch:=first|omega|(simp [-zA,-zB,-zC,-zD,-zE]<;>omega)|fail) [-zA,-zB,-zC,-zD,-zE,zw44,z20v,S230]
 by_cases h:i<j
 ·have c:(i:Int)<j:=by omega
  have o:i<L.length:=by omega
  have d:j<L.length:=by omega
  have q:j<(L.set i L[j]).length:=by rw [y0d]; exact d
  have f:((j-1:Nat):Int)=(j:Int)-1:=by omega
  have g:=zhbx b ha h L[i] L[j] (y07 o) (y07 d);simp (disch:=first|omega|(simp [-zA,-zB,-zC,-zD,-zE]<;>omega)|fail) [-zA,-zB,-zC,-zD,-zE,h,c,p,o,d,zjj2,zxft,ziq3,y0d]
  refine ⟨⟨i+1,j-1,(L.set i L[j]).set j L[i]⟩,z515 (by simp (disch:=first|omega|(simp [-zA,-zB,-zC,-zD,-zE]<;>omega)|fail) [-zA,-zB,-zC,-zD,-zE,S230,z20v,f]) (by simp (disch:=first|omega|(simp [-zA,-zB,-zC,-zD,-zE]<;>omega)|fail) [-zA,-zB,-zC,-zD,-zE,S230,z20v]),by simp only; omega,g⟩
 ·have c:¬ (i:Int)<j:=by omega
  have e:=zvfq b ha (by simp only; omega)
  simp only at e;simp (disch:=first|omega|(simp [-zA,-zB,-zC,-zD,-zE]<;>omega)|fail) [-zA,-zB,-zC,-zD,-zE,h,c,e]
theorem zyu2 (pre:List AObj):RunsH tbl0 a86 [.nils] pre (.tup []) pre:=by
 refine ⟨?_⟩;simp (disch:=first|omega|(simp [-zE]<;>omega)|fail) [-zE,a86]
 refine zlm5 (fun _:Unit=>z20v .nils (.int .i64 0) (.int .i64 (-1)) pre) (fun _=>0) (fun _=>True) () (z515 (by simp (disch:=first|omega|(simp [-zE]<;>omega)|fail) [-zE,z20v]) (by simp (disch:=first|omega|(simp [-zE]<;>omega)|fail) [-zE,z20v])) trivial (fun i hi => ?_)
 simp (disch:=first|omega|(simp [-zE]<;>omega)|fail) [-zE,zw44,z20v]
noncomputable def cRev:List DV→List AObj→Option (DV × List AObj):=conH (fun a:List AObj × List Int=>a.2.length≤1000000) (fun a=>([srtV a.1.length a.2],srtH a.1 a.2)) (fun a=>(.tup [],srtH a.1 a.2.reverse))
theorem zdxu {pre:List AObj} {l:List Int} (h:l.length≤1000000):cRev [srtV pre.length l] (srtH pre l)=some (.tup [],srtH pre l.reverse) :=
 zcpb (A:=fun a:List AObj × List Int=>a.2.length≤1000000) (f:=fun a=>([srtV a.1.length a.2],srtH a.1 a.2)) (g:=fun a=>(.tup [],srtH a.1 a.2.reverse)) (fun a b e=>by
  simp only [Prod.mk.injEq,List.cons.injEq,and_true] at e;obtain ⟨p,q⟩:=ztsi e.1 e.2;rw [p,q]) (pre,l) h
theorem zx90:(Con.heap cRev).Sound P 86:=zh92 fun a h=>zv22 mix zr5o Tryz.func86 z2i3 (by
 obtain ⟨pre,l⟩:=a;by_cases e:l=[]
 ·subst e; exact zyu2 pre
 ·have:=zj4k pre l e h;simp only [zgky e,zzyq e,zzyq (show l.reverse≠[] by simpa using e)]
  exact this)
end
section
structure VisL (h:List AObj) (x:DV) (l:List Int):Prop where
 len : ∀ X,lenD (h++X) x=some (.int .i64 l.length)
 vis : ∀ X,visY (h++X) x=some (l.length,l.map (.int .i64))
 oneC:x.one=true
structure CA where
 h:List AObj
 x:DV
 y:DV
 z:DV
 lx:List Int
 ly:List Int
 lz:List Int
structure CAOK (a:CA):Prop where
 x:VisL a.h a.x a.lx
 y:VisL a.h a.y a.ly
 z:VisL a.h a.z a.lz
 b:a.lx.length+a.ly.length+a.lz.length≤1000000
def newV (p n k:Nat):DV:=if n=0 then .nils else .ms p n 0 1 k n
def newH (pre:List AObj) (n:Nat) (u:List Int):List AObj:=if n=0 then pre else pre++[.cells ((u++List.replicate (n-u.length) 0).map (.int .i64))]
theorem zzao (pre:List AObj) (n:Nat) (u:List Int) : ∃ X,newH pre n u=pre++X:=by
 unfold newH; split
 ·exact ⟨[],by simp⟩
 ·exact ⟨_,rfl⟩
theorem zbix {u v:List Int} {m:Nat} (hm:v.length≤m):zk7y ((u++List.replicate m 0).map (DV.int .i64)) u.length (v.map (.int .i64))=(u++v++List.replicate (m-v.length) 0).map (DV.int .i64):=by
 unfold zk7y;rw [← List.map_take,← List.map_drop,List.take_left' rfl,y06,← List.drop_drop,List.drop_left' rfl,List.drop_replicate,← y04,← y04]
theorem znme {pre:List AObj} {n:Nat} {u v:List Int} (h:u.length+v.length≤n) (hn:n≤1000000):appX (newH pre n u) 1 8 (newV pre.length n u.length) v.length (v.map (.int .i64))=some (newV pre.length n (u.length+v.length),newH pre n (u++v)):=by
 by_cases h0:n=0
 ·subst h0;have g:u=[]:=y02 (by omega)
  have a:v=[]:=y02 (by omega)
  subst g a;exact zw6v (by decide) (by decide)
 ·simp only [newV,newH,if_neg h0];have d:((u++List.replicate (n-u.length) 0).map (DV.int .i64)).length=n:=by simp; omega
  have e:ziu0 (pre++[.cells ((u++List.replicate (n-u.length) 0).map (DV.int .i64))]) pre.length=some ((u++List.replicate (n-u.length) 0).map (DV.int .i64)):=by simp [ziu0]
  have f:=zbix (u:=u) (v:=v) (m:=n-u.length) (by omega)
  have c:(v.map (DV.int .i64)).all DV.one=true:=by simp [DV.one]
  unfold appX;rw [if_neg (by simp)]
  simp only [e,y0r,d,c,and_true,if_true];by_cases a:v.length=0
  ·have b:v=[]:=y02 a;subst b;simp
  ·rw [if_neg a,if_pos (by omega)]
   rw [zxft];simp only [y0o,y0x,f,List.set_cons_zero,y01,show n-u.length-v.length=n-(u.length+v.length) by omega]
theorem zy6x {p n:Nat}:newV p n 0=z8h2 p n:=rfl
theorem z7d9 {pre:List AObj} {n:Nat}:newH pre n []=pre++zuiy n:=by
 unfold newH zuiy; split
 ·simp
 ·have:reps n [DV.int .i64 0]=(List.replicate n 0).map (.int .i64):=by
   induction n with
   | zero=>rfl
   | succ n ih =>
    by_cases h:n=0
    ·subst h; rfl
    ·have:=ih h;simp only [reps] at this ⊢;rw [y0w,List.flatten_cons,this,y0w]; rfl
  rw [this]; simp
noncomputable def T219:Tbl:=addT 136 (.new zii2) tbl0
theorem zzxd:T219 136 = .new zii2:=by simp [T219]
theorem z1wr:T219.Sound P:=z0rp zlc7 zr5o
def zev2 (a b c:Nat):Nat→Nat
 | 0=>0
 | 1=>a
 | 2=>a+b
 | _=>a+b+c
def z038 (a b c:List Int):Nat→List Int
 | 0=>[]
 | 1=>a
 | 2=>a++b
 | _=>a++(b++c)
def S240 (a:CA) (i:Nat):St:=zkuy (.sl true 1 3 [a.x,a.y,a.z]) (.int .i64 (zev2 a.lx.length a.ly.length a.lz.length i)) (.sl true 1 3 [a.x,a.y,a.z]) (.int .i64 3) (.int .i64 i) a.h
def S241 (a:CA) (n:Nat) (i:Nat):St:=z0qo (newV a.h.length n (z038 a.lx a.ly a.lz i).length) (.sl true 1 3 [a.x,a.y,a.z]) (.int .i64 3) (.int .i64 i) (newH a.h n (z038 a.lx a.ly a.lz i))
theorem zcx3 (a:CA) (h:CAOK a):RunsH T219 a123 [.sl true 1 3 [a.x,a.y,a.z]] a.h (srtV a.h.length (a.lx++(a.ly++a.lz))) (srtH a.h (a.lx++(a.ly++a.lz))):=by
 refine ⟨?_⟩;obtain ⟨n,o⟩ : ∃ n,a.lx.length+a.ly.length+a.lz.length=n:=⟨_,rfl⟩;have d:=h.b;rw [o] at d;have p:=h.x.len [];have r:=h.y.len [];have s:=h.z.len [];rw [y0a] at p r s;have t:=h.x.oneC;have w:=h.y.oneC;have A:=h.z.oneC;have D:¬ (a.lx.length:Int)<0:=by omega
 have E:¬ (a.lx.length:Int)+(a.ly.length:Int)<0:=by omega
 have F:¬ (a.lx.length:Int)+(a.ly.length:Int)+(a.lz.length:Int)<0:=by omega
 have g : ∀ n u,visY (newH a.h n u) a.x=some (a.lx.length,a.lx.map (.int .i64)):=fun n u=>by obtain ⟨X,e⟩:=zzao a.h n u; rw [e]; exact h.x.vis X
 have j : ∀ n u,visY (newH a.h n u) a.y=some (a.ly.length,a.ly.map (.int .i64)):=fun n u=>by obtain ⟨X,e⟩:=zzao a.h n u; rw [e]; exact h.y.vis X
 have l : ∀ n u,visY (newH a.h n u) a.z=some (a.lz.length,a.lz.map (.int .i64)):=fun n u=>by obtain ⟨X,e⟩:=zzao a.h n u; rw [e]; exact h.z.vis X
 simp (disch:=first|omega|(simp [-zE]<;>omega)|fail) [-zE,a123]
 refine zlm5 (S240 a) (fun i=>3-i) (fun i=>i≤3) 0 (z515 (by simp (disch:=first|omega|(simp [-zE]<;>omega)|fail) [-zE,S240,zkuy,zev2]) (by simp (disch:=first|omega|(simp [-zE]<;>omega)|fail) [-zE,S240,zkuy])) (by omega) (fun i hi => ?_)
 simp (disch:=first|omega|(simp [-zE]<;>omega)|fail) [-zE,z1ci,zkuy,S240]
 rcases (show i=0∨i=1∨i=2∨i=3 by omega) with rfl|rfl|rfl|rfl
 ·simp (disch:=first|omega|(simp [-zE]<;>omega)|fail) [-zE,p,t,zev2,D]
  exact ⟨1,z515 (by simp (disch:=first|omega|(simp [-zE]<;>omega)|fail) [-zE,S240,zkuy,zev2]) (by simp (disch:=first|omega|(simp [-zE]<;>omega)|fail) [-zE,S240,zkuy]),by simp⟩
 ·simp (disch:=first|omega|(simp [-zE]<;>omega)|fail) [-zE,r,w,zev2,E]
  exact ⟨2,z515 (by simp (disch:=first|omega|(simp [-zE]<;>omega)|fail) [-zE,S240,zkuy,zev2]) (by simp (disch:=first|omega|(simp [-zE]<;>omega)|fail) [-zE,S240,zkuy]),by simp⟩
 ·simp (disch:=first|omega|(simp [-zE]<;>omega)|fail) [-zE,s,A,zev2,F]
  exact ⟨3,z515 (by simp (disch:=first|omega|(simp [-zE]<;>omega)|fail) [-zE,S240,zkuy,zev2]) (by simp (disch:=first|omega|(simp [-zE]<;>omega)|fail) [-zE,S240,zkuy]),by simp⟩
 ·have C:=zp5d (n:=n) (k:=a.h.length) d;simp (disch:=first|omega|(simp [-zE]<;>omega)|fail) [-zE,zev2,o,zzxd,C]
  refine zlm5 (S241 a n) (fun i=>3-i) (fun i=>i≤3) 0 (z515 (by simp (disch:=first|omega|(simp [-zE]<;>omega)|fail) [-zE,S241,z0qo,z038,zy6x]) (by simp (disch:=first|omega|(simp [-zE]<;>omega)|fail) [-zE,S241,z0qo,z038,z7d9])) (by omega) (fun i hi => ?_)
  simp (disch:=first|omega|(simp [-zE]<;>omega)|fail) [-zE,zgnt,z0qo,S241]
  rcases (show i=0∨i=1∨i=2∨i=3 by omega) with rfl|rfl|rfl|rfl
  ·have c:=znme (pre:=a.h) (n:=n) (u:=[]) (v:=a.lx) (by simp; omega) d
   simp only [y0e,y0f,y0o] at c;simp (disch:=first|omega|(simp [-zE]<;>omega)|fail) [-zE,z038,t,g,c]
   exact ⟨1,z515 (by simp (disch:=first|omega|(simp [-zE]<;>omega)|fail) [-zE,S241,z0qo,z038]) (by simp (disch:=first|omega|(simp [-zE]<;>omega)|fail) [-zE,S241,z0qo,z038]),by simp⟩
  ·have c:=znme (pre:=a.h) (n:=n) (u:=a.lx) (v:=a.ly) (by omega) d
   simp (disch:=first|omega|(simp [-zE]<;>omega)|fail) [-zE,z038,w,j,c]
   exact ⟨2,z515 (by simp (disch:=first|omega|(simp [-zE]<;>omega)|fail) [-zE,S241,z0qo,z038]) (by simp (disch:=first|omega|(simp [-zE]<;>omega)|fail) [-zE,S241,z0qo,z038]),by simp⟩
  ·have c:=znme (pre:=a.h) (n:=n) (u:=a.lx++a.ly) (v:=a.lz) (by simp; omega) d
   simp only [y01,y08,Nat.add_assoc] at c;simp (disch:=first|omega|(simp [-zE]<;>omega)|fail) [-zE,z038,A,l,c,Nat.add_assoc]
   exact ⟨3,z515 (by simp (disch:=first|omega|(simp [-zE]<;>omega)|fail) [-zE,S241,z0qo,z038]) (by simp (disch:=first|omega|(simp [-zE]<;>omega)|fail) [-zE,S241,z0qo,z038]),by simp⟩
  ·have m:newV a.h.length n (a.lx++(a.ly++a.lz)).length=srtV a.h.length (a.lx++(a.ly++a.lz)):=by
    have f:(a.lx++(a.ly++a.lz)).length=n:=by simp only [y01]; omega
    unfold newV srtV;by_cases e:n=0
    ·rw [if_pos e,if_pos (y02 (by omega))]
    ·rw [if_neg e,if_neg (fun q=>e (by rw [← f,q]; rfl)),f]
   have B:newH a.h n (a.lx++(a.ly++a.lz))=srtH a.h (a.lx++(a.ly++a.lz)):=by
    have f:(a.lx++(a.ly++a.lz)).length=n:=by simp only [y01]; omega
    unfold newH srtH;by_cases e:n=0
    ·rw [if_pos e,if_pos (y02 (by omega))]
    ·rw [if_neg e,if_neg (fun q=>e (by rw [← f,q]; rfl)),f,Nat.sub_self,List.replicate_zero,y0a]
   simp only [y01] at m;simp (disch:=first|omega|(simp [-zE]<;>omega)|fail) [-zE,z038,m,B]
end
section
theorem zwd9 {a b:CA} (h1:CAOK a) (h2:CAOK b) (e:([.sl true 1 3 [a.x,a.y,a.z]],a.h)=(([.sl true 1 3 [b.x,b.y,b.z]],b.h):List DV × List AObj)):(a.h,a.lx,a.ly,a.lz)=(b.h,b.lx,b.ly,b.lz):=by
 simp only [Prod.mk.injEq,List.cons.injEq,DV.sl.injEq,and_true,true_and] at e;obtain ⟨⟨i,j,k⟩,e4⟩:=e;have f : ∀ {h:List AObj} {x:DV} {l l':List Int},VisL h x l→VisL h x l'→l=l':=fun p q=>by
  have c:=p.vis [];rw [q.vis []] at c;simp only [Option.some.injEq,Prod.mk.injEq,zwfp] at c;exact c.2.symm
 have c:=h1.x;have d:=h1.y;have g:=h1.z;rw [i,e4] at c;rw [j,e4] at d;rw [k,e4] at g;rw [f c h2.x,f d h2.y,f g h2.z,e4]
noncomputable def cCat:List DV→List AObj→Option (DV × List AObj):=conH CAOK (fun a=>([.sl true 1 3 [a.x,a.y,a.z]],a.h)) (fun a=>(srtV a.h.length (a.lx++(a.ly++a.lz)),srtH a.h (a.lx++(a.ly++a.lz))))
theorem zf44 {a:CA} (h:CAOK a):cCat [.sl true 1 3 [a.x,a.y,a.z]] a.h=some (srtV a.h.length (a.lx++(a.ly++a.lz)),srtH a.h (a.lx++(a.ly++a.lz))) :=
 zu6y (A:=CAOK) (f:=fun a=>([.sl true 1 3 [a.x,a.y,a.z]],a.h)) (g:=fun a=>(srtV a.h.length (a.lx++(a.ly++a.lz)),srtH a.h (a.lx++(a.ly++a.lz)))) (fun a b h1 h2 e=>by
  have q:=zwd9 h1 h2 e;simp only [Prod.mk.injEq] at q;obtain ⟨q1,q2,q3,q4⟩:=q;rw [q1,q2,q3,q4]) a h
theorem ztpx:(Con.heap cCat).Sound P 123:=zh92 fun a h=>zv22 mix z1wr Tryz.func123 zw8s (zcx3 a h)
def idP (pre:List AObj) (c:Clu) (l:List Ins):List AObj:=match l with
 | []=>pre++[.cells (clC c)]
 | x::_=>pre++[.cells (clC c),.cells (inC x)]
theorem zs4t (l:List Ins):idC l=(l.map Ins.id).map (.int .i64):=by
 induction l with
 | nil=>rfl
 | cons a l ih=>simp only [idC,y0p,y0q] at ih ⊢; rw [ih]; rfl
theorem zi30 {pre:List AObj} {c:Clu} {l:List Ins}:pre++idO c l=srtH (idP pre c l) (l.map Ins.id):=by
 cases l with
 | nil=>rfl
 | cons x r=>rw [ztnf,idP,zzyq (by simp),← zs4t]; simp
theorem zryu {pre:List AObj} {c:Clu} {l:List Ins}:idV (pre.length+2) l=srtV (idP pre c l).length (l.map Ins.id):=by
 cases l with
 | nil=>rfl
 | cons x r=>rw [zzb3 (by simp),zgky (by simp)]; simp [idP]
theorem zsde (pre:List AObj) (c:Clu) (l:List Ins) : ∃ X,idP pre c l=pre++X:=by
 cases l with
 | nil=>exact ⟨_,rfl⟩
 | cons x r=>exact ⟨_,rfl⟩
theorem zdjm (pre:List AObj) (l:List Int) : ∃ X,srtH pre l=pre++X:=by
 by_cases e:l=[]
 ·subst e; exact ⟨[],by simp [zwug]⟩
 ·exact ⟨_,zzyq e⟩
theorem zt8z {H:List AObj} {p:Nat} {l m:List Int} (hl:m.length=l.length) (ho:l≠[]→H[p]? = some (.cells (m.map (.int .i64)))):VisL H (srtV p l) m:=by
 by_cases e:l=[]
 ·subst e;have:=y02 hl;subst this;exact ⟨fun X=>rfl,fun X=>rfl,rfl⟩
 ·have b:=ho e;have a:p<H.length:=(y0l.1 b).1;have c : ∀ X ver,ver=l.length→objV (H++X) p ver=some (m.map (.int .i64)):=fun X ver hv=>by
   unfold objV ziu0;rw [y0m a,b];simp [hl,hv]
  rw [zgky e];refine ⟨fun X => ?_,fun X => ?_,rfl⟩
  ·simp [c X _ rfl,hl]
  ·rw [z24a,c X _ rfl];simp [hl,y00]
theorem zfnw {H:List AObj} {p n K:Nat} {m:List Int} (hn:m.length=n) (hK:K≤n) (ho:H[p]? = some (.cells (m.map (.int .i64)))):VisL H (.ms p n 0 1 K n) (m.take K):=by
 have a:p<H.length:=(y0l.1 ho).1;have b : ∀ X,objV (H++X) p n=some (m.map (.int .i64)):=fun X=>by
  unfold objV ziu0;rw [y0m a,ho];simp [hn]
 refine ⟨fun X => ?_,fun X => ?_,rfl⟩
 ·simp [b X,hn,Nat.min_eq_left hK]
 ·rw [z24a,b X,y0b,y0g,y0x,List.length_take,hn,Nat.min_eq_left hK,List.map_take]
theorem ztrh {pre:List AObj} {l:List Int}:snap (srtH pre l) 3 (srtV pre.length l)=some (liV l):=by
 by_cases e:l=[]
 ·subst e; rfl
 ·rw [zgky e,zzyq e,zefw e,zve7,zrsa,if_pos (by simp)]
  have:l.flatMap inI=l.map (.int .i64):=by
   clear e;induction l with
   | nil=>rfl
   | cons a l ih=>rw [y0q,ih]; rfl
  rw [this];simp only [y0r,y0g,y0x,y00 (show (l.map (DV.int .i64)).length≤l.length by simp),zb2p,y0b]
theorem zics {pre:List AObj} {l:List Int} (h:l≠[]):(srtH pre l)[pre.length]? = some (.cells (l.map (.int .i64))):=by rw [zzyq h]; simp
theorem zyip {A B:List AObj} {p:Nat} {o:AObj} (h:A[p]? = some o) (hf : ∃ X,B=A++X):B[p]? = some o:=by
 obtain ⟨X,rfl⟩:=hf;rw [y0m (y0l.1 h).1]; exact h
theorem zt5b {A B C:List AObj} (h1 : ∃ X,B=A++X) (h2 : ∃ X,C=B++X) : ∃ X,C=A++X:=by
 obtain ⟨X,rfl⟩:=h1;obtain ⟨Y,rfl⟩:=h2;exact ⟨X++Y,by simp⟩
theorem z92m {a:AObj} {B:List AObj} (h : ∃ X,B=[a]++X) : ∀ X,∃ Y,B++X=a::Y:=fun X=>by
 obtain ⟨Z,rfl⟩:=h;exact ⟨_,rfl⟩
theorem z4f8 {c:Clu} {B:List AObj} (h : ∃ X,B=[.cells (clC c)]++X) (X:List AObj):objV (B++X) 0 3=some (clC c):=by
 obtain ⟨Y,e⟩:=z92m h X;rw [e,z1zn,if_pos (zlha c)]
noncomputable def T220:Tbl:=addT 112 (.new cIds) (addT 117 (.heap (zgw0 fSrt)) (addT 86 (.heap cRev) (addT 87 (.pure (cCk z3tq)) (addT 123 (.heap cCat) tbl0))))
theorem zs6d:T220 112 = .new cIds:=by simp [T220]
theorem z7pr:T220 117 = .heap (zgw0 fSrt):=by simp [T220]
theorem zfh2:T220 86 = .heap cRev:=by simp [T220]
theorem zvo7:T220 87 = .pure (cCk z3tq):=by simp [T220]
theorem zc8x:T220 123 = .heap cCat:=by simp [T220]
theorem ziby:T220.Sound P:=z0rp z2ld (z0rp z6r3 (z0rp zx90 (z0rp zjal (z0rp ztpx zr5o))))
structure VicOK (c:Clu):Prop where
 n:c.i.l.length≤19
 l : ∀ g ∈ c.g.l,zb68 g
theorem z896 {c:Clu} {k:Int} {p:Grp→Ins→Bool}:(idsL c k p).length≤c.i.l.length:=by
 unfold idsL;split
 ·exact y05 _ _
 ·simp
theorem zw26 {c:Clu} {k:Int} {p:Grp→Ins→Bool} {x:Ins} (h:x ∈ idsL c k p):x ∈ c.i.l:=by
 unfold idsL at h;split at h
 ·exact zrr7.subset h
 ·simp at h
theorem ze9o {l:List Ins} {x:Ins} (h:x ∈ l):0≤z092 l x.id:=by
 by_cases hn:z092 l x.id<0
 ·obtain ⟨i,a,rfl⟩:=y0c h;have:=z378 hn i a;simp at this
 ·omega
theorem zi26 {p:Nat} {l:List Int}:(srtV p l).cells=[srtV p l]:=by unfold srtV; split<;>rfl
theorem zv1m {p:Nat} {l:List Int}:(srtV p l).known=true:=by unfold srtV; split<;>rfl
theorem zbja (c:Clu) (k:Int) (hv:VicOK c):Runs T220 a88 [.agg (clC c),.int .i64 k] (liV (zu3j c k)):=by
 refine ⟨?_⟩;by_cases h0:k<0
 ·have z:zu3j c k=[]:=by rw [zu3j,zkxy h0]
  simp (disch:=first|omega|(simp [-zE]<;>omega)|fail) [-zE,a88,h0,z,zxxz]
 obtain ⟨K,rfl⟩ : ∃ K:Nat,k=K:=⟨k.toNat,by omega⟩
 by_cases h1:c.g.l.length≤K
 ·have z:zu3j c K=[]:=by rw [zu3j,zxgx h1]
  have U:(c.g.l.length:Int)≤K:=by omega
  simp (disch:=first|omega|(simp [-zE]<;>omega)|fail) [-zE,a88,h0,h1,U,z,zxxz]
 have h2:K<c.g.l.length:=by omega
 have U:¬ (c.g.l.length:Int)≤K:=by omega
 have hG:=fun h=>zalo (x:=c.g) (h:=h) zry4 h2
 have N:=hv.l _ (y0s h2);have z:zu3j c K=zxu4 (ltV c) (idsP c K sDen)++(idsP c K sRep++(idsP c K z7e4).reverse.take ((znqs c K).length-c.g.l[K].want).toNat):=by rw [zu3j,zlav h2]
 obtain ⟨G,b9⟩ : ∃ G,c.g.l[K]=G:=⟨_,rfl⟩;rw [b9] at hG N z;obtain ⟨⟨w1,w2⟩,-,-⟩:=N;have c9:=z7in (c:=c) (k:=K);have hn:=hv.n;rw [z1c3,z1c3,z1c3] at z
 -- the lists
 have bD:=z896 (c:=c) (k:=K) (p:=sDen);have bR:=z896 (c:=c) (k:=K) (p:=sRep);have bS:=z896 (c:=c) (k:=K) (p:=z7e4);have mD : ∀ x ∈ (idsL c K sDen).map Ins.id,0≤z092 c.i.l x:=fun x hx=>by
  obtain ⟨y,hy,rfl⟩:=List.mem_map.1 hx;exact ze9o (zw26 hy)
 obtain ⟨D,hD⟩ : ∃ D,idsL c K sDen=D:=⟨_,rfl⟩;obtain ⟨R,hR⟩ : ∃ R,idsL c K sRep=R:=⟨_,rfl⟩;obtain ⟨S,hS⟩ : ∃ S,idsL c K z7e4=S:=⟨_,rfl⟩;rw [hD] at z bD mD;rw [hR] at z bR;rw [hS] at z bS;obtain ⟨O,B⟩ : ∃ l,D.map Ins.id=l:=⟨_,rfl⟩;obtain ⟨L,I⟩ : ∃ l,R.map Ins.id=l:=⟨_,rfl⟩;obtain ⟨f,J⟩ : ∃ l,S.map Ins.id=l:=⟨_,rfl⟩;have nD:O.length=D.length:=by rw [← B,y06]
 have nR:L.length=R.length:=by rw [← I,y06]
 have nS:f.length=S.length:=by rw [← J,y06]
 rw [B,I,J] at z;rw [B] at mD
 -- the heaps
 obtain ⟨d,Y⟩ : ∃ p,idP [.cells (clC c)] c D=p:=⟨_,rfl⟩;have fD : ∃ X,d=[.cells (clC c)]++X:=Y▸zsde _ _ _;have eD:AObj.cells (clC c)::idO c D=srtH d O:=by rw [← Y,← B]; exact zi30 (pre:=[.cells (clC c)])
 have vD:idV 3 D=srtV d.length O:=by rw [← Y,← B]; exact zryu (pre:=[.cells (clC c)])
 obtain ⟨sD,a2⟩ : ∃ s,zxu4 (ltV c) O=s:=⟨_,rfl⟩;have b8:sD.length=O.length:=by rw [← a2,zmgd]
 have j:=zllv (c:=c) (pre:=d) (l:=O) ⟨z4f8 fD,mD,by simp only; omega⟩
 rw [a2] at j;obtain ⟨Q,E⟩ : ∃ v,srtV d.length O=v:=⟨_,rfl⟩;rw [E] at vD j;obtain ⟨H0,c0⟩ : ∃ h,srtH d O=h:=⟨_,rfl⟩;rw [c0] at eD j;obtain ⟨H1,V⟩ : ∃ h,srtH d sD=h:=⟨_,rfl⟩;rw [V] at j;have f1 : ∃ X,H1=d++X:=V▸zdjm _ _;obtain ⟨u,a0⟩ : ∃ p,idP H1 c R=p:=⟨_,rfl⟩;have eR:H1++idO c R=srtH u L:=by rw [← a0,← I]; exact zi30
 have vR:idV (H1.length+2) R=srtV u.length L:=by rw [← a0,← I]; exact zryu
 obtain ⟨H2,W⟩ : ∃ h,srtH u L=h:=⟨_,rfl⟩;rw [W] at eR;have f2 : ∃ X,H2=H1++X:=zt5b (a0▸zsde _ _ _) (W▸zdjm _ _);obtain ⟨T,F⟩ : ∃ v,srtV u.length L=v:=⟨_,rfl⟩;rw [F] at vR;obtain ⟨b,a1⟩ : ∃ p,idP H2 c S=p:=⟨_,rfl⟩;have eS:H2++idO c S=srtH b f:=by rw [← a1,← J]; exact zi30
 have vS:idV (H2.length+2) S=srtV b.length f:=by rw [← a1,← J]; exact zryu
 have t:=zdxu (pre:=b) (l:=f) (by omega)
 obtain ⟨H3,c3⟩ : ∃ h,srtH b f=h:=⟨_,rfl⟩;rw [c3] at eS t;obtain ⟨w,C⟩ : ∃ h,srtH b f.reverse=h:=⟨_,rfl⟩;rw [C] at t;have f4 : ∃ X,w=H2++X:=zt5b (a1▸zsde _ _ _) (C▸zdjm _ _);have b3:=zt5b f2 f4;have o1:=z4f8 (zt5b fD f1) [];have o2:=z4f8 (zt5b (zt5b fD f1) f2) [];have o4:=z4f8 (zt5b (zt5b fD f1) b3) [];rw [y0a] at o1 o2 o4;obtain ⟨V3,H⟩ : ∃ v,srtV b.length f=v:=⟨_,rfl⟩;rw [H] at vS t
 -- how many
 obtain ⟨e,he⟩ : ∃ e,max ((znqs c K).length-G.want:Int) 0=e:=⟨_,rfl⟩;obtain ⟨m,hm⟩ : ∃ m:Nat,min e (f.length:Int)=m:=⟨(min e (f.length:Int)).toNat,by omega⟩
 have b7:m≤f.length:=by omega
 have a3:f.reverse.take ((znqs c K).length-G.want).toNat=f.reverse.take m:=by
  by_cases q:((znqs c K).length-G.want).toNat≤f.length
  ·rw [show ((znqs c K).length-G.want).toNat=m by omega]
  ·rw [y00 (by simp; omega),y00 (by simp; omega)]
 rw [a3] at z
 -- what is read at the end
 have L1:VisL w Q sD:=by
  rw [← E];exact zt8z b8 fun q=>zyip (V▸zics (fun q'=>q (y02 (by rw [← b8,q']; rfl)))) b3
 have L2:VisL w T L:=by
  rw [← F];exact zt8z rfl fun q=>zyip (W▸zics q) f4
 have L3:lenD w V3=some (.int .i64 f.length):=by
  have:VisL w V3 f.reverse:=by
   rw [← H];exact zt8z (by simp) fun q=>by
    have:=zics (pre:=b) (l:=f.reverse) (by simpa using q)
    rw [C] at this; exact this
  have:=this.len [];simpa using this
 obtain ⟨Z,hZ,c6,b5,b4⟩ : ∃ Z,z390 w 1 V3 none (some (.int .i64 m)) none=some Z∧VisL w Z (f.reverse.take m)∧Z.known=true∧Z.cells=[Z]:=by
  by_cases q:f=[]
  ·subst q;have:m=0:=by simpa using b7
   subst this;refine ⟨.nils,?_,⟨fun X=>rfl,fun X=>rfl,rfl⟩,rfl,rfl⟩
   rw [← H,zh11];exact zmk5 (ztya (by omega) (by omega))
  ·have hl:=zics (pre:=b) (l:=f.reverse) (by simpa using q)
   rw [C] at hl;have c7:=zfnw (n:=f.length) (K:=m) (by simp) b7 hl
   refine ⟨_,?_,c7,rfl,rfl⟩;have ho:objV w b.length f.length=some (f.reverse.map (.int .i64)):=by
    unfold objV ziu0; rw [hl]; simp
   rw [← H,zgky q,zam4 (ztya (by omega) (by omega)),ho]
   simp
 have r:=zf44 (a:=⟨w,Q,T,Z,sD,L,f.reverse.take m⟩) ⟨L1,L2,c6,by simp; omega⟩
 simp only at r;have k1:Q.known=true:=E▸zv1m;have k2:T.known=true:=F▸zv1m;have c1:Q.cells=[Q]:=E▸zi26;have c2:T.cells=[T]:=F▸zi26;have b6:bslD 1 3 [.nils] [(0,1,Q),(1,1,T),(2,1,Z)]=some (.sl true 1 3 [Q,T,Z]):=by
  rw [z7bw (by simp [k1,k2,b5]) (by simp [seqD,c1,c2,b4])]
  simp [seqD,c1,c2,b4]
 rw [z];have o:=ztrh (pre:=w) (l:=sD++(L++f.reverse.take m));rw [a2];obtain ⟨A,hA⟩ : ∃ a,sD++(L++f.reverse.take m)=a:=⟨_,rfl⟩;rw [hA] at r o ⊢;obtain ⟨V4,c5⟩ : ∃ v,srtV w.length A=v:=⟨_,rfl⟩;obtain ⟨H5,c4⟩ : ∃ h,srtH w A=h:=⟨_,rfl⟩;rw [c5,c4] at r o;have c8 : -2000000000≤((znqs c K).length:Int)-G.want∧((znqs c K).length:Int)-G.want≤2000000000:=by omega
 simp (disch:=first|omega|(simp [-zE]<;>omega)|fail) [-zE,a88,h0,h1,U,zs6d,z7pr,zfh2,zvo7,zc8x,zf1r,zn1n,zsck,hD,hR,hS,eD,vD,j,eR,vR,eS,vS,t,o1,o2,o4,hG,ztaz,z3tq,zluv,zaqi,zy6n,he,hm,L3,hZ,k1,k2,b5,b6,r,o]
end
section
theorem ziny (H:List AObj) (x:Nl):lenD H x.dv=some (.int .i64 x.l.length):=zwhz ⟨x.k,x.l,x.h,0⟩ H
theorem z74y (H:List AObj) (x:Nl) {i:Nat} (hi:i<x.l.length):zpsc H 1 x.dv i=some (.ref [.int .i64 x.l[i]]):=zmwh ⟨x.k,x.l,x.h,0⟩ H hi
theorem zhx7 (x:Nl):x.dv.one=true:=zxr4 ⟨x.k,x.l,x.h,0⟩
theorem zxy5 (x:Nl):x.dv.known=true:=zn8z ⟨x.k,x.l,x.h,0⟩
theorem ztqv (x:Nl):x.dv.cells=[x.dv]:=zymw ⟨x.k,x.l,x.h,0⟩
theorem zdvk {n:Nat} {x:Nl}:Am.below n x.dv=true:=z8b8 n _ (zkx7 x)
attribute [simp] zdvk ziny zhx7 zxy5 ztqv zkx7
def okT (t:Int):Prop := -2199023255552≤t∧t≤2199023255552
def ok64 (n:Int):Prop := -9223372036854775808≤n∧n≤9223372036854775807
theorem z2lv (s n t:Int) (h1:0≤s∧okT s) (h2:ok64 n) (h3:okT t):Runs tbl0 a84 [.int .i64 s,.int .i64 n,.int .i64 t] (.bool (decide (n≤t-s))):=by
 refine ⟨?_⟩;obtain ⟨a,b,c⟩:=h1;obtain ⟨d,f⟩:=h2;obtain ⟨g,i⟩:=h3;by_cases h:s≤t
 ·simp (disch:=first|omega|(simp [-zE]<;>omega)|fail) [-zE,a84,h]
 ·by_cases hn:n<0
  ·have e:decide (n+s≤t)=decide (n≤t-s):=decide_eq_decide.2 (by omega)
   simp (disch:=first|omega|(simp [-zE]<;>omega)|fail) [-zE,a84,h,hn,e]
  ·have e:decide (n≤t-s)=false:=by simp; omega
   simp (disch:=first|omega|(simp [-zE]<;>omega)|fail) [-zE,a84,h,hn,e]
noncomputable def cEla:List DV→Option DV:=con (fun a:Int × Int × Int=>(0≤a.1∧okT a.1)∧ok64 a.2.1∧okT a.2.2) (fun a:Int × Int × Int=>[.int .i64 a.1,.int .i64 a.2.1,.int .i64 a.2.2]) (fun a => .bool (decide (a.2.1≤a.2.2-a.1)))
theorem zlm0 {s n t:Int} (h1:0≤s∧okT s) (h2:ok64 n) (h3:okT t):cEla [.int .i64 s,.int .i64 n,.int .i64 t]=some (.bool (decide (n≤t-s))) :=
 zzno (f:=fun a:Int × Int × Int=>[.int .i64 a.1,.int .i64 a.2.1,.int .i64 a.2.2]) (g:=fun a => .bool (decide (a.2.1≤a.2.2-a.1))) (by
  rintro ⟨a,b,c⟩ ⟨d,e,f⟩ h;simp only [List.cons.injEq,DV.int.injEq,and_true,true_and] at h;rw [h.1,h.2.1,h.2.2]) (s,n,t) ⟨h1,h2,h3⟩
noncomputable def T230:Tbl:=addT 84 (.pure cEla) tbl0
theorem z474:T230 84 = .pure cEla:=by simp [T230]
theorem z8f4:T230.Sound P:=z0rp (z2au fun a h=>zljw mix zr5o Tryz.func84 z3cy (z2lv a.1 a.2.1 a.2.2 h.1 h.2.1 h.2.2)) zr5o
theorem zcgk {x:Ins} {gr:List Int} {t:Int} : ∀ {l:List Ins} {j:Nat},ze9z (l++[x]) j gr t=ze9z l j gr t++(if z9hf x (gr.getD (j+l.length) 0) t=true then [x.id] else [])
 | [],j=>by simp only [y0e,ze9z,y0f,Nat.add_zero]
 | y::l,j=>by
  have ih:=zcgk (x:=x) (gr:=gr) (t:=t) (l:=l) (j:=j+1);have e:j+1+l.length=j+(y::l).length:=by simp; omega
  rw [e] at ih;simp only [List.cons_append,ze9z,ih];split<;>simp
theorem z9p7 {gr:List Int} {t:Int} : ∀ {l:List Ins} {j:Nat},(ze9z l j gr t).length≤l.length
 | [],_=>by simp [ze9z]
 | x::l,j=>by
  have:=z9p7 (gr:=gr) (t:=t) (l:=l) (j:=j+1);rw [ze9z];split<;>simp<;>omega
structure OvOK (a:Clu × Nl × Int):Prop where
 d : ∀ x ∈ a.1.i.l,okT x.den
 g : ∀ n ∈ a.2.1.l,ok64 n
 t:okT a.2.2
structure OS where
 i:Nat
 L:List Int
 x:Ins
def ovH (c:Clu) (a:OS):List AObj:=if a.L=[] then [.cells (clC c)] else [.cells (clC c),.cells (inC a.x),.cells (a.L.map (.int .i64))]
theorem zqcj {c:Clu} {i:Nat} {x:Ins}:ovH c ⟨i,[],x⟩=[.cells (clC c)]:=rfl
theorem zz0o {c:Clu} {i:Nat} {L:List Int} {x:Ins} (h:L≠[]):ovH c ⟨i,L,x⟩=[.cells (clC c),.cells (inC x),.cells (L.map (.int .i64))]:=if_neg h
theorem zxq0 {n:Nat} {l:List Int}:belowL n (l.map (.int .i64))=true:=zvlb
theorem zw68 {h:List AObj} {l:List Int} {c:List DV} {o x:AObj} {y:Int} (hl:0<l.length) (hb:l.length<4294967296):appX [o,x,.cells (l.map (.int .i64)),.cells c] 1 8 (.ms 2 l.length 0 1 l.length l.length) 1 [.int .i64 y]=some (.ms 2 (l.length+1) 0 1 (l.length+1) (l.length+1),[o,x,.cells ((l++[y]).map (.int .i64)),.cells c]):=by
 have a:objV [o,x,.cells (l.map (.int .i64)),.cells c] 2 l.length=some (l.map (.int .i64)):=by simp [objV,ziu0]
 rw [zbho (by simp) (by omega) (by omega) (by simp) (by omega) (by simp [DV.one]),a,y0b,y04]
 rfl
end
section
def vicD (c:Clu) (k:Int):DV:=liV (zu3j c k)
noncomputable def cCkA (A:Clu→Prop) (f:Clu→Int→DV):List DV→Option DV:=con (fun a:Clu × Int=>A a.1) (fun a:Clu × Int=>[.agg (clC a.1),.int .i64 a.2]) (fun a=>f a.1 a.2)
theorem ztpi {A:Clu→Prop} {f:Clu→Int→DV} {c:Clu} {k:Int} (h:A c):cCkA A f [.agg (clC c),.int .i64 k]=some (f c k) :=
 zzno (f:=fun a:Clu × Int=>[.agg (clC a.1),.int .i64 a.2]) (g:=fun a=>f a.1 a.2) (by
  rintro ⟨a,b⟩ ⟨c,d⟩ e;simp only [List.cons.injEq,DV.agg.injEq,DV.int.injEq,and_true,true_and] at e;rw [zh7t e.1,e.2]) (c,k) h
theorem zaz7:(Con.pure (cCkA VicOK vicD)).Sound P 88:=z2au fun a h=>zljw mix ziby Tryz.func88 zqgj (zbja a.1 a.2 h)
def LimC (c:Clu):Prop := ∀ g ∈ c.g.l,zb68 g
theorem ztkb:(Con.pure (cCkA LimC zc12)).Sound P 89:=z2au fun a h=>zljw mix z3vd Tryz.func89 z42j (zebb a.1 a.2 h)
noncomputable def zrio:List DV→Option DV:=con OvOK (fun a:Clu × Nl × Int=>[.agg (clC a.1),a.2.1.dv,.int .i64 a.2.2]) (fun a=>liV (ze9z a.1.i.l 0 a.2.1.l a.2.2))
theorem z90w {c:Clu} {g:Nl} {t:Int} (h:OvOK (c,g,t)):zrio [.agg (clC c),g.dv,.int .i64 t]=some (liV (ze9z c.i.l 0 g.l t)) :=
 zzno (f:=fun a:Clu × Nl × Int=>[.agg (clC a.1),a.2.1.dv,.int .i64 a.2.2]) (g:=fun a=>liV (ze9z a.1.i.l 0 a.2.1.l a.2.2)) (by
  rintro ⟨a,b,c⟩ ⟨d,e,f⟩ h;simp only [List.cons.injEq,DV.agg.injEq,DV.int.injEq,and_true,true_and] at h;rw [zh7t h.1,z2kw h.2.1,h.2.2]) (c,g,t) h
noncomputable def cTru:List DV→Option DV
 | []=>some (.bool true)|_=>none
theorem zi1x {f:Nat} (h:Am.Sem P f [] (.bool true)):(Con.pure cTru).Sound P f:=by
 intro args v e;unfold cTru at e;split at e
 ·simp at e; subst e; exact h
 ·simp at e
end
section
theorem zty1 (ng:Nat) : ∀ (k:Nat) (l:List Ins) (n:Int) (t:Tp),(zgc4 ng k l n t).2.2.at_≤t.at_+7*k
 | 0,l,n,t=>by simp [zgc4]
 | k+1,l,n,t=>by
  have h1:=zty1 ng k (l++[iIns ng n t]) (n+(1+tpN (iTp ng t) 2)) ((iTp ng t).adv 1);have h2:=zjgn ng t;show (zgc4 ng k (l++[iIns ng n t]) (n+(1+tpN (iTp ng t) 2)) ((iTp ng t).adv 1)).2.2.at_≤_;have h3:((iTp ng t).adv 1).at_=(iTp ng t).at_+1:=rfl;omega
theorem z2ep (t:Tp) (m:Int) (h0:0≤m) (h1:m≤200):(zcpt t m).2.at_≤t.at_+2000:=by
 have d:=z4rs (clD t).2 (m+1);have e:=z2s7 (clD t).2 (n:=m+1) (by omega)
 have a:=zty1 (clD t).1.g.l.length (tpN (clD t).2 (m+1)).toNat [] (clD t).1.next ((clD t).2.adv 1);have b:((clD t).2.adv 1).at_=(clD t).2.at_+1:=rfl;have f:=z4rs (t.adv 1) 2;have h:=z2s7 (t.adv 1) (n:=2) (by omega)
 have c:(clD t).2.at_≤t.at_+2+15*((tpN (t.adv 1) 2).toNat+1):=zkcx _ _ _;show (zgc4 (clD t).1.g.l.length (tpN (clD t).2 (m+1)).toNat [] (clD t).1.next ((clD t).2.adv 1)).2.2.at_≤_;omega
theorem zukg (t:Tp) (m:Int) (h0:0≤m) (h1:m≤200):(zcpt t m).1.i.l.length≤m:=by
 obtain ⟨f,h⟩:=zfm1 t;have j:=z4rs (clD t).2 (m+1);have k:=z2s7 (clD t).2 (n:=m+1) (by omega)
 have a:1≤(clD t).1.g.l.length:=List.length_pos_iff.2 h;obtain ⟨-,-,-,c⟩:=zc7j a (tpN (clD t).2 (m+1)).toNat [] (clD t).1.next ((clD t).2.adv 1) f.n0 ⟨by simp,by simp⟩
 have d:clI t m=zgc4 (clD t).1.g.l.length (tpN (clD t).2 (m+1)).toNat [] (clD t).1.next ((clD t).2.adv 1):=rfl;rw [← d] at c;have b:(zcpt t m).1.i.l=(clI t m).1:=by
  simp only [zcpt];split
  ·rename_i e; rw [e]; rfl
  ·exact z3e9 (by rw [c]; simp; omega)
 rw [b,c]; simp; omega
theorem zo0d {c:Clu} (hv:ValidC c):LimC c:=fun g hg=>by
 obtain ⟨i,hi,rfl⟩:=y0c hg;have h:=(hv.g i hi).1;exact ⟨⟨by have:=h.w0; omega,by have:=h.w1; omega⟩,⟨by have:=h.l0; omega,by have:=h.l1; have:=h.w1; omega⟩,by have:=h.d0; omega,by have:=h.d1; have:=h.w1; omega⟩
theorem zt0b {c:Clu} (hv:ValidC c) (h:c.i.l.length≤19):VicOK c:=⟨h,zo0d hv⟩
theorem zgr5 {c:Clu} {k:Int} (h0:0≤k) (h1:k<c.g.l.length) : ∃ g,grAt c k=some g:=by
 have:k.toNat<c.g.l.length:=by omega
 exact ⟨_,by rw [grAt,if_pos h0,y07 this]⟩
theorem zg2n:(Con.pure (cCi fun c i => .int .i64 (z092 c.i.l i))).Sound P 30:=z2au fun x _=>zljw mix zr5o Tryz.func30 z3f8 (z9e4 x.1 x.2)
end
section
def a91:AFn:=⟨(ql (yc [yZ 2 0,yZ 3 1,yR 4 (.bool false)]) (ql (qk true [yN 5 1 3,yM 6 1 false 5,⟨yg,yh 7,qC .geq (.t 6) (.k (.int .i64 0))⟩,yL 8 7,⟨yh (8,true),yh 9,qL 1 (.t 3)⟩,⟨yh (8,true),yh 10,qH 1 false (.t 9)⟩,⟨yh (8,true),yh 11,qL 0 (.t 2)⟩,⟨yh (8,true),yh 12,qH 1 false (.t 11)⟩,⟨yh (8,true),yh 13,qV (.t 12)⟩,⟨yh (8,true),yh 14,qC .lss (.t 10) (.t 13)⟩,yX 15 8 14,yL 16 15,⟨yh (16,true),yh 17,qL 0 (.t 2)⟩,⟨yh (16,true),yh 18,qH 1 false (.t 17)⟩,⟨yh (16,true),yh 19,qL 1 (.t 3)⟩,⟨yh (16,true),yh 20,qH 1 false (.t 19)⟩,⟨yh (16,true),yh 21,qJ 6 (.t 18) (.t 20)⟩,⟨yh (16,true),yh 22,qL 5 (.t 21)⟩,⟨yh (16,true),yh 23,qH 1 false (.t 22)⟩,⟨yh (16,true),yh 24,qL 2 (.t 3)⟩,⟨yh (16,true),yh 25,qH 32 true (.t 24)⟩,⟨yh (16,true),yh 26,qg (.k (.fn (.func 50) [] [])) [.t 23,.t 25]⟩,yX 27 16 26,yL 4 27]) qq)),28,[.tmp 4]⟩
theorem z07s:zsjc P Tryz.f91=some a91:=by kernel_rfl
def a64:AFn:=⟨(ql (yc [yZ 2 0,yZ 3 1,yR 4 (.bool false)]) (ql (yc [yN 5 34 3,yM 6 1 false 5,⟨yg,yh 7,qC .eql (.t 6) (.k (.int .i64 1))⟩,yL 8 7,⟨yh (8,false),yh 9,qL 34 (.t 3)⟩,⟨yh (8,false),yh 10,qH 1 false (.t 9)⟩,⟨yh (8,false),yh 11,qC .eql (.t 10) (.k (.int .i64 2))⟩,yY 12 8 11,yL 13 12,⟨yh (13,true),yh 14,qL 36 (.t 3)⟩,⟨yh (13,true),yh 15,qH 1 false (.t 14)⟩,⟨yh (13,true),yh 16,qC .eql (.t 15) (.k (.int .i64 (-1)))⟩,yX 17 13 16,yL 18 17,⟨yh (18,true),yh 19,qH 3 true (.t 2)⟩,⟨yh (18,true),yh 20,qH 37 true (.t 3)⟩,⟨yh (18,true),yh 21,qf (.k (.fn (.func 91) [] [])) [.t 19,.t 20]⟩,yX 22 18 21,yL 4 22]) qq)),23,[.tmp 4]⟩
theorem zerh:zsjc P Tryz.f64=some a64:=by kernel_rfl
end
section
def zumm:ACode :=
 (.seq (.seq (.region false [⟨none,(some 7),.mov (.t 6)⟩,
  ⟨none,(some 8),.fld 1 (.t 3)⟩,
  ⟨none,(some 9),.load 1 false (.t 8)⟩,
  ⟨none,(some 10),.len (.t 9)⟩,
  ⟨none,(some 11),.bin .lss (.t 7) (.t 10)⟩])
 (.cond (.t 11) .skip
 (.exit 0)))
 (.seq (.block 1 (.region false [⟨none,(some 14),.mov (.t 5)⟩,
  ⟨none,(some 15),.mov (.t 0)⟩,
  ⟨none,(some 16),.call (.k (.fn (.func 13) [] [])) [(.t 15),(.k (.int .i64 25))]⟩,
  ⟨none,(some 17),.bsl 1 1 [(.int .i64 0)] [(0,1,(.t 16))]⟩,
  ⟨none,(some 18),.app 1 8 (.t 14) (.t 17)⟩,
  ⟨none,(some 5),.mov (.t 18)⟩]))
 (.region false [⟨none,(some 12),.mov (.t 6)⟩,
  ⟨none,(some 13),.bin .add (.t 12) (.k (.int .i64 1))⟩,
  ⟨none,(some 6),.mov (.t 13)⟩])))
def z96a (x0 x3 x5 x6:DV) (h:List AObj):St:=⟨[x0,.junk,.junk,x3,.junk,x5,x6]++js 13,h⟩
def a41:AFn:=⟨(ql (yc [yZ 3 1,yR 4 .nils]) (ql (yc [yR 5 .nils]) (ql (ql (yc [yR 6 (.int .i64 0)]) (qn 0 (qo zumm))) (ql (yc [yL 19 5,yL 4 19]) qq)))),20,[.tmp 4]⟩
theorem z5y8:zsjc P Tryz.f41=some a41:=by kernel_rfl
def zx0e:ACode :=
 (.seq (.seq (.region false [⟨none,(some 11),.mov (.t 8)⟩,
  ⟨none,(some 12),.fld 1 (.t 3)⟩,
  ⟨none,(some 13),.load 1 false (.t 12)⟩,
  ⟨none,(some 14),.len (.t 13)⟩,
  ⟨none,(some 15),.bin .lss (.t 11) (.t 14)⟩])
 (.cond (.t 15) .skip
 (.exit 0)))
 (.seq (.block 1 (.seq (.region false [⟨none,(some 18),.fld 1 (.t 3)⟩,
  ⟨none,(some 19),.load 1 false (.t 18)⟩,
  ⟨none,(some 20),.mov (.t 8)⟩,
  ⟨none,(some 21),.idxS 37 (.t 19) (.t 20)⟩,
  ⟨none,(some 22),.load 37 true (.t 21)⟩,
  ⟨none,(some 9),.alloc yz60⟩,
  ⟨none,none,.store 37 (.t 9) (.t 22)⟩,
  ⟨none,(some 10),.mov (.k (.int .i64 0))⟩])
 (.seq (.seq (.region false [⟨none,(some 23),.mov (.t 8)⟩,
  ⟨none,(some 24),.mov (.t 1)⟩,
  ⟨none,(some 25),.len (.t 24)⟩,
  ⟨none,(some 26),.bin .lss (.t 23) (.t 25)⟩])
 (.cond (.t 26) (.region false [⟨none,(some 27),.mov (.t 1)⟩,
  ⟨none,(some 28),.mov (.t 8)⟩,
  ⟨none,(some 29),.idxS 1 (.t 27) (.t 28)⟩,
  ⟨none,(some 30),.load 1 false (.t 29)⟩,
  ⟨none,(some 10),.mov (.t 30)⟩])
 .skip))
 (.seq (.region false [⟨none,(some 31),.fld 34 (.t 9)⟩,
  ⟨none,(some 32),.load 1 false (.t 31)⟩,
  ⟨none,(some 33),.bin .eql (.t 32) (.k (.int .i64 1))⟩,
  ⟨none,(some 34),.mov (.t 33)⟩,
  ⟨(some (34,false)),(some 35),.fld 34 (.t 9)⟩,
  ⟨(some (34,false)),(some 36),.load 1 false (.t 35)⟩,
  ⟨(some (34,false)),(some 37),.bin .eql (.t 36) (.k (.int .i64 2))⟩,
  ⟨none,(some 38),.pick (.t 34) (.k (.bool true)) (.t 37)⟩,
  ⟨none,(some 39),.mov (.t 38)⟩,
  ⟨(some (39,true)),(some 40),.fld 36 (.t 9)⟩,
  ⟨(some (39,true)),(some 41),.load 1 false (.t 40)⟩,
  ⟨(some (39,true)),(some 42),.bin .geq (.t 41) (.k (.int .i64 0))⟩,
  ⟨none,(some 43),.pick (.t 39) (.t 42) (.k (.bool false))⟩,
  ⟨none,(some 44),.mov (.t 43)⟩,
  ⟨(some (44,true)),(some 45),.mov (.t 2)⟩,
  ⟨(some (44,true)),(some 46),.fld 36 (.t 9)⟩,
  ⟨(some (44,true)),(some 47),.load 1 false (.t 46)⟩,
  ⟨(some (44,true)),(some 48),.bin .sub (.t 45) (.t 47)⟩,
  ⟨(some (44,true)),(some 49),.mov (.t 10)⟩,
  ⟨(some (44,true)),(some 50),.bin .geq (.t 48) (.t 49)⟩,
  ⟨none,(some 51),.pick (.t 44) (.t 50) (.k (.bool false))⟩])
 (.cond (.t 51) (.region false [⟨none,(some 52),.mov (.t 7)⟩,
  ⟨none,(some 53),.fld 0 (.t 9)⟩,
  ⟨none,(some 54),.load 1 false (.t 53)⟩,
  ⟨none,(some 55),.bsl 1 1 [(.int .i64 0)] [(0,1,(.t 54))]⟩,
  ⟨none,(some 56),.app 1 8 (.t 52) (.t 55)⟩,
  ⟨none,(some 7),.mov (.t 56)⟩])
 .skip)))))
 (.region false [⟨none,(some 16),.mov (.t 8)⟩,
  ⟨none,(some 17),.bin .add (.t 16) (.k (.int .i64 1))⟩,
  ⟨none,(some 8),.mov (.t 17)⟩])))
def z8ja (x1 x2 x3 x7 x8:DV) (h:List AObj):St:=⟨[.junk,x1,x2,x3,.junk,.junk,.junk,x7,x8]++js 49,h⟩
def a32:AFn:=⟨(ql (yc [yZ 3 0,yR 6 .nils]) (ql (yc [yR 7 .nils]) (ql (ql (yc [yR 8 (.int .i64 0)]) (qn 0 (qo zx0e))) (ql (yc [yL 57 7,yL 6 57]) qq)))),58,[.tmp 6]⟩
theorem zvrg:zsjc P Tryz.f32=some a32:=by kernel_rfl
end
section
def zx6w:ACode :=
 (.seq (.seq (.region false [⟨none,(some 7),.mov (.t 6)⟩,
  ⟨none,(some 8),.fld 1 (.t 2)⟩,
  ⟨none,(some 9),.load 1 false (.t 8)⟩,
  ⟨none,(some 10),.len (.t 9)⟩,
  ⟨none,(some 11),.bin .lss (.t 7) (.t 10)⟩])
 (.cond (.t 11) .skip
 (.exit 0)))
 (.seq (.block 1 (.seq (.region false [⟨none,(some 14),.fld 1 (.t 2)⟩,
  ⟨none,(some 15),.load 1 false (.t 14)⟩,
  ⟨none,(some 16),.mov (.t 6)⟩,
  ⟨none,(some 17),.idxS 37 (.t 15) (.t 16)⟩,
  ⟨none,(some 18),.fld 1 (.t 17)⟩,
  ⟨none,(some 19),.load 1 false (.t 18)⟩,
  ⟨none,(some 20),.mov (.t 1)⟩,
  ⟨none,(some 21),.bin .eql (.t 19) (.t 20)⟩,
  ⟨none,(some 22),.mov (.t 21)⟩,
  ⟨(some (22,true)),(some 23),.fld 1 (.t 2)⟩,
  ⟨(some (22,true)),(some 24),.load 1 false (.t 23)⟩,
  ⟨(some (22,true)),(some 25),.mov (.t 6)⟩,
  ⟨(some (22,true)),(some 26),.idxS 37 (.t 24) (.t 25)⟩,
  ⟨(some (22,true)),(some 27),.fld 34 (.t 26)⟩,
  ⟨(some (22,true)),(some 28),.load 1 false (.t 27)⟩,
  ⟨(some (22,true)),(some 29),.bin .eql (.t 28) (.k (.int .i64 2))⟩,
  ⟨none,(some 30),.pick (.t 22) (.t 29) (.k (.bool false))⟩])
 (.cond (.t 30) (.region false [⟨none,(some 31),.mov (.t 5)⟩,
  ⟨none,(some 32),.bin .add (.t 31) (.k (.int .i64 1))⟩,
  ⟨none,(some 5),.mov (.t 32)⟩])
 .skip)))
 (.region false [⟨none,(some 12),.mov (.t 6)⟩,
  ⟨none,(some 13),.bin .add (.t 12) (.k (.int .i64 1))⟩,
  ⟨none,(some 6),.mov (.t 13)⟩])))
def z225 (x1 x2 x5 x6:DV) (h:List AObj):St:=⟨[.junk,x1,x2,.junk,.junk,x5,x6]++js 27,h⟩
def a34:AFn:=⟨(ql (yc [yZ 2 0,yR 4 (.int .i64 0)]) (ql (yc [yR 5 (.int .i64 0)]) (ql (ql (yc [yR 6 (.int .i64 0)]) (qn 0 (qo zx6w))) (ql (yc [yL 33 5,yL 4 33]) qq)))),34,[.tmp 4]⟩
theorem zk28:zsjc P Tryz.f34=some a34:=by kernel_rfl
def zlo9:ACode :=
 (.seq (.seq (.region false [⟨none,(some 7),.mov (.t 6)⟩,
  ⟨none,(some 8),.fld 1 (.t 2)⟩,
  ⟨none,(some 9),.load 1 false (.t 8)⟩,
  ⟨none,(some 10),.len (.t 9)⟩,
  ⟨none,(some 11),.bin .lss (.t 7) (.t 10)⟩])
 (.cond (.t 11) .skip
 (.exit 0)))
 (.seq (.block 1 (.seq (.region true [⟨none,(some 14),.fld 1 (.t 2)⟩,
  ⟨none,(some 15),.load 1 false (.t 14)⟩,
  ⟨none,(some 16),.mov (.t 6)⟩,
  ⟨none,(some 17),.idxS 37 (.t 15) (.t 16)⟩,
  ⟨none,(some 18),.fld 1 (.t 17)⟩,
  ⟨none,(some 19),.load 1 false (.t 18)⟩,
  ⟨none,(some 20),.mov (.t 1)⟩,
  ⟨none,(some 21),.bin .eql (.t 19) (.t 20)⟩,
  ⟨none,(some 22),.mov (.t 21)⟩,
  ⟨(some (22,true)),(some 23),.load 3 true (.t 2)⟩,
  ⟨(some (22,true)),(some 24),.fld 1 (.t 2)⟩,
  ⟨(some (22,true)),(some 25),.load 1 false (.t 24)⟩,
  ⟨(some (22,true)),(some 26),.mov (.t 6)⟩,
  ⟨(some (22,true)),(some 27),.idxS 37 (.t 25) (.t 26)⟩,
  ⟨(some (22,true)),(some 28),.load 37 true (.t 27)⟩,
  ⟨(some (22,true)),(some 29),.callN (.k (.fn (.func 64) [] [])) [(.t 23),(.t 28)]⟩,
  ⟨none,(some 30),.pick (.t 22) (.t 29) (.k (.bool false))⟩])
 (.cond (.t 30) (.region false [⟨none,(some 31),.mov (.t 5)⟩,
  ⟨none,(some 32),.fld 1 (.t 2)⟩,
  ⟨none,(some 33),.load 1 false (.t 32)⟩,
  ⟨none,(some 34),.mov (.t 6)⟩,
  ⟨none,(some 35),.idxS 37 (.t 33) (.t 34)⟩,
  ⟨none,(some 36),.fld 0 (.t 35)⟩,
  ⟨none,(some 37),.load 1 false (.t 36)⟩,
  ⟨none,(some 38),.bsl 1 1 [(.int .i64 0)] [(0,1,(.t 37))]⟩,
  ⟨none,(some 39),.app 1 8 (.t 31) (.t 38)⟩,
  ⟨none,(some 5),.mov (.t 39)⟩])
 .skip)))
 (.region false [⟨none,(some 12),.mov (.t 6)⟩,
  ⟨none,(some 13),.bin .add (.t 12) (.k (.int .i64 1))⟩,
  ⟨none,(some 6),.mov (.t 13)⟩])))
def zp5l (x1 x2 x5 x6:DV) (h:List AObj):St:=⟨[.junk,x1,x2,.junk,.junk,x5,x6]++js 34,h⟩
def a36:AFn:=⟨(ql (yc [yZ 2 0,yR 4 .nils]) (ql (yc [yR 5 .nils]) (ql (ql (yc [yR 6 (.int .i64 0)]) (qn 0 (qo zlo9))) (ql (yc [yL 40 5,yL 4 40]) qq)))),41,[.tmp 4]⟩
theorem zj68:zsjc P Tryz.f36=some a36:=by kernel_rfl
def a35:AFn:=⟨(ql (yc [yZ 2 0,yR 4 (.int .i64 0)]) (ql (ql (yc [yL 6 1,⟨yg,yh 7,qC .lss (.t 6) (.k (.int .i64 0))⟩,yL 8 7,⟨yh (8,false),yh 9,qA (.t 1)⟩,⟨yh (8,false),yh 10,qL 0 (.t 2)⟩,⟨yh (8,false),yh 11,qH 1 false (.t 10)⟩,⟨yh (8,false),yh 12,qV (.t 11)⟩,⟨yh (8,false),yh 13,qC .geq (.t 9) (.t 12)⟩,yY 14 8 13]) (yd 14 (ql (yc [yR 4 (.int .i64 0)]) qq) qj)) (ql (yc [yN 15 0 2,yM 16 1 false 15,yL 17 1,yQ 18 6 16 17,yM 19 6 true 18,⟨yg,yh 5,qR [(.str []),(.str []),(.int .i64 0),(.int .i64 0),(.int .i64 0),.nils]⟩,ya 6 5 19]) (ql (qk true [yM 20 3 true 2,yL 21 1,yN 23 3 5,yM 24 1 false 23,yN 25 2 5,yM 26 1 false 25,yN 27 4 5,yM 28 1 false 27,yO 29 .sub 26 28,⟨yg,yh 30,qi true [.t 24,.t 29]⟩,yV 22 34 [.t 20,.t 21],yO 31 .sub 22 30,⟨yg,yh 32,qi true [(.k (.int .i64 0)),.t 31]⟩,yL 4 32]) qq)))),33,[.tmp 4]⟩
theorem zxwh:zsjc P Tryz.f35=some a35:=by kernel_rfl
def zqqa:ACode :=
 (.seq (.seq (.region true [⟨none,(some 50),.mov (.t 10)⟩,
  ⟨none,(some 51),.bin .gtr (.t 50) (.k (.int .i64 0))⟩,
  ⟨none,(some 52),.mov (.t 51)⟩,
  ⟨(some (52,true)),(some 53),.mov (.t 5)⟩,
  ⟨(some (52,true)),(some 54),.mov (.t 10)⟩,
  ⟨(some (52,true)),(some 55),.bin .sub (.t 54) (.k (.int .i64 1))⟩,
  ⟨(some (52,true)),(some 56),.idxS 37 (.t 53) (.t 55)⟩,
  ⟨(some (52,true)),(some 57),.fld 36 (.t 56)⟩,
  ⟨(some (52,true)),(some 58),.load 1 false (.t 57)⟩,
  ⟨(some (52,true)),(some 59),.fld 36 (.t 9)⟩,
  ⟨(some (52,true)),(some 60),.load 1 false (.t 59)⟩,
  ⟨(some (52,true)),(some 61),.bin .gtr (.t 58) (.t 60)⟩,
  ⟨none,(some 62),.pick (.t 52) (.t 61) (.k (.bool false))⟩])
 (.cond (.t 62) .skip
 (.exit 2)))
 (.block 3 (.region false [⟨none,(some 63),.mov (.t 10)⟩,
  ⟨none,(some 64),.bin .sub (.t 63) (.k (.int .i64 1))⟩,
  ⟨none,(some 10),.mov (.t 64)⟩])))
def zu6f (x1 x2 x5 x6 x7 x8 x9 x10:DV) (h:List AObj):St:=⟨[.junk,x1,x2,.junk,.junk,x5,x6,x7,x8,x9,x10]++js 141,h⟩
def zrck:ACode :=
 (.seq (.seq (.region false [⟨none,(some 24),.mov (.t 8)⟩,
  ⟨none,(some 25),.fld 1 (.t 2)⟩,
  ⟨none,(some 26),.load 1 false (.t 25)⟩,
  ⟨none,(some 27),.len (.t 26)⟩,
  ⟨none,(some 28),.bin .lss (.t 24) (.t 27)⟩])
 (.cond (.t 28) .skip
 (.exit 0)))
 (.seq (.block 1 (.seq (.region false [⟨none,(some 31),.fld 1 (.t 2)⟩,
  ⟨none,(some 32),.load 1 false (.t 31)⟩,
  ⟨none,(some 33),.mov (.t 8)⟩,
  ⟨none,(some 34),.idxS 37 (.t 32) (.t 33)⟩,
  ⟨none,(some 35),.load 37 true (.t 34)⟩,
  ⟨none,(some 9),.alloc yz60⟩,
  ⟨none,none,.store 37 (.t 9) (.t 35)⟩])
 (.seq (.seq (.region false [⟨none,(some 36),.fld 1 (.t 9)⟩,
  ⟨none,(some 37),.load 1 false (.t 36)⟩,
  ⟨none,(some 38),.mov (.t 1)⟩,
  ⟨none,(some 39),.bin .neq (.t 37) (.t 38)⟩,
  ⟨none,(some 40),.mov (.t 39)⟩,
  ⟨(some (40,false)),(some 41),.fld 34 (.t 9)⟩,
  ⟨(some (40,false)),(some 42),.load 1 false (.t 41)⟩,
  ⟨(some (40,false)),(some 43),.bin .neq (.t 42) (.k (.int .i64 2))⟩,
  ⟨none,(some 44),.pick (.t 40) (.k (.bool true)) (.t 43)⟩])
 (.cond (.t 44) (.exit 1)
 .skip))
 (.seq (.region false [⟨none,(some 45),.fld 36 (.t 9)⟩,
  ⟨none,(some 46),.load 1 false (.t 45)⟩,
  ⟨none,(some 47),.bin .geq (.t 46) (.k (.int .i64 0))⟩])
 (.cond (.t 47) (.seq (.region false [⟨none,(some 48),.mov (.t 5)⟩,
  ⟨none,(some 49),.len (.t 48)⟩,
  ⟨none,(some 10),.mov (.t 49)⟩])
 (.seq (.block 2 (.loop zqqa))
 (.region true [⟨none,(some 65),.mov (.t 5)⟩,
  ⟨none,(some 66),.mov (.t 10)⟩,
  ⟨none,(some 67),.slcS 37 (.t 65) none (some (.t 66)) none⟩,
  ⟨none,(some 68),.app 37 72 (.k .nils) (.t 67)⟩,
  ⟨none,(some 69),.load 37 true (.t 9)⟩,
  ⟨none,(some 70),.bsl 37 1 yz60 [(0,37,(.t 69))]⟩,
  ⟨none,(some 71),.app 37 72 (.t 68) (.t 70)⟩,
  ⟨none,(some 72),.mov (.t 5)⟩,
  ⟨none,(some 73),.mov (.t 10)⟩,
  ⟨none,(some 74),.slcS 37 (.t 72) (some (.t 73)) none none⟩,
  ⟨none,(some 75),.app 37 72 (.t 71) (.t 74)⟩,
  ⟨none,(some 5),.mov (.t 75)⟩,
  ⟨none,none,.apart (.t 9) (.t 68)⟩,
  ⟨none,none,.apart (.t 72) (.t 68)⟩,
  ⟨none,none,.apart (.t 72) (.t 71)⟩])))
 (.seq (.region false [⟨none,(some 76),.load 3 true (.t 2)⟩,
  ⟨none,(some 77),.load 37 true (.t 9)⟩,
  ⟨none,(some 78),.call (.k (.fn (.func 91) [] [])) [(.t 76),(.t 77)]⟩,
  ⟨none,(some 79),.un .not (.t 78)⟩])
 (.cond (.t 79) (.region false [⟨none,(some 80),.mov (.t 6)⟩,
  ⟨none,(some 81),.fld 0 (.t 9)⟩,
  ⟨none,(some 82),.load 1 false (.t 81)⟩,
  ⟨none,(some 83),.bsl 1 1 [(.int .i64 0)] [(0,1,(.t 82))]⟩,
  ⟨none,(some 84),.app 1 8 (.t 80) (.t 83)⟩,
  ⟨none,(some 6),.mov (.t 84)⟩])
 .skip)))))))
 (.region false [⟨none,(some 29),.mov (.t 8)⟩,
  ⟨none,(some 30),.bin .add (.t 29) (.k (.int .i64 1))⟩,
  ⟨none,(some 8),.mov (.t 30)⟩])))
def z5n4 (x1 x2 x5 x6 x7 x8:DV) (h:List AObj):St:=⟨[.junk,x1,x2,.junk,.junk,x5,x6,x7,x8]++js 143,h⟩
def zn6l:ACode :=
 (.seq (.seq (.region false [⟨none,(some 85),.mov (.t 11)⟩,
  ⟨none,(some 86),.mov (.t 5)⟩,
  ⟨none,(some 87),.len (.t 86)⟩,
  ⟨none,(some 88),.bin .lss (.t 85) (.t 87)⟩])
 (.cond (.t 88) .skip
 (.exit 4)))
 (.seq (.block 5 (.region false [⟨none,(some 91),.mov (.t 7)⟩,
  ⟨none,(some 92),.mov (.t 5)⟩,
  ⟨none,(some 93),.mov (.t 11)⟩,
  ⟨none,(some 94),.idxS 37 (.t 92) (.t 93)⟩,
  ⟨none,(some 95),.fld 0 (.t 94)⟩,
  ⟨none,(some 96),.load 1 false (.t 95)⟩,
  ⟨none,(some 97),.bsl 1 1 [(.int .i64 0)] [(0,1,(.t 96))]⟩,
  ⟨none,(some 98),.app 1 8 (.t 91) (.t 97)⟩,
  ⟨none,(some 7),.mov (.t 98)⟩]))
 (.region false [⟨none,(some 89),.mov (.t 11)⟩,
  ⟨none,(some 90),.bin .add (.t 89) (.k (.int .i64 1))⟩,
  ⟨none,(some 11),.mov (.t 90)⟩])))
def zlru (x1 x2 x5 x6 x7 x11:DV) (h:List AObj):St:=⟨[.junk,x1,x2,.junk,.junk,x5,x6,x7,.junk,.junk,.junk,x11]++js 140,h⟩
def zxb1:ACode :=
 (.seq (.seq (.region false [⟨none,(some 117),.mov (.t 13)⟩,
  ⟨none,(some 118),.bin .geq (.t 117) (.k (.int .i64 0))⟩,
  ⟨none,(some 119),.mov (.t 118)⟩,
  ⟨(some (119,true)),(some 120),.mov (.t 12)⟩,
  ⟨(some (119,true)),(some 121),.bin .gtr (.t 120) (.k (.int .i64 0))⟩,
  ⟨none,(some 122),.pick (.t 119) (.t 121) (.k (.bool false))⟩])
 (.cond (.t 122) .skip
 (.exit 6)))
 (.seq (.block 7 (.seq (.region false [⟨none,(some 125),.fld 1 (.t 2)⟩,
  ⟨none,(some 126),.load 1 false (.t 125)⟩,
  ⟨none,(some 127),.mov (.t 13)⟩,
  ⟨none,(some 128),.idxS 37 (.t 126) (.t 127)⟩,
  ⟨none,(some 129),.load 37 true (.t 128)⟩,
  ⟨none,(some 14),.alloc yz60⟩,
  ⟨none,none,.store 37 (.t 14) (.t 129)⟩])
 (.seq (.region false [⟨none,(some 130),.fld 1 (.t 14)⟩,
  ⟨none,(some 131),.load 1 false (.t 130)⟩,
  ⟨none,(some 132),.mov (.t 1)⟩,
  ⟨none,(some 133),.bin .eql (.t 131) (.t 132)⟩,
  ⟨none,(some 134),.mov (.t 133)⟩,
  ⟨(some (134,true)),(some 135),.fld 34 (.t 14)⟩,
  ⟨(some (134,true)),(some 136),.load 1 false (.t 135)⟩,
  ⟨(some (134,true)),(some 137),.bin .eql (.t 136) (.k (.int .i64 2))⟩,
  ⟨none,(some 138),.pick (.t 134) (.t 137) (.k (.bool false))⟩,
  ⟨none,(some 139),.mov (.t 138)⟩,
  ⟨(some (139,true)),(some 140),.load 3 true (.t 2)⟩,
  ⟨(some (139,true)),(some 141),.load 37 true (.t 14)⟩,
  ⟨(some (139,true)),(some 142),.call (.k (.fn (.func 64) [] [])) [(.t 140),(.t 141)]⟩,
  ⟨none,(some 143),.pick (.t 139) (.t 142) (.k (.bool false))⟩])
 (.cond (.t 143) (.seq (.region false [⟨none,(some 144),.mov (.t 7)⟩,
  ⟨none,(some 145),.fld 0 (.t 14)⟩,
  ⟨none,(some 146),.load 1 false (.t 145)⟩,
  ⟨none,(some 147),.bsl 1 1 [(.int .i64 0)] [(0,1,(.t 146))]⟩,
  ⟨none,(some 148),.app 1 8 (.t 144) (.t 147)⟩,
  ⟨none,(some 7),.mov (.t 148)⟩])
 (.region false [⟨none,(some 149),.mov (.t 12)⟩,
  ⟨none,(some 150),.bin .sub (.t 149) (.k (.int .i64 1))⟩,
  ⟨none,(some 12),.mov (.t 150)⟩]))
 .skip))))
 (.region false [⟨none,(some 123),.mov (.t 13)⟩,
  ⟨none,(some 124),.bin .sub (.t 123) (.k (.int .i64 1))⟩,
  ⟨none,(some 13),.mov (.t 124)⟩])))
def zk3h (x1 x2 x7 x12 x13:DV) (h:List AObj):St:=⟨[.junk,x1,x2]++js 4++[x7]++js 4++[x12,x13]++js 138,h⟩
def a92:AFn:=⟨(ql (yc [yZ 2 0,yR 4 .nils]) (ql (ql (yc [yL 15 1,⟨yg,yh 16,qC .lss (.t 15) (.k (.int .i64 0))⟩,yL 17 16,⟨yh (17,false),yh 18,qA (.t 1)⟩,⟨yh (17,false),yh 19,qL 0 (.t 2)⟩,⟨yh (17,false),yh 20,qH 1 false (.t 19)⟩,⟨yh (17,false),yh 21,qV (.t 20)⟩,⟨yh (17,false),yh 22,qC .geq (.t 18) (.t 21)⟩,yY 23 17 22]) (yd 23 (ql (yc [yR 4 .nils]) qq) qj)) (ql (yc [yR 5 .nils]) (ql (yc [yR 6 .nils,yR 7 .nils]) (ql (ql (yc [yR 8 (.int .i64 0)]) (qn 0 (qo zrck))) (ql (ql (yc [yR 11 (.int .i64 0)]) (qn 4 (qo zn6l))) (ql (yc [yL 99 7,yL 100 6,⟨yg,yh 101,qX 1 8 (.t 99) (.t 100)⟩,yL 7 101]) (ql (qk true [yM 102 3 true 2,yL 103 1,yN 106 0 2,yM 107 1 false 106,yL 108 1,yQ 109 6 107 108,yN 110 2 109,yM 111 1 false 110,yV 104 36 [.t 102,.t 103],yS 105 104,yO 112 .sub 105 111,yL 12 112]) (ql (ql (yc [yN 113 1 2,yM 114 1 false 113,yS 115 114,⟨yg,yh 116,qC .sub (.t 115) (.k (.int .i64 1))⟩,yL 13 116]) (qn 6 (qo zxb1))) (ql (yc [yL 151 7,yL 4 151]) qq)))))))))),152,[.tmp 4]⟩
theorem zypd:zsjc P Tryz.f92=some a92:=by kernel_rfl
end
section
def choR (c:Clu) (x:Ins):Bool:=match grAt c x.grp with
 | some g=>decide (x.art ∈ g.ch.l)
 | none=>false
def zape (c:Clu) (x:Ins):Bool:=(decide (x.state=1)||decide (x.state=2))&&(decide (x.den = -1)&&choR c x)
noncomputable def T270:Tbl:=addT 50 (.pure (cDgs hasB)) tbl0
theorem zm28:T270 50 = .pure (cDgs hasB):=by simp [T270]
theorem z99y:T270.Sound P:=z0rp (z2au fun p _=>zljw mix zr5o Tryz.func50 z12y (zfg2 p.1 p.2)) zr5o
theorem zbrc (c:Clu) (x:Ins):Runs T270 a91 [.agg (clC c),.agg (inC x)] (.bool (choR c x)):=by
 refine ⟨?_⟩;by_cases h0:0≤x.grp
 ·obtain ⟨K,e⟩ : ∃ K:Nat,x.grp=K:=⟨x.grp.toNat,by omega⟩
  have d:(0:Int)≤K:=by omega
  by_cases h1:K<c.g.l.length
  ·have a:(K:Int)<c.g.l.length:=by omega
   have f:=fun h=>zalo (x:=c.g) (h:=h) zry4 h1
   have b:choR c x=decide (x.art ∈ c.g.l[K].ch.l):=by rw [choR,e,zlav h1]
   simp (disch:=first|omega|simp<;>omega|fail) [-zE,a91,e,d,h1,a,f,zm28,ztlh,hasB,b]
  ·have a:¬ (K:Int)<c.g.l.length:=by omega
   have b:choR c x=false:=by rw [choR,e,zxgx (by omega)]
   simp (disch:=first|omega|simp<;>omega|fail) [-zE,a91,e,d,h1,a,b]
 ·have b:choR c x=false:=by rw [choR,zkxy (by omega)]
  simp (disch:=first|omega|simp<;>omega|fail) [-zE,a91,h0,b]
noncomputable def cCx (f:Clu→Ins→Bool):List DV→Option DV:=con (fun _=>True) (fun a:Clu × Ins=>[.agg (clC a.1),.agg (inC a.2)]) (fun a => .bool (f a.1 a.2))
theorem z6nc {f:Clu→Ins→Bool} {c:Clu} {x:Ins}:cCx f [.agg (clC c),.agg (inC x)]=some (.bool (f c x)) :=
 zsn4 (f:=fun a:Clu × Ins=>[.agg (clC a.1),.agg (inC a.2)]) (g:=fun a => .bool (f a.1 a.2)) (by
  rintro ⟨a,b⟩ ⟨c,d⟩ e;simp only [List.cons.injEq,DV.agg.injEq,and_true] at e;rw [zh7t e.1,zpbj e.2]) (c,x)
theorem zixh:(Con.pure (cCx choR)).Sound P 91:=z2au fun a _=>zljw mix z99y Tryz.func91 z07s (zbrc a.1 a.2)
noncomputable def T271:Tbl:=addT 91 (.pure (cCx choR)) tbl0
theorem zyyn:T271 91 = .pure (cCx choR):=by simp [T271]
theorem zjcz:T271.Sound P:=z0rp zixh zr5o
theorem zuu0 (c:Clu) (x:Ins):Runs T271 a64 [.agg (clC c),.agg (inC x)] (.bool (zape c x)):=by
 refine ⟨?_⟩;by_cases h1:x.state=1
 ·by_cases h3:x.den = -1
  ·simp (disch:=first|omega|simp<;>omega|fail) [-zE,a64,zape,h1,h3,zyyn,z6nc]
  ·simp (disch:=first|omega|simp<;>omega|fail) [-zE,a64,zape,h1,h3,zyyn,z6nc]
 ·by_cases h2:x.state=2
  ·by_cases h3:x.den = -1
   ·simp (disch:=first|omega|simp<;>omega|fail) [-zE,a64,zape,h1,h2,h3,zyyn,z6nc]
   ·simp (disch:=first|omega|simp<;>omega|fail) [-zE,a64,zape,h1,h2,h3,zyyn,z6nc]
  ·simp (disch:=first|omega|simp<;>omega|fail) [-zE,a64,zape,h1,h2,zyyn,z6nc]
theorem zqrb:(Con.pure (cCx zape)).Sound P 64:=z2au fun a _=>zljw mix zjcz Tryz.func64 zerh (zuu0 a.1 a.2)
theorem zc1g {c:Clu} {x:Ins} {k:Int} {g:Grp} (hg:grAt c k=some g) (hx:x.grp=k):zape c x=zj6b g x:=by
 simp only [zape,zj6b,choR,hx,hg]
end
section
def graL (t:Tp) (n:Nat):List Int:=(List.range n).map fun i=>tpN (t.adv i) 25
theorem zw91 {t:Tp} {n:Nat}:graL t (n+1)=graL t n++[tpN (t.adv n) 25]:=by simp [graL,List.range_succ]
theorem zuov {t:Tp} {n:Nat}:(graL t n).length=n:=by simp [graL]
theorem z3e0 {t:Tp} {n:Nat} {x:Int} (h:x ∈ graL t n):0≤x∧x<25:=by
 obtain ⟨i,_,rfl⟩:=List.mem_map.1 h;exact ⟨z4rs _ _,z2s7 _ (by decide)⟩
noncomputable def T290:Tbl:=addT 13 (.tch z1m3) tbl0
theorem zsmr:T290 13 = .tch z1m3:=by simp [T290]
theorem zgkm:T290.Sound P:=z0rp z51e zr5o
theorem zzdw {l:List Int} {o x:AObj} {y:Int} (hl:0<l.length) (hb:l.length<4294967296):appX [o,x,.cells (l.map (.int .i64))] 1 8 (.ms 2 l.length 0 1 l.length l.length) 1 [.int .i64 y]=some (.ms 2 (l.length+1) 0 1 (l.length+1) (l.length+1),[o,x,.cells ((l++[y]).map (.int .i64))]):=by
 have a:objV [o,x,.cells (l.map (.int .i64))] 2 l.length=some (l.map (.int .i64)):=by simp [objV,ziu0]
 rw [zbho (by simp) (by omega) (by omega) (by simp) (by omega) (by simp [DV.one]),a,y0b,y04]
 rfl
def gr3 (t:Tp) (c:Clu) (L:List Int):List AObj:=if L=[] then [.cells (tpC t),.cells (clC c)] else [.cells (tpC t),.cells (clC c),.cells (L.map (.int .i64))]
theorem zbhy {t:Tp} {c:Clu}:gr3 t c []=[.cells (tpC t),.cells (clC c)]:=rfl
theorem zdlm {t:Tp} {c:Clu} {L:List Int} (h:L≠[]):gr3 t c L=[.cells (tpC t),.cells (clC c),.cells (L.map (.int .i64))]:=if_neg h
def S290 (t:Tp) (c:Clu) (i:Nat):St:=z96a (.mp 0 2 0) (.mp 1 3 0) (srtV 2 (graL t i)) (.int .i64 i) (gr3 (t.adv i) c (graL t i))
theorem zywt (t:Tp) (c:Clu) (ht:t.at_<4000000000) (hn:c.i.l.length≤1000):RunsF T290 a41 [.mp 0 2 0,.agg (clC c)] [.cells (tpC t)] (liV (graL t c.i.l.length)) [.cells (tpC (t.adv c.i.l.length))]:=by
 refine ⟨?_⟩;obtain ⟨n,f⟩ : ∃ n,c.i.l.length=n:=⟨_,rfl⟩;rw [f] at hn ⊢;simp (disch:=first|omega|simp<;>omega|fail) [-zA,-zB,-zC,-zD,-zE,a41];refine zlm5 (S290 t c) (fun i=>n-i) (fun i=>i≤n) 0 (z515 (by simp (disch:=first|omega|simp<;>omega|fail) [-zA,-zB,-zC,-zD,-zE,S290,z96a,graL,srtV]) (by simp (disch:=first|omega|simp<;>omega|fail) [-zA,-zB,-zC,-zD,-zE,S290,z96a,graL,gr3,zbrh])) (by omega) (fun i hi => ?_)
 simp (disch:=first|omega|simp<;>omega|fail) [-zA,-zB,-zC,-zD,-zE,zumm,z96a,S290,f];have b:=zuov (t:=t) (n:=i);have d:=zw91 (t:=t) (n:=i);have u:=z44h (t:=t.adv i) (n:=25) (by show t.at_+i<_; omega) (by decide) (by decide)
 rw [zjmf] at u;obtain ⟨L,s⟩ : ∃ L,graL t i=L:=⟨_,rfl⟩;rw [s] at b d;rw [s];by_cases h:i<n
 ·have j:(i:Int)<n:=by omega
  obtain ⟨y,A⟩ : ∃ y,tpN (t.adv i) 25=y:=⟨_,rfl⟩;rw [A] at u d;by_cases q:L=[]
  ·subst q;simp (disch:=first|omega|simp<;>omega|fail) [-zA,-zB,-zC,-zD,-zE,f,h,j,zsmr,u,zh11,zbhy];have g:srtV 2 (graL t (i+1)) = .ms 2 1 0 1 1 1:=by rw [d]; rfl
   have v:gr3 (t.adv (i+1)) c (graL t (i+1))=[.cells (tpC (t.adv (i+1))),.cells (clC c),.cells [.int .i64 y]]:=by rw [d]; rfl
   exact ⟨i+1,z515 (by simp (disch:=first|omega|simp<;>omega|fail) [-zA,-zB,-zC,-zD,-zE,S290,z96a,g]) (by simp (disch:=first|omega|simp<;>omega|fail) [-zA,-zB,-zC,-zD,-zE,S290,z96a,v]),by omega,by omega⟩
  ·have g:=zgky (p:=2) q;have w:0<L.length:=by cases L with|nil=>exact absurd rfl q|cons a l=>simp
   have m:=fun o x y=>zzdw (l:=L) (o:=o) (x:=x) (y:=y) w (by omega)
   rw [b] at g m;simp (disch:=first|omega|simp<;>omega|fail) [-zA,-zB,-zC,-zD,-zE,f,h,j,zsmr,u,g,zdlm q,b,m];have g:srtV 2 (graL t (i+1)) = .ms 2 (i+1) 0 1 (i+1) (i+1):=by rw [d,zgky (by simp),y01,b]; rfl
   have v:gr3 (t.adv (i+1)) c (graL t (i+1))=[.cells (tpC (t.adv (i+1))),.cells (clC c),.cells ((L++[y]).map (.int .i64))]:=by rw [d,zdlm (by simp)]
   exact ⟨i+1,z515 (by simp (disch:=first|omega|simp<;>omega|fail) [-zA,-zB,-zC,-zD,-zE,S290,z96a,g]) (by simp (disch:=first|omega|simp<;>omega|fail) [-zA,-zB,-zC,-zD,-zE,S290,z96a,v]),by omega,by omega⟩
 ·have j:¬ (i:Int)<n:=by omega
  obtain rfl:i=n:=by omega
  have r : ∀ k,fzL 1 k (tpC (t.adv i)) (tpC (t.adv i)):=fun k=>znnb (zs7w _)
  by_cases q:L=[]
  ·subst q;simp (disch:=first|omega|simp<;>omega|fail) [-zA,-zB,-zC,-zD,-zE,f,h,j,zh11,zbhy,s,zxxz,r]
  ·have g:=zgky (p:=2) q;rw [b] at g;have ht:(L.map (DV.int .i64)).take i=L.map (DV.int .i64):=y00 (by simp [b])
   have z:liV L = .sl false 1 i (L.map (.int .i64)):=by
    have e : ∀ l:List Int,l.flatMap inI=l.map (.int .i64):=fun l=>by
     induction l with
     | nil=>rfl
     | cons a l ih=>rw [y0q,ih]; rfl
    rw [zefw q,b,e]
   simp (disch:=first|omega|simp<;>omega|fail) [-zA,-zB,-zC,-zD,-zE,f,h,j,g,zdlm q,b,s,z,r,ht,zojd znqj]
noncomputable def cGra:List DV→List DV→Option (DV × List DV):=conT (fun a:Tp × Clu=>a.1.at_<4000000000∧a.2.i.l.length≤1000) (fun a=>[.agg (clC a.2)]) (fun a=>tpC a.1) (fun a=>(liV (graL a.1 a.2.i.l.length),tpC (a.1.adv a.2.i.l.length)))
theorem zxh3 {t:Tp} {c:Clu} (h1:t.at_<4000000000) (h2:c.i.l.length≤1000):cGra [.agg (clC c)] (tpC t)=some (liV (graL t c.i.l.length),tpC (t.adv c.i.l.length)) :=
 ztyo (A:=fun a:Tp × Clu=>a.1.at_<4000000000∧a.2.i.l.length≤1000) (f:=fun a=>[.agg (clC a.2)]) (s:=fun a=>tpC a.1) (by
  rintro ⟨a,n⟩ ⟨b,m⟩ e1 e2;simp only [List.cons.injEq,DV.agg.injEq,and_true] at e1;rw [zh7t e1,z15z e2]) (t,c) ⟨h1,h2⟩
theorem z10g:(Con.tch cGra).Sound P 41 :=
 z0tq (fun a _=>⟨by simp [zbao,zyp8,zy11],zs7w _,z4yh _,zs7w _⟩) fun a h=>zizi mix zgkm Tryz.func41 z5y8 (zywt a.1 a.2 h.1 h.2) (y0j _)
def nlO (l:List Int) (h:l.length≤1000000):Nl:=⟨if l=[] then none else some false,l,fun e=>by
 by_cases q:l=[]
 ·exact q
 ·simp [q] at e,by omega⟩
theorem zigl {l:List Int} (h:l.length≤1000000):(nlO l h).dv=liV l:=by
 unfold nlO Nl.dv liV;by_cases q:l=[]
 ·simp only [q,if_true]; rfl
 ·simp only [q,if_false]; rfl
end
section
structure OvR (a:Clu × Nl × Int):Prop where
 o:OvOK a
 s : ∀ x ∈ a.1.i.l,1≤x.state∧x.state≤3
noncomputable def z5kd:List DV→Option DV:=con OvR (fun a:Clu × Nl × Int=>[.agg (clC a.1),a.2.1.dv,.int .i64 a.2.2]) (fun a=>liV (ze9z a.1.i.l 0 a.2.1.l a.2.2))
theorem zota {c:Clu} {g:Nl} {t:Int} (h:OvR (c,g,t)):z5kd [.agg (clC c),g.dv,.int .i64 t]=some (liV (ze9z c.i.l 0 g.l t)) :=
 zzno (f:=fun a:Clu × Nl × Int=>[.agg (clC a.1),a.2.1.dv,.int .i64 a.2.2]) (g:=fun a=>liV (ze9z a.1.i.l 0 a.2.1.l a.2.2)) (by
  rintro ⟨a,b,c⟩ ⟨d,e,f⟩ h;simp only [List.cons.injEq,DV.agg.injEq,DV.int.injEq,and_true,true_and] at h;rw [zh7t h.1,z2kw h.2.1,h.2.2]) (c,g,t) h
end
section
theorem z1i6 {pre:List AObj} {L M:List Int} (hb:L.length+M.length≤4294967296):appX (srtH pre L) 1 8 (srtV pre.length L) M.length (M.map (.int .i64))=some (srtV pre.length (L++M),srtH pre (L++M)):=by
 by_cases hL:L=[]
 ·subst hL;rw [zh11,zwug,y0e];by_cases hM:M=[]
  ·subst hM; exact zw6v (by decide) (by decide)
  ·rw [zsuq (by decide) (by decide) (by simp) (by cases M with|nil=>exact absurd rfl hM|cons a l=>simp) (by simpa using hb),zgky hM,zzyq hM,y06]
 ·have b:L++M≠[]:=by simp [hL]
  rw [zgky hL,zzyq hL,zgky b,zzyq b,zbho (by omega) (by decide) (by decide) (by simp) hb (by simp [DV.one]),zrsa,if_pos (by simp),y0b,zxft,y04,y01,y06]
  rfl
theorem zzni {pre:List AObj} {L:List Int} {y:Int} (hb:L.length<4294967296):appX (srtH pre L) 1 8 (srtV pre.length L) 1 [.int .i64 y]=some (srtV pre.length (L++[y]),srtH pre (L++[y])) :=
 z1i6 (M:=[y]) (by show L.length+1≤_; omega)
def S340 (c:Clu) (k:Int) (i:Nat):St:=z225 (.int .i64 k) (.mp 0 3 0) (.int .i64 (cntR k (c.i.l.take i))) (.int .i64 i) [.cells (clC c)]
theorem zn1j (c:Clu) (k:Int):Runs tbl0 a34 [.agg (clC c),.int .i64 k] (.int .i64 (cntR k c.i.l)):=by
 refine ⟨?_⟩;obtain ⟨n,s⟩ : ∃ n,c.i.l.length=n:=⟨_,rfl⟩;have r:=c.i.b;simp (disch:=first|omega|simp<;>omega|fail) [-zE,a34];refine zlm5 (S340 c k) (fun i=>n-i) (fun i=>i≤n) 0 (yWS (by simp [-zE,S340,z225,cntR])) (by omega) (fun i hi => ?_)
 simp (disch:=first|omega|simp<;>omega|fail) [-zE,zx6w,z225,S340,s];by_cases h:i<n
 ·have d:(i:Int)<n:=by omega
  have p:i<c.i.l.length:=by omega
  have g:=fun H=>zalo (x:=c.i) (h:=H) z6gw p
  have f:=zihc (k:=k) p;have j:cntR k (c.i.l.take i)≤i:=y0h (y05 _ _) (by simp; omega)
  obtain ⟨x,o⟩ : ∃ x,c.i.l[i]=x:=⟨_,rfl⟩;simp only [o] at g f;obtain ⟨m,q⟩ : ∃ m,cntR k (c.i.l.take i)=m:=⟨_,rfl⟩;rw [q] at f j;rw [q];by_cases e1:x.grp=k
  ·by_cases e2:x.state=2
   ·have a:cntR k (c.i.l.take (i+1))=m+1:=by rw [f]; simp [runB,e1,e2]
    simp (disch:=first|omega|simp<;>omega|fail) [-zE,h,d,g,e1,e2];exact ⟨i+1,yWS (by simp [-zE,S340,z225,a]),by omega,by omega⟩
   ·have a:cntR k (c.i.l.take (i+1))=m:=by rw [f]; simp [runB,e2]
    simp (disch:=first|omega|simp<;>omega|fail) [-zE,h,d,g,e1,e2];exact ⟨i+1,yWS (by simp [-zE,S340,z225,a]),by omega,by omega⟩
  ·have a:cntR k (c.i.l.take (i+1))=m:=by rw [f]; simp [runB,e1]
   simp (disch:=first|omega|simp<;>omega|fail) [-zE,h,d,g,e1];exact ⟨i+1,yWS (by simp [-zE,S340,z225,a]),by omega,by omega⟩
 ·have d:¬ (i:Int)<n:=by omega
  have e:c.i.l.take i=c.i.l:=y00 (by omega)
  simp (disch:=first|omega|simp<;>omega|fail) [-zE,h,d,e]
def gooR (c:Clu) (k:Int) (l:List Ins):List Int:=(selL l k (zape c)).map Ins.id
theorem zfwn {c:Clu} {k:Int} {l:List Ins} {i:Nat} (h:i<l.length) {x:Ins} (hx:l[i]=x):gooR c k (l.take (i+1))=gooR c k (l.take i)++(if decide (x.grp=k)&&zape c x then [x.id] else []):=by
 subst hx;rw [gooR,zk04 h,y04,gooR];split<;>rfl
def S341 (c:Clu) (k:Int) (i:Nat):St:=zp5l (.int .i64 k) (.mp 0 3 0) (srtV 1 (gooR c k (c.i.l.take i))) (.int .i64 i) (srtH [.cells (clC c)] (gooR c k (c.i.l.take i)))
noncomputable def T341:Tbl:=addT 64 (.pure (cCx zape)) tbl0
theorem zv9k:T341 64 = .pure (cCx zape):=by simp [T341]
theorem zuup:T341.Sound P:=z0rp zqrb zr5o
theorem zacf {c:Clu} {L:List Int}:objV (srtH [.cells (clC c)] L) 0 3=some (clC c):=by
 have:=z4f8 (c:=c) (B:=srtH [.cells (clC c)] L) (zdjm _ _) []
 rwa [y0a] at this
theorem zxgi (c:Clu) (k:Int):Runs T341 a36 [.agg (clC c),.int .i64 k] (liV (gooR c k c.i.l)):=by
 refine ⟨?_⟩;obtain ⟨n,u⟩ : ∃ n,c.i.l.length=n:=⟨_,rfl⟩;have t:=c.i.b;simp (disch:=first|omega|simp<;>omega|fail) [-zE,a36];refine zlm5 (S341 c k) (fun i=>n-i) (fun i=>i≤n) 0 (z515 (by simp (disch:=first|omega|simp<;>omega|fail) [-zE,S341,zp5l,gooR,selL,srtV]) (by simp (disch:=first|omega|simp<;>omega|fail) [-zE,S341,zp5l,gooR,selL,srtH])) (by omega) (fun i hi => ?_)
 have q:(gooR c k (c.i.l.take i)).length≤i:=by
  rw [gooR,y06]; exact y0h (y05 _ _) (by simp; omega)
 obtain ⟨L,p⟩ : ∃ L,gooR c k (c.i.l.take i)=L:=⟨_,rfl⟩;have j:=zacf (c:=c) (L:=L);have f:=ztrh (pre:=[.cells (clC c)]) (l:=L);simp only [y0i,y0f,y0o] at f;simp (disch:=first|omega|simp<;>omega|fail) [-zE,zlo9,zp5l,S341,p,j,u];by_cases h:i<n
 ·have d:(i:Int)<n:=by omega
  have r:i<c.i.l.length:=by omega
  have o:=fun H=>zalo (x:=c.i) (h:=H) z6gw r
  obtain ⟨x,g⟩ : ∃ x,c.i.l[i]=x:=⟨_,rfl⟩;have m:=zfwn (c:=c) (k:=k) r g;simp only [g] at o;rw [p] at m q;have s:=fun y=>zzni (pre:=[.cells (clC c)]) (L:=L) (y:=y) (by omega)
  simp only [y0i,y0f,y0o] at s;by_cases e1:x.grp=k
  ·cases e2:zape c x with
   | true =>
    have a:gooR c k (c.i.l.take (i+1))=L++[x.id]:=by rw [m]; simp [e1,e2]
    simp (disch:=first|omega|simp<;>omega|fail) [-zE,h,d,o,e1,zv9k,z6nc,e2,j,s];exact ⟨i+1,yWS (by simp [-zE,S341,zp5l,a]),by omega,by omega⟩
   | false =>
    have a:gooR c k (c.i.l.take (i+1))=L:=by rw [m]; simp [e2]
    simp (disch:=first|omega|simp<;>omega|fail) [-zE,h,d,o,e1,zv9k,z6nc,e2,j];exact ⟨i+1,yWS (by simp [-zE,S341,zp5l,a]),by omega,by omega⟩
  ·have a:gooR c k (c.i.l.take (i+1))=L:=by rw [m]; simp [e1]
   simp (disch:=first|omega|simp<;>omega|fail) [-zE,h,d,o,e1,j];exact ⟨i+1,yWS (by simp [-zE,S341,zp5l,a]),by omega,by omega⟩
 ·have d:¬ (i:Int)<n:=by omega
  have e:gooR c k c.i.l=L:=by rw [← p,y00 (by omega)]
  simp (disch:=first|omega|simp<;>omega|fail) [-zE,h,d,e,f]
def zku6 (c:Clu) (k:Int):DV := .int .i64 (cntR k c.i.l)
def zq4a (c:Clu) (k:Int):DV:=liV (gooR c k c.i.l)
def zv6d (c:Clu) (k:Int):Int:=match grAt c k with
 | some g=>max ((cntR k c.i.l:Int)-max g.least (g.want-g.down)) 0
 | none=>0
def ze9k (c:Clu) (k:Int):DV := .int .i64 (zv6d c k)
theorem zd5o:(Con.pure (cCk zku6)).Sound P 34:=z2au fun a _=>zljw mix zr5o Tryz.func34 zk28 (zn1j a.1 a.2)
theorem zm9u:(Con.pure (cCk zq4a)).Sound P 36:=z2au fun a _=>zljw mix zuup Tryz.func36 zj68 (zxgi a.1 a.2)
noncomputable def T342:Tbl:=addT 34 (.pure (cCk zku6)) tbl0
theorem z627:T342 34 = .pure (cCk zku6):=by simp [T342]
theorem zp54:T342.Sound P:=z0rp zd5o zr5o
theorem zeh4 (c:Clu) (k:Int) (hL : ∀ g ∈ c.g.l,zb68 g):Runs T342 a35 [.agg (clC c),.int .i64 k] (ze9k c k):=by
 refine ⟨?_⟩;by_cases h0:k<0
 ·have e:zv6d c k=0:=by rw [zv6d,zkxy h0]
  simp (disch:=first|omega|simp<;>omega|fail) [-zE,a35,h0,ze9k,e]
 obtain ⟨K,rfl⟩ : ∃ K:Nat,k=K:=⟨k.toNat,by omega⟩
 by_cases h1:c.g.l.length≤K
 ·have e:zv6d c K=0:=by rw [zv6d,zxgx h1]
  have d:(c.g.l.length:Int)≤K:=by omega
  simp (disch:=first|omega|simp<;>omega|fail) [-zE,a35,h0,h1,d,ze9k,e]
 have f:K<c.g.l.length:=by omega
 have d:¬ (c.g.l.length:Int)≤K:=by omega
 have p:=fun h=>zalo (x:=c.g) (h:=h) zry4 f
 have a:=hL _ (y0s f);have e:zv6d c K=max ((cntR K c.i.l:Int)-max c.g.l[K].least (c.g.l[K].want-c.g.l[K].down)) 0:=by rw [zv6d,zlav f]
 obtain ⟨G,j⟩ : ∃ G,c.g.l[K]=G:=⟨_,rfl⟩;rw [j] at p a e;obtain ⟨⟨t,u⟩,⟨l1,l2⟩,d1,d2⟩:=a;have n:cntR K c.i.l≤c.i.l.length:=y05 _ _;have r:=c.i.b;obtain ⟨N,m⟩ : ∃ N,cntR K c.i.l=N:=⟨_,rfl⟩;obtain ⟨M,q⟩ : ∃ M,max G.least (G.want-G.down)=M:=⟨_,rfl⟩;rw [q,m] at e;rw [m] at n;have s : -2000000000≤M∧M≤2000000000:=by omega
 have o:max 0 ((N:Int)-M)=max ((N:Int)-M) 0:=by omega
 simp (disch:=first|omega|simp<;>omega|fail) [-zE,a35,h0,h1,d,p,z627,ztaz,zku6,ze9k,e,zm4y,q,m,zluv,zaqi,o]
theorem zoj4:(Con.pure (cCkA LimC ze9k)).Sound P 35:=z2au fun a h=>zljw mix zp54 Tryz.func35 zxwh (zeh4 a.1 a.2 h)
end
section
def deV (D:List Ins):DV:=if D=[] then .nils else .sl false 37 D.length (D.flatMap inC)
theorem zih0:deV [] = .nils:=rfl
theorem z4er {D:List Ins} (h:D≠[]):deV D = .sl false 37 D.length (D.flatMap inC):=if_neg h
theorem zy9v (H:List AObj) (D:List Ins):lenD H (deV D)=some (.int .i64 D.length):=by
 unfold deV; split
 ·rename_i h; subst h; rfl
 ·rfl
theorem z432 (D:List Ins):zyp8 (deV D)=true:=by
 unfold deV; split
 ·rfl
 ·show zbao _=true; exact zp6k z9kv D
theorem zzwh (H:List AObj) {D:List Ins} {i:Nat} (hi:i<D.length):zpsc H 37 (deV D) i=some (.ref (inC D[i])):=by
 unfold deV; split
 ·rename_i h; subst h; simp at hi
 ·rw [zsu0 (by omega) (by omega),y0n,zdao z6gw hi]
theorem zh9j {D:List Ins} {b:DV}:z87v (deV D) b=b.known:=by
 unfold deV; split
 ·exact z8bo
 ·exact zhyd
theorem zsr6 {D:List Ins} {k:Nat} (h:k≤D.length) : ∃ v,(∀ H,z390 H 37 (deV D) none (some (.int .i64 k)) none=some v) ∧ ∀ K,visY K v=some (k,(D.take k).flatMap inC):=by
 by_cases q:D=[]
 ·subst q;have:k=0:=by simpa using h
  subst this;exact ⟨.nils,fun H=>zmk5 (ztya (by omega) (by omega)),fun K=>rfl⟩
 ·refine ⟨_,fun H=>by rw [z4er q,zygc (ztya (by omega) (by omega))],fun K => ?_⟩
  rw [zdor];simp only [Nat.zero_mul,y0g,Nat.sub_zero,y0n,z10w z6gw]
theorem zsti {D:List Ins} {k:Nat} (h:k≤D.length) : ∃ v,(∀ H,z390 H 37 (deV D) (some (.int .i64 k)) none none=some v) ∧ ∀ K,visY K v=some (D.length-k,(D.drop k).flatMap inC):=by
 by_cases q:D=[]
 ·subst q;have:k=0:=by simpa using h
  subst this;exact ⟨.nils,fun H=>zmk5 (zsqn (by omega) (by omega)),fun K=>rfl⟩
 ·refine ⟨_,fun H=>by rw [z4er q,zygc (zsqn (by omega) (by omega))],fun K => ?_⟩
  rw [zdor];simp only [y0n,zkb2 z6gw];rw [y00 (by rw [z1rq z6gw,List.length_drop]; exact y0j _)]
def inV (p:Nat) (D:List Ins):DV:=if D=[] then .nils else .ms p (D.length*37) 0 37 D.length (D.length*37)
def inH (pre:List AObj) (D:List Ins):List AObj:=if D=[] then pre else pre++[.cells (D.flatMap inC)]
theorem zosz {p:Nat} {D:List Ins} (h:D≠[]):inV p D = .ms p (D.length*37) 0 37 D.length (D.length*37):=if_neg h
theorem z6mj {pre:List AObj} {D:List Ins} (h:D≠[]):inH pre D=pre++[.cells (D.flatMap inC)]:=if_neg h
theorem z4yw (D:List Ins):(D.flatMap inC).all DV.one=true:=by
 have a : ∀ x:Ins,(inC x).all DV.one=true:=fun x=>by
  have b:(dgC x.art).all DV.one=true:=by simp [dgC,DV.one,w8]
  simp only [inC,List.all_cons,List.all_append,b,List.all_nil,Bool.and_true,DV.one]
 rw [List.all_flatMap,List.all_eq_true];exact fun x _=>a x
theorem za17 {pre:List AObj} {L M:List Ins} (hb:L.length+M.length≤1000000):appX (inH pre L) 37 72 (inV pre.length L) M.length (M.flatMap inC)=some (inV pre.length (L++M),inH pre (L++M)):=by
 by_cases hL:L=[]
 ·subst hL;rw [y0e];by_cases hM:M=[]
  ·subst hM; exact zw6v (by decide) (by decide)
  ·show appX pre 37 72 .nils _ _=_;rw [zsuq (by decide) (by decide) (by rw [z1rq z6gw]) (by cases M with|nil=>exact absurd rfl hM|cons a l=>simp) (by simp at hb; omega),zosz hM,z6mj hM,z1rq z6gw]
 ·have b:L++M≠[]:=by simp [hL]
  rw [zosz hL,z6mj hL,zosz b,z6mj b,zbho rfl (by decide) (by decide) (by rw [z1rq z6gw]) (by omega) (z4yw M),zrsa,if_pos (z1rq z6gw L),y0b,zxft,List.flatMap_append,y01,z1rq z6gw,Nat.add_mul]
  rfl
theorem zg3x {p:Nat} {D:List Ins}:(inV p D).known=true:=by unfold inV; split<;>rfl
structure VS where
 i:Nat
 D:List Ins
 O:List Int
 z:Ins
theorem zjnr {l:List Ins} {k:Int} {i:Nat} (h:i<l.length) {x:Ins} (hx:l[i]=x):z120 (l.take (i+1)) k=if decide (x.grp=k)&&(decide (x.state=2)&&decide (0≤x.den)) then insR zvda x (z120 (l.take i) k) else z120 (l.take i) k:=by
 subst hx;rw [z120,zk04 h];split
 ·rw [zuk7]; rfl
 ·rw [y0a]; rfl
theorem ztz3 {g:Grp} {l:List Ins} {k:Int} {i:Nat} (h:i<l.length) {x:Ins} (hx:l[i]=x):(zw7h g (l.take (i+1)) k).map Ins.id=(zw7h g (l.take i) k).map Ins.id++(if decide (x.grp=k)&&(decide (x.state=2)&&(decide (x.den<0) && !decide (x.art ∈ g.ch.l))) then [x.id] else []):=by
 subst hx;rw [zw7h,zk04 h,y04,zw7h];congr 1;split<;>rfl
def S350 (c:Clu) (k:Nat) (a:VS):St:=z5n4 (.int .i64 k) (.mp 0 3 0) (deV a.D) (srtV 2 a.O) .nils (.int .i64 a.i) (ovH c ⟨a.i,a.O,a.z⟩)
def S351 (c:Clu) (k:Nat) (a:VS) (H:List AObj) (p m:Nat):St:=zu6f (.int .i64 k) (.mp 0 3 0) (deV a.D) (srtV 2 a.O) .nils (.int .i64 a.i) (.mp p 37 0) (.int .i64 m) H
end
section
theorem zwji {l:List Ins} {k:Int} {p q:Ins→Bool} (h : ∀ x ∈ l,x.grp=k→p x=q x):selL l k p=selL l k q:=by
 unfold selL;refine List.filter_congr fun x hx => ?_
 by_cases e:x.grp=k
 ·rw [h x hx e]
 ·simp [e]
def vicR (c:Clu) (k:Int):List Int:=match grAt c k with
 | some g=>(z2f6 g c.i.l k).map Ins.id
 | none=>[]
def zpbt (H:List AObj):Prop := ∀ o ∈ H,∃ cs,o = .cells cs∧zbao cs=true
theorem zpbt.app {A B:List AObj} (h1:zpbt A) (h2:zpbt B):zpbt (A++B):=fun o ho=>(List.mem_append.1 ho).elim (h1 o) (h2 o)
theorem zpbt.one {cs:List DV} (h:zbao cs=true):zpbt [.cells cs]:=fun o ho=>⟨cs,by simpa using ho,h⟩
theorem zpbt.srt {A:List AObj} {L:List Int} (h:zpbt A):zpbt (srtH A L):=by
 unfold srtH; split
 ·exact h
 ·exact h.app (.one znqj)
theorem zpbt.ov {c:Clu} {a:OS}:zpbt (ovH c a):=by
 unfold ovH; split
 ·exact .one (zy11 c)
 ·exact (zpbt.one (zy11 c)).app ((zpbt.one (z9kv _)).app (.one znqj))
theorem z1e5 {n:Nat} {K:List AObj} : ∀ {H X:List AObj},zpbt H→fzH n K (H++X) H
 | [],X,_=>by cases X<;>trivial
 | o::H,X,h=>by
  obtain ⟨cs,rfl,hp⟩:=h o (by simp)
  exact ⟨znnb hp,z1e5 fun o ho=>h o (by simp [ho])⟩
theorem zjo1 {n:Nat} : ∀ {H:List AObj},zpbt H→zlf2 n H=true
 | [],_=>rfl
 | o::H,h=>by
  obtain ⟨cs,rfl,hp⟩:=h o (by simp)
  have ih:=zjo1 (n:=n) (H:=H) fun o ho=>h o (by simp [ho])
  simp only [zlf2,zmq5 n _ hp,ih,Bool.and_self]
theorem z66n {c:Clu} {a:OS} : ∃ X,ovH c a=[.cells (clC c)]++X:=by
 unfold ovH; split
 ·exact ⟨[],rfl⟩
 ·exact ⟨_,rfl⟩
theorem zto9 {pre:List AObj} {L:List Int} {y:Int} {o:AObj} (hL:L≠[]) (hb:L.length<4294967296):appX (srtH pre L++[o]) 1 8 (srtV pre.length L) 1 [.int .i64 y]=some (srtV pre.length (L++[y]),srtH pre (L++[y])++[o]):=by
 have a:L++[y]≠[]:=by simp
 have b:objV (pre++[.cells (L.map (.int .i64))]++[o]) pre.length L.length=some (L.map (.int .i64)):=by
  rw [y08,zjj2]; simp [z1zn]
 rw [zgky hL,zzyq hL,zgky a,zzyq a,zbho (by omega) (by decide) (by decide) (by simp) (by omega) (by simp [DV.one]),b,y0b,y08,zxft,y04,y01,y08]
 rfl
theorem zxrm {pre:List AObj} {L:List Int} (hL:L≠[]):(srtH pre L).length=pre.length+1:=by rw [zzyq hL]; simp
structure InsF (H:List AObj) (x:Ins) (D:List Ins) (q:Nat) (v1 v2:DV):Prop where
 s1 : ∀ K,z390 K 37 (deV D) none (some (.int .i64 q)) none=some v1
 y1 : ∀ K,visY K v1=some (q,(D.take q).flatMap inC)
 s2 : ∀ K,z390 K 37 (deV D) (some (.int .i64 q)) none none=some v2
 y2 : ∀ K,visY K v2=some (D.length-q,(D.drop q).flatMap inC)
 a1:appX (H++[.cells (inC x)]) 37 72 .nils q ((D.take q).flatMap inC)=some (inV (H.length+1) (D.take q),inH (H++[.cells (inC x)]) (D.take q))
 ox:objV (inH (H++[.cells (inC x)]) (D.take q)) H.length 37=some (inC x)
 a2:appX (inH (H++[.cells (inC x)]) (D.take q)) 37 72 (inV (H.length+1) (D.take q)) 1 (inC x)=some (inV (H.length+1) (D.take q++[x]),inH (H++[.cells (inC x)]) (D.take q++[x]))
 a3:appX (inH (H++[.cells (inC x)]) (D.take q++[x])) 37 72 (inV (H.length+1) (D.take q++[x])) (D.length-q) ((D.drop q).flatMap inC)=some (inV (H.length+1) (D.take q++x::D.drop q),inH (H++[.cells (inC x)]) (D.take q++x::D.drop q))
 p1:z87v (.mp H.length 37 0) (inV (H.length+1) (D.take q))=true
theorem insF {H:List AObj} {x:Ins} {D:List Ins} {q:Nat} (hq:q≤D.length) (hb:D.length≤1000) : ∃ v1 v2,InsF H x D q v1 v2:=by
 obtain ⟨v1,c,e⟩:=zsr6 (D:=D) hq;obtain ⟨v2,d,f⟩:=zsti (D:=D) hq;have a:(H++[AObj.cells (inC x)]).length=H.length+1:=by simp
 have b:(D.take q).length=q:=by simp; omega
 refine ⟨v1,v2,c,e,d,f,?_,?_,?_,?_,?_⟩
 ·have:=za17 (pre:=H++[.cells (inC x)]) (L:=[]) (M:=D.take q) (by simp; omega)
  rw [a,b,y0e] at this;exact this
 ·unfold inH; split
  ·rw [zjj2,z1zn,if_pos (z6gw x)]
  ·rw [y08,zjj2];show objV (.cells (inC x)::_) 0 37=_;rw [z1zn,if_pos (z6gw x)]
 ·have:=za17 (pre:=H++[.cells (inC x)]) (L:=D.take q) (M:=[x]) (by simp; omega)
  rw [a] at this;simpa using this
 ·have:=za17 (pre:=H++[.cells (inC x)]) (L:=D.take q++[x]) (M:=D.drop q) (by simp; omega)
  rw [a] at this;simpa using this
 ·unfold inV; split
  ·rfl
  ·simp [zv0w,DV.known]
theorem zi34 {H:List AObj} {x:Ins} {D:List Ins} (hD:D≠[]):fz H.length (inH (H++[.cells (inC x)]) D) 3 (inV (H.length+1) D)=some (deV D):=by
 have a:objV (H++[.cells (inC x)]++[.cells (D.flatMap inC)]) (H.length+1) (D.length*37)=some (D.flatMap inC):=by
  have:=zrsa (r:=H++[.cells (inC x)]) (l:=D.flatMap inC) (ver:=D.length*37);simp only [y01,y0i,y0f,y0o] at this;rw [this,if_pos (z1rq z6gw D)]
 rw [zosz hD,z6mj hD,zcr1 (by omega),a,y0r,y0g,y00 (by rw [z1rq z6gw]; exact y0j _),zojd (zp6k z9kv D),z4er hD]
 rfl
noncomputable def T350:Tbl:=addT 91 (.pure (cCx choR)) (addT 64 (.pure (cCx zape)) (addT 36 (.pure (cCk zq4a)) tbl0))
theorem zo6n:T350 91 = .pure (cCx choR):=by simp [T350]
theorem zbej:T350 64 = .pure (cCx zape):=by simp [T350]
theorem z8sq:T350 36 = .pure (cCk zq4a):=by simp [T350]
theorem zdnn:T350.Sound P:=z0rp zixh (z0rp zqrb (z0rp zm9u zr5o))
def S352 (c:Clu) (k:Nat) (D:List Ins) (O:List Int) (H:List AObj) (i:Nat):St:=zlru (.int .i64 k) (.mp 0 3 0) (deV D) (srtV 2 O) (srtV H.length ((D.take i).map Ins.id)) (.int .i64 i) (srtH H ((D.take i).map Ins.id))
structure VR where
 m:Nat
 pre:List AObj
 L:List Int
 M:Int
def S353 (k:Nat) (a:VR):St:=zk3h (.int .i64 k) (.mp 0 3 0) (srtV a.pre.length a.L) (.int .i64 a.M) (.int .i64 ((a.m:Int)-1)) (srtH a.pre a.L)
structure VRI (c:Clu) (g:Grp) (k:Nat) (base:List Int) (M0:Int) (a:VR):Prop where
 m:a.m≤c.i.l.length
 f : ∃ X,a.pre=[.cells (clC c)]++X
 p:zpbt a.pre
 l:a.L=base++(z56d g (c.i.l.drop a.m) k).reverse.map Ins.id
 M:a.M=M0-(z56d g (c.i.l.drop a.m) k).length
 n:(z56d g (c.i.l.drop a.m) k).length≤M0.toNat
theorem zi8b {c:Clu} {x:Ins} {k:Int} {g:Grp} (hg:grAt c k=some g) (hx:x.grp=k):choR c x=decide (x.art ∈ g.ch.l):=by simp only [choR,hx,hg]
theorem zhu3 {g:Grp} {l:List Ins} {k:Int} {m:Nat} (h:m<l.length) {x:Ins} (hx:l[m]=x):z56d g (l.drop m) k=(if decide (x.grp=k)&&(decide (x.state=2)&&zj6b g x) then [x] else [])++z56d g (l.drop (m+1)) k:=by
 subst hx;rw [List.drop_eq_getElem_cons h,z56d,selL,List.filter_cons];split<;>rfl
theorem zf8f (c:Clu) (k:Int) (hv:VicOK c):Runs T350 a92 [.agg (clC c),.int .i64 k] (liV (vicR c k)):=by
 refine ⟨?_⟩;by_cases h0:k<0
 ·have hr:vicR c k=[]:=by rw [vicR,zkxy h0]
  simp (disch:=first|omega|simp<;>omega|fail) [-zA,-zB,-zC,-zD,-zE,a92,h0,hr,zxxz]
 obtain ⟨K,rfl⟩ : ∃ K:Nat,k=K:=⟨k.toNat,by omega⟩
 by_cases h1:c.g.l.length≤K
 ·have hr:vicR c K=[]:=by rw [vicR,zxgx h1]
  have c5:(c.g.l.length:Int)≤K:=by omega
  simp (disch:=first|omega|simp<;>omega|fail) [-zA,-zB,-zC,-zD,-zE,a92,h0,h1,c5,hr,zxxz]
 have h2:K<c.g.l.length:=by omega
 have c5:¬ (c.g.l.length:Int)≤K:=by omega
 have hG:=fun h=>zalo (x:=c.g) (h:=h) zry4 h2
 have c0:=hv.l _ (y0s h2);have Z:=zlav h2;have hr:vicR c K=(z2f6 c.g.l[K] c.i.l K).map Ins.id:=by rw [vicR,Z]
 obtain ⟨g,f8⟩ : ∃ g,c.g.l[K]=g:=⟨_,rfl⟩;rw [f8] at hG c0 hr Z;obtain ⟨⟨w1,w2⟩,-,-⟩:=c0;have f0:=hv.n;obtain ⟨n,hn⟩ : ∃ n,c.i.l.length=n:=⟨_,rfl⟩;rw [hn] at f0;simp (disch:=first|omega|simp<;>omega|fail) [-zA,-zB,-zC,-zD,-zE,a92,h0,h1,c5];refine zlm5 (S350 c K) (fun a=>n-a.i) (fun a=>a.i≤n∧a.D=z120 (c.i.l.take a.i) K∧a.O=(zw7h g (c.i.l.take a.i) K).map Ins.id) ⟨0,[],[],⟨0,0,dg0,0,0,0⟩⟩ (z515 (by simp (disch:=first|omega|simp<;>omega|fail) [-zA,-zB,-zC,-zD,-zE,S350,z5n4,zih0,zh11]) (by simp (disch:=first|omega|simp<;>omega|fail) [-zA,-zB,-zC,-zD,-zE,S350,z5n4,zqcj])) ⟨by simp,by simp [z120,selL,zxu4],by simp [zw7h,selL]⟩ (fun a ha => ?_)
 obtain ⟨i,D,O,z⟩:=a;obtain ⟨r1,r2,r3⟩:=ha;simp only at r1 r2 r3;have h5:D.length≤i:=by rw [r2,z120,(zo43 _).length_eq]; exact y0h (y05 _ _) (by simp; omega)
 have h9:O.length≤i:=by rw [r3,y06]; exact y0h (y05 _ _) (by simp; omega)
 obtain ⟨H,hH⟩ : ∃ H,ovH c ⟨i,O,z⟩=H:=⟨_,rfl⟩;have t : ∀ j,ovH c ⟨j,O,z⟩=H:=fun j=>hH
 have b6 : ∃ X,H=[.cells (clC c)]++X:=hH▸z66n;have c6:zpbt H:=hH▸zpbt.ov;have ho:=fun X=>z4f8 b6 X
 have T:=ho [];rw [y0a] at T;have b7:0<H.length:=by obtain ⟨X,rfl⟩:=b6; simp
 simp (disch:=first|omega|simp<;>omega|fail) [-zA,-zB,-zC,-zD,-zE,zrck,z5n4,S350,hH,T,hn];by_cases h:i<n
 ·have h':(i:Int)<n:=by omega
  have d6:i<c.i.l.length:=by omega
  have s:=fun H=>zalo (x:=c.i) (h:=H) z6gw d6
  obtain ⟨x,V⟩ : ∃ x,c.i.l[i]=x:=⟨_,rfl⟩;have Y:=zjnr (k:=K) d6 V;have U:=ztz3 (g:=g) (k:=K) d6 V;rw [← r2] at Y;rw [← r3] at U;simp only [V] at s;have S : ∀ n D,Am.below n (deV D)=true:=fun n D=>z8b8 n _ (z432 D)
  have d2:Am.below H.length (srtV 2 O)=true:=by
   by_cases q:O=[]
   ·subst q; rfl
   ·rw [zgky q,← hH,zz0o q]; rfl
  have d3:zlf2 H.length H=true:=zjo1 c6;by_cases e1:x.grp=K
  case neg =>
   have r:z120 (c.i.l.take (i+1)) K=D:=by rw [Y]; simp [e1]
   have f:(zw7h g (c.i.l.take (i+1)) K).map Ins.id=O:=by rw [U]; simp [e1]
   simp (disch:=first|omega|simp<;>omega|fail) [-zA,-zB,-zC,-zD,-zE,h,h',s,e1,zxft,T,ho];exact ⟨⟨i+1,D,O,z⟩,zju2 (tail:=[.cells (inC x)]) (by simp (disch:=first|omega|simp<;>omega|fail) [-zA,-zB,-zC,-zD,-zE,S350,z5n4]) (by simp (disch:=first|omega|simp<;>omega|fail) [-zA,-zB,-zC,-zD,-zE,S350,z5n4,t]) (y09 _) (by simp (disch:=first|omega|simp<;>omega|fail) [-zA,-zB,-zC,-zD,-zE,S350,z5n4,t,belowL,Am.below,S,d2,b7]) (by simp (disch:=first|omega|simp<;>omega|fail) [-zA,-zB,-zC,-zD,-zE,S350,z5n4,t,d3]),by simp only; omega,by simp only; omega,by simp only; rw [r],by simp only; rw [f]⟩
  by_cases e2:x.state=2
  case neg =>
   have r:z120 (c.i.l.take (i+1)) K=D:=by rw [Y]; simp [e2]
   have f:(zw7h g (c.i.l.take (i+1)) K).map Ins.id=O:=by rw [U]; simp [e2]
   simp (disch:=first|omega|simp<;>omega|fail) [-zA,-zB,-zC,-zD,-zE,h,h',s,e1,e2,zxft,T,ho];exact ⟨⟨i+1,D,O,z⟩,zju2 (tail:=[.cells (inC x)]) (by simp (disch:=first|omega|simp<;>omega|fail) [-zA,-zB,-zC,-zD,-zE,S350,z5n4]) (by simp (disch:=first|omega|simp<;>omega|fail) [-zA,-zB,-zC,-zD,-zE,S350,z5n4,t]) (y09 _) (by simp (disch:=first|omega|simp<;>omega|fail) [-zA,-zB,-zC,-zD,-zE,S350,z5n4,t,belowL,Am.below,S,d2,b7]) (by simp (disch:=first|omega|simp<;>omega|fail) [-zA,-zB,-zC,-zD,-zE,S350,z5n4,t,d3]),by simp only; omega,by simp only; omega,by simp only; rw [r],by simp only; rw [f]⟩
  by_cases e3:0≤x.den
  case neg =>
   have f7:x.den<0:=by omega
   have r:z120 (c.i.l.take (i+1)) K=D:=by rw [Y]; simp [e3]
   have e7:=zi8b Z e1;by_cases e4:x.art ∈ g.ch.l
   ·have f:(zw7h g (c.i.l.take (i+1)) K).map Ins.id=O:=by rw [U]; simp [e4]
    have J:choR c x=true:=by rw [e7]; simpa using e4
    simp (disch:=first|omega|simp<;>omega|fail) [-zA,-zB,-zC,-zD,-zE,h,h',s,e1,e2,e3,zxft,T,ho,zo6n,z6nc,J];exact ⟨⟨i+1,D,O,z⟩,zju2 (tail:=[.cells (inC x)]) (by simp (disch:=first|omega|simp<;>omega|fail) [-zA,-zB,-zC,-zD,-zE,S350,z5n4]) (by simp (disch:=first|omega|simp<;>omega|fail) [-zA,-zB,-zC,-zD,-zE,S350,z5n4,t]) (y09 _) (by simp (disch:=first|omega|simp<;>omega|fail) [-zA,-zB,-zC,-zD,-zE,S350,z5n4,t,belowL,Am.below,S,d2,b7]) (by simp (disch:=first|omega|simp<;>omega|fail) [-zA,-zB,-zC,-zD,-zE,S350,z5n4,t,d3]),by simp only; omega,by simp only; omega,by simp only; rw [r],by simp only; rw [f]⟩
   ·have f:(zw7h g (c.i.l.take (i+1)) K).map Ins.id=O++[x.id]:=by rw [U]; simp [e1,e2,f7,e4]
    have J:choR c x=false:=by rw [e7]; simpa using e4
    by_cases q:O=[]
    ·subst q;rw [← hH,zqcj];simp (disch:=first|omega|simp<;>omega|fail) [-zA,-zB,-zC,-zD,-zE,h,h',s,e1,e2,e3,zxft,zo6n,z6nc,J,zh11];exact ⟨⟨i+1,D,[x.id],x⟩,z515 (by simp (disch:=first|omega|simp<;>omega|fail) [-zA,-zB,-zC,-zD,-zE,S350,z5n4,srtV]) (by simp (disch:=first|omega|simp<;>omega|fail) [-zA,-zB,-zC,-zD,-zE,S350,z5n4,ovH]),by simp only; omega,by simp only; omega,by simp only; rw [r],by simp only; rw [f]; rfl⟩
    ·have hV:=zgky (p:=2) q;have g2:0<O.length:=by cases O with|nil=>exact absurd rfl q|cons a l=>simp
     have g6:=fun H o z c y=>zw68 (h:=H) (l:=O) (o:=o) (x:=z) (c:=c) (y:=y) g2 (by omega)
     rw [← hH,zz0o q];simp (disch:=first|omega|simp<;>omega|fail) [-zA,-zB,-zC,-zD,-zE,h,h',s,e1,e2,e3,zxft,zo6n,z6nc,J,hV,g6];have hO:ovH c ⟨i+1,O++[x.id],z⟩=[.cells (clC c),.cells (inC z),.cells ((O++[x.id]).map (.int .i64))]:=zz0o (by simp)
     have e0:srtV 2 (O++[x.id]) = .ms 2 (O.length+1) 0 1 (O.length+1) (O.length+1):=by rw [zgky (by simp),y01]; rfl
     exact ⟨⟨i+1,D,O++[x.id],z⟩,zju2 (tail:=[.cells (inC x)]) (by simp (disch:=first|omega|simp<;>omega|fail) [-zA,-zB,-zC,-zD,-zE,S350,z5n4,e0]) (by simp (disch:=first|omega|simp<;>omega|fail) [-zA,-zB,-zC,-zD,-zE,S350,z5n4,hO]) (y09 _) (by simp (disch:=first|omega|simp<;>omega|fail) [-zA,-zB,-zC,-zD,-zE,S350,z5n4,hO,e0,belowL,Am.below,S]) (by simp (disch:=first|omega|simp<;>omega|fail) [-zA,-zB,-zC,-zD,-zE,S350,z5n4,hO,zlf2,zxq0]),by simp only; omega,by simp only; omega,by simp only; rw [r],by simp only; rw [f]⟩
  have r:z120 (c.i.l.take (i+1)) K=insR zvda x D:=by rw [Y]; simp [e1,e2,e3]
  have f:(zw7h g (c.i.l.take (i+1)) K).map Ins.id=O:=by
   have:¬ x.den<0:=by omega
   rw [U]; simp [this]
  have d4:=fun K=>zy9v K D
  have f2:=fun D (h:D≠[])=>zi34 (H:=H) (x:=x) (D:=D) h
  have f3 : ∀ X,fz H.length X 3 (srtV 2 O)=some (srtV 2 O):=fun X=>by
   by_cases q:O=[]
   ·subst q; rfl
   ·rw [zgky q]; exact zqci (by rw [← hH,zz0o q]; simp)
  have f5 : ∀ (N K:_) (D':List Ins),D'≠[]→fzH N K (inH (H++[.cells (inC x)]) D') H:=fun N K D' h=>by
   rw [z6mj h,y08]; exact z1e5 c6
  have f4 : ∀ X,fz H.length X 3 (.mp 0 3 0)=some (.mp 0 3 0):=fun X=>zu8i b7
  simp (disch:=first|omega|simp<;>omega|fail) [-zA,-zB,-zC,-zD,-zE,h,h',s,e1,e2,e3,zxft,T,ho,d4];refine zlm5 (fun m=>S351 c K ⟨i,D,O,z⟩ (H++[.cells (inC x)]) H.length m) (fun m=>m) (fun m=>m≤D.length ∧ ∀ j (hj:j<D.length),m≤j→x.den<D[j].den) D.length (yWS (by simp [-zA,-zB,-zC,-zD,-zE,S351,zu6f])) ⟨y0j _,fun j hj hm=>by omega⟩ (fun m hm => ?_)
  obtain ⟨I,d7⟩:=hm;simp (disch:=first|omega|simp<;>omega|fail) [-zA,-zB,-zC,-zD,-zE,zqqa,zu6f,S351];rcases m with _|m
  ·have b3:insR zvda x D=x::D:=by
    have:=zv9v (lt:=zvda) (x:=x) (A:=[]) (B:=D) (fun b hb=>by
     obtain ⟨j,hj,rfl⟩:=y0c hb;simpa [zvda] using d7 j hj (y09 _)) (.inl rfl)
    simpa using this
   obtain ⟨v1,v2,w⟩:=insF (H:=H) (x:=x) (D:=D) (q:=0) (by omega) (by omega)
   have i1:=w.s1;have i2:=w.s2;have i3:=w.a1;have i4:=w.a2;have i5:=w.a3;have i6:=w.ox;have i7:=w.p1;have i8:=w.y1;have i9:=w.y2;simp only [List.take_zero,y0g,y0e,Nat.sub_zero,Int.natCast_zero,List.flatMap_nil] at i1 i2 i3 i4 i5 i6 i7 i8 i9;simp (disch:=first|omega|simp<;>omega|fail) [-zA,-zB,-zC,-zD,-zE,i1,i2,i3,i4,i5,i6,i7,i8,i9,zd00,zh9j,zg3x,S];refine ⟨⟨i+1,insR zvda x D,O,z⟩,?_,by simp only; omega,by simp only; omega,by simp only; rw [r],by simp only; rw [f]⟩
   rw [S350,t,b3];exact zilm (y09 _) (by rw [z6mj (by simp)]; simp) (by repeat' (first|exact Or.inl rfl|exact Or.inr (f2 _ (by simp))|exact Or.inr (f3 _)|exact Or.inr (f4 _)|exact Or.inr rfl|exact trivial|refine And.intro ?_ ?_)) (f5 _ _ _ (by simp))
  ·have b4:=fun K=>zzwh K (D:=D) (i:=m) (by omega)
   have e9:(0:Int)<(m:Int)+1:=by omega
   by_cases e5:x.den<D[m].den
   ·simp (disch:=first|omega|simp<;>omega|fail) [-zA,-zB,-zC,-zD,-zE,e9,b4,e5];exact ⟨m,yWS (by simp [-zA,-zB,-zC,-zD,-zE,S351,zu6f]),by omega,by omega,fun j hj hmj=>by
     by_cases q:j=m
     ·subst q; exact e5
     ·exact d7 j hj (by omega)⟩
   ·have b3:insR zvda x D=D.take (m+1)++x::D.drop (m+1):=by
     have:=zv9v (lt:=zvda) (x:=x) (A:=D.take (m+1)) (B:=D.drop (m+1)) (fun b hb=>by
      obtain ⟨j,hj,rfl⟩:=y0c hb;simp only [List.length_drop] at hj;simp only [List.getElem_drop,zvda,decide_eq_true_eq];exact d7 _ (by omega) (by omega)) (.inr ⟨D.take m,D[m],y03 (by omega),by simpa [zvda] using e5⟩)
     rwa [y0v] at this
    obtain ⟨v1,v2,w⟩:=insF (H:=H) (x:=x) (D:=D) (q:=m+1) (by omega) (by omega)
    have i1:=w.s1;have i2:=w.s2;have i3:=w.a1;have i4:=w.a2;have i5:=w.a3;have i6:=w.ox;have i7:=w.p1;have i8:=w.y1;have i9:=w.y2;simp only [Int.natCast_add,Int.natCast_one] at i1 i2;simp (disch:=first|omega|simp<;>omega|fail) [-zA,-zB,-zC,-zD,-zE,e9,b4,e5,i1,i2,i3,i4,i5,i6,i7,i8,i9,zd00,zh9j,zg3x,S];refine ⟨⟨i+1,insR zvda x D,O,z⟩,?_,by simp only; omega,by simp only; omega,by simp only; rw [r],by simp only; rw [f]⟩
    rw [S350,t,b3];exact zilm (y09 _) (by rw [z6mj (by simp)]; simp) (by repeat' (first|exact Or.inl rfl|exact Or.inr (f2 _ (by simp))|exact Or.inr (f3 _)|exact Or.inr (f4 _)|exact Or.inr rfl|exact trivial|refine And.intro ?_ ?_)) (f5 _ _ _ (by simp))
 ·have h':¬ (i:Int)<n:=by omega
  have eD:D=z120 c.i.l K:=by rw [r2,y00 (by omega)]
  have eO:O=(zw7h g c.i.l K).map Ins.id:=by rw [r3,y00 (by omega)]
  simp (disch:=first|omega|simp<;>omega|fail) [-zA,-zB,-zC,-zD,-zE,h,h'];have h6:D.length≤19:=by omega
  have i0:O.length≤19:=by omega
  have h3 : ∀ L,objV (srtH H L) 0 3=some (clC c):=fun L=>by
   have:=z4f8 (zt5b b6 (zdjm H L)) []
   rwa [y0a] at this
  refine zlm5 (S352 c K D O H) (fun i=>D.length-i) (fun i=>i≤D.length) 0 (z515 (by simp (disch:=first|omega|simp<;>omega|fail) [-zA,-zB,-zC,-zD,-zE,S352,zlru,srtV]) (by simp (disch:=first|omega|simp<;>omega|fail) [-zA,-zB,-zC,-zD,-zE,S352,zlru,srtH])) (by omega) (fun i hi => ?_)
  have g8:((D.take i).map Ins.id).length≤19:=by simp; omega
  obtain ⟨L,hL⟩ : ∃ L,(D.take i).map Ins.id=L:=⟨_,rfl⟩;rw [hL] at g8;have d4:=fun K=>zy9v K D
  simp (disch:=first|omega|simp<;>omega|fail) [-zA,-zB,-zC,-zD,-zE,zn6l,zlru,S352,hL,d4];by_cases g1:i<D.length
  ·have c4:(i:Int)<D.length:=by omega
   have g7:=fun K=>zzwh K g1
   have hs:(D.take (i+1)).map Ins.id=L++[D[i].id]:=by rw [y03 g1,y04,hL]; rfl
   have ha:=fun y=>zzni (pre:=H) (L:=L) (y:=y) (by omega)
   simp (disch:=first|omega|simp<;>omega|fail) [-zA,-zB,-zC,-zD,-zE,g1,c4,g7,ha];exact ⟨i+1,yWS (by simp [-zA,-zB,-zC,-zD,-zE,S352,zlru,hs]),by omega,by omega⟩
  ·have c4:¬ (i:Int)<D.length:=by omega
   have g0:L=D.map Ins.id:=by rw [← hL,y00 (by omega)]
   have h4 : ∀ K,(∃ X,K=H++X)→visY K (srtV 2 O)=some (O.length,O.map (.int .i64)):=fun K hK=>by
    obtain ⟨X,rfl⟩:=hK;refine (zt8z (H:=H) (p:=2) (l:=O) rfl fun q => ?_).vis X
    rw [← hH,zz0o q]; rfl
   have f1:=h4 _ (zdjm H L);have ha:=z1i6 (pre:=H) (L:=L) (M:=O) (by omega)
   obtain ⟨u,F⟩ : ∃ b,L++O=b:=⟨_,rfl⟩;have j0:u.length≤38:=by rw [← F,y01]; omega
   rw [F] at ha;have g9:=h3 u;have d5:(gooR c K c.i.l).length=(selL c.i.l K (zj6b g)).length:=by
    rw [gooR,y06];exact congrArg _ (zwji fun y _ hy=>zc1g Z hy)
   have e8:(gooR c K c.i.l).length≤19:=by rw [d5]; exact y0h (y05 _ _) (by omega)
   obtain ⟨G,d8⟩ : ∃ G,(gooR c K c.i.l).length=G:=⟨_,rfl⟩;rw [d8] at e8 d5;have hM : -2000000000≤(G:Int)-g.want∧(G:Int)-g.want≤2000000000:=by omega
   obtain ⟨M0,c7⟩ : ∃ M,(G:Int)-g.want=M:=⟨_,rfl⟩;rw [c7] at hM;simp (disch:=first|omega|simp<;>omega|fail) [-zA,-zB,-zC,-zD,-zE,g1,c4,f1,ha,g9,z8sq,ztaz,zq4a,d8,hG,c7,hn];have c3:vicR c K=u++((z56d g c.i.l K).reverse.take M0.toNat).map Ins.id:=by
    rw [hr,z2f6,y04,y04,← F,g0,← eD,← eO,← d5,c7,y08]
   refine zlm5 (S353 K) (fun a=>a.m) (VRI c g K u M0) ⟨n,H,u,M0⟩ (yWS (by simp [-zA,-zB,-zC,-zD,-zE,S353,zk3h])) ?_ (fun a ha => ?_)
   ·have e:z56d g (c.i.l.drop n) K=[]:=by rw [List.drop_of_length_le (by omega)]; rfl
    exact ⟨by simp only; omega,b6,c6,by simp only; rw [e]; simp,by simp only; rw [e]; simp,by simp only; rw [e]; simp⟩
   obtain ⟨m,pre,L,M⟩:=a;obtain ⟨hm,hf,hp,hl,W,hN⟩:=ha;simp only at hm hf hp hl W hN;have h7:L.length≤57:=by
    have:(z56d g (c.i.l.drop m) K).length≤n:=y0h (y05 _ _) (by simp; omega)
    rw [hl,y01,y06,y0k]; omega
   obtain ⟨Q,C⟩ : ∃ Q,srtH pre L=Q:=⟨_,rfl⟩;have d9 : ∃ X,Q=[.cells (clC c)]++X:=zt5b hf (C▸zdjm pre L);have d0:zpbt Q:=C▸hp.srt;have R:=fun X=>z4f8 d9 X
   have v:=R [];rw [y0a] at v;have c8:0<Q.length:=by obtain ⟨X,rfl⟩:=d9; simp
   have j2:0<pre.length:=by obtain ⟨X,rfl⟩:=hf; simp
   have c9:Am.below Q.length (srtV pre.length L)=true:=by
    by_cases q:L=[]
    ·subst q; rfl
    ·rw [zgky q,← C,zzyq q]; simp [Am.below]
   simp (disch:=first|omega|simp<;>omega|fail) [-zA,-zB,-zC,-zD,-zE,zxb1,zk3h,S353,C];by_cases c1:m=0
   ·subst c1;have E:L=vicR c K:=by
     rw [y0g] at hl hN;rw [hl,c3,y00 (by rw [y0k]; exact hN)]
    have b5:=ztrh (pre:=pre) (l:=L);rw [C,E] at b5;rw [E];simp (disch:=first|omega|simp<;>omega|fail) [-zA,-zB,-zC,-zD,-zE,b5]
   obtain ⟨m,rfl⟩ : ∃ m',m=m'+1:=⟨m-1,by omega⟩
   have j1:((m+1:Nat):Int)-1=m:=by omega
   have I:(1:Int)≤(m:Int)+1:=by omega
   have b4:m<c.i.l.length:=by omega
   by_cases c2:0<M
   case neg =>
    have E:L=vicR c K:=by
     have b9:z56d g c.i.l K=z56d g (c.i.l.take (m+1)) K++z56d g (c.i.l.drop (m+1)) K:=by
      rw [z56d,z56d,z56d,selL,selL,selL,← List.filter_append,y0v]
     rw [hl,c3,b9,List.reverse_append,List.take_left' (by rw [y0k]; omega)]
    have b5:=ztrh (pre:=pre) (l:=L);rw [C,E] at b5;rw [E];simp (disch:=first|omega|simp<;>omega|fail) [-zA,-zB,-zC,-zD,-zE,I,c2,b5]
   have s:=fun H=>zalo (x:=c.i) (h:=H) z6gw b4
   obtain ⟨x,V⟩ : ∃ x,c.i.l[m]=x:=⟨_,rfl⟩;have b8:=zhu3 (g:=g) (k:=K) b4 V;simp only [V] at s;by_cases e1:x.grp=K
   case neg =>
    have d:z56d g (c.i.l.drop m) K=z56d g (c.i.l.drop (m+1)) K:=by rw [b8]; simp [e1]
    simp (disch:=first|omega|simp<;>omega|fail) [-zA,-zB,-zC,-zD,-zE,I,c2,v,R,s,e1,zxft];exact ⟨⟨m,pre,L,M⟩,zju2 (tail:=[.cells (inC x)]) (by simp (disch:=first|omega|simp<;>omega|fail) [-zA,-zB,-zC,-zD,-zE,S353,zk3h]) (by simp (disch:=first|omega|simp<;>omega|fail) [-zA,-zB,-zC,-zD,-zE,S353,zk3h,C]) (y09 _) (by simp (disch:=first|omega|simp<;>omega|fail) [-zA,-zB,-zC,-zD,-zE,S353,zk3h,C,belowL,Am.below,c9,c8]) (by simp only [S353,zk3h,C]; exact zjo1 d0),by simp only; omega,⟨by simp only; omega,hf,hp,by simp only; rw [d,hl],by simp only; rw [d,W],by simp only; rw [d]; exact hN⟩⟩
   by_cases e2:x.state=2
   case neg =>
    have d:z56d g (c.i.l.drop m) K=z56d g (c.i.l.drop (m+1)) K:=by rw [b8]; simp [e2]
    simp (disch:=first|omega|simp<;>omega|fail) [-zA,-zB,-zC,-zD,-zE,I,c2,v,R,s,e1,e2,zxft];exact ⟨⟨m,pre,L,M⟩,zju2 (tail:=[.cells (inC x)]) (by simp (disch:=first|omega|simp<;>omega|fail) [-zA,-zB,-zC,-zD,-zE,S353,zk3h]) (by simp (disch:=first|omega|simp<;>omega|fail) [-zA,-zB,-zC,-zD,-zE,S353,zk3h,C]) (y09 _) (by simp (disch:=first|omega|simp<;>omega|fail) [-zA,-zB,-zC,-zD,-zE,S353,zk3h,C,belowL,Am.below,c9,c8]) (by simp only [S353,zk3h,C]; exact zjo1 d0),by simp only; omega,⟨by simp only; omega,hf,hp,by simp only; rw [d,hl],by simp only; rw [d,W],by simp only; rw [d]; exact hN⟩⟩
   have a0:=zc1g Z e1;cases e3:zj6b g x with
   | false =>
    rw [e3] at a0;have d:z56d g (c.i.l.drop m) K=z56d g (c.i.l.drop (m+1)) K:=by rw [b8]; simp [e3]
    simp (disch:=first|omega|simp<;>omega|fail) [-zA,-zB,-zC,-zD,-zE,I,c2,v,R,s,e1,e2,zxft,zbej,z6nc,a0];exact ⟨⟨m,pre,L,M⟩,zju2 (tail:=[.cells (inC x)]) (by simp (disch:=first|omega|simp<;>omega|fail) [-zA,-zB,-zC,-zD,-zE,S353,zk3h]) (by simp (disch:=first|omega|simp<;>omega|fail) [-zA,-zB,-zC,-zD,-zE,S353,zk3h,C]) (y09 _) (by simp (disch:=first|omega|simp<;>omega|fail) [-zA,-zB,-zC,-zD,-zE,S353,zk3h,C,belowL,Am.below,c9,c8]) (by simp only [S353,zk3h,C]; exact zjo1 d0),by simp only; omega,⟨by simp only; omega,hf,hp,by simp only; rw [d,hl],by simp only; rw [d,W],by simp only; rw [d]; exact hN⟩⟩
   | true =>
    rw [e3] at a0;have d:z56d g (c.i.l.drop m) K=x::z56d g (c.i.l.drop (m+1)) K:=by rw [b8]; simp [e1,e2,e3]
    have h8 : -3000000000≤M∧M≤3000000000:=by
     have:(z56d g (c.i.l.drop (m+1)) K).length≤n:=y0h (y05 _ _) (by simp; omega)
     omega
    have f6 : ∀ pre',(∃ X,pre'=[.cells (clC c)]++X)→zpbt pre'→VRI c g K u M0 ⟨m,pre',L++[x.id],M-1⟩:=fun pre' f' p'=>⟨by simp only; omega,f',p',by simp only; rw [d,hl]; simp,by simp only; rw [d,W,y0i]; omega,by simp only; rw [d,y0i]; omega⟩
    by_cases q:L=[]
    ·subst q;rw [zwug] at C;subst C;have hV:srtV (pre.length+1) [x.id] = .ms (pre.length+1) 1 0 1 1 1:=rfl;have f9:srtH (pre++[.cells (inC x)]) [x.id]=pre++[.cells (inC x),.cells [.int .i64 x.id]]:=by rw [zzyq (by simp),y08]; rfl
     simp (disch:=first|omega|simp<;>omega|fail) [-zA,-zB,-zC,-zD,-zE,I,c2,v,R,s,e1,e2,zxft,zbej,z6nc,a0,zh11];exact ⟨⟨m,pre++[.cells (inC x)],[]++[x.id],M-1⟩,z515 (by simp (disch:=first|omega|simp<;>omega|fail) [-zA,-zB,-zC,-zD,-zE,S353,zk3h,hV]) (by simp (disch:=first|omega|simp<;>omega|fail) [-zA,-zB,-zC,-zD,-zE,S353,zk3h,f9]),by simp only; omega,f6 _ (zt5b hf ⟨_,rfl⟩) (hp.app (.one (z9kv x)))⟩
    ·have e6:=zto9 (pre:=pre) (L:=L) (y:=x.id) (o := .cells (inC x)) q (by omega)
     rw [C] at e6;have g3:zpbt (srtH pre (L++[x.id])):=hp.srt;have g4:0<(srtH pre (L++[x.id])).length:=by rw [zxrm (by simp)]; omega
     have g5:Am.below (srtH pre (L++[x.id])).length (srtV pre.length (L++[x.id]))=true:=by
      rw [zgky (by simp),zxrm (by simp)]; simp [Am.below]
     simp (disch:=first|omega|simp<;>omega|fail) [-zA,-zB,-zC,-zD,-zE,I,c2,v,R,s,e1,e2,zxft,zbej,z6nc,a0,e6];exact ⟨⟨m,pre,L++[x.id],M-1⟩,zju2 (tail:=[.cells (inC x)]) (by simp (disch:=first|omega|simp<;>omega|fail) [-zA,-zB,-zC,-zD,-zE,S353,zk3h]) (by simp (disch:=first|omega|simp<;>omega|fail) [-zA,-zB,-zC,-zD,-zE,S353,zk3h]) (y09 _) (by simp (disch:=first|omega|simp<;>omega|fail) [-zA,-zB,-zC,-zD,-zE,S353,zk3h,belowL,Am.below,g4,g5]) (by simp only [S353,zk3h]; exact zjo1 g3),by simp only; omega,f6 _ hf hp⟩
end
section
theorem zsc2 {c:Clu} (hv:ValidC c) {k:Int} (hk:grAt c k=none) : ∀ x ∈ c.i.l,¬ x.grp=k:=fun x hx e=>by
 obtain ⟨j,hj,rfl⟩:=y0c hx;have h:=(hv.i j hj).1;obtain ⟨g,hg⟩:=zgr5 (c:=c) (k:=k) (by rw [← e]; exact h.g0) (by rw [← e]; exact h.g1)
 rw [hk] at hg; cases hg
theorem zqb9 {c:Clu} (hv:ValidC c) (k:Int):zd1c c k=cntR k c.i.l:=by
 cases hk:grAt c k with
 | some g=>exact z00u hk
 | none =>
  have h:=zsc2 hv hk;have:c.i.l.filter (runB k)=[]:=by
   rw [y0t];intro x hx;simp [runB,h x hx]
  simp only [zd1c,idsP,hk,cntR,this,y0f]
theorem zj8p {c:Clu} (hv:ValidC c) (k:Int):znqs c k=gooR c k c.i.l:=by
 cases hk:grAt c k with
 | some g =>
  have:znqs c k=(selL c.i.l k (zj6b g)).map Ins.id:=by
   have b:=zyak hv;unfold znqs idsP; rw [hk];refine congrArg _ (zcf2 fun x hx => ?_)
   obtain ⟨d,e,f⟩:=b.s x hx;have:decide (x.state≠3)=(decide (x.state=1)||decide (x.state=2)):=by
    rw [← Bool.decide_or]; exact decide_eq_decide.2 (by omega)
   have a:decide (x.den<0)=decide (x.den = -1):=decide_eq_decide.2 (by omega)
   simp only [z9qu,zj6b,chos,a,this]
  rw [this,gooR];exact congrArg _ (zwji fun y _ hy=>(zc1g hk hy).symm)
 | none =>
  have h:=zsc2 hv hk;have:selL c.i.l k (zape c)=[]:=by
   unfold selL;rw [y0t];intro x hx;simp [h x hx]
  simp only [znqs,idsP,hk,gooR,this,List.map_nil]
theorem z6ez {c:Clu} (hv:ValidC c) (k:Int):z17v c k=zv6d c k:=by
 unfold z17v zv6d; rw [zqb9 hv]; cases grAt c k<;>rfl
theorem zay2 {c:Clu} (hv:ValidC c) (k:Int):zu3j c k=vicR c k:=by
 cases hk:grAt c k with
 | some g=>rw [zitu (zyak hv) hk,vicR,hk]
 | none=>rw [zu3j,hk,vicR,hk]
def zfe6 (c:Clu) (k:Int):DV:=liV (vicR c k)
theorem zw7r:(Con.pure (cCkA VicOK zfe6)).Sound P 92:=z2au fun a h=>zljw mix zdnn Tryz.func92 zypd (zf8f a.1 a.2 h)
namespace disruptionCounts
end disruptionCounts
end
section
theorem zc46 {c:Clu} (hv:ValidC c) {k:Nat} (hk:k<c.i.l.length):c.g.l≠[]:=by
 intro e;have b:=(hv.i k hk).1.g0;have a:=(hv.i k hk).1.g1;rw [e] at a; simp at a; omega
end
section
def inz:Ins:=⟨0,0,dg0,0,0,0⟩
structure DelF (pre:List AObj) (l:List Ins) (i n:Nat):Prop where
 s1:z390 (pre++[.cells (l.flatMap inC)]) 37 (.ms pre.length (n*37) 0 37 n (n*37)) (some (.int .i64 i)) (some (.int .i64 ((i:Int)+1))) (some (.int .i64 n))=some .junk
 s2:z390 (pre++[.cells (l.flatMap inC)]) 37 (.ms pre.length (n*37) 0 37 n (n*37)) none (some (.int .i64 i)) none=some (.ms pre.length (n*37) 0 37 i (n*37))
 s3:z390 (pre++[.cells (l.flatMap inC)]) 37 (.ms pre.length (n*37) 0 37 n (n*37)) (some (.int .i64 ((i:Int)+1))) none none=some (.ms pre.length (n*37) ((i+1)*37) 37 (n-(i+1)) (n*37))
 y:visY (pre++[.cells (l.flatMap inC)]) (.ms pre.length (n*37) ((i+1)*37) 37 (n-(i+1)) (n*37))=some (n-(i+1),(l.drop (i+1)).flatMap inC)
 a:appX (pre++[.cells (l.flatMap inC)]) 37 72 (.ms pre.length (n*37) 0 37 i (n*37)) (n-(i+1)) ((l.drop (i+1)).flatMap inC)=some (.ms pre.length (n*37) 0 37 (n-1) (n*37),pre++[.cells ((l.eraseIdx i++l.drop (n-1)).flatMap inC)])
 ln:lenD (pre++[.cells ((l.eraseIdx i++l.drop (n-1)).flatMap inC)]) (.ms pre.length (n*37) 0 37 (n-1) (n*37))=some (.int .i64 ((n:Int)-1))
 s4:z390 (pre++[.cells ((l.eraseIdx i++l.drop (n-1)).flatMap inC)]) 37 (.ms pre.length (n*37) 0 37 (n-1) (n*37)) (some (.int .i64 ((n:Int)-1))) (some (.int .i64 n)) none=some (.ms pre.length (n*37) ((n-1)*37) 37 1 (n*37))
 c:clrD (pre++[.cells ((l.eraseIdx i++l.drop (n-1)).flatMap inC)]) 37 (inC inz) (.ms pre.length (n*37) ((n-1)*37) 37 1 (n*37))=some (.tup [],pre++[.cells ((l.eraseIdx i++[inz]).flatMap inC)])
end
section
def a93:AFn:=⟨(ql (yc [yZ 4 0,yZ 6 2,⟨yg,yh 8,qR [.nils,.nils,(.int .i64 0)]⟩,yR 9 (.int .i64 0),yR 10 (.int .i64 0)]) (ql (ql (yc [yM 12 3 true 4,yU 13 29 [.t 12],⟨yg,yh 14,qG .not (.t 13)⟩,yL 15 14,⟨yh (15,false),yh 16,qH 32 true (.t 6)⟩,⟨yh (15,false),yh 17,qT (rep 32 (w8 0#8)) []⟩,⟨yh (15,false),yh 18,qD false [(32,0)] (.t 16) (.t 17)⟩,yY 19 15 18,yL 20 19,⟨yh (20,false),yh 21,qA (.t 3)⟩,⟨yh (20,false),yh 22,qf (.k (.fn (.func 96) [] [])) [.t 21]⟩,⟨yh (20,false),yh 23,qG .not (.t 22)⟩,yY 24 20 23]) (yd 24 (ql (yc [⟨yg,yh 25,qT [.nils,.nils,(.int .i64 0)] []⟩,ya 3 8 25,yR 9 (.int .i64 0),yR 10 (.int .i64 1)]) qq) qj)) (ql (ql (yc [yL 26 1,⟨yg,yh 27,qC .lss (.t 26) (.k (.int .i64 0))⟩,yL 28 27,⟨yh (28,false),yh 29,qA (.t 1)⟩,⟨yh (28,false),yh 30,qL 0 (.t 4)⟩,⟨yh (28,false),yh 31,qH 1 false (.t 30)⟩,⟨yh (28,false),yh 32,qV (.t 31)⟩,⟨yh (28,false),yh 33,qC .geq (.t 29) (.t 32)⟩,yY 34 28 33]) (yd 34 (ql (yc [⟨yg,yh 35,qT [.nils,.nils,(.int .i64 0)] []⟩,ya 3 8 35,yR 9 (.int .i64 0),yR 10 (.int .i64 4)]) qq) qj)) (ql (ql (yc [yN 36 1 4,yM 37 1 false 36,yS 38 37,⟨yg,yh 39,qC .geq (.t 38) (.k (.int .i64 200))⟩,yL 40 39,⟨yh (40,false),yh 41,qL 2 (.t 4)⟩,⟨yh (40,false),yh 42,qH 1 false (.t 41)⟩,⟨yh (40,false),yh 43,qC .eql (.t 42) (.k (.int .i64 1099511627776))⟩,yY 44 40 43]) (yd 44 (ql (yc [⟨yg,yh 45,qT [.nils,.nils,(.int .i64 0)] []⟩,ya 3 8 45,yR 9 (.int .i64 0),yR 10 (.int .i64 3)]) qq) qj)) (ql (yc [yM 46 3 true 4,yU 47 97 [.t 46],⟨yg,yh 11,qR [.nils,.nils,(.int .i64 0)]⟩,ya 3 11 47]) (ql (yc [yN 48 1 11,yM 49 1 false 48,yN 50 2 4,yM 51 1 false 50,yL 52 1,yM 53 32 true 6,yL 54 3,⟨yg,yh 55,qT yz60 [(0,1,(.t 51)),(1,1,(.t 52)),(2,32,(.t 53)),(34,1,(.k (.int .i64 1))),(35,1,(.t 54)),(36,1,(.k (.int .i64 (-1))))]⟩,⟨yg,yh 56,qU 37 1 yz60 [(0,37,(.t 55))]⟩,⟨yg,yh 57,qX 37 72 (.t 49) (.t 56)⟩,yN 58 1 11,ya 1 58 57]) (ql (yc [yN 59 2 11,yM 60 1 false 59,⟨yg,yh 61,qC .add (.t 60) (.k (.int .i64 1))⟩,yN 62 2 11,ya 1 62 61]) (ql (qk true [yM 63 3 true 11,yN 64 2 4,yM 65 1 false 64,ya 3 8 63,yL 9 65,yR 10 (.int .i64 0),⟨yg,yg,qZ (.t 4) (.t 8)⟩,⟨yg,yg,qZ (.t 64) (.t 8)⟩]) qq)))))))),66,[.cell 8 3 true,.tmp 9,.tmp 10]⟩
theorem zv7d:zsjc P Tryz.f93=some a93:=by kernel_rfl
def a63:AFn:=⟨(ql (yc [yZ 6 0,⟨yg,yh 12,qR [.nils,.nils,(.int .i64 0)]⟩,yR 13 (.int .i64 0)]) (ql (ql (yc [yM 17 3 true 6,yU 18 29 [.t 17],⟨yg,yh 19,qG .not (.t 18)⟩,yL 20 19,⟨yh (20,false),yh 21,qA (.t 2)⟩,⟨yh (20,false),yh 22,qf (.k (.fn (.func 96) [] [])) [.t 21]⟩,⟨yh (20,false),yh 23,qG .not (.t 22)⟩,yY 24 20 23]) (yd 24 (ql (yc [⟨yg,yh 25,qT [.nils,.nils,(.int .i64 0)] []⟩,ya 3 12 25,yR 13 (.int .i64 1)]) qq) qj)) (ql (yc [yM 26 3 true 6,yL 27 1,yU 28 30 [.t 26,.t 27],yL 14 28]) (ql (ql (yc [yL 29 14,⟨yg,yh 30,qC .lss (.t 29) (.k (.int .i64 0))⟩]) (yd 30 (ql (yc [⟨yg,yh 31,qT [.nils,.nils,(.int .i64 0)] []⟩,ya 3 12 31,yR 13 (.int .i64 4)]) qq) qj)) (ql (ql (yc [yN 32 1 6,yM 33 1 false 32,yL 34 14,yQ 35 37 33 34,yN 36 34 35,yM 37 1 false 36,yL 15 37]) (ql (yc [yL 38 15,yL 39 3,yO 40 .neq 38 39,yL 41 40,⟨yh (41,true),yh 42,qA (.t 15)⟩,⟨yh (41,true),yh 43,qA (.t 4)⟩,⟨yh (41,true),yh 44,qC .neq (.t 42) (.t 43)⟩,yX 45 41 44]) (yd 45 (ql (yc [⟨yg,yh 46,qT [.nils,.nils,(.int .i64 0)] []⟩,ya 3 12 46,yR 13 (.int .i64 30)]) qq) qj))) (ql (yc [yM 47 3 true 6,yU 48 97 [.t 47],⟨yg,yh 16,qR [.nils,.nils,(.int .i64 0)]⟩,ya 3 16 48]) (ql (qk true [yN 49 1 16,yM 50 1 false 49,yL 51 14,yN 52 1 16,yM 53 1 false 52,yL 54 14,yL 55 5,yL 56 2,yQ 57 37 50 51,yN 58 34 57,ya 1 58 55,yQ 59 37 53 54,yN 60 35 59,ya 1 60 56,⟨yg,yg,qZ (.t 16) (.t 58)⟩,⟨yg,yg,qZ (.t 52) (.t 58)⟩]) (ql (yc [yM 61 3 true 16,ya 3 12 61,yR 13 (.int .i64 0)]) qq)))))))),62,[.cell 12 3 true,.tmp 13]⟩
theorem z2tu:zsjc P Tryz.f63=some a63:=by kernel_rfl
def a33:AFn:=⟨(ql (yc [yZ 3 0,⟨yg,yh 6,qR [.nils,.nils,(.int .i64 0)]⟩,yR 7 (.int .i64 0)]) (ql (yc [yM 8 3 true 3,yL 9 1,yL 10 2,yU 11 63 [.t 8,.t 9,.t 10,(.k (.int .i64 1)),(.k (.int .i64 2)),(.k (.int .i64 3))],yP 12 11 0,yP 13 11 1,ya 3 6 12,yL 7 13]) qq)),14,[.cell 6 3 true,.tmp 7]⟩
theorem zojn:zsjc P Tryz.f33=some a33:=by kernel_rfl
def a58:AFn:=⟨(ql (yc [yZ 2 0,yZ 3 1,yR 4 (.bool false)]) (ql (yc [yN 5 0 2,yM 6 1 false 5,yN 7 0 3,yM 8 1 false 7,yO 9 .eql 6 8,yL 10 9,⟨yh (10,true),yh 11,qL 1 (.t 2)⟩,⟨yh (10,true),yh 12,qH 1 false (.t 11)⟩,⟨yh (10,true),yh 13,qL 1 (.t 3)⟩,⟨yh (10,true),yh 14,qH 1 false (.t 13)⟩,⟨yh (10,true),yh 15,qC .eql (.t 12) (.t 14)⟩,yX 16 10 15,yL 17 16,⟨yh (17,true),yh 18,qL 2 (.t 2)⟩,⟨yh (17,true),yh 19,qH 1 false (.t 18)⟩,⟨yh (17,true),yh 20,qL 2 (.t 3)⟩,⟨yh (17,true),yh 21,qH 1 false (.t 20)⟩,⟨yh (17,true),yh 22,qC .eql (.t 19) (.t 21)⟩,yX 23 17 22,yL 24 23,⟨yh (24,true),yh 25,qL 3 (.t 2)⟩,⟨yh (24,true),yh 26,qH 1 false (.t 25)⟩,⟨yh (24,true),yh 27,qL 3 (.t 3)⟩,⟨yh (24,true),yh 28,qH 1 false (.t 27)⟩,⟨yh (24,true),yh 29,qC .eql (.t 26) (.t 28)⟩,yX 30 24 29,yL 31 30,⟨yh (31,true),yh 32,qL 4 (.t 2)⟩,⟨yh (31,true),yh 33,qH 1 false (.t 32)⟩,⟨yh (31,true),yh 34,qL 4 (.t 3)⟩,⟨yh (31,true),yh 35,qH 1 false (.t 34)⟩,⟨yh (31,true),yh 36,qC .eql (.t 33) (.t 35)⟩,yX 37 31 36,yL 38 37,⟨yh (38,true),yh 39,qL 5 (.t 2)⟩,⟨yh (38,true),yh 40,qH 1 false (.t 39)⟩,⟨yh (38,true),yh 41,qL 5 (.t 3)⟩,⟨yh (38,true),yh 42,qH 1 false (.t 41)⟩,⟨yh (38,true),yh 43,qf (.k (.fn (.func 94) [] [])) [.t 40,.t 42]⟩,yX 44 38 43,yL 4 44]) qq)),45,[.tmp 4]⟩
theorem zt5h:zsjc P Tryz.f58=some a58:=by kernel_rfl
def zcoh:ACode :=
 (.seq (.seq (.region false [⟨none,(some 30),.mov (.t 5)⟩,
  ⟨none,(some 31),.fld 0 (.t 2)⟩,
  ⟨none,(some 32),.load 1 false (.t 31)⟩,
  ⟨none,(some 33),.len (.t 32)⟩,
  ⟨none,(some 34),.bin .lss (.t 30) (.t 33)⟩])
 (.cond (.t 34) .skip
 (.exit 0)))
 (.seq (.block 1 (.seq (.region true [⟨none,(some 37),.fld 0 (.t 2)⟩,
  ⟨none,(some 38),.load 1 false (.t 37)⟩,
  ⟨none,(some 39),.mov (.t 5)⟩,
  ⟨none,(some 40),.idxS 6 (.t 38) (.t 39)⟩,
  ⟨none,(some 41),.load 6 true (.t 40)⟩,
  ⟨none,(some 42),.fld 0 (.t 3)⟩,
  ⟨none,(some 43),.load 1 false (.t 42)⟩,
  ⟨none,(some 44),.mov (.t 5)⟩,
  ⟨none,(some 45),.idxS 6 (.t 43) (.t 44)⟩,
  ⟨none,(some 46),.load 6 true (.t 45)⟩,
  ⟨none,(some 47),.callN (.k (.fn (.func 58) [] [])) [(.t 41),(.t 46)]⟩,
  ⟨none,(some 48),.un .not (.t 47)⟩])
 (.cond (.t 48) (.seq (.region false [⟨none,(some 4),.mov (.k (.bool false))⟩])
 .ret)
 .skip)))
 (.region false [⟨none,(some 35),.mov (.t 5)⟩,
  ⟨none,(some 36),.bin .add (.t 35) (.k (.int .i64 1))⟩,
  ⟨none,(some 5),.mov (.t 36)⟩])))
def zpkh (x2 x3 x5:DV) (h:List AObj):St:=⟨[.junk,.junk,x2,x3,.junk,x5]++js 61,h⟩
def z2dl:ACode :=
 (.seq (.seq (.region false [⟨none,(some 49),.mov (.t 6)⟩,
  ⟨none,(some 50),.fld 1 (.t 2)⟩,
  ⟨none,(some 51),.load 1 false (.t 50)⟩,
  ⟨none,(some 52),.len (.t 51)⟩,
  ⟨none,(some 53),.bin .lss (.t 49) (.t 52)⟩])
 (.cond (.t 53) .skip
 (.exit 2)))
 (.seq (.block 3 (.seq (.region true [⟨none,(some 56),.fld 1 (.t 2)⟩,
  ⟨none,(some 57),.load 1 false (.t 56)⟩,
  ⟨none,(some 58),.mov (.t 6)⟩,
  ⟨none,(some 59),.idxS 37 (.t 57) (.t 58)⟩,
  ⟨none,(some 60),.load 37 true (.t 59)⟩,
  ⟨none,(some 61),.fld 1 (.t 3)⟩,
  ⟨none,(some 62),.load 1 false (.t 61)⟩,
  ⟨none,(some 63),.mov (.t 6)⟩,
  ⟨none,(some 64),.idxS 37 (.t 62) (.t 63)⟩,
  ⟨none,(some 65),.load 37 true (.t 64)⟩,
  ⟨none,(some 66),.eqa true [(37,0)] (.t 60) (.t 65)⟩])
 (.cond (.t 66) (.seq (.region false [⟨none,(some 4),.mov (.k (.bool false))⟩])
 .ret)
 .skip)))
 (.region false [⟨none,(some 54),.mov (.t 6)⟩,
  ⟨none,(some 55),.bin .add (.t 54) (.k (.int .i64 1))⟩,
  ⟨none,(some 6),.mov (.t 55)⟩])))
def zni1 (x2 x3 x6:DV) (h:List AObj):St:=⟨[.junk,.junk,x2,x3,.junk,.junk,x6]++js 60,h⟩
def a27:AFn:=⟨(ql (yc [yZ 2 0,yZ 3 1,yR 4 (.bool false)]) (ql (ql (yc [yN 7 0 2,yM 8 1 false 7,yS 9 8,yN 10 0 3,yM 11 1 false 10,yS 12 11,yO 13 .neq 9 12,yL 14 13,⟨yh (14,false),yh 15,qL 1 (.t 2)⟩,⟨yh (14,false),yh 16,qH 1 false (.t 15)⟩,⟨yh (14,false),yh 17,qV (.t 16)⟩,⟨yh (14,false),yh 18,qL 1 (.t 3)⟩,⟨yh (14,false),yh 19,qH 1 false (.t 18)⟩,⟨yh (14,false),yh 20,qV (.t 19)⟩,⟨yh (14,false),yh 21,qC .neq (.t 17) (.t 20)⟩,yY 22 14 21,yL 23 22,⟨yh (23,false),yh 24,qL 2 (.t 2)⟩,⟨yh (23,false),yh 25,qH 1 false (.t 24)⟩,⟨yh (23,false),yh 26,qL 2 (.t 3)⟩,⟨yh (23,false),yh 27,qH 1 false (.t 26)⟩,⟨yh (23,false),yh 28,qC .neq (.t 25) (.t 27)⟩,yY 29 23 28]) (yd 29 (ql (yc [yR 4 (.bool false)]) qq) qj)) (ql (ql (yc [yR 5 (.int .i64 0)]) (qn 0 (qo zcoh))) (ql (ql (yc [yR 6 (.int .i64 0)]) (qn 2 (qo z2dl))) (ql (yc [yR 4 (.bool true)]) qq))))),67,[.tmp 4]⟩
theorem z3hx:zsjc P Tryz.f27=some a27:=by kernel_rfl
end
section
noncomputable def ztas (c:Clu) (gr:Int) (d:Dg) (t:Int):DV := .tup [.agg (clC (z6qh c gr d t).1),.int .i64 (z6qh c gr d t).2.1,.int .i64 (z6qh c gr d t).2.2]
theorem zfe7 (c:Clu) (gr:Int) (d:Dg) (t:Int):Runs T170 a93 [.agg (clC c),.int .i64 gr,.agg (dgC d),.int .i64 t] (ztas c gr d t):=by
 refine ⟨?_⟩;by_cases hv:ValidC c
 case neg =>
  have a:z6qh c gr d t=(clu0,0,1):=by rw [z6qh,if_pos (.inl hv)]
  simp (disch:=first|omega|simp<;>omega|fail) [-zE,a93,z7cg,zf0o,zwdn,zjeq,zixp,ztas,zewf hv,a,z3cj]
 by_cases hz:d=dg0
 ·have a:z6qh c gr dg0 t=(clu0,0,1):=by rw [z6qh,if_pos (.inr (.inl rfl))]
  subst hz;simp (disch:=first|omega|simp<;>omega|fail) [-zE,a93,z7cg,zf0o,zwdn,zjeq,zixp,ztas,zogs hv,a,z3cj]
 by_cases ht:zcie t
 case neg =>
  have a:z6qh c gr d t=(clu0,0,1):=by rw [z6qh,if_pos (.inr (.inr ht))]
  simp (disch:=first|omega|simp<;>omega|fail) [-zE,a93,z7cg,zf0o,zwdn,zjeq,zixp,ztas,zogs hv,hz,zewf ht,a,z3cj]
 have b:¬ (¬ ValidC c∨d=dg0∨¬ zcie t):=fun h=>h.elim (fun h=>h hv) (fun h=>h.elim hz (fun h=>h ht))
 have G:=hv.ni;have E:=hv.n0;have F:=hv.n1;by_cases g0:gr<0
 ·have a:z6qh c gr d t=(clu0,0,4):=by rw [z6qh,if_neg b,if_pos (.inl g0)]
  simp (disch:=first|omega|simp<;>omega|fail) [-zE,a93,z7cg,zf0o,zwdn,zjeq,zixp,ztas,zogs hv,hz,zogs ht,g0,a,z3cj]
 by_cases g1:(c.g.l.length:Int)≤gr
 ·have a:z6qh c gr d t=(clu0,0,4):=by rw [z6qh,if_neg b,if_pos (.inr g1)]
  simp (disch:=first|omega|simp<;>omega|fail) [-zE,a93,z7cg,zf0o,zwdn,zjeq,zixp,ztas,zogs hv,hz,zogs ht,g0,g1,a,z3cj]
 have j:¬ (gr<0∨(c.g.l.length:Int)≤gr):=fun h=>h.elim g0 g1
 by_cases l0:200≤c.i.l.length
 ·have m:(200:Int)≤c.i.l.length:=by omega
  have a:z6qh c gr d t=(clu0,0,3):=by rw [z6qh,if_neg b,if_neg j,if_pos (.inl l0)]
  simp (disch:=first|omega|simp<;>omega|fail) [-zE,a93,z7cg,zf0o,zwdn,zjeq,zixp,ztas,zogs hv,hz,zogs ht,g0,g1,m,l0,a,z3cj]
 have m:¬ (200:Int)≤c.i.l.length:=by omega
 by_cases l1:c.next=1099511627776
 ·have a:z6qh c gr d t=(clu0,0,3):=by rw [z6qh,if_neg b,if_neg j,if_pos (.inr (by omega))]
  simp (disch:=first|omega|simp<;>omega|fail) [-zE,a93,z7cg,zf0o,zwdn,zjeq,zixp,ztas,zogs hv,hz,zogs ht,g0,g1,m,l0,l1,a,z3cj]
 have p:¬ (200≤c.i.l.length∨1099511627776≤c.next):=fun h=>h.elim l0 (fun h=>l1 (by omega))
 have a:z6qh c gr d t=(⟨c.g.copy,own (c.i.l++[newI c gr d t]),c.next+1⟩,c.next,0):=by rw [z6qh,if_neg b,if_neg j,if_neg p]
 have q:=zqrs (l:=c.i.l++[newI c gr d t]) (s:=37) (f:=inC) (by simp; omega)
 have B : ∀ l:List Grp,(l.flatMap grC).length=l.length*6:=z1rq zry4;have v : ∀ l:List Ins,(l.flatMap inC).length=l.length*37:=z1rq z6gw;have o:DV.int .i64 c.next::DV.int .i64 gr::(dgC d++[DV.int .i64 1,DV.int .i64 t,DV.int .i64 (-1)])=inC (newI c gr d t):=rfl;have w:c.g.l≠[]:=by intro e; rw [e] at g1; simp at g1; omega
 have x:=z895 (f:=grC) w;have y:=fun id=>z6jk (id:=id) (s:=6) w
 have z:=zm8x (s:=6) (f:=grC) w;have A:=zq57 (l:=c.g.l) (n:=c.g.l.length) (y0j _);by_cases hi:c.i.l=[]
 ·have r:=fun id=>z2ml (id:=id) (s:=37) hi
  have u:=z4ry (f:=inC) hi;have q:(own (c.i.l++[newI c gr d t])).dv 37 inC = .sl false 37 1 (inC (newI c gr d t)):=by rw [q,hi]; simp
  simp (disch:=first|omega|simp<;>omega|fail) [-zE,a93,z7cg,zf0o,zwdn,zjeq,zixp,ztas,zogs hv,hz,zogs ht,g0,g1,m,l0,l1,zlm3,z48d,zcli,zmsj,zbcp,zd00,o,a,zdhs,q,x,y,z,A,r,u,B,v]
 ·have r:=fun id=>z6jk (id:=id) (s:=37) hi
  have u:=z895 (f:=inC) hi;have C:(c.i.l.flatMap inC++inC (newI c gr d t)).take ((c.i.l.length+1)*37)=c.i.l.flatMap inC++inC (newI c gr d t):=y00 (by rw [y01,v,z6gw]; omega)
  have D : ∀ H k,z4tt H k (c.i.l.flatMap inC++inC (newI c gr d t))=some (c.i.l.flatMap inC++inC (newI c gr d t)):=fun H k=>z619 (zg0c (zp6k z9kv _) (z9kv _))
  simp (disch:=first|omega|simp<;>omega|fail) [-zE,a93,z7cg,zf0o,zwdn,zjeq,zixp,ztas,zogs hv,hz,zogs ht,g0,g1,m,l0,l1,zlm3,z48d,zcli,zmsj,zbcp,zd00,o,a,zdhs,q,x,y,z,A,C,D,r,u,B,v]
def mayR (a b s:Int):Bool:=decide (s=a)||decide (s=b)
open Classical in
noncomputable def chgR (c:Clu) (id t a b to:Int):Clu × Int :=
 if ¬ ValidC c∨¬ zcie t then (clu0,1)
 else if z092 c.i.l id<0 then (clu0,4)
 else if ((c.i.l[(z092 c.i.l id).toNat]?).map fun x=>mayR a b x.state)=some true then (⟨c.g.copy,own (setI c.i.l (z092 c.i.l id).toNat to t),c.next⟩,0)
 else (clu0,30)
noncomputable def zbyq (c:Clu) (id t a b to:Int):DV := .tup [.agg (clC (chgR c id t a b to).1),.int .i64 (chgR c id t a b to).2]
theorem zokf (c:Clu) (id t a b to:Int):Runs T170 a63 [.agg (clC c),.int .i64 id,.int .i64 t,.int .i64 a,.int .i64 b,.int .i64 to] (zbyq c id t a b to):=by
 refine ⟨?_⟩;by_cases hv:ValidC c
 case neg =>
  have m:chgR c id t a b to=(clu0,1):=by rw [chgR,if_pos (.inl hv)]
  simp (disch:=first|omega|simp<;>omega|fail) [-zE,a63,z7cg,zf0o,zwdn,zjeq,zixp,z9s5,z3mn,zbyq,zewf hv,m,z3cj]
 by_cases ht:zcie t
 case neg =>
  have m:chgR c id t a b to=(clu0,1):=by rw [chgR,if_pos (.inr ht)]
  simp (disch:=first|omega|simp<;>omega|fail) [-zE,a63,z7cg,zf0o,zwdn,zjeq,zixp,z9s5,z3mn,zbyq,zogs hv,zewf ht,m,z3cj]
 have u:¬ (¬ ValidC c∨¬ zcie t):=fun h=>h.elim (fun h=>h hv) (fun h=>h ht)
 by_cases hx:z092 c.i.l id<0
 ·have m:chgR c id t a b to=(clu0,4):=by rw [chgR,if_neg u,if_pos hx]
  simp (disch:=first|omega|simp<;>omega|fail) [-zE,a63,z7cg,zf0o,zwdn,zjeq,zixp,z9s5,z3mn,zbyq,zogs hv,zogs ht,hx,m,z3cj]
 obtain ⟨k,o,d,_,_⟩:=ziel (show 0≤z092 c.i.l id by omega)
 have d:z092 c.i.l id=k:=d;have v:¬ (k:Int)<0:=by omega
 have q:(k:Int)<c.i.l.length:=by omega
 obtain ⟨x,w⟩ : ∃ x,c.i.l[k]=x:=⟨_,rfl⟩;have p : ∀ H,zpsc H 37 (c.i.dv 37 inC) k=some (.ref (inC x)):=fun H=>by rw [zalo z6gw o,w]
 have j:c.i.l[k]? = some x:=by rw [y07 o,w]
 by_cases hm:mayR a b x.state=true
 case neg =>
  have r:mayR a b x.state=false:=by simpa using hm
  have m:chgR c id t a b to=(clu0,30):=by rw [chgR,if_neg u,if_neg hx,d]; simp [j,r]
  have y:¬ x.state=a:=fun e=>by simp [mayR,e] at r
  have z:¬ x.state=b:=fun e=>by simp [mayR,e] at r
  simp (disch:=first|omega|simp<;>omega|fail) [-zE,a63,z7cg,zf0o,zwdn,zjeq,zixp,z9s5,z3mn,zbyq,zogs hv,zogs ht,d,v,q,o,p,y,z,m,z3cj]
 have m:chgR c id t a b to=(⟨c.g.copy,own (c.i.l.set k ((x.st to).si t)),c.next⟩,0):=by
  rw [chgR,if_neg u,if_neg hx,d,if_pos (by simp [j,hm])]
  simp only [y0n,setI,j]
 have N:=zqrs (l:=c.i.l.set k ((x.st to).si t)) (s:=37) (f:=inC) (by rw [y0d]; exact c.i.b)
 have J : ∀ l:List Grp,(l.flatMap grC).length=l.length*6:=z1rq zry4;have K : ∀ l:List Ins,(l.flatMap inC).length=l.length*37:=z1rq z6gw;have A:=zc46 hv o;have L:c.i.l≠[]:=by intro e; rw [e] at o; simp at o
 have B:=z895 (f:=grC) A;have C:=fun id=>z6jk (id:=id) (s:=6) A
 have D:=zm8x (s:=6) (f:=grC) A;have E:=zq57 (l:=c.g.l) (n:=c.g.l.length) (y0j _);have G:=fun id=>z6jk (id:=id) (s:=37) L
 have I:=z895 (f:=inC) L;have O : ∀ H id,zy6o H id 1 (k*37+34) (.int .i64 to) (some (c.i.l.flatMap inC))=some (.junk,H.set id (.cells ((c.i.l.set k (x.st to)).flatMap inC))):=fun H id=>by rw [zajs o,w]
 have Q : ∀ H id,zy6o H id 1 (k*37+35) (.int .i64 t) (some ((c.i.l.set k (x.st to)).flatMap inC))=some (.junk,H.set id (.cells ((c.i.l.set k ((x.st to).si t)).flatMap inC))):=fun H id=>by
  rw [zjzz (by rw [y0d]; exact o),List.getElem_set_self,List.set_set]
 have F:=z5fn (l:=c.i.l.set k ((x.st to).si t)) (n:=c.i.l.length) (by rw [y0d]; exact y0j _)
 by_cases y:x.state=a
 ·simp (disch:=first|omega|simp<;>omega|fail) [-zE,a63,z7cg,zf0o,zwdn,zjeq,zixp,z9s5,z3mn,zbyq,zogs hv,zogs ht,d,v,q,o,p,y,zlm3,z48d,zcli,zmsj,B,C,D,E,F,G,I,J,K,zbcp,O,Q,m,zdhs,N]
 ·have z:x.state=b:=by simpa [mayR,y] using hm
  have R:¬ b=a:=fun e=>y (z.trans e)
  simp (disch:=first|omega|simp<;>omega|fail) [-zE,a63,z7cg,zf0o,zwdn,zjeq,zixp,z9s5,z3mn,zbyq,zogs hv,zogs ht,d,v,q,o,p,R,z,zlm3,z48d,zcli,zmsj,B,C,D,E,F,G,I,J,K,zbcp,O,Q,m,zdhs,N]
end
section
noncomputable def cChR:List DV→Option DV:=con (fun _=>True) (fun p:Clu × Int × Int × Int × Int × Int=>[.agg (clC p.1),.int .i64 p.2.1,.int .i64 p.2.2.1,.int .i64 p.2.2.2.1,.int .i64 p.2.2.2.2.1,.int .i64 p.2.2.2.2.2]) (fun p=>zbyq p.1 p.2.1 p.2.2.1 p.2.2.2.1 p.2.2.2.2.1 p.2.2.2.2.2)
theorem z776 {c:Clu} {id t a b to:Int}:cChR [.agg (clC c),.int .i64 id,.int .i64 t,.int .i64 a,.int .i64 b,.int .i64 to]=some (zbyq c id t a b to) :=
 zsn4 (f:=fun p:Clu × Int × Int × Int × Int × Int=>[.agg (clC p.1),.int .i64 p.2.1,.int .i64 p.2.2.1,.int .i64 p.2.2.2.1,.int .i64 p.2.2.2.2.1,.int .i64 p.2.2.2.2.2]) (by
  rintro ⟨a,b,c,d,e,f⟩ ⟨a',b',c',d',e',f'⟩ e;simp only [List.cons.injEq,DV.agg.injEq,DV.int.injEq,and_true,true_and] at e;obtain ⟨e1,e2,e3,e4,e5,e6⟩:=e;rw [zh7t e1,e2,e3,e4,e5,e6]) (c,id,t,a,b,to)
noncomputable def T415:Tbl:=addT 63 (.pure cChR) tbl0
theorem zkjo:T415 63 = .pure cChR:=by simp [T415]
theorem zy1s:T415.Sound P:=z0rp (z2au fun p _=>zljw mix zfgl Tryz.func63 z2tu (zokf p.1 p.2.1 p.2.2.1 p.2.2.2.1 p.2.2.2.2.1 p.2.2.2.2.2)) zr5o
theorem zbeg (c:Clu) (id t:Int):Runs T415 a33 [.agg (clC c),.int .i64 id,.int .i64 t] (zbyq c id t 1 2 3):=by
 refine ⟨?_⟩;simp (disch:=first|omega|simp<;>omega|fail) [-zE,a33,zkjo,z776,zbyq]
end
section
noncomputable def cDD:List DV→Option DV:=con (fun _=>True) (fun p:Sl Dg × Sl Dg=>[p.1.dv 32 dgC,p.2.dv 32 dgC]) (fun p => .bool (tv (p.1.l=p.2.l)))
theorem zwg4 {a b:Sl Dg}:cDD [a.dv 32 dgC,b.dv 32 dgC]=some (.bool (tv (a.l=b.l))) :=
 zsn4 (f:=fun p:Sl Dg × Sl Dg=>[p.1.dv 32 dgC,p.2.dv 32 dgC]) (by
  rintro ⟨a,b⟩ ⟨a',b'⟩ e;simp only [List.cons.injEq,and_true] at e;rw [zcq7 z1t1 (by decide) (fun _ _=>zib9) e.1,zcq7 z1t1 (by decide) (fun _ _=>zib9) e.2]) (a,b)
def S390 (a b:Sl Dg) (i:Nat):St:=zhq0 (a.dv 32 dgC) (b.dv 32 dgC) (.int .i64 i) []
theorem z4xh (a b:Sl Dg):Runs tbl0 a94 [a.dv 32 dgC,b.dv 32 dgC] (.bool (tv (a.l=b.l))):=by
 refine ⟨?_⟩;have n:=a.b;have o:=b.b;by_cases hl:a.l.length=b.l.length
 ·have c:(a.l.length:Int)=b.l.length:=by omega
  simp (disch:=first|omega|simp<;>omega|fail) [-zE,a94,hl,c];refine zlm5 (S390 a b) (fun i=>a.l.length-i) (fun i=>i≤a.l.length∧a.l.take i=b.l.take i) 0 (yWS (by simp [-zE,S390,zhq0])) ⟨by omega,by simp⟩ (fun i hi => ?_)
  obtain ⟨m,g⟩:=hi;simp (disch:=first|omega|simp<;>omega|fail) [-zE,z8ds,zhq0,S390];by_cases h:i<a.l.length
  ·have f:(i:Int)<a.l.length:=by omega
   have j:=fun H=>zalo (x:=a) (h:=H) z1t1 h
   have k:=fun H=>zalo (x:=b) (h:=H) z1t1 (i:=i) (by omega)
   by_cases e:a.l[i]=b.l[i]
   ·simp (disch:=first|omega|simp<;>omega|fail) [-zE,h,f,j,k,e];refine ⟨i+1,yWS (by simp [-zE,S390,zhq0]),by omega,by omega,?_⟩
    rw [y03 h,y03 (by omega),g,e]
   ·have d:tv (a.l=b.l)=false:=zewf fun q=>e (by simp only [q])
    simp (disch:=first|omega|simp<;>omega|fail) [-zE,h,f,j,k,e,d]
  ·have f:¬ (i:Int)<a.l.length:=by omega
   have d:tv (a.l=b.l)=true:=zogs (by
    rw [y00 (by omega),y00 (by omega)] at g
    exact g)
   simp (disch:=first|omega|simp<;>omega|fail) [-zE,h,f,d]
 ·have c:¬ (a.l.length:Int)=b.l.length:=by omega
  have d:tv (a.l=b.l)=false:=zewf fun q=>hl (by rw [q])
  simp (disch:=first|omega|simp<;>omega|fail) [-zE,a94,hl,c,d]
noncomputable def T420:Tbl:=addT 94 (.pure cDD) tbl0
theorem z9hm:T420 94 = .pure cDD:=by simp [T420]
theorem zx4a:T420.Sound P:=z0rp (z2au fun p _=>zljw mix zr5o Tryz.func94 ziuh (z4xh p.1 p.2)) zr5o
theorem zr9r (a b:Grp):Runs T420 a58 [.agg (grC a),.agg (grC b)] (.bool (tv (gl a=gl b))):=by
 refine ⟨?_⟩;by_cases h1:a.ns=b.ns
 case neg =>
  have c:tv (gl a=gl b)=false:=zewf fun q=>h1 (by simp only [gl,Prod.mk.injEq] at q; exact q.1)
  simp (disch:=first|omega|simp<;>omega|fail) [-zE,a58,h1,c]
 by_cases h2:a.im=b.im
 case neg =>
  have c:tv (gl a=gl b)=false:=zewf fun q=>h2 (by simp only [gl,Prod.mk.injEq] at q; exact q.2.1)
  simp (disch:=first|omega|simp<;>omega|fail) [-zE,a58,h1,h2,c]
 by_cases h3:a.want=b.want
 case neg =>
  have c:tv (gl a=gl b)=false:=zewf fun q=>h3 (by simp only [gl,Prod.mk.injEq] at q; exact q.2.2.1)
  simp (disch:=first|omega|simp<;>omega|fail) [-zE,a58,h1,h2,h3,c]
 by_cases h4:a.least=b.least
 case neg =>
  have c:tv (gl a=gl b)=false:=zewf fun q=>h4 (by simp only [gl,Prod.mk.injEq] at q; exact q.2.2.2.1)
  simp (disch:=first|omega|simp<;>omega|fail) [-zE,a58,h1,h2,h3,h4,c]
 by_cases h5:a.down=b.down
 case neg =>
  have c:tv (gl a=gl b)=false:=zewf fun q=>h5 (by simp only [gl,Prod.mk.injEq] at q; exact q.2.2.2.2.1)
  simp (disch:=first|omega|simp<;>omega|fail) [-zE,a58,h1,h2,h3,h4,h5,c]
 have c:tv (gl a=gl b)=tv (a.ch.l=b.ch.l):=z7kh (by simp only [gl,Prod.mk.injEq,h1,h2,h3,h4,h5,true_and])
 simp (disch:=first|omega|simp<;>omega|fail) [-zE,a58,h1,h2,h3,h4,h5,z9hm,zwg4,c]
noncomputable def cGG:List DV→Option DV:=con (fun _=>True) (fun p:Grp × Grp=>[.agg (grC p.1),.agg (grC p.2)]) (fun p => .bool (tv (gl p.1=gl p.2)))
theorem zetz {a b:Grp}:cGG [.agg (grC a),.agg (grC b)]=some (.bool (tv (gl a=gl b))) :=
 zsn4 (f:=fun p:Grp × Grp=>[.agg (grC p.1),.agg (grC p.2)]) (by
  rintro ⟨a,b⟩ ⟨a',b'⟩ e;simp only [List.cons.injEq,DV.agg.injEq,and_true] at e;rw [zs5w e.1,zs5w e.2]) (a,b)
noncomputable def T421:Tbl:=addT 58 (.pure cGG) tbl0
theorem ziw5:T421 58 = .pure cGG:=by simp [T421]
theorem zrka:T421.Sound P:=z0rp (z2au fun p _=>zljw mix zx4a Tryz.func58 zt5h (zr9r p.1 p.2)) zr5o
def S391 (a b:Clu) (i:Nat):St:=zpkh (.mp 0 3 0) (.mp 1 3 0) (.int .i64 i) [.cells (clC a),.cells (clC b)]
def S392 (a b:Clu) (i:Nat):St:=zni1 (.mp 0 3 0) (.mp 1 3 0) (.int .i64 i) [.cells (clC a),.cells (clC b)]
noncomputable def ziu6 (a b:Clu):Bool:=tv (SameC a b)
theorem z83k (a b:Clu):Runs T421 a27 [.agg (clC a),.agg (clC b)] (.bool (ziu6 a b)):=by
 refine ⟨?_⟩;have v:=a.g.b;have w:=a.i.b;have y:=b.g.b;have A:=b.i.b;by_cases g1:a.g.l.length=b.g.l.length
 case neg =>
  have c:¬ (a.g.l.length:Int)=b.g.l.length:=by omega
  have d:ziu6 a b=false:=zewf fun q=>g1 (by simpa using congrArg List.length q.g)
  simp (disch:=first|omega|simp<;>omega|fail) [-zA,-zB,-zC,-zD,-zE,a27,g1,c,d]
 have c:(a.g.l.length:Int)=b.g.l.length:=by omega
 by_cases g2:a.i.l.length=b.i.l.length
 case neg =>
  have f:¬ (a.i.l.length:Int)=b.i.l.length:=by omega
  have d:ziu6 a b=false:=zewf fun q=>g2 (by simpa using congrArg List.length q.i)
  simp (disch:=first|omega|simp<;>omega|fail) [-zA,-zB,-zC,-zD,-zE,a27,g1,c,g2,f,d]
 have f:(a.i.l.length:Int)=b.i.l.length:=by omega
 by_cases g3:a.next=b.next
 case neg =>
  have d:ziu6 a b=false:=zewf fun q=>g3 q.n
  simp (disch:=first|omega|simp<;>omega|fail) [-zA,-zB,-zC,-zD,-zE,a27,g1,c,g2,f,g3,d]
 simp (disch:=first|omega|simp<;>omega|fail) [-zA,-zB,-zC,-zD,-zE,a27,g1,c,g2,f,g3];refine zlm5 (S391 a b) (fun i=>a.g.l.length-i) (fun i=>i≤a.g.l.length∧(a.g.l.take i).map gl=(b.g.l.take i).map gl) 0 (yWS (by simp [-zA,-zB,-zC,-zD,-zE,S391,zpkh])) ⟨by omega,by simp⟩ (fun i hi => ?_)
 obtain ⟨C,r⟩:=hi;simp (disch:=first|omega|simp<;>omega|fail) [-zA,-zB,-zC,-zD,-zE,zcoh,zpkh,S391];by_cases h:i<a.g.l.length
 ·have o:(i:Int)<a.g.l.length:=by omega
  have k:=fun H=>zalo (x:=a.g) (h:=H) zry4 h
  have m:=fun H=>zalo (x:=b.g) (h:=H) zry4 (i:=i) (by omega)
  by_cases e:gl a.g.l[i]=gl b.g.l[i]
  ·simp (disch:=first|omega|simp<;>omega|fail) [-zA,-zB,-zC,-zD,-zE,h,o,k,m,ziw5,zetz,zogs e];refine ⟨i+1,yWS (by simp [-zA,-zB,-zC,-zD,-zE,S391,zpkh]),by omega,by omega,?_⟩
   rw [y03 h,y03 (by omega),y04,y04,r,y0p,y0p,e]
  ·have d:ziu6 a b=false:=zewf fun q=>e (by
    have B:=q.g;have u:(a.g.l.map gl)[i]? = (b.g.l.map gl)[i]? := by rw [B]
    rw [List.getElem?_map,List.getElem?_map,y07 h,y07 (by omega)] at u
    simpa using u)
   simp (disch:=first|omega|simp<;>omega|fail) [-zA,-zB,-zC,-zD,-zE,h,o,k,m,ziw5,zetz,zewf e,d]
 ·have o:¬ (i:Int)<a.g.l.length:=by omega
  have t:a.g.l.map gl=b.g.l.map gl:=by
   rw [y00 (by omega),y00 (by omega)] at r
   exact r
  simp (disch:=first|omega|simp<;>omega|fail) [-zA,-zB,-zC,-zD,-zE,h,o];refine zlm5 (S392 a b) (fun i=>a.i.l.length-i) (fun i=>i≤a.i.l.length∧a.i.l.take i=b.i.l.take i) 0 (yWS (by simp [-zA,-zB,-zC,-zD,-zE,S392,zni1])) ⟨by omega,by simp⟩ (fun j hj => ?_)
  obtain ⟨D,s⟩:=hj;simp (disch:=first|omega|simp<;>omega|fail) [-zA,-zB,-zC,-zD,-zE,z2dl,zni1,S392];by_cases q:j<a.i.l.length
  ·have p:(j:Int)<a.i.l.length:=by omega
   have k:=fun H=>zalo (x:=a.i) (h:=H) z6gw q
   have m:=fun H=>zalo (x:=b.i) (h:=H) z6gw (i:=j) (by omega)
   by_cases e:a.i.l[j]=b.i.l[j]
   ·simp (disch:=first|omega|simp<;>omega|fail) [-zA,-zB,-zC,-zD,-zE,q,p,k,m,e];refine ⟨j+1,yWS (by simp [-zA,-zB,-zC,-zD,-zE,S392,zni1]),by omega,by omega,?_⟩
    rw [y03 q,y03 (by omega),s,e]
   ·have d:ziu6 a b=false:=zewf fun z=>e (by have:=z.i; simp only [this])
    simp (disch:=first|omega|simp<;>omega|fail) [-zA,-zB,-zC,-zD,-zE,q,p,k,m,e,d]
  ·have p:¬ (j:Int)<a.i.l.length:=by omega
   have d:ziu6 a b=true:=zogs ⟨t,by
    rw [y00 (by omega),y00 (by omega)] at s
    exact s,g3⟩
   simp (disch:=first|omega|simp<;>omega|fail) [-zA,-zB,-zC,-zD,-zE,q,p,d]
noncomputable def cCC:List DV→Option DV:=con (fun _=>True) (fun p:Clu × Clu=>[.agg (clC p.1),.agg (clC p.2)]) (fun p => .bool (ziu6 p.1 p.2))
theorem zkj3 {a b:Clu}:cCC [.agg (clC a),.agg (clC b)]=some (.bool (ziu6 a b)) :=
 zsn4 (f:=fun p:Clu × Clu=>[.agg (clC p.1),.agg (clC p.2)]) (by
  rintro ⟨a,b⟩ ⟨a',b'⟩ e;simp only [List.cons.injEq,DV.agg.injEq,and_true] at e;rw [zh7t e.1,zh7t e.2]) (a,b)
theorem zgg0:(Con.pure cCC).Sound P 27:=z2au fun p _=>zljw mix zrka Tryz.func27 z3hx (z83k p.1 p.2)
end
section
noncomputable def cSta (f:Clu→Int→Dg→Int→DV):List DV→Option DV:=con (fun _=>True) (fun p:Clu × Int × Dg × Int=>[.agg (clC p.1),.int .i64 p.2.1,.agg (dgC p.2.2.1),.int .i64 p.2.2.2]) (fun p=>f p.1 p.2.1 p.2.2.1 p.2.2.2)
theorem zx1h {f:Clu→Int→Dg→Int→DV} {c:Clu} {g t:Int} {d:Dg}:cSta f [.agg (clC c),.int .i64 g,.agg (dgC d),.int .i64 t]=some (f c g d t) :=
 zsn4 (f:=fun p:Clu × Int × Dg × Int=>[.agg (clC p.1),.int .i64 p.2.1,.agg (dgC p.2.2.1),.int .i64 p.2.2.2]) (by
  rintro ⟨a,b,c,d⟩ ⟨a',b',c',d'⟩ e;simp only [List.cons.injEq,DV.agg.injEq,DV.int.injEq,and_true,true_and] at e;rw [zh7t e.1,e.2.1,zib9 e.2.2.1,e.2.2.2]) (c,g,d,t)
noncomputable def cCii (f:Clu→Int→Int→DV):List DV→Option DV:=con (fun _=>True) (fun p:Clu × Int × Int=>[.agg (clC p.1),.int .i64 p.2.1,.int .i64 p.2.2]) (fun p=>f p.1 p.2.1 p.2.2)
theorem zl2e {f:Clu→Int→Int→DV} {c:Clu} {g t:Int}:cCii f [.agg (clC c),.int .i64 g,.int .i64 t]=some (f c g t) :=
 zsn4 (f:=fun p:Clu × Int × Int=>[.agg (clC p.1),.int .i64 p.2.1,.int .i64 p.2.2]) (by
  rintro ⟨a,b,d⟩ ⟨a',b',d'⟩ e;simp only [List.cons.injEq,DV.agg.injEq,DV.int.injEq,and_true,true_and] at e;rw [zh7t e.1,e.2.1,e.2.2]) (c,g,t)
def d1:Dg:=⟨1#8::rep 31 0#8,by simp⟩
structure OneG (c:Clu) (x:Grp):Prop where
 g:c.g.l=[x]
 v:ValidG x
 a:x.ns=[97]
 b:x.im=[98]
end
section
theorem b1:zvnk (dgC dg0) [(0,1,w8 1#8)]=some (.agg (dgC d1)):=rfl
theorem b2:bslD 32 1 (dgC dg0) [(0,32,.agg (dgC d1))]=some (.sl true 32 1 (dgC d1)):=rfl
end
section
theorem zca2:(Con.pure (cSta ztas)).Sound P 93:=z2au fun p _=>zljw mix zfgl Tryz.func93 zv7d (zfe7 p.1 p.2.1 p.2.2.1 p.2.2.2)
theorem z5nl:(Con.pure (cCii fun c i t=>zbyq c i t 1 2 3)).Sound P 33:=z2au fun p _=>zljw mix zy1s Tryz.func33 zojn (zbeg p.1 p.2.1 p.2.2)
end
end Go.Proofs.YtaihpefemjlilaaGreatDoor

