import Derived.Test.YtaihpefemjlilaaGreatDoorC4bb2b95d
import Derived.Test.YtaihpefemjlilaaGreatDoorC1b265590
import Derived.Test.YtaihpefemjlilaaGreatDoorC2ceefa77
import Derived.Test.YtaihpefemjlilaaGreatDoorC3c839cb1
import Derived.Test.YtaihpefemjlilaaGreatDoorCd734b161
import Derived.Test.YtaihpefemjlilaaGreatDoorCb3c5e46e
import Derived.Test.YtaihpefemjlilaaGreatDoorC2e7c3fe1
import Derived.Test.YtaihpefemjlilaaGreatDoorC1321c039
set_option linter.unusedSimpArgs false
set_option linter.unusedVariables false
set_option maxRecDepth 20000
set_option maxHeartbeats 4000000
open List renaming map_take → zA, map_drop → zB, map_set → zC, map_append → zD, drop_one → zE
open Bool renaming and_self → y07, and_eq_true → y0h, true_and → y0v
open Int renaming toNat_natCast → y0g
open List renaming getElem?_eq_getElem → y00, take_of_length_le → y01, filter_cons → y04, length_take → y05, getElem_mem → y06, getElem?_eq_none → y08, drop_zero → y09, getElem_of_mem → y0a, getD_eq_getElem?_getD → y0b, length_cons → y0c, length_append → y0d, map_cons → y0e, pairwise_iff_getElem → y0f, pairwise_append → y0i, length_reverse → y0j, filter_eq_self → y0k, getElem_of_eq → y0l, pairwise_singleton → y0n, foldl_cons → y0o, mem_append → y0p, mem_filter → y0q, getElem_cons_zero → y0r, drop_drop → y0s, take_eq_take_iff → y0t, singleton_append → y0u, filter_sublist → y0w
open Nat renaming le_refl → y02, zero_le → y03
open Option renaming bind_some → y0m
namespace Go.Proofs.YtaihpefemjlilaaGreatDoor
open Go Go.Am
theorem yVW8 {n0:Nat} {x:ACode} {Φ:AExit→St→Prop} {st:St} (h:W tbl0 n0 x Φ st):V P n0 x Φ st:=V_W mix zr5o h
theorem yVS8 {n0:Nat} {x y:ACode} {Φ:AExit→St→Prop} {st:St} (h:W tbl0 n0 x (z2pk P n0 y Φ) st):V P n0 (.seq x y) Φ st:=zbn1 (V_W mix zr5o h)
section
noncomputable def c1S (g:DV):List DV→Option DV:=con (fun _=>True) (fun a:Str=>[.str a]) (fun _=>g)
theorem zpcb {g:DV} {a:Str}:c1S g [.str a]=some g:=zsn4 (f:=fun a:Str=>[.str a]) (g:=fun _=>g) (fun a b e=>by simpa using e) a
theorem zy87 {a b:List UInt8}:zhl4 .lss (.str a) (.str b)=some (.bool (Op.bytesLess a b)):=rfl
attribute [simp] zy87
theorem zygs (a:Str):Runs tbl0 a138 [.str a] (.bool false):=by
 refine ⟨?_⟩;simp (disch:=first|omega|simp<;>omega|fail) [-zE,a138]
noncomputable def zbzm:Tbl:=addT 138 (.pure (c1S (.bool false))) tbl0
theorem zxfj:zbzm 138 = .pure (c1S (.bool false)):=by simp [zbzm]
theorem z0zn:zbzm.Sound P:=z0rp (z2au fun a _=>zljw mix zr5o Tryz.func138 zno0 (zygs a)) zr5o
def zavf (a b:Str):Int:=if Op.bytesLess a b then -1 else if Op.bytesLess b a then 1 else 0
theorem zrmv {a b:Str}:zhl4 .gtr (.str a) (.str b)=some (.bool (Op.bytesLess b a)):=by
 have e:zhl4 .gtr (.str a) (.str b)=some (.bool (!(Op.bytesLess a b||a == b))):=by simp [zhl4,zdnj]
 rw [e];congr 2;rcases zoet a b with h|h|h
 ·have c:Op.bytesLess b a=false:=by
   cases q:Op.bytesLess b a with
   | false=>rfl
   | true=>have:=z8c3 _ _ _ h q; rw [zrk4] at this; cases this
  rw [h,c]; rfl
 ·subst h; simp [zrk4]
 ·have c:Op.bytesLess a b=false:=by
   cases q:Op.bytesLess a b with
   | false=>rfl
   | true=>have:=z8c3 _ _ _ h q; rw [zrk4] at this; cases this
  have d:¬ a=b:=fun e=>by rw [e,zrk4] at h; cases h
  rw [h,c]; simp [d]
attribute [simp] zrmv
theorem za9u (a b:Str):Runs zbzm a128 [.str a,.str b] (.int .i64 (zavf a b)):=by
 refine ⟨?_⟩;unfold zavf;cases h1:Op.bytesLess a b with
 | true=>simp (disch:=first|omega|simp<;>omega|fail) [-zE,a128,zxfj,zpcb,h1]
 | false =>
  cases h2:Op.bytesLess b a with
  | true=>simp (disch:=first|omega|simp<;>omega|fail) [-zE,a128,zxfj,zpcb,h1,h2]
  | false=>simp (disch:=first|omega|simp<;>omega|fail) [-zE,a128,zxfj,zpcb,h1,h2]
noncomputable def cCs:List DV→Option DV
 | [.str a,.str b]=>some (.int .i64 (zavf a b))|_=>none
theorem zc1k {a b:Str}:cCs [.str a,.str b]=some (.int .i64 (zavf a b)):=rfl
theorem zqxd:(Con.pure cCs).Sound P 128:=by
 intro args v e;unfold cCs at e;split at e
 ·simp at e; subst e; exact zljw mix z0zn Tryz.func128 zv7v (za9u _ _)
 ·simp at e
def or3I (a b c:Int):Int:=if a=0 then (if b=0 then c else b) else a
def zx14 (a b c:Int) (i:Nat):St:=ziom (.int .i64 0) (.sl true 1 3 [.int .i64 a,.int .i64 b,.int .i64 c]) (.int .i64 3) (.int .i64 i) []
theorem z9c5 (a b c:Int):Runs tbl0 a70 [.sl true 1 3 [.int .i64 a,.int .i64 b,.int .i64 c]] (.int .i64 (or3I a b c)):=by
 refine ⟨?_⟩;unfold or3I;simp (disch:=first|omega|simp<;>omega|fail) [-zE,a70];refine zlm5 (zx14 a b c) (fun i=>3-i) (fun i=>i≤3∧(1≤i→a=0)∧(2≤i→b=0)∧(3≤i→c=0)) 0 (yWS (by simp [-zE,zx14,ziom])) (by omega) (fun i hi => ?_)
 obtain ⟨k,g,h,j⟩:=hi;simp only [zx14];by_cases i0:i=0
 ·subst i0;by_cases d:a=0
  ·simp (disch:=first|omega|simp<;>omega|fail) [-zE,z3a0,ziom,d];exact ⟨1,yWS (by simp [-zE,zx14,ziom]),by omega,by omega⟩
  ·simp (disch:=first|omega|simp<;>omega|fail) [-zE,z3a0,ziom,d]
 by_cases i1:i=1
 ·subst i1;have d:=g (by omega)
  by_cases e:b=0
  ·simp (disch:=first|omega|simp<;>omega|fail) [-zE,z3a0,ziom,d,e];exact ⟨2,yWS (by simp [-zE,zx14,ziom]),by omega,by omega⟩
  ·simp (disch:=first|omega|simp<;>omega|fail) [-zE,z3a0,ziom,d,e]
 by_cases i2:i=2
 ·subst i2;have d:=g (by omega)
  have e:=h (by omega)
  by_cases f:c=0
  ·simp (disch:=first|omega|simp<;>omega|fail) [-zE,z3a0,ziom,d,e,f];exact ⟨3,yWS (by simp [-zE,zx14,ziom]),by omega,by omega⟩
  ·simp (disch:=first|omega|simp<;>omega|fail) [-zE,z3a0,ziom,d,e,f]
 obtain rfl:i=3:=by omega
 have d:=g (by omega)
 have e:=h (by omega)
 have f:=j (by omega)
 simp (disch:=first|omega|simp<;>omega|fail) [-zE,z3a0,ziom,d,e,f]
noncomputable def cO3:List DV→Option DV
 | [.sl true 1 3 [.int .i64 a,.int .i64 b,.int .i64 c]]=>some (.int .i64 (or3I a b c))|_=>none
theorem zhrf {a b c:Int}:cO3 [.sl true 1 3 [.int .i64 a,.int .i64 b,.int .i64 c]]=some (.int .i64 (or3I a b c)):=rfl
theorem zj06:(Con.pure cO3).Sound P 70:=by
 intro args v e;unfold cO3 at e;split at e
 ·simp at e; subst e; exact zljw mix zr5o Tryz.func70 zhcw (z9c5 _ _ _)
 ·simp at e
theorem z5ha {a b:Str}:zavf a b<0↔Op.bytesLess a b=true:=by
 unfold zavf; split
 ·rename_i h; simp [h]
 ·rename_i h; simp [h]; split<;>decide
theorem zmen {a b:Str}:zavf a b=0↔a=b:=by
 unfold zavf;rcases zoet a b with h|h|h
 ·simp only [h,if_true]; constructor
  ·intro q; omega
  ·intro q; rw [q,zrk4] at h; cases h
 ·subst h; simp [zrk4]
 ·have c:Op.bytesLess a b=false:=by
   cases q:Op.bytesLess a b with
   | false=>rfl
   | true=>have:=z8c3 _ _ _ h q; rw [zrk4] at this; cases this
  simp only [h,c,if_true];constructor
  ·intro q; simp at q
  ·intro q; rw [q,zrk4] at h; cases h
structure Ixe where
 ns:Str
 im:Str
 art:Dg
 ok:Bool
def ixZ:List DV:=dgC dg0++(.int .i64 0::(dgC dg0++[.str [],.str [],.nils,.nils,.int .i64 0]))
def ixC (x:Ixe):List DV := .str x.ns :: .str x.im::(dgC x.art++(.bool x.ok::ixZ))
theorem zuvx:ixZ.length=70:=by simp [ixZ,z1t1]
theorem zwe8 (x:Ixe):(ixC x).length=105:=by simp [ixC,z1t1,zuvx]
theorem zuwa:zbao ixZ=true:=by
 unfold ixZ;refine zg0c (z3ot _) ?_;simp only [zbao,zyp8,y0v];exact zg0c (z3ot _) rfl
theorem z0ob (x:Ixe):zbao (ixC x)=true:=by
 simp only [ixC,zbao,zyp8,y0v];exact zg0c (z3ot _) (by simp only [zbao,zyp8,zuwa,y07])
theorem zect : ∀ x:Ixe,oneC 105 true (ixC x)=some (.agg (ixC x)):=fun x=>by simp [oneC,zwe8,y01]
structure Rqs where
 ns:Str
 im:Str
 art:Dg
def rqC (x:Rqs):List DV := .str x.ns :: .str x.im::dgC x.art
theorem zzeg (x:Rqs):(rqC x).length=34:=by simp [rqC,z1t1]
theorem zhqv (x:Rqs):zbao (rqC x)=true:=by simp only [rqC,zbao,zyp8,z3ot,y07]
theorem zed4 : ∀ x:Rqs,oneC 34 true (rqC x)=some (.agg (rqC x)):=fun x=>by simp [oneC,zzeg,y01]
theorem z8s0 {x:Rqs}:oneC 1 false (rqC x)=some (.str x.ns):=rfl
theorem zonr {x:Rqs}:oneC 1 false ((rqC x).drop 1)=some (.str x.im):=rfl
theorem z7xw (x:Rqs):((rqC x).drop 2).take 32=dgC x.art:=y01 (by simp [rqC,z1t1])
theorem z82b {a b:Rqs} (e:rqC a=rqC b):a=b:=by
 obtain ⟨c,d,f⟩:=a;obtain ⟨b1,b2,g⟩:=b;simp only [rqC,List.cons.injEq,DV.str.injEq] at e;rw [e.1,e.2.1,zib9 e.2.2]
def ixR (x:Ixe):Rqs:=⟨x.ns,x.im,x.art⟩
theorem zdyd (x:Ixe):oneC 34 true (ixC x)=some (.agg (rqC (ixR x))):=by
 have h:(ixC x).take 34=rqC (ixR x):=by
  have:ixC x=rqC (ixR x)++(.bool x.ok::ixZ):=by simp [ixC,rqC,ixR]
  rw [this,List.take_left' (zzeg _)]
 simp only [oneC,if_true];rw [if_pos (by rw [zwe8]; decide),h]
theorem z9gm (x:Ixe):oneC 1 false ((ixC x).drop 34)=some (.bool x.ok):=by
 have:ixC x=rqC (ixR x)++(.bool x.ok::ixZ):=by simp [ixC,rqC,ixR]
 rw [this,List.drop_left' (zzeg _)]; rfl
theorem zv4z {a b:Ixe} (e:ixC a=ixC b):a=b:=by
 obtain ⟨g,i,j,a4⟩:=a;obtain ⟨b1,b2,k,l⟩:=b;simp only [ixC,List.cons.injEq,DV.str.injEq] at e;obtain ⟨c,d,f⟩:=e;have h:=List.append_inj f (by rw [z1t1,z1t1])
 simp only [List.cons.injEq,DV.bool.injEq,and_true] at h;rw [c,d,zib9 h.1,h.2]
def cmpR (r:Rqs) (x:Ixe):Int:=or3I (zavf x.ns r.ns) (zavf x.im r.im) (zsy0 x.art r.art)
noncomputable def zj1w:Tbl:=addT 128 (.pure cCs) (addT 72 (.pure cBc) (addT 70 (.pure cO3) tbl0))
theorem zpvn:zj1w 128 = .pure cCs:=by simp [zj1w]
theorem zoub:zj1w 72 = .pure cBc:=by simp [zj1w]
theorem zxdb:zj1w 70 = .pure cO3:=by simp [zj1w]
theorem zf4w:zj1w.Sound P:=z0rp zqxd (z0rp zroj (z0rp zj06 zr5o))
theorem zn9h (a b:Rqs):Runs zj1w a106 [.agg (rqC a),.agg (rqC b)] (.int .i64 (or3I (zavf a.ns b.ns) (zavf a.im b.im) (zsy0 a.art b.art))):=by
 refine ⟨?_⟩;have c : ∀ h (x:Rqs),boxD h (.agg (rqC x))=some (.mp h.length 34 0,h++[.cells (rqC x)]):=fun h x=>by rw [zn72,zzeg]
 simp (disch:=first|omega|simp<;>omega|fail) [-zE,a106,c,z8s0,zonr,zpvn,zc1k,zoub,z7xw,zzeg,z3ot,z1f4,zxdb,zhrf]
noncomputable def cCmr:List DV→Option DV:=con (fun _=>True) (fun a:Rqs × Rqs=>[.agg (rqC a.1),.agg (rqC a.2)]) (fun a => .int .i64 (or3I (zavf a.1.ns a.2.ns) (zavf a.1.im a.2.im) (zsy0 a.1.art a.2.art)))
theorem z3ee {a b:Rqs}:cCmr [.agg (rqC a),.agg (rqC b)]=some (.int .i64 (or3I (zavf a.ns b.ns) (zavf a.im b.im) (zsy0 a.art b.art))) :=
 zsn4 (f:=fun a:Rqs × Rqs=>[.agg (rqC a.1),.agg (rqC a.2)]) (g:=fun a => .int .i64 (or3I (zavf a.1.ns a.2.ns) (zavf a.1.im a.2.im) (zsy0 a.1.art a.2.art))) (by
  rintro ⟨a,b⟩ ⟨c,d⟩ e;simp only [List.cons.injEq,DV.agg.injEq,and_true] at e;rw [z82b e.1,z82b e.2]) (a,b)
noncomputable def zwbp:Tbl:=addT 106 (.pure cCmr) tbl0
theorem zfez:zwbp 106 = .pure cCmr:=by simp [zwbp]
theorem zbdf:zwbp.Sound P:=z0rp (z2au fun a _=>zljw mix zf4w Tryz.func106 zex6 (zn9h a.1 a.2)) zr5o
theorem zpsk (a:Ixe) (b:Rqs):Runs zwbp a105 [.agg (ixC a),.agg (rqC b)] (.int .i64 (cmpR b a)):=by
 refine ⟨?_⟩;have e : ∀ h (x:Rqs),boxD h (.agg (rqC x))=some (.mp h.length 34 0,h++[.cells (rqC x)]):=fun h x=>by rw [zn72,zzeg]
 have f : ∀ h (x:Ixe),boxD h (.agg (ixC x))=some (.mp h.length 105 0,h++[.cells (ixC x)]):=fun h x=>by rw [zn72,zwe8]
 have d:=z3ee (a:=ixR a) (b:=b);have c:cmpR b a=or3I (zavf (ixR a).ns b.ns) (zavf (ixR a).im b.im) (zsy0 (ixR a).art b.art):=rfl;rw [← c] at d;simp (disch:=first|omega|simp<;>omega|fail) [-zE,a105,e,f,zwe8,zzeg,zdyd,zed4,zhqv,zfez,d]
noncomputable def cS1x:List DV→Option DV:=con (fun _=>True) (fun a:Ixe × Rqs=>[.agg (ixC a.1),.agg (rqC a.2)]) (fun a => .int .i64 (cmpR a.2 a.1))
theorem zgdf {a:Ixe} {b:Rqs}:cS1x [.agg (ixC a),.agg (rqC b)]=some (.int .i64 (cmpR b a)) :=
 zsn4 (f:=fun a:Ixe × Rqs=>[.agg (ixC a.1),.agg (rqC a.2)]) (g:=fun a => .int .i64 (cmpR a.2 a.1)) (by
  rintro ⟨a,b⟩ ⟨c,d⟩ e;simp only [List.cons.injEq,DV.agg.injEq,and_true] at e;rw [zv4z e.1,z82b e.2]) (a,b)
noncomputable def zpox:Tbl:=addT 105 (.pure cS1x) tbl0
theorem z6si:zpox 105 = .pure cS1x:=by simp [zpox]
theorem z8v4:zpox.Sound P:=z0rp (z2au fun a _=>zljw mix zbdf Tryz.func105 z9rf (zpsk a.1 a.2)) zr5o
structure IK where
 i:Nat
 j:Nat
def xfn:DV := .fn (.func 105) [] []
def zir5 (x:Sl Ixe) (t:Rqs) (a:IK):St:=zq0a (x.dv 105 ixC) xfn (.mp 0 34 0) (.int .i64 x.l.length) (.int .i64 a.i) (.int .i64 a.j) [.cells (rqC t)]
theorem zvdj (x:Sl Ixe):zyp8 (x.dv 105 ixC)=true:=zxxb z0ob x
theorem z78s (x:Sl Ixe) (t:Rqs) (hm:Mono (cmpR t) x.l):Runs zpox a104 [x.dv 105 ixC,.agg (rqC t),xfn] (.tup [.int .i64 (kOf (cmpR t) x.l),.bool (fOf (cmpR t) x.l)]):=by
 refine ⟨?_⟩;have O:=x.b;have E : ∀ h (x:Rqs),boxD h (.agg (rqC x))=some (.mp h.length 34 0,h++[.cells (rqC x)]):=fun h x=>by rw [zn72,zzeg]
 have I : ∀ H,lenD H (x.dv 105 ixC)=some (.int .i64 x.l.length):=fun H=>zupj
 simp (disch:=first|omega|simp<;>omega|fail) [-zE,a104,E,I,xfn];refine zlm5 (zir5 x t) (fun a=>a.j-a.i) (fun a=>a.i≤a.j∧a.j≤x.l.length∧(∀ m (h:m<x.l.length),m<a.i→cmpR t x.l[m]<0) ∧ ∀ m (h:m<x.l.length),a.j≤m→0≤cmpR t x.l[m]) ⟨0,x.l.length⟩ (yWS (by simp [-zE,zir5,zq0a,xfn])) ⟨y03 _,y02 _,fun m _ h=>by simp at h,fun m K w=>by have w:x.l.length≤m:=w; omega⟩ (fun a ha => ?_)
 obtain ⟨i,j⟩:=a;obtain ⟨K,w,C,D⟩:=ha;simp only at K w C D;simp only [zir5];by_cases g:i<j
 ·have s:(i:Int)<j:=by omega
  have G:=z3um i j;obtain ⟨k,y⟩ : ∃ k,(i+j) / 2=k:=⟨_,rfl⟩;rw [y] at G;have o:k<x.l.length:=by omega
  have r : ∀ H,zpsc H 105 (x.dv 105 ixC) k=some (.ref (ixC x.l[k])):=fun H=>zalo zwe8 o
  have n:=zgdf (a:=x.l[k]) (b:=t);have f:cmpR t x.l[k]<0 → ∀ m (h:m<x.l.length),m<k+1→cmpR t x.l[m]<0:=fun e m hml hmk=>by
   by_cases q:m=k
   ·subst q; exact e
   ·exact hm m k hml o (by omega) e
  have d:¬ cmpR t x.l[k]<0 → ∀ m (h:m<x.l.length),k≤m→0≤cmpR t x.l[m]:=fun e m hml hkm=>by
   by_cases p:m=k
   ·subst p; omega
   ·by_cases q:cmpR t x.l[m]<0
    ·exact absurd (hm k m o hml (by omega) q) e
    ·omega
  obtain ⟨u,J⟩ : ∃ u,x.l[k]=u:=⟨_,rfl⟩;rw [J] at r n f d;obtain ⟨v,A⟩ : ∃ v,cmpR t u=v:=⟨_,rfl⟩;rw [A] at n f d;have L:=zed4 t;by_cases q:v<0
  ·have f:=f q;simp (disch:=first|omega|simp<;>omega|fail) [-zE,z7sf,zq0a,xfn,g,s,G,r,zect,zed4,zzeg,z0ob,zhqv,z6si,n,q];exact ⟨⟨k+1,j⟩,yWS (by simp [-zE,zir5,zq0a,xfn]),by simp only; omega,by simp only; omega,by simp only; omega,f,fun m hml hjm=>D m hml hjm⟩
  ·have d:=d q;have N:0≤v:=by omega
   simp (disch:=first|omega|simp<;>omega|fail) [-zE,z7sf,zq0a,xfn,g,s,G,r,zect,zed4,zzeg,z0ob,zhqv,z6si,n,q,N];exact ⟨⟨i,k⟩,yWS (by simp [-zE,zir5,zq0a,xfn]),by simp only; omega,by simp only; omega,by simp only; omega,fun m hml hmi=>C m hml hmi,d⟩
 ·have s:¬ (i:Int)<j:=by omega
  obtain rfl:i=j:=by omega
  have y:=zgek (c:=cmpR t) w C (fun h=>by have:=D i h (y02 _); omega)
  have z:=zjjt y;have F:=zj9m y;rw [y];by_cases e:i<x.l.length
  ·have B:(i:Int)<x.l.length:=by omega
   have z:=z e;have r : ∀ H,zpsc H 105 (x.dv 105 ixC) i=some (.ref (ixC x.l[i])):=fun H=>zalo zwe8 e
   have n:=zgdf (a:=x.l[i]) (b:=t);obtain ⟨u,J⟩ : ∃ u,x.l[i]=u:=⟨_,rfl⟩;rw [J] at r n z;rw [z];obtain ⟨v,A⟩ : ∃ v,cmpR t u=v:=⟨_,rfl⟩;rw [A] at n;rw [A];simp (disch:=first|omega|simp<;>omega|fail) [-zE,z7sf,zq0a,xfn,g,s,e,B,r,zect,zed4,zzeg,z0ob,zhqv,z6si,n]
  ·have B:¬ (i:Int)<x.l.length:=by omega
   rw [F e];simp (disch:=first|omega|simp<;>omega|fail) [-zE,z7sf,zq0a,xfn,g,s,e,B]
end
section
theorem zvgf (h:List AObj) (id:Nat) (d e:Dg):zy6o h id 32 0 (.agg (dgC d)) (some (dgC e))=some (.junk,h.set id (.cells (dgC d))):=zfc1 (z1t1 _) (z1t1 _) (by simp [dgC,zzst])
noncomputable def cBst:List DV→Option DV:=con (fun a:Sl Tri × Tri=>Mono (cmpT a.2.grp a.2.art) a.1.l) (fun a=>[a.1.dv 35 trC,.agg (trC a.2),sfn]) (fun a => .tup [.int .i64 (kOf (cmpT a.2.grp a.2.art) a.1.l),.bool (fOf (cmpT a.2.grp a.2.art) a.1.l)])
theorem z47i {x y:Sl Tri} (e:x.dv 35 trC=y.dv 35 trC):x=y:=zcq7 zezj (by decide) (fun _ _=>z56z) e
theorem zrpw {x y:Sl Ixe} (e:x.dv 105 ixC=y.dv 105 ixC):x=y:=zcq7 zwe8 (by decide) (fun _ _=>zv4z) e
theorem za1r {x:Sl Tri} {t:Tri} (h:Mono (cmpT t.grp t.art) x.l):cBst [x.dv 35 trC,.agg (trC t),sfn]=some (.tup [.int .i64 (kOf (cmpT t.grp t.art) x.l),.bool (fOf (cmpT t.grp t.art) x.l)]) :=
 zzno (A:=fun a:Sl Tri × Tri=>Mono (cmpT a.2.grp a.2.art) a.1.l) (f:=fun a=>[a.1.dv 35 trC,.agg (trC a.2),sfn]) (g:=fun a => .tup [.int .i64 (kOf (cmpT a.2.grp a.2.art) a.1.l),.bool (fOf (cmpT a.2.grp a.2.art) a.1.l)]) (by
  rintro ⟨a,b⟩ ⟨c,d⟩ e;simp only [List.cons.injEq,DV.agg.injEq,and_true] at e;rw [z47i e.1,z56z e.2]) (x,t) h
noncomputable def znec:Tbl:=addT 68 (.pure cBst) tbl0
theorem zn9u:znec 68 = .pure cBst:=by simp [znec]
theorem zy1n:znec.Sound P:=z0rp (z2au fun a h=>zljw mix z0s4 Tryz.func68 z20i (zfmw a.1 a.2 h)) zr5o
theorem z8tf {z:List DV} {a:Int} {d:Dg} (h1:z.length=35) (h2:z.drop 33=[.int .i64 0,.int .i64 0]):zvnk z [(0,1,.int .i64 a),(1,32,.agg (dgC d))]=some (.agg (trC ⟨a,d,0,0⟩)):=by
 have f:(z.drop 1).drop 32=[.int .i64 0,.int .i64 0]:=by rw [y0s]; exact h2
 obtain ⟨b,r,rfl⟩ : ∃ b r,z=b::r:=by cases z with
  | nil=>simp at h1
  | cons b r=>exact ⟨b,r,rfl⟩
 have e:r.length=34:=by simpa using h1
 have c:r.drop 32=[.int .i64 0,.int .i64 0]:=h2;simp [zvnk,zi03,zk7y,DV.known,DV.cells,z1t1,e,c,trC]
theorem ztjp (x:Sl Tri) (g:Int) (d:Dg) (hm:Mono (cmpT g d) x.l):Runs znec a42 [x.dv 35 trC,.int .i64 g,.agg (dgC d)] (.tup [.int .i64 (kOf (cmpT g d) x.l),.bool (fOf (cmpT g d) x.l)]):=by
 refine ⟨?_⟩;have c : ∀ h,boxD h (.agg (dgC d))=some (.mp h.length 32 0,h++[.cells (dgC d)]):=fun h=>by rw [zn72,z1t1]
 have a:oneC 32 true (dgC d)=some (.agg (dgC d)):=by simp [oneC,z1t1,y01]
 have b:=za1r (x:=x) (t:=⟨g,d,0,0⟩) hm;have b:cBst [x.dv 35 trC,.agg (trC ⟨g,d,0,0⟩),.fn (.func 69) [] []]=some (.tup [.int .i64 (kOf (cmpT g d) x.l),.bool (fOf (cmpT g d) x.l)]):=b;have f:DV.int .i64 g::(dgC d++[.int .i64 0,.int .i64 0])=trC ⟨g,d,0,0⟩:=rfl;have e:=zm7q x;simp (disch:=first|omega|simp<;>omega|fail) [-zE,a42,c,z1t1,a,z8tf,zn9u,b,e,z1zd]
noncomputable def cSrc:List DV→Option DV:=con (fun a:Sl Tri × Int × Dg=>Mono (cmpT a.2.1 a.2.2) a.1.l) (fun a=>[a.1.dv 35 trC,.int .i64 a.2.1,.agg (dgC a.2.2)]) (fun a => .tup [.int .i64 (kOf (cmpT a.2.1 a.2.2) a.1.l),.bool (fOf (cmpT a.2.1 a.2.2) a.1.l)])
theorem ztk4 {x:Sl Tri} {g:Int} {d:Dg} (h:Mono (cmpT g d) x.l):cSrc [x.dv 35 trC,.int .i64 g,.agg (dgC d)]=some (.tup [.int .i64 (kOf (cmpT g d) x.l),.bool (fOf (cmpT g d) x.l)]) :=
 zzno (A:=fun a:Sl Tri × Int × Dg=>Mono (cmpT a.2.1 a.2.2) a.1.l) (f:=fun a=>[a.1.dv 35 trC,.int .i64 a.2.1,.agg (dgC a.2.2)]) (g:=fun a => .tup [.int .i64 (kOf (cmpT a.2.1 a.2.2) a.1.l),.bool (fOf (cmpT a.2.1 a.2.2) a.1.l)]) (by
  rintro ⟨a,b,c⟩ ⟨a',b',c'⟩ e;simp only [List.cons.injEq,DV.agg.injEq,DV.int.injEq,and_true,true_and] at e;rw [z47i e.1,e.2.1,zib9 e.2.2]) (x,g,d) h
theorem zev6:(Con.pure cSrc).Sound P 42:=z2au fun a h=>zljw mix zy1n Tryz.func42 zl17 (ztjp a.1 a.2.1 a.2.2 h)
noncomputable def cBsx:List DV→Option DV:=con (fun a:Sl Ixe × Rqs=>Mono (cmpR a.2) a.1.l) (fun a=>[a.1.dv 105 ixC,.agg (rqC a.2),xfn]) (fun a => .tup [.int .i64 (kOf (cmpR a.2) a.1.l),.bool (fOf (cmpR a.2) a.1.l)])
theorem z70v {x:Sl Ixe} {r:Rqs} (h:Mono (cmpR r) x.l):cBsx [x.dv 105 ixC,.agg (rqC r),.fn (.func 105) [] []]=some (.tup [.int .i64 (kOf (cmpR r) x.l),.bool (fOf (cmpR r) x.l)]) :=
 zzno (A:=fun a:Sl Ixe × Rqs=>Mono (cmpR a.2) a.1.l) (f:=fun a=>[a.1.dv 105 ixC,.agg (rqC a.2),xfn]) (g:=fun a => .tup [.int .i64 (kOf (cmpR a.2) a.1.l),.bool (fOf (cmpR a.2) a.1.l)]) (by
  rintro ⟨a,b⟩ ⟨c,d⟩ e;simp only [List.cons.injEq,DV.agg.injEq,and_true] at e;rw [zrpw e.1,z82b e.2]) (x,r) h
noncomputable def z4nx:Tbl:=addT 104 (.pure cBsx) tbl0
theorem z6uy:z4nx 104 = .pure cBsx:=by simp [z4nx]
theorem z32g:z4nx.Sound P:=z0rp (z2au fun a h=>zljw mix z8v4 Tryz.func104 z0mt (z78s a.1 a.2 h)) zr5o
structure Idx where
 at_:Int
 e:Sl Ixe
def xiC (x:Idx):List DV:=[.int .i64 x.at_,x.e.dv 105 ixC]
theorem zqx0 (x:Idx):zbao (xiC x)=true:=by simp only [xiC,zbao,zyp8,zvdj,y07]
theorem zt7p {a b:Idx} (e:xiC a=xiC b):a=b:=by
 obtain ⟨c,d⟩:=a;obtain ⟨b1,b2⟩:=b;simp only [xiC,List.cons.injEq,DV.int.injEq,true_and,and_true] at e;rw [e.1,zrpw e.2]
theorem z7n2 (x:Idx) (r:Rqs) (hm:Mono (cmpR r) x.e.l):Runs z4nx a78 [.agg (xiC x),.agg (rqC r)] (.tup [.int .i64 (kOf (cmpR r) x.e.l),.bool (fOf (cmpR r) x.e.l)]):=by
 refine ⟨?_⟩;have a : ∀ h,boxD h (.agg (xiC x))=some (.mp h.length 2 0,h++[.cells (xiC x)]):=fun h=>by rw [zn72]; rfl
 have f : ∀ h,boxD h (.agg (rqC r))=some (.mp h.length 34 0,h++[.cells (rqC r)]):=fun h=>by rw [zn72,zzeg]
 have c:(xiC x).length=2:=rfl;have g:oneC 1 false ((xiC x).drop 1)=some (x.e.dv 105 ixC):=rfl;have b:=z70v hm;have d:=zvdj x.e;simp (disch:=first|omega|simp<;>omega|fail) [-zE,a78,a,f,c,g,zzeg,zed4,z6uy,b,d,zhqv]
noncomputable def cIse:List DV→Option DV:=con (fun a:Idx × Rqs=>Mono (cmpR a.2) a.1.e.l) (fun a=>[.agg (xiC a.1),.agg (rqC a.2)]) (fun a => .tup [.int .i64 (kOf (cmpR a.2) a.1.e.l),.bool (fOf (cmpR a.2) a.1.e.l)])
theorem z64q {a b:Idx × Rqs} (e:[DV.agg (xiC a.1),.agg (rqC a.2)]=[DV.agg (xiC b.1),.agg (rqC b.2)]):a=b:=by
 obtain ⟨c,d⟩:=a;obtain ⟨b1,b2⟩:=b;simp only [List.cons.injEq,DV.agg.injEq,and_true] at e;rw [zt7p e.1,z82b e.2]
theorem z8vs {x:Idx} {r:Rqs} (h:Mono (cmpR r) x.e.l):cIse [.agg (xiC x),.agg (rqC r)]=some (.tup [.int .i64 (kOf (cmpR r) x.e.l),.bool (fOf (cmpR r) x.e.l)]) :=
 zzno (A:=fun a:Idx × Rqs=>Mono (cmpR a.2) a.1.e.l) (f:=fun a=>[.agg (xiC a.1),.agg (rqC a.2)]) (g:=fun a => .tup [.int .i64 (kOf (cmpR a.2) a.1.e.l),.bool (fOf (cmpR a.2) a.1.e.l)]) (fun a b e=>by rw [z64q e]) (x,r) h
noncomputable def zvw9:Tbl:=addT 78 (.pure cIse) tbl0
theorem z37m:zvw9 78 = .pure cIse:=by simp [zvw9]
theorem zhoa:zvw9.Sound P:=z0rp (z2au fun a h=>zljw mix z32g Tryz.func78 zetr (z7n2 a.1 a.2 h)) zr5o
def alwB (l:List Ixe) (r:Rqs):Bool:=fOf (cmpR r) l&&((l[kOf (cmpR r) l]?).map Ixe.ok).getD false
theorem zsfp {α:Type} {c:α→Int} {l:List α} (h:fOf c l=true) : ∃ hk:kOf c l<l.length,c l[kOf c l]=0:=by
 unfold fOf at h;by_cases q:kOf c l<l.length
 ·rw [y00 q] at h;exact ⟨q,by simpa using h⟩
 ·rw [y08 (by omega)] at h; simp at h
theorem z3jv (x:Idx) (r:Rqs) (hm:Mono (cmpR r) x.e.l):Runs zvw9 a51 [.agg (xiC x),.agg (rqC r)] (.bool (alwB x.e.l r)):=by
 refine ⟨?_⟩;have d : ∀ h,boxD h (.agg (xiC x))=some (.mp h.length 2 0,h++[.cells (xiC x)]):=fun h=>by rw [zn72]; rfl
 have k : ∀ h,boxD h (.agg (rqC r))=some (.mp h.length 34 0,h++[.cells (rqC r)]):=fun h=>by rw [zn72,zzeg]
 have i:(xiC x).length=2:=rfl;have n:oneC 1 false ((xiC x).drop 1)=some (x.e.dv 105 ixC):=rfl;have o:oneC 2 true (xiC x)=some (.agg (xiC x)):=rfl;have b:=z8vs hm;have j:=zqx0 x;cases hf:fOf (cmpR r) x.e.l with
 | false =>
  rw [hf] at b;have c:alwB x.e.l r=false:=by unfold alwB; rw [hf]; rfl
  rw [c];simp (disch:=first|omega|simp<;>omega|fail) [-zE,a51,d,k,i,n,o,zzeg,zed4,z37m,b,j,zhqv]
 | true =>
  rw [hf] at b;obtain ⟨g,_⟩:=zsfp hf;have c:alwB x.e.l r=x.e.l[kOf (cmpR r) x.e.l].ok:=by unfold alwB; rw [hf,y00 g]; rfl
  have f : ∀ H,zpsc H 105 (x.e.dv 105 ixC) (kOf (cmpR r) x.e.l:Nat)=some (.ref (ixC x.e.l[kOf (cmpR r) x.e.l])):=fun H=>zalo zwe8 g
  have a:=z9gm x.e.l[kOf (cmpR r) x.e.l];rw [c];obtain ⟨u,m⟩ : ∃ u,x.e.l[kOf (cmpR r) x.e.l]=u:=⟨_,rfl⟩;rw [m] at f a;rw [m];simp (disch:=first|omega|simp<;>omega|fail) [-zE,a51,d,k,i,n,o,zzeg,zed4,z37m,b,j,zhqv,f,a]
noncomputable def cAlw:List DV→Option DV:=con (fun a:Idx × Rqs=>Mono (cmpR a.2) a.1.e.l) (fun a=>[.agg (xiC a.1),.agg (rqC a.2)]) (fun a => .bool (alwB a.1.e.l a.2))
theorem zdxj {x:Idx} {r:Rqs} (h:Mono (cmpR r) x.e.l):cAlw [.agg (xiC x),.agg (rqC r)]=some (.bool (alwB x.e.l r)) :=
 zzno (A:=fun a:Idx × Rqs=>Mono (cmpR a.2) a.1.e.l) (f:=fun a=>[.agg (xiC a.1),.agg (rqC a.2)]) (g:=fun a => .bool (alwB a.1.e.l a.2)) (fun a b e=>by rw [z64q e]) (x,r) h
theorem z9kz:(Con.pure cAlw).Sound P 51:=z2au fun a h=>zljw mix zhoa Tryz.func51 z8rx (z3jv a.1 a.2 h)
end
section
def zvlr (tr:List Tri) (k:Int) (d:Dg) (t:Int):Bool:=fOf (cmpT k d) tr&&decide (t<((tr[kOf (cmpT k d) tr]?).map Tri.af).getD 0)
def choB (tr:List Tri) (ix:List Ixe) (g:Grp) (k t:Int) (d:Dg):Bool := !zvlr tr k d t&&alwB ix ⟨g.ns,g.im,d⟩
def choF (tr:List Tri) (ix:List Ixe) (g:Grp) (k t:Int):Option Dg:=g.ch.l.find? (choB tr ix g k t)
def choC (tr:List Tri) (ix:List Ixe) (c:Clu) (k t:Int):Option Dg:=match grAt c k with
 | some g=>choF tr ix g k t
 | none=>none
def choD (o:Option Dg):DV := .tup [.agg (dgC (o.getD dg0)),.bool o.isSome]
structure ChOK (x:Idx) (tr:Sl Tri):Prop where
 t : ∀ k d,Mono (cmpT k d) tr.l
 x : ∀ r,Mono (cmpR r) x.e.l
noncomputable def zxme:Tbl:=addT 42 (.pure cSrc) (addT 51 (.pure cAlw) tbl0)
theorem zey6:zxme 42 = .pure cSrc:=by simp [zxme]
theorem z2pp:zxme 51 = .pure cAlw:=by simp [zxme]
theorem zhax:zxme.Sound P:=z0rp zev6 (z0rp z9kz zr5o)
theorem zxn0 (x:Tri):(trC x).drop 34=[.int .i64 x.af]:=by
 rw [show (34:Nat)=1+33 from rfl,← y0s,zst3,show (33:Nat)=32+1 from rfl,← y0s,List.drop_left' (z1t1 _)]; rfl
theorem zobw {x:Tri}:oneC 1 false ((trC x).drop 34)=some (.int .i64 x.af):=by rw [zxn0]; rfl
def zsoi (c:Clu) (x:Idx) (tr:Sl Tri) (g:Grp) (k t:Int) (i:Nat):St:=zm3v (tr.dv 35 trC) (.int .i64 k) (.int .i64 t) (.mp 1 2 0) (.mp 2 32 0) (.mp 3 6 0) (g.ch.dv 32 dgC) (.int .i64 g.ch.l.length) (.int .i64 i) [.cells (clC c),.cells (xiC x),.cells (dgC dg0),.cells (grC g)]
theorem z41w (c:Clu) (x:Idx) (tr:Sl Tri) (k t:Int) (ok:ChOK x tr):Runs zxme a23 [.agg (clC c),.agg (xiC x),tr.dv 35 trC,.int .i64 k,.int .i64 t] (choD (choC tr.l x.e.l c k t)):=by
 refine ⟨?_⟩;have J : ∀ h,boxD h (.agg (clC c))=some (.mp h.length 3 0,h++[.cells (clC c)]):=fun h=>by rw [zn72,zlha]
 have K : ∀ h,boxD h (.agg (xiC x))=some (.mp h.length 2 0,h++[.cells (xiC x)]):=fun h=>by rw [zn72]; rfl
 have Q : ∀ H,lenD H (c.g.dv 6 grC)=some (.int .i64 c.g.l.length):=fun H=>zupj
 have a2:=c.g.b;have f : ∀ d,oneC 32 true (dgC d)=some (.agg (dgC d)):=fun d=>by simp [oneC,z1t1,y01]
 have p:=zvgf;have I:zvnk (dgC dg0) []=some (.agg (dgC dg0)):=rfl;by_cases k0:k<0
 ·have y:choC tr.l x.e.l c k t=none:=by unfold choC grAt; rw [if_neg (by omega)]
  rw [y];simp (disch:=first|omega|simp<;>omega|fail) [-zE,a23,J,K,k0,z4hl,I,p,f,choD]
 by_cases k1:(c.g.l.length:Int)≤k
 ·have y:choC tr.l x.e.l c k t=none:=by
   unfold choC grAt; rw [if_pos (by omega),y08 (by omega)]
  rw [y];simp (disch:=first|omega|simp<;>omega|fail) [-zE,a23,J,K,k0,Q,k1,z4hl,I,p,f,choD]
 obtain ⟨m,rfl⟩:=Int.eq_ofNat_of_zero_le (show 0≤k by omega)
 have hm:m<c.g.l.length:=by omega
 have O : ∀ H,zpsc H 6 (c.g.dv 6 grC) m=some (.ref (grC c.g.l[m])):=fun H=>zalo zry4 hm
 have y:choC tr.l x.e.l c m t=choF tr.l x.e.l c.g.l[m] m t:=by
  unfold choC grAt; rw [if_pos (by omega),y0g,y00 hm]
 rw [y];obtain ⟨g,hg⟩ : ∃ g,c.g.l[m]=g:=⟨_,rfl⟩;rw [hg] at O;rw [hg];have a1 : ∀ H,lenD H (g.ch.dv 32 dgC)=some (.int .i64 g.ch.l.length):=fun H=>zupj
 have a0:=g.ch.b;have Y : ∀ (h:List AObj) (id:Nat) (z:List DV),z.length=6→zy6o h id 6 0 (.agg (grC g)) (some z)=some (.junk,h.set id (.cells (grC g))):=fun h id z hz=>zfc1 (zry4 g) hz (by simp [grC,z4ja])
 have k2:¬ (c.g.l.length:Int)≤(m:Int):=k1;have k3:¬ c.g.l.length≤m:=by omega
 simp (disch:=first|omega|simp<;>omega|fail) [-zE,a23,J,K,k0,Q,k1,k2,k3,O,z4hl,Y];have q:=zqx0 x;have o:=zm7q tr;refine zlm5 (zsoi c x tr g m t) (fun i=>g.ch.l.length-i) (fun i=>i≤g.ch.l.length ∧ ∀ j (h:j<g.ch.l.length),j<i→choB tr.l x.e.l g m t g.ch.l[j]=false) 0 (yWS (by simp [-zE,zsoi,zm3v])) ⟨by omega,fun j _ w=>by omega⟩ (fun i hi => ?_)
 obtain ⟨q1,Z⟩:=hi;simp only [zsoi];by_cases h:i<g.ch.l.length
 case neg =>
  have G:¬ (i:Int)<g.ch.l.length:=by omega
  have y:choF tr.l x.e.l g m t=none:=by
   unfold choF;rw [List.find?_eq_none];intro d W;obtain ⟨j,w,e⟩:=y0a W;have:=Z j w (by omega)
   rw [e] at this; rw [this]; simp
  rw [y];simp (disch:=first|omega|simp<;>omega|fail) [-zE,zyu0,zm3v,h,G,I,z4hl,p,f,choD]
 have G:(i:Int)<g.ch.l.length:=by omega
 have L : ∀ H,zpsc H 32 (g.ch.dv 32 dgC) i=some (.ref (dgC g.ch.l[i])):=fun H=>zalo z1t1 h
 have a:choB tr.l x.e.l g m t g.ch.l[i]=false → ∀ j (h:j<g.ch.l.length),j<i+1→choB tr.l x.e.l g m t g.ch.l[j]=false:=fun e j w hji=>by
  by_cases ej:j=i
  ·subst ej; exact e
  ·exact Z j w (by omega)
 have y:choB tr.l x.e.l g m t g.ch.l[i]=true→choF tr.l x.e.l g m t=some g.ch.l[i]:=fun e=>by
  unfold choF;rw [List.find?_eq_some_iff_getElem];exact ⟨e,i,h,rfl,fun j w=>by rw [Z j (by omega) w]; rfl⟩
 obtain ⟨d,W⟩ : ∃ d,g.ch.l[i]=d:=⟨_,rfl⟩;rw [W] at L a y;have n:=ztk4 (x:=tr) (g:=m) (d:=d) (ok.t m d);have v:=zdxj (x:=x) (r:=⟨g.ns,g.im,d⟩) (ok.x _);have B:DV.str g.ns :: .str g.im::dgC d=rqC ⟨g.ns,g.im,d⟩:=rfl;have C:choB tr.l x.e.l g m t d=(!zvlr tr.l m d t&&alwB x.e.l ⟨g.ns,g.im,d⟩):=rfl;obtain ⟨R,hR⟩ : ∃ R:Rqs,(⟨g.ns,g.im,d⟩:Rqs)=R:=⟨_,rfl⟩;rw [hR] at v B C;have E:zbao (rqC R)=true:=zhqv R;have V:oneC 2 true (xiC x)=some (.agg (xiC x)):=rfl;have s:zvlr tr.l m d t=(fOf (cmpT m d) tr.l&&decide (t<((tr.l[kOf (cmpT m d) tr.l]?).map Tri.af).getD 0)):=rfl;obtain ⟨A,hA⟩ : ∃ A,alwB x.e.l R=A:=⟨_,rfl⟩;rw [hA] at v C;have D:(xiC x).length=2:=rfl;obtain ⟨T,X⟩ : ∃ T,kOf (cmpT m d) tr.l=T:=⟨_,rfl⟩;have N:=fun h=>zsfp (c:=cmpT m d) (l:=tr.l) h
 rw [X] at n s N;have U : ∀ H,Weak 0 ⟨(zm3v (tr.dv 35 trC) (.int .i64 m) (.int .i64 t) (.mp 1 2 0) (.mp 2 32 0) (.mp 3 6 0) (g.ch.dv 32 dgC) (.int .i64 g.ch.l.length) (.int .i64 ((i:Int)+1)) H).t,H⟩ (zsoi c x tr g m t (i+1))→True:=fun _ _=>trivial
 clear U;cases hf:fOf (cmpT m d) tr.l with
 | false =>
  rw [hf] at n s;have s:zvlr tr.l m d t=false:=s;rw [s] at C;cases A with
  | true =>
   rw [y (by rw [C]; rfl)]
   simp (disch:=first|omega|simp<;>omega|fail) [-zE,zyu0,zm3v,h,G,L,f,z4hl,p,zey6,n,o,z1t1,D,V,zry4,zn7v,zuiq,B,z2pp,v,q,E,choD]
  | false =>
   have a:=a (by rw [C]; rfl)
   simp (disch:=first|omega|simp<;>omega|fail) [-zE,zyu0,zm3v,h,G,L,f,z4hl,p,zey6,n,o,z1t1,D,V,zry4,zn7v,zuiq,B,z2pp,v,q,E];exact ⟨i+1,zju2 (tail:=[.cells (dgC d)]) (by simp (disch:=first|omega|simp<;>omega|fail) [-zE,zsoi,zm3v]) (by simp (disch:=first|omega|simp<;>omega|fail) [-zE,zsoi,zm3v]) (y03 _) (by simp (disch:=first|omega|simp<;>omega|fail) [-zE,zsoi,zm3v,belowL,Am.below,z8b8 _ _ o,z8b8 _ _ (zpfc g.ch)]) (by simp (disch:=first|omega|simp<;>omega|fail) [-zE,zsoi,zm3v,zlf2,zmq5 _ _ (zy11 c),zmq5 _ _ q,zmq5 _ _ (z3ot dg0),zmq5 _ _ (zxeb g)]),by omega,by omega,fun j w hji=>a j w hji⟩
 | true =>
  obtain ⟨S,_⟩:=N hf;have F : ∀ H,zpsc H 35 (tr.dv 35 trC) T=some (.ref (trC tr.l[T])):=fun H=>zalo zezj S
  rw [hf,y00 S] at s;rw [hf] at n;obtain ⟨u,hu⟩ : ∃ u,tr.l[T]=u:=⟨_,rfl⟩;rw [hu] at F s;have s:zvlr tr.l m d t=decide (t<u.af):=s;by_cases hlt:t<u.af
  ·rw [decide_eq_true hlt] at s;rw [s] at C;have a:=a C;simp (disch:=first|omega|simp<;>omega|fail) [-zE,zyu0,zm3v,h,G,L,f,z4hl,p,zey6,n,o,z1t1,F,zobw,hlt];exact ⟨i+1,zju2 (tail:=[.cells (dgC d)]) (by simp (disch:=first|omega|simp<;>omega|fail) [-zE,zsoi,zm3v]) (by simp (disch:=first|omega|simp<;>omega|fail) [-zE,zsoi,zm3v]) (y03 _) (by simp (disch:=first|omega|simp<;>omega|fail) [-zE,zsoi,zm3v,belowL,Am.below,z8b8 _ _ o,z8b8 _ _ (zpfc g.ch)]) (by simp (disch:=first|omega|simp<;>omega|fail) [-zE,zsoi,zm3v,zlf2,zmq5 _ _ (zy11 c),zmq5 _ _ q,zmq5 _ _ (z3ot dg0),zmq5 _ _ (zxeb g)]),by omega,by omega,fun j w hji=>a j w hji⟩
  ·rw [decide_eq_false hlt] at s;rw [s] at C;cases A with
   | true =>
    rw [y (by rw [C]; rfl)]
    simp (disch:=first|omega|simp<;>omega|fail) [-zE,zyu0,zm3v,h,G,L,f,z4hl,p,zey6,n,o,z1t1,F,zobw,hlt,D,V,zry4,zn7v,zuiq,B,z2pp,v,q,E,choD]
   | false =>
    have a:=a (by rw [C]; rfl)
    simp (disch:=first|omega|simp<;>omega|fail) [-zE,zyu0,zm3v,h,G,L,f,z4hl,p,zey6,n,o,z1t1,F,zobw,hlt,D,V,zry4,zn7v,zuiq,B,z2pp,v,q,E];exact ⟨i+1,zju2 (tail:=[.cells (dgC d)]) (by simp (disch:=first|omega|simp<;>omega|fail) [-zE,zsoi,zm3v]) (by simp (disch:=first|omega|simp<;>omega|fail) [-zE,zsoi,zm3v]) (y03 _) (by simp (disch:=first|omega|simp<;>omega|fail) [-zE,zsoi,zm3v,belowL,Am.below,z8b8 _ _ o,z8b8 _ _ (zpfc g.ch)]) (by simp (disch:=first|omega|simp<;>omega|fail) [-zE,zsoi,zm3v,zlf2,zmq5 _ _ (zy11 c),zmq5 _ _ q,zmq5 _ _ (z3ot dg0),zmq5 _ _ (zxeb g)]),by omega,by omega,fun j w hji=>a j w hji⟩
end
section
structure EFX (F:EF) (x:Idx) (tr:Sl Tri):Prop where
 h0:F.x0 = .int .i64 x.at_
 h1:F.x1=x.e.dv 105 ixC
 hT:F.T=tr.dv 35 trC
 ok:ChOK x tr
noncomputable def zusy (tr:List Tri) (ix:List Ixe) (t:Int) (k:Int) (s:Rnd):Bool × Rnd:=match choC tr ix s.c k t with
 | none=>(false,s)
 | some d=>if (z4wu s.c k d t).2.2=0 then (true,⟨(z4wu s.c k d t).1,s.o++[⟨1,(z4wu s.c k d t).2.1,d⟩]⟩) else (false,s)
noncomputable def cCho:List DV→Option DV:=con (fun a:Clu × Idx × Sl Tri × Int × Int=>ChOK a.2.1 a.2.2.1) (fun a=>[.agg (clC a.1),.agg (xiC a.2.1),a.2.2.1.dv 35 trC,.int .i64 a.2.2.2.1,.int .i64 a.2.2.2.2]) (fun a=>choD (choC a.2.2.1.l a.2.1.e.l a.1 a.2.2.2.1 a.2.2.2.2))
theorem zfp2 {c:Clu} {x:Idx} {tr:Sl Tri} {k t:Int} (h:ChOK x tr):cCho [.agg (clC c),.agg (xiC x),tr.dv 35 trC,.int .i64 k,.int .i64 t]=some (choD (choC tr.l x.e.l c k t)) :=
 zzno (A:=fun a:Clu × Idx × Sl Tri × Int × Int=>ChOK a.2.1 a.2.2.1) (f:=fun a=>[.agg (clC a.1),.agg (xiC a.2.1),a.2.2.1.dv 35 trC,.int .i64 a.2.2.2.1,.int .i64 a.2.2.2.2]) (g:=fun a=>choD (choC a.2.2.1.l a.2.1.e.l a.1 a.2.2.2.1 a.2.2.2.2)) (by
  rintro ⟨a1,a2,a3,a4,a5⟩ ⟨b1,b2,b3,b4,b5⟩ e;simp only [List.cons.injEq,DV.agg.injEq,DV.int.injEq,and_true,true_and] at e;rw [zh7t e.1,zt7p e.2.1,z47i e.2.2.1,e.2.2.2.1,e.2.2.2.2]) (c,x,tr,k,t) h
theorem zq37:(Con.pure cCho).Sound P 23:=z2au fun a h=>zljw mix zhax Tryz.func23 ztyx (z41w a.1 a.2.1 a.2.2.1 a.2.2.2.1 a.2.2.2.2 h)
noncomputable def z4mb:Tbl:=addT 23 (.pure cCho) (addT 125 (.pure (cSta z4xq)) tbl0)
theorem zxpn:z4mb 23 = .pure cCho:=by simp [z4mb]
theorem z4by:z4mb 125 = .pure (cSta z4xq):=by simp [z4mb]
theorem zzgv:z4mb.Sound P:=z0rp zq37 (z0rp (z2au fun p _=>zljw mix zw51 Tryz.func125 zdaz (z1bv p.1 p.2.1 p.2.2.1 p.2.2.2)) zr5o)
theorem z2ip (F:EF) (x:Idx) (tr:Sl Tri) (hF:EFX F x tr) (s:Rnd) (k:Int) (hb:s.o.length≤100000):zwy1 P 90 [.mp F.b 8 0,.int .i64 k] (F.H s) (fun d h=>d = .bool (zusy tr.l x.e.l F.t k s).1∧h=F.H (zusy tr.l x.e.l F.t k s).2):=by
 refine zrqk Tryz.func90 z9pi ?_;have hO : ∀ X,objV (F.H s++X) F.b 8=some (F.rd s.c (oV (F.b+1) 34 s.o)):=fun X=>EF.obj
 have u:objV (F.H s) F.b 8=some (F.rd s.c (oV (F.b+1) 34 s.o)):=EF.obj0;have v:=F.below s (y02 _);have n:F.b<(F.H s).length:=EF.len;have hX:DV.agg [F.x0,F.x1] = .agg (xiC x):=by rw [hF.h0,hF.h1]; rfl
 have o5:oneC 1 false ((F.rd s.c (oV (F.b+1) 34 s.o)).drop 5)=some (tr.dv 35 trC):=by rw [← hF.hT]; rfl
 have oX:oneC 2 true ((F.rd s.c (oV (F.b+1) 34 s.o)).drop 3)=some (.agg (xiC x)):=by rw [EF.oneX,hX]
 have w:=zfp2 (c:=s.c) (k:=k) (t:=F.t) hF.ok;have E:zbao (xiC x)=true:=zqx0 x;have D:=zm7q tr;have i:zusy tr.l x.e.l F.t k s=match choC tr.l x.e.l s.c k F.t with
  | none=>(false,s)
  | some d=>if (z4wu s.c k d F.t).2.2=0 then (true,⟨(z4wu s.c k d F.t).1,s.o++[⟨1,(z4wu s.c k d F.t).2.1,d⟩]⟩) else (false,s):=rfl
 have I:=zvgf;have A : ∀ d,oneC 32 true (dgC d)=some (.agg (dgC d)):=fun d=>by simp [oneC,z1t1,y01]
 have J : ∀ h,mk1 (kLt (F.H s).length) h (.mp F.b 8 0) = .mp F.b 8 0:=fun h=>zd3c (by simp only [Am.below,decide_eq_true_eq]; exact n)
 have e2 : ∀ h d,mk1 (kLt (F.H s).length) h (.ref (dgC d)) = .ref (dgC d):=fun h d=>zvft (by simp only [zyp8,z3ot])
 obtain ⟨o,ho⟩ : ∃ o,choC tr.l x.e.l s.c k F.t=o:=⟨_,rfl⟩;rw [ho] at w i;have r:=fun d:Dg=>zz5t (H:=F.H s) (cs:=dgC d) (off:=0) (z3ot d)
 refine yVS8 ?_;simp (disch:=first|omega|simp<;>omega|fail) [-zE,a90];cases o with
 | none =>
  have w:cCho [.agg (clC s.c),.agg (xiC x),tr.dv 35 trC,.int .i64 k,.int .i64 F.t]=some (.tup [.agg (dgC dg0),.bool false]):=w;have i:zusy tr.l x.e.l F.t k s=(false,s):=i;rw [i];refine zbn1 (V_W mix zzgv ?_);simp (disch:=first|omega|simp<;>omega|fail) [-zE,u,EF.one3,oX,o5,EF.one6,zxpn,w,zy11,E,D,z4hl,I];refine zs10 (n0:=(F.H s).length) (H:=F.H s) (cs:=dgC dg0) (t':=[.mp F.b 8 0,.int .i64 k,.junk,.junk,.junk,.ref (dgC dg0),.bool false]++js 59) v (y02 _) ?_ (by simp (disch:=first|omega|simp<;>omega|fail) [-zE,belowL,Am.below,n,zmq5 _ _ (z3ot dg0)]) ?_
  ·have r:=r dg0;rw [z1t1,y09] at r;simp (disch:=first|omega|simp<;>omega|fail) [-zE,r,J,-z1bt,-zdpe]
  refine yVS8 ?_;simp (disch:=first|omega|simp<;>omega|fail) [-zE]
 | some d =>
  have w:cCho [.agg (clC s.c),.agg (xiC x),tr.dv 35 trC,.int .i64 k,.int .i64 F.t]=some (.tup [.agg (dgC d),.bool true]):=w;have i:zusy tr.l x.e.l F.t k s=if (z4wu s.c k d F.t).2.2=0 then (true,⟨(z4wu s.c k d F.t).1,s.o++[⟨1,(z4wu s.c k d F.t).2.1,d⟩]⟩) else (false,s):=i
  have p:=zx1h (f:=z4xq) (c:=s.c) (g:=k) (t:=F.t) (d:=d);have p:cSta z4xq [.agg (clC s.c),.int .i64 k,.agg (dgC d),.int .i64 F.t]=some (.tup [.agg (clC (z4wu s.c k d F.t).1),.int .i64 (z4wu s.c k d F.t).2.1,.int .i64 (z4wu s.c k d F.t).2.2]):=p;obtain ⟨j,V⟩ : ∃ j,(z4wu s.c k d F.t).1=j:=⟨_,rfl⟩;obtain ⟨m,W⟩ : ∃ m,(z4wu s.c k d F.t).2.1=m:=⟨_,rfl⟩;obtain ⟨e,he⟩ : ∃ e,(z4wu s.c k d F.t).2.2=e:=⟨_,rfl⟩;rw [V,W,he] at i p;refine zbn1 (V_W mix zzgv ?_);simp (disch:=first|omega|simp<;>omega|fail) [-zE,u,EF.one3,oX,o5,EF.one6,zxpn,w,zy11,E,D,z4hl,I];refine zs10 (n0:=(F.H s).length) (H:=F.H s) (cs:=dgC d) (t':=[.mp F.b 8 0,.int .i64 k,.junk,.junk,.junk,.ref (dgC d),.bool true]++js 59) v (y02 _) ?_ (by simp (disch:=first|omega|simp<;>omega|fail) [-zE,belowL,Am.below,n,zmq5 _ _ (z3ot d)]) ?_
  ·have r:=r d;rw [z1t1,y09] at r;simp (disch:=first|omega|simp<;>omega|fail) [-zE,r,J,-z1bt,-zdpe]
  have a1 : ∀ (h:List AObj) (m:Nat),zy6o h m 3 0 (.agg (clC j)) (some [.nils,.nils,.int .i64 0])=some (.junk,h.set m (.cells (clC j))):=fun h m=>zfc1 rfl rfl (by simp [clC,z4ja])
  have y:=zz5t (H:=F.H s) (cs:=clC j) (off:=0) (zy11 j);refine yVS8 ?_;simp (disch:=first|omega|simp<;>omega|fail) [-zE];refine zbn1 (V_W mix zzgv ?_);simp (disch:=first|omega|simp<;>omega|fail) [-zE,u,EF.one3,EF.one6,A,z4by,p,zy11,z3ot,a1];refine zs10 (n0:=(F.H s).length) (H:=F.H s) (cs:=clC j) (t':=[.mp F.b 8 0,.int .i64 k,.junk,.junk,.junk,.ref (dgC d),.junk,.ref (clC j),.int .i64 m,.int .i64 e]++js 56) v (y02 _) ?_ (by simp (disch:=first|omega|simp<;>omega|fail) [-zE,belowL,Am.below,n,zmq5 _ _ (z3ot d),zmq5 _ _ (zy11 j)]) ?_
  ·rw [zlha,y09] at y;simp (disch:=first|omega|simp<;>omega|fail) [-zE,y,J,e2,-z1bt,-zdpe]
  refine yVS8 ?_;by_cases h0:e=0
  case neg =>
   rw [if_neg h0] at i;rw [i];simp (disch:=first|omega|simp<;>omega|fail) [-zE,h0]
  subst h0;rw [if_pos rfl] at i;rw [i];obtain ⟨C,L⟩ : ∃ C:Cmd,(⟨1,m,d⟩:Cmd)=C:=⟨_,rfl⟩;have a0:DV.int .i64 1 :: .int .i64 m::dgC d=cmC C:=by rw [← L]; rfl
  have B:=fun z (hz:z.length=34)=>z3dx (z:=z) (a:=1) (b:=m) (d:=d) hz
  rw [L] at B;rw [L];have U:=EF.app (F:=F) (c:=j) (q:=oV (F.b+1) 34 s.o) (o:=s.o) (x:=C) (by omega)
  have Y:=zy42 (k:=F.b+1) (K:=34) (l:=s.o++[C]);have Z:=z6jg (k:=F.b+1) (K:=34) (l:=s.o++[C]);have O:F.H s=F.G s.c (oV (F.b+1) 34 s.o) s.o:=rfl;have Q:F.H ⟨j,s.o++[C]⟩=F.G j (oV (F.b+1) 34 (s.o++[C])) (s.o++[C]):=rfl;have R:objV (F.G j (oV (F.b+1) 34 s.o) s.o) F.b 8=some (F.rd j (oV (F.b+1) 34 s.o)):=EF.obj0;have S:objV (F.G s.c (oV (F.b+1) 34 s.o) s.o) F.b 8=some (F.rd s.c (oV (F.b+1) 34 s.o)):=EF.obj0;have T:objV (F.G j (oV (F.b+1) 34 s.o) (s.o++[C])) F.b 8=some (F.rd j (oV (F.b+1) 34 s.o)):=EF.obj0;obtain ⟨N,hN⟩ : ∃ N,(F.H s).length=N:=⟨_,rfl⟩;rw [hN,O,Q];simp (disch:=first|omega|simp<;>omega|fail) [-zE];refine yVS8 ?_;simp (disch:=first|omega|simp<;>omega|fail) [-zE,S,zei9,EF.st0,EF.set];refine yVS8 ?_;simp (disch:=first|omega|simp<;>omega|fail) [-zE,R,EF.one7,A,B,a0,zz6m,U,T,EF.st7 Y Z,EF.set];refine yVS8 ?_;simp (disch:=first|omega|simp<;>omega|fail) [-zE];refine yVW8 ?_;simp (disch:=first|omega|simp<;>omega|fail) [-zE,a90]
end
section
def liS (l:List Int):Sl Int:=if h:l≠[]∧l.length≤4294967296 then ⟨some false,l,by simp,h.2⟩ else ⟨none,[],fun _=>rfl,by simp⟩
theorem z4lf {l:List Int} (h:l.length≤4294967296):(liS l).l=l:=by
 unfold liS;by_cases e:l=[]
 ·subst e; simp
 ·rw [dif_pos ⟨e,h⟩]
theorem z6tb {l:List Int} (h:l.length≤4294967296):(liS l).dv 1 inI=liV l:=by
 unfold liS;by_cases e:l=[]
 ·subst e; simp [Sl.dv,slD,liV]
 ·rw [dif_pos ⟨e,h⟩,zefw e]; rfl
theorem zzaj {c:Clu} {k t:Int} {d:Dg} (h:(z4wu c k d t).2.2=0):(z4wu c k d t).1=⟨c.clone.g,own (c.i.l++[newI c k d t]),c.next+1⟩∧(z4wu c k d t).2.1=c.next∧c.i.l.length<200:=by
 unfold z4wu at h ⊢;split at h
 ·simp at h
 ·rename_i h1
  rw [if_neg h1];split at h
  ·simp at h
  ·rename_i h2
   rw [if_neg h2];split at h
   ·simp at h
   ·rename_i h3
    rw [if_neg h3];exact ⟨rfl,rfl,by omega⟩
theorem zbq8 {c:Clu} {k:Int}:grAt c.clone k=(grAt c k).map Grp.clone:=by
 unfold grAt;split
 ·show (c.g.l.map Grp.clone)[k.toNat]? = _;rw [List.getElem?_map]
 ·rfl
theorem zu5r {tr:List Tri} {ix:List Ixe} {t k:Int} {s:Rnd} (h:(zusy tr ix t k s).1=true):(znqs (zusy tr ix t k s).2.c k).length=(znqs s.c k).length+1∧(zusy tr ix t k s).2.o.length=s.o.length+1∧(zusy tr ix t k s).2.o≠[]∧(zusy tr ix t k s).2.c.i.l.length=s.c.i.l.length+1:=by
 cases hc:choC tr ix s.c k t with
 | none=>unfold zusy at h; rw [hc] at h; simp at h
 | some d =>
  have b:zusy tr ix t k s=if (z4wu s.c k d t).2.2=0 then (true,⟨(z4wu s.c k d t).1,s.o++[⟨1,(z4wu s.c k d t).2.1,d⟩]⟩) else (false,s):=by unfold zusy; rw [hc]
  by_cases h0:(z4wu s.c k d t).2.2=0
  ·rw [if_pos h0] at b;rw [b];obtain ⟨j,p,q⟩:=zzaj h0;have a:(own (s.c.i.l++[newI s.c k d t])).l=s.c.i.l++[newI s.c k d t]:=z3e9 (by simp; omega)
   refine ⟨?_,by simp,by simp,by simp only [j]; rw [a]; simp⟩
   simp only [j];cases hg:grAt s.c k with
   | none=>unfold choC at hc; rw [hg] at hc; simp at hc
   | some g =>
    have m:d ∈ g.ch.l:=by
     unfold choC at hc;rw [hg] at hc;exact List.mem_of_find?_eq_some hc
    have f:grAt ⟨s.c.clone.g,own (s.c.i.l++[newI s.c k d t]),s.c.next+1⟩ k=some g.clone:=by
     have:=zbq8 (c:=s.c) (k:=k);rw [hg] at this; exact this
    unfold znqs idsP;rw [f,hg];simp only [a,List.length_map];have e:z9qu g.clone=z9qu g:=rfl;rw [e];unfold selL;rw [List.filter_append,y0d];have n:(decide ((newI s.c k d t).grp=k)&&z9qu g (newI s.c k d t))=true:=by
     simp [newI,z9qu,chos,m]
    simp [y04,n]
  ·rw [if_neg h0] at b; rw [b] at h; simp at h
noncomputable def zinu (tr:List Tri) (ix:List Ixe) (t k want:Int):Nat→Rnd→Rnd
 | 0,s=>s
 | m+1,s=>if (zusy tr ix t k s).1=true then zinu tr ix t k want m (zusy tr ix t k s).2 else s
noncomputable def filS (tr:List Tri) (ix:List Ixe) (t k want:Int) (s:Rnd):Rnd:=zinu tr ix t k want (want-(znqs s.c k).length).toNat s
noncomputable def grS1 (t k:Int) (s:Rnd):Rnd:=(stgL k (znqs s.c k) false s.c.i.l).foldl (zyao t) s
noncomputable def grS2 (t k want:Int) (s:Rnd):Rnd:=((stgL k (znqs s.c k) true s.c.i.l).reverse.take ((znqs s.c k).length-want).toNat).foldl (zyao t) s
noncomputable def grS3 (t k:Int) (s:Rnd):Rnd:=((zu3j s.c k).take (z17v s.c k).toNat).foldl (zyao t) s
noncomputable def grpS (tr:List Tri) (ix:List Ixe) (t k want:Int) (s:Rnd):Rnd:=filS tr ix t k want (grS3 t k (grS2 t k want (grS1 t k s)))
end
section
theorem exTH {k:Nat} {a0:List DV} {h0:List AObj} {r:DV} {h1:List AObj} {T:Tbl} (hs:T.Sound P) (hc:zwy1 P k a0 h0 (fun d h=>d=r∧h=h1)) :
  ∃ (T':Tbl) (f:List DV→List AObj→Option (DV × List AObj)),T'.Sound P∧T' k = .heap f∧f a0 h0=some (r,h1) ∧ ∀ j,j≠k→T' j=T j :=
 ⟨addT k (.heap (ptH a0 h0 r h1)) T,ptH a0 h0 r h1,z0rp (zdmv hc) hs,by simp [addT],zpvh,fun j hj=>by simp [addT,hj]⟩
theorem zn83 {k:Nat} {L:List Int}:oV k 1 L.reverse=oV k 1 L:=by unfold oV; simp
theorem zgpy {k:Nat} {L:List Int}:oV k 1 L=srtV k L:=by unfold oV srtV; simp
theorem zssq {H:List AObj} {L:List Int}:H++oT inI L=srtH H L:=by
 by_cases e:L=[]
 ·subst e; rw [zkrk,zwug,List.append_nil]
 ·rw [zu2l e,zzyq e];have:fl inI L=L.map (.int .i64):=by
   unfold fl;clear e;induction L with
   | nil=>rfl
   | cons a l ih=>rw [List.flatMap_cons,ih]; rfl
  rw [this]
theorem z69x {H:List AObj} {L:List Int} (h:L.length≤1000000):cRev [oV H.length 1 L] (H++oT inI L)=some (.tup [],H++oT inI L.reverse):=by
 rw [zgpy,zssq,zssq]; exact zdxu h
theorem z793 {L:List Int} {m:Nat} (hL:L.length≤4294967296) (hm:m≤L.length) : ∃ Y:Sl Int,Y.l=L.take m ∧ ∀ H,z390 H 1 (liV L) none (some (.int .i64 m)) none=some (Y.dv 1 inI):=by
 have a:=z4lf hL;refine ⟨(liS L).part 0 m (m == (liS L).l.length),by simp [Sl.part,a],fun H => ?_⟩
 rw [← z6tb hL];exact z0ke zg97 (by simp [zo77,iD,a]; omega) (by rw [a]; exact hm)
theorem z158 {l:List Ins} {i:Nat} {a t:Int}:(setI l i a t).length=l.length:=by unfold setI; split<;>simp
theorem zqg6 {t:Int} {s:Rnd} {id:Int}:(zyao t s id).c.i.l.length=s.c.i.l.length:=by
 unfold zyao;split
 ·rename_i h
  show (z5wo s.c id t 3).1.i.l.length=_;unfold z5wo at h ⊢;by_cases h1:¬ ValidC s.c∨¬ zcie t
  ·rw [if_pos h1] at h; simp at h
  rw [if_neg h1] at h ⊢;by_cases h2:z092 s.c.i.l id<0
  ·rw [if_pos h2] at h; simp at h
  rw [if_neg h2] at h ⊢;split at h
  ·rename_i h3
   rw [if_pos h3];show (own _).l.length=_;rw [z3e9 (by rw [z158]; exact s.c.i.b),z158]
  ·simp at h
 ·rfl
theorem zaui {t:Int} : ∀ {V:List Int} {s:Rnd},(V.foldl (zyao t) s).c.i.l.length=s.c.i.l.length
 | [],s=>rfl
 | a::V,s=>by rw [y0o,zaui,zqg6]
theorem zqw0 {c:Clu} {k:Int} {sel:Grp→Ins→Bool}:(idsP c k sel).length≤c.i.l.length:=by
 unfold idsP;split
 ·rw [List.length_map]; exact List.length_filter_le _ _
 ·simp
theorem z9e8 {c:Clu} {k:Int}:(zu3j c k).length≤3*c.i.l.length:=by
 unfold zu3j;split
 ·simp only [y0d,zmgd,y05,y0j];have a:=zqw0 (c:=c) (k:=k) (sel:=sDen);have b:=zqw0 (c:=c) (k:=k) (sel:=sRep);have d:=zqw0 (c:=c) (k:=k) (sel:=z7e4);omega
 ·simp
theorem zy09 {c:Clu} {k:Int}:0≤z17v c k:=by
 unfold z17v;split
 ·omega
 ·exact Int.le_refl _
theorem z6vl {tr:List Tri} {ix:List Ixe} {t k want:Int} {s:Rnd} (h:want≤(znqs s.c k).length):filS tr ix t k want s=s:=by
 unfold filS;rw [show (want-((znqs s.c k).length:Int)).toNat=0 by omega]; rfl
theorem z1ss {tr:List Tri} {ix:List Ixe} {t k want:Int} {s:Rnd} (h:(zusy tr ix t k s).1=false):filS tr ix t k want s=s:=by
 unfold filS;cases (want-((znqs s.c k).length:Int)).toNat with
 | zero=>rfl
 | succ m=>unfold zinu; rw [h]; rfl
theorem znf4 {tr:List Tri} {ix:List Ixe} {t k want:Int} {s:Rnd} (h:((znqs s.c k).length:Int)<want) (h1:(zusy tr ix t k s).1=true):filS tr ix t k want s=filS tr ix t k want (zusy tr ix t k s).2:=by
 have a:=(zu5r h1).1;unfold filS;rw [a];obtain ⟨m,b⟩ : ∃ m,(want-((znqs s.c k).length:Int)).toNat=m+1:=⟨(want-((znqs s.c k).length:Int)).toNat-1,by omega⟩
 rw [b,show (want-(((znqs s.c k).length+1:Nat):Int)).toNat=m by omega]
 show (if _ then _ else _)=_
 rw [if_pos h1]
theorem z0v2 {tr:List Tri} {ix:List Ixe} {t k:Int} {s:Rnd} (h:(zusy tr ix t k s).1=false):(zusy tr ix t k s).2=s:=by
 unfold zusy at h ⊢;split
 ·rfl
 ·rename_i d e
  rw [e] at h;simp only at h;split at h
  ·simp at h
  ·rename_i h2; rw [if_neg h2]
structure GrOK (t:Int) (s:Rnd) (k:Nat) (want:Int):Prop where
 hk:k<s.c.g.l.length
 hw:s.c.g.l[k].want=want
 w0 : -1000000000≤want
 w1:want≤10000
 hi:s.c.i.l.length≤200
 ho:s.o.length≤20000
 hv:VicOK (grS2 t k want (grS1 t k s)).c
noncomputable def z39d:Tbl:=addT 87 (.pure (cCk z3tq)) tbl0
theorem zqsr:z39d 87 = .pure (cCk z3tq):=by simp [z39d]
theorem zdot:z39d.Sound P:=z0rp zjal zr5o
noncomputable def zaov:Tbl:=addT 88 (.pure (cCkA VicOK vicD)) tbl0
theorem zbsp:zaov 88 = .pure (cCkA VicOK vicD):=by simp [zaov]
theorem za74:zaov.Sound P:=z0rp zaz7 zr5o
noncomputable def zxgy:Tbl:=addT 89 (.pure (cCkA LimC zc12)) tbl0
theorem zfpb:zxgy 89 = .pure (cCkA LimC zc12):=by simp [zxgy]
theorem zbqs:zxgy.Sound P:=z0rp ztkb zr5o
noncomputable def zfxy:Tbl:=addT 86 (.heap cRev) tbl0
theorem zyyi:zfxy 86 = .heap cRev:=by simp [zfxy]
theorem zf00:zfxy.Sound P:=z0rp zx90 zr5o
theorem zurr (F:EF) (L:List Int) (s:Rnd) (hL:L.length≤1000) (hb:s.o.length≤90000):zwy1 P 53 [.mp F.b 8 0,liV L] (F.H s) (fun d h=>d = .tup []∧h=F.H (L.foldl (zyao F.t) s)):=by
 have e:=z4lf (l:=L) (by omega)
 have:=z39y F (liS L) s (by rw [e]; omega)
 rw [e,z6tb (by omega)] at this
 exact this
def zjwe (F:EF) (k:Nat) (want:Int) (s:Rnd):St:=zh8t (.mp F.b 8 0) (.int .i64 k) (.int .i64 want) (F.H s)
theorem zyoa (F:EF) (x:Idx) (tr:Sl Tri) (hF:EFX F x tr) (s:Rnd) (k:Nat) (want:Int) (q:GrOK F.t s k want):zwy1 P 55 [.mp F.b 8 0,.int .i64 k] (F.H s) (fun d h=>d = .tup []∧h=F.H (grpS tr.l x.e.l F.t k want s)):=by
 refine zrqk Tryz.func55 ze8s ?_;obtain ⟨hk,hw,w0,w1,hi,ho,hv⟩:=q;have r : ∀ s,objV (F.H s) F.b 8=some (F.rd s.c (oV (F.b+1) 34 s.o)):=fun s=>EF.obj0
 have hG:=fun H=>zalo (x:=s.c.g) (h:=H) zry4 hk
 obtain ⟨G,b8⟩ : ∃ G,s.c.g.l[k]=G:=⟨_,rfl⟩;rw [b8] at hG hw;have E:=zaos F s k false (by omega)
 have B:grpS tr.l x.e.l F.t k want s=filS tr.l x.e.l F.t k want (grS3 F.t k (grS2 F.t k want (grS1 F.t k s))):=rfl;have K:grS1 F.t k s=(stgL k (znqs s.c k) false s.c.i.l).foldl (zyao F.t) s:=rfl;have l1:=zt4h (k:=k) (G:=znqs s.c k) (b:=false) (l:=s.c.i.l);obtain ⟨D,b9⟩ : ∃ D,stgL k (znqs s.c k) false s.c.i.l=D:=⟨_,rfl⟩;rw [b9] at E K l1;have X:=zurr F D s (by omega) (by omega)
 have i1:=zaui (t:=F.t) (V:=D) (s:=s);have o1:=zcsc F.t D s;have z1:=F.hle (s:=s) (s1:=D.foldl (zyao F.t) s) (zwy8 F.t D s);obtain ⟨s1,d4⟩ : ∃ s1,D.foldl (zyao F.t) s=s1:=⟨_,rfl⟩;rw [d4] at X K i1 o1 z1;rw [K] at B hv;obtain ⟨TA,fA,sA,a1,a2,a3⟩:=exTH zr5o E;obtain ⟨TB,fB,sB,b1,b2,b3⟩:=exTH sA X;have b4:=b3 85 (by decide)
 rw [a1] at b4;refine yVS8 ?_;simp (disch:=first|omega|simp<;>omega|fail) [-zE,a55,r,EF.one0,hG,grC,hw];refine zbn1 (V_W mix sB ?_);simp (disch:=first|omega|simp<;>omega|fail) [-zE,b4,a2,b1,b2];have I:=z7b5 F s1 k true (by omega)
 have u:grS2 F.t k want s1=((stgL k (znqs s1.c k) true s1.c.i.l).reverse.take ((znqs s1.c k).length-want).toNat).foldl (zyao F.t) s1:=rfl;have l2:=zt4h (k:=k) (G:=znqs s1.c k) (b:=true) (l:=s1.c.i.l);obtain ⟨J,c0⟩ : ∃ J,stgL k (znqs s1.c k) true s1.c.i.l=J:=⟨_,rfl⟩;rw [c0] at I u l2;obtain ⟨TC,fC,sC,c1,c2,c3⟩:=exTH zr5o I;refine zbn1 (V_W mix sC ?_);simp (disch:=first|omega|simp<;>omega|fail) [-zE,c1,c2];have b5:=z69x (H:=F.H s1) (L:=J) (by omega)
 have c8:=F.below s1 (y02 _);have W:F.b<(F.H s1).length:=EF.len;have N:=zxjm (H:=F.H s1) (L:=J.reverse);rw [zn83] at N;have d8:J.reverse.length=J.length:=y0j;obtain ⟨R,hR⟩ : ∃ R,J.reverse=R:=⟨_,rfl⟩;rw [hR] at b5 N u d8;refine zbn1 (V_W mix zf00 ?_);simp (disch:=first|omega|simp<;>omega|fail) [-zE,zyyi,b5];have e1 : ∀ h,mk1 (kLt (F.H s1).length) h (.mp F.b 8 0) = .mp F.b 8 0:=fun h=>zd3c (by simp only [Am.below,decide_eq_true_eq]; exact W)
 refine z0em (n0:=(F.H s).length) (H:=F.H s1) (t':=[.mp F.b 8 0,.int .i64 k,.junk,.junk,.int .i64 want,liV R]++js 71) c8 z1 ?_ (by simp (disch:=first|omega|simp<;>omega|fail) [-zE,belowL,Am.below,W,z8b8 _ _ (z4yh R)]) ?_
 ·simp (disch:=first|omega|simp<;>omega|fail) [-zE,N,e1,-z1bt,-zdpe]
 have n:=ztaz (f:=z3tq) (c:=s1.c) (k:=k);have v:z3tq s1.c k=liV (znqs s1.c k):=rfl;rw [v] at n;have gl:=z7in (c:=s1.c) (k:=k);obtain ⟨C,y⟩ : ∃ C,znqs s1.c k=C:=⟨_,rfl⟩;rw [y] at n gl u;obtain ⟨M,hM⟩ : ∃ M,max ((C.length:Int)-want) 0=M:=⟨_,rfl⟩;have c4:(C.length-want).toNat=M.toNat:=by omega
 have d9:0≤M∧M≤2000000000:=by omega
 rw [c4] at u;refine zbn1 (V_W mix zdot ?_);simp (disch:=first|omega|simp<;>omega|fail) [-zE,r,EF.one3,zqsr,n,zy11,zo8b,zluv,zaqi,hM];obtain ⟨m,hm⟩ : ∃ m,min M.toNat R.length=m:=⟨_,rfl⟩;have d0:min M (R.length:Int)=(m:Int):=by omega
 obtain ⟨Y,hY,d7⟩:=z793 (L:=R) (m:=m) (by omega) (by omega)
 have c6:R.take M.toNat=Y.l:=by rw [hY,← hm,y0t]; omega
 have e0:Y.l.length≤200:=by rw [hY,y05]; omega
 rw [c6] at u;have O:=z39y F Y s1 (by omega)
 have i2:=zaui (t:=F.t) (V:=Y.l) (s:=s1);have o2:=zcsc F.t Y.l s1;have z2:=F.hle (s:=s1) (s1:=Y.l.foldl (zyao F.t) s1) (zwy8 F.t Y.l s1);rw [← u] at O i2 o2 z2;obtain ⟨a,d5⟩ : ∃ a,grS2 F.t k want s1=a:=⟨_,rfl⟩;rw [d5] at O i2 o2 z2 B hv;obtain ⟨TD,fD,sD,d1,d2,d3⟩:=exTH zr5o O;refine zbn1 (V_W mix sD ?_);simp (disch:=first|omega|simp<;>omega|fail) [-zE,zo8b,zluv,zy6n,d0,d7,d1,d2];have T:=ztpi (A:=VicOK) (f:=vicD) (c:=a.c) (k:=k) hv;have b7:vicD a.c k=liV (zu3j a.c k):=rfl;rw [b7] at T;have S:=ztpi (A:=LimC) (f:=zc12) (c:=a.c) (k:=k) hv.2;have a0:zc12 a.c k = .int .i64 (z17v a.c k):=rfl;rw [a0] at S;have z:grS3 F.t k a=((zu3j a.c k).take (z17v a.c k).toNat).foldl (zyao F.t) a:=rfl;have vl:=z9e8 (c:=a.c) (k:=k);have rg:=zy09 (c:=a.c) (k:=k);obtain ⟨V,hV⟩ : ∃ V,zu3j a.c k=V:=⟨_,rfl⟩;obtain ⟨U,c5⟩ : ∃ U,z17v a.c k=U:=⟨_,rfl⟩;rw [hV] at T z vl;rw [c5] at S z rg;refine zbn1 (V_W mix za74 ?_);simp (disch:=first|omega|simp<;>omega|fail) [-zE,r,EF.one3,zbsp,T,zy11];obtain ⟨j,hj⟩ : ∃ j,min U.toNat V.length=j:=⟨_,rfl⟩;have c9:min U (V.length:Int)=(j:Int):=by omega
 obtain ⟨Z,hZ,b6⟩:=z793 (L:=V) (m:=j) (by omega) (by omega)
 have c7:V.take U.toNat=Z.l:=by rw [hZ,← hj,y0t]; omega
 have e3:Z.l.length≤600:=by rw [hZ,y05]; omega
 rw [c7] at z;have Q:=z39y F Z a (by omega)
 have o3:=zcsc F.t Z.l a;have z3:=F.hle (s:=a) (s1:=Z.l.foldl (zyao F.t) a) (zwy8 F.t Z.l a);have i3:=zaui (t:=F.t) (V:=Z.l) (s:=a);rw [← z] at Q o3 z3 i3;obtain ⟨s3,d6⟩ : ∃ s3,grS3 F.t k a=s3:=⟨_,rfl⟩;rw [d6] at Q o3 z3 B i3;obtain ⟨TE,fE,sE,f1,f2,f3⟩:=exTH zbqs Q;have f4:=f3 89 (by decide)
 rw [zfpb] at f4;refine zbn1 (V_W mix sE ?_);simp (disch:=first|omega|simp<;>omega|fail) [-zE,r,EF.one3,f4,S,zy11,zo8b,zluv,zy6n,c9,b6,f1,f2];have g3:=z7in (c:=s3.c) (k:=k);rw [B];have e4 : ∀ s':Rnd,objV (F.H s') F.b 8=some (F.rd s'.c (oV (F.b+1) 34 s'.o)):=r;refine z3mo (ztbr (zjwe F k want) (fun s'=>(want-(znqs s'.c k).length).toNat) (fun s'=>filS tr.l x.e.l F.t k want s'=filS tr.l x.e.l F.t k want s3∧s'.o.length+(want-(znqs s'.c k).length).toNat≤90000∧s'.c.i.l.length+(want-(znqs s'.c k).length).toNat≤90000) s3 (yWS (by simp [-zE,zjwe,zh8t])) ⟨rfl,by omega,by omega⟩ (fun s' hs' => ?_))
 obtain ⟨u1,u2,u3⟩:=hs';simp only [zjwe];have n:=ztaz (f:=z3tq) (c:=s'.c) (k:=k);have v:z3tq s'.c k=liV (znqs s'.c k):=rfl;rw [v] at n;have gl:=z7in (c:=s'.c) (k:=k);have w:=z2ip F x tr hF s' k (by omega)
 have fo:=z6vl (tr:=tr.l) (ix:=x.e.l) (t:=F.t) (k:=k) (want:=want) (s:=s');have fy:=znf4 (tr:=tr.l) (ix:=x.e.l) (t:=F.t) (k:=k) (want:=want) (s:=s');have fn:=z1ss (tr:=tr.l) (ix:=x.e.l) (t:=F.t) (k:=k) (want:=want) (s:=s');have gs:=zu5r (tr:=tr.l) (ix:=x.e.l) (t:=F.t) (k:=k) (s:=s');have sn:=z0v2 (tr:=tr.l) (ix:=x.e.l) (t:=F.t) (k:=k) (s:=s');obtain ⟨C,y⟩ : ∃ C,znqs s'.c k=C:=⟨_,rfl⟩;rw [y] at n gl fo fy gs u2 u3;refine zbn1 (zbn1 (V_W mix zdot ?_));by_cases c:(C.length:Int)<want
 case neg =>
  have fo:=fo (by omega)
  rw [← u1,fo];simp (disch:=first|omega|simp<;>omega|fail) [-zE,z44u,zh8t,r,EF.one3,zqsr,n,zy11,zo8b,c];refine yVW8 ?_;simp (disch:=first|omega|simp<;>omega|fail) [-zE,a55]
 simp (disch:=first|omega|simp<;>omega|fail) [-zE,z44u,zh8t,r,EF.one3,zqsr,n,zy11,zo8b,c];refine yVW8 ?_;simp (disch:=first|omega|simp<;>omega|fail) [-zE];obtain ⟨p,hp⟩ : ∃ p,zusy tr.l x.e.l F.t k s'=p:=⟨_,rfl⟩;rw [hp] at w fy fn gs sn;obtain ⟨b,s4⟩:=p;simp only at w fy fn gs sn;obtain ⟨TG,fG,sG,g1,g2,g3⟩:=exTH zr5o w;refine z3mo (zbn1 (V_W mix sG ?_));cases b with
 | false =>
  have e:=sn rfl;have e2:=fn rfl;subst e;rw [← u1,e2];simp (disch:=first|omega|simp<;>omega|fail) [-zE,g1,g2];refine yVW8 ?_;simp (disch:=first|omega|simp<;>omega|fail) [-zE,a55]
 | true =>
  have e2:=fy c rfl;obtain ⟨y1,y2,y3,y4⟩:=gs rfl;simp (disch:=first|omega|simp<;>omega|fail) [-zE,g1,g2];refine yVW8 ?_;simp (disch:=first|omega|simp<;>omega|fail) [-zE];refine ⟨s4,yWS (by simp [-zE,zjwe,zh8t]),?_,by rw [← e2,u1],?_,?_⟩<;>simp only [y1,y]<;>omega
end
section
theorem z1pi {A:List AObj} {L:List Int} {y:Int} {n:Nat} (hA:A.length=n) (h:L.length+1≤4294967296):appX (A++oT inI L) 1 8 (oV n 1 L) 1 [.int .i64 y]=some (oV n 1 (L++[y]),A++oT inI (L++[y])) :=
 zte0 (k:=n) (K:=1) (b:=8) (f:=inI) (l:=L) (x:=y) (h:=A) hA zg97 (by decide) (by decide) (fun _=>rfl) h
theorem zdlw {gr:List Int} {t:Int} {l:List Ins} {i:Nat} (h:i<l.length):ze9z (l.take (i+1)) 0 gr t=ze9z (l.take i) 0 gr t++(if z9hf l[i] (gr.getD i 0) t=true then [l[i].id] else []):=by
 rw [List.take_succ_eq_append_getElem h,zcgk,y05,show 0+min i l.length=i by omega]
noncomputable def zhxq (c:Clu) (g:Nl) (t:Int) (i:Nat):St:=z213 g.dv (.int .i64 t) (oV 1 1 (ze9z (c.i.l.take i) 0 g.l t)) (c.i.dv 37 inC) (.int .i64 c.i.l.length) (.int .i64 i) ([.cells (clC c)]++oT inI (ze9z (c.i.l.take i) 0 g.l t))
noncomputable def zb66 (c:Clu) (g:Nl) (t:Int) (i:Nat):St:=z8ja g.dv (.int .i64 t) (.mp 0 3 0) (oV 1 1 (ze9z (c.i.l.take i) 0 g.l t)) (.int .i64 i) ([.cells (clC c)]++oT inI (ze9z (c.i.l.take i) 0 g.l t))
section
variable (c:Clu) (g:Nl) (t:Int)
theorem znws (hv:OvOK (c,g,t)):Am.Sem P 54 [.agg (clC c),g.dv,.int .i64 t] (liV (ze9z c.i.l 0 g.l t)):=by
 refine znz9 Tryz.func54 zq4q ?_;have N : ∀ H,lenD H (c.i.dv 37 inC)=some (.int .i64 c.i.l.length):=fun H=>zupj
 have s:=fun H=>ziny H g
 have Z:=c.i.b;have V:[AObj.cells (clC c)].length=1:=rfl;refine yVS8 ?_;simp (disch:=first|omega|simp<;>omega|fail) [-zE,a54];refine yVS8 ?_;simp (disch:=first|omega|simp<;>omega|fail) [-zE];refine zbn1 (yVS8 ?_);simp (disch:=first|omega|simp<;>omega|fail) [-zE,zxyh,N];have U:ze9z [] 0 g.l t=[]:=rfl;have O : ∀ L:List Int,zlf2 ([AObj.cells (clC c)]++oT inI L).length ([AObj.cells (clC c)]++oT inI L)=true:=fun L=>zrlz (by simp only [zlf2,zmq5 _ _ (zy11 c),y07]) (zd81 zyj0)
 refine z3mo (ztbr (zhxq c g t) (fun i=>c.i.l.length-i) (fun i=>i≤c.i.l.length) 0 (z515 (by simp (disch:=first|omega|simp<;>omega|fail) [-zE,zhxq,z213,U,zl8p]) (by simp (disch:=first|omega|simp<;>omega|fail) [-zE,zhxq,z213,U,zkrk])) (y03 _) (fun i hi => ?_))
 simp only [zhxq];refine yVS8 ?_;by_cases gi:i<c.i.l.length
 case neg =>
  have p:¬ (i:Int)<c.i.l.length:=by omega
  rw [y01 (by omega)]
  obtain ⟨L,J⟩ : ∃ L,ze9z c.i.l 0 g.l t=L:=⟨_,rfl⟩;rw [J];have D:=zxjm (H:=[AObj.cells (clC c)]) (L:=L);rw [V,y0u] at D;simp (disch:=first|omega|simp<;>omega|fail) [-zE,zpde,z213,gi,p];refine yVS8 ?_;simp (disch:=first|omega|simp<;>omega|fail) [-zE];refine z0em (n0:=0) (H:=[.cells (clC c)]) (R:=oT inI L) (t':=js 7++[liV L]++js 41) (by simp only [zlf2,zmq5 _ _ (zy11 c),y07]) (y03 _) ?_ (by simp (disch:=first|omega|simp<;>omega|fail) [-zE,belowL,Am.below,z8b8 _ _ (z4yh L)]) ?_
  ·simp (disch:=first|omega|simp<;>omega|fail) [-zE,D,-z1bt,-zdpe]
  refine yVS8 ?_;simp (disch:=first|omega|simp<;>omega|fail) [-zE];refine yVW8 ?_;simp (disch:=first|omega|simp<;>omega|fail) [-zE,a54,z6nl (z4yh L)]
 have p:(i:Int)<c.i.l.length:=by omega
 have C:=fun H=>zalo (x:=c.i) (h:=H) z6gw gi
 have F:=zdlw (gr:=g.l) (t:=t) gi;have w:=z9p7 (gr:=g.l) (t:=t) (l:=c.i.l.take i) (j:=0);rw [y05] at w;have I:=hv.d _ (y06 gi);obtain ⟨y,hy⟩ : ∃ y,c.i.l[i]=y:=⟨_,rfl⟩;rw [hy] at C F I;obtain ⟨L,J⟩ : ∃ L,ze9z (c.i.l.take i) 0 g.l t=L:=⟨_,rfl⟩;rw [J] at F w ⊢;have r:=z1pi (A:=[.cells (clC c)]) (L:=L) (y:=y.id) V (by omega)
 obtain ⟨H,o⟩ : ∃ H,[AObj.cells (clC c)]++oT inI L=H:=⟨_,rfl⟩;have u:=O L;have hq:=zv6o (k:=1) (K:=1) (f:=inI) (l:=L);have G:Am.below H.length (oV 1 1 L)=true:=by
  rw [← o,y0d]; exact hq
 rw [o] at r u;have T:=zz5t (H:=H) (cs:=inC y) (off:=0) (z9kv y);have W : ∀ h,mk1 (kLt H.length) h g.dv=g.dv:=fun h=>zvft (zkx7 g)
 have X : ∀ h,mk1 (kLt H.length) h (oV 1 1 L)=oV 1 1 L:=fun h=>zd3c G
 have Y : ∀ h,mk1 (kLt H.length) h (c.i.dv 37 inC)=c.i.dv 37 inC:=fun h=>zvft (zcha c.i)
 have Q : ∀ n,Am.below n (c.i.dv 37 inC)=true:=fun n=>z8b8 _ _ (zcha c.i)
 rw [o];simp (disch:=first|omega|simp<;>omega|fail) [-zE,zpde,z213,gi,p];refine yVS8 ?_;simp (disch:=first|omega|simp<;>omega|fail) [-zE];refine zbn1 (z3mo (yVS8 ?_));simp (disch:=first|omega|simp<;>omega|fail) [-zE,C,zisq,zec3];refine zs10 (n0:=0) (H:=H) (cs:=inC y) (t':=[.junk,g.dv,.int .i64 t,.junk,.junk,.junk,.junk,oV 1 1 L,.int .i64 i,.ref (inC y),.junk,.junk,c.i.dv 37 inC,.int .i64 c.i.l.length,.int .i64 i]++js 34) u (y03 _) ?_ (by simp (disch:=first|omega|simp<;>omega|fail) [-zE,belowL,Am.below,G,Q,zmq5 _ _ (z9kv y)]) ?_
 ·rw [z6gw,y09] at T;simp (disch:=first|omega|simp<;>omega|fail) [-zE,T,W,X,Y,-z1bt,-zdpe]
 have a : ∀ v,g.l.getD i 0=v→ok64 v→0≤y.den→¬ y.state=3→cEla [.int .i64 y.den,.int .i64 v,.int .i64 t]=some (.bool (z9hf y (g.l.getD i 0) t)):=fun v hv1 hv2 h2 h1=>by
  rw [hv1,zlm0 ⟨h2,I⟩ hv2 hv.t];simp [z9hf,h1,h2]
 obtain ⟨b,z⟩ : ∃ b,z9hf y (g.l.getD i 0) t=b:=⟨_,rfl⟩;rw [z] at F a;have m:b=false→ze9z (c.i.l.take (i+1)) 0 g.l t=L:=fun e=>by rw [F,e]; simp
 have E:b=true→ze9z (c.i.l.take (i+1)) 0 g.l t=L++[y.id]:=fun e=>by rw [F,e]; simp
 refine yVS8 ?_;simp (disch:=first|omega|simp<;>omega|fail) [-zE];refine yVS8 ?_;have s:=ziny H g;by_cases gx:i<g.l.length
 ·have q:(i:Int)<g.l.length:=by omega
  have B:=fun H=>z74y H g gx
  have a:=a g.l[i] (by simp [y0b,gx]) (hv.g _ (y06 gx))
  obtain ⟨v,S⟩ : ∃ v,g.l[i]=v:=⟨_,rfl⟩;rw [S] at B a;simp (disch:=first|omega|simp<;>omega|fail) [-zE,s,gx,q,B];refine zbn1 (V_W mix z8f4 ?_);by_cases h1:y.state=3
  ·have e:=m (by rw [← z]; simp [z9hf,h1])
   simp (disch:=first|omega|simp<;>omega|fail) [-zE,zvh3,h1];refine yVW8 ?_;simp (disch:=first|omega|simp<;>omega|fail) [-zE];refine yVW8 ?_;simp (disch:=first|omega|simp<;>omega|fail) [-zE];exact ⟨i+1,yWS (by simp [-zE,zhxq,z213,e,← o]),by omega,by omega⟩
  by_cases h2:0≤y.den
  case neg =>
   have e:=m (by rw [← z]; simp [z9hf,h2])
   simp (disch:=first|omega|simp<;>omega|fail) [-zE,zvh3,h1,z0hu,h2];refine yVW8 ?_;simp (disch:=first|omega|simp<;>omega|fail) [-zE];refine yVW8 ?_;simp (disch:=first|omega|simp<;>omega|fail) [-zE];exact ⟨i+1,yWS (by simp [-zE,zhxq,z213,e,← o]),by omega,by omega⟩
  have a:=a h2 h1;cases b with
  | false =>
   have e:=m rfl;simp (disch:=first|omega|simp<;>omega|fail) [-zE,zvh3,h1,z0hu,h2,z474,a];refine yVW8 ?_;simp (disch:=first|omega|simp<;>omega|fail) [-zE];refine yVW8 ?_;simp (disch:=first|omega|simp<;>omega|fail) [-zE];exact ⟨i+1,yWS (by simp [-zE,zhxq,z213,e,← o]),by omega,by omega⟩
  | true =>
   have e:=E rfl;simp (disch:=first|omega|simp<;>omega|fail) [-zE,zvh3,h1,z0hu,h2,z474,a];refine yVW8 ?_;simp (disch:=first|omega|simp<;>omega|fail) [-zE,zgz3,r];refine yVW8 ?_;simp (disch:=first|omega|simp<;>omega|fail) [-zE];exact ⟨i+1,yWS (by simp [-zE,zhxq,z213,e]),by omega,by omega⟩
 ·have q:¬ (i:Int)<g.l.length:=by omega
  have a:=a 0 (by rw [y0b,y08 (by omega)]; rfl) ⟨by decide,by decide⟩
  simp (disch:=first|omega|simp<;>omega|fail) [-zE,s,gx,q];refine zbn1 (V_W mix z8f4 ?_);by_cases h1:y.state=3
  ·have e:=m (by rw [← z]; simp [z9hf,h1])
   simp (disch:=first|omega|simp<;>omega|fail) [-zE,zvh3,h1];refine yVW8 ?_;simp (disch:=first|omega|simp<;>omega|fail) [-zE];refine yVW8 ?_;simp (disch:=first|omega|simp<;>omega|fail) [-zE];exact ⟨i+1,yWS (by simp [-zE,zhxq,z213,e,← o]),by omega,by omega⟩
  by_cases h2:0≤y.den
  case neg =>
   have e:=m (by rw [← z]; simp [z9hf,h2])
   simp (disch:=first|omega|simp<;>omega|fail) [-zE,zvh3,h1,z0hu,h2];refine yVW8 ?_;simp (disch:=first|omega|simp<;>omega|fail) [-zE];refine yVW8 ?_;simp (disch:=first|omega|simp<;>omega|fail) [-zE];exact ⟨i+1,yWS (by simp [-zE,zhxq,z213,e,← o]),by omega,by omega⟩
  have a:=a h2 h1;cases b with
  | false =>
   have e:=m rfl;simp (disch:=first|omega|simp<;>omega|fail) [-zE,zvh3,h1,z0hu,h2,z474,a];refine yVW8 ?_;simp (disch:=first|omega|simp<;>omega|fail) [-zE];refine yVW8 ?_;simp (disch:=first|omega|simp<;>omega|fail) [-zE];exact ⟨i+1,yWS (by simp [-zE,zhxq,z213,e,← o]),by omega,by omega⟩
  | true =>
   have e:=E rfl;simp (disch:=first|omega|simp<;>omega|fail) [-zE,zvh3,h1,z0hu,h2,z474,a];refine yVW8 ?_;simp (disch:=first|omega|simp<;>omega|fail) [-zE,zgz3,r];refine yVW8 ?_;simp (disch:=first|omega|simp<;>omega|fail) [-zE];exact ⟨i+1,yWS (by simp [-zE,zhxq,z213,e]),by omega,by omega⟩
theorem z4bn (hv:OvR (c,g,t)):Am.Sem P 32 [.agg (clC c),g.dv,.int .i64 t] (liV (ze9z c.i.l 0 g.l t)):=by
 refine znz9 Tryz.func32 zvrg ?_;have J : ∀ H,lenD H (c.i.dv 37 inC)=some (.int .i64 c.i.l.length):=fun H=>zupj
 have a0:=c.i.b;have hA:[AObj.cells (clC c)].length=1:=rfl;have hO : ∀ X,objV ([AObj.cells (clC c)]++X) 0 3=some (clC c):=fun X=>rfl
 refine yVS8 ?_;simp (disch:=first|omega|simp<;>omega|fail) [-zE,a32];refine yVS8 ?_;simp (disch:=first|omega|simp<;>omega|fail) [-zE];refine zbn1 (yVS8 ?_);simp (disch:=first|omega|simp<;>omega|fail) [-zE];have h0:ze9z [] 0 g.l t=[]:=rfl;have V : ∀ L:List Int,zlf2 ([AObj.cells (clC c)]++oT inI L).length ([AObj.cells (clC c)]++oT inI L)=true:=fun L=>zrlz (by simp only [zlf2,zmq5 _ _ (zy11 c),y07]) (zd81 zyj0)
 refine z3mo (ztbr (zb66 c g t) (fun i=>c.i.l.length-i) (fun i=>i≤c.i.l.length) 0 (z515 (by simp (disch:=first|omega|simp<;>omega|fail) [-zE,zb66,z8ja,h0,zl8p]) (by simp (disch:=first|omega|simp<;>omega|fail) [-zE,zb66,z8ja,h0,zkrk])) (y03 _) (fun i hi => ?_))
 simp only [zb66];have m:=hO (oT inI (ze9z (c.i.l.take i) 0 g.l t));refine yVS8 ?_;by_cases gi:i<c.i.l.length
 case neg =>
  have q:¬ (i:Int)<c.i.l.length:=by omega
  rw [y01 (by omega)] at m ⊢
  obtain ⟨L,U⟩ : ∃ L,ze9z c.i.l 0 g.l t=L:=⟨_,rfl⟩;rw [U] at m ⊢;have N:=zxjm (H:=[AObj.cells (clC c)]) (L:=L);rw [hA,y0u] at N;simp (disch:=first|omega|simp<;>omega|fail) [-zE,zx0e,z8ja,m,zxyh,J,gi,q];refine z0em (n0:=0) (H:=[.cells (clC c)]) (R:=oT inI L) (t':=js 7++[liV L]++js 50) (by simp only [zlf2,zmq5 _ _ (zy11 c),y07]) (y03 _) ?_ (by simp (disch:=first|omega|simp<;>omega|fail) [-zE,belowL,Am.below,z8b8 _ _ (z4yh L)]) ?_
  ·simp (disch:=first|omega|simp<;>omega|fail) [-zE,N,-z1bt,-zdpe]
  refine yVS8 ?_;simp (disch:=first|omega|simp<;>omega|fail) [-zE];refine yVW8 ?_;simp (disch:=first|omega|simp<;>omega|fail) [-zE,a32,z6nl (z4yh L)]
 have q:(i:Int)<c.i.l.length:=by omega
 have G:=fun H=>zalo (x:=c.i) (h:=H) z6gw gi
 have Q:=zdlw (gr:=g.l) (t:=t) gi;have D:=z9p7 (gr:=g.l) (t:=t) (l:=c.i.l.take i) (j:=0);rw [y05] at D;obtain ⟨Y,d1⟩:=hv.o.d _ (y06 gi);obtain ⟨t0,t1⟩:=hv.o.t;have T:=hv.s _ (y06 gi);simp only at Y d1 t0 t1 T;obtain ⟨y,hy⟩ : ∃ y,c.i.l[i]=y:=⟨_,rfl⟩;rw [hy] at G Q Y d1 T;obtain ⟨L,U⟩ : ∃ L,ze9z (c.i.l.take i) 0 g.l t=L:=⟨_,rfl⟩;rw [U] at Q D m ⊢;have u:=z1pi (A:=[.cells (clC c)]) (L:=L) (y:=y.id) hA (by omega)
 obtain ⟨H,p⟩ : ∃ H,[AObj.cells (clC c)]++oT inI L=H:=⟨_,rfl⟩;have B:=V L;have hq:=zv6o (k:=1) (K:=1) (f:=inI) (l:=L);have S:Am.below H.length (oV 1 1 L)=true:=by
  rw [← p,y0d]; exact hq
 have C:0<H.length:=by rw [← p]; simp
 rw [p] at u B m;have Z:=zz5t (H:=H) (cs:=inC y) (off:=0) (z9kv y);have e1 : ∀ h,mk1 (kLt H.length) h g.dv=g.dv:=fun h=>zvft (zkx7 g)
 have e2 : ∀ h,mk1 (kLt H.length) h (oV 1 1 L)=oV 1 1 L:=fun h=>zd3c S
 have e3 : ∀ h,mk1 (kLt H.length) h (.mp 0 3 0) = .mp 0 3 0:=fun h=>zd3c (by simp only [Am.below,decide_eq_true_eq]; exact C)
 rw [p];simp (disch:=first|omega|simp<;>omega|fail) [-zE,zx0e,z8ja,m,zxyh,J,gi,q];refine zbn1 (z3mo (yVS8 ?_));simp (disch:=first|omega|simp<;>omega|fail) [-zE,m,zxyh,G,zisq,zec3];refine zs10 (n0:=0) (H:=H) (cs:=inC y) (t':=[.junk,g.dv,.int .i64 t,.mp 0 3 0,.junk,.junk,.junk,oV 1 1 L,.int .i64 i,.ref (inC y),.int .i64 0]++js 47) B (y03 _) ?_ (by simp (disch:=first|omega|simp<;>omega|fail) [-zE,belowL,Am.below,S,C,zmq5 _ _ (z9kv y)]) ?_
 ·rw [z6gw,y09] at Z;simp (disch:=first|omega|simp<;>omega|fail) [-zE,Z,e1,e2,e3,-z1bt,-zdpe]
 have a : ∀ v,g.l.getD i 0=v→0≤y.den→¬ y.state=3→decide (v≤t-y.den)=z9hf y (g.l.getD i 0) t:=fun v hv1 h2 h1=>by
  rw [hv1];simp [z9hf,h1,h2]
 obtain ⟨b,E⟩ : ∃ b,z9hf y (g.l.getD i 0) t=b:=⟨_,rfl⟩;rw [E] at Q a;have n:b=false→ze9z (c.i.l.take (i+1)) 0 g.l t=L:=fun e=>by rw [Q,e]; simp
 have O:b=true→ze9z (c.i.l.take (i+1)) 0 g.l t=L++[y.id]:=fun e=>by rw [Q,e]; simp
 refine yVS8 ?_;have I:=ziny H g;by_cases gx:i<g.l.length
 ·have r:(i:Int)<g.l.length:=by omega
  have F:=fun H=>z74y H g gx
  have a:=a g.l[i] (by simp [y0b,gx])
  obtain ⟨v,W⟩ : ∃ v,g.l[i]=v:=⟨_,rfl⟩;rw [W] at F a;simp (disch:=first|omega|simp<;>omega|fail) [-zE,I,gx,r,F];refine yVS8 ?_;have z:y.state=1∨y.state=2∨y.state=3:=by omega
  rcases z with h1|h1|h1
  case inr.inr =>
   have e:=n (by rw [← E]; simp [z9hf,h1])
   simp (disch:=first|omega|simp<;>omega|fail) [-zE,zvh3,h1];refine yVW8 ?_;simp (disch:=first|omega|simp<;>omega|fail) [-zE];refine yVW8 ?_;simp (disch:=first|omega|simp<;>omega|fail) [-zE];exact ⟨i+1,yWS (by simp [-zE,zb66,z8ja,e,← p]),by omega,by omega⟩
  all_goals
   by_cases h2:0≤y.den
   case neg =>
    have e:=n (by rw [← E]; simp [z9hf,h2])
    simp (disch:=first|omega|simp<;>omega|fail) [-zE,zvh3,h1,z0hu,h2];refine yVW8 ?_;simp (disch:=first|omega|simp<;>omega|fail) [-zE];refine yVW8 ?_;simp (disch:=first|omega|simp<;>omega|fail) [-zE];exact ⟨i+1,yWS (by simp [-zE,zb66,z8ja,e,← p]),by omega,by omega⟩
   have a:=a h2 (by omega)
   cases b with
   | false =>
    have e:=n rfl;have a:=of_decide_eq_false a;simp (disch:=first|omega|simp<;>omega|fail) [-zE,zvh3,h1,z0hu,h2,a];refine yVW8 ?_;simp (disch:=first|omega|simp<;>omega|fail) [-zE];refine yVW8 ?_;simp (disch:=first|omega|simp<;>omega|fail) [-zE];exact ⟨i+1,yWS (by simp [-zE,zb66,z8ja,e,← p]),by omega,by omega⟩
   | true =>
    have e:=O rfl;have a:=of_decide_eq_true a;simp (disch:=first|omega|simp<;>omega|fail) [-zE,zvh3,h1,z0hu,h2,a];refine yVW8 ?_;simp (disch:=first|omega|simp<;>omega|fail) [-zE,zgz3,u];refine yVW8 ?_;simp (disch:=first|omega|simp<;>omega|fail) [-zE];exact ⟨i+1,yWS (by simp [-zE,zb66,z8ja,e]),by omega,by omega⟩
 ·have r:¬ (i:Int)<g.l.length:=by omega
  have a:=a 0 (by rw [y0b,y08 (by omega)]; rfl)
  simp (disch:=first|omega|simp<;>omega|fail) [-zE,I,gx,r];refine yVS8 ?_;have z:y.state=1∨y.state=2∨y.state=3:=by omega
  rcases z with h1|h1|h1
  case inr.inr =>
   have e:=n (by rw [← E]; simp [z9hf,h1])
   simp (disch:=first|omega|simp<;>omega|fail) [-zE,zvh3,h1];refine yVW8 ?_;simp (disch:=first|omega|simp<;>omega|fail) [-zE];refine yVW8 ?_;simp (disch:=first|omega|simp<;>omega|fail) [-zE];exact ⟨i+1,yWS (by simp [-zE,zb66,z8ja,e,← p]),by omega,by omega⟩
  all_goals
   by_cases h2:0≤y.den
   case neg =>
    have e:=n (by rw [← E]; simp [z9hf,h2])
    simp (disch:=first|omega|simp<;>omega|fail) [-zE,zvh3,h1,z0hu,h2];refine yVW8 ?_;simp (disch:=first|omega|simp<;>omega|fail) [-zE];refine yVW8 ?_;simp (disch:=first|omega|simp<;>omega|fail) [-zE];exact ⟨i+1,yWS (by simp [-zE,zb66,z8ja,e,← p]),by omega,by omega⟩
   have a:=a h2 (by omega)
   cases b with
   | false =>
    have e:=n rfl;have a:=of_decide_eq_false a;have w:¬ y.den≤t:=by omega
    simp (disch:=first|omega|simp<;>omega|fail) [-zE,zvh3,h1,z0hu,h2,a,w];refine yVW8 ?_;simp (disch:=first|omega|simp<;>omega|fail) [-zE];refine yVW8 ?_;simp (disch:=first|omega|simp<;>omega|fail) [-zE];exact ⟨i+1,yWS (by simp [-zE,zb66,z8ja,e,← p]),by omega,by omega⟩
   | true =>
    have e:=O rfl;have a:=of_decide_eq_true a;have w:y.den≤t:=by omega
    simp (disch:=first|omega|simp<;>omega|fail) [-zE,zvh3,h1,z0hu,h2,a,w];refine yVW8 ?_;simp (disch:=first|omega|simp<;>omega|fail) [-zE,zgz3,u];refine yVW8 ?_;simp (disch:=first|omega|simp<;>omega|fail) [-zE];exact ⟨i+1,yWS (by simp [-zE,zb66,z8ja,e]),by omega,by omega⟩
end
theorem z43p:(Con.pure zrio).Sound P 54:=z2au fun a h=>znws a.1 a.2.1 a.2.2 h
theorem z60y:(Con.pure z5kd).Sound P 32:=z2au fun a h=>z4bn a.1 a.2.1 a.2.2 h
end
section
def cmV (o:List Cmd):DV:=if o=[] then .nils else .sl false 34 o.length (o.flatMap cmC)
theorem zjem {o:List Cmd} (h:o≠[]):cmV o = .sl false 34 o.length (o.flatMap cmC):=if_neg h
theorem zx70 (o:List Cmd):zyp8 (cmV o)=true:=by
 unfold cmV;split
 ·rfl
 ·simp only [zyp8]; exact zp6k zoyx o
def frE (c:Clu) (x:Idx) (tr:Sl Tri) (t:Int) (R:List DV) (hR:zbao R=true):EF:=⟨[.cells (clC c),.cells (xiC x),.cells R],fun n _=>by simp only [zlf2,zmq5 _ _ (zy11 c),zmq5 _ _ (zqx0 x),zmq5 _ _ hR,y07],.int .i64 x.at_,x.e.dv 105 ixC,tr.dv 35 trC,rfl,zvdj x.e,zm7q tr,t⟩
noncomputable def ze6v (c:Clu) (k:Nat):Int:=match c.g.l[k]? with
 | some g=>g.want
 | none=>0
noncomputable def rndS (tr:List Tri) (ix:List Ixe) (t:Int) (c:Clu):Nat→Rnd→Rnd
 | 0,s=>s
 | k+1,s=>grpS tr ix t k (ze6v c k) (rndS tr ix t c k s)
noncomputable def rnd0 (gr:List Int) (t:Int) (c:Clu):Rnd:=(ze9z c.i.l 0 gr t).foldl (zyao t) ⟨c.clone,[]⟩
noncomputable def rndP (tr:List Tri) (ix:List Ixe) (gr:List Int) (t:Int) (c:Clu):Rnd:=rndS tr ix t c c.g.l.length (rnd0 gr t c)
structure RdA where
 c:Clu
 x:Idx
 tr:Sl Tri
 gr:Nl
 t:Int
structure RdOK (a:RdA):Prop where
 ch:ChOK a.x a.tr
 ov:OvOK (a.c,a.gr,a.t)
 hi:a.c.i.l.length≤200
 gp : ∀ k,k<a.c.g.l.length→GrOK a.t (rndS a.tr.l a.x.e.l a.t a.c k (rnd0 a.gr.l a.t a.c)) k (ze6v a.c k)
def rdV (s:Rnd):DV := .tup [.agg (clC s.c),cmV s.o]
noncomputable def zwub:Tbl:=addT 52 (.pure cEvc) (addT 54 (.pure zrio) tbl0)
theorem zm45:zwub 52 = .pure cEvc:=by simp [zwub]
theorem z4nh:zwub 54 = .pure zrio:=by simp [zwub]
theorem z6bs:zwub.Sound P:=z0rp znvc (z0rp z43p zr5o)
section
variable {c:Clu} {x:Idx} {tr:Sl Tri} {t:Int} {R:List DV} {hR:zbao R=true}
theorem zwlr {s:Rnd}:objV ((frE c x tr t R hR).H s) 0 3=some (clC c):=rfl
theorem zq2g {s:Rnd} (h3:R.length=3):objV ((frE c x tr t R hR).H s) 2 3=some R:=by
 show (if R.length=3 then some R else none)=some R
 rw [if_pos h3]
theorem zuvu {s:Rnd}:mk1 (kLt 0) ((frE c x tr t R hR).H s) (oV 4 34 s.o)=cmV s.o:=by
 by_cases e:s.o=[]
 ·rw [e]; exact zhx5
 ·rw [zpni e,zjem e];refine zwy6 ?_;rw [zi9r,if_neg (by simp [kLt])]
  have b:objV ((frE c x tr t R hR).H s) 4 (s.o.length*34)=some (fl cmC s.o):=by
   have a:(frE c x tr t R hR).H s=[.cells (clC c),.cells (xiC x),.cells R,.cells ((frE c x tr t R hR).rd s.c (oV 4 34 s.o)),.cells (fl cmC s.o)]:=by
    unfold EF.H EF.G;rw [zu2l e]; rfl
   rw [a];simp [objV,ziu0,z8lx zfq1]
  rw [b,y0m,y09];have d:(fl cmC s.o).take (s.o.length*34)=s.o.flatMap cmC:=y01 (by rw [z8lx zfq1]; omega)
  rw [d,zl6f (zp6k zoyx s.o)]; rfl
end
theorem zuzx {c:Clu} {x:Idx} {tr:Sl Tri} {t:Int}:zvnk [.nils,.nils,.int .i64 0,.int .i64 0,.nils,.nils,.int .i64 0,.nils] [(0,3,.agg (clC c)),(3,2,.agg (xiC x)),(5,1,tr.dv 35 trC),(6,1,.int .i64 t)]=some (.agg [c.g.dv 6 grC,c.i.dv 37 inC,.int .i64 c.next,.int .i64 x.at_,x.e.dv 105 ixC,tr.dv 35 trC,.int .i64 t,.nils]):=by
 obtain ⟨k,l,h,b⟩:=tr;cases k with
 | none =>
  simp only [Sl.dv,zbpn];simp [zvnk,zi03,zk7y,DV.known,DV.cells,clC,xiC,Sl.dv]
 | some b =>
  simp only [Sl.dv,zip4];simp [zvnk,zi03,zk7y,DV.known,DV.cells,clC,xiC,Sl.dv]
noncomputable def zo1m (F:EF) (c:Clu) (x:Idx) (tr:Sl Tri) (s:Rnd) (i:Nat):St:=z3xo (.mp 2 3 0) (.mp 3 8 0) (.int .i64 c.g.l.length) (.int .i64 i) (F.H (rndS tr.l x.e.l F.t c i s))
theorem z81i (a:RdA) (q:RdOK a):Am.Sem P 25 [.agg (clC a.c),.agg (xiC a.x),a.tr.dv 35 trC,a.gr.dv,.int .i64 a.t] (rdV (rndP a.tr.l a.x.e.l a.gr.l a.t a.c)):=by
 refine znz9 Tryz.func25 zgum ?_;obtain ⟨ch,ov,hi,B⟩:=q;obtain ⟨c,x,f,gr,t⟩:=a;simp only at ch ov hi B ⊢;have W:zbao [DV.nils,.nils,.int .i64 0]=true:=rfl;have J:=zqx0 x;have b6:=zm7q f;have b5:=zkx7 gr;obtain ⟨F,w⟩ : ∃ F,frE c x f t [.nils,.nils,.int .i64 0] W=F:=⟨_,rfl⟩;have U:[AObj.cells (clC c),.cells (xiC x),.cells [.nils,.nils,.int .i64 0],.cells [c.clone.g.dv 6 grC,c.clone.i.dv 37 inC,.int .i64 c.clone.next,.int .i64 x.at_,x.e.dv 105 ixC,f.dv 35 trC,.int .i64 t,.nils]]=F.H ⟨c.clone,[]⟩:=by rw [← w]; rfl
 have T:EFX F x f:=by rw [← w]; exact ⟨rfl,rfl,rfl,ch⟩
 have y:F.t=t:=by rw [← w]; rfl
 have p:F.b=3:=by rw [← w]; rfl
 have E : ∀ s,objV (F.H s) 0 3=some (clC c):=fun s=>by rw [← w]; exact zwlr
 have b8:clC c.clone=[c.clone.g.dv 6 grC,c.clone.i.dv 37 inC,.int .i64 c.clone.next]:=rfl;have c0:xiC x=[.int .i64 x.at_,x.e.dv 105 ixC]:=rfl;have z:oneC 3 true (clC c)=some (.agg (clC c)):=rfl;have b4:oneC 2 true (xiC x)=some (.agg (xiC x)):=rfl;have a0:oneC 1 false (clC c)=some (c.g.dv 6 grC):=rfl;have Z : ∀ H,lenD H (c.g.dv 6 grC)=some (.int .i64 c.g.l.length):=fun H=>zupj
 have I:(xiC x).length=2:=rfl;have X:zvnk [.nils,.nils,.int .i64 0,.int .i64 0,.nils,.nils,.int .i64 0,.nils] [(0,3,.agg (clC c.clone)),(3,2,.agg (xiC x)),(5,1,f.dv 35 trC),(6,1,.int .i64 t)]=some (.agg [c.clone.g.dv 6 grC,c.clone.i.dv 37 inC,.int .i64 c.clone.next,.int .i64 x.at_,x.e.dv 105 ixC,f.dv 35 trC,.int .i64 t,.nils]):=zuzx;refine yVS8 ?_;simp (disch:=first|omega|simp<;>omega|fail) [-zE,a25,zy11,J,I];refine zbn1 (V_W mix z6bs ?_);simp (disch:=first|omega|simp<;>omega|fail) [-zE,z,b4,zm45,zewe,zy11,J,b6,I,X,U];have hL:=z9p7 (gr:=gr.l) (t:=t) (l:=c.i.l) (j:=0);have r:=z90w ov;have K:rnd0 gr.l t c=(ze9z c.i.l 0 gr.l t).foldl (zyao F.t) ⟨c.clone,[]⟩:=by rw [y]; rfl
 have N:rndP f.l x.e.l gr.l t c=rndS f.l x.e.l t c c.g.l.length (rnd0 gr.l t c):=rfl;obtain ⟨L,V⟩ : ∃ L,ze9z c.i.l 0 gr.l t=L:=⟨_,rfl⟩;have r:zrio [.agg (clC c),gr.dv,.int .i64 t]=some (liV (ze9z c.i.l 0 gr.l t)):=r;rw [V] at hL r K;have A:=zurr F L ⟨c.clone,[]⟩ (by omega) (by show 0≤90000; omega)
 rw [← K] at A;obtain ⟨m,b7⟩ : ∃ m,rnd0 gr.l t c=m:=⟨_,rfl⟩;rw [b7] at A N B;rw [N];obtain ⟨TA,fA,sA,a1,a2,a3⟩:=exTH z6bs A;have a4:=a3 54 (by decide)
 rw [z4nh] at a4;rw [p] at a2;refine zbn1 (V_W mix sA ?_);simp (disch:=first|omega|simp<;>omega|fail) [-zE,E,z,a1,a2,a4,r,zy11,b5];refine zbn1 (yVS8 ?_);simp (disch:=first|omega|simp<;>omega|fail) [-zE,E,a0,Z];have b9:=c.g.b;have n : ∀ s R' (hR':zbao R'=true),∃ v:EF,v=frE c x f t R' hR'∧(F.H s).set 2 (.cells R')=v.H s:=fun s R' hR'=>⟨_,rfl,by rw [← w]; rfl⟩
 have h2 : ∀ s,objV (F.H s) 2 3=some [.nils,.nils,.int .i64 0]:=fun s=>by rw [← w]; exact zq2g rfl
 have h3 : ∀ s,objV (F.H s) 3 8=some (F.rd s.c (oV 4 34 s.o)):=fun s=>by have:=EF.obj0 (F:=F) (c:=s.c) (q:=oV (F.b+1) 34 s.o) (o:=s.o); rw [p] at this; show objV (F.G s.c (oV (F.b+1) 34 s.o) s.o) 3 8=_; rw [p]; exact this
 have O : ∀ (C:Clu) (h:List AObj) (id:Nat),zy6o h id 3 0 (.agg (clC C)) (some [.nils,.nils,.int .i64 0])=some (.junk,h.set id (.cells (clC C))):=fun C h id=>zfc1 rfl rfl (by simp [clC,z4ja])
 have B : ∀ k,k<c.g.l.length→GrOK F.t (rndS f.l x.e.l F.t c k m) k (ze6v c k):=by rw [y]; exact B
 rw [show rndS f.l x.e.l t c c.g.l.length m=rndS f.l x.e.l F.t c c.g.l.length m by rw [y]]
 refine z3mo (ztbr (zo1m F c x f m) (fun i=>c.g.l.length-i) (fun i=>i≤c.g.l.length) 0 (yWS (by simp [-zE,zo1m,z3xo,rndS])) (y03 _) (fun i hi => ?_))
 simp only [zo1m];have hn:rndS f.l x.e.l F.t c (i+1) m=grpS f.l x.e.l F.t i (ze6v c i) (rndS f.l x.e.l F.t c i m):=rfl;by_cases g:i<c.g.l.length
 case neg =>
  have S:¬ (i:Int)<c.g.l.length:=by omega
  obtain rfl:i=c.g.l.length:=by omega
  obtain ⟨d,u⟩ : ∃ d,rndS f.l x.e.l F.t c c.g.l.length m=d:=⟨_,rfl⟩;rw [u];refine yVS8 ?_;simp (disch:=first|omega|simp<;>omega|fail) [-zE,zr8m,z3xo,g,S];refine yVS8 ?_;simp (disch:=first|omega|simp<;>omega|fail) [-zE];refine yVS8 ?_;obtain ⟨v,D,n⟩:=n d (clC d.c) (zy11 d.c);simp (disch:=first|omega|simp<;>omega|fail) [-zE,h2,h3,EF.one3,EF.one7,O,n,zy11];have hO:objV ([]++v.H d) 2 (clC d.c).length=some (clC d.c):=by rw [D]; exact zq2g rfl
  have e1:mk1 (kLt 0) (v.H d) (.mp 2 3 0) = .ref (clC d.c):=zh5h (H:=[]) (R:=v.H d) (cs:=clC d.c) (cs':=clC d.c) (id:=2) (off:=0) hO (y03 _) (zl6f (zy11 d.c));have e2:mk1 (kLt 0) (v.H d) (oV 4 34 d.o)=cmV d.o:=by rw [D]; exact zuvu
  refine z0em (n0:=0) (H:=[]) (R:=v.H d) (t':=js 10++[.ref (clC d.c),cmV d.o]++js 33) rfl (y03 _) ?_ (by simp (disch:=first|omega|simp<;>omega|fail) [-zE,belowL,Am.below,z8b8 _ _ (zx70 d.o),zmq5 _ _ (zy11 d.c)]) ?_
  ·simp (disch:=first|omega|simp<;>omega|fail) [-zE,e1,e2,-z1bt,-zdpe]
  refine yVW8 ?_;simp (disch:=first|omega|simp<;>omega|fail) [-zE,a25,rdV,z,z6nl (zx70 d.o)]
 have S:(i:Int)<c.g.l.length:=by omega
 have Y:=zyoa F x f T (rndS f.l x.e.l F.t c i m) i (ze6v c i) (B i g);rw [← hn,p] at Y;obtain ⟨d,u⟩ : ∃ d,rndS f.l x.e.l F.t c i m=d:=⟨_,rfl⟩;obtain ⟨s2,Q⟩ : ∃ s2,rndS f.l x.e.l F.t c (i+1) m=s2:=⟨_,rfl⟩;rw [u,Q] at Y;rw [u];obtain ⟨TB,fB,sB,b1,b2,b3⟩:=exTH zr5o Y;refine yVS8 ?_;simp (disch:=first|omega|simp<;>omega|fail) [-zE,zr8m,z3xo,g,S];refine yVS8 ?_;simp (disch:=first|omega|simp<;>omega|fail) [-zE];refine zbn1 (z3mo (yVS8 ?_));simp (disch:=first|omega|simp<;>omega|fail) [-zE];refine V_W mix sB ?_;simp (disch:=first|omega|simp<;>omega|fail) [-zE,b1,b2];refine yVW8 ?_;simp (disch:=first|omega|simp<;>omega|fail) [-zE];refine ⟨i+1,yWS (by simp [-zE,zo1m,z3xo,Q]),by omega,by omega⟩
end
section
set_option maxRecDepth 100000
def unW:List DV→Option (List B8)
 | []=>some []
 | .int .u8 n::r=>if 0≤n∧n<256 then (unW r).map (BitVec.ofInt 8 n :: ·) else none
 | _=>none
theorem zeu2 : ∀ {cs:List DV} {x:List B8},unW cs=some x→cs=x.map w8:=by
 intro cs;induction cs with
 | nil=>intro x h; simp [unW] at h; subst h; rfl
 | cons d r ih =>
  intro x h;unfold unW at h;split at h
  ·rename_i e; cases e
  ·rename_i n r' e
   split at h
   ·rename_i hn
    simp only [List.cons.injEq] at e;obtain ⟨rfl,rfl⟩:=e;obtain ⟨y,c,rfl⟩:=Option.map_eq_some_iff.1 h;rw [y0e,← ih c];have a:((BitVec.ofInt 8 n).toNat:Int)=n:=by rw [BitVec.toNat_ofInt]; simp; omega
    have b:w8 (BitVec.ofInt 8 n) = .int .u8 n:=by unfold w8; rw [a]
    rw [b]
   ·simp at h
  ·simp at h
def bcC:List DV→Option DV
 | [.sl _ 1 n cs,.sl _ 1 m ds]=>match unW cs,unW ds with
  | some x,some y=>if n=x.length∧m=y.length then some (.int .i64 (Lib.compareBytes (u8L x) (u8L y))) else none
  | _,_=>none
 | _=>none
theorem zqer {P:Program} {f:FuncId} (h : ∀ (x y:List B8) (fx fy:Bool),Am.Sem P f [.sl fx 1 x.length (x.map w8),.sl fy 1 y.length (y.map w8)] (.int .i64 (Lib.compareBytes (u8L x) (u8L y)))) : ∀ args v,bcC args=some v→Am.Sem P f args v:=by
 intro args v e;unfold bcC at e;split at e
 ·rename_i f1 n cs f2 m ds
  split at e
  ·rename_i x y hx hy
   split at e
   ·rename_i hl
    obtain ⟨rfl,rfl⟩:=hl;simp at e; subst e;rw [zeu2 hx,zeu2 hy];exact h x y f1 f2
   ·simp at e
  ·simp at e
 ·simp at e
def zwn1:List DV→Option DV
 | [.nils,.int .i64 n]=>if n=0 then some .nils else none
 | _=>none
theorem z6hw : ∀ args v,zwn1 args=some v→Am.Sem P 136 args v:=by
 intro args v e;unfold zwn1 at e;split at e
 ·rename_i n
  split at e
  ·rename_i h0
   subst h0;simp at e; subst e;refine zzfj ((z58y 0 (by decide)).mono fun d h q => ?_)
   rw [q.1,q.2]; rfl
  ·simp at e
 ·simp at e
def evL:List (Nat × AFn):=[(15,a15),(17,a17),(19,a19),(21,a21),(23,a23),(25,a25),(42,a42),(43,a43),(44,a44),(46,a46),(47,a47),(48,a48),(49,a49),(51,a51),(52,a52),(53,a53),(54,a54),(55,a55),(68,a68),(69,a69),(70,a70),(71,a71),(72,a72),(76,a76),(77,a77),(78,a78),(79,a79),(80,a80),(81,a81),(82,a82),(83,a83),(84,a84),(85,a85),(86,a86),(87,a87),(88,a88),(89,a89),(90,a90),(101,a101),(104,a104),(105,a105),(106,a106),(107,a107),(108,a108),(109,a109),(110,a110),(111,a111),(112,a112),(113,a113),(114,a114),(115,a115),(116,a116),(117,a117),(118,a118),(119,a119),(120,a120),(121,a121),(122,a122),(123,a123),(124,a124),(125,a125),(128,a128),(129,a129),(130,a130),(131,a131),(132,a132),(133,a133),(134,a134),(135,a135),(138,a138),(139,a139),(140,a140),(141,a141),(142,a142),(147,a147),(148,a148),(149,a149),(154,a154),(155,a155),(156,a156),(159,a159),(163,a163)]
def evC:List (Nat × (List DV→Option DV)):=[(164,ixbC),(102,bcC),(136,zwn1)]
theorem zz1q:OKL P evL:=⟨⟨_,Tryz.func15,zz37⟩,⟨_,Tryz.func17,zcaf⟩,⟨_,Tryz.func19,zlqi⟩,⟨_,Tryz.func21,zyfb⟩,⟨_,Tryz.func23,ztyx⟩,⟨_,Tryz.func25,zgum⟩,⟨_,Tryz.func42,zl17⟩,⟨_,Tryz.func43,zbv8⟩,⟨_,Tryz.func44,zeo7⟩,⟨_,Tryz.func46,znv1⟩,⟨_,Tryz.func47,zzqr⟩,⟨_,Tryz.func48,zwi2⟩,⟨_,Tryz.func49,zdc4⟩,⟨_,Tryz.func51,z8rx⟩,⟨_,Tryz.func52,zil0⟩,⟨_,Tryz.func53,zq51⟩,⟨_,Tryz.func54,zq4q⟩,⟨_,Tryz.func55,ze8s⟩,⟨_,Tryz.func68,z20i⟩,⟨_,Tryz.func69,z713⟩,⟨_,Tryz.func70,zhcw⟩,⟨_,Tryz.func71,zbtg⟩,⟨_,Tryz.func72,z0xs⟩,⟨_,Tryz.func76,zuum⟩,⟨_,Tryz.func77,z20a⟩,⟨_,Tryz.func78,zetr⟩,⟨_,Tryz.func79,zaq4⟩,⟨_,Tryz.func80,zpfu⟩,⟨_,Tryz.func81,zgev⟩,⟨_,Tryz.func82,zftu⟩,⟨_,Tryz.func83,z6eh⟩,⟨_,Tryz.func84,z3cy⟩,⟨_,Tryz.func85,zu0j⟩,⟨_,Tryz.func86,z2i3⟩,⟨_,Tryz.func87,zfhg⟩,⟨_,Tryz.func88,zqgj⟩,⟨_,Tryz.func89,z42j⟩,⟨_,Tryz.func90,z9pi⟩,⟨_,Tryz.func101,zzmu⟩,⟨_,Tryz.func104,z0mt⟩,⟨_,Tryz.func105,z9rf⟩,⟨_,Tryz.func106,zex6⟩,⟨_,Tryz.func107,z38u⟩,⟨_,Tryz.func108,zh50⟩,⟨_,Tryz.func109,zoj0⟩,⟨_,Tryz.func110,z7w3⟩,⟨_,Tryz.func111,zmlq⟩,⟨_,Tryz.func112,zhnv⟩,⟨_,Tryz.func113,zz1e⟩,⟨_,Tryz.func114,zgcx⟩,⟨_,Tryz.func115,zv17⟩,⟨_,Tryz.func116,z3rp⟩,⟨_,Tryz.func117,zt1q⟩,⟨_,Tryz.func118,zasg⟩,⟨_,Tryz.func119,zaj0⟩,⟨_,Tryz.func120,zrxr⟩,⟨_,Tryz.func121,zfl0⟩,⟨_,Tryz.func122,z2hw⟩,⟨_,Tryz.func123,zw8s⟩,⟨_,Tryz.func124,ze8k⟩,⟨_,Tryz.func125,zdaz⟩,⟨_,Tryz.func128,zv7v⟩,⟨_,Tryz.func129,z1y5⟩,⟨_,Tryz.func130,zndb⟩,⟨_,Tryz.func131,zsra⟩,⟨_,Tryz.func132,zr93⟩,⟨_,Tryz.func133,zl8e⟩,⟨_,Tryz.func134,zccp⟩,⟨_,Tryz.func135,z8cr⟩,⟨_,Tryz.func138,zno0⟩,⟨_,Tryz.func139,zt91⟩,⟨_,Tryz.func140,zvf9⟩,⟨_,Tryz.func141,zjg6⟩,⟨_,Tryz.func142,ztmv⟩,⟨_,Tryz.func147,z5yk⟩,⟨_,Tryz.func148,zy1q⟩,⟨_,Tryz.func149,zdm8⟩,⟨_,Tryz.func154,zmbu⟩,⟨_,Tryz.func155,zvdi⟩,⟨_,Tryz.func156,z9pj⟩,⟨_,Tryz.func159,zp3e⟩,⟨_,Tryz.func163,zzcs⟩,trivial⟩
theorem zvar:OKC P evC:=⟨zk1r fun s c=>zrq5 Tryz.func164 (by kernel_rfl) (by kernel_rfl) (by kernel_rfl) (by kernel_rfl) s c,zqer fun x y fx fy=>zf9q Tryz.func102 (by kernel_rfl) (by kernel_rfl) (by kernel_rfl) (by kernel_rfl) x y fx fy,z6hw,trivial⟩
theorem zbgd:semE evL evC 400 21 []=some (.bool true):=by kernel_rfl
theorem zul1:Am.Sem P 21 [] (.bool true):=z4ur mix zz1q zvar zbgd
end
section
def S660 (x:Sl Dg) (d:Dg) (i:Nat):St:=zudq (x.dv 32 dgC) (.mp 0 32 0) (.int .i64 i) [.cells (dgC d)]
theorem zdpu (x:Sl Dg) (d:Dg):Runs tbl0 a50 [x.dv 32 dgC,.agg (dgC d)] (.bool (decide (d ∈ x.l))):=by
 refine ⟨?_⟩;have n:=x.b;simp (disch:=first|omega|simp<;>omega|fail) [-zE,a50];refine zlm5 (S660 x d) (fun i=>x.l.length-i) (fun i=>i≤x.l.length ∧ ∀ j (a:j<x.l.length),j<i→¬ x.l[j]=d) 0 (yWS (by simp [-zE,S660,zudq])) ⟨by omega,fun j _ a=>by omega⟩ (fun i hi => ?_)
 obtain ⟨m,g⟩:=hi;simp (disch:=first|omega|simp<;>omega|fail) [-zE,z5j4,zudq,S660];by_cases h:i<x.l.length
 ·have f:(i:Int)<x.l.length:=by omega
  have k : ∀ H,zpsc H 32 (x.dv 32 dgC) i=some (.ref (dgC x.l[i])):=fun H=>zalo z1t1 h
  by_cases e:x.l[i]=d
  ·have c:d ∈ x.l:=e▸y06 h;simp (disch:=first|omega|simp<;>omega|fail) [-zE,f,h,k,e,c]
  ·simp (disch:=first|omega|simp<;>omega|fail) [-zE,f,h,k,e];refine ⟨i+1,yWS (by simp [-zE,S660,zudq]),by omega,by omega,fun j a hji => ?_⟩
   by_cases ej:j=i
   ·subst ej; exact e
   ·exact g j a (by omega)
 ·have f:¬ (i:Int)<x.l.length:=by omega
  have c:¬ d ∈ x.l:=fun c=>by
   obtain ⟨j,a,e⟩:=y0a c;exact g j a (by omega) e
  simp (disch:=first|omega|simp<;>omega|fail) [-zE,h,f,c]
noncomputable def cHas:List DV→Option DV:=con (fun _=>True) (fun a:Sl Dg × Dg=>[a.1.dv 32 dgC,.agg (dgC a.2)]) (fun a => .bool (decide (a.2 ∈ a.1.l)))
theorem zqi6 {x:Sl Dg} {d:Dg}:cHas [x.dv 32 dgC,.agg (dgC d)]=some (.bool (decide (d ∈ x.l))) :=
 zsn4 (f:=fun a:Sl Dg × Dg=>[a.1.dv 32 dgC,.agg (dgC a.2)]) (g:=fun a => .bool (decide (a.2 ∈ a.1.l))) (by
  rintro ⟨a,b⟩ ⟨c,d⟩ e;simp only [List.cons.injEq,DV.agg.injEq,and_true] at e;rw [z42k e.1,zib9 e.2]) (x,d)
theorem zi6e:(Con.pure cHas).Sound P 50:=z2au fun a _=>zljw mix zr5o Tryz.func50 z12y (zdpu a.1 a.2)
theorem zgo4 {a b:B8}:a.toNat.toUInt8<b.toNat.toUInt8↔a<b:=by
 have c:=a.isLt;have d:=b.isLt;rw [UInt8.lt_iff_toNat_lt,BitVec.lt_def];simp only [Nat.toUInt8_eq,UInt8.toNat_ofNat',Nat.mod_eq_of_lt c,Nat.mod_eq_of_lt d]
theorem z29k : ∀ (a b:List B8) (i:Nat) (h1:i<a.length) (h2:i<b.length),(∀ j (h1:j<a.length) (h2:j<b.length),j<i→a[j]=b[j])→¬ a[i]=b[i]→Op.bytesLess (a.map fun b=>b.toNat.toUInt8) (b.map fun b=>b.toNat.toUInt8)=decide (a[i]<b[i])
 | [],_,_,h1,_,_,_=>by simp at h1
 | _::_,[],_,_,h2,_,_=>by simp at h2
 | x::a,y::b,0,_,_,_,hn=>by
  simp only [y0r] at hn ⊢;have hxy:¬ x.toNat.toUInt8=y.toNat.toUInt8:=fun e=>hn (zvz3 e)
  simp only [y0e,Op.bytesLess,zgo4];simp [hxy,hn]
 | x::a,y::b,i+1,h1,h2,he,hn=>by
  have e0:=he 0 (by simp) (by simp) (by omega)
  simp only [y0r] at e0;subst e0;have:=z29k a b i (by simpa using h1) (by simpa using h2) (fun j p q hj=>he (j+1) (Nat.succ_lt_succ p) (Nat.succ_lt_succ q) (by omega)) (by simpa using hn)
  simp only [y0e,Op.bytesLess,List.getElem_cons_succ,this];simp
theorem zwa6 {a b:Dg} {i:Nat} (hi:i<32) (he : ∀ j (hj:j<32),j<i→a.1[j]'(by rw [a.2]; exact hj)=b.1[j]'(by rw [b.2]; exact hj)) (hn:¬ a.1[i]'(by rw [a.2]; exact hi)=b.1[i]'(by rw [b.2]; exact hi)):dgLt a b=decide (a.1[i]'(by rw [a.2]; exact hi)<b.1[i]'(by rw [b.2]; exact hi)) :=
 z29k a.1 b.1 i _ _ (fun j p q hj=>he j (by rw [a.2] at p; exact p) hj) hn
theorem zz16 {a b:Dg} (he : ∀ j (hj:j<32),a.1[j]'(by rw [a.2]; exact hj)=b.1[j]'(by rw [b.2]; exact hj)):a=b :=
 Subtype.ext (List.ext_getElem (by rw [a.2,b.2]) fun j p q=>he j (by rw [a.2] at p; exact p))
theorem z00n {a:Dg} {i:Nat} (hi:i<32):oneC 1 false ((dgC a).drop i)=some (w8 (a.1[i]'(by rw [a.2]; exact hi))):=by
 have b:i<(dgC a).length:=by rw [z1t1]; exact hi
 rw [List.drop_eq_getElem_cons b];simp [oneC,dgC]
def S661 (a b:Dg) (i:Nat):St:=zu12 (.mp 0 32 0) (.mp 1 32 0) (.int .i64 i) [.cells (dgC a),.cells (dgC b)]
theorem zy8c (a b:Dg):Runs tbl0 a75 [.agg (dgC a),.agg (dgC b)] (.bool (dgLt a b)):=by
 refine ⟨?_⟩;simp (disch:=first|omega|simp<;>omega|fail) [-zE,a75];refine zlm5 (S661 a b) (fun i=>32-i) (fun i=>i≤32 ∧ ∀ j (hj:j<32),j<i→a.1[j]'(by rw [a.2]; exact hj)=b.1[j]'(by rw [b.2]; exact hj)) 0 (yWS (by simp [-zE,S661,zu12])) ⟨by omega,fun j _ hj=>by omega⟩ (fun i hi => ?_)
 obtain ⟨s,k⟩:=hi;simp only [S661];by_cases h:i<32
 ·have d:(i:Int)<32:=by omega
  have f:=z00n (a:=a) h;have l:=z00n (a:=b) h;have m:=z1t1 a;have n:=z1t1 b;by_cases e:a.1[i]'(by rw [a.2]; exact h)=b.1[i]'(by rw [b.2]; exact h)
  ·rw [e] at f;simp (disch:=first|omega|simp<;>omega|fail) [-zE,zjzl,zu12,h,d,f,l,m,n];refine ⟨i+1,yWS (by simp [-zE,S661,zu12]),by omega,by omega,fun j hj hji => ?_⟩
   by_cases ej:j=i
   ·subst ej; exact e
   ·exact k j hj (by omega)
  ·have c:=zwa6 h k e;obtain ⟨u,q⟩ : ∃ u,a.1[i]'(by rw [a.2]; exact h)=u:=⟨_,rfl⟩
   obtain ⟨v,r⟩ : ∃ v,b.1[i]'(by rw [b.2]; exact h)=v:=⟨_,rfl⟩
   rw [q] at f e c;rw [r] at l e c;have o:(u == v)=false:=by simp [e]
   have g:(u != v)=true:=by simp [e]
   simp (disch:=first|omega|simp<;>omega|fail) [-zE,zjzl,zu12,h,d,f,l,e,o,g,c,m,n]
 ·have d:¬ (i:Int)<32:=by omega
  have p:a=b:=zz16 fun j hj=>k j hj (by omega)
  have c:dgLt a b=false:=by rw [p]; exact zc3a.irr b
  simp (disch:=first|omega|simp<;>omega|fail) [-zE,zjzl,zu12,h,d,c]
noncomputable def zta3:List DV→Option DV:=con (fun _=>True) (fun a:Dg × Dg=>[.agg (dgC a.1),.agg (dgC a.2)]) (fun a => .bool (dgLt a.1 a.2))
theorem z577 {a b:Dg}:zta3 [.agg (dgC a),.agg (dgC b)]=some (.bool (dgLt a b)) :=
 zsn4 (f:=fun a:Dg × Dg=>[.agg (dgC a.1),.agg (dgC a.2)]) (g:=fun a => .bool (dgLt a.1 a.2)) (by
  rintro ⟨a,b⟩ ⟨c,d⟩ e;simp only [List.cons.injEq,DV.agg.injEq,and_true] at e;rw [zib9 e.1,zib9 e.2]) (a,b)
theorem zp63:(Con.pure zta3).Sound P 75:=z2au fun a _=>zljw mix zr5o Tryz.func75 zrvd (zy8c a.1 a.2)
end
section
def lsP (a b:Rqs):Bool:=if a.ns=b.ns then (if a.im=b.im then dgLt a.art b.art else Op.bytesLess a.im b.im) else Op.bytesLess a.ns b.ns
noncomputable def zj8s:Tbl:=addT 75 (.pure zta3) tbl0
theorem zkv1:zj8s 75 = .pure zta3:=by simp [zj8s]
theorem zb6d:zj8s.Sound P:=z0rp zp63 zr5o
theorem zvpk (x:Rqs):oneC 32 true ((rqC x).drop 2)=some (.agg (dgC x.art)):=by
 have h:(rqC x).drop 2=dgC x.art:=rfl;rw [h]; simp [oneC,z1t1,y01]
theorem zmwt (a b:Rqs):Runs zj8s a100 [.agg (rqC a),.agg (rqC b)] (.bool (lsP a b)):=by
 refine ⟨?_⟩;have c : ∀ h (x:Rqs),boxD h (.agg (rqC x))=some (.mp h.length 34 0,h++[.cells (rqC x)]):=fun h x=>by rw [zn72,zzeg]
 unfold lsP;by_cases e1:a.ns=b.ns
 ·by_cases e2:a.im=b.im
  ·simp (disch:=first|omega|simp<;>omega|fail) [-zE,a100,c,zzeg,z8s0,zonr,zvpk,e1,e2,zkv1,z577,z3ot]
  ·simp (disch:=first|omega|simp<;>omega|fail) [-zE,a100,c,zzeg,z8s0,zonr,zvpk,e1,e2]
 ·simp (disch:=first|omega|simp<;>omega|fail) [-zE,a100,c,zzeg,z8s0,zonr,zvpk,e1]
noncomputable def cLes:List DV→Option DV:=con (fun _=>True) (fun a:Rqs × Rqs=>[.agg (rqC a.1),.agg (rqC a.2)]) (fun a => .bool (lsP a.1 a.2))
theorem zl2q {a b:Rqs}:cLes [.agg (rqC a),.agg (rqC b)]=some (.bool (lsP a b)) :=
 zsn4 (f:=fun a:Rqs × Rqs=>[.agg (rqC a.1),.agg (rqC a.2)]) (g:=fun a => .bool (lsP a.1 a.2)) (by
  rintro ⟨a,b⟩ ⟨c,d⟩ e;simp only [List.cons.injEq,DV.agg.injEq,and_true] at e;rw [z82b e.1,z82b e.2]) (a,b)
noncomputable def z9sr:Tbl:=addT 100 (.pure cLes) tbl0
theorem zxqk:z9sr 100 = .pure cLes:=by simp [z9sr]
theorem zbxv:z9sr.Sound P:=z0rp (z2au fun a _=>zljw mix zb6d Tryz.func100 zec4 (zmwt a.1 a.2)) zr5o
theorem zaif {a b:Rqs}:lsP a b=decide (or3I (zavf a.ns b.ns) (zavf a.im b.im) (zsy0 a.art b.art)<0):=by
 unfold lsP or3I;by_cases e1:a.ns=b.ns
 ·rw [if_pos e1,if_pos (zmen.2 e1)];by_cases e2:a.im=b.im
  ·rw [if_pos e2,if_pos (zmen.2 e2)];cases h:dgLt a.art b.art with
   | true=>exact (decide_eq_true (zxr9.2 h)).symm
   | false=>exact (decide_eq_false fun q=>by rw [zxr9.1 q] at h; cases h).symm
  ·rw [if_neg e2,if_neg (fun q=>e2 (zmen.1 q))]
   cases h:Op.bytesLess a.im b.im with
   | true=>exact (decide_eq_true (z5ha.2 h)).symm
   | false=>exact (decide_eq_false fun q=>by rw [z5ha.1 q] at h; cases h).symm
 ·rw [if_neg e1,if_neg (fun q=>e1 (zmen.1 q))]
  cases h:Op.bytesLess a.ns b.ns with
  | true=>exact (decide_eq_true (z5ha.2 h)).symm
  | false=>exact (decide_eq_false fun q=>by rw [z5ha.1 q] at h; cases h).symm
def insK (e:Rqs) (l:List Ixe):Nat→Nat
 | 0=>0
 | k+1=>match l[k]? with
  | some y=>if lsP e (ixR y)=true then insK e l k else k+1
  | none=>k+1
def insX (l:List Ixe) (e:Ixe):List Ixe:=l.take (insK (ixR e) l l.length)++([e]++l.drop (insK (ixR e) l l.length))
theorem z13x {e:Rqs} {l:List Ixe} : ∀ k,insK e l k≤k
 | 0=>y02 _
 | k+1=>by
  unfold insK;split
  ·split
   ·have:=z13x (e:=e) (l:=l) k; omega
   ·omega
  ·omega
theorem z16q {l:List Ixe} {e:Ixe}:(insX l e).length=l.length+1:=by
 have:=z13x (e:=ixR e) (l:=l) l.length;simp [insX]; omega
def isV (l:List Ixe):DV:=if l=[] then .nils else .sl false 105 l.length (l.flatMap ixC)
theorem zahc {id ver off k K:Nat} {l:List Ixe} (h:id≠k):z87v (.mp id ver off) (oV k K l)=true:=by
 unfold oV;split
 ·simp [z87v,zi6q]
 ·simp [z87v,zi6q,h]
theorem zch3 {k K:Nat} {Y:Sl Ixe} {l:List Ixe}:z87v (Y.dv 105 ixC) (oV k K l)=true:=by
 obtain ⟨b,m,h,a⟩:=Y;cases b<;>(unfold oV; split<;>simp [z87v,zi6q,Sl.dv,slD])
theorem zhac (x:Ixe):(ixC x).all DV.one=true:=by
 simp only [ixC,ixZ,List.all_cons,List.all_append,zoxk,y0h,y0v];simp
theorem z2nl {a b c:AObj} {L:List Ixe} (hL:L≠[]) {k:Nat}:snap (a::b::c::oT ixC L) (k+1) (oV 3 105 L)=some (isV L):=by
 rw [zpni hL,zu2l hL,zve7];have d:objV (a::b::c::[AObj.cells (fl ixC L)]) 3 (L.length*105)=some (fl ixC L):=by
  simp [objV,ziu0,z8lx zwe8]
 have e:(fl ixC L).take (L.length*105)=L.flatMap ixC:=y01 (by rw [z8lx zwe8]; omega)
 rw [d,y0m,y09,e,z619 (zp6k z0ob L),Option.map_some];unfold isV;rw [if_neg hL]
theorem zxqy (x:Idx) (e:Ixe) (K:Nat) (κ:Int) (hκ:κ=K) (hK:K≤x.e.l.length) (hb:x.e.l.length≤100000) (a b c:AObj) :
  ∃ (Y1 Y2:Sl Ixe) (V1 V2 V3:DV) (X1 X2 X3:List AObj),
   (∀ H,z390 H 105 (x.e.dv 105 ixC) none (some (.int .i64 κ)) none=some (Y1.dv 105 ixC)) ∧
   (∀ H,z390 H 105 (x.e.dv 105 ixC) (some (.int .i64 κ)) none none=some (Y2.dv 105 ixC)) ∧
   (appX [a,b,c] 105 232 .nils Y1.l.length (Y1.l.flatMap ixC)=some (V1,a::b::c::X1)) ∧
   (appX (a::b::c::X1) 105 232 V1 1 (ixC e)=some (V2,a::b::c::X2)) ∧
   (appX (a::b::c::X2) 105 232 V2 Y2.l.length (Y2.l.flatMap ixC)=some (V3,a::b::c::X3)) ∧
   (z87v (.mp 1 105 0) V1=true∧z87v (.mp 0 2 0) V1=true∧z87v (.mp 0 2 1) V1=true∧z87v (x.e.dv 105 ixC) V1=true∧z87v (.mp 0 2 0) V2=true∧z87v (.mp 0 2 1) V2=true∧z87v (x.e.dv 105 ixC) V2=true) ∧
   V3.cells=[V3]∧V3.one=true∧(∀ a' c' k,snap (a'::b::c'::X3) (k+1) V3=some (isV (x.e.l.take K++([e]++x.e.l.drop K)))):=by
 subst hκ;refine ⟨x.e.part 0 K (K == x.e.l.length),x.e.part K x.e.l.length (x.e.l.length == x.e.l.length),oV 3 105 (x.e.l.take K),oV 3 105 (x.e.l.take K++[e]),oV 3 105 (x.e.l.take K++[e]++x.e.l.drop K),oT ixC (x.e.l.take K),oT ixC (x.e.l.take K++[e]),oT ixC (x.e.l.take K++[e]++x.e.l.drop K),fun H=>z0ke zwe8 (by simp [zo77,iD]; omega) hK,fun H=>z0ke zwe8 (by simp [zo77,iD]; omega) (y02 _),?_,?_,?_,?_,zy42,z6jg,?_⟩
 ·have:=z612 (k:=3) (K:=105) (b:=232) (f:=ixC) (l:=[]) (cs:=x.e.l.take K) (h:=[a,b,c]) rfl zwe8 (by decide) (by decide) zhac (by simp; omega)
  simpa [zkrk,zl8p,Sl.part] using this
 ·have:=zte0 (k:=3) (K:=105) (b:=232) (f:=ixC) (l:=x.e.l.take K) (x:=e) (h:=[a,b,c]) rfl zwe8 (by decide) (by decide) zhac (by simp; omega)
  exact this
 ·have:=z612 (k:=3) (K:=105) (b:=232) (f:=ixC) (l:=x.e.l.take K++[e]) (cs:=x.e.l.drop K) (h:=[a,b,c]) rfl zwe8 (by decide) (by decide) zhac (by simp; omega)
  have d:(x.e.part K x.e.l.length (x.e.l.length == x.e.l.length)).l=x.e.l.drop K:=by simp [Sl.part,y01]
  rw [d]; exact this
 ·exact ⟨zahc (by decide),zahc (by decide),zahc (by decide),zch3,zahc (by decide),zahc (by decide),zch3⟩
 ·intro a' c' k;rw [z2nl (by simp)]
  simp
theorem zgih {z:List DV} {x:Ixe} (hz:z.length=105):bslD 105 1 z [(0,105,.agg (ixC x))]=some (.sl true 105 1 (ixC x)):=by
 rw [z7bw (by simp [DV.known]) (by simp [seqD,DV.cells,hz,zwe8])]; simp [seqD,DV.cells,zwe8]
theorem st_e (x:Idx) (V:DV) (h1:V.cells=[V]) (h2:V.one=true) (H:List AObj):zy6o H 0 1 1 V (some (xiC x))=some (.junk,H.set 0 (.cells [.int .i64 x.at_,V])):=by
 rw [Am.storeO_1 h1 h2 (by show 1<2; decide)]; rfl
theorem st_x (n:Int) (V:DV) (h2:V.one=true) (H:List AObj):zy6o H 2 2 0 (.agg [.int .i64 n,V]) (some [.int .i64 0,.nils])=some (.junk,H.set 2 (.cells [.int .i64 n,V])):=zfc1 rfl rfl (by simp [h2])
theorem zy5o (n:Int) (V:DV):oneC 2 true [.int .i64 n,V]=some (.agg [.int .i64 n,V]):=rfl
def z5jo (x:Idx) (e:Ixe) (k:Nat):St:=zbq4 (.mp 0 2 0) (.mp 1 105 0) (.mp 2 2 0) (.int .i64 k) [.cells (xiC x),.cells (ixC e),.cells [.int .i64 0,.nils]]
theorem z6bp (x:Idx) (e:Ixe) (hb:x.e.l.length≤100000):Runs z9sr a67 [.agg (xiC x),.agg (ixC e)] (.agg [.int .i64 x.at_,isV (insX x.e.l e)]):=by
 refine ⟨?_⟩;have E : ∀ h,boxD h (.agg (xiC x))=some (.mp h.length 2 0,h++[.cells (xiC x)]):=fun h=>by rw [zn72]; rfl
 have D : ∀ h (x:Ixe),boxD h (.agg (ixC x))=some (.mp h.length 105 0,h++[.cells (ixC x)]):=fun h x=>by rw [zn72,zwe8]
 have g:(xiC x).length=2:=rfl;have f:oneC 1 false ((xiC x).drop 1)=some (x.e.dv 105 ixC):=rfl;have G : ∀ H,lenD H (x.e.dv 105 ixC)=some (.int .i64 x.e.l.length):=fun H=>zupj
 have d:=fun y=>zwe8 y
 simp (disch:=first|omega|simp<;>omega|fail) [-zE,a67,E,D,f,g,G,d];refine zlm5 (z5jo x e) (fun k=>k) (fun k=>k≤x.e.l.length∧insK (ixR e) x.e.l x.e.l.length=insK (ixR e) x.e.l k) x.e.l.length (yWS (by simp [-zE,z5jo,zbq4])) ⟨y02 _,rfl⟩ (fun k hk => ?_)
 obtain ⟨h1,B⟩:=hk;simp only [z5jo];cases k with
 | zero =>
  obtain ⟨X,Y,S,T,p,U,V,W,t,u,v,w,A,⟨I,J,K,L,N,O,Q⟩,g1,g2,g3⟩:=zxqy x e 0 0 rfl (by omega) hb (.cells (xiC x)) (.cells (ixC e)) (.cells [.int .i64 0,.nils])
  have j:insX x.e.l e=x.e.l.take 0++([e]++x.e.l.drop 0):=by unfold insX; rw [B]; rfl
  rw [← j] at g3;have m:=fun H=>st_e x p g1 g2 H
  have o:=fun n H=>st_x n p g2 H
  simp (disch:=first|omega|simp<;>omega|fail) [-zE,zfle,zbq4,f,g,d,t,u,zwaa zwe8,v,w,A,I,J,K,L,N,O,Q,g1,g2,g3,zect,zgih,m,zy5o,o]
 | succ k =>
  have R:(0:Int)<(k:Int)+1:=by omega
  have q:k<x.e.l.length:=by omega
  have F : ∀ H,zpsc H 105 (x.e.dv 105 ixC) k=some (.ref (ixC x.e.l[k])):=fun H=>zalo zwe8 q
  have i:((k+1:Nat):Int)-1=k:=by omega
  have c:insK (ixR e) x.e.l (k+1)=if lsP (ixR e) (ixR x.e.l[k])=true then insK (ixR e) x.e.l k else k+1:=by
   conv=>lhs; unfold insK
   rw [y00 q]
  have s:=zl2q (a:=ixR e) (b:=ixR x.e.l[k]);obtain ⟨y,Z⟩ : ∃ y,x.e.l[k]=y:=⟨_,rfl⟩;rw [Z] at F c s;obtain ⟨b,C⟩ : ∃ b,lsP (ixR e) (ixR y)=b:=⟨_,rfl⟩;rw [C] at c s;have r:=fun z=>zhqv z
  cases b with
  | true =>
   rw [if_pos rfl] at c;simp (disch:=first|omega|simp<;>omega|fail) [-zE,zfle,zbq4,f,g,d,R,zdyd,i,F,zxqk,s,r];refine ⟨k,yWS (by simp [-zE,z5jo,zbq4]),by omega,by omega,by rw [B,c]⟩
  | false =>
   rw [if_neg (by simp)] at c
   obtain ⟨X,Y,S,T,p,U,V,W,t,u,v,w,A,⟨I,J,K,L,N,O,Q⟩,g1,g2,g3⟩:=zxqy x e (k+1) ((k:Int)+1) (by omega) (by omega) hb (.cells (xiC x)) (.cells (ixC e)) (.cells [.int .i64 0,.nils])
   have j:insX x.e.l e=x.e.l.take (k+1)++([e]++x.e.l.drop (k+1)):=by unfold insX; rw [B,c]
   rw [← j] at g3;have m:=fun H=>st_e x p g1 g2 H
   have o:=fun n H=>st_x n p g2 H
   simp (disch:=first|omega|simp<;>omega|fail) [-zE,zfle,zbq4,f,g,d,R,zdyd,i,F,zxqk,s,r,t,u,zwaa zwe8,v,w,A,I,J,K,L,N,O,Q,g1,g2,g3,zect,zgih,m,zy5o,o]
end
section
noncomputable def cInx:List DV→Option DV:=con (fun a:Idx × Ixe=>a.1.e.l.length≤100000) (fun a=>[.agg (xiC a.1),.agg (ixC a.2)]) (fun a => .agg [.int .i64 a.1.at_,isV (insX a.1.e.l a.2)])
theorem zcfr {x:Idx} {e:Ixe} (h:x.e.l.length≤100000):cInx [.agg (xiC x),.agg (ixC e)]=some (.agg [.int .i64 x.at_,isV (insX x.e.l e)]) :=
 zzno (A:=fun a:Idx × Ixe=>a.1.e.l.length≤100000) (f:=fun a=>[.agg (xiC a.1),.agg (ixC a.2)]) (g:=fun a => .agg [.int .i64 a.1.at_,isV (insX a.1.e.l a.2)]) (by
  rintro ⟨a,b⟩ ⟨c,d⟩ e;simp only [List.cons.injEq,DV.agg.injEq,and_true] at e;rw [zt7p e.1,zv4z e.2]) (x,e) h
noncomputable def zlb5:Tbl:=addT 13 (.tch z1m3) (addT 67 (.pure cInx) tbl0)
theorem ziaj:zlb5 13 = .tch z1m3:=by simp [zlb5]
theorem z6wa:zlb5 67 = .pure cInx:=by simp [zlb5]
theorem zqkx:zlb5.Sound P:=z0rp z51e (z0rp (z2au fun a h=>zljw mix zbxv Tryz.func67 zy8u (z6bp a.1 a.2 h)) zr5o)
def entI (t:Tp) (c:Clu) (m:Nat):Ixe:=match c.g.l[m / 3]? with
 | some g=>⟨g.ns,g.im,dgB (((m % 3:Nat):Int)+1),decide (0<tpN (t.adv m) 3)⟩
 | none=>⟨[],[],dg0,false⟩
def idxL (t:Tp) (c:Clu):Nat→List Ixe
 | 0=>[]
 | m+1=>insX (idxL t c m) (entI t c m)
theorem zjjk {t:Tp} {c:Clu} : ∀ m,(idxL t c m).length=m
 | 0=>rfl
 | m+1=>by rw [idxL,z16q,zjjk m]
def isS (l:List Ixe) (h:l.length≤100000):Sl Ixe:=⟨if l=[] then none else some false,l,fun e=>by
 by_cases q:l=[]
 ·exact q
 ·simp [q] at e,by omega⟩
theorem zz41 {l:List Ixe} (h:l.length≤100000):(isS l h).dv 105 ixC=isV l:=by
 unfold isS isV Sl.dv;by_cases q:l=[]
 ·simp only [q,if_true]; rfl
 ·simp only [q,if_false]; rfl
theorem zm03 (l:List Ixe):zyp8 (isV l)=true:=by
 unfold isV;split
 ·rfl
 ·simp only [zyp8]; exact zp6k z0ob l
theorem zcwq (l:List Ixe):(isV l).one=true:=by unfold isV; split<;>rfl
theorem zxtu {z:List DV} {r:Rqs} (hz:z.length=34):zvnk z [(0,1,.str r.ns),(1,1,.str r.im),(2,32,.agg (dgC r.art))]=some (.agg (rqC r)):=by
 rw [zwos (by simp [DV.known]) (by simp [seqD,DV.cells,hz,z1t1])]; simp [seqD,DV.cells,rqC]
theorem znbs:ixZ=[w8 0#8,w8 0#8,w8 0#8,w8 0#8,w8 0#8,w8 0#8,w8 0#8,w8 0#8,w8 0#8,w8 0#8,w8 0#8,w8 0#8,w8 0#8,w8 0#8,w8 0#8,w8 0#8,w8 0#8,w8 0#8,w8 0#8,w8 0#8,w8 0#8,w8 0#8,w8 0#8,w8 0#8,w8 0#8,w8 0#8,w8 0#8,w8 0#8,w8 0#8,w8 0#8,w8 0#8,w8 0#8,.int .i64 0,w8 0#8,w8 0#8,w8 0#8,w8 0#8,w8 0#8,w8 0#8,w8 0#8,w8 0#8,w8 0#8,w8 0#8,w8 0#8,w8 0#8,w8 0#8,w8 0#8,w8 0#8,w8 0#8,w8 0#8,w8 0#8,w8 0#8,w8 0#8,w8 0#8,w8 0#8,w8 0#8,w8 0#8,w8 0#8,w8 0#8,w8 0#8,w8 0#8,w8 0#8,w8 0#8,w8 0#8,w8 0#8,.str [],.str [],.nils,.nils,.int .i64 0]:=by
 kernel_rfl
theorem zcjk {z A B:List DV} (hz:z.length=105) (hA:A.length=34) (hB:B.length=69):zvnk z [(0,34,.agg A),(34,69,.agg B)]=some (.agg (A++(B++z.drop 103))):=by
 simp [zvnk,zi03,zk7y,DV.known,DV.cells,hA,hB,hz,List.take_append,List.drop_append,y01,List.drop_of_length_le]
theorem bd_v {r:List DV} {b:Bool}:zvnk (.bool false::r) [(0,1,.bool b)]=some (.agg (.bool b::r)):=by
 simp [zvnk,zi03,zk7y,DV.known,DV.cells]
theorem z10m {r:Rqs} {b:Bool}:zvnk [.str [],.str [],w8 0#8,w8 0#8,w8 0#8,w8 0#8,w8 0#8,w8 0#8,w8 0#8,w8 0#8,w8 0#8,w8 0#8,w8 0#8,w8 0#8,w8 0#8,w8 0#8,w8 0#8,w8 0#8,w8 0#8,w8 0#8,w8 0#8,w8 0#8,w8 0#8,w8 0#8,w8 0#8,w8 0#8,w8 0#8,w8 0#8,w8 0#8,w8 0#8,w8 0#8,w8 0#8,w8 0#8,w8 0#8,.bool false,w8 0#8,w8 0#8,w8 0#8,w8 0#8,w8 0#8,w8 0#8,w8 0#8,w8 0#8,w8 0#8,w8 0#8,w8 0#8,w8 0#8,w8 0#8,w8 0#8,w8 0#8,w8 0#8,w8 0#8,w8 0#8,w8 0#8,w8 0#8,w8 0#8,w8 0#8,w8 0#8,w8 0#8,w8 0#8,w8 0#8,w8 0#8,w8 0#8,w8 0#8,w8 0#8,w8 0#8,w8 0#8,.int .i64 0,w8 0#8,w8 0#8,w8 0#8,w8 0#8,w8 0#8,w8 0#8,w8 0#8,w8 0#8,w8 0#8,w8 0#8,w8 0#8,w8 0#8,w8 0#8,w8 0#8,w8 0#8,w8 0#8,w8 0#8,w8 0#8,w8 0#8,w8 0#8,w8 0#8,w8 0#8,w8 0#8,w8 0#8,w8 0#8,w8 0#8,w8 0#8,w8 0#8,w8 0#8,w8 0#8,w8 0#8,w8 0#8,.str [],.str [],.nils,.nils,.int .i64 0] [(0,34,.agg (rqC r)),(34,69,.agg (.bool b::[w8 0#8,w8 0#8,w8 0#8,w8 0#8,w8 0#8,w8 0#8,w8 0#8,w8 0#8,w8 0#8,w8 0#8,w8 0#8,w8 0#8,w8 0#8,w8 0#8,w8 0#8,w8 0#8,w8 0#8,w8 0#8,w8 0#8,w8 0#8,w8 0#8,w8 0#8,w8 0#8,w8 0#8,w8 0#8,w8 0#8,w8 0#8,w8 0#8,w8 0#8,w8 0#8,w8 0#8,w8 0#8,.int .i64 0,w8 0#8,w8 0#8,w8 0#8,w8 0#8,w8 0#8,w8 0#8,w8 0#8,w8 0#8,w8 0#8,w8 0#8,w8 0#8,w8 0#8,w8 0#8,w8 0#8,w8 0#8,w8 0#8,w8 0#8,w8 0#8,w8 0#8,w8 0#8,w8 0#8,w8 0#8,w8 0#8,w8 0#8,w8 0#8,w8 0#8,w8 0#8,w8 0#8,w8 0#8,w8 0#8,w8 0#8,w8 0#8,.str [],.str [],.nils]))]=some (.agg (ixC ⟨r.ns,r.im,r.art,b⟩)):=by
 rw [zcjk (by simp) (zzeg r) (by simp)]
 rw [show ixC ⟨r.ns,r.im,r.art,b⟩=rqC r++(.bool b::ixZ) from by simp [ixC,rqC]]
 refine congrArg (fun x=>some (DV.agg (rqC r++x))) (congrArg (DV.bool b :: ·) ?_)
 rw [znbs]
 rfl
theorem zdpk (V W:DV) (h2:V.one=true) (H:List AObj):zy6o H 3 2 0 (.agg [.int .i64 0,V]) (some [.int .i64 0,W])=some (.junk,H.set 3 (.cells [.int .i64 0,V])):=zfc1 rfl rfl (by simp [h2])
def zcyu (t:Tp) (c:Clu) (i k m:Nat):St:=zbmj (.mp 0 2 0) (.mp 1 3 0) (.mp 2 2 0) (.mp 3 2 0) (.int .i64 i) (.int .i64 k) [.cells (tpC (t.adv m)),.cells (clC c),.cells [.int .i64 0,.nils],.cells [.int .i64 0,isV (idxL t c m)]]
def z38w (t:Tp) (c:Clu) (i:Nat):St:=zly3 (.mp 0 2 0) (.mp 1 3 0) (.mp 2 2 0) (.mp 3 2 0) (.int .i64 i) [.cells (tpC (t.adv (3*i))),.cells (clC c),.cells [.int .i64 0,.nils],.cells [.int .i64 0,isV (idxL t c (3*i))]]
theorem zimd (t:Tp) (c:Clu) (ht:t.at_<4000000000) (hn:c.g.l.length≤1000):RunsF zlb5 a39 [.mp 0 2 0,.agg (clC c)] [.cells (tpC t)] (.agg [.int .i64 0,isV (idxL t c (3*c.g.l.length))]) [.cells (tpC (t.adv (3*c.g.l.length)))]:=by
 refine ⟨?_⟩;have J : ∀ h,boxD h (.agg (clC c))=some (.mp h.length 3 0,h++[.cells (clC c)]):=fun h=>by rw [zn72]; rfl
 have o:oneC 1 false (clC c)=some (c.g.dv 6 grC):=rfl;have p : ∀ H,lenD H (c.g.dv 6 grC)=some (.int .i64 c.g.l.length):=fun H=>zupj
 obtain ⟨n,T⟩ : ∃ n,c.g.l.length=n:=⟨_,rfl⟩;rw [T] at hn p ⊢;have y:(clC c).length=3:=rfl;simp (disch:=first|omega|simp<;>omega|fail) [-zE,a39,J];refine zlm5 (z38w t c) (fun i=>n-i) (fun i=>i≤n) 0 (yWS (by simp [-zE,z38w,zly3,zbrh,idxL,isV])) (by omega) (fun i hi => ?_)
 simp only [z38w];by_cases h:i<n
 case neg =>
  have F:¬ (i:Int)<n:=by omega
  obtain rfl:i=n:=by omega
  have f:=zcwq (idxL t c (3*i));have D:=zm03 (idxL t c (3*i));obtain ⟨V,hV⟩ : ∃ V,isV (idxL t c (3*i))=V:=⟨_,rfl⟩;rw [hV] at f D ⊢;have Y:=fun n H=>st_x n V f H
  have N : ∀ n k (H:List AObj),fz n H k V=some V:=fun n k H=>zqge D
  have L : ∀ (H:List AObj),fzL 1 H (tpC (t.adv (3*i))) (tpC (t.adv (3*i))):=fun H=>znnb (zs7w _)
  simp (disch:=first|omega|simp<;>omega|fail) [-zE,znbh,zly3,h,F,o,p,y,zy5o,Y,N,L]
 have F:(i:Int)<n:=by omega
 simp (disch:=first|omega|simp<;>omega|fail) [-zE,znbh,zly3,h,F,o,p,y];have A:i<c.g.l.length:=by omega
 have Z : ∀ H,zpsc H 6 (c.g.dv 6 grC) i=some (.ref (grC c.g.l[i])):=fun H=>zalo zry4 A
 have w:c.g.l[i]? = some c.g.l[i]:=y00 A;obtain ⟨g,O⟩ : ∃ g,c.g.l[i]=g:=⟨_,rfl⟩;rw [O] at Z w;refine zlm5 (fun k=>zcyu t c i (k+1) (3*i+k)) (fun k=>3-k) (fun k=>k≤3) 0 (yWS (by simp [-zE,zcyu,zbmj])) (by omega) (fun k hk => ?_)
 simp only [zcyu];by_cases q:k<3
 case neg =>
  obtain rfl:k=3:=by omega
  simp (disch:=first|omega|simp<;>omega|fail) [-zE,z9mq,zbmj];refine ⟨i+1,yWS (by simp [-zE,z38w,zly3,Nat.mul_add]),by omega,by omega⟩
 have q':(k:Int)+1≤3:=by omega
 obtain ⟨m,hm⟩ : ∃ m,3*i+k=m:=⟨_,rfl⟩;have R:m / 3=i:=by omega
 have S:m % 3=k:=by omega
 have v:entI t c m=⟨g.ns,g.im,dgB ((k:Int)+1),decide (0<tpN (t.adv m) 3)⟩:=by unfold entI; rw [R,w,S]
 have B:idxL t c (m+1)=insX (idxL t c m) (entI t c m):=rfl;rw [v] at B;have a0:=zjjk (t:=t) (c:=c) m;rw [hm];have a:=zcfr (x:=⟨0,isS (idxL t c m) (by omega)⟩) (e:=⟨g.ns,g.im,dgB ((k:Int)+1),decide (0<tpN (t.adv m) 3)⟩) (by show (idxL t c m).length≤_; omega)
 have a:cInx [.agg [.int .i64 0,isV (idxL t c m)],.agg (ixC ⟨g.ns,g.im,dgB ((k:Int)+1),decide (0<tpN (t.adv m) 3)⟩)]=some (.agg [.int .i64 0,isV (idxL t c (m+1))]):=by
  rw [B];have e:=zz41 (l:=idxL t c m) (by omega)
  simp only [xiC,e] at a;exact a
 have G:=z44h (t:=t.adv m) (n:=3) (by show t.at_+m<_; omega) (by decide) (by decide)
 rw [zjmf] at G;obtain ⟨b,I⟩ : ∃ b,decide (0<tpN (t.adv m) 3)=b:=⟨_,rfl⟩;obtain ⟨z,hz⟩ : ∃ z,tpN (t.adv m) 3=z:=⟨_,rfl⟩;rw [hz] at I G;rw [hz,I] at a;have u:=fun (x:List DV) (hx:x.length=34)=>zxtu (z:=x) (r:=⟨g.ns,g.im,dgB ((k:Int)+1)⟩) hx
 obtain ⟨r,E⟩ : ∃ r:Rqs,(⟨g.ns,g.im,dgB ((k:Int)+1)⟩:Rqs)=r:=⟨_,rfl⟩;have s:=z10m (r:=⟨g.ns,g.im,dgB ((k:Int)+1)⟩) (b:=b);rw [E] at u s;have a:cInx [.agg [.int .i64 0,isV (idxL t c m)],.agg (ixC ⟨r.ns,r.im,r.art,b⟩)]=some (.agg [.int .i64 0,isV (idxL t c (m+1))]):=by rw [← E]; exact a
 have C:=fun x=>z0ob x
 have j:DV.str g.ns::DV.str g.im::dgC (dgB ((k:Int)+1))=rqC r:=by rw [← E]; rfl
 have U : ∀ (H:List AObj) (id:Nat) (x:List DV),x.length=34→zy6o H id 34 0 (.agg (rqC r)) (some x)=some (.junk,H.set id (.cells (rqC r))):=fun H id x hx=>zfc1 (zzeg r) hx (by rw [← E]; simp [rqC,dgC,zzst])
 have X:=fun W H=>zdpk (isV (idxL t c (m+1))) W (zcwq _) H
 have d:=fun l=>zm03 l
 have K:zvnk (dgC dg0) [(0,1,w8 (BitVec.ofInt 8 ((k:Int)+1)))]=some (.agg (dgC (dgB ((k:Int)+1)))):=z7ni;simp (disch:=first|omega|simp<;>omega|fail) [-zE,z9mq,zbmj,q,q',o,Z,grC,K,u,j,bd_v,U,zy5o,zed4,ziaj,G,I,s,z6wa,a,zzeg,zhqv,X,d,C];have Q:3*i+(k+1)=m+1:=by omega
 exact ⟨k+1,zju2 (tail:=[.cells (rqC r)]) (by simp (disch:=first|omega|simp<;>omega|fail) [-zE,zcyu,zbmj]) (by simp (disch:=first|omega|simp<;>omega|fail) [-zE,zcyu,zbmj,Q]) (by simp (disch:=first|omega|simp<;>omega|fail) [-zE]) (by simp (disch:=first|omega|simp<;>omega|fail) [-zE,belowL,Am.below]) (by simp (disch:=first|omega|simp<;>omega|fail) [-zE,zlf2,belowL,Am.below,zmq5 _ _ (zs7w _),zmq5 _ _ (zy11 c),z8b8 _ _ (zm03 _)]),by omega,by omega⟩
noncomputable def cIdx:List DV→List DV→Option (DV × List DV):=conT (fun a:Tp × Clu=>a.1.at_<4000000000∧a.2.g.l.length≤1000) (fun a=>[.agg (clC a.2)]) (fun a=>tpC a.1) (fun a=>(.agg [.int .i64 0,isV (idxL a.1 a.2 (3*a.2.g.l.length))],tpC (a.1.adv (3*a.2.g.l.length))))
theorem zj2w {t:Tp} {c:Clu} (h1:t.at_<4000000000) (h2:c.g.l.length≤1000):cIdx [.agg (clC c)] (tpC t)=some (.agg [.int .i64 0,isV (idxL t c (3*c.g.l.length))],tpC (t.adv (3*c.g.l.length))) :=
 ztyo (A:=fun a:Tp × Clu=>a.1.at_<4000000000∧a.2.g.l.length≤1000) (f:=fun a=>[.agg (clC a.2)]) (s:=fun a=>tpC a.1) (by
  rintro ⟨a,n⟩ ⟨b,m⟩ e1 e2;simp only [List.cons.injEq,DV.agg.injEq,and_true] at e1;rw [zh7t e1,z15z e2]) (t,c) ⟨h1,h2⟩
theorem zkb9:(Con.tch cIdx).Sound P 39 :=
 z0tq (fun a _=>⟨by simp [zbao,zyp8,zy11],zs7w _,by simp [zyp8,zbao,zm03],zs7w _⟩) fun a h=>zizi mix zqkx Tryz.func39 zjwo (zimd a.1 a.2 h.1 h.2) (y02 _)
end
section
def trV (l:List Tri):DV:=if l=[] then .nils else .sl false 35 l.length (l.flatMap trC)
theorem znen (l:List Tri):zyp8 (trV l)=true:=by
 unfold trV;split
 ·rfl
 ·simp only [zyp8]; exact zp6k z1zd l
def triS (t:Tp) (c:Clu):Nat→Tp × List Tri
 | 0=>(t,[])
 | m+1=>match c.g.l[m / 3]? with
  | some g=>if dgB (((m % 3:Nat):Int)+1) ∈ g.ch.l then
    (if tpN (triS t c m).1 3=0 then (((triS t c m).1).adv 3,(triS t c m).2++[⟨(m / 3:Nat),dgB (((m % 3:Nat):Int)+1),1+tpN (((triS t c m).1).adv 1) 4,tpN (((triS t c m).1).adv 2) 40⟩])
     else (((triS t c m).1).adv 1,(triS t c m).2)) else triS t c m
  | none=>triS t c m
theorem zso0 {t:Tp} {c:Clu} : ∀ m,(triS t c m).1.at_≤t.at_+3*m∧(triS t c m).2.length≤m
 | 0=>by simp [triS]
 | m+1=>by
  have ih:=zso0 (t:=t) (c:=c) m;unfold triS;split
  ·split
   ·split
    ·simp only [Tp.adv,y0d,List.length_singleton]; omega
    ·simp only [Tp.adv]; omega
   ·omega
  ·omega
def HT (u:Tp) (c:Clu) (L:List Tri):List AObj := .cells (tpC u) :: .cells (clC c)::oT trC L
section
variable {u u':Tp} {c:Clu} {L:List Tri} {X:List AObj}
theorem zglr:objV (HT u c L) 0 2=some (tpC u):=rfl
theorem HT_a:ziu0 (HT u c L) 0=some (tpC u):=rfl
theorem zjbe:objV (HT u c L) 1 3=some (clC c):=rfl
theorem zxru:(HT u c L).set 0 (.cells (tpC u'))=HT u' c L:=rfl
theorem z8by {y:Tri} (hb:L.length+1≤4294967296):appX (HT u c L) 35 56 (oV 2 35 L) 1 (trC y)=some (oV 2 35 (L++[y]),HT u c (L++[y])) :=
 zte0 (k:=2) (K:=35) (b:=56) (f:=trC) (l:=L) (x:=y) (h:=[.cells (tpC u),.cells (clC c)]) rfl zezj (by decide) (by decide) zms9 hb
theorem znca:(HT u c L).length=2+(oT trC L).length:=by simp [HT]; omega
theorem zygd:zlf2 (HT u c L).length (HT u c L)=true:=by
 show zlf2 _ ([.cells (tpC u),.cells (clC c)]++oT trC L)=true;refine zrlz ?_ (zd81 z1zd);simp only [zlf2,zmq5 _ _ (zs7w u),zmq5 _ _ (zy11 c),y07]
theorem zb15:Am.below (HT u c L).length (oV 2 35 L)=true:=by
 have:=zv6o (k:=2) (K:=35) (f:=trC) (l:=L);rw [znca]; exact this
theorem z4xe:mk1 (kLt 1) (HT u c L) (oV 2 35 L)=trV L:=by
 by_cases e:L=[]
 ·subst e; exact zhx5
 ·unfold trV;rw [zpni e,if_neg e];refine zwy6 ?_;rw [zi9r,if_neg (by simp [kLt])]
  have a:objV (HT u c L) 2 (L.length*35)=some (fl trC L):=by
   unfold HT;rw [zu2l e];simp [objV,ziu0,z8lx zezj]
  rw [a,y0m,y09];have b:(fl trC L).take (L.length*35)=L.flatMap trC:=y01 (by rw [z8lx zezj]; omega)
  rw [b,zl6f (zp6k z1zd L)]; rfl
end
noncomputable def zy43:Tbl:=addT 13 (.tch z1m3) (addT 50 (.pure cHas) tbl0)
theorem zrmg:zy43 13 = .tch z1m3:=by simp [zy43]
theorem zzv3:zy43 50 = .pure cHas:=by simp [zy43]
theorem zpan:zy43.Sound P:=z0rp z51e (z0rp zi6e zr5o)
theorem z5gt {z:List DV} {a f e:Int} {d:Dg} (hz:z.length=35):zvnk z [(0,1,.int .i64 a),(1,32,.agg (dgC d)),(33,1,.int .i64 f),(34,1,.int .i64 e)]=some (.agg (trC ⟨a,d,f,e⟩)):=by
 rw [zwos (by simp [DV.known]) (by simp [seqD,DV.cells,hz,z1t1])]; simp [seqD,DV.cells,trC]
theorem zsvy {z:List DV} {x:Tri} (hz:z.length=35):bslD 35 1 z [(0,35,.agg (trC x))]=some (.sl true 35 1 (trC x)):=by
 rw [z7bw (by simp [DV.known]) (by simp [seqD,DV.cells,hz,zezj])]; simp [seqD,DV.cells,zezj]
def zsl6 (t:Tp) (c:Clu) (i k m:Nat):St:=zcq1 (.mp 0 2 0) (.mp 1 3 0) (oV 2 35 (triS t c m).2) (.int .i64 i) (.int .i64 k) (HT (triS t c m).1 c (triS t c m).2)
def z6qg (t:Tp) (c:Clu) (i:Nat):St:=zuzy (.mp 0 2 0) (.mp 1 3 0) (oV 2 35 (triS t c (3*i)).2) (.int .i64 i) (HT (triS t c (3*i)).1 c (triS t c (3*i)).2)
theorem zu8w (t:Tp) (c:Clu) (ht:t.at_<4000000000) (hn:c.g.l.length≤1000):zwy1 P 40 [.mp 0 2 0,.agg (clC c)] [.cells (tpC t)] (fun d h=>d=trV (triS t c (3*c.g.l.length)).2∧h=[.cells (tpC (triS t c (3*c.g.l.length)).1)]):=by
 refine zrqk Tryz.func40 zt62 ?_;have a2 : ∀ h,boxD h (.agg (clC c))=some (.mp h.length 3 0,h++[.cells (clC c)]):=fun h=>by rw [zn72]; rfl
 have s:oneC 1 false (clC c)=some (c.g.dv 6 grC):=rfl;have J : ∀ H,lenD H (c.g.dv 6 grC)=some (.int .i64 c.g.l.length):=fun H=>zupj
 obtain ⟨n,b6⟩ : ∃ n,c.g.l.length=n:=⟨_,rfl⟩;rw [b6] at hn J ⊢;have b8:(clC c).length=3:=rfl;refine yVS8 ?_;simp (disch:=first|omega|simp<;>omega|fail) [-zE,a40,a2];refine yVS8 ?_;simp (disch:=first|omega|simp<;>omega|fail) [-zE];refine zbn1 (yVS8 ?_);simp (disch:=first|omega|simp<;>omega|fail) [-zE];refine z3mo (ztbr (z6qg t c) (fun i=>n-i) (fun i=>i≤n) 0 (z515 (by simp (disch:=first|omega|simp<;>omega|fail) [-zE,z6qg,zuzy,triS,zl8p]) (by simp (disch:=first|omega|simp<;>omega|fail) [-zE,z6qg,zuzy,triS,HT,zkrk])) (y03 _) (fun i hi => ?_))
 simp only [z6qg];by_cases h:i<n
 case neg =>
  have h':¬ (i:Int)<n:=by omega
  obtain rfl:i=n:=by omega
  have j:=z4xe (u:=(triS t c (3*i)).1) (c:=c) (L:=(triS t c (3*i)).2);have r:=zjbe (u:=(triS t c (3*i)).1) (c:=c) (L:=(triS t c (3*i)).2);have W:=znen (triS t c (3*i)).2;have E:HT (triS t c (3*i)).1 c (triS t c (3*i)).2=[AObj.cells (tpC (triS t c (3*i)).1)]++(.cells (clC c)::oT trC (triS t c (3*i)).2):=rfl;obtain ⟨u,hu⟩ : ∃ u,(triS t c (3*i)).1=u:=⟨_,rfl⟩;obtain ⟨L,hL⟩ : ∃ L,(triS t c (3*i)).2=L:=⟨_,rfl⟩;rw [hu,hL] at j r E;rw [hL] at W;rw [hu,hL];obtain ⟨H,Y⟩ : ∃ H,HT u c L=H:=⟨_,rfl⟩;rw [Y] at j r E ⊢;refine zbn1 (yVS8 ?_);simp (disch:=first|omega|simp<;>omega|fail) [-zE,z1eu,zuzy,h,h',r,s,J];refine yVW8 ?_;simp (disch:=first|omega|simp<;>omega|fail) [-zE];rw [E] at j ⊢;simp only [List.cons_append,List.nil_append] at j;refine z0em (n0:=1) (H:=[.cells (tpC u)]) (R := .cells (clC c)::oT trC L) (t':=js 5++[trV L]++js 42) (by simp only [zlf2,zmq5 _ _ (zs7w u),y07]) (by simp) ?_ (by simp (disch:=first|omega|simp<;>omega|fail) [-zE,belowL,Am.below,z8b8 _ _ W]) ?_
  ·simp (disch:=first|omega|simp<;>omega|fail) [-zE,j,-z1bt,-zdpe]
  refine yVS8 ?_;simp (disch:=first|omega|simp<;>omega|fail) [-zE];refine yVW8 ?_;simp (disch:=first|omega|simp<;>omega|fail) [-zE,a40]
 have h':(i:Int)<n:=by omega
 have U:i<c.g.l.length:=by omega
 have X : ∀ H,zpsc H 6 (c.g.dv 6 grC) i=some (.ref (grC c.g.l[i])):=fun H=>zalo zry4 U
 have Q:c.g.l[i]? = some c.g.l[i]:=y00 U;obtain ⟨g,b3⟩ : ∃ g,c.g.l[i]=g:=⟨_,rfl⟩;rw [b3] at X Q;have r:=zjbe (u:=(triS t c (3*i)).1) (c:=c) (L:=(triS t c (3*i)).2);refine zbn1 (yVS8 ?_);simp (disch:=first|omega|simp<;>omega|fail) [-zE,z1eu,zuzy,h,h',r,s,J];refine yVW8 ?_;simp (disch:=first|omega|simp<;>omega|fail) [-zE];refine zbn1 (z3mo (yVS8 ?_));simp (disch:=first|omega|simp<;>omega|fail) [-zE];refine z3mo (ztbr (fun k=>zsl6 t c i (k+1) (3*i+k)) (fun k=>3-k) (fun k=>k≤3) 0 (yWS (by simp [-zE,zsl6,zcq1])) (y03 _) (fun k hk => ?_))
 simp only [zsl6];by_cases q:k<3
 case neg =>
  obtain rfl:k=3:=by omega
  refine zbn1 (yVS8 ?_);simp (disch:=first|omega|simp<;>omega|fail) [-zE,zb4u,zcq1];refine yVW8 ?_;simp (disch:=first|omega|simp<;>omega|fail) [-zE];refine yVW8 ?_;simp (disch:=first|omega|simp<;>omega|fail) [-zE];refine ⟨i+1,yWS (by simp [-zE,z6qg,zuzy,Nat.mul_add]),by omega,by omega⟩
 have q':(k:Int)+1≤3:=by omega
 obtain ⟨m,hm⟩ : ∃ m,3*i+k=m:=⟨_,rfl⟩;have o:3*i+(k+1)=m+1:=by omega
 have b5:m / 3=i:=by omega
 have j:m % 3=k:=by omega
 rw [hm];have S:=zso0 (t:=t) (c:=c) m;have b:triS t c (m+1)=if dgB ((k:Int)+1) ∈ g.ch.l then
    (if tpN (triS t c m).1 3=0 then (((triS t c m).1).adv 3,(triS t c m).2++[⟨(i:Nat),dgB ((k:Int)+1),1+tpN (((triS t c m).1).adv 1) 4,tpN (((triS t c m).1).adv 2) 40⟩])
     else (((triS t c m).1).adv 1,(triS t c m).2)) else triS t c m:=by
  conv=>lhs; unfold triS
  rw [b5,Q,j]
 obtain ⟨T,hT⟩ : ∃ T,triS t c m=T:=⟨_,rfl⟩;rw [hT] at b S ⊢;obtain ⟨u,L⟩:=T;simp only at b S ⊢;obtain ⟨d,hd⟩ : ∃ d,dgB ((k:Int)+1)=d:=⟨_,rfl⟩;have N:zvnk (dgC dg0) [(0,1,w8 (BitVec.ofInt 8 ((k:Int)+1)))]=some (.agg (dgC (dgB ((k:Int)+1)))):=z7ni;rw [hd] at b N;have b7 : ∀ (h:List AObj) (id:Nat) (e:Dg),zy6o h id 32 0 (.agg (dgC d)) (some (dgC e))=some (.junk,h.set id (.cells (dgC d))):=fun h id e=>zfc1 (z1t1 _) (z1t1 _) (by simp [dgC,zzst])
 have w : ∀ d,oneC 32 true (dgC d)=some (.agg (dgC d)):=fun d=>by simp [oneC,z1t1,y01]
 have C:=zglr (u:=u) (c:=c) (L:=L);have Z:=HT_a (u:=u) (c:=c) (L:=L);have v:=zjbe (u:=u) (c:=c) (L:=L);have p:=fun u'=>zxru (u:=u) (u':=u') (c:=c) (L:=L)
 have Hb:=zygd (u:=u) (c:=c) (L:=L);have D:=zb15 (u:=u) (c:=c) (L:=L);have Hl:=znca (u:=u) (c:=c) (L:=L);have e2 : ∀ h,mk1 (kLt (HT u c L).length) h (oV 2 35 L)=oV 2 35 L:=fun h=>zd3c D
 have e3 : ∀ h,mk1 (kLt (HT u c L).length) h (.mp 0 2 0) = .mp 0 2 0:=fun h=>zd3c (by simp only [Am.below,decide_eq_true_eq]; omega)
 have e4 : ∀ h,mk1 (kLt (HT u c L).length) h (.mp 1 3 0) = .mp 1 3 0:=fun h=>zd3c (by simp only [Am.below,decide_eq_true_eq]; omega)
 have ec:=zz5t (H:=HT u c L) (cs:=dgC d) (off:=0) (z3ot d);rw [z1t1,y09] at ec;have K:=z44h (t:=u) (n:=3) (by omega) (by decide) (by decide)
 have I:=zqi6 (x:=g.ch) (d:=d);have V:1≤(HT u c L).length:=by omega
 have A:0<(HT u c L).length:=by omega
 have B:1<(HT u c L).length:=by omega
 obtain ⟨H,Y⟩ : ∃ H,HT u c L=H:=⟨_,rfl⟩;rw [Y] at C Z v p Hb D Hl e2 e3 e4 ec V A B ⊢;refine zbn1 (yVS8 ?_);simp (disch:=first|omega|simp<;>omega|fail) [-zE,zb4u,zcq1,q'];refine yVW8 ?_;simp (disch:=first|omega|simp<;>omega|fail) [-zE];refine zbn1 (z3mo (yVS8 ?_));simp (disch:=first|omega|simp<;>omega|fail) [-zE,N,z4hl,b7,z1t1];refine zs10 (n0:=1) (H:=H) (cs:=dgC d) (t':=[.mp 0 2 0,.junk,.junk,.mp 1 3 0,.junk,oV 2 35 L,.int .i64 i,.int .i64 ((k:Int)+1),.ref (dgC d)]++js 39) Hb V ?_ (by simp (disch:=first|omega|simp<;>omega|fail) [-zE,belowL,Am.below,D,A,B,zmq5 _ _ (z3ot d)]) ?_
 ·simp (disch:=first|omega|simp<;>omega|fail) [-zE,ec,e2,e3,e4,-z1bt,-zdpe]
 refine zbn1 (V_W mix zpan ?_);by_cases hmem:d ∈ g.ch.l
 case neg =>
  rw [if_neg hmem] at b;simp (disch:=first|omega|simp<;>omega|fail) [-zE,v,s,X,grC,w,zzv3,I,z3ot,hmem];refine yVW8 ?_;simp (disch:=first|omega|simp<;>omega|fail) [-zE];refine yVW8 ?_;simp (disch:=first|omega|simp<;>omega|fail) [-zE];refine ⟨k+1,yWS (by simp [-zE,zsl6,zcq1,o,b,Y]),by omega,by omega⟩
 rw [if_pos hmem] at b;by_cases hz:tpN u 3=0
 case neg =>
  rw [if_neg hz] at b;simp (disch:=first|omega|simp<;>omega|fail) [-zE,v,s,X,grC,w,zzv3,I,z3ot,hmem,zrmg,Z,C,K,p,hz];refine yVW8 ?_;simp (disch:=first|omega|simp<;>omega|fail) [-zE];refine yVW8 ?_;simp (disch:=first|omega|simp<;>omega|fail) [-zE];refine ⟨k+1,yWS (by simp [-zE,zsl6,zcq1,o,b]),by omega,by omega⟩
 rw [if_pos hz] at b;simp (disch:=first|omega|simp<;>omega|fail) [-zE,v,s,X,grC,w,zzv3,I,z3ot,hmem,zrmg,Z,C,K,p,hz];have F:=z44h (t:=u.adv 1) (n:=4) (by show u.at_+1<_; omega) (by decide) (by decide)
 have G:=z44h (t:=u.adv 2) (n:=40) (by show u.at_+2<_; omega) (by decide) (by decide)
 rw [zjmf] at F G;have b4:=z4rs (u.adv 1) 4;have a0:=z2s7 (u.adv 1) (n:=4) (by decide)
 obtain ⟨f,hf⟩ : ∃ f,tpN (u.adv 1) 4=f:=⟨_,rfl⟩;obtain ⟨a,ha⟩ : ∃ a,tpN (u.adv 2) 40=a:=⟨_,rfl⟩;rw [hf] at F b b4 a0;rw [ha] at G b;obtain ⟨y,hy⟩ : ∃ y:Tri,(⟨(i:Nat),d,1+f,a⟩:Tri)=y:=⟨_,rfl⟩;have O:=fun (z:List DV) (hz:z.length=35)=>z5gt (z:=z) (a:=i) (f:=1+f) (e:=a) (d:=d) hz
 rw [hy] at b O;have a3:DV.int .i64 (i:Int)::(dgC d++[DV.int .i64 (1+f),DV.int .i64 a])=trC y:=by rw [← hy]; rfl
 have a1:=z8by (u:=u.adv 3) (c:=c) (L:=L) (y:=y) (by omega)
 refine V_W mix zpan ?_;simp (disch:=first|omega|simp<;>omega|fail) [-zE,w,zrmg,HT_a,zglr,F,G,zxru,O,a3,zsvy,a1];refine yVW8 ?_;simp (disch:=first|omega|simp<;>omega|fail) [-zE];exact ⟨k+1,yWS (by simp [-zE,zsl6,zcq1,o,b]),by omega,by omega⟩
noncomputable def cTri:List DV→List DV→Option (DV × List DV):=conT (fun a:Tp × Clu=>a.1.at_<4000000000∧a.2.g.l.length≤1000) (fun a=>[.agg (clC a.2)]) (fun a=>tpC a.1) (fun a=>(trV (triS a.1 a.2 (3*a.2.g.l.length)).2,tpC (triS a.1 a.2 (3*a.2.g.l.length)).1))
theorem zbtb {t:Tp} {c:Clu} (h1:t.at_<4000000000) (h2:c.g.l.length≤1000):cTri [.agg (clC c)] (tpC t)=some (trV (triS t c (3*c.g.l.length)).2,tpC (triS t c (3*c.g.l.length)).1) :=
 ztyo (A:=fun a:Tp × Clu=>a.1.at_<4000000000∧a.2.g.l.length≤1000) (f:=fun a=>[.agg (clC a.2)]) (s:=fun a=>tpC a.1) (by
  rintro ⟨a,n⟩ ⟨b,m⟩ e1 e2;simp only [List.cons.injEq,DV.agg.injEq,and_true] at e1;rw [zh7t e1,z15z e2]) (t,c) ⟨h1,h2⟩
theorem zka8:(Con.tch cTri).Sound P 40 :=
 z0tq (fun a _=>⟨by simp [zbao,zyp8,zy11],zs7w _,znen _,zs7w _⟩) fun a h=>zu8w a.1 a.2 h.1 h.2
end
section
structure Scn where
 c:Clu
 x:List Ixe
 tr:List Tri
 gr:List Int
 t:Int
def scnC (s:Scn):List DV:=[s.c.g.dv 6 grC,s.c.i.dv 37 inC,.int .i64 s.c.next,.int .i64 0,isV s.x,trV s.tr,liV s.gr,.int .i64 s.t]
noncomputable def scnV (u:Tp):Scn × Tp :=
 let c:=(zcpt u 8).1
 let w:=(zcpt u 8).2
 let n:=3*c.g.l.length
 let w1:=w.adv n
 let w2:=(triS w1 c n).1
 let w3:=w2.adv c.i.l.length
 (⟨c,idxL w c n,(triS w1 c n).2,graL w2 c.i.l.length,30+tpN w3 20⟩,w3.adv 1)
noncomputable def z8gk:Tbl:=addT 37 (.new zl5p) (addT 38 (.tch cClu) (addT 13 (.tch z1m3) (addT 39 (.tch cIdx) (addT 40 (.tch cTri) (addT 41 (.tch cGra) tbl0)))))
theorem z9vj:z8gk 37 = .new zl5p:=by simp [z8gk]
theorem zf0m:z8gk 38 = .tch cClu:=by simp [z8gk]
theorem zkp3:z8gk 13 = .tch z1m3:=by simp [z8gk]
theorem z6jf:z8gk 39 = .tch cIdx:=by simp [z8gk]
theorem zj0z:z8gk 40 = .tch cTri:=by simp [z8gk]
theorem zdoe:z8gk 41 = .tch cGra:=by simp [z8gk]
theorem zqvq:z8gk.Sound P:=z0rp ze95 (z0rp zwvn (z0rp z51e (z0rp zkb9 (z0rp zka8 (z0rp z10g zr5o)))))
theorem zq54 (l:List Tri):(trV l).one=true:=by unfold trV; split<;>rfl
theorem zdci (l:List Tri):(trV l).cells=[trV l]:=by unfold trV; split<;>rfl
def o8 (c:Clu) (a b d e f:DV):List DV:=[c.g.dv 6 grC,c.i.dv 37 inC,.int .i64 c.next,a,b,d,e,f]
theorem o8_b {c:Clu}:zvnk [.nils,.nils,.int .i64 0,.int .i64 0,.nils,.nils,.nils,.int .i64 0] [(0,3,.agg (clC c))]=some (.agg (o8 c (.int .i64 0) .nils .nils .nils (.int .i64 0))):=rfl
section
variable {c:Clu} {a b d e f:DV} {H:List AObj} {id:Nat}
theorem z6ng (h1:a.one=true) (h2:b.one=true) (h3:d.one=true) (h4:e.one=true) (h5:f.one=true):(o8 c a b d e f).all DV.one=true:=by simp [o8,z4ja,h1,h2,h3,h4,h5]
theorem zws3 (h1:a.one=true) (h2:b.one=true) (h3:d.one=true) (h4:e.one=true) (h5:f.one=true):zy6o H id 8 0 (.agg (o8 c a b d e f)) (some [.nils,.nils,.int .i64 0,.int .i64 0,.nils,.nils,.nils,.int .i64 0])=some (.junk,H.set id (.cells (o8 c a b d e f))):=zfc1 rfl rfl (z6ng h1 h2 h3 h4 h5)
theorem o8_3:oneC 3 true (o8 c a b d e f)=some (.agg (clC c)):=rfl
theorem o8_8:oneC 8 true (o8 c a b d e f)=some (.agg (o8 c a b d e f)):=rfl
theorem z3nx {x y:DV} (h1:x.one=true) (h2:y.one=true):zy6o H id 2 3 (.agg [x,y]) (some (o8 c a b d e f))=some (.junk,H.set id (.cells (o8 c x y d e f))):=by
 have h:(DV.agg [x,y]).cells.length=2∧3+2≤(o8 c a b d e f).length∧(DV.agg [x,y]).cells.all DV.one=true:=⟨rfl,by show 5≤8; decide,by simp [DV.cells,h1,h2]⟩
 exact (if_pos h).trans rfl
theorem zo9w {x:DV} (hc:x.cells=[x]) (ho:x.one=true):zy6o H id 1 5 x (some (o8 c a b d e f))=some (.junk,H.set id (.cells (o8 c a b x e f))):=by
 rw [Am.storeO_1 hc ho (by show 5<8; decide)]; rfl
theorem zdmn {x:DV} (hc:x.cells=[x]) (ho:x.one=true):zy6o H id 1 6 x (some (o8 c a b d e f))=some (.junk,H.set id (.cells (o8 c a b d x f))):=by
 rw [Am.storeO_1 hc ho (by show 6<8; decide)]; rfl
theorem z7tb {x:DV} (hc:x.cells=[x]) (ho:x.one=true):zy6o H id 1 7 x (some (o8 c a b d e f))=some (.junk,H.set id (.cells (o8 c a b d e x))):=by
 rw [Am.storeO_1 hc ho (by show 7<8; decide)]; rfl
end
theorem zfog (x:Nl):RunsH z8gk a12 [x.dv] [] (.tup [.agg (scnC (scnV (tp0 x 300)).1),.mp 1 2 0]) [.cells (scnC (scnV (tp0 x 300)).1),.cells (tpC (scnV (tp0 x 300)).2),.cells (scnC (scnV (tp0 x 300)).1)]:=by
 refine ⟨?_⟩;obtain ⟨u,Q⟩ : ∃ u,tp0 x 300=u:=⟨_,rfl⟩;have a0:u.at_=0:=by rw [← Q]; rfl
 obtain ⟨Y,hg⟩:=zlnb u 8 (by decide) (by decide)
 have s:=zukg u 8 (by decide) (by decide)
 have J:=z2ep u 8 (by decide) (by decide)
 have I:=fun m=>zwy3 (x:=x) (n:=300) (by decide) m
 rw [Q] at I;simp only [show ((300:Nat):Int)=300 from rfl] at I
 rw [Q];have A:scnV u=(⟨(zcpt u 8).1,idxL (zcpt u 8).2 (zcpt u 8).1 (3*(zcpt u 8).1.g.l.length),(triS ((zcpt u 8).2.adv (3*(zcpt u 8).1.g.l.length)) (zcpt u 8).1 (3*(zcpt u 8).1.g.l.length)).2,graL (triS ((zcpt u 8).2.adv (3*(zcpt u 8).1.g.l.length)) (zcpt u 8).1 (3*(zcpt u 8).1.g.l.length)).1 (zcpt u 8).1.i.l.length,30+tpN ((triS ((zcpt u 8).2.adv (3*(zcpt u 8).1.g.l.length)) (zcpt u 8).1 (3*(zcpt u 8).1.g.l.length)).1.adv (zcpt u 8).1.i.l.length) 20⟩,((triS ((zcpt u 8).2.adv (3*(zcpt u 8).1.g.l.length)) (zcpt u 8).1 (3*(zcpt u 8).1.g.l.length)).1.adv (zcpt u 8).1.i.l.length).adv 1):=rfl;rw [A];clear A;have U:=z9dl (t:=u) (m:=8) (by omega) (by decide) (by decide)
 obtain ⟨c,K⟩ : ∃ c,(zcpt u 8).1=c:=⟨_,rfl⟩;obtain ⟨w,R⟩ : ∃ w,(zcpt u 8).2=w:=⟨_,rfl⟩;rw [K,R] at U;rw [K] at Y hg s;rw [R] at J;rw [K,R];have O:=Y.ng;have F:=zj2w (t:=w) (c:=c) (by omega) (by omega)
 have v:=zm03 (idxL w c (3*c.g.l.length));have j:=zcwq (idxL w c (3*c.g.l.length));obtain ⟨n,N⟩ : ∃ n,c.g.l.length=n:=⟨_,rfl⟩;rw [N] at F O v j;rw [N];have h:=zbtb (t:=w.adv (3*n)) (c:=c) (by show w.at_+3*n<_; omega) (by omega)
 rw [N] at h;have B:=zso0 (t:=w.adv (3*n)) (c:=c) (3*n);have a1:(w.adv (3*n)).at_=w.at_+3*n:=rfl;obtain ⟨T,p⟩ : ∃ T,triS (w.adv (3*n)) c (3*n)=T:=⟨_,rfl⟩;rw [p] at h B;rw [p];obtain ⟨o,k⟩:=T;simp only at h B ⊢;have E:=zxh3 (t:=o) (c:=c) (by omega) (by omega)
 obtain ⟨X,V⟩ : ∃ X,idxL w c (3*n)=X:=⟨_,rfl⟩;rw [V] at F v j;rw [V];obtain ⟨m,W⟩ : ∃ m,c.i.l.length=m:=⟨_,rfl⟩;rw [W] at E s;rw [W];have G:=z44h (t:=o.adv m) (n:=20) (by show o.at_+m<_; omega) (by decide) (by decide)
 have hz:=z2s7 (o.adv m) (n:=20) (by decide)
 have S:=z4rs (o.adv m) 20;obtain ⟨z,D⟩ : ∃ z,tpN (o.adv m) 20=z:=⟨_,rfl⟩;rw [D] at G hz S;rw [D];obtain ⟨Z,C⟩ : ∃ Z,(o.adv m).adv 1=Z:=⟨_,rfl⟩;rw [C] at G;rw [C];obtain ⟨g,r⟩ : ∃ g,graL o m=g:=⟨_,rfl⟩;rw [r] at E;rw [r];have hx:=zkx7 x;have s2:=fun H=>z3nx (c:=c) (a := .int .i64 0) (b := .nils) (d := .nils) (e := .nils) (f := .int .i64 0) (H:=H) (id:=2) (x := .int .i64 0) (y:=isV X) rfl j
 have s5:=fun H=>zo9w (c:=c) (a := .int .i64 0) (b:=isV X) (d := .nils) (e := .nils) (f := .int .i64 0) (H:=H) (id:=2) (zdci k) (zq54 k)
 have s6:=fun H=>zdmn (c:=c) (a := .int .i64 0) (b:=isV X) (d:=trV k) (e := .nils) (f := .int .i64 0) (H:=H) (id:=2) (zf8a g) (zj6i g)
 have s7:=fun H=>z7tb (c:=c) (a := .int .i64 0) (b:=isV X) (d:=trV k) (e:=liV g) (f := .int .i64 0) (H:=H) (id:=2) (x := .int .i64 (30+z)) rfl rfl
 have s8:=fun H=>zws3 (c:=c) (a := .int .i64 0) (b:=isV X) (d:=trV k) (e:=liV g) (f := .int .i64 (30+z)) (H:=H) (id:=0) rfl j (zq54 k) (zj6i g) rfl
 have s0:=fun H=>zws3 (c:=c) (a := .int .i64 0) (b := .nils) (d := .nils) (e := .nils) (f := .int .i64 0) (H:=H) (id:=2) rfl rfl rfl rfl rfl
 have L : ∀ a b d e f,(o8 c a b d e f).length=8:=fun a b d e f=>rfl
 have q:scnC ⟨c,X,k,g,30+z⟩=o8 c (.int .i64 0) (isV X) (trV k) (liV g) (.int .i64 (30+z)):=rfl;rw [q];simp (disch:=first|omega|simp<;>omega|fail) [-zE,o8_b,s0,s2,s5,s6,s7,s8,o8_3,o8_8,L,zy11,a12,z9vj,I,zf0m,U,z6jf,F,zj0z,h,zdoe,E,zkp3,G,hx]
 done
end
section
theorem zenn:Tot lsP:=by
 have h:=zqwe (f:=fun a:Rqs=>(a.ns,(a.im,a.art))) (fun a b e=>by
  obtain ⟨c,d,g⟩:=a;obtain ⟨b1,b2,i⟩:=b;simp only [Prod.mk.injEq] at e;rw [e.1,e.2.1,e.2.2]) (zcht z3gj (zcht z3gj zc3a))
 have e:(fun a b:Rqs=>zynh Op.bytesLess (zynh Op.bytesLess dgLt) (a.ns,(a.im,a.art)) (b.ns,(b.im,b.art)))=lsP:=by
  funext a b; rfl
 rw [e] at h;exact h
def SrtX (l:List Ixe):Prop:=l.Pairwise fun a b=>lsP (ixR b) (ixR a)=false
theorem z7jw {a b c:Rqs} (h1:lsP b a=false) (h2:lsP b c=true):lsP a c=true:=by
 rcases zenn.tot a b with h|h|h
 ·exact zenn.tr _ _ _ h h2
 ·rw [h]; exact h2
 ·rw [h] at h1; cases h1
theorem z83d {a b e:Rqs} (h1:lsP b a=false) (h2:lsP e b=false):lsP e a=false:=by
 cases h:lsP e a with
 | false=>rfl
 | true =>
  rcases zenn.tot a b with q|q|q
  ·rw [zenn.tr _ _ _ h q] at h2; cases h2
  ·rw [q] at h; rw [h] at h2; cases h2
  ·rw [q] at h1; cases h1
theorem zd43 {e:Rqs} {l:List Ixe} : ∀ k,k≤l.length→(∀ j (hj:j<l.length),insK e l k≤j→j<k→lsP e (ixR l[j])=true)∧(∀ i (hi:i<l.length),i+1=insK e l k→lsP e (ixR l[i])=false)
 | 0,_=>⟨fun j hj _ h=>by omega,fun i hi h=>by simp [insK] at h⟩
 | k+1,hk=>by
  have hlt:k<l.length:=by omega
  have c:insK e l (k+1)=if lsP e (ixR l[k])=true then insK e l k else k+1:=by
   conv=>lhs; unfold insK
   rw [y00 hlt]
  cases h:lsP e (ixR l[k]) with
  | true =>
   rw [h,if_pos rfl] at c;obtain ⟨a,b⟩:=zd43 (e:=e) (l:=l) k (by omega)
   rw [c];refine ⟨fun j hj h1 h2 => ?_,b⟩
   by_cases ej:j=k
   ·subst ej; exact h
   ·exact a j hj h1 (by omega)
  | false =>
   rw [h,if_neg (by simp)] at c
   rw [c];refine ⟨fun j hj h1 h2=>by omega,fun i hi h1 => ?_⟩
   obtain rfl:i=k:=by omega
   exact h
theorem zhsg {l:List Ixe} {e:Ixe} (h:SrtX l):SrtX (insX l e):=by
 have m:=z13x (e:=ixR e) (l:=l) l.length;obtain ⟨p,n⟩:=zd43 (e:=ixR e) (l:=l) l.length (y02 _);unfold insX;obtain ⟨k,r⟩ : ∃ k,insK (ixR e) l l.length=k:=⟨_,rfl⟩;rw [r] at m p n ⊢;have o:=y0f.1 h;have c : ∀ i (g:i<l.length),i<k→lsP (ixR e) (ixR l[i])=false:=fun i g hik=>by
  by_cases q:i+1=k
  ·exact n i g q
  ·exact z83d (o i (k-1) g (by omega) (by omega)) (n (k-1) (by omega) (by omega))
 have d : ∀ j (f:j<l.length),k≤j→lsP (ixR l[j]) (ixR e)=false:=fun j f hkj=>by
  cases q:lsP (ixR l[j]) (ixR e) with
  | false=>rfl
  | true =>
   have:=zenn.tr _ _ _ (p j f hkj f) q;rw [zenn.irr] at this; cases this
 unfold SrtX;rw [y0i,y0i];refine ⟨h.sublist (List.take_sublist _ _),⟨y0n _ _,h.sublist (List.drop_sublist _ _),fun a ha b hb => ?_⟩,fun a ha b hb => ?_⟩
 ·obtain rfl:a=e:=by simpa using ha
  obtain ⟨j,f,rfl⟩:=y0a hb;rw [List.getElem_drop];exact d _ _ (by omega)
 ·obtain ⟨i,g,rfl⟩:=y0a ha;rw [y05] at g;rw [List.getElem_take];rcases y0p.1 hb with hb|hb
  ·obtain rfl:b=e:=by simpa using hb
   exact c _ _ (by omega)
  ·obtain ⟨j,f,rfl⟩:=y0a hb;rw [List.length_drop] at f;rw [List.getElem_drop];exact o i (k+j) (by omega) (by omega) (by omega)
theorem z41v {t:Tp} {c:Clu} : ∀ m,SrtX (idxL t c m)
 | 0=>List.Pairwise.nil
 | m+1=>zhsg (z41v m)
theorem zqdf {r:Rqs} {x:Ixe}:cmpR r x<0↔lsP (ixR x) r=true:=by
 rw [zaif,decide_eq_true_eq]; rfl
theorem z4xb {l:List Ixe} (h:SrtX l) (r:Rqs):Mono (cmpR r) l:=by
 intro i j hi hj hij hc;rw [zqdf] at hc ⊢;exact z7jw (y0f.1 h i j hi hj hij) hc
def ltT (a b:Tri):Prop:=a.grp<b.grp∨(a.grp=b.grp∧dgLt a.art b.art=true)
theorem zgl2 {i j:Nat} (h:i<j) (hj:j<3):dgLt (dgB ((i:Int)+1)) (dgB ((j:Int)+1))=true:=by
 have:(i=0∧j=1)∨(i=0∧j=2)∨(i=1∧j=2):=by omega
 rcases this with ⟨rfl,rfl⟩|⟨rfl,rfl⟩|⟨rfl,rfl⟩<;>rfl
theorem z2rl {t:Tp} {c:Clu} : ∀ m,(triS t c m).2.Pairwise ltT ∧ ∀ y ∈ (triS t c m).2,∃ p:Nat,p<m∧y.grp=(p / 3:Nat)∧y.art=dgB (((p % 3:Nat):Int)+1)
 | 0=>⟨List.Pairwise.nil,fun y hy=>by simp [triS] at hy⟩
 | m+1=>by
  obtain ⟨h1,h2⟩:=z2rl (t:=t) (c:=c) m;have up : ∀ y ∈ (triS t c m).2,∃ p:Nat,p<m+1∧y.grp=(p / 3:Nat)∧y.art=dgB (((p % 3:Nat):Int)+1):=fun y hy=>by
   obtain ⟨p,a,b⟩:=h2 y hy;exact ⟨p,by omega,b⟩
  unfold triS;split
  ·split
   ·split
    ·simp only;rw [y0i];refine ⟨⟨h1,y0n _ _,fun a ha b hb => ?_⟩,fun y hy => ?_⟩
     ·obtain rfl:b=_:=by simpa using hb
      obtain ⟨p,f,d,e⟩:=h2 a ha;unfold ltT;rw [d,e];simp only;by_cases q:p / 3=m / 3
      ·exact .inr ⟨by omega,zgl2 (i:=p % 3) (j:=m % 3) (by omega) (by omega)⟩
      ·exact .inl (by omega)
     ·rcases y0p.1 hy with hy|hy
      ·exact up y hy
      ·obtain rfl:y=_:=by simpa using hy
       exact ⟨m,by omega,rfl,rfl⟩
    ·exact ⟨h1,up⟩
   ·exact ⟨h1,up⟩
  ·exact ⟨h1,up⟩
theorem zyto {a b:Int}:cmpI a b<0↔a<b:=by unfold cmpI; split<;>(try split)<;>omega
theorem zybz {a b:Int}:cmpI a b=0↔a=b:=by unfold cmpI; split<;>(try split)<;>omega
theorem zc02 {g:Int} {d:Dg} {x:Tri}:cmpT g d x<0↔x.grp<g∨(x.grp=g∧dgLt x.art d=true):=by
 unfold cmpT orI;by_cases e:x.grp=g
 ·rw [if_pos (zybz.2 e),zxr9];simp [e]
 ·rw [if_neg (fun q=>e (zybz.1 q)),zyto]
  simp [e]
theorem zc0u {l:List Tri} (h:l.Pairwise ltT) (k:Int) (d:Dg):Mono (cmpT k d) l:=by
 intro i j hi hj hij hc;rw [zc02] at hc ⊢;have:=y0f.1 h i j hi hj hij;unfold ltT at this;rcases this with a|⟨a1,a2⟩
 ·rcases hc with b|⟨b1,b2⟩
  ·exact .inl (by omega)
  ·exact .inl (by omega)
 ·rcases hc with b|⟨b1,b2⟩
  ·exact .inl (by omega)
  ·exact .inr ⟨by omega,zc3a.tr _ _ _ a2 b2⟩
end
section
structure RI (gs:List (List UInt8 × List UInt8 × Int × Int × Int × List Dg)) (s:Rnd) (B O:Nat):Prop where
 v:ValidC s.c
 g:s.c.g.l.map gl=gs
 b:s.c.i.l.length≤B
 o:s.o.length≤O
section
variable {gs:List (List UInt8 × List UInt8 × Int × Int × Int × List Dg)} {s:Rnd} {B O:Nat} {t:Int}
theorem zzee (h:RI gs s B O) {B' O':Nat} (hb:B≤B') (ho:O≤O'):RI gs s B' O':=⟨h.v,h.g,by have:=h.b; omega,by have:=h.o; omega⟩
theorem z7tf (h:RI gs s B O) (id:Int):RI gs (zyao t s id) B (O+1):=by
 by_cases h0:(z5wo s.c id t 3).2=0
 ·obtain ⟨i,m,d⟩:=zkzr h0;have r:zcie t:=by
   by_cases q:zcie t
   ·exact q
   ·unfold z5wo at h0; rw [if_pos (.inr q)] at h0; simp at h0
  have k:s.c.i.l[i].state≠3:=by
   unfold z5wo at h0;rw [if_neg (fun q=>q.elim (fun q=>q h.v) (fun q=>q r)),d,if_neg (by omega),y0g,y00 m] at h0
   intro e;simp [may,e] at h0
  have f:s.c.i.l[i].id=id:=by
   obtain ⟨j,w,e,u,_⟩:=ziel (p:=fun x:Ins=>decide (x.id=id)) (l:=s.c.i.l) (by show (0:Int)≤z092 s.c.i.l id; rw [d]; omega)
   have e:z092 s.c.i.l id=j:=e;rw [d] at e;obtain rfl:i=j:=by omega
   simpa using u
  have a:=(z1s1 (gs:=gs) (s:=s) (l:=s.c.i.l) (n:=s.c.next) (o:=s.o) ⟨h.v,h.g,rfl,rfl,rfl⟩ r (y06 m) k).1;rw [f] at a;exact ⟨a.v,a.g,by rw [a.i,zo9a]; exact h.b,by rw [a.o]; simp [zzoh]; exact h.o⟩
 ·have e:zyao t s id=s:=by unfold zyao; rw [if_neg h0]
  rw [e]; exact zzee h (y02 _) (by omega)
theorem z165 : ∀ {V:List Int} {s:Rnd} {O:Nat},RI gs s B O→RI gs (V.foldl (zyao t) s) B (O+V.length)
 | [],s,O,h=>h
 | a::V,s,O,h=>by
  have:=z165 (V:=V) (z7tf (t:=t) h a);rw [y0o,y0c];exact zzee this (y02 _) (by omega)
theorem z3da (h:RI gs s B O) {tr:List Tri} {ix:List Ixe} {k:Int}:RI gs (zusy tr ix t k s).2 (B+1) (O+1):=by
 cases hb:(zusy tr ix t k s).1 with
 | false=>rw [z0v2 hb]; exact zzee h (by omega) (by omega)
 | true =>
  have r:=zu5r hb;cases hc:choC tr ix s.c k t with
  | none=>unfold zusy at hb; rw [hc] at hb; simp at hb
  | some d =>
   have f:zusy tr ix t k s=if (z4wu s.c k d t).2.2=0 then (true,⟨(z4wu s.c k d t).1,s.o++[⟨1,(z4wu s.c k d t).2.1,d⟩]⟩) else (false,s):=by unfold zusy; rw [hc]
   by_cases h0:(z4wu s.c k d t).2.2=0
   ·rw [if_pos h0] at f;have a:=h0;unfold z4wu at a;split at a
    ·simp at a
    rename_i c1
    split at a
    ·simp at a
    rename_i c2
    split at a
    ·simp at a
    rename_i c3
    have p:zcie t:=Classical.byContradiction fun q=>c1 (.inr (.inr q))
    have j:d≠dg0:=fun q=>c1 (.inr (.inl q))
    obtain ⟨K,rfl⟩ : ∃ K:Nat,k=K:=⟨k.toNat,by omega⟩
    have m:gs.length=s.c.g.l.length:=by rw [← h.g]; simp
    have e:=(zd62 (gs:=gs) (s:=s) (l:=s.c.i.l) (n:=s.c.next) (o:=s.o) ⟨h.v,h.g,rfl,rfl,rfl⟩ p (k:=K) (by omega) j (by omega) (by omega)).2.2.1
    have e:=e (s.o++[⟨1,(z4wu s.c K d t).2.1,d⟩]);rw [f];exact ⟨e.v,e.g,by rw [e.i]; simp; exact h.b,by simp; exact h.o⟩
   ·rw [if_neg h0] at f; rw [f] at hb; simp at hb
theorem z6og {tr:List Tri} {ix:List Ixe} {k want:Int} : ∀ {m:Nat} {s:Rnd} {B O:Nat},RI gs s B O→RI gs (zinu tr ix t k want m s) (B+m) (O+m)
 | 0,s,B,O,h=>h
 | m+1,s,B,O,h=>by
  unfold zinu;split
  ·exact zzee (z6og (m:=m) (z3da h)) (by omega) (by omega)
  ·exact zzee h (by omega) (by omega)
theorem zf4b (h:RI gs s B O) {tr:List Tri} {ix:List Ixe} {k want:Int}:RI gs (filS tr ix t k want s) (B+want.toNat) (O+want.toNat):=by
 unfold filS;exact zzee (z6og h) (by omega) (by omega)
end
end
section
section
variable {gs:List (List UInt8 × List UInt8 × Int × Int × Int × List Dg)} {s:Rnd} {B O:Nat} {t:Int}
theorem zux2 (h:RI gs s B O) {k:Int}:RI gs (grS1 t k s) B (O+B):=by
 have a:=zt4h (k:=k) (G:=znqs s.c k) (b:=false) (l:=s.c.i.l);have:=h.b;exact zzee (z165 (t:=t) (V:=stgL k (znqs s.c k) false s.c.i.l) h) (y02 _) (by omega)
theorem znba (h:RI gs s B O) {k want:Int}:RI gs (grS2 t k want s) B (O+B):=by
 have a:=zt4h (k:=k) (G:=znqs s.c k) (b:=true) (l:=s.c.i.l);have:=h.b;have d:((stgL k (znqs s.c k) true s.c.i.l).reverse.take ((znqs s.c k).length-want).toNat).length≤B:=by
  rw [y05,y0j]; omega
 exact zzee (z165 (t:=t) (V:=(stgL k (znqs s.c k) true s.c.i.l).reverse.take ((znqs s.c k).length-want).toNat) h) (y02 _) (by omega)
theorem zfti (h:RI gs s B O) {k:Int}:RI gs (grS3 t k s) B (O+3*B):=by
 have a:=z9e8 (c:=s.c) (k:=k);have:=h.b;have d:((zu3j s.c k).take (z17v s.c k).toNat).length≤3*B:=by rw [y05]; omega
 exact zzee (z165 (t:=t) (V:=(zu3j s.c k).take (z17v s.c k).toNat) h) (y02 _) (by omega)
theorem z714 (h:RI gs s B O) {tr:List Tri} {ix:List Ixe} {k want:Int}:RI gs (grpS tr ix t k want s) (B+want.toNat) (O+5*B+want.toNat) :=
 zzee (zf4b (zfti (znba (zux2 h)))) (by omega) (by omega)
theorem z8wq (h:RI gs s B O) (hB:B≤19) (hO:O≤20000) {k:Nat} {want:Int} (hk:k<s.c.g.l.length) (hw:s.c.g.l[k].want=want):GrOK t s k want:=by
 obtain ⟨q,_⟩:=h.v.g k hk;have e:=q.w0;have f:=q.w1;have a:=h.b;have d:=h.o;refine ⟨hk,hw,by omega,by omega,by omega,by omega,?_⟩
 have r:=znba (t:=t) (k:=k) (want:=want) (zux2 (t:=t) (k:=k) h);exact zt0b r.v (by have:=r.b; omega)
end
theorem z4ua {c d:Clu} (h:d.g.l.map gl=c.g.l.map gl) {k:Nat} (hk:k<c.g.l.length) : ∃ hk':k<d.g.l.length,d.g.l[k].want=ze6v c k:=by
 have a:d.g.l.length=c.g.l.length:=by have:=congrArg List.length h; simpa using this
 refine ⟨by omega,?_⟩
 have e:gl (d.g.l[k]'(by omega))=gl c.g.l[k]:=by
  have:=y0l h (i:=k) (by simp; omega)
  simpa using this
 unfold ze6v;rw [y00 hk];simp only [gl,Prod.mk.injEq] at e;exact e.2.2.1
theorem z3g1 {c:Clu} {s0:Rnd} {tr:List Tri} {ix:List Ixe} {t:Int} {B0 O0:Nat} (h0:RI (c.g.l.map gl) s0 B0 O0) (hw : ∀ g ∈ c.g.l,g.want≤3) : ∀ {k:Nat},k≤c.g.l.length→k≤3→B0+9≤19→RI (c.g.l.map gl) (rndS tr ix t c k s0) (B0+3*k) (O0+100*k)
 | 0,_,_,_=>h0
 | k+1,hk,h3,hB=>by
  have ih:=z3g1 (tr:=tr) (ix:=ix) (t:=t) h0 hw (k:=k) (by omega) (by omega) hB
  have hwk:ze6v c k≤3:=by
   unfold ze6v;rw [y00 (show k<c.g.l.length by omega)]
   exact hw _ (y06 _)
  exact zzee (z714 (tr:=tr) (ix:=ix) (t:=t) (k:=k) (want:=ze6v c k) ih) (by omega) (by omega)
theorem zwds {c:Clu} (hv:ValidC c):ValidC c.clone :=
 zqis hv (y:=c.i.clone) rfl fun i h1 h2=>⟨rfl,(hv.i i h2).1⟩
theorem zpyu {c:Clu} (hv:ValidC c) {gr:List Int} {t:Int}:RI (c.g.l.map gl) (rnd0 gr t c) c.i.l.length c.i.l.length:=by
 have a:RI (c.g.l.map gl) ⟨c.clone,[]⟩ c.i.l.length 0:=⟨zwds hv,z9hp _,y02 _,y02 _⟩;have b:=z9p7 (gr:=gr) (t:=t) (l:=c.i.l) (j:=0);exact zzee (z165 (t:=t) (V:=ze9z c.i.l 0 gr t) a) (y02 _) (by omega)
theorem zrko {a:RdA} (hv:ValidC a.c) (hn:a.c.g.l.length≤3) (hw : ∀ g ∈ a.c.g.l,g.want≤3) (hi:a.c.i.l.length≤10) (hch:ChOK a.x a.tr) (hov:OvOK (a.c,a.gr,a.t)):RdOK a:=by
 refine ⟨hch,hov,by omega,fun k hk => ?_⟩
 have d:=zzee (zpyu (gr:=a.gr.l) (t:=a.t) hv) hi hi;have b:=z3g1 (tr:=a.tr.l) (ix:=a.x.e.l) (t:=a.t) d hw (k:=k) (by omega) (by omega) (by decide)
 obtain ⟨p,q⟩:=z4ua b.g hk;exact z8wq b (by omega) (by omega) p q
def Sml (c:Clu) (n:Nat):Prop:=(∀ x ∈ c.g.l,x.want≤3)∧c.g.l.length≤n
theorem zipw {c:Clu} {g:Grp} {n:Nat} (h:(zxl9 c g).2=0) (hc:Sml c n) (hn:n≤100) (hg:g.want≤3):Sml (zxl9 c g).1 (n+1):=by
 obtain ⟨b,d⟩:=hc;unfold zxl9 at h ⊢;split at h
 ·simp at h
 rename_i c1
 rw [if_neg c1];split at h
 ·rename_i c2
  rw [if_pos c2];split at h
  ·simp at h
  rename_i c3
  rw [if_neg c3];have a:(own (c.g.l++[g])).l=c.g.l++[g]:=z3e9 (by simp; omega)
  refine ⟨fun x hx => ?_,by show (own _).l.length≤_; rw [a]; simp; omega⟩
  have hx:x ∈ (own (c.g.l++[g])).l:=hx;rw [a] at hx;rcases y0p.1 hx with hx|hx
  ·exact b x hx
  ·obtain rfl:x=g:=by simpa using hx
   exact hg
 ·rename_i c2
  rw [if_neg c2];have a:(own (c.g.l.set (z9w0 c.g.l g.ns g.im).toNat g)).l=c.g.l.set (z9w0 c.g.l g.ns g.im).toNat g:=z3e9 (by simp; omega)
  refine ⟨fun x hx => ?_,by show (own _).l.length≤_; rw [a]; simp; omega⟩
  have hx:x ∈ (own (c.g.l.set (z9w0 c.g.l g.ns g.im).toNat g)).l:=hx;rw [a] at hx;rcases List.mem_or_eq_of_mem_set hx with hx|hx
  ·exact b x hx
  ·rw [hx]; exact hg
theorem zk8v : ∀ (k:Nat) (c:Clu) (t:Tp) (n:Nat),Sml c n→n+k≤100→Sml (zp0i k c t).1 (n+k)
 | 0,c,t,n,h,_=>h
 | k+1,c,t,n,h,hn=>by
  have hw:(zlt0 t zdmg).1.want≤3:=by
   have:=z2s7 (t.adv 2) (n:=4) (by decide)
   show tpN (t.adv 2) 4≤3;omega
  have a:Sml (dOne c t) (n+1):=by
   unfold dOne;split
   ·rename_i q; exact zipw q h (by omega) hw
   ·exact ⟨h.1,by have:=h.2; omega⟩
  have:=zk8v k (dOne c t) (zlt0 t zdmg).2 (n+1) a (by omega)
  show Sml (zp0i k (dOne c t) (zlt0 t zdmg).2).1 (n+(k+1));rw [show n+(k+1)=n+1+k by omega]
  exact this
theorem z7ak (t:Tp) (m:Int):Sml (zcpt t m).1 2:=by
 have b:Sml (cl0 t) 0:=⟨fun x hx=>by simp [cl0,nilG] at hx,by simp [cl0,nilG]⟩
 have d:=z2s7 (t.adv 1) (n:=2) (by decide)
 have c:=z4rs (t.adv 1) 2;have a:=zk8v ((tpN (t.adv 1) 2).toNat+1) (cl0 t) (t.adv 2) 0 b (by omega)
 exact ⟨a.1,by have:=a.2; show (clD t).1.g.l.length≤2; unfold clD; omega⟩
end
section
theorem zpl6 (s:Scn):zbao (scnC s)=true:=by
 simp only [scnC,zbao,zyp8,z1vd,zcha,zm03,znen,z4yh,y07]
noncomputable def cScn:List DV→Nat→Option (DV × List AObj):=conN (fun _=>True) (fun x:Nl=>[x.dv]) (fun x=>(.tup [.agg (scnC (scnV (tp0 x 300)).1),.mp 1 2 0],[.cells (scnC (scnV (tp0 x 300)).1),.cells (tpC (scnV (tp0 x 300)).2),.cells (scnC (scnV (tp0 x 300)).1)]))
theorem zd92 {x:Nl} {n:Nat}:cScn [x.dv] n=some (.tup [.agg (scnC (scnV (tp0 x 300)).1),.mp (n+1) 2 0],[.cells (scnC (scnV (tp0 x 300)).1),.cells (tpC (scnV (tp0 x 300)).2),.cells (scnC (scnV (tp0 x 300)).1)]):=by
 have:=zqtp (A:=fun _=>True) (f:=fun x:Nl=>[x.dv]) (g:=fun x=>(DV.tup [.agg (scnC (scnV (tp0 x 300)).1),.mp 1 2 0],[AObj.cells (scnC (scnV (tp0 x 300)).1),.cells (tpC (scnV (tp0 x 300)).2),.cells (scnC (scnV (tp0 x 300)).1)])) (fun a b e=>by
  simp only [List.cons.injEq,and_true] at e;rw [z2kw e]) x trivial n
 rw [cScn,this];simp [shD,shO,shL,zj45,zpl6,zs7w,Nat.add_comm]
theorem zr8u:(Con.new cScn).Sound P 12:=z3ld (fun x _=>by simp [zbao,zkx7]) fun x _=>zv22 mix zqvq Tryz.func12 zqkh (zfog x)
noncomputable def cRnd:List DV→Option DV:=con RdOK (fun a=>[.agg (clC a.c),.agg (xiC a.x),a.tr.dv 35 trC,a.gr.dv,.int .i64 a.t]) (fun a=>rdV (rndP a.tr.l a.x.e.l a.gr.l a.t a.c))
theorem zunp {a:RdA} (h:RdOK a):cRnd [.agg (clC a.c),.agg (xiC a.x),a.tr.dv 35 trC,a.gr.dv,.int .i64 a.t]=some (rdV (rndP a.tr.l a.x.e.l a.gr.l a.t a.c)) :=
 zzno (A:=RdOK) (f:=fun a=>[.agg (clC a.c),.agg (xiC a.x),a.tr.dv 35 trC,a.gr.dv,.int .i64 a.t]) (g:=fun a=>rdV (rndP a.tr.l a.x.e.l a.gr.l a.t a.c)) (by
  rintro ⟨a1,a2,a3,a4,a5⟩ ⟨b1,b2,b3,b4,b5⟩ e;simp only [List.cons.injEq,DV.agg.injEq,DV.int.injEq,and_true,true_and] at e;rw [zh7t e.1,zt7p e.2.1,z47i e.2.2.1,z2kw e.2.2.2.1,e.2.2.2.2]) a h
theorem zclv:(Con.pure cRnd).Sound P 25:=z2au fun a h=>z81i a h
end
section
theorem zxrl {tr:List Tri} {ix:List Ixe} {c d:Clu} {k:Nat} {t:Int} (h:c.g.l.map gl=d.g.l.map gl):choC tr ix c k t=choC tr ix d k t:=by
 have m:c.g.l.length=d.g.l.length:=by have:=congrArg List.length h; simpa using this
 unfold choC grAt;rw [if_pos (by omega),if_pos (by omega),y0g]
 by_cases hk:k<c.g.l.length
 ·rw [y00 hk,y00 (show k<d.g.l.length by omega)]
  have e:gl c.g.l[k]=gl (d.g.l[k]'(by omega)):=by
   have:=y0l h (i:=k) (by simp; omega)
   simpa using this
  simp only [gl,Prod.mk.injEq] at e;obtain ⟨a,b,_,_,_,f⟩:=e;show choF tr ix c.g.l[k] k t=choF tr ix (d.g.l[k]'(by omega)) k t
  unfold choF;rw [f];have j:choB tr ix c.g.l[k] k t=choB tr ix (d.g.l[k]'(by omega)) k t:=by
   funext x;unfold choB;rw [a,b]
  rw [j]
 ·rw [y08 (by omega),y08 (by omega)]
theorem zmpl {t:Int} {s:Rnd} {id:Int}:(zyao t s id).c.next=s.c.next:=by
 unfold zyao;split
 ·rename_i h
  show (z5wo s.c id t 3).1.next=_;unfold z5wo at h ⊢;by_cases h1:¬ ValidC s.c∨¬ zcie t
  ·rw [if_pos h1] at h; simp at h
  rw [if_neg h1] at h ⊢;by_cases h2:z092 s.c.i.l id<0
  ·rw [if_pos h2] at h; simp at h
  rw [if_neg h2] at h ⊢;split at h
  ·rename_i h3; rw [if_pos h3]
  ·simp at h
 ·rfl
theorem zl9x {t:Int} : ∀ {V:List Int} {s:Rnd},(V.foldl (zyao t) s).c.next=s.c.next
 | [],s=>rfl
 | a::V,s=>by rw [y0o,zl9x,zmpl]
theorem zzn3 {tr:List Tri} {ix:List Ixe} {t k:Int} {s:Rnd}:(zusy tr ix t k s).2.c.next≤s.c.next+1:=by
 unfold zusy;split
 ·simp only; omega
 ·split
  ·rename_i h
   rw [(zzaj h).1];exact Int.le_refl _
  ·simp only; omega
end
section
def part (k:Int) (l:List Ins):List Ins:=l.filter fun x=>decide (x.grp=k)
end
section
theorem zpwj {tr:List Tri} {ix:List Ixe} {t k want:Int} : ∀ {m:Nat} {s:Rnd},(zinu tr ix t k want m s).c.next≤s.c.next+m
 | 0,s=>by simp [zinu]
 | m+1,s=>by
  unfold zinu;split
  ·have h1:=zpwj (tr:=tr) (ix:=ix) (t:=t) (k:=k) (want:=want) (m:=m) (s:=(zusy tr ix t k s).2);have h2:=zzn3 (tr:=tr) (ix:=ix) (t:=t) (k:=k) (s:=s);omega
  ·omega
theorem zwk4 {t k want:Int} {s:Rnd}:(grS3 t k (grS2 t k want (grS1 t k s))).c.next=s.c.next:=by
 unfold grS3;rw [zl9x];unfold grS2;rw [zl9x];unfold grS1;rw [zl9x]
theorem zvzy {tr:List Tri} {ix:List Ixe} {t k want:Int} {s:Rnd}:(grpS tr ix t k want s).c.next≤s.c.next+want.toNat:=by
 unfold grpS filS;have:=zpwj (tr:=tr) (ix:=ix) (t:=t) (k:=k) (want:=want) (m:=(want-((znqs (grS3 t k (grS2 t k want (grS1 t k s))).c k).length:Int)).toNat) (s:=grS3 t k (grS2 t k want (grS1 t k s)));rw [zwk4] at this;omega
theorem zblg {c:Clu} {s0:Rnd} {tr:List Tri} {ix:List Ixe} {t:Int} (hw : ∀ g ∈ c.g.l,g.want≤3) : ∀ {k:Nat},k≤c.g.l.length→(rndS tr ix t c k s0).c.next≤s0.c.next+3*k
 | 0,_=>by simp [rndS]
 | k+1,hk=>by
  have ih:=zblg (tr:=tr) (ix:=ix) (t:=t) (s0:=s0) hw (k:=k) (by omega)
  have hwk:ze6v c k≤3:=by
   unfold ze6v;rw [y00 (show k<c.g.l.length by omega)]
   exact hw _ (y06 _)
  have a:=zvzy (tr:=tr) (ix:=ix) (t:=t) (k:=k) (want:=ze6v c k) (s:=rndS tr ix t c k s0);show (grpS tr ix t k (ze6v c k) (rndS tr ix t c k s0)).c.next≤_;omega
section
variable {c:Clu} {gr:List Int} {tr:List Tri} {ix:List Ixe} {t:Int} (hv:ValidC c) (hn:c.g.l.length≤3) (hw : ∀ g ∈ c.g.l,g.want≤3) (hi:c.i.l.length≤10) (hx:c.next≤1000000) (ht:zcie t)
include hv hn hw hi in
theorem ztza {k:Nat} (hk:k≤c.g.l.length):RI (c.g.l.map gl) (rndS tr ix t c k (rnd0 gr t c)) (10+3*k) (10+100*k) :=
 z3g1 (zzee (zpyu hv) hi hi) hw hk (by omega) (by decide)
end
end
section
theorem znuy (t:Tp) (m:Int) (h0:0≤m) (h1:m≤200):(zcpt t m).1.next≤1000000:=by
 obtain ⟨b,c⟩:=zfm1 t;have f:=z4rs (clD t).2 (m+1);have h:=z2s7 (clD t).2 (n:=m+1) (by omega)
 have a:1≤(clD t).1.g.l.length:=List.length_pos_iff.2 c;obtain ⟨-,-,e,-⟩:=zc7j a (tpN (clD t).2 (m+1)).toNat [] (clD t).1.next ((clD t).2.adv 1) b.n0 ⟨by simp,by simp⟩
 have d:=b.n1;show (zgc4 (clD t).1.g.l.length (tpN (clD t).2 (m+1)).toNat [] (clD t).1.next ((clD t).2.adv 1)).2.1≤_;omega
def trSl (l:List Tri) (h:l.length≤100000):Sl Tri:=⟨if l=[] then none else some false,l,fun e=>by
 by_cases q:l=[]
 ·exact q
 ·simp [q] at e,by omega⟩
theorem z3eh {l:List Tri} (h:l.length≤100000):(trSl l h).dv 35 trC=trV l:=by
 unfold trSl trV Sl.dv;by_cases q:l=[]
 ·simp only [q,if_true]; rfl
 ·simp only [q,if_false]; rfl
structure ScnF (s:Scn) (a:RdA):Prop where
 ok:RdOK a
 c:a.c=s.c
 x0:a.x.at_=0
 x:a.x.e.dv 105 ixC=isV s.x
 tr:a.tr.dv 35 trC=trV s.tr
 gr:a.gr.dv=liV s.gr
 t:a.t=s.t
 v:ValidC a.c
 n:a.c.g.l.length≤3
 w : ∀ g ∈ a.c.g.l,g.want≤3
 i:a.c.i.l.length≤10
 nx:a.c.next≤1000000
 tm:zcie a.t
theorem ztew (u:Tp) (hu:u.at_=0) : ∃ a,ScnF (scnV u).1 a:=by
 obtain ⟨o,G⟩:=zlnb u 8 (by decide) (by decide)
 have s:=zukg u 8 (by decide) (by decide)
 have F:=z2ep u 8 (by decide) (by decide)
 have m:=znuy u 8 (by decide) (by decide)
 obtain ⟨D,O⟩:=z7ak u 8;obtain ⟨c,E⟩ : ∃ c,(zcpt u 8).1=c:=⟨_,rfl⟩;obtain ⟨w,L⟩ : ∃ w,(zcpt u 8).2=w:=⟨_,rfl⟩;rw [E] at o G s m D O;have f:c.i.l.length≤10:=by omega
 have I:=zjjk (t:=w) (c:=c) (3*c.g.l.length);have K:=zso0 (t:=w.adv (3*c.g.l.length)) (c:=c) (3*c.g.l.length);have A:=(z2rl (t:=w.adv (3*c.g.l.length)) (c:=c) (3*c.g.l.length)).1;have h:=z41v (t:=w) (c:=c) (3*c.g.l.length);obtain ⟨b,B⟩ : ∃ b,(triS (w.adv (3*c.g.l.length)) c (3*c.g.l.length)).1=b:=⟨_,rfl⟩;have H:=zuov (t:=b) (n:=c.i.l.length);have Q:=z2s7 (b.adv c.i.l.length) (n:=20) (by decide)
 have N:=z4rs (b.adv c.i.l.length) 20;have z:zcie (30+tpN (b.adv c.i.l.length) 20):=⟨by omega,by omega⟩
 have y:(scnV u).1=⟨c,idxL w c (3*c.g.l.length),(triS (w.adv (3*c.g.l.length)) c (3*c.g.l.length)).2,graL b c.i.l.length,30+tpN (b.adv c.i.l.length) 20⟩:=by rw [← B,← E,← L]; rfl
 rw [y];have p:ChOK ⟨0,isS (idxL w c (3*c.g.l.length)) (by omega)⟩ (trSl (triS (w.adv (3*c.g.l.length)) c (3*c.g.l.length)).2 (by omega)):=⟨fun k d=>zc0u A k d,fun r=>z4xb h r⟩
 have v:OvOK (c,nlO (graL b c.i.l.length) (by omega),30+tpN (b.adv c.i.l.length) 20):=by
  refine ⟨fun x C => ?_,fun n q => ?_,(show okT (30+tpN (b.adv c.i.l.length) 20) from ⟨by omega,by omega⟩)⟩
  ·have C:x ∈ c.i.l:=C;obtain ⟨j,J,rfl⟩:=y0a C;rcases (o.i j J).1.de with e|e
   ·rw [e]; exact ⟨by decide,by decide⟩
   ·exact ⟨by have:=e.1; omega,by have:=e.2; omega⟩
  ·have q:n ∈ graL b c.i.l.length:=q;have:=z3e0 q;exact ⟨by omega,by omega⟩
 exact ⟨⟨c,⟨0,isS (idxL w c (3*c.g.l.length)) (by omega)⟩,trSl (triS (w.adv (3*c.g.l.length)) c (3*c.g.l.length)).2 (by omega),nlO (graL b c.i.l.length) (by omega),30+tpN (b.adv c.i.l.length) 20⟩,zrko o (by show c.g.l.length≤3; omega) D f p v,rfl,rfl,zz41 (by omega),z3eh (by omega),zigl (by omega),rfl,o,by show c.g.l.length≤3; omega,D,f,m,z⟩
end
section
section
variable {gs:List (List UInt8 × List UInt8 × Int × Int × Int × List Dg)} {B:Nat} {t:Int}
def idsQ (q:Ins→Bool) (l:List Ins):List Int:=(l.filter q).map Ins.id
theorem z6r9 {q:Ins→Bool} {l:List Ins} {id:Int}:id ∈ idsQ q l ↔ ∃ x ∈ l,q x=true∧x.id=id:=by
 unfold idsQ;rw [List.mem_map];constructor
 ·rintro ⟨x,hx,e⟩;obtain ⟨a,b⟩:=y0q.1 hx;exact ⟨x,a,b,e⟩
 ·rintro ⟨x,hx,hq,e⟩;exact ⟨x,y0q.2 ⟨hx,hq⟩,e⟩
theorem z9c3 {q:Ins→Bool} {l l':List Ins}:idsQ q (l++l')=idsQ q l++idsQ q l':=by
 unfold idsQ; rw [List.filter_append,List.map_append]
theorem z4g5 {q:Ins→Bool} (hq : ∀ x,q x=true→x.state≠3) {V:List Int} : ∀ {l:List Ins},idsQ q (mkS t V l)=(idsQ q l).filter (fun id=>decide (id ∉ V))
 | []=>rfl
 | a::l=>by
  have ih:=z4g5 hq (V:=V) (l:=l);have h3:q (stI t a)=false:=by
   cases e:q (stI t a) with
   | false=>rfl
   | true=>exact absurd (zgls t a) (hq _ e)
  unfold idsQ mkS at ih ⊢;rw [y0e];by_cases hm:a.id ∈ V
  ·rw [if_pos hm,y04,h3,y04];cases hqa:q a
   ·simpa using ih
   ·simp only [Bool.false_eq_true,if_false,if_true,y0e,y04,hm,not_true_eq_false,decide_false];exact ih
  ·rw [if_neg hm,y04,y04];cases hqa:q a
   ·simpa using ih
   ·simp only [if_true,y0e,y04];rw [if_pos (by simp [hm])]
    rw [ih]
end
def zapb (x:Ins):Cmd:=⟨1,x.id,x.art⟩
structure TR (c:Clu) (tr:List Tri) (ix:List Ixe) (t k:Int) (s:Rnd) (V:List Int) (N:List Ins):Prop where
 l:s.c.i.l=mkS t V c.i.l++N
 nd:V.Nodup
 iv : ∀ id ∈ V,∃ x ∈ c.i.l,x.id=id∧x.state≠3
 ni : ∀ x ∈ N,c.next≤x.id∧x.id<s.c.next∧0≤x.grp∧x.grp<k∧x.state=1∧x.den = -1∧choC tr ix c x.grp t=some x.art
 np:N.Pairwise (fun x y=>x.id<y.id)
 o:s.o.Perm (zzoh c.i.l V++N.map zapb)
 nx:c.next≤s.c.next
theorem z85t {gr:List Int} {t:Int} : ∀ {l:List Ins} {i:Nat},(ze9z l i gr t).Sublist (l.map Ins.id)
 | [],_=>List.Sublist.refl _
 | x::r,i=>by
  have ih:=z85t (gr:=gr) (t:=t) (l:=r) (i:=i+1);unfold ze9z;split
  ·exact ih.cons_cons _
  ·exact ih.cons _
theorem zgrg {c:Clu} (hv:ValidC c) {gr:List Int} {t:Int}:(ze9z c.i.l 0 gr t).Nodup:=by
 have h:=zg4k.1 (zyak hv).d;exact (h.sublist z85t).imp fun {a b} q e=>by omega
theorem za3t {l:List Ins} {gr:List Int} {t:Int} : ∀ id ∈ ze9z l 0 gr t,∃ x ∈ l,x.id=id∧x.state≠3∧0≤x.den:=fun id hid=>by
 obtain ⟨j,hj,h1,h2⟩:=zunx.1 hid;simp only [z9hf,y0h,decide_eq_true_eq] at h1;exact ⟨_,y06 hj,h2,h1.1,h1.2.1⟩
end
section
def qGd (k:Nat) (g:Grp) (x:Ins):Bool:=decide (x.grp=(k:Int))&&z9qu g x
def qLv (k:Nat) (x:Ins):Bool:=decide (x.grp=(k:Int))&&decide (x.state=2)
def qDn (k:Nat) (x:Ins):Bool:=decide (x.grp=(k:Int))&&(decide (x.state=2)&&decide (0≤x.den))
def qRp (k:Nat) (g:Grp) (x:Ins):Bool:=decide (x.grp=(k:Int))&&sRep g x
def qSp (k:Nat) (g:Grp) (x:Ins):Bool:=decide (x.grp=(k:Int))&&z7e4 g x
theorem zapq {k:Nat} {g:Grp} : ∀ x,qGd k g x=true→x.state≠3:=fun x h=>by
 simp only [qGd,z9qu,y0h,decide_eq_true_eq] at h;exact h.2.1
theorem zw63 {k:Nat} : ∀ x,qLv k x=true→x.state≠3:=fun x h=>by
 simp only [qLv,y0h,decide_eq_true_eq] at h;omega
section
variable {c d:Clu} {k:Nat} (h:d.g.l.map gl=c.g.l.map gl) (hk:k<c.g.l.length)
include h hk in
theorem z7pn : ∃ g,grAt d k=some g∧gl g=gl c.g.l[k]:=by
 have a:d.g.l.length=c.g.l.length:=by have:=congrArg List.length h; simpa using this
 refine ⟨d.g.l[k]'(by omega),?_,?_⟩
 ·unfold grAt; rw [if_pos (by omega),y0g,y00 (by omega)]
 ·have:=y0l h (i:=k) (by simp; omega)
  simpa using this
include h hk in
theorem z1ms:znqs d k=idsQ (qGd k c.g.l[k]) d.i.l:=by
 obtain ⟨g,b,e⟩:=z7pn h hk;simp only [gl,Prod.mk.injEq] at e;obtain ⟨_,_,_,_,_,a⟩:=e;have f:z9qu g=z9qu c.g.l[k]:=by
  funext x; unfold z9qu chos; rw [a]
 unfold znqs idsP;rw [b];simp only [f]
 rfl
include h hk in
theorem zb41:zd1c d k=(idsQ (qLv k) d.i.l).length:=by
 obtain ⟨g,a,_⟩:=z7pn h hk;unfold zd1c idsP;rw [a]
 rfl
include h hk in
theorem zouj:z17v d k=max ((zd1c d k:Int)-max c.g.l[k].least (c.g.l[k].want-c.g.l[k].down)) 0:=by
 obtain ⟨g,i,e⟩:=z7pn h hk;simp only [gl,Prod.mk.injEq] at e;obtain ⟨_,_,a,b,f,_⟩:=e;unfold z17v;rw [i];simp only [a,b,f]
include h hk in
theorem zssx:zu3j d k=zxu4 (ltV d) (idsQ (qDn k) d.i.l)++(idsQ (qRp k c.g.l[k]) d.i.l++(idsQ (qSp k c.g.l[k]) d.i.l).reverse.take ((znqs d k).length-c.g.l[k].want).toNat):=by
 obtain ⟨g,m,e⟩:=z7pn h hk;simp only [gl,Prod.mk.injEq] at e;obtain ⟨_,_,b,_,_,a⟩:=e;have f:sRep g=sRep c.g.l[k]:=by funext x; unfold sRep chos; rw [a]
 have j:z7e4 g=z7e4 c.g.l[k]:=by funext x; unfold z7e4 chos; rw [a]
 unfold zu3j idsP;rw [m];simp only [f,j,b]
 rfl
end
theorem zy4e {a:Int} : ∀ {G:List Int},G.Nodup→G.length≤(G.filter (fun i=>decide (i≠a))).length+1
 | [],_=>by simp
 | b::G,h=>by
  rw [List.nodup_cons] at h;by_cases e:b=a
  ·subst e;have:G.filter (fun i=>decide (i≠b))=G:=y0k.2 fun i hi=>by
    rw [decide_eq_true_eq];rintro rfl;exact h.1 hi
   rw [y04,if_neg (by simp),this,y0c]
   omega
  ·have:=zy4e (a:=a) h.2;rw [y04,if_pos (by simpa using e),y0c,y0c]
   omega
theorem zh1a : ∀ {V G:List Int},G.Nodup→G.length≤(G.filter (fun i=>decide (i ∉ V))).length+V.length
 | [],G,_=>by
  rw [y0k.2 (fun i _=>by simp)]
  exact Nat.le_add_right _ _
 | a::V,G,h=>by
  have h1:=zy4e (a:=a) h;have h2:=zh1a (V:=V) (G:=G.filter (fun i=>decide (i≠a))) (h.sublist y0w)
  rw [List.filter_filter] at h2;have e:(fun i=>decide (i ∉ a::V))=fun i=>decide (i ∉ V)&&decide (i≠a):=by
   funext i;by_cases e:i=a<;>simp [e]
  rw [e,y0c];omega
theorem zwjn : ∀ {V G:List Int},V.Nodup→(∀ i ∈ V,i ∈ G)→(G.filter (fun i=>decide (i ∉ V))).length+V.length≤G.length
 | [],G,_,_=>by
  rw [y0k.2 (fun i _=>by simp)]
  exact y02 _
 | a::V,G,hn,h=>by
  rw [List.nodup_cons] at hn;have h1:(G.filter (fun i=>decide (i≠a))).length<G.length:=List.length_filter_lt_length_iff_exists.2 ⟨a,h a (by simp),by simp⟩
  have h2:=zwjn (V:=V) (G:=G.filter (fun i=>decide (i≠a))) hn.2 (fun i hi=>y0q.2 ⟨h i (by simp [hi]),by
   rw [decide_eq_true_eq];rintro rfl;exact hn.1 hi⟩)
  rw [List.filter_filter] at h2;have e:(fun i=>decide (i ∉ a::V))=fun i=>decide (i ∉ V)&&decide (i≠a):=by
   funext i;by_cases e:i=a<;>simp [e]
  rw [e,y0c];omega
theorem zofr {q:Ins→Bool} {l:List Ins} (hd:l.Pairwise (fun x y=>x.id<y.id)):(idsQ q l).Nodup:=by
 have:=(zg4k.1 hd).sublist ((y0w (p:=q) (l:=l)).map Ins.id);exact this.imp fun {a b} q e=>by omega
section
variable {c:Clu} {s:Rnd} {B O:Nat} {t:Int} {k:Nat} {tr:List Tri} {ix:List Ixe}
theorem zp8u {l:List Ins} (hd:l.Pairwise (fun x y=>x.id<y.id)) {p q:Ins→Bool} {i:Int} (h1:i ∈ idsQ p l) (h2:i ∈ idsQ q l) : ∃ x ∈ l,x.id=i∧p x=true∧q x=true:=by
 obtain ⟨x,a,c,e⟩:=z6r9.1 h1;obtain ⟨y,f,d,b⟩:=z6r9.1 h2;have:=z4mt hd a f (by rw [e,b])
 subst this;exact ⟨x,a,e,c,d⟩
end
section
variable {c:Clu} {gr:List Int} {tr:List Tri} {ix:List Ixe} {t:Int} (hv:ValidC c) (hn:c.g.l.length≤3) (hw : ∀ g ∈ c.g.l,g.want≤3) (hi:c.i.l.length≤10) (ht:zcie t)
theorem zgyw {c:Clu} {k:Nat} (hk:k<c.g.l.length):ze6v c k=c.g.l[k].want:=by unfold ze6v; rw [y00 hk]
end
end
end Go.Proofs.YtaihpefemjlilaaGreatDoor

