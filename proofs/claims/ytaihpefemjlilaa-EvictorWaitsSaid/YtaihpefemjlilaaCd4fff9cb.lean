/-
  6 texts of mine in one.
-/
import Derived.Test.YtaihpefemjlilaaCeea056a4
import Derived.Test.YtaihpefemjlilaaCe215dd6a
import Derived.Test.YtaihpefemjlilaaCa70e4ebb
import Derived.Test.YtaihpefemjlilaaCa3048db6
import Derived.Test.YtaihpefemjlilaaC754fd984
set_option maxRecDepth 20000
set_option maxHeartbeats 4000000
open List renaming map_take → zA, map_drop → zB, map_set → zC, map_append → zD, drop_one → zE
set_option linter.unusedSimpArgs false
set_option linter.unusedVariables false
set_option maxRecDepth 20000
namespace Go.Proofs.Ytaihpefemjlilaa
open Go Go.Am
section
variable {α:Type} {c:α→Int} {l:List α}
def kOf (c:α→Int) (l:List α):Nat:=(l.takeWhile fun x=>decide (c x<0)).length
def fOf (c:α→Int) (l:List α):Bool:=match l[kOf c l]? with
 | some x=>decide (c x=0)
 | none=>false
def Mono (c:α→Int) (l:List α):Prop := ∀ i j (hi:i<l.length) (hj:j<l.length),i<j→c l[j]<0→c l[i]<0
theorem zgek : ∀ {l:List α} {i:Nat},i≤l.length→(∀ m (h:m<l.length),m<i→c l[m]<0)→(∀ h:i<l.length,¬ c l[i]<0)→kOf c l=i
 | [],i,h,_,_=>by simp at h; subst h; rfl
 | a::l,0,_,_,h=>by
  have:=h (by simp)
  simp only [List.getElem_cons_zero] at this
  simp [kOf,List.takeWhile_cons,this]
 | a::l,i+1,hi,h1,h2=>by
  have ha:=h1 0 (by simp) (by omega)
  simp only [List.getElem_cons_zero] at ha
  have ih:=zgek (l:=l) (i:=i) (by simpa using hi) (fun m hm hmi=>by
   have:=h1 (m+1) (by simpa using hm) (by omega)
   simpa using this) (fun h=>by
   have:=h2 (by simpa using h)
   simpa using this)
  have ha':decide (c a<0)=true:=decide_eq_true ha
  unfold kOf at ih ⊢
  rw [List.takeWhile_cons,ha',if_pos rfl,List.length_cons,ih]
theorem zjjt {i:Nat} (hk:kOf c l=i) (h:i<l.length):fOf c l=decide (c l[i]=0):=by
 unfold fOf; rw [hk,List.getElem?_eq_getElem h]
theorem zj9m {i:Nat} (hk:kOf c l=i) (h:¬ i<l.length):fOf c l=false:=by
 unfold fOf; rw [hk,List.getElem?_eq_none (by omega)]
end
theorem z9q1 : ∀ (a b:List UInt8),Lib.compareBytes a b=0↔a=b
 | [],[]=>by simp [Lib.compareBytes]
 | [],_::_=>by simp [Lib.compareBytes]
 | _::_,[]=>by simp [Lib.compareBytes]
 | x::a,y::b=>by
  have ih:=z9q1 a b
  simp only [Lib.compareBytes,List.cons.injEq]
  by_cases h:x<y
  ·have:x≠y:=fun e=>by subst e; exact absurd h (by simp)
   simp [h,this]
  ·by_cases h':y<x
   ·have:x≠y:=fun e=>by subst e; exact absurd h' (by simp)
    simp [h,h',this]
   ·have:x=y:=by
     have h1:¬ x.toNat<y.toNat:=fun q=>h (UInt8.lt_iff_toNat_lt.2 q)
     have h2:¬ y.toNat<x.toNat:=fun q=>h' (UInt8.lt_iff_toNat_lt.2 q)
     exact UInt8.toNat_inj.1 (by omega)
    simp [h,h',this,ih]
theorem zuux {a b:Dg}:zsy0 a b=0↔a=b:=by
 unfold zsy0
 rw [z9q1]
 exact ⟨fun h=>znyd _ _ h,fun h=>by rw [h]⟩
structure Tri where
 grp:Int
 art:Dg
 fl:Int
 af:Int
 deriving DecidableEq
def trC (x:Tri):List DV := .int .i64 x.grp::(dgC x.art++[.int .i64 x.fl,.int .i64 x.af])
theorem zezj (x:Tri):(trC x).length=35:=by simp [trC,z1t1]
theorem z1zd (x:Tri):zbao (trC x)=true:=by
 simp only [trC,zbao,zyp8,Bool.true_and]
 exact zg0c (z3ot _) (by simp [zbao,zyp8])
theorem zms9 (x:Tri):(trC x).all DV.one=true:=by simp only [trC,List.all_cons,List.all_append,zoxk,zzmf,List.all_nil,Bool.and_self]
theorem zst3 (x:Tri):(trC x).drop 1=dgC x.art++[.int .i64 x.fl,.int .i64 x.af]:=rfl
theorem zww5 : ∀ x:Tri,oneC 35 true (trC x)=some (.agg (trC x)):=fun x=>by simp [oneC,zezj,List.take_of_length_le]
theorem z7fr {x:Tri}:oneC 1 false (trC x)=some (.int .i64 x.grp):=rfl
theorem z56z {a b:Tri} (e:trC a=trC b):a=b:=by
 obtain ⟨a1,a2,a3,a4⟩:=a
 obtain ⟨b1,b2,b3,b4⟩:=b
 simp only [trC,List.cons.injEq,DV.int.injEq,true_and] at e
 obtain ⟨e1,e2⟩:=e
 have h:=List.append_inj e2 (by rw [z1t1,z1t1])
 simp only [List.cons.injEq,DV.int.injEq,true_and,and_true] at h
 rw [e1,zib9 h.1,h.2.1,h.2.2]
def cmpT (g:Int) (d:Dg) (x:Tri):Int:=orI (cmpI x.grp g) (zsy0 x.art d)
noncomputable def znlu:Tbl:=addT 29 (.pure (cII fun a b => .int .i64 (cmpI a b))) (addT 30 (.pure cBc) (addT 28 (.pure cOr) tbl0))
theorem z2rr:znlu 29 = .pure (cII fun a b => .int .i64 (cmpI a b)):=by simp [znlu]
theorem z7qx:znlu 30 = .pure cBc:=by simp [znlu]
theorem zu8u:znlu 28 = .pure cOr:=by simp [znlu]
theorem znzo:znlu.Sound P:=z0rp (z2au fun p _=>zljw mix ztzm Try.func29 ztig (zcof p.1 p.2)) (z0rp zroj (z0rp (z2au fun p _=>zljw mix zr5o Try.func28 z43f (z5l8 p.1 p.2)) zr5o))
theorem zswn (x:Tri):((trC x).drop 1).take 32=dgC x.art:=by
 rw [zst3,List.take_left' (z1t1 _)]
theorem ze4n (a b:Tri):Runs znlu a27 [.agg (trC a),.agg (trC b)] (.int .i64 (cmpT b.grp b.art a)):=by
 refine ⟨?_⟩
 have hb : ∀ h (x:Tri),boxD h (.agg (trC x))=some (.mp h.length 35 0,h++[.cells (trC x)]):=fun h x=>by rw [zn72,zezj]
 have hd : ∀ x:Tri,dgC x.art++[DV.int .i64 x.fl,.int .i64 x.af]=(trC x).drop 1:=fun x=>rfl
 simp (disch:=first|omega|simp<;>omega|fail) [-zA,-zB,-zC,-zD,-zE,a27,hb,z7fr,z2rr,zmei,z7qx,zswn,zezj,z3ot,z1f4,zu8u,z68y,cmpT]
noncomputable def cS1t:List DV→Option DV:=con (fun _=>True) (fun a:Tri × Tri=>[.agg (trC a.1),.agg (trC a.2)]) (fun a => .int .i64 (cmpT a.2.grp a.2.art a.1))
theorem z1ro {a b:Tri}:cS1t [.agg (trC a),.agg (trC b)]=some (.int .i64 (cmpT b.grp b.art a)) :=
 zsn4 (f:=fun a:Tri × Tri=>[.agg (trC a.1),.agg (trC a.2)]) (g:=fun a => .int .i64 (cmpT a.2.grp a.2.art a.1)) (by
  rintro ⟨a,b⟩ ⟨c,d⟩ e
  simp only [List.cons.injEq,DV.agg.injEq,and_true] at e
  rw [z56z e.1,z56z e.2]) (a,b)
noncomputable def zxgd:Tbl:=addT 27 (.pure cS1t) tbl0
theorem zrju:zxgd 27 = .pure cS1t:=by simp [zxgd]
theorem z0s4:zxgd.Sound P:=z0rp (z2au fun a _=>zljw mix znzo Try.func27 z3hx (ze4n a.1 a.2)) zr5o
structure IJ where
 i:Nat
 j:Nat
def sfn:DV := .fn (.func 27) [] []
def zos4 (x:Sl Tri) (t:Tri) (a:IJ):St:=zhlx (x.dv 35 trC) sfn (.mp 0 35 0) (.int .i64 x.l.length) (.int .i64 a.i) (.int .i64 a.j) [.cells (trC t)]
theorem zm7q (x:Sl Tri):zyp8 (x.dv 35 trC)=true:=zxxb z1zd x
theorem zjsf (i j:Nat):(max ((i:Int)+j) 0) >>> (1:Nat)=((i+j) / 2:Nat):=by
 rw [Int.max_eq_left (by omega),Int.shiftRight_eq_div_pow]; omega
theorem zfmw (x:Sl Tri) (t:Tri) (hm:Mono (cmpT t.grp t.art) x.l):Runs zxgd a26 [x.dv 35 trC,.agg (trC t),sfn] (.tup [.int .i64 (kOf (cmpT t.grp t.art) x.l),.bool (fOf (cmpT t.grp t.art) x.l)]):=by
 refine ⟨?_⟩
 have hb:=x.b
 have hbx : ∀ h (x:Tri),boxD h (.agg (trC x))=some (.mp h.length 35 0,h++[.cells (trC x)]):=fun h x=>by rw [zn72,zezj]
 have hlx : ∀ H,lenD H (x.dv 35 trC)=some (.int .i64 x.l.length):=fun H=>zupj
 simp (disch:=first|omega|simp<;>omega|fail) [-zA,-zB,-zC,-zD,-zE,a26,hbx,hlx,sfn]
 refine zlm5 (zos4 x t) (fun a=>a.j-a.i) (fun a=>a.i≤a.j∧a.j≤x.l.length∧(∀ m (h:m<x.l.length),m<a.i→cmpT t.grp t.art x.l[m]<0) ∧ ∀ m (h:m<x.l.length),a.j≤m→0≤cmpT t.grp t.art x.l[m]) ⟨0,x.l.length⟩ (z515 (by simp (disch:=first|omega|simp<;>omega|fail) [-zA,-zB,-zC,-zD,-zE,zos4,zhlx,sfn]) (by simp (disch:=first|omega|simp<;>omega|fail) [-zA,-zB,-zC,-zD,-zE,zos4,zhlx])) ⟨Nat.zero_le _,Nat.le_refl _,fun m _ h=>by simp at h,fun m h1 h2=>by have h2:x.l.length≤m:=h2; omega⟩ (fun a ha => ?_)
 obtain ⟨i,j⟩:=a
 obtain ⟨h1,h2,h3,h4⟩:=ha
 simp only at h1 h2 h3 h4
 simp only [zos4]
 by_cases g:i<j
 ·have g':(i:Int)<j:=by omega
  have hh:=zjsf i j
  obtain ⟨k,hk⟩ : ∃ k,(i+j) / 2=k:=⟨_,rfl⟩
  rw [hk] at hh
  have hkl:k<x.l.length:=by omega
  have hx : ∀ H,zpsc H 35 (x.dv 35 trC) k=some (.ref (trC x.l[k])):=fun H=>zalo zezj hkl
  have hc:=z1ro (a:=x.l[k]) (b:=t)
  have hlo:cmpT t.grp t.art x.l[k]<0 → ∀ m (h:m<x.l.length),m<k+1→cmpT t.grp t.art x.l[m]<0:=fun e m hml hmk=>by
   by_cases q:m=k
   ·subst q; exact e
   ·exact hm m k hml hkl (by omega) e
  have hhi:¬ cmpT t.grp t.art x.l[k]<0 → ∀ m (h:m<x.l.length),k≤m→0≤cmpT t.grp t.art x.l[m]:=fun e m hml hkm=>by
   by_cases p:m=k
   ·subst p; omega
   ·by_cases q:cmpT t.grp t.art x.l[m]<0
    ·exact absurd (hm k m hkl hml (by omega) q) e
    ·omega
  obtain ⟨u,hu⟩ : ∃ u,x.l[k]=u:=⟨_,rfl⟩
  rw [hu] at hx hc hlo hhi
  obtain ⟨v,hv⟩ : ∃ v,cmpT t.grp t.art u=v:=⟨_,rfl⟩
  rw [hv] at hc hlo hhi
  have h1t:=zww5 t
  by_cases q:v<0
  ·have hlo:=hlo q
   simp (disch:=first|omega|simp<;>omega|fail) [-zA,-zB,-zC,-zD,-zE,zr3y,zhlx,sfn,g,g',hh,hx,zww5,zezj,z1zd,zrju,hc,q]
   exact ⟨⟨k+1,j⟩,z515 (by simp (disch:=first|omega|simp<;>omega|fail) [-zA,-zB,-zC,-zD,-zE,zos4,zhlx,sfn]) (by simp (disch:=first|omega|simp<;>omega|fail) [-zA,-zB,-zC,-zD,-zE,zos4,zhlx]),by simp only; omega,by simp only; omega,by simp only; omega,hlo,fun m hml hjm=>h4 m hml hjm⟩
  ·have hhi:=hhi q
   have q':0≤v:=by omega
   simp (disch:=first|omega|simp<;>omega|fail) [-zA,-zB,-zC,-zD,-zE,zr3y,zhlx,sfn,g,g',hh,hx,zww5,zezj,z1zd,zrju,hc,q,q']
   exact ⟨⟨i,k⟩,z515 (by simp (disch:=first|omega|simp<;>omega|fail) [-zA,-zB,-zC,-zD,-zE,zos4,zhlx,sfn]) (by simp (disch:=first|omega|simp<;>omega|fail) [-zA,-zB,-zC,-zD,-zE,zos4,zhlx]),by simp only; omega,by simp only; omega,by simp only; omega,fun m hml hmi=>h3 m hml hmi,hhi⟩
 ·have g':¬ (i:Int)<j:=by omega
  obtain rfl:i=j:=by omega
  have hk:=zgek (c:=cmpT t.grp t.art) h2 h3 (fun h=>by have:=h4 i h (Nat.le_refl _); omega)
  have hf:=zjjt hk
  have hf':=zj9m hk
  rw [hk]
  by_cases e:i<x.l.length
  ·have e':(i:Int)<x.l.length:=by omega
   have hf:=hf e
   have hx : ∀ H,zpsc H 35 (x.dv 35 trC) i=some (.ref (trC x.l[i])):=fun H=>zalo zezj e
   have hc:=z1ro (a:=x.l[i]) (b:=t)
   obtain ⟨u,hu⟩ : ∃ u,x.l[i]=u:=⟨_,rfl⟩
   rw [hu] at hx hc hf
   rw [hf]
   obtain ⟨v,hv⟩ : ∃ v,cmpT t.grp t.art u=v:=⟨_,rfl⟩
   rw [hv] at hc
   rw [hv]
   simp (disch:=first|omega|simp<;>omega|fail) [-zA,-zB,-zC,-zD,-zE,zr3y,zhlx,sfn,g,g',e,e',hx,zww5,zezj,z1zd,zrju,hc]
  ·have e':¬ (i:Int)<x.l.length:=by omega
   rw [hf' e]
   simp (disch:=first|omega|simp<;>omega|fail) [-zA,-zB,-zC,-zD,-zE,zr3y,zhlx,sfn,g,g',e,e']
end Go.Proofs.Ytaihpefemjlilaa
set_option linter.unusedSimpArgs false
set_option linter.unusedVariables false
set_option maxRecDepth 20000
namespace Go.Proofs.Ytaihpefemjlilaa
open Go Go.Am
theorem zy87 {a b:List UInt8}:zhl4 .lss (.str a) (.str b)=some (.bool (Op.bytesLess a b)):=rfl
attribute [simp] zy87
theorem zrmv {a b:Str}:zhl4 .gtr (.str a) (.str b)=some (.bool (Op.bytesLess b a)):=by
 have e:zhl4 .gtr (.str a) (.str b)=some (.bool (!(Op.bytesLess a b||a == b))):=by simp [zhl4,zdnj]
 rw [e]
 congr 2
 rcases zoet a b with h|h|h
 ·have h':Op.bytesLess b a=false:=by
   cases q:Op.bytesLess b a with
   | false=>rfl
   | true=>have:=z8c3 _ _ _ h q; rw [zrk4] at this; cases this
  rw [h,h']; rfl
 ·subst h; simp [zrk4]
 ·have h':Op.bytesLess a b=false:=by
   cases q:Op.bytesLess a b with
   | false=>rfl
   | true=>have:=z8c3 _ _ _ h q; rw [zrk4] at this; cases this
  have hn:¬ a=b:=fun e=>by rw [e,zrk4] at h; cases h
  rw [h,h']; simp [hn]
attribute [simp] zrmv
structure Ixe where
 ns:Str
 im:Str
 art:Dg
 ok:Bool
structure Rqs where
 ns:Str
 im:Str
 art:Dg
structure IK where
 i:Nat
 j:Nat
end Go.Proofs.Ytaihpefemjlilaa
set_option linter.unusedSimpArgs false
set_option linter.unusedVariables false
set_option maxRecDepth 20000
namespace Go.Proofs.Ytaihpefemjlilaa
open Go Go.Am
noncomputable def cBst:List DV→Option DV:=con (fun a:Sl Tri × Tri=>Mono (cmpT a.2.grp a.2.art) a.1.l) (fun a=>[a.1.dv 35 trC,.agg (trC a.2),sfn]) (fun a => .tup [.int .i64 (kOf (cmpT a.2.grp a.2.art) a.1.l),.bool (fOf (cmpT a.2.grp a.2.art) a.1.l)])
theorem z47i {x y:Sl Tri} (e:x.dv 35 trC=y.dv 35 trC):x=y:=zcq7 zezj (by decide) (fun _ _=>z56z) e
theorem za1r {x:Sl Tri} {t:Tri} (h:Mono (cmpT t.grp t.art) x.l):cBst [x.dv 35 trC,.agg (trC t),sfn]=some (.tup [.int .i64 (kOf (cmpT t.grp t.art) x.l),.bool (fOf (cmpT t.grp t.art) x.l)]) :=
 zzno (A:=fun a:Sl Tri × Tri=>Mono (cmpT a.2.grp a.2.art) a.1.l) (f:=fun a=>[a.1.dv 35 trC,.agg (trC a.2),sfn]) (g:=fun a => .tup [.int .i64 (kOf (cmpT a.2.grp a.2.art) a.1.l),.bool (fOf (cmpT a.2.grp a.2.art) a.1.l)]) (by
  rintro ⟨a,b⟩ ⟨c,d⟩ e
  simp only [List.cons.injEq,DV.agg.injEq,and_true] at e
  rw [z47i e.1,z56z e.2]) (x,t) h
noncomputable def znec:Tbl:=addT 26 (.pure cBst) tbl0
theorem zn9u:znec 26 = .pure cBst:=by simp [znec]
theorem zy1n:znec.Sound P:=z0rp (z2au fun a h=>zljw mix z0s4 Try.func26 z9gs (zfmw a.1 a.2 h)) zr5o
theorem z8tf {z:List DV} {a:Int} {d:Dg} (h1:z.length=35) (h2:z.drop 33=[.int .i64 0,.int .i64 0]):zvnk z [(0,1,.int .i64 a),(1,32,.agg (dgC d))]=some (.agg (trC ⟨a,d,0,0⟩)):=by
 have h3:(z.drop 1).drop 32=[.int .i64 0,.int .i64 0]:=by rw [List.drop_drop]; exact h2
 obtain ⟨b,r,rfl⟩ : ∃ b r,z=b::r:=by cases z with
  | nil=>simp at h1
  | cons b r=>exact ⟨b,r,rfl⟩
 have hl:r.length=34:=by simpa using h1
 have h4:r.drop 32=[.int .i64 0,.int .i64 0]:=h2
 simp [zvnk,zi03,zk7y,DV.known,DV.cells,z1t1,hl,h4,trC]
theorem ztjp (x:Sl Tri) (g:Int) (d:Dg) (hm:Mono (cmpT g d) x.l):Runs znec a13 [x.dv 35 trC,.int .i64 g,.agg (dgC d)] (.tup [.int .i64 (kOf (cmpT g d) x.l),.bool (fOf (cmpT g d) x.l)]):=by
 refine ⟨?_⟩
 have hb : ∀ h,boxD h (.agg (dgC d))=some (.mp h.length 32 0,h++[.cells (dgC d)]):=fun h=>by rw [zn72,z1t1]
 have h1d:oneC 32 true (dgC d)=some (.agg (dgC d)):=by simp [oneC,z1t1,List.take_of_length_le]
 have hc:=za1r (x:=x) (t:=⟨g,d,0,0⟩) hm
 have hc:cBst [x.dv 35 trC,.agg (trC ⟨g,d,0,0⟩),.fn (.func 27) [] []]=some (.tup [.int .i64 (kOf (cmpT g d) x.l),.bool (fOf (cmpT g d) x.l)]):=hc
 have hr:DV.int .i64 g::(dgC d++[.int .i64 0,.int .i64 0])=trC ⟨g,d,0,0⟩:=rfl
 have hp:=zm7q x
 simp (disch:=first|omega|simp<;>omega|fail) [-zA,-zB,-zC,-zD,-zE,a13,hb,z1t1,h1d,z8tf,zn9u,hc,hp,z1zd]
noncomputable def cSrc:List DV→Option DV:=con (fun a:Sl Tri × Int × Dg=>Mono (cmpT a.2.1 a.2.2) a.1.l) (fun a=>[a.1.dv 35 trC,.int .i64 a.2.1,.agg (dgC a.2.2)]) (fun a => .tup [.int .i64 (kOf (cmpT a.2.1 a.2.2) a.1.l),.bool (fOf (cmpT a.2.1 a.2.2) a.1.l)])
theorem ztk4 {x:Sl Tri} {g:Int} {d:Dg} (h:Mono (cmpT g d) x.l):cSrc [x.dv 35 trC,.int .i64 g,.agg (dgC d)]=some (.tup [.int .i64 (kOf (cmpT g d) x.l),.bool (fOf (cmpT g d) x.l)]) :=
 zzno (A:=fun a:Sl Tri × Int × Dg=>Mono (cmpT a.2.1 a.2.2) a.1.l) (f:=fun a=>[a.1.dv 35 trC,.int .i64 a.2.1,.agg (dgC a.2.2)]) (g:=fun a => .tup [.int .i64 (kOf (cmpT a.2.1 a.2.2) a.1.l),.bool (fOf (cmpT a.2.1 a.2.2) a.1.l)]) (by
  rintro ⟨a,b,c⟩ ⟨a',b',c'⟩ e
  simp only [List.cons.injEq,DV.agg.injEq,DV.int.injEq,and_true,true_and] at e
  rw [z47i e.1,e.2.1,zib9 e.2.2]) (x,g,d) h
theorem zev6:(Con.pure cSrc).Sound P 13:=z2au fun a h=>zljw mix zy1n Try.func13 zm5y (ztjp a.1 a.2.1 a.2.2 h)
structure Idx where
 at_:Int
 e:Sl Ixe
end Go.Proofs.Ytaihpefemjlilaa
set_option linter.unusedSimpArgs false
set_option linter.unusedVariables false
set_option maxRecDepth 20000
namespace Go.Proofs.Ytaihpefemjlilaa
open Go Go.Am
theorem znnr (x:Tri):(trC x).drop 33=[.int .i64 x.fl,.int .i64 x.af]:=by
 show ((dgC x.art++[DV.int .i64 x.fl,DV.int .i64 x.af]).drop 32)=_
 rw [List.drop_append,List.drop_of_length_le (by rw [z1t1]; omega),z1t1]; rfl
theorem zmda (x:Tri) (v:Int):(trC x).set 33 (.int .i64 v)=trC ⟨x.grp,x.art,v,x.af⟩:=by
 show DV.int .i64 x.grp::(dgC x.art++[DV.int .i64 x.fl,DV.int .i64 x.af]).set 32 _=_
 rw [List.set_append_right _ _ (by rw [z1t1]; omega),z1t1]; rfl
theorem zaat (x:Tri) (v:Int):(trC x).set 34 (.int .i64 v)=trC ⟨x.grp,x.art,x.fl,v⟩:=by
 show DV.int .i64 x.grp::(dgC x.art++[DV.int .i64 x.fl,DV.int .i64 x.af]).set 33 _=_
 rw [List.set_append_right _ _ (by rw [z1t1]; omega),z1t1]; rfl
theorem z7jg (x:Tri):oneC 1 false ((trC x).drop 33)=some (.int .i64 x.fl):=by rw [znnr]; rfl
theorem zvt0 (x:Tri) (v:Int) (h:List AObj) (id:Nat):zy6o h id 1 33 (.int .i64 v) (some (trC x))=some (.junk,h.set id (.cells (trC ⟨x.grp,x.art,v,x.af⟩))):=by
 rw [ziq3 (by rw [zezj]; omega),zmda]
theorem zr50 (x:Tri) (v:Int) (h:List AObj) (id:Nat):zy6o h id 1 34 (.int .i64 v) (some (trC x))=some (.junk,h.set id (.cells (trC ⟨x.grp,x.art,x.fl,v⟩))):=by
 rw [ziq3 (by rw [zezj]; omega),zaat]
theorem z72h {z:List DV} {x:Tri} (hz:z.length=35):bslD 35 1 z [(0,35,.agg (trC x))]=some (.sl true 35 1 (trC x)):=by
 rw [z7bw (by simp [DV.known]) (by simp [seqD,DV.cells,hz,zezj])]; simp [seqD,DV.cells,zezj]
theorem zegx:Runs tbl0 a14 [.nils] .nils:=by
 refine ⟨?_⟩
 simp (disch:=first|omega|simp<;>omega|fail) [-zA,-zB,-zC,-zD,-zE,a14]
theorem zjkm (x:Tri):RunsH tbl0 a14 [.sl false 35 1 (trC x)] [] (.ms 0 35 0 35 1 35) [.cells (trC x)]:=by
 refine ⟨?_⟩
 have h1:=zezj x
 have h2:=zms9 x
 simp (disch:=first|omega|simp<;>omega|fail) [-zA,-zB,-zC,-zD,-zE,a14,h1,h2]
theorem znij (x:Tri):RunsH tbl0 a15 [.nils,.int .i64 0,.sl true 35 1 (trC x)] [] (.ms 0 35 0 35 1 35) [.cells (trC x)]:=by
 refine ⟨?_⟩
 have h1:=zezj x
 have h2:=zms9 x
 simp (disch:=first|omega|simp<;>omega|fail) [-zA,-zB,-zC,-zD,-zE,a15,h1,h2]
noncomputable def cTc:List DV→Nat→Option (DV × List AObj):=conN (fun _=>True) (fun x:Tri=>[.sl false 35 1 (trC x)]) (fun x=>(.ms 0 35 0 35 1 35,[.cells (trC x)]))
theorem z637 {x:Tri} {n:Nat}:cTc [.sl false 35 1 (trC x)] n=some (.ms n 35 0 35 1 35,[.cells (trC x)]):=by
 have:=zqtp (A:=fun _=>True) (f:=fun x:Tri=>[DV.sl false 35 1 (trC x)]) (g:=fun x=>(.ms 0 35 0 35 1 35,[.cells (trC x)])) (fun a b e=>by
  simp only [List.cons.injEq,and_true,DV.sl.injEq,true_and] at e
  rw [z56z e]) x trivial n
 rw [cTc,this]
 simp [shD,shO,zj45,z1zd]
noncomputable def cTi:List DV→Nat→Option (DV × List AObj):=conN (fun _=>True) (fun x:Tri=>[.nils,.int .i64 0,.sl true 35 1 (trC x)]) (fun x=>(.ms 0 35 0 35 1 35,[.cells (trC x)]))
theorem z3ze {x:Tri} {n:Nat}:cTi [.nils,.int .i64 0,.sl true 35 1 (trC x)] n=some (.ms n 35 0 35 1 35,[.cells (trC x)]):=by
 have:=zqtp (A:=fun _=>True) (f:=fun x:Tri=>[DV.nils,.int .i64 0,DV.sl true 35 1 (trC x)]) (g:=fun x=>(.ms 0 35 0 35 1 35,[.cells (trC x)])) (fun a b e=>by
  simp only [List.cons.injEq,and_true,DV.sl.injEq,true_and] at e
  rw [z56z e]) x trivial n
 rw [cTi,this]
 simp [shD,shO,zj45,z1zd]
noncomputable def z14i:Tbl:=addT 13 (.pure cSrc) (addT 14 (.pure (con (fun _=>True) (fun _:Unit=>[.nils]) (fun _ => .nils))) (addT 15 (.new cTi) tbl0))
theorem cN0:con (fun _=>True) (fun _:Unit=>[DV.nils]) (fun _ => .nils) [.nils]=some .nils:=zzno (A:=fun _=>True) (f:=fun _:Unit=>[DV.nils]) (g:=fun _ => .nils) (fun _ _ _=>rfl) () trivial
theorem zfvh:z14i 13 = .pure cSrc:=by simp [z14i]
theorem z3lv:z14i 14 = .pure (con (fun _=>True) (fun _:Unit=>[.nils]) (fun _ => .nils)):=by simp [z14i]
theorem z96d:z14i 15 = .new cTi:=by simp [z14i]
theorem z127:z14i.Sound P:=z0rp zev6 (z0rp (z2au fun _ _=>zljw mix zr5o Try.func14 zzfl zegx) (z0rp (z3ld (fun x _=>by simp [zbao,zyp8,z1zd]) fun x _=>zv22 mix zr5o Try.func15 zz37 (znij x)) zr5o))
noncomputable def zkat:Tbl:=addT 13 (.pure cSrc) (addT 14 (.new cTc) tbl0)
theorem zjhe:zkat 13 = .pure cSrc:=by simp [zkat]
theorem zrnd:zkat 14 = .new cTc:=by simp [zkat]
theorem z34j:zkat.Sound P:=z0rp zev6 (z0rp (z3ld (fun x _=>by simp [zbao,zyp8,z1zd]) fun x _=>zv22 mix zr5o Try.func14 zzfl (zjkm x)) zr5o)
def faT (g:Int) (d:Dg) (n t:Int):Tri:=⟨g,d,min (n+1) 16,min (t+2 ^ (min (n+1) 16).toNat) 1099511627776⟩
theorem zpow (g:Int) (d:Dg) (t:Int) (h0:0≤t) (h1:t≤1099511627776):Runs z14i a6 [.nils,.int .i64 g,.agg (dgC d),.int .i64 t] (.sl false 35 1 (trC (faT g d 0 t))):=by
 refine ⟨?_⟩
 have hs:cSrc [.nils,.int .i64 g,.agg (dgC d)]=some (.tup [.int .i64 0,.bool false]):=ztk4 (x:=⟨none,[],fun _=>rfl,by simp⟩) (g:=g) (d:=d) (by intro i j h; simp at *)
 have h1d:oneC 32 true (dgC d)=some (.agg (dgC d)):=by simp [oneC,z1t1,List.take_of_length_le]
 have hl:=fun x=>zezj x
 have hp:=fun x=>z1zd x
 have htk : ∀ x,(trC x).take 35=trC x:=fun x=>List.take_of_length_le (by rw [zezj]; omega)
 have hsn : ∀ (H:List AObj) k x,z4tt H k (trC x)=some (trC x):=fun H k x=>z619 (z1zd x)
 have hf:faT g d 0 t=⟨g,d,1,min (t+2) 1099511627776⟩:=rfl
 have hm:min (1:Int) 16=1:=by decide
 have hw:(2:Int) ^ (1:Int).toNat=2:=rfl
 rw [hf]
 simp (disch:=first|omega|simp<;>omega|fail) [-zA,-zB,-zC,-zD,-zE,a6,z1t1,h1d,zfvh,hs,z3lv,cN0,z96d,z3ze,z8tf,z72h,hl,hp,z3ot,z7jg,zvt0,zr50,zluv,zy6n,hm,hw,htk,hsn]
theorem zad2 (g:Int):cmpI g g=0:=by simp [cmpI]
theorem zoze {x:Tri} : ∀ (k:Int) (d:Dg),Mono (cmpT k d) [x]:=by
 intro k d i j h1 h2 h3
 simp at *
 try omega
theorem ztwl (g:Int) (d:Dg) (n a t:Int) (hn0:0≤n) (hn1:n≤16) (h0:0≤t) (h1:t≤1099511627776):Runs zkat a6 [.sl false 35 1 (trC ⟨g,d,n,a⟩),.int .i64 g,.agg (dgC d),.int .i64 t] (.sl false 35 1 (trC (faT g d n t))):=by
 refine ⟨?_⟩
 have hz:cmpT g d ⟨g,d,n,a⟩=0:=by simp [cmpT,zad2,zuux.2 rfl,orI]
 have hk:kOf (cmpT g d) [⟨g,d,n,a⟩]=0:=by simp [kOf,hz]
 have hs:cSrc [.sl false 35 1 (trC ⟨g,d,n,a⟩),.int .i64 g,.agg (dgC d)]=some (.tup [.int .i64 0,.bool true]):=by
  have:=ztk4 (x:=⟨some false,[⟨g,d,n,a⟩],by simp,by simp⟩) (g:=g) (d:=d) (zoze g d)
  rw [hk,zjjt hk (by simp)] at this
  simpa [hz,Sl.dv,slD] using this
 have h1d:oneC 32 true (dgC d)=some (.agg (dgC d)):=by simp [oneC,z1t1,List.take_of_length_le]
 have hl:=fun x=>zezj x
 have hp:=fun x=>z1zd x
 have htk : ∀ x,(trC x).take 35=trC x:=fun x=>List.take_of_length_le (by rw [zezj]; omega)
 have hsn : ∀ (H:List AObj) k x,z4tt H k (trC x)=some (trC x):=fun H k x=>z619 (z1zd x)
 obtain ⟨m,hm⟩ : ∃ m,min (n+1) 16=m:=⟨_,rfl⟩
 have hm0:0≤m∧m≤16:=by omega
 have hf:faT g d n t=⟨g,d,m,min (t+2 ^ m.toNat) 1099511627776⟩:=by rw [← hm]; rfl
 have hpw:(2:Int) ^ m.toNat≤65536∧0≤(2:Int) ^ m.toNat:=by
  obtain ⟨k,rfl⟩ : ∃ k:Nat,m=k:=⟨m.toNat,by omega⟩
  have:k≤16:=by omega
  constructor
  ·have h2:(2:Nat) ^ k≤2 ^ 16:=Nat.pow_le_pow_right (by decide) this
   have e:(2:Int) ^ k=((2 ^ k:Nat):Int):=by simp
   rw [Int.toNat_natCast,e]
   omega
  ·exact Int.le_of_lt (Int.pow_pos (by decide))
 rw [hf]
 obtain ⟨pw,hpe⟩ : ∃ pw,(2:Int) ^ m.toNat=pw:=⟨_,rfl⟩
 rw [hpe] at hpw ⊢
 simp (disch:=first|omega|simp<;>omega|fail) [-zA,-zB,-zC,-zD,-zE,a6,z1t1,h1d,zjhe,hs,zrnd,z637,hl,hp,z3ot,z7jg,zvt0,zr50,zluv,zy6n,hm,hpe,hm0,hpw,htk,hsn]
end Go.Proofs.Ytaihpefemjlilaa
set_option linter.unusedSimpArgs false
set_option linter.unusedVariables false
set_option maxRecDepth 100000
namespace Go.Proofs.Ytaihpefemjlilaa
open Go Go.Am
def unW:List DV→Option (List B8)
 | []=>some []
 | .int .u8 n::r=>if 0≤n∧n<256 then (unW r).map (BitVec.ofInt 8 n :: ·) else none
 | _=>none
theorem zouj : ∀ {cs:List DV} {x:List B8},unW cs=some x→cs=x.map w8:=by
 intro cs
 induction cs with
 | nil=>intro x h; simp [unW] at h; subst h; rfl
 | cons d r ih =>
  intro x h
  unfold unW at h
  split at h
  ·rename_i e; cases e
  ·rename_i n r' e
   split at h
   ·rename_i hn
    simp only [List.cons.injEq] at e
    obtain ⟨rfl,rfl⟩:=e
    obtain ⟨y,hy,rfl⟩:=Option.map_eq_some_iff.1 h
    rw [List.map_cons,← ih hy]
    have e1:((BitVec.ofInt 8 n).toNat:Int)=n:=by rw [BitVec.toNat_ofInt]; simp; omega
    have e2:w8 (BitVec.ofInt 8 n) = .int .u8 n:=by unfold w8; rw [e1]
    rw [e2]
   ·simp at h
  ·simp at h
def bcC:List DV→Option DV
 | [.sl _ 1 n cs,.sl _ 1 m ds]=>match unW cs,unW ds with
  | some x,some y=>if n=x.length∧m=y.length then some (.int .i64 (Lib.compareBytes (u8L x) (u8L y))) else none
  | _,_=>none
 | _=>none
theorem zqer {P:Program} {f:FuncId} (h : ∀ (x y:List B8) (fx fy:Bool),Am.Sem P f [.sl fx 1 x.length (x.map w8),.sl fy 1 y.length (y.map w8)] (.int .i64 (Lib.compareBytes (u8L x) (u8L y)))) : ∀ args v,bcC args=some v→Am.Sem P f args v:=by
 intro args v e
 unfold bcC at e
 split at e
 ·rename_i f1 n cs f2 m ds
  split at e
  ·rename_i x y hx hy
   split at e
   ·rename_i hl
    obtain ⟨rfl,rfl⟩:=hl
    simp at e; subst e
    rw [zouj hx,zouj hy]
    exact h x y f1 f2
   ·simp at e
  ·simp at e
 ·simp at e
def zwn1:List DV→Option DV
 | [.nils,.int .i64 n]=>if n=0 then some .nils else none
 | _=>none
theorem z6hw : ∀ args v,zwn1 args=some v→Am.Sem P 96 args v:=by
 intro args v e
 unfold zwn1 at e
 split at e
 ·rename_i n
  split at e
  ·rename_i h0
   subst h0
   simp at e; subst e
   refine zzfj ((z58y 0 (by decide)).mono fun d h q => ?_)
   rw [q.1,q.2]; rfl
  ·simp at e
 ·simp at e
def evL:List (Nat × AFn):=[(6,a6),(7,a7),(13,a13),(14,a14),(15,a15),(16,a16),(17,a17),(18,a18),(23,a23),(26,a26),(27,a27),(28,a28),(29,a29),(30,a30),(33,a33),(34,a34),(35,a35),(36,a36),(37,a37),(38,a38),(39,a39),(40,a40),(41,a41),(43,a43),(47,a47),(50,a50),(51,a51),(52,a52),(53,a53),(54,a54),(55,a55),(56,a56),(57,a57),(58,a58),(59,a59),(60,a60),(61,a61),(62,a62),(63,a63),(64,a64),(65,a65),(67,a67),(68,a68),(69,a69),(70,a70),(71,a71),(72,a72),(73,a73),(74,a74),(75,a75),(76,a76),(77,a77),(78,a78),(79,a79),(80,a80),(81,a81),(82,a82),(83,a83),(84,a84),(85,a85),(86,a86),(88,a88),(89,a89),(90,a90),(91,a91),(92,a92),(93,a93),(94,a94),(95,a95),(97,a97),(101,a101),(102,a102),(103,a103),(104,a104),(106,a106),(108,a108),(109,a109),(111,a111),(112,a112),(113,a113),(115,a115),(116,a116)]
def evC:List (Nat × (List DV→Option DV)):=[(87,ixbC),(48,bcC),(96,zwn1)]
theorem zz1q:OKL P evL:=⟨⟨_,Try.func6,zc7x⟩,⟨_,Try.func7,zdfl⟩,⟨_,Try.func13,zm5y⟩,⟨_,Try.func14,zzfl⟩,⟨_,Try.func15,zz37⟩,⟨_,Try.func16,zddi⟩,⟨_,Try.func17,zcaf⟩,⟨_,Try.func18,zt5q⟩,⟨_,Try.func23,ztyx⟩,⟨_,Try.func26,z9gs⟩,⟨_,Try.func27,z3hx⟩,⟨_,Try.func28,z43f⟩,⟨_,Try.func29,ztig⟩,⟨_,Try.func30,z3f8⟩,⟨_,Try.func33,zojn⟩,⟨_,Try.func34,zk28⟩,⟨_,Try.func35,zxwh⟩,⟨_,Try.func36,zj68⟩,⟨_,Try.func37,z554⟩,⟨_,Try.func38,zclx⟩,⟨_,Try.func39,zjwo⟩,⟨_,Try.func40,zn9f⟩,⟨_,Try.func41,z5y8⟩,⟨_,Try.func43,zbv8⟩,⟨_,Try.func47,zzqr⟩,⟨_,Try.func50,z12y⟩,⟨_,Try.func51,z8rx⟩,⟨_,Try.func52,zil0⟩,⟨_,Try.func53,zq51⟩,⟨_,Try.func54,zq4q⟩,⟨_,Try.func55,ze8s⟩,⟨_,Try.func56,zcwb⟩,⟨_,Try.func57,zfce⟩,⟨_,Try.func58,zt5h⟩,⟨_,Try.func59,zwsz⟩,⟨_,Try.func60,z6e9⟩,⟨_,Try.func61,zuuw⟩,⟨_,Try.func62,z0i3⟩,⟨_,Try.func63,z2tu⟩,⟨_,Try.func64,zerh⟩,⟨_,Try.func65,zh04⟩,⟨_,Try.func67,zy8u⟩,⟨_,Try.func68,z20i⟩,⟨_,Try.func69,z713⟩,⟨_,Try.func70,zhcw⟩,⟨_,Try.func71,zbtg⟩,⟨_,Try.func72,z0xs⟩,⟨_,Try.func73,zn06⟩,⟨_,Try.func74,z26r⟩,⟨_,Try.func75,zrvd⟩,⟨_,Try.func76,zqxf⟩,⟨_,Try.func77,z20a⟩,⟨_,Try.func78,zetr⟩,⟨_,Try.func79,zaq4⟩,⟨_,Try.func80,zpfu⟩,⟨_,Try.func81,zgev⟩,⟨_,Try.func82,zftu⟩,⟨_,Try.func83,z6eh⟩,⟨_,Try.func84,z3cy⟩,⟨_,Try.func85,zu0j⟩,⟨_,Try.func86,z2i3⟩,⟨_,Try.func88,zqgj⟩,⟨_,Try.func89,z42j⟩,⟨_,Try.func90,z9pi⟩,⟨_,Try.func91,z07s⟩,⟨_,Try.func92,zypd⟩,⟨_,Try.func93,zv7d⟩,⟨_,Try.func94,ziuh⟩,⟨_,Try.func95,z4uo⟩,⟨_,Try.func97,z0a8⟩,⟨_,Try.func101,zzmu⟩,⟨_,Try.func102,zh4k⟩,⟨_,Try.func103,zawu⟩,⟨_,Try.func104,z0mt⟩,⟨_,Try.func106,zex6⟩,⟨_,Try.func108,zh50⟩,⟨_,Try.func109,zoj0⟩,⟨_,Try.func111,zmlq⟩,⟨_,Try.func112,zhnv⟩,⟨_,Try.func113,zz1e⟩,⟨_,Try.func115,zv17⟩,⟨_,Try.func116,z3rp⟩,trivial⟩
theorem zvar:OKC P evC:=⟨zk1r fun s c=>zrq5 Try.func87 (by kernel_rfl) (by kernel_rfl) (by kernel_rfl) (by kernel_rfl) s c,zqer fun x y fx fy=>zf9q Try.func48 (by kernel_rfl) (by kernel_rfl) (by kernel_rfl) (by kernel_rfl) x y fx fy,z6hw,trivial⟩
theorem zbgd:semE evL evC 400 7 []=some (.bool true):=by kernel_rfl
theorem zul1:Am.Sem P 7 [] (.bool true):=z4ur mix zz1q zvar zbgd
end Go.Proofs.Ytaihpefemjlilaa
set_option linter.unusedSimpArgs false
set_option linter.unusedVariables false
set_option maxRecDepth 20000
namespace Go.Proofs.Ytaihpefemjlilaa
open Go Go.Am
def d2:Dg:=dgW 2#8
structure FaA where
 o:Option (Int × Int)
 t:Int
structure FaOK (a:FaA):Prop where
 t0:0≤a.t
 t1:a.t≤1099511627776
 n : ∀ n b,a.o=some (n,b)→0≤n∧n≤16
def faL:Option (Int × Int)→DV
 | none => .nils
 | some (n,b) => .sl false 35 1 (trC ⟨1,d2,n,b⟩)
def faN:Option (Int × Int)→Int
 | none=>0
 | some (n,_)=>n
noncomputable def cFai:List DV→Option DV:=con FaOK (fun a=>[faL a.o,.int .i64 1,.agg (dgC d2),.int .i64 a.t]) (fun a => .sl false 35 1 (trC (faT 1 d2 (faN a.o) a.t)))
theorem zil8 (a:FaA) (h:FaOK a):cFai [faL a.o,.int .i64 1,.agg (dgC d2),.int .i64 a.t]=some (.sl false 35 1 (trC (faT 1 d2 (faN a.o) a.t))) :=
 zzno (A:=FaOK) (f:=fun a=>[faL a.o,.int .i64 1,.agg (dgC d2),.int .i64 a.t]) (g:=fun a => .sl false 35 1 (trC (faT 1 d2 (faN a.o) a.t))) (by
  rintro ⟨o,t⟩ ⟨o',t'⟩ e
  simp only [List.cons.injEq,DV.int.injEq,and_true,true_and] at e
  obtain ⟨e1,e2⟩:=e
  subst e2
  cases o with
  | none=>cases o' with
   | none=>rfl
   | some p=>obtain ⟨n,b⟩:=p; simp [faL] at e1
  | some p=>cases o' with
   | none=>obtain ⟨n,b⟩:=p; simp [faL] at e1
   | some p' =>
    obtain ⟨n,b⟩:=p
    obtain ⟨n',b'⟩:=p'
    simp only [faL,DV.sl.injEq,true_and] at e1
    have:=z56z e1
    simp only [Tri.mk.injEq,true_and] at this
    rw [this.1,this.2]) a h
theorem zv3z:(Con.pure cFai).Sound P 6:=z2au fun a h=>by
 obtain ⟨o,t⟩:=a
 cases o with
 | none=>exact zljw mix z127 Try.func6 zc7x (zpow 1 d2 t h.t0 h.t1)
 | some p =>
  obtain ⟨n,b⟩:=p
  obtain ⟨h1,h2⟩:=h.n n b rfl
  exact zljw mix z34j Try.func6 zc7x (ztwl 1 d2 n b t h1 h2 h.t0 h.t1)
noncomputable def zfvt:Tbl:=addT 6 (.pure cFai) (addT 5 (.pure zqmv) (addT 7 (.pure cTru) tbl0))
theorem zo7m:zfvt 6 = .pure cFai:=by simp [zfvt]
theorem zr33:zfvt 5 = .pure zqmv:=by simp [zfvt]
theorem zt45:zfvt 7 = .pure cTru:=by simp [zfvt]
theorem zb8b:zfvt.Sound P:=z0rp zv3z (z0rp zt30 (z0rp (zi1x zul1) zr5o))
def waO (now:Int) (i:Nat):Option (Int × Int):=if i=0 then none else some (min (i:Int) 16,min (now+2 ^ (min i 16)) 1099511627776)
def waI (i:Nat):Int:=2 ^ (min i 16)
theorem z9xi (i:Nat):1≤waI i∧waI i≤65536:=by
 unfold waI
 have h2:(2:Nat) ^ (min i 16)≤2 ^ 16:=Nat.pow_le_pow_right (by decide) (by omega)
 have h1:1≤(2:Nat) ^ (min i 16):=Nat.one_le_two_pow
 have e:(2:Int) ^ (min i 16)=((2 ^ (min i 16):Nat):Int):=by simp
 rw [e]; omega
theorem waN (now:Int) (i:Nat):faN (waO now i)=min (i:Int) 16:=by
 unfold waO
 split
 ·rename_i h; subst h; rfl
 ·rfl
theorem zmz2 (now:Int) (i:Nat):faT 1 d2 (faN (waO now i)) now=⟨1,d2,min ((i:Int)+1) 16,min (now+waI (i+1)) 1099511627776⟩:=by
 rw [waN]
 unfold faT waI
 have e:min (min (i:Int) 16+1) 16=min ((i:Int)+1) 16:=by omega
 have e2:(min ((i:Int)+1) 16).toNat=min (i+1) 16:=by omega
 rw [e,e2]
theorem zo5b (now:Int) (i:Nat):faL (waO now (i+1)) = .sl false 35 1 (trC ⟨1,d2,min ((i:Int)+1) 16,min (now+waI (i+1)) 1099511627776⟩):=by
 unfold waO
 rw [if_neg (by omega)]
 show DV.sl false 35 1 (trC _)=_
 simp [waI]
theorem z0sz (i:Nat):waI (i+1)=if i<16 then 2*waI i else waI i:=by
 unfold waI
 split
 ·rename_i h
  rw [show min (i+1) 16=min i 16+1 by omega,Int.pow_succ]; omega
 ·rename_i h
  rw [show min (i+1) 16=min i 16 by omega]
def zpyi (k now:Int) (i:Nat):St:=a3S0 (.int .i64 k) (.int .i64 now) (faL (waO now i)) (.int .i64 (waI i)) (.int .i64 i) []
theorem zvms (kk at_:Int):Runs zfvt a3 [.int .i64 kk,.int .i64 at_] (.bool true):=by
 refine ⟨?_⟩
 have w1:=zcb9 (n:=kk) (k:=20) (by decide) (by decide)
 have w2:=zcb9 (n:=at_) (k:=1000) (by decide) (by decide)
 have k1:0≤kk % 20∧kk % 20<20:=by omega
 have n1:0≤at_ % 1000∧at_ % 1000<1000:=by omega
 obtain ⟨m,hm⟩ : ∃ m:Nat,kk % 20=m:=⟨(kk % 20).toNat,by omega⟩
 obtain ⟨now,hnow⟩ : ∃ now,at_ % 1000=now:=⟨_,rfl⟩
 rw [hm] at w1 k1
 rw [hnow] at w2 n1
 obtain ⟨k,hk⟩ : ∃ k:Nat,m+1=k:=⟨_,rfl⟩
 have hki:1+(m:Int)=k:=by omega
 have hd2:zvnk (dgC dg0) [(0,1,w8 2#8)]=some (.agg (dgC d2)):=rfl
 have hok : ∀ i t,0≤t→t≤1099511627776→FaOK ⟨waO now i,t⟩:=fun i t h0 h1=>⟨h0,h1,fun n b e=>by
  unfold waO at e
  split at e
  ·simp at e
  ·simp only [Option.some.injEq,Prod.mk.injEq] at e
   omega⟩
 simp (disch:=first|omega|simp<;>omega|fail) [-zA,-zB,-zC,-zD,-zE,a3,zr33,w1,w2,hki]
 refine zlm5 (zpyi k now) (fun i=>k-i) (fun i=>i≤k) 0 (z515 (by simp (disch:=first|omega|simp<;>omega|fail) [-zA,-zB,-zC,-zD,-zE,zpyi,a3S0,waO,waI,faL]) (by simp (disch:=first|omega|simp<;>omega|fail) [-zA,-zB,-zC,-zD,-zE,zpyi,a3S0])) (Nat.zero_le _) (fun i hi => ?_)
 have hp:=z9xi i
 have hws:=z0sz i
 by_cases h:i<k
 ·have h':(i:Int)<k:=by omega
  have hc:=zil8 ⟨waO now i,now⟩ (hok i now (by omega) (by omega))
  have hfs:=zo5b now i
  simp only [zmz2] at hc
  rw [← hfs] at hc
  have hpl:zyp8 (faL (waO now i))=true:=by
   unfold waO
   split
   ·rfl
   ·simp only [faL,zyp8,z1zd]
  simp only [zpyi]
  obtain ⟨V,hV⟩ : ∃ V,faL (waO now i)=V:=⟨_,rfl⟩
  rw [hV] at hc hpl ⊢
  obtain ⟨W,hW⟩ : ∃ W,waI i=W:=⟨_,rfl⟩
  rw [hW] at hp hws ⊢
  by_cases q:i<16
  ·have q':(i:Int)<16:=by omega
   rw [if_pos q] at hws
   simp (disch:=first|omega|simp<;>omega|fail) [-zA,-zB,-zC,-zD,-zE,a3L0,a3S0,h,h',hd2,zo7m,hc,hpl,z3ot,q,q']
   exact ⟨i+1,z515 (by simp (disch:=first|omega|simp<;>omega|fail) [-zA,-zB,-zC,-zD,-zE,zpyi,a3S0,hws]) (by simp (disch:=first|omega|simp<;>omega|fail) [-zA,-zB,-zC,-zD,-zE,zpyi,a3S0]),by omega,by omega⟩
  ·have q':¬ (i:Int)<16:=by omega
   rw [if_neg q] at hws
   simp (disch:=first|omega|simp<;>omega|fail) [-zA,-zB,-zC,-zD,-zE,a3L0,a3S0,h,h',hd2,zo7m,hc,hpl,z3ot,q,q']
   exact ⟨i+1,z515 (by simp (disch:=first|omega|simp<;>omega|fail) [-zA,-zB,-zC,-zD,-zE,zpyi,a3S0,hws]) (by simp (disch:=first|omega|simp<;>omega|fail) [-zA,-zB,-zC,-zD,-zE,zpyi,a3S0]),by omega,by omega⟩
 ·have h':¬ (i:Int)<k:=by omega
  obtain rfl:i=k:=by omega
  have hm1:i=m+1:=hk.symm
  have hc:=zil8 ⟨waO now i,1099511627776⟩ (hok i _ (by decide) (by decide))
  have hx:faL (waO now i) = .sl false 35 1 (trC ⟨1,d2,min (i:Int) 16,min (now+waI i) 1099511627776⟩):=by
   have:=zo5b now m
   rw [← hm1] at this
   rw [this,show (m:Int)+1=i by omega]
  have hma:min (now+waI i) 1099511627776=now+waI i:=by omega
  rw [hma] at hx
  simp only [zpyi]
  simp only at hc
  rw [hx] at hc ⊢
  have hfe:faT 1 d2 (faN (waO now i)) 1099511627776=⟨1,d2,min (faN (waO now i)+1) 16,1099511627776⟩:=by
   unfold faT
   have:(0:Int)≤2 ^ (min (faN (waO now i)+1) 16).toNat:=Int.le_of_lt (Int.pow_pos (by decide))
   rw [show min (1099511627776+(2:Int) ^ (min (faN (waO now i)+1) 16).toNat) 1099511627776=1099511627776 by omega]
  rw [hfe] at hc
  obtain ⟨F,hF⟩ : ∃ F,min (faN (waO now i)+1) 16=F:=⟨_,rfl⟩
  rw [hF] at hc
  obtain ⟨W,hW⟩ : ∃ W,waI i=W:=⟨_,rfl⟩
  rw [hW] at hp hc ⊢
  have tr34 : ∀ x,oneC 1 false ((trC x).drop 34)=some (.int .i64 x.af):=fun x=>by
   rw [show (34:Nat)=33+1 from rfl,← List.drop_drop,znnr]; rfl
  have hl:=fun x=>zezj x
  have htk : ∀ x,(trC x).take 35=trC x:=fun x=>List.take_of_length_le (by rw [zezj]; omega)
  simp (disch:=first|omega|simp<;>omega|fail) [-zA,-zB,-zC,-zD,-zE,a3L0,a3S0,h,h',hd2,zo7m,hc,z1zd,z3ot,tr34,z7jg,hl,htk,zluv,zy6n,zt45,cTru]
namespace evictorWaits
theorem law_holds (dvs) (h:Ty.Args [.int .i64,.int .i64] dvs):Am.Sem P 3 dvs (.bool true):=by
 obtain ⟨d1,l1,rfl,⟨k,rfl,_⟩,d2,l2,rfl,⟨a,rfl,_⟩,rfl⟩:=h
 exact zljw mix zb8b Try.func3 z842 (zvms k a)
end evictorWaits
end Go.Proofs.Ytaihpefemjlilaa
