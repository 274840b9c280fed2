/-
  15 texts of mine in one.
-/
import Derived.Test.YtdnhbfmlklaldaaGreatCb1b7f320
import Derived.Test.YtdnhbfmlklaldaaGreatC1d38dafb
import Derived.Test.YtdnhbfmlklaldaaGreatC86a19a23
import Derived.Test.YtdnhbfmlklaldaaGreatC7dcf1055
import Derived.Test.YtdnhbfmlklaldaaGreatC6a9b145a
set_option maxRecDepth 20000
set_option maxHeartbeats 4000000
open List renaming map_take → zA, map_drop → zB, map_set → zC, map_append → zD, drop_one → zE
set_option linter.unusedSimpArgs false
set_option linter.unusedVariables false
namespace Go.Proofs.YtdnhbfmlklaldaaGreat
open Go Go.Am
def newV (p n k:Nat):DV:=if n=0 then .nils else .ms p (n*32) 0 32 k (n*32)
def newH (n:Nat) (u:List Dg):List AObj:=if n=0 then [] else [.cells (fl dgC (u++List.replicate (n-u.length) dg0))]
theorem zbix {u v:List Dg} {m:Nat} (hm:v.length≤m):zk7y (fl dgC (u++List.replicate m dg0)) (u.length*32) (fl dgC v)=fl dgC (u++v++List.replicate (m-v.length) dg0):=by
 unfold zk7y
 have h1:(fl dgC v).length=v.length*32:=z8lx z1t1 v
 rw [h1,← Nat.add_mul]
 unfold fl
 rw [z10w z1t1,zkb2 z1t1,List.take_left' rfl,← List.drop_drop,List.drop_left' rfl,List.drop_replicate,← List.flatMap_append,← List.flatMap_append]
theorem znme {n:Nat} {u v:List Dg} (h:u.length+v.length≤n) (hn:n≤1000000):appX (newH n u) 32 32 (newV 0 n u.length) v.length (v.flatMap dgC)=some (newV 0 n (u.length+v.length),newH n (u++v)):=by
 by_cases h0:n=0
 ·subst h0
  have hu:u=[]:=List.eq_nil_of_length_eq_zero (by omega)
  have hv:v=[]:=List.eq_nil_of_length_eq_zero (by omega)
  subst hu hv
  exact zw6v (by decide) (by decide)
 ·simp only [newV,newH,if_neg h0]
  have hl:(fl dgC (u++List.replicate (n-u.length) dg0)).length=n*32:=by rw [z8lx z1t1]; simp; omega
  have ho:ziu0 [.cells (fl dgC (u++List.replicate (n-u.length) dg0))] 0=some (fl dgC (u++List.replicate (n-u.length) dg0)):=by simp [ziu0]
  have hs:=zbix (u:=u) (v:=v) (m:=n-u.length) (by omega)
  have ha:(v.flatMap dgC).all DV.one=true:=z9jy (fun _=>zoxk) v
  have hvl:(v.flatMap dgC).length=v.length*32:=z1rq z1t1 v
  unfold appX
  rw [if_neg (by rw [hvl]; omega)]
  simp only [ho,Option.bind_some,hl,ha,and_true,if_true]
  by_cases hv:v.length=0
  ·have hv':v=[]:=List.eq_nil_of_length_eq_zero hv
   subst hv'
   simp
  ·rw [if_neg hv,if_pos (by constructor<;>omega)]
   have hs':zk7y (fl dgC (u++List.replicate (n-u.length) dg0)) (u.length*32) (v.flatMap dgC)=fl dgC (u++v++List.replicate (n-(u++v).length) dg0):=by
    rw [show v.flatMap dgC=fl dgC v from rfl,hs,List.length_append,Nat.sub_sub]
   simp only [Nat.zero_add,hs',List.set_cons_zero]
noncomputable def T540:Tbl:=addT 135 (.new zii2) tbl0
theorem ziqe:T540 135 = .new zii2:=by simp [T540]
theorem zh4p:T540.Sound P:=z0rp zlc7 zr5o
def zev2 (a b:Nat):Nat→Nat
 | 0=>0
 | 1=>a
 | _=>a+b
def z038 (a b:List Dg):Nat→List Dg
 | 0=>[]
 | 1=>a
 | _=>a++b
def catA (x y:Sl Dg):DV := .sl true 1 2 [x.dv 32 dgC,y.dv 32 dgC]
def S540 (x y:Sl Dg) (i:Nat):St:=zhqq (catA x y) (.int .i64 (zev2 x.l.length y.l.length i)) (catA x y) (.int .i64 2) (.int .i64 i) []
def S541 (x y:Sl Dg) (n:Nat) (i:Nat):St:=zlbu (newV 0 n (z038 x.l y.l i).length) (catA x y) (.int .i64 2) (.int .i64 i) (newH n (z038 x.l y.l i))
theorem zcfr (x y:Sl Dg) (h:x.l.length+y.l.length≤1000000):Runs T540 a112 [catA x y] ((ownN (x.l++y.l)).dv 32 dgC):=by
 refine ⟨?_⟩
 obtain ⟨n,hn⟩ : ∃ n,x.l.length+y.l.length=n:=⟨_,rfl⟩
 rw [hn] at h
 have n1:¬ (x.l.length:Int)<0:=by omega
 have n2:¬ (x.l.length:Int)+(y.l.length:Int)<0:=by omega
 simp (disch:=first|omega|simp<;>omega|fail) [-zA,-zB,-zC,-zD,-zE,a112,catA]
 refine zlm5 (S540 x y) (fun i=>2-i) (fun i=>i≤2) 0 (z515 (by simp (disch:=first|omega|simp<;>omega|fail) [-zA,-zB,-zC,-zD,-zE,S540,zhqq,zev2,catA]) (by simp (disch:=first|omega|simp<;>omega|fail) [-zA,-zB,-zC,-zD,-zE,S540,zhqq])) (by omega) (fun i hi => ?_)
 simp (disch:=first|omega|simp<;>omega|fail) [-zA,-zB,-zC,-zD,-zE,z91y,zhqq,S540,catA]
 rcases (show i=0∨i=1∨i=2 by omega) with rfl|rfl|rfl
 ·simp (disch:=first|omega|simp<;>omega|fail) [-zA,-zB,-zC,-zD,-zE,zev2,n1]
  exact ⟨1,z515 (by simp (disch:=first|omega|simp<;>omega|fail) [-zA,-zB,-zC,-zD,-zE,S540,zhqq,zev2,catA]) (by simp (disch:=first|omega|simp<;>omega|fail) [-zA,-zB,-zC,-zD,-zE,S540,zhqq]),by simp⟩
 ·simp (disch:=first|omega|simp<;>omega|fail) [-zA,-zB,-zC,-zD,-zE,zev2,n2]
  exact ⟨2,z515 (by simp (disch:=first|omega|simp<;>omega|fail) [-zA,-zB,-zC,-zD,-zE,S540,zhqq,zev2,catA]) (by simp (disch:=first|omega|simp<;>omega|fail) [-zA,-zB,-zC,-zD,-zE,S540,zhqq]),by simp⟩
 ·have hg:=zp5d (n:=n) (k:=0) h
  have e1:z8h2 0 n=newV 0 n 0:=rfl
  have e2:zuiy n=newH n []:=by unfold zuiy newH; rfl
  rw [e1,e2] at hg
  have hn':((x.l.length:Int)+(y.l.length:Int))=(n:Int):=by omega
  simp (disch:=first|omega|simp<;>omega|fail) [-zA,-zB,-zC,-zD,-zE,zev2,hn,hn',ziqe,hg]
  refine zlm5 (S541 x y n) (fun i=>2-i) (fun i=>i≤2) 0 (z515 (by simp (disch:=first|omega|simp<;>omega|fail) [-zA,-zB,-zC,-zD,-zE,S541,zlbu,z038,catA]) (by simp (disch:=first|omega|simp<;>omega|fail) [-zA,-zB,-zC,-zD,-zE,S541,zlbu,z038])) (by omega) (fun i hi => ?_)
  simp (disch:=first|omega|simp<;>omega|fail) [-zA,-zB,-zC,-zD,-zE,z3ty,zlbu,S541,catA]
  have vx : ∀ H,visY H (x.dv 32 dgC)=some (x.l.length,x.l.flatMap dgC):=fun H=>zwaa z1t1
  have vy : ∀ H,visY H (y.dv 32 dgC)=some (y.l.length,y.l.flatMap dgC):=fun H=>zwaa z1t1
  rcases (show i=0∨i=1∨i=2 by omega) with rfl|rfl|rfl
  ·have ha:=znme (n:=n) (u:=[]) (v:=x.l) (by simp; omega) h
   simp only [List.nil_append,List.length_nil,Nat.zero_add] at ha
   simp (disch:=first|omega|simp<;>omega|fail) [-zA,-zB,-zC,-zD,-zE,z038,vx,ha]
   exact ⟨1,z515 (by simp (disch:=first|omega|simp<;>omega|fail) [-zA,-zB,-zC,-zD,-zE,S541,zlbu,z038,catA]) (by simp (disch:=first|omega|simp<;>omega|fail) [-zA,-zB,-zC,-zD,-zE,S541,zlbu,z038]),by simp⟩
  ·have ha:=znme (n:=n) (u:=x.l) (v:=y.l) (by omega) h
   simp (disch:=first|omega|simp<;>omega|fail) [-zA,-zB,-zC,-zD,-zE,z038,vy,ha]
   exact ⟨2,z515 (by simp (disch:=first|omega|simp<;>omega|fail) [-zA,-zB,-zC,-zD,-zE,S541,zlbu,z038,catA]) (by simp (disch:=first|omega|simp<;>omega|fail) [-zA,-zB,-zC,-zD,-zE,S541,zlbu,z038]),by simp⟩
  ·have hl:(x.l++y.l).length=n:=by rw [List.length_append,hn]
   simp (disch:=first|omega|simp<;>omega|fail) [-zA,-zB,-zC,-zD,-zE,z038]
   by_cases e:n=0
   ·have e3:x.l++y.l=[]:=List.eq_nil_of_length_eq_zero (by omega)
    simp only [newV,newH,if_pos e,e3,z2i7]
    rfl
   ·have e3:x.l++y.l≠[]:=fun q=>e (by rw [← hl,q]; rfl)
    rw [zgr3 e3 (by omega)]
    simp only [newV,newH,if_neg e]
    have hs:=z29t (f:=dgC) z1t1 z3ot (pre:=[]) (l:=x.l++y.l) (m:=n)
    rw [hl,List.take_of_length_le (by omega)] at hs
    simp only [hl,Nat.sub_self,List.replicate_zero,List.append_nil,hn]
    exact hs
noncomputable def cCat:List DV→Option DV:=con (fun a:Sl Dg × Sl Dg=>a.1.l.length+a.2.l.length≤1000000) (fun a=>[catA a.1 a.2]) (fun a=>(ownN (a.1.l++a.2.l)).dv 32 dgC)
theorem zf44 {x y:Sl Dg} (h:x.l.length+y.l.length≤1000000):cCat [.sl true 1 2 [x.dv 32 dgC,y.dv 32 dgC]]=some ((ownN (x.l++y.l)).dv 32 dgC) :=
 zlyi (f:=fun a:Sl Dg × Sl Dg=>[catA a.1 a.2]) (g:=fun a=>(ownN (a.1.l++a.2.l)).dv 32 dgC) (by
  rintro ⟨a,b⟩ ⟨c,d⟩ e
  simp only [catA,List.cons.injEq,DV.sl.injEq,and_true,true_and] at e
  rw [z42k e.1,z42k e.2]) (x,y) h
theorem ztpx:(Con.pure cCat).Sound P 112:=z2au fun a h=>zljw mix zh4p Tryz.func112 z6i5 (zcfr a.1 a.2 h)
end Go.Proofs.YtdnhbfmlklaldaaGreat
set_option linter.unusedSimpArgs false
set_option linter.unusedVariables false
namespace Go.Proofs.YtdnhbfmlklaldaaGreat
open Go Go.Am
def Sel.fid:Sel→Nat
 | .every=>65
 | .same _=>66
 | .source _=>67
 | .chained _ _=>71
 | .fresh _ _ _=>76
 | .target _=>111
def smF (o:Org):DV := .fn (.func 66) [] [.ref (orC o)]
def Sel.cap:Sel→List DV
 | .every=>[]
 | .same o=>[.ref (orC o)]
 | .source o=>[.ref (orC o)]
 | .chained o q=>[.ref [smF o],.ref (rqC q)]
 | .fresh o c q=>[.ref [smF o],.ref (caC c),.ref (rqC q)]
 | .target d=>[.ref (dgC d)]
def Sel.dv (s:Sel):DV := .fn (.func s.fid) [] s.cap
theorem zogt {a b:Org} (h:smF a=smF b):a=b:=by
 simp only [smF,DV.fn.injEq,List.cons.injEq,DV.ref.injEq,and_true,true_and] at h
 exact zc65 h
theorem Sel.inj : ∀ {a b:Sel},a.fid=b.fid→a.cap=b.cap→a=b:=by
 intro a b h1 h2
 cases a<;>cases b<;>first
  | rfl
  | (simp [Sel.fid] at h1; done)
  | (simp only [Sel.cap,List.cons.injEq,DV.ref.injEq,and_true] at h2; first|rw [zc65 h2]|rw [zib9 h2]|rw [zogt h2.1,z82b h2.2]|rw [zogt h2.1,zejx h2.2.1,z82b h2.2.2])
theorem Sel.dv_inj {a b:Sel} (h:a.dv=b.dv):a=b:=by
 simp only [Sel.dv,DV.fn.injEq,Fn.func.injEq,true_and] at h
 exact Sel.inj h.1 h.2
theorem zdkr (o:Org):zyp8 (smF o)=true:=by simp [smF,zyp8,zbao,ztvh]
theorem zu6j (s:Sel):zbao s.cap=true:=by
 cases s<;>simp [Sel.cap,zbao,zyp8,ztvh,zhqv,zkih,z3ot,zdkr]
theorem z5m1 (s:Sel):zyp8 s.dv=true:=by simp [Sel.dv,zyp8,zbao,zu6j]
theorem z3lz {h:List AObj} {k:Nat} {s:Sel}:z4tt h k s.cap=some s.cap:=z619 (zu6j s)
theorem zi4g {h:List AObj} {k:Nat} {s:Sel}:snap h k s.dv=some s.dv:=z6nl (z5m1 s)
attribute [simp] z3lz zi4g
noncomputable def cSel (k:Nat):List DV→Option DV:=con (fun a:Sel × Fct=>a.1.fid=k) (fun a => .agg (faC a.2)::a.1.cap) (fun a => .bool (a.1.p a.2))
theorem zfuw {s:Sel} {f:Fct}:cSel s.fid (.agg (faC f)::s.cap)=some (.bool (s.p f)) :=
 z400 (a:=(s,f)) (by
  rintro ⟨a,f⟩ ⟨b,g⟩ h1 h2 e
  simp only [List.cons.injEq,DV.agg.injEq] at e
  have h1:a.fid=_:=h1
  have h2:b.fid=_:=h2
  rw [z38a e.1,Sel.inj (h1.trans h2.symm) e.2]) rfl
theorem zssk {k:Nat} (h : ∀ (s:Sel) (f:Fct),s.fid=k→Am.Sem P k (.agg (faC f)::s.cap) (.bool (s.p f))):(Con.pure (cSel k)).Sound P k:=z2au fun a ha=>h a.1 a.2 ha
noncomputable def cOr:List DV→Option DV:=con (fun _=>True) (fun f:Fct=>[.agg (faC f)]) (fun f => .agg (orC (z5z5 f)))
theorem z68y {f:Fct}:cOr [.agg (faC f)]=some (.agg (orC (z5z5 f))):=zsn4 (f:=fun f:Fct=>[.agg (faC f)]) (g:=fun f => .agg (orC (z5z5 f))) (fun a b e=>by simp only [List.cons.injEq,DV.agg.injEq,and_true] at e; exact z38a e) f
theorem zipn (f:Fct):Runs tbl0 a33 [.agg (faC f)] (.agg (orC (z5z5 f))):=by
 refine ⟨?_⟩
 have hor:dgC f.rev++[.str f.lay,.str f.run]=orC (z5z5 f):=rfl
 simp (disch:=first|omega|simp<;>omega|fail) [-zA,-zB,-zC,-zD,-zE,a33,hor]
theorem zcra:(Con.pure cOr).Sound P 33:=z2au fun f _=>zljw mix zr5o Tryz.func33 zojn (zipn f)
noncomputable def cTm:List DV→Option DV
 | [.int .i64 t]=>some (.bool (tmB t))|_=>none
theorem zixp {t:Int}:cTm [.int .i64 t]=some (.bool (tmB t)):=rfl
theorem z4qz (t:Int):Runs tbl0 a77 [.int .i64 t] (.bool (tmB t)):=by
 refine ⟨?_⟩
 by_cases h0:0≤t
 ·by_cases h1:t≤1099511627776
  ·simp (disch:=first|omega|simp<;>omega|fail) [-zA,-zB,-zC,-zD,-zE,a77,h0,h1,tmB]
  ·simp (disch:=first|omega|simp<;>omega|fail) [-zA,-zB,-zC,-zD,-zE,a77,h0,h1,tmB]
 ·simp (disch:=first|omega|simp<;>omega|fail) [-zA,-zB,-zC,-zD,-zE,a77,h0,tmB]
theorem zvmx:(Con.pure cTm).Sound P 77:=by
 intro args v e
 unfold cTm at e
 split at e
 ·simp at e; subst e; exact zljw mix zr5o Tryz.func77 z20a (z4qz _)
 ·simp at e
theorem z71a (f:Fct):Runs tbl0 a65 [.agg (faC f)] (.bool true):=by
 refine ⟨?_⟩
 simp (disch:=first|omega|simp<;>omega|fail) [-zA,-zB,-zC,-zD,-zE,a65]
noncomputable def T550:Tbl:=addT 33 (.pure cOr) tbl0
theorem zz4q:T550 33 = .pure cOr:=by simp [T550]
theorem zc66:T550.Sound P:=z0rp zcra zr5o
theorem z83k (o:Org) (f:Fct):Runs T550 a66 [.agg (faC f),.ref (orC o)] (.bool (decide (z5z5 f=o))):=by
 refine ⟨?_⟩
 simp (disch:=first|omega|simp<;>omega|fail) [-zA,-zB,-zC,-zD,-zE,a66,zz4q,z68y]
theorem zxhc (o:Org) (f:Fct):Runs tbl0 a67 [.agg (faC f),.ref (orC o)] (.bool (decide (f.rev=o.rev))):=by
 refine ⟨?_⟩
 simp (disch:=first|omega|simp<;>omega|fail) [-zA,-zB,-zC,-zD,-zE,a67]
theorem z4ko (d:Dg) (f:Fct):Runs tbl0 a111 [.agg (faC f),.ref (dgC d)] (.bool (decide (f.tgt=d))):=by
 refine ⟨?_⟩
 simp (disch:=first|omega|simp<;>omega|fail) [-zA,-zB,-zC,-zD,-zE,a111]
theorem zgg0:(Con.pure (cSel 66)).Sound P 66:=zssk fun s f h=>by
 cases s<;>first
  | (simp [Sel.fid] at h; done)
  | exact zljw mix zc66 Tryz.func66 z3a6 (z83k _ f)
noncomputable def T551:Tbl:=addT 66 (.pure (cSel 66)) (addT 77 (.pure cTm) tbl0)
theorem z1q3:T551 66 = .pure (cSel 66):=by simp [T551]
theorem zdgz:T551 77 = .pure cTm:=by simp [T551]
theorem zn02:T551.Sound P:=z0rp zgg0 (z0rp zvmx zr5o)
theorem z12p {o:Org} {f:Fct}:cSel 66 [.agg (faC f),.ref (orC o)]=some (.bool (decide (z5z5 f=o))):=zfuw (s := .same o) (f:=f)
theorem zig3 (o:Org) (q:Req) (f:Fct):Runs T551 a71 [.agg (faC f),.ref [smF o],.ref (rqC q)] (.bool ((Sel.chained o q).p f)):=by
 refine ⟨?_⟩
 by_cases h:z5z5 f=o
 ·simp (disch:=first|omega|simp<;>omega|fail) [-zA,-zB,-zC,-zD,-zE,a71,smF,z1q3,z12p,h,Sel.p]
 ·simp (disch:=first|omega|simp<;>omega|fail) [-zA,-zB,-zC,-zD,-zE,a71,smF,z1q3,z12p,h,Sel.p]
theorem zt2k (o:Org) (c:Cas) (q:Req) (f:Fct):Runs T551 a76 [.agg (faC f),.ref [smF o],.ref (caC c),.ref (rqC q)] (.bool ((Sel.fresh o c q).p f)):=by
 refine ⟨?_⟩
 by_cases h:z5z5 f=o
 case neg=>simp (disch:=first|omega|simp<;>omega|fail) [-zA,-zB,-zC,-zD,-zE,a76,smF,z1q3,z12p,h,Sel.p]
 cases h1:tmB f.at_ with
 | false=>simp (disch:=first|omega|simp<;>omega|fail) [-zA,-zB,-zC,-zD,-zE,a76,smF,z1q3,zdgz,zixp,z12p,h,h1,Sel.p]
 | true =>
 cases h2:tmB c.at_ with
 | false=>simp (disch:=first|omega|simp<;>omega|fail) [-zA,-zB,-zC,-zD,-zE,a76,smF,z1q3,zdgz,zixp,z12p,h,h1,h2,Sel.p]
 | true =>
 by_cases h3:f.at_≤c.at_
 case neg=>simp (disch:=first|omega|simp<;>omega|fail) [-zA,-zB,-zC,-zD,-zE,a76,smF,z1q3,zdgz,zixp,z12p,h,h1,h2,h3,Sel.p]
 have h1':=h1
 have h2':=h2
 simp only [tmB,Bool.and_eq_true,decide_eq_true_eq] at h1' h2'
 have hw:IntKind.i64.wrap (c.at_-f.at_)=c.at_-f.at_:=by rw [IntKind.wrap_i64]; omega
 simp (disch:=first|omega|simp<;>omega|fail) [-zA,-zB,-zC,-zD,-zE,a76,smF,z1q3,zdgz,zixp,z12p,h,h1,h2,h3,hw,Sel.p]
noncomputable def T552:Tbl:=addT 65 (.pure (cSel 65)) (addT 66 (.pure (cSel 66)) (addT 67 (.pure (cSel 67)) (addT 71 (.pure (cSel 71)) (addT 76 (.pure (cSel 76)) (addT 111 (.pure (cSel 111)) tbl0)))))
theorem zdg6 (s:Sel):T552 s.fid = .pure (cSel s.fid):=by cases s<;>simp [T552,Sel.fid]
theorem zxjv:(Con.pure (cSel 65)).Sound P 65:=zssk fun s f h=>by
 cases s<;>first
  | (simp [Sel.fid] at h; done)
  | exact zljw mix zr5o Tryz.func65 zh04 (z71a f)
theorem z60j:(Con.pure (cSel 67)).Sound P 67:=zssk fun s f h=>by
 cases s<;>first
  | (simp [Sel.fid] at h; done)
  | exact zljw mix zr5o Tryz.func67 zy8u (zxhc _ f)
theorem z69l:(Con.pure (cSel 71)).Sound P 71:=zssk fun s f h=>by
 cases s<;>first
  | (simp [Sel.fid] at h; done)
  | exact zljw mix zn02 Tryz.func71 zbtg (zig3 _ _ f)
theorem zlew:(Con.pure (cSel 76)).Sound P 76:=zssk fun s f h=>by
 cases s<;>first
  | (simp [Sel.fid] at h; done)
  | exact zljw mix zn02 Tryz.func76 zqxf (zt2k _ _ _ f)
theorem znq2:(Con.pure (cSel 111)).Sound P 111:=zssk fun s f h=>by
 cases s<;>first
  | (simp [Sel.fid] at h; done)
  | exact zljw mix zr5o Tryz.func111 zmlq (z4ko _ f)
theorem z1e7:T552.Sound P:=z0rp zxjv (z0rp zgg0 (z0rp z60j (z0rp z69l (z0rp zlew (z0rp znq2 zr5o)))))
end Go.Proofs.YtdnhbfmlklaldaaGreat
set_option linter.unusedSimpArgs false
set_option linter.unusedVariables false
namespace Go.Proofs.YtdnhbfmlklaldaaGreat
open Go Go.Am
section
variable {α:Type} {f:α→List DV} {K:Nat}
def gV (K:Nat) (l:List α):DV:=if l=[] then .nils else .ms 1 (l.length*K) 0 K l.length (l.length*K)
def gH (f:α→List DV) (o:AObj) (l:List α):List AObj:=if l=[] then [] else [o,.cells (fl f l)]
theorem zq1z:gV K ([]:List α) = .nils:=rfl
theorem z1yk {o:AObj}:gH f o []=[]:=rfl
theorem z6zt {l:List α} (h:l≠[]):gV K l = .ms 1 (l.length*K) 0 K l.length (l.length*K):=if_neg h
theorem zju3 {o:AObj} {l:List α} (h:l≠[]):gH f o l=[o,.cells (fl f l)]:=if_neg h
theorem zjyf {l:List α} {x:α}:gV K (l++[x]) = .ms 1 ((l.length+1)*K) 0 K (l.length+1) ((l.length+1)*K):=by rw [z6zt (by simp),List.length_append]; rfl
theorem zddm {o:AObj} {l:List α} {x:α}:gH f o (l++[x])=[o,.cells (fl f (l++[x]))]:=zju3 (by simp)
theorem zkaf {l m:List α}:fl f (l++m)=fl f l++fl f m:=by unfold fl; exact List.flatMap_append ..
theorem z4hs {x:α}:fl f [x]=f x:=by unfold fl; simp
theorem zvrp {h:List AObj} {id b m:Nat} {l:List α} {cs:List α} (hu : ∀ a,(f a).length=K) (h0:0<K) (hb:b≤16384) (ha : ∀ a,(f a).all DV.one=true) (hm:cs.length=m) (hbig:l.length+m≤4294967296) (ho:objV h id (l.length*K)=some (fl f l)) :
  appX h K b (.ms id (l.length*K) 0 K l.length (l.length*K)) m (cs.flatMap f)=some (.ms id ((l.length+m)*K) 0 K (l.length+m) ((l.length+m)*K),h.set id (.cells (fl f (l++cs)))):=by
 have hc:(cs.flatMap f).length=m*K:=by rw [z1rq hu,hm]
 rw [zbho rfl hb h0 (by rw [hc]) hbig (z9jy ha cs),ho,Option.map_some,hc,← Nat.add_mul,zkaf]
 rfl
theorem zkg3 {h:List AObj} {id b:Nat} {l:List α} {x:α} (hu : ∀ a,(f a).length=K) (h0:0<K) (hb:b≤16384) (ha : ∀ a,(f a).all DV.one=true) (hbig:l.length+1≤4294967296) (ho:objV h id (l.length*K)=some (fl f l)) :
  appX h K b (.ms id (l.length*K) 0 K l.length (l.length*K)) 1 (f x)=some (.ms id ((l.length+1)*K) 0 K (l.length+1) ((l.length+1)*K),h.set id (.cells (fl f (l++[x])))):=by
 have:=zvrp (m:=1) (cs:=[x]) hu h0 hb ha rfl hbig ho
 rwa [show [x].flatMap f=f x by simp] at this
theorem znhj {o:AObj} {l:List α} {X:List AObj} (hu : ∀ a,(f a).length=K) (hp : ∀ a,zbao (f a)=true) (hb:l.length≤4294967296):snap (gH f o l++X) 3 (gV K l)=some ((ownN l).dv K f):=by
 by_cases e:l=[]
 ·subst e; rw [z2i7]; rfl
 ·rw [z6zt e,zju3 e,zgr3 e hb,zve7]
  have ho:objV ([o,.cells (fl f l)]++X) 1 (l.length*K)=some (fl f l):=by simp [objV,ziu0,z8lx hu]
  rw [ho,Option.bind_some,List.drop_zero,z590 hu,List.take_length,z619 (zp6k hp _)]
  rfl
end
theorem zuk9 {α:Type} {f:α→List DV} {K:Nat} {o:AObj} {l:List α}:Am.below (gH f o l).length (gV K l)=true:=by
 by_cases e:l=[]
 ·subst e; rfl
 ·rw [z6zt e,zju3 e]; rfl
theorem z5x4 {α:Type} {f:α→List DV} {c:List DV} {l:List α} {n:Nat} (hp : ∀ a,zbao (f a)=true) (hc:zbao c=true):zlf2 n (gH f (.cells c) l)=true:=by
 by_cases e:l=[]
 ·subst e; rfl
 ·rw [zju3 e]; simp only [zlf2,Bool.and_eq_true]; exact ⟨zmq5 n _ hc,zmq5 n _ (zp6k hp l),trivial⟩
theorem zglh {n:Nat} {s:Sel}:z1r6 n s.cap=true:=zmq5 n _ (zu6j s)
def fct0:Fct:=⟨0,[],dg0,[],[],0,false,dg0,nilS⟩
structure FP where
 i:Nat
 o:Fct
theorem zkkm {l:List Fct} {k:Int} {s:Sel} {i:Nat} (h:i<l.length):zskr (l.take (i+1)) k s=zskr (l.take i) k s++(if decide (l[i].kind=k)&&s.p l[i] then [l[i]] else []):=by
 rw [List.take_succ_eq_append_getElem h,zskr,List.filter_append,← zskr]
 congr 1
 by_cases e:(decide (l[i].kind=k)&&s.p l[i])=true<;>simp [e]
def S553 (x:Sl Fct) (k:Int) (s:Sel) (a:FP):St:=zd78 (.int .i64 k) s.dv (gV 71 (zskr (x.l.take a.i) k s)) (x.dv 71 faC) (.int .i64 x.l.length) (.int .i64 a.i) (gH faC (.cells (faC a.o)) (zskr (x.l.take a.i) k s))
theorem z6au (x:Sl Fct) (k:Int) (s:Sel):Runs T552 a68 [x.dv 71 faC,.int .i64 k,s.dv] ((ownN (zskr x.l k s)).dv 71 faC):=by
 refine ⟨?_⟩
 have hb:=x.b
 simp (disch:=first|omega|simp<;>omega|fail) [-zA,-zB,-zC,-zD,-zE,a68]
 refine zlm5 (S553 x k s) (fun a=>x.l.length-a.i) (fun a=>a.i≤x.l.length) ⟨0,fct0⟩ (z515 (by simp (disch:=first|omega|simp<;>omega|fail) [-zA,-zB,-zC,-zD,-zE,S553,zd78,zskr,gV]) (by simp (disch:=first|omega|simp<;>omega|fail) [-zA,-zB,-zC,-zD,-zE,S553,zd78,zskr,gH])) (by simp) (fun a hi => ?_)
 obtain ⟨i,o⟩:=a
 simp only at hi
 have hlen:(zskr (x.l.take i) k s).length≤i:=by have:=List.length_filter_le (fun f=>decide (f.kind=k)&&s.p f) (x.l.take i); rw [List.length_take] at this; unfold zskr; omega
 simp only [S553]
 obtain ⟨L,hL⟩ : ∃ L,zskr (x.l.take i) k s=L:=⟨_,rfl⟩
 rw [hL] at hlen ⊢
 by_cases h:i<x.l.length
 ·have h':(i:Int)<x.l.length:=by omega
  have hg : ∀ H,zpsc H 71 (x.dv 71 faC) i=some (.ref (faC x.l[i])):=fun H=>zalo zs77 h
  have hn:=zkkm (k:=k) (s:=s) h
  rw [hL] at hn
  obtain ⟨f,hf⟩ : ∃ f,x.l[i]=f:=⟨_,rfl⟩
  rw [hf] at hn hg
  have hcs:=zfuw (s:=s) (f:=f)
  by_cases hk:f.kind=k
  case neg =>
   have hn':zskr (x.l.take (i+1)) k s=L:=by rw [hn]; simp [hk]
   simp (disch:=first|omega|simp<;>omega|fail) [-zA,-zB,-zC,-zD,-zE,z0bm,zd78,h,h',hg,hk]
   exact ⟨⟨i+1,o⟩,zju2 (tail:=[.cells (faC f)]) (by simp (disch:=first|omega|simp<;>omega|fail) [-zA,-zB,-zC,-zD,-zE,S553,zd78,hn',Sel.dv]) (by simp (disch:=first|omega|simp<;>omega|fail) [-zA,-zB,-zC,-zD,-zE,S553,zd78,hn']) (Nat.zero_le _) (by simp (disch:=first|omega|simp<;>omega|fail) [-zA,-zB,-zC,-zD,-zE,S553,zd78,hn',z1r6,Am.below,zuk9,Sel.dv,zglh]) (by simp only [S553,zd78,hn']; exact z5x4 z93p (z93p _)),by simp only; omega,by simp only; omega⟩
  case pos =>
  cases hs:s.p f with
  | false =>
   have hn':zskr (x.l.take (i+1)) k s=L:=by rw [hn]; simp [hk,hs]
   simp (disch:=first|omega|simp<;>omega|fail) [-zA,-zB,-zC,-zD,-zE,z0bm,zd78,h,h',hg,hk,Sel.dv,zdg6,hcs,hs]
   exact ⟨⟨i+1,o⟩,zju2 (tail:=[.cells (faC f)]) (by simp (disch:=first|omega|simp<;>omega|fail) [-zA,-zB,-zC,-zD,-zE,S553,zd78,hn',Sel.dv]) (by simp (disch:=first|omega|simp<;>omega|fail) [-zA,-zB,-zC,-zD,-zE,S553,zd78,hn']) (Nat.zero_le _) (by simp (disch:=first|omega|simp<;>omega|fail) [-zA,-zB,-zC,-zD,-zE,S553,zd78,hn',z1r6,Am.below,zuk9,Sel.dv,zglh]) (by simp only [S553,zd78,hn']; exact z5x4 z93p (z93p _)),by simp only; omega,by simp only; omega⟩
  | true =>
   have hn':zskr (x.l.take (i+1)) k s=L++[f]:=by rw [hn]; simp [hk,hs]
   have hsn:zskr (x.l.take (i+1)) k s=L++[f]:=hn'
   by_cases e:L=[]
   ·subst e
    have hap:=zsuq (h:=[AObj.cells (faC f)]) (s:=71) (b:=160) (m:=1) (cs:=faC f) (by decide) (by decide) (by rw [zs77]) (by decide) (by decide)
    simp only [zs77,List.length_cons,List.length_nil] at hap
    simp (disch:=first|omega|simp<;>omega|fail) [-zA,-zB,-zC,-zD,-zE,z0bm,zd78,h,h',hg,hk,Sel.dv,zdg6,hcs,hs,zq1z,z1yk,hap]
    rw [List.nil_append] at hn'
    have e1:gV 71 [f] = .ms 1 71 0 71 1 71:=rfl
    have e2:gH faC (.cells (faC f)) [f]=[.cells (faC f),.cells (faC f)]:=by rw [zju3 (by simp),z4hs]
    exact ⟨⟨i+1,f⟩,z515 (by simp (disch:=first|omega|simp<;>omega|fail) [-zA,-zB,-zC,-zD,-zE,S553,zd78,hn',e1,Sel.dv]) (by simp (disch:=first|omega|simp<;>omega|fail) [-zA,-zB,-zC,-zD,-zE,S553,zd78,hn',e2]),by simp only; omega,by simp only; omega⟩
   ·have hap:=zkg3 (h:=[AObj.cells (faC o),.cells (fl faC L),.cells (faC f)]) (id:=1) (b:=160) (l:=L) (x:=f) zs77 (by decide) (by decide) (fun _=>zfgo) (by omega) (by simp [objV,ziu0,z8lx zs77])
    simp (disch:=first|omega|simp<;>omega|fail) [-zA,-zB,-zC,-zD,-zE,z0bm,zd78,h,h',hg,hk,Sel.dv,zdg6,hcs,hs,z6zt e,zju3 e,hap]
    have e1:=zjyf (K:=71) (l:=L) (x:=f)
    have e2:=zddm (f:=faC) (o := .cells (faC o)) (l:=L) (x:=f)
    exact ⟨⟨i+1,o⟩,zju2 (tail:=[.cells (faC f)]) (by simp (disch:=first|omega|simp<;>omega|fail) [-zA,-zB,-zC,-zD,-zE,S553,zd78,hn',e1,Sel.dv]) (by simp (disch:=first|omega|simp<;>omega|fail) [-zA,-zB,-zC,-zD,-zE,S553,zd78,hn',e2]) (Nat.zero_le _) (by simp (disch:=first|omega|simp<;>omega|fail) [-zA,-zB,-zC,-zD,-zE,S553,zd78,hn',z1r6,Am.below,e1,e2,Sel.dv,zglh]) (by simp only [S553,zd78,hn']; exact z5x4 z93p (z93p _)),by simp only; omega,by simp only; omega⟩
 ·have h':¬ (i:Int)<x.l.length:=by omega
  have ht:x.l.take i=x.l:=List.take_of_length_le (by omega)
  have hsn:=znhj (o := .cells (faC o)) (l:=L) (X:=[]) zs77 z93p (by omega)
  rw [List.append_nil] at hsn
  rw [ht] at hL
  simp (disch:=first|omega|simp<;>omega|fail) [-zA,-zB,-zC,-zD,-zE,z0bm,zd78,h,h',hL,hsn]
noncomputable def cFct:List DV→Option DV:=con (fun _=>True) (fun a:Sl Fct × Int × Sel=>[a.1.dv 71 faC,.int .i64 a.2.1,a.2.2.dv]) (fun a=>(ownN (zskr a.1.l a.2.1 a.2.2)).dv 71 faC)
theorem zek8 {x:Sl Fct} {k:Int} {s:Sel}:cFct [x.dv 71 faC,.int .i64 k,s.dv]=some ((ownN (zskr x.l k s)).dv 71 faC) :=
 zsn4 (f:=fun a:Sl Fct × Int × Sel=>[a.1.dv 71 faC,.int .i64 a.2.1,a.2.2.dv]) (g:=fun a=>(ownN (zskr a.1.l a.2.1 a.2.2)).dv 71 faC) (by
  rintro ⟨a,b,c⟩ ⟨d,e,f⟩ q
  simp only [List.cons.injEq,DV.int.injEq,and_true,true_and] at q
  rw [z4rf q.1,q.2.1,Sel.dv_inj q.2.2]) (x,k,s)
theorem zbp8:(Con.pure cFct).Sound P 68:=z2au fun a _=>zljw mix z1e7 Tryz.func68 z20i (z6au a.1 a.2.1 a.2.2)
end Go.Proofs.YtdnhbfmlklaldaaGreat
set_option linter.unusedSimpArgs false
set_option linter.unusedVariables false
namespace Go.Proofs.YtdnhbfmlklaldaaGreat
open Go Go.Am
def ixDg (x:Sl Dg) (d:Dg):Int:=ixI (fun e=>decide (d=e)) x.l
def SxDg (x:Sl Dg) (d:Dg) (i:Nat):St:=ztaw (x.dv 32 dgC) (.mp 0 32 0) (.int .i64 x.l.length) (.int .i64 i) [.cells (dgC d)]
theorem zf4z (x:Sl Dg) (d:Dg):Runs tbl0 a88 [x.dv 32 dgC,.agg (dgC d)] (.int .i64 (ixDg x d)):=by
 refine ⟨?_⟩
 have hb:=x.b
 simp (disch:=first|omega|simp<;>omega|fail) [-zA,-zB,-zC,-zD,-zE,a88]
 refine zlm5 (SxDg x d) (fun i=>x.l.length-i) (fun i=>i≤x.l.length ∧ ∀ j (hj:j<x.l.length),j<i→decide (d=x.l[j])=false) 0 (z515 (by simp (disch:=first|omega|simp<;>omega|fail) [-zA,-zB,-zC,-zD,-zE]) (by simp (disch:=first|omega|simp<;>omega|fail) [-zA,-zB,-zC,-zD,-zE])) ⟨by omega,fun j _ hj=>by omega⟩ (fun i hi => ?_)
 obtain ⟨h1,h2⟩:=hi
 simp (disch:=first|omega|simp<;>omega|fail) [-zA,-zB,-zC,-zD,-zE,z2r1,ztaw,SxDg]
 by_cases h:i<x.l.length
 ·have h':(i:Int)<x.l.length:=by omega
  have hg:=zalo (x:=x) (h:=[.cells (dgC d)]) z1t1 h
  by_cases e:d=x.l[i]
  ·have hr:ixDg x d=i:=zy9u h (by simp [← e]) h2
   simp (disch:=first|omega|simp<;>omega|fail) [-zA,-zB,-zC,-zD,-zE,h',h,hg,← e,hr]
  ·simp (disch:=first|omega|simp<;>omega|fail) [-zA,-zB,-zC,-zD,-zE,h',h,hg,e]
   refine ⟨i+1,z515 (by simp (disch:=first|omega|simp<;>omega|fail) [-zA,-zB,-zC,-zD,-zE]) (by simp (disch:=first|omega|simp<;>omega|fail) [-zA,-zB,-zC,-zD,-zE]),by omega,by omega,fun j hj hji => ?_⟩
   by_cases ej:j=i
   ·subst ej; simpa using e
   ·simpa using h2 j hj (by omega)
 ·have h':¬ (i:Int)<x.l.length:=by omega
  have hr:ixDg x d = -1:=zfki (fun j hj=>h2 j hj (by omega))
  simp (disch:=first|omega|simp<;>omega|fail) [-zA,-zB,-zC,-zD,-zE,h,h',hr]
theorem zlqg {x:Sl Dg} {d:Dg}:0≤ixDg x d↔d ∈ x.l:=by
 constructor
 ·intro h
  obtain ⟨i,hi,_,e,_⟩:=zgr5 h
  simp at e
  rw [e]; exact List.getElem_mem hi
 ·intro h
  obtain ⟨i,hi,e⟩:=List.getElem_of_mem h
  have:=zkgb (fun e=>decide (d=e)) x.l
  by_cases hn:ixDg x d<0
  ·have:=z378 hn i hi
   simp [e] at this
  ·omega
noncomputable def c2Dg (g:Sl Dg→Dg→DV):List DV→Option DV:=con (fun _=>True) (fun p:Sl Dg × Dg=>[p.1.dv 32 dgC,.agg (dgC p.2)]) (fun p=>g p.1 p.2)
theorem zkbz {g:Sl Dg→Dg→DV} {x:Sl Dg} {d:Dg}:c2Dg g [x.dv 32 dgC,.agg (dgC d)]=some (g x d) :=
 zsn4 (f:=fun p:Sl Dg × Dg=>[p.1.dv 32 dgC,.agg (dgC p.2)]) (g:=fun p=>g p.1 p.2) (by
  rintro ⟨a,b⟩ ⟨c,d⟩ e
  simp only [List.cons.injEq,DV.agg.injEq,DV.str.injEq,and_true] at e
  rw [z42k e.1,zib9 e.2]) (x,d)
noncomputable def TxDg:Tbl:=addT 88 (.pure (c2Dg fun x d => .int .i64 (ixDg x d))) tbl0
theorem zf0t:TxDg 88 = .pure (c2Dg fun x d => .int .i64 (ixDg x d)):=by simp [TxDg]
theorem zlgj:TxDg.Sound P:=z0rp (z2au fun p _=>zljw mix zr5o Tryz.func88 zqgj (zf4z p.1 p.2)) zr5o
def zmc8 (x:Sl Dg) (d:Dg):DV := .bool (decide (d ∈ x.l))
theorem z7hp (x:Sl Dg) (d:Dg):Runs TxDg a46 [x.dv 32 dgC,.agg (dgC d)] (zmc8 x d):=by
 refine ⟨?_⟩
 simp (disch:=first|omega|simp<;>omega|fail) [-zA,-zB,-zC,-zD,-zE,a46,zf0t,zkbz,zmc8,zlqg]
theorem zcna:(Con.pure (c2Dg zmc8)).Sound P 46:=z2au fun p _=>zljw mix zlgj Tryz.func46 znv1 (z7hp p.1 p.2)
def ixSt (x:Sl Str) (d:Str):Int:=ixI (fun e=>decide (d=e)) x.l
def SxSt (x:Sl Str) (d:Str) (i:Nat):St:=zzbm (x.dv 1 stC) (.str d) (.int .i64 x.l.length) (.int .i64 i) []
theorem zyli (x:Sl Str) (d:Str):Runs tbl0 a142 [x.dv 1 stC,.str d] (.int .i64 (ixSt x d)):=by
 refine ⟨?_⟩
 have hb:=x.b
 simp (disch:=first|omega|simp<;>omega|fail) [-zA,-zB,-zC,-zD,-zE,a142]
 refine zlm5 (SxSt x d) (fun i=>x.l.length-i) (fun i=>i≤x.l.length ∧ ∀ j (hj:j<x.l.length),j<i→decide (d=x.l[j])=false) 0 (z515 (by simp (disch:=first|omega|simp<;>omega|fail) [-zA,-zB,-zC,-zD,-zE]) (by simp (disch:=first|omega|simp<;>omega|fail) [-zA,-zB,-zC,-zD,-zE])) ⟨by omega,fun j _ hj=>by omega⟩ (fun i hi => ?_)
 obtain ⟨h1,h2⟩:=hi
 simp (disch:=first|omega|simp<;>omega|fail) [-zA,-zB,-zC,-zD,-zE,z3nb,zzbm,SxSt]
 by_cases h:i<x.l.length
 ·have h':(i:Int)<x.l.length:=by omega
  have hg:=zalo (x:=x) (h:=[]) zqv6 h
  by_cases e:d=x.l[i]
  ·have hr:ixSt x d=i:=zy9u h (by simp [← e]) h2
   simp (disch:=first|omega|simp<;>omega|fail) [-zA,-zB,-zC,-zD,-zE,h',h,hg,← e,hr,stC]
  ·simp (disch:=first|omega|simp<;>omega|fail) [-zA,-zB,-zC,-zD,-zE,h',h,hg,e,stC]
   refine ⟨i+1,z515 (by simp (disch:=first|omega|simp<;>omega|fail) [-zA,-zB,-zC,-zD,-zE]) (by simp (disch:=first|omega|simp<;>omega|fail) [-zA,-zB,-zC,-zD,-zE]),by omega,by omega,fun j hj hji => ?_⟩
   by_cases ej:j=i
   ·subst ej; simpa using e
   ·simpa using h2 j hj (by omega)
 ·have h':¬ (i:Int)<x.l.length:=by omega
  have hr:ixSt x d = -1:=zfki (fun j hj=>h2 j hj (by omega))
  simp (disch:=first|omega|simp<;>omega|fail) [-zA,-zB,-zC,-zD,-zE,h,h',hr]
theorem zjwx {x:Sl Str} {d:Str}:0≤ixSt x d↔d ∈ x.l:=by
 constructor
 ·intro h
  obtain ⟨i,hi,_,e,_⟩:=zgr5 h
  simp at e
  rw [e]; exact List.getElem_mem hi
 ·intro h
  obtain ⟨i,hi,e⟩:=List.getElem_of_mem h
  have:=zkgb (fun e=>decide (d=e)) x.l
  by_cases hn:ixSt x d<0
  ·have:=z378 hn i hi
   simp [e] at this
  ·omega
noncomputable def c2St (g:Sl Str→Str→DV):List DV→Option DV:=con (fun _=>True) (fun p:Sl Str × Str=>[p.1.dv 1 stC,.str p.2]) (fun p=>g p.1 p.2)
theorem z742 {g:Sl Str→Str→DV} {x:Sl Str} {d:Str}:c2St g [x.dv 1 stC,.str d]=some (g x d) :=
 zsn4 (f:=fun p:Sl Str × Str=>[p.1.dv 1 stC,.str p.2]) (g:=fun p=>g p.1 p.2) (by
  rintro ⟨a,b⟩ ⟨c,d⟩ e
  simp only [List.cons.injEq,DV.agg.injEq,DV.str.injEq,and_true] at e
  rw [z8p4 e.1,e.2]) (x,d)
noncomputable def TxSt:Tbl:=addT 142 (.pure (c2St fun x d => .int .i64 (ixSt x d))) tbl0
theorem zv7b:TxSt 142 = .pure (c2St fun x d => .int .i64 (ixSt x d)):=by simp [TxSt]
theorem z0vj:TxSt.Sound P:=z0rp (z2au fun p _=>zljw mix zr5o Tryz.func142 ztmv (zyli p.1 p.2)) zr5o
def z5by (x:Sl Str) (d:Str):DV := .bool (decide (d ∈ x.l))
theorem zzy9 (x:Sl Str) (d:Str):Runs TxSt a131 [x.dv 1 stC,.str d] (z5by x d):=by
 refine ⟨?_⟩
 simp (disch:=first|omega|simp<;>omega|fail) [-zA,-zB,-zC,-zD,-zE,a131,zv7b,z742,z5by,zjwx]
theorem z4ap:(Con.pure (c2St z5by)).Sound P 131:=z2au fun p _=>zljw mix z0vj Tryz.func131 zsra (zzy9 p.1 p.2)
def zd09 (docs:Sl Dg):DV := .fn (.func 45) [] [.ref [docs.dv 32 dgC]]
theorem zc6z (x:Sl Dg):zyp8 (zd09 x)=true:=by simp [zd09,zyp8,zbao,zpfc]
theorem zrhg {a b:Sl Dg} (h:zd09 a=zd09 b):a=b:=by
 simp only [zd09,DV.fn.injEq,List.cons.injEq,DV.ref.injEq,and_true,true_and] at h
 exact z42k h
noncomputable def T560:Tbl:=addT 46 (.pure (c2Dg zmc8)) tbl0
theorem z6ci:T560 46 = .pure (c2Dg zmc8):=by simp [T560]
theorem z292:T560.Sound P:=z0rp zcna zr5o
theorem z5ol (docs:Sl Dg) (d:Dg):Runs T560 a45 [.agg (dgC d),.ref [docs.dv 32 dgC]] (.bool (!decide (d ∈ docs.l))):=by
 refine ⟨?_⟩
 simp (disch:=first|omega|simp<;>omega|fail) [-zA,-zB,-zC,-zD,-zE,a45,z6ci,zkbz,zmc8]
noncomputable def zfpi:List DV→Option DV:=con (fun _=>True) (fun a:Sl Dg × Dg=>[.agg (dgC a.2),.ref [a.1.dv 32 dgC]]) (fun a => .bool (!decide (a.2 ∈ a.1.l)))
theorem zflx {x:Sl Dg} {d:Dg}:zfpi [.agg (dgC d),.ref [x.dv 32 dgC]]=some (.bool (!decide (d ∈ x.l))) :=
 zsn4 (f:=fun a:Sl Dg × Dg=>[.agg (dgC a.2),.ref [a.1.dv 32 dgC]]) (g:=fun a => .bool (!decide (a.2 ∈ a.1.l))) (by
  rintro ⟨a,b⟩ ⟨c,d⟩ e
  simp only [List.cons.injEq,DV.agg.injEq,DV.ref.injEq,and_true] at e
  rw [zib9 e.1,z42k e.2]) (x,d)
noncomputable def T561:Tbl:=addT 45 (.pure zfpi) tbl0
theorem zpzn:T561 45 = .pure zfpi:=by simp [T561]
theorem zxzi:T561.Sound P:=z0rp (z2au fun a _=>zljw mix z292 Tryz.func45 z94d (z5ol a.1 a.2)) zr5o
inductive Fp where
 | own (n:Str)
 | agr
 | out (d:Sl Dg)
def Fp.fid:Fp→Nat
 | .own _=>127
 | .agr=>128
 | .out _=>51
def Fp.cap:Fp→List DV
 | .own n=>[.ref [.str n]]
 | .agr=>[]
 | .out d=>[.ref [zd09 d]]
def Fp.p:Fp→Fct→Bool
 | .own n,f=>decide (f.own=n)
 | .agr,f=>f.agr
 | .out d,f => !subB f.docs.l d.l
def Fp.dv (s:Fp):DV := .fn (.func s.fid) [] s.cap
theorem Fp.inj : ∀ {a b:Fp},a.fid=b.fid→a.cap=b.cap→a=b:=by
 intro a b h1 h2
 cases a<;>cases b<;>first
  | rfl
  | (simp [Fp.fid] at h1; done)
  | (simp only [Fp.cap,List.cons.injEq,DV.ref.injEq,DV.str.injEq,and_true] at h2; first|rw [h2]|rw [zrhg h2])
theorem Fp.dv_inj {a b:Fp} (h:a.dv=b.dv):a=b:=by
 simp only [Fp.dv,DV.fn.injEq,Fn.func.injEq,true_and] at h
 exact Fp.inj h.1 h.2
theorem ze4c (s:Fp):zbao s.cap=true:=by cases s<;>simp [Fp.cap,zbao,zyp8,zc6z]
theorem zgx6 (s:Fp):zyp8 s.dv=true:=by simp [Fp.dv,zyp8,zbao,ze4c]
theorem z6s7 {h:List AObj} {k:Nat} {s:Fp}:z4tt h k s.cap=some s.cap:=z619 (ze4c s)
theorem zv8v {h:List AObj} {k:Nat} {s:Fp}:snap h k s.dv=some s.dv:=z6nl (zgx6 s)
attribute [simp] z6s7 zv8v
noncomputable def cFp (k:Nat):List DV→Option DV:=con (fun a:Fp × Fct=>a.1.fid=k) (fun a => .agg (faC a.2)::a.1.cap) (fun a => .bool (a.1.p a.2))
theorem zi5i {s:Fp} {f:Fct}:cFp s.fid (.agg (faC f)::s.cap)=some (.bool (s.p f)) :=
 z400 (a:=(s,f)) (by
  rintro ⟨a,f⟩ ⟨b,g⟩ h1 h2 e
  simp only [List.cons.injEq,DV.agg.injEq] at e
  have h1:a.fid=_:=h1
  have h2:b.fid=_:=h2
  rw [z38a e.1,Fp.inj (h1.trans h2.symm) e.2]) rfl
theorem zu7i {k:Nat} (h : ∀ (s:Fp) (f:Fct),s.fid=k→Am.Sem P k (.agg (faC f)::s.cap) (.bool (s.p f))):(Con.pure (cFp k)).Sound P k:=z2au fun a ha=>h a.1 a.2 ha
def SfD (x:Sl Dg) (q:Sl Dg) (i:Nat):St:=zlqy (x.dv 32 dgC) (zd09 q) (.int .i64 x.l.length) (.int .i64 i) []
theorem z7x3 (x:Sl Dg) (q:Sl Dg):Runs T561 a89 [x.dv 32 dgC,zd09 q] (.int .i64 (ixI (fun d => !decide (d ∈ q.l)) x.l)):=by
 refine ⟨?_⟩
 have hb:=x.b
 simp (disch:=first|omega|simp<;>omega|fail) [-zA,-zB,-zC,-zD,-zE,a89]
 refine zlm5 (SfD x q) (fun i=>x.l.length-i) (fun i=>i≤x.l.length ∧ ∀ j (hj:j<x.l.length),j<i→(fun d => !decide (d ∈ q.l)) x.l[j]=false) 0 (z515 (by simp (disch:=first|omega|simp<;>omega|fail) [-zA,-zB,-zC,-zD,-zE,SfD,zlqy]) (by simp (disch:=first|omega|simp<;>omega|fail) [-zA,-zB,-zC,-zD,-zE,SfD,zlqy])) ⟨by omega,fun j _ hj=>by omega⟩ (fun i hi => ?_)
 obtain ⟨h1,h2⟩:=hi
 simp (disch:=first|omega|simp<;>omega|fail) [-zA,-zB,-zC,-zD,-zE,z3yv,zlqy,SfD]
 by_cases h:i<x.l.length
 ·have h':(i:Int)<x.l.length:=by omega
  have hg:=zalo (x:=x) (h:=[]) z1t1 h
  obtain ⟨f,hf⟩ : ∃ f,x.l[i]=f:=⟨_,rfl⟩
  rw [hf] at hg
  have hcs:=zflx (x:=q) (d:=f)
  cases e:(fun d => !decide (d ∈ q.l)) f with
  | true =>
   have hr:ixI (fun d => !decide (d ∈ q.l)) x.l=i:=zy9u h (by rw [hf]; exact e) h2
   rw [show (!decide (f ∈ q.l))=_ from e] at hcs
   simp (disch:=first|omega|simp<;>omega|fail) [-zA,-zB,-zC,-zD,-zE,h',h,hg,zd09,zpzn,hcs,hr]
  | false =>
   rw [show (!decide (f ∈ q.l))=_ from e] at hcs
   simp (disch:=first|omega|simp<;>omega|fail) [-zA,-zB,-zC,-zD,-zE,h',h,hg,zd09,zpzn,hcs]
   refine ⟨i+1,z515 (by simp (disch:=first|omega|simp<;>omega|fail) [-zA,-zB,-zC,-zD,-zE,SfD,zlqy,zd09,zpzn]) (by simp (disch:=first|omega|simp<;>omega|fail) [-zA,-zB,-zC,-zD,-zE,SfD,zlqy]),by omega,by omega,fun j hj hji => ?_⟩
   by_cases ej:j=i
   ·subst ej; rw [hf]; simpa using e
   ·simpa using h2 j hj (by omega)
 ·have h':¬ (i:Int)<x.l.length:=by omega
  have hr:ixI (fun d => !decide (d ∈ q.l)) x.l = -1:=zfki (fun j hj=>h2 j hj (by omega))
  simp (disch:=first|omega|simp<;>omega|fail) [-zA,-zB,-zC,-zD,-zE,h,h',hr]
noncomputable def zhte:List DV→Option DV:=con (fun _=>True) (fun a:Sl Dg × Sl Dg=>[a.1.dv 32 dgC,zd09 a.2]) (fun a => .int .i64 (ixI (fun d => !decide (d ∈ a.2.l)) a.1.l))
theorem zusk {x:Sl Dg} {q:Sl Dg}:zhte [x.dv 32 dgC,zd09 q]=some (.int .i64 (ixI (fun d => !decide (d ∈ q.l)) x.l)) :=
 zsn4 (f:=fun a:Sl Dg × Sl Dg=>[a.1.dv 32 dgC,zd09 a.2]) (g:=fun a => .int .i64 (ixI (fun d => !decide (d ∈ a.2.l)) a.1.l)) (by
  rintro ⟨a,b⟩ ⟨c,d⟩ e
  simp only [List.cons.injEq,and_true] at e
  rw [z42k e.1,zrhg e.2]) (x,q)
theorem z48n:(Con.pure zhte).Sound P 89:=z2au fun a _=>zljw mix zxzi Tryz.func89 z42j (z7x3 a.1 a.2)
theorem z6h8 {l:List Dg} {q:Sl Dg}:decide (0≤ixI (fun d => !decide (d ∈ q.l)) l) = !subB l q.l:=by
 by_cases h:0≤ixI (fun d => !decide (d ∈ q.l)) l
 ·obtain ⟨i,hi,_,e,_⟩:=zgr5 h
  have:subB l q.l=false:=by
   cases hs:subB l q.l with
   | false=>rfl
   | true=>have:=ztci.1 hs l[i] (List.getElem_mem hi); simp [this] at e
  simp [h,this]
 ·have:subB l q.l=true:=ztci.2 fun x hx=>by
   obtain ⟨i,hi,e⟩:=List.getElem_of_mem hx
   have:=z378 (p:=fun d => !decide (d ∈ q.l)) (l:=l) (by omega) i hi
   rw [e] at this; simpa using this
  simp [h,this]
noncomputable def T562:Tbl:=addT 89 (.pure zhte) tbl0
theorem z6uk:T562 89 = .pure zhte:=by simp [T562]
theorem zdlz:T562.Sound P:=z0rp z48n zr5o
theorem zq6g (x q:Sl Dg):Runs T562 a47 [x.dv 32 dgC,zd09 q] (.bool (!subB x.l q.l)):=by
 refine ⟨?_⟩
 have h:=zusk (x:=x) (q:=q)
 have hs:snap [] 3 (zd09 q)=some (zd09 q):=z6nl (zc6z q)
 have hx:=z6h8 (l:=x.l) (q:=q)
 obtain ⟨N,hN⟩ : ∃ N,ixI (fun d => !decide (d ∈ q.l)) x.l=N:=⟨_,rfl⟩
 rw [hN] at h hx
 simp (disch:=first|omega|simp<;>omega|fail) [-zA,-zB,-zC,-zD,-zE,a47,z6uk,h,hs,hx]
noncomputable def cCf:List DV→Option DV:=con (fun _=>True) (fun a:Sl Dg × Sl Dg=>[a.1.dv 32 dgC,zd09 a.2]) (fun a => .bool (!subB a.1.l a.2.l))
theorem z8o6 {x q:Sl Dg}:cCf [x.dv 32 dgC,zd09 q]=some (.bool (!subB x.l q.l)) :=
 zsn4 (f:=fun a:Sl Dg × Sl Dg=>[a.1.dv 32 dgC,zd09 a.2]) (g:=fun a => .bool (!subB a.1.l a.2.l)) (by
  rintro ⟨a,b⟩ ⟨c,d⟩ e
  simp only [List.cons.injEq,and_true] at e
  rw [z42k e.1,zrhg e.2]) (x,q)
theorem zkac:(Con.pure cCf).Sound P 47:=z2au fun a _=>zljw mix zdlz Tryz.func47 zzqr (zq6g a.1 a.2)
noncomputable def T563:Tbl:=addT 47 (.pure cCf) tbl0
theorem zaqx:T563 47 = .pure cCf:=by simp [T563]
theorem zbzk:T563.Sound P:=z0rp zkac zr5o
theorem z8ix (d:Sl Dg) (f:Fct):Runs T563 a51 [.agg (faC f),.ref [zd09 d]] (.bool (!subB f.docs.l d.l)):=by
 refine ⟨?_⟩
 have h:=z8o6 (x:=f.docs) (q:=d)
 have hs : ∀ H k,snap H k (zd09 d)=some (zd09 d):=fun H k=>z6nl (zc6z d)
 simp (disch:=first|omega|simp<;>omega|fail) [-zA,-zB,-zC,-zD,-zE,a51,zaqx,h,hs]
theorem zf7l (n:Str) (f:Fct):Runs tbl0 a127 [.agg (faC f),.ref [.str n]] (.bool (decide (f.own=n))):=by
 refine ⟨?_⟩
 simp (disch:=first|omega|simp<;>omega|fail) [-zA,-zB,-zC,-zD,-zE,a127]
theorem zs3q (f:Fct):Runs tbl0 a128 [.agg (faC f)] (.bool f.agr):=by
 refine ⟨?_⟩
 simp (disch:=first|omega|simp<;>omega|fail) [-zA,-zB,-zC,-zD,-zE,a128]
theorem zu0y:(Con.pure (cFp 127)).Sound P 127:=zu7i fun s f h=>by
 cases s<;>first
  | (simp [Fp.fid] at h; done)
  | exact zljw mix zr5o Tryz.func127 z6yq (zf7l _ f)
theorem z5yr:(Con.pure (cFp 128)).Sound P 128:=zu7i fun s f h=>by
 cases s<;>first
  | (simp [Fp.fid] at h; done)
  | exact zljw mix zr5o Tryz.func128 zv7v (zs3q f)
theorem zxjm:(Con.pure (cFp 51)).Sound P 51:=zu7i fun s f h=>by
 cases s<;>first
  | (simp [Fp.fid] at h; done)
  | exact zljw mix zbzk Tryz.func51 z8rx (z8ix _ f)
noncomputable def T564:Tbl:=addT 127 (.pure (cFp 127)) (addT 128 (.pure (cFp 128)) (addT 51 (.pure (cFp 51)) tbl0))
theorem z2vt (s:Fp):T564 s.fid = .pure (cFp s.fid):=by cases s<;>simp [T564,Fp.fid]
theorem zxej:T564.Sound P:=z0rp zu0y (z0rp z5yr (z0rp zxjm zr5o))
def SfF (x:Sl Fct) (q:Fp) (i:Nat):St:=z5pk (x.dv 71 faC) (q.dv) (.int .i64 x.l.length) (.int .i64 i) []
theorem zcdi (x:Sl Fct) (q:Fp):Runs T564 a90 [x.dv 71 faC,q.dv] (.int .i64 (ixI q.p x.l)):=by
 refine ⟨?_⟩
 have hb:=x.b
 simp (disch:=first|omega|simp<;>omega|fail) [-zA,-zB,-zC,-zD,-zE,a90]
 refine zlm5 (SfF x q) (fun i=>x.l.length-i) (fun i=>i≤x.l.length ∧ ∀ j (hj:j<x.l.length),j<i→q.p x.l[j]=false) 0 (z515 (by simp (disch:=first|omega|simp<;>omega|fail) [-zA,-zB,-zC,-zD,-zE,SfF,z5pk]) (by simp (disch:=first|omega|simp<;>omega|fail) [-zA,-zB,-zC,-zD,-zE,SfF,z5pk])) ⟨by omega,fun j _ hj=>by omega⟩ (fun i hi => ?_)
 obtain ⟨h1,h2⟩:=hi
 simp (disch:=first|omega|simp<;>omega|fail) [-zA,-zB,-zC,-zD,-zE,z08j,z5pk,SfF]
 by_cases h:i<x.l.length
 ·have h':(i:Int)<x.l.length:=by omega
  have hg:=zalo (x:=x) (h:=[]) zs77 h
  obtain ⟨f,hf⟩ : ∃ f,x.l[i]=f:=⟨_,rfl⟩
  rw [hf] at hg
  have hcs:=zi5i (s:=q) (f:=f)
  cases e:q.p f with
  | true =>
   have hr:ixI q.p x.l=i:=zy9u h (by rw [hf]; exact e) h2
   rw [e] at hcs
   simp (disch:=first|omega|simp<;>omega|fail) [-zA,-zB,-zC,-zD,-zE,h',h,hg,Fp.dv,z2vt,hcs,hr]
  | false =>
   rw [e] at hcs
   simp (disch:=first|omega|simp<;>omega|fail) [-zA,-zB,-zC,-zD,-zE,h',h,hg,Fp.dv,z2vt,hcs]
   refine ⟨i+1,z515 (by simp (disch:=first|omega|simp<;>omega|fail) [-zA,-zB,-zC,-zD,-zE,SfF,z5pk,Fp.dv,z2vt]) (by simp (disch:=first|omega|simp<;>omega|fail) [-zA,-zB,-zC,-zD,-zE,SfF,z5pk]),by omega,by omega,fun j hj hji => ?_⟩
   by_cases ej:j=i
   ·subst ej; rw [hf]; simpa using e
   ·simpa using h2 j hj (by omega)
 ·have h':¬ (i:Int)<x.l.length:=by omega
  have hr:ixI q.p x.l = -1:=zfki (fun j hj=>h2 j hj (by omega))
  simp (disch:=first|omega|simp<;>omega|fail) [-zA,-zB,-zC,-zD,-zE,h,h',hr]
noncomputable def zld3:List DV→Option DV:=con (fun _=>True) (fun a:Sl Fct × Fp=>[a.1.dv 71 faC,a.2.dv]) (fun a => .int .i64 (ixI a.2.p a.1.l))
theorem zjlk {x:Sl Fct} {q:Fp}:zld3 [x.dv 71 faC,q.dv]=some (.int .i64 (ixI q.p x.l)) :=
 zsn4 (f:=fun a:Sl Fct × Fp=>[a.1.dv 71 faC,a.2.dv]) (g:=fun a => .int .i64 (ixI a.2.p a.1.l)) (by
  rintro ⟨a,b⟩ ⟨c,d⟩ e
  simp only [List.cons.injEq,and_true] at e
  rw [z4rf e.1,Fp.dv_inj e.2]) (x,q)
theorem zdfr:(Con.pure zld3).Sound P 90:=z2au fun a _=>zljw mix zxej Tryz.func90 z9pi (zcdi a.1 a.2)
def fAg (x:Sl Str):DV := .fn (.func 130) [] [.ref [x.dv 1 stC]]
theorem zenh {a b:Sl Str} (h:fAg a=fAg b):a=b:=by
 simp only [fAg,DV.fn.injEq,List.cons.injEq,DV.ref.injEq,and_true,true_and] at h
 exact z8p4 h
noncomputable def T565:Tbl:=addT 131 (.pure (c2St z5by)) tbl0
theorem znfs:T565 131 = .pure (c2St z5by):=by simp [T565]
theorem zzml:T565.Sound P:=z0rp z4ap zr5o
theorem zwxm (x:Sl Str) (d:Str):Runs T565 a130 [.str d,.ref [x.dv 1 stC]] (.bool (decide (d ∈ x.l))):=by
 refine ⟨?_⟩
 simp (disch:=first|omega|simp<;>omega|fail) [-zA,-zB,-zC,-zD,-zE,a130,znfs,z742,z5by]
noncomputable def cAg:List DV→Option DV:=con (fun _=>True) (fun a:Sl Str × Str=>[.str a.2,.ref [a.1.dv 1 stC]]) (fun a => .bool (decide (a.2 ∈ a.1.l)))
theorem zr9y {x:Sl Str} {d:Str}:cAg [.str d,.ref [x.dv 1 stC]]=some (.bool (decide (d ∈ x.l))) :=
 zsn4 (f:=fun a:Sl Str × Str=>[.str a.2,.ref [a.1.dv 1 stC]]) (g:=fun a => .bool (decide (a.2 ∈ a.1.l))) (by
  rintro ⟨a,b⟩ ⟨c,d⟩ e
  simp only [List.cons.injEq,DV.str.injEq,DV.ref.injEq,and_true] at e
  rw [e.1,z8p4 e.2]) (x,d)
noncomputable def T566:Tbl:=addT 130 (.pure cAg) tbl0
theorem znqo:T566 130 = .pure cAg:=by simp [T566]
theorem zhcv:T566.Sound P:=z0rp (z2au fun (a:Sl Str × Str) _=>zljw mix zzml Tryz.func130 zndb (zwxm a.1 a.2)) zr5o
def SfS (x:Sl Str) (q:Sl Str) (i:Nat):St:=znr8 (x.dv 1 stC) (fAg q) (.int .i64 x.l.length) (.int .i64 i) []
theorem z8z7 (x:Sl Str) (q:Sl Str):Runs T566 a141 [x.dv 1 stC,fAg q] (.int .i64 (ixI (fun d=>decide (d ∈ q.l)) x.l)):=by
 refine ⟨?_⟩
 have hb:=x.b
 simp (disch:=first|omega|simp<;>omega|fail) [-zA,-zB,-zC,-zD,-zE,a141]
 refine zlm5 (SfS x q) (fun i=>x.l.length-i) (fun i=>i≤x.l.length ∧ ∀ j (hj:j<x.l.length),j<i→(fun d=>decide (d ∈ q.l)) x.l[j]=false) 0 (z515 (by simp (disch:=first|omega|simp<;>omega|fail) [-zA,-zB,-zC,-zD,-zE,SfS,znr8]) (by simp (disch:=first|omega|simp<;>omega|fail) [-zA,-zB,-zC,-zD,-zE,SfS,znr8])) ⟨by omega,fun j _ hj=>by omega⟩ (fun i hi => ?_)
 obtain ⟨h1,h2⟩:=hi
 simp (disch:=first|omega|simp<;>omega|fail) [-zA,-zB,-zC,-zD,-zE,zij2,znr8,SfS]
 by_cases h:i<x.l.length
 ·have h':(i:Int)<x.l.length:=by omega
  have hg:=zalo (x:=x) (h:=[]) zqv6 h
  obtain ⟨f,hf⟩ : ∃ f,x.l[i]=f:=⟨_,rfl⟩
  rw [hf] at hg
  have hcs:=zr9y (x:=q) (d:=f)
  cases e:(fun d=>decide (d ∈ q.l)) f with
  | true =>
   have hr:ixI (fun d=>decide (d ∈ q.l)) x.l=i:=zy9u h (by rw [hf]; exact e) h2
   rw [show decide (f ∈ q.l)=_ from e] at hcs
   simp (disch:=first|omega|simp<;>omega|fail) [-zA,-zB,-zC,-zD,-zE,h',h,hg,fAg,znqo,stC,hcs,hr]
  | false =>
   rw [show decide (f ∈ q.l)=_ from e] at hcs
   simp (disch:=first|omega|simp<;>omega|fail) [-zA,-zB,-zC,-zD,-zE,h',h,hg,fAg,znqo,stC,hcs]
   refine ⟨i+1,z515 (by simp (disch:=first|omega|simp<;>omega|fail) [-zA,-zB,-zC,-zD,-zE,SfS,znr8,fAg,znqo,stC]) (by simp (disch:=first|omega|simp<;>omega|fail) [-zA,-zB,-zC,-zD,-zE,SfS,znr8]),by omega,by omega,fun j hj hji => ?_⟩
   by_cases ej:j=i
   ·subst ej; rw [hf]; simpa using e
   ·simpa using h2 j hj (by omega)
 ·have h':¬ (i:Int)<x.l.length:=by omega
  have hr:ixI (fun d=>decide (d ∈ q.l)) x.l = -1:=zfki (fun j hj=>h2 j hj (by omega))
  simp (disch:=first|omega|simp<;>omega|fail) [-zA,-zB,-zC,-zD,-zE,h,h',hr]
noncomputable def zeas:List DV→Option DV:=con (fun _=>True) (fun a:Sl Str × Sl Str=>[a.1.dv 1 stC,fAg a.2]) (fun a => .int .i64 (ixI (fun d=>decide (d ∈ a.2.l)) a.1.l))
theorem zd24 {x:Sl Str} {q:Sl Str}:zeas [x.dv 1 stC,fAg q]=some (.int .i64 (ixI (fun d=>decide (d ∈ q.l)) x.l)) :=
 zsn4 (f:=fun a:Sl Str × Sl Str=>[a.1.dv 1 stC,fAg a.2]) (g:=fun a => .int .i64 (ixI (fun d=>decide (d ∈ a.2.l)) a.1.l)) (by
  rintro ⟨a,b⟩ ⟨c,d⟩ e
  simp only [List.cons.injEq,and_true] at e
  rw [z8p4 e.1,zenh e.2]) (x,q)
theorem z4ei:(Con.pure zeas).Sound P 141:=z2au fun a _=>zljw mix zhcv Tryz.func141 zjg6 (z8z7 a.1 a.2)
end Go.Proofs.YtdnhbfmlklaldaaGreat
set_option linter.unusedSimpArgs false
set_option linter.unusedVariables false
namespace Go.Proofs.YtdnhbfmlklaldaaGreat
open Go Go.Am
def nms (l:List Fct):List Str:=l.map (·.own)
def nmV (p:Nat) (l:List Fct):DV:=if l=[] then .nils else .ms (p+1) l.length 0 1 (zzy4 l).length l.length
def nmO (l:List Fct):List AObj:=match l with
 | []=>[]
 | f::r=>[.cells (faC f),.cells ((zly8 [] (zxu4 Op.bytesLess (nms (f::r)))).map .str)]
theorem zdnb (l:List Fct):(nms l).length=l.length:=by simp [nms]
theorem ziv1 (l:List Fct):zwrc (zxu4 Op.bytesLess (nms l))=zzy4 l:=zl78 z3gj _
def S570 (x:Sl Fct) (o:Fct) (i:Nat):St:=zfq0 (stV 1 (nms (x.l.take i))) (x.dv 71 faC) (.int .i64 x.l.length) (.int .i64 i) (if nms (x.l.take i)=[] then [] else stH [.cells (faC o)] (nms (x.l.take i)))
noncomputable def T570:Tbl:=addT 125 (.heap (cSt sB fOne sSrt)) (addT 126 (.heap (cSt cB fOne sCmp)) tbl0)
theorem ziw1:T570 125 = .heap (cSt sB fOne sSrt):=by simp [T570]
theorem zh3z:T570 126 = .heap (cSt cB fOne sCmp):=by simp [T570]
theorem ztvz:T570.Sound P:=z0rp z92z (z0rp zm73 zr5o)
theorem zzip {h:List AObj} {id b:Nat} {l:List Str} {x:Str} (hb:b≤16384) (hbig:l.length+1≤4294967296) (ho:objV h id l.length=some (l.map .str)) :
  appX h 1 b (.ms id l.length 0 1 l.length l.length) 1 [.str x]=some (.ms id (l.length+1) 0 1 (l.length+1) (l.length+1),h.set id (.cells ((l++[x]).map .str))):=by
 rw [zbho (by simp) hb (by decide) (by simp) hbig (by simp [DV.one]),ho,Option.map_some,List.map_append]
 rfl
theorem zykc (l:List Str):zbao (l.map DV.str)=true:=by
 induction l with
 | nil=>rfl
 | cons a l ih=>simp [zbao,zyp8,ih]
theorem zp2k {n:Nat} {l:List Str}:z1r6 n (l.map DV.str)=true:=zmq5 n _ (zykc l)
theorem zgdy (x:Sl Fct) (e:x.l=[]):RunsH T570 a105 [x.dv 71 faC] [] (nmV 0 x.l) (nmO x.l):=by
 refine ⟨?_⟩
 have e0:x.l.length=0:=by rw [e]; rfl
 rw [e]
 simp (disch:=first|omega|simp<;>omega|fail) [-zA,-zB,-zC,-zD,-zE,a105]
 refine zlm5 (fun _:Unit=>zfq0 .nils (x.dv 71 faC) (.int .i64 0) (.int .i64 0) []) (fun _=>0) (fun _=>True) () (z515 (by simp (disch:=first|omega|simp<;>omega|fail) [-zA,-zB,-zC,-zD,-zE,zfq0,e0]) (by simp (disch:=first|omega|simp<;>omega|fail) [-zA,-zB,-zC,-zD,-zE,zfq0])) trivial (fun i hi => ?_)
 have h1:=zup5 (pre:=[]) (l:=[]) (by decide)
 have h2:=zvlb (pre:=[]) (l:=[]) (by decide)
 simp only [zejt,z4dm,List.length_nil,show zxu4 Op.bytesLess ([]:List Str)=[] from rfl,show cmV 0 [] = .nils from rfl,show cmH [] []=[] from rfl] at h1 h2
 simp (disch:=first|omega|simp<;>omega|fail) [-zA,-zB,-zC,-zD,-zE,z0tq,zfq0,ziw1,zh3z,h1,h2,nmV,nmO]
theorem zavm (x:Sl Fct) (hb:x.l.length≤1000) (f0:Fct) (r0:List Fct) (e:x.l=f0::r0):RunsH T570 a105 [x.dv 71 faC] [] (nmV 0 x.l) (nmO x.l):=by
 refine ⟨?_⟩
 have e0:0<x.l.length:=by rw [e]; simp
 simp (disch:=first|omega|simp<;>omega|fail) [-zA,-zB,-zC,-zD,-zE,a105]
 refine zlm5 (S570 x f0) (fun i=>x.l.length-i) (fun i=>i≤x.l.length) 0 (z515 (by simp (disch:=first|omega|simp<;>omega|fail) [-zA,-zB,-zC,-zD,-zE,S570,zfq0,nms,zejt]) (by simp (disch:=first|omega|simp<;>omega|fail) [-zA,-zB,-zC,-zD,-zE,S570,zfq0,nms])) (by omega) (fun i hi => ?_)
 simp only [S570]
 by_cases h:i<x.l.length
 ·have h':(i:Int)<x.l.length:=by omega
  have hg : ∀ H,zpsc H 71 (x.dv 71 faC) i=some (.ref (faC x.l[i])):=fun H=>zalo zs77 h
  obtain ⟨f,hf⟩ : ∃ f,x.l[i]=f:=⟨_,rfl⟩
  have hn:nms (x.l.take (i+1))=nms (x.l.take i)++[f.own]:=by rw [List.take_succ_eq_append_getElem h,hf]; simp only [nms,List.map_append,List.map_cons,List.map_nil]
  have hl:(nms (x.l.take i)).length=i:=by rw [zdnb,List.length_take]; omega
  rw [hf] at hg
  obtain ⟨L,hL⟩ : ∃ L,nms (x.l.take i)=L:=⟨_,rfl⟩
  rw [hL] at hn hl ⊢
  by_cases eL:L=[]
  ·subst eL
   have i0:i=0:=by rw [← hl]; rfl
   subst i0
   have hff:f=f0:=by rw [← hf]; simp [e]
   subst hff
   have hap:=zsuq (h:=[AObj.cells (faC f)]) (s:=1) (b:=16) (m:=1) (cs:=[.str f.own]) (by decide) (by decide) rfl (by decide) (by decide)
   simp only [List.length_cons,List.length_nil,Nat.zero_add] at hap
   have hg0 : ∀ H,zpsc H 71 (x.dv 71 faC) 0=some (.ref (faC f)):=fun H=>hg H
   simp (disch:=first|omega|simp<;>omega|fail) [-zA,-zB,-zC,-zD,-zE,z0tq,zfq0,h,h',hg0,zejt,hap]
   have e1:stV 1 [f.own] = .ms 1 1 0 1 1 1:=rfl
   have e2:stH [.cells (faC f)] [f.own]=[.cells (faC f),.cells [.str f.own]]:=rfl
   rw [List.nil_append] at hn
   exact ⟨1,z515 (by simp (disch:=first|omega|simp<;>omega|fail) [-zA,-zB,-zC,-zD,-zE,S570,zfq0,hn,e1]) (by simp (disch:=first|omega|simp<;>omega|fail) [-zA,-zB,-zC,-zD,-zE,S570,zfq0,hn,e2]),by omega,by omega⟩
  ·have hap:=zzip (h:=[AObj.cells (faC f0),.cells (L.map .str),.cells (faC f)]) (id:=1) (b:=16) (l:=L) (x:=f.own) (by decide) (by omega) (by simp [objV,ziu0])
   have e1:=z93k (p:=1) eL
   have e2:=zm1n (pre:=[.cells (faC f0)]) eL
   have e3:stV 1 (L++[f.own]) = .ms 1 (L.length+1) 0 1 (L.length+1) (L.length+1):=by rw [z93k (by simp),List.length_append]; rfl
   have e4:stH [.cells (faC f0)] (L++[f.own])=[.cells (faC f0),.cells ((L++[f.own]).map .str)]:=zm1n (by simp)
   have e5:L++[f.own]≠[]:=by simp
   rw [if_neg eL]
   simp (disch:=first|omega|simp<;>omega|fail) [-zA,-zB,-zC,-zD,-zE,z0tq,zfq0,h,h',hg,e1,e2,hap]
   refine ⟨i+1,zju2 (tail:=[.cells (faC f)]) (by simp (disch:=first|omega|simp<;>omega|fail) [-zA,-zB,-zC,-zD,-zE,S570,zfq0,hn,e3]) (by simp (disch:=first|omega|simp<;>omega|fail) [-zA,-zB,-zC,-zD,-zE,S570,zfq0,hn,e5,e4]) (Nat.zero_le _) (by simp (disch:=first|omega|simp<;>omega|fail) [-zA,-zB,-zC,-zD,-zE,S570,zfq0,hn,z1r6,Am.below,e3,e4,e5]) (by simp (disch:=first|omega|simp<;>omega|fail) [-zA,-zB,-zC,-zD,-zE,S570,zfq0,hn,e4,e5,zlf2,zp2k]),by omega,by omega⟩
 ·have h':¬ (i:Int)<x.l.length:=by omega
  have ht:x.l.take i=x.l:=List.take_of_length_le (by omega)
  rw [ht]
  have hne:nms x.l≠[]:=by rw [e]; simp [nms]
  rw [if_neg hne]
  have hln:=zdnb x.l
  have h1:=zup5 (pre:=[.cells (faC f0)]) (l:=nms x.l) (by omega)
  have hsl:(zxu4 Op.bytesLess (nms x.l)).length=(nms x.l).length:=zmgd _
  have h2:=zvlb (pre:=[.cells (faC f0)]) (l:=zxu4 Op.bytesLess (nms x.l)) (by omega)
  have hsn:zxu4 Op.bytesLess (nms x.l)≠[]:=ztug hne
  have hv:stV 1 (zxu4 Op.bytesLess (nms x.l))=stV 1 (nms x.l):=by rw [z93k hsn,z93k hne,hsl]
  have hxl:x.l≠[]:=by rw [e]; simp
  have hr1:cmV 1 (zxu4 Op.bytesLess (nms x.l))=nmV 0 x.l:=by rw [zjem hsn,hsl,ziv1,hln,nmV,if_neg hxl]
  have hr2:cmH [.cells (faC f0)] (zxu4 Op.bytesLess (nms x.l))=nmO x.l:=by rw [zt8r hsn,e]; rfl
  simp only [List.length_cons,List.length_nil,Nat.zero_add] at h1 h2
  rw [hv,hr1,hr2] at h2
  simp (disch:=first|omega|simp<;>omega|fail) [-zA,-zB,-zC,-zD,-zE,z0tq,zfq0,h,h',ziw1,zh3z,h1,h2]
theorem z8o9 (x:Sl Fct) (hb:x.l.length≤1000):RunsH T570 a105 [x.dv 71 faC] [] (nmV 0 x.l) (nmO x.l):=by
 cases e:x.l with
 | nil=>rw [← e]; exact zgdy x e
 | cons f r=>rw [← e]; exact zavm x hb f r e
noncomputable def cOwn:List DV→Nat→Option (DV × List AObj):=conN (fun x:Sl Fct=>x.l.length≤1000) (fun x=>[x.dv 71 faC]) (fun x=>(nmV 0 x.l,nmO x.l))
theorem zd3p {k:Nat} {l:List Fct}:shD k (nmV 0 l)=nmV k l:=by
 unfold nmV; split
 ·rfl
 ·simp only [shD]
theorem zjz1 {k:Nat} {l:List Fct}:(nmO l).map (shO k)=nmO l:=by
 cases l with
 | nil=>rfl
 | cons f r=>simp only [nmO,List.map_cons,List.map_nil,z05k,zj45 k _ (z93p f),zj45 k _ (zykc _)]
theorem zj2t {x:Sl Fct} {k:Nat} (h:x.l.length≤1000):cOwn [x.dv 71 faC] k=some (nmV k x.l,nmO x.l):=by
 have:=zqtp (A:=fun x:Sl Fct=>x.l.length≤1000) (f:=fun x:Sl Fct=>[x.dv 71 faC]) (g:=fun x=>(nmV 0 x.l,nmO x.l)) (fun a b e=>by
  simp only [List.cons.injEq,and_true] at e
  rw [z4rf e]) x h k
 rw [zd3p,zjz1] at this
 exact this
theorem z0u2:(Con.new cOwn).Sound P 105:=z3ld (fun x _=>by simp [zbao]) fun x h=>zv22 mix ztvz Tryz.func105 z9rf (z8o9 x h)
end Go.Proofs.YtdnhbfmlklaldaaGreat
set_option linter.unusedSimpArgs false
set_option linter.unusedVariables false
namespace Go.Proofs.YtdnhbfmlklaldaaGreat
open Go Go.Am
theorem znpa {α:Type} {p:α→Bool} {l:List α} {k:Nat} (hk:k<l.length) (h1:p l[k]=true) (h2 : ∀ j (hj:j<l.length),j<k→p l[j]=false):l.find? p=some l[k]:=by
 rw [List.find?_eq_some_iff_getElem]
 exact ⟨h1,k,hk,rfl,fun j hj=>by rw [h2 j (by omega) hj]; rfl⟩
def zkur (x:Sl Fct) (y:Sl Str):Prop:=y.l.length≤1000∧(∀ f ∈ x.l,f.docs.l.length≤1000) ∧ ∀ n ∈ y.l,∃ f ∈ x.l,f.own=n
noncomputable def T571:Tbl:=addT 90 (.pure zld3) tbl0
theorem zbmz:T571 90 = .pure zld3:=by simp [T571]
theorem zjb9:T571.Sound P:=z0rp zdfr zr5o
structure DP where
 i:Nat
 o:Str
def S571 (x:Sl Fct) (y:Sl Str) (a:DP):St:=z3x7 (x.dv 71 faC) (gV 32 (ztt8 x.l (y.l.take a.i))) (y.dv 1 stC) (.int .i64 y.l.length) (.int .i64 a.i) (gH dgC (.cells [.str a.o]) (ztt8 x.l (y.l.take a.i)))
theorem zvix {l:List Fct} {m:List Str} {n:Str}:ztt8 l (m++[n])=ztt8 l m++zm3u l n:=by simp [ztt8]
theorem z5lv {l:List Fct} {m:List Str} (h : ∀ f ∈ l,f.docs.l.length≤1000):(ztt8 l m).length≤m.length*1000:=zqok fun n _=>by
 unfold zm3u; split
 ·rename_i f e; exact h f (List.mem_of_find?_eq_some e)
 ·simp
theorem zjok (x:Sl Fct) (y:Sl Str) (hok:zkur x y):Runs T571 a108 [x.dv 71 faC,y.dv 1 stC] ((ownN (ztt8 x.l y.l)).dv 32 dgC):=by
 obtain ⟨k1,k2,k3⟩:=hok
 refine ⟨?_⟩
 simp (disch:=first|omega|simp<;>omega|fail) [-zA,-zB,-zC,-zD,-zE,a108]
 refine zlm5 (S571 x y) (fun a=>y.l.length-a.i) (fun a=>a.i≤y.l.length) ⟨0,[]⟩ (z515 (by simp (disch:=first|omega|simp<;>omega|fail) [-zA,-zB,-zC,-zD,-zE,S571,z3x7,ztt8,gV]) (by simp (disch:=first|omega|simp<;>omega|fail) [-zA,-zB,-zC,-zD,-zE,S571,z3x7,ztt8,gH])) (by simp) (fun a hi => ?_)
 obtain ⟨i,o⟩:=a
 simp only at hi
 simp only [S571]
 have hlen:=z5lv (l:=x.l) (m:=y.l.take i) k2
 have hti:(y.l.take i).length≤1000:=by rw [List.length_take]; omega
 by_cases h:i<y.l.length
 ·have h':(i:Int)<y.l.length:=by omega
  have hg : ∀ H,zpsc H 1 (y.dv 1 stC) i=some (.ref (stC y.l[i])):=fun H=>zalo zqv6 h
  obtain ⟨n,hn⟩ : ∃ n,y.l[i]=n:=⟨_,rfl⟩
  have hmem : ∃ f ∈ x.l,f.own=n:=k3 n (hn▸List.getElem_mem h)
  rw [hn] at hg
  have hs:ztt8 x.l (y.l.take (i+1))=ztt8 x.l (y.l.take i)++zm3u x.l n:=by rw [List.take_succ_eq_append_getElem h,hn,zvix]
  obtain ⟨k,hk,hke,hkp,hkf⟩ : ∃ (k:Nat) (hk:k<x.l.length),ixI (Fp.own n).p x.l=k∧(Fp.own n).p x.l[k]=true ∧ ∀ j (hj:j<x.l.length),j<k→(Fp.own n).p x.l[j]=false:=by
   refine zgr5 ?_
   refine Classical.byContradiction fun hc => ?_
   obtain ⟨f,h1,h2⟩:=hmem
   obtain ⟨j,hj,e⟩:=List.getElem_of_mem h1
   have:=z378 (p:=(Fp.own n).p) (l:=x.l) (by omega) j hj
   simp [Fp.p,e,h2] at this
  have hcs:zld3 [x.dv 71 faC,.fn (.func 127) [] [.ref [.str n]]]=some (.int .i64 k):=by
   rw [← hke]; exact zjlk (x:=x) (q := .own n)
  have hg2 : ∀ H,zpsc H 71 (x.dv 71 faC) k=some (.ref (faC x.l[k])):=fun H=>zalo zs77 hk
  have hfd:zm3u x.l n=x.l[k].docs.l:=by
   unfold zm3u; rw [znpa (p:=fun f:Fct=>decide (f.own=n)) hk hkp hkf]
  have hdl:x.l[k].docs.l.length≤1000:=k2 _ (List.getElem_mem hk)
  rw [hfd] at hs
  obtain ⟨D,hD⟩ : ∃ D,x.l[k].docs=D:=⟨_,rfl⟩
  rw [hD] at hs hdl
  obtain ⟨F,hF⟩ : ∃ F,x.l[k]=F:=⟨_,rfl⟩
  rw [hF] at hg2 hD
  subst hD
  obtain ⟨L,hL⟩ : ∃ L,ztt8 x.l (y.l.take i)=L:=⟨_,rfl⟩
  rw [hL] at hs hlen ⊢
  have hv : ∀ H,visY H (F.docs.dv 32 dgC)=some (F.docs.l.length,F.docs.l.flatMap dgC):=fun H=>zwaa z1t1
  by_cases e:L=[]
  ·subst e
   rw [List.nil_append] at hs
   by_cases e2:F.docs.l=[]
   ·have hap:=zw6v (h:=[AObj.cells [.str n]]) (s:=32) (b:=32) (by decide) (by decide)
    have hv2 : ∀ H,visY H (F.docs.dv 32 dgC)=some (0,[]):=fun H=>by rw [hv,e2]; rfl
    rw [e2] at hs
    simp (disch:=first|omega|simp<;>omega|fail) [-zA,-zB,-zC,-zD,-zE,z990,z3x7,h,h',hg,stC,zbmz,hcs,hg2,zq1z,z1yk,hv2,hap]
    exact ⟨⟨i+1,o⟩,zju2 (tail:=[.cells [.str n]]) (by simp (disch:=first|omega|simp<;>omega|fail) [-zA,-zB,-zC,-zD,-zE,S571,z3x7,hs,zq1z]) (by simp (disch:=first|omega|simp<;>omega|fail) [-zA,-zB,-zC,-zD,-zE,S571,z3x7,hs,z1yk]) (Nat.zero_le _) (by simp (disch:=first|omega|simp<;>omega|fail) [-zA,-zB,-zC,-zD,-zE,S571,z3x7,hs,zq1z,z1r6,Am.below]) (by simp (disch:=first|omega|simp<;>omega|fail) [-zA,-zB,-zC,-zD,-zE,S571,z3x7,hs,z1yk,zlf2]),by simp only; omega,by simp only; omega⟩
   ·have hpos:0<F.docs.l.length:=List.length_pos_iff.2 e2
    have hcl:(F.docs.l.flatMap dgC).length=F.docs.l.length*32:=z1rq z1t1 _
    have hap:=zsuq (h:=[AObj.cells [.str n]]) (s:=32) (b:=32) (m:=F.docs.l.length) (cs:=F.docs.l.flatMap dgC) (by decide) (by decide) hcl.symm hpos (by omega)
    rw [hcl] at hap
    have e3:=z6zt (K:=32) e2
    have e4:=zju3 (f:=dgC) (o := .cells [.str n]) e2
    have e5:fl dgC F.docs.l=F.docs.l.flatMap dgC:=rfl
    simp only [List.length_cons,List.length_nil,Nat.zero_add] at hap
    simp (disch:=first|omega|simp<;>omega|fail) [-zA,-zB,-zC,-zD,-zE,z990,z3x7,h,h',hg,stC,zbmz,hcs,hg2,zq1z,z1yk,hv,hap]
    exact ⟨⟨i+1,n⟩,z515 (by simp (disch:=first|omega|simp<;>omega|fail) [-zA,-zB,-zC,-zD,-zE,S571,z3x7,hs,e3]) (by simp (disch:=first|omega|simp<;>omega|fail) [-zA,-zB,-zC,-zD,-zE,S571,z3x7,hs,e4,e5]),by simp only; omega,by simp only; omega⟩
  ·have hap:=zvrp (h:=[AObj.cells [.str o],.cells (fl dgC L),.cells [.str n]]) (id:=1) (b:=32) (l:=L) (m:=F.docs.l.length) (cs:=F.docs.l) z1t1 (by decide) (by decide) (fun _=>zoxk) rfl (by omega) (by simp [objV,ziu0,z8lx z1t1])
   have e1:=z6zt (K:=32) e
   have e2:=zju3 (f:=dgC) (o := .cells [.str o]) e
   have e0:L++F.docs.l≠[]:=by simp [e]
   have e3:=z6zt (K:=32) e0
   have e4:=zju3 (f:=dgC) (o := .cells [.str o]) e0
   rw [List.length_append] at e3
   simp (disch:=first|omega|simp<;>omega|fail) [-zA,-zB,-zC,-zD,-zE,z990,z3x7,h,h',hg,stC,zbmz,hcs,hg2,e1,e2,hv,hap]
   exact ⟨⟨i+1,o⟩,zju2 (tail:=[.cells [.str n]]) (by simp (disch:=first|omega|simp<;>omega|fail) [-zA,-zB,-zC,-zD,-zE,S571,z3x7,hs,e3]) (by simp (disch:=first|omega|simp<;>omega|fail) [-zA,-zB,-zC,-zD,-zE,S571,z3x7,hs,e4]) (Nat.zero_le _) (by simp (disch:=first|omega|simp<;>omega|fail) [-zA,-zB,-zC,-zD,-zE,S571,z3x7,hs,e3,e4,z1r6,Am.below]) (by simp only [S571,z3x7,hs]; exact z5x4 z3ot (by simp [zbao,zyp8])),by simp only; omega,by simp only; omega⟩
 ·have h':¬ (i:Int)<y.l.length:=by omega
  have ht:y.l.take i=y.l:=List.take_of_length_le (by omega)
  rw [ht] at hlen ⊢
  have hsn:=znhj (f:=dgC) (o := .cells [.str o]) (l:=ztt8 x.l y.l) (X:=[]) z1t1 z3ot (by omega)
  rw [List.append_nil] at hsn
  simp (disch:=first|omega|simp<;>omega|fail) [-zA,-zB,-zC,-zD,-zE,z990,z3x7,h,h',hsn]
noncomputable def cDoc:List DV→Option DV:=con (fun a:Sl Fct × Sl Str=>zkur a.1 a.2) (fun a=>[a.1.dv 71 faC,a.2.dv 1 stC]) (fun a=>(ownN (ztt8 a.1.l a.2.l)).dv 32 dgC)
theorem zk58 {x:Sl Fct} {y:Sl Str} (h:zkur x y):cDoc [x.dv 71 faC,y.dv 1 stC]=some ((ownN (ztt8 x.l y.l)).dv 32 dgC) :=
 zlyi (f:=fun a:Sl Fct × Sl Str=>[a.1.dv 71 faC,a.2.dv 1 stC]) (g:=fun a=>(ownN (ztt8 a.1.l a.2.l)).dv 32 dgC) (by
  rintro ⟨a,b⟩ ⟨c,d⟩ e
  simp only [List.cons.injEq,and_true] at e
  rw [z4rf e.1,z8p4 e.2]) (x,y) h
theorem z6o4:(Con.pure cDoc).Sound P 108:=z2au fun a h=>zljw mix zjb9 Tryz.func108 zh50 (zjok a.1 a.2 h)
theorem z0dj (n:Int):Runs tbl0 a106 [.int .i64 n] (.agg (suC (zcc9 n))):=by
 refine ⟨?_⟩
 have e:zvnk [DV.bool false,.nils,.int .i64 0] [(2,1,.int .i64 n)]=some (.agg (suC (zcc9 n))):=rfl
 simp (disch:=first|omega|simp<;>omega|fail) [-zA,-zB,-zC,-zD,-zE,a106,e]
noncomputable def ztk6:List DV→Option DV
 | [.int .i64 t]=>some (.agg (suC (zcc9 t)))|_=>none
theorem zg94 {t:Int}:ztk6 [.int .i64 t]=some (.agg (suC (zcc9 t))):=rfl
theorem z38w:(Con.pure ztk6).Sound P 106:=by
 intro args v e
 unfold ztk6 at e
 split at e
 ·simp at e; subst e; exact zljw mix zr5o Tryz.func106 zex6 (z0dj _)
 ·simp at e
noncomputable def T572:Tbl:=addT 110 (.pure zp5o) tbl0
theorem zq8u:T572 110 = .pure zp5o:=by simp [T572]
theorem zzno:T572.Sound P:=z0rp zce9 zr5o
theorem zxjc {x:Sl Dg}:zvnk [DV.bool false,.nils,.int .i64 0] [(0,1,.bool true),(1,1,x.dv 32 dgC)]=some (.agg [.bool true,x.dv 32 dgC,.int .i64 0]):=by
 obtain ⟨k,l,h,hb⟩:=x
 cases k<;>rfl
theorem zgxp (x:Sl Dg) (h:x.l.length≤1000000):Runs T572 a107 [x.dv 32 dgC] (.agg (suC (zp7s x))):=by
 refine ⟨?_⟩
 have e:=zxjc (x:=zln3 x)
 have e2:[DV.bool true,(zln3 x).dv 32 dgC,.int .i64 0]=suC (zp7s x):=rfl
 rw [e2] at e
 simp (disch:=first|omega|simp<;>omega|fail) [-zA,-zB,-zC,-zD,-zE,a107,zq8u,zoh6 h,e]
noncomputable def zzr5:List DV→Option DV:=con (fun x:Sl Dg=>x.l.length≤1000000) (fun x=>[x.dv 32 dgC]) (fun x => .agg (suC (zp7s x)))
theorem zk0w {x:Sl Dg} (h:x.l.length≤1000000):zzr5 [x.dv 32 dgC]=some (.agg (suC (zp7s x))) :=
 zlyi (f:=fun x:Sl Dg=>[x.dv 32 dgC]) (g:=fun x => .agg (suC (zp7s x))) (fun a b e=>by simp only [List.cons.injEq,and_true] at e; rw [z42k e]) x h
theorem ztbv:(Con.pure zzr5).Sound P 107:=z2au fun x h=>zljw mix zzno Tryz.func107 z38u (zgxp x h)
end Go.Proofs.YtdnhbfmlklaldaaGreat
set_option linter.unusedSimpArgs false
set_option linter.unusedVariables false
namespace Go.Proofs.YtdnhbfmlklaldaaGreat
open Go Go.Am
set_option linter.unusedSectionVars false
section
variable {α:Type} {p:α→Bool}
theorem zmmk {l M:List α} {i:Nat} (h:M.drop i=l.drop i):M.drop (i+1)=l.drop (i+1):=by
 have:=congrArg (List.drop 1) h
 simpa [List.drop_drop] using this
def kp (p:α→Bool) (l:List α):List α:=l.filter fun a => !p a
theorem zomf (l:List α):(kp p l).length≤l.length:=List.length_filter_le _ _
theorem zlg5 {l:List α} {j:Nat} (h:j<l.length):kp p (l.take (j+1))=if p l[j] then kp p (l.take j) else kp p (l.take j)++[l[j]]:=by
 rw [List.take_succ_eq_append_getElem h,kp,List.filter_append,← kp]
 by_cases e:p l[j]=true<;>simp [e]
theorem ztn8 {l:List α} (h : ∀ a ∈ l,p a=false):kp p l=l:=List.filter_eq_self.2 fun a ha=>by rw [h a ha]; rfl
structure DelI (p:α→Bool) (l:List α) (a:CPg α):Prop where
 j1:a.j≤l.length
 len:a.M.length=l.length
 t:a.M.take (kp p (l.take a.j)).length=kp p (l.take a.j)
 d:a.M.drop a.j=l.drop a.j
 k:(kp p (l.take a.j)).length≤a.j
theorem DelI.start {l:List α} {i:Nat} (h:i<l.length) (hp:p l[i]=true) (hn : ∀ j (hj:j<l.length),j<i→p l[j]=false):DelI p l ⟨i+1,l⟩∧(kp p (l.take (i+1))).length=i:=by
 have e1:kp p (l.take i)=l.take i:=ztn8 fun a ha=>by
  obtain ⟨j,hj,e⟩:=List.getElem_of_mem ha
  rw [List.length_take] at hj
  rw [← e,List.getElem_take]; exact hn j (by omega) (by omega)
 have e2:kp p (l.take (i+1))=l.take i:=by rw [zlg5 h,if_pos hp,e1]
 have e3:(l.take i).length=i:=by rw [List.length_take]; omega
 refine ⟨⟨h,rfl,?_,rfl,?_⟩,by rw [e2,e3]⟩
 ·simp only [e2,e3]
 ·simp only [e2,e3]; omega
theorem DelI.get {l:List α} {a:CPg α} (h:DelI p l a) (hj:a.j<l.length) (h1:a.j<a.M.length):a.M[a.j]=l[a.j]:=by
 have hd:=h.d
 have e1:(a.M.drop a.j)[0]'(by simp; omega)=(l.drop a.j)[0]'(by simp; omega):=by simp only [hd]
 simpa only [List.getElem_drop,Nat.add_zero] using e1
theorem DelI.del {l:List α} {a:CPg α} (h:DelI p l a) (hj:a.j<l.length) (e:p l[a.j]=true):DelI p l ⟨a.j+1,a.M⟩∧kp p (l.take (a.j+1))=kp p (l.take a.j):=by
 have ec:kp p (l.take (a.j+1))=kp p (l.take a.j):=by rw [zlg5 hj,if_pos e]
 have hd:=zmmk h.d
 exact ⟨⟨hj,h.len,by simp only [ec]; exact h.t,hd,by have:=h.k; simp only [ec]; omega⟩,ec⟩
theorem DelI.keep {l:List α} {a:CPg α} (h:DelI p l a) (hj:a.j<l.length) (e:¬ p l[a.j]=true):DelI p l ⟨a.j+1,a.M.set (kp p (l.take a.j)).length l[a.j]⟩∧(kp p (l.take (a.j+1))).length=(kp p (l.take a.j)).length+1:=by
 have hk:=h.k
 have hl:=h.len
 have ht:=h.t
 have ec:kp p (l.take (a.j+1))=kp p (l.take a.j)++[l[a.j]]:=by rw [zlg5 hj,if_neg e]
 have el:(kp p (l.take (a.j+1))).length=(kp p (l.take a.j)).length+1:=by rw [ec]; simp
 obtain ⟨C,hC⟩ : ∃ C,kp p (l.take a.j)=C:=⟨_,rfl⟩
 rw [hC] at ec el hk ht ⊢
 have hd:=zmmk h.d
 refine ⟨⟨hj,by simp only [List.length_set]; exact hl,?_,?_,by simp only [el]; omega⟩,el⟩
 ·show (a.M.set C.length l[a.j]).take (kp p (l.take (a.j+1))).length=kp p (l.take (a.j+1))
  rw [el,ec]
  rw [List.set_eq_take_append_cons_drop,if_pos (by omega),ht,List.take_append,List.take_of_length_le (by omega),show C.length+1-C.length=1 by omega]
  rfl
 ·simp only
  rw [List.drop_set,if_pos (by omega)]
  exact hd
theorem DelI.fin {l:List α} {a:CPg α} (h:DelI p l a) (hj:a.j=l.length):a.M=kp p l++a.M.drop (kp p l).length:=by
 have ht:=h.t
 rw [hj,List.take_length] at ht
 have:=(List.take_append_drop (kp p l).length a.M).symm
 rw [ht] at this
 exact this
def delO (z:α) (p:α→Bool) (l:List α):List α:=kp p l++List.replicate (l.length-(kp p l).length) z
theorem zwda (z:α) (l:List α):(delO z p l).length=l.length:=by have:=zomf (p:=p) l; simp [delO]; omega
theorem zuia {z:α} {l:List α} (h:kp p l=l):delO z p l=l:=by simp [delO,h]
theorem z8wb {z:α} {l:List α} (h:l≠[]):delO z p l≠[]:=fun e=>h (List.eq_nil_of_length_eq_zero (by rw [← zwda (p:=p) z l,e]; rfl))
theorem zgcl {z:α} {l:List α}:(delO z p l).take (kp p l).length=kp p l:=by rw [delO]; simp
end
theorem zrpz {pre l:List AObj} {ver:Nat}:objV (pre++l) (pre.length+1) ver=objV l 1 ver:=by
 unfold objV ziu0; rw [List.getElem?_append_right (by omega),show pre.length+1-pre.length=1 by omega]
theorem z6rf {pre l:List AObj} {o:AObj}:(pre++l).set (pre.length+1) o=pre++l.set 1 o:=by rw [List.set_append_right _ _ (by omega)]; simp
theorem zq4p (x:Sl Fct):RunsH tbl0 a50 [x.dv 71 faC] [] (mutD 0 71 x faC) (mo faC x.l):=by
 refine ⟨?_⟩
 obtain ⟨k,l,h,hb⟩:=x
 cases k with
 | none =>
  have hl:l=[]:=h rfl
  subst hl
  simp (disch:=first|omega|simp<;>omega|fail) [-zA,-zB,-zC,-zD,-zE,a50,z5oj]
  exact ⟨by rw [zpj6 rfl]; rfl,z7sv⟩
 | some b =>
  have hb:l.length≤4294967296:=hb
  by_cases hl:l=[]
  ·subst hl; simp (disch:=first|omega|simp<;>omega|fail) [-zA,-zB,-zC,-zD,-zE,a50,z707,mutD,mo,Sl.clone]
  ·have h1:=z1rq zs77 l
   have h2:=z9jy (f:=faC) (fun _=>zfgo) l
   have h3:0<l.length:=List.length_pos_iff.2 hl
   simp (disch:=first|omega|simp<;>omega|fail) [-zA,-zB,-zC,-zD,-zE,a50,z707,mutD,mo,fl,hl,h1,h2,h3]
noncomputable def cNF:List DV→Nat→Option (DV × List AObj):=conN (fun _=>True) (fun x:Sl Fct=>[x.dv 71 faC]) (fun x=>(mutD 0 71 x faC,mo faC x.l))
theorem zrkp {x:Sl Fct} {n:Nat}:cNF [x.dv 71 faC] n=some (mutD n 71 x faC,mo faC x.l):=by
 have:=zqtp (A:=fun _=>True) (f:=fun x:Sl Fct=>[x.dv 71 faC]) (g:=fun x=>(mutD 0 71 x faC,mo faC x.l)) (fun a b e=>by
  simp only [List.cons.injEq,and_true] at e
  rw [z4rf e]) x trivial n
 rw [zaip z93p,z2b7 z93p] at this
 exact this
theorem zu1a:(Con.new cNF).Sound P 50:=z3ld (fun x _=>by simp [zbao]) fun x _=>zv22 mix zr5o Tryz.func50 z12y (zq4p x)
structure DF where
 pre:List AObj
 caps:List DV
 p:Fp
 x:Sl Fct
def DF.fn (a:DF):DV := .fn (.func a.p.fid) [] a.caps
theorem zck5:faC fct0=[.int .i64 0,.str [],w8 0#8,w8 0#8,w8 0#8,w8 0#8,w8 0#8,w8 0#8,w8 0#8,w8 0#8,w8 0#8,w8 0#8,w8 0#8,w8 0#8,w8 0#8,w8 0#8,w8 0#8,w8 0#8,w8 0#8,w8 0#8,w8 0#8,w8 0#8,w8 0#8,w8 0#8,w8 0#8,w8 0#8,w8 0#8,w8 0#8,w8 0#8,w8 0#8,w8 0#8,w8 0#8,w8 0#8,w8 0#8,.str [],.str [],.int .i64 0,.bool false,w8 0#8,w8 0#8,w8 0#8,w8 0#8,w8 0#8,w8 0#8,w8 0#8,w8 0#8,w8 0#8,w8 0#8,w8 0#8,w8 0#8,w8 0#8,w8 0#8,w8 0#8,w8 0#8,w8 0#8,w8 0#8,w8 0#8,w8 0#8,w8 0#8,w8 0#8,w8 0#8,w8 0#8,w8 0#8,w8 0#8,w8 0#8,w8 0#8,w8 0#8,w8 0#8,w8 0#8,w8 0#8,.nils]:=rfl
theorem zavu {n:Nat} {l:List DV} : ∀ {a:List AObj},zlf2 n a=true→z1r6 n l=true→zlf2 n (a++[.cells l])=true
 | [],_,h=>by simp [zlf2,h]
 | .cells c::r,h1,h2=>by simp only [List.cons_append,zlf2,Bool.and_eq_true] at *; exact ⟨h1.1,zavu h1.2 h2⟩
 | .dead::r,h1,h2=>by simp only [List.cons_append,zlf2] at *; exact zavu h1 h2
structure DFOK (a:DF):Prop where
 s : ∀ X,z4tt (a.pre++X) 3 a.caps=some a.p.cap
 b:z1r6 (a.pre.length+1) a.caps=true
 h:zlf2 (a.pre.length+1) a.pre=true
 n:a.x.l.length≤1000000
noncomputable def T575:Tbl:=addT 90 (.pure zld3) T564
theorem zn0k:T575 90 = .pure zld3:=by simp [T575]
theorem zdf7 (s:Fp):T575 s.fid = .pure (cFp s.fid):=by cases s<;>simp [T575,T564,Fp.fid]
theorem zqp8:T575.Sound P:=z0rp zdfr zxej
def S575 (d:DF) (n:Nat) (a:CPg Fct):St:=zvur (.ms d.pre.length (n*71) 0 71 n (n*71)) d.fn (.int .i64 (kp d.p.p (d.x.l.take a.j)).length) (.int .i64 a.j) (d.pre++[.cells (fl faC a.M)])
theorem zue3 (d:DF) (ok:DFOK d) (hne:d.x.l≠[]):RunsH T575 a49 [.ms d.pre.length (d.x.l.length*71) 0 71 d.x.l.length (d.x.l.length*71),d.fn] (d.pre++[.cells (fl faC d.x.l)]) (.ms d.pre.length (d.x.l.length*71) 0 71 (kp d.p.p d.x.l).length (d.x.l.length*71)) (d.pre++[.cells (fl faC (delO fct0 d.p.p d.x.l))]):=by
 refine ⟨?_⟩
 obtain ⟨pre,caps,p,x⟩:=d
 obtain ⟨ks,kb,kh,kn⟩:=ok
 simp only [DF.fn] at *
 obtain ⟨n,hn⟩ : ∃ n,x.l.length=n:=⟨_,rfl⟩
 have hn0:0<n:=by rw [← hn]; exact List.length_pos_iff.2 hne
 rw [hn] at kn ⊢
 have hfl:(fl faC x.l).length=n*71:=by rw [z8lx zs77,hn]
 have hxd:snap (pre++[.cells (fl faC x.l)]) 3 (.ms pre.length (n*71) 0 71 n (n*71))=some ((own x.l).dv 71 faC):=by
  have:=z29t (f:=faC) zs77 z93p (pre:=pre) (l:=x.l) (m:=n)
  rw [hn,List.take_of_length_le (by omega)] at this
  rw [this,zqrs x.b,hn]
 have hks:snap (pre++[.cells (fl faC x.l)]) 3 (.fn (.func p.fid) [] caps)=some p.dv:=by
  have:=ks [.cells (fl faC x.l)]
  rw [zxbs,this]; rfl
 have hcs:=zjlk (x:=own x.l) (q:=p)
 rw [z3e9 x.b] at hcs
 have hargs:z4tt (pre++[.cells (fl faC x.l)]) 3 [.ms pre.length (n*71) 0 71 n (n*71),.fn (.func p.fid) [] caps]=some [(own x.l).dv 71 faC,p.dv]:=by
  rw [zrz6,hxd,zrz6,hks,zfu7]; rfl
 by_cases hix:ixI p.p x.l<0
 ·have hall:=z378 hix
  have hm:ixI p.p x.l = -1:=by have:=zkgb p.p x.l; omega
  have hk:kp p.p x.l=x.l:=ztn8 fun a ha=>by
   obtain ⟨j,hj,e⟩:=List.getElem_of_mem ha
   rw [← e]; exact hall j hj
  have ho:=zuia (z:=fct0) hk
  rw [hm] at hcs
  rw [ho,hk,hn]
  simp (disch:=first|omega|simp<;>omega|fail) [-zA,-zB,-zC,-zD,-zE,a49,hxd,hks,zn0k,hcs,zjj2,z1zn,hfl]
 ·obtain ⟨i,hi,hie,hip,hin⟩:=zgr5 (p:=p.p) (l:=x.l) (by omega)
  rw [hie] at hcs
  have hi1:¬ (i:Int) = -1:=by omega
  obtain ⟨hs,hk0⟩:=DelI.start hi hip hin
  simp (disch:=first|omega|simp<;>omega|fail) [-zA,-zB,-zC,-zD,-zE,a49,hxd,hks,zn0k,hcs,hi1]
  refine zlm5 (S575 ⟨pre,caps,p,x⟩ n) (fun a=>n-a.j) (fun a=>DelI p.p x.l a) ⟨i+1,x.l⟩ (z515 (by simp (disch:=first|omega|simp<;>omega|fail) [-zA,-zB,-zC,-zD,-zE,S575,zvur,hk0,DF.fn]) (by simp (disch:=first|omega|simp<;>omega|fail) [-zA,-zB,-zC,-zD,-zE,S575,zvur])) hs (fun a ha => ?_)
  obtain ⟨j,M⟩:=a
  have h6:=ha.j1
  have h8:=ha.len
  have h9:=ha.k
  simp only at h6 h8 h9
  obtain ⟨K,hK⟩ : ∃ K,(kp p.p (x.l.take j)).length=K:=⟨_,rfl⟩
  rw [hK] at h9
  have hfM:(fl faC M).length=n*71:=by rw [z8lx zs77,h8,hn]
  have hlM:lenD (pre++[.cells (fl faC M)]) (.ms pre.length (n*71) 0 71 n (n*71))=some (.int .i64 n):=by rw [z59c,zjj2,z1zn,if_pos hfM]; rfl
  simp only [S575,hK,DF.fn]
  by_cases hj:j<n
  ·have hj1:(j:Int)<n:=by omega
   have hjl:j<x.l.length:=by omega
   have g1:=ha.get hjl (by simp only; omega)
   simp only at g1
   obtain ⟨f,hf⟩ : ∃ f,x.l[j]=f:=⟨_,rfl⟩
   rw [hf] at g1
   have u1:oneC 71 true ((fl faC M).drop (j*71))=some (.agg (faC f)):=by rw [zfiy zs77 (by omega),g1]
   have hcf:=zi5i (s:=p) (f:=f)
   have hk2:=ks [.cells (fl faC M),.cells (faC f)]
   have hite : ∀ b,p.p f=b→(if zbao caps=true then cFp p.fid (.agg (faC f)::caps) else some (.bool b))=some (.bool b):=fun b hb=>by
    split
    ·rename_i hpc
     rw [z619 hpc] at hk2
     rw [Option.some.inj hk2,hcf,hb]
    ·rfl
   cases hp:p.p f with
   | true =>
    rw [hp] at hcf
    simp (disch:=first|omega|simp<;>omega|fail) [-zA,-zB,-zC,-zD,-zE,zuys,zvur,hlM,hj,hj1,zjj2,zrpz,z1zn,ze6m,hfM,u1,z6rf,zdf7,hk2,hcf,hite true hp]
    obtain ⟨q1,q2⟩:=ha.del hjl (by rw [hf]; exact hp)
    simp only at q1 q2
    exact ⟨⟨j+1,M⟩,zju2 (tail:=[.cells (faC f)]) (by simp (disch:=first|omega|simp<;>omega|fail) [-zA,-zB,-zC,-zD,-zE,S575,zvur,q2,hK,DF.fn]) (by simp (disch:=first|omega|simp<;>omega|fail) [-zA,-zB,-zC,-zD,-zE,S575,zvur]) (by simp (disch:=first|omega|simp<;>omega|fail) [-zA,-zB,-zC,-zD,-zE,S575,zvur]) (by simp (disch:=first|omega|simp<;>omega|fail) [-zA,-zB,-zC,-zD,-zE,S575,zvur,z1r6,Am.below,DF.fn,kb]) (by simp (disch:=first|omega|simp<;>omega|fail) [-zA,-zB,-zC,-zD,-zE,S575,zvur]; exact zavu kh (zmq5 _ _ (zp6k z93p _))),by simp only; omega,q1⟩
   | false =>
    rw [hp] at hcf
    have st : ∀ h:List AObj,zy6o h pre.length 71 (K*71) (.agg (faC f)) (some (fl faC M))=some (.junk,h.set pre.length (.cells (fl faC (M.set K f)))):=fun h=>zdvi zs77 (by decide) (fun _=>zfgo) (by omega)
    simp (disch:=first|omega|simp<;>omega|fail) [-zA,-zB,-zC,-zD,-zE,zuys,zvur,hlM,hj,hj1,zjj2,zrpz,z1zn,ze6m,hfM,u1,zxft,z6rf,zdf7,hk2,hcf,hite false hp,st]
    obtain ⟨q1,q2⟩:=ha.keep hjl (by rw [hf,hp]; simp)
    simp only [hK,hf] at q1 q2
    exact ⟨⟨j+1,M.set K f⟩,zju2 (tail:=[.cells (faC f)]) (by simp (disch:=first|omega|simp<;>omega|fail) [-zA,-zB,-zC,-zD,-zE,S575,zvur,q2,hK,DF.fn]) (by simp (disch:=first|omega|simp<;>omega|fail) [-zA,-zB,-zC,-zD,-zE,S575,zvur]) (by simp (disch:=first|omega|simp<;>omega|fail) [-zA,-zB,-zC,-zD,-zE,S575,zvur]) (by simp (disch:=first|omega|simp<;>omega|fail) [-zA,-zB,-zC,-zD,-zE,S575,zvur,z1r6,Am.below,DF.fn,kb]) (by simp (disch:=first|omega|simp<;>omega|fail) [-zA,-zB,-zC,-zD,-zE,S575,zvur]; exact zavu kh (zmq5 _ _ (zp6k z93p _))),by simp only; omega,q1⟩
  ·have hj1:¬ (j:Int)<n:=by omega
   obtain rfl:j=n:=by omega
   have hfin:=ha.fin (by simp only; omega)
   simp only at hfin
   have htl:x.l.take j=x.l:=List.take_of_length_le (by omega)
   rw [htl] at hK
   rw [hK] at hfin
   have hclr:clrD (pre++[.cells (fl faC M)]) 71 (faC fct0) (.ms pre.length (j*71) (K*71) 71 (j-K) (j*71))=some (.tup [],pre++[.cells (fl faC (delO fct0 p.p x.l))]):=by
    have hov:objV (pre++[.cells (fl faC M)]) pre.length (j*71)=some (fl faC M):=by rw [zjj2,z1zn,if_pos hfM]
    rw [z7ty (s:=71) (m:=j-K) (off:=K*71) (ver:=j*71) (zs:=faC fct0) (zs77 _) (by decide) zfgo (by omega),hov,Option.map_some,zxft,zqtu]
    have hs:=z507 (f:=faC) zs77 (A:=kp p.p x.l) (B:=M.drop K) (C:=List.replicate (j-K) fct0) (by simp; omega)
    rw [← hfin,hK] at hs
    rw [hs]
    simp only [delO,hK,hn,List.set_cons_zero]
   rw [zck5] at hclr
   have hol:(fl faC (delO fct0 p.p x.l)).length=j*71:=by rw [z8lx zs77,zwda,hn]
   simp (disch:=first|omega|simp<;>omega|fail) [-zA,-zB,-zC,-zD,-zE,zuys,zvur,hlM,hj,hj1,zjj2,z1zn,hfM,zxft,hclr,hK,hol]
end Go.Proofs.YtdnhbfmlklaldaaGreat
set_option linter.unusedSimpArgs false
set_option linter.unusedVariables false
namespace Go.Proofs.YtdnhbfmlklaldaaGreat
open Go Go.Am
def dlD (p:Nat) (q:Fp) (x:Sl Fct):DV:=if x.l=[] then x.clone.dv 71 faC else .ms p (x.l.length*71) 0 71 (kp q.p x.l).length (x.l.length*71)
theorem zy6r {α:Type} {p:α→Bool} {z:α}:delO z p ([]:List α)=[]:=rfl
theorem zgqj (d:DF) (ok:DFOK d) (e:d.x.l=[]):RunsH T575 a49 [d.x.clone.dv 71 faC,d.fn] d.pre (d.x.clone.dv 71 faC) d.pre:=by
 refine ⟨?_⟩
 obtain ⟨pre,caps,p,x⟩:=d
 obtain ⟨ks,kb,kh,kn⟩:=ok
 simp only [DF.fn] at *
 have hks:snap pre 3 (.fn (.func p.fid) [] caps)=some p.dv:=by
  have:=ks []
  rw [List.append_nil] at this
  rw [zxbs,this]; rfl
 have hcs:=zjlk (x:=x.clone) (q:=p)
 rw [show x.clone.l=x.l from rfl,e,show ixI p.p [] = -1 from rfl] at hcs
 have hite:(if zbao caps=true then zld3 [x.clone.dv 71 faC,.fn (.func p.fid) [] caps] else some (.int .i64 (-1)))=some (.int .i64 (-1)):=by
  split
  ·rename_i hpc
   have:=ks []
   rw [z619 hpc] at this
   rw [Option.some.inj this]; exact hcs
  ·rfl
 simp (disch:=first|omega|simp<;>omega|fail) [-zA,-zB,-zC,-zD,-zE,a49,hks,zn0k,hcs,hite]
theorem ztgq (d:DF) (ok:DFOK d):RunsH T575 a49 [mutD d.pre.length 71 d.x faC,d.fn] (d.pre++mo faC d.x.l) (dlD d.pre.length d.p d.x) (d.pre++mo faC (delO fct0 d.p.p d.x.l)):=by
 by_cases e:d.x.l=[]
 ·have h1:dlD d.pre.length d.p d.x=d.x.clone.dv 71 faC:=if_pos e
  rw [zpj6 e,h1,e,zy6r,z7sv,List.append_nil]
  exact zgqj d ok e
 ·have h1:dlD d.pre.length d.p d.x = .ms d.pre.length (d.x.l.length*71) 0 71 (kp d.p.p d.x.l).length (d.x.l.length*71):=if_neg e
  rw [z2ra e,h1,zsqo e,zsqo (z8wb e)]
  exact zue3 d ok e
noncomputable def z10r:List DV→List AObj→Option (DV × List AObj):=conH DFOK (fun d=>([mutD d.pre.length 71 d.x faC,d.fn],d.pre++mo faC d.x.l)) (fun d=>(dlD d.pre.length d.p d.x,d.pre++mo faC (delO fct0 d.p.p d.x.l)))
theorem zo2w {d:DF} (h:DFOK d):z10r [mutD d.pre.length 71 d.x faC,.fn (.func d.p.fid) [] d.caps] (d.pre++mo faC d.x.l)=some (dlD d.pre.length d.p d.x,d.pre++mo faC (delO fct0 d.p.p d.x.l)) :=
 zu6y (A:=DFOK) (f:=fun d=>([mutD d.pre.length 71 d.x faC,d.fn],d.pre++mo faC d.x.l)) (g:=fun d=>(dlD d.pre.length d.p d.x,d.pre++mo faC (delO fct0 d.p.p d.x.l))) (fun a b h1 h2 e=>by
  simp only [Prod.mk.injEq,List.cons.injEq,and_true,DF.fn,DV.fn.injEq,Fn.func.injEq,true_and] at e
  obtain ⟨⟨e1,e2,e3⟩,e4⟩:=e
  obtain ⟨p,q,r⟩:=zt7j zs77 (by decide) (fun _ _=>z38a) e1 e4
  have ep:a.p=b.p:=Fp.inj e2 (by
   have s1:=h1.s []
   have s2:=h2.s []
   rw [p,e3,s2] at s1
   exact (Option.some.inj s1).symm)
  rw [p,q,ep]
  congr 1
  unfold dlD
  rw [q]
  by_cases e:b.x.l=[]
  ·rw [if_pos e,if_pos e,r (q.trans e)]
  ·rw [if_neg e,if_neg e]) d h
theorem zoba:(Con.heap z10r).Sound P 49:=z7sf fun d h=>zv22 mix zqp8 Tryz.func49 zdc4 (ztgq d h)
theorem zkhp {A B C D:List DV} (h:B.length=D.length):zk7y (A++(B++C)) A.length D=A++(D++C):=by
 unfold zk7y
 rw [List.take_left' rfl,← h,← List.drop_drop,List.drop_left' rfl,List.drop_left' rfl,List.append_assoc]
structure DS where
 pre:List AObj
 caps:List DV
 q:Sl Str
 l:List Str
 z:List Str
def DS.fn (a:DS):DV := .fn (.func 130) [] a.caps
def DS.p (a:DS):Str→Bool:=fun d=>decide (d ∈ a.q.l)
structure DSOK (a:DS):Prop where
 s : ∀ X,z4tt (a.pre++X) 3 a.caps=some [.ref [a.q.dv 1 stC]]
 n:a.l.length≤1000000
 z:a.l=[]→a.z=[]
noncomputable def T576:Tbl:=addT 141 (.pure zeas) (addT 130 (.pure cAg) tbl0)
theorem z6zg:T576 141 = .pure zeas:=by simp [T576]
theorem zw6k:T576 130 = .pure cAg:=by simp [T576]
theorem zla7:T576.Sound P:=z0rp z4ei (z0rp (z2au fun (a:Sl Str × Str) _=>zljw mix zzml Tryz.func130 zndb (zwxm a.1 a.2)) zr5o)
def S576 (d:DS) (n N:Nat) (a:CPg Str):St:=zave (.ms d.pre.length N 0 1 n N) d.fn (.int .i64 (kp d.p (d.l.take a.j)).length) (.int .i64 a.j) (d.pre++[.cells ((a.M++d.z).map .str)])
theorem z5q1 (l:List Str):l.flatMap stC=l.map DV.str:=by
 induction l with
 | nil=>rfl
 | cons a l ih=>rw [List.flatMap_cons,ih]; rfl
theorem z8xu {pre:List AObj} {l z:List Str} {m N:Nat} (hN:(l++z).length=N) (hm:m≤l.length):snap (pre++[.cells ((l++z).map .str)]) 3 (.ms pre.length N 0 1 m N)=some (.sl false 1 m ((l.take m).flatMap stC)):=by
 rw [zve7,zjj2,z1zn,if_pos (by rw [List.length_map,hN]),Option.bind_some,List.drop_zero,Nat.mul_one,← List.map_take,List.take_append_of_le_length hm,z619 (zykc _),z5q1]
 rfl
theorem zsii (d:DS) (ok:DSOK d) (hne:d.l≠[]) (N:Nat) (hN:(d.l++d.z).length=N):RunsH T576 a129 [.ms d.pre.length N 0 1 d.l.length N,d.fn] (d.pre++[.cells ((d.l++d.z).map .str)]) (.ms d.pre.length N 0 1 (kp d.p d.l).length N) (d.pre++[.cells ((delO [] d.p d.l++d.z).map .str)]):=by
 refine ⟨?_⟩
 obtain ⟨pre,caps,q,l,z⟩:=d
 obtain ⟨ks,kn,kz⟩:=ok
 simp only [DS.fn] at *
 obtain ⟨n,hn⟩ : ∃ n,l.length=n:=⟨_,rfl⟩
 have hn0:0<n:=by rw [← hn]; exact List.length_pos_iff.2 hne
 have hnN:n≤N:=by rw [← hN,List.length_append]; omega
 rw [hn] at kn ⊢
 obtain ⟨p,hp0⟩ : ∃ p:Str→Bool,DS.p ⟨pre,caps,q,l,z⟩=p:=⟨_,rfl⟩
 have hp:(fun d=>decide (d ∈ q.l))=p:=hp0
 have hq0 : ∀ d,decide (d ∈ q.l)=p d:=fun d=>by rw [← hp]
 have hb:l.length≤4294967296:=by omega
 have hxd:snap (pre++[.cells ((l++z).map .str)]) 3 (.ms pre.length N 0 1 n N)=some ((own l).dv 1 stC):=by
  have:=z8xu (pre:=pre) (l:=l) (z:=z) (m:=n) hN (by omega)
  rw [List.take_of_length_le (by omega)] at this
  rw [this,zqrs hb,hn]
 have hks:snap (pre++[.cells ((l++z).map .str)]) 3 (.fn (.func 130) [] caps)=some (fAg q):=by
  rw [zxbs,ks]; rfl
 have hcs:=zd24 (x:=own l) (q:=q)
 rw [z3e9 hb,hp] at hcs
 rw [hp0]
 by_cases hix:ixI p l<0
 ·have hall:=z378 hix
  have hm:ixI p l = -1:=by have:=zkgb p l; omega
  have hk:kp p l=l:=ztn8 fun a ha=>by
   obtain ⟨j,hj,e⟩:=List.getElem_of_mem ha
   rw [← e]; exact hall j hj
  have ho:=zuia (z:=[]) hk
  rw [hm] at hcs
  rw [ho,hk,hn]
  have hov:((l++z).map DV.str).length=N:=by rw [List.length_map,hN]
  simp (disch:=first|omega|simp<;>omega|fail) [-zA,-zB,-zC,-zD,-zE,a129,hxd,hks,z6zg,hcs,zjj2,z1zn,hov]
 ·obtain ⟨i,hi,hie,hip,hin⟩:=zgr5 (p:=p) (l:=l) (by omega)
  rw [hie] at hcs
  have hi1:¬ (i:Int) = -1:=by omega
  obtain ⟨hs,hk0⟩:=DelI.start hi hip hin
  simp (disch:=first|omega|simp<;>omega|fail) [-zA,-zB,-zC,-zD,-zE,a129,hxd,hks,z6zg,hcs,hi1]
  refine zlm5 (S576 ⟨pre,caps,q,l,z⟩ n N) (fun a=>n-a.j) (fun a=>DelI p l a) ⟨i+1,l⟩ (z515 (by simp (disch:=first|omega|simp<;>omega|fail) [-zA,-zB,-zC,-zD,-zE,S576,zave,hk0,DS.fn,hp0]) (by simp (disch:=first|omega|simp<;>omega|fail) [-zA,-zB,-zC,-zD,-zE,S576,zave])) hs (fun a ha => ?_)
  obtain ⟨j,M⟩:=a
  have h6:=ha.j1
  have h8:=ha.len
  have h9:=ha.k
  simp only at h6 h8 h9
  obtain ⟨K,hK⟩ : ∃ K,(kp p (l.take j)).length=K:=⟨_,rfl⟩
  rw [hK] at h9
  have hMz:(M++z).length=N:=by rw [List.length_append,h8,← List.length_append,hN]
  obtain ⟨G,hG⟩ : ∃ G,M++z=G:=⟨_,rfl⟩
  rw [hG] at hMz
  have hlM:lenD (pre++[.cells (G.map .str)]) (.ms pre.length N 0 1 n N)=some (.int .i64 n):=by simp [zrsa,hMz]
  simp only [S576,hp0,hK,hG,DS.fn]
  by_cases hj:j<n
  ·have hj1:(j:Int)<n:=by omega
   have hjl:j<l.length:=by omega
   have g1:=ha.get hjl (by simp only; omega)
   simp only at g1
   obtain ⟨f,hf⟩ : ∃ f,l[j]=f:=⟨_,rfl⟩
   rw [hf] at g1
   have g2 : ∀ h:j<G.length,G[j]=f:=fun h=>by
    subst hG
    rw [List.getElem_append_left (by omega)]; exact g1
   have hcf:=zr9y (x:=q) (d:=f)
   rw [hq0] at hcf
   have hk2:=ks [.cells (G.map .str)]
   have hite : ∀ b,p f=b→(if zbao caps=true then cAg (.str f::caps) else some (.bool b))=some (.bool b):=fun b hb=>by
    split
    ·rename_i hpc
     rw [z619 hpc] at hk2
     rw [Option.some.inj hk2,hcf,hb]
    ·rfl
   cases hpf:p f with
   | true =>
    rw [hpf] at hcf
    simp (disch:=first|omega|simp<;>omega|fail) [-zA,-zB,-zC,-zD,-zE,zl9a,zave,hlM,hj,hj1,zjj2,hMz,g2,zw6k,hk2,hcf,hite true hpf]
    obtain ⟨q1,q2⟩:=ha.del hjl (by rw [hf]; exact hpf)
    simp only at q1 q2
    exact ⟨⟨j+1,M⟩,z515 (by simp (disch:=first|omega|simp<;>omega|fail) [-zA,-zB,-zC,-zD,-zE,S576,zave,q2,hK,DS.fn,hp0]) (by simp (disch:=first|omega|simp<;>omega|fail) [-zA,-zB,-zC,-zD,-zE,S576,zave,hG]),by simp only; omega,q1⟩
   | false =>
    rw [hpf] at hcf
    simp (disch:=first|omega|simp<;>omega|fail) [-zA,-zB,-zC,-zD,-zE,zl9a,zave,hlM,hj,hj1,zjj2,zxft,hMz,g2,zw6k,hk2,hcf,hite false hpf]
    obtain ⟨q1,q2⟩:=ha.keep hjl (by rw [hf,hpf]; simp)
    simp only [hK,hf] at q1 q2
    have hG2:(M.set K f++z).map DV.str=(G.map DV.str).set K (.str f):=by
     rw [← hG,← List.map_set,List.set_append_left _ _ (by omega)]
    exact ⟨⟨j+1,M.set K f⟩,z515 (by simp (disch:=first|omega|simp<;>omega|fail) [-zA,-zB,-zC,-zD,-zE,S576,zave,q2,hK,DS.fn,hp0]) (by simp (disch:=first|omega|simp<;>omega|fail) [-zA,-zB,-zC,-zD,-zE,S576,zave,hG2]),by simp only; omega,q1⟩
  ·have hj1:¬ (j:Int)<n:=by omega
   obtain rfl:j=n:=by omega
   have hfin:=ha.fin (by simp only; omega)
   simp only at hfin
   have htl:l.take j=l:=List.take_of_length_le (by omega)
   rw [htl] at hK
   rw [hK] at hfin
   have hclr:clrD (pre++[.cells (G.map .str)]) 1 [.str []] (.ms pre.length N K 1 (j-K) N)=some (.tup [],pre++[.cells ((delO [] p l++z).map .str)]):=by
    have hov:objV (pre++[.cells (G.map .str)]) pre.length N=some (G.map .str):=by simp [zrsa,hMz]
    rw [z7ty (s:=1) (m:=j-K) (off:=K) (ver:=N) (zs:=[.str []]) rfl (by decide) rfl (by omega),hov,Option.map_some,zxft,zgjp]
    have h3:(M.drop K).length=j-K:=by rw [List.length_drop,h8,hn]
    have hs:zk7y (G.map DV.str) K ((List.replicate (j-K) ([]:Str)).map .str)=(delO [] p l++z).map .str:=by
     rw [← hG,hfin]
     have h4:=zkhp (A:=(kp p l).map DV.str) (B:=(M.drop K).map DV.str) (C:=z.map DV.str) (D:=(List.replicate (j-K) ([]:Str)).map DV.str) (by rw [List.length_map,List.length_map,h3,List.length_replicate])
     rw [List.length_map,hK] at h4
     simp only [delO,hK,hn,List.map_append,List.append_assoc] at h4 ⊢
     exact h4
    rw [hs]
    rfl
   have hol:(delO [] p l++z).length=N:=by rw [List.length_append,zwda,← List.length_append,hN]
   simp (disch:=first|omega|simp<;>omega|fail) [-zA,-zB,-zC,-zD,-zE,zl9a,zave,hlM,hj,hj1,zjj2,hMz,zxft,hclr,hK,hol]
def dsV (p:Nat) (l z:List Str) (m:Nat):DV:=if l=[] then .nils else .ms p (l++z).length 0 1 m (l++z).length
def dsH (pre:List AObj) (l z:List Str):List AObj:=if l=[] then pre else pre++[.cells ((l++z).map .str)]
theorem zd54 (d:DS) (ok:DSOK d):RunsH T576 a129 [.nils,d.fn] d.pre .nils d.pre:=by
 refine ⟨?_⟩
 obtain ⟨pre,caps,q,l,z⟩:=d
 obtain ⟨ks,kn,kz⟩:=ok
 simp only [DS.fn] at *
 have hks:snap pre 3 (.fn (.func 130) [] caps)=some (fAg q):=by
  have:=ks []
  rw [List.append_nil] at this
  rw [zxbs,this]; rfl
 have hcs:zeas [.nils,fAg q]=some (.int .i64 (-1)):=zd24 (x:=nilS) (q:=q)
 have hite:(if zbao caps=true then zeas [.nils,.fn (.func 130) [] caps] else some (.int .i64 (-1)))=some (.int .i64 (-1)):=by
  split
  ·rename_i hpc
   have:=ks []
   rw [z619 hpc] at this
   rw [Option.some.inj this]; exact hcs
  ·rfl
 simp (disch:=first|omega|simp<;>omega|fail) [-zA,-zB,-zC,-zD,-zE,a129,hks,z6zg,hcs,hite]
theorem z1sv {p:Str→Bool} {l:List Str} (h:l≠[]):delO [] p l≠[]:=z8wb h
noncomputable def ziol:List DV→List AObj→Option (DV × List AObj):=conH DSOK (fun d=>([dsV d.pre.length d.l d.z d.l.length,d.fn],dsH d.pre d.l d.z)) (fun d=>(dsV d.pre.length d.l d.z (kp d.p d.l).length,dsH d.pre (delO [] d.p d.l) d.z))
theorem zk4p (d:DS) (ok:DSOK d):RunsH T576 a129 [dsV d.pre.length d.l d.z d.l.length,d.fn] (dsH d.pre d.l d.z) (dsV d.pre.length d.l d.z (kp d.p d.l).length) (dsH d.pre (delO [] d.p d.l) d.z):=by
 by_cases e:d.l=[]
 ·have e1:delO [] d.p d.l=[]:=by rw [e]; rfl
  simp only [dsV,dsH,e1,if_pos e,if_true]
  exact zd54 d ok
 ·simp only [dsV,dsH,if_neg e,if_neg (z1sv e)]
  exact zsii d ok e _ rfl
theorem zi6x {d:DS} (h:DSOK d):ziol [dsV d.pre.length d.l d.z d.l.length,.fn (.func 130) [] d.caps] (dsH d.pre d.l d.z)=some (dsV d.pre.length d.l d.z (kp d.p d.l).length,dsH d.pre (delO [] d.p d.l) d.z) :=
 zu6y (A:=DSOK) (f:=fun d=>([dsV d.pre.length d.l d.z d.l.length,d.fn],dsH d.pre d.l d.z)) (g:=fun d=>(dsV d.pre.length d.l d.z (kp d.p d.l).length,dsH d.pre (delO [] d.p d.l) d.z)) (fun a b h1 h2 e=>by
  simp only [Prod.mk.injEq,List.cons.injEq,and_true,DS.fn,DV.fn.injEq,Fn.func.injEq,true_and] at e
  obtain ⟨⟨e1,e3⟩,e4⟩:=e
  have eq:a.pre=b.pre∧a.l=b.l∧a.z=b.z:=by
   by_cases ea:a.l=[]
   ·by_cases eb:b.l=[]
    ·simp only [dsH,if_pos ea,if_pos eb] at e4
     exact ⟨e4,ea.trans eb.symm,(h1.z ea).trans (h2.z eb).symm⟩
    ·simp only [dsV,if_pos ea,if_neg eb] at e1; cases e1
   ·by_cases eb:b.l=[]
    ·simp only [dsV,if_neg ea,if_pos eb] at e1; cases e1
    ·simp only [dsV,dsH,if_neg ea,if_neg eb] at e1 e4
     have h:=List.append_inj' e4 rfl
     have h3:=h.2
     simp only [List.cons.injEq,AObj.cells.injEq,and_true,zsma] at h3
     simp only [DV.ms.injEq] at e1
     obtain ⟨-,-,-,-,e5,-⟩:=e1
     have:=List.append_inj h3 e5
     exact ⟨h.1,this.1,this.2⟩
  obtain ⟨p,q,r⟩:=eq
  have es:a.q=b.q:=by
   have s1:=h1.s []
   have s2:=h2.s []
   rw [p,e3,s2] at s1
   simp only [Option.some.injEq,List.cons.injEq,DV.ref.injEq,and_true] at s1
   exact (z8p4 s1).symm
  have ep:a.p=b.p:=by unfold DS.p; rw [es]
  rw [p,q,r,ep]) d h
theorem zmrm:(Con.heap ziol).Sound P 129:=z7sf fun d h=>zv22 mix zla7 Tryz.func129 z1y5 (zk4p d h)
end Go.Proofs.YtdnhbfmlklaldaaGreat
set_option linter.unusedSimpArgs false
set_option linter.unusedVariables false
namespace Go.Proofs.YtdnhbfmlklaldaaGreat
open Go Go.Am
structure OL where
 pre:List AObj
 p:Nat
 M:List Fct
 n:Nat
structure OLK (a:OL):Prop where
 o:a.pre[a.p]? = some (.cells (fl faC a.M))
 n:a.n≤a.M.length
 b:a.n≤1000
 h:zlf2 (a.pre.length+2) a.pre=true
def OL.v (a:OL):DV := .ms a.p (a.M.length*71) 0 71 a.n (a.M.length*71)
def OL.l (a:OL):List Fct:=a.M.take a.n
theorem OLK.obj {a:OL} (h:OLK a) (X:List AObj):objV (a.pre++X) a.p (a.M.length*71)=some (fl faC a.M):=by
 have hlt:=(List.getElem?_eq_some_iff.1 h.o).1
 unfold objV ziu0
 rw [List.getElem?_append_left hlt,h.o]
 simp [z8lx zs77]
def S581 (a:OL) (o:Fct) (i:Nat):St:=zfq0 (stV (a.pre.length+1) (nms (a.l.take i))) a.v (.int .i64 a.n) (.int .i64 i) (a.pre++if nms (a.l.take i)=[] then [] else [.cells (faC o),.cells ((nms (a.l.take i)).map .str)])
theorem zh8f {pre r:List AObj} {o:AObj} {c:List DV} {n:Nat} (h:c.length=n):objV (pre++o :: .cells c::r) (pre.length+1) n=some c:=zw28 (by
 unfold ziu0; rw [List.getElem?_append_right (by omega),show pre.length+1-pre.length=1 by omega]; rfl) h
theorem z100 {pre r:List AObj} {o x y:AObj}:(pre++o::x::r).set (pre.length+1) y=pre++o::y::r:=by rw [List.set_append_right _ _ (by omega),show pre.length+1-pre.length=1 by omega]; rfl
theorem zwhp {pre l:List AObj} {ver:Nat}:objV (pre++l) (pre.length+2) ver=objV l 2 ver:=by
 unfold objV ziu0; rw [List.getElem?_append_right (by omega),show pre.length+2-pre.length=2 by omega]
theorem zzym {pre l:List AObj} {o:AObj}:(pre++l).set (pre.length+2) o=pre++l.set 2 o:=by rw [List.set_append_right _ _ (by omega),show pre.length+2-pre.length=2 by omega]
theorem zmf5 {n:Nat} {c d:List DV} : ∀ {a:List AObj},zlf2 n a=true→z1r6 n c=true→z1r6 n d=true→zlf2 n (a++[.cells c,.cells d])=true
 | [],_,h1,h2=>by simp [zlf2,h1,h2]
 | .cells c::r,h1,h2,h3=>by simp only [List.cons_append,zlf2,Bool.and_eq_true] at *; exact ⟨h1.1,zmf5 h1.2 h2 h3⟩
 | .dead::r,h1,h2,h3=>by simp only [List.cons_append,zlf2] at *; exact zmf5 h1 h2 h3
theorem zk0c (a:OL) (ok:OLK a) (e:a.n=0):RunsH T570 a105 [a.v] a.pre (nmV a.pre.length a.l) (a.pre++nmO a.l):=by
 refine ⟨?_⟩
 have ho:=ok.obj []
 rw [List.append_nil] at ho
 have hl:a.l=[]:=by unfold OL.l; rw [e]; rfl
 have hln:lenD a.pre a.v=some (.int .i64 0):=by unfold OL.v; rw [z59c,ho,e]; rfl
 rw [hl]
 obtain ⟨V,hV⟩ : ∃ V,a.v=V:=⟨_,rfl⟩
 obtain ⟨pre,hp⟩ : ∃ p,a.pre=p:=⟨_,rfl⟩
 rw [hV,hp] at hln ⊢
 simp (disch:=first|omega|simp<;>omega|fail) [-zA,-zB,-zC,-zD,-zE,a105,hln]
 refine zlm5 (fun _:Unit=>zfq0 .nils V (.int .i64 0) (.int .i64 0) pre) (fun _=>0) (fun _=>True) () (z515 (by simp (disch:=first|omega|simp<;>omega|fail) [-zA,-zB,-zC,-zD,-zE,zfq0]) (by simp (disch:=first|omega|simp<;>omega|fail) [-zA,-zB,-zC,-zD,-zE,zfq0])) trivial (fun i hi => ?_)
 have h1:=zup5 (pre:=pre) (l:=[]) (by decide)
 have h2:=zvlb (pre:=pre) (l:=[]) (by decide)
 have e1:cmV pre.length [] = .nils:=rfl
 have e2:cmH pre []=pre:=by show stH pre []=pre; rfl
 simp only [zejt,z4dm,show zxu4 Op.bytesLess ([]:List Str)=[] from rfl,e1,e2] at h1 h2
 simp (disch:=first|omega|simp<;>omega|fail) [-zA,-zB,-zC,-zD,-zE,z0tq,zfq0,ziw1,zh3z,h1,h2,nmV,nmO]
theorem zedo (a:OL) (ok:OLK a) (f0:Fct) (r0:List Fct) (e:a.l=f0::r0):RunsH T570 a105 [a.v] a.pre (nmV a.pre.length a.l) (a.pre++nmO a.l):=by
 refine ⟨?_⟩
 have hll:a.l.length=a.n:=by unfold OL.l; rw [List.length_take]; have:=ok.n; omega
 have ho:=fun X=>ok.obj X
 have hn12:=ok.b
 have hbel:=ok.h
 have hnM:=ok.n
 have hoko:=ok.o
 obtain ⟨pre,p,M,n⟩:=a
 simp only [OL.v] at *
 obtain ⟨l,hl⟩ : ∃ l,OL.l ⟨pre,p,M,n⟩=l:=⟨_,rfl⟩
 have hMl:M.take n=l:=hl
 rw [hl] at e hll ⊢
 have e0:0<n:=by rw [← hll,e]; simp
 obtain ⟨N,hN⟩ : ∃ N,M.length*71=N:=⟨_,rfl⟩
 rw [hN] at ho ⊢
 have ho0:=ho []
 rw [List.append_nil] at ho0
 have hln:lenD pre (.ms p N 0 71 n N)=some (.int .i64 n):=by rw [z59c,ho0]; rfl
 simp (disch:=first|omega|simp<;>omega|fail) [-zA,-zB,-zC,-zD,-zE,a105,hln]
 refine zlm5 (S581 ⟨pre,p,M,n⟩ f0) (fun i=>n-i) (fun i=>i≤n) 0 (z515 (by simp (disch:=first|omega|simp<;>omega|fail) [-zA,-zB,-zC,-zD,-zE,S581,zfq0,nms,zejt,OL.v,hN]) (by simp (disch:=first|omega|simp<;>omega|fail) [-zA,-zB,-zC,-zD,-zE,S581,zfq0,nms])) (by omega) (fun i hi => ?_)
 simp only [S581,hl,OL.v,hN]
 by_cases h:i<n
 ·have h':(i:Int)<n:=by omega
  have hil:i<l.length:=by omega
  obtain ⟨f,hf⟩ : ∃ f,l[i]=f:=⟨_,rfl⟩
  have hMi:M[i]'(by omega)=f:=by
   have h3:(M.take n)[i]'(by rw [hMl]; exact hil)=f:=by simp only [hMl]; exact hf
   rwa [List.getElem_take] at h3
  have u1:oneC 71 true ((fl faC M).drop (i*71))=some (.agg (faC f)):=by rw [zfiy zs77 (by omega),hMi]
  have hg : ∀ X,zpsc (pre++X) 71 (.ms p N 0 71 n N) i=some (.mp p N (i*71)):=fun X=>by
   rw [z3a7 (by omega) (by omega),ho]; simp
  have hg0:zpsc pre 71 (.ms p N 0 71 n N) i=some (.mp p N (i*71)):=by have:=hg []; rwa [List.append_nil] at this
  have hn:nms (l.take (i+1))=nms (l.take i)++[f.own]:=by rw [List.take_succ_eq_append_getElem hil,hf]; simp only [nms,List.map_append,List.map_cons,List.map_nil]
  have hlen:(nms (l.take i)).length=i:=by rw [zdnb,List.length_take]; omega
  obtain ⟨L,hL⟩ : ∃ L,nms (l.take i)=L:=⟨_,rfl⟩
  rw [hL] at hn hlen ⊢
  by_cases eL:L=[]
  ·subst eL
   have i0:i=0:=by rw [← hlen]; rfl
   subst i0
   have hff:f=f0:=by rw [← hf]; simp [e]
   subst hff
   have hap:=zsuq (h:=pre++[AObj.cells (faC f)]) (s:=1) (b:=16) (m:=1) (cs:=[.str f.own]) (by decide) (by decide) rfl (by decide) (by decide)
   simp only [List.length_append,List.length_cons,List.length_nil,Nat.zero_add,List.append_assoc] at hap
   simp only [Nat.zero_mul,List.drop_zero] at u1 hg0
   have hg1:zpsc pre 71 (.ms p N 0 71 n N) 0=some (.mp p N 0):=hg0
   simp (disch:=first|omega|simp<;>omega|fail) [-zA,-zB,-zC,-zD,-zE,z0tq,zfq0,h,h',hg1,ho,ho0,u1,zejt,hap,zjj2,z1zn]
   have e1:stV (pre.length+1) [f.own] = .ms (pre.length+1) 1 0 1 1 1:=rfl
   rw [List.nil_append] at hn
   exact ⟨1,z515 (by simp (disch:=first|omega|simp<;>omega|fail) [-zA,-zB,-zC,-zD,-zE,S581,zfq0,hl,hn,e1,OL.v,hN]) (by simp (disch:=first|omega|simp<;>omega|fail) [-zA,-zB,-zC,-zD,-zE,S581,zfq0,hl,hn]),by omega,by omega⟩
  ·have hap:=zzip (h:=pre++[AObj.cells (faC f0),.cells (L.map .str),.cells (faC f)]) (id:=pre.length+1) (b:=16) (l:=L) (x:=f.own) (by decide) (by omega) (zh8f (by simp))
   rw [z100] at hap
   have e1:=z93k (p:=pre.length+1) eL
   have e3:stV (pre.length+1) (L++[f.own]) = .ms (pre.length+1) (L.length+1) 0 1 (L.length+1) (L.length+1):=by rw [z93k (by simp),List.length_append]; rfl
   have e5:L++[f.own]≠[]:=by simp
   rw [if_neg eL]
   simp (disch:=first|omega|simp<;>omega|fail) [-zA,-zB,-zC,-zD,-zE,z0tq,zfq0,h,h',hg,ho,u1,e1,hap,zwhp,ze6m,z1zn,zzym]
   have hq:zlf2 (pre.length+2) (pre++[AObj.cells (faC f0),.cells ((L++[f.own]).map .str)])=true:=zmf5 hbel (zmq5 _ _ (z93p _)) zp2k
   have hpl:p<pre.length+2:=by have:=(List.getElem?_eq_some_iff.1 hoko).1; omega
   have hplt:p<pre.length:=(List.getElem?_eq_some_iff.1 hoko).1
   exact ⟨i+1,zju2 (tail:=[.cells (faC f)]) (by simp (disch:=first|omega|simp<;>omega|fail) [-zA,-zB,-zC,-zD,-zE,S581,zfq0,hl,hn,e3,OL.v,hN]) (by simp (disch:=first|omega|simp<;>omega|fail) [-zA,-zB,-zC,-zD,-zE,S581,zfq0,hl,hn,e5]) (by simp (disch:=first|omega|simp<;>omega|fail) [-zA,-zB,-zC,-zD,-zE,S581,zfq0]) (by simp (disch:=first|omega|simp<;>omega|fail) [-zA,-zB,-zC,-zD,-zE,S581,zfq0,hl,hn,z1r6,Am.below,e3,e5,OL.v,hpl]) (by simp (disch:=first|omega|simp<;>omega|fail) [-zA,-zB,-zC,-zD,-zE,S581,zfq0,hl,hn,e5,hq]),by omega,by omega⟩
 ·have h':¬ (i:Int)<n:=by omega
  have ht:l.take i=l:=List.take_of_length_le (by omega)
  rw [ht]
  have hne:nms l≠[]:=by rw [e]; simp [nms]
  rw [if_neg hne]
  have hlen:=zdnb l
  have h1:=zup5 (pre:=pre++[.cells (faC f0)]) (l:=nms l) (by omega)
  have hsl:(zxu4 Op.bytesLess (nms l)).length=(nms l).length:=zmgd _
  have h2:=zvlb (pre:=pre++[.cells (faC f0)]) (l:=zxu4 Op.bytesLess (nms l)) (by omega)
  have hsn:zxu4 Op.bytesLess (nms l)≠[]:=ztug hne
  have hv:stV (pre.length+1) (zxu4 Op.bytesLess (nms l))=stV (pre.length+1) (nms l):=by rw [z93k hsn,z93k hne,hsl]
  have hxl:l≠[]:=by rw [e]; simp
  have hr1:cmV (pre.length+1) (zxu4 Op.bytesLess (nms l))=nmV pre.length l:=by rw [zjem hsn,hsl,ziv1,hlen,nmV,if_neg hxl]
  have hr2:cmH (pre++[.cells (faC f0)]) (zxu4 Op.bytesLess (nms l))=pre++nmO l:=by rw [zt8r hsn,e,List.append_assoc]; rfl
  simp only [List.length_append,List.length_cons,List.length_nil,Nat.zero_add] at h1 h2
  rw [hv,hr1,hr2] at h2
  have hst:stH (pre++[.cells (faC f0)]) (nms l)=pre++[.cells (faC f0),.cells ((nms l).map .str)]:=by rw [zm1n hne,List.append_assoc]; rfl
  rw [hst] at h1
  simp (disch:=first|omega|simp<;>omega|fail) [-zA,-zB,-zC,-zD,-zE,z0tq,zfq0,h,h',ziw1,zh3z,h1,h2]
theorem z9i2 (a:OL) (ok:OLK a):RunsH T570 a105 [a.v] a.pre (nmV a.pre.length a.l) (a.pre++nmO a.l):=by
 by_cases e:a.n=0
 ·exact zk0c a ok e
 ·have hll:a.l.length=a.n:=by unfold OL.l; rw [List.length_take]; have:=ok.n; omega
  cases h:a.l with
  | nil=>rw [h] at hll; simp at hll; omega
  | cons f r=>rw [← h]; exact zedo a ok f r h
inductive OO where
 | live (a:OL)
 | frz (pre:List AObj) (x:Sl Fct)
def OO.A:OO→Prop
 | .live a=>OLK a
 | .frz _ x=>x.l.length≤1000
def OO.f:OO→List DV × List AObj
 | .live a=>([a.v],a.pre)
 | .frz pre x=>([x.dv 71 faC],pre)
def OO.g:OO→DV × List AObj
 | .live a=>(nmV a.pre.length a.l,a.pre++nmO a.l)
 | .frz pre x=>(nmV pre.length x.l,pre++nmO x.l)
noncomputable def zxi1:List DV→List AObj→Option (DV × List AObj):=conH OO.A OO.f OO.g
theorem zhk1 {x:Sl Fct} {a b c d e g:Nat}:x.dv 71 faC ≠ .ms a b c d e g:=fun h=>by
 unfold Sl.dv slD at h; split at h<;>cases h
theorem OO.inj {a b:OO} (h1:a.A) (h2:b.A) (e:a.f=b.f):a.g=b.g:=by
 cases a with
 | live a =>
  cases b with
  | live b =>
   simp only [OO.f,Prod.mk.injEq,List.cons.injEq,and_true,OL.v,DV.ms.injEq] at e
   obtain ⟨⟨e1,-,-,-,e2,-⟩,e3⟩:=e
   have o1:=(h1:OLK a).o
   have o2:=(h2:OLK b).o
   rw [e1,e3,o2] at o1
   simp only [Option.some.injEq,AObj.cells.injEq] at o1
   have eM:b.M=a.M:=z1ch zs77 (by decide) (fun _ _=>z38a) o1
   have el:a.l=b.l:=by unfold OL.l; rw [eM,e2]
   simp only [OO.g,el,e3]
  | frz pre x =>
   simp only [OO.f,Prod.mk.injEq,List.cons.injEq,and_true,OL.v] at e
   exact absurd e.1.symm zhk1
 | frz pre x =>
  cases b with
  | live b =>
   simp only [OO.f,Prod.mk.injEq,List.cons.injEq,and_true,OL.v] at e
   exact absurd e.1 zhk1
  | frz pre' x' =>
   simp only [OO.f,Prod.mk.injEq,List.cons.injEq,and_true] at e
   rw [z4rf e.1,e.2]
theorem zd45 {a:OL} (h:OLK a):zxi1 [a.v] a.pre=some (nmV a.pre.length a.l,a.pre++nmO a.l):=zu6y (A:=OO.A) (f:=OO.f) (g:=OO.g) (fun _ _=>OO.inj) (.live a) h
theorem zqcg {pre:List AObj} {x:Sl Fct} (h:x.l.length≤1000):zxi1 [x.dv 71 faC] pre=some (nmV pre.length x.l,pre++nmO x.l):=zu6y (A:=OO.A) (f:=OO.f) (g:=OO.g) (fun _ _=>OO.inj) (.frz pre x) h
theorem z3ls:(Con.heap zxi1).Sound P 105:=z7sf fun a h=>by
 cases a with
 | live a=>exact zv22 mix ztvz Tryz.func105 z9rf (z9i2 a h)
 | frz pre x=>exact z0u2 _ pre _ _ (zj2t (x:=x) (k:=pre.length) h)
end Go.Proofs.YtdnhbfmlklaldaaGreat
set_option linter.unusedSimpArgs false
set_option linter.unusedVariables false
namespace Go.Proofs.YtdnhbfmlklaldaaGreat
open Go Go.Am
def naS (all:Sl Fct):Sl Fct:=if all.l=[] then all.clone else own (kp Fp.agr.p all.l)
theorem z81i {all:Sl Fct}:(naS all).l=all.l.filter fun f => !f.agr:=by
 unfold naS
 split
 ·rename_i h; show all.l=_; rw [h]; rfl
 ·have:=zomf (p:=Fp.agr.p) all.l
  rw [z3e9 (by have:=all.b; omega)]; rfl
theorem z0cq {all:Sl Fct}:zzy4 (naS all).l=zqgg all.l:=by rw [z81i]; rfl
def nmS (l:List Fct):Sl Str:=if l=[] then nilS else own (zzy4 l)
theorem zbps {l:List Fct} (h:l.length≤1000000):(nmS l).l=zzy4 l:=by
 unfold nmS
 split
 ·rename_i e; subst e; rfl
 ·have:=zmvi l; exact z3e9 (by omega)
def nmC (l:List Fct):List DV:=(zly8 [] (zxu4 Op.bytesLess (nms l))).map .str
theorem zkui {f:Fct} {r:List Fct}:nmO (f::r)=[.cells (faC f),.cells (nmC (f::r))]:=rfl
theorem zedm {l:List Fct}:(nmC l).length=l.length:=by rw [nmC,List.length_map,zglm,zmgd,zdnb]
theorem zn8t {p:Nat} {f:Fct} {r:List Fct}:nmV p (f::r) = .ms (p+1) (f::r).length 0 1 (zzy4 (f::r)).length (f::r).length:=if_neg (by simp)
theorem zw98 {A B:List AObj} {c:List DV}:ziu0 (A ++ .cells c::B) A.length=some c:=by simp [ziu0]
theorem zu1y {A B:List AObj} {o:AObj} {c:List DV}:ziu0 (A++o :: .cells c::B) (A.length+1)=some c:=by
 have:=zw98 (A:=A++[o]) (B:=B) (c:=c)
 rw [List.append_assoc,List.length_append] at this
 exact this
theorem zwlt {l:List Fct}:(nmC l).take (zzy4 l).length=(zzy4 l).flatMap stC:=by
 rw [z5q1,nmC,← List.map_take,← ziv1,z0zq]
theorem znvg {A B:List AObj} {l:List Fct} {k:Nat} (h:l.length≤1000000):snap (A++nmO l++B) (k+1) (nmV A.length l)=some ((nmS l).dv 1 stC):=by
 cases l with
 | nil=>exact z6nl rfl
 | cons f r =>
  have hl:=zmvi (f::r)
  rw [zkui,zn8t,zve7,List.append_assoc]
  have ho:objV (A++([.cells (faC f),.cells (nmC (f::r))]++B)) (A.length+1) (f::r).length=some (nmC (f::r)):=zw28 zu1y zedm
  rw [ho,Option.bind_some,List.drop_zero,Nat.mul_one,zwlt,z619 (by rw [z5q1]; exact zykc _),nmS,if_neg (by simp),zqrs (by omega)]
  rfl
theorem z9za {A B:List AObj} {l:List Fct}:lenD (A++nmO l++B) (nmV A.length l)=some (.int .i64 (zzy4 l).length):=by
 cases l with
 | nil=>rfl
 | cons f r =>
  rw [zkui,zn8t,z59c,List.append_assoc]
  have ho:objV (A++([.cells (faC f),.cells (nmC (f::r))]++B)) (A.length+1) (f::r).length=some (nmC (f::r)):=zw28 zu1y zedm
  rw [ho]; rfl
def agD (shown all:List Fct):Sl Str:=if shown=[] then nilS else own (zob0 shown all)
theorem zumh (s a:List Fct):(zob0 s a).length≤s.length:=by have:=zmvi s; have:=List.length_filter_le (fun n => !decide (n ∈ zqgg a)) (zzy4 s); unfold zob0; omega
theorem zk7i {s a:List Fct} (h:s.length≤1000000):(agD s a).l=zob0 s a:=by
 unfold agD
 split
 ·rename_i e; subst e; rfl
 ·have:=zumh s a; exact z3e9 (by omega)
def nmP (l:List Fct):List AObj:=match l with
 | []=>[]
 | f::_=>[.cells (faC f)]
def nmT (l:List Fct):List Str:=List.replicate (l.length-(zzy4 l).length) []
theorem zb1j {l:List Fct} (h:l≠[]):zzy4 l≠[]:=fun e=>by
 cases l with
 | nil=>exact h rfl
 | cons f r=>have:f.own ∈ zzy4 (f::r):=z7zz.2 ⟨f,by simp,rfl⟩; rw [e] at this; simp at this
theorem zkdc {l:List Fct}:nmC l=(zzy4 l++nmT l).map .str:=by rw [nmC,zly8,ziv1,zmgd,zdnb]; rfl
theorem zndu {A:List AObj} {l:List Fct}:A++nmO l=dsH (A++nmP l) (zzy4 l) (nmT l):=by
 cases l with
 | nil=>rfl
 | cons f r=>rw [zkui,zkdc,dsH,if_neg (zb1j (by simp)),nmP]; simp
theorem z7aq {A:List AObj} {l:List Fct}:nmV A.length l=dsV (A++nmP l).length (zzy4 l) (nmT l) (zzy4 l).length:=by
 cases l with
 | nil=>rfl
 | cons f r =>
  have hl:=zmvi (f::r)
  rw [zn8t,dsV,if_neg (zb1j (by simp)),nmP,List.length_append,List.length_append,nmT,List.length_replicate]
  congr 1<;>omega
theorem zo40 {pre:List AObj} {l z:List Str} {k m:Nat} (hm:m≤l.length):snap (dsH pre l z) (k+1) (dsV pre.length l z m)=some (if l=[] then .nils else .sl false 1 m ((l.take m).flatMap stC)):=by
 by_cases e:l=[]
 ·rw [dsH,dsV,if_pos e,if_pos e,if_pos e]; exact z6nl rfl
 ·rw [dsH,dsV,if_neg e,if_neg e,if_neg e,zve7,zjj2,z1zn,if_pos (by rw [List.length_map]),Option.bind_some,List.drop_zero,Nat.mul_one,← List.map_take,List.take_append_of_le_length hm,z619 (zykc _),z5q1]
  rfl
noncomputable def T580:Tbl:=addT 50 (.new cNF) (addT 49 (.heap z10r) (addT 105 (.heap zxi1) (addT 129 (.heap ziol) tbl0)))
theorem zlxq:T580 50 = .new cNF:=by simp [T580]
theorem zcfb:T580 49 = .heap z10r:=by simp [T580]
theorem zfb3:T580 105 = .heap zxi1:=by simp [T580]
theorem zuva:T580 129 = .heap ziol:=by simp [T580]
theorem ze91:T580.Sound P:=z0rp zu1a (z0rp zoba (z0rp z3ls (z0rp zmrm zr5o)))
def rebD (shown all:List Fct):DV := .tup [(agD shown all).dv 1 stC,.int .i64 (zqgg all).length]
theorem z5y0 (s all:Sl Fct) (h1:s.l.length≤1000) (h2:all.l.length≤1000):Runs T580 a109 [s.dv 71 faC,all.dv 71 faC] (rebD s.l all.l):=by
 refine ⟨?_⟩
 -- the clone, without those who agree
 have c1:=zrkp (x:=all) (n:=0)
 have c2:=zo2w (d:=⟨[],[],.agr,all⟩) ⟨fun X=>rfl,rfl,rfl,by simp only; omega⟩
 simp only [List.length_nil,List.nil_append,show Fp.agr.fid=128 from rfl] at c2
 obtain ⟨V0,hV0⟩ : ∃ V,mutD 0 71 all faC=V:=⟨_,rfl⟩
 obtain ⟨H0,hH0⟩ : ∃ H,mo faC all.l=H:=⟨_,rfl⟩
 have hs1:snap (mo faC (delO fct0 Fp.agr.p all.l)) 3 (dlD 0 .agr all)=some ((naS all).dv 71 faC):=by
  by_cases e:all.l=[]
  ·rw [dlD,naS,if_pos e,if_pos e]; exact zsqc z93p
  ·have hk:=zomf (p:=Fp.agr.p) all.l
   have hs:=z29t (f:=faC) zs77 z93p (pre:=[]) (l:=delO fct0 Fp.agr.p all.l) (m:=(kp Fp.agr.p all.l).length)
   rw [zwda,zgcl] at hs
   rw [dlD,naS,if_neg e,if_neg e,zsqo (z8wb e),zqrs (by omega)]
   exact hs
 have hnl:(naS all).l.length≤1000:=by rw [z81i]; have:=List.length_filter_le (fun f:Fct => !f.agr) all.l; omega
 have c3:zxi1 [dlD 0 Fp.agr all] (mo faC (delO fct0 Fp.agr.p all.l))=some (nmV (mo faC (delO fct0 Fp.agr.p all.l)).length (naS all).l,mo faC (delO fct0 Fp.agr.p all.l)++nmO (naS all).l):=by
  by_cases e:all.l=[]
  ·rw [dlD,naS,if_pos e,if_pos e]
   exact zqcg (x:=all.clone) (by show all.l.length≤1000; omega)
  ·have hk:=zomf (p:=Fp.agr.p) all.l
   have h:=zd45 (a:=⟨mo faC (delO fct0 Fp.agr.p all.l),0,delO fct0 Fp.agr.p all.l,(kp Fp.agr.p all.l).length⟩) ⟨by rw [zsqo (z8wb e)]; rfl,by simp only [zwda]; omega,by simp only; omega,by rw [zsqo (z8wb e)]; simp only [zlf2,Bool.and_true]; exact zmq5 _ _ (zp6k z93p _)⟩
   simp only [OL.v,OL.l,zgcl,zwda] at h
   rw [dlD,naS,if_neg e,if_neg e,z3e9 (by omega)]
   exact h
 obtain ⟨H1,hH1⟩ : ∃ H,mo faC (delO fct0 Fp.agr.p all.l)=H:=⟨_,rfl⟩
 obtain ⟨V1,hV1⟩ : ∃ V,dlD 0 Fp.agr all=V:=⟨_,rfl⟩
 rw [hH1,hV1] at c3
 rw [hV0,hH0] at c1 c2
 rw [hV1,hH1] at c2 hs1
 obtain ⟨L,hL⟩ : ∃ L,(naS all).l=L:=⟨_,rfl⟩
 rw [hL] at c3 hnl
 have hag:zzy4 L=zqgg all.l:=by rw [← hL]; exact z0cq
 -- their owners
 obtain ⟨A,hA⟩ : ∃ A,H1++(nmO L++[.cells [nmV H1.length L]])=A:=⟨_,rfl⟩
 have hAl:A.length=(H1++nmO L).length+1:=by rw [← hA,← List.append_assoc,List.length_append]; rfl
 have c4:=zqcg (pre:=A) (x:=s) h1
 have hcell : ∀ X,objV (A++X) (H1++nmO L).length 1=some [nmV H1.length L]:=fun X=>by
  rw [← hA]
  refine zw28 ?_ rfl
  have:=zw98 (A:=H1++nmO L) (B:=X) (c:=[nmV H1.length L])
  simpa using this
 have hsn : ∀ X k,snap (A++X) (k+1) (nmV H1.length L)=some ((nmS L).dv 1 stC):=fun X k=>by
  have:=znvg (A:=H1) (B:=[.cells [nmV H1.length L]]++X) (l:=L) (k:=k) (by omega)
  rw [← hA]; simpa using this
 have hln : ∀ X,lenD (A++X) (nmV H1.length L)=some (.int .i64 (zzy4 L).length):=fun X=>by
  have:=z9za (A:=H1) (B:=[.cells [nmV H1.length L]]++X) (l:=L)
  rw [← hA]; simpa using this
 have hsr : ∀ X,z4tt (A++X) 3 [.mp (H1++nmO L).length 1 0]=some [.ref [(nmS L).dv 1 stC]]:=fun X=>by
  rw [zrz6,zgbg,hcell,Option.bind_some,List.drop_zero,zrz6,hsn,zfu7,zfu7]
  rfl
 have c5:=zi6x (d:=⟨A++nmP s.l,[.mp (H1++nmO L).length 1 0],nmS L,zzy4 s.l,nmT s.l⟩) ⟨fun X=>by simp only [List.append_assoc]; exact hsr _,by have:=zmvi s.l; simp only; omega,fun e=>by
  simp only at e ⊢
  by_cases e2:s.l=[]
  ·rw [e2]; rfl
  ·exact absurd e (zb1j e2)⟩
 simp only [← z7aq,← zndu] at c5
 have hp:DS.p ⟨A++nmP s.l,[.mp (H1++nmO L).length 1 0],nmS L,zzy4 s.l,nmT s.l⟩=fun n=>decide (n ∈ zqgg all.l):=by
  funext d
  show decide (d ∈ (nmS L).l)=_
  rw [zbps (by omega),hag]
 rw [hp] at c5
 have hkp:kp (fun n=>decide (n ∈ zqgg all.l)) (zzy4 s.l)=zob0 s.l all.l:=rfl
 rw [hkp] at c5
 have hw : ∀ c:List DV,H1++(nmO L++[AObj.cells c])=(H1++nmO L)++[AObj.cells c]:=fun c=>by rw [List.append_assoc]
 have hst:objV (H1++(nmO L++[AObj.cells [.nils]])) (H1++nmO L).length 1=some [.nils]:=by
  rw [hw]; exact zw28 zw98 rfl
 have hset:(H1++(nmO L++[AObj.cells [.nils]])).set (H1++nmO L).length (.cells [nmV H1.length L])=A:=by
  rw [hw,← hA,hw,List.set_append_right _ _ (by omega),Nat.sub_self]; rfl
 have hone:(nmV H1.length L).one=true:=by unfold nmV; split<;>rfl
 have hcl:(nmV H1.length L).cells=[nmV H1.length L]:=by unfold nmV; split<;>rfl
 have hsto:=zltg (h:=H1++(nmO L++[AObj.cells [.nils]])) (id:=(H1++nmO L).length) (off:=0) (l:=[.nils]) (y:=nmV H1.length L) hcl hone (by decide)
 rw [show ([DV.nils]:List DV).set 0 (nmV H1.length L)=[nmV H1.length L] from rfl,hset] at hsto
 have hl2:(H1++nmO L).length=H1.length+(nmO L).length:=List.length_append
 rw [hl2] at hst hsto hcell c5 hAl
 obtain ⟨V2,hV2⟩ : ∃ V,nmV H1.length L=V:=⟨_,rfl⟩
 rw [hV2] at c3 hcell hsn hln hsto hcl hone
 have hs5:snap (dsH (A++nmP s.l) (delO [] (fun n=>decide (n ∈ zqgg all.l)) (zzy4 s.l)) (nmT s.l)) 3 (dsV (A++nmP s.l).length (zzy4 s.l) (nmT s.l) (zob0 s.l all.l).length)=some ((agD s.l all.l).dv 1 stC):=by
  have hkl:=zomf (p:=fun n=>decide (n ∈ zqgg all.l)) (zzy4 s.l)
  rw [hkp] at hkl
  have hdl:=zwda (p:=fun n=>decide (n ∈ zqgg all.l)) [] (zzy4 s.l)
  have:=zo40 (pre:=A++nmP s.l) (l:=delO [] (fun n=>decide (n ∈ zqgg all.l)) (zzy4 s.l)) (z:=nmT s.l) (k:=2) (m:=(zob0 s.l all.l).length) (by rw [hdl]; exact hkl)
  have ht:=zgcl (p:=fun n=>decide (n ∈ zqgg all.l)) (z:=[]) (l:=zzy4 s.l)
  rw [hkp] at ht
  rw [ht] at this
  have hal:=zumh s.l all.l
  by_cases e:s.l=[]
  ·rw [e] at this ⊢; exact this
  ·have e2:=zb1j e
   have e3:=z1sv (p:=fun n=>decide (n ∈ zqgg all.l)) e2
   rw [if_neg e3] at this
   rw [agD,if_neg e,zqrs (by omega),← this]
   have e4:(zzy4 s.l++nmT s.l).length=(delO [] (fun n=>decide (n ∈ zqgg all.l)) (zzy4 s.l)++nmT s.l).length:=by rw [List.length_append,List.length_append,hdl]
   congr 1
   rw [dsV,if_neg e2,dsV,if_neg e3,e4]
 obtain ⟨X5,hX5⟩ : ∃ X,dsH (A++nmP s.l) (delO [] (fun n=>decide (n ∈ zqgg all.l)) (zzy4 s.l)) (nmT s.l)=A++X:=by
  unfold dsH; split
  ·exact ⟨_,rfl⟩
  ·exact ⟨_,List.append_assoc ..⟩
 rw [hX5] at c5 hs5
 obtain ⟨V5,hV5⟩ : ∃ V,dsV (A++nmP s.l).length (zzy4 s.l) (nmT s.l) (zob0 s.l all.l).length=V:=⟨_,rfl⟩
 rw [hV5] at c5 hs5
 obtain ⟨V4,hV4⟩ : ∃ V,nmV A.length s.l=V:=⟨_,rfl⟩
 rw [hV4] at c4 c5
 obtain ⟨H4,hH4⟩ : ∃ H,A++nmO s.l=H:=⟨_,rfl⟩
 rw [hH4] at c4 c5
 have hcell5:=hcell X5
 have hln5:=hln X5
 rw [hag] at hln5
 obtain ⟨H5,hH5⟩ : ∃ H,A++X5=H:=⟨_,rfl⟩
 rw [hH5] at c5 hs5 hcell5 hln5
 simp (disch:=first|omega|simp<;>omega|fail) [-zA,-zB,-zC,-zD,-zE,a109,zlxq,zcfb,zfb3,zuva,c1,c2,c3,hst,hsto,c4,c5,hcell5,hln5,hs5,rebD]
noncomputable def cReb:List DV→Option DV:=con (fun a:Sl Fct × Sl Fct=>a.1.l.length≤1000∧a.2.l.length≤1000) (fun a=>[a.1.dv 71 faC,a.2.dv 71 faC]) (fun a=>rebD a.1.l a.2.l)
theorem zmkz {x y:Sl Fct} (h1:x.l.length≤1000) (h2:y.l.length≤1000):cReb [x.dv 71 faC,y.dv 71 faC]=some (rebD x.l y.l) :=
 zlyi (f:=fun a:Sl Fct × Sl Fct=>[a.1.dv 71 faC,a.2.dv 71 faC]) (g:=fun a=>rebD a.1.l a.2.l) (by
  rintro ⟨a,b⟩ ⟨c,d⟩ e
  simp only [List.cons.injEq,and_true] at e
  rw [z4rf e.1,z4rf e.2]) (x,y) ⟨h1,h2⟩
theorem z5t3:(Con.pure cReb).Sound P 109:=z2au fun a h=>zljw mix ze91 Tryz.func109 zoj0 (z5y0 a.1 a.2 h.1 h.2)
end Go.Proofs.YtdnhbfmlklaldaaGreat
set_option linter.unusedSimpArgs false
set_option linter.unusedVariables false
namespace Go.Proofs.YtdnhbfmlklaldaaGreat
open Go Go.Am
def mmD (mx:Bool):DV→DV→Option DV
 | .int .i64 a,.int .i64 b=>some (.int .i64 (if mx then max a b else min a b))
 | _,_=>none
theorem zluv {T:Tbl} {dr mx:Bool} {t:List DV} {h:List AObj} {x y:Opd}:zn3j T dr (.mm mx [x,y]) t h=pr (mmD mx (ev t x) (ev t y)) h:=by
 simp only [zn3j,evOp,zp5p]
 cases hx:ev t x with
 | int k a =>
  cases k<;>first
   | rfl
   | (cases hy:ev t y with
     | int k b=>cases k<;>rfl
     | _=>rfl)
 | _=>rfl
theorem zjdu {mx:Bool} {a b:Int}:mmD mx (.int .i64 a) (.int .i64 b)=some (.int .i64 (if mx then max a b else min a b)):=rfl
attribute [simp] zluv zjdu
theorem z1zl {x:Sl Fct} {y:Sl Str} (hx:x.l.length≤1000) (hd : ∀ f ∈ x.l,f.docs.l.length≤1000) (hy : ∀ n ∈ y.l,n ∈ zzy4 x.l) (hl:y.l.length≤1000):zkur x y:=⟨hl,hd,fun n hn=>z7zz.1 (hy n hn)⟩
structure EnOK (l:List Fct) (n:Int):Prop where
 kl:l.length≤1000
 n0:0≤n
 n1:n≤4611686018427387904
 kd : ∀ f ∈ l,f.docs.l.length≤1000
 ks:(ztt8 l ((zzy4 l).take n.toNat)).length≤1000
noncomputable def zjml:List DV→Option DV:=con (fun x:Sl Fct=>x.l.length≤1000) (fun x=>[x.dv 71 faC]) (fun x=>(nmS x.l).dv 1 stC)
theorem zyro {x:Sl Fct} (h:x.l.length≤1000):zjml [x.dv 71 faC]=some ((nmS x.l).dv 1 stC) :=
 zlyi (f:=fun x:Sl Fct=>[x.dv 71 faC]) (g:=fun x=>(nmS x.l).dv 1 stC) (fun a b e=>by simp only [List.cons.injEq,and_true] at e; rw [z4rf e]) x h
theorem zfn6:(Con.pure zjml).Sound P 105:=z2au fun x h=>zzfj ((zv22 mix ztvz Tryz.func105 z9rf (z8o9 x h)).mono fun d h' e=>by
 obtain ⟨rfl,rfl⟩:=e
 have:=znvg (A:=[]) (B:=[]) (l:=x.l) (k:=2) (by omega)
 simpa using this)
noncomputable def T590:Tbl:=addT 105 (.pure zjml) (addT 108 (.pure cDoc) (addT 107 (.pure zzr5) (addT 106 (.pure ztk6) (addT 109 (.pure cReb) tbl0))))
theorem zrzm:T590 105 = .pure zjml:=by simp [T590]
theorem zqs0:T590 108 = .pure cDoc:=by simp [T590]
theorem zr7q:T590 107 = .pure zzr5:=by simp [T590]
theorem z5dk:T590 106 = .pure ztk6:=by simp [T590]
theorem zs05:T590 109 = .pure cReb:=by simp [T590]
theorem ztt7:T590.Sound P:=z0rp zfn6 (z0rp z6o4 (z0rp ztbv (z0rp z38w (z0rp z5t3 zr5o))))
theorem zpoi (x:Sl Fct) (n:Int) (ok:EnOK x.l n):Runs T590 a69 [x.dv 71 faC,.int .i64 n] (.agg (suC (zfyl x.l n))):=by
 refine ⟨?_⟩
 obtain ⟨k1,k2,k3,k4,k5⟩:=ok
 have c1:=zyro k1
 have hol:=zmvi x.l
 have hgl:=zbps (l:=x.l) (by omega)
 obtain ⟨m,hm⟩ : ∃ m,(zzy4 x.l).length=m:=⟨_,rfl⟩
 rw [hm] at hol
 have hl : ∀ H,lenD H ((nmS x.l).dv 1 stC)=some (.int .i64 m):=fun H=>by rw [zupj,hgl,hm]
 have hw:IntKind.i64.wrap (n-(m:Int))=n-m:=by rw [IntKind.wrap_i64]; omega
 by_cases h:(m:Int)<n
 ·have h1:0<n-(m:Int):=by omega
  have hs:zfyl x.l n=zcc9 (n-m):=by unfold zfyl; rw [hm,if_pos h]
  simp (disch:=first|omega|simp<;>omega|fail) [-zA,-zB,-zC,-zD,-zE,a69,zrzm,z5dk,c1,hl,hw,h1,h,zg94,hs]
 ·have h1:¬ 0<n-(m:Int):=by omega
  have hs:zfyl x.l n=zp7s (ownN (ztt8 x.l ((zzy4 x.l).take n.toNat))):=by unfold zfyl; rw [hm,if_neg h]
  obtain ⟨k,rfl⟩ : ∃ k:Nat,n=k:=⟨n.toNat,by omega⟩
  rw [Int.toNat_natCast] at k5 hs
  have hsl : ∀ H,ziwb H 1 ((nmS x.l).dv 1 stC) none (some (.int .i64 k)) none=some (((nmS x.l).part 0 k (k == (nmS x.l).l.length)).dv 1 stC):=fun H=>z0ke zqv6 (by simp [zo77,iD,hgl,hm]; omega) (by rw [hgl,hm]; omega)
  obtain ⟨Y,hY⟩ : ∃ Y,(nmS x.l).part 0 k (k == (nmS x.l).l.length)=Y:=⟨_,rfl⟩
  have hYl:Y.l=(zzy4 x.l).take k:=by rw [← hY]; show ((nmS x.l).l.drop 0).take (k-0)=_; rw [hgl]; rfl
  rw [hY] at hsl
  have hok:zkur x Y:=z1zl (by omega) k4 (fun s hs=>List.mem_of_mem_take (hYl▸hs)) (by rw [hYl,List.length_take]; omega)
  have c2:=zk58 hok
  rw [hYl] at c2
  have c3:=zk0w (x:=ownN (ztt8 x.l ((zzy4 x.l).take k))) (by rw [zd8n (by omega)]; omega)
  simp (disch:=first|omega|simp<;>omega|fail) [-zA,-zB,-zC,-zD,-zE,a69,zrzm,zqs0,zr7q,c1,hl,hw,h1,h,hsl,c2,c3,hs]
noncomputable def cEn:List DV→Option DV:=con (fun a:Sl Fct × Int=>EnOK a.1.l a.2) (fun a=>[a.1.dv 71 faC,.int .i64 a.2]) (fun a => .agg (suC (zfyl a.1.l a.2)))
theorem zo6r {x:Sl Fct} {n:Int} (h:EnOK x.l n):cEn [x.dv 71 faC,.int .i64 n]=some (.agg (suC (zfyl x.l n))) :=
 zlyi (f:=fun a:Sl Fct × Int=>[a.1.dv 71 faC,.int .i64 a.2]) (g:=fun a => .agg (suC (zfyl a.1.l a.2))) (by
  rintro ⟨a,b⟩ ⟨c,d⟩ e
  simp only [List.cons.injEq,DV.int.injEq,and_true,true_and] at e
  rw [z4rf e.1,e.2]) (x,n) h
theorem zm5m:(Con.pure cEn).Sound P 69:=z2au fun a h=>zljw mix ztt7 Tryz.func69 z713 (zpoi a.1 a.2 h)
theorem z7eu (x:Sl Fct) (h : ∀ f ∈ x.l,f.docs.l.length≤1000):Runs T590 a70 [x.dv 71 faC] (.agg (suC (oneS x.l))):=by
 refine ⟨?_⟩
 cases e:x.l with
 | nil =>
  have e0:x.l.length=0:=by rw [e]; rfl
  simp (disch:=first|omega|simp<;>omega|fail) [-zA,-zB,-zC,-zD,-zE,a70,e0,z5dk,zg94,oneS]
 | cons f r =>
  have e0:¬ x.l=[]:=by rw [e]; simp
  have hg : ∀ H,zpsc H 71 (x.dv 71 faC) 0=some (.ref (faC f)):=fun H=>by
   have:=zalo (h:=H) (x:=x) (i:=0) zs77 (by rw [e]; simp)
   rw [show ((0:Nat):Int)=0 from rfl] at this
   rw [this]; simp [e]
  have c:=zk0w (x:=f.docs) (Nat.le_trans (h f (by rw [e]; simp)) (by decide))
  have hs:oneS (f::r)=zp7s f.docs:=rfl
  simp (disch:=first|omega|simp<;>omega|fail) [-zA,-zB,-zC,-zD,-zE,a70,e0,hg,zr7q,c,hs]
noncomputable def cOne:List DV→Option DV:=con (fun x:Sl Fct => ∀ f ∈ x.l,f.docs.l.length≤1000) (fun x=>[x.dv 71 faC]) (fun x => .agg (suC (oneS x.l)))
theorem zcl6 {x:Sl Fct} (h : ∀ f ∈ x.l,f.docs.l.length≤1000):cOne [x.dv 71 faC]=some (.agg (suC (oneS x.l))) :=
 zlyi (f:=fun x:Sl Fct=>[x.dv 71 faC]) (g:=fun x => .agg (suC (oneS x.l))) (fun a b e=>by simp only [List.cons.injEq,and_true] at e; rw [z4rf e]) x h
theorem zso5:(Con.pure cOne).Sound P 70:=z2au fun x h=>zljw mix ztt7 Tryz.func70 zhcw (z7eu x h)
structure RbOK (s a:List Fct) (q:Req):Prop where
 ks:s.length≤1000
 ka:a.length≤1000
 n0:0≤q.n
 n1:q.n≤1000000
 m0:0≤q.m
 m1:q.m≤1000000
 kd : ∀ f ∈ s,f.docs.l.length≤1000
 kh:(ztt8 s ((zob0 s a).take q.n.toNat)).length≤1000
theorem z87g (x y:Sl Fct) (q:Req) (ok:RbOK x.l y.l q):Runs T590 a72 [x.dv 71 faC,y.dv 71 faC,.agg (rqC q)] (.agg (suC (zo4d x.l y.l q))):=by
 refine ⟨?_⟩
 obtain ⟨k1,k2,k3,k4,k5,k6,k7,k8⟩:=ok
 have c1:=zmkz k1 k2
 have hal:=zumh x.l y.l
 have hag:(zqgg y.l).length≤1000:=by
  have h1:=zmvi (y.l.filter fun f => !f.agr)
  have h2:=List.length_filter_le (fun f:Fct => !f.agr) y.l
  unfold zqgg; omega
 have hgl:=zk7i (s:=x.l) (a:=y.l) (by omega)
 obtain ⟨m,hm⟩ : ∃ m,(zob0 x.l y.l).length=m:=⟨_,rfl⟩
 obtain ⟨w,hw⟩ : ∃ w,(zqgg y.l).length=w:=⟨_,rfl⟩
 rw [hm] at hal
 rw [hw] at hag
 have hln : ∀ H,lenD H ((agD x.l y.l).dv 1 stC)=some (.int .i64 m):=fun H=>by rw [zupj,hgl,hm]
 have w1:IntKind.i64.wrap (q.n-(m:Int))=q.n-m:=by rw [IntKind.wrap_i64]; omega
 have w2:IntKind.i64.wrap ((w:Int)-q.m)=w-q.m:=by rw [IntKind.wrap_i64]; omega
 obtain ⟨Z,hZ⟩ : ∃ Z,z5nq x.l y.l q=Z:=⟨_,rfl⟩
 have hZ':=hZ
 unfold z5nq at hZ'
 rw [hm,hw] at hZ'
 have w3:IntKind.i64.wrap (max (q.n-(m:Int)) 0+max ((w:Int)-q.m) 0)=Z:=by rw [hZ',IntKind.wrap_i64]; omega
 unfold rebD at c1
 rw [hw] at c1
 by_cases h:0<Z
 ·have hs:zo4d x.l y.l q=zcc9 Z:=by unfold zo4d; rw [hZ,if_pos h]
  simp (disch:=first|omega|simp<;>omega|fail) [-zA,-zB,-zC,-zD,-zE,a72,zs05,z5dk,c1,hln,w1,w2,w3,h,zg94,hs]
 ·have hs:zo4d x.l y.l q=zp7s (ownN (ztt8 x.l ((zob0 x.l y.l).take q.n.toNat))):=by unfold zo4d; rw [hZ,if_neg h]
  obtain ⟨k,hk⟩ : ∃ k:Nat,q.n=k:=⟨q.n.toNat,by omega⟩
  have hkm:k≤m:=by omega
  have hsl : ∀ H,ziwb H 1 ((agD x.l y.l).dv 1 stC) none (some (.int .i64 k)) none=some (((agD x.l y.l).part 0 k (k == (agD x.l y.l).l.length)).dv 1 stC):=fun H=>z0ke zqv6 (by simp [zo77,iD,hgl,hm]; omega) (by rw [hgl,hm]; exact hkm)
  obtain ⟨Y,hY⟩ : ∃ Y,(agD x.l y.l).part 0 k (k == (agD x.l y.l).l.length)=Y:=⟨_,rfl⟩
  have hYl:Y.l=(zob0 x.l y.l).take k:=by rw [← hY]; show ((agD x.l y.l).l.drop 0).take (k-0)=_; rw [hgl]; rfl
  rw [hY] at hsl
  have hok:zkur x Y:=⟨by rw [hYl,List.length_take]; omega,k7,fun n hn=>(zx4t.1 (List.mem_of_mem_take (hYl▸hn))).1⟩
  have c2:=zk58 hok
  rw [hYl] at c2
  rw [hk,Int.toNat_natCast] at k8 hs
  have c3:=zk0w (x:=ownN (ztt8 x.l ((zob0 x.l y.l).take k))) (by rw [zd8n (by omega)]; omega)
  rw [hk] at w1 w3
  simp (disch:=first|omega|simp<;>omega|fail) [-zA,-zB,-zC,-zD,-zE,a72,zs05,zqs0,zr7q,c1,hln,hk,w1,w2,w3,h,hsl,c2,c3,hs]
noncomputable def cRbt:List DV→Option DV:=con (fun a:Sl Fct × Sl Fct × Req=>RbOK a.1.l a.2.1.l a.2.2) (fun a=>[a.1.dv 71 faC,a.2.1.dv 71 faC,.agg (rqC a.2.2)]) (fun a => .agg (suC (zo4d a.1.l a.2.1.l a.2.2)))
theorem zvpz {x y:Sl Fct} {q:Req} (h:RbOK x.l y.l q):cRbt [x.dv 71 faC,y.dv 71 faC,.agg (rqC q)]=some (.agg (suC (zo4d x.l y.l q))) :=
 zlyi (f:=fun a:Sl Fct × Sl Fct × Req=>[a.1.dv 71 faC,a.2.1.dv 71 faC,.agg (rqC a.2.2)]) (g:=fun a => .agg (suC (zo4d a.1.l a.2.1.l a.2.2))) (by
  rintro ⟨a,b,c⟩ ⟨a',b',c'⟩ e
  simp only [List.cons.injEq,DV.agg.injEq,and_true] at e
  rw [z4rf e.1,z4rf e.2.1,z82b e.2.2]) (x,y,q) h
theorem zwd7:(Con.pure cRbt).Sound P 72:=z2au fun a h=>zljw mix ztt7 Tryz.func72 z0xs (z87g a.1 a.2.1 a.2.2 h)
end Go.Proofs.YtdnhbfmlklaldaaGreat
set_option linter.unusedSimpArgs false
set_option linter.unusedVariables false
namespace Go.Proofs.YtdnhbfmlklaldaaGreat
open Go Go.Am
theorem z6e4 {l:List Fnd} {s:Int} {i:Nat} (h:i<l.length):decS (l.take (i+1)) s=decS (l.take i) s++(if s≤l[i].sev then l[i].dd.l else []):=by
 rw [List.take_succ_eq_append_getElem h,decS,List.filter_append,List.flatMap_append,← decS]
 congr 1
 by_cases e:s≤l[i].sev<;>simp [e]
def fnd0:Fnd:=⟨dg0,0,[],0,nilS,0,nilS,false⟩
structure FN where
 i:Nat
 o:Fnd
def S600 (x:Sl Fnd) (s:Int) (a:FN):St:=zzv7 (.int .i64 s) (gV 32 (decS (x.l.take a.i) s)) (x.dv 39 fnC) (.int .i64 x.l.length) (.int .i64 a.i) (gH dgC (.cells (fnC a.o)) (decS (x.l.take a.i) s))
structure SmN (l:List Fnd):Prop where
 n:l.length≤20
 d : ∀ f ∈ l,f.dd.l.length≤40000
theorem zdo9 {c:List Fnd} {s:Int} (h1:c.length≤20) (h2 : ∀ f ∈ c,f.dd.l.length≤40000):(decS c s).length≤1000000:=by
 have a:=zqok (f:=fun f:Fnd=>f.dd.l) (m:=40000) (l:=c.filter fun f=>decide (s≤f.sev)) fun f hf=>h2 f (List.mem_filter.1 hf).1
 have b:=List.length_filter_le (fun f=>decide (s≤f.sev)) c
 unfold decS; omega
theorem zngh {l:List Fnd} {s:Int} {i:Nat} (h:SmN l):(decS (l.take i) s).length≤1000000:=by
 refine zdo9 (by rw [List.length_take]; have:=h.n; omega) fun f hf=>h.d f (List.mem_of_mem_take hf)
theorem z94j (x:Sl Fnd) (s:Int) (ok:SmN x.l):Runs tbl0 a48 [x.dv 39 fnC,.int .i64 s] ((ownN (decS x.l s)).dv 32 dgC):=by
 refine ⟨?_⟩
 have hb:=x.b
 simp (disch:=first|omega|simp<;>omega|fail) [-zA,-zB,-zC,-zD,-zE,a48]
 refine zlm5 (S600 x s) (fun a=>x.l.length-a.i) (fun a=>a.i≤x.l.length) ⟨0,fnd0⟩ (z515 (by simp (disch:=first|omega|simp<;>omega|fail) [-zA,-zB,-zC,-zD,-zE,S600,zzv7,decS,gV]) (by simp (disch:=first|omega|simp<;>omega|fail) [-zA,-zB,-zC,-zD,-zE,S600,zzv7,decS,gH])) (by simp) (fun a hi => ?_)
 obtain ⟨i,o⟩:=a
 simp only at hi
 simp only [S600]
 have hlen:=zngh (s:=s) (i:=i) ok
 obtain ⟨L,hL⟩ : ∃ L,decS (x.l.take i) s=L:=⟨_,rfl⟩
 by_cases h:i<x.l.length
 ·have h':(i:Int)<x.l.length:=by omega
  have hg : ∀ H,zpsc H 39 (x.dv 39 fnC) i=some (.ref (fnC x.l[i])):=fun H=>zalo z0o0 h
  have hs:=z6e4 (s:=s) h
  have hdd:=ok.d x.l[i] (List.getElem_mem h)
  obtain ⟨F,hF⟩ : ∃ F,x.l[i]=F:=⟨_,rfl⟩
  rw [hF] at hg hs hdd
  rw [hL] at hs hlen ⊢
  have hv : ∀ H,visY H (F.dd.dv 32 dgC)=some (F.dd.l.length,F.dd.l.flatMap dgC):=fun H=>zwaa z1t1
  by_cases hq:s≤F.sev
  case neg =>
   rw [if_neg hq,List.append_nil] at hs
   simp (disch:=first|omega|simp<;>omega|fail) [-zA,-zB,-zC,-zD,-zE,zlq3,zzv7,h,h',hg,hq]
   exact ⟨⟨i+1,o⟩,zju2 (tail:=[.cells (fnC F)]) (by simp (disch:=first|omega|simp<;>omega|fail) [-zA,-zB,-zC,-zD,-zE,S600,zzv7,hs]) (by simp (disch:=first|omega|simp<;>omega|fail) [-zA,-zB,-zC,-zD,-zE,S600,zzv7,hs]) (Nat.zero_le _) (by simp (disch:=first|omega|simp<;>omega|fail) [-zA,-zB,-zC,-zD,-zE,S600,zzv7,hs,z1r6,Am.below,zuk9]) (by simp only [S600,zzv7,hs]; exact z5x4 z3ot (zl9f _)),by simp only; omega,by simp only; omega⟩
  rw [if_pos hq] at hs
  by_cases e:L=[]
  ·subst e
   rw [List.nil_append] at hs
   by_cases e2:F.dd.l=[]
   ·have hap:=zw6v (h:=[AObj.cells (fnC F)]) (s:=32) (b:=32) (by decide) (by decide)
    have hv2 : ∀ H,visY H (F.dd.dv 32 dgC)=some (0,[]):=fun H=>by rw [hv,e2]; rfl
    rw [e2] at hs
    simp (disch:=first|omega|simp<;>omega|fail) [-zA,-zB,-zC,-zD,-zE,zlq3,zzv7,h,h',hg,hq,zq1z,z1yk,hv2,hap]
    exact ⟨⟨i+1,o⟩,zju2 (tail:=[.cells (fnC F)]) (by simp (disch:=first|omega|simp<;>omega|fail) [-zA,-zB,-zC,-zD,-zE,S600,zzv7,hs,zq1z]) (by simp (disch:=first|omega|simp<;>omega|fail) [-zA,-zB,-zC,-zD,-zE,S600,zzv7,hs,z1yk]) (Nat.zero_le _) (by simp (disch:=first|omega|simp<;>omega|fail) [-zA,-zB,-zC,-zD,-zE,S600,zzv7,hs,zq1z,z1r6,Am.below]) (by simp (disch:=first|omega|simp<;>omega|fail) [-zA,-zB,-zC,-zD,-zE,S600,zzv7,hs,z1yk,zlf2]),by simp only; omega,by simp only; omega⟩
   ·have hpos:0<F.dd.l.length:=List.length_pos_iff.2 e2
    have hcl:(F.dd.l.flatMap dgC).length=F.dd.l.length*32:=z1rq z1t1 _
    have hap:=zsuq (h:=[AObj.cells (fnC F)]) (s:=32) (b:=32) (m:=F.dd.l.length) (cs:=F.dd.l.flatMap dgC) (by decide) (by decide) hcl.symm hpos (by omega)
    rw [hcl] at hap
    have e3:=z6zt (K:=32) e2
    have e4:=zju3 (f:=dgC) (o := .cells (fnC F)) e2
    have e5:fl dgC F.dd.l=F.dd.l.flatMap dgC:=rfl
    simp only [List.length_cons,List.length_nil,Nat.zero_add] at hap
    simp (disch:=first|omega|simp<;>omega|fail) [-zA,-zB,-zC,-zD,-zE,zlq3,zzv7,h,h',hg,hq,zq1z,z1yk,hv,hap]
    exact ⟨⟨i+1,F⟩,z515 (by simp (disch:=first|omega|simp<;>omega|fail) [-zA,-zB,-zC,-zD,-zE,S600,zzv7,hs,e3]) (by simp (disch:=first|omega|simp<;>omega|fail) [-zA,-zB,-zC,-zD,-zE,S600,zzv7,hs,e4,e5]),by simp only; omega,by simp only; omega⟩
  ·have hap:=zvrp (h:=[AObj.cells (fnC o),.cells (fl dgC L),.cells (fnC F)]) (id:=1) (b:=32) (l:=L) (m:=F.dd.l.length) (cs:=F.dd.l) z1t1 (by decide) (by decide) (fun _=>zoxk) rfl (by omega) (by simp [objV,ziu0,z8lx z1t1])
   have e1:=z6zt (K:=32) e
   have e2:=zju3 (f:=dgC) (o := .cells (fnC o)) e
   have e0:L++F.dd.l≠[]:=by simp [e]
   have e3:=z6zt (K:=32) e0
   have e4:=zju3 (f:=dgC) (o := .cells (fnC o)) e0
   rw [List.length_append] at e3
   simp (disch:=first|omega|simp<;>omega|fail) [-zA,-zB,-zC,-zD,-zE,zlq3,zzv7,h,h',hg,hq,e1,e2,hv,hap]
   exact ⟨⟨i+1,o⟩,zju2 (tail:=[.cells (fnC F)]) (by simp (disch:=first|omega|simp<;>omega|fail) [-zA,-zB,-zC,-zD,-zE,S600,zzv7,hs,e3]) (by simp (disch:=first|omega|simp<;>omega|fail) [-zA,-zB,-zC,-zD,-zE,S600,zzv7,hs,e4]) (Nat.zero_le _) (by simp (disch:=first|omega|simp<;>omega|fail) [-zA,-zB,-zC,-zD,-zE,S600,zzv7,hs,e3,e4,z1r6,Am.below]) (by simp only [S600,zzv7,hs]; exact z5x4 z3ot (zl9f _)),by simp only; omega,by simp only; omega⟩
 ·have h':¬ (i:Int)<x.l.length:=by omega
  have ht:x.l.take i=x.l:=List.take_of_length_le (by omega)
  rw [ht] at hlen ⊢
  have hsn:=znhj (f:=dgC) (o := .cells (fnC o)) (l:=decS x.l s) (X:=[]) z1t1 z3ot (by omega)
  rw [List.append_nil] at hsn
  simp (disch:=first|omega|simp<;>omega|fail) [-zA,-zB,-zC,-zD,-zE,zlq3,zzv7,h,h',hsn]
noncomputable def cFnI (A:List Fnd→Prop) (g:List Fnd→Int→DV):List DV→Option DV:=con (fun a:Sl Fnd × Int=>A a.1.l) (fun a=>[a.1.dv 39 fnC,.int .i64 a.2]) (fun a=>g a.1.l a.2)
theorem ze20 {A:List Fnd→Prop} {g:List Fnd→Int→DV} {x:Sl Fnd} {s:Int} (h:A x.l):cFnI A g [x.dv 39 fnC,.int .i64 s]=some (g x.l s) :=
 zlyi (A:=fun a:Sl Fnd × Int=>A a.1.l) (f:=fun a:Sl Fnd × Int=>[a.1.dv 39 fnC,.int .i64 a.2]) (g:=fun a=>g a.1.l a.2) (by
  rintro ⟨a,b⟩ ⟨c,d⟩ e
  simp only [List.cons.injEq,DV.int.injEq,and_true,true_and] at e
  rw [zedu e.1,e.2]) (x,s) h
noncomputable def gDec (l:List Fnd) (s:Int):DV:=(ownN (decS l s)).dv 32 dgC
theorem zdlo:(Con.pure (cFnI SmN gDec)).Sound P 48:=z2au fun a h=>zljw mix zr5o Tryz.func48 zwi2 (z94j a.1 a.2 h)
theorem zgaf {l:List Fnd} {i:Nat} (h:i<l.length):zu7t (l.take (i+1))=zu7t (l.take i)+(if l[i].con then 1 else 0):=by
 rw [List.take_succ_eq_append_getElem h,zu7t,zu7t,List.filter_append,List.length_append]
 by_cases e:l[i].con=true<;>simp [e]
theorem zcsy {l:List Fnd} {i:Nat}:0≤zu7t (l.take i)∧zu7t (l.take i)≤i:=by
 have:=List.length_filter_le (fun f:Fnd=>f.con) (l.take i)
 rw [List.length_take] at this
 unfold zu7t; omega
def S601 (x:Sl Fnd) (i:Nat):St:=zcu8 (.int .i64 (zu7t (x.l.take i))) (x.dv 39 fnC) (.int .i64 x.l.length) (.int .i64 i) []
theorem zid8 (x:Sl Fnd):Runs tbl0 a78 [x.dv 39 fnC] (.int .i64 (zu7t x.l)):=by
 refine ⟨?_⟩
 have hb:=x.b
 simp (disch:=first|omega|simp<;>omega|fail) [-zA,-zB,-zC,-zD,-zE,a78]
 refine zlm5 (S601 x) (fun i=>x.l.length-i) (fun i=>i≤x.l.length) 0 (z515 (by simp (disch:=first|omega|simp<;>omega|fail) [-zA,-zB,-zC,-zD,-zE,S601,zcu8,zu7t]) (by simp (disch:=first|omega|simp<;>omega|fail) [-zA,-zB,-zC,-zD,-zE,S601,zcu8])) (by simp) (fun i hi => ?_)
 simp only [S601]
 have hc:=zcsy (l:=x.l) (i:=i)
 by_cases h:i<x.l.length
 ·have h':(i:Int)<x.l.length:=by omega
  have hg : ∀ H,zpsc H 39 (x.dv 39 fnC) i=some (.ref (fnC x.l[i])):=fun H=>zalo z0o0 h
  have hs:=zgaf h
  obtain ⟨F,hF⟩ : ∃ F,x.l[i]=F:=⟨_,rfl⟩
  rw [hF] at hg hs
  obtain ⟨C,hC⟩ : ∃ C,zu7t (x.l.take i)=C:=⟨_,rfl⟩
  rw [hC] at hs hc ⊢
  cases hq:F.con with
  | true =>
   rw [hq,if_pos rfl] at hs
   simp (disch:=first|omega|simp<;>omega|fail) [-zA,-zB,-zC,-zD,-zE,zoac,zcu8,h,h',hg,hq]
   exact ⟨i+1,zju2 (tail:=[.cells (fnC F)]) (by simp (disch:=first|omega|simp<;>omega|fail) [-zA,-zB,-zC,-zD,-zE,S601,zcu8,hs]) (by simp (disch:=first|omega|simp<;>omega|fail) [-zA,-zB,-zC,-zD,-zE,S601,zcu8]) (Nat.zero_le _) (by simp (disch:=first|omega|simp<;>omega|fail) [-zA,-zB,-zC,-zD,-zE,S601,zcu8,z1r6,Am.below]) (by simp (disch:=first|omega|simp<;>omega|fail) [-zA,-zB,-zC,-zD,-zE,S601,zcu8,zlf2]),by omega,by omega⟩
  | false =>
   rw [hq,if_neg (by simp),Int.add_zero] at hs
   simp (disch:=first|omega|simp<;>omega|fail) [-zA,-zB,-zC,-zD,-zE,zoac,zcu8,h,h',hg,hq]
   exact ⟨i+1,zju2 (tail:=[.cells (fnC F)]) (by simp (disch:=first|omega|simp<;>omega|fail) [-zA,-zB,-zC,-zD,-zE,S601,zcu8,hs]) (by simp (disch:=first|omega|simp<;>omega|fail) [-zA,-zB,-zC,-zD,-zE,S601,zcu8]) (Nat.zero_le _) (by simp (disch:=first|omega|simp<;>omega|fail) [-zA,-zB,-zC,-zD,-zE,S601,zcu8,z1r6,Am.below]) (by simp (disch:=first|omega|simp<;>omega|fail) [-zA,-zB,-zC,-zD,-zE,S601,zcu8,zlf2]),by omega,by omega⟩
 ·have h':¬ (i:Int)<x.l.length:=by omega
  have ht:x.l.take i=x.l:=List.take_of_length_le (by omega)
  simp (disch:=first|omega|simp<;>omega|fail) [-zA,-zB,-zC,-zD,-zE,zoac,zcu8,h,h',ht]
noncomputable def cCon:List DV→Option DV:=con (fun _=>True) (fun x:Sl Fnd=>[x.dv 39 fnC]) (fun x => .int .i64 (zu7t x.l))
theorem zs4w {x:Sl Fnd}:cCon [x.dv 39 fnC]=some (.int .i64 (zu7t x.l)):=zsn4 (f:=fun x:Sl Fnd=>[x.dv 39 fnC]) (g:=fun x => .int .i64 (zu7t x.l)) (fun a b e=>by simp only [List.cons.injEq,and_true] at e; exact zedu e) x
theorem ztc6:(Con.pure cCon).Sound P 78:=z2au fun x _=>zljw mix zr5o Tryz.func78 zetr (zid8 x)
theorem zhlf (f:Fnd):Runs tbl0 a113 [.agg (fnC f)] (.bool (zk2r f)):=by
 refine ⟨?_⟩
 by_cases h:f.st=3
 ·simp (disch:=first|omega|simp<;>omega|fail) [-zA,-zB,-zC,-zD,-zE,a113,h,zk2r]
 ·simp (disch:=first|omega|simp<;>omega|fail) [-zA,-zB,-zC,-zD,-zE,a113,h,zk2r]
noncomputable def z5il:List DV→Option DV:=con (fun _=>True) (fun f:Fnd=>[.agg (fnC f)]) (fun f => .bool (zk2r f))
theorem ztzi {f:Fnd}:z5il [.agg (fnC f)]=some (.bool (zk2r f)):=zsn4 (f:=fun f:Fnd=>[.agg (fnC f)]) (g:=fun f => .bool (zk2r f)) (fun a b e=>by simp only [List.cons.injEq,DV.agg.injEq,and_true] at e; exact ziuj e) f
noncomputable def cCD:List DV→Option DV:=con (fun _=>True) (fun x:Sl Dg=>[x.dv 32 dgC]) (fun x=>x.clone.dv 32 dgC)
theorem zgv2 {x:Sl Dg}:cCD [x.dv 32 dgC]=some (x.clone.dv 32 dgC) :=
 zsn4 (f:=fun x:Sl Dg=>[x.dv 32 dgC]) (fun a b e=>by simp only [List.cons.injEq,and_true] at e; exact z42k e) x
theorem zi7c:(Con.pure cCD).Sound P 114:=z2au fun x _ =>
 zzfj ((zv22 mix zr5o Tryz.func114 zgcx (zp9z x)).mono fun d h' e=>by
  obtain ⟨rfl,rfl⟩:=e
  by_cases h:x.l=[]
  ·rw [zpj6 h]; exact z7y9
  ·have hs:=z29t (f:=dgC) z1t1 z3ot (pre:=[]) (l:=x.l) (m:=x.l.length)
   rw [List.take_length] at hs
   rw [z2ra h,zsqo h]
   refine hs.trans ?_
   simp [Sl.clone,Sl.dv,slD,h])
noncomputable def T601:Tbl:=addT 113 (.pure z5il) (addT 114 (.pure cCD) tbl0)
theorem z6az:T601 113 = .pure z5il:=by simp [T601]
theorem z5k8:T601 114 = .pure cCD:=by simp [T601]
theorem ztl1:T601.Sound P:=z0rp (z2au fun f _=>zljw mix zr5o Tryz.func113 zz1e (zhlf f)) (z0rp zi7c zr5o)
def Fnd.cl (f:Fnd):Fnd:={ f with hd:=f.hd.clone,dd:=f.dd.clone }
def opL (l:List Fnd) (s:Int):List Fnd:=(zcm1 l s).map Fnd.cl
theorem zo83 {l:List Fnd} {s:Int} {i:Nat} (h:i<l.length):opL (l.take (i+1)) s=opL (l.take i) s++(if zk2r l[i]&&decide (s≤l[i].sev) then [l[i].cl] else []):=by
 rw [List.take_succ_eq_append_getElem h,opL,zcm1,List.filter_append,List.map_append,← zcm1,← opL]
 congr 1
 by_cases e:(zk2r l[i]&&decide (s≤l[i].sev))=true<;>simp [e]
def S602 (x:Sl Fnd) (s:Int) (a:FN):St:=zu12 (.int .i64 s) (gV 39 (opL (x.l.take a.i) s)) (x.dv 39 fnC) (.int .i64 x.l.length) (.int .i64 a.i) (gH fnC (.cells (fnC a.o)) (opL (x.l.take a.i) s))
theorem zl2l {f:Fnd} {y:Sl Dg}:zk7y (fnC f) 35 [y.dv 32 dgC]=fnC { f with hd:=y }:=by
 unfold zk7y
 rw [show (fnC f).take 35=dgC f.inv++[.int .i64 f.comp,.str f.id,.int .i64 f.sev] from ?_,show (fnC f).drop (35+[y.dv 32 dgC].length)=[.int .i64 f.st,f.dd.dv 32 dgC,.bool f.con] from ?_]
 ·simp [fnC]
 ·show (fnC f).drop 36=_
  rw [show (36:Nat)=32+4 from rfl,← List.drop_drop,z19g]; rfl
 ·rw [fnC,List.take_append,List.take_of_length_le (by rw [z1t1]; decide),z1t1]; rfl
theorem ztbb {f:Fnd} {y:Sl Dg}:zk7y (fnC f) 37 [y.dv 32 dgC]=fnC { f with dd:=y }:=by
 unfold zk7y
 rw [show (fnC f).take 37=dgC f.inv++[.int .i64 f.comp,.str f.id,.int .i64 f.sev,f.hd.dv 32 dgC,.int .i64 f.st] from ?_,show (fnC f).drop (37+[y.dv 32 dgC].length)=[.bool f.con] from ?_]
 ·simp [fnC]
 ·show (fnC f).drop 38=_
  rw [show (38:Nat)=32+6 from rfl,← List.drop_drop,z19g]; rfl
 ·rw [fnC,List.take_append,List.take_of_length_le (by rw [z1t1]; decide),z1t1]; rfl
theorem zbcp {h:List AObj} {id off:Nat} {v:DV} {l:List DV} (hc:v.cells=[v]) (ho:v.one=true) (hl:off<l.length):zy6o h id 1 off v (some l)=some (.junk,h.set id (.cells (zk7y l off [v]))):=by
 simp only [zy6o,hc,List.length_cons,List.length_nil,List.all_cons,List.all_nil,ho,Bool.and_self]
 first|done|rw [if_pos ⟨trivial,by omega,trivial⟩]
theorem z92o {h:List AObj} {id:Nat} {f:Fnd} {y:Sl Dg}:zy6o h id 1 35 (y.dv 32 dgC) (some (fnC f))=some (.junk,h.set id (.cells (fnC { f with hd:=y }))):=by
 rw [zbcp (zs9p y) (z4ja y) (by rw [z0o0]; decide),zl2l]
theorem zw46 {h:List AObj} {id:Nat} {f:Fnd} {y:Sl Dg}:zy6o h id 1 37 (y.dv 32 dgC) (some (fnC f))=some (.junk,h.set id (.cells (fnC { f with dd:=y }))):=by
 rw [zbcp (zs9p y) (z4ja y) (by rw [z0o0]; decide),ztbb]
theorem z0l3 (x:Sl Fnd) (s:Int) (hn:x.l.length≤1000000):Runs T601 a75 [x.dv 39 fnC,.int .i64 s] ((ownN (opL x.l s)).dv 39 fnC):=by
 refine ⟨?_⟩
 have hb:=x.b
 simp (disch:=first|omega|simp<;>omega|fail) [-zA,-zB,-zC,-zD,-zE,a75]
 refine zlm5 (S602 x s) (fun a=>x.l.length-a.i) (fun a=>a.i≤x.l.length) ⟨0,fnd0⟩ (z515 (by simp (disch:=first|omega|simp<;>omega|fail) [-zA,-zB,-zC,-zD,-zE,S602,zu12,opL,zcm1,gV]) (by simp (disch:=first|omega|simp<;>omega|fail) [-zA,-zB,-zC,-zD,-zE,S602,zu12,opL,zcm1,gH])) (by simp) (fun a hi => ?_)
 obtain ⟨i,o⟩:=a
 simp only at hi
 simp only [S602]
 have hlen:(opL (x.l.take i) s).length≤i:=by
  have:=List.length_filter_le (fun f=>zk2r f&&decide (s≤f.sev)) (x.l.take i)
  rw [List.length_take] at this
  unfold opL zcm1; rw [List.length_map]; omega
 obtain ⟨L,hL⟩ : ∃ L,opL (x.l.take i) s=L:=⟨_,rfl⟩
 by_cases h:i<x.l.length
 ·have h':(i:Int)<x.l.length:=by omega
  have hg : ∀ H,zpsc H 39 (x.dv 39 fnC) i=some (.ref (fnC x.l[i])):=fun H=>zalo z0o0 h
  have hs:=zo83 (s:=s) h
  obtain ⟨F,hF⟩ : ∃ F,x.l[i]=F:=⟨_,rfl⟩
  rw [hF] at hg hs
  rw [hL] at hs hlen ⊢
  by_cases hq:(zk2r F&&decide (s≤F.sev))=true
  case neg =>
   rw [if_neg hq,List.append_nil] at hs
   cases ho:zk2r F with
   | false =>
    simp (disch:=first|omega|simp<;>omega|fail) [-zA,-zB,-zC,-zD,-zE,zjzl,zu12,h,h',hg,z6az,ztzi,ho]
    exact ⟨⟨i+1,o⟩,zju2 (tail:=[.cells (fnC F)]) (by simp (disch:=first|omega|simp<;>omega|fail) [-zA,-zB,-zC,-zD,-zE,S602,zu12,hs]) (by simp (disch:=first|omega|simp<;>omega|fail) [-zA,-zB,-zC,-zD,-zE,S602,zu12,hs]) (Nat.zero_le _) (by simp (disch:=first|omega|simp<;>omega|fail) [-zA,-zB,-zC,-zD,-zE,S602,zu12,hs,z1r6,Am.below,zuk9]) (by simp only [S602,zu12,hs]; exact z5x4 zl9f (zl9f _)),by simp only; omega,by simp only; omega⟩
   | true =>
    have hq2:¬ s≤F.sev:=fun q=>hq (by simp [ho,q])
    simp (disch:=first|omega|simp<;>omega|fail) [-zA,-zB,-zC,-zD,-zE,zjzl,zu12,h,h',hg,z6az,ztzi,ho,hq2]
    exact ⟨⟨i+1,o⟩,zju2 (tail:=[.cells (fnC F)]) (by simp (disch:=first|omega|simp<;>omega|fail) [-zA,-zB,-zC,-zD,-zE,S602,zu12,hs]) (by simp (disch:=first|omega|simp<;>omega|fail) [-zA,-zB,-zC,-zD,-zE,S602,zu12,hs]) (Nat.zero_le _) (by simp (disch:=first|omega|simp<;>omega|fail) [-zA,-zB,-zC,-zD,-zE,S602,zu12,hs,z1r6,Am.below,zuk9]) (by simp only [S602,zu12,hs]; exact z5x4 zl9f (zl9f _)),by simp only; omega,by simp only; omega⟩
  rw [if_pos hq] at hs
  rw [Bool.and_eq_true,decide_eq_true_eq] at hq
  obtain ⟨ho,hq⟩:=hq
  have hcl:fnC { F with hd:=F.hd.clone,dd:=F.dd.clone }=fnC F.cl:=rfl
  obtain ⟨G,hG⟩ : ∃ G,F.cl=G:=⟨_,rfl⟩
  rw [hG] at hs hcl
  by_cases e:L=[]
  ·subst e
   rw [List.nil_append] at hs
   have hap:=zsuq (h:=[AObj.cells (fnC G)]) (s:=39) (b:=128) (m:=1) (cs:=fnC G) (by decide) (by decide) (by rw [z0o0]) (by decide) (by decide)
   simp only [z0o0,List.length_cons,List.length_nil] at hap
   simp (disch:=first|omega|simp<;>omega|fail) [-zA,-zB,-zC,-zD,-zE,zjzl,zu12,h,h',hg,z6az,z5k8,ztzi,zgv2,ho,hq,zq1z,z1yk,z92o,zw46,hcl,hap]
   have e1:gV 39 [G] = .ms 1 39 0 39 1 39:=rfl
   have e2:gH fnC (.cells (fnC G)) [G]=[.cells (fnC G),.cells (fnC G)]:=by rw [zju3 (by simp),z4hs]
   exact ⟨⟨i+1,G⟩,z515 (by simp (disch:=first|omega|simp<;>omega|fail) [-zA,-zB,-zC,-zD,-zE,S602,zu12,hs,e1]) (by simp (disch:=first|omega|simp<;>omega|fail) [-zA,-zB,-zC,-zD,-zE,S602,zu12,hs,e2]),by simp only; omega,by simp only; omega⟩
  ·have hap:=zkg3 (h:=[AObj.cells (fnC o),.cells (fl fnC L),.cells (fnC G)]) (id:=1) (b:=128) (l:=L) (x:=G) z0o0 (by decide) (by decide) (fun _=>zbwe) (by omega) (by simp [objV,ziu0,z8lx z0o0])
   have q1:=z6zt (K:=39) e
   have q2:=zju3 (f:=fnC) (o := .cells (fnC o)) e
   simp (disch:=first|omega|simp<;>omega|fail) [-zA,-zB,-zC,-zD,-zE,zjzl,zu12,h,h',hg,z6az,z5k8,ztzi,zgv2,ho,hq,q1,q2,z92o,zw46,hcl,hap]
   have e1:=zjyf (K:=39) (l:=L) (x:=G)
   have e2:=zddm (f:=fnC) (o := .cells (fnC o)) (l:=L) (x:=G)
   exact ⟨⟨i+1,o⟩,zju2 (tail:=[.cells (fnC G)]) (by simp (disch:=first|omega|simp<;>omega|fail) [-zA,-zB,-zC,-zD,-zE,S602,zu12,hs,e1]) (by simp (disch:=first|omega|simp<;>omega|fail) [-zA,-zB,-zC,-zD,-zE,S602,zu12,hs,e2]) (Nat.zero_le _) (by simp (disch:=first|omega|simp<;>omega|fail) [-zA,-zB,-zC,-zD,-zE,S602,zu12,hs,z1r6,Am.below,e1,e2]) (by simp only [S602,zu12,hs]; exact z5x4 zl9f (zl9f _)),by simp only; omega,by simp only; omega⟩
 ·have h':¬ (i:Int)<x.l.length:=by omega
  have ht:x.l.take i=x.l:=List.take_of_length_le (by omega)
  rw [ht] at hlen ⊢
  have hsn:=znhj (f:=fnC) (o := .cells (fnC o)) (l:=opL x.l s) (X:=[]) z0o0 zl9f (by omega)
  rw [List.append_nil] at hsn
  simp (disch:=first|omega|simp<;>omega|fail) [-zA,-zB,-zC,-zD,-zE,zjzl,zu12,h,h',hsn]
noncomputable def gOpn (l:List Fnd) (s:Int):DV:=(ownN (opL l s)).dv 39 fnC
theorem z2pr:(Con.pure (cFnI (fun l=>l.length≤1000000) gOpn)).Sound P 75:=z2au fun a h=>zljw mix ztl1 Tryz.func75 zrvd (z0l3 a.1 a.2 h)
end Go.Proofs.YtdnhbfmlklaldaaGreat
set_option linter.unusedSimpArgs false
set_option linter.unusedVariables false
namespace Go.Proofs.YtdnhbfmlklaldaaGreat
open Go Go.Am
theorem zg1n {s:Str}:zt9v s=true↔1≤s.length∧s.length≤64 ∧ ∀ j (h:j<s.length),zh9a (decide (j=0)) s[j]=true:=by
 unfold zt9v
 cases s with
 | nil=>simp
 | cons b r =>
  simp only [Bool.and_eq_true,decide_eq_true_eq,List.all_eq_true,and_assoc]
  refine and_congr_right fun _=>and_congr_right fun _=>⟨fun ⟨h1,h2⟩ j hj => ?_,fun h=>⟨h 0 (by simp),fun x hx => ?_⟩⟩
  ·cases j with
   | zero=>simpa using h1
   | succ j=>simpa using h2 _ (List.getElem_mem (by simpa using hj))
  ·obtain ⟨j,hj,e⟩:=List.getElem_of_mem hx
   have:=h (j+1) (by simpa using hj)
   simpa [e] using this
def S610 (s:Str) (i:Nat):St:=zcir (.str s) (.int .i64 i) []
theorem zrln (s:Str):Runs tbl0 a139 [.str s] (.bool (zt9v s)):=by
 refine ⟨?_⟩
 by_cases h1:s.length<1
 ·have h1':(s.length:Int)<1:=by omega
  have hr:zt9v s=false:=by
   cases h:zt9v s with
   | false=>rfl
   | true=>have:=zg1n.1 h; omega
  simp (disch:=first|omega|simp<;>omega|fail) [-zA,-zB,-zC,-zD,-zE,a139,h1,h1',hr]
 by_cases h2:64<s.length
 ·have h1':¬ (s.length:Int)<1:=by omega
  have h2':(64:Int)<s.length:=by omega
  have hr:zt9v s=false:=by
   cases h:zt9v s with
   | false=>rfl
   | true=>have:=zg1n.1 h; omega
  simp (disch:=first|omega|simp<;>omega|fail) [-zA,-zB,-zC,-zD,-zE,a139,h1,h1',h2,h2',hr]
 have h1':¬ (s.length:Int)<1:=by omega
 have h2':¬ (64:Int)<s.length:=by omega
 simp (disch:=first|omega|simp<;>omega|fail) [-zA,-zB,-zC,-zD,-zE,a139,h1,h1',h2,h2']
 refine zlm5 (S610 s) (fun i=>s.length-i) (fun i=>i≤s.length ∧ ∀ j (h:j<s.length),j<i→zh9a (decide (j=0)) s[j]=true) 0 (z515 (by simp (disch:=first|omega|simp<;>omega|fail) [-zA,-zB,-zC,-zD,-zE,S610,zcir]) (by simp (disch:=first|omega|simp<;>omega|fail) [-zA,-zB,-zC,-zD,-zE,S610,zcir])) ⟨by omega,fun j _ h=>by omega⟩ (fun i hi => ?_)
 obtain ⟨k1,k2⟩:=hi
 simp only [S610]
 by_cases h:i<s.length
 case neg =>
  have h':¬ (i:Int)<s.length:=by omega
  have hr:zt9v s=true:=zg1n.2 ⟨by omega,by omega,fun j hj=>k2 j hj (by omega)⟩
  simp (disch:=first|omega|simp<;>omega|fail) [-zA,-zB,-zC,-zD,-zE,z9lx,zcir,h,h',hr]
 have h':(i:Int)<s.length:=by omega
 obtain ⟨c,hc⟩ : ∃ c,s[i].toBitVec=c:=⟨_,rfl⟩
 have hn:zh9a (decide (i=0)) s[i]=(((decide (97#8≤c)&&decide (c≤122#8))||(decide (48#8≤c)&&decide (c≤57#8)))||(!decide (i=0)&&(decide (c=46#8)||decide (c=95#8)||decide (c=45#8)))):=by unfold zh9a; rw [hc]
 have acc:zh9a (decide (i=0)) s[i]=true → ∀ j (h:j<s.length),j<i+1→zh9a (decide (j=0)) s[j]=true:=fun e j hj hlt=>by
  by_cases q:j=i
  ·subst q; exact e
  ·exact k2 j hj (by omega)
 have rej:zh9a (decide (i=0)) s[i]=false→zt9v s=false:=fun e=>by
  cases q:zt9v s with
  | false=>rfl
  | true=>have:=(zg1n.1 q).2.2 i h; rw [e] at this; cases this
 by_cases a1:97#8≤c
 case neg =>
  by_cases a3:48#8≤c
  case neg =>
   by_cases z:i=0
   case pos =>
    subst z
    have hne:¬ s=[]:=fun q=>by rw [q] at h; simp at h
    have e:=rej (by rw [hn]; simp [a1,a3,hne])
    simp (disch:=first|omega|simp<;>omega|fail) [-zA,-zB,-zC,-zD,-zE,z9lx,zcir,h,h',hc,e,a1,a3,hne]
   have zi:(0:Int)<i:=by omega
   have zn:0<i:=by omega
   by_cases b46:c=46#8
   case pos =>
    have d46:(c == 46#8)=true:=by simp [b46]
    have e:=acc (by rw [hn]; simp [a1,a3,z,zi,zn,b46])
    simp (disch:=first|omega|simp<;>omega|fail) [-zA,-zB,-zC,-zD,-zE,z9lx,zcir,h,h',hc,a1,a3,z,zi,zn,b46]
    exact ⟨i+1,z515 (by simp (disch:=first|omega|simp<;>omega|fail) [-zA,-zB,-zC,-zD,-zE,S610,zcir]) (by simp (disch:=first|omega|simp<;>omega|fail) [-zA,-zB,-zC,-zD,-zE,S610,zcir]),by omega,⟨by omega,e⟩⟩
   have d46:(c == 46#8)=false:=by simp [b46]
   by_cases b95:c=95#8
   case pos =>
    have d95:(c == 95#8)=true:=by simp [b95]
    have e:=acc (by rw [hn]; simp [a1,a3,z,zi,zn,b46,d46,b95])
    simp (disch:=first|omega|simp<;>omega|fail) [-zA,-zB,-zC,-zD,-zE,z9lx,zcir,h,h',hc,a1,a3,z,zi,zn,b46,d46,b95]
    exact ⟨i+1,z515 (by simp (disch:=first|omega|simp<;>omega|fail) [-zA,-zB,-zC,-zD,-zE,S610,zcir]) (by simp (disch:=first|omega|simp<;>omega|fail) [-zA,-zB,-zC,-zD,-zE,S610,zcir]),by omega,⟨by omega,e⟩⟩
   have d95:(c == 95#8)=false:=by simp [b95]
   by_cases b45:c=45#8
   case pos =>
    have d45:(c == 45#8)=true:=by simp [b45]
    have e:=acc (by rw [hn]; simp [a1,a3,z,zi,zn,b46,d46,b95,d95,b45])
    simp (disch:=first|omega|simp<;>omega|fail) [-zA,-zB,-zC,-zD,-zE,z9lx,zcir,h,h',hc,a1,a3,z,zi,zn,b46,d46,b95,d95,b45]
    exact ⟨i+1,z515 (by simp (disch:=first|omega|simp<;>omega|fail) [-zA,-zB,-zC,-zD,-zE,S610,zcir]) (by simp (disch:=first|omega|simp<;>omega|fail) [-zA,-zB,-zC,-zD,-zE,S610,zcir]),by omega,⟨by omega,e⟩⟩
   have d45:(c == 45#8)=false:=by simp [b45]
   have e:=rej (by rw [hn]; simp [a1,a3,z,zi,zn,b46,d46,b95,d95,b45,d45])
   simp (disch:=first|omega|simp<;>omega|fail) [-zA,-zB,-zC,-zD,-zE,z9lx,zcir,h,h',hc,e,a1,a3,z,zi,zn,b46,d46,b95,d95,b45,d45]
  by_cases a4:c≤57#8
  case neg =>
   by_cases z:i=0
   case pos =>
    subst z
    have hne:¬ s=[]:=fun q=>by rw [q] at h; simp at h
    have e:=rej (by rw [hn]; simp [a1,a3,a4,hne])
    simp (disch:=first|omega|simp<;>omega|fail) [-zA,-zB,-zC,-zD,-zE,z9lx,zcir,h,h',hc,e,a1,a3,a4,hne]
   have zi:(0:Int)<i:=by omega
   have zn:0<i:=by omega
   by_cases b46:c=46#8
   case pos =>
    have d46:(c == 46#8)=true:=by simp [b46]
    have e:=acc (by rw [hn]; simp [a1,a3,a4,z,zi,zn,b46])
    simp (disch:=first|omega|simp<;>omega|fail) [-zA,-zB,-zC,-zD,-zE,z9lx,zcir,h,h',hc,a1,a3,a4,z,zi,zn,b46]
    exact ⟨i+1,z515 (by simp (disch:=first|omega|simp<;>omega|fail) [-zA,-zB,-zC,-zD,-zE,S610,zcir]) (by simp (disch:=first|omega|simp<;>omega|fail) [-zA,-zB,-zC,-zD,-zE,S610,zcir]),by omega,⟨by omega,e⟩⟩
   have d46:(c == 46#8)=false:=by simp [b46]
   by_cases b95:c=95#8
   case pos =>
    have d95:(c == 95#8)=true:=by simp [b95]
    have e:=acc (by rw [hn]; simp [a1,a3,a4,z,zi,zn,b46,d46,b95])
    simp (disch:=first|omega|simp<;>omega|fail) [-zA,-zB,-zC,-zD,-zE,z9lx,zcir,h,h',hc,a1,a3,a4,z,zi,zn,b46,d46,b95]
    exact ⟨i+1,z515 (by simp (disch:=first|omega|simp<;>omega|fail) [-zA,-zB,-zC,-zD,-zE,S610,zcir]) (by simp (disch:=first|omega|simp<;>omega|fail) [-zA,-zB,-zC,-zD,-zE,S610,zcir]),by omega,⟨by omega,e⟩⟩
   have d95:(c == 95#8)=false:=by simp [b95]
   by_cases b45:c=45#8
   case pos =>
    have d45:(c == 45#8)=true:=by simp [b45]
    have e:=acc (by rw [hn]; simp [a1,a3,a4,z,zi,zn,b46,d46,b95,d95,b45])
    simp (disch:=first|omega|simp<;>omega|fail) [-zA,-zB,-zC,-zD,-zE,z9lx,zcir,h,h',hc,a1,a3,a4,z,zi,zn,b46,d46,b95,d95,b45]
    exact ⟨i+1,z515 (by simp (disch:=first|omega|simp<;>omega|fail) [-zA,-zB,-zC,-zD,-zE,S610,zcir]) (by simp (disch:=first|omega|simp<;>omega|fail) [-zA,-zB,-zC,-zD,-zE,S610,zcir]),by omega,⟨by omega,e⟩⟩
   have d45:(c == 45#8)=false:=by simp [b45]
   have e:=rej (by rw [hn]; simp [a1,a3,a4,z,zi,zn,b46,d46,b95,d95,b45,d45])
   simp (disch:=first|omega|simp<;>omega|fail) [-zA,-zB,-zC,-zD,-zE,z9lx,zcir,h,h',hc,e,a1,a3,a4,z,zi,zn,b46,d46,b95,d95,b45,d45]
  have e:=acc (by rw [hn]; simp [a1,a3,a4])
  simp (disch:=first|omega|simp<;>omega|fail) [-zA,-zB,-zC,-zD,-zE,z9lx,zcir,h,h',hc,a1,a3,a4]
  exact ⟨i+1,z515 (by simp (disch:=first|omega|simp<;>omega|fail) [-zA,-zB,-zC,-zD,-zE,S610,zcir]) (by simp (disch:=first|omega|simp<;>omega|fail) [-zA,-zB,-zC,-zD,-zE,S610,zcir]),by omega,⟨by omega,e⟩⟩
 by_cases a2:c≤122#8
 case neg =>
  by_cases a3:48#8≤c
  case neg =>
   by_cases z:i=0
   case pos =>
    subst z
    have hne:¬ s=[]:=fun q=>by rw [q] at h; simp at h
    have e:=rej (by rw [hn]; simp [a1,a2,a3,hne])
    simp (disch:=first|omega|simp<;>omega|fail) [-zA,-zB,-zC,-zD,-zE,z9lx,zcir,h,h',hc,e,a1,a2,a3,hne]
   have zi:(0:Int)<i:=by omega
   have zn:0<i:=by omega
   by_cases b46:c=46#8
   case pos =>
    have d46:(c == 46#8)=true:=by simp [b46]
    have e:=acc (by rw [hn]; simp [a1,a2,a3,z,zi,zn,b46])
    simp (disch:=first|omega|simp<;>omega|fail) [-zA,-zB,-zC,-zD,-zE,z9lx,zcir,h,h',hc,a1,a2,a3,z,zi,zn,b46]
    exact ⟨i+1,z515 (by simp (disch:=first|omega|simp<;>omega|fail) [-zA,-zB,-zC,-zD,-zE,S610,zcir]) (by simp (disch:=first|omega|simp<;>omega|fail) [-zA,-zB,-zC,-zD,-zE,S610,zcir]),by omega,⟨by omega,e⟩⟩
   have d46:(c == 46#8)=false:=by simp [b46]
   by_cases b95:c=95#8
   case pos =>
    have d95:(c == 95#8)=true:=by simp [b95]
    have e:=acc (by rw [hn]; simp [a1,a2,a3,z,zi,zn,b46,d46,b95])
    simp (disch:=first|omega|simp<;>omega|fail) [-zA,-zB,-zC,-zD,-zE,z9lx,zcir,h,h',hc,a1,a2,a3,z,zi,zn,b46,d46,b95]
    exact ⟨i+1,z515 (by simp (disch:=first|omega|simp<;>omega|fail) [-zA,-zB,-zC,-zD,-zE,S610,zcir]) (by simp (disch:=first|omega|simp<;>omega|fail) [-zA,-zB,-zC,-zD,-zE,S610,zcir]),by omega,⟨by omega,e⟩⟩
   have d95:(c == 95#8)=false:=by simp [b95]
   by_cases b45:c=45#8
   case pos =>
    have d45:(c == 45#8)=true:=by simp [b45]
    have e:=acc (by rw [hn]; simp [a1,a2,a3,z,zi,zn,b46,d46,b95,d95,b45])
    simp (disch:=first|omega|simp<;>omega|fail) [-zA,-zB,-zC,-zD,-zE,z9lx,zcir,h,h',hc,a1,a2,a3,z,zi,zn,b46,d46,b95,d95,b45]
    exact ⟨i+1,z515 (by simp (disch:=first|omega|simp<;>omega|fail) [-zA,-zB,-zC,-zD,-zE,S610,zcir]) (by simp (disch:=first|omega|simp<;>omega|fail) [-zA,-zB,-zC,-zD,-zE,S610,zcir]),by omega,⟨by omega,e⟩⟩
   have d45:(c == 45#8)=false:=by simp [b45]
   have e:=rej (by rw [hn]; simp [a1,a2,a3,z,zi,zn,b46,d46,b95,d95,b45,d45])
   simp (disch:=first|omega|simp<;>omega|fail) [-zA,-zB,-zC,-zD,-zE,z9lx,zcir,h,h',hc,e,a1,a2,a3,z,zi,zn,b46,d46,b95,d95,b45,d45]
  by_cases a4:c≤57#8
  case neg =>
   by_cases z:i=0
   case pos =>
    subst z
    have hne:¬ s=[]:=fun q=>by rw [q] at h; simp at h
    have e:=rej (by rw [hn]; simp [a1,a2,a3,a4,hne])
    simp (disch:=first|omega|simp<;>omega|fail) [-zA,-zB,-zC,-zD,-zE,z9lx,zcir,h,h',hc,e,a1,a2,a3,a4,hne]
   have zi:(0:Int)<i:=by omega
   have zn:0<i:=by omega
   by_cases b46:c=46#8
   case pos =>
    have d46:(c == 46#8)=true:=by simp [b46]
    have e:=acc (by rw [hn]; simp [a1,a2,a3,a4,z,zi,zn,b46])
    simp (disch:=first|omega|simp<;>omega|fail) [-zA,-zB,-zC,-zD,-zE,z9lx,zcir,h,h',hc,a1,a2,a3,a4,z,zi,zn,b46]
    exact ⟨i+1,z515 (by simp (disch:=first|omega|simp<;>omega|fail) [-zA,-zB,-zC,-zD,-zE,S610,zcir]) (by simp (disch:=first|omega|simp<;>omega|fail) [-zA,-zB,-zC,-zD,-zE,S610,zcir]),by omega,⟨by omega,e⟩⟩
   have d46:(c == 46#8)=false:=by simp [b46]
   by_cases b95:c=95#8
   case pos =>
    have d95:(c == 95#8)=true:=by simp [b95]
    have e:=acc (by rw [hn]; simp [a1,a2,a3,a4,z,zi,zn,b46,d46,b95])
    simp (disch:=first|omega|simp<;>omega|fail) [-zA,-zB,-zC,-zD,-zE,z9lx,zcir,h,h',hc,a1,a2,a3,a4,z,zi,zn,b46,d46,b95]
    exact ⟨i+1,z515 (by simp (disch:=first|omega|simp<;>omega|fail) [-zA,-zB,-zC,-zD,-zE,S610,zcir]) (by simp (disch:=first|omega|simp<;>omega|fail) [-zA,-zB,-zC,-zD,-zE,S610,zcir]),by omega,⟨by omega,e⟩⟩
   have d95:(c == 95#8)=false:=by simp [b95]
   by_cases b45:c=45#8
   case pos =>
    have d45:(c == 45#8)=true:=by simp [b45]
    have e:=acc (by rw [hn]; simp [a1,a2,a3,a4,z,zi,zn,b46,d46,b95,d95,b45])
    simp (disch:=first|omega|simp<;>omega|fail) [-zA,-zB,-zC,-zD,-zE,z9lx,zcir,h,h',hc,a1,a2,a3,a4,z,zi,zn,b46,d46,b95,d95,b45]
    exact ⟨i+1,z515 (by simp (disch:=first|omega|simp<;>omega|fail) [-zA,-zB,-zC,-zD,-zE,S610,zcir]) (by simp (disch:=first|omega|simp<;>omega|fail) [-zA,-zB,-zC,-zD,-zE,S610,zcir]),by omega,⟨by omega,e⟩⟩
   have d45:(c == 45#8)=false:=by simp [b45]
   have e:=rej (by rw [hn]; simp [a1,a2,a3,a4,z,zi,zn,b46,d46,b95,d95,b45,d45])
   simp (disch:=first|omega|simp<;>omega|fail) [-zA,-zB,-zC,-zD,-zE,z9lx,zcir,h,h',hc,e,a1,a2,a3,a4,z,zi,zn,b46,d46,b95,d95,b45,d45]
  have e:=acc (by rw [hn]; simp [a1,a2,a3,a4])
  simp (disch:=first|omega|simp<;>omega|fail) [-zA,-zB,-zC,-zD,-zE,z9lx,zcir,h,h',hc,a1,a2,a3,a4]
  exact ⟨i+1,z515 (by simp (disch:=first|omega|simp<;>omega|fail) [-zA,-zB,-zC,-zD,-zE,S610,zcir]) (by simp (disch:=first|omega|simp<;>omega|fail) [-zA,-zB,-zC,-zD,-zE,S610,zcir]),by omega,⟨by omega,e⟩⟩
 have e:=acc (by rw [hn]; simp [a1,a2])
 simp (disch:=first|omega|simp<;>omega|fail) [-zA,-zB,-zC,-zD,-zE,z9lx,zcir,h,h',hc,a1,a2]
 exact ⟨i+1,z515 (by simp (disch:=first|omega|simp<;>omega|fail) [-zA,-zB,-zC,-zD,-zE,S610,zcir]) (by simp (disch:=first|omega|simp<;>omega|fail) [-zA,-zB,-zC,-zD,-zE,S610,zcir]),by omega,⟨by omega,e⟩⟩
end Go.Proofs.YtdnhbfmlklaldaaGreat
set_option linter.unusedSimpArgs false
set_option linter.unusedVariables false
namespace Go.Proofs.YtdnhbfmlklaldaaGreat
open Go Go.Am
theorem z301 (n a b:Int):Runs tbl0 a138 [.int .i64 n,.int .i64 a,.int .i64 b] (.bool (inB n a b)):=by
 refine ⟨?_⟩
 by_cases h0:a≤n
 ·by_cases h1:n≤b
  ·simp (disch:=first|omega|simp<;>omega|fail) [-zA,-zB,-zC,-zD,-zE,a138,h0,h1,inB]
  ·simp (disch:=first|omega|simp<;>omega|fail) [-zA,-zB,-zC,-zD,-zE,a138,h0,h1,inB]
 ·simp (disch:=first|omega|simp<;>omega|fail) [-zA,-zB,-zC,-zD,-zE,a138,h0,inB]
noncomputable def cPw:List DV→Option DV
 | [.int .i64 n,.int .i64 a,.int .i64 b]=>some (.bool (inB n a b))|_=>none
theorem zqrl {n a b:Int}:cPw [.int .i64 n,.int .i64 a,.int .i64 b]=some (.bool (inB n a b)):=rfl
theorem zztj:(Con.pure cPw).Sound P 138:=by
 intro args v e
 unfold cPw at e
 split at e
 ·simp at e; subst e; exact zljw mix zr5o Tryz.func138 zno0 (z301 _ _ _)
 ·simp at e
noncomputable def cNm:List DV→Option DV
 | [.str s]=>some (.bool (zt9v s))|_=>none
theorem zfw8 {s:Str}:cNm [.str s]=some (.bool (zt9v s)):=rfl
theorem zuz5:(Con.pure cNm).Sound P 139:=by
 intro args v e
 unfold cNm at e
 split at e
 ·simp at e; subst e; exact zljw mix zr5o Tryz.func139 zt91 (zrln _)
 ·simp at e
noncomputable def T610:Tbl:=addT 138 (.pure cPw) (addT 139 (.pure cNm) tbl0)
theorem z9sa:T610 138 = .pure cPw:=by simp [T610]
theorem zt36:T610 139 = .pure cNm:=by simp [T610]
theorem zwoj:T610.Sound P:=z0rp zztj (z0rp zuz5 zr5o)
theorem zhsm {a b:Req}:z32s (zi5g [(3,0),(1,1)]) (rqC a) (rqC b)=some (decide (a=b)):=zq6c
attribute [simp] zhsm
theorem z7ik {k:Int}:zvnk [.int .i64 0,.int .i64 0,.int .i64 0,.str []] [(0,1,.int .i64 k)]=some (.agg (rqC ⟨k,0,0,[]⟩)):=rfl
theorem zltg {h:List AObj} {id off:Nat} {v:DV} {l:List DV} (hc:v.cells=[v]) (ho:v.one=true) (hl:off<l.length):zy6o h id 1 off v (some l)=some (.junk,h.set id (.cells (zk7y l off [v]))):=by
 simp only [zy6o,hc,List.length_cons,List.length_nil,List.all_cons,List.all_nil,ho,Bool.and_self]
 first|done|rw [if_pos ⟨trivial,by omega,trivial⟩]
theorem z485 {h:List AObj} {id:Nat} {q:Req} {n:Int}:zy6o h id 1 1 (.int .i64 n) (some (rqC q))=some (.junk,h.set id (.cells (rqC { q with n:=n }))):=by rw [zltg rfl rfl (by rw [zzeg]; decide)]; rfl
theorem z60m {h:List AObj} {id:Nat} {q:Req} {n:Int}:zy6o h id 1 2 (.int .i64 n) (some (rqC q))=some (.junk,h.set id (.cells (rqC { q with m:=n }))):=by rw [zltg rfl rfl (by rw [zzeg]; decide)]; rfl
theorem zkma {h:List AObj} {id:Nat} {q:Req} {s:Str}:zy6o h id 1 3 (.str s) (some (rqC q))=some (.junk,h.set id (.cells (rqC { q with text:=s }))):=by rw [zltg rfl rfl (by rw [zzeg]; decide)]; rfl
theorem zwve (q:Req):Runs T610 a124 [.agg (rqC q)] (.bool (reqB q)):=by
 refine ⟨?_⟩
 obtain ⟨k,n,m,t⟩:=q
 have g0 : ∀ {x:Req} {k':Int},(({ x with n:=k' }:Req))=⟨x.kind,k',x.m,x.text⟩:=fun {x k'}=>rfl
 by_cases e1:k=1
 ·subst e1
  have hr:reqB ⟨1,n,m,t⟩=(inB n 1 32&&decide ((⟨1,n,m,t⟩:Req)=⟨1,n,0,[]⟩)):=by simp [reqB,Bool.and_assoc]
  cases hb:inB n 1 32<;>(rw [hb] at hr; simp (disch:=first|omega|simp<;>omega|fail) [-zA,-zB,-zC,-zD,-zE,a124,z9sa,zqrl,z7ik,z485,hb,hr])
 by_cases e3:k=3
 ·subst e3
  have hr:reqB ⟨3,n,m,t⟩=(inB n 1 32&&decide ((⟨3,n,m,t⟩:Req)=⟨3,n,0,[]⟩)):=by simp [reqB,Bool.and_assoc]
  cases hb:inB n 1 32<;>(rw [hb] at hr; simp (disch:=first|omega|simp<;>omega|fail) [-zA,-zB,-zC,-zD,-zE,a124,z9sa,zqrl,z7ik,z485,hb,hr])
 by_cases e5:k=5
 ·subst e5
  have hr:reqB ⟨5,n,m,t⟩=(inB n 1 32&&decide ((⟨5,n,m,t⟩:Req)=⟨5,n,0,[]⟩)):=by simp [reqB,Bool.and_assoc]
  cases hb:inB n 1 32<;>(rw [hb] at hr; simp (disch:=first|omega|simp<;>omega|fail) [-zA,-zB,-zC,-zD,-zE,a124,z9sa,zqrl,z7ik,z485,hb,hr])
 by_cases e4:k=4
 ·subst e4
  have hr:reqB ⟨4,n,m,t⟩=((inB n 1 32&&inB m 0 32)&&decide ((⟨4,n,m,t⟩:Req)=⟨4,n,m,[]⟩)):=by simp [reqB,Bool.and_assoc]
  cases hb:inB n 1 32<;>cases hc:inB m 0 32<;>(rw [hb,hc] at hr; simp (disch:=first|omega|simp<;>omega|fail) [-zA,-zB,-zC,-zD,-zE,a124,z9sa,zqrl,z7ik,z485,z60m,hb,hc,hr])
 by_cases e2:k=2
 ·subst e2
  have hr:reqB ⟨2,n,m,t⟩=(zt9v t&&decide ((⟨2,n,m,t⟩:Req)=⟨2,0,0,t⟩)):=by simp [reqB,Bool.and_assoc,Bool.and_comm,Bool.and_left_comm]
  cases hb:zt9v t<;>(rw [hb] at hr; simp (disch:=first|omega|simp<;>omega|fail) [-zA,-zB,-zC,-zD,-zE,a124,zt36,zfw8,z7ik,zkma,hb,hr])
 by_cases e6:k=6
 ·subst e6
  have hr:reqB ⟨6,n,m,t⟩=(inB n 1 10&&decide ((⟨6,n,m,t⟩:Req)=⟨6,n,0,[]⟩)):=by simp [reqB,Bool.and_assoc]
  cases hb:inB n 1 10<;>(rw [hb] at hr; simp (disch:=first|omega|simp<;>omega|fail) [-zA,-zB,-zC,-zD,-zE,a124,z9sa,zqrl,z7ik,z485,hb,hr])
 by_cases e7:k=7
 ·subst e7
  have hr:reqB ⟨7,n,m,t⟩=(inB n 0 1099511627776&&decide ((⟨7,n,m,t⟩:Req)=⟨7,n,0,[]⟩)):=by simp [reqB,Bool.and_assoc]
  cases hb:inB n 0 1099511627776<;>(rw [hb] at hr; simp (disch:=first|omega|simp<;>omega|fail) [-zA,-zB,-zC,-zD,-zE,a124,z9sa,zqrl,z7ik,z485,hb,hr])
 by_cases e8:k=8
 ·subst e8
  have hr:reqB ⟨8,n,m,t⟩=decide ((⟨8,n,m,t⟩:Req)=⟨8,0,0,[]⟩):=by simp [reqB,Bool.and_assoc]
  simp (disch:=first|omega|simp<;>omega|fail) [-zA,-zB,-zC,-zD,-zE,a124,z7ik,hr]
 ·have hr:reqB ⟨k,n,m,t⟩=false:=by simp [reqB,e1,e2,e3,e4,e5,e6,e7,e8]
  simp (disch:=first|omega|simp<;>omega|fail) [-zA,-zB,-zC,-zD,-zE,a124,z7ik,e1,e2,e3,e4,e5,e6,e7,e8,hr]
theorem zsw2 {a b:Req} (e:[DV.agg (rqC a)]=[DV.agg (rqC b)]):a=b:=by simp only [List.cons.injEq,DV.agg.injEq,and_true] at e; exact z82b e
noncomputable def cReq:List DV→Option DV:=con (fun _=>True) (fun q:Req=>[.agg (rqC q)]) (fun q => .bool (reqB q))
theorem zc86 {q:Req}:cReq [.agg (rqC q)]=some (.bool (reqB q)):=zsn4 (f:=fun q:Req=>[.agg (rqC q)]) (g:=fun q => .bool (reqB q)) (fun a b e=>zsw2 e) q
theorem zb66:(Con.pure cReq).Sound P 124:=z2au fun q _=>zljw mix zwoj Tryz.func124 ze8k (zwve q)
def ndC (q:Req):List DV := .int .i64 1 :: .int .i64 0 :: .int .i64 0::rqC q
theorem zwh7 (q:Req):(ndC q).length=7:=rfl
theorem zm3g (q:Req):zbao (ndC q)=true:=by simp [ndC,zbao,zyp8,zhqv]
theorem zhb5 {a b:Req} (e:ndC a=ndC b):a=b:=by simp only [ndC,List.cons.injEq,true_and] at e; exact z82b e
theorem zihi {q:Req}:oneC 1 false (ndC q)=some (.int .i64 1):=rfl
theorem z4ep {q:Req}:oneC 1 false ((ndC q).drop 1)=some (.int .i64 0):=rfl
theorem zh0n {q:Req}:oneC 1 false ((ndC q).drop 2)=some (.int .i64 0):=rfl
theorem z0f9 {q:Req}:oneC 4 true ((ndC q).drop 3)=some (.agg (rqC q)):=rfl
theorem zen2 {q:Req}:oneC 7 true (ndC q)=some (.agg (ndC q)):=rfl
theorem z5rk {q:Req}:(ndC q).all DV.one=true:=by simp only [ndC,List.all_cons,z30b,zzmf,Bool.and_self]
theorem za4u {x:Req} {h:List AObj} {id:Nat} {l:List DV} (hl:l.length=7):zy6o h id 7 0 (.agg (ndC x)) (some l)=some (.junk,h.set id (.cells (ndC x))):=zfc1 (zwh7 x) hl z5rk
attribute [simp] zm3g zihi z4ep zh0n z0f9 zen2 za4u
noncomputable def T611:Tbl:=addT 124 (.pure cReq) tbl0
theorem z8x4:T611 124 = .pure cReq:=by simp [T611]
theorem ztnw:T611.Sound P:=z0rp zb66 zr5o
theorem z07t (q:Req):Runs T611 a104 [.agg (ndC q)] (.bool (reqB q)):=by
 refine ⟨?_⟩
 have hl:=zwh7 q
 simp (disch:=first|omega|simp<;>omega|fail) [-zA,-zB,-zC,-zD,-zE,a104,z8x4,zc86,hl]
noncomputable def cNd (k:Nat):List DV→Option DV:=con (fun _=>True) (fun q:Req=>[.agg (ndC q)]) (fun q => .bool (reqB q))
theorem zhov {k:Nat} {q:Req}:cNd k [.agg (ndC q)]=some (.bool (reqB q)):=zsn4 (f:=fun q:Req=>[.agg (ndC q)]) (g:=fun q => .bool (reqB q)) (fun a b e=>by simp only [List.cons.injEq,DV.agg.injEq,and_true] at e; exact zhb5 e) q
noncomputable def T612:Tbl:=addT 104 (.pure (cNd 0)) tbl0
theorem zsh6:T612 104 = .pure (cNd 0):=by simp [T612]
theorem zgcm:T612.Sound P:=z0rp (z2au fun q _=>zljw mix ztnw Tryz.func104 z0mt (z07t q)) zr5o
structure TI where
 i:Nat
def S612 (q:Req) (i:Nat):St:=zeq8 (.int .i64 (1-(i:Int))) (.int .i64 i) (.sl true 7 1 (ndC q)) (.int .i64 1) (.int .i64 i) (if i=0 then [] else [.cells (ndC q)])
theorem zkc1 (q:Req):Runs T612 a64 [.sl true 7 1 (ndC q)] (.bool (reqB q)):=by
 refine ⟨?_⟩
 have hl:=zwh7 q
 have hd:(ndC q).take 7=ndC q:=rfl
 simp (disch:=first|omega|simp<;>omega|fail) [-zA,-zB,-zC,-zD,-zE,a64]
 refine zlm5 (S612 q) (fun i=>1-i) (fun i=>i=0∨(i=1∧reqB q=true)) 0 (z515 (by simp (disch:=first|omega|simp<;>omega|fail) [-zA,-zB,-zC,-zD,-zE,S612,zeq8]) (by simp (disch:=first|omega|simp<;>omega|fail) [-zA,-zB,-zC,-zD,-zE,S612,zeq8])) (.inl rfl) (fun i hi => ?_)
 rcases hi with rfl|⟨rfl,hq⟩
 ·simp only [S612]
  cases hq:reqB q with
  | false=>simp (disch:=first|omega|simp<;>omega|fail) [-zA,-zB,-zC,-zD,-zE,zscl,zeq8,zsh6,zhov,hq,hl,hd]
  | true =>
   simp (disch:=first|omega|simp<;>omega|fail) [-zA,-zB,-zC,-zD,-zE,zscl,zeq8,zsh6,zhov,hq,hl,hd]
   exact ⟨1,z515 (by simp (disch:=first|omega|simp<;>omega|fail) [-zA,-zB,-zC,-zD,-zE,S612,zeq8]) (by simp (disch:=first|omega|simp<;>omega|fail) [-zA,-zB,-zC,-zD,-zE,S612,zeq8]),by omega,.inr rfl⟩
 ·simp only [S612]
  simp (disch:=first|omega|simp<;>omega|fail) [-zA,-zB,-zC,-zD,-zE,zscl,zeq8,zsh6,zhov,hq,hl,hd]
noncomputable def cTr:List DV→Option DV:=con (fun _=>True) (fun q:Req=>[.sl true 7 1 (ndC q)]) (fun q => .bool (reqB q))
theorem zjnj {q:Req}:cTr [.sl true 7 1 (ndC q)]=some (.bool (reqB q)):=zsn4 (f:=fun q:Req=>[.sl true 7 1 (ndC q)]) (g:=fun q => .bool (reqB q)) (fun a b e=>by simp only [List.cons.injEq,DV.sl.injEq,and_true,true_and] at e; exact zhb5 e) q
noncomputable def T613:Tbl:=addT 64 (.pure cTr) tbl0
theorem zcgy:T613 64 = .pure cTr:=by simp [T613]
theorem z6km:T613.Sound P:=z0rp (z2au fun q _=>zljw mix zgcm Tryz.func64 zerh (zkc1 q)) zr5o
theorem ztir (q:Req):Runs T613 a41 [.agg (rqC q)] (.bool (reqB q)):=by
 refine ⟨?_⟩
 have e1:zvnk [.int .i64 0,.int .i64 0,.int .i64 0,.int .i64 0,.int .i64 0,.int .i64 0,.str []] [(0,1,.int .i64 1),(3,4,.agg (rqC q))]=some (.agg (ndC q)):=rfl
 have e2:bslD 7 1 [.int .i64 0,.int .i64 0,.int .i64 0,.int .i64 0,.int .i64 0,.int .i64 0,.str []] [(0,7,.agg (ndC q))]=some (.sl true 7 1 (ndC q)):=rfl
 simp (disch:=first|omega|simp<;>omega|fail) [-zA,-zB,-zC,-zD,-zE,a41,zcgy,zjnj,e1,e2]
theorem z8mz:(Con.pure cReq).Sound P 41:=z2au fun q _=>zljw mix z6km Tryz.func41 z5y8 (ztir q)
end Go.Proofs.YtdnhbfmlklaldaaGreat
set_option linter.unusedSimpArgs false
set_option linter.unusedVariables false
namespace Go.Proofs.YtdnhbfmlklaldaaGreat
open Go Go.Am
noncomputable def T620:Tbl:=addT 106 (.pure ztk6) (addT 107 (.pure zzr5) (addT 112 (.pure cCat) tbl0))
theorem zlfr:T620 106 = .pure ztk6:=by simp [T620]
theorem z4uj:T620 107 = .pure zzr5:=by simp [T620]
theorem zy9c:T620 112 = .pure cCat:=by simp [T620]
theorem zpfw:T620.Sound P:=z0rp z38w (z0rp ztbv (z0rp ztpx zr5o))
def InOK (l:List Fct) (y:List Dg):Prop := ∀ f ∈ l,f.docs.l.length+y.length≤1000000
theorem z049 (x:Sl Fct) (n:Int) (y:Sl Dg) (ok:InOK x.l y.l):Runs T620 a74 [x.dv 71 faC,.int .i64 n,y.dv 32 dgC] (.agg (suC (zpu0 x.l n y.l))):=by
 refine ⟨?_⟩
 cases e:x.l with
 | nil =>
  have e0:x.l.length=0:=by rw [e]; rfl
  have hs:zpu0 [] n y.l=zcc9 1:=rfl
  simp (disch:=first|omega|simp<;>omega|fail) [-zA,-zB,-zC,-zD,-zE,a74,e0,e,zlfr,zg94,hs]
 | cons f r =>
  have e0:¬ x.l=[]:=by rw [e]; simp
  have e1:¬ x.l.length=0:=by rw [e]; simp
  have hg : ∀ H,zpsc H 71 (x.dv 71 faC) 0=some (.ref (faC f)):=fun H=>by
   have:=zalo (h:=H) (x:=x) (i:=0) zs77 (by rw [e]; simp)
   rw [show ((0:Nat):Int)=0 from rfl] at this
   rw [this]; simp [e]
  have hf:=ok f (by rw [e]; simp)
  by_cases h:0<n
  ·have hs:zpu0 (f::r) n y.l=zcc9 n:=by simp only [zpu0]; rw [if_pos h]
   simp (disch:=first|omega|simp<;>omega|fail) [-zA,-zB,-zC,-zD,-zE,a74,e0,e1,h,zlfr,zg94,hs]
  ·have hs:zpu0 (f::r) n y.l=zp7s (ownN (f.docs.l++y.l)):=by simp only [zpu0]; rw [if_neg h]
   have c1:=zf44 (x:=f.docs) (y:=y) (by omega)
   have c2:=zk0w (x:=ownN (f.docs.l++y.l)) (by rw [zd8n (by rw [List.length_append]; omega),List.length_append]; omega)
   simp (disch:=first|omega|simp<;>omega|fail) [-zA,-zB,-zC,-zD,-zE,a74,e0,e1,h,hg,zy9c,z4uj,c1,c2,hs]
noncomputable def zy0t:List DV→Option DV:=con (fun a:Sl Fct × Int × Sl Dg=>InOK a.1.l a.2.2.l) (fun a=>[a.1.dv 71 faC,.int .i64 a.2.1,a.2.2.dv 32 dgC]) (fun a => .agg (suC (zpu0 a.1.l a.2.1 a.2.2.l)))
theorem z19c {x:Sl Fct} {n:Int} {y:Sl Dg} (h:InOK x.l y.l):zy0t [x.dv 71 faC,.int .i64 n,y.dv 32 dgC]=some (.agg (suC (zpu0 x.l n y.l))) :=
 zlyi (A:=fun a:Sl Fct × Int × Sl Dg=>InOK a.1.l a.2.2.l) (f:=fun a:Sl Fct × Int × Sl Dg=>[a.1.dv 71 faC,.int .i64 a.2.1,a.2.2.dv 32 dgC]) (g:=fun a => .agg (suC (zpu0 a.1.l a.2.1 a.2.2.l))) (by
  rintro ⟨a,b,c⟩ ⟨a',b',c'⟩ e
  simp only [List.cons.injEq,DV.int.injEq,and_true,true_and] at e
  rw [z4rf e.1,e.2.1,z42k e.2.2]) (x,n,y) h
theorem zwv1:(Con.pure zy0t).Sound P 74:=z2au fun a h=>zljw mix zpfw Tryz.func74 z26r (z049 a.1 a.2.1 a.2.2 h)
noncomputable def T621:Tbl:=addT 106 (.pure ztk6) (addT 110 (.pure zp5o) (addT 68 (.pure cFct) (addT 69 (.pure cEn) tbl0)))
theorem zjnr:T621 106 = .pure ztk6:=by simp [T621]
theorem z94s:T621 110 = .pure zp5o:=by simp [T621]
theorem z4sv:T621 68 = .pure cFct:=by simp [T621]
theorem zp93:T621 69 = .pure cEn:=by simp [T621]
theorem z6io:T621.Sound P:=z0rp z38w (z0rp zce9 (z0rp zbp8 (z0rp zm5m zr5o)))
theorem z1oj {K:Nat→Bool} {h:List AObj} {x:Sl Fct}:mk1 K h (x.dv 71 faC)=x.dv 71 faC:=zvft (zxxb z93p x)
theorem zutw {K:Nat→Bool} {h:List AObj} {x:Sl Fnd}:mk1 K h (x.dv 39 fnC)=x.dv 39 fnC:=zvft (zxxb zl9f x)
theorem z6c5 {K:Nat→Bool} {h:List AObj} {x:Sl Dg}:mk1 K h (x.dv 32 dgC)=x.dv 32 dgC:=zvft (zxxb z3ot x)
theorem z5en {K:Nat→Bool} {h:List AObj} {x:Sl Str}:mk1 K h (x.dv 1 stC)=x.dv 1 stC:=zvft (zxxb zds6 x)
attribute [simp] z1oj zutw z6c5 z5en
def su0:List DV:=[.bool false,.nils,.int .i64 0]
theorem zige:su0.length=3:=by simp [su0]
theorem zl8c:zbao su0=true:=by simp [su0,zbao,zyp8]
attribute [simp] zige zl8c zxm8 z93p zl9f ztvh zhqv zkih
def lV (l:List Dg):DV:=if l=[] then .nils else .ms 2 (l.length*32) 0 32 l.length (l.length*32)
def lH (o:AObj) (l:List Dg):List AObj := .cells su0::(if l=[] then [] else [o,.cells (fl dgC l)])
theorem zi7d {l:List Dg} (h:l≠[]):lV l = .ms 2 (l.length*32) 0 32 l.length (l.length*32):=if_neg h
theorem ziqb {o:AObj} {l:List Dg} (h:l≠[]):lH o l=[.cells su0,o,.cells (fl dgC l)]:=by rw [lH,if_neg h]
def tgS (l:List Fct):List Dg:=l.map (·.tgt)
def S620 (x:Sl Fct) (n:Int) (a:FP):St:=ziva (x.dv 71 faC) (.int .i64 n) (.mp 0 3 0) (lV (tgS (x.l.take a.i))) (x.dv 71 faC) (.int .i64 x.l.length) (.int .i64 a.i) (lH (.cells (faC a.o)) (tgS (x.l.take a.i)))
structure ListOK (l:List Fct) (n:Int):Prop where
 k:l.length≤1000
 e : ∀ d,EnOK (zskr l 5 (.target d)) n
 n0:0≤n
structure LM where
 i:Nat
 m:Int
def S621 (x:Sl Fct) (n:Int) (Y:Sl Dg) (pre:List AObj) (a:LM):St:=zx7a (x.dv 71 faC) (.int .i64 n) (.mp 0 3 0) (.mp (pre.length+1) 3 0) (Y.dv 32 dgC) (.int .i64 Y.l.length) (.int .i64 a.i) (.cells su0::pre++[.cells (suC (zcc9 a.m))])
theorem zvov {h:List AObj} {id:Nat} {m v:Int}:zy6o h id 1 2 (.int .i64 v) (some (suC (zcc9 m)))=some (.junk,h.set id (.cells (suC (zcc9 v)))):=by rw [zltg rfl rfl (by rw [z16g]; decide)]; rfl
theorem zgr9 (x:Sl Fct) (n:Int) (ok:ListOK x.l n):V P 0 a73.code (retK a73.res (.agg (suC (zf55 x.l n)))) ⟨zr5g a73.ntmps [x.dv 71 faC,.int .i64 n],[]⟩:=by
 have hk:=ok.k
 have hb:=x.b
 obtain ⟨R,hR⟩ : ∃ R,zf55 x.l n=R:=⟨_,rfl⟩
 have htl:(tgS x.l).length=x.l.length:=by simp [tgS]
 rw [hR]
 refine zbn1 (V_W mix z6io ?_)
 simp (disch:=first|omega|simp<;>omega|fail) [-zA,-zB,-zC,-zD,-zE,a73]
 refine zbn1 (V_W mix z6io ?_)
 simp (disch:=first|omega|simp<;>omega|fail) [-zA,-zB,-zC,-zD,-zE]
 refine zbn1 (V_W mix z6io ?_)
 simp (disch:=first|omega|simp<;>omega|fail) [-zA,-zB,-zC,-zD,-zE]
 refine zlm5 (S620 x n) (fun a=>x.l.length-a.i) (fun a=>a.i≤x.l.length) ⟨0,fct0⟩ (z515 (by simp (disch:=first|omega|simp<;>omega|fail) [-zA,-zB,-zC,-zD,-zE,S620,ziva,tgS,lV]) (by simp (disch:=first|omega|simp<;>omega|fail) [-zA,-zB,-zC,-zD,-zE,S620,ziva,tgS,lH,su0])) (by simp) (fun a hi => ?_)
 obtain ⟨i,o⟩:=a
 simp only at hi
 simp only [S620]
 by_cases h:i<x.l.length
 ·have h':(i:Int)<x.l.length:=by omega
  have hg : ∀ H,zpsc H 71 (x.dv 71 faC) i=some (.ref (faC x.l[i])):=fun H=>zalo zs77 h
  have hs:tgS (x.l.take (i+1))=tgS (x.l.take i)++[x.l[i].tgt]:=by rw [List.take_succ_eq_append_getElem h,tgS,List.map_append]; rfl
  have hlen:(tgS (x.l.take i)).length≤i:=by simp [tgS]; omega
  obtain ⟨F,hF⟩ : ∃ F,x.l[i]=F:=⟨_,rfl⟩
  rw [hF] at hg hs
  obtain ⟨L,hL⟩ : ∃ L,tgS (x.l.take i)=L:=⟨_,rfl⟩
  rw [hL] at hs hlen ⊢
  by_cases e:L=[]
  ·subst e
   rw [List.nil_append] at hs
   have hap:=zsuq (h:=[AObj.cells su0,.cells (faC F)]) (s:=32) (b:=32) (m:=1) (cs:=dgC F.tgt) (by decide) (by decide) (by rw [z1t1]) (by decide) (by decide)
   simp only [z1t1,List.length_cons,List.length_nil] at hap
   have q1:lV [] = .nils:=rfl
   have q2:lH (.cells (faC o)) []=[.cells su0]:=rfl
   simp (disch:=first|omega|simp<;>omega|fail) [-zA,-zB,-zC,-zD,-zE,zqxw,ziva,h,h',hg,q1,q2,hap]
   have e1:lV [F.tgt] = .ms 2 32 0 32 1 32:=rfl
   have e2:lH (.cells (faC F)) [F.tgt]=[.cells su0,.cells (faC F),.cells (dgC F.tgt)]:=by rw [ziqb (by simp),z4hs]
   exact ⟨⟨i+1,F⟩,z515 (by simp (disch:=first|omega|simp<;>omega|fail) [-zA,-zB,-zC,-zD,-zE,S620,ziva,hs,e1]) (by simp (disch:=first|omega|simp<;>omega|fail) [-zA,-zB,-zC,-zD,-zE,S620,ziva,hs,e2]),by simp only; omega,by simp only; omega⟩
  ·have hap:=zkg3 (h:=[AObj.cells su0,.cells (faC o),.cells (fl dgC L),.cells (faC F)]) (id:=2) (b:=32) (l:=L) (x:=F.tgt) z1t1 (by decide) (by decide) (fun _=>zoxk) (by omega) (by simp [objV,ziu0,z8lx z1t1])
   have q1:=zi7d e
   have q2:=ziqb (o := .cells (faC o)) e
   simp (disch:=first|omega|simp<;>omega|fail) [-zA,-zB,-zC,-zD,-zE,zqxw,ziva,h,h',hg,q1,q2,hap]
   have e0:L++[F.tgt]≠[]:=by simp
   have e1:=zi7d e0
   have e2:=ziqb (o := .cells (faC o)) e0
   rw [List.length_append,List.length_singleton] at e1
   exact ⟨⟨i+1,o⟩,zju2 (tail:=[.cells (faC F)]) (by simp (disch:=first|omega|simp<;>omega|fail) [-zA,-zB,-zC,-zD,-zE,S620,ziva,hs,e1]) (by simp (disch:=first|omega|simp<;>omega|fail) [-zA,-zB,-zC,-zD,-zE,S620,ziva,hs,e2]) (by simp) (by simp (disch:=first|omega|simp<;>omega|fail) [-zA,-zB,-zC,-zD,-zE,S620,ziva,hs,e1,e2,z1r6,Am.below]) (by simp (disch:=first|omega|simp<;>omega|fail) [-zA,-zB,-zC,-zD,-zE,S620,ziva,hs,e2,zlf2,z1r6,Am.below,su0,fl,zmq5 _ _ (zg0c (zp6k z3ot _) (z3ot _)),zmq5 _ _ (zp6k z3ot _)]),by simp only; omega,by simp only; omega⟩
 have h':¬ (i:Int)<x.l.length:=by omega
 have ht:x.l.take i=x.l:=List.take_of_length_le (by omega)
 rw [ht]
 have hY0:(ownN (tgS x.l)).l=tgS x.l:=zd8n (by omega)
 have c0:=zoh6 (x:=ownN (tgS x.l)) (by rw [hY0]; omega)
 obtain ⟨Y,hY⟩ : ∃ Y,zln3 (ownN (tgS x.l))=Y:=⟨_,rfl⟩
 have hul:=zsv6 (lt:=dgLt) (tgS x.l)
 have hYl:Y.l=dgsU (tgS x.l):=by
  rw [← hY]
  unfold zln3
  rw [hY0]
  split
  ·rename_i e; rw [show (ownN (tgS x.l)).clone.l=(ownN (tgS x.l)).l from rfl,hY0,e]; rfl
  ·rw [z3e9 (by unfold dgsU; omega)]
 rw [hY] at c0
 have hR:zdgi x.l n Y.l n=R:=by rw [← hR,hYl]; rfl
 have hYb:Y.l.length≤1000:=by rw [hYl]; unfold dgsU; omega
 have hp:=zp6k z3ot (tgS x.l)
 by_cases e:tgS x.l=[]
 ·have q1:lV (tgS x.l) = .nils:=by rw [e]; rfl
  have q2:lH (.cells (faC o)) (tgS x.l)=[.cells su0]:=by rw [e]; rfl
  have q3:(ownN (tgS x.l)).dv 32 dgC = .nils:=by rw [e]; rfl
  have q4:=q3
  rw [q3] at c0
  simp (disch:=first|omega|simp<;>omega|fail) [-zA,-zB,-zC,-zD,-zE,zqxw,ziva,h,h',q1,q2]
  refine zbn1 (V_W mix z6io ?_)
  simp (disch:=first|omega|simp<;>omega|fail) [-zA,-zB,-zC,-zD,-zE,q1,q2,zjnr,zg94]
  refine zbn1 ?_

  refine zbn1 (V_W mix z6io ?_)
  simp (disch:=first|omega|simp<;>omega|fail) [-zA,-zB,-zC,-zD,-zE,q1,q2,q4,hp,z94s,c0]
  refine z3mo (ztbr (S621 x n Y []) (fun a=>Y.l.length-a.i) (fun a=>a.i≤Y.l.length∧zdgi x.l n (Y.l.drop a.i) a.m=R) ⟨0,n⟩ (z515 (by simp (disch:=first|omega|simp<;>omega|fail) [-zA,-zB,-zC,-zD,-zE,S621,zx7a]) (by simp (disch:=first|omega|simp<;>omega|fail) [-zA,-zB,-zC,-zD,-zE,S621,zx7a])) ⟨by simp,by simpa using hR⟩ (fun a hi => ?_))
  obtain ⟨j,m⟩:=a
  obtain ⟨hj,hR⟩:=hi
  simp only at hj hR
  simp only [S621]
  by_cases h:j<Y.l.length
  ·have h':(j:Int)<Y.l.length:=by omega
   have hg : ∀ H,zpsc H 32 (Y.dv 32 dgC) j=some (.ref (dgC Y.l[j])):=fun H=>zalo z1t1 h
   obtain ⟨d,hd⟩ : ∃ d,Y.l[j]=d:=⟨_,rfl⟩
   rw [List.drop_eq_getElem_cons h,hd] at hR
   rw [hd] at hg
   have c1:cFct [x.dv 71 faC,.int .i64 5,.fn (.func 111) [] [.ref (dgC d)]]=_:=zek8 (x:=x) (k:=5) (s := .target d)
   have hfl:=zjru (l:=x.l) (k:=5) (s := .target d)
   have hfe:(ownN (zskr x.l 5 (.target d))).l=zskr x.l 5 (.target d):=zd8n (by omega)
   have c2:=zo6r (x:=ownN (zskr x.l 5 (.target d))) (n:=n) (by rw [hfe]; exact ok.e d)
   rw [hfe] at c2
   obtain ⟨e,he⟩ : ∃ e,zfyl (zskr x.l 5 (.target d)) n=e:=⟨_,rfl⟩
   unfold zdgi at hR
   rw [he] at hR c2
   refine zbn1 (V_W mix z6io ?_)
   simp (disch:=first|omega|simp<;>omega|fail) [-zA,-zB,-zC,-zD,-zE,zcf7,zx7a,h,h',hg]
   refine zbn1 (V_W mix z6io ?_)
   simp (disch:=first|omega|simp<;>omega|fail) [-zA,-zB,-zC,-zD,-zE]
   refine zbn1 (z3mo (zbn1 (V_W mix z6io ?_)))
   simp (disch:=first|omega|simp<;>omega|fail) [-zA,-zB,-zC,-zD,-zE,hg]
   refine V_mk (fun id=>decide (id≤1)) ?_
   simp (disch:=first|omega|simp<;>omega|fail) [-zA,-zB,-zC,-zD,-zE]
   refine V_W mix z6io ?_
   cases hh:e.holds with
   | true =>
    rw [if_pos hh] at hR
    subst hR
    simp (disch:=first|omega|simp<;>omega|fail) [-zA,-zB,-zC,-zD,-zE,z4sv,zp93,c1,c2,hh]
   | false =>
    rw [if_neg (by rw [hh]; simp)] at hR
    simp (disch:=first|omega|simp<;>omega|fail) [-zA,-zB,-zC,-zD,-zE,z4sv,zp93,c1,c2,hh,zvov]
    refine V_W mix z6io ?_
    simp (disch:=first|omega|simp<;>omega|fail) [-zA,-zB,-zC,-zD,-zE]
    exact ⟨⟨j+1,min m e.missing⟩,zju2 (tail:=[.dead,.cells (suC e)]) (by simp (disch:=first|omega|simp<;>omega|fail) [-zA,-zB,-zC,-zD,-zE,S621,zx7a]) (by simp (disch:=first|omega|simp<;>omega|fail) [-zA,-zB,-zC,-zD,-zE,S621,zx7a,zcc9]) (by simp) (by simp (disch:=first|omega|simp<;>omega|fail) [-zA,-zB,-zC,-zD,-zE,S621,zx7a,z1r6,Am.below]) (by simp (disch:=first|omega|simp<;>omega|fail) [-zA,-zB,-zC,-zD,-zE,S621,zx7a,zlf2,z1r6,Am.below,su0,zoxk,zmq5 _ _ (zp6k z3ot _),fl]),by simp only; omega,by simp only; omega,hR⟩
  ·have h':¬ (j:Int)<Y.l.length:=by omega
   rw [List.drop_of_length_le (by omega)] at hR
   have hR:zcc9 m=R:=hR
   refine zbn1 (V_W mix z6io ?_)
   simp (disch:=first|omega|simp<;>omega|fail) [-zA,-zB,-zC,-zD,-zE,zcf7,zx7a,h,h']
   refine zbn1 (V_W mix z6io ?_)
   simp (disch:=first|omega|simp<;>omega|fail) [-zA,-zB,-zC,-zD,-zE]
   refine V_W mix z6io ?_
   simp (disch:=first|omega|simp<;>omega|fail) [-zA,-zB,-zC,-zD,-zE,hR]

 ·have q1:=zi7d e
  have q2:=ziqb (o := .cells (faC o)) e
  have q4:=hk
  have q3:(ownN (tgS x.l)).dv 32 dgC = .sl false 32 (tgS x.l).length ((tgS x.l).flatMap dgC):=zgr3 e (by omega)
  rw [q3] at c0
  have hp:=zp6k z3ot (tgS x.l)
  have hl:=z1rq z1t1 (tgS x.l)
  have htk:((tgS x.l).flatMap dgC).take ((tgS x.l).length*32)=(tgS x.l).flatMap dgC:=List.take_of_length_le (by omega)
  have hsn : ∀ H j,z4tt H j ((tgS x.l).flatMap dgC)=some ((tgS x.l).flatMap dgC):=fun H j=>z619 hp
  simp (disch:=first|omega|simp<;>omega|fail) [-zA,-zB,-zC,-zD,-zE,zqxw,ziva,h,h',q1,q2]
  refine zbn1 (V_W mix z6io ?_)
  simp (disch:=first|omega|simp<;>omega|fail) [-zA,-zB,-zC,-zD,-zE,q1,q2,zjnr,zg94]
  refine V_mk (fun id=>decide (id=0∨id=3)) ?_
  simp (disch:=first|omega|simp<;>omega|fail) [-zA,-zB,-zC,-zD,-zE,fl,hl,htk,hp]
  refine zbn1 ?_

  refine zbn1 (V_W mix z6io ?_)
  simp (disch:=first|omega|simp<;>omega|fail) [-zA,-zB,-zC,-zD,-zE,q1,q2,q4,hp,z94s,c0]
  refine z3mo (ztbr (S621 x n Y [.dead,.dead]) (fun a=>Y.l.length-a.i) (fun a=>a.i≤Y.l.length∧zdgi x.l n (Y.l.drop a.i) a.m=R) ⟨0,n⟩ (z515 (by simp (disch:=first|omega|simp<;>omega|fail) [-zA,-zB,-zC,-zD,-zE,S621,zx7a]) (by simp (disch:=first|omega|simp<;>omega|fail) [-zA,-zB,-zC,-zD,-zE,S621,zx7a])) ⟨by simp,by simpa using hR⟩ (fun a hi => ?_))
  obtain ⟨j,m⟩:=a
  obtain ⟨hj,hR⟩:=hi
  simp only at hj hR
  simp only [S621]
  by_cases h:j<Y.l.length
  ·have h':(j:Int)<Y.l.length:=by omega
   have hg : ∀ H,zpsc H 32 (Y.dv 32 dgC) j=some (.ref (dgC Y.l[j])):=fun H=>zalo z1t1 h
   obtain ⟨d,hd⟩ : ∃ d,Y.l[j]=d:=⟨_,rfl⟩
   rw [List.drop_eq_getElem_cons h,hd] at hR
   rw [hd] at hg
   have c1:cFct [x.dv 71 faC,.int .i64 5,.fn (.func 111) [] [.ref (dgC d)]]=_:=zek8 (x:=x) (k:=5) (s := .target d)
   have hfl:=zjru (l:=x.l) (k:=5) (s := .target d)
   have hfe:(ownN (zskr x.l 5 (.target d))).l=zskr x.l 5 (.target d):=zd8n (by omega)
   have c2:=zo6r (x:=ownN (zskr x.l 5 (.target d))) (n:=n) (by rw [hfe]; exact ok.e d)
   rw [hfe] at c2
   obtain ⟨e,he⟩ : ∃ e,zfyl (zskr x.l 5 (.target d)) n=e:=⟨_,rfl⟩
   unfold zdgi at hR
   rw [he] at hR c2
   refine zbn1 (V_W mix z6io ?_)
   simp (disch:=first|omega|simp<;>omega|fail) [-zA,-zB,-zC,-zD,-zE,zcf7,zx7a,h,h',hg]
   refine zbn1 (V_W mix z6io ?_)
   simp (disch:=first|omega|simp<;>omega|fail) [-zA,-zB,-zC,-zD,-zE]
   refine zbn1 (z3mo (zbn1 (V_W mix z6io ?_)))
   simp (disch:=first|omega|simp<;>omega|fail) [-zA,-zB,-zC,-zD,-zE,hg]
   refine V_mk (fun id=>decide (id≤3)) ?_
   simp (disch:=first|omega|simp<;>omega|fail) [-zA,-zB,-zC,-zD,-zE]
   refine V_W mix z6io ?_
   cases hh:e.holds with
   | true =>
    rw [if_pos hh] at hR
    subst hR
    simp (disch:=first|omega|simp<;>omega|fail) [-zA,-zB,-zC,-zD,-zE,z4sv,zp93,c1,c2,hh]
   | false =>
    rw [if_neg (by rw [hh]; simp)] at hR
    simp (disch:=first|omega|simp<;>omega|fail) [-zA,-zB,-zC,-zD,-zE,z4sv,zp93,c1,c2,hh,zvov]
    refine V_W mix z6io ?_
    simp (disch:=first|omega|simp<;>omega|fail) [-zA,-zB,-zC,-zD,-zE]
    exact ⟨⟨j+1,min m e.missing⟩,zju2 (tail:=[.dead,.cells (suC e)]) (by simp (disch:=first|omega|simp<;>omega|fail) [-zA,-zB,-zC,-zD,-zE,S621,zx7a]) (by simp (disch:=first|omega|simp<;>omega|fail) [-zA,-zB,-zC,-zD,-zE,S621,zx7a,zcc9]) (by simp) (by simp (disch:=first|omega|simp<;>omega|fail) [-zA,-zB,-zC,-zD,-zE,S621,zx7a,z1r6,Am.below]) (by simp (disch:=first|omega|simp<;>omega|fail) [-zA,-zB,-zC,-zD,-zE,S621,zx7a,zlf2,z1r6,Am.below,su0,zoxk,zmq5 _ _ (zp6k z3ot _),fl]),by simp only; omega,by simp only; omega,hR⟩
  ·have h':¬ (j:Int)<Y.l.length:=by omega
   rw [List.drop_of_length_le (by omega)] at hR
   have hR:zcc9 m=R:=hR
   refine zbn1 (V_W mix z6io ?_)
   simp (disch:=first|omega|simp<;>omega|fail) [-zA,-zB,-zC,-zD,-zE,zcf7,zx7a,h,h']
   refine zbn1 (V_W mix z6io ?_)
   simp (disch:=first|omega|simp<;>omega|fail) [-zA,-zB,-zC,-zD,-zE]
   refine V_W mix z6io ?_
   simp (disch:=first|omega|simp<;>omega|fail) [-zA,-zB,-zC,-zD,-zE,hR]
noncomputable def zw0f:List DV→Option DV:=con (fun a:Sl Fct × Int=>ListOK a.1.l a.2) (fun a=>[a.1.dv 71 faC,.int .i64 a.2]) (fun a => .agg (suC (zf55 a.1.l a.2)))
theorem zu10 {x:Sl Fct} {n:Int} (h:ListOK x.l n):zw0f [x.dv 71 faC,.int .i64 n]=some (.agg (suC (zf55 x.l n))) :=
 zlyi (A:=fun a:Sl Fct × Int=>ListOK a.1.l a.2) (f:=fun a:Sl Fct × Int=>[a.1.dv 71 faC,.int .i64 a.2]) (g:=fun a => .agg (suC (zf55 a.1.l a.2))) (by
  rintro ⟨a,b⟩ ⟨c,d⟩ e
  simp only [List.cons.injEq,DV.int.injEq,and_true,true_and] at e
  rw [z4rf e.1,e.2]) (x,n) h
theorem ze60:(Con.pure zw0f).Sound P 73:=z2au fun a h=>znz9 Tryz.func73 zn06 (zgr9 a.1 a.2 h)
end Go.Proofs.YtdnhbfmlklaldaaGreat
