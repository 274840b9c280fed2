/-
  7 texts of mine in one.
-/
import Derived.Test.YtjknipdiglpnlaaGreatDoorCb4aa5538
import Derived.Test.YtjknipdiglpnlaaGreatDoorC7567e9ca
import Derived.Test.YtjknipdiglpnlaaGreatDoorC4caf267d
import Derived.Test.YtjknipdiglpnlaaGreatDoorC713d6067
import Derived.Test.YtjknipdiglpnlaaGreatDoorCf8ffbf03
import Derived.Test.YtjknipdiglpnlaaGreatDoorCc5576c6e
set_option maxRecDepth 20000
set_option maxHeartbeats 4000000
open List renaming map_take → zA, map_drop → zB, map_set → zC, map_append → zD, drop_one → zE
set_option linter.unusedSimpArgs false
set_option linter.unusedVariables false
set_option maxRecDepth 8000
namespace Go.Proofs.YtjknipdiglpnlaaGreatDoor
open Go Go.Am
def zwkt (x y:Sl Str) (i:Nat):St:=zfgh (x.dv 1 stC) (y.dv 1 stC) (.int .i64 i) []
theorem zy51 (x y:Sl Str):Runs tbl0 a20 [x.dv 1 stC,y.dv 1 stC] (.bool (decide (x.l=y.l))):=by
 refine ⟨?_⟩
 have hb:=x.b
 have hlx : ∀ H,lenD H (x.dv 1 stC)=some (.int .i64 x.l.length):=fun H=>zupj
 have hly : ∀ H,lenD H (y.dv 1 stC)=some (.int .i64 y.l.length):=fun H=>zupj
 by_cases hl:x.l.length=y.l.length
 case neg =>
  have hl':¬ (x.l.length:Int)=y.l.length:=by omega
  have hr:¬ x.l=y.l:=fun e=>hl (by rw [e])
  simp (disch:=first|omega|simp<;>omega|fail) [-zA,-zB,-zC,-zD,-zE,a20,hlx,hly,hl,hl',hr]
 have hl':(x.l.length:Int)=y.l.length:=by omega
 rw [← hl] at hly
 simp (disch:=first|omega|simp<;>omega|fail) [-zA,-zB,-zC,-zD,-zE,a20,hlx,hly]
 refine zlm5 (zwkt x y) (fun i=>x.l.length-i) (fun i=>i≤x.l.length ∧ ∀ j (h1:j<x.l.length) (h2:j<y.l.length),j<i→x.l[j]=y.l[j]) 0 (z515 (by simp (disch:=first|omega|simp<;>omega|fail) [-zA,-zB,-zC,-zD,-zE,zwkt,zfgh]) (by simp (disch:=first|omega|simp<;>omega|fail) [-zA,-zB,-zC,-zD,-zE,zwkt,zfgh])) ⟨by omega,fun j _ _ hj=>by omega⟩ (fun i hi => ?_)
 obtain ⟨q1,q2⟩:=hi
 simp only [zwkt]
 by_cases g:i<x.l.length
 case neg =>
  have g':¬ (i:Int)<x.l.length:=by omega
  have hr:x.l=y.l:=List.ext_getElem hl fun j h1 h2=>q2 j h1 h2 (by omega)
  have hd:decide (x.l=y.l)=true:=decide_eq_true hr
  clear hr
  rw [hd]
  simp (disch:=first|omega|simp<;>omega|fail) [-zA,-zB,-zC,-zD,-zE,zy4c,zfgh,hlx,g,g']
 have g':(i:Int)<x.l.length:=by omega
 have gy:i<y.l.length:=by omega
 have hx : ∀ H,zpsc H 1 (x.dv 1 stC) i=some (.ref (stC x.l[i])):=fun H=>zalo zqv6 g
 have hy : ∀ H,zpsc H 1 (y.dv 1 stC) i=some (.ref (stC y.l[i])):=fun H=>zalo zqv6 gy
 by_cases e:x.l[i]=y.l[i]
 ·have hinv : ∀ j (h1:j<x.l.length) (h2:j<y.l.length),j<i+1→x.l[j]=y.l[j]:=fun j h1 h2 hj=>by
   by_cases ej:j=i
   ·subst ej; exact e
   ·exact q2 j h1 h2 (by omega)
  obtain ⟨u,hu⟩ : ∃ u,x.l[i]=u:=⟨_,rfl⟩
  obtain ⟨v,hv⟩ : ∃ v,y.l[i]=v:=⟨_,rfl⟩
  rw [hu] at hx e
  rw [hv] at hy e
  simp (disch:=first|omega|simp<;>omega|fail) [-zA,-zB,-zC,-zD,-zE,zy4c,zfgh,hlx,g,g',hx,hy,e,stC]
  exact ⟨i+1,z515 (by simp (disch:=first|omega|simp<;>omega|fail) [-zA,-zB,-zC,-zD,-zE,zwkt,zfgh]) (by simp (disch:=first|omega|simp<;>omega|fail) [-zA,-zB,-zC,-zD,-zE,zwkt,zfgh]),by omega,by omega,hinv⟩
 ·have hr:¬ x.l=y.l:=fun q=>e (by simp [q])
  obtain ⟨u,hu⟩ : ∃ u,x.l[i]=u:=⟨_,rfl⟩
  obtain ⟨v,hv⟩ : ∃ v,y.l[i]=v:=⟨_,rfl⟩
  rw [hu] at hx e
  rw [hv] at hy e
  simp (disch:=first|omega|simp<;>omega|fail) [-zA,-zB,-zC,-zD,-zE,zy4c,zfgh,hlx,g,g',hx,hy,e,stC,hr]
noncomputable def cSa2:List DV→Option DV:=con (fun _=>True) (fun a:Sl Str × Sl Str=>[a.1.dv 1 stC,a.2.dv 1 stC]) (fun a => .bool (decide (a.1.l=a.2.l)))
theorem zdw6 {x y:Sl Str}:cSa2 [x.dv 1 stC,y.dv 1 stC]=some (.bool (decide (x.l=y.l))) :=
 zsn4 (f:=fun a:Sl Str × Sl Str=>[a.1.dv 1 stC,a.2.dv 1 stC]) (g:=fun a => .bool (decide (a.1.l=a.2.l))) (by
  rintro ⟨a,b⟩ ⟨c,d⟩ e
  simp only [List.cons.injEq,and_true] at e
  rw [zdef e.1,zdef e.2]) (x,y)
theorem zqfl:(Con.pure cSa2).Sound P 20:=z2au fun a _=>zljw mix zr5o Tryz.func20 zfgm (zy51 a.1 a.2)
structure RQ where
 q:Sl Str
 fi:Int
 pa:Str
def rsC (r:RQ):List DV:=[r.q.dv 1 stC,.int .i64 r.fi,.str r.pa]
theorem zbp7 (r:RQ):zbao (rsC r)=true:=by simp only [rsC,zbao,zyp8,zfuu,Bool.and_self]
theorem zto3 {a b:RQ} (e:rsC a=rsC b):a=b:=by
 obtain ⟨a1,a2,a3⟩:=a
 obtain ⟨b1,b2,b3⟩:=b
 simp only [rsC,List.cons.injEq,DV.int.injEq,DV.str.injEq,true_and,and_true] at e
 rw [zdef e.1,e.2.1,e.2.2]
def rqOf (N:Nat) (r:Res):RQ:=⟨qS N r.le,r.fi,r.pa⟩
theorem zf38 (N:Nat) (r:Res):z6t9 N r = .agg (rsC (rqOf N r)):=rfl
theorem z3j2 {r:RQ}:oneC 1 false (rsC r)=some (r.q.dv 1 stC):=rfl
theorem zuah {r:RQ}:oneC 1 false ((rsC r).drop 1)=some (.int .i64 r.fi):=rfl
theorem z5l5 {r:RQ}:oneC 1 false ((rsC r).drop 2)=some (.str r.pa):=rfl
theorem z0vo {r:RQ}:oneC 3 true (rsC r)=some (.agg (rsC r)):=rfl
theorem z56i {h:List AObj} {id:Nat} {r:RQ}:zy6o h id 3 0 (.agg (rsC r)) (some [.nils,.int .i64 0,.str []])=some (.junk,h.set id (.cells (rsC r))):=zfc1 rfl rfl (by simp [rsC,z4ja])
noncomputable def zqhr:Tbl:=addT 20 (.pure cSa2) tbl0
theorem zdlk:zqhr 20 = .pure cSa2:=by simp [zqhr]
theorem zomi:zqhr.Sound P:=z0rp zqfl zr5o
def zmw5 (a b:RQ):Bool:=decide (a.fi=b.fi)&&decide (a.pa=b.pa)&&decide (a.q.l=b.q.l)
theorem ze3x (a b:RQ):Runs zqhr a9 [.agg (rsC a),.agg (rsC b)] (.bool (zmw5 a b)):=by
 refine ⟨?_⟩
 have hc:=zdw6 (x:=a.q) (y:=b.q)
 have h0 : ∀ r:RQ,(rsC r).length=3:=fun _=>rfl
 by_cases h1:a.fi=b.fi
 case neg=>simp (disch:=first|omega|simp<;>omega|fail) [-zA,-zB,-zC,-zD,-zE,a9,h0,z3j2,zuah,z5l5,h1,zmw5]
 by_cases h2:a.pa=b.pa
 case neg=>simp (disch:=first|omega|simp<;>omega|fail) [-zA,-zB,-zC,-zD,-zE,a9,h0,z3j2,zuah,z5l5,h1,h2,zmw5]
 simp (disch:=first|omega|simp<;>omega|fail) [-zA,-zB,-zC,-zD,-zE,a9,h0,z3j2,zuah,z5l5,h1,h2,zmw5,zdlk,hc,zfuu]
noncomputable def cSm3:List DV→Option DV:=con (fun _=>True) (fun a:RQ × RQ=>[.agg (rsC a.1),.agg (rsC a.2)]) (fun a => .bool (zmw5 a.1 a.2))
theorem z88z {a b:RQ}:cSm3 [.agg (rsC a),.agg (rsC b)]=some (.bool (zmw5 a b)) :=
 zsn4 (f:=fun a:RQ × RQ=>[.agg (rsC a.1),.agg (rsC a.2)]) (g:=fun a => .bool (zmw5 a.1 a.2)) (by
  rintro ⟨a,b⟩ ⟨c,d⟩ e
  simp only [List.cons.injEq,DV.agg.injEq,and_true] at e
  rw [zto3 e.1,zto3 e.2]) (a,b)
theorem z8gp:(Con.pure cSm3).Sound P 9:=z2au fun a _=>zljw mix zomi Tryz.func9 z528 (ze3x a.1 a.2)
end Go.Proofs.YtjknipdiglpnlaaGreatDoor
set_option linter.unusedSimpArgs false
set_option linter.unusedVariables false
set_option maxRecDepth 8000
namespace Go.Proofs.YtjknipdiglpnlaaGreatDoor
open Go Go.Am
def zguw (s:Str) (i:Nat):St:=za02 (.str s) (.int .i64 i) []
def spcB (c:B8):Bool:=decide (c=46#8)||decide (c=95#8)||decide (c=45#8)
def alnB (c:B8):Bool:=(decide (97#8≤c)&&decide (c≤122#8))||(decide (48#8≤c)&&decide (c≤57#8))
theorem zsq3 (b:UInt8):zh9a false b=(alnB b.toBitVec||spcB b.toBitVec):=rfl
theorem zg86 (b:UInt8):zh9a true b=alnB b.toBitVec:=by unfold zh9a alnB; simp
theorem z5hd {s:Str} (h0:0<s.length) (h64:s.length≤64) (hs:spcB s[0].toBitVec=false):zt9v s=true ↔ ∀ j (h:j<s.length),zh9a false s[j]=true:=by
 rw [zg1n]
 constructor
 ·rintro ⟨_,_,h⟩ j hj
  have:=h j hj
  by_cases q:j=0
  ·subst q
   rw [decide_eq_true rfl,zg86] at this
   rw [zsq3,this]; rfl
  ·rw [decide_eq_false q] at this; exact this
 ·intro h
  refine ⟨h0,h64,fun j hj => ?_⟩
  have:=h j hj
  by_cases q:j=0
  ·subst q
   rw [decide_eq_true rfl,zg86]
   rw [zsq3,hs,Bool.or_false] at this; exact this
  ·rw [decide_eq_false q]; exact this
theorem z4jr {s:Str} (h0:0<s.length) (hs:spcB s[0].toBitVec=true):zt9v s=false:=by
 cases q:zt9v s with
 | false=>rfl
 | true =>
  have:=(zg1n.1 q).2.2 0 h0
  rw [decide_eq_true rfl,zg86] at this
  exfalso
  unfold spcB at hs
  unfold alnB at this
  simp only [Bool.or_eq_true,decide_eq_true_eq] at hs
  rcases hs with (e|e)|e<;>rw [e] at this<;>exact absurd this (by decide)
theorem zwmy (s:Str):Runs tbl0 a69 [.str s] (.bool (zt9v s)):=by
 refine ⟨?_⟩
 by_cases h1:s=[]
 ·subst h1
  have hr:zt9v []=false:=rfl
  simp (disch:=first|omega|simp<;>omega|fail) [-zA,-zB,-zC,-zD,-zE,a69,hr]
 have h0:0<s.length:=List.length_pos_iff.2 h1
 by_cases h2:64<s.length
 ·have h2':(64:Int)<s.length:=by omega
  have hr:zt9v s=false:=by
   cases h:zt9v s with
   | false=>rfl
   | true=>have:=zg1n.1 h; omega
  simp (disch:=first|omega|simp<;>omega|fail) [-zA,-zB,-zC,-zD,-zE,a69,h1,h2,h2',hr]
 have h2':¬ (64:Int)<s.length:=by omega
 have h0':(0:Int)<s.length:=by omega
 have hbad:=z4jr h0
 have hgood:=z5hd h0 (by omega)
 obtain ⟨f,hf⟩ : ∃ f,s[0].toBitVec=f:=⟨_,rfl⟩
 rw [hf] at hbad hgood
 by_cases f46:f=46#8
 ·have g46:(f == 46#8)=true:=by simp [f46]
  have hr:=hbad (by simp [spcB,f46])
  simp (disch:=first|omega|simp<;>omega|fail) [-zA,-zB,-zC,-zD,-zE,a69,h1,h2,h2',h0,h0',hf,f46,hr]
 have g46:(f == 46#8)=false:=by simp [f46]
 by_cases f95:f=95#8
 ·have g95:(f == 95#8)=true:=by simp [f95]
  have hr:=hbad (by simp [spcB,f95])
  simp (disch:=first|omega|simp<;>omega|fail) [-zA,-zB,-zC,-zD,-zE,a69,h1,h2,h2',h0,h0',hf,f46,g46,f95,hr]
 have g95:(f == 95#8)=false:=by simp [f95]
 by_cases f45:f=45#8
 ·have g45:(f == 45#8)=true:=by simp [f45]
  have hr:=hbad (by simp [spcB,f45])
  simp (disch:=first|omega|simp<;>omega|fail) [-zA,-zB,-zC,-zD,-zE,a69,h1,h2,h2',h0,h0',hf,f46,g46,f95,g95,f45,hr]
 have g45:(f == 45#8)=false:=by simp [f45]
 have hgood:=hgood (by simp [spcB,f46,f95,f45])
 simp (disch:=first|omega|simp<;>omega|fail) [-zA,-zB,-zC,-zD,-zE,a69,h1,h2,h2',h0,h0',hf,f46,g46,f95,g95,f45,g45]
 clear hbad
 refine zlm5 (zguw s) (fun i=>s.length-i) (fun i=>i≤s.length ∧ ∀ j (h:j<s.length),j<i→zh9a false s[j]=true) 0 (z515 (by simp (disch:=first|omega|simp<;>omega|fail) [-zA,-zB,-zC,-zD,-zE,zguw,za02]) (by simp (disch:=first|omega|simp<;>omega|fail) [-zA,-zB,-zC,-zD,-zE,zguw,za02])) ⟨by omega,fun j _ h=>by omega⟩ (fun i hi => ?_)
 obtain ⟨k1,k2⟩:=hi
 simp only [zguw]
 by_cases h:i<s.length
 case neg =>
  have h':¬ (i:Int)<s.length:=by omega
  have hr:zt9v s=true:=hgood.2 fun j hj=>k2 j hj (by omega)
  simp (disch:=first|omega|simp<;>omega|fail) [-zA,-zB,-zC,-zD,-zE,z5fx,za02,h,h',hr]
 have h':(i:Int)<s.length:=by omega
 obtain ⟨c,hc⟩ : ∃ c,s[i].toBitVec=c:=⟨_,rfl⟩
 have hn:zh9a false s[i]=(alnB c||spcB c):=by rw [zsq3,hc]
 have acc:(alnB c||spcB c)=true → ∀ j (h:j<s.length),j<i+1→zh9a false s[j]=true:=fun e j hj hlt=>by
  by_cases q:j=i
  ·subst q; rw [hn]; exact e
  ·exact k2 j hj (by omega)
 have rej:(alnB c||spcB c)=false→zt9v s=false:=fun e=>by
  cases q:zt9v s with
  | false=>rfl
  | true=>have:=hgood.1 q i h; rw [hn,e] at this; cases this
 by_cases a1:97#8≤c
 case neg =>
  by_cases a3:48#8≤c
  case neg =>
   by_cases b46:c=46#8
   case pos =>
    have d46:(c == 46#8)=true:=by simp [b46]
    have e:=acc (by simp [alnB,spcB,a1,a3,b46])
    simp (disch:=first|omega|simp<;>omega|fail) [-zA,-zB,-zC,-zD,-zE,z5fx,za02,h,h',hc,a1,a3,b46]
    exact ⟨i+1,z515 (by simp (disch:=first|omega|simp<;>omega|fail) [-zA,-zB,-zC,-zD,-zE,zguw,za02]) (by simp (disch:=first|omega|simp<;>omega|fail) [-zA,-zB,-zC,-zD,-zE,zguw,za02]),by omega,⟨by omega,e⟩⟩
   have d46:(c == 46#8)=false:=by simp [b46]
   by_cases b95:c=95#8
   case pos =>
    have d95:(c == 95#8)=true:=by simp [b95]
    have e:=acc (by simp [alnB,spcB,a1,a3,b46,d46,b95])
    simp (disch:=first|omega|simp<;>omega|fail) [-zA,-zB,-zC,-zD,-zE,z5fx,za02,h,h',hc,a1,a3,b46,d46,b95]
    exact ⟨i+1,z515 (by simp (disch:=first|omega|simp<;>omega|fail) [-zA,-zB,-zC,-zD,-zE,zguw,za02]) (by simp (disch:=first|omega|simp<;>omega|fail) [-zA,-zB,-zC,-zD,-zE,zguw,za02]),by omega,⟨by omega,e⟩⟩
   have d95:(c == 95#8)=false:=by simp [b95]
   by_cases b45:c=45#8
   case pos =>
    have d45:(c == 45#8)=true:=by simp [b45]
    have e:=acc (by simp [alnB,spcB,a1,a3,b46,d46,b95,d95,b45])
    simp (disch:=first|omega|simp<;>omega|fail) [-zA,-zB,-zC,-zD,-zE,z5fx,za02,h,h',hc,a1,a3,b46,d46,b95,d95,b45]
    exact ⟨i+1,z515 (by simp (disch:=first|omega|simp<;>omega|fail) [-zA,-zB,-zC,-zD,-zE,zguw,za02]) (by simp (disch:=first|omega|simp<;>omega|fail) [-zA,-zB,-zC,-zD,-zE,zguw,za02]),by omega,⟨by omega,e⟩⟩
   have d45:(c == 45#8)=false:=by simp [b45]
   have e:=rej (by simp [alnB,spcB,a1,a3,b46,d46,b95,d95,b45,d45])
   simp (disch:=first|omega|simp<;>omega|fail) [-zA,-zB,-zC,-zD,-zE,z5fx,za02,h,h',hc,a1,a3,b46,d46,b95,d95,b45,d45,e]
  by_cases a4:c≤57#8
  case neg =>
   by_cases b46:c=46#8
   case pos =>
    have d46:(c == 46#8)=true:=by simp [b46]
    have e:=acc (by simp [alnB,spcB,a1,a3,a4,b46])
    simp (disch:=first|omega|simp<;>omega|fail) [-zA,-zB,-zC,-zD,-zE,z5fx,za02,h,h',hc,a1,a3,a4,b46]
    exact ⟨i+1,z515 (by simp (disch:=first|omega|simp<;>omega|fail) [-zA,-zB,-zC,-zD,-zE,zguw,za02]) (by simp (disch:=first|omega|simp<;>omega|fail) [-zA,-zB,-zC,-zD,-zE,zguw,za02]),by omega,⟨by omega,e⟩⟩
   have d46:(c == 46#8)=false:=by simp [b46]
   by_cases b95:c=95#8
   case pos =>
    have d95:(c == 95#8)=true:=by simp [b95]
    have e:=acc (by simp [alnB,spcB,a1,a3,a4,b46,d46,b95])
    simp (disch:=first|omega|simp<;>omega|fail) [-zA,-zB,-zC,-zD,-zE,z5fx,za02,h,h',hc,a1,a3,a4,b46,d46,b95]
    exact ⟨i+1,z515 (by simp (disch:=first|omega|simp<;>omega|fail) [-zA,-zB,-zC,-zD,-zE,zguw,za02]) (by simp (disch:=first|omega|simp<;>omega|fail) [-zA,-zB,-zC,-zD,-zE,zguw,za02]),by omega,⟨by omega,e⟩⟩
   have d95:(c == 95#8)=false:=by simp [b95]
   by_cases b45:c=45#8
   case pos =>
    have d45:(c == 45#8)=true:=by simp [b45]
    have e:=acc (by simp [alnB,spcB,a1,a3,a4,b46,d46,b95,d95,b45])
    simp (disch:=first|omega|simp<;>omega|fail) [-zA,-zB,-zC,-zD,-zE,z5fx,za02,h,h',hc,a1,a3,a4,b46,d46,b95,d95,b45]
    exact ⟨i+1,z515 (by simp (disch:=first|omega|simp<;>omega|fail) [-zA,-zB,-zC,-zD,-zE,zguw,za02]) (by simp (disch:=first|omega|simp<;>omega|fail) [-zA,-zB,-zC,-zD,-zE,zguw,za02]),by omega,⟨by omega,e⟩⟩
   have d45:(c == 45#8)=false:=by simp [b45]
   have e:=rej (by simp [alnB,spcB,a1,a3,a4,b46,d46,b95,d95,b45,d45])
   simp (disch:=first|omega|simp<;>omega|fail) [-zA,-zB,-zC,-zD,-zE,z5fx,za02,h,h',hc,a1,a3,a4,b46,d46,b95,d95,b45,d45,e]
  have e:=acc (by simp [alnB,spcB,a1,a3,a4])
  simp (disch:=first|omega|simp<;>omega|fail) [-zA,-zB,-zC,-zD,-zE,z5fx,za02,h,h',hc,a1,a3,a4]
  exact ⟨i+1,z515 (by simp (disch:=first|omega|simp<;>omega|fail) [-zA,-zB,-zC,-zD,-zE,zguw,za02]) (by simp (disch:=first|omega|simp<;>omega|fail) [-zA,-zB,-zC,-zD,-zE,zguw,za02]),by omega,⟨by omega,e⟩⟩
 by_cases a2:c≤122#8
 case neg =>
  by_cases a3:48#8≤c
  case neg =>
   by_cases b46:c=46#8
   case pos =>
    have d46:(c == 46#8)=true:=by simp [b46]
    have e:=acc (by simp [alnB,spcB,a1,a2,a3,b46])
    simp (disch:=first|omega|simp<;>omega|fail) [-zA,-zB,-zC,-zD,-zE,z5fx,za02,h,h',hc,a1,a2,a3,b46]
    exact ⟨i+1,z515 (by simp (disch:=first|omega|simp<;>omega|fail) [-zA,-zB,-zC,-zD,-zE,zguw,za02]) (by simp (disch:=first|omega|simp<;>omega|fail) [-zA,-zB,-zC,-zD,-zE,zguw,za02]),by omega,⟨by omega,e⟩⟩
   have d46:(c == 46#8)=false:=by simp [b46]
   by_cases b95:c=95#8
   case pos =>
    have d95:(c == 95#8)=true:=by simp [b95]
    have e:=acc (by simp [alnB,spcB,a1,a2,a3,b46,d46,b95])
    simp (disch:=first|omega|simp<;>omega|fail) [-zA,-zB,-zC,-zD,-zE,z5fx,za02,h,h',hc,a1,a2,a3,b46,d46,b95]
    exact ⟨i+1,z515 (by simp (disch:=first|omega|simp<;>omega|fail) [-zA,-zB,-zC,-zD,-zE,zguw,za02]) (by simp (disch:=first|omega|simp<;>omega|fail) [-zA,-zB,-zC,-zD,-zE,zguw,za02]),by omega,⟨by omega,e⟩⟩
   have d95:(c == 95#8)=false:=by simp [b95]
   by_cases b45:c=45#8
   case pos =>
    have d45:(c == 45#8)=true:=by simp [b45]
    have e:=acc (by simp [alnB,spcB,a1,a2,a3,b46,d46,b95,d95,b45])
    simp (disch:=first|omega|simp<;>omega|fail) [-zA,-zB,-zC,-zD,-zE,z5fx,za02,h,h',hc,a1,a2,a3,b46,d46,b95,d95,b45]
    exact ⟨i+1,z515 (by simp (disch:=first|omega|simp<;>omega|fail) [-zA,-zB,-zC,-zD,-zE,zguw,za02]) (by simp (disch:=first|omega|simp<;>omega|fail) [-zA,-zB,-zC,-zD,-zE,zguw,za02]),by omega,⟨by omega,e⟩⟩
   have d45:(c == 45#8)=false:=by simp [b45]
   have e:=rej (by simp [alnB,spcB,a1,a2,a3,b46,d46,b95,d95,b45,d45])
   simp (disch:=first|omega|simp<;>omega|fail) [-zA,-zB,-zC,-zD,-zE,z5fx,za02,h,h',hc,a1,a2,a3,b46,d46,b95,d95,b45,d45,e]
  by_cases a4:c≤57#8
  case neg =>
   by_cases b46:c=46#8
   case pos =>
    have d46:(c == 46#8)=true:=by simp [b46]
    have e:=acc (by simp [alnB,spcB,a1,a2,a3,a4,b46])
    simp (disch:=first|omega|simp<;>omega|fail) [-zA,-zB,-zC,-zD,-zE,z5fx,za02,h,h',hc,a1,a2,a3,a4,b46]
    exact ⟨i+1,z515 (by simp (disch:=first|omega|simp<;>omega|fail) [-zA,-zB,-zC,-zD,-zE,zguw,za02]) (by simp (disch:=first|omega|simp<;>omega|fail) [-zA,-zB,-zC,-zD,-zE,zguw,za02]),by omega,⟨by omega,e⟩⟩
   have d46:(c == 46#8)=false:=by simp [b46]
   by_cases b95:c=95#8
   case pos =>
    have d95:(c == 95#8)=true:=by simp [b95]
    have e:=acc (by simp [alnB,spcB,a1,a2,a3,a4,b46,d46,b95])
    simp (disch:=first|omega|simp<;>omega|fail) [-zA,-zB,-zC,-zD,-zE,z5fx,za02,h,h',hc,a1,a2,a3,a4,b46,d46,b95]
    exact ⟨i+1,z515 (by simp (disch:=first|omega|simp<;>omega|fail) [-zA,-zB,-zC,-zD,-zE,zguw,za02]) (by simp (disch:=first|omega|simp<;>omega|fail) [-zA,-zB,-zC,-zD,-zE,zguw,za02]),by omega,⟨by omega,e⟩⟩
   have d95:(c == 95#8)=false:=by simp [b95]
   by_cases b45:c=45#8
   case pos =>
    have d45:(c == 45#8)=true:=by simp [b45]
    have e:=acc (by simp [alnB,spcB,a1,a2,a3,a4,b46,d46,b95,d95,b45])
    simp (disch:=first|omega|simp<;>omega|fail) [-zA,-zB,-zC,-zD,-zE,z5fx,za02,h,h',hc,a1,a2,a3,a4,b46,d46,b95,d95,b45]
    exact ⟨i+1,z515 (by simp (disch:=first|omega|simp<;>omega|fail) [-zA,-zB,-zC,-zD,-zE,zguw,za02]) (by simp (disch:=first|omega|simp<;>omega|fail) [-zA,-zB,-zC,-zD,-zE,zguw,za02]),by omega,⟨by omega,e⟩⟩
   have d45:(c == 45#8)=false:=by simp [b45]
   have e:=rej (by simp [alnB,spcB,a1,a2,a3,a4,b46,d46,b95,d95,b45,d45])
   simp (disch:=first|omega|simp<;>omega|fail) [-zA,-zB,-zC,-zD,-zE,z5fx,za02,h,h',hc,a1,a2,a3,a4,b46,d46,b95,d95,b45,d45,e]
  have e:=acc (by simp [alnB,spcB,a1,a2,a3,a4])
  simp (disch:=first|omega|simp<;>omega|fail) [-zA,-zB,-zC,-zD,-zE,z5fx,za02,h,h',hc,a1,a2,a3,a4]
  exact ⟨i+1,z515 (by simp (disch:=first|omega|simp<;>omega|fail) [-zA,-zB,-zC,-zD,-zE,zguw,za02]) (by simp (disch:=first|omega|simp<;>omega|fail) [-zA,-zB,-zC,-zD,-zE,zguw,za02]),by omega,⟨by omega,e⟩⟩
 have e:=acc (by simp [alnB,spcB,a1,a2])
 simp (disch:=first|omega|simp<;>omega|fail) [-zA,-zB,-zC,-zD,-zE,z5fx,za02,h,h',hc,a1,a2]
 exact ⟨i+1,z515 (by simp (disch:=first|omega|simp<;>omega|fail) [-zA,-zB,-zC,-zD,-zE,zguw,za02]) (by simp (disch:=first|omega|simp<;>omega|fail) [-zA,-zB,-zC,-zD,-zE,zguw,za02]),by omega,⟨by omega,e⟩⟩
end Go.Proofs.YtjknipdiglpnlaaGreatDoor
set_option linter.unusedSimpArgs false
set_option linter.unusedVariables false
set_option maxRecDepth 8000
namespace Go.Proofs.YtjknipdiglpnlaaGreatDoor
open Go Go.Am
noncomputable def zhl3:Tbl:=addT 68 (.pure (cS z01o)) (addT 69 (.pure (cS zd6f)) (addT 41 (.pure (cS dirB)) tbl0))
theorem zahg:zhl3 68 = .pure (cS z01o):=by simp [zhl3]
theorem zxpe:zhl3 69 = .pure (cS zd6f):=by simp [zhl3]
theorem zgu3:zhl3 41 = .pure (cS dirB):=by simp [zhl3]
theorem zfh3:zhl3.Sound P:=z0rp (zzn8 fun p=>zljw mix zkpo Tryz.func68 z20i (zkeg p)) (z0rp (zzn8 fun s=>zljw mix zr5o Tryz.func69 z713 (zwmy s)) (z0rp (zzn8 fun s=>zljw mix zpnl Tryz.func41 z5y8 (z0t3 s)) zr5o))
theorem z6tn {k:Int}:decide (zk3j k=[]) = !(decide (1≤k)&&decide (k≤7)):=by
 by_cases h:1≤k∧k≤7
 ·have:=zcgp.2 h
  simp [this,h.1,h.2]
 ·have:zk3j k=[]:=by
   by_cases e:zk3j k=[]
   ·exact e
   ·exact absurd (zcgp.1 e) h
  rw [decide_eq_true this]
  by_cases h1:1≤k
  ·have h2:¬ k≤7:=fun q=>h ⟨h1,q⟩
   simp [h2]
  ·simp [h1]
theorem ztei (r:Rul):Runs zhl3 a34 [.agg (ruC r)] (.bool (z8mn r)):=by
 refine ⟨?_⟩
 obtain ⟨k,p,f,pr,i,t⟩:=r
 have hw:=z6tn (k:=k)
 by_cases h1:k<1
 ·have h1':¬ 1≤k:=by omega
  simp (disch:=first|omega|simp<;>omega|fail) [-zA,-zB,-zC,-zD,-zE,a34,h1,h1',z8mn,hw]
 have h1':1≤k:=by omega
 by_cases h7:7<k
 ·have h7':¬ k≤7:=by omega
  simp (disch:=first|omega|simp<;>omega|fail) [-zA,-zB,-zC,-zD,-zE,a34,h1,h1',h7,h7',z8mn,hw]
 have h7':k≤7:=by omega
 have hw:decide (zk3j k=[])=false:=by rw [hw,decide_eq_true h1',decide_eq_true h7']; rfl
 cases h2:(zfn1 p).isSome with
 | false=>simp (disch:=first|omega|simp<;>omega|fail) [-zA,-zB,-zC,-zD,-zE,a34,h1,h1',h7,h7',zahg,zk5k,z01o,h2,z8mn,hw]
 | true =>
 by_cases h3:k=1
 ·subst h3
  cases h4:zt9v f with
  | false=>simp (disch:=first|omega|simp<;>omega|fail) [-zA,-zB,-zC,-zD,-zE,a34,zahg,zk5k,z01o,h2,z8mn,hw,zxpe,zd6f,h4]
  | true =>
  cases h5:dirD i with
  | false=>simp (disch:=first|omega|simp<;>omega|fail) [-zA,-zB,-zC,-zD,-zE,a34,zahg,zk5k,z01o,h2,z8mn,hw,zxpe,zd6f,h4,zgu3,dirB,h5]
  | true =>
  cases h6:dirD t with
  | false=>simp (disch:=first|omega|simp<;>omega|fail) [-zA,-zB,-zC,-zD,-zE,a34,zahg,zk5k,z01o,h2,z8mn,hw,zxpe,zd6f,h4,zgu3,dirB,h5,h6]
  | true=>simp (disch:=first|omega|simp<;>omega|fail) [-zA,-zB,-zC,-zD,-zE,a34,zahg,zk5k,z01o,h2,z8mn,hw,zxpe,zd6f,h4,zgu3,dirB,h5,h6]
 by_cases h4:f=[]
 case neg=>simp (disch:=first|omega|simp<;>omega|fail) [-zA,-zB,-zC,-zD,-zE,a34,h1,h1',h7,h7',zahg,zk5k,z01o,h2,z8mn,hw,h3,h4]
 by_cases h5:i=[]
 case neg=>simp (disch:=first|omega|simp<;>omega|fail) [-zA,-zB,-zC,-zD,-zE,a34,h1,h1',h7,h7',zahg,zk5k,z01o,h2,z8mn,hw,h3,h4,h5]
 by_cases h6:t=[]
 case neg=>simp (disch:=first|omega|simp<;>omega|fail) [-zA,-zB,-zC,-zD,-zE,a34,h1,h1',h7,h7',zahg,zk5k,z01o,h2,z8mn,hw,h3,h4,h5,h6]
 cases pr with
 | false=>simp (disch:=first|omega|simp<;>omega|fail) [-zA,-zB,-zC,-zD,-zE,a34,h1,h1',h7,h7',zahg,zk5k,z01o,h2,z8mn,hw,h3,h4,h5,h6]
 | true=>simp (disch:=first|omega|simp<;>omega|fail) [-zA,-zB,-zC,-zD,-zE,a34,h1,h1',h7,h7',zahg,zk5k,z01o,h2,z8mn,hw,h3,h4,h5,h6]
theorem zh3r:(Con.pure cVr).Sound P 34:=z2au fun r _=>zljw mix zfh3 Tryz.func34 zk28 (ztei r)
end Go.Proofs.YtjknipdiglpnlaaGreatDoor
set_option linter.unusedSimpArgs false
set_option linter.unusedVariables false
set_option maxRecDepth 20000
namespace Go.Proofs.YtjknipdiglpnlaaGreatDoor
open Go Go.Am
theorem zpzc (x:Lnk) (pr:Bool):Runs tbl0 a29 [.agg (lkC x),.bool pr] ((zmoc pr x).dv 33 enC):=by
 refine ⟨?_⟩
 have hb : ∀ h,boxD h (.agg (lkC x))=some (.mp h.length 3 0,h++[.cells (lkC x)]):=fun h=>by rw [zn72,z9tw]
 have hs : ∀ (y:Sl Ent) h k,snap h k (y.dv 33 enC)=some (y.dv 33 enC):=fun y h k=>z6nl (zru8 y)
 cases pr with
 | true=>simp (disch:=first|omega|simp<;>omega|fail) [-zA,-zB,-zC,-zD,-zE,a29,hb,zmoc,hs]
 | false=>simp (disch:=first|omega|simp<;>omega|fail) [-zA,-zB,-zC,-zD,-zE,a29,hb,zmoc,hs]
noncomputable def cSid:List DV→Option DV:=con (fun _=>True) (fun a:Lnk × Bool=>[.agg (lkC a.1),.bool a.2]) (fun a=>(zmoc a.2 a.1).dv 33 enC)
theorem zpz8 {x:Lnk} {b:Bool}:cSid [.agg (lkC x),.bool b]=some ((zmoc b x).dv 33 enC) :=
 zsn4 (f:=fun a:Lnk × Bool=>[.agg (lkC a.1),.bool a.2]) (g:=fun a=>(zmoc a.2 a.1).dv 33 enC) (by
  rintro ⟨a,b⟩ ⟨c,d⟩ e
  simp only [List.cons.injEq,DV.agg.injEq,DV.bool.injEq,and_true] at e
  rw [zja4 e.1,e.2]) (x,b)
theorem zh2b:(Con.pure cSid).Sound P 29:=z2au fun a _=>zljw mix zr5o Tryz.func29 ztig (zpzc a.1 a.2)
theorem zwrg {a b p rest:Str} (h:relO a [] p=some rest):relO a b p=relO [] b rest:=by
 unfold relO at h
 split at h
 ·rename_i h1
  obtain ⟨h1,_,h3⟩:=h1
  cases hr:z7z9 a p with
  | none=>rw [hr] at h; simp at h
  | some r =>
   rw [hr] at h
   simp only [Option.bind_some,zukt,if_true] at h
   split at h
   ·rename_i hp
    simp at h
    subst h
    have h0:z7z9 [] r=some r:=rfl
    have hd:dirD []=true:=rfl
    unfold relO
    rw [hr,h0]
    by_cases hb:dirD b=true
    ·rw [if_pos ⟨h1,hb,h3⟩,if_pos ⟨hd,hb,hp⟩]
    ·rw [if_neg fun q=>hb q.2.1,if_neg fun q=>hb q.2.1]
   ·simp at h
 ·simp at h
noncomputable def z43n:Tbl:=addT 42 (.pure (cSSS relD)) (addT 64 (.pure (cSS z46z)) (addT 66 (.pure cLoo) (addT 29 (.pure cSid) tbl0)))
theorem zisy:z43n 42 = .pure (cSSS relD):=by simp [z43n]
theorem zn80:z43n 64 = .pure (cSS z46z):=by simp [z43n]
theorem z3d3:z43n 66 = .pure cLoo:=by simp [z43n]
theorem zvky:z43n 29 = .pure cSid:=by simp [z43n]
theorem zha6:(Con.pure (cSS z46z)).Sound P 64:=zd7v fun p s=>zljw mix zx50 Tryz.func64 zerh (zfpx p s)
theorem zdi0:z43n.Sound P:=z0rp (ztgs fun a b s=>zljw mix z130 Tryz.func42 zl17 (zov0 a b s)) (z0rp zha6 (z0rp z5zc (z0rp zh2b zr5o)))
def ze4i (done:Sl Lnk) (r:Rul) (self:Lnk) (d:Dg) (there:Str) (i:Nat):St:=zm1u (done.dv 3 lkC) (.mp 0 6 0) (.str there) (.mp 2 32 0) (.int .i64 i) [.cells (ruC r),.cells (lkC self),.cells (dgC d)]
theorem zd2m (r:Rul) (pr:Bool) (self:Lnk) (done:Sl Lnk) (p:Str):Runs z43n a65 [.agg (ruC r),.bool pr,.agg (lkC self),done.dv 3 lkC,.str p] (.bool (matB r (zmcg done.l r).l (zmoc pr self).l p)):=by
 refine ⟨?_⟩
 have hbr : ∀ h,boxD h (.agg (ruC r))=some (.mp h.length 6 0,h++[.cells (ruC r)]):=fun h=>by rw [zn72,zpvo]
 have hbl : ∀ h,boxD h (.agg (lkC self))=some (.mp h.length 3 0,h++[.cells (lkC self)]):=fun h=>by rw [zn72,z9tw]
 have hdl : ∀ H,lenD H (done.dv 3 lkC)=some (.int .i64 done.l.length):=fun H=>zupj
 have hdb:=done.b
 cases h1:relO r.inn [] p with
 | none =>
  have hr:matB r (zmcg done.l r).l (zmoc pr self).l p=false:=by unfold matB; rw [h1]
  rw [hr]
  cases h2:relO r.inn r.to p with
  | none=>simp (disch:=first|omega|simp<;>omega|fail) [-zA,-zB,-zC,-zD,-zE,a65,hbr,hbl,zisy,zfnp,relD,h1,h2,optS]
  | some to=>simp (disch:=first|omega|simp<;>omega|fail) [-zA,-zB,-zC,-zD,-zE,a65,hbr,hbl,zisy,zfnp,relD,h1,h2,optS]
 | some rest =>
 have h2:relO r.inn r.to p=relO [] r.to rest:=zwrg h1
 cases h3:relO [] r.to rest with
 | none =>
  rw [h3] at h2
  have hr:matB r (zmcg done.l r).l (zmoc pr self).l p=false:=by unfold matB; rw [h1]; simp only; rw [h3]; simp
  rw [hr]
  simp (disch:=first|omega|simp<;>omega|fail) [-zA,-zB,-zC,-zD,-zE,a65,hbr,hbl,zisy,zfnp,relD,h1,h2,optS]
 | some there =>
 rw [h3] at h2
 cases h4:zenh r.pat rest with
 | false =>
  have hr:matB r (zmcg done.l r).l (zmoc pr self).l p=false:=by unfold matB; rw [h1]; simp only; rw [h4]; rfl
  rw [hr]
  simp (disch:=first|omega|simp<;>omega|fail) [-zA,-zB,-zC,-zD,-zE,a65,hbr,hbl,zisy,zfnp,relD,h1,h2,optS,zn80,z5o0,z46z,h4]
 | true =>
 have hr:matB r (zmcg done.l r).l (zmoc pr self).l p=((zajr (zmcg done.l r).l there).isSome&&decide (dgO (zajr (zmcg done.l r).l there)=dgO (zajr (zmoc pr self).l p))):=by
  unfold matB; rw [h1]; simp only; rw [h3,h4]; rfl
 rw [hr]
 have hs:=zpz8 (x:=self) (b:=pr)
 have hl:=zfl1 (x:=zmoc pr self) (p:=p)
 have hps:=zru8 (zmoc pr self)
 obtain ⟨F,hF⟩ : ∃ F,zmoc pr self=F:=⟨_,rfl⟩
 rw [hF] at hs hl hps
 rw [hF]
 obtain ⟨o,ho⟩ : ∃ o,zajr F.l p=o:=⟨_,rfl⟩
 rw [ho] at hl
 rw [ho]
 have hl:cLoo [F.dv 33 enC,.str p]=some (.tup [.agg (dgC (dgO o)),.bool o.isSome]):=hl
 obtain ⟨d,hd⟩ : ∃ d,dgO o=d:=⟨_,rfl⟩
 rw [hd] at hl
 rw [hd]
 have hz : ∀ (h:List AObj) (id:Nat) (e:Dg),zy6o h id 32 0 (.agg (dgC e)) (some (dgC dg0))=some (.junk,h.set id (.cells (dgC e))):=fun h id e=>zes9 (z1t1 _)
 have h1d : ∀ e:Dg,oneC 32 true (dgC e)=some (.agg (dgC e)):=fun e=>by simp [oneC,z1t1,List.take_of_length_le]
 simp (disch:=first|omega|simp<;>omega|fail) [-zA,-zB,-zC,-zD,-zE,a65,hbr,hbl,zisy,zfnp,relD,h1,h2,optS,zn80,z5o0,z46z,h4,zvky,hs,z3d3,hl,hps,z4hl,hz]
 refine zlm5 (ze4i done r self d there) (fun i=>done.l.length-i) (fun i=>i≤done.l.length ∧ ∀ j (h:j<done.l.length),j<i→done.l[j].step≠r.frm) 0 (z515 (by simp (disch:=first|omega|simp<;>omega|fail) [-zA,-zB,-zC,-zD,-zE,ze4i,zm1u]) (by simp (disch:=first|omega|simp<;>omega|fail) [-zA,-zB,-zC,-zD,-zE,ze4i,zm1u])) ⟨by omega,fun j _ hj=>by omega⟩ (fun i hi => ?_)
 obtain ⟨q1,q2⟩:=hi
 simp only [ze4i]
 by_cases g:i<done.l.length
 case neg =>
  have g':¬ (i:Int)<done.l.length:=by omega
  have hn:zmcg done.l r=nilS:=zlwx fun a ha=>by
   obtain ⟨j,hj,e⟩:=List.getElem_of_mem ha
   have:=q2 j hj (by omega)
   rw [e] at this; exact this
  have hn0:zajr (nilS:Sl Ent).l there=none:=rfl
  rw [hn,hn0]
  simp (disch:=first|omega|simp<;>omega|fail) [-zA,-zB,-zC,-zD,-zE,zur0,zm1u,hdl,g,g']
 have g':(i:Int)<done.l.length:=by omega
 have hy : ∀ H,zpsc H 3 (done.dv 3 lkC) i=some (.ref (lkC done.l[i])):=fun H=>zalo z9tw g
 have hinv:done.l[i].step≠r.frm → ∀ j (h:j<done.l.length),j<i+1→done.l[j].step≠r.frm:=fun e j hj hji=>by
  by_cases ej:j=i
  ·subst ej; exact e
  ·exact q2 j hj (by omega)
 have hfl:done.l[i].step=r.frm→zmcg done.l r=zmoc r.prod done.l[i]:=fun e=>by rw [zqyy g e q2]; unfold zmoc; rfl
 obtain ⟨u,hu⟩ : ∃ u,done.l[i]=u:=⟨_,rfl⟩
 rw [hu] at hy hinv hfl
 by_cases e:u.step=r.frm
 ·have hfl:=hfl e
  rw [hfl]
  have hs:=zpz8 (x:=u) (b:=r.prod)
  have hl:=zfl1 (x:=zmoc r.prod u) (p:=there)
  have hps:=zru8 (zmoc r.prod u)
  obtain ⟨G,hG⟩ : ∃ G,zmoc r.prod u=G:=⟨_,rfl⟩
  rw [hG] at hs hl hps
  rw [hG]
  obtain ⟨o,ho⟩ : ∃ o,zajr G.l there=o:=⟨_,rfl⟩
  rw [ho] at hl
  rw [ho]
  have hl:cLoo [G.dv 33 enC,.str there]=some (.tup [.agg (dgC (dgO o)),.bool o.isSome]):=hl
  obtain ⟨x,hx⟩ : ∃ x,dgO o=x:=⟨_,rfl⟩
  rw [hx] at hl
  rw [hx]
  have hce:=zyiz (a:=x) (b:=d)
  obtain ⟨B,hB⟩ : ∃ B,decide (x=d)=B:=⟨_,rfl⟩
  rw [hB] at hce
  rw [hB]
  cases hq:o.isSome with
  | false =>
   rw [hq] at hl
   simp (disch:=first|omega|simp<;>omega|fail) [-zA,-zB,-zC,-zD,-zE,zur0,zm1u,hdl,g,g',hy,e,zvky,hs,z3d3,hl,hps,z4hl,hz]
  | true =>
   rw [hq] at hl
   simp (disch:=first|omega|simp<;>omega|fail) [-zA,-zB,-zC,-zD,-zE,zur0,zm1u,hdl,g,g',hy,e,zvky,hs,z3d3,hl,hps,z4hl,hz,h1d,hce]
 ·have hinv:=hinv e
  simp (disch:=first|omega|simp<;>omega|fail) [-zA,-zB,-zC,-zD,-zE,zur0,zm1u,hdl,g,g',hy,e]
  exact ⟨i+1,z515 (by simp (disch:=first|omega|simp<;>omega|fail) [-zA,-zB,-zC,-zD,-zE,ze4i,zm1u]) (by simp (disch:=first|omega|simp<;>omega|fail) [-zA,-zB,-zC,-zD,-zE,ze4i,zm1u]),by omega,by omega,hinv⟩
structure RM where
 r:Rul
 pr:Bool
 self:Lnk
 done:Sl Lnk
 p:Str
def rmA (a:RM):List DV:=[.agg (ruC a.r),.bool a.pr,.agg (lkC a.self),a.done.dv 3 lkC,.str a.p]
theorem zw07 {a b:RM} (e:rmA a=rmA b):a=b:=by
 obtain ⟨a1,a2,a3,a4,a5⟩:=a
 obtain ⟨b1,b2,b3,b4,b5⟩:=b
 simp only [rmA,List.cons.injEq,DV.agg.injEq,DV.bool.injEq,DV.str.injEq,and_true] at e
 rw [z49a e.1,e.2.1,zja4 e.2.2.1,zi59 e.2.2.2.1,e.2.2.2.2]
noncomputable def cMtd:List DV→Option DV:=con (fun _=>True) rmA (fun a => .bool (matB a.r (zmcg a.done.l a.r).l (zmoc a.pr a.self).l a.p))
theorem zarz {r:Rul} {pr:Bool} {x:Lnk} {d:Sl Lnk} {p:Str}:cMtd [.agg (ruC r),.bool pr,.agg (lkC x),d.dv 3 lkC,.str p]=some (.bool (matB r (zmcg d.l r).l (zmoc pr x).l p)) :=
 zsn4 (f:=rmA) (g:=fun a => .bool (matB a.r (zmcg a.done.l a.r).l (zmoc a.pr a.self).l a.p)) (fun _ _ e=>zw07 e) ⟨r,pr,x,d,p⟩
noncomputable def z7fg:Tbl:=addT 65 (.pure cMtd) z43n
theorem zjvk:z7fg 65 = .pure cMtd:=by simp [z7fg]
theorem zw9d:z7fg 64 = .pure (cSS z46z):=by simp [z7fg,z43n]
theorem zpqd:z7fg 66 = .pure cLoo:=by simp [z7fg,z43n]
theorem zjrb:z7fg.Sound P:=z0rp (z2au fun a _=>zljw mix zdi0 Tryz.func65 zh04 (zd2m a.r a.pr a.self a.done a.p)) zdi0
def remR (r:Rul) (pr:Bool) (x:Lnk) (d:Sl Lnk) (p:Str):Bool:=zkvg (sdOf pr x d) r r.kind.toNat p
theorem zkoh (r:Rul) (pr:Bool) (self:Lnk) (done:Sl Lnk) (p:Str):Runs z7fg a31 [.agg (ruC r),.bool pr,.agg (lkC self),done.dv 3 lkC,.str p] (.bool (remR r pr self done p)):=by
 refine ⟨?_⟩
 have hbr : ∀ h,boxD h (.agg (ruC r))=some (.mp h.length 6 0,h++[.cells (ruC r)]):=fun h=>by rw [zn72,zpvo]
 have hbl : ∀ h,boxD h (.agg (lkC self))=some (.mp h.length 3 0,h++[.cells (lkC self)]):=fun h=>by rw [zn72,z9tw]
 have hpd:=zys6 done
 by_cases k1:r.kind=1
 ·have hr:remR r pr self done p=matB r (zmcg done.l r).l (zmoc pr self).l p:=by unfold remR; rw [k1]; rfl
  have hm:=zarz (r:=r) (pr:=pr) (x:=self) (d:=done) (p:=p)
  rw [hr]
  obtain ⟨B,hB⟩ : ∃ B,matB r (zmcg done.l r).l (zmoc pr self).l p=B:=⟨_,rfl⟩
  rw [hB] at hm
  rw [hB]
  simp (disch:=first|omega|simp<;>omega|fail) [-zA,-zB,-zC,-zD,-zE,a31,hbr,hbl,k1,zjvk,hm,hpd]
 have hz : ∀ (h:List AObj) (id:Nat) (e:Dg),zy6o h id 32 0 (.agg (dgC e)) (some (dgC dg0))=some (.junk,h.set id (.cells (dgC e))):=fun h id e=>zes9 (z1t1 _)
 have h1d : ∀ e:Dg,oneC 32 true (dgC e)=some (.agg (dgC e)):=fun e=>by simp [oneC,z1t1,List.take_of_length_le]
 have l1:=zfl1 (x:=self.m) (p:=p)
 have l2:=zfl1 (x:=self.p) (p:=p)
 have hm1:=zru8 self.m
 have hm2:=zru8 self.p
 have hr2:r.kind=2→remR r pr self done p=(zenh r.pat p&&(!(zajr self.m.l p).isSome&&(zajr self.p.l p).isSome)):=fun k=>by unfold remR; rw [k]; rfl
 have hr3:r.kind=3→remR r pr self done p=(zenh r.pat p&&((zajr self.m.l p).isSome&&(zajr self.p.l p).isSome && !decide (dgO (zajr self.m.l p)=dgO (zajr self.p.l p)))):=fun k=>by unfold remR; rw [k]; rfl
 have hr4:r.kind=4→remR r pr self done p=(zenh r.pat p&&((zajr self.m.l p).isSome && !(zajr self.p.l p).isSome)):=fun k=>by unfold remR; rw [k]; rfl
 have hr5:r.kind=5→remR r pr self done p=zenh r.pat p:=fun k=>by unfold remR; rw [k]; rfl
 have hr0:r.kind≠2→r.kind≠3→r.kind≠4→r.kind≠5→remR r pr self done p=false:=fun a b c d=>by
  have key : ∀ n:Nat,n≠1→n≠2→n≠3→n≠4→n≠5→zkvg (sdOf pr self done) r n=fun _=>false:=fun n a b c d e=>by
   rcases n with _|_|_|_|_|_|n<;>first|omega|rfl
  rw [remR,key _ (by omega) (by omega) (by omega) (by omega) (by omega)]
 obtain ⟨o1,ho1⟩ : ∃ o,zajr self.m.l p=o:=⟨_,rfl⟩
 obtain ⟨o2,ho2⟩ : ∃ o,zajr self.p.l p=o:=⟨_,rfl⟩
 rw [ho1] at l1 hr2 hr3 hr4
 rw [ho2] at l2 hr2 hr3 hr4
 have l1:cLoo [self.m.dv 33 enC,.str p]=some (.tup [.agg (dgC (dgO o1)),.bool o1.isSome]):=l1
 have l2:cLoo [self.p.dv 33 enC,.str p]=some (.tup [.agg (dgC (dgO o2)),.bool o2.isSome]):=l2
 obtain ⟨d1,hd1⟩ : ∃ d,dgO o1=d:=⟨_,rfl⟩
 obtain ⟨d2,hd2⟩ : ∃ d,dgO o2=d:=⟨_,rfl⟩
 obtain ⟨b1,hb1⟩ : ∃ b,o1.isSome=b:=⟨_,rfl⟩
 obtain ⟨b2,hb2⟩ : ∃ b,o2.isSome=b:=⟨_,rfl⟩
 obtain ⟨M,hM⟩ : ∃ b,zenh r.pat p=b:=⟨_,rfl⟩
 have hce:=zyiz (a:=d1) (b:=d2)
 rw [hd1,hb1] at l1
 rw [hd2,hb2] at l2
 rw [hb1,hb2,hM] at hr2 hr3 hr4
 rw [hd1,hd2] at hr3
 rw [hM] at hr5
 obtain ⟨E,hE⟩ : ∃ b,decide (d1=d2)=b:=⟨_,rfl⟩
 rw [hE] at hce hr3
 obtain ⟨RR,hRR⟩ : ∃ b,remR r pr self done p=b:=⟨_,rfl⟩
 rw [hRR] at hr2 hr3 hr4 hr5 hr0
 rw [hRR]
 clear ho1 ho2 hd1 hd2 hb1 hb2 hE hRR
 by_cases k2:r.kind=2
 ·rw [hr2 k2]
  cases M<;>cases b1<;>simp (disch:=first|omega|simp<;>omega|fail) [-zA,-zB,-zC,-zD,-zE,a31,hbr,hbl,k1,k2,zpqd,l1,l2,hm1,hm2,z4hl,hz,zw9d,z5o0,z46z,hM]
 by_cases k3:r.kind=3
 ·rw [hr3 k3]
  cases M<;>cases b1<;>cases b2<;>simp (disch:=first|omega|simp<;>omega|fail) [-zA,-zB,-zC,-zD,-zE,a31,hbr,hbl,k1,k2,k3,zpqd,l1,l2,hm1,hm2,z4hl,hz,zw9d,z5o0,z46z,hM,h1d,hce]
 by_cases k4:r.kind=4
 ·rw [hr4 k4]
  cases M<;>cases b1<;>simp (disch:=first|omega|simp<;>omega|fail) [-zA,-zB,-zC,-zD,-zE,a31,hbr,hbl,k1,k2,k3,k4,zpqd,l1,l2,hm1,hm2,z4hl,hz,zw9d,z5o0,z46z,hM]
 by_cases k5:r.kind=5
 ·rw [hr5 k5]
  simp (disch:=first|omega|simp<;>omega|fail) [-zA,-zB,-zC,-zD,-zE,a31,hbr,hbl,k1,k2,k3,k4,k5,zpqd,l1,l2,hm1,hm2,z4hl,hz,zw9d,z5o0,z46z,hM]
 rw [hr0 k2 k3 k4 k5]
 simp (disch:=first|omega|simp<;>omega|fail) [-zA,-zB,-zC,-zD,-zE,a31,hbr,hbl,k1,k2,k3,k4,k5,zpqd,l1,l2,hm1,hm2,z4hl,hz,zw9d,z5o0,z46z,hM]
noncomputable def cRem:List DV→Option DV:=con (fun _=>True) rmA (fun a => .bool (remR a.r a.pr a.self a.done a.p))
theorem z27r {r:Rul} {pr:Bool} {x:Lnk} {d:Sl Lnk} {p:Str}:cRem [.agg (ruC r),.bool pr,.agg (lkC x),d.dv 3 lkC,.str p]=some (.bool (remR r pr x d p)) :=
 zsn4 (f:=rmA) (g:=fun a => .bool (remR a.r a.pr a.self a.done a.p)) (fun _ _ e=>zw07 e) ⟨r,pr,x,d,p⟩
theorem zkvs:(Con.pure cRem).Sound P 31:=z2au fun a _=>zljw mix zjrb Tryz.func31 zjer (zkoh a.r a.pr a.self a.done a.p)
def zhau (r:Rul) (Q:List Str):Str × Bool:=if z8mn r=true then (match Q.find? (zenh r.pat) with
  | some y=>if r.kind=6 then (y,true) else ([],false)
  | none=>([],decide (r.kind=7))) else ([],true)
theorem z58k {r:Rul} {Q:List Str} (hv:z8mn r=true):zhau r Q=match zkx0 r r.kind.toNat Q with|some y=>(y,true)|none=>([],false):=by
 unfold zhau
 rw [if_pos hv]
 have hany:Q.any (zenh r.pat)=(Q.find? (zenh r.pat)).isSome:=by rw [Bool.eq_iff_iff,List.any_eq_true,List.find?_isSome]
 by_cases h6:r.kind=6
 ·have e:zkx0 r r.kind.toNat Q=Q.find? (zenh r.pat):=by rw [h6]; rfl
  rw [e]
  cases Q.find? (zenh r.pat) with
  | none=>simp [h6]
  | some y=>simp [h6]
 by_cases h7:r.kind=7
 ·have e:zkx0 r r.kind.toNat Q=if Q.any (zenh r.pat) then none else some []:=by rw [h7]; rfl
  rw [e,hany]
  cases Q.find? (zenh r.pat) with
  | none=>simp [h7]
  | some y=>simp [h7]
 have e:zkx0 r r.kind.toNat Q=none:=by
  have key : ∀ n:Nat,n≠6→n≠7→zkx0 r n Q=none:=fun n a b=>by
   rcases n with _|_|_|_|_|_|_|_|n<;>first|omega|rfl
  exact key _ (by omega) (by omega)
 rw [e]
 cases Q.find? (zenh r.pat) with
 | none=>simp [h7]
 | some y=>simp [h6]
noncomputable def z1re:Tbl:=addT 34 (.pure cVr) (addT 64 (.pure (cSS z46z)) tbl0)
theorem ze6x:z1re 34 = .pure cVr:=by simp [z1re]
theorem zkfw:z1re 64 = .pure (cSS z46z):=by simp [z1re]
theorem zwbv:z1re.Sound P:=z0rp zh3r (z0rp zha6 zr5o)
def zljo (r:Rul) (x:Sl Str) (i:Nat):St:=zd5d (x.dv 1 stC) (.mp 0 6 0) (.int .i64 i) [.cells (ruC r)]
theorem z0jj (r:Rul) (x:Sl Str):Runs z1re a30 [.agg (ruC r),x.dv 1 stC] (.tup [.str (zhau r x.l).1,.bool (zhau r x.l).2]):=by
 refine ⟨?_⟩
 have hbr : ∀ h,boxD h (.agg (ruC r))=some (.mp h.length 6 0,h++[.cells (ruC r)]):=fun h=>by rw [zn72,zpvo]
 have hlx : ∀ H,lenD H (x.dv 1 stC)=some (.int .i64 x.l.length):=fun H=>zupj
 have hb:=x.b
 have hcv:=zu0t (r:=r)
 cases hv:z8mn r with
 | false =>
  rw [hv] at hcv
  have hr:zhau r x.l=([],true):=by unfold zhau; rw [if_neg (by rw [hv]; simp)]
  rw [hr]
  simp (disch:=first|omega|simp<;>omega|fail) [-zA,-zB,-zC,-zD,-zE,a30,hbr,ze6x,hcv]
 | true =>
 rw [hv] at hcv
 simp (disch:=first|omega|simp<;>omega|fail) [-zA,-zB,-zC,-zD,-zE,a30,hbr,ze6x,hcv]
 refine zlm5 (zljo r x) (fun i=>x.l.length-i) (fun i=>i≤x.l.length ∧ ∀ j (h:j<x.l.length),j<i→zenh r.pat x.l[j]=false) 0 (z515 (by simp (disch:=first|omega|simp<;>omega|fail) [-zA,-zB,-zC,-zD,-zE,zljo,zd5d]) (by simp (disch:=first|omega|simp<;>omega|fail) [-zA,-zB,-zC,-zD,-zE,zljo,zd5d])) ⟨by omega,fun j _ hj=>by omega⟩ (fun i hi => ?_)
 obtain ⟨q1,q2⟩:=hi
 simp only [zljo]
 by_cases g:i<x.l.length
 case neg =>
  have g':¬ (i:Int)<x.l.length:=by omega
  have hr:zhau r x.l=([],decide (r.kind=7)):=by
   unfold zhau
   rw [if_pos hv,z11n fun a ha=>by
    obtain ⟨j,hj,e⟩:=List.getElem_of_mem ha
    have:=q2 j hj (by omega)
    rw [e] at this; exact this]
  rw [hr]
  simp (disch:=first|omega|simp<;>omega|fail) [-zA,-zB,-zC,-zD,-zE,zk9n,zd5d,hlx,g,g']
 have g':(i:Int)<x.l.length:=by omega
 have hy : ∀ H,zpsc H 1 (x.dv 1 stC) i=some (.ref (stC x.l[i])):=fun H=>zalo zqv6 g
 have hinv:zenh r.pat x.l[i]=false → ∀ j (h:j<x.l.length),j<i+1→zenh r.pat x.l[j]=false:=fun e j hj hji=>by
  by_cases ej:j=i
  ·subst ej; exact e
  ·exact q2 j hj (by omega)
 have hr:zenh r.pat x.l[i]=true→zhau r x.l=if r.kind=6 then (x.l[i],true) else ([],false):=fun e=>by
  unfold zhau; rw [if_pos hv,zhxf g e q2]
 obtain ⟨u,hu⟩ : ∃ u,x.l[i]=u:=⟨_,rfl⟩
 rw [hu] at hy hinv hr
 cases e:zenh r.pat u with
 | true =>
  rw [hr e]
  by_cases h6:r.kind=6
  ·simp (disch:=first|omega|simp<;>omega|fail) [-zA,-zB,-zC,-zD,-zE,zk9n,zd5d,hlx,g,g',hy,stC,zkfw,z5o0,z46z,e,h6]
  ·simp (disch:=first|omega|simp<;>omega|fail) [-zA,-zB,-zC,-zD,-zE,zk9n,zd5d,hlx,g,g',hy,stC,zkfw,z5o0,z46z,e,h6]
 | false =>
  have hinv:=hinv e
  simp (disch:=first|omega|simp<;>omega|fail) [-zA,-zB,-zC,-zD,-zE,zk9n,zd5d,hlx,g,g',hy,stC,zkfw,z5o0,z46z,e]
  exact ⟨i+1,z515 (by simp (disch:=first|omega|simp<;>omega|fail) [-zA,-zB,-zC,-zD,-zE,zljo,zd5d]) (by simp (disch:=first|omega|simp<;>omega|fail) [-zA,-zB,-zC,-zD,-zE,zljo,zd5d]),by omega,by omega,fun j h hj=>hinv j h hj⟩
noncomputable def cFai:List DV→Option DV:=con (fun _=>True) (fun a:Rul × Sl Str=>[.agg (ruC a.1),a.2.dv 1 stC]) (fun a => .tup [.str (zhau a.1 a.2.l).1,.bool (zhau a.1 a.2.l).2])
theorem zil8 {r:Rul} {x:Sl Str}:cFai [.agg (ruC r),x.dv 1 stC]=some (.tup [.str (zhau r x.l).1,.bool (zhau r x.l).2]) :=
 zsn4 (f:=fun a:Rul × Sl Str=>[.agg (ruC a.1),a.2.dv 1 stC]) (g:=fun a => .tup [.str (zhau a.1 a.2.l).1,.bool (zhau a.1 a.2.l).2]) (by
  rintro ⟨a,b⟩ ⟨c,d⟩ e
  simp only [List.cons.injEq,DV.agg.injEq,and_true] at e
  rw [z49a e.1,zdef e.2]) (r,x)
theorem zv3z:(Con.pure cFai).Sound P 30:=z2au fun a _=>zljw mix zwbv Tryz.func30 z3f8 (z0jj a.1 a.2)
def z45q (x:Sl Rul) (i:Nat):St:=z91a (x.dv 6 ruC) (.int .i64 i) []
theorem zq2m (x:Sl Rul):Runs z1re a13 [x.dv 6 ruC] (.bool (zaba x.l)):=by
 refine ⟨?_⟩
 have hlx : ∀ H,lenD H (x.dv 6 ruC)=some (.int .i64 x.l.length):=fun H=>zupj
 have hb:=x.b
 simp (disch:=first|omega|simp<;>omega|fail) [-zA,-zB,-zC,-zD,-zE,a13]
 refine zlm5 (z45q x) (fun i=>x.l.length-i) (fun i=>i≤x.l.length ∧ ∀ r ∈ x.l.take i,z8mn r=true) 0 (z515 (by simp (disch:=first|omega|simp<;>omega|fail) [-zA,-zB,-zC,-zD,-zE,z45q,z91a]) (by simp (disch:=first|omega|simp<;>omega|fail) [-zA,-zB,-zC,-zD,-zE,z45q,z91a])) ⟨by omega,by simp⟩ (fun i hi => ?_)
 obtain ⟨q1,q2⟩:=hi
 simp only [z45q]
 by_cases g:i<x.l.length
 ·have g':(i:Int)<x.l.length:=by omega
  have hy : ∀ H,zpsc H 6 (x.dv 6 ruC) i=some (.ref (ruC x.l[i])):=fun H=>zalo zpvo g
  have hcv:=zu0t (r:=x.l[i])
  have hn:z8mn x.l[i]=true → ∀ r ∈ x.l.take (i+1),z8mn r=true:=fun e r hr=>by
   rw [List.take_succ_eq_append_getElem g,List.mem_append] at hr
   rcases hr with hr|hr
   ·exact q2 r hr
   ·simp at hr; subst hr; exact e
  have hf:z8mn x.l[i]=false→zaba x.l=false:=fun e=>by
   unfold zaba
   have:x.l.all z8mn=false:=List.all_eq_false.2 ⟨_,List.getElem_mem g,by rw [e]; simp⟩
   cases x.l.getLast? <;> simp [this]
  obtain ⟨u,hu⟩ : ∃ u,x.l[i]=u:=⟨_,rfl⟩
  rw [hu] at hy hcv hn hf
  cases hv:z8mn u with
  | false =>
   rw [hv] at hcv
   rw [hf hv]
   simp (disch:=first|omega|simp<;>omega|fail) [-zA,-zB,-zC,-zD,-zE,zml0,z91a,hlx,g,g',hy,ze6x,hcv]
  | true =>
   rw [hv] at hcv
   have hn:=hn hv
   simp (disch:=first|omega|simp<;>omega|fail) [-zA,-zB,-zC,-zD,-zE,zml0,z91a,hlx,g,g',hy,ze6x,hcv]
   exact ⟨i+1,z515 (by simp (disch:=first|omega|simp<;>omega|fail) [-zA,-zB,-zC,-zD,-zE,z45q,z91a]) (by simp (disch:=first|omega|simp<;>omega|fail) [-zA,-zB,-zC,-zD,-zE,z45q,z91a]),by omega,by omega,hn⟩
 have g':¬ (i:Int)<x.l.length:=by omega
 rw [List.take_of_length_le (by omega)] at q2
 have ha:x.l.all z8mn=true:=List.all_eq_true.2 q2
 by_cases h0:x.l.length=0
 ·have e:x.l=[]:=List.eq_nil_of_length_eq_zero h0
  have hr:zaba x.l=false:=by rw [e]; rfl
  rw [hr]
  have hi0:i=0:=by omega
  subst hi0
  have hlx : ∀ H,lenD H (x.dv 6 ruC)=some (.int .i64 0):=fun H=>by rw [hlx,h0]; rfl
  simp (disch:=first|omega|simp<;>omega|fail) [-zA,-zB,-zC,-zD,-zE,zml0,z91a,hlx]
 have hl:x.l.getLast? = some (x.l[x.l.length-1]'(by omega)):=by
  rw [List.getLast?_eq_getElem?,List.getElem?_eq_getElem (by omega)]
 have hi1:((x.l.length:Int)-1)=((x.l.length-1:Nat):Int):=by omega
 have hy : ∀ H,zpsc H 6 (x.dv 6 ruC) ((x.l.length-1:Nat):Int)=some (.ref (ruC (x.l[x.l.length-1]'(by omega)))):=fun H=>zalo zpvo (by omega)
 have hr:zaba x.l=(decide ((x.l[x.l.length-1]'(by omega)).kind=6)&&decide ((x.l[x.l.length-1]'(by omega)).pat=[42,42])):=by
  unfold zaba; rw [hl]; simp only; rw [ha,Bool.true_and]; rfl
 obtain ⟨u,hu⟩ : ∃ u,x.l[x.l.length-1]'(by omega)=u:=⟨_,rfl⟩
 rw [hu] at hy hr
 rw [hr]
 obtain ⟨n,hn⟩ : ∃ n,x.l.length-1=n:=⟨_,rfl⟩
 rw [hn] at hy hi1
 have hpos:(0:Int)<x.l.length:=by omega
 have hposn:0<x.l.length:=by omega
 by_cases h6:u.kind=6
 ·simp (disch:=first|omega|simp<;>omega|fail) [-zA,-zB,-zC,-zD,-zE,zml0,z91a,hlx,g,g',hpos,hposn,hi1,hy,h6]
 ·simp (disch:=first|omega|simp<;>omega|fail) [-zA,-zB,-zC,-zD,-zE,zml0,z91a,hlx,g,g',hpos,hposn,hi1,hy,h6]
theorem za9e:(Con.pure cStr).Sound P 13:=z2au fun x _=>zljw mix zwbv Tryz.func13 zm5y (zq2m x)
end Go.Proofs.YtjknipdiglpnlaaGreatDoor
set_option linter.unusedSimpArgs false
set_option linter.unusedVariables false
set_option maxRecDepth 20000
namespace Go.Proofs.YtjknipdiglpnlaaGreatDoor
open Go Go.Am
def refQ (r:Res):RQ:=⟨ownN r.le,r.fi,r.pa⟩
def HRa (x:Lnk):List AObj:=[.cells (lkC x),.cells r0C]
theorem zpao (x:Lnk):(HRa x).length=2:=rfl
theorem zx9w (x:Lnk):zlf2 (HRa x).length (HRa x)=true:=by
 simp only [HRa,zlf2,zmq5 _ _ (z53g x),Bool.true_and]; rfl
theorem zcxd {x:Lnk} {L:List Str} (hb:L.length≤4294967296):mk1 (kLt 2) (HRa x++oT stC L) (oV 2 1 L)=(ownN L).dv 1 stC:=by
 by_cases e:L=[]
 ·subst e; exact zhx5
 ·rw [zpni e,zu2l e,z527 e]
  refine zwy6 ?_
  rw [zi9r,if_neg (by simp [kLt])]
  have ho:objV (HRa x++[.cells (fl stC L)]) 2 (L.length*1)=some (fl stC L):=by
   show (if (fl stC L).length=L.length*1 then some (fl stC L) else none)=_
   rw [if_pos (z8lx zqv6 L)]
  rw [ho,Option.bind_some,List.drop_zero,z590 zqv6,List.take_length,zl6f (zp6k zds6 _),zqrs hb]; rfl
def z1y5 (l:Sl Rul) (pr:Bool) (x:Lnk) (d:Sl Lnk) (f:Sl Ent) (i:Nat):St:=z7en (l.dv 6 ruC) (.bool pr) (d.dv 3 lkC) (.mp 0 3 0) (.mp 1 3 0) (oV 2 1 ((zw2l f.l).take i)) (f.dv 33 enC) (.int .i64 i) (HRa x++oT stC ((zw2l f.l).take i))
structure AR where
 i:Nat
 Q:List Str
def z7rc (l:Sl Rul) (pr:Bool) (x:Lnk) (d:Sl Lnk) (a:AR):St:=zzr3 (l.dv 6 ruC) (.bool pr) (d.dv 3 lkC) (.mp 0 3 0) (.mp 1 3 0) ((ownN a.Q).dv 1 stC) (.int .i64 a.i) (HRa x)
def zndp (l:Sl Rul) (pr:Bool) (x:Lnk) (d:Sl Lnk) (p:Str→Bool) (i:Nat) (Q:List Str) (k:Nat):St:=ziyy (l.dv 6 ruC) (.bool pr) (d.dv 3 lkC) (.mp 0 3 0) (.mp 1 3 0) ((ownN Q).dv 1 stC) (.int .i64 i) (oV 2 1 (zwyd p (Q.take k))) (.int .i64 k) (HRa x++oT stC (zwyd p (Q.take k)))
noncomputable def z292:Tbl:=addT 29 (.pure cSid) (addT 30 (.pure cFai) (addT 31 (.pure cRem) tbl0))
theorem zvxr:z292 29 = .pure cSid:=by simp [z292]
theorem zk2f:z292 30 = .pure cFai:=by simp [z292]
theorem zxrw:z292 31 = .pure cRem:=by simp [z292]
theorem z2u3:z292.Sound P:=z0rp zh2b (z0rp zv3z (z0rp zkvs zr5o))
theorem hap2 {x:Lnk} {L:List Str} {u:Str} (hL:L.length+1≤4294967296):appX (HRa x++oT stC L) 1 16 (oV 2 1 L) 1 [.str u]=some (oV 2 1 (L++[u]),HRa x++oT stC (L++[u])) :=
 zte0 (k:=2) (K:=1) (b:=16) (f:=stC) (l:=L) (x:=u) (h:=HRa x) rfl zqv6 (by decide) (by decide) (fun _=>rfl) hL
def znx4:ACode:=match a11.code with | .seq _ (.seq _ (.seq _ (.seq _ r)))=>r|c=>c
theorem zstc (l:Sl Rul) (pr:Bool) (x:Lnk) (d:Sl Lnk) (Q0:List Str) (hQ0:Q0.length≤1000) (X10 X11:DV) :
  V P 0 znx4 (retK a11.res (.agg (rsC (refQ (appL (sdOf pr x d) l.l 0 Q0))))) ⟨[l.dv 6 ruC,.bool pr,.junk,d.dv 3 lkC,.junk,.junk,.mp 0 3 0,.junk,.mp 1 3 0,(ownN Q0).dv 1 stC]++js 73,HRa x⟩:=by
 have hlb:=l.b
 have hll : ∀ H,lenD H (l.dv 6 ruC)=some (.int .i64 l.l.length):=fun H=>zupj
 obtain ⟨A,hA⟩ : ∃ A,a11.res=A:=⟨_,rfl⟩
 rw [hA]
 obtain ⟨RR,hRR⟩ : ∃ RR,appL (sdOf pr x d) l.l 0 Q0=RR:=⟨_,rfl⟩
 rw [hRR]
 have hso : ∀ (h:List AObj) (r:RQ),zy6o h 1 3 0 (.agg (rsC r)) (some r0C)=some (.junk,h.set 1 (.cells (rsC r))):=fun h r=>z56i
 have hso2 : ∀ (h:List AObj) (q:Sl Str) (i:Int) (p:Str),zy6o h 1 3 0 (.agg [q.dv 1 stC,.int .i64 i,.str p]) (some r0C)=some (.junk,h.set 1 (.cells (rsC ⟨q,i,p⟩))):=fun h q i p=>z56i (r:=⟨q,i,p⟩)
 have hO1 : ∀ T,objV (HRa x++T) 1 3=some r0C:=fun T=>rfl
 have hO0 : ∀ T,objV (HRa x++T) 0 3=some (lkC x):=fun T=>rfl
 have hO1':objV (HRa x) 1 3=some r0C:=rfl
 have hO0':objV (HRa x) 0 3=some (lkC x):=rfl
 have hb1 : ∀ (q:Sl Str) (i:Int) (p:Str),zvnk [.nils,.int .i64 0,.str []] [(0,1,q.dv 1 stC),(1,1,.int .i64 i),(2,1,.str p)]=some (.agg (rsC ⟨q,i,p⟩)):=fun q i p=>zkup (zfr8 _) (ztw5 _) i p
 have hb2 : ∀ (q:Sl Str) (i:Int),zvnk [.nils,.int .i64 0,.str []] [(0,1,q.dv 1 stC),(1,1,.int .i64 i)]=some (.agg (rsC ⟨q,i,[]⟩)):=fun q i=>zzw4 (zfr8 _) (ztw5 _) i
 have hR1 : ∀ r:RQ,objV ((HRa x).set 1 (.cells (rsC r))) 1 3=some (rsC r):=fun r=>rfl
 have hpr : ∀ r:RQ,zyp8 (.agg (rsC r))=true:=fun r=>by simp only [zyp8,zbp7]
 have hsn : ∀ (r:RQ) (H:List AObj) (k:Nat),z4tt H k (rsC r)=some (rsC r):=fun r H k=>z619 (zbp7 r)
 simp only [znx4,a11]
 refine zbn1 (zbn1 (V_W mix z2u3 ?_))
 simp (disch:=first|omega|simp<;>omega|fail) [-zA,-zB,-zC,-zD,-zE]
 refine z3mo (ztbr (z7rc l pr x d) (fun a=>l.l.length-a.i) (fun a=>a.i≤l.l.length∧a.Q.length≤1000∧appL (sdOf pr x d) (l.l.drop a.i) a.i a.Q=RR) ⟨0,Q0⟩ (z515 (by simp (disch:=first|omega|simp<;>omega|fail) [-zA,-zB,-zC,-zD,-zE,z7rc,zzr3]) (by simp (disch:=first|omega|simp<;>omega|fail) [-zA,-zB,-zC,-zD,-zE,z7rc,zzr3])) ⟨by simp,hQ0,by simpa using hRR⟩ (fun a ha => ?_))
 obtain ⟨i,Q⟩:=a
 obtain ⟨h1,h2,h3⟩:=ha
 simp only at h1 h2 h3
 simp only [z7rc]
 have hql:(ownN Q).l=Q:=zd8n (by omega)
 by_cases g:i<l.l.length
 case neg =>
  have g':¬ (i:Int)<l.l.length:=by omega
  rw [List.drop_of_length_le (by omega)] at h3
  have h3:(⟨-1,[],Q⟩:Res)=RR:=h3
  subst h3
  have hrf:refQ ⟨-1,[],Q⟩=⟨ownN Q,-1,[]⟩:=rfl
  obtain ⟨q,hq⟩ : ∃ q,ownN Q=q:=⟨_,rfl⟩
  rw [hrf,hq]
  refine zbn1 (V_W mix z2u3 ?_)
  simp (disch:=first|omega|simp<;>omega|fail) [-zA,-zB,-zC,-zD,-zE,zbj2,zzr3,hll,g,g']
  refine zbn1 (V_W mix z2u3 ?_)
  simp (disch:=first|omega|simp<;>omega|fail) [-zA,-zB,-zC,-zD,-zE,hO1',hb2,hso,hso2]
  refine V_W mix z2u3 ?_
  rw [← hA]
  simp (disch:=first|omega|simp<;>omega|fail) [-zA,-zB,-zC,-zD,-zE,a11,hR1,z0vo,hpr,hsn]
 have g':(i:Int)<l.l.length:=by omega
 have hy : ∀ H,zpsc H 6 (l.dv 6 ruC) i=some (.ref (ruC l.l[i])):=fun H=>zalo zpvo g
 rw [List.drop_eq_getElem_cons g] at h3
 obtain ⟨r,hr⟩ : ∃ r,l.l[i]=r:=⟨_,rfl⟩
 rw [hr] at hy h3
 have hf:=zil8 (r:=r) (x:=ownN Q)
 rw [hql] at hf
 have hpq:=zfuu (ownN Q)
 have hq1 : ∀ H k (hk:k<Q.length),zpsc H 1 ((ownN Q).dv 1 stC) (k:Nat)=some (.ref (stC Q[k])):=fun H k hk=>by
  have:=zalo (x:=ownN Q) (h:=H) zqv6 (i:=k) (by rw [hql]; exact hk)
  simpa only [hql] using this
 have hqn : ∀ H,lenD H ((ownN Q).dv 1 stC)=some (.int .i64 Q.length):=fun H=>by rw [zupj,hql]
 have hrf : ∀ i p,refQ ⟨i,p,Q⟩=⟨ownN Q,i,p⟩:=fun _ _=>rfl
 obtain ⟨q,hq⟩ : ∃ q,ownN Q=q:=⟨_,rfl⟩
 rw [hq] at hf hpq hq1 hqn hrf
 rw [hq]
 have step:(zhau r Q).2=false→appL (sdOf pr x d) (l.l.drop (i+1)) (i+1) (zwyd (remR r pr x d) Q)=RR:=fun e=>by
  by_cases hv:z8mn r=true
  ·rw [z58k hv] at e
   rw [← h3]
   simp only [appL,if_pos hv]
   cases hz:zkx0 r r.kind.toNat Q with
   | none=>rfl
   | some y=>rw [hz] at e; cases e
  ·unfold zhau at e; rw [if_neg hv] at e; cases e
 have stop:(zhau r Q).2=true→RR=⟨i,(zhau r Q).1,Q⟩:=fun e=>by
  by_cases hv:z8mn r=true
  ·rw [z58k hv] at e ⊢
   rw [← h3]
   simp only [appL,if_pos hv]
   cases hz:zkx0 r r.kind.toNat Q with
   | none=>rw [hz] at e; cases e
   | some y =>
    have hk:zwyd (zkvg (sdOf pr x d) r r.kind.toNat) Q=Q:=by
     have hk67:r.kind.toNat=6∨r.kind.toNat=7:=by
      unfold zkx0 at hz
      split at hz
      ·left; assumption
      ·right; assumption
      ·cases hz
     rcases hk67 with k|k<;>rw [k]<;>exact zpkc
    rw [hk]
  ·have hv':z8mn r=false:=by cases h:z8mn r<;>simp_all
   rw [← h3]
   unfold zhau
   simp [appL,hv']
 obtain ⟨fp,hfp⟩ : ∃ p,(zhau r Q).1=p:=⟨_,rfl⟩
 obtain ⟨fb,hfb⟩ : ∃ b,(zhau r Q).2=b:=⟨_,rfl⟩
 rw [hfp] at stop hf
 rw [hfb] at step stop hf
 cases fb with
 | true =>
  have hs:=stop rfl
  subst hs
  rw [hrf]
  refine zbn1 (V_W mix z2u3 ?_)
  simp (disch:=first|omega|simp<;>omega|fail) [-zA,-zB,-zC,-zD,-zE,zbj2,zzr3,hll,g,g']
  refine zbn1 (z3mo (zbn1 (zbn1 (V_W mix z2u3 ?_))))
  simp (disch:=first|omega|simp<;>omega|fail) [-zA,-zB,-zC,-zD,-zE,hy,zk2f,hf,hpq]
  refine V_W mix z2u3 ?_
  simp (disch:=first|omega|simp<;>omega|fail) [-zA,-zB,-zC,-zD,-zE,hO1',hb1,hso,hso2]
  rw [← hA]
  simp (disch:=first|omega|simp<;>omega|fail) [-zA,-zB,-zC,-zD,-zE,a11,hR1,z0vo,hpr,hsn]
 | false =>
  have hs:=step rfl
  refine zbn1 (V_W mix z2u3 ?_)
  simp (disch:=first|omega|simp<;>omega|fail) [-zA,-zB,-zC,-zD,-zE,zbj2,zzr3,hll,g,g']
  refine zbn1 (z3mo (zbn1 (zbn1 (V_W mix z2u3 ?_))))
  simp (disch:=first|omega|simp<;>omega|fail) [-zA,-zB,-zC,-zD,-zE,hy,zk2f,hf,hpq]
  refine V_W mix z2u3 ?_
  simp (disch:=first|omega|simp<;>omega|fail) [-zA,-zB,-zC,-zD,-zE]
  refine zbn1 (V_W mix z2u3 ?_)
  simp (disch:=first|omega|simp<;>omega|fail) [-zA,-zB,-zC,-zD,-zE]
  refine zbn1 (zbn1 (V_W mix z2u3 ?_))
  simp (disch:=first|omega|simp<;>omega|fail) [-zA,-zB,-zC,-zD,-zE]
  have hk0:zwyd (remR r pr x d) []=[]:=rfl
  refine z3mo (ztbr (zndp l pr x d (remR r pr x d) i Q) (fun k=>Q.length-k) (fun k=>k≤Q.length) 0 (z515 (by simp (disch:=first|omega|simp<;>omega|fail) [-zA,-zB,-zC,-zD,-zE,zndp,ziyy,hk0,zl8p,hq]) (by simp (disch:=first|omega|simp<;>omega|fail) [-zA,-zB,-zC,-zD,-zE,zndp,ziyy,hk0,zkrk])) (by omega) (fun k hk => ?_))
  simp only [zndp]
  rw [hq]
  have hkl:=zbdz (remR r pr x d) (Q.take k)
  rw [List.length_take] at hkl
  by_cases c:k<Q.length
  ·have c':(k:Int)<Q.length:=by omega
   have hsn':zwyd (remR r pr x d) (Q.take (k+1))=zwyd (remR r pr x d) (Q.take k)++(if remR r pr x d Q[k] then [] else [Q[k]]):=by
    rw [List.take_succ_eq_append_getElem c,zvyh]
   have hqk:=fun H=>hq1 H k c
   have hcr:=z27r (r:=r) (pr:=pr) (x:=x) (d:=d) (p:=Q[k])
   obtain ⟨u,hu⟩ : ∃ u,Q[k]=u:=⟨_,rfl⟩
   rw [hu] at hqk hcr hsn'
   obtain ⟨L,hL⟩ : ∃ L,zwyd (remR r pr x d) (Q.take k)=L:=⟨_,rfl⟩
   rw [hL] at hsn' hkl
   rw [hL]
   have hap:=hap2 (x:=x) (L:=L) (u:=u) (by omega)
   have hpd:=zys6 d
   cases hb:remR r pr x d u with
   | true =>
    rw [hb] at hcr hsn'
    have hsn':zwyd (remR r pr x d) (Q.take (k+1))=L:=by simpa using hsn'
    refine V_W mix z2u3 ?_
    simp (disch:=first|omega|simp<;>omega|fail) [-zA,-zB,-zC,-zD,-zE,ze01,ziyy,hqn,c,c',hy,hO0,hqk,stC,zxrw,hcr,hpd]
    exact ⟨k+1,z515 (by simp (disch:=first|omega|simp<;>omega|fail) [-zA,-zB,-zC,-zD,-zE,zndp,ziyy,hsn',hq]) (by simp (disch:=first|omega|simp<;>omega|fail) [-zA,-zB,-zC,-zD,-zE,zndp,ziyy,hsn']),by omega,by omega⟩
   | false =>
    rw [hb] at hcr hsn'
    have hsn':zwyd (remR r pr x d) (Q.take (k+1))=L++[u]:=by simpa using hsn'
    refine V_W mix z2u3 ?_
    simp (disch:=first|omega|simp<;>omega|fail) [-zA,-zB,-zC,-zD,-zE,ze01,ziyy,hqn,c,c',hy,hO0,hqk,stC,zxrw,hcr,hpd,hap]
    exact ⟨k+1,z515 (by simp (disch:=first|omega|simp<;>omega|fail) [-zA,-zB,-zC,-zD,-zE,zndp,ziyy,hsn',hq]) (by simp (disch:=first|omega|simp<;>omega|fail) [-zA,-zB,-zC,-zD,-zE,zndp,ziyy,hsn']),by omega,by omega⟩
  have c':¬ (k:Int)<Q.length:=by omega
  rw [List.take_of_length_le (by omega)] at hkl ⊢
  obtain ⟨L,hL⟩ : ∃ L,zwyd (remR r pr x d) Q=L:=⟨_,rfl⟩
  rw [hL] at hkl hs ⊢
  have hmk:=zcxd (x:=x) (L:=L) (by omega)
  have e1 : ∀ h,mk1 (kLt 2) h (.mp 0 3 0) = .mp 0 3 0:=fun h=>zd3c (by simp [Am.below])
  have e2 : ∀ h,mk1 (kLt 2) h (.mp 1 3 0) = .mp 1 3 0:=fun h=>zd3c (by simp [Am.below])
  have e3 : ∀ h,mk1 (kLt 2) h (l.dv 6 ruC)=l.dv 6 ruC:=fun h=>zvft (zy5l l)
  have e4 : ∀ h,mk1 (kLt 2) h (d.dv 3 lkC)=d.dv 3 lkC:=fun h=>zvft (zys6 d)
  have e5 : ∀ h,mk1 (kLt 2) h (q.dv 1 stC)=q.dv 1 stC:=fun h=>zvft (zfuu q)
  obtain ⟨Z,hZ⟩ : ∃ Z,ownN L=Z:=⟨_,rfl⟩
  rw [hZ] at hmk
  refine zbn1 (V_W mix z2u3 ?_)
  simp (disch:=first|omega|simp<;>omega|fail) [-zA,-zB,-zC,-zD,-zE,ze01,ziyy,hqn,c,c']
  refine z0em (n0:=0) (H:=HRa x) (R:=oT stC L) (t':=[l.dv 6 ruC,.bool pr,.junk,d.dv 3 lkC,.junk,.junk,.mp 0 3 0,.junk,.mp 1 3 0,.junk,.junk,.junk,.int .i64 i,.junk,.junk,Z.dv 1 stC]++js 67) (zx9w x) (by omega) ?_ (by simp (disch:=first|omega|simp<;>omega|fail) [-zA,-zB,-zC,-zD,-zE,z1r6,Am.below,zpao,z8b8 _ _ (zy5l l),z8b8 _ _ (zys6 d),z8b8 _ _ (zfuu Z)]) ?_
  ·simp (disch:=first|omega|simp<;>omega|fail) [-zA,-zB,-zC,-zD,-zE,zpao,hmk,e1,e2,e3,e4,e5,-z1bt,-zdpe]
  refine V_W mix z2u3 ?_
  simp (disch:=first|omega|simp<;>omega|fail) [-zA,-zB,-zC,-zD,-zE]
  refine V_W mix z2u3 ?_
  simp (disch:=first|omega|simp<;>omega|fail) [-zA,-zB,-zC,-zD,-zE]
  exact ⟨⟨i+1,L⟩,z515 (by simp (disch:=first|omega|simp<;>omega|fail) [-zA,-zB,-zC,-zD,-zE,z7rc,zzr3,hZ]) (by simp (disch:=first|omega|simp<;>omega|fail) [-zA,-zB,-zC,-zD,-zE,z7rc,zzr3]),by simp only; omega,by simp only; omega,by simp only; omega,hs⟩
theorem zgrh (l:Sl Rul) (pr:Bool) (x:Lnk) (d:Sl Lnk) (hN:(zmoc pr x).l.length≤1000) :
  V P 0 a11.code (retK a11.res (.agg (rsC (refQ (zr9o l.l pr x d))))) ⟨zr5g a11.ntmps [l.dv 6 ruC,.bool pr,.agg (lkC x),d.dv 3 lkC],[]⟩:=by
 have hA:zr9o l.l pr x d=appL (sdOf pr x d) l.l 0 (zw2l (zmoc pr x).l):=rfl
 have ht:=zstc l pr x d (zw2l (zmoc pr x).l) (by rw [z1cm]; exact hN) .junk .junk
 rw [← hA] at ht
 obtain ⟨RR,hRR⟩ : ∃ RR,DV.agg (rsC (refQ (zr9o l.l pr x d)))=RR:=⟨_,rfl⟩
 rw [hRR] at ht ⊢
 obtain ⟨A,hAr⟩ : ∃ A,a11.res=A:=⟨_,rfl⟩
 rw [hAr] at ht ⊢
 have hs:=zpz8 (x:=x) (b:=pr)
 obtain ⟨f,hf⟩ : ∃ f,zmoc pr x=f:=⟨_,rfl⟩
 rw [hf] at hs hN ht
 have hfb:=f.b
 have hlf : ∀ H,lenD H (f.dv 33 enC)=some (.int .i64 f.l.length):=fun H=>zupj
 have hbl : ∀ h,boxD h (.agg (lkC x))=some (.mp h.length 3 0,h++[.cells (lkC x)]):=fun h=>by rw [zn72,z9tw]
 have hH:[AObj.cells (lkC x),.cells [.nils,.int .i64 0,.str []]]=HRa x:=rfl
 have hO0':objV (HRa x) 0 3=some (lkC x):=rfl
 refine zbn1 (V_W mix z2u3 ?_)
 simp (disch:=first|omega|simp<;>omega|fail) [-zA,-zB,-zC,-zD,-zE,a11,hbl]
 refine zbn1 (V_W mix z2u3 ?_)
 simp (disch:=first|omega|simp<;>omega|fail) [-zA,-zB,-zC,-zD,-zE]
 refine zbn1 (V_W mix z2u3 ?_)
 simp (disch:=first|omega|simp<;>omega|fail) [-zA,-zB,-zC,-zD,-zE,zvxr,hs]
 refine zbn1 (zbn1 (V_W mix z2u3 ?_))
 simp (disch:=first|omega|simp<;>omega|fail) [-zA,-zB,-zC,-zD,-zE,hH]
 refine z3mo (ztbr (z1y5 l pr x d f) (fun i=>f.l.length-i) (fun i=>i≤f.l.length) 0 (z515 (by simp (disch:=first|omega|simp<;>omega|fail) [-zA,-zB,-zC,-zD,-zE,z1y5,z7en,zl8p]) (by simp (disch:=first|omega|simp<;>omega|fail) [-zA,-zB,-zC,-zD,-zE,z1y5,z7en,zkrk])) (by omega) (fun i hi => ?_))
 simp only [z1y5]
 by_cases g:i<f.l.length
 ·have g':(i:Int)<f.l.length:=by omega
  have hy : ∀ H,zpsc H 33 (f.dv 33 enC) i=some (.ref (enC f.l[i])):=fun H=>zalo zuso g
  have htk:(zw2l f.l).take (i+1)=(zw2l f.l).take i++[f.l[i].path]:=by
   rw [List.take_succ_eq_append_getElem (by rw [z1cm]; exact g)]; simp [zw2l]
  obtain ⟨u,hu⟩ : ∃ u,f.l[i]=u:=⟨_,rfl⟩
  rw [hu] at hy htk
  obtain ⟨L,hL⟩ : ∃ L,(zw2l f.l).take i=L:=⟨_,rfl⟩
  have hLl:L.length=i:=by rw [← hL,List.length_take,z1cm]; omega
  rw [hL] at htk ⊢
  have hap:=hap2 (x:=x) (L:=L) (u:=u.path) (by omega)
  refine V_W mix z2u3 ?_
  simp (disch:=first|omega|simp<;>omega|fail) [-zA,-zB,-zC,-zD,-zE,zv5f,z7en,hlf,g,g',hy,hap]
  exact ⟨i+1,z515 (by simp (disch:=first|omega|simp<;>omega|fail) [-zA,-zB,-zC,-zD,-zE,z1y5,z7en,htk]) (by simp (disch:=first|omega|simp<;>omega|fail) [-zA,-zB,-zC,-zD,-zE,z1y5,z7en,htk]),by omega,by omega⟩
 have g':¬ (i:Int)<f.l.length:=by omega
 have htk:(zw2l f.l).take i=zw2l f.l:=List.take_of_length_le (by rw [z1cm]; omega)
 rw [htk]
 have hpl:(zw2l f.l).length≤4294967296:=by rw [z1cm]; omega
 have hmk:=zcxd (x:=x) (L:=zw2l f.l) hpl
 have e1 : ∀ h,mk1 (kLt 2) h (.mp 0 3 0) = .mp 0 3 0:=fun h=>zd3c (by simp [Am.below])
 have e2 : ∀ h,mk1 (kLt 2) h (.mp 1 3 0) = .mp 1 3 0:=fun h=>zd3c (by simp [Am.below])
 have e3 : ∀ h,mk1 (kLt 2) h (l.dv 6 ruC)=l.dv 6 ruC:=fun h=>zvft (zy5l l)
 have e4 : ∀ h,mk1 (kLt 2) h (d.dv 3 lkC)=d.dv 3 lkC:=fun h=>zvft (zys6 d)
 obtain ⟨Z,hZ⟩ : ∃ Z,ownN (zw2l f.l)=Z:=⟨_,rfl⟩
 rw [hZ] at hmk ht
 refine V_W mix z2u3 ?_
 simp (disch:=first|omega|simp<;>omega|fail) [-zA,-zB,-zC,-zD,-zE,zv5f,z7en,hlf,g,g']
 refine z0em (n0:=0) (H:=HRa x) (R:=oT stC (zw2l f.l)) (t':=[l.dv 6 ruC,.bool pr,.junk,d.dv 3 lkC,.junk,.junk,.mp 0 3 0,.junk,.mp 1 3 0,Z.dv 1 stC]++js 73) (zx9w x) (by omega) ?_ (by simp (disch:=first|omega|simp<;>omega|fail) [-zA,-zB,-zC,-zD,-zE,z1r6,Am.below,zpao,z8b8 _ _ (zy5l l),z8b8 _ _ (zys6 d),z8b8 _ _ (zfuu Z)]) ht
 simp (disch:=first|omega|simp<;>omega|fail) [-zA,-zB,-zC,-zD,-zE,zpao,hmk,e1,e2,e3,e4,-z1bt,-zdpe]
noncomputable def cApR:List DV→Option DV:=con (fun a:Sl Rul × Bool × Lnk × Sl Lnk=>(zmoc a.2.1 a.2.2.1).l.length≤1000) (fun a=>[a.1.dv 6 ruC,.bool a.2.1,.agg (lkC a.2.2.1),a.2.2.2.dv 3 lkC]) (fun a => .agg (rsC (refQ (zr9o a.1.l a.2.1 a.2.2.1 a.2.2.2))))
theorem zzov {l:Sl Rul} {pr:Bool} {x:Lnk} {d:Sl Lnk} (h:(zmoc pr x).l.length≤1000):cApR [l.dv 6 ruC,.bool pr,.agg (lkC x),d.dv 3 lkC]=some (.agg (rsC (refQ (zr9o l.l pr x d)))) :=
 zzno (A:=fun a:Sl Rul × Bool × Lnk × Sl Lnk=>(zmoc a.2.1 a.2.2.1).l.length≤1000) (f:=fun a=>[a.1.dv 6 ruC,.bool a.2.1,.agg (lkC a.2.2.1),a.2.2.2.dv 3 lkC]) (g:=fun a => .agg (rsC (refQ (zr9o a.1.l a.2.1 a.2.2.1 a.2.2.2)))) (fun a b e=>by rw [zy2p e]) (l,pr,x,d) h
theorem z52n:(Con.pure cApR).Sound P 11:=z2au fun a h=>znz9 Tryz.func11 zbwx (zgrh a.1 a.2.1 a.2.2.1 a.2.2.2 h)
end Go.Proofs.YtjknipdiglpnlaaGreatDoor
set_option linter.unusedSimpArgs false
set_option linter.unusedVariables false
set_option maxRecDepth 20000
namespace Go.Proofs.YtjknipdiglpnlaaGreatDoor
open Go Go.Am
structure Raw (α:Type) where
 k:Option Bool
 l:List α
 h:k=none→l=[]
 b:l.length≤9223372036854775807
def Raw.dv {α:Type} (x:Raw α) (s:Nat) (f:α→List DV):DV:=slD x.k s x.l.length (x.l.flatMap f)
def Raw.sl {α:Type} (x:Raw α):Sl α:=if h:x.l.length≤4294967296 then ⟨x.k,x.l,x.h,h⟩ else nilS
section
variable {α:Type} {f:α→List DV} {s:Nat}
theorem Raw.sl_dv {x:Raw α} (h:x.l.length≤4294967296):x.sl.dv s f=x.dv s f:=by unfold Raw.sl; rw [dif_pos h]; rfl
theorem Raw.sl_l {x:Raw α} (h:x.l.length≤4294967296):x.sl.l=x.l:=by unfold Raw.sl; rw [dif_pos h]
theorem Raw.len {H:List AObj} (x:Raw α):lenD H (x.dv s f)=some (.int .i64 x.l.length):=by
 obtain ⟨k,l,h,b⟩:=x
 cases k with
 | none=>cases h rfl; rfl
 | some b=>rfl
theorem Raw.idx {H:List AObj} (x:Raw α) (hu : ∀ a,(f a).length=s) {i:Nat} (hi:i<x.l.length):zpsc H s (x.dv s f) i=some (.ref (f x.l[i])):=by
 obtain ⟨k,l,h,b⟩:=x
 cases k with
 | none=>cases h rfl; simp at hi
 | some b =>
  simp only [Raw.dv,zip4]
  rw [zsu0 (by omega) (by simp only at hi; omega),Int.toNat_natCast,zdao hu hi]
theorem Raw.pure (x:Raw α) (hp : ∀ a,zbao (f a)=true):zyp8 (x.dv s f)=true:=by
 obtain ⟨k,l,h,b⟩:=x
 cases k with
 | none=>rfl
 | some b=>exact zp6k hp l
theorem Raw.known (x:Raw α):(x.dv s f).known=true:=by obtain ⟨k,l,h,b⟩:=x; cases k<;>rfl
theorem Raw.cells (x:Raw α):(x.dv s f).cells=[x.dv s f]:=by obtain ⟨k,l,h,b⟩:=x; cases k<;>rfl
theorem Raw.one (x:Raw α):(x.dv s f).one=true:=by obtain ⟨k,l,h,b⟩:=x; cases k<;>rfl
theorem Raw.inj (hu : ∀ a,(f a).length=s) (h0:0<s) (hi : ∀ a b,f a=f b→a=b) {x y:Raw α} (e:x.dv s f=y.dv s f):x=y:=by
 obtain ⟨k,l,h,hb⟩:=x
 obtain ⟨k',l',h',hb'⟩:=y
 cases k with
 | none =>
  cases k' with
  | none=>cases h rfl; cases h' rfl; rfl
  | some b=>simp [Raw.dv,slD] at e
 | some b =>
  cases k' with
  | none=>simp [Raw.dv,slD] at e
  | some b' =>
   simp only [Raw.dv,slD,DV.sl.injEq] at e
   obtain ⟨rfl,_,_,e⟩:=e
   cases z1ch hu h0 hi e
   rfl
end
structure LnkU where
 step:Str
 m:Raw Ent
 p:Raw Ent
def lkU (x:LnkU):List DV:=[.str x.step,x.m.dv 33 enC,x.p.dv 33 enC]
theorem zehx (x:LnkU):(lkU x).length=3:=rfl
theorem zx98 (x:LnkU):zbao (lkU x)=true:=by simp only [lkU,zbao,zyp8,x.m.pure zt9q,x.p.pure zt9q,Bool.and_self]
theorem zerz {a b:LnkU} (e:lkU a=lkU b):a=b:=by
 obtain ⟨a1,a2,a3⟩:=a
 obtain ⟨b1,b2,b3⟩:=b
 simp only [lkU,List.cons.injEq,DV.str.injEq,and_true] at e
 rw [e.1,Raw.inj zuso (by decide) (fun _ _=>zxv7) e.2.1,Raw.inj zuso (by decide) (fun _ _=>zxv7) e.2.2]
def LnkU.lk (x:LnkU):Lnk:=⟨x.step,x.m.sl,x.p.sl⟩
def ligB (u:LnkU):Bool:=decide (u.m.l.length≤40)&&decide (u.p.l.length≤40)
theorem zbej {u:LnkU} (h:ligB u=true):lkC u.lk=lkU u:=by
 unfold ligB at h
 simp only [Bool.and_eq_true,decide_eq_true_eq] at h
 show [DV.str u.step,u.m.sl.dv 33 enC,u.p.sl.dv 33 enC]=_
 rw [Raw.sl_dv (by omega),Raw.sl_dv (by omega)]; rfl
def zx9t (l:List LnkU):Bool:=decide (l.length≤10)&&l.all ligB
structure CasU where
 self:LnkU
 done:Raw LnkU
 pr:Bool
def caU (c:CasU):List DV:=lkU c.self++[c.done.dv 3 lkU,.bool c.pr]
theorem z711 (c:CasU):zbao (caU c)=true:=by
 unfold caU; exact zg0c (zx98 _) (by simp only [zbao,zyp8,c.done.pure zx98,Bool.and_self])
theorem z1nh (c:CasU):(caU c).length=5:=rfl
def CasU.to (c:CasU):C13:=⟨c.self.lk,(⟨c.done.k,c.done.l.map LnkU.lk,fun e=>by rw [c.done.h e]; rfl,by rw [List.length_map]; exact c.done.b⟩:Raw Lnk).sl,c.pr⟩
theorem zx7g {c:CasU} (h1:ligB c.self=true) (h2:zx9t c.done.l=true):csC c.to=caU c:=by
 unfold zx9t at h2
 simp only [Bool.and_eq_true,decide_eq_true_eq,List.all_eq_true] at h2
 unfold csC caU CasU.to
 rw [zbej h1,Raw.sl_dv (by simp only [List.length_map]; omega)]
 simp only [Raw.dv,List.length_map,List.flatMap_map]
 have e:(c.done.l.flatMap fun x=>lkC x.lk)=c.done.l.flatMap lkU:=by
  rw [List.flatMap_def,List.flatMap_def]
  congr 1
  exact List.map_congr_left fun u hu=>zbej (h2.2 u hu)
 rw [e]
def lowU (r:Rul):Bool:=decide (r.pat.length≤300)&&(decide (r.inn.length≤300)&&(decide (r.to.length≤300)&&decide (r.frm.length≤300)))
def fewU (l:List Rul):Bool:=l.all lowU&&decide (l.length≤40)
def z37q (x:Raw Rul) (i:Nat):St:=a4S0 (x.dv 6 ruC) (.int .i64 i) []
theorem z3bn (x:Raw Rul):Runs tbl0 a4 [x.dv 6 ruC] (.bool (fewU x.l)):=by
 refine ⟨?_⟩
 have hb:=x.b
 have hlx : ∀ H,lenD H (x.dv 6 ruC)=some (.int .i64 x.l.length):=fun H=>x.len
 simp (disch:=first|omega|simp<;>omega|fail) [-zA,-zB,-zC,-zD,-zE,a4]
 refine zlm5 (z37q x) (fun i=>x.l.length-i) (fun i=>i≤x.l.length∧(x.l.take i).all lowU=true) 0 (z515 (by simp (disch:=first|omega|simp<;>omega|fail) [-zA,-zB,-zC,-zD,-zE,z37q,a4S0]) (by simp (disch:=first|omega|simp<;>omega|fail) [-zA,-zB,-zC,-zD,-zE,z37q,a4S0])) ⟨Nat.zero_le _,rfl⟩ (fun i hi => ?_)
 obtain ⟨k1,k2⟩:=hi
 by_cases g:i<x.l.length
 case neg =>
  have g':¬ (i:Int)<x.l.length:=by omega
  rw [List.take_of_length_le (by omega)] at k2
  have hr:fewU x.l=decide ((x.l.length:Int)≤40):=by
   unfold fewU; rw [k2,Bool.true_and]; exact decide_eq_decide.2 (by omega)
  rw [hr]
  simp (disch:=first|omega|simp<;>omega|fail) [-zA,-zB,-zC,-zD,-zE,z37q,a4L0,a4S0,hlx,g,g']
 have g':(i:Int)<x.l.length:=by omega
 have hx : ∀ H,zpsc H 6 (x.dv 6 ruC) i=some (.ref (ruC x.l[i])):=fun H=>x.idx zpvo g
 have hn:lowU x.l[i]=true→(x.l.take (i+1)).all lowU=true:=fun e=>by
  rw [List.take_succ_eq_append_getElem g,List.all_append,k2]; simp [e]
 have hf:lowU x.l[i]=false→fewU x.l=false:=fun e=>by
  unfold fewU
  rw [Bool.and_eq_false_iff]
  exact .inl (List.all_eq_false.2 ⟨_,List.getElem_mem g,by rw [e]; simp⟩)
 obtain ⟨u,hu⟩ : ∃ u,x.l[i]=u:=⟨_,rfl⟩
 rw [hu] at hx hn hf
 have big : ∀ s:Str,¬ s.length≤300→(300:Int)<s.length:=fun s h=>by omega
 have sml : ∀ s:Str,s.length≤300→¬ (300:Int)<s.length:=fun s h=>by omega
 have bn : ∀ s:Str,¬ s.length≤300→300<s.length:=fun s h=>by omega
 have sn : ∀ s:Str,s.length≤300→¬ 300<s.length:=fun s h=>by omega
 by_cases h1:u.pat.length≤300
 case neg =>
  rw [hf (by simp [lowU,h1])]
  simp (disch:=first|omega|simp<;>omega|fail) [-zA,-zB,-zC,-zD,-zE,z37q,a4L0,a4S0,hlx,g',hx,big _ h1,bn _ h1]
 by_cases h2:u.inn.length≤300
 case neg =>
  rw [hf (by simp [lowU,h2])]
  simp (disch:=first|omega|simp<;>omega|fail) [-zA,-zB,-zC,-zD,-zE,z37q,a4L0,a4S0,hlx,g',hx,sml _ h1,sn _ h1,big _ h2,bn _ h2]
 by_cases h3:u.to.length≤300
 case neg =>
  rw [hf (by simp [lowU,h3])]
  simp (disch:=first|omega|simp<;>omega|fail) [-zA,-zB,-zC,-zD,-zE,z37q,a4L0,a4S0,hlx,g',hx,sml _ h1,sn _ h1,sml _ h2,sn _ h2,big _ h3,bn _ h3]
 by_cases h4:u.frm.length≤300
 case neg =>
  rw [hf (by simp [lowU,h4])]
  simp (disch:=first|omega|simp<;>omega|fail) [-zA,-zB,-zC,-zD,-zE,z37q,a4L0,a4S0,hlx,g',hx,sml _ h1,sn _ h1,sml _ h2,sn _ h2,sml _ h3,sn _ h3,big _ h4,bn _ h4]
 have hn:=hn (by simp [lowU,h1,h2,h3,h4])
 simp (disch:=first|omega|simp<;>omega|fail) [-zA,-zB,-zC,-zD,-zE,z37q,a4L0,a4S0,hlx,g',hx,sml _ h1,sn _ h1,sml _ h2,sn _ h2,sml _ h3,sn _ h3,sml _ h4,sn _ h4]
 exact ⟨i+1,z515 (by simp (disch:=first|omega|simp<;>omega|fail) [-zA,-zB,-zC,-zD,-zE,z37q,a4S0]) (by simp (disch:=first|omega|simp<;>omega|fail) [-zA,-zB,-zC,-zD,-zE,z37q,a4S0]),by omega,by omega,List.all_eq_true.1 hn⟩
noncomputable def cFwU:List DV→Option DV:=con (fun _=>True) (fun x:Raw Rul=>[x.dv 6 ruC]) (fun x => .bool (fewU x.l))
theorem z1ma {x:Raw Rul}:cFwU [x.dv 6 ruC]=some (.bool (fewU x.l)):=zsn4 (f:=fun x:Raw Rul=>[x.dv 6 ruC]) (g:=fun x => .bool (fewU x.l)) (fun a b e=>by simp only [List.cons.injEq,and_true] at e; exact Raw.inj zpvo (by decide) (fun _ _=>z49a) e) x
def zwok (x:Raw LnkU) (i:Nat):St:=a5S0 (x.dv 3 lkU) (.int .i64 i) []
theorem z91n (x:Raw LnkU):Runs tbl0 a5 [x.dv 3 lkU] (.bool (zx9t x.l)):=by
 refine ⟨?_⟩
 have hb:=x.b
 have hlx : ∀ H,lenD H (x.dv 3 lkU)=some (.int .i64 x.l.length):=fun H=>x.len
 by_cases h10:x.l.length≤10
 case neg =>
  have h10':(10:Int)<x.l.length:=by omega
  have h10n:10<x.l.length:=by omega
  have hr:zx9t x.l=false:=by unfold zx9t; rw [decide_eq_false h10]; rfl
  rw [hr]
  simp (disch:=first|omega|simp<;>omega|fail) [-zA,-zB,-zC,-zD,-zE,a5,hlx,h10',h10n]
 have h10':¬ (10:Int)<x.l.length:=by omega
 have h10n:¬ 10<x.l.length:=by omega
 simp (disch:=first|omega|simp<;>omega|fail) [-zA,-zB,-zC,-zD,-zE,a5,hlx,h10',h10n]
 refine zlm5 (zwok x) (fun i=>x.l.length-i) (fun i=>i≤x.l.length ∧ ∀ u ∈ x.l.take i,ligB u=true) 0 (z515 (by simp (disch:=first|omega|simp<;>omega|fail) [-zA,-zB,-zC,-zD,-zE,zwok,a5S0]) (by simp (disch:=first|omega|simp<;>omega|fail) [-zA,-zB,-zC,-zD,-zE,zwok,a5S0])) ⟨Nat.zero_le _,by simp⟩ (fun i hi => ?_)
 obtain ⟨k1,k2⟩:=hi
 by_cases g:i<x.l.length
 case neg =>
  have g':¬ (i:Int)<x.l.length:=by omega
  rw [List.take_of_length_le (by omega)] at k2
  have hr:zx9t x.l=true:=by
   unfold zx9t; rw [decide_eq_true h10,Bool.true_and]; exact List.all_eq_true.2 k2
  rw [hr]
  simp (disch:=first|omega|simp<;>omega|fail) [-zA,-zB,-zC,-zD,-zE,zwok,a5L0,a5S0,hlx,g,g']
 have g':(i:Int)<x.l.length:=by omega
 have hx : ∀ H,zpsc H 3 (x.dv 3 lkU) i=some (.ref (lkU x.l[i])):=fun H=>x.idx zehx g
 have hn:ligB x.l[i]=true → ∀ u ∈ x.l.take (i+1),ligB u=true:=fun e u hu=>by
  rw [List.take_succ_eq_append_getElem g,List.mem_append] at hu
  rcases hu with hu|hu
  ·exact k2 u hu
  ·simp at hu; subst hu; exact e
 have hf:ligB x.l[i]=false→zx9t x.l=false:=fun e=>by
  unfold zx9t
  rw [Bool.and_eq_false_iff]
  exact .inr (List.all_eq_false.2 ⟨_,List.getElem_mem g,by rw [e]; simp⟩)
 obtain ⟨u,hu⟩ : ∃ u,x.l[i]=u:=⟨_,rfl⟩
 rw [hu] at hx hn hf
 have o1:oneC 1 false ((lkU u).drop 1)=some (u.m.dv 33 enC):=rfl
 have o2:oneC 1 false ((lkU u).drop 2)=some (u.p.dv 33 enC):=rfl
 have m1 : ∀ H,lenD H (u.m.dv 33 enC)=some (.int .i64 u.m.l.length):=fun H=>u.m.len
 have m2 : ∀ H,lenD H (u.p.dv 33 enC)=some (.int .i64 u.p.l.length):=fun H=>u.p.len
 by_cases h1:u.m.l.length≤40
 case neg =>
  have c1:(40:Int)<u.m.l.length:=by omega
  have c2:40<u.m.l.length:=by omega
  rw [hf (by simp [ligB,h1])]
  simp (disch:=first|omega|simp<;>omega|fail) [-zA,-zB,-zC,-zD,-zE,zwok,a5L0,a5S0,hlx,g',hx,o1,o2,m1,m2,c1,c2]
 have c1:¬ (40:Int)<u.m.l.length:=by omega
 have c2:¬ 40<u.m.l.length:=by omega
 by_cases h2:u.p.l.length≤40
 case neg =>
  have d1:(40:Int)<u.p.l.length:=by omega
  have d2:40<u.p.l.length:=by omega
  rw [hf (by simp [ligB,h2])]
  simp (disch:=first|omega|simp<;>omega|fail) [-zA,-zB,-zC,-zD,-zE,zwok,a5L0,a5S0,hlx,g',hx,o1,o2,m1,m2,c1,c2,d1,d2]
 have d1:¬ (40:Int)<u.p.l.length:=by omega
 have d2:¬ 40<u.p.l.length:=by omega
 have hn:=hn (by simp [ligB,h1,h2])
 simp (disch:=first|omega|simp<;>omega|fail) [-zA,-zB,-zC,-zD,-zE,zwok,a5L0,a5S0,hlx,g',hx,o1,o2,m1,m2,c1,c2,d1,d2]
 exact ⟨i+1,z515 (by simp (disch:=first|omega|simp<;>omega|fail) [-zA,-zB,-zC,-zD,-zE,zwok,a5S0]) (by simp (disch:=first|omega|simp<;>omega|fail) [-zA,-zB,-zC,-zD,-zE,zwok,a5S0]),by omega,by omega,hn⟩
noncomputable def cLiU:List DV→Option DV:=con (fun _=>True) (fun x:Raw LnkU=>[x.dv 3 lkU]) (fun x => .bool (zx9t x.l))
theorem zluk {x:Raw LnkU}:cLiU [x.dv 3 lkU]=some (.bool (zx9t x.l)):=zsn4 (f:=fun x:Raw LnkU=>[x.dv 3 lkU]) (g:=fun x => .bool (zx9t x.l)) (fun a b e=>by simp only [List.cons.injEq,and_true] at e; exact Raw.inj zehx (by decide) (fun _ _=>zerz) e) x
noncomputable def z8kn:Tbl:=addT 4 (.pure cFwU) (addT 5 (.pure cLiU) (addT 6 (.tch cMa3) tbl0))
theorem zsv3:z8kn 4 = .pure cFwU:=by simp [z8kn]
theorem zyy2:z8kn 5 = .pure cLiU:=by simp [z8kn]
theorem ztdg:z8kn 6 = .tch cMa3:=by simp [z8kn]
theorem z07b:z8kn.Sound P:=z0rp (z2au fun x _=>zljw mix zr5o Tryz.func4 zn8d (z3bn x)) (z0rp (z2au fun x _=>zljw mix zr5o Tryz.func5 zonh (z91n x)) (z0rp zcri zr5o))
noncomputable def zvip:Tbl:=addT 10 (.pure cApp) (addT 11 (.pure cApR) (addT 9 (.pure cSm3) (addT 12 (.pure cStr) (addT 13 (.pure cStr) (addT 14 (.pure cTr) tbl0)))))
theorem za49:zvip 10 = .pure cApp:=by simp [zvip]
theorem zps4:zvip 11 = .pure cApR:=by simp [zvip]
theorem zm1e:zvip 9 = .pure cSm3:=by simp [zvip]
theorem zzsi:zvip 12 = .pure cStr:=by simp [zvip]
theorem zzs2:zvip 13 = .pure cStr:=by simp [zvip]
theorem zas4:zvip 14 = .pure cTr:=by simp [zvip]
theorem zt4u:zvip.Sound P:=z0rp zhri (z0rp z52n (z0rp z8gp (z0rp zabo (z0rp za9e (z0rp (zql9 z7b9) zr5o)))))
def cas2 (X Y:C13):DV := .sl true 5 2 (csC X++csC Y)
def lst2 (L M:Sl Rul):DV := .sl true 1 2 [L.dv 6 ruC,M.dv 6 ruC]
def zgwv (L M:Sl Rul) (X Y:C13) (i:Nat):St:=a3S0 (L.dv 6 ruC) (M.dv 6 ruC) (cas2 X Y) (.int .i64 2) (.int .i64 i) []
def zbri (L M:Sl Rul) (X Y z:C13) (i k:Nat):St:=a3S1 (L.dv 6 ruC) (M.dv 6 ruC) (.mp 0 5 0) (cas2 X Y) (.int .i64 2) (.int .i64 i) (lst2 L M) (.int .i64 2) (.int .i64 k) [.cells (csC z)]
theorem zt0b {X Y:C13}:bslD 5 2 [.str [],.nils,.nils,.nils,.bool false] [(0,5,.agg (csC X)),(5,5,.agg (csC Y))]=some (cas2 X Y):=rfl
theorem zeya {L M:Sl Rul}:bslD 1 2 [.nils] [(0,1,L.dv 6 ruC),(1,1,M.dv 6 ruC)]=some (lst2 L M):=by
 rw [z7bw (by simp [ztw5]) (by simp [seqD,zfr8])]; simp [seqD,zfr8,lst2]
theorem zwdy {X Y:C13}:zyp8 (cas2 X Y)=true:=zg0c (ztlc X) (ztlc Y)
theorem zakn {L M:Sl Rul}:zyp8 (lst2 L M)=true:=by simp only [lst2,zyp8,zbao,zy5l,Bool.and_self]
theorem zw6x {l:List Rul} {pr:Bool} {x:Lnk} {d:Sl Lnk} (h:(zmoc pr x).l.length≤1000):zmw5 (rqOf (zmoc pr x).l.length (zr9o l pr x d)) (refQ (zr9o l pr x d))=true:=by
 have hle:=z8gs l pr x d
 have h1:(rqOf (zmoc pr x).l.length (zr9o l pr x d)).q.l=(zr9o l pr x d).le:=qS_l hle (by omega)
 have h2:(refQ (zr9o l pr x d)).q.l=(zr9o l pr x d).le:=zd8n (by omega)
 unfold zmw5
 rw [h1,h2]
 simp [rqOf,refQ]
attribute [local irreducible] z7ym zyjl zd2t zxwj ownN tpN zj0v mdA mdE1 mdB mdE2 mdE3 mdT mdM mdE4 mdC mdU madC madT rlsV rulV rulT zr9o appL
theorem z2ly (L M:Sl Rul) (X Y:C13) (hX:(zmoc X.pr X.self).l.length≤1000) (hY:(zmoc Y.pr Y.self).l.length≤1000) (st:St) (hst:Weak 0 st (zgwv L M X Y 0)) (k:ACode) (hk:k = .seq (.region false [⟨none,(some 81),.call (.k (.fn (.func 14) [] [])) []⟩,⟨none,(some 6),.mov (.t 81)⟩]) .ret) :
  W zvip 0 (.loop a3L0) (z0mx 0 (seqK zvip 0 k (retK a3.res (.bool true)))) st:=by
 subst hk
 refine zlm5 (zgwv L M X Y) (fun i=>2-i) (fun i=>i≤2) 0 hst (by omega) (fun i hi => ?_)
 simp only [zgwv]
 by_cases g:i<2
 case neg =>
  obtain rfl:i=2:=by omega
  simp (disch:=first|omega|simp<;>omega|fail) [-zA,-zB,-zC,-zD,-zE,a3L0,a3S0,zas4,zjnj,a3]
 have g':(i:Int)<2:=by omega
 obtain ⟨z,hz,hzl⟩ : ∃ z:C13,(∀ H,zpsc H 5 (cas2 X Y) i=some (.ref (csC z)))∧(zmoc z.pr z.self).l.length≤1000:=by
  rcases (show i=0∨i=1 by omega) with rfl|rfl
  ·exact ⟨X,fun H=>rfl,hX⟩
  ·exact ⟨Y,fun H=>rfl,hY⟩
 have h1z:oneC 5 true (csC z)=some (.agg (csC z)):=rfl
 have hpc:=zwdy (X:=X) (Y:=Y)
 obtain ⟨C2,hC2⟩ : ∃ C2,cas2 X Y=C2:=⟨_,rfl⟩
 have hpl:=zakn (L:=L) (M:=M)
 have hbl:=zeya (L:=L) (M:=M)
 have hfd:DV.sl true 1 2 [L.dv 6 ruC,M.dv 6 ruC]=lst2 L M:=rfl
 rw [hC2] at hz hpc
 rw [hC2]
 have hso : ∀ (h:List AObj) (id:Nat),zy6o h id 5 0 (.agg (csC z)) (some [.str [],.nils,.nils,.nils,.bool false])=some (.junk,h.set id (.cells (csC z))):=fun h id=>zle8
 have hll : ∀ H,lenD H (lst2 L M)=some (.int .i64 2):=fun H=>rfl
 simp (disch:=first|omega|simp<;>omega|fail) [-zA,-zB,-zC,-zD,-zE,a3L0,a3S0,g',hz,h1z,hso,hbl,hll,hfd]
 refine zlm5 (zbri L M X Y z i) (fun k=>2-k) (fun k=>k≤2) 0 (z515 (by simp (disch:=first|omega|simp<;>omega|fail) [-zA,-zB,-zC,-zD,-zE,zbri,a3S1,hC2]) (by simp (disch:=first|omega|simp<;>omega|fail) [-zA,-zB,-zC,-zD,-zE,zbri,a3S1])) (by omega) (fun k hk => ?_)
 simp only [zbri]
 rw [hC2]
 by_cases c:k<2
 case neg =>
  obtain rfl:k=2:=by omega
  simp (disch:=first|omega|simp<;>omega|fail) [-zA,-zB,-zC,-zD,-zE,a3L1,a3S1]
  exact ⟨i+1,zju2 (tail:=[.cells (csC z)]) (by simp (disch:=first|omega|simp<;>omega|fail) [-zA,-zB,-zC,-zD,-zE,zgwv,a3S0,hC2]) (by simp (disch:=first|omega|simp<;>omega|fail) [-zA,-zB,-zC,-zD,-zE,zgwv,a3S0]) (Nat.zero_le _) (by simp (disch:=first|omega|simp<;>omega|fail) [-zA,-zB,-zC,-zD,-zE,zgwv,a3S0,z1r6,Am.below,z8b8 _ _ (zy5l L),z8b8 _ _ (zy5l M),hC2,z8b8 _ _ hpc]) (by simp (disch:=first|omega|simp<;>omega|fail) [-zA,-zB,-zC,-zD,-zE,zgwv,a3S0,zlf2]),by omega,by omega⟩
 have c':(k:Int)<2:=by omega
 obtain ⟨R,hR⟩ : ∃ R:Sl Rul,∀ H,zpsc H 1 (lst2 L M) k=some (.ref [R.dv 6 ruC]):=by
  rcases (show k=0∨k=1 by omega) with rfl|rfl
  ·exact ⟨L,fun H=>rfl⟩
  ·exact ⟨M,fun H=>rfl⟩
 have k1:=zqfs (l:=R) (pr:=z.pr) (x:=z.self) (done:=z.done) (by omega)
 have k2:=zzov (l:=R) (pr:=z.pr) (x:=z.self) (d:=z.done) hzl
 rw [zf38] at k1
 have hs:=zw6x (l:=R.l) (pr:=z.pr) (x:=z.self) (d:=z.done) hzl
 obtain ⟨A,hA⟩ : ∃ A,rqOf (zmoc z.pr z.self).l.length (zr9o R.l z.pr z.self z.done)=A:=⟨_,rfl⟩
 obtain ⟨B,hB⟩ : ∃ B,refQ (zr9o R.l z.pr z.self z.done)=B:=⟨_,rfl⟩
 rw [hA] at k1 hs
 rw [hB] at k2 hs
 have k3:=z88z (a:=A) (b:=B)
 rw [hs] at k3
 have k4:=zg71 (x:=R)
 obtain ⟨b,hb⟩ : ∃ b,zaba R.l=b:=⟨_,rfl⟩
 rw [hb] at k4
 have hpR:=zy5l R
 have hpd:=zys6 z.done
 have hpA:zyp8 (.agg (rsC A))=true:=by simp only [zyp8,zbp7]
 have hpB:zyp8 (.agg (rsC B))=true:=by simp only [zyp8,zbp7]
 have h1R:oneC 1 false [R.dv 6 ruC]=some (R.dv 6 ruC):=rfl
 obtain ⟨L2,hL2⟩ : ∃ L2,lst2 L M=L2:=⟨_,rfl⟩
 rw [hL2] at hR
 rw [hL2]
 simp (disch:=first|omega|simp<;>omega|fail) [-zA,-zB,-zC,-zD,-zE,a3L1,a3S1,c',hR,h1R,zadp,zkd9,zhjn,z167,za49,k1,zps4,k2,zm1e,k3,zzsi,zzs2,k4,hpR,hpd,zbp7]
 exact ⟨k+1,z515 (by simp (disch:=first|omega|simp<;>omega|fail) [-zA,-zB,-zC,-zD,-zE,zbri,a3S1,hC2,hL2]) (by simp (disch:=first|omega|simp<;>omega|fail) [-zA,-zB,-zC,-zD,-zE,zbri,a3S1]),by omega,by omega⟩
end Go.Proofs.YtjknipdiglpnlaaGreatDoor
set_option linter.unusedSimpArgs false
set_option linter.unusedVariables false
set_option maxRecDepth 20000
namespace Go.Proofs.YtjknipdiglpnlaaGreatDoor
open Go Go.Am
theorem z3z9 {X:CasU} (h:ligB X.self=true):(zmoc X.to.pr X.to.self).l.length≤1000:=by
 unfold ligB at h
 simp only [Bool.and_eq_true,decide_eq_true_eq] at h
 have h1:(X.to.self.m).l=X.self.m.l:=Raw.sl_l (by omega)
 have h2:(X.to.self.p).l=X.self.p.l:=Raw.sl_l (by omega)
 unfold zmoc
 split
 ·rw [h2]; omega
 ·rw [h1]; omega
theorem zx31 {L:Raw Rul} (h:fewU L.l=true):L.l.length≤40:=by
 unfold fewU at h
 simp only [Bool.and_eq_true,decide_eq_true_eq] at h
 exact h.2
def z5vs:ACode:=match a3.code with | .seq _ (.seq _ r)=>r|c=>c
attribute [local irreducible] z7ym zyjl zd2t zxwj ownN tpN zj0v mdA mdE1 mdB mdE2 mdE3 mdT mdM mdE4 mdC mdU madC madT rlsV rulV rulT zr9o appL
theorem zbrk (L:Sl Rul) (X:C13) (hX:(zmoc X.pr X.self).l.length≤1000) (x:Nl) :
  V P 0 z5vs (retK a3.res (.bool true)) ⟨[L.dv 6 ruC,.junk,x.dv,.junk,.ref (csC X)]++js 77,[]⟩:=by
 have t0:(nlT x).at_=0:=rfl
 have hbt:=z9k1 x
 obtain ⟨t,ht⟩ : ∃ t,nlT x=t:=⟨_,rfl⟩
 rw [ht] at t0 hbt
 have hm:=zru6 (t:=t) (by omega)
 have hat:=(z1bh t (by omega)).2.2.2.2.2.2.2.2.2.2.2
 have hat2:=z99m t
 have hg:=zkct t (by omega)
 have hrl:=(z1ku (madT t) 6).2
 have hTs:=zj6x (t:=madT t) (m:=6) (by omega) (by omega)
 have hcs:=z5n7 t
 obtain ⟨c,hc⟩ : ∃ c,madC t=c:=⟨_,rfl⟩
 rw [hc] at hm hcs
 obtain ⟨u,hu⟩ : ∃ u,madT t=u:=⟨_,rfl⟩
 rw [hu] at hm hrl hTs hat2
 have hT1:=z9kq (t:=u) (m:=6)
 have hT2:=z0f9 (t:=u) (m:=6)
 obtain ⟨T,hT⟩ : ∃ T,zm02 u 6=T:=⟨_,rfl⟩
 rw [hT] at hTs hT1 hT2
 obtain ⟨R,hR⟩ : ∃ R,rlsV u 6=R:=⟨_,rfl⟩
 rw [hR] at hrl hT2
 obtain ⟨w,M⟩:=R
 simp only at hrl hT2
 have hpt:ptH [.mp 0 2 0,stpD,.int .i64 6] [.cells (tpC u)] (oV 1 6 M) (.cells (tpC w)::oT ruC M) [.mp 0 2 0,stpD,.int .i64 6] [.cells (tpC u)]=some (oV 1 6 M,.cells (tpC w)::oT ruC M):=zpvh
 have hT2:T 7 = .heap (ptH [.mp 0 2 0,stpD,.int .i64 6] [.cells (tpC u)] (oV 1 6 M) (.cells (tpC w)::oT ruC M)):=hT2
 obtain ⟨pt,hptn⟩ : ∃ pt,ptH [.mp 0 2 0,stpD,.int .i64 6] [.cells (tpC u)] (oV 1 6 M) (.cells (tpC w)::oT ruC M)=pt:=⟨_,rfl⟩
 rw [hptn] at hpt hT2
 have hsl:(zmoc c.pr c.self).l.length≤20:=by
  rw [hcs]
  cases c.pr with
  | false=>exact hg.2.2.2.2.1
  | true=>exact hg.2.2.2.2.2
 have hmk:=zj9a (f:=ruC) (K:=6) (u:=w) (L:=M) zpvo z3bz (by omega)
 obtain ⟨Z,hZ⟩ : ∃ Z,ownN M=Z:=⟨_,rfl⟩
 rw [hZ] at hmk
 have hlp:=z2ly L Z X c hX (by omega)
 obtain ⟨A,hA⟩ : ∃ A,a3.res=A:=⟨_,rfl⟩
 rw [hA] at hlp ⊢
 have hbt2 : ∀ h,boxD h (.agg (tpC t))=some (.mp h.length 2 0,h++[.cells (tpC t)]):=fun h=>by rw [zn72]; rfl
 simp only [z5vs,a3]
 refine zbn1 (V_W mix zr5o ?_)
 simp (disch:=first|omega|simp<;>omega|fail) [-zA,-zB,-zC,-zD,-zE,hbt,hbt2]
 refine zbn1 (V_W mix z07b ?_)
 simp (disch:=first|omega|simp<;>omega|fail) [-zA,-zB,-zC,-zD,-zE,ztdg,hm,zle8]
 have e1:=zz5t (H:=[.cells (tpC u)]) (cs:=csC c) (off:=0) (ztlc c)
 have e2 : ∀ h,mk1 (kLt 1) h (.mp 0 2 0) = .mp 0 2 0:=fun h=>zd3c (by simp [Am.below])
 have e3 : ∀ h (c:C13),mk1 (kLt 1) h (.ref (csC c)) = .ref (csC c):=fun h c=>zvft (by simp only [zyp8,ztlc])
 have e4 : ∀ h,mk1 (kLt 1) h (L.dv 6 ruC)=L.dv 6 ruC:=fun h=>zvft (zy5l L)
 refine zs10 (n0:=0) (H:=[.cells (tpC u)]) (cs:=csC c) (t':=[L.dv 6 ruC,.junk,.junk,.junk,.ref (csC X),.junk,.junk,.mp 0 2 0,.ref (csC c)]++js 73) (by simp only [zlf2,zmq5 _ _ (zs7w u),Bool.and_self]) (by simp) ?_ (by simp (disch:=first|omega|simp<;>omega|fail) [-zA,-zB,-zC,-zD,-zE,z1r6,Am.below,zmq5 _ _ (ztlc c),zmq5 _ _ (ztlc X),z8b8 _ _ (zy5l L)]) ?_
 ·simp only [zadp,List.drop_zero,List.length_singleton,List.cons_append,List.nil_append] at e1
  simp (disch:=first|omega|simp<;>omega|fail) [-zA,-zB,-zC,-zD,-zE,e1,e2,e3,e4,-z1bt,-zdpe]
 refine zbn1 (V_W mix hTs ?_)
 simp (disch:=first|omega|simp<;>omega|fail) [-zA,-zB,-zC,-zD,-zE,hT1,za8k,hT2,hpt]
 refine z0em (n0:=0) (H:=[.cells (tpC w)]) (R:=oT ruC M) (t':=[L.dv 6 ruC,.junk,.junk,.junk,.ref (csC X),.junk,.junk,.junk,.ref (csC c),Z.dv 6 ruC]++js 72) (by simp only [zlf2,zmq5 _ _ (zs7w w),Bool.and_self]) (by simp) ?_ (by simp (disch:=first|omega|simp<;>omega|fail) [-zA,-zB,-zC,-zD,-zE,z1r6,Am.below,zmq5 _ _ (ztlc c),zmq5 _ _ (ztlc X),z8b8 _ _ (zy5l Z),z8b8 _ _ (zy5l L)]) ?_
 ·simp only [List.length_singleton,List.cons_append,List.nil_append]
  simp (disch:=first|omega|simp<;>omega|fail) [-zA,-zB,-zC,-zD,-zE,hmk,e3,e4,-z1bt,-zdpe]
 have h1z : ∀ z,oneC 5 true (csC z)=some (.agg (csC z)):=fun z=>rfl
 have hbc:=zt0b (X:=X) (Y:=c)
 have hpc:=zwdy (X:=X) (Y:=c)
 have hlc : ∀ H,lenD H (cas2 X c)=some (.int .i64 2):=fun H=>rfl
 have hS:zgwv L Z X c 0=a3S0 (L.dv 6 ruC) (Z.dv 6 ruC) (cas2 X c) (.int .i64 2) (.int .i64 0) []:=rfl
 rw [hS] at hlp
 obtain ⟨C2,hC2⟩ : ∃ C2,cas2 X c=C2:=⟨_,rfl⟩
 rw [hC2] at hbc hlc hpc hlp
 refine V_W mix zt4u ?_
 simp (disch:=first|omega|simp<;>omega|fail) [-zA,-zB,-zC,-zD,-zE,h1z,hbc,hlc]
 refine hlp _ (zju2 (tail:=[.cells (tpC w)]) (by simp (disch:=first|omega|simp<;>omega|fail) [-zA,-zB,-zC,-zD,-zE,a3S0]) (by simp (disch:=first|omega|simp<;>omega|fail) [-zA,-zB,-zC,-zD,-zE,a3S0]) (Nat.zero_le _) (by simp (disch:=first|omega|simp<;>omega|fail) [-zA,-zB,-zC,-zD,-zE,a3S0,z1r6,Am.below,z8b8 _ _ (zy5l L),z8b8 _ _ (zy5l Z),z8b8 _ _ hpc]) (by simp (disch:=first|omega|simp<;>omega|fail) [-zA,-zB,-zC,-zD,-zE,a3S0,zlf2])) _ rfl
theorem zdha (L:Raw Rul) (X:CasU) (x:Nl):V P 0 a3.code (retK a3.res (.bool true)) ⟨zr5g a3.ntmps [L.dv 6 ruC,.agg (caU X),x.dv],[]⟩:=by
 have hbx : ∀ h,boxD h (.agg (caU X))=some (.mp h.length 5 0,h++[.cells (caU X)]):=fun h=>by rw [zn72,z1nh]
 have c1:=z1ma (x:=L)
 have c2:=zluk (x:=X.done)
 have c3:=zluk (x:=⟨some true,[X.self],by simp,by simp⟩)
 have h3:(⟨some true,[X.self],by simp,by simp⟩:Raw LnkU).dv 3 lkU = .sl true 3 1 (lkU X.self):=by simp [Raw.dv,slD]
 have h4:zx9t [X.self]=ligB X.self:=by simp [zx9t]
 rw [h3] at c3
 have c3:cLiU [.sl true 3 1 (lkU X.self)]=some (.bool (ligB X.self)):=by rw [c3]; simp only [h4]
 have hb1:bslD 3 1 [.str [],.nils,.nils] [(0,3,.agg (lkU X.self))]=some (.sl true 3 1 (lkU X.self)):=rfl
 have o1:oneC 1 false ((caU X).drop 3)=some (X.done.dv 3 lkU):=rfl
 have o2:oneC 3 true (caU X)=some (.agg (lkU X.self)):=rfl
 have p1:=L.pure z3bz (s:=6)
 have p2:=X.done.pure zx98 (s:=3)
 have p3:zbao (lkU X.self)=true:=zx98 X.self
 have hk1:=L.known (s:=6) (f:=ruC)
 have e1:=zz5t (H:=[]) (cs:=caU X) (off:=0) (z711 X)
 have e4 : ∀ h,mk1 (kLt 0) h (L.dv 6 ruC)=L.dv 6 ruC:=fun h=>zvft p1
 have px:zyp8 x.dv=true:=by
  have:=zs7w (nlT x)
  rw [z1ga] at this
  simp only [zbao,Bool.and_eq_true] at this
  exact this.1
 have e5 : ∀ h,mk1 (kLt 0) h x.dv=x.dv:=fun h=>zvft px
 have htl:=zbrk L.sl X.to
 obtain ⟨A,hA⟩ : ∃ A,a3.res=A:=⟨_,rfl⟩
 rw [hA] at htl ⊢
 refine zbn1 (V_W mix zr5o ?_)
 simp (disch:=first|omega|simp<;>omega|fail) [-zA,-zB,-zC,-zD,-zE,a3,hbx]
 refine zs10 (n0:=0) (H:=[]) (cs:=caU X) (t':=[L.dv 6 ruC,.junk,x.dv,.junk,.ref (caU X)]++js 77) (by rfl) (by simp) ?_ (by simp (disch:=first|omega|simp<;>omega|fail) [-zA,-zB,-zC,-zD,-zE,z1r6,Am.below,zmq5 _ _ (z711 X),z8b8 _ _ p1,z8b8 _ _ px]) ?_
 ·simp only [z1nh,List.drop_zero,List.length_nil,List.nil_append] at e1
  simp (disch:=first|omega|simp<;>omega|fail) [-zA,-zB,-zC,-zD,-zE,e1,e4,e5,-z1bt,-zdpe]
 refine zbn1 (zbn1 (V_W mix z07b ?_))
 obtain ⟨b1,hb1'⟩ : ∃ b,fewU L.l=b:=⟨_,rfl⟩
 obtain ⟨b2,hb2'⟩ : ∃ b,zx9t X.done.l=b:=⟨_,rfl⟩
 obtain ⟨b3,hb3'⟩ : ∃ b,ligB X.self=b:=⟨_,rfl⟩
 rw [hb1'] at c1
 rw [hb2'] at c2
 rw [hb3'] at c3
 cases b1 with
 | false =>
  simp (disch:=first|omega|simp<;>omega|fail) [-zA,-zB,-zC,-zD,-zE,zsv3,c1,p1,z1nh]
  refine V_W mix zr5o ?_
  simp (disch:=first|omega|simp<;>omega|fail) [-zA,-zB,-zC,-zD,-zE]
  rw [← hA]
  simp (disch:=first|omega|simp<;>omega|fail) [-zA,-zB,-zC,-zD,-zE,a3]
 | true =>
 cases b2 with
 | false =>
  simp (disch:=first|omega|simp<;>omega|fail) [-zA,-zB,-zC,-zD,-zE,zsv3,c1,p1,z1nh,o1,zyy2,c2,p2]
  refine V_W mix zr5o ?_
  simp (disch:=first|omega|simp<;>omega|fail) [-zA,-zB,-zC,-zD,-zE]
  rw [← hA]
  simp (disch:=first|omega|simp<;>omega|fail) [-zA,-zB,-zC,-zD,-zE,a3]
 | true =>
 cases b3 with
 | false =>
  simp (disch:=first|omega|simp<;>omega|fail) [-zA,-zB,-zC,-zD,-zE,zsv3,c1,p1,z1nh,o1,zyy2,c2,p2,o2,hb1,c3,p3]
  refine V_W mix zr5o ?_
  simp (disch:=first|omega|simp<;>omega|fail) [-zA,-zB,-zC,-zD,-zE]
  rw [← hA]
  simp (disch:=first|omega|simp<;>omega|fail) [-zA,-zB,-zC,-zD,-zE,a3]
 | true =>
  have hfl:=zx31 hb1'
  have hL:L.sl.dv 6 ruC=L.dv 6 ruC:=Raw.sl_dv (by omega)
  have hX:=zx7g hb3' hb2'
  have htl:=htl (z3z9 hb3') x
  rw [hL,hX] at htl
  simp (disch:=first|omega|simp<;>omega|fail) [-zA,-zB,-zC,-zD,-zE,zsv3,c1,p1,z1nh,o1,zyy2,c2,p2,o2,hb1,c3,p3]
  refine V_W mix zr5o ?_
  simp (disch:=first|omega|simp<;>omega|fail) [-zA,-zB,-zC,-zD,-zE]
  exact zqfd (z515 (by simp (disch:=first|omega|simp<;>omega|fail) [-zA,-zB,-zC,-zD,-zE]) rfl) htl
abbrev yLkU:Ty := .st [.str,.sl yEn,.sl yEn]
abbrev yCas:Ty := .st [yLkU,.sl yLkU,.bool]
theorem zar1 {α:Type} {e:Ty} {f:α→List DV} {R:α→Prop} {s:Nat} (hs:e.size=s) (he : ∀ ds,e.Ok ds → ∃ a,R a∧ds=f a) {ds:List DV} (h:Ty.Ok (.sl e) ds) : ∃ x:Raw α,ds=[x.dv s f]:=by
 obtain ⟨k,l,h1,_,rfl,hb⟩:=z61h he h
 exact ⟨⟨k,l,h1,hb⟩,by rw [hs]; rfl⟩
theorem zci1 {ds:List DV} (h:Ty.Ok yRu ds) : ∃ r:Rul,True∧ds=ruC r:=by
 simp only [yRu,Ty.Ok,Ty.OkL] at h
 obtain ⟨a1,b1,rfl,⟨n1,rfl,_⟩,a2,b2,rfl,⟨s2,rfl⟩,a3,b3,rfl,⟨s3,rfl⟩,a4,b4,rfl,⟨s4,rfl⟩,a5,b5,rfl,⟨s5,rfl⟩,a6,b6,rfl,⟨s6,rfl⟩,rfl⟩:=h
 exact ⟨⟨n1,s2,s3,s4,s5,s6⟩,trivial,by simp [ruC]⟩
theorem zfvx {ds:List DV} (h:Ty.Ok yLkU ds) : ∃ x:LnkU,True∧ds=lkU x:=by
 rw [yLkU,Ty.Ok] at h
 simp only [Ty.OkL] at h
 obtain ⟨a1,b1,rfl,h1,a2,b2,rfl,h2,a3,b3,rfl,h3,rfl⟩:=h
 obtain ⟨s1,rfl⟩:=(show ∃ s,a1=[.str s] from h1)
 obtain ⟨x2,rfl⟩:=zar1 (f:=enC) (s:=33) (R:=fun _=>True) rfl (fun ds h=>okEn h) h2
 obtain ⟨x3,rfl⟩:=zar1 (f:=enC) (s:=33) (R:=fun _=>True) rfl (fun ds h=>okEn h) h3
 exact ⟨⟨s1,x2,x3⟩,trivial,by simp [lkU]⟩
theorem zd5k {ds:List DV} (h:Ty.Ok yCas ds) : ∃ x:CasU,ds=caU x:=by
 rw [yCas,Ty.Ok] at h
 simp only [Ty.OkL] at h
 obtain ⟨a1,b1,rfl,h1,a2,b2,rfl,h2,a3,b3,rfl,h3,rfl⟩:=h
 obtain ⟨x1,_,rfl⟩:=zfvx h1
 obtain ⟨x2,rfl⟩:=zar1 (f:=lkU) (s:=3) (R:=fun _=>True) rfl (fun ds h=>zfvx h) h2
 obtain ⟨b,rfl⟩:=(show ∃ b:Bool,a3=[.bool b] from h3)
 exact ⟨⟨x1,x2,b⟩,by simp [caU]⟩
namespace rulesApplies
theorem law_holds (dvs) (h:Ty.Args [.sl yRu,yCas,.sl (.int .i64)] dvs):Am.Sem P 3 dvs (.bool true):=by
 obtain ⟨d1,l1,rfl,h1,d2,l2,rfl,h2,d3,l3,rfl,h3,rfl⟩:=h
 obtain ⟨L,rfl⟩:=zar1 (f:=ruC) (s:=6) (R:=fun _=>True) rfl (fun ds h=>zci1 h) h1
 obtain ⟨X,rfl⟩:=zd5k h2
 obtain ⟨x,_,rfl⟩:=zjzy h3
 exact znz9 Tryz.func3 z842 (zdha L X x)
end rulesApplies
end Go.Proofs.YtjknipdiglpnlaaGreatDoor
