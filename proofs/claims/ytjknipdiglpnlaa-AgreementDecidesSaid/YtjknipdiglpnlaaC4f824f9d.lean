/-
  6 texts of mine in one.
-/
import Derived.Test.YtjknipdiglpnlaaCcd3143aa
import Derived.Test.YtjknipdiglpnlaaCe656babf
import Derived.Test.YtjknipdiglpnlaaCf7009e0f
import Derived.Test.YtjknipdiglpnlaaC7d5a05df
import Derived.Test.YtjknipdiglpnlaaC3bc791cf
import Derived.Test.YtjknipdiglpnlaaC4304ffa3
set_option maxRecDepth 20000
set_option maxHeartbeats 4000000
open List renaming map_take → zA, map_drop → zB, map_set → zC, map_append → zD, drop_one → zE
open Bool renaming or_eq_false_iff → y02
open Int renaming toNat_of_nonneg → y03
open List renaming length_map → y00, cons_append → y01
namespace Go.Proofs.Ytjknipdiglpnlaa
section
set_option linter.unusedSimpArgs false
set_option linter.unusedVariables false
open Go Go.Am
theorem zar1 {α:Type} {e:Ty} {f:α→List DV} {R:α→Prop} {s:Nat} (hs:e.size=s) (he : ∀ ds,e.Ok ds → ∃ a,R a∧ds=f a) {ds:List DV} (h:Ty.Ok (.sl e) ds) : ∃ x:Raw α,ds=[x.dv s f]:=by
 obtain ⟨k,l,h1,_,rfl,hb⟩:=z61h he h
 exact ⟨⟨k,l,h1,hb⟩,by rw [hs]; rfl⟩
def cutS {B:Nat} {α:Type} (x:SlB B α):Sl α:=if h:x.l.length≤4294967296 then ⟨x.k,x.l,x.h,h⟩ else nilS
theorem z841 {B:Nat} {α:Type} {x:SlB B α} {s:Nat} {f:α→List DV} (h:x.l.length≤4294967296):(cutS x).dv s f=x.dv s f:=by unfold cutS; rw [dif_pos h]; rfl
theorem z673 {B:Nat} {α:Type} {x:SlB B α} (h:x.l.length≤4294967296):(cutS x).l=x.l:=by unfold cutS; rw [dif_pos h]
abbrev yDg:Ty := .arr 32 (.int .u8)
abbrev yEn:Ty := .st [.str,yDg]
abbrev yVa:Ty := .st [.str,.str]
abbrev yRe:Ty := .st [.str,.str,.str,.int .i64,.sl .str,.sl yVa,.sl yEn,.sl yEn]
abbrev yAt:Ty := .st [.str,yRe]
abbrev yRu:Ty := .st [.int .i64,.str,.str,.bool,.str,.str]
abbrev ySp:Ty := .st [.str,.bool,.int .i64,.sl .str,.sl .str,.sl yRu,.sl yRu]
theorem okEn {ds:List DV} (h:Ty.Ok yEn ds) : ∃ x:Ent,True∧ds=enC x:=by
 simp only [yEn,Ty.Ok,Ty.OkL] at h
 obtain ⟨a1,b1,rfl,h1,a2,b2,rfl,h2,rfl⟩:=h
 obtain ⟨s1,rfl⟩:=h1
 obtain ⟨b,hb,rfl⟩:=zgcd (show Ty.Ok yDg a2 by simpa only [Ty.Ok] using h2)
 exact ⟨⟨s1,⟨b,hb⟩⟩,trivial,by simp [enC,dgC]⟩
theorem zghc {ds:List DV} (h:Ty.Ok (.sl yEn) ds) : ∃ x:Raw Ent,ds=[x.dv 33 enC]:=zar1 (R:=fun _=>True) rfl (fun ds h=>okEn h) h
theorem z5qe {ds:List DV} (h:Ty.Ok (.sl .str) ds) : ∃ x:Raw Str,ds=[x.dv 1 stC] :=
 zar1 (f:=stC) (R:=fun _=>True) rfl (fun ds h=>by obtain ⟨s,rfl⟩:=(show ∃ s,ds=[.str s] from h); exact ⟨s,trivial,rfl⟩) h
theorem zxac {ds:List DV} (h:Ty.Ok (.sl yVa) ds) : ∃ x:Raw Vrb,ds=[x.dv 2 vaC] :=
 zar1 (f:=vaC) (R:=fun _=>True) rfl (fun ds h=>by
  simp only [yVa,Ty.Ok,Ty.OkL] at h
  obtain ⟨a1,b1,rfl,⟨s1,rfl⟩,a2,b2,rfl,⟨s2,rfl⟩,rfl⟩:=h
  exact ⟨⟨s1,s2⟩,trivial,by simp [vaC]⟩) h
theorem zdry {ds:List DV} (h:Ty.Ok (.sl yRu) ds) : ∃ x:Raw Rul,ds=[x.dv 6 ruC] :=
 zar1 (f:=ruC) (R:=fun _=>True) rfl (fun ds h=>by
  simp only [yRu,Ty.Ok,Ty.OkL] at h
  obtain ⟨a1,b1,rfl,⟨n1,rfl,_⟩,a2,b2,rfl,⟨s2,rfl⟩,a3,b3,rfl,⟨s3,rfl⟩,a4,b4,rfl,⟨s4,rfl⟩,a5,b5,rfl,⟨s5,rfl⟩,a6,b6,rfl,⟨s6,rfl⟩,rfl⟩:=h
  exact ⟨⟨n1,s2,s3,s4,s5,s6⟩,trivial,by simp [ruC]⟩) h
theorem okAt {ds:List DV} (h:Ty.Ok yAt ds) : ∃ x:AtU,True∧ds=axC x:=by
 rw [yAt,Ty.Ok] at h
 simp only [Ty.OkL] at h
 obtain ⟨a0,b0,rfl,h0,ar,br,rfl,h,rfl⟩:=h
 rw [yRe,Ty.Ok] at h
 simp only [Ty.OkL] at h
 obtain ⟨a1,b1,rfl,h1,a2,b2,rfl,h2,a3,b3,rfl,h3,a4,b4,rfl,h4,a5,b5,rfl,h5,a6,b6,rfl,h6,a7,b7,rfl,h7,a8,b8,rfl,h8,rfl⟩:=h
 obtain ⟨s0,rfl⟩:=(show ∃ s,a0=[.str s] from h0)
 obtain ⟨s1,rfl⟩:=(show ∃ s,a1=[.str s] from h1)
 obtain ⟨s2,rfl⟩:=(show ∃ s,a2=[.str s] from h2)
 obtain ⟨s3,rfl⟩:=(show ∃ s,a3=[.str s] from h3)
 obtain ⟨n4,_,rfl⟩:=zrcx h4
 obtain ⟨x5,rfl⟩:=z5qe h5
 obtain ⟨x6,rfl⟩:=zxac h6
 obtain ⟨x7,rfl⟩:=zghc h7
 obtain ⟨x8,rfl⟩:=zghc h8
 exact ⟨⟨s0,⟨s1,s2,s3,n4,x5,x6,x7,x8⟩⟩,trivial,by simp [axC,rxC]⟩
theorem zkwc {ds:List DV} (h:Ty.Ok (.sl yAt) ds) : ∃ x:Raw AtU,ds=[x.dv 9 axC]:=zar1 (R:=fun _=>True) rfl (fun ds h=>okAt h) h
theorem okSp {ds:List DV} (h:Ty.Ok ySp ds) : ∃ x:SpU,ds=sxC x:=by
 rw [ySp,Ty.Ok] at h
 simp only [Ty.OkL] at h
 obtain ⟨a1,b1,rfl,h1,a2,b2,rfl,h2,a3,b3,rfl,h3,a4,b4,rfl,h4,a5,b5,rfl,h5,a6,b6,rfl,h6,a7,b7,rfl,h7,rfl⟩:=h
 obtain ⟨s1,rfl⟩:=(show ∃ s,a1=[.str s] from h1)
 obtain ⟨s2,rfl⟩:=(show ∃ b:Bool,a2=[.bool b] from h2)
 obtain ⟨n3,_,rfl⟩:=zrcx h3
 obtain ⟨x4,rfl⟩:=z5qe h4
 obtain ⟨x5,rfl⟩:=z5qe h5
 obtain ⟨x6,rfl⟩:=zdry h6
 obtain ⟨x7,rfl⟩:=zdry h7
 exact ⟨⟨s1,s2,n3,x4,x5,x6,x7⟩,by simp [sxC]⟩
theorem zjzy {ds:List DV} (h:Ty.Ok (.sl (.int .i64)) ds) : ∃ x:Nl,(∀ n ∈ x.l,-9223372036854775808≤n∧n≤9223372036854775807)∧ds=[x.dv]:=by
 obtain ⟨k,l,h1,h2,rfl,hb⟩:=z61h (f:=inI) (R:=fun n => -9223372036854775808≤n∧n≤9223372036854775807) (fun ds h=>by obtain ⟨n,hn,rfl⟩:=zrcx h; exact ⟨n,hn,rfl⟩) h
 exact ⟨⟨k,l,h1,hb⟩,h2,rfl⟩
def nlT (x:Nl):Tp:=⟨x.k,x.l,x.h,0⟩
theorem z9fj (x:Nl):(nlT x).sl=x.dv:=rfl
theorem zhx7 (x:Nl):x.dv.one=true:=zxr4 (nlT x)
theorem zxy5 (x:Nl):x.dv.known=true:=zn8z (nlT x)
theorem ztqv (x:Nl):x.dv.cells=[x.dv]:=zymw (nlT x)
theorem z9k1 (x:Nl):zvnk [.nils,.int .i64 0] [(0,1,x.dv)]=some (.agg (tpC (nlT x))):=by rw [← z9fj,zkbj]; rfl
end
section
set_option linter.unusedSimpArgs false
set_option linter.unusedVariables false
open Go Go.Am
def mak:Str:=[109,97,107,101]
def cmdS (b:Bool):Sl Str:=if b then ⟨some true,[mak],by simp,by simp⟩ else nilS
theorem zgro:(cmdS true).dv 1 stC = .sl true 1 1 [.str [109,97,107,101]]:=rfl
def byS (k:Nat):Sl Str:=ownS.part k 4 (4 == 4)
def st4:List Str:=[bld,bld,bld,[116,101,115,116]]
def ow5:List Str:=[[97,110,110],[98,111,98],[99,97,116],[100,97,110],[101,118,101]]
def lkM (V:Tp × Lnk × Lnk) (i:Int):Lnk:=if i=1 then V.2.2 else V.2.1
def attM (t:Tp) (V:Tp × Lnk × Lnk):Att:=⟨zzh5 (t.adv 4) ow5,⟨[114],[],zzh5 (t.adv 1) st4,tpN (t.adv 2) 5,cmdS (decide (0<tpN (t.adv 3) 4)),nilS,(lkM V (tpN t 3)).m,(lkM V (tpN t 3)).p⟩⟩
def attL (V:Tp × Lnk × Lnk):Nat→Tp × List Att→Tp × List Att
 | 0,a=>a
 | n+1,a=>attL V n (a.1.adv 5,a.2++[attM a.1 V])
theorem zpn6 (V:Tp × Lnk × Lnk) : ∀ (n:Nat) (a:Tp × List Att),(attL V n a).2.length=a.2.length+n
 | 0,_=>rfl
 | n+1,a=>by rw [attL,zpn6]; simp; omega
def spM (t:Tp):Spc:=⟨bld,false,1+tpN t 3,byS (tpN (t.adv 1) 2).toNat,cmdS (decide (tpN (t.adv 2) 3=0)),nilS,nilS⟩
def atN (t:Tp):Nat:=(tpN (zivf (t.adv 3)).1 8).toNat
def atM (t:Tp):List Att:=(attL (zivf (t.adv 3)) (atN t) ((zivf (t.adv 3)).1.adv 1,[])).2
theorem ztxl (t:Tp):atN t≤7:=by
 have h1:=z4rs (zivf (t.adv 3)).1 8
 have h2:=z2s7 (zivf (t.adv 3)).1 (n:=8) (by omega)
 unfold atN; omega
theorem zi14 (t:Tp):tpN (zivf (t.adv 3)).1 8=atN t:=by
 have h1:=z4rs (zivf (t.adv 3)).1 8
 unfold atN; omega
theorem z4if (t:Tp):(atM t).length≤7:=by
 have:=ztxl t
 unfold atM; rw [zpn6]; simp; omega
def sp0:Spc:=⟨[],false,0,nilS,nilS,nilS,nilS⟩
theorem z6e1:spC sp0=[.str [],.bool false,.int .i64 0,.nils,.nils,.nils,.nils]:=rfl
noncomputable def zlv9:Tbl:=addT 25 (.tch z1m3) (addT 27 (.tch zqck) (addT 26 (.pure cOwn) (addT 20 (.tch cLks) tbl0)))
theorem zoj9:zlv9 25 = .tch z1m3:=by simp [zlv9]
theorem zdem:zlv9 27 = .tch zqck:=by simp [zlv9]
theorem zeu0:zlv9 26 = .pure cOwn:=by simp [zlv9]
theorem zstc:zlv9 20 = .tch cLks:=by simp [zlv9]
theorem zcy2:zlv9.Sound P:=z0rp z51e (z0rp z3hj (z0rp zisi (z0rp zdfr zr5o)))
structure ML where
 k:Nat
 t:Tp
 o:List Att
def z4hu (s:Spc) (u:Tp) (a:ML):St:=a8S0 (.mp 0 7 0) (.mp 1 2 0) (.mp 2 7 0) ((lksS u).dv 3 lkC) (oV 3 9 a.o) (.int .i64 a.k) ([.cells (spC sp0),.cells (tpC a.t),.cells (spC s)]++oT atC a.o)
theorem zi63 (u:Tp) (i:Nat) (hi:i<3) (H:List AObj):zpsc H 3 ((lksS u).dv 3 lkC) i=some (.ref (lkC (lkM (zivf u) i))):=by
 have:=zalo (h:=H) (x:=lksS u) (i:=i) z9tw (by simp [lksS]; exact hi)
 rw [this]
 match i,hi with
 | 0,_=>rfl
 | 1,_=>rfl
 | 2,_=>rfl
def recM (st:Str) (n:Int) (c:Sl Str) (L:Lnk):Rec:=⟨[114],[],st,n,c,nilS,L.m,L.p⟩
theorem zg2e {st:Str} {n:Int} {L:Lnk}:zvnk [.str [],.str [],.str [],.int .i64 0,.nils,.nils,.nils,.nils] [(0,1,.str [114]),(2,1,.str st),(3,1,.int .i64 n),(6,1,L.m.dv 33 enC),(7,1,L.p.dv 33 enC)]=some (.agg (reC (recM st n nilS L))):=by
 have e1:=zfr8 (x:=L.m) (s:=33) (f:=enC)
 have e2:=zfr8 (x:=L.p) (s:=33) (f:=enC)
 simp [zvnk,zi03,zk7y,reC,recM,e1,e2,z2i7]
 exact ⟨rfl,rfl⟩
theorem zhzr {r:Rec} {v:Sl Str} {h:List AObj} {id:Nat}:zy6o h id 1 4 (v.dv 1 stC) (some (reC r))=some (.junk,h.set id (.cells (reC ⟨r.run,r.scope,r.step,r.at_,v,r.env,r.m,r.p⟩))):=by
 rw [storeO_1 (zfr8 _) (z4ja _) (by rw [z74o]; decide)]; rfl
theorem zbd9 {w:Str} {r:Rec}:zvnk [.str [],.str [],.str [],.str [],.int .i64 0,.nils,.nils,.nils,.nils] [(0,1,.str w),(1,8,.agg (reC r))]=some (.agg (atC ⟨w,r⟩)):=by
 have h1:=z74o r
 simp [zvnk,zi03,zk7y,atC,h1,List.drop_of_length_le]
end
section
set_option linter.unusedSimpArgs false
set_option linter.unusedVariables false
open Go Go.Am
def MadT:ACode:=match a8L0 with
 | .seq _ (.seq (.block _ (.seq _ (.seq _ (.seq _ y)))) _)=>y
 | _ => .skip
def MadR:ACode:=match a8L0 with
 | .seq _ (.seq _ y)=>y
 | _ => .skip
structure MLok (u:Tp) (R:Tp × List Att) (a:ML):Prop where
 r:attL (zivf u) a.k (a.t,a.o)=R
 t:a.t.at_+5*a.k<3500000000
 l:a.o.length+a.k≤7
theorem zlvf {s:Spc} {u:Tp} {R:Tp × List Att} (a:ML) (ha:MLok u R a) {Φ:AExit→St→Prop}
  (hexit:Φ (.exit 0) ⟨[.junk,.junk,.mp 0 7 0,.junk,.mp 1 2 0,.mp 2 7 0,.junk,oV 3 9 R.2]++js 57,[.cells (spC sp0),.cells (tpC R.1),.cells (spC s)]++oT atC R.2⟩)
  (hw : ∀ st st',Weak 0 st st'→Φ (.exit 0) st'→Φ (.exit 0) st) :
  V P 0 a8L0 (z13e 0 (z4hu s u) (fun a=>a.k) (MLok u R) a Φ) (z4hu s u a):=by
 obtain ⟨k,t,O⟩:=a
 obtain ⟨r1,r2,r3⟩:=ha
 simp only at r1 r2 r3
 simp only [z4hu]
 refine zbn1 (V_W mix zcy2 ?_)
 by_cases hk:0<k
 case neg =>
  obtain rfl:k=0:=by omega
  have e:R=(t,O):=r1.symm
  subst e
  simp (disch:=first|omega|simp<;>omega|fail) [-zA,-zB,-zC,-zD,-zE,a8L0,a8S0]
  refine hw _ _ (z515 ?_ rfl) hexit
  simp (disch:=first|omega|simp<;>omega|fail) [-zA,-zB,-zC,-zD,-zE]
 obtain ⟨k,rfl⟩ : ∃ k',k=k'+1:=⟨k-1,by omega⟩
 have hk':(0:Int)<((k+1:Nat):Int):=by omega
 have r1':attL (zivf u) k (t.adv 5,O++[attM t (zivf u)])=R:=r1
 have n1:=z4rs t 3
 have n2:=z2s7 t (n:=3) (by omega)
 obtain ⟨N,hN⟩ : ∃ N:Nat,tpN t 3=N:=⟨_,(y03 n1).symm⟩
 have hi:=zi63 u N (by omega)
 have hat:attM t (zivf u)=⟨zzh5 (t.adv 4) ow5,recM (zzh5 (t.adv 1) st4) (tpN (t.adv 2) 5) (cmdS (decide (0<tpN (t.adv 3) 4))) (lkM (zivf u) N)⟩:=by simp only [attM,recM,hN]
 obtain ⟨L,hL⟩ : ∃ L,lkM (zivf u) N=L:=⟨_,rfl⟩
 rw [hL] at hi hat
 obtain ⟨w,hw'⟩ : ∃ w,zzh5 (t.adv 4) ow5=w:=⟨_,rfl⟩
 obtain ⟨sn,hsn⟩ : ∃ w,zzh5 (t.adv 1) st4=w:=⟨_,rfl⟩
 obtain ⟨an,han⟩ : ∃ w,tpN (t.adv 2) 5=w:=⟨_,rfl⟩
 rw [hw',hsn,han] at hat
 have kN:z1m3 [.int .i64 3] (tpC t)=some (.int .i64 N,tpC (t.adv 1)):=by rw [z44h (by omega) (by omega) (by omega),hN]
 have kP:zqck [.sl true 1 4 [.str [98,117,105,108,100],.str [98,117,105,108,100],.str [98,117,105,108,100],.str [116,101,115,116]]] (tpC (t.adv 1))=some (.str sn,tpC (t.adv 2)):=by
  rw [← hsn]; exact ze0z (t:=t.adv 1) (l:=st4) (by simp only [zpza]; omega) (by decide) (by decide)
 have kA:z1m3 [.int .i64 5] (tpC (t.adv 2))=some (.int .i64 an,tpC (t.adv 3)):=by rw [z44h (by simp only [zpza]; omega) (by omega) (by omega),han,zjmf]
 obtain ⟨cn,hcn⟩ : ∃ w,tpN (t.adv 3) 4=w:=⟨_,rfl⟩
 rw [hcn] at hat
 have kC:z1m3 [.int .i64 4] (tpC (t.adv 3))=some (.int .i64 cn,tpC (t.adv 4)):=by rw [z44h (by simp only [zpza]; omega) (by omega) (by omega),hcn,zjmf]
 have kW:zqck [.sl true 1 5 [.str [97,110,110],.str [98,111,98],.str [99,97,116],.str [100,97,110],.str [101,118,101]]] (tpC (t.adv 4))=some (.str w,tpC (t.adv 5)):=by
  rw [← hw']; exact ze0z (t:=t.adv 4) (l:=ow5) (by simp only [zpza]; omega) (by decide) (by decide)
 obtain ⟨x,hx⟩ : ∃ x,attM t (zivf u)=x:=⟨_,rfl⟩
 rw [hx] at r1' hat
 have hap:=zte0 (f:=atC) (k:=3) (b:=168) (l:=O) (x:=x) (h:=[AObj.cells (spC sp0),.cells (tpC (t.adv 5)),.cells (spC s)]) rfl zu2q (by decide) (by decide) (fun _=>zwh8) (by omega)
 simp only [y01,List.nil_append] at hap
 have hoB:Am.below ((oT atC O).length+1+1+1) (oV 3 9 O)=true:=by
  have:=zv6o (f:=atC) (k:=3) (K:=9) (l:=O)
  rwa [show (oT atC O).length+1+1+1=3+(oT atC O).length by omega]
 have hTb : ∀ n,zlf2 n (oT atC O)=true:=fun n=>zd81 z83l
 have tpB : ∀ n v,belowL n (tpC v)=true:=fun n v=>zmq5 n _ (zs7w v)
 have hG:zyp8 ((lksS u).dv 3 lkC)=true:=z8q9 _
 obtain ⟨G,hGG⟩ : ∃ G,(lksS u).dv 3 lkC=G:=⟨_,rfl⟩
 rw [hGG] at hi hG
 simp (disch:=first|omega|simp<;>omega|fail) [-zA,-zB,-zC,-zD,-zE,a8L0,a8S0,hGG]
 refine zbn1 (z3mo (zbn1 (V_W mix zcy2 ?_)))
 simp (disch:=first|omega|simp<;>omega|fail) [-zA,-zB,-zC,-zD,-zE,zoj9,kN,hi,zrer,z6cz]
 refine zs10 (H := .cells (spC sp0) :: .cells (tpC (t.adv 1)) :: .cells (spC s)::oT atC O) (cs:=lkC L) (t':=[.junk,.junk,.mp 0 7 0,.junk,.mp 1 2 0,.mp 2 7 0,G,oV 3 9 O,.int .i64 ((k:Int)+1),.ref (lkC L)]++js 55) (by simp (disch:=first|omega|simp<;>omega|fail) [-zA,-zB,-zC,-zD,-zE,zlf2,hTb,tpB]) (by simp) ?_ (by simp (disch:=first|omega|simp<;>omega|fail) [-zA,-zB,-zC,-zD,-zE,belowL,Am.below,hoB,z8b8 _ _ hG]) ?_
 ·have e1:=zz5t (H := .cells (spC sp0) :: .cells (tpC (t.adv 1)) :: .cells (spC s)::oT atC O) (cs:=lkC L) (off:=0) (z53g L)
  simp only [List.length_cons,z9tw,List.drop_zero,y01] at e1
  have e2 : ∀ h,mk1 (kLt ((oT atC O).length+1+1+1)) h (oV 3 9 O)=oV 3 9 O:=fun h=>zd3c hoB
  have e3 : ∀ h i v,i<3→mk1 (kLt ((oT atC O).length+1+1+1)) h (.mp i v 0) = .mp i v 0:=fun h i v hi=>zd3c (by simp [Am.below]; omega)
  have e4 : ∀ K h,mk1 K h G=G:=fun K h=>zvft hG
  simp (disch:=first|omega|simp<;>omega|fail) [-zA,-zB,-zC,-zD,-zE,e1,e2,e3,e4,-z1bt]
 refine zbn1 (V_W mix zcy2 ?_)
 simp (disch:=first|omega|simp<;>omega|fail) [-zA,-zB,-zC,-zD,-zE,zdem,kP,zoj9,kA,zfi3,zj40,zg2e,zhem]
 have hst : ∀ (h:List AObj) (id:Nat),zy6o h id 1 4 (.sl true 1 1 [.str [109,97,107,101]]) (some (reC (recM sn an nilS L)))=some (.junk,h.set id (.cells (reC (recM sn an (cmdS true) L)))):=fun h id=>by rw [← zgro,zhzr]; rfl
 have tail : ∀ r,atC x=atC ⟨w,r⟩→V P 0 MadT (z0mx 1 (z2pk P 0 MadR (z13e 0 (z4hu s u) (fun a=>a.k) (MLok u R) ⟨k+1,t,O⟩ Φ))) ⟨[.junk,.junk,.mp 0 7 0,.junk,.mp 1 2 0,.mp 2 7 0,G,oV 3 9 O,.int .i64 ((k:Int)+1),.junk,.mp ((oT atC O).length+1+1+1) 8 0]++js 54,.cells (spC sp0) :: .cells (tpC (t.adv 4)) :: .cells (spC s)::(oT atC O++[.cells (reC r)])⟩:=fun r hxr=>by
  refine zs10 (H := .cells (spC sp0) :: .cells (tpC (t.adv 4)) :: .cells (spC s)::oT atC O) (cs:=reC r) (t':=[.junk,.junk,.mp 0 7 0,.junk,.mp 1 2 0,.mp 2 7 0,G,oV 3 9 O,.int .i64 ((k:Int)+1),.junk,.ref (reC r)]++js 54) (by simp (disch:=first|omega|simp<;>omega|fail) [-zA,-zB,-zC,-zD,-zE,zlf2,hTb,tpB]) (by simp) ?_ (by simp (disch:=first|omega|simp<;>omega|fail) [-zA,-zB,-zC,-zD,-zE,belowL,Am.below,hoB,z8b8 _ _ hG]) ?_
  ·have e1:=zz5t (H := .cells (spC sp0) :: .cells (tpC (t.adv 4)) :: .cells (spC s)::oT atC O) (cs:=reC r) (off:=0) (zqkx r)
   simp only [List.length_cons,z74o,List.drop_zero,y01] at e1
   have e2 : ∀ h,mk1 (kLt ((oT atC O).length+1+1+1)) h (oV 3 9 O)=oV 3 9 O:=fun h=>zd3c hoB
   have e3 : ∀ h i v,i<3→mk1 (kLt ((oT atC O).length+1+1+1)) h (.mp i v 0) = .mp i v 0:=fun h i v hi=>zd3c (by simp [Am.below]; omega)
   have e4 : ∀ K h,mk1 K h G=G:=fun K h=>zvft hG
   simp (disch:=first|omega|simp<;>omega|fail) [-zA,-zB,-zC,-zD,-zE,e1,e2,e3,e4,-z1bt]
  rw [hxr,show atC ⟨w,r⟩=DV.str w::reC r from rfl] at hap
  refine V_W mix zcy2 ?_
  simp (disch:=first|omega|simp<;>omega|fail) [-zA,-zB,-zC,-zD,-zE,MadT,a8L0,zdem,kW,zbr1,zbd9,zsdw,hap]
  refine V_W mix zcy2 ?_
  simp (disch:=first|omega|simp<;>omega|fail) [-zA,-zB,-zC,-zD,-zE,MadR,a8L0]
  exact ⟨⟨k,t.adv 5,O++[x]⟩,z515 (by simp (disch:=first|omega|simp<;>omega|fail) [-zA,-zB,-zC,-zD,-zE,z4hu,a8S0,hGG]) (by simp (disch:=first|omega|simp<;>omega|fail) [-zA,-zB,-zC,-zD,-zE,z4hu,a8S0]),by simp only; omega,⟨r1',by simp only [zpza]; omega,by simp only [List.length_append,List.length_singleton]; omega⟩⟩
 refine zbn1 (V_W mix zcy2 ?_)
 by_cases hc:0<cn
 ·have hcd:decide (0<cn)=true:=by simpa using hc
  rw [hcd] at hat
  have tl:=tail (recM sn an (cmdS true) L) (by rw [hat])
  simp (disch:=first|omega|simp<;>omega|fail) [-zA,-zB,-zC,-zD,-zE,zoj9,kC,hc,hst,zjj2,zxft]
  refine zqfd (z515 ?_ rfl) tl
  simp (disch:=first|omega|simp<;>omega|fail) [-zA,-zB,-zC,-zD,-zE]
 ·have hcd:decide (0<cn)=false:=by simpa using hc
  rw [hcd] at hat
  have tl:=tail (recM sn an nilS L) (by rw [hat]; rfl)
  simp (disch:=first|omega|simp<;>omega|fail) [-zA,-zB,-zC,-zD,-zE,zoj9,kC,hc]
  refine zqfd (z515 ?_ rfl) tl
  simp (disch:=first|omega|simp<;>omega|fail) [-zA,-zB,-zC,-zD,-zE]
end
section
set_option linter.unusedSimpArgs false
set_option linter.unusedVariables false
open Go Go.Am
theorem zwvp {n:Int} {d:Sl Str}:zvnk (spC sp0) [(0,1,.str [98,117,105,108,100]),(2,1,.int .i64 n),(3,1,d.dv 1 stC)]=some (.agg (spC ⟨bld,false,n,d,nilS,nilS,nilS⟩)):=by
 have e1:=zfr8 (x:=d) (s:=1) (f:=stC)
 rw [z6e1]
 simp [zvnk,zi03,zk7y,spC,e1,bld]
 exact ⟨rfl,rfl⟩
theorem z9wh {s:Spc} {v:Sl Str} {h:List AObj} {id:Nat}:zy6o h id 1 4 (v.dv 1 stC) (some (spC s))=some (.junk,h.set id (.cells (spC ⟨s.name,s.del,s.thr,s.by_,v,s.mats,s.prods⟩))):=by
 rw [storeO_1 (zfr8 _) (z4ja _) (by rw [zz68]; decide)]; rfl
def MdeT:ACode:=match a8.code with
 | .seq _ (.seq _ (.seq _ (.seq _ y)))=>y
 | _ => .skip
theorem z5ae (x:Nl):V P 0 a8.code (retK a8.res (.tup [.agg (spC (spM (nlT x))),(ownN (atM (nlT x))).dv 9 atC])) ⟨zr5g a8.ntmps [x.dv],[]⟩:=by
 have hx1:=z9k1 x
 have t0:(nlT x).at_=0:=rfl
 have hml:=z4if (nlT x)
 obtain ⟨t,ht⟩ : ∃ t,nlT x=t:=⟨_,rfl⟩
 rw [ht] at hx1 t0 hml ⊢
 have a1:=z4rs t 3
 have a2:=z2s7 t (n:=3) (by omega)
 have a3:=z4rs (t.adv 1) 2
 have a4:=z2s7 (t.adv 1) (n:=2) (by omega)
 obtain ⟨q,hq⟩ : ∃ q,tpN t 3=q:=⟨_,rfl⟩
 obtain ⟨B,hB⟩ : ∃ B:Nat,tpN (t.adv 1) 2=B:=⟨_,(y03 a3).symm⟩
 rw [hq] at a1 a2
 rw [hB] at a3 a4
 have k1:z1m3 [.int .i64 3] (tpC t)=some (.int .i64 q,tpC (t.adv 1)):=by rw [z44h (by omega) (by omega) (by omega),hq]
 have k2:=zj2t
 have k3:z1m3 [.int .i64 2] (tpC (t.adv 1))=some (.int .i64 B,tpC (t.adv 2)):=by rw [z44h (by simp only [zpza]; omega) (by omega) (by omega),hB,zjmf]
 have hsl : ∀ H,ziwb H 1 (ownS.dv 1 stC) (some (.int .i64 B)) none none=some ((byS B).dv 1 stC):=fun H=>z0ke zqv6 (by simp [zo77,iD,ownS]; omega) (Nat.le_refl _)
 obtain ⟨c,hc⟩ : ∃ c,tpN (t.adv 2) 3=c:=⟨_,rfl⟩
 have k4:z1m3 [.int .i64 3] (tpC (t.adv 2))=some (.int .i64 c,tpC (t.adv 3)):=by rw [z44h (by simp only [zpza]; omega) (by omega) (by omega),hc,zjmf]
 have k5:=z723 (t:=t.adv 3) (by simp only [zpza]; omega)
 have hlo:=zaow (t.adv 3)
 simp only [zpza] at hlo
 have k6:z1m3 [.int .i64 8] (tpC (zivf (t.adv 3)).1)=some (.int .i64 (atN t),tpC ((zivf (t.adv 3)).1.adv 1)):=by rw [z44h (by omega) (by omega) (by omega),zi14]
 have hal:=ztxl t
 have hsp:spM t=⟨bld,false,1+q,byS B,cmdS (decide (c=0)),nilS,nilS⟩:=by simp only [spM,hq,hB,hc,Int.toNat_natCast]
 have hR:attL (zivf (t.adv 3)) (atN t) ((zivf (t.adv 3)).1.adv 1,[])=attL (zivf (t.adv 3)) (atN t) ((zivf (t.adv 3)).1.adv 1,[]):=rfl
 obtain ⟨R,hRR⟩ : ∃ R,attL (zivf (t.adv 3)) (atN t) ((zivf (t.adv 3)).1.adv 1,[])=R:=⟨_,rfl⟩
 have hat:atM t=R.2:=by unfold atM; rw [hRR]
 rw [hat] at hml ⊢
 have hst : ∀ (h:List AObj) (id:Nat),zy6o h id 1 4 (.sl true 1 1 [.str [109,97,107,101]]) (some (spC ⟨bld,false,1+q,byS B,nilS,nilS,nilS⟩))=some (.junk,h.set id (.cells (spC ⟨bld,false,1+q,byS B,cmdS true,nilS,nilS⟩))):=fun h id=>by rw [← zgro,z9wh]
 have w1:IntKind.i64.wrap (1+q)=1+q:=znmn (by omega) (by omega)
 refine zbn1 (V_W mix zcy2 ?_)
 simp (disch:=first|omega|simp<;>omega|fail) [-zA,-zB,-zC,-zD,-zE,a8]
 rw [← z6e1]
 refine zbn1 (V_W mix zcy2 ?_)
 simp (disch:=first|omega|simp<;>omega|fail) [-zA,-zB,-zC,-zD,-zE,zhx7,zxy5,ztqv,hx1]
 refine zbn1 (V_W mix zcy2 ?_)
 simp (disch:=first|omega|simp<;>omega|fail) [-zA,-zB,-zC,-zD,-zE,zoj9,k1,w1,zeu0,k2,k3,hsl,zwvp,zf01]
 have fin:V P 0 MdeT (retK a8.res (.tup [.agg (spC (spM t)),(ownN R.2).dv 9 atC])) ⟨[.junk,.junk,.mp 0 7 0,.nils,.mp 1 2 0,.mp 2 7 0]++js 59,[.cells (spC sp0),.cells (tpC (t.adv 3)),.cells (spC (spM t))]⟩:=by
  have hsn:=zigm (k:=3) (l:=R.2) (h:=[AObj.cells (spC (spM t)),.cells (tpC R.1),.cells (spC (spM t))]) (r:=[]) rfl zu2q z83l (by omega)
  rw [List.append_nil] at hsn
  simp only [y01,List.nil_append] at hsn
  generalize hS:spM t=s at hsn ⊢
  refine zbn1 (V_W mix zcy2 ?_)
  simp (disch:=first|omega|simp<;>omega|fail) [-zA,-zB,-zC,-zD,-zE,MdeT,a8,zstc,k5]
  refine zbn1 (V_W mix zcy2 ?_)
  simp (disch:=first|omega|simp<;>omega|fail) [-zA,-zB,-zC,-zD,-zE]
  refine zbn1 (zbn1 (V_W mix zcy2 ?_))
  simp (disch:=first|omega|simp<;>omega|fail) [-zA,-zB,-zC,-zD,-zE,zoj9,k6]
  refine z3mo (ztbr (z4hu s (t.adv 3)) (fun a=>a.k) (MLok (t.adv 3) R) ⟨atN t,(zivf (t.adv 3)).1.adv 1,[]⟩ (z515 (by simp (disch:=first|omega|simp<;>omega|fail) [-zA,-zB,-zC,-zD,-zE,z4hu,a8S0,zl8p]) (by simp (disch:=first|omega|simp<;>omega|fail) [-zA,-zB,-zC,-zD,-zE,z4hu,a8S0,zkrk])) ⟨hRR,by simp only [zpza]; omega,by simp only [List.length_nil]; omega⟩ (fun a ha=>zlvf a ha ?_ ?_))
  ·rw [z233,zd2q]
   refine zbn1 (V_W mix zcy2 ?_)
   simp (disch:=first|omega|simp<;>omega|fail) [-zA,-zB,-zC,-zD,-zE,z8s9,zf01]
   refine V_W mix zcy2 ?_
   simp (disch:=first|omega|simp<;>omega|fail) [-zA,-zB,-zC,-zD,-zE,z8s9,hsn]
  ·intro st st' hw' h
   rw [z233,zd2q] at h ⊢
   exact zqfd hw' h
 refine zbn1 (V_W mix zcy2 ?_)
 by_cases h0:c=0
 ·have hd:decide (c=0)=true:=by simpa using h0
  rw [hd] at hsp
  simp (disch:=first|omega|simp<;>omega|fail) [-zA,-zB,-zC,-zD,-zE,zoj9,k4,h0,hst]
  refine zqfd (z515 ?_ ?_) fin
  ·simp (disch:=first|omega|simp<;>omega|fail) [-zA,-zB,-zC,-zD,-zE]
  ·rw [hsp]
 ·have hd:decide (c=0)=false:=by simpa using h0
  rw [hd] at hsp
  simp (disch:=first|omega|simp<;>omega|fail) [-zA,-zB,-zC,-zD,-zE,zoj9,k4,h0]
  refine zqfd (z515 ?_ ?_) fin
  ·simp (disch:=first|omega|simp<;>omega|fail) [-zA,-zB,-zC,-zD,-zE]
  ·rw [hsp]; rfl
noncomputable def cMad:List DV→Option DV:=con (fun _=>True) (fun x:Nl=>[x.dv]) (fun x => .tup [.agg (spC (spM (nlT x))),(ownN (atM (nlT x))).dv 9 atC])
theorem zbf6 {x:Nl}:cMad [x.dv]=some (.tup [.agg (spC (spM (nlT x))),(ownN (atM (nlT x))).dv 9 atC]) :=
 zsn4 (f:=fun x:Nl=>[x.dv]) (g:=fun x => .tup [.agg (spC (spM (nlT x))),(ownN (atM (nlT x))).dv 9 atC]) (fun a b e=>by
  simp only [List.cons.injEq,and_true] at e
  rw [z2kw e]) x
theorem z1qx:(Con.pure cMad).Sound P 8:=z2au fun a _=>znz9 Try.func8 zwbl (z5ae a)
end
section
set_option linter.unusedSimpArgs false
set_option linter.unusedVariables false
open Go Go.Am
theorem zr8f {B:Nat} (x:SlB B AtU):zyp8 (x.dv 9 axC)=true:=zxxb zfq3 x
theorem z2k4 {a b:SpU × Raw AtU} (e:([.agg (sxC a.1),a.2.dv 9 axC]:List DV)=[.agg (sxC b.1),b.2.dv 9 axC]):a=b:=by
 obtain ⟨a1,a2⟩:=a
 obtain ⟨b1,b2⟩:=b
 simp only [List.cons.injEq,DV.agg.injEq,and_true] at e
 rw [zgil e.1,zcq7 z0qm (by decide) (fun _ _=>zcwm) e.2]
def reL (r:RcU):Bool := !(decide (30<r.cmd.l.length)||(decide (30<r.env.l.length)||(decide (20<r.m.l.length)||decide (20<r.p.l.length))))
def ligB (s:SpU) (l:List AtU):Bool := !(decide (20<l.length)||(decide (30<s.by_.l.length)||decide (30<s.cmd.l.length)))&&l.all fun x=>reL x.rc
def zu8g (s:SpU) (l:Raw AtU) (i:Nat):St:=a7S0 (l.dv 9 axC) (.int .i64 i) [.cells (sxC s)]
def ligI (l:List AtU) (i:Nat):Prop := ∀ j (h:j<l.length),j<i→reL l[j].rc=true
theorem zvii (s:SpU) (l:Raw AtU):Runs tbl0 a7 [.agg (sxC s),l.dv 9 axC] (.bool (ligB s l.l)):=by
 refine ⟨?_⟩
 have hlb:=l.b
 have l0 : ∀ H,lenD H (l.dv 9 axC)=some (.int .i64 l.l.length):=fun H=>zupj
 have l1 : ∀ H,lenD H (s.by_.dv 1 stC)=some (.int .i64 s.by_.l.length):=fun H=>zupj
 have l2 : ∀ H,lenD H (s.cmd.dv 1 stC)=some (.int .i64 s.cmd.l.length):=fun H=>zupj
 have hdef:ligB s l.l=(!(decide (20<l.l.length)||(decide (30<s.by_.l.length)||decide (30<s.cmd.l.length)))&&l.l.all fun x=>reL x.rc):=rfl
 obtain ⟨n,hn⟩ : ∃ n,l.l.length=n:=⟨_,rfl⟩
 obtain ⟨b,hb⟩ : ∃ n,s.by_.l.length=n:=⟨_,rfl⟩
 obtain ⟨c,hc⟩ : ∃ n,s.cmd.l.length=n:=⟨_,rfl⟩
 rw [hn] at l0 hdef
 rw [hb] at l1 hdef
 rw [hc] at l2 hdef
 by_cases e1:20<n
 ·have e1':(20:Int)<n:=by omega
  have hr:ligB s l.l=false:=by rw [hdef]; simp [e1]
  rw [hr]
  simp (disch:=first|omega|simp<;>omega|fail) [-zA,-zB,-zC,-zD,-zE,a7,l0,e1,e1']
 have e1':¬ (20:Int)<n:=by omega
 by_cases e2:30<b
 ·have e2':(30:Int)<b:=by omega
  have hr:ligB s l.l=false:=by rw [hdef]; simp [e2]
  rw [hr]
  simp (disch:=first|omega|simp<;>omega|fail) [-zA,-zB,-zC,-zD,-zE,a7,l0,e1,e1',znbd,l1,e2,e2']
 have e2':¬ (30:Int)<b:=by omega
 by_cases e3:30<c
 ·have e3':(30:Int)<c:=by omega
  have hr:ligB s l.l=false:=by rw [hdef]; simp [e3]
  rw [hr]
  simp (disch:=first|omega|simp<;>omega|fail) [-zA,-zB,-zC,-zD,-zE,a7,l0,e1,e1',znbd,zdjr,l1,l2,e2,e2',e3,e3']
 have e3':¬ (30:Int)<c:=by omega
 have hd2:ligB s l.l=l.l.all fun x=>reL x.rc:=by rw [hdef]; simp [e1,e2,e3]
 rw [hd2]
 simp (disch:=first|omega|simp<;>omega|fail) [-zA,-zB,-zC,-zD,-zE,a7,l0,e1,e1',znbd,zdjr,l1,l2,e2,e2',e3,e3']
 refine zlm5 (zu8g s l) (fun i=>n-i) (fun i=>i≤n∧ligI l.l i) 0 (z515 (by simp (disch:=first|omega|simp<;>omega|fail) [-zA,-zB,-zC,-zD,-zE,zu8g,a7S0]) (by simp (disch:=first|omega|simp<;>omega|fail) [-zA,-zB,-zC,-zD,-zE,zu8g,a7S0])) ⟨by omega,fun j _ hj=>by omega⟩ (fun i hi => ?_)
 obtain ⟨q1,q2⟩:=hi
 simp only [zu8g]
 by_cases q:i<n
 case neg =>
  have g':¬ (i:Int)<n:=by omega
  have hr:(l.l.all fun x=>reL x.rc)=true:=List.all_eq_true.2 fun x hx=>by
   obtain ⟨j,hj,e⟩:=List.getElem_of_mem hx
   have:=q2 j hj (by omega)
   rw [e] at this; exact this
  rw [hr]
  simp (disch:=first|omega|simp<;>omega|fail) [-zA,-zB,-zC,-zD,-zE,a7L0,a7S0,l0,q,g']
 have g':(i:Int)<n:=by omega
 have hx : ∀ H,zpsc H 9 (l.dv 9 axC) i=some (.ref (axC l.l[i])):=fun H=>zalo z0qm (by omega)
 have hinv:reL l.l[i].rc=true→ligI l.l (i+1):=fun e j hj hji=>by
  by_cases ej:j=i
  ·subst ej; exact e
  ·exact q2 j hj (by omega)
 have hr:reL l.l[i].rc=false→(l.l.all fun x=>reL x.rc)=false:=fun e=>by
  rw [List.all_eq_false]
  exact ⟨l.l[i],List.getElem_mem _,by rw [e]; simp⟩
 obtain ⟨x,hxx⟩ : ∃ x,l.l[i]=x:=⟨_,rfl⟩
 rw [hxx] at hx hinv hr
 have m1 : ∀ H,lenD H (x.rc.cmd.dv 1 stC)=some (.int .i64 x.rc.cmd.l.length):=fun H=>zupj
 have m2 : ∀ H,lenD H (x.rc.env.dv 2 vaC)=some (.int .i64 x.rc.env.l.length):=fun H=>zupj
 have m3 : ∀ H,lenD H (x.rc.m.dv 33 enC)=some (.int .i64 x.rc.m.l.length):=fun H=>zupj
 have m4 : ∀ H,lenD H (x.rc.p.dv 33 enC)=some (.int .i64 x.rc.p.l.length):=fun H=>zupj
 have hrd:reL x.rc = !(decide (30<x.rc.cmd.l.length)||(decide (30<x.rc.env.l.length)||(decide (20<x.rc.m.l.length)||decide (20<x.rc.p.l.length)))):=rfl
 obtain ⟨a1,h1⟩ : ∃ n,x.rc.cmd.l.length=n:=⟨_,rfl⟩
 obtain ⟨a2,h2⟩ : ∃ n,x.rc.env.l.length=n:=⟨_,rfl⟩
 obtain ⟨a3,h3⟩ : ∃ n,x.rc.m.l.length=n:=⟨_,rfl⟩
 obtain ⟨a4,h4⟩ : ∃ n,x.rc.p.l.length=n:=⟨_,rfl⟩
 rw [h1] at m1 hrd
 rw [h2] at m2 hrd
 rw [h3] at m3 hrd
 rw [h4] at m4 hrd
 by_cases f1:30<a1
 ·have f1':(30:Int)<a1:=by omega
  rw [hr (by rw [hrd]; simp [f1])]
  simp (disch:=first|omega|simp<;>omega|fail) [-zA,-zB,-zC,-zD,-zE,a7L0,a7S0,l0,q,g',hx,zar7,z0w1,ztot,m1,f1,f1']
 have f1':¬ (30:Int)<a1:=by omega
 by_cases f2:30<a2
 ·have f2':(30:Int)<a2:=by omega
  rw [hr (by rw [hrd]; simp [f2])]
  simp (disch:=first|omega|simp<;>omega|fail) [-zA,-zB,-zC,-zD,-zE,a7L0,a7S0,l0,q,g',hx,zar7,z0w1,ztot,zzch,m1,m2,f1,f1',f2,f2']
 have f2':¬ (30:Int)<a2:=by omega
 by_cases f3:20<a3
 ·have f3':(20:Int)<a3:=by omega
  rw [hr (by rw [hrd]; simp [f3])]
  simp (disch:=first|omega|simp<;>omega|fail) [-zA,-zB,-zC,-zD,-zE,a7L0,a7S0,l0,q,g',hx,zar7,z0w1,ztot,zzch,zj7q,m1,m2,m3,f1,f1',f2,f2',f3,f3']
 have f3':¬ (20:Int)<a3:=by omega
 by_cases f4:20<a4
 ·have f4':(20:Int)<a4:=by omega
  rw [hr (by rw [hrd]; simp [f4])]
  simp (disch:=first|omega|simp<;>omega|fail) [-zA,-zB,-zC,-zD,-zE,a7L0,a7S0,l0,q,g',hx,zar7,z0w1,ztot,zzch,zj7q,zwf5,m1,m2,m3,m4,f1,f1',f2,f2',f3,f3',f4,f4']
 have f4':¬ (20:Int)<a4:=by omega
 have hin:=hinv (by rw [hrd]; simp [f1,f2,f3,f4])
 simp (disch:=first|omega|simp<;>omega|fail) [-zA,-zB,-zC,-zD,-zE,a7L0,a7S0,l0,q,g',hx,zar7,z0w1,ztot,zzch,zj7q,zwf5,m1,m2,m3,m4,f1,f1',f2,f2',f3,f3',f4,f4']
 exact ⟨i+1,zju2 (tail:=[.cells (rxC x.rc)]) (by simp (disch:=first|omega|simp<;>omega|fail) [-zA,-zB,-zC,-zD,-zE,zu8g,a7S0]) (by simp (disch:=first|omega|simp<;>omega|fail) [-zA,-zB,-zC,-zD,-zE,zu8g,a7S0]) (Nat.zero_le _) (by simp [zu8g,a7S0,Am.belowL,Am.below,z8b8 _ _ (zr8f l)]) (by simp [zu8g,a7S0,zlf2]),by omega,by omega,hin⟩
noncomputable def cLig:List DV→Option DV:=con (fun _=>True) (fun a:SpU × Raw AtU=>[.agg (sxC a.1),a.2.dv 9 axC]) (fun a => .bool (ligB a.1 a.2.l))
theorem zezr {s:SpU} {l:Raw AtU}:cLig [.agg (sxC s),l.dv 9 axC]=some (.bool (ligB s l.l)) :=
 zsn4 (f:=fun a:SpU × Raw AtU=>[.agg (sxC a.1),a.2.dv 9 axC]) (g:=fun a => .bool (ligB a.1 a.2.l)) (fun a b e=>by rw [z2k4 e]) (s,l)
theorem z8b1:(Con.pure cLig).Sound P 7:=z2au fun a _=>zljw mix zr5o Try.func7 zdfl (zvii a.1 a.2)
def RcU.to (r:RcU):Rec:=⟨r.run,r.scope,r.step,r.at_,cutS r.cmd,cutS r.env,cutS r.m,cutS r.p⟩
def AtU.to (x:AtU):Att:=⟨x.own,x.rc.to⟩
def SpU.to (s:SpU):Spc:=⟨s.name,s.del,s.thr,cutS s.by_,cutS s.cmd,s.mats,s.prods⟩
def atT (l:Raw AtU):Sl Att:=cutS (⟨l.k,l.l.map AtU.to,fun e=>by rw [l.h e]; rfl,by rw [y00]; exact l.b⟩:Raw Att)
theorem zn4x {r:RcU} (h:reL r=true):reC r.to=rxC r:=by
 simp only [reL,Bool.not_eq_true',y02,decide_eq_false_iff_not] at h
 obtain ⟨h1,h2,h3,h4⟩:=h
 simp only [reC,rxC,RcU.to]
 rw [z841 (by omega),z841 (by omega),z841 (by omega),z841 (by omega)]
theorem zy37 {s:SpU} {l:Raw AtU} (h:ligB s l.l=true):spC s.to=sxC s∧(atT l).dv 9 atC=l.dv 9 axC∧(atT l).l.length≤20:=by
 simp only [ligB,Bool.and_eq_true,Bool.not_eq_true',y02,decide_eq_false_iff_not,List.all_eq_true] at h
 obtain ⟨⟨h1,h2,h3⟩,h4⟩:=h
 refine ⟨?_,?_,?_⟩
 ·simp only [spC,sxC,SpU.to]
  rw [z841 (by omega),z841 (by omega)]
 ·have hl:(l.l.map AtU.to).length≤4294967296:=by rw [y00]; omega
  unfold atT
  rw [z841 hl]
  have e:(l.l.map AtU.to).flatMap atC=l.l.flatMap axC:=by
   rw [List.flatMap_map]
   have : ∀ {L:List AtU},(∀ x ∈ L,reL x.rc=true)→(L.flatMap fun a=>atC a.to)=L.flatMap axC:=by
    intro L
    induction L with
    | nil=>intro _; rfl
    | cons x L ih =>
     intro g
     rw [List.flatMap_cons,List.flatMap_cons,ih fun y hy=>g y (List.mem_cons_of_mem _ hy)]
     have:=zn4x (g x (List.mem_cons_self ..))
     simp only [atC,axC,AtU.to,this]
   exact this h4
  simp only [SlB.dv,y00,e]
 ·unfold atT
  rw [z673 (by simp only [y00]; omega),y00]; omega
end
section
set_option linter.unusedSimpArgs false
set_option linter.unusedVariables false
open Go Go.Am
noncomputable def z4cd:Tbl:=addT 10 (.pure cEli) (addT 11 (.pure cElR) (addT 9 (.pure cSat) (addT 12 (.pure cCmp) (addT 13 (.pure cCrp) (addT 14 (.pure cDec) (addT 15 (.pure cDeB) (addT 16 (.pure cLca) (addT 17 (.pure cS02) (addT 18 (.pure cSag) (addT 7 (.pure cLig) (addT 8 (.pure cMad) (addT 19 (.pure cAwk) tbl0))))))))))))
theorem z5p1:z4cd 10 = .pure cEli:=by simp [z4cd]
theorem z4bo:z4cd 11 = .pure cElR:=by simp [z4cd]
theorem zv7h:z4cd 9 = .pure cSat:=by simp [z4cd]
theorem ze3n:z4cd 12 = .pure cCmp:=by simp [z4cd]
theorem zkgt:z4cd 13 = .pure cCrp:=by simp [z4cd]
theorem z6kr:z4cd 14 = .pure cDec:=by simp [z4cd]
theorem zul8:z4cd 15 = .pure cDeB:=by simp [z4cd]
theorem z6uo:z4cd 16 = .pure cLca:=by simp [z4cd]
theorem zqab:z4cd 17 = .pure cS02:=by simp [z4cd]
theorem zfmi:z4cd 18 = .pure cSag:=by simp [z4cd]
theorem z8jn:z4cd 7 = .pure cLig:=by simp [z4cd]
theorem zz5b:z4cd 8 = .pure cMad:=by simp [z4cd]
theorem z6e2:z4cd 19 = .pure cAwk:=by simp [z4cd]
theorem za7h:z4cd.Sound P:=z0rp zxn6 (z0rp zh5w (z0rp z5uz (z0rp z7zd (z0rp zg77 (z0rp zdlo (z0rp zyei (z0rp zgfn (z0rp ze7f (z0rp zc89 (z0rp z8b1 (z0rp z1qx (z0rp z41w zr5o))))))))))))
structure DG where
 i:Nat
 s:Spc
 l:Sl Att
def znoj (sm:Spc) (m:Sl Att) (a:DG):St:=a3S0 (a.l.dv 9 atC) (.mp 0 7 0) (.mp 1 7 0) (m.dv 9 atC) (.int .i64 a.i) [.cells (spC a.s),.cells (spC sm)]
theorem zf8g {sm:Spc} {m:Sl Att} (hm:m.l.length≤20) (a:DG) (hi:a.i≤2) (hl:a.l.l.length≤20) {Φ:AExit→St→Prop}
  (hexit:Φ (.exit 0) ⟨js 87,[.cells (spC a.s),.cells (spC sm)]⟩) (hw : ∀ st st',Weak 0 st st'→Φ (.exit 0) st'→Φ (.exit 0) st) :
  W z4cd 0 a3L0 (z13e 0 (znoj sm m) (fun a=>2-a.i) (fun a=>a.i≤2∧a.l.l.length≤20) a Φ) (znoj sm m a):=by
 obtain ⟨i,s,l⟩:=a
 simp only at hi hl
 simp only [znoj]
 by_cases h:i<2
 case neg =>
  have h':¬ (i:Int)<2:=by omega
  simp (disch:=first|omega|simp<;>omega|fail) [-zA,-zB,-zC,-zD,-zE,a3L0,a3S0,h,h']
  refine hw _ _ (z515 ?_ rfl) hexit
  simp (disch:=first|omega|simp<;>omega|fail) [-zA,-zB,-zC,-zD,-zE]
 have h':(i:Int)<2:=by omega
 have hV:=zldt s l.l
 have e1:=zusn s l.l
 have e2:=zvie s l.l
 have k1:=zbwi (s:=s) (l:=l)
 have k2:=z9wx (s:=s) (l:=l) (by omega)
 have k3:=zu2h (x:=ownN (eliS s l.l)) (y:=ownN (eliR s l.l))
 rw [zd8n (by omega),zd8n (by omega),zhcu] at k3
 have k4:=zvlb (s:=s) hl
 have k5:=zwh1 (s:=s) (l:=l) (by omega)
 have hA:=z9h1 (V:=votL s l.l) (by omega)
 have hB:(cmpB s l.l).length≤100:=by have:=(z9f9 (s:=s) (l:=l.l) (by omega)).1; unfold cmpB; rw [z8gt]; exact this
 have k6:=z337 (x:=ownN (zj70 (votL s l.l))) (y:=ownN (cmpB s l.l))
 rw [zd8n (by omega),zd8n (by omega),zhu6 (by omega)] at k6
 have he:=z131 (V:=votL s l.l) (by omega)
 have k7:cS02 [qvA (votL s l.l),(badR s l.l).dv 1 stC]=some (.bool true):=by
  have h0:(ownN (eqv1 (votL s l.l))).l=(badR s l.l).l:=by rw [zd8n (by omega),z9ww (by omega)]
  have:=zku2 (x:=ownN (eqv1 (votL s l.l))) (y:=badR s l.l)
  rw [h0] at this
  simpa [qvA] using this
 have k8:=z6ch (s:=s) hl
 have k9:=zaq6 (s:=s) (l:=l) (by omega)
 have hdd:=zixt (s:=s) (l:=l.l) (by omega)
 have k10:=z7w4 (a:=(decA s (votL s l.l)).1) (b:=(decB s l.l).1)
 rw [hdd.1] at k10
 rw [hdd.2] at k8
 have p1:=zu1r (ownN (eliS s l.l))
 have p2:=zu1r (ownN (eliR s l.l))
 have p3:=z165 (ownN (zj70 (votL s l.l)))
 have p4:=z165 (ownN (cmpB s l.l))
 have p5:=zb7u (votL s l.l)
 have p6:=zfuu (badR s l.l)
 have p7:=zu1r l
 generalize (ownN (eliS s l.l)).dv 9 atC=q1 at k1 k3 p1
 generalize (ownN (eliR s l.l)).dv 9 atC=q2 at k2 k3 p2
 generalize (ownN (zj70 (votL s l.l))).dv 5 agC=q3 at k4 k6 p3
 generalize (ownN (cmpB s l.l)).dv 5 agC=q4 at k5 k6 p4
 generalize qvA (votL s l.l)=q5 at k4 k7 p5
 generalize (badR s l.l).dv 1 stC=q6 at k5 k7 p6
 generalize (decA s (votL s l.l)).1=A at k8 k10
 generalize (decB s l.l).1=B at k9 k10
 generalize (decB s l.l).2=e at k8 k9
 simp (disch:=first|omega|simp<;>omega|fail) [-zA,-zB,-zC,-zD,-zE,a3L0,a3S0,h,h',z8s9,z5p1,z4bo,zv7h,k1,k2,k3,p1,p2,p7,ze3n,zkgt,k4,k5,z6kr,zul8,k8,k9,z2q5,z6uo,k6,p3,p4,zqab,k7,p5,p6,zfmi,k10,zd17,zf01]
 exact ⟨⟨i+1,sm,m⟩,zju2 (tail:=[.cells (agC A),.cells (agC B)]) (by simp (disch:=first|omega|simp<;>omega|fail) [-zA,-zB,-zC,-zD,-zE,znoj,a3S0]) (by simp (disch:=first|omega|simp<;>omega|fail) [-zA,-zB,-zC,-zD,-zE,znoj,a3S0]) (Nat.zero_le _) (by simp [znoj,a3S0,Am.belowL,Am.below,z8b8 _ _ (zu1r m)]) (by simp [znoj,a3S0,zlf2]),by simp only; omega,by simp only; omega,hm⟩
theorem z0y6 (s:SpU) (l:Raw AtU) (x:Nl):V P 0 a3.code (retK a3.res (.bool true)) ⟨zr5g a3.ntmps [.agg (sxC s),l.dv 9 axC,x.dv],[]⟩:=by
 have k1:=zezr (s:=s) (l:=l)
 cases e:ligB s l.l with
 | false =>
  rw [e] at k1
  refine V_W mix za7h ?_
  simp (disch:=first|omega|simp<;>omega|fail) [-zA,-zB,-zC,-zD,-zE,a3,z0rw,z8jn,k1,zr8f]
 | true =>
 rw [e] at k1
 obtain ⟨eS,eL,hl⟩:=zy37 e
 obtain ⟨s',hs'⟩ : ∃ s',s.to=s':=⟨_,rfl⟩
 obtain ⟨l',hl'⟩ : ∃ l',atT l=l':=⟨_,rfl⟩
 rw [hs'] at eS
 rw [hl'] at eL hl
 rw [← eS,← eL] at k1 ⊢
 have k2:=zbf6 (x:=x)
 have hml:=z4if (nlT x)
 have hm:(ownN (atM (nlT x))).l.length≤20:=by rw [zd8n (by omega)]; omega
 obtain ⟨sm,hsm⟩ : ∃ s,spM (nlT x)=s:=⟨_,rfl⟩
 obtain ⟨m,hmm⟩ : ∃ s,ownN (atM (nlT x))=s:=⟨_,rfl⟩
 rw [hsm,hmm] at k2
 rw [hmm] at hm
 have hp:=zkx7 x
 have k3:=zzs2
 refine zbn1 (V_W mix za7h ?_)
 simp (disch:=first|omega|simp<;>omega|fail) [-zA,-zB,-zC,-zD,-zE,a3]
 refine zbn1 (V_W mix za7h ?_)
 simp (disch:=first|omega|simp<;>omega|fail) [-zA,-zB,-zC,-zD,-zE,z8s9,z8jn,k1,zu1r]
 refine zbn1 (V_W mix za7h ?_)
 simp (disch:=first|omega|simp<;>omega|fail) [-zA,-zB,-zC,-zD,-zE,zz5b,k2,hp,zf01]
 refine zbn1 (zbn1 (V_W mix za7h ?_))
 simp (disch:=first|omega|simp<;>omega|fail) [-zA,-zB,-zC,-zD,-zE]
 refine z3mo (ztbr (znoj sm m) (fun a=>2-a.i) (fun a=>a.i≤2∧a.l.l.length≤20) ⟨0,s',l'⟩ (z515 (by simp (disch:=first|omega|simp<;>omega|fail) [-zA,-zB,-zC,-zD,-zE,znoj,a3S0]) (by simp (disch:=first|omega|simp<;>omega|fail) [-zA,-zB,-zC,-zD,-zE,znoj,a3S0])) ⟨by simp,hl⟩ (fun a ha=>V_W mix za7h (zf8g hm a ha.1 ha.2 ?_ ?_)))
 ·rw [z233,zd2q]
  refine V_W mix za7h ?_
  simp (disch:=first|omega|simp<;>omega|fail) [-zA,-zB,-zC,-zD,-zE,z6e2,k3]
 ·intro st st' hw' h
  rw [z233,zd2q] at h ⊢
  exact zqfd hw' h
namespace agreementDecides
theorem law_holds (dvs) (h:Ty.Args [ySp,.sl yAt,.sl (.int .i64)] dvs):Am.Sem P 3 dvs (.bool true):=by
 obtain ⟨d1,l1,rfl,h1,d2,l2,rfl,h2,d3,l3,rfl,h3,rfl⟩:=h
 obtain ⟨s,rfl⟩:=okSp h1
 obtain ⟨l,rfl⟩:=zkwc h2
 obtain ⟨x,_,rfl⟩:=zjzy h3
 exact znz9 Try.func3 z842 (z0y6 s l x)
end agreementDecides
end
end Go.Proofs.Ytjknipdiglpnlaa
