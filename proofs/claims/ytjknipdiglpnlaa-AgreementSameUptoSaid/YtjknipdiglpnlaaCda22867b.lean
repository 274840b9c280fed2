/-
  2 texts of mine in one.
-/
import Derived.Test.YtjknipdiglpnlaaCb3f0584b
import Derived.Test.YtjknipdiglpnlaaC966dcd30
import Derived.Test.YtjknipdiglpnlaaCa291953b
import Derived.Test.YtjknipdiglpnlaaCd75c9fc6
import Derived.Test.YtjknipdiglpnlaaC2dc5e998
set_option maxRecDepth 20000
set_option maxHeartbeats 4000000
open List renaming map_take → zA, map_drop → zB, map_set → zC, map_append → zD, drop_one → zE
set_option linter.unusedSimpArgs false
set_option linter.unusedVariables false
namespace Go.Proofs.Ytjknipdiglpnlaa
open Go Go.Am
theorem zkch {α:Type} {e:Ty} {f:α→List DV} {R:α→Prop} {M:Nat} (he : ∀ ds,e.Ok ds→z1t3 ds≤M → ∃ a,R a∧ds=f a) : ∀ (gs:List (List DV)),(∀ g ∈ gs,e.Ok g)→z1t3 gs.flatten≤M → ∃ l:List α,l.length=gs.length∧(∀ a ∈ l,R a)∧gs=l.map f
 | [],_,_=>⟨[],rfl,fun a h=>by simp at h,rfl⟩
 | g::gs,h,hb=>by
  rw [List.flatten_cons,z51p] at hb
  obtain ⟨a,ha,rfl⟩:=he g (h g (by simp)) (by omega)
  obtain ⟨l,h1,h2,rfl⟩:=zkch he gs (fun g' hg=>h g' (by simp [hg])) (by omega)
  refine ⟨a::l,by simp,fun b hb => ?_,rfl⟩
  rcases List.mem_cons.1 hb with rfl|hb
  ·exact ha
  ·exact h2 b hb
theorem z3jx {α:Type} {f:α→List DV} {s:Nat} (hu : ∀ a,s≤z1t3 (f a)) : ∀ l:List α,l.length*s≤z1t3 (l.flatMap f)
 | []=>by simp
 | a::l=>by
  have:=z3jx hu l
  have:=hu a
  rw [List.flatMap_cons,z51p,List.length_cons,Nat.add_mul]; omega
theorem zxl8 {α:Type} {e:Ty} {f:α→List DV} {R:α→Prop} {s M:Nat} (hM:M≤4294967296) (hs:e.size=s) (h0:0<s) (hu : ∀ a,s≤z1t3 (f a)) (he : ∀ ds,e.Ok ds→z1t3 ds≤M → ∃ a,R a∧ds=f a) {ds:List DV} (h:Ty.Ok (.sl e) ds) (hb:z1t3 ds≤M) :
  ∃ x:Sl α,x.l.length*s≤M∧(∀ a ∈ x.l,R a)∧ds=[x.dv s f]:=by
 simp only [Ty.Ok] at h
 rcases h with rfl|⟨gs,rfl,_,h⟩
 ·exact ⟨nilS,by simp [zb11],fun a h=>by simp [zb11] at h,rfl⟩
 ·simp only [z1t3,dvSz,Nat.add_zero] at hb
  obtain ⟨l,h1,h2,rfl⟩:=zkch he gs h (by omega)
  have h3:=z3jx hu l
  have h4:(l.map f).flatten=l.flatMap f:=by simp [List.flatMap]
  rw [h4] at hb
  have h5:l.length*s≤M:=by omega
  have h6:l.length*1≤l.length*s:=Nat.mul_le_mul_left _ h0
  refine ⟨⟨some false,l,fun h=>by simp at h,by omega⟩,h5,h2,?_⟩
  rw [h4,hs,List.length_map]; rfl
abbrev yDg:Ty := .arr 32 (.int .u8)
abbrev yEn:Ty := .st [.str,yDg]
abbrev yLk:Ty := .st [.str,.sl yEn,.sl yEn]
theorem zi3e : ∀ l:List B8,z1t3 (l.map w8)=l.length
 | []=>rfl
 | b::l=>by rw [List.map_cons,z1t3,zi3e l,List.length_cons,show dvSz (w8 b)=1 from rfl]; omega
theorem zrol (d:Dg):z1t3 (dgC d)=32:=by rw [dgC,zi3e]; exact d.2
theorem zb7h (x:Ent):33≤z1t3 (enC x):=by simp only [enC,z1t3,zrol,dvSz]; omega
theorem okEn {ds:List DV} (h:Ty.Ok yEn ds) : ∃ x:Ent,True∧ds=enC x:=by
 simp only [yEn,Ty.Ok,Ty.OkL] at h
 obtain ⟨a1,b1,rfl,h1,a2,b2,rfl,h2,rfl⟩:=h
 obtain ⟨s1,rfl⟩:=h1
 obtain ⟨b,hb,rfl⟩:=zgcd (show Ty.Ok yDg a2 by simpa only [Ty.Ok] using h2)
 exact ⟨⟨s1,⟨b,hb⟩⟩,trivial,by simp [enC,dgC]⟩
theorem zghc {ds:List DV} (h:Ty.Ok (.sl yEn) ds) (hb:z1t3 ds≤1048576) : ∃ x:Sl Ent,x.l.length≤40000∧ds=[x.dv 33 enC]:=by
 obtain ⟨x,h1,_,h2⟩:=zxl8 (R:=fun _=>True) (M:=1048576) (s:=33) (by decide) rfl (by decide) zb7h (fun ds h _=>okEn h) h hb
 exact ⟨x,by omega,h2⟩
theorem okLk {ds:List DV} (h:Ty.Ok yLk ds) (hb:z1t3 ds≤1048576) : ∃ x:Lnk,(x.m.l.length≤40000∧x.p.l.length≤40000)∧ds=lkC x:=by
 rw [yLk,Ty.Ok] at h
 simp only [Ty.OkL] at h
 obtain ⟨a1,b1,rfl,h1,a2,b2,rfl,h2,a3,b3,rfl,h3,rfl⟩:=h
 simp only [z51p] at hb
 obtain ⟨s1,rfl⟩:=(show ∃ s,a1=[.str s] from h1)
 obtain ⟨x2,h2b,rfl⟩:=zghc h2 (by omega)
 obtain ⟨x3,h3b,rfl⟩:=zghc h3 (by omega)
 exact ⟨⟨s1,x2,x3⟩,⟨h2b,h3b⟩,by simp [lkC]⟩
theorem zjzy {ds:List DV} (h:Ty.Ok (.sl (.int .i64)) ds) : ∃ x:Nl,(∀ n ∈ x.l,-9223372036854775808≤n∧n≤9223372036854775807)∧ds=[x.dv]:=by
 obtain ⟨k,l,h1,h2,rfl,hb⟩:=z61h (f:=inI) (R:=fun n => -9223372036854775808≤n∧n≤9223372036854775807) (fun ds h=>by obtain ⟨n,hn,rfl⟩:=zrcx h; exact ⟨n,hn,rfl⟩) h
 exact ⟨⟨k,l,h1,hb⟩,h2,rfl⟩
def nlT (x:Nl):Tp:=⟨x.k,x.l,x.h,0⟩
theorem z9fj (x:Nl):(nlT x).sl=x.dv:=rfl
theorem zhx7 (x:Nl):x.dv.one=true:=zxr4 (nlT x)
theorem zxy5 (x:Nl):x.dv.known=true:=zn8z (nlT x)
theorem ztqv (x:Nl):x.dv.cells=[x.dv]:=zymw (nlT x)
theorem z9k1 (x:Nl):zvnk [.nils,.int .i64 0] [(0,1,x.dv)]=some (.agg (tpC (nlT x))):=by rw [← z9fj,zkbj]; rfl
end Go.Proofs.Ytjknipdiglpnlaa
set_option linter.unusedSimpArgs false
set_option linter.unusedVariables false
namespace Go.Proofs.Ytjknipdiglpnlaa
open Go Go.Am
noncomputable def zk4o:Tbl:=addT 20 (.tch cLks) (addT 19 (.pure cAwk) (addT 21 (.pure cSmL) (addT 22 (.pure cS15) tbl0)))
theorem zdwo:zk4o 20 = .tch cLks:=by simp [zk4o]
theorem zpic:zk4o 19 = .pure cAwk:=by simp [zk4o]
theorem z9nr:zk4o 21 = .pure cSmL:=by simp [zk4o]
theorem z6ad:zk4o 22 = .pure cS15:=by simp [zk4o]
theorem zis1:zk4o.Sound P:=z0rp zdfr (z0rp z41w (z0rp zijq (z0rp zrpw zr5o)))
theorem za5a (a:Lnk):zxyz a a=true:=by simp [zxyz]
theorem zpq6 (t:Tp) (H:List AObj):zpsc H 3 ((lksS t).dv 3 lkC) 0=some (.ref (lkC (zivf t).2.1)):=by
 have:=zalo (h:=H) (x:=lksS t) (i:=0) z9tw (by simp [lksS])
 rw [show ((0:Nat):Int)=0 from rfl] at this
 rw [this]; rfl
theorem z2nb (t:Tp) (H:List AObj):zpsc H 3 ((lksS t).dv 3 lkC) 1=some (.ref (lkC (zivf t).2.2)):=by
 have:=zalo (h:=H) (x:=lksS t) (i:=1) z9tw (by simp [lksS])
 rw [show ((1:Nat):Int)=1 from rfl] at this
 rw [this]; rfl
theorem zsqa (t:Tp) (H:List AObj):zpsc H 3 ((lksS t).dv 3 lkC) 2=some (.ref (lkC (zivf t).2.1)):=by
 have:=zalo (h:=H) (x:=lksS t) (i:=2) z9tw (by simp [lksS])
 rw [show ((2:Nat):Int)=2 from rfl] at this
 rw [this]; rfl
theorem z0x2 (a b:Lnk) (x:Nl) (h1:a.m.l.length≤40000∧a.p.l.length≤40000) (h2:b.m.l.length≤40000∧b.p.l.length≤40000):Runs zk4o a4 [.agg (lkC a),.agg (lkC b),x.dv] (.bool true):=by
 refine ⟨?_⟩
 have l1 : ∀ H,lenD H (a.m.dv 33 enC)=some (.int .i64 a.m.l.length):=fun H=>zupj
 have l2 : ∀ H,lenD H (a.p.dv 33 enC)=some (.int .i64 a.p.l.length):=fun H=>zupj
 have l3 : ∀ H,lenD H (b.m.dv 33 enC)=some (.int .i64 b.m.l.length):=fun H=>zupj
 have l4 : ∀ H,lenD H (b.p.dv 33 enC)=some (.int .i64 b.p.l.length):=fun H=>zupj
 obtain ⟨n1,e1⟩ : ∃ n,a.m.l.length=n:=⟨_,rfl⟩
 obtain ⟨n2,e2⟩ : ∃ n,a.p.l.length=n:=⟨_,rfl⟩
 obtain ⟨n3,e3⟩ : ∃ n,b.m.l.length=n:=⟨_,rfl⟩
 obtain ⟨n4,e4⟩ : ∃ n,b.p.l.length=n:=⟨_,rfl⟩
 rw [e1] at l1 h1
 rw [e2] at l2 h1
 rw [e3] at l3 h2
 rw [e4] at l4 h2
 have k1:=z723 (t:=nlT x) (show 0<3600000000 by decide)
 have s1:=zfc5 (a:=a) (b:=b)
 have s2:=z3rl (a:=a) (b:=b)
 have hx1:=z9k1 x
 by_cases c1:200<n1+n2
 ·have c1':(200:Int)<(n1:Int)+n2:=by omega
  simp (disch:=first|omega|simp<;>omega|fail) [-zA,-zB,-zC,-zD,-zE,a4,zfi3,zj40,l1,l2,c1,c1']
 have c1':¬ (200:Int)<(n1:Int)+n2:=by omega
 by_cases c2:200<n3+n4
 ·have c2':(200:Int)<(n3:Int)+n4:=by omega
  simp (disch:=first|omega|simp<;>omega|fail) [-zA,-zB,-zC,-zD,-zE,a4,zfi3,zj40,l1,l2,l3,l4,c1,c1',c2,c2']
 have c2':¬ (200:Int)<(n3:Int)+n4:=by omega
 have i0:=zpq6 (nlT x)
 have i1:=z2nb (nlT x)
 have i2:=zsqa (nlT x)
 obtain ⟨G,hG⟩ : ∃ G,(lksS (nlT x)).dv 3 lkC=G:=⟨_,rfl⟩
 obtain ⟨V,hV⟩ : ∃ V,zivf (nlT x)=V:=⟨_,rfl⟩
 rw [hG] at k1 i0 i1 i2
 rw [hV] at k1 i0 i1 i2
 have s3:=zfc5 (a:=V.2.1) (b:=V.2.2)
 have s4:=z3rl (a:=V.2.1) (b:=V.2.2)
 have s5:=zfc5 (a:=V.2.1) (b:=V.2.1)
 rw [za5a] at s5
 have k0:=zzs2
 have hpG:zyp8 G=true:=by rw [← hG]; exact z8q9 _
 cases e:zxyz a b<;>rw [e] at s1 s2<;>cases e':zxyz V.2.1 V.2.2<;>rw [e'] at s3 s4 <;>
  simp (disch:=first|omega|simp<;>omega|fail) [-zA,-zB,-zC,-zD,-zE,a4,zfi3,zj40,l1,l2,l3,l4,c1,c1',c2,c2',zhx7,zxy5,ztqv,hx1,zdwo,k1,zpic,k0,zrer,z9nr,z6ad,s1,s2,s3,s4,s5,i0,i1,i2]
namespace agreementSame
theorem law_holds (dvs) (h:Ty.Args [yLk,yLk,.sl (.int .i64)] dvs) (hM:z1t3 dvs≤1048576):Am.Sem P 4 dvs (.bool true):=by
 obtain ⟨d1,l1,rfl,h1,d2,l2,rfl,h2,d3,l3,rfl,h3,rfl⟩:=h
 simp only [z1t3] at hM
 obtain ⟨a,ha,rfl⟩:=okLk h1 (by simp only [Ty.dv,dvSz] at hM; omega)
 obtain ⟨b,hb,rfl⟩:=okLk h2 (by simp only [Ty.dv,dvSz] at hM; omega)
 obtain ⟨x,_,rfl⟩:=zjzy h3
 exact zljw mix zis1 Try.func4 zn8d (z0x2 a b x ha hb)
end agreementSame
end Go.Proofs.Ytjknipdiglpnlaa
