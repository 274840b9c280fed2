/-
  3 texts of mine in one.
-/
import Derived.Test.YtjknipdiglpnlaaCcd3143aa
import Derived.Test.YtjknipdiglpnlaaCe656babf
import Derived.Test.YtjknipdiglpnlaaCf7009e0f
import Derived.Test.YtjknipdiglpnlaaC5d3ebb32
import Derived.Test.YtjknipdiglpnlaaC4d2893d8
set_option maxRecDepth 20000
set_option maxHeartbeats 4000000
open List renaming map_take → zA, map_drop → zB, map_set → zC, map_append → zD, drop_one → zE
namespace Go.Proofs.Ytjknipdiglpnlaa
section
set_option linter.unusedSimpArgs false
set_option linter.unusedVariables false
open Go Go.Am
def bld:Str:=[98,117,105,108,100]
def ann:Str:=[97,110,110]
def awS:Spc:=⟨bld,false,1,⟨some true,[ann],by simp,by simp⟩,nilS,nilS,nilS⟩
def awX:Att:=⟨ann,⟨[],[],bld,2,nilS,nilS,nilS,nilS⟩⟩
def awL:Sl Att:=⟨some true,[awX],by simp,by simp⟩
theorem aw1:(decA awS (votL awS awL.l)).2=0:=by rfl
theorem aw2:(decA awS (votL awS awL.l)).1.lnk.step=bld:=by rfl
theorem aw3:(decA awS (votL awS awL.l)).1.owners.l.length=1:=by rfl
noncomputable def z3ic:Tbl:=addT 14 (.pure cDec) tbl0
theorem zpkd:z3ic 14 = .pure cDec:=by simp [z3ic]
theorem zd3g:z3ic.Sound P:=z0rp zdlo zr5o
theorem zovi:spC awS=[.str [98,117,105,108,100],.bool false,.int .i64 1,.sl true 1 1 [.str [97,110,110]],.nils,.nils,.nils]:=rfl
theorem zstd:awL.dv 9 atC = .sl true 9 1 [.str [97,110,110],.str [],.str [],.str [98,117,105,108,100],.int .i64 2,.nils,.nils,.nils,.nils]:=rfl
theorem zfqn:zvnk [.str [],.bool false,.int .i64 0,.nils,.nils,.nils,.nils] [(0,1,.str [98,117,105,108,100]),(2,1,.int .i64 1),(3,1,.sl true 1 1 [.str [97,110,110]])]=some (.agg [.str [98,117,105,108,100],.bool false,.int .i64 1,.sl true 1 1 [.str [97,110,110]],.nils,.nils,.nils]):=rfl
theorem ziw9:zvnk [.str [],.str [],.str [],.int .i64 0,.nils,.nils,.nils,.nils] [(2,1,.str [98,117,105,108,100]),(3,1,.int .i64 2)]=some (.agg [.str [],.str [],.str [98,117,105,108,100],.int .i64 2,.nils,.nils,.nils,.nils]):=rfl
theorem z1op:zvnk [.str [],.str [],.str [],.str [],.int .i64 0,.nils,.nils,.nils,.nils] [(0,1,.str [97,110,110]),(1,8,.agg [.str [],.str [],.str [98,117,105,108,100],.int .i64 2,.nils,.nils,.nils,.nils])]=some (.agg [.str [97,110,110],.str [],.str [],.str [98,117,105,108,100],.int .i64 2,.nils,.nils,.nils,.nils]):=rfl
theorem z8i9:bslD 9 1 [.str [],.str [],.str [],.str [],.int .i64 0,.nils,.nils,.nils,.nils] [(0,9,.agg [.str [97,110,110],.str [],.str [],.str [98,117,105,108,100],.int .i64 2,.nils,.nils,.nils,.nils])]=some (.sl true 9 1 [.str [97,110,110],.str [],.str [],.str [98,117,105,108,100],.int .i64 2,.nils,.nils,.nils,.nils]):=rfl
theorem aw_o:oneC 7 true [.str [98,117,105,108,100],.bool false,.int .i64 1,.sl true 1 1 [.str [97,110,110]],.nils,.nils,.nils]=some (.agg [.str [98,117,105,108,100],.bool false,.int .i64 1,.sl true 1 1 [.str [97,110,110]],.nils,.nils,.nils]):=rfl
theorem zgm9:Runs z3ic a19 [] (.bool true):=by
 refine ⟨?_⟩
 have k:=z6ch (s:=awS) (l:=awL) (by simp [awL])
 have h1:=aw1
 have h2:=aw2
 have h3:=aw3
 rw [zovi,zstd] at k
 obtain ⟨A,e,hA⟩ : ∃ A e,decA awS (votL awS awL.l)=(A,e):=⟨_,_,rfl⟩
 rw [hA] at k h1 h2 h3
 simp only at k h1 h2 h3
 subst h1
 have hlo : ∀ H,lenD H (A.owners.dv 1 stC)=some (.int .i64 A.owners.l.length):=fun H=>zupj
 rw [h3] at hlo
 have h2':A.lnk.step=[98,117,105,108,100]:=h2
 simp (disch:=first|omega|simp<;>omega|fail) [-zA,-zB,-zC,-zD,-zE,a19,zfqn,ziw9,z1op,z8i9,aw_o,zbao,zyp8,zpkd,k,z0wg,zntj,hlo,h2']
noncomputable def cAwk:List DV→Option DV:=con (fun _=>True) (fun _:Unit=>[]) (fun _ => .bool true)
theorem zzs2:cAwk []=some (.bool true):=zsn4 (f:=fun _:Unit=>[]) (g:=fun _=>DV.bool true) (fun _ _ _=>rfl) ()
theorem z41w:(Con.pure cAwk).Sound P 19:=z2au fun _ _=>zljw mix zd3g Try.func19 zlqi zgm9
end
section
set_option linter.unusedSimpArgs false
set_option linter.unusedVariables false
open Go Go.Am
theorem zar1 {α:Type} {e:Ty} {f:α→List DV} {R:α→Prop} {s:Nat} (hs:e.size=s) (he : ∀ ds,e.Ok ds → ∃ a,R a∧ds=f a) {ds:List DV} (h:Ty.Ok (.sl e) ds) : ∃ x:Raw α,ds=[x.dv s f]:=by
 obtain ⟨k,l,h1,_,rfl,hb⟩:=z61h he h
 exact ⟨⟨k,l,h1,hb⟩,by rw [hs]; rfl⟩
abbrev yDg:Ty := .arr 32 (.int .u8)
abbrev yEn:Ty := .st [.str,yDg]
abbrev yLk:Ty := .st [.str,.sl yEn,.sl yEn]
theorem okEn {ds:List DV} (h:Ty.Ok yEn ds) : ∃ x:Ent,True∧ds=enC x:=by
 simp only [yEn,Ty.Ok,Ty.OkL] at h
 obtain ⟨a1,b1,rfl,h1,a2,b2,rfl,h2,rfl⟩:=h
 obtain ⟨s1,rfl⟩:=h1
 obtain ⟨b,hb,rfl⟩:=zgcd (show Ty.Ok yDg a2 by simpa only [Ty.Ok] using h2)
 exact ⟨⟨s1,⟨b,hb⟩⟩,trivial,by simp [enC,dgC]⟩
theorem zghc {ds:List DV} (h:Ty.Ok (.sl yEn) ds) : ∃ x:Raw Ent,ds=[x.dv 33 enC]:=zar1 (R:=fun _=>True) rfl (fun ds h=>okEn h) h
theorem okLk {ds:List DV} (h:Ty.Ok yLk ds) : ∃ x:LkU,ds=lxC x:=by
 rw [yLk,Ty.Ok] at h
 simp only [Ty.OkL] at h
 obtain ⟨a1,b1,rfl,h1,a2,b2,rfl,h2,a3,b3,rfl,h3,rfl⟩:=h
 obtain ⟨s1,rfl⟩:=(show ∃ s,a1=[.str s] from h1)
 obtain ⟨x2,rfl⟩:=zghc h2
 obtain ⟨x3,rfl⟩:=zghc h3
 exact ⟨⟨s1,x2,x3⟩,by simp [lxC]⟩
theorem zjzy {ds:List DV} (h:Ty.Ok (.sl (.int .i64)) ds) : ∃ x:Nl,(∀ n ∈ x.l,-9223372036854775808≤n∧n≤9223372036854775807)∧ds=[x.dv]:=by
 obtain ⟨k,l,h1,h2,rfl,hb⟩:=z61h (f:=inI) (R:=fun n => -9223372036854775808≤n∧n≤9223372036854775807) (fun ds h=>by obtain ⟨n,hn,rfl⟩:=zrcx h; exact ⟨n,hn,rfl⟩) h
 exact ⟨⟨k,l,h1,hb⟩,h2,rfl⟩
def nlT (x:Nl):Tp:=⟨x.k,x.l,x.h,0⟩
theorem z9fj (x:Nl):(nlT x).sl=x.dv:=rfl
theorem zhx7 (x:Nl):x.dv.one=true:=zxr4 (nlT x)
theorem zxy5 (x:Nl):x.dv.known=true:=zn8z (nlT x)
theorem ztqv (x:Nl):x.dv.cells=[x.dv]:=zymw (nlT x)
theorem z9k1 (x:Nl):zvnk [.nils,.int .i64 0] [(0,1,x.dv)]=some (.agg (tpC (nlT x))):=by rw [← z9fj,zkbj]; rfl
end
section
set_option linter.unusedSimpArgs false
set_option linter.unusedVariables false
open Go Go.Am
def zrth (a b:LkU):Bool:=decide (a.m.l=b.m.l)&&decide (a.p.l=b.p.l)
theorem z4zp {a b c d:LkU} (e:[DV.agg (lxC a),.agg (lxC b)]=[.agg (lxC c),.agg (lxC d)]):a=c∧b=d:=by
 simp only [List.cons.injEq,DV.agg.injEq,and_true] at e
 exact ⟨zzz2 e.1,zzz2 e.2⟩
noncomputable def zui1:List DV→Option DV:=con (fun _=>True) (fun a:Raw Ent × Raw Ent=>[a.1.dv 33 enC,a.2.dv 33 enC]) (fun a => .bool (decide (a.1.l=a.2.l)))
theorem zvyk {x y:Raw Ent}:zui1 [x.dv 33 enC,y.dv 33 enC]=some (.bool (decide (x.l=y.l))) :=
 zsn4 (f:=fun a:Raw Ent × Raw Ent=>[a.1.dv 33 enC,a.2.dv 33 enC]) (g:=fun a => .bool (decide (a.1.l=a.2.l))) (by
  rintro ⟨a,b⟩ ⟨c,d⟩ e
  simp only [List.cons.injEq,and_true] at e
  rw [zdvs e.1,zdvs e.2]) (x,y)
theorem za3x:(Con.pure zui1).Sound P 49:=z2au fun a _=>zljw mix zr5o Try.func49 zdc4 (z0lm (by decide) a.1 a.2)
theorem zo6y:(Con.pure zui1).Sound P 50:=z2au fun a _=>by
 have h:=zljw mix zr5o Try.func50 z12y (zrph (by decide) a.1 a.2)
 rw [z3w8] at h; exact h
noncomputable def zy48:Tbl:=addT 49 (.pure zui1) (addT 50 (.pure zui1) tbl0)
theorem zegx:zy48 49 = .pure zui1:=by simp [zy48]
theorem z38j:zy48 50 = .pure zui1:=by simp [zy48]
theorem zp6y:zy48.Sound P:=z0rp za3x (z0rp zo6y zr5o)
theorem zjq8 (a b:LkU):Runs zy48 a21 [.agg (lxC a),.agg (lxC b)] (.bool (zrth a b)):=by
 refine ⟨?_⟩
 have h1:=zvyk (x:=a.m) (y:=b.m)
 have h2:=zvyk (x:=a.p) (y:=b.p)
 unfold zrth
 cases e1:decide (a.m.l=b.m.l)<;>rw [e1] at h1
 ·simp (disch:=first|omega|simp<;>omega|fail) [-zA,-zB,-zC,-zD,-zE,a21,zkjk,zzkq,zegx,h1]
 ·simp (disch:=first|omega|simp<;>omega|fail) [-zA,-zB,-zC,-zD,-zE,a21,zkjk,zzkq,zegx,h1,h2]
theorem z5mc (a b:LkU):Runs zy48 a22 [.agg (lxC a),.agg (lxC b)] (.bool (zrth a b)):=by
 refine ⟨?_⟩
 have h1:=zvyk (x:=a.m) (y:=b.m)
 have h2:=zvyk (x:=a.p) (y:=b.p)
 unfold zrth
 cases e1:decide (a.m.l=b.m.l)<;>rw [e1] at h1
 ·simp (disch:=first|omega|simp<;>omega|fail) [-zA,-zB,-zC,-zD,-zE,a22,zkjk,zzkq,z38j,h1]
 ·simp (disch:=first|omega|simp<;>omega|fail) [-zA,-zB,-zC,-zD,-zE,a22,zkjk,zzkq,z38j,h1,h2]
noncomputable def cSmU:List DV→Option DV:=con (fun _=>True) (fun a:LkU × LkU=>[.agg (lxC a.1),.agg (lxC a.2)]) (fun a => .bool (zrth a.1 a.2))
theorem zvzq {a b:LkU}:cSmU [.agg (lxC a),.agg (lxC b)]=some (.bool (zrth a b)) :=
 zsn4 (f:=fun a:LkU × LkU=>[.agg (lxC a.1),.agg (lxC a.2)]) (g:=fun a => .bool (zrth a.1 a.2)) (by
  rintro ⟨a,b⟩ ⟨c,d⟩ e
  obtain ⟨rfl,rfl⟩:=z4zp e; rfl) (a,b)
theorem zkcv:(Con.pure cSmU).Sound P 21:=z2au fun a _=>zljw mix zp6y Try.func21 zyfb (zjq8 a.1 a.2)
theorem zprd:(Con.pure cSmU).Sound P 22:=z2au fun a _=>zljw mix zp6y Try.func22 zi98 (z5mc a.1 a.2)
def upS {α:Type} (x:Sl α):Raw α:=⟨x.k,x.l,x.h,Nat.le_trans x.b (by decide)⟩
def Lnk.up (a:Lnk):LkU:=⟨a.step,upS a.m,upS a.p⟩
theorem z0su (a:Lnk):lxC a.up=lkC a:=rfl
theorem ze5p {a b:Lnk}:cSmU [.agg (lkC a),.agg (lkC b)]=some (.bool (zrth a.up b.up)):=by rw [← z0su,← z0su]; exact zvzq
noncomputable def zk4o:Tbl:=addT 20 (.tch cLks) (addT 19 (.pure cAwk) (addT 21 (.pure cSmU) (addT 22 (.pure cSmU) tbl0)))
theorem zdwo:zk4o 20 = .tch cLks:=by simp [zk4o]
theorem zpic:zk4o 19 = .pure cAwk:=by simp [zk4o]
theorem z9nr:zk4o 21 = .pure cSmU:=by simp [zk4o]
theorem z6ad:zk4o 22 = .pure cSmU:=by simp [zk4o]
theorem zis1:zk4o.Sound P:=z0rp zdfr (z0rp z41w (z0rp zkcv (z0rp zprd zr5o)))
theorem zopo (a:LkU):zrth a a=true:=by simp [zrth]
theorem zpq6 (t:Tp) (H:List AObj):zpsc H 3 ((lksS t).dv 3 lkC) 0=some (.ref (lkC (zivf t).2.1)):=by
 have:=zalo (h:=H) (x:=lksS t) (i:=0) z9tw (by simp [lksS])
 rw [show ((0:Nat):Int)=0 from rfl] at this
 rw [this]; rfl
theorem z2nb (t:Tp) (H:List AObj):zpsc H 3 ((lksS t).dv 3 lkC) 1=some (.ref (lkC (zivf t).2.2)):=by
 have:=zalo (h:=H) (x:=lksS t) (i:=1) z9tw (by simp [lksS])
 rw [show ((1:Nat):Int)=1 from rfl] at this
 rw [this]; rfl
theorem zsqa (t:Tp) (H:List AObj):zpsc H 3 ((lksS t).dv 3 lkC) 2=some (.ref (lkC (zivf t).2.1)):=by
 have:=zalo (h:=H) (x:=lksS t) (i:=2) z9tw (by simp [lksS])
 rw [show ((2:Nat):Int)=2 from rfl] at this
 rw [this]; rfl
theorem z0x2 (a b:LkU) (x:Nl):Runs zk4o a4 [.agg (lxC a),.agg (lxC b),x.dv] (.bool true):=by
 refine ⟨?_⟩
 have l1 : ∀ H,lenD H (a.m.dv 33 enC)=some (.int .i64 a.m.l.length):=fun H=>zupj
 have l2 : ∀ H,lenD H (a.p.dv 33 enC)=some (.int .i64 a.p.l.length):=fun H=>zupj
 have l3 : ∀ H,lenD H (b.m.dv 33 enC)=some (.int .i64 b.m.l.length):=fun H=>zupj
 have l4 : ∀ H,lenD H (b.p.dv 33 enC)=some (.int .i64 b.p.l.length):=fun H=>zupj
 obtain ⟨n1,e1⟩ : ∃ n,a.m.l.length=n:=⟨_,rfl⟩
 obtain ⟨n2,e2⟩ : ∃ n,a.p.l.length=n:=⟨_,rfl⟩
 obtain ⟨n3,e3⟩ : ∃ n,b.m.l.length=n:=⟨_,rfl⟩
 obtain ⟨n4,e4⟩ : ∃ n,b.p.l.length=n:=⟨_,rfl⟩
 rw [e1] at l1
 rw [e2] at l2
 rw [e3] at l3
 rw [e4] at l4
 -- the sums may wrap
 obtain ⟨w1,hw1⟩ : ∃ w,IntKind.i64.wrap ((n1:Int)+(n2:Int))=w:=⟨_,rfl⟩
 obtain ⟨w2,hw2⟩ : ∃ w,IntKind.i64.wrap ((n3:Int)+(n4:Int))=w:=⟨_,rfl⟩
 have k1:=z723 (t:=nlT x) (show 0<3600000000 by decide)
 have s1:=zvzq (a:=a) (b:=b)
 have hx1:=z9k1 x
 by_cases c1:200<w1
 ·simp (disch:=first|omega|simp<;>omega|fail) [-zA,-zB,-zC,-zD,-zE,a4,zkjk,zzkq,l1,l2,hw1,c1]
 by_cases c2:200<w2
 ·simp (disch:=first|omega|simp<;>omega|fail) [-zA,-zB,-zC,-zD,-zE,a4,zkjk,zzkq,l1,l2,l3,l4,hw1,hw2,c1,c2]
 have i0:=zpq6 (nlT x)
 have i1:=z2nb (nlT x)
 have i2:=zsqa (nlT x)
 obtain ⟨G,hG⟩ : ∃ G,(lksS (nlT x)).dv 3 lkC=G:=⟨_,rfl⟩
 obtain ⟨V,hV⟩ : ∃ V,zivf (nlT x)=V:=⟨_,rfl⟩
 rw [hG] at k1 i0 i1 i2
 rw [hV] at k1 i0 i1 i2
 have s3:=ze5p (a:=V.2.1) (b:=V.2.2)
 have s5:=ze5p (a:=V.2.1) (b:=V.2.1)
 rw [zopo] at s5
 have k0:=zzs2
 have hpG:zyp8 G=true:=by rw [← hG]; exact z8q9 _
 cases e:zrth a b<;>rw [e] at s1<;>cases e':zrth V.2.1.up V.2.2.up<;>rw [e'] at s3 <;>
  simp (disch:=first|omega|simp<;>omega|fail) [-zA,-zB,-zC,-zD,-zE,a4,zkjk,zzkq,l1,l2,l3,l4,hw1,hw2,c1,c2,zhx7,zxy5,ztqv,hx1,zdwo,k1,zpic,k0,zajj,zrer,z9nr,z6ad,s1,s3,s5,i0,i1,i2]
namespace agreementSame
theorem law_holds (dvs) (h:Ty.Args [yLk,yLk,.sl (.int .i64)] dvs):Am.Sem P 4 dvs (.bool true):=by
 obtain ⟨d1,l1,rfl,h1,d2,l2,rfl,h2,d3,l3,rfl,h3,rfl⟩:=h
 obtain ⟨a,rfl⟩:=okLk h1
 obtain ⟨b,rfl⟩:=okLk h2
 obtain ⟨x,_,rfl⟩:=zjzy h3
 exact zljw mix zis1 Try.func4 zn8d (z0x2 a b x)
end agreementSame
end
end Go.Proofs.Ytjknipdiglpnlaa
