/-
  44 texts of mine in one.
-/
import Derived.Lib.AppendZeros
import Derived.WalkKit
import Derived.Test.YtaihpefemjlilaaGreatDoorC93fe9752
import Derived.Test.YtaihpefemjlilaaGreatDoorCca1ba563
import Derived.Test.YtaihpefemjlilaaGreatDoorCab9f7e71
import Derived.Test.YtaihpefemjlilaaGreatDoorCbc0e19a5
import Derived.Test.YtaihpefemjlilaaGreatDoorCea1547b8
set_option maxRecDepth 20000
set_option maxHeartbeats 4000000
open List renaming map_take → zA, map_drop → zB, map_set → zC, map_append → zD, drop_one → zE
open Int renaming toNat_natCast → y07, toNat_of_nonneg → y0a
open List renaming getD_eq_getElem?_getD → y01, getElem?_eq_getElem → y02, getElem_append_left → y03, length_pos_iff → y04, pairwise_iff_getElem → y05, length_append → y06, getElem_mem → y09, getElem_of_mem → y0b, getElem_append_right → y0c, mem_append → y0d, take_of_length_le → y0e, getElem_cons_zero → y0f, set_append_right → y0g
open Nat renaming le_refl → y00, sub_self → y0h
open Option renaming getD_some → y08
namespace Go.Proofs.YtaihpefemjlilaaGreatDoor
section
set_option linter.unusedSimpArgs false
set_option linter.unusedVariables false
open Go Go.Am
def cpD {α:Type} (id s:Nat) (x:Sl α):DV:=if x.l=[] then .nils else .ms id (x.l.length*s) 0 s x.l.length (x.l.length*s)
theorem z2ml {α:Type} {id s:Nat} {x:Sl α} (h:x.l=[]):cpD id s x = .nils:=if_pos h
theorem z6jk {α:Type} {id s:Nat} {x:Sl α} (h:x.l≠[]):cpD id s x = .ms id (x.l.length*s) 0 s x.l.length (x.l.length*s):=if_neg h
theorem zbn2 {α:Type} {id s:Nat} {x:Sl α}:(cpD id s x).one=true:=by unfold cpD; split<;>rfl
theorem zjy1 {α:Type} {id s:Nat} {x:Sl α}:(cpD id s x).cells=[cpD id s x]:=by unfold cpD; split<;>rfl
theorem zufi {α:Type} {id s:Nat} {x:Sl α}:(cpD id s x).known=true:=by unfold cpD; split<;>rfl
theorem z962 {α:Type} {n id s:Nat} {x:Sl α}:shD n (cpD id s x)=cpD (n+id) s x:=by unfold cpD; split<;>rfl
attribute [simp] zbn2 zjy1 zufi
def zcli (n:Nat) (c:Clu):List DV:=[cpD (n+2) 6 c.g,cpD (n+(2+(mutO c.g grC).length)) 37 c.i,.int .i64 c.next]
def zmsj (n:Nat) (c:Clu):List AObj := .cells (clC c) :: .cells (zcli n c)::(mutO c.g grC++mutO c.i inC)
theorem zlwt {a b:DV} {n:Int} (h1:a.known=true) (h2:a.cells=[a]) (h3:b.known=true) (h4:b.cells=[b]):zvnk [.nils,.nils,.int .i64 0] [(0,1,a),(1,1,b),(2,1,.int .i64 n)]=some (.agg [a,b,.int .i64 n]):=by
 have q1:(DV.int .i64 n).cells=[.int .i64 n]:=rfl
 have q2:(DV.int .i64 n).known=true:=rfl
 simp [zvnk,zi03,zk7y,h1,h2,h3,h4,q1,q2]
theorem zpsr (c:Clu):RunsH tbl0 a97 [.agg (clC c)] [] (.agg (zcli 0 c)) (zmsj 0 c):=by
 refine ⟨?_⟩
 have hbg:=c.g.b
 have hbi:=c.i.b
 have v1:=fun H=>zwaa (h:=H) (x:=c.g) zry4
 have v2:=fun H=>zwaa (h:=H) (x:=c.i) z6gw
 have l1:=z1rq zry4 c.g.l
 have l2:=z1rq z6gw c.i.l
 by_cases hg:c.g.l=[]
 ·have e1:=fun id=>z2ml (id:=id) (s:=6) hg
  have e2:=z4ry (f:=grC) hg
  have e3:c.g.l.length=0:=by rw [hg]; rfl
  have e4:c.g.l.flatMap grC=[]:=by rw [hg]; rfl
  rw [e3,e4] at v1
  by_cases hi:c.i.l=[]
  ·have f1:=fun id=>z2ml (id:=id) (s:=37) hi
   have f2:=z4ry (f:=inC) hi
   have f3:c.i.l.length=0:=by rw [hi]; rfl
   have f4:c.i.l.flatMap inC=[]:=by rw [hi]; rfl
   rw [f3,f4] at v2
   simp (disch:=first|omega|simp<;>omega|fail) [-zA,-zB,-zC,-zD,-zE,a97,zcli,zmsj,v1,v2,e1,e2,f1,f2,zlwt]
  ·have f1:=fun id=>z6jk (id:=id) (s:=37) hi
   have f2:=z895 (f:=inC) hi
   have f3:0<c.i.l.length:=y04.2 hi
   simp (disch:=first|omega|simp<;>omega|fail) [-zA,-zB,-zC,-zD,-zE,a97,zcli,zmsj,v1,v2,e1,e2,f1,f2,f3,l2,zlwt]
 ·have e1:=fun id=>z6jk (id:=id) (s:=6) hg
  have e2:=z895 (f:=grC) hg
  have e3:0<c.g.l.length:=y04.2 hg
  by_cases hi:c.i.l=[]
  ·have f1:=fun id=>z2ml (id:=id) (s:=37) hi
   have f2:=z4ry (f:=inC) hi
   have f3:c.i.l.length=0:=by rw [hi]; rfl
   have f4:c.i.l.flatMap inC=[]:=by rw [hi]; rfl
   rw [f3,f4] at v2
   simp (disch:=first|omega|simp<;>omega|fail) [-zA,-zB,-zC,-zD,-zE,a97,zcli,zmsj,v1,v2,e1,e2,e3,l1,f1,f2,zlwt]
  ·have f1:=fun id=>z6jk (id:=id) (s:=37) hi
   have f2:=z895 (f:=inC) hi
   have f3:0<c.i.l.length:=y04.2 hi
   simp (disch:=first|omega|simp<;>omega|fail) [-zA,-zB,-zC,-zD,-zE,a97,zcli,zmsj,v1,v2,e1,e2,e3,l1,f1,f2,f3,l2,zlwt]
def zi08 (c:Clu):List DV:=[cpD 2 6 c.g,cpD (2+(mutO c.g grC).length) 37 c.i,.int .i64 c.next]
def zv63 (c:Clu):List AObj := .cells (clC c) :: .cells (zi08 c)::(mutO c.g grC++mutO c.i inC)
theorem zypb (c:Clu):RunsH tbl0 a97 [.agg (clC c)] [] (.agg (zi08 c)) (zv63 c):=by
 have:=zpsr c
 simpa [zcli,zmsj,zi08,zv63] using this
noncomputable def cNCp:List DV→Nat→Option (DV × List AObj):=conN (fun _=>True) (fun c:Clu=>[.agg (clC c)]) (fun c=>(.agg (zi08 c),zv63 c))
theorem z48d {c:Clu} {n:Nat}:cNCp [.agg (clC c)] n=some (.agg (zcli n c),zmsj n c):=by
 have:=zqtp (A:=fun _=>True) (f:=fun x:Clu=>[.agg (clC x)]) (g:=fun c=>(.agg (zi08 c),zv63 c)) (fun a b e=>by
  simp only [List.cons.injEq,DV.agg.injEq,and_true] at e
  rw [zh7t e]) c trivial n
 simp only [zi08,zv63,z820,zz2n,z623,z962,z96c,List.map_cons,List.map_append,z05k,zxjt zxeb,zxjt z9kv,Nat.zero_add,zj45 _ _ (zy11 c)] at this
 exact this
noncomputable def T170:Tbl:=addT 29 (.pure (cC1 zwdn)) (addT 59 (.pure (cG1 zoy9)) (addT 60 (.pure (cCSS grpD)) (addT 97 (.new cNCp) (addT 30 (.pure (cCi fun c i => .int .i64 (z092 c.i.l i))) (addT 96 (.pure cTm) tbl0)))))
theorem z7cg:T170 29 = .pure (cC1 zwdn):=by simp [T170]
theorem zdha:T170 59 = .pure (cG1 zoy9):=by simp [T170]
theorem zfxf:T170 60 = .pure (cCSS grpD):=by simp [T170]
theorem zlm3:T170 97 = .new cNCp:=by simp [T170]
theorem zfgl:T170.Sound P:=z0rp (z2au fun x _=>zljw mix zwqh Tryz.func29 ztig (zkeg x)) (z0rp (z2au fun x _=>zljw mix zp0j Tryz.func59 zwsz (zwe9 x)) (z0rp (z2au fun x _=>zljw mix zr5o Tryz.func60 z6e9 (zfav x.1 x.2.1 x.2.2)) (z0rp (z3ld (fun x _=>by simp) fun x _=>zv22 mix zr5o Tryz.func97 z0a8 (zypb x)) (z0rp (z2au fun x _=>zljw mix zr5o Tryz.func30 z3f8 (z9e4 x.1 x.2)) (z0rp (zayt fun t=>zljw mix zr5o Tryz.func96 z54d (zs8z t)) zr5o)))))
noncomputable def z52c (c:Clu) (g:Grp):DV := .tup [.agg (clC (zxl9 c g).1),.int .i64 (zxl9 c g).2]
theorem zejx {α:Type} {x:Sl α} {s:Nat} {f:α→List DV} (h:x.l=[]):x.copy.dv s f = .nils:=by simp [Sl.copy,Sl.dv,slD,h]
theorem zm8x {α:Type} {x:Sl α} {s:Nat} {f:α→List DV} (h:x.l≠[]):x.copy.dv s f = .sl false s x.l.length (x.l.flatMap f):=by simp [Sl.copy,Sl.dv,slD,h]
theorem z0hz (c:Clu) (g:Grp):Runs T170 a65 [.agg (clC c),.agg (grC g)] (z52c c g):=by
 refine ⟨?_⟩
 by_cases hv:ValidC c
 case neg =>
  have hd:zxl9 c g=(clu0,1):=by rw [zxl9,if_pos (.inl hv)]
  simp (disch:=first|omega|simp<;>omega|fail) [-zA,-zB,-zC,-zD,-zE,a65,z7cg,zf0o,zwdn,zewf hv,z52c,hd,z3cj]
 by_cases hvg:ValidG g
 case neg =>
  have hd:zxl9 c g=(clu0,1):=by rw [zxl9,if_pos (.inr hvg)]
  simp (disch:=first|omega|simp<;>omega|fail) [-zA,-zB,-zC,-zD,-zE,a65,z7cg,zf0o,zwdn,zogs hv,zdha,zoex,zoy9,zewf hvg,z52c,hd,z3cj]
 have hnn:¬ (¬ ValidC c∨¬ ValidG g):=fun h=>h.elim (fun h=>h hv) (fun h=>h hvg)
 have hng:=hv.ng
 have ha : ∀ l:List Grp,(l.flatMap grC).length=l.length*6:=z1rq zry4
 have hb : ∀ l:List Ins,(l.flatMap inC).length=l.length*37:=z1rq z6gw
 by_cases hx:z9w0 c.g.l g.ns g.im<0
 ·have hx':¬ (0:Int)≤z9w0 c.g.l g.ns g.im:=by omega
  by_cases hl:16≤c.g.l.length
  ·have hl':(16:Int)≤c.g.l.length:=by omega
   have hd:zxl9 c g=(clu0,3):=by rw [zxl9,if_neg hnn,if_pos hx,if_pos hl]
   have hg:c.g.l≠[]:=by intro e; rw [e] at hl; simp at hl
   have e2:=z895 (f:=grC) hg
   have e3:=fun id=>z6jk (id:=id) (s:=6) hg
   by_cases hi:c.i.l=[]
   ·have f1:=fun id=>z2ml (id:=id) (s:=37) hi
    have f2:=z4ry (f:=inC) hi
    have f3:=zejx (s:=37) (f:=inC) hi
    simp (disch:=first|omega|simp<;>omega|fail) [-zA,-zB,-zC,-zD,-zE,a65,z7cg,zf0o,zwdn,zogs hv,zdha,zoex,zoy9,zogs hvg,zfxf,zojl,grpD,zlm3,z48d,zcli,zmsj,zbcp,z4qu,z52c,hd,zdhs,hx,hx',hl',hl,e2,e3,z3cj,f1,f2,f3]
   ·have f1:=fun id=>z6jk (id:=id) (s:=37) hi
    have f2:=z895 (f:=inC) hi
    have f3:=zm8x (s:=37) (f:=inC) hi
    have f4:=z5fn (l:=c.i.l) (y00 _)
    simp (disch:=first|omega|simp<;>omega|fail) [-zA,-zB,-zC,-zD,-zE,a65,z7cg,zf0o,zwdn,zogs hv,zdha,zoex,zoy9,zogs hvg,zfxf,zojl,grpD,zlm3,z48d,zcli,zmsj,zbcp,z4qu,z52c,hd,zdhs,hx,hx',hl',hl,e2,e3,z3cj,f1,f2,f3,f4,hb]
  ·have hl':¬ (16:Int)≤c.g.l.length:=by omega
   have hd:zxl9 c g=(⟨own (c.g.l++[g]),c.i.copy,c.next⟩,0):=by rw [zxl9,if_neg hnn,if_pos hx,if_neg hl]
   have ho:=zqrs (l:=c.g.l++[g]) (s:=6) (f:=grC) (by simp; omega)
   by_cases hg:c.g.l=[]
   ·have e2:=z4ry (f:=grC) hg
    have e3:=fun id=>z2ml (id:=id) (s:=6) hg
    have ho:(own (c.g.l++[g])).dv 6 grC = .sl false 6 1 (grC g):=by rw [ho,hg]; simp
    by_cases hi:c.i.l=[]
    ·have f1:=fun id=>z2ml (id:=id) (s:=37) hi
     have f2:=z4ry (f:=inC) hi
     have f3:=zejx (s:=37) (f:=inC) hi
     simp (disch:=first|omega|simp<;>omega|fail) [-zA,-zB,-zC,-zD,-zE,a65,z7cg,zf0o,zwdn,zogs hv,zdha,zoex,zoy9,zogs hvg,zfxf,zojl,grpD,zlm3,z48d,zcli,zmsj,zbcp,z4qu,z52c,hd,zdhs,hx,hx',hl',hl,ho,e2,e3,f1,f2,f3]
    ·have f1:=fun id=>z6jk (id:=id) (s:=37) hi
     have f2:=z895 (f:=inC) hi
     have f3:=zm8x (s:=37) (f:=inC) hi
     have f4:=z5fn (l:=c.i.l) (y00 _)
     simp (disch:=first|omega|simp<;>omega|fail) [-zA,-zB,-zC,-zD,-zE,a65,z7cg,zf0o,zwdn,zogs hv,zdha,zoex,zoy9,zogs hvg,zfxf,zojl,grpD,zlm3,z48d,zcli,zmsj,zbcp,z4qu,z52c,hd,zdhs,hx,hx',hl',hl,ho,e2,e3,f1,f2,f3,f4,hb]
   ·have e2:=z895 (f:=grC) hg
    have e3:=fun id=>z6jk (id:=id) (s:=6) hg
    have e7:(c.g.l.flatMap grC++grC g).take ((c.g.l.length+1)*6)=c.g.l.flatMap grC++grC g:=y0e (by rw [y06,ha,zry4]; omega)
    have e11 : ∀ H k,z4tt H k (c.g.l.flatMap grC++grC g)=some (c.g.l.flatMap grC++grC g):=fun H k=>z619 (zg0c (zp6k zxeb _) (zxeb _))
    have e6:(c.g.l.length+1)*6=c.g.l.length*6+6:=by omega
    by_cases hi:c.i.l=[]
    ·have f1:=fun id=>z2ml (id:=id) (s:=37) hi
     have f2:=z4ry (f:=inC) hi
     have f3:=zejx (s:=37) (f:=inC) hi
     simp (disch:=first|omega|simp<;>omega|fail) [-zA,-zB,-zC,-zD,-zE,a65,z7cg,zf0o,zwdn,zogs hv,zdha,zoex,zoy9,zogs hvg,zfxf,zojl,grpD,zlm3,z48d,zcli,zmsj,zbcp,z4qu,z52c,hd,zdhs,hx,hx',hl',hl,ho,e2,e3,e7,e11,ha,f1,f2,f3]
    ·have f1:=fun id=>z6jk (id:=id) (s:=37) hi
     have f2:=z895 (f:=inC) hi
     have f3:=zm8x (s:=37) (f:=inC) hi
     have f4:=z5fn (l:=c.i.l) (y00 _)
     simp (disch:=first|omega|simp<;>omega|fail) [-zA,-zB,-zC,-zD,-zE,a65,z7cg,zf0o,zwdn,zogs hv,zdha,zoex,zoy9,zogs hvg,zfxf,zojl,grpD,zlm3,z48d,zcli,zmsj,zbcp,z4qu,z52c,hd,zdhs,hx,hx',hl',hl,ho,e2,e3,e7,e11,ha,f1,f2,f3,f4,hb]
 ·obtain ⟨k,hk,hke,hkf,_⟩:=ziel (show 0≤z9w0 c.g.l g.ns g.im by omega)
  have hke:z9w0 c.g.l g.ns g.im=k:=hke
  have hd:zxl9 c g=(⟨own (c.g.l.set k g),c.i.copy,c.next⟩,0):=by rw [zxl9,if_neg hnn,if_neg hx,hke]; rfl
  have ho:=zqrs (l:=c.g.l.set k g) (s:=6) (f:=grC) (by simp; omega)
  have hg:c.g.l≠[]:=by intro e; rw [e] at hk; simp at hk
  have e2:=z895 (f:=grC) hg
  have e3:=fun id=>z6jk (id:=id) (s:=6) hg
  have hx':(0:Int)≤k:=by omega
  have hk':(k:Int)<c.g.l.length:=by omega
  have e8:zk7y (c.g.l.flatMap grC) (k*6) (grC g)=(c.g.l.set k g).flatMap grC:=z47w zry4 hk _
  have e9:=zq57 (l:=c.g.l.set k g) (n:=c.g.l.length) (by simp)
  have e10 : ∀ H id,zy6o H id 6 (k*6) (.agg (grC g)) (some (c.g.l.flatMap grC))=some (.junk,H.set id (.cells ((c.g.l.set k g).flatMap grC))):=fun H id=>by
   rw [zdxy (by rw [ha]; omega),e8]
  by_cases hi:c.i.l=[]
  ·have f1:=fun id=>z2ml (id:=id) (s:=37) hi
   have f2:=z4ry (f:=inC) hi
   have f3:=zejx (s:=37) (f:=inC) hi
   simp (disch:=first|omega|simp<;>omega|fail) [-zA,-zB,-zC,-zD,-zE,a65,z7cg,zf0o,zwdn,zogs hv,zdha,zoex,zoy9,zogs hvg,zfxf,zojl,grpD,zlm3,z48d,zcli,zmsj,zbcp,z4qu,z52c,hd,zdhs,hke,hx',hk',hk,ho,e2,e3,e9,e10,ha,f1,f2,f3]
  ·have f1:=fun id=>z6jk (id:=id) (s:=37) hi
   have f2:=z895 (f:=inC) hi
   have f3:=zm8x (s:=37) (f:=inC) hi
   have f4:=z5fn (l:=c.i.l) (y00 _)
   simp (disch:=first|omega|simp<;>omega|fail) [-zA,-zB,-zC,-zD,-zE,a65,z7cg,zf0o,zwdn,zogs hv,zdha,zoex,zoy9,zogs hvg,zfxf,zojl,grpD,zlm3,z48d,zcli,zmsj,zbcp,z4qu,z52c,hd,zdhs,hke,hx',hk',hk,ho,e2,e3,e9,e10,ha,f1,f2,f3,f4,hb]
end
section
set_option linter.unusedSimpArgs false
set_option linter.unusedVariables false
open Go Go.Am
theorem zrb4 (x:Sl Dg) : ∀ (k:Nat) (t:Tp) (l:List Dg),(zz63 x k t l).2.at_≤t.at_+3*k
 | 0,t,l=>y00 _
 | k+1,t,l=>by
  have h1:=zrb4 x k (gOne x t).2 (gAdd l (gOne x t).1)
  have h2:=ze4v x t
  show (zz63 x k (gOne x t).2 (gAdd l (gOne x t).1)).2.at_≤_
  omega
theorem z4ft (t:Tp) (x:Sl Dg):(zlt0 t x).2.at_≤t.at_+15:=by
 have n5:=z4rs (t.adv 5) 3
 have n6:=z2s7 (t.adv 5) (n:=3) (by omega)
 have:=zrb4 x ((tpN (t.adv 5) 3).toNat+1) (t.adv 6) []
 simp only [zlt0,zpza] at this ⊢
 omega
noncomputable def cGrp:List DV→List DV→Option (DV × List DV):=conT (fun a:Tp × Sl Dg=>a.1.at_<3999999000∧1≤a.2.l.length) (fun a=>[a.2.dv 32 dgC]) (fun a=>tpC a.1) (fun a=>(.agg (grC (zlt0 a.1 a.2).1),tpC (zlt0 a.1 a.2).2))
theorem zs2t {t:Tp} {x:Sl Dg} (h1:t.at_<3999999000) (h2:1≤x.l.length):cGrp [x.dv 32 dgC] (tpC t)=some (.agg (grC (zlt0 t x).1),tpC (zlt0 t x).2) :=
 ztyo (A:=fun a:Tp × Sl Dg=>a.1.at_<3999999000∧1≤a.2.l.length) (f:=fun a=>[a.2.dv 32 dgC]) (s:=fun a=>tpC a.1) (by
  rintro ⟨a,n⟩ ⟨b,m⟩ e1 e2
  simp only [List.cons.injEq,and_true] at e1
  rw [z42k e1,z15z e2]) (t,x) ⟨h1,h2⟩
theorem zohn:(Con.tch cGrp).Sound P 66 :=
 z0tq (fun a _=>⟨by simp [zbao],zs7w _,by simp [zyp8],zs7w _⟩) fun a h=>zizi mix zqob Tryz.func66 z3a6 (zd42 a.1 a.2 h.1 h.2) (y00 _)
def zdmg:Sl Dg:=⟨some true,[dgW 1#8,dgW 2#8,dgW 3#8],by simp,by simp⟩
def nilI:Sl Ins:=⟨none,[],fun _=>rfl,by simp⟩
def nilG:Sl Grp:=⟨none,[],fun _=>rfl,by simp⟩
noncomputable def dOne (c:Clu) (t:Tp):Clu:=if (zxl9 c (zlt0 t zdmg).1).2=0 then (zxl9 c (zlt0 t zdmg).1).1 else c
noncomputable def zp0i:Nat→Clu→Tp→Clu × Tp
 | 0,c,t=>(c,t)
 | k+1,c,t=>zp0i k (dOne c t) (zlt0 t zdmg).2
def iIns (n:Nat) (next:Int) (t:Tp):Ins:=⟨next,tpN t n,zdmg.l.getD (tpN (tpS t n) 3).toNat dg0,1+tpN ((tpS t n).adv 1) 3,tpN ((tpS t n).adv 2) 30,if tpN ((tpS t n).adv 3) 3=0 then tpN ((tpS t n).adv 4) 30 else -1⟩
def iTp (n:Nat) (t:Tp):Tp:=if tpN ((tpS t n).adv 3) 3=0 then (tpS t n).adv 5 else (tpS t n).adv 4
def zgc4 (n:Nat):Nat→List Ins→Int→Tp→List Ins × Int × Tp
 | 0,l,next,t=>(l,next,t)
 | k+1,l,next,t=>zgc4 n k (l++[iIns n next t]) (next+(1+tpN (iTp n t) 2)) ((iTp n t).adv 1)
def cl0 (t:Tp):Clu:=⟨nilG,nilI,1+tpN t 4⟩
noncomputable def clD (t:Tp):Clu × Tp:=zp0i ((tpN (t.adv 1) 2).toNat+1) (cl0 t) (t.adv 2)
noncomputable def clI (t:Tp) (m:Int):List Ins × Int × Tp:=zgc4 (clD t).1.g.l.length (tpN (clD t).2 (m+1)).toNat [] (clD t).1.next ((clD t).2.adv 1)
noncomputable def zcpt (t:Tp) (m:Int):Clu × Tp:=(⟨(clD t).1.g,if (clI t m).1=[] then nilI else own (clI t m).1,(clI t m).2.1⟩,(clI t m).2.2)
theorem zctk {c:Clu} {g:Grp} (h:(zxl9 c g).2=0) (hi:c.i=nilI):(zxl9 c g).1.i=nilI:=by
 have hc:nilI.copy=nilI:=rfl
 unfold zxl9 at h ⊢
 split at h<;>try (simp at h; done)
 rename_i h1
 rw [if_neg h1]
 split at h
 ·rename_i h2
  rw [if_pos h2]
  split at h<;>try (simp at h; done)
  rename_i h3
  rw [if_neg h3,hi]; rfl
 ·rename_i h2
  rw [if_neg h2,hi]; rfl
theorem zsvm {c:Clu} {t:Tp} (hi:c.i=nilI):(dOne c t).i=nilI:=by
 unfold dOne; split
 ·rename_i h; exact zctk h hi
 ·exact hi
theorem zkcx : ∀ (k:Nat) (c:Clu) (t:Tp),(zp0i k c t).2.at_≤t.at_+15*k
 | 0,_,_=>y00 _
 | k+1,c,t=>by
  have h1:=zkcx k (dOne c t) (zlt0 t zdmg).2
  have h2:=z4ft t zdmg
  show (zp0i k (dOne c t) (zlt0 t zdmg).2).2.at_≤_
  omega
theorem zjgn (n:Nat) (t:Tp):(iTp n t).at_≤t.at_+6:=by
 have:=z7xa t n
 unfold iTp; split<;>simp<;>omega
noncomputable def zf02 (g:Clu→Grp→DV):List DV→Option DV:=con (fun _=>True) (fun p:Clu × Grp=>[.agg (clC p.1),.agg (grC p.2)]) (fun p=>g p.1 p.2)
theorem z26u {f:Clu→Grp→DV} {c:Clu} {g:Grp}:zf02 f [.agg (clC c),.agg (grC g)]=some (f c g) :=
 zsn4 (f:=fun p:Clu × Grp=>[.agg (clC p.1),.agg (grC p.2)]) (by
  rintro ⟨a,b⟩ ⟨a',b'⟩ e
  simp only [List.cons.injEq,DV.agg.injEq,and_true] at e
  rw [zh7t e.1,zs5w e.2]) (c,g)
noncomputable def T180:Tbl:=addT 13 (.tch z1m3) (addT 66 (.tch cGrp) (addT 65 (.pure (zf02 z52c)) tbl0))
theorem zjpl:T180 13 = .tch z1m3:=by simp [T180]
theorem zzcy:T180 66 = .tch cGrp:=by simp [T180]
theorem z4q2:T180 65 = .pure (zf02 z52c):=by simp [T180]
theorem z0cc:T180.Sound P:=z0rp z51e (z0rp zohn (z0rp (z2au fun p _=>zljw mix zfgl Tryz.func65 zh04 (z0hz p.1 p.2)) zr5o))
theorem z1ip:zdmg.dv 32 dgC = .sl true 32 3 (dgC (dgW 1#8)++(dgC (dgW 2#8)++dgC (dgW 3#8))):=by simp [zdmg,Sl.dv,slD]
structure DS where
 k:Nat
 c:Clu
 t:Tp
def S180 (m:Int) (a:DS):St:=zqr3 (.mp 0 2 0) (.int .i64 m) (.mp 1 3 0) (zdmg.dv 32 dgC) (.mp 2 3 0) (.int .i64 a.k) [.cells (tpC a.t),.cells [.nils,.nils,.int .i64 0],.cells (clC a.c)]
theorem zt3y:bslD 32 3 (dgC dg0) [(0,32,.agg (dgC (dgW 1#8))),(32,32,.agg (dgC (dgW 2#8))),(64,32,.agg (dgC (dgW 3#8)))]=some (zdmg.dv 32 dgC):=by
 rw [z7bw (by simp [DV.known]) (by simp [seqD,DV.cells])]; simp [seqD,DV.cells,zdmg,Sl.dv,slD]
theorem z7ol {n:Int}:zvnk [.nils,.nils,.int .i64 0] [(2,1,.int .i64 n)]=some (.agg [.nils,.nils,.int .i64 n]):=rfl
theorem zk2b {c:Clu} {g:Grp} (h:(zxl9 c g).2=0):(zxl9 c g).1.next=c.next:=by
 unfold zxl9 at h ⊢
 split at h<;>try (simp at h; done)
 rename_i h1
 rw [if_neg h1]
 split at h
 ·rename_i h2
  rw [if_pos h2]
  split at h<;>try (simp at h; done)
  rename_i h3
  rw [if_neg h3]
 ·rename_i h2
  rw [if_neg h2]
theorem zouy {c:Clu} {t:Tp}:(dOne c t).next=c.next:=by
 unfold dOne; split
 ·rename_i h; exact zk2b h
 ·rfl
structure IS where
 k:Nat
 l:List Ins
 n:Int
 t:Tp
 x:Ins
def iH (g:Sl Grp) (a:IS):List AObj:=if a.l=[] then [.cells (tpC a.t),.cells [.nils,.nils,.int .i64 0],.cells [g.dv 6 grC,.nils,.int .i64 a.n]] else
 [.cells (tpC a.t),.cells [.nils,.nils,.int .i64 0],.cells [g.dv 6 grC,.ms 4 (a.l.length*37) 0 37 a.l.length (a.l.length*37),.int .i64 a.n],.cells (inC a.x),.cells (a.l.flatMap inC)]
theorem zycw {g:Sl Grp} {a:IS} (h:a.l=[]):iH g a=[.cells (tpC a.t),.cells [.nils,.nils,.int .i64 0],.cells [g.dv 6 grC,.nils,.int .i64 a.n]]:=if_pos h
theorem zywk {g:Sl Grp} {a:IS} (h:a.l≠[]):iH g a=[.cells (tpC a.t),.cells [.nils,.nils,.int .i64 0],.cells [g.dv 6 grC,.ms 4 (a.l.length*37) 0 37 a.l.length (a.l.length*37),.int .i64 a.n],.cells (inC a.x),.cells (a.l.flatMap inC)]:=if_neg h
def S181 (g:Sl Grp) (a:IS):St:=zsio (.mp 0 2 0) (.mp 1 3 0) (zdmg.dv 32 dgC) (.mp 2 3 0) (.int .i64 a.k) (iH g a)
def in0:Ins:=⟨0,0,dg0,0,0,0⟩
theorem zvod:[DV.int .i64 0,.int .i64 0,w8 0#8,w8 0#8,w8 0#8,w8 0#8,w8 0#8,w8 0#8,w8 0#8,w8 0#8,w8 0#8,w8 0#8,w8 0#8,w8 0#8,w8 0#8,w8 0#8,w8 0#8,w8 0#8,w8 0#8,w8 0#8,w8 0#8,w8 0#8,w8 0#8,w8 0#8,w8 0#8,w8 0#8,w8 0#8,w8 0#8,w8 0#8,w8 0#8,w8 0#8,w8 0#8,w8 0#8,w8 0#8,.int .i64 0,.int .i64 0,.int .i64 0]=inC in0:=rfl
theorem zdwi (x:Ins) (v:Int):(inC x).set 36 (.int .i64 v)=inC ⟨x.id,x.grp,x.art,x.state,x.since,v⟩:=by
 have h:=zqxx x
 rw [zdp7,zdp7,y0g _ _ (by omega),h]
 rfl
theorem zvci (t:Tp) (m:Int) (ht:t.at_<3990000000) (h0:0≤m) (h1:m≤1000):RunsF T180 a38 [.mp 0 2 0,.int .i64 m] [.cells (tpC t)] (.agg (clC (zcpt t m).1)) [.cells (tpC (zcpt t m).2)]:=by
 refine ⟨?_⟩
 have n1:=z4rs t 4
 have n2:=z2s7 t (n:=4) (by omega)
 have n3:=z4rs (t.adv 1) 2
 have n4:=z2s7 (t.adv 1) (n:=2) (by omega)
 obtain ⟨N,hN⟩ : ∃ N:Nat,tpN (t.adv 1) 2=N:=⟨_,(y0a n3).symm⟩
 simp (disch:=first|omega|simp<;>omega|fail) [-zA,-zB,-zC,-zD,-zE,a38,zjpl,z44h,zjmf,z7ni,zt3y,z7ol,hN]
 refine zlm5 (S180 m) (fun a=>a.k) (fun a=>zp0i a.k a.c a.t=clD t∧a.t.at_+100*a.k<3995000000∧a.c.i=nilI∧a.c.next=1+tpN t 4) ⟨N+1,cl0 t,t.adv 2⟩ ?_ ?_ (fun a ha => ?_)
 ·exact z515 (by simp (disch:=first|omega|simp<;>omega|fail) [-zA,-zB,-zC,-zD,-zE,S180,zqr3,z1ip,show (1+(N:Int))=N+1 from Int.add_comm _ _]) (by simp (disch:=first|omega|simp<;>omega|fail) [-zA,-zB,-zC,-zD,-zE,S180,cl0,zdhs,nilG,nilI,Sl.dv,zbpn])
 ·exact ⟨by simp [clD,hN],by simp; omega,rfl,rfl⟩
 obtain ⟨k,c,u⟩:=a
 obtain ⟨r1,r2,r3,r4⟩:=ha
 simp only at r1 r2 r3 r4
 simp (disch:=first|omega|simp<;>omega|fail) [-zA,-zB,-zC,-zD,-zE,zy47,zqr3,S180]
 by_cases hk:0<k
 ·obtain ⟨k,rfl⟩ : ∃ k',k=k'+1:=⟨k-1,by omega⟩
  have hk':(0:Int)<((k+1:Nat):Int):=by omega
  have g1:=z4ft u zdmg
  have r1':zp0i k (dOne c u) (zlt0 u zdmg).2=clD t:=r1
  have ha3:1≤zdmg.l.length:=by simp [zdmg]
  have hdi:=zsvm (t:=u) r3
  have hdn:=zouy (c:=c) (t:=u)
  obtain ⟨G,hG⟩ : ∃ G,(zlt0 u zdmg).1=G:=⟨_,rfl⟩
  obtain ⟨V,hV⟩ : ∃ V,(zlt0 u zdmg).2=V:=⟨_,rfl⟩
  obtain ⟨E,hE⟩ : ∃ E,zxl9 c G=E:=⟨_,rfl⟩
  rw [hV] at g1 r1'
  by_cases he:E.2=0
  ·have hd:dOne c u=E.1:=by rw [dOne,hG,hE,if_pos he]
   simp (disch:=first|omega|simp<;>omega|fail) [-zA,-zB,-zC,-zD,-zE,zzcy,z4q2,zs2t,z26u,z52c,hG,hV,hE,he,ha3]
   refine ⟨⟨k,E.1,V⟩,zju2 (tail:=[.cells (clC E.1)]) (by simp (disch:=first|omega|simp<;>omega|fail) [-zA,-zB,-zC,-zD,-zE,S180,zqr3]) (by simp (disch:=first|omega|simp<;>omega|fail) [-zA,-zB,-zC,-zD,-zE,S180]) (by simp [S180,zqr3]) (by simp [S180,zqr3,Am.belowL,Am.below]) (by simp [S180,zqr3,zlf2,Am.belowL,Am.below,zmq5 _ _ (zs7w _)]),by simp,by rw [← hd]; exact r1',by simp; omega,by rw [← hd]; exact hdi,by rw [← hd,hdn]; exact r4⟩
  ·have hd:dOne c u=c:=by rw [dOne,hG,hE,if_neg he]
   simp (disch:=first|omega|simp<;>omega|fail) [-zA,-zB,-zC,-zD,-zE,zzcy,z4q2,zs2t,z26u,z52c,hG,hV,hE,he,ha3]
   refine ⟨⟨k,c,V⟩,zju2 (tail:=[.cells (clC E.1)]) (by simp (disch:=first|omega|simp<;>omega|fail) [-zA,-zB,-zC,-zD,-zE,S180,zqr3]) (by simp (disch:=first|omega|simp<;>omega|fail) [-zA,-zB,-zC,-zD,-zE,S180]) (by simp [S180,zqr3]) (by simp [S180,zqr3,Am.belowL,Am.below]) (by simp [S180,zqr3,zlf2,Am.belowL,Am.below,zmq5 _ _ (zs7w _)]),by simp,by rw [hd] at r1'; exact r1',by simp; omega,r3,r4⟩
 obtain rfl:k=0:=by omega
 have ec:clD t=(c,u):=r1.symm
 have m1:=z4rs u (m+1)
 have m2:=z2s7 u (n:=m+1) (by omega)
 obtain ⟨K,hK⟩ : ∃ K:Nat,tpN u (m+1)=K:=⟨_,(y0a m1).symm⟩
 obtain ⟨g,ci,nx⟩:=c
 simp only at r3 r4
 subst r3
 have hI:clI t m=zgc4 g.l.length K [] nx (u.adv 1):=by rw [clI,ec]; simp only [hK,y07]
 obtain ⟨r,hr⟩ : ∃ r,zgc4 g.l.length K [] nx (u.adv 1)=r:=⟨_,rfl⟩
 have hcv:zcpt t m=(⟨g,if r.1=[] then nilI else own r.1,r.2.1⟩,r.2.2):=by rw [zcpt,hI,hr,ec]
 rw [hcv]
 have hgb:=g.b
 simp (disch:=first|omega|simp<;>omega|fail) [-zA,-zB,-zC,-zD,-zE,zjpl,z44h,hK]
 refine zlm5 (S181 g) (fun a=>a.k) (fun a=>zgc4 g.l.length a.k a.l a.n a.t=r∧a.t.at_+100*a.k<3999999000∧0≤a.n∧a.n+2*a.k≤10000∧a.l.length+a.k≤2000) ⟨K,[],nx,u.adv 1,in0⟩ ?_ ?_ (fun a ha => ?_)
 ·rw [S181,zycw rfl]
  exact z515 (by simp (disch:=first|omega|simp<;>omega|fail) [-zA,-zB,-zC,-zD,-zE,zsio]) (by simp (disch:=first|omega|simp<;>omega|fail) [-zA,-zB,-zC,-zD,-zE,zdhs,nilI,Sl.dv,zbpn])
 ·exact ⟨hr,by simp; omega,by simp; omega,by simp; omega,by simp; omega⟩
 clear r1 r2
 obtain ⟨k,l,n,v,x0⟩:=a
 obtain ⟨r1,r2,q1,q2,q3⟩:=ha
 simp only at r1 r2 q1 q2 q3
 by_cases hk:0<k
 ·obtain ⟨k,rfl⟩ : ∃ k',k=k'+1:=⟨k-1,by omega⟩
  have hk':(0:Int)<((k+1:Nat):Int):=by omega
  have hU:=z7xa v g.l.length
  obtain ⟨U,hUe⟩ : ∃ U,tpS v g.l.length=U:=⟨_,rfl⟩
  rw [hUe] at hU
  have p1:=z4rs U 3
  have p2:=z2s7 U (n:=3) (by omega)
  obtain ⟨M,hM⟩ : ∃ M:Nat,tpN U 3=M:=⟨_,(y0a p1).symm⟩
  have hM3:M<zdmg.l.length:=by simp [zdmg]; omega
  have hget : ∀ H,zpsc H 32 (zdmg.dv 32 dgC) M=some (.ref (dgC zdmg.l[M])):=fun H=>zalo z1t1 hM3
  have hap : ∀ b,z87v (zdmg.dv 32 dgC) b=b.known:=fun b=>zd7a rfl
  have p3:=z4rs (U.adv 1) 3
  have p4:=z2s7 (U.adv 1) (n:=3) (by omega)
  by_cases hz:tpN (U.adv 3) 3=0
  ·skip
   have hj1:=z4rs (U.adv 5) 2
   have hj2:=z2s7 (U.adv 5) (n:=2) (by omega)
   obtain ⟨J,hj⟩ : ∃ J,tpN (U.adv 5) 2=J:=⟨_,rfl⟩
   rw [hj] at hj1 hj2
   have hx:iIns g.l.length n v=⟨n,tpN v g.l.length,zdmg.l[M],1+tpN (U.adv 1) 3,tpN (U.adv 2) 30,(tpN (U.adv 4) 30)⟩:=by
    simp only [iIns,hUe,hM,y07,y01,y02 hM3,y08,hz,if_true,if_false]
   have hT:iTp g.l.length v=(U.adv 5):=by simp only [iTp,hUe,hz,if_true,if_false]
   have r1':zgc4 g.l.length k (l++[iIns g.l.length n v]) (n+(1+tpN (iTp g.l.length v) 2)) ((iTp g.l.length v).adv 1)=r:=r1
   rw [hx,hT,hj,zjmf] at r1'
   have hfold0:(DV.int .i64 n::DV.int .i64 (tpN v g.l.length)::(dgC zdmg.l[M]++[DV.int .i64 (1+tpN (U.adv 1) 3),DV.int .i64 (tpN (U.adv 2) 30),DV.int .i64 (-1)]))=inC ⟨n,tpN v g.l.length,zdmg.l[M],1+tpN (U.adv 1) 3,tpN (U.adv 2) 30,-1⟩:=rfl
   have hfold:(DV.int .i64 n::DV.int .i64 (tpN v g.l.length)::(dgC zdmg.l[M]++[DV.int .i64 (1+tpN (U.adv 1) 3),DV.int .i64 (tpN (U.adv 2) 30),DV.int .i64 (tpN (U.adv 4) 30)]))=inC ⟨n,tpN v g.l.length,zdmg.l[M],1+tpN (U.adv 1) 3,tpN (U.adv 2) 30,tpN (U.adv 4) 30⟩:=rfl
   by_cases hl:l=[]
   ·skip
    subst hl
    rw [S181,zycw rfl]
    simp (disch:=first|omega|simp<;>omega|fail) [-zA,-zB,-zC,-zD,-zE,zwu9,zsio,zjpl,z44h,zs7j,zjmf,hUe,hM,hget,zbcp,zvod,zfu8,zd00,zp4m,hk',hz,hj,hap,hfold0,Ins.de,zdwi,hfold]
    refine ⟨⟨k,[(⟨n,tpN v g.l.length,zdmg.l[M],1+tpN (U.adv 1) 3,tpN (U.adv 2) 30,(tpN (U.adv 4) 30)⟩:Ins)],n+(1+J),(U.adv 6),(⟨n,tpN v g.l.length,zdmg.l[M],1+tpN (U.adv 1) 3,tpN (U.adv 2) 30,(tpN (U.adv 4) 30)⟩:Ins)⟩,?_,by simp,by simpa using r1',by simp; omega,by simp; omega,by simp; omega,by simp at q3 ⊢; omega⟩
    rw [S181,zywk (by simp)]
    exact z515 (by simp (disch:=first|omega|simp<;>omega|fail) [-zA,-zB,-zC,-zD,-zE,zsio]) (by simp (disch:=first|omega|simp<;>omega|fail) [-zA,-zB,-zC,-zD,-zE,Ins.de])
   ·have hlen:=z1rq z6gw l
    have hpl:=zp6k z9kv l
    rw [S181,zywk hl]
    simp (disch:=first|omega|simp<;>omega|fail) [-zA,-zB,-zC,-zD,-zE,zwu9,zsio,zjpl,z44h,zs7j,zjmf,hUe,hM,hget,zbcp,zvod,zfu8,zd00,zp4m,hk',hz,hj,hap,hfold0,Ins.de,zdwi,hfold,hlen]
    refine ⟨⟨k,l++[(⟨n,tpN v g.l.length,zdmg.l[M],1+tpN (U.adv 1) 3,tpN (U.adv 2) 30,(tpN (U.adv 4) 30)⟩:Ins)],n+(1+J),(U.adv 6),x0⟩,?_,by simp,r1',by simp; omega,by simp; omega,by simp; omega,by simp at q3 ⊢; omega⟩
    rw [S181,zywk (by simp)]
    exact zju2 (tail:=[.cells (inC (⟨n,tpN v g.l.length,zdmg.l[M],1+tpN (U.adv 1) 3,tpN (U.adv 2) 30,(tpN (U.adv 4) 30)⟩:Ins))]) (by simp (disch:=first|omega|simp<;>omega|fail) [-zA,-zB,-zC,-zD,-zE,zsio]) (by simp (disch:=first|omega|simp<;>omega|fail) [-zA,-zB,-zC,-zD,-zE,Nat.add_mul,Ins.de]) (by simp [zsio]) (by simp [zsio,Am.belowL,Am.below]) (by simp [zsio,zlf2,Am.belowL,Am.below,zmq5 _ _ (zs7w _),zmq5 _ _ (zg0c hpl (z9kv _))])
  ·skip
   have hj1:=z4rs (U.adv 4) 2
   have hj2:=z2s7 (U.adv 4) (n:=2) (by omega)
   obtain ⟨J,hj⟩ : ∃ J,tpN (U.adv 4) 2=J:=⟨_,rfl⟩
   rw [hj] at hj1 hj2
   have hx:iIns g.l.length n v=⟨n,tpN v g.l.length,zdmg.l[M],1+tpN (U.adv 1) 3,tpN (U.adv 2) 30,(-1)⟩:=by
    simp only [iIns,hUe,hM,y07,y01,y02 hM3,y08,hz,if_true,if_false]
   have hT:iTp g.l.length v=(U.adv 4):=by simp only [iTp,hUe,hz,if_true,if_false]
   have r1':zgc4 g.l.length k (l++[iIns g.l.length n v]) (n+(1+tpN (iTp g.l.length v) 2)) ((iTp g.l.length v).adv 1)=r:=r1
   rw [hx,hT,hj,zjmf] at r1'
   have hfold0:(DV.int .i64 n::DV.int .i64 (tpN v g.l.length)::(dgC zdmg.l[M]++[DV.int .i64 (1+tpN (U.adv 1) 3),DV.int .i64 (tpN (U.adv 2) 30),DV.int .i64 (-1)]))=inC ⟨n,tpN v g.l.length,zdmg.l[M],1+tpN (U.adv 1) 3,tpN (U.adv 2) 30,-1⟩:=rfl
   by_cases hl:l=[]
   ·skip
    subst hl
    rw [S181,zycw rfl]
    simp (disch:=first|omega|simp<;>omega|fail) [-zA,-zB,-zC,-zD,-zE,zwu9,zsio,zjpl,z44h,zs7j,zjmf,hUe,hM,hget,zbcp,zvod,zfu8,zd00,zp4m,hk',hz,hj,hap,hfold0,Ins.de,zdwi]
    refine ⟨⟨k,[(⟨n,tpN v g.l.length,zdmg.l[M],1+tpN (U.adv 1) 3,tpN (U.adv 2) 30,(-1)⟩:Ins)],n+(1+J),(U.adv 5),(⟨n,tpN v g.l.length,zdmg.l[M],1+tpN (U.adv 1) 3,tpN (U.adv 2) 30,(-1)⟩:Ins)⟩,?_,by simp,by simpa using r1',by simp; omega,by simp; omega,by simp; omega,by simp at q3 ⊢; omega⟩
    rw [S181,zywk (by simp)]
    exact z515 (by simp (disch:=first|omega|simp<;>omega|fail) [-zA,-zB,-zC,-zD,-zE,zsio]) (by simp (disch:=first|omega|simp<;>omega|fail) [-zA,-zB,-zC,-zD,-zE,Ins.de])
   ·have hlen:=z1rq z6gw l
    have hpl:=zp6k z9kv l
    rw [S181,zywk hl]
    simp (disch:=first|omega|simp<;>omega|fail) [-zA,-zB,-zC,-zD,-zE,zwu9,zsio,zjpl,z44h,zs7j,zjmf,hUe,hM,hget,zbcp,zvod,zfu8,zd00,zp4m,hk',hz,hj,hap,hfold0,Ins.de,zdwi,hlen]
    refine ⟨⟨k,l++[(⟨n,tpN v g.l.length,zdmg.l[M],1+tpN (U.adv 1) 3,tpN (U.adv 2) 30,(-1)⟩:Ins)],n+(1+J),(U.adv 5),x0⟩,?_,by simp,r1',by simp; omega,by simp; omega,by simp; omega,by simp at q3 ⊢; omega⟩
    rw [S181,zywk (by simp)]
    exact zju2 (tail:=[.cells (inC (⟨n,tpN v g.l.length,zdmg.l[M],1+tpN (U.adv 1) 3,tpN (U.adv 2) 30,(-1)⟩:Ins))]) (by simp (disch:=first|omega|simp<;>omega|fail) [-zA,-zB,-zC,-zD,-zE,zsio]) (by simp (disch:=first|omega|simp<;>omega|fail) [-zA,-zB,-zC,-zD,-zE,Nat.add_mul,Ins.de]) (by simp [zsio]) (by simp [zsio,Am.belowL,Am.below]) (by simp [zsio,zlf2,Am.belowL,Am.below,zmq5 _ _ (zs7w _),zmq5 _ _ (zg0c hpl (z9kv _))])
 ·obtain rfl:k=0:=by omega
  have er:r=(l,n,v):=r1.symm
  subst er
  have hfz : ∀ k,fzL 1 k (tpC v) (tpC v):=fun k=>znnb (zs7w _)
  have hfg : ∀ H k,fz 1 H k (g.dv 6 grC)=some (g.dv 6 grC):=fun H k=>zqge (z1vd g)
  have hni:nilI.dv 37 inC = .nils:=rfl
  by_cases hl:l=[]
  ·subst hl
   rw [S181,zycw rfl]
   simp (disch:=first|omega|simp<;>omega|fail) [-zA,-zB,-zC,-zD,-zE,zwu9,zsio,hfz,hfg,hni,zdhs]
  ·have hlen:=z1rq z6gw l
   have hpl:=zp6k z9kv l
   have htk:=z5fn (l:=l) (y00 _)
   rw [S181,zywk hl]
   simp (disch:=first|omega|simp<;>omega|fail) [-zA,-zB,-zC,-zD,-zE,zwu9,zsio,hfz,hfg,zdhs,hlen,htk,hl,zqrs,zojd hpl]
noncomputable def cClu:List DV→List DV→Option (DV × List DV):=conT (fun a:Tp × Int=>a.1.at_<3990000000∧0≤a.2∧a.2≤1000) (fun a=>[.int .i64 a.2]) (fun a=>tpC a.1) (fun a=>(.agg (clC (zcpt a.1 a.2).1),tpC (zcpt a.1 a.2).2))
theorem z9dl {t:Tp} {m:Int} (h1:t.at_<3990000000) (h2:0≤m) (h3:m≤1000):cClu [.int .i64 m] (tpC t)=some (.agg (clC (zcpt t m).1),tpC (zcpt t m).2) :=
 ztyo (A:=fun a:Tp × Int=>a.1.at_<3990000000∧0≤a.2∧a.2≤1000) (f:=fun a=>[.int .i64 a.2]) (s:=fun a=>tpC a.1) (by
  rintro ⟨a,n⟩ ⟨b,m⟩ e1 e2
  simp only [List.cons.injEq,DV.int.injEq,true_and,and_true] at e1
  rw [e1,z15z e2]) (t,m) ⟨h1,h2,h3⟩
theorem zwvn:(Con.tch cClu).Sound P 38 :=
 z0tq (fun a _=>⟨rfl,zs7w _,by simp [zyp8],zs7w _⟩) fun a h=>zizi mix z0cc Tryz.func38 zclx (zvci a.1 a.2 h.1 h.2.1 h.2.2) (y00 _)
end
section
set_option linter.unusedSimpArgs false
set_option linter.unusedVariables false
open Go Go.Am
theorem z1f1 {l:List Dg} {d:Dg} (h1:l.Nodup) (h2 : ∀ x ∈ l,x≠dg0) (hd:d≠dg0):(gAdd l d).Nodup∧(∀ x ∈ gAdd l d,x≠dg0):=by
 unfold gAdd
 split
 ·exact ⟨h1,h2⟩
 ·rename_i hn
  refine ⟨List.nodup_append.2 ⟨h1,by simp,fun a ha b hb => ?_⟩,fun x hx => ?_⟩
  ·simp at hb; subst hb; exact fun e=>hn (e▸ha)
  ·rcases y0d.1 hx with h|h
   ·exact h2 x h
   ·simp at h; subst h; exact hd
theorem zfn5 : ∀ x ∈ zdmg.l,x≠dg0:=by
 intro x hx
 simp only [zdmg,List.mem_cons,List.not_mem_nil,or_false] at hx
 rcases hx with rfl|rfl|rfl<;>decide
theorem zeo1 {x:Sl Dg} (hx : ∀ d ∈ x.l,d≠dg0) (h0:1≤x.l.length) (t:Tp):(gOne x t).1≠dg0:=by
 unfold gOne
 split
 ·have h1:=z4rs (t.adv 2) x.l.length
  have h2:=z2s7 (t.adv 2) (n:=x.l.length) (by omega)
  have h3:(tpN (t.adv 2) x.l.length).toNat<x.l.length:=by omega
  simp only [y01,y02 h3,y08]
  exact hx _ (y09 h3)
 ·exact z7d3 t
theorem zqz7 {x:Sl Dg} (hx : ∀ d ∈ x.l,d≠dg0) (h0:1≤x.l.length) : ∀ (k:Nat) (t:Tp) (l:List Dg),l.Nodup→(∀ d ∈ l,d≠dg0)→(zz63 x k t l).1.Nodup∧(∀ d ∈ (zz63 x k t l).1,d≠dg0)∧(zz63 x k t l).1.length≤l.length+k
 | 0,t,l,h1,h2=>⟨h1,h2,y00 _⟩
 | k+1,t,l,h1,h2=>by
  obtain ⟨g1,g2⟩:=z1f1 h1 h2 (zeo1 hx h0 t)
  obtain ⟨k1,k2,k3⟩:=zqz7 hx h0 k (gOne x t).2 (gAdd l (gOne x t).1) g1 g2
  have:=z3m3 l (gOne x t).1
  exact ⟨k1,k2,by show (zz63 x k (gOne x t).2 (gAdd l (gOne x t).1)).1.length≤_; omega⟩
theorem zw8p {l:List Dg} (h1:l.Nodup) (h2 : ∀ d ∈ l,d≠dg0):okCh l:=by
 intro i hi
 refine ⟨h2 _ (y09 hi),fun hm => ?_⟩
 obtain ⟨j,hj,e⟩:=y0b hm
 simp at hj
 rw [List.getElem_take] at e
 have:=(List.getElem_inj (xs:=l) (i:=j) (j:=i) (h₀:=by omega) (h₁:=hi) h1).1 e
 omega
theorem ztyj {t:Tp} {a b:List UInt8} (ha:zj1f a=true) (hb:zj1f b=true):zj1f (zzh5 t [a,b])=true:=by
 have:=zqrp t (l:=[a,b]) (by simp)
 simp only [List.mem_cons,List.not_mem_nil,or_false] at this
 rcases this with e|e<;>rw [e]<;>assumption
theorem zjze (t:Tp) {x:Sl Dg} (hx : ∀ d ∈ x.l,d≠dg0) (h0:1≤x.l.length):ValidG (zlt0 t x).1:=by
 have n1:=z4rs (t.adv 2) 4
 have n2:=z2s7 (t.adv 2) (n:=4) (by omega)
 have n3:=z4rs (t.adv 3) (tpN (t.adv 2) 4+1)
 have n4:=z2s7 (t.adv 3) (n:=tpN (t.adv 2) 4+1) (by omega)
 have n5:=z4rs (t.adv 4) (tpN (t.adv 2) 4+1)
 have n6:=z2s7 (t.adv 4) (n:=tpN (t.adv 2) 4+1) (by omega)
 have n7:=z4rs (t.adv 5) 3
 have n8:=z2s7 (t.adv 5) (n:=3) (by omega)
 obtain ⟨k1,k2,k3⟩:=zqz7 hx h0 ((tpN (t.adv 5) 3).toNat+1) (t.adv 6) [] (by simp) (by simp)
 simp only [List.length_nil] at k3
 have hl:(zlt0 t x).1.ch.l=(zz63 x ((tpN (t.adv 5) 3).toNat+1) (t.adv 6) []).1:=z3e9 (by omega)
 refine ⟨ztyj (by decide) (by decide),ztyj (by decide) (by decide),n1,by show tpN (t.adv 2) 4≤8; omega,n3,by show tpN (t.adv 3) _≤tpN (t.adv 2) 4; omega,n5,by show tpN (t.adv 4) _≤tpN (t.adv 2) 4; omega,by rw [hl]; omega,by rw [hl]; exact zw8p k1 k2⟩
theorem zr8d (g:Grp):fitG g.ns g.im g=true:=by simp [fitG]
theorem z6sw {a b:Grp} (h1:a.ns=b.ns) (h2:a.im=b.im) (ns im:List UInt8):fitG ns im a=fitG ns im b:=by simp [fitG,h1,h2]
structure UG (l:List Grp):Prop where
 n:l.length≤16
 g : ∀ i (h:i<l.length),ValidG l[i]∧z9w0 l l[i].ns l[i].im=i
theorem zlgs {l:List Grp} {g:Grp} (h:UG l) (hg:ValidG g) (hx:z9w0 l g.ns g.im<0) (hn:l.length<16):UG (l++[g]):=by
 refine ⟨by simp; omega,fun i hi => ?_⟩
 simp only [y06,List.length_singleton] at hi
 by_cases hil:i<l.length
 ·rw [y03 hil]
  obtain ⟨g1,g2⟩:=h.g i hil
  refine ⟨g1,zy9u (by simp; omega) ?_ (fun j hj hji => ?_)⟩
  ·rw [y03 hil]; exact zr8d _
  ·rw [y03 (by omega)]
   obtain ⟨k,hk,e1,e2,e3⟩:=ziel (p:=fitG l[i].ns l[i].im) (l:=l) (by rw [show ixI (fitG l[i].ns l[i].im) l=(i:Int) from g2]; omega)
   have:k=i:=by
    have:ixI (fitG l[i].ns l[i].im) l=(i:Int):=g2
    omega
   subst this
   exact e3 j (by omega) hji
 ·have e:i=l.length:=by omega
  subst e
  rw [y0c (y00 _)]
  simp only [y0h,y0f]
  refine ⟨hg,zy9u (by simp) ?_ (fun j hj hji => ?_)⟩
  ·rw [y0c (y00 _)]; simp only [y0h,y0f]; exact zr8d _
  ·rw [y03 hji]; exact z378 hx j hji
theorem zaam {l l':List Grp} (hl:l.length=l'.length) (h : ∀ i (h1:i<l.length) (h2:i<l'.length),l[i].ns=l'[i].ns∧l[i].im=l'[i].im) (ns im:List UInt8):z9w0 l ns im=z9w0 l' ns im:=by
 by_cases hx:0≤z9w0 l ns im
 ·obtain ⟨k,hk,e1,e2,e3⟩:=ziel hx
  have e1:z9w0 l ns im=k:=e1
  rw [e1]
  refine (zy9u (by omega) ?_ (fun j hj hji => ?_)).symm
  ·rw [← z6sw (h k hk (by omega)).1 (h k hk (by omega)).2]; exact e2
  ·rw [← z6sw (h j (by omega) hj).1 (h j (by omega) hj).2]; exact e3 j (by omega) hji
 ·have h1:=zkgb (fitG ns im) l
  have h2:z9w0 l ns im = -1:=by have:z9w0 l ns im=ixI (fitG ns im) l:=rfl; omega
  rw [h2]
  refine (zfki fun j hj => ?_).symm
  rw [← z6sw (h j (by omega) hj).1 (h j (by omega) hj).2]
  exact z378 (show ixI (fitG ns im) l<0 by have:z9w0 l ns im=ixI (fitG ns im) l:=rfl; omega) j (by omega)
theorem z3at {l:List Grp} {g:Grp} {k:Nat} (h:UG l) (hg:ValidG g) (hk:k<l.length) (hx:z9w0 l g.ns g.im=k):UG (l.set k g):=by
 have hf:fitG g.ns g.im l[k]=true:=by
  obtain ⟨j,hj,e1,e2,e3⟩:=ziel (p:=fitG g.ns g.im) (l:=l) (by rw [show ixI (fitG g.ns g.im) l=(k:Int) from hx]; omega)
  have:j=k:=by have:ixI (fitG g.ns g.im) l=(k:Int):=hx; omega
  subst this; exact e2
 have hnm:l[k].ns=g.ns∧l[k].im=g.im:=by simpa [fitG] using hf
 have hn : ∀ i (h1:i<(l.set k g).length) (h2:i<l.length),(l.set k g)[i].ns=l[i].ns∧(l.set k g)[i].im=l[i].im:=fun i h1 h2=>by
  rw [List.getElem_set]
  split
  ·rename_i e; subst e; exact ⟨hnm.1.symm,hnm.2.symm⟩
  ·exact ⟨rfl,rfl⟩
 refine ⟨by simpa using h.n,fun i hi => ?_⟩
 have hi':i<l.length:=by simpa using hi
 obtain ⟨n1,n2⟩:=hn i hi hi'
 refine ⟨?_,?_⟩
 ·rw [List.getElem_set]
  split
  ·exact hg
  ·exact (h.g i hi').1
 ·rw [n1,n2,zaam (by simp) hn]; exact (h.g i hi').2
structure CG (c:Clu):Prop where
 u:UG c.g.l
 i:c.i=nilI
 n0:1≤c.next
 n1:c.next≤4
theorem CG.valid {c:Clu} (h:CG c):ValidC c:=⟨h.u.n,by rw [h.i]; simp [nilI],h.n0,by have:=h.n1; omega,h.u.g,fun i hi=>by rw [h.i] at hi; simp [nilI] at hi⟩
theorem zv26 {c:Clu} {g:Grp} (h:CG c) (hg:ValidG g) (he:(zxl9 c g).2=0):CG (zxl9 c g).1∧(zxl9 c g).1.g.l≠[]:=by
 refine ⟨⟨?_,zctk he h.i,by rw [zk2b he]; exact h.n0,by rw [zk2b he]; exact h.n1⟩,?_⟩ <;>
 ·have hnn:¬ (¬ ValidC c∨¬ ValidG g):=fun q=>q.elim (fun q=>q h.valid) (fun q=>q hg)
  have hn:=h.u.n
  unfold zxl9 at he ⊢
  rw [if_neg hnn] at he ⊢
  split at he
  ·rename_i hx
   rw [if_pos hx]
   split at he
   ·simp at he
   ·rename_i hl
    rw [if_neg hl]
    simp only
    rw [z3e9 (by simp; omega)]
    first
     | exact zlgs h.u hg hx (by omega)
     | simp
  ·rename_i hx
   rw [if_neg hx]
   obtain ⟨k,hk,e1,e2,e3⟩:=ziel (show 0≤z9w0 c.g.l g.ns g.im by omega)
   have e1:z9w0 c.g.l g.ns g.im=k:=e1
   simp only
   rw [e1,y07,z3e9 (by simp; omega)]
   first
    | exact z3at h.u hg hk e1
    | (intro e; have:=congrArg List.length e; simp at this; rw [this] at hk; simp at hk)
theorem z9qq {c:Clu} {g:Grp} (h:CG c) (hg:ValidG g) (h0:c.g.l=[]):(zxl9 c g).2=0:=by
 have hnn:¬ (¬ ValidC c∨¬ ValidG g):=fun q=>q.elim (fun q=>q h.valid) (fun q=>q hg)
 have hx:z9w0 c.g.l g.ns g.im<0:=by rw [h0]; simp [z9w0,ixI]
 unfold zxl9
 rw [if_neg hnn,if_pos hx,if_neg (by rw [h0]; simp)]
theorem zc4z {c:Clu} {t:Tp} (h:CG c):CG (dOne c t)∧(dOne c t).g.l≠[]:=by
 have hg:=zjze t zfn5 (x:=zdmg) (by simp [zdmg])
 unfold dOne
 split
 ·rename_i he; exact zv26 h hg he
 ·rename_i he
  refine ⟨h,fun h0=>he (z9qq h hg h0)⟩
theorem zm72 : ∀ (k:Nat) (c:Clu) (t:Tp),CG c→CG (zp0i k c t).1∧((1≤k∨c.g.l≠[])→(zp0i k c t).1.g.l≠[])
 | 0,c,t,h=>⟨h,fun q=>q.elim (fun q=>by omega) id⟩
 | k+1,c,t,h=>by
  obtain ⟨g1,g2⟩:=zc4z (t:=t) h
  obtain ⟨k1,k2⟩:=zm72 k (dOne c t) (zlt0 t zdmg).2 g1
  exact ⟨k1,fun _=>k2 (.inr g2)⟩
theorem zoar (t:Tp):CG (cl0 t):=by
 have n1:=z4rs t 4
 have n2:=z2s7 t (n:=4) (by omega)
 exact ⟨⟨by simp [cl0,nilG],fun i hi=>by simp [cl0,nilG] at hi⟩,rfl,by simp only [cl0]; omega,by simp only [cl0]; omega⟩
theorem zfm1 (t:Tp):CG (clD t).1∧(clD t).1.g.l≠[]:=by
 obtain ⟨h1,h2⟩:=zm72 ((tpN (t.adv 1) 2).toNat+1) (cl0 t) (t.adv 2) (zoar t)
 exact ⟨h1,h2 (.inl (by omega))⟩
structure IG (ng:Nat) (l:List Ins) (n:Int):Prop where
 s : ∀ x ∈ l,SoundI ng n x
 o:l.Pairwise fun a b=>a.id<b.id
theorem SoundI.up {ng:Nat} {n m:Int} {x:Ins} (h:SoundI ng n x) (hm:n≤m):SoundI ng m x:=⟨h.id0,by have:=h.id1; omega,h.g0,h.g1,h.art,h.s0,h.s1,h.si,h.de⟩
theorem zgsj {ng:Nat} {n m:Int} {t:Tp} (hn:1≤n) (hm:n<m) (hg:1≤ng):SoundI ng m (iIns ng n t):=by
 have n1:=z4rs t ng
 have n2:=z2s7 t (n:=ng) (by omega)
 have n3:=z4rs (tpS t ng) 3
 have n4:=z2s7 (tpS t ng) (n:=3) (by omega)
 have n5:=z4rs ((tpS t ng).adv 1) 3
 have n6:=z2s7 ((tpS t ng).adv 1) (n:=3) (by omega)
 have n7:=z4rs ((tpS t ng).adv 2) 30
 have n8:=z2s7 ((tpS t ng).adv 2) (n:=30) (by omega)
 have n9:=z4rs ((tpS t ng).adv 4) 30
 have n10:=z2s7 ((tpS t ng).adv 4) (n:=30) (by omega)
 have hl:(tpN (tpS t ng) 3).toNat<zdmg.l.length:=by simp [zdmg]; omega
 refine ⟨hn,hm,n1,by simp only [iIns]; omega,?_,by simp only [iIns]; omega,by simp only [iIns]; omega,⟨n7,by simp only [iIns]; omega⟩,?_⟩
 ·simp only [iIns,y01,y02 hl,y08]
  exact zfn5 _ (y09 hl)
 ·simp only [iIns]
  split
  ·exact .inr ⟨n9,by omega⟩
  ·exact .inl rfl
theorem zc7j {ng:Nat} (hg:1≤ng) : ∀ (k:Nat) (l:List Ins) (n:Int) (t:Tp),1≤n→IG ng l n→IG ng (zgc4 ng k l n t).1 (zgc4 ng k l n t).2.1∧1≤(zgc4 ng k l n t).2.1∧(zgc4 ng k l n t).2.1≤n+2*k∧(zgc4 ng k l n t).1.length=l.length+k
 | 0,l,n,t,hn,h=>⟨h,hn,by simp [zgc4],rfl⟩
 | k+1,l,n,t,hn,h=>by
  have j1:=z4rs (iTp ng t) 2
  have j2:=z2s7 (iTp ng t) (n:=2) (by omega)
  have hs:IG ng (l++[iIns ng n t]) (n+(1+tpN (iTp ng t) 2)):=by
   refine ⟨fun x hx => ?_,List.pairwise_append.2 ⟨h.o,by simp,fun a ha b hb => ?_⟩⟩
   ·rcases y0d.1 hx with q|q
    ·exact (h.s x q).up (by omega)
    ·simp at q; subst q; exact zgsj hn (by omega) hg
   ·simp at hb; subst hb; exact (h.s a ha).id1
  obtain ⟨k1,k2,k3,k4⟩:=zc7j hg k (l++[iIns ng n t]) (n+(1+tpN (iTp ng t) 2)) ((iTp ng t).adv 1) (by omega) hs
  refine ⟨k1,k2,?_,?_⟩
  ·show (zgc4 ng k (l++[iIns ng n t]) (n+(1+tpN (iTp ng t) 2)) ((iTp ng t).adv 1)).2.1≤_
   omega
  ·show (zgc4 ng k (l++[iIns ng n t]) (n+(1+tpN (iTp ng t) 2)) ((iTp ng t).adv 1)).1.length=_
   rw [k4]; simp; omega
theorem zy9o {l:List Ins} (h:l.Pairwise fun a b=>a.id<b.id) (i:Nat) (hi:i<l.length) (h0:0<i):l[i-1].id<l[i].id :=
 y05.1 h (i-1) i (by omega) hi (by omega)
theorem zlnb (t:Tp) (m:Int) (h0:0≤m) (h1:m≤200):ValidC (zcpt t m).1∧(zcpt t m).1.g.l≠[]:=by
 obtain ⟨hc,hg⟩:=zfm1 t
 have m1:=z4rs (clD t).2 (m+1)
 have m2:=z2s7 (clD t).2 (n:=m+1) (by omega)
 have hgl:1≤(clD t).1.g.l.length:=y04.2 hg
 obtain ⟨k1,k2,k3,k4⟩:=zc7j hgl (tpN (clD t).2 (m+1)).toNat [] (clD t).1.next ((clD t).2.adv 1) hc.n0 ⟨by simp,by simp⟩
 have hn1:=hc.n1
 have hI:clI t m=zgc4 (clD t).1.g.l.length (tpN (clD t).2 (m+1)).toNat [] (clD t).1.next ((clD t).2.adv 1):=rfl
 rw [← hI] at k1 k2 k3 k4
 have hil:(zcpt t m).1.i.l=(clI t m).1:=by
  simp only [zcpt]
  split
  ·rename_i e; rw [e]; rfl
  ·exact z3e9 (by rw [k4]; simp; omega)
 have hgl':(zcpt t m).1.g=(clD t).1.g:=rfl
 have hnx:(zcpt t m).1.next=(clI t m).2.1:=rfl
 simp only [List.length_nil,Nat.zero_add] at k4
 refine ⟨⟨by rw [hgl']; exact hc.u.n,by rw [hil,k4]; omega,by rw [hnx]; exact k2,by rw [hnx]; omega,fun i hi=>hc.u.g i hi,fun i hi => ?_⟩,hg⟩
 have hi':i<(clI t m).1.length:=by rw [← hil]; exact hi
 have e : ∀ j (hj:j<(zcpt t m).1.i.l.length),(zcpt t m).1.i.l[j]=(clI t m).1[j]'(by rw [← hil]; exact hj):=fun j hj=>by simp only [hil]
 refine ⟨?_,fun h0 => ?_⟩
 ·rw [e i hi]
  exact k1.s _ (y09 hi')
 ·rw [e i hi,e (i-1) (by omega)]
  exact zy9o k1.o i hi' h0
end
section
set_option linter.unusedSimpArgs false
set_option linter.unusedVariables false
open Go Go.Am
section
variable {α β:Type} {lt:α→α→Bool}
def insR (lt:α→α→Bool) (x:α) (l:List α):List α:=(l.reverse.dropWhile (lt x)).reverse++x::(l.reverse.takeWhile (lt x)).reverse
def zxu4 (lt:α→α→Bool) (l:List α):List α:=l.foldl (fun a x=>insR lt x a) []
theorem zcx2 {x:α} {l:List α}:(insR lt x l).Perm (x::l):=by
 unfold insR
 refine List.perm_middle.trans (List.Perm.cons x ?_)
 rw [← List.reverse_append,List.takeWhile_append_dropWhile]
 simp
theorem zuk7 {l:List α} {x:α}:zxu4 lt (l++[x])=insR lt x (zxu4 lt l):=by simp [zxu4]
theorem z77f {P:List α→Prop} (h0:P []) (h1 : ∀ l x,P l→P (l++[x])) : ∀ l,P l:=by
 intro l
 rw [← List.reverse_reverse l]
 induction l.reverse with
 | nil=>exact h0
 | cons a r ih=>rw [List.reverse_cons]; exact h1 _ _ ih
theorem zo43 (l:List α):(zxu4 lt l).Perm l:=by
 induction l using z77f with
 | h0=>exact List.Perm.refl _
 | h1 l x ih =>
  rw [zuk7]
  refine zcx2.trans ((List.Perm.cons x ih).trans ?_)
  exact (List.perm_append_comm (l₁:=[x]) (l₂:=l))
end
def chos (g:Grp) (x:Ins):Bool:=decide (x.den<0)&&decide (x.art ∈ g.ch.l)
def grAt (c:Clu) (k:Int):Option Grp:=if 0≤k then c.g.l[k.toNat]? else none
def selL (l:List Ins) (k:Int) (p:Ins→Bool):List Ins:=l.filter fun x=>decide (x.grp=k)&&p x
def idsP (c:Clu) (k:Int) (sel:Grp→Ins→Bool):List Int:=match grAt c k with
 | some g=>(selL c.i.l k (sel g)).map Ins.id
 | none=>[]
def z6db (_:Grp) (x:Ins):Bool:=decide (x.state=2)
def z9qu (g:Grp) (x:Ins):Bool:=decide (x.state≠3)&&chos g x
def sDen (_:Grp) (x:Ins):Bool:=decide (x.state=2)&&decide (0≤x.den)
def sRep (g:Grp) (x:Ins):Bool:=decide (x.state=2)&&decide (x.den<0) && !chos g x
def z7e4 (g:Grp) (x:Ins):Bool:=decide (x.state=2)&&chos g x
def zd1c (c:Clu) (k:Int):Nat:=(idsP c k z6db).length
def znqs (c:Clu) (k:Int):List Int:=idsP c k z9qu
def z17v (c:Clu) (k:Int):Int:=match grAt c k with
 | some g=>max ((zd1c c k:Int)-max g.least (g.want-g.down)) 0
 | none=>0
def zfmx (c:Clu) (id:Int):Int:=match c.i.l.find? (fun x=>decide (x.id=id)) with
 | some x=>x.den
 | none=>0
def ltV (c:Clu) (a b:Int):Bool:=decide (zfmx c a<zfmx c b)||(decide (zfmx c a=zfmx c b)&&decide (a<b))
def zu3j (c:Clu) (k:Int):List Int:=match grAt c k with
 | some g=>zxu4 (ltV c) (idsP c k sDen)++(idsP c k sRep++(idsP c k z7e4).reverse.take ((znqs c k).length-g.want).toNat)
 | none=>[]
def z9hf (x:Ins) (gr t:Int):Bool:=decide (x.state≠3)&&(decide (0≤x.den)&&decide (gr≤t-x.den))
def ze9z (l:List Ins) (i:Nat) (gr:List Int) (t:Int):List Int:=match l with
 | []=>[]
 | x::r=>if z9hf x (gr.getD i 0) t=true then x.id::ze9z r (i+1) gr t else ze9z r (i+1) gr t
def zj6b (g:Grp) (x:Ins):Bool:=(decide (x.state=1)||decide (x.state=2))&&(decide (x.den = -1)&&decide (x.art ∈ g.ch.l))
def z56d (g:Grp) (l:List Ins) (k:Int):List Ins:=selL l k (fun x=>decide (x.state=2)&&zj6b g x)
structure GoodI (l:List Ins):Prop where
 s : ∀ x ∈ l,1≤x.state∧x.state≤3 ∧ -1≤x.den
 d:l.Pairwise (fun x y=>x.id<y.id)
theorem zrab {l:List Ins} (h : ∀ i (h:i<l.length),∀ h0:0<i,(l[i-1]'(by omega)).id<l[i].id):l.Pairwise (fun x y=>x.id<y.id):=by
 rw [y05]
 intro i j hi hj hij
 induction j with
 | zero=>omega
 | succ j ih =>
  have hs:=h (j+1) hj (by omega)
  by_cases e:i=j
  ·subst e; simpa using hs
  ·have:=ih (by omega) (by omega)
   simp at hs
   omega
theorem zyak {c:Clu} (hv:ValidC c):GoodI c.i.l:=by
 refine ⟨fun x hx => ?_,zrab fun i h h0=>(hv.i i h).2 h0⟩
 obtain ⟨i,hi,rfl⟩:=y0b hx
 obtain ⟨g,_⟩:=hv.i i hi
 refine ⟨g.s0,g.s1,?_⟩
 rcases g.de with e|e
 ·omega
 ·have:=e.1; omega
end
section
set_option linter.unusedSimpArgs false
set_option linter.unusedVariables false
open Go Go.Am
structure VicFacts (g:Grp) (l:List Ins) (k:Int) (v:List Int):Prop where
 oneC : ∀ x ∈ l,x.grp=k→x.state=2→zj6b g x=false→v.count x.id=1
 le : ∀ x ∈ l,x.grp=k→x.state=2→zj6b g x=true→v.count x.id≤1
 sum:((z56d g l k).map fun x=>v.count x.id).sum=min ((selL l k (zj6b g)).length-g.want).toNat (z56d g l k).length
 len:v.length=(selL l k fun x=>decide (x.state=2) && !zj6b g x).length+((z56d g l k).map fun x=>v.count x.id).sum
end
section
set_option linter.unusedSimpArgs false
set_option linter.unusedVariables false
open Go Go.Am
theorem z9td {l:List Grp} : ∀ i (h1:i<(l.map Grp.clone).length) (h2:i<l.length),(l.map Grp.clone)[i].ns=l[i].ns∧(l.map Grp.clone)[i].im=l[i].im:=fun i h1 h2=>by
 rw [List.getElem_map]; exact ⟨rfl,rfl⟩
theorem zkys {g:Grp} (h:ValidG g):ValidG g.clone:=⟨h.ns,h.im,h.w0,h.w1,h.l0,h.l1,h.d0,h.d1,h.n,h.ch⟩
theorem zf78 {c:Clu} (hv:ValidC c) : ∀ i (h:i<(c.g.l.map Grp.clone).length),ValidG (c.g.l.map Grp.clone)[i]∧z9w0 (c.g.l.map Grp.clone) (c.g.l.map Grp.clone)[i].ns (c.g.l.map Grp.clone)[i].im=i:=by
 intro i hi
 have hi':i<c.g.l.length:=by simpa using hi
 obtain ⟨g1,g2⟩:=hv.g i hi'
 rw [(z9td i hi hi').1,(z9td i hi hi').2,List.getElem_map]
 refine ⟨zkys g1,?_⟩
 rw [zaam (l:=c.g.l.map Grp.clone) (l':=c.g.l) (by simp) z9td]
 exact g2
theorem zqis {c:Clu} (hv:ValidC c) {y:Sl Ins} (hl:y.l.length=c.i.l.length) (h : ∀ i (h1:i<y.l.length) (h2:i<c.i.l.length),y.l[i].id=c.i.l[i].id∧SoundI c.g.l.length c.next y.l[i]):ValidC ⟨c.clone.g,y,c.next⟩:=by
 have hgl:c.clone.g.l=c.g.l.map Grp.clone:=rfl
 refine ⟨by show c.clone.g.l.length≤16; rw [hgl]; simpa using hv.ng,by show y.l.length≤200; rw [hl]; exact hv.ni,hv.n0,hv.n1,zf78 hv,fun i hi => ?_⟩
 have hi1:i<y.l.length:=hi
 have hi':i<c.i.l.length:=by omega
 have hp:i-1<y.l.length:=by omega
 have hp':i-1<c.i.l.length:=by omega
 obtain ⟨a1,a2⟩:=h i hi1 hi'
 obtain ⟨b1,_⟩:=h (i-1) hp hp'
 refine ⟨?_,fun h0 => ?_⟩
 ·show SoundI c.clone.g.l.length c.next y.l[i]
  rw [hgl,List.length_map]; exact a2
 ·show y.l[i-1].id<y.l[i].id
  rw [a1,b1]
  exact (hv.i i hi').2 h0
def runB (k:Int) (x:Ins):Bool:=decide (x.grp=k)&&decide (x.state=2)
def z6xi (x:Ins):Ins:=(x.st 3).si 50
def zzoq (k:Int):List Ins→Nat→List Ins
 | [],_=>[]
 | x::r,0=>x::r
 | x::r,n+1=>if runB k x=true then z6xi x::zzoq k r n else x::zzoq k r (n+1)
def lim3 (g:Grp):Int × Int × Int:=(g.want,g.least,g.down)
theorem zvud {l:List Ins} (hd:l.Pairwise (fun x y=>x.id<y.id)) {i:Nat} (h:i<l.length):z092 l l[i].id=i:=by
 refine zy9u h (by simp) fun j hj hji => ?_
 have:=y05.1 hd j i hj h hji
 simp; omega
structure Stp (c d:Clu) (k:Int) (n:Nat):Prop where
 v:ValidC d
 i:d.i.l=zzoq k c.i.l n
 n:d.next=c.next
 g:d.g.l.map lim3=c.g.l.map lim3
end
section
set_option linter.unusedSimpArgs false
set_option linter.unusedVariables false
open Go Go.Am
theorem zjzy {ds:List DV} (h:Ty.Ok (.sl (.int .i64)) ds) : ∃ x:Nl,(∀ n ∈ x.l,-9223372036854775808≤n∧n≤9223372036854775807)∧ds=[x.dv]:=by
 obtain ⟨k,l,h1,h2,rfl,hb⟩:=z61h (f:=inI) (R:=fun n => -9223372036854775808≤n∧n≤9223372036854775807) (fun ds h=>by obtain ⟨n,hn,rfl⟩:=zrcx h; exact ⟨n,hn,rfl⟩) h
 exact ⟨⟨k,l,h1,hb⟩,h2,rfl⟩
end
section
set_option linter.unusedSimpArgs false
set_option linter.unusedVariables false
open Go Go.Am
def z91y:ACode :=
 (.seq (.region false [⟨none,(some 23),.bin .lss (.t 22) (.t 21)⟩])
 (.seq (.cond (.t 23) .skip
 (.exit 0))
 (.seq (.block 1 (.seq (.region false [⟨none,(some 24),.idxS 37 (.t 20) (.t 22)⟩,
  ⟨none,(some 25),.load 37 true (.t 24)⟩,
  ⟨none,(some 9),.alloc [(.int .i64 0),(.int .i64 0),(w8 0#8),(w8 0#8),(w8 0#8),(w8 0#8),(w8 0#8),(w8 0#8),(w8 0#8),(w8 0#8),(w8 0#8),(w8 0#8),(w8 0#8),(w8 0#8),(w8 0#8),(w8 0#8),(w8 0#8),(w8 0#8),(w8 0#8),(w8 0#8),(w8 0#8),(w8 0#8),(w8 0#8),(w8 0#8),(w8 0#8),(w8 0#8),(w8 0#8),(w8 0#8),(w8 0#8),(w8 0#8),(w8 0#8),(w8 0#8),(w8 0#8),(w8 0#8),(.int .i64 0),(.int .i64 0),(.int .i64 0)]⟩,
  ⟨none,none,.store 37 (.t 9) (.t 25)⟩])
 (.seq (.region true [⟨none,(some 26),.fld 1 (.t 9)⟩,
  ⟨none,(some 27),.load 1 false (.t 26)⟩,
  ⟨none,(some 28),.mov (.t 1)⟩,
  ⟨none,(some 29),.bin .eql (.t 27) (.t 28)⟩,
  ⟨none,(some 30),.mov (.t 29)⟩,
  ⟨(some (30,true)),(some 31),.mov (.t 2)⟩,
  ⟨(some (30,true)),(some 32),.fld 0 (.t 3)⟩,
  ⟨(some (30,true)),(some 33),.load 1 false (.t 32)⟩,
  ⟨(some (30,true)),(some 34),.mov (.t 1)⟩,
  ⟨(some (30,true)),(some 35),.idxS 6 (.t 33) (.t 34)⟩,
  ⟨(some (30,true)),(some 36),.load 6 true (.t 35)⟩,
  ⟨(some (30,true)),(some 37),.load 37 true (.t 9)⟩,
  ⟨(some (30,true)),(some 38),.callE (.t 31) [(.t 36),(.t 37)]⟩,
  ⟨none,(some 39),.pick (.t 30) (.t 38) (.k (.bool false))⟩])
 (.cond (.t 39) (.region false [⟨none,(some 40),.mov (.t 7)⟩,
  ⟨none,(some 41),.fld 0 (.t 9)⟩,
  ⟨none,(some 42),.load 1 false (.t 41)⟩,
  ⟨none,(some 43),.bsl 1 1 [(.int .i64 0)] [(0,1,(.t 42))]⟩,
  ⟨none,(some 44),.app 1 8 (.t 40) (.t 43)⟩,
  ⟨none,(some 7),.mov (.t 44)⟩])
 .skip))))
 (.region false [⟨none,(some 45),.bin .add (.t 22) (.k (.int .i64 1))⟩,
  ⟨none,(some 22),.mov (.t 45)⟩]))))
def a112:AFn where
 code:=(.seq (.region false [⟨none,(some 3),.box (.t 0)⟩,
  ⟨none,(some 6),.mov (.k .nils)⟩])
 (.seq (.seq (.region false [⟨none,(some 10),.mov (.t 1)⟩,
  ⟨none,(some 11),.bin .lss (.t 10) (.k (.int .i64 0))⟩,
  ⟨none,(some 12),.mov (.t 11)⟩,
  ⟨(some (12,false)),(some 13),.mov (.t 1)⟩,
  ⟨(some (12,false)),(some 14),.fld 0 (.t 3)⟩,
  ⟨(some (12,false)),(some 15),.load 1 false (.t 14)⟩,
  ⟨(some (12,false)),(some 16),.len (.t 15)⟩,
  ⟨(some (12,false)),(some 17),.bin .geq (.t 13) (.t 16)⟩,
  ⟨none,(some 18),.pick (.t 12) (.k (.bool true)) (.t 17)⟩])
 (.cond (.t 18) (.seq (.region false [⟨none,(some 6),.mov (.k .nils)⟩])
 .ret)
 .skip))
 (.seq (.region false [⟨none,(some 7),.mov (.k .nils)⟩])
 (.seq (.seq (.region false [⟨none,(some 19),.fld 1 (.t 3)⟩,
  ⟨none,(some 20),.load 1 false (.t 19)⟩,
  ⟨none,(some 21),.len (.t 20)⟩,
  ⟨none,(some 22),.mov (.k (.int .i64 0))⟩])
 (.block 0 (.loop z91y)))
 (.seq (.region false [⟨none,(some 46),.mov (.t 7)⟩,
  ⟨none,(some 6),.mov (.t 46)⟩])
 .ret)))))
 ntmps:=47
 res:=[.tmp 6]
theorem zhnv:zsjc P Tryz.f112=some a112:=by kernel_rfl
def a116:AFn where
 code:=(.seq (.region false [⟨none,(some 2),.box (.t 0)⟩,
  ⟨none,(some 3),.box (.t 1)⟩,
  ⟨none,(some 4),.mov (.k (.bool false))⟩])
 (.seq (.region false [⟨none,(some 5),.fld 34 (.t 3)⟩,
  ⟨none,(some 6),.load 1 false (.t 5)⟩,
  ⟨none,(some 7),.bin .eql (.t 6) (.k (.int .i64 2))⟩,
  ⟨none,(some 4),.mov (.t 7)⟩])
 .ret))
 ntmps:=8
 res:=[.tmp 4]
theorem z3rp:zsjc P Tryz.f116=some a116:=by kernel_rfl
def a114:AFn where
 code:=(.seq (.region false [⟨none,(some 2),.box (.t 0)⟩,
  ⟨none,(some 3),.box (.t 1)⟩,
  ⟨none,(some 4),.mov (.k (.bool false))⟩])
 (.seq (.region false [⟨none,(some 5),.fld 36 (.t 3)⟩,
  ⟨none,(some 6),.load 1 false (.t 5)⟩,
  ⟨none,(some 7),.bin .lss (.t 6) (.k (.int .i64 0))⟩,
  ⟨none,(some 8),.mov (.t 7)⟩,
  ⟨(some (8,true)),(some 9),.fld 5 (.t 2)⟩,
  ⟨(some (8,true)),(some 10),.load 1 false (.t 9)⟩,
  ⟨(some (8,true)),(some 11),.fld 2 (.t 3)⟩,
  ⟨(some (8,true)),(some 12),.load 32 true (.t 11)⟩,
  ⟨(some (8,true)),(some 13),.call (.k (.fn (.func 49) [] [])) [(.t 10),(.t 12)]⟩,
  ⟨none,(some 14),.pick (.t 8) (.t 13) (.k (.bool false))⟩,
  ⟨none,(some 4),.mov (.t 14)⟩])
 .ret))
 ntmps:=15
 res:=[.tmp 4]
theorem zgcx:zsjc P Tryz.f114=some a114:=by kernel_rfl
def a124:AFn where
 code:=(.seq (.region false [⟨none,(some 2),.box (.t 0)⟩,
  ⟨none,(some 4),.mov (.k (.int .i64 0))⟩])
 (.seq (.region false [⟨none,(some 5),.load 3 true (.t 2)⟩,
  ⟨none,(some 6),.mov (.t 1)⟩,
  ⟨none,(some 7),.call (.k (.fn (.func 112) [] [])) [(.t 5),(.t 6),(.k (.fn (.func 116) [] []))]⟩,
  ⟨none,(some 8),.len (.t 7)⟩,
  ⟨none,(some 4),.mov (.t 8)⟩])
 .ret))
 ntmps:=9
 res:=[.tmp 4]
theorem ze8k:zsjc P Tryz.f124=some a124:=by kernel_rfl
def a113:AFn where
 code:=(.seq (.region false [⟨none,(some 2),.box (.t 0)⟩,
  ⟨none,(some 3),.box (.t 1)⟩,
  ⟨none,(some 4),.mov (.k (.bool false))⟩])
 (.seq (.region false [⟨none,(some 5),.fld 34 (.t 3)⟩,
  ⟨none,(some 6),.load 1 false (.t 5)⟩,
  ⟨none,(some 7),.bin .neq (.t 6) (.k (.int .i64 3))⟩,
  ⟨none,(some 8),.mov (.t 7)⟩,
  ⟨(some (8,true)),(some 9),.load 6 true (.t 2)⟩,
  ⟨(some (8,true)),(some 10),.load 37 true (.t 3)⟩,
  ⟨(some (8,true)),(some 11),.call (.k (.fn (.func 114) [] [])) [(.t 9),(.t 10)]⟩,
  ⟨none,(some 12),.pick (.t 8) (.t 11) (.k (.bool false))⟩,
  ⟨none,(some 4),.mov (.t 12)⟩])
 .ret))
 ntmps:=13
 res:=[.tmp 4]
theorem zz1e:zsjc P Tryz.f113=some a113:=by kernel_rfl
def a87:AFn where
 code:=(.seq (.region false [⟨none,(some 2),.box (.t 0)⟩,
  ⟨none,(some 4),.mov (.k .nils)⟩])
 (.seq (.region false [⟨none,(some 5),.load 3 true (.t 2)⟩,
  ⟨none,(some 6),.mov (.t 1)⟩,
  ⟨none,(some 7),.call (.k (.fn (.func 112) [] [])) [(.t 5),(.t 6),(.k (.fn (.func 113) [] []))]⟩,
  ⟨none,(some 4),.mov (.t 7)⟩])
 .ret))
 ntmps:=8
 res:=[.tmp 4]
theorem zfhg:zsjc P Tryz.f87=some a87:=by kernel_rfl
def a89:AFn where
 code:=(.seq (.region false [⟨none,(some 2),.box (.t 0)⟩,
  ⟨none,(some 4),.mov (.k (.int .i64 0))⟩])
 (.seq (.seq (.region false [⟨none,(some 6),.mov (.t 1)⟩,
  ⟨none,(some 7),.bin .lss (.t 6) (.k (.int .i64 0))⟩,
  ⟨none,(some 8),.mov (.t 7)⟩,
  ⟨(some (8,false)),(some 9),.mov (.t 1)⟩,
  ⟨(some (8,false)),(some 10),.fld 0 (.t 2)⟩,
  ⟨(some (8,false)),(some 11),.load 1 false (.t 10)⟩,
  ⟨(some (8,false)),(some 12),.len (.t 11)⟩,
  ⟨(some (8,false)),(some 13),.bin .geq (.t 9) (.t 12)⟩,
  ⟨none,(some 14),.pick (.t 8) (.k (.bool true)) (.t 13)⟩])
 (.cond (.t 14) (.seq (.region false [⟨none,(some 4),.mov (.k (.int .i64 0))⟩])
 .ret)
 .skip))
 (.seq (.region false [⟨none,(some 15),.fld 0 (.t 2)⟩,
  ⟨none,(some 16),.load 1 false (.t 15)⟩,
  ⟨none,(some 17),.mov (.t 1)⟩,
  ⟨none,(some 18),.idxS 6 (.t 16) (.t 17)⟩,
  ⟨none,(some 19),.load 6 true (.t 18)⟩,
  ⟨none,(some 5),.alloc [(.str []),(.str []),(.int .i64 0),(.int .i64 0),(.int .i64 0),.nils]⟩,
  ⟨none,none,.store 6 (.t 5) (.t 19)⟩])
 (.seq (.region true [⟨none,(some 20),.load 3 true (.t 2)⟩,
  ⟨none,(some 21),.mov (.t 1)⟩,
  ⟨none,(some 23),.fld 3 (.t 5)⟩,
  ⟨none,(some 24),.load 1 false (.t 23)⟩,
  ⟨none,(some 25),.fld 2 (.t 5)⟩,
  ⟨none,(some 26),.load 1 false (.t 25)⟩,
  ⟨none,(some 27),.fld 4 (.t 5)⟩,
  ⟨none,(some 28),.load 1 false (.t 27)⟩,
  ⟨none,(some 29),.bin .sub (.t 26) (.t 28)⟩,
  ⟨none,(some 30),.mm true [(.t 24),(.t 29)]⟩,
  ⟨none,(some 22),.callN (.k (.fn (.func 124) [] [])) [(.t 20),(.t 21)]⟩,
  ⟨none,(some 31),.bin .sub (.t 22) (.t 30)⟩,
  ⟨none,(some 32),.mm true [(.t 31),(.k (.int .i64 0))]⟩,
  ⟨none,(some 4),.mov (.t 32)⟩])
 .ret))))
 ntmps:=33
 res:=[.tmp 4]
theorem z42j:zsjc P Tryz.f89=some a89:=by kernel_rfl
def a120:AFn where
 code:=(.seq (.region false [⟨none,(some 2),.box (.t 0)⟩,
  ⟨none,(some 3),.box (.t 1)⟩,
  ⟨none,(some 4),.mov (.k (.int .i64 0))⟩])
 (.seq (.region false [⟨none,(some 6),.fld 1 (.t 2)⟩,
  ⟨none,(some 7),.load 1 false (.t 6)⟩,
  ⟨none,(some 8),.mkf (.func 135) [] [(.t 3)]⟩,
  ⟨none,(some 9),.call (.k (.fn (.func 107) [] [])) [(.t 7),(.t 8)]⟩,
  ⟨none,(some 5),.mov (.t 9)⟩])
 (.seq (.region false [⟨none,(some 10),.fld 1 (.t 2)⟩,
  ⟨none,(some 11),.load 1 false (.t 10)⟩,
  ⟨none,(some 12),.mov (.t 5)⟩,
  ⟨none,(some 13),.idxS 37 (.t 11) (.t 12)⟩,
  ⟨none,(some 14),.fld 36 (.t 13)⟩,
  ⟨none,(some 15),.load 1 false (.t 14)⟩,
  ⟨none,(some 4),.mov (.t 15)⟩])
 .ret)))
 ntmps:=16
 res:=[.tmp 4]
theorem zrxr:zsjc P Tryz.f120=some a120:=by kernel_rfl
def a135:AFn where
 code:=(.seq (.region false [⟨none,(some 2),.box (.t 0)⟩,
  ⟨none,(some 3),.mov (.k (.bool false))⟩])
 (.seq (.region false [⟨none,(some 4),.fld 0 (.t 2)⟩,
  ⟨none,(some 5),.load 1 false (.t 4)⟩,
  ⟨none,(some 6),.load 1 false (.t 1)⟩,
  ⟨none,(some 7),.bin .eql (.t 5) (.t 6)⟩,
  ⟨none,(some 3),.mov (.t 7)⟩])
 .ret))
 ntmps:=8
 res:=[.tmp 3]
theorem z8cr:zsjc P Tryz.f135=some a135:=by kernel_rfl
def a115:AFn where
 code:=(.seq (.region false [⟨none,(some 2),.box (.t 0)⟩,
  ⟨none,(some 3),.box (.t 1)⟩,
  ⟨none,(some 4),.mov (.k (.bool false))⟩])
 (.seq (.region false [⟨none,(some 5),.load 6 true (.t 2)⟩,
  ⟨none,(some 6),.load 37 true (.t 3)⟩,
  ⟨none,(some 7),.call (.k (.fn (.func 116) [] [])) [(.t 5),(.t 6)]⟩,
  ⟨none,(some 8),.mov (.t 7)⟩,
  ⟨(some (8,true)),(some 9),.fld 36 (.t 3)⟩,
  ⟨(some (8,true)),(some 10),.load 1 false (.t 9)⟩,
  ⟨(some (8,true)),(some 11),.bin .geq (.t 10) (.k (.int .i64 0))⟩,
  ⟨none,(some 12),.pick (.t 8) (.t 11) (.k (.bool false))⟩,
  ⟨none,(some 4),.mov (.t 12)⟩])
 .ret))
 ntmps:=13
 res:=[.tmp 4]
theorem zv17:zsjc P Tryz.f115=some a115:=by kernel_rfl
def a118:AFn where
 code:=(.seq (.region false [⟨none,(some 5),.mov (.k (.int .i64 0))⟩])
 (.seq (.region true [⟨none,(some 6),.load 3 true (.t 2)⟩,
  ⟨none,(some 7),.mov (.t 0)⟩,
  ⟨none,(some 9),.load 3 true (.t 2)⟩,
  ⟨none,(some 10),.mov (.t 1)⟩,
  ⟨none,(some 13),.mov (.t 0)⟩,
  ⟨none,(some 14),.mov (.t 1)⟩,
  ⟨none,(some 8),.callN (.k (.fn (.func 120) [] [])) [(.t 6),(.t 7)]⟩,
  ⟨none,(some 11),.callN (.k (.fn (.func 120) [] [])) [(.t 9),(.t 10)]⟩,
  ⟨none,(some 12),.callN (.k (.fn (.func 119) [] [])) [(.t 8),(.t 11)]⟩,
  ⟨none,(some 15),.callN (.k (.fn (.func 71) [] [])) [(.t 13),(.t 14)]⟩,
  ⟨none,(some 16),.bsl 1 2 [(.int .i64 0)] [(0,1,(.t 12)),(1,1,(.t 15))]⟩,
  ⟨none,(some 17),.callN (.k (.fn (.func 70) [] [])) [(.t 16)]⟩,
  ⟨none,(some 5),.mov (.t 17)⟩])
 .ret))
 ntmps:=18
 res:=[.tmp 5]
theorem zasg:zsjc P Tryz.f118=some a118:=by kernel_rfl
def a121:AFn where
 code:=(.seq (.region false [⟨none,(some 2),.box (.t 0)⟩,
  ⟨none,(some 3),.box (.t 1)⟩,
  ⟨none,(some 4),.mov (.k (.bool false))⟩])
 (.seq (.region false [⟨none,(some 5),.load 6 true (.t 2)⟩,
  ⟨none,(some 6),.load 37 true (.t 3)⟩,
  ⟨none,(some 7),.call (.k (.fn (.func 116) [] [])) [(.t 5),(.t 6)]⟩,
  ⟨none,(some 8),.mov (.t 7)⟩,
  ⟨(some (8,true)),(some 9),.fld 36 (.t 3)⟩,
  ⟨(some (8,true)),(some 10),.load 1 false (.t 9)⟩,
  ⟨(some (8,true)),(some 11),.bin .lss (.t 10) (.k (.int .i64 0))⟩,
  ⟨none,(some 12),.pick (.t 8) (.t 11) (.k (.bool false))⟩,
  ⟨none,(some 13),.mov (.t 12)⟩,
  ⟨(some (13,true)),(some 14),.load 6 true (.t 2)⟩,
  ⟨(some (13,true)),(some 15),.load 37 true (.t 3)⟩,
  ⟨(some (13,true)),(some 16),.call (.k (.fn (.func 114) [] [])) [(.t 14),(.t 15)]⟩,
  ⟨(some (13,true)),(some 17),.un .not (.t 16)⟩,
  ⟨none,(some 18),.pick (.t 13) (.t 17) (.k (.bool false))⟩,
  ⟨none,(some 4),.mov (.t 18)⟩])
 .ret))
 ntmps:=19
 res:=[.tmp 4]
theorem zfl0:zsjc P Tryz.f121=some a121:=by kernel_rfl
def a122:AFn where
 code:=(.seq (.region false [⟨none,(some 2),.box (.t 0)⟩,
  ⟨none,(some 3),.box (.t 1)⟩,
  ⟨none,(some 4),.mov (.k (.bool false))⟩])
 (.seq (.region false [⟨none,(some 5),.load 6 true (.t 2)⟩,
  ⟨none,(some 6),.load 37 true (.t 3)⟩,
  ⟨none,(some 7),.call (.k (.fn (.func 116) [] [])) [(.t 5),(.t 6)]⟩,
  ⟨none,(some 8),.mov (.t 7)⟩,
  ⟨(some (8,true)),(some 9),.load 6 true (.t 2)⟩,
  ⟨(some (8,true)),(some 10),.load 37 true (.t 3)⟩,
  ⟨(some (8,true)),(some 11),.call (.k (.fn (.func 114) [] [])) [(.t 9),(.t 10)]⟩,
  ⟨none,(some 12),.pick (.t 8) (.t 11) (.k (.bool false))⟩,
  ⟨none,(some 4),.mov (.t 12)⟩])
 .ret))
 ntmps:=13
 res:=[.tmp 4]
theorem z2hw:zsjc P Tryz.f122=some a122:=by kernel_rfl
def a88:AFn where
 code:=(.seq (.region false [⟨none,(some 2),.box (.t 0)⟩,
  ⟨none,(some 4),.mov (.k .nils)⟩])
 (.seq (.seq (.region false [⟨none,(some 9),.mov (.t 1)⟩,
  ⟨none,(some 10),.bin .lss (.t 9) (.k (.int .i64 0))⟩,
  ⟨none,(some 11),.mov (.t 10)⟩,
  ⟨(some (11,false)),(some 12),.mov (.t 1)⟩,
  ⟨(some (11,false)),(some 13),.fld 0 (.t 2)⟩,
  ⟨(some (11,false)),(some 14),.load 1 false (.t 13)⟩,
  ⟨(some (11,false)),(some 15),.len (.t 14)⟩,
  ⟨(some (11,false)),(some 16),.bin .geq (.t 12) (.t 15)⟩,
  ⟨none,(some 17),.pick (.t 11) (.k (.bool true)) (.t 16)⟩])
 (.cond (.t 17) (.seq (.region false [⟨none,(some 4),.mov (.k .nils)⟩])
 .ret)
 .skip))
 (.seq (.region false [⟨none,(some 18),.load 3 true (.t 2)⟩,
  ⟨none,(some 19),.mov (.t 1)⟩,
  ⟨none,(some 20),.call (.k (.fn (.func 112) [] [])) [(.t 18),(.t 19),(.k (.fn (.func 115) [] []))]⟩,
  ⟨none,(some 5),.mov (.t 20)⟩])
 (.seq (.region false [⟨none,(some 21),.mov (.t 5)⟩,
  ⟨none,(some 22),.mkf (.func 118) [] [(.t 2)]⟩,
  ⟨none,(some 23),.call (.k (.fn (.func 117) [] [])) [(.t 21),(.t 22)]⟩])
 (.seq (.region false [⟨none,(some 24),.load 3 true (.t 2)⟩,
  ⟨none,(some 25),.mov (.t 1)⟩,
  ⟨none,(some 26),.call (.k (.fn (.func 112) [] [])) [(.t 24),(.t 25),(.k (.fn (.func 121) [] []))]⟩,
  ⟨none,(some 6),.mov (.t 26)⟩])
 (.seq (.region false [⟨none,(some 27),.load 3 true (.t 2)⟩,
  ⟨none,(some 28),.mov (.t 1)⟩,
  ⟨none,(some 29),.call (.k (.fn (.func 112) [] [])) [(.t 27),(.t 28),(.k (.fn (.func 122) [] []))]⟩,
  ⟨none,(some 7),.mov (.t 29)⟩])
 (.seq (.region false [⟨none,(some 30),.mov (.t 7)⟩,
  ⟨none,(some 31),.call (.k (.fn (.func 86) [] [])) [(.t 30)]⟩])
 (.seq (.region true [⟨none,(some 32),.load 3 true (.t 2)⟩,
  ⟨none,(some 33),.mov (.t 1)⟩,
  ⟨none,(some 36),.fld 0 (.t 2)⟩,
  ⟨none,(some 37),.load 1 false (.t 36)⟩,
  ⟨none,(some 38),.mov (.t 1)⟩,
  ⟨none,(some 39),.idxS 6 (.t 37) (.t 38)⟩,
  ⟨none,(some 40),.fld 2 (.t 39)⟩,
  ⟨none,(some 41),.load 1 false (.t 40)⟩,
  ⟨none,(some 34),.callN (.k (.fn (.func 87) [] [])) [(.t 32),(.t 33)]⟩,
  ⟨none,(some 35),.len (.t 34)⟩,
  ⟨none,(some 42),.bin .sub (.t 35) (.t 41)⟩,
  ⟨none,(some 43),.mm true [(.t 42),(.k (.int .i64 0))]⟩,
  ⟨none,(some 8),.mov (.t 43)⟩])
 (.seq (.region false [⟨none,(some 44),.mov (.t 5)⟩,
  ⟨none,(some 45),.mov (.t 6)⟩,
  ⟨none,(some 46),.mov (.t 7)⟩,
  ⟨none,(some 47),.mov (.t 8)⟩,
  ⟨none,(some 48),.mov (.t 7)⟩,
  ⟨none,(some 49),.len (.t 48)⟩,
  ⟨none,(some 50),.mm false [(.t 47),(.t 49)]⟩,
  ⟨none,(some 51),.slcS 1 (.t 46) none (some (.t 50)) none⟩,
  ⟨none,(some 52),.bsl 1 3 [.nils] [(0,1,(.t 44)),(1,1,(.t 45)),(2,1,(.t 51))]⟩,
  ⟨none,(some 53),.call (.k (.fn (.func 123) [] [])) [(.t 52)]⟩,
  ⟨none,(some 4),.mov (.t 53)⟩])
 .ret)))))))))
 ntmps:=54
 res:=[.tmp 4]
theorem zqgj:zsjc P Tryz.f88=some a88:=by kernel_rfl
def a84:AFn where
 code:=(.seq (.region false [⟨none,(some 6),.mov (.k (.bool false))⟩])
 (.seq (.seq (.region false [⟨none,(some 7),.mov (.t 2)⟩,
  ⟨none,(some 8),.mov (.t 0)⟩,
  ⟨none,(some 9),.bin .geq (.t 7) (.t 8)⟩])
 (.cond (.t 9) (.seq (.region false [⟨none,(some 10),.mov (.t 2)⟩,
  ⟨none,(some 11),.mov (.t 0)⟩,
  ⟨none,(some 12),.bin .sub (.t 10) (.t 11)⟩,
  ⟨none,(some 13),.mov (.t 1)⟩,
  ⟨none,(some 14),.bin .geq (.t 12) (.t 13)⟩,
  ⟨none,(some 6),.mov (.t 14)⟩])
 .ret)
 .skip))
 (.seq (.region false [⟨none,(some 15),.mov (.t 1)⟩,
  ⟨none,(some 16),.bin .lss (.t 15) (.k (.int .i64 0))⟩,
  ⟨none,(some 17),.mov (.t 16)⟩,
  ⟨(some (17,true)),(some 18),.mov (.t 1)⟩,
  ⟨(some (17,true)),(some 19),.mov (.t 0)⟩,
  ⟨(some (17,true)),(some 20),.bin .add (.t 18) (.t 19)⟩,
  ⟨(some (17,true)),(some 21),.mov (.t 2)⟩,
  ⟨(some (17,true)),(some 22),.bin .leq (.t 20) (.t 21)⟩,
  ⟨none,(some 23),.pick (.t 17) (.t 22) (.k (.bool false))⟩,
  ⟨none,(some 6),.mov (.t 23)⟩])
 .ret)))
 ntmps:=24
 res:=[.tmp 6]
theorem z3cy:zsjc P Tryz.f84=some a84:=by kernel_rfl
def zpde:ACode :=
 (.seq (.region false [⟨none,(some 15),.bin .lss (.t 14) (.t 13)⟩])
 (.seq (.cond (.t 15) .skip
 (.exit 0))
 (.seq (.block 1 (.seq (.region false [⟨none,(some 16),.mov (.t 14)⟩,
  ⟨none,(some 17),.idxS 37 (.t 12) (.t 14)⟩,
  ⟨none,(some 18),.load 37 true (.t 17)⟩,
  ⟨none,(some 9),.alloc [(.int .i64 0),(.int .i64 0),(w8 0#8),(w8 0#8),(w8 0#8),(w8 0#8),(w8 0#8),(w8 0#8),(w8 0#8),(w8 0#8),(w8 0#8),(w8 0#8),(w8 0#8),(w8 0#8),(w8 0#8),(w8 0#8),(w8 0#8),(w8 0#8),(w8 0#8),(w8 0#8),(w8 0#8),(w8 0#8),(w8 0#8),(w8 0#8),(w8 0#8),(w8 0#8),(w8 0#8),(w8 0#8),(w8 0#8),(w8 0#8),(w8 0#8),(w8 0#8),(w8 0#8),(w8 0#8),(.int .i64 0),(.int .i64 0),(.int .i64 0)]⟩,
  ⟨none,(some 8),.mov (.t 16)⟩,
  ⟨none,none,.store 37 (.t 9) (.t 18)⟩])
 (.seq (.region false [⟨none,(some 10),.mov (.k (.int .i64 0))⟩])
 (.seq (.seq (.region false [⟨none,(some 19),.mov (.t 8)⟩,
  ⟨none,(some 20),.mov (.t 1)⟩,
  ⟨none,(some 21),.len (.t 20)⟩,
  ⟨none,(some 22),.bin .lss (.t 19) (.t 21)⟩])
 (.cond (.t 22) (.region false [⟨none,(some 23),.mov (.t 1)⟩,
  ⟨none,(some 24),.mov (.t 8)⟩,
  ⟨none,(some 25),.idxS 1 (.t 23) (.t 24)⟩,
  ⟨none,(some 26),.load 1 false (.t 25)⟩,
  ⟨none,(some 10),.mov (.t 26)⟩])
 .skip))
 (.seq (.region false [⟨none,(some 27),.fld 34 (.t 9)⟩,
  ⟨none,(some 28),.load 1 false (.t 27)⟩,
  ⟨none,(some 29),.bin .neq (.t 28) (.k (.int .i64 3))⟩,
  ⟨none,(some 30),.mov (.t 29)⟩,
  ⟨(some (30,true)),(some 31),.fld 36 (.t 9)⟩,
  ⟨(some (30,true)),(some 32),.load 1 false (.t 31)⟩,
  ⟨(some (30,true)),(some 33),.bin .geq (.t 32) (.k (.int .i64 0))⟩,
  ⟨none,(some 34),.pick (.t 30) (.t 33) (.k (.bool false))⟩,
  ⟨none,(some 35),.mov (.t 34)⟩,
  ⟨(some (35,true)),(some 36),.fld 36 (.t 9)⟩,
  ⟨(some (35,true)),(some 37),.load 1 false (.t 36)⟩,
  ⟨(some (35,true)),(some 38),.mov (.t 10)⟩,
  ⟨(some (35,true)),(some 39),.mov (.t 2)⟩,
  ⟨(some (35,true)),(some 40),.call (.k (.fn (.func 84) [] [])) [(.t 37),(.t 38),(.t 39)]⟩,
  ⟨none,(some 41),.pick (.t 35) (.t 40) (.k (.bool false))⟩])
 (.cond (.t 41) (.region false [⟨none,(some 42),.mov (.t 7)⟩,
  ⟨none,(some 43),.fld 0 (.t 9)⟩,
  ⟨none,(some 44),.load 1 false (.t 43)⟩,
  ⟨none,(some 45),.bsl 1 1 [(.int .i64 0)] [(0,1,(.t 44))]⟩,
  ⟨none,(some 46),.app 1 8 (.t 42) (.t 45)⟩,
  ⟨none,(some 7),.mov (.t 46)⟩])
 .skip))))))
 (.region false [⟨none,(some 47),.bin .add (.t 14) (.k (.int .i64 1))⟩,
  ⟨none,(some 14),.mov (.t 47)⟩]))))
def a54:AFn where
 code:=(.seq (.region false [⟨none,(some 3),.box (.t 0)⟩,
  ⟨none,(some 6),.mov (.k .nils)⟩])
 (.seq (.region false [⟨none,(some 7),.mov (.k .nils)⟩])
 (.seq (.seq (.region false [⟨none,(some 11),.fld 1 (.t 3)⟩,
  ⟨none,(some 12),.load 1 false (.t 11)⟩,
  ⟨none,(some 13),.len (.t 12)⟩,
  ⟨none,(some 14),.mov (.k (.int .i64 0))⟩])
 (.block 0 (.loop zpde)))
 (.seq (.region false [⟨none,(some 48),.mov (.t 7)⟩,
  ⟨none,(some 6),.mov (.t 48)⟩])
 .ret))))
 ntmps:=49
 res:=[.tmp 6]
theorem zq4q:zsjc P Tryz.f54=some a54:=by kernel_rfl
def a117:AFn where
 code:=(.region false [⟨none,(some 4),.mov (.t 0)⟩,
  ⟨none,(some 5),.mov (.t 0)⟩,
  ⟨none,(some 6),.len (.t 5)⟩,
  ⟨none,(some 7),.mov (.t 1)⟩,
  ⟨none,(some 8),.call (.k (.fn (.func 133) [] [])) [(.t 4),(.t 6),(.t 7)]⟩])
 ntmps:=9
 res:=[]
theorem zt1q:zsjc P Tryz.f117=some a117:=by kernel_rfl
def zlcx:ACode :=
 (.seq (.seq (.region false [⟨none,(some 11),.mov (.t 8)⟩,
  ⟨none,(some 12),.mov (.t 1)⟩,
  ⟨none,(some 13),.bin .leq (.t 11) (.t 12)⟩])
 (.cond (.t 13) .skip
 (.exit 0)))
 (.block 1 (.seq (.region false [⟨none,(some 14),.mov (.t 0)⟩,
  ⟨none,(some 15),.mov (.t 7)⟩,
  ⟨none,(some 16),.mov (.t 8)⟩,
  ⟨none,(some 17),.mov (.t 2)⟩,
  ⟨none,(some 18),.call (.k (.fn (.func 142) [] [])) [(.t 14),(.t 15),(.t 16),(.t 17)]⟩])
 (.seq (.region false [⟨none,(some 19),.mov (.t 8)⟩,
  ⟨none,(some 7),.mov (.t 19)⟩])
 (.region false [⟨none,(some 20),.mov (.t 8)⟩,
  ⟨none,(some 21),.mov (.t 6)⟩,
  ⟨none,(some 22),.bin .add (.t 20) (.t 21)⟩,
  ⟨none,(some 8),.mov (.t 22)⟩])))))
def zzs8:ACode :=
 (.seq (.seq (.region false [⟨none,(some 33),.mov (.t 8)⟩,
  ⟨none,(some 34),.mov (.t 1)⟩,
  ⟨none,(some 35),.bin .leq (.t 33) (.t 34)⟩])
 (.cond (.t 35) .skip
 (.exit 4)))
 (.block 5 (.seq (.region false [⟨none,(some 36),.mov (.t 0)⟩,
  ⟨none,(some 37),.mov (.t 7)⟩,
  ⟨none,(some 38),.mov (.t 7)⟩,
  ⟨none,(some 39),.mov (.t 6)⟩,
  ⟨none,(some 40),.bin .add (.t 38) (.t 39)⟩,
  ⟨none,(some 41),.mov (.t 8)⟩,
  ⟨none,(some 42),.mov (.t 2)⟩,
  ⟨none,(some 43),.call (.k (.fn (.func 143) [] [])) [(.t 36),(.t 37),(.t 40),(.t 41),(.t 42)]⟩])
 (.seq (.region false [⟨none,(some 44),.mov (.t 8)⟩,
  ⟨none,(some 7),.mov (.t 44)⟩])
 (.region false [⟨none,(some 45),.mov (.t 8)⟩,
  ⟨none,(some 46),.mov (.t 6)⟩,
  ⟨none,(some 47),.bin .mul (.k (.int .i64 2)) (.t 46)⟩,
  ⟨none,(some 48),.bin .add (.t 45) (.t 47)⟩,
  ⟨none,(some 8),.mov (.t 48)⟩])))))
def z4o2:ACode :=
 (.seq (.seq (.region false [⟨none,(some 28),.mov (.t 6)⟩,
  ⟨none,(some 29),.mov (.t 1)⟩,
  ⟨none,(some 30),.bin .lss (.t 28) (.t 29)⟩])
 (.cond (.t 30) .skip
 (.exit 2)))
 (.block 3 (.seq (.region false [⟨none,(some 31),.mov (.t 6)⟩,
  ⟨none,(some 32),.bin .mul (.k (.int .i64 2)) (.t 31)⟩,
  ⟨none,(some 7),.mov (.k (.int .i64 0))⟩,
  ⟨none,(some 8),.mov (.t 32)⟩])
 (.seq (.block 4 (.loop zzs8))
 (.seq (.seq (.region false [⟨none,(some 49),.mov (.t 7)⟩,
  ⟨none,(some 50),.mov (.t 6)⟩,
  ⟨none,(some 51),.bin .add (.t 49) (.t 50)⟩,
  ⟨none,(some 9),.mov (.t 51)⟩])
 (.seq (.region false [⟨none,(some 52),.mov (.t 9)⟩,
  ⟨none,(some 53),.mov (.t 1)⟩,
  ⟨none,(some 54),.bin .lss (.t 52) (.t 53)⟩])
 (.cond (.t 54) (.region false [⟨none,(some 55),.mov (.t 0)⟩,
  ⟨none,(some 56),.mov (.t 7)⟩,
  ⟨none,(some 57),.mov (.t 9)⟩,
  ⟨none,(some 58),.mov (.t 1)⟩,
  ⟨none,(some 59),.mov (.t 2)⟩,
  ⟨none,(some 60),.call (.k (.fn (.func 143) [] [])) [(.t 55),(.t 56),(.t 57),(.t 58),(.t 59)]⟩])
 .skip)))
 (.region false [⟨none,(some 61),.mov (.t 6)⟩,
  ⟨none,(some 62),.bin .mul (.t 61) (.k (.int .i64 2))⟩,
  ⟨none,(some 6),.mov (.t 62)⟩]))))))
def a133:AFn where
 code:=(.seq (.region false [⟨none,(some 6),.mov (.k (.int .i64 20))⟩])
 (.seq (.region false [⟨none,(some 10),.mov (.t 6)⟩,
  ⟨none,(some 7),.mov (.k (.int .i64 0))⟩,
  ⟨none,(some 8),.mov (.t 10)⟩])
 (.seq (.block 0 (.loop zlcx))
 (.seq (.region false [⟨none,(some 23),.mov (.t 0)⟩,
  ⟨none,(some 24),.mov (.t 7)⟩,
  ⟨none,(some 25),.mov (.t 1)⟩,
  ⟨none,(some 26),.mov (.t 2)⟩,
  ⟨none,(some 27),.call (.k (.fn (.func 142) [] [])) [(.t 23),(.t 24),(.t 25),(.t 26)]⟩])
 (.block 2 (.loop z4o2))))))
 ntmps:=63
 res:=[]
theorem zl8e:zsjc P Tryz.f133=some a133:=by kernel_rfl
def zhot:ACode :=
 (.seq (.seq (.region true [⟨none,(some 18),.mov (.t 9)⟩,
  ⟨none,(some 19),.mov (.t 1)⟩,
  ⟨none,(some 20),.bin .gtr (.t 18) (.t 19)⟩,
  ⟨none,(some 21),.mov (.t 20)⟩,
  ⟨(some (21,true)),(some 22),.mov (.t 3)⟩,
  ⟨(some (21,true)),(some 23),.mov (.t 0)⟩,
  ⟨(some (21,true)),(some 24),.mov (.t 9)⟩,
  ⟨(some (21,true)),(some 25),.idxS 1 (.t 23) (.t 24)⟩,
  ⟨(some (21,true)),(some 26),.load 1 false (.t 25)⟩,
  ⟨(some (21,true)),(some 27),.mov (.t 0)⟩,
  ⟨(some (21,true)),(some 28),.mov (.t 9)⟩,
  ⟨(some (21,true)),(some 29),.bin .sub (.t 28) (.k (.int .i64 1))⟩,
  ⟨(some (21,true)),(some 30),.idxS 1 (.t 27) (.t 29)⟩,
  ⟨(some (21,true)),(some 31),.load 1 false (.t 30)⟩,
  ⟨(some (21,true)),(some 32),.callE (.t 22) [(.t 26),(.t 31)]⟩,
  ⟨(some (21,true)),(some 33),.bin .lss (.t 32) (.k (.int .i64 0))⟩,
  ⟨none,(some 34),.pick (.t 21) (.t 33) (.k (.bool false))⟩])
 (.cond (.t 34) .skip
 (.exit 2)))
 (.seq (.block 3 (.region true [⟨none,(some 37),.mov (.t 0)⟩,
  ⟨none,(some 38),.mov (.t 9)⟩,
  ⟨none,(some 39),.mov (.t 0)⟩,
  ⟨none,(some 40),.mov (.t 9)⟩,
  ⟨none,(some 41),.bin .sub (.t 40) (.k (.int .i64 1))⟩,
  ⟨none,(some 42),.mov (.t 0)⟩,
  ⟨none,(some 43),.mov (.t 9)⟩,
  ⟨none,(some 44),.bin .sub (.t 43) (.k (.int .i64 1))⟩,
  ⟨none,(some 45),.idxS 1 (.t 42) (.t 44)⟩,
  ⟨none,(some 46),.load 1 false (.t 45)⟩,
  ⟨none,(some 47),.mov (.t 0)⟩,
  ⟨none,(some 48),.mov (.t 9)⟩,
  ⟨none,(some 49),.idxS 1 (.t 47) (.t 48)⟩,
  ⟨none,(some 50),.load 1 false (.t 49)⟩,
  ⟨none,(some 51),.idxS 1 (.t 37) (.t 38)⟩,
  ⟨none,none,.store 1 (.t 51) (.t 46)⟩,
  ⟨none,(some 52),.idxS 1 (.t 39) (.t 41)⟩,
  ⟨none,none,.store 1 (.t 52) (.t 50)⟩]))
 (.region false [⟨none,(some 35),.mov (.t 9)⟩,
  ⟨none,(some 36),.bin .sub (.t 35) (.k (.int .i64 1))⟩,
  ⟨none,(some 9),.mov (.t 36)⟩])))
def z3nb:ACode :=
 (.seq (.seq (.region false [⟨none,(some 12),.mov (.t 8)⟩,
  ⟨none,(some 13),.mov (.t 2)⟩,
  ⟨none,(some 14),.bin .lss (.t 12) (.t 13)⟩])
 (.cond (.t 14) .skip
 (.exit 0)))
 (.seq (.block 1 (.seq (.region false [⟨none,(some 17),.mov (.t 8)⟩,
  ⟨none,(some 9),.mov (.t 17)⟩])
 (.block 2 (.loop zhot))))
 (.region false [⟨none,(some 15),.mov (.t 8)⟩,
  ⟨none,(some 16),.bin .add (.t 15) (.k (.int .i64 1))⟩,
  ⟨none,(some 8),.mov (.t 16)⟩])))
def a142:AFn where
 code:=(.seq (.region false [⟨none,(some 10),.mov (.t 1)⟩,
  ⟨none,(some 11),.bin .add (.t 10) (.k (.int .i64 1))⟩,
  ⟨none,(some 8),.mov (.t 11)⟩])
 (.block 0 (.loop z3nb)))
 ntmps:=53
 res:=[]
theorem ztmv:zsjc P Tryz.f142=some a142:=by kernel_rfl
def zw44:ACode :=
 (.seq (.seq (.region false [⟨none,(some 7),.mov (.t 2)⟩,
  ⟨none,(some 8),.mov (.t 3)⟩,
  ⟨none,(some 9),.bin .lss (.t 7) (.t 8)⟩])
 (.cond (.t 9) .skip
 (.exit 0)))
 (.seq (.block 1 (.region true [⟨none,(some 14),.mov (.t 0)⟩,
  ⟨none,(some 15),.mov (.t 2)⟩,
  ⟨none,(some 16),.mov (.t 0)⟩,
  ⟨none,(some 17),.mov (.t 3)⟩,
  ⟨none,(some 18),.mov (.t 0)⟩,
  ⟨none,(some 19),.mov (.t 3)⟩,
  ⟨none,(some 20),.idxS 1 (.t 18) (.t 19)⟩,
  ⟨none,(some 21),.load 1 false (.t 20)⟩,
  ⟨none,(some 22),.mov (.t 0)⟩,
  ⟨none,(some 23),.mov (.t 2)⟩,
  ⟨none,(some 24),.idxS 1 (.t 22) (.t 23)⟩,
  ⟨none,(some 25),.load 1 false (.t 24)⟩,
  ⟨none,(some 26),.idxS 1 (.t 14) (.t 15)⟩,
  ⟨none,none,.store 1 (.t 26) (.t 21)⟩,
  ⟨none,(some 27),.idxS 1 (.t 16) (.t 17)⟩,
  ⟨none,none,.store 1 (.t 27) (.t 25)⟩]))
 (.region false [⟨none,(some 10),.mov (.t 2)⟩,
  ⟨none,(some 11),.bin .add (.t 10) (.k (.int .i64 1))⟩,
  ⟨none,(some 12),.mov (.t 3)⟩,
  ⟨none,(some 13),.bin .sub (.t 12) (.k (.int .i64 1))⟩,
  ⟨none,(some 2),.mov (.t 11)⟩,
  ⟨none,(some 3),.mov (.t 13)⟩])))
def a86:AFn where
 code:=(.seq (.region false [⟨none,(some 4),.mov (.t 0)⟩,
  ⟨none,(some 5),.len (.t 4)⟩,
  ⟨none,(some 6),.bin .sub (.t 5) (.k (.int .i64 1))⟩,
  ⟨none,(some 2),.mov (.k (.int .i64 0))⟩,
  ⟨none,(some 3),.mov (.t 6)⟩])
 (.block 0 (.loop zw44)))
 ntmps:=28
 res:=[]
theorem z2i3:zsjc P Tryz.f86=some a86:=by kernel_rfl
def z1ci:ACode :=
 (.seq (.region false [⟨none,(some 12),.bin .lss (.t 11) (.t 10)⟩])
 (.seq (.cond (.t 12) .skip
 (.exit 0))
 (.seq (.block 1 (.seq (.region false [⟨none,(some 13),.idxS 1 (.t 9) (.t 11)⟩,
  ⟨none,(some 14),.load 1 false (.t 13)⟩,
  ⟨none,(some 5),.mov (.t 14)⟩])
 (.seq (.region false [⟨none,(some 15),.mov (.t 3)⟩,
  ⟨none,(some 16),.mov (.t 5)⟩,
  ⟨none,(some 17),.len (.t 16)⟩,
  ⟨none,(some 18),.bin .add (.t 15) (.t 17)⟩,
  ⟨none,(some 3),.mov (.t 18)⟩])
 (.seq (.region false [⟨none,(some 19),.mov (.t 3)⟩,
  ⟨none,(some 20),.bin .lss (.t 19) (.k (.int .i64 0))⟩])
 (.cond (.t 20) (.region false [⟨none,(some 21),.ext (.k .junk) 0⟩,
  ⟨none,none,.ext (.k .junk) 0⟩])
 .skip)))))
 (.region false [⟨none,(some 22),.bin .add (.t 11) (.k (.int .i64 1))⟩,
  ⟨none,(some 11),.mov (.t 22)⟩]))))
def zgnt:ACode :=
 (.seq (.region false [⟨none,(some 28),.bin .lss (.t 27) (.t 26)⟩])
 (.seq (.cond (.t 28) .skip
 (.exit 2))
 (.seq (.block 3 (.seq (.region false [⟨none,(some 29),.idxS 1 (.t 25) (.t 27)⟩,
  ⟨none,(some 30),.load 1 false (.t 29)⟩,
  ⟨none,(some 8),.mov (.t 30)⟩])
 (.region false [⟨none,(some 31),.mov (.t 6)⟩,
  ⟨none,(some 32),.mov (.t 8)⟩,
  ⟨none,(some 33),.app 1 8 (.t 31) (.t 32)⟩,
  ⟨none,(some 6),.mov (.t 33)⟩])))
 (.region false [⟨none,(some 34),.bin .add (.t 27) (.k (.int .i64 1))⟩,
  ⟨none,(some 27),.mov (.t 34)⟩]))))
def a123:AFn where
 code:=(.seq (.region false [⟨none,(some 2),.mov (.k .nils)⟩])
 (.seq (.region false [⟨none,(some 3),.mov (.k (.int .i64 0))⟩])
 (.seq (.seq (.region false [⟨none,(some 9),.mov (.t 0)⟩,
  ⟨none,(some 10),.len (.t 9)⟩,
  ⟨none,(some 11),.mov (.k (.int .i64 0))⟩])
 (.block 0 (.loop z1ci)))
 (.seq (.region false [⟨none,(some 23),.mov (.t 3)⟩,
  ⟨none,(some 24),.call (.k (.fn (.func 136) [] [])) [(.k .nils),(.t 23)]⟩,
  ⟨none,(some 6),.mov (.t 24)⟩])
 (.seq (.seq (.region false [⟨none,(some 25),.mov (.t 0)⟩,
  ⟨none,(some 26),.len (.t 25)⟩,
  ⟨none,(some 27),.mov (.k (.int .i64 0))⟩])
 (.block 2 (.loop zgnt)))
 (.seq (.region false [⟨none,(some 35),.mov (.t 6)⟩,
  ⟨none,(some 2),.mov (.t 35)⟩])
 .ret))))))
 ntmps:=36
 res:=[.tmp 2]
theorem zw8s:zsjc P Tryz.f123=some a123:=by kernel_rfl
def z3a0:ACode :=
 (.seq (.region false [⟨none,(some 9),.bin .lss (.t 8) (.t 7)⟩])
 (.seq (.cond (.t 9) .skip
 (.exit 0))
 (.seq (.block 1 (.seq (.region false [⟨none,(some 10),.idxS 1 (.t 6) (.t 8)⟩,
  ⟨none,(some 11),.load 1 false (.t 10)⟩,
  ⟨none,(some 5),.mov (.t 11)⟩])
 (.seq (.region false [⟨none,(some 12),.mov (.t 5)⟩,
  ⟨none,(some 13),.mov (.t 3)⟩,
  ⟨none,(some 14),.bin .neq (.t 12) (.t 13)⟩])
 (.cond (.t 14) (.seq (.region false [⟨none,(some 15),.mov (.t 5)⟩,
  ⟨none,(some 2),.mov (.t 15)⟩])
 .ret)
 .skip))))
 (.region false [⟨none,(some 16),.bin .add (.t 8) (.k (.int .i64 1))⟩,
  ⟨none,(some 8),.mov (.t 16)⟩]))))
def ziom (x3 x6 x7 x8:DV) (h:List AObj):St:=⟨[.junk,.junk,.junk,x3,.junk,.junk,x6,x7,x8]++js 9,h⟩
def a70:AFn where
 code:=(.seq (.region false [⟨none,(some 2),.mov (.k (.int .i64 0))⟩])
 (.seq (.region false [⟨none,(some 3),.mov (.k (.int .i64 0))⟩])
 (.seq (.seq (.region false [⟨none,(some 6),.mov (.t 0)⟩,
  ⟨none,(some 7),.len (.t 6)⟩,
  ⟨none,(some 8),.mov (.k (.int .i64 0))⟩])
 (.block 0 (.loop z3a0)))
 (.seq (.region false [⟨none,(some 17),.mov (.t 3)⟩,
  ⟨none,(some 2),.mov (.t 17)⟩])
 .ret))))
 ntmps:=18
 res:=[.tmp 2]
theorem zhcw:zsjc P Tryz.f70=some a70:=by kernel_rfl
def a71:AFn where
 code:=(.seq (.region false [⟨none,(some 4),.mov (.k (.int .i64 0))⟩])
 (.seq (.region false [⟨none,(some 7),.mov (.t 0)⟩,
  ⟨none,(some 8),.call (.k (.fn (.func 101) [] [])) [(.t 7)]⟩,
  ⟨none,(some 5),.mov (.t 8)⟩])
 (.seq (.region false [⟨none,(some 9),.mov (.t 1)⟩,
  ⟨none,(some 10),.call (.k (.fn (.func 101) [] [])) [(.t 9)]⟩,
  ⟨none,(some 6),.mov (.t 10)⟩])
 (.seq (.seq (.region false [⟨none,(some 11),.mov (.t 5)⟩])
 (.cond (.t 11) (.seq (.seq (.region false [⟨none,(some 12),.mov (.t 6)⟩])
 (.cond (.t 12) (.seq (.region false [⟨none,(some 4),.mov (.k (.int .i64 0))⟩])
 .ret)
 .skip))
 (.seq (.region false [⟨none,(some 4),.mov (.k (.int .i64 (-1)))⟩])
 .ret))
 .skip))
 (.seq (.seq (.region false [⟨none,(some 13),.mov (.t 6)⟩])
 (.cond (.t 13) (.seq (.region false [⟨none,(some 4),.mov (.k (.int .i64 1))⟩])
 .ret)
 .skip))
 (.seq (.seq (.region false [⟨none,(some 14),.mov (.t 0)⟩,
  ⟨none,(some 15),.mov (.t 1)⟩,
  ⟨none,(some 16),.bin .lss (.t 14) (.t 15)⟩])
 (.cond (.t 16) (.seq (.region false [⟨none,(some 4),.mov (.k (.int .i64 (-1)))⟩])
 .ret)
 .skip))
 (.seq (.seq (.region false [⟨none,(some 17),.mov (.t 0)⟩,
  ⟨none,(some 18),.mov (.t 1)⟩,
  ⟨none,(some 19),.bin .gtr (.t 17) (.t 18)⟩])
 (.cond (.t 19) (.seq (.region false [⟨none,(some 4),.mov (.k (.int .i64 1))⟩])
 .ret)
 .skip))
 (.seq (.region false [⟨none,(some 4),.mov (.k (.int .i64 0))⟩])
 .ret))))))))
 ntmps:=20
 res:=[.tmp 4]
theorem zbtg:zsjc P Tryz.f71=some a71:=by kernel_rfl
def a119:AFn where
 code:=(.seq (.region false [⟨none,(some 4),.mov (.k (.int .i64 0))⟩])
 (.seq (.region false [⟨none,(some 7),.mov (.t 0)⟩,
  ⟨none,(some 8),.call (.k (.fn (.func 134) [] [])) [(.t 7)]⟩,
  ⟨none,(some 5),.mov (.t 8)⟩])
 (.seq (.region false [⟨none,(some 9),.mov (.t 1)⟩,
  ⟨none,(some 10),.call (.k (.fn (.func 134) [] [])) [(.t 9)]⟩,
  ⟨none,(some 6),.mov (.t 10)⟩])
 (.seq (.seq (.region false [⟨none,(some 11),.mov (.t 5)⟩])
 (.cond (.t 11) (.seq (.seq (.region false [⟨none,(some 12),.mov (.t 6)⟩])
 (.cond (.t 12) (.seq (.region false [⟨none,(some 4),.mov (.k (.int .i64 0))⟩])
 .ret)
 .skip))
 (.seq (.region false [⟨none,(some 4),.mov (.k (.int .i64 (-1)))⟩])
 .ret))
 .skip))
 (.seq (.seq (.region false [⟨none,(some 13),.mov (.t 6)⟩])
 (.cond (.t 13) (.seq (.region false [⟨none,(some 4),.mov (.k (.int .i64 1))⟩])
 .ret)
 .skip))
 (.seq (.seq (.region false [⟨none,(some 14),.mov (.t 0)⟩,
  ⟨none,(some 15),.mov (.t 1)⟩,
  ⟨none,(some 16),.bin .lss (.t 14) (.t 15)⟩])
 (.cond (.t 16) (.seq (.region false [⟨none,(some 4),.mov (.k (.int .i64 (-1)))⟩])
 .ret)
 .skip))
 (.seq (.seq (.region false [⟨none,(some 17),.mov (.t 0)⟩,
  ⟨none,(some 18),.mov (.t 1)⟩,
  ⟨none,(some 19),.bin .gtr (.t 17) (.t 18)⟩])
 (.cond (.t 19) (.seq (.region false [⟨none,(some 4),.mov (.k (.int .i64 1))⟩])
 .ret)
 .skip))
 (.seq (.region false [⟨none,(some 4),.mov (.k (.int .i64 0))⟩])
 .ret))))))))
 ntmps:=20
 res:=[.tmp 4]
theorem zaj0:zsjc P Tryz.f119=some a119:=by kernel_rfl
def a101:AFn where
 code:=(.seq (.region false [⟨none,(some 2),.mov (.k (.bool false))⟩])
 (.seq (.region false [⟨none,(some 3),.mov (.t 0)⟩,
  ⟨none,(some 4),.mov (.t 0)⟩,
  ⟨none,(some 5),.bin .neq (.t 3) (.t 4)⟩,
  ⟨none,(some 2),.mov (.t 5)⟩])
 .ret))
 ntmps:=6
 res:=[.tmp 2]
theorem zzmu:zsjc P Tryz.f101=some a101:=by kernel_rfl
def a134:AFn where
 code:=(.seq (.region false [⟨none,(some 2),.mov (.k (.bool false))⟩])
 (.seq (.region false [⟨none,(some 3),.mov (.t 0)⟩,
  ⟨none,(some 4),.mov (.t 0)⟩,
  ⟨none,(some 5),.bin .neq (.t 3) (.t 4)⟩,
  ⟨none,(some 2),.mov (.t 5)⟩])
 .ret))
 ntmps:=6
 res:=[.tmp 2]
theorem zccp:zsjc P Tryz.f134=some a134:=by kernel_rfl
end
section
set_option linter.unusedSimpArgs false
set_option linter.unusedVariables false
open Go Go.Am
inductive W5 where
 | live|good|den|rep|spare
def W5.fid:W5→Nat
 | .live=>116
 | .good=>113
 | .den=>115
 | .rep=>121
 | .spare=>122
def W5.sel:W5→Grp→Ins→Bool
 | .live=>z6db
 | .good=>z9qu
 | .den=>sDen
 | .rep=>sRep
 | .spare=>z7e4
theorem W5.inj {a b:W5} (h:a.fid=b.fid):a=b:=by cases a<;>cases b<;>first|rfl|(simp [W5.fid] at h)
def cmpI (a b:Int):Int:=if a<b then -1 else if b<a then 1 else 0
def orI (a b:Int):Int:=if a=0 then b else a
noncomputable def cNaN:List DV→Option DV:=con (fun _=>True) (fun a:Int=>[.int .i64 a]) (fun _ => .bool false)
theorem z0kw {a:Int}:cNaN [.int .i64 a]=some (.bool false) :=
 zsn4 (f:=fun a:Int=>[.int .i64 a]) (g:=fun _ => .bool false) (by intro a b e; simpa using e) a
theorem zimq (a:Int):Runs tbl0 a134 [.int .i64 a] (.bool false):=by
 refine ⟨?_⟩
 simp (disch:=first|omega|simp<;>omega|fail) [-zA,-zB,-zC,-zD,-zE,a134]
theorem zc8m (a:Int):Runs tbl0 a101 [.int .i64 a] (.bool false):=by
 refine ⟨?_⟩
 simp (disch:=first|omega|simp<;>omega|fail) [-zA,-zB,-zC,-zD,-zE,a101]
noncomputable def T203:Tbl:=addT 134 (.pure cNaN) (addT 101 (.pure cNaN) tbl0)
theorem z43x:T203 101 = .pure cNaN:=by simp [T203]
theorem ztzm:T203.Sound P:=z0rp (z2au fun a _=>zljw mix zr5o Tryz.func134 zccp (zimq a)) (z0rp (z2au fun a _=>zljw mix zr5o Tryz.func101 zzmu (zc8m a)) zr5o)
noncomputable def cII (f:Int→Int→DV):List DV→Option DV:=con (fun _=>True) (fun a:Int × Int=>[.int .i64 a.1,.int .i64 a.2]) (fun a=>f a.1 a.2)
theorem zmei {f:Int→Int→DV} {a b:Int}:cII f [.int .i64 a,.int .i64 b]=some (f a b) :=
 zsn4 (f:=fun a:Int × Int=>[.int .i64 a.1,.int .i64 a.2]) (g:=fun a=>f a.1 a.2) (by
  rintro ⟨a,b⟩ ⟨c,d⟩ e
  simp only [List.cons.injEq,DV.int.injEq,and_true,true_and] at e
  rw [e.1,e.2]) (a,b)
theorem zcof (a b:Int):Runs T203 a71 [.int .i64 a,.int .i64 b] (.int .i64 (cmpI a b)):=by
 refine ⟨?_⟩
 by_cases h:a<b
 ·simp (disch:=first|omega|simp<;>omega|fail) [-zA,-zB,-zC,-zD,-zE,a71,z43x,z0kw,cmpI,h]
 ·by_cases h':b<a
  ·simp (disch:=first|omega|simp<;>omega|fail) [-zA,-zB,-zC,-zD,-zE,a71,z43x,z0kw,cmpI,h,h']
  ·simp (disch:=first|omega|simp<;>omega|fail) [-zA,-zB,-zC,-zD,-zE,a71,z43x,z0kw,cmpI,h,h']
noncomputable def cOr:List DV→Option DV:=con (fun _=>True) (fun a:Int × Int=>[.sl true 1 2 [.int .i64 a.1,.int .i64 a.2]]) (fun a => .int .i64 (orI a.1 a.2))
theorem z68y {a b:Int}:cOr [.sl true 1 2 [.int .i64 a,.int .i64 b]]=some (.int .i64 (orI a b)) :=
 zsn4 (f:=fun a:Int × Int=>[.sl true 1 2 [.int .i64 a.1,.int .i64 a.2]]) (g:=fun a => .int .i64 (orI a.1 a.2)) (by
  rintro ⟨a,b⟩ ⟨c,d⟩ e
  simp only [List.cons.injEq,DV.sl.injEq,DV.int.injEq,and_true,true_and] at e
  rw [e.1,e.2]) (a,b)
def S204 (a b:Int) (i:Nat):St:=ziom (.int .i64 0) (.sl true 1 2 [.int .i64 a,.int .i64 b]) (.int .i64 2) (.int .i64 i) []
theorem z5l8 (a b:Int):Runs tbl0 a70 [.sl true 1 2 [.int .i64 a,.int .i64 b]] (.int .i64 (orI a b)):=by
 refine ⟨?_⟩
 simp (disch:=first|omega|simp<;>omega|fail) [-zA,-zB,-zC,-zD,-zE,a70]
 refine zlm5 (S204 a b) (fun i=>2-i) (fun i=>i≤2∧(0<i→a=0)∧(1<i→b=0)) 0 (z515 (by simp (disch:=first|omega|simp<;>omega|fail) [-zA,-zB,-zC,-zD,-zE]) (by simp (disch:=first|omega|simp<;>omega|fail) [-zA,-zB,-zC,-zD,-zE])) ⟨by omega,fun h=>by omega,fun h=>by omega⟩ (fun i hi => ?_)
 obtain ⟨h1,h2,h3⟩:=hi
 simp (disch:=first|omega|simp<;>omega|fail) [-zA,-zB,-zC,-zD,-zE,z3a0,ziom,S204]
 rcases (show i=0∨i=1∨i=2 by omega) with rfl|rfl|rfl
 ·by_cases e:a=0
  ·simp (disch:=first|omega|simp<;>omega|fail) [-zA,-zB,-zC,-zD,-zE,e]
   refine ⟨1,z515 (by simp (disch:=first|omega|simp<;>omega|fail) [-zA,-zB,-zC,-zD,-zE]) (by simp (disch:=first|omega|simp<;>omega|fail) [-zA,-zB,-zC,-zD,-zE]),?_⟩
   simp [e]
  ·simp (disch:=first|omega|simp<;>omega|fail) [-zA,-zB,-zC,-zD,-zE,e,orI]
 ·have ha:=h2 (by omega)
  by_cases e:b=0
  ·simp (disch:=first|omega|simp<;>omega|fail) [-zA,-zB,-zC,-zD,-zE,e]
   refine ⟨2,z515 (by simp (disch:=first|omega|simp<;>omega|fail) [-zA,-zB,-zC,-zD,-zE]) (by simp (disch:=first|omega|simp<;>omega|fail) [-zA,-zB,-zC,-zD,-zE]),?_⟩
   simp [e,ha]
  ·simp (disch:=first|omega|simp<;>omega|fail) [-zA,-zB,-zC,-zD,-zE,e,orI,ha]
 ·have ha:=h2 (by omega)
  have hb:=h3 (by omega)
  simp (disch:=first|omega|simp<;>omega|fail) [-zA,-zB,-zC,-zD,-zE,orI,ha,hb]
end
section
set_option linter.unusedSimpArgs false
set_option linter.unusedVariables false
open Go Go.Am
structure DSi where
 i:Nat
 l:List Ins
end
section
set_option linter.unusedSimpArgs false
set_option linter.unusedVariables false
open Go Go.Am
def liV (l:List Int):DV:=if l=[] then .nils else .sl false 1 l.length (l.flatMap inI)
theorem zxxz:liV [] = .nils:=rfl
theorem zefw {l:List Int} (h:l≠[]):liV l = .sl false 1 l.length (l.flatMap inI):=if_neg h
theorem z4yh (l:List Int):zyp8 (liV l)=true:=by
 unfold liV; split
 ·rfl
 ·show zbao _=true; exact zp6k zyj0 l
theorem zo8b (H:List AObj) (l:List Int):lenD H (liV l)=some (.int .i64 l.length):=by
 unfold liV; split
 ·rename_i h; subst h; rfl
 ·rfl
theorem zj6i (l:List Int):(liV l).one=true:=by unfold liV; split<;>rfl
theorem z2h8 (l:List Int):(liV l).known=true:=by unfold liV; split<;>rfl
theorem zf8a (l:List Int):(liV l).cells=[liV l]:=by unfold liV; split<;>rfl
theorem zuw8 (n k:Nat) (H:List AObj) (l:List Int):fz n H k (liV l)=some (liV l):=zqge (z4yh l)
theorem zzkh (k:Nat) (H:List AObj) (l:List Int):snap H k (liV l)=some (liV l):=z6nl (z4yh l)
theorem zlhx (n:Nat) (l:List Int):Am.below n (liV l)=true:=z8b8 n _ (z4yh l)
attribute [simp] z4yh zo8b zj6i z2h8 zf8a zuw8 zzkh zlhx
def zb68 (g:Grp):Prop:=(-1000000000≤g.want∧g.want≤1000000000)∧(-1000000000≤g.least∧g.least≤1000000000) ∧ -1000000000≤g.down∧g.down≤1000000000
end
section
set_option linter.unusedSimpArgs false
set_option linter.unusedVariables false
open Go Go.Am
end
section
set_option linter.unusedSimpArgs false
set_option linter.unusedVariables false
set_option maxRecDepth 4000
open Go Go.Am
theorem zjj2 {pre l:List AObj} {ver:Nat}:objV (pre++l) pre.length ver=objV l 0 ver:=by
 unfold objV ziu0; rw [List.getElem?_append_right (by omega),y0h]
theorem zxft {pre l:List AObj} {o:AObj}:(pre++l).set pre.length o=pre++l.set 0 o:=by rw [y0g _ _ (by omega)]; simp
structure IP where
 A:List Int
 B:List Int
theorem zmgd {lt:Int→Int→Bool} (l:List Int):(zxu4 lt l).length=l.length:=(zo43 l).length_eq
end
section
set_option linter.unusedSimpArgs false
set_option linter.unusedVariables false
open Go Go.RowKit Go.Am
theorem zupw:(P.info? 3).map (fun i=>(i.zero,i.size,i.bytes))=some (some (.int .i64 0),1,8):=by kernel_rfl
set_option maxRecDepth 100000 in
theorem z4t9 (w:World):Calls Tryz.prog 136 #[.slice none 0 0,.int .i64 0] w fun e w'=>e = .returned (.slice none 0 0)∧w'=w:=by
 go_enter Tryz.func136,Tryz.ntmps136
 go_wp2
 go_ret
 exact ⟨rfl,rfl⟩
set_option maxRecDepth 100000 in
theorem zv1e (n:Nat) (w:World) (hn:1≤n) (hb:n≤1000000):Calls Tryz.prog 136 #[.slice none 0 0,.int .i64 n] w fun e w' =>
  ∃ cap,n≤cap∧e = .returned (.slice (some ⟨w.heap.size,0,none⟩) 0 cap)∧w'=w.drew.alloc (.cells (Builtin.zeroCells (Value.int .i64 0).cells n++Builtin.zeroCells (Value.int .i64 0).cells (cap-n)) 3):=by
 obtain ⟨i0,hi,hz0,hz1,hz2⟩:=info_parts zupw
 have happ:=Lib.run_append_nil_zeros (P:=P) w 22 3 22 3 i0 (.int .i64 0) .i64 .i64 Tryz.underlying22 Tryz.underlying3 hi hz0 n (by omega) (by omega) (by omega) (by rw [hz2]; omega)
 generalize hcap:grownCap w n 0 3=cap2 at happ
 have hcapge:n≤cap2:=by rw [← hcap]; exact grownCap_ge w _ 0 3
 generalize hZ:(Builtin.zeroCells (Value.int .i64 0).cells n++Builtin.zeroCells (Value.int .i64 0).cells (cap2-n))=Z at happ
 go_enter Tryz.func136,Tryz.ntmps136
 go_wp2_with (at_builtin; refine Lib.wpList_append_run _ rfl _ _ _ _ rfl _ _ rfl rfl _ _ happ ?_)
 go_wp2
 go_ret
 exact ⟨cap2,hcapge,rfl,by rw [hZ]; rfl⟩
def z8h2 (p n:Nat):DV:=if n=0 then .nils else .ms p n 0 1 0 n
def zuiy (n:Nat):List AObj:=if n=0 then [] else [.cells (reps n [.int .i64 0])]
theorem zfbw (n:Nat):(reps n [DV.int .i64 0]).length=n:=by
 induction n with
 | zero=>rfl
 | succ n ih=>simp only [reps,y06,ih]; simp; try omega
theorem z58y (n:Nat) (hb:n≤1000000):zwy1 P 136 [.nils,.int .i64 n] [] (fun d h=>d=z8h2 0 n∧h=zuiy n):=by
 refine fun X0 base w E vs hh hr => ?_
 obtain ⟨v1,v2,hv⟩ : ∃ v1 v2,vs = #[v1,v2]:=by
  have h1:vs.toList.length=2:=hr.1
  match hq:vs.toList,h1 with
  | [v1,v2],_=>exact ⟨v1,v2,Array.ext' (by simpa using hq)⟩
 subst hv
 have r1:Rep E (FX X0 E) w v1 .nils:=hr.2 0 (by simp) (by simp)
 have r2:Rep E (FX X0 E) w v2 (.int .i64 n):=hr.2 1 (by simp) (by simp)
 cases r1
 cases r2
 refine Does.of_ent (z36x Tryz.func136 (by kernel_rfl) rfl) ?_
 by_cases h0:n=0
 ·subst h0
  refine (z4t9 w).mono ?_
  rintro e w' ⟨rfl,rfl⟩
  exact ⟨_,.nils,[],E,rfl,⟨rfl,rfl⟩,hh,.nils,.refl _ _ _ _⟩
 ·refine (zv1e n w (by omega) hb).mono ?_
  rintro e w' ⟨cap,hc,rfl,rfl⟩
  have hz : ∀ (E:Env) (X:Forb) (w:World),RepA E X w (Value.int .i64 0).cells.toList [.int .i64 0]:=fun E X w=>by
   refine ⟨rfl,fun i h1 h2 => ?_⟩
   have:i=0:=by simp at h2; omega
   subst this
   exact .int _ _
  have hR:=zr6e (hz E (FX X0 E) w.drew) (s:=1) rfl (by decide) n
  have hn:=zkum hh.drew hR (Builtin.zeroCells (Value.int .i64 0).cells (cap-n)).toList 3
  have he:((Builtin.zeroCells (Value.int .i64 0).cells n).toList++(Builtin.zeroCells (Value.int .i64 0).cells (cap-n)).toList).toArray=Builtin.zeroCells (Value.int .i64 0).cells n++Builtin.zeroCells (Value.int .i64 0).cells (cap-n):=by apply Array.ext'; simp
  rw [he] at hn
  have hE:E=[]:=List.eq_nil_of_length_eq_zero (by simpa using hh.len)
  subst hE
  refine ⟨_,.ms 0 n 0 1 0 n,[.cells (reps n [.int .i64 0])],_,rfl,⟨by simp [z8h2,h0],by simp [zuiy,h0]⟩,hn.1,?_,(zjji X0 base [] w).trans hn.2⟩
  have hl:=zfbw n
  have hs:(Builtin.zeroCells (Value.int .i64 0).cells n++Builtin.zeroCells (Value.int .i64 0).cells (cap-n)).size=cap:=by
   simp [zle2,Value.cells]; omega
  exact z6v0 (b:=w.drew.heap.size) (L:=(reps n [DV.int .i64 0]).length) (arr:=Builtin.zeroCells (Value.int .i64 0).cells n++Builtin.zeroCells (Value.int .i64 0).cells (cap-n)) (t:=3) (by simp) hl.symm (heap_alloc_new w.drew _) (by omega) (by omega) (fun _=>rfl) (by omega) (by rw [hs]; omega)
end
section
set_option linter.unusedSimpArgs false
set_option linter.unusedVariables false
open Go Go.Am
def srtV (p:Nat) (l:List Int):DV:=if l=[] then .nils else .ms p l.length 0 1 l.length l.length
theorem zh11 {p:Nat}:srtV p [] = .nils:=rfl
theorem zgky {p:Nat} {l:List Int} (h:l≠[]):srtV p l = .ms p l.length 0 1 l.length l.length:=if_neg h
structure SrtOK (a:Clu × List AObj × List Int):Prop where
 h : ∀ X,objV (a.2.1++X) 0 3=some (clC a.1)
 l : ∀ x ∈ a.2.2,0≤z092 a.1.i.l x
 b:a.2.2.length≤19
theorem SrtOK.c {a b:Clu × List AObj × List Int} (h1:SrtOK a) (h2:SrtOK b) (e:a.2.1=b.2.1):a.1=b.1:=by
 have q1:=h1.h []
 have q2:=h2.h []
 rw [e,q2] at q1
 exact zh7t (Option.some.inj q1).symm
end
section
set_option linter.unusedSimpArgs false
set_option linter.unusedVariables false
open Go Go.Am
structure RS where
 i:Nat
 j:Nat
 L:List Int
structure RInv (l:List Int) (n:Nat) (a:RS):Prop where
 s:a.i+a.j+1=n
 ln:a.L.length=n
 g : ∀ k,k<n→a.L[k]? = if k<a.i∨a.j<k then l[n-1-k]? else l[k]?
end
section
set_option linter.unusedSimpArgs false
set_option linter.unusedVariables false
open Go Go.Am
structure VisL (h:List AObj) (x:DV) (l:List Int):Prop where
 len : ∀ X,lenD (h++X) x=some (.int .i64 l.length)
 vis : ∀ X,visY (h++X) x=some (l.length,l.map (.int .i64))
 oneC:x.one=true
structure CA where
 h:List AObj
 x:DV
 y:DV
 z:DV
 lx:List Int
 ly:List Int
 lz:List Int
structure CAOK (a:CA):Prop where
 x:VisL a.h a.x a.lx
 y:VisL a.h a.y a.ly
 z:VisL a.h a.z a.lz
 b:a.lx.length+a.ly.length+a.lz.length≤1000000
end
section
set_option linter.unusedSimpArgs false
set_option linter.unusedVariables false
open Go Go.Am
structure VicOK (c:Clu):Prop where
 n:c.i.l.length≤19
 l : ∀ g ∈ c.g.l,zb68 g
end
section
set_option linter.unusedSimpArgs false
set_option linter.unusedVariables false
open Go Go.Am
theorem ziny (H:List AObj) (x:Nl):lenD H x.dv=some (.int .i64 x.l.length):=zwhz ⟨x.k,x.l,x.h,0⟩ H
theorem zhx7 (x:Nl):x.dv.one=true:=zxr4 ⟨x.k,x.l,x.h,0⟩
theorem zxy5 (x:Nl):x.dv.known=true:=zn8z ⟨x.k,x.l,x.h,0⟩
theorem ztqv (x:Nl):x.dv.cells=[x.dv]:=zymw ⟨x.k,x.l,x.h,0⟩
theorem zdvk {n:Nat} {x:Nl}:Am.below n x.dv=true:=z8b8 n _ (zkx7 x)
attribute [simp] zdvk ziny zhx7 zxy5 ztqv zkx7
def okT (t:Int):Prop := -2199023255552≤t∧t≤2199023255552
def ok64 (n:Int):Prop := -9223372036854775808≤n∧n≤9223372036854775807
theorem z9p7 {gr:List Int} {t:Int} : ∀ {l:List Ins} {j:Nat},(ze9z l j gr t).length≤l.length
 | [],_=>by simp [ze9z]
 | x::l,j=>by
  have:=z9p7 (gr:=gr) (t:=t) (l:=l) (j:=j+1)
  rw [ze9z]
  split<;>simp<;>omega
structure OvOK (a:Clu × Nl × Int):Prop where
 d : ∀ x ∈ a.1.i.l,okT x.den
 g : ∀ n ∈ a.2.1.l,ok64 n
 t:okT a.2.2
structure OS where
 i:Nat
 L:List Int
 x:Ins
def ovH (c:Clu) (a:OS):List AObj:=if a.L=[] then [.cells (clC c)] else [.cells (clC c),.cells (inC a.x),.cells (a.L.map (.int .i64))]
end
section
set_option linter.unusedSimpArgs false
set_option linter.unusedVariables false
open Go Go.Am
end
section
set_option linter.unusedSimpArgs false
set_option linter.unusedVariables false
open Go Go.Am
def LimC (c:Clu):Prop := ∀ g ∈ c.g.l,zb68 g
def GE:DV := .sl true 6 1 [.str [97],.str [98],.int .i64 3,.int .i64 2,.int .i64 1,.sl true 32 1 (dgC (dgW 1#8))]
def hE1:List AObj:=[.cells [GE,.ms 1 37 0 37 1 37,.int .i64 5],.cells (inC ⟨1,0,(dgW 1#8),2,0,-1⟩)]
noncomputable def cTru:List DV→Option DV
 | []=>some (.bool true)|_=>none
theorem zi1x {f:Nat} (h:Am.Sem P f [] (.bool true)):(Con.pure cTru).Sound P f:=by
 intro args v e
 unfold cTru at e
 split at e
 ·simp at e; subst e; exact h
 ·simp at e
end
section
set_option linter.unusedSimpArgs false
set_option linter.unusedVariables false
open Go Go.Am
theorem zty1 (ng:Nat) : ∀ (k:Nat) (l:List Ins) (n:Int) (t:Tp),(zgc4 ng k l n t).2.2.at_≤t.at_+7*k
 | 0,l,n,t=>by simp [zgc4]
 | k+1,l,n,t=>by
  have h1:=zty1 ng k (l++[iIns ng n t]) (n+(1+tpN (iTp ng t) 2)) ((iTp ng t).adv 1)
  have h2:=zjgn ng t
  show (zgc4 ng k (l++[iIns ng n t]) (n+(1+tpN (iTp ng t) 2)) ((iTp ng t).adv 1)).2.2.at_≤_
  have h3:((iTp ng t).adv 1).at_=(iTp ng t).at_+1:=rfl
  omega
theorem z2ep (t:Tp) (m:Int) (h0:0≤m) (h1:m≤200):(zcpt t m).2.at_≤t.at_+2000:=by
 have m1:=z4rs (clD t).2 (m+1)
 have m2:=z2s7 (clD t).2 (n:=m+1) (by omega)
 have h2:=zty1 (clD t).1.g.l.length (tpN (clD t).2 (m+1)).toNat [] (clD t).1.next ((clD t).2.adv 1)
 have h3:((clD t).2.adv 1).at_=(clD t).2.at_+1:=rfl
 have q1:=z4rs (t.adv 1) 2
 have q2:=z2s7 (t.adv 1) (n:=2) (by omega)
 have h4:(clD t).2.at_≤t.at_+2+15*((tpN (t.adv 1) 2).toNat+1):=zkcx _ _ _
 show (zgc4 (clD t).1.g.l.length (tpN (clD t).2 (m+1)).toNat [] (clD t).1.next ((clD t).2.adv 1)).2.2.at_≤_
 omega
theorem zukg (t:Tp) (m:Int) (h0:0≤m) (h1:m≤200):(zcpt t m).1.i.l.length≤m:=by
 obtain ⟨hc,hg⟩:=zfm1 t
 have m1:=z4rs (clD t).2 (m+1)
 have m2:=z2s7 (clD t).2 (n:=m+1) (by omega)
 have hgl:1≤(clD t).1.g.l.length:=y04.2 hg
 obtain ⟨-,-,-,k4⟩:=zc7j hgl (tpN (clD t).2 (m+1)).toNat [] (clD t).1.next ((clD t).2.adv 1) hc.n0 ⟨by simp,by simp⟩
 have hI:clI t m=zgc4 (clD t).1.g.l.length (tpN (clD t).2 (m+1)).toNat [] (clD t).1.next ((clD t).2.adv 1):=rfl
 rw [← hI] at k4
 have hil:(zcpt t m).1.i.l=(clI t m).1:=by
  simp only [zcpt]
  split
  ·rename_i e; rw [e]; rfl
  ·exact z3e9 (by rw [k4]; simp; omega)
 rw [hil,k4]; simp; omega
theorem zo0d {c:Clu} (hv:ValidC c):LimC c:=fun g hg=>by
 obtain ⟨i,hi,rfl⟩:=y0b hg
 have h:=(hv.g i hi).1
 exact ⟨⟨by have:=h.w0; omega,by have:=h.w1; omega⟩,⟨by have:=h.l0; omega,by have:=h.l1; have:=h.w1; omega⟩,by have:=h.d0; omega,by have:=h.d1; have:=h.w1; omega⟩
theorem zt0b {c:Clu} (hv:ValidC c) (h:c.i.l.length≤19):VicOK c:=⟨h,zo0d hv⟩
end
section
set_option linter.unusedSimpArgs false
set_option linter.unusedVariables false
open Go Go.Am
end
section
set_option linter.unusedSimpArgs false
set_option linter.unusedVariables false
open Go Go.Am
def zumm:ACode :=
 (.seq (.seq (.region false [⟨none,(some 7),.mov (.t 6)⟩,
  ⟨none,(some 8),.fld 1 (.t 3)⟩,
  ⟨none,(some 9),.load 1 false (.t 8)⟩,
  ⟨none,(some 10),.len (.t 9)⟩,
  ⟨none,(some 11),.bin .lss (.t 7) (.t 10)⟩])
 (.cond (.t 11) .skip
 (.exit 0)))
 (.seq (.block 1 (.region false [⟨none,(some 14),.mov (.t 5)⟩,
  ⟨none,(some 15),.mov (.t 0)⟩,
  ⟨none,(some 16),.call (.k (.fn (.func 13) [] [])) [(.t 15),(.k (.int .i64 25))]⟩,
  ⟨none,(some 17),.bsl 1 1 [(.int .i64 0)] [(0,1,(.t 16))]⟩,
  ⟨none,(some 18),.app 1 8 (.t 14) (.t 17)⟩,
  ⟨none,(some 5),.mov (.t 18)⟩]))
 (.region false [⟨none,(some 12),.mov (.t 6)⟩,
  ⟨none,(some 13),.bin .add (.t 12) (.k (.int .i64 1))⟩,
  ⟨none,(some 6),.mov (.t 13)⟩])))
def z96a (x0 x3 x5 x6:DV) (h:List AObj):St:=⟨[x0,.junk,.junk,x3,.junk,x5,x6]++js 13,h⟩
def a41:AFn where
 code:=(.seq (.region false [⟨none,(some 3),.box (.t 1)⟩,
  ⟨none,(some 4),.mov (.k .nils)⟩])
 (.seq (.region false [⟨none,(some 5),.mov (.k .nils)⟩])
 (.seq (.seq (.region false [⟨none,(some 6),.mov (.k (.int .i64 0))⟩])
 (.block 0 (.loop zumm)))
 (.seq (.region false [⟨none,(some 19),.mov (.t 5)⟩,
  ⟨none,(some 4),.mov (.t 19)⟩])
 .ret))))
 ntmps:=20
 res:=[.tmp 4]
theorem z5y8:zsjc P Tryz.f41=some a41:=by kernel_rfl
end
section
set_option linter.unusedSimpArgs false
set_option linter.unusedVariables false
open Go Go.Am
end
section
set_option linter.unusedSimpArgs false
set_option linter.unusedVariables false
open Go Go.Am
end
section
set_option linter.unusedSimpArgs false
set_option linter.unusedVariables false
open Go Go.Am
end
section
set_option linter.unusedSimpArgs false
set_option linter.unusedVariables false
open Go Go.Am
def graL (t:Tp) (n:Nat):List Int:=(List.range n).map fun i=>tpN (t.adv i) 25
theorem zw91 {t:Tp} {n:Nat}:graL t (n+1)=graL t n++[tpN (t.adv n) 25]:=by simp [graL,List.range_succ]
theorem zuov {t:Tp} {n:Nat}:(graL t n).length=n:=by simp [graL]
theorem z3e0 {t:Tp} {n:Nat} {x:Int} (h:x ∈ graL t n):0≤x∧x<25:=by
 obtain ⟨i,_,rfl⟩:=List.mem_map.1 h
 exact ⟨z4rs _ _,z2s7 _ (by decide)⟩
noncomputable def T290:Tbl:=addT 13 (.tch z1m3) tbl0
theorem zsmr:T290 13 = .tch z1m3:=by simp [T290]
theorem zgkm:T290.Sound P:=z0rp z51e zr5o
theorem zzdw {l:List Int} {o x:AObj} {y:Int} (hl:0<l.length) (hb:l.length<4294967296):appX [o,x,.cells (l.map (.int .i64))] 1 8 (.ms 2 l.length 0 1 l.length l.length) 1 [.int .i64 y]=some (.ms 2 (l.length+1) 0 1 (l.length+1) (l.length+1),[o,x,.cells ((l++[y]).map (.int .i64))]):=by
 have ho:objV [o,x,.cells (l.map (.int .i64))] 2 l.length=some (l.map (.int .i64)):=by simp [objV,ziu0]
 rw [zbho (by simp) (by omega) (by omega) (by simp) (by omega) (by simp [DV.one]),ho,Option.map_some,List.map_append]
 rfl
def gr3 (t:Tp) (c:Clu) (L:List Int):List AObj:=if L=[] then [.cells (tpC t),.cells (clC c)] else [.cells (tpC t),.cells (clC c),.cells (L.map (.int .i64))]
theorem zbhy {t:Tp} {c:Clu}:gr3 t c []=[.cells (tpC t),.cells (clC c)]:=rfl
theorem zdlm {t:Tp} {c:Clu} {L:List Int} (h:L≠[]):gr3 t c L=[.cells (tpC t),.cells (clC c),.cells (L.map (.int .i64))]:=if_neg h
def S290 (t:Tp) (c:Clu) (i:Nat):St:=z96a (.mp 0 2 0) (.mp 1 3 0) (srtV 2 (graL t i)) (.int .i64 i) (gr3 (t.adv i) c (graL t i))
theorem zywt (t:Tp) (c:Clu) (ht:t.at_<4000000000) (hn:c.i.l.length≤1000):RunsF T290 a41 [.mp 0 2 0,.agg (clC c)] [.cells (tpC t)] (liV (graL t c.i.l.length)) [.cells (tpC (t.adv c.i.l.length))]:=by
 refine ⟨?_⟩
 obtain ⟨n,hne⟩ : ∃ n,c.i.l.length=n:=⟨_,rfl⟩
 rw [hne] at hn ⊢
 simp (disch:=first|omega|simp<;>omega|fail) [-zA,-zB,-zC,-zD,-zE,a41]
 refine zlm5 (S290 t c) (fun i=>n-i) (fun i=>i≤n) 0 (z515 (by simp (disch:=first|omega|simp<;>omega|fail) [-zA,-zB,-zC,-zD,-zE,S290,z96a,graL,srtV]) (by simp (disch:=first|omega|simp<;>omega|fail) [-zA,-zB,-zC,-zD,-zE,S290,z96a,graL,gr3,zbrh])) (by omega) (fun i hi => ?_)
 simp (disch:=first|omega|simp<;>omega|fail) [-zA,-zB,-zC,-zD,-zE,zumm,z96a,S290,hne]
 have hgl:=zuov (t:=t) (n:=i)
 have hgs:=zw91 (t:=t) (n:=i)
 have hN:=z44h (t:=t.adv i) (n:=25) (by show t.at_+i<_; omega) (by decide) (by decide)
 rw [zjmf] at hN
 obtain ⟨L,hL⟩ : ∃ L,graL t i=L:=⟨_,rfl⟩
 rw [hL] at hgl hgs
 rw [hL]
 by_cases h:i<n
 ·have h':(i:Int)<n:=by omega
  obtain ⟨y,hy⟩ : ∃ y,tpN (t.adv i) 25=y:=⟨_,rfl⟩
  rw [hy] at hN hgs
  by_cases q:L=[]
  ·subst q
   simp (disch:=first|omega|simp<;>omega|fail) [-zA,-zB,-zC,-zD,-zE,hne,h,h',zsmr,hN,zh11,zbhy]
   have hV:srtV 2 (graL t (i+1)) = .ms 2 1 0 1 1 1:=by rw [hgs]; rfl
   have hH:gr3 (t.adv (i+1)) c (graL t (i+1))=[.cells (tpC (t.adv (i+1))),.cells (clC c),.cells [.int .i64 y]]:=by rw [hgs]; rfl
   exact ⟨i+1,z515 (by simp (disch:=first|omega|simp<;>omega|fail) [-zA,-zB,-zC,-zD,-zE,S290,z96a,hV]) (by simp (disch:=first|omega|simp<;>omega|fail) [-zA,-zB,-zC,-zD,-zE,S290,z96a,hH]),by omega,by omega⟩
  ·have hV:=zgky (p:=2) q
   have hLp:0<L.length:=by cases L with|nil=>exact absurd rfl q|cons a l=>simp
   have hap:=fun o x y=>zzdw (l:=L) (o:=o) (x:=x) (y:=y) hLp (by omega)
   rw [hgl] at hV hap
   simp (disch:=first|omega|simp<;>omega|fail) [-zA,-zB,-zC,-zD,-zE,hne,h,h',zsmr,hN,hV,zdlm q,hgl,hap]
   have hV:srtV 2 (graL t (i+1)) = .ms 2 (i+1) 0 1 (i+1) (i+1):=by rw [hgs,zgky (by simp),y06,hgl]; rfl
   have hH:gr3 (t.adv (i+1)) c (graL t (i+1))=[.cells (tpC (t.adv (i+1))),.cells (clC c),.cells ((L++[y]).map (.int .i64))]:=by rw [hgs,zdlm (by simp)]
   exact ⟨i+1,z515 (by simp (disch:=first|omega|simp<;>omega|fail) [-zA,-zB,-zC,-zD,-zE,S290,z96a,hV]) (by simp (disch:=first|omega|simp<;>omega|fail) [-zA,-zB,-zC,-zD,-zE,S290,z96a,hH]),by omega,by omega⟩
 ·have h':¬ (i:Int)<n:=by omega
  obtain rfl:i=n:=by omega
  have hfz : ∀ k,fzL 1 k (tpC (t.adv i)) (tpC (t.adv i)):=fun k=>znnb (zs7w _)
  by_cases q:L=[]
  ·subst q
   simp (disch:=first|omega|simp<;>omega|fail) [-zA,-zB,-zC,-zD,-zE,hne,h,h',zh11,zbhy,hL,zxxz,hfz]
  ·have hV:=zgky (p:=2) q
   rw [hgl] at hV
   have ht:(L.map (DV.int .i64)).take i=L.map (DV.int .i64):=y0e (by simp [hgl])
   have hli:liV L = .sl false 1 i (L.map (.int .i64)):=by
    have e : ∀ l:List Int,l.flatMap inI=l.map (.int .i64):=fun l=>by
     induction l with
     | nil=>rfl
     | cons a l ih=>rw [List.flatMap_cons,ih]; rfl
    rw [zefw q,hgl,e]
   simp (disch:=first|omega|simp<;>omega|fail) [-zA,-zB,-zC,-zD,-zE,hne,h,h',hV,zdlm q,hgl,hL,hli,hfz,ht,zojd znqj]
noncomputable def cGra:List DV→List DV→Option (DV × List DV):=conT (fun a:Tp × Clu=>a.1.at_<4000000000∧a.2.i.l.length≤1000) (fun a=>[.agg (clC a.2)]) (fun a=>tpC a.1) (fun a=>(liV (graL a.1 a.2.i.l.length),tpC (a.1.adv a.2.i.l.length)))
theorem zxh3 {t:Tp} {c:Clu} (h1:t.at_<4000000000) (h2:c.i.l.length≤1000):cGra [.agg (clC c)] (tpC t)=some (liV (graL t c.i.l.length),tpC (t.adv c.i.l.length)) :=
 ztyo (A:=fun a:Tp × Clu=>a.1.at_<4000000000∧a.2.i.l.length≤1000) (f:=fun a=>[.agg (clC a.2)]) (s:=fun a=>tpC a.1) (by
  rintro ⟨a,n⟩ ⟨b,m⟩ e1 e2
  simp only [List.cons.injEq,DV.agg.injEq,and_true] at e1
  rw [zh7t e1,z15z e2]) (t,c) ⟨h1,h2⟩
theorem z10g:(Con.tch cGra).Sound P 41 :=
 z0tq (fun a _=>⟨by simp [zbao,zyp8,zy11],zs7w _,z4yh _,zs7w _⟩) fun a h=>zizi mix zgkm Tryz.func41 z5y8 (zywt a.1 a.2 h.1 h.2) (y00 _)
def nlO (l:List Int) (h:l.length≤1000000):Nl:=⟨if l=[] then none else some false,l,fun e=>by
 by_cases q:l=[]
 ·exact q
 ·simp [q] at e,by omega⟩
theorem zigl {l:List Int} (h:l.length≤1000000):(nlO l h).dv=liV l:=by
 unfold nlO Nl.dv liV
 by_cases q:l=[]
 ·simp only [q,if_true]; rfl
 ·simp only [q,if_false]; rfl
end
section
set_option linter.unusedSimpArgs false
set_option linter.unusedVariables false
open Go Go.Am
structure OvR (a:Clu × Nl × Int):Prop where
 o:OvOK a
 s : ∀ x ∈ a.1.i.l,1≤x.state∧x.state≤3
end
section
set_option linter.unusedSimpArgs false
set_option linter.unusedVariables false
open Go Go.Am
end
section
set_option linter.unusedSimpArgs false
set_option linter.unusedVariables false
open Go Go.Am
def deV (D:List Ins):DV:=if D=[] then .nils else .sl false 37 D.length (D.flatMap inC)
def inV (p:Nat) (D:List Ins):DV:=if D=[] then .nils else .ms p (D.length*37) 0 37 D.length (D.length*37)
def inH (pre:List AObj) (D:List Ins):List AObj:=if D=[] then pre else pre++[.cells (D.flatMap inC)]
structure VS where
 i:Nat
 D:List Ins
 O:List Int
 z:Ins
end
section
set_option linter.unusedSimpArgs false
set_option linter.unusedVariables false
open Go Go.Am
def zpbt (H:List AObj):Prop := ∀ o ∈ H,∃ cs,o = .cells cs∧zbao cs=true
theorem zpbt.app {A B:List AObj} (h1:zpbt A) (h2:zpbt B):zpbt (A++B):=fun o ho=>(y0d.1 ho).elim (h1 o) (h2 o)
theorem zpbt.one {cs:List DV} (h:zbao cs=true):zpbt [.cells cs]:=fun o ho=>⟨cs,by simpa using ho,h⟩
theorem zpbt.ov {c:Clu} {a:OS}:zpbt (ovH c a):=by
 unfold ovH; split
 ·exact .one (zy11 c)
 ·exact (zpbt.one (zy11 c)).app ((zpbt.one (z9kv _)).app (.one znqj))
structure InsF (H:List AObj) (x:Ins) (D:List Ins) (q:Nat) (v1 v2:DV):Prop where
 s1 : ∀ K,z390 K 37 (deV D) none (some (.int .i64 q)) none=some v1
 y1 : ∀ K,visY K v1=some (q,(D.take q).flatMap inC)
 s2 : ∀ K,z390 K 37 (deV D) (some (.int .i64 q)) none none=some v2
 y2 : ∀ K,visY K v2=some (D.length-q,(D.drop q).flatMap inC)
 a1:appX (H++[.cells (inC x)]) 37 72 .nils q ((D.take q).flatMap inC)=some (inV (H.length+1) (D.take q),inH (H++[.cells (inC x)]) (D.take q))
 ox:objV (inH (H++[.cells (inC x)]) (D.take q)) H.length 37=some (inC x)
 a2:appX (inH (H++[.cells (inC x)]) (D.take q)) 37 72 (inV (H.length+1) (D.take q)) 1 (inC x)=some (inV (H.length+1) (D.take q++[x]),inH (H++[.cells (inC x)]) (D.take q++[x]))
 a3:appX (inH (H++[.cells (inC x)]) (D.take q++[x])) 37 72 (inV (H.length+1) (D.take q++[x])) (D.length-q) ((D.drop q).flatMap inC)=some (inV (H.length+1) (D.take q++x::D.drop q),inH (H++[.cells (inC x)]) (D.take q++x::D.drop q))
 p1:z87v (.mp H.length 37 0) (inV (H.length+1) (D.take q))=true
structure VR where
 m:Nat
 pre:List AObj
 L:List Int
 M:Int
structure VRI (c:Clu) (g:Grp) (k:Nat) (base:List Int) (M0:Int) (a:VR):Prop where
 m:a.m≤c.i.l.length
 f : ∃ X,a.pre=[.cells (clC c)]++X
 p:zpbt a.pre
 l:a.L=base++(z56d g (c.i.l.drop a.m) k).reverse.map Ins.id
 M:a.M=M0-(z56d g (c.i.l.drop a.m) k).length
 n:(z56d g (c.i.l.drop a.m) k).length≤M0.toNat
end
section
set_option linter.unusedSimpArgs false
set_option linter.unusedVariables false
open Go Go.Am
end
section
set_option linter.unusedSimpArgs false
set_option linter.unusedVariables false
open Go Go.Am
namespace disruptionCounts
end disruptionCounts
end
section
set_option linter.unusedSimpArgs false
set_option linter.unusedVariables false
open Go Go.Am
end
section
set_option linter.unusedSimpArgs false
set_option linter.unusedVariables false
open Go Go.Am
end
section
set_option linter.unusedSimpArgs false
set_option linter.unusedVariables false
open Go Go.Am
end
section
set_option linter.unusedSimpArgs false
set_option linter.unusedVariables false
open Go Go.Am
end
section
set_option linter.unusedSimpArgs false
set_option linter.unusedVariables false
open Go Go.Am
def d1:Dg:=⟨1#8::rep 31 0#8,by simp⟩
structure OneG (c:Clu) (x:Grp):Prop where
 g:c.g.l=[x]
 v:ValidG x
 a:x.ns=[97]
 b:x.im=[98]
end
section
set_option linter.unusedSimpArgs false
set_option linter.unusedVariables false
open Go Go.Am
def z0bm:ACode :=
 (.seq (.seq (.region false [⟨none,(some 15),.mov (.t 9)⟩,
  ⟨none,(some 16),.mov (.t 10)⟩,
  ⟨none,(some 17),.bin .lss (.t 15) (.t 16)⟩])
 (.cond (.t 17) .skip
 (.exit 0)))
 (.block 1 (.seq (.region false [⟨none,(some 18),.mov (.t 9)⟩,
  ⟨none,(some 19),.mov (.t 10)⟩,
  ⟨none,(some 20),.bin .add (.t 18) (.t 19)⟩,
  ⟨none,(some 21),.conv .u64 (.t 20)⟩,
  ⟨none,(some 22),.bin .shr (.t 21) (.k (w64 1#64))⟩,
  ⟨none,(some 23),.conv .i64 (.t 22)⟩,
  ⟨none,(some 11),.mov (.t 23)⟩])
 (.seq (.region true [⟨none,(some 24),.mov (.t 2)⟩,
  ⟨none,(some 25),.mov (.t 0)⟩,
  ⟨none,(some 26),.mov (.t 11)⟩,
  ⟨none,(some 27),.idxS 35 (.t 25) (.t 26)⟩,
  ⟨none,(some 28),.load 35 true (.t 27)⟩,
  ⟨none,(some 29),.load 35 true (.t 4)⟩,
  ⟨none,(some 30),.callE (.t 24) [(.t 28),(.t 29)]⟩,
  ⟨none,(some 31),.bin .lss (.t 30) (.k (.int .i64 0))⟩])
 (.cond (.t 31) (.region false [⟨none,(some 32),.mov (.t 11)⟩,
  ⟨none,(some 33),.bin .add (.t 32) (.k (.int .i64 1))⟩,
  ⟨none,(some 9),.mov (.t 33)⟩])
 (.region false [⟨none,(some 34),.mov (.t 11)⟩,
  ⟨none,(some 10),.mov (.t 34)⟩]))))))
def zd78 (x0 x2 x4 x8 x9 x10:DV) (h:List AObj):St:=⟨[x0,.junk,x2,.junk,x4,.junk,.junk,.junk,x8,x9,x10]++js 38,h⟩
def a68:AFn where
 code:=(.seq (.region false [⟨none,(some 4),.box (.t 1)⟩,
  ⟨none,(some 6),.mov (.k (.int .i64 0))⟩,
  ⟨none,(some 7),.mov (.k (.bool false))⟩])
 (.seq (.region false [⟨none,(some 12),.mov (.t 0)⟩,
  ⟨none,(some 13),.len (.t 12)⟩,
  ⟨none,(some 8),.mov (.t 13)⟩])
 (.seq (.region false [⟨none,(some 14),.mov (.t 8)⟩,
  ⟨none,(some 9),.mov (.k (.int .i64 0))⟩,
  ⟨none,(some 10),.mov (.t 14)⟩])
 (.seq (.block 0 (.loop z0bm))
 (.seq (.region true [⟨none,(some 35),.mov (.t 9)⟩,
  ⟨none,(some 36),.mov (.t 9)⟩,
  ⟨none,(some 37),.mov (.t 8)⟩,
  ⟨none,(some 38),.bin .lss (.t 36) (.t 37)⟩,
  ⟨none,(some 39),.mov (.t 38)⟩,
  ⟨(some (39,true)),(some 40),.mov (.t 2)⟩,
  ⟨(some (39,true)),(some 41),.mov (.t 0)⟩,
  ⟨(some (39,true)),(some 42),.mov (.t 9)⟩,
  ⟨(some (39,true)),(some 43),.idxS 35 (.t 41) (.t 42)⟩,
  ⟨(some (39,true)),(some 44),.load 35 true (.t 43)⟩,
  ⟨(some (39,true)),(some 45),.load 35 true (.t 4)⟩,
  ⟨(some (39,true)),(some 46),.callE (.t 40) [(.t 44),(.t 45)]⟩,
  ⟨(some (39,true)),(some 47),.bin .eql (.t 46) (.k (.int .i64 0))⟩,
  ⟨none,(some 48),.pick (.t 39) (.t 47) (.k (.bool false))⟩,
  ⟨none,(some 6),.mov (.t 35)⟩,
  ⟨none,(some 7),.mov (.t 48)⟩])
 .ret)))))
 ntmps:=49
 res:=[.tmp 6,.tmp 7]
theorem z20i:zsjc P Tryz.f68=some a68:=by kernel_rfl
def a69:AFn where
 code:=(.seq (.region false [⟨none,(some 2),.box (.t 0)⟩,
  ⟨none,(some 3),.box (.t 1)⟩,
  ⟨none,(some 4),.mov (.k (.int .i64 0))⟩])
 (.seq (.region true [⟨none,(some 5),.fld 0 (.t 2)⟩,
  ⟨none,(some 6),.load 1 false (.t 5)⟩,
  ⟨none,(some 7),.fld 0 (.t 3)⟩,
  ⟨none,(some 8),.load 1 false (.t 7)⟩,
  ⟨none,(some 10),.fld 1 (.t 2)⟩,
  ⟨none,(some 11),.slcA 32 1 (.t 10) none none⟩,
  ⟨none,(some 12),.fld 1 (.t 3)⟩,
  ⟨none,(some 13),.slcA 32 1 (.t 12) none none⟩,
  ⟨none,(some 9),.callN (.k (.fn (.func 71) [] [])) [(.t 6),(.t 8)]⟩,
  ⟨none,(some 14),.callN (.k (.fn (.func 72) [] [])) [(.t 11),(.t 13)]⟩,
  ⟨none,(some 15),.bsl 1 2 [(.int .i64 0)] [(0,1,(.t 9)),(1,1,(.t 14))]⟩,
  ⟨none,(some 16),.callN (.k (.fn (.func 70) [] [])) [(.t 15)]⟩,
  ⟨none,(some 4),.mov (.t 16)⟩])
 .ret))
 ntmps:=17
 res:=[.tmp 4]
theorem z713:zsjc P Tryz.f69=some a69:=by kernel_rfl
def a72:AFn where
 code:=(.seq (.region false [⟨none,(some 4),.mov (.k (.int .i64 0))⟩])
 (.seq (.region false [⟨none,(some 5),.mov (.t 0)⟩,
  ⟨none,(some 6),.mov (.t 1)⟩,
  ⟨none,(some 7),.call (.k (.fn (.func 102) [] [])) [(.t 5),(.t 6)]⟩,
  ⟨none,(some 4),.mov (.t 7)⟩])
 .ret))
 ntmps:=8
 res:=[.tmp 4]
theorem z0xs:zsjc P Tryz.f72=some a72:=by kernel_rfl
def a42:AFn where
 code:=(.seq (.region false [⟨none,(some 5),.box (.t 2)⟩,
  ⟨none,(some 6),.mov (.k (.int .i64 0))⟩,
  ⟨none,(some 7),.mov (.k (.bool false))⟩])
 (.seq (.region false [⟨none,(some 8),.mov (.t 0)⟩,
  ⟨none,(some 9),.mov (.t 1)⟩,
  ⟨none,(some 10),.load 32 true (.t 5)⟩,
  ⟨none,(some 11),.build [(.int .i64 0),(w8 0#8),(w8 0#8),(w8 0#8),(w8 0#8),(w8 0#8),(w8 0#8),(w8 0#8),(w8 0#8),(w8 0#8),(w8 0#8),(w8 0#8),(w8 0#8),(w8 0#8),(w8 0#8),(w8 0#8),(w8 0#8),(w8 0#8),(w8 0#8),(w8 0#8),(w8 0#8),(w8 0#8),(w8 0#8),(w8 0#8),(w8 0#8),(w8 0#8),(w8 0#8),(w8 0#8),(w8 0#8),(w8 0#8),(w8 0#8),(w8 0#8),(w8 0#8),(.int .i64 0),(.int .i64 0)] [(0,1,(.t 9)),(1,32,(.t 10))]⟩,
  ⟨none,(some 12),.call (.k (.fn (.func 68) [] [])) [(.t 8),(.t 11),(.k (.fn (.func 69) [] []))]⟩,
  ⟨none,(some 13),.ext (.t 12) 0⟩,
  ⟨none,(some 14),.ext (.t 12) 1⟩,
  ⟨none,(some 6),.mov (.t 13)⟩,
  ⟨none,(some 7),.mov (.t 14)⟩])
 .ret))
 ntmps:=15
 res:=[.tmp 6,.tmp 7]
theorem zl17:zsjc P Tryz.f42=some a42:=by kernel_rfl
def a43:AFn where
 code:=(.seq (.region false [⟨none,(some 2),.mov (.k .nils)⟩])
 (.seq (.seq (.region false [⟨none,(some 3),.mov (.t 0)⟩,
  ⟨none,(some 4),.eqn 0 false (.t 3) (.k .nils)⟩])
 (.cond (.t 4) (.seq (.region false [⟨none,(some 2),.mov (.k .nils)⟩])
 .ret)
 .skip))
 (.seq (.region false [⟨none,(some 5),.bsl 35 0 [(.int .i64 0),(w8 0#8),(w8 0#8),(w8 0#8),(w8 0#8),(w8 0#8),(w8 0#8),(w8 0#8),(w8 0#8),(w8 0#8),(w8 0#8),(w8 0#8),(w8 0#8),(w8 0#8),(w8 0#8),(w8 0#8),(w8 0#8),(w8 0#8),(w8 0#8),(w8 0#8),(w8 0#8),(w8 0#8),(w8 0#8),(w8 0#8),(w8 0#8),(w8 0#8),(w8 0#8),(w8 0#8),(w8 0#8),(w8 0#8),(w8 0#8),(w8 0#8),(w8 0#8),(.int .i64 0),(.int .i64 0)] []⟩,
  ⟨none,(some 6),.mov (.t 0)⟩,
  ⟨none,(some 7),.app 35 56 (.t 5) (.t 6)⟩,
  ⟨none,(some 2),.mov (.t 7)⟩])
 .ret)))
 ntmps:=8
 res:=[.tmp 2]
theorem zbv8:zsjc P Tryz.f43=some a43:=by kernel_rfl
def a44:AFn where
 code:=(.seq (.region false [⟨none,(some 6),.mov (.k .nils)⟩])
 (.seq (.region false [⟨none,(some 10),.mov (.t 0)⟩,
  ⟨none,(some 11),.mov (.t 1)⟩,
  ⟨none,(some 12),.slcS 35 (.t 10) (some (.t 11)) none none⟩])
 (.seq (.region false [⟨none,(some 13),.mov (.t 2)⟩,
  ⟨none,(some 14),.len (.t 13)⟩,
  ⟨none,(some 7),.mov (.t 14)⟩])
 (.seq (.seq (.region false [⟨none,(some 15),.mov (.t 7)⟩,
  ⟨none,(some 16),.bin .eql (.t 15) (.k (.int .i64 0))⟩])
 (.cond (.t 16) (.seq (.region false [⟨none,(some 17),.mov (.t 0)⟩,
  ⟨none,(some 6),.mov (.t 17)⟩])
 .ret)
 .skip))
 (.seq (.region false [⟨none,(some 18),.mov (.t 0)⟩,
  ⟨none,(some 19),.len (.t 18)⟩,
  ⟨none,(some 8),.mov (.t 19)⟩])
 (.seq (.seq (.region false [⟨none,(some 20),.mov (.t 1)⟩,
  ⟨none,(some 21),.mov (.t 8)⟩,
  ⟨none,(some 22),.bin .eql (.t 20) (.t 21)⟩])
 (.cond (.t 22) (.seq (.region false [⟨none,(some 23),.mov (.t 0)⟩,
  ⟨none,(some 24),.mov (.t 2)⟩,
  ⟨none,(some 25),.app 35 56 (.t 23) (.t 24)⟩,
  ⟨none,(some 6),.mov (.t 25)⟩])
 .ret)
 .skip))
 (.seq (.seq (.region false [⟨none,(some 26),.mov (.t 8)⟩,
  ⟨none,(some 27),.mov (.t 7)⟩,
  ⟨none,(some 28),.bin .add (.t 26) (.t 27)⟩,
  ⟨none,(some 29),.mov (.t 0)⟩,
  ⟨none,(some 30),.ext (.k .junk) 0⟩,
  ⟨none,(some 31),.bin .gtr (.t 28) (.t 30)⟩])
 (.cond (.t 31) (.seq (.region false [⟨none,(some 32),.mov (.t 0)⟩,
  ⟨none,(some 33),.mov (.t 1)⟩,
  ⟨none,(some 34),.slcS 35 (.t 32) none (some (.t 33)) none⟩,
  ⟨none,(some 35),.mov (.t 8)⟩,
  ⟨none,(some 36),.mov (.t 7)⟩,
  ⟨none,(some 37),.bin .add (.t 35) (.t 36)⟩,
  ⟨none,(some 38),.mov (.t 1)⟩,
  ⟨none,(some 39),.bin .sub (.t 37) (.t 38)⟩,
  ⟨none,(some 40),.ext (.k .junk) 0⟩,
  ⟨none,(some 9),.mov (.t 40)⟩])
 (.seq (.region false [⟨none,(some 41),.mov (.t 9)⟩,
  ⟨none,(some 42),.mov (.t 1)⟩,
  ⟨none,(some 43),.slcS 35 (.t 41) (some (.t 42)) none none⟩,
  ⟨none,(some 44),.mov (.t 2)⟩,
  ⟨none,(some 45),.cpy 35 (.t 43) (.t 44)⟩])
 (.seq (.region true [⟨none,(some 46),.mov (.t 9)⟩,
  ⟨none,(some 47),.mov (.t 1)⟩,
  ⟨none,(some 48),.mov (.t 7)⟩,
  ⟨none,(some 49),.bin .add (.t 47) (.t 48)⟩,
  ⟨none,(some 50),.slcS 35 (.t 46) (some (.t 49)) none none⟩,
  ⟨none,(some 51),.mov (.t 0)⟩,
  ⟨none,(some 52),.mov (.t 1)⟩,
  ⟨none,(some 53),.slcS 35 (.t 51) (some (.t 52)) none none⟩,
  ⟨none,(some 54),.cpy 35 (.t 50) (.t 53)⟩])
 (.seq (.region false [⟨none,(some 55),.mov (.t 9)⟩,
  ⟨none,(some 6),.mov (.t 55)⟩])
 .ret))))
 .skip))
 (.seq (.region false [⟨none,(some 56),.mov (.t 0)⟩,
  ⟨none,(some 57),.mov (.t 8)⟩,
  ⟨none,(some 58),.mov (.t 7)⟩,
  ⟨none,(some 59),.bin .add (.t 57) (.t 58)⟩,
  ⟨none,(some 60),.slcS 35 (.t 56) none (some (.t 59)) none⟩,
  ⟨none,(some 0),.mov (.t 60)⟩])
 (.seq (.seq (.region false [⟨none,(some 61),.mov (.t 2)⟩,
  ⟨none,(some 62),.mov (.t 0)⟩,
  ⟨none,(some 63),.mov (.t 1)⟩,
  ⟨none,(some 64),.mov (.t 7)⟩,
  ⟨none,(some 65),.bin .add (.t 63) (.t 64)⟩,
  ⟨none,(some 66),.slcS 35 (.t 62) (some (.t 65)) none none⟩,
  ⟨none,(some 67),.call (.k (.fn (.func 73) [] [])) [(.t 61),(.t 66)]⟩,
  ⟨none,(some 68),.un .not (.t 67)⟩])
 (.cond (.t 68) (.seq (.region true [⟨none,(some 69),.mov (.t 0)⟩,
  ⟨none,(some 70),.mov (.t 1)⟩,
  ⟨none,(some 71),.mov (.t 7)⟩,
  ⟨none,(some 72),.bin .add (.t 70) (.t 71)⟩,
  ⟨none,(some 73),.slcS 35 (.t 69) (some (.t 72)) none none⟩,
  ⟨none,(some 74),.mov (.t 0)⟩,
  ⟨none,(some 75),.mov (.t 1)⟩,
  ⟨none,(some 76),.slcS 35 (.t 74) (some (.t 75)) none none⟩,
  ⟨none,(some 77),.cpy 35 (.t 73) (.t 76)⟩])
 (.seq (.region false [⟨none,(some 78),.mov (.t 0)⟩,
  ⟨none,(some 79),.mov (.t 1)⟩,
  ⟨none,(some 80),.slcS 35 (.t 78) (some (.t 79)) none none⟩,
  ⟨none,(some 81),.mov (.t 2)⟩,
  ⟨none,(some 82),.cpy 35 (.t 80) (.t 81)⟩])
 (.seq (.region false [⟨none,(some 83),.mov (.t 0)⟩,
  ⟨none,(some 6),.mov (.t 83)⟩])
 .ret)))
 .skip))
 (.seq (.region false [⟨none,(some 84),.mov (.t 0)⟩,
  ⟨none,(some 85),.mov (.t 8)⟩,
  ⟨none,(some 86),.slcS 35 (.t 84) (some (.t 85)) none none⟩,
  ⟨none,(some 87),.mov (.t 2)⟩,
  ⟨none,(some 88),.cpy 35 (.t 86) (.t 87)⟩])
 (.seq (.region false [⟨none,(some 89),.mov (.t 0)⟩,
  ⟨none,(some 90),.mov (.t 1)⟩,
  ⟨none,(some 91),.slcS 35 (.t 89) (some (.t 90)) none none⟩,
  ⟨none,(some 92),.mov (.t 7)⟩,
  ⟨none,(some 93),.call (.k (.fn (.func 74) [] [])) [(.t 91),(.t 92)]⟩])
 (.seq (.region false [⟨none,(some 94),.mov (.t 0)⟩,
  ⟨none,(some 6),.mov (.t 94)⟩])
 .ret))))))))))))
 ntmps:=95
 res:=[.tmp 6]
theorem zeo7:zsjc P Tryz.f44=some a44:=by kernel_rfl
def a15:AFn where
 code:=(.seq (.region false [⟨none,(some 6),.box (.t 2)⟩,
  ⟨none,(some 8),.mov (.k .nils)⟩])
 (.seq (.region false [⟨none,(some 14),.mov (.t 0)⟩,
  ⟨none,(some 15),.mov (.t 1)⟩,
  ⟨none,(some 16),.load 32 true (.t 6)⟩,
  ⟨none,(some 17),.call (.k (.fn (.func 42) [] [])) [(.t 14),(.t 15),(.t 16)]⟩,
  ⟨none,(some 13),.mov (.t 17)⟩,
  ⟨none,(some 18),.ext (.t 13) 0⟩,
  ⟨none,(some 19),.ext (.t 13) 1⟩,
  ⟨none,(some 9),.mov (.t 18)⟩,
  ⟨none,(some 10),.mov (.t 19)⟩])
 (.seq (.region false [⟨none,(some 20),.mov (.t 0)⟩,
  ⟨none,(some 21),.call (.k (.fn (.func 43) [] [])) [(.t 20)]⟩,
  ⟨none,(some 11),.mov (.t 21)⟩])
 (.seq (.seq (.region false [⟨none,(some 22),.mov (.t 10)⟩,
  ⟨none,(some 23),.un .not (.t 22)⟩])
 (.cond (.t 23) (.region false [⟨none,(some 24),.mov (.t 11)⟩,
  ⟨none,(some 25),.mov (.t 9)⟩,
  ⟨none,(some 26),.mov (.t 1)⟩,
  ⟨none,(some 27),.load 32 true (.t 6)⟩,
  ⟨none,(some 28),.build [(.int .i64 0),(w8 0#8),(w8 0#8),(w8 0#8),(w8 0#8),(w8 0#8),(w8 0#8),(w8 0#8),(w8 0#8),(w8 0#8),(w8 0#8),(w8 0#8),(w8 0#8),(w8 0#8),(w8 0#8),(w8 0#8),(w8 0#8),(w8 0#8),(w8 0#8),(w8 0#8),(w8 0#8),(w8 0#8),(w8 0#8),(w8 0#8),(w8 0#8),(w8 0#8),(w8 0#8),(w8 0#8),(w8 0#8),(w8 0#8),(w8 0#8),(w8 0#8),(w8 0#8),(.int .i64 0),(.int .i64 0)] [(0,1,(.t 26)),(1,32,(.t 27))]⟩,
  ⟨none,(some 29),.bsl 35 1 [(.int .i64 0),(w8 0#8),(w8 0#8),(w8 0#8),(w8 0#8),(w8 0#8),(w8 0#8),(w8 0#8),(w8 0#8),(w8 0#8),(w8 0#8),(w8 0#8),(w8 0#8),(w8 0#8),(w8 0#8),(w8 0#8),(w8 0#8),(w8 0#8),(w8 0#8),(w8 0#8),(w8 0#8),(w8 0#8),(w8 0#8),(w8 0#8),(w8 0#8),(w8 0#8),(w8 0#8),(w8 0#8),(w8 0#8),(w8 0#8),(w8 0#8),(w8 0#8),(w8 0#8),(.int .i64 0),(.int .i64 0)] [(0,35,(.t 28))]⟩,
  ⟨none,(some 30),.call (.k (.fn (.func 44) [] [])) [(.t 24),(.t 25),(.t 29)]⟩,
  ⟨none,(some 11),.mov (.t 30)⟩])
 .skip))
 (.seq (.region false [⟨none,(some 31),.mov (.t 11)⟩,
  ⟨none,(some 32),.mov (.t 9)⟩,
  ⟨none,(some 33),.idxS 35 (.t 31) (.t 32)⟩,
  ⟨none,(some 12),.mov (.t 33)⟩])
 (.seq (.region false [⟨none,(some 34),.mov (.t 12)⟩,
  ⟨none,(some 35),.mov (.t 12)⟩,
  ⟨none,(some 36),.nilc (.t 35)⟩,
  ⟨none,(some 37),.fld 33 (.t 36)⟩,
  ⟨none,(some 38),.load 1 false (.t 37)⟩,
  ⟨none,(some 39),.bin .add (.t 38) (.k (.int .i64 1))⟩,
  ⟨none,(some 40),.mm false [(.t 39),(.k (.int .i64 16))]⟩,
  ⟨none,(some 41),.nilc (.t 34)⟩,
  ⟨none,(some 42),.fld 33 (.t 41)⟩,
  ⟨none,none,.store 1 (.t 42) (.t 40)⟩])
 (.seq (.region false [⟨none,(some 43),.mov (.t 12)⟩,
  ⟨none,(some 44),.mov (.t 3)⟩,
  ⟨none,(some 45),.mov (.t 12)⟩,
  ⟨none,(some 46),.nilc (.t 45)⟩,
  ⟨none,(some 47),.fld 33 (.t 46)⟩,
  ⟨none,(some 48),.load 1 false (.t 47)⟩,
  ⟨none,(some 49),.bin .shl (.k (.int .i64 1)) (.t 48)⟩,
  ⟨none,(some 50),.bin .add (.t 44) (.t 49)⟩,
  ⟨none,(some 51),.mm false [(.t 50),(.k (.int .i64 1099511627776))]⟩,
  ⟨none,(some 52),.nilc (.t 43)⟩,
  ⟨none,(some 53),.fld 34 (.t 52)⟩,
  ⟨none,none,.store 1 (.t 53) (.t 51)⟩])
 (.seq (.region false [⟨none,(some 54),.mov (.t 11)⟩,
  ⟨none,(some 8),.mov (.t 54)⟩])
 .ret))))))))
 ntmps:=55
 res:=[.tmp 8]
theorem zz37:zsjc P Tryz.f15=some a15:=by kernel_rfl
def a47:AFn where
 code:=(.seq (.region false [⟨none,(some 3),.box (.t 0)⟩,
  ⟨none,(some 4),.mov (.k (.bool false))⟩])
 (.seq (.region false [⟨none,(some 5),.fld 0 (.t 3)⟩,
  ⟨none,(some 6),.load 1 false (.t 5)⟩,
  ⟨none,(some 7),.load 1 false (.t 1)⟩,
  ⟨none,(some 8),.bin .eql (.t 6) (.t 7)⟩,
  ⟨none,(some 9),.mov (.t 8)⟩,
  ⟨(some (9,true)),(some 10),.fld 1 (.t 3)⟩,
  ⟨(some (9,true)),(some 11),.load 32 true (.t 10)⟩,
  ⟨(some (9,true)),(some 12),.load 32 true (.t 2)⟩,
  ⟨(some (9,true)),(some 13),.eqa false [(32,0)] (.t 11) (.t 12)⟩,
  ⟨none,(some 14),.pick (.t 9) (.t 13) (.k (.bool false))⟩,
  ⟨none,(some 4),.mov (.t 14)⟩])
 .ret))
 ntmps:=15
 res:=[.tmp 4]
theorem zzqr:zsjc P Tryz.f47=some a47:=by kernel_rfl
def z079:ACode :=
 (.seq (.region false [⟨none,(some 9),.bin .lss (.t 8) (.t 7)⟩])
 (.seq (.cond (.t 9) .skip
 (.exit 0))
 (.seq (.block 1 (.seq (.region false [⟨none,(some 10),.mov (.t 8)⟩,
  ⟨none,(some 5),.mov (.t 10)⟩])
 (.seq (.region false [⟨none,(some 11),.mov (.t 1)⟩,
  ⟨none,(some 12),.mov (.t 0)⟩,
  ⟨none,(some 13),.mov (.t 5)⟩,
  ⟨none,(some 14),.idxS 35 (.t 12) (.t 13)⟩,
  ⟨none,(some 15),.load 35 true (.t 14)⟩,
  ⟨none,(some 16),.call (.t 11) [(.t 15)]⟩])
 (.cond (.t 16) (.seq (.region false [⟨none,(some 17),.mov (.t 5)⟩,
  ⟨none,(some 4),.mov (.t 17)⟩])
 .ret)
 .skip))))
 (.region false [⟨none,(some 18),.bin .add (.t 8) (.k (.int .i64 1))⟩,
  ⟨none,(some 8),.mov (.t 18)⟩]))))
def zvff (x0 x1 x7 x8:DV) (h:List AObj):St:=⟨[x0,x1]++js 5++[x7,x8]++js 10,h⟩
def a76:AFn where
 code:=(.seq (.region false [⟨none,(some 4),.mov (.k (.int .i64 0))⟩])
 (.seq (.seq (.region false [⟨none,(some 6),.mov (.t 0)⟩,
  ⟨none,(some 7),.len (.t 6)⟩,
  ⟨none,(some 8),.mov (.k (.int .i64 0))⟩])
 (.block 0 (.loop z079)))
 (.seq (.region false [⟨none,(some 4),.mov (.k (.int .i64 (-1)))⟩])
 .ret)))
 ntmps:=19
 res:=[.tmp 4]
theorem zuum:zsjc P Tryz.f76=some a76:=by kernel_rfl
def zec8:ACode :=
 (.seq (.seq (.region false [⟨none,(some 16),.mov (.t 6)⟩,
  ⟨none,(some 17),.mov (.t 0)⟩,
  ⟨none,(some 18),.len (.t 17)⟩,
  ⟨none,(some 19),.bin .lss (.t 16) (.t 18)⟩])
 (.cond (.t 19) .skip
 (.exit 0)))
 (.seq (.block 1 (.seq (.region false [⟨none,(some 22),.mov (.t 0)⟩,
  ⟨none,(some 23),.mov (.t 6)⟩,
  ⟨none,(some 24),.idxS 35 (.t 22) (.t 23)⟩,
  ⟨none,(some 25),.load 35 true (.t 24)⟩,
  ⟨none,(some 7),.alloc [(.int .i64 0),(w8 0#8),(w8 0#8),(w8 0#8),(w8 0#8),(w8 0#8),(w8 0#8),(w8 0#8),(w8 0#8),(w8 0#8),(w8 0#8),(w8 0#8),(w8 0#8),(w8 0#8),(w8 0#8),(w8 0#8),(w8 0#8),(w8 0#8),(w8 0#8),(w8 0#8),(w8 0#8),(w8 0#8),(w8 0#8),(w8 0#8),(w8 0#8),(w8 0#8),(w8 0#8),(w8 0#8),(w8 0#8),(w8 0#8),(w8 0#8),(w8 0#8),(w8 0#8),(.int .i64 0),(.int .i64 0)]⟩,
  ⟨none,none,.store 35 (.t 7) (.t 25)⟩])
 (.seq (.region false [⟨none,(some 26),.mov (.t 1)⟩,
  ⟨none,(some 27),.load 35 true (.t 7)⟩,
  ⟨none,(some 28),.call (.t 26) [(.t 27)]⟩,
  ⟨none,(some 29),.un .not (.t 28)⟩])
 (.cond (.t 29) (.seq (.region false [⟨none,(some 30),.mov (.t 0)⟩,
  ⟨none,(some 31),.mov (.t 5)⟩,
  ⟨none,(some 32),.load 35 true (.t 7)⟩,
  ⟨none,(some 33),.idxS 35 (.t 30) (.t 31)⟩,
  ⟨none,none,.store 35 (.t 33) (.t 32)⟩])
 (.region false [⟨none,(some 34),.mov (.t 5)⟩,
  ⟨none,(some 35),.bin .add (.t 34) (.k (.int .i64 1))⟩,
  ⟨none,(some 5),.mov (.t 35)⟩]))
 .skip))))
 (.region false [⟨none,(some 20),.mov (.t 6)⟩,
  ⟨none,(some 21),.bin .add (.t 20) (.k (.int .i64 1))⟩,
  ⟨none,(some 6),.mov (.t 21)⟩])))
def zgwc (x0 x1 x5 x6:DV) (h:List AObj):St:=⟨[x0,x1,.junk,.junk,.junk,x5,x6]++js 35,h⟩
def a46:AFn where
 code:=(.seq (.region false [⟨none,(some 4),.mov (.k .nils)⟩])
 (.seq (.region false [⟨none,(some 8),.mov (.t 0)⟩,
  ⟨none,(some 9),.mov (.t 1)⟩,
  ⟨none,(some 10),.call (.k (.fn (.func 76) [] [])) [(.t 8),(.t 9)]⟩,
  ⟨none,(some 5),.mov (.t 10)⟩])
 (.seq (.seq (.region false [⟨none,(some 11),.mov (.t 5)⟩,
  ⟨none,(some 12),.bin .eql (.t 11) (.k (.int .i64 (-1)))⟩])
 (.cond (.t 12) (.seq (.region false [⟨none,(some 13),.mov (.t 0)⟩,
  ⟨none,(some 4),.mov (.t 13)⟩])
 .ret)
 .skip))
 (.seq (.seq (.region false [⟨none,(some 14),.mov (.t 5)⟩,
  ⟨none,(some 15),.bin .add (.t 14) (.k (.int .i64 1))⟩,
  ⟨none,(some 6),.mov (.t 15)⟩])
 (.block 0 (.loop zec8)))
 (.seq (.region false [⟨none,(some 36),.mov (.t 0)⟩,
  ⟨none,(some 37),.mov (.t 5)⟩,
  ⟨none,(some 38),.slcS 35 (.t 36) (some (.t 37)) none none⟩,
  ⟨none,none,.clr 35 [(.int .i64 0),(w8 0#8),(w8 0#8),(w8 0#8),(w8 0#8),(w8 0#8),(w8 0#8),(w8 0#8),(w8 0#8),(w8 0#8),(w8 0#8),(w8 0#8),(w8 0#8),(w8 0#8),(w8 0#8),(w8 0#8),(w8 0#8),(w8 0#8),(w8 0#8),(w8 0#8),(w8 0#8),(w8 0#8),(w8 0#8),(w8 0#8),(w8 0#8),(w8 0#8),(w8 0#8),(w8 0#8),(w8 0#8),(w8 0#8),(w8 0#8),(w8 0#8),(w8 0#8),(.int .i64 0),(.int .i64 0)] (.t 38)⟩])
 (.seq (.region false [⟨none,(some 39),.mov (.t 0)⟩,
  ⟨none,(some 40),.mov (.t 5)⟩,
  ⟨none,(some 41),.slcS 35 (.t 39) none (some (.t 40)) none⟩,
  ⟨none,(some 4),.mov (.t 41)⟩])
 .ret))))))
 ntmps:=42
 res:=[.tmp 4]
theorem znv1:zsjc P Tryz.f46=some a46:=by kernel_rfl
def a17:AFn where
 code:=(.seq (.region false [⟨none,(some 4),.box (.t 1)⟩,
  ⟨none,(some 5),.box (.t 2)⟩,
  ⟨none,(some 6),.mov (.k .nils)⟩])
 (.seq (.region false [⟨none,(some 7),.mov (.t 0)⟩,
  ⟨none,(some 8),.call (.k (.fn (.func 43) [] [])) [(.t 7)]⟩,
  ⟨none,(some 9),.mkf (.func 47) [] [(.t 4),(.t 5)]⟩,
  ⟨none,(some 10),.call (.k (.fn (.func 46) [] [])) [(.t 8),(.t 9)]⟩,
  ⟨none,(some 6),.mov (.t 10)⟩])
 .ret))
 ntmps:=11
 res:=[.tmp 6]
theorem zcaf:zsjc P Tryz.f17=some a17:=by kernel_rfl
def a48:AFn where
 code:=(.seq (.region false [⟨none,(some 3),.box (.t 0)⟩,
  ⟨none,(some 4),.mov (.k (.bool false))⟩])
 (.seq (.region false [⟨none,(some 5),.fld 0 (.t 3)⟩,
  ⟨none,(some 6),.load 1 false (.t 5)⟩,
  ⟨none,(some 7),.load 1 false (.t 1)⟩,
  ⟨none,(some 8),.bin .eql (.t 6) (.t 7)⟩,
  ⟨none,(some 9),.mov (.t 8)⟩,
  ⟨(some (9,true)),(some 10),.load 1 false (.t 2)⟩,
  ⟨(some (9,true)),(some 11),.fld 1 (.t 3)⟩,
  ⟨(some (9,true)),(some 12),.load 32 true (.t 11)⟩,
  ⟨(some (9,true)),(some 13),.call (.k (.fn (.func 49) [] [])) [(.t 10),(.t 12)]⟩,
  ⟨(some (9,true)),(some 14),.un .not (.t 13)⟩,
  ⟨none,(some 15),.pick (.t 9) (.t 14) (.k (.bool false))⟩,
  ⟨none,(some 4),.mov (.t 15)⟩])
 .ret))
 ntmps:=16
 res:=[.tmp 4]
theorem zwi2:zsjc P Tryz.f48=some a48:=by kernel_rfl
def a19:AFn where
 code:=(.seq (.region false [⟨none,(some 4),.box (.t 1)⟩,
  ⟨none,(some 5),.box (.t 2)⟩,
  ⟨none,(some 6),.mov (.k .nils)⟩])
 (.seq (.region false [⟨none,(some 7),.mov (.t 0)⟩,
  ⟨none,(some 8),.call (.k (.fn (.func 43) [] [])) [(.t 7)]⟩,
  ⟨none,(some 9),.mkf (.func 48) [] [(.t 4),(.t 5)]⟩,
  ⟨none,(some 10),.call (.k (.fn (.func 46) [] [])) [(.t 8),(.t 9)]⟩,
  ⟨none,(some 6),.mov (.t 10)⟩])
 .ret))
 ntmps:=11
 res:=[.tmp 6]
theorem zlqi:zsjc P Tryz.f19=some a19:=by kernel_rfl
def z7sf:ACode :=
 (.seq (.seq (.region false [⟨none,(some 15),.mov (.t 9)⟩,
  ⟨none,(some 16),.mov (.t 10)⟩,
  ⟨none,(some 17),.bin .lss (.t 15) (.t 16)⟩])
 (.cond (.t 17) .skip
 (.exit 0)))
 (.block 1 (.seq (.region false [⟨none,(some 18),.mov (.t 9)⟩,
  ⟨none,(some 19),.mov (.t 10)⟩,
  ⟨none,(some 20),.bin .add (.t 18) (.t 19)⟩,
  ⟨none,(some 21),.conv .u64 (.t 20)⟩,
  ⟨none,(some 22),.bin .shr (.t 21) (.k (w64 1#64))⟩,
  ⟨none,(some 23),.conv .i64 (.t 22)⟩,
  ⟨none,(some 11),.mov (.t 23)⟩])
 (.seq (.region true [⟨none,(some 24),.mov (.t 2)⟩,
  ⟨none,(some 25),.mov (.t 0)⟩,
  ⟨none,(some 26),.mov (.t 11)⟩,
  ⟨none,(some 27),.idxS 105 (.t 25) (.t 26)⟩,
  ⟨none,(some 28),.load 105 true (.t 27)⟩,
  ⟨none,(some 29),.load 34 true (.t 4)⟩,
  ⟨none,(some 30),.callE (.t 24) [(.t 28),(.t 29)]⟩,
  ⟨none,(some 31),.bin .lss (.t 30) (.k (.int .i64 0))⟩])
 (.cond (.t 31) (.region false [⟨none,(some 32),.mov (.t 11)⟩,
  ⟨none,(some 33),.bin .add (.t 32) (.k (.int .i64 1))⟩,
  ⟨none,(some 9),.mov (.t 33)⟩])
 (.region false [⟨none,(some 34),.mov (.t 11)⟩,
  ⟨none,(some 10),.mov (.t 34)⟩]))))))
def a104:AFn where
 code:=(.seq (.region false [⟨none,(some 4),.box (.t 1)⟩,
  ⟨none,(some 6),.mov (.k (.int .i64 0))⟩,
  ⟨none,(some 7),.mov (.k (.bool false))⟩])
 (.seq (.region false [⟨none,(some 12),.mov (.t 0)⟩,
  ⟨none,(some 13),.len (.t 12)⟩,
  ⟨none,(some 8),.mov (.t 13)⟩])
 (.seq (.region false [⟨none,(some 14),.mov (.t 8)⟩,
  ⟨none,(some 9),.mov (.k (.int .i64 0))⟩,
  ⟨none,(some 10),.mov (.t 14)⟩])
 (.seq (.block 0 (.loop z7sf))
 (.seq (.region true [⟨none,(some 35),.mov (.t 9)⟩,
  ⟨none,(some 36),.mov (.t 9)⟩,
  ⟨none,(some 37),.mov (.t 8)⟩,
  ⟨none,(some 38),.bin .lss (.t 36) (.t 37)⟩,
  ⟨none,(some 39),.mov (.t 38)⟩,
  ⟨(some (39,true)),(some 40),.mov (.t 2)⟩,
  ⟨(some (39,true)),(some 41),.mov (.t 0)⟩,
  ⟨(some (39,true)),(some 42),.mov (.t 9)⟩,
  ⟨(some (39,true)),(some 43),.idxS 105 (.t 41) (.t 42)⟩,
  ⟨(some (39,true)),(some 44),.load 105 true (.t 43)⟩,
  ⟨(some (39,true)),(some 45),.load 34 true (.t 4)⟩,
  ⟨(some (39,true)),(some 46),.callE (.t 40) [(.t 44),(.t 45)]⟩,
  ⟨(some (39,true)),(some 47),.bin .eql (.t 46) (.k (.int .i64 0))⟩,
  ⟨none,(some 48),.pick (.t 39) (.t 47) (.k (.bool false))⟩,
  ⟨none,(some 6),.mov (.t 35)⟩,
  ⟨none,(some 7),.mov (.t 48)⟩])
 .ret)))))
 ntmps:=49
 res:=[.tmp 6,.tmp 7]
theorem z0mt:zsjc P Tryz.f104=some a104:=by kernel_rfl
def a105:AFn where
 code:=(.seq (.region false [⟨none,(some 2),.box (.t 0)⟩,
  ⟨none,(some 3),.box (.t 1)⟩,
  ⟨none,(some 4),.mov (.k (.int .i64 0))⟩])
 (.seq (.region false [⟨none,(some 5),.fld 0 (.t 2)⟩,
  ⟨none,(some 6),.load 34 true (.t 5)⟩,
  ⟨none,(some 7),.load 34 true (.t 3)⟩,
  ⟨none,(some 8),.call (.k (.fn (.func 106) [] [])) [(.t 6),(.t 7)]⟩,
  ⟨none,(some 4),.mov (.t 8)⟩])
 .ret))
 ntmps:=9
 res:=[.tmp 4]
theorem z9rf:zsjc P Tryz.f105=some a105:=by kernel_rfl
def a106:AFn where
 code:=(.seq (.region false [⟨none,(some 2),.box (.t 0)⟩,
  ⟨none,(some 3),.box (.t 1)⟩,
  ⟨none,(some 4),.mov (.k (.int .i64 0))⟩])
 (.seq (.region true [⟨none,(some 5),.fld 0 (.t 2)⟩,
  ⟨none,(some 6),.load 1 false (.t 5)⟩,
  ⟨none,(some 7),.fld 0 (.t 3)⟩,
  ⟨none,(some 8),.load 1 false (.t 7)⟩,
  ⟨none,(some 10),.fld 1 (.t 2)⟩,
  ⟨none,(some 11),.load 1 false (.t 10)⟩,
  ⟨none,(some 12),.fld 1 (.t 3)⟩,
  ⟨none,(some 13),.load 1 false (.t 12)⟩,
  ⟨none,(some 15),.fld 2 (.t 2)⟩,
  ⟨none,(some 16),.slcA 32 1 (.t 15) none none⟩,
  ⟨none,(some 17),.fld 2 (.t 3)⟩,
  ⟨none,(some 18),.slcA 32 1 (.t 17) none none⟩,
  ⟨none,(some 9),.callN (.k (.fn (.func 128) [] [])) [(.t 6),(.t 8)]⟩,
  ⟨none,(some 14),.callN (.k (.fn (.func 128) [] [])) [(.t 11),(.t 13)]⟩,
  ⟨none,(some 19),.callN (.k (.fn (.func 72) [] [])) [(.t 16),(.t 18)]⟩,
  ⟨none,(some 20),.bsl 1 3 [(.int .i64 0)] [(0,1,(.t 9)),(1,1,(.t 14)),(2,1,(.t 19))]⟩,
  ⟨none,(some 21),.callN (.k (.fn (.func 70) [] [])) [(.t 20)]⟩,
  ⟨none,(some 4),.mov (.t 21)⟩])
 .ret))
 ntmps:=22
 res:=[.tmp 4]
theorem zex6:zsjc P Tryz.f106=some a106:=by kernel_rfl
def a128:AFn where
 code:=(.seq (.region false [⟨none,(some 4),.mov (.k (.int .i64 0))⟩])
 (.seq (.region false [⟨none,(some 7),.mov (.t 0)⟩,
  ⟨none,(some 8),.call (.k (.fn (.func 138) [] [])) [(.t 7)]⟩,
  ⟨none,(some 5),.mov (.t 8)⟩])
 (.seq (.region false [⟨none,(some 9),.mov (.t 1)⟩,
  ⟨none,(some 10),.call (.k (.fn (.func 138) [] [])) [(.t 9)]⟩,
  ⟨none,(some 6),.mov (.t 10)⟩])
 (.seq (.seq (.region false [⟨none,(some 11),.mov (.t 5)⟩])
 (.cond (.t 11) (.seq (.seq (.region false [⟨none,(some 12),.mov (.t 6)⟩])
 (.cond (.t 12) (.seq (.region false [⟨none,(some 4),.mov (.k (.int .i64 0))⟩])
 .ret)
 .skip))
 (.seq (.region false [⟨none,(some 4),.mov (.k (.int .i64 (-1)))⟩])
 .ret))
 .skip))
 (.seq (.seq (.region false [⟨none,(some 13),.mov (.t 6)⟩])
 (.cond (.t 13) (.seq (.region false [⟨none,(some 4),.mov (.k (.int .i64 1))⟩])
 .ret)
 .skip))
 (.seq (.seq (.region false [⟨none,(some 14),.mov (.t 0)⟩,
  ⟨none,(some 15),.mov (.t 1)⟩,
  ⟨none,(some 16),.bin .lss (.t 14) (.t 15)⟩])
 (.cond (.t 16) (.seq (.region false [⟨none,(some 4),.mov (.k (.int .i64 (-1)))⟩])
 .ret)
 .skip))
 (.seq (.seq (.region false [⟨none,(some 17),.mov (.t 0)⟩,
  ⟨none,(some 18),.mov (.t 1)⟩,
  ⟨none,(some 19),.bin .gtr (.t 17) (.t 18)⟩])
 (.cond (.t 19) (.seq (.region false [⟨none,(some 4),.mov (.k (.int .i64 1))⟩])
 .ret)
 .skip))
 (.seq (.region false [⟨none,(some 4),.mov (.k (.int .i64 0))⟩])
 .ret))))))))
 ntmps:=20
 res:=[.tmp 4]
theorem zv7v:zsjc P Tryz.f128=some a128:=by kernel_rfl
def a138:AFn where
 code:=(.seq (.region false [⟨none,(some 2),.mov (.k (.bool false))⟩])
 (.seq (.region false [⟨none,(some 3),.mov (.t 0)⟩,
  ⟨none,(some 4),.mov (.t 0)⟩,
  ⟨none,(some 5),.bin .neq (.t 3) (.t 4)⟩,
  ⟨none,(some 2),.mov (.t 5)⟩])
 .ret))
 ntmps:=6
 res:=[.tmp 2]
theorem zno0:zsjc P Tryz.f138=some a138:=by kernel_rfl
def a78:AFn where
 code:=(.seq (.region false [⟨none,(some 2),.box (.t 0)⟩,
  ⟨none,(some 3),.box (.t 1)⟩,
  ⟨none,(some 4),.mov (.k (.int .i64 0))⟩,
  ⟨none,(some 5),.mov (.k (.bool false))⟩])
 (.seq (.region false [⟨none,(some 6),.fld 1 (.t 2)⟩,
  ⟨none,(some 7),.load 1 false (.t 6)⟩,
  ⟨none,(some 8),.load 34 true (.t 3)⟩,
  ⟨none,(some 9),.call (.k (.fn (.func 104) [] [])) [(.t 7),(.t 8),(.k (.fn (.func 105) [] []))]⟩,
  ⟨none,(some 10),.ext (.t 9) 0⟩,
  ⟨none,(some 11),.ext (.t 9) 1⟩,
  ⟨none,(some 4),.mov (.t 10)⟩,
  ⟨none,(some 5),.mov (.t 11)⟩])
 .ret))
 ntmps:=12
 res:=[.tmp 4,.tmp 5]
theorem zetr:zsjc P Tryz.f78=some a78:=by kernel_rfl
def a51:AFn where
 code:=(.seq (.region false [⟨none,(some 2),.box (.t 0)⟩,
  ⟨none,(some 3),.box (.t 1)⟩,
  ⟨none,(some 4),.mov (.k (.bool false))⟩])
 (.seq (.region false [⟨none,(some 8),.load 2 true (.t 2)⟩,
  ⟨none,(some 9),.load 34 true (.t 3)⟩,
  ⟨none,(some 10),.call (.k (.fn (.func 78) [] [])) [(.t 8),(.t 9)]⟩,
  ⟨none,(some 7),.mov (.t 10)⟩,
  ⟨none,(some 11),.ext (.t 7) 0⟩,
  ⟨none,(some 12),.ext (.t 7) 1⟩,
  ⟨none,(some 5),.mov (.t 11)⟩,
  ⟨none,(some 6),.mov (.t 12)⟩])
 (.seq (.region false [⟨none,(some 13),.mov (.t 6)⟩,
  ⟨none,(some 14),.mov (.t 13)⟩,
  ⟨(some (14,true)),(some 15),.fld 1 (.t 2)⟩,
  ⟨(some (14,true)),(some 16),.load 1 false (.t 15)⟩,
  ⟨(some (14,true)),(some 17),.mov (.t 5)⟩,
  ⟨(some (14,true)),(some 18),.idxS 105 (.t 16) (.t 17)⟩,
  ⟨(some (14,true)),(some 19),.fld 34 (.t 18)⟩,
  ⟨(some (14,true)),(some 20),.fld 0 (.t 19)⟩,
  ⟨(some (14,true)),(some 21),.load 1 false (.t 20)⟩,
  ⟨none,(some 22),.pick (.t 14) (.t 21) (.k (.bool false))⟩,
  ⟨none,(some 4),.mov (.t 22)⟩])
 .ret)))
 ntmps:=23
 res:=[.tmp 4]
theorem z8rx:zsjc P Tryz.f51=some a51:=by kernel_rfl
def zyu0:ACode :=
 (.seq (.region false [⟨none,(some 36),.bin .lss (.t 35) (.t 34)⟩])
 (.seq (.cond (.t 36) .skip
 (.exit 0))
 (.seq (.block 1 (.seq (.region false [⟨none,(some 37),.idxS 32 (.t 33) (.t 35)⟩,
  ⟨none,(some 38),.load 32 true (.t 37)⟩,
  ⟨none,(some 14),.alloc (rep 32 (w8 0#8))⟩,
  ⟨none,none,.store 32 (.t 14) (.t 38)⟩])
 (.seq (.region false [⟨none,(some 40),.mov (.t 2)⟩,
  ⟨none,(some 41),.mov (.t 3)⟩,
  ⟨none,(some 42),.load 32 true (.t 14)⟩,
  ⟨none,(some 43),.call (.k (.fn (.func 42) [] [])) [(.t 40),(.t 41),(.t 42)]⟩,
  ⟨none,(some 39),.mov (.t 43)⟩,
  ⟨none,(some 44),.ext (.t 39) 0⟩,
  ⟨none,(some 45),.ext (.t 39) 1⟩,
  ⟨none,(some 15),.mov (.t 44)⟩,
  ⟨none,(some 16),.mov (.t 45)⟩])
 (.seq (.seq (.region false [⟨none,(some 46),.mov (.t 16)⟩,
  ⟨none,(some 47),.mov (.t 46)⟩,
  ⟨(some (47,true)),(some 48),.mov (.t 2)⟩,
  ⟨(some (47,true)),(some 49),.mov (.t 15)⟩,
  ⟨(some (47,true)),(some 50),.idxS 35 (.t 48) (.t 49)⟩,
  ⟨(some (47,true)),(some 51),.fld 34 (.t 50)⟩,
  ⟨(some (47,true)),(some 52),.load 1 false (.t 51)⟩,
  ⟨(some (47,true)),(some 53),.mov (.t 4)⟩,
  ⟨(some (47,true)),(some 54),.bin .gtr (.t 52) (.t 53)⟩,
  ⟨none,(some 55),.pick (.t 47) (.t 54) (.k (.bool false))⟩])
 (.cond (.t 55) (.exit 1)
 .skip))
 (.seq (.region false [⟨none,(some 56),.load 2 true (.t 6)⟩,
  ⟨none,(some 57),.fld 0 (.t 12)⟩,
  ⟨none,(some 58),.load 1 false (.t 57)⟩,
  ⟨none,(some 59),.fld 1 (.t 12)⟩,
  ⟨none,(some 60),.load 1 false (.t 59)⟩,
  ⟨none,(some 61),.load 32 true (.t 14)⟩,
  ⟨none,(some 62),.build [(.str []),(.str []),(w8 0#8),(w8 0#8),(w8 0#8),(w8 0#8),(w8 0#8),(w8 0#8),(w8 0#8),(w8 0#8),(w8 0#8),(w8 0#8),(w8 0#8),(w8 0#8),(w8 0#8),(w8 0#8),(w8 0#8),(w8 0#8),(w8 0#8),(w8 0#8),(w8 0#8),(w8 0#8),(w8 0#8),(w8 0#8),(w8 0#8),(w8 0#8),(w8 0#8),(w8 0#8),(w8 0#8),(w8 0#8),(w8 0#8),(w8 0#8),(w8 0#8),(w8 0#8)] [(0,1,(.t 58)),(1,1,(.t 60)),(2,32,(.t 61))]⟩,
  ⟨none,(some 63),.call (.k (.fn (.func 51) [] [])) [(.t 56),(.t 62)]⟩])
 (.cond (.t 63) (.seq (.region false [⟨none,(some 64),.load 32 true (.t 14)⟩,
  ⟨none,none,.store 32 (.t 10) (.t 64)⟩,
  ⟨none,(some 11),.mov (.k (.bool true))⟩])
 .ret)
 .skip))))))
 (.region false [⟨none,(some 65),.bin .add (.t 35) (.k (.int .i64 1))⟩,
  ⟨none,(some 35),.mov (.t 65)⟩]))))
def a23:AFn where
 code:=(.seq (.region false [⟨none,(some 5),.box (.t 0)⟩,
  ⟨none,(some 6),.box (.t 1)⟩,
  ⟨none,(some 10),.alloc (rep 32 (w8 0#8))⟩,
  ⟨none,(some 11),.mov (.k (.bool false))⟩])
 (.seq (.seq (.region false [⟨none,(some 17),.mov (.t 3)⟩,
  ⟨none,(some 18),.bin .lss (.t 17) (.k (.int .i64 0))⟩,
  ⟨none,(some 19),.mov (.t 18)⟩,
  ⟨(some (19,false)),(some 20),.mov (.t 3)⟩,
  ⟨(some (19,false)),(some 21),.fld 0 (.t 5)⟩,
  ⟨(some (19,false)),(some 22),.load 1 false (.t 21)⟩,
  ⟨(some (19,false)),(some 23),.len (.t 22)⟩,
  ⟨(some (19,false)),(some 24),.bin .geq (.t 20) (.t 23)⟩,
  ⟨none,(some 25),.pick (.t 19) (.k (.bool true)) (.t 24)⟩])
 (.cond (.t 25) (.seq (.region false [⟨none,(some 26),.build (rep 32 (w8 0#8)) []⟩,
  ⟨none,none,.store 32 (.t 10) (.t 26)⟩,
  ⟨none,(some 11),.mov (.k (.bool false))⟩])
 .ret)
 .skip))
 (.seq (.region false [⟨none,(some 27),.fld 0 (.t 5)⟩,
  ⟨none,(some 28),.load 1 false (.t 27)⟩,
  ⟨none,(some 29),.mov (.t 3)⟩,
  ⟨none,(some 30),.idxS 6 (.t 28) (.t 29)⟩,
  ⟨none,(some 31),.load 6 true (.t 30)⟩,
  ⟨none,(some 12),.alloc [(.str []),(.str []),(.int .i64 0),(.int .i64 0),(.int .i64 0),.nils]⟩,
  ⟨none,none,.store 6 (.t 12) (.t 31)⟩])
 (.seq (.seq (.region false [⟨none,(some 32),.fld 5 (.t 12)⟩,
  ⟨none,(some 33),.load 1 false (.t 32)⟩,
  ⟨none,(some 34),.len (.t 33)⟩,
  ⟨none,(some 35),.mov (.k (.int .i64 0))⟩])
 (.block 0 (.loop zyu0)))
 (.seq (.region false [⟨none,(some 66),.build (rep 32 (w8 0#8)) []⟩,
  ⟨none,none,.store 32 (.t 10) (.t 66)⟩,
  ⟨none,(some 11),.mov (.k (.bool false))⟩])
 .ret)))))
 ntmps:=67
 res:=[.cell 10 32 true,.tmp 11]
theorem ztyx:zsjc P Tryz.f23=some a23:=by kernel_rfl
def z5oa:ACode :=
 (.seq (.region false [⟨none,(some 16),.bin .lss (.t 15) (.t 14)⟩])
 (.seq (.cond (.t 16) .skip
 (.exit 0))
 (.seq (.block 1 (.seq (.region false [⟨none,(some 17),.mov (.t 15)⟩,
  ⟨none,(some 3),.mov (.t 17)⟩])
 (.region true [⟨none,(some 18),.fld 0 (.t 1)⟩,
  ⟨none,(some 19),.load 1 false (.t 18)⟩,
  ⟨none,(some 20),.mov (.t 3)⟩,
  ⟨none,(some 21),.fld 0 (.t 1)⟩,
  ⟨none,(some 22),.load 1 false (.t 21)⟩,
  ⟨none,(some 23),.mov (.t 3)⟩,
  ⟨none,(some 24),.idxS 6 (.t 22) (.t 23)⟩,
  ⟨none,(some 25),.fld 5 (.t 24)⟩,
  ⟨none,(some 26),.load 1 false (.t 25)⟩,
  ⟨none,(some 27),.callN (.k (.fn (.func 81) [] [])) [(.t 26)]⟩,
  ⟨none,(some 28),.idxS 6 (.t 19) (.t 20)⟩,
  ⟨none,(some 29),.fld 5 (.t 28)⟩,
  ⟨none,none,.store 1 (.t 29) (.t 27)⟩])))
 (.region false [⟨none,(some 30),.bin .add (.t 15) (.k (.int .i64 1))⟩,
  ⟨none,(some 15),.mov (.t 30)⟩]))))
def a52:AFn where
 code:=(.seq (.region false [⟨none,(some 1),.box (.t 0)⟩,
  ⟨none,(some 2),.alloc [.nils,.nils,(.int .i64 0)]⟩])
 (.seq (.region true [⟨none,(some 4),.fld 0 (.t 1)⟩,
  ⟨none,(some 5),.load 1 false (.t 4)⟩,
  ⟨none,(some 7),.fld 1 (.t 1)⟩,
  ⟨none,(some 8),.load 1 false (.t 7)⟩,
  ⟨none,(some 6),.callN (.k (.fn (.func 79) [] [])) [(.t 5)]⟩,
  ⟨none,(some 10),.fld 0 (.t 1)⟩,
  ⟨none,(some 9),.callN (.k (.fn (.func 80) [] [])) [(.t 8)]⟩,
  ⟨none,none,.store 1 (.t 10) (.t 6)⟩,
  ⟨none,(some 11),.fld 1 (.t 1)⟩,
  ⟨none,none,.store 1 (.t 11) (.t 9)⟩])
 (.seq (.seq (.region false [⟨none,(some 12),.fld 0 (.t 1)⟩,
  ⟨none,(some 13),.load 1 false (.t 12)⟩,
  ⟨none,(some 14),.len (.t 13)⟩,
  ⟨none,(some 15),.mov (.k (.int .i64 0))⟩])
 (.block 0 (.loop z5oa)))
 (.seq (.region false [⟨none,(some 31),.load 3 true (.t 1)⟩,
  ⟨none,none,.store 3 (.t 2) (.t 31)⟩])
 .ret))))
 ntmps:=32
 res:=[.cell 2 3 true]
theorem zil0:zsjc P Tryz.f52=some a52:=by kernel_rfl
def zt7b:ACode :=
 (.seq (.region false [⟨none,(some 12),.bin .lss (.t 11) (.t 10)⟩])
 (.seq (.cond (.t 12) .skip
 (.exit 0))
 (.seq (.block 1 (.seq (.region false [⟨none,(some 13),.idxS 1 (.t 9) (.t 11)⟩,
  ⟨none,(some 14),.load 1 false (.t 13)⟩,
  ⟨none,(some 5),.mov (.t 14)⟩])
 (.seq (.region false [⟨none,(some 15),.mov (.t 0)⟩,
  ⟨none,(some 16),.nilc (.t 15)⟩,
  ⟨none,(some 17),.fld 0 (.t 16)⟩,
  ⟨none,(some 18),.load 3 true (.t 17)⟩,
  ⟨none,(some 19),.mov (.t 5)⟩,
  ⟨none,(some 20),.call (.k (.fn (.func 82) [] [])) [(.t 18),(.t 19)]⟩,
  ⟨none,(some 6),.mov (.t 20)⟩])
 (.seq (.region true [⟨none,(some 22),.mov (.t 0)⟩,
  ⟨none,(some 23),.nilc (.t 22)⟩,
  ⟨none,(some 24),.fld 0 (.t 23)⟩,
  ⟨none,(some 25),.load 3 true (.t 24)⟩,
  ⟨none,(some 26),.mov (.t 5)⟩,
  ⟨none,(some 27),.mov (.t 0)⟩,
  ⟨none,(some 28),.nilc (.t 27)⟩,
  ⟨none,(some 29),.fld 6 (.t 28)⟩,
  ⟨none,(some 30),.load 1 false (.t 29)⟩,
  ⟨none,(some 31),.callN (.k (.fn (.func 83) [] [])) [(.t 25),(.t 26),(.t 30)]⟩,
  ⟨none,(some 21),.mov (.t 31)⟩,
  ⟨none,(some 32),.ext (.t 21) 0⟩,
  ⟨none,(some 33),.ext (.t 21) 1⟩,
  ⟨none,(some 7),.alloc [.nils,.nils,(.int .i64 0)]⟩,
  ⟨none,none,.store 3 (.t 7) (.t 32)⟩,
  ⟨none,(some 8),.mov (.t 33)⟩])
 (.seq (.seq (.region false [⟨none,(some 34),.mov (.t 8)⟩,
  ⟨none,(some 35),.bin .neq (.t 34) (.k (.int .i64 0))⟩])
 (.cond (.t 35) (.exit 1)
 .skip))
 (.seq (.region true [⟨none,(some 36),.mov (.t 0)⟩,
  ⟨none,(some 37),.mov (.t 0)⟩,
  ⟨none,(some 38),.nilc (.t 37)⟩,
  ⟨none,(some 39),.fld 7 (.t 38)⟩,
  ⟨none,(some 40),.load 1 false (.t 39)⟩,
  ⟨none,(some 41),.mov (.t 5)⟩,
  ⟨none,(some 42),.mov (.t 0)⟩,
  ⟨none,(some 43),.nilc (.t 42)⟩,
  ⟨none,(some 44),.fld 0 (.t 43)⟩,
  ⟨none,(some 45),.fld 1 (.t 44)⟩,
  ⟨none,(some 46),.load 1 false (.t 45)⟩,
  ⟨none,(some 47),.mov (.t 6)⟩,
  ⟨none,(some 48),.idxS 37 (.t 46) (.t 47)⟩,
  ⟨none,(some 49),.fld 2 (.t 48)⟩,
  ⟨none,(some 50),.load 32 true (.t 49)⟩,
  ⟨none,(some 51),.build [(.int .i64 0),(.int .i64 0),(w8 0#8),(w8 0#8),(w8 0#8),(w8 0#8),(w8 0#8),(w8 0#8),(w8 0#8),(w8 0#8),(w8 0#8),(w8 0#8),(w8 0#8),(w8 0#8),(w8 0#8),(w8 0#8),(w8 0#8),(w8 0#8),(w8 0#8),(w8 0#8),(w8 0#8),(w8 0#8),(w8 0#8),(w8 0#8),(w8 0#8),(w8 0#8),(w8 0#8),(w8 0#8),(w8 0#8),(w8 0#8),(w8 0#8),(w8 0#8),(w8 0#8),(w8 0#8)] [(0,1,(.k (.int .i64 2))),(1,1,(.t 41)),(2,32,(.t 50))]⟩,
  ⟨none,(some 52),.bsl 34 1 [(.int .i64 0),(.int .i64 0),(w8 0#8),(w8 0#8),(w8 0#8),(w8 0#8),(w8 0#8),(w8 0#8),(w8 0#8),(w8 0#8),(w8 0#8),(w8 0#8),(w8 0#8),(w8 0#8),(w8 0#8),(w8 0#8),(w8 0#8),(w8 0#8),(w8 0#8),(w8 0#8),(w8 0#8),(w8 0#8),(w8 0#8),(w8 0#8),(w8 0#8),(w8 0#8),(w8 0#8),(w8 0#8),(w8 0#8),(w8 0#8),(w8 0#8),(w8 0#8),(w8 0#8),(w8 0#8)] [(0,34,(.t 51))]⟩,
  ⟨none,(some 53),.app 34 48 (.t 40) (.t 52)⟩,
  ⟨none,(some 54),.nilc (.t 36)⟩,
  ⟨none,(some 55),.fld 7 (.t 54)⟩,
  ⟨none,none,.store 1 (.t 55) (.t 53)⟩])
 (.region false [⟨none,(some 56),.mov (.t 0)⟩,
  ⟨none,(some 57),.load 3 true (.t 7)⟩,
  ⟨none,(some 58),.nilc (.t 56)⟩,
  ⟨none,(some 59),.fld 0 (.t 58)⟩,
  ⟨none,none,.store 3 (.t 59) (.t 57)⟩])))))))
 (.region false [⟨none,(some 60),.bin .add (.t 11) (.k (.int .i64 1))⟩,
  ⟨none,(some 11),.mov (.t 60)⟩]))))
def a53:AFn where
 code:=(.seq (.region false [⟨none,(some 9),.mov (.t 1)⟩,
  ⟨none,(some 10),.len (.t 9)⟩,
  ⟨none,(some 11),.mov (.k (.int .i64 0))⟩])
 (.block 0 (.loop zt7b)))
 ntmps:=61
 res:=[]
theorem zq51:zsjc P Tryz.f53=some a53:=by kernel_rfl
def a90:AFn where
 code:=(.seq (.region false [⟨none,(some 4),.mov (.k (.bool false))⟩])
 (.seq (.region true [⟨none,(some 11),.mov (.t 0)⟩,
  ⟨none,(some 12),.nilc (.t 11)⟩,
  ⟨none,(some 13),.fld 0 (.t 12)⟩,
  ⟨none,(some 14),.load 3 true (.t 13)⟩,
  ⟨none,(some 15),.mov (.t 0)⟩,
  ⟨none,(some 16),.nilc (.t 15)⟩,
  ⟨none,(some 17),.fld 3 (.t 16)⟩,
  ⟨none,(some 18),.load 2 true (.t 17)⟩,
  ⟨none,(some 19),.mov (.t 0)⟩,
  ⟨none,(some 20),.nilc (.t 19)⟩,
  ⟨none,(some 21),.fld 5 (.t 20)⟩,
  ⟨none,(some 22),.load 1 false (.t 21)⟩,
  ⟨none,(some 23),.mov (.t 1)⟩,
  ⟨none,(some 24),.mov (.t 0)⟩,
  ⟨none,(some 25),.nilc (.t 24)⟩,
  ⟨none,(some 26),.fld 6 (.t 25)⟩,
  ⟨none,(some 27),.load 1 false (.t 26)⟩,
  ⟨none,(some 28),.callN (.k (.fn (.func 23) [] [])) [(.t 14),(.t 18),(.t 22),(.t 23),(.t 27)]⟩,
  ⟨none,(some 10),.mov (.t 28)⟩,
  ⟨none,(some 29),.ext (.t 10) 0⟩,
  ⟨none,(some 30),.ext (.t 10) 1⟩,
  ⟨none,(some 5),.alloc (rep 32 (w8 0#8))⟩,
  ⟨none,none,.store 32 (.t 5) (.t 29)⟩,
  ⟨none,(some 6),.mov (.t 30)⟩])
 (.seq (.seq (.region false [⟨none,(some 31),.mov (.t 6)⟩,
  ⟨none,(some 32),.un .not (.t 31)⟩])
 (.cond (.t 32) (.seq (.region false [⟨none,(some 4),.mov (.k (.bool false))⟩])
 .ret)
 .skip))
 (.seq (.region true [⟨none,(some 34),.mov (.t 0)⟩,
  ⟨none,(some 35),.nilc (.t 34)⟩,
  ⟨none,(some 36),.fld 0 (.t 35)⟩,
  ⟨none,(some 37),.load 3 true (.t 36)⟩,
  ⟨none,(some 38),.mov (.t 1)⟩,
  ⟨none,(some 39),.load 32 true (.t 5)⟩,
  ⟨none,(some 40),.mov (.t 0)⟩,
  ⟨none,(some 41),.nilc (.t 40)⟩,
  ⟨none,(some 42),.fld 6 (.t 41)⟩,
  ⟨none,(some 43),.load 1 false (.t 42)⟩,
  ⟨none,(some 44),.callN (.k (.fn (.func 125) [] [])) [(.t 37),(.t 38),(.t 39),(.t 43)]⟩,
  ⟨none,(some 33),.mov (.t 44)⟩,
  ⟨none,(some 45),.ext (.t 33) 0⟩,
  ⟨none,(some 46),.ext (.t 33) 1⟩,
  ⟨none,(some 47),.ext (.t 33) 2⟩,
  ⟨none,(some 7),.alloc [.nils,.nils,(.int .i64 0)]⟩,
  ⟨none,none,.store 3 (.t 7) (.t 45)⟩,
  ⟨none,(some 8),.mov (.t 46)⟩,
  ⟨none,(some 9),.mov (.t 47)⟩])
 (.seq (.seq (.region false [⟨none,(some 48),.mov (.t 9)⟩,
  ⟨none,(some 49),.bin .neq (.t 48) (.k (.int .i64 0))⟩])
 (.cond (.t 49) (.seq (.region false [⟨none,(some 4),.mov (.k (.bool false))⟩])
 .ret)
 .skip))
 (.seq (.region false [⟨none,(some 50),.mov (.t 0)⟩,
  ⟨none,(some 51),.load 3 true (.t 7)⟩,
  ⟨none,(some 52),.nilc (.t 50)⟩,
  ⟨none,(some 53),.fld 0 (.t 52)⟩,
  ⟨none,none,.store 3 (.t 53) (.t 51)⟩])
 (.seq (.region true [⟨none,(some 54),.mov (.t 0)⟩,
  ⟨none,(some 55),.mov (.t 0)⟩,
  ⟨none,(some 56),.nilc (.t 55)⟩,
  ⟨none,(some 57),.fld 7 (.t 56)⟩,
  ⟨none,(some 58),.load 1 false (.t 57)⟩,
  ⟨none,(some 59),.mov (.t 8)⟩,
  ⟨none,(some 60),.load 32 true (.t 5)⟩,
  ⟨none,(some 61),.build [(.int .i64 0),(.int .i64 0),(w8 0#8),(w8 0#8),(w8 0#8),(w8 0#8),(w8 0#8),(w8 0#8),(w8 0#8),(w8 0#8),(w8 0#8),(w8 0#8),(w8 0#8),(w8 0#8),(w8 0#8),(w8 0#8),(w8 0#8),(w8 0#8),(w8 0#8),(w8 0#8),(w8 0#8),(w8 0#8),(w8 0#8),(w8 0#8),(w8 0#8),(w8 0#8),(w8 0#8),(w8 0#8),(w8 0#8),(w8 0#8),(w8 0#8),(w8 0#8),(w8 0#8),(w8 0#8)] [(0,1,(.k (.int .i64 1))),(1,1,(.t 59)),(2,32,(.t 60))]⟩,
  ⟨none,(some 62),.bsl 34 1 [(.int .i64 0),(.int .i64 0),(w8 0#8),(w8 0#8),(w8 0#8),(w8 0#8),(w8 0#8),(w8 0#8),(w8 0#8),(w8 0#8),(w8 0#8),(w8 0#8),(w8 0#8),(w8 0#8),(w8 0#8),(w8 0#8),(w8 0#8),(w8 0#8),(w8 0#8),(w8 0#8),(w8 0#8),(w8 0#8),(w8 0#8),(w8 0#8),(w8 0#8),(w8 0#8),(w8 0#8),(w8 0#8),(w8 0#8),(w8 0#8),(w8 0#8),(w8 0#8),(w8 0#8),(w8 0#8)] [(0,34,(.t 61))]⟩,
  ⟨none,(some 63),.app 34 48 (.t 58) (.t 62)⟩,
  ⟨none,(some 64),.nilc (.t 54)⟩,
  ⟨none,(some 65),.fld 7 (.t 64)⟩,
  ⟨none,none,.store 1 (.t 65) (.t 63)⟩])
 (.seq (.region false [⟨none,(some 4),.mov (.k (.bool true))⟩])
 .ret))))))))
 ntmps:=66
 res:=[.tmp 4]
theorem z9pi:zsjc P Tryz.f90=some a90:=by kernel_rfl
def z7q2:ACode :=
 (.seq (.region false [⟨none,(some 24),.bin .lss (.t 23) (.t 22)⟩])
 (.seq (.cond (.t 24) .skip
 (.exit 0))
 (.seq (.block 1 (.seq (.region false [⟨none,(some 25),.idxS 37 (.t 21) (.t 23)⟩,
  ⟨none,(some 26),.load 37 true (.t 25)⟩,
  ⟨none,(some 10),.alloc [(.int .i64 0),(.int .i64 0),(w8 0#8),(w8 0#8),(w8 0#8),(w8 0#8),(w8 0#8),(w8 0#8),(w8 0#8),(w8 0#8),(w8 0#8),(w8 0#8),(w8 0#8),(w8 0#8),(w8 0#8),(w8 0#8),(w8 0#8),(w8 0#8),(w8 0#8),(w8 0#8),(w8 0#8),(w8 0#8),(w8 0#8),(w8 0#8),(w8 0#8),(w8 0#8),(w8 0#8),(w8 0#8),(w8 0#8),(w8 0#8),(w8 0#8),(w8 0#8),(w8 0#8),(w8 0#8),(.int .i64 0),(.int .i64 0),(.int .i64 0)]⟩,
  ⟨none,none,.store 37 (.t 10) (.t 26)⟩])
 (.seq (.region false [⟨none,(some 27),.fld 1 (.t 10)⟩,
  ⟨none,(some 28),.load 1 false (.t 27)⟩,
  ⟨none,(some 29),.mov (.t 1)⟩,
  ⟨none,(some 30),.bin .eql (.t 28) (.t 29)⟩,
  ⟨none,(some 31),.mov (.t 30)⟩,
  ⟨(some (31,true)),(some 32),.fld 34 (.t 10)⟩,
  ⟨(some (31,true)),(some 33),.load 1 false (.t 32)⟩,
  ⟨(some (31,true)),(some 34),.bin .eql (.t 33) (.k (.int .i64 1))⟩,
  ⟨none,(some 35),.pick (.t 31) (.t 34) (.k (.bool false))⟩,
  ⟨none,(some 36),.mov (.t 35)⟩,
  ⟨(some (36,true)),(some 37),.mov (.t 7)⟩,
  ⟨(some (36,true)),(some 38),.fld 0 (.t 10)⟩,
  ⟨(some (36,true)),(some 39),.load 1 false (.t 38)⟩,
  ⟨(some (36,true)),(some 40),.call (.k (.fn (.func 111) [] [])) [(.t 37),(.t 39)]⟩,
  ⟨(some (36,true)),(some 41),.mov (.t 2)⟩,
  ⟨(some (36,true)),(some 42),.eqb false (.t 40) (.t 41)⟩,
  ⟨none,(some 43),.pick (.t 36) (.t 42) (.k (.bool false))⟩])
 (.cond (.t 43) (.region false [⟨none,(some 44),.mov (.t 8)⟩,
  ⟨none,(some 45),.fld 0 (.t 10)⟩,
  ⟨none,(some 46),.load 1 false (.t 45)⟩,
  ⟨none,(some 47),.bsl 1 1 [(.int .i64 0)] [(0,1,(.t 46))]⟩,
  ⟨none,(some 48),.app 1 8 (.t 44) (.t 47)⟩,
  ⟨none,(some 8),.mov (.t 48)⟩])
 .skip))))
 (.region false [⟨none,(some 49),.bin .add (.t 23) (.k (.int .i64 1))⟩,
  ⟨none,(some 23),.mov (.t 49)⟩]))))
def a85:AFn where
 code:=(.seq (.region false [⟨none,(some 6),.mov (.k .nils)⟩])
 (.seq (.region false [⟨none,(some 11),.mov (.t 0)⟩,
  ⟨none,(some 12),.nilc (.t 11)⟩,
  ⟨none,(some 13),.fld 0 (.t 12)⟩,
  ⟨none,(some 14),.load 3 true (.t 13)⟩,
  ⟨none,(some 15),.mov (.t 1)⟩,
  ⟨none,(some 16),.call (.k (.fn (.func 87) [] [])) [(.t 14),(.t 15)]⟩,
  ⟨none,(some 7),.mov (.t 16)⟩])
 (.seq (.region false [⟨none,(some 8),.mov (.k .nils)⟩])
 (.seq (.seq (.region false [⟨none,(some 17),.mov (.t 0)⟩,
  ⟨none,(some 18),.nilc (.t 17)⟩,
  ⟨none,(some 19),.fld 0 (.t 18)⟩,
  ⟨none,(some 20),.fld 1 (.t 19)⟩,
  ⟨none,(some 21),.load 1 false (.t 20)⟩,
  ⟨none,(some 22),.len (.t 21)⟩,
  ⟨none,(some 23),.mov (.k (.int .i64 0))⟩])
 (.block 0 (.loop z7q2)))
 (.seq (.region false [⟨none,(some 50),.mov (.t 8)⟩,
  ⟨none,(some 6),.mov (.t 50)⟩])
 .ret)))))
 ntmps:=51
 res:=[.tmp 6]
theorem zu0j:zsjc P Tryz.f85=some a85:=by kernel_rfl
def z44u:ACode :=
 (.seq (.seq (.region false [⟨none,(some 64),.mov (.t 0)⟩,
  ⟨none,(some 65),.nilc (.t 64)⟩,
  ⟨none,(some 66),.fld 0 (.t 65)⟩,
  ⟨none,(some 67),.load 3 true (.t 66)⟩,
  ⟨none,(some 68),.mov (.t 1)⟩,
  ⟨none,(some 69),.call (.k (.fn (.func 87) [] [])) [(.t 67),(.t 68)]⟩,
  ⟨none,(some 70),.len (.t 69)⟩,
  ⟨none,(some 71),.mov (.t 4)⟩,
  ⟨none,(some 72),.bin .lss (.t 70) (.t 71)⟩])
 (.cond (.t 72) .skip
 (.exit 0)))
 (.block 1 (.seq (.region false [⟨none,(some 73),.mov (.t 0)⟩,
  ⟨none,(some 74),.mov (.t 1)⟩,
  ⟨none,(some 75),.call (.k (.fn (.func 90) [] [])) [(.t 73),(.t 74)]⟩,
  ⟨none,(some 76),.un .not (.t 75)⟩])
 (.cond (.t 76) (.exit 0)
 .skip))))
def a55:AFn where
 code:=(.seq (.region false [⟨none,(some 8),.mov (.t 0)⟩,
  ⟨none,(some 9),.nilc (.t 8)⟩,
  ⟨none,(some 10),.fld 0 (.t 9)⟩,
  ⟨none,(some 11),.fld 0 (.t 10)⟩,
  ⟨none,(some 12),.load 1 false (.t 11)⟩,
  ⟨none,(some 13),.mov (.t 1)⟩,
  ⟨none,(some 14),.idxS 6 (.t 12) (.t 13)⟩,
  ⟨none,(some 15),.fld 2 (.t 14)⟩,
  ⟨none,(some 16),.load 1 false (.t 15)⟩,
  ⟨none,(some 4),.mov (.t 16)⟩])
 (.seq (.region false [⟨none,(some 17),.mov (.t 0)⟩,
  ⟨none,(some 18),.mov (.t 0)⟩,
  ⟨none,(some 19),.mov (.t 1)⟩,
  ⟨none,(some 20),.call (.k (.fn (.func 85) [] [])) [(.t 18),(.t 19),(.k (.bool false))]⟩,
  ⟨none,(some 21),.call (.k (.fn (.func 53) [] [])) [(.t 17),(.t 20)]⟩])
 (.seq (.region false [⟨none,(some 22),.mov (.t 0)⟩,
  ⟨none,(some 23),.mov (.t 1)⟩,
  ⟨none,(some 24),.call (.k (.fn (.func 85) [] [])) [(.t 22),(.t 23),(.k (.bool true))]⟩,
  ⟨none,(some 5),.mov (.t 24)⟩])
 (.seq (.region false [⟨none,(some 25),.mov (.t 5)⟩,
  ⟨none,(some 26),.call (.k (.fn (.func 86) [] [])) [(.t 25)]⟩])
 (.seq (.region false [⟨none,(some 27),.mov (.t 0)⟩,
  ⟨none,(some 28),.nilc (.t 27)⟩,
  ⟨none,(some 29),.fld 0 (.t 28)⟩,
  ⟨none,(some 30),.load 3 true (.t 29)⟩,
  ⟨none,(some 31),.mov (.t 1)⟩,
  ⟨none,(some 32),.call (.k (.fn (.func 87) [] [])) [(.t 30),(.t 31)]⟩,
  ⟨none,(some 33),.len (.t 32)⟩,
  ⟨none,(some 34),.mov (.t 4)⟩,
  ⟨none,(some 35),.bin .sub (.t 33) (.t 34)⟩,
  ⟨none,(some 36),.mm true [(.t 35),(.k (.int .i64 0))]⟩,
  ⟨none,(some 6),.mov (.t 36)⟩])
 (.seq (.region false [⟨none,(some 37),.mov (.t 0)⟩,
  ⟨none,(some 38),.mov (.t 5)⟩,
  ⟨none,(some 39),.mov (.t 6)⟩,
  ⟨none,(some 40),.mov (.t 5)⟩,
  ⟨none,(some 41),.len (.t 40)⟩,
  ⟨none,(some 42),.mm false [(.t 39),(.t 41)]⟩,
  ⟨none,(some 43),.slcS 1 (.t 38) none (some (.t 42)) none⟩,
  ⟨none,(some 44),.call (.k (.fn (.func 53) [] [])) [(.t 37),(.t 43)]⟩])
 (.seq (.region false [⟨none,(some 45),.mov (.t 0)⟩,
  ⟨none,(some 46),.nilc (.t 45)⟩,
  ⟨none,(some 47),.fld 0 (.t 46)⟩,
  ⟨none,(some 48),.load 3 true (.t 47)⟩,
  ⟨none,(some 49),.mov (.t 1)⟩,
  ⟨none,(some 50),.call (.k (.fn (.func 88) [] [])) [(.t 48),(.t 49)]⟩,
  ⟨none,(some 7),.mov (.t 50)⟩])
 (.seq (.region false [⟨none,(some 51),.mov (.t 0)⟩,
  ⟨none,(some 52),.mov (.t 7)⟩,
  ⟨none,(some 53),.mov (.t 0)⟩,
  ⟨none,(some 54),.nilc (.t 53)⟩,
  ⟨none,(some 55),.fld 0 (.t 54)⟩,
  ⟨none,(some 56),.load 3 true (.t 55)⟩,
  ⟨none,(some 57),.mov (.t 1)⟩,
  ⟨none,(some 58),.call (.k (.fn (.func 89) [] [])) [(.t 56),(.t 57)]⟩,
  ⟨none,(some 59),.mov (.t 7)⟩,
  ⟨none,(some 60),.len (.t 59)⟩,
  ⟨none,(some 61),.mm false [(.t 58),(.t 60)]⟩,
  ⟨none,(some 62),.slcS 1 (.t 52) none (some (.t 61)) none⟩,
  ⟨none,(some 63),.call (.k (.fn (.func 53) [] [])) [(.t 51),(.t 62)]⟩])
 (.block 0 (.loop z44u))))))))))
 ntmps:=77
 res:=[]
theorem ze8s:zsjc P Tryz.f55=some a55:=by kernel_rfl
def zr8m:ACode :=
 (.seq (.region false [⟨none,(some 31),.bin .lss (.t 30) (.t 29)⟩])
 (.seq (.cond (.t 31) .skip
 (.exit 0))
 (.seq (.block 1 (.seq (.region false [⟨none,(some 32),.mov (.t 30)⟩,
  ⟨none,(some 13),.mov (.t 32)⟩])
 (.region false [⟨none,(some 33),.mov (.t 12)⟩,
  ⟨none,(some 34),.mov (.t 13)⟩,
  ⟨none,(some 35),.call (.k (.fn (.func 55) [] [])) [(.t 33),(.t 34)]⟩])))
 (.region false [⟨none,(some 36),.bin .add (.t 30) (.k (.int .i64 1))⟩,
  ⟨none,(some 30),.mov (.t 36)⟩]))))
def a25:AFn where
 code:=(.seq (.region false [⟨none,(some 5),.box (.t 0)⟩,
  ⟨none,(some 6),.box (.t 1)⟩,
  ⟨none,(some 10),.alloc [.nils,.nils,(.int .i64 0)]⟩,
  ⟨none,(some 11),.mov (.k .nils)⟩])
 (.seq (.region true [⟨none,(some 14),.load 3 true (.t 5)⟩,
  ⟨none,(some 16),.load 2 true (.t 6)⟩,
  ⟨none,(some 17),.mov (.t 2)⟩,
  ⟨none,(some 18),.mov (.t 4)⟩,
  ⟨none,(some 15),.callN (.k (.fn (.func 52) [] [])) [(.t 14)]⟩,
  ⟨none,(some 19),.build [.nils,.nils,(.int .i64 0),(.int .i64 0),.nils,.nils,(.int .i64 0),.nils] [(0,3,(.t 15)),(3,2,(.t 16)),(5,1,(.t 17)),(6,1,(.t 18))]⟩,
  ⟨none,(some 20),.box (.t 19)⟩,
  ⟨none,(some 12),.mov (.t 20)⟩])
 (.seq (.region false [⟨none,(some 21),.mov (.t 12)⟩,
  ⟨none,(some 22),.load 3 true (.t 5)⟩,
  ⟨none,(some 23),.mov (.t 3)⟩,
  ⟨none,(some 24),.mov (.t 4)⟩,
  ⟨none,(some 25),.call (.k (.fn (.func 54) [] [])) [(.t 22),(.t 23),(.t 24)]⟩,
  ⟨none,(some 26),.call (.k (.fn (.func 53) [] [])) [(.t 21),(.t 25)]⟩])
 (.seq (.seq (.region false [⟨none,(some 27),.fld 0 (.t 5)⟩,
  ⟨none,(some 28),.load 1 false (.t 27)⟩,
  ⟨none,(some 29),.len (.t 28)⟩,
  ⟨none,(some 30),.mov (.k (.int .i64 0))⟩])
 (.block 0 (.loop zr8m)))
 (.seq (.region true [⟨none,(some 37),.mov (.t 12)⟩,
  ⟨none,(some 38),.nilc (.t 37)⟩,
  ⟨none,(some 39),.fld 0 (.t 38)⟩,
  ⟨none,(some 40),.load 3 true (.t 39)⟩,
  ⟨none,(some 41),.mov (.t 12)⟩,
  ⟨none,(some 42),.nilc (.t 41)⟩,
  ⟨none,(some 43),.fld 7 (.t 42)⟩,
  ⟨none,(some 44),.load 1 false (.t 43)⟩,
  ⟨none,none,.store 3 (.t 10) (.t 40)⟩,
  ⟨none,(some 11),.mov (.t 44)⟩,
  ⟨none,none,.apart (.t 41) (.t 10)⟩,
  ⟨none,none,.apart (.t 42) (.t 10)⟩,
  ⟨none,none,.apart (.t 43) (.t 10)⟩])
 .ret)))))
 ntmps:=45
 res:=[.cell 10 3 true,.tmp 11]
theorem zgum:zsjc P Tryz.f25=some a25:=by kernel_rfl
def a111:AFn where
 code:=(.seq (.region false [⟨none,(some 4),.mov (.k (.bool false))⟩])
 (.seq (.region false [⟨none,(some 5),.mov (.t 0)⟩,
  ⟨none,(some 6),.mov (.t 1)⟩,
  ⟨none,(some 7),.call (.k (.fn (.func 132) [] [])) [(.t 5),(.t 6)]⟩,
  ⟨none,(some 8),.bin .geq (.t 7) (.k (.int .i64 0))⟩,
  ⟨none,(some 4),.mov (.t 8)⟩])
 .ret))
 ntmps:=9
 res:=[.tmp 4]
theorem zmlq:zsjc P Tryz.f111=some a111:=by kernel_rfl
def z1gp:ACode :=
 (.seq (.region false [⟨none,(some 9),.bin .lss (.t 8) (.t 7)⟩])
 (.seq (.cond (.t 9) .skip
 (.exit 0))
 (.seq (.block 1 (.seq (.region false [⟨none,(some 10),.mov (.t 8)⟩,
  ⟨none,(some 5),.mov (.t 10)⟩])
 (.seq (.region false [⟨none,(some 11),.mov (.t 1)⟩,
  ⟨none,(some 12),.mov (.t 0)⟩,
  ⟨none,(some 13),.mov (.t 5)⟩,
  ⟨none,(some 14),.idxS 1 (.t 12) (.t 13)⟩,
  ⟨none,(some 15),.load 1 false (.t 14)⟩,
  ⟨none,(some 16),.bin .eql (.t 11) (.t 15)⟩])
 (.cond (.t 16) (.seq (.region false [⟨none,(some 17),.mov (.t 5)⟩,
  ⟨none,(some 4),.mov (.t 17)⟩])
 .ret)
 .skip))))
 (.region false [⟨none,(some 18),.bin .add (.t 8) (.k (.int .i64 1))⟩,
  ⟨none,(some 8),.mov (.t 18)⟩]))))
def a132:AFn where
 code:=(.seq (.region false [⟨none,(some 4),.mov (.k (.int .i64 0))⟩])
 (.seq (.seq (.region false [⟨none,(some 6),.mov (.t 0)⟩,
  ⟨none,(some 7),.len (.t 6)⟩,
  ⟨none,(some 8),.mov (.k (.int .i64 0))⟩])
 (.block 0 (.loop z1gp)))
 (.seq (.region false [⟨none,(some 4),.mov (.k (.int .i64 (-1)))⟩])
 .ret)))
 ntmps:=19
 res:=[.tmp 4]
theorem zr93:zsjc P Tryz.f132=some a132:=by kernel_rfl
end
section
set_option linter.unusedSimpArgs false
set_option linter.unusedVariables false
open Go Go.Am
def a21:AFn where
 code:=(.seq (.region false [⟨none,(some 0),.mov (.k (.bool false))⟩])
 (.seq (.region false [⟨none,(some 6),.build (rep 32 (w8 0#8)) [(0,1,(.k (w8 1#8)))]⟩,
  ⟨none,(some 7),.bsl 32 1 (rep 32 (w8 0#8)) [(0,32,(.t 6))]⟩,
  ⟨none,(some 8),.build [(.str []),(.str []),(.int .i64 0),(.int .i64 0),(.int .i64 0),.nils] [(0,1,(.k (.str [97]))),(1,1,(.k (.str [98]))),(2,1,(.k (.int .i64 2))),(3,1,(.k (.int .i64 1))),(4,1,(.k (.int .i64 1))),(5,1,(.t 7))]⟩,
  ⟨none,(some 9),.bsl 6 1 [(.str []),(.str []),(.int .i64 0),(.int .i64 0),(.int .i64 0),.nils] [(0,6,(.t 8))]⟩,
  ⟨none,(some 10),.build [.nils,.nils,(.int .i64 0)] [(0,1,(.t 9)),(2,1,(.k (.int .i64 1)))]⟩,
  ⟨none,(some 1),.alloc [.nils,.nils,(.int .i64 0)]⟩,
  ⟨none,none,.store 3 (.t 1) (.t 10)⟩])
 (.seq (.region false [⟨none,(some 11),.build (rep 32 (w8 0#8)) [(0,1,(.k (w8 1#8)))]⟩,
  ⟨none,(some 12),.build [(.str []),(.str []),(w8 0#8),(w8 0#8),(w8 0#8),(w8 0#8),(w8 0#8),(w8 0#8),(w8 0#8),(w8 0#8),(w8 0#8),(w8 0#8),(w8 0#8),(w8 0#8),(w8 0#8),(w8 0#8),(w8 0#8),(w8 0#8),(w8 0#8),(w8 0#8),(w8 0#8),(w8 0#8),(w8 0#8),(w8 0#8),(w8 0#8),(w8 0#8),(w8 0#8),(w8 0#8),(w8 0#8),(w8 0#8),(w8 0#8),(w8 0#8),(w8 0#8),(w8 0#8)] [(0,1,(.k (.str [97]))),(1,1,(.k (.str [98]))),(2,32,(.t 11))]⟩,
  ⟨none,(some 13),.build [(.bool false),(w8 0#8),(w8 0#8),(w8 0#8),(w8 0#8),(w8 0#8),(w8 0#8),(w8 0#8),(w8 0#8),(w8 0#8),(w8 0#8),(w8 0#8),(w8 0#8),(w8 0#8),(w8 0#8),(w8 0#8),(w8 0#8),(w8 0#8),(w8 0#8),(w8 0#8),(w8 0#8),(w8 0#8),(w8 0#8),(w8 0#8),(w8 0#8),(w8 0#8),(w8 0#8),(w8 0#8),(w8 0#8),(w8 0#8),(w8 0#8),(w8 0#8),(w8 0#8),(.int .i64 0),(w8 0#8),(w8 0#8),(w8 0#8),(w8 0#8),(w8 0#8),(w8 0#8),(w8 0#8),(w8 0#8),(w8 0#8),(w8 0#8),(w8 0#8),(w8 0#8),(w8 0#8),(w8 0#8),(w8 0#8),(w8 0#8),(w8 0#8),(w8 0#8),(w8 0#8),(w8 0#8),(w8 0#8),(w8 0#8),(w8 0#8),(w8 0#8),(w8 0#8),(w8 0#8),(w8 0#8),(w8 0#8),(w8 0#8),(w8 0#8),(w8 0#8),(w8 0#8),(.str []),(.str []),.nils] [(0,1,(.k (.bool true)))]⟩,
  ⟨none,(some 14),.build [(.str []),(.str []),(w8 0#8),(w8 0#8),(w8 0#8),(w8 0#8),(w8 0#8),(w8 0#8),(w8 0#8),(w8 0#8),(w8 0#8),(w8 0#8),(w8 0#8),(w8 0#8),(w8 0#8),(w8 0#8),(w8 0#8),(w8 0#8),(w8 0#8),(w8 0#8),(w8 0#8),(w8 0#8),(w8 0#8),(w8 0#8),(w8 0#8),(w8 0#8),(w8 0#8),(w8 0#8),(w8 0#8),(w8 0#8),(w8 0#8),(w8 0#8),(w8 0#8),(w8 0#8),(.bool false),(w8 0#8),(w8 0#8),(w8 0#8),(w8 0#8),(w8 0#8),(w8 0#8),(w8 0#8),(w8 0#8),(w8 0#8),(w8 0#8),(w8 0#8),(w8 0#8),(w8 0#8),(w8 0#8),(w8 0#8),(w8 0#8),(w8 0#8),(w8 0#8),(w8 0#8),(w8 0#8),(w8 0#8),(w8 0#8),(w8 0#8),(w8 0#8),(w8 0#8),(w8 0#8),(w8 0#8),(w8 0#8),(w8 0#8),(w8 0#8),(w8 0#8),(w8 0#8),(.int .i64 0),(w8 0#8),(w8 0#8),(w8 0#8),(w8 0#8),(w8 0#8),(w8 0#8),(w8 0#8),(w8 0#8),(w8 0#8),(w8 0#8),(w8 0#8),(w8 0#8),(w8 0#8),(w8 0#8),(w8 0#8),(w8 0#8),(w8 0#8),(w8 0#8),(w8 0#8),(w8 0#8),(w8 0#8),(w8 0#8),(w8 0#8),(w8 0#8),(w8 0#8),(w8 0#8),(w8 0#8),(w8 0#8),(w8 0#8),(w8 0#8),(w8 0#8),(w8 0#8),(.str []),(.str []),.nils,.nils,(.int .i64 0)] [(0,34,(.t 12)),(34,69,(.t 13))]⟩,
  ⟨none,(some 15),.bsl 105 1 [(.str []),(.str []),(w8 0#8),(w8 0#8),(w8 0#8),(w8 0#8),(w8 0#8),(w8 0#8),(w8 0#8),(w8 0#8),(w8 0#8),(w8 0#8),(w8 0#8),(w8 0#8),(w8 0#8),(w8 0#8),(w8 0#8),(w8 0#8),(w8 0#8),(w8 0#8),(w8 0#8),(w8 0#8),(w8 0#8),(w8 0#8),(w8 0#8),(w8 0#8),(w8 0#8),(w8 0#8),(w8 0#8),(w8 0#8),(w8 0#8),(w8 0#8),(w8 0#8),(w8 0#8),(.bool false),(w8 0#8),(w8 0#8),(w8 0#8),(w8 0#8),(w8 0#8),(w8 0#8),(w8 0#8),(w8 0#8),(w8 0#8),(w8 0#8),(w8 0#8),(w8 0#8),(w8 0#8),(w8 0#8),(w8 0#8),(w8 0#8),(w8 0#8),(w8 0#8),(w8 0#8),(w8 0#8),(w8 0#8),(w8 0#8),(w8 0#8),(w8 0#8),(w8 0#8),(w8 0#8),(w8 0#8),(w8 0#8),(w8 0#8),(w8 0#8),(w8 0#8),(w8 0#8),(.int .i64 0),(w8 0#8),(w8 0#8),(w8 0#8),(w8 0#8),(w8 0#8),(w8 0#8),(w8 0#8),(w8 0#8),(w8 0#8),(w8 0#8),(w8 0#8),(w8 0#8),(w8 0#8),(w8 0#8),(w8 0#8),(w8 0#8),(w8 0#8),(w8 0#8),(w8 0#8),(w8 0#8),(w8 0#8),(w8 0#8),(w8 0#8),(w8 0#8),(w8 0#8),(w8 0#8),(w8 0#8),(w8 0#8),(w8 0#8),(w8 0#8),(w8 0#8),(w8 0#8),(.str []),(.str []),.nils,.nils,(.int .i64 0)] [(0,105,(.t 14))]⟩,
  ⟨none,(some 16),.build [(.int .i64 0),.nils] [(1,1,(.t 15))]⟩,
  ⟨none,(some 2),.alloc [(.int .i64 0),.nils]⟩,
  ⟨none,none,.store 2 (.t 2) (.t 16)⟩])
 (.seq (.region false [⟨none,(some 18),.load 3 true (.t 1)⟩,
  ⟨none,(some 19),.load 2 true (.t 2)⟩,
  ⟨none,(some 20),.call (.k (.fn (.func 25) [] [])) [(.t 18),(.t 19),(.k .nils),(.k .nils),(.k (.int .i64 5))]⟩,
  ⟨none,(some 17),.mov (.t 20)⟩,
  ⟨none,(some 21),.ext (.t 17) 0⟩,
  ⟨none,(some 22),.ext (.t 17) 1⟩,
  ⟨none,(some 3),.alloc [.nils,.nils,(.int .i64 0)]⟩,
  ⟨none,none,.store 3 (.t 3) (.t 21)⟩,
  ⟨none,(some 4),.mov (.t 22)⟩])
 (.seq (.region false [⟨none,(some 23),.build (rep 32 (w8 0#8)) [(0,1,(.k (w8 1#8)))]⟩,
  ⟨none,(some 24),.call (.k (.fn (.func 15) [] [])) [(.k .nils),(.k (.int .i64 0)),(.t 23),(.k (.int .i64 5))]⟩,
  ⟨none,(some 5),.mov (.t 24)⟩])
 (.seq (.region false [⟨none,(some 25),.mov (.t 4)⟩,
  ⟨none,(some 26),.len (.t 25)⟩,
  ⟨none,(some 27),.bin .eql (.t 26) (.k (.int .i64 2))⟩,
  ⟨none,(some 28),.mov (.t 27)⟩,
  ⟨(some (28,true)),(some 29),.fld 1 (.t 3)⟩,
  ⟨(some (28,true)),(some 30),.load 1 false (.t 29)⟩,
  ⟨(some (28,true)),(some 31),.len (.t 30)⟩,
  ⟨(some (28,true)),(some 32),.bin .eql (.t 31) (.k (.int .i64 2))⟩,
  ⟨none,(some 33),.pick (.t 28) (.t 32) (.k (.bool false))⟩,
  ⟨none,(some 34),.mov (.t 33)⟩,
  ⟨(some (34,true)),(some 35),.mov (.t 5)⟩,
  ⟨(some (34,true)),(some 36),.len (.t 35)⟩,
  ⟨(some (34,true)),(some 37),.bin .eql (.t 36) (.k (.int .i64 1))⟩,
  ⟨none,(some 38),.pick (.t 34) (.t 37) (.k (.bool false))⟩,
  ⟨none,(some 39),.mov (.t 38)⟩,
  ⟨(some (39,true)),(some 40),.mov (.t 5)⟩,
  ⟨(some (39,true)),(some 41),.idxS 35 (.t 40) (.k (.int .i64 0))⟩,
  ⟨(some (39,true)),(some 42),.fld 34 (.t 41)⟩,
  ⟨(some (39,true)),(some 43),.load 1 false (.t 42)⟩,
  ⟨(some (39,true)),(some 44),.bin .eql (.t 43) (.k (.int .i64 7))⟩,
  ⟨none,(some 45),.pick (.t 39) (.t 44) (.k (.bool false))⟩,
  ⟨none,(some 46),.mov (.t 45)⟩,
  ⟨(some (46,true)),(some 47),.mov (.t 5)⟩,
  ⟨(some (46,true)),(some 48),.build (rep 32 (w8 0#8)) [(0,1,(.k (w8 1#8)))]⟩,
  ⟨(some (46,true)),(some 49),.call (.k (.fn (.func 17) [] [])) [(.t 47),(.k (.int .i64 0)),(.t 48)]⟩,
  ⟨(some (46,true)),(some 50),.len (.t 49)⟩,
  ⟨(some (46,true)),(some 51),.bin .eql (.t 50) (.k (.int .i64 0))⟩,
  ⟨none,(some 52),.pick (.t 46) (.t 51) (.k (.bool false))⟩,
  ⟨none,(some 53),.mov (.t 52)⟩,
  ⟨(some (53,true)),(some 54),.mov (.t 5)⟩,
  ⟨(some (53,true)),(some 55),.call (.k (.fn (.func 19) [] [])) [(.t 54),(.k (.int .i64 0)),(.k .nils)]⟩,
  ⟨(some (53,true)),(some 56),.len (.t 55)⟩,
  ⟨(some (53,true)),(some 57),.bin .eql (.t 56) (.k (.int .i64 0))⟩,
  ⟨none,(some 58),.pick (.t 53) (.t 57) (.k (.bool false))⟩,
  ⟨none,(some 0),.mov (.t 58)⟩])
 .ret))))))
 ntmps:=59
 res:=[.tmp 0]
theorem zyfb:zsjc P Tryz.f21=some a21:=by kernel_rfl
end
section
set_option linter.unusedSimpArgs false
set_option linter.unusedVariables false
open Go Go.Am
end
section
set_option linter.unusedSimpArgs false
set_option linter.unusedVariables false
open Go Go.Am
def zjzl:ACode :=
 (.seq (.seq (.region false [⟨none,(some 6),.mov (.t 5)⟩,
  ⟨none,(some 7),.bin .lss (.t 6) (.k (.int .i64 32))⟩])
 (.cond (.t 7) .skip
 (.exit 0)))
 (.seq (.block 1 (.seq (.region true [⟨none,(some 10),.mov (.t 5)⟩,
  ⟨none,(some 11),.idxA 32 1 (.t 2) (.t 10)⟩,
  ⟨none,(some 12),.load 1 false (.t 11)⟩,
  ⟨none,(some 13),.mov (.t 5)⟩,
  ⟨none,(some 14),.idxA 32 1 (.t 3) (.t 13)⟩,
  ⟨none,(some 15),.load 1 false (.t 14)⟩,
  ⟨none,(some 16),.bin .neq (.t 12) (.t 15)⟩])
 (.cond (.t 16) (.seq (.region true [⟨none,(some 17),.mov (.t 5)⟩,
  ⟨none,(some 18),.idxA 32 1 (.t 2) (.t 17)⟩,
  ⟨none,(some 19),.load 1 false (.t 18)⟩,
  ⟨none,(some 20),.mov (.t 5)⟩,
  ⟨none,(some 21),.idxA 32 1 (.t 3) (.t 20)⟩,
  ⟨none,(some 22),.load 1 false (.t 21)⟩,
  ⟨none,(some 23),.bin .lss (.t 19) (.t 22)⟩,
  ⟨none,(some 4),.mov (.t 23)⟩])
 .ret)
 .skip)))
 (.region false [⟨none,(some 8),.mov (.t 5)⟩,
  ⟨none,(some 9),.bin .add (.t 8) (.k (.int .i64 1))⟩,
  ⟨none,(some 5),.mov (.t 9)⟩])))
def zu12 (x2 x3 x5:DV) (h:List AObj):St:=⟨[.junk,.junk,x2,x3,.junk,x5]++js 18,h⟩
def a75:AFn where
 code:=(.seq (.region false [⟨none,(some 2),.box (.t 0)⟩,
  ⟨none,(some 3),.box (.t 1)⟩,
  ⟨none,(some 4),.mov (.k (.bool false))⟩])
 (.seq (.seq (.region false [⟨none,(some 5),.mov (.k (.int .i64 0))⟩])
 (.block 0 (.loop zjzl)))
 (.seq (.region false [⟨none,(some 4),.mov (.k (.bool false))⟩])
 .ret)))
 ntmps:=24
 res:=[.tmp 4]
theorem zrvd:zsjc P Tryz.f75=some a75:=by kernel_rfl
def a100:AFn where
 code:=(.seq (.region false [⟨none,(some 2),.box (.t 0)⟩,
  ⟨none,(some 3),.box (.t 1)⟩,
  ⟨none,(some 4),.mov (.k (.bool false))⟩])
 (.seq (.seq (.region false [⟨none,(some 5),.fld 0 (.t 2)⟩,
  ⟨none,(some 6),.load 1 false (.t 5)⟩,
  ⟨none,(some 7),.fld 0 (.t 3)⟩,
  ⟨none,(some 8),.load 1 false (.t 7)⟩,
  ⟨none,(some 9),.bin .neq (.t 6) (.t 8)⟩])
 (.cond (.t 9) (.seq (.region false [⟨none,(some 10),.fld 0 (.t 2)⟩,
  ⟨none,(some 11),.load 1 false (.t 10)⟩,
  ⟨none,(some 12),.fld 0 (.t 3)⟩,
  ⟨none,(some 13),.load 1 false (.t 12)⟩,
  ⟨none,(some 14),.bin .lss (.t 11) (.t 13)⟩,
  ⟨none,(some 4),.mov (.t 14)⟩])
 .ret)
 .skip))
 (.seq (.seq (.region false [⟨none,(some 15),.fld 1 (.t 2)⟩,
  ⟨none,(some 16),.load 1 false (.t 15)⟩,
  ⟨none,(some 17),.fld 1 (.t 3)⟩,
  ⟨none,(some 18),.load 1 false (.t 17)⟩,
  ⟨none,(some 19),.bin .neq (.t 16) (.t 18)⟩])
 (.cond (.t 19) (.seq (.region false [⟨none,(some 20),.fld 1 (.t 2)⟩,
  ⟨none,(some 21),.load 1 false (.t 20)⟩,
  ⟨none,(some 22),.fld 1 (.t 3)⟩,
  ⟨none,(some 23),.load 1 false (.t 22)⟩,
  ⟨none,(some 24),.bin .lss (.t 21) (.t 23)⟩,
  ⟨none,(some 4),.mov (.t 24)⟩])
 .ret)
 .skip))
 (.seq (.region false [⟨none,(some 25),.fld 2 (.t 2)⟩,
  ⟨none,(some 26),.load 32 true (.t 25)⟩,
  ⟨none,(some 27),.fld 2 (.t 3)⟩,
  ⟨none,(some 28),.load 32 true (.t 27)⟩,
  ⟨none,(some 29),.call (.k (.fn (.func 75) [] [])) [(.t 26),(.t 28)]⟩,
  ⟨none,(some 4),.mov (.t 29)⟩])
 .ret))))
 ntmps:=30
 res:=[.tmp 4]
theorem zec4:zsjc P Tryz.f100=some a100:=by kernel_rfl
def zfle:ACode :=
 (.seq (.seq (.region true [⟨none,(some 9),.mov (.t 5)⟩,
  ⟨none,(some 10),.bin .gtr (.t 9) (.k (.int .i64 0))⟩,
  ⟨none,(some 11),.mov (.t 10)⟩,
  ⟨(some (11,true)),(some 12),.fld 0 (.t 3)⟩,
  ⟨(some (11,true)),(some 13),.load 34 true (.t 12)⟩,
  ⟨(some (11,true)),(some 14),.fld 1 (.t 2)⟩,
  ⟨(some (11,true)),(some 15),.load 1 false (.t 14)⟩,
  ⟨(some (11,true)),(some 16),.mov (.t 5)⟩,
  ⟨(some (11,true)),(some 17),.bin .sub (.t 16) (.k (.int .i64 1))⟩,
  ⟨(some (11,true)),(some 18),.idxS 105 (.t 15) (.t 17)⟩,
  ⟨(some (11,true)),(some 19),.fld 0 (.t 18)⟩,
  ⟨(some (11,true)),(some 20),.load 34 true (.t 19)⟩,
  ⟨(some (11,true)),(some 21),.callN (.k (.fn (.func 100) [] [])) [(.t 13),(.t 20)]⟩,
  ⟨none,(some 22),.pick (.t 11) (.t 21) (.k (.bool false))⟩])
 (.cond (.t 22) .skip
 (.exit 0)))
 (.block 1 (.region false [⟨none,(some 23),.mov (.t 5)⟩,
  ⟨none,(some 24),.bin .sub (.t 23) (.k (.int .i64 1))⟩,
  ⟨none,(some 5),.mov (.t 24)⟩])))
def zbq4 (x2 x3 x4 x5:DV) (h:List AObj):St:=⟨[.junk,.junk,x2,x3,x4,x5]++js 34,h⟩
def a67:AFn where
 code:=(.seq (.region false [⟨none,(some 2),.box (.t 0)⟩,
  ⟨none,(some 3),.box (.t 1)⟩,
  ⟨none,(some 4),.alloc [(.int .i64 0),.nils]⟩])
 (.seq (.region false [⟨none,(some 6),.fld 1 (.t 2)⟩,
  ⟨none,(some 7),.load 1 false (.t 6)⟩,
  ⟨none,(some 8),.len (.t 7)⟩,
  ⟨none,(some 5),.mov (.t 8)⟩])
 (.seq (.block 0 (.loop zfle))
 (.seq (.region true [⟨none,(some 25),.fld 1 (.t 2)⟩,
  ⟨none,(some 26),.load 1 false (.t 25)⟩,
  ⟨none,(some 27),.mov (.t 5)⟩,
  ⟨none,(some 28),.slcS 105 (.t 26) none (some (.t 27)) none⟩,
  ⟨none,(some 29),.app 105 232 (.k .nils) (.t 28)⟩,
  ⟨none,(some 30),.load 105 true (.t 3)⟩,
  ⟨none,(some 31),.bsl 105 1 [(.str []),(.str []),(w8 0#8),(w8 0#8),(w8 0#8),(w8 0#8),(w8 0#8),(w8 0#8),(w8 0#8),(w8 0#8),(w8 0#8),(w8 0#8),(w8 0#8),(w8 0#8),(w8 0#8),(w8 0#8),(w8 0#8),(w8 0#8),(w8 0#8),(w8 0#8),(w8 0#8),(w8 0#8),(w8 0#8),(w8 0#8),(w8 0#8),(w8 0#8),(w8 0#8),(w8 0#8),(w8 0#8),(w8 0#8),(w8 0#8),(w8 0#8),(w8 0#8),(w8 0#8),(.bool false),(w8 0#8),(w8 0#8),(w8 0#8),(w8 0#8),(w8 0#8),(w8 0#8),(w8 0#8),(w8 0#8),(w8 0#8),(w8 0#8),(w8 0#8),(w8 0#8),(w8 0#8),(w8 0#8),(w8 0#8),(w8 0#8),(w8 0#8),(w8 0#8),(w8 0#8),(w8 0#8),(w8 0#8),(w8 0#8),(w8 0#8),(w8 0#8),(w8 0#8),(w8 0#8),(w8 0#8),(w8 0#8),(w8 0#8),(w8 0#8),(w8 0#8),(w8 0#8),(.int .i64 0),(w8 0#8),(w8 0#8),(w8 0#8),(w8 0#8),(w8 0#8),(w8 0#8),(w8 0#8),(w8 0#8),(w8 0#8),(w8 0#8),(w8 0#8),(w8 0#8),(w8 0#8),(w8 0#8),(w8 0#8),(w8 0#8),(w8 0#8),(w8 0#8),(w8 0#8),(w8 0#8),(w8 0#8),(w8 0#8),(w8 0#8),(w8 0#8),(w8 0#8),(w8 0#8),(w8 0#8),(w8 0#8),(w8 0#8),(w8 0#8),(w8 0#8),(w8 0#8),(.str []),(.str []),.nils,.nils,(.int .i64 0)] [(0,105,(.t 30))]⟩,
  ⟨none,(some 32),.app 105 232 (.t 29) (.t 31)⟩,
  ⟨none,(some 33),.fld 1 (.t 2)⟩,
  ⟨none,(some 34),.load 1 false (.t 33)⟩,
  ⟨none,(some 35),.mov (.t 5)⟩,
  ⟨none,(some 36),.slcS 105 (.t 34) (some (.t 35)) none none⟩,
  ⟨none,(some 37),.app 105 232 (.t 32) (.t 36)⟩,
  ⟨none,(some 38),.fld 1 (.t 2)⟩,
  ⟨none,none,.store 1 (.t 38) (.t 37)⟩,
  ⟨none,none,.apart (.t 3) (.t 29)⟩,
  ⟨none,none,.apart (.t 2) (.t 29)⟩,
  ⟨none,none,.apart (.t 33) (.t 29)⟩,
  ⟨none,none,.apart (.t 34) (.t 29)⟩,
  ⟨none,none,.apart (.t 2) (.t 32)⟩,
  ⟨none,none,.apart (.t 33) (.t 32)⟩,
  ⟨none,none,.apart (.t 34) (.t 32)⟩])
 (.seq (.region false [⟨none,(some 39),.load 2 true (.t 2)⟩,
  ⟨none,none,.store 2 (.t 4) (.t 39)⟩])
 .ret)))))
 ntmps:=40
 res:=[.cell 4 2 true]
theorem zy8u:zsjc P Tryz.f67=some a67:=by kernel_rfl
def z9mq:ACode :=
 (.seq (.seq (.region false [⟨none,(some 16),.mov (.t 7)⟩,
  ⟨none,(some 17),.bin .leq (.t 16) (.k (.int .i64 3))⟩])
 (.cond (.t 17) .skip
 (.exit 2)))
 (.seq (.block 3 (.seq (.region true [⟨none,(some 20),.fld 0 (.t 3)⟩,
  ⟨none,(some 21),.load 1 false (.t 20)⟩,
  ⟨none,(some 22),.mov (.t 6)⟩,
  ⟨none,(some 23),.idxS 6 (.t 21) (.t 22)⟩,
  ⟨none,(some 24),.fld 0 (.t 23)⟩,
  ⟨none,(some 25),.load 1 false (.t 24)⟩,
  ⟨none,(some 26),.fld 0 (.t 3)⟩,
  ⟨none,(some 27),.load 1 false (.t 26)⟩,
  ⟨none,(some 28),.mov (.t 6)⟩,
  ⟨none,(some 29),.idxS 6 (.t 27) (.t 28)⟩,
  ⟨none,(some 30),.fld 1 (.t 29)⟩,
  ⟨none,(some 31),.load 1 false (.t 30)⟩,
  ⟨none,(some 32),.mov (.t 7)⟩,
  ⟨none,(some 33),.conv .u8 (.t 32)⟩,
  ⟨none,(some 34),.build (rep 32 (w8 0#8)) [(0,1,(.t 33))]⟩,
  ⟨none,(some 35),.build [(.str []),(.str []),(w8 0#8),(w8 0#8),(w8 0#8),(w8 0#8),(w8 0#8),(w8 0#8),(w8 0#8),(w8 0#8),(w8 0#8),(w8 0#8),(w8 0#8),(w8 0#8),(w8 0#8),(w8 0#8),(w8 0#8),(w8 0#8),(w8 0#8),(w8 0#8),(w8 0#8),(w8 0#8),(w8 0#8),(w8 0#8),(w8 0#8),(w8 0#8),(w8 0#8),(w8 0#8),(w8 0#8),(w8 0#8),(w8 0#8),(w8 0#8),(w8 0#8),(w8 0#8)] [(0,1,(.t 25)),(1,1,(.t 31)),(2,32,(.t 34))]⟩,
  ⟨none,(some 8),.alloc [(.str []),(.str []),(w8 0#8),(w8 0#8),(w8 0#8),(w8 0#8),(w8 0#8),(w8 0#8),(w8 0#8),(w8 0#8),(w8 0#8),(w8 0#8),(w8 0#8),(w8 0#8),(w8 0#8),(w8 0#8),(w8 0#8),(w8 0#8),(w8 0#8),(w8 0#8),(w8 0#8),(w8 0#8),(w8 0#8),(w8 0#8),(w8 0#8),(w8 0#8),(w8 0#8),(w8 0#8),(w8 0#8),(w8 0#8),(w8 0#8),(w8 0#8),(w8 0#8),(w8 0#8)]⟩,
  ⟨none,none,.store 34 (.t 8) (.t 35)⟩])
 (.region true [⟨none,(some 36),.load 2 true (.t 5)⟩,
  ⟨none,(some 37),.load 34 true (.t 8)⟩,
  ⟨none,(some 38),.mov (.t 0)⟩,
  ⟨none,(some 39),.callT (.k (.fn (.func 13) [] [])) [(.t 38),(.k (.int .i64 3))]⟩,
  ⟨none,(some 40),.bin .gtr (.t 39) (.k (.int .i64 0))⟩,
  ⟨none,(some 41),.build [(.bool false),(w8 0#8),(w8 0#8),(w8 0#8),(w8 0#8),(w8 0#8),(w8 0#8),(w8 0#8),(w8 0#8),(w8 0#8),(w8 0#8),(w8 0#8),(w8 0#8),(w8 0#8),(w8 0#8),(w8 0#8),(w8 0#8),(w8 0#8),(w8 0#8),(w8 0#8),(w8 0#8),(w8 0#8),(w8 0#8),(w8 0#8),(w8 0#8),(w8 0#8),(w8 0#8),(w8 0#8),(w8 0#8),(w8 0#8),(w8 0#8),(w8 0#8),(w8 0#8),(.int .i64 0),(w8 0#8),(w8 0#8),(w8 0#8),(w8 0#8),(w8 0#8),(w8 0#8),(w8 0#8),(w8 0#8),(w8 0#8),(w8 0#8),(w8 0#8),(w8 0#8),(w8 0#8),(w8 0#8),(w8 0#8),(w8 0#8),(w8 0#8),(w8 0#8),(w8 0#8),(w8 0#8),(w8 0#8),(w8 0#8),(w8 0#8),(w8 0#8),(w8 0#8),(w8 0#8),(w8 0#8),(w8 0#8),(w8 0#8),(w8 0#8),(w8 0#8),(w8 0#8),(.str []),(.str []),.nils] [(0,1,(.t 40))]⟩,
  ⟨none,(some 42),.build [(.str []),(.str []),(w8 0#8),(w8 0#8),(w8 0#8),(w8 0#8),(w8 0#8),(w8 0#8),(w8 0#8),(w8 0#8),(w8 0#8),(w8 0#8),(w8 0#8),(w8 0#8),(w8 0#8),(w8 0#8),(w8 0#8),(w8 0#8),(w8 0#8),(w8 0#8),(w8 0#8),(w8 0#8),(w8 0#8),(w8 0#8),(w8 0#8),(w8 0#8),(w8 0#8),(w8 0#8),(w8 0#8),(w8 0#8),(w8 0#8),(w8 0#8),(w8 0#8),(w8 0#8),(.bool false),(w8 0#8),(w8 0#8),(w8 0#8),(w8 0#8),(w8 0#8),(w8 0#8),(w8 0#8),(w8 0#8),(w8 0#8),(w8 0#8),(w8 0#8),(w8 0#8),(w8 0#8),(w8 0#8),(w8 0#8),(w8 0#8),(w8 0#8),(w8 0#8),(w8 0#8),(w8 0#8),(w8 0#8),(w8 0#8),(w8 0#8),(w8 0#8),(w8 0#8),(w8 0#8),(w8 0#8),(w8 0#8),(w8 0#8),(w8 0#8),(w8 0#8),(w8 0#8),(.int .i64 0),(w8 0#8),(w8 0#8),(w8 0#8),(w8 0#8),(w8 0#8),(w8 0#8),(w8 0#8),(w8 0#8),(w8 0#8),(w8 0#8),(w8 0#8),(w8 0#8),(w8 0#8),(w8 0#8),(w8 0#8),(w8 0#8),(w8 0#8),(w8 0#8),(w8 0#8),(w8 0#8),(w8 0#8),(w8 0#8),(w8 0#8),(w8 0#8),(w8 0#8),(w8 0#8),(w8 0#8),(w8 0#8),(w8 0#8),(w8 0#8),(w8 0#8),(w8 0#8),(.str []),(.str []),.nils,.nils,(.int .i64 0)] [(0,34,(.t 37)),(34,69,(.t 41))]⟩,
  ⟨none,(some 43),.callN (.k (.fn (.func 67) [] [])) [(.t 36),(.t 42)]⟩,
  ⟨none,none,.store 2 (.t 5) (.t 43)⟩,
  ⟨none,none,.apart (.t 5) (.t 38)⟩,
  ⟨none,none,.apart (.t 8) (.t 38)⟩])))
 (.region false [⟨none,(some 18),.mov (.t 7)⟩,
  ⟨none,(some 19),.bin .add (.t 18) (.k (.int .i64 1))⟩,
  ⟨none,(some 7),.mov (.t 19)⟩])))
def zbmj (x0 x3 x4 x5 x6 x7:DV) (h:List AObj):St:=⟨[x0,.junk,.junk,x3,x4,x5,x6,x7]++js 37,h⟩
def znbh:ACode :=
 (.seq (.seq (.region false [⟨none,(some 9),.mov (.t 6)⟩,
  ⟨none,(some 10),.fld 0 (.t 3)⟩,
  ⟨none,(some 11),.load 1 false (.t 10)⟩,
  ⟨none,(some 12),.len (.t 11)⟩,
  ⟨none,(some 13),.bin .lss (.t 9) (.t 12)⟩])
 (.cond (.t 13) .skip
 (.exit 0)))
 (.seq (.block 1 (.seq (.region false [⟨none,(some 7),.mov (.k (.int .i64 1))⟩])
 (.block 2 (.loop z9mq))))
 (.region false [⟨none,(some 14),.mov (.t 6)⟩,
  ⟨none,(some 15),.bin .add (.t 14) (.k (.int .i64 1))⟩,
  ⟨none,(some 6),.mov (.t 15)⟩])))
def zly3 (x0 x3 x4 x5 x6:DV) (h:List AObj):St:=⟨[x0,.junk,.junk,x3,x4,x5,x6]++js 38,h⟩
def a39:AFn where
 code:=(.seq (.region false [⟨none,(some 3),.box (.t 1)⟩,
  ⟨none,(some 4),.alloc [(.int .i64 0),.nils]⟩])
 (.seq (.region false [⟨none,(some 5),.alloc [(.int .i64 0),.nils]⟩])
 (.seq (.seq (.region false [⟨none,(some 6),.mov (.k (.int .i64 0))⟩])
 (.block 0 (.loop znbh)))
 (.seq (.region false [⟨none,(some 44),.load 2 true (.t 5)⟩,
  ⟨none,none,.store 2 (.t 4) (.t 44)⟩])
 .ret))))
 ntmps:=45
 res:=[.cell 4 2 true]
theorem zjwo:zsjc P Tryz.f39=some a39:=by kernel_rfl
def zb4u:ACode :=
 (.seq (.seq (.region false [⟨none,(some 16),.mov (.t 7)⟩,
  ⟨none,(some 17),.bin .leq (.t 16) (.k (.int .i64 3))⟩])
 (.cond (.t 17) .skip
 (.exit 2)))
 (.seq (.block 3 (.seq (.region false [⟨none,(some 20),.mov (.t 7)⟩,
  ⟨none,(some 21),.conv .u8 (.t 20)⟩,
  ⟨none,(some 22),.build (rep 32 (w8 0#8)) [(0,1,(.t 21))]⟩,
  ⟨none,(some 8),.alloc (rep 32 (w8 0#8))⟩,
  ⟨none,none,.store 32 (.t 8) (.t 22)⟩])
 (.seq (.region true [⟨none,(some 23),.fld 0 (.t 3)⟩,
  ⟨none,(some 24),.load 1 false (.t 23)⟩,
  ⟨none,(some 25),.mov (.t 6)⟩,
  ⟨none,(some 26),.idxS 6 (.t 24) (.t 25)⟩,
  ⟨none,(some 27),.fld 5 (.t 26)⟩,
  ⟨none,(some 28),.load 1 false (.t 27)⟩,
  ⟨none,(some 29),.load 32 true (.t 8)⟩,
  ⟨none,(some 30),.callN (.k (.fn (.func 50) [] [])) [(.t 28),(.t 29)]⟩,
  ⟨none,(some 31),.mov (.t 30)⟩,
  ⟨(some (31,true)),(some 32),.mov (.t 0)⟩,
  ⟨(some (31,true)),(some 33),.callT (.k (.fn (.func 13) [] [])) [(.t 32),(.k (.int .i64 3))]⟩,
  ⟨(some (31,true)),(some 34),.bin .eql (.t 33) (.k (.int .i64 0))⟩,
  ⟨none,(some 35),.pick (.t 31) (.t 34) (.k (.bool false))⟩])
 (.cond (.t 35) (.region true [⟨none,(some 36),.mov (.t 5)⟩,
  ⟨none,(some 37),.mov (.t 6)⟩,
  ⟨none,(some 38),.load 32 true (.t 8)⟩,
  ⟨none,(some 39),.mov (.t 0)⟩,
  ⟨none,(some 40),.callT (.k (.fn (.func 13) [] [])) [(.t 39),(.k (.int .i64 4))]⟩,
  ⟨none,(some 41),.bin .add (.k (.int .i64 1)) (.t 40)⟩,
  ⟨none,(some 42),.mov (.t 0)⟩,
  ⟨none,(some 43),.callT (.k (.fn (.func 13) [] [])) [(.t 42),(.k (.int .i64 40))]⟩,
  ⟨none,(some 44),.build [(.int .i64 0),(w8 0#8),(w8 0#8),(w8 0#8),(w8 0#8),(w8 0#8),(w8 0#8),(w8 0#8),(w8 0#8),(w8 0#8),(w8 0#8),(w8 0#8),(w8 0#8),(w8 0#8),(w8 0#8),(w8 0#8),(w8 0#8),(w8 0#8),(w8 0#8),(w8 0#8),(w8 0#8),(w8 0#8),(w8 0#8),(w8 0#8),(w8 0#8),(w8 0#8),(w8 0#8),(w8 0#8),(w8 0#8),(w8 0#8),(w8 0#8),(w8 0#8),(w8 0#8),(.int .i64 0),(.int .i64 0)] [(0,1,(.t 37)),(1,32,(.t 38)),(33,1,(.t 41)),(34,1,(.t 43))]⟩,
  ⟨none,(some 45),.bsl 35 1 [(.int .i64 0),(w8 0#8),(w8 0#8),(w8 0#8),(w8 0#8),(w8 0#8),(w8 0#8),(w8 0#8),(w8 0#8),(w8 0#8),(w8 0#8),(w8 0#8),(w8 0#8),(w8 0#8),(w8 0#8),(w8 0#8),(w8 0#8),(w8 0#8),(w8 0#8),(w8 0#8),(w8 0#8),(w8 0#8),(w8 0#8),(w8 0#8),(w8 0#8),(w8 0#8),(w8 0#8),(w8 0#8),(w8 0#8),(w8 0#8),(w8 0#8),(w8 0#8),(w8 0#8),(.int .i64 0),(.int .i64 0)] [(0,35,(.t 44))]⟩,
  ⟨none,(some 46),.app 35 56 (.t 36) (.t 45)⟩,
  ⟨none,(some 5),.mov (.t 46)⟩,
  ⟨none,none,.apart (.t 8) (.t 39)⟩,
  ⟨none,none,.apart (.t 8) (.t 42)⟩])
 .skip))))
 (.region false [⟨none,(some 18),.mov (.t 7)⟩,
  ⟨none,(some 19),.bin .add (.t 18) (.k (.int .i64 1))⟩,
  ⟨none,(some 7),.mov (.t 19)⟩])))
def zcq1 (x0 x3 x5 x6 x7:DV) (h:List AObj):St:=⟨[x0,.junk,.junk,x3,.junk,x5,x6,x7]++js 40,h⟩
def z1eu:ACode :=
 (.seq (.seq (.region false [⟨none,(some 9),.mov (.t 6)⟩,
  ⟨none,(some 10),.fld 0 (.t 3)⟩,
  ⟨none,(some 11),.load 1 false (.t 10)⟩,
  ⟨none,(some 12),.len (.t 11)⟩,
  ⟨none,(some 13),.bin .lss (.t 9) (.t 12)⟩])
 (.cond (.t 13) .skip
 (.exit 0)))
 (.seq (.block 1 (.seq (.region false [⟨none,(some 7),.mov (.k (.int .i64 1))⟩])
 (.block 2 (.loop zb4u))))
 (.region false [⟨none,(some 14),.mov (.t 6)⟩,
  ⟨none,(some 15),.bin .add (.t 14) (.k (.int .i64 1))⟩,
  ⟨none,(some 6),.mov (.t 15)⟩])))
def zuzy (x0 x3 x5 x6:DV) (h:List AObj):St:=⟨[x0,.junk,.junk,x3,.junk,x5,x6]++js 41,h⟩
def a40:AFn where
 code:=(.seq (.region false [⟨none,(some 3),.box (.t 1)⟩,
  ⟨none,(some 4),.mov (.k .nils)⟩])
 (.seq (.region false [⟨none,(some 5),.mov (.k .nils)⟩])
 (.seq (.seq (.region false [⟨none,(some 6),.mov (.k (.int .i64 0))⟩])
 (.block 0 (.loop z1eu)))
 (.seq (.region false [⟨none,(some 47),.mov (.t 5)⟩,
  ⟨none,(some 4),.mov (.t 47)⟩])
 .ret))))
 ntmps:=48
 res:=[.tmp 4]
theorem zt62:zsjc P Tryz.f40=some a40:=by kernel_rfl
def a12:AFn where
 code:=(.seq (.region false [⟨none,(some 2),.alloc [.nils,.nils,(.int .i64 0),(.int .i64 0),.nils,.nils,.nils,(.int .i64 0)]⟩,
  ⟨none,(some 3),.mov (.k .nilp)⟩])
 (.seq (.region false [⟨none,(some 6),.mov (.t 0)⟩,
  ⟨none,(some 7),.call (.k (.fn (.func 37) [] [])) [(.t 6),(.k (.int .i64 300))]⟩,
  ⟨none,(some 4),.mov (.t 7)⟩])
 (.seq (.region false [⟨none,(some 8),.mov (.t 4)⟩,
  ⟨none,(some 9),.call (.k (.fn (.func 38) [] [])) [(.t 8),(.k (.int .i64 8))]⟩,
  ⟨none,(some 10),.build [.nils,.nils,(.int .i64 0),(.int .i64 0),.nils,.nils,.nils,(.int .i64 0)] [(0,3,(.t 9))]⟩,
  ⟨none,(some 5),.alloc [.nils,.nils,(.int .i64 0),(.int .i64 0),.nils,.nils,.nils,(.int .i64 0)]⟩,
  ⟨none,none,.store 8 (.t 5) (.t 10)⟩])
 (.seq (.region false [⟨none,(some 11),.mov (.t 4)⟩,
  ⟨none,(some 12),.fld 0 (.t 5)⟩,
  ⟨none,(some 13),.load 3 true (.t 12)⟩,
  ⟨none,(some 14),.call (.k (.fn (.func 39) [] [])) [(.t 11),(.t 13)]⟩,
  ⟨none,(some 15),.fld 3 (.t 5)⟩,
  ⟨none,none,.store 2 (.t 15) (.t 14)⟩])
 (.seq (.region true [⟨none,(some 16),.mov (.t 4)⟩,
  ⟨none,(some 17),.fld 0 (.t 5)⟩,
  ⟨none,(some 18),.load 3 true (.t 17)⟩,
  ⟨none,(some 19),.callT (.k (.fn (.func 40) [] [])) [(.t 16),(.t 18)]⟩,
  ⟨none,(some 20),.mov (.t 4)⟩,
  ⟨none,(some 21),.fld 0 (.t 5)⟩,
  ⟨none,(some 22),.load 3 true (.t 21)⟩,
  ⟨none,(some 23),.callT (.k (.fn (.func 41) [] [])) [(.t 20),(.t 22)]⟩,
  ⟨none,(some 24),.mov (.t 4)⟩,
  ⟨none,(some 25),.callT (.k (.fn (.func 13) [] [])) [(.t 24),(.k (.int .i64 20))]⟩,
  ⟨none,(some 26),.bin .add (.k (.int .i64 30)) (.t 25)⟩,
  ⟨none,(some 27),.fld 5 (.t 5)⟩,
  ⟨none,none,.store 1 (.t 27) (.t 19)⟩,
  ⟨none,(some 28),.fld 6 (.t 5)⟩,
  ⟨none,none,.store 1 (.t 28) (.t 23)⟩,
  ⟨none,(some 29),.fld 7 (.t 5)⟩,
  ⟨none,none,.store 1 (.t 29) (.t 26)⟩,
  ⟨none,none,.apart (.t 5) (.t 16)⟩,
  ⟨none,none,.apart (.t 21) (.t 16)⟩,
  ⟨none,none,.apart (.t 5) (.t 20)⟩,
  ⟨none,none,.apart (.t 5) (.t 24)⟩])
 (.seq (.region false [⟨none,(some 30),.load 8 true (.t 5)⟩,
  ⟨none,(some 31),.mov (.t 4)⟩,
  ⟨none,none,.store 8 (.t 2) (.t 30)⟩,
  ⟨none,(some 3),.mov (.t 31)⟩])
 .ret))))))
 ntmps:=32
 res:=[.cell 2 8 true,.tmp 3]
theorem zqkh:zsjc P Tryz.f12=some a12:=by kernel_rfl
end
section
set_option linter.unusedSimpArgs false
set_option linter.unusedVariables false
open Go Go.Am
def zmv1:ACode :=
 (.seq (.seq (.region true [⟨none,(some 9),.mov (.t 8)⟩,
  ⟨none,(some 10),.mov (.t 0)⟩,
  ⟨none,(some 11),.len (.t 10)⟩,
  ⟨none,(some 12),.bin .lss (.t 9) (.t 11)⟩,
  ⟨none,(some 13),.mov (.t 12)⟩,
  ⟨(some (13,true)),(some 14),.mov (.t 0)⟩,
  ⟨(some (13,true)),(some 15),.mov (.t 8)⟩,
  ⟨(some (13,true)),(some 16),.idxS 35 (.t 14) (.t 15)⟩,
  ⟨(some (13,true)),(some 17),.fld 0 (.t 16)⟩,
  ⟨(some (13,true)),(some 18),.load 1 false (.t 17)⟩,
  ⟨(some (13,true)),(some 19),.mov (.t 1)⟩,
  ⟨(some (13,true)),(some 20),.bin .lss (.t 18) (.t 19)⟩,
  ⟨(some (13,true)),(some 21),.mov (.t 20)⟩,
  ⟨(some (21,false)),(some 22),.mov (.t 0)⟩,
  ⟨(some (21,false)),(some 23),.mov (.t 8)⟩,
  ⟨(some (21,false)),(some 24),.idxS 35 (.t 22) (.t 23)⟩,
  ⟨(some (21,false)),(some 25),.fld 0 (.t 24)⟩,
  ⟨(some (21,false)),(some 26),.load 1 false (.t 25)⟩,
  ⟨(some (21,false)),(some 27),.mov (.t 1)⟩,
  ⟨(some (21,false)),(some 28),.bin .eql (.t 26) (.t 27)⟩,
  ⟨(some (21,false)),(some 29),.mov (.t 28)⟩,
  ⟨(some (29,true)),(some 30),.mov (.t 0)⟩,
  ⟨(some (29,true)),(some 31),.mov (.t 8)⟩,
  ⟨(some (29,true)),(some 32),.idxS 35 (.t 30) (.t 31)⟩,
  ⟨(some (29,true)),(some 33),.fld 1 (.t 32)⟩,
  ⟨(some (29,true)),(some 34),.load 32 true (.t 33)⟩,
  ⟨(some (29,true)),(some 35),.load 32 true (.t 5)⟩,
  ⟨(some (29,true)),(some 36),.callN (.k (.fn (.func 75) [] [])) [(.t 34),(.t 35)]⟩,
  ⟨(some (21,false)),(some 37),.pick (.t 29) (.t 36) (.k (.bool false))⟩,
  ⟨(some (13,true)),(some 38),.pick (.t 21) (.k (.bool true)) (.t 37)⟩,
  ⟨none,(some 39),.pick (.t 13) (.t 38) (.k (.bool false))⟩])
 (.cond (.t 39) .skip
 (.exit 0)))
 (.block 1 (.region false [⟨none,(some 40),.mov (.t 8)⟩,
  ⟨none,(some 41),.bin .add (.t 40) (.k (.int .i64 1))⟩,
  ⟨none,(some 8),.mov (.t 41)⟩])))
def z7h3 (x0 x1 x5 x8:DV) (h:List AObj):St:=⟨[x0,x1,.junk,.junk,.junk,x5,.junk,.junk,x8]++js 56,h⟩
def a45:AFn where
 code:=(.seq (.region false [⟨none,(some 5),.box (.t 2)⟩,
  ⟨none,(some 6),.mov (.k (.int .i64 0))⟩,
  ⟨none,(some 7),.mov (.k (.bool false))⟩])
 (.seq (.region false [⟨none,(some 8),.mov (.k (.int .i64 0))⟩])
 (.seq (.block 0 (.loop zmv1))
 (.seq (.region true [⟨none,(some 42),.mov (.t 8)⟩,
  ⟨none,(some 43),.mov (.t 8)⟩,
  ⟨none,(some 44),.mov (.t 0)⟩,
  ⟨none,(some 45),.len (.t 44)⟩,
  ⟨none,(some 46),.bin .lss (.t 43) (.t 45)⟩,
  ⟨none,(some 47),.mov (.t 46)⟩,
  ⟨(some (47,true)),(some 48),.mov (.t 0)⟩,
  ⟨(some (47,true)),(some 49),.mov (.t 8)⟩,
  ⟨(some (47,true)),(some 50),.idxS 35 (.t 48) (.t 49)⟩,
  ⟨(some (47,true)),(some 51),.fld 0 (.t 50)⟩,
  ⟨(some (47,true)),(some 52),.load 1 false (.t 51)⟩,
  ⟨(some (47,true)),(some 53),.mov (.t 1)⟩,
  ⟨(some (47,true)),(some 54),.bin .eql (.t 52) (.t 53)⟩,
  ⟨none,(some 55),.pick (.t 47) (.t 54) (.k (.bool false))⟩,
  ⟨none,(some 56),.mov (.t 55)⟩,
  ⟨(some (56,true)),(some 57),.mov (.t 0)⟩,
  ⟨(some (56,true)),(some 58),.mov (.t 8)⟩,
  ⟨(some (56,true)),(some 59),.idxS 35 (.t 57) (.t 58)⟩,
  ⟨(some (56,true)),(some 60),.fld 1 (.t 59)⟩,
  ⟨(some (56,true)),(some 61),.load 32 true (.t 60)⟩,
  ⟨(some (56,true)),(some 62),.load 32 true (.t 5)⟩,
  ⟨(some (56,true)),(some 63),.eqa false [(32,0)] (.t 61) (.t 62)⟩,
  ⟨none,(some 64),.pick (.t 56) (.t 63) (.k (.bool false))⟩,
  ⟨none,(some 6),.mov (.t 42)⟩,
  ⟨none,(some 7),.mov (.t 64)⟩])
 .ret))))
 ntmps:=65
 res:=[.tmp 6,.tmp 7]
theorem z94d:zsjc P Tryz.f45=some a45:=by kernel_rfl
def zqw7:ACode :=
 (.seq (.seq (.region false [⟨none,(some 32),.mov (.t 13)⟩,
  ⟨none,(some 33),.fld 5 (.t 12)⟩,
  ⟨none,(some 34),.load 1 false (.t 33)⟩,
  ⟨none,(some 35),.len (.t 34)⟩,
  ⟨none,(some 36),.bin .lss (.t 32) (.t 35)⟩])
 (.cond (.t 36) .skip
 (.exit 0)))
 (.seq (.block 1 (.seq (.region false [⟨none,(some 40),.mov (.t 2)⟩,
  ⟨none,(some 41),.mov (.t 3)⟩,
  ⟨none,(some 42),.fld 5 (.t 12)⟩,
  ⟨none,(some 43),.load 1 false (.t 42)⟩,
  ⟨none,(some 44),.mov (.t 13)⟩,
  ⟨none,(some 45),.idxS 32 (.t 43) (.t 44)⟩,
  ⟨none,(some 46),.load 32 true (.t 45)⟩,
  ⟨none,(some 47),.call (.k (.fn (.func 45) [] [])) [(.t 40),(.t 41),(.t 46)]⟩,
  ⟨none,(some 39),.mov (.t 47)⟩,
  ⟨none,(some 48),.ext (.t 39) 0⟩,
  ⟨none,(some 49),.ext (.t 39) 1⟩,
  ⟨none,(some 14),.mov (.t 48)⟩,
  ⟨none,(some 15),.mov (.t 49)⟩])
 (.seq (.region false [⟨none,(some 50),.mov (.t 15)⟩,
  ⟨none,(some 51),.mov (.t 50)⟩,
  ⟨(some (51,true)),(some 52),.mov (.t 2)⟩,
  ⟨(some (51,true)),(some 53),.mov (.t 14)⟩,
  ⟨(some (51,true)),(some 54),.idxS 35 (.t 52) (.t 53)⟩,
  ⟨(some (51,true)),(some 55),.fld 34 (.t 54)⟩,
  ⟨(some (51,true)),(some 56),.load 1 false (.t 55)⟩,
  ⟨(some (51,true)),(some 57),.mov (.t 4)⟩,
  ⟨(some (51,true)),(some 58),.bin .gtr (.t 56) (.t 57)⟩,
  ⟨none,(some 59),.pick (.t 51) (.t 58) (.k (.bool false))⟩,
  ⟨none,(some 16),.mov (.t 59)⟩])
 (.seq (.region true [⟨none,(some 60),.mov (.t 16)⟩,
  ⟨none,(some 61),.un .not (.t 60)⟩,
  ⟨none,(some 62),.mov (.t 61)⟩,
  ⟨(some (62,true)),(some 63),.load 2 true (.t 6)⟩,
  ⟨(some (62,true)),(some 64),.fld 0 (.t 12)⟩,
  ⟨(some (62,true)),(some 65),.load 1 false (.t 64)⟩,
  ⟨(some (62,true)),(some 66),.fld 1 (.t 12)⟩,
  ⟨(some (62,true)),(some 67),.load 1 false (.t 66)⟩,
  ⟨(some (62,true)),(some 68),.fld 5 (.t 12)⟩,
  ⟨(some (62,true)),(some 69),.load 1 false (.t 68)⟩,
  ⟨(some (62,true)),(some 70),.mov (.t 13)⟩,
  ⟨(some (62,true)),(some 71),.idxS 32 (.t 69) (.t 70)⟩,
  ⟨(some (62,true)),(some 72),.load 32 true (.t 71)⟩,
  ⟨(some (62,true)),(some 73),.build [(.str []),(.str []),(w8 0#8),(w8 0#8),(w8 0#8),(w8 0#8),(w8 0#8),(w8 0#8),(w8 0#8),(w8 0#8),(w8 0#8),(w8 0#8),(w8 0#8),(w8 0#8),(w8 0#8),(w8 0#8),(w8 0#8),(w8 0#8),(w8 0#8),(w8 0#8),(w8 0#8),(w8 0#8),(w8 0#8),(w8 0#8),(w8 0#8),(w8 0#8),(w8 0#8),(w8 0#8),(w8 0#8),(w8 0#8),(w8 0#8),(w8 0#8),(w8 0#8),(w8 0#8)] [(0,1,(.t 65)),(1,1,(.t 67)),(2,32,(.t 72))]⟩,
  ⟨(some (62,true)),(some 74),.callN (.k (.fn (.func 31) [] [])) [(.t 63),(.t 73)]⟩,
  ⟨none,(some 75),.pick (.t 62) (.t 74) (.k (.bool false))⟩])
 (.cond (.t 75) (.seq (.region false [⟨none,(some 76),.fld 5 (.t 12)⟩,
  ⟨none,(some 77),.load 1 false (.t 76)⟩,
  ⟨none,(some 78),.mov (.t 13)⟩,
  ⟨none,(some 79),.idxS 32 (.t 77) (.t 78)⟩,
  ⟨none,(some 80),.load 32 true (.t 79)⟩,
  ⟨none,none,.store 32 (.t 10) (.t 80)⟩,
  ⟨none,(some 11),.mov (.k (.bool true))⟩])
 .ret)
 .skip)))))
 (.region false [⟨none,(some 37),.mov (.t 13)⟩,
  ⟨none,(some 38),.bin .add (.t 37) (.k (.int .i64 1))⟩,
  ⟨none,(some 13),.mov (.t 38)⟩])))
def a24:AFn where
 code:=(.seq (.region false [⟨none,(some 5),.box (.t 0)⟩,
  ⟨none,(some 6),.box (.t 1)⟩,
  ⟨none,(some 10),.alloc (rep 32 (w8 0#8))⟩,
  ⟨none,(some 11),.mov (.k (.bool false))⟩])
 (.seq (.seq (.region false [⟨none,(some 17),.mov (.t 3)⟩,
  ⟨none,(some 18),.bin .lss (.t 17) (.k (.int .i64 0))⟩,
  ⟨none,(some 19),.mov (.t 18)⟩,
  ⟨(some (19,false)),(some 20),.mov (.t 3)⟩,
  ⟨(some (19,false)),(some 21),.fld 0 (.t 5)⟩,
  ⟨(some (19,false)),(some 22),.load 1 false (.t 21)⟩,
  ⟨(some (19,false)),(some 23),.len (.t 22)⟩,
  ⟨(some (19,false)),(some 24),.bin .geq (.t 20) (.t 23)⟩,
  ⟨none,(some 25),.pick (.t 19) (.k (.bool true)) (.t 24)⟩])
 (.cond (.t 25) (.seq (.region false [⟨none,(some 26),.build (rep 32 (w8 0#8)) []⟩,
  ⟨none,none,.store 32 (.t 10) (.t 26)⟩,
  ⟨none,(some 11),.mov (.k (.bool false))⟩])
 .ret)
 .skip))
 (.seq (.region false [⟨none,(some 27),.fld 0 (.t 5)⟩,
  ⟨none,(some 28),.load 1 false (.t 27)⟩,
  ⟨none,(some 29),.mov (.t 3)⟩,
  ⟨none,(some 30),.idxS 6 (.t 28) (.t 29)⟩,
  ⟨none,(some 31),.load 6 true (.t 30)⟩,
  ⟨none,(some 12),.alloc [(.str []),(.str []),(.int .i64 0),(.int .i64 0),(.int .i64 0),.nils]⟩,
  ⟨none,none,.store 6 (.t 12) (.t 31)⟩])
 (.seq (.seq (.region false [⟨none,(some 13),.mov (.k (.int .i64 0))⟩])
 (.block 0 (.loop zqw7)))
 (.seq (.region false [⟨none,(some 81),.build (rep 32 (w8 0#8)) []⟩,
  ⟨none,none,.store 32 (.t 10) (.t 81)⟩,
  ⟨none,(some 11),.mov (.k (.bool false))⟩])
 .ret)))))
 ntmps:=82
 res:=[.cell 10 32 true,.tmp 11]
end
end Go.Proofs.YtaihpefemjlilaaGreatDoor
