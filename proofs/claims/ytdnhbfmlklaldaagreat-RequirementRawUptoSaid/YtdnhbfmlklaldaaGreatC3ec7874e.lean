/-
  20 texts of mine in one.
-/
import Derived.Test.YtdnhbfmlklaldaaGreatCb1b7f320
import Derived.Test.YtdnhbfmlklaldaaGreatC1d38dafb
import Derived.Test.YtdnhbfmlklaldaaGreatC86a19a23
import Derived.Test.YtdnhbfmlklaldaaGreatC7dcf1055
import Derived.Test.YtdnhbfmlklaldaaGreatC6a9b145a
import Derived.Test.YtdnhbfmlklaldaaGreatCc0b81b2c
set_option maxRecDepth 20000
set_option maxHeartbeats 4000000
open List renaming map_take → zA, map_drop → zB, map_set → zC, map_append → zD, drop_one → zE
set_option linter.unusedSimpArgs false
set_option linter.unusedVariables false
namespace Go.Proofs.YtdnhbfmlklaldaaGreat
open Go Go.Am
structure CkOK (c:Cas) (all:List Fct) (o:Org) (q:Req):Prop where
 e1:q.kind=1→EnOK (zskr c.f.l 1 (.same o)) q.n
 e3:q.kind=3→EnOK (zskr c.f.l 3 (.source o)) q.n
 e4:q.kind=4→RbOK (zskr c.f.l 4 (.source o)) (zskr all 4 (.source o)) q
 e5:q.kind=5→ListOK (zskr c.f.l 5 .every) q.n
 d : ∀ f ∈ c.f.l,f.docs.l.length≤1000
 e6:q.kind=6→InOK c.f.l (decS c.n.l q.n)
 s:SmN c.n.l
 dd:c.d.l.length≤1000000
 f:c.f.l.length≤1000000
 a:all.length≤1000000
noncomputable def T630:Tbl:=addT 68 (.pure cFct) (addT 69 (.pure cEn) (addT 70 (.pure cOne) (addT 72 (.pure cRbt) (addT 73 (.pure zw0f) (addT 74 (.pure zy0t) (addT 75 (.pure (cFnI (fun l=>l.length≤1000000) gOpn)) (addT 48 (.pure (cFnI SmN gDec)) (addT 78 (.pure cCon) tbl0))))))))
theorem zl70:T630 68 = .pure cFct:=by simp [T630]
theorem zy8r:T630 69 = .pure cEn:=by simp [T630]
theorem zquo:T630 70 = .pure cOne:=by simp [T630]
theorem z4pj:T630 72 = .pure cRbt:=by simp [T630]
theorem z3pd:T630 73 = .pure zw0f:=by simp [T630]
theorem zdvr:T630 74 = .pure zy0t:=by simp [T630]
theorem zsjb:T630 75 = .pure (cFnI (fun l=>l.length≤1000000) gOpn):=by simp [T630]
theorem zizn:T630 48 = .pure (cFnI SmN gDec):=by simp [T630]
theorem zjpv:T630 78 = .pure cCon:=by simp [T630]
theorem zbup:T630.Sound P:=z0rp zbp8 (z0rp zm5m (z0rp zso5 (z0rp zwd7 (z0rp ze60 (z0rp zwv1 (z0rp z2pr (z0rp zdlo (z0rp ztc6 zr5o))))))))
theorem zfae {l:List Fct} {k:Int} {s:Sel} (h:l.length≤1000000):(ownN (zskr l k s)).l=zskr l k s:=zd8n (by have:=zjru (l:=l) (k:=k) (s:=s); omega)
theorem z1si (c:Cas) (o:Org) (q:Req) (all:Sl Fct) (ok:CkOK c all.l o q):V P 0 a42.code (retK a42.res (.agg (suC (zvkf c c.f.l all.l o q)))) ⟨zr5g a42.ntmps [.agg (caC c),.agg (orC o),.agg (rqC q),all.dv 71 faC],[]⟩:=by
 refine zbn1 (V_W mix zbup ?_)
 simp (disch:=first|omega|simp<;>omega|fail) [-zA,-zB,-zC,-zD,-zE,a42]
 refine zbn1 (V_W mix zbup ?_)
 simp (disch:=first|omega|simp<;>omega|fail) [-zA,-zB,-zC,-zD,-zE]
 refine zbn1 (V_W mix zbup ?_)
 simp (disch:=first|omega|simp<;>omega|fail) [-zA,-zB,-zC,-zD,-zE]
 refine V_mk (fun id=>decide (id=3)) ?_
 simp (disch:=first|omega|simp<;>omega|fail) [-zA,-zB,-zC,-zD,-zE]
 refine V_W mix zbup ?_
 have hf:=ok.f
 have ha:=ok.a
 have c5:=zek8 (x:=c.f) (k:=5) (s := .every)
 have l5:=zfae (k:=5) (s := .every) hf
 simp only [Sel.dv,Sel.fid,Sel.cap] at c5
 by_cases e1:q.kind=1
 ·have k1:=zek8 (x:=c.f) (k:=1) (s := .same o)
  have k2:=zo6r (x:=ownN (zskr c.f.l 1 (.same o))) (n:=q.n) (by rw [zfae hf]; exact ok.e1 e1)
  rw [zfae hf] at k2
  simp only [Sel.dv,Sel.fid,Sel.cap] at k1
  have hr:zvkf c c.f.l all.l o q=zfyl (zskr c.f.l 1 (.same o)) q.n:=by unfold zvkf; rw [if_pos e1]
  simp (disch:=first|omega|simp<;>omega|fail) [-zA,-zB,-zC,-zD,-zE,zl70,zy8r,c5,k1,k2,e1,hr]
 by_cases e2:q.kind=2
 ·have k1:=zek8 (x:=c.f) (k:=2) (s := .chained o q)
  have k2:=zcl6 (x:=ownN (zskr c.f.l 2 (.chained o q))) (by rw [zfae hf]; exact fun f h=>ok.d f (zs6z.1 h).1)
  rw [zfae hf] at k2
  simp only [Sel.dv,Sel.fid,Sel.cap,smF] at k1
  have hr:zvkf c c.f.l all.l o q=oneS (zskr c.f.l 2 (.chained o q)):=by unfold zvkf; rw [if_neg e1,if_pos e2]
  simp (disch:=first|omega|simp<;>omega|fail) [-zA,-zB,-zC,-zD,-zE,zl70,zquo,c5,k1,k2,e1,e2,hr]
 by_cases e3:q.kind=3
 ·have k1:=zek8 (x:=c.f) (k:=3) (s := .source o)
  have k2:=zo6r (x:=ownN (zskr c.f.l 3 (.source o))) (n:=q.n) (by rw [zfae hf]; exact ok.e3 e3)
  rw [zfae hf] at k2
  simp only [Sel.dv,Sel.fid,Sel.cap] at k1
  have hr:zvkf c c.f.l all.l o q=zfyl (zskr c.f.l 3 (.source o)) q.n:=by unfold zvkf; rw [if_neg e1,if_neg e2,if_pos e3]
  simp (disch:=first|omega|simp<;>omega|fail) [-zA,-zB,-zC,-zD,-zE,zl70,zy8r,c5,k1,k2,e1,e2,e3,hr]
 by_cases e4:q.kind=4
 ·have k1:=zek8 (x:=c.f) (k:=4) (s := .source o)
  have k3:=zek8 (x:=all) (k:=4) (s := .source o)
  have k2:=zvpz (x:=ownN (zskr c.f.l 4 (.source o))) (y:=ownN (zskr all.l 4 (.source o))) (q:=q) (by rw [zfae hf,zfae ha]; exact ok.e4 e4)
  rw [zfae hf,zfae ha] at k2
  simp only [Sel.dv,Sel.fid,Sel.cap] at k1 k3
  have hr:zvkf c c.f.l all.l o q=zo4d (zskr c.f.l 4 (.source o)) (zskr all.l 4 (.source o)) q:=by unfold zvkf; rw [if_neg e1,if_neg e2,if_neg e3,if_pos e4]
  simp (disch:=first|omega|simp<;>omega|fail) [-zA,-zB,-zC,-zD,-zE,zl70,z4pj,c5,k1,k2,k3,e1,e2,e3,e4,hr]
 by_cases e5:q.kind=5
 ·have k2:=zu10 (x:=ownN (zskr c.f.l 5 .every)) (n:=q.n) (by rw [l5]; exact ok.e5 e5)
  rw [l5] at k2
  have hr:zvkf c c.f.l all.l o q=zf55 (zskr c.f.l 5 .every) q.n:=by unfold zvkf; rw [if_neg e1,if_neg e2,if_neg e3,if_neg e4,if_pos e5]
  simp (disch:=first|omega|simp<;>omega|fail) [-zA,-zB,-zC,-zD,-zE,zl70,z3pd,c5,k2,e1,e2,e3,e4,e5,hr]
 have inok : ∀ {y},InOK c.f.l y→InOK (zskr c.f.l 5 .every) y:=fun h f hf=>h f (zs6z.1 hf).1
 by_cases e6:q.kind=6
 ·have hd:=zdo9 (s:=q.n) ok.s.n ok.s.d
  have ho:(opL c.n.l q.n).length=(zcm1 c.n.l q.n).length:=List.length_map ..
  have hol:(zcm1 c.n.l q.n).length≤c.n.l.length:=List.length_filter_le _ _
  have hn:=ok.s.n
  have k1:cFnI (fun l=>l.length≤1000000) gOpn [c.n.dv 39 fnC,.int .i64 q.n]=some ((ownN (opL c.n.l q.n)).dv 39 fnC):=ze20 (A:=fun l=>l.length≤1000000) (g:=gOpn) (x:=c.n) (s:=q.n) (by show _≤_; omega)
  have k3:cFnI SmN gDec [c.n.dv 39 fnC,.int .i64 q.n]=some ((ownN (decS c.n.l q.n)).dv 32 dgC):=ze20 (g:=gDec) (x:=c.n) (s:=q.n) ok.s
  have hl : ∀ H,lenD H ((ownN (opL c.n.l q.n)).dv 39 fnC)=some (.int .i64 (zcm1 c.n.l q.n).length):=fun H=>by rw [zupj,zd8n (by omega),ho]
  have hdl:(ownN (decS c.n.l q.n)).l=decS c.n.l q.n:=zd8n (by omega)
  have k2:=z19c (x:=ownN (zskr c.f.l 5 .every)) (n:=(zcm1 c.n.l q.n).length) (y:=ownN (decS c.n.l q.n)) (by rw [l5,hdl]; exact inok (ok.e6 e6))
  rw [l5,hdl] at k2
  have hr:zvkf c c.f.l all.l o q=zpu0 (zskr c.f.l 5 .every) (zcm1 c.n.l q.n).length (decS c.n.l q.n):=by unfold zvkf; rw [if_neg e1,if_neg e2,if_neg e3,if_neg e4,if_neg e5,if_pos e6]
  simp (disch:=first|omega|simp<;>omega|fail) [-zA,-zB,-zC,-zD,-zE,zl70,zsjb,zizn,zdvr,c5,k1,k2,k3,hl,e1,e2,e3,e4,e5,e6,hr]
 by_cases e7:q.kind=7
 ·have k1:=zek8 (x:=c.f) (k:=1) (s := .fresh o c q)
  have k2:=zcl6 (x:=ownN (zskr c.f.l 1 (.fresh o c q))) (by rw [zfae hf]; exact fun f h=>ok.d f (zs6z.1 h).1)
  rw [zfae hf] at k2
  simp only [Sel.dv,Sel.fid,Sel.cap,smF] at k1
  have hr:zvkf c c.f.l all.l o q=oneS (zskr c.f.l 1 (.fresh o c q)):=by unfold zvkf; rw [if_neg e1,if_neg e2,if_neg e3,if_neg e4,if_neg e5,if_neg e6,if_pos e7]
  simp (disch:=first|omega|simp<;>omega|fail) [-zA,-zB,-zC,-zD,-zE,zl70,zquo,c5,k1,k2,e1,e2,e3,e4,e5,e6,e7,hr]
 ·have hn:=ok.s.n
  have hdd:=ok.dd
  have hc:=zcsy (l:=c.n.l) (i:=c.n.l.length)
  rw [List.take_length] at hc
  have hw:IntKind.i64.wrap (zu7t c.n.l+(c.d.l.length:Int))=zu7t c.n.l+c.d.l.length:=by rw [IntKind.wrap_i64]; omega
  have hl : ∀ H,lenD H (c.d.dv 1 stC)=some (.int .i64 c.d.l.length):=fun H=>zupj
  have k2:=z19c (x:=ownN (zskr c.f.l 5 .every)) (n:=zu7t c.n.l+c.d.l.length) (y:=nilS) (by rw [l5]; exact inok fun f hf=>by have:=ok.d f hf; simp only [zb11,List.length_nil]; omega)
  rw [l5] at k2
  have hnil:(nilS:Sl Dg).dv 32 dgC = .nils:=rfl
  rw [hnil,zb11] at k2
  have hr:zvkf c c.f.l all.l o q=zpu0 (zskr c.f.l 5 .every) (zu7t c.n.l+c.d.l.length) []:=by unfold zvkf; rw [if_neg e1,if_neg e2,if_neg e3,if_neg e4,if_neg e5,if_neg e6,if_neg e7]
  simp (disch:=first|omega|simp<;>omega|fail) [-zA,-zB,-zC,-zD,-zE,zl70,zjpv,zdvr,c5,zs4w,k2,hl,hw,e1,e2,e3,e4,e5,e6,e7,hr]
end Go.Proofs.YtdnhbfmlklaldaaGreat
set_option linter.unusedSimpArgs false
set_option linter.unusedVariables false
namespace Go.Proofs.YtdnhbfmlklaldaaGreat
open Go Go.Am
noncomputable def cChk:List DV→Option DV:=con (fun a:Cas × Org × Req × Sl Fct=>CkOK a.1 a.2.2.2.l a.2.1 a.2.2.1) (fun a=>[.agg (caC a.1),.agg (orC a.2.1),.agg (rqC a.2.2.1),a.2.2.2.dv 71 faC]) (fun a => .agg (suC (zvkf a.1 a.1.f.l a.2.2.2.l a.2.1 a.2.2.1)))
theorem zmhz {c:Cas} {o:Org} {q:Req} {all:Sl Fct} (h:CkOK c all.l o q):cChk [.agg (caC c),.agg (orC o),.agg (rqC q),all.dv 71 faC]=some (.agg (suC (zvkf c c.f.l all.l o q))) :=
 zlyi (A:=fun a:Cas × Org × Req × Sl Fct=>CkOK a.1 a.2.2.2.l a.2.1 a.2.2.1) (f:=fun a:Cas × Org × Req × Sl Fct=>[.agg (caC a.1),.agg (orC a.2.1),.agg (rqC a.2.2.1),a.2.2.2.dv 71 faC]) (g:=fun a => .agg (suC (zvkf a.1 a.1.f.l a.2.2.2.l a.2.1 a.2.2.1))) (by
  rintro ⟨a,b,c,d⟩ ⟨a',b',c',d'⟩ e
  simp only [List.cons.injEq,DV.agg.injEq,and_true] at e
  rw [zejx e.1,zc65 e.2.1,z82b e.2.2.1,z4rf e.2.2.2]) (c,o,q,all) h
theorem zjcs:(Con.pure cChk).Sound P 42:=z2au fun a h=>znz9 Tryz.func42 zl17 (z1si a.1 a.2.1 a.2.2.1 a.2.2.2 h)
noncomputable def T631:Tbl:=addT 41 (.pure cReq) (addT 42 (.pure cChk) tbl0)
theorem zcly:T631 41 = .pure cReq:=by simp [T631]
theorem zocb:T631 42 = .pure cChk:=by simp [T631]
theorem zjy9:T631.Sound P:=z0rp z8mz (z0rp zjcs zr5o)
theorem zkxe (c:Cas) (o:Org) (q:Req) (ok:reqB q=true→CkOK c c.f.l o q):Runs T631 a20 [.agg (caC c),.agg (orC o),.agg (rqC q)] (.agg (suC (zwwp c o q))):=by
 refine ⟨?_⟩
 cases hq:reqB q with
 | false =>
  have hr:zwwp c o q=supZ:=by unfold zwwp; rw [hq]; rfl
  have e:zvnk [.bool false,.nils,.int .i64 0] []=some (.agg (suC supZ)):=rfl
  simp (disch:=first|omega|simp<;>omega|fail) [-zA,-zB,-zC,-zD,-zE,a20,zcly,zc86,hq,hr,e]
 | true =>
  have hr:zwwp c o q=zvkf c c.f.l c.f.l o q:=by unfold zwwp; rw [hq]; rfl
  have k:=zmhz (ok hq)
  simp (disch:=first|omega|simp<;>omega|fail) [-zA,-zB,-zC,-zD,-zE,a20,zcly,zocb,zc86,hq,hr,k]
noncomputable def cChe:List DV→Option DV:=con (fun a:Cas × Org × Req=>reqB a.2.2=true→CkOK a.1 a.1.f.l a.2.1 a.2.2) (fun a=>[.agg (caC a.1),.agg (orC a.2.1),.agg (rqC a.2.2)]) (fun a => .agg (suC (zwwp a.1 a.2.1 a.2.2)))
theorem z1u0 {c:Cas} {o:Org} {q:Req} (h:reqB q=true→CkOK c c.f.l o q):cChe [.agg (caC c),.agg (orC o),.agg (rqC q)]=some (.agg (suC (zwwp c o q))) :=
 zlyi (A:=fun a:Cas × Org × Req=>reqB a.2.2=true→CkOK a.1 a.1.f.l a.2.1 a.2.2) (f:=fun a:Cas × Org × Req=>[.agg (caC a.1),.agg (orC a.2.1),.agg (rqC a.2.2)]) (g:=fun a => .agg (suC (zwwp a.1 a.2.1 a.2.2))) (by
  rintro ⟨a,b,c⟩ ⟨a',b',c'⟩ e
  simp only [List.cons.injEq,DV.agg.injEq,and_true] at e
  rw [zejx e.1,zc65 e.2.1,z82b e.2.2]) (c,o,q) h
theorem zl6h:(Con.pure cChe).Sound P 20:=z2au fun a h=>zljw mix zjy9 Tryz.func20 zfgm (zkxe a.1 a.2.1 a.2.2 h)
noncomputable def T632:Tbl:=addT 41 (.pure cReq) (addT 42 (.pure cChk) (addT 48 (.pure (cFnI SmN gDec)) (addT 47 (.pure cCf) (addT 50 (.new cNF) (addT 49 (.heap z10r) tbl0)))))
theorem z4at:T632 41 = .pure cReq:=by simp [T632]
theorem z44g:T632 42 = .pure cChk:=by simp [T632]
theorem zuwa:T632 48 = .pure (cFnI SmN gDec):=by simp [T632]
theorem z668:T632 47 = .pure cCf:=by simp [T632]
theorem zx98:T632 50 = .new cNF:=by simp [T632]
theorem z9db:T632 49 = .heap z10r:=by simp [T632]
theorem z912:T632.Sound P:=z0rp z8mz (z0rp zjcs (z0rp zdlo (z0rp zkac (z0rp zu1a (z0rp zoba zr5o)))))
def zcqw (c:Cas) (docs:List Dg):List Fct:=c.f.l.filter fun f=>subB f.docs.l docs
def z613 (c:Cas) (docs:List Dg):Sl Fct:=if c.f.l=[] then c.f.clone else ⟨some false,zcqw c docs,fun e=>by simp at e,by have:=c.f.b; have:=List.length_filter_le (fun f:Fct=>subB f.docs.l docs) c.f.l; unfold zcqw; omega⟩
theorem zke4 {c:Cas} {docs:List Dg}:(z613 c docs).l=zcqw c docs:=by
 unfold z613
 split
 ·rename_i e; unfold zcqw; rw [e]; exact e
 ·rfl
def zev9 (c:Cas) (docs:List Dg):Cas:={ c with f:=z613 c docs }
theorem zdv6 {c c':Cas} {fs all:List Fct} {o:Org} {q:Req} (h1:c'.at_=c.at_) (h2:c'.n=c.n) (h3:c'.d=c.d):zvkf c' fs all o q=zvkf c fs all o q:=by
 unfold zvkf
 rw [h2,h3]
 have:zskr fs 1 (.fresh o c' q)=zskr fs 1 (.fresh o c q):=by unfold zskr Sel.p; simp only [h1]
 rw [this]
structure ByOK (c:Cas) (o:Org) (q:Req) (docs:List Dg):Prop where
 k:CkOK (zev9 c docs) c.f.l o q
 s:SmN c.n.l
 f:c.f.l.length≤1000000
theorem zfzb {c:Cas} {v:DV}:zk7y (caC c) 33 [v]=dgC c.art++[.int .i64 c.at_,v,c.n.dv 39 fnC,c.d.dv 1 stC]:=by
 unfold zk7y
 rw [show (caC c).take 33=dgC c.art++[.int .i64 c.at_] from ?_,show (caC c).drop (33+[v].length)=[c.n.dv 39 fnC,c.d.dv 1 stC] from ?_]
 ·simp
 ·show (caC c).drop 34=_
  rw [show (34:Nat)=32+2 from rfl,← List.drop_drop,zak0]; rfl
 ·rw [caC,List.take_append,List.take_of_length_le (by rw [z1t1]; decide),z1t1]; rfl
theorem ca_f {c:Cas} {y:Sl Fct}:dgC c.art++[.int .i64 c.at_,y.dv 71 faC,c.n.dv 39 fnC,c.d.dv 1 stC]=caC { c with f:=y }:=rfl
theorem zqm6 {K:Nat→Bool} {h:List AObj} : ∀ {a b:List DV},mkL K h (a++b)=mkL K h a++mkL K h b
 | [],b=>rfl
 | d::r,b=>by rw [List.cons_append,mkL,mkL,zqm6,List.cons_append]
theorem zad8 {α:Type} {h:List AObj} {s:Nat} {f:α→List DV} {x:Sl α}:boxD h (x.dv s f)=some (.mp h.length 1 0,h++[.cells [x.dv s f]]):=by
 unfold boxD; rw [ztw5,if_pos rfl,zs9p]; rfl
attribute [simp] zad8
theorem zidb {x:Sl Dg}:zyp8 (x.dv 32 dgC)=true:=zpfc x
theorem zwvs {K:Nat→Bool} {h:List AObj} {k:Nat} {x:Sl Dg}:fzS K h k (x.dv 32 dgC)=some (x.dv 32 dgC):=zzxw (zpfc x)
attribute [simp] zidb zwvs
def zrbg:ACode:=match a22.code with
 | .seq _ (.seq _ (.seq _ y))=>y
 | _ => .skip
def fnM (docs:Sl Dg):DV := .fn (.func 45) [] [.ref [docs.dv 32 dgC]]
def bySt (c:Cas) (o:Org) (q:Req) (docs:Sl Dg):St:=⟨[.junk,.junk,.junk,.junk,.mp 0 36 0,.ref (orC o),.ref (rqC q),.ref [docs.dv 32 dgC],.bool false,.ref [fnM docs]]++js 32,[.cells (caC c),.dead,.dead,.dead,.dead]⟩
theorem zqk8 (c:Cas) (o:Org) (q:Req) (docs:Sl Dg) (k1:CkOK (zev9 c docs.l) c.f.l o q) (k3:c.f.l.length≤1000000):V P 0 zrbg (retK [.tmp 8] (.bool (zvkf (zev9 c docs.l) (zev9 c docs.l).f.l c.f.l o q).holds)) (bySt c o q docs):=by
 have hk:=zmhz k1
 obtain ⟨R,hR⟩ : ∃ R,zvkf (zev9 c docs.l) (zev9 c docs.l).f.l c.f.l o q=R:=⟨_,rfl⟩
 rw [hR] at hk ⊢
 have hpM:zbao [DV.ref [fnM docs]]=true:=by simp [fnM,zbao,zyp8]
 have dok:DFOK ⟨[.cells (caC c),.dead,.dead,.dead,.dead],[.ref [fnM docs]],.out docs,c.f⟩:=⟨fun X=>z619 hpM,zmq5 _ _ hpM,by simp [zlf2,zmq5 _ _ (zkih c)],k3⟩
 have h0:=zrkp (x:=c.f) (n:=5)
 have h1:=zo2w dok
 simp only [List.length_cons,List.length_nil,Nat.zero_add,Fp.fid] at h1
 simp only [zrbg,a22,bySt]
 refine zbn1 (V_W mix z912 ?_)
 simp (disch:=first|omega|simp<;>omega|fail) [-zA,-zB,-zC,-zD,-zE]
 refine zbn1 (V_W mix z912 ?_)
 by_cases e:c.f.l=[]
 ·have hl:z613 c docs.l=c.f.clone:=if_pos e
  rw [zpj6 e,e,z7sv] at h0
  rw [zpj6 e,dlD,if_pos e,e,z7sv,zy6r,z7sv,List.append_nil] at h1
  have hs : ∀ H:List AObj,zy6o H 0 1 33 (c.f.clone.dv 71 faC) (some (caC c))=some (.junk,H.set 0 (.cells (caC (zev9 c docs.l)))):=fun H=>by
   rw [zltg (zs9p _) (z4ja _) (by rw [zt8w]; decide),zfzb,ca_f,zev9,hl]
  simp (disch:=first|omega|simp<;>omega|fail) [-zA,-zB,-zC,-zD,-zE,zx98,z9db,h0,h1,hs]
  refine V_mk (fun _=>false) ?_
  simp (disch:=first|omega|simp<;>omega|fail) [-zA,-zB,-zC,-zD,-zE]
  refine V_W mix z912 ?_
  simp (disch:=first|omega|simp<;>omega|fail) [-zA,-zB,-zC,-zD,-zE,z44g,hk]
 ·have hkp:kp (Fp.out docs).p c.f.l=zcqw c docs.l:=by
   unfold kp zcqw
   congr 1
   funext f
   simp [Fp.p]
  have hl:(z613 c docs.l).dv 71 faC = .sl false 71 (zcqw c docs.l).length ((zcqw c docs.l).flatMap faC):=by
   unfold z613; rw [if_neg e]; rfl
  have hd:=z8wb (p:=(Fp.out docs).p) (z:=fct0) e
  obtain ⟨D,hD⟩ : ∃ D,delO fct0 (Fp.out docs).p c.f.l=D:=⟨_,rfl⟩
  have hDl:D.length=c.f.l.length:=by rw [← hD]; exact zwda _ _
  have hDt:(fl faC D).take ((zcqw c docs.l).length*71)=(zcqw c docs.l).flatMap faC:=by rw [z590 zs77,← hD,← hkp,zgcl]
  rw [z2ra e,zsqo e] at h0
  rw [z2ra e,dlD,if_neg e,zsqo e,zsqo hd,hD,hkp] at h1
  simp only [List.cons_append,List.nil_append] at h1
  obtain ⟨n,hn⟩ : ∃ n,c.f.l.length=n:=⟨_,rfl⟩
  rw [hn] at h0 h1 hDl
  have hfl:(fl faC D).length=n*71:=by rw [z8lx zs77,hDl]
  have hs : ∀ H:List AObj,zy6o H 0 1 33 (.ms 5 (n*71) 0 71 (zcqw c docs.l).length (n*71)) (some (caC c))=some (.junk,H.set 0 (.cells (dgC c.art++[.int .i64 c.at_,.ms 5 (n*71) 0 71 (zcqw c docs.l).length (n*71),c.n.dv 39 fnC,c.d.dv 1 stC]))):=fun H=>by
   rw [zltg rfl rfl (by rw [zt8w]; decide),zfzb]
  have hca:dgC c.art++[.int .i64 c.at_,.sl false 71 (zcqw c docs.l).length ((zcqw c docs.l).flatMap faC),c.n.dv 39 fnC,c.d.dv 1 stC]=caC (zev9 c docs.l):=by rw [← hl]; rfl
  have hp:=zp6k z93p (zcqw c docs.l)
  have hpd:=fun K H=>zrip (K:=K) (h:=H) (z3ot c.art)
  simp (disch:=first|omega|simp<;>omega|fail) [-zA,-zB,-zC,-zD,-zE,zx98,z9db,h0,h1,hs]
  refine V_mk (fun id=>decide (id=0)) ?_
  simp (disch:=first|omega|simp<;>omega|fail) [-zA,-zB,-zC,-zD,-zE,zqm6,hpd,hfl,hDt,hp,hca]
  refine V_W mix z912 ?_
  simp (disch:=first|omega|simp<;>omega|fail) [-zA,-zB,-zC,-zD,-zE,z44g,hk]
theorem zv4n (c:Cas) (o:Org) (q:Req) (docs:Sl Dg) (ok:reqB q=true→ByOK c o q docs.l):V P 0 a22.code (retK a22.res (.bool (ByS c o q docs.l))) ⟨zr5g a22.ntmps [.agg (caC c),.agg (orC o),.agg (rqC q),docs.dv 32 dgC],[]⟩:=by
 refine zbn1 (V_W mix z912 ?_)
 simp (disch:=first|omega|simp<;>omega|fail) [-zA,-zB,-zC,-zD,-zE,a22]
 refine zbn1 (V_W mix z912 ?_)
 simp (disch:=first|omega|simp<;>omega|fail) [-zA,-zB,-zC,-zD,-zE]
 refine V_mk (fun id=>decide (id=0)) ?_
 simp (disch:=first|omega|simp<;>omega|fail) [-zA,-zB,-zC,-zD,-zE]
 refine zbn1 (V_W mix z912 ?_)
 cases hq:reqB q with
 | false =>
  have hr:ByS c o q docs.l=false:=by unfold ByS; rw [hq]; rfl
  simp (disch:=first|omega|simp<;>omega|fail) [-zA,-zB,-zC,-zD,-zE,z4at,zc86,hq,hr]
 | true =>
 obtain ⟨k1,k2,k3⟩:=ok hq
 have k4:cFnI SmN gDec [c.n.dv 39 fnC,.int .i64 q.n]=some ((ownN (decS c.n.l q.n)).dv 32 dgC):=ze20 (g:=gDec) (x:=c.n) (s:=q.n) k2
 have hdl:(ownN (decS c.n.l q.n)).l=decS c.n.l q.n:=zd8n (by have:=zdo9 (s:=q.n) k2.n k2.d; omega)
 have k5:=z8o6 (x:=ownN (decS c.n.l q.n)) (q:=docs)
 rw [hdl] at k5
 simp only [zd09] at k5
 have hb:ByS c o q docs.l=((!decide (q.kind=6)||subB (decS c.n.l q.n) docs.l)&&(zvkf (zev9 c docs.l) (zev9 c docs.l).f.l c.f.l o q).holds):=by
  unfold ByS
  rw [hq,Bool.true_and,zdv6 (c':=zev9 c docs.l) (c:=c) rfl rfl rfl,show (zev9 c docs.l).f.l=zcqw c docs.l from zke4]
  rfl
 have tail:=zqk8 c o q docs k1 k3
 by_cases e6:q.kind=6
 ·cases hs:subB (decS c.n.l q.n) docs.l with
  | false =>
   have hr:ByS c o q docs.l=false:=by rw [hb,hs]; simp [e6]
   simp (disch:=first|omega|simp<;>omega|fail) [-zA,-zB,-zC,-zD,-zE,z4at,zuwa,z668,zc86,hq,e6,hs,k4,k5,hr]
  | true =>
   have hr:ByS c o q docs.l=(zvkf (zev9 c docs.l) (zev9 c docs.l).f.l c.f.l o q).holds:=by rw [hb,hs]; simp
   rw [hr]
   simp (disch:=first|omega|simp<;>omega|fail) [-zA,-zB,-zC,-zD,-zE,z4at,zuwa,z668,zc86,hq,e6,hs,k4,k5]
   exact zqfd (z515 (by simp (disch:=first|omega|simp<;>omega|fail) [-zA,-zB,-zC,-zD,-zE,bySt,fnM]) rfl) tail
 ·have hr:ByS c o q docs.l=(zvkf (zev9 c docs.l) (zev9 c docs.l).f.l c.f.l o q).holds:=by rw [hb]; simp [e6]
  rw [hr]
  simp (disch:=first|omega|simp<;>omega|fail) [-zA,-zB,-zC,-zD,-zE,z4at,zuwa,z668,zc86,hq,e6,k4,k5]
  exact zqfd (z515 (by simp (disch:=first|omega|simp<;>omega|fail) [-zA,-zB,-zC,-zD,-zE,bySt,fnM]) rfl) tail
noncomputable def cBy:List DV→Option DV:=con (fun a:Cas × Org × Req × Sl Dg=>reqB a.2.2.1=true→ByOK a.1 a.2.1 a.2.2.1 a.2.2.2.l) (fun a=>[.agg (caC a.1),.agg (orC a.2.1),.agg (rqC a.2.2.1),a.2.2.2.dv 32 dgC]) (fun a => .bool (ByS a.1 a.2.1 a.2.2.1 a.2.2.2.l))
theorem z33l {c:Cas} {o:Org} {q:Req} {docs:Sl Dg} (h:reqB q=true→ByOK c o q docs.l):cBy [.agg (caC c),.agg (orC o),.agg (rqC q),docs.dv 32 dgC]=some (.bool (ByS c o q docs.l)) :=
 zlyi (A:=fun a:Cas × Org × Req × Sl Dg=>reqB a.2.2.1=true→ByOK a.1 a.2.1 a.2.2.1 a.2.2.2.l) (f:=fun a:Cas × Org × Req × Sl Dg=>[.agg (caC a.1),.agg (orC a.2.1),.agg (rqC a.2.2.1),a.2.2.2.dv 32 dgC]) (g:=fun a => .bool (ByS a.1 a.2.1 a.2.2.1 a.2.2.2.l)) (by
  rintro ⟨a,b,c,d⟩ ⟨a',b',c',d'⟩ e
  simp only [List.cons.injEq,DV.agg.injEq,and_true] at e
  rw [zejx e.1,zc65 e.2.1,z82b e.2.2.1,z42k e.2.2.2]) (c,o,q,docs) h
theorem zg7u:(Con.pure cBy).Sound P 22:=z2au fun a h=>znz9 Tryz.func22 zi98 (zv4n a.1 a.2.1 a.2.2.1 a.2.2.2 h)
end Go.Proofs.YtdnhbfmlklaldaaGreat
set_option linter.unusedSimpArgs false
set_option linter.unusedVariables false
namespace Go.Proofs.YtdnhbfmlklaldaaGreat
open Go Go.Am
def a14:AFn where
 code:=(.seq (.region false [⟨none,(some 0),.mov (.k (.bool false))⟩])
 (.seq (.region false [⟨none,(some 6),.build (rep 32 (w8 0#8)) [(0,1,(.k (w8 1#8)))]⟩,
  ⟨none,(some 7),.build [(w8 0#8),(w8 0#8),(w8 0#8),(w8 0#8),(w8 0#8),(w8 0#8),(w8 0#8),(w8 0#8),(w8 0#8),(w8 0#8),(w8 0#8),(w8 0#8),(w8 0#8),(w8 0#8),(w8 0#8),(w8 0#8),(w8 0#8),(w8 0#8),(w8 0#8),(w8 0#8),(w8 0#8),(w8 0#8),(w8 0#8),(w8 0#8),(w8 0#8),(w8 0#8),(w8 0#8),(w8 0#8),(w8 0#8),(w8 0#8),(w8 0#8),(w8 0#8),(.str []),(.str [])] [(0,32,(.t 6)),(32,1,(.k (.str [108]))),(33,1,(.k (.str [114])))]⟩,
  ⟨none,(some 1),.alloc [(w8 0#8),(w8 0#8),(w8 0#8),(w8 0#8),(w8 0#8),(w8 0#8),(w8 0#8),(w8 0#8),(w8 0#8),(w8 0#8),(w8 0#8),(w8 0#8),(w8 0#8),(w8 0#8),(w8 0#8),(w8 0#8),(w8 0#8),(w8 0#8),(w8 0#8),(w8 0#8),(w8 0#8),(w8 0#8),(w8 0#8),(w8 0#8),(w8 0#8),(w8 0#8),(w8 0#8),(w8 0#8),(w8 0#8),(w8 0#8),(w8 0#8),(w8 0#8),(.str []),(.str [])]⟩,
  ⟨none,none,.store 34 (.t 1) (.t 7)⟩])
 (.seq (.region false [⟨none,(some 8),.build (rep 32 (w8 0#8)) [(0,1,(.k (w8 1#8)))]⟩,
  ⟨none,(some 9),.build (rep 32 (w8 0#8)) [(0,1,(.k (w8 7#8)))]⟩,
  ⟨none,(some 10),.bsl 32 1 (rep 32 (w8 0#8)) [(0,32,(.t 9))]⟩,
  ⟨none,(some 11),.build [(.int .i64 0),(.str []),(w8 0#8),(w8 0#8),(w8 0#8),(w8 0#8),(w8 0#8),(w8 0#8),(w8 0#8),(w8 0#8),(w8 0#8),(w8 0#8),(w8 0#8),(w8 0#8),(w8 0#8),(w8 0#8),(w8 0#8),(w8 0#8),(w8 0#8),(w8 0#8),(w8 0#8),(w8 0#8),(w8 0#8),(w8 0#8),(w8 0#8),(w8 0#8),(w8 0#8),(w8 0#8),(w8 0#8),(w8 0#8),(w8 0#8),(w8 0#8),(w8 0#8),(w8 0#8),(.str []),(.str []),(.int .i64 0),(.bool false),(w8 0#8),(w8 0#8),(w8 0#8),(w8 0#8),(w8 0#8),(w8 0#8),(w8 0#8),(w8 0#8),(w8 0#8),(w8 0#8),(w8 0#8),(w8 0#8),(w8 0#8),(w8 0#8),(w8 0#8),(w8 0#8),(w8 0#8),(w8 0#8),(w8 0#8),(w8 0#8),(w8 0#8),(w8 0#8),(w8 0#8),(w8 0#8),(w8 0#8),(w8 0#8),(w8 0#8),(w8 0#8),(w8 0#8),(w8 0#8),(w8 0#8),(w8 0#8),.nils] [(0,1,(.k (.int .i64 1))),(1,1,(.k (.str [98]))),(2,32,(.t 8)),(34,1,(.k (.str [108]))),(35,1,(.k (.str [114]))),(36,1,(.k (.int .i64 5))),(70,1,(.t 10))]⟩,
  ⟨none,(some 12),.build (rep 32 (w8 0#8)) [(0,1,(.k (w8 1#8)))]⟩,
  ⟨none,(some 13),.build (rep 32 (w8 0#8)) [(0,1,(.k (w8 6#8)))]⟩,
  ⟨none,(some 14),.bsl 32 1 (rep 32 (w8 0#8)) [(0,32,(.t 13))]⟩,
  ⟨none,(some 15),.build [(.int .i64 0),(.str []),(w8 0#8),(w8 0#8),(w8 0#8),(w8 0#8),(w8 0#8),(w8 0#8),(w8 0#8),(w8 0#8),(w8 0#8),(w8 0#8),(w8 0#8),(w8 0#8),(w8 0#8),(w8 0#8),(w8 0#8),(w8 0#8),(w8 0#8),(w8 0#8),(w8 0#8),(w8 0#8),(w8 0#8),(w8 0#8),(w8 0#8),(w8 0#8),(w8 0#8),(w8 0#8),(w8 0#8),(w8 0#8),(w8 0#8),(w8 0#8),(w8 0#8),(w8 0#8),(.str []),(.str []),(.int .i64 0),(.bool false),(w8 0#8),(w8 0#8),(w8 0#8),(w8 0#8),(w8 0#8),(w8 0#8),(w8 0#8),(w8 0#8),(w8 0#8),(w8 0#8),(w8 0#8),(w8 0#8),(w8 0#8),(w8 0#8),(w8 0#8),(w8 0#8),(w8 0#8),(w8 0#8),(w8 0#8),(w8 0#8),(w8 0#8),(w8 0#8),(w8 0#8),(w8 0#8),(w8 0#8),(w8 0#8),(w8 0#8),(w8 0#8),(w8 0#8),(w8 0#8),(w8 0#8),(w8 0#8),.nils] [(0,1,(.k (.int .i64 1))),(1,1,(.k (.str [97]))),(2,32,(.t 12)),(34,1,(.k (.str [108]))),(35,1,(.k (.str [114]))),(36,1,(.k (.int .i64 5))),(70,1,(.t 14))]⟩,
  ⟨none,(some 16),.bsl 71 2 [(.int .i64 0),(.str []),(w8 0#8),(w8 0#8),(w8 0#8),(w8 0#8),(w8 0#8),(w8 0#8),(w8 0#8),(w8 0#8),(w8 0#8),(w8 0#8),(w8 0#8),(w8 0#8),(w8 0#8),(w8 0#8),(w8 0#8),(w8 0#8),(w8 0#8),(w8 0#8),(w8 0#8),(w8 0#8),(w8 0#8),(w8 0#8),(w8 0#8),(w8 0#8),(w8 0#8),(w8 0#8),(w8 0#8),(w8 0#8),(w8 0#8),(w8 0#8),(w8 0#8),(w8 0#8),(.str []),(.str []),(.int .i64 0),(.bool false),(w8 0#8),(w8 0#8),(w8 0#8),(w8 0#8),(w8 0#8),(w8 0#8),(w8 0#8),(w8 0#8),(w8 0#8),(w8 0#8),(w8 0#8),(w8 0#8),(w8 0#8),(w8 0#8),(w8 0#8),(w8 0#8),(w8 0#8),(w8 0#8),(w8 0#8),(w8 0#8),(w8 0#8),(w8 0#8),(w8 0#8),(w8 0#8),(w8 0#8),(w8 0#8),(w8 0#8),(w8 0#8),(w8 0#8),(w8 0#8),(w8 0#8),(w8 0#8),.nils] [(0,71,(.t 11)),(71,71,(.t 15))]⟩,
  ⟨none,(some 17),.build [(w8 0#8),(w8 0#8),(w8 0#8),(w8 0#8),(w8 0#8),(w8 0#8),(w8 0#8),(w8 0#8),(w8 0#8),(w8 0#8),(w8 0#8),(w8 0#8),(w8 0#8),(w8 0#8),(w8 0#8),(w8 0#8),(w8 0#8),(w8 0#8),(w8 0#8),(w8 0#8),(w8 0#8),(w8 0#8),(w8 0#8),(w8 0#8),(w8 0#8),(w8 0#8),(w8 0#8),(w8 0#8),(w8 0#8),(w8 0#8),(w8 0#8),(w8 0#8),(.int .i64 0),.nils,.nils,.nils] [(32,1,(.k (.int .i64 9))),(33,1,(.t 16))]⟩,
  ⟨none,(some 2),.alloc [(w8 0#8),(w8 0#8),(w8 0#8),(w8 0#8),(w8 0#8),(w8 0#8),(w8 0#8),(w8 0#8),(w8 0#8),(w8 0#8),(w8 0#8),(w8 0#8),(w8 0#8),(w8 0#8),(w8 0#8),(w8 0#8),(w8 0#8),(w8 0#8),(w8 0#8),(w8 0#8),(w8 0#8),(w8 0#8),(w8 0#8),(w8 0#8),(w8 0#8),(w8 0#8),(w8 0#8),(w8 0#8),(w8 0#8),(w8 0#8),(w8 0#8),(w8 0#8),(.int .i64 0),.nils,.nils,.nils]⟩,
  ⟨none,none,.store 36 (.t 2) (.t 17)⟩])
 (.seq (.region false [⟨none,(some 18),.load 36 true (.t 2)⟩,
  ⟨none,(some 19),.load 34 true (.t 1)⟩,
  ⟨none,(some 20),.build [(.int .i64 0),(.int .i64 0),(.int .i64 0),(.str [])] [(0,1,(.k (.int .i64 1))),(1,1,(.k (.int .i64 2)))]⟩,
  ⟨none,(some 21),.call (.k (.fn (.func 20) [] [])) [(.t 18),(.t 19),(.t 20)]⟩,
  ⟨none,(some 3),.alloc [(.bool false),.nils,(.int .i64 0)]⟩,
  ⟨none,none,.store 3 (.t 3) (.t 21)⟩])
 (.seq (.region false [⟨none,(some 22),.load 36 true (.t 2)⟩,
  ⟨none,(some 23),.load 34 true (.t 1)⟩,
  ⟨none,(some 24),.build [(.int .i64 0),(.int .i64 0),(.int .i64 0),(.str [])] [(0,1,(.k (.int .i64 1))),(1,1,(.k (.int .i64 3)))]⟩,
  ⟨none,(some 25),.call (.k (.fn (.func 20) [] [])) [(.t 22),(.t 23),(.t 24)]⟩,
  ⟨none,(some 4),.alloc [(.bool false),.nils,(.int .i64 0)]⟩,
  ⟨none,none,.store 3 (.t 4) (.t 25)⟩])
 (.seq (.region false [⟨none,(some 26),.load 36 true (.t 2)⟩,
  ⟨none,(some 27),.call (.k (.fn (.func 18) [] [])) [(.t 26)]⟩,
  ⟨none,(some 5),.mov (.t 27)⟩])
 (.seq (.region true [⟨none,(some 28),.fld 0 (.t 3)⟩,
  ⟨none,(some 29),.load 1 false (.t 28)⟩,
  ⟨none,(some 30),.mov (.t 29)⟩,
  ⟨(some (30,true)),(some 31),.fld 1 (.t 3)⟩,
  ⟨(some (30,true)),(some 32),.load 1 false (.t 31)⟩,
  ⟨(some (30,true)),(some 33),.len (.t 32)⟩,
  ⟨(some (30,true)),(some 34),.bin .eql (.t 33) (.k (.int .i64 2))⟩,
  ⟨none,(some 35),.pick (.t 30) (.t 34) (.k (.bool false))⟩,
  ⟨none,(some 36),.mov (.t 35)⟩,
  ⟨(some (36,true)),(some 37),.fld 0 (.t 4)⟩,
  ⟨(some (36,true)),(some 38),.load 1 false (.t 37)⟩,
  ⟨(some (36,true)),(some 39),.un .not (.t 38)⟩,
  ⟨none,(some 40),.pick (.t 36) (.t 39) (.k (.bool false))⟩,
  ⟨none,(some 41),.mov (.t 40)⟩,
  ⟨(some (41,true)),(some 42),.fld 2 (.t 4)⟩,
  ⟨(some (41,true)),(some 43),.load 1 false (.t 42)⟩,
  ⟨(some (41,true)),(some 44),.bin .eql (.t 43) (.k (.int .i64 1))⟩,
  ⟨none,(some 45),.pick (.t 41) (.t 44) (.k (.bool false))⟩,
  ⟨none,(some 46),.mov (.t 45)⟩,
  ⟨(some (46,true)),(some 47),.mov (.t 5)⟩,
  ⟨(some (46,true)),(some 48),.len (.t 47)⟩,
  ⟨(some (46,true)),(some 49),.bin .eql (.t 48) (.k (.int .i64 1))⟩,
  ⟨none,(some 50),.pick (.t 46) (.t 49) (.k (.bool false))⟩,
  ⟨none,(some 51),.mov (.t 50)⟩,
  ⟨(some (51,true)),(some 52),.mov (.t 5)⟩,
  ⟨(some (51,true)),(some 53),.idxS 34 (.t 52) (.k (.int .i64 0))⟩,
  ⟨(some (51,true)),(some 54),.load 34 true (.t 53)⟩,
  ⟨(some (51,true)),(some 55),.load 34 true (.t 1)⟩,
  ⟨(some (51,true)),(some 56),.eqa false [(32,0),(2,1)] (.t 54) (.t 55)⟩,
  ⟨none,(some 57),.pick (.t 51) (.t 56) (.k (.bool false))⟩,
  ⟨none,(some 58),.mov (.t 57)⟩,
  ⟨(some (58,true)),(some 59),.load 36 true (.t 2)⟩,
  ⟨(some (58,true)),(some 60),.load 34 true (.t 1)⟩,
  ⟨(some (58,true)),(some 61),.build [(.int .i64 0),(.int .i64 0),(.int .i64 0),(.str [])] [(0,1,(.k (.int .i64 7))),(1,1,(.k (.int .i64 4)))]⟩,
  ⟨(some (58,true)),(some 62),.build (rep 32 (w8 0#8)) [(0,1,(.k (w8 6#8)))]⟩,
  ⟨(some (58,true)),(some 63),.bsl 32 1 (rep 32 (w8 0#8)) [(0,32,(.t 62))]⟩,
  ⟨(some (58,true)),(some 64),.callN (.k (.fn (.func 22) [] [])) [(.t 59),(.t 60),(.t 61),(.t 63)]⟩,
  ⟨none,(some 65),.pick (.t 58) (.t 64) (.k (.bool false))⟩,
  ⟨none,(some 0),.mov (.t 65)⟩])
 .ret)))))))
 ntmps:=66
 res:=[.tmp 0]
theorem zzfl:zsjc P Tryz.f14=some a14:=by kernel_rfl
def zlo9:ACode :=
 (.seq (.region false [⟨none,(some 9),.bin .lss (.t 8) (.t 7)⟩])
 (.seq (.cond (.t 9) .skip
 (.exit 0))
 (.seq (.block 1 (.seq (.region false [⟨none,(some 10),.idxS 1 (.t 6) (.t 8)⟩,
  ⟨none,(some 11),.load 1 false (.t 10)⟩,
  ⟨none,(some 5),.mov (.t 11)⟩])
 (.seq (.region false [⟨none,(some 12),.mov (.t 5)⟩,
  ⟨none,(some 13),.mov (.t 3)⟩,
  ⟨none,(some 14),.bin .neq (.t 12) (.t 13)⟩])
 (.cond (.t 14) (.seq (.region false [⟨none,(some 15),.mov (.t 5)⟩,
  ⟨none,(some 2),.mov (.t 15)⟩])
 .ret)
 .skip))))
 (.region false [⟨none,(some 16),.bin .add (.t 8) (.k (.int .i64 1))⟩,
  ⟨none,(some 8),.mov (.t 16)⟩]))))
def zp5l (x3 x6 x7 x8:DV) (h:List AObj):St:=⟨[.junk,.junk,.junk,x3,.junk,.junk,x6,x7,x8]++js 9,h⟩
def a36:AFn where
 code:=(.seq (.region false [⟨none,(some 2),.mov (.k (.int .i64 0))⟩])
 (.seq (.region false [⟨none,(some 3),.mov (.k (.int .i64 0))⟩])
 (.seq (.seq (.region false [⟨none,(some 6),.mov (.t 0)⟩,
  ⟨none,(some 7),.len (.t 6)⟩,
  ⟨none,(some 8),.mov (.k (.int .i64 0))⟩])
 (.block 0 (.loop zlo9)))
 (.seq (.region false [⟨none,(some 17),.mov (.t 3)⟩,
  ⟨none,(some 2),.mov (.t 17)⟩])
 .ret))))
 ntmps:=18
 res:=[.tmp 2]
theorem zj68:zsjc P Tryz.f36=some a36:=by kernel_rfl
def a38:AFn where
 code:=(.seq (.region false [⟨none,(some 4),.mov (.k (.int .i64 0))⟩])
 (.seq (.region false [⟨none,(some 7),.mov (.t 0)⟩,
  ⟨none,(some 8),.call (.k (.fn (.func 63) [] [])) [(.t 7)]⟩,
  ⟨none,(some 5),.mov (.t 8)⟩])
 (.seq (.region false [⟨none,(some 9),.mov (.t 1)⟩,
  ⟨none,(some 10),.call (.k (.fn (.func 63) [] [])) [(.t 9)]⟩,
  ⟨none,(some 6),.mov (.t 10)⟩])
 (.seq (.seq (.region false [⟨none,(some 11),.mov (.t 5)⟩])
 (.cond (.t 11) (.seq (.seq (.region false [⟨none,(some 12),.mov (.t 6)⟩])
 (.cond (.t 12) (.seq (.region false [⟨none,(some 4),.mov (.k (.int .i64 0))⟩])
 .ret)
 .skip))
 (.seq (.region false [⟨none,(some 4),.mov (.k (.int .i64 (-1)))⟩])
 .ret))
 .skip))
 (.seq (.seq (.region false [⟨none,(some 13),.mov (.t 6)⟩])
 (.cond (.t 13) (.seq (.region false [⟨none,(some 4),.mov (.k (.int .i64 1))⟩])
 .ret)
 .skip))
 (.seq (.seq (.region false [⟨none,(some 14),.mov (.t 0)⟩,
  ⟨none,(some 15),.mov (.t 1)⟩,
  ⟨none,(some 16),.bin .lss (.t 14) (.t 15)⟩])
 (.cond (.t 16) (.seq (.region false [⟨none,(some 4),.mov (.k (.int .i64 (-1)))⟩])
 .ret)
 .skip))
 (.seq (.seq (.region false [⟨none,(some 17),.mov (.t 0)⟩,
  ⟨none,(some 18),.mov (.t 1)⟩,
  ⟨none,(some 19),.bin .gtr (.t 17) (.t 18)⟩])
 (.cond (.t 19) (.seq (.region false [⟨none,(some 4),.mov (.k (.int .i64 1))⟩])
 .ret)
 .skip))
 (.seq (.region false [⟨none,(some 4),.mov (.k (.int .i64 0))⟩])
 .ret))))))))
 ntmps:=20
 res:=[.tmp 4]
theorem zclx:zsjc P Tryz.f38=some a38:=by kernel_rfl
def z9mq:ACode :=
 (.seq (.seq (.region false [⟨none,(some 29),.mov (.t 5)⟩,
  ⟨none,(some 30),.mov (.t 4)⟩,
  ⟨none,(some 31),.len (.t 30)⟩,
  ⟨none,(some 32),.bin .lss (.t 29) (.t 31)⟩])
 (.cond (.t 32) .skip
 (.exit 2)))
 (.seq (.block 3 (.seq (.region true [⟨none,(some 35),.mov (.t 4)⟩,
  ⟨none,(some 36),.mov (.t 5)⟩,
  ⟨none,(some 37),.idxS 34 (.t 35) (.t 36)⟩,
  ⟨none,(some 38),.load 34 true (.t 37)⟩,
  ⟨none,(some 39),.mov (.t 4)⟩,
  ⟨none,(some 40),.mov (.t 5)⟩,
  ⟨none,(some 41),.bin .sub (.t 40) (.k (.int .i64 1))⟩,
  ⟨none,(some 42),.idxS 34 (.t 39) (.t 41)⟩,
  ⟨none,(some 43),.load 34 true (.t 42)⟩,
  ⟨none,(some 44),.eqa true [(32,0),(2,1)] (.t 38) (.t 43)⟩])
 (.cond (.t 44) (.seq (.region false [⟨none,(some 45),.mov (.t 0)⟩,
  ⟨none,(some 46),.mov (.t 3)⟩,
  ⟨none,(some 47),.mov (.t 4)⟩,
  ⟨none,(some 48),.mov (.t 5)⟩,
  ⟨none,(some 49),.idxS 34 (.t 47) (.t 48)⟩,
  ⟨none,(some 50),.load 34 true (.t 49)⟩,
  ⟨none,(some 51),.idxS 34 (.t 45) (.t 46)⟩,
  ⟨none,none,.store 34 (.t 51) (.t 50)⟩])
 (.region false [⟨none,(some 52),.mov (.t 3)⟩,
  ⟨none,(some 53),.bin .add (.t 52) (.k (.int .i64 1))⟩,
  ⟨none,(some 3),.mov (.t 53)⟩]))
 .skip)))
 (.region false [⟨none,(some 33),.mov (.t 5)⟩,
  ⟨none,(some 34),.bin .add (.t 33) (.k (.int .i64 1))⟩,
  ⟨none,(some 5),.mov (.t 34)⟩])))
def zbmj (x0 x3 x4 x5:DV) (h:List AObj):St:=⟨[x0,.junk,.junk,x3,x4,x5]++js 55,h⟩
def znbh:ACode :=
 (.seq (.seq (.region false [⟨none,(some 10),.mov (.t 3)⟩,
  ⟨none,(some 11),.mov (.t 0)⟩,
  ⟨none,(some 12),.len (.t 11)⟩,
  ⟨none,(some 13),.bin .lss (.t 10) (.t 12)⟩])
 (.cond (.t 13) .skip
 (.exit 0)))
 (.seq (.block 1 (.seq (.region true [⟨none,(some 16),.mov (.t 0)⟩,
  ⟨none,(some 17),.mov (.t 3)⟩,
  ⟨none,(some 18),.idxS 34 (.t 16) (.t 17)⟩,
  ⟨none,(some 19),.load 34 true (.t 18)⟩,
  ⟨none,(some 20),.mov (.t 0)⟩,
  ⟨none,(some 21),.mov (.t 3)⟩,
  ⟨none,(some 22),.bin .sub (.t 21) (.k (.int .i64 1))⟩,
  ⟨none,(some 23),.idxS 34 (.t 20) (.t 22)⟩,
  ⟨none,(some 24),.load 34 true (.t 23)⟩,
  ⟨none,(some 25),.eqa false [(32,0),(2,1)] (.t 19) (.t 24)⟩])
 (.cond (.t 25) (.seq (.region false [⟨none,(some 26),.mov (.t 0)⟩,
  ⟨none,(some 27),.mov (.t 3)⟩,
  ⟨none,(some 28),.slcS 34 (.t 26) (some (.t 27)) none none⟩,
  ⟨none,(some 4),.mov (.t 28)⟩])
 (.seq (.seq (.region false [⟨none,(some 5),.mov (.k (.int .i64 1))⟩])
 (.block 2 (.loop z9mq)))
 (.seq (.region false [⟨none,(some 54),.mov (.t 0)⟩,
  ⟨none,(some 55),.mov (.t 3)⟩,
  ⟨none,(some 56),.slcS 34 (.t 54) (some (.t 55)) none none⟩,
  ⟨none,none,.clr 34 [(w8 0#8),(w8 0#8),(w8 0#8),(w8 0#8),(w8 0#8),(w8 0#8),(w8 0#8),(w8 0#8),(w8 0#8),(w8 0#8),(w8 0#8),(w8 0#8),(w8 0#8),(w8 0#8),(w8 0#8),(w8 0#8),(w8 0#8),(w8 0#8),(w8 0#8),(w8 0#8),(w8 0#8),(w8 0#8),(w8 0#8),(w8 0#8),(w8 0#8),(w8 0#8),(w8 0#8),(w8 0#8),(w8 0#8),(w8 0#8),(w8 0#8),(w8 0#8),(.str []),(.str [])] (.t 56)⟩])
 (.seq (.region false [⟨none,(some 57),.mov (.t 0)⟩,
  ⟨none,(some 58),.mov (.t 3)⟩,
  ⟨none,(some 59),.slcS 34 (.t 57) none (some (.t 58)) none⟩,
  ⟨none,(some 2),.mov (.t 59)⟩])
 .ret))))
 .skip)))
 (.region false [⟨none,(some 14),.mov (.t 3)⟩,
  ⟨none,(some 15),.bin .add (.t 14) (.k (.int .i64 1))⟩,
  ⟨none,(some 3),.mov (.t 15)⟩])))
def zly3 (x0 x3:DV) (h:List AObj):St:=⟨[x0,.junk,.junk,x3]++js 57,h⟩
def a39:AFn where
 code:=(.seq (.region false [⟨none,(some 2),.mov (.k .nils)⟩])
 (.seq (.seq (.region false [⟨none,(some 6),.mov (.t 0)⟩,
  ⟨none,(some 7),.len (.t 6)⟩,
  ⟨none,(some 8),.bin .lss (.t 7) (.k (.int .i64 2))⟩])
 (.cond (.t 8) (.seq (.region false [⟨none,(some 9),.mov (.t 0)⟩,
  ⟨none,(some 2),.mov (.t 9)⟩])
 .ret)
 .skip))
 (.seq (.seq (.region false [⟨none,(some 3),.mov (.k (.int .i64 1))⟩])
 (.block 0 (.loop znbh)))
 (.seq (.region false [⟨none,(some 60),.mov (.t 0)⟩,
  ⟨none,(some 2),.mov (.t 60)⟩])
 .ret))))
 ntmps:=61
 res:=[.tmp 2]
theorem zjwo:zsjc P Tryz.f39=some a39:=by kernel_rfl
def a35:AFn where
 code:=(.seq (.region false [⟨none,(some 2),.box (.t 0)⟩,
  ⟨none,(some 3),.box (.t 1)⟩,
  ⟨none,(some 4),.mov (.k (.int .i64 0))⟩])
 (.seq (.region true [⟨none,(some 5),.fld 0 (.t 2)⟩,
  ⟨none,(some 6),.slcA 32 1 (.t 5) none none⟩,
  ⟨none,(some 7),.fld 0 (.t 3)⟩,
  ⟨none,(some 8),.slcA 32 1 (.t 7) none none⟩,
  ⟨none,(some 10),.fld 32 (.t 2)⟩,
  ⟨none,(some 11),.load 1 false (.t 10)⟩,
  ⟨none,(some 12),.fld 32 (.t 3)⟩,
  ⟨none,(some 13),.load 1 false (.t 12)⟩,
  ⟨none,(some 15),.fld 33 (.t 2)⟩,
  ⟨none,(some 16),.load 1 false (.t 15)⟩,
  ⟨none,(some 17),.fld 33 (.t 3)⟩,
  ⟨none,(some 18),.load 1 false (.t 17)⟩,
  ⟨none,(some 9),.callN (.k (.fn (.func 37) [] [])) [(.t 6),(.t 8)]⟩,
  ⟨none,(some 14),.callN (.k (.fn (.func 38) [] [])) [(.t 11),(.t 13)]⟩,
  ⟨none,(some 19),.callN (.k (.fn (.func 38) [] [])) [(.t 16),(.t 18)]⟩,
  ⟨none,(some 20),.bsl 1 3 [(.int .i64 0)] [(0,1,(.t 9)),(1,1,(.t 14)),(2,1,(.t 19))]⟩,
  ⟨none,(some 21),.callN (.k (.fn (.func 36) [] [])) [(.t 20)]⟩,
  ⟨none,(some 4),.mov (.t 21)⟩])
 .ret))
 ntmps:=22
 res:=[.tmp 4]
theorem zxwh:zsjc P Tryz.f35=some a35:=by kernel_rfl
def zjhm:ACode :=
 (.seq (.region false [⟨none,(some 10),.bin .lss (.t 9) (.t 8)⟩])
 (.seq (.cond (.t 10) .skip
 (.exit 0))
 (.seq (.block 1 (.seq (.region false [⟨none,(some 11),.idxS 71 (.t 7) (.t 9)⟩,
  ⟨none,(some 12),.load 71 true (.t 11)⟩,
  ⟨none,(some 5),.alloc [(.int .i64 0),(.str []),(w8 0#8),(w8 0#8),(w8 0#8),(w8 0#8),(w8 0#8),(w8 0#8),(w8 0#8),(w8 0#8),(w8 0#8),(w8 0#8),(w8 0#8),(w8 0#8),(w8 0#8),(w8 0#8),(w8 0#8),(w8 0#8),(w8 0#8),(w8 0#8),(w8 0#8),(w8 0#8),(w8 0#8),(w8 0#8),(w8 0#8),(w8 0#8),(w8 0#8),(w8 0#8),(w8 0#8),(w8 0#8),(w8 0#8),(w8 0#8),(w8 0#8),(w8 0#8),(.str []),(.str []),(.int .i64 0),(.bool false),(w8 0#8),(w8 0#8),(w8 0#8),(w8 0#8),(w8 0#8),(w8 0#8),(w8 0#8),(w8 0#8),(w8 0#8),(w8 0#8),(w8 0#8),(w8 0#8),(w8 0#8),(w8 0#8),(w8 0#8),(w8 0#8),(w8 0#8),(w8 0#8),(w8 0#8),(w8 0#8),(w8 0#8),(w8 0#8),(w8 0#8),(w8 0#8),(w8 0#8),(w8 0#8),(w8 0#8),(w8 0#8),(w8 0#8),(w8 0#8),(w8 0#8),(w8 0#8),.nils]⟩,
  ⟨none,none,.store 71 (.t 5) (.t 12)⟩])
 (.seq (.region false [⟨none,(some 13),.fld 0 (.t 5)⟩,
  ⟨none,(some 14),.load 1 false (.t 13)⟩,
  ⟨none,(some 15),.bin .eql (.t 14) (.k (.int .i64 1))⟩])
 (.cond (.t 15) (.region false [⟨none,(some 16),.mov (.t 3)⟩,
  ⟨none,(some 17),.load 71 true (.t 5)⟩,
  ⟨none,(some 18),.call (.k (.fn (.func 33) [] [])) [(.t 17)]⟩,
  ⟨none,(some 19),.bsl 34 1 [(w8 0#8),(w8 0#8),(w8 0#8),(w8 0#8),(w8 0#8),(w8 0#8),(w8 0#8),(w8 0#8),(w8 0#8),(w8 0#8),(w8 0#8),(w8 0#8),(w8 0#8),(w8 0#8),(w8 0#8),(w8 0#8),(w8 0#8),(w8 0#8),(w8 0#8),(w8 0#8),(w8 0#8),(w8 0#8),(w8 0#8),(w8 0#8),(w8 0#8),(w8 0#8),(w8 0#8),(w8 0#8),(w8 0#8),(w8 0#8),(w8 0#8),(w8 0#8),(.str []),(.str [])] [(0,34,(.t 18))]⟩,
  ⟨none,(some 20),.app 34 64 (.t 16) (.t 19)⟩,
  ⟨none,(some 3),.mov (.t 20)⟩])
 .skip))))
 (.region false [⟨none,(some 21),.bin .add (.t 9) (.k (.int .i64 1))⟩,
  ⟨none,(some 9),.mov (.t 21)⟩]))))
def zzg5 (x3 x7 x8 x9:DV) (h:List AObj):St:=⟨[.junk,.junk,.junk,x3,.junk,.junk,.junk,x7,x8,x9]++js 21,h⟩
def a18:AFn where
 code:=(.seq (.region false [⟨none,(some 1),.box (.t 0)⟩,
  ⟨none,(some 2),.mov (.k .nils)⟩])
 (.seq (.region false [⟨none,(some 3),.mov (.k .nils)⟩])
 (.seq (.seq (.region false [⟨none,(some 6),.fld 33 (.t 1)⟩,
  ⟨none,(some 7),.load 1 false (.t 6)⟩,
  ⟨none,(some 8),.len (.t 7)⟩,
  ⟨none,(some 9),.mov (.k (.int .i64 0))⟩])
 (.block 0 (.loop zjhm)))
 (.seq (.seq (.region false [⟨none,(some 22),.mov (.t 3)⟩,
  ⟨none,(some 23),.len (.t 22)⟩,
  ⟨none,(some 24),.bin .eql (.t 23) (.k (.int .i64 0))⟩])
 (.cond (.t 24) (.seq (.region false [⟨none,(some 25),.build [(w8 0#8),(w8 0#8),(w8 0#8),(w8 0#8),(w8 0#8),(w8 0#8),(w8 0#8),(w8 0#8),(w8 0#8),(w8 0#8),(w8 0#8),(w8 0#8),(w8 0#8),(w8 0#8),(w8 0#8),(w8 0#8),(w8 0#8),(w8 0#8),(w8 0#8),(w8 0#8),(w8 0#8),(w8 0#8),(w8 0#8),(w8 0#8),(w8 0#8),(w8 0#8),(w8 0#8),(w8 0#8),(w8 0#8),(w8 0#8),(w8 0#8),(w8 0#8),(.str []),(.str [])] []⟩,
  ⟨none,(some 26),.bsl 34 1 [(w8 0#8),(w8 0#8),(w8 0#8),(w8 0#8),(w8 0#8),(w8 0#8),(w8 0#8),(w8 0#8),(w8 0#8),(w8 0#8),(w8 0#8),(w8 0#8),(w8 0#8),(w8 0#8),(w8 0#8),(w8 0#8),(w8 0#8),(w8 0#8),(w8 0#8),(w8 0#8),(w8 0#8),(w8 0#8),(w8 0#8),(w8 0#8),(w8 0#8),(w8 0#8),(w8 0#8),(w8 0#8),(w8 0#8),(w8 0#8),(w8 0#8),(w8 0#8),(.str []),(.str [])] [(0,34,(.t 25))]⟩,
  ⟨none,(some 2),.mov (.t 26)⟩])
 .ret)
 .skip))
 (.seq (.region false [⟨none,(some 27),.mov (.t 3)⟩,
  ⟨none,(some 28),.call (.k (.fn (.func 34) [] [])) [(.t 27),(.k (.fn (.func 35) [] []))]⟩])
 (.seq (.region false [⟨none,(some 29),.mov (.t 3)⟩,
  ⟨none,(some 30),.call (.k (.fn (.func 39) [] [])) [(.t 29)]⟩,
  ⟨none,(some 2),.mov (.t 30)⟩])
 .ret))))))
 ntmps:=31
 res:=[.tmp 2]
theorem zt5q:zsjc P Tryz.f18=some a18:=by kernel_rfl
end Go.Proofs.YtdnhbfmlklaldaaGreat
set_option linter.unusedSimpArgs false
set_option linter.unusedVariables false
namespace Go.Proofs.YtdnhbfmlklaldaaGreat
open Go Go.Am
def zavf (a b:Str):Int:=if Op.bytesLess a b then -1 else if Op.bytesLess b a then 1 else 0
theorem zrmv {a b:Str}:zhl4 .gtr (.str a) (.str b)=some (.bool (Op.bytesLess b a)):=by
 have e:zhl4 .gtr (.str a) (.str b)=some (.bool (!(Op.bytesLess a b||a == b))):=by simp [zhl4,zdnj]
 rw [e]
 congr 2
 rcases zoet a b with h|h|h
 ·have h':Op.bytesLess b a=false:=by
   cases q:Op.bytesLess b a with
   | false=>rfl
   | true=>have:=z8c3 _ _ _ h q; rw [zrk4] at this; cases this
  rw [h,h']; rfl
 ·subst h; simp [zrk4]
 ·have h':Op.bytesLess a b=false:=by
   cases q:Op.bytesLess a b with
   | false=>rfl
   | true=>have:=z8c3 _ _ _ h q; rw [zrk4] at this; cases this
  have hn:¬ a=b:=fun e=>by rw [e,zrk4] at h; cases h
  rw [h,h']; simp [hn]
attribute [simp] zrmv
theorem za9u (a b:Str):Runs T500 a38 [.str a,.str b] (.int .i64 (zavf a b)):=by
 refine ⟨?_⟩
 unfold zavf
 cases h1:Op.bytesLess a b with
 | true=>simp (disch:=first|omega|simp<;>omega|fail) [-zA,-zB,-zC,-zD,-zE,a38,zp4j,z8u6,h1]
 | false =>
  cases h2:Op.bytesLess b a with
  | true=>simp (disch:=first|omega|simp<;>omega|fail) [-zA,-zB,-zC,-zD,-zE,a38,zp4j,z8u6,h1,h2]
  | false=>simp (disch:=first|omega|simp<;>omega|fail) [-zA,-zB,-zC,-zD,-zE,a38,zp4j,z8u6,h1,h2]
noncomputable def cCs:List DV→Option DV
 | [.str a,.str b]=>some (.int .i64 (zavf a b))|_=>none
theorem zc1k {a b:Str}:cCs [.str a,.str b]=some (.int .i64 (zavf a b)):=rfl
theorem zqxd:(Con.pure cCs).Sound P 38:=by
 intro args v e
 unfold cCs at e
 split at e
 ·simp at e; subst e; exact zljw mix zii9 Tryz.func38 zclx (za9u _ _)
 ·simp at e
def orI (a b c:Int):Int:=if a=0 then (if b=0 then c else b) else a
def S640 (a b c:Int) (i:Nat):St:=zp5l (.int .i64 0) (.sl true 1 3 [.int .i64 a,.int .i64 b,.int .i64 c]) (.int .i64 3) (.int .i64 i) []
theorem z5l8 (a b c:Int):Runs tbl0 a36 [.sl true 1 3 [.int .i64 a,.int .i64 b,.int .i64 c]] (.int .i64 (orI a b c)):=by
 refine ⟨?_⟩
 unfold orI
 simp (disch:=first|omega|simp<;>omega|fail) [-zA,-zB,-zC,-zD,-zE,a36]
 refine zlm5 (S640 a b c) (fun i=>3-i) (fun i=>i≤3∧(1≤i→a=0)∧(2≤i→b=0)∧(3≤i→c=0)) 0 (z515 (by simp (disch:=first|omega|simp<;>omega|fail) [-zA,-zB,-zC,-zD,-zE,S640,zp5l]) (by simp (disch:=first|omega|simp<;>omega|fail) [-zA,-zB,-zC,-zD,-zE,S640,zp5l])) (by omega) (fun i hi => ?_)
 obtain ⟨h1,h2,h3,h4⟩:=hi
 simp only [S640]
 by_cases i0:i=0
 ·subst i0
  by_cases ha:a=0
  ·simp (disch:=first|omega|simp<;>omega|fail) [-zA,-zB,-zC,-zD,-zE,zlo9,zp5l,ha]
   exact ⟨1,z515 (by simp (disch:=first|omega|simp<;>omega|fail) [-zA,-zB,-zC,-zD,-zE,S640,zp5l]) (by simp (disch:=first|omega|simp<;>omega|fail) [-zA,-zB,-zC,-zD,-zE,S640,zp5l]),by omega,by omega⟩
  ·simp (disch:=first|omega|simp<;>omega|fail) [-zA,-zB,-zC,-zD,-zE,zlo9,zp5l,ha]
 by_cases i1:i=1
 ·subst i1
  have ha:=h2 (by omega)
  by_cases hb:b=0
  ·simp (disch:=first|omega|simp<;>omega|fail) [-zA,-zB,-zC,-zD,-zE,zlo9,zp5l,ha,hb]
   exact ⟨2,z515 (by simp (disch:=first|omega|simp<;>omega|fail) [-zA,-zB,-zC,-zD,-zE,S640,zp5l]) (by simp (disch:=first|omega|simp<;>omega|fail) [-zA,-zB,-zC,-zD,-zE,S640,zp5l]),by omega,by omega⟩
  ·simp (disch:=first|omega|simp<;>omega|fail) [-zA,-zB,-zC,-zD,-zE,zlo9,zp5l,ha,hb]
 by_cases i2:i=2
 ·subst i2
  have ha:=h2 (by omega)
  have hb:=h3 (by omega)
  by_cases hc:c=0
  ·simp (disch:=first|omega|simp<;>omega|fail) [-zA,-zB,-zC,-zD,-zE,zlo9,zp5l,ha,hb,hc]
   exact ⟨3,z515 (by simp (disch:=first|omega|simp<;>omega|fail) [-zA,-zB,-zC,-zD,-zE,S640,zp5l]) (by simp (disch:=first|omega|simp<;>omega|fail) [-zA,-zB,-zC,-zD,-zE,S640,zp5l]),by omega,by omega⟩
  ·simp (disch:=first|omega|simp<;>omega|fail) [-zA,-zB,-zC,-zD,-zE,zlo9,zp5l,ha,hb,hc]
 obtain rfl:i=3:=by omega
 have ha:=h2 (by omega)
 have hb:=h3 (by omega)
 have hc:=h4 (by omega)
 simp (disch:=first|omega|simp<;>omega|fail) [-zA,-zB,-zC,-zD,-zE,zlo9,zp5l,ha,hb,hc]
noncomputable def cOi:List DV→Option DV
 | [.sl true 1 3 [.int .i64 a,.int .i64 b,.int .i64 c]]=>some (.int .i64 (orI a b c))|_=>none
theorem zfih {a b c:Int}:cOi [.sl true 1 3 [.int .i64 a,.int .i64 b,.int .i64 c]]=some (.int .i64 (orI a b c)):=rfl
theorem z6wd:(Con.pure cOi).Sound P 36:=by
 intro args v e
 unfold cOi at e
 split at e
 ·simp at e; subst e; exact zljw mix zr5o Tryz.func36 zj68 (z5l8 _ _ _)
 ·simp at e
noncomputable def T640:Tbl:=addT 37 (.pure cBc) (addT 38 (.pure cCs) (addT 36 (.pure cOi) tbl0))
theorem zvi1:T640 37 = .pure cBc:=by simp [T640]
theorem zy0j:T640 38 = .pure cCs:=by simp [T640]
theorem z2i9:T640 36 = .pure cOi:=by simp [T640]
theorem zhwj:T640.Sound P:=z0rp zroj (z0rp zqxd (z0rp z6wd zr5o))
def zhqs (a b:Org):Int:=orI (zsy0 a.rev b.rev) (zavf a.lay b.lay) (zavf a.run b.run)
theorem z5ha {a b:Str}:zavf a b<0↔Op.bytesLess a b=true:=by
 unfold zavf; split
 ·rename_i h; simp [h]
 ·rename_i h; simp [h]; split<;>decide
theorem zmen {a b:Str}:zavf a b=0↔a=b:=by
 unfold zavf
 rcases zoet a b with h|h|h
 ·simp only [h,if_true]; constructor
  ·intro q; omega
  ·intro q; rw [q,zrk4] at h; cases h
 ·subst h; simp [zrk4]
 ·have h':Op.bytesLess a b=false:=by
   cases q:Op.bytesLess a b with
   | false=>rfl
   | true=>have:=z8c3 _ _ _ h q; rw [zrk4] at this; cases this
  simp only [h,h',if_true]
  constructor
  ·intro q; simp at q
  ·intro q; rw [q,zrk4] at h; cases h
theorem zd99 : ∀ (a b:List UInt8),Lib.compareBytes a b=0↔a=b
 | [],[]=>by simp [Lib.compareBytes]
 | [],_::_=>by simp [Lib.compareBytes]
 | _::_,[]=>by simp [Lib.compareBytes]
 | x::a,y::b=>by
  have ih:=zd99 a b
  simp only [Lib.compareBytes]
  by_cases h:x<y
  ·have:¬ x=y:=fun e=>by subst e; exact UInt8.lt_irrefl x h
   simp [h,this]
  ·by_cases h':y<x
   ·have:¬ x=y:=fun e=>by subst e; exact UInt8.lt_irrefl x h'
    simp [h,h',this]
   ·have:x=y:=UInt8.le_antisymm (UInt8.not_lt.1 h') (UInt8.not_lt.1 h)
    subst this; simp [ih]
theorem zj7u {a b:Dg}:zsy0 a b=0↔a=b:=(zd99 _ _).trans ⟨fun e=>znyd _ _ e,fun e=>by rw [e]⟩
theorem zaml {a b:Org}:zhqs a b<0↔orLt a b=true:=by
 unfold zhqs orI orLt zynh
 by_cases h1:a.rev=b.rev
 ·rw [if_pos (zj7u.2 h1),if_pos h1]
  by_cases h2:a.lay=b.lay
  ·rw [if_pos (zmen.2 h2),if_pos h2]; exact z5ha
  ·rw [if_neg (fun q=>h2 (zmen.1 q)),if_neg h2]; exact z5ha
 ·rw [if_neg (fun q=>h1 (zj7u.1 q)),if_neg h1]; exact zxr9
theorem zcpd (a b:Org):Runs T640 a35 [.agg (orC a),.agg (orC b)] (.int .i64 (zhqs a b)):=by
 refine ⟨?_⟩
 have t1 : ∀ (o:Org),(orC o).take 32=dgC o.rev:=fun o=>List.take_left' (z1t1 _)
 have t2 : ∀ f g,cBc [.sl f 1 32 (dgC a.rev),.sl g 1 32 (dgC b.rev)]=_:=fun f g=>z1f4
 simp (disch:=first|omega|simp<;>omega|fail) [-zA,-zB,-zC,-zD,-zE,a35,zvi1,zy0j,z2i9,t1,t2,zc1k,zfih,zu78,zhqs]
def orZ:Org:=⟨dg0,[],[]⟩
theorem zfm5:orC orZ=[w8 0#8,w8 0#8,w8 0#8,w8 0#8,w8 0#8,w8 0#8,w8 0#8,w8 0#8,w8 0#8,w8 0#8,w8 0#8,w8 0#8,w8 0#8,w8 0#8,w8 0#8,w8 0#8,w8 0#8,w8 0#8,w8 0#8,w8 0#8,w8 0#8,w8 0#8,w8 0#8,w8 0#8,w8 0#8,w8 0#8,w8 0#8,w8 0#8,w8 0#8,w8 0#8,w8 0#8,w8 0#8,.str [],.str []]:=rfl
end Go.Proofs.YtdnhbfmlklaldaaGreat
set_option linter.unusedSimpArgs false
set_option linter.unusedVariables false
namespace Go.Proofs.YtdnhbfmlklaldaaGreat
open Go Go.Am
abbrev SO:=List AObj × Sl Org
noncomputable def cMuO (A:SO→Prop) (f:SO→List DV) (g:SO→DV × List AObj):List DV→List AObj→Option (DV × List AObj):=conH A (fun a=>(f a,a.1++mo orC a.2.l)) g
theorem z1cc {A:SO→Prop} {f:SO→List DV} {g:SO→DV × List AObj} (hf : ∀ a b,f a=f b→mutD a.1.length 34 a.2 orC=mutD b.1.length 34 b.2 orC) (hg : ∀ a b:SO,a.1=b.1→a.2.l=b.2.l→(a.2.l=[]→a.2.clone.dv 34 orC=b.2.clone.dv 34 orC)→g a=g b) {a:SO} (h:A a):cMuO A f g (f a) (a.1++mo orC a.2.l)=some (g a) :=
 zu6y (A:=A) (f:=fun a=>(f a,a.1++mo orC a.2.l)) (g:=g) (fun a b h1 h2 e=>by
  simp only [Prod.mk.injEq] at e
  obtain ⟨p,q,r⟩:=zt7j zu78 (by decide) (fun _ _=>zc65) (hf a b e.1) e.2
  exact hg a b p q r) a h
def zuwh (a:SO):DV × List AObj:=(.tup [],a.1++mo orC (zxu4 orLt a.2.l))
theorem zefi (a b:SO) (h1:a.1=b.1) (h2:a.2.l=b.2.l) (h3:a.2.l=[]→a.2.clone.dv 34 orC=b.2.clone.dv 34 orC):zuwh a=zuwh b:=by unfold zuwh; rw [h1,h2]
def znpv (a:SO):DV × List AObj:=(cmD 34 a.1.length orC a.2,a.1++mo orC (zly8 orZ a.2.l))
theorem zvb7 (a b:SO) (h1:a.1=b.1) (h2:a.2.l=b.2.l) (h3:a.2.l=[]→a.2.clone.dv 34 orC=b.2.clone.dv 34 orC):znpv a=znpv b:=by
 unfold znpv cmD
 rw [h1,h2]
 by_cases e:b.2.l=[]
 ·rw [if_pos e,if_pos e,h3 (h2.trans e)]
 ·rw [if_neg e,if_neg e]
def sBO (a:SO):Prop:=a.2.l.length≤1000
def cBO (a:SO):Prop:=a.2.l.length≤1000000
def zhmi (a:SO):List DV:=[mutD a.1.length 34 a.2 orC,(.fn (.func 35) [] [])]
def zhw0 (a:SO):List DV:=[mutD a.1.length 34 a.2 orC]
theorem z4pf {a:SO} (h:a.2.l.length≤1000):cMuO sBO zhmi zuwh (zhmi a) (a.1++mo orC a.2.l)=some (.tup [],a.1++mo orC (zxu4 orLt a.2.l)):=z1cc (fun a b e=>by simp only [zhmi,List.cons.injEq] at e; exact e.1) zefi h
theorem z5x9 {a:SO} (h:a.2.l.length≤1000000):cMuO cBO zhw0 znpv (zhw0 a) (a.1++mo orC a.2.l)=some (znpv a):=z1cc (fun a b e=>by simp only [zhw0,List.cons.injEq] at e; exact e.1) zvb7 h
theorem zpsb (a b:Org):Am.Sem P 35 [.agg (orC a),.agg (orC b)] (.int .i64 (zhqs a b)):=zljw mix zhwj Tryz.func35 zxwh (zcpd a b)
theorem zsfi:Go.Proofs.ltOf zhqs=orLt:=by
 funext a b
 unfold Go.Proofs.ltOf
 cases h:orLt a b with
 | true=>exact decide_eq_true (zaml.2 h)
 | false=>exact decide_eq_false fun q=>by rw [zaml.1 q] at h; cases h
theorem ztkq (x:Org) : ∀ c ∈ orC x,scD c=true:=fun c hc=>by
 rcases List.mem_append.1 hc with h|h
 ·exact zrtr _ c h
 ·simp at h; rcases h with rfl|rfl<;>rfl
theorem zt0e:(Con.heap (cMuO sBO zhmi zuwh)).Sound P 34:=z7sf fun a h=>by
 obtain ⟨pre,x⟩:=a
 have h:x.l.length≤1000:=h
 have hent:Ent P 34:=z36x Tryz.func34 (by kernel_rfl) rfl
 by_cases e:x.l=[]
 ·have h0:(mutD pre.length 34 x orC = .nils ∨ ∃ full s cs,mutD pre.length 34 x orC = .sl full s 0 cs):=by
   rw [zpj6 e]
   have hc:x.clone.l=[]:=by simp [Sl.clone,e]
   exact dv_z hc
  have h1:=z08x (P:=P) zv99 hent (h:=pre++mo orC x.l) (g:=35) h0
  refine h1.mono ?_
  rintro r h' ⟨rfl,rfl⟩
  simp [zuwh,e,zxu4]
 ·haveI:Inhabited Org:=⟨orZ⟩
  have h1:=zh0z (P:=P) zv99 hent (k:=34) Tryz.isAgg30 Tryz.sizeOf30 (f:=orC) zu78 ztkq (g:=35) (z36x Tryz.func35 (by kernel_rfl) rfl) (cf:=zhqs) (by rw [zsfi]; exact zjqi zha4)
   (by rw [zsfi]; exact fun a b p q=>zsri zha4 p q) zpsb (h:=pre++mo orC x.l) (id:=pre.length) (xs:=x.l) (by rw [zsqo e]; unfold ziu0; rw [List.getElem?_append_right (Nat.le_refl _),Nat.sub_self]; rfl) (by decide) e (by omega) (ver:=x.l.length*34) (lim:=x.l.length*34) rfl
  simp only [zhmi,z2ra e]
  refine h1.mono ?_
  rintro r h' ⟨rfl,rfl⟩
  simp only [zuwh]
  rw [zsfi,zbpl zha4,zsqo e,zsqo (zlvn e),zxft]
  simp [fl]
def S644 (pre:List AObj) (n:Nat) (l:List Org) (k:Nat):St:=zly3 (.ms pre.length (n*34) 0 34 n (n*34)) (.int .i64 k) (pre++[.cells (fl orC l)])
def S645 (pre:List AObj) (n k0:Nat) (l:List Org) (a:CPg Org):St:=zbmj (.ms pre.length (n*34) 0 34 n (n*34)) (.int .i64 (zwrc (l.take a.j)).length) (.ms pre.length (n*34) (k0*34) 34 (n-k0) (n*34)) (.int .i64 ((a.j-k0:Nat):Int)) (pre++[.cells (fl orC a.M)])
theorem zydq (pre:List AObj) (l:List Org) (hb:l.length≤1000000) (hne:l≠[]) :
  RunsH tbl0 a39 [.ms pre.length (l.length*34) 0 34 l.length (l.length*34)] (pre++[.cells (fl orC l)]) (.ms pre.length (l.length*34) 0 34 (zwrc l).length (l.length*34)) (pre++[.cells (fl orC (zly8 orZ l))]):=by
 refine ⟨?_⟩
 obtain ⟨n,hn⟩ : ∃ n,l.length=n:=⟨_,rfl⟩
 have hn0:0<n:=by rw [← hn]; exact List.length_pos_iff.2 hne
 have hfl:(fl orC l).length=n*34:=by rw [z8lx zu78,hn]
 have hln:lenD (pre++[.cells (fl orC l)]) (.ms pre.length (n*34) 0 34 n (n*34))=some (.int .i64 n):=by rw [z59c,zjj2,z1zn,if_pos hfl]; rfl
 rw [hn]
 rw [hn] at hb
 by_cases h2:n<2
 ·have h2':(n:Int)<2:=by omega
  have hc:=zmiq (l:=l) (by omega)
  have hcl:(zwrc l).length=n:=by rw [hc,hn]
  have ho:=zixv (z:=orZ) hc
  rw [hcl,ho]
  simp (disch:=first|omega|simp<;>omega|fail) [-zA,-zB,-zC,-zD,-zE,a39,hln,h2,h2',zjj2,z1zn,hfl]
 have h2':¬ (n:Int)<2:=by omega
 simp (disch:=first|omega|simp<;>omega|fail) [-zA,-zB,-zC,-zD,-zE,a39,hln,h2,h2']
 refine zlm5 (S644 pre n l) (fun i=>n-i) (fun i=>1≤i∧i≤n∧zwrc (l.take i)=l.take i) 1 (z515 (by simp (disch:=first|omega|simp<;>omega|fail) [-zA,-zB,-zC,-zD,-zE,S644,zly3]) (by simp (disch:=first|omega|simp<;>omega|fail) [-zA,-zB,-zC,-zD,-zE,S644,zly3])) ⟨by omega,by omega,zmiq (by simp; omega)⟩ (fun i hi => ?_)
 obtain ⟨h3,h4,h5⟩:=hi
 simp (disch:=first|omega|simp<;>omega|fail) [-zA,-zB,-zC,-zD,-zE,znbh,zly3,S644,hln]
 by_cases h:i<n
 ·have h':(i:Int)<n:=by omega
  have hil:i<l.length:=by omega
  have hi1:(((i:Int)-1)).toNat=i-1:=by omega
  have o1:oneC 34 true ((fl orC l).drop (i*34))=some (.agg (orC l[i])):=zfiy zu78 hil
  have o2:oneC 34 true ((fl orC l).drop ((i-1)*34))=some (.agg (orC l[i-1])):=zfiy zu78 (by omega)
  by_cases e:l[i-1]=l[i]
  ·simp (disch:=first|omega|simp<;>omega|fail) [-zA,-zB,-zC,-zD,-zE,h,h',zjj2,z1zn,hfl,hi1,o1,o2,e]
   obtain ⟨hs,hk⟩:=CompI.start (by omega) hil h5 e
   refine zlm5 (S645 pre n i l) (fun a=>n-a.j) (fun a=>CompI l i a) ⟨i+1,l⟩ (z515 (by simp (disch:=first|omega|simp<;>omega|fail) [-zA,-zB,-zC,-zD,-zE,S645,zbmj,hk]) (by simp (disch:=first|omega|simp<;>omega|fail) [-zA,-zB,-zC,-zD,-zE,S645,zbmj])) hs (fun a ha => ?_)
   obtain ⟨j,M⟩:=a
   have h6:=ha.j0
   have h7:=ha.j1
   have h8:=ha.len
   have h9:=ha.k
   simp only at h6 h7 h8 h9
   obtain ⟨K,hK⟩ : ∃ K,(zwrc (l.take j)).length=K:=⟨_,rfl⟩
   obtain ⟨J,hJ⟩ : ∃ J,j-i=J:=⟨_,rfl⟩
   rw [hK] at h9
   have hfM:(fl orC M).length=n*34:=by rw [z8lx zu78,h8,hn]
   have hlM:lenD (pre++[.cells (fl orC M)]) (.ms pre.length (n*34) (i*34) 34 (n-i) (n*34))=some (.int .i64 ((n-i:Nat):Int)):=by rw [z59c,zjj2,z1zn,if_pos hfM]; rfl
   simp (disch:=first|omega|simp<;>omega|fail) [-zA,-zB,-zC,-zD,-zE,z9mq,zbmj,S645,hK,hJ,hlM]
   by_cases hj:j<n
   ·have hj1:(J:Int)<((n-i:Nat):Int):=by omega
    have hj1':J<n-i:=by omega
    have hj2:((J:Int)-1).toNat=J-1:=by omega
    have hj3:i*34+J*34=j*34:=by omega
    have hj4:i*34+(J-1)*34=(j-1)*34:=by omega
    have hjl:j<l.length:=by omega
    obtain ⟨g1,g2⟩:=ha.get hjl (by simp only; omega) (by simp only; omega)
    simp only at g1 g2
    have u1:oneC 34 true ((fl orC M).drop (j*34))=some (.agg (orC l[j])):=by rw [zfiy zu78 (by omega),g1]
    have u2:oneC 34 true ((fl orC M).drop ((j-1)*34))=some (.agg (orC l[j-1])):=by rw [zfiy zu78 (by omega),g2]
    by_cases e2:l[j-1]=l[j]
    ·simp (disch:=first|omega|simp<;>omega|fail) [-zA,-zB,-zC,-zD,-zE,hj1,hj1',hj2,hj3,hj4,zjj2,z1zn,hfM,u1,u2,e2]
     obtain ⟨q1,q2⟩:=ha.same (by omega) hjl e2
     have hJ':j+1-i=J+1:=by omega
     simp only at q1 q2
     exact ⟨⟨j+1,M⟩,z515 (by simp (disch:=first|omega|simp<;>omega|fail) [-zA,-zB,-zC,-zD,-zE,S645,zbmj,q2,hK,hJ']) (by simp (disch:=first|omega|simp<;>omega|fail) [-zA,-zB,-zC,-zD,-zE,S645,zbmj]),by simp only; omega,q1⟩
    ·have e2':¬ l[j]=l[j-1]:=fun q=>e2 q.symm
     have st : ∀ h:List AObj,zy6o h pre.length 34 (K*34) (.agg (orC l[j])) (some (fl orC M))=some (.junk,h.set pre.length (.cells (fl orC (M.set K l[j])))):=fun h=>zdvi zu78 (by decide) (fun _=>zkp2) (by omega)
     simp (disch:=first|omega|simp<;>omega|fail) [-zA,-zB,-zC,-zD,-zE,hj1,hj1',hj2,hj3,hj4,zjj2,z1zn,hfM,u1,u2,st,e2',zxft]
     obtain ⟨q1,q2⟩:=ha.step (by omega) hjl e2
     have hJ':j+1-i=J+1:=by omega
     simp only [hK] at q1 q2
     exact ⟨⟨j+1,M.set K l[j]⟩,z515 (by simp (disch:=first|omega|simp<;>omega|fail) [-zA,-zB,-zC,-zD,-zE,S645,zbmj,q2,hK,hJ']) (by simp (disch:=first|omega|simp<;>omega|fail) [-zA,-zB,-zC,-zD,-zE,S645,zbmj]),by simp only; omega,q1⟩
   ·have hj1:¬ (J:Int)<((n-i:Nat):Int):=by omega
    have hj1':¬ J<n-i:=by omega
    obtain rfl:j=n:=by omega
    have hfin:=ha.fin (by simp only; omega)
    simp only at hfin
    have htl:l.take j=l:=List.take_of_length_le (by omega)
    rw [htl] at hK
    rw [hK] at hfin
    have hclr:clrD (pre++[.cells (fl orC M)]) 34 (orC orZ) (.ms pre.length (j*34) (K*34) 34 (j-K) (j*34))=some (.tup [],pre++[.cells (fl orC (zly8 orZ l))]):=by
     have hov:objV (pre++[.cells (fl orC M)]) pre.length (j*34)=some (fl orC M):=by rw [zjj2,z1zn,if_pos hfM]
     rw [z7ty (s:=34) (m:=j-K) (off:=K*34) (ver:=j*34) (zs:=orC orZ) (zu78 _) (by decide) zkp2 (by omega),hov,Option.map_some,zxft,zqtu]
     have hs:=z507 (f:=orC) zu78 (A:=zwrc l) (B:=M.drop K) (C:=List.replicate (j-K) orZ) (by simp; omega)
     rw [← hfin,hK] at hs
     rw [hs]
     simp only [zly8,hK,hn,List.set_cons_zero]
    have hol:(fl orC (zly8 orZ l)).length=j*34:=by rw [z8lx zu78,zglm,hn]
    rw [zfm5] at hclr
    simp (disch:=first|omega|simp<;>omega|fail) [-zA,-zB,-zC,-zD,-zE,hj1,hj1',zjj2,z1zn,hfM,zxft,hclr,hK,hol]
  ·have e':¬ l[i]=l[i-1]:=fun q=>e q.symm
   simp (disch:=first|omega|simp<;>omega|fail) [-zA,-zB,-zC,-zD,-zE,h,h',zjj2,z1zn,hfl,hi1,o1,o2,e']
   refine ⟨i+1,z515 (by simp (disch:=first|omega|simp<;>omega|fail) [-zA,-zB,-zC,-zD,-zE,S644,zly3]) (by simp (disch:=first|omega|simp<;>omega|fail) [-zA,-zB,-zC,-zD,-zE,S644,zly3]),by omega,by omega,by omega,?_⟩
   rw [z6fn (by omega) hil,if_neg e,h5,List.take_succ_eq_append_getElem hil]
 ·have h':¬ (i:Int)<n:=by omega
  have e2:l.take i=l:=List.take_of_length_le (by omega)
  rw [e2] at h5
  have ho:=zixv (z:=orZ) h5
  simp (disch:=first|omega|simp<;>omega|fail) [-zA,-zB,-zC,-zD,-zE,h,h',ho,h5,hn,zjj2,z1zn,hfl]
theorem z1rx (pre:List AObj) (x:Sl Org) (e:x.l=[]):RunsH tbl0 a39 [x.clone.dv 34 orC] pre (x.clone.dv 34 orC) pre:=by
 refine ⟨?_⟩
 have hl:lenD pre (x.clone.dv 34 orC)=some (.int .i64 0):=by rw [zupj,show x.clone.l=x.l from rfl,e]; rfl
 simp (disch:=first|omega|simp<;>omega|fail) [-zA,-zB,-zC,-zD,-zE,a39,hl]
theorem z3mf {a:SO} (h:cBO a):RunsH tbl0 a39 (zhw0 a) (a.1++mo orC a.2.l) (cmD 34 a.1.length orC a.2) (a.1++mo orC (zly8 orZ a.2.l)):=by
 obtain ⟨pre,x⟩:=a
 by_cases e:x.l=[]
 ·have h1:cmD 34 pre.length orC x=x.clone.dv 34 orC:=if_pos e
  simp only [zhw0,zpj6 e,h1,e,z9e8,z7sv,List.append_nil]
  exact z1rx pre x e
 ·have h1:cmD 34 pre.length orC x = .ms pre.length (x.l.length*34) 0 34 (zwrc x.l).length (x.l.length*34):=if_neg e
  simp only [zhw0,z2ra e,h1,zsqo e,zsqo (zsxr e)]
  exact zydq pre x.l h e
theorem zxqv:(Con.heap (cMuO cBO zhw0 znpv)).Sound P 39:=z7sf fun a h=>zv22 mix zr5o Tryz.func39 zjwo (z3mf h)
end Go.Proofs.YtdnhbfmlklaldaaGreat
set_option linter.unusedSimpArgs false
set_option linter.unusedVariables false
namespace Go.Proofs.YtdnhbfmlklaldaaGreat
open Go Go.Am
noncomputable def T645:Tbl:=addT 33 (.pure cOr) (addT 34 (.heap (cMuO sBO zhmi zuwh)) (addT 39 (.heap (cMuO cBO zhw0 znpv)) tbl0))
theorem z4s5:T645 33 = .pure cOr:=by simp [T645]
theorem za6x:T645 34 = .heap (cMuO sBO zhmi zuwh):=by simp [T645]
theorem zrr1:T645 39 = .heap (cMuO cBO zhw0 znpv):=by simp [T645]
theorem zorh:T645.Sound P:=z0rp zcra (z0rp zt0e (z0rp zxqv zr5o))
def relS (l:List Fct):List Org:=(l.filter fun f=>decide (f.kind=1)).map z5z5
theorem zho3 (l:List Fct):(relS l).length≤l.length:=by unfold relS; rw [List.length_map]; exact List.length_filter_le _ _
theorem zt8j {l:List Fct} {i:Nat} (h:i<l.length):relS (l.take (i+1))=relS (l.take i)++(if l[i].kind=1 then [z5z5 l[i]] else []):=by
 rw [List.take_succ_eq_append_getElem h,relS,List.filter_append,List.map_append,← relS]
 congr 1
 by_cases e:l[i].kind=1<;>simp [e]
def zz6h (l:List Fct):Sl Org:=if relS l=[] then ⟨some true,[orZ],fun e=>by simp at e,by simp⟩ else own (z534 orLt (relS l))
def oV (l:List Org):DV:=if l=[] then .nils else .ms 2 (l.length*34) 0 34 l.length (l.length*34)
def oH (c:Cas) (o:AObj) (l:List Org):List AObj := .cells (caC c)::(if l=[] then [] else [o,.cells (fl orC l)])
theorem zpni {l:List Org} (h:l≠[]):oV l = .ms 2 (l.length*34) 0 34 l.length (l.length*34):=if_neg h
theorem z54r {c:Cas} {o:AObj} {l:List Org} (h:l≠[]):oH c o l=[.cells (caC c),o,.cells (fl orC l)]:=by rw [oH,if_neg h]
def S646 (c:Cas) (a:FP):St:=zzg5 (oV (relS (c.f.l.take a.i))) (c.f.dv 71 faC) (.int .i64 c.f.l.length) (.int .i64 a.i) (oH c (.cells (faC a.o)) (relS (c.f.l.take a.i)))
theorem z42m (c:Cas) (hn:c.f.l.length≤1000):Runs T645 a18 [.agg (caC c)] ((zz6h c.f.l).dv 34 orC):=by
 refine ⟨?_⟩
 have hb:=c.f.b
 simp (disch:=first|omega|simp<;>omega|fail) [-zA,-zB,-zC,-zD,-zE,a18]
 refine zlm5 (S646 c) (fun a=>c.f.l.length-a.i) (fun a=>a.i≤c.f.l.length) ⟨0,fct0⟩ (z515 (by simp (disch:=first|omega|simp<;>omega|fail) [-zA,-zB,-zC,-zD,-zE,S646,zzg5,relS,oV]) (by simp (disch:=first|omega|simp<;>omega|fail) [-zA,-zB,-zC,-zD,-zE,S646,zzg5,relS,oH])) (by simp) (fun a hi => ?_)
 obtain ⟨i,o⟩:=a
 simp only at hi
 simp only [S646]
 by_cases h:i<c.f.l.length
 ·have h':(i:Int)<c.f.l.length:=by omega
  have hg : ∀ H,zpsc H 71 (c.f.dv 71 faC) i=some (.ref (faC c.f.l[i])):=fun H=>zalo zs77 h
  have hs:=zt8j h
  have hlen:(relS (c.f.l.take i)).length≤i:=by have:=zho3 (c.f.l.take i); rw [List.length_take] at this; omega
  obtain ⟨F,hF⟩ : ∃ F,c.f.l[i]=F:=⟨_,rfl⟩
  rw [hF] at hg hs
  obtain ⟨L,hL⟩ : ∃ L,relS (c.f.l.take i)=L:=⟨_,rfl⟩
  rw [hL] at hs hlen ⊢
  by_cases hk:F.kind=1
  case neg =>
   rw [if_neg hk,List.append_nil] at hs
   by_cases e:L=[]
   ·subst e
    have q1:oV [] = .nils:=rfl
    have q2:oH c (.cells (faC o)) []=[.cells (caC c)]:=rfl
    simp (disch:=first|omega|simp<;>omega|fail) [-zA,-zB,-zC,-zD,-zE,zjhm,zzg5,h,h',hg,q1,q2,hk]
    exact ⟨⟨i+1,o⟩,zju2 (tail:=[.cells (faC F)]) (by simp (disch:=first|omega|simp<;>omega|fail) [-zA,-zB,-zC,-zD,-zE,S646,zzg5,hs,q1]) (by simp (disch:=first|omega|simp<;>omega|fail) [-zA,-zB,-zC,-zD,-zE,S646,zzg5,hs,q2]) (Nat.zero_le _) (by simp (disch:=first|omega|simp<;>omega|fail) [-zA,-zB,-zC,-zD,-zE,S646,zzg5,hs,q1,q2,z1r6,Am.below]) (by simp (disch:=first|omega|simp<;>omega|fail) [-zA,-zB,-zC,-zD,-zE,S646,zzg5,hs,q2,zlf2]),by simp only; omega,by simp only; omega⟩
   ·have q1:=zpni e
    have q2:=z54r (c:=c) (o := .cells (faC o)) e
    simp (disch:=first|omega|simp<;>omega|fail) [-zA,-zB,-zC,-zD,-zE,zjhm,zzg5,h,h',hg,q1,q2,hk]
    exact ⟨⟨i+1,o⟩,zju2 (tail:=[.cells (faC F)]) (by simp (disch:=first|omega|simp<;>omega|fail) [-zA,-zB,-zC,-zD,-zE,S646,zzg5,hs,q1]) (by simp (disch:=first|omega|simp<;>omega|fail) [-zA,-zB,-zC,-zD,-zE,S646,zzg5,hs,q2]) (Nat.zero_le _) (by simp (disch:=first|omega|simp<;>omega|fail) [-zA,-zB,-zC,-zD,-zE,S646,zzg5,hs,q1,q2,z1r6,Am.below]) (by simp (disch:=first|omega|simp<;>omega|fail) [-zA,-zB,-zC,-zD,-zE,S646,zzg5,hs,q2,zlf2,fl,zmq5 _ _ (zp6k ztvh _)]),by simp only; omega,by simp only; omega⟩
  rw [if_pos hk] at hs
  obtain ⟨O,hO⟩ : ∃ O,z5z5 F=O:=⟨_,rfl⟩
  have hc:=z68y (f:=F)
  rw [hO] at hs hc
  by_cases e:L=[]
  ·subst e
   rw [List.nil_append] at hs
   have hap:=zsuq (h:=[AObj.cells (caC c),.cells (faC F)]) (s:=34) (b:=64) (m:=1) (cs:=orC O) (by decide) (by decide) (by rw [zu78]) (by decide) (by decide)
   simp only [zu78,List.length_cons,List.length_nil] at hap
   have q1:oV [] = .nils:=rfl
   have q2:oH c (.cells (faC o)) []=[.cells (caC c)]:=rfl
   simp (disch:=first|omega|simp<;>omega|fail) [-zA,-zB,-zC,-zD,-zE,zjhm,zzg5,h,h',hg,q1,q2,hk,z4s5,hc,hap]
   have e1:oV [O] = .ms 2 34 0 34 1 34:=rfl
   have e2:oH c (.cells (faC F)) [O]=[.cells (caC c),.cells (faC F),.cells (orC O)]:=by rw [z54r (by simp),z4hs]
   exact ⟨⟨i+1,F⟩,z515 (by simp (disch:=first|omega|simp<;>omega|fail) [-zA,-zB,-zC,-zD,-zE,S646,zzg5,hs,e1]) (by simp (disch:=first|omega|simp<;>omega|fail) [-zA,-zB,-zC,-zD,-zE,S646,zzg5,hs,e2]),by simp only; omega,by simp only; omega⟩
  ·have hap:=zkg3 (h:=[AObj.cells (caC c),.cells (faC o),.cells (fl orC L),.cells (faC F)]) (id:=2) (b:=64) (l:=L) (x:=O) zu78 (by decide) (by decide) (fun _=>zkp2) (by omega) (by simp [objV,ziu0,z8lx zu78])
   have q1:=zpni e
   have q2:=z54r (c:=c) (o := .cells (faC o)) e
   simp (disch:=first|omega|simp<;>omega|fail) [-zA,-zB,-zC,-zD,-zE,zjhm,zzg5,h,h',hg,q1,q2,hk,z4s5,hc,hap]
   have e0:L++[O]≠[]:=by simp
   have e1:=zpni e0
   have e2:=z54r (c:=c) (o := .cells (faC o)) e0
   rw [List.length_append,List.length_singleton] at e1
   exact ⟨⟨i+1,o⟩,zju2 (tail:=[.cells (faC F)]) (by simp (disch:=first|omega|simp<;>omega|fail) [-zA,-zB,-zC,-zD,-zE,S646,zzg5,hs,e1]) (by simp (disch:=first|omega|simp<;>omega|fail) [-zA,-zB,-zC,-zD,-zE,S646,zzg5,hs,e2]) (Nat.zero_le _) (by simp (disch:=first|omega|simp<;>omega|fail) [-zA,-zB,-zC,-zD,-zE,S646,zzg5,hs,e1,e2,z1r6,Am.below]) (by simp (disch:=first|omega|simp<;>omega|fail) [-zA,-zB,-zC,-zD,-zE,S646,zzg5,hs,e2,zlf2,fl,zmq5 _ _ (zg0c (zp6k ztvh _) (ztvh _)),zmq5 _ _ (zp6k ztvh _)]),by simp only; omega,by simp only; omega⟩
 have h':¬ (i:Int)<c.f.l.length:=by omega
 have ht:c.f.l.take i=c.f.l:=List.take_of_length_le (by omega)
 rw [ht]
 have hrl:=zho3 c.f.l
 obtain ⟨L,hL⟩ : ∃ L,relS c.f.l=L:=⟨_,rfl⟩
 rw [hL] at hrl ⊢
 by_cases e:L=[]
 ·have hr:(zz6h c.f.l).dv 34 orC = .sl true 34 1 (orC orZ):=by unfold zz6h; rw [hL,if_pos e]; rfl
  subst e
  have q1:oV [] = .nils:=rfl
  have q2:oH c (.cells (faC o)) []=[.cells (caC c)]:=rfl
  rw [hr,zfm5]
  simp (disch:=first|omega|simp<;>omega|fail) [-zA,-zB,-zC,-zD,-zE,zjhm,zzg5,h,h',q1,q2]
 ·have hul:=zsv6 (lt:=orLt) L
  have hr:zz6h c.f.l=own (z534 orLt L):=by unfold zz6h; rw [hL,if_neg e]
  have q1:=zpni e
  have q2:=z54r (c:=c) (o := .cells (faC o)) e
  have hol:(own L).l=L:=z3e9 (by omega)
  have hsl:(zxu4 orLt L).length=L.length:=zmgd _
  have h2:=z4pf (a:=([AObj.cells (caC c),.cells (faC o)],own L)) (by show (own L).l.length≤1000; rw [hol]; omega)
  simp only [zhmi,hol,List.length_cons,List.length_nil,Nat.zero_add,List.cons_append,List.nil_append] at h2
  have hwl:(zxu4 orLt L).length=(own L).l.length:=by rw [hol,hsl]
  have h3:=z5x9 (a:=([AObj.cells (caC c),.cells (faC o)],(own L).wl (zxu4 orLt L) hwl)) (by show (zxu4 orLt L).length≤_; omega)
  simp only [zhw0,zl7v,znpv,show ((own L).wl (zxu4 orLt L) hwl).l=zxu4 orLt L from rfl,List.length_cons,List.length_nil,Nat.zero_add,List.cons_append,List.nil_append] at h3
  have e1:zxu4 orLt L≠[]:=zlvn e
  have hm:mutD 2 34 (own L) orC = .ms 2 (L.length*34) 0 34 L.length (L.length*34):=by rw [z2ra (by rw [hol]; exact e),hol]
  have hcm:cmD 34 2 orC ((own L).wl (zxu4 orLt L) hwl) = .ms 2 (L.length*34) 0 34 (z534 orLt L).length (L.length*34):=by
   unfold cmD
   rw [show ((own L).wl (zxu4 orLt L) hwl).l=zxu4 orLt L from rfl,if_neg e1,hsl,zl78 zha4]
  rw [hm,zsqo e,zsqo e1] at h2
  rw [hm,zsqo e1,zsqo (zsxr e1),hcm] at h3
  have hs:=z29t (f:=orC) zu78 ztvh (pre:=[AObj.cells (caC c),.cells (faC o)]) (l:=zly8 orZ (zxu4 orLt L)) (m:=(zwrc (zxu4 orLt L)).length)
  rw [zglm,z0zq,zl78 zha4,hsl] at hs
  simp only [List.length_cons,List.length_nil,Nat.zero_add,List.cons_append,List.nil_append] at hs
  rw [hr,zqrs (by omega)]
  have e0:¬ L.length=0:=fun q=>e (List.eq_nil_of_length_eq_zero q)
  have hfl:(fl orC L).length=L.length*34:=z8lx zu78 L
  simp (disch:=first|omega|simp<;>omega|fail) [-zA,-zB,-zC,-zD,-zE,zjhm,zzg5,h,h',q1,q2,e,e0,hfl,za6x,zrr1,h2,h3,hs]
noncomputable def cOgs:List DV→Option DV:=con (fun c:Cas=>c.f.l.length≤1000) (fun c=>[.agg (caC c)]) (fun c=>(zz6h c.f.l).dv 34 orC)
theorem zudh {c:Cas} (h:c.f.l.length≤1000):cOgs [.agg (caC c)]=some ((zz6h c.f.l).dv 34 orC) :=
 zlyi (A:=fun c:Cas=>c.f.l.length≤1000) (f:=fun c:Cas=>[.agg (caC c)]) (g:=fun c=>(zz6h c.f.l).dv 34 orC) (fun a b e=>by simp only [List.cons.injEq,DV.agg.injEq,and_true] at e; rw [zejx e]) c h
theorem zvwe:(Con.pure cOgs).Sound P 18:=z2au fun c h=>zljw mix zorh Tryz.func18 zt5q (z42m c h)
end Go.Proofs.YtdnhbfmlklaldaaGreat
set_option linter.unusedSimpArgs false
set_option linter.unusedVariables false
namespace Go.Proofs.YtdnhbfmlklaldaaGreat
open Go Go.Am
structure Tp where
 k:Option Bool
 l:List Int
 h:k=none→l=[]
 at_:Nat
def inI (n:Int):List DV:=[.int .i64 n]
def Tp.sl (t:Tp):DV:=slD t.k 1 t.l.length (t.l.flatMap inI)
def tpC (t:Tp):List DV:=[t.sl,.int .i64 t.at_]
def Tp.adv (t:Tp) (m:Nat):Tp:={ t with at_:=t.at_+m }
theorem zyj0 (n:Int):zbao (inI n)=true:=rfl
theorem z5yb (t:Tp):zyp8 t.sl=true:=by
 obtain ⟨k,l,h,a⟩:=t
 cases k with
 | none=>rfl
 | some b=>show zbao _=true; exact zp6k zyj0 l
theorem zl4f (t:Tp):(tpC t).length=2:=by simp [tpC]
theorem zwhz (t:Tp) (H:List AObj):lenD H t.sl=some (.int .i64 t.l.length):=zjc6 (fun e=>by rw [t.h e]; rfl)
theorem zxr4 (t:Tp):t.sl.one=true:=by obtain ⟨k,l,h,a⟩:=t; cases k<;>rfl
theorem zn8z (t:Tp):t.sl.known=true:=by obtain ⟨k,l,h,a⟩:=t; cases k<;>rfl
theorem zymw (t:Tp):t.sl.cells=[t.sl]:=by obtain ⟨k,l,h,a⟩:=t; cases k<;>rfl
theorem zpy8 (t:Tp) (n k:Nat) (H:List AObj):fz n H k t.sl=some t.sl:=zqge (z5yb t)
attribute [simp] zwhz zxr4 zn8z zymw zpy8 zl4f
def zq5q (t:Tp):Int:=if h:t.at_<t.l.length then t.l[t.at_] else t.at_*7+3
def tpN (t:Tp) (n:Int):Int:=if n<1 then 0 else zq5q t % n
theorem z1rh (t:Tp) (m:Nat):(t.adv m).sl=t.sl:=by simp [Tp.adv,Tp.sl]
theorem zpza (t:Tp) (m:Nat):(t.adv m).at_=t.at_+m:=by simp [Tp.adv]
theorem zk2k (t:Tp) (m:Nat):(t.adv m).l=t.l:=by simp [Tp.adv]
attribute [simp] z1rh zpza zk2k
theorem zhly (x n:Int) (h:1≤n) (h2:n≤4294967296):IntKind.i64.wrap (x.tmod n+n)=x.tmod n+n∧(x.tmod n+n).tmod n=x % n:=by
 have h1:=Int.tmod_lt_of_pos x (show 0<n by omega)
 have h3 : -n<x.tmod n:=by
  have:=Int.lt_tmod_of_pos x (show 0<n by omega)
  omega
 refine ⟨wrap_i64 (by omega) (by omega),?_⟩
 rw [Int.tmod_eq_emod_of_nonneg (by omega),Int.add_emod_right]
 rw [Int.tmod_eq_emod]
 split
 ·simp
 ·rw [Int.natAbs_of_nonneg (show 0≤n by omega)]; simp
def zzh5 (t:Tp) (l:List (List UInt8)):List UInt8:=l.getD (tpN t l.length).toNat []
def dgW (b:BitVec 8):Dg:=⟨b::rep 31 0#8,by simp [rep]⟩
abbrev dgB (z:Int):Dg:=dgW (BitVec.ofInt 8 z)
theorem z7ni {b:BitVec 8}:zvnk (dgC dg0) [(0,1,w8 b)]=some (.agg (dgC (dgW b))):=rfl
def sumV (t:Tp):Dg:=dgB (1+tpN t 6)
theorem z1mn (n k:Int) (h1:1≤k) (h2:k≤4294967296):Runs tbl0 a16 [.int .i64 n,.int .i64 k] (.int .i64 (n % k)):=by
 refine ⟨?_⟩
 obtain ⟨f1,f2⟩:=zhly n k h1 h2
 have h0:k≠0:=by omega
 simp (disch:=first|omega|simp<;>omega|fail) [-zA,-zB,-zC,-zD,-zE,a16,h0,f1,f2,-Int.tmod_eq_emod_of_nonneg]
noncomputable def zqmv:List DV→Option DV
 | [.int .i64 n,.int .i64 k]=>if 1≤k∧k≤4294967296 then some (.int .i64 (n % k)) else none
 | _=>none
theorem zcb9 {n k:Int} (h1:1≤k) (h2:k≤4294967296):zqmv [.int .i64 n,.int .i64 k]=some (.int .i64 (n % k)):=if_pos ⟨h1,h2⟩
theorem zt30:(Con.pure zqmv).Sound P 16:=by
 intro args v e
 unfold zqmv at e
 split at e
 ·obtain ⟨⟨h1,h2⟩,e⟩:=Option.ite_none_right_eq_some.1 e
  simp at e; subst e
  exact zljw mix zr5o Tryz.func16 zddi (z1mn _ _ h1 h2)
 ·simp at e
structure Nl where
 k:Option Bool
 l:List Int
 h:k=none→l=[]
 b:l.length≤9223372036854775807
def Nl.dv (x:Nl):DV:=slD x.k 1 x.l.length (x.l.flatMap inI)
def tp0 (x:Nl) (n:Nat):Tp:=⟨x.k.map fun b=>b&&(min x.l.length n == x.l.length),x.l.take n,fun e=>by simp at e; rw [x.h e]; simp,0⟩
end Go.Proofs.YtdnhbfmlklaldaaGreat
set_option linter.unusedSimpArgs false
set_option linter.unusedVariables false
namespace Go.Proofs.YtdnhbfmlklaldaaGreat
open Go Go.Am
structure CaSm (c:Cas):Prop where
 f:c.f.l.length≤14
 d : ∀ f ∈ c.f.l,f.docs.l.length≤2
 n:c.n.l.length≤8
 m : ∀ f ∈ c.n.l,f.dd.l.length≤1
 e:c.d.l.length≤1
def RqSm (q:Req):Prop:=(q.kind=1∨q.kind=3∨q.kind=4∨q.kind=5)→0≤q.n∧q.n≤6∧0≤q.m∧q.m≤1000000
theorem zarn {l:List Fct} {m:List Str} {k:Nat} (h : ∀ f ∈ l,f.docs.l.length≤2) (hm:m.length≤k):(ztt8 l m).length≤k*2:=by
 have:=zqok (f:=zm3u l) (m:=2) (l:=m) fun n _=>by
  unfold zm3u; split
  ·rename_i f e; exact h f (List.mem_of_find?_eq_some e)
  ·simp
 unfold ztt8
 have:m.length*2≤k*2:=Nat.mul_le_mul_right _ hm
 omega
theorem z8bz {l:List Fct} {n:Int} (h1:l.length≤1000) (h2 : ∀ f ∈ l,f.docs.l.length≤2) (h3:0≤n) (h4:n≤6):EnOK l n :=
 ⟨h1,h3,by omega,fun f hf=>by have:=h2 f hf; omega,by
  have:=zarn (m:=(zzy4 l).take n.toNat) (k:=6) h2 (by rw [List.length_take]; omega)
  omega⟩
theorem zu3n {c:Cas} {all:List Fct} {o:Org} {q:Req} (s:CaSm c) (ha:all.length≤14) (hq:RqSm q):CkOK c all o q:=by
 have L : ∀ {k:Int} {s':Sel},(zskr c.f.l k s').length≤1000:=fun {k} {s'}=>by have:=zjru (l:=c.f.l) (k:=k) (s:=s'); have:=s.f; omega
 have D : ∀ {k:Int} {s':Sel},∀ f ∈ zskr c.f.l k s',f.docs.l.length≤2:=fun f hf=>s.d f (zs6z.1 hf).1
 have hd:(decS c.n.l q.n).length≤8:=by
  have a:=zqok (f:=fun f:Fnd=>f.dd.l) (m:=1) (l:=c.n.l.filter fun f=>decide (q.n≤f.sev)) fun f hf=>s.m f (List.mem_filter.1 hf).1
  have b:=List.length_filter_le (fun f:Fnd=>decide (q.n≤f.sev)) c.n.l
  have:=s.n
  unfold decS; omega
 refine ⟨fun h => ?_,fun h => ?_,fun h => ?_,fun h => ?_,fun f hf=>by have:=s.d f hf; omega,fun h f hf=>by have:=s.d f hf; omega,⟨by have:=s.n; omega,fun f hf=>by have:=s.m f hf; omega⟩,by have:=s.e; omega,by have:=s.f; omega,by omega⟩
 ·obtain ⟨h1,h2,-,-⟩:=hq (.inl h); exact z8bz L D h1 h2
 ·obtain ⟨h1,h2,-,-⟩:=hq (.inr (.inl h)); exact z8bz L D h1 h2
 ·obtain ⟨h1,h2,h3,h4⟩:=hq (.inr (.inr (.inl h)))
  refine ⟨L,by have:=zjru (l:=all) (k:=4) (s := .source o); omega,h1,by omega,h3,h4,fun f hf=>by have:=D f hf; omega,?_⟩
  have:=zarn (m:=(zob0 (zskr c.f.l 4 (.source o)) (zskr all 4 (.source o))).take q.n.toNat) (k:=6) (D (k:=4) (s' := .source o)) (by rw [List.length_take]; omega)
  omega
 ·obtain ⟨h1,h2,-,-⟩:=hq (.inr (.inr (.inr h)))
  refine ⟨L,fun d=>z8bz ?_ (fun f hf=>D f (zs6z.1 hf).1) h1 h2,h1⟩
  have:=zjru (l:=zskr c.f.l 5 .every) (k:=5) (s := .target d)
  have:=L (k:=5) (s' := .every)
  omega
theorem zla1 {c:Cas} {docs:List Dg} (s:CaSm c):CaSm (zev9 c docs):=by
 have hl:(zev9 c docs).f.l=zcqw c docs:=zke4
 refine ⟨?_,fun f hf=>s.d f ?_,s.n,s.m,s.e⟩
 ·rw [hl]; have:=List.length_filter_le (fun f:Fct=>subB f.docs.l docs) c.f.l; have:=s.f; unfold zcqw; omega
 ·rw [hl] at hf; exact (List.mem_filter.1 hf).1
theorem zd9d {c:Cas} {o:Org} {q:Req} {docs:List Dg} (s:CaSm c) (hq:RqSm q):ByOK c o q docs :=
 ⟨zu3n (zla1 s) s.f hq,⟨by have:=s.n; omega,fun f hf=>by have:=s.m f hf; omega⟩,by have:=s.f; omega⟩
def mkD (b:B8):Sl Dg:=⟨some true,[dgW b],fun e=>by simp at e,by simp⟩
def o0:Org:=⟨dgW 1#8,[108],[114]⟩
def fa1:Fct:=⟨1,[98],dgW 1#8,[108],[114],5,false,dg0,mkD 7#8⟩
def fa2:Fct:=⟨1,[97],dgW 1#8,[108],[114],5,false,dg0,mkD 6#8⟩
def ca0:Cas:=⟨dg0,9,⟨some true,[fa1,fa2],fun e=>by simp at e,by simp⟩,nilS,nilS⟩
theorem z5pm:CaSm ca0:=⟨by decide,by decide,by decide,by decide,by decide⟩
theorem bd_o:zvnk [w8 0#8,w8 0#8,w8 0#8,w8 0#8,w8 0#8,w8 0#8,w8 0#8,w8 0#8,w8 0#8,w8 0#8,w8 0#8,w8 0#8,w8 0#8,w8 0#8,w8 0#8,w8 0#8,w8 0#8,w8 0#8,w8 0#8,w8 0#8,w8 0#8,w8 0#8,w8 0#8,w8 0#8,w8 0#8,w8 0#8,w8 0#8,w8 0#8,w8 0#8,w8 0#8,w8 0#8,w8 0#8,.str [],.str []] [(0,32,.agg (dgC (dgW 1#8))),(32,1,.str [108]),(33,1,.str [114])]=some (.agg (orC o0)):=rfl
theorem bs_d {b:B8}:bslD 32 1 (dgC dg0) [(0,32,.agg (dgC (dgW b)))]=some (.sl true 32 1 (dgC (dgW b))):=rfl
theorem zelr:zvnk [.int .i64 0,.str [],w8 0#8,w8 0#8,w8 0#8,w8 0#8,w8 0#8,w8 0#8,w8 0#8,w8 0#8,w8 0#8,w8 0#8,w8 0#8,w8 0#8,w8 0#8,w8 0#8,w8 0#8,w8 0#8,w8 0#8,w8 0#8,w8 0#8,w8 0#8,w8 0#8,w8 0#8,w8 0#8,w8 0#8,w8 0#8,w8 0#8,w8 0#8,w8 0#8,w8 0#8,w8 0#8,w8 0#8,w8 0#8,.str [],.str [],.int .i64 0,.bool false,w8 0#8,w8 0#8,w8 0#8,w8 0#8,w8 0#8,w8 0#8,w8 0#8,w8 0#8,w8 0#8,w8 0#8,w8 0#8,w8 0#8,w8 0#8,w8 0#8,w8 0#8,w8 0#8,w8 0#8,w8 0#8,w8 0#8,w8 0#8,w8 0#8,w8 0#8,w8 0#8,w8 0#8,w8 0#8,w8 0#8,w8 0#8,w8 0#8,w8 0#8,w8 0#8,w8 0#8,w8 0#8,.nils] [(0,1,.int .i64 1),(1,1,.str [98]),(2,32,.agg (dgC (dgW 1#8))),(34,1,.str [108]),(35,1,.str [114]),(36,1,.int .i64 5),(70,1,.sl true 32 1 (dgC (dgW 7#8)))]=some (.agg (faC fa1)):=rfl
theorem zvdq:zvnk [.int .i64 0,.str [],w8 0#8,w8 0#8,w8 0#8,w8 0#8,w8 0#8,w8 0#8,w8 0#8,w8 0#8,w8 0#8,w8 0#8,w8 0#8,w8 0#8,w8 0#8,w8 0#8,w8 0#8,w8 0#8,w8 0#8,w8 0#8,w8 0#8,w8 0#8,w8 0#8,w8 0#8,w8 0#8,w8 0#8,w8 0#8,w8 0#8,w8 0#8,w8 0#8,w8 0#8,w8 0#8,w8 0#8,w8 0#8,.str [],.str [],.int .i64 0,.bool false,w8 0#8,w8 0#8,w8 0#8,w8 0#8,w8 0#8,w8 0#8,w8 0#8,w8 0#8,w8 0#8,w8 0#8,w8 0#8,w8 0#8,w8 0#8,w8 0#8,w8 0#8,w8 0#8,w8 0#8,w8 0#8,w8 0#8,w8 0#8,w8 0#8,w8 0#8,w8 0#8,w8 0#8,w8 0#8,w8 0#8,w8 0#8,w8 0#8,w8 0#8,w8 0#8,w8 0#8,w8 0#8,.nils] [(0,1,.int .i64 1),(1,1,.str [97]),(2,32,.agg (dgC (dgW 1#8))),(34,1,.str [108]),(35,1,.str [114]),(36,1,.int .i64 5),(70,1,.sl true 32 1 (dgC (dgW 6#8)))]=some (.agg (faC fa2)):=rfl
theorem bs_f:bslD 71 2 [.int .i64 0,.str [],w8 0#8,w8 0#8,w8 0#8,w8 0#8,w8 0#8,w8 0#8,w8 0#8,w8 0#8,w8 0#8,w8 0#8,w8 0#8,w8 0#8,w8 0#8,w8 0#8,w8 0#8,w8 0#8,w8 0#8,w8 0#8,w8 0#8,w8 0#8,w8 0#8,w8 0#8,w8 0#8,w8 0#8,w8 0#8,w8 0#8,w8 0#8,w8 0#8,w8 0#8,w8 0#8,w8 0#8,w8 0#8,.str [],.str [],.int .i64 0,.bool false,w8 0#8,w8 0#8,w8 0#8,w8 0#8,w8 0#8,w8 0#8,w8 0#8,w8 0#8,w8 0#8,w8 0#8,w8 0#8,w8 0#8,w8 0#8,w8 0#8,w8 0#8,w8 0#8,w8 0#8,w8 0#8,w8 0#8,w8 0#8,w8 0#8,w8 0#8,w8 0#8,w8 0#8,w8 0#8,w8 0#8,w8 0#8,w8 0#8,w8 0#8,w8 0#8,w8 0#8,w8 0#8,.nils] [(0,71,.agg (faC fa1)),(71,71,.agg (faC fa2))]=some (ca0.f.dv 71 faC):=rfl
theorem bd_c:zvnk [w8 0#8,w8 0#8,w8 0#8,w8 0#8,w8 0#8,w8 0#8,w8 0#8,w8 0#8,w8 0#8,w8 0#8,w8 0#8,w8 0#8,w8 0#8,w8 0#8,w8 0#8,w8 0#8,w8 0#8,w8 0#8,w8 0#8,w8 0#8,w8 0#8,w8 0#8,w8 0#8,w8 0#8,w8 0#8,w8 0#8,w8 0#8,w8 0#8,w8 0#8,w8 0#8,w8 0#8,w8 0#8,.int .i64 0,.nils,.nils,.nils] [(32,1,.int .i64 9),(33,1,.sl true 71 2 (faC fa1++faC fa2))]=some (.agg (caC ca0)):=rfl
theorem bd_q {a b:Int}:zvnk [.int .i64 0,.int .i64 0,.int .i64 0,.str []] [(0,1,.int .i64 a),(1,1,.int .i64 b)]=some (.agg (rqC ⟨a,b,0,[]⟩)):=rfl
theorem fd_o:dgC (dgW 1#8)++[.str [108],.str [114]]=orC o0:=rfl
noncomputable def T650:Tbl:=addT 20 (.pure cChe) (addT 18 (.pure cOgs) (addT 22 (.pure cBy) tbl0))
theorem zruy:T650 20 = .pure cChe:=by simp [T650]
theorem zvn1:T650 18 = .pure cOgs:=by simp [T650]
theorem zuld:T650 22 = .pure cBy:=by simp [T650]
theorem z4dw:T650.Sound P:=z0rp zl6h (z0rp zvwe (z0rp zg7u zr5o))
theorem zgm9:Runs T650 a14 [] (.bool true):=by
 refine ⟨?_⟩
 have k1:=z1u0 (c:=ca0) (o:=o0) (q:=⟨1,2,0,[]⟩) fun _=>zu3n z5pm (by decide) (fun _=>by simp)
 have k2:=z1u0 (c:=ca0) (o:=o0) (q:=⟨1,3,0,[]⟩) fun _=>zu3n z5pm (by decide) (fun _=>by simp)
 have k3:=zudh (c:=ca0) (by decide)
 have k4:=z33l (c:=ca0) (o:=o0) (q:=⟨7,4,0,[]⟩) (docs:=mkD 6#8) fun _=>zd9d z5pm (fun h=>by simp at h)
 rw [show (mkD 6#8).dv 32 dgC = .sl true 32 1 (dgC (dgW 6#8)) from rfl] at k4
 have r1:(zwwp ca0 o0 ⟨1,2,0,[]⟩).holds=true:=by decide +kernel
 have r2:(zwwp ca0 o0 ⟨1,2,0,[]⟩).docs.l.length=2:=by decide +kernel
 have r3:(zwwp ca0 o0 ⟨1,3,0,[]⟩).holds=false:=by decide +kernel
 have r4:(zwwp ca0 o0 ⟨1,3,0,[]⟩).missing=1:=by decide +kernel
 have r5:(zz6h ca0.f.l).l=[o0]:=by decide +kernel
 have r6:ByS ca0 o0 ⟨7,4,0,[]⟩ (mkD 6#8).l=true:=by decide +kernel
 rw [r6] at k4
 obtain ⟨A,hA⟩ : ∃ A,zwwp ca0 o0 ⟨1,2,0,[]⟩=A:=⟨_,rfl⟩
 obtain ⟨B,hB⟩ : ∃ B,zwwp ca0 o0 ⟨1,3,0,[]⟩=B:=⟨_,rfl⟩
 obtain ⟨O,hO⟩ : ∃ O,zz6h ca0.f.l=O:=⟨_,rfl⟩
 rw [hA] at k1 r1 r2
 rw [hB] at k2 r3 r4
 rw [hO] at k3 r5
 have hl : ∀ H,lenD H (O.dv 34 orC)=some (.int .i64 1):=fun H=>by rw [zupj,r5]; rfl
 have hg : ∀ H,zpsc H 34 (O.dv 34 orC) 0=some (.ref (orC o0)):=fun H=>by
  have:=zalo (h:=H) (x:=O) (i:=0) zu78 (by rw [r5]; simp)
  rw [show ((0:Nat):Int)=0 from rfl] at this
  rw [this]; simp [r5]
 have hl2 : ∀ H,lenD H (A.docs.dv 32 dgC)=some (.int .i64 2):=fun H=>by rw [zupj,r2]; rfl
 simp (disch:=first|omega|simp<;>omega|fail) [-zA,-zB,-zC,-zD,-zE,a14,z7ni,bd_o,bs_d,zelr,zvdq,bs_f,bd_c,bd_q,fd_o,zruy,zvn1,zuld,k1,k2,k3,k4,hl,hg,hl2,r1,r3,r4]
noncomputable def cAw:List DV→Option DV
 | []=>some (.bool true)|_=>none
theorem zths:cAw []=some (.bool true):=rfl
theorem z5bk:(Con.pure cAw).Sound P 14:=by
 intro args v e
 unfold cAw at e
 split at e
 ·simp at e; subst e; exact zljw mix z4dw Tryz.func14 zzfl zgm9
 ·simp at e
end Go.Proofs.YtdnhbfmlklaldaaGreat
set_option linter.unusedSimpArgs false
set_option linter.unusedVariables false
namespace Go.Proofs.YtdnhbfmlklaldaaGreat
open Go Go.Am
def zr8m:ACode :=
 (.seq (.seq (.region false [⟨none,(some 19),.mov (.t 8)⟩,
  ⟨none,(some 20),.bin .gtr (.t 19) (.k (.int .i64 0))⟩])
 (.cond (.t 20) .skip
 (.exit 0)))
 (.seq (.block 1 (.region true [⟨none,(some 23),.fld 33 (.t 7)⟩,
  ⟨none,(some 24),.load 1 false (.t 23)⟩,
  ⟨none,(some 25),.mov (.t 0)⟩,
  ⟨none,(some 26),.callT (.k (.fn (.func 55) [] [])) [(.t 25)]⟩,
  ⟨none,(some 27),.bsl 71 1 [(.int .i64 0),(.str []),(w8 0#8),(w8 0#8),(w8 0#8),(w8 0#8),(w8 0#8),(w8 0#8),(w8 0#8),(w8 0#8),(w8 0#8),(w8 0#8),(w8 0#8),(w8 0#8),(w8 0#8),(w8 0#8),(w8 0#8),(w8 0#8),(w8 0#8),(w8 0#8),(w8 0#8),(w8 0#8),(w8 0#8),(w8 0#8),(w8 0#8),(w8 0#8),(w8 0#8),(w8 0#8),(w8 0#8),(w8 0#8),(w8 0#8),(w8 0#8),(w8 0#8),(w8 0#8),(.str []),(.str []),(.int .i64 0),(.bool false),(w8 0#8),(w8 0#8),(w8 0#8),(w8 0#8),(w8 0#8),(w8 0#8),(w8 0#8),(w8 0#8),(w8 0#8),(w8 0#8),(w8 0#8),(w8 0#8),(w8 0#8),(w8 0#8),(w8 0#8),(w8 0#8),(w8 0#8),(w8 0#8),(w8 0#8),(w8 0#8),(w8 0#8),(w8 0#8),(w8 0#8),(w8 0#8),(w8 0#8),(w8 0#8),(w8 0#8),(w8 0#8),(w8 0#8),(w8 0#8),(w8 0#8),(w8 0#8),.nils] [(0,71,(.t 26))]⟩,
  ⟨none,(some 28),.app 71 160 (.t 24) (.t 27)⟩,
  ⟨none,(some 29),.fld 33 (.t 7)⟩,
  ⟨none,none,.store 1 (.t 29) (.t 28)⟩,
  ⟨none,none,.apart (.t 7) (.t 25)⟩,
  ⟨none,none,.apart (.t 23) (.t 25)⟩]))
 (.region false [⟨none,(some 21),.mov (.t 8)⟩,
  ⟨none,(some 22),.bin .sub (.t 21) (.k (.int .i64 1))⟩,
  ⟨none,(some 8),.mov (.t 22)⟩])))
def zyoh:ACode :=
 (.seq (.seq (.region false [⟨none,(some 34),.mov (.t 9)⟩,
  ⟨none,(some 35),.bin .gtr (.t 34) (.k (.int .i64 0))⟩])
 (.cond (.t 35) .skip
 (.exit 2)))
 (.seq (.block 3 (.region true [⟨none,(some 38),.fld 34 (.t 7)⟩,
  ⟨none,(some 39),.load 1 false (.t 38)⟩,
  ⟨none,(some 40),.mov (.t 0)⟩,
  ⟨none,(some 41),.callT (.k (.fn (.func 56) [] [])) [(.t 40)]⟩,
  ⟨none,(some 42),.bsl 39 1 [(w8 0#8),(w8 0#8),(w8 0#8),(w8 0#8),(w8 0#8),(w8 0#8),(w8 0#8),(w8 0#8),(w8 0#8),(w8 0#8),(w8 0#8),(w8 0#8),(w8 0#8),(w8 0#8),(w8 0#8),(w8 0#8),(w8 0#8),(w8 0#8),(w8 0#8),(w8 0#8),(w8 0#8),(w8 0#8),(w8 0#8),(w8 0#8),(w8 0#8),(w8 0#8),(w8 0#8),(w8 0#8),(w8 0#8),(w8 0#8),(w8 0#8),(w8 0#8),(.int .i64 0),(.str []),(.int .i64 0),.nils,(.int .i64 0),.nils,(.bool false)] [(0,39,(.t 41))]⟩,
  ⟨none,(some 43),.app 39 128 (.t 39) (.t 42)⟩,
  ⟨none,(some 44),.fld 34 (.t 7)⟩,
  ⟨none,none,.store 1 (.t 44) (.t 43)⟩,
  ⟨none,none,.apart (.t 7) (.t 40)⟩,
  ⟨none,none,.apart (.t 38) (.t 40)⟩]))
 (.region false [⟨none,(some 36),.mov (.t 9)⟩,
  ⟨none,(some 37),.bin .sub (.t 36) (.k (.int .i64 1))⟩,
  ⟨none,(some 9),.mov (.t 37)⟩])))
def a25:AFn where
 code:=(.seq (.region false [⟨none,(some 6),.alloc [(w8 0#8),(w8 0#8),(w8 0#8),(w8 0#8),(w8 0#8),(w8 0#8),(w8 0#8),(w8 0#8),(w8 0#8),(w8 0#8),(w8 0#8),(w8 0#8),(w8 0#8),(w8 0#8),(w8 0#8),(w8 0#8),(w8 0#8),(w8 0#8),(w8 0#8),(w8 0#8),(w8 0#8),(w8 0#8),(w8 0#8),(w8 0#8),(w8 0#8),(w8 0#8),(w8 0#8),(w8 0#8),(w8 0#8),(w8 0#8),(w8 0#8),(w8 0#8),(.int .i64 0),.nils,.nils,.nils]⟩])
 (.seq (.region false [⟨none,(some 10),.mov (.t 0)⟩,
  ⟨none,(some 11),.call (.k (.fn (.func 54) [] [])) [(.t 10)]⟩,
  ⟨none,(some 12),.mov (.t 0)⟩,
  ⟨none,(some 13),.call (.k (.fn (.func 29) [] [])) [(.t 12),(.k (.int .i64 40))]⟩,
  ⟨none,(some 14),.build [(w8 0#8),(w8 0#8),(w8 0#8),(w8 0#8),(w8 0#8),(w8 0#8),(w8 0#8),(w8 0#8),(w8 0#8),(w8 0#8),(w8 0#8),(w8 0#8),(w8 0#8),(w8 0#8),(w8 0#8),(w8 0#8),(w8 0#8),(w8 0#8),(w8 0#8),(w8 0#8),(w8 0#8),(w8 0#8),(w8 0#8),(w8 0#8),(w8 0#8),(w8 0#8),(w8 0#8),(w8 0#8),(w8 0#8),(w8 0#8),(w8 0#8),(w8 0#8),(.int .i64 0),.nils,.nils,.nils] [(0,32,(.t 11)),(32,1,(.t 13))]⟩,
  ⟨none,(some 7),.alloc [(w8 0#8),(w8 0#8),(w8 0#8),(w8 0#8),(w8 0#8),(w8 0#8),(w8 0#8),(w8 0#8),(w8 0#8),(w8 0#8),(w8 0#8),(w8 0#8),(w8 0#8),(w8 0#8),(w8 0#8),(w8 0#8),(w8 0#8),(w8 0#8),(w8 0#8),(w8 0#8),(w8 0#8),(w8 0#8),(w8 0#8),(w8 0#8),(w8 0#8),(w8 0#8),(w8 0#8),(w8 0#8),(w8 0#8),(w8 0#8),(w8 0#8),(w8 0#8),(.int .i64 0),.nils,.nils,.nils]⟩,
  ⟨none,none,.store 36 (.t 7) (.t 14)⟩])
 (.seq (.seq (.region false [⟨none,(some 15),.mov (.t 0)⟩,
  ⟨none,(some 16),.mov (.t 1)⟩,
  ⟨none,(some 17),.bin .add (.t 16) (.k (.int .i64 1))⟩,
  ⟨none,(some 18),.call (.k (.fn (.func 29) [] [])) [(.t 15),(.t 17)]⟩,
  ⟨none,(some 8),.mov (.t 18)⟩])
 (.block 0 (.loop zr8m)))
 (.seq (.seq (.region false [⟨none,(some 30),.mov (.t 0)⟩,
  ⟨none,(some 31),.mov (.t 2)⟩,
  ⟨none,(some 32),.bin .add (.t 31) (.k (.int .i64 1))⟩,
  ⟨none,(some 33),.call (.k (.fn (.func 29) [] [])) [(.t 30),(.t 32)]⟩,
  ⟨none,(some 9),.mov (.t 33)⟩])
 (.block 2 (.loop zyoh)))
 (.seq (.seq (.region false [⟨none,(some 45),.mov (.t 0)⟩,
  ⟨none,(some 46),.call (.k (.fn (.func 29) [] [])) [(.t 45),(.k (.int .i64 6))]⟩,
  ⟨none,(some 47),.bin .eql (.t 46) (.k (.int .i64 0))⟩])
 (.cond (.t 47) (.region false [⟨none,(some 48),.mov (.t 0)⟩,
  ⟨none,(some 49),.call (.k (.fn (.func 58) [] [])) []⟩,
  ⟨none,(some 50),.call (.k (.fn (.func 57) [] [])) [(.t 48),(.t 49)]⟩,
  ⟨none,(some 51),.bsl 1 1 [(.str [])] [(0,1,(.t 50))]⟩,
  ⟨none,(some 52),.fld 35 (.t 7)⟩,
  ⟨none,none,.store 1 (.t 52) (.t 51)⟩])
 .skip))
 (.seq (.region false [⟨none,(some 53),.load 36 true (.t 7)⟩,
  ⟨none,none,.store 36 (.t 6) (.t 53)⟩])
 .ret))))))
 ntmps:=54
 res:=[.cell 6 36 true]
def z44u:ACode :=
 (.seq (.seq (.region false [⟨none,(some 36),.mov (.t 4)⟩,
  ⟨none,(some 37),.bin .gtr (.t 36) (.k (.int .i64 0))⟩])
 (.cond (.t 37) .skip
 (.exit 0)))
 (.seq (.block 1 (.region true [⟨none,(some 40),.fld 70 (.t 3)⟩,
  ⟨none,(some 41),.load 1 false (.t 40)⟩,
  ⟨none,(some 42),.mov (.t 0)⟩,
  ⟨none,(some 43),.callT (.k (.fn (.func 29) [] [])) [(.t 42),(.k (.int .i64 12))]⟩,
  ⟨none,(some 44),.bin .add (.k (.int .i64 10)) (.t 43)⟩,
  ⟨none,(some 45),.conv .u8 (.t 44)⟩,
  ⟨none,(some 46),.build (rep 32 (w8 0#8)) [(0,1,(.t 45))]⟩,
  ⟨none,(some 47),.callN (.k (.fn (.func 93) [] [])) [(.t 41),(.t 46)]⟩,
  ⟨none,(some 48),.fld 70 (.t 3)⟩,
  ⟨none,none,.store 1 (.t 48) (.t 47)⟩,
  ⟨none,none,.apart (.t 3) (.t 42)⟩,
  ⟨none,none,.apart (.t 40) (.t 42)⟩]))
 (.region false [⟨none,(some 38),.mov (.t 4)⟩,
  ⟨none,(some 39),.bin .sub (.t 38) (.k (.int .i64 1))⟩,
  ⟨none,(some 4),.mov (.t 39)⟩])))
def a55:AFn where
 code:=(.seq (.region false [⟨none,(some 2),.alloc [(.int .i64 0),(.str []),(w8 0#8),(w8 0#8),(w8 0#8),(w8 0#8),(w8 0#8),(w8 0#8),(w8 0#8),(w8 0#8),(w8 0#8),(w8 0#8),(w8 0#8),(w8 0#8),(w8 0#8),(w8 0#8),(w8 0#8),(w8 0#8),(w8 0#8),(w8 0#8),(w8 0#8),(w8 0#8),(w8 0#8),(w8 0#8),(w8 0#8),(w8 0#8),(w8 0#8),(w8 0#8),(w8 0#8),(w8 0#8),(w8 0#8),(w8 0#8),(w8 0#8),(w8 0#8),(.str []),(.str []),(.int .i64 0),(.bool false),(w8 0#8),(w8 0#8),(w8 0#8),(w8 0#8),(w8 0#8),(w8 0#8),(w8 0#8),(w8 0#8),(w8 0#8),(w8 0#8),(w8 0#8),(w8 0#8),(w8 0#8),(w8 0#8),(w8 0#8),(w8 0#8),(w8 0#8),(w8 0#8),(w8 0#8),(w8 0#8),(w8 0#8),(w8 0#8),(w8 0#8),(w8 0#8),(w8 0#8),(w8 0#8),(w8 0#8),(w8 0#8),(w8 0#8),(w8 0#8),(w8 0#8),(w8 0#8),.nils]⟩])
 (.seq (.region false [⟨none,(some 5),.mov (.t 0)⟩,
  ⟨none,(some 6),.call (.k (.fn (.func 29) [] [])) [(.t 5),(.k (.int .i64 5))]⟩,
  ⟨none,(some 7),.bin .add (.k (.int .i64 1)) (.t 6)⟩,
  ⟨none,(some 8),.mov (.t 0)⟩,
  ⟨none,(some 9),.call (.k (.fn (.func 92) [] [])) []⟩,
  ⟨none,(some 10),.call (.k (.fn (.func 57) [] [])) [(.t 8),(.t 9)]⟩,
  ⟨none,(some 11),.mov (.t 0)⟩,
  ⟨none,(some 12),.call (.k (.fn (.func 29) [] [])) [(.t 11),(.k (.int .i64 2))]⟩,
  ⟨none,(some 13),.bin .add (.k (.int .i64 1)) (.t 12)⟩,
  ⟨none,(some 14),.conv .u8 (.t 13)⟩,
  ⟨none,(some 15),.build (rep 32 (w8 0#8)) [(0,1,(.t 14))]⟩,
  ⟨none,(some 16),.mov (.t 0)⟩,
  ⟨none,(some 17),.bsl 1 2 [(.str [])] [(0,1,(.k (.str [115,104,111,112]))),(1,1,(.k (.str [119,101,98])))]⟩,
  ⟨none,(some 18),.call (.k (.fn (.func 57) [] [])) [(.t 16),(.t 17)]⟩,
  ⟨none,(some 19),.mov (.t 0)⟩,
  ⟨none,(some 20),.bsl 1 3 [(.str [])] [(0,1,(.k (.str [114]))),(1,1,(.k (.str [114]))),(2,1,(.k (.str [115])))]⟩,
  ⟨none,(some 21),.call (.k (.fn (.func 57) [] [])) [(.t 19),(.t 20)]⟩,
  ⟨none,(some 22),.mov (.t 0)⟩,
  ⟨none,(some 23),.call (.k (.fn (.func 29) [] [])) [(.t 22),(.k (.int .i64 20))]⟩,
  ⟨none,(some 24),.mov (.t 0)⟩,
  ⟨none,(some 25),.call (.k (.fn (.func 29) [] [])) [(.t 24),(.k (.int .i64 4))]⟩,
  ⟨none,(some 26),.bin .gtr (.t 25) (.k (.int .i64 0))⟩,
  ⟨none,(some 27),.mov (.t 0)⟩,
  ⟨none,(some 28),.call (.k (.fn (.func 29) [] [])) [(.t 27),(.k (.int .i64 2))]⟩,
  ⟨none,(some 29),.bin .add (.k (.int .i64 1)) (.t 28)⟩,
  ⟨none,(some 30),.conv .u8 (.t 29)⟩,
  ⟨none,(some 31),.build (rep 32 (w8 0#8)) [(0,1,(.t 30))]⟩,
  ⟨none,(some 32),.build [(.int .i64 0),(.str []),(w8 0#8),(w8 0#8),(w8 0#8),(w8 0#8),(w8 0#8),(w8 0#8),(w8 0#8),(w8 0#8),(w8 0#8),(w8 0#8),(w8 0#8),(w8 0#8),(w8 0#8),(w8 0#8),(w8 0#8),(w8 0#8),(w8 0#8),(w8 0#8),(w8 0#8),(w8 0#8),(w8 0#8),(w8 0#8),(w8 0#8),(w8 0#8),(w8 0#8),(w8 0#8),(w8 0#8),(w8 0#8),(w8 0#8),(w8 0#8),(w8 0#8),(w8 0#8),(.str []),(.str []),(.int .i64 0),(.bool false),(w8 0#8),(w8 0#8),(w8 0#8),(w8 0#8),(w8 0#8),(w8 0#8),(w8 0#8),(w8 0#8),(w8 0#8),(w8 0#8),(w8 0#8),(w8 0#8),(w8 0#8),(w8 0#8),(w8 0#8),(w8 0#8),(w8 0#8),(w8 0#8),(w8 0#8),(w8 0#8),(w8 0#8),(w8 0#8),(w8 0#8),(w8 0#8),(w8 0#8),(w8 0#8),(w8 0#8),(w8 0#8),(w8 0#8),(w8 0#8),(w8 0#8),(w8 0#8),.nils] [(0,1,(.t 7)),(1,1,(.t 10)),(2,32,(.t 15)),(34,1,(.t 18)),(35,1,(.t 21)),(36,1,(.t 23)),(37,1,(.t 26)),(38,32,(.t 31))]⟩,
  ⟨none,(some 3),.alloc [(.int .i64 0),(.str []),(w8 0#8),(w8 0#8),(w8 0#8),(w8 0#8),(w8 0#8),(w8 0#8),(w8 0#8),(w8 0#8),(w8 0#8),(w8 0#8),(w8 0#8),(w8 0#8),(w8 0#8),(w8 0#8),(w8 0#8),(w8 0#8),(w8 0#8),(w8 0#8),(w8 0#8),(w8 0#8),(w8 0#8),(w8 0#8),(w8 0#8),(w8 0#8),(w8 0#8),(w8 0#8),(w8 0#8),(w8 0#8),(w8 0#8),(w8 0#8),(w8 0#8),(w8 0#8),(.str []),(.str []),(.int .i64 0),(.bool false),(w8 0#8),(w8 0#8),(w8 0#8),(w8 0#8),(w8 0#8),(w8 0#8),(w8 0#8),(w8 0#8),(w8 0#8),(w8 0#8),(w8 0#8),(w8 0#8),(w8 0#8),(w8 0#8),(w8 0#8),(w8 0#8),(w8 0#8),(w8 0#8),(w8 0#8),(w8 0#8),(w8 0#8),(w8 0#8),(w8 0#8),(w8 0#8),(w8 0#8),(w8 0#8),(w8 0#8),(w8 0#8),(w8 0#8),(w8 0#8),(w8 0#8),(w8 0#8),.nils]⟩,
  ⟨none,none,.store 71 (.t 3) (.t 32)⟩])
 (.seq (.seq (.region false [⟨none,(some 33),.mov (.t 0)⟩,
  ⟨none,(some 34),.call (.k (.fn (.func 29) [] [])) [(.t 33),(.k (.int .i64 2))]⟩,
  ⟨none,(some 35),.bin .add (.k (.int .i64 1)) (.t 34)⟩,
  ⟨none,(some 4),.mov (.t 35)⟩])
 (.block 0 (.loop z44u)))
 (.seq (.region false [⟨none,(some 49),.load 71 true (.t 3)⟩,
  ⟨none,none,.store 71 (.t 2) (.t 49)⟩])
 .ret))))
 ntmps:=50
 res:=[.cell 2 71 true]
def zk9n:ACode :=
 (.seq (.seq (.region false [⟨none,(some 6),.mov (.t 5)⟩,
  ⟨none,(some 7),.mov (.t 0)⟩,
  ⟨none,(some 8),.len (.t 7)⟩,
  ⟨none,(some 9),.bin .lss (.t 6) (.t 8)⟩])
 (.cond (.t 9) .skip
 (.exit 0)))
 (.seq (.block 1 (.seq (.region true [⟨none,(some 12),.mov (.t 0)⟩,
  ⟨none,(some 13),.mov (.t 5)⟩,
  ⟨none,(some 14),.idxS 32 (.t 12) (.t 13)⟩,
  ⟨none,(some 15),.load 32 true (.t 14)⟩,
  ⟨none,(some 16),.load 32 true (.t 3)⟩,
  ⟨none,(some 17),.eqa false [(32,0)] (.t 15) (.t 16)⟩])
 (.cond (.t 17) (.seq (.region false [⟨none,(some 4),.mov (.k (.bool true))⟩])
 .ret)
 .skip)))
 (.region false [⟨none,(some 10),.mov (.t 5)⟩,
  ⟨none,(some 11),.bin .add (.t 10) (.k (.int .i64 1))⟩,
  ⟨none,(some 5),.mov (.t 11)⟩])))
def zd5d (x0 x3 x5:DV) (h:List AObj):St:=⟨[x0,.junk,.junk,x3,.junk,x5]++js 12,h⟩
def a30:AFn where
 code:=(.seq (.region false [⟨none,(some 3),.box (.t 1)⟩,
  ⟨none,(some 4),.mov (.k (.bool false))⟩])
 (.seq (.seq (.region false [⟨none,(some 5),.mov (.k (.int .i64 0))⟩])
 (.block 0 (.loop zk9n)))
 (.seq (.region false [⟨none,(some 4),.mov (.k (.bool false))⟩])
 .ret)))
 ntmps:=18
 res:=[.tmp 4]
theorem z3f8:zsjc P Tryz.f30=some a30:=by kernel_rfl
def zor5:ACode :=
 (.seq (.seq (.region false [⟨none,(some 6),.mov (.t 5)⟩,
  ⟨none,(some 7),.bin .lss (.t 6) (.k (.int .i64 32))⟩])
 (.cond (.t 7) .skip
 (.exit 0)))
 (.seq (.block 1 (.seq (.region true [⟨none,(some 10),.mov (.t 5)⟩,
  ⟨none,(some 11),.idxA 32 1 (.t 2) (.t 10)⟩,
  ⟨none,(some 12),.load 1 false (.t 11)⟩,
  ⟨none,(some 13),.mov (.t 5)⟩,
  ⟨none,(some 14),.idxA 32 1 (.t 3) (.t 13)⟩,
  ⟨none,(some 15),.load 1 false (.t 14)⟩,
  ⟨none,(some 16),.bin .neq (.t 12) (.t 15)⟩])
 (.cond (.t 16) (.seq (.region true [⟨none,(some 17),.mov (.t 5)⟩,
  ⟨none,(some 18),.idxA 32 1 (.t 2) (.t 17)⟩,
  ⟨none,(some 19),.load 1 false (.t 18)⟩,
  ⟨none,(some 20),.mov (.t 5)⟩,
  ⟨none,(some 21),.idxA 32 1 (.t 3) (.t 20)⟩,
  ⟨none,(some 22),.load 1 false (.t 21)⟩,
  ⟨none,(some 23),.bin .lss (.t 19) (.t 22)⟩,
  ⟨none,(some 4),.mov (.t 23)⟩])
 .ret)
 .skip)))
 (.region false [⟨none,(some 8),.mov (.t 5)⟩,
  ⟨none,(some 9),.bin .add (.t 8) (.k (.int .i64 1))⟩,
  ⟨none,(some 5),.mov (.t 9)⟩])))
def zrp1 (x2 x3 x5:DV) (h:List AObj):St:=⟨[.junk,.junk,x2,x3,.junk,x5]++js 18,h⟩
def a59:AFn where
 code:=(.seq (.region false [⟨none,(some 2),.box (.t 0)⟩,
  ⟨none,(some 3),.box (.t 1)⟩,
  ⟨none,(some 4),.mov (.k (.bool false))⟩])
 (.seq (.seq (.region false [⟨none,(some 5),.mov (.k (.int .i64 0))⟩])
 (.block 0 (.loop zor5)))
 (.seq (.region false [⟨none,(some 4),.mov (.k (.bool false))⟩])
 .ret)))
 ntmps:=24
 res:=[.tmp 4]
theorem zwsz:zsjc P Tryz.f59=some a59:=by kernel_rfl
def zzcy:ACode :=
 (.seq (.seq (.region true [⟨none,(some 11),.mov (.t 6)⟩,
  ⟨none,(some 12),.mov (.t 0)⟩,
  ⟨none,(some 13),.len (.t 12)⟩,
  ⟨none,(some 14),.bin .lss (.t 11) (.t 13)⟩,
  ⟨none,(some 15),.mov (.t 14)⟩,
  ⟨(some (15,true)),(some 16),.mov (.t 0)⟩,
  ⟨(some (15,true)),(some 17),.mov (.t 6)⟩,
  ⟨(some (15,true)),(some 18),.idxS 32 (.t 16) (.t 17)⟩,
  ⟨(some (15,true)),(some 19),.load 32 true (.t 18)⟩,
  ⟨(some (15,true)),(some 20),.load 32 true (.t 3)⟩,
  ⟨(some (15,true)),(some 21),.callN (.k (.fn (.func 59) [] [])) [(.t 19),(.t 20)]⟩,
  ⟨none,(some 22),.pick (.t 15) (.t 21) (.k (.bool false))⟩])
 (.cond (.t 22) .skip
 (.exit 0)))
 (.block 1 (.seq (.region false [⟨none,(some 23),.mov (.t 5)⟩,
  ⟨none,(some 24),.mov (.t 0)⟩,
  ⟨none,(some 25),.mov (.t 6)⟩,
  ⟨none,(some 26),.idxS 32 (.t 24) (.t 25)⟩,
  ⟨none,(some 27),.load 32 true (.t 26)⟩,
  ⟨none,(some 28),.bsl 32 1 (rep 32 (w8 0#8)) [(0,32,(.t 27))]⟩,
  ⟨none,(some 29),.app 32 32 (.t 23) (.t 28)⟩,
  ⟨none,(some 5),.mov (.t 29)⟩])
 (.region false [⟨none,(some 30),.mov (.t 6)⟩,
  ⟨none,(some 31),.bin .add (.t 30) (.k (.int .i64 1))⟩,
  ⟨none,(some 6),.mov (.t 31)⟩]))))
def z1yv (x0 x3 x5 x6:DV) (h:List AObj):St:=⟨[x0,.junk,.junk,x3,.junk,x5,x6]++js 33,h⟩
def a93:AFn where
 code:=(.seq (.region false [⟨none,(some 3),.box (.t 1)⟩,
  ⟨none,(some 4),.mov (.k .nils)⟩])
 (.seq (.seq (.region false [⟨none,(some 7),.mov (.t 0)⟩,
  ⟨none,(some 8),.load 32 true (.t 3)⟩,
  ⟨none,(some 9),.call (.k (.fn (.func 30) [] [])) [(.t 7),(.t 8)]⟩])
 (.cond (.t 9) (.seq (.region false [⟨none,(some 10),.mov (.t 0)⟩,
  ⟨none,(some 4),.mov (.t 10)⟩])
 .ret)
 .skip))
 (.seq (.region false [⟨none,(some 5),.mov (.k .nils)⟩])
 (.seq (.region false [⟨none,(some 6),.mov (.k (.int .i64 0))⟩])
 (.seq (.block 0 (.loop zzcy))
 (.seq (.region true [⟨none,(some 32),.mov (.t 5)⟩,
  ⟨none,(some 33),.load 32 true (.t 3)⟩,
  ⟨none,(some 34),.bsl 32 1 (rep 32 (w8 0#8)) [(0,32,(.t 33))]⟩,
  ⟨none,(some 35),.app 32 32 (.t 32) (.t 34)⟩,
  ⟨none,(some 36),.mov (.t 0)⟩,
  ⟨none,(some 37),.mov (.t 6)⟩,
  ⟨none,(some 38),.slcS 32 (.t 36) (some (.t 37)) none none⟩,
  ⟨none,(some 39),.app 32 32 (.t 35) (.t 38)⟩,
  ⟨none,(some 4),.mov (.t 39)⟩,
  ⟨none,none,.apart (.t 36) (.t 35)⟩])
 .ret))))))
 ntmps:=40
 res:=[.tmp 4]
theorem zv7d:zsjc P Tryz.f93=some a93:=by kernel_rfl
end Go.Proofs.YtdnhbfmlklaldaaGreat
set_option linter.unusedSimpArgs false
set_option linter.unusedVariables false
namespace Go.Proofs.YtdnhbfmlklaldaaGreat
open Go Go.Am
def S660 (x:Sl Dg) (d:Dg) (i:Nat):St:=zd5d (x.dv 32 dgC) (.mp 0 32 0) (.int .i64 i) [.cells (dgC d)]
theorem zdpu (x:Sl Dg) (d:Dg):Runs tbl0 a30 [x.dv 32 dgC,.agg (dgC d)] (.bool (decide (d ∈ x.l))):=by
 refine ⟨?_⟩
 have hb:=x.b
 simp (disch:=first|omega|simp<;>omega|fail) [-zA,-zB,-zC,-zD,-zE,a30]
 refine zlm5 (S660 x d) (fun i=>x.l.length-i) (fun i=>i≤x.l.length ∧ ∀ j (hj:j<x.l.length),j<i→¬ x.l[j]=d) 0 (z515 (by simp (disch:=first|omega|simp<;>omega|fail) [-zA,-zB,-zC,-zD,-zE,S660,zd5d]) (by simp (disch:=first|omega|simp<;>omega|fail) [-zA,-zB,-zC,-zD,-zE,S660,zd5d])) ⟨by omega,fun j _ hj=>by omega⟩ (fun i hi => ?_)
 obtain ⟨h1,h2⟩:=hi
 simp (disch:=first|omega|simp<;>omega|fail) [-zA,-zB,-zC,-zD,-zE,zk9n,zd5d,S660]
 by_cases h:i<x.l.length
 ·have h':(i:Int)<x.l.length:=by omega
  have hg : ∀ H,zpsc H 32 (x.dv 32 dgC) i=some (.ref (dgC x.l[i])):=fun H=>zalo z1t1 h
  by_cases e:x.l[i]=d
  ·have hm:d ∈ x.l:=e▸List.getElem_mem h
   simp (disch:=first|omega|simp<;>omega|fail) [-zA,-zB,-zC,-zD,-zE,h',h,hg,e,hm]
  ·simp (disch:=first|omega|simp<;>omega|fail) [-zA,-zB,-zC,-zD,-zE,h',h,hg,e]
   refine ⟨i+1,z515 (by simp (disch:=first|omega|simp<;>omega|fail) [-zA,-zB,-zC,-zD,-zE,S660,zd5d]) (by simp (disch:=first|omega|simp<;>omega|fail) [-zA,-zB,-zC,-zD,-zE,S660,zd5d]),by omega,by omega,fun j hj hji => ?_⟩
   by_cases ej:j=i
   ·subst ej; exact e
   ·exact h2 j hj (by omega)
 ·have h':¬ (i:Int)<x.l.length:=by omega
  have hm:¬ d ∈ x.l:=fun hm=>by
   obtain ⟨j,hj,e⟩:=List.getElem_of_mem hm
   exact h2 j hj (by omega) e
  simp (disch:=first|omega|simp<;>omega|fail) [-zA,-zB,-zC,-zD,-zE,h,h',hm]
noncomputable def cHas:List DV→Option DV:=con (fun _=>True) (fun a:Sl Dg × Dg=>[a.1.dv 32 dgC,.agg (dgC a.2)]) (fun a => .bool (decide (a.2 ∈ a.1.l)))
theorem zqi6 {x:Sl Dg} {d:Dg}:cHas [x.dv 32 dgC,.agg (dgC d)]=some (.bool (decide (d ∈ x.l))) :=
 zsn4 (f:=fun a:Sl Dg × Dg=>[a.1.dv 32 dgC,.agg (dgC a.2)]) (g:=fun a => .bool (decide (a.2 ∈ a.1.l))) (by
  rintro ⟨a,b⟩ ⟨c,d⟩ e
  simp only [List.cons.injEq,DV.agg.injEq,and_true] at e
  rw [z42k e.1,zib9 e.2]) (x,d)
theorem zi6e:(Con.pure cHas).Sound P 30:=z2au fun a _=>zljw mix zr5o Tryz.func30 z3f8 (zdpu a.1 a.2)
theorem zgo4 {a b:B8}:a.toNat.toUInt8<b.toNat.toUInt8↔a<b:=by
 have ha:=a.isLt
 have hb:=b.isLt
 rw [UInt8.lt_iff_toNat_lt,BitVec.lt_def]
 simp only [Nat.toUInt8_eq,UInt8.toNat_ofNat',Nat.mod_eq_of_lt ha,Nat.mod_eq_of_lt hb]
theorem z29k : ∀ (a b:List B8) (i:Nat) (h1:i<a.length) (h2:i<b.length),(∀ j (h1:j<a.length) (h2:j<b.length),j<i→a[j]=b[j])→¬ a[i]=b[i]→Op.bytesLess (a.map fun b=>b.toNat.toUInt8) (b.map fun b=>b.toNat.toUInt8)=decide (a[i]<b[i])
 | [],_,_,h1,_,_,_=>by simp at h1
 | _::_,[],_,_,h2,_,_=>by simp at h2
 | x::a,y::b,0,_,_,_,hn=>by
  simp only [List.getElem_cons_zero] at hn ⊢
  have hxy:¬ x.toNat.toUInt8=y.toNat.toUInt8:=fun e=>hn (zvz3 e)
  simp only [List.map_cons,Op.bytesLess,zgo4]
  simp [hxy,hn]
 | x::a,y::b,i+1,h1,h2,he,hn=>by
  have e0:=he 0 (by simp) (by simp) (by omega)
  simp only [List.getElem_cons_zero] at e0
  subst e0
  have:=z29k a b i (by simpa using h1) (by simpa using h2) (fun j p q hj=>he (j+1) (Nat.succ_lt_succ p) (Nat.succ_lt_succ q) (by omega)) (by simpa using hn)
  simp only [List.map_cons,Op.bytesLess,List.getElem_cons_succ,this]
  simp
theorem zwa6 {a b:Dg} {i:Nat} (hi:i<32) (he : ∀ j (hj:j<32),j<i→a.1[j]'(by rw [a.2]; exact hj)=b.1[j]'(by rw [b.2]; exact hj)) (hn:¬ a.1[i]'(by rw [a.2]; exact hi)=b.1[i]'(by rw [b.2]; exact hi)):dgLt a b=decide (a.1[i]'(by rw [a.2]; exact hi)<b.1[i]'(by rw [b.2]; exact hi)) :=
 z29k a.1 b.1 i _ _ (fun j p q hj=>he j (by rw [a.2] at p; exact p) hj) hn
theorem zz16 {a b:Dg} (he : ∀ j (hj:j<32),a.1[j]'(by rw [a.2]; exact hj)=b.1[j]'(by rw [b.2]; exact hj)):a=b :=
 Subtype.ext (List.ext_getElem (by rw [a.2,b.2]) fun j p q=>he j (by rw [a.2] at p; exact p))
theorem z00n {a:Dg} {i:Nat} (hi:i<32):oneC 1 false ((dgC a).drop i)=some (w8 (a.1[i]'(by rw [a.2]; exact hi))):=by
 have hl:i<(dgC a).length:=by rw [z1t1]; exact hi
 rw [List.drop_eq_getElem_cons hl]
 simp [oneC,dgC]
def S661 (a b:Dg) (i:Nat):St:=zrp1 (.mp 0 32 0) (.mp 1 32 0) (.int .i64 i) [.cells (dgC a),.cells (dgC b)]
theorem zy8c (a b:Dg):Runs tbl0 a59 [.agg (dgC a),.agg (dgC b)] (.bool (dgLt a b)):=by
 refine ⟨?_⟩
 simp (disch:=first|omega|simp<;>omega|fail) [-zA,-zB,-zC,-zD,-zE,a59]
 refine zlm5 (S661 a b) (fun i=>32-i) (fun i=>i≤32 ∧ ∀ j (hj:j<32),j<i→a.1[j]'(by rw [a.2]; exact hj)=b.1[j]'(by rw [b.2]; exact hj)) 0 (z515 (by simp (disch:=first|omega|simp<;>omega|fail) [-zA,-zB,-zC,-zD,-zE,S661,zrp1]) (by simp (disch:=first|omega|simp<;>omega|fail) [-zA,-zB,-zC,-zD,-zE,S661,zrp1])) ⟨by omega,fun j _ hj=>by omega⟩ (fun i hi => ?_)
 obtain ⟨h1,h2⟩:=hi
 simp only [S661]
 by_cases h:i<32
 ·have h':(i:Int)<32:=by omega
  have o1:=z00n (a:=a) h
  have o2:=z00n (a:=b) h
  have la:=z1t1 a
  have lb:=z1t1 b
  by_cases e:a.1[i]'(by rw [a.2]; exact h)=b.1[i]'(by rw [b.2]; exact h)
  ·rw [e] at o1
   simp (disch:=first|omega|simp<;>omega|fail) [-zA,-zB,-zC,-zD,-zE,zor5,zrp1,h,h',o1,o2,la,lb]
   refine ⟨i+1,z515 (by simp (disch:=first|omega|simp<;>omega|fail) [-zA,-zB,-zC,-zD,-zE,S661,zrp1]) (by simp (disch:=first|omega|simp<;>omega|fail) [-zA,-zB,-zC,-zD,-zE,S661,zrp1]),by omega,by omega,fun j hj hji => ?_⟩
   by_cases ej:j=i
   ·subst ej; exact e
   ·exact h2 j hj (by omega)
  ·have hr:=zwa6 h h2 e
   obtain ⟨u,hu⟩ : ∃ u,a.1[i]'(by rw [a.2]; exact h)=u:=⟨_,rfl⟩
   obtain ⟨v,hv⟩ : ∃ v,b.1[i]'(by rw [b.2]; exact h)=v:=⟨_,rfl⟩
   rw [hu] at o1 e hr
   rw [hv] at o2 e hr
   have e':(u == v)=false:=by simp [e]
   have e'':(u != v)=true:=by simp [e]
   simp (disch:=first|omega|simp<;>omega|fail) [-zA,-zB,-zC,-zD,-zE,zor5,zrp1,h,h',o1,o2,e,e',e'',hr,la,lb]
 ·have h':¬ (i:Int)<32:=by omega
  have he:a=b:=zz16 fun j hj=>h2 j hj (by omega)
  have hr:dgLt a b=false:=by rw [he]; exact zc3a.irr b
  simp (disch:=first|omega|simp<;>omega|fail) [-zA,-zB,-zC,-zD,-zE,zor5,zrp1,h,h',hr]
noncomputable def zta3:List DV→Option DV:=con (fun _=>True) (fun a:Dg × Dg=>[.agg (dgC a.1),.agg (dgC a.2)]) (fun a => .bool (dgLt a.1 a.2))
theorem z577 {a b:Dg}:zta3 [.agg (dgC a),.agg (dgC b)]=some (.bool (dgLt a b)) :=
 zsn4 (f:=fun a:Dg × Dg=>[.agg (dgC a.1),.agg (dgC a.2)]) (g:=fun a => .bool (dgLt a.1 a.2)) (by
  rintro ⟨a,b⟩ ⟨c,d⟩ e
  simp only [List.cons.injEq,DV.agg.injEq,and_true] at e
  rw [zib9 e.1,zib9 e.2]) (a,b)
theorem zp63:(Con.pure zta3).Sound P 59:=z2au fun a _=>zljw mix zr5o Tryz.func59 zwsz (zy8c a.1 a.2)
end Go.Proofs.YtdnhbfmlklaldaaGreat
set_option linter.unusedSimpArgs false
set_option linter.unusedVariables false
namespace Go.Proofs.YtdnhbfmlklaldaaGreat
open Go Go.Am
theorem zig9 {α:Type} {p:α→Bool} : ∀ {l:List α} {i:Nat} (hi:i≤l.length),(∀ j (h:j<l.length),j<i→p l[j]=true)→(i=l.length ∨ ∃ h:i<l.length,p l[i]=false)→l.takeWhile p=l.take i∧l.dropWhile p=l.drop i
 | [],i,hi,_,_=>by simp
 | a::l,0,_,_,h=>by
  have ha:p a=false:=by
   rcases h with h|⟨_,h⟩
   ·simp at h
   ·simpa using h
  simp [List.takeWhile_cons,List.dropWhile_cons,ha]
 | a::l,i+1,hi,h1,h2=>by
  have ha:p a=true:=h1 0 (by simp) (by omega)
  have ih:=zig9 (p:=p) (l:=l) (i:=i) (by simpa using hi) (fun j hj hji=>h1 (j+1) (Nat.succ_lt_succ hj) (by omega)) (by
   rcases h2 with h|⟨h,q⟩
   ·exact .inl (by simpa using h)
   ·exact .inr ⟨by simpa using h,by simpa using q⟩)
  simp [List.takeWhile_cons,List.dropWhile_cons,ha,ih.1,ih.2]
theorem zch3 {α:Type} {x:Sl α} {s:Nat} {f:α→List DV} {b:DV}:z87v (x.dv s f) b=b.known:=by
 obtain ⟨k,l,h,hb⟩:=x
 cases k with
 | none=>exact z8bo
 | some c=>exact zhyd
def addF (x:Sl Dg) (d:Dg):Sl Dg:=if d ∈ x.l then x else own (addU dgLt x.l d)
noncomputable def T662:Tbl:=addT 30 (.pure cHas) (addT 59 (.pure zta3) tbl0)
theorem zbwy:T662 30 = .pure cHas:=by simp [T662]
theorem zopp:T662 59 = .pure zta3:=by simp [T662]
theorem zuuq:T662.Sound P:=z0rp zi6e (z0rp zp63 zr5o)
def aV (l:List Dg):DV:=if l=[] then .nils else .ms 1 (l.length*32) 0 32 l.length (l.length*32)
def aH (d:Dg) (l:List Dg):List AObj := .cells (dgC d)::(if l=[] then [] else [.cells (fl dgC l)])
theorem zdzw {l:List Dg} (h:l≠[]):aV l = .ms 1 (l.length*32) 0 32 l.length (l.length*32):=if_neg h
theorem zdv1 {d:Dg} {l:List Dg} (h:l≠[]):aH d l=[.cells (dgC d),.cells (fl dgC l)]:=by rw [aH,if_neg h]
def S662 (x:Sl Dg) (d:Dg) (i:Nat):St:=z1yv (x.dv 32 dgC) (.mp 0 32 0) (aV (x.l.take i)) (.int .i64 i) (aH d (x.l.take i))
theorem ztx0 (x:Sl Dg) (d:Dg) (hn:x.l.length≤1000000):Runs T662 a93 [x.dv 32 dgC,.agg (dgC d)] ((addF x d).dv 32 dgC):=by
 refine ⟨?_⟩
 by_cases hm:d ∈ x.l
 ·have hr:addF x d=x:=if_pos hm
  simp (disch:=first|omega|simp<;>omega|fail) [-zA,-zB,-zC,-zD,-zE,a93,zbwy,zqi6,hm,hr]
 have hr:addF x d=own (addU dgLt x.l d):=if_neg hm
 have hul:=zk4s (lt:=dgLt) (l:=x.l) (d:=d)
 rw [hr,zqrs (by omega)]
 have ha:addU dgLt x.l d=x.l.takeWhile (fun y=>dgLt y d)++d::x.l.dropWhile (fun y=>dgLt y d):=by unfold addU; rw [if_neg hm]
 simp (disch:=first|omega|simp<;>omega|fail) [-zA,-zB,-zC,-zD,-zE,a93,zbwy,zqi6,hm]
 refine zlm5 (S662 x d) (fun i=>x.l.length-i) (fun i=>i≤x.l.length ∧ ∀ j (h:j<x.l.length),j<i→dgLt x.l[j] d=true) 0 (z515 (by simp (disch:=first|omega|simp<;>omega|fail) [-zA,-zB,-zC,-zD,-zE,S662,z1yv,aV]) (by simp (disch:=first|omega|simp<;>omega|fail) [-zA,-zB,-zC,-zD,-zE,S662,z1yv,aH])) ⟨by omega,fun j _ hj=>by omega⟩ (fun i hi => ?_)
 obtain ⟨h1,h2⟩:=hi
 simp only [S662]
 have tail:(i=x.l.length ∨ ∃ h:i<x.l.length,dgLt x.l[i] d=false)→addU dgLt x.l d=x.l.take i++d::x.l.drop i:=fun h=>by
  obtain ⟨e1,e2⟩:=zig9 (p:=fun y=>dgLt y d) h1 h2 h
  rw [ha,e1,e2]
 obtain ⟨L,hL⟩ : ∃ L,x.l.take i=L:=⟨_,rfl⟩
 have hLl:L.length=i:=by rw [← hL,List.length_take]; omega
 have hdl:(x.l.drop i).length=x.l.length-i:=List.length_drop ..
 obtain ⟨D,hD⟩ : ∃ D,x.l.drop i=D:=⟨_,rfl⟩
 have hs0 : ∀ H,ziwb H 32 (x.dv 32 dgC) (some (.int .i64 i)) none none=some ((x.part i x.l.length (x.l.length == x.l.length)).dv 32 dgC):=fun H=>z0ke z1t1 (by simp [zo77,iD]; omega) (Nat.le_refl _)
 obtain ⟨Y,hY⟩ : ∃ Y,x.part i x.l.length (x.l.length == x.l.length)=Y:=⟨_,rfl⟩
 have hYl:Y.l=D:=by rw [← hY,← hD]; show (x.l.drop i).take (x.l.length-i)=_; exact List.take_of_length_le (by omega)
 rw [hY] at hs0
 have hv : ∀ H,visY H (Y.dv 32 dgC)=some (D.length,D.flatMap dgC):=fun H=>by rw [zwaa z1t1,hYl]
 rw [hD] at hdl
 rw [hL,hD] at tail
 rw [hL]
 by_cases h:i<x.l.length
 case neg =>
  have h':¬ (i:Int)<x.l.length:=by omega
  have H:i=x.l.length ∨ ∃ h:i<x.l.length,dgLt x.l[i] d=false := .inl (by omega)
  by_cases e:L=[]
  ·have q1:aV L = .nils:=by rw [e]; rfl
   have q2:aH d L=[.cells (dgC d)]:=by rw [e]; rfl
   have hap:=zsuq (h:=[AObj.cells (dgC d)]) (s:=32) (b:=32) (m:=1) (cs:=dgC d) (by decide) (by decide) (by rw [z1t1]) (by decide) (by decide)
   simp only [z1t1,List.length_cons,List.length_nil,Nat.zero_add] at hap
   have hap2:=zvrp (h:=[AObj.cells (dgC d),.cells (fl dgC [d])]) (id:=1) (b:=32) (l:=[d]) (m:=D.length) (cs:=D) z1t1 (by decide) (by decide) (fun _=>zoxk) rfl (by simp; omega) (by simp [objV,ziu0,z8lx z1t1])
   rw [z4hs] at hap2
   simp only [List.length_cons,List.length_nil,Nat.zero_add,Nat.one_mul] at hap2
   have ht:=tail H
   rw [e,List.nil_append] at ht
   have hfl:(fl dgC (d::D)).length=(1+D.length)*32:=by rw [z8lx z1t1]; simp; omega
   have hpu:=zp6k z3ot (d::D)
   have htk:(fl dgC (d::D)).take ((1+D.length)*32)=(d::D).flatMap dgC:=List.take_of_length_le (by omega)
   have hl1:(d::D).length=1+D.length:=by simp; omega
   have hsn : ∀ H j,z4tt H j ((d::D).flatMap dgC)=some ((d::D).flatMap dgC):=fun H j=>z619 hpu
   rw [ht,hl1]
   generalize (d::D).flatMap dgC=Z at htk hsn ⊢
   simp (disch:=first|omega|simp<;>omega|fail) [-zA,-zB,-zC,-zD,-zE,zzcy,z1yv,h,h',q1,q2,hs0,hv,hap,hap2,hfl,htk,hsn,zch3]
  ·have q1:=zdzw e
   have q2:=zdv1 (d:=d) e
   have hap:=zkg3 (h:=[AObj.cells (dgC d),.cells (fl dgC L)]) (id:=1) (b:=32) (l:=L) (x:=d) z1t1 (by decide) (by decide) (fun _=>zoxk) (by omega) (by simp [objV,ziu0,z8lx z1t1])
   have hap2:=zvrp (h:=[AObj.cells (dgC d),.cells (fl dgC (L++[d]))]) (id:=1) (b:=32) (l:=L++[d]) (m:=D.length) (cs:=D) z1t1 (by decide) (by decide) (fun _=>zoxk) rfl (by simp; omega) (by simp [objV,ziu0,z8lx z1t1])
   have hl0:(L++[d]).length=L.length+1:=by simp
   rw [hl0] at hap2
   have ht:=tail H
   have he:L++[d]++D=L++d::D:=by simp
   rw [he] at hap2
   have hfl:(fl dgC (L++d::D)).length=(L.length+1+D.length)*32:=by rw [z8lx z1t1]; simp; omega
   have hpu:=zp6k z3ot (L++d::D)
   have htk:(fl dgC (L++d::D)).take ((L.length+1+D.length)*32)=(L++d::D).flatMap dgC:=List.take_of_length_le (by omega)
   have hl1:(L++d::D).length=L.length+1+D.length:=by simp; omega
   have hsn : ∀ H j,z4tt H j ((L++d::D).flatMap dgC)=some ((L++d::D).flatMap dgC):=fun H j=>z619 hpu
   rw [ht,hl1]
   generalize (L++d::D).flatMap dgC=Z at htk hsn ⊢
   simp (disch:=first|omega|simp<;>omega|fail) [-zA,-zB,-zC,-zD,-zE,zzcy,z1yv,h,h',q1,q2,hs0,hv,hap,hap2,hfl,htk,hsn,zch3]

 have h':(i:Int)<x.l.length:=by omega
 have hg : ∀ H,zpsc H 32 (x.dv 32 dgC) i=some (.ref (dgC x.l[i])):=fun H=>zalo z1t1 h
 have hnx:x.l.take (i+1)=L++[x.l[i]]:=by rw [List.take_succ_eq_append_getElem h,hL]
 cases hc:dgLt x.l[i] d with
 | false =>
  have H:i=x.l.length ∨ ∃ h:i<x.l.length,dgLt x.l[i] d=false := .inr ⟨h,hc⟩
  obtain ⟨y,hy⟩ : ∃ y,x.l[i]=y:=⟨_,rfl⟩
  rw [hy] at hg hc
  by_cases e:L=[]
  ·have q1:aV L = .nils:=by rw [e]; rfl
   have q2:aH d L=[.cells (dgC d)]:=by rw [e]; rfl
   have hap:=zsuq (h:=[AObj.cells (dgC d)]) (s:=32) (b:=32) (m:=1) (cs:=dgC d) (by decide) (by decide) (by rw [z1t1]) (by decide) (by decide)
   simp only [z1t1,List.length_cons,List.length_nil,Nat.zero_add] at hap
   have hap2:=zvrp (h:=[AObj.cells (dgC d),.cells (fl dgC [d])]) (id:=1) (b:=32) (l:=[d]) (m:=D.length) (cs:=D) z1t1 (by decide) (by decide) (fun _=>zoxk) rfl (by simp; omega) (by simp [objV,ziu0,z8lx z1t1])
   rw [z4hs] at hap2
   simp only [List.length_cons,List.length_nil,Nat.zero_add,Nat.one_mul] at hap2
   have ht:=tail H
   rw [e,List.nil_append] at ht
   have hfl:(fl dgC (d::D)).length=(1+D.length)*32:=by rw [z8lx z1t1]; simp; omega
   have hpu:=zp6k z3ot (d::D)
   have htk:(fl dgC (d::D)).take ((1+D.length)*32)=(d::D).flatMap dgC:=List.take_of_length_le (by omega)
   have hl1:(d::D).length=1+D.length:=by simp; omega
   have hsn : ∀ H j,z4tt H j ((d::D).flatMap dgC)=some ((d::D).flatMap dgC):=fun H j=>z619 hpu
   rw [ht,hl1]
   generalize (d::D).flatMap dgC=Z at htk hsn ⊢
   simp (disch:=first|omega|simp<;>omega|fail) [-zA,-zB,-zC,-zD,-zE,zzcy,z1yv,h,h',hg,hc,zopp,z577,q1,q2,hs0,hv,hap,hap2,hfl,htk,hsn,zch3]
  ·have q1:=zdzw e
   have q2:=zdv1 (d:=d) e
   have hap:=zkg3 (h:=[AObj.cells (dgC d),.cells (fl dgC L)]) (id:=1) (b:=32) (l:=L) (x:=d) z1t1 (by decide) (by decide) (fun _=>zoxk) (by omega) (by simp [objV,ziu0,z8lx z1t1])
   have hap2:=zvrp (h:=[AObj.cells (dgC d),.cells (fl dgC (L++[d]))]) (id:=1) (b:=32) (l:=L++[d]) (m:=D.length) (cs:=D) z1t1 (by decide) (by decide) (fun _=>zoxk) rfl (by simp; omega) (by simp [objV,ziu0,z8lx z1t1])
   have hl0:(L++[d]).length=L.length+1:=by simp
   rw [hl0] at hap2
   have ht:=tail H
   have he:L++[d]++D=L++d::D:=by simp
   rw [he] at hap2
   have hfl:(fl dgC (L++d::D)).length=(L.length+1+D.length)*32:=by rw [z8lx z1t1]; simp; omega
   have hpu:=zp6k z3ot (L++d::D)
   have htk:(fl dgC (L++d::D)).take ((L.length+1+D.length)*32)=(L++d::D).flatMap dgC:=List.take_of_length_le (by omega)
   have hl1:(L++d::D).length=L.length+1+D.length:=by simp; omega
   have hsn : ∀ H j,z4tt H j ((L++d::D).flatMap dgC)=some ((L++d::D).flatMap dgC):=fun H j=>z619 hpu
   rw [ht,hl1]
   generalize (L++d::D).flatMap dgC=Z at htk hsn ⊢
   simp (disch:=first|omega|simp<;>omega|fail) [-zA,-zB,-zC,-zD,-zE,zzcy,z1yv,h,h',hg,hc,zopp,z577,q1,q2,hs0,hv,hap,hap2,hfl,htk,hsn,zch3]

 | true =>
  have hinv : ∀ j (h:j<x.l.length),j<i+1→dgLt x.l[j] d=true:=fun j hj hji=>by
   by_cases ej:j=i
   ·subst ej; exact hc
   ·exact h2 j hj (by omega)
  obtain ⟨y,hy⟩ : ∃ y,x.l[i]=y:=⟨_,rfl⟩
  rw [hy] at hg hc hnx
  by_cases e:L=[]
  ·have q1:aV L = .nils:=by rw [e]; rfl
   have q2:aH d L=[.cells (dgC d)]:=by rw [e]; rfl
   have hap:=zsuq (h:=[AObj.cells (dgC d)]) (s:=32) (b:=32) (m:=1) (cs:=dgC y) (by decide) (by decide) (by rw [z1t1]) (by decide) (by decide)
   simp only [z1t1,List.length_cons,List.length_nil,Nat.zero_add] at hap
   simp (disch:=first|omega|simp<;>omega|fail) [-zA,-zB,-zC,-zD,-zE,zzcy,z1yv,h,h',hg,hc,zopp,z577,q1,q2,hap]
   rw [e,List.nil_append] at hnx
   have e1:aV [y] = .ms 1 32 0 32 1 32:=rfl
   have e2:aH d [y]=[.cells (dgC d),.cells (dgC y)]:=by rw [zdv1 (by simp),z4hs]
   exact ⟨i+1,z515 (by simp (disch:=first|omega|simp<;>omega|fail) [-zA,-zB,-zC,-zD,-zE,S662,z1yv,hnx,e1]) (by simp (disch:=first|omega|simp<;>omega|fail) [-zA,-zB,-zC,-zD,-zE,S662,z1yv,hnx,e2]),by omega,by omega,hinv⟩
  ·have q1:=zdzw e
   have q2:=zdv1 (d:=d) e
   have hap:=zkg3 (h:=[AObj.cells (dgC d),.cells (fl dgC L)]) (id:=1) (b:=32) (l:=L) (x:=y) z1t1 (by decide) (by decide) (fun _=>zoxk) (by omega) (by simp [objV,ziu0,z8lx z1t1])
   simp (disch:=first|omega|simp<;>omega|fail) [-zA,-zB,-zC,-zD,-zE,zzcy,z1yv,h,h',hg,hc,zopp,z577,q1,q2,hap]
   have e0:L++[y]≠[]:=by simp
   have e1:=zdzw e0
   have e2:=zdv1 (d:=d) e0
   rw [List.length_append,List.length_singleton] at e1
   exact ⟨i+1,z515 (by simp (disch:=first|omega|simp<;>omega|fail) [-zA,-zB,-zC,-zD,-zE,S662,z1yv,hnx,e1]) (by simp (disch:=first|omega|simp<;>omega|fail) [-zA,-zB,-zC,-zD,-zE,S662,z1yv,hnx,e2]),by omega,by omega,hinv⟩
noncomputable def cAdd:List DV→Option DV:=con (fun a:Sl Dg × Dg=>a.1.l.length≤1000000) (fun a=>[a.1.dv 32 dgC,.agg (dgC a.2)]) (fun a=>(addF a.1 a.2).dv 32 dgC)
theorem zbsz {x:Sl Dg} {d:Dg} (h:x.l.length≤1000000):cAdd [x.dv 32 dgC,.agg (dgC d)]=some ((addF x d).dv 32 dgC) :=
 zlyi (A:=fun a:Sl Dg × Dg=>a.1.l.length≤1000000) (f:=fun a:Sl Dg × Dg=>[a.1.dv 32 dgC,.agg (dgC a.2)]) (g:=fun a=>(addF a.1 a.2).dv 32 dgC) (by
  rintro ⟨a,b⟩ ⟨c,d⟩ e
  simp only [List.cons.injEq,DV.agg.injEq,and_true] at e
  rw [z42k e.1,zib9 e.2]) (x,d) h
theorem z03l:(Con.pure cAdd).Sound P 93:=z2au fun a h=>zljw mix zuuq Tryz.func93 zv7d (ztx0 a.1 a.2 h)
end Go.Proofs.YtdnhbfmlklaldaaGreat
set_option linter.unusedSimpArgs false
set_option linter.unusedVariables false
namespace Go.Proofs.YtdnhbfmlklaldaaGreat
open Go Go.Am
def zt4y:List Str:=[[97,110,110],[98,111,98],[99,97,116],[100,97,110]]
def ids3:List Str:=[[119,45,49],[119,45,50],[119,45,51]]
def z78s:List Str:=[[115,104,111,112],[119,101,98]]
def z4fh:List Str:=[[114],[114],[115]]
def z1mk:List Str:=[[114],[115]]
def z4m3 (t:Tp):Org:=⟨dgB (1+tpN t 2),zzh5 (t.adv 1) z78s,zzh5 (t.adv 2) z1mk⟩
def znld:Nat→Tp→Sl Dg→Sl Dg
 | 0,_,x=>x
 | k+1,t,x=>znld k (t.adv 1) (addF x (dgB (10+tpN t 12)))
def zb9q (t:Tp) (x:Sl Dg):Fct:=⟨1+tpN t 5,zzh5 (t.adv 1) zt4y,dgB (1+tpN (t.adv 2) 2),zzh5 (t.adv 3) z78s,zzh5 (t.adv 4) z4fh,tpN (t.adv 5) 20,decide (0<tpN (t.adv 6) 4),dgB (1+tpN (t.adv 7) 2),x⟩
def zfp1 (t:Tp):Nat:=(1+tpN (t.adv 8) 2).toNat
def zdx2 (t:Tp):Fct:=zb9q t (znld (zfp1 t) (t.adv 9) nilS)
structure FM where
 k:Nat
 t:Tp
 x:Sl Dg
end Go.Proofs.YtdnhbfmlklaldaaGreat
set_option linter.unusedSimpArgs false
set_option linter.unusedVariables false
namespace Go.Proofs.YtdnhbfmlklaldaaGreat
open Go Go.Am
def zu2o (t:Tp):Fnd:=⟨dgB (1+tpN t 2),tpN (t.adv 1) 4,zzh5 (t.adv 2) ids3,1+tpN (t.adv 3) 10,mkD (BitVec.ofInt 8 (30+tpN (t.adv 4) 3)),0,nilS,false⟩
def z8jt (t:Tp):Fnd:={ zu2o t with st:=1+tpN (t.adv 5) 4,con:=decide (tpN (t.adv 6) 6=0),dd:=if 0<tpN (t.adv 7) 3 then mkD (BitVec.ofInt 8 (10+tpN (t.adv 8) 12)) else nilS }
def zelo (t:Tp):Nat:=if 0<tpN (t.adv 7) 3 then 9 else 8
def reqK (t:Tp):Int:=1+tpN t 8
def reqV (t:Tp):Req :=
 if reqK t=1∨reqK t=3∨reqK t=5 then ⟨reqK t,1+tpN (t.adv 1) 3,0,[]⟩
 else if reqK t=4 then ⟨4,1+tpN (t.adv 1) 2,tpN (t.adv 2) 2,[]⟩
 else if reqK t=2 then ⟨2,0,0,zzh5 (t.adv 1) z78s⟩
 else if reqK t=6 then ⟨6,1+tpN (t.adv 1) 10,0,[]⟩
 else if reqK t=7 then ⟨7,tpN (t.adv 1) 30,0,[]⟩
 else ⟨reqK t,0,0,[]⟩
def reqA (t:Tp):Nat:=if reqK t=4 then 3 else if reqK t=8 then 1 else 2
noncomputable def cMk (g:Tp→DV) (n:Tp→Nat):List DV→List DV→Option (DV × List DV):=conT (fun a:Tp=>a.at_<3000000000) (fun a=>[]) tpC (fun a=>(g a,tpC (a.adv (n a))))
noncomputable def zbdu (t:Tp):DV := .agg (orC (z4m3 t))
noncomputable def z3tu (t:Tp):DV := .agg (rqC (reqV t))
def zy0h (t:Tp):Nat:=9+zfp1 t
end Go.Proofs.YtdnhbfmlklaldaaGreat
set_option linter.unusedSimpArgs false
set_option linter.unusedVariables false
namespace Go.Proofs.YtdnhbfmlklaldaaGreat
open Go Go.Am
def zqwi:Nat→Tp→List Fct→List Fct × Tp
 | 0,t,l=>(l,t)
 | k+1,t,l=>zqwi k (t.adv (zy0h t)) (l++[zdx2 t])
def z7td:Nat→Tp→List Fnd→List Fnd × Tp
 | 0,t,l=>(l,t)
 | k+1,t,l=>z7td k (t.adv (zelo t)) (l++[z8jt t])
def dblS (t:Tp):Sl Str:=if tpN t 6=0 then ⟨some true,[zzh5 (t.adv 1) ids3],fun e=>by simp at e,by simp⟩ else nilS
def dblA (t:Tp):Nat:=if tpN t 6=0 then 2 else 1
def caP (t:Tp) (F:Nat):List Fct × Tp:=zqwi (tpN (t.adv 2) (F+1)).toNat (t.adv 3) []
def caR (t:Tp) (N:Nat):List Fnd × Tp:=z7td (tpN t (N+1)).toNat (t.adv 1) []
def zhq6 (t:Tp) (F N:Nat):Cas:=⟨sumV t,tpN (t.adv 1) 40,ownN (caP t F).1,ownN (caR (caP t F).2 N).1,dblS (caR (caP t F).2 N).2⟩
def zsjk (t:Tp) (F N:Nat):Tp:=(caR (caP t F).2 N).2.adv (dblA (caR (caP t F).2 N).2)
def Z36:List DV:=[w8 0#8,w8 0#8,w8 0#8,w8 0#8,w8 0#8,w8 0#8,w8 0#8,w8 0#8,w8 0#8,w8 0#8,w8 0#8,w8 0#8,w8 0#8,w8 0#8,w8 0#8,w8 0#8,w8 0#8,w8 0#8,w8 0#8,w8 0#8,w8 0#8,w8 0#8,w8 0#8,w8 0#8,w8 0#8,w8 0#8,w8 0#8,w8 0#8,w8 0#8,w8 0#8,w8 0#8,w8 0#8,.int .i64 0,.nils,.nils,.nils]
theorem zu4k:Z36.length=36:=by simp [Z36]
theorem zi4l:zbao Z36=true:=by simp [Z36,zbao,zyp8]
attribute [simp] zu4k zi4l
def cX (A:Dg) (a:Int) (v1 v2 v3:DV):List DV:=dgC A++[.int .i64 a,v1,v2,v3]
theorem zb0y {A:Dg} {a:Int} {v1 v2 v3:DV}:(cX A a v1 v2 v3).length=36:=by simp [cX,z1t1]
theorem zrnz {A:Dg} {a:Int} {v1 v2 v3:DV}:(cX A a v1 v2 v3).drop 32=[.int .i64 a,v1,v2,v3]:=by unfold cX; rw [zj6k (by decide)]; rfl
theorem cX33 {A:Dg} {a:Int} {v1 v2 v3:DV}:oneC 1 false ((cX A a v1 v2 v3).drop 33)=some v1:=by rw [show (33:Nat)=32+1 from rfl,← List.drop_drop,zrnz]; rfl
theorem cX34 {A:Dg} {a:Int} {v1 v2 v3:DV}:oneC 1 false ((cX A a v1 v2 v3).drop 34)=some v2:=by rw [show (34:Nat)=32+2 from rfl,← List.drop_drop,zrnz]; rfl
attribute [simp] zb0y cX33 cX34
end Go.Proofs.YtdnhbfmlklaldaaGreat
set_option linter.unusedSimpArgs false
set_option linter.unusedVariables false
namespace Go.Proofs.YtdnhbfmlklaldaaGreat
open Go Go.Am
structure CM (α:Type) where
 k:Nat
 t:Tp
 l:List α
noncomputable def znvy:List DV→List DV→Option (DV × List DV):=conT (fun a:Tp × Nat × Nat=>a.1.at_<2800000000∧a.2.1≤1000∧a.2.2≤1000) (fun a=>[.int .i64 a.2.1,.int .i64 a.2.2]) (fun a=>tpC a.1) (fun a=>(.agg (caC (zhq6 a.1 a.2.1 a.2.2)),tpC (zsjk a.1 a.2.1 a.2.2)))
end Go.Proofs.YtdnhbfmlklaldaaGreat
set_option linter.unusedSimpArgs false
set_option linter.unusedVariables false
namespace Go.Proofs.YtdnhbfmlklaldaaGreat
open Go Go.Am
structure DcOK (c:Cas):Prop where
 f:c.f.l.length≤1000
 d : ∀ f ∈ c.f.l,f.docs.l.length≤1000
 n:c.n.l.length≤1000
 m : ∀ f ∈ c.n.l,f.dd.l.length≤1000
end Go.Proofs.YtdnhbfmlklaldaaGreat
set_option linter.unusedSimpArgs false
set_option linter.unusedVariables false
namespace Go.Proofs.YtdnhbfmlklaldaaGreat
open Go Go.Am
def a6:AFn where
 code:=(.seq (.region false [⟨none,(some 2),.mov (.k (.bool false))⟩])
 (.seq (.region false [⟨none,(some 8),.mov (.t 0)⟩,
  ⟨none,(some 9),.call (.k (.fn (.func 24) [] [])) [(.t 8),(.k (.int .i64 300))]⟩,
  ⟨none,(some 3),.mov (.t 9)⟩])
 (.seq (.region false [⟨none,(some 10),.mov (.t 3)⟩,
  ⟨none,(some 11),.call (.k (.fn (.func 25) [] [])) [(.t 10),(.k (.int .i64 12)),(.k (.int .i64 6))]⟩,
  ⟨none,(some 12),.mov (.t 3)⟩,
  ⟨none,(some 13),.call (.k (.fn (.func 26) [] [])) [(.t 12)]⟩,
  ⟨none,(some 14),.mov (.t 3)⟩,
  ⟨none,(some 15),.call (.k (.fn (.func 27) [] [])) [(.t 14)]⟩,
  ⟨none,(some 4),.alloc [(w8 0#8),(w8 0#8),(w8 0#8),(w8 0#8),(w8 0#8),(w8 0#8),(w8 0#8),(w8 0#8),(w8 0#8),(w8 0#8),(w8 0#8),(w8 0#8),(w8 0#8),(w8 0#8),(w8 0#8),(w8 0#8),(w8 0#8),(w8 0#8),(w8 0#8),(w8 0#8),(w8 0#8),(w8 0#8),(w8 0#8),(w8 0#8),(w8 0#8),(w8 0#8),(w8 0#8),(w8 0#8),(w8 0#8),(w8 0#8),(w8 0#8),(w8 0#8),(.int .i64 0),.nils,.nils,.nils]⟩,
  ⟨none,(some 5),.alloc [(w8 0#8),(w8 0#8),(w8 0#8),(w8 0#8),(w8 0#8),(w8 0#8),(w8 0#8),(w8 0#8),(w8 0#8),(w8 0#8),(w8 0#8),(w8 0#8),(w8 0#8),(w8 0#8),(w8 0#8),(w8 0#8),(w8 0#8),(w8 0#8),(w8 0#8),(w8 0#8),(w8 0#8),(w8 0#8),(w8 0#8),(w8 0#8),(w8 0#8),(w8 0#8),(w8 0#8),(w8 0#8),(w8 0#8),(w8 0#8),(w8 0#8),(w8 0#8),(.str []),(.str [])]⟩,
  ⟨none,(some 6),.alloc [(.int .i64 0),(.int .i64 0),(.int .i64 0),(.str [])]⟩,
  ⟨none,none,.store 36 (.t 4) (.t 11)⟩,
  ⟨none,none,.store 34 (.t 5) (.t 13)⟩,
  ⟨none,none,.store 4 (.t 6) (.t 15)⟩])
 (.seq (.region false [⟨none,(some 16),.load 36 true (.t 4)⟩,
  ⟨none,(some 17),.load 34 true (.t 5)⟩,
  ⟨none,(some 18),.load 4 true (.t 6)⟩,
  ⟨none,(some 19),.call (.k (.fn (.func 20) [] [])) [(.t 16),(.t 17),(.t 18)]⟩,
  ⟨none,(some 7),.alloc [(.bool false),.nils,(.int .i64 0)]⟩,
  ⟨none,none,.store 3 (.t 7) (.t 19)⟩])
 (.seq (.seq (.region true [⟨none,(some 20),.fld 0 (.t 7)⟩,
  ⟨none,(some 21),.load 1 false (.t 20)⟩,
  ⟨none,(some 22),.load 36 true (.t 4)⟩,
  ⟨none,(some 23),.load 34 true (.t 5)⟩,
  ⟨none,(some 24),.load 4 true (.t 6)⟩,
  ⟨none,(some 25),.load 36 true (.t 4)⟩,
  ⟨none,(some 26),.callN (.k (.fn (.func 28) [] [])) [(.t 25)]⟩,
  ⟨none,(some 27),.callN (.k (.fn (.func 22) [] [])) [(.t 22),(.t 23),(.t 24),(.t 26)]⟩,
  ⟨none,(some 28),.eqb true (.t 21) (.t 27)⟩,
  ⟨none,(some 29),.mov (.t 28)⟩,
  ⟨(some (29,false)),(some 30),.fld 0 (.t 7)⟩,
  ⟨(some (29,false)),(some 31),.load 1 false (.t 30)⟩,
  ⟨(some (29,false)),(some 32),.mov (.t 31)⟩,
  ⟨(some (32,true)),(some 33),.load 36 true (.t 4)⟩,
  ⟨(some (32,true)),(some 34),.load 34 true (.t 5)⟩,
  ⟨(some (32,true)),(some 35),.load 4 true (.t 6)⟩,
  ⟨(some (32,true)),(some 36),.fld 1 (.t 7)⟩,
  ⟨(some (32,true)),(some 37),.load 1 false (.t 36)⟩,
  ⟨(some (32,true)),(some 38),.callN (.k (.fn (.func 22) [] [])) [(.t 33),(.t 34),(.t 35),(.t 37)]⟩,
  ⟨(some (32,true)),(some 39),.un .not (.t 38)⟩,
  ⟨(some (29,false)),(some 40),.pick (.t 32) (.t 39) (.k (.bool false))⟩,
  ⟨none,(some 41),.pick (.t 29) (.k (.bool true)) (.t 40)⟩])
 (.cond (.t 41) (.seq (.region false [⟨none,(some 2),.mov (.k (.bool false))⟩])
 .ret)
 .skip))
 (.seq (.region false [⟨none,(some 42),.fld 0 (.t 7)⟩,
  ⟨none,(some 43),.load 1 false (.t 42)⟩,
  ⟨none,(some 44),.mov (.t 43)⟩,
  ⟨(some (44,true)),(some 45),.fld 2 (.t 7)⟩,
  ⟨(some (44,true)),(some 46),.load 1 false (.t 45)⟩,
  ⟨(some (44,true)),(some 47),.bin .eql (.t 46) (.k (.int .i64 0))⟩,
  ⟨none,(some 48),.pick (.t 44) (.t 47) (.k (.bool false))⟩,
  ⟨none,(some 49),.mov (.t 48)⟩,
  ⟨(some (49,false)),(some 50),.fld 0 (.t 7)⟩,
  ⟨(some (49,false)),(some 51),.load 1 false (.t 50)⟩,
  ⟨(some (49,false)),(some 52),.un .not (.t 51)⟩,
  ⟨(some (49,false)),(some 53),.mov (.t 52)⟩,
  ⟨(some (53,true)),(some 54),.fld 2 (.t 7)⟩,
  ⟨(some (53,true)),(some 55),.load 1 false (.t 54)⟩,
  ⟨(some (53,true)),(some 56),.bin .gtr (.t 55) (.k (.int .i64 0))⟩,
  ⟨(some (49,false)),(some 57),.pick (.t 53) (.t 56) (.k (.bool false))⟩,
  ⟨(some (49,false)),(some 58),.mov (.t 57)⟩,
  ⟨(some (58,true)),(some 59),.fld 1 (.t 7)⟩,
  ⟨(some (58,true)),(some 60),.load 1 false (.t 59)⟩,
  ⟨(some (58,true)),(some 61),.len (.t 60)⟩,
  ⟨(some (58,true)),(some 62),.bin .eql (.t 61) (.k (.int .i64 0))⟩,
  ⟨(some (49,false)),(some 63),.pick (.t 58) (.t 62) (.k (.bool false))⟩,
  ⟨none,(some 64),.pick (.t 49) (.k (.bool true)) (.t 63)⟩,
  ⟨none,(some 65),.mov (.t 64)⟩,
  ⟨(some (65,true)),(some 66),.call (.k (.fn (.func 14) [] [])) []⟩,
  ⟨none,(some 67),.pick (.t 65) (.t 66) (.k (.bool false))⟩,
  ⟨none,(some 2),.mov (.t 67)⟩])
 .ret))))))
 ntmps:=68
 res:=[.tmp 2]
end Go.Proofs.YtdnhbfmlklaldaaGreat
set_option linter.unusedSimpArgs false
set_option linter.unusedVariables false
namespace Go.Proofs.YtdnhbfmlklaldaaGreat
open Go Go.Am
end Go.Proofs.YtdnhbfmlklaldaaGreat
set_option linter.unusedSimpArgs false
set_option linter.unusedVariables false
namespace Go.Proofs.YtdnhbfmlklaldaaGreat
open Go Go.Am
structure Mk3 (x:Nl) (F N:Nat) (c:Cas) (o:Org) (q:Req) (t1 t2 t3:Tp):Prop where
 m1:znvy [.int .i64 F,.int .i64 N] (tpC (tp0 x 300))=some (.agg (caC c),tpC t1)
 m2:cMk zbdu (fun _=>3) [] (tpC t1)=some (.agg (orC o),tpC t2)
 m3:cMk z3tu reqA [] (tpC t2)=some (.agg (rqC q),tpC t3)
 ht:t3.at_≤1000000
 s:CaSm c
 v:reqB q=true
 r:RqSm q
end Go.Proofs.YtdnhbfmlklaldaaGreat
set_option linter.unusedSimpArgs false
set_option linter.unusedVariables false
namespace Go.Proofs.YtdnhbfmlklaldaaGreat
open Go Go.Am
def z1eu:ACode :=
 (.seq (.seq (.region false [⟨none,(some 11),.mov (.t 5)⟩,
  ⟨none,(some 12),.mov (.t 0)⟩,
  ⟨none,(some 13),.len (.t 12)⟩,
  ⟨none,(some 14),.bin .lss (.t 11) (.t 13)⟩])
 (.cond (.t 14) .skip
 (.exit 0)))
 (.seq (.block 1 (.seq (.region true [⟨none,(some 17),.mov (.t 0)⟩,
  ⟨none,(some 18),.mov (.t 5)⟩,
  ⟨none,(some 19),.idxS 32 (.t 17) (.t 18)⟩,
  ⟨none,(some 20),.load 32 true (.t 19)⟩,
  ⟨none,(some 21),.mov (.t 1)⟩,
  ⟨none,(some 22),.mov (.t 5)⟩,
  ⟨none,(some 23),.idxS 32 (.t 21) (.t 22)⟩,
  ⟨none,(some 24),.load 32 true (.t 23)⟩,
  ⟨none,(some 25),.eqa true [(32,0)] (.t 20) (.t 24)⟩])
 (.cond (.t 25) (.seq (.region false [⟨none,(some 4),.mov (.k (.bool false))⟩])
 .ret)
 .skip)))
 (.region false [⟨none,(some 15),.mov (.t 5)⟩,
  ⟨none,(some 16),.bin .add (.t 15) (.k (.int .i64 1))⟩,
  ⟨none,(some 5),.mov (.t 16)⟩])))
def zuzy (x0 x1 x5:DV) (h:List AObj):St:=⟨[x0,x1,.junk,.junk,.junk,x5]++js 20,h⟩
def a40:AFn where
 code:=(.seq (.region false [⟨none,(some 4),.mov (.k (.bool false))⟩])
 (.seq (.seq (.region false [⟨none,(some 6),.mov (.t 0)⟩,
  ⟨none,(some 7),.len (.t 6)⟩,
  ⟨none,(some 8),.mov (.t 1)⟩,
  ⟨none,(some 9),.len (.t 8)⟩,
  ⟨none,(some 10),.bin .neq (.t 7) (.t 9)⟩])
 (.cond (.t 10) (.seq (.region false [⟨none,(some 4),.mov (.k (.bool false))⟩])
 .ret)
 .skip))
 (.seq (.seq (.region false [⟨none,(some 5),.mov (.k (.int .i64 0))⟩])
 (.block 0 (.loop z1eu)))
 (.seq (.region false [⟨none,(some 4),.mov (.k (.bool true))⟩])
 .ret))))
 ntmps:=26
 res:=[.tmp 4]
theorem zn9f:zsjc P Tryz.f40=some a40:=by kernel_rfl
def ze3w:ACode :=
 (.seq (.seq (.region false [⟨none,(some 27),.mov (.t 3)⟩,
  ⟨none,(some 28),.mov (.t 0)⟩,
  ⟨none,(some 29),.lenStr (.t 28)⟩,
  ⟨none,(some 30),.bin .lss (.t 27) (.t 29)⟩])
 (.cond (.t 30) .skip
 (.exit 0)))
 (.seq (.block 1 (.seq (.region false [⟨none,(some 33),.mov (.t 0)⟩,
  ⟨none,(some 34),.mov (.t 3)⟩,
  ⟨none,(some 35),.idxStr (.t 33) (.t 34)⟩,
  ⟨none,(some 4),.mov (.t 35)⟩])
 (.seq (.region false [⟨none,(some 36),.mov (.t 4)⟩,
  ⟨none,(some 37),.bin .geq (.t 36) (.k (w8 97#8))⟩,
  ⟨none,(some 38),.mov (.t 37)⟩,
  ⟨(some (38,true)),(some 39),.mov (.t 4)⟩,
  ⟨(some (38,true)),(some 40),.bin .leq (.t 39) (.k (w8 122#8))⟩,
  ⟨none,(some 41),.pick (.t 38) (.t 40) (.k (.bool false))⟩,
  ⟨none,(some 42),.mov (.t 41)⟩,
  ⟨(some (42,false)),(some 43),.mov (.t 4)⟩,
  ⟨(some (42,false)),(some 44),.bin .geq (.t 43) (.k (w8 48#8))⟩,
  ⟨(some (42,false)),(some 45),.mov (.t 44)⟩,
  ⟨(some (45,true)),(some 46),.mov (.t 4)⟩,
  ⟨(some (45,true)),(some 47),.bin .leq (.t 46) (.k (w8 57#8))⟩,
  ⟨(some (42,false)),(some 48),.pick (.t 45) (.t 47) (.k (.bool false))⟩,
  ⟨none,(some 49),.pick (.t 42) (.k (.bool true)) (.t 48)⟩,
  ⟨none,(some 50),.mov (.t 49)⟩,
  ⟨(some (50,false)),(some 51),.mov (.t 4)⟩,
  ⟨(some (50,false)),(some 52),.bin .eql (.t 51) (.k (w8 46#8))⟩,
  ⟨none,(some 53),.pick (.t 50) (.k (.bool true)) (.t 52)⟩,
  ⟨none,(some 54),.mov (.t 53)⟩,
  ⟨(some (54,false)),(some 55),.mov (.t 4)⟩,
  ⟨(some (54,false)),(some 56),.bin .eql (.t 55) (.k (w8 95#8))⟩,
  ⟨none,(some 57),.pick (.t 54) (.k (.bool true)) (.t 56)⟩,
  ⟨none,(some 58),.mov (.t 57)⟩,
  ⟨(some (58,false)),(some 59),.mov (.t 4)⟩,
  ⟨(some (58,false)),(some 60),.bin .eql (.t 59) (.k (w8 45#8))⟩,
  ⟨none,(some 61),.pick (.t 58) (.k (.bool true)) (.t 60)⟩,
  ⟨none,(some 62),.un .not (.t 61)⟩])
 (.cond (.t 62) (.seq (.region false [⟨none,(some 2),.mov (.k (.bool false))⟩])
 .ret)
 .skip))))
 (.region false [⟨none,(some 31),.mov (.t 3)⟩,
  ⟨none,(some 32),.bin .add (.t 31) (.k (.int .i64 1))⟩,
  ⟨none,(some 3),.mov (.t 32)⟩])))
def zjnt (x0 x3:DV) (h:List AObj):St:=⟨[x0,.junk,.junk,x3]++js 59,h⟩
def a79:AFn where
 code:=(.seq (.region false [⟨none,(some 2),.mov (.k (.bool false))⟩])
 (.seq (.seq (.region false [⟨none,(some 5),.mov (.t 0)⟩,
  ⟨none,(some 6),.bin .eql (.t 5) (.k (.str []))⟩,
  ⟨none,(some 7),.mov (.t 6)⟩,
  ⟨(some (7,false)),(some 8),.mov (.t 0)⟩,
  ⟨(some (7,false)),(some 9),.lenStr (.t 8)⟩,
  ⟨(some (7,false)),(some 10),.bin .gtr (.t 9) (.k (.int .i64 64))⟩,
  ⟨none,(some 11),.pick (.t 7) (.k (.bool true)) (.t 10)⟩,
  ⟨none,(some 12),.mov (.t 11)⟩,
  ⟨(some (12,false)),(some 13),.mov (.t 0)⟩,
  ⟨(some (12,false)),(some 14),.idxStr (.t 13) (.k (.int .i64 0))⟩,
  ⟨(some (12,false)),(some 15),.bin .eql (.t 14) (.k (w8 46#8))⟩,
  ⟨none,(some 16),.pick (.t 12) (.k (.bool true)) (.t 15)⟩,
  ⟨none,(some 17),.mov (.t 16)⟩,
  ⟨(some (17,false)),(some 18),.mov (.t 0)⟩,
  ⟨(some (17,false)),(some 19),.idxStr (.t 18) (.k (.int .i64 0))⟩,
  ⟨(some (17,false)),(some 20),.bin .eql (.t 19) (.k (w8 95#8))⟩,
  ⟨none,(some 21),.pick (.t 17) (.k (.bool true)) (.t 20)⟩,
  ⟨none,(some 22),.mov (.t 21)⟩,
  ⟨(some (22,false)),(some 23),.mov (.t 0)⟩,
  ⟨(some (22,false)),(some 24),.idxStr (.t 23) (.k (.int .i64 0))⟩,
  ⟨(some (22,false)),(some 25),.bin .eql (.t 24) (.k (w8 45#8))⟩,
  ⟨none,(some 26),.pick (.t 22) (.k (.bool true)) (.t 25)⟩])
 (.cond (.t 26) (.seq (.region false [⟨none,(some 2),.mov (.k (.bool false))⟩])
 .ret)
 .skip))
 (.seq (.seq (.region false [⟨none,(some 3),.mov (.k (.int .i64 0))⟩])
 (.block 0 (.loop ze3w)))
 (.seq (.region false [⟨none,(some 2),.mov (.k (.bool true))⟩])
 .ret))))
 ntmps:=63
 res:=[.tmp 2]
theorem zaq4:zsjc P Tryz.f79=some a79:=by kernel_rfl
def a80:AFn where
 code:=(.seq (.region false [⟨none,(some 2),.mov (.k (.bool false))⟩])
 (.seq (.region false [⟨none,(some 3),.mov (.t 0)⟩,
  ⟨none,(some 4),.bin .geq (.t 3) (.k (.int .i64 0))⟩,
  ⟨none,(some 5),.mov (.t 4)⟩,
  ⟨(some (5,true)),(some 6),.mov (.t 0)⟩,
  ⟨(some (5,true)),(some 7),.bin .leq (.t 6) (.k (.int .i64 1099511627776))⟩,
  ⟨none,(some 8),.pick (.t 5) (.t 7) (.k (.bool false))⟩,
  ⟨none,(some 2),.mov (.t 8)⟩])
 .ret))
 ntmps:=9
 res:=[.tmp 2]
theorem zpfu:zsjc P Tryz.f80=some a80:=by kernel_rfl
def zcng:ACode :=
 (.seq (.seq (.region false [⟨none,(some 6),.mov (.t 5)⟩,
  ⟨none,(some 7),.mov (.t 0)⟩,
  ⟨none,(some 8),.len (.t 7)⟩,
  ⟨none,(some 9),.bin .lss (.t 6) (.t 8)⟩])
 (.cond (.t 9) .skip
 (.exit 0)))
 (.seq (.block 1 (.seq (.region false [⟨none,(some 12),.mov (.t 0)⟩,
  ⟨none,(some 13),.mov (.t 5)⟩,
  ⟨none,(some 14),.idxS 1 (.t 12) (.t 13)⟩,
  ⟨none,(some 15),.load 1 false (.t 14)⟩,
  ⟨none,(some 16),.mov (.t 1)⟩,
  ⟨none,(some 17),.bin .eql (.t 15) (.t 16)⟩])
 (.cond (.t 17) (.seq (.region false [⟨none,(some 4),.mov (.k (.bool true))⟩])
 .ret)
 .skip)))
 (.region false [⟨none,(some 10),.mov (.t 5)⟩,
  ⟨none,(some 11),.bin .add (.t 10) (.k (.int .i64 1))⟩,
  ⟨none,(some 5),.mov (.t 11)⟩])))
def zyf7 (x0 x1 x5:DV) (h:List AObj):St:=⟨[x0,x1,.junk,.junk,.junk,x5]++js 12,h⟩
def a118:AFn where
 code:=(.seq (.region false [⟨none,(some 4),.mov (.k (.bool false))⟩])
 (.seq (.seq (.region false [⟨none,(some 5),.mov (.k (.int .i64 0))⟩])
 (.block 0 (.loop zcng)))
 (.seq (.region false [⟨none,(some 4),.mov (.k (.bool false))⟩])
 .ret)))
 ntmps:=18
 res:=[.tmp 4]
theorem zasg:zsjc P Tryz.f118=some a118:=by kernel_rfl
def z0mi:ACode :=
 (.seq (.seq (.region false [⟨none,(some 11),.mov (.t 6)⟩,
  ⟨none,(some 12),.mov (.t 0)⟩,
  ⟨none,(some 13),.len (.t 12)⟩,
  ⟨none,(some 14),.bin .lss (.t 11) (.t 13)⟩,
  ⟨none,(some 15),.mov (.t 14)⟩,
  ⟨(some (15,true)),(some 16),.mov (.t 0)⟩,
  ⟨(some (15,true)),(some 17),.mov (.t 6)⟩,
  ⟨(some (15,true)),(some 18),.idxS 1 (.t 16) (.t 17)⟩,
  ⟨(some (15,true)),(some 19),.load 1 false (.t 18)⟩,
  ⟨(some (15,true)),(some 20),.mov (.t 1)⟩,
  ⟨(some (15,true)),(some 21),.bin .lss (.t 19) (.t 20)⟩,
  ⟨none,(some 22),.pick (.t 15) (.t 21) (.k (.bool false))⟩])
 (.cond (.t 22) .skip
 (.exit 0)))
 (.block 1 (.seq (.region false [⟨none,(some 23),.mov (.t 5)⟩,
  ⟨none,(some 24),.mov (.t 0)⟩,
  ⟨none,(some 25),.mov (.t 6)⟩,
  ⟨none,(some 26),.idxS 1 (.t 24) (.t 25)⟩,
  ⟨none,(some 27),.load 1 false (.t 26)⟩,
  ⟨none,(some 28),.bsl 1 1 [(.str [])] [(0,1,(.t 27))]⟩,
  ⟨none,(some 29),.app 1 16 (.t 23) (.t 28)⟩,
  ⟨none,(some 5),.mov (.t 29)⟩])
 (.region false [⟨none,(some 30),.mov (.t 6)⟩,
  ⟨none,(some 31),.bin .add (.t 30) (.k (.int .i64 1))⟩,
  ⟨none,(some 6),.mov (.t 31)⟩]))))
def zgik (x0 x1 x5 x6:DV) (h:List AObj):St:=⟨[x0,x1,.junk,.junk,.junk,x5,x6]++js 33,h⟩
def a136:AFn where
 code:=(.seq (.region false [⟨none,(some 4),.mov (.k .nils)⟩])
 (.seq (.seq (.region false [⟨none,(some 7),.mov (.t 0)⟩,
  ⟨none,(some 8),.mov (.t 1)⟩,
  ⟨none,(some 9),.call (.k (.fn (.func 118) [] [])) [(.t 7),(.t 8)]⟩])
 (.cond (.t 9) (.seq (.region false [⟨none,(some 10),.mov (.t 0)⟩,
  ⟨none,(some 4),.mov (.t 10)⟩])
 .ret)
 .skip))
 (.seq (.region false [⟨none,(some 5),.mov (.k .nils)⟩])
 (.seq (.region false [⟨none,(some 6),.mov (.k (.int .i64 0))⟩])
 (.seq (.block 0 (.loop z0mi))
 (.seq (.region true [⟨none,(some 32),.mov (.t 5)⟩,
  ⟨none,(some 33),.mov (.t 1)⟩,
  ⟨none,(some 34),.bsl 1 1 [(.str [])] [(0,1,(.t 33))]⟩,
  ⟨none,(some 35),.app 1 16 (.t 32) (.t 34)⟩,
  ⟨none,(some 36),.mov (.t 0)⟩,
  ⟨none,(some 37),.mov (.t 6)⟩,
  ⟨none,(some 38),.slcS 1 (.t 36) (some (.t 37)) none none⟩,
  ⟨none,(some 39),.app 1 16 (.t 35) (.t 38)⟩,
  ⟨none,(some 4),.mov (.t 39)⟩,
  ⟨none,none,.apart (.t 36) (.t 35)⟩])
 .ret))))))
 ntmps:=40
 res:=[.tmp 4]
theorem zr0w:zsjc P Tryz.f136=some a136:=by kernel_rfl
def a32:AFn where
 code:=(.seq (.region false [⟨none,(some 2),.box (.t 0)⟩,
  ⟨none,(some 3),.box (.t 1)⟩,
  ⟨none,(some 4),.mov (.k (.bool false))⟩])
 (.seq (.seq (.region false [⟨none,(some 5),.fld 0 (.t 2)⟩,
  ⟨none,(some 6),.load 32 true (.t 5)⟩,
  ⟨none,(some 7),.fld 0 (.t 3)⟩,
  ⟨none,(some 8),.load 32 true (.t 7)⟩,
  ⟨none,(some 9),.eqa true [(32,0)] (.t 6) (.t 8)⟩])
 (.cond (.t 9) (.seq (.region false [⟨none,(some 10),.fld 0 (.t 2)⟩,
  ⟨none,(some 11),.load 32 true (.t 10)⟩,
  ⟨none,(some 12),.fld 0 (.t 3)⟩,
  ⟨none,(some 13),.load 32 true (.t 12)⟩,
  ⟨none,(some 14),.call (.k (.fn (.func 59) [] [])) [(.t 11),(.t 13)]⟩,
  ⟨none,(some 4),.mov (.t 14)⟩])
 .ret)
 .skip))
 (.seq (.seq (.region false [⟨none,(some 15),.fld 32 (.t 2)⟩,
  ⟨none,(some 16),.load 1 false (.t 15)⟩,
  ⟨none,(some 17),.fld 32 (.t 3)⟩,
  ⟨none,(some 18),.load 1 false (.t 17)⟩,
  ⟨none,(some 19),.bin .neq (.t 16) (.t 18)⟩])
 (.cond (.t 19) (.seq (.region false [⟨none,(some 20),.fld 32 (.t 2)⟩,
  ⟨none,(some 21),.load 1 false (.t 20)⟩,
  ⟨none,(some 22),.fld 32 (.t 3)⟩,
  ⟨none,(some 23),.load 1 false (.t 22)⟩,
  ⟨none,(some 24),.bin .lss (.t 21) (.t 23)⟩,
  ⟨none,(some 4),.mov (.t 24)⟩])
 .ret)
 .skip))
 (.seq (.region false [⟨none,(some 25),.fld 33 (.t 2)⟩,
  ⟨none,(some 26),.load 1 false (.t 25)⟩,
  ⟨none,(some 27),.fld 33 (.t 3)⟩,
  ⟨none,(some 28),.load 1 false (.t 27)⟩,
  ⟨none,(some 29),.bin .lss (.t 26) (.t 28)⟩,
  ⟨none,(some 4),.mov (.t 29)⟩])
 .ret))))
 ntmps:=30
 res:=[.tmp 4]
theorem zvrg:zsjc P Tryz.f32=some a32:=by kernel_rfl
def a91:AFn where
 code:=(.seq (.region false [⟨none,(some 1),.box (.t 0)⟩,
  ⟨none,(some 2),.mov (.k (.bool false))⟩])
 (.seq (.region false [⟨none,(some 3),.fld 36 (.t 1)⟩,
  ⟨none,(some 4),.fld 0 (.t 3)⟩,
  ⟨none,(some 5),.load 1 false (.t 4)⟩,
  ⟨none,(some 6),.bin .eql (.t 5) (.k (.int .i64 3))⟩,
  ⟨none,(some 7),.mov (.t 6)⟩,
  ⟨(some (7,false)),(some 8),.fld 36 (.t 1)⟩,
  ⟨(some (7,false)),(some 9),.fld 0 (.t 8)⟩,
  ⟨(some (7,false)),(some 10),.load 1 false (.t 9)⟩,
  ⟨(some (7,false)),(some 11),.bin .eql (.t 10) (.k (.int .i64 4))⟩,
  ⟨none,(some 12),.pick (.t 7) (.k (.bool true)) (.t 11)⟩,
  ⟨none,(some 2),.mov (.t 12)⟩])
 .ret))
 ntmps:=13
 res:=[.tmp 2]
theorem z07s:zsjc P Tryz.f91=some a91:=by kernel_rfl
def a43:AFn where
 code:=(.seq (.region false [⟨none,(some 1),.box (.t 0)⟩,
  ⟨none,(some 2),.mov (.k (.bool false))⟩])
 (.seq (.region false [⟨none,(some 4),.fld 1 (.t 1)⟩,
  ⟨none,(some 5),.load 1 false (.t 4)⟩,
  ⟨none,(some 6),.bin .geq (.t 5) (.k (.int .i64 1))⟩,
  ⟨none,(some 7),.mov (.t 6)⟩,
  ⟨(some (7,true)),(some 8),.fld 1 (.t 1)⟩,
  ⟨(some (7,true)),(some 9),.load 1 false (.t 8)⟩,
  ⟨(some (7,true)),(some 10),.bin .leq (.t 9) (.k (.int .i64 32))⟩,
  ⟨none,(some 11),.pick (.t 7) (.t 10) (.k (.bool false))⟩,
  ⟨none,(some 3),.mov (.t 11)⟩])
 (.seq (.seq (.region false [⟨none,(some 12),.fld 0 (.t 1)⟩,
  ⟨none,(some 13),.load 1 false (.t 12)⟩])
 (.block 0 (.seq (.seq (.region false [⟨none,(some 15),.bin .eql (.t 13) (.k (.int .i64 1))⟩,
  ⟨none,(some 14),.mov (.t 15)⟩])
 (.cond (.t 14) .skip
 (.seq (.region false [⟨none,(some 16),.bin .eql (.t 13) (.k (.int .i64 3))⟩,
  ⟨none,(some 14),.mov (.t 16)⟩])
 (.cond (.t 14) .skip
 (.region false [⟨none,(some 17),.bin .eql (.t 13) (.k (.int .i64 5))⟩,
  ⟨none,(some 14),.mov (.t 17)⟩])))))
 (.cond (.t 14) (.seq (.region false [⟨none,(some 18),.mov (.t 3)⟩,
  ⟨none,(some 19),.mov (.t 18)⟩,
  ⟨(some (19,true)),(some 20),.fld 2 (.t 1)⟩,
  ⟨(some (19,true)),(some 21),.load 1 false (.t 20)⟩,
  ⟨(some (19,true)),(some 22),.bin .eql (.t 21) (.k (.int .i64 0))⟩,
  ⟨none,(some 23),.pick (.t 19) (.t 22) (.k (.bool false))⟩,
  ⟨none,(some 24),.mov (.t 23)⟩,
  ⟨(some (24,true)),(some 25),.fld 3 (.t 1)⟩,
  ⟨(some (24,true)),(some 26),.load 1 false (.t 25)⟩,
  ⟨(some (24,true)),(some 27),.bin .eql (.t 26) (.k (.str []))⟩,
  ⟨none,(some 28),.pick (.t 24) (.t 27) (.k (.bool false))⟩,
  ⟨none,(some 2),.mov (.t 28)⟩])
 .ret)
 (.seq (.region false [⟨none,(some 30),.bin .eql (.t 13) (.k (.int .i64 4))⟩,
  ⟨none,(some 29),.mov (.t 30)⟩])
 (.cond (.t 29) (.seq (.region false [⟨none,(some 31),.mov (.t 3)⟩,
  ⟨none,(some 32),.mov (.t 31)⟩,
  ⟨(some (32,true)),(some 33),.fld 2 (.t 1)⟩,
  ⟨(some (32,true)),(some 34),.load 1 false (.t 33)⟩,
  ⟨(some (32,true)),(some 35),.bin .geq (.t 34) (.k (.int .i64 0))⟩,
  ⟨none,(some 36),.pick (.t 32) (.t 35) (.k (.bool false))⟩,
  ⟨none,(some 37),.mov (.t 36)⟩,
  ⟨(some (37,true)),(some 38),.fld 2 (.t 1)⟩,
  ⟨(some (37,true)),(some 39),.load 1 false (.t 38)⟩,
  ⟨(some (37,true)),(some 40),.bin .leq (.t 39) (.k (.int .i64 32))⟩,
  ⟨none,(some 41),.pick (.t 37) (.t 40) (.k (.bool false))⟩,
  ⟨none,(some 42),.mov (.t 41)⟩,
  ⟨(some (42,true)),(some 43),.fld 3 (.t 1)⟩,
  ⟨(some (42,true)),(some 44),.load 1 false (.t 43)⟩,
  ⟨(some (42,true)),(some 45),.bin .eql (.t 44) (.k (.str []))⟩,
  ⟨none,(some 46),.pick (.t 42) (.t 45) (.k (.bool false))⟩,
  ⟨none,(some 2),.mov (.t 46)⟩])
 .ret)
 (.seq (.region false [⟨none,(some 48),.bin .eql (.t 13) (.k (.int .i64 2))⟩,
  ⟨none,(some 47),.mov (.t 48)⟩])
 (.cond (.t 47) (.seq (.region false [⟨none,(some 49),.fld 1 (.t 1)⟩,
  ⟨none,(some 50),.load 1 false (.t 49)⟩,
  ⟨none,(some 51),.bin .eql (.t 50) (.k (.int .i64 0))⟩,
  ⟨none,(some 52),.mov (.t 51)⟩,
  ⟨(some (52,true)),(some 53),.fld 2 (.t 1)⟩,
  ⟨(some (52,true)),(some 54),.load 1 false (.t 53)⟩,
  ⟨(some (52,true)),(some 55),.bin .eql (.t 54) (.k (.int .i64 0))⟩,
  ⟨none,(some 56),.pick (.t 52) (.t 55) (.k (.bool false))⟩,
  ⟨none,(some 57),.mov (.t 56)⟩,
  ⟨(some (57,true)),(some 58),.fld 3 (.t 1)⟩,
  ⟨(some (57,true)),(some 59),.load 1 false (.t 58)⟩,
  ⟨(some (57,true)),(some 60),.call (.k (.fn (.func 79) [] [])) [(.t 59)]⟩,
  ⟨none,(some 61),.pick (.t 57) (.t 60) (.k (.bool false))⟩,
  ⟨none,(some 2),.mov (.t 61)⟩])
 .ret)
 (.seq (.region false [⟨none,(some 63),.bin .eql (.t 13) (.k (.int .i64 6))⟩,
  ⟨none,(some 62),.mov (.t 63)⟩])
 (.cond (.t 62) (.seq (.region false [⟨none,(some 64),.fld 1 (.t 1)⟩,
  ⟨none,(some 65),.load 1 false (.t 64)⟩,
  ⟨none,(some 66),.bin .geq (.t 65) (.k (.int .i64 1))⟩,
  ⟨none,(some 67),.mov (.t 66)⟩,
  ⟨(some (67,true)),(some 68),.fld 1 (.t 1)⟩,
  ⟨(some (67,true)),(some 69),.load 1 false (.t 68)⟩,
  ⟨(some (67,true)),(some 70),.bin .leq (.t 69) (.k (.int .i64 10))⟩,
  ⟨none,(some 71),.pick (.t 67) (.t 70) (.k (.bool false))⟩,
  ⟨none,(some 72),.mov (.t 71)⟩,
  ⟨(some (72,true)),(some 73),.fld 2 (.t 1)⟩,
  ⟨(some (72,true)),(some 74),.load 1 false (.t 73)⟩,
  ⟨(some (72,true)),(some 75),.bin .eql (.t 74) (.k (.int .i64 0))⟩,
  ⟨none,(some 76),.pick (.t 72) (.t 75) (.k (.bool false))⟩,
  ⟨none,(some 77),.mov (.t 76)⟩,
  ⟨(some (77,true)),(some 78),.fld 3 (.t 1)⟩,
  ⟨(some (77,true)),(some 79),.load 1 false (.t 78)⟩,
  ⟨(some (77,true)),(some 80),.bin .eql (.t 79) (.k (.str []))⟩,
  ⟨none,(some 81),.pick (.t 77) (.t 80) (.k (.bool false))⟩,
  ⟨none,(some 2),.mov (.t 81)⟩])
 .ret)
 (.seq (.region false [⟨none,(some 83),.bin .eql (.t 13) (.k (.int .i64 7))⟩,
  ⟨none,(some 82),.mov (.t 83)⟩])
 (.cond (.t 82) (.seq (.region false [⟨none,(some 84),.fld 1 (.t 1)⟩,
  ⟨none,(some 85),.load 1 false (.t 84)⟩,
  ⟨none,(some 86),.call (.k (.fn (.func 80) [] [])) [(.t 85)]⟩,
  ⟨none,(some 87),.mov (.t 86)⟩,
  ⟨(some (87,true)),(some 88),.fld 2 (.t 1)⟩,
  ⟨(some (87,true)),(some 89),.load 1 false (.t 88)⟩,
  ⟨(some (87,true)),(some 90),.bin .eql (.t 89) (.k (.int .i64 0))⟩,
  ⟨none,(some 91),.pick (.t 87) (.t 90) (.k (.bool false))⟩,
  ⟨none,(some 92),.mov (.t 91)⟩,
  ⟨(some (92,true)),(some 93),.fld 3 (.t 1)⟩,
  ⟨(some (92,true)),(some 94),.load 1 false (.t 93)⟩,
  ⟨(some (92,true)),(some 95),.bin .eql (.t 94) (.k (.str []))⟩,
  ⟨none,(some 96),.pick (.t 92) (.t 95) (.k (.bool false))⟩,
  ⟨none,(some 2),.mov (.t 96)⟩])
 .ret)
 (.seq (.region false [⟨none,(some 98),.bin .eql (.t 13) (.k (.int .i64 8))⟩,
  ⟨none,(some 97),.mov (.t 98)⟩])
 (.cond (.t 97) (.seq (.region false [⟨none,(some 99),.fld 1 (.t 1)⟩,
  ⟨none,(some 100),.load 1 false (.t 99)⟩,
  ⟨none,(some 101),.bin .eql (.t 100) (.k (.int .i64 0))⟩,
  ⟨none,(some 102),.mov (.t 101)⟩,
  ⟨(some (102,true)),(some 103),.fld 2 (.t 1)⟩,
  ⟨(some (102,true)),(some 104),.load 1 false (.t 103)⟩,
  ⟨(some (102,true)),(some 105),.bin .eql (.t 104) (.k (.int .i64 0))⟩,
  ⟨none,(some 106),.pick (.t 102) (.t 105) (.k (.bool false))⟩,
  ⟨none,(some 107),.mov (.t 106)⟩,
  ⟨(some (107,true)),(some 108),.fld 3 (.t 1)⟩,
  ⟨(some (107,true)),(some 109),.load 1 false (.t 108)⟩,
  ⟨(some (107,true)),(some 110),.bin .eql (.t 109) (.k (.str []))⟩,
  ⟨none,(some 111),.pick (.t 107) (.t 110) (.k (.bool false))⟩,
  ⟨none,(some 2),.mov (.t 111)⟩])
 .ret)
 .skip))))))))))))))
 (.seq (.region false [⟨none,(some 2),.mov (.k (.bool false))⟩])
 .ret))))
 ntmps:=112
 res:=[.tmp 2]
theorem zbv8:zsjc P Tryz.f43=some a43:=by kernel_rfl
def a31:AFn where
 code:=(.seq (.region false [⟨none,(some 1),.box (.t 0)⟩,
  ⟨none,(some 2),.alloc [(w8 0#8),(w8 0#8),(w8 0#8),(w8 0#8),(w8 0#8),(w8 0#8),(w8 0#8),(w8 0#8),(w8 0#8),(w8 0#8),(w8 0#8),(w8 0#8),(w8 0#8),(w8 0#8),(w8 0#8),(w8 0#8),(w8 0#8),(w8 0#8),(w8 0#8),(w8 0#8),(w8 0#8),(w8 0#8),(w8 0#8),(w8 0#8),(w8 0#8),(w8 0#8),(w8 0#8),(w8 0#8),(w8 0#8),(w8 0#8),(w8 0#8),(w8 0#8),(.str []),(.str [])]⟩])
 (.seq (.region false [⟨none,(some 3),.fld 2 (.t 1)⟩,
  ⟨none,(some 4),.load 32 true (.t 3)⟩,
  ⟨none,(some 5),.fld 34 (.t 1)⟩,
  ⟨none,(some 6),.load 1 false (.t 5)⟩,
  ⟨none,(some 7),.fld 35 (.t 1)⟩,
  ⟨none,(some 8),.load 1 false (.t 7)⟩,
  ⟨none,(some 9),.build [(w8 0#8),(w8 0#8),(w8 0#8),(w8 0#8),(w8 0#8),(w8 0#8),(w8 0#8),(w8 0#8),(w8 0#8),(w8 0#8),(w8 0#8),(w8 0#8),(w8 0#8),(w8 0#8),(w8 0#8),(w8 0#8),(w8 0#8),(w8 0#8),(w8 0#8),(w8 0#8),(w8 0#8),(w8 0#8),(w8 0#8),(w8 0#8),(w8 0#8),(w8 0#8),(w8 0#8),(w8 0#8),(w8 0#8),(w8 0#8),(w8 0#8),(w8 0#8),(.str []),(.str [])] [(0,32,(.t 4)),(32,1,(.t 6)),(33,1,(.t 8))]⟩,
  ⟨none,none,.store 34 (.t 2) (.t 9)⟩])
 .ret))
 ntmps:=10
 res:=[.cell 2 34 true]
theorem zjer:zsjc P Tryz.f31=some a31:=by kernel_rfl
def zujz:ACode :=
 (.seq (.seq (.region false [⟨none,(some 31),.mov (.t 8)⟩,
  ⟨none,(some 32),.mov (.t 3)⟩,
  ⟨none,(some 33),.len (.t 32)⟩,
  ⟨none,(some 34),.bin .lss (.t 31) (.t 33)⟩])
 (.cond (.t 34) .skip
 (.exit 2)))
 (.seq (.block 3 (.region true [⟨none,(some 37),.mov (.t 7)⟩,
  ⟨none,(some 38),.mov (.t 37)⟩,
  ⟨(some (38,false)),(some 39),.mov (.t 3)⟩,
  ⟨(some (38,false)),(some 40),.mov (.t 8)⟩,
  ⟨(some (38,false)),(some 41),.idxS 34 (.t 39) (.t 40)⟩,
  ⟨(some (38,false)),(some 42),.load 34 true (.t 41)⟩,
  ⟨(some (38,false)),(some 43),.load 34 true (.t 5)⟩,
  ⟨(some (38,false)),(some 44),.eqa false [(32,0),(2,1)] (.t 42) (.t 43)⟩,
  ⟨none,(some 45),.pick (.t 38) (.k (.bool true)) (.t 44)⟩,
  ⟨none,(some 7),.mov (.t 45)⟩]))
 (.region false [⟨none,(some 35),.mov (.t 8)⟩,
  ⟨none,(some 36),.bin .add (.t 35) (.k (.int .i64 1))⟩,
  ⟨none,(some 8),.mov (.t 36)⟩])))
def zqpn (x1 x3 x4 x5 x6 x7 x8:DV) (h:List AObj):St:=⟨[.junk,x1,.junk,x3,x4,x5,x6,x7,x8]++js 69,h⟩
def zfed:ACode :=
 (.seq (.seq (.region true [⟨none,(some 46),.mov (.t 6)⟩,
  ⟨none,(some 47),.bin .gtr (.t 46) (.k (.int .i64 0))⟩,
  ⟨none,(some 48),.mov (.t 47)⟩,
  ⟨(some (48,true)),(some 49),.load 34 true (.t 5)⟩,
  ⟨(some (48,true)),(some 50),.mov (.t 3)⟩,
  ⟨(some (48,true)),(some 51),.mov (.t 6)⟩,
  ⟨(some (48,true)),(some 52),.bin .sub (.t 51) (.k (.int .i64 1))⟩,
  ⟨(some (48,true)),(some 53),.idxS 34 (.t 50) (.t 52)⟩,
  ⟨(some (48,true)),(some 54),.load 34 true (.t 53)⟩,
  ⟨(some (48,true)),(some 55),.callN (.k (.fn (.func 32) [] [])) [(.t 49),(.t 54)]⟩,
  ⟨none,(some 56),.pick (.t 48) (.t 55) (.k (.bool false))⟩])
 (.cond (.t 56) .skip
 (.exit 4)))
 (.block 5 (.region false [⟨none,(some 57),.mov (.t 6)⟩,
  ⟨none,(some 58),.bin .sub (.t 57) (.k (.int .i64 1))⟩,
  ⟨none,(some 6),.mov (.t 58)⟩])))
def zse9 (x1 x3 x4 x5 x6 x7:DV) (h:List AObj):St:=⟨[.junk,x1,.junk,x3,x4,x5,x6,x7]++js 70,h⟩
def zywk:ACode :=
 (.seq (.seq (.region false [⟨none,(some 9),.mov (.t 4)⟩,
  ⟨none,(some 10),.fld 33 (.t 1)⟩,
  ⟨none,(some 11),.load 1 false (.t 10)⟩,
  ⟨none,(some 12),.len (.t 11)⟩,
  ⟨none,(some 13),.bin .lss (.t 9) (.t 12)⟩])
 (.cond (.t 13) .skip
 (.exit 0)))
 (.seq (.block 1 (.seq (.seq (.region false [⟨none,(some 16),.fld 33 (.t 1)⟩,
  ⟨none,(some 17),.load 1 false (.t 16)⟩,
  ⟨none,(some 18),.mov (.t 4)⟩,
  ⟨none,(some 19),.idxS 71 (.t 17) (.t 18)⟩,
  ⟨none,(some 20),.fld 0 (.t 19)⟩,
  ⟨none,(some 21),.load 1 false (.t 20)⟩,
  ⟨none,(some 22),.bin .neq (.t 21) (.k (.int .i64 1))⟩])
 (.cond (.t 22) (.exit 1)
 .skip))
 (.seq (.region false [⟨none,(some 23),.fld 33 (.t 1)⟩,
  ⟨none,(some 24),.load 1 false (.t 23)⟩,
  ⟨none,(some 25),.mov (.t 4)⟩,
  ⟨none,(some 26),.idxS 71 (.t 24) (.t 25)⟩,
  ⟨none,(some 27),.load 71 true (.t 26)⟩,
  ⟨none,(some 28),.call (.k (.fn (.func 31) [] [])) [(.t 27)]⟩,
  ⟨none,(some 29),.mov (.t 3)⟩,
  ⟨none,(some 30),.len (.t 29)⟩,
  ⟨none,(some 5),.alloc [(w8 0#8),(w8 0#8),(w8 0#8),(w8 0#8),(w8 0#8),(w8 0#8),(w8 0#8),(w8 0#8),(w8 0#8),(w8 0#8),(w8 0#8),(w8 0#8),(w8 0#8),(w8 0#8),(w8 0#8),(w8 0#8),(w8 0#8),(w8 0#8),(w8 0#8),(w8 0#8),(w8 0#8),(w8 0#8),(w8 0#8),(w8 0#8),(w8 0#8),(w8 0#8),(w8 0#8),(w8 0#8),(w8 0#8),(w8 0#8),(w8 0#8),(w8 0#8),(.str []),(.str [])]⟩,
  ⟨none,none,.store 34 (.t 5) (.t 28)⟩,
  ⟨none,(some 6),.mov (.t 30)⟩,
  ⟨none,(some 7),.mov (.k (.bool false))⟩])
 (.seq (.seq (.region false [⟨none,(some 8),.mov (.k (.int .i64 0))⟩])
 (.block 2 (.loop zujz)))
 (.seq (.block 4 (.loop zfed))
 (.seq (.region false [⟨none,(some 59),.mov (.t 7)⟩,
  ⟨none,(some 60),.un .not (.t 59)⟩])
 (.cond (.t 60) (.region true [⟨none,(some 61),.mov (.t 3)⟩,
  ⟨none,(some 62),.mov (.t 6)⟩,
  ⟨none,(some 63),.slcS 34 (.t 61) none (some (.t 62)) none⟩,
  ⟨none,(some 64),.app 34 64 (.k .nils) (.t 63)⟩,
  ⟨none,(some 65),.load 34 true (.t 5)⟩,
  ⟨none,(some 66),.bsl 34 1 [(w8 0#8),(w8 0#8),(w8 0#8),(w8 0#8),(w8 0#8),(w8 0#8),(w8 0#8),(w8 0#8),(w8 0#8),(w8 0#8),(w8 0#8),(w8 0#8),(w8 0#8),(w8 0#8),(w8 0#8),(w8 0#8),(w8 0#8),(w8 0#8),(w8 0#8),(w8 0#8),(w8 0#8),(w8 0#8),(w8 0#8),(w8 0#8),(w8 0#8),(w8 0#8),(w8 0#8),(w8 0#8),(w8 0#8),(w8 0#8),(w8 0#8),(w8 0#8),(.str []),(.str [])] [(0,34,(.t 65))]⟩,
  ⟨none,(some 67),.app 34 64 (.t 64) (.t 66)⟩,
  ⟨none,(some 68),.mov (.t 3)⟩,
  ⟨none,(some 69),.mov (.t 6)⟩,
  ⟨none,(some 70),.slcS 34 (.t 68) (some (.t 69)) none none⟩,
  ⟨none,(some 71),.app 34 64 (.t 67) (.t 70)⟩,
  ⟨none,(some 3),.mov (.t 71)⟩,
  ⟨none,none,.apart (.t 5) (.t 64)⟩,
  ⟨none,none,.apart (.t 68) (.t 64)⟩,
  ⟨none,none,.apart (.t 68) (.t 67)⟩])
 .skip)))))))
 (.region false [⟨none,(some 14),.mov (.t 4)⟩,
  ⟨none,(some 15),.bin .add (.t 14) (.k (.int .i64 1))⟩,
  ⟨none,(some 4),.mov (.t 15)⟩])))
def z3g7 (x1 x3 x4:DV) (h:List AObj):St:=⟨[.junk,x1,.junk,x3,x4]++js 73,h⟩
def a15:AFn where
 code:=(.seq (.region false [⟨none,(some 1),.box (.t 0)⟩,
  ⟨none,(some 2),.mov (.k .nils)⟩])
 (.seq (.region false [⟨none,(some 3),.mov (.k .nils)⟩])
 (.seq (.seq (.region false [⟨none,(some 4),.mov (.k (.int .i64 0))⟩])
 (.block 0 (.loop zywk)))
 (.seq (.seq (.region false [⟨none,(some 72),.mov (.t 3)⟩,
  ⟨none,(some 73),.len (.t 72)⟩,
  ⟨none,(some 74),.bin .eql (.t 73) (.k (.int .i64 0))⟩])
 (.cond (.t 74) (.region false [⟨none,(some 75),.build [(w8 0#8),(w8 0#8),(w8 0#8),(w8 0#8),(w8 0#8),(w8 0#8),(w8 0#8),(w8 0#8),(w8 0#8),(w8 0#8),(w8 0#8),(w8 0#8),(w8 0#8),(w8 0#8),(w8 0#8),(w8 0#8),(w8 0#8),(w8 0#8),(w8 0#8),(w8 0#8),(w8 0#8),(w8 0#8),(w8 0#8),(w8 0#8),(w8 0#8),(w8 0#8),(w8 0#8),(w8 0#8),(w8 0#8),(w8 0#8),(w8 0#8),(w8 0#8),(.str []),(.str [])] []⟩,
  ⟨none,(some 76),.bsl 34 1 [(w8 0#8),(w8 0#8),(w8 0#8),(w8 0#8),(w8 0#8),(w8 0#8),(w8 0#8),(w8 0#8),(w8 0#8),(w8 0#8),(w8 0#8),(w8 0#8),(w8 0#8),(w8 0#8),(w8 0#8),(w8 0#8),(w8 0#8),(w8 0#8),(w8 0#8),(w8 0#8),(w8 0#8),(w8 0#8),(w8 0#8),(w8 0#8),(w8 0#8),(w8 0#8),(w8 0#8),(w8 0#8),(w8 0#8),(w8 0#8),(w8 0#8),(w8 0#8),(.str []),(.str [])] [(0,34,(.t 75))]⟩,
  ⟨none,(some 3),.mov (.t 76)⟩])
 .skip))
 (.seq (.region false [⟨none,(some 77),.mov (.t 3)⟩,
  ⟨none,(some 2),.mov (.t 77)⟩])
 .ret)))))
 ntmps:=78
 res:=[.tmp 2]
theorem zz37:zsjc P Tryz.f15=some a15:=by kernel_rfl
def zbs4:ACode :=
 (.seq (.seq (.region false [⟨none,(some 5),.mov (.t 4)⟩,
  ⟨none,(some 6),.mov (.t 0)⟩,
  ⟨none,(some 7),.len (.t 6)⟩,
  ⟨none,(some 8),.bin .lss (.t 5) (.t 7)⟩])
 (.cond (.t 8) .skip
 (.exit 0)))
 (.seq (.block 1 (.region false [⟨none,(some 11),.mov (.t 3)⟩,
  ⟨none,(some 12),.mov (.t 0)⟩,
  ⟨none,(some 13),.mov (.t 4)⟩,
  ⟨none,(some 14),.idxS 71 (.t 12) (.t 13)⟩,
  ⟨none,(some 15),.fld 1 (.t 14)⟩,
  ⟨none,(some 16),.load 1 false (.t 15)⟩,
  ⟨none,(some 17),.call (.k (.fn (.func 136) [] [])) [(.t 11),(.t 16)]⟩,
  ⟨none,(some 3),.mov (.t 17)⟩]))
 (.region false [⟨none,(some 9),.mov (.t 4)⟩,
  ⟨none,(some 10),.bin .add (.t 9) (.k (.int .i64 1))⟩,
  ⟨none,(some 4),.mov (.t 10)⟩])))
def zg8g (x0 x3 x4:DV) (h:List AObj):St:=⟨[x0,.junk,.junk,x3,x4]++js 14,h⟩
def a115:AFn where
 code:=(.seq (.region false [⟨none,(some 2),.mov (.k .nils)⟩])
 (.seq (.region false [⟨none,(some 3),.mov (.k .nils)⟩])
 (.seq (.seq (.region false [⟨none,(some 4),.mov (.k (.int .i64 0))⟩])
 (.block 0 (.loop zbs4)))
 (.seq (.region false [⟨none,(some 18),.mov (.t 3)⟩,
  ⟨none,(some 2),.mov (.t 18)⟩])
 .ret))))
 ntmps:=19
 res:=[.tmp 2]
theorem zv17:zsjc P Tryz.f115=some a115:=by kernel_rfl
def zw44:ACode :=
 (.seq (.seq (.region false [⟨none,(some 6),.mov (.t 5)⟩,
  ⟨none,(some 7),.mov (.t 1)⟩,
  ⟨none,(some 8),.len (.t 7)⟩,
  ⟨none,(some 9),.bin .lss (.t 6) (.t 8)⟩])
 (.cond (.t 9) .skip
 (.exit 0)))
 (.seq (.block 1 (.region false [⟨none,(some 12),.mov (.t 0)⟩,
  ⟨none,(some 13),.mov (.t 1)⟩,
  ⟨none,(some 14),.mov (.t 5)⟩,
  ⟨none,(some 15),.idxS 32 (.t 13) (.t 14)⟩,
  ⟨none,(some 16),.load 32 true (.t 15)⟩,
  ⟨none,(some 17),.call (.k (.fn (.func 93) [] [])) [(.t 12),(.t 16)]⟩,
  ⟨none,(some 0),.mov (.t 17)⟩]))
 (.region false [⟨none,(some 10),.mov (.t 5)⟩,
  ⟨none,(some 11),.bin .add (.t 10) (.k (.int .i64 1))⟩,
  ⟨none,(some 5),.mov (.t 11)⟩])))
def z20v (x0 x1 x5:DV) (h:List AObj):St:=⟨[x0,x1,.junk,.junk,.junk,x5]++js 13,h⟩
def a86:AFn where
 code:=(.seq (.region false [⟨none,(some 4),.mov (.k .nils)⟩])
 (.seq (.seq (.region false [⟨none,(some 5),.mov (.k (.int .i64 0))⟩])
 (.block 0 (.loop zw44)))
 (.seq (.region false [⟨none,(some 18),.mov (.t 0)⟩,
  ⟨none,(some 4),.mov (.t 18)⟩])
 .ret)))
 ntmps:=19
 res:=[.tmp 4]
theorem z2i3:zsjc P Tryz.f86=some a86:=by kernel_rfl
def zcri:ACode :=
 (.seq (.seq (.region false [⟨none,(some 22),.mov (.t 8)⟩,
  ⟨none,(some 23),.mov (.t 0)⟩,
  ⟨none,(some 24),.len (.t 23)⟩,
  ⟨none,(some 25),.bin .lss (.t 22) (.t 24)⟩])
 (.cond (.t 25) .skip
 (.exit 2)))
 (.seq (.block 3 (.seq (.region true [⟨none,(some 28),.mov (.t 0)⟩,
  ⟨none,(some 29),.mov (.t 8)⟩,
  ⟨none,(some 30),.idxS 71 (.t 28) (.t 29)⟩,
  ⟨none,(some 31),.fld 1 (.t 30)⟩,
  ⟨none,(some 32),.load 1 false (.t 31)⟩,
  ⟨none,(some 33),.mov (.t 6)⟩,
  ⟨none,(some 34),.mov (.t 7)⟩,
  ⟨none,(some 35),.idxS 1 (.t 33) (.t 34)⟩,
  ⟨none,(some 36),.load 1 false (.t 35)⟩,
  ⟨none,(some 37),.bin .eql (.t 32) (.t 36)⟩])
 (.cond (.t 37) (.seq (.region false [⟨none,(some 38),.mov (.t 5)⟩,
  ⟨none,(some 39),.mov (.t 0)⟩,
  ⟨none,(some 40),.mov (.t 8)⟩,
  ⟨none,(some 41),.idxS 71 (.t 39) (.t 40)⟩,
  ⟨none,(some 42),.fld 70 (.t 41)⟩,
  ⟨none,(some 43),.load 1 false (.t 42)⟩,
  ⟨none,(some 44),.call (.k (.fn (.func 86) [] [])) [(.t 38),(.t 43)]⟩,
  ⟨none,(some 5),.mov (.t 44)⟩])
 (.exit 2))
 .skip)))
 (.region false [⟨none,(some 26),.mov (.t 8)⟩,
  ⟨none,(some 27),.bin .add (.t 26) (.k (.int .i64 1))⟩,
  ⟨none,(some 8),.mov (.t 27)⟩])))
def zmkv (x0 x1 x5 x6 x7 x8:DV) (h:List AObj):St:=⟨[x0,x1,.junk,.junk,.junk,x5,x6,x7,x8]++js 37,h⟩
def z04p:ACode :=
 (.seq (.seq (.region false [⟨none,(some 11),.mov (.t 7)⟩,
  ⟨none,(some 12),.mov (.t 6)⟩,
  ⟨none,(some 13),.len (.t 12)⟩,
  ⟨none,(some 14),.bin .lss (.t 11) (.t 13)⟩,
  ⟨none,(some 15),.mov (.t 14)⟩,
  ⟨(some (15,true)),(some 16),.mov (.t 7)⟩,
  ⟨(some (15,true)),(some 17),.mov (.t 1)⟩,
  ⟨(some (15,true)),(some 18),.bin .lss (.t 16) (.t 17)⟩,
  ⟨none,(some 19),.pick (.t 15) (.t 18) (.k (.bool false))⟩])
 (.cond (.t 19) .skip
 (.exit 0)))
 (.seq (.block 1 (.seq (.region false [⟨none,(some 8),.mov (.k (.int .i64 0))⟩])
 (.block 2 (.loop zcri))))
 (.region false [⟨none,(some 20),.mov (.t 7)⟩,
  ⟨none,(some 21),.bin .add (.t 20) (.k (.int .i64 1))⟩,
  ⟨none,(some 7),.mov (.t 21)⟩])))
def zabz (x0 x1 x5 x6 x7:DV) (h:List AObj):St:=⟨[x0,x1,.junk,.junk,.junk,x5,x6,x7]++js 38,h⟩
def a116:AFn where
 code:=(.seq (.region false [⟨none,(some 4),.mov (.k .nils)⟩])
 (.seq (.region false [⟨none,(some 5),.mov (.k .nils)⟩])
 (.seq (.region false [⟨none,(some 9),.mov (.t 0)⟩,
  ⟨none,(some 10),.call (.k (.fn (.func 115) [] [])) [(.t 9)]⟩,
  ⟨none,(some 6),.mov (.t 10)⟩])
 (.seq (.seq (.region false [⟨none,(some 7),.mov (.k (.int .i64 0))⟩])
 (.block 0 (.loop z04p)))
 (.seq (.region false [⟨none,(some 45),.mov (.t 5)⟩,
  ⟨none,(some 4),.mov (.t 45)⟩])
 .ret)))))
 ntmps:=46
 res:=[.tmp 4]
theorem z3rp:zsjc P Tryz.f116=some a116:=by kernel_rfl
def a82:AFn where
 code:=(.seq (.region false [⟨none,(some 4),.alloc [(.bool false),.nils,(.int .i64 0)]⟩])
 (.seq (.seq (.region false [⟨none,(some 6),.mov (.t 0)⟩,
  ⟨none,(some 7),.call (.k (.fn (.func 115) [] [])) [(.t 6)]⟩,
  ⟨none,(some 8),.len (.t 7)⟩,
  ⟨none,(some 5),.mov (.t 8)⟩])
 (.seq (.region false [⟨none,(some 9),.mov (.t 5)⟩,
  ⟨none,(some 10),.mov (.t 1)⟩,
  ⟨none,(some 11),.bin .lss (.t 9) (.t 10)⟩])
 (.cond (.t 11) (.seq (.region false [⟨none,(some 12),.mov (.t 1)⟩,
  ⟨none,(some 13),.mov (.t 5)⟩,
  ⟨none,(some 14),.bin .sub (.t 12) (.t 13)⟩,
  ⟨none,(some 15),.build [(.bool false),.nils,(.int .i64 0)] [(2,1,(.t 14))]⟩,
  ⟨none,none,.store 3 (.t 4) (.t 15)⟩])
 .ret)
 .skip)))
 (.seq (.region false [⟨none,(some 16),.mov (.t 0)⟩,
  ⟨none,(some 17),.mov (.t 1)⟩,
  ⟨none,(some 18),.call (.k (.fn (.func 116) [] [])) [(.t 16),(.t 17)]⟩,
  ⟨none,(some 19),.build [(.bool false),.nils,(.int .i64 0)] [(0,1,(.k (.bool true))),(1,1,(.t 18))]⟩,
  ⟨none,none,.store 3 (.t 4) (.t 19)⟩])
 .ret)))
 ntmps:=20
 res:=[.cell 4 3 true]
theorem zftu:zsjc P Tryz.f82=some a82:=by kernel_rfl
def a85:AFn where
 code:=(.seq (.region false [⟨none,(some 2),.alloc [(.bool false),.nils,(.int .i64 0)]⟩])
 (.seq (.seq (.region false [⟨none,(some 3),.mov (.t 0)⟩,
  ⟨none,(some 4),.len (.t 3)⟩,
  ⟨none,(some 5),.bin .eql (.t 4) (.k (.int .i64 0))⟩])
 (.cond (.t 5) (.seq (.region false [⟨none,(some 6),.build [(.bool false),.nils,(.int .i64 0)] [(2,1,(.k (.int .i64 1)))]⟩,
  ⟨none,none,.store 3 (.t 2) (.t 6)⟩])
 .ret)
 .skip))
 (.seq (.region false [⟨none,(some 7),.mov (.t 0)⟩,
  ⟨none,(some 8),.idxS 71 (.t 7) (.k (.int .i64 0))⟩,
  ⟨none,(some 9),.fld 70 (.t 8)⟩,
  ⟨none,(some 10),.load 1 false (.t 9)⟩,
  ⟨none,(some 11),.call (.k (.fn (.func 86) [] [])) [(.k .nils),(.t 10)]⟩,
  ⟨none,(some 12),.build [(.bool false),.nils,(.int .i64 0)] [(0,1,(.k (.bool true))),(1,1,(.t 11))]⟩,
  ⟨none,none,.store 3 (.t 2) (.t 12)⟩])
 .ret)))
 ntmps:=13
 res:=[.cell 2 3 true]
theorem zu0j:zsjc P Tryz.f85=some a85:=by kernel_rfl
def z9us:ACode :=
 (.seq (.seq (.region false [⟨none,(some 11),.mov (.t 8)⟩,
  ⟨none,(some 12),.fld 33 (.t 3)⟩,
  ⟨none,(some 13),.load 1 false (.t 12)⟩,
  ⟨none,(some 14),.len (.t 13)⟩,
  ⟨none,(some 15),.bin .lss (.t 11) (.t 14)⟩])
 (.cond (.t 15) .skip
 (.exit 0)))
 (.seq (.block 1 (.seq (.region false [⟨none,(some 18),.fld 33 (.t 3)⟩,
  ⟨none,(some 19),.load 1 false (.t 18)⟩,
  ⟨none,(some 20),.mov (.t 8)⟩,
  ⟨none,(some 21),.idxS 71 (.t 19) (.t 20)⟩,
  ⟨none,(some 22),.load 71 true (.t 21)⟩,
  ⟨none,(some 9),.alloc [(.int .i64 0),(.str []),(w8 0#8),(w8 0#8),(w8 0#8),(w8 0#8),(w8 0#8),(w8 0#8),(w8 0#8),(w8 0#8),(w8 0#8),(w8 0#8),(w8 0#8),(w8 0#8),(w8 0#8),(w8 0#8),(w8 0#8),(w8 0#8),(w8 0#8),(w8 0#8),(w8 0#8),(w8 0#8),(w8 0#8),(w8 0#8),(w8 0#8),(w8 0#8),(w8 0#8),(w8 0#8),(w8 0#8),(w8 0#8),(w8 0#8),(w8 0#8),(w8 0#8),(w8 0#8),(.str []),(.str []),(.int .i64 0),(.bool false),(w8 0#8),(w8 0#8),(w8 0#8),(w8 0#8),(w8 0#8),(w8 0#8),(w8 0#8),(w8 0#8),(w8 0#8),(w8 0#8),(w8 0#8),(w8 0#8),(w8 0#8),(w8 0#8),(w8 0#8),(w8 0#8),(w8 0#8),(w8 0#8),(w8 0#8),(w8 0#8),(w8 0#8),(w8 0#8),(w8 0#8),(w8 0#8),(w8 0#8),(w8 0#8),(w8 0#8),(w8 0#8),(w8 0#8),(w8 0#8),(w8 0#8),(w8 0#8),.nils]⟩,
  ⟨none,none,.store 71 (.t 9) (.t 22)⟩])
 (.seq (.region false [⟨none,(some 10),.mov (.k (.bool false))⟩])
 (.seq (.seq (.region false [⟨none,(some 23),.fld 0 (.t 5)⟩,
  ⟨none,(some 24),.load 1 false (.t 23)⟩])
 (.block 2 (.seq (.region false [⟨none,(some 29),.bin .eql (.t 24) (.k (.int .i64 1))⟩,
  ⟨none,(some 28),.mov (.t 29)⟩])
 (.cond (.t 28) (.region true [⟨none,(some 30),.fld 0 (.t 9)⟩,
  ⟨none,(some 31),.load 1 false (.t 30)⟩,
  ⟨none,(some 32),.bin .eql (.t 31) (.k (.int .i64 1))⟩,
  ⟨none,(some 33),.mov (.t 32)⟩,
  ⟨(some (33,true)),(some 34),.load 71 true (.t 9)⟩,
  ⟨(some (33,true)),(some 36),.load 34 true (.t 4)⟩,
  ⟨(some (33,true)),(some 35),.callN (.k (.fn (.func 31) [] [])) [(.t 34)]⟩,
  ⟨(some (33,true)),(some 37),.eqa false [(32,0),(2,1)] (.t 35) (.t 36)⟩,
  ⟨none,(some 38),.pick (.t 33) (.t 37) (.k (.bool false))⟩,
  ⟨none,(some 10),.mov (.t 38)⟩])
 (.seq (.region false [⟨none,(some 40),.bin .eql (.t 24) (.k (.int .i64 2))⟩,
  ⟨none,(some 39),.mov (.t 40)⟩])
 (.cond (.t 39) (.region true [⟨none,(some 41),.fld 0 (.t 9)⟩,
  ⟨none,(some 42),.load 1 false (.t 41)⟩,
  ⟨none,(some 43),.bin .eql (.t 42) (.k (.int .i64 2))⟩,
  ⟨none,(some 44),.mov (.t 43)⟩,
  ⟨(some (44,true)),(some 45),.load 71 true (.t 9)⟩,
  ⟨(some (44,true)),(some 47),.load 34 true (.t 4)⟩,
  ⟨(some (44,true)),(some 46),.callN (.k (.fn (.func 31) [] [])) [(.t 45)]⟩,
  ⟨(some (44,true)),(some 48),.eqa false [(32,0),(2,1)] (.t 46) (.t 47)⟩,
  ⟨none,(some 49),.pick (.t 44) (.t 48) (.k (.bool false))⟩,
  ⟨none,(some 50),.mov (.t 49)⟩,
  ⟨(some (50,true)),(some 51),.fld 34 (.t 9)⟩,
  ⟨(some (50,true)),(some 52),.load 1 false (.t 51)⟩,
  ⟨(some (50,true)),(some 53),.fld 3 (.t 5)⟩,
  ⟨(some (50,true)),(some 54),.load 1 false (.t 53)⟩,
  ⟨(some (50,true)),(some 55),.bin .eql (.t 52) (.t 54)⟩,
  ⟨none,(some 56),.pick (.t 50) (.t 55) (.k (.bool false))⟩,
  ⟨none,(some 10),.mov (.t 56)⟩])
 (.seq (.region false [⟨none,(some 58),.bin .eql (.t 24) (.k (.int .i64 3))⟩,
  ⟨none,(some 57),.mov (.t 58)⟩])
 (.cond (.t 57) (.region false [⟨none,(some 59),.fld 0 (.t 9)⟩,
  ⟨none,(some 60),.load 1 false (.t 59)⟩,
  ⟨none,(some 61),.bin .eql (.t 60) (.k (.int .i64 3))⟩,
  ⟨none,(some 62),.mov (.t 61)⟩,
  ⟨(some (62,true)),(some 63),.fld 2 (.t 9)⟩,
  ⟨(some (62,true)),(some 64),.load 32 true (.t 63)⟩,
  ⟨(some (62,true)),(some 65),.fld 0 (.t 4)⟩,
  ⟨(some (62,true)),(some 66),.load 32 true (.t 65)⟩,
  ⟨(some (62,true)),(some 67),.eqa false [(32,0)] (.t 64) (.t 66)⟩,
  ⟨none,(some 68),.pick (.t 62) (.t 67) (.k (.bool false))⟩,
  ⟨none,(some 10),.mov (.t 68)⟩])
 (.seq (.region false [⟨none,(some 70),.bin .eql (.t 24) (.k (.int .i64 4))⟩,
  ⟨none,(some 69),.mov (.t 70)⟩])
 (.cond (.t 69) (.region false [⟨none,(some 71),.fld 0 (.t 9)⟩,
  ⟨none,(some 72),.load 1 false (.t 71)⟩,
  ⟨none,(some 73),.bin .eql (.t 72) (.k (.int .i64 4))⟩,
  ⟨none,(some 74),.mov (.t 73)⟩,
  ⟨(some (74,true)),(some 75),.fld 2 (.t 9)⟩,
  ⟨(some (74,true)),(some 76),.load 32 true (.t 75)⟩,
  ⟨(some (74,true)),(some 77),.fld 0 (.t 4)⟩,
  ⟨(some (74,true)),(some 78),.load 32 true (.t 77)⟩,
  ⟨(some (74,true)),(some 79),.eqa false [(32,0)] (.t 76) (.t 78)⟩,
  ⟨none,(some 80),.pick (.t 74) (.t 79) (.k (.bool false))⟩,
  ⟨none,(some 10),.mov (.t 80)⟩])
 (.seq (.region false [⟨none,(some 82),.bin .eql (.t 24) (.k (.int .i64 7))⟩,
  ⟨none,(some 81),.mov (.t 82)⟩])
 (.cond (.t 81) (.region true [⟨none,(some 83),.fld 0 (.t 9)⟩,
  ⟨none,(some 84),.load 1 false (.t 83)⟩,
  ⟨none,(some 85),.bin .eql (.t 84) (.k (.int .i64 1))⟩,
  ⟨none,(some 86),.mov (.t 85)⟩,
  ⟨(some (86,true)),(some 87),.load 71 true (.t 9)⟩,
  ⟨(some (86,true)),(some 89),.load 34 true (.t 4)⟩,
  ⟨(some (86,true)),(some 88),.callN (.k (.fn (.func 31) [] [])) [(.t 87)]⟩,
  ⟨(some (86,true)),(some 90),.eqa false [(32,0),(2,1)] (.t 88) (.t 89)⟩,
  ⟨none,(some 91),.pick (.t 86) (.t 90) (.k (.bool false))⟩,
  ⟨none,(some 92),.mov (.t 91)⟩,
  ⟨(some (92,true)),(some 93),.fld 36 (.t 9)⟩,
  ⟨(some (92,true)),(some 94),.load 1 false (.t 93)⟩,
  ⟨(some (92,true)),(some 95),.callN (.k (.fn (.func 80) [] [])) [(.t 94)]⟩,
  ⟨none,(some 96),.pick (.t 92) (.t 95) (.k (.bool false))⟩,
  ⟨none,(some 97),.mov (.t 96)⟩,
  ⟨(some (97,true)),(some 98),.fld 32 (.t 3)⟩,
  ⟨(some (97,true)),(some 99),.load 1 false (.t 98)⟩,
  ⟨(some (97,true)),(some 100),.callN (.k (.fn (.func 80) [] [])) [(.t 99)]⟩,
  ⟨none,(some 101),.pick (.t 97) (.t 100) (.k (.bool false))⟩,
  ⟨none,(some 102),.mov (.t 101)⟩,
  ⟨(some (102,true)),(some 103),.fld 36 (.t 9)⟩,
  ⟨(some (102,true)),(some 104),.load 1 false (.t 103)⟩,
  ⟨(some (102,true)),(some 105),.fld 32 (.t 3)⟩,
  ⟨(some (102,true)),(some 106),.load 1 false (.t 105)⟩,
  ⟨(some (102,true)),(some 107),.bin .leq (.t 104) (.t 106)⟩,
  ⟨none,(some 108),.pick (.t 102) (.t 107) (.k (.bool false))⟩,
  ⟨none,(some 109),.mov (.t 108)⟩,
  ⟨(some (109,true)),(some 110),.fld 32 (.t 3)⟩,
  ⟨(some (109,true)),(some 111),.load 1 false (.t 110)⟩,
  ⟨(some (109,true)),(some 112),.fld 36 (.t 9)⟩,
  ⟨(some (109,true)),(some 113),.load 1 false (.t 112)⟩,
  ⟨(some (109,true)),(some 114),.bin .sub (.t 111) (.t 113)⟩,
  ⟨(some (109,true)),(some 115),.fld 1 (.t 5)⟩,
  ⟨(some (109,true)),(some 116),.load 1 false (.t 115)⟩,
  ⟨(some (109,true)),(some 117),.bin .leq (.t 114) (.t 116)⟩,
  ⟨none,(some 118),.pick (.t 109) (.t 117) (.k (.bool false))⟩,
  ⟨none,(some 10),.mov (.t 118)⟩])
 (.region false [⟨none,(some 25),.fld 0 (.t 9)⟩,
  ⟨none,(some 26),.load 1 false (.t 25)⟩,
  ⟨none,(some 27),.bin .eql (.t 26) (.k (.int .i64 5))⟩,
  ⟨none,(some 10),.mov (.t 27)⟩])))))))))))))
 (.seq (.region false [⟨none,(some 119),.mov (.t 10)⟩])
 (.cond (.t 119) (.region false [⟨none,(some 120),.mov (.t 7)⟩,
  ⟨none,(some 121),.load 71 true (.t 9)⟩,
  ⟨none,(some 122),.bsl 71 1 [(.int .i64 0),(.str []),(w8 0#8),(w8 0#8),(w8 0#8),(w8 0#8),(w8 0#8),(w8 0#8),(w8 0#8),(w8 0#8),(w8 0#8),(w8 0#8),(w8 0#8),(w8 0#8),(w8 0#8),(w8 0#8),(w8 0#8),(w8 0#8),(w8 0#8),(w8 0#8),(w8 0#8),(w8 0#8),(w8 0#8),(w8 0#8),(w8 0#8),(w8 0#8),(w8 0#8),(w8 0#8),(w8 0#8),(w8 0#8),(w8 0#8),(w8 0#8),(w8 0#8),(w8 0#8),(.str []),(.str []),(.int .i64 0),(.bool false),(w8 0#8),(w8 0#8),(w8 0#8),(w8 0#8),(w8 0#8),(w8 0#8),(w8 0#8),(w8 0#8),(w8 0#8),(w8 0#8),(w8 0#8),(w8 0#8),(w8 0#8),(w8 0#8),(w8 0#8),(w8 0#8),(w8 0#8),(w8 0#8),(w8 0#8),(w8 0#8),(w8 0#8),(w8 0#8),(w8 0#8),(w8 0#8),(w8 0#8),(w8 0#8),(w8 0#8),(w8 0#8),(w8 0#8),(w8 0#8),(w8 0#8),(w8 0#8),.nils] [(0,71,(.t 121))]⟩,
  ⟨none,(some 123),.app 71 160 (.t 120) (.t 122)⟩,
  ⟨none,(some 7),.mov (.t 123)⟩])
 .skip))))))
 (.region false [⟨none,(some 16),.mov (.t 8)⟩,
  ⟨none,(some 17),.bin .add (.t 16) (.k (.int .i64 1))⟩,
  ⟨none,(some 8),.mov (.t 17)⟩])))
def zihg (x3 x4 x5 x7 x8:DV) (h:List AObj):St:=⟨[.junk,.junk,.junk,x3,x4,x5,.junk,x7,x8]++js 116,h⟩
def a81:AFn where
 code:=(.seq (.region false [⟨none,(some 3),.box (.t 0)⟩,
  ⟨none,(some 4),.box (.t 1)⟩,
  ⟨none,(some 5),.box (.t 2)⟩,
  ⟨none,(some 6),.mov (.k .nils)⟩])
 (.seq (.region false [⟨none,(some 7),.mov (.k .nils)⟩])
 (.seq (.seq (.region false [⟨none,(some 8),.mov (.k (.int .i64 0))⟩])
 (.block 0 (.loop z9us)))
 (.seq (.region false [⟨none,(some 124),.mov (.t 7)⟩,
  ⟨none,(some 6),.mov (.t 124)⟩])
 .ret))))
 ntmps:=125
 res:=[.tmp 6]
theorem zgev:zsjc P Tryz.f81=some a81:=by kernel_rfl
def zdve:ACode :=
 (.seq (.seq (.region false [⟨none,(some 5),.mov (.t 4)⟩,
  ⟨none,(some 6),.mov (.t 0)⟩,
  ⟨none,(some 7),.len (.t 6)⟩,
  ⟨none,(some 8),.bin .lss (.t 5) (.t 7)⟩])
 (.cond (.t 8) .skip
 (.exit 0)))
 (.seq (.block 1 (.seq (.region false [⟨none,(some 11),.mov (.t 0)⟩,
  ⟨none,(some 12),.mov (.t 4)⟩,
  ⟨none,(some 13),.idxS 71 (.t 11) (.t 12)⟩,
  ⟨none,(some 14),.fld 37 (.t 13)⟩,
  ⟨none,(some 15),.load 1 false (.t 14)⟩,
  ⟨none,(some 16),.un .not (.t 15)⟩])
 (.cond (.t 16) (.region false [⟨none,(some 17),.mov (.t 3)⟩,
  ⟨none,(some 18),.mov (.t 0)⟩,
  ⟨none,(some 19),.mov (.t 4)⟩,
  ⟨none,(some 20),.idxS 71 (.t 18) (.t 19)⟩,
  ⟨none,(some 21),.fld 1 (.t 20)⟩,
  ⟨none,(some 22),.load 1 false (.t 21)⟩,
  ⟨none,(some 23),.call (.k (.fn (.func 136) [] [])) [(.t 17),(.t 22)]⟩,
  ⟨none,(some 3),.mov (.t 23)⟩])
 .skip)))
 (.region false [⟨none,(some 9),.mov (.t 4)⟩,
  ⟨none,(some 10),.bin .add (.t 9) (.k (.int .i64 1))⟩,
  ⟨none,(some 4),.mov (.t 10)⟩])))
def zj5j (x0 x3 x4:DV) (h:List AObj):St:=⟨[x0,.junk,.junk,x3,x4]++js 20,h⟩
def a117:AFn where
 code:=(.seq (.region false [⟨none,(some 2),.mov (.k .nils)⟩])
 (.seq (.region false [⟨none,(some 3),.mov (.k .nils)⟩])
 (.seq (.seq (.region false [⟨none,(some 4),.mov (.k (.int .i64 0))⟩])
 (.block 0 (.loop zdve)))
 (.seq (.region false [⟨none,(some 24),.mov (.t 3)⟩,
  ⟨none,(some 2),.mov (.t 24)⟩])
 .ret))))
 ntmps:=25
 res:=[.tmp 2]
theorem zt1q:zsjc P Tryz.f117=some a117:=by kernel_rfl
def zubw:ACode :=
 (.seq (.seq (.region false [⟨none,(some 14),.mov (.t 9)⟩,
  ⟨none,(some 15),.mov (.t 1)⟩,
  ⟨none,(some 16),.len (.t 15)⟩,
  ⟨none,(some 17),.bin .lss (.t 14) (.t 16)⟩])
 (.cond (.t 17) .skip
 (.exit 0)))
 (.seq (.block 1 (.seq (.region false [⟨none,(some 20),.mov (.t 7)⟩,
  ⟨none,(some 21),.mov (.t 1)⟩,
  ⟨none,(some 22),.mov (.t 9)⟩,
  ⟨none,(some 23),.idxS 71 (.t 21) (.t 22)⟩,
  ⟨none,(some 24),.fld 1 (.t 23)⟩,
  ⟨none,(some 25),.load 1 false (.t 24)⟩,
  ⟨none,(some 26),.call (.k (.fn (.func 118) [] [])) [(.t 20),(.t 25)]⟩,
  ⟨none,(some 27),.un .not (.t 26)⟩])
 (.cond (.t 27) (.region false [⟨none,(some 28),.mov (.t 8)⟩,
  ⟨none,(some 29),.mov (.t 1)⟩,
  ⟨none,(some 30),.mov (.t 9)⟩,
  ⟨none,(some 31),.idxS 71 (.t 29) (.t 30)⟩,
  ⟨none,(some 32),.load 71 true (.t 31)⟩,
  ⟨none,(some 33),.bsl 71 1 [(.int .i64 0),(.str []),(w8 0#8),(w8 0#8),(w8 0#8),(w8 0#8),(w8 0#8),(w8 0#8),(w8 0#8),(w8 0#8),(w8 0#8),(w8 0#8),(w8 0#8),(w8 0#8),(w8 0#8),(w8 0#8),(w8 0#8),(w8 0#8),(w8 0#8),(w8 0#8),(w8 0#8),(w8 0#8),(w8 0#8),(w8 0#8),(w8 0#8),(w8 0#8),(w8 0#8),(w8 0#8),(w8 0#8),(w8 0#8),(w8 0#8),(w8 0#8),(w8 0#8),(w8 0#8),(.str []),(.str []),(.int .i64 0),(.bool false),(w8 0#8),(w8 0#8),(w8 0#8),(w8 0#8),(w8 0#8),(w8 0#8),(w8 0#8),(w8 0#8),(w8 0#8),(w8 0#8),(w8 0#8),(w8 0#8),(w8 0#8),(w8 0#8),(w8 0#8),(w8 0#8),(w8 0#8),(w8 0#8),(w8 0#8),(w8 0#8),(w8 0#8),(w8 0#8),(w8 0#8),(w8 0#8),(w8 0#8),(w8 0#8),(w8 0#8),(w8 0#8),(w8 0#8),(w8 0#8),(w8 0#8),(w8 0#8),.nils] [(0,71,(.t 32))]⟩,
  ⟨none,(some 34),.app 71 160 (.t 28) (.t 33)⟩,
  ⟨none,(some 8),.mov (.t 34)⟩])
 .skip)))
 (.region false [⟨none,(some 18),.mov (.t 9)⟩,
  ⟨none,(some 19),.bin .add (.t 18) (.k (.int .i64 1))⟩,
  ⟨none,(some 9),.mov (.t 19)⟩])))
def ztza (x1 x5 x6 x7 x8 x9:DV) (h:List AObj):St:=⟨[.junk,x1,.junk,.junk,.junk,x5,x6,x7,x8,x9]++js 42,h⟩
def a83:AFn where
 code:=(.seq (.region false [⟨none,(some 5),.box (.t 2)⟩,
  ⟨none,(some 6),.alloc [(.bool false),.nils,(.int .i64 0)]⟩])
 (.seq (.region false [⟨none,(some 12),.mov (.t 0)⟩,
  ⟨none,(some 13),.call (.k (.fn (.func 117) [] [])) [(.t 12)]⟩,
  ⟨none,(some 7),.mov (.t 13)⟩])
 (.seq (.region false [⟨none,(some 8),.mov (.k .nils)⟩])
 (.seq (.seq (.region false [⟨none,(some 9),.mov (.k (.int .i64 0))⟩])
 (.block 0 (.loop zubw)))
 (.seq (.region false [⟨none,(some 35),.mov (.t 8)⟩,
  ⟨none,(some 36),.fld 1 (.t 5)⟩,
  ⟨none,(some 37),.load 1 false (.t 36)⟩,
  ⟨none,(some 38),.call (.k (.fn (.func 82) [] [])) [(.t 35),(.t 37)]⟩,
  ⟨none,(some 10),.alloc [(.bool false),.nils,(.int .i64 0)]⟩,
  ⟨none,none,.store 3 (.t 10) (.t 38)⟩])
 (.seq (.seq (.region false [⟨none,(some 39),.mov (.t 7)⟩,
  ⟨none,(some 40),.len (.t 39)⟩,
  ⟨none,(some 41),.fld 2 (.t 5)⟩,
  ⟨none,(some 42),.load 1 false (.t 41)⟩,
  ⟨none,(some 43),.bin .sub (.t 40) (.t 42)⟩,
  ⟨none,(some 11),.mov (.t 43)⟩])
 (.seq (.region false [⟨none,(some 44),.mov (.t 11)⟩,
  ⟨none,(some 45),.bin .gtr (.t 44) (.k (.int .i64 0))⟩])
 (.cond (.t 45) (.region false [⟨none,(some 46),.fld 2 (.t 10)⟩,
  ⟨none,(some 47),.load 1 false (.t 46)⟩,
  ⟨none,(some 48),.mov (.t 11)⟩,
  ⟨none,(some 49),.bin .add (.t 47) (.t 48)⟩,
  ⟨none,(some 50),.build [(.bool false),.nils,(.int .i64 0)] [(2,1,(.t 49))]⟩,
  ⟨none,none,.store 3 (.t 10) (.t 50)⟩])
 .skip)))
 (.seq (.region false [⟨none,(some 51),.load 3 true (.t 10)⟩,
  ⟨none,none,.store 3 (.t 6) (.t 51)⟩])
 .ret)))))))
 ntmps:=52
 res:=[.cell 6 3 true]
theorem z6eh:zsjc P Tryz.f83=some a83:=by kernel_rfl
def zvoz:ACode :=
 (.seq (.seq (.region false [⟨none,(some 12),.mov (.t 6)⟩,
  ⟨none,(some 13),.mov (.t 0)⟩,
  ⟨none,(some 14),.len (.t 13)⟩,
  ⟨none,(some 15),.bin .lss (.t 12) (.t 14)⟩])
 (.cond (.t 15) .skip
 (.exit 0)))
 (.seq (.block 1 (.region false [⟨none,(some 18),.mov (.t 5)⟩,
  ⟨none,(some 19),.mov (.t 0)⟩,
  ⟨none,(some 20),.mov (.t 6)⟩,
  ⟨none,(some 21),.idxS 71 (.t 19) (.t 20)⟩,
  ⟨none,(some 22),.fld 38 (.t 21)⟩,
  ⟨none,(some 23),.load 32 true (.t 22)⟩,
  ⟨none,(some 24),.call (.k (.fn (.func 93) [] [])) [(.t 18),(.t 23)]⟩,
  ⟨none,(some 5),.mov (.t 24)⟩]))
 (.region false [⟨none,(some 16),.mov (.t 6)⟩,
  ⟨none,(some 17),.bin .add (.t 16) (.k (.int .i64 1))⟩,
  ⟨none,(some 6),.mov (.t 17)⟩])))
def zphm (x0 x3 x4 x5 x6:DV) (h:List AObj):St:=⟨[x0,.junk,.junk,x3,x4,x5,x6]++js 71,h⟩
def z0jx:ACode :=
 (.seq (.seq (.region false [⟨none,(some 35),.mov (.t 10)⟩,
  ⟨none,(some 36),.mov (.t 0)⟩,
  ⟨none,(some 37),.len (.t 36)⟩,
  ⟨none,(some 38),.bin .lss (.t 35) (.t 37)⟩])
 (.cond (.t 38) .skip
 (.exit 4)))
 (.seq (.block 5 (.seq (.region true [⟨none,(some 41),.mov (.t 0)⟩,
  ⟨none,(some 42),.mov (.t 10)⟩,
  ⟨none,(some 43),.idxS 71 (.t 41) (.t 42)⟩,
  ⟨none,(some 44),.fld 38 (.t 43)⟩,
  ⟨none,(some 45),.load 32 true (.t 44)⟩,
  ⟨none,(some 46),.mov (.t 5)⟩,
  ⟨none,(some 47),.mov (.t 8)⟩,
  ⟨none,(some 48),.idxS 32 (.t 46) (.t 47)⟩,
  ⟨none,(some 49),.load 32 true (.t 48)⟩,
  ⟨none,(some 50),.eqa false [(32,0)] (.t 45) (.t 49)⟩])
 (.cond (.t 50) (.region false [⟨none,(some 51),.mov (.t 9)⟩,
  ⟨none,(some 52),.mov (.t 0)⟩,
  ⟨none,(some 53),.mov (.t 10)⟩,
  ⟨none,(some 54),.idxS 71 (.t 52) (.t 53)⟩,
  ⟨none,(some 55),.load 71 true (.t 54)⟩,
  ⟨none,(some 56),.bsl 71 1 [(.int .i64 0),(.str []),(w8 0#8),(w8 0#8),(w8 0#8),(w8 0#8),(w8 0#8),(w8 0#8),(w8 0#8),(w8 0#8),(w8 0#8),(w8 0#8),(w8 0#8),(w8 0#8),(w8 0#8),(w8 0#8),(w8 0#8),(w8 0#8),(w8 0#8),(w8 0#8),(w8 0#8),(w8 0#8),(w8 0#8),(w8 0#8),(w8 0#8),(w8 0#8),(w8 0#8),(w8 0#8),(w8 0#8),(w8 0#8),(w8 0#8),(w8 0#8),(w8 0#8),(w8 0#8),(.str []),(.str []),(.int .i64 0),(.bool false),(w8 0#8),(w8 0#8),(w8 0#8),(w8 0#8),(w8 0#8),(w8 0#8),(w8 0#8),(w8 0#8),(w8 0#8),(w8 0#8),(w8 0#8),(w8 0#8),(w8 0#8),(w8 0#8),(w8 0#8),(w8 0#8),(w8 0#8),(w8 0#8),(w8 0#8),(w8 0#8),(w8 0#8),(w8 0#8),(w8 0#8),(w8 0#8),(w8 0#8),(w8 0#8),(w8 0#8),(w8 0#8),(w8 0#8),(w8 0#8),(w8 0#8),(w8 0#8),.nils] [(0,71,(.t 55))]⟩,
  ⟨none,(some 57),.app 71 160 (.t 51) (.t 56)⟩,
  ⟨none,(some 9),.mov (.t 57)⟩])
 .skip)))
 (.region false [⟨none,(some 39),.mov (.t 10)⟩,
  ⟨none,(some 40),.bin .add (.t 39) (.k (.int .i64 1))⟩,
  ⟨none,(some 10),.mov (.t 40)⟩])))
def zftw (x0 x3 x4 x5 x7 x8 x9 x10:DV) (h:List AObj):St:=⟨[x0,.junk,.junk,x3,x4,x5,.junk,x7,x8,x9,x10]++js 67,h⟩
def z0e6:ACode :=
 (.seq (.seq (.region false [⟨none,(some 31),.mov (.t 8)⟩,
  ⟨none,(some 32),.bin .geq (.t 31) (.k (.int .i64 0))⟩])
 (.cond (.t 32) .skip
 (.exit 2)))
 (.seq (.block 3 (.seq (.region false [⟨none,(some 9),.mov (.k .nils)⟩])
 (.seq (.seq (.region false [⟨none,(some 10),.mov (.k (.int .i64 0))⟩])
 (.block 4 (.loop z0jx)))
 (.seq (.region false [⟨none,(some 58),.mov (.t 9)⟩,
  ⟨none,(some 59),.fld 1 (.t 3)⟩,
  ⟨none,(some 60),.load 1 false (.t 59)⟩,
  ⟨none,(some 61),.call (.k (.fn (.func 82) [] [])) [(.t 58),(.t 60)]⟩,
  ⟨none,(some 11),.alloc [(.bool false),.nils,(.int .i64 0)]⟩,
  ⟨none,none,.store 3 (.t 11) (.t 61)⟩])
 (.seq (.region false [⟨none,(some 62),.fld 0 (.t 11)⟩,
  ⟨none,(some 63),.load 1 false (.t 62)⟩,
  ⟨none,(some 64),.mov (.t 63)⟩,
  ⟨(some (64,false)),(some 65),.fld 0 (.t 7)⟩,
  ⟨(some (64,false)),(some 66),.load 1 false (.t 65)⟩,
  ⟨(some (64,false)),(some 67),.un .not (.t 66)⟩,
  ⟨(some (64,false)),(some 68),.mov (.t 67)⟩,
  ⟨(some (68,true)),(some 69),.fld 2 (.t 11)⟩,
  ⟨(some (68,true)),(some 70),.load 1 false (.t 69)⟩,
  ⟨(some (68,true)),(some 71),.fld 2 (.t 7)⟩,
  ⟨(some (68,true)),(some 72),.load 1 false (.t 71)⟩,
  ⟨(some (68,true)),(some 73),.bin .lss (.t 70) (.t 72)⟩,
  ⟨(some (64,false)),(some 74),.pick (.t 68) (.t 73) (.k (.bool false))⟩,
  ⟨none,(some 75),.pick (.t 64) (.k (.bool true)) (.t 74)⟩])
 (.cond (.t 75) (.region false [⟨none,(some 76),.load 3 true (.t 11)⟩,
  ⟨none,none,.store 3 (.t 7) (.t 76)⟩])
 .skip))))))
 (.region false [⟨none,(some 33),.mov (.t 8)⟩,
  ⟨none,(some 34),.bin .sub (.t 33) (.k (.int .i64 1))⟩,
  ⟨none,(some 8),.mov (.t 34)⟩])))
def z9kw (x0 x3 x4 x5 x7 x8:DV) (h:List AObj):St:=⟨[x0,.junk,.junk,x3,x4,x5,.junk,x7,x8]++js 69,h⟩
def a84:AFn where
 code:=(.seq (.region false [⟨none,(some 3),.box (.t 1)⟩,
  ⟨none,(some 4),.alloc [(.bool false),.nils,(.int .i64 0)]⟩])
 (.seq (.region false [⟨none,(some 5),.mov (.k .nils)⟩])
 (.seq (.seq (.region false [⟨none,(some 6),.mov (.k (.int .i64 0))⟩])
 (.block 0 (.loop zvoz)))
 (.seq (.region false [⟨none,(some 25),.fld 1 (.t 3)⟩,
  ⟨none,(some 26),.load 1 false (.t 25)⟩,
  ⟨none,(some 27),.build [(.bool false),.nils,(.int .i64 0)] [(2,1,(.t 26))]⟩,
  ⟨none,(some 7),.alloc [(.bool false),.nils,(.int .i64 0)]⟩,
  ⟨none,none,.store 3 (.t 7) (.t 27)⟩])
 (.seq (.seq (.region false [⟨none,(some 28),.mov (.t 5)⟩,
  ⟨none,(some 29),.len (.t 28)⟩,
  ⟨none,(some 30),.bin .sub (.t 29) (.k (.int .i64 1))⟩,
  ⟨none,(some 8),.mov (.t 30)⟩])
 (.block 2 (.loop z0e6)))
 (.seq (.region false [⟨none,(some 77),.load 3 true (.t 7)⟩,
  ⟨none,none,.store 3 (.t 4) (.t 77)⟩])
 .ret))))))
 ntmps:=78
 res:=[.cell 4 3 true]
theorem z3cy:zsjc P Tryz.f84=some a84:=by kernel_rfl
def zt7b:ACode :=
 (.seq (.seq (.region false [⟨none,(some 9),.mov (.t 8)⟩,
  ⟨none,(some 10),.mov (.t 0)⟩,
  ⟨none,(some 11),.len (.t 10)⟩,
  ⟨none,(some 12),.bin .lss (.t 9) (.t 11)⟩])
 (.cond (.t 12) .skip
 (.exit 0)))
 (.seq (.block 1 (.seq (.seq (.region false [⟨none,(some 15),.mov (.t 0)⟩,
  ⟨none,(some 16),.mov (.t 8)⟩,
  ⟨none,(some 17),.idxS 39 (.t 15) (.t 16)⟩,
  ⟨none,(some 18),.fld 32 (.t 17)⟩,
  ⟨none,(some 19),.fld 2 (.t 18)⟩,
  ⟨none,(some 20),.load 1 false (.t 19)⟩,
  ⟨none,(some 21),.mov (.t 1)⟩,
  ⟨none,(some 22),.bin .lss (.t 20) (.t 21)⟩])
 (.cond (.t 22) (.exit 1)
 .skip))
 (.seq (.region false [⟨none,(some 23),.mov (.t 6)⟩,
  ⟨none,(some 24),.mov (.t 0)⟩,
  ⟨none,(some 25),.mov (.t 8)⟩,
  ⟨none,(some 26),.idxS 39 (.t 24) (.t 25)⟩,
  ⟨none,(some 27),.fld 36 (.t 26)⟩,
  ⟨none,(some 28),.fld 1 (.t 27)⟩,
  ⟨none,(some 29),.load 1 false (.t 28)⟩,
  ⟨none,(some 30),.call (.k (.fn (.func 86) [] [])) [(.t 23),(.t 29)]⟩,
  ⟨none,(some 6),.mov (.t 30)⟩])
 (.seq (.region false [⟨none,(some 31),.mov (.t 0)⟩,
  ⟨none,(some 32),.mov (.t 8)⟩,
  ⟨none,(some 33),.idxS 39 (.t 31) (.t 32)⟩,
  ⟨none,(some 34),.load 39 true (.t 33)⟩,
  ⟨none,(some 35),.call (.k (.fn (.func 91) [] [])) [(.t 34)]⟩])
 (.cond (.t 35) (.region false [⟨none,(some 36),.mov (.t 7)⟩,
  ⟨none,(some 37),.bin .add (.t 36) (.k (.int .i64 1))⟩,
  ⟨none,(some 7),.mov (.t 37)⟩])
 .skip)))))
 (.region false [⟨none,(some 13),.mov (.t 8)⟩,
  ⟨none,(some 14),.bin .add (.t 13) (.k (.int .i64 1))⟩,
  ⟨none,(some 8),.mov (.t 14)⟩])))
def znp4 (x0 x1 x6 x7 x8:DV) (h:List AObj):St:=⟨[x0,x1]++js 4++[x6,x7,x8]++js 31,h⟩
def a53:AFn where
 code:=(.seq (.region false [⟨none,(some 4),.mov (.k .nils)⟩,
  ⟨none,(some 5),.mov (.k (.int .i64 0))⟩])
 (.seq (.region false [⟨none,(some 6),.mov (.k .nils)⟩])
 (.seq (.region false [⟨none,(some 7),.mov (.k (.int .i64 0))⟩])
 (.seq (.seq (.region false [⟨none,(some 8),.mov (.k (.int .i64 0))⟩])
 (.block 0 (.loop zt7b)))
 (.seq (.region false [⟨none,(some 38),.mov (.t 6)⟩,
  ⟨none,(some 39),.mov (.t 7)⟩,
  ⟨none,(some 4),.mov (.t 38)⟩,
  ⟨none,(some 5),.mov (.t 39)⟩])
 .ret)))))
 ntmps:=40
 res:=[.tmp 4,.tmp 5]
theorem zzvp:zsjc P Tryz.f53=some a53:=by kernel_rfl
def zdyu:ACode :=
 (.seq (.seq (.region false [⟨none,(some 8),.mov (.t 4)⟩,
  ⟨none,(some 9),.fld 34 (.t 1)⟩,
  ⟨none,(some 10),.load 1 false (.t 9)⟩,
  ⟨none,(some 11),.len (.t 10)⟩,
  ⟨none,(some 12),.bin .lss (.t 8) (.t 11)⟩])
 (.cond (.t 12) .skip
 (.exit 0)))
 (.seq (.block 1 (.seq (.region false [⟨none,(some 15),.fld 34 (.t 1)⟩,
  ⟨none,(some 16),.load 1 false (.t 15)⟩,
  ⟨none,(some 17),.mov (.t 4)⟩,
  ⟨none,(some 18),.idxS 39 (.t 16) (.t 17)⟩,
  ⟨none,(some 19),.fld 36 (.t 18)⟩,
  ⟨none,(some 20),.fld 2 (.t 19)⟩,
  ⟨none,(some 21),.load 1 false (.t 20)⟩])
 (.cond (.t 21) (.region false [⟨none,(some 22),.mov (.t 3)⟩,
  ⟨none,(some 23),.bin .add (.t 22) (.k (.int .i64 1))⟩,
  ⟨none,(some 3),.mov (.t 23)⟩])
 .skip)))
 (.region false [⟨none,(some 13),.mov (.t 4)⟩,
  ⟨none,(some 14),.bin .add (.t 13) (.k (.int .i64 1))⟩,
  ⟨none,(some 4),.mov (.t 14)⟩])))
def z0ky (x1 x3 x4:DV) (h:List AObj):St:=⟨[.junk,x1,.junk,x3,x4]++js 20,h⟩
def a87:AFn where
 code:=(.seq (.region false [⟨none,(some 1),.box (.t 0)⟩,
  ⟨none,(some 2),.mov (.k (.int .i64 0))⟩])
 (.seq (.region false [⟨none,(some 5),.fld 35 (.t 1)⟩,
  ⟨none,(some 6),.load 1 false (.t 5)⟩,
  ⟨none,(some 7),.len (.t 6)⟩,
  ⟨none,(some 3),.mov (.t 7)⟩])
 (.seq (.seq (.region false [⟨none,(some 4),.mov (.k (.int .i64 0))⟩])
 (.block 0 (.loop zdyu)))
 (.seq (.region false [⟨none,(some 24),.mov (.t 3)⟩,
  ⟨none,(some 2),.mov (.t 24)⟩])
 .ret))))
 ntmps:=25
 res:=[.tmp 2]
theorem zfhg:zsjc P Tryz.f87=some a87:=by kernel_rfl
def a44:AFn where
 code:=(.seq (.region false [⟨none,(some 4),.box (.t 0)⟩,
  ⟨none,(some 6),.box (.t 2)⟩,
  ⟨none,(some 7),.box (.t 3)⟩,
  ⟨none,(some 8),.alloc [(.bool false),.nils,(.int .i64 0)]⟩])
 (.seq (.region false [⟨none,(some 15),.load 36 true (.t 4)⟩,
  ⟨none,(some 9),.alloc [(w8 0#8),(w8 0#8),(w8 0#8),(w8 0#8),(w8 0#8),(w8 0#8),(w8 0#8),(w8 0#8),(w8 0#8),(w8 0#8),(w8 0#8),(w8 0#8),(w8 0#8),(w8 0#8),(w8 0#8),(w8 0#8),(w8 0#8),(w8 0#8),(w8 0#8),(w8 0#8),(w8 0#8),(w8 0#8),(w8 0#8),(w8 0#8),(w8 0#8),(w8 0#8),(w8 0#8),(w8 0#8),(w8 0#8),(w8 0#8),(w8 0#8),(w8 0#8),(.int .i64 0),.nils,.nils,.nils]⟩,
  ⟨none,none,.store 36 (.t 9) (.t 15)⟩])
 (.seq (.region false [⟨none,(some 16),.mov (.t 1)⟩,
  ⟨none,(some 17),.fld 33 (.t 9)⟩,
  ⟨none,none,.store 1 (.t 17) (.t 16)⟩])
 (.seq (.region false [⟨none,(some 18),.load 36 true (.t 9)⟩,
  ⟨none,(some 19),.load 34 true (.t 6)⟩,
  ⟨none,(some 20),.load 4 true (.t 7)⟩,
  ⟨none,(some 21),.call (.k (.fn (.func 81) [] [])) [(.t 18),(.t 19),(.t 20)]⟩,
  ⟨none,(some 10),.mov (.t 21)⟩])
 (.seq (.seq (.region false [⟨none,(some 22),.fld 0 (.t 7)⟩,
  ⟨none,(some 23),.load 1 false (.t 22)⟩])
 (.block 0 (.seq (.seq (.region false [⟨none,(some 25),.bin .eql (.t 23) (.k (.int .i64 1))⟩,
  ⟨none,(some 24),.mov (.t 25)⟩])
 (.cond (.t 24) .skip
 (.region false [⟨none,(some 26),.bin .eql (.t 23) (.k (.int .i64 3))⟩,
  ⟨none,(some 24),.mov (.t 26)⟩])))
 (.cond (.t 24) (.seq (.region false [⟨none,(some 27),.mov (.t 10)⟩,
  ⟨none,(some 28),.fld 1 (.t 7)⟩,
  ⟨none,(some 29),.load 1 false (.t 28)⟩,
  ⟨none,(some 30),.call (.k (.fn (.func 82) [] [])) [(.t 27),(.t 29)]⟩,
  ⟨none,none,.store 3 (.t 8) (.t 30)⟩])
 .ret)
 (.seq (.region false [⟨none,(some 32),.bin .eql (.t 23) (.k (.int .i64 4))⟩,
  ⟨none,(some 31),.mov (.t 32)⟩])
 (.cond (.t 31) (.seq (.region true [⟨none,(some 33),.load 36 true (.t 4)⟩,
  ⟨none,(some 34),.load 34 true (.t 6)⟩,
  ⟨none,(some 35),.load 4 true (.t 7)⟩,
  ⟨none,(some 37),.mov (.t 10)⟩,
  ⟨none,(some 38),.load 4 true (.t 7)⟩,
  ⟨none,(some 36),.callN (.k (.fn (.func 81) [] [])) [(.t 33),(.t 34),(.t 35)]⟩,
  ⟨none,(some 39),.callN (.k (.fn (.func 83) [] [])) [(.t 36),(.t 37),(.t 38)]⟩,
  ⟨none,none,.store 3 (.t 8) (.t 39)⟩])
 .ret)
 (.seq (.region false [⟨none,(some 41),.bin .eql (.t 23) (.k (.int .i64 5))⟩,
  ⟨none,(some 40),.mov (.t 41)⟩])
 (.cond (.t 40) (.seq (.region false [⟨none,(some 42),.mov (.t 10)⟩,
  ⟨none,(some 43),.load 4 true (.t 7)⟩,
  ⟨none,(some 44),.call (.k (.fn (.func 84) [] [])) [(.t 42),(.t 43)]⟩,
  ⟨none,none,.store 3 (.t 8) (.t 44)⟩])
 .ret)
 .skip))))))))
 (.seq (.region false [⟨none,(some 45),.mov (.t 10)⟩,
  ⟨none,(some 46),.call (.k (.fn (.func 85) [] [])) [(.t 45)]⟩,
  ⟨none,(some 11),.alloc [(.bool false),.nils,(.int .i64 0)]⟩,
  ⟨none,none,.store 3 (.t 11) (.t 46)⟩])
 (.seq (.seq (.region false [⟨none,(some 47),.fld 0 (.t 7)⟩,
  ⟨none,(some 48),.load 1 false (.t 47)⟩,
  ⟨none,(some 49),.bin .eql (.t 48) (.k (.int .i64 6))⟩,
  ⟨none,(some 50),.mov (.t 49)⟩,
  ⟨(some (50,true)),(some 51),.fld 0 (.t 11)⟩,
  ⟨(some (50,true)),(some 52),.load 1 false (.t 51)⟩,
  ⟨none,(some 53),.pick (.t 50) (.t 52) (.k (.bool false))⟩])
 (.cond (.t 53) (.seq (.region false [⟨none,(some 55),.fld 34 (.t 4)⟩,
  ⟨none,(some 56),.load 1 false (.t 55)⟩,
  ⟨none,(some 57),.fld 1 (.t 7)⟩,
  ⟨none,(some 58),.load 1 false (.t 57)⟩,
  ⟨none,(some 59),.call (.k (.fn (.func 53) [] [])) [(.t 56),(.t 58)]⟩,
  ⟨none,(some 54),.mov (.t 59)⟩,
  ⟨none,(some 60),.ext (.t 54) 0⟩,
  ⟨none,(some 61),.ext (.t 54) 1⟩,
  ⟨none,(some 12),.mov (.t 60)⟩,
  ⟨none,(some 13),.mov (.t 61)⟩])
 (.seq (.seq (.region false [⟨none,(some 62),.mov (.t 13)⟩,
  ⟨none,(some 63),.bin .gtr (.t 62) (.k (.int .i64 0))⟩])
 (.cond (.t 63) (.seq (.region false [⟨none,(some 64),.mov (.t 13)⟩,
  ⟨none,(some 65),.build [(.bool false),.nils,(.int .i64 0)] [(2,1,(.t 64))]⟩,
  ⟨none,none,.store 3 (.t 8) (.t 65)⟩])
 .ret)
 .skip))
 (.region false [⟨none,(some 66),.fld 1 (.t 11)⟩,
  ⟨none,(some 67),.load 1 false (.t 66)⟩,
  ⟨none,(some 68),.mov (.t 12)⟩,
  ⟨none,(some 69),.call (.k (.fn (.func 86) [] [])) [(.t 67),(.t 68)]⟩,
  ⟨none,(some 70),.fld 1 (.t 11)⟩,
  ⟨none,none,.store 1 (.t 70) (.t 69)⟩])))
 .skip))
 (.seq (.seq (.region false [⟨none,(some 71),.load 36 true (.t 4)⟩,
  ⟨none,(some 72),.call (.k (.fn (.func 87) [] [])) [(.t 71)]⟩,
  ⟨none,(some 14),.mov (.t 72)⟩])
 (.seq (.region false [⟨none,(some 73),.fld 0 (.t 7)⟩,
  ⟨none,(some 74),.load 1 false (.t 73)⟩,
  ⟨none,(some 75),.bin .eql (.t 74) (.k (.int .i64 8))⟩,
  ⟨none,(some 76),.mov (.t 75)⟩,
  ⟨(some (76,true)),(some 77),.fld 0 (.t 11)⟩,
  ⟨(some (76,true)),(some 78),.load 1 false (.t 77)⟩,
  ⟨none,(some 79),.pick (.t 76) (.t 78) (.k (.bool false))⟩,
  ⟨none,(some 80),.mov (.t 79)⟩,
  ⟨(some (80,true)),(some 81),.mov (.t 14)⟩,
  ⟨(some (80,true)),(some 82),.bin .gtr (.t 81) (.k (.int .i64 0))⟩,
  ⟨none,(some 83),.pick (.t 80) (.t 82) (.k (.bool false))⟩])
 (.cond (.t 83) (.seq (.region false [⟨none,(some 84),.mov (.t 14)⟩,
  ⟨none,(some 85),.build [(.bool false),.nils,(.int .i64 0)] [(2,1,(.t 84))]⟩,
  ⟨none,none,.store 3 (.t 8) (.t 85)⟩])
 .ret)
 .skip)))
 (.seq (.region false [⟨none,(some 86),.load 3 true (.t 11)⟩,
  ⟨none,none,.store 3 (.t 8) (.t 86)⟩])
 .ret)))))))))
 ntmps:=87
 res:=[.cell 8 3 true]
theorem zeo7:zsjc P Tryz.f44=some a44:=by kernel_rfl
def a21:AFn where
 code:=(.seq (.region false [⟨none,(some 3),.box (.t 0)⟩,
  ⟨none,(some 4),.box (.t 1)⟩,
  ⟨none,(some 5),.box (.t 2)⟩,
  ⟨none,(some 6),.alloc [(.bool false),.nils,(.int .i64 0)]⟩])
 (.seq (.seq (.region false [⟨none,(some 7),.load 4 true (.t 5)⟩,
  ⟨none,(some 8),.call (.k (.fn (.func 43) [] [])) [(.t 7)]⟩,
  ⟨none,(some 9),.un .not (.t 8)⟩])
 (.cond (.t 9) (.seq (.region false [⟨none,(some 10),.build [(.bool false),.nils,(.int .i64 0)] []⟩,
  ⟨none,none,.store 3 (.t 6) (.t 10)⟩])
 .ret)
 .skip))
 (.seq (.region false [⟨none,(some 11),.load 36 true (.t 3)⟩,
  ⟨none,(some 12),.fld 33 (.t 3)⟩,
  ⟨none,(some 13),.load 1 false (.t 12)⟩,
  ⟨none,(some 14),.load 34 true (.t 4)⟩,
  ⟨none,(some 15),.load 4 true (.t 5)⟩,
  ⟨none,(some 16),.call (.k (.fn (.func 44) [] [])) [(.t 11),(.t 13),(.t 14),(.t 15)]⟩,
  ⟨none,none,.store 3 (.t 6) (.t 16)⟩])
 .ret)))
 ntmps:=17
 res:=[.cell 6 3 true]
theorem zyfb:zsjc P Tryz.f21=some a21:=by kernel_rfl
def z5oa:ACode :=
 (.seq (.seq (.region false [⟨none,(some 6),.mov (.t 5)⟩,
  ⟨none,(some 7),.mov (.t 0)⟩,
  ⟨none,(some 8),.len (.t 7)⟩,
  ⟨none,(some 9),.bin .lss (.t 6) (.t 8)⟩])
 (.cond (.t 9) .skip
 (.exit 0)))
 (.seq (.block 1 (.seq (.region false [⟨none,(some 12),.mov (.t 1)⟩,
  ⟨none,(some 13),.mov (.t 0)⟩,
  ⟨none,(some 14),.mov (.t 5)⟩,
  ⟨none,(some 15),.idxS 32 (.t 13) (.t 14)⟩,
  ⟨none,(some 16),.load 32 true (.t 15)⟩,
  ⟨none,(some 17),.call (.k (.fn (.func 30) [] [])) [(.t 12),(.t 16)]⟩,
  ⟨none,(some 18),.un .not (.t 17)⟩])
 (.cond (.t 18) (.seq (.region false [⟨none,(some 4),.mov (.k (.bool false))⟩])
 .ret)
 .skip)))
 (.region false [⟨none,(some 10),.mov (.t 5)⟩,
  ⟨none,(some 11),.bin .add (.t 10) (.k (.int .i64 1))⟩,
  ⟨none,(some 5),.mov (.t 11)⟩])))
def zv4w (x0 x1 x5:DV) (h:List AObj):St:=⟨[x0,x1,.junk,.junk,.junk,x5]++js 13,h⟩
def a52:AFn where
 code:=(.seq (.region false [⟨none,(some 4),.mov (.k (.bool false))⟩])
 (.seq (.seq (.region false [⟨none,(some 5),.mov (.k (.int .i64 0))⟩])
 (.block 0 (.loop z5oa)))
 (.seq (.region false [⟨none,(some 4),.mov (.k (.bool true))⟩])
 .ret)))
 ntmps:=19
 res:=[.tmp 4]
theorem zil0:zsjc P Tryz.f52=some a52:=by kernel_rfl
def zyu0:ACode :=
 (.seq (.seq (.region false [⟨none,(some 16),.mov (.t 10)⟩,
  ⟨none,(some 17),.fld 33 (.t 4)⟩,
  ⟨none,(some 18),.load 1 false (.t 17)⟩,
  ⟨none,(some 19),.len (.t 18)⟩,
  ⟨none,(some 20),.bin .lss (.t 16) (.t 19)⟩])
 (.cond (.t 20) .skip
 (.exit 0)))
 (.seq (.block 1 (.seq (.region false [⟨none,(some 23),.fld 33 (.t 4)⟩,
  ⟨none,(some 24),.load 1 false (.t 23)⟩,
  ⟨none,(some 25),.mov (.t 10)⟩,
  ⟨none,(some 26),.idxS 71 (.t 24) (.t 25)⟩,
  ⟨none,(some 27),.fld 70 (.t 26)⟩,
  ⟨none,(some 28),.load 1 false (.t 27)⟩,
  ⟨none,(some 29),.mov (.t 3)⟩,
  ⟨none,(some 30),.call (.k (.fn (.func 52) [] [])) [(.t 28),(.t 29)]⟩])
 (.cond (.t 30) (.region false [⟨none,(some 31),.mov (.t 9)⟩,
  ⟨none,(some 32),.fld 33 (.t 4)⟩,
  ⟨none,(some 33),.load 1 false (.t 32)⟩,
  ⟨none,(some 34),.mov (.t 10)⟩,
  ⟨none,(some 35),.idxS 71 (.t 33) (.t 34)⟩,
  ⟨none,(some 36),.load 71 true (.t 35)⟩,
  ⟨none,(some 37),.bsl 71 1 [(.int .i64 0),(.str []),(w8 0#8),(w8 0#8),(w8 0#8),(w8 0#8),(w8 0#8),(w8 0#8),(w8 0#8),(w8 0#8),(w8 0#8),(w8 0#8),(w8 0#8),(w8 0#8),(w8 0#8),(w8 0#8),(w8 0#8),(w8 0#8),(w8 0#8),(w8 0#8),(w8 0#8),(w8 0#8),(w8 0#8),(w8 0#8),(w8 0#8),(w8 0#8),(w8 0#8),(w8 0#8),(w8 0#8),(w8 0#8),(w8 0#8),(w8 0#8),(w8 0#8),(w8 0#8),(.str []),(.str []),(.int .i64 0),(.bool false),(w8 0#8),(w8 0#8),(w8 0#8),(w8 0#8),(w8 0#8),(w8 0#8),(w8 0#8),(w8 0#8),(w8 0#8),(w8 0#8),(w8 0#8),(w8 0#8),(w8 0#8),(w8 0#8),(w8 0#8),(w8 0#8),(w8 0#8),(w8 0#8),(w8 0#8),(w8 0#8),(w8 0#8),(w8 0#8),(w8 0#8),(w8 0#8),(w8 0#8),(w8 0#8),(w8 0#8),(w8 0#8),(w8 0#8),(w8 0#8),(w8 0#8),(w8 0#8),.nils] [(0,71,(.t 36))]⟩,
  ⟨none,(some 38),.app 71 160 (.t 31) (.t 37)⟩,
  ⟨none,(some 9),.mov (.t 38)⟩])
 .skip)))
 (.region false [⟨none,(some 21),.mov (.t 10)⟩,
  ⟨none,(some 22),.bin .add (.t 21) (.k (.int .i64 1))⟩,
  ⟨none,(some 10),.mov (.t 22)⟩])))
def zm3v (x3 x4 x5 x6 x9 x10:DV) (h:List AObj):St:=⟨[.junk,.junk,.junk,x3,x4,x5,x6,.junk,.junk,x9,x10]++js 52,h⟩
def a23:AFn where
 code:=(.seq (.region false [⟨none,(some 4),.box (.t 0)⟩,
  ⟨none,(some 5),.box (.t 1)⟩,
  ⟨none,(some 6),.box (.t 2)⟩,
  ⟨none,(some 8),.mov (.k (.bool false))⟩])
 (.seq (.seq (.region false [⟨none,(some 13),.load 4 true (.t 6)⟩,
  ⟨none,(some 14),.call (.k (.fn (.func 43) [] [])) [(.t 13)]⟩,
  ⟨none,(some 15),.un .not (.t 14)⟩])
 (.cond (.t 15) (.seq (.region false [⟨none,(some 8),.mov (.k (.bool false))⟩])
 .ret)
 .skip))
 (.seq (.region false [⟨none,(some 9),.mov (.k .nils)⟩])
 (.seq (.seq (.region false [⟨none,(some 10),.mov (.k (.int .i64 0))⟩])
 (.block 0 (.loop zyu0)))
 (.seq (.region false [⟨none,(some 40),.fld 34 (.t 4)⟩,
  ⟨none,(some 41),.load 1 false (.t 40)⟩,
  ⟨none,(some 42),.fld 1 (.t 6)⟩,
  ⟨none,(some 43),.load 1 false (.t 42)⟩,
  ⟨none,(some 44),.call (.k (.fn (.func 53) [] [])) [(.t 41),(.t 43)]⟩,
  ⟨none,(some 39),.mov (.t 44)⟩,
  ⟨none,(some 45),.ext (.t 39) 0⟩,
  ⟨none,(some 46),.ext (.t 39) 1⟩,
  ⟨none,(some 11),.mov (.t 45)⟩,
  ⟨none,(some 12),.mov (.t 46)⟩])
 (.seq (.region false [⟨none,(some 47),.load 36 true (.t 4)⟩,
  ⟨none,(some 48),.mov (.t 9)⟩,
  ⟨none,(some 49),.load 34 true (.t 5)⟩,
  ⟨none,(some 50),.load 4 true (.t 6)⟩,
  ⟨none,(some 51),.call (.k (.fn (.func 44) [] [])) [(.t 47),(.t 48),(.t 49),(.t 50)]⟩,
  ⟨none,(some 52),.getf 0 1 false (.t 51)⟩,
  ⟨none,(some 53),.mov (.t 52)⟩,
  ⟨(some (53,true)),(some 54),.fld 0 (.t 6)⟩,
  ⟨(some (53,true)),(some 55),.load 1 false (.t 54)⟩,
  ⟨(some (53,true)),(some 56),.bin .neq (.t 55) (.k (.int .i64 6))⟩,
  ⟨(some (53,true)),(some 57),.mov (.t 56)⟩,
  ⟨(some (57,false)),(some 58),.mov (.t 11)⟩,
  ⟨(some (57,false)),(some 59),.mov (.t 3)⟩,
  ⟨(some (57,false)),(some 60),.call (.k (.fn (.func 52) [] [])) [(.t 58),(.t 59)]⟩,
  ⟨(some (53,true)),(some 61),.pick (.t 57) (.k (.bool true)) (.t 60)⟩,
  ⟨none,(some 62),.pick (.t 53) (.t 61) (.k (.bool false))⟩,
  ⟨none,(some 8),.mov (.t 62)⟩])
 .ret))))))
 ntmps:=63
 res:=[.tmp 8]
theorem ztyx:zsjc P Tryz.f23=some a23:=by kernel_rfl
def a19:AFn where
 code:=(.seq (.region false [⟨none,(some 2),.box (.t 0)⟩,
  ⟨none,(some 3),.box (.t 1)⟩,
  ⟨none,(some 4),.mov (.k (.bool false))⟩])
 (.seq (.region false [⟨none,(some 5),.fld 0 (.t 2)⟩,
  ⟨none,(some 6),.load 1 false (.t 5)⟩,
  ⟨none,(some 7),.fld 0 (.t 3)⟩,
  ⟨none,(some 8),.load 1 false (.t 7)⟩,
  ⟨none,(some 9),.eqb false (.t 6) (.t 8)⟩,
  ⟨none,(some 10),.mov (.t 9)⟩,
  ⟨(some (10,true)),(some 11),.fld 2 (.t 2)⟩,
  ⟨(some (10,true)),(some 12),.load 1 false (.t 11)⟩,
  ⟨(some (10,true)),(some 13),.fld 2 (.t 3)⟩,
  ⟨(some (10,true)),(some 14),.load 1 false (.t 13)⟩,
  ⟨(some (10,true)),(some 15),.bin .eql (.t 12) (.t 14)⟩,
  ⟨none,(some 16),.pick (.t 10) (.t 15) (.k (.bool false))⟩,
  ⟨none,(some 17),.mov (.t 16)⟩,
  ⟨(some (17,true)),(some 18),.fld 1 (.t 2)⟩,
  ⟨(some (17,true)),(some 19),.load 1 false (.t 18)⟩,
  ⟨(some (17,true)),(some 20),.fld 1 (.t 3)⟩,
  ⟨(some (17,true)),(some 21),.load 1 false (.t 20)⟩,
  ⟨(some (17,true)),(some 22),.call (.k (.fn (.func 40) [] [])) [(.t 19),(.t 21)]⟩,
  ⟨none,(some 23),.pick (.t 17) (.t 22) (.k (.bool false))⟩,
  ⟨none,(some 4),.mov (.t 23)⟩])
 .ret))
 ntmps:=24
 res:=[.tmp 4]
theorem zlqi:zsjc P Tryz.f19=some a19:=by kernel_rfl
def z4pl:ACode :=
 (.seq (.seq (.region false [⟨none,(some 11),.mov (.t 5)⟩,
  ⟨none,(some 12),.mov (.t 0)⟩,
  ⟨none,(some 13),.len (.t 12)⟩,
  ⟨none,(some 14),.bin .lss (.t 11) (.t 13)⟩])
 (.cond (.t 14) .skip
 (.exit 0)))
 (.seq (.block 1 (.seq (.region true [⟨none,(some 17),.mov (.t 0)⟩,
  ⟨none,(some 18),.mov (.t 5)⟩,
  ⟨none,(some 19),.idxS 34 (.t 17) (.t 18)⟩,
  ⟨none,(some 20),.load 34 true (.t 19)⟩,
  ⟨none,(some 21),.mov (.t 1)⟩,
  ⟨none,(some 22),.mov (.t 5)⟩,
  ⟨none,(some 23),.idxS 34 (.t 21) (.t 22)⟩,
  ⟨none,(some 24),.load 34 true (.t 23)⟩,
  ⟨none,(some 25),.eqa true [(32,0),(2,1)] (.t 20) (.t 24)⟩])
 (.cond (.t 25) (.seq (.region false [⟨none,(some 4),.mov (.k (.bool false))⟩])
 .ret)
 .skip)))
 (.region false [⟨none,(some 15),.mov (.t 5)⟩,
  ⟨none,(some 16),.bin .add (.t 15) (.k (.int .i64 1))⟩,
  ⟨none,(some 5),.mov (.t 16)⟩])))
def zhcc (x0 x1 x5:DV) (h:List AObj):St:=⟨[x0,x1,.junk,.junk,.junk,x5]++js 20,h⟩
def a17:AFn where
 code:=(.seq (.region false [⟨none,(some 4),.mov (.k (.bool false))⟩])
 (.seq (.seq (.region false [⟨none,(some 6),.mov (.t 0)⟩,
  ⟨none,(some 7),.len (.t 6)⟩,
  ⟨none,(some 8),.mov (.t 1)⟩,
  ⟨none,(some 9),.len (.t 8)⟩,
  ⟨none,(some 10),.bin .neq (.t 7) (.t 9)⟩])
 (.cond (.t 10) (.seq (.region false [⟨none,(some 4),.mov (.k (.bool false))⟩])
 .ret)
 .skip))
 (.seq (.seq (.region false [⟨none,(some 5),.mov (.k (.int .i64 0))⟩])
 (.block 0 (.loop z4pl)))
 (.seq (.region false [⟨none,(some 4),.mov (.k (.bool true))⟩])
 .ret))))
 ntmps:=26
 res:=[.tmp 4]
theorem zcaf:zsjc P Tryz.f17=some a17:=by kernel_rfl
end Go.Proofs.YtdnhbfmlklaldaaGreat
