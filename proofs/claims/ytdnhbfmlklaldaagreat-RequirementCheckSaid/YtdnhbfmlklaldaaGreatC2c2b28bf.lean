/-
  11 texts of mine in one.
-/
import Derived.Test.YtdnhbfmlklaldaaGreatCb1b7f320
import Derived.Test.YtdnhbfmlklaldaaGreatC1d38dafb
import Derived.Test.YtdnhbfmlklaldaaGreatC86a19a23
import Derived.Test.YtdnhbfmlklaldaaGreatCbdac06b7
import Derived.Test.YtdnhbfmlklaldaaGreatC38e3cab2
import Derived.Test.YtdnhbfmlklaldaaGreatC7c8506f3
import Derived.Test.YtdnhbfmlklaldaaGreatC3f3e5205
set_option maxRecDepth 20000
set_option maxHeartbeats 4000000
open List renaming map_take → zA, map_drop → zB, map_set → zC, map_append → zD, drop_one → zE
set_option linter.unusedSimpArgs false
set_option linter.unusedVariables false
namespace Go.Proofs.YtdnhbfmlklaldaaGreat
open Go Go.Am
theorem zx8y (f:Fnd):Runs tbl0 a91 [.agg (fnC f)] (.bool (zk2r f)):=by
 refine ⟨?_⟩
 by_cases h3:f.st=3
 ·simp (disch:=first|omega|simp<;>omega|fail) [-zA,-zB,-zC,-zD,-zE,a91,h3,zk2r]
 ·simp (disch:=first|omega|simp<;>omega|fail) [-zA,-zB,-zC,-zD,-zE,a91,h3,zk2r]
noncomputable def cIsO:List DV→Option DV:=con (fun _=>True) (fun f:Fnd=>[.agg (fnC f)]) (fun f => .bool (zk2r f))
theorem z7g3 {f:Fnd}:cIsO [.agg (fnC f)]=some (.bool (zk2r f)):=zsn4 (f:=fun f:Fnd=>[.agg (fnC f)]) (g:=fun f => .bool (zk2r f)) (fun a b e=>by simp only [List.cons.injEq,DV.agg.injEq,and_true] at e; exact ziuj e) f
theorem zoxb:(Con.pure cIsO).Sound P 91:=z2au fun f _=>zljw mix zr5o Tryz.func91 z07s (zx8y f)
theorem z9kb {l:List Fnd} {f:Fnd} {s:Int}:decS (l++[f]) s=decS l s++(if s≤f.sev then f.dd.l else []):=by
 unfold decS
 rw [List.filter_append,List.flatMap_append]
 congr 1
 by_cases h:s≤f.sev<;>simp [List.filter,h]
theorem zvpp {l:List Fnd} {f:Fnd} {s:Int}:(zcm1 (l++[f]) s).length=(zcm1 l s).length+(if zk2r f&&decide (s≤f.sev) then 1 else 0):=by
 unfold zcm1
 rw [List.filter_append,List.length_append]
 congr 1
 cases h:zk2r f&&decide (s≤f.sev)<;>simp [List.filter,h]
structure FnOK (l:List Fnd):Prop where
 n:l.length≤20
 d : ∀ f ∈ l,f.dd.l.length≤40000
theorem zrbi {l:List Fnd} {s:Int} (hn:l.length≤20) (hd : ∀ f ∈ l,f.dd.l.length≤40000):(decS l s).length≤800000:=by
 have a:=zqok (f:=fun f:Fnd=>f.dd.l) (m:=40000) (l:=l.filter fun f=>decide (s≤f.sev)) fun f hf=>hd f (List.mem_filter.1 hf).1
 have b:=List.length_filter_le (fun f:Fnd=>decide (s≤f.sev)) l
 unfold decS; omega
noncomputable def T770:Tbl:=addT 86 (.pure cUnR) (addT 91 (.pure cIsO) tbl0)
theorem zefd:T770 86 = .pure cUnR:=by simp [T770]
theorem zdd4:T770 91 = .pure cIsO:=by simp [T770]
theorem znuq:T770.Sound P:=z0rp zuhn (z0rp zoxb zr5o)
def S770 (x:Sl Fnd) (s:Int) (i:Nat):St:=znp4 (x.dv 39 fnC) (.int .i64 s) ((unR nilS (decS (x.l.take i) s)).dv 32 dgC) (.int .i64 (zcm1 (x.l.take i) s).length) (.int .i64 i) []
theorem zlj5 (x:Sl Fnd) (s:Int) (ok:FnOK x.l):Runs T770 a53 [x.dv 39 fnC,.int .i64 s] (.tup [(unR nilS (decS x.l s)).dv 32 dgC,.int .i64 (zcm1 x.l s).length]):=by
 refine ⟨?_⟩
 have hxn:=ok.n
 simp (disch:=first|omega|simp<;>omega|fail) [-zA,-zB,-zC,-zD,-zE,a53]
 refine zlm5 (S770 x s) (fun i=>x.l.length-i) (fun i=>i≤x.l.length) 0 (z515 (by simp (disch:=first|omega|simp<;>omega|fail) [-zA,-zB,-zC,-zD,-zE,S770,znp4,decS,zcm1,unR,z68u]) (by simp (disch:=first|omega|simp<;>omega|fail) [-zA,-zB,-zC,-zD,-zE,S770,znp4])) (by omega) (fun i hi => ?_)
 simp only [S770]
 by_cases h:i<x.l.length
 ·have h':(i:Int)<x.l.length:=by omega
  have hg : ∀ H,zpsc H 39 (x.dv 39 fnC) i=some (.ref (fnC x.l[i])):=fun H=>zalo z0o0 h
  obtain ⟨F,hF⟩ : ∃ F,x.l[i]=F:=⟨_,rfl⟩
  have ht:x.l.take (i+1)=x.l.take i++[F]:=by rw [List.take_succ_eq_append_getElem h,hF]
  have h1:=z9kb (l:=x.l.take i) (f:=F) (s:=s)
  have h2:=zvpp (l:=x.l.take i) (f:=F) (s:=s)
  rw [← ht] at h1 h2
  have hdF:F.dd.l.length≤40000:=by rw [← hF]; exact ok.d _ (List.getElem_mem h)
  have hdl:=zrbi (l:=x.l.take i) (s:=s) (by rw [List.length_take]; omega) (fun f hf=>ok.d f (List.mem_of_mem_take hf))
  have hul:(unR nilS (decS (x.l.take i) s)).l.length≤800000:=by
   rw [zptr _ _ (by simp [zb11]; omega)]
   have:=z8bn (nilS:Sl Dg).l (decS (x.l.take i) s)
   simp only [zb11,List.length_nil] at this ⊢
   omega
  have hol:(zcm1 (x.l.take i) s).length≤i:=by
   have:=List.length_filter_le (fun f:Fnd=>zk2r f&&decide (s≤f.sev)) (x.l.take i)
   rw [List.length_take] at this; unfold zcm1; omega
  rw [hF] at hg
  have hu:=zsy2 (x:=unR nilS (decS (x.l.take i) s)) (y:=F.dd) (by unfold UnOK; omega)
  rw [← zu06] at hu
  have hio:=z7g3 (f:=F)
  by_cases g:F.sev<s
  ·rw [if_neg (by omega),List.append_nil] at h1
   rw [decide_eq_false (show ¬ s≤F.sev by omega),Bool.and_false] at h2
   have h2:(zcm1 (x.l.take (i+1)) s).length=(zcm1 (x.l.take i) s).length:=h2
   obtain ⟨A,hA⟩ : ∃ A,unR nilS (decS (x.l.take i) s)=A:=⟨_,rfl⟩
   rw [hA]
   simp (disch:=first|omega|simp<;>omega|fail) [-zA,-zB,-zC,-zD,-zE,zt7b,znp4,h,h',hg,g]
   exact ⟨i+1,z515 (by simp (disch:=first|omega|simp<;>omega|fail) [-zA,-zB,-zC,-zD,-zE,S770,znp4,h1,h2,hA]) (by simp (disch:=first|omega|simp<;>omega|fail) [-zA,-zB,-zC,-zD,-zE,S770,znp4]),by omega,by omega⟩
  ·rw [if_pos (by omega)] at h1
   rw [decide_eq_true (show s≤F.sev by omega),Bool.and_true] at h2
   rw [← h1] at hu
   obtain ⟨A,hA⟩ : ∃ A,unR nilS (decS (x.l.take i) s)=A:=⟨_,rfl⟩
   obtain ⟨B,hB⟩ : ∃ B,unR nilS (decS (x.l.take (i+1)) s)=B:=⟨_,rfl⟩
   obtain ⟨n,hn⟩ : ∃ n,(zcm1 (x.l.take i) s).length=n:=⟨_,rfl⟩
   rw [hA,hB] at hu
   rw [hA,hn]
   rw [hn] at h2 hol
   cases ho:zk2r F with
   | true =>
    have h2:(zcm1 (x.l.take (i+1)) s).length=n+1:=by rw [h2,ho]; rfl
    simp (disch:=first|omega|simp<;>omega|fail) [-zA,-zB,-zC,-zD,-zE,zt7b,znp4,h,h',hg,g,zefd,zdd4,hu,hio,ho]
    exact ⟨i+1,z515 (by simp (disch:=first|omega|simp<;>omega|fail) [-zA,-zB,-zC,-zD,-zE,S770,znp4,h2,hB]) (by simp (disch:=first|omega|simp<;>omega|fail) [-zA,-zB,-zC,-zD,-zE,S770,znp4]),by omega,by omega⟩
   | false =>
    have h2:(zcm1 (x.l.take (i+1)) s).length=n:=by rw [h2,ho]; rfl
    simp (disch:=first|omega|simp<;>omega|fail) [-zA,-zB,-zC,-zD,-zE,zt7b,znp4,h,h',hg,g,zefd,zdd4,hu,hio,ho]
    exact ⟨i+1,z515 (by simp (disch:=first|omega|simp<;>omega|fail) [-zA,-zB,-zC,-zD,-zE,S770,znp4,h2,hB]) (by simp (disch:=first|omega|simp<;>omega|fail) [-zA,-zB,-zC,-zD,-zE,S770,znp4]),by omega,by omega⟩
 ·have h':¬ (i:Int)<x.l.length:=by omega
  rw [List.take_of_length_le (show x.l.length≤i by omega)]
  simp (disch:=first|omega|simp<;>omega|fail) [-zA,-zB,-zC,-zD,-zE,zt7b,znp4,h,h']
noncomputable def cClo:List DV→Option DV:=con (fun a:Sl Fnd × Int=>FnOK a.1.l) (fun a=>[a.1.dv 39 fnC,.int .i64 a.2]) (fun a => .tup [(unR nilS (decS a.1.l a.2)).dv 32 dgC,.int .i64 (zcm1 a.1.l a.2).length])
theorem zd3s {x:Sl Fnd} {s:Int} (h:FnOK x.l):cClo [x.dv 39 fnC,.int .i64 s]=some (.tup [(unR nilS (decS x.l s)).dv 32 dgC,.int .i64 (zcm1 x.l s).length]) :=
 zlyi (A:=fun a:Sl Fnd × Int=>FnOK a.1.l) (f:=fun a:Sl Fnd × Int=>[a.1.dv 39 fnC,.int .i64 a.2]) (g:=fun a => .tup [(unR nilS (decS a.1.l a.2)).dv 32 dgC,.int .i64 (zcm1 a.1.l a.2).length]) (by
  rintro ⟨a,b⟩ ⟨c,d⟩ e
  simp only [List.cons.injEq,DV.int.injEq,and_true,true_and] at e
  rw [zedu e.1,e.2]) (x,s) h
theorem zb3p:(Con.pure cClo).Sound P 53:=z2au fun a h=>zljw mix znuq Tryz.func53 zzvp (zlj5 a.1 a.2 h)
theorem z92p {l:List Fnd} {f:Fnd}:zu7t (l++[f])=zu7t l+(if f.con then 1 else 0):=by
 unfold zu7t
 rw [List.filter_append,List.length_append]
 cases h:f.con<;>simp [List.filter,h]
theorem z4gv (l:List Fnd):0≤zu7t l∧zu7t l≤l.length:=by
 have:=List.length_filter_le (fun f:Fnd=>f.con) l
 unfold zu7t; omega
def S771 (c:Cas) (i:Nat):St:=z0ky (.mp 0 36 0) (.int .i64 (c.d.l.length+zu7t (c.n.l.take i))) (.int .i64 i) [.cells (caC c)]
theorem z5yw (c:Cas) (hn:c.n.l.length≤1000000) (hd:c.d.l.length≤1000000):Runs tbl0 a87 [.agg (caC c)] (.int .i64 (zu7t c.n.l+c.d.l.length)):=by
 refine ⟨?_⟩
 simp (disch:=first|omega|simp<;>omega|fail) [-zA,-zB,-zC,-zD,-zE,a87]
 refine zlm5 (S771 c) (fun i=>c.n.l.length-i) (fun i=>i≤c.n.l.length) 0 (z515 (by simp (disch:=first|omega|simp<;>omega|fail) [-zA,-zB,-zC,-zD,-zE,S771,z0ky,zu7t]) (by simp (disch:=first|omega|simp<;>omega|fail) [-zA,-zB,-zC,-zD,-zE,S771,z0ky])) (by omega) (fun i hi => ?_)
 simp only [S771]
 by_cases h:i<c.n.l.length
 ·have h':(i:Int)<c.n.l.length:=by omega
  have hg : ∀ H,zpsc H 39 (c.n.dv 39 fnC) i=some (.ref (fnC c.n.l[i])):=fun H=>zalo z0o0 h
  obtain ⟨F,hF⟩ : ∃ F,c.n.l[i]=F:=⟨_,rfl⟩
  have hs:=z92p (l:=c.n.l.take i) (f:=F)
  rw [← hF,← List.take_succ_eq_append_getElem h,hF] at hs
  have hb:=z4gv (c.n.l.take i)
  rw [List.length_take] at hb
  rw [hF] at hg
  obtain ⟨m,hm⟩ : ∃ m,zu7t (c.n.l.take i)=m:=⟨_,rfl⟩
  rw [hm] at hs hb ⊢
  have hw:IntKind.i64.wrap ((c.d.l.length:Int)+m+1)=c.d.l.length+m+1:=by rw [IntKind.wrap_i64]; omega
  cases hc:F.con with
  | true =>
   have hs:zu7t (c.n.l.take (i+1))=m+1:=by rw [hs,hc]; rfl
   simp (disch:=first|omega|simp<;>omega|fail) [-zA,-zB,-zC,-zD,-zE,zdyu,z0ky,h,h',hg,hc,hw]
   exact ⟨i+1,z515 (by simp (disch:=first|omega|simp<;>omega|fail) [-zA,-zB,-zC,-zD,-zE,S771,z0ky,hs,Int.add_assoc]) (by simp (disch:=first|omega|simp<;>omega|fail) [-zA,-zB,-zC,-zD,-zE,S771,z0ky]),by omega,by omega⟩
  | false =>
   have hs:zu7t (c.n.l.take (i+1))=m:=by rw [hs,hc]; simp
   simp (disch:=first|omega|simp<;>omega|fail) [-zA,-zB,-zC,-zD,-zE,zdyu,z0ky,h,h',hg,hc]
   exact ⟨i+1,z515 (by simp (disch:=first|omega|simp<;>omega|fail) [-zA,-zB,-zC,-zD,-zE,S771,z0ky,hs]) (by simp (disch:=first|omega|simp<;>omega|fail) [-zA,-zB,-zC,-zD,-zE,S771,z0ky]),by omega,by omega⟩
 ·have h':¬ (i:Int)<c.n.l.length:=by omega
  rw [List.take_of_length_le (show c.n.l.length≤i by omega),Int.add_comm]
  simp (disch:=first|omega|simp<;>omega|fail) [-zA,-zB,-zC,-zD,-zE,zdyu,z0ky,h,h']
noncomputable def cCoR:List DV→Option DV:=con (fun c:Cas=>c.n.l.length≤1000000∧c.d.l.length≤1000000) (fun c=>[.agg (caC c)]) (fun c => .int .i64 (zu7t c.n.l+c.d.l.length))
theorem zhc6 {c:Cas} (h:c.n.l.length≤1000000) (h2:c.d.l.length≤1000000):cCoR [.agg (caC c)]=some (.int .i64 (zu7t c.n.l+c.d.l.length)) :=
 zlyi (A:=fun c:Cas=>c.n.l.length≤1000000∧c.d.l.length≤1000000) (f:=fun c:Cas=>[.agg (caC c)]) (g:=fun c => .int .i64 (zu7t c.n.l+c.d.l.length)) (fun a b e=>by simp only [List.cons.injEq,DV.agg.injEq,and_true] at e; rw [zejx e]) c ⟨h,h2⟩
theorem zub3:(Con.pure cCoR).Sound P 87:=z2au fun c h=>zljw mix zr5o Tryz.func87 zfhg (z5yw c h.1 h.2)
noncomputable def T772:Tbl:=addT 59 (.pure zta3) tbl0
theorem zu98:T772 59 = .pure zta3:=by simp [T772]
theorem z0k0:T772.Sound P:=z0rp zp63 zr5o
theorem zemn (a b:Org):Runs T772 a32 [.agg (orC a),.agg (orC b)] (.bool (orLt a b)):=by
 refine ⟨?_⟩
 have t1 : ∀ (o:Org),(orC o).take 32=dgC o.rev:=fun o=>List.take_left' (z1t1 _)
 by_cases h1:a.rev=b.rev
 ·by_cases h2:a.lay=b.lay
  ·simp (disch:=first|omega|simp<;>omega|fail) [-zA,-zB,-zC,-zD,-zE,a32,h1,h2,orLt,zynh]
  ·simp (disch:=first|omega|simp<;>omega|fail) [-zA,-zB,-zC,-zD,-zE,a32,h1,h2,orLt,zynh]
 ·have hc:=z577 (a:=a.rev) (b:=b.rev)
  simp (disch:=first|omega|simp<;>omega|fail) [-zA,-zB,-zC,-zD,-zE,a32,h1,orLt,zynh,zu98,hc]
noncomputable def cLsO:List DV→Option DV:=con (fun _=>True) (fun a:Org × Org=>[.agg (orC a.1),.agg (orC a.2)]) (fun a => .bool (orLt a.1 a.2))
theorem z92d {a b:Org}:cLsO [.agg (orC a),.agg (orC b)]=some (.bool (orLt a b)) :=
 zsn4 (f:=fun a:Org × Org=>[.agg (orC a.1),.agg (orC a.2)]) (g:=fun a => .bool (orLt a.1 a.2)) (by
  rintro ⟨a,b⟩ ⟨c,d⟩ e
  simp only [List.cons.injEq,DV.agg.injEq,and_true] at e
  rw [zc65 e.1,zc65 e.2]) (a,b)
theorem zarw:(Con.pure cLsO).Sound P 32:=z2au fun a _=>zljw mix z0k0 Tryz.func32 zvrg (zemn a.1 a.2)
end Go.Proofs.YtdnhbfmlklaldaaGreat
set_option linter.unusedSimpArgs false
set_option linter.unusedVariables false
namespace Go.Proofs.YtdnhbfmlklaldaaGreat
open Go Go.Am
def zpgi (c:Cas) (x:Sl Fct):Cas:={ c with f:=x }
def pkL (c:Cas) (x:Sl Fct) (o:Org) (q:Req):List Fct:=zgw4 (zpgi c x) o q x.l
def zjj5 (c:Cas) (s:Sup) (n:Int):Sup:=if 0<(zcm1 c.n.l n).length then zcc9 (zcm1 c.n.l n).length else { s with docs:=unR s.docs (unR nilS (decS c.n.l n)).l }
def supR (c:Cas) (x:Sl Fct) (o:Org) (q:Req):Sup :=
 if q.kind=1∨q.kind=3 then z0l6 (pkL c x o q) q.n
 else if q.kind=4 then zhjf (zgw4 c o q c.f.l) (pkL c x o q) q
 else if q.kind=5 then zu6h (pkL c x o q) q.n
 else if q.kind=6 then (if (zods (pkL c x o q)).holds then zjj5 c (zods (pkL c x o q)) q.n else zods (pkL c x o q))
 else if q.kind=8 then (if (zods (pkL c x o q)).holds&&decide (0<zu7t c.n.l+c.d.l.length) then zcc9 (zu7t c.n.l+c.d.l.length) else zods (pkL c x o q))
 else zods (pkL c x o q)
structure SuOK (c:Cas) (x:Sl Fct) (q:Req):Prop where
 a:RfOK x.l
 f:c.f.l.length≤1000000
 n:FnOK c.n.l
 d:c.d.l.length≤1000000
 q1:q.kind=1∨q.kind=3∨q.kind=4∨q.kind=5 → -1000000≤q.n∧q.n≤1000000
 q2:q.kind=4 → -1000000≤q.m∧q.m≤1000000
theorem zuqh {c:Cas} {x:Sl Fct} {o:Org} {q:Req} (h:RfOK x.l):RfOK (pkL c x o q):=⟨by have:=List.length_filter_le (fitR (zpgi c x) o q) x.l; have:=h.n; unfold pkL zgw4; omega,fun f hf=>h.d f (List.mem_filter.1 hf).1⟩
theorem zxd0 {l:List Fct} (h:RfOK l):(zods l).docs.l.length≤1000:=by
 unfold zods
 split
 ·simp [zcc9,zb11]
 ·rename_i f r
  have hd:=h.d f (by simp)
  simp only
  rw [zptr _ _ (by simp [zb11]; omega)]
  have:=z8bn (nilS:Sl Dg).l f.docs.l
  simp only [zb11,List.length_nil] at this ⊢
  omega
noncomputable def T780:Tbl:=addT 81 (.pure cPkR) (addT 82 (.pure cEnR) (addT 83 (.pure cRbR) (addT 84 (.pure cLiR) (addT 85 (.pure cSoR) (addT 53 (.pure cClo) (addT 86 (.pure cUnR) (addT 87 (.pure cCoR) tbl0)))))))
theorem z3um:T780 81 = .pure cPkR:=by simp [T780]
theorem z5c4:T780 82 = .pure cEnR:=by simp [T780]
theorem zzt1:T780 83 = .pure cRbR:=by simp [T780]
theorem zo8j:T780 84 = .pure cLiR:=by simp [T780]
theorem zdij:T780 85 = .pure cSoR:=by simp [T780]
theorem z37c:T780 53 = .pure cClo:=by simp [T780]
theorem zzjc:T780 86 = .pure cUnR:=by simp [T780]
theorem zqmq:T780 87 = .pure cCoR:=by simp [T780]
theorem z4vw:T780.Sound P:=z0rp zk1i (z0rp z2rm (z0rp z6n1 (z0rp zf9c (z0rp z1cp (z0rp zb3p (z0rp zuhn (z0rp zub3 zr5o)))))))
theorem z96t (c:Cas) (x:Sl Fct) (o:Org) (q:Req) (ok:SuOK c x q):Runs T780 a44 [.agg (caC c),x.dv 71 faC,.agg (orC o),.agg (rqC q)] (.agg (suC (supR c x o q))):=by
 refine ⟨?_⟩
 have hset : ∀ H:List AObj,zy6o H 4 1 33 (x.dv 71 faC) (some (caC c))=some (.junk,H.set 4 (.cells (caC (zpgi c x)))):=fun H=>by
  rw [zltg (zs9p _) (z4ja _) (by rw [zt8w]; decide),zfzb]; rfl
 have hxn:=ok.a.n
 have hcf:=ok.f
 have hp:=zdry (c:=zpgi c x) (o:=o) (q:=q) (by show x.l.length≤1000000; omega)
 have hp2:=zdry (c:=c) (o:=o) (q:=q) hcf
 have hpo:=zuqh (c:=c) (o:=o) (q:=q) ok.a
 have hpl:zgw4 (zpgi c x) o q (zpgi c x).f.l=pkL c x o q:=rfl
 rw [hpl] at hp
 have hown:(ownN (pkL c x o q)).l=pkL c x o q:=zd8n (by have:=hpo.n; omega)
 have hown2:(ownN (zgw4 c o q c.f.l)).l=zgw4 c o q c.f.l:=zd8n (by have:=List.length_filter_le (fitR c o q) c.f.l; unfold zgw4; omega)
 have hn1:=ok.q1
 have hn2:=ok.q2
 have he:=fun g=>zdqm (x:=ownN (pkL c x o q)) (n:=q.n) (by rw [hown]; exact hpo) (hn1 g).1 (Int.le_trans (hn1 g).2 (by decide))
 have hr:=fun (g:q.kind=4)=>z9iz (l:=ownN (zgw4 c o q c.f.l)) (x:=ownN (pkL c x o q)) (q:=q) (by rw [hown,hown2]; exact ⟨by have:=List.length_filter_le (fitR c o q) c.f.l; unfold zgw4; omega,hpo,hn1 (.inr (.inr (.inl g))),hn2 g⟩)
 have hl:=fun g=>z3mz (x:=ownN (pkL c x o q)) (q:=q) (by rw [hown]; exact hpo) (hn1 g).1 (hn1 g).2
 have hs:=z780 (x:=ownN (pkL c x o q)) (by rw [hown]; exact hpo)
 have hc:=zd3s (x:=c.n) (s:=q.n) ok.n
 have hk:=zhc6 (c:=c) (by have:=ok.n.n; omega) ok.d
 have hsd:=zxd0 hpo
 have hdl:=zrbi (l:=c.n.l) (s:=q.n) ok.n.n ok.n.d
 have hul:(unR nilS (decS c.n.l q.n)).l.length≤800000:=by
  rw [zptr _ _ (by simp [zb11]; omega)]
  have:=z8bn (nilS:Sl Dg).l (decS c.n.l q.n)
  simp only [zb11,List.length_nil] at this ⊢
  omega
 rw [hown] at hs
 simp only [hown] at he hl
 simp only [hown,hown2] at hr
 obtain ⟨L,hL⟩ : ∃ L,pkL c x o q=L:=⟨_,rfl⟩
 obtain ⟨LV,hLV⟩ : ∃ LV:Sl Fct,ownN L=LV:=⟨_,rfl⟩
 rw [hL] at hp hs hsd
 simp only [hL] at he hr hl
 rw [hLV] at hp hs
 simp only [hLV] at he hr hl
 obtain ⟨A,hA⟩ : ∃ A,unR nilS (decS c.n.l q.n)=A:=⟨_,rfl⟩
 rw [hA] at hc hul
 obtain ⟨S,hS⟩ : ∃ S,zods L=S:=⟨_,rfl⟩
 rw [hS] at hs hsd
 have hu:=zsy2 (x:=S.docs) (y:=A) (by unfold UnOK; omega)
 obtain ⟨R,hR⟩ : ∃ R,supR c x o q=R:=⟨_,rfl⟩
 have hR0:=hR
 unfold supR at hR
 rw [hL,hS] at hR
 rw [hR0]
 obtain ⟨m,hm⟩ : ∃ m,zu7t c.n.l+(c.d.l.length:Int)=m:=⟨_,rfl⟩
 rw [hm] at hk hR
 obtain ⟨w,hw⟩ : ∃ w,(zcm1 c.n.l q.n).length=w:=⟨_,rfl⟩
 rw [hw] at hc
 have hst1 : ∀ (H:List AObj) (B:Sl Dg),zy6o H 5 1 1 (B.dv 32 dgC) (some (suC S))=some (.junk,H.set 5 (.cells (suC { S with docs:=B }))):=fun H B=>by
  rw [zltg (zs9p _) (z4ja _) (by rw [z16g]; decide)]; rfl
 by_cases k1:q.kind=1
 ·simp only [k1] at hR; simp at hR; subst hR
  simp (disch:=first|omega|simp<;>omega|fail) [-zA,-zB,-zC,-zD,-zE,a44,hset,z3um,hp,z559,z438,z23v,k1,z5c4,he (.inl k1)]
 by_cases k3:q.kind=3
 ·simp only [k3] at hR; simp at hR; subst hR
  simp (disch:=first|omega|simp<;>omega|fail) [-zA,-zB,-zC,-zD,-zE,a44,hset,z3um,hp,z559,z438,z23v,k3,z5c4,he (.inr (.inl k3))]
 by_cases k4:q.kind=4
 ·simp only [k4] at hR; simp at hR; subst hR
  simp (disch:=first|omega|simp<;>omega|fail) [-zA,-zB,-zC,-zD,-zE,a44,hset,z3um,hp,z559,z438,z23v,k4,zzt1,hp2,hr k4]
 by_cases k5:q.kind=5
 ·simp only [k5] at hR; simp at hR; subst hR
  simp (disch:=first|omega|simp<;>omega|fail) [-zA,-zB,-zC,-zD,-zE,a44,hset,z3um,hp,z559,z438,z23v,k5,zo8j,hl (.inr (.inr (.inr k5)))]
 by_cases k6:q.kind=6
 ·simp only [k6] at hR
  cases g:S.holds with
  | false =>
   simp [g] at hR; subst hR
   simp (disch:=first|omega|simp<;>omega|fail) [-zA,-zB,-zC,-zD,-zE,a44,hset,z3um,hp,z559,z438,z23v,k6,zdij,hs,g,zqmq,hk]
  | true =>
   by_cases g2:0<w
   ·have g2':(0:Int)<w:=by omega
    simp [g,zjj5,hw,g2] at hR; subst hR
    simp (disch:=first|omega|simp<;>omega|fail) [-zA,-zB,-zC,-zD,-zE,a44,hset,z3um,hp,z559,z438,z23v,k6,zdij,hs,g,z37c,hc,g2,g2',ze83]
   ·have g2':¬ (0:Int)<w:=by omega
    simp [g,zjj5,hw,g2,hA] at hR; subst hR
    simp (disch:=first|omega|simp<;>omega|fail) [-zA,-zB,-zC,-zD,-zE,a44,hset,z3um,hp,z559,z438,z23v,k6,zdij,hs,g,z37c,hc,g2,g2',zzjc,hu,hst1,zqmq,hk]
 by_cases k8:q.kind=8
 ·simp only [k8] at hR
  cases g:S.holds with
  | false =>
   simp [g] at hR; subst hR
   simp (disch:=first|omega|simp<;>omega|fail) [-zA,-zB,-zC,-zD,-zE,a44,hset,z3um,hp,z559,z438,z23v,k8,zdij,hs,g,zqmq,hk]
  | true =>
   by_cases g2:0<m
   ·simp [g,g2] at hR; subst hR
    simp (disch:=first|omega|simp<;>omega|fail) [-zA,-zB,-zC,-zD,-zE,a44,hset,z3um,hp,z559,z438,z23v,k8,zdij,hs,g,zqmq,hk,g2,ze83]
   ·simp [g,g2] at hR; subst hR
    simp (disch:=first|omega|simp<;>omega|fail) [-zA,-zB,-zC,-zD,-zE,a44,hset,z3um,hp,z559,z438,z23v,k8,zdij,hs,g,zqmq,hk,g2]
 simp [k1,k3,k4,k5,k6,k8] at hR; subst hR
 simp (disch:=first|omega|simp<;>omega|fail) [-zA,-zB,-zC,-zD,-zE,a44,hset,z3um,hp,z559,z438,z23v,k1,k3,k4,k5,k6,k8,zdij,hs,zqmq,hk]
noncomputable def cSpR:List DV→Option DV:=con (fun a:Cas × Sl Fct × Org × Req=>SuOK a.1 a.2.1 a.2.2.2) (fun a=>[.agg (caC a.1),a.2.1.dv 71 faC,.agg (orC a.2.2.1),.agg (rqC a.2.2.2)]) (fun a => .agg (suC (supR a.1 a.2.1 a.2.2.1 a.2.2.2)))
theorem zgo8 {c:Cas} {x:Sl Fct} {o:Org} {q:Req} (h:SuOK c x q):cSpR [.agg (caC c),x.dv 71 faC,.agg (orC o),.agg (rqC q)]=some (.agg (suC (supR c x o q))) :=
 zlyi (A:=fun a:Cas × Sl Fct × Org × Req=>SuOK a.1 a.2.1 a.2.2.2) (f:=fun a:Cas × Sl Fct × Org × Req=>[.agg (caC a.1),a.2.1.dv 71 faC,.agg (orC a.2.2.1),.agg (rqC a.2.2.2)]) (g:=fun a => .agg (suC (supR a.1 a.2.1 a.2.2.1 a.2.2.2))) (by
  rintro ⟨a,b,c,d⟩ ⟨a',b',c',d'⟩ e
  simp only [List.cons.injEq,DV.agg.injEq,and_true] at e
  rw [zejx e.1,z4rf e.2.1,zc65 e.2.2.1,z82b e.2.2.2]) (c,x,o,q) h
theorem zo28:(Con.pure cSpR).Sound P 44:=z2au fun a h=>zljw mix z4vw Tryz.func44 zeo7 (z96t a.1 a.2.1 a.2.2.1 a.2.2.2 h)
end Go.Proofs.YtdnhbfmlklaldaaGreat
set_option linter.unusedSimpArgs false
set_option linter.unusedVariables false
namespace Go.Proofs.YtdnhbfmlklaldaaGreat
open Go Go.Am
noncomputable def cNaR:List DV→Option DV
 | [.str s]=>some (.bool (zt9v s))|_=>none
theorem zkdv {s:Str}:cNaR [.str s]=some (.bool (zt9v s)):=rfl
def S790 (s:Str) (i:Nat):St:=zjnt (.str s) (.int .i64 i) []
theorem z6tu (s:Str):Runs tbl0 a79 [.str s] (.bool (zt9v s)):=by
 refine ⟨?_⟩
 have no:¬ (1≤s.length∧s.length≤64 ∧ ∀ j (h:j<s.length),zh9a (decide (j=0)) s[j]=true)→zt9v s=false:=fun h=>by
  cases q:zt9v s with
  | false=>rfl
  | true=>exact absurd (zg1n.1 q) h
 by_cases h0:s=[]
 ·have hr:zt9v s=false:=no (by rw [h0]; simp)
  simp (disch:=first|omega|simp<;>omega|fail) [-zA,-zB,-zC,-zD,-zE,a79,h0,hr]
  rw [h0] at hr
  simp (disch:=first|omega|simp<;>omega|fail) [-zA,-zB,-zC,-zD,-zE,hr]
 have hpos:0<s.length:=List.length_pos_iff.2 h0
 have h0':¬ DV.str s=DV.str []:=fun e=>h0 (by simpa using e)
 by_cases h2:64<s.length
 ·have h2':(64:Int)<s.length:=by omega
  have hr:zt9v s=false:=no (by omega)
  simp (disch:=first|omega|simp<;>omega|fail) [-zA,-zB,-zC,-zD,-zE,a79,h0,h2,h2',hr]
 have h2':¬ (64:Int)<s.length:=by omega
 obtain ⟨c0,hc0⟩ : ∃ c,s[0].toBitVec=c:=⟨_,rfl⟩
 have bad:(c0=46#8∨c0=95#8∨c0=45#8)→zt9v s=false:=fun e=>no fun ⟨_,_,q⟩=>by
  have:=q 0 hpos
  unfold zh9a at this
  rw [hc0] at this
  rcases e with rfl|rfl|rfl<;>simp at this
 by_cases e46:c0=46#8
 ·have hr:=bad (.inl e46)
  have b46:(c0 == 46#8)=true:=by simp [e46]
  simp (disch:=first|omega|simp<;>omega|fail) [-zA,-zB,-zC,-zD,-zE,a79,h0,h2,h2',hpos,hc0,e46,b46,hr]
 have b46:(c0 == 46#8)=false:=by simp [e46]
 by_cases e95:c0=95#8
 ·have hr:=bad (.inr (.inl e95))
  have b95:(c0 == 95#8)=true:=by simp [e95]
  simp (disch:=first|omega|simp<;>omega|fail) [-zA,-zB,-zC,-zD,-zE,a79,h0,h2,h2',hpos,hc0,e46,b46,e95,b95,hr]
 have b95:(c0 == 95#8)=false:=by simp [e95]
 by_cases e45:c0=45#8
 ·have hr:=bad (.inr (.inr e45))
  have b45:(c0 == 45#8)=true:=by simp [e45]
  simp (disch:=first|omega|simp<;>omega|fail) [-zA,-zB,-zC,-zD,-zE,a79,h0,h2,h2',hpos,hc0,e46,b46,e95,b95,e45,b45,hr]
 have b45:(c0 == 45#8)=false:=by simp [e45]
 simp (disch:=first|omega|simp<;>omega|fail) [-zA,-zB,-zC,-zD,-zE,a79,h0,h2,h2',hpos,hc0,e46,b46,e95,b95,e45,b45]
 refine zlm5 (S790 s) (fun i=>s.length-i) (fun i=>i≤s.length ∧ ∀ j (h:j<s.length),j<i→zh9a (decide (j=0)) s[j]=true) 0 (z515 (by simp (disch:=first|omega|simp<;>omega|fail) [-zA,-zB,-zC,-zD,-zE,S790,zjnt]) (by simp (disch:=first|omega|simp<;>omega|fail) [-zA,-zB,-zC,-zD,-zE,S790,zjnt])) ⟨by omega,fun j _ h=>by omega⟩ (fun i hi => ?_)
 obtain ⟨k1,k2⟩:=hi
 simp only [S790]
 by_cases h:i<s.length
 case neg =>
  have h':¬ (i:Int)<s.length:=by omega
  have hr:zt9v s=true:=zg1n.2 ⟨by omega,by omega,fun j hj=>k2 j hj (by omega)⟩
  simp (disch:=first|omega|simp<;>omega|fail) [-zA,-zB,-zC,-zD,-zE,ze3w,zjnt,h,h',hr]
 have h':(i:Int)<s.length:=by omega
 obtain ⟨c,hc⟩ : ∃ c,s[i].toBitVec=c:=⟨_,rfl⟩
 have hn:zh9a (decide (i=0)) s[i]=(((decide (97#8≤c)&&decide (c≤122#8))||(decide (48#8≤c)&&decide (c≤57#8)))||(!decide (i=0)&&(decide (c=46#8)||decide (c=95#8)||decide (c=45#8)))):=by unfold zh9a; rw [hc]
 have acc:zh9a (decide (i=0)) s[i]=true → ∀ j (h:j<s.length),j<i+1→zh9a (decide (j=0)) s[j]=true:=fun e j hj hlt=>by
  by_cases q:j=i
  ·subst q; exact e
  ·exact k2 j hj (by omega)
 have rej:zh9a (decide (i=0)) s[i]=false→zt9v s=false:=fun e=>no fun ⟨_,_,q⟩=>by
  have:=q i h
  rw [e] at this; cases this
 have hi0:(c=46#8∨c=95#8∨c=45#8)→¬ i=0:=fun e z=>by
  subst z
  rw [hc0] at hc
  subst hc
  rcases e with e|e|e
  ·exact e46 e
  ·exact e95 e
  ·exact e45 e
 by_cases a1:97#8≤c
 case neg =>
  by_cases a3:48#8≤c
  case neg =>
   by_cases q46:c=46#8
   case pos =>
    have d46:(c == 46#8)=true:=by simp [q46]
    have z:=hi0 (.inl q46)
    have e:=acc (by rw [hn]; simp [a1,a3,q46,z])
    simp (disch:=first|omega|simp<;>omega|fail) [-zA,-zB,-zC,-zD,-zE,ze3w,zjnt,h,h',hc,a1,a3,q46]
    exact ⟨i+1,z515 (by simp (disch:=first|omega|simp<;>omega|fail) [-zA,-zB,-zC,-zD,-zE,S790,zjnt]) (by simp (disch:=first|omega|simp<;>omega|fail) [-zA,-zB,-zC,-zD,-zE,S790,zjnt]),by omega,⟨by omega,e⟩⟩
   have d46:(c == 46#8)=false:=by simp [q46]
   by_cases q95:c=95#8
   case pos =>
    have d95:(c == 95#8)=true:=by simp [q95]
    have z:=hi0 (.inr (.inl q95))
    have e:=acc (by rw [hn]; simp [a1,a3,q46,d46,q95,z])
    simp (disch:=first|omega|simp<;>omega|fail) [-zA,-zB,-zC,-zD,-zE,ze3w,zjnt,h,h',hc,a1,a3,q46,d46,q95]
    exact ⟨i+1,z515 (by simp (disch:=first|omega|simp<;>omega|fail) [-zA,-zB,-zC,-zD,-zE,S790,zjnt]) (by simp (disch:=first|omega|simp<;>omega|fail) [-zA,-zB,-zC,-zD,-zE,S790,zjnt]),by omega,⟨by omega,e⟩⟩
   have d95:(c == 95#8)=false:=by simp [q95]
   by_cases q45:c=45#8
   case pos =>
    have d45:(c == 45#8)=true:=by simp [q45]
    have z:=hi0 (.inr (.inr q45))
    have e:=acc (by rw [hn]; simp [a1,a3,q46,d46,q95,d95,q45,z])
    simp (disch:=first|omega|simp<;>omega|fail) [-zA,-zB,-zC,-zD,-zE,ze3w,zjnt,h,h',hc,a1,a3,q46,d46,q95,d95,q45]
    exact ⟨i+1,z515 (by simp (disch:=first|omega|simp<;>omega|fail) [-zA,-zB,-zC,-zD,-zE,S790,zjnt]) (by simp (disch:=first|omega|simp<;>omega|fail) [-zA,-zB,-zC,-zD,-zE,S790,zjnt]),by omega,⟨by omega,e⟩⟩
   have d45:(c == 45#8)=false:=by simp [q45]
   have e:=rej (by rw [hn]; simp [a1,a3,q46,d46,q95,d95,q45,d45])
   simp (disch:=first|omega|simp<;>omega|fail) [-zA,-zB,-zC,-zD,-zE,ze3w,zjnt,h,h',hc,e,a1,a3,q46,d46,q95,d95,q45,d45]
  by_cases a4:c≤57#8
  case neg =>
   by_cases q46:c=46#8
   case pos =>
    have d46:(c == 46#8)=true:=by simp [q46]
    have z:=hi0 (.inl q46)
    have e:=acc (by rw [hn]; simp [a1,a3,a4,q46,z])
    simp (disch:=first|omega|simp<;>omega|fail) [-zA,-zB,-zC,-zD,-zE,ze3w,zjnt,h,h',hc,a1,a3,a4,q46]
    exact ⟨i+1,z515 (by simp (disch:=first|omega|simp<;>omega|fail) [-zA,-zB,-zC,-zD,-zE,S790,zjnt]) (by simp (disch:=first|omega|simp<;>omega|fail) [-zA,-zB,-zC,-zD,-zE,S790,zjnt]),by omega,⟨by omega,e⟩⟩
   have d46:(c == 46#8)=false:=by simp [q46]
   by_cases q95:c=95#8
   case pos =>
    have d95:(c == 95#8)=true:=by simp [q95]
    have z:=hi0 (.inr (.inl q95))
    have e:=acc (by rw [hn]; simp [a1,a3,a4,q46,d46,q95,z])
    simp (disch:=first|omega|simp<;>omega|fail) [-zA,-zB,-zC,-zD,-zE,ze3w,zjnt,h,h',hc,a1,a3,a4,q46,d46,q95]
    exact ⟨i+1,z515 (by simp (disch:=first|omega|simp<;>omega|fail) [-zA,-zB,-zC,-zD,-zE,S790,zjnt]) (by simp (disch:=first|omega|simp<;>omega|fail) [-zA,-zB,-zC,-zD,-zE,S790,zjnt]),by omega,⟨by omega,e⟩⟩
   have d95:(c == 95#8)=false:=by simp [q95]
   by_cases q45:c=45#8
   case pos =>
    have d45:(c == 45#8)=true:=by simp [q45]
    have z:=hi0 (.inr (.inr q45))
    have e:=acc (by rw [hn]; simp [a1,a3,a4,q46,d46,q95,d95,q45,z])
    simp (disch:=first|omega|simp<;>omega|fail) [-zA,-zB,-zC,-zD,-zE,ze3w,zjnt,h,h',hc,a1,a3,a4,q46,d46,q95,d95,q45]
    exact ⟨i+1,z515 (by simp (disch:=first|omega|simp<;>omega|fail) [-zA,-zB,-zC,-zD,-zE,S790,zjnt]) (by simp (disch:=first|omega|simp<;>omega|fail) [-zA,-zB,-zC,-zD,-zE,S790,zjnt]),by omega,⟨by omega,e⟩⟩
   have d45:(c == 45#8)=false:=by simp [q45]
   have e:=rej (by rw [hn]; simp [a1,a3,a4,q46,d46,q95,d95,q45,d45])
   simp (disch:=first|omega|simp<;>omega|fail) [-zA,-zB,-zC,-zD,-zE,ze3w,zjnt,h,h',hc,e,a1,a3,a4,q46,d46,q95,d95,q45,d45]
  have e:=acc (by rw [hn]; simp [a1,a3,a4])
  simp (disch:=first|omega|simp<;>omega|fail) [-zA,-zB,-zC,-zD,-zE,ze3w,zjnt,h,h',hc,a1,a3,a4]
  exact ⟨i+1,z515 (by simp (disch:=first|omega|simp<;>omega|fail) [-zA,-zB,-zC,-zD,-zE,S790,zjnt]) (by simp (disch:=first|omega|simp<;>omega|fail) [-zA,-zB,-zC,-zD,-zE,S790,zjnt]),by omega,⟨by omega,e⟩⟩
 by_cases a2:c≤122#8
 case neg =>
  by_cases a3:48#8≤c
  case neg =>
   by_cases q46:c=46#8
   case pos =>
    have d46:(c == 46#8)=true:=by simp [q46]
    have z:=hi0 (.inl q46)
    have e:=acc (by rw [hn]; simp [a1,a2,a3,q46,z])
    simp (disch:=first|omega|simp<;>omega|fail) [-zA,-zB,-zC,-zD,-zE,ze3w,zjnt,h,h',hc,a1,a2,a3,q46]
    exact ⟨i+1,z515 (by simp (disch:=first|omega|simp<;>omega|fail) [-zA,-zB,-zC,-zD,-zE,S790,zjnt]) (by simp (disch:=first|omega|simp<;>omega|fail) [-zA,-zB,-zC,-zD,-zE,S790,zjnt]),by omega,⟨by omega,e⟩⟩
   have d46:(c == 46#8)=false:=by simp [q46]
   by_cases q95:c=95#8
   case pos =>
    have d95:(c == 95#8)=true:=by simp [q95]
    have z:=hi0 (.inr (.inl q95))
    have e:=acc (by rw [hn]; simp [a1,a2,a3,q46,d46,q95,z])
    simp (disch:=first|omega|simp<;>omega|fail) [-zA,-zB,-zC,-zD,-zE,ze3w,zjnt,h,h',hc,a1,a2,a3,q46,d46,q95]
    exact ⟨i+1,z515 (by simp (disch:=first|omega|simp<;>omega|fail) [-zA,-zB,-zC,-zD,-zE,S790,zjnt]) (by simp (disch:=first|omega|simp<;>omega|fail) [-zA,-zB,-zC,-zD,-zE,S790,zjnt]),by omega,⟨by omega,e⟩⟩
   have d95:(c == 95#8)=false:=by simp [q95]
   by_cases q45:c=45#8
   case pos =>
    have d45:(c == 45#8)=true:=by simp [q45]
    have z:=hi0 (.inr (.inr q45))
    have e:=acc (by rw [hn]; simp [a1,a2,a3,q46,d46,q95,d95,q45,z])
    simp (disch:=first|omega|simp<;>omega|fail) [-zA,-zB,-zC,-zD,-zE,ze3w,zjnt,h,h',hc,a1,a2,a3,q46,d46,q95,d95,q45]
    exact ⟨i+1,z515 (by simp (disch:=first|omega|simp<;>omega|fail) [-zA,-zB,-zC,-zD,-zE,S790,zjnt]) (by simp (disch:=first|omega|simp<;>omega|fail) [-zA,-zB,-zC,-zD,-zE,S790,zjnt]),by omega,⟨by omega,e⟩⟩
   have d45:(c == 45#8)=false:=by simp [q45]
   have e:=rej (by rw [hn]; simp [a1,a2,a3,q46,d46,q95,d95,q45,d45])
   simp (disch:=first|omega|simp<;>omega|fail) [-zA,-zB,-zC,-zD,-zE,ze3w,zjnt,h,h',hc,e,a1,a2,a3,q46,d46,q95,d95,q45,d45]
  by_cases a4:c≤57#8
  case neg =>
   by_cases q46:c=46#8
   case pos =>
    have d46:(c == 46#8)=true:=by simp [q46]
    have z:=hi0 (.inl q46)
    have e:=acc (by rw [hn]; simp [a1,a2,a3,a4,q46,z])
    simp (disch:=first|omega|simp<;>omega|fail) [-zA,-zB,-zC,-zD,-zE,ze3w,zjnt,h,h',hc,a1,a2,a3,a4,q46]
    exact ⟨i+1,z515 (by simp (disch:=first|omega|simp<;>omega|fail) [-zA,-zB,-zC,-zD,-zE,S790,zjnt]) (by simp (disch:=first|omega|simp<;>omega|fail) [-zA,-zB,-zC,-zD,-zE,S790,zjnt]),by omega,⟨by omega,e⟩⟩
   have d46:(c == 46#8)=false:=by simp [q46]
   by_cases q95:c=95#8
   case pos =>
    have d95:(c == 95#8)=true:=by simp [q95]
    have z:=hi0 (.inr (.inl q95))
    have e:=acc (by rw [hn]; simp [a1,a2,a3,a4,q46,d46,q95,z])
    simp (disch:=first|omega|simp<;>omega|fail) [-zA,-zB,-zC,-zD,-zE,ze3w,zjnt,h,h',hc,a1,a2,a3,a4,q46,d46,q95]
    exact ⟨i+1,z515 (by simp (disch:=first|omega|simp<;>omega|fail) [-zA,-zB,-zC,-zD,-zE,S790,zjnt]) (by simp (disch:=first|omega|simp<;>omega|fail) [-zA,-zB,-zC,-zD,-zE,S790,zjnt]),by omega,⟨by omega,e⟩⟩
   have d95:(c == 95#8)=false:=by simp [q95]
   by_cases q45:c=45#8
   case pos =>
    have d45:(c == 45#8)=true:=by simp [q45]
    have z:=hi0 (.inr (.inr q45))
    have e:=acc (by rw [hn]; simp [a1,a2,a3,a4,q46,d46,q95,d95,q45,z])
    simp (disch:=first|omega|simp<;>omega|fail) [-zA,-zB,-zC,-zD,-zE,ze3w,zjnt,h,h',hc,a1,a2,a3,a4,q46,d46,q95,d95,q45]
    exact ⟨i+1,z515 (by simp (disch:=first|omega|simp<;>omega|fail) [-zA,-zB,-zC,-zD,-zE,S790,zjnt]) (by simp (disch:=first|omega|simp<;>omega|fail) [-zA,-zB,-zC,-zD,-zE,S790,zjnt]),by omega,⟨by omega,e⟩⟩
   have d45:(c == 45#8)=false:=by simp [q45]
   have e:=rej (by rw [hn]; simp [a1,a2,a3,a4,q46,d46,q95,d95,q45,d45])
   simp (disch:=first|omega|simp<;>omega|fail) [-zA,-zB,-zC,-zD,-zE,ze3w,zjnt,h,h',hc,e,a1,a2,a3,a4,q46,d46,q95,d95,q45,d45]
  have e:=acc (by rw [hn]; simp [a1,a2,a3,a4])
  simp (disch:=first|omega|simp<;>omega|fail) [-zA,-zB,-zC,-zD,-zE,ze3w,zjnt,h,h',hc,a1,a2,a3,a4]
  exact ⟨i+1,z515 (by simp (disch:=first|omega|simp<;>omega|fail) [-zA,-zB,-zC,-zD,-zE,S790,zjnt]) (by simp (disch:=first|omega|simp<;>omega|fail) [-zA,-zB,-zC,-zD,-zE,S790,zjnt]),by omega,⟨by omega,e⟩⟩
 have e:=acc (by rw [hn]; simp [a1,a2])
 simp (disch:=first|omega|simp<;>omega|fail) [-zA,-zB,-zC,-zD,-zE,ze3w,zjnt,h,h',hc,a1,a2]
 exact ⟨i+1,z515 (by simp (disch:=first|omega|simp<;>omega|fail) [-zA,-zB,-zC,-zD,-zE,S790,zjnt]) (by simp (disch:=first|omega|simp<;>omega|fail) [-zA,-zB,-zC,-zD,-zE,S790,zjnt]),by omega,⟨by omega,e⟩⟩
theorem zf5z:(Con.pure cNaR).Sound P 79:=by
 intro args v e
 unfold cNaR at e
 split at e
 ·simp at e; subst e; exact zljw mix zr5o Tryz.func79 zaq4 (z6tu _)
 ·simp at e
end Go.Proofs.YtdnhbfmlklaldaaGreat
set_option linter.unusedSimpArgs false
set_option linter.unusedVariables false
namespace Go.Proofs.YtdnhbfmlklaldaaGreat
open Go Go.Am
noncomputable def T792:Tbl:=addT 79 (.pure cNaR) (addT 80 (.pure cTm) tbl0)
theorem z299:T792 79 = .pure cNaR:=by simp [T792]
theorem zu7s:T792 80 = .pure cTm:=by simp [T792]
theorem zjsq:T792.Sound P:=z0rp zf5z (z0rp ztmd zr5o)
theorem zilq (q:Req):Runs T792 a43 [.agg (rqC q)] (.bool (reqB q)):=by
 refine ⟨?_⟩
 by_cases k1:q.kind=1
 ·by_cases n1:1≤q.n
  ·by_cases n2:q.n≤32
   ·by_cases m0:q.m=0
    ·by_cases t0:q.text=[]
     ·have hr:reqB q=true:=by simp [reqB,inB,k1,n1,n2,m0,t0]
      simp (disch:=first|omega|simp<;>omega|fail) [-zA,-zB,-zC,-zD,-zE,a43,z299,zu7s,zkdv,zixp,hr,k1,n1,n2,m0,t0]
     ·have hr:reqB q=false:=by simp [reqB,inB,k1,n1,n2,m0,t0]
      simp (disch:=first|omega|simp<;>omega|fail) [-zA,-zB,-zC,-zD,-zE,a43,z299,zu7s,zkdv,zixp,hr,k1,n1,n2,m0,t0]
    ·have hr:reqB q=false:=by simp [reqB,inB,k1,n1,n2,m0]
     simp (disch:=first|omega|simp<;>omega|fail) [-zA,-zB,-zC,-zD,-zE,a43,z299,zu7s,zkdv,zixp,hr,k1,n1,n2,m0]
   ·have hr:reqB q=false:=by simp [reqB,inB,k1,n1,n2]
    simp (disch:=first|omega|simp<;>omega|fail) [-zA,-zB,-zC,-zD,-zE,a43,z299,zu7s,zkdv,zixp,hr,k1,n1,n2]
  ·have hr:reqB q=false:=by simp [reqB,inB,k1,n1]
   simp (disch:=first|omega|simp<;>omega|fail) [-zA,-zB,-zC,-zD,-zE,a43,z299,zu7s,zkdv,zixp,hr,k1,n1]
 by_cases k3:q.kind=3
 ·by_cases n1:1≤q.n
  ·by_cases n2:q.n≤32
   ·by_cases m0:q.m=0
    ·by_cases t0:q.text=[]
     ·have hr:reqB q=true:=by simp [reqB,inB,k1,k3,n1,n2,m0,t0]
      simp (disch:=first|omega|simp<;>omega|fail) [-zA,-zB,-zC,-zD,-zE,a43,z299,zu7s,zkdv,zixp,hr,k1,k3,n1,n2,m0,t0]
     ·have hr:reqB q=false:=by simp [reqB,inB,k1,k3,n1,n2,m0,t0]
      simp (disch:=first|omega|simp<;>omega|fail) [-zA,-zB,-zC,-zD,-zE,a43,z299,zu7s,zkdv,zixp,hr,k1,k3,n1,n2,m0,t0]
    ·have hr:reqB q=false:=by simp [reqB,inB,k1,k3,n1,n2,m0]
     simp (disch:=first|omega|simp<;>omega|fail) [-zA,-zB,-zC,-zD,-zE,a43,z299,zu7s,zkdv,zixp,hr,k1,k3,n1,n2,m0]
   ·have hr:reqB q=false:=by simp [reqB,inB,k1,k3,n1,n2]
    simp (disch:=first|omega|simp<;>omega|fail) [-zA,-zB,-zC,-zD,-zE,a43,z299,zu7s,zkdv,zixp,hr,k1,k3,n1,n2]
  ·have hr:reqB q=false:=by simp [reqB,inB,k1,k3,n1]
   simp (disch:=first|omega|simp<;>omega|fail) [-zA,-zB,-zC,-zD,-zE,a43,z299,zu7s,zkdv,zixp,hr,k1,k3,n1]
 by_cases k5:q.kind=5
 ·by_cases n1:1≤q.n
  ·by_cases n2:q.n≤32
   ·by_cases m0:q.m=0
    ·by_cases t0:q.text=[]
     ·have hr:reqB q=true:=by simp [reqB,inB,k1,k3,k5,n1,n2,m0,t0]
      simp (disch:=first|omega|simp<;>omega|fail) [-zA,-zB,-zC,-zD,-zE,a43,z299,zu7s,zkdv,zixp,hr,k1,k3,k5,n1,n2,m0,t0]
     ·have hr:reqB q=false:=by simp [reqB,inB,k1,k3,k5,n1,n2,m0,t0]
      simp (disch:=first|omega|simp<;>omega|fail) [-zA,-zB,-zC,-zD,-zE,a43,z299,zu7s,zkdv,zixp,hr,k1,k3,k5,n1,n2,m0,t0]
    ·have hr:reqB q=false:=by simp [reqB,inB,k1,k3,k5,n1,n2,m0]
     simp (disch:=first|omega|simp<;>omega|fail) [-zA,-zB,-zC,-zD,-zE,a43,z299,zu7s,zkdv,zixp,hr,k1,k3,k5,n1,n2,m0]
   ·have hr:reqB q=false:=by simp [reqB,inB,k1,k3,k5,n1,n2]
    simp (disch:=first|omega|simp<;>omega|fail) [-zA,-zB,-zC,-zD,-zE,a43,z299,zu7s,zkdv,zixp,hr,k1,k3,k5,n1,n2]
  ·have hr:reqB q=false:=by simp [reqB,inB,k1,k3,k5,n1]
   simp (disch:=first|omega|simp<;>omega|fail) [-zA,-zB,-zC,-zD,-zE,a43,z299,zu7s,zkdv,zixp,hr,k1,k3,k5,n1]
 by_cases k4:q.kind=4
 ·by_cases n1:1≤q.n
  ·by_cases n2:q.n≤32
   ·by_cases m1:0≤q.m
    ·by_cases m2:q.m≤32
     ·by_cases t0:q.text=[]
      ·have hr:reqB q=true:=by simp [reqB,inB,k1,k3,k5,k4,n1,n2,m1,m2,t0]
       simp (disch:=first|omega|simp<;>omega|fail) [-zA,-zB,-zC,-zD,-zE,a43,z299,zu7s,zkdv,zixp,hr,k1,k3,k5,k4,n1,n2,m1,m2,t0]
      ·have hr:reqB q=false:=by simp [reqB,inB,k1,k3,k5,k4,n1,n2,m1,m2,t0]
       simp (disch:=first|omega|simp<;>omega|fail) [-zA,-zB,-zC,-zD,-zE,a43,z299,zu7s,zkdv,zixp,hr,k1,k3,k5,k4,n1,n2,m1,m2,t0]
     ·have hr:reqB q=false:=by simp [reqB,inB,k1,k3,k5,k4,n1,n2,m1,m2]
      simp (disch:=first|omega|simp<;>omega|fail) [-zA,-zB,-zC,-zD,-zE,a43,z299,zu7s,zkdv,zixp,hr,k1,k3,k5,k4,n1,n2,m1,m2]
    ·have hr:reqB q=false:=by simp [reqB,inB,k1,k3,k5,k4,n1,n2,m1]
     simp (disch:=first|omega|simp<;>omega|fail) [-zA,-zB,-zC,-zD,-zE,a43,z299,zu7s,zkdv,zixp,hr,k1,k3,k5,k4,n1,n2,m1]
   ·have hr:reqB q=false:=by simp [reqB,inB,k1,k3,k5,k4,n1,n2]
    simp (disch:=first|omega|simp<;>omega|fail) [-zA,-zB,-zC,-zD,-zE,a43,z299,zu7s,zkdv,zixp,hr,k1,k3,k5,k4,n1,n2]
  ·have hr:reqB q=false:=by simp [reqB,inB,k1,k3,k5,k4,n1]
   simp (disch:=first|omega|simp<;>omega|fail) [-zA,-zB,-zC,-zD,-zE,a43,z299,zu7s,zkdv,zixp,hr,k1,k3,k5,k4,n1]
 by_cases k2:q.kind=2
 ·by_cases z:q.n=0
  ·by_cases m0:q.m=0
   ·have hr:reqB q=zt9v q.text:=by simp [reqB,inB,k1,k3,k5,k4,k2,z,m0]
    simp (disch:=first|omega|simp<;>omega|fail) [-zA,-zB,-zC,-zD,-zE,a43,z299,zu7s,zkdv,zixp,hr,k1,k3,k5,k4,k2,z,m0]
   ·have hr:reqB q=false:=by simp [reqB,inB,k1,k3,k5,k4,k2,z,m0]
    simp (disch:=first|omega|simp<;>omega|fail) [-zA,-zB,-zC,-zD,-zE,a43,z299,zu7s,zkdv,zixp,hr,k1,k3,k5,k4,k2,z,m0]
  ·by_cases n1:1≤q.n
   ·have hr:reqB q=false:=by simp [reqB,inB,k1,k3,k5,k4,k2,z,n1]
    simp (disch:=first|omega|simp<;>omega|fail) [-zA,-zB,-zC,-zD,-zE,a43,z299,zu7s,zkdv,zixp,hr,k1,k3,k5,k4,k2,z,n1]
   ·have hr:reqB q=false:=by simp [reqB,inB,k1,k3,k5,k4,k2,z,n1]
    simp (disch:=first|omega|simp<;>omega|fail) [-zA,-zB,-zC,-zD,-zE,a43,z299,zu7s,zkdv,zixp,hr,k1,k3,k5,k4,k2,z,n1]
 by_cases k6:q.kind=6
 ·by_cases n1:1≤q.n
  ·by_cases n3:q.n≤10
   ·by_cases m0:q.m=0
    ·by_cases t0:q.text=[]
     ·have hr:reqB q=true:=by simp [reqB,inB,k1,k3,k5,k4,k2,k6,n1,n3,m0,t0]
      simp (disch:=first|omega|simp<;>omega|fail) [-zA,-zB,-zC,-zD,-zE,a43,z299,zu7s,zkdv,zixp,hr,k1,k3,k5,k4,k2,k6,n1,n3,m0,t0]
     ·have hr:reqB q=false:=by simp [reqB,inB,k1,k3,k5,k4,k2,k6,n1,n3,m0,t0]
      simp (disch:=first|omega|simp<;>omega|fail) [-zA,-zB,-zC,-zD,-zE,a43,z299,zu7s,zkdv,zixp,hr,k1,k3,k5,k4,k2,k6,n1,n3,m0,t0]
    ·have hr:reqB q=false:=by simp [reqB,inB,k1,k3,k5,k4,k2,k6,n1,n3,m0]
     simp (disch:=first|omega|simp<;>omega|fail) [-zA,-zB,-zC,-zD,-zE,a43,z299,zu7s,zkdv,zixp,hr,k1,k3,k5,k4,k2,k6,n1,n3,m0]
   ·have hr:reqB q=false:=by simp [reqB,inB,k1,k3,k5,k4,k2,k6,n1,n3]
    simp (disch:=first|omega|simp<;>omega|fail) [-zA,-zB,-zC,-zD,-zE,a43,z299,zu7s,zkdv,zixp,hr,k1,k3,k5,k4,k2,k6,n1,n3]
  ·have hr:reqB q=false:=by simp [reqB,inB,k1,k3,k5,k4,k2,k6,n1]
   simp (disch:=first|omega|simp<;>omega|fail) [-zA,-zB,-zC,-zD,-zE,a43,z299,zu7s,zkdv,zixp,hr,k1,k3,k5,k4,k2,k6,n1]
 by_cases k7:q.kind=7
 ·by_cases n1:1≤q.n
  ·cases ht:tmB q.n with
   | false =>
    have hin:inB q.n 0 1099511627776=false:=ht
    have hr:reqB q=false:=by simp [reqB,hin,k1,k3,k5,k4,k2,k6,k7,n1]
    simp (disch:=first|omega|simp<;>omega|fail) [-zA,-zB,-zC,-zD,-zE,a43,z299,zu7s,zkdv,zixp,hr,ht,k1,k3,k5,k4,k2,k6,k7,n1]
   | true =>
    have hin:inB q.n 0 1099511627776=true:=ht
    by_cases m0:q.m=0
    ·by_cases t0:q.text=[]
     ·have hr:reqB q=true:=by simp [reqB,hin,k1,k3,k5,k4,k2,k6,k7,n1,m0,t0]
      simp (disch:=first|omega|simp<;>omega|fail) [-zA,-zB,-zC,-zD,-zE,a43,z299,zu7s,zkdv,zixp,hr,ht,k1,k3,k5,k4,k2,k6,k7,n1,m0,t0]
     ·have hr:reqB q=false:=by simp [reqB,hin,k1,k3,k5,k4,k2,k6,k7,n1,m0,t0]
      simp (disch:=first|omega|simp<;>omega|fail) [-zA,-zB,-zC,-zD,-zE,a43,z299,zu7s,zkdv,zixp,hr,ht,k1,k3,k5,k4,k2,k6,k7,n1,m0,t0]
    ·have hr:reqB q=false:=by simp [reqB,hin,k1,k3,k5,k4,k2,k6,k7,n1,m0]
     simp (disch:=first|omega|simp<;>omega|fail) [-zA,-zB,-zC,-zD,-zE,a43,z299,zu7s,zkdv,zixp,hr,ht,k1,k3,k5,k4,k2,k6,k7,n1,m0]
  ·cases ht:tmB q.n with
   | false =>
    have hin:inB q.n 0 1099511627776=false:=ht
    have hr:reqB q=false:=by simp [reqB,hin,k1,k3,k5,k4,k2,k6,k7,n1]
    simp (disch:=first|omega|simp<;>omega|fail) [-zA,-zB,-zC,-zD,-zE,a43,z299,zu7s,zkdv,zixp,hr,ht,k1,k3,k5,k4,k2,k6,k7,n1]
   | true =>
    have hin:inB q.n 0 1099511627776=true:=ht
    by_cases m0:q.m=0
    ·by_cases t0:q.text=[]
     ·have hr:reqB q=true:=by simp [reqB,hin,k1,k3,k5,k4,k2,k6,k7,n1,m0,t0]
      simp (disch:=first|omega|simp<;>omega|fail) [-zA,-zB,-zC,-zD,-zE,a43,z299,zu7s,zkdv,zixp,hr,ht,k1,k3,k5,k4,k2,k6,k7,n1,m0,t0]
     ·have hr:reqB q=false:=by simp [reqB,hin,k1,k3,k5,k4,k2,k6,k7,n1,m0,t0]
      simp (disch:=first|omega|simp<;>omega|fail) [-zA,-zB,-zC,-zD,-zE,a43,z299,zu7s,zkdv,zixp,hr,ht,k1,k3,k5,k4,k2,k6,k7,n1,m0,t0]
    ·have hr:reqB q=false:=by simp [reqB,hin,k1,k3,k5,k4,k2,k6,k7,n1,m0]
     simp (disch:=first|omega|simp<;>omega|fail) [-zA,-zB,-zC,-zD,-zE,a43,z299,zu7s,zkdv,zixp,hr,ht,k1,k3,k5,k4,k2,k6,k7,n1,m0]
 by_cases k8:q.kind=8
 ·by_cases z:q.n=0
  ·by_cases m0:q.m=0
   ·by_cases t0:q.text=[]
    ·have hr:reqB q=true:=by simp [reqB,inB,k1,k3,k5,k4,k2,k6,k7,k8,z,m0,t0]
     simp (disch:=first|omega|simp<;>omega|fail) [-zA,-zB,-zC,-zD,-zE,a43,z299,zu7s,zkdv,zixp,hr,k1,k3,k5,k4,k2,k6,k7,k8,z,m0,t0]
    ·have hr:reqB q=false:=by simp [reqB,inB,k1,k3,k5,k4,k2,k6,k7,k8,z,m0,t0]
     simp (disch:=first|omega|simp<;>omega|fail) [-zA,-zB,-zC,-zD,-zE,a43,z299,zu7s,zkdv,zixp,hr,k1,k3,k5,k4,k2,k6,k7,k8,z,m0,t0]
   ·have hr:reqB q=false:=by simp [reqB,inB,k1,k3,k5,k4,k2,k6,k7,k8,z,m0]
    simp (disch:=first|omega|simp<;>omega|fail) [-zA,-zB,-zC,-zD,-zE,a43,z299,zu7s,zkdv,zixp,hr,k1,k3,k5,k4,k2,k6,k7,k8,z,m0]
  ·by_cases n1:1≤q.n
   ·have hr:reqB q=false:=by simp [reqB,inB,k1,k3,k5,k4,k2,k6,k7,k8,z,n1]
    simp (disch:=first|omega|simp<;>omega|fail) [-zA,-zB,-zC,-zD,-zE,a43,z299,zu7s,zkdv,zixp,hr,k1,k3,k5,k4,k2,k6,k7,k8,z,n1]
   ·have hr:reqB q=false:=by simp [reqB,inB,k1,k3,k5,k4,k2,k6,k7,k8,z,n1]
    simp (disch:=first|omega|simp<;>omega|fail) [-zA,-zB,-zC,-zD,-zE,a43,z299,zu7s,zkdv,zixp,hr,k1,k3,k5,k4,k2,k6,k7,k8,z,n1]
 by_cases n1:1≤q.n
 ·have hr:reqB q=false:=by simp [reqB,inB,k1,k3,k5,k4,k2,k6,k7,k8,n1]
  simp (disch:=first|omega|simp<;>omega|fail) [-zA,-zB,-zC,-zD,-zE,a43,z299,zu7s,zkdv,zixp,hr,k1,k3,k5,k4,k2,k6,k7,k8,n1]
 ·have hr:reqB q=false:=by simp [reqB,inB,k1,k3,k5,k4,k2,k6,k7,k8,n1]
  simp (disch:=first|omega|simp<;>omega|fail) [-zA,-zB,-zC,-zD,-zE,a43,z299,zu7s,zkdv,zixp,hr,k1,k3,k5,k4,k2,k6,k7,k8,n1]
theorem zt0p:(Con.pure cReq).Sound P 43:=z2au fun q _=>zljw mix zjsq Tryz.func43 zbv8 (zilq q)
end Go.Proofs.YtdnhbfmlklaldaaGreat
set_option linter.unusedSimpArgs false
set_option linter.unusedVariables false
namespace Go.Proofs.YtdnhbfmlklaldaaGreat
open Go Go.Am
def ze4s (c:Cas) (o:Org) (q:Req):Sup:=if reqB q then supR c c.f o q else supZ
noncomputable def T793:Tbl:=addT 43 (.pure cReq) (addT 44 (.pure cSpR) tbl0)
theorem zmjt:T793 43 = .pure cReq:=by simp [T793]
theorem z8k2:T793 44 = .pure cSpR:=by simp [T793]
theorem zyji:T793.Sound P:=z0rp zt0p (z0rp zo28 zr5o)
theorem z9tg (c:Cas) (o:Org) (q:Req) (ok:reqB q=true→SuOK c c.f q):Runs T793 a21 [.agg (caC c),.agg (orC o),.agg (rqC q)] (.agg (suC (ze4s c o q))):=by
 refine ⟨?_⟩
 cases h:reqB q with
 | false =>
  have hr:ze4s c o q=supZ:=by unfold ze4s; rw [h]; rfl
  have hb:zvnk [.bool false,.nils,.int .i64 0] []=some (.agg (suC supZ)):=rfl
  simp (disch:=first|omega|simp<;>omega|fail) [-zA,-zB,-zC,-zD,-zE,a21,zmjt,zc86,h,hr,hb,z559]
 | true =>
  have hr:ze4s c o q=supR c c.f o q:=by unfold ze4s; rw [h]; rfl
  have hs:=zgo8 (c:=c) (x:=c.f) (o:=o) (q:=q) (ok h)
  obtain ⟨R,hR⟩ : ∃ R,supR c c.f o q=R:=⟨_,rfl⟩
  rw [hR] at hr hs
  simp (disch:=first|omega|simp<;>omega|fail) [-zA,-zB,-zC,-zD,-zE,a21,zmjt,z8k2,zc86,h,hr,hs,z559]
noncomputable def cChR:List DV→Option DV:=con (fun a:Cas × Org × Req=>reqB a.2.2=true→SuOK a.1 a.1.f a.2.2) (fun a=>[.agg (caC a.1),.agg (orC a.2.1),.agg (rqC a.2.2)]) (fun a => .agg (suC (ze4s a.1 a.2.1 a.2.2)))
theorem z776 {c:Cas} {o:Org} {q:Req} (h:reqB q=true→SuOK c c.f q):cChR [.agg (caC c),.agg (orC o),.agg (rqC q)]=some (.agg (suC (ze4s c o q))) :=
 zlyi (A:=fun a:Cas × Org × Req=>reqB a.2.2=true→SuOK a.1 a.1.f a.2.2) (f:=fun a:Cas × Org × Req=>[.agg (caC a.1),.agg (orC a.2.1),.agg (rqC a.2.2)]) (g:=fun a => .agg (suC (ze4s a.1 a.2.1 a.2.2))) (by
  rintro ⟨a,b,c⟩ ⟨a',b',c'⟩ e
  simp only [List.cons.injEq,DV.agg.injEq,and_true] at e
  rw [zejx e.1,zc65 e.2.1,z82b e.2.2]) (c,o,q) h
theorem z0mf:(Con.pure cChR).Sound P 21:=z2au fun a h=>zljw mix zyji Tryz.func21 zyfb (z9tg a.1 a.2.1 a.2.2 h)
end Go.Proofs.YtdnhbfmlklaldaaGreat
set_option linter.unusedSimpArgs false
set_option linter.unusedVariables false
namespace Go.Proofs.YtdnhbfmlklaldaaGreat
open Go Go.Am
structure ByRK (c:Cas) (q:Req):Prop where
 l:c.f.l.length≤100
 n:FnOK c.n.l
 s : ∀ x:Sl Fct,(∀ f ∈ x.l,f ∈ c.f.l)→x.l.length≤c.f.l.length→SuOK c x q
end Go.Proofs.YtdnhbfmlklaldaaGreat
set_option linter.unusedSimpArgs false
set_option linter.unusedVariables false
namespace Go.Proofs.YtdnhbfmlklaldaaGreat
open Go Go.Am
theorem zms8 {x:Sl Dg} (h:x.l.length≤1000000):(zln3 x).l=dgsU x.l:=by
 unfold zln3
 split
 ·rename_i e; rw [show x.clone.l=x.l from rfl,e]; rfl
 ·have:=zsv6 (lt:=dgLt) x.l
  rw [z3e9 (by unfold dgsU; omega)]
theorem z1mc {l:List Fct} {n:Int} (h:RfOK l):SupEq (zfyl l n) (z0l6 l n):=by
 have h1:=zkr7 h ((zzy4 l).take n.toNat)
 have h2:=zmvi l
 have h3:((zzy4 l).take n.toNat).length≤100:=by rw [List.length_take]; have:=h.n; omega
 unfold zfyl z0l6
 split
 ·exact ⟨rfl,rfl,rfl⟩
 ·refine ⟨rfl,?_,rfl⟩
  show (zln3 _).l=(firR l n.toNat).l
  rw [zke1 h,zms8 (by rw [zd8n (by omega)]; omega),zd8n (by omega)]
theorem zvlr {l:List Fct} (h:RfOK l):SupEq (oneS l) (zods l):=by
 unfold oneS zods
 cases l with
 | nil=>exact ⟨rfl,rfl,rfl⟩
 | cons f r =>
  have hd:=h.d f (by simp)
  refine ⟨rfl,?_,rfl⟩
  show (zln3 _).l=(unR nilS f.docs.l).l
  rw [zms8 (by omega),zptr _ _ (by simp [zb11]; omega)]
  rfl
theorem z9tn {l left:List Fct}:zzy4 (agrL l left)=zob0 left l :=
 zjfh z3gj (z7nw _) (zpss _ _) fun x=>by
  unfold agrL zob0
  rw [z7zz,List.mem_filter,z7zz]
  simp only [Bool.not_eq_true',decide_eq_false_iff_not,List.mem_filter]
  constructor
  ·rintro ⟨f,⟨h1,h2⟩,e⟩
   exact ⟨⟨f,h1,e⟩,e▸h2⟩
  ·rintro ⟨⟨f,h1,e⟩,h2⟩
   exact ⟨f,⟨h1,e▸h2⟩,e⟩
theorem zt0d {α:Type} {p r:α→Bool} : ∀ {l:List α},(∀ a,r a=true→p a=true)→(l.filter p).find? r=l.find? r
 | [],_=>rfl
 | a::l,h=>by
  have ih:=zt0d (p:=p) (r:=r) (l:=l) h
  cases hr:r a with
  | true=>rw [List.filter_cons_of_pos (h a hr),List.find?_cons_of_pos hr,List.find?_cons_of_pos hr]
  | false =>
   rw [List.find?_cons_of_neg (by simp [hr])]
   cases hp:p a with
   | true=>rw [List.filter_cons_of_pos hp,List.find?_cons_of_neg (by simp [hr])]; exact ih
   | false=>rw [List.filter_cons_of_neg (by simp [hp])]; exact ih
theorem z5o0 {l left:List Fct} : ∀ {m:List Str},(∀ w ∈ m,¬ w ∈ zqgg l)→ztt8 (agrL l left) m=ztt8 left m
 | [],_=>rfl
 | w::m,h=>by
  have hw:=h w (by simp)
  have ih:=z5o0 (l:=l) (left:=left) (m:=m) fun w hm=>h w (by simp [hm])
  have h1:zm3u (agrL l left) w=zm3u left w:=by
   unfold zm3u agrL
   rw [zt0d fun f hf=>by
    have:f.own=w:=by simpa using hf
    simp [this,hw]]
  unfold ztt8 at ih ⊢
  rw [List.flatMap_cons,List.flatMap_cons,h1,ih]
theorem zmlk {l left:List Fct} {q:Req} (h:RfOK left):SupEq (zo4d left l q) (zhjf l left q):=by
 have ho:=z9tn (l:=l) (left:=left)
 have hen:=z1mc (l:=agrL l left) (n:=q.n) (zxzf h)
 unfold zo4d zhjf z5nq
 unfold zfyl at hen
 rw [ho] at hen
 obtain ⟨e1,e2,e3⟩:=hen
 by_cases hm:0<((zqgg l).length:Int)-q.m
 ·rw [if_pos hm,if_pos (by omega)]
  refine ⟨rfl,rfl,?_⟩
  rw [← e3]
  by_cases hn:((zob0 left l).length:Int)<q.n
  ·rw [if_pos hn]
   show max _ _+max _ _=(q.n-_)+_
   omega
  ·rw [if_neg hn]
   show max _ _+max _ _=(0:Int)+_
   omega
 ·rw [if_neg hm]
  by_cases hn:((zob0 left l).length:Int)<q.n
  ·rw [if_pos hn] at e1 e2 e3
   rw [if_pos (by omega)]
   refine ⟨e1,e2,?_⟩
   rw [← e3]
   show max _ _+max _ _=q.n-_
   omega
  ·rw [if_neg hn] at e1 e2 e3
   rw [if_neg (by omega)]
   have hd:=z5o0 (l:=l) (left:=left) (m:=(zob0 left l).take q.n.toNat) fun w hw=>by
    have:=List.mem_of_mem_take hw
    unfold zob0 at this
    have:=(List.mem_filter.1 this).2
    simpa using this
   rw [hd] at e1 e2 e3
   exact ⟨e1,e2,e3⟩
theorem zj78 {l:List Fct} {n:Int} (h:(z0l6 l n).holds=false):(z0l6 l n).docs.l=[]:=by
 unfold z0l6 at h ⊢
 split
 ·rfl
 ·rename_i q; rw [if_neg q] at h; simp at h
theorem z9df {l:List Fct} {n:Int} : ∀ T:List Dg,(T.foldr (fun d b=>zqxa l n b d) (zcc9 n)).holds=false→(T.foldr (fun d b=>zqxa l n b d) (zcc9 n)).docs.l=[]
 | [],_=>rfl
 | d::T,h=>by
  have ih:=z9df (l:=l) (n:=n) T
  rw [List.foldr_cons] at h ⊢
  unfold zqxa at h ⊢
  split
  ·rename_i q; rw [if_pos q] at h; exact zj78 h
  ·rename_i q; rw [if_neg q] at h; exact ih h
theorem zpm9 {l:List Fct} {n:Int} (hk : ∀ d,SupEq (zfyl (zskr l 5 (.target d)) n) (z0l6 (ofL l d) n)) : ∀ (T:List Dg) (m:Int),m≤n →
  (T.foldr (fun d b=>zqxa l n b d) (zcc9 n)).holds=(zdgi l n T m).holds∧(T.foldr (fun d b=>zqxa l n b d) (zcc9 n)).docs.l=(zdgi l n T m).docs.l ∧
  ((T.foldr (fun d b=>zqxa l n b d) (zcc9 n)).holds=false→min m (T.foldr (fun d b=>zqxa l n b d) (zcc9 n)).missing=(zdgi l n T m).missing) ∧
  ((T.foldr (fun d b=>zqxa l n b d) (zcc9 n)).holds=true→(T.foldr (fun d b=>zqxa l n b d) (zcc9 n)).missing=(zdgi l n T m).missing)
 | [],m,h=>⟨rfl,rfl,fun _=>by show min m n=m; omega,fun e=>by simp [zcc9] at e⟩
 | d::T,m,h=>by
  obtain ⟨e1,e2,e3⟩:=hk d
  rw [List.foldr_cons]
  unfold zdgi
  obtain ⟨b,hb⟩ : ∃ b,T.foldr (fun d b=>zqxa l n b d) (zcc9 n)=b:=⟨_,rfl⟩
  obtain ⟨s,hs⟩ : ∃ s,z0l6 (ofL l d) n=s:=⟨_,rfl⟩
  obtain ⟨t,ht⟩ : ∃ t,zfyl (zskr l 5 (.target d)) n=t:=⟨_,rfl⟩
  rw [hs,ht] at e1 e2 e3
  rw [hb,ht]
  obtain ⟨r,hr⟩ : ∃ r,zqxa l n b d=r:=⟨_,rfl⟩
  rw [hr]
  unfold zqxa at hr
  rw [hs] at hr
  have n1:=zj78 (l:=ofL l d) (n:=n)
  have n2:=z9df (l:=l) (n:=n) T
  rw [hs] at n1
  rw [hb] at n2
  by_cases hh:t.holds=true
  ·have hsh:s.holds=true:=by rw [← e1,hh]
   have hr:s=r:=by rw [← hr]; simp [hsh]
   subst hr
   rw [if_pos hh]
   exact ⟨e1.symm,e2.symm,fun q=>(by rw [hsh] at q; cases q),fun _=>e3.symm⟩
  ·have hsh:s.holds=false:=by rw [← e1]; simpa using hh
   rw [if_neg hh]
   have ih:=zpm9 hk T (min m t.missing) (by omega)
   rw [hb] at ih
   obtain ⟨i1,i2,i3,i4⟩:=ih
   by_cases hb2:b.holds=true
   ·have hr:b=r:=by rw [← hr]; simp [hsh,hb2]
    subst hr
    exact ⟨i1,i2,fun q=>(by rw [hb2] at q; cases q),fun _=>i4 hb2⟩
   ·have hb3:b.holds=false:=by simpa using hb2
    have j3:=i3 hb3
    by_cases hlt:s.missing<b.missing
    ·have hr:s=r:=by rw [← hr]; simp [hsh,hb3,hlt]
     subst hr
     exact ⟨by rw [hsh,← i1,hb3],by rw [← i2,n2 hb3,n1 hsh],fun _=>by rw [← j3,e3]; omega,fun q=>by rw [hsh] at q; cases q⟩
    ·have hr:b=r:=by rw [← hr]; simp [hsh,hb3,hlt]
     subst hr
     exact ⟨i1,i2,fun _=>by rw [← j3,e3]; omega,fun q=>by rw [hb3] at q; cases q⟩
end Go.Proofs.YtdnhbfmlklaldaaGreat
set_option linter.unusedSimpArgs false
set_option linter.unusedVariables false
namespace Go.Proofs.YtdnhbfmlklaldaaGreat
open Go Go.Am
theorem sq_p {c:Cas} {x:Sl Fct} {o:Org} {q:Req} {f:Fct}:(sqR (zpgi c x) o q).p f=(sqR c o q).p f:=by
 unfold sqR
 repeat' split
 all_goals rfl
theorem zky5 {c:Cas} {x:Sl Fct} {o:Org} {q:Req}:pkL c x o q=zskr x.l (kqR q) (sqR c o q):=by
 unfold pkL zgw4 zskr
 refine List.filter_congr fun f _ => ?_
 unfold fitR
 rw [sq_p]
theorem zboh {c:Cas} {o:Org} {q:Req} {l:List Fct}:zgw4 c o q l=zskr l (kqR q) (sqR c o q):=rfl
theorem zfd1 {l:List Fct} {n:Int} : ∀ T:List Dg,(T.foldr (fun d b=>zqxa l n b d) (zcc9 n)).holds=false→(T.foldr (fun d b=>zqxa l n b d) (zcc9 n)).missing≤n
 | [],_=>Int.le_refl _
 | d::T,h=>by
  have ih:=zfd1 (l:=l) (n:=n) T
  rw [List.foldr_cons] at h ⊢
  obtain ⟨b,hb⟩ : ∃ b,T.foldr (fun d b=>zqxa l n b d) (zcc9 n)=b:=⟨_,rfl⟩
  rw [hb] at h ih ⊢
  unfold zqxa at h ⊢
  cases h1:(z0l6 (ofL l d) n).holds with
  | true=>rw [h1] at h; simp [h1] at h
  | false =>
   cases h2:b.holds with
   | true=>rw [h1,h2] at h; simp [h2] at h
   | false =>
    by_cases h3:(z0l6 (ofL l d) n).missing<b.missing
    ·have:=ih h2
     simp [h3]
     omega
    ·simp [h3]
     exact ih h2
theorem zysk {l:List Fct} {d:Dg} (h : ∀ f ∈ l,f.kind=5):zskr l 5 (.target d)=ofL l d:=by
 unfold zskr ofL
 refine List.filter_congr fun f hf => ?_
 rw [h f hf]
 simp [Sel.p]
theorem z3pb {l:List Fct} {n:Int} (h:RfOK l) (hk : ∀ f ∈ l,f.kind=5):SupEq (zf55 l n) (zu6h l n):=by
 have k:=zpm9 (l:=l) (n:=n) (fun d=>by rw [zysk hk]; exact z1mc (z5be h)) (dgsU (tgS l)) n (Int.le_refl _)
 have m:=zfd1 (l:=l) (n:=n) (dgsU (tgS l))
 obtain ⟨k1,k2,k3,k4⟩:=k
 refine ⟨k1.symm,k2.symm,?_⟩
 cases hh:(zu6h l n).holds with
 | true=>exact (k4 hh).symm
 | false =>
  have a:=k3 hh
  have b:=m hh
  show (zdgi l n (dgsU (tgS l)) n).missing=((dgsU (tgS l)).foldr (fun d b=>zqxa l n b d) (zcc9 n)).missing
  omega
theorem z4co {a b:List Dg}:(dgsU b).foldl (addU dgLt) (dgsU a)=dgsU (a++b):=by
 have h:=zyiy zc3a (dgsU b) (dgsU a) (zy4b zc3a a)
 refine zjfh zc3a h.1 (zy4b zc3a _) fun x => ?_
 rw [h.2,dgsU,dgsU,zoav zc3a,zoav zc3a,dgsU,zoav zc3a,List.mem_append]
 exact Or.comm
theorem zpgm {l:List Fct} {D:List Dg} (h:RfOK l) (hD:D.length≤800000) (k:Int) (n:Nat) (hk:k=n) :
  SupEq (zpu0 l k D) (if (zods l).holds then (if 0<n then zcc9 n else { zods l with docs:=unR (zods l).docs (unR nilS D).l }) else zods l):=by
 subst hk
 cases l with
 | nil=>exact ⟨rfl,rfl,rfl⟩
 | cons f r =>
  have hd:=h.d f (by simp)
  have e:(zods (f::r)).holds=true:=rfl
  rw [if_pos e]
  unfold zpu0
  simp only
  by_cases g:0<n
  ·rw [if_pos g,if_pos (show (0:Int)<n by omega)]; exact ⟨rfl,rfl,rfl⟩
  ·rw [if_neg g,if_neg (show ¬ (0:Int)<n by omega)]
   refine ⟨rfl,?_,rfl⟩
   show (zln3 _).l=(unR (unR nilS f.docs.l) (unR nilS D).l).l
   have e1:(unR nilS f.docs.l).l=dgsU f.docs.l:=by rw [zptr _ _ (by simp [zb11]; omega)]; rfl
   have e2:(unR nilS D).l=dgsU D:=by rw [zptr _ _ (by simp [zb11]; omega)]; rfl
   have l1:=zsv6 (lt:=dgLt) f.docs.l
   have l2:=zsv6 (lt:=dgLt) D
   rw [zms8 (by rw [zd8n (by rw [List.length_append]; omega),List.length_append]; omega),zd8n (by rw [List.length_append]; omega)]
   rw [zptr _ _ (by rw [e1,e2]; unfold dgsU; omega),e1,e2,z4co]
theorem z907 {l:List Fct} {n:Int} (h:RfOK l):SupEq (zpu0 l n []) (if (zods l).holds&&decide (0<n) then zcc9 n else zods l):=by
 cases l with
 | nil=>exact ⟨rfl,rfl,rfl⟩
 | cons f r =>
  have hd:=h.d f (by simp)
  have e:(zods (f::r)).holds=true:=rfl
  rw [e,Bool.true_and]
  unfold zpu0
  simp only
  by_cases g:0<n
  ·rw [if_pos g,if_pos (by simpa using g)]; exact ⟨rfl,rfl,rfl⟩
  ·rw [if_neg g,if_neg (by simpa using g),List.append_nil]
   refine ⟨rfl,?_,rfl⟩
   show (zln3 _).l=(unR nilS f.docs.l).l
   rw [zms8 (by rw [zd8n (by omega)]; omega),zd8n (by omega),zptr _ _ (by simp [zb11]; omega)]
   rfl
theorem zt0n {l:List Fct} {k:Int} {s:Sel} (h:RfOK l):RfOK (zskr l k s) :=
 ⟨by have:=zjru (l:=l) (k:=k) (s:=s); have:=h.n; omega,fun f hf=>h.d f (zs6z.1 hf).1⟩
theorem zm0o {c:Cas} {x:Sl Fct} {o:Org} {q:Req} (h:RfOK x.l) (hn:FnOK c.n.l) (hk:1≤q.kind∧q.kind≤8):SupEq (zvkf c x.l c.f.l o q) (supR c x o q):=by
 unfold zvkf supR
 rw [zky5,zboh]
 by_cases k1:q.kind=1
 ·rw [if_pos k1,if_pos (.inl k1)]
  simp only [kqR,sqR,if_pos k1]
  exact z1mc (zt0n h)
 by_cases k2:q.kind=2
 ·have e : ∀ n:Int,n≠2→¬ q.kind=n:=fun n hn h=>hn (by omega)
  simp only [kqR,sqR,k2]
  exact zvlr (zt0n h)
 by_cases k3:q.kind=3
 ·simp only [kqR,sqR,k3]
  exact z1mc (zt0n h)
 by_cases k4:q.kind=4
 ·simp only [kqR,sqR,k4]
  exact zmlk (zt0n h)
 by_cases k5:q.kind=5
 ·simp only [kqR,sqR,k5]
  exact z3pb (zt0n h) fun f hf=>(zs6z.1 hf).2.1
 by_cases k6:q.kind=6
 ·simp only [kqR,sqR,k6]
  exact zpgm (zt0n h) (zrbi hn.n hn.d) _ _ rfl
 by_cases k7:q.kind=7
 ·simp only [kqR,sqR,k7]
  exact zvlr (zt0n h)
 ·have k8:q.kind=8:=by omega
  simp only [kqR,sqR,k8]
  exact z907 (zt0n h)
theorem zk3o {q:Req} (h:reqB q=true):1≤q.kind∧q.kind≤8:=by
 unfold reqB at h
 repeat' split at h
 all_goals first|omega|(simp only [Bool.and_eq_true,decide_eq_true_eq] at h; omega)
theorem zrjr {c:Cas} {o:Org} {q:Req} (h:RfOK c.f.l) (hn:FnOK c.n.l):SupEq (zwwp c o q) (ze4s c o q):=by
 unfold zwwp ze4s
 cases e:reqB q with
 | false=>exact ⟨rfl,rfl,rfl⟩
 | true=>exact zm0o h hn (zk3o e)
end Go.Proofs.YtdnhbfmlklaldaaGreat
set_option linter.unusedSimpArgs false
set_option linter.unusedVariables false
namespace Go.Proofs.YtdnhbfmlklaldaaGreat
open Go Go.Am
noncomputable def T796:Tbl:=addT 31 (.pure cOr) (addT 32 (.pure cLsO) tbl0)
theorem zc5t:T796 31 = .pure cOr:=by simp [T796]
theorem zjts:T796 32 = .pure cLsO:=by simp [T796]
theorem z79n:T796.Sound P:=z0rp z0js (z0rp zarw zr5o)
def ogL (l:List Fct):List Org:=z534 orLt (relS l)
theorem zmkh {l:List Fct} {i:Nat} (h:i<l.length):ogL (l.take (i+1))=if l[i].kind=1 then addU orLt (ogL (l.take i)) (z5z5 l[i]) else ogL (l.take i):=by
 unfold ogL
 rw [zt8j h]
 split
 ·unfold z534; rw [List.foldl_append]; rfl
 ·rw [List.append_nil]
theorem zm12 (l:List Fct):(ogL l).length≤l.length:=by
 have:=zsv6 (lt:=orLt) (relS l); have:=zho3 l; unfold ogL; omega
theorem zpb2 {α:Type} [DecidableEq α] {lt:α→α→Bool} (o:Tot lt) {L:List α} {d:α} {k:Nat} (ha:Asc lt L) (hn:d ∉ L) (hk:k≤L.length)
  (h1 : ∀ j (hj:j<L.length),k≤j→lt d L[j]=true) (h2:k=0 ∨ ∃ j,∃ hj:j<L.length,k=j+1∧lt d L[j]=false):addU lt L d=L.take k++d::L.drop k:=by
 have hlt : ∀ j (hj:j<L.length),j<k→lt L[j] d=true:=fun j hj hjk=>by
  rcases h2 with rfl|⟨m,hm,rfl,hf⟩
  ·omega
  ·have hmd:lt L[m] d=true:=by
    rcases o.tot L[m] d with e|e|e
    ·exact e
    ·exact absurd (e▸List.getElem_mem hm) hn
    ·rw [hf] at e; cases e
   by_cases e:j=m
   ·subst e; exact hmd
   ·exact o.tr _ _ _ (List.pairwise_iff_getElem.1 ha j m hj hm (by omega)) hmd
 have hge:k=L.length ∨ ∃ h:k<L.length,lt L[k] d=false:=by
  by_cases e:k=L.length
  ·exact .inl e
  ·have hk':k<L.length:=by omega
   refine .inr ⟨hk',?_⟩
   cases q:lt L[k] d with
   | false=>rfl
   | true=>have:=o.tr _ _ _ q (h1 k hk' (Nat.le_refl _)); rw [o.irr] at this; cases this
 obtain ⟨e1,e2⟩:=zig9 (p:=fun y=>lt y d) hk hlt hge
 unfold addU
 rw [if_neg hn,e1,e2]
def S796 (c:Cas) (i:Nat):St:=z3g7 (.mp 0 36 0) ((ownN (ogL (c.f.l.take i))).dv 34 orC) (.int .i64 i) [.cells (caC c)]
def S797 (c:Cas) (L:List Org) (i:Nat) (O:Org) (j:Nat):St:=zqpn (.mp 0 36 0) ((ownN L).dv 34 orC) (.int .i64 i) (.mp 1 34 0) (.int .i64 L.length) (.bool (decide (O ∈ L.take j))) (.int .i64 j) [.cells (caC c),.cells (orC O)]
def S798 (c:Cas) (L:List Org) (i:Nat) (O:Org) (k:Nat):St:=zse9 (.mp 0 36 0) ((ownN L).dv 34 orC) (.int .i64 i) (.mp 1 34 0) (.int .i64 k) (.bool (decide (O ∈ L))) [.cells (caC c),.cells (orC O)]
theorem zqwf {x:Org}:bslD 34 1 [w8 0#8,w8 0#8,w8 0#8,w8 0#8,w8 0#8,w8 0#8,w8 0#8,w8 0#8,w8 0#8,w8 0#8,w8 0#8,w8 0#8,w8 0#8,w8 0#8,w8 0#8,w8 0#8,w8 0#8,w8 0#8,w8 0#8,w8 0#8,w8 0#8,w8 0#8,w8 0#8,w8 0#8,w8 0#8,w8 0#8,w8 0#8,w8 0#8,w8 0#8,w8 0#8,w8 0#8,w8 0#8,.str [],.str []] [(0,34,.agg (orC x))]=some (.sl true 34 1 (orC x)):=by
 have h1:=zu78 x
 simp [bslD,zi03,zk7y,reps,h1,List.drop_of_length_le]
def OgT:ACode:=match zywk with
 | .seq _ (.seq (.block _ (.seq _ (.seq _ (.seq _ (.seq _ y))))) _)=>y
 | _ => .skip
def OgR:ACode:=match zywk with
 | .seq _ (.seq _ y)=>y
 | _ => .skip
theorem zw3n {c:Cas} {L:List Org} {i k:Nat} {O:Org} (hb:L.length≤1000) (hi:i<c.f.l.length) (hi2:c.f.l.length≤1000) (hk:k≤L.length)
  (next:O ∉ L→ogL (c.f.l.take (i+1))=L.take k++O::L.drop k) (same:O ∈ L→ogL (c.f.l.take (i+1))=L) {Φ0:AExit→St→Prop} :
  V P 0 OgT (z0mx 1 (z2pk P 0 OgR (z13e 0 (S796 c) (fun i=>c.f.l.length-i) (fun i=>i≤c.f.l.length) i Φ0))) (S798 c L i O k):=by
 have hol:(ownN L).l=L:=zd8n (by omega)
 have hop:zyp8 ((ownN L).dv 34 orC)=true:=zxxb ztvh _
 simp only [OgT,zywk,S798,zse9]
 refine zbn1 (V_W mix z79n ?_)
 by_cases hm:O ∈ L
 ·have hs:=same hm
  simp (disch:=first|omega|simp<;>omega|fail) [-zA,-zB,-zC,-zD,-zE,hm]
  refine V_W mix z79n ?_
  simp (disch:=first|omega|simp<;>omega|fail) [-zA,-zB,-zC,-zD,-zE]
  refine zqfd (st':=⟨[.junk,.mp 0 36 0,.junk,(ownN L).dv 34 orC,.int .i64 i]++js 73,[.cells (caC c)]⟩) (zju2 (tail:=[.cells (orC O)]) (by simp (disch:=first|omega|simp<;>omega|fail) [-zA,-zB,-zC,-zD,-zE]) (by simp (disch:=first|omega|simp<;>omega|fail) [-zA,-zB,-zC,-zD,-zE]) (by simp) (by simp (disch:=first|omega|simp<;>omega|fail) [-zA,-zB,-zC,-zD,-zE,z1r6,Am.below,z8b8 _ _ hop]) (by simp (disch:=first|omega|simp<;>omega|fail) [-zA,-zB,-zC,-zD,-zE,zlf2,zmq5 _ _ (zkih c)])) ?_
  simp only [OgR,zywk]
  refine V_W mix z79n ?_
  simp (disch:=first|omega|simp<;>omega|fail) [-zA,-zB,-zC,-zD,-zE]
  exact ⟨i+1,z515 (by simp (disch:=first|omega|simp<;>omega|fail) [-zA,-zB,-zC,-zD,-zE,S796,z3g7,hs]) (by simp (disch:=first|omega|simp<;>omega|fail) [-zA,-zB,-zC,-zD,-zE,S796,z3g7]),by omega,by omega⟩
 have hs:=next hm
 have hv1 : ∀ H,ziwb H 34 ((ownN L).dv 34 orC) none (some (.int .i64 k)) none=some (((ownN L).part 0 k (k == (ownN L).l.length)).dv 34 orC):=fun H=>z0ke zu78 (by simp [zo77,iD,hol]; omega) (by rw [hol]; exact hk)
 have hv2 : ∀ H,ziwb H 34 ((ownN L).dv 34 orC) (some (.int .i64 k)) none none=some (((ownN L).part k (ownN L).l.length ((ownN L).l.length == (ownN L).l.length)).dv 34 orC):=fun H=>z0ke zu78 (by simp [zo77,iD,hol]; omega) (Nat.le_refl _)
 obtain ⟨Y,hY⟩ : ∃ Y,(ownN L).part 0 k (k == (ownN L).l.length)=Y:=⟨_,rfl⟩
 obtain ⟨Z,hZ⟩ : ∃ Z,(ownN L).part k (ownN L).l.length ((ownN L).l.length == (ownN L).l.length)=Z:=⟨_,rfl⟩
 have hYl:Y.l=L.take k:=by rw [← hY,show ((ownN L).part 0 k (k == (ownN L).l.length)).l=(ownN L).l.take k from by simp [Sl.part],hol]
 have hZl:Z.l=L.drop k:=by rw [← hZ]; show ((ownN L).l.drop k).take ((ownN L).l.length-k)=_; rw [hol]; exact List.take_of_length_le (by simp)
 rw [hY] at hv1
 rw [hZ] at hv2
 obtain ⟨A,hA⟩ : ∃ A,L.take k=A:=⟨_,rfl⟩
 obtain ⟨D,hD⟩ : ∃ D,L.drop k=D:=⟨_,rfl⟩
 have hAl:A.length=k:=by rw [← hA,List.length_take]; omega
 have hDl:D.length≤1000:=by rw [← hD,List.length_drop]; omega
 have w1 : ∀ H,visY H (Y.dv 34 orC)=some (A.length,A.flatMap orC):=fun H=>by rw [zwaa zu78,hYl,hA]
 have w2 : ∀ H,visY H (Z.dv 34 orC)=some (D.length,D.flatMap orC):=fun H=>by rw [zwaa zu78,hZl,hD]
 have w3 : ∀ H,visY H (.sl true 34 1 (orC O))=some (1,orC O):=fun H=>by simp [visY,zu78]
 rw [hA,hD] at hs
 have hN:A++O::D≠[]:=by simp
 have hNl:(A++O::D).length=A.length+1+D.length:=by simp; omega
 have hres:(ownN (A++O::D)).dv 34 orC = .sl false 34 (A.length+1+D.length) ((A++O::D).flatMap orC):=by rw [zgr3 hN (by omega),hNl]
 have hpu:=zp6k ztvh (A++O::D)
 have hfl:(fl orC (A++O::D)).length=(A.length+1+D.length)*34:=by rw [z8lx zu78,hNl]
 have htk:(fl orC (A++O::D)).take ((A.length+1+D.length)*34)=(A++O::D).flatMap orC:=List.take_of_length_le (by omega)
 by_cases e:A=[]
 ·have hap0:=zw6v (h:=[AObj.cells (caC c),.cells (orC O)]) (s:=34) (b:=64) (by decide) (by decide)
  have hap:=zsuq (h:=[AObj.cells (caC c),.cells (orC O)]) (s:=34) (b:=64) (m:=1) (cs:=orC O) (by decide) (by decide) (by rw [zu78]) (by decide) (by decide)
  simp only [zu78,List.length_cons,List.length_nil,Nat.zero_add] at hap
  have hap2:=zvrp (h:=[AObj.cells (caC c),.cells (orC O),.cells (fl orC [O])]) (id:=2) (b:=64) (l:=[O]) (m:=D.length) (cs:=D) zu78 (by decide) (by decide) (fun _=>zkp2) rfl (by simp; omega) (by simp [objV,ziu0,z8lx zu78])
  rw [z4hs] at hap2
  simp only [List.length_cons,List.length_nil,Nat.zero_add,Nat.one_mul] at hap2
  rw [show [O]++D=O::D from rfl] at hap2
  rw [e] at w1
  simp only [List.length_nil,List.flatMap_nil] at w1
  subst e
  simp only [List.nil_append,List.length_nil,Nat.zero_add] at hs hres hpu hfl htk
  generalize hG:(O::D).flatMap orC=G at htk hres hpu
  generalize hFF:fl orC (O::D)=FF at htk hfl hap2
  simp (disch:=first|omega|simp<;>omega|fail) [-zA,-zB,-zC,-zD,-zE,hm]
  refine V_W mix z79n ?_
  simp (disch:=first|omega|simp<;>omega|fail) [-zA,-zB,-zC,-zD,-zE,hv1,hv2,w1,w2,w3,hap0,hap,hap2,zqwf,zch3]
  refine V_mk (fun id=>decide (id=0)) ?_
  simp (disch:=first|omega|simp<;>omega|fail) [-zA,-zB,-zC,-zD,-zE,hfl,htk,hpu,hop]
  refine zqfd (st':=⟨[.junk,.mp 0 36 0,.junk,.sl false 34 (1+D.length) G,.int .i64 i]++js 73,[.cells (caC c)]⟩) (zju2 (tail:=[.dead,.dead]) (by simp (disch:=first|omega|simp<;>omega|fail) [-zA,-zB,-zC,-zD,-zE]) (by simp (disch:=first|omega|simp<;>omega|fail) [-zA,-zB,-zC,-zD,-zE]) (by simp) (by simp (disch:=first|omega|simp<;>omega|fail) [-zA,-zB,-zC,-zD,-zE,z1r6,Am.below,zmq5 _ _ hpu]) (by simp (disch:=first|omega|simp<;>omega|fail) [-zA,-zB,-zC,-zD,-zE,zlf2,zmq5 _ _ (zkih c)])) ?_
  simp only [OgR,zywk]
  refine V_W mix z79n ?_
  simp (disch:=first|omega|simp<;>omega|fail) [-zA,-zB,-zC,-zD,-zE]
  exact ⟨i+1,z515 (by simp (disch:=first|omega|simp<;>omega|fail) [-zA,-zB,-zC,-zD,-zE,S796,z3g7,hs,hres]) (by simp (disch:=first|omega|simp<;>omega|fail) [-zA,-zB,-zC,-zD,-zE,S796,z3g7]),by omega,by omega⟩
 ·have hap0:=zsuq (h:=[AObj.cells (caC c),.cells (orC O)]) (s:=34) (b:=64) (m:=A.length) (cs:=A.flatMap orC) (by decide) (by decide) (z1rq zu78 _).symm (List.length_pos_iff.2 e) (by omega)
  rw [z1rq zu78] at hap0
  simp only [List.length_cons,List.length_nil,Nat.zero_add] at hap0
  have hap:=zkg3 (h:=[AObj.cells (caC c),.cells (orC O),.cells (fl orC A)]) (id:=2) (b:=64) (l:=A) (x:=O) zu78 (by decide) (by decide) (fun _=>zkp2) (by omega) (by simp [objV,ziu0,z8lx zu78])
  have hap2:=zvrp (h:=[AObj.cells (caC c),.cells (orC O),.cells (fl orC (A++[O]))]) (id:=2) (b:=64) (l:=A++[O]) (m:=D.length) (cs:=D) zu78 (by decide) (by decide) (fun _=>zkp2) rfl (by simp; omega) (by simp [objV,ziu0,z8lx zu78])
  have hl0:(A++[O]).length=A.length+1:=by simp
  have he:A++[O]++D=A++O::D:=by simp
  rw [hl0,he] at hap2
  have e5:fl orC A=A.flatMap orC:=rfl
  rw [e5] at hap
  generalize hG:(A++O::D).flatMap orC=G at htk hres hpu
  generalize hFF:fl orC (A++O::D)=FF at htk hfl hap2
  simp (disch:=first|omega|simp<;>omega|fail) [-zA,-zB,-zC,-zD,-zE,hm]
  refine V_W mix z79n ?_
  simp (disch:=first|omega|simp<;>omega|fail) [-zA,-zB,-zC,-zD,-zE,hv1,hv2,w1,w2,w3,hap0,hap,hap2,zqwf,zch3]
  refine V_mk (fun id=>decide (id=0)) ?_
  simp (disch:=first|omega|simp<;>omega|fail) [-zA,-zB,-zC,-zD,-zE,hfl,htk,hpu,hop]
  refine zqfd (st':=⟨[.junk,.mp 0 36 0,.junk,.sl false 34 (A.length+1+D.length) G,.int .i64 i]++js 73,[.cells (caC c)]⟩) (zju2 (tail:=[.dead,.dead]) (by simp (disch:=first|omega|simp<;>omega|fail) [-zA,-zB,-zC,-zD,-zE]) (by simp (disch:=first|omega|simp<;>omega|fail) [-zA,-zB,-zC,-zD,-zE]) (by simp) (by simp (disch:=first|omega|simp<;>omega|fail) [-zA,-zB,-zC,-zD,-zE,z1r6,Am.below,zmq5 _ _ hpu]) (by simp (disch:=first|omega|simp<;>omega|fail) [-zA,-zB,-zC,-zD,-zE,zlf2,zmq5 _ _ (zkih c)])) ?_
  simp only [OgR,zywk]
  refine V_W mix z79n ?_
  simp (disch:=first|omega|simp<;>omega|fail) [-zA,-zB,-zC,-zD,-zE]
  exact ⟨i+1,z515 (by simp (disch:=first|omega|simp<;>omega|fail) [-zA,-zB,-zC,-zD,-zE,S796,z3g7,hs,hres]) (by simp (disch:=first|omega|simp<;>omega|fail) [-zA,-zB,-zC,-zD,-zE,S796,z3g7]),by omega,by omega⟩
theorem zfhw (c:Cas) (hn:c.f.l.length≤1000):V P 0 a15.code (retK a15.res ((zz6h c.f.l).dv 34 orC)) ⟨zr5g a15.ntmps [.agg (caC c)],[]⟩:=by
 refine zbn1 (V_W mix z79n ?_)
 simp (disch:=first|omega|simp<;>omega|fail) [-zA,-zB,-zC,-zD,-zE,a15]
 refine zbn1 (V_W mix z79n ?_)
 simp (disch:=first|omega|simp<;>omega|fail) [-zA,-zB,-zC,-zD,-zE]
 refine zbn1 (zbn1 (V_W mix z79n ?_))
 simp (disch:=first|omega|simp<;>omega|fail) [-zA,-zB,-zC,-zD,-zE]
 refine z3mo (ztbr (S796 c) (fun i=>c.f.l.length-i) (fun i=>i≤c.f.l.length) 0 (z515 (by simp (disch:=first|omega|simp<;>omega|fail) [-zA,-zB,-zC,-zD,-zE,S796,z3g7,ogL,relS,z534,z2i7]) (by simp (disch:=first|omega|simp<;>omega|fail) [-zA,-zB,-zC,-zD,-zE,S796,z3g7])) (by omega) (fun i hi => ?_))
 simp only [S796]
 refine zbn1 (V_W mix z79n ?_)
 by_cases h:i<c.f.l.length
 case neg =>
  have h':¬ (i:Int)<c.f.l.length:=by omega
  rw [List.take_of_length_le (show c.f.l.length≤i by omega)]
  have hl:=zm12 c.f.l
  by_cases e:relS c.f.l=[]
  ·have e0:ogL c.f.l=[]:=by unfold ogL; rw [e]; rfl
   have hr:(zz6h c.f.l).dv 34 orC = .sl true 34 1 (orC orZ):=by unfold zz6h; rw [if_pos e]; rfl
   rw [hr,zfm5,e0,z2i7]
   simp (disch:=first|omega|simp<;>omega|fail) [-zA,-zB,-zC,-zD,-zE,zywk,z3g7,h,h']
   refine zbn1 (V_W mix z79n ?_)
   simp (disch:=first|omega|simp<;>omega|fail) [-zA,-zB,-zC,-zD,-zE]
   refine V_W mix z79n ?_
   simp (disch:=first|omega|simp<;>omega|fail) [-zA,-zB,-zC,-zD,-zE]
  ·have e0:ogL c.f.l≠[]:=fun q=>by
    cases hq:relS c.f.l with
    | nil=>exact e hq
    | cons a r =>
     have:a ∈ ogL c.f.l:=by unfold ogL; rw [zoav zha4,hq]; simp
     rw [q] at this; simp at this
   have hr:(zz6h c.f.l).dv 34 orC=(ownN (ogL c.f.l)).dv 34 orC:=by unfold zz6h; rw [if_neg e,z527 e0]; rfl
   have hlD : ∀ H,lenD H ((ownN (ogL c.f.l)).dv 34 orC)=some (.int .i64 (ogL c.f.l).length):=fun H=>by rw [zupj,zd8n (by omega)]
   have hne:¬ (ogL c.f.l).length=0:=fun q=>e0 (List.eq_nil_of_length_eq_zero q)
   have hne':¬ ((ogL c.f.l).length:Int)=0:=by omega
   rw [hr]
   obtain ⟨X,hX⟩ : ∃ X,ownN (ogL c.f.l)=X:=⟨_,rfl⟩
   rw [hX] at hlD ⊢
   simp (disch:=first|omega|simp<;>omega|fail) [-zA,-zB,-zC,-zD,-zE,zywk,z3g7,h,h']
   refine zbn1 (V_W mix z79n ?_)
   simp (disch:=first|omega|simp<;>omega|fail) [-zA,-zB,-zC,-zD,-zE,hlD,hne,hne']
   refine V_W mix z79n ?_
   simp (disch:=first|omega|simp<;>omega|fail) [-zA,-zB,-zC,-zD,-zE]
 have h':(i:Int)<c.f.l.length:=by omega
 have hg : ∀ H,zpsc H 71 (c.f.dv 71 faC) i=some (.ref (faC c.f.l[i])):=fun H=>zalo zs77 h
 have hs:=zmkh h
 obtain ⟨F,hF⟩ : ∃ F,c.f.l[i]=F:=⟨_,rfl⟩
 rw [hF] at hg hs
 have hlen:(ogL (c.f.l.take i)).length≤1000:=by have:=zm12 (c.f.l.take i); rw [List.length_take] at this; omega
 have hasc:Asc orLt (ogL (c.f.l.take i)):=zy4b zha4 _
 obtain ⟨L,hL⟩ : ∃ L,ogL (c.f.l.take i)=L:=⟨_,rfl⟩
 rw [hL] at hs hlen hasc ⊢
 have hol:(ownN L).l=L:=zd8n (by omega)
 have hop:zyp8 ((ownN L).dv 34 orC)=true:=zxxb ztvh _
 have hlL : ∀ H,lenD H ((ownN L).dv 34 orC)=some (.int .i64 L.length):=fun H=>by rw [zupj,hol]
 have hix : ∀ (j:Nat) (hj:j<L.length) H,zpsc H 34 ((ownN L).dv 34 orC) j=some (.ref (orC L[j])):=fun j hj H=>by
  rw [zalo (x:=ownN L) (i:=j) zu78 (by rw [hol]; exact hj)]
  simp only [hol]
 by_cases hk:F.kind=1
 case neg =>
  rw [if_neg hk] at hs
  simp (disch:=first|omega|simp<;>omega|fail) [-zA,-zB,-zC,-zD,-zE,zywk,z3g7,h,h',hg]
  refine zbn1 (z3mo (zbn1 (V_W mix z79n ?_)))
  simp (disch:=first|omega|simp<;>omega|fail) [-zA,-zB,-zC,-zD,-zE,h,h',hg,hk]
  refine V_W mix z79n ?_
  simp (disch:=first|omega|simp<;>omega|fail) [-zA,-zB,-zC,-zD,-zE]
  exact ⟨i+1,z515 (by simp (disch:=first|omega|simp<;>omega|fail) [-zA,-zB,-zC,-zD,-zE,S796,z3g7,hs]) (by simp (disch:=first|omega|simp<;>omega|fail) [-zA,-zB,-zC,-zD,-zE,S796,z3g7]),by omega,by omega⟩
 rw [if_pos hk] at hs
 obtain ⟨O,hO⟩ : ∃ O,z5z5 F=O:=⟨_,rfl⟩
 have hc:=z68y (f:=F)
 rw [hO] at hs hc
 simp (disch:=first|omega|simp<;>omega|fail) [-zA,-zB,-zC,-zD,-zE,zywk,z3g7,h,h',hg]
 refine zbn1 (z3mo (zbn1 (V_W mix z79n ?_)))
 simp (disch:=first|omega|simp<;>omega|fail) [-zA,-zB,-zC,-zD,-zE,h,h',hg,hk]
 refine zbn1 (V_W mix z79n ?_)
 simp (disch:=first|omega|simp<;>omega|fail) [-zA,-zB,-zC,-zD,-zE,h,h',hg,zc5t,hc,hlL]
 refine zbn1 (zbn1 (V_W mix z79n ?_))
 simp (disch:=first|omega|simp<;>omega|fail) [-zA,-zB,-zC,-zD,-zE]
 refine V_W mix z79n ?_
 simp (disch:=first|omega|simp<;>omega|fail) [-zA,-zB,-zC,-zD,-zE]
 refine zlm5 (S797 c L i O) (fun j=>L.length-j) (fun j=>j≤L.length) 0 (z515 (by simp (disch:=first|omega|simp<;>omega|fail) [-zA,-zB,-zC,-zD,-zE,S797,zqpn]) (by simp (disch:=first|omega|simp<;>omega|fail) [-zA,-zB,-zC,-zD,-zE,S797,zqpn])) (by omega) (fun j hj => ?_)
 simp only [S797]
 by_cases g:j<L.length
 ·have g':(j:Int)<L.length:=by omega
  have hx:=hix j g
  have hm:O ∈ L.take (j+1)↔(O ∈ L.take j∨L[j]=O):=by
   rw [List.take_succ_eq_append_getElem g,List.mem_append,List.mem_singleton]
   exact or_congr_right ⟨Eq.symm,Eq.symm⟩
  obtain ⟨y,hy⟩ : ∃ y,L[j]=y:=⟨_,rfl⟩
  rw [hy] at hx hm
  by_cases e:O ∈ L.take j
  ·have hm2:O ∈ L.take (j+1):=hm.2 (.inl e)
   simp (disch:=first|omega|simp<;>omega|fail) [-zA,-zB,-zC,-zD,-zE,zujz,zqpn,g,g',hx,hlL,e]
   exact ⟨j+1,z515 (by simp (disch:=first|omega|simp<;>omega|fail) [-zA,-zB,-zC,-zD,-zE,S797,zqpn,hm2]) (by simp (disch:=first|omega|simp<;>omega|fail) [-zA,-zB,-zC,-zD,-zE,S797,zqpn]),by omega,by omega⟩
  ·by_cases e2:y=O
   ·have hm2:O ∈ L.take (j+1):=hm.2 (.inr e2)
    simp (disch:=first|omega|simp<;>omega|fail) [-zA,-zB,-zC,-zD,-zE,zujz,zqpn,g,g',hx,hlL,e,e2]
    exact ⟨j+1,z515 (by simp (disch:=first|omega|simp<;>omega|fail) [-zA,-zB,-zC,-zD,-zE,S797,zqpn,hm2]) (by simp (disch:=first|omega|simp<;>omega|fail) [-zA,-zB,-zC,-zD,-zE,S797,zqpn]),by omega,by omega⟩
   ·have hm2:¬ O ∈ L.take (j+1):=fun q=>(hm.1 q).elim e e2
    simp (disch:=first|omega|simp<;>omega|fail) [-zA,-zB,-zC,-zD,-zE,zujz,zqpn,g,g',hx,hlL,e,e2]
    exact ⟨j+1,z515 (by simp (disch:=first|omega|simp<;>omega|fail) [-zA,-zB,-zC,-zD,-zE,S797,zqpn,hm2]) (by simp (disch:=first|omega|simp<;>omega|fail) [-zA,-zB,-zC,-zD,-zE,S797,zqpn]),by omega,by omega⟩
 have g':¬ (j:Int)<L.length:=by omega
 rw [List.take_of_length_le (show L.length≤j by omega)]
 simp (disch:=first|omega|simp<;>omega|fail) [-zA,-zB,-zC,-zD,-zE,zujz,zqpn,g,g',hlL]
 refine zbn1 (V_W mix z79n ?_)
 simp (disch:=first|omega|simp<;>omega|fail) [-zA,-zB,-zC,-zD,-zE]
 refine zlm5 (S798 c L i O) (fun k=>k) (fun k=>k≤L.length ∧ ∀ j (hj:j<L.length),k≤j→orLt O L[j]=true) L.length (z515 (by simp (disch:=first|omega|simp<;>omega|fail) [-zA,-zB,-zC,-zD,-zE,S798,zse9]) (by simp (disch:=first|omega|simp<;>omega|fail) [-zA,-zB,-zC,-zD,-zE,S798,zse9])) ⟨by omega,fun j hj hjk=>by omega⟩ (fun k hk => ?_)
 obtain ⟨hk1,hk2⟩:=hk
 simp only [S798]
 have next:(k=0 ∨ ∃ j,∃ hj:j<L.length,k=j+1∧orLt O L[j]=false)→O ∉ L→ogL (c.f.l.take (i+1))=L.take k++O::L.drop k:=fun q hn=>by rw [hs,zpb2 zha4 hasc hn hk1 hk2 q]
 have same:O ∈ L→ogL (c.f.l.take (i+1))=L:=fun q=>by rw [hs]; unfold addU; rw [if_pos q]
 rcases Nat.eq_zero_or_pos k with z|z
 ·subst z
  simp (disch:=first|omega|simp<;>omega|fail) [-zA,-zB,-zC,-zD,-zE,zfed,zse9]
  exact zqfd (z515 (by simp (disch:=first|omega|simp<;>omega|fail) [-zA,-zB,-zC,-zD,-zE,S798,zse9]) (by simp (disch:=first|omega|simp<;>omega|fail) [-zA,-zB,-zC,-zD,-zE,S798,zse9])) (zw3n hlen h hn (Nat.zero_le _) (next (.inl rfl)) same)
 ·obtain ⟨m,rfl⟩ : ∃ m,k=m+1:=⟨k-1,by omega⟩
  have hml:m<L.length:=by omega
  have hx:=hix m hml
  have hv:=z92d (a:=O) (b:=L[m])
  have hw:IntKind.i64.wrap ((m:Int)+1-1)=m:=by rw [IntKind.wrap_i64]; omega
  cases hc2:orLt O L[m] with
  | true =>
   have hinv : ∀ j (hj:j<L.length),m≤j→orLt O L[j]=true:=fun j hj hjm=>by
    by_cases ej:j=m
    ·subst ej; exact hc2
    ·exact hk2 j hj (by omega)
   rw [hc2] at hv
   obtain ⟨y,hy⟩ : ∃ y,L[m]=y:=⟨_,rfl⟩
   rw [hy] at hx hv
   simp (disch:=first|omega|simp<;>omega|fail) [-zA,-zB,-zC,-zD,-zE,zfed,zse9,hw,hx,zjts,hv]
   exact ⟨m,z515 (by simp (disch:=first|omega|simp<;>omega|fail) [-zA,-zB,-zC,-zD,-zE,S798,zse9]) (by simp (disch:=first|omega|simp<;>omega|fail) [-zA,-zB,-zC,-zD,-zE,S798,zse9]),by omega,by omega,hinv⟩
  | false =>
   have hN:=next (.inr ⟨m,hml,rfl,hc2⟩)
   rw [hc2] at hv
   obtain ⟨y,hy⟩ : ∃ y,L[m]=y:=⟨_,rfl⟩
   rw [hy] at hx hv
   simp (disch:=first|omega|simp<;>omega|fail) [-zA,-zB,-zC,-zD,-zE,zfed,zse9,hw,hx,zjts,hv]
   exact zqfd (z515 (by simp (disch:=first|omega|simp<;>omega|fail) [-zA,-zB,-zC,-zD,-zE,S798,zse9]) (by simp (disch:=first|omega|simp<;>omega|fail) [-zA,-zB,-zC,-zD,-zE,S798,zse9])) (zw3n hlen h hn hk1 hN same)
theorem zhf5:(Con.pure cOgs).Sound P 15:=z2au fun c h=>znz9 Tryz.func15 zz37 (zfhw c h)
end Go.Proofs.YtdnhbfmlklaldaaGreat
set_option linter.unusedSimpArgs false
set_option linter.unusedVariables false
namespace Go.Proofs.YtdnhbfmlklaldaaGreat
open Go Go.Am
def a4:AFn where
 code:=(.seq (.region false [⟨none,(some 2),.mov (.k (.bool false))⟩])
 (.seq (.region false [⟨none,(some 7),.mov (.t 0)⟩,
  ⟨none,(some 8),.call (.k (.fn (.func 24) [] [])) [(.t 7),(.k (.int .i64 300))]⟩,
  ⟨none,(some 3),.mov (.t 8)⟩])
 (.seq (.region false [⟨none,(some 9),.mov (.t 3)⟩,
  ⟨none,(some 10),.call (.k (.fn (.func 25) [] [])) [(.t 9),(.k (.int .i64 12)),(.k (.int .i64 6))]⟩,
  ⟨none,(some 11),.mov (.t 3)⟩,
  ⟨none,(some 12),.call (.k (.fn (.func 26) [] [])) [(.t 11)]⟩,
  ⟨none,(some 13),.mov (.t 3)⟩,
  ⟨none,(some 14),.call (.k (.fn (.func 27) [] [])) [(.t 13)]⟩,
  ⟨none,(some 4),.alloc [(w8 0#8),(w8 0#8),(w8 0#8),(w8 0#8),(w8 0#8),(w8 0#8),(w8 0#8),(w8 0#8),(w8 0#8),(w8 0#8),(w8 0#8),(w8 0#8),(w8 0#8),(w8 0#8),(w8 0#8),(w8 0#8),(w8 0#8),(w8 0#8),(w8 0#8),(w8 0#8),(w8 0#8),(w8 0#8),(w8 0#8),(w8 0#8),(w8 0#8),(w8 0#8),(w8 0#8),(w8 0#8),(w8 0#8),(w8 0#8),(w8 0#8),(w8 0#8),(.int .i64 0),.nils,.nils,.nils]⟩,
  ⟨none,(some 5),.alloc [(w8 0#8),(w8 0#8),(w8 0#8),(w8 0#8),(w8 0#8),(w8 0#8),(w8 0#8),(w8 0#8),(w8 0#8),(w8 0#8),(w8 0#8),(w8 0#8),(w8 0#8),(w8 0#8),(w8 0#8),(w8 0#8),(w8 0#8),(w8 0#8),(w8 0#8),(w8 0#8),(w8 0#8),(w8 0#8),(w8 0#8),(w8 0#8),(w8 0#8),(w8 0#8),(w8 0#8),(w8 0#8),(w8 0#8),(w8 0#8),(w8 0#8),(w8 0#8),(.str []),(.str [])]⟩,
  ⟨none,(some 6),.alloc [(.int .i64 0),(.int .i64 0),(.int .i64 0),(.str [])]⟩,
  ⟨none,none,.store 36 (.t 4) (.t 10)⟩,
  ⟨none,none,.store 34 (.t 5) (.t 12)⟩,
  ⟨none,none,.store 4 (.t 6) (.t 14)⟩])
 (.seq (.region true [⟨none,(some 15),.load 36 true (.t 4)⟩,
  ⟨none,(some 16),.load 34 true (.t 5)⟩,
  ⟨none,(some 17),.load 4 true (.t 6)⟩,
  ⟨none,(some 19),.load 36 true (.t 4)⟩,
  ⟨none,(some 20),.load 34 true (.t 5)⟩,
  ⟨none,(some 21),.load 4 true (.t 6)⟩,
  ⟨none,(some 18),.callN (.k (.fn (.func 20) [] [])) [(.t 15),(.t 16),(.t 17)]⟩,
  ⟨none,(some 22),.callN (.k (.fn (.func 21) [] [])) [(.t 19),(.t 20),(.t 21)]⟩,
  ⟨none,(some 23),.callN (.k (.fn (.func 19) [] [])) [(.t 18),(.t 22)]⟩,
  ⟨none,(some 24),.mov (.t 23)⟩,
  ⟨(some (24,true)),(some 25),.load 36 true (.t 4)⟩,
  ⟨(some (24,true)),(some 27),.load 36 true (.t 4)⟩,
  ⟨(some (24,true)),(some 26),.callN (.k (.fn (.func 18) [] [])) [(.t 25)]⟩,
  ⟨(some (24,true)),(some 28),.callN (.k (.fn (.func 15) [] [])) [(.t 27)]⟩,
  ⟨(some (24,true)),(some 29),.callN (.k (.fn (.func 17) [] [])) [(.t 26),(.t 28)]⟩,
  ⟨none,(some 30),.pick (.t 24) (.t 29) (.k (.bool false))⟩,
  ⟨none,(some 31),.mov (.t 30)⟩,
  ⟨(some (31,true)),(some 32),.callN (.k (.fn (.func 14) [] [])) []⟩,
  ⟨none,(some 33),.pick (.t 31) (.t 32) (.k (.bool false))⟩,
  ⟨none,(some 2),.mov (.t 33)⟩])
 .ret))))
 ntmps:=34
 res:=[.tmp 2]
theorem zn8d:zsjc P Tryz.f4=some a4:=by kernel_rfl
end Go.Proofs.YtdnhbfmlklaldaaGreat
set_option linter.unusedSimpArgs false
set_option linter.unusedVariables false
namespace Go.Proofs.YtdnhbfmlklaldaaGreat
open Go Go.Am
theorem zmm2 {c:Cas} (s:CaSm c):RfOK c.f.l:=⟨by have:=s.f; omega,fun f hf=>by have:=s.d f hf; omega⟩
theorem z1mx {c:Cas} (s:CaSm c):FnOK c.n.l:=⟨by have:=s.n; omega,fun f hf=>by have:=s.m f hf; omega⟩
theorem zfin {c:Cas} {x:Sl Fct} {q:Req} (s:CaSm c) (r:RqSm q) (hx:RfOK x.l):SuOK c x q :=
 ⟨hx,by have:=s.f; omega,z1mx s,by have:=s.e; omega,fun h=>by have:=r h; omega,fun h=>by have:=r (.inr (.inr (.inl h))); omega⟩
noncomputable def T798:Tbl:=addT 24 (.new zl5p) (addT 25 (.tch znvy) (addT 26 (.tch (cMk zbdu fun _=>3)) (addT 27 (.tch (cMk z3tu reqA)) (addT 20 (.pure cChe) (addT 21 (.pure cChR) (addT 19 (.pure cSSu) (addT 18 (.pure cOgs) (addT 15 (.pure cOgs) (addT 17 (.pure cSOr) (addT 14 (.pure cAw) tbl0))))))))))
theorem zlol:T798 24 = .new zl5p:=by simp [T798]
theorem zbyx:T798 25 = .tch znvy:=by simp [T798]
theorem zamx:T798 26 = .tch (cMk zbdu fun _=>3):=by simp [T798]
theorem zbd0:T798 27 = .tch (cMk z3tu reqA):=by simp [T798]
theorem zb60:T798 20 = .pure cChe:=by simp [T798]
theorem z58k:T798 21 = .pure cChR:=by simp [T798]
theorem zxdd:T798 19 = .pure cSSu:=by simp [T798]
theorem zsc5:T798 18 = .pure cOgs:=by simp [T798]
theorem zog4:T798 15 = .pure cOgs:=by simp [T798]
theorem zgf0:T798 17 = .pure cSOr:=by simp [T798]
theorem zc8j:T798 14 = .pure cAw:=by simp [T798]
theorem z66m:T798.Sound P:=z0rp ze95 (z0rp zpy7 (z0rp zbz5 (z0rp zmr3 (z0rp zl6h (z0rp z0mf (z0rp zvej (z0rp zvwe (z0rp zhf5 (z0rp z53h (z0rp z5bk zr5o))))))))))
theorem zczz (x:Nl):Runs T798 a4 [x.dv] (.bool true):=by
 refine ⟨?_⟩
 have hT:=fun m=>zwy3 (x:=x) (n:=300) (by decide) m
 have hx:=zkx7 x
 obtain ⟨c,o,q,t1,t2,t3,m1,m2,m3,ht,s,v,r⟩:=mk3 x 12 6 (by omega) (by omega)
 simp only [show ((300:Nat):Int)=300 from rfl] at hT
 simp only [show ((12:Nat):Int)=12 from rfl,show ((6:Nat):Int)=6 from rfl] at m1
 have k1:=z1u0 (c:=c) (o:=o) (q:=q) fun _=>zu3n s s.f r
 have k2:=z776 (c:=c) (o:=o) (q:=q) fun _=>zfin s r (zmm2 s)
 have k3:=z2c9 (zrjr (c:=c) (o:=o) (q:=q) (zmm2 s) (z1mx s))
 have k4:=zudh (c:=c) (by have:=s.f; omega)
 have k5:=zcdg (x:=zz6h c.f.l) (y:=zz6h c.f.l) rfl
 obtain ⟨A,hA⟩ : ∃ A,zwwp c o q=A:=⟨_,rfl⟩
 obtain ⟨B,hB⟩ : ∃ B,ze4s c o q=B:=⟨_,rfl⟩
 obtain ⟨O,hO⟩ : ∃ O,zz6h c.f.l=O:=⟨_,rfl⟩
 rw [hA] at k1 k3
 rw [hB] at k2 k3
 rw [hO] at k4 k5
 have hz : ∀ H,zy6o H 1 36 0 (.agg (caC c)) (some CaZ)=some (.junk,H.set 1 (.cells (caC c))):=fun H=>zp1j (by simp [CaZ])
 simp (disch:=first|omega|simp<;>omega|fail) [-zA,-zB,-zC,-zD,-zE,a4,zlol,zbyx,zamx,zbd0,zb60,z58k,zxdd,zsc5,zog4,zgf0,zc8j,hT,hx,m1,m2,m3,k1,k2,k3,k4,k5,zths]
namespace requirementCheck
theorem law_holds (dvs) (h:Ty.Args [.sl (.int .i64)] dvs):Am.Sem P 4 dvs (.bool true):=by
 obtain ⟨d1,l1,rfl,h1,rfl⟩:=h
 obtain ⟨x,_,hx⟩:=zjzy h1
 cases hx
 exact zljw mix z66m Tryz.func4 zn8d (zczz x)
end requirementCheck
end Go.Proofs.YtdnhbfmlklaldaaGreat
