/-
  10 texts of mine in one.
-/
import Derived.Test.YtjknipdiglpnlaaDoorC2048e248
import Derived.Test.YtjknipdiglpnlaaDoorCa4379c00
import Derived.Test.YtjknipdiglpnlaaDoorCc289a30b
import Derived.Test.YtjknipdiglpnlaaDoorC184ae2d4
import Derived.Test.YtjknipdiglpnlaaDoorC825516a3
set_option maxRecDepth 20000
set_option maxHeartbeats 4000000
open List renaming map_take → zA, map_drop → zB, map_set → zC, map_append → zD, drop_one → zE
set_option linter.unusedSimpArgs false
set_option linter.unusedVariables false
namespace Go.Proofs.YtjknipdiglpnlaaDoor
open Go Go.Am
def NotI {α:Type} (l:List α) (v:α) (i:Nat):Prop := ∀ j (h1:j<l.length),j<i→l[j]≠v
def S972 (x:Sl Str) (v:Str) (i:Nat):St:=z6m2 (x.dv 1 stC) (.str v) (.int .i64 i) []
theorem zkg5 (x:Sl Str) (v:Str):Runs tbl0 a12 [x.dv 1 stC,.str v] (.bool (decide (v ∈ x.l))):=by
 refine ⟨?_⟩
 have hb:=x.b
 obtain ⟨n,hn⟩ : ∃ n,x.l.length=n:=⟨_,rfl⟩
 simp (disch:=first|omega|simp<;>omega|fail) [-zA,-zB,-zC,-zD,-zE,a12]
 refine zlm5 (S972 x v) (fun i=>n-i) (fun i=>i≤n∧NotI x.l v i) 0 (z515 (by simp (disch:=first|omega|simp<;>omega|fail) [-zA,-zB,-zC,-zD,-zE,S972,z6m2]) (by simp (disch:=first|omega|simp<;>omega|fail) [-zA,-zB,-zC,-zD,-zE,S972,z6m2])) ⟨by omega,fun j _ hj=>by omega⟩ (fun i hi => ?_)
 obtain ⟨q1,q2⟩:=hi
 simp only [S972]
 by_cases q:i<n
 ·have g':(i:Int)<n:=by omega
  have hx : ∀ H,zpsc H 1 (x.dv 1 stC) i=some (.ref (stC x.l[i])):=fun H=>zalo zqv6 (by omega)
  have hinv:x.l[i]≠v→NotI x.l v (i+1):=fun e j h1 hji=>by
   by_cases ej:j=i
   ·subst ej; exact e
   ·exact q2 j h1 (by omega)
  have hr:x.l[i]=v→v ∈ x.l:=fun e=>e▸List.getElem_mem _
  obtain ⟨u,hu⟩ : ∃ u,x.l[i]=u:=⟨_,rfl⟩
  rw [hu] at hx hinv hr
  by_cases e:u=v
  ·have hr:=hr e
   have hr':decide (v ∈ x.l)=true:=by simpa using hr
   rw [hr']
   simp (disch:=first|omega|simp<;>omega|fail) [-zA,-zB,-zC,-zD,-zE,z9ex,z6m2,hn,q,g',hx,stC,e]
  ·have hinv:=hinv e
   simp (disch:=first|omega|simp<;>omega|fail) [-zA,-zB,-zC,-zD,-zE,z9ex,z6m2,hn,q,g',hx,stC,e]
   exact ⟨i+1,z515 (by simp (disch:=first|omega|simp<;>omega|fail) [-zA,-zB,-zC,-zD,-zE,S972,z6m2]) (by simp (disch:=first|omega|simp<;>omega|fail) [-zA,-zB,-zC,-zD,-zE,S972,z6m2]),by omega,by omega,hinv⟩
 ·have g':¬ (i:Int)<n:=by omega
  have hr:decide (v ∈ x.l)=false:=by
   rw [decide_eq_false_iff_not]
   intro hv
   obtain ⟨j,hj,e⟩:=List.getElem_of_mem hv
   exact q2 j hj (by omega) e
  rw [hr]
  simp (disch:=first|omega|simp<;>omega|fail) [-zA,-zB,-zC,-zD,-zE,z9ex,z6m2,hn,q,g']
noncomputable def cH02:List DV→Option DV:=con (fun _=>True) (fun a:Sl Str × Str=>[a.1.dv 1 stC,.str a.2]) (fun a => .bool (decide (a.2 ∈ a.1.l)))
theorem z299 {x:Sl Str} {v:Str}:cH02 [x.dv 1 stC,.str v]=some (.bool (decide (v ∈ x.l))) :=
 zsn4 (f:=fun a:Sl Str × Str=>[a.1.dv 1 stC,.str a.2]) (g:=fun a => .bool (decide (a.2 ∈ a.1.l))) (by
  rintro ⟨a,b⟩ ⟨c,d⟩ e
  simp only [List.cons.injEq,DV.str.injEq,and_true] at e
  rw [zdef e.1,e.2]) (x,v)
theorem znod:(Con.pure cH02).Sound P 12:=z2au fun a _=>zljw mix zr5o Tryd.func12 zqkh (zkg5 a.1 a.2)
end Go.Proofs.YtjknipdiglpnlaaDoor
set_option linter.unusedSimpArgs false
set_option linter.unusedVariables false
namespace Go.Proofs.YtjknipdiglpnlaaDoor
open Go Go.Am
noncomputable def zga7:Tbl:=addT 37 (.tch z1m3) (addT 23 (.tch zqck) tbl0)
theorem zamd:zga7 37 = .tch z1m3:=by simp [zga7]
theorem zqj4:zga7 23 = .tch zqck:=by simp [zga7]
theorem z695:zga7.Sound P:=z0rp z51e (z0rp z3hj zr5o)
theorem z0ff {a b:Str} (h:a.length+b.length≤4611686018427387904):zhl4 .add (.str a) (.str b)=some (.str (a++b)):=by simp [zhl4,zdnj,h]
theorem zq04 (t:Tp):(zzh5 t nmA).length≤3:=by
 have:=zqrp t (l:=nmA) (by decide)
 generalize zzh5 t nmA=x at this ⊢
 simp only [nmA,List.mem_cons,List.not_mem_nil,or_false] at this
 rcases this with e|e|e|e|e<;>subst e<;>decide
theorem z2ex (t:Tp):(zzh5 t nmB).length≤3:=by
 have:=zqrp t (l:=nmB) (by decide)
 generalize zzh5 t nmB=x at this ⊢
 simp only [nmB,List.mem_cons,List.not_mem_nil,or_false] at this
 rcases this with e|e|e|e|e|e<;>subst e<;>decide
structure PL where
 k:Nat
 t:Tp
 s:Str
def zdph (a:PL):St:=zhqq (.mp 0 2 0) (.str a.s) (.int .i64 a.k) [.cells (tpC a.t)]
theorem zqqw (t:Tp) (ht:t.at_<3900000000):RunsF zga7 a112 [.mp 0 2 0] [.cells (tpC t)] (.str (zczq t)) [.cells (tpC (zvs1 t))]:=by
 refine ⟨?_⟩
 have n1:=z89h t
 have n2:=z9sd t
 obtain ⟨R,hR⟩ : ∃ R,pthL (zf1o t) (t.adv 1) []=R:=⟨_,rfl⟩
 have hv:zczq t=R.1++zzh5 R.2 nmB:=by unfold zczq; rw [hR]
 have hT:zvs1 t=R.2.adv 1:=by unfold zvs1; rw [hR]
 obtain ⟨N,hN⟩ : ∃ N,zf1o t=N:=⟨_,rfl⟩
 rw [hN] at n1 n2 hR
 rw [hv,hT]
 simp (disch:=first|omega|simp<;>omega|fail) [-zA,-zB,-zC,-zD,-zE,a112,zamd,z44h,n1]
 refine zlm5 zdph (fun a=>a.k) (fun a=>pthL a.k a.t a.s=R∧a.t.at_+a.k<3950000000∧a.s.length+4*a.k≤100) ⟨N,t.adv 1,[]⟩ (z515 (by simp (disch:=first|omega|simp<;>omega|fail) [-zA,-zB,-zC,-zD,-zE,zdph,zhqq]) (by simp (disch:=first|omega|simp<;>omega|fail) [-zA,-zB,-zC,-zD,-zE,zdph,zhqq])) ⟨hR,by simp only [zpza]; omega,by simp only [List.length_nil]; omega⟩ (fun a ha => ?_)
 obtain ⟨k,u,s⟩:=a
 obtain ⟨r1,r2,r3⟩:=ha
 simp only at r1 r2 r3
 simp only [zdph]
 by_cases hk:0<k
 ·obtain ⟨k,rfl⟩ : ∃ k',k=k'+1:=⟨k-1,by omega⟩
  have hk':(0:Int)<((k+1:Nat):Int):=by omega
  have hp:zqck [.sl true 1 5 [.str [97],.str [98],.str [115,114,99],.str [111,117,116],.str [108,105,98]]] (tpC u)=some (.str (zzh5 u nmA),tpC (u.adv 1)):=ze0z (l:=nmA) (by omega) (by decide) (by decide)
  have b1:=zq04 u
  have b2:zhl4 .add (.str s) (.str (zzh5 u nmA))=some (.str (s++zzh5 u nmA)):=z0ff (by omega)
  have b3:zhl4 .add (.str (s++zzh5 u nmA)) (.str [47])=some (.str (s++zzh5 u nmA++[47])):=z0ff (by simp; omega)
  simp (disch:=first|omega|simp<;>omega|fail) [-zA,-zB,-zC,-zD,-zE,z91y,zhqq,zqj4,hp,b2,b3]
  exact ⟨⟨k,u.adv 1,s++zzh5 u nmA++[47]⟩,z515 (by simp (disch:=first|omega|simp<;>omega|fail) [-zA,-zB,-zC,-zD,-zE,zdph,zhqq]) (by simp (disch:=first|omega|simp<;>omega|fail) [-zA,-zB,-zC,-zD,-zE,zdph,zhqq]),by simp only; omega,r1,by simp only [zpza]; omega,by simp only [List.length_append,List.length_singleton]; omega⟩
 ·obtain rfl:k=0:=by omega
  have e:R=(s,u):=r1.symm
  subst e
  have hp:zqck [.sl true 1 6 [.str [97],.str [98],.str [97,46,99],.str [98,46,104],.str [120],.str [111,117,116]]] (tpC u)=some (.str (zzh5 u nmB),tpC (u.adv 1)):=ze0z (l:=nmB) (by omega) (by decide) (by decide)
  have hfz : ∀ k,fzL 1 k (tpC (u.adv 1)) (tpC (u.adv 1)):=fun k=>znnb (zs7w _)
  have b1:=z2ex u
  have b2:zhl4 .add (.str s) (.str (zzh5 u nmB))=some (.str (s++zzh5 u nmB)):=z0ff (by omega)
  simp (disch:=first|omega|simp<;>omega|fail) [-zA,-zB,-zC,-zD,-zE,z91y,zhqq,zqj4,hp,hfz,b2]
noncomputable def zu0i:List DV→List DV→Option (DV × List DV):=conT (fun a:Tp=>a.at_<3900000000) (fun a=>[]) tpC (fun a=>(.str (zczq a),tpC (zvs1 a)))
theorem zi9c {t:Tp} (h:t.at_<3900000000):zu0i [] (tpC t)=some (.str (zczq t),tpC (zvs1 t)) :=
 ztyo (A:=fun a:Tp=>a.at_<3900000000) (f:=fun a=>[]) (s:=tpC) (fun a b _ e=>by rw [z15z e]) t h
theorem zndi:(Con.tch zu0i).Sound P 112 :=
 z0tq (fun a _=>⟨rfl,zs7w _,rfl,zs7w _⟩) fun a h=>zizi mix z695 Tryd.func112 z6i5 (zqqw a h) (Nat.le_refl _)
theorem zdny {x:Ent}:bslD 33 1 [.str [],w8 0#8,w8 0#8,w8 0#8,w8 0#8,w8 0#8,w8 0#8,w8 0#8,w8 0#8,w8 0#8,w8 0#8,w8 0#8,w8 0#8,w8 0#8,w8 0#8,w8 0#8,w8 0#8,w8 0#8,w8 0#8,w8 0#8,w8 0#8,w8 0#8,w8 0#8,w8 0#8,w8 0#8,w8 0#8,w8 0#8,w8 0#8,w8 0#8,w8 0#8,w8 0#8,w8 0#8,w8 0#8] [(0,33,.agg (enC x))]=some (.sl true 33 1 (enC x)):=by
 have h1:=zuso x
 simp [bslD,zi03,zk7y,reps,h1,List.drop_of_length_le]
theorem zdo5 {L:List Ent} {i:Nat} (hi:i<L.length):oneC 1 false ((fl enC L).drop (i*33))=some (.str L[i].path):=by
 rw [fl,zkb2 zuso,List.drop_eq_getElem_cons hi,List.flatMap_cons]; rfl
theorem zpju {l:List Ent} {x y:Ent}:putF (l++[y]) x=putF l x++(if y.path=x.path then [] else [y]):=by
 unfold putF
 rw [List.filter_append]
 by_cases h:y.path=x.path<;>simp [h]
def zyte (s:Sl Ent) (x:Ent) (i:Nat):St:=z0bh (s.dv 33 enC) (.mp 0 33 0) (oV 1 33 (putF (s.l.take i) x)) (.int .i64 i) (.cells (enC x)::oT enC (putF (s.l.take i) x))
def z525 (n:Nat) (x:Ent) (a:IPg Ent):St:=zpv9 (.ms 1 (n*33) 0 33 n (n*33)) (.int .i64 a.A.length) [.cells (enC x),.cells (fl enC (a.A++x::a.B))]
theorem zet6 (s:Sl Ent) (x:Ent) (hs:s.l.length≤1000):Runs tbl0 a111 [s.dv 33 enC,.agg (enC x)] ((own (putV s.l x)).dv 33 enC):=by
 refine ⟨?_⟩
 obtain ⟨N,hN⟩ : ∃ N,s.l.length=N:=⟨_,rfl⟩
 rw [hN] at hs
 simp (disch:=first|omega|simp<;>omega|fail) [-zA,-zB,-zC,-zD,-zE,a111]
 refine zlm5 (zyte s x) (fun i=>N-i) (fun i=>i≤N) 0 (z515 (by simp (disch:=first|omega|simp<;>omega|fail) [-zA,-zB,-zC,-zD,-zE,zyte,z0bh,putF,zl8p]) (by simp (disch:=first|omega|simp<;>omega|fail) [-zA,-zB,-zC,-zD,-zE,zyte,z0bh,putF,zkrk])) (by omega) (fun i hi => ?_)
 simp only [zyte]
 by_cases h:i<N
 ·have h':(i:Int)<N:=by omega
  have hg : ∀ H,zpsc H 33 (s.dv 33 enC) i=some (.ref (enC s.l[i])):=fun H=>zalo zuso (by omega)
  have hnx:putF (s.l.take (i+1)) x=putF (s.l.take i) x++(if s.l[i].path=x.path then [] else [s.l[i]]):=by rw [List.take_succ_eq_append_getElem (by omega),zpju]
  have hfl:=zk1d (s.l.take i) x
  rw [List.length_take] at hfl
  obtain ⟨y,hy⟩ : ∃ y,s.l[i]=y:=⟨_,rfl⟩
  rw [hy] at hg hnx
  obtain ⟨F,hF⟩ : ∃ F,putF (s.l.take i) x=F:=⟨_,rfl⟩
  rw [hF] at hnx hfl ⊢
  have hap:=zte0 (f:=enC) (k:=1) (b:=48) (l:=F) (x:=y) (h:=[AObj.cells (enC x)]) rfl zuso (by decide) (by decide) (fun _=>zo6u) (by omega)
  simp only [List.cons_append,List.nil_append] at hap
  by_cases e:y.path=x.path
  ·rw [if_pos e,List.append_nil] at hnx
   simp (disch:=first|omega|simp<;>omega|fail) [-zA,-zB,-zC,-zD,-zE,zocj,z0bh,hN,h,h',hg,z5fr,e]
   exact ⟨i+1,z515 (by simp (disch:=first|omega|simp<;>omega|fail) [-zA,-zB,-zC,-zD,-zE,zyte,z0bh,hnx]) (by simp (disch:=first|omega|simp<;>omega|fail) [-zA,-zB,-zC,-zD,-zE,zyte,z0bh,hnx]),by omega,by omega⟩
  ·rw [if_neg e] at hnx
   simp (disch:=first|omega|simp<;>omega|fail) [-zA,-zB,-zC,-zD,-zE,zocj,z0bh,hN,h,h',hg,z5fr,e,z6p9,zdny,hap]
   exact ⟨i+1,z515 (by simp (disch:=first|omega|simp<;>omega|fail) [-zA,-zB,-zC,-zD,-zE,zyte,z0bh,hnx]) (by simp (disch:=first|omega|simp<;>omega|fail) [-zA,-zB,-zC,-zD,-zE,zyte,z0bh,hnx]),by omega,by omega⟩
 have h':¬ (i:Int)<N:=by omega
 rw [List.take_of_length_le (show s.l.length≤i by omega)]
 have hfl:=zk1d s.l x
 have hr:putV s.l x=insR pLt x (putF s.l x):=rfl
 have hrl:=z3b0 s.l x
 rw [hr] at hrl ⊢
 obtain ⟨Q,hQ⟩ : ∃ Q,putF s.l x=Q:=⟨_,rfl⟩
 rw [hQ] at hfl hrl ⊢
 have hap:=zte0 (f:=enC) (k:=1) (b:=48) (l:=Q) (x:=x) (h:=[AObj.cells (enC x)]) rfl zuso (by decide) (by decide) (fun _=>zo6u) (by omega)
 simp only [List.cons_append,List.nil_append] at hap
 obtain ⟨n,hn⟩ : ∃ n,Q.length+1=n:=⟨_,rfl⟩
 have hQn:(Q++[x]).length=n:=by rw [List.length_append,List.length_singleton,hn]
 have eV:oV 1 33 (Q++[x]) = .ms 1 (n*33) 0 33 n (n*33):=by rw [zpni (by simp),hQn]
 have eT:oT enC (Q++[x])=[.cells (fl enC (Q++[x]))]:=zu2l (by simp)
 rw [eV,eT] at hap
 obtain ⟨G0,hG0⟩ : ∃ G,fl enC (Q++[x])=G:=⟨_,rfl⟩
 have hG0l:G0.length=n*33:=by rw [← hG0,z8lx zuso,hQn]
 rw [hG0] at hap
 have hsub:IntKind.i64.wrap ((n:Int)-1)=(Q.length:Int):=by rw [← hn]; rw [znmn (by omega) (by omega)]; omega
 have hsub':(n:Int)-1=(Q.length:Int):=by omega
 simp (disch:=first|omega|simp<;>omega|fail) [-zA,-zB,-zC,-zD,-zE,zocj,z0bh,hN,h,h',z6p9,zdny,hap,hG0l,hsub']
 refine zlm5 (z525 n x) (fun a=>a.A.length) (fun a=>a.A++a.B=Q∧z8u0 pLt x a.B) ⟨Q,[]⟩ (z515 (by simp (disch:=first|omega|simp<;>omega|fail) [-zA,-zB,-zC,-zD,-zE,z525,zpv9]) (by simp (disch:=first|omega|simp<;>omega|fail) [-zA,-zB,-zC,-zD,-zE,z525,zpv9,hG0])) ⟨by simp,fun b hb=>by simp at hb⟩ (fun a ha => ?_)
 obtain ⟨A,B⟩:=a
 obtain ⟨r1,r2⟩:=ha
 simp only at r1 r2
 simp only [z525]
 have hpu : ∀ L:List Ent,zbao (L.flatMap enC)=true:=fun L=>zp6k zt9q L
 rcases (List.eq_nil_or_concat A) with rfl|⟨A',y,rfl⟩
 ·have e:insR pLt x Q=x::B:=by rw [← r1]; exact zv9v r2 (.inl rfl)
  rw [e] at hrl ⊢
  have hBn:(x::B).length=n:=by rw [← hn,← r1]; simp
  have hsn:=z29t (f:=enC) (K:=33) zuso zt9q (pre:=[AObj.cells (enC x)]) (l:=x::B) (m:=n)
  rw [hBn,List.take_of_length_le (Nat.le_of_eq hBn)] at hsn
  simp only [List.length_singleton,List.cons_append,List.nil_append] at hsn
  rw [zqrs (by omega),hBn]
  generalize (x::B).flatMap enC=Z at hsn ⊢
  simp (disch:=first|omega|simp<;>omega|fail) [-zA,-zB,-zC,-zD,-zE,zrhx,zpv9,hsn]
 ·rw [List.concat_eq_append] at r1
  rw [List.concat_eq_append]
  have hAl:A'.length+1+B.length+1=n:=by rw [← hn,← r1]; simp; omega
  obtain ⟨L,hL⟩ : ∃ L,A'++[y]++x::B=L:=⟨_,rfl⟩
  have hLl:L.length=n:=by rw [← hL]; simp; omega
  obtain ⟨p,hp⟩ : ∃ p,A'.length=p:=⟨_,rfl⟩
  have g1 : ∀ h:p<L.length,L[p]=y:=fun h=>by subst hL hp; simp
  have g2 : ∀ h:p+1<L.length,L[p+1]=x:=fun h=>by subst hL hp; simp [List.getElem_append_right]
  have hs':=z72y (A:=A') (B:=B) (R:=[]) (x:=x) (y:=y)
  rw [List.append_nil,List.append_nil,hL,hp] at hs'
  obtain ⟨G,hG⟩ : ∃ G,fl enC L=G:=⟨_,rfl⟩
  have hGl:G.length=n*33:=by rw [← hG,z8lx zuso,hLl]
  obtain ⟨G2,hG2⟩ : ∃ G2,fl enC (L.set (p+1) y)=G2:=⟨_,rfl⟩
  have hG2l:G2.length=n*33:=by rw [← hG2,z8lx zuso,List.length_set,hLl]
  have o1:oneC 33 true (G.drop (p*33))=some (.agg (enC y)):=by rw [← hG,zfiy zuso (by omega),g1]
  have o2:oneC 33 true (G.drop ((p+1)*33))=some (.agg (enC x)):=by rw [← hG,zfiy zuso (by omega),g2]
  have o3:oneC 1 false (G.drop (p*33))=some (.str y.path):=by rw [← hG,zdo5 (by omega),g1]
  have o4:oneC 1 false (G.drop ((p+1)*33))=some (.str x.path):=by rw [← hG,zdo5 (by omega),g2]
  have s1 : ∀ h:List AObj,zy6o h 1 33 ((p+1)*33) (.agg (enC y)) (some G)=some (.junk,h.set 1 (.cells G2)):=fun h=>by rw [← hG,zdvi zuso (by decide) (fun _=>zo6u) (by omega),hG2]
  have s2 : ∀ h:List AObj,zy6o h 1 33 (p*33) (.agg (enC x)) (some G2)=some (.junk,h.set 1 (.cells (fl enC (A'++x::(y::B))))):=fun h=>by rw [← hG2,zdvi zuso (by decide) (fun _=>zo6u) (by rw [List.length_set]; omega),hs']
  have t1:((p:Int)+1).toNat=p+1:=by omega
  have t2:(A'++[y]).length=p+1:=by rw [← hp]; simp
  have q0:(0:Int)<(p:Int)+1:=by omega
  have q1:(p:Int)+1-1=p:=by omega
  have q2:(p:Int)+1<n:=by omega
  have q2n:p+1<n:=by omega
  have q3:(p:Int)<n:=by omega
  have q3n:p<n:=by omega
  have hlt : ∀ {a b:Str},zhl4 .lss (.str a) (.str b)=some (.bool (Op.bytesLess a b)):=rfl
  have hc0:pLt x y=Op.bytesLess x.path y.path:=rfl
  rw [hL,hG,t2]
  cases hc:pLt x y with
  | true =>
   rw [hc0] at hc
   simp (disch:=first|omega|simp<;>omega|fail) [-zA,-zB,-zC,-zD,-zE,zrhx,zpv9,hGl,hG2l,o1,o2,o3,o4,s1,s2,t1,q0,q1,q2,q2n,q3,q3n,hlt,hc]
   refine ⟨⟨A',y::B⟩,z515 (by simp (disch:=first|omega|simp<;>omega|fail) [-zA,-zB,-zC,-zD,-zE,z525,zpv9,hp]) (by simp (disch:=first|omega|simp<;>omega|fail) [-zA,-zB,-zC,-zD,-zE,z525,zpv9]),by simp,by simpa using r1,fun b hb => ?_⟩
   rcases List.mem_cons.1 hb with rfl|hb
   ·rw [hc0]; exact hc
   ·exact r2 b hb
  | false =>
   have e:insR pLt x Q=A'++[y]++x::B:=by rw [← r1]; exact zv9v r2 (.inr ⟨A',y,rfl,hc⟩)
   rw [hc0] at hc
   rw [e,hL]
   have hsn:=z29t (f:=enC) (K:=33) zuso zt9q (pre:=[AObj.cells (enC x)]) (l:=L) (m:=n)
   rw [hLl,List.take_of_length_le (Nat.le_of_eq hLl),hG] at hsn
   simp only [List.length_singleton,List.cons_append,List.nil_append] at hsn
   rw [zqrs (by omega),hLl]
   generalize L.flatMap enC=Z at hsn ⊢
   simp (disch:=first|omega|simp<;>omega|fail) [-zA,-zB,-zC,-zD,-zE,zrhx,zpv9,hGl,o3,o4,t1,q0,q1,q2,q2n,q3,q3n,hlt,hc,hsn]
noncomputable def cPut:List DV→Option DV:=con (fun a:Sl Ent × Ent=>a.1.l.length≤1000) (fun a=>[a.1.dv 33 enC,.agg (enC a.2)]) (fun a=>(own (putV a.1.l a.2)).dv 33 enC)
theorem zx4n {s:Sl Ent} {x:Ent} (h:s.l.length≤1000):cPut [s.dv 33 enC,.agg (enC x)]=some ((own (putV s.l x)).dv 33 enC) :=
 zzno (A:=fun a:Sl Ent × Ent=>a.1.l.length≤1000) (f:=fun a=>[a.1.dv 33 enC,.agg (enC a.2)]) (g:=fun a=>(own (putV a.1.l a.2)).dv 33 enC) (by
  rintro ⟨a,b⟩ ⟨c,d⟩ e
  simp only [List.cons.injEq,DV.agg.injEq,and_true] at e
  rw [zdvs e.1,zxv7 e.2]) (s,x) h
theorem zuao:(Con.pure cPut).Sound P 111:=z2au fun a h=>zljw mix zr5o Tryd.func111 zmlq (zet6 a.1 a.2 h)
end Go.Proofs.YtjknipdiglpnlaaDoor
set_option linter.unusedSimpArgs false
set_option linter.unusedVariables false
namespace Go.Proofs.YtjknipdiglpnlaaDoor
open Go Go.Am
theorem z1lj (s:Sl Ent) (i:Nat) (hs:s.l.length≤1000) (hi:i<s.l.length):Runs tbl0 a110 [s.dv 33 enC,.int .i64 i] ((zmmk s.l i).dv 33 enC):=by
 refine ⟨?_⟩
 have hs1 : ∀ H,ziwb H 33 (s.dv 33 enC) none (some (.int .i64 i)) none=some ((s.part 0 i (i == s.l.length)).dv 33 enC):=fun H=>z0ke zuso (by simp [zo77,iD]; omega) (by omega)
 have hs2 : ∀ H,ziwb H 33 (s.dv 33 enC) (some (.int .i64 (i+1))) none none=some ((s.part (i+1) s.l.length (s.l.length == s.l.length)).dv 33 enC):=fun H=>z0ke zuso (by simp [zo77,iD]; omega) (Nat.le_refl _)
 obtain ⟨Y1,hY1⟩ : ∃ Y,s.part 0 i (i == s.l.length)=Y:=⟨_,rfl⟩
 obtain ⟨Y2,hY2⟩ : ∃ Y,s.part (i+1) s.l.length (s.l.length == s.l.length)=Y:=⟨_,rfl⟩
 have hY1l:Y1.l=s.l.take i:=by rw [← hY1]; show (s.l.drop 0).take (i-0)=_; simp
 have hY2l:Y2.l=s.l.drop (i+1):=by rw [← hY2]; show (s.l.drop (i+1)).take (s.l.length-(i+1))=_; exact List.take_of_length_le (by simp)
 have hr:zoqy s.l i=s.l.take i++s.l.drop (i+1):=rfl
 have hrl:=zy3g s.l i
 have hTl:(s.l.take i).length=i:=by rw [List.length_take]; omega
 have hDl:(s.l.drop (i+1)).length=s.l.length-(i+1):=List.length_drop ..
 obtain ⟨A,hA⟩ : ∃ A,s.l.take i=A:=⟨_,rfl⟩
 obtain ⟨D,hD⟩ : ∃ D,s.l.drop (i+1)=D:=⟨_,rfl⟩
 rw [hY1] at hs1
 rw [hY2] at hs2
 rw [hA] at hY1l hr hTl
 rw [hD] at hY2l hr hDl
 have hv1 : ∀ H,visY H (Y1.dv 33 enC)=some (A.length,A.flatMap enC):=fun H=>by rw [zwaa zuso,hY1l]
 have hv2 : ∀ H,visY H (Y2.dv 33 enC)=some (D.length,D.flatMap enC):=fun H=>by rw [zwaa zuso,hY2l]
 have ap1:=znxx (f:=enC) (k:=0) (b:=48) (l:=[]) (cs:=A) (h:=[]) rfl zuso (by decide) (by decide) (fun _=>zo6u) (by simp; omega)
 have ap2:=znxx (f:=enC) (k:=0) (b:=48) (l:=A) (cs:=D) (h:=[]) rfl zuso (by decide) (by decide) (fun _=>zo6u) (by omega)
 simp only [List.nil_append,ze3w,zkrk] at ap1 ap2
 have hkn : ∀ {l:List Ent},(oW 0 33 l).known=true:=zg9v
 have hdr:(zmmk s.l i).dv 33 enC=if zoqy s.l i=[] then .sl true 33 0 [] else (own (zoqy s.l i)).dv 33 enC:=by unfold zmmk; split<;>rfl
 rw [hr] at hdr hrl
 rw [hdr]
 obtain ⟨Z,hZ⟩ : ∃ Z,A++D=Z:=⟨_,rfl⟩
 rw [hZ] at ap2 hrl ⊢
 by_cases e:Z=[]
 ·subst e
  rw [if_pos rfl]
  rw [ze3w,zkrk] at ap2
  simp (disch:=first|omega|simp<;>omega|fail) [-zA,-zB,-zC,-zD,-zE,a110,hs1,hs2,hv1,hv2,ap1,ap2,zch3,hkn]
 ·rw [if_neg e]
  have hsn:=zigm (f:=enC) (K:=33) (k:=0) (l:=Z) (h:=[]) (r:=[]) rfl zuso zt9q (by omega)
  rw [z527 e] at hsn
  simp only [List.nil_append,List.append_nil] at hsn
  rw [zpml e] at ap2
  simp (disch:=first|omega|simp<;>omega|fail) [-zA,-zB,-zC,-zD,-zE,a110,hs1,hs2,hv1,hv2,ap1,ap2,zch3,hkn,hsn]
noncomputable def cDrp:List DV→Option DV:=con (fun a:Sl Ent × Nat=>a.1.l.length≤1000∧a.2<a.1.l.length) (fun a=>[a.1.dv 33 enC,.int .i64 a.2]) (fun a=>(zmmk a.1.l a.2).dv 33 enC)
theorem z4ij {s:Sl Ent} {i:Nat} (h:s.l.length≤1000) (h2:i<s.l.length):cDrp [s.dv 33 enC,.int .i64 i]=some ((zmmk s.l i).dv 33 enC) :=
 zzno (A:=fun a:Sl Ent × Nat=>a.1.l.length≤1000∧a.2<a.1.l.length) (f:=fun a=>[a.1.dv 33 enC,.int .i64 a.2]) (g:=fun a=>(zmmk a.1.l a.2).dv 33 enC) (by
  rintro ⟨a,b⟩ ⟨c,d⟩ e
  simp only [List.cons.injEq,DV.int.injEq,true_and,and_true,Int.natCast_inj] at e
  rw [zdvs e.1,e.2]) (s,i) ⟨h,h2⟩
theorem zb3v:(Con.pure cDrp).Sound P 110:=z2au fun a h=>zljw mix zr5o Tryd.func110 z7w3 (z1lj a.1 a.2 h.1 h.2)
end Go.Proofs.YtjknipdiglpnlaaDoor
set_option linter.unusedSimpArgs false
set_option linter.unusedVariables false
namespace Go.Proofs.YtjknipdiglpnlaaDoor
open Go Go.Am
theorem zg8c {p:Str} {d:Dg}:zvnk [.str [],w8 0#8,w8 0#8,w8 0#8,w8 0#8,w8 0#8,w8 0#8,w8 0#8,w8 0#8,w8 0#8,w8 0#8,w8 0#8,w8 0#8,w8 0#8,w8 0#8,w8 0#8,w8 0#8,w8 0#8,w8 0#8,w8 0#8,w8 0#8,w8 0#8,w8 0#8,w8 0#8,w8 0#8,w8 0#8,w8 0#8,w8 0#8,w8 0#8,w8 0#8,w8 0#8,w8 0#8,w8 0#8] [(0,1,.str p),(1,32,.agg (dgC d))]=some (.agg (enC ⟨p,d⟩)):=by
 have h1:=z1t1 d
 simp [zvnk,zi03,zk7y,enC,h1,List.drop_of_length_le]
noncomputable def z8cb:Tbl:=addT 37 (.tch z1m3) (addT 112 (.tch zu0i) (addT 113 (.tch cSum) (addT 111 (.pure cPut) (addT 110 (.pure cDrp) tbl0))))
theorem zf42:z8cb 37 = .tch z1m3:=by simp [z8cb]
theorem z2fv:z8cb 112 = .tch zu0i:=by simp [z8cb]
theorem zgng:z8cb 113 = .tch cSum:=by simp [z8cb]
theorem z73q:z8cb 111 = .pure cPut:=by simp [z8cb]
theorem z8lo:z8cb 110 = .pure cDrp:=by simp [z8cb]
theorem zleh:z8cb.Sound P:=z0rp z51e (z0rp zndi (z0rp z8dz (z0rp zuao (z0rp zb3v zr5o))))
structure NL where
 k:Nat
 t:Tp
 s:List Ent
def z2ze (m:Nat) (a:NL):St:=z6cw (.mp 0 2 0) ((ownN a.s).dv 33 enC) (.int .i64 a.k) [.cells (tpC a.t)]
theorem zx9h:(nilS:Sl Ent).dv 33 enC = .nils:=rfl
theorem z29k (t:Tp) (m:Nat) (ht:t.at_<3800000000) (hm:m≤100):RunsF z8cb a109 [.mp 0 2 0,.int .i64 m] [.cells (tpC t)] ((ownN (zgxx t m).2).dv 33 enC) [.cells (tpC (zgxx t m).1)]:=by
 refine ⟨?_⟩
 have n1:=znaf t m
 have n2:=z3zi t m
 have hv:zgxx t m=snpL (zep5 t m) (t.adv 1,[]):=rfl
 obtain ⟨R,hR⟩ : ∃ R,snpL (zep5 t m) (t.adv 1,[])=R:=⟨_,rfl⟩
 rw [hR] at hv
 obtain ⟨N,hN⟩ : ∃ N,zep5 t m=N:=⟨_,rfl⟩
 rw [hN] at n1 n2 hR
 rw [hv]
 have hnx:z1m3 [.int .i64 ((m:Int)+1)] (tpC t)=some (.int .i64 N,tpC (t.adv 1)):=by rw [z44h (by omega) (by omega) (by omega),n1]
 simp (disch:=first|omega|simp<;>omega|fail) [-zA,-zB,-zC,-zD,-zE,a109,zf42,hnx]
 refine zlm5 (z2ze m) (fun a=>a.k) (fun a=>snpL a.k (a.t,a.s)=R∧a.t.at_+5*a.k<3810000000∧a.s.length+a.k≤100) ⟨N,t.adv 1,[]⟩ (z515 (by simp (disch:=first|omega|simp<;>omega|fail) [-zA,-zB,-zC,-zD,-zE,z2ze,z6cw,zce3,zx9h]) (by simp (disch:=first|omega|simp<;>omega|fail) [-zA,-zB,-zC,-zD,-zE,z2ze,z6cw])) ⟨hR,by simp only [zpza]; omega,by simp only [List.length_nil]; omega⟩ (fun a ha => ?_)
 obtain ⟨k,u,s⟩:=a
 obtain ⟨r1,r2,r3⟩:=ha
 simp only at r1 r2 r3
 simp only [z2ze]
 by_cases hk:0<k
 ·obtain ⟨k,rfl⟩ : ∃ k',k=k'+1:=⟨k-1,by omega⟩
  have hk':(0:Int)<((k+1:Nat):Int):=by omega
  have k1:=zi9c (t:=u) (by omega)
  have ha:=zj8l u
  have k2:=zliq (t:=zvs1 u) (by omega)
  have hnw:(zvs1 u).adv 1=newT u:=rfl
  have hne:(⟨zczq u,sumV (zvs1 u)⟩:Ent)=newE u:=rfl
  rw [hnw] at k2
  have hsl:(ownN s).l=s:=zd8n (by omega)
  have k3:=zx4n (s:=ownN s) (x:=newE u) (by rw [hsl]; omega)
  rw [hsl,← z527 (zfin s (newE u))] at k3
  have k3:cPut [(ownN s).dv 33 enC,.agg (.str (zczq u)::dgC (sumV (zvs1 u)))]=some ((ownN (putV s (newE u))).dv 33 enC):=k3
  have hat:=ztvs u
  have hpl:=z3b0 s (newE u)
  simp (disch:=first|omega|simp<;>omega|fail) [-zA,-zB,-zC,-zD,-zE,zee7,z6cw,z2fv,k1,zgng,k2,zg8c,hne,z73q,k3,zru8]
  exact ⟨⟨k,newT u,putV s (newE u)⟩,z515 (by simp (disch:=first|omega|simp<;>omega|fail) [-zA,-zB,-zC,-zD,-zE,z2ze,z6cw]) (by simp (disch:=first|omega|simp<;>omega|fail) [-zA,-zB,-zC,-zD,-zE,z2ze,z6cw]),by simp only; omega,r1,by simp only; omega,by simp only; omega⟩
 ·obtain rfl:k=0:=by omega
  have e:R=(u,s):=r1.symm
  subst e
  have hfz : ∀ k,fzL 1 k (tpC u) (tpC u):=fun k=>znnb (zs7w _)
  have hfy : ∀ H,fz 1 H 3 ((ownN s).dv 33 enC)=some ((ownN s).dv 33 enC):=fun H=>zqge (zru8 _)
  simp (disch:=first|omega|simp<;>omega|fail) [-zA,-zB,-zC,-zD,-zE,zee7,z6cw,hfz,hfy]
noncomputable def cSnp:List DV→List DV→Option (DV × List DV):=conT (fun a:Tp × Nat=>a.1.at_<3800000000∧a.2≤100) (fun a=>[.int .i64 a.2]) (fun a=>tpC a.1) (fun a=>((ownN (zgxx a.1 a.2).2).dv 33 enC,tpC (zgxx a.1 a.2).1))
theorem zt2p {t:Tp} {m:Nat} (h:t.at_<3800000000) (hm:m≤100):cSnp [.int .i64 m] (tpC t)=some ((ownN (zgxx t m).2).dv 33 enC,tpC (zgxx t m).1) :=
 ztyo (A:=fun a:Tp × Nat=>a.1.at_<3800000000∧a.2≤100) (f:=fun a=>[.int .i64 a.2]) (s:=fun a=>tpC a.1) (by
  rintro ⟨a,n⟩ ⟨b,m⟩ e1 e2
  simp only [List.cons.injEq,DV.int.injEq,true_and,and_true,Int.natCast_inj] at e1
  rw [e1,z15z e2]) (t,m) ⟨h,hm⟩
theorem zg3i:(Con.tch cSnp).Sound P 109 :=
 z0tq (fun a _=>⟨rfl,zs7w _,zru8 _,zs7w _⟩) fun a h=>zizi mix zleh Tryd.func109 zoj0 (z29k a.1 a.2 h.1 h.2) (Nat.le_refl _)
structure DL where
 k:Nat
 t:Tp
 s:Sl Ent
def zlkl (a:DL):St:=zw1i (.mp 0 2 0) (a.s.dv 33 enC) (.int .i64 a.k) [.cells (tpC a.t)]
theorem z438 (t:Tp) (s0:Sl Ent) (ht:t.at_<3800000000) (hs0:s0.l.length≤800):RunsF z8cb a60 [.mp 0 2 0,s0.dv 33 enC] [.cells (tpC t)] ((z7ym t s0).2.dv 33 enC) [.cells (tpC (z7ym t s0).1)]:=by
 refine ⟨?_⟩
 have n1:tpN t 4=zp4t t:=znaf t 3
 have n2:zp4t t≤3:=z3zi t 3
 have hv:z7ym t s0=edtL (zp4t t) (t.adv 1,s0):=rfl
 obtain ⟨R,hR⟩ : ∃ R,edtL (zp4t t) (t.adv 1,s0)=R:=⟨_,rfl⟩
 rw [hR] at hv
 obtain ⟨N,hN⟩ : ∃ N,zp4t t=N:=⟨_,rfl⟩
 rw [hN] at n1 n2 hR
 rw [hv]
 simp (disch:=first|omega|simp<;>omega|fail) [-zA,-zB,-zC,-zD,-zE,a60,zf42,z44h,n1]
 refine zlm5 zlkl (fun a=>a.k) (fun a=>edtL a.k (a.t,a.s)=R∧a.t.at_+6*a.k<3810000000∧a.s.l.length+a.k≤900) ⟨N,t.adv 1,s0⟩ (z515 (by simp (disch:=first|omega|simp<;>omega|fail) [-zA,-zB,-zC,-zD,-zE,zlkl,zw1i]) (by simp (disch:=first|omega|simp<;>omega|fail) [-zA,-zB,-zC,-zD,-zE,zlkl,zw1i])) ⟨hR,by simp only [zpza]; omega,by simp only; omega⟩ (fun a ha => ?_)
 obtain ⟨k,u,s⟩:=a
 obtain ⟨r1,r2,r3⟩:=ha
 simp only at r1 r2 r3
 simp only [zlkl]
 by_cases hk:0<k
 case neg =>
  obtain rfl:k=0:=by omega
  have e:R=(u,s):=r1.symm
  subst e
  have hfz : ∀ k,fzL 1 k (tpC u) (tpC u):=fun k=>znnb (zs7w _)
  have hfy : ∀ H,fz 1 H 3 (s.dv 33 enC)=some (s.dv 33 enC):=fun H=>zqge (zru8 _)
  simp (disch:=first|omega|simp<;>omega|fail) [-zA,-zB,-zC,-zD,-zE,zm5a,zw1i,hfz,hfy]
 obtain ⟨k,rfl⟩ : ∃ k',k=k'+1:=⟨k-1,by omega⟩
 have hk':(0:Int)<((k+1:Nat):Int):=by omega
 have r1':edtL k (zvj4 (u,s))=R:=r1
 have hok:=zkr6 (a:=(u,s)) (by simp only; omega)
 simp only at hok
 have k0:z1m3 [.int .i64 3] (tpC u)=some (.int .i64 (tpN u 3),tpC (u.adv 1)):=z44h (by omega) (by omega) (by omega)
 have hlen : ∀ H,lenD H (s.dv 33 enC)=some (.int .i64 s.l.length):=fun H=>zupj
 obtain ⟨q,hq⟩ : ∃ q,tpN u 3=q:=⟨_,rfl⟩
 rw [hq] at k0
 by_cases c:q=0∧s.l≠[]
 ·obtain ⟨c1,c2⟩:=c
  subst c1
  have hl0:0<s.l.length:=List.length_pos_iff.2 c2
  have hl0':(0:Int)<s.l.length:=by omega
  have m1:=z4rs (u.adv 1) s.l.length
  have m2:=z2s7 (u.adv 1) (n:=s.l.length) (by omega)
  obtain ⟨J,hJ⟩ : ∃ J:Nat,tpN (u.adv 1) s.l.length=J:=⟨_,(Int.toNat_of_nonneg m1).symm⟩
  have k1:=z44h (t:=u.adv 1) (n:=(s.l.length:Int)) (by simp only [zpza]; omega) (by omega) (by omega)
  rw [hJ,zjmf] at k1
  have k2:=z4ij (s:=s) (i:=J) (by omega) (by omega)
  have he:zvj4 (u,s)=(u.adv 2,zmmk s.l J):=by
   unfold zvj4
   rw [if_pos ⟨hq,c2⟩]
   simp only [hJ,Int.toNat_natCast]
  rw [he] at r1' hok
  simp only [zpza] at hok
  obtain ⟨n,hn⟩ : ∃ n,s.l.length=n:=⟨_,rfl⟩
  rw [hn] at hlen hl0 hl0' k1
  simp (disch:=first|omega|simp<;>omega|fail) [-zA,-zB,-zC,-zD,-zE,zm5a,zw1i,zf42,k0,hlen,hl0,hl0',k1,z8lo,k2,zru8]
  exact ⟨⟨k,u.adv 2,zmmk s.l J⟩,z515 (by simp (disch:=first|omega|simp<;>omega|fail) [-zA,-zB,-zC,-zD,-zE,zlkl,zw1i]) (by simp (disch:=first|omega|simp<;>omega|fail) [-zA,-zB,-zC,-zD,-zE,zlkl,zw1i]),by simp only; omega,r1',by simp only [zpza]; omega,by simp only; omega⟩
 ·have he:zvj4 (u,s)=(newT (u.adv 1),own (putV s.l (newE (u.adv 1)))):=by
   unfold zvj4
   rw [if_neg (by rw [hq]; exact c)]
  rw [he] at r1' hok
  simp only at hok
  have k1:=zi9c (t:=u.adv 1) (by simp only [zpza]; omega)
  have ha:=zj8l (u.adv 1)
  have k2:=zliq (t:=zvs1 (u.adv 1)) (by simp only [zpza] at ha; omega)
  have hnw:(zvs1 (u.adv 1)).adv 1=newT (u.adv 1):=rfl
  have hne:(⟨zczq (u.adv 1),sumV (zvs1 (u.adv 1))⟩:Ent)=newE (u.adv 1):=rfl
  rw [hnw] at k2
  have k3:cPut [s.dv 33 enC,.agg (.str (zczq (u.adv 1))::dgC (sumV (zvs1 (u.adv 1))))]=some ((own (putV s.l (newE (u.adv 1)))).dv 33 enC):=zx4n (s:=s) (x:=newE (u.adv 1)) (by omega)
  by_cases c1:q=0
  ·have c2:s.l=[]:=Classical.byContradiction fun h=>c ⟨c1,h⟩
   have hl0:s.l.length=0:=by rw [c2]; rfl
   rw [hl0] at hlen
   subst c1
   simp (disch:=first|omega|simp<;>omega|fail) [-zA,-zB,-zC,-zD,-zE,zm5a,zw1i,zf42,k0,hlen,z2fv,k1,zgng,k2,zg8c,hne,z73q,k3,zru8]
   exact ⟨⟨k,newT (u.adv 1),own (putV s.l (newE (u.adv 1)))⟩,z515 (by simp (disch:=first|omega|simp<;>omega|fail) [-zA,-zB,-zC,-zD,-zE,zlkl,zw1i]) (by simp (disch:=first|omega|simp<;>omega|fail) [-zA,-zB,-zC,-zD,-zE,zlkl,zw1i]),by simp only; omega,r1',by simp only; omega,by simp only; omega⟩
  ·simp (disch:=first|omega|simp<;>omega|fail) [-zA,-zB,-zC,-zD,-zE,zm5a,zw1i,zf42,k0,c1,z2fv,k1,zgng,k2,zg8c,hne,z73q,k3,zru8]
   exact ⟨⟨k,newT (u.adv 1),own (putV s.l (newE (u.adv 1)))⟩,z515 (by simp (disch:=first|omega|simp<;>omega|fail) [-zA,-zB,-zC,-zD,-zE,zlkl,zw1i]) (by simp (disch:=first|omega|simp<;>omega|fail) [-zA,-zB,-zC,-zD,-zE,zlkl,zw1i]),by simp only; omega,r1',by simp only; omega,by simp only; omega⟩
noncomputable def cEdt:List DV→List DV→Option (DV × List DV):=conT (fun a:Tp × Sl Ent=>a.1.at_<3800000000∧a.2.l.length≤800) (fun a=>[a.2.dv 33 enC]) (fun a=>tpC a.1) (fun a=>((z7ym a.1 a.2).2.dv 33 enC,tpC (z7ym a.1 a.2).1))
theorem zref {t:Tp} {s:Sl Ent} (h:t.at_<3800000000) (hm:s.l.length≤800):cEdt [s.dv 33 enC] (tpC t)=some ((z7ym t s).2.dv 33 enC,tpC (z7ym t s).1) :=
 ztyo (A:=fun a:Tp × Sl Ent=>a.1.at_<3800000000∧a.2.l.length≤800) (f:=fun a=>[a.2.dv 33 enC]) (s:=fun a=>tpC a.1) (g:=fun a=>((z7ym a.1 a.2).2.dv 33 enC,tpC (z7ym a.1 a.2).1)) (by
  rintro ⟨a,n⟩ ⟨b,m⟩ e1 e2
  simp only [List.cons.injEq,and_true] at e1
  rw [zdvs e1,z15z e2]) (t,s) ⟨h,hm⟩
theorem zg4h:(Con.tch cEdt).Sound P 60 :=
 z0tq (fun a _=>⟨by simp [zbao,zru8],zs7w _,zru8 _,zs7w _⟩) fun a h=>zizi mix zleh Tryd.func60 z6e9 (z438 a.1 a.2 h.1 h.2) (Nat.le_refl _)
noncomputable def z6hl:Tbl:=addT 109 (.tch cSnp) (addT 60 (.tch cEdt) tbl0)
theorem z70k:z6hl 109 = .tch cSnp:=by simp [z6hl]
theorem zhen:z6hl 60 = .tch cEdt:=by simp [z6hl]
theorem zl8g:z6hl.Sound P:=z0rp zg3i (z0rp zg4h zr5o)
theorem zc0o (t:Tp) (st:Str) (ht:t.at_<3700000000):RunsF z6hl a59 [.mp 0 2 0,.str st] [.cells (tpC t)] (.agg (lkC (zyjl t st))) [.cells (tpC (zd2t t))]:=by
 refine ⟨?_⟩
 have k1:=zt2p (t:=t) (m:=5) (by omega) (by omega)
 have h1:=zk7x t 5
 have hm:ownN (zgxx t 5).2=zxwj t:=rfl
 rw [hm] at k1
 have hl:=zr0a t
 have k2:=zref (t:=(zgxx t 5).1) (s:=zxwj t) (by omega) (by omega)
 have hT:(z7ym (zgxx t 5).1 (zxwj t)).1=zd2t t:=rfl
 rw [hT] at k2
 have hr:zyjl t st=⟨st,zxwj t,(z7ym (zgxx t 5).1 (zxwj t)).2⟩:=rfl
 rw [hr]
 obtain ⟨M,hM⟩ : ∃ M,zxwj t=M:=⟨_,rfl⟩
 rw [hM] at k1 k2 ⊢
 obtain ⟨Q,hQ⟩ : ∃ Q,(z7ym (zgxx t 5).1 M).2=Q:=⟨_,rfl⟩
 rw [hQ] at k2 ⊢
 obtain ⟨U,hU⟩ : ∃ U,(zgxx t 5).1=U:=⟨_,rfl⟩
 rw [hU] at k1 k2
 obtain ⟨V,hV⟩ : ∃ V,zd2t t=V:=⟨_,rfl⟩
 rw [hV] at k2 ⊢
 have k1':cSnp [.int .i64 5] (tpC t)=some (M.dv 33 enC,tpC U):=k1
 have hfz : ∀ k,fzL 1 k (tpC V) (tpC V):=fun k=>znnb (zs7w _)
 have hfy : ∀ H,fzLo 1 H 3 (lkC ⟨st,M,Q⟩)=some (lkC ⟨st,M,Q⟩):=fun H=>zojd (z53g _)
 simp (disch:=first|omega|simp<;>omega|fail) [-zA,-zB,-zC,-zD,-zE,a59,z70k,k1',zhen,k2,zye0,hfz,hfy]
 show (oneC 3 true (lkC ⟨st,M,Q⟩)).bind _=_
 rw [zrer]
 exact zqge (by simp [zyp8])
noncomputable def cLkT:List DV→List DV→Option (DV × List DV):=conT (fun a:Tp × Str=>a.1.at_<3700000000) (fun a=>[.str a.2]) (fun a=>tpC a.1) (fun a=>(.agg (lkC (zyjl a.1 a.2)),tpC (zd2t a.1)))
theorem zauq {t:Tp} {st:Str} (h:t.at_<3700000000):cLkT [.str st] (tpC t)=some (.agg (lkC (zyjl t st)),tpC (zd2t t)) :=
 ztyo (A:=fun a:Tp × Str=>a.1.at_<3700000000) (f:=fun a=>[.str a.2]) (s:=fun a=>tpC a.1) (g:=fun a=>(.agg (lkC (zyjl a.1 a.2)),tpC (zd2t a.1))) (by
  rintro ⟨a,n⟩ ⟨b,m⟩ e1 e2
  simp only [List.cons.injEq,DV.str.injEq,and_true] at e1
  rw [e1,z15z e2]) (t,st) h
theorem z3ot:(Con.tch cLkT).Sound P 59 :=
 z0tq (fun a _=>⟨rfl,zs7w _,by simp [zyp8],zs7w _⟩) fun a h=>zizi mix zl8g Tryd.func59 zwsz (zc0o a.1 a.2 h) (Nat.le_refl _)
def lksS (t:Tp):Sl Lnk:=⟨some true,[(zivf t).2.1,(zivf t).2.2,(zivf t).2.1],by simp,by simp⟩
theorem za3x (t:Tp):(lksS t).dv 3 lkC = .sl true 3 3 (lkC (zivf t).2.1++(lkC (zivf t).2.2++lkC (zivf t).2.1)):=by simp [lksS,Sl.dv,slD]
theorem z8q9 (x:Sl Lnk):zyp8 (x.dv 3 lkC)=true:=zxxb z53g x
theorem zs9p {a b c:Lnk}:bslD 3 3 [.str [],.nils,.nils] [(0,3,.agg (lkC a)),(3,3,.agg (lkC b)),(6,3,.agg (lkC c))]=some (.sl true 3 3 (lkC a++(lkC b++lkC c))):=rfl
noncomputable def z6ep:Tbl:=addT 59 (.tch cLkT) (addT 60 (.tch cEdt) tbl0)
theorem ztch:z6ep 59 = .tch cLkT:=by simp [z6ep]
theorem z994:z6ep 60 = .tch cEdt:=by simp [z6ep]
theorem zp3o:z6ep.Sound P:=z0rp z3ot (z0rp zg4h zr5o)
theorem zxv9 {L:Lnk} {v:Sl Ent} {h:List AObj} {id:Nat}:zy6o h id 1 2 (v.dv 33 enC) (some (lkC L))=some (.junk,h.set id (.cells (lkC ⟨L.step,L.m,v⟩))):=by
 rw [storeO_1 (zfr8 _) (z4ja _) (by rw [z9tw]; decide)]; rfl
theorem zlwk (t:Tp) (ht:t.at_<3600000000):RunsF z6ep a45 [.mp 0 2 0] [.cells (tpC t)] ((lksS t).dv 3 lkC) [.cells (tpC (zivf t).1)]:=by
 refine ⟨?_⟩
 have k1:=zauq (t:=t) (st:=[98,117,105,108,100]) (by omega)
 obtain ⟨h1,h2,h3⟩:=zoiq t [98,117,105,108,100]
 have k2:=zref (t:=zd2t t) (s:=(zyjl t [98,117,105,108,100]).p) (by omega) (by omega)
 rw [za3x]
 simp only [zivf]
 obtain ⟨A,hA⟩ : ∃ A,zyjl t [98,117,105,108,100]=A:=⟨_,rfl⟩
 rw [hA] at k1 k2 ⊢
 obtain ⟨U,hU⟩ : ∃ U,zd2t t=U:=⟨_,rfl⟩
 rw [hU] at k1 k2 ⊢
 obtain ⟨E,hE⟩ : ∃ E,z7ym U A.p=E:=⟨_,rfl⟩
 rw [hE] at k2 ⊢
 have hfz : ∀ k,fzL 1 k (tpC E.1) (tpC E.1):=fun k=>znnb (zs7w _)
 have hp:zbao (lkC A++(lkC ⟨A.step,A.m,E.2⟩++lkC A))=true:=zg0c (z53g _) (zg0c (z53g _) (z53g _))
 have hfy : ∀ H,fzLo 1 H 3 (lkC A++(lkC ⟨A.step,A.m,E.2⟩++lkC A))=some (lkC A++(lkC ⟨A.step,A.m,E.2⟩++lkC A)):=fun H=>zojd hp
 simp (disch:=first|omega|simp<;>omega|fail) [-zA,-zB,-zC,-zD,-zE,a45,ztch,k1,z994,k2,zrer,zj40,zxv9,zs9p,hfz]
 exact hfy _
noncomputable def cLks:List DV→List DV→Option (DV × List DV):=conT (fun a:Tp=>a.at_<3600000000) (fun _=>[]) tpC (fun a=>((lksS a).dv 3 lkC,tpC (zivf a).1))
theorem z723 {t:Tp} (h:t.at_<3600000000):cLks [] (tpC t)=some ((lksS t).dv 3 lkC,tpC (zivf t).1) :=
 ztyo (A:=fun a:Tp=>a.at_<3600000000) (f:=fun _=>[]) (s:=tpC) (g:=fun a=>((lksS a).dv 3 lkC,tpC (zivf a).1)) (fun a b _ e=>by rw [z15z e]) t h
theorem zdfr:(Con.tch cLks).Sound P 45 :=
 z0tq (fun a _=>⟨rfl,zs7w _,z8q9 (lksS a),zs7w _⟩) fun a h=>zizi mix zp3o Tryd.func45 z94d (zlwk a h) (Nat.le_refl _)
def ownS:Sl Str:=⟨some true,[[97,110,110],[98,111,98],[99,97,116],[100,97,110]],by simp,by simp⟩
theorem zwck:ownS.dv 1 stC = .sl true 1 4 [.str [97,110,110],.str [98,111,98],.str [99,97,116],.str [100,97,110]]:=rfl
theorem zf7l:Runs tbl0 a44 [] (ownS.dv 1 stC):=by
 refine ⟨?_⟩
 rw [zwck]
 simp (disch:=first|omega|simp<;>omega|fail) [-zA,-zB,-zC,-zD,-zE,a44]
noncomputable def cOwn:List DV→Option DV:=con (fun _=>True) (fun _:Unit=>[]) (fun _=>ownS.dv 1 stC)
theorem zj2t:cOwn []=some (ownS.dv 1 stC):=zsn4 (f:=fun _:Unit=>[]) (g:=fun _=>ownS.dv 1 stC) (fun _ _ _=>rfl) ()
theorem zisi:(Con.pure cOwn).Sound P 44:=z2au fun _ _=>zljw mix zr5o Tryd.func44 zeo7 zf7l
end Go.Proofs.YtjknipdiglpnlaaDoor
set_option linter.unusedSimpArgs false
set_option linter.unusedVariables false
namespace Go.Proofs.YtjknipdiglpnlaaDoor
open Go Go.Am
def bld:Str:=[98,117,105,108,100]
def ann:Str:=[97,110,110]
def awS:Spc:=⟨bld,false,1,⟨some true,[ann],by simp,by simp⟩,nilS,nilS,nilS⟩
def awX:Att:=⟨ann,⟨[],[],bld,2,nilS,nilS,nilS,nilS⟩⟩
def awL:Sl Att:=⟨some true,[awX],by simp,by simp⟩
theorem aw1:(decA awS (votL awS awL.l)).2=0:=by rfl
theorem aw2:(decA awS (votL awS awL.l)).1.lnk.step=bld:=by rfl
theorem aw3:(decA awS (votL awS awL.l)).1.owners.l.length=1:=by rfl
noncomputable def z3ic:Tbl:=addT 56 (.pure cDec) tbl0
theorem zpkd:z3ic 56 = .pure cDec:=by simp [z3ic]
theorem zd3g:z3ic.Sound P:=z0rp zdlo zr5o
theorem zovi:spC awS=[.str [98,117,105,108,100],.bool false,.int .i64 1,.sl true 1 1 [.str [97,110,110]],.nils,.nils,.nils]:=rfl
theorem zstd:awL.dv 9 atC = .sl true 9 1 [.str [97,110,110],.str [],.str [],.str [98,117,105,108,100],.int .i64 2,.nils,.nils,.nils,.nils]:=rfl
theorem zfqn:zvnk [.str [],.bool false,.int .i64 0,.nils,.nils,.nils,.nils] [(0,1,.str [98,117,105,108,100]),(2,1,.int .i64 1),(3,1,.sl true 1 1 [.str [97,110,110]])]=some (.agg [.str [98,117,105,108,100],.bool false,.int .i64 1,.sl true 1 1 [.str [97,110,110]],.nils,.nils,.nils]):=rfl
theorem ziw9:zvnk [.str [],.str [],.str [],.int .i64 0,.nils,.nils,.nils,.nils] [(2,1,.str [98,117,105,108,100]),(3,1,.int .i64 2)]=some (.agg [.str [],.str [],.str [98,117,105,108,100],.int .i64 2,.nils,.nils,.nils,.nils]):=rfl
theorem z1op:zvnk [.str [],.str [],.str [],.str [],.int .i64 0,.nils,.nils,.nils,.nils] [(0,1,.str [97,110,110]),(1,8,.agg [.str [],.str [],.str [98,117,105,108,100],.int .i64 2,.nils,.nils,.nils,.nils])]=some (.agg [.str [97,110,110],.str [],.str [],.str [98,117,105,108,100],.int .i64 2,.nils,.nils,.nils,.nils]):=rfl
theorem z8i9:bslD 9 1 [.str [],.str [],.str [],.str [],.int .i64 0,.nils,.nils,.nils,.nils] [(0,9,.agg [.str [97,110,110],.str [],.str [],.str [98,117,105,108,100],.int .i64 2,.nils,.nils,.nils,.nils])]=some (.sl true 9 1 [.str [97,110,110],.str [],.str [],.str [98,117,105,108,100],.int .i64 2,.nils,.nils,.nils,.nils]):=rfl
theorem aw_o:oneC 7 true [.str [98,117,105,108,100],.bool false,.int .i64 1,.sl true 1 1 [.str [97,110,110]],.nils,.nils,.nils]=some (.agg [.str [98,117,105,108,100],.bool false,.int .i64 1,.sl true 1 1 [.str [97,110,110]],.nils,.nils,.nils]):=rfl
theorem zgm9:Runs z3ic a14 [] (.bool true):=by
 refine ⟨?_⟩
 have k:=z6ch (s:=awS) (l:=awL) (by simp [awL])
 have h1:=aw1
 have h2:=aw2
 have h3:=aw3
 rw [zovi,zstd] at k
 obtain ⟨A,e,hA⟩ : ∃ A e,decA awS (votL awS awL.l)=(A,e):=⟨_,_,rfl⟩
 rw [hA] at k h1 h2 h3
 simp only at k h1 h2 h3
 subst h1
 have hlo : ∀ H,lenD H (A.owners.dv 1 stC)=some (.int .i64 A.owners.l.length):=fun H=>zupj
 rw [h3] at hlo
 have h2':A.lnk.step=[98,117,105,108,100]:=h2
 simp (disch:=first|omega|simp<;>omega|fail) [-zA,-zB,-zC,-zD,-zE,a14,zfqn,ziw9,z1op,z8i9,aw_o,zbao,zyp8,zpkd,k,z0wg,zntj,hlo,h2']
noncomputable def cAwk:List DV→Option DV:=con (fun _=>True) (fun _:Unit=>[]) (fun _ => .bool true)
theorem zzs2:cAwk []=some (.bool true):=zsn4 (f:=fun _:Unit=>[]) (g:=fun _=>DV.bool true) (fun _ _ _=>rfl) ()
theorem z41w:(Con.pure cAwk).Sound P 14:=z2au fun _ _=>zljw mix zd3g Tryd.func14 zzfl zgm9
end Go.Proofs.YtjknipdiglpnlaaDoor
set_option linter.unusedSimpArgs false
set_option linter.unusedVariables false
namespace Go.Proofs.YtjknipdiglpnlaaDoor
open Go Go.Am
theorem zjzy {ds:List DV} (h:Ty.Ok (.sl (.int .i64)) ds) : ∃ x:Nl,(∀ n ∈ x.l,-9223372036854775808≤n∧n≤9223372036854775807)∧ds=[x.dv]:=by
 obtain ⟨k,l,h1,h2,rfl,hb⟩:=z61h (f:=inI) (R:=fun n => -9223372036854775808≤n∧n≤9223372036854775807) (fun ds h=>by obtain ⟨n,hn,rfl⟩:=zrcx h; exact ⟨n,hn,rfl⟩) h
 exact ⟨⟨k,l,h1,hb⟩,h2,rfl⟩
def nlT (x:Nl):Tp:=⟨x.k,x.l,x.h,0⟩
theorem z9fj (x:Nl):(nlT x).sl=x.dv:=rfl
theorem zhx7 (x:Nl):x.dv.one=true:=zxr4 (nlT x)
theorem zxy5 (x:Nl):x.dv.known=true:=zn8z (nlT x)
theorem ztqv (x:Nl):x.dv.cells=[x.dv]:=zymw (nlT x)
theorem z9k1 (x:Nl):zvnk [.nils,.int .i64 0] [(0,1,x.dv)]=some (.agg (tpC (nlT x))):=by rw [← z9fj,zkbj]; rfl
end Go.Proofs.YtjknipdiglpnlaaDoor
set_option linter.unusedSimpArgs false
set_option linter.unusedVariables false
namespace Go.Proofs.YtjknipdiglpnlaaDoor
open Go Go.Am
def mak:Str:=[109,97,107,101]
def cmdS (b:Bool):Sl Str:=if b then ⟨some true,[mak],by simp,by simp⟩ else nilS
theorem zgro:(cmdS true).dv 1 stC = .sl true 1 1 [.str [109,97,107,101]]:=rfl
def byS (k:Nat):Sl Str:=ownS.part k 4 (4 == 4)
def st4:List Str:=[bld,bld,bld,[116,101,115,116]]
def ow5:List Str:=[[97,110,110],[98,111,98],[99,97,116],[100,97,110],[101,118,101]]
def lkM (V:Tp × Lnk × Lnk) (i:Int):Lnk:=if i=1 then V.2.2 else V.2.1
def attM (t:Tp) (V:Tp × Lnk × Lnk):Att:=⟨zzh5 (t.adv 4) ow5,⟨[114],[],zzh5 (t.adv 1) st4,tpN (t.adv 2) 5,cmdS (decide (0<tpN (t.adv 3) 4)),nilS,(lkM V (tpN t 3)).m,(lkM V (tpN t 3)).p⟩⟩
def attL (V:Tp × Lnk × Lnk):Nat→Tp × List Att→Tp × List Att
 | 0,a=>a
 | n+1,a=>attL V n (a.1.adv 5,a.2++[attM a.1 V])
theorem zpn6 (V:Tp × Lnk × Lnk) : ∀ (n:Nat) (a:Tp × List Att),(attL V n a).2.length=a.2.length+n
 | 0,_=>rfl
 | n+1,a=>by rw [attL,zpn6]; simp; omega
def spM (t:Tp):Spc:=⟨bld,false,1+tpN t 3,byS (tpN (t.adv 1) 2).toNat,cmdS (decide (tpN (t.adv 2) 3=0)),nilS,nilS⟩
def atN (t:Tp):Nat:=(tpN (zivf (t.adv 3)).1 8).toNat
def atM (t:Tp):List Att:=(attL (zivf (t.adv 3)) (atN t) ((zivf (t.adv 3)).1.adv 1,[])).2
theorem ztxl (t:Tp):atN t≤7:=by
 have h1:=z4rs (zivf (t.adv 3)).1 8
 have h2:=z2s7 (zivf (t.adv 3)).1 (n:=8) (by omega)
 unfold atN; omega
theorem zi14 (t:Tp):tpN (zivf (t.adv 3)).1 8=atN t:=by
 have h1:=z4rs (zivf (t.adv 3)).1 8
 unfold atN; omega
theorem z4if (t:Tp):(atM t).length≤7:=by
 have:=ztxl t
 unfold atM; rw [zpn6]; simp; omega
def sp0:Spc:=⟨[],false,0,nilS,nilS,nilS,nilS⟩
theorem z6e1:spC sp0=[.str [],.bool false,.int .i64 0,.nils,.nils,.nils,.nils]:=rfl
noncomputable def zlv9:Tbl:=addT 37 (.tch z1m3) (addT 23 (.tch zqck) (addT 44 (.pure cOwn) (addT 45 (.tch cLks) tbl0)))
theorem zoj9:zlv9 37 = .tch z1m3:=by simp [zlv9]
theorem zdem:zlv9 23 = .tch zqck:=by simp [zlv9]
theorem zeu0:zlv9 44 = .pure cOwn:=by simp [zlv9]
theorem zstc:zlv9 45 = .tch cLks:=by simp [zlv9]
theorem zcy2:zlv9.Sound P:=z0rp z51e (z0rp z3hj (z0rp zisi (z0rp zdfr zr5o)))
structure ML where
 k:Nat
 t:Tp
 o:List Att
def z4hu (s:Spc) (u:Tp) (a:ML):St:=z9o7 (.mp 0 7 0) (.mp 1 2 0) (.mp 2 7 0) ((lksS u).dv 3 lkC) (oV 3 9 a.o) (.int .i64 a.k) ([.cells (spC sp0),.cells (tpC a.t),.cells (spC s)]++oT atC a.o)
theorem zi63 (u:Tp) (i:Nat) (hi:i<3) (H:List AObj):zpsc H 3 ((lksS u).dv 3 lkC) i=some (.ref (lkC (lkM (zivf u) i))):=by
 have:=zalo (h:=H) (x:=lksS u) (i:=i) z9tw (by simp [lksS]; exact hi)
 rw [this]
 match i,hi with
 | 0,_=>rfl
 | 1,_=>rfl
 | 2,_=>rfl
def recM (st:Str) (n:Int) (c:Sl Str) (L:Lnk):Rec:=⟨[114],[],st,n,c,nilS,L.m,L.p⟩
theorem zg2e {st:Str} {n:Int} {L:Lnk}:zvnk [.str [],.str [],.str [],.int .i64 0,.nils,.nils,.nils,.nils] [(0,1,.str [114]),(2,1,.str st),(3,1,.int .i64 n),(6,1,L.m.dv 33 enC),(7,1,L.p.dv 33 enC)]=some (.agg (reC (recM st n nilS L))):=by
 have e1:=zfr8 (x:=L.m) (s:=33) (f:=enC)
 have e2:=zfr8 (x:=L.p) (s:=33) (f:=enC)
 simp [zvnk,zi03,zk7y,reC,recM,e1,e2,z2i7]
 exact ⟨rfl,rfl⟩
theorem zhzr {r:Rec} {v:Sl Str} {h:List AObj} {id:Nat}:zy6o h id 1 4 (v.dv 1 stC) (some (reC r))=some (.junk,h.set id (.cells (reC ⟨r.run,r.scope,r.step,r.at_,v,r.env,r.m,r.p⟩))):=by
 rw [storeO_1 (zfr8 _) (z4ja _) (by rw [z74o]; decide)]; rfl
theorem zbd9 {w:Str} {r:Rec}:zvnk [.str [],.str [],.str [],.str [],.int .i64 0,.nils,.nils,.nils,.nils] [(0,1,.str w),(1,8,.agg (reC r))]=some (.agg (atC ⟨w,r⟩)):=by
 have h1:=z74o r
 simp [zvnk,zi03,zk7y,atC,h1,List.drop_of_length_le]
end Go.Proofs.YtjknipdiglpnlaaDoor
set_option linter.unusedSimpArgs false
set_option linter.unusedVariables false
namespace Go.Proofs.YtjknipdiglpnlaaDoor
open Go Go.Am
def MadT:ACode:=match z382 with
 | .seq _ (.seq (.block _ (.seq _ (.seq _ (.seq _ y)))) _)=>y
 | _ => .skip
def MadR:ACode:=match z382 with
 | .seq _ (.seq _ y)=>y
 | _ => .skip
structure MLok (u:Tp) (R:Tp × List Att) (a:ML):Prop where
 r:attL (zivf u) a.k (a.t,a.o)=R
 t:a.t.at_+5*a.k<3500000000
 l:a.o.length+a.k≤7
theorem zlvf {s:Spc} {u:Tp} {R:Tp × List Att} (a:ML) (ha:MLok u R a) {Φ:AExit→St→Prop}
  (hexit:Φ (.exit 0) ⟨[.junk,.junk,.mp 0 7 0,.junk,.mp 1 2 0,.mp 2 7 0,.junk,oV 3 9 R.2]++js 57,[.cells (spC sp0),.cells (tpC R.1),.cells (spC s)]++oT atC R.2⟩)
  (hw : ∀ st st',Weak 0 st st'→Φ (.exit 0) st'→Φ (.exit 0) st) :
  V P 0 z382 (z13e 0 (z4hu s u) (fun a=>a.k) (MLok u R) a Φ) (z4hu s u a):=by
 obtain ⟨k,t,O⟩:=a
 obtain ⟨r1,r2,r3⟩:=ha
 simp only at r1 r2 r3
 simp only [z4hu]
 refine zbn1 (V_W mix zcy2 ?_)
 by_cases hk:0<k
 case neg =>
  obtain rfl:k=0:=by omega
  have e:R=(t,O):=r1.symm
  subst e
  simp (disch:=first|omega|simp<;>omega|fail) [-zA,-zB,-zC,-zD,-zE,z382,z9o7]
  refine hw _ _ (z515 ?_ rfl) hexit
  simp (disch:=first|omega|simp<;>omega|fail) [-zA,-zB,-zC,-zD,-zE]
 obtain ⟨k,rfl⟩ : ∃ k',k=k'+1:=⟨k-1,by omega⟩
 have hk':(0:Int)<((k+1:Nat):Int):=by omega
 have r1':attL (zivf u) k (t.adv 5,O++[attM t (zivf u)])=R:=r1
 have n1:=z4rs t 3
 have n2:=z2s7 t (n:=3) (by omega)
 obtain ⟨N,hN⟩ : ∃ N:Nat,tpN t 3=N:=⟨_,(Int.toNat_of_nonneg n1).symm⟩
 have hi:=zi63 u N (by omega)
 have hat:attM t (zivf u)=⟨zzh5 (t.adv 4) ow5,recM (zzh5 (t.adv 1) st4) (tpN (t.adv 2) 5) (cmdS (decide (0<tpN (t.adv 3) 4))) (lkM (zivf u) N)⟩:=by simp only [attM,recM,hN]
 obtain ⟨L,hL⟩ : ∃ L,lkM (zivf u) N=L:=⟨_,rfl⟩
 rw [hL] at hi hat
 obtain ⟨w,hw'⟩ : ∃ w,zzh5 (t.adv 4) ow5=w:=⟨_,rfl⟩
 obtain ⟨sn,hsn⟩ : ∃ w,zzh5 (t.adv 1) st4=w:=⟨_,rfl⟩
 obtain ⟨an,han⟩ : ∃ w,tpN (t.adv 2) 5=w:=⟨_,rfl⟩
 rw [hw',hsn,han] at hat
 have kN:z1m3 [.int .i64 3] (tpC t)=some (.int .i64 N,tpC (t.adv 1)):=by rw [z44h (by omega) (by omega) (by omega),hN]
 have kP:zqck [.sl true 1 4 [.str [98,117,105,108,100],.str [98,117,105,108,100],.str [98,117,105,108,100],.str [116,101,115,116]]] (tpC (t.adv 1))=some (.str sn,tpC (t.adv 2)):=by
  rw [← hsn]; exact ze0z (t:=t.adv 1) (l:=st4) (by simp only [zpza]; omega) (by decide) (by decide)
 have kA:z1m3 [.int .i64 5] (tpC (t.adv 2))=some (.int .i64 an,tpC (t.adv 3)):=by rw [z44h (by simp only [zpza]; omega) (by omega) (by omega),han,zjmf]
 obtain ⟨cn,hcn⟩ : ∃ w,tpN (t.adv 3) 4=w:=⟨_,rfl⟩
 rw [hcn] at hat
 have kC:z1m3 [.int .i64 4] (tpC (t.adv 3))=some (.int .i64 cn,tpC (t.adv 4)):=by rw [z44h (by simp only [zpza]; omega) (by omega) (by omega),hcn,zjmf]
 have kW:zqck [.sl true 1 5 [.str [97,110,110],.str [98,111,98],.str [99,97,116],.str [100,97,110],.str [101,118,101]]] (tpC (t.adv 4))=some (.str w,tpC (t.adv 5)):=by
  rw [← hw']; exact ze0z (t:=t.adv 4) (l:=ow5) (by simp only [zpza]; omega) (by decide) (by decide)
 obtain ⟨x,hx⟩ : ∃ x,attM t (zivf u)=x:=⟨_,rfl⟩
 rw [hx] at r1' hat
 have hap:=zte0 (f:=atC) (k:=3) (b:=168) (l:=O) (x:=x) (h:=[AObj.cells (spC sp0),.cells (tpC (t.adv 5)),.cells (spC s)]) rfl zu2q (by decide) (by decide) (fun _=>zwh8) (by omega)
 simp only [List.cons_append,List.nil_append] at hap
 have hoB:Am.below ((oT atC O).length+1+1+1) (oV 3 9 O)=true:=by
  have:=zv6o (f:=atC) (k:=3) (K:=9) (l:=O)
  rwa [show (oT atC O).length+1+1+1=3+(oT atC O).length by omega]
 have hTb : ∀ n,zlf2 n (oT atC O)=true:=fun n=>zd81 z83l
 have tpB : ∀ n v,z1r6 n (tpC v)=true:=fun n v=>zmq5 n _ (zs7w v)
 have hG:zyp8 ((lksS u).dv 3 lkC)=true:=z8q9 _
 obtain ⟨G,hGG⟩ : ∃ G,(lksS u).dv 3 lkC=G:=⟨_,rfl⟩
 rw [hGG] at hi hG
 simp (disch:=first|omega|simp<;>omega|fail) [-zA,-zB,-zC,-zD,-zE,z382,z9o7,hGG]
 refine zbn1 (z3mo (zbn1 (V_W mix zcy2 ?_)))
 simp (disch:=first|omega|simp<;>omega|fail) [-zA,-zB,-zC,-zD,-zE,zoj9,kN,hi,zrer,z6cz]
 refine zs10 (H := .cells (spC sp0) :: .cells (tpC (t.adv 1)) :: .cells (spC s)::oT atC O) (cs:=lkC L) (t':=[.junk,.junk,.mp 0 7 0,.junk,.mp 1 2 0,.mp 2 7 0,G,oV 3 9 O,.int .i64 ((k:Int)+1),.ref (lkC L)]++js 55) (by simp (disch:=first|omega|simp<;>omega|fail) [-zA,-zB,-zC,-zD,-zE,zlf2,hTb,tpB]) (by simp) ?_ (by simp (disch:=first|omega|simp<;>omega|fail) [-zA,-zB,-zC,-zD,-zE,z1r6,Am.below,hoB,z8b8 _ _ hG]) ?_
 ·have e1:=zz5t (H := .cells (spC sp0) :: .cells (tpC (t.adv 1)) :: .cells (spC s)::oT atC O) (cs:=lkC L) (off:=0) (z53g L)
  simp only [List.length_cons,z9tw,List.drop_zero,List.cons_append] at e1
  have e2 : ∀ h,mk1 (kLt ((oT atC O).length+1+1+1)) h (oV 3 9 O)=oV 3 9 O:=fun h=>zd3c hoB
  have e3 : ∀ h i v,i<3→mk1 (kLt ((oT atC O).length+1+1+1)) h (.mp i v 0) = .mp i v 0:=fun h i v hi=>zd3c (by simp [Am.below]; omega)
  have e4 : ∀ K h,mk1 K h G=G:=fun K h=>zvft hG
  simp (disch:=first|omega|simp<;>omega|fail) [-zA,-zB,-zC,-zD,-zE,e1,e2,e3,e4,-z1bt]
 refine zbn1 (V_W mix zcy2 ?_)
 simp (disch:=first|omega|simp<;>omega|fail) [-zA,-zB,-zC,-zD,-zE,zdem,kP,zoj9,kA,zfi3,zj40,zg2e,zhem]
 have hst : ∀ (h:List AObj) (id:Nat),zy6o h id 1 4 (.sl true 1 1 [.str [109,97,107,101]]) (some (reC (recM sn an nilS L)))=some (.junk,h.set id (.cells (reC (recM sn an (cmdS true) L)))):=fun h id=>by rw [← zgro,zhzr]; rfl
 have tail : ∀ r,atC x=atC ⟨w,r⟩→V P 0 MadT (z0mx 1 (z2pk P 0 MadR (z13e 0 (z4hu s u) (fun a=>a.k) (MLok u R) ⟨k+1,t,O⟩ Φ))) ⟨[.junk,.junk,.mp 0 7 0,.junk,.mp 1 2 0,.mp 2 7 0,G,oV 3 9 O,.int .i64 ((k:Int)+1),.junk,.mp ((oT atC O).length+1+1+1) 8 0]++js 54,.cells (spC sp0) :: .cells (tpC (t.adv 4)) :: .cells (spC s)::(oT atC O++[.cells (reC r)])⟩:=fun r hxr=>by
  refine zs10 (H := .cells (spC sp0) :: .cells (tpC (t.adv 4)) :: .cells (spC s)::oT atC O) (cs:=reC r) (t':=[.junk,.junk,.mp 0 7 0,.junk,.mp 1 2 0,.mp 2 7 0,G,oV 3 9 O,.int .i64 ((k:Int)+1),.junk,.ref (reC r)]++js 54) (by simp (disch:=first|omega|simp<;>omega|fail) [-zA,-zB,-zC,-zD,-zE,zlf2,hTb,tpB]) (by simp) ?_ (by simp (disch:=first|omega|simp<;>omega|fail) [-zA,-zB,-zC,-zD,-zE,z1r6,Am.below,hoB,z8b8 _ _ hG]) ?_
  ·have e1:=zz5t (H := .cells (spC sp0) :: .cells (tpC (t.adv 4)) :: .cells (spC s)::oT atC O) (cs:=reC r) (off:=0) (zqkx r)
   simp only [List.length_cons,z74o,List.drop_zero,List.cons_append] at e1
   have e2 : ∀ h,mk1 (kLt ((oT atC O).length+1+1+1)) h (oV 3 9 O)=oV 3 9 O:=fun h=>zd3c hoB
   have e3 : ∀ h i v,i<3→mk1 (kLt ((oT atC O).length+1+1+1)) h (.mp i v 0) = .mp i v 0:=fun h i v hi=>zd3c (by simp [Am.below]; omega)
   have e4 : ∀ K h,mk1 K h G=G:=fun K h=>zvft hG
   simp (disch:=first|omega|simp<;>omega|fail) [-zA,-zB,-zC,-zD,-zE,e1,e2,e3,e4,-z1bt]
  rw [hxr,show atC ⟨w,r⟩=DV.str w::reC r from rfl] at hap
  refine V_W mix zcy2 ?_
  simp (disch:=first|omega|simp<;>omega|fail) [-zA,-zB,-zC,-zD,-zE,MadT,z382,zdem,kW,zbr1,zbd9,zsdw,hap]
  refine V_W mix zcy2 ?_
  simp (disch:=first|omega|simp<;>omega|fail) [-zA,-zB,-zC,-zD,-zE,MadR,z382]
  exact ⟨⟨k,t.adv 5,O++[x]⟩,z515 (by simp (disch:=first|omega|simp<;>omega|fail) [-zA,-zB,-zC,-zD,-zE,z4hu,z9o7,hGG]) (by simp (disch:=first|omega|simp<;>omega|fail) [-zA,-zB,-zC,-zD,-zE,z4hu,z9o7]),by simp only; omega,⟨r1',by simp only [zpza]; omega,by simp only [List.length_append,List.length_singleton]; omega⟩⟩
 refine zbn1 (V_W mix zcy2 ?_)
 by_cases hc:0<cn
 ·have hcd:decide (0<cn)=true:=by simpa using hc
  rw [hcd] at hat
  have tl:=tail (recM sn an (cmdS true) L) (by rw [hat])
  simp (disch:=first|omega|simp<;>omega|fail) [-zA,-zB,-zC,-zD,-zE,zoj9,kC,hc,hst,zjj2,zxft]
  refine zqfd (z515 ?_ rfl) tl
  simp (disch:=first|omega|simp<;>omega|fail) [-zA,-zB,-zC,-zD,-zE]
 ·have hcd:decide (0<cn)=false:=by simpa using hc
  rw [hcd] at hat
  have tl:=tail (recM sn an nilS L) (by rw [hat]; rfl)
  simp (disch:=first|omega|simp<;>omega|fail) [-zA,-zB,-zC,-zD,-zE,zoj9,kC,hc]
  refine zqfd (z515 ?_ rfl) tl
  simp (disch:=first|omega|simp<;>omega|fail) [-zA,-zB,-zC,-zD,-zE]
end Go.Proofs.YtjknipdiglpnlaaDoor
set_option linter.unusedSimpArgs false
set_option linter.unusedVariables false
namespace Go.Proofs.YtjknipdiglpnlaaDoor
open Go Go.Am
theorem zwvp {n:Int} {d:Sl Str}:zvnk (spC sp0) [(0,1,.str [98,117,105,108,100]),(2,1,.int .i64 n),(3,1,d.dv 1 stC)]=some (.agg (spC ⟨bld,false,n,d,nilS,nilS,nilS⟩)):=by
 have e1:=zfr8 (x:=d) (s:=1) (f:=stC)
 rw [z6e1]
 simp [zvnk,zi03,zk7y,spC,e1,bld]
 exact ⟨rfl,rfl⟩
theorem z9wh {s:Spc} {v:Sl Str} {h:List AObj} {id:Nat}:zy6o h id 1 4 (v.dv 1 stC) (some (spC s))=some (.junk,h.set id (.cells (spC ⟨s.name,s.del,s.thr,s.by_,v,s.mats,s.prods⟩))):=by
 rw [storeO_1 (zfr8 _) (z4ja _) (by rw [zz68]; decide)]; rfl
def MdeT:ACode:=match a10.code with
 | .seq _ (.seq _ (.seq _ (.seq _ y)))=>y
 | _ => .skip
theorem z5ae (x:Nl):V P 0 a10.code (retK a10.res (.tup [.agg (spC (spM (nlT x))),(ownN (atM (nlT x))).dv 9 atC])) ⟨zr5g a10.ntmps [x.dv],[]⟩:=by
 have hx1:=z9k1 x
 have t0:(nlT x).at_=0:=rfl
 have hml:=z4if (nlT x)
 obtain ⟨t,ht⟩ : ∃ t,nlT x=t:=⟨_,rfl⟩
 rw [ht] at hx1 t0 hml ⊢
 have a1:=z4rs t 3
 have a2:=z2s7 t (n:=3) (by omega)
 have a3:=z4rs (t.adv 1) 2
 have a4:=z2s7 (t.adv 1) (n:=2) (by omega)
 obtain ⟨q,hq⟩ : ∃ q,tpN t 3=q:=⟨_,rfl⟩
 obtain ⟨B,hB⟩ : ∃ B:Nat,tpN (t.adv 1) 2=B:=⟨_,(Int.toNat_of_nonneg a3).symm⟩
 rw [hq] at a1 a2
 rw [hB] at a3 a4
 have k1:z1m3 [.int .i64 3] (tpC t)=some (.int .i64 q,tpC (t.adv 1)):=by rw [z44h (by omega) (by omega) (by omega),hq]
 have k2:=zj2t
 have k3:z1m3 [.int .i64 2] (tpC (t.adv 1))=some (.int .i64 B,tpC (t.adv 2)):=by rw [z44h (by simp only [zpza]; omega) (by omega) (by omega),hB,zjmf]
 have hsl : ∀ H,ziwb H 1 (ownS.dv 1 stC) (some (.int .i64 B)) none none=some ((byS B).dv 1 stC):=fun H=>z0ke zqv6 (by simp [zo77,iD,ownS]; omega) (Nat.le_refl _)
 obtain ⟨c,hc⟩ : ∃ c,tpN (t.adv 2) 3=c:=⟨_,rfl⟩
 have k4:z1m3 [.int .i64 3] (tpC (t.adv 2))=some (.int .i64 c,tpC (t.adv 3)):=by rw [z44h (by simp only [zpza]; omega) (by omega) (by omega),hc,zjmf]
 have k5:=z723 (t:=t.adv 3) (by simp only [zpza]; omega)
 have hlo:=zaow (t.adv 3)
 simp only [zpza] at hlo
 have k6:z1m3 [.int .i64 8] (tpC (zivf (t.adv 3)).1)=some (.int .i64 (atN t),tpC ((zivf (t.adv 3)).1.adv 1)):=by rw [z44h (by omega) (by omega) (by omega),zi14]
 have hal:=ztxl t
 have hsp:spM t=⟨bld,false,1+q,byS B,cmdS (decide (c=0)),nilS,nilS⟩:=by simp only [spM,hq,hB,hc,Int.toNat_natCast]
 have hR:attL (zivf (t.adv 3)) (atN t) ((zivf (t.adv 3)).1.adv 1,[])=attL (zivf (t.adv 3)) (atN t) ((zivf (t.adv 3)).1.adv 1,[]):=rfl
 obtain ⟨R,hRR⟩ : ∃ R,attL (zivf (t.adv 3)) (atN t) ((zivf (t.adv 3)).1.adv 1,[])=R:=⟨_,rfl⟩
 have hat:atM t=R.2:=by unfold atM; rw [hRR]
 rw [hat] at hml ⊢
 have hst : ∀ (h:List AObj) (id:Nat),zy6o h id 1 4 (.sl true 1 1 [.str [109,97,107,101]]) (some (spC ⟨bld,false,1+q,byS B,nilS,nilS,nilS⟩))=some (.junk,h.set id (.cells (spC ⟨bld,false,1+q,byS B,cmdS true,nilS,nilS⟩))):=fun h id=>by rw [← zgro,z9wh]
 have w1:IntKind.i64.wrap (1+q)=1+q:=znmn (by omega) (by omega)
 refine zbn1 (V_W mix zcy2 ?_)
 simp (disch:=first|omega|simp<;>omega|fail) [-zA,-zB,-zC,-zD,-zE,a10]
 rw [← z6e1]
 refine zbn1 (V_W mix zcy2 ?_)
 simp (disch:=first|omega|simp<;>omega|fail) [-zA,-zB,-zC,-zD,-zE,zhx7,zxy5,ztqv,hx1]
 refine zbn1 (V_W mix zcy2 ?_)
 simp (disch:=first|omega|simp<;>omega|fail) [-zA,-zB,-zC,-zD,-zE,zoj9,k1,w1,zeu0,k2,k3,hsl,zwvp,zf01]
 have fin:V P 0 MdeT (retK a10.res (.tup [.agg (spC (spM t)),(ownN R.2).dv 9 atC])) ⟨[.junk,.junk,.mp 0 7 0,.nils,.mp 1 2 0,.mp 2 7 0]++js 59,[.cells (spC sp0),.cells (tpC (t.adv 3)),.cells (spC (spM t))]⟩:=by
  have hsn:=zigm (k:=3) (l:=R.2) (h:=[AObj.cells (spC (spM t)),.cells (tpC R.1),.cells (spC (spM t))]) (r:=[]) rfl zu2q z83l (by omega)
  rw [List.append_nil] at hsn
  simp only [List.cons_append,List.nil_append] at hsn
  generalize hS:spM t=s at hsn ⊢
  refine zbn1 (V_W mix zcy2 ?_)
  simp (disch:=first|omega|simp<;>omega|fail) [-zA,-zB,-zC,-zD,-zE,MdeT,a10,zstc,k5]
  refine zbn1 (V_W mix zcy2 ?_)
  simp (disch:=first|omega|simp<;>omega|fail) [-zA,-zB,-zC,-zD,-zE]
  refine zbn1 (zbn1 (V_W mix zcy2 ?_))
  simp (disch:=first|omega|simp<;>omega|fail) [-zA,-zB,-zC,-zD,-zE,zoj9,k6]
  refine z3mo (ztbr (z4hu s (t.adv 3)) (fun a=>a.k) (MLok (t.adv 3) R) ⟨atN t,(zivf (t.adv 3)).1.adv 1,[]⟩ (z515 (by simp (disch:=first|omega|simp<;>omega|fail) [-zA,-zB,-zC,-zD,-zE,z4hu,z9o7,zl8p]) (by simp (disch:=first|omega|simp<;>omega|fail) [-zA,-zB,-zC,-zD,-zE,z4hu,z9o7,zkrk])) ⟨hRR,by simp only [zpza]; omega,by simp only [List.length_nil]; omega⟩ (fun a ha=>zlvf a ha ?_ ?_))
  ·rw [z233,zd2q]
   refine zbn1 (V_W mix zcy2 ?_)
   simp (disch:=first|omega|simp<;>omega|fail) [-zA,-zB,-zC,-zD,-zE,z8s9,zf01]
   refine V_W mix zcy2 ?_
   simp (disch:=first|omega|simp<;>omega|fail) [-zA,-zB,-zC,-zD,-zE,z8s9,hsn]
  ·intro st st' hw' h
   rw [z233,zd2q] at h ⊢
   exact zqfd hw' h
 refine zbn1 (V_W mix zcy2 ?_)
 by_cases h0:c=0
 ·have hd:decide (c=0)=true:=by simpa using h0
  rw [hd] at hsp
  simp (disch:=first|omega|simp<;>omega|fail) [-zA,-zB,-zC,-zD,-zE,zoj9,k4,h0,hst]
  refine zqfd (z515 ?_ ?_) fin
  ·simp (disch:=first|omega|simp<;>omega|fail) [-zA,-zB,-zC,-zD,-zE]
  ·rw [hsp]
 ·have hd:decide (c=0)=false:=by simpa using h0
  rw [hd] at hsp
  simp (disch:=first|omega|simp<;>omega|fail) [-zA,-zB,-zC,-zD,-zE,zoj9,k4,h0]
  refine zqfd (z515 ?_ ?_) fin
  ·simp (disch:=first|omega|simp<;>omega|fail) [-zA,-zB,-zC,-zD,-zE]
  ·rw [hsp]; rfl
noncomputable def cMad:List DV→Option DV:=con (fun _=>True) (fun x:Nl=>[x.dv]) (fun x => .tup [.agg (spC (spM (nlT x))),(ownN (atM (nlT x))).dv 9 atC])
theorem zbf6 {x:Nl}:cMad [x.dv]=some (.tup [.agg (spC (spM (nlT x))),(ownN (atM (nlT x))).dv 9 atC]) :=
 zsn4 (f:=fun x:Nl=>[x.dv]) (g:=fun x => .tup [.agg (spC (spM (nlT x))),(ownN (atM (nlT x))).dv 9 atC]) (fun a b e=>by
  simp only [List.cons.injEq,and_true] at e
  rw [z2kw e]) x
theorem z1qx:(Con.pure cMad).Sound P 10:=z2au fun a _=>znz9 Tryd.func10 z1ee (z5ae a)
end Go.Proofs.YtjknipdiglpnlaaDoor
set_option linter.unusedSimpArgs false
set_option linter.unusedVariables false
namespace Go.Proofs.YtjknipdiglpnlaaDoor
open Go Go.Am
structure Shp (s:Spc) (X:List Agr) (bad:List Str):Prop where
 ne : ∀ a ∈ X,a.owners.l≠[]
 st : ∀ a ∈ X,a.lnk.step=s.name
 ds:X.Pairwise fun a b=>b.owners.l.length≤a.owners.l.length
 nd:(X.flatMap fun a=>a.owners.l).Nodup
 nb : ∀ a ∈ X,∀ o ∈ a.owners.l,o ∉ bad∧o ∈ s.by_.l
 ky:X.Pairwise fun a b=>zxyz b.lnk a.lnk=false
theorem z0v8 {s:Spc} {l:List Att} (h:l.length≤20):Shp s (zj70 (votL s l)) (eqv1 (votL s l)):=by
 have hV:=zldt s l
 have hpi:=zey4 (V:=votL s l) (by omega)
 have hown:=zkqo (V:=votL s l) (by omega)
 have hmem : ∀ a ∈ zj70 (votL s l),pA a ∈ z9dw vLss Vot.own vKey (votL s l):=fun a ha=>by rw [← hpi]; exact List.mem_map_of_mem ha
 refine ⟨fun a ha=>(hown a ha).2.1,fun a ha => ?_,?_,?_,fun a ha o ho => ?_,?_⟩
 ·obtain ⟨v,hv,e⟩:=List.mem_map.1 (hown a ha).2.2.2
  unfold votL at hv
  obtain ⟨x,hx,rfl⟩:=List.mem_map.1 hv
  rw [← e]; rfl
 ·have:=zg8z (lt:=vLss) (own:=Vot.own) (key:=vKey) z3gj (votL s l)
  rw [← hpi,List.pairwise_map] at this
  exact this
 ·have:=zwba (lt:=vLss) (own:=Vot.own) (key:=vKey) z3gj (votL s l)
  rw [← hpi,List.flatMap_map] at this
  exact this
 ·obtain ⟨⟨v,hv,e1,_⟩,hc⟩:=(zt1x (lt:=vLss) (own:=Vot.own) (key:=vKey) z3gj (hmem a ha)).2.2 o ho
  refine ⟨?_,?_⟩
  ·rw [zz7g (by omega)]
   intro hb
   exact hc ((zwqs z3gj).1 hb)
  ·unfold votL eliS at hv
   simp only [List.mem_map,List.mem_filter] at hv
   obtain ⟨a,⟨b,⟨hb,hp⟩,rfl⟩,rfl⟩:=hv
   unfold eliP at hp
   simp only [Bool.and_eq_true,decide_eq_true_eq] at hp
   rw [← e1]; exact hp.2.2
 ·have:=z7o7 (lt:=vLss) (own:=Vot.own) (key:=vKey) (votL s l)
  rw [← hpi,List.map_map] at this
  refine (List.pairwise_map.1 this).imp fun {a b} h => ?_
  have hk:zxyz b.lnk a.lnk=decide ((pA b).1=(pA a).1):=zf7y (a:=⟨[],b.lnk⟩) (b:=⟨[],a.lnk⟩)
  rw [hk,decide_eq_false_iff_not]
  exact fun e=>h e.symm
theorem z3lu:Runs tbl0 a15 [.str []] (.bool true):=by
 refine ⟨?_⟩
 simp (disch:=first|omega|simp<;>omega|fail) [-zA,-zB,-zC,-zD,-zE,a15]
noncomputable def cScp:List DV→Option DV:=con (fun _=>True) (fun _:Unit=>[.str []]) (fun _ => .bool true)
theorem zzwc:cScp [.str []]=some (.bool true):=zsn4 (f:=fun _:Unit=>[DV.str []]) (g:=fun _=>DV.bool true) (fun _ _ _=>rfl) ()
theorem zdns:(Con.pure cScp).Sound P 15:=z2au fun _ _=>zljw mix zr5o Tryd.func15 zz37 z3lu
noncomputable def z2t8:Tbl:=addT 10 (.pure cMad) (addT 11 (.pure cCmp) (addT 12 (.pure cH02) (addT 13 (.pure cSmL) (addT 14 (.pure cAwk) (addT 15 (.pure cScp) tbl0)))))
theorem zb3u:z2t8 10 = .pure cMad:=by simp [z2t8]
theorem zbak:z2t8 11 = .pure cCmp:=by simp [z2t8]
theorem zz6y:z2t8 12 = .pure cH02:=by simp [z2t8]
theorem z7el:z2t8 13 = .pure cSmL:=by simp [z2t8]
theorem znxa:z2t8 14 = .pure cAwk:=by simp [z2t8]
theorem z82m:z2t8 15 = .pure cScp:=by simp [z2t8]
theorem zjb3:z2t8.Sound P:=z0rp z1qx (z0rp z7zd (z0rp znod (z0rp zijq (z0rp z41w (z0rp zdns zr5o)))))
def ztxa (X:List Agr) (i:Nat):List Str:=(X.take i).flatMap fun a=>a.owners.l
theorem zxow {X:List Agr} {i:Nat} (h:i<X.length):ztxa X (i+1)=ztxa X i++X[i].owners.l:=by
 unfold ztxa; rw [List.take_succ_eq_append_getElem h,List.flatMap_append]; simp
theorem z8jo {X:List Agr} {i k:Nat} (hn:(X.flatMap fun a=>a.owners.l).Nodup) (hi:i<X.length) (hk:k<X[i].owners.l.length):X[i].owners.l[k] ∉ ztxa X i++X[i].owners.l.take k:=by
 have h1:(ztxa X (i+1)).Nodup:=by
  have:ztxa X (i+1)++((X.drop (i+1)).flatMap fun a=>a.owners.l)=X.flatMap fun a=>a.owners.l:=by
   unfold ztxa; rw [← List.flatMap_append,List.take_append_drop]
  rw [← this,List.nodup_append] at hn
  exact hn.1
 rw [zxow hi] at h1
 have h2:ztxa X i++X[i].owners.l=(ztxa X i++X[i].owners.l.take k)++X[i].owners.l.drop k:=by rw [List.append_assoc,List.take_append_drop]
 rw [h2,List.nodup_append] at h1
 intro h
 exact h1.2.2 _ h _ (by rw [List.drop_eq_getElem_cons hk]; exact List.mem_cons_self ..) rfl
def zpdw (s:Spc) (X:Sl Agr) (B:DV) (i:Nat):St:=a3S0 (.mp 0 7 0) (X.dv 5 agC) B (oV 1 1 (ztxa X.l i)) (.int .i64 i) (.cells (spC s)::oT stC (ztxa X.l i))
def zkxu (s:Spc) (X:Sl Agr) (B:DV) (i:Nat) (A:Sl Str) (k:Nat):St:=a3S1 (.mp 0 7 0) (X.dv 5 agC) B (oV 1 1 (ztxa X.l i++A.l.take k)) (.int .i64 i) (.int .i64 k) (.cells (spC s)::oT stC (ztxa X.l i++A.l.take k))
def z7st (s:Spc) (X:Sl Agr) (B:DV) (i:Nat) (k:Nat):St:=a3S2 (.mp 0 7 0) (X.dv 5 agC) B (oV 1 1 (ztxa X.l (i+1))) (.int .i64 i) (.int .i64 k) (.cells (spC s)::oT stC (ztxa X.l (i+1)))
def CamR:ACode:=match a3L0 with
 | .seq _ (.seq _ y)=>y
 | _ => .skip
def CamS:ACode:=match a3L0 with
 | .seq _ (.seq (.block _ (.seq _ (.seq _ y))) _)=>y
 | _ => .skip
theorem zlun {sn:List Str} (hb:sn.length≤1000) (s:Spc):(zyp8 (oV 1 1 sn)=true∧oV 1 1 sn=(ownN sn).dv 1 stC)∨(zyp8 (oV 1 1 sn)=false∧snap (.cells (spC s)::oT stC sn) 3 (oV 1 1 sn)=some ((ownN sn).dv 1 stC)):=by
 by_cases e:sn=[]
 ·subst e; exact .inl ⟨rfl,rfl⟩
 ·right
  have h1:zyp8 (oV 1 1 sn)=false:=by rw [zpni e]; rfl
  have:=zigm (f:=stC) (K:=1) (k:=1) (l:=sn) (h:=[AObj.cells (spC s)]) (r:=[]) rfl (fun _=>rfl) z0tx (by omega)
  rw [List.append_nil] at this
  exact ⟨h1,this⟩
set_option maxHeartbeats 8000000 in
theorem zdar {s:Spc} {X:Sl Agr} {B:Sl Str} {n:Nat} (hn:X.l.length=n) (hl:n≤20) (hnm:s.name=[98,117,105,108,100]) (sh:Shp s X.l B.l) (hw20 : ∀ a ∈ X.l,a.owners.l.length≤20) (i:Nat) (hi:i≤n) {Φ:AExit→St→Prop}
  (hexit:Φ (.exit 0) ⟨js 122,.cells (spC s)::oT stC (ztxa X.l n)⟩) (hw : ∀ st st',Weak 0 st st'→Φ (.exit 0) st'→Φ (.exit 0) st) :
  W z2t8 0 a3L0 (z13e 0 (zpdw s X (B.dv 1 stC)) (fun i=>n-i) (fun i=>i≤n) i Φ) (zpdw s X (B.dv 1 stC) i):=by
 have hlen : ∀ i,i≤n→(ztxa X.l i).length≤20*i:=fun i=>by
  induction i with
  | zero=>intro _; simp [ztxa]
  | succ j ih =>
   intro h
   rw [zxow (by omega),List.length_append]
   have:=hw20 _ (List.getElem_mem (show j<X.l.length by omega))
   have:=ih (by omega)
   omega
 simp only [zpdw]
 by_cases h:i<n
 case neg =>
  have h':¬ (i:Int)<n:=by omega
  have e:i=n:=by omega
  subst e
  simp (disch:=first|omega|simp<;>omega|fail) [-zA,-zB,-zC,-zD,-zE,a3L0,a3S0,hn,h,h']
  refine hw _ _ (z515 ?_ rfl) hexit
  simp (disch:=first|omega|simp<;>omega|fail) [-zA,-zB,-zC,-zD,-zE]
 have h':(i:Int)<n:=by omega
 have hiX:i<X.l.length:=by omega
 have hg : ∀ H,zpsc H 5 (X.dv 5 agC) i=some (.ref (agC X.l[i])):=fun H=>zalo znh2 hiX
 have hne:=sh.ne _ (List.getElem_mem hiX)
 have hst:=sh.st _ (List.getElem_mem hiX)
 have hnb:=sh.nb _ (List.getElem_mem hiX)
 have h20:=hw20 _ (List.getElem_mem hiX)
 have hsucc:=zxow hiX
 have hnew:=fun k hk=>z8jo sh.nd hiX (k:=k) hk
 have hds : ∀ j (hj:j+1=i),X.l[i].owners.l.length≤(X.l[j]'(by omega)).owners.l.length:=fun j hj=>List.pairwise_iff_getElem.1 sh.ds j i (by omega) hiX (by omega)
 have hky : ∀ j (hj:j<i),zxyz X.l[i].lnk (X.l[j]'(by omega)).lnk=false:=fun j hj=>List.pairwise_iff_getElem.1 sh.ky j i (by omega) hiX hj
 obtain ⟨a,ha⟩ : ∃ a,X.l[i]=a:=⟨_,rfl⟩
 simp only [ha] at hg hne hst hnb h20 hsucc hnew hds hky
 rw [hnm] at hst
 have hlo : ∀ H,lenD H (a.owners.dv 1 stC)=some (.int .i64 a.owners.l.length):=fun H=>zupj
 have hm0:0<a.owners.l.length:=List.length_pos_iff.2 hne
 obtain ⟨m,hm⟩ : ∃ m,a.owners.l.length=m:=⟨_,rfl⟩
 rw [hm] at hlo hm0 h20 hds
 have hm0':¬ (m:Int)=0:=by omega
 have hm0n:m≠0:=by omega
 have hsl:=hlen i hi
 obtain ⟨N,hN⟩ : ∃ N:Nat,n=N:=⟨_,rfl⟩
 -- the second loop
 have loop2 : ∀ k,k≤i→W z2t8 0 a3L2 (z13e 0 (z7st s X (B.dv 1 stC) i) (fun k=>i-k) (fun k=>k≤i) k (z0mx 4 (z0mx 1 (seqK z2t8 0 CamR (z13e 0 (zpdw s X (B.dv 1 stC)) (fun i=>n-i) (fun i=>i≤n) i Φ))))) (z7st s X (B.dv 1 stC) i k):=fun k hk=>by
  simp only [z7st]
  by_cases q:k<i
  ·have q':(k:Int)<i:=by omega
   have hgk : ∀ H,zpsc H 5 (X.dv 5 agC) k=some (.ref (agC (X.l[k]'(by omega)))):=fun H=>zalo znh2 (by omega)
   have hk2:=hky k q
   obtain ⟨b,hb⟩ : ∃ b,X.l[k]'(by omega)=b:=⟨_,rfl⟩
   rw [hb] at hgk hk2
   have hc:=zfc5 (a:=a.lnk) (b:=b.lnk)
   rw [hk2] at hc
   simp (disch:=first|omega|simp<;>omega|fail) [-zA,-zB,-zC,-zD,-zE,a3L2,a3S2,q,q',hg,hgk,zrbu,z7el,hc]
   exact ⟨k+1,z515 (by simp (disch:=first|omega|simp<;>omega|fail) [-zA,-zB,-zC,-zD,-zE,z7st,a3S2]) (by simp (disch:=first|omega|simp<;>omega|fail) [-zA,-zB,-zC,-zD,-zE,z7st,a3S2]),by omega,by omega⟩
  ·have q':¬ (k:Int)<i:=by omega
   simp (disch:=first|omega|simp<;>omega|fail) [-zA,-zB,-zC,-zD,-zE,a3L2,a3S2,q,q',CamR,a3L0]
   exact ⟨i+1,z515 (by simp (disch:=first|omega|simp<;>omega|fail) [-zA,-zB,-zC,-zD,-zE,zpdw,a3S0]) (by simp (disch:=first|omega|simp<;>omega|fail) [-zA,-zB,-zC,-zD,-zE,zpdw,a3S0]),by omega,by omega⟩
 -- the first loop
 have loop1 : ∀ k,k≤m→W z2t8 0 a3L1 (z13e 0 (zkxu s X (B.dv 1 stC) i a.owners) (fun k=>m-k) (fun k=>k≤m) k (z0mx 2 (seqK z2t8 0 CamS (z0mx 1 (seqK z2t8 0 CamR (z13e 0 (zpdw s X (B.dv 1 stC)) (fun i=>n-i) (fun i=>i≤n) i Φ)))))) (zkxu s X (B.dv 1 stC) i a.owners k):=fun k hk=>by
  simp only [zkxu]
  by_cases q:k<m
  ·have q':(k:Int)<m:=by omega
   have hko:k<a.owners.l.length:=by omega
   have hgk : ∀ H,zpsc H 1 (a.owners.dv 1 stC) k=some (.ref (stC a.owners.l[k])):=fun H=>zalo zqv6 hko
   have hnk:=hnew k hko
   have hnb2:=hnb _ (List.getElem_mem hko)
   have htk:a.owners.l.take (k+1)=a.owners.l.take k++[a.owners.l[k]]:=List.take_succ_eq_append_getElem hko
   obtain ⟨o,ho⟩ : ∃ o,a.owners.l[k]=o:=⟨_,rfl⟩
   rw [ho] at hgk hnk hnb2 htk
   have hsnl:(ztxa X.l i++a.owners.l.take k).length≤1000:=by rw [List.length_append,List.length_take]; omega
   have hs2:ztxa X.l i++a.owners.l.take (k+1)=(ztxa X.l i++a.owners.l.take k)++[o]:=by rw [htk,List.append_assoc]
   obtain ⟨sn,hsn⟩ : ∃ sn,ztxa X.l i++a.owners.l.take k=sn:=⟨_,rfl⟩
   rw [hsn] at hnk hsnl hs2 ⊢
   have c1:=z299 (x:=ownN sn) (v:=o)
   rw [zd8n (by omega),show decide (o ∈ sn)=false by simpa using hnk] at c1
   have c2:=z299 (x:=B) (v:=o)
   rw [show decide (o ∈ B.l)=false by simpa using hnb2.1] at c2
   have c3:=z299 (x:=s.by_) (v:=o)
   rw [show decide (o ∈ s.by_.l)=true by simpa using hnb2.2] at c3
   have hap:=zte0 (f:=stC) (k:=1) (b:=16) (l:=sn) (x:=o) (h:=[AObj.cells (spC s)]) rfl (fun _=>rfl) (by decide) (by decide) zlxs (by omega)
   rw [show stC o=[DV.str o] from rfl] at hap
   simp only [List.cons_append,List.nil_append] at hap
   rcases zlun hsnl s with ⟨p1,p2⟩|⟨p1,p2⟩
   ·rw [← p2] at c1
    simp (disch:=first|omega|simp<;>omega|fail) [-zA,-zB,-zC,-zD,-zE,a3L1,a3S1,hg,zntj,hlo,q,q',hgk,stC,zz6y,p1,c1,c2,c3,z5rd,zylz,hap,zfuu]
    exact ⟨k+1,z515 (by simp (disch:=first|omega|simp<;>omega|fail) [-zA,-zB,-zC,-zD,-zE,zkxu,a3S1,hs2]) (by simp (disch:=first|omega|simp<;>omega|fail) [-zA,-zB,-zC,-zD,-zE,zkxu,a3S1,hs2]),by omega,by omega⟩
   ·simp (disch:=first|omega|simp<;>omega|fail) [-zA,-zB,-zC,-zD,-zE,a3L1,a3S1,hg,zntj,hlo,q,q',hgk,stC,zz6y,p1,p2,c1,c2,c3,z5rd,zylz,hap,zfuu]
    exact ⟨k+1,z515 (by simp (disch:=first|omega|simp<;>omega|fail) [-zA,-zB,-zC,-zD,-zE,zkxu,a3S1,hs2]) (by simp (disch:=first|omega|simp<;>omega|fail) [-zA,-zB,-zC,-zD,-zE,zkxu,a3S1,hs2]),by omega,by omega⟩
  ·have q':¬ (k:Int)<m:=by omega
   have hend:ztxa X.l i++a.owners.l.take k=ztxa X.l (i+1):=by rw [hsucc,List.take_of_length_le (by omega)]
   rw [hend]
   simp (disch:=first|omega|simp<;>omega|fail) [-zA,-zB,-zC,-zD,-zE,a3L1,a3S1,hg,zntj,hlo,q,q',CamS,a3L0]
   refine zlm5 (z7st s X (B.dv 1 stC) i) (fun k=>i-k) (fun k=>k≤i) 0 (z515 (by simp (disch:=first|omega|simp<;>omega|fail) [-zA,-zB,-zC,-zD,-zE,z7st,a3S2]) (by simp (disch:=first|omega|simp<;>omega|fail) [-zA,-zB,-zC,-zD,-zE,z7st,a3S2])) (Nat.zero_le _) ?_
   exact loop2
 rcases i with _|j
 ·have hg0 : ∀ H,zpsc H 5 (X.dv 5 agC) 0=some (.ref (agC a)):=fun H=>hg H
  have h0:(0:Int)<n:=by omega
  simp (disch:=first|omega|simp<;>omega|fail) [-zA,-zB,-zC,-zD,-zE,a3L0,a3S0,hn,h,h',h0,hg0,zntj,hlo,hm0',hm0n,z0wg,hst]
  refine zlm5 (zkxu s X (B.dv 1 stC) 0 a.owners) (fun k=>m-k) (fun k=>k≤m) 0 (z515 (by simp (disch:=first|omega|simp<;>omega|fail) [-zA,-zB,-zC,-zD,-zE,zkxu,a3S1]) (by simp (disch:=first|omega|simp<;>omega|fail) [-zA,-zB,-zC,-zD,-zE,zkxu,a3S1])) (Nat.zero_le _) ?_
  exact loop1
 ·have hj:=hds j rfl
  have hgj : ∀ H,zpsc H 5 (X.dv 5 agC) j=some (.ref (agC (X.l[j]'(by omega)))):=fun H=>zalo znh2 (by omega)
  obtain ⟨b,hb⟩ : ∃ b,X.l[j]'(by omega)=b:=⟨_,rfl⟩
  rw [hb] at hgj hj
  have hlb : ∀ H,lenD H (b.owners.dv 1 stC)=some (.int .i64 b.owners.l.length):=fun H=>zupj
  have hgt:¬ b.owners.l.length<m:=by omega
  have hgt':¬ (b.owners.l.length:Int)<m:=by omega
  have hj0:(0:Int)<((j+1:Nat):Int):=by omega
  have hjs:((j+1:Nat):Int)-1=j:=by omega
  have hj1:(j:Int)+1-1=j:=by omega
  have hg1 : ∀ H,zpsc H 5 (X.dv 5 agC) ((j:Int)+1)=some (.ref (agC a)):=fun H=>hg H
  have h1':(j:Int)+1<n:=by omega
  have h2':(0:Int)<(j:Int)+1:=by omega
  simp (disch:=first|omega|simp<;>omega|fail) [-zA,-zB,-zC,-zD,-zE,a3L0,a3S0,hn,h,h',h1',h2',hg1,zntj,hlo,hm0',hm0n,z0wg,hst,hgj,hlb,hgt,hgt',hj1]
  refine zlm5 (zkxu s X (B.dv 1 stC) (j+1) a.owners) (fun k=>m-k) (fun k=>k≤m) 0 (z515 (by simp (disch:=first|omega|simp<;>omega|fail) [-zA,-zB,-zC,-zD,-zE,zkxu,a3S1]) (by simp (disch:=first|omega|simp<;>omega|fail) [-zA,-zB,-zC,-zD,-zE,zkxu,a3S1])) (Nat.zero_le _) ?_
  exact loop1
theorem z8uu (x:Nl):V P 0 a3.code (retK a3.res (.bool true)) ⟨zr5g a3.ntmps [x.dv],[]⟩:=by
 have k0:=zzs2
 have kS:=zzwc
 have k1:=zbf6 (x:=x)
 have hp:=zkx7 x
 have hml:=z4if (nlT x)
 have hm:(ownN (atM (nlT x))).l=atM (nlT x):=zd8n (by omega)
 have hnm:(spM (nlT x)).name=[98,117,105,108,100]:=rfl
 obtain ⟨s,hs⟩ : ∃ s,spM (nlT x)=s:=⟨_,rfl⟩
 obtain ⟨M,hM⟩ : ∃ M,atM (nlT x)=M:=⟨_,rfl⟩
 rw [hM] at k1 hml hm
 rw [hs] at k1 hnm
 obtain ⟨l,hl⟩ : ∃ l,ownN M=l:=⟨_,rfl⟩
 rw [hl] at k1 hm
 have hll:l.l.length≤7:=by rw [hm]; exact hml
 have k2:=zvlb (s:=s) (l:=l) (by omega)
 have sh:=z0v8 (s:=s) (l:=l.l) (by omega)
 have hV:=zldt s l.l
 have hA:=z9h1 (V:=votL s l.l) (by omega)
 have hown:=zkqo (V:=votL s l.l) (by omega)
 have he:=z131 (V:=votL s l.l) (by omega)
 have hX:(ownN (zj70 (votL s l.l))).l=zj70 (votL s l.l):=zd8n (by omega)
 have hBB:(ownN (eqv1 (votL s l.l))).l=eqv1 (votL s l.l):=zd8n (by omega)
 rw [← hX,← hBB] at sh
 have h20 : ∀ a ∈ (ownN (zj70 (votL s l.l))).l,a.owners.l.length≤20:=fun a ha=>by rw [hX] at ha; have:=(hown a ha).2.2.1; omega
 have hq:qvA (votL s l.l)=(ownN (eqv1 (votL s l.l))).dv 1 stC:=rfl
 rw [hq] at k2
 obtain ⟨n,hn⟩ : ∃ n,(ownN (zj70 (votL s l.l))).l.length=n:=⟨_,rfl⟩
 have hn20:n≤20:=by rw [← hn,hX]; omega
 obtain ⟨X,hXX⟩ : ∃ X,ownN (zj70 (votL s l.l))=X:=⟨_,rfl⟩
 obtain ⟨B,hBx⟩ : ∃ B,ownN (eqv1 (votL s l.l))=B:=⟨_,rfl⟩
 rw [hXX] at k2 sh h20 hn
 rw [hBx] at k2 sh
 refine zbn1 (V_W mix zjb3 ?_)
 simp (disch:=first|omega|simp<;>omega|fail) [-zA,-zB,-zC,-zD,-zE,a3]
 refine zbn1 (V_W mix zjb3 ?_)
 simp (disch:=first|omega|simp<;>omega|fail) [-zA,-zB,-zC,-zD,-zE,zb3u,k1,hp,zf01]
 refine zbn1 (V_W mix zjb3 ?_)
 simp (disch:=first|omega|simp<;>omega|fail) [-zA,-zB,-zC,-zD,-zE,z8s9,zbak,k2,zu1r]
 refine zbn1 (V_W mix zjb3 ?_)
 simp (disch:=first|omega|simp<;>omega|fail) [-zA,-zB,-zC,-zD,-zE]
 refine zbn1 (zbn1 (V_W mix zjb3 ?_))
 simp (disch:=first|omega|simp<;>omega|fail) [-zA,-zB,-zC,-zD,-zE]
 have hs0:ztxa X.l 0=[]:=rfl
 refine z3mo (ztbr (zpdw s X (B.dv 1 stC)) (fun i=>n-i) (fun i=>i≤n) 0 (z515 (by simp (disch:=first|omega|simp<;>omega|fail) [-zA,-zB,-zC,-zD,-zE,zpdw,a3S0,hs0,zl8p]) (by simp (disch:=first|omega|simp<;>omega|fail) [-zA,-zB,-zC,-zD,-zE,zpdw,a3S0,hs0,zkrk])) (Nat.zero_le _) (fun i hi=>V_W mix zjb3 (zdar hn hn20 hnm sh h20 i hi ?_ ?_)))
 ·rw [z233,zd2q]
  refine V_W mix zjb3 ?_
  simp (disch:=first|omega|simp<;>omega|fail) [-zA,-zB,-zC,-zD,-zE,znxa,k0,z82m,kS]
 ·intro st st' hw' h
  rw [z233,zd2q] at h ⊢
  exact zqfd hw' h
namespace agreementCamps
theorem law_holds (dvs) (h:Ty.Args [.sl (.int .i64)] dvs):Am.Sem P 3 dvs (.bool true):=by
 obtain ⟨d1,l1,rfl,h1,rfl⟩:=h
 obtain ⟨x,_,rfl⟩:=zjzy h1
 exact znz9 Tryd.func3 z842 (z8uu x)
end agreementCamps
end Go.Proofs.YtjknipdiglpnlaaDoor
