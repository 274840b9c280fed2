/-
  11 texts of mine in one.
-/
import Derived.Test.YtjknipdiglpnlaaCb37bba16
import Derived.Test.YtjknipdiglpnlaaC723e9050
import Derived.Test.YtjknipdiglpnlaaC6880b73c
import Derived.Test.YtjknipdiglpnlaaC830f4274
import Derived.Test.YtjknipdiglpnlaaC7ae7c4d7
set_option maxRecDepth 20000
set_option maxHeartbeats 4000000
open List renaming map_take → zA, map_drop → zB, map_set → zC, map_append → zD, drop_one → zE
set_option linter.unusedSimpArgs false
set_option linter.unusedVariables false
namespace Go.Proofs.Ytjknipdiglpnlaa
open Go Go.Am
def lnA (a:Agr):Nat:=a.owners.l.length
def lnK (c:(List Ent × List Ent) × List Str):Nat:=c.2.length
theorem zru2 {s:Spc} {l:List Att} (h:l.length≤100):(decF lnA s.thr (zj70 (votL s l))).map pA=decF lnK s.thr (z9dw vLss Vot.own vKey (votL s l)):=by
 have hV:=zldt s l
 rw [← zey4 (by omega)]
 exact (z6bw (len:=lnA) (len':=lnK) (f:=pA) fun c=>rfl).symm
end Go.Proofs.Ytjknipdiglpnlaa
set_option linter.unusedSimpArgs false
set_option linter.unusedVariables false
namespace Go.Proofs.Ytjknipdiglpnlaa
open Go Go.Am
noncomputable def zga7:Tbl:=addT 25 (.tch z1m3) (addT 27 (.tch zqck) tbl0)
theorem zamd:zga7 25 = .tch z1m3:=by simp [zga7]
theorem zqj4:zga7 27 = .tch zqck:=by simp [zga7]
theorem z695:zga7.Sound P:=z0rp z51e (z0rp z3hj zr5o)
theorem z0ff {a b:Str} (h:a.length+b.length≤4611686018427387904):zhl4 .add (.str a) (.str b)=some (.str (a++b)):=by simp [zhl4,zdnj,h]
theorem zq04 (t:Tp):(zzh5 t nmA).length≤3:=by
 have:=zqrp t (l:=nmA) (by decide)
 generalize zzh5 t nmA=x at this ⊢
 simp only [nmA,List.mem_cons,List.not_mem_nil,or_false] at this
 rcases this with e|e|e|e|e<;>subst e<;>decide
theorem z2ex (t:Tp):(zzh5 t nmB).length≤3:=by
 have:=zqrp t (l:=nmB) (by decide)
 generalize zzh5 t nmB=x at this ⊢
 simp only [nmB,List.mem_cons,List.not_mem_nil,or_false] at this
 rcases this with e|e|e|e|e|e<;>subst e<;>decide
structure PL where
 k:Nat
 t:Tp
 s:Str
def zdph (a:PL):St:=zd78 (.mp 0 2 0) (.str a.s) (.int .i64 a.k) [.cells (tpC a.t)]
theorem zqqw (t:Tp) (ht:t.at_<3900000000):RunsF zga7 a68 [.mp 0 2 0] [.cells (tpC t)] (.str (zczq t)) [.cells (tpC (zvs1 t))]:=by
 refine ⟨?_⟩
 have n1:=z89h t
 have n2:=z9sd t
 obtain ⟨R,hR⟩ : ∃ R,pthL (zf1o t) (t.adv 1) []=R:=⟨_,rfl⟩
 have hv:zczq t=R.1++zzh5 R.2 nmB:=by unfold zczq; rw [hR]
 have hT:zvs1 t=R.2.adv 1:=by unfold zvs1; rw [hR]
 obtain ⟨N,hN⟩ : ∃ N,zf1o t=N:=⟨_,rfl⟩
 rw [hN] at n1 n2 hR
 rw [hv,hT]
 simp (disch:=first|omega|simp<;>omega|fail) [-zA,-zB,-zC,-zD,-zE,a68,zamd,z44h,n1]
 refine zlm5 zdph (fun a=>a.k) (fun a=>pthL a.k a.t a.s=R∧a.t.at_+a.k<3950000000∧a.s.length+4*a.k≤100) ⟨N,t.adv 1,[]⟩ (z515 (by simp (disch:=first|omega|simp<;>omega|fail) [-zA,-zB,-zC,-zD,-zE,zdph,zd78]) (by simp (disch:=first|omega|simp<;>omega|fail) [-zA,-zB,-zC,-zD,-zE,zdph,zd78])) ⟨hR,by simp only [zpza]; omega,by simp only [List.length_nil]; omega⟩ (fun a ha => ?_)
 obtain ⟨k,u,s⟩:=a
 obtain ⟨r1,r2,r3⟩:=ha
 simp only at r1 r2 r3
 simp only [zdph]
 by_cases hk:0<k
 ·obtain ⟨k,rfl⟩ : ∃ k',k=k'+1:=⟨k-1,by omega⟩
  have hk':(0:Int)<((k+1:Nat):Int):=by omega
  have hp:zqck [.sl true 1 5 [.str [97],.str [98],.str [115,114,99],.str [111,117,116],.str [108,105,98]]] (tpC u)=some (.str (zzh5 u nmA),tpC (u.adv 1)):=ze0z (l:=nmA) (by omega) (by decide) (by decide)
  have b1:=zq04 u
  have b2:zhl4 .add (.str s) (.str (zzh5 u nmA))=some (.str (s++zzh5 u nmA)):=z0ff (by omega)
  have b3:zhl4 .add (.str (s++zzh5 u nmA)) (.str [47])=some (.str (s++zzh5 u nmA++[47])):=z0ff (by simp; omega)
  simp (disch:=first|omega|simp<;>omega|fail) [-zA,-zB,-zC,-zD,-zE,z0bm,zd78,zqj4,hp,b2,b3]
  exact ⟨⟨k,u.adv 1,s++zzh5 u nmA++[47]⟩,z515 (by simp (disch:=first|omega|simp<;>omega|fail) [-zA,-zB,-zC,-zD,-zE,zdph,zd78]) (by simp (disch:=first|omega|simp<;>omega|fail) [-zA,-zB,-zC,-zD,-zE,zdph,zd78]),by simp only; omega,r1,by simp only [zpza]; omega,by simp only [List.length_append,List.length_singleton]; omega⟩
 ·obtain rfl:k=0:=by omega
  have e:R=(s,u):=r1.symm
  subst e
  have hp:zqck [.sl true 1 6 [.str [97],.str [98],.str [97,46,99],.str [98,46,104],.str [120],.str [111,117,116]]] (tpC u)=some (.str (zzh5 u nmB),tpC (u.adv 1)):=ze0z (l:=nmB) (by omega) (by decide) (by decide)
  have hfz : ∀ k,fzL 1 k (tpC (u.adv 1)) (tpC (u.adv 1)):=fun k=>znnb (zs7w _)
  have b1:=z2ex u
  have b2:zhl4 .add (.str s) (.str (zzh5 u nmB))=some (.str (s++zzh5 u nmB)):=z0ff (by omega)
  simp (disch:=first|omega|simp<;>omega|fail) [-zA,-zB,-zC,-zD,-zE,z0bm,zd78,zqj4,hp,hfz,b2]
noncomputable def zu0i:List DV→List DV→Option (DV × List DV):=conT (fun a:Tp=>a.at_<3900000000) (fun a=>[]) tpC (fun a=>(.str (zczq a),tpC (zvs1 a)))
theorem zi9c {t:Tp} (h:t.at_<3900000000):zu0i [] (tpC t)=some (.str (zczq t),tpC (zvs1 t)) :=
 ztyo (A:=fun a:Tp=>a.at_<3900000000) (f:=fun a=>[]) (s:=tpC) (fun a b _ e=>by rw [z15z e]) t h
theorem zndi:(Con.tch zu0i).Sound P 68 :=
 z0tq (fun a _=>⟨rfl,zs7w _,rfl,zs7w _⟩) fun a h=>zizi mix z695 Try.func68 z20i (zqqw a h) (Nat.le_refl _)
theorem zdny {x:Ent}:bslD 33 1 [.str [],w8 0#8,w8 0#8,w8 0#8,w8 0#8,w8 0#8,w8 0#8,w8 0#8,w8 0#8,w8 0#8,w8 0#8,w8 0#8,w8 0#8,w8 0#8,w8 0#8,w8 0#8,w8 0#8,w8 0#8,w8 0#8,w8 0#8,w8 0#8,w8 0#8,w8 0#8,w8 0#8,w8 0#8,w8 0#8,w8 0#8,w8 0#8,w8 0#8,w8 0#8,w8 0#8,w8 0#8,w8 0#8] [(0,33,.agg (enC x))]=some (.sl true 33 1 (enC x)):=by
 have h1:=zuso x
 simp [bslD,zi03,zk7y,reps,h1,List.drop_of_length_le]
theorem zdo5 {L:List Ent} {i:Nat} (hi:i<L.length):oneC 1 false ((fl enC L).drop (i*33))=some (.str L[i].path):=by
 rw [fl,zkb2 zuso,List.drop_eq_getElem_cons hi,List.flatMap_cons]; rfl
theorem zpju {l:List Ent} {x y:Ent}:putF (l++[y]) x=putF l x++(if y.path=x.path then [] else [y]):=by
 unfold putF
 rw [List.filter_append]
 by_cases h:y.path=x.path<;>simp [h]
def zyte (s:Sl Ent) (x:Ent) (i:Nat):St:=zbq4 (s.dv 33 enC) (.mp 0 33 0) (oV 1 33 (putF (s.l.take i) x)) (.int .i64 i) (.cells (enC x)::oT enC (putF (s.l.take i) x))
def z525 (n:Nat) (x:Ent) (a:IPg Ent):St:=z8vo (.ms 1 (n*33) 0 33 n (n*33)) (.int .i64 a.A.length) [.cells (enC x),.cells (fl enC (a.A++x::a.B))]
theorem zet6 (s:Sl Ent) (x:Ent) (hs:s.l.length≤1000):Runs tbl0 a67 [s.dv 33 enC,.agg (enC x)] ((own (putV s.l x)).dv 33 enC):=by
 refine ⟨?_⟩
 obtain ⟨N,hN⟩ : ∃ N,s.l.length=N:=⟨_,rfl⟩
 rw [hN] at hs
 simp (disch:=first|omega|simp<;>omega|fail) [-zA,-zB,-zC,-zD,-zE,a67]
 refine zlm5 (zyte s x) (fun i=>N-i) (fun i=>i≤N) 0 (z515 (by simp (disch:=first|omega|simp<;>omega|fail) [-zA,-zB,-zC,-zD,-zE,zyte,zbq4,putF,zl8p]) (by simp (disch:=first|omega|simp<;>omega|fail) [-zA,-zB,-zC,-zD,-zE,zyte,zbq4,putF,zkrk])) (by omega) (fun i hi => ?_)
 simp only [zyte]
 by_cases h:i<N
 ·have h':(i:Int)<N:=by omega
  have hg : ∀ H,zpsc H 33 (s.dv 33 enC) i=some (.ref (enC s.l[i])):=fun H=>zalo zuso (by omega)
  have hnx:putF (s.l.take (i+1)) x=putF (s.l.take i) x++(if s.l[i].path=x.path then [] else [s.l[i]]):=by rw [List.take_succ_eq_append_getElem (by omega),zpju]
  have hfl:=zk1d (s.l.take i) x
  rw [List.length_take] at hfl
  obtain ⟨y,hy⟩ : ∃ y,s.l[i]=y:=⟨_,rfl⟩
  rw [hy] at hg hnx
  obtain ⟨F,hF⟩ : ∃ F,putF (s.l.take i) x=F:=⟨_,rfl⟩
  rw [hF] at hnx hfl ⊢
  have hap:=zte0 (f:=enC) (k:=1) (b:=48) (l:=F) (x:=y) (h:=[AObj.cells (enC x)]) rfl zuso (by decide) (by decide) (fun _=>zo6u) (by omega)
  simp only [List.cons_append,List.nil_append] at hap
  by_cases e:y.path=x.path
  ·rw [if_pos e,List.append_nil] at hnx
   simp (disch:=first|omega|simp<;>omega|fail) [-zA,-zB,-zC,-zD,-zE,zfle,zbq4,hN,h,h',hg,z5fr,e]
   exact ⟨i+1,z515 (by simp (disch:=first|omega|simp<;>omega|fail) [-zA,-zB,-zC,-zD,-zE,zyte,zbq4,hnx]) (by simp (disch:=first|omega|simp<;>omega|fail) [-zA,-zB,-zC,-zD,-zE,zyte,zbq4,hnx]),by omega,by omega⟩
  ·rw [if_neg e] at hnx
   simp (disch:=first|omega|simp<;>omega|fail) [-zA,-zB,-zC,-zD,-zE,zfle,zbq4,hN,h,h',hg,z5fr,e,z6p9,zdny,hap]
   exact ⟨i+1,z515 (by simp (disch:=first|omega|simp<;>omega|fail) [-zA,-zB,-zC,-zD,-zE,zyte,zbq4,hnx]) (by simp (disch:=first|omega|simp<;>omega|fail) [-zA,-zB,-zC,-zD,-zE,zyte,zbq4,hnx]),by omega,by omega⟩
 have h':¬ (i:Int)<N:=by omega
 rw [List.take_of_length_le (show s.l.length≤i by omega)]
 have hfl:=zk1d s.l x
 have hr:putV s.l x=insR pLt x (putF s.l x):=rfl
 have hrl:=z3b0 s.l x
 rw [hr] at hrl ⊢
 obtain ⟨Q,hQ⟩ : ∃ Q,putF s.l x=Q:=⟨_,rfl⟩
 rw [hQ] at hfl hrl ⊢
 have hap:=zte0 (f:=enC) (k:=1) (b:=48) (l:=Q) (x:=x) (h:=[AObj.cells (enC x)]) rfl zuso (by decide) (by decide) (fun _=>zo6u) (by omega)
 simp only [List.cons_append,List.nil_append] at hap
 obtain ⟨n,hn⟩ : ∃ n,Q.length+1=n:=⟨_,rfl⟩
 have hQn:(Q++[x]).length=n:=by rw [List.length_append,List.length_singleton,hn]
 have eV:oV 1 33 (Q++[x]) = .ms 1 (n*33) 0 33 n (n*33):=by rw [zpni (by simp),hQn]
 have eT:oT enC (Q++[x])=[.cells (fl enC (Q++[x]))]:=zu2l (by simp)
 rw [eV,eT] at hap
 obtain ⟨G0,hG0⟩ : ∃ G,fl enC (Q++[x])=G:=⟨_,rfl⟩
 have hG0l:G0.length=n*33:=by rw [← hG0,z8lx zuso,hQn]
 rw [hG0] at hap
 have hsub:IntKind.i64.wrap ((n:Int)-1)=(Q.length:Int):=by rw [← hn]; rw [znmn (by omega) (by omega)]; omega
 have hsub':(n:Int)-1=(Q.length:Int):=by omega
 simp (disch:=first|omega|simp<;>omega|fail) [-zA,-zB,-zC,-zD,-zE,zfle,zbq4,hN,h,h',z6p9,zdny,hap,hG0l,hsub']
 refine zlm5 (z525 n x) (fun a=>a.A.length) (fun a=>a.A++a.B=Q∧z8u0 pLt x a.B) ⟨Q,[]⟩ (z515 (by simp (disch:=first|omega|simp<;>omega|fail) [-zA,-zB,-zC,-zD,-zE,z525,z8vo]) (by simp (disch:=first|omega|simp<;>omega|fail) [-zA,-zB,-zC,-zD,-zE,z525,z8vo,hG0])) ⟨by simp,fun b hb=>by simp at hb⟩ (fun a ha => ?_)
 obtain ⟨A,B⟩:=a
 obtain ⟨r1,r2⟩:=ha
 simp only at r1 r2
 simp only [z525]
 have hpu : ∀ L:List Ent,zbao (L.flatMap enC)=true:=fun L=>zp6k zt9q L
 rcases (List.eq_nil_or_concat A) with rfl|⟨A',y,rfl⟩
 ·have e:insR pLt x Q=x::B:=by rw [← r1]; exact zv9v r2 (.inl rfl)
  rw [e] at hrl ⊢
  have hBn:(x::B).length=n:=by rw [← hn,← r1]; simp
  have hsn:=z29t (f:=enC) (K:=33) zuso zt9q (pre:=[AObj.cells (enC x)]) (l:=x::B) (m:=n)
  rw [hBn,List.take_of_length_le (Nat.le_of_eq hBn)] at hsn
  simp only [List.length_singleton,List.cons_append,List.nil_append] at hsn
  rw [zqrs (by omega),hBn]
  generalize (x::B).flatMap enC=Z at hsn ⊢
  simp (disch:=first|omega|simp<;>omega|fail) [-zA,-zB,-zC,-zD,-zE,zmm6,z8vo,hsn]
 ·rw [List.concat_eq_append] at r1
  rw [List.concat_eq_append]
  have hAl:A'.length+1+B.length+1=n:=by rw [← hn,← r1]; simp; omega
  obtain ⟨L,hL⟩ : ∃ L,A'++[y]++x::B=L:=⟨_,rfl⟩
  have hLl:L.length=n:=by rw [← hL]; simp; omega
  obtain ⟨p,hp⟩ : ∃ p,A'.length=p:=⟨_,rfl⟩
  have g1 : ∀ h:p<L.length,L[p]=y:=fun h=>by subst hL hp; simp
  have g2 : ∀ h:p+1<L.length,L[p+1]=x:=fun h=>by subst hL hp; simp [List.getElem_append_right]
  have hs':=z72y (A:=A') (B:=B) (R:=[]) (x:=x) (y:=y)
  rw [List.append_nil,List.append_nil,hL,hp] at hs'
  obtain ⟨G,hG⟩ : ∃ G,fl enC L=G:=⟨_,rfl⟩
  have hGl:G.length=n*33:=by rw [← hG,z8lx zuso,hLl]
  obtain ⟨G2,hG2⟩ : ∃ G2,fl enC (L.set (p+1) y)=G2:=⟨_,rfl⟩
  have hG2l:G2.length=n*33:=by rw [← hG2,z8lx zuso,List.length_set,hLl]
  have o1:oneC 33 true (G.drop (p*33))=some (.agg (enC y)):=by rw [← hG,zfiy zuso (by omega),g1]
  have o2:oneC 33 true (G.drop ((p+1)*33))=some (.agg (enC x)):=by rw [← hG,zfiy zuso (by omega),g2]
  have o3:oneC 1 false (G.drop (p*33))=some (.str y.path):=by rw [← hG,zdo5 (by omega),g1]
  have o4:oneC 1 false (G.drop ((p+1)*33))=some (.str x.path):=by rw [← hG,zdo5 (by omega),g2]
  have s1 : ∀ h:List AObj,zy6o h 1 33 ((p+1)*33) (.agg (enC y)) (some G)=some (.junk,h.set 1 (.cells G2)):=fun h=>by rw [← hG,zdvi zuso (by decide) (fun _=>zo6u) (by omega),hG2]
  have s2 : ∀ h:List AObj,zy6o h 1 33 (p*33) (.agg (enC x)) (some G2)=some (.junk,h.set 1 (.cells (fl enC (A'++x::(y::B))))):=fun h=>by rw [← hG2,zdvi zuso (by decide) (fun _=>zo6u) (by rw [List.length_set]; omega),hs']
  have t1:((p:Int)+1).toNat=p+1:=by omega
  have t2:(A'++[y]).length=p+1:=by rw [← hp]; simp
  have q0:(0:Int)<(p:Int)+1:=by omega
  have q1:(p:Int)+1-1=p:=by omega
  have q2:(p:Int)+1<n:=by omega
  have q2n:p+1<n:=by omega
  have q3:(p:Int)<n:=by omega
  have q3n:p<n:=by omega
  have hlt : ∀ {a b:Str},zhl4 .lss (.str a) (.str b)=some (.bool (Op.bytesLess a b)):=rfl
  have hc0:pLt x y=Op.bytesLess x.path y.path:=rfl
  rw [hL,hG,t2]
  cases hc:pLt x y with
  | true =>
   rw [hc0] at hc
   simp (disch:=first|omega|simp<;>omega|fail) [-zA,-zB,-zC,-zD,-zE,zmm6,z8vo,hGl,hG2l,o1,o2,o3,o4,s1,s2,t1,q0,q1,q2,q2n,q3,q3n,hlt,hc]
   refine ⟨⟨A',y::B⟩,z515 (by simp (disch:=first|omega|simp<;>omega|fail) [-zA,-zB,-zC,-zD,-zE,z525,z8vo,hp]) (by simp (disch:=first|omega|simp<;>omega|fail) [-zA,-zB,-zC,-zD,-zE,z525,z8vo]),by simp,by simpa using r1,fun b hb => ?_⟩
   rcases List.mem_cons.1 hb with rfl|hb
   ·rw [hc0]; exact hc
   ·exact r2 b hb
  | false =>
   have e:insR pLt x Q=A'++[y]++x::B:=by rw [← r1]; exact zv9v r2 (.inr ⟨A',y,rfl,hc⟩)
   rw [hc0] at hc
   rw [e,hL]
   have hsn:=z29t (f:=enC) (K:=33) zuso zt9q (pre:=[AObj.cells (enC x)]) (l:=L) (m:=n)
   rw [hLl,List.take_of_length_le (Nat.le_of_eq hLl),hG] at hsn
   simp only [List.length_singleton,List.cons_append,List.nil_append] at hsn
   rw [zqrs (by omega),hLl]
   generalize L.flatMap enC=Z at hsn ⊢
   simp (disch:=first|omega|simp<;>omega|fail) [-zA,-zB,-zC,-zD,-zE,zmm6,z8vo,hGl,o3,o4,t1,q0,q1,q2,q2n,q3,q3n,hlt,hc,hsn]
noncomputable def cPut:List DV→Option DV:=con (fun a:Sl Ent × Ent=>a.1.l.length≤1000) (fun a=>[a.1.dv 33 enC,.agg (enC a.2)]) (fun a=>(own (putV a.1.l a.2)).dv 33 enC)
theorem zx4n {s:Sl Ent} {x:Ent} (h:s.l.length≤1000):cPut [s.dv 33 enC,.agg (enC x)]=some ((own (putV s.l x)).dv 33 enC) :=
 zzno (A:=fun a:Sl Ent × Ent=>a.1.l.length≤1000) (f:=fun a=>[a.1.dv 33 enC,.agg (enC a.2)]) (g:=fun a=>(own (putV a.1.l a.2)).dv 33 enC) (by
  rintro ⟨a,b⟩ ⟨c,d⟩ e
  simp only [List.cons.injEq,DV.agg.injEq,and_true] at e
  rw [zdvs e.1,zxv7 e.2]) (s,x) h
theorem zuao:(Con.pure cPut).Sound P 67:=z2au fun a h=>zljw mix zr5o Try.func67 zy8u (zet6 a.1 a.2 h)
end Go.Proofs.Ytjknipdiglpnlaa
set_option linter.unusedSimpArgs false
set_option linter.unusedVariables false
namespace Go.Proofs.Ytjknipdiglpnlaa
open Go Go.Am
theorem z1lj (s:Sl Ent) (i:Nat) (hs:s.l.length≤1000) (hi:i<s.l.length):Runs tbl0 a66 [s.dv 33 enC,.int .i64 i] ((zmmk s.l i).dv 33 enC):=by
 refine ⟨?_⟩
 have hs1 : ∀ H,ziwb H 33 (s.dv 33 enC) none (some (.int .i64 i)) none=some ((s.part 0 i (i == s.l.length)).dv 33 enC):=fun H=>z0ke zuso (by simp [zo77,iD]; omega) (by omega)
 have hs2 : ∀ H,ziwb H 33 (s.dv 33 enC) (some (.int .i64 (i+1))) none none=some ((s.part (i+1) s.l.length (s.l.length == s.l.length)).dv 33 enC):=fun H=>z0ke zuso (by simp [zo77,iD]; omega) (Nat.le_refl _)
 obtain ⟨Y1,hY1⟩ : ∃ Y,s.part 0 i (i == s.l.length)=Y:=⟨_,rfl⟩
 obtain ⟨Y2,hY2⟩ : ∃ Y,s.part (i+1) s.l.length (s.l.length == s.l.length)=Y:=⟨_,rfl⟩
 have hY1l:Y1.l=s.l.take i:=by rw [← hY1]; show (s.l.drop 0).take (i-0)=_; simp
 have hY2l:Y2.l=s.l.drop (i+1):=by rw [← hY2]; show (s.l.drop (i+1)).take (s.l.length-(i+1))=_; exact List.take_of_length_le (by simp)
 have hr:zoqy s.l i=s.l.take i++s.l.drop (i+1):=rfl
 have hrl:=zy3g s.l i
 have hTl:(s.l.take i).length=i:=by rw [List.length_take]; omega
 have hDl:(s.l.drop (i+1)).length=s.l.length-(i+1):=List.length_drop ..
 obtain ⟨A,hA⟩ : ∃ A,s.l.take i=A:=⟨_,rfl⟩
 obtain ⟨D,hD⟩ : ∃ D,s.l.drop (i+1)=D:=⟨_,rfl⟩
 rw [hY1] at hs1
 rw [hY2] at hs2
 rw [hA] at hY1l hr hTl
 rw [hD] at hY2l hr hDl
 have hv1 : ∀ H,visY H (Y1.dv 33 enC)=some (A.length,A.flatMap enC):=fun H=>by rw [zwaa zuso,hY1l]
 have hv2 : ∀ H,visY H (Y2.dv 33 enC)=some (D.length,D.flatMap enC):=fun H=>by rw [zwaa zuso,hY2l]
 have ap1:=znxx (f:=enC) (k:=0) (b:=48) (l:=[]) (cs:=A) (h:=[]) rfl zuso (by decide) (by decide) (fun _=>zo6u) (by simp; omega)
 have ap2:=znxx (f:=enC) (k:=0) (b:=48) (l:=A) (cs:=D) (h:=[]) rfl zuso (by decide) (by decide) (fun _=>zo6u) (by omega)
 simp only [List.nil_append,ze3w,zkrk] at ap1 ap2
 have hkn : ∀ {l:List Ent},(oW 0 33 l).known=true:=zg9v
 have hdr:(zmmk s.l i).dv 33 enC=if zoqy s.l i=[] then .sl true 33 0 [] else (own (zoqy s.l i)).dv 33 enC:=by unfold zmmk; split<;>rfl
 rw [hr] at hdr hrl
 rw [hdr]
 obtain ⟨Z,hZ⟩ : ∃ Z,A++D=Z:=⟨_,rfl⟩
 rw [hZ] at ap2 hrl ⊢
 by_cases e:Z=[]
 ·subst e
  rw [if_pos rfl]
  rw [ze3w,zkrk] at ap2
  simp (disch:=first|omega|simp<;>omega|fail) [-zA,-zB,-zC,-zD,-zE,a66,hs1,hs2,hv1,hv2,ap1,ap2,zch3,hkn]
 ·rw [if_neg e]
  have hsn:=zigm (f:=enC) (K:=33) (k:=0) (l:=Z) (h:=[]) (r:=[]) rfl zuso zt9q (by omega)
  rw [z527 e] at hsn
  simp only [List.nil_append,List.append_nil] at hsn
  rw [zpml e] at ap2
  simp (disch:=first|omega|simp<;>omega|fail) [-zA,-zB,-zC,-zD,-zE,a66,hs1,hs2,hv1,hv2,ap1,ap2,zch3,hkn,hsn]
noncomputable def cDrp:List DV→Option DV:=con (fun a:Sl Ent × Nat=>a.1.l.length≤1000∧a.2<a.1.l.length) (fun a=>[a.1.dv 33 enC,.int .i64 a.2]) (fun a=>(zmmk a.1.l a.2).dv 33 enC)
theorem z4ij {s:Sl Ent} {i:Nat} (h:s.l.length≤1000) (h2:i<s.l.length):cDrp [s.dv 33 enC,.int .i64 i]=some ((zmmk s.l i).dv 33 enC) :=
 zzno (A:=fun a:Sl Ent × Nat=>a.1.l.length≤1000∧a.2<a.1.l.length) (f:=fun a=>[a.1.dv 33 enC,.int .i64 a.2]) (g:=fun a=>(zmmk a.1.l a.2).dv 33 enC) (by
  rintro ⟨a,b⟩ ⟨c,d⟩ e
  simp only [List.cons.injEq,DV.int.injEq,true_and,and_true,Int.natCast_inj] at e
  rw [zdvs e.1,e.2]) (s,i) ⟨h,h2⟩
theorem zb3v:(Con.pure cDrp).Sound P 66:=z2au fun a h=>zljw mix zr5o Try.func66 z3a6 (z1lj a.1 a.2 h.1 h.2)
end Go.Proofs.Ytjknipdiglpnlaa
set_option linter.unusedSimpArgs false
set_option linter.unusedVariables false
namespace Go.Proofs.Ytjknipdiglpnlaa
open Go Go.Am
theorem zg8c {p:Str} {d:Dg}:zvnk [.str [],w8 0#8,w8 0#8,w8 0#8,w8 0#8,w8 0#8,w8 0#8,w8 0#8,w8 0#8,w8 0#8,w8 0#8,w8 0#8,w8 0#8,w8 0#8,w8 0#8,w8 0#8,w8 0#8,w8 0#8,w8 0#8,w8 0#8,w8 0#8,w8 0#8,w8 0#8,w8 0#8,w8 0#8,w8 0#8,w8 0#8,w8 0#8,w8 0#8,w8 0#8,w8 0#8,w8 0#8,w8 0#8] [(0,1,.str p),(1,32,.agg (dgC d))]=some (.agg (enC ⟨p,d⟩)):=by
 have h1:=z1t1 d
 simp [zvnk,zi03,zk7y,enC,h1,List.drop_of_length_le]
noncomputable def z8cb:Tbl:=addT 25 (.tch z1m3) (addT 68 (.tch zu0i) (addT 69 (.tch cSum) (addT 67 (.pure cPut) (addT 66 (.pure cDrp) tbl0))))
theorem zf42:z8cb 25 = .tch z1m3:=by simp [z8cb]
theorem z2fv:z8cb 68 = .tch zu0i:=by simp [z8cb]
theorem zgng:z8cb 69 = .tch cSum:=by simp [z8cb]
theorem z73q:z8cb 67 = .pure cPut:=by simp [z8cb]
theorem z8lo:z8cb 66 = .pure cDrp:=by simp [z8cb]
theorem zleh:z8cb.Sound P:=z0rp z51e (z0rp zndi (z0rp z8dz (z0rp zuao (z0rp zb3v zr5o))))
structure NL where
 k:Nat
 t:Tp
 s:List Ent
def z2ze (m:Nat) (a:NL):St:=z6ev (.mp 0 2 0) ((ownN a.s).dv 33 enC) (.int .i64 a.k) [.cells (tpC a.t)]
theorem zx9h:(nilS:Sl Ent).dv 33 enC = .nils:=rfl
theorem z29k (t:Tp) (m:Nat) (ht:t.at_<3800000000) (hm:m≤100):RunsF z8cb a51 [.mp 0 2 0,.int .i64 m] [.cells (tpC t)] ((ownN (zgxx t m).2).dv 33 enC) [.cells (tpC (zgxx t m).1)]:=by
 refine ⟨?_⟩
 have n1:=znaf t m
 have n2:=z3zi t m
 have hv:zgxx t m=snpL (zep5 t m) (t.adv 1,[]):=rfl
 obtain ⟨R,hR⟩ : ∃ R,snpL (zep5 t m) (t.adv 1,[])=R:=⟨_,rfl⟩
 rw [hR] at hv
 obtain ⟨N,hN⟩ : ∃ N,zep5 t m=N:=⟨_,rfl⟩
 rw [hN] at n1 n2 hR
 rw [hv]
 have hnx:z1m3 [.int .i64 ((m:Int)+1)] (tpC t)=some (.int .i64 N,tpC (t.adv 1)):=by rw [z44h (by omega) (by omega) (by omega),n1]
 simp (disch:=first|omega|simp<;>omega|fail) [-zA,-zB,-zC,-zD,-zE,a51,zf42,hnx]
 refine zlm5 (z2ze m) (fun a=>a.k) (fun a=>snpL a.k (a.t,a.s)=R∧a.t.at_+5*a.k<3810000000∧a.s.length+a.k≤100) ⟨N,t.adv 1,[]⟩ (z515 (by simp (disch:=first|omega|simp<;>omega|fail) [-zA,-zB,-zC,-zD,-zE,z2ze,z6ev,zce3,zx9h]) (by simp (disch:=first|omega|simp<;>omega|fail) [-zA,-zB,-zC,-zD,-zE,z2ze,z6ev])) ⟨hR,by simp only [zpza]; omega,by simp only [List.length_nil]; omega⟩ (fun a ha => ?_)
 obtain ⟨k,u,s⟩:=a
 obtain ⟨r1,r2,r3⟩:=ha
 simp only at r1 r2 r3
 simp only [z2ze]
 by_cases hk:0<k
 ·obtain ⟨k,rfl⟩ : ∃ k',k=k'+1:=⟨k-1,by omega⟩
  have hk':(0:Int)<((k+1:Nat):Int):=by omega
  have k1:=zi9c (t:=u) (by omega)
  have ha:=zj8l u
  have k2:=zliq (t:=zvs1 u) (by omega)
  have hnw:(zvs1 u).adv 1=newT u:=rfl
  have hne:(⟨zczq u,sumV (zvs1 u)⟩:Ent)=newE u:=rfl
  rw [hnw] at k2
  have hsl:(ownN s).l=s:=zd8n (by omega)
  have k3:=zx4n (s:=ownN s) (x:=newE u) (by rw [hsl]; omega)
  rw [hsl,← z527 (zfin s (newE u))] at k3
  have k3:cPut [(ownN s).dv 33 enC,.agg (.str (zczq u)::dgC (sumV (zvs1 u)))]=some ((ownN (putV s (newE u))).dv 33 enC):=k3
  have hat:=ztvs u
  have hpl:=z3b0 s (newE u)
  simp (disch:=first|omega|simp<;>omega|fail) [-zA,-zB,-zC,-zD,-zE,zz44,z6ev,z2fv,k1,zgng,k2,zg8c,hne,z73q,k3,zru8]
  exact ⟨⟨k,newT u,putV s (newE u)⟩,z515 (by simp (disch:=first|omega|simp<;>omega|fail) [-zA,-zB,-zC,-zD,-zE,z2ze,z6ev]) (by simp (disch:=first|omega|simp<;>omega|fail) [-zA,-zB,-zC,-zD,-zE,z2ze,z6ev]),by simp only; omega,r1,by simp only; omega,by simp only; omega⟩
 ·obtain rfl:k=0:=by omega
  have e:R=(u,s):=r1.symm
  subst e
  have hfz : ∀ k,fzL 1 k (tpC u) (tpC u):=fun k=>znnb (zs7w _)
  have hfy : ∀ H,fz 1 H 3 ((ownN s).dv 33 enC)=some ((ownN s).dv 33 enC):=fun H=>zqge (zru8 _)
  simp (disch:=first|omega|simp<;>omega|fail) [-zA,-zB,-zC,-zD,-zE,zz44,z6ev,hfz,hfy]
noncomputable def cSnp:List DV→List DV→Option (DV × List DV):=conT (fun a:Tp × Nat=>a.1.at_<3800000000∧a.2≤100) (fun a=>[.int .i64 a.2]) (fun a=>tpC a.1) (fun a=>((ownN (zgxx a.1 a.2).2).dv 33 enC,tpC (zgxx a.1 a.2).1))
theorem zt2p {t:Tp} {m:Nat} (h:t.at_<3800000000) (hm:m≤100):cSnp [.int .i64 m] (tpC t)=some ((ownN (zgxx t m).2).dv 33 enC,tpC (zgxx t m).1) :=
 ztyo (A:=fun a:Tp × Nat=>a.1.at_<3800000000∧a.2≤100) (f:=fun a=>[.int .i64 a.2]) (s:=fun a=>tpC a.1) (by
  rintro ⟨a,n⟩ ⟨b,m⟩ e1 e2
  simp only [List.cons.injEq,DV.int.injEq,true_and,and_true,Int.natCast_inj] at e1
  rw [e1,z15z e2]) (t,m) ⟨h,hm⟩
theorem zg3i:(Con.tch cSnp).Sound P 51 :=
 z0tq (fun a _=>⟨rfl,zs7w _,zru8 _,zs7w _⟩) fun a h=>zizi mix zleh Try.func51 z8rx (z29k a.1 a.2 h.1 h.2) (Nat.le_refl _)
structure DL where
 k:Nat
 t:Tp
 s:Sl Ent
def zlkl (a:DL):St:=zzv7 (.mp 0 2 0) (a.s.dv 33 enC) (.int .i64 a.k) [.cells (tpC a.t)]
theorem z438 (t:Tp) (s0:Sl Ent) (ht:t.at_<3800000000) (hs0:s0.l.length≤800):RunsF z8cb a48 [.mp 0 2 0,s0.dv 33 enC] [.cells (tpC t)] ((z7ym t s0).2.dv 33 enC) [.cells (tpC (z7ym t s0).1)]:=by
 refine ⟨?_⟩
 have n1:tpN t 4=zp4t t:=znaf t 3
 have n2:zp4t t≤3:=z3zi t 3
 have hv:z7ym t s0=edtL (zp4t t) (t.adv 1,s0):=rfl
 obtain ⟨R,hR⟩ : ∃ R,edtL (zp4t t) (t.adv 1,s0)=R:=⟨_,rfl⟩
 rw [hR] at hv
 obtain ⟨N,hN⟩ : ∃ N,zp4t t=N:=⟨_,rfl⟩
 rw [hN] at n1 n2 hR
 rw [hv]
 simp (disch:=first|omega|simp<;>omega|fail) [-zA,-zB,-zC,-zD,-zE,a48,zf42,z44h,n1]
 refine zlm5 zlkl (fun a=>a.k) (fun a=>edtL a.k (a.t,a.s)=R∧a.t.at_+6*a.k<3810000000∧a.s.l.length+a.k≤900) ⟨N,t.adv 1,s0⟩ (z515 (by simp (disch:=first|omega|simp<;>omega|fail) [-zA,-zB,-zC,-zD,-zE,zlkl,zzv7]) (by simp (disch:=first|omega|simp<;>omega|fail) [-zA,-zB,-zC,-zD,-zE,zlkl,zzv7])) ⟨hR,by simp only [zpza]; omega,by simp only; omega⟩ (fun a ha => ?_)
 obtain ⟨k,u,s⟩:=a
 obtain ⟨r1,r2,r3⟩:=ha
 simp only at r1 r2 r3
 simp only [zlkl]
 by_cases hk:0<k
 case neg =>
  obtain rfl:k=0:=by omega
  have e:R=(u,s):=r1.symm
  subst e
  have hfz : ∀ k,fzL 1 k (tpC u) (tpC u):=fun k=>znnb (zs7w _)
  have hfy : ∀ H,fz 1 H 3 (s.dv 33 enC)=some (s.dv 33 enC):=fun H=>zqge (zru8 _)
  simp (disch:=first|omega|simp<;>omega|fail) [-zA,-zB,-zC,-zD,-zE,zlq3,zzv7,hfz,hfy]
 obtain ⟨k,rfl⟩ : ∃ k',k=k'+1:=⟨k-1,by omega⟩
 have hk':(0:Int)<((k+1:Nat):Int):=by omega
 have r1':edtL k (zvj4 (u,s))=R:=r1
 have hok:=zkr6 (a:=(u,s)) (by simp only; omega)
 simp only at hok
 have k0:z1m3 [.int .i64 3] (tpC u)=some (.int .i64 (tpN u 3),tpC (u.adv 1)):=z44h (by omega) (by omega) (by omega)
 have hlen : ∀ H,lenD H (s.dv 33 enC)=some (.int .i64 s.l.length):=fun H=>zupj
 obtain ⟨q,hq⟩ : ∃ q,tpN u 3=q:=⟨_,rfl⟩
 rw [hq] at k0
 by_cases c:q=0∧s.l≠[]
 ·obtain ⟨c1,c2⟩:=c
  subst c1
  have hl0:0<s.l.length:=List.length_pos_iff.2 c2
  have hl0':(0:Int)<s.l.length:=by omega
  have m1:=z4rs (u.adv 1) s.l.length
  have m2:=z2s7 (u.adv 1) (n:=s.l.length) (by omega)
  obtain ⟨J,hJ⟩ : ∃ J:Nat,tpN (u.adv 1) s.l.length=J:=⟨_,(Int.toNat_of_nonneg m1).symm⟩
  have k1:=z44h (t:=u.adv 1) (n:=(s.l.length:Int)) (by simp only [zpza]; omega) (by omega) (by omega)
  rw [hJ,zjmf] at k1
  have k2:=z4ij (s:=s) (i:=J) (by omega) (by omega)
  have he:zvj4 (u,s)=(u.adv 2,zmmk s.l J):=by
   unfold zvj4
   rw [if_pos ⟨hq,c2⟩]
   simp only [hJ,Int.toNat_natCast]
  rw [he] at r1' hok
  simp only [zpza] at hok
  obtain ⟨n,hn⟩ : ∃ n,s.l.length=n:=⟨_,rfl⟩
  rw [hn] at hlen hl0 hl0' k1
  simp (disch:=first|omega|simp<;>omega|fail) [-zA,-zB,-zC,-zD,-zE,zlq3,zzv7,zf42,k0,hlen,hl0,hl0',k1,z8lo,k2,zru8]
  exact ⟨⟨k,u.adv 2,zmmk s.l J⟩,z515 (by simp (disch:=first|omega|simp<;>omega|fail) [-zA,-zB,-zC,-zD,-zE,zlkl,zzv7]) (by simp (disch:=first|omega|simp<;>omega|fail) [-zA,-zB,-zC,-zD,-zE,zlkl,zzv7]),by simp only; omega,r1',by simp only [zpza]; omega,by simp only; omega⟩
 ·have he:zvj4 (u,s)=(newT (u.adv 1),own (putV s.l (newE (u.adv 1)))):=by
   unfold zvj4
   rw [if_neg (by rw [hq]; exact c)]
  rw [he] at r1' hok
  simp only at hok
  have k1:=zi9c (t:=u.adv 1) (by simp only [zpza]; omega)
  have ha:=zj8l (u.adv 1)
  have k2:=zliq (t:=zvs1 (u.adv 1)) (by simp only [zpza] at ha; omega)
  have hnw:(zvs1 (u.adv 1)).adv 1=newT (u.adv 1):=rfl
  have hne:(⟨zczq (u.adv 1),sumV (zvs1 (u.adv 1))⟩:Ent)=newE (u.adv 1):=rfl
  rw [hnw] at k2
  have k3:cPut [s.dv 33 enC,.agg (.str (zczq (u.adv 1))::dgC (sumV (zvs1 (u.adv 1))))]=some ((own (putV s.l (newE (u.adv 1)))).dv 33 enC):=zx4n (s:=s) (x:=newE (u.adv 1)) (by omega)
  by_cases c1:q=0
  ·have c2:s.l=[]:=Classical.byContradiction fun h=>c ⟨c1,h⟩
   have hl0:s.l.length=0:=by rw [c2]; rfl
   rw [hl0] at hlen
   subst c1
   simp (disch:=first|omega|simp<;>omega|fail) [-zA,-zB,-zC,-zD,-zE,zlq3,zzv7,zf42,k0,hlen,z2fv,k1,zgng,k2,zg8c,hne,z73q,k3,zru8]
   exact ⟨⟨k,newT (u.adv 1),own (putV s.l (newE (u.adv 1)))⟩,z515 (by simp (disch:=first|omega|simp<;>omega|fail) [-zA,-zB,-zC,-zD,-zE,zlkl,zzv7]) (by simp (disch:=first|omega|simp<;>omega|fail) [-zA,-zB,-zC,-zD,-zE,zlkl,zzv7]),by simp only; omega,r1',by simp only; omega,by simp only; omega⟩
  ·simp (disch:=first|omega|simp<;>omega|fail) [-zA,-zB,-zC,-zD,-zE,zlq3,zzv7,zf42,k0,c1,z2fv,k1,zgng,k2,zg8c,hne,z73q,k3,zru8]
   exact ⟨⟨k,newT (u.adv 1),own (putV s.l (newE (u.adv 1)))⟩,z515 (by simp (disch:=first|omega|simp<;>omega|fail) [-zA,-zB,-zC,-zD,-zE,zlkl,zzv7]) (by simp (disch:=first|omega|simp<;>omega|fail) [-zA,-zB,-zC,-zD,-zE,zlkl,zzv7]),by simp only; omega,r1',by simp only; omega,by simp only; omega⟩
noncomputable def cEdt:List DV→List DV→Option (DV × List DV):=conT (fun a:Tp × Sl Ent=>a.1.at_<3800000000∧a.2.l.length≤800) (fun a=>[a.2.dv 33 enC]) (fun a=>tpC a.1) (fun a=>((z7ym a.1 a.2).2.dv 33 enC,tpC (z7ym a.1 a.2).1))
theorem zref {t:Tp} {s:Sl Ent} (h:t.at_<3800000000) (hm:s.l.length≤800):cEdt [s.dv 33 enC] (tpC t)=some ((z7ym t s).2.dv 33 enC,tpC (z7ym t s).1) :=
 ztyo (A:=fun a:Tp × Sl Ent=>a.1.at_<3800000000∧a.2.l.length≤800) (f:=fun a=>[a.2.dv 33 enC]) (s:=fun a=>tpC a.1) (g:=fun a=>((z7ym a.1 a.2).2.dv 33 enC,tpC (z7ym a.1 a.2).1)) (by
  rintro ⟨a,n⟩ ⟨b,m⟩ e1 e2
  simp only [List.cons.injEq,and_true] at e1
  rw [zdvs e1,z15z e2]) (t,s) ⟨h,hm⟩
theorem zg4h:(Con.tch cEdt).Sound P 48 :=
 z0tq (fun a _=>⟨by simp [zbao,zru8],zs7w _,zru8 _,zs7w _⟩) fun a h=>zizi mix zleh Try.func48 zwi2 (z438 a.1 a.2 h.1 h.2) (Nat.le_refl _)
noncomputable def z6hl:Tbl:=addT 51 (.tch cSnp) (addT 48 (.tch cEdt) tbl0)
theorem z70k:z6hl 51 = .tch cSnp:=by simp [z6hl]
theorem zhen:z6hl 48 = .tch cEdt:=by simp [z6hl]
theorem zl8g:z6hl.Sound P:=z0rp zg3i (z0rp zg4h zr5o)
theorem zc0o (t:Tp) (st:Str) (ht:t.at_<3700000000):RunsF z6hl a23 [.mp 0 2 0,.str st] [.cells (tpC t)] (.agg (lkC (zyjl t st))) [.cells (tpC (zd2t t))]:=by
 refine ⟨?_⟩
 have k1:=zt2p (t:=t) (m:=5) (by omega) (by omega)
 have h1:=zk7x t 5
 have hm:ownN (zgxx t 5).2=zxwj t:=rfl
 rw [hm] at k1
 have hl:=zr0a t
 have k2:=zref (t:=(zgxx t 5).1) (s:=zxwj t) (by omega) (by omega)
 have hT:(z7ym (zgxx t 5).1 (zxwj t)).1=zd2t t:=rfl
 rw [hT] at k2
 have hr:zyjl t st=⟨st,zxwj t,(z7ym (zgxx t 5).1 (zxwj t)).2⟩:=rfl
 rw [hr]
 obtain ⟨M,hM⟩ : ∃ M,zxwj t=M:=⟨_,rfl⟩
 rw [hM] at k1 k2 ⊢
 obtain ⟨Q,hQ⟩ : ∃ Q,(z7ym (zgxx t 5).1 M).2=Q:=⟨_,rfl⟩
 rw [hQ] at k2 ⊢
 obtain ⟨U,hU⟩ : ∃ U,(zgxx t 5).1=U:=⟨_,rfl⟩
 rw [hU] at k1 k2
 obtain ⟨V,hV⟩ : ∃ V,zd2t t=V:=⟨_,rfl⟩
 rw [hV] at k2 ⊢
 have k1':cSnp [.int .i64 5] (tpC t)=some (M.dv 33 enC,tpC U):=k1
 have hfz : ∀ k,fzL 1 k (tpC V) (tpC V):=fun k=>znnb (zs7w _)
 have hfy : ∀ H,fzLo 1 H 3 (lkC ⟨st,M,Q⟩)=some (lkC ⟨st,M,Q⟩):=fun H=>zojd (z53g _)
 simp (disch:=first|omega|simp<;>omega|fail) [-zA,-zB,-zC,-zD,-zE,a23,z70k,k1',zhen,k2,zye0,hfz,hfy]
 show (oneC 3 true (lkC ⟨st,M,Q⟩)).bind _=_
 rw [zrer]
 exact zqge (by simp [zyp8])
noncomputable def cLkT:List DV→List DV→Option (DV × List DV):=conT (fun a:Tp × Str=>a.1.at_<3700000000) (fun a=>[.str a.2]) (fun a=>tpC a.1) (fun a=>(.agg (lkC (zyjl a.1 a.2)),tpC (zd2t a.1)))
theorem zauq {t:Tp} {st:Str} (h:t.at_<3700000000):cLkT [.str st] (tpC t)=some (.agg (lkC (zyjl t st)),tpC (zd2t t)) :=
 ztyo (A:=fun a:Tp × Str=>a.1.at_<3700000000) (f:=fun a=>[.str a.2]) (s:=fun a=>tpC a.1) (g:=fun a=>(.agg (lkC (zyjl a.1 a.2)),tpC (zd2t a.1))) (by
  rintro ⟨a,n⟩ ⟨b,m⟩ e1 e2
  simp only [List.cons.injEq,DV.str.injEq,and_true] at e1
  rw [e1,z15z e2]) (t,st) h
theorem z3ot:(Con.tch cLkT).Sound P 23 :=
 z0tq (fun a _=>⟨rfl,zs7w _,by simp [zyp8],zs7w _⟩) fun a h=>zizi mix zl8g Try.func23 ztyx (zc0o a.1 a.2 h) (Nat.le_refl _)
def lksS (t:Tp):Sl Lnk:=⟨some true,[(zivf t).2.1,(zivf t).2.2,(zivf t).2.1],by simp,by simp⟩
theorem za3x (t:Tp):(lksS t).dv 3 lkC = .sl true 3 3 (lkC (zivf t).2.1++(lkC (zivf t).2.2++lkC (zivf t).2.1)):=by simp [lksS,Sl.dv,slD]
theorem z8q9 (x:Sl Lnk):zyp8 (x.dv 3 lkC)=true:=zxxb z53g x
theorem zs9p {a b c:Lnk}:bslD 3 3 [.str [],.nils,.nils] [(0,3,.agg (lkC a)),(3,3,.agg (lkC b)),(6,3,.agg (lkC c))]=some (.sl true 3 3 (lkC a++(lkC b++lkC c))):=rfl
noncomputable def z6ep:Tbl:=addT 23 (.tch cLkT) (addT 48 (.tch cEdt) tbl0)
theorem ztch:z6ep 23 = .tch cLkT:=by simp [z6ep]
theorem z994:z6ep 48 = .tch cEdt:=by simp [z6ep]
theorem zp3o:z6ep.Sound P:=z0rp z3ot (z0rp zg4h zr5o)
theorem zxv9 {L:Lnk} {v:Sl Ent} {h:List AObj} {id:Nat}:zy6o h id 1 2 (v.dv 33 enC) (some (lkC L))=some (.junk,h.set id (.cells (lkC ⟨L.step,L.m,v⟩))):=by
 rw [storeO_1 (zfr8 _) (z4ja _) (by rw [z9tw]; decide)]; rfl
theorem zlwk (t:Tp) (ht:t.at_<3600000000):RunsF z6ep a20 [.mp 0 2 0] [.cells (tpC t)] ((lksS t).dv 3 lkC) [.cells (tpC (zivf t).1)]:=by
 refine ⟨?_⟩
 have k1:=zauq (t:=t) (st:=[98,117,105,108,100]) (by omega)
 obtain ⟨h1,h2,h3⟩:=zoiq t [98,117,105,108,100]
 have k2:=zref (t:=zd2t t) (s:=(zyjl t [98,117,105,108,100]).p) (by omega) (by omega)
 rw [za3x]
 simp only [zivf]
 obtain ⟨A,hA⟩ : ∃ A,zyjl t [98,117,105,108,100]=A:=⟨_,rfl⟩
 rw [hA] at k1 k2 ⊢
 obtain ⟨U,hU⟩ : ∃ U,zd2t t=U:=⟨_,rfl⟩
 rw [hU] at k1 k2 ⊢
 obtain ⟨E,hE⟩ : ∃ E,z7ym U A.p=E:=⟨_,rfl⟩
 rw [hE] at k2 ⊢
 have hfz : ∀ k,fzL 1 k (tpC E.1) (tpC E.1):=fun k=>znnb (zs7w _)
 have hp:zbao (lkC A++(lkC ⟨A.step,A.m,E.2⟩++lkC A))=true:=zg0c (z53g _) (zg0c (z53g _) (z53g _))
 have hfy : ∀ H,fzLo 1 H 3 (lkC A++(lkC ⟨A.step,A.m,E.2⟩++lkC A))=some (lkC A++(lkC ⟨A.step,A.m,E.2⟩++lkC A)):=fun H=>zojd hp
 simp (disch:=first|omega|simp<;>omega|fail) [-zA,-zB,-zC,-zD,-zE,a20,ztch,k1,z994,k2,zrer,zj40,zxv9,zs9p,hfz]
 exact hfy _
noncomputable def cLks:List DV→List DV→Option (DV × List DV):=conT (fun a:Tp=>a.at_<3600000000) (fun _=>[]) tpC (fun a=>((lksS a).dv 3 lkC,tpC (zivf a).1))
theorem z723 {t:Tp} (h:t.at_<3600000000):cLks [] (tpC t)=some ((lksS t).dv 3 lkC,tpC (zivf t).1) :=
 ztyo (A:=fun a:Tp=>a.at_<3600000000) (f:=fun _=>[]) (s:=tpC) (g:=fun a=>((lksS a).dv 3 lkC,tpC (zivf a).1)) (fun a b _ e=>by rw [z15z e]) t h
theorem zdfr:(Con.tch cLks).Sound P 20 :=
 z0tq (fun a _=>⟨rfl,zs7w _,z8q9 (lksS a),zs7w _⟩) fun a h=>zizi mix zp3o Try.func20 zfgm (zlwk a h) (Nat.le_refl _)
def ownS:Sl Str:=⟨some true,[[97,110,110],[98,111,98],[99,97,116],[100,97,110]],by simp,by simp⟩
theorem zwck:ownS.dv 1 stC = .sl true 1 4 [.str [97,110,110],.str [98,111,98],.str [99,97,116],.str [100,97,110]]:=rfl
theorem zf7l:Runs tbl0 a26 [] (ownS.dv 1 stC):=by
 refine ⟨?_⟩
 rw [zwck]
 simp (disch:=first|omega|simp<;>omega|fail) [-zA,-zB,-zC,-zD,-zE,a26]
noncomputable def cOwn:List DV→Option DV:=con (fun _=>True) (fun _:Unit=>[]) (fun _=>ownS.dv 1 stC)
theorem zj2t:cOwn []=some (ownS.dv 1 stC):=zsn4 (f:=fun _:Unit=>[]) (g:=fun _=>ownS.dv 1 stC) (fun _ _ _=>rfl) ()
theorem zisi:(Con.pure cOwn).Sound P 26:=z2au fun _ _=>zljw mix zr5o Try.func26 z9gs zf7l
end Go.Proofs.Ytjknipdiglpnlaa
set_option linter.unusedSimpArgs false
set_option linter.unusedVariables false
namespace Go.Proofs.Ytjknipdiglpnlaa
open Go Go.Am
def bld:Str:=[98,117,105,108,100]
def ann:Str:=[97,110,110]
def awS:Spc:=⟨bld,false,1,⟨some true,[ann],by simp,by simp⟩,nilS,nilS,nilS⟩
def awX:Att:=⟨ann,⟨[],[],bld,2,nilS,nilS,nilS,nilS⟩⟩
def awL:Sl Att:=⟨some true,[awX],by simp,by simp⟩
theorem aw1:(decA awS (votL awS awL.l)).2=0:=by rfl
theorem aw2:(decA awS (votL awS awL.l)).1.lnk.step=bld:=by rfl
theorem aw3:(decA awS (votL awS awL.l)).1.owners.l.length=1:=by rfl
noncomputable def z3ic:Tbl:=addT 14 (.pure cDec) tbl0
theorem zpkd:z3ic 14 = .pure cDec:=by simp [z3ic]
theorem zd3g:z3ic.Sound P:=z0rp zdlo zr5o
theorem zovi:spC awS=[.str [98,117,105,108,100],.bool false,.int .i64 1,.sl true 1 1 [.str [97,110,110]],.nils,.nils,.nils]:=rfl
theorem zstd:awL.dv 9 atC = .sl true 9 1 [.str [97,110,110],.str [],.str [],.str [98,117,105,108,100],.int .i64 2,.nils,.nils,.nils,.nils]:=rfl
theorem zfqn:zvnk [.str [],.bool false,.int .i64 0,.nils,.nils,.nils,.nils] [(0,1,.str [98,117,105,108,100]),(2,1,.int .i64 1),(3,1,.sl true 1 1 [.str [97,110,110]])]=some (.agg [.str [98,117,105,108,100],.bool false,.int .i64 1,.sl true 1 1 [.str [97,110,110]],.nils,.nils,.nils]):=rfl
theorem ziw9:zvnk [.str [],.str [],.str [],.int .i64 0,.nils,.nils,.nils,.nils] [(2,1,.str [98,117,105,108,100]),(3,1,.int .i64 2)]=some (.agg [.str [],.str [],.str [98,117,105,108,100],.int .i64 2,.nils,.nils,.nils,.nils]):=rfl
theorem z1op:zvnk [.str [],.str [],.str [],.str [],.int .i64 0,.nils,.nils,.nils,.nils] [(0,1,.str [97,110,110]),(1,8,.agg [.str [],.str [],.str [98,117,105,108,100],.int .i64 2,.nils,.nils,.nils,.nils])]=some (.agg [.str [97,110,110],.str [],.str [],.str [98,117,105,108,100],.int .i64 2,.nils,.nils,.nils,.nils]):=rfl
theorem z8i9:bslD 9 1 [.str [],.str [],.str [],.str [],.int .i64 0,.nils,.nils,.nils,.nils] [(0,9,.agg [.str [97,110,110],.str [],.str [],.str [98,117,105,108,100],.int .i64 2,.nils,.nils,.nils,.nils])]=some (.sl true 9 1 [.str [97,110,110],.str [],.str [],.str [98,117,105,108,100],.int .i64 2,.nils,.nils,.nils,.nils]):=rfl
theorem aw_o:oneC 7 true [.str [98,117,105,108,100],.bool false,.int .i64 1,.sl true 1 1 [.str [97,110,110]],.nils,.nils,.nils]=some (.agg [.str [98,117,105,108,100],.bool false,.int .i64 1,.sl true 1 1 [.str [97,110,110]],.nils,.nils,.nils]):=rfl
theorem zgm9:Runs z3ic a19 [] (.bool true):=by
 refine ⟨?_⟩
 have k:=z6ch (s:=awS) (l:=awL) (by simp [awL])
 have h1:=aw1
 have h2:=aw2
 have h3:=aw3
 rw [zovi,zstd] at k
 obtain ⟨A,e,hA⟩ : ∃ A e,decA awS (votL awS awL.l)=(A,e):=⟨_,_,rfl⟩
 rw [hA] at k h1 h2 h3
 simp only at k h1 h2 h3
 subst h1
 have hlo : ∀ H,lenD H (A.owners.dv 1 stC)=some (.int .i64 A.owners.l.length):=fun H=>zupj
 rw [h3] at hlo
 have h2':A.lnk.step=[98,117,105,108,100]:=h2
 simp (disch:=first|omega|simp<;>omega|fail) [-zA,-zB,-zC,-zD,-zE,a19,zfqn,ziw9,z1op,z8i9,aw_o,zbao,zyp8,zpkd,k,z0wg,zntj,hlo,h2']
noncomputable def cAwk:List DV→Option DV:=con (fun _=>True) (fun _:Unit=>[]) (fun _ => .bool true)
theorem zzs2:cAwk []=some (.bool true):=zsn4 (f:=fun _:Unit=>[]) (g:=fun _=>DV.bool true) (fun _ _ _=>rfl) ()
theorem z41w:(Con.pure cAwk).Sound P 19:=z2au fun _ _=>zljw mix zd3g Try.func19 zlqi zgm9
end Go.Proofs.Ytjknipdiglpnlaa
set_option linter.unusedSimpArgs false
set_option linter.unusedVariables false
namespace Go.Proofs.Ytjknipdiglpnlaa
open Go Go.Am
theorem zjzy {ds:List DV} (h:Ty.Ok (.sl (.int .i64)) ds) : ∃ x:Nl,(∀ n ∈ x.l,-9223372036854775808≤n∧n≤9223372036854775807)∧ds=[x.dv]:=by
 obtain ⟨k,l,h1,h2,rfl,hb⟩:=z61h (f:=inI) (R:=fun n => -9223372036854775808≤n∧n≤9223372036854775807) (fun ds h=>by obtain ⟨n,hn,rfl⟩:=zrcx h; exact ⟨n,hn,rfl⟩) h
 exact ⟨⟨k,l,h1,hb⟩,h2,rfl⟩
def nlT (x:Nl):Tp:=⟨x.k,x.l,x.h,0⟩
theorem z9fj (x:Nl):(nlT x).sl=x.dv:=rfl
theorem zhx7 (x:Nl):x.dv.one=true:=zxr4 (nlT x)
theorem z506 (x:Nl):x.dv.known=true:=zn8z (nlT x)
theorem ztqv (x:Nl):x.dv.cells=[x.dv]:=zymw (nlT x)
theorem z9k1 (x:Nl):zvnk [.nils,.int .i64 0] [(0,1,x.dv)]=some (.agg (tpC (nlT x))):=by rw [← z9fj,zkbj]; rfl
end Go.Proofs.Ytjknipdiglpnlaa
set_option linter.unusedSimpArgs false
set_option linter.unusedVariables false
namespace Go.Proofs.Ytjknipdiglpnlaa
open Go Go.Am
def mak:Str:=[109,97,107,101]
def cmdS (b:Bool):Sl Str:=if b then ⟨some true,[mak],by simp,by simp⟩ else nilS
theorem zgro:(cmdS true).dv 1 stC = .sl true 1 1 [.str [109,97,107,101]]:=rfl
def byS (k:Nat):Sl Str:=ownS.part k 4 (4 == 4)
theorem zlg1 (k:Nat):(byS k).l=ownS.l.drop k:=by
 show (ownS.l.drop k).take (4-k)=_
 exact List.take_of_length_le (by simp [ownS])
def st4:List Str:=[bld,bld,bld,[116,101,115,116]]
def ow5:List Str:=[[97,110,110],[98,111,98],[99,97,116],[100,97,110],[101,118,101]]
def lkM (V:Tp × Lnk × Lnk) (i:Int):Lnk:=if i=1 then V.2.2 else V.2.1
def attM (t:Tp) (V:Tp × Lnk × Lnk):Att:=⟨zzh5 (t.adv 4) ow5,⟨[114],[],zzh5 (t.adv 1) st4,tpN (t.adv 2) 5,cmdS (decide (0<tpN (t.adv 3) 4)),nilS,(lkM V (tpN t 3)).m,(lkM V (tpN t 3)).p⟩⟩
def attL (V:Tp × Lnk × Lnk):Nat→Tp × List Att→Tp × List Att
 | 0,a=>a
 | n+1,a=>attL V n (a.1.adv 5,a.2++[attM a.1 V])
theorem zpn6 (V:Tp × Lnk × Lnk) : ∀ (n:Nat) (a:Tp × List Att),(attL V n a).2.length=a.2.length+n
 | 0,_=>rfl
 | n+1,a=>by rw [attL,zpn6]; simp; omega
def spM (t:Tp):Spc:=⟨bld,false,1+tpN t 3,byS (tpN (t.adv 1) 2).toNat,cmdS (decide (tpN (t.adv 2) 3=0)),nilS,nilS⟩
def atN (t:Tp):Nat:=(tpN (zivf (t.adv 3)).1 8).toNat
def atM (t:Tp):List Att:=(attL (zivf (t.adv 3)) (atN t) ((zivf (t.adv 3)).1.adv 1,[])).2
theorem ztxl (t:Tp):atN t≤7:=by
 have h1:=z4rs (zivf (t.adv 3)).1 8
 have h2:=z2s7 (zivf (t.adv 3)).1 (n:=8) (by omega)
 unfold atN; omega
theorem zi14 (t:Tp):tpN (zivf (t.adv 3)).1 8=atN t:=by
 have h1:=z4rs (zivf (t.adv 3)).1 8
 unfold atN; omega
theorem z4if (t:Tp):(atM t).length≤7:=by
 have:=ztxl t
 unfold atM; rw [zpn6]; simp; omega
def sp0:Spc:=⟨[],false,0,nilS,nilS,nilS,nilS⟩
theorem z6e1:spC sp0=[.str [],.bool false,.int .i64 0,.nils,.nils,.nils,.nils]:=rfl
noncomputable def zlv9:Tbl:=addT 25 (.tch z1m3) (addT 27 (.tch zqck) (addT 26 (.pure cOwn) (addT 20 (.tch cLks) tbl0)))
theorem zoj9:zlv9 25 = .tch z1m3:=by simp [zlv9]
theorem zdem:zlv9 27 = .tch zqck:=by simp [zlv9]
theorem zeu0:zlv9 26 = .pure cOwn:=by simp [zlv9]
theorem zstc:zlv9 20 = .tch cLks:=by simp [zlv9]
theorem zcy2:zlv9.Sound P:=z0rp z51e (z0rp z3hj (z0rp zisi (z0rp zdfr zr5o)))
structure ML where
 k:Nat
 t:Tp
 o:List Att
def z4hu (s:Spc) (u:Tp) (a:ML):St:=a8S0 (.mp 0 7 0) (.mp 1 2 0) (.mp 2 7 0) ((lksS u).dv 3 lkC) (oV 3 9 a.o) (.int .i64 a.k) ([.cells (spC sp0),.cells (tpC a.t),.cells (spC s)]++oT atC a.o)
theorem zi63 (u:Tp) (i:Nat) (hi:i<3) (H:List AObj):zpsc H 3 ((lksS u).dv 3 lkC) i=some (.ref (lkC (lkM (zivf u) i))):=by
 have:=zalo (h:=H) (x:=lksS u) (i:=i) z9tw (by simp [lksS]; exact hi)
 rw [this]
 match i,hi with
 | 0,_=>rfl
 | 1,_=>rfl
 | 2,_=>rfl
def recM (st:Str) (n:Int) (c:Sl Str) (L:Lnk):Rec:=⟨[114],[],st,n,c,nilS,L.m,L.p⟩
theorem zg2e {st:Str} {n:Int} {L:Lnk}:zvnk [.str [],.str [],.str [],.int .i64 0,.nils,.nils,.nils,.nils] [(0,1,.str [114]),(2,1,.str st),(3,1,.int .i64 n),(6,1,L.m.dv 33 enC),(7,1,L.p.dv 33 enC)]=some (.agg (reC (recM st n nilS L))):=by
 have e1:=zfr8 (x:=L.m) (s:=33) (f:=enC)
 have e2:=zfr8 (x:=L.p) (s:=33) (f:=enC)
 simp [zvnk,zi03,zk7y,reC,recM,e1,e2,z2i7]
 exact ⟨rfl,rfl⟩
theorem zhzr {r:Rec} {v:Sl Str} {h:List AObj} {id:Nat}:zy6o h id 1 4 (v.dv 1 stC) (some (reC r))=some (.junk,h.set id (.cells (reC ⟨r.run,r.scope,r.step,r.at_,v,r.env,r.m,r.p⟩))):=by
 rw [storeO_1 (zfr8 _) (z4ja _) (by rw [z74o]; decide)]; rfl
theorem zbd9 {w:Str} {r:Rec}:zvnk [.str [],.str [],.str [],.str [],.int .i64 0,.nils,.nils,.nils,.nils] [(0,1,.str w),(1,8,.agg (reC r))]=some (.agg (atC ⟨w,r⟩)):=by
 have h1:=z74o r
 simp [zvnk,zi03,zk7y,atC,h1,List.drop_of_length_le]
end Go.Proofs.Ytjknipdiglpnlaa
set_option linter.unusedSimpArgs false
set_option linter.unusedVariables false
namespace Go.Proofs.Ytjknipdiglpnlaa
open Go Go.Am
def MadT:ACode:=match a8L0 with
 | .seq _ (.seq (.block _ (.seq _ (.seq _ (.seq _ y)))) _)=>y
 | _ => .skip
def MadR:ACode:=match a8L0 with
 | .seq _ (.seq _ y)=>y
 | _ => .skip
structure MLok (u:Tp) (R:Tp × List Att) (a:ML):Prop where
 r:attL (zivf u) a.k (a.t,a.o)=R
 t:a.t.at_+5*a.k<3500000000
 l:a.o.length+a.k≤7
theorem zlvf {s:Spc} {u:Tp} {R:Tp × List Att} (a:ML) (ha:MLok u R a) {Φ:AExit→St→Prop}
  (hexit:Φ (.exit 0) ⟨[.junk,.junk,.mp 0 7 0,.junk,.mp 1 2 0,.mp 2 7 0,.junk,oV 3 9 R.2]++js 57,[.cells (spC sp0),.cells (tpC R.1),.cells (spC s)]++oT atC R.2⟩)
  (hw : ∀ st st',Weak 0 st st'→Φ (.exit 0) st'→Φ (.exit 0) st) :
  V P 0 a8L0 (z13e 0 (z4hu s u) (fun a=>a.k) (MLok u R) a Φ) (z4hu s u a):=by
 obtain ⟨k,t,O⟩:=a
 obtain ⟨r1,r2,r3⟩:=ha
 simp only at r1 r2 r3
 simp only [z4hu]
 refine zbn1 (V_W mix zcy2 ?_)
 by_cases hk:0<k
 case neg =>
  obtain rfl:k=0:=by omega
  have e:R=(t,O):=r1.symm
  subst e
  simp (disch:=first|omega|simp<;>omega|fail) [-zA,-zB,-zC,-zD,-zE,a8L0,a8S0]
  refine hw _ _ (z515 ?_ rfl) hexit
  simp (disch:=first|omega|simp<;>omega|fail) [-zA,-zB,-zC,-zD,-zE]
 obtain ⟨k,rfl⟩ : ∃ k',k=k'+1:=⟨k-1,by omega⟩
 have hk':(0:Int)<((k+1:Nat):Int):=by omega
 have r1':attL (zivf u) k (t.adv 5,O++[attM t (zivf u)])=R:=r1
 have n1:=z4rs t 3
 have n2:=z2s7 t (n:=3) (by omega)
 obtain ⟨N,hN⟩ : ∃ N:Nat,tpN t 3=N:=⟨_,(Int.toNat_of_nonneg n1).symm⟩
 have hi:=zi63 u N (by omega)
 have hat:attM t (zivf u)=⟨zzh5 (t.adv 4) ow5,recM (zzh5 (t.adv 1) st4) (tpN (t.adv 2) 5) (cmdS (decide (0<tpN (t.adv 3) 4))) (lkM (zivf u) N)⟩:=by simp only [attM,recM,hN]
 obtain ⟨L,hL⟩ : ∃ L,lkM (zivf u) N=L:=⟨_,rfl⟩
 rw [hL] at hi hat
 obtain ⟨w,hw'⟩ : ∃ w,zzh5 (t.adv 4) ow5=w:=⟨_,rfl⟩
 obtain ⟨sn,hsn⟩ : ∃ w,zzh5 (t.adv 1) st4=w:=⟨_,rfl⟩
 obtain ⟨an,han⟩ : ∃ w,tpN (t.adv 2) 5=w:=⟨_,rfl⟩
 rw [hw',hsn,han] at hat
 have kN:z1m3 [.int .i64 3] (tpC t)=some (.int .i64 N,tpC (t.adv 1)):=by rw [z44h (by omega) (by omega) (by omega),hN]
 have kP:zqck [.sl true 1 4 [.str [98,117,105,108,100],.str [98,117,105,108,100],.str [98,117,105,108,100],.str [116,101,115,116]]] (tpC (t.adv 1))=some (.str sn,tpC (t.adv 2)):=by
  rw [← hsn]; exact ze0z (t:=t.adv 1) (l:=st4) (by simp only [zpza]; omega) (by decide) (by decide)
 have kA:z1m3 [.int .i64 5] (tpC (t.adv 2))=some (.int .i64 an,tpC (t.adv 3)):=by rw [z44h (by simp only [zpza]; omega) (by omega) (by omega),han,zjmf]
 obtain ⟨cn,hcn⟩ : ∃ w,tpN (t.adv 3) 4=w:=⟨_,rfl⟩
 rw [hcn] at hat
 have kC:z1m3 [.int .i64 4] (tpC (t.adv 3))=some (.int .i64 cn,tpC (t.adv 4)):=by rw [z44h (by simp only [zpza]; omega) (by omega) (by omega),hcn,zjmf]
 have kW:zqck [.sl true 1 5 [.str [97,110,110],.str [98,111,98],.str [99,97,116],.str [100,97,110],.str [101,118,101]]] (tpC (t.adv 4))=some (.str w,tpC (t.adv 5)):=by
  rw [← hw']; exact ze0z (t:=t.adv 4) (l:=ow5) (by simp only [zpza]; omega) (by decide) (by decide)
 obtain ⟨x,hx⟩ : ∃ x,attM t (zivf u)=x:=⟨_,rfl⟩
 rw [hx] at r1' hat
 have hap:=zte0 (f:=atC) (k:=3) (b:=168) (l:=O) (x:=x) (h:=[AObj.cells (spC sp0),.cells (tpC (t.adv 5)),.cells (spC s)]) rfl zu2q (by decide) (by decide) (fun _=>zwh8) (by omega)
 simp only [List.cons_append,List.nil_append] at hap
 have hoB:Am.below ((oT atC O).length+1+1+1) (oV 3 9 O)=true:=by
  have:=zv6o (f:=atC) (k:=3) (K:=9) (l:=O)
  rwa [show (oT atC O).length+1+1+1=3+(oT atC O).length by omega]
 have hTb : ∀ n,zlf2 n (oT atC O)=true:=fun n=>zd81 z83l
 have tpB : ∀ n v,belowL n (tpC v)=true:=fun n v=>zmq5 n _ (zs7w v)
 have hG:zyp8 ((lksS u).dv 3 lkC)=true:=z8q9 _
 obtain ⟨G,hGG⟩ : ∃ G,(lksS u).dv 3 lkC=G:=⟨_,rfl⟩
 rw [hGG] at hi hG
 simp (disch:=first|omega|simp<;>omega|fail) [-zA,-zB,-zC,-zD,-zE,a8L0,a8S0,hGG]
 refine zbn1 (z3mo (zbn1 (V_W mix zcy2 ?_)))
 simp (disch:=first|omega|simp<;>omega|fail) [-zA,-zB,-zC,-zD,-zE,zoj9,kN,hi,zrer,z6cz]
 refine zs10 (H := .cells (spC sp0) :: .cells (tpC (t.adv 1)) :: .cells (spC s)::oT atC O) (cs:=lkC L) (t':=[.junk,.junk,.mp 0 7 0,.junk,.mp 1 2 0,.mp 2 7 0,G,oV 3 9 O,.int .i64 ((k:Int)+1),.ref (lkC L)]++js 55) (by simp (disch:=first|omega|simp<;>omega|fail) [-zA,-zB,-zC,-zD,-zE,zlf2,hTb,tpB]) (by simp) ?_ (by simp (disch:=first|omega|simp<;>omega|fail) [-zA,-zB,-zC,-zD,-zE,belowL,Am.below,hoB,z8b8 _ _ hG]) ?_
 ·have e1:=zz5t (H := .cells (spC sp0) :: .cells (tpC (t.adv 1)) :: .cells (spC s)::oT atC O) (cs:=lkC L) (off:=0) (z53g L)
  simp only [List.length_cons,z9tw,List.drop_zero,List.cons_append] at e1
  have e2 : ∀ h,mk1 (kLt ((oT atC O).length+1+1+1)) h (oV 3 9 O)=oV 3 9 O:=fun h=>zd3c hoB
  have e3 : ∀ h i v,i<3→mk1 (kLt ((oT atC O).length+1+1+1)) h (.mp i v 0) = .mp i v 0:=fun h i v hi=>zd3c (by simp [Am.below]; omega)
  have e4 : ∀ K h,mk1 K h G=G:=fun K h=>zvft hG
  simp (disch:=first|omega|simp<;>omega|fail) [-zA,-zB,-zC,-zD,-zE,e1,e2,e3,e4,-z1bt]
 refine zbn1 (V_W mix zcy2 ?_)
 simp (disch:=first|omega|simp<;>omega|fail) [-zA,-zB,-zC,-zD,-zE,zdem,kP,zoj9,kA,zfi3,zj40,zg2e,zhem]
 have hst : ∀ (h:List AObj) (id:Nat),zy6o h id 1 4 (.sl true 1 1 [.str [109,97,107,101]]) (some (reC (recM sn an nilS L)))=some (.junk,h.set id (.cells (reC (recM sn an (cmdS true) L)))):=fun h id=>by rw [← zgro,zhzr]; rfl
 have tail : ∀ r,atC x=atC ⟨w,r⟩→V P 0 MadT (z0mx 1 (z2pk P 0 MadR (z13e 0 (z4hu s u) (fun a=>a.k) (MLok u R) ⟨k+1,t,O⟩ Φ))) ⟨[.junk,.junk,.mp 0 7 0,.junk,.mp 1 2 0,.mp 2 7 0,G,oV 3 9 O,.int .i64 ((k:Int)+1),.junk,.mp ((oT atC O).length+1+1+1) 8 0]++js 54,.cells (spC sp0) :: .cells (tpC (t.adv 4)) :: .cells (spC s)::(oT atC O++[.cells (reC r)])⟩:=fun r hxr=>by
  refine zs10 (H := .cells (spC sp0) :: .cells (tpC (t.adv 4)) :: .cells (spC s)::oT atC O) (cs:=reC r) (t':=[.junk,.junk,.mp 0 7 0,.junk,.mp 1 2 0,.mp 2 7 0,G,oV 3 9 O,.int .i64 ((k:Int)+1),.junk,.ref (reC r)]++js 54) (by simp (disch:=first|omega|simp<;>omega|fail) [-zA,-zB,-zC,-zD,-zE,zlf2,hTb,tpB]) (by simp) ?_ (by simp (disch:=first|omega|simp<;>omega|fail) [-zA,-zB,-zC,-zD,-zE,belowL,Am.below,hoB,z8b8 _ _ hG]) ?_
  ·have e1:=zz5t (H := .cells (spC sp0) :: .cells (tpC (t.adv 4)) :: .cells (spC s)::oT atC O) (cs:=reC r) (off:=0) (zqkx r)
   simp only [List.length_cons,z74o,List.drop_zero,List.cons_append] at e1
   have e2 : ∀ h,mk1 (kLt ((oT atC O).length+1+1+1)) h (oV 3 9 O)=oV 3 9 O:=fun h=>zd3c hoB
   have e3 : ∀ h i v,i<3→mk1 (kLt ((oT atC O).length+1+1+1)) h (.mp i v 0) = .mp i v 0:=fun h i v hi=>zd3c (by simp [Am.below]; omega)
   have e4 : ∀ K h,mk1 K h G=G:=fun K h=>zvft hG
   simp (disch:=first|omega|simp<;>omega|fail) [-zA,-zB,-zC,-zD,-zE,e1,e2,e3,e4,-z1bt]
  rw [hxr,show atC ⟨w,r⟩=DV.str w::reC r from rfl] at hap
  refine V_W mix zcy2 ?_
  simp (disch:=first|omega|simp<;>omega|fail) [-zA,-zB,-zC,-zD,-zE,MadT,a8L0,zdem,kW,zbr1,zbd9,zsdw,hap]
  refine V_W mix zcy2 ?_
  simp (disch:=first|omega|simp<;>omega|fail) [-zA,-zB,-zC,-zD,-zE,MadR,a8L0]
  exact ⟨⟨k,t.adv 5,O++[x]⟩,z515 (by simp (disch:=first|omega|simp<;>omega|fail) [-zA,-zB,-zC,-zD,-zE,z4hu,a8S0,hGG]) (by simp (disch:=first|omega|simp<;>omega|fail) [-zA,-zB,-zC,-zD,-zE,z4hu,a8S0]),by simp only; omega,⟨r1',by simp only [zpza]; omega,by simp only [List.length_append,List.length_singleton]; omega⟩⟩
 refine zbn1 (V_W mix zcy2 ?_)
 by_cases hc:0<cn
 ·have hcd:decide (0<cn)=true:=by simpa using hc
  rw [hcd] at hat
  have tl:=tail (recM sn an (cmdS true) L) (by rw [hat])
  simp (disch:=first|omega|simp<;>omega|fail) [-zA,-zB,-zC,-zD,-zE,zoj9,kC,hc,hst,zjj2,zxft]
  refine zqfd (z515 ?_ rfl) tl
  simp (disch:=first|omega|simp<;>omega|fail) [-zA,-zB,-zC,-zD,-zE]
 ·have hcd:decide (0<cn)=false:=by simpa using hc
  rw [hcd] at hat
  have tl:=tail (recM sn an nilS L) (by rw [hat]; rfl)
  simp (disch:=first|omega|simp<;>omega|fail) [-zA,-zB,-zC,-zD,-zE,zoj9,kC,hc]
  refine zqfd (z515 ?_ rfl) tl
  simp (disch:=first|omega|simp<;>omega|fail) [-zA,-zB,-zC,-zD,-zE]
end Go.Proofs.Ytjknipdiglpnlaa
set_option linter.unusedSimpArgs false
set_option linter.unusedVariables false
namespace Go.Proofs.Ytjknipdiglpnlaa
open Go Go.Am
theorem zwvp {n:Int} {d:Sl Str}:zvnk (spC sp0) [(0,1,.str [98,117,105,108,100]),(2,1,.int .i64 n),(3,1,d.dv 1 stC)]=some (.agg (spC ⟨bld,false,n,d,nilS,nilS,nilS⟩)):=by
 have e1:=zfr8 (x:=d) (s:=1) (f:=stC)
 rw [z6e1]
 simp [zvnk,zi03,zk7y,spC,e1,bld]
 exact ⟨rfl,rfl⟩
theorem z9wh {s:Spc} {v:Sl Str} {h:List AObj} {id:Nat}:zy6o h id 1 4 (v.dv 1 stC) (some (spC s))=some (.junk,h.set id (.cells (spC ⟨s.name,s.del,s.thr,s.by_,v,s.mats,s.prods⟩))):=by
 rw [storeO_1 (zfr8 _) (z4ja _) (by rw [zz68]; decide)]; rfl
def MdeT:ACode:=match a8.code with
 | .seq _ (.seq _ (.seq _ (.seq _ y)))=>y
 | _ => .skip
theorem z5ae (x:Nl):V P 0 a8.code (retK a8.res (.tup [.agg (spC (spM (nlT x))),(ownN (atM (nlT x))).dv 9 atC])) ⟨zr5g a8.ntmps [x.dv],[]⟩:=by
 have hx1:=z9k1 x
 have t0:(nlT x).at_=0:=rfl
 have hml:=z4if (nlT x)
 obtain ⟨t,ht⟩ : ∃ t,nlT x=t:=⟨_,rfl⟩
 rw [ht] at hx1 t0 hml ⊢
 have a1:=z4rs t 3
 have a2:=z2s7 t (n:=3) (by omega)
 have a3:=z4rs (t.adv 1) 2
 have a4:=z2s7 (t.adv 1) (n:=2) (by omega)
 obtain ⟨q,hq⟩ : ∃ q,tpN t 3=q:=⟨_,rfl⟩
 obtain ⟨B,hB⟩ : ∃ B:Nat,tpN (t.adv 1) 2=B:=⟨_,(Int.toNat_of_nonneg a3).symm⟩
 rw [hq] at a1 a2
 rw [hB] at a3 a4
 have k1:z1m3 [.int .i64 3] (tpC t)=some (.int .i64 q,tpC (t.adv 1)):=by rw [z44h (by omega) (by omega) (by omega),hq]
 have k2:=zj2t
 have k3:z1m3 [.int .i64 2] (tpC (t.adv 1))=some (.int .i64 B,tpC (t.adv 2)):=by rw [z44h (by simp only [zpza]; omega) (by omega) (by omega),hB,zjmf]
 have hsl : ∀ H,ziwb H 1 (ownS.dv 1 stC) (some (.int .i64 B)) none none=some ((byS B).dv 1 stC):=fun H=>z0ke zqv6 (by simp [zo77,iD,ownS]; omega) (Nat.le_refl _)
 obtain ⟨c,hc⟩ : ∃ c,tpN (t.adv 2) 3=c:=⟨_,rfl⟩
 have k4:z1m3 [.int .i64 3] (tpC (t.adv 2))=some (.int .i64 c,tpC (t.adv 3)):=by rw [z44h (by simp only [zpza]; omega) (by omega) (by omega),hc,zjmf]
 have k5:=z723 (t:=t.adv 3) (by simp only [zpza]; omega)
 have hlo:=zaow (t.adv 3)
 simp only [zpza] at hlo
 have k6:z1m3 [.int .i64 8] (tpC (zivf (t.adv 3)).1)=some (.int .i64 (atN t),tpC ((zivf (t.adv 3)).1.adv 1)):=by rw [z44h (by omega) (by omega) (by omega),zi14]
 have hal:=ztxl t
 have hsp:spM t=⟨bld,false,1+q,byS B,cmdS (decide (c=0)),nilS,nilS⟩:=by simp only [spM,hq,hB,hc,Int.toNat_natCast]
 have hR:attL (zivf (t.adv 3)) (atN t) ((zivf (t.adv 3)).1.adv 1,[])=attL (zivf (t.adv 3)) (atN t) ((zivf (t.adv 3)).1.adv 1,[]):=rfl
 obtain ⟨R,hRR⟩ : ∃ R,attL (zivf (t.adv 3)) (atN t) ((zivf (t.adv 3)).1.adv 1,[])=R:=⟨_,rfl⟩
 have hat:atM t=R.2:=by unfold atM; rw [hRR]
 rw [hat] at hml ⊢
 have hst : ∀ (h:List AObj) (id:Nat),zy6o h id 1 4 (.sl true 1 1 [.str [109,97,107,101]]) (some (spC ⟨bld,false,1+q,byS B,nilS,nilS,nilS⟩))=some (.junk,h.set id (.cells (spC ⟨bld,false,1+q,byS B,cmdS true,nilS,nilS⟩))):=fun h id=>by rw [← zgro,z9wh]
 have w1:IntKind.i64.wrap (1+q)=1+q:=znmn (by omega) (by omega)
 refine zbn1 (V_W mix zcy2 ?_)
 simp (disch:=first|omega|simp<;>omega|fail) [-zA,-zB,-zC,-zD,-zE,a8]
 rw [← z6e1]
 refine zbn1 (V_W mix zcy2 ?_)
 simp (disch:=first|omega|simp<;>omega|fail) [-zA,-zB,-zC,-zD,-zE,zhx7,z506,ztqv,hx1]
 refine zbn1 (V_W mix zcy2 ?_)
 simp (disch:=first|omega|simp<;>omega|fail) [-zA,-zB,-zC,-zD,-zE,zoj9,k1,w1,zeu0,k2,k3,hsl,zwvp,zf01]
 have fin:V P 0 MdeT (retK a8.res (.tup [.agg (spC (spM t)),(ownN R.2).dv 9 atC])) ⟨[.junk,.junk,.mp 0 7 0,.nils,.mp 1 2 0,.mp 2 7 0]++js 59,[.cells (spC sp0),.cells (tpC (t.adv 3)),.cells (spC (spM t))]⟩:=by
  have hsn:=zigm (k:=3) (l:=R.2) (h:=[AObj.cells (spC (spM t)),.cells (tpC R.1),.cells (spC (spM t))]) (r:=[]) rfl zu2q z83l (by omega)
  rw [List.append_nil] at hsn
  simp only [List.cons_append,List.nil_append] at hsn
  generalize hS:spM t=s at hsn ⊢
  refine zbn1 (V_W mix zcy2 ?_)
  simp (disch:=first|omega|simp<;>omega|fail) [-zA,-zB,-zC,-zD,-zE,MdeT,a8,zstc,k5]
  refine zbn1 (V_W mix zcy2 ?_)
  simp (disch:=first|omega|simp<;>omega|fail) [-zA,-zB,-zC,-zD,-zE]
  refine zbn1 (zbn1 (V_W mix zcy2 ?_))
  simp (disch:=first|omega|simp<;>omega|fail) [-zA,-zB,-zC,-zD,-zE,zoj9,k6]
  refine z3mo (ztbr (z4hu s (t.adv 3)) (fun a=>a.k) (MLok (t.adv 3) R) ⟨atN t,(zivf (t.adv 3)).1.adv 1,[]⟩ (z515 (by simp (disch:=first|omega|simp<;>omega|fail) [-zA,-zB,-zC,-zD,-zE,z4hu,a8S0,zl8p]) (by simp (disch:=first|omega|simp<;>omega|fail) [-zA,-zB,-zC,-zD,-zE,z4hu,a8S0,zkrk])) ⟨hRR,by simp only [zpza]; omega,by simp only [List.length_nil]; omega⟩ (fun a ha=>zlvf a ha ?_ ?_))
  ·rw [z233,zd2q]
   refine zbn1 (V_W mix zcy2 ?_)
   simp (disch:=first|omega|simp<;>omega|fail) [-zA,-zB,-zC,-zD,-zE,z8s9,zf01]
   refine V_W mix zcy2 ?_
   simp (disch:=first|omega|simp<;>omega|fail) [-zA,-zB,-zC,-zD,-zE,z8s9,hsn]
  ·intro st st' hw' h
   rw [z233,zd2q] at h ⊢
   exact zqfd hw' h
 refine zbn1 (V_W mix zcy2 ?_)
 by_cases h0:c=0
 ·have hd:decide (c=0)=true:=by simpa using h0
  rw [hd] at hsp
  simp (disch:=first|omega|simp<;>omega|fail) [-zA,-zB,-zC,-zD,-zE,zoj9,k4,h0,hst]
  refine zqfd (z515 ?_ ?_) fin
  ·simp (disch:=first|omega|simp<;>omega|fail) [-zA,-zB,-zC,-zD,-zE]
  ·rw [hsp]
 ·have hd:decide (c=0)=false:=by simpa using h0
  rw [hd] at hsp
  simp (disch:=first|omega|simp<;>omega|fail) [-zA,-zB,-zC,-zD,-zE,zoj9,k4,h0]
  refine zqfd (z515 ?_ ?_) fin
  ·simp (disch:=first|omega|simp<;>omega|fail) [-zA,-zB,-zC,-zD,-zE]
  ·rw [hsp]; rfl
noncomputable def cMad:List DV→Option DV:=con (fun _=>True) (fun x:Nl=>[x.dv]) (fun x => .tup [.agg (spC (spM (nlT x))),(ownN (atM (nlT x))).dv 9 atC])
theorem zbf6 {x:Nl}:cMad [x.dv]=some (.tup [.agg (spC (spM (nlT x))),(ownN (atM (nlT x))).dv 9 atC]) :=
 zsn4 (f:=fun x:Nl=>[x.dv]) (g:=fun x => .tup [.agg (spC (spM (nlT x))),(ownN (atM (nlT x))).dv 9 atC]) (fun a b e=>by
  simp only [List.cons.injEq,and_true] at e
  rw [z2kw e]) x
theorem z1qx:(Con.pure cMad).Sound P 8:=z2au fun a _=>znz9 Try.func8 zwbl (z5ae a)
end Go.Proofs.Ytjknipdiglpnlaa
set_option linter.unusedSimpArgs false
set_option linter.unusedVariables false
namespace Go.Proofs.Ytjknipdiglpnlaa
open Go Go.Am
def honA (s:Spc) (L:Lnk) (o:Str):Att:=⟨o,⟨[],[],bld,0,s.cmd,nilS,L.m,L.p⟩⟩
def honF (bad by_:List Str) (l:List Att):List Att:=l.filter fun x=>decide (x.own ∈ bad) || !decide (x.own ∈ by_)
theorem z7c0 {bad by_:List Str} {l:List Att} {x:Att}:honF bad by_ (l++[x])=honF bad by_ l++(if decide (x.own ∈ bad) || !decide (x.own ∈ by_) then [x] else []):=by
 unfold honF
 rw [List.filter_append]
 cases h:(decide (x.own ∈ bad) || !decide (x.own ∈ by_))<;>simp [h]
theorem zooe {bad by_:List Str} {l:List Att}:(honF bad by_ l).length≤l.length:=List.length_filter_le _ _
theorem z6kw {s:Spc} {L:Lnk} {l:List Att} {W:List Str} {k:Nat} (hn:s.name=bld) (hd:s.by_.l.Nodup) (hk:(k:Int)<s.thr) (hkl:k≤s.by_.l.length) (hW:W.Sublist (s.by_.l.drop k)) (hl:(honF (s.by_.l.take k) s.by_.l l++W.map (honA s L)).length≤100) :
  ((decA s (votL s (honF (s.by_.l.take k) s.by_.l l++W.map (honA s L)))).2=10∧(W.length:Int)<s.thr) ∨
  ((decA s (votL s (honF (s.by_.l.take k) s.by_.l l++W.map (honA s L)))).2=0∧zxyz (decA s (votL s (honF (s.by_.l.take k) s.by_.l l++W.map (honA s L)))).1.lnk L=true):=by
 obtain ⟨m,hm⟩ : ∃ m,honF (s.by_.l.take k) s.by_.l l++W.map (honA s L)=m:=⟨_,rfl⟩
 rw [hm] at hl ⊢
 have hsp:(s.by_.l.take k++s.by_.l.drop k).Nodup:=by rw [List.take_append_drop]; exact hd
 rw [List.nodup_append] at hsp
 have hv : ∀ v ∈ votL s m,∃ x ∈ m,eliP s x=true∧v=vtS s (z28h x):=fun v hv=>by
  unfold votL eliS at hv
  simp only [List.mem_map,List.mem_filter] at hv
  obtain ⟨a,⟨b,⟨hb,hp⟩,rfl⟩,rfl⟩:=hv
  exact ⟨b,hb,hp,rfl⟩
 have hby : ∀ x,eliP s x=true→x.own ∈ s.by_.l:=fun x h=>by
  unfold eliP at h
  simp only [Bool.and_eq_true,decide_eq_true_eq] at h
  exact h.2.2
 have hH : ∀ o ∈ W,o ∈ s.by_.l:=fun o ho=>List.mem_of_mem_drop (hW.subset ho)
 have main:=zdxe (lt:=vLss) (own:=Vot.own) (key:=vKey) z3gj (V:=votL s m) (B:=s.by_.l.take k) (H:=W) (hk:=(L.m.l,L.p.l)) (thr:=s.thr)
  (fun v h=>by
   obtain ⟨x,hx,he,rfl⟩:=hv v h
   rw [← hm] at hx
   rcases List.mem_append.1 hx with h1|h1
   ·have:=(List.mem_filter.1 h1).2
    simp only [Bool.or_eq_true,decide_eq_true_eq,Bool.not_eq_true',decide_eq_false_iff_not] at this
    rcases this with h2|h2
    ·exact .inl h2
    ·exact absurd (hby x he) h2
   ·obtain ⟨o,_,rfl⟩:=List.mem_map.1 h1
    right
    simp only [vKey,vtS,z28h,honA,zpzq _ L.m.b,zpzq _ L.p.b])
  (by rw [List.length_take]; omega)
  (List.Nodup.sublist hW hsp.2.1)
  (fun o ho=>by
   refine ⟨fun h=>hsp.2.2 o h o (hW.subset ho) rfl,vtS s (z28h (honA s L o)),?_,rfl⟩
   unfold votL eliS
   refine List.mem_map_of_mem (List.mem_map_of_mem (List.mem_filter.2 ⟨?_,?_⟩))
   ·rw [← hm]; exact List.mem_append.2 (.inr (List.mem_map_of_mem ho))
   ·have:=hH o ho
    simp [eliP,honA,hn,this])
 have hp:=zru2 (s:=s) (l:=m) hl
 have hdec:decA s (votL s m)=match decF lnA s.thr (zj70 (votL s m)) with | .thr=>(agr0,(10:Int)) | .dis=>(agr0,11) | .ok a=>(⟨a.lnk,a.owners,ownN (eqv1 (votL s m))⟩,0):=rfl
 have hK:decF lnK s.thr (z9dw vLss Vot.own vKey (votL s m))=decF (fun c:(List Ent × List Ent) × List Str=>c.2.length) s.thr (z9dw vLss Vot.own vKey (votL s m)):=rfl
 rw [hK] at hp
 rcases main with ⟨h1,h2⟩|⟨c,h1,h2⟩
 ·left
  rw [h1] at hp
  refine ⟨?_,h2⟩
  rw [hdec]
  cases e:decF lnA s.thr (zj70 (votL s m))<;>rw [e] at hp<;>simp only [DRes.map] at hp<;>try cases hp
  all_goals rfl
 ·right
  rw [h1] at hp
  rw [hdec]
  cases e:decF lnA s.thr (zj70 (votL s m))<;>rw [e] at hp<;>simp only [DRes.map] at hp<;>try cases hp
  rename_i a
  refine ⟨rfl,?_⟩
  have h3:(pA a).1=(L.m.l,L.p.l):=h2
  simp only [pA,Prod.mk.injEq] at h3
  simp [zxyz,h3.1,h3.2]
theorem zb20 (k:Nat):(byS k).l.Nodup:=by
 rw [zlg1]
 exact List.Nodup.sublist (List.drop_sublist _ _) (by decide)
theorem zsny {k:Nat} (h:k≤1):3≤(byS k).l.length∧(byS k).l.length≤4:=by
 rw [zlg1,List.length_drop]
 show 3≤4-k∧4-k≤4
 omega
noncomputable def z4ql:Tbl:=addT 14 (.pure cDec) (addT 21 (.pure cSmL) (addT 8 (.pure cMad) (addT 19 (.pure cAwk) (addT 24 (.pure cH02) (addT 25 (.tch z1m3) (addT 23 (.tch cLkT) tbl0))))))
theorem zxi1:z4ql 14 = .pure cDec:=by simp [z4ql]
theorem z798:z4ql 21 = .pure cSmL:=by simp [z4ql]
theorem zwsl:z4ql 8 = .pure cMad:=by simp [z4ql]
theorem z4x6:z4ql 19 = .pure cAwk:=by simp [z4ql]
theorem zxy5:z4ql 24 = .pure cH02:=by simp [z4ql]
theorem zw9q:z4ql 25 = .tch z1m3:=by simp [z4ql]
theorem zrss:z4ql 23 = .tch cLkT:=by simp [z4ql]
theorem zkyf:z4ql.Sound P:=z0rp zdlo (z0rp zijq (z0rp z1qx (z0rp z41w (z0rp znod (z0rp z51e (z0rp z3ot zr5o))))))
def z8n6 (s:Spc) (L:Lnk) (u:Tp) (l:Sl Att) (B:Sl Str) (k:Nat) (i:Nat):St:=a6S0 (.mp 0 2 0) (.mp 1 7 0) (l.dv 9 atC) (.mp 2 3 0) (.int .i64 k) (B.dv 1 stC) (oV 3 9 (honF B.l s.by_.l (l.l.take i))) (.int .i64 i) ([.cells (tpC u),.cells (spC s),.cells (lkC L)]++oT atC (honF B.l s.by_.l (l.l.take i)))
theorem zz5g {s:Spc} {L:Lnk} {u:Tp} {l:Sl Att} {B:Sl Str} {k:Nat} (hl:l.l.length≤10) (i:Nat) (hi:i≤l.l.length) {Φ:AExit→St→Prop}
  (hexit:Φ (.exit 0) ⟨js 5++[.mp 0 2 0,.mp 1 7 0,.junk,.mp 2 3 0,.int .i64 k,.junk,oV 3 9 (honF B.l s.by_.l l.l)]++js 125,[.cells (tpC u),.cells (spC s),.cells (lkC L)]++oT atC (honF B.l s.by_.l l.l)⟩)
  (hw : ∀ st st',Weak 0 st st'→Φ (.exit 0) st'→Φ (.exit 0) st) :
  W z4ql 0 a6L0 (z13e 0 (z8n6 s L u l B k) (fun i=>l.l.length-i) (fun i=>i≤l.l.length) i Φ) (z8n6 s L u l B k i):=by
 obtain ⟨n,hn⟩ : ∃ n,l.l.length=n:=⟨_,rfl⟩
 rw [hn] at hl hi
 simp only [z8n6]
 by_cases h:i<n
 case neg =>
  have h':¬ (i:Int)<n:=by omega
  rw [List.take_of_length_le (show l.l.length≤i by omega)]
  simp (disch:=first|omega|simp<;>omega|fail) [-zA,-zB,-zC,-zD,-zE,a6L0,a6S0,hn,h,h']
  refine hw _ _ (z515 ?_ rfl) hexit
  simp (disch:=first|omega|simp<;>omega|fail) [-zA,-zB,-zC,-zD,-zE]
 have h':(i:Int)<n:=by omega
 have hg : ∀ H,zpsc H 9 (l.dv 9 atC) i=some (.ref (atC l.l[i])):=fun H=>zalo zu2q (by omega)
 have hnx:honF B.l s.by_.l (l.l.take (i+1))=honF B.l s.by_.l (l.l.take i)++(if decide (l.l[i].own ∈ B.l) || !decide (l.l[i].own ∈ s.by_.l) then [l.l[i]] else []):=by rw [List.take_succ_eq_append_getElem (by omega),z7c0]
 have hfl:=zooe (bad:=B.l) (by_:=s.by_.l) (l:=l.l.take i)
 rw [List.length_take] at hfl
 obtain ⟨x,hx⟩ : ∃ x,l.l[i]=x:=⟨_,rfl⟩
 rw [hx] at hg hnx
 obtain ⟨F,hF⟩ : ∃ F,honF B.l s.by_.l (l.l.take i)=F:=⟨_,rfl⟩
 rw [hF] at hnx hfl ⊢
 have hap:=zte0 (f:=atC) (k:=3) (b:=168) (l:=F) (x:=x) (h:=[AObj.cells (tpC u),.cells (spC s),.cells (lkC L)]) rfl zu2q (by decide) (by decide) (fun _=>zwh8) (by omega)
 simp only [List.cons_append,List.nil_append] at hap
 have k1:=z299 (x:=B) (v:=x.own)
 have k2:=z299 (x:=s.by_) (v:=x.own)
 cases c1:decide (x.own ∈ B.l)<;>rw [c1] at k1 hnx
 ·cases c2:decide (x.own ∈ s.by_.l)<;>rw [c2] at k2 hnx
  ·have hn2:honF B.l s.by_.l (l.l.take (i+1))=F++[x]:=by rw [hnx]; rfl
   simp (disch:=first|omega|simp<;>omega|fail) [-zA,-zB,-zC,-zD,-zE,a6L0,a6S0,hn,h,h',hg,zkpj,zxy5,k1,z5rd,k2,znv7,zsdw,hap]
   exact ⟨i+1,z515 (by simp (disch:=first|omega|simp<;>omega|fail) [-zA,-zB,-zC,-zD,-zE,z8n6,a6S0,hn2]) (by simp (disch:=first|omega|simp<;>omega|fail) [-zA,-zB,-zC,-zD,-zE,z8n6,a6S0,hn2]),by omega,by omega⟩
  ·have hn2:honF B.l s.by_.l (l.l.take (i+1))=F:=by rw [hnx]; simp
   simp (disch:=first|omega|simp<;>omega|fail) [-zA,-zB,-zC,-zD,-zE,a6L0,a6S0,hn,h,h',hg,zkpj,zxy5,k1,z5rd,k2]
   exact ⟨i+1,z515 (by simp (disch:=first|omega|simp<;>omega|fail) [-zA,-zB,-zC,-zD,-zE,z8n6,a6S0,hn2]) (by simp (disch:=first|omega|simp<;>omega|fail) [-zA,-zB,-zC,-zD,-zE,z8n6,a6S0,hn2]),by omega,by omega⟩
 ·have hn2:honF B.l s.by_.l (l.l.take (i+1))=F++[x]:=by rw [hnx]; rfl
  simp (disch:=first|omega|simp<;>omega|fail) [-zA,-zB,-zC,-zD,-zE,a6L0,a6S0,hn,h,h',hg,zkpj,zxy5,k1,znv7,zsdw,hap]
  exact ⟨i+1,z515 (by simp (disch:=first|omega|simp<;>omega|fail) [-zA,-zB,-zC,-zD,-zE,z8n6,a6S0,hn2]) (by simp (disch:=first|omega|simp<;>omega|fail) [-zA,-zB,-zC,-zD,-zE,z8n6,a6S0,hn2]),by omega,by omega⟩
structure HL where
 i:Nat
 u:Tp
 w:List Str
structure HLok (s:Spc) (k:Nat) (a:HL):Prop where
 i:k≤a.i∧a.i≤s.by_.l.length
 u:a.u.at_+(s.by_.l.length-a.i)<1000
 w:a.w.Sublist ((s.by_.l.take a.i).drop k)
def zb49 (s:Spc) (L:Lnk) (M:List Att) (a:HL):St:=a6S1 (.mp 0 2 0) (.mp 1 7 0) (.mp 2 3 0) (oV 3 9 (M++a.w.map (honA s L))) (.int .i64 a.w.length) (.int .i64 a.i) ([.cells (tpC a.u),.cells (spC s),.cells (lkC L)]++oT atC (M++a.w.map (honA s L)))
theorem zc4x {s:Spc} {L:Lnk}:zvnk [.str [],.str [],.str [],.int .i64 0,.nils,.nils,.nils,.nils] [(2,1,.str [98,117,105,108,100]),(4,1,s.cmd.dv 1 stC),(6,1,L.m.dv 33 enC),(7,1,L.p.dv 33 enC)]=some (.agg (reC ⟨[],[],bld,0,s.cmd,nilS,L.m,L.p⟩)):=by
 have e0:=zfr8 (x:=s.cmd) (s:=1) (f:=stC)
 have e1:=zfr8 (x:=L.m) (s:=33) (f:=enC)
 have e2:=zfr8 (x:=L.p) (s:=33) (f:=enC)
 simp [zvnk,zi03,zk7y,reC,e0,e1,e2,bld]
 rfl
theorem ziow {s:Spc} {L:Lnk} {M:List Att} {k:Nat} (hM:M.length≤10) (hby:s.by_.l.length≤4) (a:HL) (ha:HLok s k a) {Φ:AExit→St→Prop}
  (hexit : ∀ (u:Tp) (w:List Str),w.Sublist (s.by_.l.drop k)→Φ (.exit 2) ⟨js 5++[.mp 0 2 0,.mp 1 7 0,.junk,.mp 2 3 0,.junk,.junk,oV 3 9 (M++w.map (honA s L)),.junk,.int .i64 w.length]++js 123,[.cells (tpC u),.cells (spC s),.cells (lkC L)]++oT atC (M++w.map (honA s L))⟩)
  (hw : ∀ st st',Weak 0 st st'→Φ (.exit 2) st'→Φ (.exit 2) st) :
  W z4ql 0 a6L1 (z13e 0 (zb49 s L M) (fun a=>s.by_.l.length-a.i) (HLok s k) a Φ) (zb49 s L M a):=by
 obtain ⟨i,u,w⟩:=a
 obtain ⟨⟨h0,h1⟩,h2,h3⟩:=ha
 simp only at h0 h1 h2 h3
 have hlb : ∀ H,lenD H (s.by_.dv 1 stC)=some (.int .i64 s.by_.l.length):=fun H=>zupj
 have hwl:w.length≤4:=by
  have:=h3.length_le
  rw [List.length_drop,List.length_take] at this; omega
 obtain ⟨n,hn⟩ : ∃ n,s.by_.l.length=n:=⟨_,rfl⟩
 rw [hn] at hlb h1 h2 hby
 simp only [zb49]
 by_cases h:i<n
 case neg =>
  have h':¬ (i:Int)<n:=by omega
  rw [List.take_of_length_le (show s.by_.l.length≤i by omega)] at h3
  have hx:=hexit u w h3
  simp (disch:=first|omega|simp<;>omega|fail) [-zA,-zB,-zC,-zD,-zE,a6L1,a6S1,z5rd,hlb,h,h']
  refine hw _ _ (z515 ?_ rfl) hx
  simp (disch:=first|omega|simp<;>omega|fail) [-zA,-zB,-zC,-zD,-zE]
 have h':(i:Int)<n:=by omega
 have hg : ∀ H,zpsc H 1 (s.by_.dv 1 stC) i=some (.ref (stC s.by_.l[i])):=fun H=>zalo zqv6 (by omega)
 have htk:(s.by_.l.take (i+1)).drop k=(s.by_.l.take i).drop k++[s.by_.l[i]]:=by
  rw [List.take_succ_eq_append_getElem (by omega),List.drop_append_of_le_length (by rw [List.length_take]; omega)]
 have hkN:z1m3 [.int .i64 4] (tpC u)=some (.int .i64 (tpN u 4),tpC (u.adv 1)):=z44h (by omega) (by omega) (by omega)
 obtain ⟨c,hc⟩ : ∃ c,tpN u 4=c:=⟨_,rfl⟩
 rw [hc] at hkN
 obtain ⟨o,ho⟩ : ∃ o,s.by_.l[i]=o:=⟨_,rfl⟩
 rw [ho] at hg htk
 have hml:(M++w.map (honA s L)).length≤14:=by rw [List.length_append,List.length_map]; omega
 have hnx:M++(w++[o]).map (honA s L)=(M++w.map (honA s L))++[honA s L o]:=by rw [List.map_append,List.append_assoc]; rfl
 obtain ⟨F,hF⟩ : ∃ F,M++w.map (honA s L)=F:=⟨_,rfl⟩
 rw [hF] at hml hnx ⊢
 have hap:=zte0 (f:=atC) (k:=3) (b:=168) (l:=F) (x:=honA s L o) (h:=[AObj.cells (tpC (u.adv 1)),.cells (spC s),.cells (lkC L)]) rfl zu2q (by decide) (by decide) (fun _=>zwh8) (by omega)
 simp only [List.cons_append,List.nil_append] at hap
 have hat:atC (honA s L o) = .str o::reC ⟨[],[],bld,0,s.cmd,nilS,L.m,L.p⟩:=rfl
 rw [hat] at hap
 have hba:bslD 9 1 [.str [],.str [],.str [],.str [],.int .i64 0,.nils,.nils,.nils,.nils] [(0,9,.agg (.str o::reC ⟨[],[],bld,0,s.cmd,nilS,L.m,L.p⟩))]=some (.sl true 9 1 (.str o::reC ⟨[],[],bld,0,s.cmd,nilS,L.m,L.p⟩)):=zsdw (x:=honA s L o)
 obtain ⟨r,hr⟩ : ∃ r:Rec,(⟨[],[],bld,0,s.cmd,nilS,L.m,L.p⟩:Rec)=r:=⟨_,rfl⟩
 have hbh:=zc4x (s:=s) (L:=L)
 have hba2:=zbd9 (w:=o) (r:=r)
 rw [hr] at hap hba hbh
 by_cases hc0:0<c
 ·simp (disch:=first|omega|simp<;>omega|fail) [-zA,-zB,-zC,-zD,-zE,a6L1,a6S1,z5rd,hlb,h,h',zw9q,hkN,hc0,hg,stC,z436,zfi3,zj40,hbh,hba2,hba,hap]
  exact ⟨⟨i+1,u.adv 1,w++[o]⟩,z515 (by simp (disch:=first|omega|simp<;>omega|fail) [-zA,-zB,-zC,-zD,-zE,zb49,a6S1,hnx]) (by simp (disch:=first|omega|simp<;>omega|fail) [-zA,-zB,-zC,-zD,-zE,zb49,a6S1,hnx]),by simp only; omega,⟨⟨by simp only; omega,by simp only; omega⟩,by simp only [zpza]; omega,by simp only; rw [htk]; exact h3.append (List.Sublist.refl _)⟩⟩
 ·simp (disch:=first|omega|simp<;>omega|fail) [-zA,-zB,-zC,-zD,-zE,a6L1,a6S1,z5rd,hlb,h,h',zw9q,hkN,hc0]
  exact ⟨⟨i+1,u.adv 1,w⟩,z515 (by simp (disch:=first|omega|simp<;>omega|fail) [-zA,-zB,-zC,-zD,-zE,zb49,a6S1,hF]) (by simp (disch:=first|omega|simp<;>omega|fail) [-zA,-zB,-zC,-zD,-zE,zb49,a6S1,hF]),by simp only; omega,⟨⟨by simp only; omega,by simp only; omega⟩,by simp only [zpza]; omega,by simp only; rw [htk]; exact List.sublist_append_of_sublist_left h3⟩⟩
end Go.Proofs.Ytjknipdiglpnlaa
set_option linter.unusedSimpArgs false
set_option linter.unusedVariables false
namespace Go.Proofs.Ytjknipdiglpnlaa
open Go Go.Am
theorem z0qg {x T:Int} (h0:1≤T) (h1:T≤100):IntKind.i64.wrap (x.tmod T+T)=x.tmod T+T ∧ ∃ k:Nat,(k:Int)<T∧(x.tmod T+T).tmod T=k:=by
 obtain ⟨h2,h3⟩:=zhly x T h0 (by omega)
 refine ⟨h2,(x % T).toNat,?_,?_⟩
 ·have:=Int.emod_lt_of_pos x (show (0:Int)<T by omega)
  have:=Int.emod_nonneg x (show T≠0 by omega)
  omega
 ·rw [h3]
  have:=Int.emod_nonneg x (show T≠0 by omega)
  omega
theorem z446 (x:Nl) (li:Int):V P 0 a6.code (retK a6.res (.bool true)) ⟨zr5g a6.ntmps [x.dv,.int .i64 li],[]⟩:=by
 have k0:=zzs2
 have k1:=zbf6 (x:=x)
 have hp:=zkx7 x
 have hx1:=z9k1 x
 have hml:=z4if (nlT x)
 have hm:(ownN (atM (nlT x))).l=atM (nlT x):=zd8n (by omega)
 have k2:=zauq (t:=nlT x) (st:=[98,117,105,108,100]) (show 0<3700000000 by decide)
 have hlk:=zoiq (nlT x) [98,117,105,108,100]
 have t0:(nlT x).at_=0:=rfl
 have a1:=z4rs (nlT x) 3
 have a2:=z2s7 (nlT x) (n:=3) (by omega)
 have a3:=z4rs ((nlT x).adv 1) 2
 have a4:=z2s7 ((nlT x).adv 1) (n:=2) (by omega)
 have hnm:(spM (nlT x)).name=bld:=rfl
 have hT:1≤(spM (nlT x)).thr∧(spM (nlT x)).thr≤3:=by simp only [spM]; omega
 have hB:=zsny (k:=(tpN ((nlT x).adv 1) 2).toNat) (by omega)
 have hBl:3≤(spM (nlT x)).by_.l.length∧(spM (nlT x)).by_.l.length≤4:=hB
 have hNd:(spM (nlT x)).by_.l.Nodup:=zb20 _
 obtain ⟨s,hs⟩ : ∃ s,spM (nlT x)=s:=⟨_,rfl⟩
 obtain ⟨M,hM⟩ : ∃ M,atM (nlT x)=M:=⟨_,rfl⟩
 rw [hM] at k1 hml hm
 rw [hs] at k1 hnm hT hBl hNd
 obtain ⟨l,hl⟩ : ∃ l,ownN M=l:=⟨_,rfl⟩
 rw [hl] at k1 hm
 obtain ⟨L,hL⟩ : ∃ L,zyjl (nlT x) [98,117,105,108,100]=L:=⟨_,rfl⟩
 obtain ⟨u,hu⟩ : ∃ u,zd2t (nlT x)=u:=⟨_,rfl⟩
 rw [hL,hu] at k2
 rw [hu] at hlk
 have hll:l.l.length≤7:=by rw [hm]; exact hml
 obtain ⟨w1,k,hk,ek⟩:=z0qg (x:=li) (T:=s.thr) (by omega) (by omega)
 have hlb : ∀ H,lenD H (s.by_.dv 1 stC)=some (.int .i64 s.by_.l.length):=fun H=>zupj
 have hsl : ∀ H,ziwb H 1 (s.by_.dv 1 stC) none (some (.int .i64 k)) none=some ((s.by_.part 0 k (k == s.by_.l.length)).dv 1 stC):=fun H=>z0ke zqv6 (by simp [zo77,iD]; omega) (by omega)
 obtain ⟨B,hBB⟩ : ∃ B,s.by_.part 0 k (k == s.by_.l.length)=B:=⟨_,rfl⟩
 have hBt:B.l=s.by_.l.take k:=by rw [← hBB]; show (s.by_.l.drop 0).take (k-0)=_; simp
 rw [hBB] at hsl
 have hthr:¬ (s.by_.l.length:Int)<s.thr:=by omega
 have hth0:s.thr≠0:=by omega
 obtain ⟨r1,hr1⟩ : ∃ r,li.tmod s.thr=r:=⟨_,rfl⟩
 rw [hr1] at w1 ek
 refine zbn1 (V_W mix zkyf ?_)
 simp (disch:=first|omega|simp<;>omega|fail) [-zA,-zB,-zC,-zD,-zE,a6]
 refine zbn1 (V_W mix zkyf ?_)
 simp (disch:=first|omega|simp<;>omega|fail) [-zA,-zB,-zC,-zD,-zE,zhx7,z506,ztqv,hx1]
 refine zbn1 (V_W mix zkyf ?_)
 simp (disch:=first|omega|simp<;>omega|fail) [-zA,-zB,-zC,-zD,-zE,zwsl,k1,hp,zf01]
 refine zbn1 (V_W mix zkyf ?_)
 simp (disch:=first|omega|simp<;>omega|fail) [-zA,-zB,-zC,-zD,-zE,zrss,k2,z6cz]
 refine zbn1 (V_W mix zkyf ?_)
 obtain ⟨nb,hnb⟩ : ∃ n,s.by_.l.length=n:=⟨_,rfl⟩
 rw [hnb] at hlb hthr hBl
 simp (disch:=first|omega|simp<;>omega|fail) [-zA,-zB,-zC,-zD,-zE,z66y,z5rd,hlb,hthr]
 refine zbn1 (V_W mix zkyf ?_)
 simp (disch:=first|omega|simp<;>omega|fail) [-zA,-zB,-zC,-zD,-zE,z66y,hth0,hr1,w1,ek,-Int.tmod_eq_emod_of_nonneg]
 refine zbn1 (V_W mix zkyf ?_)
 simp (disch:=first|omega|simp<;>omega|fail) [-zA,-zB,-zC,-zD,-zE,z5rd,hsl]
 refine zbn1 (V_W mix zkyf ?_)
 simp (disch:=first|omega|simp<;>omega|fail) [-zA,-zB,-zC,-zD,-zE]
 refine zbn1 (zbn1 (V_W mix zkyf ?_))
 simp (disch:=first|omega|simp<;>omega|fail) [-zA,-zB,-zC,-zD,-zE]
 have hF0:honF B.l s.by_.l []=[]:=rfl
 have hFl:=zooe (bad:=B.l) (by_:=s.by_.l) (l:=l.l)
 refine z3mo (ztbr (z8n6 s L u l B k) (fun i=>l.l.length-i) (fun i=>i≤l.l.length) 0 (z515 (by simp (disch:=first|omega|simp<;>omega|fail) [-zA,-zB,-zC,-zD,-zE,z8n6,a6S0,hF0,zl8p]) (by simp (disch:=first|omega|simp<;>omega|fail) [-zA,-zB,-zC,-zD,-zE,z8n6,a6S0,hF0,zkrk])) (Nat.zero_le _) (fun i hi=>V_W mix zkyf (zz5g (by omega) i hi ?_ ?_)))
 ·rw [z233,zd2q]
  obtain ⟨F,hF⟩ : ∃ F,honF B.l s.by_.l l.l=F:=⟨_,rfl⟩
  rw [hF] at hFl ⊢
  refine zbn1 (V_W mix zkyf ?_)
  simp (disch:=first|omega|simp<;>omega|fail) [-zA,-zB,-zC,-zD,-zE]
  refine zbn1 (zbn1 (V_W mix zkyf ?_))
  simp (disch:=first|omega|simp<;>omega|fail) [-zA,-zB,-zC,-zD,-zE]
  refine z3mo (ztbr (zb49 s L F) (fun a=>s.by_.l.length-a.i) (HLok s k) ⟨k,u,[]⟩ (z515 (by simp (disch:=first|omega|simp<;>omega|fail) [-zA,-zB,-zC,-zD,-zE,zb49,a6S1]) (by simp (disch:=first|omega|simp<;>omega|fail) [-zA,-zB,-zC,-zD,-zE,zb49,a6S1])) ⟨⟨Nat.le_refl _,by simp only; omega⟩,by simp only; omega,by simp⟩ (fun a ha=>V_W mix zkyf (ziow (k:=k) (by omega) (by omega) a ha ?_ ?_)))
  ·intro u2 w hws
   rw [z233,zd2q]
   have hwl:w.length≤4:=by
    have:=hws.length_le
    rw [List.length_drop] at this; omega
   have main:=z6kw (s:=s) (L:=L) (l:=l.l) (W:=w) (k:=k) hnm hNd hk (by omega) hws (by rw [← hBt,hF,List.length_append,List.length_map]; omega)
   rw [← hBt,hF] at main
   obtain ⟨m,hmm⟩ : ∃ m,F++w.map (honA s L)=m:=⟨_,rfl⟩
   rw [hmm] at main
   have hm20:m.length≤20:=by rw [← hmm,List.length_append,List.length_map]; omega
   rw [hmm]
   have hmk:=z2a4 (f:=atC) (K:=9) (k:=3) (n:=3) (l:=m) (h:=[AObj.cells (tpC u2),.cells (spC s),.cells (lkC L)]) (r:=[]) rfl (Nat.le_refl _) zu2q z83l (by omega)
   simp only [List.cons_append,List.nil_append,List.append_nil] at hmk
   have hmo:(ownN m).l=m:=zd8n (by omega)
   have d1:=z6ch (s:=s) (l:=ownN m) (by rw [hmo]; exact hm20)
   rw [hmo] at d1
   have tpB : ∀ n v,belowL n (tpC v)=true:=fun n v=>zmq5 n _ (zs7w v)
   refine z0em (H:=[.cells (tpC u2),.cells (spC s),.cells (lkC L)]) (R:=oT atC m) (t':=js 6++[.mp 1 7 0,.junk,.mp 2 3 0,.junk,.junk,(ownN m).dv 9 atC,.junk,.int .i64 w.length]++js 123) (by simp only [zlf2,z2i6,zlpm,tpB,Bool.and_self]) (by simp) ?_ (by simp (disch:=first|omega|simp<;>omega|fail) [-zA,-zB,-zC,-zD,-zE,belowL,Am.below,z8b8 _ _ (zu1r (ownN m))]) ?_
   ·have e3 : ∀ h i v,i<3→mk1 (kLt 3) h (.mp i v 0) = .mp i v 0:=fun h i v hi=>zd3c (by simp [Am.below]; omega)
    simp (disch:=first|omega|simp<;>omega|fail) [-zA,-zB,-zC,-zD,-zE,e3,hmk,-z1bt]
   have d2:=zfc5 (a:=(decA s (votL s m)).1.lnk) (b:=L)
   refine zbn1 (V_W mix zkyf ?_)
   generalize (decA s (votL s m)).1=A at d1 d2 main
   generalize (decA s (votL s m)).2=e at d1 main
   simp (disch:=first|omega|simp<;>omega|fail) [-zA,-zB,-zC,-zD,-zE,z8s9,zxi1,d1,zu1r,z2q5]
   refine V_W mix zkyf ?_
   rcases main with ⟨m1,m2⟩|⟨m1,m2⟩
   ·subst m1
    simp (disch:=first|omega|simp<;>omega|fail) [-zA,-zB,-zC,-zD,-zE,z4x6,k0,z66y,m2]
   ·subst m1
    rw [m2] at d2
    simp (disch:=first|omega|simp<;>omega|fail) [-zA,-zB,-zC,-zD,-zE,z4x6,k0,zrbu,zrer,z798,d2]
  ·intro st st' hw' h
   rw [z233,zd2q] at h ⊢
   exact zqfd hw' h
 ·intro st st' hw' h
  rw [z233,zd2q] at h ⊢
  exact zqfd hw' h
namespace agreementHonest
theorem law_holds (dvs) (h:Ty.Args [.sl (.int .i64),.int .i64] dvs):Am.Sem P 6 dvs (.bool true):=by
 obtain ⟨d1,l1,rfl,h1,d2,l2,rfl,h2,rfl⟩:=h
 obtain ⟨x,_,rfl⟩:=zjzy h1
 obtain ⟨a,_,rfl⟩:=zrcx h2
 exact znz9 Try.func6 zc7x (z446 x a)
end agreementHonest
end Go.Proofs.Ytjknipdiglpnlaa
