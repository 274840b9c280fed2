/-
  15 texts of mine in one.
-/
import Derived.Test.YtdnhbfmlklaldaaGreatCb1b7f320
import Derived.Test.YtdnhbfmlklaldaaGreatC1d38dafb
import Derived.Test.YtdnhbfmlklaldaaGreatC86a19a23
import Derived.Test.YtdnhbfmlklaldaaGreatC7dcf1055
import Derived.Test.YtdnhbfmlklaldaaGreatC6a9b145a
import Derived.Test.YtdnhbfmlklaldaaGreatCc0b81b2c
import Derived.Test.YtdnhbfmlklaldaaGreatC3ec7874e
set_option maxRecDepth 20000
set_option maxHeartbeats 4000000
open List renaming map_take → zA, map_drop → zB, map_set → zC, map_append → zD, drop_one → zE
set_option linter.unusedSimpArgs false
set_option linter.unusedVariables false
namespace Go.Proofs.YtdnhbfmlklaldaaGreat
open Go Go.Am
theorem zonj {s:Str}:(stC s).all DV.one=true:=rfl
def S740 (x:Sl Str) (d:Str) (i:Nat):St:=zyf7 (x.dv 1 stC) (.str d) (.int .i64 i) []
theorem zy1k (x:Sl Str) (d:Str):Runs tbl0 a118 [x.dv 1 stC,.str d] (.bool (decide (d ∈ x.l))):=by
 refine ⟨?_⟩
 have hb:=x.b
 simp (disch:=first|omega|simp<;>omega|fail) [-zA,-zB,-zC,-zD,-zE,a118]
 refine zlm5 (S740 x d) (fun i=>x.l.length-i) (fun i=>i≤x.l.length ∧ ∀ j (hj:j<x.l.length),j<i→¬ x.l[j]=d) 0 (z515 (by simp (disch:=first|omega|simp<;>omega|fail) [-zA,-zB,-zC,-zD,-zE,S740,zyf7]) (by simp (disch:=first|omega|simp<;>omega|fail) [-zA,-zB,-zC,-zD,-zE,S740,zyf7])) ⟨by omega,fun j _ hj=>by omega⟩ (fun i hi => ?_)
 obtain ⟨h1,h2⟩:=hi
 simp (disch:=first|omega|simp<;>omega|fail) [-zA,-zB,-zC,-zD,-zE,zcng,zyf7,S740]
 by_cases h:i<x.l.length
 ·have h':(i:Int)<x.l.length:=by omega
  have hg : ∀ H,zpsc H 1 (x.dv 1 stC) i=some (.ref [.str x.l[i]]):=fun H=>zalo zqv6 h
  by_cases e:x.l[i]=d
  ·have hm:d ∈ x.l:=e▸List.getElem_mem h
   simp (disch:=first|omega|simp<;>omega|fail) [-zA,-zB,-zC,-zD,-zE,h',h,hg,e,hm]
  ·simp (disch:=first|omega|simp<;>omega|fail) [-zA,-zB,-zC,-zD,-zE,h',h,hg,e]
   refine ⟨i+1,z515 (by simp (disch:=first|omega|simp<;>omega|fail) [-zA,-zB,-zC,-zD,-zE,S740,zyf7]) (by simp (disch:=first|omega|simp<;>omega|fail) [-zA,-zB,-zC,-zD,-zE,S740,zyf7]),by omega,by omega,fun j hj hji => ?_⟩
   by_cases ej:j=i
   ·subst ej; exact e
   ·exact h2 j hj (by omega)
 ·have h':¬ (i:Int)<x.l.length:=by omega
  have hm:¬ d ∈ x.l:=fun hm=>by
   obtain ⟨j,hj,e⟩:=List.getElem_of_mem hm
   exact h2 j hj (by omega) e
  simp (disch:=first|omega|simp<;>omega|fail) [-zA,-zB,-zC,-zD,-zE,h',h,hm]
noncomputable def z8zr:List DV→Option DV:=con (fun _=>True) (fun a:Sl Str × Str=>[a.1.dv 1 stC,.str a.2]) (fun a => .bool (decide (a.2 ∈ a.1.l)))
theorem zjet {x:Sl Str} {d:Str}:z8zr [x.dv 1 stC,.str d]=some (.bool (decide (d ∈ x.l))) :=
 zsn4 (f:=fun a:Sl Str × Str=>[a.1.dv 1 stC,.str a.2]) (g:=fun a => .bool (decide (a.2 ∈ a.1.l))) (by
  rintro ⟨a,b⟩ ⟨c,d⟩ e
  simp only [List.cons.injEq,DV.str.injEq,and_true] at e
  rw [z8p4 e.1,e.2]) (x,d)
theorem zd4q:(Con.pure z8zr).Sound P 118:=z2au fun a _=>zljw mix zr5o Tryz.func118 zasg (zy1k a.1 a.2)
def addN (x:Sl Str) (d:Str):Sl Str:=if d ∈ x.l then x else own (addU Op.bytesLess x.l d)
noncomputable def T741:Tbl:=addT 118 (.pure z8zr) tbl0
theorem zzfo:T741 118 = .pure z8zr:=by simp [T741]
theorem z0k7:T741.Sound P:=z0rp zd4q zr5o
def aW (l:List Str):DV:=if l=[] then .nils else .ms 0 l.length 0 1 l.length l.length
def aG (l:List Str):List AObj:=if l=[] then [] else [.cells (fl stC l)]
theorem z5rj {l:List Str} (h:l≠[]):aW l = .ms 0 l.length 0 1 l.length l.length:=if_neg h
theorem z8uj {l:List Str} (h:l≠[]):aG l=[.cells (fl stC l)]:=if_neg h
def S741 (x:Sl Str) (d:Str) (i:Nat):St:=zgik (x.dv 1 stC) (.str d) (aW (x.l.take i)) (.int .i64 i) (aG (x.l.take i))
theorem z1s9 (x:Sl Str) (d:Str) (hn:x.l.length≤1000000):Runs T741 a136 [x.dv 1 stC,.str d] ((addN x d).dv 1 stC):=by
 refine ⟨?_⟩
 by_cases hm:d ∈ x.l
 ·have hr:addN x d=x:=if_pos hm
  simp (disch:=first|omega|simp<;>omega|fail) [-zA,-zB,-zC,-zD,-zE,a136,zzfo,zjet,hm,hr]
 have hr:addN x d=own (addU Op.bytesLess x.l d):=if_neg hm
 have hul:=zk4s (lt:=Op.bytesLess) (l:=x.l) (d:=d)
 rw [hr,zqrs (by omega)]
 have ha:addU Op.bytesLess x.l d=x.l.takeWhile (fun y=>Op.bytesLess y d)++d::x.l.dropWhile (fun y=>Op.bytesLess y d):=by unfold addU; rw [if_neg hm]
 simp (disch:=first|omega|simp<;>omega|fail) [-zA,-zB,-zC,-zD,-zE,a136,zzfo,zjet,hm]
 refine zlm5 (S741 x d) (fun i=>x.l.length-i) (fun i=>i≤x.l.length ∧ ∀ j (h:j<x.l.length),j<i→Op.bytesLess x.l[j] d=true) 0 (z515 (by simp (disch:=first|omega|simp<;>omega|fail) [-zA,-zB,-zC,-zD,-zE,S741,zgik,aW]) (by simp (disch:=first|omega|simp<;>omega|fail) [-zA,-zB,-zC,-zD,-zE,S741,zgik,aG])) ⟨by omega,fun j _ hj=>by omega⟩ (fun i hi => ?_)
 obtain ⟨h1,h2⟩:=hi
 simp only [S741]
 have tail:(i=x.l.length ∨ ∃ h:i<x.l.length,Op.bytesLess x.l[i] d=false)→addU Op.bytesLess x.l d=x.l.take i++d::x.l.drop i:=fun h=>by
  obtain ⟨e1,e2⟩:=zig9 (p:=fun y=>Op.bytesLess y d) h1 h2 h
  rw [ha,e1,e2]
 obtain ⟨L,hL⟩ : ∃ L,x.l.take i=L:=⟨_,rfl⟩
 have hLl:L.length=i:=by rw [← hL,List.length_take]; omega
 have hdl:(x.l.drop i).length=x.l.length-i:=List.length_drop ..
 obtain ⟨D,hD⟩ : ∃ D,x.l.drop i=D:=⟨_,rfl⟩
 have hs0 : ∀ H,ziwb H 1 (x.dv 1 stC) (some (.int .i64 i)) none none=some ((x.part i x.l.length (x.l.length == x.l.length)).dv 1 stC):=fun H=>z0ke zqv6 (by simp [zo77,iD]; omega) (Nat.le_refl _)
 obtain ⟨Y,hY⟩ : ∃ Y,x.part i x.l.length (x.l.length == x.l.length)=Y:=⟨_,rfl⟩
 have hYl:Y.l=D:=by rw [← hY,← hD]; show (x.l.drop i).take (x.l.length-i)=_; exact List.take_of_length_le (by omega)
 rw [hY] at hs0
 have hv : ∀ H,visY H (Y.dv 1 stC)=some (D.length,D.flatMap stC):=fun H=>by rw [zwaa zqv6,hYl]
 rw [hD] at hdl
 rw [hL,hD] at tail
 rw [hL]
 by_cases h:i<x.l.length
 case neg =>
  have h':¬ (i:Int)<x.l.length:=by omega
  have H:i=x.l.length ∨ ∃ h:i<x.l.length,Op.bytesLess x.l[i] d=false := .inl (by omega)
  by_cases e:L=[]
  ·have q1:aW L = .nils:=by rw [e]; rfl
   have q2:aG L=[]:=by rw [e]; rfl
   have hap:=zsuq (h:=[]) (s:=1) (b:=16) (m:=1) (cs:=stC d) (by decide) (by decide) (by rw [zqv6]) (by decide) (by decide)
   simp only [zqv6,List.length_nil,List.nil_append] at hap
   have hap2:=zvrp (h:=[AObj.cells (fl stC [d])]) (id:=0) (b:=16) (l:=[d]) (m:=D.length) (cs:=D) zqv6 (by decide) (by decide) (fun _=>zonj) rfl (by simp; omega) (by simp [objV,ziu0,z8lx zqv6])
   rw [z4hs] at hap2
   simp only [List.length_cons,List.length_nil,Nat.zero_add,Nat.one_mul] at hap2
   have ht:=tail H
   rw [e,List.nil_append] at ht
   have hfl:(fl stC (d::D)).length=(1+D.length)*1:=by rw [z8lx zqv6]; simp; omega
   have hpu:=zp6k zds6 (d::D)
   have htk:(fl stC (d::D)).take ((1+D.length)*1)=(d::D).flatMap stC:=List.take_of_length_le (by omega)
   have hl1:(d::D).length=1+D.length:=by simp; omega
   have hsn : ∀ H j,z4tt H j ((d::D).flatMap stC)=some ((d::D).flatMap stC):=fun H j=>z619 hpu
   simp only [Nat.mul_one] at hap hap2 hfl htk
   rw [ht,hl1]
   generalize (d::D).flatMap stC=Z at htk hsn ⊢
   have hst:stC d=[.str d]:=rfl
   rw [hst] at hap hap2
   simp (disch:=first|omega|simp<;>omega|fail) [-zA,-zB,-zC,-zD,-zE,z0mi,zgik,h,h',q1,q2,hs0,hv,hap,hap2,hfl,htk,hsn,zch3]
  ·have q1:=z5rj e
   have q2:=z8uj e
   have hap:=zkg3 (h:=[AObj.cells (fl stC L)]) (id:=0) (b:=16) (l:=L) (x:=d) zqv6 (by decide) (by decide) (fun _=>zonj) (by omega) (by simp [objV,ziu0,z8lx zqv6])
   have hap2:=zvrp (h:=[AObj.cells (fl stC (L++[d]))]) (id:=0) (b:=16) (l:=L++[d]) (m:=D.length) (cs:=D) zqv6 (by decide) (by decide) (fun _=>zonj) rfl (by simp; omega) (by simp [objV,ziu0,z8lx zqv6])
   have hl0:(L++[d]).length=L.length+1:=by simp
   rw [hl0] at hap2
   have ht:=tail H
   have he:L++[d]++D=L++d::D:=by simp
   rw [he] at hap2
   have hfl:(fl stC (L++d::D)).length=(L.length+1+D.length)*1:=by rw [z8lx zqv6]; simp; omega
   have hpu:=zp6k zds6 (L++d::D)
   have htk:(fl stC (L++d::D)).take ((L.length+1+D.length)*1)=(L++d::D).flatMap stC:=List.take_of_length_le (by omega)
   have hl1:(L++d::D).length=L.length+1+D.length:=by simp; omega
   have hsn : ∀ H j,z4tt H j ((L++d::D).flatMap stC)=some ((L++d::D).flatMap stC):=fun H j=>z619 hpu
   simp only [Nat.mul_one] at hap hap2 hfl htk
   rw [ht,hl1]
   generalize (L++d::D).flatMap stC=Z at htk hsn ⊢
   have hst:stC d=[.str d]:=rfl
   rw [hst] at hap
   simp (disch:=first|omega|simp<;>omega|fail) [-zA,-zB,-zC,-zD,-zE,z0mi,zgik,h,h',q1,q2,hs0,hv,hap,hap2,hfl,htk,hsn,zch3]

 have h':(i:Int)<x.l.length:=by omega
 have hg : ∀ H,zpsc H 1 (x.dv 1 stC) i=some (.ref [.str x.l[i]]):=fun H=>zalo zqv6 h
 have hnx:x.l.take (i+1)=L++[x.l[i]]:=by rw [List.take_succ_eq_append_getElem h,hL]
 cases hc:Op.bytesLess x.l[i] d with
 | false =>
  have H:i=x.l.length ∨ ∃ h:i<x.l.length,Op.bytesLess x.l[i] d=false := .inr ⟨h,hc⟩
  obtain ⟨y,hy⟩ : ∃ y,x.l[i]=y:=⟨_,rfl⟩
  rw [hy] at hg hc
  by_cases e:L=[]
  ·have q1:aW L = .nils:=by rw [e]; rfl
   have q2:aG L=[]:=by rw [e]; rfl
   have hap:=zsuq (h:=[]) (s:=1) (b:=16) (m:=1) (cs:=stC d) (by decide) (by decide) (by rw [zqv6]) (by decide) (by decide)
   simp only [zqv6,List.length_nil,List.nil_append] at hap
   have hap2:=zvrp (h:=[AObj.cells (fl stC [d])]) (id:=0) (b:=16) (l:=[d]) (m:=D.length) (cs:=D) zqv6 (by decide) (by decide) (fun _=>zonj) rfl (by simp; omega) (by simp [objV,ziu0,z8lx zqv6])
   rw [z4hs] at hap2
   simp only [List.length_cons,List.length_nil,Nat.zero_add,Nat.one_mul] at hap2
   have ht:=tail H
   rw [e,List.nil_append] at ht
   have hfl:(fl stC (d::D)).length=(1+D.length)*1:=by rw [z8lx zqv6]; simp; omega
   have hpu:=zp6k zds6 (d::D)
   have htk:(fl stC (d::D)).take ((1+D.length)*1)=(d::D).flatMap stC:=List.take_of_length_le (by omega)
   have hl1:(d::D).length=1+D.length:=by simp; omega
   have hsn : ∀ H j,z4tt H j ((d::D).flatMap stC)=some ((d::D).flatMap stC):=fun H j=>z619 hpu
   simp only [Nat.mul_one] at hap hap2 hfl htk
   rw [ht,hl1]
   generalize (d::D).flatMap stC=Z at htk hsn ⊢
   have hst:stC d=[.str d]:=rfl
   rw [hst] at hap hap2
   simp (disch:=first|omega|simp<;>omega|fail) [-zA,-zB,-zC,-zD,-zE,z0mi,zgik,h,h',hg,hc,q1,q2,hs0,hv,hap,hap2,hfl,htk,hsn,zch3]
  ·have q1:=z5rj e
   have q2:=z8uj e
   have hap:=zkg3 (h:=[AObj.cells (fl stC L)]) (id:=0) (b:=16) (l:=L) (x:=d) zqv6 (by decide) (by decide) (fun _=>zonj) (by omega) (by simp [objV,ziu0,z8lx zqv6])
   have hap2:=zvrp (h:=[AObj.cells (fl stC (L++[d]))]) (id:=0) (b:=16) (l:=L++[d]) (m:=D.length) (cs:=D) zqv6 (by decide) (by decide) (fun _=>zonj) rfl (by simp; omega) (by simp [objV,ziu0,z8lx zqv6])
   have hl0:(L++[d]).length=L.length+1:=by simp
   rw [hl0] at hap2
   have ht:=tail H
   have he:L++[d]++D=L++d::D:=by simp
   rw [he] at hap2
   have hfl:(fl stC (L++d::D)).length=(L.length+1+D.length)*1:=by rw [z8lx zqv6]; simp; omega
   have hpu:=zp6k zds6 (L++d::D)
   have htk:(fl stC (L++d::D)).take ((L.length+1+D.length)*1)=(L++d::D).flatMap stC:=List.take_of_length_le (by omega)
   have hl1:(L++d::D).length=L.length+1+D.length:=by simp; omega
   have hsn : ∀ H j,z4tt H j ((L++d::D).flatMap stC)=some ((L++d::D).flatMap stC):=fun H j=>z619 hpu
   simp only [Nat.mul_one] at hap hap2 hfl htk
   rw [ht,hl1]
   generalize (L++d::D).flatMap stC=Z at htk hsn ⊢
   have hst:stC d=[.str d]:=rfl
   rw [hst] at hap
   simp (disch:=first|omega|simp<;>omega|fail) [-zA,-zB,-zC,-zD,-zE,z0mi,zgik,h,h',hg,hc,q1,q2,hs0,hv,hap,hap2,hfl,htk,hsn,zch3]

 | true =>
  have hinv : ∀ j (h:j<x.l.length),j<i+1→Op.bytesLess x.l[j] d=true:=fun j hj hji=>by
   by_cases ej:j=i
   ·subst ej; exact hc
   ·exact h2 j hj (by omega)
  obtain ⟨y,hy⟩ : ∃ y,x.l[i]=y:=⟨_,rfl⟩
  rw [hy] at hg hc hnx
  by_cases e:L=[]
  ·have q1:aW L = .nils:=by rw [e]; rfl
   have q2:aG L=[]:=by rw [e]; rfl
   have hap:=zsuq (h:=[]) (s:=1) (b:=16) (m:=1) (cs:=[.str y]) (by decide) (by decide) rfl (by decide) (by decide)
   simp only [List.length_cons,List.length_nil,List.nil_append,Nat.zero_add] at hap
   simp (disch:=first|omega|simp<;>omega|fail) [-zA,-zB,-zC,-zD,-zE,z0mi,zgik,h,h',hg,hc,q1,q2,hap]
   rw [e,List.nil_append] at hnx
   have e1:aW [y] = .ms 0 1 0 1 1 1:=rfl
   have e2:aG [y]=[.cells [.str y]]:=by rw [z8uj (by simp),z4hs]; rfl
   exact ⟨i+1,z515 (by simp (disch:=first|omega|simp<;>omega|fail) [-zA,-zB,-zC,-zD,-zE,S741,zgik,hnx,e1]) (by simp (disch:=first|omega|simp<;>omega|fail) [-zA,-zB,-zC,-zD,-zE,S741,zgik,hnx,e2]),by omega,by omega,hinv⟩
  ·have q1:=z5rj e
   have q2:=z8uj e
   have hap:=zkg3 (h:=[AObj.cells (fl stC L)]) (id:=0) (b:=16) (l:=L) (x:=y) zqv6 (by decide) (by decide) (fun _=>zonj) (by omega) (by simp [objV,ziu0,z8lx zqv6])
   rw [show stC y=[.str y] from rfl] at hap
   simp only [Nat.mul_one] at hap
   simp (disch:=first|omega|simp<;>omega|fail) [-zA,-zB,-zC,-zD,-zE,z0mi,zgik,h,h',hg,hc,q1,q2,hap]
   have e0:L++[y]≠[]:=by simp
   have e1:=z5rj e0
   have e2:=z8uj e0
   rw [List.length_append,List.length_singleton] at e1
   exact ⟨i+1,z515 (by simp (disch:=first|omega|simp<;>omega|fail) [-zA,-zB,-zC,-zD,-zE,S741,zgik,hnx,e1]) (by simp (disch:=first|omega|simp<;>omega|fail) [-zA,-zB,-zC,-zD,-zE,S741,zgik,hnx,e2]),by omega,by omega,hinv⟩
noncomputable def zol6:List DV→Option DV:=con (fun a:Sl Str × Str=>a.1.l.length≤1000000) (fun a=>[a.1.dv 1 stC,.str a.2]) (fun a=>(addN a.1 a.2).dv 1 stC)
theorem zs7i {x:Sl Str} {d:Str} (h:x.l.length≤1000000):zol6 [x.dv 1 stC,.str d]=some ((addN x d).dv 1 stC) :=
 zlyi (A:=fun a:Sl Str × Str=>a.1.l.length≤1000000) (f:=fun a:Sl Str × Str=>[a.1.dv 1 stC,.str a.2]) (g:=fun a=>(addN a.1 a.2).dv 1 stC) (by
  rintro ⟨a,b⟩ ⟨c,d⟩ e
  simp only [List.cons.injEq,DV.str.injEq,and_true] at e
  rw [z8p4 e.1,e.2]) (x,d) h
theorem zed2:(Con.pure zol6).Sound P 136:=z2au fun a h=>zljw mix z0k7 Tryz.func136 zr0w (z1s9 a.1 a.2 h)
theorem zrsc {x:Sl Str} {d:Str} (h:x.l.length≤1000000):(addN x d).l=addU Op.bytesLess x.l d:=by
 unfold addN
 split
 ·rename_i hm; unfold addU; rw [if_pos hm]
 ·have:=zk4s (lt:=Op.bytesLess) (l:=x.l) (d:=d); rw [z3e9 (by omega)]
end Go.Proofs.YtdnhbfmlklaldaaGreat
set_option linter.unusedSimpArgs false
set_option linter.unusedVariables false
namespace Go.Proofs.YtdnhbfmlklaldaaGreat
open Go Go.Am
theorem zpbg : ∀ (m:List Str) (x:Sl Str),x.l.length+m.length≤1000000→(m.foldl addN x).l=m.foldl (addU Op.bytesLess) x.l
 | [],x,_=>rfl
 | a::m,x,h=>by
  simp only [List.length_cons] at h
  have h1:=zrsc (x:=x) (d:=a) (by omega)
  have h2:=zk4s (lt:=Op.bytesLess) (l:=x.l) (d:=a)
  rw [List.foldl_cons,List.foldl_cons,zpbg m _ (by rw [h1]; omega),h1]
theorem z68u {α:Type} {s:Nat} {f:α→List DV}:(nilS:Sl α).dv s f = .nils:=rfl
theorem zg2y {x:Sl Dg} {d:Dg} (h:x.l.length≤1000000):(addF x d).l=addU dgLt x.l d:=by
 unfold addF
 split
 ·rename_i hm; unfold addU; rw [if_pos hm]
 ·have:=zk4s (lt:=dgLt) (l:=x.l) (d:=d); rw [z3e9 (by omega)]
def unR (x:Sl Dg) (m:List Dg):Sl Dg:=m.foldl addF x
theorem zptr : ∀ (m:List Dg) (x:Sl Dg),x.l.length+m.length≤1000000→(unR x m).l=m.foldl (addU dgLt) x.l
 | [],x,_=>rfl
 | a::m,x,h=>by
  simp only [List.length_cons] at h
  have h1:=zg2y (x:=x) (d:=a) (by omega)
  have h2:=zk4s (lt:=dgLt) (l:=x.l) (d:=a)
  have h3:=zptr m (addF x a) (by rw [h1]; omega)
  show (unR (addF x a) m).l=_
  rw [h3,h1]; rfl
theorem zu06 {x:Sl Dg} {a b:List Dg}:unR x (a++b)=unR (unR x a) b:=List.foldl_append ..
def ownR (l:List Fct):Sl Str:=(l.map (·.own)).foldl addN nilS
theorem zsec {l:List Fct} (h:l.length≤1000000):(ownR l).l=zzy4 l:=by
 rw [ownR,zpbg _ _ (by simpa [zb11] using h)]; rfl
theorem zy8e {l:List Fct} {f:Fct}:ownR (l++[f])=addN (ownR l) f.own:=by simp [ownR]
noncomputable def T742:Tbl:=addT 136 (.pure zol6) tbl0
theorem zs9s:T742 136 = .pure zol6:=by simp [T742]
theorem zxn8:T742.Sound P:=z0rp zed2 zr5o
def S742 (x:Sl Fct) (i:Nat):St:=zg8g (x.dv 71 faC) ((ownR (x.l.take i)).dv 1 stC) (.int .i64 i) []
theorem zbst (x:Sl Fct) (hn:x.l.length≤1000000):Runs T742 a115 [x.dv 71 faC] ((ownR x.l).dv 1 stC):=by
 refine ⟨?_⟩
 simp (disch:=first|omega|simp<;>omega|fail) [-zA,-zB,-zC,-zD,-zE,a115]
 refine zlm5 (S742 x) (fun i=>x.l.length-i) (fun i=>i≤x.l.length) 0 (z515 (by simp (disch:=first|omega|simp<;>omega|fail) [-zA,-zB,-zC,-zD,-zE,S742,zg8g,ownR,z68u]) (by simp (disch:=first|omega|simp<;>omega|fail) [-zA,-zB,-zC,-zD,-zE,S742,zg8g])) (by omega) (fun i hi => ?_)
 simp only [S742]
 by_cases h:i<x.l.length
 ·have h':(i:Int)<x.l.length:=by omega
  have hg : ∀ H,zpsc H 71 (x.dv 71 faC) i=some (.ref (faC x.l[i])):=fun H=>zalo zs77 h
  have hs:ownR (x.l.take (i+1))=addN (ownR (x.l.take i)) x.l[i].own:=by rw [List.take_succ_eq_append_getElem h,zy8e]
  have hb:(ownR (x.l.take i)).l.length≤1000000:=by
   rw [zsec (by rw [List.length_take]; omega)]
   have:=zmvi (x.l.take i)
   rw [List.length_take] at this; omega
  have hc:=zs7i (x:=ownR (x.l.take i)) (d:=x.l[i].own) hb
  rw [← hs] at hc
  obtain ⟨f,hf⟩ : ∃ f,x.l[i]=f:=⟨_,rfl⟩
  rw [hf] at hg hc
  obtain ⟨A,hA⟩ : ∃ A,ownR (x.l.take i)=A:=⟨_,rfl⟩
  rw [hA] at hc ⊢
  simp (disch:=first|omega|simp<;>omega|fail) [-zA,-zB,-zC,-zD,-zE,zbs4,zg8g,h,h',hg,zs9s,hc]
  exact ⟨i+1,z515 (by simp (disch:=first|omega|simp<;>omega|fail) [-zA,-zB,-zC,-zD,-zE,S742,zg8g]) (by simp (disch:=first|omega|simp<;>omega|fail) [-zA,-zB,-zC,-zD,-zE,S742,zg8g]),by omega,by omega⟩
 ·have h':¬ (i:Int)<x.l.length:=by omega
  rw [List.take_of_length_le (show x.l.length≤i by omega)]
  simp (disch:=first|omega|simp<;>omega|fail) [-zA,-zB,-zC,-zD,-zE,zbs4,zg8g,h,h']
noncomputable def cOwR:List DV→Option DV:=con (fun x:Sl Fct=>x.l.length≤1000000) (fun x=>[x.dv 71 faC]) (fun x=>(ownR x.l).dv 1 stC)
theorem zoki {x:Sl Fct} (h:x.l.length≤1000000):cOwR [x.dv 71 faC]=some ((ownR x.l).dv 1 stC) :=
 zlyi (A:=fun x:Sl Fct=>x.l.length≤1000000) (f:=fun x:Sl Fct=>[x.dv 71 faC]) (g:=fun x=>(ownR x.l).dv 1 stC) (fun a b e=>by simp only [List.cons.injEq,and_true] at e; rw [z4rf e]) x h
theorem zvs4:(Con.pure cOwR).Sound P 115:=z2au fun x h=>zljw mix zxn8 Tryz.func115 zv17 (zbst x h)
noncomputable def T743:Tbl:=addT 93 (.pure cAdd) tbl0
theorem zhq4:T743 93 = .pure cAdd:=by simp [T743]
theorem zfmm:T743.Sound P:=z0rp z03l zr5o
def S743 (x y:Sl Dg) (i:Nat):St:=z20v ((unR x (y.l.take i)).dv 32 dgC) (y.dv 32 dgC) (.int .i64 i) []
def UnOK (x y:Sl Dg):Prop:=x.l.length+y.l.length≤1000000
theorem z8bn (l m:List Dg):(m.foldl (addU dgLt) l).length≤l.length+m.length:=by have:=znmg (lt:=dgLt) m l; omega
theorem z5xr (x y:Sl Dg) (hn:UnOK x y):Runs T743 a86 [x.dv 32 dgC,y.dv 32 dgC] ((unR x y.l).dv 32 dgC):=by
 refine ⟨?_⟩
 unfold UnOK at hn
 simp (disch:=first|omega|simp<;>omega|fail) [-zA,-zB,-zC,-zD,-zE,a86]
 refine zlm5 (S743 x y) (fun i=>y.l.length-i) (fun i=>i≤y.l.length) 0 (z515 (by simp (disch:=first|omega|simp<;>omega|fail) [-zA,-zB,-zC,-zD,-zE,S743,z20v,unR]) (by simp (disch:=first|omega|simp<;>omega|fail) [-zA,-zB,-zC,-zD,-zE,S743,z20v])) (by omega) (fun i hi => ?_)
 simp only [S743]
 by_cases h:i<y.l.length
 ·have h':(i:Int)<y.l.length:=by omega
  have hg : ∀ H,zpsc H 32 (y.dv 32 dgC) i=some (.ref (dgC y.l[i])):=fun H=>zalo z1t1 h
  have hs:unR x (y.l.take (i+1))=addF (unR x (y.l.take i)) y.l[i]:=by rw [List.take_succ_eq_append_getElem h,zu06]; rfl
  have hb:(unR x (y.l.take i)).l.length≤1000000:=by
   have ht:(y.l.take i).length≤i:=by rw [List.length_take]; omega
   rw [zptr _ _ (by omega)]
   have:=z8bn x.l (y.l.take i)
   omega
  have hc:=zbsz (x:=unR x (y.l.take i)) (d:=y.l[i]) hb
  rw [← hs] at hc
  obtain ⟨f,hf⟩ : ∃ f,y.l[i]=f:=⟨_,rfl⟩
  rw [hf] at hg hc
  obtain ⟨A,hA⟩ : ∃ A,unR x (y.l.take i)=A:=⟨_,rfl⟩
  rw [hA] at hc ⊢
  simp (disch:=first|omega|simp<;>omega|fail) [-zA,-zB,-zC,-zD,-zE,zw44,z20v,h,h',hg,zhq4,hc]
  exact ⟨i+1,z515 (by simp (disch:=first|omega|simp<;>omega|fail) [-zA,-zB,-zC,-zD,-zE,S743,z20v]) (by simp (disch:=first|omega|simp<;>omega|fail) [-zA,-zB,-zC,-zD,-zE,S743,z20v]),by omega,by omega⟩
 ·have h':¬ (i:Int)<y.l.length:=by omega
  rw [List.take_of_length_le (show y.l.length≤i by omega)]
  simp (disch:=first|omega|simp<;>omega|fail) [-zA,-zB,-zC,-zD,-zE,zw44,z20v,h,h']
noncomputable def cUnR:List DV→Option DV:=con (fun a:Sl Dg × Sl Dg=>UnOK a.1 a.2) (fun a=>[a.1.dv 32 dgC,a.2.dv 32 dgC]) (fun a=>(unR a.1 a.2.l).dv 32 dgC)
theorem zsy2 {x y:Sl Dg} (h:UnOK x y):cUnR [x.dv 32 dgC,y.dv 32 dgC]=some ((unR x y.l).dv 32 dgC) :=
 zlyi (A:=fun a:Sl Dg × Sl Dg=>UnOK a.1 a.2) (f:=fun a:Sl Dg × Sl Dg=>[a.1.dv 32 dgC,a.2.dv 32 dgC]) (g:=fun a=>(unR a.1 a.2.l).dv 32 dgC) (by
  rintro ⟨a,b⟩ ⟨c,d⟩ e
  simp only [List.cons.injEq,and_true] at e
  rw [z42k e.1,z42k e.2]) (x,y) h
theorem zuhn:(Con.pure cUnR).Sound P 86:=z2au fun a h=>zljw mix zfmm Tryz.func86 z2i3 (z5xr a.1 a.2 h)
end Go.Proofs.YtdnhbfmlklaldaaGreat
set_option linter.unusedSimpArgs false
set_option linter.unusedVariables false
namespace Go.Proofs.YtdnhbfmlklaldaaGreat
open Go Go.Am
structure RfOK (l:List Fct):Prop where
 n:l.length≤100
 d : ∀ f ∈ l,f.docs.l.length≤1000
theorem zxjb {l:List Fct} (h:RfOK l) (w:Str):(zm3u l w).length≤1000:=by
 unfold zm3u; split
 ·rename_i f e; exact h.d f (List.mem_of_find?_eq_some e)
 ·simp
theorem zkr7 {l:List Fct} (h:RfOK l) (m:List Str):(ztt8 l m).length≤m.length*1000 :=
 zqok (f:=zm3u l) (m:=1000) (l:=m) fun w _=>zxjb h w
def firR (l:List Fct) (i:Nat):Sl Dg:=unR nilS (ztt8 l ((zzy4 l).take i))
theorem zi54 {l:List Fct} {i:Nat} {w:Str} (hw:(zzy4 l)[i]? = some w):firR l (i+1)=unR (firR l i) (zm3u l w):=by
 unfold firR
 rw [List.take_add_one,hw,← zu06]
 congr 1
 simp [ztt8]
theorem zapt {l:List Fct} (h:RfOK l) (i:Nat):(firR l i).l.length≤100000:=by
 have h1:=zkr7 h ((zzy4 l).take i)
 have h2:=zmvi l
 have h3:((zzy4 l).take i).length≤100:=by rw [List.length_take]; have:=h.n; omega
 unfold firR
 rw [zptr _ _ (by simp [zb11]; omega)]
 have:=z8bn (nilS:Sl Dg).l (ztt8 l ((zzy4 l).take i))
 simp only [zb11,List.length_nil] at this ⊢
 omega
theorem zke1 {l:List Fct} (h:RfOK l) (i:Nat):(firR l i).l=dgsU (ztt8 l ((zzy4 l).take i)):=by
 have h1:=zkr7 h ((zzy4 l).take i)
 have h2:=zmvi l
 have h3:((zzy4 l).take i).length≤100:=by rw [List.length_take]; have:=h.n; omega
 unfold firR
 rw [zptr _ _ (by simp [zb11]; omega)]
 rfl
noncomputable def T744:Tbl:=addT 115 (.pure cOwR) (addT 86 (.pure cUnR) tbl0)
theorem z7i3:T744 115 = .pure cOwR:=by simp [T744]
theorem z7f9:T744 86 = .pure cUnR:=by simp [T744]
theorem zwdi:T744.Sound P:=z0rp zvs4 (z0rp zuhn zr5o)
def S744 (x:Sl Fct) (n:Int) (i:Nat):St:=zabz (x.dv 71 faC) (.int .i64 n) ((firR x.l i).dv 32 dgC) ((ownR x.l).dv 1 stC) (.int .i64 i) []
def S745 (x:Sl Fct) (n:Int) (i k:Nat):St:=zmkv (x.dv 71 faC) (.int .i64 n) ((firR x.l i).dv 32 dgC) ((ownR x.l).dv 1 stC) (.int .i64 i) (.int .i64 k) []
theorem zhxf {α:Type} {p:α→Bool} : ∀ {l:List α} {k:Nat} (hk:k<l.length),p l[k]=true→(∀ j (h:j<l.length),j<k→p l[j]=false)→l.find? p=some l[k]
 | a::l,0,_,h,_=>by simp at h; simp [List.find?_cons,h]
 | a::l,k+1,hk,h,h2=>by
  have ha:p a=false:=h2 0 (by simp) (by omega)
  have ih:=zhxf (p:=p) (l:=l) (k:=k) (by simpa using hk) (by simpa using h) fun j hj hjk=>by
   have:=h2 (j+1) (by simp; omega) (by omega)
   simpa using this
  simp [List.find?_cons,ha,ih]
theorem z2fd (x:Sl Fct) (n:Int) (ok:RfOK x.l):Runs T744 a116 [x.dv 71 faC,.int .i64 n] ((firR x.l n.toNat).dv 32 dgC):=by
 refine ⟨?_⟩
 have hxn:=ok.n
 have hol:=zsec (l:=x.l) (by omega)
 have hob:=zmvi x.l
 have ho:=zoki (x:=x) (by omega)
 have hz:firR x.l 0=nilS:=by simp [firR,ztt8,unR]
 simp (disch:=first|omega|simp<;>omega|fail) [-zA,-zB,-zC,-zD,-zE,a116,z7i3,ho]
 refine zlm5 (S744 x n) (fun i=>(zzy4 x.l).length-i) (fun i=>i≤(zzy4 x.l).length∧i≤n.toNat) 0 (z515 (by simp (disch:=first|omega|simp<;>omega|fail) [-zA,-zB,-zC,-zD,-zE,S744,zabz,hz,z68u]) (by simp (disch:=first|omega|simp<;>omega|fail) [-zA,-zB,-zC,-zD,-zE,S744,zabz])) ⟨by omega,by omega⟩ (fun i hi => ?_)
 obtain ⟨hi1,hi2⟩:=hi
 simp only [S744]
 have hlN : ∀ H,lenD H ((ownR x.l).dv 1 stC)=some (.int .i64 (zzy4 x.l).length):=fun H=>by rw [zupj,hol]
 by_cases h:i<(zzy4 x.l).length
 ·have h':(i:Int)<(zzy4 x.l).length:=by omega
  by_cases g:(i:Int)<n
  ·obtain ⟨w,hw⟩ : ∃ w,(zzy4 x.l)[i]=w:=⟨_,rfl⟩
   have hw':(zzy4 x.l)[i]? = some w:=by rw [List.getElem?_eq_getElem h,hw]
   have hgN : ∀ H,zpsc H 1 ((ownR x.l).dv 1 stC) i=some (.ref [.str w]):=fun H=>by
    rw [zalo (x:=ownR x.l) (i:=i) zqv6 (by rw [hol]; exact h)]
    simp only [hol,hw]; rfl
   have hsu:=zi54 hw'
   have hfl:=zapt ok i
   simp (disch:=first|omega|simp<;>omega|fail) [-zA,-zB,-zC,-zD,-zE,z04p,zabz,h,h',g,hlN]
   refine zlm5 (S745 x n i) (fun k=>x.l.length-k) (fun k=>k≤x.l.length ∧ ∀ j (hj:j<x.l.length),j<k→¬ x.l[j].own=w) 0 (z515 (by simp (disch:=first|omega|simp<;>omega|fail) [-zA,-zB,-zC,-zD,-zE,S745,zmkv]) (by simp (disch:=first|omega|simp<;>omega|fail) [-zA,-zB,-zC,-zD,-zE,S745,zmkv])) ⟨by omega,fun j _ hj=>by omega⟩ (fun k hk => ?_)
   obtain ⟨hk1,hk2⟩:=hk
   simp only [S745]
   by_cases c:k<x.l.length
   ·have c':(k:Int)<x.l.length:=by omega
    have hg : ∀ H,zpsc H 71 (x.dv 71 faC) k=some (.ref (faC x.l[k])):=fun H=>zalo zs77 c
    by_cases e:x.l[k].own=w
    ·have hfd:zm3u x.l w=x.l[k].docs.l:=by
      unfold zm3u
      rw [zhxf (p:=fun f:Fct=>decide (f.own=w)) c (by simpa using e) (fun j hj hjk=>by simpa using hk2 j hj hjk)]
     have hd:=ok.d x.l[k] (List.getElem_mem c)
     have hu:=zsy2 (x:=firR x.l i) (y:=x.l[k].docs) (by unfold UnOK; omega)
     rw [← hfd,← hsu] at hu
     obtain ⟨f,hf⟩ : ∃ f,x.l[k]=f:=⟨_,rfl⟩
     rw [hf] at hg hu e
     simp (disch:=first|omega|simp<;>omega|fail) [-zA,-zB,-zC,-zD,-zE,zcri,zmkv,c,c',hg,hgN,e,z7f9,hu]
     exact ⟨i+1,z515 (by simp (disch:=first|omega|simp<;>omega|fail) [-zA,-zB,-zC,-zD,-zE,S744,zabz]) (by simp (disch:=first|omega|simp<;>omega|fail) [-zA,-zB,-zC,-zD,-zE,S744,zabz]),by omega,by omega,by omega⟩
    ·obtain ⟨f,hf⟩ : ∃ f,x.l[k]=f:=⟨_,rfl⟩
     have hinv : ∀ j (hj:j<x.l.length),j<k+1→¬ x.l[j].own=w:=fun j hj hjk=>by
      by_cases ej:j=k
      ·subst ej; exact e
      ·exact hk2 j hj (by omega)
     rw [hf] at hg e
     simp (disch:=first|omega|simp<;>omega|fail) [-zA,-zB,-zC,-zD,-zE,zcri,zmkv,c,c',hg,hgN,e]
     exact ⟨k+1,z515 (by simp (disch:=first|omega|simp<;>omega|fail) [-zA,-zB,-zC,-zD,-zE,S745,zmkv]) (by simp (disch:=first|omega|simp<;>omega|fail) [-zA,-zB,-zC,-zD,-zE,S745,zmkv]),by omega,by omega,hinv⟩
   ·have c':¬ (k:Int)<x.l.length:=by omega
    have hfd:zm3u x.l w=[]:=by
     unfold zm3u
     rw [List.find?_eq_none.2 fun f hf=>by
      obtain ⟨j,hj,e⟩:=List.getElem_of_mem hf
      have:=hk2 j hj (by omega)
      rw [e] at this; simpa using this]
    rw [hfd] at hsu
    have hsu:firR x.l (i+1)=firR x.l i:=hsu
    simp (disch:=first|omega|simp<;>omega|fail) [-zA,-zB,-zC,-zD,-zE,zcri,zmkv,c,c']
    exact ⟨i+1,z515 (by simp (disch:=first|omega|simp<;>omega|fail) [-zA,-zB,-zC,-zD,-zE,S744,zabz,hsu]) (by simp (disch:=first|omega|simp<;>omega|fail) [-zA,-zB,-zC,-zD,-zE,S744,zabz]),by omega,by omega,by omega⟩
  ·rw [show n.toNat=i by omega]
   simp (disch:=first|omega|simp<;>omega|fail) [-zA,-zB,-zC,-zD,-zE,z04p,zabz,h,h',g,hlN]
 ·have h':¬ (i:Int)<(zzy4 x.l).length:=by omega
  have he:firR x.l i=firR x.l n.toNat:=by
   unfold firR
   rw [List.take_of_length_le (by omega),List.take_of_length_le (by omega)]
  rw [he]
  simp (disch:=first|omega|simp<;>omega|fail) [-zA,-zB,-zC,-zD,-zE,z04p,zabz,h,h',hlN]
noncomputable def cFiR:List DV→Option DV:=con (fun a:Sl Fct × Int=>RfOK a.1.l) (fun a=>[a.1.dv 71 faC,.int .i64 a.2]) (fun a=>(firR a.1.l a.2.toNat).dv 32 dgC)
theorem zllh {x:Sl Fct} {n:Int} (h:RfOK x.l):cFiR [x.dv 71 faC,.int .i64 n]=some ((firR x.l n.toNat).dv 32 dgC) :=
 zlyi (A:=fun a:Sl Fct × Int=>RfOK a.1.l) (f:=fun a:Sl Fct × Int=>[a.1.dv 71 faC,.int .i64 a.2]) (g:=fun a=>(firR a.1.l a.2.toNat).dv 32 dgC) (by
  rintro ⟨a,b⟩ ⟨c,d⟩ e
  simp only [List.cons.injEq,DV.int.injEq,and_true,true_and] at e
  rw [z4rf e.1,e.2]) (x,n) h
theorem z04f:(Con.pure cFiR).Sound P 116:=z2au fun a h=>zljw mix zwdi Tryz.func116 z3rp (z2fd a.1 a.2 h)
theorem ze83 {m:Int}:zvnk [.bool false,.nils,.int .i64 0] [(2,1,.int .i64 m)]=some (.agg (suC (zcc9 m))):=rfl
theorem zz4a {x:Sl Dg}:zvnk [.bool false,.nils,.int .i64 0] [(0,1,.bool true),(1,1,x.dv 32 dgC)]=some (.agg (suC ⟨true,x,0⟩)):=by
 obtain ⟨k,l,h,hb⟩:=x
 cases k<;>rfl
theorem z559 {s:Sup} {h:List AObj} {id:Nat}:zy6o h id 3 0 (.agg (suC s)) (some [.bool false,.nils,.int .i64 0])=some (.junk,h.set id (.cells (suC s))):=z1dg rfl
def z0l6 (l:List Fct) (n:Int):Sup:=if ((zzy4 l).length:Int)<n then zcc9 (n-(zzy4 l).length) else ⟨true,firR l n.toNat,0⟩
def zods (l:List Fct):Sup:=match l with
 | []=>zcc9 1
 | f::_=>⟨true,unR nilS f.docs.l,0⟩
noncomputable def T746:Tbl:=addT 115 (.pure cOwR) (addT 86 (.pure cUnR) (addT 116 (.pure cFiR) tbl0))
theorem z28w:T746 115 = .pure cOwR:=by simp [T746]
theorem zjc9:T746 86 = .pure cUnR:=by simp [T746]
theorem z578:T746 116 = .pure cFiR:=by simp [T746]
theorem zjnl:T746.Sound P:=z0rp zvs4 (z0rp zuhn (z0rp z04f zr5o))
theorem z8xk (x:Sl Fct) (n:Int) (ok:RfOK x.l) (hn : -1000000≤n∧n≤4611686018427387904):Runs T746 a82 [x.dv 71 faC,.int .i64 n] (.agg (suC (z0l6 x.l n))):=by
 refine ⟨?_⟩
 have hxn:=ok.n
 have hol:=zsec (l:=x.l) (by omega)
 have hob:=zmvi x.l
 have ho:=zoki (x:=x) (by omega)
 have hf:=zllh (x:=x) (n:=n) ok
 have hlN : ∀ H,lenD H ((ownR x.l).dv 1 stC)=some (.int .i64 (zzy4 x.l).length):=fun H=>by rw [zupj,hol]
 obtain ⟨m,hm⟩ : ∃ m,(zzy4 x.l).length=m:=⟨_,rfl⟩
 rw [hm] at hlN hob
 by_cases h:(m:Int)<n
 ·have hr:z0l6 x.l n=zcc9 (n-m):=by unfold z0l6; rw [hm,if_pos h]
  have hw:IntKind.i64.wrap (n-m)=n-m:=by rw [IntKind.wrap_i64]; omega
  rw [hr]
  simp (disch:=first|omega|simp<;>omega|fail) [-zA,-zB,-zC,-zD,-zE,a82,z28w,ho,hlN,h,hw,ze83,z559]
 ·have hr:z0l6 x.l n=⟨true,firR x.l n.toNat,0⟩:=by unfold z0l6; rw [hm,if_neg h]
  rw [hr]
  simp (disch:=first|omega|simp<;>omega|fail) [-zA,-zB,-zC,-zD,-zE,a82,z28w,z578,ho,hf,hlN,h,zz4a,z559]
noncomputable def cEnR:List DV→Option DV:=con (fun a:Sl Fct × Int=>RfOK a.1.l ∧ -1000000≤a.2∧a.2≤4611686018427387904) (fun a=>[a.1.dv 71 faC,.int .i64 a.2]) (fun a => .agg (suC (z0l6 a.1.l a.2)))
theorem zdqm {x:Sl Fct} {n:Int} (h:RfOK x.l) (h1 : -1000000≤n) (h2:n≤4611686018427387904):cEnR [x.dv 71 faC,.int .i64 n]=some (.agg (suC (z0l6 x.l n))) :=
 zlyi (A:=fun a:Sl Fct × Int=>RfOK a.1.l ∧ -1000000≤a.2∧a.2≤4611686018427387904) (f:=fun a:Sl Fct × Int=>[a.1.dv 71 faC,.int .i64 a.2]) (g:=fun a => .agg (suC (z0l6 a.1.l a.2))) (by
  rintro ⟨a,b⟩ ⟨c,d⟩ e
  simp only [List.cons.injEq,DV.int.injEq,and_true,true_and] at e
  rw [z4rf e.1,e.2]) (x,n) ⟨h,h1,h2⟩
theorem z2rm:(Con.pure cEnR).Sound P 82:=z2au fun a h=>zljw mix zjnl Tryz.func82 zftu (z8xk a.1 a.2 h.1 h.2)
theorem zh1j (x:Sl Fct) (ok:RfOK x.l):Runs T746 a85 [x.dv 71 faC] (.agg (suC (zods x.l))):=by
 refine ⟨?_⟩
 cases e:x.l with
 | nil =>
  have hl : ∀ H,lenD H (x.dv 71 faC)=some (.int .i64 0):=fun H=>by rw [zupj,e]; rfl
  simp (disch:=first|omega|simp<;>omega|fail) [-zA,-zB,-zC,-zD,-zE,a85,hl,zods,ze83,z559]
 | cons f r =>
  have hl : ∀ H,lenD H (x.dv 71 faC)=some (.int .i64 (r.length+1)):=fun H=>by rw [zupj,e]; simp
  have h0:0<x.l.length:=by rw [e]; simp
  have hg : ∀ H,zpsc H 71 (x.dv 71 faC) ((0:Nat):Int)=some (.ref (faC x.l[0])):=fun H=>zalo zs77 h0
  have hf:x.l[0]=f:=by simp [e]
  rw [hf] at hg
  have hg : ∀ H,zpsc H 71 (x.dv 71 faC) 0=some (.ref (faC f)):=hg
  have hd:=ok.d f (by rw [e]; simp)
  have hu:=zsy2 (x:=nilS) (y:=f.docs) (by unfold UnOK; simp [zb11]; omega)
  rw [z68u] at hu
  have hne:¬ (r.length:Int)+1=0:=by omega
  simp (disch:=first|omega|simp<;>omega|fail) [-zA,-zB,-zC,-zD,-zE,a85,hl,hne,hg,zjc9,hu,zods,zz4a,z559]
noncomputable def cSoR:List DV→Option DV:=con (fun x:Sl Fct=>RfOK x.l) (fun x=>[x.dv 71 faC]) (fun x => .agg (suC (zods x.l)))
theorem z780 {x:Sl Fct} (h:RfOK x.l):cSoR [x.dv 71 faC]=some (.agg (suC (zods x.l))) :=
 zlyi (A:=fun x:Sl Fct=>RfOK x.l) (f:=fun x:Sl Fct=>[x.dv 71 faC]) (g:=fun x => .agg (suC (zods x.l))) (fun a b e=>by simp only [List.cons.injEq,and_true] at e; rw [z4rf e]) x h
theorem z1cp:(Con.pure cSoR).Sound P 85:=z2au fun x h=>zljw mix zjnl Tryz.func85 zu0j (zh1j x h)
end Go.Proofs.YtdnhbfmlklaldaaGreat
set_option linter.unusedSimpArgs false
set_option linter.unusedVariables false
namespace Go.Proofs.YtdnhbfmlklaldaaGreat
open Go Go.Am
def difR (l:List Fct):Sl Str:=ownR (l.filter fun f => !f.agr)
theorem zlsy {l:List Fct} (h:l.length≤1000000):(difR l).l=zqgg l:=by
 have:=List.length_filter_le (fun f:Fct => !f.agr) l
 rw [difR,zsec (by omega)]; rfl
def S750 (x:Sl Fct) (i:Nat):St:=zj5j (x.dv 71 faC) ((difR (x.l.take i)).dv 1 stC) (.int .i64 i) []
theorem zjy5 (x:Sl Fct) (hn:x.l.length≤1000000):Runs T742 a117 [x.dv 71 faC] ((difR x.l).dv 1 stC):=by
 refine ⟨?_⟩
 simp (disch:=first|omega|simp<;>omega|fail) [-zA,-zB,-zC,-zD,-zE,a117]
 refine zlm5 (S750 x) (fun i=>x.l.length-i) (fun i=>i≤x.l.length) 0 (z515 (by simp (disch:=first|omega|simp<;>omega|fail) [-zA,-zB,-zC,-zD,-zE,S750,zj5j,difR,ownR,z68u]) (by simp (disch:=first|omega|simp<;>omega|fail) [-zA,-zB,-zC,-zD,-zE,S750,zj5j])) (by omega) (fun i hi => ?_)
 simp only [S750]
 by_cases h:i<x.l.length
 ·have h':(i:Int)<x.l.length:=by omega
  have hg : ∀ H,zpsc H 71 (x.dv 71 faC) i=some (.ref (faC x.l[i])):=fun H=>zalo zs77 h
  obtain ⟨f,hf⟩ : ∃ f,x.l[i]=f:=⟨_,rfl⟩
  have ht:x.l.take (i+1)=x.l.take i++[f]:=by rw [List.take_succ_eq_append_getElem h,hf]
  rw [hf] at hg
  cases ha:f.agr with
  | true =>
   have hs:difR (x.l.take (i+1))=difR (x.l.take i):=by rw [ht]; unfold difR; rw [List.filter_append]; simp [List.filter,ha]
   simp (disch:=first|omega|simp<;>omega|fail) [-zA,-zB,-zC,-zD,-zE,zdve,zj5j,h,h',hg,ha]
   exact ⟨i+1,z515 (by simp (disch:=first|omega|simp<;>omega|fail) [-zA,-zB,-zC,-zD,-zE,S750,zj5j,hs]) (by simp (disch:=first|omega|simp<;>omega|fail) [-zA,-zB,-zC,-zD,-zE,S750,zj5j]),by omega,by omega⟩
  | false =>
   have hs:difR (x.l.take (i+1))=addN (difR (x.l.take i)) f.own:=by rw [ht]; unfold difR; rw [List.filter_append,← zy8e]; simp [List.filter,ha]
   have hb:(difR (x.l.take i)).l.length≤1000000:=by
    rw [zlsy (by rw [List.length_take]; omega)]
    have:=zmvi ((x.l.take i).filter fun f => !f.agr)
    have h2:=List.length_filter_le (fun f:Fct => !f.agr) (x.l.take i)
    rw [List.length_take] at h2
    unfold zqgg; omega
   have hc:=zs7i (x:=difR (x.l.take i)) (d:=f.own) hb
   rw [← hs] at hc
   obtain ⟨A,hA⟩ : ∃ A,difR (x.l.take i)=A:=⟨_,rfl⟩
   rw [hA] at hc ⊢
   simp (disch:=first|omega|simp<;>omega|fail) [-zA,-zB,-zC,-zD,-zE,zdve,zj5j,h,h',hg,ha,zs9s,hc]
   exact ⟨i+1,z515 (by simp (disch:=first|omega|simp<;>omega|fail) [-zA,-zB,-zC,-zD,-zE,S750,zj5j]) (by simp (disch:=first|omega|simp<;>omega|fail) [-zA,-zB,-zC,-zD,-zE,S750,zj5j]),by omega,by omega⟩
 ·have h':¬ (i:Int)<x.l.length:=by omega
  rw [List.take_of_length_le (show x.l.length≤i by omega)]
  simp (disch:=first|omega|simp<;>omega|fail) [-zA,-zB,-zC,-zD,-zE,zdve,zj5j,h,h']
noncomputable def cDiR:List DV→Option DV:=con (fun x:Sl Fct=>x.l.length≤1000000) (fun x=>[x.dv 71 faC]) (fun x=>(difR x.l).dv 1 stC)
theorem z4bz {x:Sl Fct} (h:x.l.length≤1000000):cDiR [x.dv 71 faC]=some ((difR x.l).dv 1 stC) :=
 zlyi (A:=fun x:Sl Fct=>x.l.length≤1000000) (f:=fun x:Sl Fct=>[x.dv 71 faC]) (g:=fun x=>(difR x.l).dv 1 stC) (fun a b e=>by simp only [List.cons.injEq,and_true] at e; rw [z4rf e]) x h
theorem zt5w:(Con.pure cDiR).Sound P 117:=z2au fun x h=>zljw mix zxn8 Tryz.func117 zt1q (zjy5 x h)
theorem z5eg (f:Fct):Runs tbl0 a31 [.agg (faC f)] (.agg (orC (z5z5 f))):=by
 refine ⟨?_⟩
 have hor:dgC f.rev++[.str f.lay,.str f.run]=orC (z5z5 f):=rfl
 simp (disch:=first|omega|simp<;>omega|fail) [-zA,-zB,-zC,-zD,-zE,a31,hor]
theorem z0js:(Con.pure cOr).Sound P 31:=z2au fun f _=>zljw mix zr5o Tryz.func31 zjer (z5eg f)
theorem zs8z (t:Int):Runs tbl0 a80 [.int .i64 t] (.bool (tmB t)):=by
 refine ⟨?_⟩
 by_cases h0:0≤t
 ·by_cases h1:t≤1099511627776
  ·simp (disch:=first|omega|simp<;>omega|fail) [-zA,-zB,-zC,-zD,-zE,a80,h0,h1,tmB]
  ·simp (disch:=first|omega|simp<;>omega|fail) [-zA,-zB,-zC,-zD,-zE,a80,h0,h1,tmB]
 ·simp (disch:=first|omega|simp<;>omega|fail) [-zA,-zB,-zC,-zD,-zE,a80,h0,tmB]
theorem ztmd:(Con.pure cTm).Sound P 80:=by
 intro args v e
 unfold cTm at e
 split at e
 ·simp at e; subst e; exact zljw mix zr5o Tryz.func80 zpfu (zs8z _)
 ·simp at e
theorem zaa8 {t:Int} (h:tmB t=true):0≤t∧t≤1099511627776:=by simpa [tmB] using h
def kqR (q:Req):Int:=if q.kind=1 then 1 else if q.kind=2 then 2 else if q.kind=3 then 3 else if q.kind=4 then 4 else if q.kind=7 then 1 else 5
def sqR (c:Cas) (o:Org) (q:Req):Sel:=if q.kind=1 then .same o else if q.kind=2 then .chained o q else if q.kind=3 then .source o else if q.kind=4 then .source o else if q.kind=7 then .fresh o c q else .every
def fitR (c:Cas) (o:Org) (q:Req) (f:Fct):Bool:=decide (f.kind=kqR q)&&(sqR c o q).p f
def zgw4 (c:Cas) (o:Org) (q:Req) (l:List Fct):List Fct:=l.filter (fitR c o q)
theorem zh6v {c:Cas} {o:Org} {q:Req} {l:List Fct} {f:Fct}:zgw4 c o q (l++[f])=zgw4 c o q l++(if fitR c o q f then [f] else []):=by
 unfold zgw4
 rw [List.filter_append]
 congr 1
 cases h:fitR c o q f<;>simp [List.filter,h]
noncomputable def T751:Tbl:=addT 31 (.pure cOr) (addT 80 (.pure cTm) tbl0)
theorem zygr:T751 31 = .pure cOr:=by simp [T751]
theorem z1r7:T751 80 = .pure cTm:=by simp [T751]
theorem zwts:T751.Sound P:=z0rp z0js (z0rp ztmd zr5o)
def pV (L:List Fct):DV:=if L=[] then .nils else .ms 3 (L.length*71) 0 71 L.length (L.length*71)
def pT (L:List Fct):List AObj:=if L=[] then [] else [.cells (fl faC L)]
theorem zwde {L:List Fct} (h:L≠[]):pV L = .ms 3 (L.length*71) 0 71 L.length (L.length*71):=if_neg h
theorem zt94 {L:List Fct} (h:L≠[]):pT L=[.cells (fl faC L)]:=by rw [pT,if_neg h]
def S751 (c:Cas) (o:Org) (q:Req) (i:Nat):St:=zihg (.mp 0 36 0) (.mp 1 34 0) (.mp 2 4 0) (pV (zgw4 c o q (c.f.l.take i))) (.int .i64 i) (.cells (caC c) :: .cells (orC o) :: .cells (rqC q)::pT (zgw4 c o q (c.f.l.take i)))
theorem zw6t {x:Fct}:bslD 71 1 [.int .i64 0,.str [],w8 0#8,w8 0#8,w8 0#8,w8 0#8,w8 0#8,w8 0#8,w8 0#8,w8 0#8,w8 0#8,w8 0#8,w8 0#8,w8 0#8,w8 0#8,w8 0#8,w8 0#8,w8 0#8,w8 0#8,w8 0#8,w8 0#8,w8 0#8,w8 0#8,w8 0#8,w8 0#8,w8 0#8,w8 0#8,w8 0#8,w8 0#8,w8 0#8,w8 0#8,w8 0#8,w8 0#8,w8 0#8,.str [],.str [],.int .i64 0,.bool false,w8 0#8,w8 0#8,w8 0#8,w8 0#8,w8 0#8,w8 0#8,w8 0#8,w8 0#8,w8 0#8,w8 0#8,w8 0#8,w8 0#8,w8 0#8,w8 0#8,w8 0#8,w8 0#8,w8 0#8,w8 0#8,w8 0#8,w8 0#8,w8 0#8,w8 0#8,w8 0#8,w8 0#8,w8 0#8,w8 0#8,w8 0#8,w8 0#8,w8 0#8,w8 0#8,w8 0#8,w8 0#8,.nils] [(0,71,.agg (faC x))]=some (.sl true 71 1 (faC x)):=by
 have h1:=zs77 x
 simp [bslD,zi03,zk7y,reps,h1,List.drop_of_length_le]
def PkT:ACode:=match z9us with
 | .seq _ (.seq (.block _ (.seq _ (.seq _ (.seq _ y)))) _)=>y
 | _ => .skip
def PkR:ACode:=match z9us with
 | .seq _ (.seq _ y)=>y
 | _ => .skip
def PkS (c:Cas) (o:Org) (q:Req) (L:List Fct) (i:Nat) (F:Fct) (b:Bool):St:=⟨[.junk,.junk,.junk,.mp 0 36 0,.mp 1 34 0,.mp 2 4 0,.junk,pV L,.int .i64 i,.ref (faC F),.bool b]++js 114,.cells (caC c) :: .cells (orC o) :: .cells (rqC q)::pT L⟩
theorem zxen {c:Cas} {o:Org} {q:Req} {L:List Fct} {i:Nat} {F:Fct} {b:Bool} (hn:c.f.l.length≤1000000) (hl:L.length≤i) (hi:i<c.f.l.length)
  (hs:zgw4 c o q (c.f.l.take (i+1))=L++(if b then [F] else [])) {Φ0:AExit→St→Prop} :
  V P 0 PkT (z0mx 1 (z2pk P 0 PkR (z13e 0 (S751 c o q) (fun i=>c.f.l.length-i) (fun i=>i≤c.f.l.length) i Φ0))) (PkS c o q L i F b):=by
 have hvF : ∀ H,visY H (.sl true 71 1 (faC F))=some (1,faC F):=fun H=>by simp [visY,zs77]
 simp only [PkT,PkR,z9us,PkS]
 refine zbn1 (V_W mix zwts ?_)
 simp (disch:=first|omega|simp<;>omega|fail) [-zA,-zB,-zC,-zD,-zE]
 refine V_W mix zwts ?_
 cases b with
 | false =>
  have hs:zgw4 c o q (c.f.l.take (i+1))=L:=by rw [hs]; simp
  simp (disch:=first|omega|simp<;>omega|fail) [-zA,-zB,-zC,-zD,-zE]
  refine V_W mix zwts ?_
  simp (disch:=first|omega|simp<;>omega|fail) [-zA,-zB,-zC,-zD,-zE]
  exact ⟨i+1,z515 (by simp (disch:=first|omega|simp<;>omega|fail) [-zA,-zB,-zC,-zD,-zE,S751,zihg,hs]) (by simp (disch:=first|omega|simp<;>omega|fail) [-zA,-zB,-zC,-zD,-zE,S751,zihg,hs]),by omega,by omega⟩
 | true =>
  have hs:zgw4 c o q (c.f.l.take (i+1))=L++[F]:=by rw [hs]; rfl
  have e1:=zwde (L:=L++[F]) (by simp)
  have e2:=zt94 (L:=L++[F]) (by simp)
  rw [List.length_append,List.length_singleton] at e1
  by_cases e:L=[]
  ·subst e
   have hap:=zsuq (h:=[AObj.cells (caC c),.cells (orC o),.cells (rqC q)]) (s:=71) (b:=160) (m:=1) (cs:=faC F) (by decide) (by decide) (by rw [zs77]) (by decide) (by decide)
   simp only [zs77,List.length_cons,List.length_nil,Nat.zero_add] at hap
   have hs:zgw4 c o q (c.f.l.take (i+1))=[F]:=hs
   have q1:pV [] = .nils:=rfl
   have q2:pT []=[]:=rfl
   have e1:pV [F] = .ms 3 71 0 71 1 71:=rfl
   have e2:pT [F]=[.cells (faC F)]:=by rw [zt94 (by simp),z4hs]
   simp (disch:=first|omega|simp<;>omega|fail) [-zA,-zB,-zC,-zD,-zE,q1,q2,zw6t,hvF,hap]
   refine V_W mix zwts ?_
   simp (disch:=first|omega|simp<;>omega|fail) [-zA,-zB,-zC,-zD,-zE]
   exact ⟨i+1,z515 (by simp (disch:=first|omega|simp<;>omega|fail) [-zA,-zB,-zC,-zD,-zE,S751,zihg,hs,e1]) (by simp (disch:=first|omega|simp<;>omega|fail) [-zA,-zB,-zC,-zD,-zE,S751,zihg,hs,e2]),by omega,by omega⟩
  ·have q1:=zwde e
   have q2:=zt94 e
   have hap:=zkg3 (h:=[AObj.cells (caC c),.cells (orC o),.cells (rqC q),.cells (fl faC L)]) (id:=3) (b:=160) (l:=L) (x:=F) zs77 (by decide) (by decide) (fun _=>zfgo) (by omega) (by simp [objV,ziu0,z8lx zs77])
   simp (disch:=first|omega|simp<;>omega|fail) [-zA,-zB,-zC,-zD,-zE,q1,q2,zw6t,hvF,hap]
   refine V_W mix zwts ?_
   simp (disch:=first|omega|simp<;>omega|fail) [-zA,-zB,-zC,-zD,-zE]
   exact ⟨i+1,z515 (by simp (disch:=first|omega|simp<;>omega|fail) [-zA,-zB,-zC,-zD,-zE,S751,zihg,hs,e1]) (by simp (disch:=first|omega|simp<;>omega|fail) [-zA,-zB,-zC,-zD,-zE,S751,zihg,hs,e2]),by omega,by omega⟩
def PkT0:ACode:=match z9us with
 | .seq _ (.seq (.block _ (.seq _ y)) _)=>y
 | _ => .skip
theorem z2yl {c:Cas} {o:Org} {q:Req} {L:List Fct} {i:Nat} {F:Fct} (hn:c.f.l.length≤1000000) (hl:L.length≤i) (hi:i<c.f.l.length)
  (hs:zgw4 c o q (c.f.l.take (i+1))=L++(if fitR c o q F then [F] else [])) {Φ0:AExit→St→Prop} :
  V P 0 PkT0 (z0mx 1 (z2pk P 0 PkR (z13e 0 (S751 c o q) (fun i=>c.f.l.length-i) (fun i=>i≤c.f.l.length) i Φ0)))
   ⟨[.junk,.junk,.junk,.mp 0 36 0,.mp 1 34 0,.mp 2 4 0,.junk,pV L,.int .i64 i,.ref (faC F)]++js 115,.cells (caC c) :: .cells (orC o) :: .cells (rqC q)::pT L⟩:=by
 have ho:=z68y (f:=F)
 have tail:=fun b (hb:fitR c o q F=b)=>zxen (Φ0:=Φ0) (F:=F) (b:=b) hn hl hi (by rw [hs,hb])
 simp only [PkT0,z9us]
 refine zbn1 (V_W mix zwts ?_)
 simp (disch:=first|omega|simp<;>omega|fail) [-zA,-zB,-zC,-zD,-zE]
 refine zbn1 (V_W mix zwts ?_)
 by_cases k1:q.kind=1
 ·by_cases g1:F.kind=1
  ·by_cases g2:z5z5 F=o
   ·have hf:fitR c o q F=true:=by simp [fitR,kqR,sqR,Sel.p,k1,g1,g2]
    simp (disch:=first|omega|simp<;>omega|fail) [-zA,-zB,-zC,-zD,-zE,zygr,z1r7,ho,zixp,k1,g1,g2]
    exact zqfd (z515 (by simp (disch:=first|omega|simp<;>omega|fail) [-zA,-zB,-zC,-zD,-zE,PkS]) (by simp (disch:=first|omega|simp<;>omega|fail) [-zA,-zB,-zC,-zD,-zE,PkS])) (tail true hf)
   ·have hf:fitR c o q F=false:=by simp [fitR,kqR,sqR,Sel.p,k1,g1,g2]
    simp (disch:=first|omega|simp<;>omega|fail) [-zA,-zB,-zC,-zD,-zE,zygr,z1r7,ho,zixp,k1,g1,g2]
    exact zqfd (z515 (by simp (disch:=first|omega|simp<;>omega|fail) [-zA,-zB,-zC,-zD,-zE,PkS]) (by simp (disch:=first|omega|simp<;>omega|fail) [-zA,-zB,-zC,-zD,-zE,PkS])) (tail false hf)
  ·have hf:fitR c o q F=false:=by simp [fitR,kqR,sqR,Sel.p,k1,g1]
   simp (disch:=first|omega|simp<;>omega|fail) [-zA,-zB,-zC,-zD,-zE,zygr,z1r7,ho,zixp,k1,g1]
   exact zqfd (z515 (by simp (disch:=first|omega|simp<;>omega|fail) [-zA,-zB,-zC,-zD,-zE,PkS]) (by simp (disch:=first|omega|simp<;>omega|fail) [-zA,-zB,-zC,-zD,-zE,PkS])) (tail false hf)
 by_cases k2:q.kind=2
 ·by_cases g1:F.kind=2
  ·by_cases g2:z5z5 F=o
   ·by_cases g3:F.lay=q.text
    ·have hf:fitR c o q F=true:=by simp [fitR,kqR,sqR,Sel.p,k1,k2,g1,g2,g3]
     simp (disch:=first|omega|simp<;>omega|fail) [-zA,-zB,-zC,-zD,-zE,zygr,z1r7,ho,zixp,k1,k2,g1,g2,g3]
     exact zqfd (z515 (by simp (disch:=first|omega|simp<;>omega|fail) [-zA,-zB,-zC,-zD,-zE,PkS]) (by simp (disch:=first|omega|simp<;>omega|fail) [-zA,-zB,-zC,-zD,-zE,PkS])) (tail true hf)
    ·have hf:fitR c o q F=false:=by simp [fitR,kqR,sqR,Sel.p,k1,k2,g1,g2,g3]
     simp (disch:=first|omega|simp<;>omega|fail) [-zA,-zB,-zC,-zD,-zE,zygr,z1r7,ho,zixp,k1,k2,g1,g2,g3]
     exact zqfd (z515 (by simp (disch:=first|omega|simp<;>omega|fail) [-zA,-zB,-zC,-zD,-zE,PkS]) (by simp (disch:=first|omega|simp<;>omega|fail) [-zA,-zB,-zC,-zD,-zE,PkS])) (tail false hf)
   ·have hf:fitR c o q F=false:=by simp [fitR,kqR,sqR,Sel.p,k1,k2,g1,g2]
    simp (disch:=first|omega|simp<;>omega|fail) [-zA,-zB,-zC,-zD,-zE,zygr,z1r7,ho,zixp,k1,k2,g1,g2]
    exact zqfd (z515 (by simp (disch:=first|omega|simp<;>omega|fail) [-zA,-zB,-zC,-zD,-zE,PkS]) (by simp (disch:=first|omega|simp<;>omega|fail) [-zA,-zB,-zC,-zD,-zE,PkS])) (tail false hf)
  ·have hf:fitR c o q F=false:=by simp [fitR,kqR,sqR,Sel.p,k1,k2,g1]
   simp (disch:=first|omega|simp<;>omega|fail) [-zA,-zB,-zC,-zD,-zE,zygr,z1r7,ho,zixp,k1,k2,g1]
   exact zqfd (z515 (by simp (disch:=first|omega|simp<;>omega|fail) [-zA,-zB,-zC,-zD,-zE,PkS]) (by simp (disch:=first|omega|simp<;>omega|fail) [-zA,-zB,-zC,-zD,-zE,PkS])) (tail false hf)
 by_cases k3:q.kind=3
 ·by_cases g1:F.kind=3
  ·by_cases g2:F.rev=o.rev
   ·have hf:fitR c o q F=true:=by simp [fitR,kqR,sqR,Sel.p,k1,k2,k3,g1,g2]
    simp (disch:=first|omega|simp<;>omega|fail) [-zA,-zB,-zC,-zD,-zE,zygr,z1r7,ho,zixp,k1,k2,k3,g1,g2]
    exact zqfd (z515 (by simp (disch:=first|omega|simp<;>omega|fail) [-zA,-zB,-zC,-zD,-zE,PkS]) (by simp (disch:=first|omega|simp<;>omega|fail) [-zA,-zB,-zC,-zD,-zE,PkS])) (tail true hf)
   ·have hf:fitR c o q F=false:=by simp [fitR,kqR,sqR,Sel.p,k1,k2,k3,g1,g2]
    simp (disch:=first|omega|simp<;>omega|fail) [-zA,-zB,-zC,-zD,-zE,zygr,z1r7,ho,zixp,k1,k2,k3,g1,g2]
    exact zqfd (z515 (by simp (disch:=first|omega|simp<;>omega|fail) [-zA,-zB,-zC,-zD,-zE,PkS]) (by simp (disch:=first|omega|simp<;>omega|fail) [-zA,-zB,-zC,-zD,-zE,PkS])) (tail false hf)
  ·have hf:fitR c o q F=false:=by simp [fitR,kqR,sqR,Sel.p,k1,k2,k3,g1]
   simp (disch:=first|omega|simp<;>omega|fail) [-zA,-zB,-zC,-zD,-zE,zygr,z1r7,ho,zixp,k1,k2,k3,g1]
   exact zqfd (z515 (by simp (disch:=first|omega|simp<;>omega|fail) [-zA,-zB,-zC,-zD,-zE,PkS]) (by simp (disch:=first|omega|simp<;>omega|fail) [-zA,-zB,-zC,-zD,-zE,PkS])) (tail false hf)
 by_cases k4:q.kind=4
 ·by_cases g1:F.kind=4
  ·by_cases g2:F.rev=o.rev
   ·have hf:fitR c o q F=true:=by simp [fitR,kqR,sqR,Sel.p,k1,k2,k3,k4,g1,g2]
    simp (disch:=first|omega|simp<;>omega|fail) [-zA,-zB,-zC,-zD,-zE,zygr,z1r7,ho,zixp,k1,k2,k3,k4,g1,g2]
    exact zqfd (z515 (by simp (disch:=first|omega|simp<;>omega|fail) [-zA,-zB,-zC,-zD,-zE,PkS]) (by simp (disch:=first|omega|simp<;>omega|fail) [-zA,-zB,-zC,-zD,-zE,PkS])) (tail true hf)
   ·have hf:fitR c o q F=false:=by simp [fitR,kqR,sqR,Sel.p,k1,k2,k3,k4,g1,g2]
    simp (disch:=first|omega|simp<;>omega|fail) [-zA,-zB,-zC,-zD,-zE,zygr,z1r7,ho,zixp,k1,k2,k3,k4,g1,g2]
    exact zqfd (z515 (by simp (disch:=first|omega|simp<;>omega|fail) [-zA,-zB,-zC,-zD,-zE,PkS]) (by simp (disch:=first|omega|simp<;>omega|fail) [-zA,-zB,-zC,-zD,-zE,PkS])) (tail false hf)
  ·have hf:fitR c o q F=false:=by simp [fitR,kqR,sqR,Sel.p,k1,k2,k3,k4,g1]
   simp (disch:=first|omega|simp<;>omega|fail) [-zA,-zB,-zC,-zD,-zE,zygr,z1r7,ho,zixp,k1,k2,k3,k4,g1]
   exact zqfd (z515 (by simp (disch:=first|omega|simp<;>omega|fail) [-zA,-zB,-zC,-zD,-zE,PkS]) (by simp (disch:=first|omega|simp<;>omega|fail) [-zA,-zB,-zC,-zD,-zE,PkS])) (tail false hf)
 by_cases k7:q.kind=7
 ·by_cases g1:F.kind=1
  ·by_cases g2:z5z5 F=o
   ·cases g3:tmB F.at_ with
    | false =>
     have hf:fitR c o q F=false:=by simp [fitR,kqR,sqR,Sel.p,k1,k2,k3,k4,k7,g1,g2,g3]
     simp (disch:=first|omega|simp<;>omega|fail) [-zA,-zB,-zC,-zD,-zE,zygr,z1r7,ho,zixp,k1,k2,k3,k4,k7,g1,g2,g3]
     exact zqfd (z515 (by simp (disch:=first|omega|simp<;>omega|fail) [-zA,-zB,-zC,-zD,-zE,PkS]) (by simp (disch:=first|omega|simp<;>omega|fail) [-zA,-zB,-zC,-zD,-zE,PkS])) (tail false hf)
    | true =>
     cases g4:tmB c.at_ with
     | false =>
      have hf:fitR c o q F=false:=by simp [fitR,kqR,sqR,Sel.p,k1,k2,k3,k4,k7,g1,g2,g3,g4]
      simp (disch:=first|omega|simp<;>omega|fail) [-zA,-zB,-zC,-zD,-zE,zygr,z1r7,ho,zixp,k1,k2,k3,k4,k7,g1,g2,g3,g4]
      exact zqfd (z515 (by simp (disch:=first|omega|simp<;>omega|fail) [-zA,-zB,-zC,-zD,-zE,PkS]) (by simp (disch:=first|omega|simp<;>omega|fail) [-zA,-zB,-zC,-zD,-zE,PkS])) (tail false hf)
     | true =>
      by_cases g5:F.at_≤c.at_
      ·have hwc:IntKind.i64.wrap (c.at_-F.at_)=c.at_-F.at_:=by
        have t1:=zaa8 g3
        have t2:=zaa8 g4
        rw [IntKind.wrap_i64]; omega
       by_cases g6:c.at_-F.at_≤q.n
       ·have hf:fitR c o q F=true:=by simp [fitR,kqR,sqR,Sel.p,k1,k2,k3,k4,k7,g1,g2,g3,g4,g5,g6]
        simp (disch:=first|omega|simp<;>omega|fail) [-zA,-zB,-zC,-zD,-zE,zygr,z1r7,ho,zixp,k1,k2,k3,k4,k7,g1,g2,g3,g4,g5,g6,hwc]
        exact zqfd (z515 (by simp (disch:=first|omega|simp<;>omega|fail) [-zA,-zB,-zC,-zD,-zE,PkS]) (by simp (disch:=first|omega|simp<;>omega|fail) [-zA,-zB,-zC,-zD,-zE,PkS])) (tail true hf)
       ·have hf:fitR c o q F=false:=by simp [fitR,kqR,sqR,Sel.p,k1,k2,k3,k4,k7,g1,g2,g3,g4,g5,g6]
        simp (disch:=first|omega|simp<;>omega|fail) [-zA,-zB,-zC,-zD,-zE,zygr,z1r7,ho,zixp,k1,k2,k3,k4,k7,g1,g2,g3,g4,g5,g6,hwc]
        exact zqfd (z515 (by simp (disch:=first|omega|simp<;>omega|fail) [-zA,-zB,-zC,-zD,-zE,PkS]) (by simp (disch:=first|omega|simp<;>omega|fail) [-zA,-zB,-zC,-zD,-zE,PkS])) (tail false hf)
      ·have hf:fitR c o q F=false:=by simp [fitR,kqR,sqR,Sel.p,k1,k2,k3,k4,k7,g1,g2,g3,g4,g5]
       simp (disch:=first|omega|simp<;>omega|fail) [-zA,-zB,-zC,-zD,-zE,zygr,z1r7,ho,zixp,k1,k2,k3,k4,k7,g1,g2,g3,g4,g5]
       exact zqfd (z515 (by simp (disch:=first|omega|simp<;>omega|fail) [-zA,-zB,-zC,-zD,-zE,PkS]) (by simp (disch:=first|omega|simp<;>omega|fail) [-zA,-zB,-zC,-zD,-zE,PkS])) (tail false hf)
   ·have hf:fitR c o q F=false:=by simp [fitR,kqR,sqR,Sel.p,k1,k2,k3,k4,k7,g1,g2]
    simp (disch:=first|omega|simp<;>omega|fail) [-zA,-zB,-zC,-zD,-zE,zygr,z1r7,ho,zixp,k1,k2,k3,k4,k7,g1,g2]
    exact zqfd (z515 (by simp (disch:=first|omega|simp<;>omega|fail) [-zA,-zB,-zC,-zD,-zE,PkS]) (by simp (disch:=first|omega|simp<;>omega|fail) [-zA,-zB,-zC,-zD,-zE,PkS])) (tail false hf)
  ·have hf:fitR c o q F=false:=by simp [fitR,kqR,sqR,Sel.p,k1,k2,k3,k4,k7,g1]
   simp (disch:=first|omega|simp<;>omega|fail) [-zA,-zB,-zC,-zD,-zE,zygr,z1r7,ho,zixp,k1,k2,k3,k4,k7,g1]
   exact zqfd (z515 (by simp (disch:=first|omega|simp<;>omega|fail) [-zA,-zB,-zC,-zD,-zE,PkS]) (by simp (disch:=first|omega|simp<;>omega|fail) [-zA,-zB,-zC,-zD,-zE,PkS])) (tail false hf)
 by_cases g1:F.kind=5
 ·have hf:fitR c o q F=true:=by simp [fitR,kqR,sqR,Sel.p,k1,k2,k3,k4,k7,g1]
  simp (disch:=first|omega|simp<;>omega|fail) [-zA,-zB,-zC,-zD,-zE,zygr,z1r7,ho,zixp,k1,k2,k3,k4,k7,g1]
  exact zqfd (z515 (by simp (disch:=first|omega|simp<;>omega|fail) [-zA,-zB,-zC,-zD,-zE,PkS]) (by simp (disch:=first|omega|simp<;>omega|fail) [-zA,-zB,-zC,-zD,-zE,PkS])) (tail true hf)
 ·have hf:fitR c o q F=false:=by simp [fitR,kqR,sqR,Sel.p,k1,k2,k3,k4,k7,g1]
  simp (disch:=first|omega|simp<;>omega|fail) [-zA,-zB,-zC,-zD,-zE,zygr,z1r7,ho,zixp,k1,k2,k3,k4,k7,g1]
  exact zqfd (z515 (by simp (disch:=first|omega|simp<;>omega|fail) [-zA,-zB,-zC,-zD,-zE,PkS]) (by simp (disch:=first|omega|simp<;>omega|fail) [-zA,-zB,-zC,-zD,-zE,PkS])) (tail false hf)
theorem z2wp (c:Cas) (o:Org) (q:Req) (hn:c.f.l.length≤1000000):V P 0 a81.code (retK a81.res ((ownN (zgw4 c o q c.f.l)).dv 71 faC)) ⟨zr5g a81.ntmps [.agg (caC c),.agg (orC o),.agg (rqC q)],[]⟩:=by
 refine zbn1 (V_W mix zwts ?_)
 simp (disch:=first|omega|simp<;>omega|fail) [-zA,-zB,-zC,-zD,-zE,a81]
 refine zbn1 (V_W mix zwts ?_)
 simp (disch:=first|omega|simp<;>omega|fail) [-zA,-zB,-zC,-zD,-zE]
 refine zbn1 (zbn1 (V_W mix zwts ?_))
 simp (disch:=first|omega|simp<;>omega|fail) [-zA,-zB,-zC,-zD,-zE]
 refine z3mo (ztbr (S751 c o q) (fun i=>c.f.l.length-i) (fun i=>i≤c.f.l.length) 0 (z515 (by simp (disch:=first|omega|simp<;>omega|fail) [-zA,-zB,-zC,-zD,-zE,S751,zihg,zgw4,pV]) (by simp (disch:=first|omega|simp<;>omega|fail) [-zA,-zB,-zC,-zD,-zE,S751,zihg,zgw4,pT])) (by omega) (fun i hi => ?_))
 simp only [S751]
 refine zbn1 (V_W mix zwts ?_)
 by_cases h:i<c.f.l.length
 case neg =>
  have h':¬ (i:Int)<c.f.l.length:=by omega
  rw [List.take_of_length_le (show c.f.l.length≤i by omega)]
  have hlen:(zgw4 c o q c.f.l).length≤1000000:=Nat.le_trans (List.length_filter_le _ _) hn
  obtain ⟨L,hL⟩ : ∃ L,zgw4 c o q c.f.l=L:=⟨_,rfl⟩
  rw [hL] at hlen ⊢
  by_cases e:L=[]
  ·subst e
   have q1:pV [] = .nils:=rfl
   simp (disch:=first|omega|simp<;>omega|fail) [-zA,-zB,-zC,-zD,-zE,z9us,zihg,h,h',q1,z2i7]
   refine V_W mix zwts ?_
   simp (disch:=first|omega|simp<;>omega|fail) [-zA,-zB,-zC,-zD,-zE]
  ·have q1:=zwde e
   have q2:=zt94 e
   have hfl:(fl faC L).length=L.length*71:=z8lx zs77 L
   have htk:(fl faC L).take (L.length*71)=L.flatMap faC:=List.take_of_length_le (by omega)
   have hpu:=zp6k z93p L
   have hsn : ∀ H j,z4tt H j (L.flatMap faC)=some (L.flatMap faC):=fun H j=>z619 hpu
   have hdv:=zgr3 (s:=71) (f:=faC) e (by omega)
   rw [hdv]
   generalize L.flatMap faC=Z at htk hsn ⊢
   simp (disch:=first|omega|simp<;>omega|fail) [-zA,-zB,-zC,-zD,-zE,z9us,zihg,h,h',q1,q2]
   refine V_W mix zwts ?_
   simp (disch:=first|omega|simp<;>omega|fail) [-zA,-zB,-zC,-zD,-zE,hfl,htk,hsn]
 have h':(i:Int)<c.f.l.length:=by omega
 have hg : ∀ H,zpsc H 71 (c.f.dv 71 faC) i=some (.ref (faC c.f.l[i])):=fun H=>zalo zs77 h
 obtain ⟨F,hF⟩ : ∃ F,c.f.l[i]=F:=⟨_,rfl⟩
 have hs:=zh6v (c:=c) (o:=o) (q:=q) (l:=c.f.l.take i) (f:=F)
 rw [← hF,← List.take_succ_eq_append_getElem h,hF] at hs
 rw [hF] at hg
 have hlen:(zgw4 c o q (c.f.l.take i)).length≤i:=by
  have:=List.length_filter_le (fitR c o q) (c.f.l.take i)
  rw [List.length_take] at this; unfold zgw4; omega
 obtain ⟨L,hL⟩ : ∃ L,zgw4 c o q (c.f.l.take i)=L:=⟨_,rfl⟩
 rw [hL] at hs hlen ⊢
 simp (disch:=first|omega|simp<;>omega|fail) [-zA,-zB,-zC,-zD,-zE,z9us,zihg,h,h']
 refine zbn1 (z3mo (zbn1 (V_W mix zwts ?_)))
 simp (disch:=first|omega|simp<;>omega|fail) [-zA,-zB,-zC,-zD,-zE,hg,h,h']
 by_cases e:L=[]
 ·subst e
  have q1:pV [] = .nils:=rfl
  have q2:pT []=[]:=rfl
  simp (disch:=first|omega|simp<;>omega|fail) [-zA,-zB,-zC,-zD,-zE,q1,q2]
  refine V_mk (fun id=>decide (id<3)) ?_
  simp (disch:=first|omega|simp<;>omega|fail) [-zA,-zB,-zC,-zD,-zE]
  exact zqfd (zju2 (tail:=[.dead]) (by simp (disch:=first|omega|simp<;>omega|fail) [-zA,-zB,-zC,-zD,-zE,q1]) (by simp (disch:=first|omega|simp<;>omega|fail) [-zA,-zB,-zC,-zD,-zE,q2]) (by simp) (by simp (disch:=first|omega|simp<;>omega|fail) [-zA,-zB,-zC,-zD,-zE,q1,z1r6,Am.below,z8j3]) (by simp (disch:=first|omega|simp<;>omega|fail) [-zA,-zB,-zC,-zD,-zE,q2,zlf2,z8j3,zd49,z2g3,zljy])) (z2yl hn hlen h hs)
 ·have q1:=zwde e
  have q2:=zt94 e
  have hpu : ∀ H,mkL (fun id=>decide (id<4)) H (fl faC L)=fl faC L:=fun H=>zrip (zp6k z93p _)
  simp (disch:=first|omega|simp<;>omega|fail) [-zA,-zB,-zC,-zD,-zE,q1,q2]
  refine V_mk (fun id=>decide (id<4)) ?_
  simp (disch:=first|omega|simp<;>omega|fail) [-zA,-zB,-zC,-zD,-zE,hpu]
  exact zqfd (zju2 (tail:=[.dead]) (by simp (disch:=first|omega|simp<;>omega|fail) [-zA,-zB,-zC,-zD,-zE,q1]) (by simp (disch:=first|omega|simp<;>omega|fail) [-zA,-zB,-zC,-zD,-zE,q2]) (by simp) (by simp (disch:=first|omega|simp<;>omega|fail) [-zA,-zB,-zC,-zD,-zE,q1,q2,z1r6,Am.below,z8j3]) (by simp (disch:=first|omega|simp<;>omega|fail) [-zA,-zB,-zC,-zD,-zE,q2,zlf2,z8j3,zd49,z2g3,zljy,fl,zmq5 _ _ (zp6k z93p _)])) (z2yl hn hlen h hs)
noncomputable def cPkR:List DV→Option DV:=con (fun a:Cas × Org × Req=>a.1.f.l.length≤1000000) (fun a=>[.agg (caC a.1),.agg (orC a.2.1),.agg (rqC a.2.2)]) (fun a=>(ownN (zgw4 a.1 a.2.1 a.2.2 a.1.f.l)).dv 71 faC)
theorem zdry {c:Cas} {o:Org} {q:Req} (h:c.f.l.length≤1000000):cPkR [.agg (caC c),.agg (orC o),.agg (rqC q)]=some ((ownN (zgw4 c o q c.f.l)).dv 71 faC) :=
 zlyi (A:=fun a:Cas × Org × Req=>a.1.f.l.length≤1000000) (f:=fun a:Cas × Org × Req=>[.agg (caC a.1),.agg (orC a.2.1),.agg (rqC a.2.2)]) (g:=fun a=>(ownN (zgw4 a.1 a.2.1 a.2.2 a.1.f.l)).dv 71 faC) (by
  rintro ⟨a,b,c⟩ ⟨a',b',c'⟩ e
  simp only [List.cons.injEq,DV.agg.injEq,and_true] at e
  rw [zejx e.1,zc65 e.2.1,z82b e.2.2]) (c,o,q) h
theorem zk1i:(Con.pure cPkR).Sound P 81:=z2au fun a h=>znz9 Tryz.func81 zgev (z2wp a.1 a.2.1 a.2.2 h)
end Go.Proofs.YtdnhbfmlklaldaaGreat
set_option linter.unusedSimpArgs false
set_option linter.unusedVariables false
namespace Go.Proofs.YtdnhbfmlklaldaaGreat
open Go Go.Am
def agrL (l left:List Fct):List Fct:=left.filter fun f => !decide (f.own ∈ zqgg l)
def zhjf (l left:List Fct) (q:Req):Sup:=if 0<((zqgg l).length:Int)-q.m then zcc9 ((z0l6 (agrL l left) q.n).missing+((zqgg l).length-q.m)) else z0l6 (agrL l left) q.n
theorem zgwn {l m:List Fct} {f:Fct}:agrL l (m++[f])=agrL l m++(if f.own ∈ zqgg l then [] else [f]):=by
 unfold agrL
 rw [List.filter_append]
 congr 1
 by_cases h:f.own ∈ zqgg l<;>simp [List.filter,h]
noncomputable def T752:Tbl:=addT 117 (.pure cDiR) (addT 118 (.pure z8zr) (addT 82 (.pure cEnR) tbl0))
theorem zal9:T752 117 = .pure cDiR:=by simp [T752]
theorem zfwy:T752 118 = .pure z8zr:=by simp [T752]
theorem zqop:T752 82 = .pure cEnR:=by simp [T752]
theorem zsbx:T752.Sound P:=z0rp zt5w (z0rp zd4q (z0rp z2rm zr5o))
def rV (L:List Fct):DV:=if L=[] then .nils else .ms 2 (L.length*71) 0 71 L.length (L.length*71)
def rH (q:Req) (L:List Fct):List AObj := .cells (rqC q) :: .cells su0::(if L=[] then [] else [.cells (fl faC L)])
theorem zzu8 {L:List Fct} (h:L≠[]):rV L = .ms 2 (L.length*71) 0 71 L.length (L.length*71):=if_neg h
theorem zb4v {q:Req} {L:List Fct} (h:L≠[]):rH q L=[.cells (rqC q),.cells su0,.cells (fl faC L)]:=by rw [rH,if_neg h]
def S752 (l x:Sl Fct) (q:Req) (i:Nat):St:=ztza (x.dv 71 faC) (.mp 0 4 0) (.mp 1 3 0) ((difR l.l).dv 1 stC) (rV (agrL l.l (x.l.take i))) (.int .i64 i) (rH q (agrL l.l (x.l.take i)))
theorem z23v {s:Sup} {h:List AObj} {id:Nat}:zy6o h id 3 0 (.agg (suC s)) (some su0)=some (.junk,h.set id (.cells (suC s))):=z1dg rfl
theorem z438 {s r:Sup} {h:List AObj} {id:Nat}:zy6o h id 3 0 (.agg (suC s)) (some (suC r))=some (.junk,h.set id (.cells (suC s))):=z1dg rfl
structure RbR (l left:List Fct) (q:Req):Prop where
 l:l.length≤1000000
 a:RfOK left
 n : -1000000≤q.n∧q.n≤1000000
 m : -1000000≤q.m∧q.m≤1000000
theorem zxzf {l left:List Fct} (h:RfOK left):RfOK (agrL l left):=⟨by have:=List.length_filter_le (fun f:Fct => !decide (f.own ∈ zqgg l)) left; have:=h.n; unfold agrL; omega,fun f hf=>h.d f (List.mem_filter.1 hf).1⟩
theorem zpj1 {l:List Fct} {n:Int} (hn:n≤1000000):0≤(z0l6 l n).missing∧(z0l6 l n).missing≤1000000:=by
 unfold z0l6
 split
 ·simp only [zcc9]; omega
 ·simp
theorem zfld (l x:Sl Fct) (q:Req) (ok:RbR l.l x.l q):V P 0 a83.code (retK a83.res (.agg (suC (zhjf l.l x.l q)))) ⟨zr5g a83.ntmps [l.dv 71 faC,x.dv 71 faC,.agg (rqC q)],[]⟩:=by
 have hl:=ok.l
 have hxn:=ok.a.n
 have hq:=ok.n
 have hm:=ok.m
 have hd:=z4bz (x:=l) hl
 have hdl:=zlsy (l:=l.l) hl
 have hab:=zmvi (l.l.filter fun f => !f.agr)
 have hab2:=List.length_filter_le (fun f:Fct => !f.agr) l.l
 have hab:(zqgg l.l).length≤1000000:=by unfold zqgg; omega
 have hlD : ∀ H,lenD H ((difR l.l).dv 1 stC)=some (.int .i64 (zqgg l.l).length):=fun H=>by rw [zupj,hdl]
 refine zbn1 (V_W mix zsbx ?_)
 simp (disch:=first|omega|simp<;>omega|fail) [-zA,-zB,-zC,-zD,-zE,a83]
 refine zbn1 (V_W mix zsbx ?_)
 simp (disch:=first|omega|simp<;>omega|fail) [-zA,-zB,-zC,-zD,-zE,zal9,hd]
 refine zbn1 (V_W mix zsbx ?_)
 simp (disch:=first|omega|simp<;>omega|fail) [-zA,-zB,-zC,-zD,-zE]
 refine zbn1 (V_W mix zsbx ?_)
 simp (disch:=first|omega|simp<;>omega|fail) [-zA,-zB,-zC,-zD,-zE]
 refine zlm5 (S752 l x q) (fun i=>x.l.length-i) (fun i=>i≤x.l.length) 0 (z515 (by simp (disch:=first|omega|simp<;>omega|fail) [-zA,-zB,-zC,-zD,-zE,S752,ztza,agrL,rV]) (by simp (disch:=first|omega|simp<;>omega|fail) [-zA,-zB,-zC,-zD,-zE,S752,ztza,agrL,rH,su0])) (by omega) (fun i hi => ?_)
 simp only [S752]
 by_cases h:i<x.l.length
 ·have h':(i:Int)<x.l.length:=by omega
  have hg : ∀ H,zpsc H 71 (x.dv 71 faC) i=some (.ref (faC x.l[i])):=fun H=>zalo zs77 h
  obtain ⟨F,hF⟩ : ∃ F,x.l[i]=F:=⟨_,rfl⟩
  have hs:=zgwn (l:=l.l) (m:=x.l.take i) (f:=F)
  rw [← hF,← List.take_succ_eq_append_getElem h,hF] at hs
  rw [hF] at hg
  have hlen:(agrL l.l (x.l.take i)).length≤i:=by
   have:=List.length_filter_le (fun f:Fct => !decide (f.own ∈ zqgg l.l)) (x.l.take i)
   rw [List.length_take] at this; unfold agrL; omega
  obtain ⟨L,hL⟩ : ∃ L,agrL l.l (x.l.take i)=L:=⟨_,rfl⟩
  rw [hL] at hs hlen ⊢
  have hvF : ∀ H,visY H (.sl true 71 1 (faC F))=some (1,faC F):=fun H=>by simp [visY,zs77]
  have hc:=zjet (x:=difR l.l) (d:=F.own)
  rw [hdl] at hc
  by_cases hm:F.own ∈ zqgg l.l
  ·rw [if_pos hm,List.append_nil] at hs
   by_cases e:L=[]
   ·subst e
    have q1:rV [] = .nils:=rfl
    have q2:rH q []=[.cells (rqC q),.cells su0]:=rfl
    simp (disch:=first|omega|simp<;>omega|fail) [-zA,-zB,-zC,-zD,-zE,zubw,ztza,h,h',hg,q1,q2,zfwy,hc,hm]
    exact ⟨i+1,z515 (by simp (disch:=first|omega|simp<;>omega|fail) [-zA,-zB,-zC,-zD,-zE,S752,ztza,hs,q1]) (by simp (disch:=first|omega|simp<;>omega|fail) [-zA,-zB,-zC,-zD,-zE,S752,ztza,hs,q2]),by omega,by omega⟩
   ·have q1:=zzu8 e
    have q2:=zb4v (q:=q) e
    simp (disch:=first|omega|simp<;>omega|fail) [-zA,-zB,-zC,-zD,-zE,zubw,ztza,h,h',hg,q1,q2,zfwy,hc,hm]
    exact ⟨i+1,z515 (by simp (disch:=first|omega|simp<;>omega|fail) [-zA,-zB,-zC,-zD,-zE,S752,ztza,hs,q1]) (by simp (disch:=first|omega|simp<;>omega|fail) [-zA,-zB,-zC,-zD,-zE,S752,ztza,hs,q2]),by omega,by omega⟩
  ·rw [if_neg hm] at hs
   have e1:=zzu8 (L:=L++[F]) (by simp)
   have e2:=zb4v (q:=q) (L:=L++[F]) (by simp)
   rw [List.length_append,List.length_singleton] at e1
   by_cases e:L=[]
   ·subst e
    have q1:rV [] = .nils:=rfl
    have q2:rH q []=[.cells (rqC q),.cells su0]:=rfl
    have hap:=zsuq (h:=[AObj.cells (rqC q),.cells su0]) (s:=71) (b:=160) (m:=1) (cs:=faC F) (by decide) (by decide) (by rw [zs77]) (by decide) (by decide)
    simp only [zs77,List.length_cons,List.length_nil,Nat.zero_add] at hap
    have hs:agrL l.l (x.l.take (i+1))=[F]:=hs
    have e1:rV [F] = .ms 2 71 0 71 1 71:=rfl
    have e2:rH q [F]=[.cells (rqC q),.cells su0,.cells (faC F)]:=by rw [zb4v (by simp),z4hs]
    simp (disch:=first|omega|simp<;>omega|fail) [-zA,-zB,-zC,-zD,-zE,zubw,ztza,h,h',hg,q1,q2,zfwy,hc,hm,zw6t,hvF,hap]
    exact ⟨i+1,z515 (by simp (disch:=first|omega|simp<;>omega|fail) [-zA,-zB,-zC,-zD,-zE,S752,ztza,hs,e1]) (by simp (disch:=first|omega|simp<;>omega|fail) [-zA,-zB,-zC,-zD,-zE,S752,ztza,hs,e2]),by omega,by omega⟩
   ·have q1:=zzu8 e
    have q2:=zb4v (q:=q) e
    have hap:=zkg3 (h:=[AObj.cells (rqC q),.cells su0,.cells (fl faC L)]) (id:=2) (b:=160) (l:=L) (x:=F) zs77 (by decide) (by decide) (fun _=>zfgo) (by omega) (by simp [objV,ziu0,z8lx zs77])
    simp (disch:=first|omega|simp<;>omega|fail) [-zA,-zB,-zC,-zD,-zE,zubw,ztza,h,h',hg,q1,q2,zfwy,hc,hm,zw6t,hvF,hap]
    exact ⟨i+1,z515 (by simp (disch:=first|omega|simp<;>omega|fail) [-zA,-zB,-zC,-zD,-zE,S752,ztza,hs,e1]) (by simp (disch:=first|omega|simp<;>omega|fail) [-zA,-zB,-zC,-zD,-zE,S752,ztza,hs,e2]),by omega,by omega⟩
 have h':¬ (i:Int)<x.l.length:=by omega
 rw [List.take_of_length_le (show x.l.length≤i by omega)]
 have hao:=zxzf (l:=l.l) ok.a
 have hms:=zpj1 (l:=agrL l.l x.l) (n:=q.n) (by omega)
 obtain ⟨A,hA⟩ : ∃ A,(zqgg l.l).length=A:=⟨_,rfl⟩
 rw [hA] at hlD hab
 have hwA:IntKind.i64.wrap ((A:Int)-q.m)=A-q.m:=by rw [IntKind.wrap_i64]; omega
 have hr:zhjf l.l x.l q=if 0<(A:Int)-q.m then zcc9 ((z0l6 (agrL l.l x.l) q.n).missing+(A-q.m)) else z0l6 (agrL l.l x.l) q.n:=by unfold zhjf; rw [hA]
 rw [hr]
 have hown:(ownN (agrL l.l x.l)).l=agrL l.l x.l:=zd8n (by have:=hao.n; omega)
 have hc:=zdqm (x:=ownN (agrL l.l x.l)) (n:=q.n) (by rw [hown]; exact hao) (by omega) (by omega)
 rw [hown] at hc
 obtain ⟨S,hS⟩ : ∃ S,z0l6 (agrL l.l x.l) q.n=S:=⟨_,rfl⟩
 rw [hS] at hc hms ⊢
 have hwS:IntKind.i64.wrap (S.missing+(A-q.m))=S.missing+(A-q.m):=by rw [IntKind.wrap_i64]; omega
 obtain ⟨L,hL⟩ : ∃ L,agrL l.l x.l=L:=⟨_,rfl⟩
 rw [hL] at hc ⊢
 obtain ⟨X,hX⟩ : ∃ X,(if 0<(A:Int)-q.m then zcc9 (S.missing+(A-q.m)) else S)=X:=⟨_,rfl⟩
 by_cases e:L=[]
 ·subst e
  have q1:rV [] = .nils:=rfl
  have q2:rH q []=[.cells (rqC q),.cells su0]:=rfl
  rw [z2i7] at hc
  rw [show (if 0<(A:Int)-q.m then zcc9 (S.missing+(A-q.m)) else S)=X from hX]
  simp (disch:=first|omega|simp<;>omega|fail) [-zA,-zB,-zC,-zD,-zE,zubw,ztza,h,h',q1,q2]
  refine V_W mix zsbx ?_
  by_cases g:q.m<A
  ·rw [← hX,if_pos (show 0<(A:Int)-q.m by omega)]
   simp (disch:=first|omega|simp<;>omega|fail) [-zA,-zB,-zC,-zD,-zE,zqop,hc,z559,z438,z23v,hlD,hwA,g,hwS,ze83]
  ·rw [← hX,if_neg (show ¬ 0<(A:Int)-q.m by omega)]
   simp (disch:=first|omega|simp<;>omega|fail) [-zA,-zB,-zC,-zD,-zE,zqop,hc,z559,z438,z23v,hlD,hwA,g]
 ·have q1:=zzu8 e
  have q2:=zb4v (q:=q) e
  have hlb:L.length≤100:=by rw [← hL]; exact hao.n
  have hfl:(fl faC L).length=L.length*71:=z8lx zs77 L
  have htk:(fl faC L).take (L.length*71)=L.flatMap faC:=List.take_of_length_le (by omega)
  have hpu:=zp6k z93p L
  rw [zgr3 e (by omega)] at hc
  rw [show (if 0<(A:Int)-q.m then zcc9 (S.missing+(A-q.m)) else S)=X from hX]
  simp (disch:=first|omega|simp<;>omega|fail) [-zA,-zB,-zC,-zD,-zE,zubw,ztza,h,h',q1,q2]
  refine V_mk (fun id=>decide (id<2)) ?_
  simp (disch:=first|omega|simp<;>omega|fail) [-zA,-zB,-zC,-zD,-zE,hfl,htk,hpu]
  refine V_W mix zsbx ?_
  by_cases g:q.m<A
  ·rw [← hX,if_pos (show 0<(A:Int)-q.m by omega)]
   simp (disch:=first|omega|simp<;>omega|fail) [-zA,-zB,-zC,-zD,-zE,zqop,hc,hpu,z559,z438,z23v,hlD,hwA,g,hwS,ze83]
  ·rw [← hX,if_neg (show ¬ 0<(A:Int)-q.m by omega)]
   simp (disch:=first|omega|simp<;>omega|fail) [-zA,-zB,-zC,-zD,-zE,zqop,hc,hpu,z559,z438,z23v,hlD,hwA,g]
noncomputable def cRbR:List DV→Option DV:=con (fun a:Sl Fct × Sl Fct × Req=>RbR a.1.l a.2.1.l a.2.2) (fun a=>[a.1.dv 71 faC,a.2.1.dv 71 faC,.agg (rqC a.2.2)]) (fun a => .agg (suC (zhjf a.1.l a.2.1.l a.2.2)))
theorem z9iz {l x:Sl Fct} {q:Req} (h:RbR l.l x.l q):cRbR [l.dv 71 faC,x.dv 71 faC,.agg (rqC q)]=some (.agg (suC (zhjf l.l x.l q))) :=
 zlyi (A:=fun a:Sl Fct × Sl Fct × Req=>RbR a.1.l a.2.1.l a.2.2) (f:=fun a:Sl Fct × Sl Fct × Req=>[a.1.dv 71 faC,a.2.1.dv 71 faC,.agg (rqC a.2.2)]) (g:=fun a => .agg (suC (zhjf a.1.l a.2.1.l a.2.2))) (by
  rintro ⟨a,b,c⟩ ⟨a',b',c'⟩ e
  simp only [List.cons.injEq,DV.agg.injEq,and_true] at e
  rw [z4rf e.1,z4rf e.2.1,z82b e.2.2]) (l,x,q) h
theorem z6n1:(Con.pure cRbR).Sound P 83:=z2au fun a h=>znz9 Tryz.func83 z6eh (zfld a.1 a.2.1 a.2.2 h)
end Go.Proofs.YtdnhbfmlklaldaaGreat
set_option linter.unusedSimpArgs false
set_option linter.unusedVariables false
namespace Go.Proofs.YtdnhbfmlklaldaaGreat
open Go Go.Am
def ofL (l:List Fct) (d:Dg):List Fct:=l.filter fun f=>decide (f.tgt=d)
theorem z4ws {m:List Fct} {f:Fct} {d:Dg}:ofL (m++[f]) d=ofL m d++(if f.tgt=d then [f] else []):=by
 unfold ofL
 rw [List.filter_append]
 congr 1
 by_cases h:f.tgt=d<;>simp [List.filter,h]
theorem z5be {l:List Fct} {d:Dg} (h:RfOK l):RfOK (ofL l d):=⟨by have:=List.length_filter_le (fun f:Fct=>decide (f.tgt=d)) l; have:=h.n; unfold ofL; omega,fun f hf=>h.d f (List.mem_filter.1 hf).1⟩
def zqxa (l:List Fct) (n:Int) (b:Sup) (d:Dg):Sup:=if (z0l6 (ofL l d) n).holds||(!b.holds&&decide ((z0l6 (ofL l d) n).missing<b.missing)) then z0l6 (ofL l d) n else b
def zu6h (l:List Fct) (n:Int):Sup:=(dgsU (tgS l)).foldr (fun d b=>zqxa l n b d) (zcc9 n)
noncomputable def T753:Tbl:=addT 93 (.pure cAdd) (addT 82 (.pure cEnR) tbl0)
theorem zo2o:T753 93 = .pure cAdd:=by simp [T753]
theorem zw54:T753 82 = .pure cEnR:=by simp [T753]
theorem zas3:T753.Sound P:=z0rp z03l (z0rp z2rm zr5o)
def pI (p:Nat):Int:=(p:Int)-1
theorem pI_0:pI 0 = -1:=rfl
theorem pI_s {j:Nat}:pI (j+1)=j:=by unfold pI; omega
def iV (L:List Fct):DV:=if L=[] then .nils else .ms 3 (L.length*71) 0 71 L.length (L.length*71)
def iH (q:Req) (B:Sup) (L:List Fct):List AObj := .cells (rqC q) :: .cells su0 :: .cells (suC B)::(if L=[] then [] else [.cells (fl faC L)])
theorem zh4s {L:List Fct} (h:L≠[]):iV L = .ms 3 (L.length*71) 0 71 L.length (L.length*71):=if_neg h
theorem zic2 {q:Req} {B:Sup} {L:List Fct} (h:L≠[]):iH q B L=[.cells (rqC q),.cells su0,.cells (suC B),.cells (fl faC L)]:=by rw [iH,if_neg h]
structure LfP where
 p:Nat
 B:Sup
def S753 (x:Sl Fct) (q:Req) (i:Nat):St:=zphm (x.dv 71 faC) (.mp 0 4 0) (.mp 1 3 0) ((unR nilS ((tgS x.l).take i)).dv 32 dgC) (.int .i64 i) [.cells (rqC q),.cells su0]
def S754 (x:Sl Fct) (q:Req) (Y:Sl Dg) (a:LfP):St:=z9kw (x.dv 71 faC) (.mp 0 4 0) (.mp 1 3 0) (Y.dv 32 dgC) (.mp 2 3 0) (.int .i64 (pI a.p)) [.cells (rqC q),.cells su0,.cells (suC a.B)]
def S755 (x:Sl Fct) (q:Req) (Y:Sl Dg) (B:Sup) (j:Nat) (d:Dg) (k:Nat):St:=zftw (x.dv 71 faC) (.mp 0 4 0) (.mp 1 3 0) (Y.dv 32 dgC) (.mp 2 3 0) (.int .i64 j) (iV (ofL (x.l.take k) d)) (.int .i64 k) (iH q B (ofL (x.l.take k) d))
def LfT:ACode:=match z0e6 with
 | .seq _ (.seq (.block _ (.seq _ (.seq _ y))) _)=>y
 | _ => .skip
def LfR:ACode:=match z0e6 with
 | .seq _ (.seq _ y)=>y
 | _ => .skip
def lfI (x:Sl Fct) (q:Req) (Y:Sl Dg) (a:LfP):Prop:=a.p≤Y.l.length∧a.B=(Y.l.drop a.p).foldr (fun d b=>zqxa x.l q.n b d) (zcc9 q.n)
theorem zj26 {x A:Sl Fct} {q:Req} {Y:Sl Dg} {B S N:Sup} {j:Nat} (hc:cEnR [A.dv 71 faC,.int .i64 q.n]=some (.agg (suC S))) (hj:j<Y.l.length)
  (hN:(if S.holds||(!B.holds&&decide (S.missing<B.missing)) then S else B)=N) (hi:lfI x q Y ⟨j,N⟩) {Φ0:AExit→St→Prop} :
  V P 0 LfT (z0mx 3 (z2pk P 0 LfR (z13e 0 (S754 x q Y) (fun a=>a.p) (lfI x q Y) ⟨j+1,B⟩ Φ0)))
   ⟨[x.dv 71 faC,.junk,.junk,.mp 0 4 0,.mp 1 3 0,Y.dv 32 dgC,.junk,.mp 2 3 0,.int .i64 j,A.dv 71 faC]++js 68,[.cells (rqC q),.cells su0,.cells (suC B)]⟩:=by
 have hb:=Y.b
 have hw1:IntKind.i64.wrap ((j:Int)-1)=j-1:=by rw [IntKind.wrap_i64]; omega
 have fin : ∀ X:Sup,X=N→V P 0 LfR (z13e 0 (S754 x q Y) (fun a=>a.p) (lfI x q Y) ⟨j+1,B⟩ Φ0) ⟨[x.dv 71 faC,.junk,.junk,.mp 0 4 0,.mp 1 3 0,Y.dv 32 dgC,.junk,.mp 2 3 0,.int .i64 j]++js 69,[.cells (rqC q),.cells su0,.cells (suC X),.cells (suC S)]⟩:=fun X e=>by
  subst e
  simp only [LfR,z0e6]
  refine V_W mix zas3 ?_
  simp (disch:=first|omega|simp<;>omega|fail) [-zA,-zB,-zC,-zD,-zE,hw1]
  exact ⟨⟨j,X⟩,zju2 (tail:=[.cells (suC S)]) (by simp (disch:=first|omega|simp<;>omega|fail) [-zA,-zB,-zC,-zD,-zE,S754,z9kw,pI]) (by simp (disch:=first|omega|simp<;>omega|fail) [-zA,-zB,-zC,-zD,-zE,S754,z9kw]) (by simp) (by simp (disch:=first|omega|simp<;>omega|fail) [-zA,-zB,-zC,-zD,-zE,S754,z9kw,z1r6,Am.below]) (by simp (disch:=first|omega|simp<;>omega|fail) [-zA,-zB,-zC,-zD,-zE,S754,z9kw,zlf2,zljy,zj4t,z1r6,Am.below,su0]),by simp only; omega,hi⟩
 simp only [LfT,z0e6]
 refine V_W mix zas3 ?_
 cases g1:S.holds with
 | true =>
  rw [g1] at hN
  simp (disch:=first|omega|simp<;>omega|fail) [-zA,-zB,-zC,-zD,-zE,zw54,hc,z559,z438,g1]
  exact zqfd (z515 (by simp (disch:=first|omega|simp<;>omega|fail) [-zA,-zB,-zC,-zD,-zE]) (by simp (disch:=first|omega|simp<;>omega|fail) [-zA,-zB,-zC,-zD,-zE])) (fin S hN)
 | false =>
  cases g2:B.holds with
  | true =>
   rw [g1,g2] at hN
   simp (disch:=first|omega|simp<;>omega|fail) [-zA,-zB,-zC,-zD,-zE,zw54,hc,z559,z438,g1,g2]
   exact zqfd (z515 (by simp (disch:=first|omega|simp<;>omega|fail) [-zA,-zB,-zC,-zD,-zE]) (by simp (disch:=first|omega|simp<;>omega|fail) [-zA,-zB,-zC,-zD,-zE])) (fin B hN)
  | false =>
   by_cases g3:S.missing<B.missing
   ·rw [g1,g2,decide_eq_true g3] at hN
    simp (disch:=first|omega|simp<;>omega|fail) [-zA,-zB,-zC,-zD,-zE,zw54,hc,z559,z438,g1,g2,g3]
    exact zqfd (z515 (by simp (disch:=first|omega|simp<;>omega|fail) [-zA,-zB,-zC,-zD,-zE]) (by simp (disch:=first|omega|simp<;>omega|fail) [-zA,-zB,-zC,-zD,-zE])) (fin S hN)
   ·rw [g1,g2,decide_eq_false g3] at hN
    simp (disch:=first|omega|simp<;>omega|fail) [-zA,-zB,-zC,-zD,-zE,zw54,hc,z559,z438,g1,g2,g3]
    exact zqfd (z515 (by simp (disch:=first|omega|simp<;>omega|fail) [-zA,-zB,-zC,-zD,-zE]) (by simp (disch:=first|omega|simp<;>omega|fail) [-zA,-zB,-zC,-zD,-zE])) (fin B hN)
theorem zstw (x:Sl Fct) (q:Req) (ok:RfOK x.l) (hq : -1000000≤q.n∧q.n≤1000000):V P 0 a84.code (retK a84.res (.agg (suC (zu6h x.l q.n)))) ⟨zr5g a84.ntmps [x.dv 71 faC,.agg (rqC q)],[]⟩:=by
 have hxn:=ok.n
 have htl:(tgS x.l).length=x.l.length:=by simp [tgS]
 obtain ⟨R,hR⟩ : ∃ R,zu6h x.l q.n=R:=⟨_,rfl⟩
 rw [hR]
 refine zbn1 (V_W mix zas3 ?_)
 simp (disch:=first|omega|simp<;>omega|fail) [-zA,-zB,-zC,-zD,-zE,a84]
 refine zbn1 (V_W mix zas3 ?_)
 simp (disch:=first|omega|simp<;>omega|fail) [-zA,-zB,-zC,-zD,-zE]
 refine zbn1 (V_W mix zas3 ?_)
 simp (disch:=first|omega|simp<;>omega|fail) [-zA,-zB,-zC,-zD,-zE]
 refine zlm5 (S753 x q) (fun i=>x.l.length-i) (fun i=>i≤x.l.length) 0 (z515 (by simp (disch:=first|omega|simp<;>omega|fail) [-zA,-zB,-zC,-zD,-zE,S753,zphm,unR,z68u]) (by simp (disch:=first|omega|simp<;>omega|fail) [-zA,-zB,-zC,-zD,-zE,S753,zphm,su0])) (by omega) (fun i hi => ?_)
 simp only [S753]
 by_cases h:i<x.l.length
 ·have h':(i:Int)<x.l.length:=by omega
  have hg : ∀ H,zpsc H 71 (x.dv 71 faC) i=some (.ref (faC x.l[i])):=fun H=>zalo zs77 h
  obtain ⟨F,hF⟩ : ∃ F,x.l[i]=F:=⟨_,rfl⟩
  have ht:(tgS x.l).take (i+1)=(tgS x.l).take i++[F.tgt]:=by
   rw [List.take_succ_eq_append_getElem (by omega)]; simp [tgS,hF]
  have hs:unR nilS ((tgS x.l).take (i+1))=addF (unR nilS ((tgS x.l).take i)) F.tgt:=by rw [ht,zu06]; rfl
  have hb:(unR nilS ((tgS x.l).take i)).l.length≤1000000:=by
   have h1:((tgS x.l).take i).length≤100:=by rw [List.length_take]; omega
   rw [zptr _ _ (by simp [zb11]; omega)]
   have:=z8bn (nilS:Sl Dg).l ((tgS x.l).take i)
   simp only [zb11,List.length_nil] at this ⊢
   omega
  have hc:=zbsz (x:=unR nilS ((tgS x.l).take i)) (d:=F.tgt) hb
  rw [← hs] at hc
  rw [hF] at hg
  obtain ⟨A,hA⟩ : ∃ A,unR nilS ((tgS x.l).take i)=A:=⟨_,rfl⟩
  rw [hA] at hc ⊢
  simp (disch:=first|omega|simp<;>omega|fail) [-zA,-zB,-zC,-zD,-zE,zvoz,zphm,h,h',hg,zo2o,hc]
  exact ⟨i+1,z515 (by simp (disch:=first|omega|simp<;>omega|fail) [-zA,-zB,-zC,-zD,-zE,S753,zphm]) (by simp (disch:=first|omega|simp<;>omega|fail) [-zA,-zB,-zC,-zD,-zE,S753,zphm]),by omega,by omega⟩
 have h':¬ (i:Int)<x.l.length:=by omega
 rw [List.take_of_length_le (show (tgS x.l).length≤i by omega)]
 have hYl:(unR nilS (tgS x.l)).l=dgsU (tgS x.l):=by rw [zptr _ _ (by simp [zb11]; omega)]; rfl
 have hYn:(dgsU (tgS x.l)).length≤100:=by have:=zsv6 (lt:=dgLt) (tgS x.l); unfold dgsU; omega
 obtain ⟨Y,hY⟩ : ∃ Y,unR nilS (tgS x.l)=Y:=⟨_,rfl⟩
 rw [hY] at hYl ⊢
 rw [← hYl] at hYn
 have hR:Y.l.foldr (fun d b=>zqxa x.l q.n b d) (zcc9 q.n)=R:=by rw [← hR,hYl]; rfl
 have hlY : ∀ H,lenD H (Y.dv 32 dgC)=some (.int .i64 Y.l.length):=fun H=>zupj
 simp (disch:=first|omega|simp<;>omega|fail) [-zA,-zB,-zC,-zD,-zE,zvoz,zphm,h,h']
 refine zbn1 (V_W mix zas3 ?_)
 simp (disch:=first|omega|simp<;>omega|fail) [-zA,-zB,-zC,-zD,-zE,ze83,z559]
 refine zbn1 (zbn1 (V_W mix zas3 ?_))
 have hw0:IntKind.i64.wrap ((Y.l.length:Int)-1)=pI Y.l.length:=by unfold pI; rw [IntKind.wrap_i64]; omega
 simp (disch:=first|omega|simp<;>omega|fail) [-zA,-zB,-zC,-zD,-zE,hlY,hw0]
 refine z3mo (ztbr (S754 x q Y) (fun a=>a.p) (lfI x q Y) ⟨Y.l.length,zcc9 q.n⟩ (z515 (by simp (disch:=first|omega|simp<;>omega|fail) [-zA,-zB,-zC,-zD,-zE,S754,z9kw]) (by simp (disch:=first|omega|simp<;>omega|fail) [-zA,-zB,-zC,-zD,-zE,S754,z9kw])) ⟨Nat.le_refl _,by simp⟩ (fun a ha => ?_))
 obtain ⟨p,B⟩:=a
 obtain ⟨hp,hB⟩:=ha
 simp only at hp hB
 simp only [S754]
 cases p with
 | zero =>
  rw [List.drop_zero,hR] at hB
  subst hB
  rw [pI_0]
  refine zbn1 (V_W mix zas3 ?_)
  simp (disch:=first|omega|simp<;>omega|fail) [-zA,-zB,-zC,-zD,-zE,z0e6,z9kw]
  refine V_W mix zas3 ?_
  simp (disch:=first|omega|simp<;>omega|fail) [-zA,-zB,-zC,-zD,-zE,z23v]
 | succ j =>
  have hjl:j<Y.l.length:=by omega
  have hg : ∀ H,zpsc H 32 (Y.dv 32 dgC) j=some (.ref (dgC Y.l[j])):=fun H=>zalo z1t1 hjl
  obtain ⟨d,hd⟩ : ∃ d,Y.l[j]=d:=⟨_,rfl⟩
  have hdr:(Y.l.drop j).foldr (fun d b=>zqxa x.l q.n b d) (zcc9 q.n)=zqxa x.l q.n ((Y.l.drop (j+1)).foldr (fun d b=>zqxa x.l q.n b d) (zcc9 q.n)) d:=by
   rw [List.drop_eq_getElem_cons hjl,hd]; rfl
  rw [hd] at hg
  rw [pI_s]
  have hw1:IntKind.i64.wrap ((j:Int)-1)=j-1:=by rw [IntKind.wrap_i64]; omega
  refine zbn1 (V_W mix zas3 ?_)
  simp (disch:=first|omega|simp<;>omega|fail) [-zA,-zB,-zC,-zD,-zE,z0e6,z9kw]
  refine zbn1 (z3mo (zbn1 (V_W mix zas3 ?_)))
  simp (disch:=first|omega|simp<;>omega|fail) [-zA,-zB,-zC,-zD,-zE]
  refine zbn1 (V_W mix zas3 ?_)
  simp (disch:=first|omega|simp<;>omega|fail) [-zA,-zB,-zC,-zD,-zE]
  refine zlm5 (S755 x q Y B j d) (fun k=>x.l.length-k) (fun k=>k≤x.l.length) 0 (z515 (by simp (disch:=first|omega|simp<;>omega|fail) [-zA,-zB,-zC,-zD,-zE,S755,zftw,ofL,iV]) (by simp (disch:=first|omega|simp<;>omega|fail) [-zA,-zB,-zC,-zD,-zE,S755,zftw,ofL,iH])) (by omega) (fun k hk => ?_)
  simp only [S755]
  by_cases c:k<x.l.length
  ·have c':(k:Int)<x.l.length:=by omega
   have hgF : ∀ H,zpsc H 71 (x.dv 71 faC) k=some (.ref (faC x.l[k])):=fun H=>zalo zs77 c
   obtain ⟨F,hF⟩ : ∃ F,x.l[k]=F:=⟨_,rfl⟩
   have hs:=z4ws (m:=x.l.take k) (f:=F) (d:=d)
   rw [← hF,← List.take_succ_eq_append_getElem c,hF] at hs
   rw [hF] at hgF
   have hlen:(ofL (x.l.take k) d).length≤k:=by
    have:=List.length_filter_le (fun f:Fct=>decide (f.tgt=d)) (x.l.take k)
    rw [List.length_take] at this; unfold ofL; omega
   obtain ⟨L,hL⟩ : ∃ L,ofL (x.l.take k) d=L:=⟨_,rfl⟩
   rw [hL] at hs hlen ⊢
   have hvF : ∀ H,visY H (.sl true 71 1 (faC F))=some (1,faC F):=fun H=>by simp [visY,zs77]
   by_cases hm:F.tgt=d
   ·rw [if_pos hm] at hs
    have e1:=zh4s (L:=L++[F]) (by simp)
    have e2:=zic2 (q:=q) (B:=B) (L:=L++[F]) (by simp)
    rw [List.length_append,List.length_singleton] at e1
    by_cases e:L=[]
    ·subst e
     have q1:iV [] = .nils:=rfl
     have q2:iH q B []=[.cells (rqC q),.cells su0,.cells (suC B)]:=rfl
     have hap:=zsuq (h:=[AObj.cells (rqC q),.cells su0,.cells (suC B)]) (s:=71) (b:=160) (m:=1) (cs:=faC F) (by decide) (by decide) (by rw [zs77]) (by decide) (by decide)
     simp only [zs77,List.length_cons,List.length_nil,Nat.zero_add] at hap
     have hs:ofL (x.l.take (k+1)) d=[F]:=hs
     have e1:iV [F] = .ms 3 71 0 71 1 71:=rfl
     have e2:iH q B [F]=[.cells (rqC q),.cells su0,.cells (suC B),.cells (faC F)]:=by rw [zic2 (by simp),z4hs]
     simp (disch:=first|omega|simp<;>omega|fail) [-zA,-zB,-zC,-zD,-zE,z0jx,zftw,c,c',hgF,hg,q1,q2,hm,zw6t,hvF,hap]
     exact ⟨k+1,z515 (by simp (disch:=first|omega|simp<;>omega|fail) [-zA,-zB,-zC,-zD,-zE,S755,zftw,hs,e1]) (by simp (disch:=first|omega|simp<;>omega|fail) [-zA,-zB,-zC,-zD,-zE,S755,zftw,hs,e2]),by omega,by omega⟩
    ·have q1:=zh4s e
     have q2:=zic2 (q:=q) (B:=B) e
     have hap:=zkg3 (h:=[AObj.cells (rqC q),.cells su0,.cells (suC B),.cells (fl faC L)]) (id:=3) (b:=160) (l:=L) (x:=F) zs77 (by decide) (by decide) (fun _=>zfgo) (by omega) (by simp [objV,ziu0,z8lx zs77])
     simp (disch:=first|omega|simp<;>omega|fail) [-zA,-zB,-zC,-zD,-zE,z0jx,zftw,c,c',hgF,hg,q1,q2,hm,zw6t,hvF,hap]
     exact ⟨k+1,z515 (by simp (disch:=first|omega|simp<;>omega|fail) [-zA,-zB,-zC,-zD,-zE,S755,zftw,hs,e1]) (by simp (disch:=first|omega|simp<;>omega|fail) [-zA,-zB,-zC,-zD,-zE,S755,zftw,hs,e2]),by omega,by omega⟩
   ·rw [if_neg hm,List.append_nil] at hs
    by_cases e:L=[]
    ·subst e
     have q1:iV [] = .nils:=rfl
     have q2:iH q B []=[.cells (rqC q),.cells su0,.cells (suC B)]:=rfl
     simp (disch:=first|omega|simp<;>omega|fail) [-zA,-zB,-zC,-zD,-zE,z0jx,zftw,c,c',hgF,hg,q1,q2,hm]
     exact ⟨k+1,z515 (by simp (disch:=first|omega|simp<;>omega|fail) [-zA,-zB,-zC,-zD,-zE,S755,zftw,hs,q1]) (by simp (disch:=first|omega|simp<;>omega|fail) [-zA,-zB,-zC,-zD,-zE,S755,zftw,hs,q2]),by omega,by omega⟩
    ·have q1:=zh4s e
     have q2:=zic2 (q:=q) (B:=B) e
     simp (disch:=first|omega|simp<;>omega|fail) [-zA,-zB,-zC,-zD,-zE,z0jx,zftw,c,c',hgF,hg,q1,q2,hm]
     exact ⟨k+1,z515 (by simp (disch:=first|omega|simp<;>omega|fail) [-zA,-zB,-zC,-zD,-zE,S755,zftw,hs,q1]) (by simp (disch:=first|omega|simp<;>omega|fail) [-zA,-zB,-zC,-zD,-zE,S755,zftw,hs,q2]),by omega,by omega⟩
  have c':¬ (k:Int)<x.l.length:=by omega
  rw [List.take_of_length_le (show x.l.length≤k by omega)]
  have hao:=z5be (d:=d) ok
  have hown:(ownN (ofL x.l d)).l=ofL x.l d:=zd8n (by have:=hao.n; omega)
  have hc:=zdqm (x:=ownN (ofL x.l d)) (n:=q.n) (by rw [hown]; exact hao) (by omega) (by omega)
  rw [hown] at hc
  obtain ⟨S,hS⟩ : ∃ S,z0l6 (ofL x.l d) q.n=S:=⟨_,rfl⟩
  rw [hS] at hc
  obtain ⟨L,hL⟩ : ∃ L,ofL x.l d=L:=⟨_,rfl⟩
  rw [hL] at hc ⊢
  have hT:=fun Φ0=>zj26 (Φ0:=Φ0) (x:=x) (Y:=Y) (B:=B) (N:=zqxa x.l q.n B d) hc hjl (by unfold zqxa; rw [hS]) ⟨by simp only; omega,by simp only; rw [hdr,← hB]⟩
  by_cases e:L=[]
  ·subst e
   have q1:iV [] = .nils:=rfl
   have q2:iH q B []=[.cells (rqC q),.cells su0,.cells (suC B)]:=rfl
   simp (disch:=first|omega|simp<;>omega|fail) [-zA,-zB,-zC,-zD,-zE,z0jx,zftw,c,c',q1,q2]
   exact zqfd (z515 (by simp (disch:=first|omega|simp<;>omega|fail) [-zA,-zB,-zC,-zD,-zE,z2i7]) (by simp (disch:=first|omega|simp<;>omega|fail) [-zA,-zB,-zC,-zD,-zE])) (hT _)
  ·have q1:=zh4s e
   have q2:=zic2 (q:=q) (B:=B) e
   have hlb:L.length≤100:=by rw [← hL]; exact hao.n
   have hfl:(fl faC L).length=L.length*71:=z8lx zs77 L
   have htk:(fl faC L).take (L.length*71)=L.flatMap faC:=List.take_of_length_le (by omega)
   have hpu:=zp6k z93p L
   simp (disch:=first|omega|simp<;>omega|fail) [-zA,-zB,-zC,-zD,-zE,z0jx,zftw,c,c',q1,q2]
   refine V_mk (fun id=>decide (id<3)) ?_
   simp (disch:=first|omega|simp<;>omega|fail) [-zA,-zB,-zC,-zD,-zE,hfl,htk,hpu]
   exact zqfd (zju2 (tail:=[.dead]) (by simp (disch:=first|omega|simp<;>omega|fail) [-zA,-zB,-zC,-zD,-zE,zgr3 e (show L.length≤4294967296 by omega)]) (by simp (disch:=first|omega|simp<;>omega|fail) [-zA,-zB,-zC,-zD,-zE]) (by simp) (by simp (disch:=first|omega|simp<;>omega|fail) [-zA,-zB,-zC,-zD,-zE,z1r6,Am.below,zgr3 e (show L.length≤4294967296 by omega),zmq5 _ _ hpu,z8b8 _ _ (zacf x)]) (by simp (disch:=first|omega|simp<;>omega|fail) [-zA,-zB,-zC,-zD,-zE,zlf2,zljy,zj4t,z1r6,Am.below,su0])) (hT _)
noncomputable def cLiR:List DV→Option DV:=con (fun a:Sl Fct × Req=>RfOK a.1.l ∧ -1000000≤a.2.n∧a.2.n≤1000000) (fun a=>[a.1.dv 71 faC,.agg (rqC a.2)]) (fun a => .agg (suC (zu6h a.1.l a.2.n)))
theorem z3mz {x:Sl Fct} {q:Req} (h:RfOK x.l) (h1 : -1000000≤q.n) (h2:q.n≤1000000):cLiR [x.dv 71 faC,.agg (rqC q)]=some (.agg (suC (zu6h x.l q.n))) :=
 zlyi (A:=fun a:Sl Fct × Req=>RfOK a.1.l ∧ -1000000≤a.2.n∧a.2.n≤1000000) (f:=fun a:Sl Fct × Req=>[a.1.dv 71 faC,.agg (rqC a.2)]) (g:=fun a => .agg (suC (zu6h a.1.l a.2.n))) (by
  rintro ⟨a,b⟩ ⟨a',b'⟩ e
  simp only [List.cons.injEq,DV.agg.injEq,and_true] at e
  rw [z4rf e.1,z82b e.2]) (x,q) ⟨h,h1,h2⟩
theorem zf9c:(Con.pure cLiR).Sound P 84:=z2au fun a h=>znz9 Tryz.func84 z3cy (zstw a.1 a.2 h.1 h.2)
end Go.Proofs.YtdnhbfmlklaldaaGreat
set_option linter.unusedSimpArgs false
set_option linter.unusedVariables false
namespace Go.Proofs.YtdnhbfmlklaldaaGreat
open Go Go.Am
def S760 (x y:Sl Dg) (i:Nat):St:=zuzy (x.dv 32 dgC) (y.dv 32 dgC) (.int .i64 i) []
theorem zwwh (x y:Sl Dg) (h:x.l=y.l):Runs tbl0 a40 [x.dv 32 dgC,y.dv 32 dgC] (.bool true):=by
 refine ⟨?_⟩
 have hb:=x.b
 have hlx : ∀ H,lenD H (x.dv 32 dgC)=some (.int .i64 x.l.length):=fun H=>zupj
 have hly : ∀ H,lenD H (y.dv 32 dgC)=some (.int .i64 x.l.length):=fun H=>by rw [zupj,← h]
 simp (disch:=first|omega|simp<;>omega|fail) [-zA,-zB,-zC,-zD,-zE,a40,hlx,hly]
 refine zlm5 (S760 x y) (fun i=>x.l.length-i) (fun i=>i≤x.l.length) 0 (z515 (by simp (disch:=first|omega|simp<;>omega|fail) [-zA,-zB,-zC,-zD,-zE,S760,zuzy]) (by simp (disch:=first|omega|simp<;>omega|fail) [-zA,-zB,-zC,-zD,-zE,S760,zuzy])) (by omega) (fun i hi => ?_)
 simp only [S760]
 by_cases g:i<x.l.length
 ·have g':(i:Int)<x.l.length:=by omega
  have hx : ∀ H,zpsc H 32 (x.dv 32 dgC) i=some (.ref (dgC x.l[i])):=fun H=>zalo z1t1 g
  have gy:i<y.l.length:=by rw [← h]; exact g
  have hy : ∀ H,zpsc H 32 (y.dv 32 dgC) i=some (.ref (dgC y.l[i])):=fun H=>zalo z1t1 gy
  have he:y.l[i]=x.l[i]:=by simp only [h]
  rw [he] at hy
  obtain ⟨d,hd⟩ : ∃ d,x.l[i]=d:=⟨_,rfl⟩
  rw [hd] at hx hy
  simp (disch:=first|omega|simp<;>omega|fail) [-zA,-zB,-zC,-zD,-zE,z1eu,zuzy,g,g',hx,hy,hlx]
  exact ⟨i+1,z515 (by simp (disch:=first|omega|simp<;>omega|fail) [-zA,-zB,-zC,-zD,-zE,S760,zuzy]) (by simp (disch:=first|omega|simp<;>omega|fail) [-zA,-zB,-zC,-zD,-zE,S760,zuzy]),by omega,by omega⟩
 ·have g':¬ (i:Int)<x.l.length:=by omega
  simp (disch:=first|omega|simp<;>omega|fail) [-zA,-zB,-zC,-zD,-zE,z1eu,zuzy,g,g',hlx]
noncomputable def cSam:List DV→Option DV:=con (fun a:Sl Dg × Sl Dg=>a.1.l=a.2.l) (fun a=>[a.1.dv 32 dgC,a.2.dv 32 dgC]) (fun _ => .bool true)
theorem zhop {x y:Sl Dg} (h:x.l=y.l):cSam [x.dv 32 dgC,y.dv 32 dgC]=some (.bool true) :=
 zlyi (A:=fun a:Sl Dg × Sl Dg=>a.1.l=a.2.l) (f:=fun a:Sl Dg × Sl Dg=>[a.1.dv 32 dgC,a.2.dv 32 dgC]) (g:=fun _ => .bool true) (fun _ _ _=>rfl) (x,y) h
theorem zwdr:(Con.pure cSam).Sound P 40:=z2au fun a h=>zljw mix zr5o Tryz.func40 zn9f (zwwh a.1 a.2 h)
noncomputable def T760:Tbl:=addT 40 (.pure cSam) tbl0
theorem ztio:T760 40 = .pure cSam:=by simp [T760]
theorem zr6f:T760.Sound P:=z0rp zwdr zr5o
structure SupEq (a b:Sup):Prop where
 h:a.holds=b.holds
 d:a.docs.l=b.docs.l
 m:a.missing=b.missing
theorem zmmb (a b:Sup) (e:SupEq a b):Runs T760 a19 [.agg (suC a),.agg (suC b)] (.bool true):=by
 refine ⟨?_⟩
 have hc:=zhop (x:=a.docs) (y:=b.docs) e.d
 have h1:=e.h
 have h2:=e.m
 cases h3:b.holds with
 | false =>
  rw [h3] at h1
  simp (disch:=first|omega|simp<;>omega|fail) [-zA,-zB,-zC,-zD,-zE,a19,ztio,hc,h1,h2,h3]
 | true =>
  rw [h3] at h1
  simp (disch:=first|omega|simp<;>omega|fail) [-zA,-zB,-zC,-zD,-zE,a19,ztio,hc,h1,h2,h3]
noncomputable def cSSu:List DV→Option DV:=con (fun a:Sup × Sup=>SupEq a.1 a.2) (fun a=>[.agg (suC a.1),.agg (suC a.2)]) (fun _ => .bool true)
theorem z2c9 {a b:Sup} (h:SupEq a b):cSSu [.agg (suC a),.agg (suC b)]=some (.bool true) :=
 zlyi (A:=fun a:Sup × Sup=>SupEq a.1 a.2) (f:=fun a:Sup × Sup=>[.agg (suC a.1),.agg (suC a.2)]) (g:=fun _ => .bool true) (fun _ _ _=>rfl) (a,b) h
theorem zvej:(Con.pure cSSu).Sound P 19:=z2au fun a h=>zljw mix zr6f Tryz.func19 zlqi (zmmb a.1 a.2 h)
def S761 (x y:Sl Org) (i:Nat):St:=zhcc (x.dv 34 orC) (y.dv 34 orC) (.int .i64 i) []
theorem z0di (x y:Sl Org) (h:x.l=y.l):Runs tbl0 a17 [x.dv 34 orC,y.dv 34 orC] (.bool true):=by
 refine ⟨?_⟩
 have hb:=x.b
 have hlx : ∀ H,lenD H (x.dv 34 orC)=some (.int .i64 x.l.length):=fun H=>zupj
 have hly : ∀ H,lenD H (y.dv 34 orC)=some (.int .i64 x.l.length):=fun H=>by rw [zupj,← h]
 simp (disch:=first|omega|simp<;>omega|fail) [-zA,-zB,-zC,-zD,-zE,a17,hlx,hly]
 refine zlm5 (S761 x y) (fun i=>x.l.length-i) (fun i=>i≤x.l.length) 0 (z515 (by simp (disch:=first|omega|simp<;>omega|fail) [-zA,-zB,-zC,-zD,-zE,S761,zhcc]) (by simp (disch:=first|omega|simp<;>omega|fail) [-zA,-zB,-zC,-zD,-zE,S761,zhcc])) (by omega) (fun i hi => ?_)
 simp only [S761]
 by_cases g:i<x.l.length
 ·have g':(i:Int)<x.l.length:=by omega
  have hx : ∀ H,zpsc H 34 (x.dv 34 orC) i=some (.ref (orC x.l[i])):=fun H=>zalo zu78 g
  have gy:i<y.l.length:=by rw [← h]; exact g
  have hy : ∀ H,zpsc H 34 (y.dv 34 orC) i=some (.ref (orC y.l[i])):=fun H=>zalo zu78 gy
  have he:y.l[i]=x.l[i]:=by simp only [h]
  rw [he] at hy
  obtain ⟨d,hd⟩ : ∃ d,x.l[i]=d:=⟨_,rfl⟩
  rw [hd] at hx hy
  simp (disch:=first|omega|simp<;>omega|fail) [-zA,-zB,-zC,-zD,-zE,z4pl,zhcc,g,g',hx,hy,hlx]
  exact ⟨i+1,z515 (by simp (disch:=first|omega|simp<;>omega|fail) [-zA,-zB,-zC,-zD,-zE,S761,zhcc]) (by simp (disch:=first|omega|simp<;>omega|fail) [-zA,-zB,-zC,-zD,-zE,S761,zhcc]),by omega,by omega⟩
 ·have g':¬ (i:Int)<x.l.length:=by omega
  simp (disch:=first|omega|simp<;>omega|fail) [-zA,-zB,-zC,-zD,-zE,z4pl,zhcc,g,g',hlx]
noncomputable def cSOr:List DV→Option DV:=con (fun a:Sl Org × Sl Org=>a.1.l=a.2.l) (fun a=>[a.1.dv 34 orC,a.2.dv 34 orC]) (fun _ => .bool true)
theorem zcdg {x y:Sl Org} (h:x.l=y.l):cSOr [x.dv 34 orC,y.dv 34 orC]=some (.bool true) :=
 zlyi (A:=fun a:Sl Org × Sl Org=>a.1.l=a.2.l) (f:=fun a:Sl Org × Sl Org=>[a.1.dv 34 orC,a.2.dv 34 orC]) (g:=fun _ => .bool true) (fun _ _ _=>rfl) (x,y) h
theorem z53h:(Con.pure cSOr).Sound P 17:=z2au fun a h=>zljw mix zr5o Tryz.func17 zcaf (z0di a.1 a.2 h)
noncomputable def T762:Tbl:=addT 30 (.pure cHas) tbl0
theorem z1p9:T762 30 = .pure cHas:=by simp [T762]
theorem zeqm:T762.Sound P:=z0rp zi6e zr5o
def S762 (x y:Sl Dg) (i:Nat):St:=zv4w (x.dv 32 dgC) (y.dv 32 dgC) (.int .i64 i) []
theorem zaf1 (x y:Sl Dg):Runs T762 a52 [x.dv 32 dgC,y.dv 32 dgC] (.bool (subB x.l y.l)):=by
 refine ⟨?_⟩
 have hb:=x.b
 have hlx : ∀ H,lenD H (x.dv 32 dgC)=some (.int .i64 x.l.length):=fun H=>zupj
 simp (disch:=first|omega|simp<;>omega|fail) [-zA,-zB,-zC,-zD,-zE,a52]
 refine zlm5 (S762 x y) (fun i=>x.l.length-i) (fun i=>i≤x.l.length ∧ ∀ j (hj:j<x.l.length),j<i→x.l[j] ∈ y.l) 0 (z515 (by simp (disch:=first|omega|simp<;>omega|fail) [-zA,-zB,-zC,-zD,-zE,S762,zv4w]) (by simp (disch:=first|omega|simp<;>omega|fail) [-zA,-zB,-zC,-zD,-zE,S762,zv4w])) ⟨by omega,fun j _ hj=>by omega⟩ (fun i hi => ?_)
 obtain ⟨h1,h2⟩:=hi
 simp only [S762]
 by_cases g:i<x.l.length
 ·have g':(i:Int)<x.l.length:=by omega
  have hx : ∀ H,zpsc H 32 (x.dv 32 dgC) i=some (.ref (dgC x.l[i])):=fun H=>zalo z1t1 g
  have hc:=zqi6 (x:=y) (d:=x.l[i])
  by_cases e:x.l[i] ∈ y.l
  ·have hinv : ∀ j (hj:j<x.l.length),j<i+1→x.l[j] ∈ y.l:=fun j hj hji=>by
    by_cases ej:j=i
    ·subst ej; exact e
    ·exact h2 j hj (by omega)
   obtain ⟨d,hd⟩ : ∃ d,x.l[i]=d:=⟨_,rfl⟩
   rw [hd] at hx hc e
   simp (disch:=first|omega|simp<;>omega|fail) [-zA,-zB,-zC,-zD,-zE,z5oa,zv4w,g,g',hx,hlx,z1p9,hc,e]
   exact ⟨i+1,z515 (by simp (disch:=first|omega|simp<;>omega|fail) [-zA,-zB,-zC,-zD,-zE,S762,zv4w]) (by simp (disch:=first|omega|simp<;>omega|fail) [-zA,-zB,-zC,-zD,-zE,S762,zv4w]),by omega,by omega,hinv⟩
  ·have hr:subB x.l y.l=false:=by
    unfold subB
    rw [List.all_eq_false]
    exact ⟨x.l[i],List.getElem_mem g,by simpa using e⟩
   obtain ⟨d,hd⟩ : ∃ d,x.l[i]=d:=⟨_,rfl⟩
   rw [hd] at hx hc e
   simp (disch:=first|omega|simp<;>omega|fail) [-zA,-zB,-zC,-zD,-zE,z5oa,zv4w,g,g',hx,hlx,z1p9,hc,e,hr]
 ·have g':¬ (i:Int)<x.l.length:=by omega
  have hr:subB x.l y.l=true:=by
   unfold subB
   rw [List.all_eq_true]
   intro d hd
   obtain ⟨j,hj,e⟩:=List.getElem_of_mem hd
   have:=h2 j hj (by omega)
   rw [e] at this; simpa using this
  simp (disch:=first|omega|simp<;>omega|fail) [-zA,-zB,-zC,-zD,-zE,z5oa,zv4w,g,g',hlx,hr]
noncomputable def cWiR:List DV→Option DV:=con (fun _=>True) (fun a:Sl Dg × Sl Dg=>[a.1.dv 32 dgC,a.2.dv 32 dgC]) (fun a => .bool (subB a.1.l a.2.l))
theorem zbbs {x y:Sl Dg}:cWiR [x.dv 32 dgC,y.dv 32 dgC]=some (.bool (subB x.l y.l)) :=
 zsn4 (f:=fun a:Sl Dg × Sl Dg=>[a.1.dv 32 dgC,a.2.dv 32 dgC]) (g:=fun a => .bool (subB a.1.l a.2.l)) (by
  rintro ⟨a,b⟩ ⟨c,d⟩ e
  simp only [List.cons.injEq,and_true] at e
  rw [z42k e.1,z42k e.2]) (x,y)
theorem ziub:(Con.pure cWiR).Sound P 52:=z2au fun a _=>zljw mix zeqm Tryz.func52 zil0 (zaf1 a.1 a.2)
end Go.Proofs.YtdnhbfmlklaldaaGreat
set_option linter.unusedSimpArgs false
set_option linter.unusedVariables false
namespace Go.Proofs.YtdnhbfmlklaldaaGreat
open Go Go.Am
theorem zx8y (f:Fnd):Runs tbl0 a91 [.agg (fnC f)] (.bool (zk2r f)):=by
 refine ⟨?_⟩
 by_cases h3:f.st=3
 ·simp (disch:=first|omega|simp<;>omega|fail) [-zA,-zB,-zC,-zD,-zE,a91,h3,zk2r]
 ·simp (disch:=first|omega|simp<;>omega|fail) [-zA,-zB,-zC,-zD,-zE,a91,h3,zk2r]
noncomputable def cIsO:List DV→Option DV:=con (fun _=>True) (fun f:Fnd=>[.agg (fnC f)]) (fun f => .bool (zk2r f))
theorem z7g3 {f:Fnd}:cIsO [.agg (fnC f)]=some (.bool (zk2r f)):=zsn4 (f:=fun f:Fnd=>[.agg (fnC f)]) (g:=fun f => .bool (zk2r f)) (fun a b e=>by simp only [List.cons.injEq,DV.agg.injEq,and_true] at e; exact ziuj e) f
theorem zoxb:(Con.pure cIsO).Sound P 91:=z2au fun f _=>zljw mix zr5o Tryz.func91 z07s (zx8y f)
theorem z9kb {l:List Fnd} {f:Fnd} {s:Int}:decS (l++[f]) s=decS l s++(if s≤f.sev then f.dd.l else []):=by
 unfold decS
 rw [List.filter_append,List.flatMap_append]
 congr 1
 by_cases h:s≤f.sev<;>simp [List.filter,h]
theorem zvpp {l:List Fnd} {f:Fnd} {s:Int}:(zcm1 (l++[f]) s).length=(zcm1 l s).length+(if zk2r f&&decide (s≤f.sev) then 1 else 0):=by
 unfold zcm1
 rw [List.filter_append,List.length_append]
 congr 1
 cases h:zk2r f&&decide (s≤f.sev)<;>simp [List.filter,h]
structure FnOK (l:List Fnd):Prop where
 n:l.length≤20
 d : ∀ f ∈ l,f.dd.l.length≤40000
theorem zrbi {l:List Fnd} {s:Int} (hn:l.length≤20) (hd : ∀ f ∈ l,f.dd.l.length≤40000):(decS l s).length≤800000:=by
 have a:=zqok (f:=fun f:Fnd=>f.dd.l) (m:=40000) (l:=l.filter fun f=>decide (s≤f.sev)) fun f hf=>hd f (List.mem_filter.1 hf).1
 have b:=List.length_filter_le (fun f:Fnd=>decide (s≤f.sev)) l
 unfold decS; omega
noncomputable def T770:Tbl:=addT 86 (.pure cUnR) (addT 91 (.pure cIsO) tbl0)
theorem zefd:T770 86 = .pure cUnR:=by simp [T770]
theorem zdd4:T770 91 = .pure cIsO:=by simp [T770]
theorem znuq:T770.Sound P:=z0rp zuhn (z0rp zoxb zr5o)
def S770 (x:Sl Fnd) (s:Int) (i:Nat):St:=znp4 (x.dv 39 fnC) (.int .i64 s) ((unR nilS (decS (x.l.take i) s)).dv 32 dgC) (.int .i64 (zcm1 (x.l.take i) s).length) (.int .i64 i) []
theorem zlj5 (x:Sl Fnd) (s:Int) (ok:FnOK x.l):Runs T770 a53 [x.dv 39 fnC,.int .i64 s] (.tup [(unR nilS (decS x.l s)).dv 32 dgC,.int .i64 (zcm1 x.l s).length]):=by
 refine ⟨?_⟩
 have hxn:=ok.n
 simp (disch:=first|omega|simp<;>omega|fail) [-zA,-zB,-zC,-zD,-zE,a53]
 refine zlm5 (S770 x s) (fun i=>x.l.length-i) (fun i=>i≤x.l.length) 0 (z515 (by simp (disch:=first|omega|simp<;>omega|fail) [-zA,-zB,-zC,-zD,-zE,S770,znp4,decS,zcm1,unR,z68u]) (by simp (disch:=first|omega|simp<;>omega|fail) [-zA,-zB,-zC,-zD,-zE,S770,znp4])) (by omega) (fun i hi => ?_)
 simp only [S770]
 by_cases h:i<x.l.length
 ·have h':(i:Int)<x.l.length:=by omega
  have hg : ∀ H,zpsc H 39 (x.dv 39 fnC) i=some (.ref (fnC x.l[i])):=fun H=>zalo z0o0 h
  obtain ⟨F,hF⟩ : ∃ F,x.l[i]=F:=⟨_,rfl⟩
  have ht:x.l.take (i+1)=x.l.take i++[F]:=by rw [List.take_succ_eq_append_getElem h,hF]
  have h1:=z9kb (l:=x.l.take i) (f:=F) (s:=s)
  have h2:=zvpp (l:=x.l.take i) (f:=F) (s:=s)
  rw [← ht] at h1 h2
  have hdF:F.dd.l.length≤40000:=by rw [← hF]; exact ok.d _ (List.getElem_mem h)
  have hdl:=zrbi (l:=x.l.take i) (s:=s) (by rw [List.length_take]; omega) (fun f hf=>ok.d f (List.mem_of_mem_take hf))
  have hul:(unR nilS (decS (x.l.take i) s)).l.length≤800000:=by
   rw [zptr _ _ (by simp [zb11]; omega)]
   have:=z8bn (nilS:Sl Dg).l (decS (x.l.take i) s)
   simp only [zb11,List.length_nil] at this ⊢
   omega
  have hol:(zcm1 (x.l.take i) s).length≤i:=by
   have:=List.length_filter_le (fun f:Fnd=>zk2r f&&decide (s≤f.sev)) (x.l.take i)
   rw [List.length_take] at this; unfold zcm1; omega
  rw [hF] at hg
  have hu:=zsy2 (x:=unR nilS (decS (x.l.take i) s)) (y:=F.dd) (by unfold UnOK; omega)
  rw [← zu06] at hu
  have hio:=z7g3 (f:=F)
  by_cases g:F.sev<s
  ·rw [if_neg (by omega),List.append_nil] at h1
   rw [decide_eq_false (show ¬ s≤F.sev by omega),Bool.and_false] at h2
   have h2:(zcm1 (x.l.take (i+1)) s).length=(zcm1 (x.l.take i) s).length:=h2
   obtain ⟨A,hA⟩ : ∃ A,unR nilS (decS (x.l.take i) s)=A:=⟨_,rfl⟩
   rw [hA]
   simp (disch:=first|omega|simp<;>omega|fail) [-zA,-zB,-zC,-zD,-zE,zt7b,znp4,h,h',hg,g]
   exact ⟨i+1,z515 (by simp (disch:=first|omega|simp<;>omega|fail) [-zA,-zB,-zC,-zD,-zE,S770,znp4,h1,h2,hA]) (by simp (disch:=first|omega|simp<;>omega|fail) [-zA,-zB,-zC,-zD,-zE,S770,znp4]),by omega,by omega⟩
  ·rw [if_pos (by omega)] at h1
   rw [decide_eq_true (show s≤F.sev by omega),Bool.and_true] at h2
   rw [← h1] at hu
   obtain ⟨A,hA⟩ : ∃ A,unR nilS (decS (x.l.take i) s)=A:=⟨_,rfl⟩
   obtain ⟨B,hB⟩ : ∃ B,unR nilS (decS (x.l.take (i+1)) s)=B:=⟨_,rfl⟩
   obtain ⟨n,hn⟩ : ∃ n,(zcm1 (x.l.take i) s).length=n:=⟨_,rfl⟩
   rw [hA,hB] at hu
   rw [hA,hn]
   rw [hn] at h2 hol
   cases ho:zk2r F with
   | true =>
    have h2:(zcm1 (x.l.take (i+1)) s).length=n+1:=by rw [h2,ho]; rfl
    simp (disch:=first|omega|simp<;>omega|fail) [-zA,-zB,-zC,-zD,-zE,zt7b,znp4,h,h',hg,g,zefd,zdd4,hu,hio,ho]
    exact ⟨i+1,z515 (by simp (disch:=first|omega|simp<;>omega|fail) [-zA,-zB,-zC,-zD,-zE,S770,znp4,h2,hB]) (by simp (disch:=first|omega|simp<;>omega|fail) [-zA,-zB,-zC,-zD,-zE,S770,znp4]),by omega,by omega⟩
   | false =>
    have h2:(zcm1 (x.l.take (i+1)) s).length=n:=by rw [h2,ho]; rfl
    simp (disch:=first|omega|simp<;>omega|fail) [-zA,-zB,-zC,-zD,-zE,zt7b,znp4,h,h',hg,g,zefd,zdd4,hu,hio,ho]
    exact ⟨i+1,z515 (by simp (disch:=first|omega|simp<;>omega|fail) [-zA,-zB,-zC,-zD,-zE,S770,znp4,h2,hB]) (by simp (disch:=first|omega|simp<;>omega|fail) [-zA,-zB,-zC,-zD,-zE,S770,znp4]),by omega,by omega⟩
 ·have h':¬ (i:Int)<x.l.length:=by omega
  rw [List.take_of_length_le (show x.l.length≤i by omega)]
  simp (disch:=first|omega|simp<;>omega|fail) [-zA,-zB,-zC,-zD,-zE,zt7b,znp4,h,h']
noncomputable def cClo:List DV→Option DV:=con (fun a:Sl Fnd × Int=>FnOK a.1.l) (fun a=>[a.1.dv 39 fnC,.int .i64 a.2]) (fun a => .tup [(unR nilS (decS a.1.l a.2)).dv 32 dgC,.int .i64 (zcm1 a.1.l a.2).length])
theorem zd3s {x:Sl Fnd} {s:Int} (h:FnOK x.l):cClo [x.dv 39 fnC,.int .i64 s]=some (.tup [(unR nilS (decS x.l s)).dv 32 dgC,.int .i64 (zcm1 x.l s).length]) :=
 zlyi (A:=fun a:Sl Fnd × Int=>FnOK a.1.l) (f:=fun a:Sl Fnd × Int=>[a.1.dv 39 fnC,.int .i64 a.2]) (g:=fun a => .tup [(unR nilS (decS a.1.l a.2)).dv 32 dgC,.int .i64 (zcm1 a.1.l a.2).length]) (by
  rintro ⟨a,b⟩ ⟨c,d⟩ e
  simp only [List.cons.injEq,DV.int.injEq,and_true,true_and] at e
  rw [zedu e.1,e.2]) (x,s) h
theorem zb3p:(Con.pure cClo).Sound P 53:=z2au fun a h=>zljw mix znuq Tryz.func53 zzvp (zlj5 a.1 a.2 h)
theorem z92p {l:List Fnd} {f:Fnd}:zu7t (l++[f])=zu7t l+(if f.con then 1 else 0):=by
 unfold zu7t
 rw [List.filter_append,List.length_append]
 cases h:f.con<;>simp [List.filter,h]
theorem z4gv (l:List Fnd):0≤zu7t l∧zu7t l≤l.length:=by
 have:=List.length_filter_le (fun f:Fnd=>f.con) l
 unfold zu7t; omega
def S771 (c:Cas) (i:Nat):St:=z0ky (.mp 0 36 0) (.int .i64 (c.d.l.length+zu7t (c.n.l.take i))) (.int .i64 i) [.cells (caC c)]
theorem z5yw (c:Cas) (hn:c.n.l.length≤1000000) (hd:c.d.l.length≤1000000):Runs tbl0 a87 [.agg (caC c)] (.int .i64 (zu7t c.n.l+c.d.l.length)):=by
 refine ⟨?_⟩
 simp (disch:=first|omega|simp<;>omega|fail) [-zA,-zB,-zC,-zD,-zE,a87]
 refine zlm5 (S771 c) (fun i=>c.n.l.length-i) (fun i=>i≤c.n.l.length) 0 (z515 (by simp (disch:=first|omega|simp<;>omega|fail) [-zA,-zB,-zC,-zD,-zE,S771,z0ky,zu7t]) (by simp (disch:=first|omega|simp<;>omega|fail) [-zA,-zB,-zC,-zD,-zE,S771,z0ky])) (by omega) (fun i hi => ?_)
 simp only [S771]
 by_cases h:i<c.n.l.length
 ·have h':(i:Int)<c.n.l.length:=by omega
  have hg : ∀ H,zpsc H 39 (c.n.dv 39 fnC) i=some (.ref (fnC c.n.l[i])):=fun H=>zalo z0o0 h
  obtain ⟨F,hF⟩ : ∃ F,c.n.l[i]=F:=⟨_,rfl⟩
  have hs:=z92p (l:=c.n.l.take i) (f:=F)
  rw [← hF,← List.take_succ_eq_append_getElem h,hF] at hs
  have hb:=z4gv (c.n.l.take i)
  rw [List.length_take] at hb
  rw [hF] at hg
  obtain ⟨m,hm⟩ : ∃ m,zu7t (c.n.l.take i)=m:=⟨_,rfl⟩
  rw [hm] at hs hb ⊢
  have hw:IntKind.i64.wrap ((c.d.l.length:Int)+m+1)=c.d.l.length+m+1:=by rw [IntKind.wrap_i64]; omega
  cases hc:F.con with
  | true =>
   have hs:zu7t (c.n.l.take (i+1))=m+1:=by rw [hs,hc]; rfl
   simp (disch:=first|omega|simp<;>omega|fail) [-zA,-zB,-zC,-zD,-zE,zdyu,z0ky,h,h',hg,hc,hw]
   exact ⟨i+1,z515 (by simp (disch:=first|omega|simp<;>omega|fail) [-zA,-zB,-zC,-zD,-zE,S771,z0ky,hs,Int.add_assoc]) (by simp (disch:=first|omega|simp<;>omega|fail) [-zA,-zB,-zC,-zD,-zE,S771,z0ky]),by omega,by omega⟩
  | false =>
   have hs:zu7t (c.n.l.take (i+1))=m:=by rw [hs,hc]; simp
   simp (disch:=first|omega|simp<;>omega|fail) [-zA,-zB,-zC,-zD,-zE,zdyu,z0ky,h,h',hg,hc]
   exact ⟨i+1,z515 (by simp (disch:=first|omega|simp<;>omega|fail) [-zA,-zB,-zC,-zD,-zE,S771,z0ky,hs]) (by simp (disch:=first|omega|simp<;>omega|fail) [-zA,-zB,-zC,-zD,-zE,S771,z0ky]),by omega,by omega⟩
 ·have h':¬ (i:Int)<c.n.l.length:=by omega
  rw [List.take_of_length_le (show c.n.l.length≤i by omega),Int.add_comm]
  simp (disch:=first|omega|simp<;>omega|fail) [-zA,-zB,-zC,-zD,-zE,zdyu,z0ky,h,h']
noncomputable def cCoR:List DV→Option DV:=con (fun c:Cas=>c.n.l.length≤1000000∧c.d.l.length≤1000000) (fun c=>[.agg (caC c)]) (fun c => .int .i64 (zu7t c.n.l+c.d.l.length))
theorem zhc6 {c:Cas} (h:c.n.l.length≤1000000) (h2:c.d.l.length≤1000000):cCoR [.agg (caC c)]=some (.int .i64 (zu7t c.n.l+c.d.l.length)) :=
 zlyi (A:=fun c:Cas=>c.n.l.length≤1000000∧c.d.l.length≤1000000) (f:=fun c:Cas=>[.agg (caC c)]) (g:=fun c => .int .i64 (zu7t c.n.l+c.d.l.length)) (fun a b e=>by simp only [List.cons.injEq,DV.agg.injEq,and_true] at e; rw [zejx e]) c ⟨h,h2⟩
theorem zub3:(Con.pure cCoR).Sound P 87:=z2au fun c h=>zljw mix zr5o Tryz.func87 zfhg (z5yw c h.1 h.2)
noncomputable def T772:Tbl:=addT 59 (.pure zta3) tbl0
theorem zu98:T772 59 = .pure zta3:=by simp [T772]
theorem z0k0:T772.Sound P:=z0rp zp63 zr5o
theorem zemn (a b:Org):Runs T772 a32 [.agg (orC a),.agg (orC b)] (.bool (orLt a b)):=by
 refine ⟨?_⟩
 have t1 : ∀ (o:Org),(orC o).take 32=dgC o.rev:=fun o=>List.take_left' (z1t1 _)
 by_cases h1:a.rev=b.rev
 ·by_cases h2:a.lay=b.lay
  ·simp (disch:=first|omega|simp<;>omega|fail) [-zA,-zB,-zC,-zD,-zE,a32,h1,h2,orLt,zynh]
  ·simp (disch:=first|omega|simp<;>omega|fail) [-zA,-zB,-zC,-zD,-zE,a32,h1,h2,orLt,zynh]
 ·have hc:=z577 (a:=a.rev) (b:=b.rev)
  simp (disch:=first|omega|simp<;>omega|fail) [-zA,-zB,-zC,-zD,-zE,a32,h1,orLt,zynh,zu98,hc]
noncomputable def cLsO:List DV→Option DV:=con (fun _=>True) (fun a:Org × Org=>[.agg (orC a.1),.agg (orC a.2)]) (fun a => .bool (orLt a.1 a.2))
theorem z92d {a b:Org}:cLsO [.agg (orC a),.agg (orC b)]=some (.bool (orLt a b)) :=
 zsn4 (f:=fun a:Org × Org=>[.agg (orC a.1),.agg (orC a.2)]) (g:=fun a => .bool (orLt a.1 a.2)) (by
  rintro ⟨a,b⟩ ⟨c,d⟩ e
  simp only [List.cons.injEq,DV.agg.injEq,and_true] at e
  rw [zc65 e.1,zc65 e.2]) (a,b)
theorem zarw:(Con.pure cLsO).Sound P 32:=z2au fun a _=>zljw mix z0k0 Tryz.func32 zvrg (zemn a.1 a.2)
end Go.Proofs.YtdnhbfmlklaldaaGreat
set_option linter.unusedSimpArgs false
set_option linter.unusedVariables false
namespace Go.Proofs.YtdnhbfmlklaldaaGreat
open Go Go.Am
def zpgi (c:Cas) (x:Sl Fct):Cas:={ c with f:=x }
def pkL (c:Cas) (x:Sl Fct) (o:Org) (q:Req):List Fct:=zgw4 (zpgi c x) o q x.l
def zjj5 (c:Cas) (s:Sup) (n:Int):Sup:=if 0<(zcm1 c.n.l n).length then zcc9 (zcm1 c.n.l n).length else { s with docs:=unR s.docs (unR nilS (decS c.n.l n)).l }
def supR (c:Cas) (x:Sl Fct) (o:Org) (q:Req):Sup :=
 if q.kind=1∨q.kind=3 then z0l6 (pkL c x o q) q.n
 else if q.kind=4 then zhjf (zgw4 c o q c.f.l) (pkL c x o q) q
 else if q.kind=5 then zu6h (pkL c x o q) q.n
 else if q.kind=6 then (if (zods (pkL c x o q)).holds then zjj5 c (zods (pkL c x o q)) q.n else zods (pkL c x o q))
 else if q.kind=8 then (if (zods (pkL c x o q)).holds&&decide (0<zu7t c.n.l+c.d.l.length) then zcc9 (zu7t c.n.l+c.d.l.length) else zods (pkL c x o q))
 else zods (pkL c x o q)
structure SuOK (c:Cas) (x:Sl Fct) (q:Req):Prop where
 a:RfOK x.l
 f:c.f.l.length≤1000000
 n:FnOK c.n.l
 d:c.d.l.length≤1000000
 q1:q.kind=1∨q.kind=3∨q.kind=4∨q.kind=5 → -1000000≤q.n∧q.n≤1000000
 q2:q.kind=4 → -1000000≤q.m∧q.m≤1000000
theorem zuqh {c:Cas} {x:Sl Fct} {o:Org} {q:Req} (h:RfOK x.l):RfOK (pkL c x o q):=⟨by have:=List.length_filter_le (fitR (zpgi c x) o q) x.l; have:=h.n; unfold pkL zgw4; omega,fun f hf=>h.d f (List.mem_filter.1 hf).1⟩
theorem zxd0 {l:List Fct} (h:RfOK l):(zods l).docs.l.length≤1000:=by
 unfold zods
 split
 ·simp [zcc9,zb11]
 ·rename_i f r
  have hd:=h.d f (by simp)
  simp only
  rw [zptr _ _ (by simp [zb11]; omega)]
  have:=z8bn (nilS:Sl Dg).l f.docs.l
  simp only [zb11,List.length_nil] at this ⊢
  omega
noncomputable def T780:Tbl:=addT 81 (.pure cPkR) (addT 82 (.pure cEnR) (addT 83 (.pure cRbR) (addT 84 (.pure cLiR) (addT 85 (.pure cSoR) (addT 53 (.pure cClo) (addT 86 (.pure cUnR) (addT 87 (.pure cCoR) tbl0)))))))
theorem z3um:T780 81 = .pure cPkR:=by simp [T780]
theorem z5c4:T780 82 = .pure cEnR:=by simp [T780]
theorem zzt1:T780 83 = .pure cRbR:=by simp [T780]
theorem zo8j:T780 84 = .pure cLiR:=by simp [T780]
theorem zdij:T780 85 = .pure cSoR:=by simp [T780]
theorem z37c:T780 53 = .pure cClo:=by simp [T780]
theorem zzjc:T780 86 = .pure cUnR:=by simp [T780]
theorem zqmq:T780 87 = .pure cCoR:=by simp [T780]
theorem z4vw:T780.Sound P:=z0rp zk1i (z0rp z2rm (z0rp z6n1 (z0rp zf9c (z0rp z1cp (z0rp zb3p (z0rp zuhn (z0rp zub3 zr5o)))))))
theorem z96t (c:Cas) (x:Sl Fct) (o:Org) (q:Req) (ok:SuOK c x q):Runs T780 a44 [.agg (caC c),x.dv 71 faC,.agg (orC o),.agg (rqC q)] (.agg (suC (supR c x o q))):=by
 refine ⟨?_⟩
 have hset : ∀ H:List AObj,zy6o H 4 1 33 (x.dv 71 faC) (some (caC c))=some (.junk,H.set 4 (.cells (caC (zpgi c x)))):=fun H=>by
  rw [zltg (zs9p _) (z4ja _) (by rw [zt8w]; decide),zfzb]; rfl
 have hxn:=ok.a.n
 have hcf:=ok.f
 have hp:=zdry (c:=zpgi c x) (o:=o) (q:=q) (by show x.l.length≤1000000; omega)
 have hp2:=zdry (c:=c) (o:=o) (q:=q) hcf
 have hpo:=zuqh (c:=c) (o:=o) (q:=q) ok.a
 have hpl:zgw4 (zpgi c x) o q (zpgi c x).f.l=pkL c x o q:=rfl
 rw [hpl] at hp
 have hown:(ownN (pkL c x o q)).l=pkL c x o q:=zd8n (by have:=hpo.n; omega)
 have hown2:(ownN (zgw4 c o q c.f.l)).l=zgw4 c o q c.f.l:=zd8n (by have:=List.length_filter_le (fitR c o q) c.f.l; unfold zgw4; omega)
 have hn1:=ok.q1
 have hn2:=ok.q2
 have he:=fun g=>zdqm (x:=ownN (pkL c x o q)) (n:=q.n) (by rw [hown]; exact hpo) (hn1 g).1 (Int.le_trans (hn1 g).2 (by decide))
 have hr:=fun (g:q.kind=4)=>z9iz (l:=ownN (zgw4 c o q c.f.l)) (x:=ownN (pkL c x o q)) (q:=q) (by rw [hown,hown2]; exact ⟨by have:=List.length_filter_le (fitR c o q) c.f.l; unfold zgw4; omega,hpo,hn1 (.inr (.inr (.inl g))),hn2 g⟩)
 have hl:=fun g=>z3mz (x:=ownN (pkL c x o q)) (q:=q) (by rw [hown]; exact hpo) (hn1 g).1 (hn1 g).2
 have hs:=z780 (x:=ownN (pkL c x o q)) (by rw [hown]; exact hpo)
 have hc:=zd3s (x:=c.n) (s:=q.n) ok.n
 have hk:=zhc6 (c:=c) (by have:=ok.n.n; omega) ok.d
 have hsd:=zxd0 hpo
 have hdl:=zrbi (l:=c.n.l) (s:=q.n) ok.n.n ok.n.d
 have hul:(unR nilS (decS c.n.l q.n)).l.length≤800000:=by
  rw [zptr _ _ (by simp [zb11]; omega)]
  have:=z8bn (nilS:Sl Dg).l (decS c.n.l q.n)
  simp only [zb11,List.length_nil] at this ⊢
  omega
 rw [hown] at hs
 simp only [hown] at he hl
 simp only [hown,hown2] at hr
 obtain ⟨L,hL⟩ : ∃ L,pkL c x o q=L:=⟨_,rfl⟩
 obtain ⟨LV,hLV⟩ : ∃ LV:Sl Fct,ownN L=LV:=⟨_,rfl⟩
 rw [hL] at hp hs hsd
 simp only [hL] at he hr hl
 rw [hLV] at hp hs
 simp only [hLV] at he hr hl
 obtain ⟨A,hA⟩ : ∃ A,unR nilS (decS c.n.l q.n)=A:=⟨_,rfl⟩
 rw [hA] at hc hul
 obtain ⟨S,hS⟩ : ∃ S,zods L=S:=⟨_,rfl⟩
 rw [hS] at hs hsd
 have hu:=zsy2 (x:=S.docs) (y:=A) (by unfold UnOK; omega)
 obtain ⟨R,hR⟩ : ∃ R,supR c x o q=R:=⟨_,rfl⟩
 have hR0:=hR
 unfold supR at hR
 rw [hL,hS] at hR
 rw [hR0]
 obtain ⟨m,hm⟩ : ∃ m,zu7t c.n.l+(c.d.l.length:Int)=m:=⟨_,rfl⟩
 rw [hm] at hk hR
 obtain ⟨w,hw⟩ : ∃ w,(zcm1 c.n.l q.n).length=w:=⟨_,rfl⟩
 rw [hw] at hc
 have hst1 : ∀ (H:List AObj) (B:Sl Dg),zy6o H 5 1 1 (B.dv 32 dgC) (some (suC S))=some (.junk,H.set 5 (.cells (suC { S with docs:=B }))):=fun H B=>by
  rw [zltg (zs9p _) (z4ja _) (by rw [z16g]; decide)]; rfl
 by_cases k1:q.kind=1
 ·simp only [k1] at hR; simp at hR; subst hR
  simp (disch:=first|omega|simp<;>omega|fail) [-zA,-zB,-zC,-zD,-zE,a44,hset,z3um,hp,z559,z438,z23v,k1,z5c4,he (.inl k1)]
 by_cases k3:q.kind=3
 ·simp only [k3] at hR; simp at hR; subst hR
  simp (disch:=first|omega|simp<;>omega|fail) [-zA,-zB,-zC,-zD,-zE,a44,hset,z3um,hp,z559,z438,z23v,k3,z5c4,he (.inr (.inl k3))]
 by_cases k4:q.kind=4
 ·simp only [k4] at hR; simp at hR; subst hR
  simp (disch:=first|omega|simp<;>omega|fail) [-zA,-zB,-zC,-zD,-zE,a44,hset,z3um,hp,z559,z438,z23v,k4,zzt1,hp2,hr k4]
 by_cases k5:q.kind=5
 ·simp only [k5] at hR; simp at hR; subst hR
  simp (disch:=first|omega|simp<;>omega|fail) [-zA,-zB,-zC,-zD,-zE,a44,hset,z3um,hp,z559,z438,z23v,k5,zo8j,hl (.inr (.inr (.inr k5)))]
 by_cases k6:q.kind=6
 ·simp only [k6] at hR
  cases g:S.holds with
  | false =>
   simp [g] at hR; subst hR
   simp (disch:=first|omega|simp<;>omega|fail) [-zA,-zB,-zC,-zD,-zE,a44,hset,z3um,hp,z559,z438,z23v,k6,zdij,hs,g,zqmq,hk]
  | true =>
   by_cases g2:0<w
   ·have g2':(0:Int)<w:=by omega
    simp [g,zjj5,hw,g2] at hR; subst hR
    simp (disch:=first|omega|simp<;>omega|fail) [-zA,-zB,-zC,-zD,-zE,a44,hset,z3um,hp,z559,z438,z23v,k6,zdij,hs,g,z37c,hc,g2,g2',ze83]
   ·have g2':¬ (0:Int)<w:=by omega
    simp [g,zjj5,hw,g2,hA] at hR; subst hR
    simp (disch:=first|omega|simp<;>omega|fail) [-zA,-zB,-zC,-zD,-zE,a44,hset,z3um,hp,z559,z438,z23v,k6,zdij,hs,g,z37c,hc,g2,g2',zzjc,hu,hst1,zqmq,hk]
 by_cases k8:q.kind=8
 ·simp only [k8] at hR
  cases g:S.holds with
  | false =>
   simp [g] at hR; subst hR
   simp (disch:=first|omega|simp<;>omega|fail) [-zA,-zB,-zC,-zD,-zE,a44,hset,z3um,hp,z559,z438,z23v,k8,zdij,hs,g,zqmq,hk]
  | true =>
   by_cases g2:0<m
   ·simp [g,g2] at hR; subst hR
    simp (disch:=first|omega|simp<;>omega|fail) [-zA,-zB,-zC,-zD,-zE,a44,hset,z3um,hp,z559,z438,z23v,k8,zdij,hs,g,zqmq,hk,g2,ze83]
   ·simp [g,g2] at hR; subst hR
    simp (disch:=first|omega|simp<;>omega|fail) [-zA,-zB,-zC,-zD,-zE,a44,hset,z3um,hp,z559,z438,z23v,k8,zdij,hs,g,zqmq,hk,g2]
 simp [k1,k3,k4,k5,k6,k8] at hR; subst hR
 simp (disch:=first|omega|simp<;>omega|fail) [-zA,-zB,-zC,-zD,-zE,a44,hset,z3um,hp,z559,z438,z23v,k1,k3,k4,k5,k6,k8,zdij,hs,zqmq,hk]
noncomputable def cSpR:List DV→Option DV:=con (fun a:Cas × Sl Fct × Org × Req=>SuOK a.1 a.2.1 a.2.2.2) (fun a=>[.agg (caC a.1),a.2.1.dv 71 faC,.agg (orC a.2.2.1),.agg (rqC a.2.2.2)]) (fun a => .agg (suC (supR a.1 a.2.1 a.2.2.1 a.2.2.2)))
theorem zgo8 {c:Cas} {x:Sl Fct} {o:Org} {q:Req} (h:SuOK c x q):cSpR [.agg (caC c),x.dv 71 faC,.agg (orC o),.agg (rqC q)]=some (.agg (suC (supR c x o q))) :=
 zlyi (A:=fun a:Cas × Sl Fct × Org × Req=>SuOK a.1 a.2.1 a.2.2.2) (f:=fun a:Cas × Sl Fct × Org × Req=>[.agg (caC a.1),a.2.1.dv 71 faC,.agg (orC a.2.2.1),.agg (rqC a.2.2.2)]) (g:=fun a => .agg (suC (supR a.1 a.2.1 a.2.2.1 a.2.2.2))) (by
  rintro ⟨a,b,c,d⟩ ⟨a',b',c',d'⟩ e
  simp only [List.cons.injEq,DV.agg.injEq,and_true] at e
  rw [zejx e.1,z4rf e.2.1,zc65 e.2.2.1,z82b e.2.2.2]) (c,x,o,q) h
theorem zo28:(Con.pure cSpR).Sound P 44:=z2au fun a h=>zljw mix z4vw Tryz.func44 zeo7 (z96t a.1 a.2.1 a.2.2.1 a.2.2.2 h)
end Go.Proofs.YtdnhbfmlklaldaaGreat
set_option linter.unusedSimpArgs false
set_option linter.unusedVariables false
namespace Go.Proofs.YtdnhbfmlklaldaaGreat
open Go Go.Am
noncomputable def cNaR:List DV→Option DV
 | [.str s]=>some (.bool (zt9v s))|_=>none
theorem zkdv {s:Str}:cNaR [.str s]=some (.bool (zt9v s)):=rfl
def S790 (s:Str) (i:Nat):St:=zjnt (.str s) (.int .i64 i) []
theorem z6tu (s:Str):Runs tbl0 a79 [.str s] (.bool (zt9v s)):=by
 refine ⟨?_⟩
 have no:¬ (1≤s.length∧s.length≤64 ∧ ∀ j (h:j<s.length),zh9a (decide (j=0)) s[j]=true)→zt9v s=false:=fun h=>by
  cases q:zt9v s with
  | false=>rfl
  | true=>exact absurd (zg1n.1 q) h
 by_cases h0:s=[]
 ·have hr:zt9v s=false:=no (by rw [h0]; simp)
  simp (disch:=first|omega|simp<;>omega|fail) [-zA,-zB,-zC,-zD,-zE,a79,h0,hr]
  rw [h0] at hr
  simp (disch:=first|omega|simp<;>omega|fail) [-zA,-zB,-zC,-zD,-zE,hr]
 have hpos:0<s.length:=List.length_pos_iff.2 h0
 have h0':¬ DV.str s=DV.str []:=fun e=>h0 (by simpa using e)
 by_cases h2:64<s.length
 ·have h2':(64:Int)<s.length:=by omega
  have hr:zt9v s=false:=no (by omega)
  simp (disch:=first|omega|simp<;>omega|fail) [-zA,-zB,-zC,-zD,-zE,a79,h0,h2,h2',hr]
 have h2':¬ (64:Int)<s.length:=by omega
 obtain ⟨c0,hc0⟩ : ∃ c,s[0].toBitVec=c:=⟨_,rfl⟩
 have bad:(c0=46#8∨c0=95#8∨c0=45#8)→zt9v s=false:=fun e=>no fun ⟨_,_,q⟩=>by
  have:=q 0 hpos
  unfold zh9a at this
  rw [hc0] at this
  rcases e with rfl|rfl|rfl<;>simp at this
 by_cases e46:c0=46#8
 ·have hr:=bad (.inl e46)
  have b46:(c0 == 46#8)=true:=by simp [e46]
  simp (disch:=first|omega|simp<;>omega|fail) [-zA,-zB,-zC,-zD,-zE,a79,h0,h2,h2',hpos,hc0,e46,b46,hr]
 have b46:(c0 == 46#8)=false:=by simp [e46]
 by_cases e95:c0=95#8
 ·have hr:=bad (.inr (.inl e95))
  have b95:(c0 == 95#8)=true:=by simp [e95]
  simp (disch:=first|omega|simp<;>omega|fail) [-zA,-zB,-zC,-zD,-zE,a79,h0,h2,h2',hpos,hc0,e46,b46,e95,b95,hr]
 have b95:(c0 == 95#8)=false:=by simp [e95]
 by_cases e45:c0=45#8
 ·have hr:=bad (.inr (.inr e45))
  have b45:(c0 == 45#8)=true:=by simp [e45]
  simp (disch:=first|omega|simp<;>omega|fail) [-zA,-zB,-zC,-zD,-zE,a79,h0,h2,h2',hpos,hc0,e46,b46,e95,b95,e45,b45,hr]
 have b45:(c0 == 45#8)=false:=by simp [e45]
 simp (disch:=first|omega|simp<;>omega|fail) [-zA,-zB,-zC,-zD,-zE,a79,h0,h2,h2',hpos,hc0,e46,b46,e95,b95,e45,b45]
 refine zlm5 (S790 s) (fun i=>s.length-i) (fun i=>i≤s.length ∧ ∀ j (h:j<s.length),j<i→zh9a (decide (j=0)) s[j]=true) 0 (z515 (by simp (disch:=first|omega|simp<;>omega|fail) [-zA,-zB,-zC,-zD,-zE,S790,zjnt]) (by simp (disch:=first|omega|simp<;>omega|fail) [-zA,-zB,-zC,-zD,-zE,S790,zjnt])) ⟨by omega,fun j _ h=>by omega⟩ (fun i hi => ?_)
 obtain ⟨k1,k2⟩:=hi
 simp only [S790]
 by_cases h:i<s.length
 case neg =>
  have h':¬ (i:Int)<s.length:=by omega
  have hr:zt9v s=true:=zg1n.2 ⟨by omega,by omega,fun j hj=>k2 j hj (by omega)⟩
  simp (disch:=first|omega|simp<;>omega|fail) [-zA,-zB,-zC,-zD,-zE,ze3w,zjnt,h,h',hr]
 have h':(i:Int)<s.length:=by omega
 obtain ⟨c,hc⟩ : ∃ c,s[i].toBitVec=c:=⟨_,rfl⟩
 have hn:zh9a (decide (i=0)) s[i]=(((decide (97#8≤c)&&decide (c≤122#8))||(decide (48#8≤c)&&decide (c≤57#8)))||(!decide (i=0)&&(decide (c=46#8)||decide (c=95#8)||decide (c=45#8)))):=by unfold zh9a; rw [hc]
 have acc:zh9a (decide (i=0)) s[i]=true → ∀ j (h:j<s.length),j<i+1→zh9a (decide (j=0)) s[j]=true:=fun e j hj hlt=>by
  by_cases q:j=i
  ·subst q; exact e
  ·exact k2 j hj (by omega)
 have rej:zh9a (decide (i=0)) s[i]=false→zt9v s=false:=fun e=>no fun ⟨_,_,q⟩=>by
  have:=q i h
  rw [e] at this; cases this
 have hi0:(c=46#8∨c=95#8∨c=45#8)→¬ i=0:=fun e z=>by
  subst z
  rw [hc0] at hc
  subst hc
  rcases e with e|e|e
  ·exact e46 e
  ·exact e95 e
  ·exact e45 e
 by_cases a1:97#8≤c
 case neg =>
  by_cases a3:48#8≤c
  case neg =>
   by_cases q46:c=46#8
   case pos =>
    have d46:(c == 46#8)=true:=by simp [q46]
    have z:=hi0 (.inl q46)
    have e:=acc (by rw [hn]; simp [a1,a3,q46,z])
    simp (disch:=first|omega|simp<;>omega|fail) [-zA,-zB,-zC,-zD,-zE,ze3w,zjnt,h,h',hc,a1,a3,q46]
    exact ⟨i+1,z515 (by simp (disch:=first|omega|simp<;>omega|fail) [-zA,-zB,-zC,-zD,-zE,S790,zjnt]) (by simp (disch:=first|omega|simp<;>omega|fail) [-zA,-zB,-zC,-zD,-zE,S790,zjnt]),by omega,⟨by omega,e⟩⟩
   have d46:(c == 46#8)=false:=by simp [q46]
   by_cases q95:c=95#8
   case pos =>
    have d95:(c == 95#8)=true:=by simp [q95]
    have z:=hi0 (.inr (.inl q95))
    have e:=acc (by rw [hn]; simp [a1,a3,q46,d46,q95,z])
    simp (disch:=first|omega|simp<;>omega|fail) [-zA,-zB,-zC,-zD,-zE,ze3w,zjnt,h,h',hc,a1,a3,q46,d46,q95]
    exact ⟨i+1,z515 (by simp (disch:=first|omega|simp<;>omega|fail) [-zA,-zB,-zC,-zD,-zE,S790,zjnt]) (by simp (disch:=first|omega|simp<;>omega|fail) [-zA,-zB,-zC,-zD,-zE,S790,zjnt]),by omega,⟨by omega,e⟩⟩
   have d95:(c == 95#8)=false:=by simp [q95]
   by_cases q45:c=45#8
   case pos =>
    have d45:(c == 45#8)=true:=by simp [q45]
    have z:=hi0 (.inr (.inr q45))
    have e:=acc (by rw [hn]; simp [a1,a3,q46,d46,q95,d95,q45,z])
    simp (disch:=first|omega|simp<;>omega|fail) [-zA,-zB,-zC,-zD,-zE,ze3w,zjnt,h,h',hc,a1,a3,q46,d46,q95,d95,q45]
    exact ⟨i+1,z515 (by simp (disch:=first|omega|simp<;>omega|fail) [-zA,-zB,-zC,-zD,-zE,S790,zjnt]) (by simp (disch:=first|omega|simp<;>omega|fail) [-zA,-zB,-zC,-zD,-zE,S790,zjnt]),by omega,⟨by omega,e⟩⟩
   have d45:(c == 45#8)=false:=by simp [q45]
   have e:=rej (by rw [hn]; simp [a1,a3,q46,d46,q95,d95,q45,d45])
   simp (disch:=first|omega|simp<;>omega|fail) [-zA,-zB,-zC,-zD,-zE,ze3w,zjnt,h,h',hc,e,a1,a3,q46,d46,q95,d95,q45,d45]
  by_cases a4:c≤57#8
  case neg =>
   by_cases q46:c=46#8
   case pos =>
    have d46:(c == 46#8)=true:=by simp [q46]
    have z:=hi0 (.inl q46)
    have e:=acc (by rw [hn]; simp [a1,a3,a4,q46,z])
    simp (disch:=first|omega|simp<;>omega|fail) [-zA,-zB,-zC,-zD,-zE,ze3w,zjnt,h,h',hc,a1,a3,a4,q46]
    exact ⟨i+1,z515 (by simp (disch:=first|omega|simp<;>omega|fail) [-zA,-zB,-zC,-zD,-zE,S790,zjnt]) (by simp (disch:=first|omega|simp<;>omega|fail) [-zA,-zB,-zC,-zD,-zE,S790,zjnt]),by omega,⟨by omega,e⟩⟩
   have d46:(c == 46#8)=false:=by simp [q46]
   by_cases q95:c=95#8
   case pos =>
    have d95:(c == 95#8)=true:=by simp [q95]
    have z:=hi0 (.inr (.inl q95))
    have e:=acc (by rw [hn]; simp [a1,a3,a4,q46,d46,q95,z])
    simp (disch:=first|omega|simp<;>omega|fail) [-zA,-zB,-zC,-zD,-zE,ze3w,zjnt,h,h',hc,a1,a3,a4,q46,d46,q95]
    exact ⟨i+1,z515 (by simp (disch:=first|omega|simp<;>omega|fail) [-zA,-zB,-zC,-zD,-zE,S790,zjnt]) (by simp (disch:=first|omega|simp<;>omega|fail) [-zA,-zB,-zC,-zD,-zE,S790,zjnt]),by omega,⟨by omega,e⟩⟩
   have d95:(c == 95#8)=false:=by simp [q95]
   by_cases q45:c=45#8
   case pos =>
    have d45:(c == 45#8)=true:=by simp [q45]
    have z:=hi0 (.inr (.inr q45))
    have e:=acc (by rw [hn]; simp [a1,a3,a4,q46,d46,q95,d95,q45,z])
    simp (disch:=first|omega|simp<;>omega|fail) [-zA,-zB,-zC,-zD,-zE,ze3w,zjnt,h,h',hc,a1,a3,a4,q46,d46,q95,d95,q45]
    exact ⟨i+1,z515 (by simp (disch:=first|omega|simp<;>omega|fail) [-zA,-zB,-zC,-zD,-zE,S790,zjnt]) (by simp (disch:=first|omega|simp<;>omega|fail) [-zA,-zB,-zC,-zD,-zE,S790,zjnt]),by omega,⟨by omega,e⟩⟩
   have d45:(c == 45#8)=false:=by simp [q45]
   have e:=rej (by rw [hn]; simp [a1,a3,a4,q46,d46,q95,d95,q45,d45])
   simp (disch:=first|omega|simp<;>omega|fail) [-zA,-zB,-zC,-zD,-zE,ze3w,zjnt,h,h',hc,e,a1,a3,a4,q46,d46,q95,d95,q45,d45]
  have e:=acc (by rw [hn]; simp [a1,a3,a4])
  simp (disch:=first|omega|simp<;>omega|fail) [-zA,-zB,-zC,-zD,-zE,ze3w,zjnt,h,h',hc,a1,a3,a4]
  exact ⟨i+1,z515 (by simp (disch:=first|omega|simp<;>omega|fail) [-zA,-zB,-zC,-zD,-zE,S790,zjnt]) (by simp (disch:=first|omega|simp<;>omega|fail) [-zA,-zB,-zC,-zD,-zE,S790,zjnt]),by omega,⟨by omega,e⟩⟩
 by_cases a2:c≤122#8
 case neg =>
  by_cases a3:48#8≤c
  case neg =>
   by_cases q46:c=46#8
   case pos =>
    have d46:(c == 46#8)=true:=by simp [q46]
    have z:=hi0 (.inl q46)
    have e:=acc (by rw [hn]; simp [a1,a2,a3,q46,z])
    simp (disch:=first|omega|simp<;>omega|fail) [-zA,-zB,-zC,-zD,-zE,ze3w,zjnt,h,h',hc,a1,a2,a3,q46]
    exact ⟨i+1,z515 (by simp (disch:=first|omega|simp<;>omega|fail) [-zA,-zB,-zC,-zD,-zE,S790,zjnt]) (by simp (disch:=first|omega|simp<;>omega|fail) [-zA,-zB,-zC,-zD,-zE,S790,zjnt]),by omega,⟨by omega,e⟩⟩
   have d46:(c == 46#8)=false:=by simp [q46]
   by_cases q95:c=95#8
   case pos =>
    have d95:(c == 95#8)=true:=by simp [q95]
    have z:=hi0 (.inr (.inl q95))
    have e:=acc (by rw [hn]; simp [a1,a2,a3,q46,d46,q95,z])
    simp (disch:=first|omega|simp<;>omega|fail) [-zA,-zB,-zC,-zD,-zE,ze3w,zjnt,h,h',hc,a1,a2,a3,q46,d46,q95]
    exact ⟨i+1,z515 (by simp (disch:=first|omega|simp<;>omega|fail) [-zA,-zB,-zC,-zD,-zE,S790,zjnt]) (by simp (disch:=first|omega|simp<;>omega|fail) [-zA,-zB,-zC,-zD,-zE,S790,zjnt]),by omega,⟨by omega,e⟩⟩
   have d95:(c == 95#8)=false:=by simp [q95]
   by_cases q45:c=45#8
   case pos =>
    have d45:(c == 45#8)=true:=by simp [q45]
    have z:=hi0 (.inr (.inr q45))
    have e:=acc (by rw [hn]; simp [a1,a2,a3,q46,d46,q95,d95,q45,z])
    simp (disch:=first|omega|simp<;>omega|fail) [-zA,-zB,-zC,-zD,-zE,ze3w,zjnt,h,h',hc,a1,a2,a3,q46,d46,q95,d95,q45]
    exact ⟨i+1,z515 (by simp (disch:=first|omega|simp<;>omega|fail) [-zA,-zB,-zC,-zD,-zE,S790,zjnt]) (by simp (disch:=first|omega|simp<;>omega|fail) [-zA,-zB,-zC,-zD,-zE,S790,zjnt]),by omega,⟨by omega,e⟩⟩
   have d45:(c == 45#8)=false:=by simp [q45]
   have e:=rej (by rw [hn]; simp [a1,a2,a3,q46,d46,q95,d95,q45,d45])
   simp (disch:=first|omega|simp<;>omega|fail) [-zA,-zB,-zC,-zD,-zE,ze3w,zjnt,h,h',hc,e,a1,a2,a3,q46,d46,q95,d95,q45,d45]
  by_cases a4:c≤57#8
  case neg =>
   by_cases q46:c=46#8
   case pos =>
    have d46:(c == 46#8)=true:=by simp [q46]
    have z:=hi0 (.inl q46)
    have e:=acc (by rw [hn]; simp [a1,a2,a3,a4,q46,z])
    simp (disch:=first|omega|simp<;>omega|fail) [-zA,-zB,-zC,-zD,-zE,ze3w,zjnt,h,h',hc,a1,a2,a3,a4,q46]
    exact ⟨i+1,z515 (by simp (disch:=first|omega|simp<;>omega|fail) [-zA,-zB,-zC,-zD,-zE,S790,zjnt]) (by simp (disch:=first|omega|simp<;>omega|fail) [-zA,-zB,-zC,-zD,-zE,S790,zjnt]),by omega,⟨by omega,e⟩⟩
   have d46:(c == 46#8)=false:=by simp [q46]
   by_cases q95:c=95#8
   case pos =>
    have d95:(c == 95#8)=true:=by simp [q95]
    have z:=hi0 (.inr (.inl q95))
    have e:=acc (by rw [hn]; simp [a1,a2,a3,a4,q46,d46,q95,z])
    simp (disch:=first|omega|simp<;>omega|fail) [-zA,-zB,-zC,-zD,-zE,ze3w,zjnt,h,h',hc,a1,a2,a3,a4,q46,d46,q95]
    exact ⟨i+1,z515 (by simp (disch:=first|omega|simp<;>omega|fail) [-zA,-zB,-zC,-zD,-zE,S790,zjnt]) (by simp (disch:=first|omega|simp<;>omega|fail) [-zA,-zB,-zC,-zD,-zE,S790,zjnt]),by omega,⟨by omega,e⟩⟩
   have d95:(c == 95#8)=false:=by simp [q95]
   by_cases q45:c=45#8
   case pos =>
    have d45:(c == 45#8)=true:=by simp [q45]
    have z:=hi0 (.inr (.inr q45))
    have e:=acc (by rw [hn]; simp [a1,a2,a3,a4,q46,d46,q95,d95,q45,z])
    simp (disch:=first|omega|simp<;>omega|fail) [-zA,-zB,-zC,-zD,-zE,ze3w,zjnt,h,h',hc,a1,a2,a3,a4,q46,d46,q95,d95,q45]
    exact ⟨i+1,z515 (by simp (disch:=first|omega|simp<;>omega|fail) [-zA,-zB,-zC,-zD,-zE,S790,zjnt]) (by simp (disch:=first|omega|simp<;>omega|fail) [-zA,-zB,-zC,-zD,-zE,S790,zjnt]),by omega,⟨by omega,e⟩⟩
   have d45:(c == 45#8)=false:=by simp [q45]
   have e:=rej (by rw [hn]; simp [a1,a2,a3,a4,q46,d46,q95,d95,q45,d45])
   simp (disch:=first|omega|simp<;>omega|fail) [-zA,-zB,-zC,-zD,-zE,ze3w,zjnt,h,h',hc,e,a1,a2,a3,a4,q46,d46,q95,d95,q45,d45]
  have e:=acc (by rw [hn]; simp [a1,a2,a3,a4])
  simp (disch:=first|omega|simp<;>omega|fail) [-zA,-zB,-zC,-zD,-zE,ze3w,zjnt,h,h',hc,a1,a2,a3,a4]
  exact ⟨i+1,z515 (by simp (disch:=first|omega|simp<;>omega|fail) [-zA,-zB,-zC,-zD,-zE,S790,zjnt]) (by simp (disch:=first|omega|simp<;>omega|fail) [-zA,-zB,-zC,-zD,-zE,S790,zjnt]),by omega,⟨by omega,e⟩⟩
 have e:=acc (by rw [hn]; simp [a1,a2])
 simp (disch:=first|omega|simp<;>omega|fail) [-zA,-zB,-zC,-zD,-zE,ze3w,zjnt,h,h',hc,a1,a2]
 exact ⟨i+1,z515 (by simp (disch:=first|omega|simp<;>omega|fail) [-zA,-zB,-zC,-zD,-zE,S790,zjnt]) (by simp (disch:=first|omega|simp<;>omega|fail) [-zA,-zB,-zC,-zD,-zE,S790,zjnt]),by omega,⟨by omega,e⟩⟩
theorem zf5z:(Con.pure cNaR).Sound P 79:=by
 intro args v e
 unfold cNaR at e
 split at e
 ·simp at e; subst e; exact zljw mix zr5o Tryz.func79 zaq4 (z6tu _)
 ·simp at e
end Go.Proofs.YtdnhbfmlklaldaaGreat
set_option linter.unusedSimpArgs false
set_option linter.unusedVariables false
namespace Go.Proofs.YtdnhbfmlklaldaaGreat
open Go Go.Am
noncomputable def T792:Tbl:=addT 79 (.pure cNaR) (addT 80 (.pure cTm) tbl0)
theorem z299:T792 79 = .pure cNaR:=by simp [T792]
theorem zu7s:T792 80 = .pure cTm:=by simp [T792]
theorem zjsq:T792.Sound P:=z0rp zf5z (z0rp ztmd zr5o)
theorem zilq (q:Req):Runs T792 a43 [.agg (rqC q)] (.bool (reqB q)):=by
 refine ⟨?_⟩
 by_cases k1:q.kind=1
 ·by_cases n1:1≤q.n
  ·by_cases n2:q.n≤32
   ·by_cases m0:q.m=0
    ·by_cases t0:q.text=[]
     ·have hr:reqB q=true:=by simp [reqB,inB,k1,n1,n2,m0,t0]
      simp (disch:=first|omega|simp<;>omega|fail) [-zA,-zB,-zC,-zD,-zE,a43,z299,zu7s,zkdv,zixp,hr,k1,n1,n2,m0,t0]
     ·have hr:reqB q=false:=by simp [reqB,inB,k1,n1,n2,m0,t0]
      simp (disch:=first|omega|simp<;>omega|fail) [-zA,-zB,-zC,-zD,-zE,a43,z299,zu7s,zkdv,zixp,hr,k1,n1,n2,m0,t0]
    ·have hr:reqB q=false:=by simp [reqB,inB,k1,n1,n2,m0]
     simp (disch:=first|omega|simp<;>omega|fail) [-zA,-zB,-zC,-zD,-zE,a43,z299,zu7s,zkdv,zixp,hr,k1,n1,n2,m0]
   ·have hr:reqB q=false:=by simp [reqB,inB,k1,n1,n2]
    simp (disch:=first|omega|simp<;>omega|fail) [-zA,-zB,-zC,-zD,-zE,a43,z299,zu7s,zkdv,zixp,hr,k1,n1,n2]
  ·have hr:reqB q=false:=by simp [reqB,inB,k1,n1]
   simp (disch:=first|omega|simp<;>omega|fail) [-zA,-zB,-zC,-zD,-zE,a43,z299,zu7s,zkdv,zixp,hr,k1,n1]
 by_cases k3:q.kind=3
 ·by_cases n1:1≤q.n
  ·by_cases n2:q.n≤32
   ·by_cases m0:q.m=0
    ·by_cases t0:q.text=[]
     ·have hr:reqB q=true:=by simp [reqB,inB,k1,k3,n1,n2,m0,t0]
      simp (disch:=first|omega|simp<;>omega|fail) [-zA,-zB,-zC,-zD,-zE,a43,z299,zu7s,zkdv,zixp,hr,k1,k3,n1,n2,m0,t0]
     ·have hr:reqB q=false:=by simp [reqB,inB,k1,k3,n1,n2,m0,t0]
      simp (disch:=first|omega|simp<;>omega|fail) [-zA,-zB,-zC,-zD,-zE,a43,z299,zu7s,zkdv,zixp,hr,k1,k3,n1,n2,m0,t0]
    ·have hr:reqB q=false:=by simp [reqB,inB,k1,k3,n1,n2,m0]
     simp (disch:=first|omega|simp<;>omega|fail) [-zA,-zB,-zC,-zD,-zE,a43,z299,zu7s,zkdv,zixp,hr,k1,k3,n1,n2,m0]
   ·have hr:reqB q=false:=by simp [reqB,inB,k1,k3,n1,n2]
    simp (disch:=first|omega|simp<;>omega|fail) [-zA,-zB,-zC,-zD,-zE,a43,z299,zu7s,zkdv,zixp,hr,k1,k3,n1,n2]
  ·have hr:reqB q=false:=by simp [reqB,inB,k1,k3,n1]
   simp (disch:=first|omega|simp<;>omega|fail) [-zA,-zB,-zC,-zD,-zE,a43,z299,zu7s,zkdv,zixp,hr,k1,k3,n1]
 by_cases k5:q.kind=5
 ·by_cases n1:1≤q.n
  ·by_cases n2:q.n≤32
   ·by_cases m0:q.m=0
    ·by_cases t0:q.text=[]
     ·have hr:reqB q=true:=by simp [reqB,inB,k1,k3,k5,n1,n2,m0,t0]
      simp (disch:=first|omega|simp<;>omega|fail) [-zA,-zB,-zC,-zD,-zE,a43,z299,zu7s,zkdv,zixp,hr,k1,k3,k5,n1,n2,m0,t0]
     ·have hr:reqB q=false:=by simp [reqB,inB,k1,k3,k5,n1,n2,m0,t0]
      simp (disch:=first|omega|simp<;>omega|fail) [-zA,-zB,-zC,-zD,-zE,a43,z299,zu7s,zkdv,zixp,hr,k1,k3,k5,n1,n2,m0,t0]
    ·have hr:reqB q=false:=by simp [reqB,inB,k1,k3,k5,n1,n2,m0]
     simp (disch:=first|omega|simp<;>omega|fail) [-zA,-zB,-zC,-zD,-zE,a43,z299,zu7s,zkdv,zixp,hr,k1,k3,k5,n1,n2,m0]
   ·have hr:reqB q=false:=by simp [reqB,inB,k1,k3,k5,n1,n2]
    simp (disch:=first|omega|simp<;>omega|fail) [-zA,-zB,-zC,-zD,-zE,a43,z299,zu7s,zkdv,zixp,hr,k1,k3,k5,n1,n2]
  ·have hr:reqB q=false:=by simp [reqB,inB,k1,k3,k5,n1]
   simp (disch:=first|omega|simp<;>omega|fail) [-zA,-zB,-zC,-zD,-zE,a43,z299,zu7s,zkdv,zixp,hr,k1,k3,k5,n1]
 by_cases k4:q.kind=4
 ·by_cases n1:1≤q.n
  ·by_cases n2:q.n≤32
   ·by_cases m1:0≤q.m
    ·by_cases m2:q.m≤32
     ·by_cases t0:q.text=[]
      ·have hr:reqB q=true:=by simp [reqB,inB,k1,k3,k5,k4,n1,n2,m1,m2,t0]
       simp (disch:=first|omega|simp<;>omega|fail) [-zA,-zB,-zC,-zD,-zE,a43,z299,zu7s,zkdv,zixp,hr,k1,k3,k5,k4,n1,n2,m1,m2,t0]
      ·have hr:reqB q=false:=by simp [reqB,inB,k1,k3,k5,k4,n1,n2,m1,m2,t0]
       simp (disch:=first|omega|simp<;>omega|fail) [-zA,-zB,-zC,-zD,-zE,a43,z299,zu7s,zkdv,zixp,hr,k1,k3,k5,k4,n1,n2,m1,m2,t0]
     ·have hr:reqB q=false:=by simp [reqB,inB,k1,k3,k5,k4,n1,n2,m1,m2]
      simp (disch:=first|omega|simp<;>omega|fail) [-zA,-zB,-zC,-zD,-zE,a43,z299,zu7s,zkdv,zixp,hr,k1,k3,k5,k4,n1,n2,m1,m2]
    ·have hr:reqB q=false:=by simp [reqB,inB,k1,k3,k5,k4,n1,n2,m1]
     simp (disch:=first|omega|simp<;>omega|fail) [-zA,-zB,-zC,-zD,-zE,a43,z299,zu7s,zkdv,zixp,hr,k1,k3,k5,k4,n1,n2,m1]
   ·have hr:reqB q=false:=by simp [reqB,inB,k1,k3,k5,k4,n1,n2]
    simp (disch:=first|omega|simp<;>omega|fail) [-zA,-zB,-zC,-zD,-zE,a43,z299,zu7s,zkdv,zixp,hr,k1,k3,k5,k4,n1,n2]
  ·have hr:reqB q=false:=by simp [reqB,inB,k1,k3,k5,k4,n1]
   simp (disch:=first|omega|simp<;>omega|fail) [-zA,-zB,-zC,-zD,-zE,a43,z299,zu7s,zkdv,zixp,hr,k1,k3,k5,k4,n1]
 by_cases k2:q.kind=2
 ·by_cases z:q.n=0
  ·by_cases m0:q.m=0
   ·have hr:reqB q=zt9v q.text:=by simp [reqB,inB,k1,k3,k5,k4,k2,z,m0]
    simp (disch:=first|omega|simp<;>omega|fail) [-zA,-zB,-zC,-zD,-zE,a43,z299,zu7s,zkdv,zixp,hr,k1,k3,k5,k4,k2,z,m0]
   ·have hr:reqB q=false:=by simp [reqB,inB,k1,k3,k5,k4,k2,z,m0]
    simp (disch:=first|omega|simp<;>omega|fail) [-zA,-zB,-zC,-zD,-zE,a43,z299,zu7s,zkdv,zixp,hr,k1,k3,k5,k4,k2,z,m0]
  ·by_cases n1:1≤q.n
   ·have hr:reqB q=false:=by simp [reqB,inB,k1,k3,k5,k4,k2,z,n1]
    simp (disch:=first|omega|simp<;>omega|fail) [-zA,-zB,-zC,-zD,-zE,a43,z299,zu7s,zkdv,zixp,hr,k1,k3,k5,k4,k2,z,n1]
   ·have hr:reqB q=false:=by simp [reqB,inB,k1,k3,k5,k4,k2,z,n1]
    simp (disch:=first|omega|simp<;>omega|fail) [-zA,-zB,-zC,-zD,-zE,a43,z299,zu7s,zkdv,zixp,hr,k1,k3,k5,k4,k2,z,n1]
 by_cases k6:q.kind=6
 ·by_cases n1:1≤q.n
  ·by_cases n3:q.n≤10
   ·by_cases m0:q.m=0
    ·by_cases t0:q.text=[]
     ·have hr:reqB q=true:=by simp [reqB,inB,k1,k3,k5,k4,k2,k6,n1,n3,m0,t0]
      simp (disch:=first|omega|simp<;>omega|fail) [-zA,-zB,-zC,-zD,-zE,a43,z299,zu7s,zkdv,zixp,hr,k1,k3,k5,k4,k2,k6,n1,n3,m0,t0]
     ·have hr:reqB q=false:=by simp [reqB,inB,k1,k3,k5,k4,k2,k6,n1,n3,m0,t0]
      simp (disch:=first|omega|simp<;>omega|fail) [-zA,-zB,-zC,-zD,-zE,a43,z299,zu7s,zkdv,zixp,hr,k1,k3,k5,k4,k2,k6,n1,n3,m0,t0]
    ·have hr:reqB q=false:=by simp [reqB,inB,k1,k3,k5,k4,k2,k6,n1,n3,m0]
     simp (disch:=first|omega|simp<;>omega|fail) [-zA,-zB,-zC,-zD,-zE,a43,z299,zu7s,zkdv,zixp,hr,k1,k3,k5,k4,k2,k6,n1,n3,m0]
   ·have hr:reqB q=false:=by simp [reqB,inB,k1,k3,k5,k4,k2,k6,n1,n3]
    simp (disch:=first|omega|simp<;>omega|fail) [-zA,-zB,-zC,-zD,-zE,a43,z299,zu7s,zkdv,zixp,hr,k1,k3,k5,k4,k2,k6,n1,n3]
  ·have hr:reqB q=false:=by simp [reqB,inB,k1,k3,k5,k4,k2,k6,n1]
   simp (disch:=first|omega|simp<;>omega|fail) [-zA,-zB,-zC,-zD,-zE,a43,z299,zu7s,zkdv,zixp,hr,k1,k3,k5,k4,k2,k6,n1]
 by_cases k7:q.kind=7
 ·by_cases n1:1≤q.n
  ·cases ht:tmB q.n with
   | false =>
    have hin:inB q.n 0 1099511627776=false:=ht
    have hr:reqB q=false:=by simp [reqB,hin,k1,k3,k5,k4,k2,k6,k7,n1]
    simp (disch:=first|omega|simp<;>omega|fail) [-zA,-zB,-zC,-zD,-zE,a43,z299,zu7s,zkdv,zixp,hr,ht,k1,k3,k5,k4,k2,k6,k7,n1]
   | true =>
    have hin:inB q.n 0 1099511627776=true:=ht
    by_cases m0:q.m=0
    ·by_cases t0:q.text=[]
     ·have hr:reqB q=true:=by simp [reqB,hin,k1,k3,k5,k4,k2,k6,k7,n1,m0,t0]
      simp (disch:=first|omega|simp<;>omega|fail) [-zA,-zB,-zC,-zD,-zE,a43,z299,zu7s,zkdv,zixp,hr,ht,k1,k3,k5,k4,k2,k6,k7,n1,m0,t0]
     ·have hr:reqB q=false:=by simp [reqB,hin,k1,k3,k5,k4,k2,k6,k7,n1,m0,t0]
      simp (disch:=first|omega|simp<;>omega|fail) [-zA,-zB,-zC,-zD,-zE,a43,z299,zu7s,zkdv,zixp,hr,ht,k1,k3,k5,k4,k2,k6,k7,n1,m0,t0]
    ·have hr:reqB q=false:=by simp [reqB,hin,k1,k3,k5,k4,k2,k6,k7,n1,m0]
     simp (disch:=first|omega|simp<;>omega|fail) [-zA,-zB,-zC,-zD,-zE,a43,z299,zu7s,zkdv,zixp,hr,ht,k1,k3,k5,k4,k2,k6,k7,n1,m0]
  ·cases ht:tmB q.n with
   | false =>
    have hin:inB q.n 0 1099511627776=false:=ht
    have hr:reqB q=false:=by simp [reqB,hin,k1,k3,k5,k4,k2,k6,k7,n1]
    simp (disch:=first|omega|simp<;>omega|fail) [-zA,-zB,-zC,-zD,-zE,a43,z299,zu7s,zkdv,zixp,hr,ht,k1,k3,k5,k4,k2,k6,k7,n1]
   | true =>
    have hin:inB q.n 0 1099511627776=true:=ht
    by_cases m0:q.m=0
    ·by_cases t0:q.text=[]
     ·have hr:reqB q=true:=by simp [reqB,hin,k1,k3,k5,k4,k2,k6,k7,n1,m0,t0]
      simp (disch:=first|omega|simp<;>omega|fail) [-zA,-zB,-zC,-zD,-zE,a43,z299,zu7s,zkdv,zixp,hr,ht,k1,k3,k5,k4,k2,k6,k7,n1,m0,t0]
     ·have hr:reqB q=false:=by simp [reqB,hin,k1,k3,k5,k4,k2,k6,k7,n1,m0,t0]
      simp (disch:=first|omega|simp<;>omega|fail) [-zA,-zB,-zC,-zD,-zE,a43,z299,zu7s,zkdv,zixp,hr,ht,k1,k3,k5,k4,k2,k6,k7,n1,m0,t0]
    ·have hr:reqB q=false:=by simp [reqB,hin,k1,k3,k5,k4,k2,k6,k7,n1,m0]
     simp (disch:=first|omega|simp<;>omega|fail) [-zA,-zB,-zC,-zD,-zE,a43,z299,zu7s,zkdv,zixp,hr,ht,k1,k3,k5,k4,k2,k6,k7,n1,m0]
 by_cases k8:q.kind=8
 ·by_cases z:q.n=0
  ·by_cases m0:q.m=0
   ·by_cases t0:q.text=[]
    ·have hr:reqB q=true:=by simp [reqB,inB,k1,k3,k5,k4,k2,k6,k7,k8,z,m0,t0]
     simp (disch:=first|omega|simp<;>omega|fail) [-zA,-zB,-zC,-zD,-zE,a43,z299,zu7s,zkdv,zixp,hr,k1,k3,k5,k4,k2,k6,k7,k8,z,m0,t0]
    ·have hr:reqB q=false:=by simp [reqB,inB,k1,k3,k5,k4,k2,k6,k7,k8,z,m0,t0]
     simp (disch:=first|omega|simp<;>omega|fail) [-zA,-zB,-zC,-zD,-zE,a43,z299,zu7s,zkdv,zixp,hr,k1,k3,k5,k4,k2,k6,k7,k8,z,m0,t0]
   ·have hr:reqB q=false:=by simp [reqB,inB,k1,k3,k5,k4,k2,k6,k7,k8,z,m0]
    simp (disch:=first|omega|simp<;>omega|fail) [-zA,-zB,-zC,-zD,-zE,a43,z299,zu7s,zkdv,zixp,hr,k1,k3,k5,k4,k2,k6,k7,k8,z,m0]
  ·by_cases n1:1≤q.n
   ·have hr:reqB q=false:=by simp [reqB,inB,k1,k3,k5,k4,k2,k6,k7,k8,z,n1]
    simp (disch:=first|omega|simp<;>omega|fail) [-zA,-zB,-zC,-zD,-zE,a43,z299,zu7s,zkdv,zixp,hr,k1,k3,k5,k4,k2,k6,k7,k8,z,n1]
   ·have hr:reqB q=false:=by simp [reqB,inB,k1,k3,k5,k4,k2,k6,k7,k8,z,n1]
    simp (disch:=first|omega|simp<;>omega|fail) [-zA,-zB,-zC,-zD,-zE,a43,z299,zu7s,zkdv,zixp,hr,k1,k3,k5,k4,k2,k6,k7,k8,z,n1]
 by_cases n1:1≤q.n
 ·have hr:reqB q=false:=by simp [reqB,inB,k1,k3,k5,k4,k2,k6,k7,k8,n1]
  simp (disch:=first|omega|simp<;>omega|fail) [-zA,-zB,-zC,-zD,-zE,a43,z299,zu7s,zkdv,zixp,hr,k1,k3,k5,k4,k2,k6,k7,k8,n1]
 ·have hr:reqB q=false:=by simp [reqB,inB,k1,k3,k5,k4,k2,k6,k7,k8,n1]
  simp (disch:=first|omega|simp<;>omega|fail) [-zA,-zB,-zC,-zD,-zE,a43,z299,zu7s,zkdv,zixp,hr,k1,k3,k5,k4,k2,k6,k7,k8,n1]
theorem zt0p:(Con.pure cReq).Sound P 43:=z2au fun q _=>zljw mix zjsq Tryz.func43 zbv8 (zilq q)
end Go.Proofs.YtdnhbfmlklaldaaGreat
set_option linter.unusedSimpArgs false
set_option linter.unusedVariables false
namespace Go.Proofs.YtdnhbfmlklaldaaGreat
open Go Go.Am
def ze4s (c:Cas) (o:Org) (q:Req):Sup:=if reqB q then supR c c.f o q else supZ
noncomputable def T793:Tbl:=addT 43 (.pure cReq) (addT 44 (.pure cSpR) tbl0)
theorem zmjt:T793 43 = .pure cReq:=by simp [T793]
theorem z8k2:T793 44 = .pure cSpR:=by simp [T793]
theorem zyji:T793.Sound P:=z0rp zt0p (z0rp zo28 zr5o)
theorem z9tg (c:Cas) (o:Org) (q:Req) (ok:reqB q=true→SuOK c c.f q):Runs T793 a21 [.agg (caC c),.agg (orC o),.agg (rqC q)] (.agg (suC (ze4s c o q))):=by
 refine ⟨?_⟩
 cases h:reqB q with
 | false =>
  have hr:ze4s c o q=supZ:=by unfold ze4s; rw [h]; rfl
  have hb:zvnk [.bool false,.nils,.int .i64 0] []=some (.agg (suC supZ)):=rfl
  simp (disch:=first|omega|simp<;>omega|fail) [-zA,-zB,-zC,-zD,-zE,a21,zmjt,zc86,h,hr,hb,z559]
 | true =>
  have hr:ze4s c o q=supR c c.f o q:=by unfold ze4s; rw [h]; rfl
  have hs:=zgo8 (c:=c) (x:=c.f) (o:=o) (q:=q) (ok h)
  obtain ⟨R,hR⟩ : ∃ R,supR c c.f o q=R:=⟨_,rfl⟩
  rw [hR] at hr hs
  simp (disch:=first|omega|simp<;>omega|fail) [-zA,-zB,-zC,-zD,-zE,a21,zmjt,z8k2,zc86,h,hr,hs,z559]
noncomputable def cChR:List DV→Option DV:=con (fun a:Cas × Org × Req=>reqB a.2.2=true→SuOK a.1 a.1.f a.2.2) (fun a=>[.agg (caC a.1),.agg (orC a.2.1),.agg (rqC a.2.2)]) (fun a => .agg (suC (ze4s a.1 a.2.1 a.2.2)))
theorem z776 {c:Cas} {o:Org} {q:Req} (h:reqB q=true→SuOK c c.f q):cChR [.agg (caC c),.agg (orC o),.agg (rqC q)]=some (.agg (suC (ze4s c o q))) :=
 zlyi (A:=fun a:Cas × Org × Req=>reqB a.2.2=true→SuOK a.1 a.1.f a.2.2) (f:=fun a:Cas × Org × Req=>[.agg (caC a.1),.agg (orC a.2.1),.agg (rqC a.2.2)]) (g:=fun a => .agg (suC (ze4s a.1 a.2.1 a.2.2))) (by
  rintro ⟨a,b,c⟩ ⟨a',b',c'⟩ e
  simp only [List.cons.injEq,DV.agg.injEq,and_true] at e
  rw [zejx e.1,zc65 e.2.1,z82b e.2.2]) (c,o,q) h
theorem z0mf:(Con.pure cChR).Sound P 21:=z2au fun a h=>zljw mix zyji Tryz.func21 zyfb (z9tg a.1 a.2.1 a.2.2 h)
end Go.Proofs.YtdnhbfmlklaldaaGreat
set_option linter.unusedSimpArgs false
set_option linter.unusedVariables false
namespace Go.Proofs.YtdnhbfmlklaldaaGreat
open Go Go.Am
def leR (l:List Fct) (D:List Dg):List Fct:=l.filter fun f=>subB f.docs.l D
theorem zj4r {l:List Fct} {f:Fct} {D:List Dg}:leR (l++[f]) D=leR l D++(if subB f.docs.l D then [f] else []):=by
 unfold leR
 rw [List.filter_append]
 congr 1
 cases h:subB f.docs.l D<;>simp [List.filter,h]
def byR (c:Cas) (o:Org) (q:Req) (D:Sl Dg):Bool:=reqB q&&((supR c (ownN (leR c.f.l D.l)) o q).holds&&(!decide (q.kind=6)||subB (unR nilS (decS c.n.l q.n)).l D.l))
noncomputable def T794:Tbl:=addT 43 (.pure cReq) (addT 44 (.pure cSpR) (addT 52 (.pure cWiR) (addT 53 (.pure cClo) tbl0)))
theorem zv67:T794 43 = .pure cReq:=by simp [T794]
theorem zacp:T794 44 = .pure cSpR:=by simp [T794]
theorem z9t9:T794 52 = .pure cWiR:=by simp [T794]
theorem z33f:T794 53 = .pure cClo:=by simp [T794]
theorem zffg:T794.Sound P:=z0rp zt0p (z0rp zo28 (z0rp ziub (z0rp zb3p zr5o)))
def bV (L:List Fct):DV:=if L=[] then .nils else .ms 3 (L.length*71) 0 71 L.length (L.length*71)
def bH (c:Cas) (o:Org) (q:Req) (L:List Fct):List AObj := .cells (caC c) :: .cells (orC o) :: .cells (rqC q)::(if L=[] then [] else [.cells (fl faC L)])
theorem z55z {L:List Fct} (h:L≠[]):bV L = .ms 3 (L.length*71) 0 71 L.length (L.length*71):=if_neg h
theorem zxfh {c:Cas} {o:Org} {q:Req} {L:List Fct} (h:L≠[]):bH c o q L=[.cells (caC c),.cells (orC o),.cells (rqC q),.cells (fl faC L)]:=by rw [bH,if_neg h]
def S794 (c:Cas) (o:Org) (q:Req) (D:Sl Dg) (i:Nat):St:=zm3v (D.dv 32 dgC) (.mp 0 36 0) (.mp 1 34 0) (.mp 2 4 0) (bV (leR (c.f.l.take i) D.l)) (.int .i64 i) (bH c o q (leR (c.f.l.take i) D.l))
structure ByRK (c:Cas) (q:Req):Prop where
 l:c.f.l.length≤100
 n:FnOK c.n.l
 s : ∀ x:Sl Fct,(∀ f ∈ x.l,f ∈ c.f.l)→x.l.length≤c.f.l.length→SuOK c x q
theorem z9s7 (c:Cas) (o:Org) (q:Req) (D:Sl Dg) (ok:reqB q=true→ByRK c q):V P 0 a23.code (retK a23.res (.bool (byR c o q D))) ⟨zr5g a23.ntmps [.agg (caC c),.agg (orC o),.agg (rqC q),D.dv 32 dgC],[]⟩:=by
 refine zbn1 (V_W mix zffg ?_)
 simp (disch:=first|omega|simp<;>omega|fail) [-zA,-zB,-zC,-zD,-zE,a23]
 refine zbn1 (V_W mix zffg ?_)
 cases hq:reqB q with
 | false =>
  have hr:byR c o q D=false:=by unfold byR; rw [hq]; rfl
  simp (disch:=first|omega|simp<;>omega|fail) [-zA,-zB,-zC,-zD,-zE,zv67,zc86,hq,hr]
 | true =>
 obtain ⟨kl,kn,ks⟩:=ok hq
 simp (disch:=first|omega|simp<;>omega|fail) [-zA,-zB,-zC,-zD,-zE,zv67,zc86,hq]
 refine zbn1 (V_W mix zffg ?_)
 simp (disch:=first|omega|simp<;>omega|fail) [-zA,-zB,-zC,-zD,-zE]
 refine zbn1 (V_W mix zffg ?_)
 simp (disch:=first|omega|simp<;>omega|fail) [-zA,-zB,-zC,-zD,-zE]
 refine zlm5 (S794 c o q D) (fun i=>c.f.l.length-i) (fun i=>i≤c.f.l.length) 0 (z515 (by simp (disch:=first|omega|simp<;>omega|fail) [-zA,-zB,-zC,-zD,-zE,S794,zm3v,leR,bV]) (by simp (disch:=first|omega|simp<;>omega|fail) [-zA,-zB,-zC,-zD,-zE,S794,zm3v,leR,bH])) (by omega) (fun i hi => ?_)
 simp only [S794]
 by_cases h:i<c.f.l.length
 ·have h':(i:Int)<c.f.l.length:=by omega
  have hg : ∀ H,zpsc H 71 (c.f.dv 71 faC) i=some (.ref (faC c.f.l[i])):=fun H=>zalo zs77 h
  obtain ⟨F,hF⟩ : ∃ F,c.f.l[i]=F:=⟨_,rfl⟩
  have hs:=zj4r (l:=c.f.l.take i) (f:=F) (D:=D.l)
  rw [← hF,← List.take_succ_eq_append_getElem h,hF] at hs
  rw [hF] at hg
  have hlen:(leR (c.f.l.take i) D.l).length≤i:=by
   have:=List.length_filter_le (fun f:Fct=>subB f.docs.l D.l) (c.f.l.take i)
   rw [List.length_take] at this; unfold leR; omega
  obtain ⟨L,hL⟩ : ∃ L,leR (c.f.l.take i) D.l=L:=⟨_,rfl⟩
  rw [hL] at hs hlen ⊢
  have hvF : ∀ H,visY H (.sl true 71 1 (faC F))=some (1,faC F):=fun H=>by simp [visY,zs77]
  have hc:=zbbs (x:=F.docs) (y:=D)
  cases hm:subB F.docs.l D.l with
  | false =>
   rw [hm,if_neg (by simp),List.append_nil] at hs
   by_cases e:L=[]
   ·subst e
    have q1:bV [] = .nils:=rfl
    have q2:bH c o q []=[.cells (caC c),.cells (orC o),.cells (rqC q)]:=rfl
    simp (disch:=first|omega|simp<;>omega|fail) [-zA,-zB,-zC,-zD,-zE,zyu0,zm3v,h,h',hg,q1,q2,z9t9,hc,hm]
    exact ⟨i+1,z515 (by simp (disch:=first|omega|simp<;>omega|fail) [-zA,-zB,-zC,-zD,-zE,S794,zm3v,hs,q1]) (by simp (disch:=first|omega|simp<;>omega|fail) [-zA,-zB,-zC,-zD,-zE,S794,zm3v,hs,q2]),by omega,by omega⟩
   ·have q1:=z55z e
    have q2:=zxfh (c:=c) (o:=o) (q:=q) e
    simp (disch:=first|omega|simp<;>omega|fail) [-zA,-zB,-zC,-zD,-zE,zyu0,zm3v,h,h',hg,q1,q2,z9t9,hc,hm]
    exact ⟨i+1,z515 (by simp (disch:=first|omega|simp<;>omega|fail) [-zA,-zB,-zC,-zD,-zE,S794,zm3v,hs,q1]) (by simp (disch:=first|omega|simp<;>omega|fail) [-zA,-zB,-zC,-zD,-zE,S794,zm3v,hs,q2]),by omega,by omega⟩
  | true =>
   rw [hm,if_pos rfl] at hs
   have e1:=z55z (L:=L++[F]) (by simp)
   have e2:=zxfh (c:=c) (o:=o) (q:=q) (L:=L++[F]) (by simp)
   rw [List.length_append,List.length_singleton] at e1
   by_cases e:L=[]
   ·subst e
    have q1:bV [] = .nils:=rfl
    have q2:bH c o q []=[.cells (caC c),.cells (orC o),.cells (rqC q)]:=rfl
    have hap:=zsuq (h:=[AObj.cells (caC c),.cells (orC o),.cells (rqC q)]) (s:=71) (b:=160) (m:=1) (cs:=faC F) (by decide) (by decide) (by rw [zs77]) (by decide) (by decide)
    simp only [zs77,List.length_cons,List.length_nil,Nat.zero_add] at hap
    have hs:leR (c.f.l.take (i+1)) D.l=[F]:=hs
    have e1:bV [F] = .ms 3 71 0 71 1 71:=rfl
    have e2:bH c o q [F]=[.cells (caC c),.cells (orC o),.cells (rqC q),.cells (faC F)]:=by rw [zxfh (by simp),z4hs]
    simp (disch:=first|omega|simp<;>omega|fail) [-zA,-zB,-zC,-zD,-zE,zyu0,zm3v,h,h',hg,q1,q2,z9t9,hc,hm,zw6t,hvF,hap]
    exact ⟨i+1,z515 (by simp (disch:=first|omega|simp<;>omega|fail) [-zA,-zB,-zC,-zD,-zE,S794,zm3v,hs,e1]) (by simp (disch:=first|omega|simp<;>omega|fail) [-zA,-zB,-zC,-zD,-zE,S794,zm3v,hs,e2]),by omega,by omega⟩
   ·have q1:=z55z e
    have q2:=zxfh (c:=c) (o:=o) (q:=q) e
    have hap:=zkg3 (h:=[AObj.cells (caC c),.cells (orC o),.cells (rqC q),.cells (fl faC L)]) (id:=3) (b:=160) (l:=L) (x:=F) zs77 (by decide) (by decide) (fun _=>zfgo) (by omega) (by simp [objV,ziu0,z8lx zs77])
    simp (disch:=first|omega|simp<;>omega|fail) [-zA,-zB,-zC,-zD,-zE,zyu0,zm3v,h,h',hg,q1,q2,z9t9,hc,hm,zw6t,hvF,hap]
    exact ⟨i+1,z515 (by simp (disch:=first|omega|simp<;>omega|fail) [-zA,-zB,-zC,-zD,-zE,S794,zm3v,hs,e1]) (by simp (disch:=first|omega|simp<;>omega|fail) [-zA,-zB,-zC,-zD,-zE,S794,zm3v,hs,e2]),by omega,by omega⟩
 have h':¬ (i:Int)<c.f.l.length:=by omega
 rw [List.take_of_length_le (show c.f.l.length≤i by omega)]
 have hlb:(leR c.f.l D.l).length≤c.f.l.length:=List.length_filter_le _ _
 have hown:(ownN (leR c.f.l D.l)).l=leR c.f.l D.l:=zd8n (by omega)
 have hsu:=zgo8 (c:=c) (x:=ownN (leR c.f.l D.l)) (o:=o) (q:=q) (ks _ (by rw [hown]; exact fun f hf=>(List.mem_filter.1 hf).1) (by rw [hown]; exact hlb))
 have hcl:=zd3s (x:=c.n) (s:=q.n) kn
 have hwi:=zbbs (x:=unR nilS (decS c.n.l q.n)) (y:=D)
 have hr:byR c o q D=((supR c (ownN (leR c.f.l D.l)) o q).holds&&(!decide (q.kind=6)||subB (unR nilS (decS c.n.l q.n)).l D.l)):=by unfold byR; rw [hq,Bool.true_and]
 rw [hr]
 obtain ⟨R,hR⟩ : ∃ R,supR c (ownN (leR c.f.l D.l)) o q=R:=⟨_,rfl⟩
 obtain ⟨A,hA⟩ : ∃ A,unR nilS (decS c.n.l q.n)=A:=⟨_,rfl⟩
 rw [hR] at hsu ⊢
 rw [hA] at hcl hwi ⊢
 obtain ⟨L,hL⟩ : ∃ L,leR c.f.l D.l=L:=⟨_,rfl⟩
 rw [hL] at hsu hlb ⊢
 obtain ⟨w,hw⟩ : ∃ w,(!decide (q.kind=6)||subB A.l D.l)=w:=⟨_,rfl⟩
 by_cases e:L=[]
 ·subst e
  have q1:bV [] = .nils:=rfl
  have q2:bH c o q []=[.cells (caC c),.cells (orC o),.cells (rqC q)]:=rfl
  rw [z2i7] at hsu
  simp (disch:=first|omega|simp<;>omega|fail) [-zA,-zB,-zC,-zD,-zE,zyu0,zm3v,h,h',q1,q2]
  refine zbn1 (V_W mix zffg ?_)
  simp (disch:=first|omega|simp<;>omega|fail) [-zA,-zB,-zC,-zD,-zE,z33f,hcl]
  refine V_W mix zffg ?_
  cases g:R.holds with
  | false=>simp (disch:=first|omega|simp<;>omega|fail) [-zA,-zB,-zC,-zD,-zE,zacp,hsu,g]
  | true =>
   by_cases k6:q.kind=6
   ·simp (disch:=first|omega|simp<;>omega|fail) [-zA,-zB,-zC,-zD,-zE,zacp,hsu,g,k6,z9t9,hwi]
   ·simp (disch:=first|omega|simp<;>omega|fail) [-zA,-zB,-zC,-zD,-zE,zacp,hsu,g,k6]
 ·have q1:=z55z e
  have q2:=zxfh (c:=c) (o:=o) (q:=q) e
  have hfl:(fl faC L).length=L.length*71:=z8lx zs77 L
  have htk:(fl faC L).take (L.length*71)=L.flatMap faC:=List.take_of_length_le (by omega)
  have hpu:=zp6k z93p L
  rw [zgr3 e (by omega)] at hsu
  simp (disch:=first|omega|simp<;>omega|fail) [-zA,-zB,-zC,-zD,-zE,zyu0,zm3v,h,h',q1,q2]
  refine zbn1 (V_W mix zffg ?_)
  simp (disch:=first|omega|simp<;>omega|fail) [-zA,-zB,-zC,-zD,-zE,z33f,hcl]
  refine V_mk (fun id=>decide (id<3)) ?_
  simp (disch:=first|omega|simp<;>omega|fail) [-zA,-zB,-zC,-zD,-zE,hfl,htk,hpu]
  refine V_W mix zffg ?_
  cases g:R.holds with
  | false=>simp (disch:=first|omega|simp<;>omega|fail) [-zA,-zB,-zC,-zD,-zE,zacp,hpu,hsu,g]
  | true =>
   by_cases k6:q.kind=6
   ·simp (disch:=first|omega|simp<;>omega|fail) [-zA,-zB,-zC,-zD,-zE,zacp,hpu,hsu,g,k6,z9t9,hwi]
   ·simp (disch:=first|omega|simp<;>omega|fail) [-zA,-zB,-zC,-zD,-zE,zacp,hpu,hsu,g,k6]
noncomputable def cByR:List DV→Option DV:=con (fun a:Cas × Org × Req × Sl Dg=>reqB a.2.2.1=true→ByRK a.1 a.2.2.1) (fun a=>[.agg (caC a.1),.agg (orC a.2.1),.agg (rqC a.2.2.1),a.2.2.2.dv 32 dgC]) (fun a => .bool (byR a.1 a.2.1 a.2.2.1 a.2.2.2))
theorem zach {c:Cas} {o:Org} {q:Req} {D:Sl Dg} (h:reqB q=true→ByRK c q):cByR [.agg (caC c),.agg (orC o),.agg (rqC q),D.dv 32 dgC]=some (.bool (byR c o q D)) :=
 zlyi (A:=fun a:Cas × Org × Req × Sl Dg=>reqB a.2.2.1=true→ByRK a.1 a.2.2.1) (f:=fun a:Cas × Org × Req × Sl Dg=>[.agg (caC a.1),.agg (orC a.2.1),.agg (rqC a.2.2.1),a.2.2.2.dv 32 dgC]) (g:=fun a => .bool (byR a.1 a.2.1 a.2.2.1 a.2.2.2)) (by
  rintro ⟨a,b,c,d⟩ ⟨a',b',c',d'⟩ e
  simp only [List.cons.injEq,DV.agg.injEq,and_true] at e
  rw [zejx e.1,zc65 e.2.1,z82b e.2.2.1,z42k e.2.2.2]) (c,o,q,D) h
theorem zqjg:(Con.pure cByR).Sound P 23:=z2au fun a h=>znz9 Tryz.func23 ztyx (z9s7 a.1 a.2.1 a.2.2.1 a.2.2.2 h)
end Go.Proofs.YtdnhbfmlklaldaaGreat
set_option linter.unusedSimpArgs false
set_option linter.unusedVariables false
namespace Go.Proofs.YtdnhbfmlklaldaaGreat
open Go Go.Am
theorem zms8 {x:Sl Dg} (h:x.l.length≤1000000):(zln3 x).l=dgsU x.l:=by
 unfold zln3
 split
 ·rename_i e; rw [show x.clone.l=x.l from rfl,e]; rfl
 ·have:=zsv6 (lt:=dgLt) x.l
  rw [z3e9 (by unfold dgsU; omega)]
theorem z1mc {l:List Fct} {n:Int} (h:RfOK l):SupEq (zfyl l n) (z0l6 l n):=by
 have h1:=zkr7 h ((zzy4 l).take n.toNat)
 have h2:=zmvi l
 have h3:((zzy4 l).take n.toNat).length≤100:=by rw [List.length_take]; have:=h.n; omega
 unfold zfyl z0l6
 split
 ·exact ⟨rfl,rfl,rfl⟩
 ·refine ⟨rfl,?_,rfl⟩
  show (zln3 _).l=(firR l n.toNat).l
  rw [zke1 h,zms8 (by rw [zd8n (by omega)]; omega),zd8n (by omega)]
theorem zvlr {l:List Fct} (h:RfOK l):SupEq (oneS l) (zods l):=by
 unfold oneS zods
 cases l with
 | nil=>exact ⟨rfl,rfl,rfl⟩
 | cons f r =>
  have hd:=h.d f (by simp)
  refine ⟨rfl,?_,rfl⟩
  show (zln3 _).l=(unR nilS f.docs.l).l
  rw [zms8 (by omega),zptr _ _ (by simp [zb11]; omega)]
  rfl
theorem z9tn {l left:List Fct}:zzy4 (agrL l left)=zob0 left l :=
 zjfh z3gj (z7nw _) (zpss _ _) fun x=>by
  unfold agrL zob0
  rw [z7zz,List.mem_filter,z7zz]
  simp only [Bool.not_eq_true',decide_eq_false_iff_not,List.mem_filter]
  constructor
  ·rintro ⟨f,⟨h1,h2⟩,e⟩
   exact ⟨⟨f,h1,e⟩,e▸h2⟩
  ·rintro ⟨⟨f,h1,e⟩,h2⟩
   exact ⟨f,⟨h1,e▸h2⟩,e⟩
theorem zt0d {α:Type} {p r:α→Bool} : ∀ {l:List α},(∀ a,r a=true→p a=true)→(l.filter p).find? r=l.find? r
 | [],_=>rfl
 | a::l,h=>by
  have ih:=zt0d (p:=p) (r:=r) (l:=l) h
  cases hr:r a with
  | true=>rw [List.filter_cons_of_pos (h a hr),List.find?_cons_of_pos hr,List.find?_cons_of_pos hr]
  | false =>
   rw [List.find?_cons_of_neg (by simp [hr])]
   cases hp:p a with
   | true=>rw [List.filter_cons_of_pos hp,List.find?_cons_of_neg (by simp [hr])]; exact ih
   | false=>rw [List.filter_cons_of_neg (by simp [hp])]; exact ih
theorem z5o0 {l left:List Fct} : ∀ {m:List Str},(∀ w ∈ m,¬ w ∈ zqgg l)→ztt8 (agrL l left) m=ztt8 left m
 | [],_=>rfl
 | w::m,h=>by
  have hw:=h w (by simp)
  have ih:=z5o0 (l:=l) (left:=left) (m:=m) fun w hm=>h w (by simp [hm])
  have h1:zm3u (agrL l left) w=zm3u left w:=by
   unfold zm3u agrL
   rw [zt0d fun f hf=>by
    have:f.own=w:=by simpa using hf
    simp [this,hw]]
  unfold ztt8 at ih ⊢
  rw [List.flatMap_cons,List.flatMap_cons,h1,ih]
theorem zmlk {l left:List Fct} {q:Req} (h:RfOK left):SupEq (zo4d left l q) (zhjf l left q):=by
 have ho:=z9tn (l:=l) (left:=left)
 have hen:=z1mc (l:=agrL l left) (n:=q.n) (zxzf h)
 unfold zo4d zhjf z5nq
 unfold zfyl at hen
 rw [ho] at hen
 obtain ⟨e1,e2,e3⟩:=hen
 by_cases hm:0<((zqgg l).length:Int)-q.m
 ·rw [if_pos hm,if_pos (by omega)]
  refine ⟨rfl,rfl,?_⟩
  rw [← e3]
  by_cases hn:((zob0 left l).length:Int)<q.n
  ·rw [if_pos hn]
   show max _ _+max _ _=(q.n-_)+_
   omega
  ·rw [if_neg hn]
   show max _ _+max _ _=(0:Int)+_
   omega
 ·rw [if_neg hm]
  by_cases hn:((zob0 left l).length:Int)<q.n
  ·rw [if_pos hn] at e1 e2 e3
   rw [if_pos (by omega)]
   refine ⟨e1,e2,?_⟩
   rw [← e3]
   show max _ _+max _ _=q.n-_
   omega
  ·rw [if_neg hn] at e1 e2 e3
   rw [if_neg (by omega)]
   have hd:=z5o0 (l:=l) (left:=left) (m:=(zob0 left l).take q.n.toNat) fun w hw=>by
    have:=List.mem_of_mem_take hw
    unfold zob0 at this
    have:=(List.mem_filter.1 this).2
    simpa using this
   rw [hd] at e1 e2 e3
   exact ⟨e1,e2,e3⟩
theorem zj78 {l:List Fct} {n:Int} (h:(z0l6 l n).holds=false):(z0l6 l n).docs.l=[]:=by
 unfold z0l6 at h ⊢
 split
 ·rfl
 ·rename_i q; rw [if_neg q] at h; simp at h
theorem z9df {l:List Fct} {n:Int} : ∀ T:List Dg,(T.foldr (fun d b=>zqxa l n b d) (zcc9 n)).holds=false→(T.foldr (fun d b=>zqxa l n b d) (zcc9 n)).docs.l=[]
 | [],_=>rfl
 | d::T,h=>by
  have ih:=z9df (l:=l) (n:=n) T
  rw [List.foldr_cons] at h ⊢
  unfold zqxa at h ⊢
  split
  ·rename_i q; rw [if_pos q] at h; exact zj78 h
  ·rename_i q; rw [if_neg q] at h; exact ih h
theorem zpm9 {l:List Fct} {n:Int} (hk : ∀ d,SupEq (zfyl (zskr l 5 (.target d)) n) (z0l6 (ofL l d) n)) : ∀ (T:List Dg) (m:Int),m≤n →
  (T.foldr (fun d b=>zqxa l n b d) (zcc9 n)).holds=(zdgi l n T m).holds∧(T.foldr (fun d b=>zqxa l n b d) (zcc9 n)).docs.l=(zdgi l n T m).docs.l ∧
  ((T.foldr (fun d b=>zqxa l n b d) (zcc9 n)).holds=false→min m (T.foldr (fun d b=>zqxa l n b d) (zcc9 n)).missing=(zdgi l n T m).missing) ∧
  ((T.foldr (fun d b=>zqxa l n b d) (zcc9 n)).holds=true→(T.foldr (fun d b=>zqxa l n b d) (zcc9 n)).missing=(zdgi l n T m).missing)
 | [],m,h=>⟨rfl,rfl,fun _=>by show min m n=m; omega,fun e=>by simp [zcc9] at e⟩
 | d::T,m,h=>by
  obtain ⟨e1,e2,e3⟩:=hk d
  rw [List.foldr_cons]
  unfold zdgi
  obtain ⟨b,hb⟩ : ∃ b,T.foldr (fun d b=>zqxa l n b d) (zcc9 n)=b:=⟨_,rfl⟩
  obtain ⟨s,hs⟩ : ∃ s,z0l6 (ofL l d) n=s:=⟨_,rfl⟩
  obtain ⟨t,ht⟩ : ∃ t,zfyl (zskr l 5 (.target d)) n=t:=⟨_,rfl⟩
  rw [hs,ht] at e1 e2 e3
  rw [hb,ht]
  obtain ⟨r,hr⟩ : ∃ r,zqxa l n b d=r:=⟨_,rfl⟩
  rw [hr]
  unfold zqxa at hr
  rw [hs] at hr
  have n1:=zj78 (l:=ofL l d) (n:=n)
  have n2:=z9df (l:=l) (n:=n) T
  rw [hs] at n1
  rw [hb] at n2
  by_cases hh:t.holds=true
  ·have hsh:s.holds=true:=by rw [← e1,hh]
   have hr:s=r:=by rw [← hr]; simp [hsh]
   subst hr
   rw [if_pos hh]
   exact ⟨e1.symm,e2.symm,fun q=>(by rw [hsh] at q; cases q),fun _=>e3.symm⟩
  ·have hsh:s.holds=false:=by rw [← e1]; simpa using hh
   rw [if_neg hh]
   have ih:=zpm9 hk T (min m t.missing) (by omega)
   rw [hb] at ih
   obtain ⟨i1,i2,i3,i4⟩:=ih
   by_cases hb2:b.holds=true
   ·have hr:b=r:=by rw [← hr]; simp [hsh,hb2]
    subst hr
    exact ⟨i1,i2,fun q=>(by rw [hb2] at q; cases q),fun _=>i4 hb2⟩
   ·have hb3:b.holds=false:=by simpa using hb2
    have j3:=i3 hb3
    by_cases hlt:s.missing<b.missing
    ·have hr:s=r:=by rw [← hr]; simp [hsh,hb3,hlt]
     subst hr
     exact ⟨by rw [hsh,← i1,hb3],by rw [← i2,n2 hb3,n1 hsh],fun _=>by rw [← j3,e3]; omega,fun q=>by rw [hsh] at q; cases q⟩
    ·have hr:b=r:=by rw [← hr]; simp [hsh,hb3,hlt]
     subst hr
     exact ⟨i1,i2,fun _=>by rw [← j3,e3]; omega,fun q=>by rw [hb3] at q; cases q⟩
end Go.Proofs.YtdnhbfmlklaldaaGreat
set_option linter.unusedSimpArgs false
set_option linter.unusedVariables false
namespace Go.Proofs.YtdnhbfmlklaldaaGreat
open Go Go.Am
theorem sq_p {c:Cas} {x:Sl Fct} {o:Org} {q:Req} {f:Fct}:(sqR (zpgi c x) o q).p f=(sqR c o q).p f:=by
 unfold sqR
 repeat' split
 all_goals rfl
theorem zky5 {c:Cas} {x:Sl Fct} {o:Org} {q:Req}:pkL c x o q=zskr x.l (kqR q) (sqR c o q):=by
 unfold pkL zgw4 zskr
 refine List.filter_congr fun f _ => ?_
 unfold fitR
 rw [sq_p]
theorem zboh {c:Cas} {o:Org} {q:Req} {l:List Fct}:zgw4 c o q l=zskr l (kqR q) (sqR c o q):=rfl
theorem zfd1 {l:List Fct} {n:Int} : ∀ T:List Dg,(T.foldr (fun d b=>zqxa l n b d) (zcc9 n)).holds=false→(T.foldr (fun d b=>zqxa l n b d) (zcc9 n)).missing≤n
 | [],_=>Int.le_refl _
 | d::T,h=>by
  have ih:=zfd1 (l:=l) (n:=n) T
  rw [List.foldr_cons] at h ⊢
  obtain ⟨b,hb⟩ : ∃ b,T.foldr (fun d b=>zqxa l n b d) (zcc9 n)=b:=⟨_,rfl⟩
  rw [hb] at h ih ⊢
  unfold zqxa at h ⊢
  cases h1:(z0l6 (ofL l d) n).holds with
  | true=>rw [h1] at h; simp [h1] at h
  | false =>
   cases h2:b.holds with
   | true=>rw [h1,h2] at h; simp [h2] at h
   | false =>
    by_cases h3:(z0l6 (ofL l d) n).missing<b.missing
    ·have:=ih h2
     simp [h3]
     omega
    ·simp [h3]
     exact ih h2
theorem zysk {l:List Fct} {d:Dg} (h : ∀ f ∈ l,f.kind=5):zskr l 5 (.target d)=ofL l d:=by
 unfold zskr ofL
 refine List.filter_congr fun f hf => ?_
 rw [h f hf]
 simp [Sel.p]
theorem z3pb {l:List Fct} {n:Int} (h:RfOK l) (hk : ∀ f ∈ l,f.kind=5):SupEq (zf55 l n) (zu6h l n):=by
 have k:=zpm9 (l:=l) (n:=n) (fun d=>by rw [zysk hk]; exact z1mc (z5be h)) (dgsU (tgS l)) n (Int.le_refl _)
 have m:=zfd1 (l:=l) (n:=n) (dgsU (tgS l))
 obtain ⟨k1,k2,k3,k4⟩:=k
 refine ⟨k1.symm,k2.symm,?_⟩
 cases hh:(zu6h l n).holds with
 | true=>exact (k4 hh).symm
 | false =>
  have a:=k3 hh
  have b:=m hh
  show (zdgi l n (dgsU (tgS l)) n).missing=((dgsU (tgS l)).foldr (fun d b=>zqxa l n b d) (zcc9 n)).missing
  omega
theorem z4co {a b:List Dg}:(dgsU b).foldl (addU dgLt) (dgsU a)=dgsU (a++b):=by
 have h:=zyiy zc3a (dgsU b) (dgsU a) (zy4b zc3a a)
 refine zjfh zc3a h.1 (zy4b zc3a _) fun x => ?_
 rw [h.2,dgsU,dgsU,zoav zc3a,zoav zc3a,dgsU,zoav zc3a,List.mem_append]
 exact Or.comm
theorem zpgm {l:List Fct} {D:List Dg} (h:RfOK l) (hD:D.length≤800000) (k:Int) (n:Nat) (hk:k=n) :
  SupEq (zpu0 l k D) (if (zods l).holds then (if 0<n then zcc9 n else { zods l with docs:=unR (zods l).docs (unR nilS D).l }) else zods l):=by
 subst hk
 cases l with
 | nil=>exact ⟨rfl,rfl,rfl⟩
 | cons f r =>
  have hd:=h.d f (by simp)
  have e:(zods (f::r)).holds=true:=rfl
  rw [if_pos e]
  unfold zpu0
  simp only
  by_cases g:0<n
  ·rw [if_pos g,if_pos (show (0:Int)<n by omega)]; exact ⟨rfl,rfl,rfl⟩
  ·rw [if_neg g,if_neg (show ¬ (0:Int)<n by omega)]
   refine ⟨rfl,?_,rfl⟩
   show (zln3 _).l=(unR (unR nilS f.docs.l) (unR nilS D).l).l
   have e1:(unR nilS f.docs.l).l=dgsU f.docs.l:=by rw [zptr _ _ (by simp [zb11]; omega)]; rfl
   have e2:(unR nilS D).l=dgsU D:=by rw [zptr _ _ (by simp [zb11]; omega)]; rfl
   have l1:=zsv6 (lt:=dgLt) f.docs.l
   have l2:=zsv6 (lt:=dgLt) D
   rw [zms8 (by rw [zd8n (by rw [List.length_append]; omega),List.length_append]; omega),zd8n (by rw [List.length_append]; omega)]
   rw [zptr _ _ (by rw [e1,e2]; unfold dgsU; omega),e1,e2,z4co]
theorem z907 {l:List Fct} {n:Int} (h:RfOK l):SupEq (zpu0 l n []) (if (zods l).holds&&decide (0<n) then zcc9 n else zods l):=by
 cases l with
 | nil=>exact ⟨rfl,rfl,rfl⟩
 | cons f r =>
  have hd:=h.d f (by simp)
  have e:(zods (f::r)).holds=true:=rfl
  rw [e,Bool.true_and]
  unfold zpu0
  simp only
  by_cases g:0<n
  ·rw [if_pos g,if_pos (by simpa using g)]; exact ⟨rfl,rfl,rfl⟩
  ·rw [if_neg g,if_neg (by simpa using g),List.append_nil]
   refine ⟨rfl,?_,rfl⟩
   show (zln3 _).l=(unR nilS f.docs.l).l
   rw [zms8 (by rw [zd8n (by omega)]; omega),zd8n (by omega),zptr _ _ (by simp [zb11]; omega)]
   rfl
theorem zt0n {l:List Fct} {k:Int} {s:Sel} (h:RfOK l):RfOK (zskr l k s) :=
 ⟨by have:=zjru (l:=l) (k:=k) (s:=s); have:=h.n; omega,fun f hf=>h.d f (zs6z.1 hf).1⟩
theorem zm0o {c:Cas} {x:Sl Fct} {o:Org} {q:Req} (h:RfOK x.l) (hn:FnOK c.n.l) (hk:1≤q.kind∧q.kind≤8):SupEq (zvkf c x.l c.f.l o q) (supR c x o q):=by
 unfold zvkf supR
 rw [zky5,zboh]
 by_cases k1:q.kind=1
 ·rw [if_pos k1,if_pos (.inl k1)]
  simp only [kqR,sqR,if_pos k1]
  exact z1mc (zt0n h)
 by_cases k2:q.kind=2
 ·have e : ∀ n:Int,n≠2→¬ q.kind=n:=fun n hn h=>hn (by omega)
  simp only [kqR,sqR,k2]
  exact zvlr (zt0n h)
 by_cases k3:q.kind=3
 ·simp only [kqR,sqR,k3]
  exact z1mc (zt0n h)
 by_cases k4:q.kind=4
 ·simp only [kqR,sqR,k4]
  exact zmlk (zt0n h)
 by_cases k5:q.kind=5
 ·simp only [kqR,sqR,k5]
  exact z3pb (zt0n h) fun f hf=>(zs6z.1 hf).2.1
 by_cases k6:q.kind=6
 ·simp only [kqR,sqR,k6]
  exact zpgm (zt0n h) (zrbi hn.n hn.d) _ _ rfl
 by_cases k7:q.kind=7
 ·simp only [kqR,sqR,k7]
  exact zvlr (zt0n h)
 ·have k8:q.kind=8:=by omega
  simp only [kqR,sqR,k8]
  exact z907 (zt0n h)
theorem zk3o {q:Req} (h:reqB q=true):1≤q.kind∧q.kind≤8:=by
 unfold reqB at h
 repeat' split at h
 all_goals first|omega|(simp only [Bool.and_eq_true,decide_eq_true_eq] at h; omega)
theorem zrjr {c:Cas} {o:Org} {q:Req} (h:RfOK c.f.l) (hn:FnOK c.n.l):SupEq (zwwp c o q) (ze4s c o q):=by
 unfold zwwp ze4s
 cases e:reqB q with
 | false=>exact ⟨rfl,rfl,rfl⟩
 | true=>exact zm0o h hn (zk3o e)
theorem zdkz {l D:List Dg} (h:l.length≤800000):subB (unR nilS l).l D=subB l D:=by
 have e2:(unR nilS l).l=dgsU l:=by rw [zptr _ _ (by simp [zb11]; omega)]; rfl
 rw [e2]
 unfold subB
 rw [Bool.eq_iff_iff,List.all_eq_true,List.all_eq_true]
 constructor
 ·intro a x hx; exact a x (by rw [dgsU,zoav zc3a]; exact hx)
 ·intro a x hx; exact a x (by rw [dgsU,zoav zc3a] at hx; exact hx)
theorem zpks {c:Cas} {o:Org} {q:Req} {D:Sl Dg} (h:RfOK c.f.l) (hn:FnOK c.n.l):byR c o q D=ByS c o q D.l:=by
 unfold byR ByS
 cases e:reqB q with
 | false=>rfl
 | true =>
  have hl:=h.n
  have hlb:(leR c.f.l D.l).length≤c.f.l.length:=List.length_filter_le _ _
  have hown:(ownN (leR c.f.l D.l)).l=leR c.f.l D.l:=zd8n (by omega)
  have k:=zm0o (c:=c) (x:=ownN (leR c.f.l D.l)) (o:=o) (q:=q) (by rw [hown]; exact ⟨by omega,fun f hf=>h.d f (List.mem_filter.1 hf).1⟩) hn (zk3o e)
  rw [← k.h,hown,zdkz (zrbi hn.n hn.d),Bool.true_and,Bool.true_and,Bool.and_comm]
  rfl
end Go.Proofs.YtdnhbfmlklaldaaGreat
