/-
  6 texts of mine in one.
-/
import Derived.Test.YtdnhbfmlklaldaaGreatCcc8d70aa
import Derived.Test.YtdnhbfmlklaldaaGreatC591cde46
import Derived.Test.YtdnhbfmlklaldaaGreatCa08d7010
import Derived.Test.YtdnhbfmlklaldaaGreatCfb5cead5
import Derived.Test.YtdnhbfmlklaldaaGreatC51c854d5
import Derived.Test.YtdnhbfmlklaldaaGreatCebc32a47
open List (map_take map_drop map_set map_append drop_one)
set_option linter.unusedSimpArgs false
set_option linter.unusedVariables false
namespace Go.Proofs.YtdnhbfmlklaldaaGreat
open Go Go.Am
def z382:ACode :=
  (.seq (.seq (.region false [⟨none,(some 46),.mov (.t 12)⟩,
    ⟨none,(some 47),.fld 1 (.t 11)⟩,
    ⟨none,(some 48),.load 1 false (.t 47)⟩,
    ⟨none,(some 49),.len (.t 48)⟩,
    ⟨none,(some 50),.bin .lss (.t 46) (.t 49)⟩,
    ⟨none,(some 51),.mov (.t 50)⟩,
    ⟨(some (51,true)),(some 52),.fld 0 (.t 10)⟩,
    ⟨(some (51,true)),(some 53),.load 1 false (.t 52)⟩,
    ⟨none,(some 54),.pick (.t 51) (.t 53) (.k (.bool false))⟩])
  (.cond (.t 54) .skip
  (.exit 0)))
  (.seq (.block 1 (.seq (.region true [⟨none,(some 57),.fld 1 (.t 10)⟩,
    ⟨none,(some 58),.load 1 false (.t 57)⟩,
    ⟨none,(some 59),.fld 1 (.t 11)⟩,
    ⟨none,(some 60),.load 1 false (.t 59)⟩,
    ⟨none,(some 61),.mov (.t 12)⟩,
    ⟨none,(some 62),.idxS 32 (.t 60) (.t 61)⟩,
    ⟨none,(some 63),.load 32 true (.t 62)⟩,
    ⟨none,(some 64),.callN (.k (.fn (.func 30) [] [])) [(.t 58),(.t 63)]⟩,
    ⟨none,(some 65),.un .not (.t 64)⟩])
  (.cond (.t 65) (.seq (.region false [⟨none,(some 6),.mov (.k (.bool false))⟩])
  .ret)
  .skip)))
  (.region false [⟨none,(some 55),.mov (.t 12)⟩,
    ⟨none,(some 56),.bin .add (.t 55) (.k (.int .i64 1))⟩,
    ⟨none,(some 12),.mov (.t 56)⟩])))
def z9o7 (x10 x11 x12:DV) (h:List AObj):St:=⟨js 10++[x10,x11,x12]++js 54,h⟩
def a10:AFn where
  code:=(.seq (.region false [⟨none,(some 6),.mov (.k (.bool false))⟩])
  (.seq (.region false [⟨none,(some 13),.mov (.t 0)⟩,
    ⟨none,(some 14),.call (.k (.fn (.func 24) [] [])) [(.t 13),(.k (.int .i64 300))]⟩,
    ⟨none,(some 7),.mov (.t 14)⟩])
  (.seq (.region false [⟨none,(some 15),.mov (.t 7)⟩,
    ⟨none,(some 16),.call (.k (.fn (.func 25) [] [])) [(.t 15),(.k (.int .i64 8)),(.k (.int .i64 8))]⟩,
    ⟨none,(some 17),.mov (.t 7)⟩,
    ⟨none,(some 18),.call (.k (.fn (.func 26) [] [])) [(.t 17)]⟩,
    ⟨none,(some 8),.alloc [(w8 0#8),(w8 0#8),(w8 0#8),(w8 0#8),(w8 0#8),(w8 0#8),(w8 0#8),(w8 0#8),(w8 0#8),(w8 0#8),(w8 0#8),(w8 0#8),(w8 0#8),(w8 0#8),(w8 0#8),(w8 0#8),(w8 0#8),(w8 0#8),(w8 0#8),(w8 0#8),(w8 0#8),(w8 0#8),(w8 0#8),(w8 0#8),(w8 0#8),(w8 0#8),(w8 0#8),(w8 0#8),(w8 0#8),(w8 0#8),(w8 0#8),(w8 0#8),(.int .i64 0),.nils,.nils,.nils]⟩,
    ⟨none,(some 9),.alloc [(w8 0#8),(w8 0#8),(w8 0#8),(w8 0#8),(w8 0#8),(w8 0#8),(w8 0#8),(w8 0#8),(w8 0#8),(w8 0#8),(w8 0#8),(w8 0#8),(w8 0#8),(w8 0#8),(w8 0#8),(w8 0#8),(w8 0#8),(w8 0#8),(w8 0#8),(w8 0#8),(w8 0#8),(w8 0#8),(w8 0#8),(w8 0#8),(w8 0#8),(w8 0#8),(w8 0#8),(w8 0#8),(w8 0#8),(w8 0#8),(w8 0#8),(w8 0#8),(.str []),(.str [])]⟩,
    ⟨none,none,.store 36 (.t 8) (.t 16)⟩,
    ⟨none,none,.store 34 (.t 9) (.t 18)⟩])
  (.seq (.region false [⟨none,(some 19),.mov (.t 1)⟩,
    ⟨none,(some 20),.call (.k (.fn (.func 16) [] [])) [(.t 19),(.k (.int .i64 10))]⟩,
    ⟨none,(some 21),.bin .add (.k (.int .i64 1)) (.t 20)⟩,
    ⟨none,(some 22),.mov (.t 2)⟩,
    ⟨none,(some 23),.call (.k (.fn (.func 16) [] [])) [(.t 22),(.k (.int .i64 10))]⟩,
    ⟨none,(some 24),.bin .add (.k (.int .i64 1)) (.t 23)⟩,
    ⟨none,(some 1),.mov (.t 21)⟩,
    ⟨none,(some 2),.mov (.t 24)⟩])
  (.seq (.region false [⟨none,(some 25),.load 36 true (.t 8)⟩,
    ⟨none,(some 26),.load 34 true (.t 9)⟩,
    ⟨none,(some 27),.mov (.t 1)⟩,
    ⟨none,(some 28),.mov (.t 2)⟩,
    ⟨none,(some 29),.mm false [(.t 27),(.t 28)]⟩,
    ⟨none,(some 30),.build [(.int .i64 0),(.int .i64 0),(.int .i64 0),(.str [])] [(0,1,(.k (.int .i64 6))),(1,1,(.t 29))]⟩,
    ⟨none,(some 31),.call (.k (.fn (.func 20) [] [])) [(.t 25),(.t 26),(.t 30)]⟩,
    ⟨none,(some 10),.alloc [(.bool false),.nils,(.int .i64 0)]⟩,
    ⟨none,none,.store 3 (.t 10) (.t 31)⟩])
  (.seq (.region false [⟨none,(some 32),.load 36 true (.t 8)⟩,
    ⟨none,(some 33),.load 34 true (.t 9)⟩,
    ⟨none,(some 34),.mov (.t 1)⟩,
    ⟨none,(some 35),.mov (.t 2)⟩,
    ⟨none,(some 36),.mm true [(.t 34),(.t 35)]⟩,
    ⟨none,(some 37),.build [(.int .i64 0),(.int .i64 0),(.int .i64 0),(.str [])] [(0,1,(.k (.int .i64 6))),(1,1,(.t 36))]⟩,
    ⟨none,(some 38),.call (.k (.fn (.func 20) [] [])) [(.t 32),(.t 33),(.t 37)]⟩,
    ⟨none,(some 11),.alloc [(.bool false),.nils,(.int .i64 0)]⟩,
    ⟨none,none,.store 3 (.t 11) (.t 38)⟩])
  (.seq (.seq (.region false [⟨none,(some 39),.fld 0 (.t 10)⟩,
    ⟨none,(some 40),.load 1 false (.t 39)⟩,
    ⟨none,(some 41),.mov (.t 40)⟩,
    ⟨(some (41,true)),(some 42),.fld 0 (.t 11)⟩,
    ⟨(some (41,true)),(some 43),.load 1 false (.t 42)⟩,
    ⟨(some (41,true)),(some 44),.un .not (.t 43)⟩,
    ⟨none,(some 45),.pick (.t 41) (.t 44) (.k (.bool false))⟩])
  (.cond (.t 45) (.seq (.region false [⟨none,(some 6),.mov (.k (.bool false))⟩])
  .ret)
  .skip))
  (.seq (.seq (.region false [⟨none,(some 12),.mov (.k (.int .i64 0))⟩])
  (.block 0 (.loop z382)))
  (.seq (.region false [⟨none,(some 66),.call (.k (.fn (.func 14) [] [])) []⟩,
    ⟨none,(some 6),.mov (.t 66)⟩])
  .ret)))))))))
  ntmps:=67
  res:=[.tmp 6]
theorem z1ee:zsjc P Tryz.f10=some a10:=by kernel_rfl
end Go.Proofs.YtdnhbfmlklaldaaGreat
set_option linter.unusedSimpArgs false
set_option linter.unusedVariables false
namespace Go.Proofs.YtdnhbfmlklaldaaGreat
open Go Go.Am
theorem ok_n {ds:List DV} (h:Ty.Ok (.int .i64) ds) : ∃ n:Int,(-9223372036854775808≤n∧n≤9223372036854775807)∧ds=[.int .i64 n]:=zrcx h
theorem zjzy {ds:List DV} (h:Ty.Ok (.sl (.int .i64)) ds) : ∃ x:Nl,(∀ n ∈ x.l,-9223372036854775808≤n∧n≤9223372036854775807)∧ds=[x.dv]:=by
  obtain ⟨k,l,h1,h2,rfl,hb⟩:=z61h (f:=inI) (R:=fun n => -9223372036854775808≤n∧n≤9223372036854775807) (fun ds h=>by obtain ⟨n,hn,rfl⟩:=zrcx h; exact ⟨n,hn,rfl⟩) h
  exact ⟨⟨k,l,h1,hb⟩,h2,rfl⟩
end Go.Proofs.YtdnhbfmlklaldaaGreat
set_option linter.unusedSimpArgs false
set_option linter.unusedVariables false
namespace Go.Proofs.YtdnhbfmlklaldaaGreat
open Go Go.Am
noncomputable def T710:Tbl:=addT 24 (.new zl5p) (addT 25 (.tch znvy) (addT 26 (.tch (cMk zbdu fun _=>3)) (addT 20 (.pure cChe) (addT 16 (.pure zqmv) (addT 30 (.pure cHas) (addT 14 (.pure cAw) tbl0))))))
theorem zk6u:T710 24 = .new zl5p:=by simp [T710]
theorem zmeb:T710 25 = .tch znvy:=by simp [T710]
theorem zofc:T710 26 = .tch (cMk zbdu fun _=>3):=by simp [T710]
theorem zpds:T710 20 = .pure cChe:=by simp [T710]
theorem zuxx:T710 16 = .pure zqmv:=by simp [T710]
theorem z948:T710 30 = .pure cHas:=by simp [T710]
theorem zerh:T710 14 = .pure cAw:=by simp [T710]
theorem z4i1:T710.Sound P:=z0rp ze95 (z0rp zpy7 (z0rp zbz5 (z0rp zl6h (z0rp zt30 (z0rp zi6e (z0rp z5bk zr5o))))))
structure Mk2 (x:Nl) (F N:Nat) (c:Cas) (o:Org) (t1 t2:Tp):Prop where
  m1:znvy [.int .i64 F,.int .i64 N] (tpC (tp0 x 300))=some (.agg (caC c),tpC t1)
  m2:cMk zbdu (fun _=>3) [] (tpC t1)=some (.agg (orC o),tpC t2)
  ht:t2.at_≤1000000
  s:CaSm c
theorem mk2 (x:Nl) (F N:Nat) (hF:F≤14) (hN:N≤8) : ∃ c o t1 t2,Mk2 x F N c o t1 t2:=by
  have h0:(tp0 x 300).at_=0:=rfl
  have h1:=zpit (t:=tp0 x 300) (F:=F) (N:=N)
  refine ⟨zhq6 (tp0 x 300) F N,z4m3 (zsjk (tp0 x 300) F N),zsjk (tp0 x 300) F N,(zsjk (tp0 x 300) F N).adv 3,?_⟩
  exact ⟨z5bc (by omega) (by omega) (by omega),zkde (by omega),by rw [zpza]; omega,z9e1 hF hN⟩
def S710 (t:Tp) (c:Cas) (o:Org) (X Y:Sup) (i:Nat):St:=z9o7 (.mp 3 3 0) (.mp 4 3 0) (.int .i64 i) [.cells (tpC t),.cells (caC c),.cells (orC o),.cells (suC X),.cells (suC Y)]
set_option maxRecDepth 20000 in
theorem z4ej (x:Nl) (a b:Int):Runs T710 a10 [x.dv,.int .i64 a,.int .i64 b] (.bool true):=by
  refine ⟨?_⟩
  have hT:=fun m=>zwy3 (x:=x) (n:=300) (by decide) m
  have hx:=zkx7 x
  obtain ⟨c,o,t1,t2,m1,m2,ht,s⟩:=mk2 x 8 8 (by omega) (by omega)
  simp only [show ((300:Nat):Int)=300 from rfl] at hT
  simp only [show ((8:Nat):Int)=8 from rfl] at m1
  have w1:=zcb9 (n:=a) (k:=10) (by omega) (by omega)
  have w2:=zcb9 (n:=b) (k:=10) (by omega) (by omega)
  have h1:0≤a % 10∧a % 10<10:=by omega
  have h2:0≤b % 10∧b % 10<10:=by omega
  obtain ⟨u,hu⟩ : ∃ u,a % 10=u:=⟨_,rfl⟩
  obtain ⟨v,hv⟩ : ∃ v,b % 10=v:=⟨_,rfl⟩
  rw [hu] at w1 h1
  rw [hv] at w2 h2
  have wu:IntKind.i64.wrap (1+u)=1+u:=by rw [IntKind.wrap_i64]; omega
  have wv:IntKind.i64.wrap (1+v)=1+v:=by rw [IntKind.wrap_i64]; omega
  obtain ⟨lo,hlo⟩ : ∃ lo,min (1+u) (1+v)=lo:=⟨_,rfl⟩
  obtain ⟨hi,hhi⟩ : ∃ hi,max (1+u) (1+v)=hi:=⟨_,rfl⟩
  have hlh:lo≤hi∧1≤lo∧hi≤10:=by omega
  have v1:reqB ⟨6,lo,0,[]⟩=true:=by simp [reqB,inB]; omega
  have v2:reqB ⟨6,hi,0,[]⟩=true:=by simp [reqB,inB]; omega
  have k1:=z1u0 (c:=c) (o:=o) (q:=⟨6,lo,0,[]⟩) fun _=>zu3n s s.f (fun h=>by simp at h)
  have k2:=z1u0 (c:=c) (o:=o) (q:=⟨6,hi,0,[]⟩) fun _=>zu3n s s.f (fun h=>by simp at h)
  have hsd:zpwi c.f.l c.n.l:=⟨by have:=s.f; omega,fun f hf=>by have:=s.d f hf; omega,by have:=s.n; omega,fun f hf=>by have:=s.m f hf; omega⟩
  have law:=z0e7 (c:=c) (o:=o) hlh.1 hsd
  have hC : ∀ n,reqB ⟨6,n,0,[]⟩=true→zvkf c c.f.l c.f.l o ⟨6,n,0,[]⟩=zwwp c o ⟨6,n,0,[]⟩:=fun n hn=>by unfold zwwp; rw [if_pos hn]
  rw [hC lo v1,hC hi v2] at law
  obtain ⟨X,hX⟩ : ∃ X,zwwp c o ⟨6,lo,0,[]⟩=X:=⟨_,rfl⟩
  obtain ⟨Y,hY⟩ : ∃ Y,zwwp c o ⟨6,hi,0,[]⟩=Y:=⟨_,rfl⟩
  rw [hX] at k1 law
  rw [hY] at k2 law
  have hYb:=Y.docs.b
  cases hXh:X.holds with
  | false =>
    simp (disch:=first|omega|(simp<;>omega)|fail) [-map_take,-map_drop,-map_set,-map_append,-drop_one,a10,zk6u,zmeb,zofc,zpds,zuxx,hT,hx,m1,m2,w1,w2,wu,wv,hlo,hhi,bd_q,k1,k2,hXh]
    refine zlm5 (S710 t2 c o X Y) (fun i=>Y.docs.l.length-i) (fun i=>i=0) 0 (z515 (by simp (disch:=first|omega|(simp<;>omega)|fail) [-map_take,-map_drop,-map_set,-map_append,-drop_one,S710,z9o7]) (by simp (disch:=first|omega|(simp<;>omega)|fail) [-map_take,-map_drop,-map_set,-map_append,-drop_one,S710,z9o7])) rfl (fun i hi => ?_)
    subst hi
    simp only [S710]
    by_cases h:0<Y.docs.l.length
    · simp (disch:=first|omega|(simp<;>omega)|fail) [-map_take,-map_drop,-map_set,-map_append,-drop_one,z382,z9o7,h,hXh,zerh,zths]
    · simp (disch:=first|omega|(simp<;>omega)|fail) [-map_take,-map_drop,-map_set,-map_append,-drop_one,z382,z9o7,h,hXh,zerh,zths]
  | true =>
    obtain ⟨hYh,hsub⟩:=law hXh
    simp (disch:=first|omega|(simp<;>omega)|fail) [-map_take,-map_drop,-map_set,-map_append,-drop_one,a10,zk6u,zmeb,zofc,zpds,zuxx,hT,hx,m1,m2,w1,w2,wu,wv,hlo,hhi,bd_q,k1,k2,hXh,hYh]
    refine zlm5 (S710 t2 c o X Y) (fun i=>Y.docs.l.length-i) (fun i=>i≤Y.docs.l.length) 0 (z515 (by simp (disch:=first|omega|(simp<;>omega)|fail) [-map_take,-map_drop,-map_set,-map_append,-drop_one,S710,z9o7]) (by simp (disch:=first|omega|(simp<;>omega)|fail) [-map_take,-map_drop,-map_set,-map_append,-drop_one,S710,z9o7])) (by simp) (fun i hi => ?_)
    simp only [S710]
    by_cases h:i<Y.docs.l.length
    · have h':(i:Int)<Y.docs.l.length:=by omega
      have hg : ∀ H,zpsc H 32 (Y.docs.dv 32 dgC) i=some (.ref (dgC Y.docs.l[i])):=fun H=>zalo z1t1 h
      have hm:=hsub _ (List.getElem_mem h)
      obtain ⟨d,hd⟩ : ∃ d,Y.docs.l[i]=d:=⟨_,rfl⟩
      rw [hd] at hg hm
      have hh:=zqi6 (x:=X.docs) (d:=d)
      simp (disch:=first|omega|(simp<;>omega)|fail) [-map_take,-map_drop,-map_set,-map_append,-drop_one,z382,z9o7,h,h',hg,hXh,z948,hh,hm]
      exact ⟨i+1,z515 (by simp (disch:=first|omega|(simp<;>omega)|fail) [-map_take,-map_drop,-map_set,-map_append,-drop_one,S710,z9o7]) (by simp (disch:=first|omega|(simp<;>omega)|fail) [-map_take,-map_drop,-map_set,-map_append,-drop_one,S710,z9o7]),by omega,by omega⟩
    · have h':¬ (i:Int)<Y.docs.l.length:=by omega
      simp (disch:=first|omega|(simp<;>omega)|fail) [-map_take,-map_drop,-map_set,-map_append,-drop_one,z382,z9o7,h,h',hXh,zerh,zths]
namespace requirementClean
theorem law_holds (dvs) (h:Ty.Args [.sl (.int .i64),.int .i64,.int .i64] dvs):Am.Sem P 10 dvs (.bool true):=by
  obtain ⟨d1,l1,rfl,h1,d2,l2,rfl,h2,d3,l3,rfl,h3,rfl⟩:=h
  obtain ⟨x,_,hx⟩:=zjzy h1
  obtain ⟨a,_,ha⟩:=ok_n h2
  obtain ⟨b,_,hb⟩:=ok_n h3
  cases hx; cases ha; cases hb
  exact zljw mix z4i1 Tryz.func10 z1ee (z4ej x a b)
end requirementClean
end Go.Proofs.YtdnhbfmlklaldaaGreat
set_option linter.unusedSimpArgs false
set_option linter.unusedVariables false
namespace Go.Proofs.YtdnhbfmlklaldaaGreat
open Go Go.Am
theorem zlkx {c c':Cas} {o:Org} {n m:Int} {f:Fct} (hc:c'.f.l=c.f.l++[f]) (hk:f.kind=4) (hr:f.rev=o.rev) (ha:f.agr=false) (h:(zwwp c' o ⟨4,n,m,[]⟩).holds=true):(zwwp c o ⟨4,n,m,[]⟩).holds=true:=by
  unfold zwwp at h ⊢
  by_cases hv:reqB ⟨4,n,m,[]⟩=true
  · rw [if_pos hv] at h ⊢
    obtain ⟨s,hs⟩ : ∃ s,zskr c.f.l 4 (.source o)=s:=⟨_,rfl⟩
    have hs':zskr c'.f.l 4 (.source o)=s++[f]:=by
      rw [← hs,zskr,zskr,hc,List.filter_append]
      congr 1
      simp [List.filter,Sel.p,hk,hr]
    have e1:zvkf c' c'.f.l c'.f.l o ⟨4,n,m,[]⟩=zo4d (s++[f]) (s++[f]) ⟨4,n,m,[]⟩:=by rw [← hs']; rfl
    have e2:zvkf c c.f.l c.f.l o ⟨4,n,m,[]⟩=zo4d s s ⟨4,n,m,[]⟩:=by rw [← hs]; rfl
    rw [e1] at h
    rw [e2]
    have sub : ∀ x ∈ zqgg s,x ∈ zqgg (s++[f]):=fun x hx=>by
      unfold zqgg at hx ⊢
      rw [z7zz] at hx ⊢
      obtain ⟨g,hg,e⟩:=hx
      exact ⟨g,by rw [List.filter_append]; exact List.mem_append_left _ hg,e⟩
    have hw:f.own ∈ zqgg (s++[f]):=by
      unfold zqgg
      rw [z7zz]
      exact ⟨f,by rw [List.mem_filter]; exact ⟨by simp,by simp [ha]⟩,rfl⟩
    have l1:(zqgg s).length≤(zqgg (s++[f])).length:=zxwy z3gj (z7nw _) (z7nw _) sub
    have l2:(zob0 (s++[f]) (s++[f])).length≤(zob0 s s).length:=zxwy z3gj (zpss _ _) (zpss _ _) fun x hx=>by
      unfold zob0 at hx ⊢
      rw [List.mem_filter] at hx ⊢
      obtain ⟨p,q⟩:=hx
      simp only [Bool.not_eq_true',decide_eq_false_iff_not] at q ⊢
      rw [z7zz] at p
      obtain ⟨g,hg,e⟩:=p
      refine ⟨z7zz.2 ?_,fun hx=>q (sub x hx)⟩
      rcases List.mem_append.1 hg with hg|hg
      · exact ⟨g,hg,e⟩
      · simp at hg; subst hg; subst e; exact absurd hw q
    unfold zo4d at h ⊢
    split at h
    · simp [zcc9] at h
    · rename_i h0
      rw [if_neg]
      · rfl
      · unfold z5nq at h0 ⊢
        simp only at h0 ⊢
        omega
  · rw [if_neg hv] at h
    simp [supZ] at h
end Go.Proofs.YtdnhbfmlklaldaaGreat
set_option linter.unusedSimpArgs false
set_option linter.unusedVariables false
namespace Go.Proofs.YtdnhbfmlklaldaaGreat
open Go Go.Am
def a9:AFn where
  code:=(.seq (.region false [⟨none,(some 4),.mov (.k (.bool false))⟩])
  (.seq (.region false [⟨none,(some 10),.mov (.t 0)⟩,
    ⟨none,(some 11),.call (.k (.fn (.func 24) [] [])) [(.t 10),(.k (.int .i64 300))]⟩,
    ⟨none,(some 5),.mov (.t 11)⟩])
  (.seq (.region false [⟨none,(some 12),.mov (.t 5)⟩,
    ⟨none,(some 13),.call (.k (.fn (.func 25) [] [])) [(.t 12),(.k (.int .i64 12)),(.k (.int .i64 0))]⟩,
    ⟨none,(some 14),.mov (.t 5)⟩,
    ⟨none,(some 15),.call (.k (.fn (.func 26) [] [])) [(.t 14)]⟩,
    ⟨none,(some 6),.alloc [(w8 0#8),(w8 0#8),(w8 0#8),(w8 0#8),(w8 0#8),(w8 0#8),(w8 0#8),(w8 0#8),(w8 0#8),(w8 0#8),(w8 0#8),(w8 0#8),(w8 0#8),(w8 0#8),(w8 0#8),(w8 0#8),(w8 0#8),(w8 0#8),(w8 0#8),(w8 0#8),(w8 0#8),(w8 0#8),(w8 0#8),(w8 0#8),(w8 0#8),(w8 0#8),(w8 0#8),(w8 0#8),(w8 0#8),(w8 0#8),(w8 0#8),(w8 0#8),(.int .i64 0),.nils,.nils,.nils]⟩,
    ⟨none,(some 7),.alloc [(w8 0#8),(w8 0#8),(w8 0#8),(w8 0#8),(w8 0#8),(w8 0#8),(w8 0#8),(w8 0#8),(w8 0#8),(w8 0#8),(w8 0#8),(w8 0#8),(w8 0#8),(w8 0#8),(w8 0#8),(w8 0#8),(w8 0#8),(w8 0#8),(w8 0#8),(w8 0#8),(w8 0#8),(w8 0#8),(w8 0#8),(w8 0#8),(w8 0#8),(w8 0#8),(w8 0#8),(w8 0#8),(w8 0#8),(w8 0#8),(w8 0#8),(w8 0#8),(.str []),(.str [])]⟩,
    ⟨none,none,.store 36 (.t 6) (.t 13)⟩,
    ⟨none,none,.store 34 (.t 7) (.t 15)⟩])
  (.seq (.region false [⟨none,(some 16),.mov (.t 5)⟩,
    ⟨none,(some 17),.call (.k (.fn (.func 29) [] [])) [(.t 16),(.k (.int .i64 2))]⟩,
    ⟨none,(some 18),.bin .add (.k (.int .i64 1)) (.t 17)⟩,
    ⟨none,(some 19),.mov (.t 5)⟩,
    ⟨none,(some 20),.call (.k (.fn (.func 29) [] [])) [(.t 19),(.k (.int .i64 2))]⟩,
    ⟨none,(some 21),.build [(.int .i64 0),(.int .i64 0),(.int .i64 0),(.str [])] [(0,1,(.k (.int .i64 4))),(1,1,(.t 18)),(2,1,(.t 20))]⟩,
    ⟨none,(some 8),.alloc [(.int .i64 0),(.int .i64 0),(.int .i64 0),(.str [])]⟩,
    ⟨none,none,.store 4 (.t 8) (.t 21)⟩])
  (.seq (.region false [⟨none,(some 22),.load 36 true (.t 6)⟩,
    ⟨none,(some 9),.alloc [(w8 0#8),(w8 0#8),(w8 0#8),(w8 0#8),(w8 0#8),(w8 0#8),(w8 0#8),(w8 0#8),(w8 0#8),(w8 0#8),(w8 0#8),(w8 0#8),(w8 0#8),(w8 0#8),(w8 0#8),(w8 0#8),(w8 0#8),(w8 0#8),(w8 0#8),(w8 0#8),(w8 0#8),(w8 0#8),(w8 0#8),(w8 0#8),(w8 0#8),(w8 0#8),(w8 0#8),(w8 0#8),(w8 0#8),(w8 0#8),(w8 0#8),(w8 0#8),(.int .i64 0),.nils,.nils,.nils]⟩,
    ⟨none,none,.store 36 (.t 9) (.t 22)⟩])
  (.seq (.region true [⟨none,(some 23),.fld 33 (.t 6)⟩,
    ⟨none,(some 24),.load 1 false (.t 23)⟩,
    ⟨none,(some 25),.app 71 160 (.k .nils) (.t 24)⟩,
    ⟨none,(some 26),.bsl 1 4 [(.str [])] [(0,1,(.k (.str [97,110,110]))),(1,1,(.k (.str [98,111,98]))),(2,1,(.k (.str [99,97,116]))),(3,1,(.k (.str [100,97,110])))]⟩,
    ⟨none,(some 27),.mov (.t 1)⟩,
    ⟨none,(some 31),.fld 0 (.t 7)⟩,
    ⟨none,(some 32),.load 32 true (.t 31)⟩,
    ⟨none,(some 33),.build (rep 32 (w8 0#8)) [(0,1,(.k (w8 99#8)))]⟩,
    ⟨none,(some 34),.bsl 32 1 (rep 32 (w8 0#8)) [(0,32,(.t 33))]⟩,
    ⟨none,(some 28),.callN (.k (.fn (.func 16) [] [])) [(.t 27),(.k (.int .i64 4))]⟩,
    ⟨none,(some 29),.idxS 1 (.t 26) (.t 28)⟩,
    ⟨none,(some 30),.load 1 false (.t 29)⟩,
    ⟨none,(some 35),.build [(.int .i64 0),(.str []),(w8 0#8),(w8 0#8),(w8 0#8),(w8 0#8),(w8 0#8),(w8 0#8),(w8 0#8),(w8 0#8),(w8 0#8),(w8 0#8),(w8 0#8),(w8 0#8),(w8 0#8),(w8 0#8),(w8 0#8),(w8 0#8),(w8 0#8),(w8 0#8),(w8 0#8),(w8 0#8),(w8 0#8),(w8 0#8),(w8 0#8),(w8 0#8),(w8 0#8),(w8 0#8),(w8 0#8),(w8 0#8),(w8 0#8),(w8 0#8),(w8 0#8),(w8 0#8),(.str []),(.str []),(.int .i64 0),(.bool false),(w8 0#8),(w8 0#8),(w8 0#8),(w8 0#8),(w8 0#8),(w8 0#8),(w8 0#8),(w8 0#8),(w8 0#8),(w8 0#8),(w8 0#8),(w8 0#8),(w8 0#8),(w8 0#8),(w8 0#8),(w8 0#8),(w8 0#8),(w8 0#8),(w8 0#8),(w8 0#8),(w8 0#8),(w8 0#8),(w8 0#8),(w8 0#8),(w8 0#8),(w8 0#8),(w8 0#8),(w8 0#8),(w8 0#8),(w8 0#8),(w8 0#8),(w8 0#8),.nils] [(0,1,(.k (.int .i64 4))),(1,1,(.t 30)),(2,32,(.t 32)),(70,1,(.t 34))]⟩,
    ⟨none,(some 36),.bsl 71 1 [(.int .i64 0),(.str []),(w8 0#8),(w8 0#8),(w8 0#8),(w8 0#8),(w8 0#8),(w8 0#8),(w8 0#8),(w8 0#8),(w8 0#8),(w8 0#8),(w8 0#8),(w8 0#8),(w8 0#8),(w8 0#8),(w8 0#8),(w8 0#8),(w8 0#8),(w8 0#8),(w8 0#8),(w8 0#8),(w8 0#8),(w8 0#8),(w8 0#8),(w8 0#8),(w8 0#8),(w8 0#8),(w8 0#8),(w8 0#8),(w8 0#8),(w8 0#8),(w8 0#8),(w8 0#8),(.str []),(.str []),(.int .i64 0),(.bool false),(w8 0#8),(w8 0#8),(w8 0#8),(w8 0#8),(w8 0#8),(w8 0#8),(w8 0#8),(w8 0#8),(w8 0#8),(w8 0#8),(w8 0#8),(w8 0#8),(w8 0#8),(w8 0#8),(w8 0#8),(w8 0#8),(w8 0#8),(w8 0#8),(w8 0#8),(w8 0#8),(w8 0#8),(w8 0#8),(w8 0#8),(w8 0#8),(w8 0#8),(w8 0#8),(w8 0#8),(w8 0#8),(w8 0#8),(w8 0#8),(w8 0#8),(w8 0#8),.nils] [(0,71,(.t 35))]⟩,
    ⟨none,(some 37),.app 71 160 (.t 25) (.t 36)⟩,
    ⟨none,(some 38),.fld 33 (.t 9)⟩,
    ⟨none,none,.store 1 (.t 38) (.t 37)⟩,
    ⟨none,none,.apart (.t 7) (.t 25)⟩,
    ⟨none,none,.apart (.t 31) (.t 25)⟩])
  (.seq (.region false [⟨none,(some 39),.load 36 true (.t 9)⟩,
    ⟨none,(some 40),.load 34 true (.t 7)⟩,
    ⟨none,(some 41),.load 4 true (.t 8)⟩,
    ⟨none,(some 42),.call (.k (.fn (.func 20) [] [])) [(.t 39),(.t 40),(.t 41)]⟩,
    ⟨none,(some 43),.getf 0 1 false (.t 42)⟩,
    ⟨none,(some 44),.un .not (.t 43)⟩,
    ⟨none,(some 45),.mov (.t 44)⟩,
    ⟨(some (45,false)),(some 46),.load 36 true (.t 6)⟩,
    ⟨(some (45,false)),(some 47),.load 34 true (.t 7)⟩,
    ⟨(some (45,false)),(some 48),.load 4 true (.t 8)⟩,
    ⟨(some (45,false)),(some 49),.call (.k (.fn (.func 20) [] [])) [(.t 46),(.t 47),(.t 48)]⟩,
    ⟨(some (45,false)),(some 50),.getf 0 1 false (.t 49)⟩,
    ⟨none,(some 51),.pick (.t 45) (.k (.bool true)) (.t 50)⟩,
    ⟨none,(some 52),.mov (.t 51)⟩,
    ⟨(some (52,true)),(some 53),.call (.k (.fn (.func 14) [] [])) []⟩,
    ⟨none,(some 54),.pick (.t 52) (.t 53) (.k (.bool false))⟩,
    ⟨none,(some 4),.mov (.t 54)⟩])
  .ret)))))))
  ntmps:=55
  res:=[.tmp 4]
theorem z528:zsjc P Tryz.f9=some a9:=by kernel_rfl
end Go.Proofs.YtdnhbfmlklaldaaGreat
set_option linter.unusedSimpArgs false
set_option linter.unusedVariables false
namespace Go.Proofs.YtdnhbfmlklaldaaGreat
open Go Go.Am
def faH (w:Str) (b:B8):Fct:=⟨4,w,dgW b,[],[],0,false,dg0,mkD 99#8⟩
theorem z89o {w:Str} {b:B8}:zvnk [.int .i64 0,.str [],w8 0#8,w8 0#8,w8 0#8,w8 0#8,w8 0#8,w8 0#8,w8 0#8,w8 0#8,w8 0#8,w8 0#8,w8 0#8,w8 0#8,w8 0#8,w8 0#8,w8 0#8,w8 0#8,w8 0#8,w8 0#8,w8 0#8,w8 0#8,w8 0#8,w8 0#8,w8 0#8,w8 0#8,w8 0#8,w8 0#8,w8 0#8,w8 0#8,w8 0#8,w8 0#8,w8 0#8,w8 0#8,.str [],.str [],.int .i64 0,.bool false,w8 0#8,w8 0#8,w8 0#8,w8 0#8,w8 0#8,w8 0#8,w8 0#8,w8 0#8,w8 0#8,w8 0#8,w8 0#8,w8 0#8,w8 0#8,w8 0#8,w8 0#8,w8 0#8,w8 0#8,w8 0#8,w8 0#8,w8 0#8,w8 0#8,w8 0#8,w8 0#8,w8 0#8,w8 0#8,w8 0#8,w8 0#8,w8 0#8,w8 0#8,w8 0#8,w8 0#8,w8 0#8,.nils] [(0,1,.int .i64 4),(1,1,.str w),(2,32,.agg (dgC (dgW b))),(70,1,.sl true 32 1 (dgC (dgW 99#8)))]=some (.agg (faC (faH w b))):=by kernel_rfl
theorem z6pq {a b:Int}:zvnk [.int .i64 0,.int .i64 0,.int .i64 0,.str []] [(0,1,.int .i64 4),(1,1,.int .i64 a),(2,1,.int .i64 b)]=some (.agg (rqC ⟨4,a,b,[]⟩)):=rfl
theorem zxwo {w:Str} {b:B8}:bslD 71 1 [.int .i64 0,.str [],w8 0#8,w8 0#8,w8 0#8,w8 0#8,w8 0#8,w8 0#8,w8 0#8,w8 0#8,w8 0#8,w8 0#8,w8 0#8,w8 0#8,w8 0#8,w8 0#8,w8 0#8,w8 0#8,w8 0#8,w8 0#8,w8 0#8,w8 0#8,w8 0#8,w8 0#8,w8 0#8,w8 0#8,w8 0#8,w8 0#8,w8 0#8,w8 0#8,w8 0#8,w8 0#8,w8 0#8,w8 0#8,.str [],.str [],.int .i64 0,.bool false,w8 0#8,w8 0#8,w8 0#8,w8 0#8,w8 0#8,w8 0#8,w8 0#8,w8 0#8,w8 0#8,w8 0#8,w8 0#8,w8 0#8,w8 0#8,w8 0#8,w8 0#8,w8 0#8,w8 0#8,w8 0#8,w8 0#8,w8 0#8,w8 0#8,w8 0#8,w8 0#8,w8 0#8,w8 0#8,w8 0#8,w8 0#8,w8 0#8,w8 0#8,w8 0#8,w8 0#8,w8 0#8,.nils] [(0,71,.agg (faC (faH w b)))]=some (.sl true 71 1 (faC (faH w b))):=by kernel_rfl
noncomputable def T720:Tbl:=addT 24 (.new zl5p) (addT 25 (.tch znvy) (addT 26 (.tch (cMk zbdu fun _=>3)) (addT 20 (.pure cChe) (addT 16 (.pure zqmv) (addT 29 (.tch z1m3) (addT 14 (.pure cAw) tbl0))))))
theorem zk5j:T720 24 = .new zl5p:=by simp [T720]
theorem zznu:T720 25 = .tch znvy:=by simp [T720]
theorem zva9:T720 26 = .tch (cMk zbdu fun _=>3):=by simp [T720]
theorem zcfy:T720 20 = .pure cChe:=by simp [T720]
theorem zjmx:T720 16 = .pure zqmv:=by simp [T720]
theorem zjnq:T720 29 = .tch z1m3:=by simp [T720]
theorem zokb:T720 14 = .pure cAw:=by simp [T720]
theorem z0xy:T720.Sound P:=z0rp ze95 (z0rp zpy7 (z0rp zbz5 (z0rp zl6h (z0rp zt30 (z0rp z51e (z0rp z5bk zr5o))))))
theorem mk2b (x:Nl) (F N:Nat) (hF:F≤14) (hN:N≤8) : ∃ c b l r t1 t2,Mk2 x F N c ⟨dgW b,l,r⟩ t1 t2∧c.f.l.length≤F:=by
  have h0:(tp0 x 300).at_=0:=rfl
  have h1:=zpit (t:=tp0 x 300) (F:=F) (N:=N)
  refine ⟨zhq6 (tp0 x 300) F N,BitVec.ofInt 8 (1+tpN (zsjk (tp0 x 300) F N) 2),zzh5 ((zsjk (tp0 x 300) F N).adv 1) z78s,zzh5 ((zsjk (tp0 x 300) F N).adv 2) z1mk,zsjk (tp0 x 300) F N,(zsjk (tp0 x 300) F N).adv 3,?_⟩
  exact ⟨⟨z5bc (by omega) (by omega) (by omega),zkde (by omega),by rw [zpza]; omega,z9e1 hF hN⟩,by
    rw [show (zhq6 (tp0 x 300) F N).f.l=(caP (tp0 x 300) F).1 from zd8n (by have:=za99 (tp0 x 300) F; omega)]
    exact za99 _ _⟩
def zy0g (c:Cas) (f:Fct):Cas:={ c with f:=own (c.f.l++[f]) }
theorem zoex {c:Cas} {f:Fct} (h:c.f.l.length≤1000):(zy0g c f).f.l=c.f.l++[f]:=z3e9 (by simp; omega)
theorem zx16 {c:Cas} {f:Fct} (h:c.f.l.length≤1000):dgC c.art++[.int .i64 c.at_,.sl false 71 (c.f.l.length+1) (fl faC (c.f.l++[f])),c.n.dv 39 fnC,c.d.dv 1 stC]=caC (zy0g c f):=by
  have h1:(zy0g c f).f.dv 71 faC = .sl false 71 (c.f.l.length+1) (fl faC (c.f.l++[f])):=by
    show (own (c.f.l++[f])).dv 71 faC=_
    rw [zqrs (by simp; omega),List.length_append]; rfl
  rw [← h1]; rfl
theorem zd9h {c:Cas} {w:Str} {b:B8} (s:CaSm c) (h:c.f.l.length≤13):CaSm (zy0g c (faH w b)):=by
  have hl:=zoex (c:=c) (f:=faH w b) (by omega)
  refine ⟨by rw [hl]; simp; omega,fun f hf => ?_,s.n,s.m,s.e⟩
  rw [hl] at hf
  rcases List.mem_append.1 hf with hf|hf
  · exact s.d f hf
  · simp at hf; subst hf; simp [faH,mkD]
set_option maxRecDepth 20000 in
theorem z865 (x:Nl) (w:Int):V P 0 a9.code (retK a9.res (.bool true)) ⟨zr5g a9.ntmps [x.dv,.int .i64 w],[]⟩:=by
  have hT:=fun m=>zwy3 (x:=x) (n:=300) (by decide) m
  have hx:=zkx7 x
  obtain ⟨c,b,lay,run,t1,t2,⟨m1,m2,ht,s⟩,hc12⟩:=mk2b x 12 0 (by omega) (by omega)
  simp only [show ((300:Nat):Int)=300 from rfl] at hT
  simp only [show ((12:Nat):Int)=12 from rfl,show ((0:Nat):Int)=0 from rfl] at m1
  have n1:=z4rs t2 2
  have n2:=z2s7 t2 (n:=2) (by omega)
  have n3:=z4rs (t2.adv 1) 2
  have n4:=z2s7 (t2.adv 1) (n:=2) (by omega)
  have p1:=z44h (t:=t2) (n:=2) (by omega) (by omega) (by omega)
  have p2:=z44h (t:=t2.adv 1) (n:=2) (by rw [zpza]; omega) (by omega) (by omega)
  obtain ⟨N,hN⟩ : ∃ N,tpN t2 2=N:=⟨_,rfl⟩
  obtain ⟨M,hM⟩ : ∃ M,tpN (t2.adv 1) 2=M:=⟨_,rfl⟩
  rw [hN] at n1 n2 p1
  rw [hM] at n3 n4 p2
  have wN:IntKind.i64.wrap (1+N)=1+N:=by rw [IntKind.wrap_i64]; omega
  have w1:=zcb9 (n:=w) (k:=4) (by omega) (by omega)
  have h1:0≤w % 4∧w % 4<4:=by omega
  obtain ⟨u,hu⟩ : ∃ u,w % 4=u:=⟨_,rfl⟩
  rw [hu] at w1 h1
  refine zbn1 (V_W mix z0xy ?_)
  simp (disch:=first|omega|(simp<;>omega)|fail) [-map_take,-map_drop,-map_set,-map_append,-drop_one,a9]
  refine zbn1 (V_W mix z0xy ?_)
  simp (disch:=first|omega|(simp<;>omega)|fail) [-map_take,-map_drop,-map_set,-map_append,-drop_one,zk5j,hT,hx]
  refine zbn1 (V_W mix z0xy ?_)
  simp (disch:=first|omega|(simp<;>omega)|fail) [-map_take,-map_drop,-map_set,-map_append,-drop_one,zznu,zva9,m1,m2]
  refine zbn1 (V_W mix z0xy ?_)
  simp (disch:=first|omega|(simp<;>omega)|fail) [-map_take,-map_drop,-map_set,-map_append,-drop_one,zjnq,p1,p2,wN,z6pq]
  refine zbn1 (V_W mix z0xy ?_)
  simp (disch:=first|omega|(simp<;>omega)|fail) [-map_take,-map_drop,-map_set,-map_append,-drop_one]
  obtain ⟨W,hW⟩ : ∃ W,∀ H,zpsc H 1 (.sl true 1 4 [.str [97,110,110],.str [98,111,98],.str [99,97,116],.str [100,97,110]]) u=some (.ref [.str W]):=by
    rcases (show u=0∨u=1∨u=2∨u=3 by omega) with rfl|rfl|rfl|rfl
    · exact ⟨[97,110,110],fun H=>rfl⟩
    · exact ⟨[98,111,98],fun H=>rfl⟩
    · exact ⟨[99,97,116],fun H=>rfl⟩
    · exact ⟨[100,97,110],fun H=>rfl⟩
  have hv : ∀ H,visY H (c.f.dv 71 faC)=some (c.f.l.length,c.f.l.flatMap faC):=fun H=>zwaa zs77
  have hvF : ∀ H,visY H (.sl true 71 1 (faC (faH W b)))=some (1,faC (faH W b)):=fun H=>by simp [visY,zs77]
  have hset : ∀ V:DV,(caC c).set 33 V=dgC c.art++[.int .i64 c.at_,V,c.n.dv 39 fnC,c.d.dv 1 stC]:=fun V=>by
    rw [show caC c=dgC c.art++[.int .i64 c.at_,c.f.dv 71 faC,c.n.dv 39 fnC,c.d.dv 1 stC] from rfl,List.set_append_right _ _ (by rw [z1t1]; decide),z1t1]
    rfl
  have v1:reqB ⟨4,1+N,M,[]⟩=true:=by simp [reqB,inB]; omega
  have rq:RqSm ⟨4,1+N,M,[]⟩:=fun _=>⟨by simp; omega,by simp; omega,by simp; omega,by simp; omega⟩
  have k2:=z1u0 (c:=c) (o:=⟨dgW b,lay,run⟩) (q:=⟨4,1+N,M,[]⟩) fun _=>zu3n s s.f rq
  have s':=zd9h (w:=W) (b:=b) s (by omega)
  have k1:=z1u0 (c:=zy0g c (faH W b)) (o:=⟨dgW b,lay,run⟩) (q:=⟨4,1+N,M,[]⟩) fun _=>zu3n s' s'.f rq
  have law:=zlkx (c:=c) (c':=zy0g c (faH W b)) (o:=⟨dgW b,lay,run⟩) (n:=1+N) (m:=M) (f:=faH W b) (zoex (by omega)) rfl rfl rfl
  have hca:=zx16 (c:=c) (f:=faH W b) (by omega)
  have hpd:=fun K H=>zrip (K:=K) (h:=H) (z3ot c.art)
  have hxk:=fun K H=>zvft (K:=K) (h:=H) hx
  have htk : ∀ K H,mk1 K H (.tup []) = .tup []:=fun K H=>zvft (K:=K) (h:=H) rfl
  have hpn:=zp6k zl9f c.n.l
  have hp:=zp6k z93p (c.f.l++[faH W b])
  obtain ⟨X,hX⟩ : ∃ X,zwwp (zy0g c (faH W b)) ⟨dgW b,lay,run⟩ ⟨4,1+N,M,[]⟩=X:=⟨_,rfl⟩
  obtain ⟨Y,hY⟩ : ∃ Y,zwwp c ⟨dgW b,lay,run⟩ ⟨4,1+N,M,[]⟩=Y:=⟨_,rfl⟩
  rw [hX] at k1 law
  rw [hY] at k2 law
  have sf:=s.f
  by_cases e:c.f.l=[]
  · have hap:=zw6v (h:=[AObj.cells (tpC ((t2.adv 1).adv 1)),.cells (caC c),.cells (orC ⟨dgW b,lay,run⟩),.cells (rqC ⟨4,1+N,M,[]⟩),.cells (caC c)]) (s:=71) (b:=160) (by decide) (by decide)
    have hap2:=zsuq (h:=[AObj.cells (tpC ((t2.adv 1).adv 1)),.cells (caC c),.cells (orC ⟨dgW b,lay,run⟩),.cells (rqC ⟨4,1+N,M,[]⟩),.cells (caC c)]) (s:=71) (b:=160) (m:=1) (cs:=faC (faH W b)) (by decide) (by decide) (by rw [zs77]) (by decide) (by decide)
    rw [e] at hv
    have hv : ∀ H,visY H (c.f.dv 71 faC)=some (0,[]):=hv
    rw [zs77] at hap2
    simp only [List.length_cons,List.length_nil,Nat.zero_add] at hap2
    refine zbn1 (V_W mix z0xy ?_)
    simp (disch:=first|omega|(simp<;>omega)|fail) [-map_take,-map_drop,-map_set,-map_append,-drop_one,zjmx,w1,z7ni,bs_d,z89o,zxwo,hap,hap2,hv,hvF,hW,hset]
    have hca:dgC c.art++[.int .i64 c.at_,.sl false 71 1 (faC (faH W b)),c.n.dv 39 fnC,c.d.dv 1 stC]=caC (zy0g c (faH W b)):=by rw [← hca,e]; simp [fl]
    have hp1:=z93p (faH W b)
    refine V_mk (fun id=>decide (id<5)) ?_
    simp (disch:=first|omega|(simp<;>omega)|fail) [-map_take,-map_drop,-map_set,-map_append,-drop_one,zqm6,hpd,hp1,zs77,List.take_of_length_le,hca,hxk,htk]
    refine zbn1 (V_W mix z0xy ?_)
    cases hXh:X.holds with
    | false =>
      simp (disch:=first|omega|(simp<;>omega)|fail) [-map_take,-map_drop,-map_set,-map_append,-drop_one,zcfy,k1,k2,hXh,zokb,zths]
      refine V_W mix z0xy ?_
      simp (disch:=first|omega|(simp<;>omega)|fail) [-map_take,-map_drop,-map_set,-map_append,-drop_one]
    | true =>
      simp (disch:=first|omega|(simp<;>omega)|fail) [-map_take,-map_drop,-map_set,-map_append,-drop_one,zcfy,k1,k2,hXh,law hXh,zokb,zths]
      refine V_W mix z0xy ?_
      simp (disch:=first|omega|(simp<;>omega)|fail) [-map_take,-map_drop,-map_set,-map_append,-drop_one]
  · have hpos:0<c.f.l.length:=List.length_pos_iff.2 e
    have hap:=zsuq (h:=[AObj.cells (tpC ((t2.adv 1).adv 1)),.cells (caC c),.cells (orC ⟨dgW b,lay,run⟩),.cells (rqC ⟨4,1+N,M,[]⟩),.cells (caC c)]) (s:=71) (b:=160) (m:=c.f.l.length) (cs:=c.f.l.flatMap faC) (by decide) (by decide) (z1rq zs77 _).symm hpos (by omega)
    have hap2:=zkg3 (h:=[AObj.cells (tpC ((t2.adv 1).adv 1)),.cells (caC c),.cells (orC ⟨dgW b,lay,run⟩),.cells (rqC ⟨4,1+N,M,[]⟩),.cells (caC c),.cells (fl faC c.f.l)]) (id:=5) (b:=160) (l:=c.f.l) (x:=faH W b) zs77 (by decide) (by decide) (fun _=>zfgo) (by omega) (by simp [objV,ziu0,z8lx zs77])
    rw [z1rq zs77] at hap
    rw [show c.f.l.flatMap faC=fl faC c.f.l from rfl] at hap hv
    simp only [List.length_cons,List.length_nil,Nat.zero_add] at hap
    obtain ⟨n,hn⟩ : ∃ n,c.f.l.length=n:=⟨_,rfl⟩
    rw [hn] at hap hap2 hv hca hc12
    have hfl:(fl faC (c.f.l++[faH W b])).length=(n+1)*71:=by rw [z8lx zs77,List.length_append,hn]; rfl
    have hp1:zbao (fl faC (c.f.l++[faH W b]))=true:=hp
    refine zbn1 (V_W mix z0xy ?_)
    simp (disch:=first|omega|(simp<;>omega)|fail) [-map_take,-map_drop,-map_set,-map_append,-drop_one,zjmx,w1,z7ni,bs_d,z89o,zxwo,hap,hap2,hv,hvF,hW,hset]
    refine V_mk (fun id=>decide (id<5)) ?_
    simp (disch:=first|omega|(simp<;>omega)|fail) [-map_take,-map_drop,-map_set,-map_append,-drop_one,zqm6,hpd,hp1,hfl,List.take_of_length_le,hca,hxk,htk]
    refine zbn1 (V_W mix z0xy ?_)
    cases hXh:X.holds with
    | false =>
      simp (disch:=first|omega|(simp<;>omega)|fail) [-map_take,-map_drop,-map_set,-map_append,-drop_one,zcfy,k1,k2,hXh,zokb,zths]
      refine V_W mix z0xy ?_
      simp (disch:=first|omega|(simp<;>omega)|fail) [-map_take,-map_drop,-map_set,-map_append,-drop_one]
    | true =>
      simp (disch:=first|omega|(simp<;>omega)|fail) [-map_take,-map_drop,-map_set,-map_append,-drop_one,zcfy,k1,k2,hXh,law hXh,zokb,zths]
      refine V_W mix z0xy ?_
      simp (disch:=first|omega|(simp<;>omega)|fail) [-map_take,-map_drop,-map_set,-map_append,-drop_one]
namespace requirementHostile
theorem law_holds (dvs) (h:Ty.Args [.sl (.int .i64),.int .i64] dvs):Am.Sem P 9 dvs (.bool true):=by
  obtain ⟨d1,l1,rfl,h1,d2,l2,rfl,h2,rfl⟩:=h
  obtain ⟨x,_,hx⟩:=zjzy h1
  obtain ⟨a,_,ha⟩:=ok_n h2
  cases hx; cases ha
  exact znz9 Tryz.func9 z528 (z865 x a)
end requirementHostile
end Go.Proofs.YtdnhbfmlklaldaaGreat
