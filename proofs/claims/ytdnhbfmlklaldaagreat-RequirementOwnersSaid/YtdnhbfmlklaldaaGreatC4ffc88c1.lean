/-
  6 texts of mine in one.
-/
import Derived.Test.YtdnhbfmlklaldaaGreatCcc8d70aa
import Derived.Test.YtdnhbfmlklaldaaGreatC591cde46
import Derived.Test.YtdnhbfmlklaldaaGreatCa08d7010
import Derived.Test.YtdnhbfmlklaldaaGreatCeb66447c
import Derived.Test.YtdnhbfmlklaldaaGreatCbe6c96c6
import Derived.Test.YtdnhbfmlklaldaaGreatC4748b32f
open List (map_take map_drop map_set map_append drop_one)
set_option linter.unusedSimpArgs false
set_option linter.unusedVariables false
namespace Go.Proofs.YtdnhbfmlklaldaaGreat
open Go Go.Am
def z382:ACode :=
  (.seq (.seq (.region false [⟨none,(some 46),.mov (.t 12)⟩,
    ⟨none,(some 47),.fld 1 (.t 11)⟩,
    ⟨none,(some 48),.load 1 false (.t 47)⟩,
    ⟨none,(some 49),.len (.t 48)⟩,
    ⟨none,(some 50),.bin .lss (.t 46) (.t 49)⟩,
    ⟨none,(some 51),.mov (.t 50)⟩,
    ⟨(some (51,true)),(some 52),.fld 0 (.t 10)⟩,
    ⟨(some (51,true)),(some 53),.load 1 false (.t 52)⟩,
    ⟨none,(some 54),.pick (.t 51) (.t 53) (.k (.bool false))⟩])
  (.cond (.t 54) .skip
  (.exit 0)))
  (.seq (.block 1 (.seq (.region true [⟨none,(some 57),.fld 1 (.t 10)⟩,
    ⟨none,(some 58),.load 1 false (.t 57)⟩,
    ⟨none,(some 59),.fld 1 (.t 11)⟩,
    ⟨none,(some 60),.load 1 false (.t 59)⟩,
    ⟨none,(some 61),.mov (.t 12)⟩,
    ⟨none,(some 62),.idxS 32 (.t 60) (.t 61)⟩,
    ⟨none,(some 63),.load 32 true (.t 62)⟩,
    ⟨none,(some 64),.callN (.k (.fn (.func 30) [] [])) [(.t 58),(.t 63)]⟩,
    ⟨none,(some 65),.un .not (.t 64)⟩])
  (.cond (.t 65) (.seq (.region false [⟨none,(some 6),.mov (.k (.bool false))⟩])
  .ret)
  .skip)))
  (.region false [⟨none,(some 55),.mov (.t 12)⟩,
    ⟨none,(some 56),.bin .add (.t 55) (.k (.int .i64 1))⟩,
    ⟨none,(some 12),.mov (.t 56)⟩])))
def z9o7 (x10 x11 x12:DV) (h:List AObj):St:=⟨js 10++[x10,x11,x12]++js 54,h⟩
def a10:AFn where
  code:=(.seq (.region false [⟨none,(some 6),.mov (.k (.bool false))⟩])
  (.seq (.region false [⟨none,(some 13),.mov (.t 0)⟩,
    ⟨none,(some 14),.call (.k (.fn (.func 24) [] [])) [(.t 13),(.k (.int .i64 300))]⟩,
    ⟨none,(some 7),.mov (.t 14)⟩])
  (.seq (.region false [⟨none,(some 15),.mov (.t 7)⟩,
    ⟨none,(some 16),.call (.k (.fn (.func 25) [] [])) [(.t 15),(.k (.int .i64 8)),(.k (.int .i64 8))]⟩,
    ⟨none,(some 17),.mov (.t 7)⟩,
    ⟨none,(some 18),.call (.k (.fn (.func 26) [] [])) [(.t 17)]⟩,
    ⟨none,(some 8),.alloc [(w8 0#8),(w8 0#8),(w8 0#8),(w8 0#8),(w8 0#8),(w8 0#8),(w8 0#8),(w8 0#8),(w8 0#8),(w8 0#8),(w8 0#8),(w8 0#8),(w8 0#8),(w8 0#8),(w8 0#8),(w8 0#8),(w8 0#8),(w8 0#8),(w8 0#8),(w8 0#8),(w8 0#8),(w8 0#8),(w8 0#8),(w8 0#8),(w8 0#8),(w8 0#8),(w8 0#8),(w8 0#8),(w8 0#8),(w8 0#8),(w8 0#8),(w8 0#8),(.int .i64 0),.nils,.nils,.nils]⟩,
    ⟨none,(some 9),.alloc [(w8 0#8),(w8 0#8),(w8 0#8),(w8 0#8),(w8 0#8),(w8 0#8),(w8 0#8),(w8 0#8),(w8 0#8),(w8 0#8),(w8 0#8),(w8 0#8),(w8 0#8),(w8 0#8),(w8 0#8),(w8 0#8),(w8 0#8),(w8 0#8),(w8 0#8),(w8 0#8),(w8 0#8),(w8 0#8),(w8 0#8),(w8 0#8),(w8 0#8),(w8 0#8),(w8 0#8),(w8 0#8),(w8 0#8),(w8 0#8),(w8 0#8),(w8 0#8),(.str []),(.str [])]⟩,
    ⟨none,none,.store 36 (.t 8) (.t 16)⟩,
    ⟨none,none,.store 34 (.t 9) (.t 18)⟩])
  (.seq (.region false [⟨none,(some 19),.mov (.t 1)⟩,
    ⟨none,(some 20),.call (.k (.fn (.func 16) [] [])) [(.t 19),(.k (.int .i64 10))]⟩,
    ⟨none,(some 21),.bin .add (.k (.int .i64 1)) (.t 20)⟩,
    ⟨none,(some 22),.mov (.t 2)⟩,
    ⟨none,(some 23),.call (.k (.fn (.func 16) [] [])) [(.t 22),(.k (.int .i64 10))]⟩,
    ⟨none,(some 24),.bin .add (.k (.int .i64 1)) (.t 23)⟩,
    ⟨none,(some 1),.mov (.t 21)⟩,
    ⟨none,(some 2),.mov (.t 24)⟩])
  (.seq (.region false [⟨none,(some 25),.load 36 true (.t 8)⟩,
    ⟨none,(some 26),.load 34 true (.t 9)⟩,
    ⟨none,(some 27),.mov (.t 1)⟩,
    ⟨none,(some 28),.mov (.t 2)⟩,
    ⟨none,(some 29),.mm false [(.t 27),(.t 28)]⟩,
    ⟨none,(some 30),.build [(.int .i64 0),(.int .i64 0),(.int .i64 0),(.str [])] [(0,1,(.k (.int .i64 6))),(1,1,(.t 29))]⟩,
    ⟨none,(some 31),.call (.k (.fn (.func 20) [] [])) [(.t 25),(.t 26),(.t 30)]⟩,
    ⟨none,(some 10),.alloc [(.bool false),.nils,(.int .i64 0)]⟩,
    ⟨none,none,.store 3 (.t 10) (.t 31)⟩])
  (.seq (.region false [⟨none,(some 32),.load 36 true (.t 8)⟩,
    ⟨none,(some 33),.load 34 true (.t 9)⟩,
    ⟨none,(some 34),.mov (.t 1)⟩,
    ⟨none,(some 35),.mov (.t 2)⟩,
    ⟨none,(some 36),.mm true [(.t 34),(.t 35)]⟩,
    ⟨none,(some 37),.build [(.int .i64 0),(.int .i64 0),(.int .i64 0),(.str [])] [(0,1,(.k (.int .i64 6))),(1,1,(.t 36))]⟩,
    ⟨none,(some 38),.call (.k (.fn (.func 20) [] [])) [(.t 32),(.t 33),(.t 37)]⟩,
    ⟨none,(some 11),.alloc [(.bool false),.nils,(.int .i64 0)]⟩,
    ⟨none,none,.store 3 (.t 11) (.t 38)⟩])
  (.seq (.seq (.region false [⟨none,(some 39),.fld 0 (.t 10)⟩,
    ⟨none,(some 40),.load 1 false (.t 39)⟩,
    ⟨none,(some 41),.mov (.t 40)⟩,
    ⟨(some (41,true)),(some 42),.fld 0 (.t 11)⟩,
    ⟨(some (41,true)),(some 43),.load 1 false (.t 42)⟩,
    ⟨(some (41,true)),(some 44),.un .not (.t 43)⟩,
    ⟨none,(some 45),.pick (.t 41) (.t 44) (.k (.bool false))⟩])
  (.cond (.t 45) (.seq (.region false [⟨none,(some 6),.mov (.k (.bool false))⟩])
  .ret)
  .skip))
  (.seq (.seq (.region false [⟨none,(some 12),.mov (.k (.int .i64 0))⟩])
  (.block 0 (.loop z382)))
  (.seq (.region false [⟨none,(some 66),.call (.k (.fn (.func 14) [] [])) []⟩,
    ⟨none,(some 6),.mov (.t 66)⟩])
  .ret)))))))))
  ntmps:=67
  res:=[.tmp 6]
theorem z1ee:zsjc P Tryz.f10=some a10:=by kernel_rfl
end Go.Proofs.YtdnhbfmlklaldaaGreat
set_option linter.unusedSimpArgs false
set_option linter.unusedVariables false
namespace Go.Proofs.YtdnhbfmlklaldaaGreat
open Go Go.Am
theorem ok_n {ds:List DV} (h:Ty.Ok (.int .i64) ds) : ∃ n:Int,(-9223372036854775808≤n∧n≤9223372036854775807)∧ds=[.int .i64 n]:=zrcx h
theorem zcd1 {ds:List DV} (h:Ty.Ok .bool ds) : ∃ b:Bool,ds=[.bool b]:=h
theorem zjzy {ds:List DV} (h:Ty.Ok (.sl (.int .i64)) ds) : ∃ x:Nl,(∀ n ∈ x.l,-9223372036854775808≤n∧n≤9223372036854775807)∧ds=[x.dv]:=by
  obtain ⟨k,l,h1,h2,rfl,hb⟩:=z61h (f:=inI) (R:=fun n => -9223372036854775808≤n∧n≤9223372036854775807) (fun ds h=>by obtain ⟨n,hn,rfl⟩:=zrcx h; exact ⟨n,hn,rfl⟩) h
  exact ⟨⟨k,l,h1,hb⟩,h2,rfl⟩
end Go.Proofs.YtdnhbfmlklaldaaGreat
set_option linter.unusedSimpArgs false
set_option linter.unusedVariables false
namespace Go.Proofs.YtdnhbfmlklaldaaGreat
open Go Go.Am
noncomputable def T710:Tbl:=addT 24 (.new zl5p) (addT 25 (.tch znvy) (addT 26 (.tch (cMk zbdu fun _=>3)) (addT 20 (.pure cChe) (addT 16 (.pure zqmv) (addT 30 (.pure cHas) (addT 14 (.pure cAw) tbl0))))))
theorem zk6u:T710 24 = .new zl5p:=by simp [T710]
theorem zmeb:T710 25 = .tch znvy:=by simp [T710]
theorem zofc:T710 26 = .tch (cMk zbdu fun _=>3):=by simp [T710]
theorem zpds:T710 20 = .pure cChe:=by simp [T710]
theorem zuxx:T710 16 = .pure zqmv:=by simp [T710]
theorem z948:T710 30 = .pure cHas:=by simp [T710]
theorem zerh:T710 14 = .pure cAw:=by simp [T710]
theorem z4i1:T710.Sound P:=z0rp ze95 (z0rp zpy7 (z0rp zbz5 (z0rp zl6h (z0rp zt30 (z0rp zi6e (z0rp z5bk zr5o))))))
structure Mk2 (x:Nl) (F N:Nat) (c:Cas) (o:Org) (t1 t2:Tp):Prop where
  m1:znvy [.int .i64 F,.int .i64 N] (tpC (tp0 x 300))=some (.agg (caC c),tpC t1)
  m2:cMk zbdu (fun _=>3) [] (tpC t1)=some (.agg (orC o),tpC t2)
  ht:t2.at_≤1000000
  s:CaSm c
theorem mk2 (x:Nl) (F N:Nat) (hF:F≤14) (hN:N≤8) : ∃ c o t1 t2,Mk2 x F N c o t1 t2:=by
  have h0:(tp0 x 300).at_=0:=rfl
  have h1:=zpit (t:=tp0 x 300) (F:=F) (N:=N)
  refine ⟨zhq6 (tp0 x 300) F N,z4m3 (zsjk (tp0 x 300) F N),zsjk (tp0 x 300) F N,(zsjk (tp0 x 300) F N).adv 3,?_⟩
  exact ⟨z5bc (by omega) (by omega) (by omega),zkde (by omega),by rw [zpza]; omega,z9e1 hF hN⟩
def S710 (t:Tp) (c:Cas) (o:Org) (X Y:Sup) (i:Nat):St:=z9o7 (.mp 3 3 0) (.mp 4 3 0) (.int .i64 i) [.cells (tpC t),.cells (caC c),.cells (orC o),.cells (suC X),.cells (suC Y)]
set_option maxRecDepth 20000 in
theorem z4ej (x:Nl) (a b:Int):Runs T710 a10 [x.dv,.int .i64 a,.int .i64 b] (.bool true):=by
  refine ⟨?_⟩
  have hT:=fun m=>zwy3 (x:=x) (n:=300) (by decide) m
  have hx:=zkx7 x
  obtain ⟨c,o,t1,t2,m1,m2,ht,s⟩:=mk2 x 8 8 (by omega) (by omega)
  simp only [show ((300:Nat):Int)=300 from rfl] at hT
  simp only [show ((8:Nat):Int)=8 from rfl] at m1
  have w1:=zcb9 (n:=a) (k:=10) (by omega) (by omega)
  have w2:=zcb9 (n:=b) (k:=10) (by omega) (by omega)
  have h1:0≤a % 10∧a % 10<10:=by omega
  have h2:0≤b % 10∧b % 10<10:=by omega
  obtain ⟨u,hu⟩ : ∃ u,a % 10=u:=⟨_,rfl⟩
  obtain ⟨v,hv⟩ : ∃ v,b % 10=v:=⟨_,rfl⟩
  rw [hu] at w1 h1
  rw [hv] at w2 h2
  have wu:IntKind.i64.wrap (1+u)=1+u:=by rw [IntKind.wrap_i64]; omega
  have wv:IntKind.i64.wrap (1+v)=1+v:=by rw [IntKind.wrap_i64]; omega
  obtain ⟨lo,hlo⟩ : ∃ lo,min (1+u) (1+v)=lo:=⟨_,rfl⟩
  obtain ⟨hi,hhi⟩ : ∃ hi,max (1+u) (1+v)=hi:=⟨_,rfl⟩
  have hlh:lo≤hi∧1≤lo∧hi≤10:=by omega
  have v1:reqB ⟨6,lo,0,[]⟩=true:=by simp [reqB,inB]; omega
  have v2:reqB ⟨6,hi,0,[]⟩=true:=by simp [reqB,inB]; omega
  have k1:=z1u0 (c:=c) (o:=o) (q:=⟨6,lo,0,[]⟩) fun _=>zu3n s s.f (fun h=>by simp at h)
  have k2:=z1u0 (c:=c) (o:=o) (q:=⟨6,hi,0,[]⟩) fun _=>zu3n s s.f (fun h=>by simp at h)
  have hsd:zpwi c.f.l c.n.l:=⟨by have:=s.f; omega,fun f hf=>by have:=s.d f hf; omega,by have:=s.n; omega,fun f hf=>by have:=s.m f hf; omega⟩
  have law:=z0e7 (c:=c) (o:=o) hlh.1 hsd
  have hC : ∀ n,reqB ⟨6,n,0,[]⟩=true→zvkf c c.f.l c.f.l o ⟨6,n,0,[]⟩=zwwp c o ⟨6,n,0,[]⟩:=fun n hn=>by unfold zwwp; rw [if_pos hn]
  rw [hC lo v1,hC hi v2] at law
  obtain ⟨X,hX⟩ : ∃ X,zwwp c o ⟨6,lo,0,[]⟩=X:=⟨_,rfl⟩
  obtain ⟨Y,hY⟩ : ∃ Y,zwwp c o ⟨6,hi,0,[]⟩=Y:=⟨_,rfl⟩
  rw [hX] at k1 law
  rw [hY] at k2 law
  have hYb:=Y.docs.b
  cases hXh:X.holds with
  | false =>
    simp (disch:=first|omega|(simp<;>omega)|fail) [-map_take,-map_drop,-map_set,-map_append,-drop_one,a10,zk6u,zmeb,zofc,zpds,zuxx,hT,hx,m1,m2,w1,w2,wu,wv,hlo,hhi,bd_q,k1,k2,hXh]
    refine zlm5 (S710 t2 c o X Y) (fun i=>Y.docs.l.length-i) (fun i=>i=0) 0 (z515 (by simp (disch:=first|omega|(simp<;>omega)|fail) [-map_take,-map_drop,-map_set,-map_append,-drop_one,S710,z9o7]) (by simp (disch:=first|omega|(simp<;>omega)|fail) [-map_take,-map_drop,-map_set,-map_append,-drop_one,S710,z9o7])) rfl (fun i hi => ?_)
    subst hi
    simp only [S710]
    by_cases h:0<Y.docs.l.length
    · simp (disch:=first|omega|(simp<;>omega)|fail) [-map_take,-map_drop,-map_set,-map_append,-drop_one,z382,z9o7,h,hXh,zerh,zths]
    · simp (disch:=first|omega|(simp<;>omega)|fail) [-map_take,-map_drop,-map_set,-map_append,-drop_one,z382,z9o7,h,hXh,zerh,zths]
  | true =>
    obtain ⟨hYh,hsub⟩:=law hXh
    simp (disch:=first|omega|(simp<;>omega)|fail) [-map_take,-map_drop,-map_set,-map_append,-drop_one,a10,zk6u,zmeb,zofc,zpds,zuxx,hT,hx,m1,m2,w1,w2,wu,wv,hlo,hhi,bd_q,k1,k2,hXh,hYh]
    refine zlm5 (S710 t2 c o X Y) (fun i=>Y.docs.l.length-i) (fun i=>i≤Y.docs.l.length) 0 (z515 (by simp (disch:=first|omega|(simp<;>omega)|fail) [-map_take,-map_drop,-map_set,-map_append,-drop_one,S710,z9o7]) (by simp (disch:=first|omega|(simp<;>omega)|fail) [-map_take,-map_drop,-map_set,-map_append,-drop_one,S710,z9o7])) (by simp) (fun i hi => ?_)
    simp only [S710]
    by_cases h:i<Y.docs.l.length
    · have h':(i:Int)<Y.docs.l.length:=by omega
      have hg : ∀ H,zpsc H 32 (Y.docs.dv 32 dgC) i=some (.ref (dgC Y.docs.l[i])):=fun H=>zalo z1t1 h
      have hm:=hsub _ (List.getElem_mem h)
      obtain ⟨d,hd⟩ : ∃ d,Y.docs.l[i]=d:=⟨_,rfl⟩
      rw [hd] at hg hm
      have hh:=zqi6 (x:=X.docs) (d:=d)
      simp (disch:=first|omega|(simp<;>omega)|fail) [-map_take,-map_drop,-map_set,-map_append,-drop_one,z382,z9o7,h,h',hg,hXh,z948,hh,hm]
      exact ⟨i+1,z515 (by simp (disch:=first|omega|(simp<;>omega)|fail) [-map_take,-map_drop,-map_set,-map_append,-drop_one,S710,z9o7]) (by simp (disch:=first|omega|(simp<;>omega)|fail) [-map_take,-map_drop,-map_set,-map_append,-drop_one,S710,z9o7]),by omega,by omega⟩
    · have h':¬ (i:Int)<Y.docs.l.length:=by omega
      simp (disch:=first|omega|(simp<;>omega)|fail) [-map_take,-map_drop,-map_set,-map_append,-drop_one,z382,z9o7,h,h',hXh,zerh,zths]
namespace requirementClean
theorem law_holds (dvs) (h:Ty.Args [.sl (.int .i64),.int .i64,.int .i64] dvs):Am.Sem P 10 dvs (.bool true):=by
  obtain ⟨d1,l1,rfl,h1,d2,l2,rfl,h2,d3,l3,rfl,h3,rfl⟩:=h
  obtain ⟨x,_,hx⟩:=zjzy h1
  obtain ⟨a,_,ha⟩:=ok_n h2
  obtain ⟨b,_,hb⟩:=ok_n h3
  cases hx; cases ha; cases hb
  exact zljw mix z4i1 Tryz.func10 z1ee (z4ej x a b)
end requirementClean
end Go.Proofs.YtdnhbfmlklaldaaGreat
set_option linter.unusedSimpArgs false
set_option linter.unusedVariables false
namespace Go.Proofs.YtdnhbfmlklaldaaGreat
open Go Go.Am
theorem zzgc : ∀ (k:Nat) (t:Tp) (l:List Fct),(∀ f ∈ l,f.own ∈ zt4y) → ∀ f ∈ (zqwi k t l).1,f.own ∈ zt4y
  | 0,t,l,h=>h
  | k+1,t,l,h=>zzgc k _ _ fun f hf=>by
    rcases List.mem_append.1 hf with q|q
    · exact h f q
    · simp at q; rw [q]; exact zqrp _ (by simp [zt4y])
theorem zhbw {t:Tp} {F N:Nat} (hF:F≤14) : ∀ f ∈ (zhq6 t F N).f.l,f.own ∈ zt4y:=by
  have e1:(zhq6 t F N).f.l=(caP t F).1:=zd8n (by have:=za99 t F; omega)
  rw [e1]
  exact zzgc _ _ _ (by simp)
def selO (ap:Bool) (o:Org):Sel:=if ap then .source o else .same o
def zw0r (ap:Bool):Int:=if ap then 3 else 1
def zp41 (ap:Bool) (o:Org) (f:Fct):Bool:=decide (f.kind=zw0r ap)&&(selO ap o).p f
def zszs (ap:Bool) (o:Org) (l:List Fct) (w:Str):Bool:=l.any fun f=>zp41 ap o f&&decide (f.own=w)
def cntO (ap:Bool) (o:Org) (l:List Fct) (i:Nat):Nat:=((zt4y.take i).filter (zszs ap o l)).length
theorem z5jp:Asc Op.bytesLess zt4y:=by
  unfold Asc zt4y
  decide
theorem zgjt {ap:Bool} {o:Org} {l:List Fct} (h : ∀ f ∈ l,f.own ∈ zt4y):zzy4 (zskr l (zw0r ap) (selO ap o))=zt4y.filter (zszs ap o l) :=
  zjfh z3gj (z7nw _) (List.Pairwise.filter _ z5jp) fun x=>by
    rw [z7zz,List.mem_filter]
    unfold zszs zskr
    rw [List.any_eq_true]
    constructor
    · rintro ⟨f,hf,e⟩
      rw [List.mem_filter] at hf
      exact ⟨e▸h f hf.1,f,hf.1,by rw [zp41,hf.2,e]; simp⟩
    · rintro ⟨-,f,hf,e⟩
      rw [Bool.and_eq_true] at e
      exact ⟨f,List.mem_filter.2 ⟨hf,e.1⟩,of_decide_eq_true e.2⟩
theorem zgc3 {c:Cas} {ap:Bool} {o:Org} {n:Int} (h : ∀ f ∈ c.f.l,f.own ∈ zt4y) (hn:1≤n∧n≤4) :
    (zwwp c o ⟨zw0r ap,n,0,[]⟩).holds=decide (n≤cntO ap o c.f.l 4)∧((cntO ap o c.f.l 4:Int)<n→(zwwp c o ⟨zw0r ap,n,0,[]⟩).missing=n-cntO ap o c.f.l 4):=by
  have hv:reqB ⟨zw0r ap,n,0,[]⟩=true:=by cases ap<;>(simp [reqB,inB,zw0r]; omega)
  have he:zwwp c o ⟨zw0r ap,n,0,[]⟩=zfyl (zskr c.f.l (zw0r ap) (selO ap o)) n:=by
    unfold zwwp; rw [if_pos hv]; cases ap<;>rfl
  have hc:cntO ap o c.f.l 4=(zzy4 (zskr c.f.l (zw0r ap) (selO ap o))).length:=by rw [zgjt h]; rfl
  rw [he,hc]
  unfold zfyl
  by_cases q:((zzy4 (zskr c.f.l (zw0r ap) (selO ap o))).length:Int)<n
  · rw [if_pos q]
    refine ⟨?_,fun _=>rfl⟩
    have:¬ n≤(zzy4 (zskr c.f.l (zw0r ap) (selO ap o))).length:=by omega
    rw [decide_eq_false this]; rfl
  · rw [if_neg q]
    refine ⟨?_,fun e=>absurd e q⟩
    have:n≤(zzy4 (zskr c.f.l (zw0r ap) (selO ap o))).length:=by omega
    rw [decide_eq_true this]; rfl
end Go.Proofs.YtdnhbfmlklaldaaGreat
set_option linter.unusedSimpArgs false
set_option linter.unusedVariables false
namespace Go.Proofs.YtdnhbfmlklaldaaGreat
open Go Go.Am
def a8L1:ACode :=
  (.seq (.seq (.region false [⟨none,(some 37),.mov (.t 15)⟩,
    ⟨none,(some 38),.fld 33 (.t 8)⟩,
    ⟨none,(some 39),.load 1 false (.t 38)⟩,
    ⟨none,(some 40),.len (.t 39)⟩,
    ⟨none,(some 41),.bin .lss (.t 37) (.t 40)⟩])
  (.cond (.t 41) .skip
  (.exit 2)))
  (.seq (.block 3 (.seq (.region false [⟨none,(some 44),.fld 33 (.t 8)⟩,
    ⟨none,(some 45),.load 1 false (.t 44)⟩,
    ⟨none,(some 46),.mov (.t 15)⟩,
    ⟨none,(some 47),.idxS 71 (.t 45) (.t 46)⟩,
    ⟨none,(some 48),.load 71 true (.t 47)⟩,
    ⟨none,(some 16),.alloc [(.int .i64 0),(.str []),(w8 0#8),(w8 0#8),(w8 0#8),(w8 0#8),(w8 0#8),(w8 0#8),(w8 0#8),(w8 0#8),(w8 0#8),(w8 0#8),(w8 0#8),(w8 0#8),(w8 0#8),(w8 0#8),(w8 0#8),(w8 0#8),(w8 0#8),(w8 0#8),(w8 0#8),(w8 0#8),(w8 0#8),(w8 0#8),(w8 0#8),(w8 0#8),(w8 0#8),(w8 0#8),(w8 0#8),(w8 0#8),(w8 0#8),(w8 0#8),(w8 0#8),(w8 0#8),(.str []),(.str []),(.int .i64 0),(.bool false),(w8 0#8),(w8 0#8),(w8 0#8),(w8 0#8),(w8 0#8),(w8 0#8),(w8 0#8),(w8 0#8),(w8 0#8),(w8 0#8),(w8 0#8),(w8 0#8),(w8 0#8),(w8 0#8),(w8 0#8),(w8 0#8),(w8 0#8),(w8 0#8),(w8 0#8),(w8 0#8),(w8 0#8),(w8 0#8),(w8 0#8),(w8 0#8),(w8 0#8),(w8 0#8),(w8 0#8),(w8 0#8),(w8 0#8),(w8 0#8),(w8 0#8),(w8 0#8),.nils]⟩,
    ⟨none,none,.store 71 (.t 16) (.t 48)⟩])
  (.seq (.region false [⟨none,(some 49),.fld 0 (.t 16)⟩,
    ⟨none,(some 50),.load 1 false (.t 49)⟩,
    ⟨none,(some 51),.bin .eql (.t 50) (.k (.int .i64 1))⟩,
    ⟨none,(some 52),.mov (.t 51)⟩,
    ⟨(some (52,true)),(some 53),.fld 2 (.t 16)⟩,
    ⟨(some (52,true)),(some 54),.load 32 true (.t 53)⟩,
    ⟨(some (52,true)),(some 55),.fld 0 (.t 9)⟩,
    ⟨(some (52,true)),(some 56),.load 32 true (.t 55)⟩,
    ⟨(some (52,true)),(some 57),.eqa false [(32,0)] (.t 54) (.t 56)⟩,
    ⟨none,(some 58),.pick (.t 52) (.t 57) (.k (.bool false))⟩,
    ⟨none,(some 59),.mov (.t 58)⟩,
    ⟨(some (59,true)),(some 60),.fld 34 (.t 16)⟩,
    ⟨(some (59,true)),(some 61),.load 1 false (.t 60)⟩,
    ⟨(some (59,true)),(some 62),.fld 32 (.t 9)⟩,
    ⟨(some (59,true)),(some 63),.load 1 false (.t 62)⟩,
    ⟨(some (59,true)),(some 64),.bin .eql (.t 61) (.t 63)⟩,
    ⟨none,(some 65),.pick (.t 59) (.t 64) (.k (.bool false))⟩,
    ⟨none,(some 66),.mov (.t 65)⟩,
    ⟨(some (66,true)),(some 67),.fld 35 (.t 16)⟩,
    ⟨(some (66,true)),(some 68),.load 1 false (.t 67)⟩,
    ⟨(some (66,true)),(some 69),.fld 33 (.t 9)⟩,
    ⟨(some (66,true)),(some 70),.load 1 false (.t 69)⟩,
    ⟨(some (66,true)),(some 71),.bin .eql (.t 68) (.t 70)⟩,
    ⟨none,(some 72),.pick (.t 66) (.t 71) (.k (.bool false))⟩,
    ⟨none,(some 17),.mov (.t 72)⟩])
  (.seq (.seq (.region false [⟨none,(some 73),.mov (.t 2)⟩])
  (.cond (.t 73) (.region false [⟨none,(some 74),.fld 0 (.t 16)⟩,
    ⟨none,(some 75),.load 1 false (.t 74)⟩,
    ⟨none,(some 76),.bin .eql (.t 75) (.k (.int .i64 3))⟩,
    ⟨none,(some 77),.mov (.t 76)⟩,
    ⟨(some (77,true)),(some 78),.fld 2 (.t 16)⟩,
    ⟨(some (77,true)),(some 79),.load 32 true (.t 78)⟩,
    ⟨(some (77,true)),(some 80),.fld 0 (.t 9)⟩,
    ⟨(some (77,true)),(some 81),.load 32 true (.t 80)⟩,
    ⟨(some (77,true)),(some 82),.eqa false [(32,0)] (.t 79) (.t 81)⟩,
    ⟨none,(some 83),.pick (.t 77) (.t 82) (.k (.bool false))⟩,
    ⟨none,(some 17),.mov (.t 83)⟩])
  .skip))
  (.region false [⟨none,(some 84),.mov (.t 14)⟩,
    ⟨none,(some 85),.mov (.t 84)⟩,
    ⟨(some (85,false)),(some 86),.mov (.t 17)⟩,
    ⟨(some (85,false)),(some 87),.mov (.t 86)⟩,
    ⟨(some (87,true)),(some 88),.fld 1 (.t 16)⟩,
    ⟨(some (87,true)),(some 89),.load 1 false (.t 88)⟩,
    ⟨(some (87,true)),(some 90),.mov (.t 13)⟩,
    ⟨(some (87,true)),(some 91),.bin .eql (.t 89) (.t 90)⟩,
    ⟨(some (85,false)),(some 92),.pick (.t 87) (.t 91) (.k (.bool false))⟩,
    ⟨none,(some 93),.pick (.t 85) (.k (.bool true)) (.t 92)⟩,
    ⟨none,(some 14),.mov (.t 93)⟩])))))
  (.region false [⟨none,(some 42),.mov (.t 15)⟩,
    ⟨none,(some 43),.bin .add (.t 42) (.k (.int .i64 1))⟩,
    ⟨none,(some 15),.mov (.t 43)⟩])))
def a8S1 (x2 x8 x9 x10 x11 x13 x14 x15 x31 x32 x33:DV) (h:List AObj):St:=⟨[.junk,.junk,x2]++js 5++[x8,x9,x10,x11,.junk,x13,x14,x15]++js 15++[x31,x32,x33]++js 91,h⟩
def a8L0:ACode :=
  (.seq (.region false [⟨none,(some 34),.bin .lss (.t 33) (.t 32)⟩])
  (.seq (.cond (.t 34) .skip
  (.exit 0))
  (.seq (.block 1 (.seq (.region false [⟨none,(some 35),.idxS 1 (.t 31) (.t 33)⟩,
    ⟨none,(some 36),.load 1 false (.t 35)⟩,
    ⟨none,(some 13),.mov (.t 36)⟩])
  (.seq (.region false [⟨none,(some 14),.mov (.k (.bool false))⟩])
  (.seq (.seq (.region false [⟨none,(some 15),.mov (.k (.int .i64 0))⟩])
  (.block 2 (.loop a8L1)))
  (.seq (.region false [⟨none,(some 94),.mov (.t 14)⟩])
  (.cond (.t 94) (.region false [⟨none,(some 95),.mov (.t 11)⟩,
    ⟨none,(some 96),.bin .add (.t 95) (.k (.int .i64 1))⟩,
    ⟨none,(some 11),.mov (.t 96)⟩])
  .skip))))))
  (.region false [⟨none,(some 97),.bin .add (.t 33) (.k (.int .i64 1))⟩,
    ⟨none,(some 33),.mov (.t 97)⟩]))))
def a8S0 (x2 x8 x9 x10 x11 x31 x32 x33:DV) (h:List AObj):St:=⟨[.junk,.junk,x2]++js 5++[x8,x9,x10,x11]++js 19++[x31,x32,x33]++js 91,h⟩
def a8:AFn where
  code:=(.seq (.region false [⟨none,(some 6),.mov (.k (.bool false))⟩])
  (.seq (.region false [⟨none,(some 19),.mov (.t 0)⟩,
    ⟨none,(some 20),.call (.k (.fn (.func 24) [] [])) [(.t 19),(.k (.int .i64 300))]⟩,
    ⟨none,(some 7),.mov (.t 20)⟩])
  (.seq (.region false [⟨none,(some 21),.mov (.t 7)⟩,
    ⟨none,(some 22),.call (.k (.fn (.func 25) [] [])) [(.t 21),(.k (.int .i64 14)),(.k (.int .i64 0))]⟩,
    ⟨none,(some 23),.mov (.t 7)⟩,
    ⟨none,(some 24),.call (.k (.fn (.func 26) [] [])) [(.t 23)]⟩,
    ⟨none,(some 8),.alloc [(w8 0#8),(w8 0#8),(w8 0#8),(w8 0#8),(w8 0#8),(w8 0#8),(w8 0#8),(w8 0#8),(w8 0#8),(w8 0#8),(w8 0#8),(w8 0#8),(w8 0#8),(w8 0#8),(w8 0#8),(w8 0#8),(w8 0#8),(w8 0#8),(w8 0#8),(w8 0#8),(w8 0#8),(w8 0#8),(w8 0#8),(w8 0#8),(w8 0#8),(w8 0#8),(w8 0#8),(w8 0#8),(w8 0#8),(w8 0#8),(w8 0#8),(w8 0#8),(.int .i64 0),.nils,.nils,.nils]⟩,
    ⟨none,(some 9),.alloc [(w8 0#8),(w8 0#8),(w8 0#8),(w8 0#8),(w8 0#8),(w8 0#8),(w8 0#8),(w8 0#8),(w8 0#8),(w8 0#8),(w8 0#8),(w8 0#8),(w8 0#8),(w8 0#8),(w8 0#8),(w8 0#8),(w8 0#8),(w8 0#8),(w8 0#8),(w8 0#8),(w8 0#8),(w8 0#8),(w8 0#8),(w8 0#8),(w8 0#8),(w8 0#8),(w8 0#8),(w8 0#8),(w8 0#8),(w8 0#8),(w8 0#8),(w8 0#8),(.str []),(.str [])]⟩,
    ⟨none,none,.store 36 (.t 8) (.t 22)⟩,
    ⟨none,none,.store 34 (.t 9) (.t 24)⟩])
  (.seq (.region false [⟨none,(some 25),.mov (.t 1)⟩,
    ⟨none,(some 26),.call (.k (.fn (.func 16) [] [])) [(.t 25),(.k (.int .i64 4))]⟩,
    ⟨none,(some 27),.bin .add (.k (.int .i64 1)) (.t 26)⟩,
    ⟨none,(some 28),.build [(.int .i64 0),(.int .i64 0),(.int .i64 0),(.str [])] [(0,1,(.k (.int .i64 1))),(1,1,(.t 27))]⟩,
    ⟨none,(some 10),.alloc [(.int .i64 0),(.int .i64 0),(.int .i64 0),(.str [])]⟩,
    ⟨none,none,.store 4 (.t 10) (.t 28)⟩])
  (.seq (.seq (.region false [⟨none,(some 29),.mov (.t 2)⟩])
  (.cond (.t 29) (.region false [⟨none,(some 30),.fld 0 (.t 10)⟩,
    ⟨none,none,.store 1 (.t 30) (.k (.int .i64 3))⟩])
  .skip))
  (.seq (.region false [⟨none,(some 11),.mov (.k (.int .i64 0))⟩])
  (.seq (.seq (.region false [⟨none,(some 31),.bsl 1 4 [(.str [])] [(0,1,(.k (.str [97,110,110]))),(1,1,(.k (.str [98,111,98]))),(2,1,(.k (.str [99,97,116]))),(3,1,(.k (.str [100,97,110])))]⟩,
    ⟨none,(some 32),.len (.t 31)⟩,
    ⟨none,(some 33),.mov (.k (.int .i64 0))⟩])
  (.block 0 (.loop a8L0)))
  (.seq (.region false [⟨none,(some 98),.load 36 true (.t 8)⟩,
    ⟨none,(some 99),.load 34 true (.t 9)⟩,
    ⟨none,(some 100),.load 4 true (.t 10)⟩,
    ⟨none,(some 101),.call (.k (.fn (.func 20) [] [])) [(.t 98),(.t 99),(.t 100)]⟩,
    ⟨none,(some 18),.alloc [(.bool false),.nils,(.int .i64 0)]⟩,
    ⟨none,none,.store 3 (.t 18) (.t 101)⟩])
  (.seq (.region false [⟨none,(some 102),.fld 0 (.t 18)⟩,
    ⟨none,(some 103),.load 1 false (.t 102)⟩,
    ⟨none,(some 104),.mov (.t 11)⟩,
    ⟨none,(some 105),.fld 1 (.t 10)⟩,
    ⟨none,(some 106),.load 1 false (.t 105)⟩,
    ⟨none,(some 107),.bin .geq (.t 104) (.t 106)⟩,
    ⟨none,(some 108),.eqb false (.t 103) (.t 107)⟩,
    ⟨none,(some 109),.mov (.t 108)⟩,
    ⟨(some (109,true)),(some 110),.fld 0 (.t 18)⟩,
    ⟨(some (109,true)),(some 111),.load 1 false (.t 110)⟩,
    ⟨(some (109,true)),(some 112),.mov (.t 111)⟩,
    ⟨(some (112,false)),(some 113),.fld 2 (.t 18)⟩,
    ⟨(some (112,false)),(some 114),.load 1 false (.t 113)⟩,
    ⟨(some (112,false)),(some 115),.fld 1 (.t 10)⟩,
    ⟨(some (112,false)),(some 116),.load 1 false (.t 115)⟩,
    ⟨(some (112,false)),(some 117),.mov (.t 11)⟩,
    ⟨(some (112,false)),(some 118),.bin .sub (.t 116) (.t 117)⟩,
    ⟨(some (112,false)),(some 119),.bin .eql (.t 114) (.t 118)⟩,
    ⟨(some (109,true)),(some 120),.pick (.t 112) (.k (.bool true)) (.t 119)⟩,
    ⟨none,(some 121),.pick (.t 109) (.t 120) (.k (.bool false))⟩,
    ⟨none,(some 122),.mov (.t 121)⟩,
    ⟨(some (122,true)),(some 123),.call (.k (.fn (.func 14) [] [])) []⟩,
    ⟨none,(some 124),.pick (.t 122) (.t 123) (.k (.bool false))⟩,
    ⟨none,(some 6),.mov (.t 124)⟩])
  .ret)))))))))
  ntmps:=125
  res:=[.tmp 6]
theorem zwbl:zsjc P Tryz.f8=some a8:=by kernel_rfl
end Go.Proofs.YtdnhbfmlklaldaaGreat
set_option linter.unusedSimpArgs false
set_option linter.unusedVariables false
namespace Go.Proofs.YtdnhbfmlklaldaaGreat
open Go Go.Am
noncomputable def T730:Tbl:=addT 24 (.new zl5p) (addT 25 (.tch znvy) (addT 26 (.tch (cMk zbdu fun _=>3)) (addT 20 (.pure cChe) (addT 16 (.pure zqmv) (addT 14 (.pure cAw) tbl0)))))
theorem zgo1:T730 24 = .new zl5p:=by simp [T730]
theorem z4u4:T730 25 = .tch znvy:=by simp [T730]
theorem zbfl:T730 26 = .tch (cMk zbdu fun _=>3):=by simp [T730]
theorem zh3r:T730 20 = .pure cChe:=by simp [T730]
theorem ze7l:T730 16 = .pure zqmv:=by simp [T730]
theorem z51b:T730 14 = .pure cAw:=by simp [T730]
theorem zh70:T730.Sound P:=z0rp ze95 (z0rp zpy7 (z0rp zbz5 (z0rp zl6h (z0rp zt30 (z0rp z5bk zr5o)))))
theorem mk2o (x:Nl) (F N:Nat) (hF:F≤14) (hN:N≤8) : ∃ c o t1 t2,Mk2 x F N c o t1 t2 ∧ ∀ f ∈ c.f.l,f.own ∈ zt4y:=by
  have h0:(tp0 x 300).at_=0:=rfl
  have h1:=zpit (t:=tp0 x 300) (F:=F) (N:=N)
  refine ⟨zhq6 (tp0 x 300) F N,z4m3 (zsjk (tp0 x 300) F N),zsjk (tp0 x 300) F N,(zsjk (tp0 x 300) F N).adv 3,?_⟩
  exact ⟨⟨z5bc (by omega) (by omega) (by omega),zkde (by omega),by rw [zpza]; omega,z9e1 hF hN⟩,zhbw hF⟩
theorem zj5b {n:Nat} {t:Tp}:z1r6 n (tpC t)=true:=zmq5 n _ (zs7w t)
theorem z7er {a b:Org}:a=b↔a.rev=b.rev∧a.lay=b.lay∧a.run=b.run:=by
  cases a; cases b; simp
theorem zmqj {a:Int}:zvnk [.int .i64 0,.int .i64 0,.int .i64 0,.str []] [(0,1,.int .i64 1),(1,1,.int .i64 a)]=some (.agg (rqC ⟨1,a,0,[]⟩)):=rfl
def H730 (t:Tp) (c:Cas) (o:Org) (q:Req):List AObj:=[.cells (tpC t),.cells (caC c),.cells (orC o),.cells (rqC q)]
def S730 (ap:Bool) (t:Tp) (c:Cas) (o:Org) (q:Req) (i:Nat):St:=a8S0 (.bool ap) (.mp 1 36 0) (.mp 2 34 0) (.mp 3 4 0) (.int .i64 (cntO ap o c.f.l i)) (.sl true 1 4 [.str [97,110,110],.str [98,111,98],.str [99,97,116],.str [100,97,110]]) (.int .i64 4) (.int .i64 i) (H730 t c o q)
def S731 (ap:Bool) (t:Tp) (c:Cas) (o:Org) (q:Req) (C i:Nat) (w:Str) (thN:Nat→Bool) (j:Nat):St:=a8S1 (.bool ap) (.mp 1 36 0) (.mp 2 34 0) (.mp 3 4 0) (.int .i64 C) (.str w) (.bool (thN j)) (.int .i64 j) (.sl true 1 4 [.str [97,110,110],.str [98,111,98],.str [99,97,116],.str [100,97,110]]) (.int .i64 4) (.int .i64 i) (H730 t c o q)
theorem z99p {ap:Bool} {o:Org} {l:List Fct} {i:Nat} {w:Str} (h:zt4y[i]? = some w):cntO ap o l (i+1)=cntO ap o l i+(if zszs ap o l w then 1 else 0):=by
  unfold cntO
  rw [List.take_add_one,h,List.filter_append,List.length_append]
  congr 1
  cases q:zszs ap o l w<;>simp [List.filter,q]
set_option maxRecDepth 20000 in
set_option maxHeartbeats 2000000 in
theorem z5sr (x:Nl) (n:Int):Runs T730 a8 [x.dv,.int .i64 n,.bool false] (.bool true):=by
  refine ⟨?_⟩
  have hT:=fun m=>zwy3 (x:=x) (n:=300) (by decide) m
  have hx:=zkx7 x
  obtain ⟨c,o,t1,t2,⟨m1,m2,ht,s⟩,hown⟩:=mk2o x 14 0 (by omega) (by omega)
  simp only [show ((300:Nat):Int)=300 from rfl] at hT
  simp only [show ((14:Nat):Int)=14 from rfl,show ((0:Nat):Int)=0 from rfl] at m1
  have w1:=zcb9 (n:=n) (k:=4) (by omega) (by omega)
  have h1:0≤n % 4∧n % 4<4:=by omega
  obtain ⟨u,hu⟩ : ∃ u,n % 4=u:=⟨_,rfl⟩
  rw [hu] at w1 h1
  have wu:IntKind.i64.wrap (1+u)=1+u:=by rw [IntKind.wrap_i64]; omega
  have law:=zgc3 (c:=c) (ap:=false) (o:=o) (n:=1+u) hown (by omega)
  have rq:RqSm ⟨zw0r false,1+u,0,[]⟩:=fun _=>⟨by simp; omega,by simp; omega,by simp,by simp⟩
  have k1:=z1u0 (c:=c) (o:=o) (q:=⟨zw0r false,1+u,0,[]⟩) fun _=>zu3n s s.f rq
  obtain ⟨R,hR⟩ : ∃ R,zwwp c o ⟨zw0r false,1+u,0,[]⟩=R:=⟨_,rfl⟩
  rw [hR] at k1 law
  have sf:=s.f
  obtain ⟨q,hq⟩ : ∃ q:Req,(⟨zw0r false,1+u,0,[]⟩:Req)=q:=⟨_,rfl⟩
  have hqn:q.n=1+u:=by rw [← hq]
  have hcn:cntO false o c.f.l 4≤4:=by unfold cntO; exact Nat.le_trans (List.length_filter_le _ _) (by decide)
  have hs : ∀ (H:List AObj),zy6o H 3 1 0 (.int .i64 3) (some (rqC ⟨1,1+u,0,[]⟩))=some (.junk,H.set 3 (.cells (rqC ⟨3,1+u,0,[]⟩))):=fun H=>rfl
  simp (disch:=first|omega|(simp<;>omega)|fail) [-map_take,-map_drop,-map_set,-map_append,-drop_one,a8,zgo1,z4u4,zbfl,ze7l,hT,hx,m1,m2,w1,wu,zmqj]
  refine zlm5 (S730 false t2 c o ⟨zw0r false,1+u,0,[]⟩) (fun i=>4-i) (fun i=>i≤4) 0 (z515 (by simp (disch:=first|omega|(simp<;>omega)|fail) [-map_take,-map_drop,-map_set,-map_append,-drop_one,S730,a8S0,H730,zw0r,cntO]) (by simp (disch:=first|omega|(simp<;>omega)|fail) [-map_take,-map_drop,-map_set,-map_append,-drop_one,S730,a8S0,H730,zw0r])) (by omega) (fun i hi => ?_)
  have hci:cntO false o c.f.l i≤4:=by unfold cntO; exact Nat.le_trans (List.length_filter_le _ _) (by rw [List.length_take]; simp [zt4y]; omega)
  simp only [S730,H730]
  by_cases hi4:i<4
  · have hi4':(i:Int)<4:=by omega
    obtain ⟨w,hw,hW⟩ : ∃ w,zt4y[i]? = some w ∧ ∀ H,zpsc H 1 (.sl true 1 4 [.str [97,110,110],.str [98,111,98],.str [99,97,116],.str [100,97,110]]) (i:Int)=some (.ref [.str w]):=by
      rcases (show i=0∨i=1∨i=2∨i=3 by omega) with rfl|rfl|rfl|rfl
      · exact ⟨_,rfl,fun H=>rfl⟩
      · exact ⟨_,rfl,fun H=>rfl⟩
      · exact ⟨_,rfl,fun H=>rfl⟩
      · exact ⟨_,rfl,fun H=>rfl⟩
    have hcs:=z99p (ap:=false) (o:=o) (l:=c.f.l) hw
    obtain ⟨thN,hth⟩ : ∃ thN:Nat→Bool,thN=fun j=>(c.f.l.take j).any fun f=>zp41 false o f&&decide (f.own=w):=⟨_,rfl⟩
    have hth0:thN 0=false:=by rw [hth]; rfl
    have hthn:thN c.f.l.length=zszs false o c.f.l w:=by rw [hth]; simp [zszs]
    obtain ⟨C,hC⟩ : ∃ C,cntO false o c.f.l i=C:=⟨_,rfl⟩
    rw [hC] at hcs hci ⊢
    simp (disch:=first|omega|(simp<;>omega)|fail) [-map_take,-map_drop,-map_set,-map_append,-drop_one,a8L0,a8S0,hi4,hi4',hW]
    refine zlm5 (S731 false t2 c o ⟨zw0r false,1+u,0,[]⟩ C i w thN) (fun j=>c.f.l.length-j) (fun j=>j≤c.f.l.length) 0 (z515 (by simp (disch:=first|omega|(simp<;>omega)|fail) [-map_take,-map_drop,-map_set,-map_append,-drop_one,S731,a8S1,H730,hth0]) (by simp (disch:=first|omega|(simp<;>omega)|fail) [-map_take,-map_drop,-map_set,-map_append,-drop_one,S731,a8S1,H730])) (by omega) (fun j hj => ?_)
    simp only [S731,H730]
    by_cases h:j<c.f.l.length
    · have h':(j:Int)<c.f.l.length:=by omega
      have hg : ∀ H,zpsc H 71 (c.f.dv 71 faC) j=some (.ref (faC c.f.l[j])):=fun H=>zalo zs77 h
      have hnx:thN (j+1)=(thN j||(zp41 false o c.f.l[j]&&decide (c.f.l[j].own=w))):=by
        rw [hth]; simp only [List.take_succ_eq_append_getElem h,List.any_append,List.any_cons,List.any_nil,Bool.or_false]
      obtain ⟨F,hF⟩ : ∃ F,c.f.l[j]=F:=⟨_,rfl⟩
      obtain ⟨th,hthj⟩ : ∃ th,thN j=th:=⟨_,rfl⟩
      rw [hF] at hg hnx
      rw [hthj] at hnx ⊢
      by_cases g1:F.kind=1
      · by_cases g2:F.rev=o.rev
        · by_cases g3:F.lay=o.lay
          · by_cases g4:F.run=o.run
            · have hf:zp41 false o F=true:=by simp [zp41,selO,zw0r,Sel.p,z5z5,z7er,g1,g2,g3,g4]
              cases th with
              | false =>
                have hn:thN (j+1)=decide (F.own=w):=by rw [hnx,hf]; simp
                simp (disch:=first|omega|(simp<;>omega)|fail) [-map_take,-map_drop,-map_set,-map_append,-drop_one,a8L1,a8S1,h,h',hg,g1,g2,g3,g4]
                exact ⟨j+1,zju2 (tail:=[.cells (faC F)]) (by simp (disch:=first|omega|(simp<;>omega)|fail) [-map_take,-map_drop,-map_set,-map_append,-drop_one,S731,a8S1,hn]) (by simp (disch:=first|omega|(simp<;>omega)|fail) [-map_take,-map_drop,-map_set,-map_append,-drop_one,S731,a8S1,H730]) (Nat.zero_le _) (by simp (disch:=first|omega|(simp<;>omega)|fail) [-map_take,-map_drop,-map_set,-map_append,-drop_one,S731,a8S1,H730,hn,z1r6,Am.below]) (by simp (disch:=first|omega|(simp<;>omega)|fail) [-map_take,-map_drop,-map_set,-map_append,-drop_one,S731,a8S1,H730,zlf2,z8j3,zd49,z2g3,zljy,zj5b]),by omega,by omega⟩
              | true =>
                have hn:thN (j+1)=true:=by rw [hnx,hf]; simp
                simp (disch:=first|omega|(simp<;>omega)|fail) [-map_take,-map_drop,-map_set,-map_append,-drop_one,a8L1,a8S1,h,h',hg,g1,g2,g3,g4]
                exact ⟨j+1,zju2 (tail:=[.cells (faC F)]) (by simp (disch:=first|omega|(simp<;>omega)|fail) [-map_take,-map_drop,-map_set,-map_append,-drop_one,S731,a8S1,hn]) (by simp (disch:=first|omega|(simp<;>omega)|fail) [-map_take,-map_drop,-map_set,-map_append,-drop_one,S731,a8S1,H730]) (Nat.zero_le _) (by simp (disch:=first|omega|(simp<;>omega)|fail) [-map_take,-map_drop,-map_set,-map_append,-drop_one,S731,a8S1,H730,hn,z1r6,Am.below]) (by simp (disch:=first|omega|(simp<;>omega)|fail) [-map_take,-map_drop,-map_set,-map_append,-drop_one,S731,a8S1,H730,zlf2,z8j3,zd49,z2g3,zljy,zj5b]),by omega,by omega⟩
            · have hf:zp41 false o F=false:=by simp [zp41,selO,zw0r,Sel.p,z5z5,z7er,g1,g2,g3,g4]
              cases th with
              | false =>
                have hn:thN (j+1)=false:=by rw [hnx,hf]; simp
                simp (disch:=first|omega|(simp<;>omega)|fail) [-map_take,-map_drop,-map_set,-map_append,-drop_one,a8L1,a8S1,h,h',hg,g1,g2,g3,g4]
                exact ⟨j+1,zju2 (tail:=[.cells (faC F)]) (by simp (disch:=first|omega|(simp<;>omega)|fail) [-map_take,-map_drop,-map_set,-map_append,-drop_one,S731,a8S1,hn]) (by simp (disch:=first|omega|(simp<;>omega)|fail) [-map_take,-map_drop,-map_set,-map_append,-drop_one,S731,a8S1,H730]) (Nat.zero_le _) (by simp (disch:=first|omega|(simp<;>omega)|fail) [-map_take,-map_drop,-map_set,-map_append,-drop_one,S731,a8S1,H730,hn,z1r6,Am.below]) (by simp (disch:=first|omega|(simp<;>omega)|fail) [-map_take,-map_drop,-map_set,-map_append,-drop_one,S731,a8S1,H730,zlf2,z8j3,zd49,z2g3,zljy,zj5b]),by omega,by omega⟩
              | true =>
                have hn:thN (j+1)=true:=by rw [hnx,hf]; simp
                simp (disch:=first|omega|(simp<;>omega)|fail) [-map_take,-map_drop,-map_set,-map_append,-drop_one,a8L1,a8S1,h,h',hg,g1,g2,g3,g4]
                exact ⟨j+1,zju2 (tail:=[.cells (faC F)]) (by simp (disch:=first|omega|(simp<;>omega)|fail) [-map_take,-map_drop,-map_set,-map_append,-drop_one,S731,a8S1,hn]) (by simp (disch:=first|omega|(simp<;>omega)|fail) [-map_take,-map_drop,-map_set,-map_append,-drop_one,S731,a8S1,H730]) (Nat.zero_le _) (by simp (disch:=first|omega|(simp<;>omega)|fail) [-map_take,-map_drop,-map_set,-map_append,-drop_one,S731,a8S1,H730,hn,z1r6,Am.below]) (by simp (disch:=first|omega|(simp<;>omega)|fail) [-map_take,-map_drop,-map_set,-map_append,-drop_one,S731,a8S1,H730,zlf2,z8j3,zd49,z2g3,zljy,zj5b]),by omega,by omega⟩
          · have hf:zp41 false o F=false:=by simp [zp41,selO,zw0r,Sel.p,z5z5,z7er,g1,g2,g3]
            cases th with
            | false =>
              have hn:thN (j+1)=false:=by rw [hnx,hf]; simp
              simp (disch:=first|omega|(simp<;>omega)|fail) [-map_take,-map_drop,-map_set,-map_append,-drop_one,a8L1,a8S1,h,h',hg,g1,g2,g3]
              exact ⟨j+1,zju2 (tail:=[.cells (faC F)]) (by simp (disch:=first|omega|(simp<;>omega)|fail) [-map_take,-map_drop,-map_set,-map_append,-drop_one,S731,a8S1,hn]) (by simp (disch:=first|omega|(simp<;>omega)|fail) [-map_take,-map_drop,-map_set,-map_append,-drop_one,S731,a8S1,H730]) (Nat.zero_le _) (by simp (disch:=first|omega|(simp<;>omega)|fail) [-map_take,-map_drop,-map_set,-map_append,-drop_one,S731,a8S1,H730,hn,z1r6,Am.below]) (by simp (disch:=first|omega|(simp<;>omega)|fail) [-map_take,-map_drop,-map_set,-map_append,-drop_one,S731,a8S1,H730,zlf2,z8j3,zd49,z2g3,zljy,zj5b]),by omega,by omega⟩
            | true =>
              have hn:thN (j+1)=true:=by rw [hnx,hf]; simp
              simp (disch:=first|omega|(simp<;>omega)|fail) [-map_take,-map_drop,-map_set,-map_append,-drop_one,a8L1,a8S1,h,h',hg,g1,g2,g3]
              exact ⟨j+1,zju2 (tail:=[.cells (faC F)]) (by simp (disch:=first|omega|(simp<;>omega)|fail) [-map_take,-map_drop,-map_set,-map_append,-drop_one,S731,a8S1,hn]) (by simp (disch:=first|omega|(simp<;>omega)|fail) [-map_take,-map_drop,-map_set,-map_append,-drop_one,S731,a8S1,H730]) (Nat.zero_le _) (by simp (disch:=first|omega|(simp<;>omega)|fail) [-map_take,-map_drop,-map_set,-map_append,-drop_one,S731,a8S1,H730,hn,z1r6,Am.below]) (by simp (disch:=first|omega|(simp<;>omega)|fail) [-map_take,-map_drop,-map_set,-map_append,-drop_one,S731,a8S1,H730,zlf2,z8j3,zd49,z2g3,zljy,zj5b]),by omega,by omega⟩
        · have hf:zp41 false o F=false:=by simp [zp41,selO,zw0r,Sel.p,z5z5,z7er,g1,g2]
          cases th with
          | false =>
            have hn:thN (j+1)=false:=by rw [hnx,hf]; simp
            simp (disch:=first|omega|(simp<;>omega)|fail) [-map_take,-map_drop,-map_set,-map_append,-drop_one,a8L1,a8S1,h,h',hg,g1,g2]
            exact ⟨j+1,zju2 (tail:=[.cells (faC F)]) (by simp (disch:=first|omega|(simp<;>omega)|fail) [-map_take,-map_drop,-map_set,-map_append,-drop_one,S731,a8S1,hn]) (by simp (disch:=first|omega|(simp<;>omega)|fail) [-map_take,-map_drop,-map_set,-map_append,-drop_one,S731,a8S1,H730]) (Nat.zero_le _) (by simp (disch:=first|omega|(simp<;>omega)|fail) [-map_take,-map_drop,-map_set,-map_append,-drop_one,S731,a8S1,H730,hn,z1r6,Am.below]) (by simp (disch:=first|omega|(simp<;>omega)|fail) [-map_take,-map_drop,-map_set,-map_append,-drop_one,S731,a8S1,H730,zlf2,z8j3,zd49,z2g3,zljy,zj5b]),by omega,by omega⟩
          | true =>
            have hn:thN (j+1)=true:=by rw [hnx,hf]; simp
            simp (disch:=first|omega|(simp<;>omega)|fail) [-map_take,-map_drop,-map_set,-map_append,-drop_one,a8L1,a8S1,h,h',hg,g1,g2]
            exact ⟨j+1,zju2 (tail:=[.cells (faC F)]) (by simp (disch:=first|omega|(simp<;>omega)|fail) [-map_take,-map_drop,-map_set,-map_append,-drop_one,S731,a8S1,hn]) (by simp (disch:=first|omega|(simp<;>omega)|fail) [-map_take,-map_drop,-map_set,-map_append,-drop_one,S731,a8S1,H730]) (Nat.zero_le _) (by simp (disch:=first|omega|(simp<;>omega)|fail) [-map_take,-map_drop,-map_set,-map_append,-drop_one,S731,a8S1,H730,hn,z1r6,Am.below]) (by simp (disch:=first|omega|(simp<;>omega)|fail) [-map_take,-map_drop,-map_set,-map_append,-drop_one,S731,a8S1,H730,zlf2,z8j3,zd49,z2g3,zljy,zj5b]),by omega,by omega⟩
      · have hf:zp41 false o F=false:=by simp [zp41,selO,zw0r,Sel.p,z5z5,z7er,g1]
        cases th with
        | false =>
          have hn:thN (j+1)=false:=by rw [hnx,hf]; simp
          simp (disch:=first|omega|(simp<;>omega)|fail) [-map_take,-map_drop,-map_set,-map_append,-drop_one,a8L1,a8S1,h,h',hg,g1]
          exact ⟨j+1,zju2 (tail:=[.cells (faC F)]) (by simp (disch:=first|omega|(simp<;>omega)|fail) [-map_take,-map_drop,-map_set,-map_append,-drop_one,S731,a8S1,hn]) (by simp (disch:=first|omega|(simp<;>omega)|fail) [-map_take,-map_drop,-map_set,-map_append,-drop_one,S731,a8S1,H730]) (Nat.zero_le _) (by simp (disch:=first|omega|(simp<;>omega)|fail) [-map_take,-map_drop,-map_set,-map_append,-drop_one,S731,a8S1,H730,hn,z1r6,Am.below]) (by simp (disch:=first|omega|(simp<;>omega)|fail) [-map_take,-map_drop,-map_set,-map_append,-drop_one,S731,a8S1,H730,zlf2,z8j3,zd49,z2g3,zljy,zj5b]),by omega,by omega⟩
        | true =>
          have hn:thN (j+1)=true:=by rw [hnx,hf]; simp
          simp (disch:=first|omega|(simp<;>omega)|fail) [-map_take,-map_drop,-map_set,-map_append,-drop_one,a8L1,a8S1,h,h',hg,g1]
          exact ⟨j+1,zju2 (tail:=[.cells (faC F)]) (by simp (disch:=first|omega|(simp<;>omega)|fail) [-map_take,-map_drop,-map_set,-map_append,-drop_one,S731,a8S1,hn]) (by simp (disch:=first|omega|(simp<;>omega)|fail) [-map_take,-map_drop,-map_set,-map_append,-drop_one,S731,a8S1,H730]) (Nat.zero_le _) (by simp (disch:=first|omega|(simp<;>omega)|fail) [-map_take,-map_drop,-map_set,-map_append,-drop_one,S731,a8S1,H730,hn,z1r6,Am.below]) (by simp (disch:=first|omega|(simp<;>omega)|fail) [-map_take,-map_drop,-map_set,-map_append,-drop_one,S731,a8S1,H730,zlf2,z8j3,zd49,z2g3,zljy,zj5b]),by omega,by omega⟩
    · have h':¬ (j:Int)<c.f.l.length:=by omega
      have e:thN j=zszs false o c.f.l w:=by rw [← hthn,show j=c.f.l.length by omega]
      rw [e]
      cases ht:zszs false o c.f.l w with
      | false =>
        have hcs:cntO false o c.f.l (i+1)=C:=by rw [hcs,ht]; rfl
        simp (disch:=first|omega|(simp<;>omega)|fail) [-map_take,-map_drop,-map_set,-map_append,-drop_one,a8L1,a8S1,h,h']
        exact ⟨i+1,z515 (by simp (disch:=first|omega|(simp<;>omega)|fail) [-map_take,-map_drop,-map_set,-map_append,-drop_one,S730,a8S0,hcs,H730]) (by simp (disch:=first|omega|(simp<;>omega)|fail) [-map_take,-map_drop,-map_set,-map_append,-drop_one,S730,a8S0,H730]),by omega,by omega⟩
      | true =>
        have hcs:cntO false o c.f.l (i+1)=C+1:=by rw [hcs,ht]; rfl
        simp (disch:=first|omega|(simp<;>omega)|fail) [-map_take,-map_drop,-map_set,-map_append,-drop_one,a8L1,a8S1,h,h']
        exact ⟨i+1,z515 (by simp (disch:=first|omega|(simp<;>omega)|fail) [-map_take,-map_drop,-map_set,-map_append,-drop_one,S730,a8S0,hcs,H730]) (by simp (disch:=first|omega|(simp<;>omega)|fail) [-map_take,-map_drop,-map_set,-map_append,-drop_one,S730,a8S0,H730]),by omega,by omega⟩
  · have hi4':¬ (i:Int)<4:=by omega
    rw [show i=4 by omega]
    obtain ⟨C,hC⟩ : ∃ C,cntO false o c.f.l 4=C:=⟨_,rfl⟩
    rw [hC] at law hcn ⊢
    by_cases e:1+u≤(C:Int)
    · have hh:R.holds=true:=by rw [law.1]; exact decide_eq_true e
      simp (disch:=first|omega|(simp<;>omega)|fail) [-map_take,-map_drop,-map_set,-map_append,-drop_one,a8L0,a8S0,hi4,hi4',zh3r,k1,hh,e,z51b,zths]
    · have hh:R.holds=false:=by rw [law.1]; exact decide_eq_false e
      have hm:R.missing=1+u-C:=law.2 (by omega)
      have wm:IntKind.i64.wrap (1+u-C)=1+u-C:=by rw [IntKind.wrap_i64]; omega
      simp (disch:=first|omega|(simp<;>omega)|fail) [-map_take,-map_drop,-map_set,-map_append,-drop_one,a8L0,a8S0,hi4,hi4',zh3r,k1,hh,hm,wm,e,z51b,zths]
set_option maxRecDepth 20000 in
set_option maxHeartbeats 2000000 in
theorem zc8s (x:Nl) (n:Int):Runs T730 a8 [x.dv,.int .i64 n,.bool true] (.bool true):=by
  refine ⟨?_⟩
  have hT:=fun m=>zwy3 (x:=x) (n:=300) (by decide) m
  have hx:=zkx7 x
  obtain ⟨c,o,t1,t2,⟨m1,m2,ht,s⟩,hown⟩:=mk2o x 14 0 (by omega) (by omega)
  simp only [show ((300:Nat):Int)=300 from rfl] at hT
  simp only [show ((14:Nat):Int)=14 from rfl,show ((0:Nat):Int)=0 from rfl] at m1
  have w1:=zcb9 (n:=n) (k:=4) (by omega) (by omega)
  have h1:0≤n % 4∧n % 4<4:=by omega
  obtain ⟨u,hu⟩ : ∃ u,n % 4=u:=⟨_,rfl⟩
  rw [hu] at w1 h1
  have wu:IntKind.i64.wrap (1+u)=1+u:=by rw [IntKind.wrap_i64]; omega
  have law:=zgc3 (c:=c) (ap:=true) (o:=o) (n:=1+u) hown (by omega)
  have rq:RqSm ⟨zw0r true,1+u,0,[]⟩:=fun _=>⟨by simp; omega,by simp; omega,by simp,by simp⟩
  have k1:=z1u0 (c:=c) (o:=o) (q:=⟨zw0r true,1+u,0,[]⟩) fun _=>zu3n s s.f rq
  obtain ⟨R,hR⟩ : ∃ R,zwwp c o ⟨zw0r true,1+u,0,[]⟩=R:=⟨_,rfl⟩
  rw [hR] at k1 law
  have sf:=s.f
  obtain ⟨q,hq⟩ : ∃ q:Req,(⟨zw0r true,1+u,0,[]⟩:Req)=q:=⟨_,rfl⟩
  have hqn:q.n=1+u:=by rw [← hq]
  have hcn:cntO true o c.f.l 4≤4:=by unfold cntO; exact Nat.le_trans (List.length_filter_le _ _) (by decide)
  have hs : ∀ (H:List AObj),zy6o H 3 1 0 (.int .i64 3) (some (rqC ⟨1,1+u,0,[]⟩))=some (.junk,H.set 3 (.cells (rqC ⟨3,1+u,0,[]⟩))):=fun H=>rfl
  simp (disch:=first|omega|(simp<;>omega)|fail) [-map_take,-map_drop,-map_set,-map_append,-drop_one,a8,zgo1,z4u4,zbfl,ze7l,hT,hx,m1,m2,w1,wu,zmqj,hs]
  refine zlm5 (S730 true t2 c o ⟨zw0r true,1+u,0,[]⟩) (fun i=>4-i) (fun i=>i≤4) 0 (z515 (by simp (disch:=first|omega|(simp<;>omega)|fail) [-map_take,-map_drop,-map_set,-map_append,-drop_one,S730,a8S0,H730,zw0r,cntO]) (by simp (disch:=first|omega|(simp<;>omega)|fail) [-map_take,-map_drop,-map_set,-map_append,-drop_one,S730,a8S0,H730,zw0r])) (by omega) (fun i hi => ?_)
  have hci:cntO true o c.f.l i≤4:=by unfold cntO; exact Nat.le_trans (List.length_filter_le _ _) (by rw [List.length_take]; simp [zt4y]; omega)
  simp only [S730,H730]
  by_cases hi4:i<4
  · have hi4':(i:Int)<4:=by omega
    obtain ⟨w,hw,hW⟩ : ∃ w,zt4y[i]? = some w ∧ ∀ H,zpsc H 1 (.sl true 1 4 [.str [97,110,110],.str [98,111,98],.str [99,97,116],.str [100,97,110]]) (i:Int)=some (.ref [.str w]):=by
      rcases (show i=0∨i=1∨i=2∨i=3 by omega) with rfl|rfl|rfl|rfl
      · exact ⟨_,rfl,fun H=>rfl⟩
      · exact ⟨_,rfl,fun H=>rfl⟩
      · exact ⟨_,rfl,fun H=>rfl⟩
      · exact ⟨_,rfl,fun H=>rfl⟩
    have hcs:=z99p (ap:=true) (o:=o) (l:=c.f.l) hw
    obtain ⟨thN,hth⟩ : ∃ thN:Nat→Bool,thN=fun j=>(c.f.l.take j).any fun f=>zp41 true o f&&decide (f.own=w):=⟨_,rfl⟩
    have hth0:thN 0=false:=by rw [hth]; rfl
    have hthn:thN c.f.l.length=zszs true o c.f.l w:=by rw [hth]; simp [zszs]
    obtain ⟨C,hC⟩ : ∃ C,cntO true o c.f.l i=C:=⟨_,rfl⟩
    rw [hC] at hcs hci ⊢
    simp (disch:=first|omega|(simp<;>omega)|fail) [-map_take,-map_drop,-map_set,-map_append,-drop_one,a8L0,a8S0,hi4,hi4',hW]
    refine zlm5 (S731 true t2 c o ⟨zw0r true,1+u,0,[]⟩ C i w thN) (fun j=>c.f.l.length-j) (fun j=>j≤c.f.l.length) 0 (z515 (by simp (disch:=first|omega|(simp<;>omega)|fail) [-map_take,-map_drop,-map_set,-map_append,-drop_one,S731,a8S1,H730,hth0]) (by simp (disch:=first|omega|(simp<;>omega)|fail) [-map_take,-map_drop,-map_set,-map_append,-drop_one,S731,a8S1,H730])) (by omega) (fun j hj => ?_)
    simp only [S731,H730]
    by_cases h:j<c.f.l.length
    · have h':(j:Int)<c.f.l.length:=by omega
      have hg : ∀ H,zpsc H 71 (c.f.dv 71 faC) j=some (.ref (faC c.f.l[j])):=fun H=>zalo zs77 h
      have hnx:thN (j+1)=(thN j||(zp41 true o c.f.l[j]&&decide (c.f.l[j].own=w))):=by
        rw [hth]; simp only [List.take_succ_eq_append_getElem h,List.any_append,List.any_cons,List.any_nil,Bool.or_false]
      obtain ⟨F,hF⟩ : ∃ F,c.f.l[j]=F:=⟨_,rfl⟩
      obtain ⟨th,hthj⟩ : ∃ th,thN j=th:=⟨_,rfl⟩
      rw [hF] at hg hnx
      rw [hthj] at hnx ⊢
      by_cases g1:F.kind=1
      · by_cases g2:F.rev=o.rev
        · by_cases g3:F.lay=o.lay
          · have g5:¬ F.kind=3:=by omega
            have hf:zp41 true o F=false:=by simp [zp41,selO,zw0r,Sel.p,z5z5,z7er,g1,g2,g3,g5]
            cases th with
            | false =>
              have hn:thN (j+1)=false:=by rw [hnx,hf]; simp
              simp (disch:=first|omega|(simp<;>omega)|fail) [-map_take,-map_drop,-map_set,-map_append,-drop_one,a8L1,a8S1,h,h',hg,g1,g2,g3,g5]
              exact ⟨j+1,zju2 (tail:=[.cells (faC F)]) (by simp (disch:=first|omega|(simp<;>omega)|fail) [-map_take,-map_drop,-map_set,-map_append,-drop_one,S731,a8S1,hn]) (by simp (disch:=first|omega|(simp<;>omega)|fail) [-map_take,-map_drop,-map_set,-map_append,-drop_one,S731,a8S1,H730]) (Nat.zero_le _) (by simp (disch:=first|omega|(simp<;>omega)|fail) [-map_take,-map_drop,-map_set,-map_append,-drop_one,S731,a8S1,H730,hn,z1r6,Am.below]) (by simp (disch:=first|omega|(simp<;>omega)|fail) [-map_take,-map_drop,-map_set,-map_append,-drop_one,S731,a8S1,H730,zlf2,z8j3,zd49,z2g3,zljy,zj5b]),by omega,by omega⟩
            | true =>
              have hn:thN (j+1)=true:=by rw [hnx,hf]; simp
              simp (disch:=first|omega|(simp<;>omega)|fail) [-map_take,-map_drop,-map_set,-map_append,-drop_one,a8L1,a8S1,h,h',hg,g1,g2,g3,g5]
              exact ⟨j+1,zju2 (tail:=[.cells (faC F)]) (by simp (disch:=first|omega|(simp<;>omega)|fail) [-map_take,-map_drop,-map_set,-map_append,-drop_one,S731,a8S1,hn]) (by simp (disch:=first|omega|(simp<;>omega)|fail) [-map_take,-map_drop,-map_set,-map_append,-drop_one,S731,a8S1,H730]) (Nat.zero_le _) (by simp (disch:=first|omega|(simp<;>omega)|fail) [-map_take,-map_drop,-map_set,-map_append,-drop_one,S731,a8S1,H730,hn,z1r6,Am.below]) (by simp (disch:=first|omega|(simp<;>omega)|fail) [-map_take,-map_drop,-map_set,-map_append,-drop_one,S731,a8S1,H730,zlf2,z8j3,zd49,z2g3,zljy,zj5b]),by omega,by omega⟩
          · have g5:¬ F.kind=3:=by omega
            have hf:zp41 true o F=false:=by simp [zp41,selO,zw0r,Sel.p,z5z5,z7er,g1,g2,g3,g5]
            cases th with
            | false =>
              have hn:thN (j+1)=false:=by rw [hnx,hf]; simp
              simp (disch:=first|omega|(simp<;>omega)|fail) [-map_take,-map_drop,-map_set,-map_append,-drop_one,a8L1,a8S1,h,h',hg,g1,g2,g3,g5]
              exact ⟨j+1,zju2 (tail:=[.cells (faC F)]) (by simp (disch:=first|omega|(simp<;>omega)|fail) [-map_take,-map_drop,-map_set,-map_append,-drop_one,S731,a8S1,hn]) (by simp (disch:=first|omega|(simp<;>omega)|fail) [-map_take,-map_drop,-map_set,-map_append,-drop_one,S731,a8S1,H730]) (Nat.zero_le _) (by simp (disch:=first|omega|(simp<;>omega)|fail) [-map_take,-map_drop,-map_set,-map_append,-drop_one,S731,a8S1,H730,hn,z1r6,Am.below]) (by simp (disch:=first|omega|(simp<;>omega)|fail) [-map_take,-map_drop,-map_set,-map_append,-drop_one,S731,a8S1,H730,zlf2,z8j3,zd49,z2g3,zljy,zj5b]),by omega,by omega⟩
            | true =>
              have hn:thN (j+1)=true:=by rw [hnx,hf]; simp
              simp (disch:=first|omega|(simp<;>omega)|fail) [-map_take,-map_drop,-map_set,-map_append,-drop_one,a8L1,a8S1,h,h',hg,g1,g2,g3,g5]
              exact ⟨j+1,zju2 (tail:=[.cells (faC F)]) (by simp (disch:=first|omega|(simp<;>omega)|fail) [-map_take,-map_drop,-map_set,-map_append,-drop_one,S731,a8S1,hn]) (by simp (disch:=first|omega|(simp<;>omega)|fail) [-map_take,-map_drop,-map_set,-map_append,-drop_one,S731,a8S1,H730]) (Nat.zero_le _) (by simp (disch:=first|omega|(simp<;>omega)|fail) [-map_take,-map_drop,-map_set,-map_append,-drop_one,S731,a8S1,H730,hn,z1r6,Am.below]) (by simp (disch:=first|omega|(simp<;>omega)|fail) [-map_take,-map_drop,-map_set,-map_append,-drop_one,S731,a8S1,H730,zlf2,z8j3,zd49,z2g3,zljy,zj5b]),by omega,by omega⟩
        · have g5:¬ F.kind=3:=by omega
          have hf:zp41 true o F=false:=by simp [zp41,selO,zw0r,Sel.p,z5z5,z7er,g1,g2,g5]
          cases th with
          | false =>
            have hn:thN (j+1)=false:=by rw [hnx,hf]; simp
            simp (disch:=first|omega|(simp<;>omega)|fail) [-map_take,-map_drop,-map_set,-map_append,-drop_one,a8L1,a8S1,h,h',hg,g1,g2,g5]
            exact ⟨j+1,zju2 (tail:=[.cells (faC F)]) (by simp (disch:=first|omega|(simp<;>omega)|fail) [-map_take,-map_drop,-map_set,-map_append,-drop_one,S731,a8S1,hn]) (by simp (disch:=first|omega|(simp<;>omega)|fail) [-map_take,-map_drop,-map_set,-map_append,-drop_one,S731,a8S1,H730]) (Nat.zero_le _) (by simp (disch:=first|omega|(simp<;>omega)|fail) [-map_take,-map_drop,-map_set,-map_append,-drop_one,S731,a8S1,H730,hn,z1r6,Am.below]) (by simp (disch:=first|omega|(simp<;>omega)|fail) [-map_take,-map_drop,-map_set,-map_append,-drop_one,S731,a8S1,H730,zlf2,z8j3,zd49,z2g3,zljy,zj5b]),by omega,by omega⟩
          | true =>
            have hn:thN (j+1)=true:=by rw [hnx,hf]; simp
            simp (disch:=first|omega|(simp<;>omega)|fail) [-map_take,-map_drop,-map_set,-map_append,-drop_one,a8L1,a8S1,h,h',hg,g1,g2,g5]
            exact ⟨j+1,zju2 (tail:=[.cells (faC F)]) (by simp (disch:=first|omega|(simp<;>omega)|fail) [-map_take,-map_drop,-map_set,-map_append,-drop_one,S731,a8S1,hn]) (by simp (disch:=first|omega|(simp<;>omega)|fail) [-map_take,-map_drop,-map_set,-map_append,-drop_one,S731,a8S1,H730]) (Nat.zero_le _) (by simp (disch:=first|omega|(simp<;>omega)|fail) [-map_take,-map_drop,-map_set,-map_append,-drop_one,S731,a8S1,H730,hn,z1r6,Am.below]) (by simp (disch:=first|omega|(simp<;>omega)|fail) [-map_take,-map_drop,-map_set,-map_append,-drop_one,S731,a8S1,H730,zlf2,z8j3,zd49,z2g3,zljy,zj5b]),by omega,by omega⟩
      · by_cases g5:F.kind=3
        · by_cases g2:F.rev=o.rev
          · have hf:zp41 true o F=true:=by simp [zp41,selO,zw0r,Sel.p,z5z5,z7er,g1,g2,g5]
            cases th with
            | false =>
              have hn:thN (j+1)=decide (F.own=w):=by rw [hnx,hf]; simp
              simp (disch:=first|omega|(simp<;>omega)|fail) [-map_take,-map_drop,-map_set,-map_append,-drop_one,a8L1,a8S1,h,h',hg,g1,g2,g5]
              exact ⟨j+1,zju2 (tail:=[.cells (faC F)]) (by simp (disch:=first|omega|(simp<;>omega)|fail) [-map_take,-map_drop,-map_set,-map_append,-drop_one,S731,a8S1,hn]) (by simp (disch:=first|omega|(simp<;>omega)|fail) [-map_take,-map_drop,-map_set,-map_append,-drop_one,S731,a8S1,H730]) (Nat.zero_le _) (by simp (disch:=first|omega|(simp<;>omega)|fail) [-map_take,-map_drop,-map_set,-map_append,-drop_one,S731,a8S1,H730,hn,z1r6,Am.below]) (by simp (disch:=first|omega|(simp<;>omega)|fail) [-map_take,-map_drop,-map_set,-map_append,-drop_one,S731,a8S1,H730,zlf2,z8j3,zd49,z2g3,zljy,zj5b]),by omega,by omega⟩
            | true =>
              have hn:thN (j+1)=true:=by rw [hnx,hf]; simp
              simp (disch:=first|omega|(simp<;>omega)|fail) [-map_take,-map_drop,-map_set,-map_append,-drop_one,a8L1,a8S1,h,h',hg,g1,g2,g5]
              exact ⟨j+1,zju2 (tail:=[.cells (faC F)]) (by simp (disch:=first|omega|(simp<;>omega)|fail) [-map_take,-map_drop,-map_set,-map_append,-drop_one,S731,a8S1,hn]) (by simp (disch:=first|omega|(simp<;>omega)|fail) [-map_take,-map_drop,-map_set,-map_append,-drop_one,S731,a8S1,H730]) (Nat.zero_le _) (by simp (disch:=first|omega|(simp<;>omega)|fail) [-map_take,-map_drop,-map_set,-map_append,-drop_one,S731,a8S1,H730,hn,z1r6,Am.below]) (by simp (disch:=first|omega|(simp<;>omega)|fail) [-map_take,-map_drop,-map_set,-map_append,-drop_one,S731,a8S1,H730,zlf2,z8j3,zd49,z2g3,zljy,zj5b]),by omega,by omega⟩
          · have hf:zp41 true o F=false:=by simp [zp41,selO,zw0r,Sel.p,z5z5,z7er,g1,g2,g5]
            cases th with
            | false =>
              have hn:thN (j+1)=false:=by rw [hnx,hf]; simp
              simp (disch:=first|omega|(simp<;>omega)|fail) [-map_take,-map_drop,-map_set,-map_append,-drop_one,a8L1,a8S1,h,h',hg,g1,g2,g5]
              exact ⟨j+1,zju2 (tail:=[.cells (faC F)]) (by simp (disch:=first|omega|(simp<;>omega)|fail) [-map_take,-map_drop,-map_set,-map_append,-drop_one,S731,a8S1,hn]) (by simp (disch:=first|omega|(simp<;>omega)|fail) [-map_take,-map_drop,-map_set,-map_append,-drop_one,S731,a8S1,H730]) (Nat.zero_le _) (by simp (disch:=first|omega|(simp<;>omega)|fail) [-map_take,-map_drop,-map_set,-map_append,-drop_one,S731,a8S1,H730,hn,z1r6,Am.below]) (by simp (disch:=first|omega|(simp<;>omega)|fail) [-map_take,-map_drop,-map_set,-map_append,-drop_one,S731,a8S1,H730,zlf2,z8j3,zd49,z2g3,zljy,zj5b]),by omega,by omega⟩
            | true =>
              have hn:thN (j+1)=true:=by rw [hnx,hf]; simp
              simp (disch:=first|omega|(simp<;>omega)|fail) [-map_take,-map_drop,-map_set,-map_append,-drop_one,a8L1,a8S1,h,h',hg,g1,g2,g5]
              exact ⟨j+1,zju2 (tail:=[.cells (faC F)]) (by simp (disch:=first|omega|(simp<;>omega)|fail) [-map_take,-map_drop,-map_set,-map_append,-drop_one,S731,a8S1,hn]) (by simp (disch:=first|omega|(simp<;>omega)|fail) [-map_take,-map_drop,-map_set,-map_append,-drop_one,S731,a8S1,H730]) (Nat.zero_le _) (by simp (disch:=first|omega|(simp<;>omega)|fail) [-map_take,-map_drop,-map_set,-map_append,-drop_one,S731,a8S1,H730,hn,z1r6,Am.below]) (by simp (disch:=first|omega|(simp<;>omega)|fail) [-map_take,-map_drop,-map_set,-map_append,-drop_one,S731,a8S1,H730,zlf2,z8j3,zd49,z2g3,zljy,zj5b]),by omega,by omega⟩
        · have hf:zp41 true o F=false:=by simp [zp41,selO,zw0r,Sel.p,z5z5,z7er,g1,g5]
          cases th with
          | false =>
            have hn:thN (j+1)=false:=by rw [hnx,hf]; simp
            simp (disch:=first|omega|(simp<;>omega)|fail) [-map_take,-map_drop,-map_set,-map_append,-drop_one,a8L1,a8S1,h,h',hg,g1,g5]
            exact ⟨j+1,zju2 (tail:=[.cells (faC F)]) (by simp (disch:=first|omega|(simp<;>omega)|fail) [-map_take,-map_drop,-map_set,-map_append,-drop_one,S731,a8S1,hn]) (by simp (disch:=first|omega|(simp<;>omega)|fail) [-map_take,-map_drop,-map_set,-map_append,-drop_one,S731,a8S1,H730]) (Nat.zero_le _) (by simp (disch:=first|omega|(simp<;>omega)|fail) [-map_take,-map_drop,-map_set,-map_append,-drop_one,S731,a8S1,H730,hn,z1r6,Am.below]) (by simp (disch:=first|omega|(simp<;>omega)|fail) [-map_take,-map_drop,-map_set,-map_append,-drop_one,S731,a8S1,H730,zlf2,z8j3,zd49,z2g3,zljy,zj5b]),by omega,by omega⟩
          | true =>
            have hn:thN (j+1)=true:=by rw [hnx,hf]; simp
            simp (disch:=first|omega|(simp<;>omega)|fail) [-map_take,-map_drop,-map_set,-map_append,-drop_one,a8L1,a8S1,h,h',hg,g1,g5]
            exact ⟨j+1,zju2 (tail:=[.cells (faC F)]) (by simp (disch:=first|omega|(simp<;>omega)|fail) [-map_take,-map_drop,-map_set,-map_append,-drop_one,S731,a8S1,hn]) (by simp (disch:=first|omega|(simp<;>omega)|fail) [-map_take,-map_drop,-map_set,-map_append,-drop_one,S731,a8S1,H730]) (Nat.zero_le _) (by simp (disch:=first|omega|(simp<;>omega)|fail) [-map_take,-map_drop,-map_set,-map_append,-drop_one,S731,a8S1,H730,hn,z1r6,Am.below]) (by simp (disch:=first|omega|(simp<;>omega)|fail) [-map_take,-map_drop,-map_set,-map_append,-drop_one,S731,a8S1,H730,zlf2,z8j3,zd49,z2g3,zljy,zj5b]),by omega,by omega⟩
    · have h':¬ (j:Int)<c.f.l.length:=by omega
      have e:thN j=zszs true o c.f.l w:=by rw [← hthn,show j=c.f.l.length by omega]
      rw [e]
      cases ht:zszs true o c.f.l w with
      | false =>
        have hcs:cntO true o c.f.l (i+1)=C:=by rw [hcs,ht]; rfl
        simp (disch:=first|omega|(simp<;>omega)|fail) [-map_take,-map_drop,-map_set,-map_append,-drop_one,a8L1,a8S1,h,h']
        exact ⟨i+1,z515 (by simp (disch:=first|omega|(simp<;>omega)|fail) [-map_take,-map_drop,-map_set,-map_append,-drop_one,S730,a8S0,hcs,H730]) (by simp (disch:=first|omega|(simp<;>omega)|fail) [-map_take,-map_drop,-map_set,-map_append,-drop_one,S730,a8S0,H730]),by omega,by omega⟩
      | true =>
        have hcs:cntO true o c.f.l (i+1)=C+1:=by rw [hcs,ht]; rfl
        simp (disch:=first|omega|(simp<;>omega)|fail) [-map_take,-map_drop,-map_set,-map_append,-drop_one,a8L1,a8S1,h,h']
        exact ⟨i+1,z515 (by simp (disch:=first|omega|(simp<;>omega)|fail) [-map_take,-map_drop,-map_set,-map_append,-drop_one,S730,a8S0,hcs,H730]) (by simp (disch:=first|omega|(simp<;>omega)|fail) [-map_take,-map_drop,-map_set,-map_append,-drop_one,S730,a8S0,H730]),by omega,by omega⟩
  · have hi4':¬ (i:Int)<4:=by omega
    rw [show i=4 by omega]
    obtain ⟨C,hC⟩ : ∃ C,cntO true o c.f.l 4=C:=⟨_,rfl⟩
    rw [hC] at law hcn ⊢
    by_cases e:1+u≤(C:Int)
    · have hh:R.holds=true:=by rw [law.1]; exact decide_eq_true e
      simp (disch:=first|omega|(simp<;>omega)|fail) [-map_take,-map_drop,-map_set,-map_append,-drop_one,a8L0,a8S0,hi4,hi4',zh3r,k1,hh,e,z51b,zths]
    · have hh:R.holds=false:=by rw [law.1]; exact decide_eq_false e
      have hm:R.missing=1+u-C:=law.2 (by omega)
      have wm:IntKind.i64.wrap (1+u-C)=1+u-C:=by rw [IntKind.wrap_i64]; omega
      simp (disch:=first|omega|(simp<;>omega)|fail) [-map_take,-map_drop,-map_set,-map_append,-drop_one,a8L0,a8S0,hi4,hi4',zh3r,k1,hh,hm,wm,e,z51b,zths]
namespace requirementOwners
theorem law_holds (dvs) (h:Ty.Args [.sl (.int .i64),.int .i64,.bool] dvs):Am.Sem P 8 dvs (.bool true):=by
  obtain ⟨d1,l1,rfl,h1,d2,l2,rfl,h2,d3,l3,rfl,h3,rfl⟩:=h
  obtain ⟨x,_,hx⟩:=zjzy h1
  obtain ⟨a,_,ha⟩:=ok_n h2
  obtain ⟨b,rfl⟩:=zcd1 h3
  cases hx; cases ha
  cases b with
  | false=>exact zljw mix zh70 Tryz.func8 zwbl (z5sr x a)
  | true=>exact zljw mix zh70 Tryz.func8 zwbl (zc8s x a)
end requirementOwners
end Go.Proofs.YtdnhbfmlklaldaaGreat
