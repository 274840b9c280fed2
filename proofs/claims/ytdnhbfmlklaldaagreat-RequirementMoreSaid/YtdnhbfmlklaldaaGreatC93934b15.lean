/-
  14 texts of mine in one.
-/
import Derived.Test.YtdnhbfmlklaldaaGreatC83c7f3cb
import Derived.Test.YtdnhbfmlklaldaaGreatCd5c88767
import Derived.Test.YtdnhbfmlklaldaaGreatCf58b87d4
import Derived.Test.YtdnhbfmlklaldaaGreatCf196b68c
import Derived.Test.YtdnhbfmlklaldaaGreatC1c19311e
import Derived.Test.YtdnhbfmlklaldaaGreatCb43a816c
open List (map_take map_drop map_set map_append drop_one)
set_option linter.unusedSimpArgs false
set_option linter.unusedVariables false
namespace Go.Proofs.YtdnhbfmlklaldaaGreat
open Go Go.Am
structure CaSm (c:Cas):Prop where
  f:c.f.l.length≤12
  d : ∀ f ∈ c.f.l,f.docs.l.length≤2
  n:c.n.l.length≤8
  m : ∀ f ∈ c.n.l,f.dd.l.length≤1
  e:c.d.l.length≤1
def RqSm (q:Req):Prop:=(q.kind=1∨q.kind=3∨q.kind=4∨q.kind=5)→0≤q.n∧q.n≤6∧0≤q.m∧q.m≤1000000
theorem zarn {l:List Fct} {m:List Str} {k:Nat} (h : ∀ f ∈ l,f.docs.l.length≤2) (hm:m.length≤k):(ztt8 l m).length≤k*2:=by
  have:=zqok (f:=zm3u l) (m:=2) (l:=m) fun n _=>by
    unfold zm3u; split
    · rename_i f e; exact h f (List.mem_of_find?_eq_some e)
    · simp
  unfold ztt8
  have:m.length*2≤k*2:=Nat.mul_le_mul_right _ hm
  omega
theorem z8bz {l:List Fct} {n:Int} (h1:l.length≤12) (h2 : ∀ f ∈ l,f.docs.l.length≤2) (h3:0≤n) (h4:n≤6):EnOK l n :=
  ⟨h1,h3,by omega,fun f hf=>by have:=h2 f hf; omega,by
    have:=zarn (m:=(zzy4 l).take n.toNat) (k:=6) h2 (by rw [List.length_take]; omega)
    omega⟩
theorem zu3n {c:Cas} {all:List Fct} {o:Org} {q:Req} (s:CaSm c) (ha:all.length≤12) (hq:RqSm q):CkOK c all o q:=by
  have L : ∀ {k:Int} {s':Sel},(zskr c.f.l k s').length≤12:=fun {k} {s'}=>by have:=zjru (l:=c.f.l) (k:=k) (s:=s'); have:=s.f; omega
  have D : ∀ {k:Int} {s':Sel},∀ f ∈ zskr c.f.l k s',f.docs.l.length≤2:=fun f hf=>s.d f (zs6z.1 hf).1
  have hd:(decS c.n.l q.n).length≤8:=by
    have a:=zqok (f:=fun f:Fnd=>f.dd.l) (m:=1) (l:=c.n.l.filter fun f=>decide (q.n≤f.sev)) fun f hf=>s.m f (List.mem_filter.1 hf).1
    have b:=List.length_filter_le (fun f:Fnd=>decide (q.n≤f.sev)) c.n.l
    have:=s.n
    unfold decS; omega
  refine ⟨fun h => ?_,fun h => ?_,fun h => ?_,fun h => ?_,fun f hf=>by have:=s.d f hf; omega,fun h f hf=>by have:=s.d f hf; omega,⟨by have:=s.n; omega,fun f hf=>by have:=s.m f hf; omega⟩,by have:=s.e; omega,by have:=s.f; omega,by omega⟩
  · obtain ⟨h1,h2,-,-⟩:=hq (.inl h); exact z8bz L D h1 h2
  · obtain ⟨h1,h2,-,-⟩:=hq (.inr (.inl h)); exact z8bz L D h1 h2
  · obtain ⟨h1,h2,h3,h4⟩:=hq (.inr (.inr (.inl h)))
    refine ⟨L,by have:=zjru (l:=all) (k:=4) (s := .source o); omega,h1,by omega,h3,h4,fun f hf=>by have:=D f hf; omega,?_⟩
    have:=zarn (m:=(zob0 (zskr c.f.l 4 (.source o)) (zskr all 4 (.source o))).take q.n.toNat) (k:=6) (D (k:=4) (s' := .source o)) (by rw [List.length_take]; omega)
    omega
  · obtain ⟨h1,h2,-,-⟩:=hq (.inr (.inr (.inr h)))
    refine ⟨L,fun d=>z8bz ?_ (fun f hf=>D f (zs6z.1 hf).1) h1 h2,h1⟩
    have:=zjru (l:=zskr c.f.l 5 .every) (k:=5) (s := .target d)
    have:=L (k:=5) (s' := .every)
    omega
theorem zla1 {c:Cas} {docs:List Dg} (s:CaSm c):CaSm (zev9 c docs):=by
  have hl:(zev9 c docs).f.l=zcqw c docs:=zke4
  refine ⟨?_,fun f hf=>s.d f ?_,s.n,s.m,s.e⟩
  · rw [hl]; have:=List.length_filter_le (fun f:Fct=>subB f.docs.l docs) c.f.l; have:=s.f; unfold zcqw; omega
  · rw [hl] at hf; exact (List.mem_filter.1 hf).1
theorem zd9d {c:Cas} {o:Org} {q:Req} {docs:List Dg} (s:CaSm c) (hq:RqSm q):ByOK c o q docs :=
  ⟨zu3n (zla1 s) s.f hq,⟨by have:=s.n; omega,fun f hf=>by have:=s.m f hf; omega⟩,by have:=s.f; omega⟩
def mkD (b:B8):Sl Dg:=⟨some true,[dgW b],fun e=>by simp at e,by simp⟩
def o0:Org:=⟨dgW 1#8,[108],[114]⟩
def fa1:Fct:=⟨1,[98],dgW 1#8,[108],[114],5,false,dg0,mkD 7#8⟩
def fa2:Fct:=⟨1,[97],dgW 1#8,[108],[114],5,false,dg0,mkD 6#8⟩
def ca0:Cas:=⟨dg0,9,⟨some true,[fa1,fa2],fun e=>by simp at e,by simp⟩,nilS,nilS⟩
theorem z5pm:CaSm ca0:=⟨by decide,by decide,by decide,by decide,by decide⟩
theorem bd_o:zvnk [w8 0#8,w8 0#8,w8 0#8,w8 0#8,w8 0#8,w8 0#8,w8 0#8,w8 0#8,w8 0#8,w8 0#8,w8 0#8,w8 0#8,w8 0#8,w8 0#8,w8 0#8,w8 0#8,w8 0#8,w8 0#8,w8 0#8,w8 0#8,w8 0#8,w8 0#8,w8 0#8,w8 0#8,w8 0#8,w8 0#8,w8 0#8,w8 0#8,w8 0#8,w8 0#8,w8 0#8,w8 0#8,.str [],.str []] [(0,32,.agg (dgC (dgW 1#8))),(32,1,.str [108]),(33,1,.str [114])]=some (.agg (orC o0)):=rfl
theorem bs_d {b:B8}:bslD 32 1 (dgC dg0) [(0,32,.agg (dgC (dgW b)))]=some (.sl true 32 1 (dgC (dgW b))):=rfl
theorem zelr:zvnk [.int .i64 0,.str [],w8 0#8,w8 0#8,w8 0#8,w8 0#8,w8 0#8,w8 0#8,w8 0#8,w8 0#8,w8 0#8,w8 0#8,w8 0#8,w8 0#8,w8 0#8,w8 0#8,w8 0#8,w8 0#8,w8 0#8,w8 0#8,w8 0#8,w8 0#8,w8 0#8,w8 0#8,w8 0#8,w8 0#8,w8 0#8,w8 0#8,w8 0#8,w8 0#8,w8 0#8,w8 0#8,w8 0#8,w8 0#8,.str [],.str [],.int .i64 0,.bool false,w8 0#8,w8 0#8,w8 0#8,w8 0#8,w8 0#8,w8 0#8,w8 0#8,w8 0#8,w8 0#8,w8 0#8,w8 0#8,w8 0#8,w8 0#8,w8 0#8,w8 0#8,w8 0#8,w8 0#8,w8 0#8,w8 0#8,w8 0#8,w8 0#8,w8 0#8,w8 0#8,w8 0#8,w8 0#8,w8 0#8,w8 0#8,w8 0#8,w8 0#8,w8 0#8,w8 0#8,w8 0#8,.nils] [(0,1,.int .i64 1),(1,1,.str [98]),(2,32,.agg (dgC (dgW 1#8))),(34,1,.str [108]),(35,1,.str [114]),(36,1,.int .i64 5),(70,1,.sl true 32 1 (dgC (dgW 7#8)))]=some (.agg (faC fa1)):=rfl
theorem zvdq:zvnk [.int .i64 0,.str [],w8 0#8,w8 0#8,w8 0#8,w8 0#8,w8 0#8,w8 0#8,w8 0#8,w8 0#8,w8 0#8,w8 0#8,w8 0#8,w8 0#8,w8 0#8,w8 0#8,w8 0#8,w8 0#8,w8 0#8,w8 0#8,w8 0#8,w8 0#8,w8 0#8,w8 0#8,w8 0#8,w8 0#8,w8 0#8,w8 0#8,w8 0#8,w8 0#8,w8 0#8,w8 0#8,w8 0#8,w8 0#8,.str [],.str [],.int .i64 0,.bool false,w8 0#8,w8 0#8,w8 0#8,w8 0#8,w8 0#8,w8 0#8,w8 0#8,w8 0#8,w8 0#8,w8 0#8,w8 0#8,w8 0#8,w8 0#8,w8 0#8,w8 0#8,w8 0#8,w8 0#8,w8 0#8,w8 0#8,w8 0#8,w8 0#8,w8 0#8,w8 0#8,w8 0#8,w8 0#8,w8 0#8,w8 0#8,w8 0#8,w8 0#8,w8 0#8,w8 0#8,w8 0#8,.nils] [(0,1,.int .i64 1),(1,1,.str [97]),(2,32,.agg (dgC (dgW 1#8))),(34,1,.str [108]),(35,1,.str [114]),(36,1,.int .i64 5),(70,1,.sl true 32 1 (dgC (dgW 6#8)))]=some (.agg (faC fa2)):=rfl
set_option maxRecDepth 20000 in
theorem bs_f:bslD 71 2 [.int .i64 0,.str [],w8 0#8,w8 0#8,w8 0#8,w8 0#8,w8 0#8,w8 0#8,w8 0#8,w8 0#8,w8 0#8,w8 0#8,w8 0#8,w8 0#8,w8 0#8,w8 0#8,w8 0#8,w8 0#8,w8 0#8,w8 0#8,w8 0#8,w8 0#8,w8 0#8,w8 0#8,w8 0#8,w8 0#8,w8 0#8,w8 0#8,w8 0#8,w8 0#8,w8 0#8,w8 0#8,w8 0#8,w8 0#8,.str [],.str [],.int .i64 0,.bool false,w8 0#8,w8 0#8,w8 0#8,w8 0#8,w8 0#8,w8 0#8,w8 0#8,w8 0#8,w8 0#8,w8 0#8,w8 0#8,w8 0#8,w8 0#8,w8 0#8,w8 0#8,w8 0#8,w8 0#8,w8 0#8,w8 0#8,w8 0#8,w8 0#8,w8 0#8,w8 0#8,w8 0#8,w8 0#8,w8 0#8,w8 0#8,w8 0#8,w8 0#8,w8 0#8,w8 0#8,w8 0#8,.nils] [(0,71,.agg (faC fa1)),(71,71,.agg (faC fa2))]=some (ca0.f.dv 71 faC):=rfl
theorem bd_c:zvnk [w8 0#8,w8 0#8,w8 0#8,w8 0#8,w8 0#8,w8 0#8,w8 0#8,w8 0#8,w8 0#8,w8 0#8,w8 0#8,w8 0#8,w8 0#8,w8 0#8,w8 0#8,w8 0#8,w8 0#8,w8 0#8,w8 0#8,w8 0#8,w8 0#8,w8 0#8,w8 0#8,w8 0#8,w8 0#8,w8 0#8,w8 0#8,w8 0#8,w8 0#8,w8 0#8,w8 0#8,w8 0#8,.int .i64 0,.nils,.nils,.nils] [(32,1,.int .i64 9),(33,1,.sl true 71 2 (faC fa1++faC fa2))]=some (.agg (caC ca0)):=rfl
theorem bd_q {a b:Int}:zvnk [.int .i64 0,.int .i64 0,.int .i64 0,.str []] [(0,1,.int .i64 a),(1,1,.int .i64 b)]=some (.agg (rqC ⟨a,b,0,[]⟩)):=rfl
theorem fd_o:dgC (dgW 1#8)++[.str [108],.str [114]]=orC o0:=rfl
noncomputable def T650:Tbl:=addT 20 (.pure cChe) (addT 18 (.pure cOgs) (addT 22 (.pure cBy) tbl0))
theorem zruy:T650 20 = .pure cChe:=by simp [T650]
theorem zvn1:T650 18 = .pure cOgs:=by simp [T650]
theorem zuld:T650 22 = .pure cBy:=by simp [T650]
theorem z4dw:T650.Sound P:=z0rp zl6h (z0rp zvwe (z0rp zg7u zr5o))
set_option maxRecDepth 20000 in
theorem zgm9:Runs T650 a14 [] (.bool true):=by
  refine ⟨?_⟩
  have k1:=z1u0 (c:=ca0) (o:=o0) (q:=⟨1,2,0,[]⟩) fun _=>zu3n z5pm (by decide) (fun _=>by simp)
  have k2:=z1u0 (c:=ca0) (o:=o0) (q:=⟨1,3,0,[]⟩) fun _=>zu3n z5pm (by decide) (fun _=>by simp)
  have k3:=zudh (c:=ca0) (by decide)
  have k4:=z33l (c:=ca0) (o:=o0) (q:=⟨7,4,0,[]⟩) (docs:=mkD 6#8) fun _=>zd9d z5pm (fun h=>by simp at h)
  rw [show (mkD 6#8).dv 32 dgC = .sl true 32 1 (dgC (dgW 6#8)) from rfl] at k4
  have r1:(zwwp ca0 o0 ⟨1,2,0,[]⟩).holds=true:=by decide +kernel
  have r2:(zwwp ca0 o0 ⟨1,2,0,[]⟩).docs.l.length=2:=by decide +kernel
  have r3:(zwwp ca0 o0 ⟨1,3,0,[]⟩).holds=false:=by decide +kernel
  have r4:(zwwp ca0 o0 ⟨1,3,0,[]⟩).missing=1:=by decide +kernel
  have r5:(zz6h ca0.f.l).l=[o0]:=by decide +kernel
  have r6:ByS ca0 o0 ⟨7,4,0,[]⟩ (mkD 6#8).l=true:=by decide +kernel
  rw [r6] at k4
  obtain ⟨A,hA⟩ : ∃ A,zwwp ca0 o0 ⟨1,2,0,[]⟩=A:=⟨_,rfl⟩
  obtain ⟨B,hB⟩ : ∃ B,zwwp ca0 o0 ⟨1,3,0,[]⟩=B:=⟨_,rfl⟩
  obtain ⟨O,hO⟩ : ∃ O,zz6h ca0.f.l=O:=⟨_,rfl⟩
  rw [hA] at k1 r1 r2
  rw [hB] at k2 r3 r4
  rw [hO] at k3 r5
  have hl : ∀ H,lenD H (O.dv 34 orC)=some (.int .i64 1):=fun H=>by rw [zupj,r5]; rfl
  have hg : ∀ H,zpsc H 34 (O.dv 34 orC) 0=some (.ref (orC o0)):=fun H=>by
    have:=zalo (h:=H) (x:=O) (i:=0) zu78 (by rw [r5]; simp)
    rw [show ((0:Nat):Int)=0 from rfl] at this
    rw [this]; simp [r5]
  have hl2 : ∀ H,lenD H (A.docs.dv 32 dgC)=some (.int .i64 2):=fun H=>by rw [zupj,r2]; rfl
  simp (disch:=first|omega|(simp<;>omega)|fail) [-map_take,-map_drop,-map_set,-map_append,-drop_one,a14,z7ni,bd_o,bs_d,zelr,zvdq,bs_f,bd_c,bd_q,fd_o,zruy,zvn1,zuld,k1,k2,k3,k4,hl,hg,hl2,r1,r3,r4]
noncomputable def cAw:List DV→Option DV
  | []=>some (.bool true)|_=>none
theorem zths:cAw []=some (.bool true):=rfl
theorem z5bk:(Con.pure cAw).Sound P 14:=by
  intro args v e
  unfold cAw at e
  split at e
  · simp at e; subst e; exact zljw mix z4dw Tryz.func14 zzfl zgm9
  · simp at e
end Go.Proofs.YtdnhbfmlklaldaaGreat
set_option linter.unusedSimpArgs false
set_option linter.unusedVariables false
namespace Go.Proofs.YtdnhbfmlklaldaaGreat
open Go Go.Am
def zr8m:ACode :=
  (.seq (.seq (.region false [⟨none,(some 19),.mov (.t 8)⟩,
    ⟨none,(some 20),.bin .gtr (.t 19) (.k (.int .i64 0))⟩])
  (.cond (.t 20) .skip
  (.exit 0)))
  (.seq (.block 1 (.region true [⟨none,(some 23),.fld 33 (.t 7)⟩,
    ⟨none,(some 24),.load 1 false (.t 23)⟩,
    ⟨none,(some 25),.mov (.t 0)⟩,
    ⟨none,(some 26),.callT (.k (.fn (.func 55) [] [])) [(.t 25)]⟩,
    ⟨none,(some 27),.bsl 71 1 [(.int .i64 0),(.str []),(w8 0#8),(w8 0#8),(w8 0#8),(w8 0#8),(w8 0#8),(w8 0#8),(w8 0#8),(w8 0#8),(w8 0#8),(w8 0#8),(w8 0#8),(w8 0#8),(w8 0#8),(w8 0#8),(w8 0#8),(w8 0#8),(w8 0#8),(w8 0#8),(w8 0#8),(w8 0#8),(w8 0#8),(w8 0#8),(w8 0#8),(w8 0#8),(w8 0#8),(w8 0#8),(w8 0#8),(w8 0#8),(w8 0#8),(w8 0#8),(w8 0#8),(w8 0#8),(.str []),(.str []),(.int .i64 0),(.bool false),(w8 0#8),(w8 0#8),(w8 0#8),(w8 0#8),(w8 0#8),(w8 0#8),(w8 0#8),(w8 0#8),(w8 0#8),(w8 0#8),(w8 0#8),(w8 0#8),(w8 0#8),(w8 0#8),(w8 0#8),(w8 0#8),(w8 0#8),(w8 0#8),(w8 0#8),(w8 0#8),(w8 0#8),(w8 0#8),(w8 0#8),(w8 0#8),(w8 0#8),(w8 0#8),(w8 0#8),(w8 0#8),(w8 0#8),(w8 0#8),(w8 0#8),(w8 0#8),.nils] [(0,71,(.t 26))]⟩,
    ⟨none,(some 28),.app 71 160 (.t 24) (.t 27)⟩,
    ⟨none,(some 29),.fld 33 (.t 7)⟩,
    ⟨none,none,.store 1 (.t 29) (.t 28)⟩,
    ⟨none,none,.apart (.t 7) (.t 25)⟩,
    ⟨none,none,.apart (.t 23) (.t 25)⟩]))
  (.region false [⟨none,(some 21),.mov (.t 8)⟩,
    ⟨none,(some 22),.bin .sub (.t 21) (.k (.int .i64 1))⟩,
    ⟨none,(some 8),.mov (.t 22)⟩])))
def z3xo (x0 x2 x6 x7 x8:DV) (h:List AObj):St:=⟨[x0,.junk,x2,.junk,.junk,.junk,x6,x7,x8]++js 45,h⟩
def zyoh:ACode :=
  (.seq (.seq (.region false [⟨none,(some 34),.mov (.t 9)⟩,
    ⟨none,(some 35),.bin .gtr (.t 34) (.k (.int .i64 0))⟩])
  (.cond (.t 35) .skip
  (.exit 2)))
  (.seq (.block 3 (.region true [⟨none,(some 38),.fld 34 (.t 7)⟩,
    ⟨none,(some 39),.load 1 false (.t 38)⟩,
    ⟨none,(some 40),.mov (.t 0)⟩,
    ⟨none,(some 41),.callT (.k (.fn (.func 56) [] [])) [(.t 40)]⟩,
    ⟨none,(some 42),.bsl 39 1 [(w8 0#8),(w8 0#8),(w8 0#8),(w8 0#8),(w8 0#8),(w8 0#8),(w8 0#8),(w8 0#8),(w8 0#8),(w8 0#8),(w8 0#8),(w8 0#8),(w8 0#8),(w8 0#8),(w8 0#8),(w8 0#8),(w8 0#8),(w8 0#8),(w8 0#8),(w8 0#8),(w8 0#8),(w8 0#8),(w8 0#8),(w8 0#8),(w8 0#8),(w8 0#8),(w8 0#8),(w8 0#8),(w8 0#8),(w8 0#8),(w8 0#8),(w8 0#8),(.int .i64 0),(.str []),(.int .i64 0),.nils,(.int .i64 0),.nils,(.bool false)] [(0,39,(.t 41))]⟩,
    ⟨none,(some 43),.app 39 128 (.t 39) (.t 42)⟩,
    ⟨none,(some 44),.fld 34 (.t 7)⟩,
    ⟨none,none,.store 1 (.t 44) (.t 43)⟩,
    ⟨none,none,.apart (.t 7) (.t 40)⟩,
    ⟨none,none,.apart (.t 38) (.t 40)⟩]))
  (.region false [⟨none,(some 36),.mov (.t 9)⟩,
    ⟨none,(some 37),.bin .sub (.t 36) (.k (.int .i64 1))⟩,
    ⟨none,(some 9),.mov (.t 37)⟩])))
def znsc (x0 x6 x7 x9:DV) (h:List AObj):St:=⟨[x0]++js 5++[x6,x7,.junk,x9]++js 44,h⟩
def a25:AFn where
  code:=(.seq (.region false [⟨none,(some 6),.alloc [(w8 0#8),(w8 0#8),(w8 0#8),(w8 0#8),(w8 0#8),(w8 0#8),(w8 0#8),(w8 0#8),(w8 0#8),(w8 0#8),(w8 0#8),(w8 0#8),(w8 0#8),(w8 0#8),(w8 0#8),(w8 0#8),(w8 0#8),(w8 0#8),(w8 0#8),(w8 0#8),(w8 0#8),(w8 0#8),(w8 0#8),(w8 0#8),(w8 0#8),(w8 0#8),(w8 0#8),(w8 0#8),(w8 0#8),(w8 0#8),(w8 0#8),(w8 0#8),(.int .i64 0),.nils,.nils,.nils]⟩])
  (.seq (.region false [⟨none,(some 10),.mov (.t 0)⟩,
    ⟨none,(some 11),.call (.k (.fn (.func 54) [] [])) [(.t 10)]⟩,
    ⟨none,(some 12),.mov (.t 0)⟩,
    ⟨none,(some 13),.call (.k (.fn (.func 29) [] [])) [(.t 12),(.k (.int .i64 40))]⟩,
    ⟨none,(some 14),.build [(w8 0#8),(w8 0#8),(w8 0#8),(w8 0#8),(w8 0#8),(w8 0#8),(w8 0#8),(w8 0#8),(w8 0#8),(w8 0#8),(w8 0#8),(w8 0#8),(w8 0#8),(w8 0#8),(w8 0#8),(w8 0#8),(w8 0#8),(w8 0#8),(w8 0#8),(w8 0#8),(w8 0#8),(w8 0#8),(w8 0#8),(w8 0#8),(w8 0#8),(w8 0#8),(w8 0#8),(w8 0#8),(w8 0#8),(w8 0#8),(w8 0#8),(w8 0#8),(.int .i64 0),.nils,.nils,.nils] [(0,32,(.t 11)),(32,1,(.t 13))]⟩,
    ⟨none,(some 7),.alloc [(w8 0#8),(w8 0#8),(w8 0#8),(w8 0#8),(w8 0#8),(w8 0#8),(w8 0#8),(w8 0#8),(w8 0#8),(w8 0#8),(w8 0#8),(w8 0#8),(w8 0#8),(w8 0#8),(w8 0#8),(w8 0#8),(w8 0#8),(w8 0#8),(w8 0#8),(w8 0#8),(w8 0#8),(w8 0#8),(w8 0#8),(w8 0#8),(w8 0#8),(w8 0#8),(w8 0#8),(w8 0#8),(w8 0#8),(w8 0#8),(w8 0#8),(w8 0#8),(.int .i64 0),.nils,.nils,.nils]⟩,
    ⟨none,none,.store 36 (.t 7) (.t 14)⟩])
  (.seq (.seq (.region false [⟨none,(some 15),.mov (.t 0)⟩,
    ⟨none,(some 16),.mov (.t 1)⟩,
    ⟨none,(some 17),.bin .add (.t 16) (.k (.int .i64 1))⟩,
    ⟨none,(some 18),.call (.k (.fn (.func 29) [] [])) [(.t 15),(.t 17)]⟩,
    ⟨none,(some 8),.mov (.t 18)⟩])
  (.block 0 (.loop zr8m)))
  (.seq (.seq (.region false [⟨none,(some 30),.mov (.t 0)⟩,
    ⟨none,(some 31),.mov (.t 2)⟩,
    ⟨none,(some 32),.bin .add (.t 31) (.k (.int .i64 1))⟩,
    ⟨none,(some 33),.call (.k (.fn (.func 29) [] [])) [(.t 30),(.t 32)]⟩,
    ⟨none,(some 9),.mov (.t 33)⟩])
  (.block 2 (.loop zyoh)))
  (.seq (.seq (.region false [⟨none,(some 45),.mov (.t 0)⟩,
    ⟨none,(some 46),.call (.k (.fn (.func 29) [] [])) [(.t 45),(.k (.int .i64 6))]⟩,
    ⟨none,(some 47),.bin .eql (.t 46) (.k (.int .i64 0))⟩])
  (.cond (.t 47) (.region false [⟨none,(some 48),.mov (.t 0)⟩,
    ⟨none,(some 49),.call (.k (.fn (.func 58) [] [])) []⟩,
    ⟨none,(some 50),.call (.k (.fn (.func 57) [] [])) [(.t 48),(.t 49)]⟩,
    ⟨none,(some 51),.bsl 1 1 [(.str [])] [(0,1,(.t 50))]⟩,
    ⟨none,(some 52),.fld 35 (.t 7)⟩,
    ⟨none,none,.store 1 (.t 52) (.t 51)⟩])
  .skip))
  (.seq (.region false [⟨none,(some 53),.load 36 true (.t 7)⟩,
    ⟨none,none,.store 36 (.t 6) (.t 53)⟩])
  .ret))))))
  ntmps:=54
  res:=[.cell 6 36 true]
theorem zgum:zsjc P Tryz.f25=some a25:=by kernel_rfl
def z44u:ACode :=
  (.seq (.seq (.region false [⟨none,(some 36),.mov (.t 4)⟩,
    ⟨none,(some 37),.bin .gtr (.t 36) (.k (.int .i64 0))⟩])
  (.cond (.t 37) .skip
  (.exit 0)))
  (.seq (.block 1 (.region true [⟨none,(some 40),.fld 70 (.t 3)⟩,
    ⟨none,(some 41),.load 1 false (.t 40)⟩,
    ⟨none,(some 42),.mov (.t 0)⟩,
    ⟨none,(some 43),.callT (.k (.fn (.func 29) [] [])) [(.t 42),(.k (.int .i64 12))]⟩,
    ⟨none,(some 44),.bin .add (.k (.int .i64 10)) (.t 43)⟩,
    ⟨none,(some 45),.conv .u8 (.t 44)⟩,
    ⟨none,(some 46),.build (rep 32 (w8 0#8)) [(0,1,(.t 45))]⟩,
    ⟨none,(some 47),.callN (.k (.fn (.func 93) [] [])) [(.t 41),(.t 46)]⟩,
    ⟨none,(some 48),.fld 70 (.t 3)⟩,
    ⟨none,none,.store 1 (.t 48) (.t 47)⟩,
    ⟨none,none,.apart (.t 3) (.t 42)⟩,
    ⟨none,none,.apart (.t 40) (.t 42)⟩]))
  (.region false [⟨none,(some 38),.mov (.t 4)⟩,
    ⟨none,(some 39),.bin .sub (.t 38) (.k (.int .i64 1))⟩,
    ⟨none,(some 4),.mov (.t 39)⟩])))
def zh8t (x0 x2 x3 x4:DV) (h:List AObj):St:=⟨[x0,.junk,x2,x3,x4]++js 45,h⟩
def a55:AFn where
  code:=(.seq (.region false [⟨none,(some 2),.alloc [(.int .i64 0),(.str []),(w8 0#8),(w8 0#8),(w8 0#8),(w8 0#8),(w8 0#8),(w8 0#8),(w8 0#8),(w8 0#8),(w8 0#8),(w8 0#8),(w8 0#8),(w8 0#8),(w8 0#8),(w8 0#8),(w8 0#8),(w8 0#8),(w8 0#8),(w8 0#8),(w8 0#8),(w8 0#8),(w8 0#8),(w8 0#8),(w8 0#8),(w8 0#8),(w8 0#8),(w8 0#8),(w8 0#8),(w8 0#8),(w8 0#8),(w8 0#8),(w8 0#8),(w8 0#8),(.str []),(.str []),(.int .i64 0),(.bool false),(w8 0#8),(w8 0#8),(w8 0#8),(w8 0#8),(w8 0#8),(w8 0#8),(w8 0#8),(w8 0#8),(w8 0#8),(w8 0#8),(w8 0#8),(w8 0#8),(w8 0#8),(w8 0#8),(w8 0#8),(w8 0#8),(w8 0#8),(w8 0#8),(w8 0#8),(w8 0#8),(w8 0#8),(w8 0#8),(w8 0#8),(w8 0#8),(w8 0#8),(w8 0#8),(w8 0#8),(w8 0#8),(w8 0#8),(w8 0#8),(w8 0#8),(w8 0#8),.nils]⟩])
  (.seq (.region false [⟨none,(some 5),.mov (.t 0)⟩,
    ⟨none,(some 6),.call (.k (.fn (.func 29) [] [])) [(.t 5),(.k (.int .i64 5))]⟩,
    ⟨none,(some 7),.bin .add (.k (.int .i64 1)) (.t 6)⟩,
    ⟨none,(some 8),.mov (.t 0)⟩,
    ⟨none,(some 9),.call (.k (.fn (.func 92) [] [])) []⟩,
    ⟨none,(some 10),.call (.k (.fn (.func 57) [] [])) [(.t 8),(.t 9)]⟩,
    ⟨none,(some 11),.mov (.t 0)⟩,
    ⟨none,(some 12),.call (.k (.fn (.func 29) [] [])) [(.t 11),(.k (.int .i64 2))]⟩,
    ⟨none,(some 13),.bin .add (.k (.int .i64 1)) (.t 12)⟩,
    ⟨none,(some 14),.conv .u8 (.t 13)⟩,
    ⟨none,(some 15),.build (rep 32 (w8 0#8)) [(0,1,(.t 14))]⟩,
    ⟨none,(some 16),.mov (.t 0)⟩,
    ⟨none,(some 17),.bsl 1 2 [(.str [])] [(0,1,(.k (.str [115,104,111,112]))),(1,1,(.k (.str [119,101,98])))]⟩,
    ⟨none,(some 18),.call (.k (.fn (.func 57) [] [])) [(.t 16),(.t 17)]⟩,
    ⟨none,(some 19),.mov (.t 0)⟩,
    ⟨none,(some 20),.bsl 1 3 [(.str [])] [(0,1,(.k (.str [114]))),(1,1,(.k (.str [114]))),(2,1,(.k (.str [115])))]⟩,
    ⟨none,(some 21),.call (.k (.fn (.func 57) [] [])) [(.t 19),(.t 20)]⟩,
    ⟨none,(some 22),.mov (.t 0)⟩,
    ⟨none,(some 23),.call (.k (.fn (.func 29) [] [])) [(.t 22),(.k (.int .i64 20))]⟩,
    ⟨none,(some 24),.mov (.t 0)⟩,
    ⟨none,(some 25),.call (.k (.fn (.func 29) [] [])) [(.t 24),(.k (.int .i64 4))]⟩,
    ⟨none,(some 26),.bin .gtr (.t 25) (.k (.int .i64 0))⟩,
    ⟨none,(some 27),.mov (.t 0)⟩,
    ⟨none,(some 28),.call (.k (.fn (.func 29) [] [])) [(.t 27),(.k (.int .i64 2))]⟩,
    ⟨none,(some 29),.bin .add (.k (.int .i64 1)) (.t 28)⟩,
    ⟨none,(some 30),.conv .u8 (.t 29)⟩,
    ⟨none,(some 31),.build (rep 32 (w8 0#8)) [(0,1,(.t 30))]⟩,
    ⟨none,(some 32),.build [(.int .i64 0),(.str []),(w8 0#8),(w8 0#8),(w8 0#8),(w8 0#8),(w8 0#8),(w8 0#8),(w8 0#8),(w8 0#8),(w8 0#8),(w8 0#8),(w8 0#8),(w8 0#8),(w8 0#8),(w8 0#8),(w8 0#8),(w8 0#8),(w8 0#8),(w8 0#8),(w8 0#8),(w8 0#8),(w8 0#8),(w8 0#8),(w8 0#8),(w8 0#8),(w8 0#8),(w8 0#8),(w8 0#8),(w8 0#8),(w8 0#8),(w8 0#8),(w8 0#8),(w8 0#8),(.str []),(.str []),(.int .i64 0),(.bool false),(w8 0#8),(w8 0#8),(w8 0#8),(w8 0#8),(w8 0#8),(w8 0#8),(w8 0#8),(w8 0#8),(w8 0#8),(w8 0#8),(w8 0#8),(w8 0#8),(w8 0#8),(w8 0#8),(w8 0#8),(w8 0#8),(w8 0#8),(w8 0#8),(w8 0#8),(w8 0#8),(w8 0#8),(w8 0#8),(w8 0#8),(w8 0#8),(w8 0#8),(w8 0#8),(w8 0#8),(w8 0#8),(w8 0#8),(w8 0#8),(w8 0#8),(w8 0#8),.nils] [(0,1,(.t 7)),(1,1,(.t 10)),(2,32,(.t 15)),(34,1,(.t 18)),(35,1,(.t 21)),(36,1,(.t 23)),(37,1,(.t 26)),(38,32,(.t 31))]⟩,
    ⟨none,(some 3),.alloc [(.int .i64 0),(.str []),(w8 0#8),(w8 0#8),(w8 0#8),(w8 0#8),(w8 0#8),(w8 0#8),(w8 0#8),(w8 0#8),(w8 0#8),(w8 0#8),(w8 0#8),(w8 0#8),(w8 0#8),(w8 0#8),(w8 0#8),(w8 0#8),(w8 0#8),(w8 0#8),(w8 0#8),(w8 0#8),(w8 0#8),(w8 0#8),(w8 0#8),(w8 0#8),(w8 0#8),(w8 0#8),(w8 0#8),(w8 0#8),(w8 0#8),(w8 0#8),(w8 0#8),(w8 0#8),(.str []),(.str []),(.int .i64 0),(.bool false),(w8 0#8),(w8 0#8),(w8 0#8),(w8 0#8),(w8 0#8),(w8 0#8),(w8 0#8),(w8 0#8),(w8 0#8),(w8 0#8),(w8 0#8),(w8 0#8),(w8 0#8),(w8 0#8),(w8 0#8),(w8 0#8),(w8 0#8),(w8 0#8),(w8 0#8),(w8 0#8),(w8 0#8),(w8 0#8),(w8 0#8),(w8 0#8),(w8 0#8),(w8 0#8),(w8 0#8),(w8 0#8),(w8 0#8),(w8 0#8),(w8 0#8),(w8 0#8),.nils]⟩,
    ⟨none,none,.store 71 (.t 3) (.t 32)⟩])
  (.seq (.seq (.region false [⟨none,(some 33),.mov (.t 0)⟩,
    ⟨none,(some 34),.call (.k (.fn (.func 29) [] [])) [(.t 33),(.k (.int .i64 2))]⟩,
    ⟨none,(some 35),.bin .add (.k (.int .i64 1)) (.t 34)⟩,
    ⟨none,(some 4),.mov (.t 35)⟩])
  (.block 0 (.loop z44u)))
  (.seq (.region false [⟨none,(some 49),.load 71 true (.t 3)⟩,
    ⟨none,none,.store 71 (.t 2) (.t 49)⟩])
  .ret))))
  ntmps:=50
  res:=[.cell 2 71 true]
theorem ze8s:zsjc P Tryz.f55=some a55:=by kernel_rfl
def a56:AFn where
  code:=(.seq (.region false [⟨none,(some 2),.alloc [(w8 0#8),(w8 0#8),(w8 0#8),(w8 0#8),(w8 0#8),(w8 0#8),(w8 0#8),(w8 0#8),(w8 0#8),(w8 0#8),(w8 0#8),(w8 0#8),(w8 0#8),(w8 0#8),(w8 0#8),(w8 0#8),(w8 0#8),(w8 0#8),(w8 0#8),(w8 0#8),(w8 0#8),(w8 0#8),(w8 0#8),(w8 0#8),(w8 0#8),(w8 0#8),(w8 0#8),(w8 0#8),(w8 0#8),(w8 0#8),(w8 0#8),(w8 0#8),(.int .i64 0),(.str []),(.int .i64 0),.nils,(.int .i64 0),.nils,(.bool false)]⟩])
  (.seq (.region false [⟨none,(some 4),.mov (.t 0)⟩,
    ⟨none,(some 5),.call (.k (.fn (.func 29) [] [])) [(.t 4),(.k (.int .i64 2))]⟩,
    ⟨none,(some 6),.bin .add (.k (.int .i64 1)) (.t 5)⟩,
    ⟨none,(some 7),.conv .u8 (.t 6)⟩,
    ⟨none,(some 8),.build (rep 32 (w8 0#8)) [(0,1,(.t 7))]⟩,
    ⟨none,(some 9),.mov (.t 0)⟩,
    ⟨none,(some 10),.call (.k (.fn (.func 29) [] [])) [(.t 9),(.k (.int .i64 4))]⟩,
    ⟨none,(some 11),.mov (.t 0)⟩,
    ⟨none,(some 12),.call (.k (.fn (.func 58) [] [])) []⟩,
    ⟨none,(some 13),.call (.k (.fn (.func 57) [] [])) [(.t 11),(.t 12)]⟩,
    ⟨none,(some 14),.mov (.t 0)⟩,
    ⟨none,(some 15),.call (.k (.fn (.func 29) [] [])) [(.t 14),(.k (.int .i64 10))]⟩,
    ⟨none,(some 16),.bin .add (.k (.int .i64 1)) (.t 15)⟩,
    ⟨none,(some 17),.mov (.t 0)⟩,
    ⟨none,(some 18),.call (.k (.fn (.func 29) [] [])) [(.t 17),(.k (.int .i64 3))]⟩,
    ⟨none,(some 19),.bin .add (.k (.int .i64 30)) (.t 18)⟩,
    ⟨none,(some 20),.conv .u8 (.t 19)⟩,
    ⟨none,(some 21),.build (rep 32 (w8 0#8)) [(0,1,(.t 20))]⟩,
    ⟨none,(some 22),.bsl 32 1 (rep 32 (w8 0#8)) [(0,32,(.t 21))]⟩,
    ⟨none,(some 23),.build [(.int .i64 0),(.str []),(.int .i64 0),.nils] [(0,1,(.t 10)),(1,1,(.t 13)),(2,1,(.t 16)),(3,1,(.t 22))]⟩,
    ⟨none,(some 24),.build [(w8 0#8),(w8 0#8),(w8 0#8),(w8 0#8),(w8 0#8),(w8 0#8),(w8 0#8),(w8 0#8),(w8 0#8),(w8 0#8),(w8 0#8),(w8 0#8),(w8 0#8),(w8 0#8),(w8 0#8),(w8 0#8),(w8 0#8),(w8 0#8),(w8 0#8),(w8 0#8),(w8 0#8),(w8 0#8),(w8 0#8),(w8 0#8),(w8 0#8),(w8 0#8),(w8 0#8),(w8 0#8),(w8 0#8),(w8 0#8),(w8 0#8),(w8 0#8),(.int .i64 0),(.str []),(.int .i64 0),.nils,(.int .i64 0),.nils,(.bool false)] [(0,32,(.t 8)),(32,4,(.t 23))]⟩,
    ⟨none,(some 3),.alloc [(w8 0#8),(w8 0#8),(w8 0#8),(w8 0#8),(w8 0#8),(w8 0#8),(w8 0#8),(w8 0#8),(w8 0#8),(w8 0#8),(w8 0#8),(w8 0#8),(w8 0#8),(w8 0#8),(w8 0#8),(w8 0#8),(w8 0#8),(w8 0#8),(w8 0#8),(w8 0#8),(w8 0#8),(w8 0#8),(w8 0#8),(w8 0#8),(w8 0#8),(w8 0#8),(w8 0#8),(w8 0#8),(w8 0#8),(w8 0#8),(w8 0#8),(w8 0#8),(.int .i64 0),(.str []),(.int .i64 0),.nils,(.int .i64 0),.nils,(.bool false)]⟩,
    ⟨none,none,.store 39 (.t 3) (.t 24)⟩])
  (.seq (.region false [⟨none,(some 25),.mov (.t 0)⟩,
    ⟨none,(some 26),.call (.k (.fn (.func 29) [] [])) [(.t 25),(.k (.int .i64 4))]⟩,
    ⟨none,(some 27),.bin .add (.k (.int .i64 1)) (.t 26)⟩,
    ⟨none,(some 28),.mov (.t 0)⟩,
    ⟨none,(some 29),.call (.k (.fn (.func 29) [] [])) [(.t 28),(.k (.int .i64 6))]⟩,
    ⟨none,(some 30),.bin .eql (.t 29) (.k (.int .i64 0))⟩,
    ⟨none,(some 31),.build [(.int .i64 0),.nils,(.bool false)] [(0,1,(.t 27)),(2,1,(.t 30))]⟩,
    ⟨none,(some 32),.fld 36 (.t 3)⟩,
    ⟨none,none,.store 3 (.t 32) (.t 31)⟩])
  (.seq (.seq (.region false [⟨none,(some 33),.mov (.t 0)⟩,
    ⟨none,(some 34),.call (.k (.fn (.func 29) [] [])) [(.t 33),(.k (.int .i64 3))]⟩,
    ⟨none,(some 35),.bin .gtr (.t 34) (.k (.int .i64 0))⟩])
  (.cond (.t 35) (.region false [⟨none,(some 36),.mov (.t 0)⟩,
    ⟨none,(some 37),.call (.k (.fn (.func 29) [] [])) [(.t 36),(.k (.int .i64 12))]⟩,
    ⟨none,(some 38),.bin .add (.k (.int .i64 10)) (.t 37)⟩,
    ⟨none,(some 39),.conv .u8 (.t 38)⟩,
    ⟨none,(some 40),.build (rep 32 (w8 0#8)) [(0,1,(.t 39))]⟩,
    ⟨none,(some 41),.bsl 32 1 (rep 32 (w8 0#8)) [(0,32,(.t 40))]⟩,
    ⟨none,(some 42),.fld 36 (.t 3)⟩,
    ⟨none,(some 43),.fld 1 (.t 42)⟩,
    ⟨none,none,.store 1 (.t 43) (.t 41)⟩])
  .skip))
  (.seq (.region false [⟨none,(some 44),.load 39 true (.t 3)⟩,
    ⟨none,none,.store 39 (.t 2) (.t 44)⟩])
  .ret)))))
  ntmps:=45
  res:=[.cell 2 39 true]
theorem zcwb:zsjc P Tryz.f56=some a56:=by kernel_rfl
def a26:AFn where
  code:=(.seq (.region false [⟨none,(some 2),.alloc [(w8 0#8),(w8 0#8),(w8 0#8),(w8 0#8),(w8 0#8),(w8 0#8),(w8 0#8),(w8 0#8),(w8 0#8),(w8 0#8),(w8 0#8),(w8 0#8),(w8 0#8),(w8 0#8),(w8 0#8),(w8 0#8),(w8 0#8),(w8 0#8),(w8 0#8),(w8 0#8),(w8 0#8),(w8 0#8),(w8 0#8),(w8 0#8),(w8 0#8),(w8 0#8),(w8 0#8),(w8 0#8),(w8 0#8),(w8 0#8),(w8 0#8),(w8 0#8),(.str []),(.str [])]⟩])
  (.seq (.region false [⟨none,(some 3),.mov (.t 0)⟩,
    ⟨none,(some 4),.call (.k (.fn (.func 29) [] [])) [(.t 3),(.k (.int .i64 2))]⟩,
    ⟨none,(some 5),.bin .add (.k (.int .i64 1)) (.t 4)⟩,
    ⟨none,(some 6),.conv .u8 (.t 5)⟩,
    ⟨none,(some 7),.build (rep 32 (w8 0#8)) [(0,1,(.t 6))]⟩,
    ⟨none,(some 8),.mov (.t 0)⟩,
    ⟨none,(some 9),.bsl 1 2 [(.str [])] [(0,1,(.k (.str [115,104,111,112]))),(1,1,(.k (.str [119,101,98])))]⟩,
    ⟨none,(some 10),.call (.k (.fn (.func 57) [] [])) [(.t 8),(.t 9)]⟩,
    ⟨none,(some 11),.mov (.t 0)⟩,
    ⟨none,(some 12),.bsl 1 2 [(.str [])] [(0,1,(.k (.str [114]))),(1,1,(.k (.str [115])))]⟩,
    ⟨none,(some 13),.call (.k (.fn (.func 57) [] [])) [(.t 11),(.t 12)]⟩,
    ⟨none,(some 14),.build [(w8 0#8),(w8 0#8),(w8 0#8),(w8 0#8),(w8 0#8),(w8 0#8),(w8 0#8),(w8 0#8),(w8 0#8),(w8 0#8),(w8 0#8),(w8 0#8),(w8 0#8),(w8 0#8),(w8 0#8),(w8 0#8),(w8 0#8),(w8 0#8),(w8 0#8),(w8 0#8),(w8 0#8),(w8 0#8),(w8 0#8),(w8 0#8),(w8 0#8),(w8 0#8),(w8 0#8),(w8 0#8),(w8 0#8),(w8 0#8),(w8 0#8),(w8 0#8),(.str []),(.str [])] [(0,32,(.t 7)),(32,1,(.t 10)),(33,1,(.t 13))]⟩,
    ⟨none,none,.store 34 (.t 2) (.t 14)⟩])
  .ret))
  ntmps:=15
  res:=[.cell 2 34 true]
theorem z9gs:zsjc P Tryz.f26=some a26:=by kernel_rfl
def a27:AFn where
  code:=(.seq (.region false [⟨none,(some 2),.alloc [(.int .i64 0),(.int .i64 0),(.int .i64 0),(.str [])]⟩])
  (.seq (.region false [⟨none,(some 4),.mov (.t 0)⟩,
    ⟨none,(some 5),.call (.k (.fn (.func 29) [] [])) [(.t 4),(.k (.int .i64 8))]⟩,
    ⟨none,(some 6),.bin .add (.k (.int .i64 1)) (.t 5)⟩,
    ⟨none,(some 7),.build [(.int .i64 0),(.int .i64 0),(.int .i64 0),(.str [])] [(0,1,(.t 6))]⟩,
    ⟨none,(some 3),.alloc [(.int .i64 0),(.int .i64 0),(.int .i64 0),(.str [])]⟩,
    ⟨none,none,.store 4 (.t 3) (.t 7)⟩])
  (.seq (.seq (.region false [⟨none,(some 8),.fld 0 (.t 3)⟩,
    ⟨none,(some 9),.load 1 false (.t 8)⟩])
  (.block 0 (.seq (.seq (.region false [⟨none,(some 11),.bin .eql (.t 9) (.k (.int .i64 1))⟩,
    ⟨none,(some 10),.mov (.t 11)⟩])
  (.cond (.t 10) .skip
  (.seq (.region false [⟨none,(some 12),.bin .eql (.t 9) (.k (.int .i64 3))⟩,
    ⟨none,(some 10),.mov (.t 12)⟩])
  (.cond (.t 10) .skip
  (.region false [⟨none,(some 13),.bin .eql (.t 9) (.k (.int .i64 5))⟩,
    ⟨none,(some 10),.mov (.t 13)⟩])))))
  (.cond (.t 10) (.region false [⟨none,(some 14),.mov (.t 0)⟩,
    ⟨none,(some 15),.call (.k (.fn (.func 29) [] [])) [(.t 14),(.k (.int .i64 3))]⟩,
    ⟨none,(some 16),.bin .add (.k (.int .i64 1)) (.t 15)⟩,
    ⟨none,(some 17),.fld 1 (.t 3)⟩,
    ⟨none,none,.store 1 (.t 17) (.t 16)⟩])
  (.seq (.region false [⟨none,(some 19),.bin .eql (.t 9) (.k (.int .i64 4))⟩,
    ⟨none,(some 18),.mov (.t 19)⟩])
  (.cond (.t 18) (.region false [⟨none,(some 20),.mov (.t 0)⟩,
    ⟨none,(some 21),.call (.k (.fn (.func 29) [] [])) [(.t 20),(.k (.int .i64 2))]⟩,
    ⟨none,(some 22),.bin .add (.k (.int .i64 1)) (.t 21)⟩,
    ⟨none,(some 23),.mov (.t 0)⟩,
    ⟨none,(some 24),.call (.k (.fn (.func 29) [] [])) [(.t 23),(.k (.int .i64 2))]⟩,
    ⟨none,(some 25),.fld 1 (.t 3)⟩,
    ⟨none,none,.store 1 (.t 25) (.t 22)⟩,
    ⟨none,(some 26),.fld 2 (.t 3)⟩,
    ⟨none,none,.store 1 (.t 26) (.t 24)⟩])
  (.seq (.region false [⟨none,(some 28),.bin .eql (.t 9) (.k (.int .i64 2))⟩,
    ⟨none,(some 27),.mov (.t 28)⟩])
  (.cond (.t 27) (.region false [⟨none,(some 29),.mov (.t 0)⟩,
    ⟨none,(some 30),.bsl 1 2 [(.str [])] [(0,1,(.k (.str [115,104,111,112]))),(1,1,(.k (.str [119,101,98])))]⟩,
    ⟨none,(some 31),.call (.k (.fn (.func 57) [] [])) [(.t 29),(.t 30)]⟩,
    ⟨none,(some 32),.fld 3 (.t 3)⟩,
    ⟨none,none,.store 1 (.t 32) (.t 31)⟩])
  (.seq (.region false [⟨none,(some 34),.bin .eql (.t 9) (.k (.int .i64 6))⟩,
    ⟨none,(some 33),.mov (.t 34)⟩])
  (.cond (.t 33) (.region false [⟨none,(some 35),.mov (.t 0)⟩,
    ⟨none,(some 36),.call (.k (.fn (.func 29) [] [])) [(.t 35),(.k (.int .i64 10))]⟩,
    ⟨none,(some 37),.bin .add (.k (.int .i64 1)) (.t 36)⟩,
    ⟨none,(some 38),.fld 1 (.t 3)⟩,
    ⟨none,none,.store 1 (.t 38) (.t 37)⟩])
  (.seq (.region false [⟨none,(some 40),.bin .eql (.t 9) (.k (.int .i64 7))⟩,
    ⟨none,(some 39),.mov (.t 40)⟩])
  (.cond (.t 39) (.region false [⟨none,(some 41),.mov (.t 0)⟩,
    ⟨none,(some 42),.call (.k (.fn (.func 29) [] [])) [(.t 41),(.k (.int .i64 30))]⟩,
    ⟨none,(some 43),.fld 1 (.t 3)⟩,
    ⟨none,none,.store 1 (.t 43) (.t 42)⟩])
  .skip))))))))))))
  (.seq (.region false [⟨none,(some 44),.load 4 true (.t 3)⟩,
    ⟨none,none,.store 4 (.t 2) (.t 44)⟩])
  .ret))))
  ntmps:=45
  res:=[.cell 2 4 true]
theorem z3hx:zsjc P Tryz.f27=some a27:=by kernel_rfl
def a58:AFn where
  code:=(.seq (.region false [⟨none,(some 0),.mov (.k .nils)⟩])
  (.seq (.region false [⟨none,(some 1),.bsl 1 3 [(.str [])] [(0,1,(.k (.str [119,45,49]))),(1,1,(.k (.str [119,45,50]))),(2,1,(.k (.str [119,45,51])))]⟩,
    ⟨none,(some 0),.mov (.t 1)⟩])
  .ret))
  ntmps:=2
  res:=[.tmp 0]
theorem zt5h:zsjc P Tryz.f58=some a58:=by kernel_rfl
def a92:AFn where
  code:=(.seq (.region false [⟨none,(some 0),.mov (.k .nils)⟩])
  (.seq (.region false [⟨none,(some 1),.bsl 1 4 [(.str [])] [(0,1,(.k (.str [97,110,110]))),(1,1,(.k (.str [98,111,98]))),(2,1,(.k (.str [99,97,116]))),(3,1,(.k (.str [100,97,110])))]⟩,
    ⟨none,(some 0),.mov (.t 1)⟩])
  .ret))
  ntmps:=2
  res:=[.tmp 0]
theorem zypd:zsjc P Tryz.f92=some a92:=by kernel_rfl
def zk9n:ACode :=
  (.seq (.seq (.region false [⟨none,(some 6),.mov (.t 5)⟩,
    ⟨none,(some 7),.mov (.t 0)⟩,
    ⟨none,(some 8),.len (.t 7)⟩,
    ⟨none,(some 9),.bin .lss (.t 6) (.t 8)⟩])
  (.cond (.t 9) .skip
  (.exit 0)))
  (.seq (.block 1 (.seq (.region true [⟨none,(some 12),.mov (.t 0)⟩,
    ⟨none,(some 13),.mov (.t 5)⟩,
    ⟨none,(some 14),.idxS 32 (.t 12) (.t 13)⟩,
    ⟨none,(some 15),.load 32 true (.t 14)⟩,
    ⟨none,(some 16),.load 32 true (.t 3)⟩,
    ⟨none,(some 17),.eqa false [(32,0)] (.t 15) (.t 16)⟩])
  (.cond (.t 17) (.seq (.region false [⟨none,(some 4),.mov (.k (.bool true))⟩])
  .ret)
  .skip)))
  (.region false [⟨none,(some 10),.mov (.t 5)⟩,
    ⟨none,(some 11),.bin .add (.t 10) (.k (.int .i64 1))⟩,
    ⟨none,(some 5),.mov (.t 11)⟩])))
def zd5d (x0 x3 x5:DV) (h:List AObj):St:=⟨[x0,.junk,.junk,x3,.junk,x5]++js 12,h⟩
def a30:AFn where
  code:=(.seq (.region false [⟨none,(some 3),.box (.t 1)⟩,
    ⟨none,(some 4),.mov (.k (.bool false))⟩])
  (.seq (.seq (.region false [⟨none,(some 5),.mov (.k (.int .i64 0))⟩])
  (.block 0 (.loop zk9n)))
  (.seq (.region false [⟨none,(some 4),.mov (.k (.bool false))⟩])
  .ret)))
  ntmps:=18
  res:=[.tmp 4]
theorem z3f8:zsjc P Tryz.f30=some a30:=by kernel_rfl
def zor5:ACode :=
  (.seq (.seq (.region false [⟨none,(some 6),.mov (.t 5)⟩,
    ⟨none,(some 7),.bin .lss (.t 6) (.k (.int .i64 32))⟩])
  (.cond (.t 7) .skip
  (.exit 0)))
  (.seq (.block 1 (.seq (.region true [⟨none,(some 10),.mov (.t 5)⟩,
    ⟨none,(some 11),.idxA 32 1 (.t 2) (.t 10)⟩,
    ⟨none,(some 12),.load 1 false (.t 11)⟩,
    ⟨none,(some 13),.mov (.t 5)⟩,
    ⟨none,(some 14),.idxA 32 1 (.t 3) (.t 13)⟩,
    ⟨none,(some 15),.load 1 false (.t 14)⟩,
    ⟨none,(some 16),.bin .neq (.t 12) (.t 15)⟩])
  (.cond (.t 16) (.seq (.region true [⟨none,(some 17),.mov (.t 5)⟩,
    ⟨none,(some 18),.idxA 32 1 (.t 2) (.t 17)⟩,
    ⟨none,(some 19),.load 1 false (.t 18)⟩,
    ⟨none,(some 20),.mov (.t 5)⟩,
    ⟨none,(some 21),.idxA 32 1 (.t 3) (.t 20)⟩,
    ⟨none,(some 22),.load 1 false (.t 21)⟩,
    ⟨none,(some 23),.bin .lss (.t 19) (.t 22)⟩,
    ⟨none,(some 4),.mov (.t 23)⟩])
  .ret)
  .skip)))
  (.region false [⟨none,(some 8),.mov (.t 5)⟩,
    ⟨none,(some 9),.bin .add (.t 8) (.k (.int .i64 1))⟩,
    ⟨none,(some 5),.mov (.t 9)⟩])))
def zrp1 (x2 x3 x5:DV) (h:List AObj):St:=⟨[.junk,.junk,x2,x3,.junk,x5]++js 18,h⟩
def a59:AFn where
  code:=(.seq (.region false [⟨none,(some 2),.box (.t 0)⟩,
    ⟨none,(some 3),.box (.t 1)⟩,
    ⟨none,(some 4),.mov (.k (.bool false))⟩])
  (.seq (.seq (.region false [⟨none,(some 5),.mov (.k (.int .i64 0))⟩])
  (.block 0 (.loop zor5)))
  (.seq (.region false [⟨none,(some 4),.mov (.k (.bool false))⟩])
  .ret)))
  ntmps:=24
  res:=[.tmp 4]
theorem zwsz:zsjc P Tryz.f59=some a59:=by kernel_rfl
def zzcy:ACode :=
  (.seq (.seq (.region true [⟨none,(some 11),.mov (.t 6)⟩,
    ⟨none,(some 12),.mov (.t 0)⟩,
    ⟨none,(some 13),.len (.t 12)⟩,
    ⟨none,(some 14),.bin .lss (.t 11) (.t 13)⟩,
    ⟨none,(some 15),.mov (.t 14)⟩,
    ⟨(some (15,true)),(some 16),.mov (.t 0)⟩,
    ⟨(some (15,true)),(some 17),.mov (.t 6)⟩,
    ⟨(some (15,true)),(some 18),.idxS 32 (.t 16) (.t 17)⟩,
    ⟨(some (15,true)),(some 19),.load 32 true (.t 18)⟩,
    ⟨(some (15,true)),(some 20),.load 32 true (.t 3)⟩,
    ⟨(some (15,true)),(some 21),.callN (.k (.fn (.func 59) [] [])) [(.t 19),(.t 20)]⟩,
    ⟨none,(some 22),.pick (.t 15) (.t 21) (.k (.bool false))⟩])
  (.cond (.t 22) .skip
  (.exit 0)))
  (.block 1 (.seq (.region false [⟨none,(some 23),.mov (.t 5)⟩,
    ⟨none,(some 24),.mov (.t 0)⟩,
    ⟨none,(some 25),.mov (.t 6)⟩,
    ⟨none,(some 26),.idxS 32 (.t 24) (.t 25)⟩,
    ⟨none,(some 27),.load 32 true (.t 26)⟩,
    ⟨none,(some 28),.bsl 32 1 (rep 32 (w8 0#8)) [(0,32,(.t 27))]⟩,
    ⟨none,(some 29),.app 32 32 (.t 23) (.t 28)⟩,
    ⟨none,(some 5),.mov (.t 29)⟩])
  (.region false [⟨none,(some 30),.mov (.t 6)⟩,
    ⟨none,(some 31),.bin .add (.t 30) (.k (.int .i64 1))⟩,
    ⟨none,(some 6),.mov (.t 31)⟩]))))
def z1yv (x0 x3 x5 x6:DV) (h:List AObj):St:=⟨[x0,.junk,.junk,x3,.junk,x5,x6]++js 33,h⟩
def a93:AFn where
  code:=(.seq (.region false [⟨none,(some 3),.box (.t 1)⟩,
    ⟨none,(some 4),.mov (.k .nils)⟩])
  (.seq (.seq (.region false [⟨none,(some 7),.mov (.t 0)⟩,
    ⟨none,(some 8),.load 32 true (.t 3)⟩,
    ⟨none,(some 9),.call (.k (.fn (.func 30) [] [])) [(.t 7),(.t 8)]⟩])
  (.cond (.t 9) (.seq (.region false [⟨none,(some 10),.mov (.t 0)⟩,
    ⟨none,(some 4),.mov (.t 10)⟩])
  .ret)
  .skip))
  (.seq (.region false [⟨none,(some 5),.mov (.k .nils)⟩])
  (.seq (.region false [⟨none,(some 6),.mov (.k (.int .i64 0))⟩])
  (.seq (.block 0 (.loop zzcy))
  (.seq (.region true [⟨none,(some 32),.mov (.t 5)⟩,
    ⟨none,(some 33),.load 32 true (.t 3)⟩,
    ⟨none,(some 34),.bsl 32 1 (rep 32 (w8 0#8)) [(0,32,(.t 33))]⟩,
    ⟨none,(some 35),.app 32 32 (.t 32) (.t 34)⟩,
    ⟨none,(some 36),.mov (.t 0)⟩,
    ⟨none,(some 37),.mov (.t 6)⟩,
    ⟨none,(some 38),.slcS 32 (.t 36) (some (.t 37)) none none⟩,
    ⟨none,(some 39),.app 32 32 (.t 35) (.t 38)⟩,
    ⟨none,(some 4),.mov (.t 39)⟩,
    ⟨none,none,.apart (.t 36) (.t 35)⟩])
  .ret))))))
  ntmps:=40
  res:=[.tmp 4]
theorem zv7d:zsjc P Tryz.f93=some a93:=by kernel_rfl
def zkwz:ACode :=
  (.seq (.seq (.region false [⟨none,(some 6),.mov (.t 4)⟩,
    ⟨none,(some 7),.fld 33 (.t 1)⟩,
    ⟨none,(some 8),.load 1 false (.t 7)⟩,
    ⟨none,(some 9),.len (.t 8)⟩,
    ⟨none,(some 10),.bin .lss (.t 6) (.t 9)⟩])
  (.cond (.t 10) .skip
  (.exit 0)))
  (.seq (.block 1 (.region false [⟨none,(some 13),.mov (.t 3)⟩,
    ⟨none,(some 14),.fld 33 (.t 1)⟩,
    ⟨none,(some 15),.load 1 false (.t 14)⟩,
    ⟨none,(some 16),.mov (.t 4)⟩,
    ⟨none,(some 17),.idxS 71 (.t 15) (.t 16)⟩,
    ⟨none,(some 18),.fld 70 (.t 17)⟩,
    ⟨none,(some 19),.load 1 false (.t 18)⟩,
    ⟨none,(some 20),.app 32 32 (.t 13) (.t 19)⟩,
    ⟨none,(some 3),.mov (.t 20)⟩]))
  (.region false [⟨none,(some 11),.mov (.t 4)⟩,
    ⟨none,(some 12),.bin .add (.t 11) (.k (.int .i64 1))⟩,
    ⟨none,(some 4),.mov (.t 12)⟩])))
def zuuu (x1 x3 x4:DV) (h:List AObj):St:=⟨[.junk,x1,.junk,x3,x4]++js 33,h⟩
def z5ho:ACode :=
  (.seq (.seq (.region false [⟨none,(some 21),.mov (.t 5)⟩,
    ⟨none,(some 22),.fld 34 (.t 1)⟩,
    ⟨none,(some 23),.load 1 false (.t 22)⟩,
    ⟨none,(some 24),.len (.t 23)⟩,
    ⟨none,(some 25),.bin .lss (.t 21) (.t 24)⟩])
  (.cond (.t 25) .skip
  (.exit 2)))
  (.seq (.block 3 (.region false [⟨none,(some 28),.mov (.t 3)⟩,
    ⟨none,(some 29),.fld 34 (.t 1)⟩,
    ⟨none,(some 30),.load 1 false (.t 29)⟩,
    ⟨none,(some 31),.mov (.t 5)⟩,
    ⟨none,(some 32),.idxS 39 (.t 30) (.t 31)⟩,
    ⟨none,(some 33),.fld 36 (.t 32)⟩,
    ⟨none,(some 34),.fld 1 (.t 33)⟩,
    ⟨none,(some 35),.load 1 false (.t 34)⟩,
    ⟨none,(some 36),.app 32 32 (.t 28) (.t 35)⟩,
    ⟨none,(some 3),.mov (.t 36)⟩]))
  (.region false [⟨none,(some 26),.mov (.t 5)⟩,
    ⟨none,(some 27),.bin .add (.t 26) (.k (.int .i64 1))⟩,
    ⟨none,(some 5),.mov (.t 27)⟩])))
def ze0j (x1 x3 x5:DV) (h:List AObj):St:=⟨[.junk,x1,.junk,x3,.junk,x5]++js 32,h⟩
def a28:AFn where
  code:=(.seq (.region false [⟨none,(some 1),.box (.t 0)⟩,
    ⟨none,(some 2),.mov (.k .nils)⟩])
  (.seq (.region false [⟨none,(some 3),.mov (.k .nils)⟩])
  (.seq (.seq (.region false [⟨none,(some 4),.mov (.k (.int .i64 0))⟩])
  (.block 0 (.loop zkwz)))
  (.seq (.seq (.region false [⟨none,(some 5),.mov (.k (.int .i64 0))⟩])
  (.block 2 (.loop z5ho)))
  (.seq (.region false [⟨none,(some 37),.mov (.t 3)⟩,
    ⟨none,(some 2),.mov (.t 37)⟩])
  .ret)))))
  ntmps:=38
  res:=[.tmp 2]
theorem z43f:zsjc P Tryz.f28=some a28:=by kernel_rfl
end Go.Proofs.YtdnhbfmlklaldaaGreat
set_option linter.unusedSimpArgs false
set_option linter.unusedVariables false
namespace Go.Proofs.YtdnhbfmlklaldaaGreat
open Go Go.Am
def S660 (x:Sl Dg) (d:Dg) (i:Nat):St:=zd5d (x.dv 32 dgC) (.mp 0 32 0) (.int .i64 i) [.cells (dgC d)]
theorem zdpu (x:Sl Dg) (d:Dg):Runs tbl0 a30 [x.dv 32 dgC,.agg (dgC d)] (.bool (decide (d ∈ x.l))):=by
  refine ⟨?_⟩
  have hb:=x.b
  simp (disch:=first|omega|(simp<;>omega)|fail) [-map_take,-map_drop,-map_set,-map_append,-drop_one,a30]
  refine zlm5 (S660 x d) (fun i=>x.l.length-i) (fun i=>i≤x.l.length ∧ ∀ j (hj:j<x.l.length),j<i→¬ x.l[j]=d) 0 (z515 (by simp (disch:=first|omega|(simp<;>omega)|fail) [-map_take,-map_drop,-map_set,-map_append,-drop_one,S660,zd5d]) (by simp (disch:=first|omega|(simp<;>omega)|fail) [-map_take,-map_drop,-map_set,-map_append,-drop_one,S660,zd5d])) ⟨by omega,fun j _ hj=>by omega⟩ (fun i hi => ?_)
  obtain ⟨h1,h2⟩:=hi
  simp (disch:=first|omega|(simp<;>omega)|fail) [-map_take,-map_drop,-map_set,-map_append,-drop_one,zk9n,zd5d,S660]
  by_cases h:i<x.l.length
  · have h':(i:Int)<x.l.length:=by omega
    have hg : ∀ H,zpsc H 32 (x.dv 32 dgC) i=some (.ref (dgC x.l[i])):=fun H=>zalo z1t1 h
    by_cases e:x.l[i]=d
    · have hm:d ∈ x.l:=e▸List.getElem_mem h
      simp (disch:=first|omega|(simp<;>omega)|fail) [-map_take,-map_drop,-map_set,-map_append,-drop_one,h',h,hg,e,hm]
    · simp (disch:=first|omega|(simp<;>omega)|fail) [-map_take,-map_drop,-map_set,-map_append,-drop_one,h',h,hg,e]
      refine ⟨i+1,z515 (by simp (disch:=first|omega|(simp<;>omega)|fail) [-map_take,-map_drop,-map_set,-map_append,-drop_one,S660,zd5d]) (by simp (disch:=first|omega|(simp<;>omega)|fail) [-map_take,-map_drop,-map_set,-map_append,-drop_one,S660,zd5d]),by omega,by omega,fun j hj hji => ?_⟩
      by_cases ej:j=i
      · subst ej; exact e
      · exact h2 j hj (by omega)
  · have h':¬ (i:Int)<x.l.length:=by omega
    have hm:¬ d ∈ x.l:=fun hm=>by
      obtain ⟨j,hj,e⟩:=List.getElem_of_mem hm
      exact h2 j hj (by omega) e
    simp (disch:=first|omega|(simp<;>omega)|fail) [-map_take,-map_drop,-map_set,-map_append,-drop_one,h,h',hm]
noncomputable def cHas:List DV→Option DV:=con (fun _=>True) (fun a:Sl Dg × Dg=>[a.1.dv 32 dgC,.agg (dgC a.2)]) (fun a => .bool (decide (a.2 ∈ a.1.l)))
theorem zqi6 {x:Sl Dg} {d:Dg}:cHas [x.dv 32 dgC,.agg (dgC d)]=some (.bool (decide (d ∈ x.l))) :=
  zsn4 (f:=fun a:Sl Dg × Dg=>[a.1.dv 32 dgC,.agg (dgC a.2)]) (g:=fun a => .bool (decide (a.2 ∈ a.1.l))) (by
    rintro ⟨a,b⟩ ⟨c,d⟩ e
    simp only [List.cons.injEq,DV.agg.injEq,and_true] at e
    rw [z42k e.1,zib9 e.2]) (x,d)
theorem zi6e:(Con.pure cHas).Sound P 30:=z2au fun a _=>zljw mix zr5o Tryz.func30 z3f8 (zdpu a.1 a.2)
theorem zgo4 {a b:B8}:a.toNat.toUInt8<b.toNat.toUInt8↔a<b:=by
  have ha:=a.isLt
  have hb:=b.isLt
  rw [UInt8.lt_iff_toNat_lt,BitVec.lt_def]
  simp only [Nat.toUInt8_eq,UInt8.toNat_ofNat',Nat.mod_eq_of_lt ha,Nat.mod_eq_of_lt hb]
theorem z29k : ∀ (a b:List B8) (i:Nat) (h1:i<a.length) (h2:i<b.length),(∀ j (h1:j<a.length) (h2:j<b.length),j<i→a[j]=b[j])→¬ a[i]=b[i]→Op.bytesLess (a.map fun b=>b.toNat.toUInt8) (b.map fun b=>b.toNat.toUInt8)=decide (a[i]<b[i])
  | [],_,_,h1,_,_,_=>by simp at h1
  | _::_,[],_,_,h2,_,_=>by simp at h2
  | x::a,y::b,0,_,_,_,hn=>by
    simp only [List.getElem_cons_zero] at hn ⊢
    have hxy:¬ x.toNat.toUInt8=y.toNat.toUInt8:=fun e=>hn (zvz3 e)
    simp only [List.map_cons,Op.bytesLess,zgo4]
    simp [hxy,hn]
  | x::a,y::b,i+1,h1,h2,he,hn=>by
    have e0:=he 0 (by simp) (by simp) (by omega)
    simp only [List.getElem_cons_zero] at e0
    subst e0
    have:=z29k a b i (by simpa using h1) (by simpa using h2) (fun j p q hj=>he (j+1) (Nat.succ_lt_succ p) (Nat.succ_lt_succ q) (by omega)) (by simpa using hn)
    simp only [List.map_cons,Op.bytesLess,List.getElem_cons_succ,this]
    simp
theorem zwa6 {a b:Dg} {i:Nat} (hi:i<32) (he : ∀ j (hj:j<32),j<i→a.1[j]'(by rw [a.2]; exact hj)=b.1[j]'(by rw [b.2]; exact hj)) (hn:¬ a.1[i]'(by rw [a.2]; exact hi)=b.1[i]'(by rw [b.2]; exact hi)):dgLt a b=decide (a.1[i]'(by rw [a.2]; exact hi)<b.1[i]'(by rw [b.2]; exact hi)) :=
  z29k a.1 b.1 i _ _ (fun j p q hj=>he j (by rw [a.2] at p; exact p) hj) hn
theorem zz16 {a b:Dg} (he : ∀ j (hj:j<32),a.1[j]'(by rw [a.2]; exact hj)=b.1[j]'(by rw [b.2]; exact hj)):a=b :=
  Subtype.ext (List.ext_getElem (by rw [a.2,b.2]) fun j p q=>he j (by rw [a.2] at p; exact p))
theorem z00n {a:Dg} {i:Nat} (hi:i<32):one 1 false ((dgC a).drop i)=some (w8 (a.1[i]'(by rw [a.2]; exact hi))):=by
  have hl:i<(dgC a).length:=by rw [z1t1]; exact hi
  rw [List.drop_eq_getElem_cons hl]
  simp [one,dgC]
def S661 (a b:Dg) (i:Nat):St:=zrp1 (.mp 0 32 0) (.mp 1 32 0) (.int .i64 i) [.cells (dgC a),.cells (dgC b)]
theorem zy8c (a b:Dg):Runs tbl0 a59 [.agg (dgC a),.agg (dgC b)] (.bool (dgLt a b)):=by
  refine ⟨?_⟩
  simp (disch:=first|omega|(simp<;>omega)|fail) [-map_take,-map_drop,-map_set,-map_append,-drop_one,a59]
  refine zlm5 (S661 a b) (fun i=>32-i) (fun i=>i≤32 ∧ ∀ j (hj:j<32),j<i→a.1[j]'(by rw [a.2]; exact hj)=b.1[j]'(by rw [b.2]; exact hj)) 0 (z515 (by simp (disch:=first|omega|(simp<;>omega)|fail) [-map_take,-map_drop,-map_set,-map_append,-drop_one,S661,zrp1]) (by simp (disch:=first|omega|(simp<;>omega)|fail) [-map_take,-map_drop,-map_set,-map_append,-drop_one,S661,zrp1])) ⟨by omega,fun j _ hj=>by omega⟩ (fun i hi => ?_)
  obtain ⟨h1,h2⟩:=hi
  simp only [S661]
  by_cases h:i<32
  · have h':(i:Int)<32:=by omega
    have o1:=z00n (a:=a) h
    have o2:=z00n (a:=b) h
    have la:=z1t1 a
    have lb:=z1t1 b
    by_cases e:a.1[i]'(by rw [a.2]; exact h)=b.1[i]'(by rw [b.2]; exact h)
    · rw [e] at o1
      simp (disch:=first|omega|(simp<;>omega)|fail) [-map_take,-map_drop,-map_set,-map_append,-drop_one,zor5,zrp1,h,h',o1,o2,la,lb]
      refine ⟨i+1,z515 (by simp (disch:=first|omega|(simp<;>omega)|fail) [-map_take,-map_drop,-map_set,-map_append,-drop_one,S661,zrp1]) (by simp (disch:=first|omega|(simp<;>omega)|fail) [-map_take,-map_drop,-map_set,-map_append,-drop_one,S661,zrp1]),by omega,by omega,fun j hj hji => ?_⟩
      by_cases ej:j=i
      · subst ej; exact e
      · exact h2 j hj (by omega)
    · have hr:=zwa6 h h2 e
      obtain ⟨u,hu⟩ : ∃ u,a.1[i]'(by rw [a.2]; exact h)=u:=⟨_,rfl⟩
      obtain ⟨v,hv⟩ : ∃ v,b.1[i]'(by rw [b.2]; exact h)=v:=⟨_,rfl⟩
      rw [hu] at o1 e hr
      rw [hv] at o2 e hr
      have e':(u == v)=false:=by simp [e]
      have e'':(u != v)=true:=by simp [e]
      simp (disch:=first|omega|(simp<;>omega)|fail) [-map_take,-map_drop,-map_set,-map_append,-drop_one,zor5,zrp1,h,h',o1,o2,e,e',e'',hr,la,lb]
  · have h':¬ (i:Int)<32:=by omega
    have he:a=b:=zz16 fun j hj=>h2 j hj (by omega)
    have hr:dgLt a b=false:=by rw [he]; exact zc3a.irr b
    simp (disch:=first|omega|(simp<;>omega)|fail) [-map_take,-map_drop,-map_set,-map_append,-drop_one,zor5,zrp1,h,h',hr]
noncomputable def zta3:List DV→Option DV:=con (fun _=>True) (fun a:Dg × Dg=>[.agg (dgC a.1),.agg (dgC a.2)]) (fun a => .bool (dgLt a.1 a.2))
theorem z577 {a b:Dg}:zta3 [.agg (dgC a),.agg (dgC b)]=some (.bool (dgLt a b)) :=
  zsn4 (f:=fun a:Dg × Dg=>[.agg (dgC a.1),.agg (dgC a.2)]) (g:=fun a => .bool (dgLt a.1 a.2)) (by
    rintro ⟨a,b⟩ ⟨c,d⟩ e
    simp only [List.cons.injEq,DV.agg.injEq,and_true] at e
    rw [zib9 e.1,zib9 e.2]) (a,b)
theorem zp63:(Con.pure zta3).Sound P 59:=z2au fun a _=>zljw mix zr5o Tryz.func59 zwsz (zy8c a.1 a.2)
end Go.Proofs.YtdnhbfmlklaldaaGreat
set_option linter.unusedSimpArgs false
set_option linter.unusedVariables false
namespace Go.Proofs.YtdnhbfmlklaldaaGreat
open Go Go.Am
theorem zig9 {α:Type} {p:α→Bool} : ∀ {l:List α} {i:Nat} (hi:i≤l.length),(∀ j (h:j<l.length),j<i→p l[j]=true)→(i=l.length ∨ ∃ h:i<l.length,p l[i]=false)→l.takeWhile p=l.take i∧l.dropWhile p=l.drop i
  | [],i,hi,_,_=>by simp
  | a::l,0,_,_,h=>by
    have ha:p a=false:=by
      rcases h with h|⟨_,h⟩
      · simp at h
      · simpa using h
    simp [List.takeWhile_cons,List.dropWhile_cons,ha]
  | a::l,i+1,hi,h1,h2=>by
    have ha:p a=true:=h1 0 (by simp) (by omega)
    have ih:=zig9 (p:=p) (l:=l) (i:=i) (by simpa using hi) (fun j hj hji=>h1 (j+1) (Nat.succ_lt_succ hj) (by omega)) (by
      rcases h2 with h|⟨h,q⟩
      · exact .inl (by simpa using h)
      · exact .inr ⟨by simpa using h,by simpa using q⟩)
    simp [List.takeWhile_cons,List.dropWhile_cons,ha,ih.1,ih.2]
theorem zch3 {α:Type} {x:Sl α} {s:Nat} {f:α→List DV} {b:DV}:z87v (x.dv s f) b=b.known:=by
  obtain ⟨k,l,h,hb⟩:=x
  cases k with
  | none=>exact z8bo
  | some c=>exact zhyd
set_option maxRecDepth 20000 in
set_option maxHeartbeats 4000000 in
def addF (x:Sl Dg) (d:Dg):Sl Dg:=if d ∈ x.l then x else own (addU dgLt x.l d)
noncomputable def T662:Tbl:=addT 30 (.pure cHas) (addT 59 (.pure zta3) tbl0)
theorem zbwy:T662 30 = .pure cHas:=by simp [T662]
theorem zopp:T662 59 = .pure zta3:=by simp [T662]
theorem zuuq:T662.Sound P:=z0rp zi6e (z0rp zp63 zr5o)
def aV (l:List Dg):DV:=if l=[] then .nils else .ms 1 (l.length*32) 0 32 l.length (l.length*32)
def aH (d:Dg) (l:List Dg):List AObj := .cells (dgC d)::(if l=[] then [] else [.cells (fl dgC l)])
theorem zdzw {l:List Dg} (h:l≠[]):aV l = .ms 1 (l.length*32) 0 32 l.length (l.length*32):=if_neg h
theorem zdv1 {d:Dg} {l:List Dg} (h:l≠[]):aH d l=[.cells (dgC d),.cells (fl dgC l)]:=by rw [aH,if_neg h]
def S662 (x:Sl Dg) (d:Dg) (i:Nat):St:=z1yv (x.dv 32 dgC) (.mp 0 32 0) (aV (x.l.take i)) (.int .i64 i) (aH d (x.l.take i))
set_option maxRecDepth 20000 in
theorem ztx0 (x:Sl Dg) (d:Dg) (hn:x.l.length≤1000000):Runs T662 a93 [x.dv 32 dgC,.agg (dgC d)] ((addF x d).dv 32 dgC):=by
  refine ⟨?_⟩
  by_cases hm:d ∈ x.l
  · have hr:addF x d=x:=if_pos hm
    simp (disch:=first|omega|(simp<;>omega)|fail) [-map_take,-map_drop,-map_set,-map_append,-drop_one,a93,zbwy,zqi6,hm,hr]
  have hr:addF x d=own (addU dgLt x.l d):=if_neg hm
  have hul:=zk4s (lt:=dgLt) (l:=x.l) (d:=d)
  rw [hr,zqrs (by omega)]
  have ha:addU dgLt x.l d=x.l.takeWhile (fun y=>dgLt y d)++d::x.l.dropWhile (fun y=>dgLt y d):=by unfold addU; rw [if_neg hm]
  simp (disch:=first|omega|(simp<;>omega)|fail) [-map_take,-map_drop,-map_set,-map_append,-drop_one,a93,zbwy,zqi6,hm]
  refine zlm5 (S662 x d) (fun i=>x.l.length-i) (fun i=>i≤x.l.length ∧ ∀ j (h:j<x.l.length),j<i→dgLt x.l[j] d=true) 0 (z515 (by simp (disch:=first|omega|(simp<;>omega)|fail) [-map_take,-map_drop,-map_set,-map_append,-drop_one,S662,z1yv,aV]) (by simp (disch:=first|omega|(simp<;>omega)|fail) [-map_take,-map_drop,-map_set,-map_append,-drop_one,S662,z1yv,aH])) ⟨by omega,fun j _ hj=>by omega⟩ (fun i hi => ?_)
  obtain ⟨h1,h2⟩:=hi
  simp only [S662]
  have tail:(i=x.l.length ∨ ∃ h:i<x.l.length,dgLt x.l[i] d=false)→addU dgLt x.l d=x.l.take i++d::x.l.drop i:=fun h=>by
    obtain ⟨e1,e2⟩:=zig9 (p:=fun y=>dgLt y d) h1 h2 h
    rw [ha,e1,e2]
  obtain ⟨L,hL⟩ : ∃ L,x.l.take i=L:=⟨_,rfl⟩
  have hLl:L.length=i:=by rw [← hL,List.length_take]; omega
  have hdl:(x.l.drop i).length=x.l.length-i:=List.length_drop ..
  obtain ⟨D,hD⟩ : ∃ D,x.l.drop i=D:=⟨_,rfl⟩
  have hs0 : ∀ H,ziwb H 32 (x.dv 32 dgC) (some (.int .i64 i)) none none=some ((x.part i x.l.length (x.l.length == x.l.length)).dv 32 dgC):=fun H=>z0ke z1t1 (by simp [zo77,iD]; omega) (Nat.le_refl _)
  obtain ⟨Y,hY⟩ : ∃ Y,x.part i x.l.length (x.l.length == x.l.length)=Y:=⟨_,rfl⟩
  have hYl:Y.l=D:=by rw [← hY,← hD]; show (x.l.drop i).take (x.l.length-i)=_; exact List.take_of_length_le (by omega)
  rw [hY] at hs0
  have hv : ∀ H,visY H (Y.dv 32 dgC)=some (D.length,D.flatMap dgC):=fun H=>by rw [zwaa z1t1,hYl]
  rw [hD] at hdl
  rw [hL,hD] at tail
  rw [hL]
  by_cases h:i<x.l.length
  case neg =>
    have h':¬ (i:Int)<x.l.length:=by omega
    have H:i=x.l.length ∨ ∃ h:i<x.l.length,dgLt x.l[i] d=false := .inl (by omega)
    by_cases e:L=[]
    · have q1:aV L = .nils:=by rw [e]; rfl
      have q2:aH d L=[.cells (dgC d)]:=by rw [e]; rfl
      have hap:=zsuq (h:=[AObj.cells (dgC d)]) (s:=32) (b:=32) (m:=1) (cs:=dgC d) (by decide) (by decide) (by rw [z1t1]) (by decide) (by decide)
      simp only [z1t1,List.length_cons,List.length_nil,Nat.zero_add] at hap
      have hap2:=zvrp (h:=[AObj.cells (dgC d),.cells (fl dgC [d])]) (id:=1) (b:=32) (l:=[d]) (m:=D.length) (cs:=D) z1t1 (by decide) (by decide) (fun _=>zoxk) rfl (by simp; omega) (by simp [objV,ziu0,z8lx z1t1])
      rw [z4hs] at hap2
      simp only [List.length_cons,List.length_nil,Nat.zero_add,Nat.one_mul] at hap2
      have ht:=tail H
      rw [e,List.nil_append] at ht
      have hfl:(fl dgC (d::D)).length=(1+D.length)*32:=by rw [z8lx z1t1]; simp; omega
      have hpu:=zp6k z3ot (d::D)
      have htk:(fl dgC (d::D)).take ((1+D.length)*32)=(d::D).flatMap dgC:=List.take_of_length_le (by omega)
      have hl1:(d::D).length=1+D.length:=by simp; omega
      have hsn : ∀ H j,z4tt H j ((d::D).flatMap dgC)=some ((d::D).flatMap dgC):=fun H j=>z619 hpu
      rw [ht,hl1]
      generalize (d::D).flatMap dgC=Z at htk hsn ⊢
      simp (disch:=first|omega|(simp<;>omega)|fail) [-map_take,-map_drop,-map_set,-map_append,-drop_one,zzcy,z1yv,h,h',q1,q2,hs0,hv,hap,hap2,hfl,htk,hsn,zch3]
    · have q1:=zdzw e
      have q2:=zdv1 (d:=d) e
      have hap:=zkg3 (h:=[AObj.cells (dgC d),.cells (fl dgC L)]) (id:=1) (b:=32) (l:=L) (x:=d) z1t1 (by decide) (by decide) (fun _=>zoxk) (by omega) (by simp [objV,ziu0,z8lx z1t1])
      have hap2:=zvrp (h:=[AObj.cells (dgC d),.cells (fl dgC (L++[d]))]) (id:=1) (b:=32) (l:=L++[d]) (m:=D.length) (cs:=D) z1t1 (by decide) (by decide) (fun _=>zoxk) rfl (by simp; omega) (by simp [objV,ziu0,z8lx z1t1])
      have hl0:(L++[d]).length=L.length+1:=by simp
      rw [hl0] at hap2
      have ht:=tail H
      have he:L++[d]++D=L++d::D:=by simp
      rw [he] at hap2
      have hfl:(fl dgC (L++d::D)).length=(L.length+1+D.length)*32:=by rw [z8lx z1t1]; simp; omega
      have hpu:=zp6k z3ot (L++d::D)
      have htk:(fl dgC (L++d::D)).take ((L.length+1+D.length)*32)=(L++d::D).flatMap dgC:=List.take_of_length_le (by omega)
      have hl1:(L++d::D).length=L.length+1+D.length:=by simp; omega
      have hsn : ∀ H j,z4tt H j ((L++d::D).flatMap dgC)=some ((L++d::D).flatMap dgC):=fun H j=>z619 hpu
      rw [ht,hl1]
      generalize (L++d::D).flatMap dgC=Z at htk hsn ⊢
      simp (disch:=first|omega|(simp<;>omega)|fail) [-map_take,-map_drop,-map_set,-map_append,-drop_one,zzcy,z1yv,h,h',q1,q2,hs0,hv,hap,hap2,hfl,htk,hsn,zch3]

  have h':(i:Int)<x.l.length:=by omega
  have hg : ∀ H,zpsc H 32 (x.dv 32 dgC) i=some (.ref (dgC x.l[i])):=fun H=>zalo z1t1 h
  have hnx:x.l.take (i+1)=L++[x.l[i]]:=by rw [List.take_succ_eq_append_getElem h,hL]
  cases hc:dgLt x.l[i] d with
  | false =>
    have H:i=x.l.length ∨ ∃ h:i<x.l.length,dgLt x.l[i] d=false := .inr ⟨h,hc⟩
    obtain ⟨y,hy⟩ : ∃ y,x.l[i]=y:=⟨_,rfl⟩
    rw [hy] at hg hc
    by_cases e:L=[]
    · have q1:aV L = .nils:=by rw [e]; rfl
      have q2:aH d L=[.cells (dgC d)]:=by rw [e]; rfl
      have hap:=zsuq (h:=[AObj.cells (dgC d)]) (s:=32) (b:=32) (m:=1) (cs:=dgC d) (by decide) (by decide) (by rw [z1t1]) (by decide) (by decide)
      simp only [z1t1,List.length_cons,List.length_nil,Nat.zero_add] at hap
      have hap2:=zvrp (h:=[AObj.cells (dgC d),.cells (fl dgC [d])]) (id:=1) (b:=32) (l:=[d]) (m:=D.length) (cs:=D) z1t1 (by decide) (by decide) (fun _=>zoxk) rfl (by simp; omega) (by simp [objV,ziu0,z8lx z1t1])
      rw [z4hs] at hap2
      simp only [List.length_cons,List.length_nil,Nat.zero_add,Nat.one_mul] at hap2
      have ht:=tail H
      rw [e,List.nil_append] at ht
      have hfl:(fl dgC (d::D)).length=(1+D.length)*32:=by rw [z8lx z1t1]; simp; omega
      have hpu:=zp6k z3ot (d::D)
      have htk:(fl dgC (d::D)).take ((1+D.length)*32)=(d::D).flatMap dgC:=List.take_of_length_le (by omega)
      have hl1:(d::D).length=1+D.length:=by simp; omega
      have hsn : ∀ H j,z4tt H j ((d::D).flatMap dgC)=some ((d::D).flatMap dgC):=fun H j=>z619 hpu
      rw [ht,hl1]
      generalize (d::D).flatMap dgC=Z at htk hsn ⊢
      simp (disch:=first|omega|(simp<;>omega)|fail) [-map_take,-map_drop,-map_set,-map_append,-drop_one,zzcy,z1yv,h,h',hg,hc,zopp,z577,q1,q2,hs0,hv,hap,hap2,hfl,htk,hsn,zch3]
    · have q1:=zdzw e
      have q2:=zdv1 (d:=d) e
      have hap:=zkg3 (h:=[AObj.cells (dgC d),.cells (fl dgC L)]) (id:=1) (b:=32) (l:=L) (x:=d) z1t1 (by decide) (by decide) (fun _=>zoxk) (by omega) (by simp [objV,ziu0,z8lx z1t1])
      have hap2:=zvrp (h:=[AObj.cells (dgC d),.cells (fl dgC (L++[d]))]) (id:=1) (b:=32) (l:=L++[d]) (m:=D.length) (cs:=D) z1t1 (by decide) (by decide) (fun _=>zoxk) rfl (by simp; omega) (by simp [objV,ziu0,z8lx z1t1])
      have hl0:(L++[d]).length=L.length+1:=by simp
      rw [hl0] at hap2
      have ht:=tail H
      have he:L++[d]++D=L++d::D:=by simp
      rw [he] at hap2
      have hfl:(fl dgC (L++d::D)).length=(L.length+1+D.length)*32:=by rw [z8lx z1t1]; simp; omega
      have hpu:=zp6k z3ot (L++d::D)
      have htk:(fl dgC (L++d::D)).take ((L.length+1+D.length)*32)=(L++d::D).flatMap dgC:=List.take_of_length_le (by omega)
      have hl1:(L++d::D).length=L.length+1+D.length:=by simp; omega
      have hsn : ∀ H j,z4tt H j ((L++d::D).flatMap dgC)=some ((L++d::D).flatMap dgC):=fun H j=>z619 hpu
      rw [ht,hl1]
      generalize (L++d::D).flatMap dgC=Z at htk hsn ⊢
      simp (disch:=first|omega|(simp<;>omega)|fail) [-map_take,-map_drop,-map_set,-map_append,-drop_one,zzcy,z1yv,h,h',hg,hc,zopp,z577,q1,q2,hs0,hv,hap,hap2,hfl,htk,hsn,zch3]

  | true =>
    have hinv : ∀ j (h:j<x.l.length),j<i+1→dgLt x.l[j] d=true:=fun j hj hji=>by
      by_cases ej:j=i
      · subst ej; exact hc
      · exact h2 j hj (by omega)
    obtain ⟨y,hy⟩ : ∃ y,x.l[i]=y:=⟨_,rfl⟩
    rw [hy] at hg hc hnx
    by_cases e:L=[]
    · have q1:aV L = .nils:=by rw [e]; rfl
      have q2:aH d L=[.cells (dgC d)]:=by rw [e]; rfl
      have hap:=zsuq (h:=[AObj.cells (dgC d)]) (s:=32) (b:=32) (m:=1) (cs:=dgC y) (by decide) (by decide) (by rw [z1t1]) (by decide) (by decide)
      simp only [z1t1,List.length_cons,List.length_nil,Nat.zero_add] at hap
      simp (disch:=first|omega|(simp<;>omega)|fail) [-map_take,-map_drop,-map_set,-map_append,-drop_one,zzcy,z1yv,h,h',hg,hc,zopp,z577,q1,q2,hap]
      rw [e,List.nil_append] at hnx
      have e1:aV [y] = .ms 1 32 0 32 1 32:=rfl
      have e2:aH d [y]=[.cells (dgC d),.cells (dgC y)]:=by rw [zdv1 (by simp),z4hs]
      exact ⟨i+1,z515 (by simp (disch:=first|omega|(simp<;>omega)|fail) [-map_take,-map_drop,-map_set,-map_append,-drop_one,S662,z1yv,hnx,e1]) (by simp (disch:=first|omega|(simp<;>omega)|fail) [-map_take,-map_drop,-map_set,-map_append,-drop_one,S662,z1yv,hnx,e2]),by omega,by omega,hinv⟩
    · have q1:=zdzw e
      have q2:=zdv1 (d:=d) e
      have hap:=zkg3 (h:=[AObj.cells (dgC d),.cells (fl dgC L)]) (id:=1) (b:=32) (l:=L) (x:=y) z1t1 (by decide) (by decide) (fun _=>zoxk) (by omega) (by simp [objV,ziu0,z8lx z1t1])
      simp (disch:=first|omega|(simp<;>omega)|fail) [-map_take,-map_drop,-map_set,-map_append,-drop_one,zzcy,z1yv,h,h',hg,hc,zopp,z577,q1,q2,hap]
      have e0:L++[y]≠[]:=by simp
      have e1:=zdzw e0
      have e2:=zdv1 (d:=d) e0
      rw [List.length_append,List.length_singleton] at e1
      exact ⟨i+1,z515 (by simp (disch:=first|omega|(simp<;>omega)|fail) [-map_take,-map_drop,-map_set,-map_append,-drop_one,S662,z1yv,hnx,e1]) (by simp (disch:=first|omega|(simp<;>omega)|fail) [-map_take,-map_drop,-map_set,-map_append,-drop_one,S662,z1yv,hnx,e2]),by omega,by omega,hinv⟩
noncomputable def cAdd:List DV→Option DV:=con (fun a:Sl Dg × Dg=>a.1.l.length≤1000000) (fun a=>[a.1.dv 32 dgC,.agg (dgC a.2)]) (fun a=>(addF a.1 a.2).dv 32 dgC)
theorem zbsz {x:Sl Dg} {d:Dg} (h:x.l.length≤1000000):cAdd [x.dv 32 dgC,.agg (dgC d)]=some ((addF x d).dv 32 dgC) :=
  zlyi (A:=fun a:Sl Dg × Dg=>a.1.l.length≤1000000) (f:=fun a:Sl Dg × Dg=>[a.1.dv 32 dgC,.agg (dgC a.2)]) (g:=fun a=>(addF a.1 a.2).dv 32 dgC) (by
    rintro ⟨a,b⟩ ⟨c,d⟩ e
    simp only [List.cons.injEq,DV.agg.injEq,and_true] at e
    rw [z42k e.1,zib9 e.2]) (x,d) h
theorem z03l:(Con.pure cAdd).Sound P 93:=z2au fun a h=>zljw mix zuuq Tryz.func93 zv7d (ztx0 a.1 a.2 h)
end Go.Proofs.YtdnhbfmlklaldaaGreat
set_option linter.unusedSimpArgs false
set_option linter.unusedVariables false
namespace Go.Proofs.YtdnhbfmlklaldaaGreat
open Go Go.Am
def zt4y:List Str:=[[97,110,110],[98,111,98],[99,97,116],[100,97,110]]
def ids3:List Str:=[[119,45,49],[119,45,50],[119,45,51]]
def z78s:List Str:=[[115,104,111,112],[119,101,98]]
def z4fh:List Str:=[[114],[114],[115]]
def z1mk:List Str:=[[114],[115]]
theorem znbn {t:Tp} {l:List Str} {n:Nat} (hn:l.length=n) (h0:1≤n) (h1:n≤1000) (h:t.at_<4000000000):zqck [.sl true 1 n (l.map .str)] (tpC t)=some (.str (zzh5 t l),tpC (t.adv 1)):=by
  subst hn; exact ze0z h h0 (by omega)
theorem z9y8 {t:Tp} (h:t.at_<4000000000):zqck [.sl true 1 4 [.str [97,110,110],.str [98,111,98],.str [99,97,116],.str [100,97,110]]] (tpC t)=some (.str (zzh5 t zt4y),tpC (t.adv 1)):=znbn (l:=zt4y) rfl (by decide) (by decide) h
theorem zqj0 {t:Tp} (h:t.at_<4000000000):zqck [.sl true 1 3 [.str [119,45,49],.str [119,45,50],.str [119,45,51]]] (tpC t)=some (.str (zzh5 t ids3),tpC (t.adv 1)):=znbn (l:=ids3) rfl (by decide) (by decide) h
theorem z2fz {t:Tp} (h:t.at_<4000000000):zqck [.sl true 1 2 [.str [115,104,111,112],.str [119,101,98]]] (tpC t)=some (.str (zzh5 t z78s),tpC (t.adv 1)):=znbn (l:=z78s) rfl (by decide) (by decide) h
theorem zo76 {t:Tp} (h:t.at_<4000000000):zqck [.sl true 1 3 [.str [114],.str [114],.str [115]]] (tpC t)=some (.str (zzh5 t z4fh),tpC (t.adv 1)):=znbn (l:=z4fh) rfl (by decide) (by decide) h
theorem zh5o {t:Tp} (h:t.at_<4000000000):zqck [.sl true 1 2 [.str [114],.str [115]]] (tpC t)=some (.str (zzh5 t z1mk),tpC (t.adv 1)):=znbn (l:=z1mk) rfl (by decide) (by decide) h
theorem z8ub:Runs tbl0 a92 [] (.sl true 1 4 [.str [97,110,110],.str [98,111,98],.str [99,97,116],.str [100,97,110]]):=by
  refine ⟨?_⟩
  simp (disch:=first|omega|(simp<;>omega)|fail) [-map_take,-map_drop,-map_set,-map_append,-drop_one,a92]
theorem zlas:Runs tbl0 a58 [] (.sl true 1 3 [.str [119,45,49],.str [119,45,50],.str [119,45,51]]):=by
  refine ⟨?_⟩
  simp (disch:=first|omega|(simp<;>omega)|fail) [-map_take,-map_drop,-map_set,-map_append,-drop_one,a58]
noncomputable def cK (d:DV):List DV→Option DV
  | []=>some d|_=>none
theorem z33p {d:DV}:cK d []=some d:=rfl
theorem zq78 {k:Nat} {d:DV} (h:Am.Sem P k [] d):(Con.pure (cK d)).Sound P k:=by
  intro args v e
  unfold cK at e
  split at e
  · simp at e; subst e; exact h
  · simp at e
def ownD:DV := .sl true 1 4 [.str [97,110,110],.str [98,111,98],.str [99,97,116],.str [100,97,110]]
def idsD:DV := .sl true 1 3 [.str [119,45,49],.str [119,45,50],.str [119,45,51]]
noncomputable def T670:Tbl:=addT 29 (.tch z1m3) (addT 57 (.tch zqck) (addT 93 (.pure cAdd) (addT 92 (.pure (cK ownD)) (addT 58 (.pure (cK idsD)) tbl0))))
theorem zl2j:T670 29 = .tch z1m3:=by simp [T670]
theorem zayo:T670 57 = .tch zqck:=by simp [T670]
theorem zk0h:T670 93 = .pure cAdd:=by simp [T670]
theorem zu6w:T670 92 = .pure (cK ownD):=by simp [T670]
theorem z0df:T670 58 = .pure (cK idsD):=by simp [T670]
theorem zhjb:T670.Sound P:=z0rp z51e (z0rp z3hj (z0rp z03l (z0rp (zq78 (zljw mix zr5o Tryz.func92 zypd z8ub)) (z0rp (zq78 (zljw mix zr5o Tryz.func58 zt5h zlas)) zr5o))))
def z4m3 (t:Tp):Org:=⟨dgB (1+tpN t 2),zzh5 (t.adv 1) z78s,zzh5 (t.adv 2) z1mk⟩
theorem z5lm (t:Tp) (ht:t.at_<3000000000):RunsF T670 a26 [.mp 0 2 0] [.cells (tpC t)] (.agg (orC (z4m3 t))) [.cells (tpC (t.adv 3))]:=by
  refine ⟨?_⟩
  have n1:=z4rs t 2
  have n2:=z2s7 t (n:=2) (by omega)
  have hfz : ∀ k,fzL 1 k (tpC (t.adv 3)) (tpC (t.adv 3)):=fun k=>znnb (zs7w _)
  have hr:dgC (dgB (1+tpN t 2))++[.str (zzh5 (t.adv 1) z78s),.str (zzh5 (t.adv 2) z1mk)]=orC (z4m3 t):=rfl
  simp (disch:=first|omega|(simp<;>omega)|fail) [-map_take,-map_drop,-map_set,-map_append,-drop_one,a26,zl2j,zayo,z2fz,zh5o,z44h,z3oh,z7ni,hfz,hr,zojd (ztvh _)]
def znld:Nat→Tp→Sl Dg→Sl Dg
  | 0,_,x=>x
  | k+1,t,x=>znld k (t.adv 1) (addF x (dgB (10+tpN t 12)))
def zb9q (t:Tp) (x:Sl Dg):Fct:=⟨1+tpN t 5,zzh5 (t.adv 1) zt4y,dgB (1+tpN (t.adv 2) 2),zzh5 (t.adv 3) z78s,zzh5 (t.adv 4) z4fh,tpN (t.adv 5) 20,decide (0<tpN (t.adv 6) 4),dgB (1+tpN (t.adv 7) 2),x⟩
def zfp1 (t:Tp):Nat:=(1+tpN (t.adv 8) 2).toNat
def zdx2 (t:Tp):Fct:=zb9q t (znld (zfp1 t) (t.adv 9) nilS)
theorem z97c {k:Int} {o l r:Str} {b c:B8} {a:Int} {g:Bool}:zvnk [.int .i64 0,.str [],w8 0#8,w8 0#8,w8 0#8,w8 0#8,w8 0#8,w8 0#8,w8 0#8,w8 0#8,w8 0#8,w8 0#8,w8 0#8,w8 0#8,w8 0#8,w8 0#8,w8 0#8,w8 0#8,w8 0#8,w8 0#8,w8 0#8,w8 0#8,w8 0#8,w8 0#8,w8 0#8,w8 0#8,w8 0#8,w8 0#8,w8 0#8,w8 0#8,w8 0#8,w8 0#8,w8 0#8,w8 0#8,.str [],.str [],.int .i64 0,.bool false,w8 0#8,w8 0#8,w8 0#8,w8 0#8,w8 0#8,w8 0#8,w8 0#8,w8 0#8,w8 0#8,w8 0#8,w8 0#8,w8 0#8,w8 0#8,w8 0#8,w8 0#8,w8 0#8,w8 0#8,w8 0#8,w8 0#8,w8 0#8,w8 0#8,w8 0#8,w8 0#8,w8 0#8,w8 0#8,w8 0#8,w8 0#8,w8 0#8,w8 0#8,w8 0#8,w8 0#8,w8 0#8,.nils] [(0,1,.int .i64 k),(1,1,.str o),(2,32,.agg (dgC (dgW b))),(34,1,.str l),(35,1,.str r),(36,1,.int .i64 a),(37,1,.bool g),(38,32,.agg (dgC (dgW c)))]=some (.agg (faC ⟨k,o,dgW b,l,r,a,g,dgW c,nilS⟩)):=by kernel_rfl
theorem zin4 {f:Fct} {y:Sl Dg}:zk7y (faC f) 70 [y.dv 32 dgC]=faC { f with docs:=y }:=by
  unfold zk7y
  have e:faC f=(.int .i64 f.kind :: .str f.own::(dgC f.rev++(.str f.lay :: .str f.run :: .int .i64 f.at_ :: .bool f.agr::dgC f.tgt)))++[f.docs.dv 32 dgC]:=by simp [faC]
  have hl:(.int .i64 f.kind :: .str f.own::(dgC f.rev++(.str f.lay :: .str f.run :: .int .i64 f.at_ :: .bool f.agr::dgC f.tgt)):List DV).length=70:=by simp [z1t1]
  rw [e,List.take_left' hl,List.drop_of_length_le (by rw [List.length_append,hl]; simp)]
  simp [faC]
theorem z7ot {h:List AObj} {id:Nat} {f:Fct} {y:Sl Dg}:zy6o h id 1 70 (y.dv 32 dgC) (some (faC f))=some (.junk,h.set id (.cells (faC { f with docs:=y }))):=by
  rw [zltg (zs9p y) (z4ja y) (by rw [zs77]; decide),zin4]
theorem zfdk {x:Sl Dg} {d:Dg} (h:x.l.length≤1000):(addF x d).l.length≤x.l.length+1:=by
  have:=zk4s (lt:=dgLt) (l:=x.l) (d:=d)
  unfold addF; split
  · omega
  · rw [z3e9 (by omega)]; omega
structure FM where
  k:Nat
  t:Tp
  x:Sl Dg
def Z71:List DV:=[.int .i64 0,.str [],w8 0#8,w8 0#8,w8 0#8,w8 0#8,w8 0#8,w8 0#8,w8 0#8,w8 0#8,w8 0#8,w8 0#8,w8 0#8,w8 0#8,w8 0#8,w8 0#8,w8 0#8,w8 0#8,w8 0#8,w8 0#8,w8 0#8,w8 0#8,w8 0#8,w8 0#8,w8 0#8,w8 0#8,w8 0#8,w8 0#8,w8 0#8,w8 0#8,w8 0#8,w8 0#8,w8 0#8,w8 0#8,.str [],.str [],.int .i64 0,.bool false,w8 0#8,w8 0#8,w8 0#8,w8 0#8,w8 0#8,w8 0#8,w8 0#8,w8 0#8,w8 0#8,w8 0#8,w8 0#8,w8 0#8,w8 0#8,w8 0#8,w8 0#8,w8 0#8,w8 0#8,w8 0#8,w8 0#8,w8 0#8,w8 0#8,w8 0#8,w8 0#8,w8 0#8,w8 0#8,w8 0#8,w8 0#8,w8 0#8,w8 0#8,w8 0#8,w8 0#8,w8 0#8,.nils]
def S670 (f:Fct) (a:FM):St:=zh8t (.mp 0 2 0) (.mp 1 71 0) (.mp 2 71 0) (.int .i64 a.k) [.cells (tpC a.t),.cells Z71,.cells (faC { f with docs:=a.x })]
theorem zbqu {t:Tp}:zfp1 t≤2∧1≤zfp1 t:=by
  have n1:=z4rs (t.adv 8) 2
  have n2:=z2s7 (t.adv 8) (n:=2) (by omega)
  unfold zfp1; omega
set_option maxRecDepth 20000 in
theorem zsit (t:Tp) (ht:t.at_<3000000000):RunsF T670 a55 [.mp 0 2 0] [.cells (tpC t)] (.agg (faC (zdx2 t))) [.cells (tpC (t.adv (9+zfp1 t)))]:=by
  refine ⟨?_⟩
  have n1:=z4rs (t.adv 8) 2
  have n2:=z2s7 (t.adv 8) (n:=2) (by omega)
  have m1:=z4rs t 5
  have m2:=z2s7 t (n:=5) (by omega)
  have m3:=z4rs (t.adv 2) 2
  have m4:=z2s7 (t.adv 2) (n:=2) (by omega)
  have m5:=z4rs (t.adv 7) 2
  have m6:=z2s7 (t.adv 7) (n:=2) (by omega)
  have hfn:(1+tpN (t.adv 8) 2:Int)=zfp1 t:=by unfold zfp1; omega
  have hf2:=(zbqu (t:=t)).1
  obtain ⟨N,hN⟩ : ∃ N,zfp1 t=N:=⟨_,rfl⟩
  rw [hN] at hfn hf2
  unfold zdx2
  rw [hN]
  obtain ⟨R,hR⟩ : ∃ R,znld N (t.adv 9) nilS=R:=⟨_,rfl⟩
  rw [hR]
  have hz:[DV.int .i64 (1+tpN t 5)]=[.int .i64 (1+tpN t 5)]:=rfl
  simp (disch:=first|omega|(simp<;>omega)|fail) [-map_take,-map_drop,-map_set,-map_append,-drop_one,a55,zl2j,zayo,zu6w,z33p,ownD,z9y8,z2fz,zo76,z44h,z3oh,z7ni,z97c]
  refine zlm5 (S670 (zb9q t nilS)) (fun a=>a.k) (fun a=>znld a.k a.t a.x=R∧a.k≤2∧a.t.adv a.k=t.adv (9+N)∧a.t.at_+a.k<3000000100∧a.x.l.length+a.k≤2) ⟨N,t.adv 9,nilS⟩ (z515 (by simp (disch:=first|omega|(simp<;>omega)|fail) [-map_take,-map_drop,-map_set,-map_append,-drop_one,S670,zh8t,hfn]) (by simp (disch:=first|omega|(simp<;>omega)|fail) [-map_take,-map_drop,-map_set,-map_append,-drop_one,S670,zh8t,zb9q,Z71])) ⟨hR,hf2,by simp [z3oh],by simp; omega,by simpa [zb11] using hf2⟩ (fun a ha => ?_)
  obtain ⟨k,u,x⟩:=a
  obtain ⟨r1,r2,r3,r4,r5⟩:=ha
  simp only at r1 r2 r3 r4 r5
  simp only [S670]
  cases k with
  | zero =>
    have r1:x=R:=r1
    subst r1
    rw [zbrh] at r3
    subst r3
    have hfz : ∀ k,fzL 1 k (tpC (t.adv (9+N))) (tpC (t.adv (9+N))):=fun k=>znnb (zs7w _)
    have e:({ zb9q t nilS with docs:=x }:Fct)=zb9q t x:=rfl
    rw [e]
    have hzl:Z71.length=71:=by simp [Z71]
    simp (disch:=first|omega|(simp<;>omega)|fail) [-map_take,-map_drop,-map_set,-map_append,-drop_one,z44u,zh8t,hfz,hzl,zojd (z93p _)]
  | succ k =>
    have r1:znld k (u.adv 1) (addF x (dgB (10+tpN u 12)))=R:=r1
    have hk:(0:Int)<((k+1:Nat):Int):=by omega
    have hk':0<k+1:=by omega
    have hk1:((k+1:Nat):Int)-1=k:=by omega
    have p1:=z4rs u 12
    have p2:=z2s7 u (n:=12) (by omega)
    obtain ⟨d,hd⟩ : ∃ d,dgB (10+tpN u 12)=d:=⟨_,rfl⟩
    rw [hd] at r1
    have hd':dgW (BitVec.ofInt 8 (10+tpN u 12))=d:=hd
    have ca:=zbsz (x:=x) (d:=d) (by omega)
    have hal:=zfdk (x:=x) (d:=d) (by omega)
    obtain ⟨y,hy⟩ : ∃ y,addF x d=y:=⟨_,rfl⟩
    rw [hy] at r1 ca hal
    have hge : ∀ f:Fct,(faC { f with docs:=x }).length=71:=fun f=>zs77 _
    simp (disch:=first|omega|(simp<;>omega)|fail) [-map_take,-map_drop,-map_set,-map_append,-drop_one,z44u,zh8t,hk,hk',zl2j,zk0h,z44h,z7ni,hd',ca,z7ot]
    exact ⟨⟨k,u.adv 1,y⟩,z515 (by simp (disch:=first|omega|(simp<;>omega)|fail) [-map_take,-map_drop,-map_set,-map_append,-drop_one,S670,zh8t]) (by simp (disch:=first|omega|(simp<;>omega)|fail) [-map_take,-map_drop,-map_set,-map_append,-drop_one,S670,zh8t]),by simp,r1,by simp only; omega,by simp only; rw [z3oh,Nat.add_comm 1 k]; exact r3,by simp; omega,by simp only; omega⟩
end Go.Proofs.YtdnhbfmlklaldaaGreat
set_option linter.unusedSimpArgs false
set_option linter.unusedVariables false
namespace Go.Proofs.YtdnhbfmlklaldaaGreat
open Go Go.Am
def zu2o (t:Tp):Fnd:=⟨dgB (1+tpN t 2),tpN (t.adv 1) 4,zzh5 (t.adv 2) ids3,1+tpN (t.adv 3) 10,mkD (BitVec.ofInt 8 (30+tpN (t.adv 4) 3)),0,nilS,false⟩
def z8jt (t:Tp):Fnd:={ zu2o t with st:=1+tpN (t.adv 5) 4,con:=decide (tpN (t.adv 6) 6=0),dd:=if 0<tpN (t.adv 7) 3 then mkD (BitVec.ofInt 8 (10+tpN (t.adv 8) 12)) else nilS }
def zelo (t:Tp):Nat:=if 0<tpN (t.adv 7) 3 then 9 else 8
theorem zahl {b e:B8} {c s:Int} {i:Str}:zvnk [w8 0#8,w8 0#8,w8 0#8,w8 0#8,w8 0#8,w8 0#8,w8 0#8,w8 0#8,w8 0#8,w8 0#8,w8 0#8,w8 0#8,w8 0#8,w8 0#8,w8 0#8,w8 0#8,w8 0#8,w8 0#8,w8 0#8,w8 0#8,w8 0#8,w8 0#8,w8 0#8,w8 0#8,w8 0#8,w8 0#8,w8 0#8,w8 0#8,w8 0#8,w8 0#8,w8 0#8,w8 0#8,.int .i64 0,.str [],.int .i64 0,.nils,.int .i64 0,.nils,.bool false] [(0,32,.agg (dgC (dgW b))),(32,4,.agg [.int .i64 c,.str i,.int .i64 s,.sl true 32 1 (dgC (dgW e))])]=some (.agg (fnC ⟨dgW b,c,i,s,mkD e,0,nilS,false⟩)):=by kernel_rfl
theorem zcyz {e:B8} {c s:Int} {i:Str}:zvnk [.int .i64 0,.str [],.int .i64 0,.nils] [(0,1,.int .i64 c),(1,1,.str i),(2,1,.int .i64 s),(3,1,.sl true 32 1 (dgC (dgW e)))]=some (.agg [.int .i64 c,.str i,.int .i64 s,.sl true 32 1 (dgC (dgW e))]):=by kernel_rfl
theorem zg5n {c:Int} {b:Bool}:zvnk [.int .i64 0,.nils,.bool false] [(0,1,.int .i64 c),(2,1,.bool b)]=some (.agg [.int .i64 c,.nils,.bool b]):=by kernel_rfl
theorem z9zx {h:List AObj} {id:Nat} {f:Fnd} {c:Int} {b:Bool}:zy6o h id 3 36 (.agg [.int .i64 c,.nils,.bool b]) (some (fnC f))=some (.junk,h.set id (.cells (fnC { f with st:=c,dd:=nilS,con:=b }))):=by
  simp only [zy6o,DV.cells,List.length_cons,List.length_nil,z0o0,List.all_cons,List.all_nil,zzmf,z3gw]
  rw [if_pos ⟨trivial,by decide,rfl⟩]
  have e:zk7y (fnC f) 36 [.int .i64 c,.nils,.bool b]=fnC { f with st:=c,dd:=nilS,con:=b }:=by
    unfold zk7y
    have e0:fnC f=(dgC f.inv++[.int .i64 f.comp,.str f.id,.int .i64 f.sev,f.hd.dv 32 dgC])++[.int .i64 f.st,f.dd.dv 32 dgC,.bool f.con]:=by simp [fnC]
    have hl:(dgC f.inv++[.int .i64 f.comp,.str f.id,.int .i64 f.sev,f.hd.dv 32 dgC]:List DV).length=36:=by simp [z1t1]
    rw [e0,List.take_left' hl,List.drop_of_length_le (by rw [List.length_append,hl]; simp)]
    simp [fnC,nilS,Sl.dv,slD]
  rw [e]
theorem z0ut {h:List AObj} {id:Nat} {f:Fnd} {b:B8}:zy6o h id 1 37 (.sl true 32 1 (dgC (dgW b))) (some (fnC f))=some (.junk,h.set id (.cells (fnC { f with dd:=mkD b }))):=zw46 (y:=mkD b)
set_option maxRecDepth 20000 in
theorem z2n0 (t:Tp) (ht:t.at_<3000000000):RunsF T670 a56 [.mp 0 2 0] [.cells (tpC t)] (.agg (fnC (z8jt t))) [.cells (tpC (t.adv (zelo t)))]:=by
  refine ⟨?_⟩
  have m1:=z4rs t 2
  have m2:=z2s7 t (n:=2) (by omega)
  have m3:=z4rs (t.adv 3) 10
  have m4:=z2s7 (t.adv 3) (n:=10) (by omega)
  have m5:=z4rs (t.adv 4) 3
  have m6:=z2s7 (t.adv 4) (n:=3) (by omega)
  have m7:=z4rs (t.adv 5) 4
  have m8:=z2s7 (t.adv 5) (n:=4) (by omega)
  have m9:=z4rs (t.adv 8) 12
  have m0:=z2s7 (t.adv 8) (n:=12) (by omega)
  have hfz : ∀ n k,fzL 1 k (tpC (t.adv n)) (tpC (t.adv n)):=fun n k=>znnb (zs7w _)
  by_cases h:0<tpN (t.adv 7) 3
  · have e1:zelo t=9:=if_pos h
    have e2:fnC ⟨dgW (BitVec.ofInt 8 (1+tpN t 2)),tpN (t.adv 1) 4,zzh5 (t.adv 2) ids3,1+tpN (t.adv 3) 10,mkD (BitVec.ofInt 8 (30+tpN (t.adv 4) 3)),1+tpN (t.adv 5) 4,mkD (BitVec.ofInt 8 (10+tpN (t.adv 8) 12)),decide (tpN (t.adv 6) 6=0)⟩=fnC (z8jt t):=by
      unfold z8jt zu2o; rw [if_pos h]
    rw [e1]
    simp (disch:=first|omega|(simp<;>omega)|fail) [-map_take,-map_drop,-map_set,-map_append,-drop_one,a56,zl2j,zayo,z0df,z33p,idsD,zqj0,z44h,z3oh,z7ni,bs_d,zcyz,zahl,zg5n,z9zx,h,z0ut,hfz,e2,zojd (zl9f _)]
  · have e1:zelo t=8:=if_neg h
    have e2:fnC ⟨dgW (BitVec.ofInt 8 (1+tpN t 2)),tpN (t.adv 1) 4,zzh5 (t.adv 2) ids3,1+tpN (t.adv 3) 10,mkD (BitVec.ofInt 8 (30+tpN (t.adv 4) 3)),1+tpN (t.adv 5) 4,nilS,decide (tpN (t.adv 6) 6=0)⟩=fnC (z8jt t):=by
      unfold z8jt zu2o; rw [if_neg h]
    rw [e1]
    simp (disch:=first|omega|(simp<;>omega)|fail) [-map_take,-map_drop,-map_set,-map_append,-drop_one,a56,zl2j,zayo,z0df,z33p,idsD,zqj0,z44h,z3oh,z7ni,bs_d,zcyz,zahl,zg5n,z9zx,h,hfz,e2,zojd (zl9f _)]
def reqK (t:Tp):Int:=1+tpN t 8
def reqV (t:Tp):Req :=
  if reqK t=1∨reqK t=3∨reqK t=5 then ⟨reqK t,1+tpN (t.adv 1) 3,0,[]⟩
  else if reqK t=4 then ⟨4,1+tpN (t.adv 1) 2,tpN (t.adv 2) 2,[]⟩
  else if reqK t=2 then ⟨2,0,0,zzh5 (t.adv 1) z78s⟩
  else if reqK t=6 then ⟨6,1+tpN (t.adv 1) 10,0,[]⟩
  else if reqK t=7 then ⟨7,tpN (t.adv 1) 30,0,[]⟩
  else ⟨reqK t,0,0,[]⟩
def reqA (t:Tp):Nat:=if reqK t=4 then 3 else if reqK t=8 then 1 else 2
theorem zg2q (t:Tp):1≤reqK t∧reqK t≤8:=by
  have:=z4rs t 8
  have:=z2s7 t (n:=8) (by omega)
  unfold reqK; omega
set_option maxRecDepth 20000 in
theorem ziwc (t:Tp) (ht:t.at_<3000000000):RunsF T670 a27 [.mp 0 2 0] [.cells (tpC t)] (.agg (rqC (reqV t))) [.cells (tpC (t.adv (reqA t)))]:=by
  refine ⟨?_⟩
  have hb:=zg2q t
  have m1:=z4rs (t.adv 1) 3
  have m2:=z2s7 (t.adv 1) (n:=3) (by omega)
  have m3:=z4rs (t.adv 1) 2
  have m4:=z2s7 (t.adv 1) (n:=2) (by omega)
  have m5:=z4rs (t.adv 1) 10
  have m6:=z2s7 (t.adv 1) (n:=10) (by omega)
  have m7:=z4rs t 8
  have m8:=z2s7 t (n:=8) (by omega)
  have hfz : ∀ n k,fzL 1 k (tpC (t.adv n)) (tpC (t.adv n)):=fun n k=>znnb (zs7w _)
  unfold reqV reqA
  obtain ⟨K,hK⟩ : ∃ K,tpN t 8=K:=⟨_,rfl⟩
  rw [hK] at m7 m8
  have hk:reqK t=1+K:=by unfold reqK; rw [hK]
  rw [hk] at hb ⊢
  by_cases e1:K=0
  · subst e1
    have hw:IntKind.i64.wrap (1+(0:Int))=1:=by decide
    simp (disch:=first|omega|(simp<;>omega)|fail) [-map_take,-map_drop,-map_set,-map_append,-drop_one,a27,zl2j,zayo,z2fz,hK,hw,z44h,z3oh,z7ik,z485,z60m,zkma,hfz,zojd (zhqv _)]
  by_cases e2:K=1
  · subst e2
    have hw:IntKind.i64.wrap (1+(1:Int))=2:=by decide
    simp (disch:=first|omega|(simp<;>omega)|fail) [-map_take,-map_drop,-map_set,-map_append,-drop_one,a27,zl2j,zayo,z2fz,hK,hw,z44h,z3oh,z7ik,z485,z60m,zkma,hfz,zojd (zhqv _)]
  by_cases e3:K=2
  · subst e3
    have hw:IntKind.i64.wrap (1+(2:Int))=3:=by decide
    simp (disch:=first|omega|(simp<;>omega)|fail) [-map_take,-map_drop,-map_set,-map_append,-drop_one,a27,zl2j,zayo,z2fz,hK,hw,z44h,z3oh,z7ik,z485,z60m,zkma,hfz,zojd (zhqv _)]
  by_cases e4:K=3
  · subst e4
    have hw:IntKind.i64.wrap (1+(3:Int))=4:=by decide
    simp (disch:=first|omega|(simp<;>omega)|fail) [-map_take,-map_drop,-map_set,-map_append,-drop_one,a27,zl2j,zayo,z2fz,hK,hw,z44h,z3oh,z7ik,z485,z60m,zkma,hfz,zojd (zhqv _)]
  by_cases e5:K=4
  · subst e5
    have hw:IntKind.i64.wrap (1+(4:Int))=5:=by decide
    simp (disch:=first|omega|(simp<;>omega)|fail) [-map_take,-map_drop,-map_set,-map_append,-drop_one,a27,zl2j,zayo,z2fz,hK,hw,z44h,z3oh,z7ik,z485,z60m,zkma,hfz,zojd (zhqv _)]
  by_cases e6:K=5
  · subst e6
    have hw:IntKind.i64.wrap (1+(5:Int))=6:=by decide
    simp (disch:=first|omega|(simp<;>omega)|fail) [-map_take,-map_drop,-map_set,-map_append,-drop_one,a27,zl2j,zayo,z2fz,hK,hw,z44h,z3oh,z7ik,z485,z60m,zkma,hfz,zojd (zhqv _)]
  by_cases e7:K=6
  · subst e7
    have hw:IntKind.i64.wrap (1+(6:Int))=7:=by decide
    simp (disch:=first|omega|(simp<;>omega)|fail) [-map_take,-map_drop,-map_set,-map_append,-drop_one,a27,zl2j,zayo,z2fz,hK,hw,z44h,z3oh,z7ik,z485,z60m,zkma,hfz,zojd (zhqv _)]
  obtain e8:K=7:=by omega
  subst e8
  have hw:IntKind.i64.wrap (1+(7:Int))=8:=by decide
  simp (disch:=first|omega|(simp<;>omega)|fail) [-map_take,-map_drop,-map_set,-map_append,-drop_one,a27,zl2j,zayo,z2fz,hK,hw,z44h,z3oh,z7ik,z485,z60m,zkma,hfz,zojd (zhqv _)]
noncomputable def cMk (g:Tp→DV) (n:Tp→Nat):List DV→List DV→Option (DV × List DV):=conT (fun a:Tp=>a.at_<3000000000) (fun a=>[]) tpC (fun a=>(g a,tpC (a.adv (n a))))
theorem zkde {g:Tp→DV} {n:Tp→Nat} {t:Tp} (h:t.at_<3000000000):cMk g n [] (tpC t)=some (g t,tpC (t.adv (n t))) :=
  ztyo (A:=fun a:Tp=>a.at_<3000000000) (f:=fun a=>[]) (s:=tpC) (fun a b _ e=>by rw [z15z e]) t h
theorem zdjw {k:Nat} {g:Tp→DV} {n:Tp→Nat} (hp : ∀ t,zyp8 (g t)=true) (h : ∀ t:Tp,t.at_<3000000000→zwy1 P k [.mp 0 2 0] [.cells (tpC t)] (fun d h=>d=g t∧h=[.cells (tpC (t.adv (n t)))])):(Con.tch (cMk g n)).Sound P k :=
  zqeo (fun a _=>⟨rfl,zs7w _,hp a,zs7w _⟩) fun a ha=>h a ha
noncomputable def zpqb (t:Tp):DV := .agg (faC (zdx2 t))
noncomputable def zocd (t:Tp):DV := .agg (fnC (z8jt t))
noncomputable def zbdu (t:Tp):DV := .agg (orC (z4m3 t))
noncomputable def z3tu (t:Tp):DV := .agg (rqC (reqV t))
def zy0h (t:Tp):Nat:=9+zfp1 t
theorem zuih:(Con.tch (cMk zpqb zy0h)).Sound P 55:=zdjw (fun t=>z93p _) fun t h=>zizi mix zhjb Tryz.func55 ze8s (zsit t h) (Nat.le_refl _)
theorem zjbb:(Con.tch (cMk zocd zelo)).Sound P 56:=zdjw (fun t=>zl9f _) fun t h=>zizi mix zhjb Tryz.func56 zcwb (z2n0 t h) (Nat.le_refl _)
theorem zbz5:(Con.tch (cMk zbdu fun _=>3)).Sound P 26:=zdjw (fun t=>ztvh _) fun t h=>zizi mix zhjb Tryz.func26 z9gs (z5lm t h) (Nat.le_refl _)
theorem zmr3:(Con.tch (cMk z3tu reqA)).Sound P 27:=zdjw (fun t=>zhqv _) fun t h=>zizi mix zhjb Tryz.func27 z3hx (ziwc t h) (Nat.le_refl _)
end Go.Proofs.YtdnhbfmlklaldaaGreat
set_option linter.unusedSimpArgs false
set_option linter.unusedVariables false
namespace Go.Proofs.YtdnhbfmlklaldaaGreat
open Go Go.Am
theorem zf6m {P:Program} {f:FuncId} {fn:Func} (hf:P.funcs[f]? = some fn) {af:AFn} (hc:zsjc P fn=some af) {args:List DV} {h:List AObj} {v:DV} {k:List AObj} (hr:V P h.length af.code (retF af.res v k) ⟨zr5g af.ntmps args,h⟩)
    (hn:h.length≤k.length):zwy1 P f args h (fun d k'=>d=v∧k'=k) :=
  (zcpc hf hc (zftn (fun _ _ h=>h.out) hr)).freeze hn
def zqwi:Nat→Tp→List Fct→List Fct × Tp
  | 0,t,l=>(l,t)
  | k+1,t,l=>zqwi k (t.adv (zy0h t)) (l++[zdx2 t])
def z7td:Nat→Tp→List Fnd→List Fnd × Tp
  | 0,t,l=>(l,t)
  | k+1,t,l=>z7td k (t.adv (zelo t)) (l++[z8jt t])
def dblS (t:Tp):Sl Str:=if tpN t 6=0 then ⟨some true,[zzh5 (t.adv 1) ids3],fun e=>by simp at e,by simp⟩ else nilS
def dblA (t:Tp):Nat:=if tpN t 6=0 then 2 else 1
def caP (t:Tp) (F:Nat):List Fct × Tp:=zqwi (tpN (t.adv 2) (F+1)).toNat (t.adv 3) []
def caR (t:Tp) (N:Nat):List Fnd × Tp:=z7td (tpN t (N+1)).toNat (t.adv 1) []
def zhq6 (t:Tp) (F N:Nat):Cas:=⟨sumV t,tpN (t.adv 1) 40,ownN (caP t F).1,ownN (caR (caP t F).2 N).1,dblS (caR (caP t F).2 N).2⟩
def zsjk (t:Tp) (F N:Nat):Tp:=(caR (caP t F).2 N).2.adv (dblA (caR (caP t F).2 N).2)
noncomputable def T680:Tbl:=addT 29 (.tch z1m3) (addT 57 (.tch zqck) (addT 54 (.tch cSum) (addT 58 (.pure (cK idsD)) (addT 55 (.tch (cMk zpqb zy0h)) (addT 56 (.tch (cMk zocd zelo)) tbl0)))))
theorem zcfv:T680 29 = .tch z1m3:=by simp [T680]
theorem zazt:T680 57 = .tch zqck:=by simp [T680]
theorem zrcp:T680 54 = .tch cSum:=by simp [T680]
theorem zvf7:T680 58 = .pure (cK idsD):=by simp [T680]
theorem zmug:T680 55 = .tch (cMk zpqb zy0h):=by simp [T680]
theorem zh59:T680 56 = .tch (cMk zocd zelo):=by simp [T680]
theorem zqws:T680.Sound P:=z0rp z51e (z0rp z3hj (z0rp z8dz (z0rp (zq78 (zljw mix zr5o Tryz.func58 zt5h zlas)) (z0rp zuih (z0rp zjbb zr5o)))))
def Z36:List DV:=[w8 0#8,w8 0#8,w8 0#8,w8 0#8,w8 0#8,w8 0#8,w8 0#8,w8 0#8,w8 0#8,w8 0#8,w8 0#8,w8 0#8,w8 0#8,w8 0#8,w8 0#8,w8 0#8,w8 0#8,w8 0#8,w8 0#8,w8 0#8,w8 0#8,w8 0#8,w8 0#8,w8 0#8,w8 0#8,w8 0#8,w8 0#8,w8 0#8,w8 0#8,w8 0#8,w8 0#8,w8 0#8,.int .i64 0,.nils,.nils,.nils]
theorem zu4k:Z36.length=36:=by simp [Z36]
theorem zi4l:zbao Z36=true:=by simp [Z36,zbao,zyp8]
attribute [simp] zu4k zi4l
def zv0z:ACode:=match a25.code with
  | .seq _ (.seq _ (.seq _ y))=>y
  | _ => .skip
def z7o3:ACode:=match a25.code with
  | .seq _ (.seq _ (.seq _ (.seq _ y)))=>y
  | _ => .skip
def cX (A:Dg) (a:Int) (v1 v2 v3:DV):List DV:=dgC A++[.int .i64 a,v1,v2,v3]
theorem zb0y {A:Dg} {a:Int} {v1 v2 v3:DV}:(cX A a v1 v2 v3).length=36:=by simp [cX,z1t1]
theorem zrnz {A:Dg} {a:Int} {v1 v2 v3:DV}:(cX A a v1 v2 v3).drop 32=[.int .i64 a,v1,v2,v3]:=by unfold cX; rw [zj6k (by decide)]; rfl
theorem cX33 {A:Dg} {a:Int} {v1 v2 v3:DV}:one 1 false ((cX A a v1 v2 v3).drop 33)=some v1:=by rw [show (33:Nat)=32+1 from rfl,← List.drop_drop,zrnz]; rfl
theorem cX34 {A:Dg} {a:Int} {v1 v2 v3:DV}:one 1 false ((cX A a v1 v2 v3).drop 34)=some v2:=by rw [show (34:Nat)=32+2 from rfl,← List.drop_drop,zrnz]; rfl
theorem zcvp {A:Dg} {a:Int} {v1 v2 v3 v:DV} {k:Nat} (hk:k≤2):zk7y (cX A a v1 v2 v3) (33+k) [v]=cX A a (if k=0 then v else v1) (if k=1 then v else v2) (if k=2 then v else v3):=by
  unfold zk7y
  have e1:(cX A a v1 v2 v3).take (33+k)=dgC A++[DV.int .i64 a,v1,v2,v3].take (1+k):=by
    unfold cX; rw [List.take_append,List.take_of_length_le (by rw [z1t1]; omega),z1t1]; congr 2; omega
  have e2:(cX A a v1 v2 v3).drop (33+k+[v].length)=[DV.int .i64 a,v1,v2,v3].drop (2+k):=by
    rw [show 33+k+[v].length=32+(2+k) by simp; omega,← List.drop_drop,zrnz]
  rw [e1,e2]
  match k,hk with
  | 0,_=>simp [cX]
  | 1,_=>simp [cX]
  | 2,_=>simp [cX]
theorem ztie {h:List AObj} {id:Nat} {A:Dg} {a:Int} {v1 v2 v3 v:DV} (hc:v.cells=[v]) (ho:v.one=true):zy6o h id 1 33 v (some (cX A a v1 v2 v3))=some (.junk,h.set id (.cells (cX A a v v2 v3))):=by
  rw [zltg hc ho (by rw [zb0y]; decide),show (33:Nat)=33+0 from rfl,zcvp (by omega)]; rfl
theorem zgrq {h:List AObj} {id:Nat} {A:Dg} {a:Int} {v1 v2 v3 v:DV} (hc:v.cells=[v]) (ho:v.one=true):zy6o h id 1 34 v (some (cX A a v1 v2 v3))=some (.junk,h.set id (.cells (cX A a v1 v v3))):=by
  rw [zltg hc ho (by rw [zb0y]; decide),show (34:Nat)=33+1 from rfl,zcvp (by omega)]; rfl
theorem zrli {h:List AObj} {id:Nat} {A:Dg} {a:Int} {v1 v2 v3 v:DV} (hc:v.cells=[v]) (ho:v.one=true):zy6o h id 1 35 v (some (cX A a v1 v2 v3))=some (.junk,h.set id (.cells (cX A a v1 v2 v))):=by
  rw [zltg hc ho (by rw [zb0y]; decide),show (35:Nat)=33+2 from rfl,zcvp (by omega)]; rfl
theorem z5bn {A:Dg} {a:Int} {f:Sl Fct} {n:Sl Fnd} {d:Sl Str}:cX A a (f.dv 71 faC) (n.dv 39 fnC) (d.dv 1 stC)=caC ⟨A,a,f,n,d⟩:=rfl
theorem zykt {A:B8} {a:Int}:zvnk [w8 0#8,w8 0#8,w8 0#8,w8 0#8,w8 0#8,w8 0#8,w8 0#8,w8 0#8,w8 0#8,w8 0#8,w8 0#8,w8 0#8,w8 0#8,w8 0#8,w8 0#8,w8 0#8,w8 0#8,w8 0#8,w8 0#8,w8 0#8,w8 0#8,w8 0#8,w8 0#8,w8 0#8,w8 0#8,w8 0#8,w8 0#8,w8 0#8,w8 0#8,w8 0#8,w8 0#8,w8 0#8,.int .i64 0,.nils,.nils,.nils] [(0,32,.agg (dgC (dgW A))),(32,1,.int .i64 a)]=some (.agg (cX (dgW A) a .nils .nils .nils)):=by kernel_rfl
attribute [simp] zb0y cX33 cX34
theorem zwlc {K:Nat→Bool} {h:List AObj} {A:Dg} {a:Int} {v1 v2 v3:DV}:mkL K h (cX A a v1 v2 v3)=cX A a (mk1 K h v1) (mk1 K h v2) (mk1 K h v3):=by
  unfold cX; rw [zqm6,zrip (z3ot A)]; simp
theorem zys9 {A:Dg} {a:Int} {v1 v2 v3:DV}:zbao (cX A a v1 v2 v3)=(zyp8 v1&&(zyp8 v2&&zyp8 v3)):=by
  unfold cX
  have : ∀ (l m:List DV),zbao l=true→zbao (l++m)=zbao m:=fun l m h=>by
    induction l with
    | nil=>rfl
    | cons d r ih=>simp only [zbao,Bool.and_eq_true] at h; simp only [List.cons_append,zbao,h.1,Bool.true_and,ih h.2]
  rw [this _ _ (z3ot A)]
  simp [zbao,zyp8]
set_option maxRecDepth 20000 in
theorem zu82 (t:Tp) (A:Dg) (a:Int) (f:Sl Fct) (n:Sl Fnd) (ht:t.at_<3900000000):V P 1 z7o3 (retF [.cell 6 36 true] (.agg (caC ⟨A,a,f,n,dblS t⟩)) [.cells (tpC (t.adv (dblA t)))])
    ⟨[.mp 0 2 0,.junk,.junk,.junk,.junk,.junk,.mp 1 36 0,.mp 2 36 0]++js 46,[.cells (tpC t),.cells Z36,.cells (cX A a (f.dv 71 faC) (n.dv 39 fnC) .nils)]⟩:=by
  refine V_W mix zqws ?_
  have hfz : ∀ n k,fzL 1 k (tpC (t.adv n)) (tpC (t.adv n)):=fun n k=>znnb (zs7w _)
  have hnil:(nilS:Sl Str).dv 1 stC = .nils:=rfl
  by_cases h:tpN t 6=0
  · have e1:dblA t=2:=if_pos h
    have e2:(dblS t).dv 1 stC = .sl true 1 1 [.str (zzh5 (t.adv 1) ids3)]:=by unfold dblS; rw [if_pos h]; rfl
    have hca:=z5bn (A:=A) (a:=a) (f:=f) (n:=n) (d:=dblS t)
    rw [e2] at hca
    rw [e1,← hca]
    have hone:one 36 true (cX A a (f.dv 71 faC) (n.dv 39 fnC) (.sl true 1 1 [.str (zzh5 (t.adv 1) ids3)]))=some (.agg (cX A a (f.dv 71 faC) (n.dv 39 fnC) (.sl true 1 1 [.str (zzh5 (t.adv 1) ids3)]))):=by rw [hca]; exact zc3i
    have hst : ∀ H:List AObj,zy6o H 1 36 0 (.agg (cX A a (f.dv 71 faC) (n.dv 39 fnC) (.sl true 1 1 [.str (zzh5 (t.adv 1) ids3)]))) (some Z36)=some (.junk,H.set 1 (.cells (cX A a (f.dv 71 faC) (n.dv 39 fnC) (.sl true 1 1 [.str (zzh5 (t.adv 1) ids3)])))):=fun H=>by rw [hca]; exact zp1j (by simp [Z36])
    have hpu:zbao (cX A a (f.dv 71 faC) (n.dv 39 fnC) (.sl true 1 1 [.str (zzh5 (t.adv 1) ids3)]))=true:=by rw [hca]; exact zkih _
    have s2 : ∀ (H:List AObj),zy6o H 2 1 35 (.sl true 1 1 [.str (zzh5 (t.adv 1) ids3)]) (some (cX A a (f.dv 71 faC) (n.dv 39 fnC) .nils))=some (.junk,H.set 2 (.cells (cX A a (f.dv 71 faC) (n.dv 39 fnC) (.sl true 1 1 [.str (zzh5 (t.adv 1) ids3)])))):=fun H=>zrli rfl rfl
    simp (disch:=first|omega|(simp<;>omega)|fail) [-map_take,-map_drop,-map_set,-map_append,-drop_one,z7o3,a25,zcfv,zazt,zvf7,z33p,idsD,zqj0,z44h,z3oh,h,hfz,s2,hone,hst,zojd hpu]
  · have e1:dblA t=1:=if_neg h
    have e2:(dblS t).dv 1 stC = .nils:=by unfold dblS; rw [if_neg h]; rfl
    have hca:=z5bn (A:=A) (a:=a) (f:=f) (n:=n) (d:=dblS t)
    rw [e2] at hca
    rw [e1,← hca]
    have hone:one 36 true (cX A a (f.dv 71 faC) (n.dv 39 fnC) .nils)=some (.agg (cX A a (f.dv 71 faC) (n.dv 39 fnC) .nils)):=by rw [hca]; exact zc3i
    have hst : ∀ H:List AObj,zy6o H 1 36 0 (.agg (cX A a (f.dv 71 faC) (n.dv 39 fnC) .nils)) (some Z36)=some (.junk,H.set 1 (.cells (cX A a (f.dv 71 faC) (n.dv 39 fnC) .nils))):=fun H=>by rw [hca]; exact zp1j (by simp [Z36])
    have hpu:zbao (cX A a (f.dv 71 faC) (n.dv 39 fnC) .nils)=true:=by rw [hca]; exact zkih _
    simp (disch:=first|omega|(simp<;>omega)|fail) [-map_take,-map_drop,-map_set,-map_append,-drop_one,z7o3,a25,zcfv,z44h,h,hfz,hone,hst,zojd hpu]
end Go.Proofs.YtdnhbfmlklaldaaGreat
set_option linter.unusedSimpArgs false
set_option linter.unusedVariables false
namespace Go.Proofs.YtdnhbfmlklaldaaGreat
open Go Go.Am
def jV (K:Nat) {α:Type} (l:List α):DV:=if l=[] then .nils else .ms 3 (l.length*K) 0 K l.length (l.length*K)
def jH {α:Type} (f:α→List DV) (l:List α):List AObj:=if l=[] then [] else [.cells (fl f l)]
theorem zynj {K:Nat} {α:Type}:jV K ([]:List α) = .nils:=rfl
theorem za02 {α:Type} {f:α→List DV}:jH f ([]:List α)=[]:=rfl
theorem z38l {K:Nat} {α:Type} {l:List α} (h:l≠[]):jV K l = .ms 3 (l.length*K) 0 K l.length (l.length*K):=if_neg h
theorem zcp2 {α:Type} {f:α→List DV} {l:List α} (h:l≠[]):jH f l=[.cells (fl f l)]:=if_neg h
theorem z6qd {K:Nat} {α:Type} {l:List α} {x:α}:jV K (l++[x]) = .ms 3 ((l.length+1)*K) 0 K (l.length+1) ((l.length+1)*K):=by rw [z38l (by simp),List.length_append]; rfl
theorem zr5m {α:Type} {f:α→List DV} {l:List α} {x:α}:jH f (l++[x])=[.cells (fl f (l++[x]))]:=zcp2 (by simp)
structure CM (α:Type) where
  k:Nat
  t:Tp
  l:List α
def S681 (A:Dg) (a:Int) (f:Sl Fct) (s:CM Fnd):St:=znsc (.mp 0 2 0) (.mp 1 36 0) (.mp 2 36 0) (.int .i64 s.k) ([.cells (tpC s.t),.cells Z36,.cells (cX A a (f.dv 71 faC) (jV 39 s.l) .nils)]++jH fnC s.l)
theorem zza1 (t:Tp):zelo t≤9:=by unfold zelo; split<;>omega
theorem z9fk (t:Tp):zy0h t≤11:=by have:=(zbqu (t:=t)).1; unfold zy0h; omega
theorem z2r4 : ∀ (k:Nat) (t:Tp) (l:List Fnd),(z7td k t l).2.at_≤t.at_+9*k∧(z7td k t l).1.length=l.length+k
  | 0,t,l=>by simp [z7td]
  | k+1,t,l=>by
    have:=z2r4 k (t.adv (zelo t)) (l++[z8jt t])
    have:=zza1 t
    simp [z7td] at *; omega
theorem ztxo : ∀ (k:Nat) (t:Tp) (l:List Fct),(zqwi k t l).2.at_≤t.at_+11*k∧(zqwi k t l).1.length=l.length+k
  | 0,t,l=>by simp [zqwi]
  | k+1,t,l=>by
    have:=ztxo k (t.adv (zy0h t)) (l++[zdx2 t])
    have:=z9fk t
    simp [zqwi] at *; omega
set_option maxRecDepth 20000 in
theorem z919 (t:Tp) (A:Dg) (a:Int) (f:Sl Fct) (N:Nat) (hN:N≤1000) (ht:t.at_<2900000000):V P 1 zv0z (retF [.cell 6 36 true] (.agg (caC ⟨A,a,f,ownN (caR t N).1,dblS (caR t N).2⟩)) [.cells (tpC ((caR t N).2.adv (dblA (caR t N).2)))])
    ⟨[.mp 0 2 0,.junk,.int .i64 N,.junk,.junk,.junk,.mp 1 36 0,.mp 2 36 0]++js 46,[.cells (tpC t),.cells Z36,.cells (cX A a (f.dv 71 faC) .nils .nils)]⟩:=by
  have n1:=z4rs t (N+1)
  have n2:=z2s7 t (n:=N+1) (by omega)
  obtain ⟨M,hM⟩ : ∃ M:Nat,tpN t (N+1)=M:=⟨_,(Int.toNat_of_nonneg n1).symm⟩
  have hR0:caR t N=z7td M (t.adv 1) []:=by unfold caR; rw [hM,Int.toNat_natCast]
  obtain ⟨R,hR⟩ : ∃ R,caR t N=R:=⟨_,rfl⟩
  rw [hR]
  rw [hR0] at hR
  have hw:IntKind.i64.wrap ((N:Int)+1)=N+1:=by rw [IntKind.wrap_i64]; omega
  simp only [zv0z,a25]
  refine zbn1 (zbn1 (V_W mix zqws ?_))
  simp (disch:=first|omega|(simp<;>omega)|fail) [-map_take,-map_drop,-map_set,-map_append,-drop_one,zcfv,z44h,hw,hM]
  refine z3mo (ztbr (S681 A a f) (fun s=>s.k) (fun s=>z7td s.k s.t s.l=R∧s.t.at_+9*s.k<2900100000∧s.l.length+s.k≤2000) ⟨M,t.adv 1,[]⟩ (z515 (by simp (disch:=first|omega|(simp<;>omega)|fail) [-map_take,-map_drop,-map_set,-map_append,-drop_one,S681,znsc]) (by simp (disch:=first|omega|(simp<;>omega)|fail) [-map_take,-map_drop,-map_set,-map_append,-drop_one,S681,znsc,zynj,za02])) ⟨hR,by simp; omega,by simp; omega⟩ (fun s hs => ?_))
  obtain ⟨k,u,l⟩:=s
  obtain ⟨r1,r2,r3⟩:=hs
  simp only at r1 r2 r3
  simp only [S681]
  cases k with
  | zero =>
    have r1:(l,u)=R:=r1
    subst r1
    refine V_W mix zqws ?_
    by_cases e:l=[]
    · subst e
      have hnn:(ownN ([]:List Fnd)).dv 39 fnC = .nils:=rfl
      simp (disch:=first|omega|(simp<;>omega)|fail) [-map_take,-map_drop,-map_set,-map_append,-drop_one,zyoh,znsc,zynj,za02]
      refine zqfd (z515 ?_ ?_) (zu82 u A a f (ownN []) (by omega))
      · simp (disch:=first|omega|(simp<;>omega)|fail) [-map_take,-map_drop,-map_set,-map_append,-drop_one]
      · rw [hnn]
    · have hd:(ownN l).dv 39 fnC = .sl false 39 l.length (l.flatMap fnC):=zgr3 e (by omega)
      have q1:=z38l (K:=39) e
      have q2:=zcp2 (f:=fnC) e
      have hp:=zp6k zl9f l
      have hl:=z1rq z0o0 l
      have htk:(l.flatMap fnC).take (l.length*39)=l.flatMap fnC:=List.take_of_length_le (by omega)
      simp (disch:=first|omega|(simp<;>omega)|fail) [-map_take,-map_drop,-map_set,-map_append,-drop_one,zyoh,znsc,q1,q2]
      refine V_mk (fun id=>decide (id≤2)) ?_
      have hmk:=fun K H=>zrip (K:=K) (h:=H) (zs7w u)
      simp (disch:=first|omega|(simp<;>omega)|fail) [-map_take,-map_drop,-map_set,-map_append,-drop_one,zwlc,fl,hl,htk,hp,hmk]
      refine zqfd (zju2 (tail:=[.dead]) ?_ ?_ ?_ ?_ ?_) (zu82 u A a f (ownN l) (by omega))
      · simp (disch:=first|omega|(simp<;>omega)|fail) [-map_take,-map_drop,-map_set,-map_append,-drop_one]
      · rw [hd]; rfl
      · simp
      · simp (disch:=first|omega|(simp<;>omega)|fail) [-map_take,-map_drop,-map_set,-map_append,-drop_one,z1r6,Am.below]
      · rw [hd]
        have hc:zbao (cX A a (f.dv 71 faC) (.sl false 39 l.length (l.flatMap fnC)) .nils)=true:=by rw [zys9]; simp [zyp8,hp,zacf]
        simp (disch:=first|omega|(simp<;>omega)|fail) [-map_take,-map_drop,-map_set,-map_append,-drop_one,zlf2,zmq5 _ _ hc,zmq5 _ _ zi4l,zmq5 _ _ (zs7w _)]
  | succ k =>
    have r1:z7td k (u.adv (zelo u)) (l++[z8jt u])=R:=r1
    have hk:(0:Int)<((k+1:Nat):Int):=by omega
    have hk':0<k+1:=by omega
    have hfa:=zza1 u
    have hg:=zkde (g:=zocd) (n:=zelo) (t:=u) (by omega)
    obtain ⟨F,hF⟩ : ∃ F,z8jt u=F:=⟨_,rfl⟩
    have hgF:zocd u = .agg (fnC F):=by unfold zocd; rw [hF]
    rw [hgF] at hg
    rw [hF] at r1
    obtain ⟨v,hv⟩ : ∃ v,u.adv (zelo u)=v:=⟨_,rfl⟩
    have hva:v.at_=u.at_+zelo u:=by rw [← hv]; simp
    rw [hv] at hg r1
    refine V_W mix zqws ?_
    by_cases e:l=[]
    · subst e
      have hap:=zsuq (h:=[AObj.cells (tpC v),.cells Z36,.cells (cX A a (f.dv 71 faC) .nils .nils)]) (s:=39) (b:=128) (m:=1) (cs:=fnC F) (by decide) (by decide) (by rw [z0o0]) (by decide) (by decide)
      simp only [z0o0,List.length_cons,List.length_nil,Nat.zero_add] at hap
      have s1 : ∀ H:List AObj,zy6o H 2 1 34 (.ms 3 39 0 39 1 39) (some (cX A a (f.dv 71 faC) .nils .nils))=some (.junk,H.set 2 (.cells (cX A a (f.dv 71 faC) (.ms 3 39 0 39 1 39) .nils))):=fun H=>zgrq rfl rfl
      simp (disch:=first|omega|(simp<;>omega)|fail) [-map_take,-map_drop,-map_set,-map_append,-drop_one,zyoh,znsc,zynj,za02,hk,hk',zh59,hg,hap,s1]
      have e1:jV 39 [F] = .ms 3 39 0 39 1 39:=rfl
      have e2:jH fnC [F]=[.cells (fnC F)]:=by rw [zcp2 (by simp),z4hs]
      exact ⟨⟨k,v,[F]⟩,z515 (by simp (disch:=first|omega|(simp<;>omega)|fail) [-map_take,-map_drop,-map_set,-map_append,-drop_one,S681,znsc]) (by simp (disch:=first|omega|(simp<;>omega)|fail) [-map_take,-map_drop,-map_set,-map_append,-drop_one,S681,znsc,e1,e2]),by simp,r1,by simp only; omega,by simp at r3 ⊢; omega⟩
    · have q1:=z38l (K:=39) e
      have q2:=zcp2 (f:=fnC) e
      have hap:=zkg3 (h:=[AObj.cells (tpC v),.cells Z36,.cells (cX A a (f.dv 71 faC) (.ms 3 (l.length*39) 0 39 l.length (l.length*39)) .nils),.cells (fl fnC l)]) (id:=3) (b:=128) (l:=l) (x:=F) z0o0 (by decide) (by decide) (fun _=>z28w) (by omega) (by simp [objV,ziu0,z8lx z0o0])
      have s1 : ∀ H:List AObj,zy6o H 2 1 34 (.ms 3 ((l.length+1)*39) 0 39 (l.length+1) ((l.length+1)*39)) (some (cX A a (f.dv 71 faC) (.ms 3 (l.length*39) 0 39 l.length (l.length*39)) .nils))=some (.junk,H.set 2 (.cells (cX A a (f.dv 71 faC) (.ms 3 ((l.length+1)*39) 0 39 (l.length+1) ((l.length+1)*39)) .nils))):=fun H=>zgrq rfl rfl
      simp (disch:=first|omega|(simp<;>omega)|fail) [-map_take,-map_drop,-map_set,-map_append,-drop_one,zyoh,znsc,q1,q2,hk,hk',zh59,hg,hap,s1]
      have e1:=z6qd (K:=39) (l:=l) (x:=F)
      have e2:=zr5m (f:=fnC) (l:=l) (x:=F)
      exact ⟨⟨k,v,l++[F]⟩,z515 (by simp (disch:=first|omega|(simp<;>omega)|fail) [-map_take,-map_drop,-map_set,-map_append,-drop_one,S681,znsc]) (by simp (disch:=first|omega|(simp<;>omega)|fail) [-map_take,-map_drop,-map_set,-map_append,-drop_one,S681,znsc,e1,e2]),by simp,r1,by simp only; omega,by simp at r3 ⊢; omega⟩
def S680 (N:Nat) (A:Dg) (a:Int) (s:CM Fct):St:=z3xo (.mp 0 2 0) (.int .i64 N) (.mp 1 36 0) (.mp 2 36 0) (.int .i64 s.k) ([.cells (tpC s.t),.cells Z36,.cells (cX A a (jV 71 s.l) .nils .nils)]++jH faC s.l)
set_option maxRecDepth 20000 in
theorem zu54 (t:Tp) (F N:Nat) (hF:F≤1000) (hN:N≤1000) (ht:t.at_<2800000000):V P 1 a25.code (retF a25.res (.agg (caC (zhq6 t F N))) [.cells (tpC (zsjk t F N))]) ⟨zr5g a25.ntmps [.mp 0 2 0,.int .i64 F,.int .i64 N],[.cells (tpC t)]⟩:=by
  have n1:=z4rs (t.adv 2) (F+1)
  have n2:=z2s7 (t.adv 2) (n:=F+1) (by omega)
  obtain ⟨M,hM⟩ : ∃ M:Nat,tpN (t.adv 2) (F+1)=M:=⟨_,(Int.toNat_of_nonneg n1).symm⟩
  have hR0:caP t F=zqwi M (t.adv 3) []:=by unfold caP; rw [hM,Int.toNat_natCast]
  have hat:=ztxo M (t.adv 3) []
  unfold zhq6 zsjk
  obtain ⟨R,hR⟩ : ∃ R,caP t F=R:=⟨_,rfl⟩
  rw [hR]
  rw [hR0] at hR
  rw [hR] at hat
  have hw:IntKind.i64.wrap ((F:Int)+1)=F+1:=by rw [IntKind.wrap_i64]; omega
  have hsum:sumV t=dgW (BitVec.ofInt 8 (1+tpN t 6)):=rfl
  have hbd:=zykt (A:=BitVec.ofInt 8 (1+tpN t 6)) (a:=tpN (t.adv 1) 40)
  rw [← hsum] at hbd
  obtain ⟨A,hA⟩ : ∃ A,sumV t=A:=⟨_,rfl⟩
  obtain ⟨a,ha⟩ : ∃ a,tpN (t.adv 1) 40=a:=⟨_,rfl⟩
  have hsm:=zliq (t:=t) (by omega)
  rw [hA] at hbd hsm ⊢
  rw [ha] at hbd ⊢
  have hcl : ∀ H:List AObj,zy6o H 2 36 0 (.agg (cX A a .nils .nils .nils)) (some [w8 0#8,w8 0#8,w8 0#8,w8 0#8,w8 0#8,w8 0#8,w8 0#8,w8 0#8,w8 0#8,w8 0#8,w8 0#8,w8 0#8,w8 0#8,w8 0#8,w8 0#8,w8 0#8,w8 0#8,w8 0#8,w8 0#8,w8 0#8,w8 0#8,w8 0#8,w8 0#8,w8 0#8,w8 0#8,w8 0#8,w8 0#8,w8 0#8,w8 0#8,w8 0#8,w8 0#8,w8 0#8,.int .i64 0,.nils,.nils,.nils])=some (.junk,H.set 2 (.cells (cX A a .nils .nils .nils))):=fun H=>zfc1 zb0y rfl (by simp [cX,zoxk,zzmf,DV.one])
  refine zbn1 (V_W mix zqws ?_)
  simp (disch:=first|omega|(simp<;>omega)|fail) [-map_take,-map_drop,-map_set,-map_append,-drop_one,a25]
  refine zbn1 (V_W mix zqws ?_)
  simp (disch:=first|omega|(simp<;>omega)|fail) [-map_take,-map_drop,-map_set,-map_append,-drop_one,zcfv,zrcp,hsm,z44h,z3oh,ha,hbd,hcl]
  refine zbn1 (zbn1 (V_W mix zqws ?_))
  simp (disch:=first|omega|(simp<;>omega)|fail) [-map_take,-map_drop,-map_set,-map_append,-drop_one,zcfv,z44h,hw,hM]
  refine z3mo (ztbr (S680 N A a) (fun s=>s.k) (fun s=>zqwi s.k s.t s.l=R∧s.t.at_+11*s.k<2800100000∧s.l.length+s.k≤2000) ⟨M,t.adv 3,[]⟩ (z515 (by simp (disch:=first|omega|(simp<;>omega)|fail) [-map_take,-map_drop,-map_set,-map_append,-drop_one,S680,z3xo]) (by simp (disch:=first|omega|(simp<;>omega)|fail) [-map_take,-map_drop,-map_set,-map_append,-drop_one,S680,z3xo,zynj,za02,Z36,z3oh])) ⟨hR,by simp; omega,by simp; omega⟩ (fun s hs => ?_))
  obtain ⟨k,u,l⟩:=s
  obtain ⟨r1,r2,r3⟩:=hs
  simp only at r1 r2 r3
  simp only [S680]
  cases k with
  | zero =>
    have r1:(l,u)=R:=r1
    subst r1
    have c2:=z919 u A a (ownN l) N hN (by omega)
    simp only [zv0z,a25] at c2
    refine V_W mix zqws ?_
    by_cases e:l=[]
    · subst e
      have hnn:(ownN ([]:List Fct)).dv 71 faC = .nils:=rfl
      simp (disch:=first|omega|(simp<;>omega)|fail) [-map_take,-map_drop,-map_set,-map_append,-drop_one,zr8m,z3xo,zynj,za02]
      refine zqfd (z515 ?_ ?_) c2
      · simp (disch:=first|omega|(simp<;>omega)|fail) [-map_take,-map_drop,-map_set,-map_append,-drop_one]
      · rw [hnn]
    · have hd:(ownN l).dv 71 faC = .sl false 71 l.length (l.flatMap faC):=zgr3 e (by omega)
      have q1:=z38l (K:=71) e
      have q2:=zcp2 (f:=faC) e
      have hp:=zp6k z93p l
      have hl:=z1rq zs77 l
      have htk:(l.flatMap faC).take (l.length*71)=l.flatMap faC:=List.take_of_length_le (by omega)
      simp (disch:=first|omega|(simp<;>omega)|fail) [-map_take,-map_drop,-map_set,-map_append,-drop_one,zr8m,z3xo,q1,q2]
      refine V_mk (fun id=>decide (id≤2)) ?_
      have hmk:=fun K H=>zrip (K:=K) (h:=H) (zs7w u)
      simp (disch:=first|omega|(simp<;>omega)|fail) [-map_take,-map_drop,-map_set,-map_append,-drop_one,zwlc,fl,hl,htk,hp,hmk]
      refine zqfd (zju2 (tail:=[.dead]) ?_ ?_ ?_ ?_ ?_) c2
      · simp (disch:=first|omega|(simp<;>omega)|fail) [-map_take,-map_drop,-map_set,-map_append,-drop_one]
      · rw [hd]; rfl
      · simp
      · simp (disch:=first|omega|(simp<;>omega)|fail) [-map_take,-map_drop,-map_set,-map_append,-drop_one,z1r6,Am.below]
      · rw [hd]
        have hc:zbao (cX A a (.sl false 71 l.length (l.flatMap faC)) .nils .nils)=true:=by rw [zys9]; simp [zyp8,hp]
        simp (disch:=first|omega|(simp<;>omega)|fail) [-map_take,-map_drop,-map_set,-map_append,-drop_one,zlf2,zmq5 _ _ hc,zmq5 _ _ zi4l,zmq5 _ _ (zs7w _)]
  | succ k =>
    have r1:zqwi k (u.adv (zy0h u)) (l++[zdx2 u])=R:=r1
    have hk:(0:Int)<((k+1:Nat):Int):=by omega
    have hk':0<k+1:=by omega
    have hfa:=z9fk u
    have hg:=zkde (g:=zpqb) (n:=zy0h) (t:=u) (by omega)
    obtain ⟨F,hF⟩ : ∃ F,zdx2 u=F:=⟨_,rfl⟩
    have hgF:zpqb u = .agg (faC F):=by unfold zpqb; rw [hF]
    rw [hgF] at hg
    rw [hF] at r1
    obtain ⟨v,hv⟩ : ∃ v,u.adv (zy0h u)=v:=⟨_,rfl⟩
    have hva:v.at_=u.at_+zy0h u:=by rw [← hv]; simp
    rw [hv] at hg r1
    refine V_W mix zqws ?_
    by_cases e:l=[]
    · subst e
      have hap:=zsuq (h:=[AObj.cells (tpC v),.cells Z36,.cells (cX A a .nils .nils .nils)]) (s:=71) (b:=160) (m:=1) (cs:=faC F) (by decide) (by decide) (by rw [zs77]) (by decide) (by decide)
      simp only [zs77,List.length_cons,List.length_nil,Nat.zero_add] at hap
      have s1 : ∀ H:List AObj,zy6o H 2 1 33 (.ms 3 71 0 71 1 71) (some (cX A a .nils .nils .nils))=some (.junk,H.set 2 (.cells (cX A a (.ms 3 71 0 71 1 71) .nils .nils))):=fun H=>ztie rfl rfl
      simp (disch:=first|omega|(simp<;>omega)|fail) [-map_take,-map_drop,-map_set,-map_append,-drop_one,zr8m,z3xo,zynj,za02,hk,hk',zmug,hg,hap,s1]
      have e1:jV 71 [F] = .ms 3 71 0 71 1 71:=rfl
      have e2:jH faC [F]=[.cells (faC F)]:=by rw [zcp2 (by simp),z4hs]
      exact ⟨⟨k,v,[F]⟩,z515 (by simp (disch:=first|omega|(simp<;>omega)|fail) [-map_take,-map_drop,-map_set,-map_append,-drop_one,S680,z3xo]) (by simp (disch:=first|omega|(simp<;>omega)|fail) [-map_take,-map_drop,-map_set,-map_append,-drop_one,S680,z3xo,e1,e2]),by simp,r1,by simp only; omega,by simp at r3 ⊢; omega⟩
    · have q1:=z38l (K:=71) e
      have q2:=zcp2 (f:=faC) e
      have hap:=zkg3 (h:=[AObj.cells (tpC v),.cells Z36,.cells (cX A a (.ms 3 (l.length*71) 0 71 l.length (l.length*71)) .nils .nils),.cells (fl faC l)]) (id:=3) (b:=160) (l:=l) (x:=F) zs77 (by decide) (by decide) (fun _=>zfgo) (by omega) (by simp [objV,ziu0,z8lx zs77])
      have s1 : ∀ H:List AObj,zy6o H 2 1 33 (.ms 3 ((l.length+1)*71) 0 71 (l.length+1) ((l.length+1)*71)) (some (cX A a (.ms 3 (l.length*71) 0 71 l.length (l.length*71)) .nils .nils))=some (.junk,H.set 2 (.cells (cX A a (.ms 3 ((l.length+1)*71) 0 71 (l.length+1) ((l.length+1)*71)) .nils .nils))):=fun H=>ztie rfl rfl
      simp (disch:=first|omega|(simp<;>omega)|fail) [-map_take,-map_drop,-map_set,-map_append,-drop_one,zr8m,z3xo,q1,q2,hk,hk',zmug,hg,hap,s1]
      have e1:=z6qd (K:=71) (l:=l) (x:=F)
      have e2:=zr5m (f:=faC) (l:=l) (x:=F)
      exact ⟨⟨k,v,l++[F]⟩,z515 (by simp (disch:=first|omega|(simp<;>omega)|fail) [-map_take,-map_drop,-map_set,-map_append,-drop_one,S680,z3xo]) (by simp (disch:=first|omega|(simp<;>omega)|fail) [-map_take,-map_drop,-map_set,-map_append,-drop_one,S680,z3xo,e1,e2]),by simp,r1,by simp only; omega,by simp at r3 ⊢; omega⟩
noncomputable def znvy:List DV→List DV→Option (DV × List DV):=conT (fun a:Tp × Nat × Nat=>a.1.at_<2800000000∧a.2.1≤1000∧a.2.2≤1000) (fun a=>[.int .i64 a.2.1,.int .i64 a.2.2]) (fun a=>tpC a.1) (fun a=>(.agg (caC (zhq6 a.1 a.2.1 a.2.2)),tpC (zsjk a.1 a.2.1 a.2.2)))
theorem z5bc {t:Tp} {F N:Nat} (h:t.at_<2800000000) (h1:F≤1000) (h2:N≤1000):znvy [.int .i64 F,.int .i64 N] (tpC t)=some (.agg (caC (zhq6 t F N)),tpC (zsjk t F N)) :=
  ztyo (A:=fun a:Tp × Nat × Nat=>a.1.at_<2800000000∧a.2.1≤1000∧a.2.2≤1000) (f:=fun a=>[.int .i64 a.2.1,.int .i64 a.2.2]) (s:=fun a=>tpC a.1) (g:=fun a=>(.agg (caC (zhq6 a.1 a.2.1 a.2.2)),tpC (zsjk a.1 a.2.1 a.2.2))) (by
    rintro ⟨a,b,c⟩ ⟨a',b',c'⟩ e1 e2
    simp only [List.cons.injEq,DV.int.injEq,true_and,and_true,Int.natCast_inj] at e1
    rw [e1.1,e1.2,z15z e2]) (t,F,N) ⟨h,h1,h2⟩
theorem zpy7:(Con.tch znvy).Sound P 25:=zqeo (fun a _=>⟨by simp [zbao,zyp8],zs7w _,zkih _,zs7w _⟩) fun a h=>zf6m Tryz.func25 zgum (zu54 a.1 a.2.1 a.2.2 h.2.1 h.2.2 h.1) (Nat.le_refl _)
end Go.Proofs.YtdnhbfmlklaldaaGreat
set_option linter.unusedSimpArgs false
set_option linter.unusedVariables false
namespace Go.Proofs.YtdnhbfmlklaldaaGreat
open Go Go.Am
def dH (c:Cas) (l:List Dg):List AObj := .cells (caC c)::(if l=[] then [] else [.cells (fl dgC l)])
def dT (l:List Dg):List AObj:=if l=[] then [] else [.cells (fl dgC l)]
theorem dH_c {c:Cas} {l:List Dg}:dH c l = .cells (caC c)::dT l:=rfl
theorem z7h4 {c:Cas} {l:List Dg} (h:l≠[]):dH c l=[.cells (caC c),.cells (fl dgC l)]:=by rw [dH,if_neg h]
def dcF (l:List Fct):List Dg:=l.flatMap (·.docs.l)
def dcN (l:List Fnd):List Dg:=l.flatMap (·.dd.l)
theorem zbds {l:List Fct} {i:Nat} (h:i<l.length):dcF (l.take (i+1))=dcF (l.take i)++l[i].docs.l:=by
  rw [List.take_succ_eq_append_getElem h,dcF,List.flatMap_append,← dcF]; simp
theorem zfd5 {l:List Fnd} {i:Nat} (h:i<l.length):dcN (l.take (i+1))=dcN (l.take i)++l[i].dd.l:=by
  rw [List.take_succ_eq_append_getElem h,dcN,List.flatMap_append,← dcN]; simp
structure DcOK (c:Cas):Prop where
  f:c.f.l.length≤1000
  d : ∀ f ∈ c.f.l,f.docs.l.length≤1000
  n:c.n.l.length≤1000
  m : ∀ f ∈ c.n.l,f.dd.l.length≤1000
def S690 (c:Cas) (i:Nat):St:=zuuu (.mp 0 36 0) (aV (dcF (c.f.l.take i))) (.int .i64 i) (dH c (dcF (c.f.l.take i)))
def S691 (c:Cas) (i:Nat):St:=ze0j (.mp 0 36 0) (aV (dcF c.f.l++dcN (c.n.l.take i))) (.int .i64 i) (dH c (dcF c.f.l++dcN (c.n.l.take i)))
theorem zv2m {l:List Fct} {i:Nat} (h1:l.length≤1000) (h2 : ∀ f ∈ l,f.docs.l.length≤1000):(dcF (l.take i)).length≤1000000:=by
  have:=zqok (f:=fun f:Fct=>f.docs.l) (m:=1000) (l:=l.take i) fun f hf=>h2 f (List.mem_of_mem_take hf)
  have h3:(l.take i).length*1000≤1000*1000:=Nat.mul_le_mul_right _ (by rw [List.length_take]; omega)
  unfold dcF; omega
theorem z6hw {l:List Fnd} {i:Nat} (h1:l.length≤1000) (h2 : ∀ f ∈ l,f.dd.l.length≤1000):(dcN (l.take i)).length≤1000000:=by
  have:=zqok (f:=fun f:Fnd=>f.dd.l) (m:=1000) (l:=l.take i) fun f hf=>h2 f (List.mem_of_mem_take hf)
  have h3:(l.take i).length*1000≤1000*1000:=Nat.mul_le_mul_right _ (by rw [List.length_take]; omega)
  unfold dcN; omega
set_option maxRecDepth 20000 in
theorem z7tx (c:Cas) (ok:DcOK c):Runs tbl0 a28 [.agg (caC c)] ((ownN (zxma c)).dv 32 dgC):=by
  refine ⟨?_⟩
  have kf:=ok.f
  have kn:=ok.n
  simp (disch:=first|omega|(simp<;>omega)|fail) [-map_take,-map_drop,-map_set,-map_append,-drop_one,a28]
  refine zlm5 (S690 c) (fun i=>c.f.l.length-i) (fun i=>i≤c.f.l.length) 0 (z515 (by simp (disch:=first|omega|(simp<;>omega)|fail) [-map_take,-map_drop,-map_set,-map_append,-drop_one,S690,zuuu,dcF,aV]) (by simp (disch:=first|omega|(simp<;>omega)|fail) [-map_take,-map_drop,-map_set,-map_append,-drop_one,S690,zuuu,dcF,dH])) (by simp) (fun i hi => ?_)
  simp only [S690]
  have hlen:=zv2m (i:=i) ok.f ok.d
  have hN:=fun j=>z6hw (i:=j) ok.n ok.m
  obtain ⟨L,hL⟩ : ∃ L,dcF (c.f.l.take i)=L:=⟨_,rfl⟩
  by_cases h:i<c.f.l.length
  · have h':(i:Int)<c.f.l.length:=by omega
    have hg : ∀ H,zpsc H 71 (c.f.dv 71 faC) i=some (.ref (faC c.f.l[i])):=fun H=>zalo zs77 h
    have hs:=zbds h
    have hdd:=ok.d c.f.l[i] (List.getElem_mem h)
    obtain ⟨F,hF⟩ : ∃ F,c.f.l[i]=F:=⟨_,rfl⟩
    rw [hF] at hg hs hdd
    rw [hL] at hs hlen ⊢
    have hv : ∀ H,visY H (F.docs.dv 32 dgC)=some (F.docs.l.length,F.docs.l.flatMap dgC):=fun H=>zwaa z1t1
    by_cases e:L=[]
    · have q1:aV L = .nils:=by rw [e]; rfl
      have q2:dH c L=[.cells (caC c)]:=by rw [e]; rfl
      rw [e,List.nil_append] at hs
      by_cases e2:F.docs.l=[]
      · have hap:=zw6v (h:=[AObj.cells (caC c)]) (s:=32) (b:=32) (by decide) (by decide)
        have hv2 : ∀ H,visY H (F.docs.dv 32 dgC)=some (0,[]):=fun H=>by rw [hv,e2]; rfl
        rw [e2] at hs
        have e3:aV ([]:List Dg) = .nils:=rfl
        have e4:dH c []=[.cells (caC c)]:=rfl
        simp (disch:=first|omega|(simp<;>omega)|fail) [-map_take,-map_drop,-map_set,-map_append,-drop_one,zkwz,zuuu,h,h',hg,q1,q2,hv2,hap]
        exact ⟨i+1,z515 (by simp (disch:=first|omega|(simp<;>omega)|fail) [-map_take,-map_drop,-map_set,-map_append,-drop_one,S690,zuuu,hs,e3]) (by simp (disch:=first|omega|(simp<;>omega)|fail) [-map_take,-map_drop,-map_set,-map_append,-drop_one,S690,zuuu,hs,e4]),by omega,by omega⟩
      · have hpos:0<F.docs.l.length:=List.length_pos_iff.2 e2
        have hcl:(F.docs.l.flatMap dgC).length=F.docs.l.length*32:=z1rq z1t1 _
        have hap:=zsuq (h:=[AObj.cells (caC c)]) (s:=32) (b:=32) (m:=F.docs.l.length) (cs:=F.docs.l.flatMap dgC) (by decide) (by decide) hcl.symm hpos (by omega)
        rw [hcl] at hap
        have e3:=zdzw e2
        have e4:=z7h4 (c:=c) e2
        have e5:fl dgC F.docs.l=F.docs.l.flatMap dgC:=rfl
        simp only [List.length_cons,List.length_nil,Nat.zero_add] at hap
        simp (disch:=first|omega|(simp<;>omega)|fail) [-map_take,-map_drop,-map_set,-map_append,-drop_one,zkwz,zuuu,h,h',hg,q1,q2,hv,hap]
        exact ⟨i+1,z515 (by simp (disch:=first|omega|(simp<;>omega)|fail) [-map_take,-map_drop,-map_set,-map_append,-drop_one,S690,zuuu,hs,e3]) (by simp (disch:=first|omega|(simp<;>omega)|fail) [-map_take,-map_drop,-map_set,-map_append,-drop_one,S690,zuuu,hs,e4,e5]),by omega,by omega⟩
    · have hap:=zvrp (h:=[AObj.cells (caC c),.cells (fl dgC L)]) (id:=1) (b:=32) (l:=L) (m:=F.docs.l.length) (cs:=F.docs.l) z1t1 (by decide) (by decide) (fun _=>zoxk) rfl (by omega) (by simp [objV,ziu0,z8lx z1t1])
      have q1:=zdzw e
      have q2:=z7h4 (c:=c) e
      have e0:L++F.docs.l≠[]:=by simp [e]
      have e3:=zdzw e0
      have e4:=z7h4 (c:=c) e0
      rw [List.length_append] at e3
      simp (disch:=first|omega|(simp<;>omega)|fail) [-map_take,-map_drop,-map_set,-map_append,-drop_one,zkwz,zuuu,h,h',hg,q1,q2,hv,hap]
      exact ⟨i+1,z515 (by simp (disch:=first|omega|(simp<;>omega)|fail) [-map_take,-map_drop,-map_set,-map_append,-drop_one,S690,zuuu,hs,e3]) (by simp (disch:=first|omega|(simp<;>omega)|fail) [-map_take,-map_drop,-map_set,-map_append,-drop_one,S690,zuuu,hs,e4]),by omega,by omega⟩
  have h':¬ (i:Int)<c.f.l.length:=by omega
  have ht:c.f.l.take i=c.f.l:=List.take_of_length_le (by omega)
  rw [ht] at hL hlen ⊢
  have h0:dcF c.f.l++dcN []=L:=by rw [hL]; simp [dcN]
  rw [hL]
  rw [hL] at hlen
  simp (disch:=first|omega|(simp<;>omega)|fail) [-map_take,-map_drop,-map_set,-map_append,-drop_one,zkwz,zuuu,h,h',dH_c]
  refine zlm5 (S691 c) (fun i=>c.n.l.length-i) (fun i=>i≤c.n.l.length) 0 (z515 (by simp (disch:=first|omega|(simp<;>omega)|fail) [-map_take,-map_drop,-map_set,-map_append,-drop_one,S691,ze0j,h0]) (by simp (disch:=first|omega|(simp<;>omega)|fail) [-map_take,-map_drop,-map_set,-map_append,-drop_one,S691,ze0j,h0,dH_c])) (by simp) (fun j hj => ?_)
  simp only [S691]
  have hlen0:=hlen
  have hlen:(dcF c.f.l++dcN (c.n.l.take j)).length≤2000000:=by rw [List.length_append,hL]; have:=hN j; omega
  clear h0 hlen0
  obtain ⟨L0,hL0⟩ : ∃ L0,dcF c.f.l=L0:=⟨_,rfl⟩
  have hsn : ∀ (h:j<c.n.l.length),dcF c.f.l++dcN (c.n.l.take (j+1))=(dcF c.f.l++dcN (c.n.l.take j))++c.n.l[j].dd.l:=fun h=>by rw [zfd5 h,List.append_assoc]
  clear hL hL0
  obtain ⟨L,hL⟩ : ∃ L,dcF c.f.l++dcN (c.n.l.take j)=L:=⟨_,rfl⟩
  clear h h'
  by_cases h:j<c.n.l.length
  · have h':(j:Int)<c.n.l.length:=by omega
    have hg : ∀ H,zpsc H 39 (c.n.dv 39 fnC) j=some (.ref (fnC c.n.l[j])):=fun H=>zalo z0o0 h
    have hs:=hsn h
    have hdd:=ok.m c.n.l[j] (List.getElem_mem h)
    obtain ⟨F,hF⟩ : ∃ F,c.n.l[j]=F:=⟨_,rfl⟩
    rw [hF] at hg hs hdd
    rw [hL] at hs hlen ⊢
    have hv : ∀ H,visY H (F.dd.dv 32 dgC)=some (F.dd.l.length,F.dd.l.flatMap dgC):=fun H=>zwaa z1t1
    by_cases e:L=[]
    · have q1:aV L = .nils:=by rw [e]; rfl
      have q2:dH c L=[.cells (caC c)]:=by rw [e]; rfl
      rw [e,List.nil_append] at hs
      by_cases e2:F.dd.l=[]
      · have hap:=zw6v (h:=[AObj.cells (caC c)]) (s:=32) (b:=32) (by decide) (by decide)
        have hv2 : ∀ H,visY H (F.dd.dv 32 dgC)=some (0,[]):=fun H=>by rw [hv,e2]; rfl
        rw [e2] at hs
        have e3:aV ([]:List Dg) = .nils:=rfl
        have e4:dH c []=[.cells (caC c)]:=rfl
        simp (disch:=first|omega|(simp<;>omega)|fail) [-map_take,-map_drop,-map_set,-map_append,-drop_one,z5ho,ze0j,h,h',hg,q1,q2,hv2,hap]
        exact ⟨j+1,z515 (by simp (disch:=first|omega|(simp<;>omega)|fail) [-map_take,-map_drop,-map_set,-map_append,-drop_one,S691,ze0j,hs,e3]) (by simp (disch:=first|omega|(simp<;>omega)|fail) [-map_take,-map_drop,-map_set,-map_append,-drop_one,S691,ze0j,hs,e4]),by omega,by omega⟩
      · have hpos:0<F.dd.l.length:=List.length_pos_iff.2 e2
        have hcl:(F.dd.l.flatMap dgC).length=F.dd.l.length*32:=z1rq z1t1 _
        have hap:=zsuq (h:=[AObj.cells (caC c)]) (s:=32) (b:=32) (m:=F.dd.l.length) (cs:=F.dd.l.flatMap dgC) (by decide) (by decide) hcl.symm hpos (by omega)
        rw [hcl] at hap
        have e3:=zdzw e2
        have e4:=z7h4 (c:=c) e2
        have e5:fl dgC F.dd.l=F.dd.l.flatMap dgC:=rfl
        simp only [List.length_cons,List.length_nil,Nat.zero_add] at hap
        simp (disch:=first|omega|(simp<;>omega)|fail) [-map_take,-map_drop,-map_set,-map_append,-drop_one,z5ho,ze0j,h,h',hg,q1,q2,hv,hap]
        exact ⟨j+1,z515 (by simp (disch:=first|omega|(simp<;>omega)|fail) [-map_take,-map_drop,-map_set,-map_append,-drop_one,S691,ze0j,hs,e3]) (by simp (disch:=first|omega|(simp<;>omega)|fail) [-map_take,-map_drop,-map_set,-map_append,-drop_one,S691,ze0j,hs,e4,e5]),by omega,by omega⟩
    · have hap:=zvrp (h:=[AObj.cells (caC c),.cells (fl dgC L)]) (id:=1) (b:=32) (l:=L) (m:=F.dd.l.length) (cs:=F.dd.l) z1t1 (by decide) (by decide) (fun _=>zoxk) rfl (by omega) (by simp [objV,ziu0,z8lx z1t1])
      have q1:=zdzw e
      have q2:=z7h4 (c:=c) e
      have e0:L++F.dd.l≠[]:=by simp [e]
      have e3:=zdzw e0
      have e4:=z7h4 (c:=c) e0
      rw [List.length_append] at e3
      simp (disch:=first|omega|(simp<;>omega)|fail) [-map_take,-map_drop,-map_set,-map_append,-drop_one,z5ho,ze0j,h,h',hg,q1,q2,hv,hap]
      exact ⟨j+1,z515 (by simp (disch:=first|omega|(simp<;>omega)|fail) [-map_take,-map_drop,-map_set,-map_append,-drop_one,S691,ze0j,hs,e3]) (by simp (disch:=first|omega|(simp<;>omega)|fail) [-map_take,-map_drop,-map_set,-map_append,-drop_one,S691,ze0j,hs,e4]),by omega,by omega⟩
  have h':¬ (j:Int)<c.n.l.length:=by omega
  have ht2:c.n.l.take j=c.n.l:=List.take_of_length_le (by omega)
  rw [ht2] at hL hlen ⊢
  have hfd:zxma c=L:=hL
  rw [hfd]
  rw [hL] at hlen ⊢
  by_cases e:L=[]
  · have q1:aV L = .nils:=by rw [e]; rfl
    have q2:dH c L=[.cells (caC c)]:=by rw [e]; rfl
    have q3:(ownN L).dv 32 dgC = .nils:=by rw [e]; rfl
    simp (disch:=first|omega|(simp<;>omega)|fail) [-map_take,-map_drop,-map_set,-map_append,-drop_one,z5ho,ze0j,h,h',q1,q2,q3]
  · have q1:=zdzw e
    have q2:=z7h4 (c:=c) e
    have q3:(ownN L).dv 32 dgC = .sl false 32 L.length (L.flatMap dgC):=zgr3 e (by omega)
    have hp:=zp6k z3ot L
    have hl:=z1rq z1t1 L
    have htk:(L.flatMap dgC).take (L.length*32)=L.flatMap dgC:=List.take_of_length_le (by omega)
    have hsn : ∀ H j,z4tt H j (L.flatMap dgC)=some (L.flatMap dgC):=fun H j=>z619 hp
    simp (disch:=first|omega|(simp<;>omega)|fail) [-map_take,-map_drop,-map_set,-map_append,-drop_one,z5ho,ze0j,h,h',q1,q2,q3,fl,hl,htk,hsn]
noncomputable def zqc4:List DV→Option DV:=con DcOK (fun c:Cas=>[.agg (caC c)]) (fun c=>(ownN (zxma c)).dv 32 dgC)
theorem zkt3 {c:Cas} (h:DcOK c):zqc4 [.agg (caC c)]=some ((ownN (zxma c)).dv 32 dgC) :=
  zlyi (A:=DcOK) (f:=fun c:Cas=>[.agg (caC c)]) (g:=fun c=>(ownN (zxma c)).dv 32 dgC) (fun a b e=>by simp only [List.cons.injEq,DV.agg.injEq,and_true] at e; rw [zejx e]) c h
theorem z48p:(Con.pure zqc4).Sound P 28:=z2au fun c h=>zljw mix zr5o Tryz.func28 z43f (z7tx c h)
theorem z2o9 {c:Cas} (s:CaSm c):DcOK c:=⟨by have:=s.f; omega,fun f hf=>by have:=s.d f hf; omega,by have:=s.n; omega,fun f hf=>by have:=s.m f hf; omega⟩
theorem z2d9 {c:Cas} (s:CaSm c):(zxma c).length≤32:=by
  have h1:=zqok (f:=fun f:Fct=>f.docs.l) (m:=2) (l:=c.f.l) s.d
  have h2:=zqok (f:=fun f:Fnd=>f.dd.l) (m:=1) (l:=c.n.l) s.m
  have:=s.f
  have:=s.n
  simp only [zxma,List.length_append]; omega
theorem zpdu : ∀ (k:Nat) (t:Tp) (x:Sl Dg),x.l.length+k≤1000→(znld k t x).l.length≤x.l.length+k
  | 0,t,x,_=>Nat.le_refl _
  | k+1,t,x,h=>by
    have h1:=zfdk (x:=x) (d:=dgB (10+tpN t 12)) (by omega)
    have:=zpdu k (t.adv 1) (addF x (dgB (10+tpN t 12))) (by omega)
    unfold znld; omega
theorem zf2u (t:Tp):(zdx2 t).docs.l.length≤2:=by
  have h:=zbqu (t:=t)
  have:=zpdu (zfp1 t) (t.adv 9) nilS (by simp [zb11]; omega)
  simp only [zb11,List.length_nil] at this
  show (znld (zfp1 t) (t.adv 9) nilS).l.length≤2
  omega
theorem zi9x (t:Tp):(z8jt t).dd.l.length≤1:=by
  unfold z8jt; simp only
  split
  · simp [mkD]
  · simp [zb11]
theorem zpk6 : ∀ (k:Nat) (t:Tp) (l:List Fct),(∀ f ∈ l,f.docs.l.length≤2) → ∀ f ∈ (zqwi k t l).1,f.docs.l.length≤2
  | 0,t,l,h=>h
  | k+1,t,l,h=>zpk6 k _ _ fun f hf=>by
    rcases List.mem_append.1 hf with q|q
    · exact h f q
    · simp at q; rw [q]; exact zf2u t
theorem zjeb : ∀ (k:Nat) (t:Tp) (l:List Fnd),(∀ f ∈ l,f.dd.l.length≤1) → ∀ f ∈ (z7td k t l).1,f.dd.l.length≤1
  | 0,t,l,h=>h
  | k+1,t,l,h=>zjeb k _ _ fun f hf=>by
    rcases List.mem_append.1 hf with q|q
    · exact h f q
    · simp at q; rw [q]; exact zi9x t
theorem za99 (t:Tp) (F:Nat):(caP t F).1.length≤F:=by
  have n1:=z4rs (t.adv 2) (F+1)
  have n2:=z2s7 (t.adv 2) (n:=F+1) (by omega)
  have:=(ztxo (tpN (t.adv 2) (F+1)).toNat (t.adv 3) []).2
  simp only [List.length_nil] at this
  unfold caP; omega
theorem z3no (t:Tp) (N:Nat):(caR t N).1.length≤N:=by
  have n1:=z4rs t (N+1)
  have n2:=z2s7 t (n:=N+1) (by omega)
  have:=(z2r4 (tpN t (N+1)).toNat (t.adv 1) []).2
  simp only [List.length_nil] at this
  unfold caR; omega
theorem z9e1 {t:Tp} {F N:Nat} (hF:F≤12) (hN:N≤8):CaSm (zhq6 t F N):=by
  have h1:=za99 t F
  have h2:=z3no (caP t F).2 N
  have e1:(zhq6 t F N).f.l=(caP t F).1:=zd8n (by omega)
  have e2:(zhq6 t F N).n.l=(caR (caP t F).2 N).1:=zd8n (by omega)
  refine ⟨by rw [e1]; omega,?_,by rw [e2]; omega,?_,?_⟩
  · rw [e1]; exact zpk6 _ _ _ (by simp)
  · rw [e2]; exact zjeb _ _ _ (by simp)
  · show (dblS _).l.length≤1
    unfold dblS; split
    · simp
    · simp [zb11]
theorem zpit {t:Tp} {F N:Nat}:(zsjk t F N).at_≤t.at_+11*F+9*N+100:=by
  have n1:=z4rs (t.adv 2) (F+1)
  have n2:=z2s7 (t.adv 2) (n:=F+1) (by omega)
  have h1:=(ztxo (tpN (t.adv 2) (F+1)).toNat (t.adv 3) []).1
  have m1:=z4rs (caP t F).2 (N+1)
  have m2:=z2s7 (caP t F).2 (n:=N+1) (by omega)
  have h2:=(z2r4 (tpN (caP t F).2 (N+1)).toNat ((caP t F).2.adv 1) []).1
  have h3:(caP t F).2.at_≤t.at_+3+11*F:=by
    have:(caP t F).2.at_=(zqwi (tpN (t.adv 2) (F+1)).toNat (t.adv 3) []).2.at_:=rfl
    simp only [zpza] at h1
    have:(tpN (t.adv 2) (F+1)).toNat≤F:=by omega
    omega
  have h4:(caR (caP t F).2 N).2.at_≤(caP t F).2.at_+1+9*N:=by
    have:(caR (caP t F).2 N).2.at_=(z7td (tpN (caP t F).2 (N+1)).toNat ((caP t F).2.adv 1) []).2.at_:=rfl
    simp only [zpza] at h2
    have:(tpN (caP t F).2 (N+1)).toNat≤N:=by omega
    omega
  have h5:dblA (caR (caP t F).2 N).2≤2:=by unfold dblA; split<;>omega
  unfold zsjk
  rw [zpza]; omega
theorem zh3a (t:Tp):zt9v (zzh5 t z78s)=true:=by
  have:=zqrp t (l:=z78s) (by simp [z78s])
  generalize zzh5 t z78s=z at this ⊢
  simp only [z78s,List.mem_cons,List.not_mem_nil,or_false] at this
  rcases this with h|h<;>(rw [h]; decide)
theorem zrph (t:Tp):reqB (reqV t)=true:=by
  have hb:=zg2q t
  have a1:=z4rs (t.adv 1) 3
  have a2:=z2s7 (t.adv 1) (n:=3) (by omega)
  have a3:=z4rs (t.adv 1) 2
  have a4:=z2s7 (t.adv 1) (n:=2) (by omega)
  have a5:=z4rs (t.adv 1) 10
  have a6:=z2s7 (t.adv 1) (n:=10) (by omega)
  have a7:=z4rs (t.adv 1) 30
  have a8:=z2s7 (t.adv 1) (n:=30) (by omega)
  have a9:=z4rs (t.adv 2) 2
  have a0:=z2s7 (t.adv 2) (n:=2) (by omega)
  have hn:=zh3a (t.adv 1)
  unfold reqV
  split
  · rename_i h
    rcases h with h|h|h<;>(simp [reqB,inB,h]; omega)
  split
  · simp [reqB,inB]; omega
  split
  · simp [reqB,hn]
  split
  · simp [reqB,inB]; omega
  split
  · simp [reqB,inB]; omega
  · have h8:reqK t=8:=by omega
    simp [reqB,h8]
theorem zekd (t:Tp):RqSm (reqV t):=by
  have hb:=zg2q t
  have a1:=z4rs (t.adv 1) 3
  have a2:=z2s7 (t.adv 1) (n:=3) (by omega)
  have a3:=z4rs (t.adv 1) 2
  have a4:=z2s7 (t.adv 1) (n:=2) (by omega)
  have a9:=z4rs (t.adv 2) 2
  have a0:=z2s7 (t.adv 2) (n:=2) (by omega)
  unfold reqV
  split
  · intro _; simp only; omega
  split
  · intro _; simp only; omega
  split
  · intro h; simp at h
  split
  · intro h; simp at h
  split
  · intro h; simp at h
  · intro h; simp only at h; omega
end Go.Proofs.YtdnhbfmlklaldaaGreat
set_option linter.unusedSimpArgs false
set_option linter.unusedVariables false
namespace Go.Proofs.YtdnhbfmlklaldaaGreat
open Go Go.Am
theorem zjzy {ds:List DV} (h:Ty.Ok (.sl (.int .i64)) ds) : ∃ x:Nl,(∀ n ∈ x.l,-9223372036854775808≤n∧n≤9223372036854775807)∧ds=[x.dv]:=by
  obtain ⟨k,l,h1,h2,rfl,hb⟩:=z61h (f:=inI) (R:=fun n => -9223372036854775808≤n∧n≤9223372036854775807) (fun ds h=>by obtain ⟨n,hn,rfl⟩:=zrcx h; exact ⟨n,hn,rfl⟩) h
  exact ⟨⟨k,l,h1,hb⟩,h2,rfl⟩
end Go.Proofs.YtdnhbfmlklaldaaGreat
set_option linter.unusedSimpArgs false
set_option linter.unusedVariables false
namespace Go.Proofs.YtdnhbfmlklaldaaGreat
open Go Go.Am
def a6:AFn where
  code:=(.seq (.region false [⟨none,(some 2),.mov (.k (.bool false))⟩])
  (.seq (.region false [⟨none,(some 8),.mov (.t 0)⟩,
    ⟨none,(some 9),.call (.k (.fn (.func 24) [] [])) [(.t 8),(.k (.int .i64 300))]⟩,
    ⟨none,(some 3),.mov (.t 9)⟩])
  (.seq (.region false [⟨none,(some 10),.mov (.t 3)⟩,
    ⟨none,(some 11),.call (.k (.fn (.func 25) [] [])) [(.t 10),(.k (.int .i64 12)),(.k (.int .i64 6))]⟩,
    ⟨none,(some 12),.mov (.t 3)⟩,
    ⟨none,(some 13),.call (.k (.fn (.func 26) [] [])) [(.t 12)]⟩,
    ⟨none,(some 14),.mov (.t 3)⟩,
    ⟨none,(some 15),.call (.k (.fn (.func 27) [] [])) [(.t 14)]⟩,
    ⟨none,(some 4),.alloc [(w8 0#8),(w8 0#8),(w8 0#8),(w8 0#8),(w8 0#8),(w8 0#8),(w8 0#8),(w8 0#8),(w8 0#8),(w8 0#8),(w8 0#8),(w8 0#8),(w8 0#8),(w8 0#8),(w8 0#8),(w8 0#8),(w8 0#8),(w8 0#8),(w8 0#8),(w8 0#8),(w8 0#8),(w8 0#8),(w8 0#8),(w8 0#8),(w8 0#8),(w8 0#8),(w8 0#8),(w8 0#8),(w8 0#8),(w8 0#8),(w8 0#8),(w8 0#8),(.int .i64 0),.nils,.nils,.nils]⟩,
    ⟨none,(some 5),.alloc [(w8 0#8),(w8 0#8),(w8 0#8),(w8 0#8),(w8 0#8),(w8 0#8),(w8 0#8),(w8 0#8),(w8 0#8),(w8 0#8),(w8 0#8),(w8 0#8),(w8 0#8),(w8 0#8),(w8 0#8),(w8 0#8),(w8 0#8),(w8 0#8),(w8 0#8),(w8 0#8),(w8 0#8),(w8 0#8),(w8 0#8),(w8 0#8),(w8 0#8),(w8 0#8),(w8 0#8),(w8 0#8),(w8 0#8),(w8 0#8),(w8 0#8),(w8 0#8),(.str []),(.str [])]⟩,
    ⟨none,(some 6),.alloc [(.int .i64 0),(.int .i64 0),(.int .i64 0),(.str [])]⟩,
    ⟨none,none,.store 36 (.t 4) (.t 11)⟩,
    ⟨none,none,.store 34 (.t 5) (.t 13)⟩,
    ⟨none,none,.store 4 (.t 6) (.t 15)⟩])
  (.seq (.region false [⟨none,(some 16),.load 36 true (.t 4)⟩,
    ⟨none,(some 17),.load 34 true (.t 5)⟩,
    ⟨none,(some 18),.load 4 true (.t 6)⟩,
    ⟨none,(some 19),.call (.k (.fn (.func 20) [] [])) [(.t 16),(.t 17),(.t 18)]⟩,
    ⟨none,(some 7),.alloc [(.bool false),.nils,(.int .i64 0)]⟩,
    ⟨none,none,.store 3 (.t 7) (.t 19)⟩])
  (.seq (.seq (.region true [⟨none,(some 20),.fld 0 (.t 7)⟩,
    ⟨none,(some 21),.load 1 false (.t 20)⟩,
    ⟨none,(some 22),.load 36 true (.t 4)⟩,
    ⟨none,(some 23),.load 34 true (.t 5)⟩,
    ⟨none,(some 24),.load 4 true (.t 6)⟩,
    ⟨none,(some 25),.load 36 true (.t 4)⟩,
    ⟨none,(some 26),.callN (.k (.fn (.func 28) [] [])) [(.t 25)]⟩,
    ⟨none,(some 27),.callN (.k (.fn (.func 22) [] [])) [(.t 22),(.t 23),(.t 24),(.t 26)]⟩,
    ⟨none,(some 28),.eqb true (.t 21) (.t 27)⟩,
    ⟨none,(some 29),.mov (.t 28)⟩,
    ⟨(some (29,false)),(some 30),.fld 0 (.t 7)⟩,
    ⟨(some (29,false)),(some 31),.load 1 false (.t 30)⟩,
    ⟨(some (29,false)),(some 32),.mov (.t 31)⟩,
    ⟨(some (32,true)),(some 33),.load 36 true (.t 4)⟩,
    ⟨(some (32,true)),(some 34),.load 34 true (.t 5)⟩,
    ⟨(some (32,true)),(some 35),.load 4 true (.t 6)⟩,
    ⟨(some (32,true)),(some 36),.fld 1 (.t 7)⟩,
    ⟨(some (32,true)),(some 37),.load 1 false (.t 36)⟩,
    ⟨(some (32,true)),(some 38),.callN (.k (.fn (.func 22) [] [])) [(.t 33),(.t 34),(.t 35),(.t 37)]⟩,
    ⟨(some (32,true)),(some 39),.un .not (.t 38)⟩,
    ⟨(some (29,false)),(some 40),.pick (.t 32) (.t 39) (.k (.bool false))⟩,
    ⟨none,(some 41),.pick (.t 29) (.k (.bool true)) (.t 40)⟩])
  (.cond (.t 41) (.seq (.region false [⟨none,(some 2),.mov (.k (.bool false))⟩])
  .ret)
  .skip))
  (.seq (.region false [⟨none,(some 42),.fld 0 (.t 7)⟩,
    ⟨none,(some 43),.load 1 false (.t 42)⟩,
    ⟨none,(some 44),.mov (.t 43)⟩,
    ⟨(some (44,true)),(some 45),.fld 2 (.t 7)⟩,
    ⟨(some (44,true)),(some 46),.load 1 false (.t 45)⟩,
    ⟨(some (44,true)),(some 47),.bin .eql (.t 46) (.k (.int .i64 0))⟩,
    ⟨none,(some 48),.pick (.t 44) (.t 47) (.k (.bool false))⟩,
    ⟨none,(some 49),.mov (.t 48)⟩,
    ⟨(some (49,false)),(some 50),.fld 0 (.t 7)⟩,
    ⟨(some (49,false)),(some 51),.load 1 false (.t 50)⟩,
    ⟨(some (49,false)),(some 52),.un .not (.t 51)⟩,
    ⟨(some (49,false)),(some 53),.mov (.t 52)⟩,
    ⟨(some (53,true)),(some 54),.fld 2 (.t 7)⟩,
    ⟨(some (53,true)),(some 55),.load 1 false (.t 54)⟩,
    ⟨(some (53,true)),(some 56),.bin .gtr (.t 55) (.k (.int .i64 0))⟩,
    ⟨(some (49,false)),(some 57),.pick (.t 53) (.t 56) (.k (.bool false))⟩,
    ⟨(some (49,false)),(some 58),.mov (.t 57)⟩,
    ⟨(some (58,true)),(some 59),.fld 1 (.t 7)⟩,
    ⟨(some (58,true)),(some 60),.load 1 false (.t 59)⟩,
    ⟨(some (58,true)),(some 61),.len (.t 60)⟩,
    ⟨(some (58,true)),(some 62),.bin .eql (.t 61) (.k (.int .i64 0))⟩,
    ⟨(some (49,false)),(some 63),.pick (.t 58) (.t 62) (.k (.bool false))⟩,
    ⟨none,(some 64),.pick (.t 49) (.k (.bool true)) (.t 63)⟩,
    ⟨none,(some 65),.mov (.t 64)⟩,
    ⟨(some (65,true)),(some 66),.call (.k (.fn (.func 14) [] [])) []⟩,
    ⟨none,(some 67),.pick (.t 65) (.t 66) (.k (.bool false))⟩,
    ⟨none,(some 2),.mov (.t 67)⟩])
  .ret))))))
  ntmps:=68
  res:=[.tmp 2]
theorem zc7x:zsjc P Tryz.f6=some a6:=by kernel_rfl
end Go.Proofs.YtdnhbfmlklaldaaGreat
set_option linter.unusedSimpArgs false
set_option linter.unusedVariables false
namespace Go.Proofs.YtdnhbfmlklaldaaGreat
open Go Go.Am
noncomputable def T700:Tbl:=addT 24 (.new zl5p) (addT 25 (.tch znvy) (addT 26 (.tch (cMk zbdu fun _=>3)) (addT 27 (.tch (cMk z3tu reqA)) (addT 20 (.pure cChe) (addT 22 (.pure cBy) (addT 28 (.pure zqc4) (addT 14 (.pure cAw) tbl0)))))))
theorem zs37:T700 24 = .new zl5p:=by simp [T700]
theorem zbcb:T700 25 = .tch znvy:=by simp [T700]
theorem ztkt:T700 26 = .tch (cMk zbdu fun _=>3):=by simp [T700]
theorem z1pl:T700 27 = .tch (cMk z3tu reqA):=by simp [T700]
theorem z2ii:T700 20 = .pure cChe:=by simp [T700]
theorem zjag:T700 22 = .pure cBy:=by simp [T700]
theorem znou:T700 28 = .pure zqc4:=by simp [T700]
theorem z5wo:T700 14 = .pure cAw:=by simp [T700]
theorem zthv:T700.Sound P:=z0rp ze95 (z0rp zpy7 (z0rp zbz5 (z0rp zmr3 (z0rp zl6h (z0rp zg7u (z0rp z48p (z0rp z5bk zr5o)))))))
def CaZ:List DV:=[w8 0#8,w8 0#8,w8 0#8,w8 0#8,w8 0#8,w8 0#8,w8 0#8,w8 0#8,w8 0#8,w8 0#8,w8 0#8,w8 0#8,w8 0#8,w8 0#8,w8 0#8,w8 0#8,w8 0#8,w8 0#8,w8 0#8,w8 0#8,w8 0#8,w8 0#8,w8 0#8,w8 0#8,w8 0#8,w8 0#8,w8 0#8,w8 0#8,w8 0#8,w8 0#8,w8 0#8,w8 0#8,.int .i64 0,.nils,.nils,.nils]
structure Mk3 (x:Nl) (F N:Nat) (c:Cas) (o:Org) (q:Req) (t1 t2 t3:Tp):Prop where
  m1:znvy [.int .i64 F,.int .i64 N] (tpC (tp0 x 300))=some (.agg (caC c),tpC t1)
  m2:cMk zbdu (fun _=>3) [] (tpC t1)=some (.agg (orC o),tpC t2)
  m3:cMk z3tu reqA [] (tpC t2)=some (.agg (rqC q),tpC t3)
  ht:t3.at_≤1000000
  s:CaSm c
  v:reqB q=true
  r:RqSm q
theorem zssi (t:Tp):reqA t≤3:=by
  unfold reqA; split
  · omega
  · split<;>omega
theorem mk3 (x:Nl) (F N:Nat) (hF:F≤12) (hN:N≤8) : ∃ c o q t1 t2 t3,Mk3 x F N c o q t1 t2 t3:=by
  have h0:(tp0 x 300).at_=0:=rfl
  have h1:=zpit (t:=tp0 x 300) (F:=F) (N:=N)
  refine ⟨zhq6 (tp0 x 300) F N,z4m3 (zsjk (tp0 x 300) F N),reqV ((zsjk (tp0 x 300) F N).adv 3),zsjk (tp0 x 300) F N,(zsjk (tp0 x 300) F N).adv 3,((zsjk (tp0 x 300) F N).adv 3).adv (reqA ((zsjk (tp0 x 300) F N).adv 3)),?_⟩
  have h2:=zssi ((zsjk (tp0 x 300) F N).adv 3)
  exact ⟨z5bc (by omega) (by omega) (by omega),zkde (by omega),zkde (by rw [zpza]; omega),by rw [zpza,zpza]; omega,z9e1 hF hN,zrph _,zekd _⟩
set_option maxRecDepth 20000 in
theorem z1vb (x:Nl):Runs T700 a6 [x.dv] (.bool true):=by
  refine ⟨?_⟩
  have hT:=fun m=>zwy3 (x:=x) (n:=300) (by decide) m
  have hx:=zkx7 x
  obtain ⟨c,o,q,t1,t2,t3,m1,m2,m3,ht,s,v,r⟩:=mk3 x 12 6 (by omega) (by omega)
  simp only [show ((300:Nat):Int)=300 from rfl] at hT
  simp only [show ((12:Nat):Int)=12 from rfl,show ((6:Nat):Int)=6 from rfl] at m1
  have k1:=z1u0 (c:=c) (o:=o) (q:=q) fun _=>zu3n s s.f r
  have k2:=zkt3 (z2o9 s)
  have hfl:=z2d9 s
  have hdl:(ownN (zxma c)).l=zxma c:=zd8n (by omega)
  have k3:=z33l (c:=c) (o:=o) (q:=q) (docs:=ownN (zxma c)) fun _=>zd9d s r
  rw [hdl,zr4y v] at k3
  have k4:=z33l (c:=c) (o:=o) (q:=q) (docs:=(zwwp c o q).docs) fun _=>zd9d s r
  have hsd:zpwi c.f.l c.n.l:=⟨by have:=s.f; omega,fun f hf=>by have:=s.d f hf; omega,by have:=s.n; omega,fun f hf=>by have:=s.m f hf; omega⟩
  have e2:=zyls (c:=c) (o:=o) (q:=q) hsd v
  have e3:=z4gf (c:=c) (fs:=c.f.l) (all:=c.f.l) (o:=o) (q:=q) v
  have hC:zvkf c c.f.l c.f.l o q=zwwp c o q:=by unfold zwwp; rw [if_pos v]
  rw [hC] at e3
  obtain ⟨R,hR⟩ : ∃ R,zwwp c o q=R:=⟨_,rfl⟩
  rw [hR] at k1 k3 k4 e2 e3
  have hz : ∀ H,zy6o H 1 36 0 (.agg (caC c)) (some CaZ)=some (.junk,H.set 1 (.cells (caC c))):=fun H=>zp1j (by simp [CaZ])
  rcases e3 with ⟨h1,h2⟩|⟨h1,h2,h3⟩
  · rw [e2 h1] at k4
    rw [h1] at k3
    simp (disch:=first|omega|(simp<;>omega)|fail) [-map_take,-map_drop,-map_set,-map_append,-drop_one,a6,zs37,zbcb,ztkt,z1pl,z2ii,zjag,znou,z5wo,hT,hx,m1,m2,m3,k1,k2,k3,k4,h1,h2,zths]
  · rw [h1] at k3
    have hl : ∀ H,lenD H (R.docs.dv 32 dgC)=some (.int .i64 0):=fun H=>by rw [zupj,h3]; rfl
    have h2':¬ R.missing=0:=by omega
    simp (disch:=first|omega|(simp<;>omega)|fail) [-map_take,-map_drop,-map_set,-map_append,-drop_one,a6,zs37,zbcb,ztkt,z1pl,z2ii,zjag,znou,z5wo,hT,hx,m1,m2,m3,k1,k2,k3,h1,h2,h2',hl,zths]
namespace requirementExactly
theorem law_holds (dvs) (h:Ty.Args [.sl (.int .i64)] dvs):Am.Sem P 6 dvs (.bool true):=by
  obtain ⟨d1,l1,rfl,h1,rfl⟩:=h
  obtain ⟨x,_,hx⟩:=zjzy h1
  cases hx
  exact zljw mix zthv Tryz.func6 zc7x (z1vb x)
end requirementExactly
end Go.Proofs.YtdnhbfmlklaldaaGreat
set_option linter.unusedSimpArgs false
set_option linter.unusedVariables false
namespace Go.Proofs.YtdnhbfmlklaldaaGreat
open Go Go.Am
def a7L0:ACode :=
  (.seq (.seq (.region false [⟨none,(some 24),.mov (.t 12)⟩,
    ⟨none,(some 25),.mov (.t 9)⟩,
    ⟨none,(some 26),.len (.t 25)⟩,
    ⟨none,(some 27),.bin .lss (.t 24) (.t 26)⟩])
  (.cond (.t 27) .skip
  (.exit 0)))
  (.seq (.block 1 (.seq (.region false [⟨none,(some 13),.mov (.k (.int .i64 0))⟩])
  (.seq (.seq (.region false [⟨none,(some 30),.mov (.t 12)⟩,
    ⟨none,(some 31),.mov (.t 1)⟩,
    ⟨none,(some 32),.len (.t 31)⟩,
    ⟨none,(some 33),.bin .lss (.t 30) (.t 32)⟩])
  (.cond (.t 33) (.region false [⟨none,(some 34),.mov (.t 1)⟩,
    ⟨none,(some 35),.mov (.t 12)⟩,
    ⟨none,(some 36),.idxS 1 (.t 34) (.t 35)⟩,
    ⟨none,(some 37),.load 1 false (.t 36)⟩,
    ⟨none,(some 38),.call (.k (.fn (.func 16) [] [])) [(.t 37),(.k (.int .i64 3))]⟩,
    ⟨none,(some 13),.mov (.t 38)⟩])
  .skip))
  (.seq (.seq (.region false [⟨none,(some 39),.mov (.t 13)⟩,
    ⟨none,(some 40),.bin .eql (.t 39) (.k (.int .i64 0))⟩])
  (.cond (.t 40) (.region false [⟨none,(some 41),.mov (.t 10)⟩,
    ⟨none,(some 42),.mov (.t 9)⟩,
    ⟨none,(some 43),.mov (.t 12)⟩,
    ⟨none,(some 44),.idxS 32 (.t 42) (.t 43)⟩,
    ⟨none,(some 45),.load 32 true (.t 44)⟩,
    ⟨none,(some 46),.bsl 32 1 (rep 32 (w8 0#8)) [(0,32,(.t 45))]⟩,
    ⟨none,(some 47),.app 32 32 (.t 41) (.t 46)⟩,
    ⟨none,(some 10),.mov (.t 47)⟩])
  .skip))
  (.seq (.region false [⟨none,(some 48),.mov (.t 13)⟩,
    ⟨none,(some 49),.bin .lss (.t 48) (.k (.int .i64 2))⟩])
  (.cond (.t 49) (.region false [⟨none,(some 50),.mov (.t 11)⟩,
    ⟨none,(some 51),.mov (.t 9)⟩,
    ⟨none,(some 52),.mov (.t 12)⟩,
    ⟨none,(some 53),.idxS 32 (.t 51) (.t 52)⟩,
    ⟨none,(some 54),.load 32 true (.t 53)⟩,
    ⟨none,(some 55),.bsl 32 1 (rep 32 (w8 0#8)) [(0,32,(.t 54))]⟩,
    ⟨none,(some 56),.app 32 32 (.t 50) (.t 55)⟩,
    ⟨none,(some 11),.mov (.t 56)⟩])
  .skip))))))
  (.region false [⟨none,(some 28),.mov (.t 12)⟩,
    ⟨none,(some 29),.bin .add (.t 28) (.k (.int .i64 1))⟩,
    ⟨none,(some 12),.mov (.t 29)⟩])))
def a7S0 (x1 x6 x7 x8 x9 x10 x11 x12:DV) (h:List AObj):St:=⟨[.junk,x1]++js 4++[x6,x7,x8,x9,x10,x11,x12]++js 60,h⟩
def a7:AFn where
  code:=(.seq (.region false [⟨none,(some 4),.mov (.k (.bool false))⟩])
  (.seq (.region false [⟨none,(some 14),.mov (.t 0)⟩,
    ⟨none,(some 15),.call (.k (.fn (.func 24) [] [])) [(.t 14),(.k (.int .i64 300))]⟩,
    ⟨none,(some 5),.mov (.t 15)⟩])
  (.seq (.region false [⟨none,(some 16),.mov (.t 5)⟩,
    ⟨none,(some 17),.call (.k (.fn (.func 25) [] [])) [(.t 16),(.k (.int .i64 12)),(.k (.int .i64 6))]⟩,
    ⟨none,(some 18),.mov (.t 5)⟩,
    ⟨none,(some 19),.call (.k (.fn (.func 26) [] [])) [(.t 18)]⟩,
    ⟨none,(some 20),.mov (.t 5)⟩,
    ⟨none,(some 21),.call (.k (.fn (.func 27) [] [])) [(.t 20)]⟩,
    ⟨none,(some 6),.alloc [(w8 0#8),(w8 0#8),(w8 0#8),(w8 0#8),(w8 0#8),(w8 0#8),(w8 0#8),(w8 0#8),(w8 0#8),(w8 0#8),(w8 0#8),(w8 0#8),(w8 0#8),(w8 0#8),(w8 0#8),(w8 0#8),(w8 0#8),(w8 0#8),(w8 0#8),(w8 0#8),(w8 0#8),(w8 0#8),(w8 0#8),(w8 0#8),(w8 0#8),(w8 0#8),(w8 0#8),(w8 0#8),(w8 0#8),(w8 0#8),(w8 0#8),(w8 0#8),(.int .i64 0),.nils,.nils,.nils]⟩,
    ⟨none,(some 7),.alloc [(w8 0#8),(w8 0#8),(w8 0#8),(w8 0#8),(w8 0#8),(w8 0#8),(w8 0#8),(w8 0#8),(w8 0#8),(w8 0#8),(w8 0#8),(w8 0#8),(w8 0#8),(w8 0#8),(w8 0#8),(w8 0#8),(w8 0#8),(w8 0#8),(w8 0#8),(w8 0#8),(w8 0#8),(w8 0#8),(w8 0#8),(w8 0#8),(w8 0#8),(w8 0#8),(w8 0#8),(w8 0#8),(w8 0#8),(w8 0#8),(w8 0#8),(w8 0#8),(.str []),(.str [])]⟩,
    ⟨none,(some 8),.alloc [(.int .i64 0),(.int .i64 0),(.int .i64 0),(.str [])]⟩,
    ⟨none,none,.store 36 (.t 6) (.t 17)⟩,
    ⟨none,none,.store 34 (.t 7) (.t 19)⟩,
    ⟨none,none,.store 4 (.t 8) (.t 21)⟩])
  (.seq (.region false [⟨none,(some 22),.load 36 true (.t 6)⟩,
    ⟨none,(some 23),.call (.k (.fn (.func 28) [] [])) [(.t 22)]⟩,
    ⟨none,(some 9),.mov (.t 23)⟩])
  (.seq (.region false [⟨none,(some 10),.mov (.k .nils)⟩,
    ⟨none,(some 11),.mov (.k .nils)⟩])
  (.seq (.seq (.region false [⟨none,(some 12),.mov (.k (.int .i64 0))⟩])
  (.block 0 (.loop a7L0)))
  (.seq (.region false [⟨none,(some 57),.load 36 true (.t 6)⟩,
    ⟨none,(some 58),.load 34 true (.t 7)⟩,
    ⟨none,(some 59),.load 4 true (.t 8)⟩,
    ⟨none,(some 60),.mov (.t 10)⟩,
    ⟨none,(some 61),.call (.k (.fn (.func 22) [] [])) [(.t 57),(.t 58),(.t 59),(.t 60)]⟩,
    ⟨none,(some 62),.un .not (.t 61)⟩,
    ⟨none,(some 63),.mov (.t 62)⟩,
    ⟨(some (63,false)),(some 64),.load 36 true (.t 6)⟩,
    ⟨(some (63,false)),(some 65),.load 34 true (.t 7)⟩,
    ⟨(some (63,false)),(some 66),.load 4 true (.t 8)⟩,
    ⟨(some (63,false)),(some 67),.mov (.t 11)⟩,
    ⟨(some (63,false)),(some 68),.call (.k (.fn (.func 22) [] [])) [(.t 64),(.t 65),(.t 66),(.t 67)]⟩,
    ⟨none,(some 69),.pick (.t 63) (.k (.bool true)) (.t 68)⟩,
    ⟨none,(some 70),.mov (.t 69)⟩,
    ⟨(some (70,true)),(some 71),.call (.k (.fn (.func 14) [] [])) []⟩,
    ⟨none,(some 72),.pick (.t 70) (.t 71) (.k (.bool false))⟩,
    ⟨none,(some 4),.mov (.t 72)⟩])
  .ret)))))))
  ntmps:=73
  res:=[.tmp 4]
theorem zdfl:zsjc P Tryz.f7=some a7:=by kernel_rfl
end Go.Proofs.YtdnhbfmlklaldaaGreat
set_option linter.unusedSimpArgs false
set_option linter.unusedVariables false
namespace Go.Proofs.YtdnhbfmlklaldaaGreat
open Go Go.Am
noncomputable def T720:Tbl:=addT 16 (.pure zqmv) T700
theorem zjmx:T720 16 = .pure zqmv:=by simp [T720]
theorem zk5j:T720 24 = .new zl5p:=by simp [T720,T700]
theorem zznu:T720 25 = .tch znvy:=by simp [T720,T700]
theorem zva9:T720 26 = .tch (cMk zbdu fun _=>3):=by simp [T720,T700]
theorem zks8:T720 27 = .tch (cMk z3tu reqA):=by simp [T720,T700]
theorem zq14:T720 22 = .pure cBy:=by simp [T720,T700]
theorem zflm:T720 28 = .pure zqc4:=by simp [T720,T700]
theorem zokb:T720 14 = .pure cAw:=by simp [T720,T700]
theorem z0xy:T720.Sound P:=z0rp zt30 zthv
theorem ziny (x:Nl) (H:List AObj):lenD H x.dv=some (.int .i64 x.l.length):=zjc6 (fun e=>by rw [x.h e]; rfl)
theorem z74y (x:Nl) (H:List AObj) {i:Nat} (hi:i<x.l.length):zpsc H 1 x.dv i=some (.ref [.int .i64 x.l[i]]):=zmwh ⟨x.k,x.l,x.h,0⟩ H hi
structure MB where
  i:Nat
  ord:Bool
  A:List Dg
  B:List Dg
def msD (id:Nat) (l:List Dg):DV := .ms id (l.length*32) 0 32 l.length (l.length*32)
def mbA (a:MB):DV:=if a.A=[] then .nils else msD (if a.ord then 4 else 5) a.A
def mbB (a:MB):DV:=if a.B=[] then .nils else msD (if a.ord then 5 else 4) a.B
def mbH (a:MB):List AObj:=if a.B=[] then [] else if a.A=[] then [.cells (fl dgC a.B)] else if a.ord then [.cells (fl dgC a.A),.cells (fl dgC a.B)] else [.cells (fl dgC a.B),.cells (fl dgC a.A)]
structure MBok (D:List Dg) (a:MB):Prop where
  i:a.i≤D.length
  la:a.A.length≤a.i
  lb:a.B.length≤a.i
  s : ∀ d ∈ a.A,d ∈ a.B
  o:a.A=[]→a.ord=false
def S720 (t:Tp) (c:Cas) (o:Org) (q:Req) (m:Nl) (al:Sl Dg) (a:MB):St:=a7S0 m.dv (.mp 1 36 0) (.mp 2 34 0) (.mp 3 4 0) (al.dv 32 dgC) (mbA a) (mbB a) (.int .i64 a.i) ([.cells (tpC t),.cells (caC c),.cells (orC o),.cells (rqC q)]++mbH a)
set_option maxRecDepth 20000 in
set_option maxHeartbeats 2000000 in
theorem zznf (x m:Nl):Runs T720 a7 [x.dv,m.dv] (.bool true):=by
  refine ⟨?_⟩
  have hT:=fun m=>zwy3 (x:=x) (n:=300) (by decide) m
  have hx:=zkx7 x
  obtain ⟨c,o,q,t1,t2,t,m1,m2,m3,ht,s,v,r⟩:=mk3 x 12 6 (by omega) (by omega)
  simp only [show ((300:Nat):Int)=300 from rfl] at hT
  simp only [show ((12:Nat):Int)=12 from rfl,show ((6:Nat):Int)=6 from rfl] at m1
  have k2:=zkt3 (z2o9 s)
  have hfl:=z2d9 s
  have hdl:(ownN (zxma c)).l=zxma c:=zd8n (by omega)
  obtain ⟨al,hal⟩ : ∃ al,ownN (zxma c)=al:=⟨_,rfl⟩
  rw [hal] at k2 hdl
  have hall:al.l.length≤32:=by rw [hdl]; exact hfl
  clear hal hdl hfl
  have hml:=fun H=>ziny m H
  have hmb:=m.b
  simp (disch:=first|omega|(simp<;>omega)|fail) [-map_take,-map_drop,-map_set,-map_append,-drop_one,a7,zk5j,zznu,zva9,zks8,zflm,hT,hx,m1,m2,m3,k2]
  refine zlm5 (S720 t c o q m al) (fun a=>al.l.length-a.i) (MBok al.l) ⟨0,false,[],[]⟩ (z515 (by simp (disch:=first|omega|(simp<;>omega)|fail) [-map_take,-map_drop,-map_set,-map_append,-drop_one,S720,a7S0,mbA,mbB]) (by simp (disch:=first|omega|(simp<;>omega)|fail) [-map_take,-map_drop,-map_set,-map_append,-drop_one,S720,a7S0,mbH])) ⟨by simp,by simp,by simp,by simp,by simp⟩ (fun a ha => ?_)
  obtain ⟨i,ord,LA,LB⟩:=a
  obtain ⟨i1,i2,i3,i4,i5⟩:=ha
  simp only at i1 i2 i3 i4 i5
  simp only [S720]
  by_cases h:i<al.l.length
  case neg =>
    have h':¬ (i:Int)<al.l.length:=by omega
    have ka:=z33l (c:=c) (o:=o) (q:=q) (docs:=ownN LA) fun _=>zd9d s r
    have kb:=z33l (c:=c) (o:=o) (q:=q) (docs:=ownN LB) fun _=>zd9d s r
    rw [show (ownN LA).l=LA from zd8n (by omega)] at ka
    rw [show (ownN LB).l=LB from zd8n (by omega)] at kb
    have hmono:=zqa4 (c:=c) (o:=o) (q:=q) i4
    have pA:=zp6k z3ot LA
    have pB:=zp6k z3ot LB
    have lA:=z1rq z1t1 LA
    have lB:=z1rq z1t1 LB
    have tA:(LA.flatMap dgC).take (LA.length*32)=LA.flatMap dgC:=List.take_of_length_le (by omega)
    have tB:(LB.flatMap dgC).take (LB.length*32)=LB.flatMap dgC:=List.take_of_length_le (by omega)
    have sA : ∀ H j,z4tt H j (LA.flatMap dgC)=some (LA.flatMap dgC):=fun H j=>z619 pA
    have sB : ∀ H j,z4tt H j (LB.flatMap dgC)=some (LB.flatMap dgC):=fun H j=>z619 pB
    have nA:LA≠[]→(ownN LA).dv 32 dgC = .sl false 32 LA.length (LA.flatMap dgC):=fun e=>zgr3 e (by omega)
    have nB:LB≠[]→(ownN LB).dv 32 dgC = .sl false 32 LB.length (LB.flatMap dgC):=fun e=>zgr3 e (by omega)
    by_cases eB:LB=[]
    · have eA:LA=[]:=List.eq_nil_iff_forall_not_mem.2 fun y hy=>by have:=i4 y hy; rw [eB] at this; simp at this
      obtain rfl:ord=false:=i5 eA
      subst eA; subst eB
      have qA:mbA ⟨i,false,[],[]⟩ = .nils:=by simp [mbA]
      have qB:mbB ⟨i,false,[],[]⟩ = .nils:=by simp [mbB]
      have qH:mbH ⟨i,false,[],[]⟩=[]:=by simp [mbH]
      have dA:(ownN ([]:List Dg)).dv 32 dgC = .nils:=rfl
      have dB:(ownN ([]:List Dg)).dv 32 dgC = .nils:=rfl
      rw [dA] at ka
      rw [dB] at kb
      cases hA:ByS c o q [] with
      | false =>
        rw [hA] at ka
        simp (disch:=first|omega|(simp<;>omega)|fail) [-map_take,-map_drop,-map_set,-map_append,-drop_one,a7L0,a7S0,qA,qB,qH,msD,fl,h,h',zq14,zokb,lA,lB,tA,tB,sA,sB,ka,hA,zths]
      | true =>
        have hB:ByS c o q []=true:=hmono hA
        rw [hA] at ka
        rw [hB] at kb
        simp (disch:=first|omega|(simp<;>omega)|fail) [-map_take,-map_drop,-map_set,-map_append,-drop_one,a7L0,a7S0,qA,qB,qH,msD,fl,h,h',zq14,zokb,lA,lB,tA,tB,sA,sB,ka,kb,hA,hB,zths]
    by_cases eA:LA=[]
    · obtain rfl:ord=false:=i5 eA
      subst eA
      have qA:mbA ⟨i,false,[],LB⟩ = .nils:=by simp [mbA]
      have qB:mbB ⟨i,false,[],LB⟩=msD 4 LB:=by simp [mbB,eB]
      have qH:mbH ⟨i,false,[],LB⟩=[.cells (fl dgC LB)]:=by simp [mbH,eB]
      have dA:(ownN ([]:List Dg)).dv 32 dgC = .nils:=rfl
      have dB:=nB eB
      rw [dA] at ka
      rw [dB] at kb
      cases hA:ByS c o q [] with
      | false =>
        rw [hA] at ka
        simp (disch:=first|omega|(simp<;>omega)|fail) [-map_take,-map_drop,-map_set,-map_append,-drop_one,a7L0,a7S0,qA,qB,qH,msD,fl,h,h',zq14,zokb,lA,lB,tA,tB,sA,sB,ka,hA,zths]
      | true =>
        have hB:ByS c o q LB=true:=hmono hA
        rw [hA] at ka
        rw [hB] at kb
        simp (disch:=first|omega|(simp<;>omega)|fail) [-map_take,-map_drop,-map_set,-map_append,-drop_one,a7L0,a7S0,qA,qB,qH,msD,fl,h,h',zq14,zokb,lA,lB,tA,tB,sA,sB,ka,kb,hA,hB,zths]
    cases ord with
    | true =>
      have qA:mbA ⟨i,true,LA,LB⟩=msD 4 LA:=by simp [mbA,eA]
      have qB:mbB ⟨i,true,LA,LB⟩=msD 5 LB:=by simp [mbB,eB]
      have qH:mbH ⟨i,true,LA,LB⟩=[.cells (fl dgC LA),.cells (fl dgC LB)]:=by simp [mbH,eB,eA]
      have dA:=nA eA
      have dB:=nB eB
      rw [dA] at ka
      rw [dB] at kb
      cases hA:ByS c o q LA with
      | false =>
        rw [hA] at ka
        simp (disch:=first|omega|(simp<;>omega)|fail) [-map_take,-map_drop,-map_set,-map_append,-drop_one,a7L0,a7S0,qA,qB,qH,msD,fl,h,h',zq14,zokb,lA,lB,tA,tB,sA,sB,ka,hA,zths]
      | true =>
        have hB:ByS c o q LB=true:=hmono hA
        rw [hA] at ka
        rw [hB] at kb
        simp (disch:=first|omega|(simp<;>omega)|fail) [-map_take,-map_drop,-map_set,-map_append,-drop_one,a7L0,a7S0,qA,qB,qH,msD,fl,h,h',zq14,zokb,lA,lB,tA,tB,sA,sB,ka,kb,hA,hB,zths]
    | false =>
      have qA:mbA ⟨i,false,LA,LB⟩=msD 5 LA:=by simp [mbA,eA]
      have qB:mbB ⟨i,false,LA,LB⟩=msD 4 LB:=by simp [mbB,eB]
      have qH:mbH ⟨i,false,LA,LB⟩=[.cells (fl dgC LB),.cells (fl dgC LA)]:=by simp [mbH,eB,eA]
      have dA:=nA eA
      have dB:=nB eB
      rw [dA] at ka
      rw [dB] at kb
      cases hA:ByS c o q LA with
      | false =>
        rw [hA] at ka
        simp (disch:=first|omega|(simp<;>omega)|fail) [-map_take,-map_drop,-map_set,-map_append,-drop_one,a7L0,a7S0,qA,qB,qH,msD,fl,h,h',zq14,zokb,lA,lB,tA,tB,sA,sB,ka,hA,zths]
      | true =>
        have hB:ByS c o q LB=true:=hmono hA
        rw [hA] at ka
        rw [hB] at kb
        simp (disch:=first|omega|(simp<;>omega)|fail) [-map_take,-map_drop,-map_set,-map_append,-drop_one,a7L0,a7S0,qA,qB,qH,msD,fl,h,h',zq14,zokb,lA,lB,tA,tB,sA,sB,ka,kb,hA,hB,zths]
  have h':(i:Int)<al.l.length:=by omega
  have hg : ∀ H,zpsc H 32 (al.dv 32 dgC) i=some (.ref (dgC al.l[i])):=fun H=>zalo z1t1 h
  obtain ⟨d,hd⟩ : ∃ d,al.l[i]=d:=⟨_,rfl⟩
  rw [hd] at hg
  obtain ⟨kk,hk0,hk3,hkk⟩ : ∃ kk:Int,0≤kk∧kk<3∧((∃ hm:i<m.l.length,m.l[i] % 3=kk)∨(¬ i<m.l.length∧kk=0)):=by
    by_cases hm:i<m.l.length
    · exact ⟨m.l[i] % 3,by omega,by omega,.inl ⟨hm,rfl⟩⟩
    · exact ⟨0,by omega,by omega,.inr ⟨hm,rfl⟩⟩
  by_cases eB:LB=[]
  · have eA:LA=[]:=List.eq_nil_iff_forall_not_mem.2 fun y hy=>by have:=i4 y hy; rw [eB] at this; simp at this
    obtain rfl:ord=false:=i5 eA
    subst eA; subst eB
    have qA:mbA ⟨i,false,[],[]⟩ = .nils:=by simp [mbA]
    have qB:mbB ⟨i,false,[],[]⟩ = .nils:=by simp [mbB]
    have qH:mbH ⟨i,false,[],[]⟩=[]:=by simp [mbH]
    rcases hkk with ⟨hmi,hkk⟩|⟨hmi,hkk⟩
    · have hmi':(i:Int)<m.l.length:=by omega
      have hgm:=fun H=>z74y m H hmi
      have w1:=zcb9 (n:=m.l[i]) (k:=3) (by omega) (by omega)
      rw [hkk] at w1
      by_cases k0:kk=0
      · subst k0
        have ap1:=zsuq (h:=[AObj.cells (tpC t),.cells (caC c),.cells (orC o),.cells (rqC q)]) (s:=32) (b:=32) (m:=1) (cs:=dgC d) (by decide) (by decide) (by rw [z1t1]) (by decide) (by decide)
        simp only [z1t1,List.length_cons,List.length_nil,Nat.zero_add] at ap1
        have ap2:=zsuq (h:=[AObj.cells (tpC t),.cells (caC c),.cells (orC o),.cells (rqC q),.cells (fl dgC [d])]) (s:=32) (b:=32) (m:=1) (cs:=dgC d) (by decide) (by decide) (by rw [z1t1]) (by decide) (by decide)
        simp only [z1t1,List.length_cons,List.length_nil,Nat.zero_add] at ap2
        try rw [z4hs] at ap1
        try rw [z4hs] at ap2
        simp (disch:=first|omega|(simp<;>omega)|fail) [-map_take,-map_drop,-map_set,-map_append,-drop_one,a7L0,a7S0,qA,qB,qH,msD,h,h',hg,hml,hmi,hmi',hgm,w1,hkk,zjmx,ap1,ap2]
        refine ⟨⟨i+1,true,[d],[d]⟩,z515 ?_ ?_,by simp only; omega,⟨by simp only; omega,by first|omega|(simp; done)|(simp; omega),by first|omega|(simp; done)|(simp; omega),?_,by first|(intro; rfl)|(intro e; simp at e; done)|(intro e; exact absurd e eA)⟩⟩
        · simp (disch:=first|omega|(simp<;>omega)|fail) [-map_take,-map_drop,-map_set,-map_append,-drop_one,S720,a7S0,mbA,mbB,msD]
        · simp (disch:=first|omega|(simp<;>omega)|fail) [-map_take,-map_drop,-map_set,-map_append,-drop_one,S720,a7S0,mbH,z4hs]
        · intro y hy; simp only [List.mem_append,List.mem_cons,List.not_mem_nil,or_false,false_or] at hy ⊢ <;> first|(rcases hy with hy|hy<;>first|exact .inl (i4 y hy)|exact .inr hy)|exact .inl (i4 y hy)|exact i4 y hy|exact .inr hy|exact hy|(simp at hy)
      by_cases k1:kk=1
      · subst k1
        have ap2:=zsuq (h:=[AObj.cells (tpC t),.cells (caC c),.cells (orC o),.cells (rqC q)]) (s:=32) (b:=32) (m:=1) (cs:=dgC d) (by decide) (by decide) (by rw [z1t1]) (by decide) (by decide)
        simp only [z1t1,List.length_cons,List.length_nil,Nat.zero_add] at ap2
        try rw [z4hs] at ap2
        simp (disch:=first|omega|(simp<;>omega)|fail) [-map_take,-map_drop,-map_set,-map_append,-drop_one,a7L0,a7S0,qA,qB,qH,msD,h,h',hg,hml,hmi,hmi',hgm,w1,hkk,zjmx,ap2]
        refine ⟨⟨i+1,false,[],[d]⟩,z515 ?_ ?_,by simp only; omega,⟨by simp only; omega,by first|omega|(simp; done)|(simp; omega),by first|omega|(simp; done)|(simp; omega),?_,by first|(intro; rfl)|(intro e; simp at e; done)|(intro e; exact absurd e eA)⟩⟩
        · simp (disch:=first|omega|(simp<;>omega)|fail) [-map_take,-map_drop,-map_set,-map_append,-drop_one,S720,a7S0,mbA,mbB,msD]
        · simp (disch:=first|omega|(simp<;>omega)|fail) [-map_take,-map_drop,-map_set,-map_append,-drop_one,S720,a7S0,mbH,z4hs]
        · intro y hy; simp only [List.mem_append,List.mem_cons,List.not_mem_nil,or_false,false_or] at hy ⊢ <;> first|(rcases hy with hy|hy<;>first|exact .inl (i4 y hy)|exact .inr hy)|exact .inl (i4 y hy)|exact i4 y hy|exact .inr hy|exact hy|(simp at hy)
      · obtain rfl:kk=2:=by omega
        simp (disch:=first|omega|(simp<;>omega)|fail) [-map_take,-map_drop,-map_set,-map_append,-drop_one,a7L0,a7S0,qA,qB,qH,msD,h,h',hg,hml,hmi,hmi',hgm,w1,hkk,zjmx]
        refine ⟨⟨i+1,false,[],[]⟩,z515 ?_ ?_,by simp only; omega,⟨by simp only; omega,by first|omega|(simp; done)|(simp; omega),by first|omega|(simp; done)|(simp; omega),?_,by first|(intro; rfl)|(intro e; simp at e; done)|(intro e; exact absurd e eA)⟩⟩
        · simp (disch:=first|omega|(simp<;>omega)|fail) [-map_take,-map_drop,-map_set,-map_append,-drop_one,S720,a7S0,mbA,mbB,msD]
        · simp (disch:=first|omega|(simp<;>omega)|fail) [-map_take,-map_drop,-map_set,-map_append,-drop_one,S720,a7S0,mbH,z4hs]
        · intro y hy; simp only [List.mem_append,List.mem_cons,List.not_mem_nil,or_false,false_or] at hy ⊢ <;> first|(rcases hy with hy|hy<;>first|exact .inl (i4 y hy)|exact .inr hy)|exact .inl (i4 y hy)|exact i4 y hy|exact .inr hy|exact hy|(simp at hy)
    · have hmi':¬ (i:Int)<m.l.length:=by omega
      subst hkk
      have ap1:=zsuq (h:=[AObj.cells (tpC t),.cells (caC c),.cells (orC o),.cells (rqC q)]) (s:=32) (b:=32) (m:=1) (cs:=dgC d) (by decide) (by decide) (by rw [z1t1]) (by decide) (by decide)
      simp only [z1t1,List.length_cons,List.length_nil,Nat.zero_add] at ap1
      have ap2:=zsuq (h:=[AObj.cells (tpC t),.cells (caC c),.cells (orC o),.cells (rqC q),.cells (fl dgC [d])]) (s:=32) (b:=32) (m:=1) (cs:=dgC d) (by decide) (by decide) (by rw [z1t1]) (by decide) (by decide)
      simp only [z1t1,List.length_cons,List.length_nil,Nat.zero_add] at ap2
      try rw [z4hs] at ap1
      try rw [z4hs] at ap2
      simp (disch:=first|omega|(simp<;>omega)|fail) [-map_take,-map_drop,-map_set,-map_append,-drop_one,a7L0,a7S0,qA,qB,qH,msD,h,h',hg,hml,hmi,hmi',zjmx,ap1,ap2]
      refine ⟨⟨i+1,true,[d],[d]⟩,z515 ?_ ?_,by simp only; omega,⟨by simp only; omega,by first|omega|(simp; done)|(simp; omega),by first|omega|(simp; done)|(simp; omega),?_,by first|(intro; rfl)|(intro e; simp at e; done)|(intro e; exact absurd e eA)⟩⟩
      · simp (disch:=first|omega|(simp<;>omega)|fail) [-map_take,-map_drop,-map_set,-map_append,-drop_one,S720,a7S0,mbA,mbB,msD]
      · simp (disch:=first|omega|(simp<;>omega)|fail) [-map_take,-map_drop,-map_set,-map_append,-drop_one,S720,a7S0,mbH,z4hs]
      · intro y hy; simp only [List.mem_append,List.mem_cons,List.not_mem_nil,or_false,false_or] at hy ⊢ <;> first|(rcases hy with hy|hy<;>first|exact .inl (i4 y hy)|exact .inr hy)|exact .inl (i4 y hy)|exact i4 y hy|exact .inr hy|exact hy|(simp at hy)
  by_cases eA:LA=[]
  · obtain rfl:ord=false:=i5 eA
    subst eA
    have qA:mbA ⟨i,false,[],LB⟩ = .nils:=by simp [mbA]
    have qB:mbB ⟨i,false,[],LB⟩=msD 4 LB:=by simp [mbB,eB]
    have qH:mbH ⟨i,false,[],LB⟩=[.cells (fl dgC LB)]:=by simp [mbH,eB]
    rcases hkk with ⟨hmi,hkk⟩|⟨hmi,hkk⟩
    · have hmi':(i:Int)<m.l.length:=by omega
      have hgm:=fun H=>z74y m H hmi
      have w1:=zcb9 (n:=m.l[i]) (k:=3) (by omega) (by omega)
      rw [hkk] at w1
      by_cases k0:kk=0
      · subst k0
        have ap1:=zsuq (h:=[AObj.cells (tpC t),.cells (caC c),.cells (orC o),.cells (rqC q),.cells (fl dgC LB)]) (s:=32) (b:=32) (m:=1) (cs:=dgC d) (by decide) (by decide) (by rw [z1t1]) (by decide) (by decide)
        simp only [z1t1,List.length_cons,List.length_nil,Nat.zero_add] at ap1
        have ap2:=zkg3 (h:=[AObj.cells (tpC t),.cells (caC c),.cells (orC o),.cells (rqC q),.cells (fl dgC LB),.cells (fl dgC [d])]) (id:=4) (b:=32) (l:=LB) (x:=d) z1t1 (by decide) (by decide) (fun _=>zoxk) (by first|omega|(simp; done)|(simp; omega)) (by simp [objV,ziu0,z8lx z1t1])
        try rw [z4hs] at ap1
        try rw [z4hs] at ap2
        simp (disch:=first|omega|(simp<;>omega)|fail) [-map_take,-map_drop,-map_set,-map_append,-drop_one,a7L0,a7S0,qA,qB,qH,msD,h,h',hg,hml,hmi,hmi',hgm,w1,hkk,zjmx,ap1,ap2]
        refine ⟨⟨i+1,false,[d],(LB++[d])⟩,z515 ?_ ?_,by simp only; omega,⟨by simp only; omega,by first|omega|(simp; done)|(simp; omega),by first|omega|(simp; done)|(simp; omega),?_,by first|(intro; rfl)|(intro e; simp at e; done)|(intro e; exact absurd e eA)⟩⟩
        · simp (disch:=first|omega|(simp<;>omega)|fail) [-map_take,-map_drop,-map_set,-map_append,-drop_one,S720,a7S0,mbA,mbB,msD,eB]
        · simp (disch:=first|omega|(simp<;>omega)|fail) [-map_take,-map_drop,-map_set,-map_append,-drop_one,S720,a7S0,mbH,z4hs,eB]
        · intro y hy; simp only [List.mem_append,List.mem_cons,List.not_mem_nil,or_false,false_or] at hy ⊢ <;> first|(rcases hy with hy|hy<;>first|exact .inl (i4 y hy)|exact .inr hy)|exact .inl (i4 y hy)|exact i4 y hy|exact .inr hy|exact hy|(simp at hy)
      by_cases k1:kk=1
      · subst k1
        have ap2:=zkg3 (h:=[AObj.cells (tpC t),.cells (caC c),.cells (orC o),.cells (rqC q),.cells (fl dgC LB)]) (id:=4) (b:=32) (l:=LB) (x:=d) z1t1 (by decide) (by decide) (fun _=>zoxk) (by first|omega|(simp; done)|(simp; omega)) (by simp [objV,ziu0,z8lx z1t1])
        try rw [z4hs] at ap2
        simp (disch:=first|omega|(simp<;>omega)|fail) [-map_take,-map_drop,-map_set,-map_append,-drop_one,a7L0,a7S0,qA,qB,qH,msD,h,h',hg,hml,hmi,hmi',hgm,w1,hkk,zjmx,ap2]
        refine ⟨⟨i+1,false,[],(LB++[d])⟩,z515 ?_ ?_,by simp only; omega,⟨by simp only; omega,by first|omega|(simp; done)|(simp; omega),by first|omega|(simp; done)|(simp; omega),?_,by first|(intro; rfl)|(intro e; simp at e; done)|(intro e; exact absurd e eA)⟩⟩
        · simp (disch:=first|omega|(simp<;>omega)|fail) [-map_take,-map_drop,-map_set,-map_append,-drop_one,S720,a7S0,mbA,mbB,msD,eB]
        · simp (disch:=first|omega|(simp<;>omega)|fail) [-map_take,-map_drop,-map_set,-map_append,-drop_one,S720,a7S0,mbH,z4hs,eB]
        · intro y hy; simp only [List.mem_append,List.mem_cons,List.not_mem_nil,or_false,false_or] at hy ⊢ <;> first|(rcases hy with hy|hy<;>first|exact .inl (i4 y hy)|exact .inr hy)|exact .inl (i4 y hy)|exact i4 y hy|exact .inr hy|exact hy|(simp at hy)
      · obtain rfl:kk=2:=by omega
        simp (disch:=first|omega|(simp<;>omega)|fail) [-map_take,-map_drop,-map_set,-map_append,-drop_one,a7L0,a7S0,qA,qB,qH,msD,h,h',hg,hml,hmi,hmi',hgm,w1,hkk,zjmx]
        refine ⟨⟨i+1,false,[],LB⟩,z515 ?_ ?_,by simp only; omega,⟨by simp only; omega,by first|omega|(simp; done)|(simp; omega),by first|omega|(simp; done)|(simp; omega),?_,by first|(intro; rfl)|(intro e; simp at e; done)|(intro e; exact absurd e eA)⟩⟩
        · simp (disch:=first|omega|(simp<;>omega)|fail) [-map_take,-map_drop,-map_set,-map_append,-drop_one,S720,a7S0,mbA,mbB,msD,eB]
        · simp (disch:=first|omega|(simp<;>omega)|fail) [-map_take,-map_drop,-map_set,-map_append,-drop_one,S720,a7S0,mbH,z4hs,eB]
        · intro y hy; simp only [List.mem_append,List.mem_cons,List.not_mem_nil,or_false,false_or] at hy ⊢ <;> first|(rcases hy with hy|hy<;>first|exact .inl (i4 y hy)|exact .inr hy)|exact .inl (i4 y hy)|exact i4 y hy|exact .inr hy|exact hy|(simp at hy)
    · have hmi':¬ (i:Int)<m.l.length:=by omega
      subst hkk
      have ap1:=zsuq (h:=[AObj.cells (tpC t),.cells (caC c),.cells (orC o),.cells (rqC q),.cells (fl dgC LB)]) (s:=32) (b:=32) (m:=1) (cs:=dgC d) (by decide) (by decide) (by rw [z1t1]) (by decide) (by decide)
      simp only [z1t1,List.length_cons,List.length_nil,Nat.zero_add] at ap1
      have ap2:=zkg3 (h:=[AObj.cells (tpC t),.cells (caC c),.cells (orC o),.cells (rqC q),.cells (fl dgC LB),.cells (fl dgC [d])]) (id:=4) (b:=32) (l:=LB) (x:=d) z1t1 (by decide) (by decide) (fun _=>zoxk) (by first|omega|(simp; done)|(simp; omega)) (by simp [objV,ziu0,z8lx z1t1])
      try rw [z4hs] at ap1
      try rw [z4hs] at ap2
      simp (disch:=first|omega|(simp<;>omega)|fail) [-map_take,-map_drop,-map_set,-map_append,-drop_one,a7L0,a7S0,qA,qB,qH,msD,h,h',hg,hml,hmi,hmi',zjmx,ap1,ap2]
      refine ⟨⟨i+1,false,[d],(LB++[d])⟩,z515 ?_ ?_,by simp only; omega,⟨by simp only; omega,by first|omega|(simp; done)|(simp; omega),by first|omega|(simp; done)|(simp; omega),?_,by first|(intro; rfl)|(intro e; simp at e; done)|(intro e; exact absurd e eA)⟩⟩
      · simp (disch:=first|omega|(simp<;>omega)|fail) [-map_take,-map_drop,-map_set,-map_append,-drop_one,S720,a7S0,mbA,mbB,msD,eB]
      · simp (disch:=first|omega|(simp<;>omega)|fail) [-map_take,-map_drop,-map_set,-map_append,-drop_one,S720,a7S0,mbH,z4hs,eB]
      · intro y hy; simp only [List.mem_append,List.mem_cons,List.not_mem_nil,or_false,false_or] at hy ⊢ <;> first|(rcases hy with hy|hy<;>first|exact .inl (i4 y hy)|exact .inr hy)|exact .inl (i4 y hy)|exact i4 y hy|exact .inr hy|exact hy|(simp at hy)
  cases ord with
  | true =>
    have qA:mbA ⟨i,true,LA,LB⟩=msD 4 LA:=by simp [mbA,eA]
    have qB:mbB ⟨i,true,LA,LB⟩=msD 5 LB:=by simp [mbB,eB]
    have qH:mbH ⟨i,true,LA,LB⟩=[.cells (fl dgC LA),.cells (fl dgC LB)]:=by simp [mbH,eB,eA]
    rcases hkk with ⟨hmi,hkk⟩|⟨hmi,hkk⟩
    · have hmi':(i:Int)<m.l.length:=by omega
      have hgm:=fun H=>z74y m H hmi
      have w1:=zcb9 (n:=m.l[i]) (k:=3) (by omega) (by omega)
      rw [hkk] at w1
      by_cases k0:kk=0
      · subst k0
        have ap1:=zkg3 (h:=[AObj.cells (tpC t),.cells (caC c),.cells (orC o),.cells (rqC q),.cells (fl dgC LA),.cells (fl dgC LB)]) (id:=4) (b:=32) (l:=LA) (x:=d) z1t1 (by decide) (by decide) (fun _=>zoxk) (by first|omega|(simp; done)|(simp; omega)) (by simp [objV,ziu0,z8lx z1t1])
        have ap2:=zkg3 (h:=[AObj.cells (tpC t),.cells (caC c),.cells (orC o),.cells (rqC q),.cells (fl dgC (LA++[d])),.cells (fl dgC LB)]) (id:=5) (b:=32) (l:=LB) (x:=d) z1t1 (by decide) (by decide) (fun _=>zoxk) (by first|omega|(simp; done)|(simp; omega)) (by simp [objV,ziu0,z8lx z1t1])
        try rw [z4hs] at ap1
        try rw [z4hs] at ap2
        simp (disch:=first|omega|(simp<;>omega)|fail) [-map_take,-map_drop,-map_set,-map_append,-drop_one,a7L0,a7S0,qA,qB,qH,msD,h,h',hg,hml,hmi,hmi',hgm,w1,hkk,zjmx,ap1,ap2]
        refine ⟨⟨i+1,true,(LA++[d]),(LB++[d])⟩,z515 ?_ ?_,by simp only; omega,⟨by simp only; omega,by first|omega|(simp; done)|(simp; omega),by first|omega|(simp; done)|(simp; omega),?_,by first|(intro; rfl)|(intro e; simp at e; done)|(intro e; exact absurd e eA)⟩⟩
        · simp (disch:=first|omega|(simp<;>omega)|fail) [-map_take,-map_drop,-map_set,-map_append,-drop_one,S720,a7S0,mbA,mbB,msD,eA,eB]
        · simp (disch:=first|omega|(simp<;>omega)|fail) [-map_take,-map_drop,-map_set,-map_append,-drop_one,S720,a7S0,mbH,z4hs,eA,eB]
        · intro y hy; simp only [List.mem_append,List.mem_cons,List.not_mem_nil,or_false,false_or] at hy ⊢ <;> first|(rcases hy with hy|hy<;>first|exact .inl (i4 y hy)|exact .inr hy)|exact .inl (i4 y hy)|exact i4 y hy|exact .inr hy|exact hy|(simp at hy)
      by_cases k1:kk=1
      · subst k1
        have ap2:=zkg3 (h:=[AObj.cells (tpC t),.cells (caC c),.cells (orC o),.cells (rqC q),.cells (fl dgC LA),.cells (fl dgC LB)]) (id:=5) (b:=32) (l:=LB) (x:=d) z1t1 (by decide) (by decide) (fun _=>zoxk) (by first|omega|(simp; done)|(simp; omega)) (by simp [objV,ziu0,z8lx z1t1])
        try rw [z4hs] at ap2
        simp (disch:=first|omega|(simp<;>omega)|fail) [-map_take,-map_drop,-map_set,-map_append,-drop_one,a7L0,a7S0,qA,qB,qH,msD,h,h',hg,hml,hmi,hmi',hgm,w1,hkk,zjmx,ap2]
        refine ⟨⟨i+1,true,LA,(LB++[d])⟩,z515 ?_ ?_,by simp only; omega,⟨by simp only; omega,by first|omega|(simp; done)|(simp; omega),by first|omega|(simp; done)|(simp; omega),?_,by first|(intro; rfl)|(intro e; simp at e; done)|(intro e; exact absurd e eA)⟩⟩
        · simp (disch:=first|omega|(simp<;>omega)|fail) [-map_take,-map_drop,-map_set,-map_append,-drop_one,S720,a7S0,mbA,mbB,msD,eA,eB]
        · simp (disch:=first|omega|(simp<;>omega)|fail) [-map_take,-map_drop,-map_set,-map_append,-drop_one,S720,a7S0,mbH,z4hs,eA,eB]
        · intro y hy; simp only [List.mem_append,List.mem_cons,List.not_mem_nil,or_false,false_or] at hy ⊢ <;> first|(rcases hy with hy|hy<;>first|exact .inl (i4 y hy)|exact .inr hy)|exact .inl (i4 y hy)|exact i4 y hy|exact .inr hy|exact hy|(simp at hy)
      · obtain rfl:kk=2:=by omega
        simp (disch:=first|omega|(simp<;>omega)|fail) [-map_take,-map_drop,-map_set,-map_append,-drop_one,a7L0,a7S0,qA,qB,qH,msD,h,h',hg,hml,hmi,hmi',hgm,w1,hkk,zjmx]
        refine ⟨⟨i+1,true,LA,LB⟩,z515 ?_ ?_,by simp only; omega,⟨by simp only; omega,by first|omega|(simp; done)|(simp; omega),by first|omega|(simp; done)|(simp; omega),?_,by first|(intro; rfl)|(intro e; simp at e; done)|(intro e; exact absurd e eA)⟩⟩
        · simp (disch:=first|omega|(simp<;>omega)|fail) [-map_take,-map_drop,-map_set,-map_append,-drop_one,S720,a7S0,mbA,mbB,msD,eA,eB]
        · simp (disch:=first|omega|(simp<;>omega)|fail) [-map_take,-map_drop,-map_set,-map_append,-drop_one,S720,a7S0,mbH,z4hs,eA,eB]
        · intro y hy; simp only [List.mem_append,List.mem_cons,List.not_mem_nil,or_false,false_or] at hy ⊢ <;> first|(rcases hy with hy|hy<;>first|exact .inl (i4 y hy)|exact .inr hy)|exact .inl (i4 y hy)|exact i4 y hy|exact .inr hy|exact hy|(simp at hy)
    · have hmi':¬ (i:Int)<m.l.length:=by omega
      subst hkk
      have ap1:=zkg3 (h:=[AObj.cells (tpC t),.cells (caC c),.cells (orC o),.cells (rqC q),.cells (fl dgC LA),.cells (fl dgC LB)]) (id:=4) (b:=32) (l:=LA) (x:=d) z1t1 (by decide) (by decide) (fun _=>zoxk) (by first|omega|(simp; done)|(simp; omega)) (by simp [objV,ziu0,z8lx z1t1])
      have ap2:=zkg3 (h:=[AObj.cells (tpC t),.cells (caC c),.cells (orC o),.cells (rqC q),.cells (fl dgC (LA++[d])),.cells (fl dgC LB)]) (id:=5) (b:=32) (l:=LB) (x:=d) z1t1 (by decide) (by decide) (fun _=>zoxk) (by first|omega|(simp; done)|(simp; omega)) (by simp [objV,ziu0,z8lx z1t1])
      try rw [z4hs] at ap1
      try rw [z4hs] at ap2
      simp (disch:=first|omega|(simp<;>omega)|fail) [-map_take,-map_drop,-map_set,-map_append,-drop_one,a7L0,a7S0,qA,qB,qH,msD,h,h',hg,hml,hmi,hmi',zjmx,ap1,ap2]
      refine ⟨⟨i+1,true,(LA++[d]),(LB++[d])⟩,z515 ?_ ?_,by simp only; omega,⟨by simp only; omega,by first|omega|(simp; done)|(simp; omega),by first|omega|(simp; done)|(simp; omega),?_,by first|(intro; rfl)|(intro e; simp at e; done)|(intro e; exact absurd e eA)⟩⟩
      · simp (disch:=first|omega|(simp<;>omega)|fail) [-map_take,-map_drop,-map_set,-map_append,-drop_one,S720,a7S0,mbA,mbB,msD,eA,eB]
      · simp (disch:=first|omega|(simp<;>omega)|fail) [-map_take,-map_drop,-map_set,-map_append,-drop_one,S720,a7S0,mbH,z4hs,eA,eB]
      · intro y hy; simp only [List.mem_append,List.mem_cons,List.not_mem_nil,or_false,false_or] at hy ⊢ <;> first|(rcases hy with hy|hy<;>first|exact .inl (i4 y hy)|exact .inr hy)|exact .inl (i4 y hy)|exact i4 y hy|exact .inr hy|exact hy|(simp at hy)
  | false =>
    have qA:mbA ⟨i,false,LA,LB⟩=msD 5 LA:=by simp [mbA,eA]
    have qB:mbB ⟨i,false,LA,LB⟩=msD 4 LB:=by simp [mbB,eB]
    have qH:mbH ⟨i,false,LA,LB⟩=[.cells (fl dgC LB),.cells (fl dgC LA)]:=by simp [mbH,eB,eA]
    rcases hkk with ⟨hmi,hkk⟩|⟨hmi,hkk⟩
    · have hmi':(i:Int)<m.l.length:=by omega
      have hgm:=fun H=>z74y m H hmi
      have w1:=zcb9 (n:=m.l[i]) (k:=3) (by omega) (by omega)
      rw [hkk] at w1
      by_cases k0:kk=0
      · subst k0
        have ap1:=zkg3 (h:=[AObj.cells (tpC t),.cells (caC c),.cells (orC o),.cells (rqC q),.cells (fl dgC LB),.cells (fl dgC LA)]) (id:=5) (b:=32) (l:=LA) (x:=d) z1t1 (by decide) (by decide) (fun _=>zoxk) (by first|omega|(simp; done)|(simp; omega)) (by simp [objV,ziu0,z8lx z1t1])
        have ap2:=zkg3 (h:=[AObj.cells (tpC t),.cells (caC c),.cells (orC o),.cells (rqC q),.cells (fl dgC LB),.cells (fl dgC (LA++[d]))]) (id:=4) (b:=32) (l:=LB) (x:=d) z1t1 (by decide) (by decide) (fun _=>zoxk) (by first|omega|(simp; done)|(simp; omega)) (by simp [objV,ziu0,z8lx z1t1])
        try rw [z4hs] at ap1
        try rw [z4hs] at ap2
        simp (disch:=first|omega|(simp<;>omega)|fail) [-map_take,-map_drop,-map_set,-map_append,-drop_one,a7L0,a7S0,qA,qB,qH,msD,h,h',hg,hml,hmi,hmi',hgm,w1,hkk,zjmx,ap1,ap2]
        refine ⟨⟨i+1,false,(LA++[d]),(LB++[d])⟩,z515 ?_ ?_,by simp only; omega,⟨by simp only; omega,by first|omega|(simp; done)|(simp; omega),by first|omega|(simp; done)|(simp; omega),?_,by first|(intro; rfl)|(intro e; simp at e; done)|(intro e; exact absurd e eA)⟩⟩
        · simp (disch:=first|omega|(simp<;>omega)|fail) [-map_take,-map_drop,-map_set,-map_append,-drop_one,S720,a7S0,mbA,mbB,msD,eA,eB]
        · simp (disch:=first|omega|(simp<;>omega)|fail) [-map_take,-map_drop,-map_set,-map_append,-drop_one,S720,a7S0,mbH,z4hs,eA,eB]
        · intro y hy; simp only [List.mem_append,List.mem_cons,List.not_mem_nil,or_false,false_or] at hy ⊢ <;> first|(rcases hy with hy|hy<;>first|exact .inl (i4 y hy)|exact .inr hy)|exact .inl (i4 y hy)|exact i4 y hy|exact .inr hy|exact hy|(simp at hy)
      by_cases k1:kk=1
      · subst k1
        have ap2:=zkg3 (h:=[AObj.cells (tpC t),.cells (caC c),.cells (orC o),.cells (rqC q),.cells (fl dgC LB),.cells (fl dgC LA)]) (id:=4) (b:=32) (l:=LB) (x:=d) z1t1 (by decide) (by decide) (fun _=>zoxk) (by first|omega|(simp; done)|(simp; omega)) (by simp [objV,ziu0,z8lx z1t1])
        try rw [z4hs] at ap2
        simp (disch:=first|omega|(simp<;>omega)|fail) [-map_take,-map_drop,-map_set,-map_append,-drop_one,a7L0,a7S0,qA,qB,qH,msD,h,h',hg,hml,hmi,hmi',hgm,w1,hkk,zjmx,ap2]
        refine ⟨⟨i+1,false,LA,(LB++[d])⟩,z515 ?_ ?_,by simp only; omega,⟨by simp only; omega,by first|omega|(simp; done)|(simp; omega),by first|omega|(simp; done)|(simp; omega),?_,by first|(intro; rfl)|(intro e; simp at e; done)|(intro e; exact absurd e eA)⟩⟩
        · simp (disch:=first|omega|(simp<;>omega)|fail) [-map_take,-map_drop,-map_set,-map_append,-drop_one,S720,a7S0,mbA,mbB,msD,eA,eB]
        · simp (disch:=first|omega|(simp<;>omega)|fail) [-map_take,-map_drop,-map_set,-map_append,-drop_one,S720,a7S0,mbH,z4hs,eA,eB]
        · intro y hy; simp only [List.mem_append,List.mem_cons,List.not_mem_nil,or_false,false_or] at hy ⊢ <;> first|(rcases hy with hy|hy<;>first|exact .inl (i4 y hy)|exact .inr hy)|exact .inl (i4 y hy)|exact i4 y hy|exact .inr hy|exact hy|(simp at hy)
      · obtain rfl:kk=2:=by omega
        simp (disch:=first|omega|(simp<;>omega)|fail) [-map_take,-map_drop,-map_set,-map_append,-drop_one,a7L0,a7S0,qA,qB,qH,msD,h,h',hg,hml,hmi,hmi',hgm,w1,hkk,zjmx]
        refine ⟨⟨i+1,false,LA,LB⟩,z515 ?_ ?_,by simp only; omega,⟨by simp only; omega,by first|omega|(simp; done)|(simp; omega),by first|omega|(simp; done)|(simp; omega),?_,by first|(intro; rfl)|(intro e; simp at e; done)|(intro e; exact absurd e eA)⟩⟩
        · simp (disch:=first|omega|(simp<;>omega)|fail) [-map_take,-map_drop,-map_set,-map_append,-drop_one,S720,a7S0,mbA,mbB,msD,eA,eB]
        · simp (disch:=first|omega|(simp<;>omega)|fail) [-map_take,-map_drop,-map_set,-map_append,-drop_one,S720,a7S0,mbH,z4hs,eA,eB]
        · intro y hy; simp only [List.mem_append,List.mem_cons,List.not_mem_nil,or_false,false_or] at hy ⊢ <;> first|(rcases hy with hy|hy<;>first|exact .inl (i4 y hy)|exact .inr hy)|exact .inl (i4 y hy)|exact i4 y hy|exact .inr hy|exact hy|(simp at hy)
    · have hmi':¬ (i:Int)<m.l.length:=by omega
      subst hkk
      have ap1:=zkg3 (h:=[AObj.cells (tpC t),.cells (caC c),.cells (orC o),.cells (rqC q),.cells (fl dgC LB),.cells (fl dgC LA)]) (id:=5) (b:=32) (l:=LA) (x:=d) z1t1 (by decide) (by decide) (fun _=>zoxk) (by first|omega|(simp; done)|(simp; omega)) (by simp [objV,ziu0,z8lx z1t1])
      have ap2:=zkg3 (h:=[AObj.cells (tpC t),.cells (caC c),.cells (orC o),.cells (rqC q),.cells (fl dgC LB),.cells (fl dgC (LA++[d]))]) (id:=4) (b:=32) (l:=LB) (x:=d) z1t1 (by decide) (by decide) (fun _=>zoxk) (by first|omega|(simp; done)|(simp; omega)) (by simp [objV,ziu0,z8lx z1t1])
      try rw [z4hs] at ap1
      try rw [z4hs] at ap2
      simp (disch:=first|omega|(simp<;>omega)|fail) [-map_take,-map_drop,-map_set,-map_append,-drop_one,a7L0,a7S0,qA,qB,qH,msD,h,h',hg,hml,hmi,hmi',zjmx,ap1,ap2]
      refine ⟨⟨i+1,false,(LA++[d]),(LB++[d])⟩,z515 ?_ ?_,by simp only; omega,⟨by simp only; omega,by first|omega|(simp; done)|(simp; omega),by first|omega|(simp; done)|(simp; omega),?_,by first|(intro; rfl)|(intro e; simp at e; done)|(intro e; exact absurd e eA)⟩⟩
      · simp (disch:=first|omega|(simp<;>omega)|fail) [-map_take,-map_drop,-map_set,-map_append,-drop_one,S720,a7S0,mbA,mbB,msD,eA,eB]
      · simp (disch:=first|omega|(simp<;>omega)|fail) [-map_take,-map_drop,-map_set,-map_append,-drop_one,S720,a7S0,mbH,z4hs,eA,eB]
      · intro y hy; simp only [List.mem_append,List.mem_cons,List.not_mem_nil,or_false,false_or] at hy ⊢ <;> first|(rcases hy with hy|hy<;>first|exact .inl (i4 y hy)|exact .inr hy)|exact .inl (i4 y hy)|exact i4 y hy|exact .inr hy|exact hy|(simp at hy)
namespace requirementMore
theorem law_holds (dvs) (h:Ty.Args [.sl (.int .i64),.sl (.int .i64)] dvs):Am.Sem P 7 dvs (.bool true):=by
  obtain ⟨d1,l1,rfl,h1,d2,l2,rfl,h2,rfl⟩:=h
  obtain ⟨x,_,hx⟩:=zjzy h1
  obtain ⟨y,_,hy⟩:=zjzy h2
  cases hx; cases hy
  exact zljw mix z0xy Tryz.func7 zdfl (zznf x y)
end requirementMore
end Go.Proofs.YtdnhbfmlklaldaaGreat
