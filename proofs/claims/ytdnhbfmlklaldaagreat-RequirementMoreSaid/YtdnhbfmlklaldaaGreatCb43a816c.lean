/-
  14 texts of mine in one.
-/
import Derived.Test.YtdnhbfmlklaldaaGreatC83c7f3cb
import Derived.Test.YtdnhbfmlklaldaaGreatCd5c88767
import Derived.Test.YtdnhbfmlklaldaaGreatCf58b87d4
import Derived.Test.YtdnhbfmlklaldaaGreatCf196b68c
import Derived.Test.YtdnhbfmlklaldaaGreatC1c19311e
open List (map_take map_drop map_set map_append drop_one)
set_option linter.unusedSimpArgs false
set_option linter.unusedVariables false
namespace Go.Proofs.YtdnhbfmlklaldaaGreat
open Go Go.Am
def naS (all:Sl Fct):Sl Fct:=if all.l=[] then all.clone else own (kp Fp.agr.p all.l)
theorem z81i {all:Sl Fct}:(naS all).l=all.l.filter fun f => !f.agr:=by
  unfold naS
  split
  · rename_i h; show all.l=_; rw [h]; rfl
  · have:=zomf (p:=Fp.agr.p) all.l
    rw [z3e9 (by have:=all.b; omega)]; rfl
theorem z0cq {all:Sl Fct}:zzy4 (naS all).l=zqgg all.l:=by rw [z81i]; rfl
def nmS (l:List Fct):Sl Str:=if l=[] then nilS else own (zzy4 l)
theorem zbps {l:List Fct} (h:l.length≤1000000):(nmS l).l=zzy4 l:=by
  unfold nmS
  split
  · rename_i e; subst e; rfl
  · have:=zmvi l; exact z3e9 (by omega)
def nmC (l:List Fct):List DV:=(zly8 [] (zxu4 Op.bytesLess (nms l))).map .str
theorem zkui {f:Fct} {r:List Fct}:nmO (f::r)=[.cells (faC f),.cells (nmC (f::r))]:=rfl
theorem zedm {l:List Fct}:(nmC l).length=l.length:=by rw [nmC,List.length_map,zglm,zmgd,zdnb]
theorem zn8t {p:Nat} {f:Fct} {r:List Fct}:nmV p (f::r) = .ms (p+1) (f::r).length 0 1 (zzy4 (f::r)).length (f::r).length:=if_neg (by simp)
theorem zw98 {A B:List AObj} {c:List DV}:ziu0 (A ++ .cells c::B) A.length=some c:=by simp [ziu0]
theorem zu1y {A B:List AObj} {o:AObj} {c:List DV}:ziu0 (A++o :: .cells c::B) (A.length+1)=some c:=by
  have:=zw98 (A:=A++[o]) (B:=B) (c:=c)
  rw [List.append_assoc,List.length_append] at this
  exact this
theorem zwlt {l:List Fct}:(nmC l).take (zzy4 l).length=(zzy4 l).flatMap stC:=by
  rw [z5q1,nmC,← List.map_take,← ziv1,z0zq]
theorem znvg {A B:List AObj} {l:List Fct} {k:Nat} (h:l.length≤1000000):snap (A++nmO l++B) (k+1) (nmV A.length l)=some ((nmS l).dv 1 stC):=by
  cases l with
  | nil=>exact z6nl rfl
  | cons f r =>
    have hl:=zmvi (f::r)
    rw [zkui,zn8t,zve7,List.append_assoc]
    have ho:objV (A++([.cells (faC f),.cells (nmC (f::r))]++B)) (A.length+1) (f::r).length=some (nmC (f::r)):=zw28 zu1y zedm
    rw [ho,Option.bind_some,List.drop_zero,Nat.mul_one,zwlt,z619 (by rw [z5q1]; exact zykc _),nmS,if_neg (by simp),zqrs (by omega)]
    rfl
theorem z9za {A B:List AObj} {l:List Fct}:lenD (A++nmO l++B) (nmV A.length l)=some (.int .i64 (zzy4 l).length):=by
  cases l with
  | nil=>rfl
  | cons f r =>
    rw [zkui,zn8t,z59c,List.append_assoc]
    have ho:objV (A++([.cells (faC f),.cells (nmC (f::r))]++B)) (A.length+1) (f::r).length=some (nmC (f::r)):=zw28 zu1y zedm
    rw [ho]; rfl
def agD (shown all:List Fct):Sl Str:=if shown=[] then nilS else own (zob0 shown all)
theorem zumh (s a:List Fct):(zob0 s a).length≤s.length:=by have:=zmvi s; have:=List.length_filter_le (fun n => !decide (n ∈ zqgg a)) (zzy4 s); unfold zob0; omega
theorem zk7i {s a:List Fct} (h:s.length≤1000000):(agD s a).l=zob0 s a:=by
  unfold agD
  split
  · rename_i e; subst e; rfl
  · have:=zumh s a; exact z3e9 (by omega)
def nmP (l:List Fct):List AObj:=match l with
  | []=>[]
  | f::_=>[.cells (faC f)]
def nmT (l:List Fct):List Str:=List.replicate (l.length-(zzy4 l).length) []
theorem zb1j {l:List Fct} (h:l≠[]):zzy4 l≠[]:=fun e=>by
  cases l with
  | nil=>exact h rfl
  | cons f r=>have:f.own ∈ zzy4 (f::r):=z7zz.2 ⟨f,by simp,rfl⟩; rw [e] at this; simp at this
theorem zkdc {l:List Fct}:nmC l=(zzy4 l++nmT l).map .str:=by rw [nmC,zly8,ziv1,zmgd,zdnb]; rfl
theorem zndu {A:List AObj} {l:List Fct}:A++nmO l=dsH (A++nmP l) (zzy4 l) (nmT l):=by
  cases l with
  | nil=>rfl
  | cons f r=>rw [zkui,zkdc,dsH,if_neg (zb1j (by simp)),nmP]; simp
theorem z7aq {A:List AObj} {l:List Fct}:nmV A.length l=dsV (A++nmP l).length (zzy4 l) (nmT l) (zzy4 l).length:=by
  cases l with
  | nil=>rfl
  | cons f r =>
    have hl:=zmvi (f::r)
    rw [zn8t,dsV,if_neg (zb1j (by simp)),nmP,List.length_append,List.length_append,nmT,List.length_replicate]
    congr 1<;>omega
theorem zo40 {pre:List AObj} {l z:List Str} {k m:Nat} (hm:m≤l.length):snap (dsH pre l z) (k+1) (dsV pre.length l z m)=some (if l=[] then .nils else .sl false 1 m ((l.take m).flatMap stC)):=by
  by_cases e:l=[]
  · rw [dsH,dsV,if_pos e,if_pos e,if_pos e]; exact z6nl rfl
  · rw [dsH,dsV,if_neg e,if_neg e,if_neg e,zve7,zjj2,z1zn,if_pos (by rw [List.length_map]),Option.bind_some,List.drop_zero,Nat.mul_one,← List.map_take,List.take_append_of_le_length hm,z619 (zykc _),z5q1]
    rfl
noncomputable def T580:Tbl:=addT 50 (.new cNF) (addT 49 (.heap z10r) (addT 105 (.heap zxi1) (addT 129 (.heap ziol) tbl0)))
theorem zlxq:T580 50 = .new cNF:=by simp [T580]
theorem zcfb:T580 49 = .heap z10r:=by simp [T580]
theorem zfb3:T580 105 = .heap zxi1:=by simp [T580]
theorem zuva:T580 129 = .heap ziol:=by simp [T580]
theorem ze91:T580.Sound P:=z0rp zu1a (z0rp zoba (z0rp z3ls (z0rp zmrm zr5o)))
def rebD (shown all:List Fct):DV := .tup [(agD shown all).dv 1 stC,.int .i64 (zqgg all).length]
theorem z5y0 (s all:Sl Fct) (h1:s.l.length≤12) (h2:all.l.length≤12):Runs T580 a109 [s.dv 71 faC,all.dv 71 faC] (rebD s.l all.l):=by
  refine ⟨?_⟩
  -- the clone, without those who agree
  have c1:=zrkp (x:=all) (n:=0)
  have c2:=zo2w (d:=⟨[],[],.agr,all⟩) ⟨fun X=>rfl,rfl,rfl,by simp only; omega⟩
  simp only [List.length_nil,List.nil_append,show Fp.agr.fid=128 from rfl] at c2
  obtain ⟨V0,hV0⟩ : ∃ V,mutD 0 71 all faC=V:=⟨_,rfl⟩
  obtain ⟨H0,hH0⟩ : ∃ H,mo faC all.l=H:=⟨_,rfl⟩
  have hs1:snap (mo faC (delO fct0 Fp.agr.p all.l)) 3 (dlD 0 .agr all)=some ((naS all).dv 71 faC):=by
    by_cases e:all.l=[]
    · rw [dlD,naS,if_pos e,if_pos e]; exact zsqc z93p
    · have hk:=zomf (p:=Fp.agr.p) all.l
      have hs:=z29t (f:=faC) zs77 z93p (pre:=[]) (l:=delO fct0 Fp.agr.p all.l) (m:=(kp Fp.agr.p all.l).length)
      rw [zwda,zgcl] at hs
      rw [dlD,naS,if_neg e,if_neg e,zsqo (z8wb e),zqrs (by omega)]
      exact hs
  have hnl:(naS all).l.length≤12:=by rw [z81i]; have:=List.length_filter_le (fun f:Fct => !f.agr) all.l; omega
  have c3:zxi1 [dlD 0 Fp.agr all] (mo faC (delO fct0 Fp.agr.p all.l))=some (nmV (mo faC (delO fct0 Fp.agr.p all.l)).length (naS all).l,mo faC (delO fct0 Fp.agr.p all.l)++nmO (naS all).l):=by
    by_cases e:all.l=[]
    · rw [dlD,naS,if_pos e,if_pos e]
      exact zqcg (x:=all.clone) (by show all.l.length≤12; omega)
    · have hk:=zomf (p:=Fp.agr.p) all.l
      have h:=zd45 (a:=⟨mo faC (delO fct0 Fp.agr.p all.l),0,delO fct0 Fp.agr.p all.l,(kp Fp.agr.p all.l).length⟩) ⟨by rw [zsqo (z8wb e)]; rfl,by simp only [zwda]; omega,by simp only; omega,by rw [zsqo (z8wb e)]; simp only [zlf2,Bool.and_true]; exact zmq5 _ _ (zp6k z93p _)⟩
      simp only [OL.v,OL.l,zgcl,zwda] at h
      rw [dlD,naS,if_neg e,if_neg e,z3e9 (by omega)]
      exact h
  obtain ⟨H1,hH1⟩ : ∃ H,mo faC (delO fct0 Fp.agr.p all.l)=H:=⟨_,rfl⟩
  obtain ⟨V1,hV1⟩ : ∃ V,dlD 0 Fp.agr all=V:=⟨_,rfl⟩
  rw [hH1,hV1] at c3
  rw [hV0,hH0] at c1 c2
  rw [hV1,hH1] at c2 hs1
  obtain ⟨L,hL⟩ : ∃ L,(naS all).l=L:=⟨_,rfl⟩
  rw [hL] at c3 hnl
  have hag:zzy4 L=zqgg all.l:=by rw [← hL]; exact z0cq
  -- their owners
  obtain ⟨A,hA⟩ : ∃ A,H1++(nmO L++[.cells [nmV H1.length L]])=A:=⟨_,rfl⟩
  have hAl:A.length=(H1++nmO L).length+1:=by rw [← hA,← List.append_assoc,List.length_append]; rfl
  have c4:=zqcg (pre:=A) (x:=s) h1
  have hcell : ∀ X,objV (A++X) (H1++nmO L).length 1=some [nmV H1.length L]:=fun X=>by
    rw [← hA]
    refine zw28 ?_ rfl
    have:=zw98 (A:=H1++nmO L) (B:=X) (c:=[nmV H1.length L])
    simpa using this
  have hsn : ∀ X k,snap (A++X) (k+1) (nmV H1.length L)=some ((nmS L).dv 1 stC):=fun X k=>by
    have:=znvg (A:=H1) (B:=[.cells [nmV H1.length L]]++X) (l:=L) (k:=k) (by omega)
    rw [← hA]; simpa using this
  have hln : ∀ X,lenD (A++X) (nmV H1.length L)=some (.int .i64 (zzy4 L).length):=fun X=>by
    have:=z9za (A:=H1) (B:=[.cells [nmV H1.length L]]++X) (l:=L)
    rw [← hA]; simpa using this
  have hsr : ∀ X,z4tt (A++X) 3 [.mp (H1++nmO L).length 1 0]=some [.ref [(nmS L).dv 1 stC]]:=fun X=>by
    rw [zrz6,zgbg,hcell,Option.bind_some,List.drop_zero,zrz6,hsn,zfu7,zfu7]
    rfl
  have c5:=zi6x (d:=⟨A++nmP s.l,[.mp (H1++nmO L).length 1 0],nmS L,zzy4 s.l,nmT s.l⟩) ⟨fun X=>by simp only [List.append_assoc]; exact hsr _,by have:=zmvi s.l; simp only; omega,fun e=>by
    simp only at e ⊢
    by_cases e2:s.l=[]
    · rw [e2]; rfl
    · exact absurd e (zb1j e2)⟩
  simp only [← z7aq,← zndu] at c5
  have hp:DS.p ⟨A++nmP s.l,[.mp (H1++nmO L).length 1 0],nmS L,zzy4 s.l,nmT s.l⟩=fun n=>decide (n ∈ zqgg all.l):=by
    funext d
    show decide (d ∈ (nmS L).l)=_
    rw [zbps (by omega),hag]
  rw [hp] at c5
  have hkp:kp (fun n=>decide (n ∈ zqgg all.l)) (zzy4 s.l)=zob0 s.l all.l:=rfl
  rw [hkp] at c5
  have hw : ∀ c:List DV,H1++(nmO L++[AObj.cells c])=(H1++nmO L)++[AObj.cells c]:=fun c=>by rw [List.append_assoc]
  have hst:objV (H1++(nmO L++[AObj.cells [.nils]])) (H1++nmO L).length 1=some [.nils]:=by
    rw [hw]; exact zw28 zw98 rfl
  have hset:(H1++(nmO L++[AObj.cells [.nils]])).set (H1++nmO L).length (.cells [nmV H1.length L])=A:=by
    rw [hw,← hA,hw,List.set_append_right _ _ (by omega),Nat.sub_self]; rfl
  have hone:(nmV H1.length L).one=true:=by unfold nmV; split<;>rfl
  have hcl:(nmV H1.length L).cells=[nmV H1.length L]:=by unfold nmV; split<;>rfl
  have hsto:=zltg (h:=H1++(nmO L++[AObj.cells [.nils]])) (id:=(H1++nmO L).length) (off:=0) (l:=[.nils]) (y:=nmV H1.length L) hcl hone (by decide)
  rw [show ([DV.nils]:List DV).set 0 (nmV H1.length L)=[nmV H1.length L] from rfl,hset] at hsto
  have hl2:(H1++nmO L).length=H1.length+(nmO L).length:=List.length_append
  rw [hl2] at hst hsto hcell c5 hAl
  obtain ⟨V2,hV2⟩ : ∃ V,nmV H1.length L=V:=⟨_,rfl⟩
  rw [hV2] at c3 hcell hsn hln hsto hcl hone
  have hs5:snap (dsH (A++nmP s.l) (delO [] (fun n=>decide (n ∈ zqgg all.l)) (zzy4 s.l)) (nmT s.l)) 3 (dsV (A++nmP s.l).length (zzy4 s.l) (nmT s.l) (zob0 s.l all.l).length)=some ((agD s.l all.l).dv 1 stC):=by
    have hkl:=zomf (p:=fun n=>decide (n ∈ zqgg all.l)) (zzy4 s.l)
    rw [hkp] at hkl
    have hdl:=zwda (p:=fun n=>decide (n ∈ zqgg all.l)) [] (zzy4 s.l)
    have:=zo40 (pre:=A++nmP s.l) (l:=delO [] (fun n=>decide (n ∈ zqgg all.l)) (zzy4 s.l)) (z:=nmT s.l) (k:=2) (m:=(zob0 s.l all.l).length) (by rw [hdl]; exact hkl)
    have ht:=zgcl (p:=fun n=>decide (n ∈ zqgg all.l)) (z:=[]) (l:=zzy4 s.l)
    rw [hkp] at ht
    rw [ht] at this
    have hal:=zumh s.l all.l
    by_cases e:s.l=[]
    · rw [e] at this ⊢; exact this
    · have e2:=zb1j e
      have e3:=z1sv (p:=fun n=>decide (n ∈ zqgg all.l)) e2
      rw [if_neg e3] at this
      rw [agD,if_neg e,zqrs (by omega),← this]
      have e4:(zzy4 s.l++nmT s.l).length=(delO [] (fun n=>decide (n ∈ zqgg all.l)) (zzy4 s.l)++nmT s.l).length:=by rw [List.length_append,List.length_append,hdl]
      congr 1
      rw [dsV,if_neg e2,dsV,if_neg e3,e4]
  obtain ⟨X5,hX5⟩ : ∃ X,dsH (A++nmP s.l) (delO [] (fun n=>decide (n ∈ zqgg all.l)) (zzy4 s.l)) (nmT s.l)=A++X:=by
    unfold dsH; split
    · exact ⟨_,rfl⟩
    · exact ⟨_,List.append_assoc ..⟩
  rw [hX5] at c5 hs5
  obtain ⟨V5,hV5⟩ : ∃ V,dsV (A++nmP s.l).length (zzy4 s.l) (nmT s.l) (zob0 s.l all.l).length=V:=⟨_,rfl⟩
  rw [hV5] at c5 hs5
  obtain ⟨V4,hV4⟩ : ∃ V,nmV A.length s.l=V:=⟨_,rfl⟩
  rw [hV4] at c4 c5
  obtain ⟨H4,hH4⟩ : ∃ H,A++nmO s.l=H:=⟨_,rfl⟩
  rw [hH4] at c4 c5
  have hcell5:=hcell X5
  have hln5:=hln X5
  rw [hag] at hln5
  obtain ⟨H5,hH5⟩ : ∃ H,A++X5=H:=⟨_,rfl⟩
  rw [hH5] at c5 hs5 hcell5 hln5
  simp (disch:=first|omega|(simp<;>omega)|fail) [-map_take,-map_drop,-map_set,-map_append,-drop_one,a109,zlxq,zcfb,zfb3,zuva,c1,c2,c3,hst,hsto,c4,c5,hcell5,hln5,hs5,rebD]
noncomputable def cReb:List DV→Option DV:=con (fun a:Sl Fct × Sl Fct=>a.1.l.length≤12∧a.2.l.length≤12) (fun a=>[a.1.dv 71 faC,a.2.dv 71 faC]) (fun a=>rebD a.1.l a.2.l)
theorem zmkz {x y:Sl Fct} (h1:x.l.length≤12) (h2:y.l.length≤12):cReb [x.dv 71 faC,y.dv 71 faC]=some (rebD x.l y.l) :=
  zlyi (f:=fun a:Sl Fct × Sl Fct=>[a.1.dv 71 faC,a.2.dv 71 faC]) (g:=fun a=>rebD a.1.l a.2.l) (by
    rintro ⟨a,b⟩ ⟨c,d⟩ e
    simp only [List.cons.injEq,and_true] at e
    rw [z4rf e.1,z4rf e.2]) (x,y) ⟨h1,h2⟩
theorem z5t3:(Con.pure cReb).Sound P 109:=z2au fun a h=>zljw mix ze91 Tryz.func109 zoj0 (z5y0 a.1 a.2 h.1 h.2)
end Go.Proofs.YtdnhbfmlklaldaaGreat
set_option linter.unusedSimpArgs false
set_option linter.unusedVariables false
namespace Go.Proofs.YtdnhbfmlklaldaaGreat
open Go Go.Am
def mmD (mx:Bool):DV→DV→Option DV
  | .int .i64 a,.int .i64 b=>some (.int .i64 (if mx then max a b else min a b))
  | _,_=>none
theorem zluv {T:Tbl} {dr mx:Bool} {t:List DV} {h:List AObj} {x y:Opd}:zn3j T dr (.mm mx [x,y]) t h=pr (mmD mx (ev t x) (ev t y)) h:=by
  simp only [zn3j,evOp,zp5p]
  cases hx:ev t x with
  | int k a =>
    cases k<;>first
      | rfl
      | (cases hy:ev t y with
         | int k b=>cases k<;>rfl
         | _=>rfl)
  | _=>rfl
theorem zjdu {mx:Bool} {a b:Int}:mmD mx (.int .i64 a) (.int .i64 b)=some (.int .i64 (if mx then max a b else min a b)):=rfl
attribute [simp] zluv zjdu
theorem z1zl {x:Sl Fct} {y:Sl Str} (hx:x.l.length≤1000) (hd : ∀ f ∈ x.l,f.docs.l.length≤1000) (hy : ∀ n ∈ y.l,n ∈ zzy4 x.l) (hl:y.l.length≤1000):zkur x y:=⟨hl,hd,fun n hn=>z7zz.1 (hy n hn)⟩
structure EnOK (l:List Fct) (n:Int):Prop where
  kl:l.length≤12
  n0:0≤n
  n1:n≤4611686018427387904
  kd : ∀ f ∈ l,f.docs.l.length≤1000
  ks:(ztt8 l ((zzy4 l).take n.toNat)).length≤12
noncomputable def zjml:List DV→Option DV:=con (fun x:Sl Fct=>x.l.length≤12) (fun x=>[x.dv 71 faC]) (fun x=>(nmS x.l).dv 1 stC)
theorem zyro {x:Sl Fct} (h:x.l.length≤12):zjml [x.dv 71 faC]=some ((nmS x.l).dv 1 stC) :=
  zlyi (f:=fun x:Sl Fct=>[x.dv 71 faC]) (g:=fun x=>(nmS x.l).dv 1 stC) (fun a b e=>by simp only [List.cons.injEq,and_true] at e; rw [z4rf e]) x h
theorem zfn6:(Con.pure zjml).Sound P 105:=z2au fun x h=>zzfj ((zv22 mix ztvz Tryz.func105 z9rf (z8o9 x h)).mono fun d h' e=>by
  obtain ⟨rfl,rfl⟩:=e
  have:=znvg (A:=[]) (B:=[]) (l:=x.l) (k:=2) (by omega)
  simpa using this)
noncomputable def T590:Tbl:=addT 105 (.pure zjml) (addT 108 (.pure cDoc) (addT 107 (.pure zzr5) (addT 106 (.pure ztk6) (addT 109 (.pure cReb) tbl0))))
theorem zrzm:T590 105 = .pure zjml:=by simp [T590]
theorem zqs0:T590 108 = .pure cDoc:=by simp [T590]
theorem zr7q:T590 107 = .pure zzr5:=by simp [T590]
theorem z5dk:T590 106 = .pure ztk6:=by simp [T590]
theorem zs05:T590 109 = .pure cReb:=by simp [T590]
theorem ztt7:T590.Sound P:=z0rp zfn6 (z0rp z6o4 (z0rp ztbv (z0rp z38w (z0rp z5t3 zr5o))))
theorem zpoi (x:Sl Fct) (n:Int) (ok:EnOK x.l n):Runs T590 a69 [x.dv 71 faC,.int .i64 n] (.agg (suC (zfyl x.l n))):=by
  refine ⟨?_⟩
  obtain ⟨k1,k2,k3,k4,k5⟩:=ok
  have c1:=zyro k1
  have hol:=zmvi x.l
  have hgl:=zbps (l:=x.l) (by omega)
  obtain ⟨m,hm⟩ : ∃ m,(zzy4 x.l).length=m:=⟨_,rfl⟩
  rw [hm] at hol
  have hl : ∀ H,lenD H ((nmS x.l).dv 1 stC)=some (.int .i64 m):=fun H=>by rw [zupj,hgl,hm]
  have hw:IntKind.i64.wrap (n-(m:Int))=n-m:=by rw [IntKind.wrap_i64]; omega
  by_cases h:(m:Int)<n
  · have h1:0<n-(m:Int):=by omega
    have hs:zfyl x.l n=zcc9 (n-m):=by unfold zfyl; rw [hm,if_pos h]
    simp (disch:=first|omega|(simp<;>omega)|fail) [-map_take,-map_drop,-map_set,-map_append,-drop_one,a69,zrzm,z5dk,c1,hl,hw,h1,h,zg94,hs]
  · have h1:¬ 0<n-(m:Int):=by omega
    have hs:zfyl x.l n=zp7s (ownN (ztt8 x.l ((zzy4 x.l).take n.toNat))):=by unfold zfyl; rw [hm,if_neg h]
    obtain ⟨k,rfl⟩ : ∃ k:Nat,n=k:=⟨n.toNat,by omega⟩
    rw [Int.toNat_natCast] at k5 hs
    have hsl : ∀ H,ziwb H 1 ((nmS x.l).dv 1 stC) none (some (.int .i64 k)) none=some (((nmS x.l).part 0 k (k == (nmS x.l).l.length)).dv 1 stC):=fun H=>z0ke zqv6 (by simp [zo77,iD,hgl,hm]; omega) (by rw [hgl,hm]; omega)
    obtain ⟨Y,hY⟩ : ∃ Y,(nmS x.l).part 0 k (k == (nmS x.l).l.length)=Y:=⟨_,rfl⟩
    have hYl:Y.l=(zzy4 x.l).take k:=by rw [← hY]; show ((nmS x.l).l.drop 0).take (k-0)=_; rw [hgl]; rfl
    rw [hY] at hsl
    have hok:zkur x Y:=z1zl (by omega) k4 (fun s hs=>List.mem_of_mem_take (hYl▸hs)) (by rw [hYl,List.length_take]; omega)
    have c2:=zk58 hok
    rw [hYl] at c2
    have c3:=zk0w (x:=ownN (ztt8 x.l ((zzy4 x.l).take k))) (by rw [zd8n (by omega)]; exact k5)
    simp (disch:=first|omega|(simp<;>omega)|fail) [-map_take,-map_drop,-map_set,-map_append,-drop_one,a69,zrzm,zqs0,zr7q,c1,hl,hw,h1,h,hsl,c2,c3,hs]
noncomputable def cEn:List DV→Option DV:=con (fun a:Sl Fct × Int=>EnOK a.1.l a.2) (fun a=>[a.1.dv 71 faC,.int .i64 a.2]) (fun a => .agg (suC (zfyl a.1.l a.2)))
theorem zo6r {x:Sl Fct} {n:Int} (h:EnOK x.l n):cEn [x.dv 71 faC,.int .i64 n]=some (.agg (suC (zfyl x.l n))) :=
  zlyi (f:=fun a:Sl Fct × Int=>[a.1.dv 71 faC,.int .i64 a.2]) (g:=fun a => .agg (suC (zfyl a.1.l a.2))) (by
    rintro ⟨a,b⟩ ⟨c,d⟩ e
    simp only [List.cons.injEq,DV.int.injEq,and_true,true_and] at e
    rw [z4rf e.1,e.2]) (x,n) h
theorem zm5m:(Con.pure cEn).Sound P 69:=z2au fun a h=>zljw mix ztt7 Tryz.func69 z713 (zpoi a.1 a.2 h)
theorem z7eu (x:Sl Fct) (h : ∀ f ∈ x.l,f.docs.l.length≤12):Runs T590 a70 [x.dv 71 faC] (.agg (suC (oneS x.l))):=by
  refine ⟨?_⟩
  cases e:x.l with
  | nil =>
    have e0:x.l.length=0:=by rw [e]; rfl
    simp (disch:=first|omega|(simp<;>omega)|fail) [-map_take,-map_drop,-map_set,-map_append,-drop_one,a70,e0,z5dk,zg94,oneS]
  | cons f r =>
    have e0:¬ x.l=[]:=by rw [e]; simp
    have hg : ∀ H,zpsc H 71 (x.dv 71 faC) 0=some (.ref (faC f)):=fun H=>by
      have:=zalo (h:=H) (x:=x) (i:=0) zs77 (by rw [e]; simp)
      rw [show ((0:Nat):Int)=0 from rfl] at this
      rw [this]; simp [e]
    have c:=zk0w (x:=f.docs) (h f (by rw [e]; simp))
    have hs:oneS (f::r)=zp7s f.docs:=rfl
    simp (disch:=first|omega|(simp<;>omega)|fail) [-map_take,-map_drop,-map_set,-map_append,-drop_one,a70,e0,hg,zr7q,c,hs]
noncomputable def cOne:List DV→Option DV:=con (fun x:Sl Fct => ∀ f ∈ x.l,f.docs.l.length≤12) (fun x=>[x.dv 71 faC]) (fun x => .agg (suC (oneS x.l)))
theorem zcl6 {x:Sl Fct} (h : ∀ f ∈ x.l,f.docs.l.length≤12):cOne [x.dv 71 faC]=some (.agg (suC (oneS x.l))) :=
  zlyi (f:=fun x:Sl Fct=>[x.dv 71 faC]) (g:=fun x => .agg (suC (oneS x.l))) (fun a b e=>by simp only [List.cons.injEq,and_true] at e; rw [z4rf e]) x h
theorem zso5:(Con.pure cOne).Sound P 70:=z2au fun x h=>zljw mix ztt7 Tryz.func70 zhcw (z7eu x h)
structure RbOK (s a:List Fct) (q:Req):Prop where
  ks:s.length≤12
  ka:a.length≤12
  n0:0≤q.n
  n1:q.n≤1000000
  m0:0≤q.m
  m1:q.m≤1000000
  kd : ∀ f ∈ s,f.docs.l.length≤1000
  kh:(ztt8 s ((zob0 s a).take q.n.toNat)).length≤12
theorem z87g (x y:Sl Fct) (q:Req) (ok:RbOK x.l y.l q):Runs T590 a72 [x.dv 71 faC,y.dv 71 faC,.agg (rqC q)] (.agg (suC (zo4d x.l y.l q))):=by
  refine ⟨?_⟩
  obtain ⟨k1,k2,k3,k4,k5,k6,k7,k8⟩:=ok
  have c1:=zmkz k1 k2
  have hal:=zumh x.l y.l
  have hag:(zqgg y.l).length≤12:=by
    have h1:=zmvi (y.l.filter fun f => !f.agr)
    have h2:=List.length_filter_le (fun f:Fct => !f.agr) y.l
    unfold zqgg; omega
  have hgl:=zk7i (s:=x.l) (a:=y.l) (by omega)
  obtain ⟨m,hm⟩ : ∃ m,(zob0 x.l y.l).length=m:=⟨_,rfl⟩
  obtain ⟨w,hw⟩ : ∃ w,(zqgg y.l).length=w:=⟨_,rfl⟩
  rw [hm] at hal
  rw [hw] at hag
  have hln : ∀ H,lenD H ((agD x.l y.l).dv 1 stC)=some (.int .i64 m):=fun H=>by rw [zupj,hgl,hm]
  have w1:IntKind.i64.wrap (q.n-(m:Int))=q.n-m:=by rw [IntKind.wrap_i64]; omega
  have w2:IntKind.i64.wrap ((w:Int)-q.m)=w-q.m:=by rw [IntKind.wrap_i64]; omega
  obtain ⟨Z,hZ⟩ : ∃ Z,z5nq x.l y.l q=Z:=⟨_,rfl⟩
  have hZ':=hZ
  unfold z5nq at hZ'
  rw [hm,hw] at hZ'
  have w3:IntKind.i64.wrap (max (q.n-(m:Int)) 0+max ((w:Int)-q.m) 0)=Z:=by rw [hZ',IntKind.wrap_i64]; omega
  unfold rebD at c1
  rw [hw] at c1
  by_cases h:0<Z
  · have hs:zo4d x.l y.l q=zcc9 Z:=by unfold zo4d; rw [hZ,if_pos h]
    simp (disch:=first|omega|(simp<;>omega)|fail) [-map_take,-map_drop,-map_set,-map_append,-drop_one,a72,zs05,z5dk,c1,hln,w1,w2,w3,h,zg94,hs]
  · have hs:zo4d x.l y.l q=zp7s (ownN (ztt8 x.l ((zob0 x.l y.l).take q.n.toNat))):=by unfold zo4d; rw [hZ,if_neg h]
    obtain ⟨k,hk⟩ : ∃ k:Nat,q.n=k:=⟨q.n.toNat,by omega⟩
    have hkm:k≤m:=by omega
    have hsl : ∀ H,ziwb H 1 ((agD x.l y.l).dv 1 stC) none (some (.int .i64 k)) none=some (((agD x.l y.l).part 0 k (k == (agD x.l y.l).l.length)).dv 1 stC):=fun H=>z0ke zqv6 (by simp [zo77,iD,hgl,hm]; omega) (by rw [hgl,hm]; exact hkm)
    obtain ⟨Y,hY⟩ : ∃ Y,(agD x.l y.l).part 0 k (k == (agD x.l y.l).l.length)=Y:=⟨_,rfl⟩
    have hYl:Y.l=(zob0 x.l y.l).take k:=by rw [← hY]; show ((agD x.l y.l).l.drop 0).take (k-0)=_; rw [hgl]; rfl
    rw [hY] at hsl
    have hok:zkur x Y:=⟨by rw [hYl,List.length_take]; omega,k7,fun n hn=>(zx4t.1 (List.mem_of_mem_take (hYl▸hn))).1⟩
    have c2:=zk58 hok
    rw [hYl] at c2
    rw [hk,Int.toNat_natCast] at k8 hs
    have c3:=zk0w (x:=ownN (ztt8 x.l ((zob0 x.l y.l).take k))) (by rw [zd8n (by omega)]; exact k8)
    rw [hk] at w1 w3
    simp (disch:=first|omega|(simp<;>omega)|fail) [-map_take,-map_drop,-map_set,-map_append,-drop_one,a72,zs05,zqs0,zr7q,c1,hln,hk,w1,w2,w3,h,hsl,c2,c3,hs]
noncomputable def cRbt:List DV→Option DV:=con (fun a:Sl Fct × Sl Fct × Req=>RbOK a.1.l a.2.1.l a.2.2) (fun a=>[a.1.dv 71 faC,a.2.1.dv 71 faC,.agg (rqC a.2.2)]) (fun a => .agg (suC (zo4d a.1.l a.2.1.l a.2.2)))
theorem zvpz {x y:Sl Fct} {q:Req} (h:RbOK x.l y.l q):cRbt [x.dv 71 faC,y.dv 71 faC,.agg (rqC q)]=some (.agg (suC (zo4d x.l y.l q))) :=
  zlyi (f:=fun a:Sl Fct × Sl Fct × Req=>[a.1.dv 71 faC,a.2.1.dv 71 faC,.agg (rqC a.2.2)]) (g:=fun a => .agg (suC (zo4d a.1.l a.2.1.l a.2.2))) (by
    rintro ⟨a,b,c⟩ ⟨a',b',c'⟩ e
    simp only [List.cons.injEq,DV.agg.injEq,and_true] at e
    rw [z4rf e.1,z4rf e.2.1,z82b e.2.2]) (x,y,q) h
theorem zwd7:(Con.pure cRbt).Sound P 72:=z2au fun a h=>zljw mix ztt7 Tryz.func72 z0xs (z87g a.1 a.2.1 a.2.2 h)
end Go.Proofs.YtdnhbfmlklaldaaGreat
set_option linter.unusedSimpArgs false
set_option linter.unusedVariables false
namespace Go.Proofs.YtdnhbfmlklaldaaGreat
open Go Go.Am
theorem z6e4 {l:List Fnd} {s:Int} {i:Nat} (h:i<l.length):decS (l.take (i+1)) s=decS (l.take i) s++(if s≤l[i].sev then l[i].dd.l else []):=by
  rw [List.take_succ_eq_append_getElem h,decS,List.filter_append,List.flatMap_append,← decS]
  congr 1
  by_cases e:s≤l[i].sev<;>simp [e]
def fnd0:Fnd:=⟨dg0,0,[],0,nilS,0,nilS,false⟩
structure FN where
  i:Nat
  o:Fnd
def S600 (x:Sl Fnd) (s:Int) (a:FN):St:=zzv7 (.int .i64 s) (gV 32 (decS (x.l.take a.i) s)) (x.dv 39 fnC) (.int .i64 x.l.length) (.int .i64 a.i) (gH dgC (.cells (fnC a.o)) (decS (x.l.take a.i) s))
structure SmN (l:List Fnd):Prop where
  n:l.length≤1000
  d : ∀ f ∈ l,f.dd.l.length≤1000
theorem zngh {l:List Fnd} {s:Int} {i:Nat} (h:SmN l):(decS (l.take i) s).length≤1000000:=by
  refine zycp (by rw [List.length_take]; have:=h.n; omega) fun f hf=>h.d f (List.mem_of_mem_take hf)
set_option maxRecDepth 20000 in
theorem z94j (x:Sl Fnd) (s:Int) (ok:SmN x.l):Runs tbl0 a48 [x.dv 39 fnC,.int .i64 s] ((ownN (decS x.l s)).dv 32 dgC):=by
  refine ⟨?_⟩
  have hb:=x.b
  simp (disch:=first|omega|(simp<;>omega)|fail) [-map_take,-map_drop,-map_set,-map_append,-drop_one,a48]
  refine zlm5 (S600 x s) (fun a=>x.l.length-a.i) (fun a=>a.i≤x.l.length) ⟨0,fnd0⟩ (z515 (by simp (disch:=first|omega|(simp<;>omega)|fail) [-map_take,-map_drop,-map_set,-map_append,-drop_one,S600,zzv7,decS,gV]) (by simp (disch:=first|omega|(simp<;>omega)|fail) [-map_take,-map_drop,-map_set,-map_append,-drop_one,S600,zzv7,decS,gH])) (by simp) (fun a hi => ?_)
  obtain ⟨i,o⟩:=a
  simp only at hi
  simp only [S600]
  have hlen:=zngh (s:=s) (i:=i) ok
  obtain ⟨L,hL⟩ : ∃ L,decS (x.l.take i) s=L:=⟨_,rfl⟩
  by_cases h:i<x.l.length
  · have h':(i:Int)<x.l.length:=by omega
    have hg : ∀ H,zpsc H 39 (x.dv 39 fnC) i=some (.ref (fnC x.l[i])):=fun H=>zalo z0o0 h
    have hs:=z6e4 (s:=s) h
    have hdd:=ok.d x.l[i] (List.getElem_mem h)
    obtain ⟨F,hF⟩ : ∃ F,x.l[i]=F:=⟨_,rfl⟩
    rw [hF] at hg hs hdd
    rw [hL] at hs hlen ⊢
    have hv : ∀ H,visY H (F.dd.dv 32 dgC)=some (F.dd.l.length,F.dd.l.flatMap dgC):=fun H=>zwaa z1t1
    by_cases hq:s≤F.sev
    case neg =>
      rw [if_neg hq,List.append_nil] at hs
      simp (disch:=first|omega|(simp<;>omega)|fail) [-map_take,-map_drop,-map_set,-map_append,-drop_one,zlq3,zzv7,h,h',hg,hq]
      exact ⟨⟨i+1,o⟩,zju2 (tail:=[.cells (fnC F)]) (by simp (disch:=first|omega|(simp<;>omega)|fail) [-map_take,-map_drop,-map_set,-map_append,-drop_one,S600,zzv7,hs]) (by simp (disch:=first|omega|(simp<;>omega)|fail) [-map_take,-map_drop,-map_set,-map_append,-drop_one,S600,zzv7,hs]) (Nat.zero_le _) (by simp (disch:=first|omega|(simp<;>omega)|fail) [-map_take,-map_drop,-map_set,-map_append,-drop_one,S600,zzv7,hs,z1r6,Am.below,zuk9]) (by simp only [S600,zzv7,hs]; exact z5x4 z3ot (zl9f _)),by simp only; omega,by simp only; omega⟩
    rw [if_pos hq] at hs
    by_cases e:L=[]
    · subst e
      rw [List.nil_append] at hs
      by_cases e2:F.dd.l=[]
      · have hap:=zw6v (h:=[AObj.cells (fnC F)]) (s:=32) (b:=32) (by decide) (by decide)
        have hv2 : ∀ H,visY H (F.dd.dv 32 dgC)=some (0,[]):=fun H=>by rw [hv,e2]; rfl
        rw [e2] at hs
        simp (disch:=first|omega|(simp<;>omega)|fail) [-map_take,-map_drop,-map_set,-map_append,-drop_one,zlq3,zzv7,h,h',hg,hq,zq1z,z1yk,hv2,hap]
        exact ⟨⟨i+1,o⟩,zju2 (tail:=[.cells (fnC F)]) (by simp (disch:=first|omega|(simp<;>omega)|fail) [-map_take,-map_drop,-map_set,-map_append,-drop_one,S600,zzv7,hs,zq1z]) (by simp (disch:=first|omega|(simp<;>omega)|fail) [-map_take,-map_drop,-map_set,-map_append,-drop_one,S600,zzv7,hs,z1yk]) (Nat.zero_le _) (by simp (disch:=first|omega|(simp<;>omega)|fail) [-map_take,-map_drop,-map_set,-map_append,-drop_one,S600,zzv7,hs,zq1z,z1r6,Am.below]) (by simp (disch:=first|omega|(simp<;>omega)|fail) [-map_take,-map_drop,-map_set,-map_append,-drop_one,S600,zzv7,hs,z1yk,zlf2]),by simp only; omega,by simp only; omega⟩
      · have hpos:0<F.dd.l.length:=List.length_pos_iff.2 e2
        have hcl:(F.dd.l.flatMap dgC).length=F.dd.l.length*32:=z1rq z1t1 _
        have hap:=zsuq (h:=[AObj.cells (fnC F)]) (s:=32) (b:=32) (m:=F.dd.l.length) (cs:=F.dd.l.flatMap dgC) (by decide) (by decide) hcl.symm hpos (by omega)
        rw [hcl] at hap
        have e3:=z6zt (K:=32) e2
        have e4:=zju3 (f:=dgC) (o := .cells (fnC F)) e2
        have e5:fl dgC F.dd.l=F.dd.l.flatMap dgC:=rfl
        simp only [List.length_cons,List.length_nil,Nat.zero_add] at hap
        simp (disch:=first|omega|(simp<;>omega)|fail) [-map_take,-map_drop,-map_set,-map_append,-drop_one,zlq3,zzv7,h,h',hg,hq,zq1z,z1yk,hv,hap]
        exact ⟨⟨i+1,F⟩,z515 (by simp (disch:=first|omega|(simp<;>omega)|fail) [-map_take,-map_drop,-map_set,-map_append,-drop_one,S600,zzv7,hs,e3]) (by simp (disch:=first|omega|(simp<;>omega)|fail) [-map_take,-map_drop,-map_set,-map_append,-drop_one,S600,zzv7,hs,e4,e5]),by simp only; omega,by simp only; omega⟩
    · have hap:=zvrp (h:=[AObj.cells (fnC o),.cells (fl dgC L),.cells (fnC F)]) (id:=1) (b:=32) (l:=L) (m:=F.dd.l.length) (cs:=F.dd.l) z1t1 (by decide) (by decide) (fun _=>zoxk) rfl (by omega) (by simp [objV,ziu0,z8lx z1t1])
      have e1:=z6zt (K:=32) e
      have e2:=zju3 (f:=dgC) (o := .cells (fnC o)) e
      have e0:L++F.dd.l≠[]:=by simp [e]
      have e3:=z6zt (K:=32) e0
      have e4:=zju3 (f:=dgC) (o := .cells (fnC o)) e0
      rw [List.length_append] at e3
      simp (disch:=first|omega|(simp<;>omega)|fail) [-map_take,-map_drop,-map_set,-map_append,-drop_one,zlq3,zzv7,h,h',hg,hq,e1,e2,hv,hap]
      exact ⟨⟨i+1,o⟩,zju2 (tail:=[.cells (fnC F)]) (by simp (disch:=first|omega|(simp<;>omega)|fail) [-map_take,-map_drop,-map_set,-map_append,-drop_one,S600,zzv7,hs,e3]) (by simp (disch:=first|omega|(simp<;>omega)|fail) [-map_take,-map_drop,-map_set,-map_append,-drop_one,S600,zzv7,hs,e4]) (Nat.zero_le _) (by simp (disch:=first|omega|(simp<;>omega)|fail) [-map_take,-map_drop,-map_set,-map_append,-drop_one,S600,zzv7,hs,e3,e4,z1r6,Am.below]) (by simp only [S600,zzv7,hs]; exact z5x4 z3ot (zl9f _)),by simp only; omega,by simp only; omega⟩
  · have h':¬ (i:Int)<x.l.length:=by omega
    have ht:x.l.take i=x.l:=List.take_of_length_le (by omega)
    rw [ht] at hlen ⊢
    have hsn:=znhj (f:=dgC) (o := .cells (fnC o)) (l:=decS x.l s) (X:=[]) z1t1 z3ot (by omega)
    rw [List.append_nil] at hsn
    simp (disch:=first|omega|(simp<;>omega)|fail) [-map_take,-map_drop,-map_set,-map_append,-drop_one,zlq3,zzv7,h,h',hsn]
noncomputable def cFnI (A:List Fnd→Prop) (g:List Fnd→Int→DV):List DV→Option DV:=con (fun a:Sl Fnd × Int=>A a.1.l) (fun a=>[a.1.dv 39 fnC,.int .i64 a.2]) (fun a=>g a.1.l a.2)
theorem ze20 {A:List Fnd→Prop} {g:List Fnd→Int→DV} {x:Sl Fnd} {s:Int} (h:A x.l):cFnI A g [x.dv 39 fnC,.int .i64 s]=some (g x.l s) :=
  zlyi (A:=fun a:Sl Fnd × Int=>A a.1.l) (f:=fun a:Sl Fnd × Int=>[a.1.dv 39 fnC,.int .i64 a.2]) (g:=fun a=>g a.1.l a.2) (by
    rintro ⟨a,b⟩ ⟨c,d⟩ e
    simp only [List.cons.injEq,DV.int.injEq,and_true,true_and] at e
    rw [zedu e.1,e.2]) (x,s) h
noncomputable def gDec (l:List Fnd) (s:Int):DV:=(ownN (decS l s)).dv 32 dgC
theorem zdlo:(Con.pure (cFnI SmN gDec)).Sound P 48:=z2au fun a h=>zljw mix zr5o Tryz.func48 zwi2 (z94j a.1 a.2 h)
theorem zgaf {l:List Fnd} {i:Nat} (h:i<l.length):zu7t (l.take (i+1))=zu7t (l.take i)+(if l[i].con then 1 else 0):=by
  rw [List.take_succ_eq_append_getElem h,zu7t,zu7t,List.filter_append,List.length_append]
  by_cases e:l[i].con=true<;>simp [e]
theorem zcsy {l:List Fnd} {i:Nat}:0≤zu7t (l.take i)∧zu7t (l.take i)≤i:=by
  have:=List.length_filter_le (fun f:Fnd=>f.con) (l.take i)
  rw [List.length_take] at this
  unfold zu7t; omega
def S601 (x:Sl Fnd) (i:Nat):St:=zcu8 (.int .i64 (zu7t (x.l.take i))) (x.dv 39 fnC) (.int .i64 x.l.length) (.int .i64 i) []
set_option maxRecDepth 20000 in
theorem zid8 (x:Sl Fnd):Runs tbl0 a78 [x.dv 39 fnC] (.int .i64 (zu7t x.l)):=by
  refine ⟨?_⟩
  have hb:=x.b
  simp (disch:=first|omega|(simp<;>omega)|fail) [-map_take,-map_drop,-map_set,-map_append,-drop_one,a78]
  refine zlm5 (S601 x) (fun i=>x.l.length-i) (fun i=>i≤x.l.length) 0 (z515 (by simp (disch:=first|omega|(simp<;>omega)|fail) [-map_take,-map_drop,-map_set,-map_append,-drop_one,S601,zcu8,zu7t]) (by simp (disch:=first|omega|(simp<;>omega)|fail) [-map_take,-map_drop,-map_set,-map_append,-drop_one,S601,zcu8])) (by simp) (fun i hi => ?_)
  simp only [S601]
  have hc:=zcsy (l:=x.l) (i:=i)
  by_cases h:i<x.l.length
  · have h':(i:Int)<x.l.length:=by omega
    have hg : ∀ H,zpsc H 39 (x.dv 39 fnC) i=some (.ref (fnC x.l[i])):=fun H=>zalo z0o0 h
    have hs:=zgaf h
    obtain ⟨F,hF⟩ : ∃ F,x.l[i]=F:=⟨_,rfl⟩
    rw [hF] at hg hs
    obtain ⟨C,hC⟩ : ∃ C,zu7t (x.l.take i)=C:=⟨_,rfl⟩
    rw [hC] at hs hc ⊢
    cases hq:F.con with
    | true =>
      rw [hq,if_pos rfl] at hs
      simp (disch:=first|omega|(simp<;>omega)|fail) [-map_take,-map_drop,-map_set,-map_append,-drop_one,zoac,zcu8,h,h',hg,hq]
      exact ⟨i+1,zju2 (tail:=[.cells (fnC F)]) (by simp (disch:=first|omega|(simp<;>omega)|fail) [-map_take,-map_drop,-map_set,-map_append,-drop_one,S601,zcu8,hs]) (by simp (disch:=first|omega|(simp<;>omega)|fail) [-map_take,-map_drop,-map_set,-map_append,-drop_one,S601,zcu8]) (Nat.zero_le _) (by simp (disch:=first|omega|(simp<;>omega)|fail) [-map_take,-map_drop,-map_set,-map_append,-drop_one,S601,zcu8,z1r6,Am.below]) (by simp (disch:=first|omega|(simp<;>omega)|fail) [-map_take,-map_drop,-map_set,-map_append,-drop_one,S601,zcu8,zlf2]),by omega,by omega⟩
    | false =>
      rw [hq,if_neg (by simp),Int.add_zero] at hs
      simp (disch:=first|omega|(simp<;>omega)|fail) [-map_take,-map_drop,-map_set,-map_append,-drop_one,zoac,zcu8,h,h',hg,hq]
      exact ⟨i+1,zju2 (tail:=[.cells (fnC F)]) (by simp (disch:=first|omega|(simp<;>omega)|fail) [-map_take,-map_drop,-map_set,-map_append,-drop_one,S601,zcu8,hs]) (by simp (disch:=first|omega|(simp<;>omega)|fail) [-map_take,-map_drop,-map_set,-map_append,-drop_one,S601,zcu8]) (Nat.zero_le _) (by simp (disch:=first|omega|(simp<;>omega)|fail) [-map_take,-map_drop,-map_set,-map_append,-drop_one,S601,zcu8,z1r6,Am.below]) (by simp (disch:=first|omega|(simp<;>omega)|fail) [-map_take,-map_drop,-map_set,-map_append,-drop_one,S601,zcu8,zlf2]),by omega,by omega⟩
  · have h':¬ (i:Int)<x.l.length:=by omega
    have ht:x.l.take i=x.l:=List.take_of_length_le (by omega)
    simp (disch:=first|omega|(simp<;>omega)|fail) [-map_take,-map_drop,-map_set,-map_append,-drop_one,zoac,zcu8,h,h',ht]
noncomputable def cCon:List DV→Option DV:=con (fun _=>True) (fun x:Sl Fnd=>[x.dv 39 fnC]) (fun x => .int .i64 (zu7t x.l))
theorem zs4w {x:Sl Fnd}:cCon [x.dv 39 fnC]=some (.int .i64 (zu7t x.l)):=zsn4 (f:=fun x:Sl Fnd=>[x.dv 39 fnC]) (g:=fun x => .int .i64 (zu7t x.l)) (fun a b e=>by simp only [List.cons.injEq,and_true] at e; exact zedu e) x
theorem ztc6:(Con.pure cCon).Sound P 78:=z2au fun x _=>zljw mix zr5o Tryz.func78 zetr (zid8 x)
theorem zhlf (f:Fnd):Runs tbl0 a113 [.agg (fnC f)] (.bool (zk2r f)):=by
  refine ⟨?_⟩
  by_cases h:f.st=3
  · simp (disch:=first|omega|(simp<;>omega)|fail) [-map_take,-map_drop,-map_set,-map_append,-drop_one,a113,h,zk2r]
  · simp (disch:=first|omega|(simp<;>omega)|fail) [-map_take,-map_drop,-map_set,-map_append,-drop_one,a113,h,zk2r]
noncomputable def z5il:List DV→Option DV:=con (fun _=>True) (fun f:Fnd=>[.agg (fnC f)]) (fun f => .bool (zk2r f))
theorem ztzi {f:Fnd}:z5il [.agg (fnC f)]=some (.bool (zk2r f)):=zsn4 (f:=fun f:Fnd=>[.agg (fnC f)]) (g:=fun f => .bool (zk2r f)) (fun a b e=>by simp only [List.cons.injEq,DV.agg.injEq,and_true] at e; exact ziuj e) f
noncomputable def cCD:List DV→Option DV:=con (fun _=>True) (fun x:Sl Dg=>[x.dv 32 dgC]) (fun x=>x.clone.dv 32 dgC)
theorem zgv2 {x:Sl Dg}:cCD [x.dv 32 dgC]=some (x.clone.dv 32 dgC) :=
  zsn4 (f:=fun x:Sl Dg=>[x.dv 32 dgC]) (fun a b e=>by simp only [List.cons.injEq,and_true] at e; exact z42k e) x
theorem zi7c:(Con.pure cCD).Sound P 114:=z2au fun x _ =>
  zzfj ((zv22 mix zr5o Tryz.func114 zgcx (zp9z x)).mono fun d h' e=>by
    obtain ⟨rfl,rfl⟩:=e
    by_cases h:x.l=[]
    · rw [zpj6 h]; exact z7y9
    · have hs:=z29t (f:=dgC) z1t1 z3ot (pre:=[]) (l:=x.l) (m:=x.l.length)
      rw [List.take_length] at hs
      rw [z2ra h,zsqo h]
      refine hs.trans ?_
      simp [Sl.clone,Sl.dv,slD,h])
noncomputable def T601:Tbl:=addT 113 (.pure z5il) (addT 114 (.pure cCD) tbl0)
theorem z6az:T601 113 = .pure z5il:=by simp [T601]
theorem z5k8:T601 114 = .pure cCD:=by simp [T601]
theorem ztl1:T601.Sound P:=z0rp (z2au fun f _=>zljw mix zr5o Tryz.func113 zz1e (zhlf f)) (z0rp zi7c zr5o)
def Fnd.cl (f:Fnd):Fnd:={ f with hd:=f.hd.clone,dd:=f.dd.clone }
def opL (l:List Fnd) (s:Int):List Fnd:=(zcm1 l s).map Fnd.cl
theorem zo83 {l:List Fnd} {s:Int} {i:Nat} (h:i<l.length):opL (l.take (i+1)) s=opL (l.take i) s++(if zk2r l[i]&&decide (s≤l[i].sev) then [l[i].cl] else []):=by
  rw [List.take_succ_eq_append_getElem h,opL,zcm1,List.filter_append,List.map_append,← zcm1,← opL]
  congr 1
  by_cases e:(zk2r l[i]&&decide (s≤l[i].sev))=true<;>simp [e]
def S602 (x:Sl Fnd) (s:Int) (a:FN):St:=zu12 (.int .i64 s) (gV 39 (opL (x.l.take a.i) s)) (x.dv 39 fnC) (.int .i64 x.l.length) (.int .i64 a.i) (gH fnC (.cells (fnC a.o)) (opL (x.l.take a.i) s))
theorem zl2l {f:Fnd} {y:Sl Dg}:zk7y (fnC f) 35 [y.dv 32 dgC]=fnC { f with hd:=y }:=by
  unfold zk7y
  rw [show (fnC f).take 35=dgC f.inv++[.int .i64 f.comp,.str f.id,.int .i64 f.sev] from ?_,show (fnC f).drop (35+[y.dv 32 dgC].length)=[.int .i64 f.st,f.dd.dv 32 dgC,.bool f.con] from ?_]
  · simp [fnC]
  · show (fnC f).drop 36=_
    rw [show (36:Nat)=32+4 from rfl,← List.drop_drop,z19g]; rfl
  · rw [fnC,List.take_append,List.take_of_length_le (by rw [z1t1]; decide),z1t1]; rfl
theorem ztbb {f:Fnd} {y:Sl Dg}:zk7y (fnC f) 37 [y.dv 32 dgC]=fnC { f with dd:=y }:=by
  unfold zk7y
  rw [show (fnC f).take 37=dgC f.inv++[.int .i64 f.comp,.str f.id,.int .i64 f.sev,f.hd.dv 32 dgC,.int .i64 f.st] from ?_,show (fnC f).drop (37+[y.dv 32 dgC].length)=[.bool f.con] from ?_]
  · simp [fnC]
  · show (fnC f).drop 38=_
    rw [show (38:Nat)=32+6 from rfl,← List.drop_drop,z19g]; rfl
  · rw [fnC,List.take_append,List.take_of_length_le (by rw [z1t1]; decide),z1t1]; rfl
theorem zbcp {h:List AObj} {id off:Nat} {v:DV} {l:List DV} (hc:v.cells=[v]) (ho:v.one=true) (hl:off<l.length):zy6o h id 1 off v (some l)=some (.junk,h.set id (.cells (zk7y l off [v]))):=by
  simp only [zy6o,hc,List.length_cons,List.length_nil,List.all_cons,List.all_nil,ho,Bool.and_self]
  first|done|rw [if_pos ⟨trivial,by omega,trivial⟩]
theorem z92o {h:List AObj} {id:Nat} {f:Fnd} {y:Sl Dg}:zy6o h id 1 35 (y.dv 32 dgC) (some (fnC f))=some (.junk,h.set id (.cells (fnC { f with hd:=y }))):=by
  rw [zbcp (zs9p y) (z4ja y) (by rw [z0o0]; decide),zl2l]
theorem zw46 {h:List AObj} {id:Nat} {f:Fnd} {y:Sl Dg}:zy6o h id 1 37 (y.dv 32 dgC) (some (fnC f))=some (.junk,h.set id (.cells (fnC { f with dd:=y }))):=by
  rw [zbcp (zs9p y) (z4ja y) (by rw [z0o0]; decide),ztbb]
set_option maxRecDepth 20000 in
theorem z0l3 (x:Sl Fnd) (s:Int) (hn:x.l.length≤1000000):Runs T601 a75 [x.dv 39 fnC,.int .i64 s] ((ownN (opL x.l s)).dv 39 fnC):=by
  refine ⟨?_⟩
  have hb:=x.b
  simp (disch:=first|omega|(simp<;>omega)|fail) [-map_take,-map_drop,-map_set,-map_append,-drop_one,a75]
  refine zlm5 (S602 x s) (fun a=>x.l.length-a.i) (fun a=>a.i≤x.l.length) ⟨0,fnd0⟩ (z515 (by simp (disch:=first|omega|(simp<;>omega)|fail) [-map_take,-map_drop,-map_set,-map_append,-drop_one,S602,zu12,opL,zcm1,gV]) (by simp (disch:=first|omega|(simp<;>omega)|fail) [-map_take,-map_drop,-map_set,-map_append,-drop_one,S602,zu12,opL,zcm1,gH])) (by simp) (fun a hi => ?_)
  obtain ⟨i,o⟩:=a
  simp only at hi
  simp only [S602]
  have hlen:(opL (x.l.take i) s).length≤i:=by
    have:=List.length_filter_le (fun f=>zk2r f&&decide (s≤f.sev)) (x.l.take i)
    rw [List.length_take] at this
    unfold opL zcm1; rw [List.length_map]; omega
  obtain ⟨L,hL⟩ : ∃ L,opL (x.l.take i) s=L:=⟨_,rfl⟩
  by_cases h:i<x.l.length
  · have h':(i:Int)<x.l.length:=by omega
    have hg : ∀ H,zpsc H 39 (x.dv 39 fnC) i=some (.ref (fnC x.l[i])):=fun H=>zalo z0o0 h
    have hs:=zo83 (s:=s) h
    obtain ⟨F,hF⟩ : ∃ F,x.l[i]=F:=⟨_,rfl⟩
    rw [hF] at hg hs
    rw [hL] at hs hlen ⊢
    by_cases hq:(zk2r F&&decide (s≤F.sev))=true
    case neg =>
      rw [if_neg hq,List.append_nil] at hs
      cases ho:zk2r F with
      | false =>
        simp (disch:=first|omega|(simp<;>omega)|fail) [-map_take,-map_drop,-map_set,-map_append,-drop_one,zjzl,zu12,h,h',hg,z6az,ztzi,ho]
        exact ⟨⟨i+1,o⟩,zju2 (tail:=[.cells (fnC F)]) (by simp (disch:=first|omega|(simp<;>omega)|fail) [-map_take,-map_drop,-map_set,-map_append,-drop_one,S602,zu12,hs]) (by simp (disch:=first|omega|(simp<;>omega)|fail) [-map_take,-map_drop,-map_set,-map_append,-drop_one,S602,zu12,hs]) (Nat.zero_le _) (by simp (disch:=first|omega|(simp<;>omega)|fail) [-map_take,-map_drop,-map_set,-map_append,-drop_one,S602,zu12,hs,z1r6,Am.below,zuk9]) (by simp only [S602,zu12,hs]; exact z5x4 zl9f (zl9f _)),by simp only; omega,by simp only; omega⟩
      | true =>
        have hq2:¬ s≤F.sev:=fun q=>hq (by simp [ho,q])
        simp (disch:=first|omega|(simp<;>omega)|fail) [-map_take,-map_drop,-map_set,-map_append,-drop_one,zjzl,zu12,h,h',hg,z6az,ztzi,ho,hq2]
        exact ⟨⟨i+1,o⟩,zju2 (tail:=[.cells (fnC F)]) (by simp (disch:=first|omega|(simp<;>omega)|fail) [-map_take,-map_drop,-map_set,-map_append,-drop_one,S602,zu12,hs]) (by simp (disch:=first|omega|(simp<;>omega)|fail) [-map_take,-map_drop,-map_set,-map_append,-drop_one,S602,zu12,hs]) (Nat.zero_le _) (by simp (disch:=first|omega|(simp<;>omega)|fail) [-map_take,-map_drop,-map_set,-map_append,-drop_one,S602,zu12,hs,z1r6,Am.below,zuk9]) (by simp only [S602,zu12,hs]; exact z5x4 zl9f (zl9f _)),by simp only; omega,by simp only; omega⟩
    rw [if_pos hq] at hs
    rw [Bool.and_eq_true,decide_eq_true_eq] at hq
    obtain ⟨ho,hq⟩:=hq
    have hcl:fnC { F with hd:=F.hd.clone,dd:=F.dd.clone }=fnC F.cl:=rfl
    obtain ⟨G,hG⟩ : ∃ G,F.cl=G:=⟨_,rfl⟩
    rw [hG] at hs hcl
    by_cases e:L=[]
    · subst e
      rw [List.nil_append] at hs
      have hap:=zsuq (h:=[AObj.cells (fnC G)]) (s:=39) (b:=128) (m:=1) (cs:=fnC G) (by decide) (by decide) (by rw [z0o0]) (by decide) (by decide)
      simp only [z0o0,List.length_cons,List.length_nil] at hap
      simp (disch:=first|omega|(simp<;>omega)|fail) [-map_take,-map_drop,-map_set,-map_append,-drop_one,zjzl,zu12,h,h',hg,z6az,z5k8,ztzi,zgv2,ho,hq,zq1z,z1yk,z92o,zw46,hcl,hap]
      have e1:gV 39 [G] = .ms 1 39 0 39 1 39:=rfl
      have e2:gH fnC (.cells (fnC G)) [G]=[.cells (fnC G),.cells (fnC G)]:=by rw [zju3 (by simp),z4hs]
      exact ⟨⟨i+1,G⟩,z515 (by simp (disch:=first|omega|(simp<;>omega)|fail) [-map_take,-map_drop,-map_set,-map_append,-drop_one,S602,zu12,hs,e1]) (by simp (disch:=first|omega|(simp<;>omega)|fail) [-map_take,-map_drop,-map_set,-map_append,-drop_one,S602,zu12,hs,e2]),by simp only; omega,by simp only; omega⟩
    · have hap:=zkg3 (h:=[AObj.cells (fnC o),.cells (fl fnC L),.cells (fnC G)]) (id:=1) (b:=128) (l:=L) (x:=G) z0o0 (by decide) (by decide) (fun _=>z28w) (by omega) (by simp [objV,ziu0,z8lx z0o0])
      have q1:=z6zt (K:=39) e
      have q2:=zju3 (f:=fnC) (o := .cells (fnC o)) e
      simp (disch:=first|omega|(simp<;>omega)|fail) [-map_take,-map_drop,-map_set,-map_append,-drop_one,zjzl,zu12,h,h',hg,z6az,z5k8,ztzi,zgv2,ho,hq,q1,q2,z92o,zw46,hcl,hap]
      have e1:=zjyf (K:=39) (l:=L) (x:=G)
      have e2:=zddm (f:=fnC) (o := .cells (fnC o)) (l:=L) (x:=G)
      exact ⟨⟨i+1,o⟩,zju2 (tail:=[.cells (fnC G)]) (by simp (disch:=first|omega|(simp<;>omega)|fail) [-map_take,-map_drop,-map_set,-map_append,-drop_one,S602,zu12,hs,e1]) (by simp (disch:=first|omega|(simp<;>omega)|fail) [-map_take,-map_drop,-map_set,-map_append,-drop_one,S602,zu12,hs,e2]) (Nat.zero_le _) (by simp (disch:=first|omega|(simp<;>omega)|fail) [-map_take,-map_drop,-map_set,-map_append,-drop_one,S602,zu12,hs,z1r6,Am.below,e1,e2]) (by simp only [S602,zu12,hs]; exact z5x4 zl9f (zl9f _)),by simp only; omega,by simp only; omega⟩
  · have h':¬ (i:Int)<x.l.length:=by omega
    have ht:x.l.take i=x.l:=List.take_of_length_le (by omega)
    rw [ht] at hlen ⊢
    have hsn:=znhj (f:=fnC) (o := .cells (fnC o)) (l:=opL x.l s) (X:=[]) z0o0 zl9f (by omega)
    rw [List.append_nil] at hsn
    simp (disch:=first|omega|(simp<;>omega)|fail) [-map_take,-map_drop,-map_set,-map_append,-drop_one,zjzl,zu12,h,h',hsn]
noncomputable def gOpn (l:List Fnd) (s:Int):DV:=(ownN (opL l s)).dv 39 fnC
theorem z2pr:(Con.pure (cFnI (fun l=>l.length≤1000000) gOpn)).Sound P 75:=z2au fun a h=>zljw mix ztl1 Tryz.func75 zrvd (z0l3 a.1 a.2 h)
end Go.Proofs.YtdnhbfmlklaldaaGreat
set_option linter.unusedSimpArgs false
set_option linter.unusedVariables false
namespace Go.Proofs.YtdnhbfmlklaldaaGreat
open Go Go.Am
theorem zg1n {s:Str}:zt9v s=true↔1≤s.length∧s.length≤64 ∧ ∀ j (h:j<s.length),zh9a (decide (j=0)) s[j]=true:=by
  unfold zt9v
  cases s with
  | nil=>simp
  | cons b r =>
    simp only [Bool.and_eq_true,decide_eq_true_eq,List.all_eq_true,and_assoc]
    refine and_congr_right fun _=>and_congr_right fun _=>⟨fun ⟨h1,h2⟩ j hj => ?_,fun h=>⟨h 0 (by simp),fun x hx => ?_⟩⟩
    · cases j with
      | zero=>simpa using h1
      | succ j=>simpa using h2 _ (List.getElem_mem (by simpa using hj))
    · obtain ⟨j,hj,e⟩:=List.getElem_of_mem hx
      have:=h (j+1) (by simpa using hj)
      simpa [e] using this
def S610 (s:Str) (i:Nat):St:=zcir (.str s) (.int .i64 i) []
theorem zrln (s:Str):Runs tbl0 a139 [.str s] (.bool (zt9v s)):=by
  refine ⟨?_⟩
  by_cases h1:s.length<1
  · have h1':(s.length:Int)<1:=by omega
    have hr:zt9v s=false:=by
      cases h:zt9v s with
      | false=>rfl
      | true=>have:=zg1n.1 h; omega
    simp (disch:=first|omega|(simp<;>omega)|fail) [-map_take,-map_drop,-map_set,-map_append,-drop_one,a139,h1,h1',hr]
  by_cases h2:64<s.length
  · have h1':¬ (s.length:Int)<1:=by omega
    have h2':(64:Int)<s.length:=by omega
    have hr:zt9v s=false:=by
      cases h:zt9v s with
      | false=>rfl
      | true=>have:=zg1n.1 h; omega
    simp (disch:=first|omega|(simp<;>omega)|fail) [-map_take,-map_drop,-map_set,-map_append,-drop_one,a139,h1,h1',h2,h2',hr]
  have h1':¬ (s.length:Int)<1:=by omega
  have h2':¬ (64:Int)<s.length:=by omega
  simp (disch:=first|omega|(simp<;>omega)|fail) [-map_take,-map_drop,-map_set,-map_append,-drop_one,a139,h1,h1',h2,h2']
  refine zlm5 (S610 s) (fun i=>s.length-i) (fun i=>i≤s.length ∧ ∀ j (h:j<s.length),j<i→zh9a (decide (j=0)) s[j]=true) 0 (z515 (by simp (disch:=first|omega|(simp<;>omega)|fail) [-map_take,-map_drop,-map_set,-map_append,-drop_one,S610,zcir]) (by simp (disch:=first|omega|(simp<;>omega)|fail) [-map_take,-map_drop,-map_set,-map_append,-drop_one,S610,zcir])) ⟨by omega,fun j _ h=>by omega⟩ (fun i hi => ?_)
  obtain ⟨k1,k2⟩:=hi
  simp only [S610]
  by_cases h:i<s.length
  case neg =>
    have h':¬ (i:Int)<s.length:=by omega
    have hr:zt9v s=true:=zg1n.2 ⟨by omega,by omega,fun j hj=>k2 j hj (by omega)⟩
    simp (disch:=first|omega|(simp<;>omega)|fail) [-map_take,-map_drop,-map_set,-map_append,-drop_one,z9lx,zcir,h,h',hr]
  have h':(i:Int)<s.length:=by omega
  obtain ⟨c,hc⟩ : ∃ c,s[i].toBitVec=c:=⟨_,rfl⟩
  have hn:zh9a (decide (i=0)) s[i]=(((decide (97#8≤c)&&decide (c≤122#8))||(decide (48#8≤c)&&decide (c≤57#8)))||(!decide (i=0)&&(decide (c=46#8)||decide (c=95#8)||decide (c=45#8)))):=by unfold zh9a; rw [hc]
  have acc:zh9a (decide (i=0)) s[i]=true → ∀ j (h:j<s.length),j<i+1→zh9a (decide (j=0)) s[j]=true:=fun e j hj hlt=>by
    by_cases q:j=i
    · subst q; exact e
    · exact k2 j hj (by omega)
  have rej:zh9a (decide (i=0)) s[i]=false→zt9v s=false:=fun e=>by
    cases q:zt9v s with
    | false=>rfl
    | true=>have:=(zg1n.1 q).2.2 i h; rw [e] at this; cases this
  by_cases a1:97#8≤c
  case neg =>
    by_cases a3:48#8≤c
    case neg =>
      by_cases z:i=0
      case pos =>
        subst z
        have hne:¬ s=[]:=fun q=>by rw [q] at h; simp at h
        have e:=rej (by rw [hn]; simp [a1,a3,hne])
        simp (disch:=first|omega|(simp<;>omega)|fail) [-map_take,-map_drop,-map_set,-map_append,-drop_one,z9lx,zcir,h,h',hc,e,a1,a3,hne]
      have zi:(0:Int)<i:=by omega
      have zn:0<i:=by omega
      by_cases b46:c=46#8
      case pos =>
        have d46:(c == 46#8)=true:=by simp [b46]
        have e:=acc (by rw [hn]; simp [a1,a3,z,zi,zn,b46])
        simp (disch:=first|omega|(simp<;>omega)|fail) [-map_take,-map_drop,-map_set,-map_append,-drop_one,z9lx,zcir,h,h',hc,a1,a3,z,zi,zn,b46]
        exact ⟨i+1,z515 (by simp (disch:=first|omega|(simp<;>omega)|fail) [-map_take,-map_drop,-map_set,-map_append,-drop_one,S610,zcir]) (by simp (disch:=first|omega|(simp<;>omega)|fail) [-map_take,-map_drop,-map_set,-map_append,-drop_one,S610,zcir]),by omega,⟨by omega,e⟩⟩
      have d46:(c == 46#8)=false:=by simp [b46]
      by_cases b95:c=95#8
      case pos =>
        have d95:(c == 95#8)=true:=by simp [b95]
        have e:=acc (by rw [hn]; simp [a1,a3,z,zi,zn,b46,d46,b95])
        simp (disch:=first|omega|(simp<;>omega)|fail) [-map_take,-map_drop,-map_set,-map_append,-drop_one,z9lx,zcir,h,h',hc,a1,a3,z,zi,zn,b46,d46,b95]
        exact ⟨i+1,z515 (by simp (disch:=first|omega|(simp<;>omega)|fail) [-map_take,-map_drop,-map_set,-map_append,-drop_one,S610,zcir]) (by simp (disch:=first|omega|(simp<;>omega)|fail) [-map_take,-map_drop,-map_set,-map_append,-drop_one,S610,zcir]),by omega,⟨by omega,e⟩⟩
      have d95:(c == 95#8)=false:=by simp [b95]
      by_cases b45:c=45#8
      case pos =>
        have d45:(c == 45#8)=true:=by simp [b45]
        have e:=acc (by rw [hn]; simp [a1,a3,z,zi,zn,b46,d46,b95,d95,b45])
        simp (disch:=first|omega|(simp<;>omega)|fail) [-map_take,-map_drop,-map_set,-map_append,-drop_one,z9lx,zcir,h,h',hc,a1,a3,z,zi,zn,b46,d46,b95,d95,b45]
        exact ⟨i+1,z515 (by simp (disch:=first|omega|(simp<;>omega)|fail) [-map_take,-map_drop,-map_set,-map_append,-drop_one,S610,zcir]) (by simp (disch:=first|omega|(simp<;>omega)|fail) [-map_take,-map_drop,-map_set,-map_append,-drop_one,S610,zcir]),by omega,⟨by omega,e⟩⟩
      have d45:(c == 45#8)=false:=by simp [b45]
      have e:=rej (by rw [hn]; simp [a1,a3,z,zi,zn,b46,d46,b95,d95,b45,d45])
      simp (disch:=first|omega|(simp<;>omega)|fail) [-map_take,-map_drop,-map_set,-map_append,-drop_one,z9lx,zcir,h,h',hc,e,a1,a3,z,zi,zn,b46,d46,b95,d95,b45,d45]
    by_cases a4:c≤57#8
    case neg =>
      by_cases z:i=0
      case pos =>
        subst z
        have hne:¬ s=[]:=fun q=>by rw [q] at h; simp at h
        have e:=rej (by rw [hn]; simp [a1,a3,a4,hne])
        simp (disch:=first|omega|(simp<;>omega)|fail) [-map_take,-map_drop,-map_set,-map_append,-drop_one,z9lx,zcir,h,h',hc,e,a1,a3,a4,hne]
      have zi:(0:Int)<i:=by omega
      have zn:0<i:=by omega
      by_cases b46:c=46#8
      case pos =>
        have d46:(c == 46#8)=true:=by simp [b46]
        have e:=acc (by rw [hn]; simp [a1,a3,a4,z,zi,zn,b46])
        simp (disch:=first|omega|(simp<;>omega)|fail) [-map_take,-map_drop,-map_set,-map_append,-drop_one,z9lx,zcir,h,h',hc,a1,a3,a4,z,zi,zn,b46]
        exact ⟨i+1,z515 (by simp (disch:=first|omega|(simp<;>omega)|fail) [-map_take,-map_drop,-map_set,-map_append,-drop_one,S610,zcir]) (by simp (disch:=first|omega|(simp<;>omega)|fail) [-map_take,-map_drop,-map_set,-map_append,-drop_one,S610,zcir]),by omega,⟨by omega,e⟩⟩
      have d46:(c == 46#8)=false:=by simp [b46]
      by_cases b95:c=95#8
      case pos =>
        have d95:(c == 95#8)=true:=by simp [b95]
        have e:=acc (by rw [hn]; simp [a1,a3,a4,z,zi,zn,b46,d46,b95])
        simp (disch:=first|omega|(simp<;>omega)|fail) [-map_take,-map_drop,-map_set,-map_append,-drop_one,z9lx,zcir,h,h',hc,a1,a3,a4,z,zi,zn,b46,d46,b95]
        exact ⟨i+1,z515 (by simp (disch:=first|omega|(simp<;>omega)|fail) [-map_take,-map_drop,-map_set,-map_append,-drop_one,S610,zcir]) (by simp (disch:=first|omega|(simp<;>omega)|fail) [-map_take,-map_drop,-map_set,-map_append,-drop_one,S610,zcir]),by omega,⟨by omega,e⟩⟩
      have d95:(c == 95#8)=false:=by simp [b95]
      by_cases b45:c=45#8
      case pos =>
        have d45:(c == 45#8)=true:=by simp [b45]
        have e:=acc (by rw [hn]; simp [a1,a3,a4,z,zi,zn,b46,d46,b95,d95,b45])
        simp (disch:=first|omega|(simp<;>omega)|fail) [-map_take,-map_drop,-map_set,-map_append,-drop_one,z9lx,zcir,h,h',hc,a1,a3,a4,z,zi,zn,b46,d46,b95,d95,b45]
        exact ⟨i+1,z515 (by simp (disch:=first|omega|(simp<;>omega)|fail) [-map_take,-map_drop,-map_set,-map_append,-drop_one,S610,zcir]) (by simp (disch:=first|omega|(simp<;>omega)|fail) [-map_take,-map_drop,-map_set,-map_append,-drop_one,S610,zcir]),by omega,⟨by omega,e⟩⟩
      have d45:(c == 45#8)=false:=by simp [b45]
      have e:=rej (by rw [hn]; simp [a1,a3,a4,z,zi,zn,b46,d46,b95,d95,b45,d45])
      simp (disch:=first|omega|(simp<;>omega)|fail) [-map_take,-map_drop,-map_set,-map_append,-drop_one,z9lx,zcir,h,h',hc,e,a1,a3,a4,z,zi,zn,b46,d46,b95,d95,b45,d45]
    have e:=acc (by rw [hn]; simp [a1,a3,a4])
    simp (disch:=first|omega|(simp<;>omega)|fail) [-map_take,-map_drop,-map_set,-map_append,-drop_one,z9lx,zcir,h,h',hc,a1,a3,a4]
    exact ⟨i+1,z515 (by simp (disch:=first|omega|(simp<;>omega)|fail) [-map_take,-map_drop,-map_set,-map_append,-drop_one,S610,zcir]) (by simp (disch:=first|omega|(simp<;>omega)|fail) [-map_take,-map_drop,-map_set,-map_append,-drop_one,S610,zcir]),by omega,⟨by omega,e⟩⟩
  by_cases a2:c≤122#8
  case neg =>
    by_cases a3:48#8≤c
    case neg =>
      by_cases z:i=0
      case pos =>
        subst z
        have hne:¬ s=[]:=fun q=>by rw [q] at h; simp at h
        have e:=rej (by rw [hn]; simp [a1,a2,a3,hne])
        simp (disch:=first|omega|(simp<;>omega)|fail) [-map_take,-map_drop,-map_set,-map_append,-drop_one,z9lx,zcir,h,h',hc,e,a1,a2,a3,hne]
      have zi:(0:Int)<i:=by omega
      have zn:0<i:=by omega
      by_cases b46:c=46#8
      case pos =>
        have d46:(c == 46#8)=true:=by simp [b46]
        have e:=acc (by rw [hn]; simp [a1,a2,a3,z,zi,zn,b46])
        simp (disch:=first|omega|(simp<;>omega)|fail) [-map_take,-map_drop,-map_set,-map_append,-drop_one,z9lx,zcir,h,h',hc,a1,a2,a3,z,zi,zn,b46]
        exact ⟨i+1,z515 (by simp (disch:=first|omega|(simp<;>omega)|fail) [-map_take,-map_drop,-map_set,-map_append,-drop_one,S610,zcir]) (by simp (disch:=first|omega|(simp<;>omega)|fail) [-map_take,-map_drop,-map_set,-map_append,-drop_one,S610,zcir]),by omega,⟨by omega,e⟩⟩
      have d46:(c == 46#8)=false:=by simp [b46]
      by_cases b95:c=95#8
      case pos =>
        have d95:(c == 95#8)=true:=by simp [b95]
        have e:=acc (by rw [hn]; simp [a1,a2,a3,z,zi,zn,b46,d46,b95])
        simp (disch:=first|omega|(simp<;>omega)|fail) [-map_take,-map_drop,-map_set,-map_append,-drop_one,z9lx,zcir,h,h',hc,a1,a2,a3,z,zi,zn,b46,d46,b95]
        exact ⟨i+1,z515 (by simp (disch:=first|omega|(simp<;>omega)|fail) [-map_take,-map_drop,-map_set,-map_append,-drop_one,S610,zcir]) (by simp (disch:=first|omega|(simp<;>omega)|fail) [-map_take,-map_drop,-map_set,-map_append,-drop_one,S610,zcir]),by omega,⟨by omega,e⟩⟩
      have d95:(c == 95#8)=false:=by simp [b95]
      by_cases b45:c=45#8
      case pos =>
        have d45:(c == 45#8)=true:=by simp [b45]
        have e:=acc (by rw [hn]; simp [a1,a2,a3,z,zi,zn,b46,d46,b95,d95,b45])
        simp (disch:=first|omega|(simp<;>omega)|fail) [-map_take,-map_drop,-map_set,-map_append,-drop_one,z9lx,zcir,h,h',hc,a1,a2,a3,z,zi,zn,b46,d46,b95,d95,b45]
        exact ⟨i+1,z515 (by simp (disch:=first|omega|(simp<;>omega)|fail) [-map_take,-map_drop,-map_set,-map_append,-drop_one,S610,zcir]) (by simp (disch:=first|omega|(simp<;>omega)|fail) [-map_take,-map_drop,-map_set,-map_append,-drop_one,S610,zcir]),by omega,⟨by omega,e⟩⟩
      have d45:(c == 45#8)=false:=by simp [b45]
      have e:=rej (by rw [hn]; simp [a1,a2,a3,z,zi,zn,b46,d46,b95,d95,b45,d45])
      simp (disch:=first|omega|(simp<;>omega)|fail) [-map_take,-map_drop,-map_set,-map_append,-drop_one,z9lx,zcir,h,h',hc,e,a1,a2,a3,z,zi,zn,b46,d46,b95,d95,b45,d45]
    by_cases a4:c≤57#8
    case neg =>
      by_cases z:i=0
      case pos =>
        subst z
        have hne:¬ s=[]:=fun q=>by rw [q] at h; simp at h
        have e:=rej (by rw [hn]; simp [a1,a2,a3,a4,hne])
        simp (disch:=first|omega|(simp<;>omega)|fail) [-map_take,-map_drop,-map_set,-map_append,-drop_one,z9lx,zcir,h,h',hc,e,a1,a2,a3,a4,hne]
      have zi:(0:Int)<i:=by omega
      have zn:0<i:=by omega
      by_cases b46:c=46#8
      case pos =>
        have d46:(c == 46#8)=true:=by simp [b46]
        have e:=acc (by rw [hn]; simp [a1,a2,a3,a4,z,zi,zn,b46])
        simp (disch:=first|omega|(simp<;>omega)|fail) [-map_take,-map_drop,-map_set,-map_append,-drop_one,z9lx,zcir,h,h',hc,a1,a2,a3,a4,z,zi,zn,b46]
        exact ⟨i+1,z515 (by simp (disch:=first|omega|(simp<;>omega)|fail) [-map_take,-map_drop,-map_set,-map_append,-drop_one,S610,zcir]) (by simp (disch:=first|omega|(simp<;>omega)|fail) [-map_take,-map_drop,-map_set,-map_append,-drop_one,S610,zcir]),by omega,⟨by omega,e⟩⟩
      have d46:(c == 46#8)=false:=by simp [b46]
      by_cases b95:c=95#8
      case pos =>
        have d95:(c == 95#8)=true:=by simp [b95]
        have e:=acc (by rw [hn]; simp [a1,a2,a3,a4,z,zi,zn,b46,d46,b95])
        simp (disch:=first|omega|(simp<;>omega)|fail) [-map_take,-map_drop,-map_set,-map_append,-drop_one,z9lx,zcir,h,h',hc,a1,a2,a3,a4,z,zi,zn,b46,d46,b95]
        exact ⟨i+1,z515 (by simp (disch:=first|omega|(simp<;>omega)|fail) [-map_take,-map_drop,-map_set,-map_append,-drop_one,S610,zcir]) (by simp (disch:=first|omega|(simp<;>omega)|fail) [-map_take,-map_drop,-map_set,-map_append,-drop_one,S610,zcir]),by omega,⟨by omega,e⟩⟩
      have d95:(c == 95#8)=false:=by simp [b95]
      by_cases b45:c=45#8
      case pos =>
        have d45:(c == 45#8)=true:=by simp [b45]
        have e:=acc (by rw [hn]; simp [a1,a2,a3,a4,z,zi,zn,b46,d46,b95,d95,b45])
        simp (disch:=first|omega|(simp<;>omega)|fail) [-map_take,-map_drop,-map_set,-map_append,-drop_one,z9lx,zcir,h,h',hc,a1,a2,a3,a4,z,zi,zn,b46,d46,b95,d95,b45]
        exact ⟨i+1,z515 (by simp (disch:=first|omega|(simp<;>omega)|fail) [-map_take,-map_drop,-map_set,-map_append,-drop_one,S610,zcir]) (by simp (disch:=first|omega|(simp<;>omega)|fail) [-map_take,-map_drop,-map_set,-map_append,-drop_one,S610,zcir]),by omega,⟨by omega,e⟩⟩
      have d45:(c == 45#8)=false:=by simp [b45]
      have e:=rej (by rw [hn]; simp [a1,a2,a3,a4,z,zi,zn,b46,d46,b95,d95,b45,d45])
      simp (disch:=first|omega|(simp<;>omega)|fail) [-map_take,-map_drop,-map_set,-map_append,-drop_one,z9lx,zcir,h,h',hc,e,a1,a2,a3,a4,z,zi,zn,b46,d46,b95,d95,b45,d45]
    have e:=acc (by rw [hn]; simp [a1,a2,a3,a4])
    simp (disch:=first|omega|(simp<;>omega)|fail) [-map_take,-map_drop,-map_set,-map_append,-drop_one,z9lx,zcir,h,h',hc,a1,a2,a3,a4]
    exact ⟨i+1,z515 (by simp (disch:=first|omega|(simp<;>omega)|fail) [-map_take,-map_drop,-map_set,-map_append,-drop_one,S610,zcir]) (by simp (disch:=first|omega|(simp<;>omega)|fail) [-map_take,-map_drop,-map_set,-map_append,-drop_one,S610,zcir]),by omega,⟨by omega,e⟩⟩
  have e:=acc (by rw [hn]; simp [a1,a2])
  simp (disch:=first|omega|(simp<;>omega)|fail) [-map_take,-map_drop,-map_set,-map_append,-drop_one,z9lx,zcir,h,h',hc,a1,a2]
  exact ⟨i+1,z515 (by simp (disch:=first|omega|(simp<;>omega)|fail) [-map_take,-map_drop,-map_set,-map_append,-drop_one,S610,zcir]) (by simp (disch:=first|omega|(simp<;>omega)|fail) [-map_take,-map_drop,-map_set,-map_append,-drop_one,S610,zcir]),by omega,⟨by omega,e⟩⟩
end Go.Proofs.YtdnhbfmlklaldaaGreat
set_option linter.unusedSimpArgs false
set_option linter.unusedVariables false
namespace Go.Proofs.YtdnhbfmlklaldaaGreat
open Go Go.Am
theorem z301 (n a b:Int):Runs tbl0 a138 [.int .i64 n,.int .i64 a,.int .i64 b] (.bool (inB n a b)):=by
  refine ⟨?_⟩
  by_cases h0:a≤n
  · by_cases h1:n≤b
    · simp (disch:=first|omega|(simp<;>omega)|fail) [-map_take,-map_drop,-map_set,-map_append,-drop_one,a138,h0,h1,inB]
    · simp (disch:=first|omega|(simp<;>omega)|fail) [-map_take,-map_drop,-map_set,-map_append,-drop_one,a138,h0,h1,inB]
  · simp (disch:=first|omega|(simp<;>omega)|fail) [-map_take,-map_drop,-map_set,-map_append,-drop_one,a138,h0,inB]
noncomputable def cPw:List DV→Option DV
  | [.int .i64 n,.int .i64 a,.int .i64 b]=>some (.bool (inB n a b))|_=>none
theorem zqrl {n a b:Int}:cPw [.int .i64 n,.int .i64 a,.int .i64 b]=some (.bool (inB n a b)):=rfl
theorem zztj:(Con.pure cPw).Sound P 138:=by
  intro args v e
  unfold cPw at e
  split at e
  · simp at e; subst e; exact zljw mix zr5o Tryz.func138 zno0 (z301 _ _ _)
  · simp at e
noncomputable def cNm:List DV→Option DV
  | [.str s]=>some (.bool (zt9v s))|_=>none
theorem zfw8 {s:Str}:cNm [.str s]=some (.bool (zt9v s)):=rfl
theorem zuz5:(Con.pure cNm).Sound P 139:=by
  intro args v e
  unfold cNm at e
  split at e
  · simp at e; subst e; exact zljw mix zr5o Tryz.func139 zt91 (zrln _)
  · simp at e
noncomputable def T610:Tbl:=addT 138 (.pure cPw) (addT 139 (.pure cNm) tbl0)
theorem z9sa:T610 138 = .pure cPw:=by simp [T610]
theorem zt36:T610 139 = .pure cNm:=by simp [T610]
theorem zwoj:T610.Sound P:=z0rp zztj (z0rp zuz5 zr5o)
theorem zhsm {a b:Req}:z32s (zi5g [(3,0),(1,1)]) (rqC a) (rqC b)=some (decide (a=b)):=zq6c
attribute [simp] zhsm
theorem z7ik {k:Int}:zvnk [.int .i64 0,.int .i64 0,.int .i64 0,.str []] [(0,1,.int .i64 k)]=some (.agg (rqC ⟨k,0,0,[]⟩)):=rfl
theorem zltg {h:List AObj} {id off:Nat} {v:DV} {l:List DV} (hc:v.cells=[v]) (ho:v.one=true) (hl:off<l.length):zy6o h id 1 off v (some l)=some (.junk,h.set id (.cells (zk7y l off [v]))):=by
  simp only [zy6o,hc,List.length_cons,List.length_nil,List.all_cons,List.all_nil,ho,Bool.and_self]
  first|done|rw [if_pos ⟨trivial,by omega,trivial⟩]
theorem z485 {h:List AObj} {id:Nat} {q:Req} {n:Int}:zy6o h id 1 1 (.int .i64 n) (some (rqC q))=some (.junk,h.set id (.cells (rqC { q with n:=n }))):=by rw [zltg rfl rfl (by rw [zzeg]; decide)]; rfl
theorem z60m {h:List AObj} {id:Nat} {q:Req} {n:Int}:zy6o h id 1 2 (.int .i64 n) (some (rqC q))=some (.junk,h.set id (.cells (rqC { q with m:=n }))):=by rw [zltg rfl rfl (by rw [zzeg]; decide)]; rfl
theorem zkma {h:List AObj} {id:Nat} {q:Req} {s:Str}:zy6o h id 1 3 (.str s) (some (rqC q))=some (.junk,h.set id (.cells (rqC { q with text:=s }))):=by rw [zltg rfl rfl (by rw [zzeg]; decide)]; rfl
set_option maxRecDepth 20000 in
theorem zwve (q:Req):Runs T610 a124 [.agg (rqC q)] (.bool (reqB q)):=by
  refine ⟨?_⟩
  obtain ⟨k,n,m,t⟩:=q
  have g0 : ∀ {x:Req} {k':Int},(({ x with n:=k' }:Req))=⟨x.kind,k',x.m,x.text⟩:=fun {x k'}=>rfl
  by_cases e1:k=1
  · subst e1
    have hr:reqB ⟨1,n,m,t⟩=(inB n 1 32&&decide ((⟨1,n,m,t⟩:Req)=⟨1,n,0,[]⟩)):=by simp [reqB,Bool.and_assoc]
    cases hb:inB n 1 32<;>(rw [hb] at hr; simp (disch:=first|omega|(simp<;>omega)|fail) [-map_take,-map_drop,-map_set,-map_append,-drop_one,a124,z9sa,zqrl,z7ik,z485,hb,hr])
  by_cases e3:k=3
  · subst e3
    have hr:reqB ⟨3,n,m,t⟩=(inB n 1 32&&decide ((⟨3,n,m,t⟩:Req)=⟨3,n,0,[]⟩)):=by simp [reqB,Bool.and_assoc]
    cases hb:inB n 1 32<;>(rw [hb] at hr; simp (disch:=first|omega|(simp<;>omega)|fail) [-map_take,-map_drop,-map_set,-map_append,-drop_one,a124,z9sa,zqrl,z7ik,z485,hb,hr])
  by_cases e5:k=5
  · subst e5
    have hr:reqB ⟨5,n,m,t⟩=(inB n 1 32&&decide ((⟨5,n,m,t⟩:Req)=⟨5,n,0,[]⟩)):=by simp [reqB,Bool.and_assoc]
    cases hb:inB n 1 32<;>(rw [hb] at hr; simp (disch:=first|omega|(simp<;>omega)|fail) [-map_take,-map_drop,-map_set,-map_append,-drop_one,a124,z9sa,zqrl,z7ik,z485,hb,hr])
  by_cases e4:k=4
  · subst e4
    have hr:reqB ⟨4,n,m,t⟩=((inB n 1 32&&inB m 0 32)&&decide ((⟨4,n,m,t⟩:Req)=⟨4,n,m,[]⟩)):=by simp [reqB,Bool.and_assoc]
    cases hb:inB n 1 32<;>cases hc:inB m 0 32<;>(rw [hb,hc] at hr; simp (disch:=first|omega|(simp<;>omega)|fail) [-map_take,-map_drop,-map_set,-map_append,-drop_one,a124,z9sa,zqrl,z7ik,z485,z60m,hb,hc,hr])
  by_cases e2:k=2
  · subst e2
    have hr:reqB ⟨2,n,m,t⟩=(zt9v t&&decide ((⟨2,n,m,t⟩:Req)=⟨2,0,0,t⟩)):=by simp [reqB,Bool.and_assoc,Bool.and_comm,Bool.and_left_comm]
    cases hb:zt9v t<;>(rw [hb] at hr; simp (disch:=first|omega|(simp<;>omega)|fail) [-map_take,-map_drop,-map_set,-map_append,-drop_one,a124,zt36,zfw8,z7ik,zkma,hb,hr])
  by_cases e6:k=6
  · subst e6
    have hr:reqB ⟨6,n,m,t⟩=(inB n 1 10&&decide ((⟨6,n,m,t⟩:Req)=⟨6,n,0,[]⟩)):=by simp [reqB,Bool.and_assoc]
    cases hb:inB n 1 10<;>(rw [hb] at hr; simp (disch:=first|omega|(simp<;>omega)|fail) [-map_take,-map_drop,-map_set,-map_append,-drop_one,a124,z9sa,zqrl,z7ik,z485,hb,hr])
  by_cases e7:k=7
  · subst e7
    have hr:reqB ⟨7,n,m,t⟩=(inB n 0 1099511627776&&decide ((⟨7,n,m,t⟩:Req)=⟨7,n,0,[]⟩)):=by simp [reqB,Bool.and_assoc]
    cases hb:inB n 0 1099511627776<;>(rw [hb] at hr; simp (disch:=first|omega|(simp<;>omega)|fail) [-map_take,-map_drop,-map_set,-map_append,-drop_one,a124,z9sa,zqrl,z7ik,z485,hb,hr])
  by_cases e8:k=8
  · subst e8
    have hr:reqB ⟨8,n,m,t⟩=decide ((⟨8,n,m,t⟩:Req)=⟨8,0,0,[]⟩):=by simp [reqB,Bool.and_assoc]
    simp (disch:=first|omega|(simp<;>omega)|fail) [-map_take,-map_drop,-map_set,-map_append,-drop_one,a124,z7ik,hr]
  · have hr:reqB ⟨k,n,m,t⟩=false:=by simp [reqB,e1,e2,e3,e4,e5,e6,e7,e8]
    simp (disch:=first|omega|(simp<;>omega)|fail) [-map_take,-map_drop,-map_set,-map_append,-drop_one,a124,z7ik,e1,e2,e3,e4,e5,e6,e7,e8,hr]
theorem zsw2 {a b:Req} (e:[DV.agg (rqC a)]=[DV.agg (rqC b)]):a=b:=by simp only [List.cons.injEq,DV.agg.injEq,and_true] at e; exact z82b e
noncomputable def cReq:List DV→Option DV:=con (fun _=>True) (fun q:Req=>[.agg (rqC q)]) (fun q => .bool (reqB q))
theorem zc86 {q:Req}:cReq [.agg (rqC q)]=some (.bool (reqB q)):=zsn4 (f:=fun q:Req=>[.agg (rqC q)]) (g:=fun q => .bool (reqB q)) (fun a b e=>zsw2 e) q
theorem zb66:(Con.pure cReq).Sound P 124:=z2au fun q _=>zljw mix zwoj Tryz.func124 ze8k (zwve q)
def ndC (q:Req):List DV := .int .i64 1 :: .int .i64 0 :: .int .i64 0::rqC q
theorem zwh7 (q:Req):(ndC q).length=7:=rfl
theorem zm3g (q:Req):zbao (ndC q)=true:=by simp [ndC,zbao,zyp8,zhqv]
theorem zhb5 {a b:Req} (e:ndC a=ndC b):a=b:=by simp only [ndC,List.cons.injEq,true_and] at e; exact z82b e
theorem zihi {q:Req}:one 1 false (ndC q)=some (.int .i64 1):=rfl
theorem z4ep {q:Req}:one 1 false ((ndC q).drop 1)=some (.int .i64 0):=rfl
theorem zh0n {q:Req}:one 1 false ((ndC q).drop 2)=some (.int .i64 0):=rfl
theorem z0f9 {q:Req}:one 4 true ((ndC q).drop 3)=some (.agg (rqC q)):=rfl
theorem zen2 {q:Req}:one 7 true (ndC q)=some (.agg (ndC q)):=rfl
theorem z5rk {q:Req}:(ndC q).all DV.one=true:=by simp only [ndC,List.all_cons,z30b,zzmf,Bool.and_self]
theorem za4u {x:Req} {h:List AObj} {id:Nat} {l:List DV} (hl:l.length=7):zy6o h id 7 0 (.agg (ndC x)) (some l)=some (.junk,h.set id (.cells (ndC x))):=zfc1 (zwh7 x) hl z5rk
attribute [simp] zm3g zihi z4ep zh0n z0f9 zen2 za4u
noncomputable def T611:Tbl:=addT 124 (.pure cReq) tbl0
theorem z8x4:T611 124 = .pure cReq:=by simp [T611]
theorem ztnw:T611.Sound P:=z0rp zb66 zr5o
theorem z07t (q:Req):Runs T611 a104 [.agg (ndC q)] (.bool (reqB q)):=by
  refine ⟨?_⟩
  have hl:=zwh7 q
  simp (disch:=first|omega|(simp<;>omega)|fail) [-map_take,-map_drop,-map_set,-map_append,-drop_one,a104,z8x4,zc86,hl]
noncomputable def cNd (k:Nat):List DV→Option DV:=con (fun _=>True) (fun q:Req=>[.agg (ndC q)]) (fun q => .bool (reqB q))
theorem zhov {k:Nat} {q:Req}:cNd k [.agg (ndC q)]=some (.bool (reqB q)):=zsn4 (f:=fun q:Req=>[.agg (ndC q)]) (g:=fun q => .bool (reqB q)) (fun a b e=>by simp only [List.cons.injEq,DV.agg.injEq,and_true] at e; exact zhb5 e) q
noncomputable def T612:Tbl:=addT 104 (.pure (cNd 0)) tbl0
theorem zsh6:T612 104 = .pure (cNd 0):=by simp [T612]
theorem zgcm:T612.Sound P:=z0rp (z2au fun q _=>zljw mix ztnw Tryz.func104 z0mt (z07t q)) zr5o
structure TI where
  i:Nat
def S612 (q:Req) (i:Nat):St:=zeq8 (.int .i64 (1-(i:Int))) (.int .i64 i) (.sl true 7 1 (ndC q)) (.int .i64 1) (.int .i64 i) (if i=0 then [] else [.cells (ndC q)])
theorem zkc1 (q:Req):Runs T612 a64 [.sl true 7 1 (ndC q)] (.bool (reqB q)):=by
  refine ⟨?_⟩
  have hl:=zwh7 q
  have hd:(ndC q).take 7=ndC q:=rfl
  simp (disch:=first|omega|(simp<;>omega)|fail) [-map_take,-map_drop,-map_set,-map_append,-drop_one,a64]
  refine zlm5 (S612 q) (fun i=>1-i) (fun i=>i=0∨(i=1∧reqB q=true)) 0 (z515 (by simp (disch:=first|omega|(simp<;>omega)|fail) [-map_take,-map_drop,-map_set,-map_append,-drop_one,S612,zeq8]) (by simp (disch:=first|omega|(simp<;>omega)|fail) [-map_take,-map_drop,-map_set,-map_append,-drop_one,S612,zeq8])) (.inl rfl) (fun i hi => ?_)
  rcases hi with rfl|⟨rfl,hq⟩
  · simp only [S612]
    cases hq:reqB q with
    | false=>simp (disch:=first|omega|(simp<;>omega)|fail) [-map_take,-map_drop,-map_set,-map_append,-drop_one,zscl,zeq8,zsh6,zhov,hq,hl,hd]
    | true =>
      simp (disch:=first|omega|(simp<;>omega)|fail) [-map_take,-map_drop,-map_set,-map_append,-drop_one,zscl,zeq8,zsh6,zhov,hq,hl,hd]
      exact ⟨1,z515 (by simp (disch:=first|omega|(simp<;>omega)|fail) [-map_take,-map_drop,-map_set,-map_append,-drop_one,S612,zeq8]) (by simp (disch:=first|omega|(simp<;>omega)|fail) [-map_take,-map_drop,-map_set,-map_append,-drop_one,S612,zeq8]),by omega,.inr rfl⟩
  · simp only [S612]
    simp (disch:=first|omega|(simp<;>omega)|fail) [-map_take,-map_drop,-map_set,-map_append,-drop_one,zscl,zeq8,zsh6,zhov,hq,hl,hd]
noncomputable def cTr:List DV→Option DV:=con (fun _=>True) (fun q:Req=>[.sl true 7 1 (ndC q)]) (fun q => .bool (reqB q))
theorem zjnj {q:Req}:cTr [.sl true 7 1 (ndC q)]=some (.bool (reqB q)):=zsn4 (f:=fun q:Req=>[.sl true 7 1 (ndC q)]) (g:=fun q => .bool (reqB q)) (fun a b e=>by simp only [List.cons.injEq,DV.sl.injEq,and_true,true_and] at e; exact zhb5 e) q
noncomputable def T613:Tbl:=addT 64 (.pure cTr) tbl0
theorem zcgy:T613 64 = .pure cTr:=by simp [T613]
theorem z6km:T613.Sound P:=z0rp (z2au fun q _=>zljw mix zgcm Tryz.func64 zxtc (zkc1 q)) zr5o
theorem ztir (q:Req):Runs T613 a41 [.agg (rqC q)] (.bool (reqB q)):=by
  refine ⟨?_⟩
  have e1:zvnk [.int .i64 0,.int .i64 0,.int .i64 0,.int .i64 0,.int .i64 0,.int .i64 0,.str []] [(0,1,.int .i64 1),(3,4,.agg (rqC q))]=some (.agg (ndC q)):=rfl
  have e2:bslD 7 1 [.int .i64 0,.int .i64 0,.int .i64 0,.int .i64 0,.int .i64 0,.int .i64 0,.str []] [(0,7,.agg (ndC q))]=some (.sl true 7 1 (ndC q)):=rfl
  simp (disch:=first|omega|(simp<;>omega)|fail) [-map_take,-map_drop,-map_set,-map_append,-drop_one,a41,zcgy,zjnj,e1,e2]
theorem z8mz:(Con.pure cReq).Sound P 41:=z2au fun q _=>zljw mix z6km Tryz.func41 z5y8 (ztir q)
end Go.Proofs.YtdnhbfmlklaldaaGreat
set_option linter.unusedSimpArgs false
set_option linter.unusedVariables false
namespace Go.Proofs.YtdnhbfmlklaldaaGreat
open Go Go.Am
noncomputable def T620:Tbl:=addT 106 (.pure ztk6) (addT 107 (.pure zzr5) (addT 112 (.pure cCat) tbl0))
theorem zlfr:T620 106 = .pure ztk6:=by simp [T620]
theorem z4uj:T620 107 = .pure zzr5:=by simp [T620]
theorem zy9c:T620 112 = .pure cCat:=by simp [T620]
theorem zpfw:T620.Sound P:=z0rp z38w (z0rp ztbv (z0rp ztpx zr5o))
def InOK (l:List Fct) (y:List Dg):Prop := ∀ f ∈ l,f.docs.l.length+y.length≤12
theorem z049 (x:Sl Fct) (n:Int) (y:Sl Dg) (ok:InOK x.l y.l):Runs T620 a74 [x.dv 71 faC,.int .i64 n,y.dv 32 dgC] (.agg (suC (zpu0 x.l n y.l))):=by
  refine ⟨?_⟩
  cases e:x.l with
  | nil =>
    have e0:x.l.length=0:=by rw [e]; rfl
    have hs:zpu0 [] n y.l=zcc9 1:=rfl
    simp (disch:=first|omega|(simp<;>omega)|fail) [-map_take,-map_drop,-map_set,-map_append,-drop_one,a74,e0,e,zlfr,zg94,hs]
  | cons f r =>
    have e0:¬ x.l=[]:=by rw [e]; simp
    have e1:¬ x.l.length=0:=by rw [e]; simp
    have hg : ∀ H,zpsc H 71 (x.dv 71 faC) 0=some (.ref (faC f)):=fun H=>by
      have:=zalo (h:=H) (x:=x) (i:=0) zs77 (by rw [e]; simp)
      rw [show ((0:Nat):Int)=0 from rfl] at this
      rw [this]; simp [e]
    have hf:=ok f (by rw [e]; simp)
    by_cases h:0<n
    · have hs:zpu0 (f::r) n y.l=zcc9 n:=by simp only [zpu0]; rw [if_pos h]
      simp (disch:=first|omega|(simp<;>omega)|fail) [-map_take,-map_drop,-map_set,-map_append,-drop_one,a74,e0,e1,h,zlfr,zg94,hs]
    · have hs:zpu0 (f::r) n y.l=zp7s (ownN (f.docs.l++y.l)):=by simp only [zpu0]; rw [if_neg h]
      have c1:=zf44 (x:=f.docs) (y:=y) (by omega)
      have c2:=zk0w (x:=ownN (f.docs.l++y.l)) (by rw [zd8n (by rw [List.length_append]; omega),List.length_append]; omega)
      simp (disch:=first|omega|(simp<;>omega)|fail) [-map_take,-map_drop,-map_set,-map_append,-drop_one,a74,e0,e1,h,hg,zy9c,z4uj,c1,c2,hs]
noncomputable def zy0t:List DV→Option DV:=con (fun a:Sl Fct × Int × Sl Dg=>InOK a.1.l a.2.2.l) (fun a=>[a.1.dv 71 faC,.int .i64 a.2.1,a.2.2.dv 32 dgC]) (fun a => .agg (suC (zpu0 a.1.l a.2.1 a.2.2.l)))
theorem z19c {x:Sl Fct} {n:Int} {y:Sl Dg} (h:InOK x.l y.l):zy0t [x.dv 71 faC,.int .i64 n,y.dv 32 dgC]=some (.agg (suC (zpu0 x.l n y.l))) :=
  zlyi (A:=fun a:Sl Fct × Int × Sl Dg=>InOK a.1.l a.2.2.l) (f:=fun a:Sl Fct × Int × Sl Dg=>[a.1.dv 71 faC,.int .i64 a.2.1,a.2.2.dv 32 dgC]) (g:=fun a => .agg (suC (zpu0 a.1.l a.2.1 a.2.2.l))) (by
    rintro ⟨a,b,c⟩ ⟨a',b',c'⟩ e
    simp only [List.cons.injEq,DV.int.injEq,and_true,true_and] at e
    rw [z4rf e.1,e.2.1,z42k e.2.2]) (x,n,y) h
theorem zwv1:(Con.pure zy0t).Sound P 74:=z2au fun a h=>zljw mix zpfw Tryz.func74 z26r (z049 a.1 a.2.1 a.2.2 h)
noncomputable def T621:Tbl:=addT 106 (.pure ztk6) (addT 110 (.pure zp5o) (addT 68 (.pure cFct) (addT 69 (.pure cEn) tbl0)))
theorem zjnr:T621 106 = .pure ztk6:=by simp [T621]
theorem z94s:T621 110 = .pure zp5o:=by simp [T621]
theorem z4sv:T621 68 = .pure cFct:=by simp [T621]
theorem zp93:T621 69 = .pure cEn:=by simp [T621]
theorem z6io:T621.Sound P:=z0rp z38w (z0rp zce9 (z0rp zbp8 (z0rp zm5m zr5o)))
theorem z1oj {K:Nat→Bool} {h:List AObj} {x:Sl Fct}:mk1 K h (x.dv 71 faC)=x.dv 71 faC:=zvft (zxxb z93p x)
theorem zutw {K:Nat→Bool} {h:List AObj} {x:Sl Fnd}:mk1 K h (x.dv 39 fnC)=x.dv 39 fnC:=zvft (zxxb zl9f x)
theorem z6c5 {K:Nat→Bool} {h:List AObj} {x:Sl Dg}:mk1 K h (x.dv 32 dgC)=x.dv 32 dgC:=zvft (zxxb z3ot x)
theorem z5en {K:Nat→Bool} {h:List AObj} {x:Sl Str}:mk1 K h (x.dv 1 stC)=x.dv 1 stC:=zvft (zxxb zds6 x)
attribute [simp] z1oj zutw z6c5 z5en
def su0:List DV:=[.bool false,.nils,.int .i64 0]
theorem zige:su0.length=3:=by simp [su0]
theorem zl8c:zbao su0=true:=by simp [su0,zbao,zyp8]
attribute [simp] zige zl8c zxm8 z93p zl9f ztvh zhqv zkih
def lV (l:List Dg):DV:=if l=[] then .nils else .ms 2 (l.length*32) 0 32 l.length (l.length*32)
def lH (o:AObj) (l:List Dg):List AObj := .cells su0::(if l=[] then [] else [o,.cells (fl dgC l)])
theorem zi7d {l:List Dg} (h:l≠[]):lV l = .ms 2 (l.length*32) 0 32 l.length (l.length*32):=if_neg h
theorem ziqb {o:AObj} {l:List Dg} (h:l≠[]):lH o l=[.cells su0,o,.cells (fl dgC l)]:=by rw [lH,if_neg h]
def tgS (l:List Fct):List Dg:=l.map (·.tgt)
def S620 (x:Sl Fct) (n:Int) (a:FP):St:=ziva (x.dv 71 faC) (.int .i64 n) (.mp 0 3 0) (lV (tgS (x.l.take a.i))) (x.dv 71 faC) (.int .i64 x.l.length) (.int .i64 a.i) (lH (.cells (faC a.o)) (tgS (x.l.take a.i)))
structure ListOK (l:List Fct) (n:Int):Prop where
  k:l.length≤12
  e : ∀ d,EnOK (zskr l 5 (.target d)) n
  n0:0≤n
structure LM where
  i:Nat
  m:Int
def S621 (x:Sl Fct) (n:Int) (Y:Sl Dg) (pre:List AObj) (a:LM):St:=zx7a (x.dv 71 faC) (.int .i64 n) (.mp 0 3 0) (.mp (pre.length+1) 3 0) (Y.dv 32 dgC) (.int .i64 Y.l.length) (.int .i64 a.i) (.cells su0::pre++[.cells (suC (zcc9 a.m))])
theorem zvov {h:List AObj} {id:Nat} {m v:Int}:zy6o h id 1 2 (.int .i64 v) (some (suC (zcc9 m)))=some (.junk,h.set id (.cells (suC (zcc9 v)))):=by rw [zltg rfl rfl (by rw [z16g]; decide)]; rfl
set_option maxRecDepth 20000 in
theorem zgr9 (x:Sl Fct) (n:Int) (ok:ListOK x.l n):V P 0 a73.code (retK a73.res (.agg (suC (zf55 x.l n)))) ⟨zr5g a73.ntmps [x.dv 71 faC,.int .i64 n],[]⟩:=by
  have hk:=ok.k
  have hb:=x.b
  obtain ⟨R,hR⟩ : ∃ R,zf55 x.l n=R:=⟨_,rfl⟩
  have htl:(tgS x.l).length=x.l.length:=by simp [tgS]
  rw [hR]
  refine zbn1 (V_W mix z6io ?_)
  simp (disch:=first|omega|(simp<;>omega)|fail) [-map_take,-map_drop,-map_set,-map_append,-drop_one,a73]
  refine zbn1 (V_W mix z6io ?_)
  simp (disch:=first|omega|(simp<;>omega)|fail) [-map_take,-map_drop,-map_set,-map_append,-drop_one]
  refine zbn1 (V_W mix z6io ?_)
  simp (disch:=first|omega|(simp<;>omega)|fail) [-map_take,-map_drop,-map_set,-map_append,-drop_one]
  refine zlm5 (S620 x n) (fun a=>x.l.length-a.i) (fun a=>a.i≤x.l.length) ⟨0,fct0⟩ (z515 (by simp (disch:=first|omega|(simp<;>omega)|fail) [-map_take,-map_drop,-map_set,-map_append,-drop_one,S620,ziva,tgS,lV]) (by simp (disch:=first|omega|(simp<;>omega)|fail) [-map_take,-map_drop,-map_set,-map_append,-drop_one,S620,ziva,tgS,lH,su0])) (by simp) (fun a hi => ?_)
  obtain ⟨i,o⟩:=a
  simp only at hi
  simp only [S620]
  by_cases h:i<x.l.length
  · have h':(i:Int)<x.l.length:=by omega
    have hg : ∀ H,zpsc H 71 (x.dv 71 faC) i=some (.ref (faC x.l[i])):=fun H=>zalo zs77 h
    have hs:tgS (x.l.take (i+1))=tgS (x.l.take i)++[x.l[i].tgt]:=by rw [List.take_succ_eq_append_getElem h,tgS,List.map_append]; rfl
    have hlen:(tgS (x.l.take i)).length≤i:=by simp [tgS]; omega
    obtain ⟨F,hF⟩ : ∃ F,x.l[i]=F:=⟨_,rfl⟩
    rw [hF] at hg hs
    obtain ⟨L,hL⟩ : ∃ L,tgS (x.l.take i)=L:=⟨_,rfl⟩
    rw [hL] at hs hlen ⊢
    by_cases e:L=[]
    · subst e
      rw [List.nil_append] at hs
      have hap:=zsuq (h:=[AObj.cells su0,.cells (faC F)]) (s:=32) (b:=32) (m:=1) (cs:=dgC F.tgt) (by decide) (by decide) (by rw [z1t1]) (by decide) (by decide)
      simp only [z1t1,List.length_cons,List.length_nil] at hap
      have q1:lV [] = .nils:=rfl
      have q2:lH (.cells (faC o)) []=[.cells su0]:=rfl
      simp (disch:=first|omega|(simp<;>omega)|fail) [-map_take,-map_drop,-map_set,-map_append,-drop_one,zqxw,ziva,h,h',hg,q1,q2,hap]
      have e1:lV [F.tgt] = .ms 2 32 0 32 1 32:=rfl
      have e2:lH (.cells (faC F)) [F.tgt]=[.cells su0,.cells (faC F),.cells (dgC F.tgt)]:=by rw [ziqb (by simp),z4hs]
      exact ⟨⟨i+1,F⟩,z515 (by simp (disch:=first|omega|(simp<;>omega)|fail) [-map_take,-map_drop,-map_set,-map_append,-drop_one,S620,ziva,hs,e1]) (by simp (disch:=first|omega|(simp<;>omega)|fail) [-map_take,-map_drop,-map_set,-map_append,-drop_one,S620,ziva,hs,e2]),by simp only; omega,by simp only; omega⟩
    · have hap:=zkg3 (h:=[AObj.cells su0,.cells (faC o),.cells (fl dgC L),.cells (faC F)]) (id:=2) (b:=32) (l:=L) (x:=F.tgt) z1t1 (by decide) (by decide) (fun _=>zoxk) (by omega) (by simp [objV,ziu0,z8lx z1t1])
      have q1:=zi7d e
      have q2:=ziqb (o := .cells (faC o)) e
      simp (disch:=first|omega|(simp<;>omega)|fail) [-map_take,-map_drop,-map_set,-map_append,-drop_one,zqxw,ziva,h,h',hg,q1,q2,hap]
      have e0:L++[F.tgt]≠[]:=by simp
      have e1:=zi7d e0
      have e2:=ziqb (o := .cells (faC o)) e0
      rw [List.length_append,List.length_singleton] at e1
      exact ⟨⟨i+1,o⟩,zju2 (tail:=[.cells (faC F)]) (by simp (disch:=first|omega|(simp<;>omega)|fail) [-map_take,-map_drop,-map_set,-map_append,-drop_one,S620,ziva,hs,e1]) (by simp (disch:=first|omega|(simp<;>omega)|fail) [-map_take,-map_drop,-map_set,-map_append,-drop_one,S620,ziva,hs,e2]) (by simp) (by simp (disch:=first|omega|(simp<;>omega)|fail) [-map_take,-map_drop,-map_set,-map_append,-drop_one,S620,ziva,hs,e1,e2,z1r6,Am.below]) (by simp (disch:=first|omega|(simp<;>omega)|fail) [-map_take,-map_drop,-map_set,-map_append,-drop_one,S620,ziva,hs,e2,zlf2,z1r6,Am.below,su0,fl,zmq5 _ _ (zg0c (zp6k z3ot _) (z3ot _)),zmq5 _ _ (zp6k z3ot _)]),by simp only; omega,by simp only; omega⟩
  have h':¬ (i:Int)<x.l.length:=by omega
  have ht:x.l.take i=x.l:=List.take_of_length_le (by omega)
  rw [ht]
  have hY0:(ownN (tgS x.l)).l=tgS x.l:=zd8n (by omega)
  have c0:=zoh6 (x:=ownN (tgS x.l)) (by rw [hY0]; omega)
  obtain ⟨Y,hY⟩ : ∃ Y,zln3 (ownN (tgS x.l))=Y:=⟨_,rfl⟩
  have hul:=zsv6 (lt:=dgLt) (tgS x.l)
  have hYl:Y.l=dgsU (tgS x.l):=by
    rw [← hY]
    unfold zln3
    rw [hY0]
    split
    · rename_i e; rw [show (ownN (tgS x.l)).clone.l=(ownN (tgS x.l)).l from rfl,hY0,e]; rfl
    · rw [z3e9 (by unfold dgsU; omega)]
  rw [hY] at c0
  have hR:zdgi x.l n Y.l n=R:=by rw [← hR,hYl]; rfl
  have hYb:Y.l.length≤12:=by rw [hYl]; unfold dgsU; omega
  have hp:=zp6k z3ot (tgS x.l)
  by_cases e:tgS x.l=[]
  · have q1:lV (tgS x.l) = .nils:=by rw [e]; rfl
    have q2:lH (.cells (faC o)) (tgS x.l)=[.cells su0]:=by rw [e]; rfl
    have q3:(ownN (tgS x.l)).dv 32 dgC = .nils:=by rw [e]; rfl
    have q4:=q3
    rw [q3] at c0
    simp (disch:=first|omega|(simp<;>omega)|fail) [-map_take,-map_drop,-map_set,-map_append,-drop_one,zqxw,ziva,h,h',q1,q2]
    refine zbn1 (V_W mix z6io ?_)
    simp (disch:=first|omega|(simp<;>omega)|fail) [-map_take,-map_drop,-map_set,-map_append,-drop_one,q1,q2,zjnr,zg94]
    refine zbn1 ?_

    refine zbn1 (V_W mix z6io ?_)
    simp (disch:=first|omega|(simp<;>omega)|fail) [-map_take,-map_drop,-map_set,-map_append,-drop_one,q1,q2,q4,hp,z94s,c0]
    refine z3mo (ztbr (S621 x n Y []) (fun a=>Y.l.length-a.i) (fun a=>a.i≤Y.l.length∧zdgi x.l n (Y.l.drop a.i) a.m=R) ⟨0,n⟩ (z515 (by simp (disch:=first|omega|(simp<;>omega)|fail) [-map_take,-map_drop,-map_set,-map_append,-drop_one,S621,zx7a]) (by simp (disch:=first|omega|(simp<;>omega)|fail) [-map_take,-map_drop,-map_set,-map_append,-drop_one,S621,zx7a])) ⟨by simp,by simpa using hR⟩ (fun a hi => ?_))
    obtain ⟨j,m⟩:=a
    obtain ⟨hj,hR⟩:=hi
    simp only at hj hR
    simp only [S621]
    by_cases h:j<Y.l.length
    · have h':(j:Int)<Y.l.length:=by omega
      have hg : ∀ H,zpsc H 32 (Y.dv 32 dgC) j=some (.ref (dgC Y.l[j])):=fun H=>zalo z1t1 h
      obtain ⟨d,hd⟩ : ∃ d,Y.l[j]=d:=⟨_,rfl⟩
      rw [List.drop_eq_getElem_cons h,hd] at hR
      rw [hd] at hg
      have c1:cFct [x.dv 71 faC,.int .i64 5,.fn (.func 111) [] [.ref (dgC d)]]=_:=zek8 (x:=x) (k:=5) (s := .target d)
      have hfl:=zjru (l:=x.l) (k:=5) (s := .target d)
      have hfe:(ownN (zskr x.l 5 (.target d))).l=zskr x.l 5 (.target d):=zd8n (by omega)
      have c2:=zo6r (x:=ownN (zskr x.l 5 (.target d))) (n:=n) (by rw [hfe]; exact ok.e d)
      rw [hfe] at c2
      obtain ⟨e,he⟩ : ∃ e,zfyl (zskr x.l 5 (.target d)) n=e:=⟨_,rfl⟩
      unfold zdgi at hR
      rw [he] at hR c2
      refine zbn1 (V_W mix z6io ?_)
      simp (disch:=first|omega|(simp<;>omega)|fail) [-map_take,-map_drop,-map_set,-map_append,-drop_one,zcf7,zx7a,h,h',hg]
      refine zbn1 (V_W mix z6io ?_)
      simp (disch:=first|omega|(simp<;>omega)|fail) [-map_take,-map_drop,-map_set,-map_append,-drop_one]
      refine zbn1 (z3mo (zbn1 (V_W mix z6io ?_)))
      simp (disch:=first|omega|(simp<;>omega)|fail) [-map_take,-map_drop,-map_set,-map_append,-drop_one,hg]
      refine V_mk (fun id=>decide (id≤1)) ?_
      simp (disch:=first|omega|(simp<;>omega)|fail) [-map_take,-map_drop,-map_set,-map_append,-drop_one]
      refine V_W mix z6io ?_
      cases hh:e.holds with
      | true =>
        rw [if_pos hh] at hR
        subst hR
        simp (disch:=first|omega|(simp<;>omega)|fail) [-map_take,-map_drop,-map_set,-map_append,-drop_one,z4sv,zp93,c1,c2,hh]
      | false =>
        rw [if_neg (by rw [hh]; simp)] at hR
        simp (disch:=first|omega|(simp<;>omega)|fail) [-map_take,-map_drop,-map_set,-map_append,-drop_one,z4sv,zp93,c1,c2,hh,zvov]
        refine V_W mix z6io ?_
        simp (disch:=first|omega|(simp<;>omega)|fail) [-map_take,-map_drop,-map_set,-map_append,-drop_one]
        exact ⟨⟨j+1,min m e.missing⟩,zju2 (tail:=[.dead,.cells (suC e)]) (by simp (disch:=first|omega|(simp<;>omega)|fail) [-map_take,-map_drop,-map_set,-map_append,-drop_one,S621,zx7a]) (by simp (disch:=first|omega|(simp<;>omega)|fail) [-map_take,-map_drop,-map_set,-map_append,-drop_one,S621,zx7a,zcc9]) (by simp) (by simp (disch:=first|omega|(simp<;>omega)|fail) [-map_take,-map_drop,-map_set,-map_append,-drop_one,S621,zx7a,z1r6,Am.below]) (by simp (disch:=first|omega|(simp<;>omega)|fail) [-map_take,-map_drop,-map_set,-map_append,-drop_one,S621,zx7a,zlf2,z1r6,Am.below,su0,zoxk,zmq5 _ _ (zp6k z3ot _),fl]),by simp only; omega,by simp only; omega,hR⟩
    · have h':¬ (j:Int)<Y.l.length:=by omega
      rw [List.drop_of_length_le (by omega)] at hR
      have hR:zcc9 m=R:=hR
      refine zbn1 (V_W mix z6io ?_)
      simp (disch:=first|omega|(simp<;>omega)|fail) [-map_take,-map_drop,-map_set,-map_append,-drop_one,zcf7,zx7a,h,h']
      refine zbn1 (V_W mix z6io ?_)
      simp (disch:=first|omega|(simp<;>omega)|fail) [-map_take,-map_drop,-map_set,-map_append,-drop_one]
      refine V_W mix z6io ?_
      simp (disch:=first|omega|(simp<;>omega)|fail) [-map_take,-map_drop,-map_set,-map_append,-drop_one,hR]

  · have q1:=zi7d e
    have q2:=ziqb (o := .cells (faC o)) e
    have q4:=hk
    have q3:(ownN (tgS x.l)).dv 32 dgC = .sl false 32 (tgS x.l).length ((tgS x.l).flatMap dgC):=zgr3 e (by omega)
    rw [q3] at c0
    have hp:=zp6k z3ot (tgS x.l)
    have hl:=z1rq z1t1 (tgS x.l)
    have htk:((tgS x.l).flatMap dgC).take ((tgS x.l).length*32)=(tgS x.l).flatMap dgC:=List.take_of_length_le (by omega)
    have hsn : ∀ H j,z4tt H j ((tgS x.l).flatMap dgC)=some ((tgS x.l).flatMap dgC):=fun H j=>z619 hp
    simp (disch:=first|omega|(simp<;>omega)|fail) [-map_take,-map_drop,-map_set,-map_append,-drop_one,zqxw,ziva,h,h',q1,q2]
    refine zbn1 (V_W mix z6io ?_)
    simp (disch:=first|omega|(simp<;>omega)|fail) [-map_take,-map_drop,-map_set,-map_append,-drop_one,q1,q2,zjnr,zg94]
    refine V_mk (fun id=>decide (id=0∨id=3)) ?_
    simp (disch:=first|omega|(simp<;>omega)|fail) [-map_take,-map_drop,-map_set,-map_append,-drop_one,fl,hl,htk,hp]
    refine zbn1 ?_

    refine zbn1 (V_W mix z6io ?_)
    simp (disch:=first|omega|(simp<;>omega)|fail) [-map_take,-map_drop,-map_set,-map_append,-drop_one,q1,q2,q4,hp,z94s,c0]
    refine z3mo (ztbr (S621 x n Y [.dead,.dead]) (fun a=>Y.l.length-a.i) (fun a=>a.i≤Y.l.length∧zdgi x.l n (Y.l.drop a.i) a.m=R) ⟨0,n⟩ (z515 (by simp (disch:=first|omega|(simp<;>omega)|fail) [-map_take,-map_drop,-map_set,-map_append,-drop_one,S621,zx7a]) (by simp (disch:=first|omega|(simp<;>omega)|fail) [-map_take,-map_drop,-map_set,-map_append,-drop_one,S621,zx7a])) ⟨by simp,by simpa using hR⟩ (fun a hi => ?_))
    obtain ⟨j,m⟩:=a
    obtain ⟨hj,hR⟩:=hi
    simp only at hj hR
    simp only [S621]
    by_cases h:j<Y.l.length
    · have h':(j:Int)<Y.l.length:=by omega
      have hg : ∀ H,zpsc H 32 (Y.dv 32 dgC) j=some (.ref (dgC Y.l[j])):=fun H=>zalo z1t1 h
      obtain ⟨d,hd⟩ : ∃ d,Y.l[j]=d:=⟨_,rfl⟩
      rw [List.drop_eq_getElem_cons h,hd] at hR
      rw [hd] at hg
      have c1:cFct [x.dv 71 faC,.int .i64 5,.fn (.func 111) [] [.ref (dgC d)]]=_:=zek8 (x:=x) (k:=5) (s := .target d)
      have hfl:=zjru (l:=x.l) (k:=5) (s := .target d)
      have hfe:(ownN (zskr x.l 5 (.target d))).l=zskr x.l 5 (.target d):=zd8n (by omega)
      have c2:=zo6r (x:=ownN (zskr x.l 5 (.target d))) (n:=n) (by rw [hfe]; exact ok.e d)
      rw [hfe] at c2
      obtain ⟨e,he⟩ : ∃ e,zfyl (zskr x.l 5 (.target d)) n=e:=⟨_,rfl⟩
      unfold zdgi at hR
      rw [he] at hR c2
      refine zbn1 (V_W mix z6io ?_)
      simp (disch:=first|omega|(simp<;>omega)|fail) [-map_take,-map_drop,-map_set,-map_append,-drop_one,zcf7,zx7a,h,h',hg]
      refine zbn1 (V_W mix z6io ?_)
      simp (disch:=first|omega|(simp<;>omega)|fail) [-map_take,-map_drop,-map_set,-map_append,-drop_one]
      refine zbn1 (z3mo (zbn1 (V_W mix z6io ?_)))
      simp (disch:=first|omega|(simp<;>omega)|fail) [-map_take,-map_drop,-map_set,-map_append,-drop_one,hg]
      refine V_mk (fun id=>decide (id≤3)) ?_
      simp (disch:=first|omega|(simp<;>omega)|fail) [-map_take,-map_drop,-map_set,-map_append,-drop_one]
      refine V_W mix z6io ?_
      cases hh:e.holds with
      | true =>
        rw [if_pos hh] at hR
        subst hR
        simp (disch:=first|omega|(simp<;>omega)|fail) [-map_take,-map_drop,-map_set,-map_append,-drop_one,z4sv,zp93,c1,c2,hh]
      | false =>
        rw [if_neg (by rw [hh]; simp)] at hR
        simp (disch:=first|omega|(simp<;>omega)|fail) [-map_take,-map_drop,-map_set,-map_append,-drop_one,z4sv,zp93,c1,c2,hh,zvov]
        refine V_W mix z6io ?_
        simp (disch:=first|omega|(simp<;>omega)|fail) [-map_take,-map_drop,-map_set,-map_append,-drop_one]
        exact ⟨⟨j+1,min m e.missing⟩,zju2 (tail:=[.dead,.cells (suC e)]) (by simp (disch:=first|omega|(simp<;>omega)|fail) [-map_take,-map_drop,-map_set,-map_append,-drop_one,S621,zx7a]) (by simp (disch:=first|omega|(simp<;>omega)|fail) [-map_take,-map_drop,-map_set,-map_append,-drop_one,S621,zx7a,zcc9]) (by simp) (by simp (disch:=first|omega|(simp<;>omega)|fail) [-map_take,-map_drop,-map_set,-map_append,-drop_one,S621,zx7a,z1r6,Am.below]) (by simp (disch:=first|omega|(simp<;>omega)|fail) [-map_take,-map_drop,-map_set,-map_append,-drop_one,S621,zx7a,zlf2,z1r6,Am.below,su0,zoxk,zmq5 _ _ (zp6k z3ot _),fl]),by simp only; omega,by simp only; omega,hR⟩
    · have h':¬ (j:Int)<Y.l.length:=by omega
      rw [List.drop_of_length_le (by omega)] at hR
      have hR:zcc9 m=R:=hR
      refine zbn1 (V_W mix z6io ?_)
      simp (disch:=first|omega|(simp<;>omega)|fail) [-map_take,-map_drop,-map_set,-map_append,-drop_one,zcf7,zx7a,h,h']
      refine zbn1 (V_W mix z6io ?_)
      simp (disch:=first|omega|(simp<;>omega)|fail) [-map_take,-map_drop,-map_set,-map_append,-drop_one]
      refine V_W mix z6io ?_
      simp (disch:=first|omega|(simp<;>omega)|fail) [-map_take,-map_drop,-map_set,-map_append,-drop_one,hR]
noncomputable def zw0f:List DV→Option DV:=con (fun a:Sl Fct × Int=>ListOK a.1.l a.2) (fun a=>[a.1.dv 71 faC,.int .i64 a.2]) (fun a => .agg (suC (zf55 a.1.l a.2)))
theorem zu10 {x:Sl Fct} {n:Int} (h:ListOK x.l n):zw0f [x.dv 71 faC,.int .i64 n]=some (.agg (suC (zf55 x.l n))) :=
  zlyi (A:=fun a:Sl Fct × Int=>ListOK a.1.l a.2) (f:=fun a:Sl Fct × Int=>[a.1.dv 71 faC,.int .i64 a.2]) (g:=fun a => .agg (suC (zf55 a.1.l a.2))) (by
    rintro ⟨a,b⟩ ⟨c,d⟩ e
    simp only [List.cons.injEq,DV.int.injEq,and_true,true_and] at e
    rw [z4rf e.1,e.2]) (x,n) h
theorem ze60:(Con.pure zw0f).Sound P 73:=z2au fun a h=>znz9 Tryz.func73 zn06 (zgr9 a.1 a.2 h)
end Go.Proofs.YtdnhbfmlklaldaaGreat
set_option linter.unusedSimpArgs false
set_option linter.unusedVariables false
namespace Go.Proofs.YtdnhbfmlklaldaaGreat
open Go Go.Am
structure CkOK (c:Cas) (all:List Fct) (o:Org) (q:Req):Prop where
  e1:q.kind=1→EnOK (zskr c.f.l 1 (.same o)) q.n
  e3:q.kind=3→EnOK (zskr c.f.l 3 (.source o)) q.n
  e4:q.kind=4→RbOK (zskr c.f.l 4 (.source o)) (zskr all 4 (.source o)) q
  e5:q.kind=5→ListOK (zskr c.f.l 5 .every) q.n
  d : ∀ f ∈ c.f.l,f.docs.l.length≤12
  e6:q.kind=6→InOK c.f.l (decS c.n.l q.n)
  s:SmN c.n.l
  dd:c.d.l.length≤1000000
  f:c.f.l.length≤1000000
  a:all.length≤1000000
noncomputable def T630:Tbl:=addT 68 (.pure cFct) (addT 69 (.pure cEn) (addT 70 (.pure cOne) (addT 72 (.pure cRbt) (addT 73 (.pure zw0f) (addT 74 (.pure zy0t) (addT 75 (.pure (cFnI (fun l=>l.length≤1000000) gOpn)) (addT 48 (.pure (cFnI SmN gDec)) (addT 78 (.pure cCon) tbl0))))))))
theorem zl70:T630 68 = .pure cFct:=by simp [T630]
theorem zy8r:T630 69 = .pure cEn:=by simp [T630]
theorem zquo:T630 70 = .pure cOne:=by simp [T630]
theorem z4pj:T630 72 = .pure cRbt:=by simp [T630]
theorem z3pd:T630 73 = .pure zw0f:=by simp [T630]
theorem zdvr:T630 74 = .pure zy0t:=by simp [T630]
theorem zsjb:T630 75 = .pure (cFnI (fun l=>l.length≤1000000) gOpn):=by simp [T630]
theorem zizn:T630 48 = .pure (cFnI SmN gDec):=by simp [T630]
theorem zjpv:T630 78 = .pure cCon:=by simp [T630]
theorem zbup:T630.Sound P:=z0rp zbp8 (z0rp zm5m (z0rp zso5 (z0rp zwd7 (z0rp ze60 (z0rp zwv1 (z0rp z2pr (z0rp zdlo (z0rp ztc6 zr5o))))))))
theorem zfae {l:List Fct} {k:Int} {s:Sel} (h:l.length≤1000000):(ownN (zskr l k s)).l=zskr l k s:=zd8n (by have:=zjru (l:=l) (k:=k) (s:=s); omega)
set_option maxRecDepth 20000 in
theorem z1si (c:Cas) (o:Org) (q:Req) (all:Sl Fct) (ok:CkOK c all.l o q):V P 0 a42.code (retK a42.res (.agg (suC (zvkf c c.f.l all.l o q)))) ⟨zr5g a42.ntmps [.agg (caC c),.agg (orC o),.agg (rqC q),all.dv 71 faC],[]⟩:=by
  refine zbn1 (V_W mix zbup ?_)
  simp (disch:=first|omega|(simp<;>omega)|fail) [-map_take,-map_drop,-map_set,-map_append,-drop_one,a42]
  refine zbn1 (V_W mix zbup ?_)
  simp (disch:=first|omega|(simp<;>omega)|fail) [-map_take,-map_drop,-map_set,-map_append,-drop_one]
  refine zbn1 (V_W mix zbup ?_)
  simp (disch:=first|omega|(simp<;>omega)|fail) [-map_take,-map_drop,-map_set,-map_append,-drop_one]
  refine V_mk (fun id=>decide (id=3)) ?_
  simp (disch:=first|omega|(simp<;>omega)|fail) [-map_take,-map_drop,-map_set,-map_append,-drop_one]
  refine V_W mix zbup ?_
  have hf:=ok.f
  have ha:=ok.a
  have c5:=zek8 (x:=c.f) (k:=5) (s := .every)
  have l5:=zfae (k:=5) (s := .every) hf
  simp only [Sel.dv,Sel.fid,Sel.cap] at c5
  by_cases e1:q.kind=1
  · have k1:=zek8 (x:=c.f) (k:=1) (s := .same o)
    have k2:=zo6r (x:=ownN (zskr c.f.l 1 (.same o))) (n:=q.n) (by rw [zfae hf]; exact ok.e1 e1)
    rw [zfae hf] at k2
    simp only [Sel.dv,Sel.fid,Sel.cap] at k1
    have hr:zvkf c c.f.l all.l o q=zfyl (zskr c.f.l 1 (.same o)) q.n:=by unfold zvkf; rw [if_pos e1]
    simp (disch:=first|omega|(simp<;>omega)|fail) [-map_take,-map_drop,-map_set,-map_append,-drop_one,zl70,zy8r,c5,k1,k2,e1,hr]
  by_cases e2:q.kind=2
  · have k1:=zek8 (x:=c.f) (k:=2) (s := .chained o q)
    have k2:=zcl6 (x:=ownN (zskr c.f.l 2 (.chained o q))) (by rw [zfae hf]; exact fun f h=>ok.d f (zs6z.1 h).1)
    rw [zfae hf] at k2
    simp only [Sel.dv,Sel.fid,Sel.cap,smF] at k1
    have hr:zvkf c c.f.l all.l o q=oneS (zskr c.f.l 2 (.chained o q)):=by unfold zvkf; rw [if_neg e1,if_pos e2]
    simp (disch:=first|omega|(simp<;>omega)|fail) [-map_take,-map_drop,-map_set,-map_append,-drop_one,zl70,zquo,c5,k1,k2,e1,e2,hr]
  by_cases e3:q.kind=3
  · have k1:=zek8 (x:=c.f) (k:=3) (s := .source o)
    have k2:=zo6r (x:=ownN (zskr c.f.l 3 (.source o))) (n:=q.n) (by rw [zfae hf]; exact ok.e3 e3)
    rw [zfae hf] at k2
    simp only [Sel.dv,Sel.fid,Sel.cap] at k1
    have hr:zvkf c c.f.l all.l o q=zfyl (zskr c.f.l 3 (.source o)) q.n:=by unfold zvkf; rw [if_neg e1,if_neg e2,if_pos e3]
    simp (disch:=first|omega|(simp<;>omega)|fail) [-map_take,-map_drop,-map_set,-map_append,-drop_one,zl70,zy8r,c5,k1,k2,e1,e2,e3,hr]
  by_cases e4:q.kind=4
  · have k1:=zek8 (x:=c.f) (k:=4) (s := .source o)
    have k3:=zek8 (x:=all) (k:=4) (s := .source o)
    have k2:=zvpz (x:=ownN (zskr c.f.l 4 (.source o))) (y:=ownN (zskr all.l 4 (.source o))) (q:=q) (by rw [zfae hf,zfae ha]; exact ok.e4 e4)
    rw [zfae hf,zfae ha] at k2
    simp only [Sel.dv,Sel.fid,Sel.cap] at k1 k3
    have hr:zvkf c c.f.l all.l o q=zo4d (zskr c.f.l 4 (.source o)) (zskr all.l 4 (.source o)) q:=by unfold zvkf; rw [if_neg e1,if_neg e2,if_neg e3,if_pos e4]
    simp (disch:=first|omega|(simp<;>omega)|fail) [-map_take,-map_drop,-map_set,-map_append,-drop_one,zl70,z4pj,c5,k1,k2,k3,e1,e2,e3,e4,hr]
  by_cases e5:q.kind=5
  · have k2:=zu10 (x:=ownN (zskr c.f.l 5 .every)) (n:=q.n) (by rw [l5]; exact ok.e5 e5)
    rw [l5] at k2
    have hr:zvkf c c.f.l all.l o q=zf55 (zskr c.f.l 5 .every) q.n:=by unfold zvkf; rw [if_neg e1,if_neg e2,if_neg e3,if_neg e4,if_pos e5]
    simp (disch:=first|omega|(simp<;>omega)|fail) [-map_take,-map_drop,-map_set,-map_append,-drop_one,zl70,z3pd,c5,k2,e1,e2,e3,e4,e5,hr]
  have inok : ∀ {y},InOK c.f.l y→InOK (zskr c.f.l 5 .every) y:=fun h f hf=>h f (zs6z.1 hf).1
  by_cases e6:q.kind=6
  · have hd:=zycp (s:=q.n) ok.s.n ok.s.d
    have ho:(opL c.n.l q.n).length=(zcm1 c.n.l q.n).length:=List.length_map ..
    have hol:(zcm1 c.n.l q.n).length≤c.n.l.length:=List.length_filter_le _ _
    have hn:=ok.s.n
    have k1:cFnI (fun l=>l.length≤1000000) gOpn [c.n.dv 39 fnC,.int .i64 q.n]=some ((ownN (opL c.n.l q.n)).dv 39 fnC):=ze20 (A:=fun l=>l.length≤1000000) (g:=gOpn) (x:=c.n) (s:=q.n) (by show _≤_; omega)
    have k3:cFnI SmN gDec [c.n.dv 39 fnC,.int .i64 q.n]=some ((ownN (decS c.n.l q.n)).dv 32 dgC):=ze20 (g:=gDec) (x:=c.n) (s:=q.n) ok.s
    have hl : ∀ H,lenD H ((ownN (opL c.n.l q.n)).dv 39 fnC)=some (.int .i64 (zcm1 c.n.l q.n).length):=fun H=>by rw [zupj,zd8n (by omega),ho]
    have hdl:(ownN (decS c.n.l q.n)).l=decS c.n.l q.n:=zd8n (by omega)
    have k2:=z19c (x:=ownN (zskr c.f.l 5 .every)) (n:=(zcm1 c.n.l q.n).length) (y:=ownN (decS c.n.l q.n)) (by rw [l5,hdl]; exact inok (ok.e6 e6))
    rw [l5,hdl] at k2
    have hr:zvkf c c.f.l all.l o q=zpu0 (zskr c.f.l 5 .every) (zcm1 c.n.l q.n).length (decS c.n.l q.n):=by unfold zvkf; rw [if_neg e1,if_neg e2,if_neg e3,if_neg e4,if_neg e5,if_pos e6]
    simp (disch:=first|omega|(simp<;>omega)|fail) [-map_take,-map_drop,-map_set,-map_append,-drop_one,zl70,zsjb,zizn,zdvr,c5,k1,k2,k3,hl,e1,e2,e3,e4,e5,e6,hr]
  by_cases e7:q.kind=7
  · have k1:=zek8 (x:=c.f) (k:=1) (s := .fresh o c q)
    have k2:=zcl6 (x:=ownN (zskr c.f.l 1 (.fresh o c q))) (by rw [zfae hf]; exact fun f h=>ok.d f (zs6z.1 h).1)
    rw [zfae hf] at k2
    simp only [Sel.dv,Sel.fid,Sel.cap,smF] at k1
    have hr:zvkf c c.f.l all.l o q=oneS (zskr c.f.l 1 (.fresh o c q)):=by unfold zvkf; rw [if_neg e1,if_neg e2,if_neg e3,if_neg e4,if_neg e5,if_neg e6,if_pos e7]
    simp (disch:=first|omega|(simp<;>omega)|fail) [-map_take,-map_drop,-map_set,-map_append,-drop_one,zl70,zquo,c5,k1,k2,e1,e2,e3,e4,e5,e6,e7,hr]
  · have hn:=ok.s.n
    have hdd:=ok.dd
    have hc:=zcsy (l:=c.n.l) (i:=c.n.l.length)
    rw [List.take_length] at hc
    have hw:IntKind.i64.wrap (zu7t c.n.l+(c.d.l.length:Int))=zu7t c.n.l+c.d.l.length:=by rw [IntKind.wrap_i64]; omega
    have hl : ∀ H,lenD H (c.d.dv 1 stC)=some (.int .i64 c.d.l.length):=fun H=>zupj
    have k2:=z19c (x:=ownN (zskr c.f.l 5 .every)) (n:=zu7t c.n.l+c.d.l.length) (y:=nilS) (by rw [l5]; exact inok fun f hf=>by have:=ok.d f hf; simpa [zb11] using this)
    rw [l5] at k2
    have hnil:(nilS:Sl Dg).dv 32 dgC = .nils:=rfl
    rw [hnil,zb11] at k2
    have hr:zvkf c c.f.l all.l o q=zpu0 (zskr c.f.l 5 .every) (zu7t c.n.l+c.d.l.length) []:=by unfold zvkf; rw [if_neg e1,if_neg e2,if_neg e3,if_neg e4,if_neg e5,if_neg e6,if_neg e7]
    simp (disch:=first|omega|(simp<;>omega)|fail) [-map_take,-map_drop,-map_set,-map_append,-drop_one,zl70,zjpv,zdvr,c5,zs4w,k2,hl,hw,e1,e2,e3,e4,e5,e6,e7,hr]
end Go.Proofs.YtdnhbfmlklaldaaGreat
set_option linter.unusedSimpArgs false
set_option linter.unusedVariables false
namespace Go.Proofs.YtdnhbfmlklaldaaGreat
open Go Go.Am
noncomputable def cChk:List DV→Option DV:=con (fun a:Cas × Org × Req × Sl Fct=>CkOK a.1 a.2.2.2.l a.2.1 a.2.2.1) (fun a=>[.agg (caC a.1),.agg (orC a.2.1),.agg (rqC a.2.2.1),a.2.2.2.dv 71 faC]) (fun a => .agg (suC (zvkf a.1 a.1.f.l a.2.2.2.l a.2.1 a.2.2.1)))
theorem zmhz {c:Cas} {o:Org} {q:Req} {all:Sl Fct} (h:CkOK c all.l o q):cChk [.agg (caC c),.agg (orC o),.agg (rqC q),all.dv 71 faC]=some (.agg (suC (zvkf c c.f.l all.l o q))) :=
  zlyi (A:=fun a:Cas × Org × Req × Sl Fct=>CkOK a.1 a.2.2.2.l a.2.1 a.2.2.1) (f:=fun a:Cas × Org × Req × Sl Fct=>[.agg (caC a.1),.agg (orC a.2.1),.agg (rqC a.2.2.1),a.2.2.2.dv 71 faC]) (g:=fun a => .agg (suC (zvkf a.1 a.1.f.l a.2.2.2.l a.2.1 a.2.2.1))) (by
    rintro ⟨a,b,c,d⟩ ⟨a',b',c',d'⟩ e
    simp only [List.cons.injEq,DV.agg.injEq,and_true] at e
    rw [zejx e.1,zc65 e.2.1,z82b e.2.2.1,z4rf e.2.2.2]) (c,o,q,all) h
theorem zjcs:(Con.pure cChk).Sound P 42:=z2au fun a h=>znz9 Tryz.func42 zl17 (z1si a.1 a.2.1 a.2.2.1 a.2.2.2 h)
noncomputable def T631:Tbl:=addT 41 (.pure cReq) (addT 42 (.pure cChk) tbl0)
theorem zcly:T631 41 = .pure cReq:=by simp [T631]
theorem zocb:T631 42 = .pure cChk:=by simp [T631]
theorem zjy9:T631.Sound P:=z0rp z8mz (z0rp zjcs zr5o)
theorem zkxe (c:Cas) (o:Org) (q:Req) (ok:reqB q=true→CkOK c c.f.l o q):Runs T631 a20 [.agg (caC c),.agg (orC o),.agg (rqC q)] (.agg (suC (zwwp c o q))):=by
  refine ⟨?_⟩
  cases hq:reqB q with
  | false =>
    have hr:zwwp c o q=supZ:=by unfold zwwp; rw [hq]; rfl
    have e:zvnk [.bool false,.nils,.int .i64 0] []=some (.agg (suC supZ)):=rfl
    simp (disch:=first|omega|(simp<;>omega)|fail) [-map_take,-map_drop,-map_set,-map_append,-drop_one,a20,zcly,zc86,hq,hr,e]
  | true =>
    have hr:zwwp c o q=zvkf c c.f.l c.f.l o q:=by unfold zwwp; rw [hq]; rfl
    have k:=zmhz (ok hq)
    simp (disch:=first|omega|(simp<;>omega)|fail) [-map_take,-map_drop,-map_set,-map_append,-drop_one,a20,zcly,zocb,zc86,hq,hr,k]
noncomputable def cChe:List DV→Option DV:=con (fun a:Cas × Org × Req=>reqB a.2.2=true→CkOK a.1 a.1.f.l a.2.1 a.2.2) (fun a=>[.agg (caC a.1),.agg (orC a.2.1),.agg (rqC a.2.2)]) (fun a => .agg (suC (zwwp a.1 a.2.1 a.2.2)))
theorem z1u0 {c:Cas} {o:Org} {q:Req} (h:reqB q=true→CkOK c c.f.l o q):cChe [.agg (caC c),.agg (orC o),.agg (rqC q)]=some (.agg (suC (zwwp c o q))) :=
  zlyi (A:=fun a:Cas × Org × Req=>reqB a.2.2=true→CkOK a.1 a.1.f.l a.2.1 a.2.2) (f:=fun a:Cas × Org × Req=>[.agg (caC a.1),.agg (orC a.2.1),.agg (rqC a.2.2)]) (g:=fun a => .agg (suC (zwwp a.1 a.2.1 a.2.2))) (by
    rintro ⟨a,b,c⟩ ⟨a',b',c'⟩ e
    simp only [List.cons.injEq,DV.agg.injEq,and_true] at e
    rw [zejx e.1,zc65 e.2.1,z82b e.2.2]) (c,o,q) h
theorem zl6h:(Con.pure cChe).Sound P 20:=z2au fun a h=>zljw mix zjy9 Tryz.func20 zfgm (zkxe a.1 a.2.1 a.2.2 h)
noncomputable def T632:Tbl:=addT 41 (.pure cReq) (addT 42 (.pure cChk) (addT 48 (.pure (cFnI SmN gDec)) (addT 47 (.pure cCf) (addT 50 (.new cNF) (addT 49 (.heap z10r) tbl0)))))
theorem z4at:T632 41 = .pure cReq:=by simp [T632]
theorem z44g:T632 42 = .pure cChk:=by simp [T632]
theorem zuwa:T632 48 = .pure (cFnI SmN gDec):=by simp [T632]
theorem z668:T632 47 = .pure cCf:=by simp [T632]
theorem zx98:T632 50 = .new cNF:=by simp [T632]
theorem z9db:T632 49 = .heap z10r:=by simp [T632]
theorem z912:T632.Sound P:=z0rp z8mz (z0rp zjcs (z0rp zdlo (z0rp zkac (z0rp zu1a (z0rp zoba zr5o)))))
def zcqw (c:Cas) (docs:List Dg):List Fct:=c.f.l.filter fun f=>subB f.docs.l docs
def z613 (c:Cas) (docs:List Dg):Sl Fct:=if c.f.l=[] then c.f.clone else ⟨some false,zcqw c docs,fun e=>by simp at e,by have:=c.f.b; have:=List.length_filter_le (fun f:Fct=>subB f.docs.l docs) c.f.l; unfold zcqw; omega⟩
theorem zke4 {c:Cas} {docs:List Dg}:(z613 c docs).l=zcqw c docs:=by
  unfold z613
  split
  · rename_i e; unfold zcqw; rw [e]; exact e
  · rfl
def zev9 (c:Cas) (docs:List Dg):Cas:={ c with f:=z613 c docs }
theorem zdv6 {c c':Cas} {fs all:List Fct} {o:Org} {q:Req} (h1:c'.at_=c.at_) (h2:c'.n=c.n) (h3:c'.d=c.d):zvkf c' fs all o q=zvkf c fs all o q:=by
  unfold zvkf
  rw [h2,h3]
  have:zskr fs 1 (.fresh o c' q)=zskr fs 1 (.fresh o c q):=by unfold zskr Sel.p; simp only [h1]
  rw [this]
structure ByOK (c:Cas) (o:Org) (q:Req) (docs:List Dg):Prop where
  k:CkOK (zev9 c docs) c.f.l o q
  s:SmN c.n.l
  f:c.f.l.length≤1000000
theorem zfzb {c:Cas} {v:DV}:zk7y (caC c) 33 [v]=dgC c.art++[.int .i64 c.at_,v,c.n.dv 39 fnC,c.d.dv 1 stC]:=by
  unfold zk7y
  rw [show (caC c).take 33=dgC c.art++[.int .i64 c.at_] from ?_,show (caC c).drop (33+[v].length)=[c.n.dv 39 fnC,c.d.dv 1 stC] from ?_]
  · simp
  · show (caC c).drop 34=_
    rw [show (34:Nat)=32+2 from rfl,← List.drop_drop,zak0]; rfl
  · rw [caC,List.take_append,List.take_of_length_le (by rw [z1t1]; decide),z1t1]; rfl
theorem ca_f {c:Cas} {y:Sl Fct}:dgC c.art++[.int .i64 c.at_,y.dv 71 faC,c.n.dv 39 fnC,c.d.dv 1 stC]=caC { c with f:=y }:=rfl
theorem zqm6 {K:Nat→Bool} {h:List AObj} : ∀ {a b:List DV},mkL K h (a++b)=mkL K h a++mkL K h b
  | [],b=>rfl
  | d::r,b=>by rw [List.cons_append,mkL,mkL,zqm6,List.cons_append]
theorem zad8 {α:Type} {h:List AObj} {s:Nat} {f:α→List DV} {x:Sl α}:boxD h (x.dv s f)=some (.mp h.length 1 0,h++[.cells [x.dv s f]]):=by
  unfold boxD; rw [ztw5,if_pos rfl,zs9p]; rfl
attribute [simp] zad8
theorem zidb {x:Sl Dg}:zyp8 (x.dv 32 dgC)=true:=zpfc x
theorem zwvs {K:Nat→Bool} {h:List AObj} {k:Nat} {x:Sl Dg}:fzS K h k (x.dv 32 dgC)=some (x.dv 32 dgC):=zzxw (zpfc x)
attribute [simp] zidb zwvs
def zrbg:ACode:=match a22.code with
  | .seq _ (.seq _ (.seq _ y))=>y
  | _ => .skip
def fnM (docs:Sl Dg):DV := .fn (.func 45) [] [.ref [docs.dv 32 dgC]]
def bySt (c:Cas) (o:Org) (q:Req) (docs:Sl Dg):St:=⟨[.junk,.junk,.junk,.junk,.mp 0 36 0,.ref (orC o),.ref (rqC q),.ref [docs.dv 32 dgC],.bool false,.ref [fnM docs]]++js 32,[.cells (caC c),.dead,.dead,.dead,.dead]⟩
set_option maxRecDepth 20000 in
theorem zqk8 (c:Cas) (o:Org) (q:Req) (docs:Sl Dg) (k1:CkOK (zev9 c docs.l) c.f.l o q) (k3:c.f.l.length≤1000000):V P 0 zrbg (retK [.tmp 8] (.bool (zvkf (zev9 c docs.l) (zev9 c docs.l).f.l c.f.l o q).holds)) (bySt c o q docs):=by
  have hk:=zmhz k1
  obtain ⟨R,hR⟩ : ∃ R,zvkf (zev9 c docs.l) (zev9 c docs.l).f.l c.f.l o q=R:=⟨_,rfl⟩
  rw [hR] at hk ⊢
  have hpM:zbao [DV.ref [fnM docs]]=true:=by simp [fnM,zbao,zyp8]
  have dok:DFOK ⟨[.cells (caC c),.dead,.dead,.dead,.dead],[.ref [fnM docs]],.out docs,c.f⟩:=⟨fun X=>z619 hpM,zmq5 _ _ hpM,by simp [zlf2,zmq5 _ _ (zkih c)],k3⟩
  have h0:=zrkp (x:=c.f) (n:=5)
  have h1:=zo2w dok
  simp only [List.length_cons,List.length_nil,Nat.zero_add,Fp.fid] at h1
  simp only [zrbg,a22,bySt]
  refine zbn1 (V_W mix z912 ?_)
  simp (disch:=first|omega|(simp<;>omega)|fail) [-map_take,-map_drop,-map_set,-map_append,-drop_one]
  refine zbn1 (V_W mix z912 ?_)
  by_cases e:c.f.l=[]
  · have hl:z613 c docs.l=c.f.clone:=if_pos e
    rw [zpj6 e,e,z7sv] at h0
    rw [zpj6 e,dlD,if_pos e,e,z7sv,zy6r,z7sv,List.append_nil] at h1
    have hs : ∀ H:List AObj,zy6o H 0 1 33 (c.f.clone.dv 71 faC) (some (caC c))=some (.junk,H.set 0 (.cells (caC (zev9 c docs.l)))):=fun H=>by
      rw [zltg (zs9p _) (z4ja _) (by rw [zt8w]; decide),zfzb,ca_f,zev9,hl]
    simp (disch:=first|omega|(simp<;>omega)|fail) [-map_take,-map_drop,-map_set,-map_append,-drop_one,zx98,z9db,h0,h1,hs]
    refine V_mk (fun _=>false) ?_
    simp (disch:=first|omega|(simp<;>omega)|fail) [-map_take,-map_drop,-map_set,-map_append,-drop_one]
    refine V_W mix z912 ?_
    simp (disch:=first|omega|(simp<;>omega)|fail) [-map_take,-map_drop,-map_set,-map_append,-drop_one,z44g,hk]
  · have hkp:kp (Fp.out docs).p c.f.l=zcqw c docs.l:=by
      unfold kp zcqw
      congr 1
      funext f
      simp [Fp.p]
    have hl:(z613 c docs.l).dv 71 faC = .sl false 71 (zcqw c docs.l).length ((zcqw c docs.l).flatMap faC):=by
      unfold z613; rw [if_neg e]; rfl
    have hd:=z8wb (p:=(Fp.out docs).p) (z:=fct0) e
    obtain ⟨D,hD⟩ : ∃ D,delO fct0 (Fp.out docs).p c.f.l=D:=⟨_,rfl⟩
    have hDl:D.length=c.f.l.length:=by rw [← hD]; exact zwda _ _
    have hDt:(fl faC D).take ((zcqw c docs.l).length*71)=(zcqw c docs.l).flatMap faC:=by rw [z590 zs77,← hD,← hkp,zgcl]
    rw [z2ra e,zsqo e] at h0
    rw [z2ra e,dlD,if_neg e,zsqo e,zsqo hd,hD,hkp] at h1
    simp only [List.cons_append,List.nil_append] at h1
    obtain ⟨n,hn⟩ : ∃ n,c.f.l.length=n:=⟨_,rfl⟩
    rw [hn] at h0 h1 hDl
    have hfl:(fl faC D).length=n*71:=by rw [z8lx zs77,hDl]
    have hs : ∀ H:List AObj,zy6o H 0 1 33 (.ms 5 (n*71) 0 71 (zcqw c docs.l).length (n*71)) (some (caC c))=some (.junk,H.set 0 (.cells (dgC c.art++[.int .i64 c.at_,.ms 5 (n*71) 0 71 (zcqw c docs.l).length (n*71),c.n.dv 39 fnC,c.d.dv 1 stC]))):=fun H=>by
      rw [zltg rfl rfl (by rw [zt8w]; decide),zfzb]
    have hca:dgC c.art++[.int .i64 c.at_,.sl false 71 (zcqw c docs.l).length ((zcqw c docs.l).flatMap faC),c.n.dv 39 fnC,c.d.dv 1 stC]=caC (zev9 c docs.l):=by rw [← hl]; rfl
    have hp:=zp6k z93p (zcqw c docs.l)
    have hpd:=fun K H=>zrip (K:=K) (h:=H) (z3ot c.art)
    simp (disch:=first|omega|(simp<;>omega)|fail) [-map_take,-map_drop,-map_set,-map_append,-drop_one,zx98,z9db,h0,h1,hs]
    refine V_mk (fun id=>decide (id=0)) ?_
    simp (disch:=first|omega|(simp<;>omega)|fail) [-map_take,-map_drop,-map_set,-map_append,-drop_one,zqm6,hpd,hfl,hDt,hp,hca]
    refine V_W mix z912 ?_
    simp (disch:=first|omega|(simp<;>omega)|fail) [-map_take,-map_drop,-map_set,-map_append,-drop_one,z44g,hk]
set_option maxRecDepth 20000 in
theorem zv4n (c:Cas) (o:Org) (q:Req) (docs:Sl Dg) (ok:reqB q=true→ByOK c o q docs.l):V P 0 a22.code (retK a22.res (.bool (ByS c o q docs.l))) ⟨zr5g a22.ntmps [.agg (caC c),.agg (orC o),.agg (rqC q),docs.dv 32 dgC],[]⟩:=by
  refine zbn1 (V_W mix z912 ?_)
  simp (disch:=first|omega|(simp<;>omega)|fail) [-map_take,-map_drop,-map_set,-map_append,-drop_one,a22]
  refine zbn1 (V_W mix z912 ?_)
  simp (disch:=first|omega|(simp<;>omega)|fail) [-map_take,-map_drop,-map_set,-map_append,-drop_one]
  refine V_mk (fun id=>decide (id=0)) ?_
  simp (disch:=first|omega|(simp<;>omega)|fail) [-map_take,-map_drop,-map_set,-map_append,-drop_one]
  refine zbn1 (V_W mix z912 ?_)
  cases hq:reqB q with
  | false =>
    have hr:ByS c o q docs.l=false:=by unfold ByS; rw [hq]; rfl
    simp (disch:=first|omega|(simp<;>omega)|fail) [-map_take,-map_drop,-map_set,-map_append,-drop_one,z4at,zc86,hq,hr]
  | true =>
  obtain ⟨k1,k2,k3⟩:=ok hq
  have k4:cFnI SmN gDec [c.n.dv 39 fnC,.int .i64 q.n]=some ((ownN (decS c.n.l q.n)).dv 32 dgC):=ze20 (g:=gDec) (x:=c.n) (s:=q.n) k2
  have hdl:(ownN (decS c.n.l q.n)).l=decS c.n.l q.n:=zd8n (by have:=zycp (s:=q.n) k2.n k2.d; omega)
  have k5:=z8o6 (x:=ownN (decS c.n.l q.n)) (q:=docs)
  rw [hdl] at k5
  simp only [zd09] at k5
  have hb:ByS c o q docs.l=((!decide (q.kind=6)||subB (decS c.n.l q.n) docs.l)&&(zvkf (zev9 c docs.l) (zev9 c docs.l).f.l c.f.l o q).holds):=by
    unfold ByS
    rw [hq,Bool.true_and,zdv6 (c':=zev9 c docs.l) (c:=c) rfl rfl rfl,show (zev9 c docs.l).f.l=zcqw c docs.l from zke4]
    rfl
  have tail:=zqk8 c o q docs k1 k3
  by_cases e6:q.kind=6
  · cases hs:subB (decS c.n.l q.n) docs.l with
    | false =>
      have hr:ByS c o q docs.l=false:=by rw [hb,hs]; simp [e6]
      simp (disch:=first|omega|(simp<;>omega)|fail) [-map_take,-map_drop,-map_set,-map_append,-drop_one,z4at,zuwa,z668,zc86,hq,e6,hs,k4,k5,hr]
    | true =>
      have hr:ByS c o q docs.l=(zvkf (zev9 c docs.l) (zev9 c docs.l).f.l c.f.l o q).holds:=by rw [hb,hs]; simp
      rw [hr]
      simp (disch:=first|omega|(simp<;>omega)|fail) [-map_take,-map_drop,-map_set,-map_append,-drop_one,z4at,zuwa,z668,zc86,hq,e6,hs,k4,k5]
      exact zqfd (z515 (by simp (disch:=first|omega|(simp<;>omega)|fail) [-map_take,-map_drop,-map_set,-map_append,-drop_one,bySt,fnM]) rfl) tail
  · have hr:ByS c o q docs.l=(zvkf (zev9 c docs.l) (zev9 c docs.l).f.l c.f.l o q).holds:=by rw [hb]; simp [e6]
    rw [hr]
    simp (disch:=first|omega|(simp<;>omega)|fail) [-map_take,-map_drop,-map_set,-map_append,-drop_one,z4at,zuwa,z668,zc86,hq,e6,k4,k5]
    exact zqfd (z515 (by simp (disch:=first|omega|(simp<;>omega)|fail) [-map_take,-map_drop,-map_set,-map_append,-drop_one,bySt,fnM]) rfl) tail
noncomputable def cBy:List DV→Option DV:=con (fun a:Cas × Org × Req × Sl Dg=>reqB a.2.2.1=true→ByOK a.1 a.2.1 a.2.2.1 a.2.2.2.l) (fun a=>[.agg (caC a.1),.agg (orC a.2.1),.agg (rqC a.2.2.1),a.2.2.2.dv 32 dgC]) (fun a => .bool (ByS a.1 a.2.1 a.2.2.1 a.2.2.2.l))
theorem z33l {c:Cas} {o:Org} {q:Req} {docs:Sl Dg} (h:reqB q=true→ByOK c o q docs.l):cBy [.agg (caC c),.agg (orC o),.agg (rqC q),docs.dv 32 dgC]=some (.bool (ByS c o q docs.l)) :=
  zlyi (A:=fun a:Cas × Org × Req × Sl Dg=>reqB a.2.2.1=true→ByOK a.1 a.2.1 a.2.2.1 a.2.2.2.l) (f:=fun a:Cas × Org × Req × Sl Dg=>[.agg (caC a.1),.agg (orC a.2.1),.agg (rqC a.2.2.1),a.2.2.2.dv 32 dgC]) (g:=fun a => .bool (ByS a.1 a.2.1 a.2.2.1 a.2.2.2.l)) (by
    rintro ⟨a,b,c,d⟩ ⟨a',b',c',d'⟩ e
    simp only [List.cons.injEq,DV.agg.injEq,and_true] at e
    rw [zejx e.1,zc65 e.2.1,z82b e.2.2.1,z42k e.2.2.2]) (c,o,q,docs) h
theorem zg7u:(Con.pure cBy).Sound P 22:=z2au fun a h=>znz9 Tryz.func22 zi98 (zv4n a.1 a.2.1 a.2.2.1 a.2.2.2 h)
end Go.Proofs.YtdnhbfmlklaldaaGreat
set_option linter.unusedSimpArgs false
set_option linter.unusedVariables false
namespace Go.Proofs.YtdnhbfmlklaldaaGreat
open Go Go.Am
def a14:AFn where
  code:=(.seq (.region false [⟨none,(some 0),.mov (.k (.bool false))⟩])
  (.seq (.region false [⟨none,(some 6),.build (rep 32 (w8 0#8)) [(0,1,(.k (w8 1#8)))]⟩,
    ⟨none,(some 7),.build [(w8 0#8),(w8 0#8),(w8 0#8),(w8 0#8),(w8 0#8),(w8 0#8),(w8 0#8),(w8 0#8),(w8 0#8),(w8 0#8),(w8 0#8),(w8 0#8),(w8 0#8),(w8 0#8),(w8 0#8),(w8 0#8),(w8 0#8),(w8 0#8),(w8 0#8),(w8 0#8),(w8 0#8),(w8 0#8),(w8 0#8),(w8 0#8),(w8 0#8),(w8 0#8),(w8 0#8),(w8 0#8),(w8 0#8),(w8 0#8),(w8 0#8),(w8 0#8),(.str []),(.str [])] [(0,32,(.t 6)),(32,1,(.k (.str [108]))),(33,1,(.k (.str [114])))]⟩,
    ⟨none,(some 1),.alloc [(w8 0#8),(w8 0#8),(w8 0#8),(w8 0#8),(w8 0#8),(w8 0#8),(w8 0#8),(w8 0#8),(w8 0#8),(w8 0#8),(w8 0#8),(w8 0#8),(w8 0#8),(w8 0#8),(w8 0#8),(w8 0#8),(w8 0#8),(w8 0#8),(w8 0#8),(w8 0#8),(w8 0#8),(w8 0#8),(w8 0#8),(w8 0#8),(w8 0#8),(w8 0#8),(w8 0#8),(w8 0#8),(w8 0#8),(w8 0#8),(w8 0#8),(w8 0#8),(.str []),(.str [])]⟩,
    ⟨none,none,.store 34 (.t 1) (.t 7)⟩])
  (.seq (.region false [⟨none,(some 8),.build (rep 32 (w8 0#8)) [(0,1,(.k (w8 1#8)))]⟩,
    ⟨none,(some 9),.build (rep 32 (w8 0#8)) [(0,1,(.k (w8 7#8)))]⟩,
    ⟨none,(some 10),.bsl 32 1 (rep 32 (w8 0#8)) [(0,32,(.t 9))]⟩,
    ⟨none,(some 11),.build [(.int .i64 0),(.str []),(w8 0#8),(w8 0#8),(w8 0#8),(w8 0#8),(w8 0#8),(w8 0#8),(w8 0#8),(w8 0#8),(w8 0#8),(w8 0#8),(w8 0#8),(w8 0#8),(w8 0#8),(w8 0#8),(w8 0#8),(w8 0#8),(w8 0#8),(w8 0#8),(w8 0#8),(w8 0#8),(w8 0#8),(w8 0#8),(w8 0#8),(w8 0#8),(w8 0#8),(w8 0#8),(w8 0#8),(w8 0#8),(w8 0#8),(w8 0#8),(w8 0#8),(w8 0#8),(.str []),(.str []),(.int .i64 0),(.bool false),(w8 0#8),(w8 0#8),(w8 0#8),(w8 0#8),(w8 0#8),(w8 0#8),(w8 0#8),(w8 0#8),(w8 0#8),(w8 0#8),(w8 0#8),(w8 0#8),(w8 0#8),(w8 0#8),(w8 0#8),(w8 0#8),(w8 0#8),(w8 0#8),(w8 0#8),(w8 0#8),(w8 0#8),(w8 0#8),(w8 0#8),(w8 0#8),(w8 0#8),(w8 0#8),(w8 0#8),(w8 0#8),(w8 0#8),(w8 0#8),(w8 0#8),(w8 0#8),.nils] [(0,1,(.k (.int .i64 1))),(1,1,(.k (.str [98]))),(2,32,(.t 8)),(34,1,(.k (.str [108]))),(35,1,(.k (.str [114]))),(36,1,(.k (.int .i64 5))),(70,1,(.t 10))]⟩,
    ⟨none,(some 12),.build (rep 32 (w8 0#8)) [(0,1,(.k (w8 1#8)))]⟩,
    ⟨none,(some 13),.build (rep 32 (w8 0#8)) [(0,1,(.k (w8 6#8)))]⟩,
    ⟨none,(some 14),.bsl 32 1 (rep 32 (w8 0#8)) [(0,32,(.t 13))]⟩,
    ⟨none,(some 15),.build [(.int .i64 0),(.str []),(w8 0#8),(w8 0#8),(w8 0#8),(w8 0#8),(w8 0#8),(w8 0#8),(w8 0#8),(w8 0#8),(w8 0#8),(w8 0#8),(w8 0#8),(w8 0#8),(w8 0#8),(w8 0#8),(w8 0#8),(w8 0#8),(w8 0#8),(w8 0#8),(w8 0#8),(w8 0#8),(w8 0#8),(w8 0#8),(w8 0#8),(w8 0#8),(w8 0#8),(w8 0#8),(w8 0#8),(w8 0#8),(w8 0#8),(w8 0#8),(w8 0#8),(w8 0#8),(.str []),(.str []),(.int .i64 0),(.bool false),(w8 0#8),(w8 0#8),(w8 0#8),(w8 0#8),(w8 0#8),(w8 0#8),(w8 0#8),(w8 0#8),(w8 0#8),(w8 0#8),(w8 0#8),(w8 0#8),(w8 0#8),(w8 0#8),(w8 0#8),(w8 0#8),(w8 0#8),(w8 0#8),(w8 0#8),(w8 0#8),(w8 0#8),(w8 0#8),(w8 0#8),(w8 0#8),(w8 0#8),(w8 0#8),(w8 0#8),(w8 0#8),(w8 0#8),(w8 0#8),(w8 0#8),(w8 0#8),.nils] [(0,1,(.k (.int .i64 1))),(1,1,(.k (.str [97]))),(2,32,(.t 12)),(34,1,(.k (.str [108]))),(35,1,(.k (.str [114]))),(36,1,(.k (.int .i64 5))),(70,1,(.t 14))]⟩,
    ⟨none,(some 16),.bsl 71 2 [(.int .i64 0),(.str []),(w8 0#8),(w8 0#8),(w8 0#8),(w8 0#8),(w8 0#8),(w8 0#8),(w8 0#8),(w8 0#8),(w8 0#8),(w8 0#8),(w8 0#8),(w8 0#8),(w8 0#8),(w8 0#8),(w8 0#8),(w8 0#8),(w8 0#8),(w8 0#8),(w8 0#8),(w8 0#8),(w8 0#8),(w8 0#8),(w8 0#8),(w8 0#8),(w8 0#8),(w8 0#8),(w8 0#8),(w8 0#8),(w8 0#8),(w8 0#8),(w8 0#8),(w8 0#8),(.str []),(.str []),(.int .i64 0),(.bool false),(w8 0#8),(w8 0#8),(w8 0#8),(w8 0#8),(w8 0#8),(w8 0#8),(w8 0#8),(w8 0#8),(w8 0#8),(w8 0#8),(w8 0#8),(w8 0#8),(w8 0#8),(w8 0#8),(w8 0#8),(w8 0#8),(w8 0#8),(w8 0#8),(w8 0#8),(w8 0#8),(w8 0#8),(w8 0#8),(w8 0#8),(w8 0#8),(w8 0#8),(w8 0#8),(w8 0#8),(w8 0#8),(w8 0#8),(w8 0#8),(w8 0#8),(w8 0#8),.nils] [(0,71,(.t 11)),(71,71,(.t 15))]⟩,
    ⟨none,(some 17),.build [(w8 0#8),(w8 0#8),(w8 0#8),(w8 0#8),(w8 0#8),(w8 0#8),(w8 0#8),(w8 0#8),(w8 0#8),(w8 0#8),(w8 0#8),(w8 0#8),(w8 0#8),(w8 0#8),(w8 0#8),(w8 0#8),(w8 0#8),(w8 0#8),(w8 0#8),(w8 0#8),(w8 0#8),(w8 0#8),(w8 0#8),(w8 0#8),(w8 0#8),(w8 0#8),(w8 0#8),(w8 0#8),(w8 0#8),(w8 0#8),(w8 0#8),(w8 0#8),(.int .i64 0),.nils,.nils,.nils] [(32,1,(.k (.int .i64 9))),(33,1,(.t 16))]⟩,
    ⟨none,(some 2),.alloc [(w8 0#8),(w8 0#8),(w8 0#8),(w8 0#8),(w8 0#8),(w8 0#8),(w8 0#8),(w8 0#8),(w8 0#8),(w8 0#8),(w8 0#8),(w8 0#8),(w8 0#8),(w8 0#8),(w8 0#8),(w8 0#8),(w8 0#8),(w8 0#8),(w8 0#8),(w8 0#8),(w8 0#8),(w8 0#8),(w8 0#8),(w8 0#8),(w8 0#8),(w8 0#8),(w8 0#8),(w8 0#8),(w8 0#8),(w8 0#8),(w8 0#8),(w8 0#8),(.int .i64 0),.nils,.nils,.nils]⟩,
    ⟨none,none,.store 36 (.t 2) (.t 17)⟩])
  (.seq (.region false [⟨none,(some 18),.load 36 true (.t 2)⟩,
    ⟨none,(some 19),.load 34 true (.t 1)⟩,
    ⟨none,(some 20),.build [(.int .i64 0),(.int .i64 0),(.int .i64 0),(.str [])] [(0,1,(.k (.int .i64 1))),(1,1,(.k (.int .i64 2)))]⟩,
    ⟨none,(some 21),.call (.k (.fn (.func 20) [] [])) [(.t 18),(.t 19),(.t 20)]⟩,
    ⟨none,(some 3),.alloc [(.bool false),.nils,(.int .i64 0)]⟩,
    ⟨none,none,.store 3 (.t 3) (.t 21)⟩])
  (.seq (.region false [⟨none,(some 22),.load 36 true (.t 2)⟩,
    ⟨none,(some 23),.load 34 true (.t 1)⟩,
    ⟨none,(some 24),.build [(.int .i64 0),(.int .i64 0),(.int .i64 0),(.str [])] [(0,1,(.k (.int .i64 1))),(1,1,(.k (.int .i64 3)))]⟩,
    ⟨none,(some 25),.call (.k (.fn (.func 20) [] [])) [(.t 22),(.t 23),(.t 24)]⟩,
    ⟨none,(some 4),.alloc [(.bool false),.nils,(.int .i64 0)]⟩,
    ⟨none,none,.store 3 (.t 4) (.t 25)⟩])
  (.seq (.region false [⟨none,(some 26),.load 36 true (.t 2)⟩,
    ⟨none,(some 27),.call (.k (.fn (.func 18) [] [])) [(.t 26)]⟩,
    ⟨none,(some 5),.mov (.t 27)⟩])
  (.seq (.region true [⟨none,(some 28),.fld 0 (.t 3)⟩,
    ⟨none,(some 29),.load 1 false (.t 28)⟩,
    ⟨none,(some 30),.mov (.t 29)⟩,
    ⟨(some (30,true)),(some 31),.fld 1 (.t 3)⟩,
    ⟨(some (30,true)),(some 32),.load 1 false (.t 31)⟩,
    ⟨(some (30,true)),(some 33),.len (.t 32)⟩,
    ⟨(some (30,true)),(some 34),.bin .eql (.t 33) (.k (.int .i64 2))⟩,
    ⟨none,(some 35),.pick (.t 30) (.t 34) (.k (.bool false))⟩,
    ⟨none,(some 36),.mov (.t 35)⟩,
    ⟨(some (36,true)),(some 37),.fld 0 (.t 4)⟩,
    ⟨(some (36,true)),(some 38),.load 1 false (.t 37)⟩,
    ⟨(some (36,true)),(some 39),.un .not (.t 38)⟩,
    ⟨none,(some 40),.pick (.t 36) (.t 39) (.k (.bool false))⟩,
    ⟨none,(some 41),.mov (.t 40)⟩,
    ⟨(some (41,true)),(some 42),.fld 2 (.t 4)⟩,
    ⟨(some (41,true)),(some 43),.load 1 false (.t 42)⟩,
    ⟨(some (41,true)),(some 44),.bin .eql (.t 43) (.k (.int .i64 1))⟩,
    ⟨none,(some 45),.pick (.t 41) (.t 44) (.k (.bool false))⟩,
    ⟨none,(some 46),.mov (.t 45)⟩,
    ⟨(some (46,true)),(some 47),.mov (.t 5)⟩,
    ⟨(some (46,true)),(some 48),.len (.t 47)⟩,
    ⟨(some (46,true)),(some 49),.bin .eql (.t 48) (.k (.int .i64 1))⟩,
    ⟨none,(some 50),.pick (.t 46) (.t 49) (.k (.bool false))⟩,
    ⟨none,(some 51),.mov (.t 50)⟩,
    ⟨(some (51,true)),(some 52),.mov (.t 5)⟩,
    ⟨(some (51,true)),(some 53),.idxS 34 (.t 52) (.k (.int .i64 0))⟩,
    ⟨(some (51,true)),(some 54),.load 34 true (.t 53)⟩,
    ⟨(some (51,true)),(some 55),.load 34 true (.t 1)⟩,
    ⟨(some (51,true)),(some 56),.eqa false [(32,0),(2,1)] (.t 54) (.t 55)⟩,
    ⟨none,(some 57),.pick (.t 51) (.t 56) (.k (.bool false))⟩,
    ⟨none,(some 58),.mov (.t 57)⟩,
    ⟨(some (58,true)),(some 59),.load 36 true (.t 2)⟩,
    ⟨(some (58,true)),(some 60),.load 34 true (.t 1)⟩,
    ⟨(some (58,true)),(some 61),.build [(.int .i64 0),(.int .i64 0),(.int .i64 0),(.str [])] [(0,1,(.k (.int .i64 7))),(1,1,(.k (.int .i64 4)))]⟩,
    ⟨(some (58,true)),(some 62),.build (rep 32 (w8 0#8)) [(0,1,(.k (w8 6#8)))]⟩,
    ⟨(some (58,true)),(some 63),.bsl 32 1 (rep 32 (w8 0#8)) [(0,32,(.t 62))]⟩,
    ⟨(some (58,true)),(some 64),.callN (.k (.fn (.func 22) [] [])) [(.t 59),(.t 60),(.t 61),(.t 63)]⟩,
    ⟨none,(some 65),.pick (.t 58) (.t 64) (.k (.bool false))⟩,
    ⟨none,(some 0),.mov (.t 65)⟩])
  .ret)))))))
  ntmps:=66
  res:=[.tmp 0]
theorem zzfl:zsjc P Tryz.f14=some a14:=by kernel_rfl
def zlo9:ACode :=
  (.seq (.region false [⟨none,(some 9),.bin .lss (.t 8) (.t 7)⟩])
  (.seq (.cond (.t 9) .skip
  (.exit 0))
  (.seq (.block 1 (.seq (.region false [⟨none,(some 10),.idxS 1 (.t 6) (.t 8)⟩,
    ⟨none,(some 11),.load 1 false (.t 10)⟩,
    ⟨none,(some 5),.mov (.t 11)⟩])
  (.seq (.region false [⟨none,(some 12),.mov (.t 5)⟩,
    ⟨none,(some 13),.mov (.t 3)⟩,
    ⟨none,(some 14),.bin .neq (.t 12) (.t 13)⟩])
  (.cond (.t 14) (.seq (.region false [⟨none,(some 15),.mov (.t 5)⟩,
    ⟨none,(some 2),.mov (.t 15)⟩])
  .ret)
  .skip))))
  (.region false [⟨none,(some 16),.bin .add (.t 8) (.k (.int .i64 1))⟩,
    ⟨none,(some 8),.mov (.t 16)⟩]))))
def zp5l (x3 x6 x7 x8:DV) (h:List AObj):St:=⟨[.junk,.junk,.junk,x3,.junk,.junk,x6,x7,x8]++js 9,h⟩
def a36:AFn where
  code:=(.seq (.region false [⟨none,(some 2),.mov (.k (.int .i64 0))⟩])
  (.seq (.region false [⟨none,(some 3),.mov (.k (.int .i64 0))⟩])
  (.seq (.seq (.region false [⟨none,(some 6),.mov (.t 0)⟩,
    ⟨none,(some 7),.len (.t 6)⟩,
    ⟨none,(some 8),.mov (.k (.int .i64 0))⟩])
  (.block 0 (.loop zlo9)))
  (.seq (.region false [⟨none,(some 17),.mov (.t 3)⟩,
    ⟨none,(some 2),.mov (.t 17)⟩])
  .ret))))
  ntmps:=18
  res:=[.tmp 2]
theorem zj68:zsjc P Tryz.f36=some a36:=by kernel_rfl
def a38:AFn where
  code:=(.seq (.region false [⟨none,(some 4),.mov (.k (.int .i64 0))⟩])
  (.seq (.region false [⟨none,(some 7),.mov (.t 0)⟩,
    ⟨none,(some 8),.call (.k (.fn (.func 63) [] [])) [(.t 7)]⟩,
    ⟨none,(some 5),.mov (.t 8)⟩])
  (.seq (.region false [⟨none,(some 9),.mov (.t 1)⟩,
    ⟨none,(some 10),.call (.k (.fn (.func 63) [] [])) [(.t 9)]⟩,
    ⟨none,(some 6),.mov (.t 10)⟩])
  (.seq (.seq (.region false [⟨none,(some 11),.mov (.t 5)⟩])
  (.cond (.t 11) (.seq (.seq (.region false [⟨none,(some 12),.mov (.t 6)⟩])
  (.cond (.t 12) (.seq (.region false [⟨none,(some 4),.mov (.k (.int .i64 0))⟩])
  .ret)
  .skip))
  (.seq (.region false [⟨none,(some 4),.mov (.k (.int .i64 (-1)))⟩])
  .ret))
  .skip))
  (.seq (.seq (.region false [⟨none,(some 13),.mov (.t 6)⟩])
  (.cond (.t 13) (.seq (.region false [⟨none,(some 4),.mov (.k (.int .i64 1))⟩])
  .ret)
  .skip))
  (.seq (.seq (.region false [⟨none,(some 14),.mov (.t 0)⟩,
    ⟨none,(some 15),.mov (.t 1)⟩,
    ⟨none,(some 16),.bin .lss (.t 14) (.t 15)⟩])
  (.cond (.t 16) (.seq (.region false [⟨none,(some 4),.mov (.k (.int .i64 (-1)))⟩])
  .ret)
  .skip))
  (.seq (.seq (.region false [⟨none,(some 17),.mov (.t 0)⟩,
    ⟨none,(some 18),.mov (.t 1)⟩,
    ⟨none,(some 19),.bin .gtr (.t 17) (.t 18)⟩])
  (.cond (.t 19) (.seq (.region false [⟨none,(some 4),.mov (.k (.int .i64 1))⟩])
  .ret)
  .skip))
  (.seq (.region false [⟨none,(some 4),.mov (.k (.int .i64 0))⟩])
  .ret))))))))
  ntmps:=20
  res:=[.tmp 4]
theorem zclx:zsjc P Tryz.f38=some a38:=by kernel_rfl
def zstn:ACode :=
  (.seq (.seq (.region true [⟨none,(some 18),.mov (.t 9)⟩,
    ⟨none,(some 19),.mov (.t 1)⟩,
    ⟨none,(some 20),.bin .gtr (.t 18) (.t 19)⟩,
    ⟨none,(some 21),.mov (.t 20)⟩,
    ⟨(some (21,true)),(some 22),.mov (.t 3)⟩,
    ⟨(some (21,true)),(some 23),.mov (.t 0)⟩,
    ⟨(some (21,true)),(some 24),.mov (.t 9)⟩,
    ⟨(some (21,true)),(some 25),.idxS 34 (.t 23) (.t 24)⟩,
    ⟨(some (21,true)),(some 26),.load 34 true (.t 25)⟩,
    ⟨(some (21,true)),(some 27),.mov (.t 0)⟩,
    ⟨(some (21,true)),(some 28),.mov (.t 9)⟩,
    ⟨(some (21,true)),(some 29),.bin .sub (.t 28) (.k (.int .i64 1))⟩,
    ⟨(some (21,true)),(some 30),.idxS 34 (.t 27) (.t 29)⟩,
    ⟨(some (21,true)),(some 31),.load 34 true (.t 30)⟩,
    ⟨(some (21,true)),(some 32),.callN (.t 22) [(.t 26),(.t 31)]⟩,
    ⟨(some (21,true)),(some 33),.bin .lss (.t 32) (.k (.int .i64 0))⟩,
    ⟨none,(some 34),.pick (.t 21) (.t 33) (.k (.bool false))⟩])
  (.cond (.t 34) .skip
  (.exit 2)))
  (.seq (.block 3 (.region true [⟨none,(some 37),.mov (.t 0)⟩,
    ⟨none,(some 38),.mov (.t 9)⟩,
    ⟨none,(some 39),.mov (.t 0)⟩,
    ⟨none,(some 40),.mov (.t 9)⟩,
    ⟨none,(some 41),.bin .sub (.t 40) (.k (.int .i64 1))⟩,
    ⟨none,(some 42),.mov (.t 0)⟩,
    ⟨none,(some 43),.mov (.t 9)⟩,
    ⟨none,(some 44),.bin .sub (.t 43) (.k (.int .i64 1))⟩,
    ⟨none,(some 45),.idxS 34 (.t 42) (.t 44)⟩,
    ⟨none,(some 46),.load 34 true (.t 45)⟩,
    ⟨none,(some 47),.mov (.t 0)⟩,
    ⟨none,(some 48),.mov (.t 9)⟩,
    ⟨none,(some 49),.idxS 34 (.t 47) (.t 48)⟩,
    ⟨none,(some 50),.load 34 true (.t 49)⟩,
    ⟨none,(some 51),.idxS 34 (.t 37) (.t 38)⟩,
    ⟨none,none,.store 34 (.t 51) (.t 46)⟩,
    ⟨none,(some 52),.idxS 34 (.t 39) (.t 41)⟩,
    ⟨none,none,.store 34 (.t 52) (.t 50)⟩]))
  (.region false [⟨none,(some 35),.mov (.t 9)⟩,
    ⟨none,(some 36),.bin .sub (.t 35) (.k (.int .i64 1))⟩,
    ⟨none,(some 9),.mov (.t 36)⟩])))
def zlh2 (x0 x1 x2 x3 x8 x9:DV) (h:List AObj):St:=⟨[x0,x1,x2,x3]++js 4++[x8,x9]++js 43,h⟩
def z8ds:ACode :=
  (.seq (.seq (.region false [⟨none,(some 12),.mov (.t 8)⟩,
    ⟨none,(some 13),.mov (.t 2)⟩,
    ⟨none,(some 14),.bin .lss (.t 12) (.t 13)⟩])
  (.cond (.t 14) .skip
  (.exit 0)))
  (.seq (.block 1 (.seq (.region false [⟨none,(some 17),.mov (.t 8)⟩,
    ⟨none,(some 9),.mov (.t 17)⟩])
  (.block 2 (.loop zstn))))
  (.region false [⟨none,(some 15),.mov (.t 8)⟩,
    ⟨none,(some 16),.bin .add (.t 15) (.k (.int .i64 1))⟩,
    ⟨none,(some 8),.mov (.t 16)⟩])))
def zhq0 (x0 x1 x2 x3 x8:DV) (h:List AObj):St:=⟨[x0,x1,x2,x3]++js 4++[x8]++js 44,h⟩
def a94:AFn where
  code:=(.seq (.region false [⟨none,(some 10),.mov (.t 1)⟩,
    ⟨none,(some 11),.bin .add (.t 10) (.k (.int .i64 1))⟩,
    ⟨none,(some 8),.mov (.t 11)⟩])
  (.block 0 (.loop z8ds)))
  ntmps:=53
  res:=[]
theorem ziuh:zsjc P Tryz.f94=some a94:=by kernel_rfl
def zm5a:ACode :=
  (.block 1 (.seq (.region false [⟨none,(some 21),.mov (.t 2)⟩,
    ⟨none,(some 22),.mov (.t 1)⟩,
    ⟨none,(some 23),.bin .sub (.t 21) (.t 22)⟩,
    ⟨none,(some 12),.mov (.t 23)⟩])
  (.seq (.seq (.region false [⟨none,(some 24),.mov (.t 12)⟩,
    ⟨none,(some 25),.bin .leq (.t 24) (.k (.int .i64 12))⟩])
  (.cond (.t 25) (.seq (.region false [⟨none,(some 26),.mov (.t 0)⟩,
    ⟨none,(some 27),.mov (.t 1)⟩,
    ⟨none,(some 28),.mov (.t 2)⟩,
    ⟨none,(some 29),.mov (.t 4)⟩,
    ⟨none,(some 30),.call (.k (.fn (.func 94) [] [])) [(.t 26),(.t 27),(.t 28),(.t 29)]⟩])
  .ret)
  .skip))
  (.seq (.seq (.region false [⟨none,(some 31),.mov (.t 3)⟩,
    ⟨none,(some 32),.bin .eql (.t 31) (.k (.int .i64 0))⟩])
  (.cond (.t 32) (.seq (.region false [⟨none,(some 33),.mov (.t 0)⟩,
    ⟨none,(some 34),.mov (.t 1)⟩,
    ⟨none,(some 35),.mov (.t 2)⟩,
    ⟨none,(some 36),.mov (.t 4)⟩,
    ⟨none,(some 37),.call (.k (.fn (.func 95) [] [])) [(.t 33),(.t 34),(.t 35),(.t 36)]⟩])
  .ret)
  .skip))
  (.seq (.seq (.region false [⟨none,(some 38),.mov (.t 10)⟩,
    ⟨none,(some 39),.un .not (.t 38)⟩])
  (.cond (.t 39) (.seq (.region false [⟨none,(some 40),.mov (.t 0)⟩,
    ⟨none,(some 41),.mov (.t 1)⟩,
    ⟨none,(some 42),.mov (.t 2)⟩,
    ⟨none,(some 43),.mov (.t 4)⟩,
    ⟨none,(some 44),.call (.k (.fn (.func 96) [] [])) [(.t 40),(.t 41),(.t 42),(.t 43)]⟩])
  (.region false [⟨none,(some 45),.mov (.t 3)⟩,
    ⟨none,(some 46),.bin .sub (.t 45) (.k (.int .i64 1))⟩,
    ⟨none,(some 3),.mov (.t 46)⟩]))
  .skip))
  (.seq (.region false [⟨none,(some 48),.mov (.t 0)⟩,
    ⟨none,(some 49),.mov (.t 1)⟩,
    ⟨none,(some 50),.mov (.t 2)⟩,
    ⟨none,(some 51),.mov (.t 4)⟩,
    ⟨none,(some 52),.call (.k (.fn (.func 97) [] [])) [(.t 48),(.t 49),(.t 50),(.t 51)]⟩,
    ⟨none,(some 47),.mov (.t 52)⟩,
    ⟨none,(some 53),.ext (.t 47) 0⟩,
    ⟨none,(some 54),.ext (.t 47) 1⟩,
    ⟨none,(some 13),.mov (.t 53)⟩,
    ⟨none,(some 14),.mov (.t 54)⟩])
  (.seq (.seq (.region false [⟨none,(some 55),.mov (.t 14)⟩,
    ⟨none,(some 56),.bin .eql (.t 55) (.k (.int .i64 2))⟩])
  (.cond (.t 56) (.seq (.region false [⟨none,(some 57),.mov (.t 0)⟩,
    ⟨none,(some 58),.mov (.t 1)⟩,
    ⟨none,(some 59),.mov (.t 2)⟩,
    ⟨none,(some 60),.mov (.t 4)⟩,
    ⟨none,(some 61),.call (.k (.fn (.func 98) [] [])) [(.t 57),(.t 58),(.t 59),(.t 60)]⟩])
  (.seq (.region false [⟨none,(some 62),.mov (.t 2)⟩,
    ⟨none,(some 63),.bin .sub (.t 62) (.k (.int .i64 1))⟩,
    ⟨none,(some 64),.mov (.t 13)⟩,
    ⟨none,(some 65),.mov (.t 1)⟩,
    ⟨none,(some 66),.bin .sub (.t 64) (.t 65)⟩,
    ⟨none,(some 67),.bin .sub (.t 63) (.t 66)⟩,
    ⟨none,(some 13),.mov (.t 67)⟩])
  (.region false [⟨none,(some 14),.mov (.k (.int .i64 1))⟩])))
  .skip))
  (.seq (.seq (.region false [⟨none,(some 68),.mov (.t 10)⟩,
    ⟨none,(some 69),.mov (.t 68)⟩,
    ⟨(some (69,true)),(some 70),.mov (.t 11)⟩,
    ⟨none,(some 71),.pick (.t 69) (.t 70) (.k (.bool false))⟩,
    ⟨none,(some 72),.mov (.t 71)⟩,
    ⟨(some (72,true)),(some 73),.mov (.t 14)⟩,
    ⟨(some (72,true)),(some 74),.bin .eql (.t 73) (.k (.int .i64 1))⟩,
    ⟨none,(some 75),.pick (.t 72) (.t 74) (.k (.bool false))⟩])
  (.cond (.t 75) (.seq (.region false [⟨none,(some 76),.mov (.t 0)⟩,
    ⟨none,(some 77),.mov (.t 1)⟩,
    ⟨none,(some 78),.mov (.t 2)⟩,
    ⟨none,(some 79),.mov (.t 4)⟩,
    ⟨none,(some 80),.call (.k (.fn (.func 99) [] [])) [(.t 76),(.t 77),(.t 78),(.t 79)]⟩])
  (.cond (.t 80) .ret
  .skip))
  .skip))
  (.seq (.seq (.region true [⟨none,(some 81),.mov (.t 1)⟩,
    ⟨none,(some 82),.bin .gtr (.t 81) (.k (.int .i64 0))⟩,
    ⟨none,(some 83),.mov (.t 82)⟩,
    ⟨(some (83,true)),(some 84),.mov (.t 4)⟩,
    ⟨(some (83,true)),(some 85),.mov (.t 0)⟩,
    ⟨(some (83,true)),(some 86),.mov (.t 1)⟩,
    ⟨(some (83,true)),(some 87),.bin .sub (.t 86) (.k (.int .i64 1))⟩,
    ⟨(some (83,true)),(some 88),.idxS 34 (.t 85) (.t 87)⟩,
    ⟨(some (83,true)),(some 89),.load 34 true (.t 88)⟩,
    ⟨(some (83,true)),(some 90),.mov (.t 0)⟩,
    ⟨(some (83,true)),(some 91),.mov (.t 13)⟩,
    ⟨(some (83,true)),(some 92),.idxS 34 (.t 90) (.t 91)⟩,
    ⟨(some (83,true)),(some 93),.load 34 true (.t 92)⟩,
    ⟨(some (83,true)),(some 94),.callN (.t 84) [(.t 89),(.t 93)]⟩,
    ⟨(some (83,true)),(some 95),.bin .lss (.t 94) (.k (.int .i64 0))⟩,
    ⟨(some (83,true)),(some 96),.un .not (.t 95)⟩,
    ⟨none,(some 97),.pick (.t 83) (.t 96) (.k (.bool false))⟩])
  (.cond (.t 97) (.seq (.region false [⟨none,(some 98),.mov (.t 0)⟩,
    ⟨none,(some 99),.mov (.t 1)⟩,
    ⟨none,(some 100),.mov (.t 2)⟩,
    ⟨none,(some 101),.mov (.t 13)⟩,
    ⟨none,(some 102),.mov (.t 4)⟩,
    ⟨none,(some 103),.call (.k (.fn (.func 100) [] [])) [(.t 98),(.t 99),(.t 100),(.t 101),(.t 102)]⟩,
    ⟨none,(some 15),.mov (.t 103)⟩])
  (.seq (.region false [⟨none,(some 104),.mov (.t 15)⟩,
    ⟨none,(some 1),.mov (.t 104)⟩])
  (.exit 1)))
  .skip))
  (.seq (.region false [⟨none,(some 106),.mov (.t 0)⟩,
    ⟨none,(some 107),.mov (.t 1)⟩,
    ⟨none,(some 108),.mov (.t 2)⟩,
    ⟨none,(some 109),.mov (.t 13)⟩,
    ⟨none,(some 110),.mov (.t 4)⟩,
    ⟨none,(some 111),.call (.k (.fn (.func 101) [] [])) [(.t 106),(.t 107),(.t 108),(.t 109),(.t 110)]⟩,
    ⟨none,(some 105),.mov (.t 111)⟩,
    ⟨none,(some 112),.ext (.t 105) 0⟩,
    ⟨none,(some 113),.ext (.t 105) 1⟩,
    ⟨none,(some 16),.mov (.t 112)⟩,
    ⟨none,(some 17),.mov (.t 113)⟩])
  (.seq (.region false [⟨none,(some 114),.mov (.t 17)⟩,
    ⟨none,(some 11),.mov (.t 114)⟩])
  (.seq (.region false [⟨none,(some 115),.mov (.t 16)⟩,
    ⟨none,(some 116),.mov (.t 1)⟩,
    ⟨none,(some 117),.bin .sub (.t 115) (.t 116)⟩,
    ⟨none,(some 118),.mov (.t 2)⟩,
    ⟨none,(some 119),.mov (.t 16)⟩,
    ⟨none,(some 120),.bin .sub (.t 118) (.t 119)⟩,
    ⟨none,(some 18),.mov (.t 117)⟩,
    ⟨none,(some 19),.mov (.t 120)⟩])
  (.seq (.region false [⟨none,(some 121),.mov (.t 12)⟩,
    ⟨none,(some 122),.bin .quo (.t 121) (.k (.int .i64 8))⟩,
    ⟨none,(some 20),.mov (.t 122)⟩])
  (.seq (.region false [⟨none,(some 123),.mov (.t 18)⟩,
    ⟨none,(some 124),.mov (.t 19)⟩,
    ⟨none,(some 125),.bin .lss (.t 123) (.t 124)⟩])
  (.cond (.t 125) (.seq (.region false [⟨none,(some 126),.mov (.t 18)⟩,
    ⟨none,(some 127),.mov (.t 20)⟩,
    ⟨none,(some 128),.bin .geq (.t 126) (.t 127)⟩,
    ⟨none,(some 10),.mov (.t 128)⟩])
  (.seq (.region false [⟨none,(some 129),.mov (.t 0)⟩,
    ⟨none,(some 130),.mov (.t 1)⟩,
    ⟨none,(some 131),.mov (.t 16)⟩,
    ⟨none,(some 132),.mov (.t 3)⟩,
    ⟨none,(some 133),.mov (.t 4)⟩,
    ⟨none,(some 134),.call (.k (.fn (.func 60) [] [])) [(.t 129),(.t 130),(.t 131),(.t 132),(.t 133)]⟩])
  (.region false [⟨none,(some 135),.mov (.t 16)⟩,
    ⟨none,(some 136),.bin .add (.t 135) (.k (.int .i64 1))⟩,
    ⟨none,(some 1),.mov (.t 136)⟩])))
  (.seq (.region false [⟨none,(some 137),.mov (.t 19)⟩,
    ⟨none,(some 138),.mov (.t 20)⟩,
    ⟨none,(some 139),.bin .geq (.t 137) (.t 138)⟩,
    ⟨none,(some 10),.mov (.t 139)⟩])
  (.seq (.region false [⟨none,(some 140),.mov (.t 0)⟩,
    ⟨none,(some 141),.mov (.t 16)⟩,
    ⟨none,(some 142),.bin .add (.t 141) (.k (.int .i64 1))⟩,
    ⟨none,(some 143),.mov (.t 2)⟩,
    ⟨none,(some 144),.mov (.t 3)⟩,
    ⟨none,(some 145),.mov (.t 4)⟩,
    ⟨none,(some 146),.call (.k (.fn (.func 60) [] [])) [(.t 140),(.t 142),(.t 143),(.t 144),(.t 145)]⟩])
  (.region false [⟨none,(some 147),.mov (.t 16)⟩,
    ⟨none,(some 2),.mov (.t 147)⟩]))))))))))))))))))
def zw1i (x0 x1 x2 x3 x4 x10 x11:DV) (h:List AObj):St:=⟨[x0,x1,x2,x3,x4]++js 5++[x10,x11]++js 136,h⟩
def a60:AFn where
  code:=(.seq (.region false [⟨none,(some 10),.mov (.k (.bool true))⟩])
  (.seq (.region false [⟨none,(some 11),.mov (.k (.bool true))⟩])
  (.block 0 (.loop zm5a))))
  ntmps:=148
  res:=[]
theorem z6e9:zsjc P Tryz.f60=some a60:=by kernel_rfl
def a34:AFn where
  code:=(.seq (.region false [⟨none,(some 5),.mov (.t 0)⟩,
    ⟨none,(some 6),.len (.t 5)⟩,
    ⟨none,(some 4),.mov (.t 6)⟩])
  (.region false [⟨none,(some 7),.mov (.t 0)⟩,
    ⟨none,(some 8),.mov (.t 4)⟩,
    ⟨none,(some 9),.mov (.t 4)⟩,
    ⟨none,(some 10),.conv .u64 (.t 9)⟩,
    ⟨none,(some 11),.call (.k (.fn (.func 61) [] [])) [(.t 10)]⟩,
    ⟨none,(some 12),.mov (.t 1)⟩,
    ⟨none,(some 13),.call (.k (.fn (.func 60) [] [])) [(.t 7),(.k (.int .i64 0)),(.t 8),(.t 11),(.t 12)]⟩]))
  ntmps:=14
  res:=[]
theorem zk28:zsjc P Tryz.f34=some a34:=by kernel_rfl
def z9mq:ACode :=
  (.seq (.seq (.region false [⟨none,(some 29),.mov (.t 5)⟩,
    ⟨none,(some 30),.mov (.t 4)⟩,
    ⟨none,(some 31),.len (.t 30)⟩,
    ⟨none,(some 32),.bin .lss (.t 29) (.t 31)⟩])
  (.cond (.t 32) .skip
  (.exit 2)))
  (.seq (.block 3 (.seq (.region true [⟨none,(some 35),.mov (.t 4)⟩,
    ⟨none,(some 36),.mov (.t 5)⟩,
    ⟨none,(some 37),.idxS 34 (.t 35) (.t 36)⟩,
    ⟨none,(some 38),.load 34 true (.t 37)⟩,
    ⟨none,(some 39),.mov (.t 4)⟩,
    ⟨none,(some 40),.mov (.t 5)⟩,
    ⟨none,(some 41),.bin .sub (.t 40) (.k (.int .i64 1))⟩,
    ⟨none,(some 42),.idxS 34 (.t 39) (.t 41)⟩,
    ⟨none,(some 43),.load 34 true (.t 42)⟩,
    ⟨none,(some 44),.eqa true [(32,0),(2,1)] (.t 38) (.t 43)⟩])
  (.cond (.t 44) (.seq (.region false [⟨none,(some 45),.mov (.t 0)⟩,
    ⟨none,(some 46),.mov (.t 3)⟩,
    ⟨none,(some 47),.mov (.t 4)⟩,
    ⟨none,(some 48),.mov (.t 5)⟩,
    ⟨none,(some 49),.idxS 34 (.t 47) (.t 48)⟩,
    ⟨none,(some 50),.load 34 true (.t 49)⟩,
    ⟨none,(some 51),.idxS 34 (.t 45) (.t 46)⟩,
    ⟨none,none,.store 34 (.t 51) (.t 50)⟩])
  (.region false [⟨none,(some 52),.mov (.t 3)⟩,
    ⟨none,(some 53),.bin .add (.t 52) (.k (.int .i64 1))⟩,
    ⟨none,(some 3),.mov (.t 53)⟩]))
  .skip)))
  (.region false [⟨none,(some 33),.mov (.t 5)⟩,
    ⟨none,(some 34),.bin .add (.t 33) (.k (.int .i64 1))⟩,
    ⟨none,(some 5),.mov (.t 34)⟩])))
def zbmj (x0 x3 x4 x5:DV) (h:List AObj):St:=⟨[x0,.junk,.junk,x3,x4,x5]++js 55,h⟩
def znbh:ACode :=
  (.seq (.seq (.region false [⟨none,(some 10),.mov (.t 3)⟩,
    ⟨none,(some 11),.mov (.t 0)⟩,
    ⟨none,(some 12),.len (.t 11)⟩,
    ⟨none,(some 13),.bin .lss (.t 10) (.t 12)⟩])
  (.cond (.t 13) .skip
  (.exit 0)))
  (.seq (.block 1 (.seq (.region true [⟨none,(some 16),.mov (.t 0)⟩,
    ⟨none,(some 17),.mov (.t 3)⟩,
    ⟨none,(some 18),.idxS 34 (.t 16) (.t 17)⟩,
    ⟨none,(some 19),.load 34 true (.t 18)⟩,
    ⟨none,(some 20),.mov (.t 0)⟩,
    ⟨none,(some 21),.mov (.t 3)⟩,
    ⟨none,(some 22),.bin .sub (.t 21) (.k (.int .i64 1))⟩,
    ⟨none,(some 23),.idxS 34 (.t 20) (.t 22)⟩,
    ⟨none,(some 24),.load 34 true (.t 23)⟩,
    ⟨none,(some 25),.eqa false [(32,0),(2,1)] (.t 19) (.t 24)⟩])
  (.cond (.t 25) (.seq (.region false [⟨none,(some 26),.mov (.t 0)⟩,
    ⟨none,(some 27),.mov (.t 3)⟩,
    ⟨none,(some 28),.slcS 34 (.t 26) (some (.t 27)) none none⟩,
    ⟨none,(some 4),.mov (.t 28)⟩])
  (.seq (.seq (.region false [⟨none,(some 5),.mov (.k (.int .i64 1))⟩])
  (.block 2 (.loop z9mq)))
  (.seq (.region false [⟨none,(some 54),.mov (.t 0)⟩,
    ⟨none,(some 55),.mov (.t 3)⟩,
    ⟨none,(some 56),.slcS 34 (.t 54) (some (.t 55)) none none⟩,
    ⟨none,none,.clr 34 [(w8 0#8),(w8 0#8),(w8 0#8),(w8 0#8),(w8 0#8),(w8 0#8),(w8 0#8),(w8 0#8),(w8 0#8),(w8 0#8),(w8 0#8),(w8 0#8),(w8 0#8),(w8 0#8),(w8 0#8),(w8 0#8),(w8 0#8),(w8 0#8),(w8 0#8),(w8 0#8),(w8 0#8),(w8 0#8),(w8 0#8),(w8 0#8),(w8 0#8),(w8 0#8),(w8 0#8),(w8 0#8),(w8 0#8),(w8 0#8),(w8 0#8),(w8 0#8),(.str []),(.str [])] (.t 56)⟩])
  (.seq (.region false [⟨none,(some 57),.mov (.t 0)⟩,
    ⟨none,(some 58),.mov (.t 3)⟩,
    ⟨none,(some 59),.slcS 34 (.t 57) none (some (.t 58)) none⟩,
    ⟨none,(some 2),.mov (.t 59)⟩])
  .ret))))
  .skip)))
  (.region false [⟨none,(some 14),.mov (.t 3)⟩,
    ⟨none,(some 15),.bin .add (.t 14) (.k (.int .i64 1))⟩,
    ⟨none,(some 3),.mov (.t 15)⟩])))
def zly3 (x0 x3:DV) (h:List AObj):St:=⟨[x0,.junk,.junk,x3]++js 57,h⟩
def a39:AFn where
  code:=(.seq (.region false [⟨none,(some 2),.mov (.k .nils)⟩])
  (.seq (.seq (.region false [⟨none,(some 6),.mov (.t 0)⟩,
    ⟨none,(some 7),.len (.t 6)⟩,
    ⟨none,(some 8),.bin .lss (.t 7) (.k (.int .i64 2))⟩])
  (.cond (.t 8) (.seq (.region false [⟨none,(some 9),.mov (.t 0)⟩,
    ⟨none,(some 2),.mov (.t 9)⟩])
  .ret)
  .skip))
  (.seq (.seq (.region false [⟨none,(some 3),.mov (.k (.int .i64 1))⟩])
  (.block 0 (.loop znbh)))
  (.seq (.region false [⟨none,(some 60),.mov (.t 0)⟩,
    ⟨none,(some 2),.mov (.t 60)⟩])
  .ret))))
  ntmps:=61
  res:=[.tmp 2]
theorem zjwo:zsjc P Tryz.f39=some a39:=by kernel_rfl
def a35:AFn where
  code:=(.seq (.region false [⟨none,(some 2),.box (.t 0)⟩,
    ⟨none,(some 3),.box (.t 1)⟩,
    ⟨none,(some 4),.mov (.k (.int .i64 0))⟩])
  (.seq (.region true [⟨none,(some 5),.fld 0 (.t 2)⟩,
    ⟨none,(some 6),.slcA 32 1 (.t 5) none none⟩,
    ⟨none,(some 7),.fld 0 (.t 3)⟩,
    ⟨none,(some 8),.slcA 32 1 (.t 7) none none⟩,
    ⟨none,(some 10),.fld 32 (.t 2)⟩,
    ⟨none,(some 11),.load 1 false (.t 10)⟩,
    ⟨none,(some 12),.fld 32 (.t 3)⟩,
    ⟨none,(some 13),.load 1 false (.t 12)⟩,
    ⟨none,(some 15),.fld 33 (.t 2)⟩,
    ⟨none,(some 16),.load 1 false (.t 15)⟩,
    ⟨none,(some 17),.fld 33 (.t 3)⟩,
    ⟨none,(some 18),.load 1 false (.t 17)⟩,
    ⟨none,(some 9),.callN (.k (.fn (.func 37) [] [])) [(.t 6),(.t 8)]⟩,
    ⟨none,(some 14),.callN (.k (.fn (.func 38) [] [])) [(.t 11),(.t 13)]⟩,
    ⟨none,(some 19),.callN (.k (.fn (.func 38) [] [])) [(.t 16),(.t 18)]⟩,
    ⟨none,(some 20),.bsl 1 3 [(.int .i64 0)] [(0,1,(.t 9)),(1,1,(.t 14)),(2,1,(.t 19))]⟩,
    ⟨none,(some 21),.callN (.k (.fn (.func 36) [] [])) [(.t 20)]⟩,
    ⟨none,(some 4),.mov (.t 21)⟩])
  .ret))
  ntmps:=22
  res:=[.tmp 4]
theorem zxwh:zsjc P Tryz.f35=some a35:=by kernel_rfl
def zjhm:ACode :=
  (.seq (.region false [⟨none,(some 10),.bin .lss (.t 9) (.t 8)⟩])
  (.seq (.cond (.t 10) .skip
  (.exit 0))
  (.seq (.block 1 (.seq (.region false [⟨none,(some 11),.idxS 71 (.t 7) (.t 9)⟩,
    ⟨none,(some 12),.load 71 true (.t 11)⟩,
    ⟨none,(some 5),.alloc [(.int .i64 0),(.str []),(w8 0#8),(w8 0#8),(w8 0#8),(w8 0#8),(w8 0#8),(w8 0#8),(w8 0#8),(w8 0#8),(w8 0#8),(w8 0#8),(w8 0#8),(w8 0#8),(w8 0#8),(w8 0#8),(w8 0#8),(w8 0#8),(w8 0#8),(w8 0#8),(w8 0#8),(w8 0#8),(w8 0#8),(w8 0#8),(w8 0#8),(w8 0#8),(w8 0#8),(w8 0#8),(w8 0#8),(w8 0#8),(w8 0#8),(w8 0#8),(w8 0#8),(w8 0#8),(.str []),(.str []),(.int .i64 0),(.bool false),(w8 0#8),(w8 0#8),(w8 0#8),(w8 0#8),(w8 0#8),(w8 0#8),(w8 0#8),(w8 0#8),(w8 0#8),(w8 0#8),(w8 0#8),(w8 0#8),(w8 0#8),(w8 0#8),(w8 0#8),(w8 0#8),(w8 0#8),(w8 0#8),(w8 0#8),(w8 0#8),(w8 0#8),(w8 0#8),(w8 0#8),(w8 0#8),(w8 0#8),(w8 0#8),(w8 0#8),(w8 0#8),(w8 0#8),(w8 0#8),(w8 0#8),(w8 0#8),.nils]⟩,
    ⟨none,none,.store 71 (.t 5) (.t 12)⟩])
  (.seq (.region false [⟨none,(some 13),.fld 0 (.t 5)⟩,
    ⟨none,(some 14),.load 1 false (.t 13)⟩,
    ⟨none,(some 15),.bin .eql (.t 14) (.k (.int .i64 1))⟩])
  (.cond (.t 15) (.region false [⟨none,(some 16),.mov (.t 3)⟩,
    ⟨none,(some 17),.load 71 true (.t 5)⟩,
    ⟨none,(some 18),.call (.k (.fn (.func 33) [] [])) [(.t 17)]⟩,
    ⟨none,(some 19),.bsl 34 1 [(w8 0#8),(w8 0#8),(w8 0#8),(w8 0#8),(w8 0#8),(w8 0#8),(w8 0#8),(w8 0#8),(w8 0#8),(w8 0#8),(w8 0#8),(w8 0#8),(w8 0#8),(w8 0#8),(w8 0#8),(w8 0#8),(w8 0#8),(w8 0#8),(w8 0#8),(w8 0#8),(w8 0#8),(w8 0#8),(w8 0#8),(w8 0#8),(w8 0#8),(w8 0#8),(w8 0#8),(w8 0#8),(w8 0#8),(w8 0#8),(w8 0#8),(w8 0#8),(.str []),(.str [])] [(0,34,(.t 18))]⟩,
    ⟨none,(some 20),.app 34 64 (.t 16) (.t 19)⟩,
    ⟨none,(some 3),.mov (.t 20)⟩])
  .skip))))
  (.region false [⟨none,(some 21),.bin .add (.t 9) (.k (.int .i64 1))⟩,
    ⟨none,(some 9),.mov (.t 21)⟩]))))
def zzg5 (x3 x7 x8 x9:DV) (h:List AObj):St:=⟨[.junk,.junk,.junk,x3,.junk,.junk,.junk,x7,x8,x9]++js 21,h⟩
def a18:AFn where
  code:=(.seq (.region false [⟨none,(some 1),.box (.t 0)⟩,
    ⟨none,(some 2),.mov (.k .nils)⟩])
  (.seq (.region false [⟨none,(some 3),.mov (.k .nils)⟩])
  (.seq (.seq (.region false [⟨none,(some 6),.fld 33 (.t 1)⟩,
    ⟨none,(some 7),.load 1 false (.t 6)⟩,
    ⟨none,(some 8),.len (.t 7)⟩,
    ⟨none,(some 9),.mov (.k (.int .i64 0))⟩])
  (.block 0 (.loop zjhm)))
  (.seq (.seq (.region false [⟨none,(some 22),.mov (.t 3)⟩,
    ⟨none,(some 23),.len (.t 22)⟩,
    ⟨none,(some 24),.bin .eql (.t 23) (.k (.int .i64 0))⟩])
  (.cond (.t 24) (.seq (.region false [⟨none,(some 25),.build [(w8 0#8),(w8 0#8),(w8 0#8),(w8 0#8),(w8 0#8),(w8 0#8),(w8 0#8),(w8 0#8),(w8 0#8),(w8 0#8),(w8 0#8),(w8 0#8),(w8 0#8),(w8 0#8),(w8 0#8),(w8 0#8),(w8 0#8),(w8 0#8),(w8 0#8),(w8 0#8),(w8 0#8),(w8 0#8),(w8 0#8),(w8 0#8),(w8 0#8),(w8 0#8),(w8 0#8),(w8 0#8),(w8 0#8),(w8 0#8),(w8 0#8),(w8 0#8),(.str []),(.str [])] []⟩,
    ⟨none,(some 26),.bsl 34 1 [(w8 0#8),(w8 0#8),(w8 0#8),(w8 0#8),(w8 0#8),(w8 0#8),(w8 0#8),(w8 0#8),(w8 0#8),(w8 0#8),(w8 0#8),(w8 0#8),(w8 0#8),(w8 0#8),(w8 0#8),(w8 0#8),(w8 0#8),(w8 0#8),(w8 0#8),(w8 0#8),(w8 0#8),(w8 0#8),(w8 0#8),(w8 0#8),(w8 0#8),(w8 0#8),(w8 0#8),(w8 0#8),(w8 0#8),(w8 0#8),(w8 0#8),(w8 0#8),(.str []),(.str [])] [(0,34,(.t 25))]⟩,
    ⟨none,(some 2),.mov (.t 26)⟩])
  .ret)
  .skip))
  (.seq (.region false [⟨none,(some 27),.mov (.t 3)⟩,
    ⟨none,(some 28),.call (.k (.fn (.func 34) [] [])) [(.t 27),(.k (.fn (.func 35) [] []))]⟩])
  (.seq (.region false [⟨none,(some 29),.mov (.t 3)⟩,
    ⟨none,(some 30),.call (.k (.fn (.func 39) [] [])) [(.t 29)]⟩,
    ⟨none,(some 2),.mov (.t 30)⟩])
  .ret))))))
  ntmps:=31
  res:=[.tmp 2]
theorem zt5q:zsjc P Tryz.f18=some a18:=by kernel_rfl
end Go.Proofs.YtdnhbfmlklaldaaGreat
set_option linter.unusedSimpArgs false
set_option linter.unusedVariables false
namespace Go.Proofs.YtdnhbfmlklaldaaGreat
open Go Go.Am
def zavf (a b:Str):Int:=if Op.bytesLess a b then -1 else if Op.bytesLess b a then 1 else 0
theorem zrmv {a b:Str}:zhl4 .gtr (.str a) (.str b)=some (.bool (Op.bytesLess b a)):=by
  have e:zhl4 .gtr (.str a) (.str b)=some (.bool (!(Op.bytesLess a b||a == b))):=by simp [zhl4,zdnj]
  rw [e]
  congr 2
  rcases zoet a b with h|h|h
  · have h':Op.bytesLess b a=false:=by
      cases q:Op.bytesLess b a with
      | false=>rfl
      | true=>have:=z8c3 _ _ _ h q; rw [zrk4] at this; cases this
    rw [h,h']; rfl
  · subst h; simp [zrk4]
  · have h':Op.bytesLess a b=false:=by
      cases q:Op.bytesLess a b with
      | false=>rfl
      | true=>have:=z8c3 _ _ _ h q; rw [zrk4] at this; cases this
    have hn:¬ a=b:=fun e=>by rw [e,zrk4] at h; cases h
    rw [h,h']; simp [hn]
attribute [simp] zrmv
theorem za9u (a b:Str):Runs T500 a38 [.str a,.str b] (.int .i64 (zavf a b)):=by
  refine ⟨?_⟩
  unfold zavf
  cases h1:Op.bytesLess a b with
  | true=>simp (disch:=first|omega|(simp<;>omega)|fail) [-map_take,-map_drop,-map_set,-map_append,-drop_one,a38,zp4j,z8u6,h1]
  | false =>
    cases h2:Op.bytesLess b a with
    | true=>simp (disch:=first|omega|(simp<;>omega)|fail) [-map_take,-map_drop,-map_set,-map_append,-drop_one,a38,zp4j,z8u6,h1,h2]
    | false=>simp (disch:=first|omega|(simp<;>omega)|fail) [-map_take,-map_drop,-map_set,-map_append,-drop_one,a38,zp4j,z8u6,h1,h2]
noncomputable def cCs:List DV→Option DV
  | [.str a,.str b]=>some (.int .i64 (zavf a b))|_=>none
theorem zc1k {a b:Str}:cCs [.str a,.str b]=some (.int .i64 (zavf a b)):=rfl
theorem zqxd:(Con.pure cCs).Sound P 38:=by
  intro args v e
  unfold cCs at e
  split at e
  · simp at e; subst e; exact zljw mix zii9 Tryz.func38 zclx (za9u _ _)
  · simp at e
def orI (a b c:Int):Int:=if a=0 then (if b=0 then c else b) else a
def S640 (a b c:Int) (i:Nat):St:=zp5l (.int .i64 0) (.sl true 1 3 [.int .i64 a,.int .i64 b,.int .i64 c]) (.int .i64 3) (.int .i64 i) []
theorem z5l8 (a b c:Int):Runs tbl0 a36 [.sl true 1 3 [.int .i64 a,.int .i64 b,.int .i64 c]] (.int .i64 (orI a b c)):=by
  refine ⟨?_⟩
  unfold orI
  simp (disch:=first|omega|(simp<;>omega)|fail) [-map_take,-map_drop,-map_set,-map_append,-drop_one,a36]
  refine zlm5 (S640 a b c) (fun i=>3-i) (fun i=>i≤3∧(1≤i→a=0)∧(2≤i→b=0)∧(3≤i→c=0)) 0 (z515 (by simp (disch:=first|omega|(simp<;>omega)|fail) [-map_take,-map_drop,-map_set,-map_append,-drop_one,S640,zp5l]) (by simp (disch:=first|omega|(simp<;>omega)|fail) [-map_take,-map_drop,-map_set,-map_append,-drop_one,S640,zp5l])) (by omega) (fun i hi => ?_)
  obtain ⟨h1,h2,h3,h4⟩:=hi
  simp only [S640]
  by_cases i0:i=0
  · subst i0
    by_cases ha:a=0
    · simp (disch:=first|omega|(simp<;>omega)|fail) [-map_take,-map_drop,-map_set,-map_append,-drop_one,zlo9,zp5l,ha]
      exact ⟨1,z515 (by simp (disch:=first|omega|(simp<;>omega)|fail) [-map_take,-map_drop,-map_set,-map_append,-drop_one,S640,zp5l]) (by simp (disch:=first|omega|(simp<;>omega)|fail) [-map_take,-map_drop,-map_set,-map_append,-drop_one,S640,zp5l]),by omega,by omega⟩
    · simp (disch:=first|omega|(simp<;>omega)|fail) [-map_take,-map_drop,-map_set,-map_append,-drop_one,zlo9,zp5l,ha]
  by_cases i1:i=1
  · subst i1
    have ha:=h2 (by omega)
    by_cases hb:b=0
    · simp (disch:=first|omega|(simp<;>omega)|fail) [-map_take,-map_drop,-map_set,-map_append,-drop_one,zlo9,zp5l,ha,hb]
      exact ⟨2,z515 (by simp (disch:=first|omega|(simp<;>omega)|fail) [-map_take,-map_drop,-map_set,-map_append,-drop_one,S640,zp5l]) (by simp (disch:=first|omega|(simp<;>omega)|fail) [-map_take,-map_drop,-map_set,-map_append,-drop_one,S640,zp5l]),by omega,by omega⟩
    · simp (disch:=first|omega|(simp<;>omega)|fail) [-map_take,-map_drop,-map_set,-map_append,-drop_one,zlo9,zp5l,ha,hb]
  by_cases i2:i=2
  · subst i2
    have ha:=h2 (by omega)
    have hb:=h3 (by omega)
    by_cases hc:c=0
    · simp (disch:=first|omega|(simp<;>omega)|fail) [-map_take,-map_drop,-map_set,-map_append,-drop_one,zlo9,zp5l,ha,hb,hc]
      exact ⟨3,z515 (by simp (disch:=first|omega|(simp<;>omega)|fail) [-map_take,-map_drop,-map_set,-map_append,-drop_one,S640,zp5l]) (by simp (disch:=first|omega|(simp<;>omega)|fail) [-map_take,-map_drop,-map_set,-map_append,-drop_one,S640,zp5l]),by omega,by omega⟩
    · simp (disch:=first|omega|(simp<;>omega)|fail) [-map_take,-map_drop,-map_set,-map_append,-drop_one,zlo9,zp5l,ha,hb,hc]
  obtain rfl:i=3:=by omega
  have ha:=h2 (by omega)
  have hb:=h3 (by omega)
  have hc:=h4 (by omega)
  simp (disch:=first|omega|(simp<;>omega)|fail) [-map_take,-map_drop,-map_set,-map_append,-drop_one,zlo9,zp5l,ha,hb,hc]
noncomputable def cOi:List DV→Option DV
  | [.sl true 1 3 [.int .i64 a,.int .i64 b,.int .i64 c]]=>some (.int .i64 (orI a b c))|_=>none
theorem zfih {a b c:Int}:cOi [.sl true 1 3 [.int .i64 a,.int .i64 b,.int .i64 c]]=some (.int .i64 (orI a b c)):=rfl
theorem z6wd:(Con.pure cOi).Sound P 36:=by
  intro args v e
  unfold cOi at e
  split at e
  · simp at e; subst e; exact zljw mix zr5o Tryz.func36 zj68 (z5l8 _ _ _)
  · simp at e
noncomputable def T640:Tbl:=addT 37 (.pure cBc) (addT 38 (.pure cCs) (addT 36 (.pure cOi) tbl0))
theorem zvi1:T640 37 = .pure cBc:=by simp [T640]
theorem zy0j:T640 38 = .pure cCs:=by simp [T640]
theorem z2i9:T640 36 = .pure cOi:=by simp [T640]
theorem zhwj:T640.Sound P:=z0rp zroj (z0rp zqxd (z0rp z6wd zr5o))
def zhqs (a b:Org):Int:=orI (zsy0 a.rev b.rev) (zavf a.lay b.lay) (zavf a.run b.run)
theorem z5ha {a b:Str}:zavf a b<0↔Op.bytesLess a b=true:=by
  unfold zavf; split
  · rename_i h; simp [h]
  · rename_i h; simp [h]; split<;>decide
theorem zmen {a b:Str}:zavf a b=0↔a=b:=by
  unfold zavf
  rcases zoet a b with h|h|h
  · simp only [h,if_true]; constructor
    · intro q; omega
    · intro q; rw [q,zrk4] at h; cases h
  · subst h; simp [zrk4]
  · have h':Op.bytesLess a b=false:=by
      cases q:Op.bytesLess a b with
      | false=>rfl
      | true=>have:=z8c3 _ _ _ h q; rw [zrk4] at this; cases this
    simp only [h,h',if_true]
    constructor
    · intro q; simp at q
    · intro q; rw [q,zrk4] at h; cases h
theorem zd99 : ∀ (a b:List UInt8),Lib.compareBytes a b=0↔a=b
  | [],[]=>by simp [Lib.compareBytes]
  | [],_::_=>by simp [Lib.compareBytes]
  | _::_,[]=>by simp [Lib.compareBytes]
  | x::a,y::b=>by
    have ih:=zd99 a b
    simp only [Lib.compareBytes]
    by_cases h:x<y
    · have:¬ x=y:=fun e=>by subst e; exact UInt8.lt_irrefl x h
      simp [h,this]
    · by_cases h':y<x
      · have:¬ x=y:=fun e=>by subst e; exact UInt8.lt_irrefl x h'
        simp [h,h',this]
      · have:x=y:=UInt8.le_antisymm (UInt8.not_lt.1 h') (UInt8.not_lt.1 h)
        subst this; simp [ih]
theorem zj7u {a b:Dg}:zsy0 a b=0↔a=b:=(zd99 _ _).trans ⟨fun e=>znyd _ _ e,fun e=>by rw [e]⟩
theorem zaml {a b:Org}:zhqs a b<0↔orLt a b=true:=by
  unfold zhqs orI orLt zynh
  by_cases h1:a.rev=b.rev
  · rw [if_pos (zj7u.2 h1),if_pos h1]
    by_cases h2:a.lay=b.lay
    · rw [if_pos (zmen.2 h2),if_pos h2]; exact z5ha
    · rw [if_neg (fun q=>h2 (zmen.1 q)),if_neg h2]; exact z5ha
  · rw [if_neg (fun q=>h1 (zj7u.1 q)),if_neg h1]; exact zxr9
theorem zcpd (a b:Org):Runs T640 a35 [.agg (orC a),.agg (orC b)] (.int .i64 (zhqs a b)):=by
  refine ⟨?_⟩
  have t1 : ∀ (o:Org),(orC o).take 32=dgC o.rev:=fun o=>List.take_left' (z1t1 _)
  have t2 : ∀ f g,cBc [.sl f 1 32 (dgC a.rev),.sl g 1 32 (dgC b.rev)]=_:=fun f g=>z1f4
  simp (disch:=first|omega|(simp<;>omega)|fail) [-map_take,-map_drop,-map_set,-map_append,-drop_one,a35,zvi1,zy0j,z2i9,t1,t2,zc1k,zfih,zu78,zhqs]
noncomputable def zf27:List DV→Option DV:=con (fun _=>True) (fun a:Org × Org=>[.agg (orC a.1),.agg (orC a.2)]) (fun a => .int .i64 (zhqs a.1 a.2))
theorem zet7 {a b:Org}:zf27 [.agg (orC a),.agg (orC b)]=some (.int .i64 (zhqs a b)) :=
  zsn4 (f:=fun a:Org × Org=>[.agg (orC a.1),.agg (orC a.2)]) (g:=fun a => .int .i64 (zhqs a.1 a.2)) (by
    rintro ⟨a,b⟩ ⟨c,d⟩ e
    simp only [List.cons.injEq,DV.agg.injEq,and_true] at e
    rw [zc65 e.1,zc65 e.2]) (a,b)
noncomputable def TcO:Tbl:=addT 35 (.pure zf27) tbl0
theorem z16d:TcO 35 = .pure zf27:=by simp [TcO]
theorem z4ss:TcO.Sound P:=z0rp (z2au fun (a:Org × Org) _=>zljw mix zhwj Tryz.func35 zxwh (zcpd a.1 a.2)) zr5o
def orZ:Org:=⟨dg0,[],[]⟩
theorem zfm5:orC orZ=[w8 0#8,w8 0#8,w8 0#8,w8 0#8,w8 0#8,w8 0#8,w8 0#8,w8 0#8,w8 0#8,w8 0#8,w8 0#8,w8 0#8,w8 0#8,w8 0#8,w8 0#8,w8 0#8,w8 0#8,w8 0#8,w8 0#8,w8 0#8,w8 0#8,w8 0#8,w8 0#8,w8 0#8,w8 0#8,w8 0#8,w8 0#8,w8 0#8,w8 0#8,w8 0#8,w8 0#8,w8 0#8,.str [],.str []]:=rfl
end Go.Proofs.YtdnhbfmlklaldaaGreat
set_option linter.unusedSimpArgs false
set_option linter.unusedVariables false
namespace Go.Proofs.YtdnhbfmlklaldaaGreat
open Go Go.Am
def S642 (pre:List AObj) (n:Nat) (l:List Org) (i:Nat):St:=zhq0 (.ms pre.length (n*34) 0 34 n (n*34)) (.int .i64 0) (.int .i64 n) (.fn (.func 35) [] []) (.int .i64 i) (pre++[.cells (fl orC (zxu4 orLt (l.take i)++l.drop i))])
def S643 (pre:List AObj) (n i:Nat) (x:Org) (R:List Org) (a:IPg Org):St:=zlh2 (.ms pre.length (n*34) 0 34 n (n*34)) (.int .i64 0) (.int .i64 n) (.fn (.func 35) [] []) (.int .i64 i) (.int .i64 a.A.length) (pre++[.cells (fl orC (a.A++x::(a.B++R)))])
set_option maxRecDepth 20000 in
theorem zinq (pre:List AObj) (l:List Org) (hb:l.length≤1000000) :
    RunsH TcO a94 [.ms pre.length (l.length*34) 0 34 l.length (l.length*34),.int .i64 0,.int .i64 l.length,(.fn (.func 35) [] [])] (pre++[.cells (fl orC l)]) (.tup []) (pre++[.cells (fl orC (zxu4 orLt l))]):=by
  refine ⟨?_⟩
  obtain ⟨n,hn⟩ : ∃ n,l.length=n:=⟨_,rfl⟩
  rw [hn]
  rw [hn] at hb
  simp (disch:=first|omega|(simp<;>omega)|fail) [-map_take,-map_drop,-map_set,-map_append,-drop_one,a94]
  refine zlm5 (S642 pre n l) (fun i=>n+1-i) (fun i=>1≤i∧(i≤n∨n=0)) 1 (z515 (by simp (disch:=first|omega|(simp<;>omega)|fail) [-map_take,-map_drop,-map_set,-map_append,-drop_one,S642,zhq0]) ?_) ⟨by omega,by omega⟩ (fun i hi => ?_)
  · simp (disch:=first|omega|(simp<;>omega)|fail) [-map_take,-map_drop,-map_set,-map_append,-drop_one,S642,zhq0]
    rw [zk1b (by simp; omega),List.take_append_drop]
  obtain ⟨h1,h2⟩:=hi
  simp (disch:=first|omega|(simp<;>omega)|fail) [-map_take,-map_drop,-map_set,-map_append,-drop_one,z8ds,zhq0,S642]
  by_cases h:i<n
  · have h':(i:Int)<n:=by omega
    have hil:i<l.length:=by omega
    obtain ⟨x,hx⟩ : ∃ x,l[i]=x:=⟨_,rfl⟩
    have hd:l.drop i=x::l.drop (i+1):=by rw [List.drop_eq_getElem_cons hil,hx]
    obtain ⟨Q,hQ⟩ : ∃ Q,zxu4 orLt (l.take i)=Q:=⟨_,rfl⟩
    have hQl:Q.length=i:=by rw [← hQ,zmgd]; simp; omega
    have hnext:zxu4 orLt (l.take (i+1))=insR orLt x Q:=by rw [List.take_succ_eq_append_getElem hil,zuk7,hQ,hx]
    obtain ⟨R,hR⟩ : ∃ R,l.drop (i+1)=R:=⟨_,rfl⟩
    have hRl:R.length=n-(i+1):=by rw [← hR]; simp; omega
    rw [hd,hQ,hR]
    simp (disch:=first|omega|(simp<;>omega)|fail) [-map_take,-map_drop,-map_set,-map_append,-drop_one,h,h']
    refine zlm5 (S643 pre n i x R) (fun a=>a.A.length) (fun a=>a.A++a.B=Q∧z8u0 orLt x a.B) ⟨Q,[]⟩ (z515 (by simp (disch:=first|omega|(simp<;>omega)|fail) [-map_take,-map_drop,-map_set,-map_append,-drop_one,S643,zlh2,hQl]) (by simp (disch:=first|omega|(simp<;>omega)|fail) [-map_take,-map_drop,-map_set,-map_append,-drop_one,S643,zlh2])) ⟨by simp,fun b hb=>by simp at hb⟩ (fun a ha => ?_)
    obtain ⟨A,B⟩:=a
    obtain ⟨r1,r2⟩:=ha
    simp only at r1 r2
    simp only [S643]
    rcases (List.eq_nil_or_concat A) with rfl|⟨A',y,rfl⟩
    · have e:insR orLt x Q=x::B:=by rw [← r1]; exact zv9v r2 (.inl rfl)
      have hfin:zxu4 orLt (l.take (i+1))++l.drop (i+1)=x::(B++R):=by rw [hnext,e,hR]; rfl
      simp (disch:=first|omega|(simp<;>omega)|fail) [-map_take,-map_drop,-map_set,-map_append,-drop_one,zstn,zlh2]
      refine ⟨i+1,z515 (by simp (disch:=first|omega|(simp<;>omega)|fail) [-map_take,-map_drop,-map_set,-map_append,-drop_one,S642,zhq0]) (by simp (disch:=first|omega|(simp<;>omega)|fail) [-map_take,-map_drop,-map_set,-map_append,-drop_one,S642,zhq0,hfin]),by omega,by omega,by omega⟩
    · rw [List.concat_eq_append] at r1
      have hAl:A'.length+1+B.length=i:=by rw [← hQl,← r1]; simp; omega
      rw [List.concat_eq_append]
      obtain ⟨L,hL⟩ : ∃ L,A'++[y]++x::(B++R)=L:=⟨_,rfl⟩
      have hLl:L.length=n:=by rw [← hL]; simp; omega
      obtain ⟨p,hp⟩ : ∃ p,A'.length=p:=⟨_,rfl⟩
      have g1 : ∀ h:p<L.length,L[p]=y:=fun h=>by subst hL hp; simp
      have g2 : ∀ h:p+1<L.length,L[p+1]=x:=fun h=>by subst hL hp; simp [List.getElem_append_right]
      have hs:=z72y (A:=A') (B:=B) (R:=R) (x:=x) (y:=y)
      rw [hL,hp] at hs
      obtain ⟨G,hG⟩ : ∃ G,fl orC L=G:=⟨_,rfl⟩
      have hGl:G.length=n*34:=by rw [← hG,z8lx zu78,hLl]
      obtain ⟨G2,hG2⟩ : ∃ G2,fl orC (L.set (p+1) y)=G2:=⟨_,rfl⟩
      have hG2l:G2.length=n*34:=by rw [← hG2,z8lx zu78,List.length_set,hLl]
      have o1:one 34 true (G.drop (p*34))=some (.agg (orC y)):=by rw [← hG,zfiy zu78 (by omega),g1]
      have o2:one 34 true (G.drop ((p+1)*34))=some (.agg (orC x)):=by rw [← hG,zfiy zu78 (by omega),g2]
      have s1 : ∀ h:List AObj,zy6o h pre.length 34 ((p+1)*34) (.agg (orC y)) (some G)=some (.junk,h.set pre.length (.cells G2)):=fun h=>by rw [← hG,zdvi zu78 (by decide) (fun _=>zkp2) (by omega),hG2]
      have s2 : ∀ h:List AObj,zy6o h pre.length 34 (p*34) (.agg (orC x)) (some G2)=some (.junk,h.set pre.length (.cells (fl orC (A'++x::(y::B++R))))):=fun h=>by rw [← hG2,zdvi zu78 (by decide) (fun _=>zkp2) (by rw [List.length_set]; omega),hs]
      have hv:=zet7 (a:=x) (b:=y)
      have hq:=zaml (a:=x) (b:=y)
      have t1:((p:Int)+1).toNat=p+1:=by omega
      have t2:(A'++[y]).length=p+1:=by rw [← hp]; simp
      rw [hL,hG,t2]
      cases hc:orLt x y with
      | true =>
        have hq':zhqs x y<0:=hq.2 hc
        simp (disch:=first|omega|(simp<;>omega)|fail) [-map_take,-map_drop,-map_set,-map_append,-drop_one,zstn,zlh2,hGl,hG2l,o1,o2,s1,s2,t1,z16d,hv,hq',zjj2,z1zn,zxft]
        refine ⟨⟨A',y::B⟩,z515 (by simp (disch:=first|omega|(simp<;>omega)|fail) [-map_take,-map_drop,-map_set,-map_append,-drop_one,S643,zlh2,hp]) (by simp (disch:=first|omega|(simp<;>omega)|fail) [-map_take,-map_drop,-map_set,-map_append,-drop_one,S643,zlh2]),by simp,by simpa using r1,fun b hb => ?_⟩
        rcases List.mem_cons.1 hb with rfl|hb
        · exact hc
        · exact r2 b hb
      | false =>
        have hq':¬ zhqs x y<0:=fun q=>by rw [hq.1 q] at hc; cases hc
        simp (disch:=first|omega|(simp<;>omega)|fail) [-map_take,-map_drop,-map_set,-map_append,-drop_one,zstn,zlh2,hGl,o1,o2,t1,z16d,hv,hq',zjj2,z1zn]
        have e:insR orLt x Q=A'++[y]++x::B:=by rw [← r1]; exact zv9v r2 (.inr ⟨A',y,rfl,hc⟩)
        have hfin:zxu4 orLt (l.take (i+1))++l.drop (i+1)=L:=by rw [hnext,e,hR,← hL]; simp
        refine ⟨i+1,z515 (by simp (disch:=first|omega|(simp<;>omega)|fail) [-map_take,-map_drop,-map_set,-map_append,-drop_one,S642,zhq0]) (by simp (disch:=first|omega|(simp<;>omega)|fail) [-map_take,-map_drop,-map_set,-map_append,-drop_one,S642,zhq0,hfin,hG]),by omega,by omega,by omega⟩
  · have h':¬ (i:Int)<n:=by omega
    have e1:l.drop i=[]:=List.drop_of_length_le (by omega)
    have e2:l.take i=l:=List.take_of_length_le (by omega)
    simp (disch:=first|omega|(simp<;>omega)|fail) [-map_take,-map_drop,-map_set,-map_append,-drop_one,h,h',e1,e2]
end Go.Proofs.YtdnhbfmlklaldaaGreat
set_option linter.unusedSimpArgs false
set_option linter.unusedVariables false
namespace Go.Proofs.YtdnhbfmlklaldaaGreat
open Go Go.Am
abbrev SO:=List AObj × Sl Org
noncomputable def cMuO (A:SO→Prop) (f:SO→List DV) (g:SO→DV × List AObj):List DV→List AObj→Option (DV × List AObj):=conH A (fun a=>(f a,a.1++mo orC a.2.l)) g
theorem z1cc {A:SO→Prop} {f:SO→List DV} {g:SO→DV × List AObj} (hf : ∀ a b,f a=f b→mutD a.1.length 34 a.2 orC=mutD b.1.length 34 b.2 orC) (hg : ∀ a b:SO,a.1=b.1→a.2.l=b.2.l→(a.2.l=[]→a.2.clone.dv 34 orC=b.2.clone.dv 34 orC)→g a=g b) {a:SO} (h:A a):cMuO A f g (f a) (a.1++mo orC a.2.l)=some (g a) :=
  zu6y (A:=A) (f:=fun a=>(f a,a.1++mo orC a.2.l)) (g:=g) (fun a b h1 h2 e=>by
    simp only [Prod.mk.injEq] at e
    obtain ⟨p,q,r⟩:=zt7j zu78 (by decide) (fun _ _=>zc65) (hf a b e.1) e.2
    exact hg a b p q r) a h
def zuwh (a:SO):DV × List AObj:=(.tup [],a.1++mo orC (zxu4 orLt a.2.l))
theorem zefi (a b:SO) (h1:a.1=b.1) (h2:a.2.l=b.2.l) (h3:a.2.l=[]→a.2.clone.dv 34 orC=b.2.clone.dv 34 orC):zuwh a=zuwh b:=by unfold zuwh; rw [h1,h2]
def znpv (a:SO):DV × List AObj:=(cmD 34 a.1.length orC a.2,a.1++mo orC (zly8 orZ a.2.l))
theorem zvb7 (a b:SO) (h1:a.1=b.1) (h2:a.2.l=b.2.l) (h3:a.2.l=[]→a.2.clone.dv 34 orC=b.2.clone.dv 34 orC):znpv a=znpv b:=by
  unfold znpv cmD
  rw [h1,h2]
  by_cases e:b.2.l=[]
  · rw [if_pos e,if_pos e,h3 (h2.trans e)]
  · rw [if_neg e,if_neg e]
def sBO (a:SO):Prop:=a.2.l.length≤12
def cBO (a:SO):Prop:=a.2.l.length≤1000000
def z9vm (a:SO):List DV:=[mutD a.1.length 34 a.2 orC,.int .i64 0,.int .i64 a.2.l.length,(.fn (.func 35) [] [])]
def zko9 (a:SO):List DV:=[mutD a.1.length 34 a.2 orC,.int .i64 0,.int .i64 a.2.l.length,.int .i64 (blN a.2.l.length),(.fn (.func 35) [] [])]
def zhmi (a:SO):List DV:=[mutD a.1.length 34 a.2 orC,(.fn (.func 35) [] [])]
def zhw0 (a:SO):List DV:=[mutD a.1.length 34 a.2 orC]
theorem z3n8 {a:SO} (h:a.2.l.length≤12):cMuO sBO z9vm zuwh (z9vm a) (a.1++mo orC a.2.l)=some (.tup [],a.1++mo orC (zxu4 orLt a.2.l)):=z1cc (fun a b e=>by simp only [z9vm,List.cons.injEq] at e; exact e.1) zefi h
theorem zcho {a:SO} (h:a.2.l.length≤12):cMuO sBO zko9 zuwh (zko9 a) (a.1++mo orC a.2.l)=some (.tup [],a.1++mo orC (zxu4 orLt a.2.l)):=z1cc (fun a b e=>by simp only [zko9,List.cons.injEq] at e; exact e.1) zefi h
theorem z4pf {a:SO} (h:a.2.l.length≤12):cMuO sBO zhmi zuwh (zhmi a) (a.1++mo orC a.2.l)=some (.tup [],a.1++mo orC (zxu4 orLt a.2.l)):=z1cc (fun a b e=>by simp only [zhmi,List.cons.injEq] at e; exact e.1) zefi h
theorem z5x9 {a:SO} (h:a.2.l.length≤1000000):cMuO cBO zhw0 znpv (zhw0 a) (a.1++mo orC a.2.l)=some (znpv a):=z1cc (fun a b e=>by simp only [zhw0,List.cons.injEq] at e; exact e.1) zvb7 h
theorem z66m (pre:List AObj) (V:DV):RunsH TcO a94 [V,.int .i64 0,.int .i64 0,(.fn (.func 35) [] [])] pre (.tup []) pre:=by
  refine ⟨?_⟩
  simp (disch:=first|omega|(simp<;>omega)|fail) [-map_take,-map_drop,-map_set,-map_append,-drop_one,a94]
  refine zlm5 (fun _:Unit=>zhq0 V (.int .i64 0) (.int .i64 0) (.fn (.func 35) [] []) (.int .i64 1) pre) (fun _=>0) (fun _=>True) () (z515 (by simp (disch:=first|omega|(simp<;>omega)|fail) [-map_take,-map_drop,-map_set,-map_append,-drop_one,zhq0]) (by simp (disch:=first|omega|(simp<;>omega)|fail) [-map_take,-map_drop,-map_set,-map_append,-drop_one,zhq0])) trivial (fun i hi => ?_)
  simp (disch:=first|omega|(simp<;>omega)|fail) [-map_take,-map_drop,-map_set,-map_append,-drop_one,z8ds,zhq0]
theorem zsed {a:SO} (h:sBO a):RunsH TcO a94 (z9vm a) (a.1++mo orC a.2.l) (.tup []) (a.1++mo orC (zxu4 orLt a.2.l)):=by
  obtain ⟨pre,x⟩:=a
  have h:x.l.length≤12:=h
  by_cases e:x.l=[]
  · have e1:zxu4 orLt x.l=[]:=by rw [e]; rfl
    have e2:x.l.length=0:=by rw [e]; rfl
    have e3:mo orC x.l=[]:=by rw [e]; rfl
    simp only [z9vm,e1,e2,e3,z7sv,List.append_nil]; exact z66m pre _
  · have:=zinq pre x.l (by omega)
    simp only [z9vm,z2ra e,zsqo e,zsqo (zlvn e)]
    exact this
noncomputable def TiO:Tbl:=addT 94 (.heap (cMuO sBO z9vm zuwh)) tbl0
theorem zbu2:TiO 94 = .heap (cMuO sBO z9vm zuwh):=by simp [TiO]
theorem zz4u:TiO.Sound P:=z0rp (z7sf fun a h=>zv22 mix z4ss Tryz.func94 ziuh (zsed h)) zr5o
theorem z582 {a:SO} (h:sBO a):RunsH TiO a60 (zko9 a) (a.1++mo orC a.2.l) (.tup []) (a.1++mo orC (zxu4 orLt a.2.l)):=by
  have he:=z3n8 (a:=a) h
  obtain ⟨pre,x⟩:=a
  have h:x.l.length≤12:=h
  refine ⟨?_⟩
  simp only [zko9]
  simp only [z9vm] at he
  obtain ⟨b,hb⟩ : ∃ b,blN x.l.length=b:=⟨_,rfl⟩
  obtain ⟨n,hn⟩ : ∃ n,x.l.length=n:=⟨_,rfl⟩
  rw [hn] at he h
  rw [hb,hn]
  obtain ⟨V,hV⟩ : ∃ V,mutD pre.length 34 x orC=V:=⟨_,rfl⟩
  obtain ⟨H,hH⟩ : ∃ H,pre++mo orC x.l=H:=⟨_,rfl⟩
  obtain ⟨K,hK⟩ : ∃ K,pre++mo orC (zxu4 orLt x.l)=K:=⟨_,rfl⟩
  rw [hV,hH,hK] at he
  rw [hV,hH,hK]
  have h1:(n:Int)≤12:=by omega
  simp (disch:=first|omega|(simp<;>omega)|fail) [-map_take,-map_drop,-map_set,-map_append,-drop_one,a60]
  refine zlm5 (fun _:Unit=>zw1i V (.int .i64 0) (.int .i64 n) (.int .i64 b) (.fn (.func 35) [] []) (.bool true) (.bool true) H) (fun _=>0) (fun _=>True) () (z515 (by simp (disch:=first|omega|(simp<;>omega)|fail) [-map_take,-map_drop,-map_set,-map_append,-drop_one,zw1i]) (by simp (disch:=first|omega|(simp<;>omega)|fail) [-map_take,-map_drop,-map_set,-map_append,-drop_one,zw1i])) trivial (fun i hi => ?_)
  simp (disch:=first|omega|(simp<;>omega)|fail) [-map_take,-map_drop,-map_set,-map_append,-drop_one,zm5a,zw1i,h1,zbu2,he]
noncomputable def TqO:Tbl:=addT 61 (.pure cLen) (addT 60 (.heap (cMuO sBO zko9 zuwh)) tbl0)
theorem zjmf:TqO 61 = .pure cLen:=by simp [TqO]
theorem z8p7:TqO 60 = .heap (cMuO sBO zko9 zuwh):=by simp [TqO]
theorem z1fh:TqO.Sound P:=z0rp z726 (z0rp (z7sf fun a h=>zv22 mix zz4u Tryz.func60 z6e9 (z582 h)) zr5o)
theorem zaio {a:SO} (h:sBO a):RunsH TqO a34 (zhmi a) (a.1++mo orC a.2.l) (.tup []) (a.1++mo orC (zxu4 orLt a.2.l)):=by
  have he:=zcho (a:=a) h
  obtain ⟨pre,x⟩:=a
  have h:x.l.length≤12:=h
  have hl:=zay2 (pre:=pre) (x:=x) zu78
  refine ⟨?_⟩
  simp only [zhmi]
  simp only [zko9] at he
  obtain ⟨n,hn⟩ : ∃ n,x.l.length=n:=⟨_,rfl⟩
  rw [hn] at he h hl
  obtain ⟨V,hV⟩ : ∃ V,mutD pre.length 34 x orC=V:=⟨_,rfl⟩
  obtain ⟨H,hH⟩ : ∃ H,pre++mo orC x.l=H:=⟨_,rfl⟩
  obtain ⟨K,hK⟩ : ∃ K,pre++mo orC (zxu4 orLt x.l)=K:=⟨_,rfl⟩
  rw [hV,hH,hK] at he
  rw [hV,hH] at hl
  rw [hV,hH,hK]
  have hc:=z4lk (n:=n) (by omega)
  simp (disch:=first|omega|(simp<;>omega)|fail) [-map_take,-map_drop,-map_set,-map_append,-drop_one,a34,hl,zjmf,z8p7,he,hc]
theorem zt0e:(Con.heap (cMuO sBO zhmi zuwh)).Sound P 34:=z7sf fun a h=>zv22 mix z1fh Tryz.func34 zk28 (zaio h)
def S644 (pre:List AObj) (n:Nat) (l:List Org) (k:Nat):St:=zly3 (.ms pre.length (n*34) 0 34 n (n*34)) (.int .i64 k) (pre++[.cells (fl orC l)])
def S645 (pre:List AObj) (n k0:Nat) (l:List Org) (a:CPg Org):St:=zbmj (.ms pre.length (n*34) 0 34 n (n*34)) (.int .i64 (zwrc (l.take a.j)).length) (.ms pre.length (n*34) (k0*34) 34 (n-k0) (n*34)) (.int .i64 ((a.j-k0:Nat):Int)) (pre++[.cells (fl orC a.M)])
set_option maxRecDepth 20000 in
theorem zydq (pre:List AObj) (l:List Org) (hb:l.length≤1000000) (hne:l≠[]) :
    RunsH tbl0 a39 [.ms pre.length (l.length*34) 0 34 l.length (l.length*34)] (pre++[.cells (fl orC l)]) (.ms pre.length (l.length*34) 0 34 (zwrc l).length (l.length*34)) (pre++[.cells (fl orC (zly8 orZ l))]):=by
  refine ⟨?_⟩
  obtain ⟨n,hn⟩ : ∃ n,l.length=n:=⟨_,rfl⟩
  have hn0:0<n:=by rw [← hn]; exact List.length_pos_iff.2 hne
  have hfl:(fl orC l).length=n*34:=by rw [z8lx zu78,hn]
  have hln:lenD (pre++[.cells (fl orC l)]) (.ms pre.length (n*34) 0 34 n (n*34))=some (.int .i64 n):=by rw [z59c,zjj2,z1zn,if_pos hfl]; rfl
  rw [hn]
  rw [hn] at hb
  by_cases h2:n<2
  · have h2':(n:Int)<2:=by omega
    have hc:=zmiq (l:=l) (by omega)
    have hcl:(zwrc l).length=n:=by rw [hc,hn]
    have ho:=zixv (z:=orZ) hc
    rw [hcl,ho]
    simp (disch:=first|omega|(simp<;>omega)|fail) [-map_take,-map_drop,-map_set,-map_append,-drop_one,a39,hln,h2,h2',zjj2,z1zn,hfl]
  have h2':¬ (n:Int)<2:=by omega
  simp (disch:=first|omega|(simp<;>omega)|fail) [-map_take,-map_drop,-map_set,-map_append,-drop_one,a39,hln,h2,h2']
  refine zlm5 (S644 pre n l) (fun i=>n-i) (fun i=>1≤i∧i≤n∧zwrc (l.take i)=l.take i) 1 (z515 (by simp (disch:=first|omega|(simp<;>omega)|fail) [-map_take,-map_drop,-map_set,-map_append,-drop_one,S644,zly3]) (by simp (disch:=first|omega|(simp<;>omega)|fail) [-map_take,-map_drop,-map_set,-map_append,-drop_one,S644,zly3])) ⟨by omega,by omega,zmiq (by simp; omega)⟩ (fun i hi => ?_)
  obtain ⟨h3,h4,h5⟩:=hi
  simp (disch:=first|omega|(simp<;>omega)|fail) [-map_take,-map_drop,-map_set,-map_append,-drop_one,znbh,zly3,S644,hln]
  by_cases h:i<n
  · have h':(i:Int)<n:=by omega
    have hil:i<l.length:=by omega
    have hi1:(((i:Int)-1)).toNat=i-1:=by omega
    have o1:one 34 true ((fl orC l).drop (i*34))=some (.agg (orC l[i])):=zfiy zu78 hil
    have o2:one 34 true ((fl orC l).drop ((i-1)*34))=some (.agg (orC l[i-1])):=zfiy zu78 (by omega)
    by_cases e:l[i-1]=l[i]
    · simp (disch:=first|omega|(simp<;>omega)|fail) [-map_take,-map_drop,-map_set,-map_append,-drop_one,h,h',zjj2,z1zn,hfl,hi1,o1,o2,e]
      obtain ⟨hs,hk⟩:=CompI.start (by omega) hil h5 e
      refine zlm5 (S645 pre n i l) (fun a=>n-a.j) (fun a=>CompI l i a) ⟨i+1,l⟩ (z515 (by simp (disch:=first|omega|(simp<;>omega)|fail) [-map_take,-map_drop,-map_set,-map_append,-drop_one,S645,zbmj,hk]) (by simp (disch:=first|omega|(simp<;>omega)|fail) [-map_take,-map_drop,-map_set,-map_append,-drop_one,S645,zbmj])) hs (fun a ha => ?_)
      obtain ⟨j,M⟩:=a
      have h6:=ha.j0
      have h7:=ha.j1
      have h8:=ha.len
      have h9:=ha.k
      simp only at h6 h7 h8 h9
      obtain ⟨K,hK⟩ : ∃ K,(zwrc (l.take j)).length=K:=⟨_,rfl⟩
      obtain ⟨J,hJ⟩ : ∃ J,j-i=J:=⟨_,rfl⟩
      rw [hK] at h9
      have hfM:(fl orC M).length=n*34:=by rw [z8lx zu78,h8,hn]
      have hlM:lenD (pre++[.cells (fl orC M)]) (.ms pre.length (n*34) (i*34) 34 (n-i) (n*34))=some (.int .i64 ((n-i:Nat):Int)):=by rw [z59c,zjj2,z1zn,if_pos hfM]; rfl
      simp (disch:=first|omega|(simp<;>omega)|fail) [-map_take,-map_drop,-map_set,-map_append,-drop_one,z9mq,zbmj,S645,hK,hJ,hlM]
      by_cases hj:j<n
      · have hj1:(J:Int)<((n-i:Nat):Int):=by omega
        have hj1':J<n-i:=by omega
        have hj2:((J:Int)-1).toNat=J-1:=by omega
        have hj3:i*34+J*34=j*34:=by omega
        have hj4:i*34+(J-1)*34=(j-1)*34:=by omega
        have hjl:j<l.length:=by omega
        obtain ⟨g1,g2⟩:=ha.get hjl (by simp only; omega) (by simp only; omega)
        simp only at g1 g2
        have u1:one 34 true ((fl orC M).drop (j*34))=some (.agg (orC l[j])):=by rw [zfiy zu78 (by omega),g1]
        have u2:one 34 true ((fl orC M).drop ((j-1)*34))=some (.agg (orC l[j-1])):=by rw [zfiy zu78 (by omega),g2]
        by_cases e2:l[j-1]=l[j]
        · simp (disch:=first|omega|(simp<;>omega)|fail) [-map_take,-map_drop,-map_set,-map_append,-drop_one,hj1,hj1',hj2,hj3,hj4,zjj2,z1zn,hfM,u1,u2,e2]
          obtain ⟨q1,q2⟩:=ha.same (by omega) hjl e2
          have hJ':j+1-i=J+1:=by omega
          simp only at q1 q2
          exact ⟨⟨j+1,M⟩,z515 (by simp (disch:=first|omega|(simp<;>omega)|fail) [-map_take,-map_drop,-map_set,-map_append,-drop_one,S645,zbmj,q2,hK,hJ']) (by simp (disch:=first|omega|(simp<;>omega)|fail) [-map_take,-map_drop,-map_set,-map_append,-drop_one,S645,zbmj]),by simp only; omega,q1⟩
        · have e2':¬ l[j]=l[j-1]:=fun q=>e2 q.symm
          have st : ∀ h:List AObj,zy6o h pre.length 34 (K*34) (.agg (orC l[j])) (some (fl orC M))=some (.junk,h.set pre.length (.cells (fl orC (M.set K l[j])))):=fun h=>zdvi zu78 (by decide) (fun _=>zkp2) (by omega)
          simp (disch:=first|omega|(simp<;>omega)|fail) [-map_take,-map_drop,-map_set,-map_append,-drop_one,hj1,hj1',hj2,hj3,hj4,zjj2,z1zn,hfM,u1,u2,st,e2',zxft]
          obtain ⟨q1,q2⟩:=ha.step (by omega) hjl e2
          have hJ':j+1-i=J+1:=by omega
          simp only [hK] at q1 q2
          exact ⟨⟨j+1,M.set K l[j]⟩,z515 (by simp (disch:=first|omega|(simp<;>omega)|fail) [-map_take,-map_drop,-map_set,-map_append,-drop_one,S645,zbmj,q2,hK,hJ']) (by simp (disch:=first|omega|(simp<;>omega)|fail) [-map_take,-map_drop,-map_set,-map_append,-drop_one,S645,zbmj]),by simp only; omega,q1⟩
      · have hj1:¬ (J:Int)<((n-i:Nat):Int):=by omega
        have hj1':¬ J<n-i:=by omega
        obtain rfl:j=n:=by omega
        have hfin:=ha.fin (by simp only; omega)
        simp only at hfin
        have htl:l.take j=l:=List.take_of_length_le (by omega)
        rw [htl] at hK
        rw [hK] at hfin
        have hclr:clrD (pre++[.cells (fl orC M)]) 34 (orC orZ) (.ms pre.length (j*34) (K*34) 34 (j-K) (j*34))=some (.tup [],pre++[.cells (fl orC (zly8 orZ l))]):=by
          have hov:objV (pre++[.cells (fl orC M)]) pre.length (j*34)=some (fl orC M):=by rw [zjj2,z1zn,if_pos hfM]
          rw [z7ty (s:=34) (m:=j-K) (off:=K*34) (ver:=j*34) (zs:=orC orZ) (zu78 _) (by decide) zkp2 (by omega),hov,Option.map_some,zxft,zqtu]
          have hs:=z507 (f:=orC) zu78 (A:=zwrc l) (B:=M.drop K) (C:=List.replicate (j-K) orZ) (by simp; omega)
          rw [← hfin,hK] at hs
          rw [hs]
          simp only [zly8,hK,hn,List.set_cons_zero]
        have hol:(fl orC (zly8 orZ l)).length=j*34:=by rw [z8lx zu78,zglm,hn]
        rw [zfm5] at hclr
        simp (disch:=first|omega|(simp<;>omega)|fail) [-map_take,-map_drop,-map_set,-map_append,-drop_one,hj1,hj1',zjj2,z1zn,hfM,zxft,hclr,hK,hol]
    · have e':¬ l[i]=l[i-1]:=fun q=>e q.symm
      simp (disch:=first|omega|(simp<;>omega)|fail) [-map_take,-map_drop,-map_set,-map_append,-drop_one,h,h',zjj2,z1zn,hfl,hi1,o1,o2,e']
      refine ⟨i+1,z515 (by simp (disch:=first|omega|(simp<;>omega)|fail) [-map_take,-map_drop,-map_set,-map_append,-drop_one,S644,zly3]) (by simp (disch:=first|omega|(simp<;>omega)|fail) [-map_take,-map_drop,-map_set,-map_append,-drop_one,S644,zly3]),by omega,by omega,by omega,?_⟩
      rw [z6fn (by omega) hil,if_neg e,h5,List.take_succ_eq_append_getElem hil]
  · have h':¬ (i:Int)<n:=by omega
    have e2:l.take i=l:=List.take_of_length_le (by omega)
    rw [e2] at h5
    have ho:=zixv (z:=orZ) h5
    simp (disch:=first|omega|(simp<;>omega)|fail) [-map_take,-map_drop,-map_set,-map_append,-drop_one,h,h',ho,h5,hn,zjj2,z1zn,hfl]
theorem z1rx (pre:List AObj) (x:Sl Org) (e:x.l=[]):RunsH tbl0 a39 [x.clone.dv 34 orC] pre (x.clone.dv 34 orC) pre:=by
  refine ⟨?_⟩
  have hl:lenD pre (x.clone.dv 34 orC)=some (.int .i64 0):=by rw [zupj,show x.clone.l=x.l from rfl,e]; rfl
  simp (disch:=first|omega|(simp<;>omega)|fail) [-map_take,-map_drop,-map_set,-map_append,-drop_one,a39,hl]
theorem z3mf {a:SO} (h:cBO a):RunsH tbl0 a39 (zhw0 a) (a.1++mo orC a.2.l) (cmD 34 a.1.length orC a.2) (a.1++mo orC (zly8 orZ a.2.l)):=by
  obtain ⟨pre,x⟩:=a
  by_cases e:x.l=[]
  · have h1:cmD 34 pre.length orC x=x.clone.dv 34 orC:=if_pos e
    simp only [zhw0,zpj6 e,h1,e,z9e8,z7sv,List.append_nil]
    exact z1rx pre x e
  · have h1:cmD 34 pre.length orC x = .ms pre.length (x.l.length*34) 0 34 (zwrc x.l).length (x.l.length*34):=if_neg e
    simp only [zhw0,z2ra e,h1,zsqo e,zsqo (zsxr e)]
    exact zydq pre x.l h e
theorem zxqv:(Con.heap (cMuO cBO zhw0 znpv)).Sound P 39:=z7sf fun a h=>zv22 mix zr5o Tryz.func39 zjwo (z3mf h)
end Go.Proofs.YtdnhbfmlklaldaaGreat
set_option linter.unusedSimpArgs false
set_option linter.unusedVariables false
namespace Go.Proofs.YtdnhbfmlklaldaaGreat
open Go Go.Am
noncomputable def T645:Tbl:=addT 33 (.pure cOr) (addT 34 (.heap (cMuO sBO zhmi zuwh)) (addT 39 (.heap (cMuO cBO zhw0 znpv)) tbl0))
theorem z4s5:T645 33 = .pure cOr:=by simp [T645]
theorem za6x:T645 34 = .heap (cMuO sBO zhmi zuwh):=by simp [T645]
theorem zrr1:T645 39 = .heap (cMuO cBO zhw0 znpv):=by simp [T645]
theorem zorh:T645.Sound P:=z0rp zcra (z0rp zt0e (z0rp zxqv zr5o))
def relS (l:List Fct):List Org:=(l.filter fun f=>decide (f.kind=1)).map z5z5
theorem zho3 (l:List Fct):(relS l).length≤l.length:=by unfold relS; rw [List.length_map]; exact List.length_filter_le _ _
theorem zt8j {l:List Fct} {i:Nat} (h:i<l.length):relS (l.take (i+1))=relS (l.take i)++(if l[i].kind=1 then [z5z5 l[i]] else []):=by
  rw [List.take_succ_eq_append_getElem h,relS,List.filter_append,List.map_append,← relS]
  congr 1
  by_cases e:l[i].kind=1<;>simp [e]
def zz6h (l:List Fct):Sl Org:=if relS l=[] then ⟨some true,[orZ],fun e=>by simp at e,by simp⟩ else own (z534 orLt (relS l))
def oV (l:List Org):DV:=if l=[] then .nils else .ms 2 (l.length*34) 0 34 l.length (l.length*34)
def oH (c:Cas) (o:AObj) (l:List Org):List AObj := .cells (caC c)::(if l=[] then [] else [o,.cells (fl orC l)])
theorem zpni {l:List Org} (h:l≠[]):oV l = .ms 2 (l.length*34) 0 34 l.length (l.length*34):=if_neg h
theorem z54r {c:Cas} {o:AObj} {l:List Org} (h:l≠[]):oH c o l=[.cells (caC c),o,.cells (fl orC l)]:=by rw [oH,if_neg h]
def S646 (c:Cas) (a:FP):St:=zzg5 (oV (relS (c.f.l.take a.i))) (c.f.dv 71 faC) (.int .i64 c.f.l.length) (.int .i64 a.i) (oH c (.cells (faC a.o)) (relS (c.f.l.take a.i)))
set_option maxRecDepth 20000 in
theorem z42m (c:Cas) (hn:c.f.l.length≤12):Runs T645 a18 [.agg (caC c)] ((zz6h c.f.l).dv 34 orC):=by
  refine ⟨?_⟩
  have hb:=c.f.b
  simp (disch:=first|omega|(simp<;>omega)|fail) [-map_take,-map_drop,-map_set,-map_append,-drop_one,a18]
  refine zlm5 (S646 c) (fun a=>c.f.l.length-a.i) (fun a=>a.i≤c.f.l.length) ⟨0,fct0⟩ (z515 (by simp (disch:=first|omega|(simp<;>omega)|fail) [-map_take,-map_drop,-map_set,-map_append,-drop_one,S646,zzg5,relS,oV]) (by simp (disch:=first|omega|(simp<;>omega)|fail) [-map_take,-map_drop,-map_set,-map_append,-drop_one,S646,zzg5,relS,oH])) (by simp) (fun a hi => ?_)
  obtain ⟨i,o⟩:=a
  simp only at hi
  simp only [S646]
  by_cases h:i<c.f.l.length
  · have h':(i:Int)<c.f.l.length:=by omega
    have hg : ∀ H,zpsc H 71 (c.f.dv 71 faC) i=some (.ref (faC c.f.l[i])):=fun H=>zalo zs77 h
    have hs:=zt8j h
    have hlen:(relS (c.f.l.take i)).length≤i:=by have:=zho3 (c.f.l.take i); rw [List.length_take] at this; omega
    obtain ⟨F,hF⟩ : ∃ F,c.f.l[i]=F:=⟨_,rfl⟩
    rw [hF] at hg hs
    obtain ⟨L,hL⟩ : ∃ L,relS (c.f.l.take i)=L:=⟨_,rfl⟩
    rw [hL] at hs hlen ⊢
    by_cases hk:F.kind=1
    case neg =>
      rw [if_neg hk,List.append_nil] at hs
      by_cases e:L=[]
      · subst e
        have q1:oV [] = .nils:=rfl
        have q2:oH c (.cells (faC o)) []=[.cells (caC c)]:=rfl
        simp (disch:=first|omega|(simp<;>omega)|fail) [-map_take,-map_drop,-map_set,-map_append,-drop_one,zjhm,zzg5,h,h',hg,q1,q2,hk]
        exact ⟨⟨i+1,o⟩,zju2 (tail:=[.cells (faC F)]) (by simp (disch:=first|omega|(simp<;>omega)|fail) [-map_take,-map_drop,-map_set,-map_append,-drop_one,S646,zzg5,hs,q1]) (by simp (disch:=first|omega|(simp<;>omega)|fail) [-map_take,-map_drop,-map_set,-map_append,-drop_one,S646,zzg5,hs,q2]) (Nat.zero_le _) (by simp (disch:=first|omega|(simp<;>omega)|fail) [-map_take,-map_drop,-map_set,-map_append,-drop_one,S646,zzg5,hs,q1,q2,z1r6,Am.below]) (by simp (disch:=first|omega|(simp<;>omega)|fail) [-map_take,-map_drop,-map_set,-map_append,-drop_one,S646,zzg5,hs,q2,zlf2]),by simp only; omega,by simp only; omega⟩
      · have q1:=zpni e
        have q2:=z54r (c:=c) (o := .cells (faC o)) e
        simp (disch:=first|omega|(simp<;>omega)|fail) [-map_take,-map_drop,-map_set,-map_append,-drop_one,zjhm,zzg5,h,h',hg,q1,q2,hk]
        exact ⟨⟨i+1,o⟩,zju2 (tail:=[.cells (faC F)]) (by simp (disch:=first|omega|(simp<;>omega)|fail) [-map_take,-map_drop,-map_set,-map_append,-drop_one,S646,zzg5,hs,q1]) (by simp (disch:=first|omega|(simp<;>omega)|fail) [-map_take,-map_drop,-map_set,-map_append,-drop_one,S646,zzg5,hs,q2]) (Nat.zero_le _) (by simp (disch:=first|omega|(simp<;>omega)|fail) [-map_take,-map_drop,-map_set,-map_append,-drop_one,S646,zzg5,hs,q1,q2,z1r6,Am.below]) (by simp (disch:=first|omega|(simp<;>omega)|fail) [-map_take,-map_drop,-map_set,-map_append,-drop_one,S646,zzg5,hs,q2,zlf2,fl,zmq5 _ _ (zp6k ztvh _)]),by simp only; omega,by simp only; omega⟩
    rw [if_pos hk] at hs
    obtain ⟨O,hO⟩ : ∃ O,z5z5 F=O:=⟨_,rfl⟩
    have hc:=z68y (f:=F)
    rw [hO] at hs hc
    by_cases e:L=[]
    · subst e
      rw [List.nil_append] at hs
      have hap:=zsuq (h:=[AObj.cells (caC c),.cells (faC F)]) (s:=34) (b:=64) (m:=1) (cs:=orC O) (by decide) (by decide) (by rw [zu78]) (by decide) (by decide)
      simp only [zu78,List.length_cons,List.length_nil] at hap
      have q1:oV [] = .nils:=rfl
      have q2:oH c (.cells (faC o)) []=[.cells (caC c)]:=rfl
      simp (disch:=first|omega|(simp<;>omega)|fail) [-map_take,-map_drop,-map_set,-map_append,-drop_one,zjhm,zzg5,h,h',hg,q1,q2,hk,z4s5,hc,hap]
      have e1:oV [O] = .ms 2 34 0 34 1 34:=rfl
      have e2:oH c (.cells (faC F)) [O]=[.cells (caC c),.cells (faC F),.cells (orC O)]:=by rw [z54r (by simp),z4hs]
      exact ⟨⟨i+1,F⟩,z515 (by simp (disch:=first|omega|(simp<;>omega)|fail) [-map_take,-map_drop,-map_set,-map_append,-drop_one,S646,zzg5,hs,e1]) (by simp (disch:=first|omega|(simp<;>omega)|fail) [-map_take,-map_drop,-map_set,-map_append,-drop_one,S646,zzg5,hs,e2]),by simp only; omega,by simp only; omega⟩
    · have hap:=zkg3 (h:=[AObj.cells (caC c),.cells (faC o),.cells (fl orC L),.cells (faC F)]) (id:=2) (b:=64) (l:=L) (x:=O) zu78 (by decide) (by decide) (fun _=>zkp2) (by omega) (by simp [objV,ziu0,z8lx zu78])
      have q1:=zpni e
      have q2:=z54r (c:=c) (o := .cells (faC o)) e
      simp (disch:=first|omega|(simp<;>omega)|fail) [-map_take,-map_drop,-map_set,-map_append,-drop_one,zjhm,zzg5,h,h',hg,q1,q2,hk,z4s5,hc,hap]
      have e0:L++[O]≠[]:=by simp
      have e1:=zpni e0
      have e2:=z54r (c:=c) (o := .cells (faC o)) e0
      rw [List.length_append,List.length_singleton] at e1
      exact ⟨⟨i+1,o⟩,zju2 (tail:=[.cells (faC F)]) (by simp (disch:=first|omega|(simp<;>omega)|fail) [-map_take,-map_drop,-map_set,-map_append,-drop_one,S646,zzg5,hs,e1]) (by simp (disch:=first|omega|(simp<;>omega)|fail) [-map_take,-map_drop,-map_set,-map_append,-drop_one,S646,zzg5,hs,e2]) (Nat.zero_le _) (by simp (disch:=first|omega|(simp<;>omega)|fail) [-map_take,-map_drop,-map_set,-map_append,-drop_one,S646,zzg5,hs,e1,e2,z1r6,Am.below]) (by simp (disch:=first|omega|(simp<;>omega)|fail) [-map_take,-map_drop,-map_set,-map_append,-drop_one,S646,zzg5,hs,e2,zlf2,fl,zmq5 _ _ (zg0c (zp6k ztvh _) (ztvh _)),zmq5 _ _ (zp6k ztvh _)]),by simp only; omega,by simp only; omega⟩
  have h':¬ (i:Int)<c.f.l.length:=by omega
  have ht:c.f.l.take i=c.f.l:=List.take_of_length_le (by omega)
  rw [ht]
  have hrl:=zho3 c.f.l
  obtain ⟨L,hL⟩ : ∃ L,relS c.f.l=L:=⟨_,rfl⟩
  rw [hL] at hrl ⊢
  by_cases e:L=[]
  · have hr:(zz6h c.f.l).dv 34 orC = .sl true 34 1 (orC orZ):=by unfold zz6h; rw [hL,if_pos e]; rfl
    subst e
    have q1:oV [] = .nils:=rfl
    have q2:oH c (.cells (faC o)) []=[.cells (caC c)]:=rfl
    rw [hr,zfm5]
    simp (disch:=first|omega|(simp<;>omega)|fail) [-map_take,-map_drop,-map_set,-map_append,-drop_one,zjhm,zzg5,h,h',q1,q2]
  · have hul:=zsv6 (lt:=orLt) L
    have hr:zz6h c.f.l=own (z534 orLt L):=by unfold zz6h; rw [hL,if_neg e]
    have q1:=zpni e
    have q2:=z54r (c:=c) (o := .cells (faC o)) e
    have hol:(own L).l=L:=z3e9 (by omega)
    have hsl:(zxu4 orLt L).length=L.length:=zmgd _
    have h2:=z4pf (a:=([AObj.cells (caC c),.cells (faC o)],own L)) (by show (own L).l.length≤12; rw [hol]; omega)
    simp only [zhmi,hol,List.length_cons,List.length_nil,Nat.zero_add,List.cons_append,List.nil_append] at h2
    have hwl:(zxu4 orLt L).length=(own L).l.length:=by rw [hol,hsl]
    have h3:=z5x9 (a:=([AObj.cells (caC c),.cells (faC o)],(own L).wl (zxu4 orLt L) hwl)) (by show (zxu4 orLt L).length≤_; omega)
    simp only [zhw0,zl7v,znpv,show ((own L).wl (zxu4 orLt L) hwl).l=zxu4 orLt L from rfl,List.length_cons,List.length_nil,Nat.zero_add,List.cons_append,List.nil_append] at h3
    have e1:zxu4 orLt L≠[]:=zlvn e
    have hm:mutD 2 34 (own L) orC = .ms 2 (L.length*34) 0 34 L.length (L.length*34):=by rw [z2ra (by rw [hol]; exact e),hol]
    have hcm:cmD 34 2 orC ((own L).wl (zxu4 orLt L) hwl) = .ms 2 (L.length*34) 0 34 (z534 orLt L).length (L.length*34):=by
      unfold cmD
      rw [show ((own L).wl (zxu4 orLt L) hwl).l=zxu4 orLt L from rfl,if_neg e1,hsl,zl78 zha4]
    rw [hm,zsqo e,zsqo e1] at h2
    rw [hm,zsqo e1,zsqo (zsxr e1),hcm] at h3
    have hs:=z29t (f:=orC) zu78 ztvh (pre:=[AObj.cells (caC c),.cells (faC o)]) (l:=zly8 orZ (zxu4 orLt L)) (m:=(zwrc (zxu4 orLt L)).length)
    rw [zglm,z0zq,zl78 zha4,hsl] at hs
    simp only [List.length_cons,List.length_nil,Nat.zero_add,List.cons_append,List.nil_append] at hs
    rw [hr,zqrs (by omega)]
    have e0:¬ L.length=0:=fun q=>e (List.eq_nil_of_length_eq_zero q)
    have hfl:(fl orC L).length=L.length*34:=z8lx zu78 L
    simp (disch:=first|omega|(simp<;>omega)|fail) [-map_take,-map_drop,-map_set,-map_append,-drop_one,zjhm,zzg5,h,h',q1,q2,e,e0,hfl,za6x,zrr1,h2,h3,hs]
noncomputable def cOgs:List DV→Option DV:=con (fun c:Cas=>c.f.l.length≤12) (fun c=>[.agg (caC c)]) (fun c=>(zz6h c.f.l).dv 34 orC)
theorem zudh {c:Cas} (h:c.f.l.length≤12):cOgs [.agg (caC c)]=some ((zz6h c.f.l).dv 34 orC) :=
  zlyi (A:=fun c:Cas=>c.f.l.length≤12) (f:=fun c:Cas=>[.agg (caC c)]) (g:=fun c=>(zz6h c.f.l).dv 34 orC) (fun a b e=>by simp only [List.cons.injEq,DV.agg.injEq,and_true] at e; rw [zejx e]) c h
theorem zvwe:(Con.pure cOgs).Sound P 18:=z2au fun c h=>zljw mix zorh Tryz.func18 zt5q (z42m c h)
end Go.Proofs.YtdnhbfmlklaldaaGreat
set_option linter.unusedSimpArgs false
set_option linter.unusedVariables false
namespace Go.Proofs.YtdnhbfmlklaldaaGreat
open Go Go.Am
structure Tp where
  k:Option Bool
  l:List Int
  h:k=none→l=[]
  at_:Nat
def inI (n:Int):List DV:=[.int .i64 n]
def Tp.sl (t:Tp):DV:=slD t.k 1 t.l.length (t.l.flatMap inI)
def tpC (t:Tp):List DV:=[t.sl,.int .i64 t.at_]
def Tp.adv (t:Tp) (m:Nat):Tp:={ t with at_:=t.at_+m }
theorem zg97 (n:Int):(inI n).length=1:=rfl
theorem zyj0 (n:Int):zbao (inI n)=true:=rfl
theorem z5yb (t:Tp):zyp8 t.sl=true:=by
  obtain ⟨k,l,h,a⟩:=t
  cases k with
  | none=>rfl
  | some b=>show zbao _=true; exact zp6k zyj0 l
theorem zs7w (t:Tp):zbao (tpC t)=true:=by simp [tpC,zbao,z5yb,zyp8]
theorem zl4f (t:Tp):(tpC t).length=2:=by simp [tpC]
theorem zwhz (t:Tp) (H:List AObj):lenD H t.sl=some (.int .i64 t.l.length):=zjc6 (fun e=>by rw [t.h e]; rfl)
theorem zmwh (t:Tp) (H:List AObj) {i:Nat} (hi:i<t.l.length):zpsc H 1 t.sl i=some (.ref [.int .i64 t.l[i]]):=by
  obtain ⟨k,l,h,a⟩:=t
  cases k with
  | none=>simp only at hi; rw [h rfl] at hi; simp at hi
  | some b =>
    simp only [Tp.sl,zip4]
    rw [zsu0 (by omega) (by simp only at hi; omega),Int.toNat_natCast,zdao zg97 hi]; rfl
theorem zxr4 (t:Tp):t.sl.one=true:=by obtain ⟨k,l,h,a⟩:=t; cases k<;>rfl
theorem zn8z (t:Tp):t.sl.known=true:=by obtain ⟨k,l,h,a⟩:=t; cases k<;>rfl
theorem zymw (t:Tp):t.sl.cells=[t.sl]:=by obtain ⟨k,l,h,a⟩:=t; cases k<;>rfl
theorem zpy8 (t:Tp) (n k:Nat) (H:List AObj):fz n H k t.sl=some t.sl:=zqge (z5yb t)
theorem ziad : ∀ {a b:List Int},a.flatMap inI=b.flatMap inI→a=b
  | [],[],_=>rfl
  | [],y::b,h=>by simp [inI] at h
  | x::a,[],h=>by simp [inI] at h
  | x::a,y::b,h=>by
    simp only [List.flatMap_cons,inI,List.singleton_append,List.cons.injEq,DV.int.injEq,true_and] at h
    rw [h.1,ziad h.2]
theorem z15z {a b:Tp} (h:tpC a=tpC b):a=b:=by
  obtain ⟨k,l,h1,p⟩:=a
  obtain ⟨k',l',h2,p'⟩:=b
  simp only [tpC,Tp.sl,List.cons.injEq,DV.int.injEq,true_and,and_true,Int.natCast_inj] at h
  obtain ⟨h,rfl⟩:=h
  cases k with
  | none=>cases k' with
    | none=>rw [Tp.mk.injEq]; exact ⟨rfl,by rw [h1 rfl,h2 rfl],rfl⟩
    | some b=>simp [slD] at h
  | some b=>cases k' with
    | none=>simp [slD] at h
    | some b' =>
      simp only [zip4,DV.sl.injEq] at h
      obtain ⟨rfl,_,_,h⟩:=h
      rw [Tp.mk.injEq]; exact ⟨rfl,ziad h,rfl⟩
attribute [simp] zwhz zxr4 zn8z zymw zpy8 zl4f
def zq5q (t:Tp):Int:=if h:t.at_<t.l.length then t.l[t.at_] else t.at_*7+3
def tpN (t:Tp) (n:Int):Int:=if n<1 then 0 else zq5q t % n
def tpS (t:Tp) (n:Int):Tp:=if n<1 then t else t.adv 1
theorem z4rs (t:Tp) (n:Int):0≤tpN t n:=by
  unfold tpN; split
  · omega
  · exact Int.emod_nonneg _ (by omega)
theorem z2s7 (t:Tp) {n:Int} (h:1≤n):tpN t n<n:=by
  unfold tpN; rw [if_neg (by omega)]; exact Int.emod_lt_of_pos _ (by omega)
theorem z1rh (t:Tp) (m:Nat):(t.adv m).sl=t.sl:=by simp [Tp.adv,Tp.sl]
theorem zpza (t:Tp) (m:Nat):(t.adv m).at_=t.at_+m:=by simp [Tp.adv]
theorem zk2k (t:Tp) (m:Nat):(t.adv m).l=t.l:=by simp [Tp.adv]
attribute [simp] z1rh zpza zk2k
theorem zhly (x n:Int) (h:1≤n) (h2:n≤4294967296):IntKind.i64.wrap (x.tmod n+n)=x.tmod n+n∧(x.tmod n+n).tmod n=x % n:=by
  have h1:=Int.tmod_lt_of_pos x (show 0<n by omega)
  have h3 : -n<x.tmod n:=by
    have:=Int.lt_tmod_of_pos x (show 0<n by omega)
    omega
  refine ⟨wrap_i64 (by omega) (by omega),?_⟩
  rw [Int.tmod_eq_emod_of_nonneg (by omega),Int.add_emod_right]
  rw [Int.tmod_eq_emod]
  split
  · simp
  · rw [Int.natAbs_of_nonneg (show 0≤n by omega)]; simp
theorem z1hg (t:Tp) (n:Int) (ht:t.at_<4294967296) (hn:n≤4294967296):RunsF tbl0 a29 [.mp 0 2 0,.int .i64 n] [.cells (tpC t)] (.int .i64 (tpN t n)) [.cells (tpC (tpS t n))]:=by
  refine ⟨?_⟩
  by_cases h:n<1
  · have e1:tpN t n=0:=by rw [tpN,if_pos h]
    have e2:tpS t n=t:=by rw [tpS,if_pos h]
    rw [e1,e2]
    simp (disch:=first|omega|(simp<;>omega)|fail) [-map_take,-map_drop,-map_set,-map_append,-drop_one,a29,tpC,h]
  have e2:tpS t n=t.adv 1:=by rw [tpS,if_neg h]
  obtain ⟨f1,f2⟩:=zhly (zq5q t) n (by omega) hn
  have e3:tpN t n=zq5q t % n:=by rw [tpN,if_neg h]
  rw [← e3] at f2
  rw [e2]
  have hn0:n≠0:=by omega
  by_cases hl:t.at_<t.l.length
  · have hl':(t.at_:Int)<t.l.length:=by omega
    have hr:t.l[t.at_]=zq5q t:=by rw [zq5q,dif_pos hl]
    have hi:=fun H=>zmwh t H hl
    simp (disch:=first|omega|(simp<;>omega)|fail) [-map_take,-map_drop,-map_set,-map_append,-drop_one,a29,tpC,h,hl,hl',hi,hr,hn0,f1,f2,-Int.tmod_eq_emod_of_nonneg]
  · have hl':¬ (t.at_:Int)<t.l.length:=by omega
    have hr:(t.at_:Int)*7+3=zq5q t:=by rw [zq5q,dif_neg hl]
    have hw:(t.at_:Int)*7<9223372036854775808:=by omega
    simp (disch:=first|omega|(simp<;>omega)|fail) [-map_take,-map_drop,-map_set,-map_append,-drop_one,a29,tpC,h,hl,hl',hr,hn0,f1,f2,-Int.tmod_eq_emod_of_nonneg]
theorem z3oh (t:Tp) (a b:Nat):(t.adv a).adv b=t.adv (a+b):=by simp [Tp.adv,Nat.add_assoc]
theorem zbrh (t:Tp):t.adv 0=t:=by simp [Tp.adv]
theorem zi8m {t:Tp} {n:Int} (h:1≤n):tpS t n=t.adv 1:=by rw [tpS,if_neg (by omega)]
noncomputable def z1m3:List DV→List DV→Option (DV × List DV):=conT (fun a:Tp × Int=>a.1.at_<4294967296∧a.2≤4294967296) (fun a=>[.int .i64 a.2]) (fun a=>tpC a.1) (fun a=>(.int .i64 (tpN a.1 a.2),tpC (tpS a.1 a.2)))
theorem zs7j {t:Tp} {n:Int} (h1:t.at_<4294967296) (h2:n≤4294967296):z1m3 [.int .i64 n] (tpC t)=some (.int .i64 (tpN t n),tpC (tpS t n)) :=
  ztyo (A:=fun a:Tp × Int=>a.1.at_<4294967296∧a.2≤4294967296) (f:=fun a=>[.int .i64 a.2]) (s:=fun a=>tpC a.1) (by
    rintro ⟨a,n⟩ ⟨b,m⟩ e1 e2
    simp only [List.cons.injEq,DV.int.injEq,true_and,and_true] at e1
    rw [e1,z15z e2]) (t,n) ⟨h1,h2⟩
theorem z44h {t:Tp} {n:Int} (h1:t.at_<4294967296) (h2:n≤4294967296) (h3:1≤n):z1m3 [.int .i64 n] (tpC t)=some (.int .i64 (tpN t n),tpC (t.adv 1)):=by rw [zs7j h1 h2,zi8m h3]
theorem z51e:(Con.tch z1m3).Sound P 29 :=
  zqeo (fun a _=>⟨rfl,zs7w _,rfl,zs7w _⟩) fun a h=>zizi mix zr5o Tryz.func29 ztig (z1hg a.1 a.2 h.1 h.2) (Nat.le_refl _)
noncomputable def T150:Tbl:=addT 29 (.tch z1m3) tbl0
theorem zp0f:T150 29 = .tch z1m3:=by simp [T150]
theorem zt0z:T150.Sound P:=z0rp z51e zr5o
def zzh5 (t:Tp) (l:List (List UInt8)):List UInt8:=l.getD (tpN t l.length).toNat []
theorem zqrp (t:Tp) {l:List (List UInt8)} (h:l≠[]):zzh5 t l ∈ l:=by
  have h0:1≤l.length:=by cases l with|nil=>exact absurd rfl h|cons _ _=>simp
  have h1:=z4rs t l.length
  have h2:=z2s7 t (n:=l.length) (by omega)
  have h3:(tpN t l.length).toNat<l.length:=by omega
  rw [zzh5,List.getD_eq_getElem?_getD,List.getElem?_eq_getElem h3]
  exact List.getElem_mem h3
theorem z4zb (t:Tp) (l:List (List UInt8)) (ht:t.at_<4000000000) (h0:1≤l.length) (hl:l.length≤4294967296):RunsF T150 a57 [.mp 0 2 0,.sl true 1 l.length (l.map .str)] [.cells (tpC t)] (.str (zzh5 t l)) [.cells (tpC (t.adv 1))]:=by
  refine ⟨?_⟩
  have h1:=z4rs t l.length
  have h2:=z2s7 t (n:=l.length) (by omega)
  obtain ⟨N,hN⟩ : ∃ N:Nat,tpN t l.length=N:=⟨_,(Int.toNat_of_nonneg h1).symm⟩
  have h3:N<l.length:=by omega
  have e:zzh5 t l=l[N]:=by rw [zzh5,hN,Int.toNat_natCast,List.getD_eq_getElem?_getD,List.getElem?_eq_getElem h3]; rfl
  have hd:((l.map DV.str).drop N).take 1=[.str l[N]]:=by
    rw [← List.map_drop,List.drop_eq_getElem_cons h3]; rfl
  have hfz:fzL 1 [.cells (tpC (t.adv 1))] (tpC (t.adv 1)) (tpC (t.adv 1)):=znnb (zs7w _)
  simp (disch:=first|omega|(simp<;>omega)|fail) [-map_take,-map_drop,-map_set,-map_append,-drop_one,a57,zp0f,z44h,hN,h3,e,hd,hfz,zbao]
noncomputable def zqck:List DV→List DV→Option (DV × List DV):=conT (fun a:Tp × List (List UInt8)=>a.1.at_<4000000000∧1≤a.2.length∧a.2.length≤4294967296) (fun a=>[.sl true 1 a.2.length (a.2.map .str)]) (fun a=>tpC a.1) (fun a=>(.str (zzh5 a.1 a.2),tpC (a.1.adv 1)))
theorem zsi8 : ∀ {a b:List (List UInt8)},a.map DV.str=b.map DV.str→a=b
  | [],[],_=>rfl
  | [],y::b,h=>by simp at h
  | x::a,[],h=>by simp at h
  | x::a,y::b,h=>by
    simp only [List.map_cons,List.cons.injEq,DV.str.injEq] at h
    rw [h.1,zsi8 h.2]
theorem ze0z {t:Tp} {l:List (List UInt8)} (h:t.at_<4000000000) (h1:1≤l.length) (h2:l.length≤4294967296):zqck [.sl true 1 l.length (l.map .str)] (tpC t)=some (.str (zzh5 t l),tpC (t.adv 1)) :=
  ztyo (A:=fun a:Tp × List (List UInt8)=>a.1.at_<4000000000∧1≤a.2.length∧a.2.length≤4294967296) (f:=fun a=>[.sl true 1 a.2.length (a.2.map .str)]) (s:=fun a=>tpC a.1) (by
    rintro ⟨a,n⟩ ⟨b,m⟩ e1 e2
    simp only [List.cons.injEq,DV.sl.injEq,true_and,and_true] at e1
    rw [zsi8 e1.2,z15z e2]) (t,l) ⟨h,h1,h2⟩
theorem z3hj:(Con.tch zqck).Sound P 57 :=
  zqeo (fun a _=>⟨by simp [zbao,zyp8]; exact List.rec rfl (fun _ _ ih=>by simpa [zbao,zyp8] using ih) a.2,zs7w _,rfl,zs7w _⟩) fun a h=>zizi mix zt0z Tryz.func57 zfce (z4zb a.1 a.2 h.1 h.2.1 h.2.2) (Nat.le_refl _)
def dgW (b:BitVec 8):Dg:=⟨b::rep 31 0#8,by simp [rep]⟩
abbrev dgB (z:Int):Dg:=dgW (BitVec.ofInt 8 z)
theorem z7ni {b:BitVec 8}:zvnk (dgC dg0) [(0,1,w8 b)]=some (.agg (dgC (dgW b))):=rfl
def sumV (t:Tp):Dg:=dgB (1+tpN t 6)
theorem zizk (t:Tp) (ht:t.at_<4000000000):RunsF T150 a54 [.mp 0 2 0] [.cells (tpC t)] (.agg (dgC (sumV t))) [.cells (tpC (t.adv 1))]:=by
  refine ⟨?_⟩
  have h1:=z4rs t 6
  have h2:=z2s7 t (n:=6) (by omega)
  have hfz : ∀ k,fzL 1 k (tpC (t.adv 1)) (tpC (t.adv 1)):=fun k=>znnb (zs7w _)
  simp (disch:=first|omega|(simp<;>omega)|fail) [-map_take,-map_drop,-map_set,-map_append,-drop_one,a54,zp0f,z44h,hfz,z7ni,sumV,zojd (z3ot _)]
noncomputable def cSum:List DV→List DV→Option (DV × List DV):=conT (fun a:Tp=>a.at_<4000000000) (fun a=>[]) tpC (fun a=>(.agg (dgC (sumV a)),tpC (a.adv 1)))
theorem zliq {t:Tp} (h:t.at_<4000000000):cSum [] (tpC t)=some (.agg (dgC (sumV t)),tpC (t.adv 1)) :=
  ztyo (A:=fun a:Tp=>a.at_<4000000000) (f:=fun a=>[]) (s:=tpC) (fun a b _ e=>by rw [z15z e]) t h
theorem z8dz:(Con.tch cSum).Sound P 54 :=
  zqeo (fun a _=>⟨rfl,zs7w _,by simp [zyp8],zs7w _⟩) fun a h=>zizi mix zt0z Tryz.func54 zq4q (zizk a h) (Nat.le_refl _)
theorem z1mn (n k:Int) (h1:1≤k) (h2:k≤4294967296):Runs tbl0 a16 [.int .i64 n,.int .i64 k] (.int .i64 (n % k)):=by
  refine ⟨?_⟩
  obtain ⟨f1,f2⟩:=zhly n k h1 h2
  have h0:k≠0:=by omega
  simp (disch:=first|omega|(simp<;>omega)|fail) [-map_take,-map_drop,-map_set,-map_append,-drop_one,a16,h0,f1,f2,-Int.tmod_eq_emod_of_nonneg]
noncomputable def zqmv:List DV→Option DV
  | [.int .i64 n,.int .i64 k]=>if 1≤k∧k≤4294967296 then some (.int .i64 (n % k)) else none
  | _=>none
theorem zcb9 {n k:Int} (h1:1≤k) (h2:k≤4294967296):zqmv [.int .i64 n,.int .i64 k]=some (.int .i64 (n % k)):=if_pos ⟨h1,h2⟩
theorem zt30:(Con.pure zqmv).Sound P 16:=by
  intro args v e
  unfold zqmv at e
  split at e
  · obtain ⟨⟨h1,h2⟩,e⟩:=Option.ite_none_right_eq_some.1 e
    simp at e; subst e
    exact zljw mix zr5o Tryz.func16 zddi (z1mn _ _ h1 h2)
  · simp at e
structure Nl where
  k:Option Bool
  l:List Int
  h:k=none→l=[]
  b:l.length≤9223372036854775807
def Nl.dv (x:Nl):DV:=slD x.k 1 x.l.length (x.l.flatMap inI)
def tp0 (x:Nl) (n:Nat):Tp:=⟨x.k.map fun b=>b&&(min x.l.length n == x.l.length),x.l.take n,fun e=>by simp at e; rw [x.h e]; simp,0⟩
theorem z5n2 (x:Nl) (n:Nat):(tp0 x n).at_=0:=rfl
theorem zkx7 (x:Nl):zyp8 x.dv=true:=z5yb ⟨x.k,x.l,x.h,0⟩
theorem z2kw {a b:Nl} (h:a.dv=b.dv):a=b:=by
  obtain ⟨k,l,h1,p⟩:=a
  obtain ⟨k',l',h2,p'⟩:=b
  have:=z15z (a:=⟨k,l,h1,0⟩) (b:=⟨k',l',h2,0⟩) (by simp only [tpC,Tp.sl]; simp only [Nl.dv] at h; rw [h])
  simp only [Tp.mk.injEq,and_true] at this
  rw [Nl.mk.injEq]; exact this
theorem zkbj {t:Tp}:zvnk [.nils,.int .i64 0] [(0,1,t.sl)]=some (.agg [t.sl,.int .i64 0]):=by simp [zvnk,zi03,zk7y]
theorem zb09 (x:Nl) (n:Nat) (hn:n≤4294967296):RunsF tbl0 a24 [x.dv,.int .i64 n] [] (.mp 0 2 0) [.cells (tpC (tp0 x n))]:=by
  refine ⟨?_⟩
  have hb:=x.b
  have hl : ∀ H,lenD H x.dv=some (.int .i64 x.l.length):=fun H=>zjc6 (fun e=>by rw [x.h e]; rfl)
  have hm:min (x.l.length:Int) n=((min x.l.length n:Nat):Int):=by omega
  have hs : ∀ H,ziwb H 1 x.dv none (some (.int .i64 ((min x.l.length n:Nat):Int))) none=some (tp0 x n).sl:=fun H=>by
    obtain ⟨k,l,h,b⟩:=x
    cases k with
    | none =>
      cases h rfl
      simp only [Nl.dv,z6vl,tp0,Tp.sl,Option.map_none,List.length_nil,Nat.zero_min]
      rw [zmk5 (p:=(0,0)) (by simp [zo77,iD])]
    | some b =>
      simp only [Nl.dv,zip4,tp0,Tp.sl,Option.map_some]
      rw [zygc (l:=0) (m:=min l.length n) (by simp [zo77,iD]; omega)]
      simp only [Nat.zero_mul,List.drop_zero,Nat.sub_zero,List.length_take,z10w zg97,Nat.min_comm n]
      congr 2
      rw [show List.take (min l.length n) l=List.take n l from by rw [Nat.min_comm,← List.take_take,List.take_of_length_le (Nat.le_refl l.length)]]
  have hat:=z5n2 x n
  have hfz : ∀ k,fzL 1 k (tpC (tp0 x n)) (tpC (tp0 x n)):=fun k=>znnb (zs7w _)
  have htp:tpC (tp0 x n)=[(tp0 x n).sl,.int .i64 0]:=rfl
  rw [htp] at hfz ⊢
  simp (disch:=first|omega|(simp<;>omega)|fail) [-map_take,-map_drop,-map_set,-map_append,-drop_one,a24,hl,hm,hs,hfz,zkbj]
noncomputable def zl5p:List DV→Nat→Option (DV × List AObj):=conN (fun a:Nl × Nat=>a.2≤4294967296) (fun a=>[a.1.dv,.int .i64 a.2]) (fun a=>(.mp 0 2 0,[.cells (tpC (tp0 a.1 a.2))]))
theorem zwy3 {x:Nl} {n:Nat} (h:n≤4294967296) (m:Nat):zl5p [x.dv,.int .i64 n] m=some (.mp m 2 0,[.cells (tpC (tp0 x n))]):=by
  have:=zqtp (A:=fun a:Nl × Nat=>a.2≤4294967296) (f:=fun a=>[a.1.dv,.int .i64 a.2]) (g:=fun a=>(.mp 0 2 0,[.cells (tpC (tp0 a.1 a.2))])) (fun a b e=>by
    simp only [List.cons.injEq,DV.int.injEq,true_and,and_true,Int.natCast_inj] at e
    rw [z2kw e.1,e.2]) (x,n) h m
  rw [zl5p,this]
  simp only [z6iw,List.map_cons,List.map_nil,z05k,zj45 _ _ (zs7w _),Nat.add_zero]
theorem ze95:(Con.new zl5p).Sound P 24 :=
  z3ld (fun a _=>by simp [zbao,zkx7,zyp8]) fun a h=>zizi mix zr5o Tryz.func24 zcoa (zb09 a.1 a.2 h) (by simp)
end Go.Proofs.YtdnhbfmlklaldaaGreat
