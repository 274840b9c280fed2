/-
  12 texts of mine in one.
-/
import Derived.WalkKit
import Derived.ProofKit
import Derived.OpenShut
import Derived.JoinedCond
import Derived.Carry
import Derived.Lib.Bytealg
import Derived.Test.YtjknipdiglpnlaaCcd3143aa
import Derived.Test.YtjknipdiglpnlaaCe656babf
set_option maxRecDepth 20000
set_option maxHeartbeats 4000000
open List renaming map_take → zA, map_drop → zB, map_set → zC, map_append → zD, drop_one → zE
open Bool renaming false_eq_true → y06, eq_iff_iff → y07, and_eq_true → y08, true_and → y1b, false_and → y1l, and_self → y1q
open Int renaming eq_ofNat_of_zero_le → y09, fdiv_eq_ediv_of_nonneg → y0c, toNat_natCast → y0i, ofNat_lt → y0v, ofNat_le → y0w, le_of_lt → y13, pow_pos → y17, sub_eq_add_neg → y18, natCast_ediv → y1g
open List renaming getElem?_eq_getElem → y02, getElem?_append_right → y03, getElem?_append_left → y04, eq_nil_of_length_eq_zero → y0a, getElem?_take → y0d, take_of_length_le → y0e, append_nil → y0g, getD_eq_getElem?_getD → y0h, length_append → y0m, getElem?_set_self → y0o, length_cons → y0p, getElem?_set_ne → y0q, getElem?_mapIdx → y0r, replicate_succ → y0s, getElem?_eq_some_iff → y0u, map_inj_right → y0x, set_eq_take_append_cons_drop → y0y, getElem_cons_zero → y10, map_take → y11, map_drop → y12, map_append → y15, mem_iff_getElem → y16, map_cons → y1c, flatten_cons → y1d, drop_eq_getElem_cons → y1e, map_set → y1h, length_map → y1k, drop_zero → y1m, take_append_drop → y1n, all_cons → y1p, all_nil → y1r
open Nat renaming min_eq_left → y0b, min_eq_right → y0j, mul_mod_left → y0k, div_eq_of_lt → y0l, eq_zero_or_pos → y0n, shiftRight_eq_div_pow → y0t, add_mul → y0z, pow_le_pow_right → y14, mul_right_comm → y19, lt_of_lt_of_le → y1a, shiftLeft_eq → y1f, zero_add → y1i, add_sub_cancel_left → y1j, mul_assoc → y1o, pow_add → y1s, mul_one → y1t, mul_pos → y1u, le_refl → y1v
open Option renaming map_eq_some_iff → y00, bind_eq_some_iff → y01, bind_some → y05, map_some → y0f
set_option linter.unusedSimpArgs false
set_option linter.unusedVariables false
namespace Go.Am
open Go.RowKit
inductive Con where
  | none
  | pure (c:List DV→Option DV)
  | heap (c:List DV→List AObj→Option (DV × List AObj))
  | new (c:List DV→Nat→Option (DV × List AObj))
  | tch (c:List DV→List DV→Option (DV × List DV))
  | seq (ok:Int→Bool) (s:IntKind→Int→Option (List Int))
abbrev Tbl:=Nat→Con
def Con.Sound (P:Program) (g:FuncId):Con→Prop
  | .none=>True
  | .pure c => ∀ args v,c args=some v→Am.Sem P g args v
  | .heap c => ∀ args h v h',c args h=some (v,h')→zwy1 P g args h (fun d k=>d=v∧k=h')
  | .new c => ∀ args (h:List AObj) v k,c args h.length=some (v,k)→zwy1 P g args h (fun d h'=>d=v∧h'=h++k)
  | .tch c => ∀ id r (h:List AObj) l v l',ziu0 h id=some l→c r l=some (v,l')→zwy1 P g (.mp id l.length 0::r) h (fun d h'=>d=v∧h'=h.set id (.cells l'))
  | .seq ok s => ∀ k n l,s k n=some l → ∃ xs:List { x:Int // ok x=true },xs.map (·.1)=l∧z6za P g k n (fun x:{ x:Int // ok x=true } => .int .i64 x.1) xs
def Tbl.Sound (P:Program) (T:Tbl):Prop := ∀ g,(T g).Sound P g
def tbl0:Tbl:=fun _ => .none
def addT (g:Nat) (c:Con) (T:Tbl):Tbl:=fun g'=>if g'=g then c else T g'
theorem zr5o {P:Program}:Tbl.Sound P tbl0:=fun _=>trivial
theorem z0rp {P:Program} {g:Nat} {c:Con} {T:Tbl} (hc:c.Sound P g) (hT:T.Sound P):(addT g c T).Sound P:=by
  intro g'
  by_cases e:g'=g
  · subst e; simp only [addT,if_true]; exact hc
  · simp only [addT,if_neg e]; exact hT g'
theorem zqkn {g:Nat} {c:Con} {T:Tbl}:addT g c T g=c:=by simp [addT]
theorem zulu {g g':Nat} {c:Con} {T:Tbl} (h:g'≠g):addT g c T g'=T g':=by simp [addT,h]
def zyo0 (c:List DV→Option DV) (args:List DV) (h:List AObj):Option DV :=
  if zbao args=true then c args else (z4tt h 3 args).bind fun a=>(c a).bind fun v=>if scal v=true then some v else none
theorem z3ta {P:Program} {g:FuncId} {c:List DV→Option DV} (hc : ∀ args v,c args=some v→Am.Sem P g args v) {args:List DV} {h:List AObj} {v:DV} (hv:zyo0 c args h=some v):zmwk P g args h v:=by
  unfold zyo0 at hv
  split at hv
  · rename_i hp
    exact .inl ⟨hp,hc _ _ hv⟩
  · simp only [y01] at hv
    obtain ⟨a,ha,v',hv',hs⟩:=hv
    split at hs
    · rename_i hs'
      simp at hs; subst hs
      exact .inr ⟨hs',a,ha,hc _ _ hv'⟩
    · simp at hs
def tchD (c:List DV→List DV→Option (DV × List DV)) (args:List DV) (h:List AObj):Option (DV × List AObj) :=
  match args with
  | .mp id ver off::r=>(ziu0 h id).bind fun l=>if l.length=ver∧off=0 then (c r l).map fun p=>(p.1,h.set id (.cells p.2)) else none
  | _=>none
def zc3b (c:Con) (draw:Bool) (args:List DV) (h:List AObj):Option (DV × List AObj) :=
  match c with
  | .pure c=>(zyo0 c args h).map fun v=>(v,h)
  | .heap c=>if draw=true then none else c args h
  | .new c=>if draw=true then none else (c args h.length).map fun p=>(p.1,h++p.2)
  | .tch c=>if draw=true then none else tchD c args h
  | .none=>none
  | .seq .. => none
def zovc (c:Con) (args:List DV) (h:List AObj):Option (DV × List AObj) :=
  match c with
  | .pure c=>(zyo0 c args h).map fun v=>(v,h)
  | .new c=>(c args h.length).map fun p=>(p.1,h++p.2)
  | _=>none
def zl07 (T:Tbl) (f:DV) (args:List DV) (h:List AObj):Option (DV × List AObj) :=
  match f with
  | .fn (.func g) a b=>zovc (T g) (a++args++b) h
  | _=>none
def z2rx (c:Con) (args:List DV) (h:List AObj):Option (DV × List AObj) :=
  match c with
  | .pure c=>(zyo0 c args h).map fun v=>(v,h)
  | .tch c=>tchD c args h
  | _=>none
def zss6 (T:Tbl) (f:DV) (args:List DV) (h:List AObj):Option (DV × List AObj) :=
  match f with
  | .fn (.func g) a b=>z2rx (T g) (a++args++b) h
  | _=>none
theorem zq7l {P:Program} {g:FuncId} {c:List DV→List DV→Option (DV × List DV)} (hc:(Con.tch c).Sound P g) {args:List DV} {h h':List AObj} {v:DV} (e:tchD c args h=some (v,h')) :
    ∃ id r l l',args = .mp id l.length 0::r∧ziu0 h id=some l∧h'=h.set id (.cells l') ∧ ∀ k,ziu0 k id=some l→zwy1 P g args k (fun d k'=>d=v∧k'=k.set id (.cells l')):=by
  unfold tchD at e
  split at e
  · rename_i id ver off r
    obtain ⟨l,hl,e2⟩:=y01.1 e
    obtain ⟨hq,e3⟩:=Option.ite_none_right_eq_some.1 e2
    · obtain ⟨rfl,rfl⟩:=hq
      obtain ⟨⟨v',l'⟩,h1,h2⟩:=y00.1 e3
      simp at h2
      obtain ⟨rfl,rfl⟩:=h2
      exact ⟨id,r,l,l',rfl,hl,rfl,fun k hk=>hc id r k l _ _ hk h1⟩
  · simp at e
def z46a (T:Tbl) (draw:Bool) (f:DV) (args:List DV) (h:List AObj):Option (DV × List AObj) :=
  match f with
  | .fn (.func g) a b=>zc3b (T g) draw (a++args++b) h
  | _=>none
def zn3j (T:Tbl) (draw:Bool) (op:AOp) (t:List DV) (h:List AObj):Option (DV × List AObj) :=
  match op with
  | .call f args=>z46a T draw (ev t f) (args.map (ev t)) h
  | .callN f args=>if draw=true then zl07 T (ev t f) (args.map (ev t)) h else none
  | .callT f args=>if draw=true then zss6 T (ev t f) (args.map (ev t)) h else none
  | op=>evOp op t h
def dops (T:Tbl) (draw:Bool):List AOper→List DV→List AObj→(St→Prop)→Prop
  | [],t,h,Φ=>Φ ⟨t,h⟩
  | o::r,t,h,Φ=>zo4i t o.g
      (match zn3j T draw o.op t h with
       | some (d,h')=>dops T draw r (putT t o.d d) h' Φ
       | none=>False)
      (dops T draw r (putT t o.d (.tup [])) h Φ)
def dwp (T:Tbl) (n0:Nat):ACode→(AExit→St→Prop)→St→Prop
  | .skip,Φ,st=>Φ .normal st
  | .region draw ops,Φ,st=>dops T draw ops st.t st.h (Φ .normal)
  | .seq a b,Φ,st=>dwp T n0 a (fun e st=>match e with | .normal=>dwp T n0 b Φ st|e=>Φ e st) st
  | .cond c x y,Φ,st=>match ev st.t c with
    | .bool b=>(b=true→dwp T n0 x Φ st)∧(b=false→dwp T n0 y Φ st)
    | _=>False
  | .block id c,Φ,st=>dwp T n0 c (fun e st=>match e with | .exit i=>if i=id then Φ .normal st else Φ (.exit i) st|e=>Φ e st) st
  | .loop c,Φ,st => ∃ (I:Nat→St→Prop) (n:Nat) (st0:St),Weak n0 st st0∧I n st0 ∧
      ∀ n st,I n st→dwp T n0 c (fun e st'=>match e with | .normal => ∃ n' st'',Weak n0 st' st''∧n'<n∧I n' st''|e=>Φ e st') st
  | .exit id,Φ,st=>Φ (.exit id) st
  | .ret,Φ,st=>Φ .ret st
  | .rangeF f p d c,Φ,st=>(zh9w c=true∧p<st.t.length) ∧ ∃ (g id:Nat) (ok:Int→Bool) (s:IntKind→Int→Option (List Int)) (k:IntKind) (n:Int) (l:List Int) (I:List Int→List AObj→Prop),ev st.t f = .fn (.func g) [] [.mp id 1 0]∧T g = .seq ok s∧s k n=some l ∧
      (∀ pre h,I pre h→ziu0 h id=some [.int k n])∧I [] st.h ∧
      (∀ pre x h,ok x=true→pre.length<l.length→I pre h→dwp T n0 c (fun e st'=>match e with | .normal=>I (pre++[x]) st'.h|_=>False) ⟨(st.t.set p (.int .i64 x)).set d (.int .i64 x),h⟩) ∧
      (∀ h,I l h→Φ .normal ⟨st.t,h⟩)
theorem zyk6 {t:List DV} {g:Option (Nat × Bool)} {a b a' b':Prop} (h:zo4i t g a b) (ha:a→a') (hb:b→b'):zo4i t g a' b':=by
  unfold zo4i at h ⊢
  split at h
  · exact ha h
  · split at h
    · exact ⟨fun e=>ha (h.1 e),fun e=>hb (h.2 e)⟩
    · exact hb h
    · exact h.elim
theorem zafz {P:Program} {T:Tbl} (hT:T.Sound P) : ∀ (l:List AOper) (t:List DV) (h:List AObj) (Φ Ψ:St→Prop),(∀ st,Φ st→Ψ st)→dops T false l t h Φ→zysb P l ⟨t,h⟩ Ψ
  | [],t,h,Φ,Ψ,hm,hd=>hm _ hd
  | ⟨g,d,op⟩::r,t,h,Φ,Ψ,hm,hd=>by
    simp only [dops] at hd
    simp only [zysb]
    refine zyk6 hd (fun hd => ?_) (fun hd=>zafz hT r _ _ Φ Ψ hm hd)
    cases op with
    | call f args =>
      simp only [zn3j,z46a] at hd ⊢
      split at hd<;>try exact hd.elim
      rename_i v h' hv
      split at hv<;>try (simp at hv; done)
      rename_i g' a b he
      have hs:=hT g'
      simp only [he]
      unfold zc3b at hv
      split at hv
      · rename_i c hc
        rw [hc] at hs
        simp only [y00] at hv
        obtain ⟨v',hv',hv⟩:=hv
        simp at hv
        obtain ⟨rfl,rfl⟩:=hv
        exact zh23 (z3ta hs hv') (zafz hT r _ _ Φ Ψ hm hd)
      · rename_i c hc
        rw [hc] at hs
        simp only [y06,if_false] at hv
        refine (hs _ _ _ _ hv).mono fun d k hdk => ?_
        obtain ⟨rfl,rfl⟩:=hdk
        exact zafz hT r _ _ Φ Ψ hm hd
      · rename_i c hc
        rw [hc] at hs
        simp only [y06,if_false,y00] at hv
        obtain ⟨⟨v',k'⟩,hv',hv⟩:=hv
        simp at hv
        obtain ⟨rfl,rfl⟩:=hv
        refine (hs _ _ _ _ hv').mono fun d k hdk => ?_
        obtain ⟨rfl,rfl⟩:=hdk
        exact zafz hT r _ _ Φ Ψ hm hd
      · rename_i c hc
        rw [hc] at hs
        simp only [y06,if_false] at hv
        obtain ⟨_,_,_,_,_,q1,q2,q3⟩:=zq7l hs hv
        refine (q3 _ q1).mono fun d k hdk => ?_
        rw [← q2] at hdk
        obtain ⟨rfl,rfl⟩:=hdk
        exact zafz hT r _ _ Φ Ψ hm hd
      · simp at hv
      · simp at hv
    | callN f args =>
      simp only [zn3j,y06,if_false] at hd
    | callT f args =>
      simp only [zn3j,y06,if_false] at hd
    | _ =>
      simp only [zn3j] at hd
      simp only
      split at hd
      · rename_i hv
        rw [hv]
        exact zafz hT r _ _ Φ Ψ hm hd
      · exact hd.elim
theorem zkzd {P:Program} {T:Tbl} (hT:T.Sound P) : ∀ (l:List AOper) (t:List DV) (h:List AObj) (Φ Ψ:St→Prop),(∀ st,Φ st→Ψ st)→dops T true l t h Φ→zetq P l ⟨t,h⟩ Ψ
  | [],t,h,Φ,Ψ,hm,hd=>hm _ hd
  | ⟨g,d,op⟩::r,t,h,Φ,Ψ,hm,hd=>by
    simp only [dops] at hd
    simp only [zetq]
    refine zyk6 hd (fun hd => ?_) (fun hd=>zkzd hT r _ _ Φ Ψ hm hd)
    cases op with
    | call f args =>
      simp only [zn3j,z46a] at hd ⊢
      split at hd<;>try exact hd.elim
      rename_i v h' hv
      split at hv<;>try (simp at hv; done)
      rename_i g' a b he
      have hs:=hT g'
      simp only [he]
      unfold zc3b at hv
      split at hv
      · rename_i c hc
        rw [hc] at hs
        simp only [y00] at hv
        obtain ⟨v',hv',hv⟩:=hv
        simp at hv
        obtain ⟨rfl,rfl⟩:=hv
        exact ⟨_,z3ta hs hv',zkzd hT r _ _ Φ Ψ hm hd⟩
      · simp at hv
      · simp at hv
      · simp at hv
      · simp at hv
      · simp at hv
    | callN f args =>
      simp only [zn3j,zl07,if_true] at hd ⊢
      split at hd<;>try exact hd.elim
      rename_i v h' hv
      split at hv<;>try (simp at hv; done)
      rename_i g' a b he
      have hs:=hT g'
      simp only [he]
      unfold zovc at hv
      split at hv
      · rename_i c hc
        rw [hc] at hs
        simp only [y00] at hv
        obtain ⟨v',hv',hv⟩:=hv
        simp at hv
        obtain ⟨rfl,rfl⟩:=hv
        exact ⟨_,_,.inl ⟨z3ta hs hv',rfl⟩,zkzd hT r _ _ Φ Ψ hm hd⟩
      · rename_i c hc
        rw [hc] at hs
        simp only [y00] at hv
        obtain ⟨⟨v',k'⟩,hv',hv⟩:=hv
        simp at hv
        obtain ⟨rfl,rfl⟩:=hv
        exact ⟨_,_,.inr ⟨hs _ _ _ _ hv',_,rfl⟩,zkzd hT r _ _ Φ Ψ hm hd⟩
      · simp at hv
    | callT f args =>
      simp only [zn3j,zss6,if_true] at hd ⊢
      split at hd<;>try exact hd.elim
      rename_i v h' hv
      split at hv<;>try (simp at hv; done)
      rename_i g' a b he
      have hs:=hT g'
      simp only [he]
      unfold z2rx at hv
      split at hv
      · rename_i c hc
        rw [hc] at hs
        simp only [y00] at hv
        obtain ⟨v',hv',hv⟩:=hv
        simp at hv
        obtain ⟨rfl,rfl⟩:=hv
        exact ⟨_,_,.inl ⟨z3ta hs hv',rfl⟩,zkzd hT r _ _ Φ Ψ hm hd⟩
      · rename_i c hc
        rw [hc] at hs
        exact ⟨_,_,.inr (zq7l hs hv),zkzd hT r _ _ Φ Ψ hm hd⟩
      · simp at hv
    | _ =>
      simp only [zn3j] at hd
      simp only
      split at hd
      · rename_i hv
        rw [hv]
        exact zkzd hT r _ _ Φ Ψ hm hd
      · exact hd.elim
theorem z7sh {P:Program} {T:Tbl} (hT:T.Sound P) {n0:Nat} : ∀ (c:ACode) (Φ Ψ:AExit→St→Prop) (st:St),(∀ e st,Φ e st→Ψ e st)→dwp T n0 c Φ st→awp P n0 c Ψ st
  | .skip,Φ,Ψ,st,hm,h=>hm _ _ h
  | .region draw ops,Φ,Ψ,st,hm,h=>by
    simp only [dwp] at h
    simp only [awp]
    cases draw with
    | true=>simp only [if_true]; exact zkzd hT ops _ _ _ _ (hm _) h
    | false=>simp only [y06,if_false]; exact zafz hT ops _ _ _ _ (hm _) h
  | .seq a b,Φ,Ψ,st,hm,h=>by
    simp only [dwp] at h
    simp only [awp]
    refine z7sh hT a _ _ st (fun e st h => ?_) h
    cases e with
    | normal=>exact z7sh hT b _ _ st hm h
    | exit i=>exact hm _ _ h
    | ret=>exact hm _ _ h
  | .cond c x y,Φ,Ψ,st,hm,h=>by
    simp only [dwp] at h
    simp only [awp]
    generalize ev st.t c=d at h ⊢
    cases d with
    | bool b=>exact ⟨fun e=>z7sh hT x _ _ st hm (h.1 e),fun e=>z7sh hT y _ _ st hm (h.2 e)⟩
    | _=>exact h.elim
  | .block id c,Φ,Ψ,st,hm,h=>by
    simp only [dwp] at h
    simp only [awp]
    refine z7sh hT c _ _ st (fun e st h => ?_) h
    cases e with
    | normal=>exact hm _ _ h
    | exit i =>
      simp only at h ⊢
      split
      · rename_i e; rw [if_pos e] at h; exact hm _ _ h
      · rename_i e; rw [if_neg e] at h; exact hm _ _ h
    | ret=>exact hm _ _ h
  | .loop c,Φ,Ψ,st,hm,h=>by
    simp only [dwp] at h
    simp only [awp]
    obtain ⟨I,n,st0,h1,h2,h3⟩:=h
    refine ⟨I,n,st0,h1,h2,fun n st hI=>z7sh hT c _ _ st (fun e st h => ?_) (h3 n st hI)⟩
    cases e with
    | normal=>exact h
    | exit i=>exact hm _ _ h
    | ret=>exact hm _ _ h
  | .exit id,Φ,Ψ,st,hm,h=>hm _ _ h
  | .ret,Φ,Ψ,st,hm,h=>hm _ _ h
  | .rangeF f p d c,Φ,Ψ,st,hm,h=>by
    simp only [dwp] at h
    simp only [awp]
    obtain ⟨h0,g,id,ok,s,k,n,l,I,h1,h2,h3,h4,h5,h6,h7⟩:=h
    have hs:=hT g
    rw [h2] at hs
    obtain ⟨xs,e1,e2⟩:=hs k n l h3
    subst e1
    refine ⟨h0,g,id,k,n,{ x:Int // ok x=true },_,xs,fun pre h=>I (pre.map (·.1)) h,h1,e2,fun pre h hI=>h4 _ h hI,h5,fun pre x h hl hI => ?_,fun h hI=>hm _ _ (h7 h hI)⟩
    refine z7sh hT c _ _ _ (fun e st hh => ?_) (h6 _ x.1 h x.2 (by simpa using hl) hI)
    cases e with
    | normal=>simpa using hh
    | exit i=>exact hh
    | ret=>exact hh
structure SO (T:Tbl) (draw:Bool) (l:List AOper) (t:List DV) (h:List AObj) (Φ:St→Prop):Prop where
  mk::(out:dops T draw l t h Φ)
structure W (T:Tbl) (n0:Nat) (c:ACode) (Φ:AExit→St→Prop) (st:St):Prop where
  mk::(out:dwp T n0 c Φ st)
theorem zuxm {T:Tbl} {draw:Bool} {l:List AOper} {t:List DV} {h:List AObj} {Φ:St→Prop}:SO T draw l t h Φ=dops T draw l t h Φ:=propext ⟨fun h=>h.out,fun h=>⟨h⟩⟩
theorem W_eq {T:Tbl} {n0:Nat} {c:ACode} {Φ:AExit→St→Prop} {st:St}:W T n0 c Φ st=dwp T n0 c Φ st:=propext ⟨fun h=>h.out,fun h=>⟨h⟩⟩
structure stepD (T:Tbl) (draw:Bool) (i:Option Nat) (r:List AOper) (t:List DV) (Φ:St→Prop) (o:Option (DV × List AObj)):Prop where
  mk::(out : ∃ v h',o=some (v,h')∧SO T draw r (putT t i v) h' Φ)
structure guardD (T:Tbl) (draw b:Bool) (i:Option Nat) (op:AOp) (r:List AOper) (t:List DV) (h:List AObj) (Φ:St→Prop) (d:DV):Prop where
  mk::(out:match d with
    | .bool c=>(c=b→SO T draw (⟨none,i,op⟩::r) t h Φ)∧(c = !b→SO T draw r (putT t i (.tup [])) h Φ)
    | .tup []=>SO T draw r (putT t i (.tup [])) h Φ
    | _=>False)
def zyga (Φ:AExit→St→Prop):St→Prop:=Φ .normal
def seqK (T:Tbl) (n0:Nat) (b:ACode) (Φ:AExit→St→Prop):AExit→St→Prop:=fun e st=>match e with | .normal=>W T n0 b Φ st|e=>Φ e st
def z0mx (id:Nat) (Φ:AExit→St→Prop):AExit→St→Prop:=fun e st=>match e with | .exit i=>if i=id then Φ .normal st else Φ (.exit i) st|e=>Φ e st
structure condD (T:Tbl) (n0:Nat) (x y:ACode) (Φ:AExit→St→Prop) (st:St) (d:DV):Prop where
  mk::(out:match d with
    | .bool b=>(b=true→W T n0 x Φ st)∧(b=false→W T n0 y Φ st)
    | _=>False)
section
variable {T:Tbl} {draw:Bool} {t:List DV} {h h':List AObj} {Φ:St→Prop} {Ψ:AExit→St→Prop} {r:List AOper} {i:Option Nat} {op:AOp} {n0:Nat} {st:St} {x y:ACode}
theorem z874:SO T draw [] t h Φ=Φ ⟨t,h⟩:=by rw [zuxm]; rfl
theorem zdsd:SO T draw (⟨none,i,op⟩::r) t h Φ=stepD T draw i r t Φ (zn3j T draw op t h):=by
  rw [zuxm]
  simp only [dops,zo4i]
  apply propext
  constructor
  · intro hh
    split at hh
    · rename_i d h' e; exact ⟨⟨d,h',e,⟨hh⟩⟩⟩
    · exact hh.elim
  · rintro ⟨⟨v,h',e,hh⟩⟩
    rw [e]; exact hh.out
theorem zovb {j:Nat} {b:Bool}:SO T draw (⟨some (j,b),i,op⟩::r) t h Φ=guardD T draw b i op r t h Φ (t.getD j .junk):=by
  rw [zuxm]
  simp only [dops]
  apply propext
  have e1:SO T draw (⟨none,i,op⟩::r) t h Φ=(match zn3j T draw op t h with
       | some (d,h')=>dops T draw r (putT t i d) h' Φ
       | none=>False):=by rw [zuxm]; simp only [dops,zo4i]
  simp only [zo4i]
  rw [← e1]
  generalize t.getD j .junk=d
  constructor
  · intro hh
    refine ⟨?_⟩
    simp only [← zuxm] at hh
    exact hh
  · rintro ⟨hh⟩
    simp only [← zuxm]
    exact hh
theorem zyz7 {v:DV}:stepD T draw i r t Φ (some (v,h))=SO T draw r (putT t i v) h Φ :=
  propext ⟨fun ⟨⟨_,_,e,hh⟩⟩=>by simp at e; obtain ⟨rfl,rfl⟩:=e; exact hh,fun hh=>⟨⟨_,_,rfl,hh⟩⟩⟩
theorem z6wr:stepD T draw i r t Φ none=False:=propext ⟨fun ⟨⟨_,_,e,_⟩⟩=>by simp at e,fun h=>h.elim⟩
theorem z4iv:guardD T draw true i op r t h Φ (.bool true)=SO T draw (⟨none,i,op⟩::r) t h Φ:=propext ⟨fun ⟨hh⟩=>hh.1 rfl,fun hh=>⟨⟨fun _=>hh,fun e=>by simp at e⟩⟩⟩
theorem zgu9:guardD T draw false i op r t h Φ (.bool false)=SO T draw (⟨none,i,op⟩::r) t h Φ:=propext ⟨fun ⟨hh⟩=>hh.1 rfl,fun hh=>⟨⟨fun _=>hh,fun e=>by simp at e⟩⟩⟩
theorem z2pi:guardD T draw true i op r t h Φ (.bool false)=SO T draw r (putT t i (.tup [])) h Φ:=propext ⟨fun ⟨hh⟩=>hh.2 rfl,fun hh=>⟨⟨fun e=>by simp at e,fun _=>hh⟩⟩⟩
theorem z1y5:guardD T draw false i op r t h Φ (.bool true)=SO T draw r (putT t i (.tup [])) h Φ:=propext ⟨fun ⟨hh⟩=>hh.2 rfl,fun hh=>⟨⟨fun e=>by simp at e,fun _=>hh⟩⟩⟩
theorem zhaw {b:Bool}:guardD T draw b i op r t h Φ (.tup [])=SO T draw r (putT t i (.tup [])) h Φ:=propext ⟨fun ⟨hh⟩=>hh,fun hh=>⟨hh⟩⟩
theorem zh4r:W T n0 .skip Ψ st=Ψ .normal st:=by rw [W_eq]; rfl
theorem zds7 {id:Nat}:W T n0 (.exit id) Ψ st=Ψ (.exit id) st:=by rw [W_eq]; rfl
theorem z5rv:W T n0 .ret Ψ st=Ψ .ret st:=by rw [W_eq]; rfl
theorem zhj2 {l:List AOper}:W T n0 (.region draw l) Ψ ⟨t,h⟩=SO T draw l t h (zyga Ψ):=by rw [W_eq,zuxm]; rfl
theorem zwuw:zyga Ψ st=Ψ .normal st:=rfl
theorem zyy1:(fun e st=>match e with | .normal=>dwp T n0 y Ψ st|e=>Ψ e st)=seqK T n0 y Ψ:=by
  funext e st
  cases e<;>simp [seqK,W_eq]
theorem zhzc:W T n0 (.seq x y) Ψ st=W T n0 x (seqK T n0 y Ψ) st:=by
  rw [W_eq,W_eq,dwp,zyy1]
theorem z7gg:seqK T n0 y Ψ .normal st=W T n0 y Ψ st:=rfl
theorem zi0h {id:Nat}:seqK T n0 y Ψ (.exit id) st=Ψ (.exit id) st:=rfl
theorem zm8v:seqK T n0 y Ψ .ret st=Ψ .ret st:=rfl
theorem zye3 {id:Nat}:W T n0 (.block id x) Ψ st=W T n0 x (z0mx id Ψ) st:=by
  rw [W_eq,W_eq,dwp]; rfl
theorem z76v {id:Nat}:z0mx id Ψ .normal st=Ψ .normal st:=rfl
theorem z233 {id:Nat}:z0mx id Ψ (.exit id) st=Ψ .normal st:=by simp [z0mx]
theorem zw73 {id k:Nat} (h:k≠id):z0mx id Ψ (.exit k) st=Ψ (.exit k) st:=by simp [z0mx,h]
theorem ze9b {id:Nat}:z0mx id Ψ .ret st=Ψ .ret st:=rfl
theorem zl7t {c:Opd}:W T n0 (.cond c x y) Ψ ⟨t,h⟩=condD T n0 x y Ψ ⟨t,h⟩ (ev t c):=by
  rw [W_eq,dwp]
  simp only [← W_eq]
  exact propext ⟨fun hh=>⟨hh⟩,fun ⟨hh⟩=>hh⟩
theorem zrq4:condD T n0 x y Ψ st (.bool true)=W T n0 x Ψ st:=propext ⟨fun ⟨hh⟩=>hh.1 rfl,fun hh=>⟨⟨fun _=>hh,fun e=>by simp at e⟩⟩⟩
theorem zta9:condD T n0 x y Ψ st (.bool false)=W T n0 y Ψ st:=propext ⟨fun ⟨hh⟩=>hh.2 rfl,fun hh=>⟨⟨fun e=>by simp at e,fun _=>hh⟩⟩⟩
def z13e {α:Type} (n0:Nat) (S:α→St) (m:α→Nat) (R:α→Prop) (a:α) (Ψ:AExit→St→Prop):AExit→St→Prop :=
  fun e st=>match e with | .normal => ∃ a',Weak n0 st (S a')∧m a'<m a∧R a'|e=>Ψ e st
theorem zrvt {α:Type} {S:α→St} {m:α→Nat} {R:α→Prop} {a:α}:z13e n0 S m R a Ψ .normal st = ∃ a',Weak n0 st (S a')∧m a'<m a∧R a':=rfl
theorem zv74 {α:Type} {S:α→St} {m:α→Nat} {R:α→Prop} {a:α} {id:Nat}:z13e n0 S m R a Ψ (.exit id) st=Ψ (.exit id) st:=rfl
theorem z91l {α:Type} {S:α→St} {m:α→Nat} {R:α→Prop} {a:α}:z13e n0 S m R a Ψ .ret st=Ψ .ret st:=rfl
theorem zlm5 {α:Type} (S:α→St) (m:α→Nat) (R:α→Prop) (a0:α) (h0:Weak n0 st (S a0)) (hR:R a0) (hs : ∀ a,R a→W T n0 x (z13e n0 S m R a Ψ) (S a)):W T n0 (.loop x) Ψ st:=by
  refine ⟨⟨fun n st => ∃ a,m a=n∧R a∧st=S a,m a0,S a0,h0,⟨a0,rfl,hR,rfl⟩,?_⟩⟩
  rintro _ _ ⟨a,rfl,ha,rfl⟩
  have:=(hs a ha).out
  have e:(fun e st'=>match e with | .normal => ∃ n' st'',Weak n0 st' st''∧n'<m a ∧ ∃ a,m a=n'∧R a∧st''=S a|e=>Ψ e st':AExit→St→Prop)=z13e n0 S m R a Ψ:=by
    funext e st'
    cases e with
    | normal =>
      refine propext ⟨?_,?_⟩
      · rintro ⟨n',st'',h1,h2,a',rfl,h3,rfl⟩; exact ⟨a',h1,h2,h3⟩
      · rintro ⟨a',h1,h2,h3⟩; exact ⟨_,_,h1,h2,a',rfl,h3,rfl⟩
    | exit i=>rfl
    | ret=>rfl
  rw [e]
  exact this
end
def outD (rs:List ARes) (t:List DV) (h:List AObj):Option DV:=(zxgc rs ⟨t,h⟩).bind (snap h 3)
structure retK (rs:List ARes) (r:DV) (e:AExit) (st:St):Prop where
  mk::(out:RetA rs (fun d h'=>snap h' 3 d=some r) e st)
theorem zfmt {rs:List ARes} {r:DV} {t:List DV} {h:List AObj}:retK rs r .ret ⟨t,h⟩=(outD rs t h=some r):=by
  refine propext ⟨fun ⟨d,h1,h2⟩=>by simp [outD,h1]; exact h2,fun hh=>⟨?_⟩⟩
  simp only [outD,y01] at hh
  exact hh
theorem zd5i {rs:List ARes} {r:DV} {t:List DV} {h:List AObj}:retK rs r .normal ⟨t,h⟩=(outD rs t h=some r):=by
  refine propext ⟨fun ⟨d,h1,h2⟩=>by simp [outD,h1]; exact h2,fun hh=>⟨?_⟩⟩
  simp only [outD,y01] at hh
  exact hh
structure retH (rs:List ARes) (v:DV) (k:List AObj) (e:AExit) (st:St):Prop where
  mk::(out:RetA rs (fun d h'=>d=v∧h'=k) e st)
theorem z4bp {rs:List ARes} {v:DV} {k:List AObj} {t:List DV} {h:List AObj}:retH rs v k .ret ⟨t,h⟩=(zxgc rs ⟨t,h⟩=some v∧h=k) :=
  propext ⟨fun ⟨d,h1,h2,h3⟩=>⟨h2▸h1,h3⟩,fun ⟨h1,h2⟩=>⟨⟨v,h1,rfl,h2⟩⟩⟩
theorem z4me {rs:List ARes} {v:DV} {k:List AObj} {t:List DV} {h:List AObj}:retH rs v k .normal ⟨t,h⟩=(zxgc rs ⟨t,h⟩=some v∧h=k) :=
  propext ⟨fun ⟨d,h1,h2,h3⟩=>⟨h2▸h1,h3⟩,fun ⟨h1,h2⟩=>⟨⟨v,h1,rfl,h2⟩⟩⟩
structure Runs (T:Tbl) (af:AFn) (args:List DV) (r:DV):Prop where
  mk::(out:W T 0 af.code (retK af.res r) ⟨zr5g af.ntmps args,[]⟩)
structure RunsH (T:Tbl) (af:AFn) (args:List DV) (h:List AObj) (v:DV) (k:List AObj):Prop where
  mk::(out:W T h.length af.code (retH af.res v k) ⟨zr5g af.ntmps args,h⟩)
theorem zljw {P:Program} (hmix:P.follows .mixedOrders=true) {T:Tbl} (hT:T.Sound P) {f:FuncId} {fn:Func} (hf:P.funcs[f]? = some fn) {af:AFn} (hc:zsjc P fn=some af) {args:List DV} {r:DV} (h:Runs T af args r):Am.Sem P f args r :=
  zqba hmix hf hc (z7sh hT _ _ _ _ (fun _ _ h=>h.out) h.out.out)
theorem zv22 {P:Program} (hmix:P.follows .mixedOrders=true) {T:Tbl} (hT:T.Sound P) {f:FuncId} {fn:Func} (hf:P.funcs[f]? = some fn) {af:AFn} (hc:zsjc P fn=some af) {args:List DV} {h:List AObj} {v:DV} {k:List AObj} (hr:RunsH T af args h v k):zwy1 P f args h (fun d k'=>d=v∧k'=k) :=
  zk97 hmix hf hc (z7sh hT _ _ _ _ (fun _ _ h=>h.out) hr.out.out)
theorem zwy1.drop {P:Program} {g:FuncId} {args:List DV} {h k:List AObj} {v:DV} (hc:zwy1 P g args h (fun d h'=>d=v ∧ ∃ tail,h'=k++tail)) (hn:h.length≤k.length) (hb:Am.below k.length v=true) (hbh:zlf2 k.length k=true) :
    zwy1 P g args h (fun d h'=>d=v∧h'=k):=by
  refine fun X0 base w E vs hh hr=>(hc X0 base w E vs hh hr).mono fun e w' ⟨u,r,h',E',e1,⟨er,tail,et⟩,e3,e4,e5⟩ => ?_
  subst er et
  have hsr:SR X0 base E w ⟨[r],k++tail⟩ { tmps := #[u],defers:=[] } w':=by
    refine ⟨E',e3,rfl,fun i => ?_,.nil,e5⟩
    cases i with
    | zero=>simpa using e4
    | succ i=>simpa using Rep.junk _
  have hlen:=hh.len
  obtain ⟨E'',g1,g2,g3,g4,g5⟩:=hsr.weak (st':=⟨[r],k⟩) (.inl ⟨by simp [znqe],.inr ⟨tail,rfl,by rw [hlen]; exact hn,by simp [belowL,hb],hbh⟩⟩)
  exact ⟨u,r,k,E'',e1,⟨rfl,rfl⟩,g1,by simpa using g3 0,g5⟩
theorem zwy1.freeze {P:Program} {g:FuncId} {args:List DV} {h k:List AObj} {v:DV} (hc:zwy1 P g args h (fun d h'=>k.length≤h'.length∧fz k.length h' 3 d=some v∧fzH k.length h' h' k)) (hn:h.length≤k.length) :
    zwy1 P g args h (fun d h'=>d=v∧h'=k):=by
  refine fun X0 base w E vs hh hr=>(hc X0 base w E vs hh hr).mono fun e w' ⟨u,r,h',E',e1,⟨q1,q2,q3⟩,e3,e4,e5⟩ => ?_
  have hsr:SR X0 base E w ⟨[r],h'⟩ { tmps := #[u],defers:=[] } w':=by
    refine ⟨E',e3,rfl,fun i => ?_,.nil,e5⟩
    cases i with
    | zero=>simpa using e4
    | succ i=>simpa using Rep.junk _
  obtain ⟨E'',g1,g2,g3,g4,g5⟩:=hsr.freeze (st':=⟨[v],k⟩) (by rw [hh.len]; exact hn) q1 (by simp [fzL,q2]) q3
  exact ⟨u,v,k,E'',e1,⟨rfl,rfl⟩,g1,by simpa using g3 0,g5⟩
structure retF (rs:List ARes) (v:DV) (k:List AObj) (e:AExit) (st:St):Prop where
  mk::(out:RetA rs (fun d h'=>k.length≤h'.length∧fz k.length h' 3 d=some v∧fzH k.length h' h' k) e st)
def outF (n:Nat) (rs:List ARes) (t:List DV) (h:List AObj):Option DV:=(zxgc rs ⟨t,h⟩).bind (fz n h 3)
theorem zuvb {rs:List ARes} {v:DV} {k:List AObj} {t:List DV} {h:List AObj}:retF rs v k .ret ⟨t,h⟩=(outF k.length rs t h=some v∧k.length≤h.length∧fzH k.length h h k):=by
  refine propext ⟨fun ⟨d,h1,h2,h3,h4⟩=>⟨by simp [outF,h1,h3],h2,h4⟩,fun ⟨h1,h2,h3⟩ => ?_⟩
  simp only [outF,y01] at h1
  obtain ⟨d,e1,e2⟩:=h1
  exact ⟨d,e1,h2,e2,h3⟩
theorem zvwr {rs:List ARes} {v:DV} {k:List AObj} {t:List DV} {h:List AObj}:retF rs v k .normal ⟨t,h⟩=(outF k.length rs t h=some v∧k.length≤h.length∧fzH k.length h h k):=by
  refine propext ⟨fun ⟨d,h1,h2,h3,h4⟩=>⟨by simp [outF,h1,h3],h2,h4⟩,fun ⟨h1,h2,h3⟩ => ?_⟩
  simp only [outF,y01] at h1
  obtain ⟨d,e1,e2⟩:=h1
  exact ⟨d,e1,h2,e2,h3⟩
structure RunsF (T:Tbl) (af:AFn) (args:List DV) (h:List AObj) (v:DV) (k:List AObj):Prop where
  mk::(out:W T h.length af.code (retF af.res v k) ⟨zr5g af.ntmps args,h⟩)
theorem zizi {P:Program} (hmix:P.follows .mixedOrders=true) {T:Tbl} (hT:T.Sound P) {f:FuncId} {fn:Func} (hf:P.funcs[f]? = some fn) {af:AFn} (hc:zsjc P fn=some af) {args:List DV} {h:List AObj} {v:DV} {k:List AObj} (hr:RunsF T af args h v k)
    (hn:h.length≤k.length):zwy1 P f args h (fun d k'=>d=v∧k'=k) :=
  (zk97 hmix hf hc (z7sh hT _ _ _ _ (fun _ _ h=>h.out) hr.out.out)).freeze hn
structure retG (rs:List ARes) (v:DV) (k:List AObj) (e:AExit) (st:St):Prop where
  mk::(out:RetA rs (fun d h'=>d=v ∧ ∃ tail,h'=k++tail) e st)
theorem zbb7 {rs:List ARes} {v:DV} {k:List AObj} {t:List DV} {h:List AObj}:retG rs v k .ret ⟨t,h⟩=(zxgc rs ⟨t,h⟩=some v ∧ ∃ tail,h=k++tail) :=
  propext ⟨fun ⟨d,h1,h2,h3⟩=>⟨h2▸h1,h3⟩,fun ⟨h1,h2⟩=>⟨⟨v,h1,rfl,h2⟩⟩⟩
theorem zo4s {rs:List ARes} {v:DV} {k:List AObj} {t:List DV} {h:List AObj}:retG rs v k .normal ⟨t,h⟩=(zxgc rs ⟨t,h⟩=some v ∧ ∃ tail,h=k++tail) :=
  propext ⟨fun ⟨d,h1,h2,h3⟩=>⟨h2▸h1,h3⟩,fun ⟨h1,h2⟩=>⟨⟨v,h1,rfl,h2⟩⟩⟩
structure RunsG (T:Tbl) (af:AFn) (args:List DV) (h:List AObj) (v:DV) (k:List AObj):Prop where
  mk::(out:W T h.length af.code (retG af.res v k) ⟨zr5g af.ntmps args,h⟩)
end Go.Am
set_option linter.unusedSimpArgs false
set_option linter.unusedVariables false
namespace Go.Am
open Go.RowKit
section
variable {T:Tbl} {dr:Bool} {t:List DV} {h:List AObj}
theorem z9ld {x:Opd}:zn3j T dr (.mov x) t h=some (ev t x,h):=zok2 (t:=t)
theorem z1dt {c a b:Opd}:zn3j T dr (.pick c a b) t h=pr (z6s4 (ev t c) (ev t a) (ev t b)) h:=z0uc (t:=t)
theorem zt7e {op:BinOp} {x y:Opd}:zn3j T dr (.bin op x y) t h=pr (zhl4 op (ev t x) (ev t y)) h:=ze45 (t:=t)
theorem zbua {neg:Bool} {ks:List (Nat × Nat)} {x y:Opd}:zn3j T dr (.eqa neg ks x y) t h=pr (eqaD neg (zi5g ks) (ev t x) (ev t y)) h:=zjky (t:=t)
theorem zubb {neg:Bool} {x y:Opd}:zn3j T dr (.eqb neg x y) t h=pr (eqbD neg (ev t x) (ev t y)) h:=zco1 (t:=t)
theorem zoy4 {kd:Nat} {neg:Bool} {x y:Opd}:zn3j T dr (.eqn kd neg x y) t h=pr (eqnD kd neg (zrfk h (ev t x)) (zrfk h (ev t y))) h:=zdsz (t:=t)
theorem E_un {op:UnOp} {x:Opd}:zn3j T dr (.un op x) t h=pr (unD op (ev t x)) h:=V_un (t:=t)
theorem z4th {k:IntKind} {x:Opd}:zn3j T dr (.conv k x) t h=pr (zeqi k (ev t x)) h:=z0zy (t:=t)
theorem ztrl {x:Opd}:zn3j T dr (.strid x) t h=pr (zkhl (ev t x)) h:=znr6 (t:=t)
theorem zfgj {x:Opd}:zn3j T dr (.csb x) t h=pr (csbD (ev t x)) h:=zz4k (t:=t)
theorem zwew {x:Opd}:zn3j T dr (.cbs x) t h=pr (cbsD (visS h (ev t x))) h:=z472 (t:=t)
theorem z1qz {n:Nat} {agg:Bool} {x:Opd}:zn3j T dr (.load n agg x) t h=pr (zu84 n agg (vis h (ev t x))) h:=zq2d (t:=t)
theorem zeb3 {n:Nat} {x y:Opd}:zn3j T dr (.store n x y) t h=z46r h n (ev t x) (ev t y):=ztl5 (t:=t)
theorem zgm3 {s:Nat} {x i:Opd}:zn3j T dr (.idxS s x i) t h=pr (z55m (iD (ev t i)) (zpsc h s (ev t x))) h:=z9rr (t:=t)
theorem zp3r {len s:Nat} {x i:Opd}:zn3j T dr (.idxA len s x i) t h=pr (z55m (iD (ev t i)) (zurm h len s (ev t x))) h:=zl5a (t:=t)
theorem zgpx {off:Nat} {x:Opd}:zn3j T dr (.fld off x) t h=pr (fldD h off (ev t x)) h:=zpqd (t:=t)
theorem zbdc {off n:Nat} {agg:Bool} {x:Opd}:zn3j T dr (.getf off n agg x) t h=pr (zhj0 off n agg (ev t x)) h:=zr6b (t:=t)
theorem zaxp {len n:Nat} {agg:Bool} {x i:Opd}:zn3j T dr (.idxV len n agg x i) t h=pr (z55m (iD (ev t i)) (zrlj len n agg (ev t x))) h:=z40w (t:=t)
theorem zpsz {x i:Opd}:zn3j T dr (.idxStr x i) t h=pr (z55m (iD (ev t i)) (zn60 (ev t x))) h:=zcup (t:=t)
theorem zt0h {s:Nat} {x:Opd} {lo hi mx:Option Opd}:zn3j T dr (.slcS s x lo hi mx) t h=pr (ziwb h s (ev t x) (opO t lo) (opO t hi) (opO t mx)) h:=zbjv (t:=t)
theorem z2y6 {len s:Nat} {x:Opd} {lo hi:Option Opd}:zn3j T dr (.slcA len s x lo hi) t h=pr (znv4 h len s (ev t x) (opO t lo) (opO t hi)) h:=zx4w (t:=t)
theorem zype {x:Opd} {lo hi:Option Opd}:zn3j T dr (.slcStr x lo hi) t h=pr (zadz (ev t x) (opO t lo) (opO t hi)) h:=zq3w (t:=t)
theorem zcg8 {zs:List DV}:zn3j T dr (.alloc zs) t h=some (.mp h.length zs.length 0,h++[.cells zs]):=zzm2 (t:=t)
theorem zqon {x:Opd}:zn3j T dr (.box x) t h=boxD h (ev t x):=z24c (t:=t)
theorem zfwo {zs:List DV} {ps:List (Nat × Nat × Opd)}:zn3j T dr (.build zs ps) t h=pr (zvnk zs (zoby t ps)) h:=zzrv (t:=t)
theorem z3or {s len:Nat} {zs:List DV} {ps:List (Nat × Nat × Opd)}:zn3j T dr (.bsl s len zs ps) t h=pr (bslD s len zs (zoby t ps)) h:=z3fs (t:=t)
theorem zgv8 {s b:Nat} {zs:List DV} {l c:Opd}:zn3j T dr (.mks s b zs l c) t h=z55m (iD (ev t l)) fun l=>z55m (iD (ev t c)) fun c=>mksD h s b zs l c:=zxzq (t:=t)
theorem zf10 {x:Opd}:zn3j T dr (.lenStr x) t h=pr (zl2t (ev t x)) h:=zwjc (t:=t)
theorem zzuy {x:Opd}:zn3j T dr (.len x) t h=pr (lenD h (ev t x)) h:=zyi4 (t:=t)
theorem zl22 {s b:Nat} {x y:Opd}:zn3j T dr (.app s b x y) t h=zqbw h s b (ev t x) (ev t y):=zqik (t:=t)
theorem z4dz {s:Nat} {x y:Opd}:zn3j T dr (.cpy s x y) t h=cpyD h s (ev t y).isStr (ev t x) (visY h (ev t y)):=zrd5 (t:=t)
theorem zwem {s:Nat} {zs:List DV} {x:Opd}:zn3j T dr (.clr s zs x) t h=clrD h s zs (ev t x):=zxa4 (t:=t)
theorem z68x {x y:Opd}:zn3j T dr (.apart x y) t h=if z87v (ev t x) (ev t y)=true then some (.junk,h) else none:=zg0y (t:=t)
theorem zeg7 {f:Fn} {a b:List Opd}:zn3j T dr (.mkf f a b) t h=some (.fn f (a.map (ev t)) (b.map (ev t)),h):=zwxt (t:=t)
theorem z2j0 {x:Opd}:zn3j T dr (.nilc x) t h=pr (zcxs h (ev t x)) h:=zovp (t:=t)
theorem zha7 {x:Opd} {i:Nat}:zn3j T dr (.ext x i) t h=pr (extD (ev t x) i) h:=zxhs (t:=t)
theorem zb4q {f:Opd} {args:List Opd}:zn3j T true (.callT f args) t h=zss6 T (ev t f) (args.map (ev t)) h:=rfl
theorem zgkq {f:Opd} {args:List Opd}:zn3j T true (.callN f args) t h=zl07 T (ev t f) (args.map (ev t)) h:=rfl
theorem z5ao {g:Nat} {a b args:List DV}:zss6 T (.fn (.func g) a b) args h=z2rx (T g) (a++args++b) h:=rfl
theorem zbd0 {g:Nat} {a b args:List DV}:zl07 T (.fn (.func g) a b) args h=zovc (T g) (a++args++b) h:=rfl
theorem zk5v {f:Opd} {args:List Opd}:zn3j T dr (.call f args) t h=z46a T dr (ev t f) (args.map (ev t)) h:=rfl
theorem zs8a {j:Nat} {b:Bool} {i:Option Nat} {op:AOp} {r:List AOper} {Φ:St→Prop}:SO T dr (⟨some (j,b),i,op⟩::r) t h Φ=guardD T dr b i op r t h Φ (getT t j):=zovb
theorem zxj6 {g:Nat} {a b args:List DV}:z46a T dr (.fn (.func g) a b) args h=zc3b (T g) dr (a++args++b) h:=rfl
end
theorem z1my {n:Nat} (x:BitVec n):BitVec.ofInt n (x.toNat:Int)=x:=by simp
def w8 (x:BitVec 8):DV := .int .u8 x.toNat
theorem zrzb (z:Int):IntKind.u8.wrap z=((BitVec.ofInt 8 z).toNat:Int):=by
  simp only [IntKind.wrap,IntKind.signed,IntKind.bits,BitVec.toNat_ofInt,y1l,y06,if_false]
  omega
theorem zd6r (x:BitVec 8):iD (w8 x)=some (x.toNat:Int):=rfl
theorem zgoy (x:BitVec 8):(w8 x).known=true:=rfl
theorem zavv (x:BitVec 8):(w8 x).one=true:=rfl
theorem zvu4 (x:BitVec 8):(w8 x).cells=[w8 x]:=rfl
theorem zjjm (x:BitVec 8):zyp8 (w8 x)=true:=rfl
theorem z5qq (x:BitVec 8):scal (w8 x)=true:=rfl
theorem zx5p (h:List AObj) (k:Nat) (x:BitVec 8):snap h k (w8 x)=some (w8 x):=by cases k<;>rfl
theorem z21y (x y:BitVec 8):(w8 x=w8 y)=(x=y):=by
  refine propext ⟨fun e => ?_,fun e=>by rw [e]⟩
  simp [w8] at e
  exact BitVec.eq_of_toNat_eq (by omega)
theorem zswk (x y:BitVec 8):((x.toNat:Int)=(y.toNat:Int))=(x=y):=propext ⟨fun e=>BitVec.eq_of_toNat_eq (by omega),fun e=>by rw [e]⟩
theorem zc0d (x y:BitVec 8):zhl4 .add (w8 x) (w8 y)=some (w8 (x+y)):=by
  simp only [zhl4,w8,zfzn,if_true,zrzb,BitVec.ofInt_add,z1my]
theorem zs34 (x y:BitVec 8):zhl4 .mul (w8 x) (w8 y)=some (w8 (x*y)):=by
  simp only [zhl4,w8,zfzn,if_true,zrzb,BitVec.ofInt_mul,z1my]
theorem zb5s (x y:BitVec 8):zhl4 .sub (w8 x) (w8 y)=some (w8 (x-y)):=by
  simp only [zhl4,w8,zfzn,if_true,zrzb,y18,BitVec.ofInt_add,BitVec.ofInt_neg,BitVec.sub_eq_add_neg,z1my]
theorem z2zy (x y:BitVec 8):zhl4 .and (w8 x) (w8 y)=some (w8 (x &&& y)):=by
  have e:bits .and .u8 (x.toNat:Int) (y.toNat:Int)=((x &&& y:BitVec 8).toNat:Int):=by
    show IntKind.u8.wrap ((BitVec.ofInt 8 x.toNat &&& BitVec.ofInt 8 y.toNat).toNat:Int)=_
    rw [zrzb,z1my,z1my,z1my]
  simp only [zhl4,w8,zfzn,if_true,e]
theorem zq41 (x y:BitVec 8):zhl4 .or (w8 x) (w8 y)=some (w8 (x ||| y)):=by
  have e:bits .or .u8 (x.toNat:Int) (y.toNat:Int)=((x ||| y:BitVec 8).toNat:Int):=by
    show IntKind.u8.wrap ((BitVec.ofInt 8 x.toNat ||| BitVec.ofInt 8 y.toNat).toNat:Int)=_
    rw [zrzb,z1my,z1my,z1my]
  simp only [zhl4,w8,zfzn,if_true,e]
theorem zaaf (x y:BitVec 8):zhl4 .xor (w8 x) (w8 y)=some (w8 (x ^^^ y)):=by
  have e:bits .xor .u8 (x.toNat:Int) (y.toNat:Int)=((x ^^^ y:BitVec 8).toNat:Int):=by
    show IntKind.u8.wrap ((BitVec.ofInt 8 x.toNat ^^^ BitVec.ofInt 8 y.toNat).toNat:Int)=_
    rw [zrzb,z1my,z1my,z1my]
  simp only [zhl4,w8,zfzn,if_true,e]
theorem zbsc (x y:BitVec 8):zhl4 .andNot (w8 x) (w8 y)=some (w8 (x &&& ~~~y)):=by
  have e:bits .andNot .u8 (x.toNat:Int) (y.toNat:Int)=((x &&& ~~~y:BitVec 8).toNat:Int):=by
    show IntKind.u8.wrap ((BitVec.ofInt 8 x.toNat &&& ~~~BitVec.ofInt 8 y.toNat).toNat:Int)=_
    rw [zrzb,z1my,z1my,z1my]
  simp only [zhl4,w8,zfzn,if_true,e]
theorem zif1 (x:BitVec 8):unD .xor (w8 x)=some (w8 (~~~x)):=by
  have e:bits .xor .u8 IntKind.u8.max (x.toNat:Int)=((~~~x:BitVec 8).toNat:Int):=by
    show IntKind.u8.wrap ((BitVec.ofInt 8 IntKind.u8.max ^^^ BitVec.ofInt 8 x.toNat).toNat:Int)=_
    rw [zrzb,z1my,z1my,show BitVec.ofInt 8 IntKind.u8.max=BitVec.allOnes 8 from by decide,BitVec.allOnes_xor]
  simp only [unD,w8,IntKind.signed,y06,if_false,e]
theorem zyzc (x y:BitVec 8):zhl4 .eql (w8 x) (w8 y)=some (.bool (x == y)):=by
  have e:((x.toNat:Int) == (y.toNat:Int))=(x == y):=by
    rw [y07]; simp [zswk]
  simp only [zhl4,w8,zfzn,if_true,e]
theorem zqwz (x y:BitVec 8):zhl4 .neq (w8 x) (w8 y)=some (.bool (x != y)):=by
  have e:((x.toNat:Int) != (y.toNat:Int))=(x != y):=by
    rw [y07]; simp [zswk]
  simp only [zhl4,w8,zfzn,if_true,e]
theorem z92b (x y:BitVec 8):zhl4 .lss (w8 x) (w8 y)=some (.bool (decide (x<y))):=by
  simp only [zhl4,w8,zfzn,if_true,BitVec.lt_def,y0v]
theorem zf03 (x y:BitVec 8):zhl4 .leq (w8 x) (w8 y)=some (.bool (decide (x≤y))):=by
  simp only [zhl4,w8,zfzn,if_true,BitVec.le_def,y0w]
theorem zktm (x y:BitVec 8):zhl4 .gtr (w8 x) (w8 y)=some (.bool (decide (y<x))):=by
  simp only [zhl4,w8,zfzn,if_true,BitVec.lt_def,GT.gt,y0v]
theorem zpnj (x y:BitVec 8):zhl4 .geq (w8 x) (w8 y)=some (.bool (decide (y≤x))):=by
  simp only [zhl4,w8,zfzn,if_true,BitVec.le_def,GE.ge,y0w]
theorem z9v8 (x:BitVec 8) (k:IntKind) (m:Nat):zhl4 .shl (w8 x) (.int k (m:Int))=some (w8 (x <<< m)):=by
  have e:IntKind.u8.wrap ((x.toNat:Int)*2 ^ min m 8)=((x <<< m).toNat:Int):=by
    rw [zrzb]
    congr 1
    rw [show ((x.toNat:Int)*2 ^ min m 8)=((x.toNat*2 ^ min m 8:Nat):Int) from by simp,BitVec.ofInt_natCast,BitVec.toNat_ofNat,BitVec.toNat_shiftLeft,y1f]
    by_cases hm:m≤8
    · rw [y0b hm]
    · rw [y0j (by omega)]
      obtain ⟨j,rfl⟩ : ∃ j,m=8+j:=⟨m-8,by omega⟩
      rw [y1s,← y1o,y19,y0k,y0k]
  simp only [zhl4,w8,zj0g,show ¬ ((m:Int)<0) from by omega,if_false,IntKind.bits,y0i,e]
theorem zmlv (x:BitVec 8) (k:IntKind) (m:Nat):zhl4 .shr (w8 x) (.int k (m:Int))=some (w8 (x >>> m)):=by
  have e:(x.toNat:Int).fdiv (2 ^ min m 8)=((x >>> m).toNat:Int):=by
    rw [y0c _ (by exact y13 (y17 (by decide))),show ((2:Int) ^ min m 8)=((2 ^ min m 8:Nat):Int) from by simp,← y1g]
    congr 1
    rw [BitVec.toNat_ushiftRight,y0t]
    by_cases hm:m≤8
    · rw [y0b hm]
    · rw [y0j (by omega),y0l x.isLt,y0l]
      exact y1a x.isLt (y14 (by decide) (by omega))
  simp only [zhl4,w8,zj0g,show ¬ ((m:Int)<0) from by omega,if_false,IntKind.bits,y0i,e]
theorem zgt7 (k:IntKind) (z:Int):zeqi .u8 (.int k z)=some (w8 (BitVec.ofInt 8 z)):=by simp only [zeqi,w8,zrzb]
theorem zz3s (x:BitVec 8):zeqi .i64 (w8 x)=some (.int .i64 (x.toNat:Int)):=by
  simp only [zeqi,w8,IntKind.wrap,IntKind.signed,IntKind.bits]
  have:=x.isLt
  simp only [y1b,decide_eq_true_eq,ge_iff_le]
  rw [show (x.toNat:Int) % 2 ^ 64=x.toNat from by omega,if_neg (by omega)]
def w32 (x:BitVec 32):DV := .int .u32 x.toNat
theorem zmcm (z:Int):IntKind.u32.wrap z=((BitVec.ofInt 32 z).toNat:Int):=by
  simp only [IntKind.wrap,IntKind.signed,IntKind.bits,BitVec.toNat_ofInt,y1l,y06,if_false]
  omega
theorem zyeo (x:BitVec 32):iD (w32 x)=some (x.toNat:Int):=rfl
theorem z2ux (x:BitVec 32):(w32 x).known=true:=rfl
theorem zgjz (x:BitVec 32):(w32 x).one=true:=rfl
theorem zyaa (x:BitVec 32):(w32 x).cells=[w32 x]:=rfl
theorem ziic (x:BitVec 32):zyp8 (w32 x)=true:=rfl
theorem z55c (x:BitVec 32):scal (w32 x)=true:=rfl
theorem z0wj (h:List AObj) (k:Nat) (x:BitVec 32):snap h k (w32 x)=some (w32 x):=by cases k<;>rfl
theorem z99g (x y:BitVec 32):(w32 x=w32 y)=(x=y):=by
  refine propext ⟨fun e => ?_,fun e=>by rw [e]⟩
  simp [w32] at e
  exact BitVec.eq_of_toNat_eq (by omega)
theorem zumn (x y:BitVec 32):((x.toNat:Int)=(y.toNat:Int))=(x=y):=propext ⟨fun e=>BitVec.eq_of_toNat_eq (by omega),fun e=>by rw [e]⟩
theorem ztgw (x y:BitVec 32):zhl4 .add (w32 x) (w32 y)=some (w32 (x+y)):=by
  simp only [zhl4,w32,zfzn,if_true,zmcm,BitVec.ofInt_add,z1my]
theorem zy90 (x y:BitVec 32):zhl4 .mul (w32 x) (w32 y)=some (w32 (x*y)):=by
  simp only [zhl4,w32,zfzn,if_true,zmcm,BitVec.ofInt_mul,z1my]
theorem z06f (x y:BitVec 32):zhl4 .sub (w32 x) (w32 y)=some (w32 (x-y)):=by
  simp only [zhl4,w32,zfzn,if_true,zmcm,y18,BitVec.ofInt_add,BitVec.ofInt_neg,BitVec.sub_eq_add_neg,z1my]
theorem zq6x (x y:BitVec 32):zhl4 .and (w32 x) (w32 y)=some (w32 (x &&& y)):=by
  have e:bits .and .u32 (x.toNat:Int) (y.toNat:Int)=((x &&& y:BitVec 32).toNat:Int):=by
    show IntKind.u32.wrap ((BitVec.ofInt 32 x.toNat &&& BitVec.ofInt 32 y.toNat).toNat:Int)=_
    rw [zmcm,z1my,z1my,z1my]
  simp only [zhl4,w32,zfzn,if_true,e]
theorem zl5v (x y:BitVec 32):zhl4 .or (w32 x) (w32 y)=some (w32 (x ||| y)):=by
  have e:bits .or .u32 (x.toNat:Int) (y.toNat:Int)=((x ||| y:BitVec 32).toNat:Int):=by
    show IntKind.u32.wrap ((BitVec.ofInt 32 x.toNat ||| BitVec.ofInt 32 y.toNat).toNat:Int)=_
    rw [zmcm,z1my,z1my,z1my]
  simp only [zhl4,w32,zfzn,if_true,e]
theorem z6lm (x y:BitVec 32):zhl4 .xor (w32 x) (w32 y)=some (w32 (x ^^^ y)):=by
  have e:bits .xor .u32 (x.toNat:Int) (y.toNat:Int)=((x ^^^ y:BitVec 32).toNat:Int):=by
    show IntKind.u32.wrap ((BitVec.ofInt 32 x.toNat ^^^ BitVec.ofInt 32 y.toNat).toNat:Int)=_
    rw [zmcm,z1my,z1my,z1my]
  simp only [zhl4,w32,zfzn,if_true,e]
theorem z8cl (x y:BitVec 32):zhl4 .andNot (w32 x) (w32 y)=some (w32 (x &&& ~~~y)):=by
  have e:bits .andNot .u32 (x.toNat:Int) (y.toNat:Int)=((x &&& ~~~y:BitVec 32).toNat:Int):=by
    show IntKind.u32.wrap ((BitVec.ofInt 32 x.toNat &&& ~~~BitVec.ofInt 32 y.toNat).toNat:Int)=_
    rw [zmcm,z1my,z1my,z1my]
  simp only [zhl4,w32,zfzn,if_true,e]
theorem zj3z (x:BitVec 32):unD .xor (w32 x)=some (w32 (~~~x)):=by
  have e:bits .xor .u32 IntKind.u32.max (x.toNat:Int)=((~~~x:BitVec 32).toNat:Int):=by
    show IntKind.u32.wrap ((BitVec.ofInt 32 IntKind.u32.max ^^^ BitVec.ofInt 32 x.toNat).toNat:Int)=_
    rw [zmcm,z1my,z1my,show BitVec.ofInt 32 IntKind.u32.max=BitVec.allOnes 32 from by decide,BitVec.allOnes_xor]
  simp only [unD,w32,IntKind.signed,y06,if_false,e]
theorem ztof (x y:BitVec 32):zhl4 .eql (w32 x) (w32 y)=some (.bool (x == y)):=by
  have e:((x.toNat:Int) == (y.toNat:Int))=(x == y):=by
    rw [y07]; simp [zumn]
  simp only [zhl4,w32,zfzn,if_true,e]
theorem zkqq (x y:BitVec 32):zhl4 .neq (w32 x) (w32 y)=some (.bool (x != y)):=by
  have e:((x.toNat:Int) != (y.toNat:Int))=(x != y):=by
    rw [y07]; simp [zumn]
  simp only [zhl4,w32,zfzn,if_true,e]
theorem z18v (x y:BitVec 32):zhl4 .lss (w32 x) (w32 y)=some (.bool (decide (x<y))):=by
  simp only [zhl4,w32,zfzn,if_true,BitVec.lt_def,y0v]
theorem z0ee (x y:BitVec 32):zhl4 .leq (w32 x) (w32 y)=some (.bool (decide (x≤y))):=by
  simp only [zhl4,w32,zfzn,if_true,BitVec.le_def,y0w]
theorem z2tp (x y:BitVec 32):zhl4 .gtr (w32 x) (w32 y)=some (.bool (decide (y<x))):=by
  simp only [zhl4,w32,zfzn,if_true,BitVec.lt_def,GT.gt,y0v]
theorem z8gy (x y:BitVec 32):zhl4 .geq (w32 x) (w32 y)=some (.bool (decide (y≤x))):=by
  simp only [zhl4,w32,zfzn,if_true,BitVec.le_def,GE.ge,y0w]
theorem zo25 (x:BitVec 32) (k:IntKind) (m:Nat):zhl4 .shl (w32 x) (.int k (m:Int))=some (w32 (x <<< m)):=by
  have e:IntKind.u32.wrap ((x.toNat:Int)*2 ^ min m 32)=((x <<< m).toNat:Int):=by
    rw [zmcm]
    congr 1
    rw [show ((x.toNat:Int)*2 ^ min m 32)=((x.toNat*2 ^ min m 32:Nat):Int) from by simp,BitVec.ofInt_natCast,BitVec.toNat_ofNat,BitVec.toNat_shiftLeft,y1f]
    by_cases hm:m≤32
    · rw [y0b hm]
    · rw [y0j (by omega)]
      obtain ⟨j,rfl⟩ : ∃ j,m=32+j:=⟨m-32,by omega⟩
      rw [y1s,← y1o,y19,y0k,y0k]
  simp only [zhl4,w32,zj0g,show ¬ ((m:Int)<0) from by omega,if_false,IntKind.bits,y0i,e]
theorem znny (x:BitVec 32) (k:IntKind) (m:Nat):zhl4 .shr (w32 x) (.int k (m:Int))=some (w32 (x >>> m)):=by
  have e:(x.toNat:Int).fdiv (2 ^ min m 32)=((x >>> m).toNat:Int):=by
    rw [y0c _ (by exact y13 (y17 (by decide))),show ((2:Int) ^ min m 32)=((2 ^ min m 32:Nat):Int) from by simp,← y1g]
    congr 1
    rw [BitVec.toNat_ushiftRight,y0t]
    by_cases hm:m≤32
    · rw [y0b hm]
    · rw [y0j (by omega),y0l x.isLt,y0l]
      exact y1a x.isLt (y14 (by decide) (by omega))
  simp only [zhl4,w32,zj0g,show ¬ ((m:Int)<0) from by omega,if_false,IntKind.bits,y0i,e]
theorem zw53 (k:IntKind) (z:Int):zeqi .u32 (.int k z)=some (w32 (BitVec.ofInt 32 z)):=by simp only [zeqi,w32,zmcm]
theorem zgq5 (x:BitVec 32):zeqi .i64 (w32 x)=some (.int .i64 (x.toNat:Int)):=by
  simp only [zeqi,w32,IntKind.wrap,IntKind.signed,IntKind.bits]
  have:=x.isLt
  simp only [y1b,decide_eq_true_eq,ge_iff_le]
  rw [show (x.toNat:Int) % 2 ^ 64=x.toNat from by omega,if_neg (by omega)]
def w64 (x:BitVec 64):DV := .int .u64 x.toNat
theorem zuw5 (z:Int):IntKind.u64.wrap z=((BitVec.ofInt 64 z).toNat:Int):=by
  simp only [IntKind.wrap,IntKind.signed,IntKind.bits,BitVec.toNat_ofInt,y1l,y06,if_false]
  omega
theorem zz6z (x:BitVec 64):iD (w64 x)=some (x.toNat:Int):=rfl
theorem zm94 (x:BitVec 64):(w64 x).known=true:=rfl
theorem zppj (x:BitVec 64):(w64 x).one=true:=rfl
theorem za57 (x:BitVec 64):(w64 x).cells=[w64 x]:=rfl
theorem zoqu (x:BitVec 64):zyp8 (w64 x)=true:=rfl
theorem zfla (x:BitVec 64):scal (w64 x)=true:=rfl
theorem zveu (h:List AObj) (k:Nat) (x:BitVec 64):snap h k (w64 x)=some (w64 x):=by cases k<;>rfl
theorem z1xg (x y:BitVec 64):(w64 x=w64 y)=(x=y):=by
  refine propext ⟨fun e => ?_,fun e=>by rw [e]⟩
  simp [w64] at e
  exact BitVec.eq_of_toNat_eq (by omega)
theorem zmi9 (x y:BitVec 64):((x.toNat:Int)=(y.toNat:Int))=(x=y):=propext ⟨fun e=>BitVec.eq_of_toNat_eq (by omega),fun e=>by rw [e]⟩
theorem zion (x y:BitVec 64):zhl4 .add (w64 x) (w64 y)=some (w64 (x+y)):=by
  simp only [zhl4,w64,zfzn,if_true,zuw5,BitVec.ofInt_add,z1my]
theorem z1ye (x y:BitVec 64):zhl4 .mul (w64 x) (w64 y)=some (w64 (x*y)):=by
  simp only [zhl4,w64,zfzn,if_true,zuw5,BitVec.ofInt_mul,z1my]
theorem zpr7 (x y:BitVec 64):zhl4 .sub (w64 x) (w64 y)=some (w64 (x-y)):=by
  simp only [zhl4,w64,zfzn,if_true,zuw5,y18,BitVec.ofInt_add,BitVec.ofInt_neg,BitVec.sub_eq_add_neg,z1my]
theorem znfb (x y:BitVec 64):zhl4 .and (w64 x) (w64 y)=some (w64 (x &&& y)):=by
  have e:bits .and .u64 (x.toNat:Int) (y.toNat:Int)=((x &&& y:BitVec 64).toNat:Int):=by
    show IntKind.u64.wrap ((BitVec.ofInt 64 x.toNat &&& BitVec.ofInt 64 y.toNat).toNat:Int)=_
    rw [zuw5,z1my,z1my,z1my]
  simp only [zhl4,w64,zfzn,if_true,e]
theorem z6ff (x y:BitVec 64):zhl4 .or (w64 x) (w64 y)=some (w64 (x ||| y)):=by
  have e:bits .or .u64 (x.toNat:Int) (y.toNat:Int)=((x ||| y:BitVec 64).toNat:Int):=by
    show IntKind.u64.wrap ((BitVec.ofInt 64 x.toNat ||| BitVec.ofInt 64 y.toNat).toNat:Int)=_
    rw [zuw5,z1my,z1my,z1my]
  simp only [zhl4,w64,zfzn,if_true,e]
theorem zc5c (x y:BitVec 64):zhl4 .xor (w64 x) (w64 y)=some (w64 (x ^^^ y)):=by
  have e:bits .xor .u64 (x.toNat:Int) (y.toNat:Int)=((x ^^^ y:BitVec 64).toNat:Int):=by
    show IntKind.u64.wrap ((BitVec.ofInt 64 x.toNat ^^^ BitVec.ofInt 64 y.toNat).toNat:Int)=_
    rw [zuw5,z1my,z1my,z1my]
  simp only [zhl4,w64,zfzn,if_true,e]
theorem zmct (x y:BitVec 64):zhl4 .andNot (w64 x) (w64 y)=some (w64 (x &&& ~~~y)):=by
  have e:bits .andNot .u64 (x.toNat:Int) (y.toNat:Int)=((x &&& ~~~y:BitVec 64).toNat:Int):=by
    show IntKind.u64.wrap ((BitVec.ofInt 64 x.toNat &&& ~~~BitVec.ofInt 64 y.toNat).toNat:Int)=_
    rw [zuw5,z1my,z1my,z1my]
  simp only [zhl4,w64,zfzn,if_true,e]
theorem zup2 (x:BitVec 64):unD .xor (w64 x)=some (w64 (~~~x)):=by
  have e:bits .xor .u64 IntKind.u64.max (x.toNat:Int)=((~~~x:BitVec 64).toNat:Int):=by
    show IntKind.u64.wrap ((BitVec.ofInt 64 IntKind.u64.max ^^^ BitVec.ofInt 64 x.toNat).toNat:Int)=_
    rw [zuw5,z1my,z1my,show BitVec.ofInt 64 IntKind.u64.max=BitVec.allOnes 64 from by decide,BitVec.allOnes_xor]
  simp only [unD,w64,IntKind.signed,y06,if_false,e]
theorem zqa2 (x y:BitVec 64):zhl4 .eql (w64 x) (w64 y)=some (.bool (x == y)):=by
  have e:((x.toNat:Int) == (y.toNat:Int))=(x == y):=by
    rw [y07]; simp [zmi9]
  simp only [zhl4,w64,zfzn,if_true,e]
theorem z3ne (x y:BitVec 64):zhl4 .neq (w64 x) (w64 y)=some (.bool (x != y)):=by
  have e:((x.toNat:Int) != (y.toNat:Int))=(x != y):=by
    rw [y07]; simp [zmi9]
  simp only [zhl4,w64,zfzn,if_true,e]
theorem z7xi (x y:BitVec 64):zhl4 .lss (w64 x) (w64 y)=some (.bool (decide (x<y))):=by
  simp only [zhl4,w64,zfzn,if_true,BitVec.lt_def,y0v]
theorem zaai (x y:BitVec 64):zhl4 .leq (w64 x) (w64 y)=some (.bool (decide (x≤y))):=by
  simp only [zhl4,w64,zfzn,if_true,BitVec.le_def,y0w]
theorem zgpg (x y:BitVec 64):zhl4 .gtr (w64 x) (w64 y)=some (.bool (decide (y<x))):=by
  simp only [zhl4,w64,zfzn,if_true,BitVec.lt_def,GT.gt,y0v]
theorem zxmx (x y:BitVec 64):zhl4 .geq (w64 x) (w64 y)=some (.bool (decide (y≤x))):=by
  simp only [zhl4,w64,zfzn,if_true,BitVec.le_def,GE.ge,y0w]
theorem zccn (x:BitVec 64) (k:IntKind) (m:Nat):zhl4 .shl (w64 x) (.int k (m:Int))=some (w64 (x <<< m)):=by
  have e:IntKind.u64.wrap ((x.toNat:Int)*2 ^ min m 64)=((x <<< m).toNat:Int):=by
    rw [zuw5]
    congr 1
    rw [show ((x.toNat:Int)*2 ^ min m 64)=((x.toNat*2 ^ min m 64:Nat):Int) from by simp,BitVec.ofInt_natCast,BitVec.toNat_ofNat,BitVec.toNat_shiftLeft,y1f]
    by_cases hm:m≤64
    · rw [y0b hm]
    · rw [y0j (by omega)]
      obtain ⟨j,rfl⟩ : ∃ j,m=64+j:=⟨m-64,by omega⟩
      rw [y1s,← y1o,y19,y0k,y0k]
  simp only [zhl4,w64,zj0g,show ¬ ((m:Int)<0) from by omega,if_false,IntKind.bits,y0i,e]
theorem z3sn (x:BitVec 64) (k:IntKind) (m:Nat):zhl4 .shr (w64 x) (.int k (m:Int))=some (w64 (x >>> m)):=by
  have e:(x.toNat:Int).fdiv (2 ^ min m 64)=((x >>> m).toNat:Int):=by
    rw [y0c _ (by exact y13 (y17 (by decide))),show ((2:Int) ^ min m 64)=((2 ^ min m 64:Nat):Int) from by simp,← y1g]
    congr 1
    rw [BitVec.toNat_ushiftRight,y0t]
    by_cases hm:m≤64
    · rw [y0b hm]
    · rw [y0j (by omega),y0l x.isLt,y0l]
      exact y1a x.isLt (y14 (by decide) (by omega))
  simp only [zhl4,w64,zj0g,show ¬ ((m:Int)<0) from by omega,if_false,IntKind.bits,y0i,e]
theorem zzsa (k:IntKind) (z:Int):zeqi .u64 (.int k z)=some (w64 (BitVec.ofInt 64 z)):=by simp only [zeqi,w64,zuw5]
theorem z5wb (x:BitVec 64):zeqi .i64 (w64 x)=some (.int .i64 (x.toInt:Int)):=by
  simp only [zeqi,w64,IntKind.wrap,IntKind.signed,IntKind.bits]
  have:=x.isLt
  simp only [y1b,decide_eq_true_eq,ge_iff_le,BitVec.toInt_eq_toNat_cond]
  rw [show (x.toNat:Int) % 2 ^ 64=x.toNat from by omega]
  congr 2
  split<;>split<;>omega
theorem zuqb (x:BitVec 8) (y:BitVec 8):zhl4 .shl (w8 x) (w8 y)=some (w8 (x <<< y.toNat)):=by rw [show w8 y = .int _ (y.toNat:Int) from rfl]; exact z9v8 _ _ _
theorem z0qb (x:BitVec 8) (y:BitVec 8):zhl4 .shr (w8 x) (w8 y)=some (w8 (x >>> y.toNat)):=by rw [show w8 y = .int _ (y.toNat:Int) from rfl]; exact zmlv _ _ _
theorem zjj9 (x:BitVec 8) (y:BitVec 32):zhl4 .shl (w8 x) (w32 y)=some (w8 (x <<< y.toNat)):=by rw [show w32 y = .int _ (y.toNat:Int) from rfl]; exact z9v8 _ _ _
theorem z4hp (x:BitVec 8) (y:BitVec 32):zhl4 .shr (w8 x) (w32 y)=some (w8 (x >>> y.toNat)):=by rw [show w32 y = .int _ (y.toNat:Int) from rfl]; exact zmlv _ _ _
theorem zege (x:BitVec 8) (y:BitVec 64):zhl4 .shl (w8 x) (w64 y)=some (w8 (x <<< y.toNat)):=by rw [show w64 y = .int _ (y.toNat:Int) from rfl]; exact z9v8 _ _ _
theorem zufz (x:BitVec 8) (y:BitVec 64):zhl4 .shr (w8 x) (w64 y)=some (w8 (x >>> y.toNat)):=by rw [show w64 y = .int _ (y.toNat:Int) from rfl]; exact zmlv _ _ _
theorem z5i7 (x:BitVec 32) (y:BitVec 8):zhl4 .shl (w32 x) (w8 y)=some (w32 (x <<< y.toNat)):=by rw [show w8 y = .int _ (y.toNat:Int) from rfl]; exact zo25 _ _ _
theorem zo1b (x:BitVec 32) (y:BitVec 8):zhl4 .shr (w32 x) (w8 y)=some (w32 (x >>> y.toNat)):=by rw [show w8 y = .int _ (y.toNat:Int) from rfl]; exact znny _ _ _
theorem zaf6 (x:BitVec 32) (y:BitVec 32):zhl4 .shl (w32 x) (w32 y)=some (w32 (x <<< y.toNat)):=by rw [show w32 y = .int _ (y.toNat:Int) from rfl]; exact zo25 _ _ _
theorem zt4b (x:BitVec 32) (y:BitVec 32):zhl4 .shr (w32 x) (w32 y)=some (w32 (x >>> y.toNat)):=by rw [show w32 y = .int _ (y.toNat:Int) from rfl]; exact znny _ _ _
theorem zchw (x:BitVec 32) (y:BitVec 64):zhl4 .shl (w32 x) (w64 y)=some (w32 (x <<< y.toNat)):=by rw [show w64 y = .int _ (y.toNat:Int) from rfl]; exact zo25 _ _ _
theorem zjn8 (x:BitVec 32) (y:BitVec 64):zhl4 .shr (w32 x) (w64 y)=some (w32 (x >>> y.toNat)):=by rw [show w64 y = .int _ (y.toNat:Int) from rfl]; exact znny _ _ _
theorem zp2t (x:BitVec 64) (y:BitVec 8):zhl4 .shl (w64 x) (w8 y)=some (w64 (x <<< y.toNat)):=by rw [show w8 y = .int _ (y.toNat:Int) from rfl]; exact zccn _ _ _
theorem zbnp (x:BitVec 64) (y:BitVec 8):zhl4 .shr (w64 x) (w8 y)=some (w64 (x >>> y.toNat)):=by rw [show w8 y = .int _ (y.toNat:Int) from rfl]; exact z3sn _ _ _
theorem zpck (x:BitVec 64) (y:BitVec 32):zhl4 .shl (w64 x) (w32 y)=some (w64 (x <<< y.toNat)):=by rw [show w32 y = .int _ (y.toNat:Int) from rfl]; exact zccn _ _ _
theorem z4a4 (x:BitVec 64) (y:BitVec 32):zhl4 .shr (w64 x) (w32 y)=some (w64 (x >>> y.toNat)):=by rw [show w32 y = .int _ (y.toNat:Int) from rfl]; exact z3sn _ _ _
theorem z5re (x:BitVec 64) (y:BitVec 64):zhl4 .shl (w64 x) (w64 y)=some (w64 (x <<< y.toNat)):=by rw [show w64 y = .int _ (y.toNat:Int) from rfl]; exact zccn _ _ _
theorem zhff (x:BitVec 64) (y:BitVec 64):zhl4 .shr (w64 x) (w64 y)=some (w64 (x >>> y.toNat)):=by rw [show w64 y = .int _ (y.toNat:Int) from rfl]; exact z3sn _ _ _
theorem zuyz (x:BitVec 8):zeqi .u8 (w8 x)=some (w8 (x.setWidth 8)):=by
  have e:IntKind.u8.wrap (x.toNat:Int)=((x.setWidth 8).toNat:Int):=by rw [zrzb,BitVec.ofInt_natCast,BitVec.toNat_ofNat,BitVec.toNat_setWidth]
  simp only [zeqi,w8,w8,e]
theorem zgcz (x:BitVec 8):zeqi .u32 (w8 x)=some (w32 (x.setWidth 32)):=by
  have e:IntKind.u32.wrap (x.toNat:Int)=((x.setWidth 32).toNat:Int):=by rw [zmcm,BitVec.ofInt_natCast,BitVec.toNat_ofNat,BitVec.toNat_setWidth]
  simp only [zeqi,w8,w32,e]
theorem ztdh (x:BitVec 8):zeqi .u64 (w8 x)=some (w64 (x.setWidth 64)):=by
  have e:IntKind.u64.wrap (x.toNat:Int)=((x.setWidth 64).toNat:Int):=by rw [zuw5,BitVec.ofInt_natCast,BitVec.toNat_ofNat,BitVec.toNat_setWidth]
  simp only [zeqi,w8,w64,e]
theorem zyle (x:BitVec 32):zeqi .u8 (w32 x)=some (w8 (x.setWidth 8)):=by
  have e:IntKind.u8.wrap (x.toNat:Int)=((x.setWidth 8).toNat:Int):=by rw [zrzb,BitVec.ofInt_natCast,BitVec.toNat_ofNat,BitVec.toNat_setWidth]
  simp only [zeqi,w32,w8,e]
theorem zyd4 (x:BitVec 32):zeqi .u32 (w32 x)=some (w32 (x.setWidth 32)):=by
  have e:IntKind.u32.wrap (x.toNat:Int)=((x.setWidth 32).toNat:Int):=by rw [zmcm,BitVec.ofInt_natCast,BitVec.toNat_ofNat,BitVec.toNat_setWidth]
  simp only [zeqi,w32,w32,e]
theorem zyh3 (x:BitVec 32):zeqi .u64 (w32 x)=some (w64 (x.setWidth 64)):=by
  have e:IntKind.u64.wrap (x.toNat:Int)=((x.setWidth 64).toNat:Int):=by rw [zuw5,BitVec.ofInt_natCast,BitVec.toNat_ofNat,BitVec.toNat_setWidth]
  simp only [zeqi,w32,w64,e]
theorem zmzp (x:BitVec 64):zeqi .u8 (w64 x)=some (w8 (x.setWidth 8)):=by
  have e:IntKind.u8.wrap (x.toNat:Int)=((x.setWidth 8).toNat:Int):=by rw [zrzb,BitVec.ofInt_natCast,BitVec.toNat_ofNat,BitVec.toNat_setWidth]
  simp only [zeqi,w64,w8,e]
theorem zz4b (x:BitVec 64):zeqi .u32 (w64 x)=some (w32 (x.setWidth 32)):=by
  have e:IntKind.u32.wrap (x.toNat:Int)=((x.setWidth 32).toNat:Int):=by rw [zmcm,BitVec.ofInt_natCast,BitVec.toNat_ofNat,BitVec.toNat_setWidth]
  simp only [zeqi,w64,w32,e]
theorem zmdv (x:BitVec 64):zeqi .u64 (w64 x)=some (w64 (x.setWidth 64)):=by
  have e:IntKind.u64.wrap (x.toNat:Int)=((x.setWidth 64).toNat:Int):=by rw [zuw5,BitVec.ofInt_natCast,BitVec.toNat_ofNat,BitVec.toNat_setWidth]
  simp only [zeqi,w64,w64,e]
attribute [simp] z652 zdt5 z874 zdsd zs8a zyz7 z6wr z4iv zgu9 z2pi z1y5 zhaw zh4r zds7 z5rv zhj2 zwuw zhzc z7gg zi0h zm8v zye3 z76v z233 zw73 ze9b zl7t zrq4 zta9 zrvt zv74 z91l zfmt zd5i z4bp z4me zbb7 zo4s
  zq42 z919 z9ld z1dt zt7e zbua zubb zoy4 E_un z4th ztrl zfgj zwew z1qz zeb3 zgm3 zp3r zgpx zbdc zaxp zpsz zt0h z2y6 zype zcg8 zqon zfwo z3or zgv8 zf10 zzuy z4dz zwem z68x zeg7 z2j0 zha7 zk5v zgkq zb4q zbd0 z5ao ev_t ev_k zraa z482 z4mr zlbp zou8 zxj6 z2dn zjoz z1zn ze6m z8ob zk6e ze9x z1yl zeq9
  zqkn zulu z5f7 zevw zgc6 znmb zftw zomx zgj5 zeuz zvz5 zuwa zpwg zt6q zkdt zdqp zlx1 zxdt z7es zaqr z59c zbff zbjf z84n zk0o z00r zl8a zu53 zx4v zr6h zoc0 zx7b zmn8
  zd6r zgoy zavv zvu4 zjjm z5qq zx5p z21y zif1 z9v8 zmlv zgt7 zz3s zc0d zs34 zb5s z2zy zq41 zaaf zbsc zyzc zqwz z92b zf03 zktm zpnj zuqb z0qb zuyz zjj9 z4hp zgcz zege zufz ztdh
  zyeo z2ux zgjz zyaa ziic z55c z0wj z99g zj3z zo25 znny zw53 zgq5 ztgw zy90 z06f zq6x zl5v z6lm z8cl ztof zkqq z18v z0ee z2tp z8gy z5i7 zo1b zyle zaf6 zt4b zyd4 zchw zjn8 zyh3
  zz6z zm94 zppj za57 zoqu zfla zveu z1xg zup2 zccn z3sn zzsa z5wb zion z1ye zpr7 znfb z6ff zc5c zmct zqa2 z3ne z7xi zaai zgpg zxmx zp2t zbnp zmzp zpck z4a4 zz4b z5re zhff zmdv
theorem zava {c:List DV→Option DV} {dr:Bool} {args:List DV} {h:List AObj}:zc3b (.pure c) dr args h=pr (zyo0 c args h) h:=rfl
theorem zzok {c:List DV→Option DV} {args:List DV} {h:List AObj}:zovc (.pure c) args h=pr (zyo0 c args h) h:=rfl
def zut9 (h:List AObj):Option (DV × List AObj)→Option (DV × List AObj)
  | some (v,k)=>some (v,h++k)
  | none=>none
theorem z4np {h k:List AObj} {v:DV}:zut9 h (some (v,k))=some (v,h++k):=rfl
theorem zqk6 {c:List DV→Nat→Option (DV × List AObj)} {args:List DV} {h:List AObj}:zovc (.new c) args h=zut9 h (c args h.length):=by
  simp only [zovc]; cases c args h.length<;>rfl
theorem z3q5 {c:List DV→Nat→Option (DV × List AObj)} {args:List DV} {h:List AObj}:zc3b (.new c) false args h=zut9 h (c args h.length):=by
  simp only [zc3b,y06,if_false]; cases c args h.length<;>rfl
theorem zywe {c:List DV→List AObj→Option (DV × List AObj)} {args:List DV} {h:List AObj}:zc3b (.heap c) false args h=c args h:=rfl
def touN (h:List AObj) (id:Nat) (o:Option (DV × List DV)):Option (DV × List AObj):=match o with|some (v,l)=>some (v,h.set id (.cells l))|none=>none
theorem zyev {h:List AObj} {id:Nat} {v:DV} {l:List DV}:touN h id (some (v,l))=some (v,h.set id (.cells l)):=rfl
theorem zfs4 {c:List DV→List DV→Option (DV × List DV)} {id ver:Nat} {r:List DV} {h:List AObj}:tchD c (.mp id ver 0::r) h=touN h id ((objV h id ver).bind fun l=>c r l):=by
  simp only [tchD,objV]
  cases ziu0 h id with
  | none=>rfl
  | some l =>
    simp only [y05,and_true]
    split
    · simp only [y05]; cases c r l<;>rfl
    · rfl
theorem zl2j {c:List DV→Option DV} {args:List DV} {h:List AObj}:z2rx (.pure c) args h=pr (zyo0 c args h) h:=rfl
theorem z6iv {c:List DV→List DV→Option (DV × List DV)} {args:List DV} {h:List AObj}:z2rx (.tch c) args h=tchD c args h:=rfl
theorem zdej {c:List DV→List DV→Option (DV × List DV)} {args:List DV} {h:List AObj}:zc3b (.tch c) false args h=tchD c args h:=rfl
attribute [simp] zyev zfs4 zl2j z6iv zdej
attribute [simp] zava zywe z3q5 zzok zqk6 z4np
open Classical in
noncomputable def con {α:Type} (A:α→Prop) (f:α→List DV) (g:α→DV) (args:List DV):Option DV :=
  if h : ∃ a,A a∧f a=args then some (g h.choose) else none
theorem zzno {α:Type} {A:α→Prop} {f:α→List DV} {g:α→DV} (hinj : ∀ a b,f a=f b→g a=g b) (a:α) (ha:A a):con A f g (f a)=some (g a):=by
  have h : ∃ b,A b∧f b=f a:=⟨a,ha,rfl⟩
  unfold con
  rw [dif_pos h]
  exact congrArg some (hinj _ _ h.choose_spec.2)
theorem z2au {P:Program} {k:FuncId} {α:Type} {A:α→Prop} {f:α→List DV} {g:α→DV} (hs : ∀ a,A a→Am.Sem P k (f a) (g a)):(Con.pure (con A f g)).Sound P k:=by
  intro args v hv
  unfold con at hv
  split at hv
  · rename_i h
    simp at hv; subst hv
    have:=hs _ h.choose_spec.1
    rwa [h.choose_spec.2] at this
  · simp at hv
end Go.Am
set_option linter.unusedSimpArgs false
set_option linter.unusedVariables false
namespace Go.Am
open Go.RowKit
theorem zncu (f:DV→Option DV) : ∀ (l:List DV),zoyo f l=zp5p (zcxt f) l
  | []=>rfl
  | d::r=>by simp only [zoyo,zp5p,zncu f r]
theorem z6nl {h:List AObj} {k:Nat} {d:DV} (hp:zyp8 d=true):snap h k d=some d:=by
  cases k<;>exact z9j8 _ d hp
theorem z619 {h:List AObj} {k:Nat} : ∀ {l:List DV},zbao l=true→z4tt h k l=some l
  | [],_=>rfl
  | d::r,hp=>by
    simp only [zbao,y08] at hp
    have:=z619 (h:=h) (k:=k) hp.2
    simp only [z4tt] at this
    simp only [z4tt,zp5p,z6nl hp.1,this,y05,y0f]
section
variable {h:List AObj} {k:Nat}
theorem zi72 {a:IntKind} {n:Int}:snap h k (.int a n)=some (.int a n):=z6nl rfl
theorem zmqw {b:Bool}:snap h k (.bool b)=some (.bool b):=z6nl rfl
theorem zpcv {s:List UInt8}:snap h k (.str s)=some (.str s):=z6nl rfl
theorem z7d7:snap h k .nils=some .nils:=z6nl rfl
theorem zlx7:snap h k .nilp=some .nilp:=z6nl rfl
theorem ze5j:snap h k .nilm=some .nilm:=z6nl rfl
theorem zml6:snap h k .nilf=some .nilf:=z6nl rfl
theorem zog7:snap h k .nili=some .nili:=z6nl rfl
theorem zqb3 {cs:List DV}:snap h k (.agg cs)=(z4tt h k cs).map .agg:=by cases k<;>simp only [snap,zcxt,zncu,z4tt]<;>rfl
theorem zkqt {cs:List DV}:snap h k (.tup cs)=(z4tt h k cs).map .tup:=by cases k<;>simp only [snap,zcxt,zncu,z4tt]<;>rfl
theorem zk8q {b:Bool} {s n:Nat} {cs:List DV}:snap h k (.sl b s n cs)=(z4tt h k cs).map (.sl b s n):=by cases k<;>simp only [snap,zcxt,zncu,z4tt]<;>rfl
theorem ztmt {cs:List DV}:snap h k (.ref cs)=(z4tt h k cs).map .ref:=by cases k<;>simp only [snap,zcxt,zncu,z4tt]<;>rfl
theorem zve7 {id ver off s n lim:Nat}:snap h (k+1) (.ms id ver off s n lim)=(objV h id ver).bind fun l=>(z4tt h k ((l.drop off).take (n*s))).map (.sl false s n):=by
  simp only [snap,zcxt,objV,z4tt]
  cases ziu0 h id with
  | none=>rfl
  | some l =>
    simp only [y05]
    split<;>rfl
theorem zgbg {id ver off:Nat}:snap h (k+1) (.mp id ver off)=(objV h id ver).bind fun l=>(z4tt h k (l.drop off)).map .ref:=by
  simp only [snap,zcxt,objV,z4tt]
  cases ziu0 h id with
  | none=>rfl
  | some l =>
    simp only [y05]
    split<;>rfl
theorem zfu7:z4tt h k []=some []:=rfl
theorem zrz6 {d:DV} {r:List DV}:z4tt h k (d::r)=(snap h k d).bind fun d=>(z4tt h k r).map fun r=>d::r:=rfl
theorem zb22 {t:List DV}:outD [] t h=some (.tup []):=rfl
theorem zm87 {i:Nat} {t:List DV}:outD [.tmp i] t h=snap h 3 (getT t i):=rfl
theorem zw1d {i n:Nat} {agg:Bool} {t:List DV}:outD [.cell i n agg] t h=(zu84 n agg (vis h (getT t i))).bind (snap h 3):=by
  unfold getT
  simp only [outD,zxgc,zp5p,z16h]
  cases vis h (t.getD i .junk) with
  | none=>rfl
  | some cs =>
    simp only [y05,zu84]
    cases oneC n agg cs<;>rfl
def resD (t:List DV) (h:List AObj):ARes→Option DV
  | .tmp i=>some (t.getD i .junk)
  | .cell i n agg=>zu84 n agg (vis h (t.getD i .junk))
theorem z2gc {t:List DV} (r:ARes):z16h ⟨t,h⟩ r=resD t h r:=by
  cases r with
  | tmp i=>rfl
  | cell i n agg =>
    simp only [z16h,resD]
    cases vis h (t.getD i .junk)<;>rfl
theorem z5yf {t:List DV} {i:Nat}:resD t h (.tmp i)=some (getT t i):=rfl
theorem z945 {t:List DV} {i n:Nat} {agg:Bool}:resD t h (.cell i n agg)=zu84 n agg (vis h (getT t i)):=rfl
theorem z4wa {a b:ARes} {t:List DV}:outD [a,b] t h=(resD t h a).bind fun x=>(resD t h b).bind fun y=>snap h 3 (.tup [x,y]):=by
  simp only [outD,zxgc,zp5p,z2gc]
  cases resD t h a<;>try rfl
  cases resD t h b<;>rfl
theorem z62j {t:List DV}:zxgc [] ⟨t,h⟩=some (.tup []):=rfl
theorem zv4g {a:ARes} {t:List DV}:zxgc [a] ⟨t,h⟩=resD t h a:=by
  simp only [zxgc,zp5p,z2gc]
  cases resD t h a<;>rfl
end
def rep {α:Type} (n:Nat) (a:α):List α:=List.replicate n a
theorem zlhu {α:Type} {n:Nat} {a:α}:(rep n a).length=n:=List.length_replicate
theorem zgjp {α β:Type} {n:Nat} {a:α} {f:α→β}:(rep n a).map f=rep n (f a):=List.map_replicate
theorem zi7v {n:Nat} {a:BitVec 8}:rep n (w8 a)=(rep n a).map w8:=zgjp.symm
theorem ztqw {n:Nat} {a:BitVec 32}:rep n (w32 a)=(rep n a).map w32:=zgjp.symm
theorem zray {n:Nat} {a:BitVec 64}:rep n (w64 a)=(rep n a).map w64:=zgjp.symm
theorem ztar {c:List DV→Option DV} {args:List DV} {h:List AObj}:zyo0 c args h=if zbao args=true then c args else (z4tt h 3 args).bind fun a=>(c a).bind fun v=>if scal v=true then some v else none:=rfl
section
variable {α:Type} {f:α→DV}
theorem z68l {l:List α} {i:Nat} (hi:i<l.length):oneC 1 false ((l.map f).drop i)=some (f l[i]):=by
  rw [y1e (by simpa using hi)]
  simp [oneC]
theorem zfsu {l:List α} (hi:0<l.length):oneC 1 false (l.map f)=some (f l[0]):=by
  cases l with
  | nil=>simp at hi
  | cons a r=>simp [oneC]
theorem zai5 {l:List α} {i n:Nat} (hi:i<l.length) (hn:0<n):oneC 1 false (((l.map f).drop i).take n)=some (f l[i]):=by
  rw [y1e (by simpa using hi)]
  cases n with
  | zero=>omega
  | succ n=>simp [oneC]
theorem zza5 {cs:List DV} {n:Nat} (hn:n≤cs.length):oneC n true cs=some (.agg (cs.take n)):=by simp [oneC,hn]
theorem zieb {c:DV} {r:List DV}:oneC 1 false (c::r)=some c:=by simp [oneC]
theorem zg9t {l:List α} {i:Nat} {x:α} (hi:i<l.length):zk7y (l.map f) i [f x]=(l.set i x).map f:=by
  unfold zk7y
  rw [← y11,← y12,y0y,if_pos hi]
  simp
theorem zuj2 {l l':List DV} (hi:l.length=l'.length):zk7y l 0 l'=l':=by
  unfold zk7y
  simp [← hi]
theorem zgzn {l:List α} (hf : ∀ a,zyp8 (f a)=true):zbao (l.map f)=true:=by
  induction l with
  | nil=>rfl
  | cons a r ih=>simp [zbao,hf,ih]
theorem zdqb {l:List (BitVec 8)}:zbao (l.map w8)=true:=zgzn zjjm
theorem z84a {l:List (BitVec 32)}:zbao (l.map w32)=true:=zgzn ziic
theorem zyhk {l:List (BitVec 64)}:zbao (l.map w64)=true:=zgzn zoqu
theorem z7zv {h:List AObj} {k:Nat} {l:List (BitVec 8)}:z4tt h k (l.map w8)=some (l.map w8):=z619 zdqb
theorem z6r5 {h:List AObj} {k:Nat} {l:List (BitVec 32)}:z4tt h k (l.map w32)=some (l.map w32):=z619 z84a
theorem z667 {h:List AObj} {k:Nat} {l:List (BitVec 64)}:z4tt h k (l.map w64)=some (l.map w64):=z619 zyhk
theorem zwz6 {d:DV} {r:List DV}:zbao (d::r)=(zyp8 d&&zbao r):=rfl
theorem zbl9:zbao []=true:=rfl
theorem zwcl {l l':List (BitVec 8)}:(l.map w8=l'.map w8)=(l=l'):=propext ⟨fun e=>(y0x (fun a b h=>by simpa using h)).1 e,fun e=>by rw [e]⟩
theorem zshy {l l':List (BitVec 32)}:(l.map w32=l'.map w32)=(l=l'):=propext ⟨fun e=>(y0x (fun a b h=>by simpa using h)).1 e,fun e=>by rw [e]⟩
theorem z52j {l l':List (BitVec 64)}:(l.map w64=l'.map w64)=(l=l'):=propext ⟨fun e=>(y0x (fun a b h=>by simpa using h)).1 e,fun e=>by rw [e]⟩
end
theorem zx0l (z:Int):zeqi .u8 (.int .i64 z)=some (w8 (BitVec.ofInt 8 z)):=by simp only [zeqi,w8,zrzb]
theorem zgqm (z:Int):zeqi .u32 (.int .i64 z)=some (w32 (BitVec.ofInt 32 z)):=by simp only [zeqi,w32,zmcm]
theorem zlar (z:Int):zeqi .u64 (.int .i64 z)=some (w64 (BitVec.ofInt 64 z)):=by simp only [zeqi,w64,zuw5]
theorem znmn {z:Int} (h1 : -9223372036854775808≤z) (h2:z<9223372036854775808):IntKind.i64.wrap z=z:=by
  simp only [IntKind.wrap,IntKind.signed,IntKind.bits,y1b,decide_eq_true_eq,ge_iff_le]
  split<;>omega
section
variable {a b:Int}
theorem z2s1:zhl4 .add (.int .i64 a) (.int .i64 b)=some (.int .i64 (IntKind.i64.wrap (a+b))):=rfl
theorem z95m:zhl4 .sub (.int .i64 a) (.int .i64 b)=some (.int .i64 (IntKind.i64.wrap (a-b))):=rfl
theorem ztdn:zhl4 .mul (.int .i64 a) (.int .i64 b)=some (.int .i64 (IntKind.i64.wrap (a*b))):=rfl
theorem z4la (h:b≠0):zhl4 .quo (.int .i64 a) (.int .i64 b)=some (.int .i64 (IntKind.i64.wrap (a.tdiv b))):=by simp [zhl4,zfzn,h]
theorem zv45 (h:b≠0):zhl4 .rem (.int .i64 a) (.int .i64 b)=some (.int .i64 (a.tmod b)):=by simp [zhl4,zfzn,h]
theorem zd7c:zhl4 .eql (.int .i64 a) (.int .i64 b)=some (.bool (decide (a=b))):=by
  simp only [zhl4,zfzn,if_true]
  congr 2
  first|done|(rw [y07]; simp)
theorem zpvv:zhl4 .neq (.int .i64 a) (.int .i64 b)=some (.bool (decide (a≠b))):=by
  simp only [zhl4,zfzn,if_true]
  congr 2
  first|done|(rw [y07]; simp)
theorem zna3:zhl4 .lss (.int .i64 a) (.int .i64 b)=some (.bool (decide (a<b))):=rfl
theorem za4w:zhl4 .leq (.int .i64 a) (.int .i64 b)=some (.bool (decide (a≤b))):=rfl
theorem z4q2:zhl4 .gtr (.int .i64 a) (.int .i64 b)=some (.bool (decide (b<a))):=rfl
theorem zuex:zhl4 .geq (.int .i64 a) (.int .i64 b)=some (.bool (decide (b≤a))):=rfl
end
section
variable {h:List AObj} {s n len id ver off lim:Nat} {cs:List DV} {f:Bool} {i a b:Int}
theorem zsu0 (h0:0≤i) (h1:i<n):zpsc h s (.sl f s n cs) i=some (.ref ((cs.drop (i.toNat*s)).take s)):=by simp [zpsc,h0,h1]
theorem z3a7 (h0:0≤i) (h1:i<n):zpsc h s (.ms id ver off s n lim) i=(objV h id ver).map fun _ => .mp id ver (off+i.toNat*s):=by simp [zpsc,h0,h1]
theorem z8hp (h0:0≤i) (h1:i<len):zurm h len s (.ref cs) i=some (.ref ((cs.drop (i.toNat*s)).take s)):=by simp [zurm,h0,h1]
theorem zf2h (h0:0≤i) (h1:i<len):zurm h len s (.mp id ver off) i=(objV h id ver).map fun _ => .mp id ver (off+i.toNat*s):=by simp [zurm,h0,h1]
theorem za5f {agg:Bool} (h0:0≤i) (h1:i<len) (h2:i.toNat*n+n≤cs.length):zrlj len n agg (.agg cs) i=oneC n agg (cs.drop (i.toNat*n)):=by simp [zrlj,h0,h1,h2]
theorem zq3h {l:List UInt8} (h0:0≤i) (h1:i.toNat<l.length):zn60 (.str l) i=some (w8 (l.getD i.toNat 0).toBitVec):=by
  simp only [zn60,h0,if_true,y02 h1,y0f,w8,y0h,Option.getD_some]
  rfl
theorem zk6d:zo77 n none none=some (0,n):=by simp [zo77]
theorem zsqn {k:IntKind} (h0:0≤a) (h1:a≤n):zo77 n (some (.int k a)) none=some (a.toNat,n):=by simp [zo77,iD,h0,h1]
theorem ztya {k:IntKind} (h0:0≤a) (h1:a≤n):zo77 n none (some (.int k a))=some (0,a.toNat):=by simp [zo77,iD,h0,h1]
theorem z624 {k k':IntKind} (h0:0≤a) (h1:a≤b) (h2:b≤n):zo77 n (some (.int k a)) (some (.int k' b))=some (a.toNat,b.toNat):=by simp [zo77,iD,h0,h1,h2]
theorem zygc {lo hi:Option DV} {l m:Nat} (hb:zo77 n lo hi=some (l,m)):ziwb h s (.sl f s n cs) lo hi none=some (.sl (f&&m == n) s (m-l) ((cs.drop (l*s)).take ((m-l)*s))):=by simp [ziwb,hb]
theorem zmk5 {lo hi:Option DV} {p:Nat × Nat} (hb:zo77 0 lo hi=some p):ziwb h s .nils lo hi none=some .nils:=by simp [ziwb,hb]
theorem zam4 {lo hi:Option DV} {l m:Nat} (hb:zo77 n lo hi=some (l,m)):ziwb h s (.ms id ver off s n lim) lo hi none=(objV h id ver).map fun _ => .ms id ver (off+l*s) s (m-l) lim:=by simp [ziwb,hb,zu87]
end
theorem z7cc {h:List AObj} {id off:Nat} {L:List (BitVec 8)} {x:BitVec 8} (hi:off<L.length):zy6o h id 1 off (w8 x) (some (L.map w8))=some (.junk,h.set id (.cells ((L.set off x).map w8))):=by
  simp only [zy6o,zvu4,y0p,List.length_nil,y1k,y1p,y1r,zavv,y1q,zg9t hi]
  rw [if_pos ⟨trivial,by omega,trivial⟩]
theorem zb9d {h:List AObj} {id off:Nat} {L:List (BitVec 32)} {x:BitVec 32} (hi:off<L.length):zy6o h id 1 off (w32 x) (some (L.map w32))=some (.junk,h.set id (.cells ((L.set off x).map w32))):=by
  simp only [zy6o,zyaa,y0p,List.length_nil,y1k,y1p,y1r,zgjz,y1q,zg9t hi]
  rw [if_pos ⟨trivial,by omega,trivial⟩]
theorem zfc1 {h:List AObj} {id n:Nat} {l cs:List DV} (hn:cs.length=n) (hl:l.length=n) (ho:cs.all DV.one=true):zy6o h id n 0 (.agg cs) (some l)=some (.junk,h.set id (.cells cs)):=by
  subst hn
  have e:(DV.agg cs).cells=cs:=rfl
  simp only [zy6o,e,ho,hl,zuj2 hl]
  simp
theorem zb81 {l:List (BitVec 8)}:(l.map w8).all DV.one=true:=by simp
theorem zf9m {l:List (BitVec 32)}:(l.map w32).all DV.one=true:=by simp
theorem zmz3 {h:List AObj} {id n:Nat} {l L:List (BitVec 32)} (hn:L.length=n) (hl:l.length=n):zy6o h id n 0 (.agg (L.map w32)) (some (l.map w32))=some (.junk,h.set id (.cells (L.map w32))):=zfc1 (by simpa using hn) (by simpa using hl) zf9m
theorem z5zg {h:List AObj} {id n:Nat} {l L:List (BitVec 8)} (hn:L.length=n) (hl:l.length=n):zy6o h id n 0 (.agg (L.map w8)) (some (l.map w8))=some (.junk,h.set id (.cells (L.map w8))):=zfc1 (by simpa using hn) (by simpa using hl) zb81
theorem zja8 {L:List (BitVec 8)} {n:Nat} (hn:L.length=n):oneC n true (L.map w8)=some (.agg (L.map w8)):=by subst hn; simp [oneC,y0e]
theorem zc9m {L:List (BitVec 32)} {n:Nat} (hn:L.length=n):oneC n true (L.map w32)=some (.agg (L.map w32)):=by subst hn; simp [oneC,y0e]
theorem zmql {l:List (BitVec 8)} {i n:Nat} (hi:i<l.length) (hn:0<n):oneC 1 false (((l.map w8).drop i).take n)=some (w8 (l.getD i 0#8)):=by rw [zai5 hi hn]; simp [y02 hi]
theorem zvnd {l:List (BitVec 32)} {i n:Nat} (hi:i<l.length) (hn:0<n):oneC 1 false (((l.map w32).drop i).take n)=some (w32 (l.getD i 0#32)):=by rw [zai5 hi hn]; simp [y02 hi]
theorem zynd {l:List (BitVec 8)} {i:Nat} (hi:i<l.length):oneC 1 false ((l.map w8).drop i)=some (w8 (l.getD i 0#8)):=by rw [z68l hi]; simp [y02 hi]
theorem z06g {l:List (BitVec 32)} {i:Nat} (hi:i<l.length):oneC 1 false ((l.map w32).drop i)=some (w32 (l.getD i 0#32)):=by rw [z68l hi]; simp [y02 hi]
theorem z9ug {l:List (BitVec 8)} (hi:0<l.length):oneC 1 false (l.map w8)=some (w8 (l.getD 0 0#8)):=by rw [zfsu hi]; simp [y02 hi]
theorem zvol {l:List (BitVec 32)} (hi:0<l.length):oneC 1 false (l.map w32)=some (w32 (l.getD 0 0#32)):=by rw [zfsu hi]; simp [y02 hi]
theorem zaqg {l:List (BitVec 8)} {n:Nat} (hi:0<l.length) (hn:0<n):oneC 1 false ((l.map w8).take n)=some (w8 (l.getD 0 0#8)):=by
  have:=zai5 (f:=w8) hi hn
  rw [y1m] at this
  rw [this]; simp [y02 hi]
theorem z8df {l:List (BitVec 32)} {n:Nat} (hi:0<l.length) (hn:0<n):oneC 1 false ((l.map w32).take n)=some (w32 (l.getD 0 0#32)):=by
  have:=zai5 (f:=w32) hi hn
  rw [y1m] at this
  rw [this]; simp [y02 hi]
theorem zrsa {r:List AObj} {l:List DV} {ver:Nat}:objV (r++[.cells l]) r.length ver=if l.length=ver then some l else none:=by simp [objV,ziu0]
def seqD:Nat→List (Nat × Nat × DV)→Option (List DV)
  | _,[]=>some []
  | k,(off,n,v)::r=>if off=k∧v.cells.length=n then (seqD (k+n) r).map fun l=>v.cells++l else none
theorem zopw : ∀ (ps:List (Nat × Nat × DV)) (pre zs vs:List DV),seqD pre.length ps=some vs→vs.length=zs.length→zi03 (pre++zs) ps=some (pre++vs)
  | [],pre,zs,vs,h,hl=>by
    simp [seqD] at h; subst h
    have:zs=[]:=y0a (by simpa using hl.symm)
    simp [zi03,this]
  | (off,n,v)::r,pre,zs,vs,h,hl=>by
    simp only [seqD] at h
    split at h
    · rename_i hc
      obtain ⟨rfl,rfl⟩:=hc
      obtain ⟨l,hl',rfl⟩:=y00.1 h
      have hz:v.cells.length≤zs.length:=by simp at hl; omega
      simp only [zi03]
      rw [if_pos ⟨trivial,by simp; omega⟩]
      have e:zk7y (pre++zs) pre.length v.cells=(pre++v.cells)++zs.drop v.cells.length:=by simp [zk7y,List.drop_append]
      rw [e,zopw r (pre++v.cells) (zs.drop v.cells.length) l (by simpa using hl') (by simp at hl ⊢; omega)]
      simp
    · simp at h
theorem ztpq {zs vs:List DV} {ps:List (Nat × Nat × DV)} (hs:seqD 0 ps=some vs) (hl:vs.length=zs.length) (hk:ps.all (fun p=>p.2.2.known)=true):zvnk zs ps=some (.agg vs):=by
  unfold zvnk
  rw [if_pos hk]
  have:=zopw ps [] zs vs hs hl
  simp at this
  rw [this]; rfl
def iter {α:Type} (f:Nat→α→α):Nat→α→α
  | 0,a=>a
  | n+1,a=>f n (iter f n a)
theorem z3gf {α:Type} {f:Nat→α→α} {a:α}:iter f 0 a=a:=rfl
def js:Nat→List DV
  | 0=>[]
  | n+1 => .junk::js n
def us:Nat→List DV
  | 0=>[]
  | n+1 => .tup []::us n
theorem zjjt (n:Nat):List.replicate n (DV.tup [])=us n:=by
  induction n with
  | zero=>rfl
  | succ n ih=>rw [y0s,ih]; rfl
theorem zzv9 {n:Nat} {args:List DV}:zr5g n args=args++us (n-args.length):=by unfold zr5g; rw [zjjt]
theorem z8kh {n:Nat}:js (n+1) = .junk::js n:=rfl
theorem zvyw {n:Nat}:us (n+1) = .tup []::us n:=rfl
theorem z822:js 0=[]:=rfl
theorem z9bb:us 0=[]:=rfl
theorem z515 {n0:Nat} {t t':List DV} {h h':List AObj} (h1:znqe t t') (h2:h'=h):Weak n0 ⟨t,h⟩ ⟨t',h'⟩ := .inl ⟨h1,.inl h2⟩
theorem zju2 {n0:Nat} {t t':List DV} {h h' tail:List AObj} (h1:znqe t t') (h2:h=h'++tail) (h3:n0≤h'.length) (h4:belowL h'.length t'=true) (h5:zlf2 h'.length h'=true):Weak n0 ⟨t,h⟩ ⟨t',h'⟩ :=
  .inl ⟨h1,.inr ⟨tail,h2,h3,h4,h5⟩⟩
theorem z08e:znqe [] []=True:=rfl
theorem zyrk {a:DV} {r s:List DV}:znqe (a::r) (.junk::s)=znqe r s:=by simp [znqe]
theorem zf2x {a:DV} {r s:List DV}:znqe (a::r) (a::s)=znqe r s:=by simp [znqe]
attribute [simp] z7zv z6r5 z667 zlhu zi7v ztqw zray ztar zi72 zmqw zpcv z7d7 zlx7 ze5j zml6 zog7 zqb3 zkqt zk8q ztmt zve7 zgbg zfu7 zrz6 zb22 zm87 zw1d z5yf z945 z4wa z62j zv4g
  z7cc zb9d zmz3 z5zg zja8 zc9m z9ug zvol zaqg z8df zrsa zmql zvnd zynd z06g zsu0 z3a7 z8hp zf2h za5f zq3h zk6d zsqn ztya z624 znmn zieb zg9t zdqb z84a zyhk zwz6 zbl9 zyp8 zwcl zshy z52j zx0l zgqm zlar
  z2s1 z95m ztdn z4la zv45 zd7c zpvv zna3 za4w z4q2 zuex z3gf z08e zyrk zf2x zzv9 z8kh zvyw z822 z9bb
end Go.Am
set_option linter.unusedSimpArgs false
set_option linter.unusedVariables false
namespace Go.Am
open Go.ChangeShapes Go.WideShapes Go.ChangeAt Go.RowKit
theorem z9ty {H:Type} {enc:TypeId × Value→H} {P:Program} (hl:laidOutB P=true) {W W':World} (hb:Below W.heap.size W W') {sp:Nat→Bool} :
    ∀ {ts:List TypeId} {vs:List Value} {ds:List (DataW H)} {ps:List MemPlace},(∀ t ∈ ts,P.readableRec t=true∧t<P.types.size)→DataW.TrodAll enc P W 0 (fun _=>true) true ts vs ds ps →
      (∀ p ∈ ps,p.block<W.heap.size)→(∀ p ∈ ps,sp p.block=true)→DataW.TrodAll enc P W' 0 sp true ts vs ds ps
  | [],vs,ds,ps,_,h,_,_=>by
    obtain ⟨rfl,rfl,rfl⟩:=trodAll_nil h
    exact trodAll_mk0
  | t::ts,vs,ds,ps,ht,h,hlt,hsp=>by
    obtain ⟨v,vs',d,ds',p,q,rfl,rfl,rfl,h1,h2⟩:=trodAll_cons h
    refine trodAll_cons_mk ?_ (z9ty hl hb (fun t ht'=>ht t (by simp [ht'])) h2 (fun x hx=>hlt x (by simp [hx])) (fun x hx=>hsp x (by simp [hx])))
    exact WideElems.Trod_stays hl (ht t (by simp)).1 (ht t (by simp)).2 h1 (fun x hx=>hb.same (hlt x (by simp [hx]))) (fun x hx=>hsp x (by simp [hx]))
theorem zoju {H:Type} {enc:TypeId × Value→H} {P:Program} {f:Func} {s:ChangeSpec} {apart fresh handsOn again:Bool} {W W':World} {args:Array Value} {ds gs:List (DataW H)} {before:List MemPlace}
    (hl:laidOutB P=true) (hps : ∀ t ∈ f.params.toList,P.readableRec t=true∧t<P.types.size) {tb:TypeId} (hres:f.resultTypes = #[tb]) (hbool:P.underlying tb=some .bool) (hv:s.vars=[])
    (hW:DataW.Whole enc P f.params.toList s.vars apart W args.toList ds gs before) (hs:s.fn H (ds++gs)={ results:=[.lit (.bool true)],args:=ds,vars:=[] }) (hb:Below W.heap.size W W') :
    s.post enc P f apart fresh handsOn again W args (.bool true) W':=by
  have hlt:=hW.lt
  have hW':=hW
  obtain ⟨p,q,hA,hV,rfl,hfz,hnd⟩:=hW
  rw [hv] at hV
  obtain ⟨rfl,rfl⟩:=trodVars_none hV
  simp only [y0g] at *
  have hsp : ∀ x ∈ p,(fun b=>decide (b<W.heap.size)) x.block=true:=fun x hx=>by simpa using hlt x hx
  have hr : ∀ (b:Nat) (sp:Nat→Bool) (hd:Bool),DataW.TrodAll enc P W' b sp hd f.resultTypes.toList ((Value.bool true).resultList f.resultTypes.size) [DataW.lit (Lit.bool true)] []:=by
    intro b sp hd
    rw [hres]
    exact trodAll_cons_mk (p:=[]) (p':=[]) (shut_bool hbool true) trodAll_mk0
  have ha : ∀ sp:Nat→Bool,(∀ x ∈ p,sp x.block=true)→DataW.TrodAll enc P W' 0 sp true f.params.toList args.toList ds p:=fun sp hsp=>z9ty hl hb hps hA hlt hsp
  refine ⟨ds,[],p,[],p,[],hW',?_,?_,?_,?_,fun _=>⟨ok_one hres rfl (okWide_bool_mk hbool true),?_⟩⟩
  · simp only [y0g,hs]; exact hr _ _ _
  · simp only [y0g,hs]; exact ha _ hsp
  · simp only [y0g,hs,hv]; rfl
  · exact hb.frame _
  · refine ⟨DataW.lit (Lit.bool true)::ds,[],[]++p,⟨[]++p,[],?_,?_,by simp,?_,fun h=>by simpa using hnd h⟩,fun x hx _=>by simpa using hx⟩
    · exact trodAll_append (ha (fun _=>true) (fun _ _=>rfl)) (hr _ _ _)
    · rw [hv]; rfl
    · intro b off hx
      have hx':MemPlace.cell b off ∈ p:=by simpa using hx
      have:=hlt _ hx'
      rw [hb.frozen (p:=⟨b,off,none⟩) this]
      exact hfz b off hx'
theorem zl2r {H:Type} {enc:TypeId × Value→H} {P:Program} {k:FuncId} {f:Func} {s:ChangeSpec} {apart fresh handsOn again:Bool} {W:World} {args:Array Value} {ds gs:List (DataW H)} {before:List MemPlace} {dvs:List DV}
    (hl:laidOutB P=true) (hps : ∀ t ∈ f.params.toList,P.readableRec t=true∧t<P.types.size) {tb:TypeId} (hres:f.resultTypes = #[tb]) (hbool:P.underlying tb=some .bool) (hv:s.vars=[])
    (hW:DataW.Whole enc P f.params.toList s.vars apart W args.toList ds gs before) (hs:s.fn H (ds++gs)={ results:=[.lit (.bool true)],args:=ds,vars:=[] })
    (hr:RepA [] (fun _ _=>False) W args.toList dvs) (hent:Ent P k) (hc:Am.Sem P k dvs (.bool true)) :
    Calls P k args W fun e W' => ∃ v,e = .returned v∧s.post enc P f apart fresh handsOn again W args v W':=by
  refine ((hc (fun _ _=>False) W args (fun _ _ h=>h.elim) hr).calls hent).mono fun e W' ⟨v,he,hrv,hb⟩ => ?_
  cases hrv
  exact ⟨_,he,zoju hl hps hres hbool hv hW hs hb.bel⟩
theorem z8op {n:Int} (h:(Lit.int .u8 n).wf=true):DV.int .u8 n=w8 (BitVec.ofInt 8 n):=by
  have hx:0≤n∧n≤255:=by simpa [Lit.wf,IntKind.min,IntKind.max,IntKind.signed,IntKind.bits] using h
  unfold w8
  rw [BitVec.toNat_ofInt]
  congr 1
  omega
end Go.Am
set_option linter.unusedSimpArgs false
set_option linter.unusedVariables false
namespace Go.Am
open Go.RowKit
theorem zm6d {l:List (BitVec 8)} {k:Nat}:(l.map w8).take k=(l.take k).map w8:=y11.symm
theorem zluz {l:List (BitVec 8)} {k:Nat}:(l.map w8).drop k=(l.drop k).map w8:=y12.symm
theorem z5fm {l:List (BitVec 8)} {k:Nat} {x:BitVec 8}:(l.map w8).set k (w8 x)=(l.set k x).map w8:=y1h.symm
theorem zix6 {l r:List (BitVec 8)}:l.map w8++r.map w8=(l++r).map w8:=y15.symm
theorem zeaa {l:List (BitVec 8)} (h:0<l.length):oneC 1 false (l.map w8)=some (w8 (l.getD 0 0)):=by
  cases l with
  | nil=>simp at h
  | cons a r=>simp [oneC]
theorem z5xb {l:List (BitVec 8)} {i k:Nat} (h:i<l.length) (hk:0<k):oneC 1 false (((l.drop i).take k).map w8)=some (w8 (l.getD i 0)):=by
  rw [zeaa (by simp; omega)]
  simp [y0d,hk]
theorem z2oq {l:List (BitVec 8)} {i:Nat} (h:i<l.length):oneC 1 false ((l.drop i).map w8)=some (w8 (l.getD i 0)):=by
  rw [zeaa (by simp; omega)]
  simp
theorem zo5w {l:List (BitVec 8)} {k:Nat} (h:l.length=k):oneC k true (l.map w8)=some (.agg (l.map w8)):=by subst h; simp [oneC,y0e]
theorem zzst {l:List (BitVec 8)}:(l.map w8).all DV.one=true:=by simp
theorem zywm {h:List AObj} {id k:Nat} {l L:List (BitVec 8)} (hn:L.length=k) (hl:l.length=k):zy6o h id k 0 (.agg (L.map w8)) (some (l.map w8))=some (.junk,h.set id (.cells (L.map w8))):=zfc1 (by simpa using hn) (by simpa using hl) zzst
theorem z628 {l:List (BitVec 32)} {k:Nat}:(l.map w32).take k=(l.take k).map w32:=y11.symm
theorem ztrn {l:List (BitVec 32)} {k:Nat}:(l.map w32).drop k=(l.drop k).map w32:=y12.symm
theorem ztgq {l:List (BitVec 32)} {k:Nat} {x:BitVec 32}:(l.map w32).set k (w32 x)=(l.set k x).map w32:=y1h.symm
theorem z43t {l r:List (BitVec 32)}:l.map w32++r.map w32=(l++r).map w32:=y15.symm
theorem zzxs {l:List (BitVec 32)} (h:0<l.length):oneC 1 false (l.map w32)=some (w32 (l.getD 0 0)):=by
  cases l with
  | nil=>simp at h
  | cons a r=>simp [oneC]
theorem zszf {l:List (BitVec 32)} {i k:Nat} (h:i<l.length) (hk:0<k):oneC 1 false (((l.drop i).take k).map w32)=some (w32 (l.getD i 0)):=by
  rw [zzxs (by simp; omega)]
  simp [y0d,hk]
theorem zu8w {l:List (BitVec 32)} {i:Nat} (h:i<l.length):oneC 1 false ((l.drop i).map w32)=some (w32 (l.getD i 0)):=by
  rw [zzxs (by simp; omega)]
  simp
theorem zsge {l:List (BitVec 32)} {k:Nat} (h:l.length=k):oneC k true (l.map w32)=some (.agg (l.map w32)):=by subst h; simp [oneC,y0e]
theorem z9jx {l:List (BitVec 32)}:(l.map w32).all DV.one=true:=by simp
theorem z3c9 {h:List AObj} {id k:Nat} {l L:List (BitVec 32)} (hn:L.length=k) (hl:l.length=k):zy6o h id k 0 (.agg (L.map w32)) (some (l.map w32))=some (.junk,h.set id (.cells (L.map w32))):=zfc1 (by simpa using hn) (by simpa using hl) z9jx
theorem zfge {l:List (BitVec 64)} {k:Nat}:(l.map w64).take k=(l.take k).map w64:=y11.symm
theorem z9lr {l:List (BitVec 64)} {k:Nat}:(l.map w64).drop k=(l.drop k).map w64:=y12.symm
theorem zck3 {l:List (BitVec 64)} {k:Nat} {x:BitVec 64}:(l.map w64).set k (w64 x)=(l.set k x).map w64:=y1h.symm
theorem zszd {l r:List (BitVec 64)}:l.map w64++r.map w64=(l++r).map w64:=y15.symm
theorem z95i {l:List (BitVec 64)} (h:0<l.length):oneC 1 false (l.map w64)=some (w64 (l.getD 0 0)):=by
  cases l with
  | nil=>simp at h
  | cons a r=>simp [oneC]
theorem z4fb {l:List (BitVec 64)} {i k:Nat} (h:i<l.length) (hk:0<k):oneC 1 false (((l.drop i).take k).map w64)=some (w64 (l.getD i 0)):=by
  rw [z95i (by simp; omega)]
  simp [y0d,hk]
theorem z3ud {l:List (BitVec 64)} {i:Nat} (h:i<l.length):oneC 1 false ((l.drop i).map w64)=some (w64 (l.getD i 0)):=by
  rw [z95i (by simp; omega)]
  simp
theorem zjn9 {l:List (BitVec 64)} {k:Nat} (h:l.length=k):oneC k true (l.map w64)=some (.agg (l.map w64)):=by subst h; simp [oneC,y0e]
theorem zttt {l:List (BitVec 64)}:(l.map w64).all DV.one=true:=by simp
theorem z6bl {h:List AObj} {id k:Nat} {l L:List (BitVec 64)} (hn:L.length=k) (hl:l.length=k):zy6o h id k 0 (.agg (L.map w64)) (some (l.map w64))=some (.junk,h.set id (.cells (L.map w64))):=zfc1 (by simpa using hn) (by simpa using hl) zttt
def spl {α:Type} (L:List α) (off:Nat) (c:List α):List α:=L.take off++c++L.drop (off+c.length)
theorem zm3h {α:Type} {L c:List α} {off:Nat} (h:off+c.length≤L.length):(spl L off c).length=L.length:=by simp [spl]; omega
def cpyO (h:List AObj) (id s off n:Nat) (str:Bool) (m:Nat) (cs:List DV):Option (List DV)→Option (DV × List AObj)
  | some l=>if (cs.take (min m n*s)).all DV.one=true∧min m n*s≤cs.length∧off+n*s≤l.length∧(str=true→s=1) then some (.int .i64 (min m n:Nat),h.set id (.cells (zk7y l off (cs.take (min m n*s))))) else none
  | none=>none
theorem z4t0 {h:List AObj} {s id ver off n lim m:Nat} {str:Bool} {cs:List DV}:cpyD h s str (.ms id ver off s n lim) (some (m,cs))=cpyO h id s off n str m cs (objV h id ver):=by
  simp only [cpyD,objV]
  cases ziu0 h id with
  | none=>rfl
  | some l =>
    simp only [y05]
    by_cases e:l.length=ver
    · subst e; simp [cpyO]
    · simp [e,cpyO]
theorem z85h {h:List AObj} {id off n m:Nat} {str:Bool} {b L:List (BitVec 8)} (hm:b.length=m) (hn:off+n≤L.length):cpyO h id 1 off n str m (b.map w8) (some (L.map w8))=some (.int .i64 (min m n:Nat),h.set id (.cells ((spl L off (b.take (min m n))).map w8))):=by
  subst hm
  have e:zk7y (L.map w8) off ((b.map w8).take (min b.length n))=(spl L off (b.take (min b.length n))).map w8:=by simp [zk7y,spl]
  simp only [cpyO,y1t,e]
  rw [if_pos ⟨by rw [zm6d]; exact zzst,by simp; omega,by simpa using hn,by simp⟩]
theorem znts {h:List AObj} {id off n m:Nat} {str:Bool} {b L:List (BitVec 32)} (hm:b.length=m) (hn:off+n≤L.length):cpyO h id 1 off n str m (b.map w32) (some (L.map w32))=some (.int .i64 (min m n:Nat),h.set id (.cells ((spl L off (b.take (min m n))).map w32))):=by
  subst hm
  have e:zk7y (L.map w32) off ((b.map w32).take (min b.length n))=(spl L off (b.take (min b.length n))).map w32:=by simp [zk7y,spl]
  simp only [cpyO,y1t,e]
  rw [if_pos ⟨by rw [z628]; exact z9jx,by simp; omega,by simpa using hn,by simp⟩]
theorem zidy {h:List AObj} {id off n m:Nat} {str:Bool} {b L:List (BitVec 64)} (hm:b.length=m) (hn:off+n≤L.length):cpyO h id 1 off n str m (b.map w64) (some (L.map w64))=some (.int .i64 (min m n:Nat),h.set id (.cells ((spl L off (b.take (min m n))).map w64))):=by
  subst hm
  have e:zk7y (L.map w64) off ((b.map w64).take (min b.length n))=(spl L off (b.take (min b.length n))).map w64:=by simp [zk7y,spl]
  simp only [cpyO,y1t,e]
  rw [if_pos ⟨by rw [zfge]; exact zttt,by simp; omega,by simpa using hn,by simp⟩]
theorem z68c {t:List DV}:zoby t []=[]:=rfl
theorem ze1c {t:List DV} {a n:Nat} {x:Opd} {r:List (Nat × Nat × Opd)}:zoby t ((a,n,x)::r)=(a,n,ev t x)::zoby t r:=rfl
theorem zwos {zs:List DV} {ps:List (Nat × Nat × DV)} (hk:ps.all (fun p=>p.2.2.known)=true) (hl:(seqD 0 ps).map List.length=some zs.length):zvnk zs ps=(seqD 0 ps).map .agg:=by
  cases h:seqD 0 ps with
  | none=>simp [h] at hl
  | some vs =>
    rw [h] at hl
    simp at hl
    rw [ztpq h hl hk,y0f]
theorem z7bw {s len:Nat} {zs:List DV} {ps:List (Nat × Nat × DV)} (hk:ps.all (fun p=>p.2.2.known)=true) (hl:(seqD 0 ps).map List.length=some (len*zs.length)):bslD s len zs ps=(seqD 0 ps).map (.sl true s len):=by
  cases h:seqD 0 ps with
  | none=>simp [h] at hl
  | some vs =>
    rw [h] at hl
    have hz:(reps len zs).length=len*zs.length:=by simp [reps]
    have:=zopw ps [] (reps len zs) vs h (by simpa [hz] using hl)
    simp only [List.nil_append] at this
    unfold bslD
    rw [if_pos hk,this,y0f]
def slD (k:Option Bool) (s n:Nat) (cs:List DV):DV:=match k with|none => .nils|some f => .sl f s n cs
theorem zip4 {f:Bool} {s n:Nat} {cs:List DV}:slD (some f) s n cs = .sl f s n cs:=rfl
theorem z6vl {s n:Nat} {cs:List DV}:slD none s n cs = .nils:=rfl
section
variable {h:List AObj} {k:Option Bool} {s n:Nat} {cs:List DV}
theorem zjc6 (hk:k=none→n=0):lenD h (slD k s n cs)=some (.int .i64 n):=by
  cases k with
  | none=>simp [slD,lenD,hk rfl]
  | some f=>rfl
theorem zplv (hk:k=none→n=0) (hc:cs.length=n*s):visS h (slD k s n cs)=some (n,cs):=by
  cases k with
  | none =>
    have:=hk rfl; subst this
    have:cs=[]:=y0a (by simpa using hc)
    subst this; rfl
  | some f=>rfl
theorem zmlg:(slD k s n cs).isStr=false:=by cases k<;>rfl
theorem z3ja:(slD k s n cs).known=true:=by cases k<;>rfl
theorem zck2:(slD k s n cs).one=true:=by cases k<;>rfl
theorem z9db:(slD k s n cs).cells=[slD k s n cs]:=by cases k<;>rfl
end
theorem zusr {n:Nat} {l:List (BitVec 8)}:belowL n (l.map w8)=true:=by
  induction l with
  | nil=>rfl
  | cons a r ih=>simp [belowL,ih,below,w8]
theorem z1b9 {n:Nat} {l:List (BitVec 32)}:belowL n (l.map w32)=true:=by
  induction l with
  | nil=>rfl
  | cons a r ih=>simp [belowL,ih,below,w32]
def appX (h:List AObj) (s bytes:Nat) (x:DV) (m:Nat) (cs:List DV):Option (DV × List AObj) :=
  if m*s≠cs.length∨bytes > 16384∨s=0 then none else
  match x with
  | .nils=>if m=0 then some (x,h) else if m≤big then some (.ms h.length cs.length 0 s m cs.length,h++[.cells cs]) else none
  | .sl full s' n ds=>if m=0 then some (x,h) else if full=true∧s'=s∧n+m≤big then
      some (.ms h.length (ds++cs).length 0 s (n+m) (ds++cs).length,h++[.cells (ds++cs)]) else none
  | .ms id ver off s' n lim=>(ziu0 h id).bind fun l =>
      if l.length=ver∧s'=s∧cs.all DV.one=true then
        (if m=0 then some (x,h)
         else if off+(n+m)*s≤lim∧lim≤ver then some (.ms id ver off s (n+m) lim,h.set id (.cells (zk7y l (off+n*s) cs)))
         else if off=0∧n*s=ver∧n+m≤big then some (.ms id (l++cs).length 0 s (n+m) (l++cs).length,h.set id (.cells (l++cs)))
         else none)
      else none
  | _=>none
theorem zu57 {T:Tbl} {dr:Bool} {t:List DV} {h:List AObj} {s b:Nat} {x y:Opd}:zn3j T dr (.app s b x y) t h=(visY h (ev t y)).bind fun p=>appX h s b (ev t x) p.1 p.2:=by
  rw [zl22]
  unfold zqbw
  cases visY h (ev t y)<;>rfl
theorem z3y8 {α:Type} {l:List α} {i:Nat} {x:α} (h:l[i]? = some x):l.set i x=l:=by
  apply List.ext_getElem?
  intro j
  rw [List.getElem?_set]
  split
  · rename_i e; subst e
    rw [h,if_pos (y0u.1 h).1]
  · rfl
theorem zbho {h:List AObj} {id ver s n b m:Nat} {cs:List DV} (hs:n*s=ver) (hb:b≤16384) (h0:0<s) (hm:m*s=cs.length) (hbig:n+m≤4294967296) (hone:cs.all DV.one=true) :
    appX h s b (.ms id ver 0 s n ver) m cs=(objV h id ver).map fun l=>(.ms id (ver+cs.length) 0 s (n+m) (ver+cs.length),h.set id (.cells (l++cs))):=by
  simp only [appX,objV]
  rw [if_neg (by omega)]
  cases ho:ziu0 h id with
  | none=>rfl
  | some l =>
    simp only [y05]
    by_cases e:l.length=ver
    · rw [if_pos ⟨e,trivial,hone⟩,if_pos e,y0f]
      by_cases hm0:m=0
      · subst hm0
        have hc:cs=[]:=y0a (by omega)
        subst hc
        rw [if_pos rfl]
        have hi:h[id]? = some (.cells l):=by
          unfold ziu0 at ho
          split at ho
          · rename_i e'; simp at ho; subst ho; exact e'
          · simp at ho
        simp [z3y8 hi]
      · rw [if_neg hm0]
        have h2:¬ (0+(n+m)*s≤ver∧ver≤ver):=by
          rintro ⟨h2,_⟩
          have:0<m*s:=y1u (by omega) h0
          rw [y0z] at h2
          omega
        rw [if_neg h2,if_pos ⟨trivial,hs,hbig⟩]
        simp [e]
    · rw [if_neg (by simp [e]),if_neg e]; rfl
theorem zw6v {h:List AObj} {s b:Nat} (hb:b≤16384) (h0:0<s):appX h s b .nils 0 []=some (.nils,h):=by
  simp only [appX]
  rw [if_neg (by simp; omega)]; rfl
theorem zsuq {h:List AObj} {s b m:Nat} {cs:List DV} (hb:b≤16384) (h0:0<s) (hm:m*s=cs.length) (hm0:0<m) (hbig:m≤4294967296):appX h s b .nils m cs=some (.ms h.length cs.length 0 s m cs.length,h++[.cells cs]):=by
  simp only [appX]
  rw [if_neg (by omega),if_neg (by omega),if_pos hbig]
theorem zegt {h:List AObj} {f:Bool} {s b n:Nat} {ds:List DV} (hb:b≤16384) (h0:0<s):appX h s b (.sl f s n ds) 0 []=some (.sl f s n ds,h):=by
  simp only [appX]
  rw [if_neg (by simp; omega)]; rfl
theorem ztup {h:List AObj} {s b n m:Nat} {ds cs:List DV} (hb:b≤16384) (h0:0<s) (hm:m*s=cs.length) (hm0:0<m) (hbig:n+m≤4294967296):appX h s b (.sl true s n ds) m cs=some (.ms h.length (ds.length+cs.length) 0 s (n+m) (ds.length+cs.length),h++[.cells (ds++cs)]):=by
  simp only [appX]
  rw [if_neg (by omega),if_neg (by omega),if_pos ⟨trivial,trivial,hbig⟩,y0m]
def ownD (id s:Nat) (z:DV) (n:Nat) (cs:List DV):DV:=if cs=[] then z else .ms id cs.length 0 s n cs.length
def ownH (cs:List DV):List AObj:=if cs=[] then [] else [.cells cs]
theorem z3pb {id s n:Nat} {z:DV}:ownD id s z n []=z:=rfl
theorem zvuj:ownH []=[]:=rfl
theorem z1ta {id s n:Nat} {z:DV} {cs:List DV} (h:cs≠[]):ownD id s z n cs = .ms id cs.length 0 s n cs.length:=by simp [ownD,h]
theorem zpgk {cs:List DV} (h:cs≠[]):ownH cs=[.cells cs]:=by simp [ownH,h]
theorem zp3h (pre:List AObj) {s b n m:Nat} {z:DV} {cs cs':List DV} (hz:z = .nils∨z = .sl true s 0 []) (hs:n*s=cs.length) (hm:m*s=cs'.length) (hb:b≤16384) (h0:0<s) (hbig:n+m≤4294967296) (hone:cs'.all DV.one=true) :
    appX (pre++ownH cs) s b (ownD pre.length s z n cs) m cs'=some (ownD pre.length s z (n+m) (cs++cs'),pre++ownH (cs++cs')):=by
  by_cases hc:cs=[]
  · subst hc
    have hn:n=0:=by
      rcases y0n n with g|g
      · exact g
      · have:=y1u g h0; simp at hs; omega
    subst hn
    rw [z3pb,zvuj,y0g,List.nil_append,y1i]
    by_cases hc':cs'=[]
    · subst hc'
      have hm':m=0:=by
        rcases y0n m with g|g
        · exact g
        · have:=y1u g h0; simp at hm; omega
      subst hm'
      rw [z3pb,zvuj,y0g]
      rcases hz with rfl|rfl
      · exact zw6v hb h0
      · exact zegt hb h0
    · have hm0:0<m:=by
        rcases y0n m with g|g
        · subst g; exact absurd (y0a (by omega)) hc'
        · exact g
      rw [z1ta hc',zpgk hc']
      rcases hz with rfl|rfl
      · exact zsuq hb h0 hm hm0 (by omega)
      · rw [ztup hb h0 hm hm0 (by omega)]; simp
  · rw [z1ta hc,zpgk hc,z1ta (by simp [hc]),zpgk (by simp [hc]),zbho hs hb h0 hm hbig hone]
    have:objV (pre++[.cells cs]) pre.length cs.length=some cs:=by rw [zrsa,if_pos rfl]
    rw [this]
    simp
section
variable {s b n m:Nat} {z:DV} {cs cs':List DV} {o0 o1 o2 o3 o4:AObj}
theorem z3d4 (hz:z = .nils∨z = .sl true s 0 []) (hs:n*s=cs.length) (hm:m*s=cs'.length) (hb:b≤16384) (h0:0<s) (hbig:n+m≤4294967296) (hone:cs'.all DV.one=true) :
    appX (ownH cs) s b (ownD 0 s z n cs) m cs'=some (ownD 0 s z (n+m) (cs++cs'),ownH (cs++cs')):=zp3h [] hz hs hm hb h0 hbig hone
theorem zxsm (hz:z = .nils∨z = .sl true s 0 []) (hs:n*s=cs.length) (hm:m*s=cs'.length) (hb:b≤16384) (h0:0<s) (hbig:n+m≤4294967296) (hone:cs'.all DV.one=true) :
    appX (o0::ownH cs) s b (ownD 1 s z n cs) m cs'=some (ownD 1 s z (n+m) (cs++cs'),o0::ownH (cs++cs')):=zp3h [o0] hz hs hm hb h0 hbig hone
theorem zxuf (hz:z = .nils∨z = .sl true s 0 []) (hs:n*s=cs.length) (hm:m*s=cs'.length) (hb:b≤16384) (h0:0<s) (hbig:n+m≤4294967296) (hone:cs'.all DV.one=true) :
    appX (o0::o1::ownH cs) s b (ownD 2 s z n cs) m cs'=some (ownD 2 s z (n+m) (cs++cs'),o0::o1::ownH (cs++cs')):=zp3h [o0,o1] hz hs hm hb h0 hbig hone
theorem z83y (hz:z = .nils∨z = .sl true s 0 []) (hs:n*s=cs.length) (hm:m*s=cs'.length) (hb:b≤16384) (h0:0<s) (hbig:n+m≤4294967296) (hone:cs'.all DV.one=true) :
    appX (o0::o1::o2::ownH cs) s b (ownD 3 s z n cs) m cs'=some (ownD 3 s z (n+m) (cs++cs'),o0::o1::o2::ownH (cs++cs')):=zp3h [o0,o1,o2] hz hs hm hb h0 hbig hone
theorem zhda (hz:z = .nils∨z = .sl true s 0 []) (hs:n*s=cs.length) (hm:m*s=cs'.length) (hb:b≤16384) (h0:0<s) (hbig:n+m≤4294967296) (hone:cs'.all DV.one=true) :
    appX (o0::o1::o2::o3::ownH cs) s b (ownD 4 s z n cs) m cs'=some (ownD 4 s z (n+m) (cs++cs'),o0::o1::o2::o3::ownH (cs++cs')):=zp3h [o0,o1,o2,o3] hz hs hm hb h0 hbig hone
end
attribute [simp] z3d4 zxsm zxuf z83y zhda zai5 z68l zfsu
theorem z9yh {z:Int} (h0:0≤z) (h1:z<18446744073709551616):(BitVec.ofInt 64 z).toNat=z.toNat:=by
  rw [BitVec.toNat_ofInt]; omega
theorem z24a {h:List AObj} {id ver off s n lim:Nat}:visY h (.ms id ver off s n lim)=(objV h id ver).map fun l=>(n,(l.drop off).take (n*s)):=zeq9 (lim:=lim)
theorem zdor {h:List AObj} {f:Bool} {s n:Nat} {cs:List DV}:visY h (.sl f s n cs)=some (n,cs):=rfl
theorem zwcy {h:List AObj}:visY h .nils=some (0,[]):=rfl
theorem zykm {h:List AObj} {s:List UInt8}:visY h (.str s)=some (s.length,u8s s):=rfl
theorem za4e {l:List (BitVec 8)} {x:BitVec 8}:l.map w8++[w8 x]=(l++[x]).map w8:=by simp
theorem z9b4 {l:List (BitVec 32)} {x:BitVec 32}:l.map w32++[w32 x]=(l++[x]).map w32:=by simp
theorem z2c2 {l:List (BitVec 64)} {x:BitVec 64}:l.map w64++[w64 x]=(l++[x]).map w64:=by simp
theorem z8iy {z:Int} (h0:0≤z) (h1:z<18446744073709551616):z % 18446744073709551616=z:=Int.emod_eq_of_lt h0 h1
section
variable {h:List AObj}
theorem zn72 {cs:List DV}:boxD h (.agg cs)=some (.mp h.length cs.length 0,h++[.cells cs]):=rfl
theorem z199 {k:IntKind} {n:Int}:boxD h (.int k n)=some (.mp h.length 1 0,h++[.cells [.int k n]]):=rfl
theorem z1z3 {x:BitVec 8}:boxD h (w8 x)=some (.mp h.length 1 0,h++[.cells [w8 x]]):=rfl
theorem z9ci {x:BitVec 32}:boxD h (w32 x)=some (.mp h.length 1 0,h++[.cells [w32 x]]):=rfl
theorem zvjm {x:BitVec 64}:boxD h (w64 x)=some (.mp h.length 1 0,h++[.cells [w64 x]]):=rfl
theorem zg8u {b:Bool}:boxD h (.bool b)=some (.mp h.length 1 0,h++[.cells [.bool b]]):=rfl
theorem z430 {s:List UInt8}:boxD h (.str s)=some (.mp h.length 1 0,h++[.cells [.str s]]):=rfl
theorem zphc:boxD h .nils=some (.mp h.length 1 0,h++[.cells [.nils]]):=rfl
theorem zccw {f:Bool} {s n:Nat} {cs:List DV}:boxD h (.sl f s n cs)=some (.mp h.length 1 0,h++[.cells [.sl f s n cs]]):=rfl
theorem zk22 {id ver off s n lim:Nat}:boxD h (.ms id ver off s n lim)=some (.mp h.length 1 0,h++[.cells [.ms id ver off s n lim]]):=rfl
theorem z5sl {id ver off:Nat}:boxD h (.mp id ver off)=some (.mp h.length 1 0,h++[.cells [.mp id ver off]]):=rfl
theorem zosa {k:Option Bool} {s n:Nat} {cs:List DV}:boxD h (slD k s n cs)=some (.mp h.length 1 0,h++[.cells [slD k s n cs]]):=by cases k<;>rfl
end
theorem z6tx {cs:List DV}:scal (.agg cs)=z5po cs:=rfl
theorem z8fe {cs:List DV}:scal (.tup cs)=z5po cs:=rfl
theorem zbmw {k:IntKind} {n:Int}:scal (.int k n)=true:=rfl
theorem zh6i {b:Bool}:scal (.bool b)=true:=rfl
theorem zksa {s:List UInt8}:scal (.str s)=true:=rfl
theorem zpg2:z5po []=true:=rfl
theorem zs5x {d:DV} {r:List DV}:z5po (d::r)=(scal d&&z5po r):=rfl
theorem z2tr {l:List (BitVec 8)}:z5po (l.map w8)=true:=by
  induction l with
  | nil=>rfl
  | cons a r ih=>simp [z5po,ih]
theorem zf53 {l:List (BitVec 32)}:z5po (l.map w32)=true:=by
  induction l with
  | nil=>rfl
  | cons a r ih=>simp [z5po,ih]
theorem z5ks {l:List (BitVec 64)}:z5po (l.map w64)=true:=by
  induction l with
  | nil=>rfl
  | cons a r ih=>simp [z5po,ih]
section
variable {l r:List Int} {k i:Nat} {x:Int}
theorem zey5:(l.map (DV.int .i64)).take k=(l.take k).map (DV.int .i64):=y11.symm
theorem zr2n:(l.map (DV.int .i64)).drop k=(l.drop k).map (DV.int .i64):=y12.symm
theorem zj48:(l.map (DV.int .i64)).set k (.int .i64 x)=(l.set k x).map (DV.int .i64):=y1h.symm
theorem z4mg:l.map (DV.int .i64)++r.map (DV.int .i64)=(l++r).map (DV.int .i64):=y15.symm
theorem z5ok:l.map (DV.int .i64)++[.int .i64 x]=(l++[x]).map (DV.int .i64):=by simp
theorem zvj3:(l.map (DV.int .i64)).all DV.one=true:=by simp [DV.one]
theorem z7xt (h:0<l.length):oneC 1 false (l.map (DV.int .i64))=some (.int .i64 (l.getD 0 0)):=by
  cases l with
  | nil=>simp at h
  | cons a r=>simp [oneC]
theorem zuqg (h:i<l.length) (hk:0<k):oneC 1 false (((l.drop i).take k).map (DV.int .i64))=some (.int .i64 (l.getD i 0)):=by
  rw [z7xt (by simp; omega)]
  simp [y0d,hk]
theorem z9hw (h:i<l.length):oneC 1 false ((l.drop i).map (DV.int .i64))=some (.int .i64 (l.getD i 0)):=by
  rw [z7xt (by simp; omega)]
  simp
theorem znqj:zbao (l.map (DV.int .i64))=true:=zgzn fun _=>rfl
theorem zb2p {h:List AObj}:z4tt h k (l.map (DV.int .i64))=some (l.map (DV.int .i64)):=z619 znqj
theorem z4kh:z5po (l.map (DV.int .i64))=true:=by
  induction l with
  | nil=>rfl
  | cons a r ih=>simp [z5po,ih,scal]
theorem z079:belowL k (l.map (DV.int .i64))=true:=by
  induction l with
  | nil=>rfl
  | cons a r ih=>simp [belowL,ih,below]
theorem zwfp:(l.map (DV.int .i64)=r.map (DV.int .i64))=(l=r):=propext ⟨fun e=>(y0x (fun a b h=>by simpa using h)).1 e,fun e=>by rw [e]⟩
end
theorem zpwp {a:Int} {y:BitVec 64} (h:y.toNat≤62):zhl4 .shr (.int .i64 a) (w64 y)=some (.int .i64 (a / 2 ^ y.toNat)):=by
  simp only [zhl4,w64,zj0g,IntKind.bits]
  rw [if_neg (by omega),y0b (by omega),y0c _ (by exact y13 (y17 (by decide)))]
  simp
theorem zpxh {a:Int} (h0:0≤a) (h1:a<9223372036854775808):zhl4 .and (.int .i64 a) (.int .i64 3)=some (.int .i64 (a % 4)):=by
  obtain ⟨m,rfl⟩:=y09 h0
  have e:bits .and .i64 (m:Int) 3=((m:Int) % 4):=by
    show IntKind.i64.wrap ((BitVec.ofInt 64 (m:Int) &&& BitVec.ofInt 64 3).toNat:Int)=_
    have e1:(BitVec.ofInt 64 (m:Int) &&& BitVec.ofInt 64 3).toNat=m % 4:=by
      rw [BitVec.toNat_and,BitVec.ofInt_natCast,BitVec.toNat_ofNat,show (BitVec.ofInt 64 3).toNat=2 ^ 2-1 from rfl,Nat.and_two_pow_sub_one_eq_mod]
      omega
    rw [e1]
    exact znmn (by omega) (by omega)
  simp only [zhl4,zfzn,if_true]
  exact congrArg (fun z=>some (DV.int .i64 z)) e
attribute [simp] zey5 zr2n zj48 z4mg z5ok zvj3 z7xt zuqg z9hw znqj zb2p z4kh z079 zwfp zpwp zpxh
theorem ziks {h:List AObj} {s b:Nat} {zs:List DV} {l c:Int} (h0:0≤l) (h1:l≤c) (h2:c≤4294967296) (h3:b≤16384):mksD h s b zs l c=some (.ms h.length (l.toNat*s) 0 s l.toNat (l.toNat*s),h++[.cells (reps l.toNat zs)]):=by
  unfold mksD
  rw [if_pos ⟨h0,h1,by simpa [big] using h2,h3⟩]
theorem storeO_1 {h:List AObj} {id off:Nat} {y:DV} {l:List DV} (hc:y.cells=[y]) (ho:y.one=true) (hi:off<l.length):zy6o h id 1 off y (some l)=some (.junk,h.set id (.cells (l.set off y))):=by
  simp only [zy6o,hc,List.length_singleton,y1p,y1r,ho,y1q]
  rw [if_pos ⟨trivial,by omega,trivial⟩]
  have e:zk7y l off [y]=l.set off y:=by
    unfold zk7y
    rw [y0y,if_pos hi]; simp
  rw [e]
theorem z8vb {zs:List DV}:reps 0 zs=[]:=rfl
theorem zmcu {n:Nat} {d:DV}:reps n [d]=rep n d:=by
  unfold reps rep
  induction n with
  | zero=>rfl
  | succ n ih=>rw [y0s,y0s,y1d,ih]; rfl
theorem ziq3 {h:List AObj} {id off:Nat} {l:List DV} {k:IntKind} {n:Int} (hi:off<l.length):zy6o h id 1 off (.int k n) (some l)=some (.junk,h.set id (.cells (l.set off (.int k n)))):=storeO_1 rfl rfl hi
theorem z09g {h:List AObj} {id off:Nat} {l:List DV} {b:Bool} (hi:off<l.length):zy6o h id 1 off (.bool b) (some l)=some (.junk,h.set id (.cells (l.set off (.bool b)))):=storeO_1 rfl rfl hi
theorem zzvc {h:List AObj} {id off:Nat} {l:List DV} {s:List UInt8} (hi:off<l.length):zy6o h id 1 off (.str s) (some l)=some (.junk,h.set id (.cells (l.set off (.str s)))):=storeO_1 rfl rfl hi
theorem zvkj {h:List AObj} {id off:Nat} {l:List DV}  (hi:off<l.length):zy6o h id 1 off (.nils) (some l)=some (.junk,h.set id (.cells (l.set off (.nils)))):=storeO_1 rfl rfl hi
theorem zp8l {h:List AObj} {id off:Nat} {l:List DV}  (hi:off<l.length):zy6o h id 1 off (.nilp) (some l)=some (.junk,h.set id (.cells (l.set off (.nilp)))):=storeO_1 rfl rfl hi
theorem zrnk {h:List AObj} {id off:Nat} {l:List DV}  (hi:off<l.length):zy6o h id 1 off (.nili) (some l)=some (.junk,h.set id (.cells (l.set off (.nili)))):=storeO_1 rfl rfl hi
theorem zf7c {h:List AObj} {id off:Nat} {l:List DV}  (hi:off<l.length):zy6o h id 1 off (.nilf) (some l)=some (.junk,h.set id (.cells (l.set off (.nilf)))):=storeO_1 rfl rfl hi
theorem zsc1 {h:List AObj} {id off:Nat} {l:List DV} {f:Bool} {s n:Nat} {cs:List DV} (hi:off<l.length):zy6o h id 1 off (.sl f s n cs) (some l)=some (.junk,h.set id (.cells (l.set off (.sl f s n cs)))):=storeO_1 rfl rfl hi
theorem ztne {h:List AObj} {id off:Nat} {l:List DV} {id0 ver off0 s n lim:Nat} (hi:off<l.length):zy6o h id 1 off (.ms id0 ver off0 s n lim) (some l)=some (.junk,h.set id (.cells (l.set off (.ms id0 ver off0 s n lim)))):=storeO_1 rfl rfl hi
theorem zdgi {h:List AObj} {id off:Nat} {l:List DV} {id0 ver off0:Nat} (hi:off<l.length):zy6o h id 1 off (.mp id0 ver off0) (some l)=some (.junk,h.set id (.cells (l.set off (.mp id0 ver off0)))):=storeO_1 rfl rfl hi
theorem zvob {h:List AObj} {id off:Nat} {l:List DV} {cs:List DV} (hi:off<l.length):zy6o h id 1 off (.ref cs) (some l)=some (.junk,h.set id (.cells (l.set off (.ref cs)))):=storeO_1 rfl rfl hi
theorem z9cn {h:List AObj} {id off:Nat} {l:List DV} {f:Fn} {a b:List DV} (hi:off<l.length):zy6o h id 1 off (.fn f a b) (some l)=some (.junk,h.set id (.cells (l.set off (.fn f a b)))):=storeO_1 rfl rfl hi
theorem zyrn {h:List AObj} {id off:Nat} {l:List DV} {t:Nat} {v:DV} (hi:off<l.length):zy6o h id 1 off (.iface t v) (some l)=some (.junk,h.set id (.cells (l.set off (.iface t v)))):=storeO_1 rfl rfl hi
theorem zv3a {h:List AObj} {id off s n:Nat} {k:Option Bool} {cs l:List DV} (hi:off<l.length):zy6o h id 1 off (slD k s n cs) (some l)=some (.junk,h.set id (.cells (l.set off (slD k s n cs)))):=storeO_1 z9db zck2 hi
attribute [simp low] ziq3 z09g zzvc zvkj zp8l zrnk zf7c zsc1 ztne zdgi zvob z9cn zyrn zv3a
attribute [simp] ziks z8vb zmcu
theorem z6ny {n k:Nat}:zi5g [(n,k)]=List.replicate n k:=by simp [zi5g]
theorem zsl6 {α:Type} [DecidableEq α] {f:α→DV} {k:Nat} (hf : ∀ a b,znnj k (f a) (f b)=some (decide (a=b))) : ∀ {n:Nat} {l r:List α},l.length=n→r.length=n→z32s (List.replicate n k) (l.map f) (r.map f)=some (decide (l=r))
  | 0,[],[],_,_=>rfl
  | n+1,a::l,b::r,h1,h2=>by
    simp only [y0s,y1c,z32s,hf,y05]
    rw [zsl6 hf (by simpa using h1) (by simpa using h2)]
    simp [Bool.decide_and]
theorem ztxs (a b:BitVec 8):znnj 0 (w8 a) (w8 b)=some (decide (a=b)):=by
  simp only [znnj,w8,if_true]
  congr 1
  rw [y07]; simp [zswk]
theorem zgre {k:Nat} {l r:List (BitVec 8)} (h1:l.length=k) (h2:r.length=k):z32s (zi5g [(k,0)]) (l.map w8) (r.map w8)=some (decide (l=r)):=by rw [z6ny]; exact zsl6 ztxs h1 h2
theorem zkds (a b:BitVec 32):znnj 0 (w32 a) (w32 b)=some (decide (a=b)):=by
  simp only [znnj,w32,if_true]
  congr 1
  rw [y07]; simp [zumn]
theorem z8ls {k:Nat} {l r:List (BitVec 32)} (h1:l.length=k) (h2:r.length=k):z32s (zi5g [(k,0)]) (l.map w32) (r.map w32)=some (decide (l=r)):=by rw [z6ny]; exact zsl6 zkds h1 h2
theorem zc3p (a b:BitVec 64):znnj 0 (w64 a) (w64 b)=some (decide (a=b)):=by
  simp only [znnj,w64,if_true]
  congr 1
  rw [y07]; simp [zmi9]
theorem zd1j {k:Nat} {l r:List (BitVec 64)} (h1:l.length=k) (h2:r.length=k):z32s (zi5g [(k,0)]) (l.map w64) (r.map w64)=some (decide (l=r)):=by rw [z6ny]; exact zsl6 zc3p h1 h2
theorem zqzh {off n:Nat} {agg:Bool} {cs:List DV} (h:off+n≤cs.length):zhj0 off n agg (.agg cs)=oneC n agg (cs.drop off):=by simp [zhj0,h]
attribute [simp] zgre z8ls zd1j zqzh
theorem z7cu {k:IntKind} {n:Int}:DV.cells (.int k n)=[.int k n]:=rfl
theorem z56t {k:IntKind} {n:Int}:DV.known (.int k n)=true:=rfl
theorem zzmf {k:IntKind} {n:Int}:DV.one (.int k n)=true:=rfl
theorem zb40 {b:Bool}:DV.cells (.bool b)=[.bool b]:=rfl
theorem zez8 {b:Bool}:DV.known (.bool b)=true:=rfl
theorem z3gw {b:Bool}:DV.one (.bool b)=true:=rfl
theorem zsf1 {s:List UInt8}:DV.cells (.str s)=[.str s]:=rfl
theorem zcoo {s:List UInt8}:DV.known (.str s)=true:=rfl
theorem zxyr {s:List UInt8}:DV.one (.str s)=true:=rfl
theorem zxg4  : DV.cells (.nils)=[.nils]:=rfl
theorem zpcu  : DV.known (.nils)=true:=rfl
theorem zpe4  : DV.one (.nils)=true:=rfl
theorem zrob  : DV.cells (.nilp)=[.nilp]:=rfl
theorem zljg  : DV.known (.nilp)=true:=rfl
theorem znva  : DV.one (.nilp)=true:=rfl
theorem zdaw  : DV.cells (.nili)=[.nili]:=rfl
theorem zs6k  : DV.known (.nili)=true:=rfl
theorem zvlv  : DV.one (.nili)=true:=rfl
theorem zpug  : DV.cells (.nilf)=[.nilf]:=rfl
theorem z9t8  : DV.known (.nilf)=true:=rfl
theorem zb0h  : DV.one (.nilf)=true:=rfl
theorem zatv {f:Bool} {s n:Nat} {cs:List DV}:DV.cells (.sl f s n cs)=[.sl f s n cs]:=rfl
theorem z9p6 {f:Bool} {s n:Nat} {cs:List DV}:DV.known (.sl f s n cs)=true:=rfl
theorem zak1 {f:Bool} {s n:Nat} {cs:List DV}:DV.one (.sl f s n cs)=true:=rfl
theorem zo7h {id ver off s n lim:Nat}:DV.cells (.ms id ver off s n lim)=[.ms id ver off s n lim]:=rfl
theorem zvcv {id ver off s n lim:Nat}:DV.known (.ms id ver off s n lim)=true:=rfl
theorem zn6j {id ver off s n lim:Nat}:DV.one (.ms id ver off s n lim)=true:=rfl
theorem zvy8 {id ver off:Nat}:DV.cells (.mp id ver off)=[.mp id ver off]:=rfl
theorem z7j5 {id ver off:Nat}:DV.known (.mp id ver off)=true:=rfl
theorem z2pv {id ver off:Nat}:DV.one (.mp id ver off)=true:=rfl
theorem zqlk {cs:List DV}:DV.cells (.ref cs)=[.ref cs]:=rfl
theorem zc6w {cs:List DV}:DV.known (.ref cs)=true:=rfl
theorem z44m {cs:List DV}:DV.one (.ref cs)=true:=rfl
theorem zaxx {f:Fn} {a b:List DV}:DV.cells (.fn f a b)=[.fn f a b]:=rfl
theorem ztqy {f:Fn} {a b:List DV}:DV.known (.fn f a b)=true:=rfl
theorem zhjs {f:Fn} {a b:List DV}:DV.one (.fn f a b)=true:=rfl
theorem zkpu {t:Nat} {v:DV}:DV.cells (.iface t v)=[.iface t v]:=rfl
theorem z0a2 {t:Nat} {v:DV}:DV.known (.iface t v)=true:=rfl
theorem zkls {t:Nat} {v:DV}:DV.one (.iface t v)=true:=rfl
theorem zh3o {cs:List DV}:DV.cells (.agg cs)=cs:=rfl
theorem zgs0 {cs:List DV}:DV.known (.agg cs)=true:=rfl
attribute [simp] zh3o zgs0 z7cu z56t zzmf zb40 zez8 z3gw zsf1 zcoo zxyr zxg4 zpcu zpe4 zrob zljg znva zdaw zs6k zvlv zpug z9t8 zb0h zatv z9p6 zak1 zo7h zvcv zn6j zvy8 z7j5 z2pv zqlk zc6w z44m zaxx ztqy zhjs zkpu z0a2 zkls
theorem z6m6 {zs:List DV}:zvnk zs []=some (.agg zs):=by simp [zvnk,zi03]
theorem zqzd {k:IntKind} {a z:Int} (h0:0≤z) (h1:z≤62):zhl4 .shl (.int .i64 a) (.int k z)=some (.int .i64 (IntKind.i64.wrap (a*2 ^ z.toNat))):=by
  simp only [zhl4,zj0g,IntKind.bits]
  rw [if_neg (by omega),y0b (by omega)]
theorem ztr9 {k:IntKind} {a z:Int} (h0:0≤z) (h1:z≤62):zhl4 .shr (.int .i64 a) (.int k z)=some (.int .i64 (a / 2 ^ z.toNat)):=by
  simp only [zhl4,zj0g,IntKind.bits]
  rw [if_neg (by omega),y0b (by omega),y0c _ (by exact y13 (y17 (by decide)))]
attribute [simp] z6m6 zqzd ztr9
theorem zh07 {s:Nat} {zs:List DV}:bslD s 0 zs []=some (.sl true s 0 []):=by simp [bslD,reps,zi03]
attribute [simp] zh07 z6tx z8fe zbmw zh6i zksa zpg2 zs5x z2tr zf53 z5ks
attribute [simp] z8iy zn72 z199 z1z3 z9ci zvjm zg8u z430 zphc zccw zk22 z5sl zosa
attribute [simp] zu57 zbho zw6v zsuq zegt ztup z9yh z24a zdor zwcy zykm za4e z9b4 z2c2
section
variable {h:List AObj} {len s n id ver off lim:Nat} {lo hi:Option DV} {cs:List DV} {full:Bool}
theorem zo84:znv4 h len s (.mp id ver off) lo hi=(zo77 len lo hi).bind fun p=>(objV h id ver).bind fun _=>if off+len*s≤ver then some (.ms id ver (off+p.1*s) s (p.2-p.1) (off+len*s)) else none:=rfl
theorem znnd:znv4 h len s (.ref cs) lo hi=(zo77 len lo hi).bind fun p=>if len*s≤cs.length then some (.sl (p.2 == len) s (p.2-p.1) ((cs.drop (p.1*s)).take ((p.2-p.1)*s))) else none:=rfl
theorem zf66:ziwb h s (.sl full s n cs) lo hi none=(zo77 n lo hi).bind fun p=>some (.sl (full&&p.2 == n) s (p.2-p.1) ((cs.drop (p.1*s)).take ((p.2-p.1)*s))):=by simp [ziwb]
theorem zkuh:ziwb h s .nils lo hi none=(zo77 0 lo hi).bind fun _=>some .nils:=by simp [ziwb]
theorem zyru:ziwb h s (.ms id ver off s n lim) lo hi none=orB (zo77 n lo hi) (fun p=>(objV h id ver).map fun _ => .ms id ver (off+p.1*s) s (p.2-p.1) lim) (zhun h s id ver off s lim false (lo.bind iD) (hi.bind iD)):=by simp [ziwb]
theorem zhnj {l:List UInt8}:zadz (.str l) lo hi=(zo77 l.length lo hi).bind fun p=>some (.str ((l.drop p.1).take (p.2-p.1))):=rfl
end
theorem zckd (x:BitVec 8) (k:IntKind) (z:Int) (hz:0≤z):zhl4 .shl (w8 x) (.int k z)=some (w8 (x <<< z.toNat)):=by
  obtain ⟨m,rfl⟩:=y09 hz
  exact z9v8 x k m
theorem ziqs (x:BitVec 8) (k:IntKind) (z:Int) (hz:0≤z):zhl4 .shr (w8 x) (.int k z)=some (w8 (x >>> z.toNat)):=by
  obtain ⟨m,rfl⟩:=y09 hz
  exact zmlv x k m
theorem zrbc (x:BitVec 32) (k:IntKind) (z:Int) (hz:0≤z):zhl4 .shl (w32 x) (.int k z)=some (w32 (x <<< z.toNat)):=by
  obtain ⟨m,rfl⟩:=y09 hz
  exact zo25 x k m
theorem zfwe (x:BitVec 32) (k:IntKind) (z:Int) (hz:0≤z):zhl4 .shr (w32 x) (.int k z)=some (w32 (x >>> z.toNat)):=by
  obtain ⟨m,rfl⟩:=y09 hz
  exact znny x k m
theorem zo90 (x:BitVec 64) (k:IntKind) (z:Int) (hz:0≤z):zhl4 .shl (w64 x) (.int k z)=some (w64 (x <<< z.toNat)):=by
  obtain ⟨m,rfl⟩:=y09 hz
  exact zccn x k m
theorem zsm6 (x:BitVec 64) (k:IntKind) (z:Int) (hz:0≤z):zhl4 .shr (w64 x) (.int k z)=some (w64 (x >>> z.toNat)):=by
  obtain ⟨m,rfl⟩:=y09 hz
  exact z3sn x k m
attribute [simp low] zfc1
attribute [simp] Int.tdiv_eq_ediv_of_nonneg Int.tmod_eq_emod_of_nonneg zo84 znnd zf66 zkuh zyru zu87 zwtg zhnj zckd ziqs zrbc zfwe zo90 zsm6
  zmlg z3ja zck2 z9db zusr z1b9 z68c ze1c zwos z7bw seqD z4t0 zm3h
  zm6d zluz z5fm zix6 zzst zeaa z5xb z2oq
  zo5w zywm z628 ztrn ztgq z43t z9jx zzxs
  zszf zu8w zsge z3c9 zfge z9lr zck3 zszd
  zttt z95i z4fb z3ud zjn9 z6bl z85h znts
  zidy
end Go.Am
set_option linter.unusedSimpArgs false
set_option linter.unusedVariables false
namespace Go.Am
open Go.ChangeShapes Go.WideShapes Go.ChangeAt Go.RowKit
inductive Ty where
  | int (k:IntKind)
  | bool
  | str
  | sl (e:Ty)
  | arr (n:Nat) (e:Ty)
  | st (fs:List Ty)
  deriving Inhabited
mutual
def Ty.size:Ty→Nat
  | .arr n e=>n*e.size
  | .st fs=>Ty.sizeL fs
  | _=>1
def Ty.sizeL:List Ty→Nat
  | []=>0
  | t::r=>t.size+Ty.sizeL r
end

mutual
/-- data of a shape: its cells -/
def Ty.Ok:Ty→List DV→Prop
  | .int k,ds => ∃ n,ds=[.int k n]∧(Lit.int k n).wf=true
  | .bool,ds => ∃ b,ds=[.bool b]
  | .str,ds => ∃ s,ds=[.str s]
  | .sl e,ds=>ds=[.nils] ∨ ∃ gs:List (List DV),ds=[.sl false e.size gs.length gs.flatten]∧gs.length≤9223372036854775807 ∧ ∀ g ∈ gs,e.Ok g
  | .arr n e,ds => ∃ gs:List (List DV),gs.length=n∧ds=gs.flatten ∧ ∀ g ∈ gs,e.Ok g
  | .st fs,ds=>Ty.OkL fs ds
def Ty.OkL:List Ty→List DV→Prop
  | [],ds=>ds=[]
  | t::r,ds => ∃ a b,ds=a++b∧t.Ok a∧Ty.OkL r b
end

mutual
/-- a type has this shape -/
def Ty.chk (P:Program):Ty→TypeId→Bool
  | .int k,t=>match P.underlying t with|some (.int k')=>decide (k'=k)|_=>false
  | .bool,t=>match P.underlying t with|some .bool=>true|_=>false
  | .str,t=>match P.underlying t with|some .string=>true|_=>false
  | .sl e,t=>match P.underlying t with|some (.slice u)=>decide (P.cellsOf u=e.size)&&e.chk P u|_=>false
  | .arr n e,t=>match P.underlying t with|some (.array m u)=>decide (m=n)&&decide (P.cellsOf u=e.size)&&decide (P.cellsOf t=n*e.size)&&e.chk P u|_=>false
  | .st fs,t=>match P.underlying t with|some (.struct l)=>decide (P.cellsOf t=Ty.sizeL fs)&&Ty.chkL P fs l.toList 0|_=>false
def Ty.chkL (P:Program):List Ty→List Field→Nat→Bool
  | [],[],_=>true
  | t::r,f::l,off=>decide (f.offset=off)&&decide (P.cellsOf f.type=t.size)&&t.chk P f.type&&Ty.chkL P r l (off+t.size)
  | _,_,_=>false
end

theorem z6kk {α:Type} {Q:Nat→α→Prop} : ∀ (n:Nat),(∀ i,i<n → ∃ g,Q i g) → ∃ gs:List α,gs.length=n ∧ ∀ i (h:i<gs.length),Q i gs[i]
  | 0,_=>⟨[],rfl,fun i h=>by simp at h⟩
  | n+1,h=>by
    obtain ⟨gs,h1,h2⟩:=z6kk n (fun i hi=>h i (by omega))
    obtain ⟨g,hg⟩:=h n (by omega)
    refine ⟨gs++[g],by simp [h1],fun i hi => ?_⟩
    by_cases hin:i<gs.length
    · rw [List.getElem_append_left hin]; exact h2 i hin
    · obtain rfl:i=n:=by simp at hi; omega
      rw [List.getElem_append_right (by omega)]
      simpa [h1] using hg
section
variable {E:Env} {X:Forb} {w:World}
theorem RepA.flat {s:Nat} : ∀ (gs:List (List DV)) (cs:List Value),cs.length=gs.length*s→(∀ i (h:i<gs.length),RepA E X w ((cs.drop (i*s)).take s) gs[i])→RepA E X w cs gs.flatten
  | [],cs,hl,_=>by
    have:cs=[]:=y0a (by simpa using hl)
    subst this; exact RepA.nil
  | g::gs,cs,hl,h=>by
    have hs:s≤cs.length:=by
      have e:(g::gs).length*s=gs.length*s+s:=by rw [y0p,y0z,Nat.one_mul]
      omega
    have h0:=h 0 (by simp)
    simp only [Nat.zero_mul,y1m,y10] at h0
    have:=RepA.flat (s:=s) gs (cs.drop s) (by rw [List.length_drop,hl,y0p,y0z]; omega) (fun i hi=>by
      have:=h (i+1) (by simpa using hi)
      rw [List.drop_drop]
      simpa [y0z,Nat.add_comm] using this)
    have q:=h0.append this
    rwa [y1n] at q
variable {H:Type} {enc:TypeId × Value→H} {P:Program} {base:Nat} {sp:Nat→Bool} {held:Bool}
theorem z5mn {t e:TypeId} {n fuel:Nat} {cs:List Value} {x:DataW H × List MemPlace} (ht:P.underlying t=some (.array n e)) (h:DataW.trod enc P w base sp held fuel t cs=some x) :
    ∃ m,fuel=m+1∧cs.length=P.cellsOf t ∧ ∀ i,i<n → ∃ y,DataW.trod enc P w base sp held m e ((cs.drop (i*P.cellsOf e)).take (P.cellsOf e))=some y:=by
  cases fuel with
  | zero=>simp [DataW.trod] at h
  | succ m =>
    unfold DataW.trod at h
    rw [ht] at h
    split at h<;>simp_all
    obtain ⟨hl,xs,hp,hd⟩:=h
    intro i hi
    have h1:=mapM_some_length hp
    have:=mapM_some_get hp i i (by simp [hi])
    rw [this]
    simp at h1
    rw [y02 (by omega)]
    exact ⟨_,_,rfl⟩
theorem zy7y : ∀ (fuel:Nat) (τ:Ty) (t:TypeId) (cs:List Value) (x:DataW H × List MemPlace),τ.chk P t=true→DataW.trod enc P w base sp held fuel t cs=some x→cs.length=τ.size ∧ ∃ ds,RepA [] (fun _ _=>False) w cs ds∧τ.Ok ds
  | 0,_,_,_,_,_,h=>by simp [DataW.trod] at h
  | fuel+1,τ,t,cs,x,hc,h=>by
    cases τ with
    | int k =>
      simp only [Ty.chk] at hc
      split at hc<;>try (simp at hc; done)
      rename_i k' hu
      simp at hc; subst hc
      obtain ⟨n,rfl,_,hw⟩:=DataW.trod_int hu h
      exact ⟨rfl,[.int k' n],RepA.cons (.int _ _) RepA.nil,by simp only [Ty.Ok]; exact ⟨n,rfl,hw⟩⟩
    | bool =>
      simp only [Ty.chk] at hc
      split at hc<;>try (simp at hc; done)
      rename_i hu
      obtain ⟨b,rfl,_⟩:=DataW.trod_bool hu h
      exact ⟨rfl,[.bool b],RepA.cons (.bool _) RepA.nil,by simp only [Ty.Ok]; exact ⟨b,rfl⟩⟩
    | str =>
      simp only [Ty.chk] at hc
      split at hc<;>try (simp at hc; done)
      rename_i hu
      obtain ⟨s,rfl,_,_⟩:=DataW.trod_string hu h
      exact ⟨rfl,[.str s.data.toList],RepA.cons (.str _ _ rfl) RepA.nil,by simp only [Ty.Ok]; exact ⟨_,rfl⟩⟩
    | arr n e =>
      simp only [Ty.chk] at hc
      split at hc<;>try (simp at hc; done)
      rename_i m u hu
      simp only [y08,decide_eq_true_eq] at hc
      obtain ⟨⟨⟨rfl,hsz⟩,hct⟩,hch⟩:=hc
      obtain ⟨m',hm',hl,he⟩:=z5mn hu h
      have hm':fuel=m':=by omega
      subst hm'
      obtain ⟨gs,g1,g2⟩:=z6kk (Q:=fun i g=>RepA [] (fun _ _=>False) w ((cs.drop (i*e.size)).take e.size) g∧e.Ok g) m (fun i hi=>by
        obtain ⟨y,hy⟩:=he i hi
        rw [hsz] at hy
        obtain ⟨_,ds,q1,q2⟩:=zy7y fuel e u _ _ hch hy
        exact ⟨ds,q1,q2⟩)
      refine ⟨by rw [hl,hct]; rfl,gs.flatten,RepA.flat (s:=e.size) gs cs (by rw [hl,hct,g1]) (fun i hi=>(g2 i hi).1),?_⟩
      simp only [Ty.Ok]
      refine ⟨gs,g1,rfl,fun g hg => ?_⟩
      obtain ⟨i,hi,rfl⟩:=y16.1 hg
      exact (g2 i hi).2
    | st fs =>
      simp only [Ty.chk] at hc
      split at hc<;>try (simp at hc; done)
      rename_i l hu
      simp only [y08,decide_eq_true_eq] at hc
      obtain ⟨hct,hch⟩:=hc
      obtain ⟨xs,m,hm,_,hl,hxl,he⟩:=DataW.trod_struct hu h
      have hm:fuel=m:=by omega
      subst hm
      have go : ∀ (fs:List Ty) (l':List Field) (off k:Nat),Ty.chkL P fs l' off=true→cs.length=off+Ty.sizeL fs→(∀ i f,l'[i]? = some f→l.toList[k+i]? = some f) → ∃ ds,RepA [] (fun _ _=>False) w (cs.drop off) ds∧Ty.OkL fs ds:=by
        intro fs
        induction fs with
        | nil =>
          intro l' off k hch hlen _
          simp only [Ty.sizeL,Nat.add_zero] at hlen
          exact ⟨[],by rw [List.drop_of_length_le (by omega)]; exact RepA.nil,by simp [Ty.OkL]⟩
        | cons τ r ih =>
          intro l' off k hch hlen hsub
          cases l' with
          | nil=>simp [Ty.chkL] at hch
          | cons f l' =>
            simp only [Ty.chkL,y08,decide_eq_true_eq] at hch
            obtain ⟨⟨⟨ho,hs⟩,hct'⟩,hr⟩:=hch
            simp only [Ty.sizeL] at hlen
            have hf:l[k]? = some f:=by have:=hsub 0 f rfl; simpa using this
            have hk:k<l.size:=by
              rcases Nat.lt_or_ge k l.size with g|g
              · exact g
              · rw [Array.getElem?_eq_none g] at hf; simp at hf
            have hy:=he k f hf
            rw [y02 (by omega),ho,hs] at hy
            obtain ⟨_,a,q1,q2⟩:=zy7y fuel τ f.type _ _ hct' hy
            obtain ⟨b,q3,q4⟩:=ih l' (off+τ.size) (k+1) hr (by omega) (fun i f' hi=>by
              have:=hsub (i+1) f' (by simpa using hi)
              rwa [show k+1+i=k+(i+1) from by omega])
            refine ⟨a++b,?_,by simp only [Ty.OkL]; exact ⟨a,b,rfl,q2,q4⟩⟩
            have q:=q1.append q3
            rwa [← List.drop_drop,y1n] at q
      obtain ⟨ds,q1,q2⟩:=go fs l.toList 0 0 hch (by rw [hl,hct]; omega) (fun i f hi=>by simpa using hi)
      exact ⟨by rw [hl,hct]; rfl,ds,by simpa using q1,by simp only [Ty.Ok]; exact q2⟩
    | sl e =>
      simp only [Ty.chk] at hc
      split at hc<;>try (simp at hc; done)
      rename_i u hu
      simp only [y08,decide_eq_true_eq] at hc
      obtain ⟨hsz,hch⟩:=hc
      rcases DataW.trod_slice hu h with ⟨rfl,_⟩|⟨a,len,cap,elems,rest,n,hn,rfl,_,_,hlc,hcm,hel,he,_,_⟩
      · exact ⟨rfl,[.nils],RepA.cons .nils RepA.nil,by simp only [Ty.Ok]; exact .inl trivial⟩
      · have hn:fuel=n:=by omega
        subst hn
        obtain ⟨ps,p1,p2⟩:=z6kk (Q:=fun i (p:List Value × List DV)=>p.1.length=e.size∧(∀ j,j<e.size→w.cell? (a.add (i*e.size+j))=p.1[j]?)∧RepA [] (fun _ _=>False) w p.1 p.2∧e.Ok p.2) len (fun i hi=>by
          have:=he i hi
          rw [y02 (by omega),y01] at this
          obtain ⟨cs',hcs,hy⟩:=this
          obtain ⟨_,hcl,hcell⟩:=World.cells?_some hcs
          obtain ⟨_,ds,q1,q2⟩:=zy7y fuel e u _ _ hch hy
          rw [hsz] at hcl hcell
          exact ⟨(cs',ds),hcl,fun j hj=>by have:=hcell j hj; rw [Am.add_add] at this; exact this,q1,q2⟩)
        have key : ∀ (ps:List (List Value × List DV)),(∀ p ∈ ps,p.1.length=e.size∧RepA [] (fun _ _=>False) w p.1 p.2)→RepA [] (fun _ _=>False) w (ps.map (·.1)).flatten (ps.map (·.2)).flatten∧(ps.map (·.1)).flatten.length=ps.length*e.size:=by
          intro ps
          induction ps with
          | nil=>intro _; exact ⟨RepA.nil,by simp⟩
          | cons p r ih =>
            intro hp
            obtain ⟨i1,i2⟩:=ih (fun q hq=>hp q (by simp [hq]))
            obtain ⟨j1,j2⟩:=hp p (by simp)
            refine ⟨by simpa using j2.append i1,?_⟩
            simp only [y1c,y1d,y0m,i2,j1,y0p,y0z]
            omega
        have hps : ∀ p ∈ ps,p.1.length=e.size∧RepA [] (fun _ _=>False) w p.1 p.2:=fun p hp=>by
          obtain ⟨i,hi,rfl⟩:=y16.1 hp
          exact ⟨(p2 i hi).1,(p2 i hi).2.2.1⟩
        obtain ⟨k1,k2⟩:=key ps hps
        have cells : ∀ (ps:List (List Value × List DV)) (o:Nat),(∀ i (h:i<ps.length),(ps[i]).1.length=e.size ∧ ∀ j,j<e.size→w.cell? (a.add ((o+i)*e.size+j))=(ps[i]).1[j]?) → ∀ j v,(ps.map (·.1)).flatten[j]? = some v→w.cell? (a.add (o*e.size+j))=some v:=by
          intro ps
          induction ps with
          | nil=>intro o _ j v hj; simp at hj
          | cons p r ih =>
            intro o hp j v hj
            simp only [y1c,y1d] at hj
            obtain ⟨l0,c0⟩:=hp 0 (by simp)
            simp only [y10,Nat.add_zero] at l0 c0
            by_cases hjs:j<e.size
            · rw [y04 (by omega)] at hj
              rw [c0 j hjs]; exact hj
            · rw [y03 (by omega),l0] at hj
              have:=ih (o+1) (fun i hi=>by
                have:=hp (i+1) (by simpa using hi)
                simpa [show o+1+i=o+(i+1) from by omega] using this) (j-e.size) v hj
              rw [y0z,Nat.one_mul] at this
              rwa [show o*e.size+e.size+(j-e.size)=o*e.size+j from by omega] at this
        have hcell:=cells ps 0 (fun i hi=>⟨(p2 i hi).1,by simpa using (p2 i hi).2.1⟩)
        simp only [Nat.zero_mul,y1i] at hcell
        refine ⟨rfl,[.sl false e.size (ps.map (·.2)).length (ps.map (·.2)).flatten],RepA.cons ?_ RepA.nil,?_⟩
        · have hlen:(ps.map (·.2)).length=len:=by simp [p1]
          rw [hlen]
          exact znwx k1 hlc (fun hf=>by simp at hf) (by rw [← k1.1,k2,p1]) (fun j u hj=>hcell j u hj) (fun _ _ h=>h)
        · simp only [Ty.Ok]
          refine .inr ⟨ps.map (·.2),rfl,by rw [y1k,p1]; exact Nat.le_trans hlc hcm,fun g hg => ?_⟩
          obtain ⟨p,hp,rfl⟩:=List.mem_map.1 hg
          obtain ⟨i,hi,rfl⟩:=y16.1 hp
          exact (p2 i hi).2.2.2
def Ty.dv (τ:Ty) (ds:List DV):DV:=match τ with
  | .arr _ _ => .agg ds
  | .st _ => .agg ds
  | _=>ds.headD .junk
theorem zvi0 {r:Reach} {b0:Nat} {τ:Ty} {t:TypeId} {v:Value} {d:DataW H} {ps:List MemPlace} (hc:τ.chk P t=true) (hval:Value.okWide P w r b0 t v) (hd:DataW.Trod enc P w base sp held t v d ps) :
    ∃ ds,Rep [] (fun _ _=>False) w v (τ.dv ds)∧τ.Ok ds:=by
  obtain ⟨fuel,hd⟩:=hd
  obtain ⟨hl,ds,h1,h2⟩:=zy7y fuel τ t _ _ hc hd
  refine ⟨ds,?_,h2⟩
  have agg:(∃ n e,P.underlying t=some (.array n e))∨(∃ fs,P.underlying t=some (.struct fs))→Rep [] (fun _ _=>False) w v (.agg ds):=by
    intro hu
    have : ∃ cs,v = .agg cs:=by
      unfold Value.okWide at hval
      rcases hu with ⟨n,e,hu⟩|⟨fs,hu⟩<;>rw [hu] at hval<;>exact ⟨_,hval.choose_spec.1⟩
    obtain ⟨cs,rfl⟩:=this
    simpa [Value.cells] using h1.agg
  have single:τ.size=1→(∀ cs,v ≠ .agg cs)→Rep [] (fun _ _=>False) w v (ds.headD .junk):=by
    intro hs hv
    have hcells:v.cells.toList=[v]:=by
      cases v<;>first|rfl|(exact absurd rfl (hv _))
    rw [hcells] at h1
    match ds,h1 with
    | [d],h1=>exact h1.head
    | [],h1=>exact absurd h1.1 (by simp)
    | _::_::_,h1=>exact absurd h1.1 (by simp)
  cases τ with
  | arr n e =>
    simp only [Ty.chk] at hc
    split at hc<;>try (simp at hc; done)
    rename_i m u hu
    exact agg (.inl ⟨_,_,hu⟩)
  | st fs =>
    simp only [Ty.chk] at hc
    split at hc<;>try (simp at hc; done)
    rename_i l hu
    exact agg (.inr ⟨_,hu⟩)
  | int k =>
    simp only [Ty.chk] at hc
    split at hc<;>try (simp at hc; done)
    rename_i k' hu
    obtain ⟨n,hn⟩:=okWide_int hu hval
    exact single rfl (fun cs e=>by rw [hn] at e; cases e)
  | bool =>
    simp only [Ty.chk] at hc
    split at hc<;>try (simp at hc; done)
    rename_i hu
    obtain ⟨n,hn⟩:=okWide_bool hu hval
    exact single rfl (fun cs e=>by rw [hn] at e; cases e)
  | str =>
    simp only [Ty.chk] at hc
    split at hc<;>try (simp at hc; done)
    rename_i hu
    obtain ⟨n,hn⟩:=okWide_string hu hval
    exact single rfl (fun cs e=>by rw [hn] at e; cases e)
  | sl e =>
    simp only [Ty.chk] at hc
    split at hc<;>try (simp at hc; done)
    rename_i u hu
    obtain ⟨a,len,cap,hn⟩:=okWide_slice hu hval
    exact single rfl (fun cs e=>by rw [hn] at e; cases e)
def Ty.Args:List Ty→List DV→Prop
  | [],l=>l=[]
  | τ::r,l => ∃ ds l',l=τ.dv ds::l'∧τ.Ok ds∧Ty.Args r l'
theorem zciy {r:Reach} {b0:Nat} : ∀ {τs:List Ty} {ts:List TypeId} {vs:List Value} {ds:List (DataW H)} {ps:List MemPlace},τs.length=ts.length→(∀ (i:Nat) (τ:Ty) (t:TypeId),τs[i]? = some τ→ts[i]? = some t→τ.chk P t=true) →
    (∀ (j:Nat) t v,ts[j]? = some t→vs[j]? = some v→Value.okWide P w r b0 t v)→DataW.TrodAll enc P w base sp held ts vs ds ps →
    ∃ dvs,RepA [] (fun _ _=>False) w vs dvs∧Ty.Args τs dvs
  | [],[],vs,ds,ps,_,_,_,h=>by
    obtain ⟨rfl,rfl,rfl⟩:=trodAll_nil h
    exact ⟨[],RepA.nil,rfl⟩
  | [],_::_,_,_,_,hl,_,_,_=>by simp at hl
  | _::_,[],_,_,_,hl,_,_,_=>by simp at hl
  | τ::τs,t::ts,vs,ds,ps,hl,hc,hv,h=>by
    obtain ⟨v,vs',d,ds',p,q,rfl,rfl,rfl,h1,h2⟩:=trodAll_cons h
    obtain ⟨x,x1,x2⟩:=zvi0 (hc 0 τ t rfl rfl) (hv 0 t v rfl rfl) h1
    obtain ⟨l,l1,l2⟩:=zciy (by simpa using hl) (fun i τ' t' a b=>hc (i+1) τ' t' a b) (fun j t' v' a b=>hv (j+1) t' v' a b) h2
    exact ⟨τ.dv x::l,RepA.cons x1 l1,x,l,rfl,x2,l2⟩
def Ty.chkAll (P:Program):List Ty→List TypeId→Bool
  | [],[]=>true
  | τ::r,t::l=>τ.chk P t&&Ty.chkAll P r l
  | _,_=>false
theorem z53v : ∀ {τs:List Ty} {ts:List TypeId},Ty.chkAll P τs ts=true→τs.length=ts.length ∧ ∀ (i:Nat) (τ:Ty) (t:TypeId),τs[i]? = some τ→ts[i]? = some t→τ.chk P t=true
  | [],[],_=>⟨rfl,fun i τ t h=>by simp at h⟩
  | [],_::_,h=>by simp [Ty.chkAll] at h
  | _::_,[],h=>by simp [Ty.chkAll] at h
  | τ::r,t::l,h=>by
    simp only [Ty.chkAll,y08] at h
    obtain ⟨h1,h2⟩:=z53v h.2
    refine ⟨by simp [h1],fun i τ' t' a b => ?_⟩
    cases i with
    | zero=>simp at a b; subst a b; exact h.1
    | succ i=>exact h2 i τ' t' (by simpa using a) (by simpa using b)
def z9lx (P:Program) (ts:List TypeId):Bool:=ts.all fun t=>P.readableRec t&&decide (t<P.types.size)
theorem zmj8 {k:FuncId} {f:Func} {s:ChangeSpec} {apart fresh handsOn again:Bool} {W:World} {b0:Nat} {args:Array Value} {ds gs:List (DataW H)} {before:List MemPlace} (τs:List Ty)
    (hchk:Ty.chkAll P τs f.params.toList=true) (hl:laidOutB P=true) (hps:z9lx P f.params.toList=true) {tb:TypeId} (hres:f.resultTypes = #[tb]) (hbool:P.underlying tb=some .bool) (hv:s.vars=[])
    (hval : ∀ (j:Nat) t v,f.params[j]? = some t→args[j]? = some v→Value.okWide P W .any b0 t v)
    (hW:DataW.Whole enc P f.params.toList s.vars apart W args.toList ds gs before) (hs : ∀ ds:List (DataW H),τs.length=ds.length→s.fn H ds={ results:=[.lit (.bool true)],args:=ds,vars:=[] })
    (hent:Ent P k) (hlaw : ∀ dvs,Ty.Args τs dvs→Am.Sem P k dvs (.bool true)) :
    Calls P k args W fun e W' => ∃ v,e = .returned v∧s.post enc P f apart fresh handsOn again W args v W':=by
  have hW':=hW
  obtain ⟨p,q,hA,hV,_⟩:=hW'
  have hg:gs=[]:=by
    rw [hv] at hV
    exact (trodVars_none hV).1
  obtain ⟨c1,c2⟩:=z53v hchk
  obtain ⟨dvs,r1,r2⟩:=zciy c1 c2 (fun j t v a b=>hval j t v (by simpa using a) (by simpa using b)) hA
  have hlen : ∀ {ts:List TypeId} {vs:List Value} {ds:List (DataW H)} {ps:List MemPlace},DataW.TrodAll enc P W 0 (fun _=>true) true ts vs ds ps→ts.length=ds.length:=by
    intro ts
    induction ts with
    | nil=>intro vs ds ps h; obtain ⟨_,rfl,_⟩:=trodAll_nil h; rfl
    | cons t ts ih=>intro vs ds ps h; obtain ⟨v,vs',d,ds',p,q,rfl,rfl,rfl,h1,h2⟩:=trodAll_cons h; simp [ih h2]
  refine zl2r hl (fun t ht => ?_) hres hbool hv hW (by rw [hg,y0g]; exact hs ds (by rw [c1]; exact hlen hA)) r1 hent (hlaw dvs r2)
  have:=List.all_eq_true.1 hps t ht
  simpa using this
end
theorem z1k1 {ds:List DV} (h:Ty.Ok (.int .u8) ds) : ∃ x:BitVec 8,ds=[w8 x]:=by
  simp only [Ty.Ok] at h
  obtain ⟨n,rfl,hw⟩:=h
  exact ⟨_,by rw [z8op hw]⟩
theorem z1lq {α:Type} {e:Ty} {f:α→List DV} {R:α→Prop} (he : ∀ ds,e.Ok ds → ∃ a,R a∧ds=f a) : ∀ (gs:List (List DV)),(∀ g ∈ gs,e.Ok g) → ∃ l:List α,l.length=gs.length∧(∀ a ∈ l,R a)∧gs=l.map f
  | [],_=>⟨[],rfl,fun a h=>by simp at h,rfl⟩
  | g::gs,h=>by
    obtain ⟨a,ha,rfl⟩:=he g (h g (by simp))
    obtain ⟨l,h1,h2,rfl⟩:=z1lq he gs (fun g' hg=>h g' (by simp [hg]))
    refine ⟨a::l,by simp,fun b hb => ?_,rfl⟩
    rcases List.mem_cons.1 hb with rfl|hb
    · exact ha
    · exact h2 b hb
theorem z61h {α:Type} {e:Ty} {f:α→List DV} {R:α→Prop} (he : ∀ ds,e.Ok ds → ∃ a,R a∧ds=f a) {ds:List DV} (h:Ty.Ok (.sl e) ds) :
    ∃ (k:Option Bool) (l:List α),(k=none→l=[])∧(∀ a ∈ l,R a)∧ds=[slD k e.size l.length (l.flatMap f)]∧l.length≤9223372036854775807:=by
  simp only [Ty.Ok] at h
  rcases h with rfl|⟨gs,rfl,hb,h⟩
  · exact ⟨none,[],fun _=>rfl,fun a h=>by simp at h,rfl,by simp⟩
  · obtain ⟨l,h1,h2,rfl⟩:=z1lq he gs h
    exact ⟨some false,l,fun h=>by simp at h,h2,by simp [slD,List.flatMap],by simpa using hb⟩
theorem zlp4 {α:Type} {e:Ty} {n:Nat} {f:α→List DV} {R:α→Prop} (he : ∀ ds,e.Ok ds → ∃ a,R a∧ds=f a) {ds:List DV} (h:Ty.Ok (.arr n e) ds) :
    ∃ (l:List α),l.length=n∧(∀ a ∈ l,R a)∧ds=l.flatMap f:=by
  simp only [Ty.Ok] at h
  obtain ⟨gs,rfl,rfl,h⟩:=h
  obtain ⟨l,h1,h2,rfl⟩:=z1lq he gs h
  exact ⟨l,by simp,h2,by simp [List.flatMap]⟩
theorem zo4q {α:Type} {l:List α} {f:α→DV}:(l.flatMap fun a=>[f a])=l.map f:=by
  induction l with
  | nil=>rfl
  | cons a r ih=>simp [ih]
theorem zo4o {ds:List DV} (h:Ty.Ok (.int .u8) ds) : ∃ x:BitVec 8,True∧ds=[w8 x]:=let ⟨x,h⟩:=z1k1 h; ⟨x,trivial,h⟩
theorem zgcd {n:Nat} {ds:List DV} (h:Ty.Ok (.arr n (.int .u8)) ds) : ∃ (b:List (BitVec 8)),b.length=n∧ds=b.map w8:=by
  obtain ⟨l,h1,_,h3⟩:=zlp4 (f:=fun x:BitVec 8=>[w8 x]) (R:=fun _=>True) (fun ds h=>zo4o h) h
  exact ⟨l,h1,by rw [h3,zo4q]⟩
theorem zrcx {ds:List DV} (h:Ty.Ok (.int .i64) ds) : ∃ n:Int,(-9223372036854775808≤n∧n≤9223372036854775807)∧ds=[.int .i64 n]:=by
  simp only [Ty.Ok] at h
  obtain ⟨n,rfl,hw⟩:=h
  exact ⟨n,by simpa [Lit.wf,IntKind.min,IntKind.max,IntKind.signed,IntKind.bits] using hw,rfl⟩
end Go.Am
namespace Go.Am
open Go Go.RowKit
theorem zcn6 {a b:List UInt8}:(a == b)=decide (a=b):=by by_cases h:a=b<;>simp [h]
theorem zl30 {a b:List UInt8}:zhl4 .eql (.str a) (.str b)=some (.bool (decide (a=b))):=by simp [zhl4,zdnj,zcn6]
theorem zqjb {a b:List UInt8}:zhl4 .neq (.str a) (.str b)=some (.bool (decide (¬ a=b))):=by simp [zhl4,zdnj,zcn6]
theorem zmx8 {a b:List UInt8} (h:a.length+b.length≤4611686018427387904):zhl4 .add (.str a) (.str b)=some (.str (a++b)):=by simp [zhl4,zdnj,h]
attribute [simp] zl30 zqjb zmx8
end Go.Am
set_option linter.unusedSimpArgs false
set_option linter.unusedVariables false
namespace Go.Am
open Go.RowKit
def fzLo (n:Nat) (h:List AObj) (k:Nat) (l:List DV):Option (List DV):=zp5p (fz n h k) l
section
variable {h:List AObj} {n k:Nat}
theorem zqge {d:DV} (hp:zyp8 d=true):fz n h k d=some d:=by
  cases k<;>exact z9j8 _ d hp
theorem zojd : ∀ {l:List DV},zbao l=true→fzLo n h k l=some l
  | [],_=>rfl
  | d::r,hp=>by
    simp only [zbao,y08] at hp
    have:=zojd hp.2
    simp only [fzLo] at this
    simp only [fzLo,zp5p,zqge hp.1,this,y05,y0f]
theorem zpxx {a:IntKind} {m:Int}:fz n h k (.int a m)=some (.int a m):=zqge rfl
theorem zrbl {b:Bool}:fz n h k (.bool b)=some (.bool b):=zqge rfl
theorem zuhm {s:List UInt8}:fz n h k (.str s)=some (.str s):=zqge rfl
theorem zx99:fz n h k .nils=some .nils:=zqge rfl
theorem zltv:fz n h k .nilp=some .nilp:=zqge rfl
theorem zn19:fz n h k .nilf=some .nilf:=zqge rfl
theorem zneb:fz n h k .junk=some .junk:=zqge rfl
theorem zv0m {cs:List DV}:fz n h k (.agg cs)=(fzLo n h k cs).map .agg:=by cases k<;>simp only [fz,zcxt,zncu,fzLo]<;>rfl
theorem zi57 {cs:List DV}:fz n h k (.tup cs)=(fzLo n h k cs).map .tup:=by cases k<;>simp only [fz,zcxt,zncu,fzLo]<;>rfl
theorem zhs0 {b:Bool} {s m:Nat} {cs:List DV}:fz n h k (.sl b s m cs)=(fzLo n h k cs).map (.sl b s m):=by cases k<;>simp only [fz,zcxt,zncu,fzLo]<;>rfl
theorem zgqq {cs:List DV}:fz n h k (.ref cs)=(fzLo n h k cs).map .ref:=by cases k<;>simp only [fz,zcxt,zncu,fzLo]<;>rfl
theorem zlvw {f:Fn} {a b:List DV}:fz n h k (.fn f a b)=(fzLo n h k a).bind fun a=>(fzLo n h k b).map fun b => .fn f a b:=by cases k<;>simp only [fz,zcxt,zncu,fzLo]<;>rfl
theorem zqci {id ver off s m lim:Nat} (hl:id<n):fz n h k (.ms id ver off s m lim)=some (.ms id ver off s m lim):=by
  cases k<;>simp [fz,zcxt,hl]
theorem zu8i {id ver off:Nat} (hl:id<n):fz n h k (.mp id ver off)=some (.mp id ver off):=by
  cases k<;>simp [fz,zcxt,hl]
theorem zcr1 {id ver off s m lim:Nat} (hl:n≤id):fz n h (k+1) (.ms id ver off s m lim)=(objV h id ver).bind fun l=>(fzLo n h k ((l.drop off).take (m*s))).map (.sl false s m):=by
  simp only [fz,zcxt,objV,fzLo,if_neg (show ¬ id<n by omega)]
  cases ziu0 h id with
  | none=>rfl
  | some l =>
    simp only [y05]
    split<;>rfl
theorem zwnt {id ver off:Nat} (hl:n≤id):fz n h (k+1) (.mp id ver off)=(objV h id ver).bind fun l=>(fzLo n h k (l.drop off)).map .ref:=by
  simp only [fz,zcxt,objV,fzLo,if_neg (show ¬ id<n by omega)]
  cases ziu0 h id with
  | none=>rfl
  | some l =>
    simp only [y05]
    split<;>rfl
theorem zkbv:fzLo n h k []=some []:=rfl
theorem z89m {d:DV} {r:List DV}:fzLo n h k (d::r)=(fz n h k d).bind fun d=>(fzLo n h k r).map fun r=>d::r:=rfl
theorem z70j {l:List (BitVec 8)}:fzLo n h k (l.map w8)=some (l.map w8):=zojd zdqb
theorem z7xu:fzL n h [] []=True:=rfl
theorem zgem {a:DV} {r s:List DV}:fzL n h (a::r) (.junk::s)=fzL n h r s:=by simp [fzL]
theorem zecs {a b:DV} {r s:List DV} (e:fz n h 3 a=some b):fzL n h (a::r) (b::s)=fzL n h r s:=by simp [fzL,e]
theorem zf97 : ∀ {l r:List DV},fzLo n h 3 l=some r→fzL n h l r
  | [],r,e=>by simp [zkbv] at e; subst e; trivial
  | d::l,r,e=>by
    simp only [z89m,y01,y00] at e
    obtain ⟨d',h1,r',h2,rfl⟩:=e
    exact ⟨.inr h1,zf97 h2⟩
theorem znnb {l:List DV} (hp:zbao l=true):fzL n h l l:=zf97 (zojd hp)
theorem zwn5 {a b:List DV} (e:fzLo n h 3 a=some b):fzL n h a b=True:=eq_true (zf97 e)
theorem zm11 {l:List AObj}:fzH n h l []=True:=by cases l<;>simp [fzH]
theorem z5xv {a b:List DV} {r s:List AObj}:fzH n h (.cells a::r) (.cells b::s)=(fzL n h a b∧fzH n h r s):=by simp [fzH]
theorem zby9 {r s:List AObj}:fzH n h (.dead::r) (.dead::s)=fzH n h r s:=by simp [fzH]
theorem zw41 : ∀ {l:List DV},(∀ d ∈ l,fz n h 3 d=some d)→fzL n h l l
  | [],_=>trivial
  | d::r,hp=>⟨.inr (hp d (by simp)),zw41 fun x hx=>hp x (by simp [hx])⟩
theorem zehh {t:List DV}:outF n [] t h=some (.tup []):=rfl
theorem zofw {a:ARes} {t:List DV}:outF n [a] t h=(resD t h a).bind (fz n h 3):=by simp only [outF,zv4g]
theorem zu31 {a b:ARes} {t:List DV}:outF n [a,b] t h=(resD t h a).bind fun x=>(resD t h b).bind fun y=>fz n h 3 (.tup [x,y]):=by
  simp only [outF,zxgc,zp5p,z2gc]
  cases resD t h a<;>try rfl
  cases resD t h b<;>rfl
theorem zliv {a b c:ARes} {t:List DV}:outF n [a,b,c] t h=(resD t h a).bind fun x=>(resD t h b).bind fun y=>(resD t h c).bind fun z=>fz n h 3 (.tup [x,y,z]):=by
  simp only [outF,zxgc,zp5p,z2gc]
  cases resD t h a<;>cases resD t h b<;>cases resD t h c<;>rfl
theorem zt7b {a b c:ARes} {t:List DV}:outD [a,b,c] t h=(resD t h a).bind fun x=>(resD t h b).bind fun y=>(resD t h c).bind fun z=>snap h 3 (.tup [x,y,z]):=by
  simp only [outD,zxgc,zp5p,z2gc]
  cases resD t h a<;>cases resD t h b<;>cases resD t h c<;>rfl
theorem za0f {a b:ARes} {t:List DV}:zxgc [a,b] ⟨t,h⟩=(resD t h a).bind fun x=>(resD t h b).map fun y => .tup [x,y]:=by
  simp only [zxgc,zp5p,z2gc]
  cases resD t h a<;>cases resD t h b<;>rfl
theorem z04z {a b c:ARes} {t:List DV}:zxgc [a,b,c] ⟨t,h⟩=(resD t h a).bind fun x=>(resD t h b).bind fun y=>(resD t h c).map fun z => .tup [x,y,z]:=by
  simp only [zxgc,zp5p,z2gc]
  cases resD t h a<;>cases resD t h b<;>cases resD t h c<;>rfl
end
section
variable {h:List AObj} {s m:Nat} {f:Bool} {cs:List DV}
theorem zvcc {k k':IntKind}:ziwb h s .nils none (some (.int k 0)) (some (.int k' 0))=some .nils:=by simp [ziwb,zo77,iD]
theorem zp2i {k k':IntKind}:ziwb h s (.sl f s m cs) none (some (.int k 0)) (some (.int k' 0))=some (.sl true s 0 []):=by simp [ziwb,zo77,iD]
theorem z4h5 {i v o:Nat} {b:DV}:z87v (.mp i v o) b=(b.known&&decide (zi6q b≠some i)):=by
  cases b<;>simp [z87v,zi6q,DV.known,bne,eq_comm]<;>(first|rfl|(rw [y07]; simp [eq_comm])|skip)
theorem zv0w {i v o s n l:Nat} {b:DV}:z87v (.ms i v o s n l) b=(b.known&&decide (zi6q b≠some i)):=by
  cases b<;>simp [z87v,zi6q,DV.known,bne,eq_comm]<;>(first|rfl|(rw [y07]; simp [eq_comm])|skip)
theorem zd7a {a b:DV} (ha:zi6q a=none):z87v a b=b.known:=by
  cases b<;>simp [z87v,ha,DV.known]
theorem zcd8 {cs:List DV} {b:DV}:z87v (.ref cs) b=b.known:=zd7a rfl
theorem zhyd {f:Bool} {s n:Nat} {cs:List DV} {b:DV}:z87v (.sl f s n cs) b=b.known:=zd7a rfl
theorem z8bo {b:DV}:z87v .nils b=b.known:=zd7a rfl
theorem zdyq {i v o:Nat}:zi6q (.mp i v o)=some i:=rfl
theorem z4ox {i v o s n l:Nat}:zi6q (.ms i v o s n l)=some i:=rfl
theorem zbqi {f:Bool} {s n:Nat} {cs:List DV}:zi6q (.sl f s n cs)=none:=rfl
theorem zvj0:zi6q .nils=none:=rfl
theorem z7ty {id ver off lim:Nat} {zs:List DV} (hz:zs.length=s) (h0:0<s) (ho:zs.all DV.one=true) (hf:off+m*s≤ver):clrD h s zs (.ms id ver off s m lim)=(objV h id ver).map fun l=>(.tup [],h.set id (.cells (zk7y l off (reps m zs)))):=by
  simp only [clrD,objV,hz,h0,ho,hf,true_and,and_true]
  cases ziu0 h id with
  | none=>rfl
  | some l =>
    simp only [y05]
    split<;>rfl
end
attribute [simp] z4h5 zv0w zcd8 zhyd z8bo zdyq z4ox zbqi zvj0
attribute [simp] zpxx zrbl zuhm zx99 zltv zn19 zneb zv0m zi57 zhs0 zgqq zlvw zqci zu8i zcr1 zwnt zkbv z89m z70j z7xu zgem zecs zwn5 zm11 z5xv zby9 zehh zofw zu31 zliv zt7b za0f z04z zuvb zvwr zvcc zp2i
end Go.Am
set_option linter.unusedSimpArgs false
set_option linter.unusedVariables false
namespace Go.Am
open Go.RowKit
mutual
/-- objects renumbered -/
def shD (n:Nat):DV→DV
  | .agg cs => .agg (shL n cs)
  | .tup cs => .tup (shL n cs)
  | .sl b s m cs => .sl b s m (shL n cs)
  | .ref cs => .ref (shL n cs)
  | .fn f a b => .fn f (shL n a) (shL n b)
  | .iface t v => .iface t (shD n v)
  | .ms id ver off s m lim => .ms (n+id) ver off s m lim
  | .mp id ver off => .mp (n+id) ver off
  | .int k m => .int k m
  | .bool b => .bool b
  | .str s => .str s
  | .nilp => .nilp
  | .nilm => .nilm
  | .nilf => .nilf
  | .nili => .nili
  | .nils => .nils
  | .junk => .junk
def shL (n:Nat):List DV→List DV
  | []=>[]
  | d::r=>shD n d::shL n r
end
def shO (n:Nat):AObj→AObj
  | .cells cs => .cells (shL n cs)
  | .dead => .dead
theorem ztrt (n:Nat) : ∀ (l:List DV),shL n l=l.map (shD n)
  | []=>rfl
  | d::r=>by simp only [shL,y1c,ztrt n r]
theorem znm2 (n:Nat) (l:List DV):(shL n l).length=l.length:=by simp [ztrt]
mutual
theorem za7m (n:Nat) : ∀ (d:DV),zyp8 d=true→shD n d=d
  | .agg cs,h=>by simp only [zyp8] at h; simp only [shD,zj45 n cs h]
  | .tup cs,h=>by simp only [zyp8] at h; simp only [shD,zj45 n cs h]
  | .sl b s m cs,h=>by simp only [zyp8] at h; simp only [shD,zj45 n cs h]
  | .ref cs,h=>by simp only [zyp8] at h; simp only [shD,zj45 n cs h]
  | .fn f a b,h=>by simp only [zyp8,y08] at h; simp only [shD,zj45 n a h.1,zj45 n b h.2]
  | .iface t v,h=>by simp only [zyp8] at h; simp only [shD,za7m n v h]
  | .ms ..,h=>by simp [zyp8] at h
  | .mp ..,h=>by simp [zyp8] at h
  | .int ..,_=>rfl
  | .bool ..,_=>rfl
  | .str ..,_=>rfl
  | .nilp,_=>rfl
  | .nilm,_=>rfl
  | .nilf,_=>rfl
  | .nili,_=>rfl
  | .nils,_=>rfl
  | .junk,_=>rfl
theorem zj45 (n:Nat) : ∀ (l:List DV),zbao l=true→shL n l=l
  | [],_=>rfl
  | d::r,h=>by simp only [zbao,y08] at h; simp only [shL,za7m n d h.1,zj45 n r h.2]
end

theorem zsfp {n:Nat} {ds:List DV} {i:Nat} (h:i<(shL n ds).length):(shL n ds)[i]=shD n (ds[i]'(by rwa [znm2] at h)):=by simp [ztrt]
theorem Rep.shift {E E':Env} {X X':Forb} {w:World} {v:Value} {d:DV} (h:Rep E' X w v d) (hX : ∀ b o,X' b o→X b o):Rep (E++E') X' w v (shD E.length d):=by
  induction h with
  | int k n=>exact .int k n
  | bool b=>exact .bool b
  | str s l h=>exact .str s l h
  | agg cs ds hl _ ih=>exact .agg cs _ (by rw [znm2]; exact hl) (fun i h1 h2=>by rw [zsfp]; exact ih i h1 (by rwa [znm2] at h2))
  | tup cs ds hl _ ih=>exact .tup cs _ (by rw [znm2]; exact hl) (fun i h1 h2=>by rw [zsfp]; exact ih i h1 (by rwa [znm2] at h2))
  | nilp=>exact .nilp
  | nilm=>exact .nilm
  | nilf=>exact .nilf
  | nili=>exact .nili
  | nils=>exact .nils
  | sl full s n cap a ds cv hn hf hl hc hx _ ih =>
    exact .sl full s n cap a _ cv hn hf (by rw [znm2]; exact hl) (fun i hi=>hc i (by rwa [znm2] at hi)) (fun i hi h'=>hx i (by rwa [znm2] at hi) (hX _ _ h')) (fun i h1=>by rw [zsfp]; exact ih i (by rwa [znm2] at h1))
  | ref a ds cv hc hx _ ih =>
    exact .ref a _ cv (fun i hi=>hc i (by rwa [znm2] at hi)) (fun i hi h'=>hx i (by rwa [znm2] at hi) (hX _ _ h')) (fun i h1=>by rw [zsfp]; exact ih i (by rwa [znm2] at h1))
  | fn f first captured df dc h1 h2 _ _ ih1 ih2 =>
    exact .fn f first captured _ _ (by rw [znm2]; exact h1) (by rw [znm2]; exact h2) (fun i a b=>by rw [zsfp]; exact ih1 i a (by rwa [znm2] at b)) (fun i a b=>by rw [zsfp]; exact ih2 i a (by rwa [znm2] at b))
  | iface t v d _ ih=>exact .iface t v _ ih
  | ms id ver off s n lim a k cap hid h =>
    refine .ms _ ver off s n lim a k cap (by rw [y0m]; omega) (fun b L he=>h b L ?_)
    rwa [y03 (by omega),y1j] at he
  | mp id ver off a hid h =>
    refine .mp _ ver off a (by rw [y0m]; omega) (fun b L he=>h b L ?_)
    rwa [y03 (by omega),y1j] at he
  | junk v=>exact .junk v
theorem zwy1.new {P:Program} {g:FuncId} {args:List DV} {d:DV} {k:List AObj} (hp:zbao args=true) (hc:zwy1 P g args [] (fun r h'=>r=d∧h'=k)) (h:List AObj) :
    zwy1 P g args h (fun r h'=>r=shD h.length d∧h'=h++k.map (shO h.length)):=by
  refine fun X0 base w E vs hh hr => ?_
  have hlive : ∀ {id b L:Nat},E[id]? = some (some (b,L))→b<w.heap.size:=fun hE=>by
    obtain ⟨_,_,_,_,_,_,g,_⟩:=hh.live hE
    exact (Array.getElem?_eq_some_iff.1 g).1
  have hX : ∀ b o,FX X0 E b o→b<w.heap.size:=by
    rintro b o (q|⟨id,L,q⟩)
    · exact (hh.x0 b o q).1
    · exact hlive q
  have h0:HeapRel (FX X0 E) w.heap.size w [] []:=⟨rfl,fun b o q=>⟨hX b o q,fun id L hL=>by simp at hL⟩,y1v _,fun id cs hid=>by simp at hid,fun id hid=>by simp at hid,fun id id' b L b' L' _ h1=>by simp at h1⟩
  have hfx : ∀ b o,FX (FX X0 E) [] b o→FX X0 E b o:=by
    rintro b o (q|⟨id,L,q⟩)
    · exact q
    · simp at q
  refine (hc (FX X0 E) w.heap.size w [] vs h0 ⟨hr.1,fun i h1 h2=>((hr.2 i h1 h2).env (zf6b hp i h2)).less hfx⟩).mono fun e w' ⟨v,r,k',E',e1,⟨er,ek⟩,e3,e4,e5⟩ => ?_
  subst er ek
  obtain ⟨hh',ht⟩:=zzjs hh e5.below
  have hlenE:E.length=h.length:=hh.len
  have hlenE':E'.length=k'.length:=e3.len
  have hnew : ∀ {id b L:Nat},E'[id]? = some (some (b,L))→w.heap.size≤b:=fun hE=>by
    obtain ⟨_,_,_,_,_,q,_,_⟩:=e3.live hE
    exact q
  have hFX : ∀ b o,FX X0 (E++E') b o→FX (FX X0 E) E' b o:=by
    rintro b o (q|⟨id,L,q⟩)
    · exact .inl (.inl q)
    · by_cases hi:id<E.length
      · rw [y04 hi] at q; exact .inl (.inr ⟨id,L,q⟩)
      · rw [y03 (by omega)] at q; exact .inr ⟨_,L,q⟩
  have htr:Trans X0 base E w (E++E') w':=by
    refine ⟨⟨by rw [y0m]; omega,fun id hid b' L' h' => ?_⟩,⟨fun a u hcu hx => ?_⟩,ht.below,ht.others,fun b hb hl=>⟨(ht.frame b hb hl).1,fun id L hL => ?_⟩⟩
    rotate_left 2
    · by_cases hi:id<E.length
      · rw [y04 hi] at hL; exact hl id L hL
      · rw [y03 (by omega)] at hL
        have:=hnew hL
        omega
    · rw [y04 hid] at h'
      exact ht.env.at_ id hid b' L' h'
    · obtain ⟨q1,q2⟩:=ht.keep.cell a u hcu hx
      refine ⟨q1,fun q => ?_⟩
      rcases q with q|⟨id,L,q⟩
      · exact q2 (.inl q)
      · by_cases hi:id<E.length
        · rw [y04 hi] at q; exact q2 (.inr ⟨id,L,q⟩)
        · rw [y03 (by omega)] at q
          have:=hnew q
          have:=z4pf hcu
          omega
  refine ⟨v,shD h.length r,h++k'.map (shO h.length),E++E',e1,⟨rfl,rfl⟩,⟨by simp [hlenE,hlenE'],hh.x0' htr,hh'.size,fun id cs hid => ?_,fun id hid => ?_,fun id id' b L b' L' hne h1 h2 => ?_⟩,?_,htr⟩
  · by_cases hi:id<h.length
    · rw [y04 hi] at hid
      obtain ⟨b,arr,t,g1,g2,g3,g4,g5⟩:=hh.cells id cs hid
      obtain ⟨b',arr',t',q1,q2,q3,q4,q5⟩:=hh'.cells id cs hid
      rw [g1] at q1
      simp only [Option.some.injEq,Prod.mk.injEq] at q1
      obtain ⟨rfl,_⟩:=q1
      have hbs:=e5.below.block b (hlive g1)
      rw [hbs,g3] at q3
      simp only [Option.some.injEq,Obj.cells.injEq] at q3
      obtain ⟨rfl,rfl,_⟩:=q3
      exact ⟨b,arr,t,by rw [y04 (by omega)]; exact g1,g2,by rw [hbs]; exact g3,g4,fun i h1 h2=>htr.rep (g5 i h1 h2)⟩
    · rw [y03 (by omega),List.getElem?_map] at hid
      obtain ⟨o,ho,hoe⟩:=y00.1 hid
      cases o with
      | dead=>simp [shO] at hoe
      | cells cs0 =>
        simp only [shO,AObj.cells.injEq] at hoe
        subst hoe
        obtain ⟨b,arr,t,g1,g2,g3,g4,g5⟩:=e3.cells _ cs0 ho
        refine ⟨b,arr,t,by rw [y03 (by omega),hlenE,znm2]; exact g1,Nat.le_trans hh.size g2,g3,by rw [znm2]; exact g4,fun i h1 h2 => ?_⟩
        have:=Rep.shift (E:=E) (g5 i (by rwa [znm2] at h1) h2) hFX
        rw [hlenE] at this
        rw [zsfp]
        exact this
  · by_cases hi:id<h.length
    · rw [y04 hi] at hid
      rw [y04 (by omega)]
      exact hh.dead id hid
    · rw [y03 (by omega),List.getElem?_map] at hid
      obtain ⟨o,ho,hoe⟩:=y00.1 hid
      cases o with
      | cells cs0=>simp [shO] at hoe
      | dead=>rw [y03 (by omega),hlenE]; exact e3.dead _ ho
  · by_cases hi:id<E.length
    · rw [y04 hi] at h1
      by_cases hi':id'<E.length
      · rw [y04 hi'] at h2; exact hh.apart _ _ _ _ _ _ hne h1 h2
      · rw [y03 (by omega)] at h2
        have:=hlive h1; have:=hnew h2; omega
    · rw [y03 (by omega)] at h1
      by_cases hi':id'<E.length
      · rw [y04 hi'] at h2
        have:=hlive h2; have:=hnew h1; omega
      · rw [y03 (by omega)] at h2
        exact e3.apart _ _ _ _ _ _ (by omega) h1 h2
  · rw [← hlenE]
    exact e4.shift hFX
open Classical in
noncomputable def conN {α:Type} (A:α→Prop) (f:α→List DV) (g:α→DV × List AObj) (args:List DV) (n:Nat):Option (DV × List AObj) :=
  if h : ∃ a,A a∧f a=args then some (shD n (g h.choose).1,(g h.choose).2.map (shO n)) else none
theorem zqtp {α:Type} {A:α→Prop} {f:α→List DV} {g:α→DV × List AObj} (hinj : ∀ a b,f a=f b→g a=g b) (a:α) (ha:A a) (n:Nat):conN A f g (f a) n=some (shD n (g a).1,(g a).2.map (shO n)):=by
  have h : ∃ b,A b∧f b=f a:=⟨a,ha,rfl⟩
  unfold conN
  rw [dif_pos h,hinj _ _ h.choose_spec.2]
theorem z3ld {P:Program} {k:FuncId} {α:Type} {A:α→Prop} {f:α→List DV} {g:α→DV × List AObj} (hp : ∀ a,A a→zbao (f a)=true) (hs : ∀ a,A a→zwy1 P k (f a) [] (fun d h=>d=(g a).1∧h=(g a).2)):(Con.new (conN A f g)).Sound P k:=by
  intro args h v k' hv
  unfold conN at hv
  split at hv
  · rename_i hx
    simp only [Option.some.injEq,Prod.mk.injEq] at hv
    obtain ⟨rfl,rfl⟩:=hv
    have:=(hs _ hx.choose_spec.1).new (hp _ hx.choose_spec.1) h
    rw [hx.choose_spec.2] at this
    exact this
  · simp at hv
theorem z96c {n:Nat} {k:IntKind} {m:Int}:shD n (.int k m) = .int k m:=rfl
theorem z820 {n:Nat} {cs:List DV}:shD n (.agg cs) = .agg (shL n cs):=rfl
theorem z0dn {n:Nat} {cs:List DV}:shD n (.tup cs) = .tup (shL n cs):=rfl
theorem z416 {n id ver off s m lim:Nat}:shD n (.ms id ver off s m lim) = .ms (n+id) ver off s m lim:=rfl
theorem z6iw {n id ver off:Nat}:shD n (.mp id ver off) = .mp (n+id) ver off:=rfl
theorem z623 {n:Nat}:shL n []=[]:=rfl
theorem zz2n {n:Nat} {d:DV} {r:List DV}:shL n (d::r)=shD n d::shL n r:=rfl
theorem z05k {n:Nat} {cs:List DV}:shO n (.cells cs) = .cells (shL n cs):=rfl
theorem zg6l {n:Nat}:shD n .nils = .nils:=rfl
attribute [simp] z96c z820 z0dn z416 z6iw z623 zz2n z05k zg6l
end Go.Am
set_option linter.unusedSimpArgs false
set_option linter.unusedVariables false
namespace Go.Am
open Go.RowKit
theorem zwy1.tch {P:Program} {g:FuncId} {r l l':List DV} {v:DV} (hp:zbao r=true) (hl:zbao l=true) (hv:zyp8 v=true) (hl':zbao l'=true)
    (hc:zwy1 P g (.mp 0 l.length 0::r) [.cells l] (fun d h'=>d=v∧h'=[.cells l'])) {h:List AObj} {id:Nat} (ho:ziu0 h id=some l) :
    zwy1 P g (.mp id l.length 0::r) h (fun d k=>d=v∧k=h.set id (.cells l')):=by
  refine fun X0 base w E vs hh hr => ?_
  have hid:h[id]? = some (.cells l):=by
    unfold ziu0 at ho
    split at ho
    · rename_i e; simp at ho; subst ho; exact e
    · simp at ho
  obtain ⟨b,arr,t,g1,g2,g3,g4,g5⟩:=hh.cells id l hid
  have hlive : ∀ {j c L:Nat},E[j]? = some (some (c,L))→c<w.heap.size:=fun hE=>by
    obtain ⟨_,_,_,_,_,_,g,_⟩:=hh.live hE
    exact (Array.getElem?_eq_some_iff.1 g).1
  have hone : ∀ {j c L:Nat},[some (b,l.length)][j]? = some (some (c,L))→j=0∧c=b∧L=l.length:=fun {j c L} q=>by
    cases j with
    | zero=>simp at q; exact ⟨rfl,q.1.symm,q.2.symm⟩
    | succ j=>simp at q
  have hfx : ∀ c o,FX (fun c o=>FX X0 E c o∧c≠b) [some (b,l.length)] c o→FX X0 E c o:=by
    rintro c o (q|⟨j,L,q⟩)
    · exact q.1
    · obtain ⟨_,rfl,_⟩:=hone q
      exact .inr ⟨id,_,g1⟩
  have h0:HeapRel (fun c o=>FX X0 E c o∧c≠b) base w [.cells l] [some (b,l.length)]:=by
    refine ⟨rfl,fun c o q=>⟨?_,fun j L q'=>q.2 (hone q').2.1⟩,hh.size,fun j cs hj => ?_,fun j hj => ?_,fun j j' c L c' L' hne h1 h2=>absurd ((hone h1).1.trans (hone h2).1.symm) hne⟩
    · rcases q.1 with q|⟨j,L,q⟩
      · exact (hh.x0 _ _ q).1
      · exact hlive q
    · cases j with
      | succ j=>simp at hj
      | zero =>
        simp at hj
        subst hj
        exact ⟨b,arr,t,rfl,g2,g3,g4,fun i h1 h2=>((g5 i h1 h2).env (zf6b hl i h1)).less hfx⟩
    · cases j with
      | succ j=>simp at hj
      | zero=>simp at hj
  have hargs:RepA [some (b,l.length)] (FX (fun c o=>FX X0 E c o∧c≠b) [some (b,l.length)]) w vs.toList (.mp 0 l.length 0::r):=by
    refine ⟨by simpa using hr.1,fun i h1 h2 => ?_⟩
    have:=hr.2 i h1 (by simpa using h2)
    cases i with
    | zero =>
      simp only [y10] at this ⊢
      generalize vs.toList[0]=x at this ⊢
      cases this with
      | mp _ _ _ a hid' hm =>
        refine .mp 0 _ _ a (by simp) (fun c L q => ?_)
        obtain ⟨_,rfl,rfl⟩:=hone q
        exact hm _ _ g1
    | succ i =>
      simp only [List.getElem_cons_succ] at this ⊢
      exact (this.env (zf6b hp i _)).less hfx
  refine (hc _ base w _ vs h0 hargs).mono fun e w' ⟨v0,d,k,E',e1,⟨ed,ek⟩,e3,e4,e5⟩ => ?_
  subst ed ek
  obtain ⟨b2,arr2,t2,q1,q2,q3,q4,q5⟩:=e3.cells 0 l' rfl
  have hlt:id<E.length:=(y0u.1 g1).1
  have hlt':id<h.length:=by rw [← hh.len]; exact hlt
  have other : ∀ {j c L:Nat},id≠j→E[j]? = some (some (c,L))→c≠b∧w'.heap[c]? = w.heap[c]? ∧ c≠b2:=fun {j c L} hne q=>by
    have hcb:c≠b:=hh.apart _ _ _ _ _ _ (Ne.symm hne) q g1
    obtain ⟨f1,f2⟩:=e5.frame c (hlive q) (fun j' L' q'=>hcb (hone q').2.1)
    exact ⟨hcb,f1,fun e=>f2 0 _ (by rw [e]; exact q1)⟩
  have hset : ∀ {j c L:Nat},(E.set id (some (b2,l'.length)))[j]? = some (some (c,L))→(j=id∧c=b2∧L=l'.length)∨(id≠j∧E[j]? = some (some (c,L))):=fun {j c L} q=>by
    by_cases e:id=j
    · subst e; rw [y0o hlt] at q; simp at q; exact .inl ⟨rfl,q.1.symm,q.2.symm⟩
    · rw [y0q e] at q; exact .inr ⟨e,q⟩
  have hFX : ∀ c o,FX X0 (E.set id (some (b2,l'.length))) c o→FX (fun c o=>FX X0 E c o∧c≠b) E' c o:=by
    rintro c o (q|⟨j,L,q⟩)
    · exact .inl ⟨.inl q,fun e=>(hh.x0 _ _ q).2 id l.length (by rw [e]; exact g1)⟩
    · rcases hset q with ⟨_,rfl,_⟩|⟨hne,q⟩
      · exact .inr ⟨0,_,q1⟩
      · exact .inl ⟨.inr ⟨j,L,q⟩,(other hne q).1⟩
  have htr:Trans X0 base E w (E.set id (some (b2,l'.length))) w':=by
    refine ⟨⟨by simp,fun j hj c L q => ?_⟩,⟨fun a u hcu hx => ?_⟩,e5.below,e5.others,fun c hc hl => ?_⟩
    · rcases hset q with ⟨rfl,rfl,rfl⟩|⟨hne,q⟩
      · obtain ⟨b0,L0,k1,k2,k3⟩:=e5.env.at_ 0 (by simp) _ _ q1
        obtain ⟨_,rfl,rfl⟩:=hone k1
        exact ⟨_,_,g1,k2,k3⟩
      · refine ⟨c,L,q,y1v _,fun _=>⟨rfl,fun c' t' fr' hc'=>⟨c',t',fr',?_,rfl⟩⟩⟩
        rw [← (other hne q).2.1]; exact hc'
    · obtain ⟨k1,k2⟩:=e5.keep.cell a u hcu (fun q=>hx (hfx _ _ q))
      exact ⟨k1,fun q=>k2 (hFX _ _ q)⟩
    · obtain ⟨k1,k2⟩:=e5.frame c hc (fun j L q=>by
        obtain ⟨_,rfl,rfl⟩:=hone q
        exact hl id _ g1)
      refine ⟨k1,fun j L q => ?_⟩
      rcases hset q with ⟨_,rfl,_⟩|⟨_,q⟩
      · exact k2 0 _ q1
      · exact hl j L q
  refine ⟨v0,d,h.set id (.cells l'),E.set id (some (b2,l'.length)),e1,⟨rfl,rfl⟩,⟨by simp [hh.len],hh.x0' htr,e3.size,fun j cs hj => ?_,fun j hj => ?_,fun j j' c L c' L' hne h1 h2 => ?_⟩,(e4.env hv).less hFX,htr⟩
  · by_cases e:id=j
    · subst e; rw [y0o hlt'] at hj; simp at hj; subst hj
      exact ⟨b2,arr2,t2,y0o hlt,q2,q3,q4,fun i h1 h2=>((q5 i h1 h2).env (zf6b hl' i h1)).less hFX⟩
    · rw [y0q e] at hj
      obtain ⟨c,ar,t',k1,k2,k3,k4,k5⟩:=hh.cells j cs hj
      exact ⟨c,ar,t',by rw [y0q e]; exact k1,k2,by rw [(other e k1).2.1]; exact k3,k4,fun i h1 h2=>htr.rep (k5 i h1 h2)⟩
  · by_cases e:id=j
    · subst e; rw [y0o hlt'] at hj; simp at hj
    · rw [y0q e] at hj ⊢; exact hh.dead j hj
  · rcases hset h1 with ⟨k1,k2,_⟩|⟨k1,k2⟩<;>rcases hset h2 with ⟨m1,m2,_⟩|⟨m1,m2⟩
    · exact absurd (k1.trans m1.symm) hne
    · rw [k2]; exact Ne.symm (other m1 m2).2.2
    · rw [m2]; exact (other k1 k2).2.2
    · exact hh.apart _ _ _ _ _ _ hne k2 m2
open Classical in
noncomputable def conT {α:Type} (A:α→Prop) (f s:α→List DV) (g:α→DV × List DV) (r l:List DV):Option (DV × List DV) :=
  if h : ∃ a,A a∧f a=r∧s a=l then some (g h.choose) else none
theorem ztyo {α:Type} {A:α→Prop} {f s:α→List DV} {g:α→DV × List DV} (hinj : ∀ a b,f a=f b→s a=s b→g a=g b) (a:α) (ha:A a):conT A f s g (f a) (s a)=some (g a):=by
  have h : ∃ b,A b∧f b=f a∧s b=s a:=⟨a,ha,rfl,rfl⟩
  unfold conT
  rw [dif_pos h,hinj _ _ h.choose_spec.2.1 h.choose_spec.2.2]
theorem z0tq {P:Program} {k:FuncId} {α:Type} {A:α→Prop} {f s:α→List DV} {g:α→DV × List DV} (hp : ∀ a,A a→zbao (f a)=true∧zbao (s a)=true∧zyp8 (g a).1=true∧zbao (g a).2=true)
    (hs : ∀ a,A a→zwy1 P k (.mp 0 (s a).length 0::f a) [.cells (s a)] (fun d h=>d=(g a).1∧h=[.cells (g a).2])):(Con.tch (conT A f s g)).Sound P k:=by
  intro id r h l v l' ho hv
  unfold conT at hv
  split at hv
  · rename_i hx
    simp only [Option.some.injEq] at hv
    obtain ⟨h1,h2,h3⟩:=hx.choose_spec
    obtain ⟨p1,p2,p3,p4⟩:=hp _ h1
    have:=hs _ h1
    rw [hv] at this p3 p4
    rw [h2] at this p1
    rw [h3] at this p2
    exact this.tch p1 p2 p3 p4 ho
  · simp at hv
end Go.Am
set_option linter.unusedSimpArgs false
set_option linter.unusedVariables false
namespace Go.Am
open Go Go.RowKit
def znb1 (K:Nat→Bool) (E:Env):Env:=E.mapIdx fun id e=>if K id then e else none
theorem zudl {K:Nat→Bool} {E:Env}:(znb1 K E).length=E.length:=by simp [znb1]
theorem z1pt {K:Nat→Bool} {E:Env} {id:Nat} {p:Nat × Nat} (h:(znb1 K E)[id]? = some (some p)):K id=true∧E[id]? = some (some p):=by
  unfold znb1 at h
  rw [y0r] at h
  obtain ⟨e,h1,h2⟩:=y00.1 h
  split at h2
  · rename_i hk; subst h2; exact ⟨hk,h1⟩
  · cases h2
theorem zkym {K:Nat→Bool} {E:Env} {id:Nat} (hk:K id=true):(znb1 K E)[id]? = E[id]? := by
  unfold znb1
  rw [y0r,hk]
  simp
theorem z8rt {X0:Forb} {K:Nat→Bool} {E:Env} {b o:Nat} (h:FX X0 (znb1 K E) b o):FX X0 E b o:=by
  rcases h with g|⟨id,L,g⟩
  · exact .inl g
  · exact .inr ⟨id,L,(z1pt g).2⟩
theorem Rep.mask {K:Nat→Bool} {E:Env} {X X':Forb} {w:World} {v:Value} {d:DV} (h:Rep E X w v d) (hX : ∀ b o,X' b o→X b o):Rep (znb1 K E) X' w v d:=by
  induction h with
  | int k n=>exact .int k n
  | bool b=>exact .bool b
  | str s l h=>exact .str s l h
  | agg cs ds hl _ ih=>exact .agg cs ds hl ih
  | tup cs ds hl _ ih=>exact .tup cs ds hl ih
  | nilp=>exact .nilp
  | nilm=>exact .nilm
  | nilf=>exact .nilf
  | nili=>exact .nili
  | nils=>exact .nils
  | sl full s n cap a ds cv hn hf hl hc hx _ ih=>exact .sl full s n cap a ds cv hn hf hl hc (fun i hi h'=>hx i hi (hX _ _ h')) ih
  | ref a ds cv hc hx _ ih=>exact .ref a ds cv hc (fun i hi h'=>hx i hi (hX _ _ h')) ih
  | fn f first captured df dc h1 h2 _ _ ih1 ih2=>exact .fn f first captured df dc h1 h2 ih1 ih2
  | iface t v d _ ih=>exact .iface t v d ih
  | ms id ver off s m lim a k cap hid h=>exact .ms id ver off s m lim a k cap (by rw [zudl]; exact hid) (fun b L he=>h b L (z1pt he).2)
  | mp id ver off a hid h=>exact .mp id ver off a (by rw [zudl]; exact hid) (fun b L he=>h b L (z1pt he).2)
  | junk v=>exact .junk v
def fzS (K:Nat→Bool) (h:List AObj):Nat→DV→Option DV
  | 0,d=>zcxt (fun d=>match d with
    | .ms id ver off s m lim=>if K id then some (.ms id ver off s m lim) else none
    | .mp id ver off=>if K id then some (.mp id ver off) else none
    | _=>none) d
  | k+1,d=>zcxt (fun d=>match d with
    | .ms id ver off s m lim=>if K id then some (.ms id ver off s m lim) else (ziu0 h id).bind fun l=>if l.length=ver then (zp5p (fzS K h k) ((l.drop off).take (m*s))).map fun cs => .sl false s m cs else none
    | .mp id ver off=>if K id then some (.mp id ver off) else (ziu0 h id).bind fun l=>if l.length=ver then (zp5p (fzS K h k) (l.drop off)).map .ref else none
    | _=>none) d
theorem zlfw {X0:Forb} {base:Nat} {w:World} {h:List AObj} {E:Env} (hh:HeapRel X0 base w h E) {K:Nat→Bool} : ∀ (k:Nat) {v:Value} {d d':DV},Rep E (FX X0 E) w v d→fzS K h k d=some d'→Rep (znb1 K E) (FX X0 (znb1 K E)) w v d'
  | 0,v,d,d',hr,hs=>by
    refine zhjg (fun b o h'=>z8rt h') (fun v id ver off s m lim d' hr' h' => ?_) (fun v id ver off d' hr' h' => ?_) hr hs
    · simp only at h'
      split at h'
      · simp at h'; subst h'
        exact hr'.mask (fun b o h'=>z8rt h')
      · simp at h'
    · simp only at h'
      split at h'
      · simp at h'; subst h'
        exact hr'.mask (fun b o h'=>z8rt h')
      · simp at h'
  | k+1,v,d,d',hr,hs=>by
    have hobj : ∀ {id b L:Nat},¬ K id=true→E[id]? = some (some (b,L)) → ∀ o,¬ FX X0 (znb1 K E) b o:=fun hid hE o hx=>by
      rcases hx with hx|⟨id',L',g⟩
      · exact (hh.x0 _ _ hx).2 _ _ hE
      · obtain ⟨g1,g2⟩:=z1pt g
        exact hh.apart _ _ _ _ _ _ (fun e=>hid (by rw [← e]; exact g1)) g2 hE rfl
    refine zhjg (fun b o h'=>z8rt h') (fun v id ver off s m lim d' hr' h' => ?_) (fun v id ver off d' hr' h' => ?_) hr hs
    · simp only at h'
      split at h'
      · simp at h'; subst h'
        exact hr'.mask (fun b o h'=>z8rt h')
      rename_i hge
      simp only [y01] at h'
      obtain ⟨l,hl,h'⟩:=h'
      split at h'
      · rename_i hver
        obtain ⟨cs,hcs,rfl⟩:=y00.1 h'
        obtain ⟨b,arr,ty,cap,a,e1,e2,e3,e4,rfl,k1,k2,k3,k4,k5⟩:=zuh1 hh hr' hl hver
        have hR:=zzrb ((e4.drop off).take (m*s)) (fun v d d' q1 q2=>zlfw hh k q1 q2) hcs
        have hlen:cs.length=m*s:=by rw [← hR.1]; simp; omega
        refine znwx hR k1 (fun hf=>by simp at hf) hlen (fun j u hj => ?_) (fun i hi => ?_)
        · have hj':j<m*s:=by have:=(y0u.1 hj).1; simp at this; omega
          have hcap:0<cap:=by
            rcases y0n cap with z|z
            · have:m=0:=by omega
              subst this; simp at hj'
            · exact z
          rw [k3 hcap,z689,z4jt e2]
          rw [y0d,if_pos hj',List.getElem?_drop,y0d] at hj
          split at hj
          · simpa using hj
          · simp at hj
        · have hcap:0<cap:=by
            rcases y0n cap with z|z
            · have:m=0:=by omega
              subst this; rw [hlen] at hi; simp at hi
            · exact z
          rw [k3 hcap]
          exact hobj hge e1 _
      · simp at h'
    · simp only at h'
      split at h'
      · simp at h'; subst h'
        exact hr'.mask (fun b o h'=>z8rt h')
      rename_i hge
      simp only [y01] at h'
      obtain ⟨l,hl,h'⟩:=h'
      split at h'
      · rename_i hver
        obtain ⟨cs,hcs,rfl⟩:=y00.1 h'
        obtain ⟨b,arr,ty,e1,e2,e3,e4,rfl⟩:=zsi4 hh hr' hl hver
        have hR:=zzrb (e4.drop off) (fun v d d' q1 q2=>zlfw hh k q1 q2) hcs
        refine zws5 hR (fun j u hj => ?_) (fun i hi=>hobj hge e1 _)
        rw [z689,z4jt e2]
        rw [List.getElem?_drop,y0d] at hj
        split at hj
        · simpa using hj
        · simp at hj
      · simp at h'
def fzSL (K:Nat→Bool) (h:List AObj):List DV→List DV→Prop
  | [],[]=>True
  | a::r,b::s=>(b = .junk∨b=a∨fzS K h 3 a=some b)∧fzSL K h r s
  | _,_=>False
def fzSH (K:Nat→Bool) (h:List AObj):Nat→List AObj→List AObj→Prop
  | _,[],[]=>True
  | i,.cells a::r,.cells b::s=>K i=true∧fzSL K h a b∧fzSH K h (i+1) r s
  | i,.cells _::r,.dead::s=>K i=false∧fzSH K h (i+1) r s
  | i,.dead::r,.dead::s=>fzSH K h (i+1) r s
  | _,_,_=>False
theorem z7k1 {K:Nat→Bool} {h:List AObj} : ∀ {l l':List DV},fzSL K h l l'→l'.length=l.length
  | [],[],_=>rfl
  | [],_::_,h=>by simp [fzSL] at h
  | _::_,[],h=>by simp [fzSL] at h
  | _::_,_::_,h=>by simp [z7k1 h.2]
theorem z9h0 {K:Nat→Bool} {h:List AObj} : ∀ {l l':List DV},fzSL K h l l' → ∀ i,l'.getD i .junk = .junk∨l'.getD i .junk=l.getD i .junk∨fzS K h 3 (l.getD i .junk)=some (l'.getD i .junk)
  | [],[],_,i => .inl rfl
  | [],_::_,h,_=>by simp [fzSL] at h
  | _::_,[],h,_=>by simp [fzSL] at h
  | a::r,b::s,h,i=>by
    cases i with
    | zero=>simpa using h.1
    | succ i=>simpa using z9h0 h.2 i
theorem z7w9 {K:Nat→Bool} {h:List AObj} : ∀ {i:Nat} {l l':List AObj},fzSH K h i l l'→l'.length=l.length
  | _,[],[],_=>rfl
  | _,[],_::_,h=>by simp [fzSH] at h
  | _,.cells _::_,[],h=>by simp [fzSH] at h
  | _,.dead::_,[],h=>by simp [fzSH] at h
  | _,.cells a::r,.cells b::s,h=>by simp [z7w9 h.2.2]
  | _,.cells a::r,.dead::s,h=>by simp [z7w9 h.2]
  | _,.dead::r,.dead::s,h=>by simp only [fzSH] at h; simp [z7w9 h]
  | _,.dead::_,.cells _::_,h=>by simp [fzSH] at h
theorem zc8w {K:Nat→Bool} {h:List AObj} : ∀ {i:Nat} {l l':List AObj},fzSH K h i l l' → ∀ (id:Nat) (cs:List DV),l'[id]? = some (.cells cs)→K (i+id)=true ∧ ∃ cs0,l[id]? = some (.cells cs0)∧fzSL K h cs0 cs
  | _,_,[],_,id,cs,e=>by simp at e
  | _,[],.cells _::_,h,_,_,_=>by simp [fzSH] at h
  | _,[],.dead::_,h,_,_,_=>by simp [fzSH] at h
  | i,.cells a::r,.cells b::s,h,id,cs,e=>by
    cases id with
    | zero=>simp at e; subst e; exact ⟨h.1,a,rfl,h.2.1⟩
    | succ id=>have:=zc8w h.2.2 id cs e; rw [show i+(id+1)=i+1+id by omega]; exact this
  | i,.cells a::r,.dead::s,h,id,cs,e=>by
    cases id with
    | zero=>simp at e
    | succ id=>have:=zc8w h.2 id cs e; rw [show i+(id+1)=i+1+id by omega]; exact this
  | i,.dead::r,.dead::s,h,id,cs,e=>by
    cases id with
    | zero=>simp at e
    | succ id=>simp only [fzSH] at h; have:=zc8w h id cs e; rw [show i+(id+1)=i+1+id by omega]; exact this
  | _,.dead::_,.cells _::_,h,_,_,_=>by simp [fzSH] at h
theorem zkux {K:Nat→Bool} {h:List AObj} : ∀ {i:Nat} {l l':List AObj},fzSH K h i l l' → ∀ (id:Nat),l'[id]? = some .dead→l[id]? = some .dead∨(K (i+id)=false∧id<l.length)
  | _,_,[],_,id,e=>by simp at e
  | _,[],.cells _::_,h,_,_=>by simp [fzSH] at h
  | _,[],.dead::_,h,_,_=>by simp [fzSH] at h
  | i,.cells a::r,.cells b::s,h,id,e=>by
    cases id with
    | zero=>simp at e
    | succ id=>have:=zkux h.2.2 id e; rw [show i+(id+1)=i+1+id by omega]; simpa using this
  | i,.cells a::r,.dead::s,h,id,e=>by
    cases id with
    | zero=>exact .inr ⟨h.1,by simp⟩
    | succ id=>have:=zkux h.2 id e; rw [show i+(id+1)=i+1+id by omega]; simpa using this
  | i,.dead::r,.dead::s,h,id,e=>by
    cases id with
    | zero=>exact .inl rfl
    | succ id=>simp only [fzSH] at h; have:=zkux h id e; rw [show i+(id+1)=i+1+id by omega]; simpa using this
  | _,.dead::_,.cells _::_,h,_,_=>by simp [fzSH] at h
theorem SR.mask {X0:Forb} {base:Nat} {E0:Env} {w0:World} {st st':St} {a:Act} {w:World} (h:SR X0 base E0 w0 st a w) {K:Nat→Bool} (ht':fzSL K st.h st.t st'.t) (hh':fzSH K st.h 0 st.h st'.h):SR X0 base E0 w0 st' a w:=by
  obtain ⟨E,hh,hsz,hrep,hdef,ht⟩:=h
  have cell : ∀ {v d d'},Rep E (FX X0 E) w v d→(d' = .junk∨d'=d∨fzS K st.h 3 d=some d')→Rep (znb1 K E) (FX X0 (znb1 K E)) w v d':=fun r q=>by
    rcases q with q|q|q
    · subst q; exact .junk _
    · subst q; exact r.mask (fun b o h'=>z8rt h')
    · exact zlfw hh 3 r q
  refine ⟨znb1 K E,⟨by rw [zudl,z7w9 hh']; exact hh.len,fun b o q=>⟨(hh.x0 b o q).1,fun id L hL=>(hh.x0 b o q).2 id L (z1pt hL).2⟩,hh.size,fun id cs hid => ?_,fun id hid => ?_,fun id id' b L b' L' hne h1 h2=>hh.apart _ _ _ _ _ _ hne (z1pt h1).2 (z1pt h2).2⟩,by rw [z7k1 ht']; exact hsz,fun i=>cell (hrep i) (z9h0 ht' i),hdef,?_⟩
  · obtain ⟨hk,cs0,hid',hcs⟩:=zc8w hh' id cs hid
    rw [y1i] at hk
    obtain ⟨b,arr,t,g1,g2,g3,g4,g5⟩:=hh.cells id cs0 hid'
    have hl:=z7k1 hcs
    refine ⟨b,arr,t,by rw [zkym hk,hl]; exact g1,g2,g3,by omega,fun i h1 h2 => ?_⟩
    have:=cell (g5 i (by omega) h2) (by
      have:=z9h0 hcs i
      rwa [y0h,y0h,y02 h1,y02 (by omega)] at this)
    simpa using this
  · rcases zkux hh' id hid with h1|⟨h1,h2⟩
    · have:=hh.dead id h1
      by_cases hk:K id=true
      · rw [zkym hk]; exact this
      · unfold znb1; rw [y0r,this]; simp
    · rw [y1i] at h1
      have hlt:id<E.length:=by rw [hh.len]; exact h2
      unfold znb1; rw [y0r,y02 hlt,h1]; simp
  · refine ⟨⟨by rw [zudl]; exact ht.env.len,fun id hid b' L' h'=>ht.env.at_ id hid b' L' (z1pt h').2⟩,⟨fun ad v hc hx => ?_⟩,ht.below,ht.others,fun b hb hl=>⟨(ht.frame b hb hl).1,fun id L hL=>(ht.frame b hb hl).2 id L (z1pt hL).2⟩⟩
    obtain ⟨g1,g2⟩:=ht.keep.cell ad v hc hx
    exact ⟨g1,fun g=>g2 (z8rt g)⟩
structure V (P:Program) (n0:Nat) (ac:ACode) (Φ:AExit→St→Prop) (st:St):Prop where
  out : ∀ c,zwv5 P c=some ac → ∀ (X0:Forb) (base:Nat) (E0:Env) (w0:World) (a:Act) (w:World),E0.length=n0→SR X0 base E0 w0 st a w→c.wp P (AQ X0 base E0 w0 Φ) a w
section
variable {P:Program} {n0:Nat} {Φ:AExit→St→Prop} {st st':St} {x y:ACode}
theorem zd9i (hmix:P.follows .mixedOrders=true) (h:awp P n0 x Φ st):V P n0 x Φ st:=⟨fun c hc X0 base E0 w0 a w hn hr=>by subst hn; exact zlrv hmix c x hc Φ st a w h hr⟩
theorem V_W (hmix:P.follows .mixedOrders=true) {T:Tbl} (hT:T.Sound P) (h:W T n0 x Φ st):V P n0 x Φ st:=zd9i hmix (z7sh hT _ _ _ _ (fun _ _ h=>h) h.out)
theorem zi9b {K:Nat→Bool} (ht:fzSL K st.h st.t st'.t) (hh:fzSH K st.h 0 st.h st'.h) (h:V P n0 x Φ st'):V P n0 x Φ st:=⟨fun c hc X0 base E0 w0 a w hn hr=>h.out c hc X0 base E0 w0 a w hn (hr.mask ht hh)⟩
theorem zqfd (hw:Weak n0 st st') (h:V P n0 x Φ st'):V P n0 x Φ st:=⟨fun c hc X0 base E0 w0 a w hn hr=>h.out c hc X0 base E0 w0 a w hn (hr.weak (by rw [hn]; exact hw))⟩
def z2pk (P:Program) (n0:Nat) (y:ACode) (Φ:AExit→St→Prop):AExit→St→Prop:=fun e st=>match e with | .normal=>V P n0 y Φ st|e=>Φ e st
theorem zd2q:z2pk P n0 y Φ .normal st=V P n0 y Φ st:=rfl
theorem zoko {c:Code} {a b:ACode} (h:zwv5 P c=some (.seq a b)) : ∃ u v,c = .seq u v∧zwv5 P u=some a∧zwv5 P v=some b:=by
  cases c with
  | seq u v =>
    simp only [zwv5,y01,y00] at h
    obtain ⟨a',h1,b',h2,h3⟩:=h
    simp only [ACode.seq.injEq] at h3
    obtain ⟨rfl,rfl⟩:=h3
    exact ⟨u,v,rfl,h1,h2⟩
  | region id ops draw =>
    simp only [zwv5,y01] at h
    obtain ⟨l,_,h⟩:=h
    repeat' split at h
    all_goals first|(simp at h; done)|skip
  | rangeFunc g ps u v=>simp [zwv5] at h
  | cond c u v =>
    simp only [zwv5,y01,y00] at h
    obtain ⟨_,_,_,_,_,_,h⟩:=h
    cases h
  | block id u=>simp only [zwv5,y00] at h; obtain ⟨_,_,h⟩:=h; cases h
  | loop u=>simp only [zwv5,y00] at h; obtain ⟨_,_,h⟩:=h; cases h
  | _=>simp [zwv5] at h
theorem zbn1 (h:V P n0 x (z2pk P n0 y Φ) st):V P n0 (.seq x y) Φ st:=⟨fun c hc X0 base E0 w0 a w hn hr=>by
  obtain ⟨u,v,rfl,hu,hv⟩:=zoko hc
  refine wp_seq (wp_mono (h.out u hu X0 base E0 w0 a w hn hr) fun e a' w' hq => ?_)
  cases e with
  | normal=>obtain ⟨st',h1,h2⟩:=hq; exact V.out h1 v hv X0 base E0 w0 a' w' hn h2
  | exit id=>exact hq
  | ret=>exact hq
  | goto l=>exact hq.elim
  | panic ch=>exact hq.elim
  | outgrown=>exact hq.elim⟩
theorem zua1 {c:Code} {id:Nat} {a:ACode} (h:zwv5 P c=some (.block id a)) : ∃ u,c = .block id u∧zwv5 P u=some a:=by
  cases c with
  | block id u=>simp only [zwv5,y00] at h; obtain ⟨_,h1,h⟩:=h; cases h; exact ⟨u,rfl,h1⟩
  | seq u v=>simp only [zwv5,y01,y00] at h; obtain ⟨a',h1,b',h2,h3⟩:=h; cases h3
  | region id ops draw =>
    simp only [zwv5,y01] at h
    obtain ⟨l,_,h⟩:=h
    repeat' split at h
    all_goals first|(simp at h; done)|skip
  | rangeFunc g ps u v=>simp [zwv5] at h
  | cond c u v =>
    simp only [zwv5,y01,y00] at h
    obtain ⟨_,_,_,_,_,_,h⟩:=h
    cases h
  | loop u=>simp only [zwv5,y00] at h; obtain ⟨_,_,h⟩:=h; cases h
  | _=>simp [zwv5] at h
theorem z3mo {id:Nat} (h:V P n0 x (z0mx id Φ) st):V P n0 (.block id x) Φ st:=⟨fun c hc X0 base E0 w0 a w hn hr=>by
  obtain ⟨u,rfl,hu⟩:=zua1 hc
  refine wp_block (wp_mono (h.out u hu X0 base E0 w0 a w hn hr) fun e a' w' hq => ?_)
  cases e with
  | normal=>exact hq
  | exit i =>
    obtain ⟨st',h1,h2⟩:=hq
    change if i=id then Φ .normal st' else Φ (.exit i) st' at h1
    simp only [Exit.inBlock]
    by_cases e:i=id
    · rw [if_pos e] at h1 ⊢; exact ⟨st',h1,h2⟩
    · rw [if_neg e] at h1 ⊢; exact ⟨st',h1,h2⟩
  | ret=>exact hq
  | goto l=>exact hq.elim
  | panic ch=>exact hq.elim
  | outgrown=>exact hq.elim⟩
theorem z164 {c:Code} {a:ACode} (h:zwv5 P c=some (.loop a)) : ∃ u,c = .loop u∧zwv5 P u=some a:=by
  cases c with
  | loop u=>simp only [zwv5,y00] at h; obtain ⟨_,h1,h⟩:=h; cases h; exact ⟨u,rfl,h1⟩
  | block id u=>simp only [zwv5,y00] at h; obtain ⟨_,h1,h⟩:=h; cases h
  | seq u v=>simp only [zwv5,y01,y00] at h; obtain ⟨a',h1,b',h2,h3⟩:=h; cases h3
  | region id ops draw =>
    simp only [zwv5,y01] at h
    obtain ⟨l,_,h⟩:=h
    repeat' split at h
    all_goals first|(simp at h; done)|skip
  | rangeFunc g ps u v=>simp [zwv5] at h
  | cond c u v =>
    simp only [zwv5,y01,y00] at h
    obtain ⟨_,_,_,_,_,_,h⟩:=h
    cases h
  | _=>simp [zwv5] at h
theorem ztbr {α:Type} (S:α→St) (m:α→Nat) (R:α→Prop) (a0:α) (h0:Weak n0 st (S a0)) (hR:R a0) (hs : ∀ a,R a→V P n0 x (z13e n0 S m R a Φ) (S a)):V P n0 (.loop x) Φ st:=⟨fun c hc X0 base E0 w0 a w hn hr=>by
  obtain ⟨u,rfl,hu⟩:=z164 hc
  subst hn
  refine wp_loop_ghost (fun n a w => ∃ d,m d=n∧R d∧SR X0 base E0 w0 (S d) a w) (m a0) ⟨a0,rfl,hR,hr.weak h0⟩ ?_
  rintro _ a w ⟨d,rfl,hd,hr⟩
  refine wp_mono ((hs d hd).out u hu X0 base E0 w0 a w rfl hr) fun e a' w' hq => ?_
  cases e with
  | normal =>
    obtain ⟨st',⟨d',hw',hlt,hR'⟩,hr'⟩:=hq
    exact ⟨_,hlt,d',rfl,hR',hr'.weak hw'⟩
  | exit i=>exact hq
  | ret=>exact hq
  | goto l=>exact hq.elim
  | panic ch=>exact hq.elim
  | outgrown=>exact hq.elim⟩
theorem zftn {Ψ:AExit→St→Prop} (hm : ∀ e s,Φ e s→Ψ e s) (h:V P n0 x Φ st):V P n0 x Ψ st:=⟨fun c hc X0 base E0 w0 a w hn hr=>wp_mono (h.out c hc X0 base E0 w0 a w hn hr) fun e a' w' hq=>by
  cases e with
  | normal=>obtain ⟨s,h1,h2⟩:=hq; exact ⟨s,hm _ _ h1,h2⟩
  | exit id=>obtain ⟨s,h1,h2⟩:=hq; exact ⟨s,hm _ _ h1,h2⟩
  | ret=>obtain ⟨s,h1,h2⟩:=hq; exact ⟨s,hm _ _ h1,h2⟩
  | goto l=>exact hq.elim
  | panic ch=>exact hq.elim
  | outgrown=>exact hq.elim⟩
theorem zvzm:zyga (z2pk P n0 y Φ) st=V P n0 y Φ st:=rfl
end
theorem zcpc {P:Program} {f:FuncId} {fn:Func} (hf:P.funcs[f]? = some fn) {af:AFn} (hc:zsjc P fn=some af) {args:List DV} {h:List AObj} {Ψ:DV→List AObj→Prop}
    (hb:V P h.length af.code (RetA af.res Ψ) ⟨zr5g af.ntmps args,h⟩):zwy1 P f args h Ψ:=by
  unfold zsjc at hc
  split at hc
  · simp at hc
  · rename_i hname
    simp only [y01,y00] at hc
    obtain ⟨c,hbody,ac,hac,rs,hrs,rfl⟩:=hc
    refine fun X0 base w E vs hh hr => .of_ent (z36x hf (by simpa using hname) hbody) ?_
    refine callsIn_wide.1 (callsIn_of_wp_marks (F:=Fence.wide) (n:=0) hf hbody trivial (wpIn_wide.2 ?_) rfl)
    have hsz:vs.size=args.length:=by simpa using hr.1
    have hSR:SR X0 base E w ⟨zr5g fn.ntmps args,h⟩ { tmps:=vs++Array.replicate (fn.ntmps-vs.size) undef,defers:=[] } w:=by
      refine ⟨E,hh,by simp [zr5g,hsz],fun i => ?_,.nil,.refl _ _ _ _⟩
      simp only [zr5g]
      rw [Array.getD_eq_getD_getElem?,y0h]
      by_cases hi:i<vs.size
      · rw [Array.getElem?_append_left hi,y04 (by omega),Array.getElem?_eq_getElem hi,y02 (by omega)]
        have:=hr.2 i (by simpa using hi) (by omega)
        simpa using this
      · rw [Array.getElem?_append_right (by omega),y03 (by omega),hsz]
        by_cases hj:i-args.length<fn.ntmps-args.length
        · simp [hj]; exact zids
        · simp [hj]; exact .junk _
    have hlen:E.length=h.length:=hh.len
    refine wp_mono (hb.out c hac X0 base E w _ w hlen hSR) fun e a' w' hq => ?_
    have fin : ∀ st,(∃ d,zxgc rs st=some d∧Ψ d st.h)→SR X0 base E w st a' w'→LeavesInM Fence.wide 0 P fn a'.tmps (fun e w' => ∃ v r h' E',e = .returned v∧Ψ r h'∧HeapRel X0 base w' h' E'∧Rep E' (FX X0 E') w' v r∧Trans X0 base E w E' w') a'.defers .returning w':=by
      rintro st ⟨d,hd,hΨ⟩ ⟨E',hh',hsz',hrep',hdef',ht'⟩
      refine z9f3 (S:=fun W => ∃ E',HeapRel X0 base W st.h E'∧RepL E' (FX X0 E') W a'.tmps st.t∧Trans X0 base E w E' W) (n0:=w.heap.size) ?_ ?_ a'.defers w' hdef' ⟨E',hh',hrep',ht'⟩
      · rintro W D ⟨E1,k1,k2,k3⟩ hD ho
        obtain ⟨g1,g2,g3⟩:=z8f8 k1 k3 hh.size (grownBy_putObj' W D (.deferred none)) (y1v _) (fun r e=>by cases e; exact ⟨hD,_,ho,rfl⟩)
        exact ⟨E1,g1,fun i=>g2 _ _ (k2 i),g3⟩
      clear hh' hrep' ht' hdef'
      rintro w' ⟨E',hh',hrep',ht'⟩
      unfold zxgc at hd
      obtain ⟨l,hl,hd⟩:=y00.1 hd
      obtain ⟨us,g1,g2⟩:=zspk hh' hrep' fn.results.toList rs hrs l hl
      have hl0:=g2.1
      have hrun : ∀ v,(if h:us.length=1 then us[0] else Value.tuple us.toArray)=v→(results fn a'.tmps).run P w' = .ok v w':=by
        intro v hv
        rw [z18t,Array.mapM_eq_mapM_toList,← hv]
        simp [g1]
      match l,us,hl0,g2,hd,hrun with
      | [x],[u],_,g2,hd,hrun =>
        simp at hd; subst hd
        exact ⟨u,hrun u (by simp),u,x,st.h,E',rfl,hΨ,hh',g2.head,ht'⟩
      | [],[],_,g2,hd,hrun =>
        simp at hd; subst hd
        exact ⟨_,hrun _ rfl,_,_,st.h,E',rfl,hΨ,hh',by simpa using g2.tup,ht'⟩
      | x::y::l,u::u'::us,_,g2,hd,hrun =>
        simp at hd; subst hd
        exact ⟨_,hrun _ rfl,_,_,st.h,E',rfl,hΨ,hh',by simpa using g2.tup,ht'⟩
    cases e with
    | normal=>obtain ⟨st,h1,h2⟩:=hq; exact fin st h1 h2
    | ret=>obtain ⟨st,h1,h2⟩:=hq; exact fin st h1 h2
    | exit id=>obtain ⟨st,h1,h2⟩:=hq; exact h1.elim
    | goto l=>exact hq.elim
    | panic ch=>exact hq.elim
    | outgrown=>exact hq.elim
theorem znz9 {P:Program} {f:FuncId} {fn:Func} (hf:P.funcs[f]? = some fn) {af:AFn} (hc:zsjc P fn=some af) {args:List DV} {r:DV} (h:V P 0 af.code (retK af.res r) ⟨zr5g af.ntmps args,[]⟩):Am.Sem P f args r :=
  zzfj (zcpc hf hc (zftn (fun _ _ h=>h.out) h))
attribute [simp] zd2q zvzm
end Go.Am
set_option linter.unusedSimpArgs false
set_option linter.unusedVariables false
namespace Go.Am
open Go Go.RowKit
def fzSo (K:Nat→Bool) (h:List AObj) (k:Nat) (l:List DV):Option (List DV):=zp5p (fzS K h k) l
section
variable {K:Nat→Bool} {h:List AObj} {k:Nat}
theorem zzxw {d:DV} (hp:zyp8 d=true):fzS K h k d=some d:=by
  cases k<;>exact z9j8 _ d hp
theorem zl6f : ∀ {l:List DV},zbao l=true→fzSo K h k l=some l
  | [],_=>rfl
  | d::r,hp=>by
    simp only [zbao,y08] at hp
    have:=zl6f hp.2
    simp only [fzSo] at this
    simp only [fzSo,zp5p,zzxw hp.1,this,y05,y0f]
theorem zmvq:fzSo K h k []=some []:=rfl
theorem zhuj {d:DV} {r:List DV}:fzSo K h k (d::r)=(fzS K h k d).bind fun a=>(fzSo K h k r).map fun b=>a::b:=by
  simp only [fzSo,zp5p]
theorem zb3j {a:IntKind} {m:Int}:fzS K h k (.int a m)=some (.int a m):=zzxw rfl
theorem za1g {b:Bool}:fzS K h k (.bool b)=some (.bool b):=zzxw rfl
theorem zam1 {s:List UInt8}:fzS K h k (.str s)=some (.str s):=zzxw rfl
theorem zxmp:fzS K h k .nils=some .nils:=zzxw rfl
theorem zzgj:fzS K h k .nilf=some .nilf:=zzxw rfl
theorem zch9:fzS K h k .nilp=some .nilp:=zzxw rfl
theorem zub1:fzS K h k .junk=some .junk:=zzxw rfl
theorem zf3h {cs:List DV}:fzS K h k (.agg cs)=(fzSo K h k cs).map .agg:=by cases k<;>simp only [fzS,zcxt,zncu,fzSo]<;>rfl
theorem zliz {cs:List DV}:fzS K h k (.tup cs)=(fzSo K h k cs).map .tup:=by cases k<;>simp only [fzS,zcxt,zncu,fzSo]<;>rfl
theorem zfs9 {b:Bool} {s m:Nat} {cs:List DV}:fzS K h k (.sl b s m cs)=(fzSo K h k cs).map (.sl b s m):=by cases k<;>simp only [fzS,zcxt,zncu,fzSo]<;>rfl
theorem zeo2 {cs:List DV}:fzS K h k (.ref cs)=(fzSo K h k cs).map .ref:=by cases k<;>simp only [fzS,zcxt,zncu,fzSo]<;>rfl
theorem z284 {f:Fn} {a b:List DV}:fzS K h k (.fn f a b)=(fzSo K h k a).bind fun a=>(fzSo K h k b).map fun b => .fn f a b:=by cases k<;>simp only [fzS,zcxt,zncu,fzSo]<;>rfl
theorem zzs0 {α:Type} {h:List AObj} {id ver:Nat} {f:List DV→Option α}:((ziu0 h id).bind fun l=>if l.length=ver then f l else none)=(objV h id ver).bind f:=by
  unfold objV
  cases ziu0 h id with
  | none=>rfl
  | some l=>simp only [y05]; split<;>rfl
theorem zoxu {id ver off:Nat}:fzS K h (k+1) (.mp id ver off)=if K id then some (.mp id ver off) else (objV h id ver).bind fun l=>(fzSo K h k (l.drop off)).map .ref:=by
  simp only [fzS,zcxt]
  split
  · rfl
  · exact zzs0
theorem z8vi {id ver off s m lim:Nat}:fzS K h (k+1) (.ms id ver off s m lim)=if K id then some (.ms id ver off s m lim) else (objV h id ver).bind fun l=>(fzSo K h k ((l.drop off).take (m*s))).map fun cs => .sl false s m cs:=by
  simp only [fzS,zcxt]
  split
  · rfl
  · exact zzs0
theorem zept {id ver off:Nat}:fzS K h 3 (.mp id ver off)=if K id then some (.mp id ver off) else (objV h id ver).bind fun l=>(fzSo K h 2 (l.drop off)).map .ref:=zoxu
theorem z0h0 {id ver off:Nat}:fzS K h 2 (.mp id ver off)=if K id then some (.mp id ver off) else (objV h id ver).bind fun l=>(fzSo K h 1 (l.drop off)).map .ref:=zoxu
theorem ztrv {id ver off:Nat}:fzS K h 1 (.mp id ver off)=if K id then some (.mp id ver off) else (objV h id ver).bind fun l=>(fzSo K h 0 (l.drop off)).map .ref:=zoxu
theorem zi9r {id ver off s m lim:Nat}:fzS K h 3 (.ms id ver off s m lim)=if K id then some (.ms id ver off s m lim) else (objV h id ver).bind fun l=>(fzSo K h 2 ((l.drop off).take (m*s))).map fun cs => .sl false s m cs:=z8vi
theorem znkh {id ver off s m lim:Nat}:fzS K h 2 (.ms id ver off s m lim)=if K id then some (.ms id ver off s m lim) else (objV h id ver).bind fun l=>(fzSo K h 1 ((l.drop off).take (m*s))).map fun cs => .sl false s m cs:=z8vi
def mk1 (K:Nat→Bool) (h:List AObj) (d:DV):DV:=(fzS K h 3 d).getD .junk
def mkL (K:Nat→Bool) (h:List AObj):List DV→List DV
  | []=>[]
  | d::r=>mk1 K h d::mkL K h r
def mkO (K:Nat→Bool) (h:List AObj):Nat→List AObj→List AObj
  | _,[]=>[]
  | i,.cells a::r=>(if K i then .cells (mkL K h a) else .dead)::mkO K h (i+1) r
  | i,.dead::r => .dead::mkO K h (i+1) r
theorem z82z : ∀ (l:List DV),fzSL K h l (mkL K h l)
  | []=>trivial
  | d::r=>by
    refine ⟨?_,z82z r⟩
    unfold mk1
    cases e:fzS K h 3 d with
    | none=>exact .inl rfl
    | some b=>exact .inr (.inr rfl)
theorem zn5q : ∀ (i:Nat) (l:List AObj),fzSH K h i l (mkO K h i l)
  | _,[]=>trivial
  | i,.cells a::r=>by
    unfold mkO
    cases e:K i with
    | true=>rw [if_pos rfl]; exact ⟨e,z82z a,zn5q (i+1) r⟩
    | false=>rw [if_neg (by simp)]; exact ⟨e,zn5q (i+1) r⟩
  | i,.dead::r=>zn5q (i+1) r
theorem V_mk {P:Program} {n0:Nat} {x:ACode} {Φ:AExit→St→Prop} {t:List DV} (K:Nat→Bool) (hv:V P n0 x Φ ⟨mkL K h t,mkO K h 0 h⟩):V P n0 x Φ ⟨t,h⟩ :=
  zi9b (z82z t) (zn5q 0 h) hv
theorem zwy6 {d e:DV} (h':fzS K h 3 d=some e):mk1 K h d=e:=by unfold mk1; rw [h']; rfl
theorem zvft {d:DV} (hp:zyp8 d=true):mk1 K h d=d:=zwy6 (zzxw hp)
theorem zrip : ∀ {l:List DV},zbao l=true→mkL K h l=l
  | [],_=>rfl
  | d::r,hp=>by
    simp only [zbao,y08] at hp
    rw [mkL,zvft hp.1,zrip hp.2]
theorem z8h9:mkL K h []=[]:=rfl
theorem z8t0 {d:DV} {r:List DV}:mkL K h (d::r)=mk1 K h d::mkL K h r:=rfl
theorem zfxb {i:Nat}:mkO K h i []=[]:=rfl
theorem ztik {i:Nat} {a:List DV} {r:List AObj}:mkO K h i (.cells a::r)=(if K i then .cells (mkL K h a) else .dead)::mkO K h (i+1) r:=rfl
theorem zsk4 {i:Nat} {r:List AObj}:mkO K h i (.dead::r) = .dead::mkO K h (i+1) r:=rfl
theorem z8yd {a:IntKind} {m:Int}:mk1 K h (.int a m) = .int a m:=zvft rfl
theorem zy8x {b:Bool}:mk1 K h (.bool b) = .bool b:=zvft rfl
theorem zod1 {s:List UInt8}:mk1 K h (.str s) = .str s:=zvft rfl
theorem zhx5:mk1 K h .nils = .nils:=zvft rfl
theorem zedr:mk1 K h .nilf = .nilf:=zvft rfl
theorem z3ax:mk1 K h .nilp = .nilp:=zvft rfl
theorem z5il:mk1 K h .junk = .junk:=zvft rfl
theorem z26v {cs:List DV} (hp:zbao cs=true):mk1 K h (.agg cs) = .agg cs:=zvft (by simpa [zyp8] using hp)
theorem zu08 {b:Bool} {s m:Nat} {cs:List DV} (hp:zbao cs=true):mk1 K h (.sl b s m cs) = .sl b s m cs:=zvft (by simpa [zyp8] using hp)
theorem zni4 {cs:List DV} (hp:zbao cs=true):mk1 K h (.ref cs) = .ref cs:=zvft (by simpa [zyp8] using hp)
theorem zjge {cs:List DV} (hp:zbao cs=true):mk1 K h (.tup cs) = .tup cs:=zvft (by simpa [zyp8] using hp)
theorem zbmf {f:Fn} {a b:List DV}:mk1 K h (.fn f a b)=((fzSo K h 3 a).bind fun a=>(fzSo K h 3 b).map fun b=>DV.fn f a b).getD .junk:=by rw [mk1,z284]
theorem z1bt {id ver off:Nat}:mk1 K h (.mp id ver off)=(if K id then some (DV.mp id ver off) else (objV h id ver).bind fun l=>(fzSo K h 2 (l.drop off)).map DV.ref).getD .junk:=by rw [mk1,zept]
theorem zdpe {id ver off s m lim:Nat}:mk1 K h (.ms id ver off s m lim)=(if K id then some (DV.ms id ver off s m lim) else (objV h id ver).bind fun l=>(fzSo K h 2 ((l.drop off).take (m*s))).map fun cs=>DV.sl false s m cs).getD .junk:=by rw [mk1,zi9r]
end
theorem zsha {P:Program} {n0:Nat} {y:ACode} {Φ:AExit→St→Prop} {st:St}:z2pk P n0 y Φ .ret st=Φ .ret st:=rfl
theorem z5ki {P:Program} {n0 i:Nat} {y:ACode} {Φ:AExit→St→Prop} {st:St}:z2pk P n0 y Φ (.exit i) st=Φ (.exit i) st:=rfl
attribute [simp] zsha z5ki zmvq zhuj zl6f zb3j za1g zam1 zxmp zzgj zch9 zub1 zf3h zliz zfs9 zeo2 z284 zept z0h0 ztrv zi9r znkh zrip z8h9 z8t0 zfxb ztik zsk4 z8yd zy8x zod1 zhx5 zedr z3ax z5il z26v zu08 zni4 zjge zbmf z1bt zdpe
end Go.Am
