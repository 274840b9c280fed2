/-
  1 texts of mine in one.
-/
import Derived.Test.YtaihpefemjlilaaGreatDoorC93fe9752
import Derived.Test.YtaihpefemjlilaaGreatDoorCca1ba563
import Derived.Test.YtaihpefemjlilaaGreatDoorCab9f7e71
set_option maxRecDepth 20000
set_option maxHeartbeats 4000000
open List renaming map_take → zA, map_drop → zB, map_set → zC, map_append → zD, drop_one → zE
open Option renaming bind_eq_some_iff → y00, map_eq_some_iff → y01
set_option linter.unusedSimpArgs false
set_option linter.unusedVariables false
namespace Go.Am
open Go Go.RowKit
theorem ztme {t:List DV} {g:Option (Nat × Bool)} {a b a' b':Prop} (h1:a→a') (h2:b→b') (h:zo4i t g a b):zo4i t g a' b':=by
  rcases z7fh.1 h with ⟨e,h⟩|⟨e,h⟩
  · exact z7fh.2 (.inl ⟨e,h1 h⟩)
  · exact z7fh.2 (.inr ⟨e,h2 h⟩)
theorem zewn {P:Program} {Φ Ψ:St→Prop} (hm : ∀ s,Φ s→Ψ s) : ∀ (l:List AOper) (st:St),zysb P l st Φ→zysb P l st Ψ
  | [],st,h=>hm _ h
  | o::r,st,h=>by
    simp only [zysb] at h ⊢
    refine ztme (fun h => ?_) (fun h=>zewn hm r _ h) h
    obtain ⟨g,d,op⟩:=o
    cases op with
    | call f args =>
      simp only at h ⊢
      split at h
      · exact h.mono fun d h' h=>zewn hm r _ h
      · exact h.elim
    | _ =>
      simp only at h ⊢
      split at h
      · exact zewn hm r _ h
      · exact h.elim
theorem z73s {P:Program} {Φ Ψ:St→Prop} (hm : ∀ s,Φ s→Ψ s) : ∀ (l:List AOper) (st:St),zetq P l st Φ→zetq P l st Ψ
  | [],st,h=>hm _ h
  | o::r,st,h=>by
    obtain ⟨v,h',h1,h2⟩:=zow1.1 h
    exact zow1.2 ⟨v,h',h1,z73s hm r _ h2⟩
theorem zzob {P:Program} {n0:Nat} : ∀ (c:ACode) {Φ Ψ:AExit→St→Prop},(∀ e s,Φ e s→Ψ e s) → ∀ (st:St),awp P n0 c Φ st→awp P n0 c Ψ st
  | .skip,Φ,Ψ,hm,st,h=>hm _ _ h
  | .region draw ops,Φ,Ψ,hm,st,h=>by
    simp only [awp] at h ⊢
    split
    · rename_i e; rw [if_pos e] at h; exact z73s (fun s=>hm _ s) _ _ h
    · rename_i e; rw [if_neg e] at h; exact zewn (fun s=>hm _ s) _ _ h
  | .seq a b,Φ,Ψ,hm,st,h=>by
    simp only [awp] at h ⊢
    refine zzob a (fun e s h => ?_) st h
    cases e with
    | normal=>exact zzob b hm s h
    | exit i=>exact hm _ _ h
    | ret=>exact hm _ _ h
  | .cond c x y,Φ,Ψ,hm,st,h=>by
    simp only [awp] at h ⊢
    split at h
    · exact ⟨fun e=>zzob x hm st (h.1 e),fun e=>zzob y hm st (h.2 e)⟩
    · exact h.elim
  | .block id c,Φ,Ψ,hm,st,h=>by
    simp only [awp] at h ⊢
    refine zzob c (fun e s h => ?_) st h
    cases e with
    | normal=>exact hm _ _ h
    | exit i =>
      simp only at h ⊢
      split at h
      · rename_i e; rw [if_pos e]; exact hm _ _ h
      · rename_i e; rw [if_neg e]; exact hm _ _ h
    | ret=>exact hm _ _ h
  | .loop c,Φ,Ψ,hm,st,h=>by
    simp only [awp] at h ⊢
    obtain ⟨I,n,st0,h1,h2,h3⟩:=h
    refine ⟨I,n,st0,h1,h2,fun n s hi=>zzob c (fun e s h => ?_) s (h3 n s hi)⟩
    cases e with
    | normal=>exact h
    | exit i=>exact hm _ _ h
    | ret=>exact hm _ _ h
  | .exit id,Φ,Ψ,hm,st,h=>hm _ _ h
  | .ret,Φ,Ψ,hm,st,h=>hm _ _ h
  | .rangeF f p d c,Φ,Ψ,hm,st,h=>by
    simp only [awp] at h ⊢
    obtain ⟨h0,g,id,k,n,α,encD,xs,I,h1,h2,h3,h4,h5,h6⟩:=h
    exact ⟨h0,g,id,k,n,α,encD,xs,I,h1,h2,h3,h4,h5,fun hh hi=>hm _ _ (h6 hh hi)⟩
theorem z2zt : ∀ (l:List DV),znqe l l
  | []=>trivial
  | _::r=>⟨.inr rfl,z2zt r⟩
theorem z6u6 (n0:Nat) (st:St):Weak n0 st st := .inl ⟨z2zt _,.inl rfl⟩
def zlwe (L:List (Nat × AFn)) (g:Nat):Option AFn:=match L with
  | []=>none
  | (k,af)::r=>if k=g then some af else zlwe r g
def OKL (P:Program):List (Nat × AFn)→Prop
  | []=>True
  | (k,af)::r=>(∃ fn,P.funcs[k]? = some fn∧zsjc P fn=some af)∧OKL P r
theorem ztrd {P:Program} : ∀ {L:List (Nat × AFn)},OKL P L → ∀ {g:Nat} {af:AFn},zlwe L g=some af → ∃ fn,P.funcs[g]? = some fn∧zsjc P fn=some af
  | [],_,g,af,h=>by simp [zlwe] at h
  | (k,a)::r,hL,g,af,h=>by
    rw [zlwe] at h
    split at h
    · rename_i e; simp at h; subst e; subst h; exact hL.1
    · exact ztrd hL.2 h
def zusd (L:List (Nat × (List DV→Option DV))) (g:Nat):Option (List DV→Option DV):=match L with
  | []=>none
  | (k,c)::r=>if k=g then some c else zusd r g
def OKC (P:Program):List (Nat × (List DV→Option DV))→Prop
  | []=>True
  | (k,c)::r=>(∀ args v,c args=some v→Sem P k args v)∧OKC P r
theorem z8sz {P:Program} : ∀ {L:List (Nat × (List DV→Option DV))},OKC P L → ∀ {g:Nat} {c:List DV→Option DV},zusd L g=some c → ∀ args v,c args=some v→Sem P g args v
  | [],_,g,c,h=>by simp [zusd] at h
  | (k,a)::r,hL,g,c,h=>by
    rw [zusd] at h
    split at h
    · rename_i e; simp at h; subst e; subst h; exact hL.1
    · exact z8sz hL.2 h
abbrev z1l0:=Nat→List DV→List AObj→Option (DV × List AObj)
mutual
def eqD:DV→DV→Bool
  | .int k n,.int k' n'=>decide (k=k')&&decide (n=n')
  | .bool a,.bool b=>a == b
  | .str a,.str b=>decide (a=b)
  | .agg a,.agg b=>eqDL a b
  | .tup a,.tup b=>eqDL a b
  | .ref a,.ref b=>eqDL a b
  | .sl f s n c,.sl f' s' n' c'=>(f == f')&&(decide (s=s')&&(decide (n=n')&&eqDL c c'))
  | .ms a b c d e f,.ms a' b' c' d' e' f'=>decide (a=a')&&(decide (b=b')&&(decide (c=c')&&(decide (d=d')&&(decide (e=e')&&decide (f=f')))))
  | .mp a b c,.mp a' b' c'=>decide (a=a')&&(decide (b=b')&&decide (c=c'))
  | .nilp,.nilp=>true
  | .nilm,.nilm=>true
  | .nilf,.nilf=>true
  | .nili,.nili=>true
  | .nils,.nils=>true
  | .junk,.junk=>true
  | _,_=>false
def eqDL:List DV→List DV→Bool
  | [],[]=>true
  | a::r,b::s=>eqD a b&&eqDL r s
  | _,_=>false
end
mutual
theorem z1uk : ∀ (a b:DV),eqD a b=true→a=b
  | .int k n,b,h=>by cases b<;>simp [eqD] at h; rw [h.1,h.2]
  | .bool x,b,h=>by cases b<;>simp [eqD] at h; rw [h]
  | .str x,b,h=>by cases b<;>simp [eqD] at h; rw [h]
  | .agg x,b,h=>by cases b<;>simp [eqD] at h; rw [zxiu _ _ h]
  | .tup x,b,h=>by cases b<;>simp [eqD] at h; rw [zxiu _ _ h]
  | .ref x,b,h=>by cases b<;>simp [eqD] at h; rw [zxiu _ _ h]
  | .sl f s n c,b,h=>by cases b<;>simp [eqD] at h; rw [h.1,h.2.1,h.2.2.1,zxiu _ _ h.2.2.2]
  | .ms ..,b,h=>by cases b<;>simp [eqD] at h; obtain ⟨rfl,rfl,rfl,rfl,rfl,rfl⟩:=h; rfl
  | .mp ..,b,h=>by cases b<;>simp [eqD] at h; obtain ⟨rfl,rfl,rfl⟩:=h; rfl
  | .nilp,b,h=>by cases b<;>simp [eqD] at h; rfl
  | .nilm,b,h=>by cases b<;>simp [eqD] at h; rfl
  | .nilf,b,h=>by cases b<;>simp [eqD] at h; rfl
  | .nili,b,h=>by cases b<;>simp [eqD] at h; rfl
  | .nils,b,h=>by cases b<;>simp [eqD] at h; rfl
  | .junk,b,h=>by cases b<;>simp [eqD] at h; rfl
  | .fn ..,b,h=>by cases b<;>simp [eqD] at h
  | .iface ..,b,h=>by cases b<;>simp [eqD] at h
theorem zxiu : ∀ (a b:List DV),eqDL a b=true→a=b
  | [],[],_=>rfl
  | a::r,b::s,h=>by
    simp only [eqDL,Bool.and_eq_true] at h
    rw [z1uk a b h.1,zxiu r s h.2]
  | [],_::_,h=>by simp [eqDL] at h
  | _::_,[],h=>by simp [eqDL] at h
end
def eqH:List AObj→List AObj→Bool
  | [],[]=>true
  | .cells a::r,.cells b::s=>eqDL a b&&eqH r s
  | .dead::r,.dead::s=>eqH r s
  | _,_=>false
theorem z58j : ∀ {a b:List AObj},eqH a b=true→a=b
  | [],[],_=>rfl
  | .cells a::r,.cells b::s,h=>by
    simp only [eqH,Bool.and_eq_true] at h
    rw [zxiu a b h.1,z58j h.2]
  | .dead::r,.dead::s,h=>by simp only [eqH] at h; rw [z58j h]
  | [],_::_,h=>by simp [eqH] at h
  | _::_,[],h=>by simp [eqH] at h
  | .cells _::_,.dead::_,h=>by simp [eqH] at h
  | .dead::_,.cells _::_,h=>by simp [eqH] at h
def newE (call:z1l0) (g:Nat) (args:List DV) (h:List AObj):Option (DV × List AObj) :=
  (call g args h).bind fun r=>if eqH h (r.2.take h.length)=true then some r else none
def zm9o (call:z1l0) (g:Nat) (args:List DV) (h:List AObj):Option DV :=
  (z4tt h 3 args).bind fun args'=>(call g args' []).bind fun r=>(snap r.2 3 r.1).bind fun d=>if zbao args||scal d then some d else none
def opE (call:z1l0) (draw:Bool) (op:AOp) (st:St):Option (DV × List AObj) :=
  match op with
  | .call f args=>match ev st.t f with
    | .fn (.func g) first captured=>if draw then (zm9o call g (first++args.map (ev st.t)++captured) st.h).map fun d=>(d,st.h) else call g (first++args.map (ev st.t)++captured) st.h
    | _=>none
  | .callN f args=>match ev st.t f with
    | .fn (.func g) first captured=>if draw then newE call g (first++args.map (ev st.t)++captured) st.h else none
    | _=>none
  | .callT _ _=>none
  | .callE f args=>match ev st.t f with
    | .fn (.func g) first captured=>if draw then call g (first++args.map (ev st.t)++captured) st.h else none
    | _=>none
  | op=>evOp op st.t st.h
def opsE (call:z1l0) (draw:Bool):List AOper→St→Option St
  | [],st=>some st
  | o::r,st=>match goes st.t o.g with
    | some true=>match opE call draw o.op st with
      | some (d,h')=>opsE call draw r ⟨putT st.t o.d d,h'⟩
      | none=>none
    | some false=>opsE call draw r ⟨putT st.t o.d (.tup []),st.h⟩
    | none=>none
abbrev RunE:=ACode→St→Option (AExit × St)
def zkoc (L:List (Nat × AFn)) (C:List (Nat × (List DV→Option DV))) (E:RunE):z1l0:=fun g args h =>
  match zusd C g with
  | some c=>(zyo0 c args h).map fun d=>(d,h)
  | none=>match zlwe L g with
    | some af=>match E af.code ⟨zr5g af.ntmps args,h⟩ with
      | some (.ret,st)=>(zxgc af.res st).map fun d=>(d,st.h)
      | some (.normal,st)=>(zxgc af.res st).map fun d=>(d,st.h)
      | _=>none
    | none=>none
def zvoc (L:List (Nat × AFn)) (C:List (Nat × (List DV→Option DV))) (E:RunE):RunE
  | .skip,st=>some (.normal,st)
  | .region draw ops,st=>(opsE (zkoc L C E) draw ops st).map fun s=>(.normal,s)
  | .seq a b,st=>match E a st with
    | some (.normal,s)=>E b s
    | r=>r
  | .cond c x y,st=>match ev st.t c with
    | .bool true=>E x st
    | .bool false=>E y st
    | _=>none
  | .block id c,st=>match E c st with
    | some (.exit i,s)=>if i=id then some (.normal,s) else some (.exit i,s)
    | r=>r
  | .loop c,st=>match E c st with
    | some (.normal,s)=>E (.loop c) s
    | r=>r
  | .exit id,st=>some (.exit id,st)
  | .ret,st=>some (.ret,st)
  | .rangeF ..,_=>none
def runE (L:List (Nat × AFn)) (C:List (Nat × (List DV→Option DV))):Nat→RunE
  | 0=>fun _ _=>none
  | n+1=>zvoc L C (runE L C n)
def callE (L:List (Nat × AFn)) (C:List (Nat × (List DV→Option DV))) (n:Nat):z1l0:=zkoc L C (runE L C n)
def semE (L:List (Nat × AFn)) (C:List (Nat × (List DV→Option DV))) (n:Nat) (g:Nat) (args:List DV):Option DV:=(callE L C n g args []).bind fun r=>snap r.2 3 r.1
section
variable {P:Program} (hmix:P.follows .mixedOrders=true) {L:List (Nat × AFn)} (hL:OKL P L) {C:List (Nat × (List DV→Option DV))} (hC:OKC P C)
def zimi (P:Program) (call:z1l0):Prop := ∀ g args h d h',call g args h=some (d,h')→zwy1 P g args h (fun a k=>a=d∧k=h')
def z7am (P:Program) (E:RunE):Prop := ∀ c st e st',E c st=some (e,st') → ∀ (n0:Nat) (Φ:AExit→St→Prop),Φ e st'→awp P n0 c Φ st
include hmix hL hC in
theorem z2iy {E:RunE} (hE:z7am P E):zimi P (zkoc L C E):=by
  intro g args h d h' he
  unfold zkoc at he
  split at he
  · rename_i c hc
    obtain ⟨v,h1,h2⟩:=y01.1 he
    simp at h2
    obtain ⟨rfl,rfl⟩:=h2
    exact zh23 (z3ta (z8sz hC hc) h1) ⟨rfl,rfl⟩
  · split at he
    · rename_i af hf
      obtain ⟨fn,f1,f2⟩:=ztrd hL hf
      split at he
      · rename_i st hr
        obtain ⟨v,h1,h2⟩:=y01.1 he
        simp at h2
        obtain ⟨rfl,rfl⟩:=h2
        exact zk97 hmix f1 f2 (hE _ _ _ _ hr _ _ ⟨v,h1,rfl,rfl⟩)
      · rename_i st hr
        obtain ⟨v,h1,h2⟩:=y01.1 he
        simp at h2
        obtain ⟨rfl,rfl⟩:=h2
        exact zk97 hmix f1 f2 (hE _ _ _ _ hr _ _ ⟨v,h1,rfl,rfl⟩)
      · simp at he
    · simp at he
theorem z5y7 {call:z1l0} (hc:zimi P call) {g:Nat} {args:List DV} {h:List AObj} {d:DV} (he:zm9o call g args h=some d):zmwk P g args h d:=by
  unfold zm9o at he
  obtain ⟨args',h1,he⟩:=y00.1 he
  obtain ⟨r,h2,he⟩:=y00.1 he
  obtain ⟨d',h3,he⟩:=y00.1 he
  split at he
  · rename_i hp
    simp at he; subst he
    have hs:Sem P g args' d':=zzfj ((hc g args' [] r.1 r.2 h2).mono fun a k ⟨e1,e2⟩=>by subst e1; subst e2; exact h3)
    simp only [Bool.or_eq_true] at hp
    rcases hp with hp|hp
    · have:z4tt h 3 args=some args:=z619 hp
      rw [this] at h1; simp at h1; subst h1
      exact .inl ⟨hp,hs⟩
    · exact .inr ⟨hp,args',h1,hs⟩
  · simp at he
theorem zc8p {call:z1l0} (hc:zimi P call) {g:Nat} {args:List DV} {h h':List AObj} {d:DV} (he:newE call g args h=some (d,h')):zrmf P g args h d h':=by
  unfold newE at he
  obtain ⟨r,h1,h2⟩:=y00.1 he
  split at h2
  · rename_i hq
    simp at h2; subst h2
    refine .inr ⟨hc _ _ _ _ _ h1,h'.drop h.length,?_⟩
    have:=z58j hq
    conv=>rhs; rw [show h=h'.take h.length from this]
    simp only [List.length_take]
    conv=>lhs; rw [← List.take_append_drop h.length h']
    congr 1
    rw [← List.length_take,← this]
  · simp at h2
theorem z9bl {call:z1l0} (hc:zimi P call) : ∀ (l:List AOper) (st st':St),opsE call false l st=some st' → ∀ Φ:St→Prop,Φ st'→zysb P l st Φ
  | [],st,st',h,Φ,hΦ=>by simp [opsE] at h; subst h; exact hΦ
  | o::r,st,st',h,Φ,hΦ=>by
    rw [opsE] at h
    rw [zysb]
    refine z7fh.2 ?_
    split at h
    · rename_i hg
      refine .inl ⟨hg,?_⟩
      split at h
      · rename_i d h' ho
        obtain ⟨g,dd,op⟩:=o
        have next:=z9bl hc r _ st' h Φ hΦ
        cases op with
        | call f args =>
          simp only [opE] at ho ⊢
          split at ho
          · simp only [Bool.false_eq_true,if_false] at ho
            rename_i ef
            simp only [ef]
            exact (hc _ _ _ _ _ ho).mono fun a k he=>by obtain ⟨e1,e2⟩:=he; subst e1; subst e2; exact next
          · simp at ho
        | callN f args =>
          simp only [opE] at ho
          split at ho<;>simp at ho
        | callT f args=>simp [opE] at ho
        | callE f args =>
          simp only [opE] at ho
          split at ho<;>simp at ho
        | _ =>
          simp only [opE] at ho
          simp only [ho]
          exact next
      · simp at h
    · rename_i hg
      exact .inr ⟨hg,z9bl hc r _ st' h Φ hΦ⟩
    · simp at h
theorem zjro {call:z1l0} (hc:zimi P call) : ∀ (l:List AOper) (st st':St),opsE call true l st=some st' → ∀ Φ:St→Prop,Φ st'→zetq P l st Φ
  | [],st,st',h,Φ,hΦ=>by simp [opsE] at h; subst h; exact hΦ
  | o::r,st,st',h,Φ,hΦ=>by
    rw [opsE] at h
    refine zow1.2 ?_
    unfold zgbp
    split at h
    · rename_i hg
      split at h
      · rename_i d h' ho
        refine ⟨d,h',?_,zjro hc r _ st' h Φ hΦ⟩
        rw [hg]
        obtain ⟨g,dd,op⟩:=o
        cases op with
        | call f args =>
          simp only [opE] at ho
          simp only [outA]
          split at ho
          · rename_i ef
            simp only [ef]
            simp only [if_true] at ho
            obtain ⟨v,h1,h2⟩:=y01.1 ho
            simp at h2
            obtain ⟨rfl,rfl⟩:=h2
            exact ⟨z5y7 hc h1,rfl⟩
          · simp at ho
        | callN f args =>
          simp only [opE] at ho
          simp only [outA]
          split at ho
          · rename_i ef
            simp only [ef]
            simp only [if_true] at ho
            exact zc8p hc ho
          · simp at ho
        | callT f args=>simp [opE] at ho
        | callE f args =>
          simp only [opE] at ho
          simp only [outA]
          split at ho
          · rename_i ef
            simp only [ef]
            simp only [if_true] at ho
            exact .inr (hc _ _ _ _ _ ho)
          · simp at ho
        | _ =>
          simp only [opE] at ho
          simp only [outA]
          exact ho
      · simp at h
    · rename_i hg
      refine ⟨.tup [],st.h,?_,zjro hc r _ st' h Φ hΦ⟩
      rw [hg]; exact ⟨rfl,rfl⟩
    · simp at h
include hmix hL hC in
theorem zlxq {E:RunE} (hE:z7am P E):z7am P (zvoc L C E):=by
  have hcall:=z2iy hmix hL hC hE
  intro c st e st' h n0 Φ hΦ
  cases c with
  | skip=>simp [zvoc] at h; obtain ⟨rfl,rfl⟩:=h; exact hΦ
  | region draw ops =>
    simp only [zvoc] at h
    obtain ⟨s,h1,h2⟩:=y01.1 h
    simp at h2
    obtain ⟨rfl,rfl⟩:=h2
    simp only [awp]
    cases draw with
    | true=>exact zjro hcall ops st s h1 _ hΦ
    | false=>exact z9bl hcall ops st s h1 _ hΦ
  | seq a b =>
    simp only [zvoc] at h
    simp only [awp]
    split at h
    · rename_i s hs
      exact hE _ _ _ _ hs n0 _ (hE _ _ _ _ h n0 _ hΦ)
    · rename_i hne
      refine hE _ _ _ _ h n0 _ ?_
      cases e with
      | normal=>exact absurd h (hne st')
      | exit i=>exact hΦ
      | ret=>exact hΦ
  | cond c x y =>
    simp only [zvoc] at h
    simp only [awp]
    split at h
    · rename_i hb; rw [hb]; exact ⟨fun _=>hE _ _ _ _ h n0 _ hΦ,fun h=>by simp at h⟩
    · rename_i hb; rw [hb]; exact ⟨fun h=>by simp at h,fun _=>hE _ _ _ _ h n0 _ hΦ⟩
    · simp at h
  | block id c =>
    simp only [zvoc] at h
    simp only [awp]
    split at h
    · rename_i i s hs
      refine hE _ _ _ _ hs n0 _ ?_
      simp only
      split at h
      · rename_i hi; simp at h; obtain ⟨rfl,rfl⟩:=h; rw [if_pos hi]; exact hΦ
      · rename_i hi; simp at h; obtain ⟨rfl,rfl⟩:=h; rw [if_neg hi]; exact hΦ
    · rename_i hne
      refine hE _ _ _ _ h n0 _ ?_
      cases e with
      | normal=>exact hΦ
      | exit i=>exact absurd h (hne i st')
      | ret=>exact hΦ
  | loop c =>
    simp only [zvoc] at h
    split at h
    · rename_i s hs
      have hl:=hE _ _ _ _ h n0 Φ hΦ
      simp only [awp] at hl ⊢
      obtain ⟨I,n,st0,h1,h2,h3⟩:=hl
      refine ⟨fun m x=>(m=n+1∧x=st)∨I m x,n+1,st,z6u6 _ _,.inl ⟨rfl,rfl⟩,fun m x hx => ?_⟩
      rcases hx with ⟨rfl,rfl⟩|hx
      · exact hE _ _ _ _ hs n0 _ ⟨n,st0,h1,by omega,.inr h2⟩
      · refine zzob c (fun e y hy => ?_) x (h3 m x hx)
        cases e with
        | normal=>obtain ⟨n',st'',g1,g2,g3⟩:=hy; exact ⟨n',st'',g1,g2,.inr g3⟩
        | exit i=>exact hy
        | ret=>exact hy
    · rename_i hne
      simp only [awp]
      refine ⟨fun m x=>m=0∧x=st,0,st,z6u6 _ _,⟨rfl,rfl⟩,fun m x hx => ?_⟩
      obtain ⟨rfl,rfl⟩:=hx
      refine hE _ _ _ _ h n0 _ ?_
      cases e with
      | normal=>exact absurd h (hne st')
      | exit i=>exact hΦ
      | ret=>exact hΦ
  | exit id=>simp [zvoc] at h; obtain ⟨rfl,rfl⟩:=h; exact hΦ
  | ret=>simp [zvoc] at h; obtain ⟨rfl,rfl⟩:=h; exact hΦ
  | rangeF f p d c=>simp [zvoc] at h
include hmix hL hC in
theorem z67a : ∀ n,z7am P (runE L C n)
  | 0=>fun c st e st' h=>by simp [runE] at h
  | n+1=>zlxq hmix hL hC (z67a n)
include hmix hL hC in
theorem zvlh (n:Nat):zimi P (callE L C n):=z2iy hmix hL hC (z67a hmix hL hC n)
include hmix hL hC in
theorem z4ur {n g:Nat} {args:List DV} {d:DV} (h:semE L C n g args=some d):Sem P g args d:=by
  unfold semE at h
  obtain ⟨r,h1,h2⟩:=y00.1 h
  exact zzfj ((zvlh hmix hL hC n g args [] r.1 r.2 h1).mono fun a k ⟨e1,e2⟩=>by subst e1; subst e2; exact h2)
end
def ixbC:List DV→Option DV
  | [.str s,.int .u8 n]=>if 0≤n∧n<256 then some (.int .i64 (Lib.indexByte s n.toNat.toUInt8)) else none
  | _=>none
theorem zk1r {P:Program} {f:FuncId} (h : ∀ (s:List UInt8) (c:BitVec 8),Sem P f [.str s,w8 c] (.int .i64 (Lib.indexByte s c.toNat.toUInt8))) : ∀ args v,ixbC args=some v→Sem P f args v:=by
  intro args v e
  unfold ixbC at e
  split at e
  · rename_i s n
    split at e
    · rename_i hn
      simp at e; subst e
      have:=h s (BitVec.ofInt 8 n)
      have e1:((BitVec.ofInt 8 n).toNat:Int)=n:=by rw [BitVec.toNat_ofInt]; simp; omega
      have e2:w8 (BitVec.ofInt 8 n) = .int .u8 n:=by unfold w8; rw [e1]
      have e3:(BitVec.ofInt 8 n).toNat=n.toNat:=by omega
      rw [e2,e3] at this
      exact this
    · simp at e
  · simp at e
end Go.Am
