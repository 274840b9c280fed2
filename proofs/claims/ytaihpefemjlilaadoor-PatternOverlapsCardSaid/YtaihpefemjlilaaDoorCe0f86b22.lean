/-
  21 texts of mine in one.
-/
import Derived.Test.YtaihpefemjlilaaDoorCc02078ea
import Derived.Test.YtaihpefemjlilaaDoorCf3c0fb57
import Derived.Test.YtaihpefemjlilaaDoorC6585a2f5
import Derived.Test.YtaihpefemjlilaaDoorC11682c8d
import Derived.Test.YtaihpefemjlilaaDoorC1468e658
import Derived.Test.YtaihpefemjlilaaDoorC30ca10ac
set_option maxRecDepth 20000
set_option maxHeartbeats 4000000
open List renaming map_take → zA, map_drop → zB, map_set → zC, map_append → zD, drop_one → zE
open Bool renaming and_eq_true → y04, false_eq_true → y0m
open List renaming getD_eq_getElem?_getD → y00, getElem?_eq_getElem → y01, take_of_length_le → y03, mem_cons_of_mem → y05, mem_append_left → y06, getElem_mem → y07, ext_getElem → y08, drop_eq_getElem_cons → y09, mem_cons → y0a, mem_append → y0b, mem_map → y0c, length_cons → y0d, map_cons → y0e, length_pos_iff → y0f, foldl_append → y0g, all_eq_true → y0h, eq_nil_of_length_eq_zero → y0j, reverse_append → y0k, dropLast_concat_getLast → y0l, all_eq_false → y0n, getElem?_eq_some_iff → y0o, cons_append → y0p, getElem_set → y0r, length_drop → y0s, take_length → y0t, append_inj_right' → y0u, drop_eq_nil_of_le → y0w, getElem?_eq_none → y0x, append_inj_left' → y0y, contains_iff_mem → y0z, mem_of_mem_take → y10
open Nat renaming le_refl → y02, add_zero → y0i
open Option renaming bind_some → y0q, map_eq_some_iff → y0v
set_option linter.unusedSimpArgs false
set_option linter.unusedVariables false
namespace Go.Proofs.YtaihpefemjlilaaDoor
open Go Go.Am
def kC (C:Came):List Q:=C.map (·.1)
theorem z729 (C r:Came):kC (C++r)=kC C++kC r:=by simp [kC]
theorem zcii {C:Came} {x:Q}:getC C x=none↔x ∉ kC C:=by
 rw [zjus]
 constructor
 ·intro h hx
  obtain ⟨e,he,rfl⟩:=y0c.1 hx
  exact h e he rfl
 ·intro h e he q
  exact h (y0c.2 ⟨e,he,q⟩)
theorem zfzm {C:Came} {x:Q} (h:(getC C x).isSome=true):x ∈ kC C:=Classical.byContradiction fun e=>by rw [zcii.2 e] at h; simp at h
theorem znjp : ∀ {C:Came} {x:Q} {s:Stp},(kC C).Nodup→(x,s) ∈ C→getC C x=some s
 | (y,t)::r,x,s,hn,h=>by
  simp only [kC,y0e,List.nodup_cons] at hn
  simp only [getC]
  rcases y0a.1 h with e|h
  ·cases e; simp
  ·have:y≠x:=fun e=>hn.1 (e▸y0c.2 ⟨_,h,rfl⟩)
   rw [if_neg this]
   exact znjp hn.2 h
theorem zn0o (p q:List Pt) : ∀ (n:Nat) (C:Came) (L:List Q) (x:Q) (s:Stp),∃ r:Came,vis p q n C L x s=(C++r,L++kC r)
 | 0,C,L,x,s=>⟨[],by simp [vis,kC]⟩
 | n+1,C,L,x,s=>by
  cases hg:getC C x with
  | some v=>exact ⟨[],by rw [ztmq (by simp [hg])]; simp [kC]⟩
  | none =>
   rw [z5aj hg]
   have h1 : ∃ r:Came,(if lgP p x.1=true then vis p q n (C++[(x,s)]) (L++[x]) (x.1+1,x.2.1,x.2.2) (x,0#8) else (C++[(x,s)],L++[x]))=(C++r,L++kC r):=by
    split
    ·obtain ⟨r,hr⟩:=zn0o p q n (C++[(x,s)]) (L++[x]) (x.1+1,x.2.1,x.2.2) (x,0#8)
     exact ⟨(x,s)::r,by rw [hr]; simp [kC]⟩
    ·exact ⟨[(x,s)],by simp [kC]⟩
   obtain ⟨r,hr⟩:=h1
   rw [hr]
   simp only
   split
   ·obtain ⟨r2,hr2⟩:=zn0o p q n (C++r) (L++kC r) (x.1,x.2.1+1,x.2.2) (x,0#8)
    exact ⟨r++r2,by rw [hr2,z729]; simp⟩
   ·exact ⟨r,rfl⟩
theorem zedd {p q:List Pt} {n:Nat} {C:Came} {L:List Q} {x:Q} {s:Stp} {y:Q} (h:y ∈ kC C):y ∈ kC (vis p q n C L x s).1:=by
 obtain ⟨r,hr⟩:=zn0o p q n C L x s
 rw [hr,z729]; exact y06 _ h
structure Es (p q:List Pt) (y:Q) (C:Came):Prop where
 a:lgP p y.1=true→(y.1+1,y.2.1,y.2.2) ∈ kC C
 b:lgP q y.2.1=true→(y.1,y.2.1+1,y.2.2) ∈ kC C
theorem Es.mono {p q:List Pt} {y:Q} {C C':Came} (h:Es p q y C) (hs : ∀ z,z ∈ kC C→z ∈ kC C'):Es p q y C':=⟨fun e=>hs _ (h.a e),fun e=>hs _ (h.b e)⟩
theorem zthm {p:List Pt} {i:Nat} (h:lgP p i=true):i<p.length:=by simp only [lgP,y04,decide_eq_true_eq] at h; exact h.1
theorem z3m9 (p q:List Pt) : ∀ (n:Nat) (C:Came) (L:List Q) (x:Q) (s:Stp),(p.length-x.1)+(q.length-x.2.1)<n→x ∈ kC (vis p q n C L x s).1 ∧ ∀ y,y ∈ kC (vis p q n C L x s).1→y ∈ kC C∨Es p q y (vis p q n C L x s).1
 | 0,C,L,x,s,h=>absurd h (by omega)
 | n+1,C,L,x,s,h=>by
  cases hg:getC C x with
  | some v=>rw [ztmq (by simp [hg])]; exact ⟨zfzm (by simp [hg]),fun y hy => .inl hy⟩
  | none =>
   rw [z5aj hg]
   have h1 : ∃ b:Came × List Q,(if lgP p x.1=true then vis p q n (C++[(x,s)]) (L++[x]) (x.1+1,x.2.1,x.2.2) (x,0#8) else (C++[(x,s)],L++[x]))=b∧(∀ y,y ∈ kC (C++[(x,s)])→y ∈ kC b.1)∧(lgP p x.1=true→(x.1+1,x.2.1,x.2.2) ∈ kC b.1) ∧ ∀ y,y ∈ kC b.1→y ∈ kC (C++[(x,s)])∨Es p q y b.1:=by
    by_cases e:lgP p x.1=true
    ·rw [if_pos e]
     have:=zthm e
     obtain ⟨g1,g2⟩:=z3m9 p q n (C++[(x,s)]) (L++[x]) (x.1+1,x.2.1,x.2.2) (x,0#8) (by simp only; omega)
     exact ⟨_,rfl,fun y hy=>zedd hy,fun _=>g1,g2⟩
    ·rw [if_neg e]
     exact ⟨_,rfl,fun y hy=>hy,fun q=>absurd q e,fun y hy => .inl hy⟩
   obtain ⟨b,hb,b1,b2,b3⟩:=h1
   rw [hb]
   have h2 : ∃ d:Came × List Q,(if lgP q x.2.1=true then vis p q n b.1 b.2 (x.1,x.2.1+1,x.2.2) (x,0#8) else b)=d∧(∀ y,y ∈ kC b.1→y ∈ kC d.1)∧(lgP q x.2.1=true→(x.1,x.2.1+1,x.2.2) ∈ kC d.1) ∧ ∀ y,y ∈ kC d.1→y ∈ kC b.1∨Es p q y d.1:=by
    by_cases e:lgP q x.2.1=true
    ·rw [if_pos e]
     have:=zthm e
     obtain ⟨g1,g2⟩:=z3m9 p q n b.1 b.2 (x.1,x.2.1+1,x.2.2) (x,0#8) (by simp only; omega)
     exact ⟨_,rfl,fun y hy=>zedd hy,fun _=>g1,g2⟩
    ·rw [if_neg e]
     exact ⟨_,rfl,fun y hy=>hy,fun q=>absurd q e,fun y hy => .inl hy⟩
   obtain ⟨d,hd,d1,d2,d3⟩:=h2
   simp only [hd]
   have hxm:x ∈ kC (C++[(x,s)]):=by simp [kC]
   refine ⟨d1 _ (b1 _ hxm),fun y hy => ?_⟩
   rcases d3 y hy with g|g
   ·rcases b3 y g with g'|g'
    ·rw [z729] at g'
     rcases y0b.1 g' with g'|g'
     ·exact .inl g'
     ·simp [kC] at g'; subst g'
      exact .inr ⟨fun e=>d1 _ (b2 e),d2⟩
    ·exact .inr (g'.mono d1)
   ·exact .inr g
def Ecl (p q:List Pt) (C:Came):Prop := ∀ y ∈ kC C,Es p q y C
theorem zp9x {p q:List Pt} {n:Nat} {C:Came} {L:List Q} {x:Q} {s:Stp} (h:Ecl p q C) (hn:(p.length-x.1)+(q.length-x.2.1)<n):Ecl p q (vis p q n C L x s).1:=fun y hy=>by
 rcases (z3m9 p q n C L x s hn).2 y hy with g|g
 ·exact (h y g).mono fun z hz=>zedd hz
 ·exact g
def cB (c:B8):List UInt8:=if c=0#8 then [] else [⟨c⟩]
def oQ:Q:=(0,0,0)
def edge (p q:List Pt) (f:Q) (c:B8) (y:Q):Prop :=
 (c=0#8∧((lgP p f.1=true∧y=(f.1+1,f.2.1,f.2.2))∨(lgP q f.2.1=true∧y=(f.1,f.2.1+1,f.2.2)))) ∨
 (c≠0#8∧f.1<p.length∧f.2.1<q.length∧(p.getD f.1 .dot).takes c=true∧(q.getD f.2.1 .dot).takes c=true ∧ ∃ k,aft f.2.2 c=some k∧y=(adv p f.1,adv q f.2.1,k))
def zv0a (p q:List Pt):Came→Prop
 | []=>True
 | (y,s)::r=>zv0a p q r∧y ∉ kC r∧((r=[]∧y=oQ)∨(s.1 ∈ kC r∧edge p q s.1 s.2 y))
def Good (p q:List Pt) (C:Came):Prop:=zv0a p q C.reverse
def wdR:Came→Q→List UInt8
 | [],_=>[]
 | (y,s)::r,x=>if y=x then (if r=[] then [] else wdR r s.1++cB s.2) else wdR r x
def wd (C:Came) (x:Q):List UInt8:=wdR C.reverse x
theorem zp1x (C:Came) (x:Q):x ∈ kC C.reverse↔x ∈ kC C:=by simp [kC]
theorem Good.snoc {p q:List Pt} {C:Came} {x:Q} {s:Stp} (h:Good p q C) (hn:getC C x=none) (hs:(C=[]∧x=oQ)∨(s.1 ∈ kC C∧edge p q s.1 s.2 x)):Good p q (C++[(x,s)]):=by
 unfold Good
 rw [y0k]
 refine ⟨h,fun e=>zcii.1 hn ((zp1x C x).1 e),?_⟩
 rcases hs with ⟨rfl,rfl⟩|⟨g1,g2⟩
 ·exact .inl ⟨rfl,rfl⟩
 ·exact .inr ⟨(zp1x C _).2 g1,g2⟩
theorem z784 (p q:List Pt) : ∀ (n:Nat) (C:Came) (L:List Q) (x:Q) (s:Stp),Good p q C→((C=[]∧x=oQ)∨(s.1 ∈ kC C∧edge p q s.1 s.2 x))→Good p q (vis p q n C L x s).1
 | 0,C,L,x,s,h,_=>h
 | n+1,C,L,x,s,h,hs=>by
  cases hg:getC C x with
  | some v=>rw [ztmq (by simp [hg])]; exact h
  | none =>
   rw [z5aj hg]
   have h1:=h.snoc hg hs
   have hxm:x ∈ kC (C++[(x,s)]):=by simp [kC]
   have h2:Good p q (if lgP p x.1=true then vis p q n (C++[(x,s)]) (L++[x]) (x.1+1,x.2.1,x.2.2) (x,0#8) else (C++[(x,s)],L++[x])).1∧x ∈ kC (if lgP p x.1=true then vis p q n (C++[(x,s)]) (L++[x]) (x.1+1,x.2.1,x.2.2) (x,0#8) else (C++[(x,s)],L++[x])).1:=by
    split
    ·rename_i hl
     exact ⟨z784 p q n _ _ _ _ h1 (.inr ⟨hxm,.inl ⟨rfl,.inl ⟨hl,rfl⟩⟩⟩),zedd hxm⟩
    ·exact ⟨h1,hxm⟩
   simp only
   split
   ·rename_i hl
    exact z784 p q n _ _ _ _ h2.1 (.inr ⟨h2.2,.inl ⟨rfl,.inr ⟨hl,rfl⟩⟩⟩)
   ·exact h2.1
theorem zkal {C:Came} {e:Q × Stp} {x:Q} (h:e.1≠x):wd (C++[e]) x=wd C x:=by
 unfold wd
 rw [y0k]
 show wdR (e::C.reverse) x=_
 obtain ⟨y,s⟩:=e
 rw [wdR,if_neg h]
theorem z2wh {C:Came} {x:Q} {s:Stp} (h:C≠[]):wd (C++[(x,s)]) x=wd C s.1++cB s.2:=by
 unfold wd
 rw [y0k]
 show wdR ((x,s)::C.reverse) x=_
 rw [wdR,if_pos rfl,if_neg (by simpa using h)]
theorem zfyu {x:Q} {s:Stp}:wd [(x,s)] x=[]:=by
 show wdR [(x,s)] x=[]
 rw [wdR,if_pos rfl,if_pos rfl]
def Len (m:Nat) (A:Came × List Q):Prop := ∀ y ∈ A.2,y ∈ kC A.1∧(wd A.1 y).length=m
theorem Len.snoc {m:Nat} {C:Came} {L:List Q} {x:Q} {s:Stp} (h:Len m (C,L)) (hn:getC C x=none) (hw:(wd (C++[(x,s)]) x).length=m):Len m (C++[(x,s)],L++[x]):=fun y hy=>by
 simp only at hy ⊢
 rcases y0b.1 hy with g|g
 ·obtain ⟨g1,g2⟩:=h y g
  have hne:x≠y:=fun e=>zcii.1 hn (e▸g1)
  rw [zkal (by exact hne)]
  exact ⟨by rw [z729]; exact y06 _ g1,g2⟩
 ·simp at g; subst g
  exact ⟨by simp [kC],hw⟩
theorem zhe2 (p q:List Pt) (m:Nat) : ∀ (n:Nat) (C:Came) (L:List Q) (x:Q) (s:Stp),Len m (C,L)→((C=[]∧m=0)∨(C≠[]∧s.1 ∈ kC C∧(wd C s.1++cB s.2).length=m)) →
  Len m (vis p q n C L x s) ∧ ∀ y ∈ kC C,wd (vis p q n C L x s).1 y=wd C y
 | 0,C,L,x,s,h,_=>⟨h,fun _ _=>rfl⟩
 | n+1,C,L,x,s,h,hs=>by
  cases hg:getC C x with
  | some v=>rw [ztmq (by simp [hg])]; exact ⟨h,fun _ _=>rfl⟩
  | none =>
   rw [z5aj hg]
   have hw:(wd (C++[(x,s)]) x).length=m:=by
    rcases hs with ⟨rfl,rfl⟩|⟨g1,_,g2⟩
    ·show (wd [(x,s)] x).length=0
     rw [zfyu]; rfl
    ·rw [z2wh g1]; exact g2
   have h1:=h.snoc hg hw
   have hold : ∀ y ∈ kC C,wd (C++[(x,s)]) y=wd C y:=fun y hy=>zkal (by
    show x≠y
    intro e; exact zcii.1 hg (e▸hy))
   have hxm:x ∈ kC (C++[(x,s)]):=by simp [kC]
   have hne:C++[(x,s)]≠[]:=by simp
   have hx0:(wd (C++[(x,s)]) x++cB 0#8).length=m:=by simp [cB,hw]
   have h2 : ∃ b:Came × List Q,(if lgP p x.1=true then vis p q n (C++[(x,s)]) (L++[x]) (x.1+1,x.2.1,x.2.2) (x,0#8) else (C++[(x,s)],L++[x]))=b∧Len m b∧(∀ y ∈ kC (C++[(x,s)]),y ∈ kC b.1∧wd b.1 y=wd (C++[(x,s)]) y):=by
    split
    ·obtain ⟨g1,g2⟩:=zhe2 p q m n (C++[(x,s)]) (L++[x]) (x.1+1,x.2.1,x.2.2) (x,0#8) h1 (.inr ⟨hne,hxm,hx0⟩)
     exact ⟨_,rfl,g1,fun y hy=>⟨zedd hy,g2 y hy⟩⟩
    ·exact ⟨_,rfl,h1,fun y hy=>⟨hy,rfl⟩⟩
   obtain ⟨b,hb,b1,b2⟩:=h2
   rw [hb]
   have hCm : ∀ y ∈ kC C,y ∈ kC (C++[(x,s)]):=fun y hy=>by rw [z729]; exact y06 _ hy
   simp only
   split
   ·have hbn:b.1≠[]:=fun e=>by have:=(b2 x hxm).1; rw [e] at this; simp [kC] at this
    obtain ⟨g1,g2⟩:=zhe2 p q m n b.1 b.2 (x.1,x.2.1+1,x.2.2) (x,0#8) b1 (.inr ⟨hbn,(b2 x hxm).1,by rw [(b2 x hxm).2]; exact hx0⟩)
    exact ⟨g1,fun y hy=>by rw [g2 y (b2 y (hCm y hy)).1,(b2 y (hCm y hy)).2,hold y hy]⟩
   ·exact ⟨b1,fun y hy=>by rw [(b2 y (hCm y hy)).2,hold y hy]⟩
end Go.Proofs.YtaihpefemjlilaaDoor
set_option linter.unusedSimpArgs false
set_option linter.unusedVariables false
namespace Go.Proofs.YtaihpefemjlilaaDoor
open Go Go.Am
theorem zg9s {s t:List UInt8} {i:Nat} (h:i<s.length):bAt (s++t) i=bAt s i:=by
 unfold bAt; rw [y00,y00,List.getElem?_append_left h]
theorem zthk {s:List UInt8} {c:UInt8}:bAt (s++[c]) s.length=c.toBitVec:=by
 unfold bAt; rw [y00,List.getElem?_append_right (y02 _)]; simp
theorem z074 {x:Pt} {s t:List UInt8} {f g:Nat→Bool} : ∀ (i:Nat),i≤s.length→(∀ j,j≤i→f j=g j)→row x (s++t) f i=row x s g i
 | 0,_,h=>by simp [row,h 0 (y02 _)]
 | i+1,hi,h=>by
  rw [row,row,z074 i (by omega) (fun j hj=>h j (by omega)),h (i+1) (y02 _),h i (by omega),zg9s (by omega)]
theorem z216 {l:List Pt} {s t:List UInt8} : ∀ (k i:Nat),i≤s.length→M l (s++t) k i=M l s k i
 | 0,_,_=>rfl
 | k+1,i,hi=>z074 i hi fun j hj=>z216 k j (by omega)
theorem zwnv {p:List Pt} {i:Nat} (h:lgP p i=true):(p.getD i .dot).long=true:=by simp only [lgP,y04] at h; exact h.2
theorem zasa {p:List Pt} {i:Nat} (h:(p.getD i .dot).long=true):lgP p i=true:=by
 simp only [lgP,y04,decide_eq_true_eq]
 refine ⟨?_,h⟩
 rcases Nat.lt_or_ge i p.length with g|g
 ·exact g
 ·rw [y00,y0x g] at h; simp [Pt.long] at h
theorem M_up {l:List Pt} {s:List UInt8} {k i:Nat} (hl:(l.getD k .dot).long=true) (h:M l s k i=true):M l s (k+1) i=true:=by
 cases i with
 | zero=>rw [z9av,hl,h]; rfl
 | succ i=>rw [zbwv hl,h]; rfl
theorem M_R {l:List Pt} {s:List UInt8} {k i:Nat} (h:M l s k i=true):R l s k i=true:=by
 unfold R
 split
 ·rename_i hl; exact M_up hl h
 ·exact h
theorem zyuu {p:List Pt} {s:List UInt8} {k i:Nat} (hl:lgP p k=true) (h:R p s k i=true):R p s (k+1) i=true:=by
 unfold R at h
 rw [if_pos (zwnv hl)] at h
 exact M_R h
theorem z0xn {p:List Pt} {w:List UInt8} {k:Nat} {c:UInt8} (h:R p w k w.length=true) (ht:(p.getD k .dot).takes c.toBitVec=true):R p (w++[c]) (adv p k) (w.length+1)=true:=by
 have hb:=zthk (s:=w) (c:=c)
 by_cases hl:(p.getD k .dot).long=true
 ·unfold adv; rw [if_pos hl]
  unfold R at h ⊢
  rw [if_pos hl] at h ⊢
  rw [zbwv hl,z216 (k+1) w.length (y02 _),h,hb,ht]; simp
 ·have hl':(p.getD k .dot).long=false:=by simpa using hl
  unfold adv; rw [if_neg hl]
  unfold R at h
  rw [if_neg hl] at h
  apply M_R
  rw [ze32 hl',z216 k w.length (y02 _),h,hb,ht]; rfl
def er (p:List Pt) (a b:Nat):Prop:=a≤b ∧ ∀ t,a≤t→t<b→lgP p t=true
theorem er.refl (p:List Pt) (a:Nat):er p a a:=⟨y02 _,fun t h1 h2=>by omega⟩
theorem er.step {p:List Pt} {a b:Nat} (h:er p a b) (hl:lgP p b=true):er p a (b+1):=⟨by have:=h.1; omega,fun t h1 h2=>by
 by_cases e:t=b
 ·subst e; exact hl
 ·exact h.2 t h1 (by omega)⟩
theorem zg5o {p:List Pt} {w:List UInt8} {c:UInt8} : ∀ (k:Nat),k≤p.length→M p (w++[c]) k (w.length+1)=true → ∃ i,i<p.length∧R p w i w.length=true∧(p.getD i .dot).takes c.toBitVec=true∧er p (adv p i) k
 | 0,_,h=>by rw [zbas] at h; simp at h
 | k+1,hk,h=>by
  have hb:=zthk (s:=w) (c:=c)
  by_cases hl:(p.getD k .dot).long=true
  ·rw [zbwv hl,Bool.or_eq_true] at h
   rcases h with h|h
   ·obtain ⟨i,g1,g2,g3,g4⟩:=zg5o k (by omega) h
    exact ⟨i,g1,g2,g3,g4.step (zasa hl)⟩
   ·rw [y04,z216 (k+1) w.length (y02 _),hb] at h
    refine ⟨k,by omega,by unfold R; rw [if_pos hl]; exact h.1,h.2,?_⟩
    unfold adv; rw [if_pos hl]; exact (er.refl p k).step (zasa hl)
  ·have hl':(p.getD k .dot).long=false:=by simpa using hl
   rw [ze32 hl',y04,z216 k w.length (y02 _),hb] at h
   refine ⟨k,by omega,by unfold R; rw [if_neg hl]; exact h.1,h.2,?_⟩
   unfold adv; rw [if_neg hl]; exact er.refl p _
theorem z7dp {p:List Pt} {w:List UInt8} {c:UInt8} {k:Nat} (hk:k≤p.length) (h:R p (w++[c]) k (w.length+1)=true) : ∃ i,i<p.length∧R p w i w.length=true∧(p.getD i .dot).takes c.toBitVec=true∧er p (adv p i) k:=by
 unfold R at h
 split at h
 ·rename_i hl
  have hb:=zthk (s:=w) (c:=c)
  rw [zbwv hl,Bool.or_eq_true] at h
  rcases h with h|h
  ·exact zg5o k hk h
  ·rw [y04,z216 (k+1) w.length (y02 _),hb] at h
   refine ⟨k,zthm (zasa hl),by unfold R; rw [if_pos hl]; exact h.1,h.2,?_⟩
   unfold adv; rw [if_pos hl]; exact er.refl p k
 ·exact zg5o k hk h
theorem zowh {p:List Pt} {w:List UInt8} : ∀ (k:Nat),M p w k 0=true→er p 0 k
 | 0,_=>er.refl p 0
 | k+1,h=>by
  rw [z9av,y04] at h
  exact (zowh k h.2).step (zasa h.1)
theorem ziei {p:List Pt} {w:List UInt8} {k:Nat} (h:R p w k 0=true):er p 0 k:=by
 unfold R at h
 split at h
 ·have:=zowh (k+1) h
  exact ⟨by omega,fun t h1 h2=>this.2 t h1 (by omega)⟩
 ·exact zowh k h
def nmF:Nat→List UInt8→Option Nat
 | k,[]=>some k
 | k,c::w=>(aft k c.toBitVec).bind fun k'=>nmF k' w
theorem zs8j : ∀ (w:List UInt8) (k:Nat) (c:UInt8),nmF k (w++[c])=(nmF k w).bind fun k'=>aft k' c.toBitVec
 | [],k,c=>by simp [nmF]
 | d::w,k,c=>by
  simp only [y0p,nmF]
  cases aft k d.toBitVec with
  | none=>rfl
  | some k'=>exact zs8j w k' c
def clC (x:List UInt8):Nat:=if x=[] then 0 else if x=[46] then 1 else if x=[46,46] then 2 else 3
theorem zz9v (x:List UInt8):okC x=true↔clC x=3:=by
 unfold okC clC
 by_cases h1:x=[]
 ·simp [h1]
 ·by_cases h2:x=[46]
  ·simp [h2]
  ·by_cases h3:x=[46,46]
   ·simp [h3]
   ·simp [h1,h2,h3]
theorem z2e6 (x:List UInt8) (c:UInt8) (hc:c≠47):aft (clC x) c.toBitVec=some (clC (x++[c])):=by
 have hc':c.toBitVec≠47#8:=zejk hc
 unfold aft
 rw [if_neg hc']
 by_cases h46:c=46
 ·subst h46
  have e46:(46:UInt8).toBitVec=46#8:=rfl
  unfold clC
  by_cases h1:x=[]
  ·subst h1; simp
  ·by_cases h2:x=[46]
   ·subst h2; simp
   ·by_cases h3:x=[46,46]
    ·subst h3; simp
    ·have g1:¬ x++[46]=[]:=by simp
     have g2:¬ x++[46]=[46]:=by simp [h1]
     have g3:¬ x++[46]=[46,46]:=by
      intro e
      have:x++[46]=[46]++[46]:=e
      exact h2 (y0y this rfl)
     simp [h1,h2,h3]
     intro e; exact h2 (y0y (show x++[46]=[46]++[46] from e) rfl)
 ·have h46':¬ c.toBitVec=46#8:=zejk h46
  rw [if_neg (by simp [h46'])]
  unfold clC
  have g1:¬ x++[c]=[]:=by simp
  have g2:¬ x++[c]=[46]:=by
   intro e
   have:x++[c]=[]++[46]:=e
   have:=y0u this rfl
   simp at this; exact h46 this
  have g3:¬ x++[c]=[46,46]:=by
   intro e
   have:x++[c]=[46]++[46]:=e
   have:=y0u this rfl
   simp at this; exact h46 this
  rw [if_neg g1,if_neg g2,if_neg g3]
theorem zj90 : ∀ (w x:List UInt8) (k:Nat),nmF (clC x) w=some k ↔ ∃ l,∃ (y:List UInt8),(match z2fg w with|[]=>[]|h::t=>(x++h)::t)=l++[y]∧l.all okC=true∧clC y=k
 | [],x,k=>by
  simp only [nmF,z2fg,List.append_nil,Option.some.injEq]
  constructor
  ·rintro rfl; exact ⟨[],x,rfl,rfl,rfl⟩
  ·rintro ⟨l,y,h1,_,h3⟩
   cases l with
   | nil=>simp at h1; subst h1; exact h3
   | cons a l=>simp at h1
 | c::w,x,k=>by
  by_cases hc:c=47
  ·subst hc
   have e47:(47:UInt8).toBitVec=47#8:=rfl
   simp only [nmF,zjyx,List.append_nil,e47,aft,if_true]
   obtain ⟨h,t,e⟩:=zzaw w
   have ih:=zj90 w [] k
   rw [e] at ih
   simp only [List.nil_append] at ih
   have c0:clC []=0:=rfl
   rw [c0] at ih
   by_cases hx:clC x=3
   ·rw [if_pos hx,y0q,ih,e]
    constructor
    ·rintro ⟨l,y,h1,h2,h3⟩
     exact ⟨x::l,y,by rw [h1]; rfl,by simp [(zz9v x).2 hx,h2],h3⟩
    ·rintro ⟨l,y,h1,h2,h3⟩
     cases l with
     | nil=>simp at h1
     | cons a l =>
      simp only [y0p,List.cons.injEq] at h1
      obtain ⟨rfl,h1⟩:=h1
      simp only [List.all_cons,y04] at h2
      exact ⟨l,y,h1,h2.2,h3⟩
   ·rw [if_neg hx]
    simp only [Option.bind_none]
    constructor
    ·intro q; simp at q
    ·rintro ⟨l,y,h1,h2,h3⟩
     rw [e] at h1
     cases l with
     | nil=>simp at h1
     | cons a l =>
      simp only [y0p,List.cons.injEq] at h1
      obtain ⟨rfl,h1⟩:=h1
      simp only [List.all_cons,y04] at h2
      exact absurd ((zz9v x).1 h2.1) hx
  ·obtain ⟨h,t,e⟩:=zzaw w
   have ih:=zj90 w (x++[c]) k
   rw [e] at ih
   simp only [nmF,z2e6 x c hc,y0q,zyty hc e]
   rw [ih]
   simp
theorem zuur (w:List UInt8):nmF 0 w=some 3↔(z2fg w).all okC=true:=by
 have:=zj90 w [] 3
 have c0:clC []=0:=rfl
 rw [c0] at this
 rw [this]
 obtain ⟨h,t,e⟩:=zzaw w
 rw [e]
 simp only [List.nil_append]
 constructor
 ·rintro ⟨l,y,h1,h2,h3⟩
  rw [h1,List.all_append,h2]
  simp [(zz9v y).2 h3]
 ·intro hh
  have hne:h::t≠[]:=by simp
  refine ⟨(h::t).dropLast,(h::t).getLast hne,(y0l hne).symm,?_,?_⟩
  ·rw [y0h] at hh ⊢
   exact fun z hz=>hh z (List.dropLast_subset _ hz)
  ·rw [y0h] at hh
   exact (zz9v _).1 (hh _ (List.getLast_mem hne))
theorem z7x9 {w:List UInt8}:zj1f w=true↔nmF 0 w=some 3∧noZ w=true∧w.length≤200:=by
 rw [zuur]
 simp only [zj1f,y04,decide_eq_true_eq]
 constructor
 ·rintro ⟨⟨⟨h1,h2⟩,h3⟩,h4⟩; exact ⟨h4,h3,h2⟩
 ·rintro ⟨h4,h3,h2⟩
  refine ⟨⟨⟨?_,h2⟩,h3⟩,h4⟩
  cases w with
  | nil=>simp [z2fg,okC] at h4
  | cons c w=>simp
structure Rw (p q:List Pt) (w:List UInt8) (x:Q):Prop where
 a:R p w x.1 w.length=true
 b:R q w x.2.1 w.length=true
 n:nmF 0 w=some x.2.2
 z:noZ w=true
theorem Rw.first (p q:List Pt):Rw p q [] oQ:=⟨M_R rfl,M_R rfl,rfl,rfl⟩
theorem z2zp {w:List UInt8} {c:UInt8} (h:noZ w=true) (hc:c≠0):noZ (w++[c])=true:=by rw [z2u1,h]; simp [noZ,hc]
theorem Rw.edge {p q:List Pt} {w:List UInt8} {f y:Q} {c:B8} (h:Rw p q w f) (he:edge p q f c y):Rw p q (w++cB c) y:=by
 rcases he with ⟨rfl,he⟩|⟨hc,h1,h2,h3,h4,k,h5,rfl⟩
 ·have e:w++cB 0#8=w:=by simp [cB]
  rw [e]
  rcases he with ⟨hl,rfl⟩|⟨hl,rfl⟩
  ·exact ⟨zyuu hl h.a,h.b,h.n,h.z⟩
  ·exact ⟨h.a,zyuu hl h.b,h.n,h.z⟩
 ·have e:cB c=[⟨c⟩]:=if_neg hc
  rw [e]
  have hl:(w++[(⟨c⟩:UInt8)]).length=w.length+1:=by simp
  refine ⟨by rw [hl]; exact z0xn h.a h3,by rw [hl]; exact z0xn h.b h4,?_,z2zp h.z fun e=>hc (by have:=congrArg UInt8.toBitVec e; exact this)⟩
  rw [zs8j,h.n]
  exact h5
theorem zb7e {p q:List Pt} : ∀ (r:Came),zv0a p q r → ∀ x ∈ kC r,Rw p q (wdR r x) x
 | [],_,x,hx=>by simp [kC] at hx
 | (y,s)::r,h,x,hx=>by
  obtain ⟨h1,h2,h3⟩:=h
  rw [wdR]
  by_cases e:y=x
  ·subst e
   rw [if_pos rfl]
   rcases h3 with ⟨rfl,rfl⟩|⟨g1,g2⟩
   ·rw [if_pos rfl]; exact Rw.first p q
   ·have:r≠[]:=fun e=>by rw [e] at g1; simp [kC] at g1
    rw [if_neg this]
    exact (zb7e r h1 s.1 g1).edge g2
  ·rw [if_neg e]
   have:x ∈ kC r:=by
    simp only [kC,y0e,y0a] at hx
    rcases hx with hx|hx
    ·exact absurd hx.symm e
    ·exact hx
   exact zb7e r h1 x this
theorem Good.rw {p q:List Pt} {C:Came} (h:Good p q C) {x:Q} (hx:x ∈ kC C):Rw p q (wd C x) x:=zb7e C.reverse h x ((zp1x C x).2 hx)
end Go.Proofs.YtaihpefemjlilaaDoor
set_option linter.unusedSimpArgs false
set_option linter.unusedVariables false
namespace Go.Proofs.YtaihpefemjlilaaDoor
open Go Go.Am
def lay (p q:List Pt) (cs:Pt→Pt→List B8) (A:Came × List Q):Came × List Q:=A.2.foldl (mvs p q cs) (A.1,[])
def lay0 (p q:List Pt):Came × List Q:=vis p q fu [] [] oQ (oQ,0#8)
def layN (p q:List Pt) (cs:Pt→Pt→List B8):Nat→Came × List Q
 | 0=>lay0 p q
 | n+1=>lay p q cs (layN p q cs n)
def NZ (p q:List Pt) (cs:Pt→Pt→List B8):Prop := ∀ i j,i<p.length→j<q.length → ∀ c ∈ cs (p.getD i .dot) (q.getD j .dot),c≠0#8
def Cl (p q:List Pt) (cs:Pt→Pt→List B8) (x:Q) (C:Came):Prop:=x.1<p.length→x.2.1<q.length → ∀ c ∈ cs (p.getD x.1 .dot) (q.getD x.2.1 .dot),(p.getD x.1 .dot).takes c=true→(q.getD x.2.1 .dot).takes c=true →
 ∀ k,aft x.2.2 c=some k→(adv p x.1,adv q x.2.1,k) ∈ kC C
structure Fi (p q:List Pt) (n:Nat) (C0:Came) (A:Came × List Q):Prop where
 good:Good p q A.1
 cl:CL p.length q.length A
 ecl:Ecl p q A.1
 len:Len (n+1) A
 app : ∃ r,A=(C0++r,kC r)
 old : ∀ y ∈ kC C0,wd A.1 y=wd C0 y
theorem Fi.sub {p q:List Pt} {n:Nat} {C0:Came} {A:Came × List Q} (h:Fi p q n C0 A) {y:Q} (hy:y ∈ kC C0):y ∈ kC A.1:=by
 obtain ⟨r,rfl⟩:=h.app
 simp only [z729]; exact y06 _ hy
theorem zwdp {p q:List Pt} (hp:p.length≤200) (hq:q.length≤200) {n:Nat} {C0:Came} {A:Came × List Q} (h:Fi p q n C0 A) {x:Q} (hx:x ∈ kC C0) (hw:(wd C0 x).length=n) (h1:x.1<p.length) (h2:x.2.1<q.length) (h3:x.2.2≤3) {c:B8} (hc:c≠0#8) :
  Fi p q n C0 (stp1 p q x A c)∧(∀ y,y ∈ kC A.1→y ∈ kC (stp1 p q x A c).1)∧((p.getD x.1 .dot).takes c=true→(q.getD x.2.1 .dot).takes c=true → ∀ k,aft x.2.2 c=some k→(adv p x.1,adv q x.2.1,k) ∈ kC (stp1 p q x A c).1):=by
 unfold stp1
 cases hk:aft x.2.2 c with
 | none=>exact ⟨h,fun y hy=>hy,fun _ _ k e=>by simp at e⟩
 | some k =>
  dsimp only
  split
  ·rename_i ht
   have hxa:=h.sub hx
   have hne:A.1≠[]:=fun e=>by rw [e] at hxa; simp [kC] at hxa
   have hbx:z4ew p.length q.length (adv p x.1,adv q x.2.1,k):=⟨by unfold adv; dsimp only; split<;>omega,by unfold adv; dsimp only; split<;>omega,zv7f h3 hk⟩
   have hfu:p.length-(adv p x.1,adv q x.2.1,k).1+(q.length-(adv p x.1,adv q x.2.1,k).2.1)<fu:=by unfold fu; simp only; omega
   obtain ⟨g1,g2⟩:=zhe2 p q (n+1) fu A.1 A.2 (adv p x.1,adv q x.2.1,k) (x,c) h.len (.inr ⟨hne,hxa,by rw [h.old x hx]; simp [cB,hc,hw]⟩)
   obtain ⟨r0,hr0⟩:=h.app
   obtain ⟨r,hr⟩:=zn0o p q fu A.1 A.2 (adv p x.1,adv q x.2.1,k) (x,c)
   refine ⟨⟨z784 p q fu _ _ _ _ h.good (.inr ⟨hxa,.inr ⟨hc,h1,h2,ht.1,ht.2,k,hk,rfl⟩⟩),zlxe p q fu _ _ _ _ h.cl hbx,zp9x h.ecl hfu,g1,⟨r0++r,?_⟩,fun y hy => ?_⟩,fun y hy=>zedd hy,fun _ _ k' e => ?_⟩
   ·rw [hr,hr0]; simp [z729]
   ·rw [g2 y (h.sub hy),h.old y hy]
   ·simp only [Option.some.injEq] at e
    subst e
    exact (z3m9 p q fu _ _ _ _ hfu).1
  ·rename_i ht
   exact ⟨h,fun y hy=>hy,fun a b=>absurd ⟨a,b⟩ ht⟩
theorem zqng {p q:List Pt} (hp:p.length≤200) (hq:q.length≤200) {n:Nat} {C0:Came} {x:Q} (hx:x ∈ kC C0) (hw:(wd C0 x).length=n) (h1:x.1<p.length) (h2:x.2.1<q.length) (h3:x.2.2≤3) : ∀ (l:List B8) (A:Came × List Q),Fi p q n C0 A→(∀ c ∈ l,c≠0#8) →
  Fi p q n C0 (l.foldl (stp1 p q x) A)∧(∀ y,y ∈ kC A.1→y ∈ kC (l.foldl (stp1 p q x) A).1)∧(∀ c ∈ l,(p.getD x.1 .dot).takes c=true→(q.getD x.2.1 .dot).takes c=true → ∀ k,aft x.2.2 c=some k→(adv p x.1,adv q x.2.1,k) ∈ kC (l.foldl (stp1 p q x) A).1)
 | [],A,h,_=>⟨h,fun y hy=>hy,fun c hc=>by simp at hc⟩
 | c::l,A,h,hz=>by
  obtain ⟨g1,g2,g3⟩:=zwdp hp hq h hx hw h1 h2 h3 (hz c (by simp))
  obtain ⟨k1,k2,k3⟩:=zqng hp hq hx hw h1 h2 h3 l _ g1 fun c hc=>hz c (by simp [hc])
  refine ⟨k1,fun y hy=>k2 y (g2 y hy),fun d hd t1 t2 k e => ?_⟩
  rcases y0a.1 hd with rfl|hd
  ·exact k2 _ (g3 t1 t2 k e)
  ·exact k3 d hd t1 t2 k e
theorem zyb6 {p q:List Pt} (hp:p.length≤200) (hq:q.length≤200) {cs:Pt→Pt→List B8} (hz:NZ p q cs) {n:Nat} {C0:Came} {x:Q} (hx:x ∈ kC C0) (hw:(wd C0 x).length=n) (h3:x.2.2≤3) {A:Came × List Q} (h:Fi p q n C0 A) :
  Fi p q n C0 (mvs p q cs A x)∧(∀ y,y ∈ kC A.1→y ∈ kC (mvs p q cs A x).1)∧Cl p q cs x (mvs p q cs A x).1:=by
 unfold mvs
 split
 ·rename_i e
  obtain ⟨g1,g2,g3⟩:=zqng hp hq hx hw e.1 e.2 h3 _ A h (hz _ _ e.1 e.2)
  exact ⟨g1,g2,fun _ _=>g3⟩
 ·rename_i e
  exact ⟨h,fun y hy=>hy,fun a b=>absurd ⟨a,b⟩ e⟩
theorem zz2e {p q:List Pt} (hp:p.length≤200) (hq:q.length≤200) {cs:Pt→Pt→List B8} (hz:NZ p q cs) {n:Nat} {C0:Came} : ∀ (l:List Q) (A:Came × List Q),Fi p q n C0 A→(∀ x ∈ l,x ∈ kC C0∧(wd C0 x).length=n∧x.2.2≤3) →
  Fi p q n C0 (l.foldl (mvs p q cs) A)∧(∀ y,y ∈ kC A.1→y ∈ kC (l.foldl (mvs p q cs) A).1) ∧ ∀ x ∈ l,Cl p q cs x (l.foldl (mvs p q cs) A).1
 | [],A,h,_=>⟨h,fun y hy=>hy,fun x hx=>by simp at hx⟩
 | x::l,A,h,hl=>by
  obtain ⟨x1,x2,x3⟩:=hl x (by simp)
  obtain ⟨g1,g2,g3⟩:=zyb6 hp hq hz x1 x2 x3 h
  obtain ⟨k1,k2,k3⟩:=zz2e hp hq hz l _ g1 fun y hy=>hl y (by simp [hy])
  refine ⟨k1,fun y hy=>k2 y (g2 y hy),fun y hy => ?_⟩
  rcases y0a.1 hy with rfl|hy
  ·exact fun a b c hc t1 t2 k e=>k2 _ (g3 a b c hc t1 t2 k e)
  ·exact k3 y hy
structure LI (p q:List Pt) (cs:Pt→Pt→List B8) (n:Nat) (A:Came × List Q):Prop where
 good:Good p q A.1
 cl:CL p.length q.length A
 ecl:Ecl p q A.1
 len:Len n A
 clo : ∀ x ∈ kC A.1,x ∈ A.2∨Cl p q cs x A.1
 o:oQ ∈ kC A.1
theorem z49r {n m:Nat} {C:Came} (h:CI n m C) {x:Q} (hx:x ∈ kC C):z4ew n m x:=by
 obtain ⟨e,he,rfl⟩:=y0c.1 hx
 exact h.box e he
theorem z9tu {p q:List Pt} (hp:p.length≤200) (hq:q.length≤200) {cs:Pt→Pt→List B8} (hz:NZ p q cs) {n:Nat} {A:Came × List Q} (h:LI p q cs n A) :
  LI p q cs (n+1) (lay p q cs A)∧(∀ x ∈ kC A.1,Cl p q cs x (lay p q cs A).1)∧kC (lay p q cs A).1=kC A.1++(lay p q cs A).2:=by
 have h0:Fi p q n A.1 (A.1,[]):=⟨h.good,⟨h.cl.ci,by simp⟩,h.ecl,fun y hy=>by simp at hy,⟨[],by simp [kC]⟩,fun _ _=>rfl⟩
 obtain ⟨g1,g2,g3⟩:=zz2e hp hq hz A.2 _ h0 fun x hx=>⟨(h.len x hx).1,(h.len x hx).2,(z49r h.cl.ci (h.len x hx).1).2.2⟩
 obtain ⟨r,hr⟩:=g1.app
 have hcl : ∀ x ∈ kC A.1,Cl p q cs x (lay p q cs A).1:=fun x hx=>by
  rcases h.clo x hx with e|e
  ·exact g3 x e
  ·exact fun a b c hc t1 t2 k e'=>g2 _ (e a b c hc t1 t2 k e')
 have hk:kC (lay p q cs A).1=kC A.1++(lay p q cs A).2:=by
  unfold lay; rw [hr]; simp [z729]
 refine ⟨⟨g1.good,g1.cl,g1.ecl,g1.len,fun x hx => ?_,g2 _ h.o⟩,hcl,hk⟩
 have hx':x ∈ kC (lay p q cs A).1:=hx
 rw [hk] at hx'
 rcases y0b.1 hx' with e|e
 ·exact .inr (hcl x e)
 ·exact .inl e
theorem z5gf (p q:List Pt) (hp:p.length≤200) (hq:q.length≤200) (cs:Pt→Pt→List B8):LI p q cs 0 (lay0 p q)∧kC (lay0 p q).1=(lay0 p q).2:=by
 have hfu:p.length-oQ.1+(q.length-oQ.2.1)<fu:=by unfold fu oQ; simp only; omega
 have h0:CL p.length q.length ([],[]):=⟨⟨fun e he=>by simp at he,by simp⟩,by simp⟩
 obtain ⟨r,hr⟩:=zn0o p q fu [] [] oQ (oQ,0#8)
 have hk:kC (lay0 p q).1=(lay0 p q).2:=by unfold lay0; rw [hr]; simp
 refine ⟨⟨z784 p q fu _ _ _ _ trivial (.inl ⟨rfl,rfl⟩),zlxe p q fu _ _ _ _ h0 ⟨by simp [oQ],by simp [oQ],by simp [oQ]⟩,zp9x (fun y hy=>by simp [kC] at hy) hfu,(zhe2 p q 0 fu [] [] oQ (oQ,0#8) (fun y hy=>by simp at hy) (.inl ⟨rfl,rfl⟩)).1,fun x hx => .inl ?_,(z3m9 p q fu _ _ _ _ hfu).1⟩,hk⟩
 have hx':x ∈ kC (lay0 p q).1:=hx
 rw [hk] at hx'; exact hx'
theorem z35k (p q:List Pt) (hp:p.length≤200) (hq:q.length≤200) {cs:Pt→Pt→List B8} (hz:NZ p q cs) : ∀ (n:Nat),LI p q cs n (layN p q cs n)
 | 0=>(z5gf p q hp hq cs).1
 | n+1=>(z9tu hp hq hz (z35k p q hp hq hz n)).1
theorem zfqe (p q:List Pt) (hp:p.length≤200) (hq:q.length≤200) {cs:Pt→Pt→List B8} (hz:NZ p q cs) : ∀ (n:Nat) (x:Q),x ∈ kC (layN p q cs n).1 ↔ ∃ m,m≤n∧x ∈ (layN p q cs m).2
 | 0,x=>by
  have:=(z5gf p q hp hq cs).2
  show x ∈ kC (lay0 p q).1↔_
  rw [this]
  constructor
  ·exact fun h=>⟨0,y02 _,h⟩
  ·rintro ⟨m,hm,h⟩
   obtain rfl:m=0:=by omega
   exact h
 | n+1,x=>by
  have:=(z9tu hp hq hz (z35k p q hp hq hz n)).2.2
  show x ∈ kC (lay p q cs (layN p q cs n)).1↔_
  rw [this,y0b,zfqe p q hp hq hz n x]
  constructor
  ·rintro (⟨m,hm,h⟩|h)
   ·exact ⟨m,by omega,h⟩
   ·exact ⟨n+1,y02 _,h⟩
  ·rintro ⟨m,hm,h⟩
   by_cases e:m=n+1
   ·subst e; exact .inr h
   ·exact .inl ⟨m,by omega,h⟩
def Dom (p q:List Pt) (cs:Pt→Pt→List B8):Prop := ∀ i j,i<p.length→j<q.length → ∀ c,(p.getD i .dot).takes c=true→(q.getD j .dot).takes c=true → ∀ k k' n,(k'=k∨k'=3)→aft k c=some n →
 ∃ d ∈ cs (p.getD i .dot) (q.getD j .dot),(p.getD i .dot).takes d=true∧(q.getD j .dot).takes d=true ∧ ∃ n',aft k' d=some n'∧(n'=n∨n'=3)
theorem zuqu {p q:List Pt} {C:Came} (h:Ecl p q C) {a b k:Nat} (hx:(a,b,k) ∈ kC C) : ∀ (d:Nat),er p a (a+d)→(a+d,b,k) ∈ kC C
 | 0,_=>hx
 | d+1,he=>(h _ (zuqu h hx d ⟨by omega,fun t h1 h2=>he.2 t h1 (by omega)⟩)).a (he.2 (a+d) (by omega) (by omega))
theorem zdq6 {p q:List Pt} {C:Came} (h:Ecl p q C) {a b k:Nat} (hx:(a,b,k) ∈ kC C) : ∀ (d:Nat),er q b (b+d)→(a,b+d,k) ∈ kC C
 | 0,_=>hx
 | d+1,he=>(h _ (zdq6 h hx d ⟨by omega,fun t h1 h2=>he.2 t h1 (by omega)⟩)).b (he.2 (b+d) (by omega) (by omega))
theorem z049 {p q:List Pt} {C:Came} (h:Ecl p q C) {a b k i j:Nat} (hx:(a,b,k) ∈ kC C) (h1:er p a i) (h2:er q b j):(i,j,k) ∈ kC C:=by
 obtain ⟨d,rfl⟩ : ∃ d,i=a+d:=⟨i-a,by have:=h1.1; omega⟩
 obtain ⟨e,rfl⟩ : ∃ e,j=b+e:=⟨j-b,by have:=h2.1; omega⟩
 exact zdq6 h (zuqu h hx d h1) e h2
theorem zwru (p q:List Pt) (hp:p.length≤200) (hq:q.length≤200) {cs:Pt→Pt→List B8} (hz:NZ p q cs) (hd:Dom p q cs) : ∀ (n:Nat) (w:List UInt8),w.length=n → ∀ i j k,i≤p.length→j≤q.length→R p w i w.length=true→R q w j w.length=true→nmF 0 w=some k →
  ∃ k',(k'=k∨k'=3)∧(i,j,k') ∈ kC (layN p q cs n).1
 | 0,w,hw,i,j,k,hi,hj,h1,h2,h3=>by
  obtain rfl:=y0j hw
  simp [nmF] at h3
  subst h3
  have hI:=z35k p q hp hq hz 0
  exact ⟨0,.inl rfl,z049 hI.ecl hI.o (ziei h1) (ziei h2)⟩
 | n+1,w,hw,i,j,k,hi,hj,h1,h2,h3=>by
  obtain ⟨v,c,rfl⟩ : ∃ v c,w=v++[c]:=by
   have hne:w≠[]:=by rintro rfl; simp at hw
   exact ⟨w.dropLast,w.getLast hne,(y0l hne).symm⟩
  have hl:(v++[c]).length=v.length+1:=by simp
  rw [hl] at h1 h2 hw
  rw [zs8j] at h3
  simp only [Option.bind_eq_some_iff] at h3
  obtain ⟨k1,h4,h5⟩:=h3
  obtain ⟨i1,a1,a2,a3,a4⟩:=z7dp hi h1
  obtain ⟨j1,b1,b2,b3,b4⟩:=z7dp hj h2
  obtain ⟨k1',e1,e2⟩:=zwru p q hp hq hz hd n v (by omega) i1 j1 k1 (by omega) (by omega) a2 b2 h4
  obtain ⟨d,d1,d2,d3,n',d4,d5⟩:=hd i1 j1 a1 b1 _ a3 b3 k1 k1' k e1 h5
  have hs:=z9tu hp hq hz (z35k p q hp hq hz n)
  have:=hs.2.1 _ e2 a1 b1 d d1 d2 d3 n' d4
  exact ⟨n',d5,z049 hs.1.ecl this a4 b4⟩
def Com (p q:List Pt):Prop := ∃ w:List UInt8,w.length≤200∧M p w p.length w.length=true∧M q w q.length w.length=true∧nmF 0 w=some 3
theorem Com.symm {p q:List Pt} (h:Com p q):Com q p:=let ⟨w,a,b,c,d⟩:=h; ⟨w,a,c,b,d⟩
def gQ (p q:List Pt):Q:=(p.length,q.length,3)
structure Fnd (p q:List Pt) (w:List UInt8):Prop where
 a:M p w p.length w.length=true
 b:M q w q.length w.length=true
 c:zj1f w=true
theorem z5xa {p q:List Pt} (hp:p.length≤200) (hq:q.length≤200) {cs:Pt→Pt→List B8} (hz:NZ p q cs) {n:Nat} (hn:n≤200) (h:gQ p q ∈ (layN p q cs n).2):Fnd p q (wd (layN p q cs n).1 (gQ p q)):=by
 have hI:=z35k p q hp hq hz n
 obtain ⟨h1,h2⟩:=hI.len _ h
 obtain ⟨a,b,c,d⟩:=hI.good.rw h1
 refine ⟨by rw [← z0fy]; exact a,by rw [← z0fy]; exact b,z7x9.2 ⟨c,d,by omega⟩⟩
theorem z1mn {p q:List Pt} (hp:p.length≤200) (hq:q.length≤200) {cs:Pt→Pt→List B8} (hz:NZ p q cs) (hd:Dom p q cs):(∃ n,n≤200∧gQ p q ∈ (layN p q cs n).2)↔Com p q:=by
 constructor
 ·rintro ⟨n,hn,h⟩
  have:=z5xa hp hq hz hn h
  have h3:=z7x9.1 this.c
  exact ⟨_,h3.2.2,this.a,this.b,h3.1⟩
 ·rintro ⟨w,h1,h2,h3,h4⟩
  obtain ⟨k',e1,e2⟩:=zwru p q hp hq hz hd w.length w rfl p.length q.length 3 (y02 _) (y02 _) (by rw [z0fy]; exact h2) (by rw [z0fy]; exact h3) h4
  obtain rfl:k'=3:=by rcases e1 with e|e<;>exact e
  obtain ⟨m,hm,h⟩:=(zfqe p q hp hq hz _ _).1 e2
  exact ⟨m,by omega,h⟩
end Go.Proofs.YtaihpefemjlilaaDoor
set_option linter.unusedSimpArgs false
set_option linter.unusedVariables false
namespace Go.Proofs.YtaihpefemjlilaaDoor
open Go Go.Am
def Lz (p:List Pt):Prop := ∀ c,Pt.one c ∈ p→c≠0#8
theorem zam0 {p:List Pt} {i:Nat} (h:i<p.length):p.getD i .dot ∈ p:=by
 rw [y00,y01 h]; exact y07 h
theorem z3f2 {p q:List Pt} (hp:Lz p) (hq:Lz q):NZ p q chP:=by
 intro i j hi hj c hc
 have h1:=zam0 hi
 have h2:=zam0 hj
 generalize p.getD i .dot=a at h1 hc
 generalize q.getD j .dot=b at h2 hc
 have two:c ∈ [97#8,47#8]→c≠0#8:=by
  intro h
  simp at h
  rcases h with rfl|rfl<;>decide
 cases a with
 | one d=>simp [chP] at hc; subst hc; exact hp _ h1
 | dot=>cases b with
  | one d=>simp [chP] at hc; subst hc; exact hq _ h2
  | dot=>exact two hc
  | some=>exact two hc
  | whole=>exact two hc
 | some=>cases b with
  | one d=>simp [chP] at hc; subst hc; exact hq _ h2
  | dot=>exact two hc
  | some=>exact two hc
  | whole=>exact two hc
 | whole=>cases b with
  | one d=>simp [chP] at hc; subst hc; exact hq _ h2
  | dot=>exact two hc
  | some=>exact two hc
  | whole=>exact two hc
theorem zbch {k k' n:Nat} {c:B8} (h:k'=k∨k'=3) (e:aft k c=some n) : ∃ n',aft k' c=some n'∧(n'=n∨n'=3):=by
 rcases h with rfl|rfl
 ·exact ⟨n,e,.inl rfl⟩
 ·unfold aft at e ⊢
  split at e
  ·rename_i hc
   split at e
   ·simp at e; subst e
    exact ⟨0,by simp [hc],.inl rfl⟩
   ·simp at e
  ·rename_i hc
   exact ⟨3,by simp [hc],.inr rfl⟩
theorem zczo {a b:Pt} (ha : ∀ c,a ≠ .one c) (hb : ∀ c,b ≠ .one c) {l:List B8} {o:B8} (h1:47#8 ∈ l) (h2:o ∈ l) (ho:o≠47#8) (ho':o≠46#8) {c:B8} (t1:a.takes c=true) (t2:b.takes c=true) {k k' n:Nat} (hk:k'=k∨k'=3) (e:aft k c=some n) :
  ∃ d ∈ l,a.takes d=true∧b.takes d=true ∧ ∃ n',aft k' d=some n'∧(n'=n∨n'=3):=by
 by_cases hc:c=47#8
 ·subst hc
  exact ⟨_,h1,t1,t2,zbch hk e⟩
 ·have tk : ∀ x:Pt,(∀ c,x ≠ .one c)→x.takes o=true:=by
   intro x hx
   cases x with
   | one d=>exact absurd rfl (hx d)
   | dot=>simp [Pt.takes,ho]
   | some=>simp [Pt.takes,ho]
   | whole=>rfl
  exact ⟨o,h2,tk a ha,tk b hb,3,by unfold aft; simp [ho,ho'],.inr rfl⟩
theorem zxl6 (p q:List Pt):Dom p q chP:=by
 intro i j hi hj c t1 t2 k k' n hk e
 generalize p.getD i .dot=a at t1 ⊢
 generalize q.getD j .dot=b at t2 ⊢
 have one1 : ∀ d,a = .one d∨b = .one d→chP a b=[d] → ∃ d ∈ chP a b,a.takes d=true∧b.takes d=true ∧ ∃ n',aft k' d=some n'∧(n'=n∨n'=3):=by
  intro d hd hch
  have:c=d:=by
   rcases hd with rfl|rfl
   ·simpa [Pt.takes] using t1
   ·simpa [Pt.takes] using t2
  subst this
  rw [hch]
  exact ⟨c,by simp,t1,t2,zbch hk e⟩
 cases a with
 | one d=>exact one1 d (.inl rfl) rfl
 | dot=>cases b with
  | one d=>exact one1 d (.inr rfl) rfl
  | _=>exact zczo (o:=97#8) (by intro c; simp) (by intro c; simp) (by simp [chP]) (by simp [chP]) (by decide) (by decide) t1 t2 hk e
 | some=>cases b with
  | one d=>exact one1 d (.inr rfl) rfl
  | _=>exact zczo (o:=97#8) (by intro c; simp) (by intro c; simp) (by simp [chP]) (by simp [chP]) (by decide) (by decide) t1 t2 hk e
 | whole=>cases b with
  | one d=>exact one1 d (.inr rfl) rfl
  | _=>exact zczo (o:=97#8) (by intro c; simp) (by intro c; simp) (by simp [chP]) (by simp [chP]) (by decide) (by decide) t1 t2 hk e
theorem z4rg : ∀ (n:Nat) (s:List UInt8) (l:List Pt),s.length≤n→prs s = .some l → ∀ c,Pt.one c ∈ l → ∃ u ∈ s,u.toBitVec=c
 | n,[],l,_,h,c,hc=>by simp [prs] at h; subst h; simp at hc
 | 0,c::r,l,hn,_,_,_=>by simp at hn
 | n+1,u::r,l,hn,h,c,hc=>by
  have ih:=z4rg n
  have go : ∀ (r':List UInt8) (y:Pt),r'.length≤n→(∀ v ∈ r',v ∈ u::r)→(prs r').map (fun l=>y::l) = .some l→(∀ c,y = .one c → ∃ v ∈ u::r,v.toBitVec=c) → ∃ v ∈ u::r,v.toBitVec=c:=by
   intro r' y hr hs hm hy
   obtain ⟨l',h1,rfl⟩:=y0v.1 hm
   rcases y0a.1 hc with e|e
   ·exact hy c e.symm
   ·obtain ⟨v,hv,e'⟩:=ih r' l' hr h1 c e
    exact ⟨v,hs v hv,e'⟩
  simp only [y0d] at hn
  by_cases h1:u=92
  ·subst h1
   match r,h with
   | [],h=>simp [zt8b] at h
   | d::r,h =>
    rw [z32i] at h
    simp only [y0d] at hn
    exact go r _ (by omega) (fun v hv=>by simp [hv]) h (fun c e=>by cases e; exact ⟨d,by simp,rfl⟩)
  ·by_cases h2:u=42
   ·subst h2
    match r,h with
    | [],h =>
     rw [zkwm] at h; cases h
     simp at hc
    | d::r,h =>
     simp only [y0d] at hn
     by_cases h3:d=42
     ·subst h3; rw [zqqt] at h
      exact go r _ (by omega) (fun v hv=>by simp [hv]) h (fun c e=>by cases e)
     ·rw [zpjv h3] at h
      exact go (d::r) _ (by simp only [y0d]; omega) (fun v hv=>y05 _ hv) h (fun c e=>by cases e)
   ·by_cases h3:u=63
    ·subst h3; rw [z28c] at h
     exact go r _ (by omega) (fun v hv=>y05 _ hv) h (fun c e=>by cases e)
    ·rw [zmw4 h1 h2 h3] at h
     exact go r _ (by omega) (fun v hv=>y05 _ hv) h (fun c e=>by cases e; exact ⟨u,by simp,rfl⟩)
theorem zxh0 {s:List UInt8} {l:List Pt} (h:zfn1 s = .some l) {c:B8} (hc:Pt.one c ∈ l) : ∃ u ∈ s,u.toBitVec=c:=by
 unfold zfn1 at h
 split at h
 ·exact z4rg s.length s l (y02 _) h c hc
 ·simp at h
theorem z590 {s:List UInt8} {l:List Pt} (h:zfn1 s = .some l):Lz l:=by
 intro c hc e
 obtain ⟨u,hu,e'⟩:=zxh0 h hc
 unfold zfn1 at h
 split at h
 ·rename_i g
  have:=g.2.2
  unfold noZ at this
  rw [y0h] at this
  have:=this u hu
  simp at this
  exact this (UInt8.toBitVec_inj.1 (e'.trans e))
 ·simp at h
end Go.Proofs.YtaihpefemjlilaaDoor
set_option linter.unusedSimpArgs false
set_option linter.unusedVariables false
namespace Go.Proofs.YtaihpefemjlilaaDoor
open Go Go.Am
def lb (t:List UInt8):List B8:=t.map UInt8.toBitVec
theorem z719 (t:List UInt8):(lb t).length=t.length:=by simp [lb]
theorem zf6e : ∀ (l:List UInt8),z9pr ((lb l).map w8)=some l
 | []=>rfl
 | x::l=>by
  have:=zf6e l
  simp only [lb,y0e,w8,z9pr] at *
  rw [this]
  simp
theorem zpps {s:List UInt8} (h:zj1f s=true):1≤s.length∧s.length≤200∧noZ s=true∧(z2fg s).all okC=true:=by
 simp only [zj1f,y04,decide_eq_true_eq] at h
 exact ⟨h.1.1.1,h.1.1.2,h.1.2,h.2⟩
end Go.Proofs.YtaihpefemjlilaaDoor
set_option linter.unusedSimpArgs false
set_option linter.unusedVariables false
namespace Go.Proofs.YtaihpefemjlilaaDoor
open Go Go.Am
def posR:Came→Q→Nat
 | [],_=>0
 | (y,_)::r,x=>if y=x then r.length+1 else posR r x
theorem zlh7 : ∀ (r:Came) (x:Q),posR r x≤r.length
 | [],_=>y02 _
 | (y,_)::r,x=>by
  have:=zlh7 r x
  rw [posR]; split<;>simp<;>omega
theorem z7sz {p q:List Pt} : ∀ (r:Came),zv0a p q r→r≠[]→oQ ∈ kC r
 | [],_,h=>absurd rfl h
 | (y,s)::r,h,_=>by
  obtain ⟨h1,h2,h3⟩:=h
  rcases h3 with ⟨rfl,rfl⟩|⟨g1,_⟩
  ·simp [kC]
  ·have:r≠[]:=fun e=>by rw [e] at g1; simp [kC] at g1
   exact y05 _ (z7sz r h1 this)
theorem z8nb {p q:List Pt} : ∀ (r:Came),zv0a p q r→wdR r oQ=[]
 | [],_=>rfl
 | (y,s)::r,h=>by
  obtain ⟨h1,h2,h3⟩:=h
  rw [wdR]
  by_cases e:y=oQ
  ·rw [if_pos e]
   by_cases er:r=[]
   ·rw [if_pos er]
   ·exact absurd (e▸z7sz r h1 er) h2
  ·rw [if_neg e]; exact z8nb r h1
theorem zpe3 {p q:List Pt} : ∀ (r:Came),zv0a p q r → ∀ x ∈ kC r,x≠oQ → ∃ s:Stp,(x,s) ∈ r∧s.1 ∈ kC r∧wdR r x=wdR r s.1++cB s.2∧posR r s.1<posR r x
 | [],_,x,hx,_=>by simp [kC] at hx
 | (y,s)::r,h,x,hx,hne=>by
  obtain ⟨h1,h2,h3⟩:=h
  by_cases e:y=x
  ·subst e
   rcases h3 with ⟨_,rfl⟩|⟨g1,_⟩
   ·exact absurd rfl hne
   ·have hr:r≠[]:=fun e=>by rw [e] at g1; simp [kC] at g1
    have hn:y≠s.1:=fun e=>h2 (e▸g1)
    refine ⟨s,by simp,y05 _ g1,?_,?_⟩
    ·rw [wdR,if_pos rfl,if_neg hr,wdR,if_neg hn]
    ·rw [posR,posR,if_pos rfl,if_neg hn]
     have:=zlh7 r s.1; omega
  ·have hx':x ∈ kC r:=by
    simp only [kC,y0e,y0a] at hx
    rcases hx with hx|hx
    ·exact absurd hx.symm e
    ·exact hx
   obtain ⟨t,t1,t2,t3,t4⟩:=zpe3 r h1 x hx' hne
   have hn:y≠t.1:=fun e=>h2 (e▸t2)
   refine ⟨t,y05 _ t1,y05 _ t2,?_,?_⟩
   ·rw [wdR,wdR,if_neg e,if_neg hn]; exact t3
   ·rw [posR,posR,if_neg e,if_neg hn]; exact t4
def bV (G:Nat) (t:List UInt8):DV:=if t=[] then .nils else .ms G t.length 0 1 t.length t.length
theorem zksy {G:Nat}:bV G [] = .nils:=rfl
theorem z55z {G:Nat} {t:List UInt8} (h:t≠[]):bV G t = .ms G t.length 0 1 t.length t.length:=if_neg h
theorem zrjm {G:Nat} {t:List UInt8}:(bV G t).one=true:=by unfold bV; split<;>rfl
theorem zule {G:Nat} {t:List UInt8}:(bV G t).cells=[bV G t]:=by unfold bV; split<;>rfl
theorem z1nw {G:Nat} {t:List UInt8}:(bV G t).known=true:=by unfold bV; split<;>rfl
attribute [simp] zrjm zule z1nw
def bC (t:List UInt8):List DV:=(lb t).map w8
theorem z4gq (t:List UInt8):(bC t).length=t.length:=by simp [bC,z719]
def bA (h:List AObj) (G:Nat) (t:List UInt8) (c:UInt8):List AObj:=if t=[] then h++[.cells (bC [c])] else h.set G (.cells (bC (t++[c])))
def bG (h:List AObj) (G:Nat) (t:List UInt8):Nat:=if t=[] then h.length else G
theorem zhxw {h:List AObj} {G:Nat} {t:List UInt8} {c:UInt8} (ho:t≠[]→ziu0 h G=some (bC t)) (hn:t.length≤1000000) :
  appX h 1 1 (bV G t) 1 [w8 c.toBitVec]=some (bV (bG h G t) (t++[c]),bA h G t c):=by
 by_cases e:t=[]
 ·subst e
  rw [zksy,zsuq (by omega) (by omega) (by simp) (by omega) (by omega),z55z (by simp)]
  simp [bG,bA,bC,lb]
 ·have hv:objV h G t.length=some (bC t):=zw28 (ho e) (z4gq t)
  have h1:=zbho (h:=h) (id:=G) (ver:=t.length) (s:=1) (n:=t.length) (b:=1) (m:=1) (cs:=[w8 c.toBitVec]) (by omega) (by omega) (by omega) (by simp) (by omega) (by simp)
  rw [z55z e,h1,hv,z55z (by simp)]
  simp [bG,bA,e,bC,lb]
structure BO (h:List AObj) (G:Nat) (t:List UInt8):Prop where
 o:t≠[]→ziu0 h G=some (bC t)
theorem zla4 {h:List AObj} {G:Nat} {t:List UInt8} {c:UInt8} (ho:t≠[]→ziu0 h G=some (bC t)):ziu0 (bA h G t c) (bG h G t)=some (bC (t++[c])):=by
 unfold bA bG
 by_cases e:t=[]
 ·subst e
  simp only [if_true]
  have:=zzga (h:=h) (r:=[.cells (bC [c])]) (id:=0)
  rw [y0i] at this
  exact this
 ·simp only [if_neg e]; exact zhvw (ho e)
theorem z4mf {h:List AObj} {G:Nat} {t:List UInt8} {c:UInt8} {id:Nat} {l:List DV} (e:ziu0 h id=some l) (hn:t≠[]→id≠G):ziu0 (bA h G t c) id=some l∧bG h G t≠id:=by
 unfold bA bG
 by_cases et:t=[]
 ·subst et
  simp only [if_true]
  exact ⟨z7ko e,by have:=z4sf e; omega⟩
 ·simp only [if_neg et]
  exact ⟨by rw [ztfj (Ne.symm (hn et))]; exact e,Ne.symm (hn et)⟩
theorem zxrr {h:List AObj} {G:Nat} {t:List UInt8} {c:UInt8} {B:Nat} {m:MapD} (e:zfel h B=some m) (ho:t≠[]→ziu0 h G=some (bC t)):zfel (bA h G t c) B=some m:=by
 unfold bA
 by_cases et:t=[]
 ·subst et; simp only [if_true]; exact zjf6 _ e
 ·simp only [if_neg et]; exact zv2a e (ho et)
structure XP where
 x:Q
 t:List UInt8
 G:Nat
 F:Nat
 h:List AObj
structure RP (C:Came) (x0:Q) (S B X:Nat) (pv qv:DV) (a:XP):Prop where
 x:a.x ∈ kC C
 w:wd C x0=wd C a.x++a.t.reverse
 s:ziu0 a.h S=some [pv,qv,.mapv B]
 m:zfel a.h B=some (cM C)
 o:ziu0 a.h X=some (qC a.x)
 f:ziu0 a.h a.F=some (qC oQ)
 t:a.t≠[]→ziu0 a.h a.G=some (bC a.t)
 sx:S≠X
 fx:a.F≠X
 gx:a.t≠[]→X≠a.G
 gs:a.t≠[]→S≠a.G
 gf:a.t≠[]→a.F≠a.G
def sP (S X:Nat) (a:XP):St:=z225 (.mp S 3 0) (.mp X 3 0) (bV a.G a.t) (.mp a.F 3 0) a.h
def rv (L:List B8) (i:Nat):List B8:=(List.range L.length).map fun u=>if u<i∨L.length-1-i<u then L.getD (L.length-1-u) 0#8 else L.getD u 0#8
theorem zk6f (L:List B8) (i:Nat):(rv L i).length=L.length:=by simp [rv]
theorem zxh3 {L:List B8} {i u:Nat} (h:u<(rv L i).length):(rv L i)[u]=if u<i∨L.length-1-i<u then L.getD (L.length-1-u) 0#8 else L.getD u 0#8:=by simp [rv]
theorem zp1z (L:List B8):rv L 0=L:=by
 refine y08 (zk6f L 0) fun u h1 h2 => ?_
 rw [zxh3,if_neg (by omega),y00,y01 h2]; rfl
theorem z5n5 {L:List B8} {i:Nat} (h:2*i≤L.length) (h':¬ i+1<L.length-i):rv L i=L.reverse:=by
 refine y08 (by simp [zk6f]) fun u h1 h2 => ?_
 have hu:u<L.length:=by rw [zk6f] at h1; exact h1
 rw [zxh3,List.getElem_reverse]
 split
 ·rw [y00,y01 (by omega)]; rfl
 ·have:L.length-1-u=u:=by omega
  simp only [this]
  rw [y00,y01 hu]; rfl
theorem zol5 {L:List B8} {i u:Nat} (h:u<(rv L i).length) (h1:i≤u) (h2:u≤L.length-1-i):(rv L i)[u]=L.getD u 0#8:=by rw [zxh3,if_neg (by omega)]
theorem zpoc {L:List B8} {i j:Nat} {a b:B8} (hj:j=L.length-1-i) (h:i<j) (ha:a=L.getD j 0#8) (hb:b=L.getD i 0#8):((rv L i).set i a).set j b=rv L (i+1):=by
 subst ha hb
 have hl:=zk6f L i
 refine y08 (by simp [zk6f]) fun u h1 h2 => ?_
 have hu:u<L.length:=by rw [zk6f] at h2; exact h2
 rw [zxh3,y0r]
 by_cases e1:j=u
 ·subst e1
  rw [if_pos rfl,if_pos (by omega)]
  congr 1<;>omega
 ·rw [if_neg e1,y0r]
  by_cases e2:i=u
  ·subst e2
   rw [if_pos rfl,if_pos (by omega)]
   congr 1<;>omega
  ·rw [if_neg e2,zxh3]
   by_cases e3:u<i∨L.length-1-i<u
   ·rw [if_pos e3,if_pos (by omega)]
   ·rw [if_neg e3,if_neg (by omega)]
def sR (G n i:Nat) (h:List AObj):St:=zlpo (.ms G n 0 1 n n) (.int .i64 i) (.int .i64 ((n:Int)-1-i)) h
structure PF (S X F Y B:Nat) (pv qv:DV) (C:Came) (y:Q) (st:Stp) (t:List UInt8) (G:Nat) (h:List AObj):Prop where
 s:ziu0 h S=some [pv,qv,.mapv B]
 m:zfel h B=some (cM C)
 o:ziu0 h X=some (qC y)
 f:ziu0 h F=some (qC oQ)
 y:ziu0 h Y=some (stC st)
 ft:t≠[]→ziu0 h G=some (bC t)
 n:t≠[]→S≠G∧X≠G∧F≠G∧Y≠G
structure MidP (S X F Y B:Nat) (pv qv:DV) (C:Came) (y:Q) (st:Stp) (t:List UInt8) (e:AExit) (s:St):Prop where
 ex:e = .normal ∧ ∃ G h,PF S X F Y B pv qv C y st t G h ∧ ∀ n0,Weak n0 s ⟨[.mp S 3 0,.junk,.junk,.mp X 3 0,.junk,bV G t,.mp F 3 0,.mp Y 4 0]++js 49,h⟩
theorem zsvl {a b c d:DV}:oneC 3 true [a,b,c,d]=some (.agg [a,b,c]):=rfl
theorem zhku (p q:List Pt) (S B:Nat) (C:Came) (x:Q) (h:List AObj) (pv qv:DV)
  (hg:Good p q C) (hn:(kC C).Nodup) (hx:x ∈ kC C) (hw:(wd C x).length≤200) (hw0:wd C x≠[]) (hs:ziu0 h S=some [pv,qv,.mapv B]) (hm:zfel h B=some (cM C)) :
  zwy1 P 34 [.mp S 3 0,.agg (qC x)] h (fun d _=>d = .str (wd C x)):=by
 have hSl:=z4sf hs
 refine zcpc Tryd.func34 zk28 ?_
 simp only [a34]
 refine zbn1 (V_W mix zume ?_)
 simp (disch:=first|omega|simp<;>omega|fail) [-zA,-zB,-zC,-zD,-zE,qC]
 refine zbn1 (V_W mix zume ?_)
 simp (disch:=first|omega|simp<;>omega|fail) [-zA,-zB,-zC,-zD,-zE]
 refine zbn1 (zbn1 (V_W mix zume ?_))
 simp (disch:=first|omega|simp<;>omega|fail) [-zA,-zB,-zC,-zD,-zE,zf0q,zjj2,zm3y,zxft,z8we]
 refine z3mo (ztbr (sP S h.length) (fun a=>posR C.reverse a.x) (RP C x S B h.length pv qv) ⟨x,[],0,h.length+1,h++[.cells (qC x),.cells (qC oQ)]⟩ (z515 (by simp (disch:=first|omega|simp<;>omega|fail) [-zA,-zB,-zC,-zD,-zE,sP,z225,zksy]) (by simp (disch:=first|omega|simp<;>omega|fail) [-zA,-zB,-zC,-zD,-zE,sP,z225,qC,oQ]))
  ⟨hx,by simp,z7ko hs,zjf6 _ hm,zzga (id:=0),zzga (id:=1),fun e=>absurd rfl e,by omega,by simp only; omega,fun e=>absurd rfl e,fun e=>absurd rfl e,fun e=>absurd rfl e⟩ (fun y hy => ?_))
 obtain ⟨y,t,G,F,k⟩:=y
 obtain ⟨r1,r2,r3,r4,r5,r6,r7,r8,r9,r10,r11,r12⟩:=hy
 simp only at r1 r2 r3 r4 r5 r6 r7 r8 r9 r10 r11 r12
 have vX:objV k h.length 3=some (qC y):=zw28 r5 rfl
 have vF:objV k F 3=some (qC oQ):=zw28 r6 rfl
 have vS:objV k S 3=some [pv,qv,.mapv B]:=zw28 r3 rfl
 simp only [qC,oQ] at vX vF
 simp only [sP,z225,zx6w]
 have ceq:z32s (zi5g [(3,0)]) [.int .i64 y.1,.int .i64 y.2.1,.int .i64 y.2.2] [.int .i64 0,.int .i64 0,.int .i64 0]=some (decide ([(0:Int),0,0]=[(y.1:Int),(y.2.1:Int),(y.2.2:Int)])):=zztg y.1 y.2.1 y.2.2 0 0 0
 by_cases he:y=oQ
 ·subst he
  have hd:decide ([(0:Int),0,0]=[((oQ.1:Nat):Int),((oQ.2.1:Nat):Int),((oQ.2.2:Nat):Int)])=true:=by decide
  rw [hd] at ceq
  have ew:wd C x=t.reverse:=by rw [r2,show wd C oQ=[] from z8nb C.reverse hg]; simp
  have tne:t≠[]:=fun e=>hw0 (by rw [ew,e]; rfl)
  have tl:t.length≤200:=by rw [ew] at hw; simpa using hw
  have t1:1≤t.length:=y0f.2 tne
  have rG:=r7 tne
  rw [ew]
  clear r1 r2 r3 r4 r5 r6 r7 vS r8 r9 r10 r11 r12 ew hw hw0
  refine zbn1 (V_W mix zume ?_)
  simp (disch:=first|omega|simp<;>omega|fail) [-zA,-zB,-zC,-zD,-zE,vX,vF,zjwp,ceq]
  have vG:objV k G t.length=some (bC t):=zw28 rG (z4gq t)
  have hbv:bV G t = .ms G t.length 0 1 t.length t.length:=z55z tne
  refine zbn1 (zbn1 (V_W mix zume ?_))
  simp (disch:=first|omega|simp<;>omega|fail) [-zA,-zB,-zC,-zD,-zE,hbv,vG,z4gq]
  refine z3mo (ztbr (fun a:Nat × List AObj=>sR G t.length a.1 a.2) (fun a=>t.length-a.1) (fun a=>2*a.1≤t.length∧ziu0 a.2 G=some ((rv (lb t) a.1).map w8)) (0,k) (z515 (by simp (disch:=first|omega|simp<;>omega|fail) [-zA,-zB,-zC,-zD,-zE,sR,zlpo]) (by simp (disch:=first|omega|simp<;>omega|fail) [-zA,-zB,-zC,-zD,-zE,sR,zlpo]) ) ⟨by simp,by rw [zp1z]; exact rG⟩ (fun y hy => ?_))
  obtain ⟨i,m⟩:=y
  obtain ⟨q1,q2⟩:=hy
  simp only at q1 q2
  have hlt:=z719 t
  have hrl:=zk6f (lb t) i
  have vR:objV m G t.length=some ((rv (lb t) i).map w8):=zw28 q2 (by rw [List.length_map,hrl,hlt])
  simp only [sR,zlpo,zqi6]
  by_cases hi:i+1<t.length-i
  ·have hi':(i:Int)<t.length-1-i:=by omega
   obtain ⟨j,hj⟩ : ∃ j:Nat,j=t.length-1-i:=⟨_,rfl⟩
   have hjI:((t.length:Int)-1-i)=j:=by omega
   have hij:(i:Int)<j:=by omega
   have hij':i<j:=by omega
   have hjn:(j:Int)<t.length:=by omega
   have hin:(i:Int)<t.length:=by omega
   have j0:j<(rv (lb t) i).length:=by omega
   have i0:i<(rv (lb t) i).length:=by omega
   have hstep:=zpoc (L:=lb t) (i:=i) (j:=j) (by omega) hij' (zol5 j0 (by omega) (by omega)) (zol5 i0 (by omega) (by omega))
   have vR2 : ∀ x,objV (m.set G (.cells (((rv (lb t) i).set i x).map w8))) G t.length=some (((rv (lb t) i).set i x).map w8):=fun x=>zw28 (zhvw q2) (by rw [List.length_map,List.length_set,hrl,hlt])
   have hset : ∀ x y,(m.set G x).set G y=m.set G y:=fun x y=>by simp
   refine V_W mix zume ?_
   simp (disch:=first|omega|simp<;>omega|fail) [-zA,-zB,-zC,-zD,-zE,hjI,hij,hij',hjn,hin,vR,vR2,hset,hstep]
   have hj2:(t.length:Int)-1-((i:Int)+1)=j-1:=by omega
   exact ⟨i+1,m.set G (.cells ((rv (lb t) (i+1)).map w8)),z515 (by simp (disch:=first|omega|simp<;>omega|fail) [-zA,-zB,-zC,-zD,-zE,hj2]) (by simp (disch:=first|omega|simp<;>omega|fail) [-zA,-zB,-zC,-zD,-zE]),by omega,by omega,zhvw q2⟩
  ·have hi':¬ (i:Int)<t.length-1-i:=by omega
   have hlast:=z5n5 (L:=lb t) (i:=i) (by omega) (by omega)
   rw [hlast] at vR
   have hb:z9pr (List.take t.length ((lb t).map w8).reverse)=some t.reverse:=by
    have:((lb t).map w8).reverse=(lb t.reverse).map w8:=by simp [lb]
    rw [this,y03 (by simp [z719])]; exact zf6e _
   refine zbn1 (V_W mix zume ?_)
   simp (disch:=first|omega|simp<;>omega|fail) [-zA,-zB,-zC,-zD,-zE,hi']
   refine zftn (ze3y (v := .str t.reverse) (k:=m) rfl) (V_W mix zume ?_)
   simp (disch:=first|omega|simp<;>omega|fail) [-zA,-zB,-zC,-zD,-zE,vR,hb]
 ·have hne:¬ ([(0:Int),0,0]=[(y.1:Int),(y.2.1:Int),(y.2.2:Int)]):=fun e=>he (by
   have:qK oQ=qK y:=e
   exact (z6dq.1 this).symm)
  rw [decide_eq_false hne] at ceq
  obtain ⟨st,t1,t2,t3,t4⟩:=zpe3 C.reverse hg y ((zp1x C y).2 r1) he
  have hgc:=znjp hn (List.mem_reverse.1 t1)
  have hlk:=zsqh C y
  rw [hgc] at hlk
  simp only [qK,Option.map_some] at hlk
  refine zbn1 (V_W mix zume ?_)
  simp (disch:=first|omega|simp<;>omega|fail) [-zA,-zB,-zC,-zD,-zE,vX,vF,zjwp,ceq]
  refine zbn1 (z3mo ?_)
  refine zbn1 (V_W mix zume ?_)
  simp (disch:=first|omega|simp<;>omega|fail) [-zA,-zB,-zC,-zD,-zE,vX,vS,r4,hlk,lkD,zjwp,zbb3,stC,zeo3,zjj2,zxft]
  have kX:=z7ko (r:=[.cells (stC st)]) r5
  have kF:=z7ko (r:=[.cells (stC st)]) r6
  have kS:=z7ko (r:=[.cells (stC st)]) r3
  have kM:=zjf6 [.cells (stC st)] r4
  have kY:ziu0 (k++[.cells (stC st)]) k.length=some (stC st):=zzga (h:=k) (r:=[.cells (stC st)]) (id:=0)
  have kT:t≠[]→ziu0 (k++[.cells (stC st)]) G=some (bC t):=fun e=>z7ko (r7 e)
  have nY:t≠[]→k.length≠G:=fun e=>by have:=z4sf (r7 e); omega
  have nX:h.length≠k.length:=by have:=z4sf r5; omega
  have nF:F≠k.length:=by have:=z4sf r6; omega
  have nS:S≠k.length:=by have:=z4sf r3; omega
  refine zqfd (st':=⟨[.mp S 3 0,.junk,.junk,.mp h.length 3 0,.junk,bV G t,.mp F 3 0,.mp k.length 4 0]++js 49,k++[.cells (stC st)]⟩) (z515 (by simp (disch:=first|omega|simp<;>omega|fail) [-zA,-zB,-zC,-zD,-zE]) (by simp (disch:=first|omega|simp<;>omega|fail) [-zA,-zB,-zC,-zD,-zE,stC])) ?_
  generalize k++[AObj.cells (stC st)]=k1 at kX kF kS kM kY kT
  have vY:objV k1 k.length 4=some (stC st):=zw28 kY rfl
  simp only [stC] at vY
  generalize k.length=Y at kY nY nX nF nS vY
  have htl:t.length≤1000000:=by
   have:=congrArg List.length r2
   simp at this; omega
  refine zbn1 (zftn (Φ:=MidP S h.length F Y B pv qv C y st (t++cB st.2)) (fun e s ⟨he,G',k2,hp,hwk⟩ => ?_) ?_)
  rotate_left 1
  ·by_cases hz:st.2=0#8
   ·have hzq:(st.2 != 0#8)=false:=by simp [hz]
    have hcB:t++cB st.2=t:=by simp [cB,hz]
    refine V_W mix zume ?_
    simp (disch:=first|omega|simp<;>omega|fail) [-zA,-zB,-zC,-zD,-zE,vY,hzq]
    exact ⟨rfl,G,k1,⟨kS,kM,kX,kF,kY,by rw [hcB]; exact kT,by rw [hcB]; exact fun e=>⟨r11 e,r10 e,r12 e,nY e⟩⟩,fun _=>z515 (by simp (disch:=first|omega|simp<;>omega|fail) [-zA,-zB,-zC,-zD,-zE,hcB]) (by simp (disch:=first|omega|simp<;>omega|fail) [-zA,-zB,-zC,-zD,-zE])⟩
   ·have hzq:(st.2 != 0#8)=true:=by simp [hz]
    have hcB:t++cB st.2=t++[⟨st.2⟩]:=by simp [cB,hz]
    have happ:=zhxw (c:=⟨st.2⟩) kT htl
    refine V_W mix zume ?_
    simp (disch:=first|omega|simp<;>omega|fail) [-zA,-zB,-zC,-zD,-zE,vY,hzq,happ]
    have b1:=z4mf (c:=⟨st.2⟩) kS r11
    have b2:=z4mf (c:=⟨st.2⟩) kX r10
    have b3:=z4mf (c:=⟨st.2⟩) kF r12
    have b4:=z4mf (c:=⟨st.2⟩) kY nY
    exact ⟨rfl,bG k1 G t,bA k1 G t ⟨st.2⟩,⟨b1.1,zxrr kM kT,b2.1,b3.1,b4.1,fun _=>by rw [hcB]; exact zla4 kT,fun _=>⟨Ne.symm b1.2,Ne.symm b2.2,Ne.symm b3.2,Ne.symm b4.2⟩⟩,fun _=>z515 (by simp (disch:=first|omega|simp<;>omega|fail) [-zA,-zB,-zC,-zD,-zE,hcB]) (by simp (disch:=first|omega|simp<;>omega|fail) [-zA,-zB,-zC,-zD,-zE])⟩
  subst he
  refine zqfd (hwk _) ?_
  obtain ⟨p1,p2,p3,p4,p5,p6,p7⟩:=hp
  have uY:objV k2 Y 4=some (stC st):=zw28 p5 rfl
  have uX:objV k2 h.length 3=some (qC y):=zw28 p3 rfl
  simp only [stC] at uY
  simp only [qC] at uX
  refine V_W mix zume ?_
  simp (disch:=first|omega|simp<;>omega|fail) [-zA,-zB,-zC,-zD,-zE,uY,uX,zsvl,z8we]
  have z1:ziu0 (k2.set h.length (.cells (qC st.1))) S=some [pv,qv,.mapv B]:=by rw [ztfj (Ne.symm r8)]; exact p1
  have z2:zfel (k2.set h.length (.cells (qC st.1))) B=some (cM C):=zv2a p2 p3
  have z3:ziu0 (k2.set h.length (.cells (qC st.1))) h.length=some (qC st.1):=zhvw p3
  have z4:ziu0 (k2.set h.length (.cells (qC st.1))) F=some (qC oQ):=by rw [ztfj (Ne.symm r9)]; exact p4
  have z5:t++cB st.2≠[]→ziu0 (k2.set h.length (.cells (qC st.1))) G'=some (bC (t++cB st.2)):=fun e=>by rw [ztfj (p7 e).2.1]; exact p6 e
  refine zqfd (st':=⟨[.mp S 3 0,.junk,.junk,.mp h.length 3 0,.junk,bV G' (t++cB st.2),.mp F 3 0]++js 50,k2.set h.length (.cells (qC st.1))⟩) (z515 (by simp (disch:=first|omega|simp<;>omega|fail) [-zA,-zB,-zC,-zD,-zE]) (by simp (disch:=first|omega|simp<;>omega|fail) [-zA,-zB,-zC,-zD,-zE,qC])) ?_
  generalize k2.set h.length (.cells (qC st.1))=k3 at z1 z2 z3 z4 z5
  have uF:objV k3 F 3=some (qC oQ):=zw28 z4 rfl
  simp only [qC,oQ] at uF
  refine V_W mix zume ?_
  simp (disch:=first|omega|simp<;>omega|fail) [-zA,-zB,-zC,-zD,-zE,uF,zjwp,zjj2,zxft,z8we]
  refine ⟨⟨st.1,t++cB st.2,G',k3.length,k3++[.cells (qC oQ)]⟩,z515 (by simp (disch:=first|omega|simp<;>omega|fail) [-zA,-zB,-zC,-zD,-zE,sP,z225]) (by simp (disch:=first|omega|simp<;>omega|fail) [-zA,-zB,-zC,-zD,-zE,sP,z225,qC,oQ]),t4,?_⟩
  have l3:=z4sf z1
  have l4:=z4sf z3
  refine ⟨(zp1x C _).1 t2,?_,z7ko z1,zjf6 _ z2,z7ko z3,zzga (id:=0),fun e=>z7ko (z5 e),r8,by simp only; omega,fun e=>(p7 e).2.1,fun e=>(p7 e).1,fun e => ?_⟩
  ·have:wd C y=wd C st.1++cB st.2:=t3
   rw [r2,this]
   have hrev:(cB st.2).reverse=cB st.2:=by unfold cB; split<;>rfl
   simp [hrev]
  ·have:=z4sf (z5 e)
   simp only; omega
end Go.Proofs.YtaihpefemjlilaaDoor
set_option linter.unusedSimpArgs false
set_option linter.unusedVariables false
namespace Go.Proofs.YtaihpefemjlilaaDoor
open Go Go.Am
theorem z637 {i:Nat} {d:Option Nat} {r:List AOper} {t:List DV} {h:List AObj} {Φ:St→Prop} (hs:zysb P r ⟨putT t d (t.getD i .junk),h⟩ Φ):zysb P (⟨none,d,.mov (.t i)⟩::r) ⟨t,h⟩ Φ:=hs
theorem zsk7 {n:Nat} {b:Bool} {x:Opd} {d:Option Nat} {r:List AOper} {t:List DV} {h:List AObj} {v:DV} {Φ:St→Prop} (he:evOp (.load n b x) t h=some (v,h)) (hs:zysb P r ⟨putT t d v,h⟩ Φ):zysb P (⟨none,d,.load n b x⟩::r) ⟨t,h⟩ Φ:=by
 simp only [zysb,zo4i,he]; exact hs
theorem zgb5 {f:Opd} {ags:List Opd} {d:Option Nat} {r:List AOper} {t:List DV} {h:List AObj} {Φ:St→Prop} {g:Nat} {first captured:List DV} {Ψ:DV→List AObj→Prop} (he:ev t f = .fn (.func g) first captured) (hc:zwy1 P g (first++ags.map (ev t)++captured) h Ψ)
  (hs : ∀ v h',Ψ v h'→zysb P r ⟨putT t d v,h'⟩ Φ):zysb P (⟨none,d,.call f ags⟩::r) ⟨t,h⟩ Φ:=by
 simp only [zysb,zo4i,he]
 exact hc.mono hs
theorem zvi1 {T:Tbl} (hT:T.Sound P) {n0:Nat} {l:List AOper} {t:List DV} {h:List AObj} {Φ:AExit→St→Prop} (hw:W T n0 (.region false l) Φ ⟨t,h⟩):zysb P l ⟨t,h⟩ (Φ .normal):=by
 have:=z7sh hT _ _ _ _ (fun _ _ h=>h) hw.out
 simpa only [awp,y0m,if_false] using this
structure OvK (rs:List ARes) (r:DV) (e:AExit) (st:St):Prop where
 out:e = .ret∧zxgc rs st=some r
theorem zukd {i j:Nat} {a b:DV} {t:List DV} {h:List AObj}:OvK [.tmp i,.tmp j] (.tup [a,b]) .ret ⟨t,h⟩=(t.getD i .junk=a∧t.getD j .junk=b):=by
 refine propext ⟨fun ⟨_,q⟩ => ?_,fun ⟨q1,q2⟩=>⟨rfl,?_⟩⟩
 ·simpa [zxgc,zp5p,z16h] using q
 ·simp [zxgc,zp5p,z16h]; exact ⟨q1,q2⟩
theorem z7cj {i:Nat} {a:DV} {t:List DV} {h:List AObj}:OvK [.tmp i] a .ret ⟨t,h⟩=(t.getD i .junk=a):=by
 refine propext ⟨fun ⟨_,q⟩ => ?_,fun q1=>⟨rfl,?_⟩⟩
 ·simpa [zxgc,zp5p,z16h] using q
 ·simp [zxgc,zp5p,z16h]; exact q1
theorem OvK.pure {rs:List ARes} {r:DV} (hp:zyp8 r=true) (e:AExit) (st:St) (h:OvK rs r e st):retK rs r e st:=by
 obtain ⟨rfl,h⟩:=h
 exact ⟨⟨r,h,z6nl hp⟩⟩
def zu3v (f:Nat→Bool):Nat→Nat→Option Nat
 | 0,_=>none
 | m+1,n=>if f n=true then some n else zu3v f m (n+1)
theorem zgjx {f:Nat→Bool} {n:Nat} : ∀ (m k:Nat),k≤n→n<k+m→(∀ i,k≤i→i<n→f i=false)→f n=true→zu3v f m k=some n
 | 0,k,h1,h2,_,_=>by omega
 | m+1,k,h1,h2,h3,h4=>by
  rw [zu3v]
  by_cases e:k=n
  ·subst e; rw [if_pos h4]
  ·rw [if_neg (by rw [h3 k (y02 _) (by omega)]; simp)]
   exact zgjx m (k+1) (by omega) (by omega) (fun i a b=>h3 i (by omega) b) h4
theorem znfn {f:Nat→Bool} : ∀ (m k:Nat),(∀ i,k≤i→i<k+m→f i=false)→zu3v f m k=none
 | 0,_,_=>rfl
 | m+1,k,h=>by
  rw [zu3v,if_neg (by rw [h k (y02 _) (by omega)]; simp)]
  exact znfn m (k+1) fun i a b=>h i (by omega) (by omega)
theorem z5fn {f:Nat→Bool} {n:Nat} : ∀ (m k:Nat),zu3v f m k=some n→k≤n∧n<k+m∧f n=true
 | 0,_,h=>by simp [zu3v] at h
 | m+1,k,h=>by
  rw [zu3v] at h
  split at h
  ·rename_i e; cases h; exact ⟨y02 _,by omega,e⟩
  ·obtain ⟨a,b,c⟩:=z5fn m (k+1) h
   exact ⟨by omega,by omega,c⟩
theorem zriv {f:Nat→Bool} : ∀ (m k:Nat),zu3v f m k=none → ∀ i,k≤i→i<k+m→f i=false
 | 0,_,_,i,h1,h2=>by omega
 | m+1,k,h,i,h1,h2=>by
  rw [zu3v] at h
  split at h
  ·simp at h
  ·rename_i e
   by_cases q:i=k
   ·subst q; simpa using e
   ·exact zriv m (k+1) h i (by omega) (by omega)
def hit (p q:List Pt) (cs:Pt→Pt→List B8) (n:Nat):Bool:=decide (gQ p q ∈ (layN p q cs n).2)
def ovP (p q:List Pt):Option (List UInt8):=(zu3v (hit p q chP) 201 0).map fun n=>wd (layN p q chP n).1 (gQ p q)
def ovV:Option (List UInt8)→DV
 | some w => .tup [.str w,.bool true]
 | none => .tup [.str [],.bool false]
def ovD (s t:List UInt8):Option (List UInt8):=match zfn1 s,zfn1 t with
 | some p,some q=>ovP p q
 | _,_=>none
theorem z45p : ∀ {L:List Q} {i:Nat} (h:i<L.length),oneC 3 true ((lC L).drop (i*3))=some (.agg (qC L[i]))
 | x::L,0,_=>by
  show oneC 3 true (qC x++lC L)=_
  simp [oneC,qC]
 | x::L,i+1,h=>by
  have:=z45p (L:=L) (i:=i) (by simpa using h)
  have e:(lC (x::L)).drop ((i+1)*3)=(lC L).drop (i*3):=by
   show (qC x++lC L).drop _=_
   rw [show (i+1)*3=3+i*3 by omega,← List.drop_drop]
   rfl
  rw [e]; exact this
theorem ztqr {h:List AObj} {G:Nat} {L:List Q} (ho:L≠[]→ziu0 h G=some (lC L)):lenD h (lV G L)=some (.int .i64 L.length):=by
 by_cases e:L=[]
 ·subst e; rfl
 ·rw [zi7d e,z59c,zw28 (ho e) (zsql L)]; rfl
theorem zjsa {h:List AObj} {G:Nat} {L:List Q} {i:Nat} (ho:L≠[]→ziu0 h G=some (lC L)) (hi:i<L.length):zpsc h 3 (lV G L) i=some (.mp G (L.length*3) (i*3)):=by
 have e:L≠[]:=fun e=>by rw [e] at hi; simp at hi
 rw [zi7d e,zq11 (by omega) (by omega),zw28 (ho e) (zsql L)]
 simp
end Go.Proofs.YtaihpefemjlilaaDoor
set_option linter.unusedSimpArgs false
set_option linter.unusedVariables false
namespace Go.Proofs.YtaihpefemjlilaaDoor
open Go Go.Am
def z46z (p s:List UInt8):DV := .bool (zenh p s)
theorem zl9r {p:List UInt8} {l:List Pt} (h:zfn1 p = .some l):1≤p.length∧p.length≤200∧noZ p=true∧prs p = .some l:=by
 unfold zfn1 at h
 split at h
 ·rename_i hc; exact ⟨hc.1,hc.2.1,hc.2.2,h⟩
 ·simp at h
theorem zdy7 {ds:List DV} (h:Ty.Ok .str ds) : ∃ s:List UInt8,ds=[.str s]:=h
theorem z612 {dvs:List DV} (h:Ty.Args [.str,.str] dvs) : ∃ s p:List UInt8,dvs=[.str s,.str p]:=by
 obtain ⟨ds,l,rfl,h1,d2,l2,rfl,h2,rfl⟩:=h
 obtain ⟨s,rfl⟩:=zdy7 h1
 obtain ⟨p,rfl⟩:=zdy7 h2
 exact ⟨s,p,rfl⟩
end Go.Proofs.YtaihpefemjlilaaDoor
set_option linter.unusedSimpArgs false
set_option linter.unusedVariables false
namespace Go.Proofs.YtaihpefemjlilaaDoor
open Go Go.Am
def iV:DV→Option Int
 | .int .i64 n=>some n
 | _=>none
def mm2 (m:Bool) (x y:DV):Option DV:=(iV x).bind fun a=>(iV y).bind fun b=>some (.int .i64 (if m then max a b else min a b))
theorem zy6n {a b:Int}:mm2 false (.int .i64 a) (.int .i64 b)=some (.int .i64 (min a b)):=rfl
theorem zluv {T:Tbl} {dr m:Bool} {x y:Opd} {t:List DV} {h:List AObj}:zn3j T dr (.mm m [x,y]) t h=pr (mm2 m (ev t x) (ev t y)) h:=by
 simp only [zn3j,evOp]
 refine (congrArg (fun q=>Option.bind q _) (zd7r (g:=fun z=>iV (ev t z)) fun z _ => ?_)).trans ?_
 ·generalize ev t z=d
  cases d with
  | int k n=>cases k<;>rfl
  | _=>rfl
 ·simp only [zp5p,mm2]
  cases iV (ev t x)<;>cases iV (ev t y)<;>rfl
def cnD (s:List UInt8) (c:B8):DV := .int .i64 (Lib.countByte s c.toNat.toUInt8)
def cn1 (s:List UInt8) (c:UInt8):DV := .int .i64 (Lib.countByte s c)
def T70:Tbl:=addT 83 (.pure (cSB cnD)) tbl0
theorem zsdt:T70 83 = .pure (cSB cnD):=by simp [T70]
theorem zc9y:T70.Sound P:=z0rp (zboo fun s c=>zxuw Tryd.func83 (by kernel_rfl) (by kernel_rfl) (by kernel_rfl) (by kernel_rfl) s c) zr5o
theorem z1yh (s:List UInt8) (c:UInt8):Runs T70 a77 [.str s,.str [c]] (cn1 s c):=by
 refine ⟨?_⟩
 simp (disch:=first|omega|simp<;>omega|fail) [-zA,-zB,-zC,-zD,-zE,a77,zsdt,zvdo,cnD,cn1,zq22]
def T71:Tbl:=addT 77 (.pure (cS1 cn1)) (addT 73 (.pure (cS1 ix1)) tbl0)
theorem zovh:T71 77 = .pure (cS1 cn1):=by simp [T71]
theorem z7wv:T71 73 = .pure (cS1 ix1):=by simp [T71]
theorem zfkh:T71.Sound P:=z0rp (zpzi fun s c=>zljw mix zc9y Tryd.func77 z20a (z1yh s c)) (z0rp (zpzi fun s c=>zljw mix zyuf Tryd.func73 zn06 (zazq s c)) zr5o)
def strs (l:List (List UInt8)):List DV:=l.map DV.str
def zabr (s:List UInt8):DV := .sl false 1 (z2fg s).length (strs (z2fg s))
def z0du (l:List (List UInt8)) (i:Nat):List (List UInt8):=l.take i++List.replicate (l.length-i) []
theorem za0c {l:List (List UInt8)} {i:Nat} (h:i≤l.length):(z0du l i).length=l.length:=by simp [z0du]; omega
theorem zaz4 {l:List (List UInt8)} {i:Nat} (h:i<l.length):(z0du l i).set i l[i]=z0du l (i+1):=by
 unfold z0du
 have hl:(l.take i).length=i:=List.length_take_of_le (by omega)
 rw [List.set_append_right _ _ (by omega),hl,Nat.sub_self,zmqh h]
 obtain ⟨m,hm⟩ : ∃ m,l.length-i=m+1:=⟨l.length-i-1,by omega⟩
 rw [hm,show l.length-(i+1)=m by omega,List.replicate_succ,List.set_cons_zero,List.append_assoc]
 rfl
theorem z13y (l:List (List UInt8)):z0du l l.length=l:=by simp [z0du]
theorem zmfi (l:List (List UInt8)):rep l.length (DV.str [])=strs (z0du l 0):=by simp [rep,z0du,strs]
theorem zw6r {l:List (List UInt8)} {i:Nat} {x:List UInt8}:(strs l).set i (.str x)=strs (l.set i x):=by simp [strs,List.map_set]
theorem zy2g (l:List (List UInt8)):(strs l).length=l.length:=by simp [strs]
theorem zgvs : ∀ (l:List (List UInt8)),zbao (strs l)=true
 | []=>rfl
 | x::l=>by
  have:=zgvs l
  simp only [strs,y0e] at this ⊢
  simp [zbao,zyp8,this]
theorem zpp8 (h:List AObj) (k:Nat) (l:List (List UInt8)):z4tt h k (strs l)=some (strs l):=z619 (zgvs l)
structure X94 where
 i:Nat
 r:List UInt8
def S94 (s:List UInt8) (x:X94):St:=zbq4 (.str x.r) (.str [47]) (.int .i64 0) (.int .i64 ((z2fg s).length-1:Int)) (.ms 0 (z2fg s).length 0 1 (z2fg s).length (z2fg s).length) (.int .i64 x.i) [.cells (strs (z0du (z2fg s) x.i))]
def R94 (s:List UInt8) (x:X94):Prop:=x.r.length≤s.length∧x.i<(z2fg s).length∧(z2fg s).drop x.i=z2fg x.r
theorem zjnq (s:List UInt8) (c:UInt8):Lib.countByte s c≤s.length:=List.count_le_length
theorem z00p (s:List UInt8) (hs:s.length≤100000):Runs T71 a67 [.str s,.str [47],.int .i64 0,.int .i64 (-1)] (zabr s):=by
 refine ⟨?_⟩
 have hlc:=z9lv s
 have hcl:=zjnq s 47
 obtain ⟨n,hn⟩ : ∃ n,(z2fg s).length=n:=⟨_,rfl⟩
 have hmin:min ((Lib.countByte s 47:Int)+1) ((s.length:Int)+1)=n:=by omega
 have hn1:(Lib.countByte s 47:Int)+1=n:=by omega
 have hn2:min (n:Int) ((s.length:Int)+1)=n:=by omega
 simp (disch:=first|omega|simp<;>omega|fail) [-zA,-zB,-zC,-zD,-zE,zluv,zy6n,a67,zovh,z8u6,cn1,hn1,hn2]
 have hr0:=zmfi (z2fg s)
 rw [hn] at hr0
 refine zlm5 (S94 s) (fun x=>x.r.length) (R94 s) ⟨0,s⟩ (z515 (by simp (disch:=first|omega|simp<;>omega|fail) [-zA,-zB,-zC,-zD,-zE,hn]) (by simp (disch:=first|omega|simp<;>omega|fail) [-zA,-zB,-zC,-zD,-zE,hr0])) ⟨y02 _,by show 0<(z2fg s).length; omega,rfl⟩ (fun x hx => ?_)
 obtain ⟨i,r⟩:=x
 have hx':=hx
 obtain ⟨hrl,hi,hd⟩:=hx'
 simp only at hrl hi hd
 have hle:=za0c (l:=z2fg s) (i:=i) (by omega)
 have hls:=zy2g (z0du (z2fg s) i)
 simp (disch:=first|omega|simp<;>omega|fail) [-zA,-zB,-zC,-zD,-zE,zfle,zbq4,S94,hn]
 by_cases h:i+1<n
 ·have h1:(i:Int)<(n:Int)-1:=by omega
  have hin:i<n:=by omega
  have hlr:(z2fg r).length=n-i:=by rw [← hd,y0s,hn]
  by_cases hix:Lib.indexByte r 47 = -1
  ·rw [zbf3 hix] at hlr
   simp at hlr; omega
  ·obtain ⟨o,ho⟩ : ∃ o:Nat,Lib.indexByte r 47=o:=⟨(Lib.indexByte r 47).toNat,by have:=Lib.indexByte_ge r 47; omega⟩
   have hlt:=z8bu ho
   have hneg:¬ (o:Int)<0:=by omega
   have hol:(o:Int)≤r.length:=by omega
   have hol1:o≤r.length:=by omega
   have hol2:o+1≤r.length:=by omega
   have hol3:(o:Int)+1≤r.length:=by omega
   have e1:((o:Int)+1).toNat=o+1:=by omega
   have ht:(r.drop (o+1)).take (r.length-(o+1))=r.drop (o+1):=y03 (by simp)
   have hcs:=zjoj ho
   have hget:(z2fg s)[i]'(by omega)=r.take o:=by
    have:(z2fg s)[i]? = some (r.take o):=by
     have:=congrArg (·[0]?) hd
     simp only [List.getElem?_drop,y0i,hcs] at this
     simpa using this
    exact (y0o.1 this).2
   have hset:(strs (z0du (z2fg s) i)).set i (.str (r.take o))=strs (z0du (z2fg s) (i+1)):=by
    rw [zw6r,← hget,zaz4 (by omega)]
   have hd2:(z2fg s).drop (i+1)=z2fg (r.drop (o+1)):=by
    rw [← List.drop_drop,hd,hcs]; rfl
   simp (disch:=first|omega|simp<;>omega|fail) [-zA,-zB,-zC,-zD,-zE,h1,hin,z7wv,z8u6,ix1,ho,hneg,hol,hol1,hol2,hol3,e1,ht,hls,hle,hn]
   exact ⟨⟨i+1,r.drop (o+1)⟩,z515 (by simp (disch:=first|omega|simp<;>omega|fail) [-zA,-zB,-zC,-zD,-zE,hn]) (by simp (disch:=first|omega|simp<;>omega|fail) [-zA,-zB,-zC,-zD,-zE,hset]),by simp; omega,by simp only [y0s]; omega,by show i+1<(z2fg s).length; omega,hd2⟩
 ·have h1:¬ (i:Int)<(n:Int)-1:=by omega
  have hin:i<n:=by omega
  have hi1:i+1=n:=by omega
  have hi2:(i:Int)+1=n:=by omega
  have hlr:(z2fg r).length=1:=by rw [← hd,y0s]; omega
  have hcr:z2fg r=[r]:=by
   by_cases hix:Lib.indexByte r 47 = -1
   ·exact zbf3 hix
   ·obtain ⟨o,ho⟩ : ∃ o:Nat,Lib.indexByte r 47=o:=⟨(Lib.indexByte r 47).toNat,by have:=Lib.indexByte_ge r 47; omega⟩
    rw [zjoj ho] at hlr
    have:=zf0z (r.drop (o+1))
    simp at hlr
    exact absurd hlr this
  have hget:(z2fg s)[i]'(by omega)=r:=by
   have:(z2fg s)[i]? = some r:=by
    have:=congrArg (·[0]?) hd
    simp only [List.getElem?_drop,y0i,hcr] at this
    simpa using this
   exact (y0o.1 this).2
  have hset:(strs (z0du (z2fg s) i)).set i (.str r)=strs (z2fg s):=by
   rw [zw6r]
   conv=>lhs; rw [← hget]
   rw [zaz4 (by omega),show i+1=(z2fg s).length by omega,z13y]
  have hlc2:=zy2g (z2fg s)
  have htk:(strs (z2fg s)).take n=strs (z2fg s):=y03 (by omega)
  simp (disch:=first|omega|simp<;>omega|fail) [-zA,-zB,-zC,-zD,-zE,h1,hin,hi2,hls,hle,hn,hset,zabr,hlc2,htk,zpp8]
def cGS:List DV→Option DV
 | [.str s,.str [47],.int .i64 0,.int .i64 (-1)]=>if s.length≤100000 then some (zabr s) else none|_=>none
theorem z0qy {s:List UInt8} (h:s.length≤100000):cGS [.str s,.str [47],.int .i64 0,.int .i64 (-1)]=some (zabr s):=if_pos h
def T72:Tbl:=addT 67 (.pure cGS) tbl0
theorem ze0j:T72 67 = .pure cGS:=by simp [T72]
theorem zegh:T72.Sound P:=by
 refine z0rp (fun args v e => ?_) zr5o
 unfold cGS at e
 split at e
 ·split at e
  ·rename_i hl; simp at e; subst e; exact zljw mix zfkh Tryd.func67 zy8u (z00p _ hl)
  ·simp at e
 ·simp at e
theorem z3aj (s:List UInt8) (hs:s.length≤100000):Runs T72 a54 [.str s,.str [47]] (zabr s):=by
 refine ⟨?_⟩
 simp (disch:=first|omega|simp<;>omega|fail) [-zA,-zB,-zC,-zD,-zE,a54,ze0j,z0qy,hs,zabr,zpp8]
def cSpl:List DV→Option DV
 | [.str s,.str [47]]=>if s.length≤100000 then some (zabr s) else none|_=>none
theorem ziwh {s:List UInt8} (h:s.length≤100000):cSpl [.str s,.str [47]]=some (zabr s):=if_pos h
def T73:Tbl:=addT 54 (.pure cSpl) tbl0
theorem zjkf:T73 54 = .pure cSpl:=by simp [T73]
theorem zfxp:T73.Sound P:=by
 refine z0rp (fun args v e => ?_) zr5o
 unfold cSpl at e
 split at e
 ·split at e
  ·rename_i hl; simp at e; subst e; exact zljw mix zegh Tryd.func54 zq4q (z3aj _ hl)
  ·simp at e
 ·simp at e
def S17a (s:List UInt8) (i:Nat):St:=zhlx (.str s) (.int .i64 i) []
def S17b (s:List UInt8) (i:Nat):St:=z58v (zabr s) (.int .i64 i) []
def R17a (s:List UInt8) (i:Nat):Prop:=i≤s.length∧noZ (s.take i)=true
def R17b (s:List UInt8) (i:Nat):Prop:=i≤(z2fg s).length∧((z2fg s).take i).all okC=true
theorem zkka {l:List (List UInt8)} {i:Nat} (h:i<l.length):oneC 1 false (((strs l).drop i).take 1)=some (.str l[i]):=zai5 h (by decide)
theorem z8tt {s:List UInt8} {i:Nat} (h:i<s.length):noZ (s.take (i+1))=(noZ (s.take i)&&s[i] != 0):=by
 rw [zmqh h,z2u1]; simp [noZ]
theorem z80k (s:List UInt8):Runs T73 a26 [.str s] (za1j s):=by
 refine ⟨?_⟩
 by_cases h1:s=[]
 ·subst h1
  simp (disch:=first|omega|simp<;>omega|fail) [-zA,-zB,-zC,-zD,-zE,a26,za1j,show zj1f []=false from rfl]
 by_cases h2:200<s.length
 ·have h2':(200:Int)<s.length:=by omega
  have hp:zj1f s=false:=by simp [zj1f]; omega
  simp (disch:=first|omega|simp<;>omega|fail) [-zA,-zB,-zC,-zD,-zE,a26,h1,h2',za1j,hp]
 have h2':¬ (200:Int)<s.length:=by omega
 have h3:1≤s.length:=by have:=y0f.2 h1; omega
 simp (disch:=first|omega|simp<;>omega|fail) [-zA,-zB,-zC,-zD,-zE,a26,h1,h2']
 refine zlm5 (S17a s) (fun i=>s.length-i) (R17a s) 0 (z515 (by simp (disch:=first|omega|simp<;>omega|fail) [-zA,-zB,-zC,-zD,-zE]) (by simp (disch:=first|omega|simp<;>omega|fail) [-zA,-zB,-zC,-zD,-zE])) ⟨by omega,rfl⟩ (fun i hi => ?_)
 obtain ⟨hi1,hi2⟩:=hi
 simp (disch:=first|omega|simp<;>omega|fail) [-zA,-zB,-zC,-zD,-zE,zr3y,zhlx,S17a]
 by_cases h:i<s.length
 ·have h4:(i:Int)<s.length:=by omega
  by_cases hz:s[i]=0
  ·have b1:s[i].toBitVec=0#8:=zw4m.2 hz
   have hnz:noZ s=false:=by
    rw [noZ,y0n]
    exact ⟨s[i],y07 h,by simp [hz]⟩
   have hp:zj1f s=false:=by simp [zj1f,hnz]
   simp (disch:=first|omega|simp<;>omega|fail) [-zA,-zB,-zC,-zD,-zE,h,h4,b1,za1j,hp]
  ·have b1:¬ s[i].toBitVec=0#8:=fun e=>hz (zw4m.1 e)
   have b1q:(s[i].toBitVec == 0#8)=false:=by simp [b1]
   simp (disch:=first|omega|simp<;>omega|fail) [-zA,-zB,-zC,-zD,-zE,h,h4,b1,b1q]
   exact ⟨i+1,z515 (by simp (disch:=first|omega|simp<;>omega|fail) [-zA,-zB,-zC,-zD,-zE]) (by simp (disch:=first|omega|simp<;>omega|fail) [-zA,-zB,-zC,-zD,-zE]),by omega,by omega,by rw [z8tt h,hi2]; simp [hz]⟩
 ·have h4:¬ (i:Int)<s.length:=by omega
  obtain rfl:i=s.length:=by omega
  rw [y0t] at hi2
  have hp:zj1f s=(z2fg s).all okC:=by
   simp only [zj1f,h3,show s.length≤200 by omega,hi2,decide_true,Bool.true_and]
  have hsp:=ziwh (s:=s) (by omega)
  have hcl:(z2fg s).length≤1000:=by have:=z9lv s; have:=zjnq s 47; omega
  simp (disch:=first|omega|simp<;>omega|fail) [-zA,-zB,-zC,-zD,-zE,h4,zjkf,hsp]
  refine zlm5 (S17b s) (fun i=>(z2fg s).length-i) (R17b s) 0 (z515 (by simp (disch:=first|omega|simp<;>omega|fail) [-zA,-zB,-zC,-zD,-zE,zabr]) (by simp (disch:=first|omega|simp<;>omega|fail) [-zA,-zB,-zC,-zD,-zE])) ⟨by omega,rfl⟩ (fun i hi => ?_)
  obtain ⟨hj1,hj2⟩:=hi
  simp (disch:=first|omega|simp<;>omega|fail) [-zA,-zB,-zC,-zD,-zE,zmzd,z58v,S17b,zabr]
  by_cases h5:i<(z2fg s).length
  ·have h6:(i:Int)<(z2fg s).length:=by omega
   have hg:=zkka h5
   obtain ⟨y,hy⟩ : ∃ y,(z2fg s)[i]=y:=⟨_,rfl⟩
   rw [hy] at hg
   have bad:okC y=false→zj1f s=false:=fun e=>by
    rw [hp,y0n]
    exact ⟨(z2fg s)[i],y07 h5,by rw [hy,e]; simp⟩
   by_cases e1:y=[]
   ·subst e1
    simp (disch:=first|omega|simp<;>omega|fail) [-zA,-zB,-zC,-zD,-zE,h5,h6,hg,za1j,bad rfl]
   ·by_cases e2:y=[46]
    ·subst e2
     simp (disch:=first|omega|simp<;>omega|fail) [-zA,-zB,-zC,-zD,-zE,h5,h6,hg,za1j,bad rfl]
    ·by_cases e3:y=[46,46]
     ·subst e3
      simp (disch:=first|omega|simp<;>omega|fail) [-zA,-zB,-zC,-zD,-zE,h5,h6,hg,za1j,bad rfl]
     ·simp (disch:=first|omega|simp<;>omega|fail) [-zA,-zB,-zC,-zD,-zE,h5,h6,hg,e1,e2,e3]
      refine ⟨i+1,z515 (by simp (disch:=first|omega|simp<;>omega|fail) [-zA,-zB,-zC,-zD,-zE,zabr]) (by simp (disch:=first|omega|simp<;>omega|fail) [-zA,-zB,-zC,-zD,-zE]),by omega,by omega,?_⟩
      rw [zmqh h5,List.all_append,hj2,hy]
      simp [okC,e1,e2,e3]
  ·have h6:¬ (i:Int)<(z2fg s).length:=by omega
   have:(z2fg s).take i=z2fg s:=y03 (by omega)
   rw [this] at hj2
   have hq:zj1f s=true:=by rw [hp,hj2]
   simp (disch:=first|omega|simp<;>omega|fail) [-zA,-zB,-zC,-zD,-zE,h5,h6,za1j,hq]
end Go.Proofs.YtaihpefemjlilaaDoor
set_option linter.unusedSimpArgs false
set_option linter.unusedVariables false
namespace Go.Proofs.YtaihpefemjlilaaDoor
open Go Go.Am
structure Y49 where
 l:List Pt
 i:Nat
def S49 (p:List UInt8) (x:Y49):St:=zp5l (.str p) (ownD 0 2 .nils x.l.length (z6j5 x.l)) (.int .i64 x.i) (ownH (z6j5 x.l))
def m49 (p:List UInt8) (x:Y49):Nat:=p.length-x.i
def R49 (p:List UInt8) (x:Y49):Prop:=R15 p ⟨x.l,x.i⟩∧noZ (p.take x.i)=true
theorem zqwg {p:List UInt8} {i:Nat} (h:i<p.length) (hz:p[i]=0):noZ p=false:=by
 rw [noZ,y0n]
 exact ⟨p[i],y07 h,by simp [hz]⟩
theorem zhap {p:List UInt8} (h:noZ p=false):zfn1 p=none:=by rw [zfn1,if_neg (by rw [h]; simp)]
theorem zaig {p:List UInt8} {i:Nat} (h:i+1<p.length) (h0:noZ (p.take i)=true) (h1:p[i]≠0) (h2:p[i+1]≠0):noZ (p.take (i+2))=true:=by
 rw [z8tt h,z8tt (by omega),h0]; simp [h1,h2]
theorem zuqg {p:List UInt8} {i:Nat} (h:i<p.length) (h0:noZ (p.take i)=true) (h1:p[i]≠0):noZ (p.take (i+1))=true:=by
 rw [z8tt h,h0]; simp [h1]
theorem znf3 (p:List UInt8):Runs tbl0 a36 [.str p] (z8r4 p):=by
 refine ⟨?_⟩
 by_cases h1:p=[]
 ·subst h1
  simp (disch:=first|omega|simp<;>omega|fail) [-zA,-zB,-zC,-zD,-zE,a36,z8r4,show zfn1 []=none from rfl,zoby]
 by_cases h2:200<p.length
 ·have h2':(200:Int)<p.length:=by omega
  have hp:zfn1 p=none:=by rw [zfn1,if_neg (by omega)]
  simp (disch:=first|omega|simp<;>omega|fail) [-zA,-zB,-zC,-zD,-zE,a36,h1,h2',z8r4,hp,zoby]
 have h2':¬ (200:Int)<p.length:=by omega
 have h3:1≤p.length:=by have:=y0f.2 h1; omega
 simp (disch:=first|omega|simp<;>omega|fail) [-zA,-zB,-zC,-zD,-zE,a36,h1,h2']
 refine zlm5 (S49 p) (m49 p) (R49 p) ⟨[],0⟩ (z515 (by simp (disch:=first|omega|simp<;>omega|fail) [-zA,-zB,-zC,-zD,-zE,ownD,z6j5]) (by simp (disch:=first|omega|simp<;>omega|fail) [-zA,-zB,-zC,-zD,-zE,ownH,z6j5])) ⟨⟨by simp,by simp,by simp⟩,rfl⟩ (fun x hx => ?_)
 obtain ⟨l,i⟩:=x
 obtain ⟨hx,hnz⟩:=hx
 have hx':=hx
 obtain ⟨hi,hl,hpr⟩:=hx'
 simp only at hi hl hpr hnz
 have hlen:=z4u6 l
 simp (disch:=first|omega|simp<;>omega|fail) [-zA,-zB,-zC,-zD,-zE,zlo9,zp5l,S49]
 by_cases h:i<p.length
 ·have h4:(i:Int)<p.length:=by omega
  have hd:p.drop i=p[i]::p.drop (i+1):=y09 h
  have e12:(i:Int)+1+1=i+2:=by omega
  by_cases c0:p[i]=0
  ·have b0:p[i].toBitVec=0#8:=zw4m.2 c0
   have hp:=zhap (zqwg h c0)
   simp (disch:=first|omega|simp<;>omega|fail) [-zA,-zB,-zC,-zD,-zE,h4,h,b0,z8r4,hp,zoby]
  have b0:¬ p[i].toBitVec=0#8:=fun e=>c0 (zw4m.1 e)
  have b0q:(p[i].toBitVec == 0#8)=false:=by simp [b0]
  by_cases c1:p[i]=92
  ·have b1:p[i].toBitVec=92#8:=zw4m.2 c1
   by_cases h5:i+1=p.length
   ·have h5':(i:Int)+1=p.length:=by omega
    have hq:prs p=none:=by rw [hpr,hd,c1,y0w (by omega),zt8b]; rfl
    have hp:zfn1 p=none:=by unfold zfn1; split<;>first|exact hq|rfl
    simp (disch:=first|omega|simp<;>omega|fail) [-zA,-zB,-zC,-zD,-zE,h4,h,b1,h5',z8r4,hp,zoby]
   ·have h5':¬ (i:Int)+1=p.length:=by omega
    have h6:i+1<p.length:=by omega
    by_cases c5:p[i+1]=0
    ·have b5:p[i+1].toBitVec=0#8:=zw4m.2 c5
     have hp:=zhap (zqwg h6 c5)
     simp (disch:=first|omega|simp<;>omega|fail) [-zA,-zB,-zC,-zD,-zE,h4,h,b1,h5',h6,b5,z8r4,hp,zoby]
    have b5:¬ p[i+1].toBitVec=0#8:=fun e=>c5 (zw4m.1 e)
    have b5q:(p[i+1].toBitVec == 0#8)=false:=by simp [b5]
    have hd2:p.drop (i+1)=p[i+1]::p.drop (i+2):=y09 h6
    have hs:=zq8c (n:=i+2) (y := .one p[i+1].toBitVec) hx (by simp) (by omega) (by show prs (p.drop i)=_; rw [hd,hd2,c1,z32i])
    simp (disch:=first|omega|simp<;>omega|fail) [-zA,-zB,-zC,-zD,-zE,h4,h,b1,h5',h6,b5,b5q,hlen,e12]
    exact ⟨⟨l++[.one p[i+1].toBitVec],i+2⟩,z515 (by simp (disch:=first|omega|simp<;>omega|fail) [-zA,-zB,-zC,-zD,-zE,e12,zip6,ptC,Pt.kind,Pt.chr]) (by simp (disch:=first|omega|simp<;>omega|fail) [-zA,-zB,-zC,-zD,-zE,zip6,ptC,Pt.kind,Pt.chr]),by simp [m49]; omega,hs,zaig h6 hnz c0 c5⟩
  ·have b1:¬ p[i].toBitVec=92#8:=fun e=>c1 (zw4m.1 e)
   have b1q:(p[i].toBitVec == 92#8)=false:=by simp [b1]
   by_cases c3:p[i]=42
   ·have b3:p[i].toBitVec=42#8:=zw4m.2 c3
    by_cases h6:i+1<p.length
    ·have h6':(i:Int)+1<p.length:=by omega
     have hd2:p.drop (i+1)=p[i+1]::p.drop (i+2):=y09 h6
     by_cases c4:p[i+1]=42
     ·have b4:p[i+1].toBitVec=42#8:=zw4m.2 c4
      have hs:=zq8c (n:=i+2) (y := .whole) hx (by simp) (by omega) (by show prs (p.drop i)=_; rw [hd,hd2,c3,c4,zqqt])
      simp (disch:=first|omega|simp<;>omega|fail) [-zA,-zB,-zC,-zD,-zE,z9ia,h4,h,b0,b0q,b1,b1q,b3,h6,h6',b4,hlen,e12]
      exact ⟨⟨l++[.whole],i+2⟩,z515 (by simp (disch:=first|omega|simp<;>omega|fail) [-zA,-zB,-zC,-zD,-zE,e12,zip6,ptC,Pt.kind,Pt.chr]) (by simp (disch:=first|omega|simp<;>omega|fail) [-zA,-zB,-zC,-zD,-zE,zip6,ptC,Pt.kind,Pt.chr]),by simp [m49]; omega,hs,zaig h6 hnz c0 (by rw [c4]; decide)⟩
     ·have b4:¬ p[i+1].toBitVec=42#8:=fun e=>c4 (zw4m.1 e)
      have b4q:(p[i+1].toBitVec == 42#8)=false:=by simp [b4]
      have hs:=zq8c (n:=i+1) (y := .some) hx (by simp) (by omega) (by show prs (p.drop i)=_; rw [hd,hd2,c3,zpjv c4])
      simp (disch:=first|omega|simp<;>omega|fail) [-zA,-zB,-zC,-zD,-zE,z9ia,h4,h,b0,b0q,b1,b1q,b3,h6,h6',b4,b4q,hlen]
      exact ⟨⟨l++[.some],i+1⟩,z515 (by simp (disch:=first|omega|simp<;>omega|fail) [-zA,-zB,-zC,-zD,-zE,zip6,ptC,Pt.kind,Pt.chr]) (by simp (disch:=first|omega|simp<;>omega|fail) [-zA,-zB,-zC,-zD,-zE,zip6,ptC,Pt.kind,Pt.chr]),by simp [m49]; omega,hs,zuqg h hnz c0⟩
    ·have h6':¬ (i:Int)+1<p.length:=by omega
     have hs:=zq8c (n:=i+1) (y := .some) hx (by simp) (by omega) (by show prs (p.drop i)=_; rw [hd,c3,y0w (by omega),zkwm]; rfl)
     simp (disch:=first|omega|simp<;>omega|fail) [-zA,-zB,-zC,-zD,-zE,z9ia,h4,h,b0,b0q,b1,b1q,b3,h6',hlen]
     exact ⟨⟨l++[.some],i+1⟩,z515 (by simp (disch:=first|omega|simp<;>omega|fail) [-zA,-zB,-zC,-zD,-zE,zip6,ptC,Pt.kind,Pt.chr]) (by simp (disch:=first|omega|simp<;>omega|fail) [-zA,-zB,-zC,-zD,-zE,zip6,ptC,Pt.kind,Pt.chr]),by simp [m49]; omega,hs,zuqg h hnz c0⟩
   ·have b3:¬ p[i].toBitVec=42#8:=fun e=>c3 (zw4m.1 e)
    have b3q:(p[i].toBitVec == 42#8)=false:=by simp [b3]
    by_cases c2:p[i]=63
    ·have b2:p[i].toBitVec=63#8:=zw4m.2 c2
     have hs:=zq8c (n:=i+1) (y := .dot) hx (by simp) (by omega) (by show prs (p.drop i)=_; rw [hd,c2,z28c])
     simp (disch:=first|omega|simp<;>omega|fail) [-zA,-zB,-zC,-zD,-zE,z9ia,h4,h,b0,b0q,b1,b1q,b2,b3,b3q,hlen]
     exact ⟨⟨l++[.dot],i+1⟩,z515 (by simp (disch:=first|omega|simp<;>omega|fail) [-zA,-zB,-zC,-zD,-zE,zip6,ptC,Pt.kind,Pt.chr]) (by simp (disch:=first|omega|simp<;>omega|fail) [-zA,-zB,-zC,-zD,-zE,zip6,ptC,Pt.kind,Pt.chr]),by simp [m49]; omega,hs,zuqg h hnz c0⟩
    ·have b2:¬ p[i].toBitVec=63#8:=fun e=>c2 (zw4m.1 e)
     have b2q:(p[i].toBitVec == 63#8)=false:=by simp [b2]
     have hs:=zq8c (n:=i+1) (y := .one p[i].toBitVec) hx (by simp) (by omega) (by show prs (p.drop i)=_; rw [hd,zmw4 c1 c3 c2])
     simp (disch:=first|omega|simp<;>omega|fail) [-zA,-zB,-zC,-zD,-zE,z9ia,h4,h,b0,b0q,b1,b1q,b2,b2q,b3,b3q,hlen]
     exact ⟨⟨l++[.one p[i].toBitVec],i+1⟩,z515 (by simp (disch:=first|omega|simp<;>omega|fail) [-zA,-zB,-zC,-zD,-zE,zip6,ptC,Pt.kind,Pt.chr]) (by simp (disch:=first|omega|simp<;>omega|fail) [-zA,-zB,-zC,-zD,-zE,zip6,ptC,Pt.kind,Pt.chr]),by simp [m49]; omega,hs,zuqg h hnz c0⟩
 ·have h4:¬ (i:Int)<p.length:=by omega
  obtain rfl:i=p.length:=by omega
  rw [List.drop_length] at hpr
  rw [y0t] at hnz
  have hq:prs p = .some l:=by rw [hpr]; simp [prs]
  have hp:zfn1 p = .some l:=by rw [zfn1,if_pos ⟨by omega,by omega,hnz⟩,hq]
  have hne:=zfht h1 hq
  have ht:(z6j5 l).take (l.length*2)=z6j5 l:=y03 (by omega)
  simp (disch:=first|omega|simp<;>omega|fail) [-zA,-zB,-zC,-zD,-zE,h4,z8l3 (zbvb hne),zpgk (zbvb hne),z8r4,hp,zoby,ht,zyoh,hlen]
theorem z4of (x:Pt):Runs tbl0 a43 [.agg (ptC x)] (.bool x.long):=by
 refine ⟨?_⟩
 cases x with
 | one c=>simp (disch:=first|omega|simp<;>omega|fail) [-zA,-zB,-zC,-zD,-zE,a43,ptC,Pt.kind,Pt.chr,Pt.long]
 | dot=>simp (disch:=first|omega|simp<;>omega|fail) [-zA,-zB,-zC,-zD,-zE,a43,ptC,Pt.kind,Pt.chr,Pt.long]
 | some=>simp (disch:=first|omega|simp<;>omega|fail) [-zA,-zB,-zC,-zD,-zE,a43,ptC,Pt.kind,Pt.chr,Pt.long]
 | whole=>simp (disch:=first|omega|simp<;>omega|fail) [-zA,-zB,-zC,-zD,-zE,a43,ptC,Pt.kind,Pt.chr,Pt.long]
theorem zij3 (x:Pt) (b:B8):Runs tbl0 a40 [.agg (ptC x),w8 b] (.bool (x.takes b)):=by
 refine ⟨?_⟩
 cases x with
 | one c =>
  by_cases hb:c=b
  ·simp (disch:=first|omega|simp<;>omega|fail) [-zA,-zB,-zC,-zD,-zE,a40,ptC,Pt.kind,Pt.chr,Pt.takes,hb]
  ·have hb1:(c == b)=false:=by simp [hb]
   have hb2:(b == c)=false:=by simp [Ne.symm hb]
   simp (disch:=first|omega|simp<;>omega|fail) [-zA,-zB,-zC,-zD,-zE,a40,ptC,Pt.kind,Pt.chr,Pt.takes,hb,hb1,hb2]
 | dot=>simp (disch:=first|omega|simp<;>omega|fail) [-zA,-zB,-zC,-zD,-zE,a40,ptC,Pt.kind,Pt.chr,Pt.takes]
 | some=>simp (disch:=first|omega|simp<;>omega|fail) [-zA,-zB,-zC,-zD,-zE,a40,ptC,Pt.kind,Pt.chr,Pt.takes]
 | whole=>simp (disch:=first|omega|simp<;>omega|fail) [-zA,-zB,-zC,-zD,-zE,a40,ptC,Pt.kind,Pt.chr,Pt.takes]
end Go.Proofs.YtaihpefemjlilaaDoor
set_option linter.unusedSimpArgs false
set_option linter.unusedVariables false
namespace Go.Proofs.YtaihpefemjlilaaDoor
open Go Go.Am
theorem zf5a {f:Nat→Bool} {n m:Nat} {x:Bool}:(zkxs f n).set m x=zkxs (fun j=>if j=m then x else f j) n:=by
 apply y08 (by simp [zkxs])
 intro j h1 h2
 rw [y0r]
 simp only [zkxs,List.getElem_map,List.getElem_range]
 by_cases e:m=j
 ·subst e; simp
 ·simp [e,Ne.symm e]
theorem z6mz {f g:Nat→Bool} {n:Nat} (h : ∀ j,j≤n→f j=g j):zkxs f n=zkxs g n:=by
 apply y08 (by simp [zkxs])
 intro j h1 h2
 simp only [zkxs,List.getElem_map,List.getElem_range]
 exact h j (by simp [zkxs] at h1; omega)
theorem zelj {l:List Pt} {s:List UInt8} {k n:Nat} (h : ∀ j,R l s j 0=decide (j≤k)):inn (fun _=>true) k n=zkxs (fun j=>R l s j 0) n:=by
 apply y08 (by simp [inn,zkxs])
 intro j h1 h2
 simp [inn,zkxs,h]
theorem zxib (a tk lg:Nat→Bool) (n:Nat):zdol (n+1)=zkxs (nx a tk lg 0) n:=by
 apply y08 (by simp [zdol,zkxs])
 intro j h1 h2
 simp [zdol,zkxs,nx]
theorem znk5 (b lg:Nat→Bool):ep b lg 0=b:=by
 funext j
 unfold ep
 cases j with
 | zero=>rfl
 | succ j=>rw [if_neg (by omega)]
theorem z7e9 (b lg:Nat→Bool) (k:Nat):ep b lg k k=fin b lg k:=if_pos (y02 _)
theorem zlyc {b lg:Nat→Bool} {k:Nat} (h:(fin b lg k&&lg k)=true):(fun j=>if j=k+1 then true else ep b lg k j)=ep b lg (k+1):=by
 funext j
 by_cases e:j=k+1
 ·subst e; rw [if_pos rfl,z7e9,fin,h]; simp
 ·rw [if_neg e]
  unfold ep
  by_cases hj:j≤k
  ·rw [if_pos hj,if_pos (by omega)]
  ·rw [if_neg hj,if_neg (by omega)]
theorem z017 {b lg:Nat→Bool} {k:Nat} (h:(fin b lg k&&lg k)=false):ep b lg k=ep b lg (k+1):=by
 funext j
 by_cases e:j=k+1
 ·subst e; rw [z7e9,fin,h]; unfold ep; rw [if_neg (by omega)]; simp
 ·unfold ep
  by_cases hj:j≤k
  ·rw [if_pos hj,if_pos (by omega)]
  ·rw [if_neg hj,if_neg (by omega)]
theorem z0c8 {a tk lg:Nat→Bool} {k m:Nat} (h:(a k&&tk k)=true) (hm:(if lg k then k else k+1)=m):(fun j=>if j=m then true else nx a tk lg k j)=nx a tk lg (k+1):=by
 funext j
 rw [nx,h,hm]
 by_cases e:j=m<;>simp [e]
theorem zbtn {a tk lg:Nat→Bool} {k:Nat} (h:(a k&&tk k)=false):nx a tk lg k=nx a tk lg (k+1):=by
 funext j
 rw [nx,h]; simp
def lgF (l:List Pt) (k:Nat):Bool:=(l.getD k .dot).long
def tkF (l:List Pt) (s:List UInt8) (i k:Nat):Bool:=(l.getD k .dot).takes (bAt s i)
def nxF (l:List Pt) (s:List UInt8) (i k:Nat):Nat→Bool:=nx (fun j=>R l s j i) (tkF l s i) (lgF l) k
def epF (l:List Pt) (s:List UInt8) (i k:Nat):Nat→Bool:=ep (nxF l s i l.length) (lgF l) k
theorem ztvc {l:List Pt} {s:List UInt8} {i:Nat}:zkxs (epF l s i l.length) l.length=zkxs (fun j=>R l s j (i+1)) l.length:=by
 refine z6mz fun j hj => ?_
 rw [epF,ep,if_pos hj]
 exact zol2 _ _ _ (fun k _=>rfl) (fun k _=>rfl) (fun k _=>rfl) j hj
noncomputable def zilg:List DV→Option DV:=con (fun (_:Pt × B8)=>True) (fun a=>[.agg (ptC a.1),w8 a.2]) (fun a => .bool (a.1.takes a.2))
theorem znih {x:Pt} {b:B8}:zilg [.agg [.int .i64 x.kind,w8 x.chr],w8 b]=some (.bool (x.takes b)) :=
 z400 (A:=fun (_:Pt × B8)=>True) (a:=(x,b)) (f:=fun a=>[.agg (ptC a.1),w8 a.2]) (g:=fun a => .bool (a.1.takes a.2)) (by
  rintro ⟨a,b⟩ ⟨c,d⟩ _ _ e; simp only [List.cons.injEq,DV.agg.injEq,z21y,and_true] at e; obtain ⟨e1,rfl⟩:=e; rw [zq5p e1]) trivial
noncomputable def T76:Tbl:=addT 43 (.pure zupo) (addT 40 (.pure zilg) (addT 36 (.pure (cS z8r4)) (addT 26 (.pure (cS za1j)) tbl0)))
theorem z5m5:T76 43 = .pure zupo:=by simp [T76]
theorem zwpu:T76 40 = .pure zilg:=by simp [T76]
theorem z6ci:T76 36 = .pure (cS z8r4):=by simp [T76]
theorem z6q8:T76 26 = .pure (cS za1j):=by simp [T76]
theorem zx50:T76.Sound P :=
 z0rp (z2au fun x _=>zljw mix zr5o Tryd.func43 zbv8 (z4of x))
 (z0rp (z2au fun a _=>zljw mix zr5o Tryd.func40 zn9f (zij3 a.1 a.2))
 (z0rp (zzn8 fun p=>zljw mix zr5o Tryd.func36 zj68 (znf3 p))
 (z0rp (zzn8 fun p=>zljw mix zfxp Tryd.func26 z9gs (z80k p)) zr5o)))
def ptsD (l:List Pt):DV := .sl false 2 l.length (z6j5 l)
def atD (id n:Nat):DV := .ms id (n+1) 0 1 (n+1) (n+1)
def S15a (l:List Pt) (s:List UInt8) (k:Nat):St:=zhcc (.str s) (ptsD l) (atD 0 l.length) (.int .i64 k) [.cells ((inn (fun _=>true) k l.length).map DV.bool)]
structure X15b where
 i:Nat
 pre:List AObj
def S15b (l:List Pt) (s:List UInt8) (x:X15b):St:=zrxb (.str s) (ptsD l) (atD x.pre.length l.length) (.int .i64 x.i) (x.pre++[.cells ((zkxs (fun j=>R l s j x.i) l.length).map DV.bool)])
def S15c (l:List Pt) (s:List UInt8) (i:Nat) (pre:List AObj) (k:Nat):St :=
 zr0a (.str s) (ptsD l) (atD pre.length l.length) (.int .i64 i) (atD (pre.length+1) l.length) (.int .i64 k) (pre++[.cells ((zkxs (fun j=>R l s j i) l.length).map DV.bool),.cells ((zkxs (nxF l s i k) l.length).map DV.bool)])
def S15d (l:List Pt) (s:List UInt8) (i:Nat) (pre:List AObj) (k:Nat):St :=
 ziu5 (.str s) (ptsD l) (.int .i64 i) (atD (pre.length+1) l.length) (.int .i64 k) (pre++[.cells ((zkxs (fun j=>R l s j i) l.length).map DV.bool),.cells ((zkxs (epF l s i k) l.length).map DV.bool)])
theorem z0ay (p s:List UInt8) (l:List Pt) (hm:zenh p s=M l s l.length s.length) (hsl:s.length≤200) (hlp:l.length≤200) (st:St) (hst:Weak 0 st (S15b l s ⟨0,[]⟩)) :
  W T76 0 (.loop zi2l) (z0mx 2 (seqK T76 0 (z6m4 7 a17.code) (retK a17.res (z46z p s)))) st:=by
 have hlc:=z4u6 l
 refine zlm5 (S15b l s) (fun x=>s.length-x.i) (fun x=>x.i≤s.length) ⟨0,[]⟩ hst (by simp) (fun x hx => ?_)
 obtain ⟨i,pre⟩:=x
 simp only at hx
 have hlr:=z4jn (fun j=>R l s j i) l.length
 simp (disch:=first|omega|simp<;>omega|fail) [-zA,-zB,-zC,-zD,-zE,zi2l,zrxb,S15b,ptsD,atD,z6m4,a17]
 by_cases h:i<s.length
 ·have h1:(i:Int)<s.length:=by omega
  have hba:=z8rj h
  simp (disch:=first|omega|simp<;>omega|fail) [-zA,-zB,-zC,-zD,-zE,h,h1]
  have hr0:rep (l.length+1) (DV.bool false)=(zkxs (nxF l s i 0) l.length).map DV.bool:=by
   rw [z09a,zxib (fun j=>R l s j i) (tkF l s i) (lgF l)]; rfl
  refine zlm5 (S15c l s i pre) (fun k=>l.length-k) (fun k=>k≤l.length) 0 (z515 (by simp (disch:=first|omega|simp<;>omega|fail) [-zA,-zB,-zC,-zD,-zE,ptsD,atD]) (by simp (disch:=first|omega|simp<;>omega|fail) [-zA,-zB,-zC,-zD,-zE,hr0])) (by omega) (fun k hk => ?_)
  have hln:=z4jn (nxF l s i k) l.length
  simp (disch:=first|omega|simp<;>omega|fail) [-zA,-zB,-zC,-zD,-zE,zxsn,zr0a,S15c,ptsD,atD]
  by_cases hk1:k<l.length
  ·have hk2:(k:Int)<l.length:=by omega
   have hg:=zhys hk1
   have hgd:l.getD k .dot=l[k]:=by rw [y00,y01 hk1]; rfl
   obtain ⟨y,hy⟩ : ∃ y,l[k]=y:=⟨_,rfl⟩
   rw [hy] at hgd
   obtain ⟨v1,hv1⟩ : ∃ v1,R l s k i=v1:=⟨_,rfl⟩
   obtain ⟨v2,hv2⟩ : ∃ v2,y.takes s[i].toBitVec=v2:=⟨_,rfl⟩
   have ht:tkF l s i k=v2:=by rw [tkF,hgd,hba,hv2]
   obtain ⟨v3,hv3⟩ : ∃ v3,y.long=v3:=⟨_,rfl⟩
   have hlg:lgF l k=v3:=by rw [lgF,hgd,hv3]
   cases v1
   ·have hs:=zbtn (a:=fun j=>R l s j i) (tk:=tkF l s i) (lg:=lgF l) (k:=k) (by rw [hv1]; rfl)
    have hs:nxF l s i k=nxF l s i (k+1):=hs
    simp (disch:=first|omega|simp<;>omega|fail) [-zA,-zB,-zC,-zD,-zE,hk1,hk2,hg,hy,zfvc,zwpu,z5m5,znih,zfa9,zf0q,zjj2,zm3y,zxft,zj3v,hlr,hln,hv1,h]
    exact ⟨k+1,z515 (by simp (disch:=first|omega|simp<;>omega|fail) [-zA,-zB,-zC,-zD,-zE,ptsD,atD]) (by simp (disch:=first|omega|simp<;>omega|fail) [-zA,-zB,-zC,-zD,-zE,hs]),by omega,by omega⟩
   ·cases v2
    ·have hs:=zbtn (a:=fun j=>R l s j i) (tk:=tkF l s i) (lg:=lgF l) (k:=k) (by rw [ht]; simp)
     have hs:nxF l s i k=nxF l s i (k+1):=hs
     simp (disch:=first|omega|simp<;>omega|fail) [-zA,-zB,-zC,-zD,-zE,hk1,hk2,hg,hy,zfvc,zwpu,z5m5,znih,zfa9,zf0q,zjj2,zm3y,zxft,zj3v,hlr,hln,hv1,hv2,h]
     exact ⟨k+1,z515 (by simp (disch:=first|omega|simp<;>omega|fail) [-zA,-zB,-zC,-zD,-zE,ptsD,atD]) (by simp (disch:=first|omega|simp<;>omega|fail) [-zA,-zB,-zC,-zD,-zE,hs]),by omega,by omega⟩
    ·cases v3
     ·have hs:=z0c8 (a:=fun j=>R l s j i) (tk:=tkF l s i) (lg:=lgF l) (k:=k) (m:=k+1) (by rw [ht,hv1]; rfl) (by rw [hlg]; rfl)
      have hset:(zkxs (nxF l s i k) l.length).set (k+1) true=zkxs (nxF l s i (k+1)) l.length:=by rw [zf5a]; exact congrArg (fun f=>zkxs f l.length) hs
      simp (disch:=first|omega|simp<;>omega|fail) [-zA,-zB,-zC,-zD,-zE,hk1,hk2,hg,hy,zfvc,zwpu,z5m5,znih,zfa9,zf0q,zjj2,zm3y,zxft,zj3v,hlr,hln,hv1,hv2,hv3,h,z8ev]
      exact ⟨k+1,z515 (by simp (disch:=first|omega|simp<;>omega|fail) [-zA,-zB,-zC,-zD,-zE,ptsD,atD]) (by simp (disch:=first|omega|simp<;>omega|fail) [-zA,-zB,-zC,-zD,-zE,hset]),by omega,by omega⟩
     ·have hs:=z0c8 (a:=fun j=>R l s j i) (tk:=tkF l s i) (lg:=lgF l) (k:=k) (m:=k) (by rw [ht,hv1]; rfl) (by rw [hlg]; rfl)
      have hset:(zkxs (nxF l s i k) l.length).set k true=zkxs (nxF l s i (k+1)) l.length:=by rw [zf5a]; exact congrArg (fun f=>zkxs f l.length) hs
      simp (disch:=first|omega|simp<;>omega|fail) [-zA,-zB,-zC,-zD,-zE,hk1,hk2,hg,hy,zfvc,zwpu,z5m5,znih,zfa9,zf0q,zjj2,zm3y,zxft,zj3v,hlr,hln,hv1,hv2,hv3,h,z8ev]
      exact ⟨k+1,z515 (by simp (disch:=first|omega|simp<;>omega|fail) [-zA,-zB,-zC,-zD,-zE,ptsD,atD]) (by simp (disch:=first|omega|simp<;>omega|fail) [-zA,-zB,-zC,-zD,-zE,hset]),by omega,by omega⟩
  ·have hk2:¬ (k:Int)<l.length:=by omega
   obtain rfl:k=l.length:=by omega
   simp (disch:=first|omega|simp<;>omega|fail) [-zA,-zB,-zC,-zD,-zE,hk2]
   have he0:nxF l s i l.length=epF l s i 0:=by rw [epF,znk5]
   refine zlm5 (S15d l s i pre) (fun k=>l.length-k) (fun k=>k≤l.length) 0 (z515 (by simp (disch:=first|omega|simp<;>omega|fail) [-zA,-zB,-zC,-zD,-zE,ptsD,atD]) (by simp (disch:=first|omega|simp<;>omega|fail) [-zA,-zB,-zC,-zD,-zE,he0])) (by omega) (fun k hk => ?_)
   have hln:=z4jn (epF l s i k) l.length
   simp (disch:=first|omega|simp<;>omega|fail) [-zA,-zB,-zC,-zD,-zE,zok9,ziu5,S15d,ptsD,atD]
   by_cases hk1:k<l.length
   ·have hk2:(k:Int)<l.length:=by omega
    have hg:=zhys hk1
    have hgd:l.getD k .dot=l[k]:=by rw [y00,y01 hk1]; rfl
    obtain ⟨y,hy⟩ : ∃ y,l[k]=y:=⟨_,rfl⟩
    rw [hy] at hgd
    obtain ⟨v1,hv1⟩ : ∃ v1,epF l s i k k=v1:=⟨_,rfl⟩
    have hfv:fin (nxF l s i l.length) (lgF l) k=v1:=by rw [← hv1,epF,z7e9]
    obtain ⟨v3,hv3⟩ : ∃ v3,y.long=v3:=⟨_,rfl⟩
    have hlg:lgF l k=v3:=by rw [lgF,hgd,hv3]
    cases v1
    ·have hs:=z017 (b:=nxF l s i l.length) (lg:=lgF l) (k:=k) (by rw [hfv]; rfl)
     have hs:epF l s i k=epF l s i (k+1):=hs
     simp (disch:=first|omega|simp<;>omega|fail) [-zA,-zB,-zC,-zD,-zE,hk1,hk2,hg,hy,zfvc,z5m5,zfa9,zf0q,zjj2,zm3y,zxft,zj3v,hln,hv1]
     exact ⟨k+1,z515 (by simp (disch:=first|omega|simp<;>omega|fail) [-zA,-zB,-zC,-zD,-zE,ptsD,atD]) (by simp (disch:=first|omega|simp<;>omega|fail) [-zA,-zB,-zC,-zD,-zE,hs]),by omega,by omega⟩
    ·cases v3
     ·have hs:=z017 (b:=nxF l s i l.length) (lg:=lgF l) (k:=k) (by rw [hlg]; simp)
      have hs:epF l s i k=epF l s i (k+1):=hs
      simp (disch:=first|omega|simp<;>omega|fail) [-zA,-zB,-zC,-zD,-zE,hk1,hk2,hg,hy,zfvc,z5m5,zfa9,zf0q,zjj2,zm3y,zxft,zj3v,hln,hv1,hv3]
      exact ⟨k+1,z515 (by simp (disch:=first|omega|simp<;>omega|fail) [-zA,-zB,-zC,-zD,-zE,ptsD,atD]) (by simp (disch:=first|omega|simp<;>omega|fail) [-zA,-zB,-zC,-zD,-zE,hs]),by omega,by omega⟩
     ·have hs:=zlyc (b:=nxF l s i l.length) (lg:=lgF l) (k:=k) (by rw [hfv,hlg]; rfl)
      have hset:(zkxs (epF l s i k) l.length).set (k+1) true=zkxs (epF l s i (k+1)) l.length:=by rw [zf5a]; exact congrArg (fun f=>zkxs f l.length) hs
      simp (disch:=first|omega|simp<;>omega|fail) [-zA,-zB,-zC,-zD,-zE,hk1,hk2,hg,hy,zfvc,z5m5,zfa9,zf0q,zjj2,zm3y,zxft,zj3v,hln,hv1,hv3,z8ev]
      exact ⟨k+1,z515 (by simp (disch:=first|omega|simp<;>omega|fail) [-zA,-zB,-zC,-zD,-zE,ptsD,atD]) (by simp (disch:=first|omega|simp<;>omega|fail) [-zA,-zB,-zC,-zD,-zE,hset]),by omega,by omega⟩
   ·have hk2:¬ (k:Int)<l.length:=by omega
    obtain rfl:k=l.length:=by omega
    have hep:=ztvc (l:=l) (s:=s) (i:=i)
    simp (disch:=first|omega|simp<;>omega|fail) [-zA,-zB,-zC,-zD,-zE,hk2]
    exact ⟨⟨i+1,pre++[.cells ((zkxs (fun j=>R l s j i) l.length).map DV.bool)]⟩,z515 (by simp (disch:=first|omega|simp<;>omega|fail) [-zA,-zB,-zC,-zD,-zE,ptsD,atD]) (by simp (disch:=first|omega|simp<;>omega|fail) [-zA,-zB,-zC,-zD,-zE,hep]),by show s.length-(i+1)<s.length-i; omega,by show i+1≤s.length; omega⟩
 ·have h1:¬ (i:Int)<s.length:=by omega
  obtain rfl:i=s.length:=by omega
  have hR:=z0fy l s s.length
  simp (disch:=first|omega|simp<;>omega|fail) [-zA,-zB,-zC,-zD,-zE,h1,zjj2,zj3v,hlr,z46z,hm,hR]
theorem zfpx (p s:List UInt8):Runs T76 a17 [.str p,.str s] (z46z p s):=by
 refine ⟨?_⟩
 cases hp:zfn1 p with
 | none =>
  have hm:zenh p s=false:=by rw [zenh,hp]
  simp (disch:=first|omega|simp<;>omega|fail) [-zA,-zB,-zC,-zD,-zE,a17,z6ci,zk5k,z8r4,hp,zoby,z46z,hm]
 | some l =>
 by_cases hs:zj1f s=true
 case neg =>
  have hs:zj1f s=false:=by simpa using hs
  have hm:zenh p s=false:=by rw [zenh,hp]; simp [hs]
  simp (disch:=first|omega|simp<;>omega|fail) [-zA,-zB,-zC,-zD,-zE,a17,z6ci,z6q8,zk5k,z8r4,hp,zoby,za1j,hs,z46z,hm]
 have hm:zenh p s=M l s l.length s.length:=by rw [zenh,hp]; simp [hs]
 have hsl:s.length≤200:=(zpps hs).2.1
 have hlp:=zxnm hp
 have hlc:=z4u6 l
 have hr0:=zfp3 (fun _=>true) l.length
 simp (disch:=first|omega|simp<;>omega|fail) [-zA,-zB,-zC,-zD,-zE,a17,z6ci,z6q8,zk5k,z8r4,hp,zoby,za1j,hs]
 refine zlm5 (S15a l s) (fun k=>l.length-k) (fun k=>k≤l.length ∧ ∀ j,j<k→(l.getD j .dot).long=true) 0 (z515 (by simp (disch:=first|omega|simp<;>omega|fail) [-zA,-zB,-zC,-zD,-zE,ptsD,atD]) (by simp (disch:=first|omega|simp<;>omega|fail) [-zA,-zB,-zC,-zD,-zE,hr0])) ⟨by omega,by intro j hj; omega⟩ (fun k hk => ?_)
 obtain ⟨hk1,hk2⟩:=hk
 have hli:=zht0 (fun _=>true) k l.length
 simp (disch:=first|omega|simp<;>omega|fail) [-zA,-zB,-zC,-zD,-zE,z4pl,zhcc,S15a,ptsD,atD]
 by_cases h:k<l.length
 ·have h1:(k:Int)<l.length:=by omega
  have hg:=zhys h
  have hgd:l.getD k .dot=l[k]:=by rw [y00,y01 h]; rfl
  by_cases hl:l[k].long=true
  ·have hset:=zaip (f:=fun _=>true) h
   simp (disch:=first|omega|simp<;>omega|fail) [-zA,-zB,-zC,-zD,-zE,h,h1,hg,zfvc,z5m5,zfa9,hl,z8ev,hli]
   refine ⟨k+1,z515 (by simp (disch:=first|omega|simp<;>omega|fail) [-zA,-zB,-zC,-zD,-zE,ptsD,atD]) (by simp (disch:=first|omega|simp<;>omega|fail) [-zA,-zB,-zC,-zD,-zE,hset]),by omega,by omega,fun j hj => ?_⟩
   by_cases e:j=k
   ·simp only [e,y01 h]; exact hl
   ·exact hk2 j (by omega)
  ·have hl:l[k].long=false:=by simpa using hl
   have hR:=z3rn (s:=s) hk2 (by rw [hgd]; exact hl)
   have hrow:=zelj (n:=l.length) hR
   simp (disch:=first|omega|simp<;>omega|fail) [-zA,-zB,-zC,-zD,-zE,h,h1,hg,zfvc,z5m5,zfa9,hl]
   exact z0ay p s l hm hsl hlp _ (z515 (by simp (disch:=first|omega|simp<;>omega|fail) [-zA,-zB,-zC,-zD,-zE,S15b,zrxb,ptsD,atD]) (by simp (disch:=first|omega|simp<;>omega|fail) [-zA,-zB,-zC,-zD,-zE,S15b,zrxb,hrow]))
 ·have h1:¬ (k:Int)<l.length:=by omega
  obtain rfl:k=l.length:=by omega
  have hgd:(l.getD l.length .dot).long=false:=by rw [y00,y0x (by omega)]; rfl
  have hR:=z3rn (s:=s) hk2 hgd
  have hrow:=zelj (n:=l.length) hR
  simp (disch:=first|omega|simp<;>omega|fail) [-zA,-zB,-zC,-zD,-zE,h1]
  exact z0ay p s l hm hsl hlp _ (z515 (by simp (disch:=first|omega|simp<;>omega|fail) [-zA,-zB,-zC,-zD,-zE,S15b,zrxb,ptsD,atD]) (by simp (disch:=first|omega|simp<;>omega|fail) [-zA,-zB,-zC,-zD,-zE,S15b,zrxb,hrow]))
end Go.Proofs.YtaihpefemjlilaaDoor
set_option linter.unusedSimpArgs false
set_option linter.unusedVariables false
namespace Go.Proofs.YtaihpefemjlilaaDoor
open Go Go.Am
def hVr (h:List AObj) (x:Q):List AObj:=h++[.cells (qC x)]
def hWr (h:List AObj) (B:Nat) (C:Came) (G:Nat) (L:List Q) (x:Q) (s:Stp):List AObj:=lA (zn2r (hVr h x) B (sM (C++[(x,s)]))) G L x
def gWr (h:List AObj) (x:Q) (s:Stp) (B:Nat) (C:Came) (G:Nat) (L:List Q):Nat:=lG (zn2r (hVr h x) B (sM (C++[(x,s)]))) G L
theorem zpe7 {h:List AObj} {B:Nat} {C:Came} {G:Nat} {L:List Q} {x:Q} {s:Stp} (q:LH (sM C) B G L h):LH (sM (C++[(x,s)])) B (gWr h x s B C G L) (L++[x]) (hWr h B C G L x s):=((q.app _).put _).snoc x
theorem z0zh (h:List AObj) (B:Nat) (C:Came) (G:Nat) (L:List Q) (x:Q) (s:Stp):Fr h G L (hWr h B C G L x s) (gWr h x s B C G L) (L++[x]):=((Fr.app h _ G L).trans (Fr.put _ B _ G L)).trans (Fr.snoc _ G L x)
theorem zzaq (h:List AObj) (B:Nat) (C:Came) (G:Nat) (L:List Q) (x:Q) (s:Stp) (hG:L≠[]→G<h.length):ziu0 (hWr h B C G L x s) h.length=some (qC x)∧(gWr h x s B C G L≠h.length)∧h.length<(hWr h B C G L x s).length:=by
 have e0:ziu0 (zn2r (hVr h x) B (sM (C++[(x,s)]))) h.length=some (qC x):=by
  rw [zgk8]
  have:=zzga (h:=h) (r:=[.cells (qC x)]) (id:=0)
  rw [y0i] at this
  exact this
 have e1:(zn2r (hVr h x) B (sM (C++[(x,s)]))).length=h.length+1:=by rw [zajq]; simp [hVr]
 have hf:=Fr.snoc (zn2r (hVr h x) B (sM (C++[(x,s)]))) G L x
 have hne:gWr h x s B C G L≠h.length:=by
  unfold gWr lG
  split
  ·omega
  ·rename_i q; have:=hG q; omega
 refine ⟨hf.at_ e0 (fun q=>by have:=hG q; omega),hne,?_⟩
 have:=hf.len
 unfold hWr
 omega
theorem z89o:mvOf (.bool true)=some (.one (.bool true)):=rfl
theorem z9c8:(MV.one (.bool true)).dv = .bool true:=rfl
theorem z9rj (C:Came) (x:Q) (s:Stp):sM C++[([(x.1:Int),(x.2.1:Int),(x.2.2:Int)],.one (.bool true))]=sM (C++[(x,s)]):=z4mz C x s
def sA (p q:List Pt) (B X:Nat) (v:DV) (h:List AObj):St:=⟨[v,.mapv B,.junk,pV p,pV q,.junk,.junk,.mp X 3 0]++js 66,h⟩
structure MidA (p q:List Pt) (B X:Nat) (v:DV) (h:List AObj) (e:AExit) (s:St):Prop where
 ex:e = .normal ∧ ∀ n0,Weak n0 s (sA p q B X v h)
theorem znzs (p q:List Pt) (hp:p.length≤200) (hq:q.length≤200) (B:Nat) : ∀ (n:Nat) (C:Came) (L:List Q) (x:Q) (s:Stp) (h:List AObj) (G:Nat),
  (p.length-x.1)+(q.length-x.2.1)<n→z4ew p.length q.length x→CL p.length q.length (C,L)→LH (sM C) B G L h →
  ∃ G' h',zwy1 P 38 [lV G L,.mapv B,.agg (qC x),pV p,pV q] h (fun d k=>d=lV G' (vis p q n C L x s).2∧k=h')∧LH (sM (vis p q n C L x s).1) B G' (vis p q n C L x s).2 h'∧Fr h G L h' G' (vis p q n C L x s).2
 | 0,C,L,x,s,h,G,hn,_,_,_=>absurd hn (by omega)
 | n+1,C,L,x,s,h,G,hn,hx,hc,hl=>by
  have hmo:=hl.mo
  have hlk:=zlaq C x
  simp only [qK] at hlk
  have vM : ∀ r,zfel (h++r) B=some (sM C):=fun r=>zjf6 r hmo
  cases hg:getC C x with
  | some v =>
   rw [ztmq (by simp [hg])]
   rw [hg] at hlk
   refine ⟨G,h++[.cells (qC x)],zybb Tryd.func38 zclx ?_,hl.app _,Fr.app _ _ _ _⟩
   refine V_W mix zx50 ?_
   simp (disch:=first|omega|simp<;>omega|fail) [-zA,-zB,-zC,-zD,-zE,a38,qC,zf0q,zjj2,zm3y,zxft,vM,hlk,lkD,z9c8,zeo3,zjwp,zpdr]
  | none =>
   rw [z5aj hg]
   rw [hg] at hlk
   have hL:L.length≤1000000:=by have h1:=hc.le; have h2:=hc.ci.len hp hq; simp only at h1 h2; omega
   have h1:=zpe7 (x:=x) (s:=s) hl
   have f1:=z0zh h B C G L x s
   obtain ⟨x1,x2,x3⟩:=zzaq h B C G L x s (fun e=>z4sf (hl.lo e))
   have c1:CL p.length q.length (C++[(x,s)],L++[x]):=⟨hc.ci.snoc hx hg,by have:=hc.le; simp at this ⊢; exact this⟩
   have happ:=zh68 (h:=zn2r (hVr h x) B (sM (C++[(x,s)]))) (G:=G) (L:=L) (x:=x) (fun e=>by rw [zgk8]; exact z7ko (hl.lo e)) hL
   change _=some (lV (gWr h x s B C G L) (L++[x]),hWr h B C G L x s) at happ
   generalize hh1:hWr h B C G L x s=k1 at h1 f1 x1 x3 happ
   generalize hg1:gWr h x s B C G L=G1 at h1 f1 x2 happ
   obtain ⟨b,hb⟩ : ∃ b,(if lgP p x.1=true then vis p q n (C++[(x,s)]) (L++[x]) (x.1+1,x.2.1,x.2.2) (x,0#8) else (C++[(x,s)],L++[x]))=b:=⟨_,rfl⟩
   obtain ⟨G2,k2,t1,t2,t3,t4,t5⟩ : ∃ G2 k2,(lgP p x.1=true→zwy1 P 38 [lV G1 (L++[x]),.mapv B,.agg (qC (x.1+1,x.2.1,x.2.2)),pV p,pV q] k1 (fun d k=>d=lV G2 b.2∧k=k2))∧(lgP p x.1=false→b.2=L++[x]∧G2=G1∧k2=k1)∧LH (sM b.1) B G2 b.2 k2∧Fr k1 G1 (L++[x]) k2 G2 b.2∧CL p.length q.length b:=by
    by_cases e:lgP p x.1=true
    ·rw [if_pos e] at hb
     have e':=e
     simp only [lgP,y04,decide_eq_true_eq] at e'
     have hbx:z4ew p.length q.length (x.1+1,x.2.1,x.2.2):=⟨by simp only; omega,hx.2.1,hx.2.2⟩
     obtain ⟨G2,k2,r1,r2,r3⟩:=znzs p q hp hq B n (C++[(x,s)]) (L++[x]) (x.1+1,x.2.1,x.2.2) (x,0#8) k1 G1 (by simp only; omega) hbx c1 h1
     have r4:=zlxe p q n (C++[(x,s)]) (L++[x]) (x.1+1,x.2.1,x.2.2) (x,0#8) c1 hbx
     rw [hb] at r1 r2 r3 r4
     exact ⟨G2,k2,fun _=>r1,(fun q=>by rw [q] at e; cases e),r2,r3,r4⟩
    ·rw [if_neg e] at hb
     subst hb
     exact ⟨G1,k1,fun q=>absurd q e,fun _=>⟨rfl,rfl,rfl⟩,h1,.refl _ _ _,c1⟩
   have x4:=t4.at_ x1 (fun _=>Ne.symm x2)
   have n3:b.2≠[]→h.length≠G2:=fun q e=>by
    rcases t4.new q with ⟨_,g2⟩|g
    ·exact x2 (e.trans g2).symm
    ·omega
   rw [hb]
   obtain ⟨d,hd⟩ : ∃ d,(if lgP q x.2.1=true then vis p q n b.1 b.2 (x.1,x.2.1+1,x.2.2) (x,0#8) else b)=d:=⟨_,rfl⟩
   obtain ⟨G3,k3,u1,u2,u3,u4⟩ : ∃ G3 k3,(lgP q x.2.1=true→zwy1 P 38 [lV G2 b.2,.mapv B,.agg (qC (x.1,x.2.1+1,x.2.2)),pV p,pV q] k2 (fun v k=>v=lV G3 d.2∧k=k3))∧(lgP q x.2.1=false→d.2=b.2∧G3=G2∧k3=k2)∧LH (sM d.1) B G3 d.2 k3∧Fr k2 G2 b.2 k3 G3 d.2:=by
    by_cases e:lgP q x.2.1=true
    ·rw [if_pos e] at hd
     have e':=e
     simp only [lgP,y04,decide_eq_true_eq] at e'
     have hbx:z4ew p.length q.length (x.1,x.2.1+1,x.2.2):=⟨hx.1,by simp only; omega,hx.2.2⟩
     obtain ⟨G3,k3,r1,r2,r3⟩:=znzs p q hp hq B n b.1 b.2 (x.1,x.2.1+1,x.2.2) (x,0#8) k2 G2 (by simp only; omega) hbx t5 t3
     rw [hd] at r1 r2 r3
     exact ⟨G3,k3,fun _=>r1,(fun q=>by rw [q] at e; cases e),r2,r3⟩
    ·rw [if_neg e] at hd
     subst hd
     exact ⟨G2,k2,fun q=>absurd q e,fun _=>⟨rfl,rfl,rfl⟩,t3,.refl _ _ _⟩
   simp only [hd]
   refine ⟨G3,k3,zybb Tryd.func38 zclx ?_,u3,(f1.trans t4).trans u4⟩
   clear u3 u4 t5
   have vX:objV k1 h.length 3=some (qC x):=zw28 x1 rfl
   have vX2:objV k2 h.length 3=some (qC x):=zw28 x4 rfl
   have vX0:objV (zn2r (hVr h x) B (sM (C++[(x,s)]))) h.length 3=some (qC x):=zw28 (by
    rw [zgk8]
    have:=zzga (h:=h) (r:=[.cells (qC x)]) (id:=0)
    rw [y0i] at this
    exact this) rfl
   simp only [a38]
   refine zbn1 (V_W mix zx50 ?_)
   simp (disch:=first|omega|simp<;>omega|fail) [-zA,-zB,-zC,-zD,-zE,qC]
   refine zbn1 (V_W mix zx50 ?_)
   simp (disch:=first|omega|simp<;>omega|fail) [-zA,-zB,-zC,-zD,-zE,zf0q,zjj2,zm3y,zxft,vM,hlk,lkD,zeo3,zjwp,zpdr]
   refine zbn1 (V_W mix zx50 ?_)
   simp (disch:=first|omega|simp<;>omega|fail) [-zA,-zB,-zC,-zD,-zE,zf0q,zjj2,zm3y,zxft,vM,hlk,lkD,zeo3,zjwp,zpdr,z89o,z9rj]
   refine zqfd (st':=⟨[lV G L,.mapv B,.junk,pV p,pV q,.junk,.junk,.mp h.length 3 0]++js 66,zn2r (hVr h x) B (sM (C++[(x,s)]))⟩) (z515 (by simp (disch:=first|omega|simp<;>omega|fail) [-zA,-zB,-zC,-zD,-zE]) (by simp (disch:=first|omega|simp<;>omega|fail) [-zA,-zB,-zC,-zD,-zE,hVr,qC,z9rj C x s])) ?_
   simp only [qC] at happ vX0 vX vX2
   refine zbn1 (V_W mix zx50 ?_)
   simp (disch:=first|omega|simp<;>omega|fail) [-zA,-zB,-zC,-zD,-zE,zjwp,vX0,happ]
   refine zqfd (st':=sA p q B h.length (lV G1 (L++[x])) k1) (z515 (by simp (disch:=first|omega|simp<;>omega|fail) [-zA,-zB,-zC,-zD,-zE,sA,pV]) (by simp (disch:=first|omega|simp<;>omega|fail) [-zA,-zB,-zC,-zD,-zE])) ?_
   simp only [sA]
   refine zbn1 (zftn (Φ:=MidA p q B h.length (lV G2 b.2) k2) (fun e st ⟨he,hw⟩ => ?_) ?_)
   ·subst he
    refine zqfd (hw _) ?_
    simp only [sA]
    by_cases e:x.2.1<q.length
    ·have e':(x.2.1:Int)<q.length:=by omega
     have hgc:=zhys e
     have hlg:=zl58 e
     cases hlo:q[x.2.1].long with
     | true =>
      rw [hlo] at hlg
      obtain ⟨TA,fA,sA,a1,a2,a3⟩:=exTH zx50 (u1 hlg)
      simp only [qC,pV] at a2
      push_cast at a2
      refine V_W mix sA ?_
      simp (disch:=first|omega|simp<;>omega|fail) [-zA,-zB,-zC,-zD,-zE,e',e,vX2,pV,hgc,zfvc,zjwp,zpdr,zfr7,a3,z5m5,zfa9,hlo,a1,a2]
     | false =>
      rw [hlo] at hlg
      obtain ⟨g0,g1,g2⟩:=u2 hlg
      refine V_W mix zx50 ?_
      simp (disch:=first|omega|simp<;>omega|fail) [-zA,-zB,-zC,-zD,-zE,e',e,vX2,pV,hgc,zfvc,zjwp,zpdr,z5m5,zfa9,hlo,g0,g1,g2]
    ·have e':¬ (x.2.1:Int)<q.length:=by omega
     obtain ⟨g0,g1,g2⟩:=u2 (zcgi e)
     refine V_W mix zx50 ?_
     simp (disch:=first|omega|simp<;>omega|fail) [-zA,-zB,-zC,-zD,-zE,e',vX2,pV,g0,g1,g2]
   ·by_cases e:x.1<p.length
    ·have e':(x.1:Int)<p.length:=by omega
     have hgc:=zhys e
     have hlg:=zl58 e
     cases hlo:p[x.1].long with
     | true =>
      rw [hlo] at hlg
      obtain ⟨TA,fA,sA,a1,a2,a3⟩:=exTH zx50 (t1 hlg)
      simp only [qC,pV] at a2
      push_cast at a2
      refine V_W mix sA ?_
      simp (disch:=first|omega|simp<;>omega|fail) [-zA,-zB,-zC,-zD,-zE,e',e,vX,pV,hgc,zfvc,zjwp,zpdr,zfr7,a3,z5m5,zfa9,hlo,a1,a2]
      exact ⟨rfl,fun _=>z515 (by simp (disch:=first|omega|simp<;>omega|fail) [-zA,-zB,-zC,-zD,-zE,sA,pV]) (by simp (disch:=first|omega|simp<;>omega|fail) [-zA,-zB,-zC,-zD,-zE])⟩
     | false =>
      rw [hlo] at hlg
      obtain ⟨g0,g1,g2⟩:=t2 hlg
      refine V_W mix zx50 ?_
      simp (disch:=first|omega|simp<;>omega|fail) [-zA,-zB,-zC,-zD,-zE,e',e,vX,pV,hgc,zfvc,zjwp,zpdr,z5m5,zfa9,hlo]
      exact ⟨rfl,fun _=>z515 (by simp (disch:=first|omega|simp<;>omega|fail) [-zA,-zB,-zC,-zD,-zE,sA,pV,g0,g1]) (by simp (disch:=first|omega|simp<;>omega|fail) [-zA,-zB,-zC,-zD,-zE,g2])⟩
    ·have e':¬ (x.1:Int)<p.length:=by omega
     obtain ⟨g0,g1,g2⟩:=t2 (zcgi e)
     refine V_W mix zx50 ?_
     simp (disch:=first|omega|simp<;>omega|fail) [-zA,-zB,-zC,-zD,-zE,e',vX,pV]
     exact ⟨rfl,fun _=>z515 (by simp (disch:=first|omega|simp<;>omega|fail) [-zA,-zB,-zC,-zD,-zE,sA,pV,g0,g1]) (by simp (disch:=first|omega|simp<;>omega|fail) [-zA,-zB,-zC,-zD,-zE,g2])⟩
end Go.Proofs.YtaihpefemjlilaaDoor
set_option linter.unusedSimpArgs false
set_option linter.unusedVariables false
namespace Go.Proofs.YtaihpefemjlilaaDoor
open Go Go.Am
theorem zk0r:TX 32 = .pure (cS z8r4):=by simp [TX,znm8]
structure LS (p q:List Pt) (B n G:Nat) (h:List AObj):Prop where
 so:ziu0 h 1=some [pV p,pV q,.mapv B]
 l:LH (cM (layN p q chP n).1) B G (layN p q chP n).2 h
 g:(layN p q chP n).2≠[]→1≠G
theorem LS.app {p q:List Pt} {B n G:Nat} {h:List AObj} (q':LS p q B n G h) (r:List AObj):LS p q B n G (h++r):=⟨z7ko q'.so,q'.l.app r,q'.g⟩
structure XL where
 n:Nat
 G:Nat
 h:List AObj
def sL (p q:List Pt) (p2:List Pt) (a:XL):St:=zk4k (pV p) (pV q) (.mp 1 3 0) (lV a.G (layN p p2 chP a.n).2) (.int .i64 a.n) a.h
structure RL (p q:List Pt) (B:Nat) (a:XL):Prop where
 le:a.n≤201
 no : ∀ m,m<a.n→gQ p q ∉ (layN p q chP m).2
 s:LS p q B a.n a.G a.h
theorem zhza {n0:Nat} {c:Opd} {x y:ACode} {Φ:AExit→St→Prop} {st:St} (hc:ev st.t c = .bool true) (h:awp P n0 x Φ st):awp P n0 (.cond c x y) Φ st:=by
 simp only [awp,hc]; exact ⟨fun _=>h,fun e=>by cases e⟩
theorem ztv2 {n0:Nat} {ops:List AOper} {y:ACode} {Φ:AExit→St→Prop} {st:St} (h:zysb P ops st (fun st=>awp P n0 y Φ st)):awp P n0 (.seq (.region false ops) y) Φ st:=by
 simp only [awp,y0m,if_false]; exact h
theorem z2d4 {v:DV} {d:Option Nat} {r:List AOper} {t:List DV} {h:List AObj} {Φ:St→Prop} (hs:zysb P r ⟨putT t d v,h⟩ Φ):zysb P (⟨none,d,.mov (.k v)⟩::r) ⟨t,h⟩ Φ:=hs
theorem zeh9 {T:Tbl} (hT:T.Sound P) {n0:Nat} {l:List AOper} {y:ACode} {t:List DV} {h:List AObj} {Φ:AExit→St→Prop} (hw:W T n0 (.region false l) (z2pk P n0 y Φ) ⟨t,h⟩):zysb P l ⟨t,h⟩ (fun st=>V P n0 y Φ st):=zvi1 hT hw
def zj3g:ACode := .seq (.region false [⟨none,(some 4),.mov (.k (.str []))⟩,⟨none,(some 5),.mov (.k (.bool false))⟩]) .ret
theorem zifp {p q:List Pt} {x:Q}:([(p.length:Int),(q.length:Int),3]=[(x.1:Int),(x.2.1:Int),(x.2.2:Int)])↔x=gQ p q:=by
 obtain ⟨a,b,c⟩:=x
 simp only [gQ,List.cons.injEq,Prod.mk.injEq,and_true]
 omega
theorem zsjb {p q:List Pt} {cs:Pt→Pt→List B8} : ∀ (l:List Q) (A:Came × List Q),CL p.length q.length A→(∀ x ∈ l,z4ew p.length q.length x)→CL p.length q.length (l.foldl (mvs p q cs) A)
 | [],A,h,_=>h
 | x::l,A,h,hb=>zsjb l _ (zrnz (hb x (by simp)) h) fun y hy=>hb y (by simp [hy])
structure RM (p q:List Pt) (L:List Q) (C:Came) (B:Nat) (h1:List AObj) (a:XL):Prop where
 le:a.n≤L.length
 l:LH (cM ((L.take a.n).foldl (mvs p q chP) (C,[])).1) B a.G ((L.take a.n).foldl (mvs p q chP) (C,[])).2 a.h
 f:Fr h1 0 [] a.h a.G ((L.take a.n).foldl (mvs p q chP) (C,[])).2
theorem z6ia (p q:List Pt) (hp:p.length≤200) (hq:q.length≤200) (lp:Lz p) (lq:Lz q) (B:Nat) (a0:XL) (h0:RL p q B a0):V P 0 (.block 0 (.loop zso2)) (z2pk P 0 zj3g (OvK [.tmp 4,.tmp 5] (ovV (ovP p q)))) (sL p q q a0):=by
 refine z3mo (ztbr (sL p q q) (fun a=>201-a.n) (RL p q B) a0 (z515 (by simp (disch:=first|omega|simp<;>omega|fail) [-zA,-zB,-zC,-zD,-zE,sL,zk4k]) (by simp (disch:=first|omega|simp<;>omega|fail) [-zA,-zB,-zC,-zD,-zE,sL,zk4k])) h0 (fun y hy => ?_))
 obtain ⟨n,G,h⟩:=y
 obtain ⟨r1,r2,r3⟩:=hy
 simp only at r1 r2 r3
 have hz:=z3f2 lp lq
 have hI:=z35k p q hp hq hz n
 simp only [sL,zk4k,zso2]
 by_cases hn:n≤200
 case neg =>
  have hn':¬ (n:Int)≤200:=by omega
  have hov:ovP p q=none:=by
   unfold ovP
   have:zu3v (hit p q chP) 201 0=none:=znfn 201 0 fun i _ hi=>decide_eq_false (r2 i (by omega))
   rw [this]; rfl
  refine zbn1 (V_W mix zume ?_)
  simp (disch:=first|omega|simp<;>omega|fail) [-zA,-zB,-zC,-zD,-zE,hn',hn]
  refine V_W mix zume ?_
  simp (disch:=first|omega|simp<;>omega|fail) [-zA,-zB,-zC,-zD,-zE,zj3g,zukd,hov,ovV]
 have hn':(n:Int)≤200:=by omega
 refine zbn1 (V_W mix zume ?_)
 simp (disch:=first|omega|simp<;>omega|fail) [-zA,-zB,-zC,-zD,-zE,hn',hn]
 refine zbn1 (z3mo ?_)
 refine zbn1 (V_W mix zume ?_)
 simp (disch:=first|omega|simp<;>omega|fail) [-zA,-zB,-zC,-zD,-zE]
 obtain ⟨so,⟨mo,lo⟩,g1⟩:=r3
 have hok:hit p q chP n=decide (gQ p q ∈ (layN p q chP n).2):=rfl
 have hbox : ∀ x ∈ (layN p q chP n).2,z4ew p.length q.length x:=fun x hx=>z49r hI.cl.ci (hI.len x hx).1
 have hfnd:gQ p q ∈ (layN p q chP n).2→ovP p q=some (wd (layN p q chP n).1 (gQ p q)):=fun hm=>by
  have:zu3v (hit p q chP) 201 0=some n:=zgjx 201 0 (Nat.zero_le _) (by omega) (fun i _ hi=>decide_eq_false (r2 i hi)) (decide_eq_true hm)
  unfold ovP
  rw [this]; rfl
 have hwd:gQ p q ∈ (layN p q chP n).2→(wd (layN p q chP n).1 (gQ p q)).length≤200∧wd (layN p q chP n).1 (gQ p q)≠[]∧gQ p q ∈ kC (layN p q chP n).1:=fun hm=>by
  have h1:=z5xa hp hq hz hn hm
  have h2:=z7x9.1 h1.c
  exact ⟨h2.2.2,fun e=>by rw [e] at h2; simp [nmF] at h2,(hI.len _ hm).1⟩
 have hgood:=hI.good
 have hnd:(kC (layN p q chP n).1).Nodup:=hI.cl.ci.nd
 have hLb:(layN p q chP n).2.length≤161604:=by have h1:=hI.cl.le; have h2:=hI.cl.ci.len hp hq; omega
 have hlen:=ztqr lo
 have hidx:=fun (i:Nat) (hi:i<(layN p q chP n).2.length) (r:List AObj)=>zjsa (h:=h++r) (fun e=>z7ko (lo e)) hi
 have hvL:=fun (r:List AObj) (e:(layN p q chP n).2≠[])=>zw28 (z7ko (r:=r) (lo e)) (zsql _)
 generalize hA:layN p q chP n=A at *
 obtain ⟨C,L⟩:=A
 simp only at *
 refine zbn1 (zbn1 (V_W mix zume ?_))
 simp (disch:=first|omega|simp<;>omega|fail) [-zA,-zB,-zC,-zD,-zE,hlen]
 refine z3mo (ztbr (fun a:Nat × List AObj=>zqdd (pV p) (pV q) (.mp 1 3 0) (lV G L) (.int .i64 n) .nils (lV G L) (.int .i64 L.length) (.int .i64 a.1) (h++a.2)) (fun a=>L.length-a.1) (fun a=>a.1≤L.length ∧ ∀ u (hu:u<L.length),u<a.1→L[u]≠gQ p q) (0,[]) (z515 (by simp (disch:=first|omega|simp<;>omega|fail) [-zA,-zB,-zC,-zD,-zE,zqdd]) (by simp (disch:=first|omega|simp<;>omega|fail) [-zA,-zB,-zC,-zD,-zE,zqdd])) ⟨by simp,fun u _ h=>by simp at h⟩ (fun y hy => ?_))
 obtain ⟨i,r⟩:=y
 obtain ⟨q1,q2⟩:=hy
 simp only at q1 q2
 simp only [zqdd,zf22]
 by_cases hi:i<L.length
 ·have hi':(i:Int)<L.length:=by omega
  have hne:L≠[]:=fun e=>by rw [e] at hi; simp at hi
  have ceq:z32s (zi5g [(3,0)]) [.int .i64 L[i].1,.int .i64 L[i].2.1,.int .i64 L[i].2.2] [.int .i64 p.length,.int .i64 q.length,.int .i64 3]=some (decide ([(p.length:Int),(q.length:Int),3]=[(L[i].1:Int),(L[i].2.1:Int),(L[i].2.2:Int)])):=zztg _ _ _ _ _ _
  have hgl:=z45p hi
  have hix:=hidx i hi r
  have hvl:=hvL r hne
  simp only [qC] at hgl
  refine zbn1 (V_W mix zume ?_)
  simp (disch:=first|omega|simp<;>omega|fail) [-zA,-zB,-zC,-zD,-zE,hi',hi]
  refine zbn1 (V_W mix zume ?_)
  simp (disch:=first|omega|simp<;>omega|fail) [-zA,-zB,-zC,-zD,-zE]
  refine zbn1 (z3mo ?_)
  refine zbn1 (V_W mix zume ?_)
  simp (disch:=first|omega|simp<;>omega|fail) [-zA,-zB,-zC,-zD,-zE,hix,hvl,hgl,zf0q,zjj2,zm3y,zxft,z8we,zjwp]
  by_cases he:L[i]=gQ p q
  ·have hm:gQ p q ∈ L:=he▸y07 hi
   rw [decide_eq_true (zifp.2 he)] at ceq
   refine zbn1 (V_W mix zume ?_)
   simp (disch:=first|omega|simp<;>omega|fail) [-zA,-zB,-zC,-zD,-zE,zf0q,zjj2,zjwp,zlwt,ceq,pV]
   obtain ⟨w1,w2,w3⟩:=hwd hm
   have hcp:zwy1 P 34 [.mp 1 3 0,.agg (qC L[i])] (h++(r++[.cells (qC L[i])])) (fun d _=>d = .str (wd C (gQ p q))):=by
    rw [he]
    exact zhku p q 1 B C (gQ p q) _ (pV p) (pV q) hgood hnd w3 w1 w2 (z7ko so) (zjf6 _ mo)
   rw [hfnd hm]
   refine zd9i mix (zhza rfl (ztv2 (z637 (zsk7 (v := .agg (qC L[i])) ?_ (zgb5 rfl hcp fun v k hv => ?_)))))
   ·rw [zq2d]
    simp (disch:=first|omega|simp<;>omega|fail) [-zA,-zB,-zC,-zD,-zE,zf0q,zjj2,zjwp,qC]
   ·subst hv
    refine z637 (z2d4 ?_)
    simp (disch:=first|omega|simp<;>omega|fail) [-zA,-zB,-zC,-zD,-zE,zysb,awp,zukd,ovV]
  ·rw [decide_eq_false (fun e=>he (zifp.1 e))] at ceq
   refine V_W mix zume ?_
   simp (disch:=first|omega|simp<;>omega|fail) [-zA,-zB,-zC,-zD,-zE,zf0q,zjj2,zjwp,zlwt,ceq,pV]
   refine V_W mix zume ?_
   simp (disch:=first|omega|simp<;>omega|fail) [-zA,-zB,-zC,-zD,-zE]
   refine ⟨i+1,⟨r++[.cells (qC L[i])],z515 (by simp (disch:=first|omega|simp<;>omega|fail) [-zA,-zB,-zC,-zD,-zE,pV]) (by simp (disch:=first|omega|simp<;>omega|fail) [-zA,-zB,-zC,-zD,-zE,qC])⟩,by omega,by omega,fun u hu hui => ?_⟩
   by_cases e:u=i
   ·subst e; exact he
   ·exact q2 u hu (by omega)
 ·have hi':¬ (i:Int)<L.length:=by omega
  have hno:gQ p q ∉ L:=fun hm=>by
   obtain ⟨u,hu,e⟩:=List.getElem_of_mem hm
   exact q2 u hu (by omega) e
  have hlr:=ztqr (h:=h++r) (G:=G) (L:=L) (fun e=>z7ko (lo e))
  refine zbn1 (V_W mix zume ?_)
  simp (disch:=first|omega|simp<;>omega|fail) [-zA,-zB,-zC,-zD,-zE,hi',hi]
  refine zbn1 (V_W mix zume ?_)
  simp (disch:=first|omega|simp<;>omega|fail) [-zA,-zB,-zC,-zD,-zE]
  refine zbn1 (zbn1 (V_W mix zume ?_))
  simp (disch:=first|omega|simp<;>omega|fail) [-zA,-zB,-zC,-zD,-zE,hlr]
  have hls:LH (cM C) B G L (h++r):=⟨zjf6 _ mo,fun e=>z7ko (lo e)⟩
  have hso:=z7ko (r:=r) so
  generalize h++r=h1 at hls hso
  refine z3mo (ztbr (fun a:XL=>z7k1 (pV p) (pV q) (.mp 1 3 0) (.int .i64 n) (lV a.G ((L.take a.n).foldl (mvs p q chP) (C,[])).2) (lV G L) (.int .i64 L.length) (.int .i64 a.n) a.h) (fun a=>L.length-a.n) (RM p q L C B h1) ⟨0,0,h1⟩ (z515 (by simp (disch:=first|omega|simp<;>omega|fail) [-zA,-zB,-zC,-zD,-zE,z7k1,zg8e]) (by simp (disch:=first|omega|simp<;>omega|fail) [-zA,-zB,-zC,-zD,-zE,z7k1])) ⟨by simp,⟨hls.mo,fun e=>absurd rfl e⟩,.refl _ _ _⟩ (fun y hy => ?_))
  obtain ⟨j,G2,h2⟩:=y
  obtain ⟨u1,u2,u3⟩:=hy
  simp only at u1 u2 u3
  have nil1 : ∀ k:Nat,(([]:List Q)≠[]→k≠0):=fun k e=>absurd rfl e
  have so2:=u3.at_ hso (nil1 1)
  have lo2:L≠[]→ziu0 h2 G=some (lC L):=fun e=>u3.at_ (hls.lo e) (nil1 G)
  have l1:1<h1.length:=z4sf hso
  simp only [z7k1,z2ml]
  by_cases hj:j<L.length
  ·have hj':(j:Int)<L.length:=by omega
   have hne:L≠[]:=fun e=>by rw [e] at hj; simp at hj
   have htk:L.take (j+1)=L.take j++[L[j]]:=zmqh hj
   have hstep:(L.take (j+1)).foldl (mvs p q chP) (C,[])=mvs p q chP ((L.take j).foldl (mvs p q chP) (C,[])) L[j]:=by rw [htk,y0g]; rfl
   have hcl:CL p.length q.length ((L.take j).foldl (mvs p q chP) (C,[])):=zsjb _ _ ⟨hI.cl.ci,by simp⟩ fun x hx=>hbox x (y10 hx)
   have hgl:=z45p hj
   have hix:=zjsa (h:=h2) lo2 hj
   have hvl:objV h2 G (L.length*3)=some (lC L):=zw28 (lo2 hne) (zsql L)
   have nS:((L.take j).foldl (mvs p q chP) (C,[])).2≠[]→1≠G2:=fun e q=>by
    rcases u3.new e with ⟨q1,_⟩|q1
    ·exact q1 rfl
    ·omega
   generalize hN:(L.take j).foldl (mvs p q chP) (C,[])=N at *
   have hmv:=z0la p q hp hq 1 B N.1 N.2 L[j] (h2++[.cells (qC L[j])]) G2 (hbox _ (y07 hj)) hcl (u2.app _) (z7ko so2) nS
   simp only [qC] at hgl
   refine zbn1 (V_W mix zume ?_)
   simp (disch:=first|omega|simp<;>omega|fail) [-zA,-zB,-zC,-zD,-zE,hj',hj]
   refine zbn1 (V_W mix zume ?_)
   simp (disch:=first|omega|simp<;>omega|fail) [-zA,-zB,-zC,-zD,-zE]
   refine zbn1 (z3mo ?_)
   refine zbn1 (V_W mix zume ?_)
   simp (disch:=first|omega|simp<;>omega|fail) [-zA,-zB,-zC,-zD,-zE,hix,hvl,hgl,zf0q,zjj2,zm3y,zxft,z8we,zjwp]
   refine zd9i mix ?_
   simp only [awp,y0m,if_false]
   refine z637 (z637 (zsk7 (v := .agg (qC L[j])) ?_ (zgb5 rfl hmv fun v k hv => ?_)))
   ·rw [zq2d]
    simp (disch:=first|omega|simp<;>omega|fail) [-zA,-zB,-zC,-zD,-zE,zf0q,zjj2,zjwp,qC]
   ·obtain ⟨G3,rfl,v2,v3⟩:=hv
    refine z637 ?_
    simp (disch:=first|omega|simp<;>omega|fail) [-zA,-zB,-zC,-zD,-zE,zysb]
    have e1:mvs p q chP (N.1,N.2) L[j]=(L.take (j+1)).foldl (mvs p q chP) (C,[]):=hstep.symm
    rw [e1] at v2 v3 ⊢
    refine V_W mix zume ?_
    simp (disch:=first|omega|simp<;>omega|fail) [-zA,-zB,-zC,-zD,-zE]
    exact ⟨⟨j+1,G3,k⟩,z515 (by simp (disch:=first|omega|simp<;>omega|fail) [-zA,-zB,-zC,-zD,-zE]) (by simp (disch:=first|omega|simp<;>omega|fail) [-zA,-zB,-zC,-zD,-zE]),by simp only; omega,⟨by simp only; omega,v2,(u3.trans (Fr.app _ _ _ _)).trans v3⟩⟩
  ·have hj':¬ (j:Int)<L.length:=by omega
   have hfull:(L.take j).foldl (mvs p q chP) (C,[])=layN p q chP (n+1):=by
    rw [y03 (by omega)]
    show _=lay p q chP (layN p q chP n)
    rw [hA]; rfl
   rw [hfull] at u2 u3
   have nS:(layN p q chP (n+1)).2≠[]→1≠G2:=fun e q=>by
    rcases u3.new e with ⟨q1,_⟩|q1
    ·exact q1 rfl
    ·omega
   refine zbn1 (V_W mix zume ?_)
   simp (disch:=first|omega|simp<;>omega|fail) [-zA,-zB,-zC,-zD,-zE,hj',hj]
   refine zbn1 (V_W mix zume ?_)
   simp (disch:=first|omega|simp<;>omega|fail) [-zA,-zB,-zC,-zD,-zE]
   rw [hfull]
   refine V_W mix zume ?_
   simp (disch:=first|omega|simp<;>omega|fail) [-zA,-zB,-zC,-zD,-zE]
   refine V_W mix zume ?_
   simp (disch:=first|omega|simp<;>omega|fail) [-zA,-zB,-zC,-zD,-zE]
   refine ⟨⟨n+1,G2,h2⟩,z515 (by simp (disch:=first|omega|simp<;>omega|fail) [-zA,-zB,-zC,-zD,-zE,sL,zk4k]) (by simp (disch:=first|omega|simp<;>omega|fail) [-zA,-zB,-zC,-zD,-zE,sL,zk4k]),by simp only; omega,⟨by simp only; omega,fun m hm => ?_,⟨so2,u2,nS⟩⟩⟩
   have hm:m<n+1:=hm
   by_cases e:m=n
   ·subst e; rw [hA]; exact hno
   ·exact r2 m (by omega)
theorem z4ii {f g:Bool} {s n m k:Nat} {a b:List DV} {B:Nat}:zvnk [.nils,.nils,.nilm] [(0,1,.sl f s n a),(1,1,.sl g m k b),(2,1,.mapv B)]=some (.agg [.sl f s n a,.sl g m k b,.mapv B]):=rfl
theorem ze35 (s t:List UInt8):Am.Sem P 14 [.str s,.str t] (ovV (ovD s t)):=by
 cases hp:zfn1 s with
 | none =>
  have hd:ovD s t=none:=by unfold ovD; rw [hp]
  rw [hd]
  refine znz9 Tryd.func14 zzfl (V_W mix zume ?_)
  cases hq:zfn1 t with
  | none=>simp (disch:=first|omega|simp<;>omega|fail) [-zA,-zB,-zC,-zD,-zE,a14,zk0r,zk5k,z8r4,hp,hq,zoby,ovV]
  | some q=>simp (disch:=first|omega|simp<;>omega|fail) [-zA,-zB,-zC,-zD,-zE,a14,zk0r,zk5k,z8r4,hp,hq,zoby,ovV]
 | some p =>
  cases hq:zfn1 t with
  | none =>
   have hd:ovD s t=none:=by unfold ovD; rw [hp,hq]
   rw [hd]
   refine znz9 Tryd.func14 zzfl (V_W mix zume ?_)
   simp (disch:=first|omega|simp<;>omega|fail) [-zA,-zB,-zC,-zD,-zE,a14,zk0r,zk5k,z8r4,hp,hq,zoby,ovV]
  | some q =>
   have hd:ovD s t=ovP p q:=by unfold ovD; rw [hp,hq]
   have lp:=zxnm hp
   have lq:=zxnm hq
   have hz:=z3f2 (z590 hp) (z590 hq)
   have hpu:zyp8 (ovV (ovP p q))=true:=by cases ovP p q<;>rfl
   rw [hd]
   refine znz9 Tryd.func14 zzfl (zftn (OvK.pure hpu) ?_)
   simp only [a14]
   refine zbn1 (V_W mix zume ?_)
   simp (disch:=first|omega|simp<;>omega|fail) [-zA,-zB,-zC,-zD,-zE]
   refine zbn1 (V_W mix zume ?_)
   simp (disch:=first|omega|simp<;>omega|fail) [-zA,-zB,-zC,-zD,-zE,zk0r,zk5k,z8r4,hp,zoby]
   refine zbn1 (V_W mix zume ?_)
   simp (disch:=first|omega|simp<;>omega|fail) [-zA,-zB,-zC,-zD,-zE,zk0r,zk5k,z8r4,hq,zoby]
   refine zbn1 (V_W mix zume ?_)
   simp (disch:=first|omega|simp<;>omega|fail) [-zA,-zB,-zC,-zD,-zE]
   refine zh35 (l1:=[⟨none,some 34,.mov (.t 6)⟩,⟨none,some 35,.mov (.t 8)⟩]) (fun e t h h' q=>⟨q.out⟩) ?_
   refine z637 (z637 ?_)
   intro b hb
   clear hb
   refine zeh9 zume ?_
   simp (disch:=first|omega|simp<;>omega|fail) [-zA,-zB,-zC,-zD,-zE,z4ii]
   refine zqfd (st':=⟨js 6++[pV p,.junk,pV q,.junk,.mp 1 3 0]++js 65,[.mapo b [],.cells [pV p,pV q,.mapv b]]⟩) (z515 (by simp (disch:=first|omega|simp<;>omega|fail) [-zA,-zB,-zC,-zD,-zE,pV]) (by simp (disch:=first|omega|simp<;>omega|fail) [-zA,-zB,-zC,-zD,-zE,pV])) ?_
   have h0:CL p.length q.length ([],[]):=⟨⟨fun e he=>by simp at he,by simp⟩,by simp⟩
   obtain ⟨G',k,c1,c2,c3⟩:=zapw p q lp lq 1 b fu [] [] oQ (oQ,0#8) [.mapo b [],.cells [pV p,pV q,.mapv b]] 0 (by unfold fu oQ; simp only; omega) ⟨by simp [oQ],by simp [oQ],by simp [oQ]⟩ h0 ⟨by simp [zfel,cM],fun e=>absurd rfl e⟩ rfl (fun e=>absurd rfl e)
   have e0:vis p q fu [] [] oQ (oQ,0#8)=layN p q chP 0:=rfl
   rw [e0] at c1 c2 c3
   have c4:=c3.at_ (id:=1) (l:=[pV p,pV q,.mapv b]) rfl (fun e=>absurd rfl e)
   have c5:(layN p q chP 0).2≠[]→1≠G':=fun e q'=>by
    rcases c3.new e with ⟨q1,_⟩|q1
    ·exact q1 rfl
    ·simp at q1; omega
   obtain ⟨TA,fA,sA,a1,a2,a3⟩:=exTH zume c1
   have b3:zvnk [DV.int .i64 0,.int .i64 0,.int .i64 0] []=some (.agg [.int .i64 0,.int .i64 0,.int .i64 0]):=rfl
   have b4:zvnk [DV.int .i64 0,.int .i64 0,.int .i64 0,w8 0#8] []=some (.agg [.int .i64 0,.int .i64 0,.int .i64 0,w8 0#8]):=rfl
   simp only [qC,stC,oQ,zg8e,Int.natCast_zero] at a2
   refine zbn1 (V_W mix sA ?_)
   simp (disch:=first|omega|simp<;>omega|fail) [-zA,-zB,-zC,-zD,-zE,b3,b4,a1,a2]
   refine zbn1 (zbn1 (V_W mix zume ?_))
   simp (disch:=first|omega|simp<;>omega|fail) [-zA,-zB,-zC,-zD,-zE]
   refine zqfd (st':=sL p q q ⟨0,G',k⟩) (z515 (by simp (disch:=first|omega|simp<;>omega|fail) [-zA,-zB,-zC,-zD,-zE,sL,zk4k]) (by simp (disch:=first|omega|simp<;>omega|fail) [-zA,-zB,-zC,-zD,-zE,sL,zk4k])) ?_
   exact z6ia p q lp lq (z590 hp) (z590 hq) b ⟨0,G',k⟩ ⟨by simp,fun m hm=>by simp at hm,⟨c4,c2,c5⟩⟩
end Go.Proofs.YtaihpefemjlilaaDoor
set_option linter.unusedSimpArgs false
set_option linter.unusedVariables false
namespace Go.Proofs.YtaihpefemjlilaaDoor
open Go Go.Am
def aftD (k:Nat) (c:B8):DV:=match aft k c with
 | some n => .int .i64 n
 | none => .int .i64 (-1)
theorem zhow (k:Nat) (c:B8) (hk:k≤3):Runs tbl0 a39 [.int .i64 k,w8 c] (aftD k c):=by
 refine ⟨?_⟩
 by_cases h1:c=47#8
 ·have h1q:(c == 47#8)=true:=by simp [h1]
  by_cases h2:k=3
  ·have h2':(k:Int)=3:=by omega
   simp (disch:=first|omega|simp<;>omega|fail) [-zA,-zB,-zC,-zD,-zE,a39,h1,h1q,h2,h2',aftD,aft]
  ·have h2':¬ (k:Int)=3:=by omega
   simp (disch:=first|omega|simp<;>omega|fail) [-zA,-zB,-zC,-zD,-zE,a39,h1,h1q,h2,h2',aftD,aft]
 ·have h1q:(c == 47#8)=false:=by simp [h1]
  by_cases h3:c=46#8
  ·have h3q:(c == 46#8)=true:=by simp [h3]
   by_cases h2:k=3
   ·have h2':¬ (k:Int)<2:=by omega
    have h2'':¬ k<2:=by omega
    simp (disch:=first|omega|simp<;>omega|fail) [-zA,-zB,-zC,-zD,-zE,a39,h1,h1q,h2,h2',h2'',h3,h3q,aftD,aft]
   ·by_cases h4:k<2
    ·have h2':(k:Int)<2:=by omega
     simp (disch:=first|omega|simp<;>omega|fail) [-zA,-zB,-zC,-zD,-zE,a39,h1,h1q,h2,h2',h4,h3,h3q,aftD,aft]
    ·have h2':¬ (k:Int)<2:=by omega
     obtain rfl:k=2:=by omega
     simp (disch:=first|omega|simp<;>omega|fail) [-zA,-zB,-zC,-zD,-zE,a39,h1,h1q,h2,h2',h4,h3,h3q,aftD,aft]
  ·have h3q:(c == 46#8)=false:=by simp [h3]
   simp (disch:=first|omega|simp<;>omega|fail) [-zA,-zB,-zC,-zD,-zE,a39,h1,h1q,h3,h3q,aftD,aft]
noncomputable def cAft:List DV→Option DV:=con (fun a:Nat × B8=>a.1≤3) (fun a=>[.int .i64 a.1,w8 a.2]) (fun a=>aftD a.1 a.2)
theorem z1wy {k:Nat} {c:B8} (h:k≤3):cAft [.int .i64 k,w8 c]=some (aftD k c) :=
 z400 (A:=fun a:Nat × B8=>a.1≤3) (a:=(k,c)) (f:=fun a=>[.int .i64 a.1,w8 a.2]) (g:=fun a=>aftD a.1 a.2) (by
  rintro ⟨a,b⟩ ⟨c,d⟩ _ _ e
  simp only [List.cons.injEq,DV.int.injEq,z21y,and_true,true_and] at e
  obtain ⟨e1,rfl⟩:=e
  have:a=c:=by omega
  subst this; rfl) h
theorem zjyj : ∀ {l m:List Pt},z6j5 l=z6j5 m→l=m
 | [],[],_=>rfl
 | [],y::m,h=>by simp [z6j5,ptC] at h
 | x::l,[],h=>by simp [z6j5,ptC] at h
 | x::l,y::m,h=>by
  have h':ptC x++z6j5 l=ptC y++z6j5 m:=h
  obtain ⟨h1,h2⟩:=List.append_inj h' rfl
  rw [zq5p h1,zjyj h2]
theorem zkrx {l m:List Pt} (h:pV l=pV m):l=m:=by
 unfold pV at h
 simp only [DV.sl.injEq] at h
 exact zjyj h.2.2.2
theorem ztut (l:List Pt) (i:Nat) (hi:i<l.length) (hl:l.length≤200):Runs T76 a41 [pV l,.int .i64 i] (.int .i64 (adv l i)):=by
 refine ⟨?_⟩
 have hi':(i:Int)<l.length:=by omega
 have hg:=zhys hi
 have hd:l.getD i .dot=l[i]:=by rw [y00,y01 hi]; rfl
 cases hlo:l[i].long with
 | true=>simp (disch:=first|omega|simp<;>omega|fail) [-zA,-zB,-zC,-zD,-zE,a41,pV,hi',hi,hg,zfvc,z5m5,zfa9,hlo,adv,hd]
 | false=>simp (disch:=first|omega|simp<;>omega|fail) [-zA,-zB,-zC,-zD,-zE,a41,pV,hi',hi,hg,zfvc,z5m5,zfa9,hlo,adv,hd]
noncomputable def zvdq:List DV→Option DV:=con (fun a:List Pt × Nat=>a.2<a.1.length∧a.1.length≤200) (fun a=>[pV a.1,.int .i64 a.2]) (fun a => .int .i64 (adv a.1 a.2))
theorem zzfj {l:List Pt} {i:Nat} (h:i<l.length) (hl:l.length≤200):zvdq [pV l,.int .i64 i]=some (.int .i64 (adv l i)) :=
 z400 (A:=fun a:List Pt × Nat=>a.2<a.1.length∧a.1.length≤200) (a:=(l,i)) (f:=fun a=>[pV a.1,.int .i64 a.2]) (g:=fun a => .int .i64 (adv a.1 a.2)) (by
  rintro ⟨a,b⟩ ⟨c,d⟩ _ _ e
  simp only [List.cons.injEq,DV.int.injEq,and_true,true_and] at e
  obtain ⟨e1,e2⟩:=e
  have:b=d:=by omega
  rw [zkrx e1,this]) ⟨h,hl⟩
end Go.Proofs.YtaihpefemjlilaaDoor
set_option linter.unusedSimpArgs false
set_option linter.unusedVariables false
namespace Go.Proofs.YtaihpefemjlilaaDoor
open Go Go.Am
def z3sd:List UInt8:=[47,46]
def addL (e:List UInt8) (c:UInt8):List UInt8:=if (z3sd++e).contains c=true then e else e++[c]
def lO (e:List UInt8):DV:=if e=[] then .sl true 1 2 [w8 47#8,w8 46#8] else .ms 0 (e.length+2) 0 1 (e.length+2) (e.length+2)
def lH (e:List UInt8):List AObj:=if e=[] then [] else [.cells (bC (z3sd++e))]
theorem znca:lO [] = .sl true 1 2 [w8 47#8,w8 46#8]:=rfl
theorem zqgg:lH []=[]:=rfl
theorem z0yu (e:List UInt8):z9pr (bC (z3sd++e))=some (z3sd++e):=zf6e _
theorem zp97 (e:List UInt8):visS (lH e) (lO e)=some (e.length+2,bC (z3sd++e)):=by
 by_cases h:e=[]
 ·subst h; rfl
 ·unfold lO lH
  rw [if_neg h,if_neg h,zeq9]
  have hl:(bC (z3sd++e)).length=e.length+2:=by rw [z4gq]; simp [z3sd]
  have:objV [AObj.cells (bC (z3sd++e))] 0 (e.length+2)=some (bC (z3sd++e)):=zw28 rfl hl
  rw [this]
  simp [y03,hl]
theorem zl6u (e:List UInt8) (c:UInt8) (he:e.length≤1000):appX (lH e) 1 1 (lO e) 1 [w8 c.toBitVec]=some (lO (e++[c]),lH (e++[c])):=by
 by_cases h:e=[]
 ·subst h
  rw [znca,zqgg,ztup (by omega) (by omega) (by simp) (by omega) (by omega)]
  simp [lO,lH,bC,z3sd,lb]
 ·unfold lO lH
  rw [if_neg h,if_neg h,if_neg (by simp),if_neg (by simp)]
  have hl:(bC (z3sd++e)).length=e.length+2:=by rw [z4gq]; simp [z3sd]
  have hv:objV [AObj.cells (bC (z3sd++e))] 0 (e.length+2)=some (bC (z3sd++e)):=zw28 rfl hl
  have h1:=zbho (h:=[AObj.cells (bC (z3sd++e))]) (id:=0) (ver:=e.length+2) (s:=1) (n:=e.length+2) (b:=1) (m:=1) (cs:=[w8 c.toBitVec]) (by omega) (by omega) (by omega) (by simp) (by omega) (by simp)
  rw [h1,hv]
  simp [bC,lb]
theorem z7mg {e:List UInt8} (h:e≠[]):snap (lH e) 3 (lO e)=some (.sl false 1 (e.length+2) (bC (z3sd++e))):=by
 unfold lO lH
 rw [if_neg h,if_neg h]
 have hl:(bC (z3sd++e)).length=e.length+2:=by rw [z4gq]; simp [z3sd]
 have hv:objV [AObj.cells (bC (z3sd++e))] 0 (e.length+2)=some (bC (z3sd++e)):=zw28 rfl hl
 have hs:z4tt [AObj.cells (bC (z3sd++e))] 2 (bC (z3sd++e))=some (bC (z3sd++e)):=z619 (by unfold bC; induction lb (z3sd++e) with|nil=>rfl|cons a l ih=>simp only [y0e,zbao,ih]; rfl)
 rw [show (3:Nat)=2+1 from rfl,zve7,hv]
 simp only [y0q,List.drop_zero]
 rw [y03 (by omega),hs]; rfl
def bO (n:Nat):UInt8:=⟨BitVec.ofNat 8 n⟩
theorem zyja (b:B8):z9pr [w8 b]=some [⟨b⟩]:=by
 have:=zf6e [⟨b⟩]
 exact this
def lE (s:List UInt8):List UInt8:=s.foldl addL []
def otN (e:List UInt8):Option Nat:=zu3v (fun n => !(z3sd++e).contains (bO n)) 255 1
def lets (s:List UInt8):List UInt8:=z3sd++lE s++[bO ((otN (lE s)).getD 0)]
def letV (s t:List UInt8):DV := .sl false 1 (lets (s++t)).length (bC (lets (s++t)))
theorem zgi7 (e:List UInt8) (c:UInt8):(addL e c).length≤e.length+1:=by unfold addL; split<;>simp
theorem zmqk : ∀ (s e:List UInt8),(s.foldl addL e).length≤e.length+s.length
 | [],e=>by simp
 | c::s,e=>by
  have h1:=zmqk s (addL e c)
  have h2:=zgi7 e c
  simp only [List.foldl_cons,y0d]; omega
theorem zg9r {a b:Nat} (ha:a<256) (hb:b<256) (h:bO a=bO b):a=b:=by
 have h:=congrArg (fun u=>u.toBitVec.toNat) h
 simp [bO] at h
 omega
theorem zgqf (e:List UInt8) (he:e.length≤200) : ∃ n,otN e=some n∧1≤n∧n<256∧(z3sd++e).contains (bO n)=false ∧ ∀ i,1≤i→i<n→(z3sd++e).contains (bO i)=true:=by
 cases h:otN e with
 | some n =>
  obtain ⟨h1,h2,h3⟩:=z5fn 255 1 h
  refine ⟨n,rfl,h1,by omega,by simpa using h3,fun i hi hin => ?_⟩
  by_cases hc:(z3sd++e).contains (bO i)=true
  ·exact hc
  ·exfalso
   obtain ⟨k,hk⟩ : ∃ k,(List.range' 1 i).find? (fun n => !(z3sd++e).contains (bO n))=k:=⟨_,rfl⟩
   have key : ∀ (m k:Nat),k≤i→i<k+m → ∃ j,j≤i∧zu3v (fun n => !(z3sd++e).contains (bO n)) m k=some j:=by
    intro m
    induction m with
    | zero=>intro k a b; omega
    | succ m ih =>
     intro k a b
     rw [zu3v]
     by_cases q:(!(z3sd++e).contains (bO k))=true
     ·rw [if_pos q]; exact ⟨k,a,rfl⟩
     ·rw [if_neg q]
      by_cases e':k=i
      ·subst e'
       have hc':(z3sd++e).contains (bO k)=false:=by simpa using hc
       rw [hc'] at q; simp at q
      ·exact ih (k+1) (by omega) (by omega)
   obtain ⟨j,j1,j2⟩:=key 255 1 hi (by omega)
   have:otN e=some j:=j2
   rw [h] at this
   have:=Option.some.inj this
   omega
 | none =>
  exfalso
  have hall:=zriv 255 1 h
  have hn:=ziv7 (l:=(List.range' 1 255).map bO) (m:=z3sd++e) (by
   refine List.pairwise_map.2 (List.Pairwise.imp_of_mem (fun {a b} ha hb hlt e' => ?_) (List.pairwise_lt_range' (s:=1) (n:=255)))
   simp [List.mem_range'] at ha hb
   obtain ⟨i,hi,rfl⟩:=ha
   obtain ⟨j,hj,rfl⟩:=hb
   have:=zg9r (by omega) (by omega) e'
   omega) (fun x hx=>by
   obtain ⟨n,hn,rfl⟩:=y0c.1 hx
   simp [List.mem_range'] at hn
   obtain ⟨i,hi,rfl⟩:=hn
   have:=hall (1+i) (by omega) (by omega)
   have h2:(z3sd++e).contains (bO (1+i))=true:=by
    cases q:(z3sd++e).contains (bO (1+i)) with
    | true=>rfl
    | false=>rw [q] at this; cases this
   exact y0z.1 h2)
  simp [z3sd] at hn
  omega
noncomputable def TL:Tbl:=addT 64 (.pure (cS1 conD)) tbl0
theorem zbsq:TL 64 = .pure (cS1 conD):=by simp [TL]
theorem zd8n:TL.Sound P:=z0rp (zpzi fun s c=>zljw mix ztsk Tryd.func64 zerh (zuti s c)) zr5o
def sL0 (s:List UInt8) (i:Nat):St:=zznl (lO ((s.take i).foldl addL [])) (.str s) (.int .i64 i) (lH ((s.take i).foldl addL []))
def sL1 (e:List UInt8) (c:Nat):St:=zv9l (lO e) (.int .i64 c) (lH e)
theorem zwqp (s t:List UInt8) (hb0:s.length+t.length≤100):Runs TL a37 [.str s,.str t] (letV s t):=by
 refine ⟨?_⟩
 unfold letV
 simp (disch:=first|omega|simp<;>omega|fail) [-zA,-zB,-zC,-zD,-zE,a37]
 have hb:(s++t).length≤100:=by simp; omega
 generalize s++t=u at *
 clear hb0
 refine zlm5 (sL0 u) (fun i=>u.length-i) (fun i=>i≤u.length) 0 (z515 (by simp (disch:=first|omega|simp<;>omega|fail) [-zA,-zB,-zC,-zD,-zE,sL0,zznl,znca]) (by simp (disch:=first|omega|simp<;>omega|fail) [-zA,-zB,-zC,-zD,-zE,sL0,zznl,zqgg])) (by omega) (fun i hi => ?_)
 have hel:((u.take i).foldl addL []).length≤u.length:=by have:=zmqk (u.take i) []; simp at this; omega
 by_cases h:i<u.length
 ·have h':(i:Int)<u.length:=by omega
  have htk:(u.take (i+1)).foldl addL []=addL ((u.take i).foldl addL []) u[i]:=by rw [zmqh h,y0g]; rfl
  have hsub:(u.drop i).take 1=[u[i]]:=by rw [y09 h]; rfl
  simp only [sL0,zznl,z01n]
  generalize he:(u.take i).foldl addL []=e at *
  have hvs:=zp97 e
  have hbb:=z0yu e
  have hbl:(bC (z3sd++e)).length=e.length+2:=by rw [z4gq]; simp [z3sd]
  have hap:=zl6u e u[i] (by omega)
  cases hc:(z3sd++e).contains u[i] with
  | true =>
   have hcd:conD (z3sd++e) u[i] = .bool true:=by unfold conD; rw [hc]
   have hadd:addL e u[i]=e:=if_pos hc
   simp (disch:=first|omega|simp<;>omega|fail) [-zA,-zB,-zC,-zD,-zE,h',h,hvs,hbb,hbl,hsub,zbsq,z8u6,hcd]
   exact ⟨i+1,z515 (by simp (disch:=first|omega|simp<;>omega|fail) [-zA,-zB,-zC,-zD,-zE,sL0,zznl,htk,hadd]) (by simp (disch:=first|omega|simp<;>omega|fail) [-zA,-zB,-zC,-zD,-zE,sL0,zznl,htk,hadd]),by omega,by omega⟩
  | false =>
   have hcd:conD (z3sd++e) u[i] = .bool false:=by unfold conD; rw [hc]
   have hadd:addL e u[i]=e++[u[i]]:=if_neg (by rw [hc]; simp)
   simp (disch:=first|omega|simp<;>omega|fail) [-zA,-zB,-zC,-zD,-zE,h',h,hvs,hbb,hbl,hsub,zbsq,z8u6,hcd,hap]
   exact ⟨i+1,z515 (by simp (disch:=first|omega|simp<;>omega|fail) [-zA,-zB,-zC,-zD,-zE,sL0,zznl,htk,hadd]) (by simp (disch:=first|omega|simp<;>omega|fail) [-zA,-zB,-zC,-zD,-zE,sL0,zznl,htk,hadd]),by omega,by omega⟩
 ·have h':¬ (i:Int)<u.length:=by omega
  obtain rfl:i=u.length:=by omega
  have hall:(u.take u.length).foldl addL []=lE u:=by rw [y0t]; rfl
  rw [hall] at hel
  obtain ⟨n,n1,n2,n3,n4,n5⟩:=zgqf (lE u) (by omega)
  have hlets:lets u=z3sd++(lE u++[bO n]):=by unfold lets; rw [n1]; simp
  simp only [sL0,zznl,z01n,hall]
  generalize lE u=e at *
  rw [hlets]
  clear hlets hall
  simp (disch:=first|omega|simp<;>omega|fail) [-zA,-zB,-zC,-zD,-zE,h']
  refine zlm5 (sL1 e) (fun c=>n+1-c) (fun c=>1≤c∧c≤n) 1 (z515 (by simp (disch:=first|omega|simp<;>omega|fail) [-zA,-zB,-zC,-zD,-zE,sL1,zv9l]) (by simp (disch:=first|omega|simp<;>omega|fail) [-zA,-zB,-zC,-zD,-zE,sL1,zv9l])) ⟨by omega,n2⟩ (fun c hc => ?_)
  obtain ⟨c1,c2⟩:=hc
  have hvs:=zp97 e
  have hbb:=z0yu e
  have hbl:(bC (z3sd++e)).length=e.length+2:=by rw [z4gq]; simp [z3sd]
  have hap:=zl6u e (bO c) (by omega)
  have hc':(c:Int)<256:=by omega
  have hb1:=zyja (BitVec.ofNat 8 c)
  have hbO:(⟨BitVec.ofNat 8 c⟩:UInt8)=bO c:=rfl
  rw [hbO] at hb1
  have hbt:(bO c).toBitVec=BitVec.ofNat 8 c:=rfl
  rw [hbt] at hap
  simp only [sL1,zv9l,z0dk]
  by_cases e1:c=n
  ·subst e1
   have hcd:conD (z3sd++e) (bO c) = .bool false:=by unfold conD; rw [n4]
   have hfin:=z7mg (e:=e++[bO c]) (by simp)
   simp only [List.length_append,List.length_singleton] at hfin
   simp (disch:=first|omega|simp<;>omega|fail) [-zA,-zB,-zC,-zD,-zE,hc',hvs,hbb,hbl,hb1,zbsq,z8u6,hcd,hap,hfin]
   show e.length+1+2=2+(e.length+1)
   omega
  ·have hcd:conD (z3sd++e) (bO c) = .bool true:=by unfold conD; rw [n5 c c1 (by omega)]
   simp (disch:=first|omega|simp<;>omega|fail) [-zA,-zB,-zC,-zD,-zE,hc',hvs,hbb,hbl,hb1,zbsq,z8u6,hcd]
   exact ⟨c+1,z515 (by simp (disch:=first|omega|simp<;>omega|fail) [-zA,-zB,-zC,-zD,-zE]) (by simp (disch:=first|omega|simp<;>omega|fail) [-zA,-zB,-zC,-zD,-zE]),by omega,by omega,by omega⟩
end Go.Proofs.YtaihpefemjlilaaDoor
set_option linter.unusedSimpArgs false
set_option linter.unusedVariables false
namespace Go.Proofs.YtaihpefemjlilaaDoor
open Go Go.Am
noncomputable def cLet:List DV→Option DV:=con (fun a:List UInt8 × List UInt8=>a.1.length+a.2.length≤100) (fun a=>[.str a.1,.str a.2]) (fun a=>letV a.1 a.2)
theorem z6gc {s t:List UInt8} (h:s.length+t.length≤100):cLet [.str s,.str t]=some (letV s t) :=
 z400 (A:=fun a:List UInt8 × List UInt8=>a.1.length+a.2.length≤100) (a:=(s,t)) (f:=fun a=>[.str a.1,.str a.2]) (g:=fun a=>letV a.1 a.2) (by
  rintro ⟨a,b⟩ ⟨c,d⟩ _ _ e
  simp only [List.cons.injEq,DV.str.injEq,and_true] at e
  obtain ⟨rfl,rfl⟩:=e; rfl) h
noncomputable def TY:Tbl:=addT 39 (.pure cAft) (addT 41 (.pure zvdq) (addT 37 (.pure cLet) T76))
theorem zsgs:TY 39 = .pure cAft:=by simp [TY]
theorem zjgf:TY 41 = .pure zvdq:=by simp [TY]
theorem zdki:TY 37 = .pure cLet:=by simp [TY]
theorem z0vp:TY 40 = .pure zilg:=by simp [TY,zwpu]
theorem z0ck:TY 36 = .pure (cS z8r4):=by simp [TY,z6ci]
theorem z43l:TY.Sound P :=
 z0rp (z2au fun a h=>zljw mix zr5o Tryd.func39 zjwo (zhow a.1 a.2 h))
 (z0rp (z2au fun a h=>zljw mix zx50 Tryd.func41 z5y8 (ztut a.1 a.2 h.1 h.2))
 (z0rp (z2au fun a h=>zljw mix zd8n Tryd.func37 z554 (zwqp a.1 a.2 h)) zx50))
def csR (u:List UInt8):Pt→Pt→List B8:=fun _ _=>lb (lets u)
theorem z4bk {e:List UInt8} {c x:UInt8}:x ∈ z3sd++addL e c↔x ∈ z3sd++e∨x=c:=by
 unfold addL
 split
 ·rename_i h
  constructor
  ·exact .inl
  ·rintro (h'|rfl)
   ·exact h'
   ·exact y0z.1 h
 ·simp only [y0b,List.mem_singleton]
  constructor
  ·rintro (h|h|h)
   ·exact .inl (.inl h)
   ·exact .inl (.inr h)
   ·exact .inr h
  ·rintro ((h|h)|h)
   ·exact .inl h
   ·exact .inr (.inl h)
   ·exact .inr (.inr h)
theorem zqyr : ∀ (s e:List UInt8) (x:UInt8),x ∈ z3sd++s.foldl addL e↔x ∈ z3sd++e∨x ∈ s
 | [],e,x=>by simp
 | c::s,e,x=>by
  rw [List.foldl_cons,zqyr s (addL e c) x,z4bk]
  simp only [y0a]
  constructor
  ·rintro ((h|h)|h)
   ·exact .inl h
   ·exact .inr (.inl h)
   ·exact .inr (.inr h)
  ·rintro (h|h|h)
   ·exact .inl (.inl h)
   ·exact .inl (.inr h)
   ·exact .inr h
theorem zlm1 {u:List UInt8} (hu:u.length≤100):(∀ x ∈ u,x ∈ lets u)∧(47:UInt8) ∈ lets u∧(∃ o ∈ lets u,o≠47∧o≠46)∧(noZ u=true → ∀ x ∈ lets u,x≠0)∧(lets u).length≤200:=by
 have hel:(lE u).length≤u.length:=by have:=zmqk u []; simpa [lE] using this
 obtain ⟨n,n1,n2,n3,n4,n5⟩:=zgqf (lE u) (by omega)
 have hl:lets u=z3sd++lE u++[bO n]:=by unfold lets; rw [n1]; rfl
 have hm:=zqyr u []
 rw [hl]
 refine ⟨fun x hx=>y06 _ ((hm x).2 (.inr hx)),by simp [z3sd],⟨bO n,by simp,fun e => ?_,fun e => ?_⟩,fun hz x hx => ?_,by simp [z3sd]; omega⟩
 ·rw [e] at n4; simp [z3sd] at n4
 ·rw [e] at n4; simp [z3sd] at n4
 ·rcases y0b.1 hx with hx|hx
  ·rcases (hm x).1 hx with h|h
   ·simp [z3sd] at h
    rcases h with rfl|rfl<;>decide
   ·unfold noZ at hz
    rw [y0h] at hz
    simpa using hz x h
  ·simp at hx; subst hx
   intro e
   have:=zg9r n3 (by omega:(0:Nat)<256) (e.trans (by rfl:(0:UInt8)=bO 0))
   omega
theorem zkgl {x:UInt8} {l:List UInt8} (h:x ∈ l):x.toBitVec ∈ lb l:=y0c.2 ⟨x,h,rfl⟩
theorem zc8i {u:List UInt8} (hu:u.length≤100) (hz:noZ u=true) (p q:List Pt):NZ p q (csR u):=by
 intro i j _ _ c hc
 obtain ⟨x,hx,rfl⟩:=y0c.1 hc
 have:=(zlm1 hu).2.2.2.1 hz x hx
 exact zejk this
theorem zuyd {u:List UInt8} (hu:u.length≤100) {p q:List Pt} (hp : ∀ c,Pt.one c ∈ p → ∃ x ∈ u,x.toBitVec=c) (hq : ∀ c,Pt.one c ∈ q → ∃ x ∈ u,x.toBitVec=c):Dom p q (csR u):=by
 obtain ⟨m1,m2,⟨o,o1,o2,o3⟩,_⟩:=zlm1 hu
 intro i j hi hj c t1 t2 k k' n hk e
 have h1:=zam0 hi
 have h2:=zam0 hj
 generalize p.getD i .dot=a at h1 t1 ⊢
 generalize q.getD j .dot=b at h2 t2 ⊢
 have one1:(∃ x ∈ u,x.toBitVec=c) → ∃ d ∈ csR u a b,a.takes d=true∧b.takes d=true ∧ ∃ n',aft k' d=some n'∧(n'=n∨n'=3):=by
  rintro ⟨x,hx,rfl⟩
  exact ⟨_,zkgl (m1 x hx),t1,t2,zbch hk e⟩
 have two:(∀ c,a ≠ .one c)→(∀ c,b ≠ .one c) → ∃ d ∈ csR u a b,a.takes d=true∧b.takes d=true ∧ ∃ n',aft k' d=some n'∧(n'=n∨n'=3):=fun ha hb =>
  zczo (o:=o.toBitVec) ha hb (zkgl m2) (zkgl o1) (zejk o2) (zejk o3) t1 t2 hk e
 cases a with
 | one d =>
  have:c=d:=by simpa [Pt.takes] using t1
  subst this; exact one1 (hp _ h1)
 | dot=>cases b with
  | one d =>
   have:c=d:=by simpa [Pt.takes] using t2
   subst this; exact one1 (hq _ h2)
  | _=>exact two (by intro c; simp) (by intro c; simp)
 | some=>cases b with
  | one d =>
   have:c=d:=by simpa [Pt.takes] using t2
   subst this; exact one1 (hq _ h2)
  | _=>exact two (by intro c; simp) (by intro c; simp)
 | whole=>cases b with
  | one d =>
   have:c=d:=by simpa [Pt.takes] using t2
   subst this; exact one1 (hq _ h2)
  | _=>exact two (by intro c; simp) (by intro c; simp)
end Go.Proofs.YtaihpefemjlilaaDoor
set_option linter.unusedSimpArgs false
set_option linter.unusedVariables false
namespace Go.Proofs.YtaihpefemjlilaaDoor
open Go Go.Am
def byV (ls:List UInt8):DV := .sl false 1 ls.length (bC ls)
structure MidI (p q:List Pt) (ls:List UInt8) (B:Nat) (v11 v12 v14:DV) (A1:Came × List Q) (h0:List AObj) (G0:Nat) (L0:List Q) (e:AExit) (s:St):Prop where
 ex:e = .normal ∧ ∃ G h,LH (sM A1.1) B G A1.2 h∧Fr h0 G0 L0 h G A1.2 ∧ ∀ n0,Weak n0 s (zqpn (pV p) (pV q) (byV ls) (.mapv B) v11 v12 (lV G A1.2) v14 h)
structure XI where
 i:Nat
 G:Nat
 h:List AObj
structure RI (p q:List Pt) (x:Q) (ls:List UInt8) (B:Nat) (A0:Came × List Q) (h0:List AObj) (G0:Nat) (a:XI):Prop where
 le:a.i≤ls.length
 l:LH (sM (((lb ls).take a.i).foldl (stp1 p q x) A0).1) B a.G (((lb ls).take a.i).foldl (stp1 p q x) A0).2 a.h
 f:Fr h0 G0 A0.2 a.h a.G (((lb ls).take a.i).foldl (stp1 p q x) A0).2
theorem zzmv {G:Nat} {L:List Q} {i:Nat} (h:zi6q (lV G L)≠some i):¬ (L≠[]∧i=G):=by
 rintro ⟨h1,rfl⟩
 rw [zi7d h1] at h
 exact h rfl
theorem zyfw (p q:List Pt) (hp:p.length≤200) (hq:q.length≤200) (ls:List UInt8) (hls:ls.length≤200) (B X:Nat) (x:Q) (g1:x.1<p.length) (g2:x.2.1<q.length) (g3:x.2.2≤3) (A0:Came × List Q) (hc:CL p.length q.length A0) (h0:List AObj) (G0:Nat) (v11 v12 v14:DV)
  (hl:LH (sM A0.1) B G0 A0.2 h0) (ho:ziu0 h0 X=some (qC x)) (hX:A0.2≠[]→X≠G0) :
  V P 0 (.block 4 (.loop zfed)) (MidI p q ls B v11 v12 v14 ((lb ls).foldl (stp1 p q x) A0) h0 G0 A0.2) (zse9 (pV p) (pV q) (byV ls) (.mapv B) v11 v12 (lV G0 A0.2) v14 (.mp X 3 0) (.int .i64 0) h0):=by
 have hlb:=z719 ls
 have hxb:z4ew p.length q.length x:=⟨by omega,by omega,g3⟩
 have ga:=zhys g1
 have gb:=zhys g2
 have da:p.getD x.1 .dot=p[x.1]:=by rw [y00,y01 g1]; rfl
 have db:q.getD x.2.1 .dot=q[x.2.1]:=by rw [y00,y01 g2]; rfl
 obtain ⟨a,ha⟩ : ∃ a,p[x.1]=a:=⟨_,rfl⟩
 obtain ⟨b,hb⟩ : ∃ b,q[x.2.1]=b:=⟨_,rfl⟩
 rw [ha] at ga da
 rw [hb] at gb db
 refine z3mo (ztbr (fun a:XI=>zse9 (pV p) (pV q) (byV ls) (.mapv B) v11 v12 (lV a.G (((lb ls).take a.i).foldl (stp1 p q x) A0).2) v14 (.mp X 3 0) (.int .i64 a.i) a.h) (fun a=>ls.length-a.i) (RI p q x ls B A0 h0 G0) ⟨0,G0,h0⟩ (z515 (by simp (disch:=first|omega|simp<;>omega|fail) [-zA,-zB,-zC,-zD,-zE,zse9]) (by simp (disch:=first|omega|simp<;>omega|fail) [-zA,-zB,-zC,-zD,-zE,zse9])) ⟨by simp,hl,.refl _ _ _⟩ (fun y hy => ?_))
 obtain ⟨i,G,h⟩:=y
 obtain ⟨q1,q3,q4⟩:=hy
 simp only at q1 q3 q4
 simp only [zse9,zfed]
 by_cases hi:i<ls.length
 ·have hi':(i:Int)<ls.length:=by omega
  have hib:i<(lb ls).length:=by omega
  have hcl:CL p.length q.length (((lb ls).take i).foldl (stp1 p q x) A0):=z0z6 hxb g1 g2 _ _ hc
  have htk:(lb ls).take (i+1)=(lb ls).take i++[(lb ls)[i]]:=zmqh hib
  obtain ⟨c,hcc⟩ : ∃ c,(lb ls)[i]=c:=⟨_,rfl⟩
  rw [hcc] at htk
  have hst:((lb ls).take (i+1)).foldl (stp1 p q x) A0=stp1 p q x (((lb ls).take i).foldl (stp1 p q x) A0) c:=by rw [htk,y0g]; rfl
  generalize hA:((lb ls).take i).foldl (stp1 p q x) A0=A at *
  have w0:objV h X 3=some (qC x):=zw28 (q4.at_ ho hX) rfl
  have hcx:=z1wy (c:=c) g3
  simp only [qC] at w0
  refine zbn1 (V_W mix z43l ?_)
  simp (disch:=first|omega|simp<;>omega|fail) [-zA,-zB,-zC,-zD,-zE,hi',hi,byV]
  refine zbn1 (z3mo ?_)
  refine zbn1 (V_W mix z43l ?_)
  simp (disch:=first|omega|simp<;>omega|fail) [-zA,-zB,-zC,-zD,-zE,w0,byV,hi',hi,bC,hlb,hcc,zsgs,hcx]
  have done:stp1 p q x A c=A→RI p q x ls B A0 h0 G0 ⟨i+1,G,h⟩:=fun e=>by
   rw [← hst] at e
   exact ⟨by simp only; omega,by simp only [e]; exact q3,by simp only [e]; exact q4⟩
  have nxt:((lb ls).take (i+1)).foldl (stp1 p q x) A0=stp1 p q x A c:=hst
  cases hn:aft x.2.2 c with
  | none =>
   have e0:stp1 p q x A c=A:=by unfold stp1; rw [hn]
   have had:aftD x.2.2 c = .int .i64 (-1):=by unfold aftD; rw [hn]
   rw [had]
   refine zbn1 (V_W mix z43l ?_)
   simp (disch:=first|omega|simp<;>omega|fail) [-zA,-zB,-zC,-zD,-zE]
   refine V_W mix z43l ?_
   simp (disch:=first|omega|simp<;>omega|fail) [-zA,-zB,-zC,-zD,-zE]
   refine V_W mix z43l ?_
   simp (disch:=first|omega|simp<;>omega|fail) [-zA,-zB,-zC,-zD,-zE]
   exact ⟨⟨i+1,G,h⟩,z515 (by simp (disch:=first|omega|simp<;>omega|fail) [-zA,-zB,-zC,-zD,-zE,nxt,e0,bC]) (by simp (disch:=first|omega|simp<;>omega|fail) [-zA,-zB,-zC,-zD,-zE]),by simp only; omega,done e0⟩
  | some k =>
   have had:aftD x.2.2 c = .int .i64 k:=by unfold aftD; rw [hn]
   rw [had]
   cases ka:a.takes c with
   | false =>
    have e0:stp1 p q x A c=A:=by unfold stp1; rw [hn]; simp only [da,ka]; simp
    refine zbn1 (V_W mix z43l ?_)
    simp (disch:=first|omega|simp<;>omega|fail) [-zA,-zB,-zC,-zD,-zE,w0,pV,g1,ga,zfvc,z0vp,znih,ka,byV,hi',hi,bC,hlb,hcc]
    refine V_W mix z43l ?_
    simp (disch:=first|omega|simp<;>omega|fail) [-zA,-zB,-zC,-zD,-zE]
    refine V_W mix z43l ?_
    simp (disch:=first|omega|simp<;>omega|fail) [-zA,-zB,-zC,-zD,-zE]
    exact ⟨⟨i+1,G,h⟩,z515 (by simp (disch:=first|omega|simp<;>omega|fail) [-zA,-zB,-zC,-zD,-zE,nxt,e0,bC,pV]) (by simp (disch:=first|omega|simp<;>omega|fail) [-zA,-zB,-zC,-zD,-zE]),by simp only; omega,done e0⟩
   | true =>
    cases kb:b.takes c with
    | false =>
     have e0:stp1 p q x A c=A:=by unfold stp1; rw [hn]; simp only [da,db,ka,kb]; simp
     refine zbn1 (V_W mix z43l ?_)
     simp (disch:=first|omega|simp<;>omega|fail) [-zA,-zB,-zC,-zD,-zE,w0,pV,g1,g2,ga,gb,zfvc,z0vp,znih,ka,kb,byV,hi',hi,bC,hlb,hcc]
     refine V_W mix z43l ?_
     simp (disch:=first|omega|simp<;>omega|fail) [-zA,-zB,-zC,-zD,-zE]
     refine V_W mix z43l ?_
     simp (disch:=first|omega|simp<;>omega|fail) [-zA,-zB,-zC,-zD,-zE]
     exact ⟨⟨i+1,G,h⟩,z515 (by simp (disch:=first|omega|simp<;>omega|fail) [-zA,-zB,-zC,-zD,-zE,nxt,e0,bC,pV]) (by simp (disch:=first|omega|simp<;>omega|fail) [-zA,-zB,-zC,-zD,-zE]),by simp only; omega,done e0⟩
    | true =>
     have e0:stp1 p q x A c=vis p q fu A.1 A.2 (adv p x.1,adv q x.2.1,k) (x,c):=by unfold stp1; rw [hn]; simp only [da,db,ka,kb,and_self,if_true]
     have hbx:z4ew p.length q.length (adv p x.1,adv q x.2.1,k):=⟨by unfold adv; dsimp only; split<;>omega,by unfold adv; dsimp only; split<;>omega,zv7f g3 hn⟩
     obtain ⟨G3,h3,t1,t2,t3⟩:=znzs p q hp hq B fu A.1 A.2 (adv p x.1,adv q x.2.1,k) (x,c) h G (by unfold fu; omega) hbx hcl q3
     rw [← e0,← nxt] at t1 t2 t3
     obtain ⟨TA,fA,sA,a1,a2,a3⟩:=exTH z43l t1
     have touch:z03v [lV G A.2,.mapv B,.agg (qC (adv p x.1,adv q x.2.1,k)),pV p,pV q] h h3:=fun d r e j hj hne=>by
      cases e
      exact t3.oth j hj (zzmv hne)
     have hFE:z5e5 TA (.fn (.func 38) [] []) [lV G A.2,.mapv B,.agg (qC (adv p x.1,adv q x.2.1,k)),pV p,pV q] h=some (lV G3 (((lb ls).take (i+1)).foldl (stp1 p q x) A0).2,h3):=zzyf (a:=[]) (b:=[]) (p:=(lV G3 (((lb ls).take (i+1)).foldl (stp1 p q x) A0).2,h3)) (by rw [a1]; exact a2) touch
     have T1:TA 41 = .pure zvdq:=by rw [a3 _ (by decide),zjgf]
     have s1:=zzfj g1 hp
     have s2:=zzfj g2 hq
     have hfin:RI p q x ls B A0 h0 G0 ⟨i+1,G3,h3⟩:=⟨by simp only; omega,t2,q4.trans t3⟩
     have hpu : ∀ l:List Pt,zbao (z6j5 l)=true:=zcb5
     refine zbn1 (V_W mix z43l ?_)
     simp (disch:=first|omega|simp<;>omega|fail) [-zA,-zB,-zC,-zD,-zE,w0,pV,g1,g2,ga,gb,zfvc,z0vp,znih,ka,kb,byV,hi',hi,bC,hlb,hcc]
     simp only [qC,pV] at hFE s1 s2
     generalize hA3:((lb ls).take (i+1)).foldl (stp1 p q x) A0=A3 at hFE
     refine V_W mix sA ?_
     simp (disch:=first|omega|simp<;>omega|fail) [-zA,-zB,-zC,-zD,-zE,w0,T1,s1,s2,hpu,zlwt,hFE]
     refine V_W mix z43l ?_
     simp (disch:=first|omega|simp<;>omega|fail) [-zA,-zB,-zC,-zD,-zE]
     exact ⟨⟨i+1,G3,h3⟩,z515 (by simp (disch:=first|omega|simp<;>omega|fail) [-zA,-zB,-zC,-zD,-zE,hA3]) (by simp (disch:=first|omega|simp<;>omega|fail) [-zA,-zB,-zC,-zD,-zE]),by simp only; omega,hfin⟩
 ·have hi':¬ (i:Int)<ls.length:=by omega
  have htk0:(lb ls).take i=lb ls:=y03 (by omega)
  rw [htk0] at q3 q4
  refine zbn1 (V_W mix z43l ?_)
  simp (disch:=first|omega|simp<;>omega|fail) [-zA,-zB,-zC,-zD,-zE,hi',hi,byV]
  exact ⟨rfl,G,h,q3,q4,fun _=>z515 (by simp (disch:=first|omega|simp<;>omega|fail) [-zA,-zB,-zC,-zD,-zE,htk0,byV]) (by simp (disch:=first|omega|simp<;>omega|fail) [-zA,-zB,-zC,-zD,-zE])⟩
end Go.Proofs.YtaihpefemjlilaaDoor
set_option linter.unusedSimpArgs false
set_option linter.unusedVariables false
namespace Go.Proofs.YtaihpefemjlilaaDoor
open Go Go.Am
structure MidJ (p q:List Pt) (ls:List UInt8) (B:Nat) (v12:DV) (A1:Came × List Q) (e:AExit) (s:St):Prop where
 ex:e = .normal ∧ ∃ G h,LH (sM A1.1) B G A1.2 h ∧ ∀ n0,Weak n0 s (zqpn (pV p) (pV q) (byV ls) (.mapv B) .junk v12 (lV G A1.2) .junk h)
theorem zjc7 {p q:List Pt} {cs:Pt→Pt→List B8} : ∀ (l:List Q) (A:Came × List Q),CL p.length q.length A→(∀ x ∈ l,z4ew p.length q.length x)→CL p.length q.length (l.foldl (mvs p q cs) A)
 | [],A,h,_=>h
 | x::l,A,h,hb=>zjc7 l _ (zrnz (hb x (by simp)) h) fun y hy=>hb y (by simp [hy])
structure RJ (p q:List Pt) (u:List UInt8) (L:List Q) (C:Came) (B:Nat) (h1:List AObj) (a:XI):Prop where
 le:a.i≤L.length
 l:LH (sM ((L.take a.i).foldl (mvs p q (csR u)) (C,[])).1) B a.G ((L.take a.i).foldl (mvs p q (csR u)) (C,[])).2 a.h
 f:Fr h1 0 [] a.h a.G ((L.take a.i).foldl (mvs p q (csR u)) (C,[])).2
theorem z2xc (p q:List Pt) (hp:p.length≤200) (hq:q.length≤200) (u:List UInt8) (hls:(lets u).length≤200) (B Gn:Nat) (C:Came) (L:List Q) (hL:L.length≤1000000) (hc:CL p.length q.length (C,[])) (hbox : ∀ x ∈ L,z4ew p.length q.length x) (h1:List AObj) (v12:DV)
  (hm:zfel h1 B=some (sM C)) (ho:L≠[]→ziu0 h1 Gn=some (lC L)) :
  V P 0 (.block 2 (.loop zujz)) (MidJ p q (lets u) B v12 (L.foldl (mvs p q (csR u)) (C,[]))) (zqpn (pV p) (pV q) (byV (lets u)) (.mapv B) (lV Gn L) v12 (lV 0 []) (.int .i64 0) h1):=by
 refine z3mo (ztbr (fun a:XI=>zqpn (pV p) (pV q) (byV (lets u)) (.mapv B) (lV Gn L) v12 (lV a.G ((L.take a.i).foldl (mvs p q (csR u)) (C,[])).2) (.int .i64 a.i) a.h) (fun a=>L.length-a.i) (RJ p q u L C B h1) ⟨0,0,h1⟩ (z515 (by simp (disch:=first|omega|simp<;>omega|fail) [-zA,-zB,-zC,-zD,-zE,zqpn,zg8e]) (by simp (disch:=first|omega|simp<;>omega|fail) [-zA,-zB,-zC,-zD,-zE,zqpn])) ⟨by simp,⟨hm,fun e=>absurd rfl e⟩,.refl _ _ _⟩ (fun y hy => ?_))
 obtain ⟨i,G,h⟩:=y
 obtain ⟨q1,q3,q4⟩:=hy
 simp only at q1 q3 q4
 have lo:L≠[]→ziu0 h Gn=some (lC L):=fun e=>q4.at_ (ho e) (fun e=>absurd rfl e)
 have hlen:=ztqr lo
 by_cases hi:i<L.length
 ·have hi':(i:Int)<L.length:=by omega
  have hne:L≠[]:=fun e=>by rw [e] at hi; simp at hi
  have hcl:CL p.length q.length ((L.take i).foldl (mvs p q (csR u)) (C,[])):=zjc7 _ _ hc fun x hx=>hbox x (y10 hx)
  have htk:L.take (i+1)=L.take i++[L[i]]:=zmqh hi
  have hst:(L.take (i+1)).foldl (mvs p q (csR u)) (C,[])=mvs p q (csR u) ((L.take i).foldl (mvs p q (csR u)) (C,[])) L[i]:=by rw [htk,y0g]; rfl
  have hgl:=z45p hi
  have hix:=zjsa (h:=h) lo hi
  have hvl:objV h Gn (L.length*3)=some (lC L):=zw28 (lo hne) (zsql L)
  obtain ⟨b1,b2,b3⟩:=hbox _ (y07 hi)
  simp only [zqpn,zujz]
  generalize hA:(L.take i).foldl (mvs p q (csR u)) (C,[])=A at *
  obtain ⟨x,hx⟩ : ∃ x,L[i]=x:=⟨_,rfl⟩
  rw [hx] at hgl b1 b2 b3 hst
  simp only [qC] at hgl
  refine zbn1 (V_W mix z43l ?_)
  simp (disch:=first|omega|simp<;>omega|fail) [-zA,-zB,-zC,-zD,-zE,hi',hi,hlen]
  refine zbn1 (z3mo ?_)
  refine zbn1 (V_W mix z43l ?_)
  simp (disch:=first|omega|simp<;>omega|fail) [-zA,-zB,-zC,-zD,-zE,hix,hvl,hgl,zf0q,zjj2,zm3y,zxft,z8we]
  by_cases e1:x.1=p.length
  ·have e0:mvs p q (csR u) A x=A:=by unfold mvs; rw [if_neg (by omega)]
   rw [e0] at hst
   refine zbn1 (V_W mix z43l ?_)
   simp (disch:=first|omega|simp<;>omega|fail) [-zA,-zB,-zC,-zD,-zE,zf0q,zjj2,pV,e1]
   refine V_W mix z43l ?_
   simp (disch:=first|omega|simp<;>omega|fail) [-zA,-zB,-zC,-zD,-zE]
   exact ⟨⟨i+1,G,h++[.cells (qC x)]⟩,z515 (by simp (disch:=first|omega|simp<;>omega|fail) [-zA,-zB,-zC,-zD,-zE,hst,pV]) (by simp (disch:=first|omega|simp<;>omega|fail) [-zA,-zB,-zC,-zD,-zE,qC,e1]),by simp only; omega,⟨by simp only; omega,by simp only [hst]; exact q3.app _,by simp only [hst]; exact q4.trans (Fr.app _ _ _ _)⟩⟩
  have e1':¬ (x.1:Int)=p.length:=by omega
  by_cases e2:x.2.1=q.length
  ·have e0:mvs p q (csR u) A x=A:=by unfold mvs; rw [if_neg (by omega)]
   rw [e0] at hst
   refine zbn1 (V_W mix z43l ?_)
   simp (disch:=first|omega|simp<;>omega|fail) [-zA,-zB,-zC,-zD,-zE,zf0q,zjj2,pV,e1,e1',e2]
   refine V_W mix z43l ?_
   simp (disch:=first|omega|simp<;>omega|fail) [-zA,-zB,-zC,-zD,-zE]
   exact ⟨⟨i+1,G,h++[.cells (qC x)]⟩,z515 (by simp (disch:=first|omega|simp<;>omega|fail) [-zA,-zB,-zC,-zD,-zE,hst,pV]) (by simp (disch:=first|omega|simp<;>omega|fail) [-zA,-zB,-zC,-zD,-zE,qC,e2]),by simp only; omega,⟨by simp only; omega,by simp only [hst]; exact q3.app _,by simp only [hst]; exact q4.trans (Fr.app _ _ _ _)⟩⟩
  have e2':¬ (x.2.1:Int)=q.length:=by omega
  have g1:x.1<p.length:=by omega
  have g2:x.2.1<q.length:=by omega
  have e0:mvs p q (csR u) A x=(lb (lets u)).foldl (stp1 p q x) A:=by unfold mvs; rw [if_pos ⟨g1,g2⟩]; rfl
  refine zbn1 (V_W mix z43l ?_)
  simp (disch:=first|omega|simp<;>omega|fail) [-zA,-zB,-zC,-zD,-zE,zf0q,zjj2,pV,e1,e1',e2,e2']
  refine zbn1 (V_W mix z43l ?_)
  simp (disch:=first|omega|simp<;>omega|fail) [-zA,-zB,-zC,-zD,-zE]
  have nX:A.2≠[]→h.length≠G:=fun e=>by have:=z4sf (q3.lo e); omega
  have hin:=zyfw p q hp hq (lets u) hls B h.length x g1 g2 b3 A hcl (h++[.cells (qC x)]) G (lV Gn L) v12 (.int .i64 i) (q3.app _) (zzga (id:=0)) nX
  refine zqfd (st':=zse9 (pV p) (pV q) (byV (lets u)) (.mapv B) (lV Gn L) v12 (lV G A.2) (.int .i64 i) (.mp h.length 3 0) (.int .i64 0) (h++[.cells (qC x)])) (z515 (by simp (disch:=first|omega|simp<;>omega|fail) [-zA,-zB,-zC,-zD,-zE,zse9,pV]) (by simp (disch:=first|omega|simp<;>omega|fail) [-zA,-zB,-zC,-zD,-zE,zse9,qC])) ?_
  refine zftn (fun e s ⟨he,G3,h3,l3,f3,hw⟩ => ?_) hin
  subst he
  rw [← e0,← hst] at l3 f3 hw
  simp only [z76v,zd2q]
  refine zqfd (hw _) ?_
  simp only [zqpn]
  refine V_W mix z43l ?_
  simp (disch:=first|omega|simp<;>omega|fail) [-zA,-zB,-zC,-zD,-zE]
  exact ⟨⟨i+1,G3,h3⟩,z515 (by simp (disch:=first|omega|simp<;>omega|fail) [-zA,-zB,-zC,-zD,-zE,pV]) (by simp (disch:=first|omega|simp<;>omega|fail) [-zA,-zB,-zC,-zD,-zE]),by simp only; omega,⟨by simp only; omega,l3,(q4.trans (Fr.app _ _ _ _)).trans f3⟩⟩
 ·have hi':¬ (i:Int)<L.length:=by omega
  have htk0:L.take i=L:=y03 (by omega)
  rw [htk0] at q3 q4
  simp only [zqpn,zujz]
  refine zbn1 (V_W mix z43l ?_)
  simp (disch:=first|omega|simp<;>omega|fail) [-zA,-zB,-zC,-zD,-zE,hi',hi,hlen]
  exact ⟨rfl,G,h,q3,fun _=>z515 (by simp (disch:=first|omega|simp<;>omega|fail) [-zA,-zB,-zC,-zD,-zE,zqpn,htk0]) (by simp (disch:=first|omega|simp<;>omega|fail) [-zA,-zB,-zC,-zD,-zE,zqpn])⟩
end Go.Proofs.YtaihpefemjlilaaDoor
set_option linter.unusedSimpArgs false
set_option linter.unusedVariables false
namespace Go.Proofs.YtaihpefemjlilaaDoor
open Go Go.Am
open Classical in
noncomputable def comB (p q:List Pt):Bool:=if Com p q then true else false
theorem zeiw {p q:List Pt} (h:Com p q):comB p q=true:=if_pos h
theorem z9w5 {p q:List Pt} (h:¬ Com p q):comB p q=false:=if_neg h
noncomputable def ovrB (s t:List UInt8):Bool:=match zfn1 s,zfn1 t with
 | some p,some q=>comB p q
 | _,_=>false
theorem zbj6 {p q:List Pt} {cs:Pt→Pt→List B8} {n:Nat} (h:(layN p q cs n).2=[]) : ∀ m,(layN p q cs (n+m)).2=[]∧(layN p q cs (n+m)).1=(layN p q cs n).1
 | 0=>⟨h,rfl⟩
 | m+1=>by
  obtain ⟨h1,h2⟩:=zbj6 h m
  have e:layN p q cs (n+(m+1))=lay p q cs (layN p q cs (n+m)):=rfl
  rw [e]; unfold lay
  rw [h1,h2]; exact ⟨rfl,rfl⟩
structure XO where
 n:Nat
 G:Nat
 h:List AObj
structure RO (p q:List Pt) (u:List UInt8) (B:Nat) (a:XO):Prop where
 le:a.n≤200
 no:gQ p q ∉ kC (layN p q (csR u) a.n).1
 l:LH (sM (layN p q (csR u) a.n).1) B a.G (layN p q (csR u) a.n).2 a.h
def sO (p q:List Pt) (u:List UInt8) (B:Nat) (a:XO):St:=z3g7 (pV p) (pV q) (byV (lets u)) (.mapv B) (lV a.G (layN p q (csR u) a.n).2) (.int .i64 a.n) a.h
def zvuy:ACode := .seq (.region false [⟨none,(some 4),.mov (.k (.bool false))⟩]) .ret
theorem z5hh {p q:List Pt} (hp:p.length≤200) (hq:q.length≤200) {cs:Pt→Pt→List B8}:gQ p q ∉ kC (layN p q cs 0).1:=fun h=>by
 have hI:=(z5gf p q hp hq cs)
 have hm:gQ p q ∈ (lay0 p q).2:=by rw [← hI.2]; exact h
 have h1:=hI.1.len _ hm
 have h2:=hI.1.good.rw h1.1
 have h3:=h2.n
 rw [y0j h1.2] at h3
 simp [nmF,gQ] at h3
theorem znsi (p q:List Pt) (hp:p.length≤200) (hq:q.length≤200) (u:List UInt8) (hls:(lets u).length≤200) (hz:NZ p q (csR u)) (hd:Dom p q (csR u)) (B:Nat) (a0:XO) (h0:RO p q u B a0):V P 0 (.block 0 (.loop zywk)) (z2pk P 0 zvuy (OvK [.tmp 4] (.bool (comB p q)))) (sO p q u B a0):=by
 refine z3mo (ztbr (sO p q u B) (fun a=>201-a.n) (RO p q u B) a0 (z515 (by simp (disch:=first|omega|simp<;>omega|fail) [-zA,-zB,-zC,-zD,-zE,sO,z3g7]) (by simp (disch:=first|omega|simp<;>omega|fail) [-zA,-zB,-zC,-zD,-zE,sO,z3g7])) h0 (fun y hy => ?_))
 obtain ⟨n,G,h⟩:=y
 obtain ⟨r1,r2,r3⟩:=hy
 simp only at r1 r2 r3
 have hI:=z35k p q hp hq hz n
 have hlen:=ztqr r3.lo
 have hLb:(layN p q (csR u) n).2.length≤161604:=by have h1:=hI.cl.le; have h2:=hI.cl.ci.len hp hq; omega
 simp only [sO,z3g7,zywk]
 by_cases hn:n<200∧(layN p q (csR u) n).2≠[]
 ·obtain ⟨hn,hne⟩:=hn
  have hn':(n:Int)<200:=by omega
  have hpos:0<(layN p q (csR u) n).2.length:=y0f.2 hne
  have hpos':(0:Int)<(layN p q (csR u) n).2.length:=by omega
  refine zbn1 (V_W mix z43l ?_)
  simp (disch:=first|omega|simp<;>omega|fail) [-zA,-zB,-zC,-zD,-zE,hn',hn,hlen,hpos,hpos']
  refine zbn1 (z3mo ?_)
  refine zbn1 (V_W mix z43l ?_)
  simp (disch:=first|omega|simp<;>omega|fail) [-zA,-zB,-zC,-zD,-zE]
  refine zbn1 (zbn1 (V_W mix z43l ?_))
  simp (disch:=first|omega|simp<;>omega|fail) [-zA,-zB,-zC,-zD,-zE]
  have hstep:(layN p q (csR u) n).2.foldl (mvs p q (csR u)) ((layN p q (csR u) n).1,[])=layN p q (csR u) (n+1):=rfl
  have hmid:=z2xc p q hp hq u hls B G (layN p q (csR u) n).1 (layN p q (csR u) n).2 (by omega) ⟨hI.cl.ci,by simp⟩ (fun x hx=>z49r hI.cl.ci (hI.len x hx).1) h (.int .i64 n) r3.mo r3.lo
  rw [hstep] at hmid
  refine zqfd (st':=zqpn (pV p) (pV q) (byV (lets u)) (.mapv B) (lV G (layN p q (csR u) n).2) (.int .i64 n) (lV 0 []) (.int .i64 0) h) (z515 (by simp (disch:=first|omega|simp<;>omega|fail) [-zA,-zB,-zC,-zD,-zE,zqpn,zg8e]) (by simp (disch:=first|omega|simp<;>omega|fail) [-zA,-zB,-zC,-zD,-zE,zqpn])) ?_
  refine zftn (fun e s ⟨he,G2,h2,l2,hw⟩ => ?_) hmid
  subst he
  simp only [zd2q]
  refine zqfd (hw _) ?_
  have hlk:=zlaq (layN p q (csR u) (n+1)).1 (gQ p q)
  have hmo:=l2.mo
  simp only [qK,gQ] at hlk
  have hcast:((3:Nat):Int)=3:=rfl
  rw [hcast] at hlk
  simp only [zqpn]
  have b3 : ∀ a b:Int,zvnk [DV.int .i64 0,.int .i64 0,.int .i64 0] [(0,1,.int .i64 a),(1,1,.int .i64 b),(2,1,.int .i64 3)]=some (.agg [.int .i64 a,.int .i64 b,.int .i64 3]):=fun a b=>zlwt
  have hgq:((p.length,q.length,3):Q)=gQ p q:=rfl
  rw [hgq] at hlk
  cases hg:getC (layN p q (csR u) (n+1)).1 (gQ p q) with
  | some v =>
   have hmem:=zfzm (C:=(layN p q (csR u) (n+1)).1) (x:=gQ p q) (by rw [hg]; rfl)
   have hov:comB p q=true:=by
    obtain ⟨m,hm,h'⟩:=(zfqe p q hp hq hz (n+1) _).1 hmem
    exact zeiw ((z1mn hp hq hz hd).1 ⟨m,by omega,h'⟩)
   rw [hg] at hlk
   refine zbn1 (V_W mix z43l ?_)
   simp (disch:=first|omega|simp<;>omega|fail) [-zA,-zB,-zC,-zD,-zE,pV,b3,hmo,hlk,lkD,z9c8,z7cj,hov]
  | none =>
   have hno:gQ p q ∉ kC (layN p q (csR u) (n+1)).1:=zcii.1 hg
   rw [hg] at hlk
   refine zbn1 (V_W mix z43l ?_)
   simp (disch:=first|omega|simp<;>omega|fail) [-zA,-zB,-zC,-zD,-zE,pV,b3,hmo,hlk,lkD,z9c8]
   refine V_W mix z43l ?_
   simp (disch:=first|omega|simp<;>omega|fail) [-zA,-zB,-zC,-zD,-zE]
   refine V_W mix z43l ?_
   simp (disch:=first|omega|simp<;>omega|fail) [-zA,-zB,-zC,-zD,-zE]
   exact ⟨⟨n+1,G2,h2⟩,z515 (by simp (disch:=first|omega|simp<;>omega|fail) [-zA,-zB,-zC,-zD,-zE,sO,z3g7,pV]) (by simp (disch:=first|omega|simp<;>omega|fail) [-zA,-zB,-zC,-zD,-zE,sO,z3g7]),by simp only; omega,⟨by simp only; omega,hno,l2⟩⟩
 ·have hov:comB p q=false:=by
   refine z9w5 fun hc => ?_
   obtain ⟨m,hm,h'⟩:=(z1mn hp hq hz hd).2 hc
   apply r2
   by_cases e:n=200
   ·subst e
    exact (zfqe p q hp hq hz 200 _).2 ⟨m,hm,h'⟩
   ·have he:(layN p q (csR u) n).2=[]:=Classical.byContradiction fun q'=>hn ⟨by omega,q'⟩
    by_cases hmn:m≤n
    ·exact (zfqe p q hp hq hz n _).2 ⟨m,hmn,h'⟩
    ·obtain ⟨k,rfl⟩ : ∃ k,m=n+k:=⟨m-n,by omega⟩
     rw [(zbj6 he k).1] at h'
     simp at h'
  by_cases e:n<200
  ·have he:(layN p q (csR u) n).2=[]:=Classical.byContradiction fun q'=>hn ⟨e,q'⟩
   have e':(n:Int)<200:=by omega
   rw [he] at hlen
   refine zbn1 (V_W mix z43l ?_)
   simp (disch:=first|omega|simp<;>omega|fail) [-zA,-zB,-zC,-zD,-zE,e,e',he,hlen]
   refine V_W mix z43l ?_
   simp (disch:=first|omega|simp<;>omega|fail) [-zA,-zB,-zC,-zD,-zE,zvuy,z7cj,hov]
  ·have e':¬ (n:Int)<200:=by omega
   refine zbn1 (V_W mix z43l ?_)
   simp (disch:=first|omega|simp<;>omega|fail) [-zA,-zB,-zC,-zD,-zE,e,e']
   refine V_W mix z43l ?_
   simp (disch:=first|omega|simp<;>omega|fail) [-zA,-zB,-zC,-zD,-zE,zvuy,z7cj,hov]
theorem z369 (s t:List UInt8) (hb:s.length+t.length≤100):Am.Sem P 15 [.str s,.str t] (.bool (ovrB s t)):=by
 cases hp:zfn1 s with
 | none =>
  have hd:ovrB s t=false:=by unfold ovrB; rw [hp]
  rw [hd]
  refine znz9 Tryd.func15 zz37 (V_W mix z43l ?_)
  cases hq:zfn1 t with
  | none=>simp (disch:=first|omega|simp<;>omega|fail) [-zA,-zB,-zC,-zD,-zE,a15,z0ck,zk5k,z8r4,hp,hq,zoby]
  | some q=>simp (disch:=first|omega|simp<;>omega|fail) [-zA,-zB,-zC,-zD,-zE,a15,z0ck,zk5k,z8r4,hp,hq,zoby]
 | some p =>
  cases hq:zfn1 t with
  | none =>
   have hd:ovrB s t=false:=by unfold ovrB; rw [hp,hq]
   rw [hd]
   refine znz9 Tryd.func15 zz37 (V_W mix z43l ?_)
   simp (disch:=first|omega|simp<;>omega|fail) [-zA,-zB,-zC,-zD,-zE,a15,z0ck,zk5k,z8r4,hp,hq,zoby]
  | some q =>
   have hd:ovrB s t=comB p q:=by unfold ovrB; rw [hp,hq]
   have lp:=zxnm hp
   have lq:=zxnm hq
   have hu:(s++t).length≤100:=by simp; omega
   have hzs:noZ (s++t)=true:=by
    rw [z2u1]
    have a1:noZ s=true:=(zl9r hp).2.2.1
    have a2:noZ t=true:=(zl9r hq).2.2.1
    rw [a1,a2]; rfl
   have hz:=zc8i hu hzs p q
   have hdm:Dom p q (csR (s++t)):=zuyd hu (fun c hc=>by
    obtain ⟨x,hx,e⟩:=zxh0 hp hc
    exact ⟨x,y06 _ hx,e⟩) (fun c hc=>by
    obtain ⟨x,hx,e⟩:=zxh0 hq hc
    exact ⟨x,List.mem_append_right _ hx,e⟩)
   have hll:=(zlm1 hu).2.2.2.2
   rw [hd]
   refine znz9 Tryd.func15 zz37 (zftn (OvK.pure rfl) ?_)
   simp only [a15]
   refine zbn1 (V_W mix z43l ?_)
   simp (disch:=first|omega|simp<;>omega|fail) [-zA,-zB,-zC,-zD,-zE]
   refine zbn1 (V_W mix z43l ?_)
   simp (disch:=first|omega|simp<;>omega|fail) [-zA,-zB,-zC,-zD,-zE,z0ck,zk5k,z8r4,hp,zoby]
   refine zbn1 (V_W mix z43l ?_)
   simp (disch:=first|omega|simp<;>omega|fail) [-zA,-zB,-zC,-zD,-zE,z0ck,zk5k,z8r4,hq,zoby]
   refine zbn1 (V_W mix z43l ?_)
   simp (disch:=first|omega|simp<;>omega|fail) [-zA,-zB,-zC,-zD,-zE]
   refine zbn1 (V_W mix z43l ?_)
   simp (disch:=first|omega|simp<;>omega|fail) [-zA,-zB,-zC,-zD,-zE,zdki,z6gc hb,letV]
   refine zh35 (l1:=[]) (fun e t h h' q=>⟨q.out⟩) ?_
   intro b hb2
   clear hb2
   refine zeh9 z43l ?_
   simp (disch:=first|omega|simp<;>omega|fail) [-zA,-zB,-zC,-zD,-zE]
   have h0:CL p.length q.length ([],[]):=⟨⟨fun e he=>by simp at he,by simp⟩,by simp⟩
   obtain ⟨G',k,c1,c2,c3⟩:=znzs p q lp lq b fu [] [] oQ (oQ,0#8) [.mapo b []] 0 (by unfold fu oQ; simp only; omega) ⟨by simp [oQ],by simp [oQ],by simp [oQ]⟩ h0 ⟨by simp [zfel,sM],fun e=>absurd rfl e⟩
   have e0:vis p q fu [] [] oQ (oQ,0#8)=layN p q (csR (s++t)) 0:=rfl
   rw [e0] at c1 c2
   obtain ⟨TA,fA,sA,a1,a2,a3⟩:=exTH z43l c1
   have b3:zvnk [DV.int .i64 0,.int .i64 0,.int .i64 0] [(0,1,.int .i64 0),(1,1,.int .i64 0),(2,1,.int .i64 0)]=some (.agg [.int .i64 0,.int .i64 0,.int .i64 0]):=rfl
   simp only [qC,oQ,zg8e,Int.natCast_zero,pV] at a2
   refine zbn1 (V_W mix sA ?_)
   simp (disch:=first|omega|simp<;>omega|fail) [-zA,-zB,-zC,-zD,-zE,b3,a1,a2]
   refine zbn1 (zbn1 (V_W mix z43l ?_))
   simp (disch:=first|omega|simp<;>omega|fail) [-zA,-zB,-zC,-zD,-zE]
   refine zqfd (st':=sO p q (s++t) b ⟨0,G',k⟩) (z515 (by simp (disch:=first|omega|simp<;>omega|fail) [-zA,-zB,-zC,-zD,-zE,sO,z3g7,pV,byV]) (by simp (disch:=first|omega|simp<;>omega|fail) [-zA,-zB,-zC,-zD,-zE,sO,z3g7])) ?_
   exact znsi p q lp lq (s++t) hll hz hdm b ⟨0,G',k⟩ ⟨by simp,z5hh lp lq,c2⟩
end Go.Proofs.YtaihpefemjlilaaDoor
set_option linter.unusedSimpArgs false
set_option linter.unusedVariables false
namespace Go.Proofs.YtaihpefemjlilaaDoor
open Go Go.Am
theorem z8nr {p q:List Pt} (hp:p.length≤200) (hq:q.length≤200) (lp:Lz p) (lq:Lz q) {w:List UInt8} (h:ovP p q=some w):Com p q∧Fnd p q w:=by
 unfold ovP at h
 obtain ⟨n,h1,rfl⟩:=y0v.1 h
 obtain ⟨_,h2,h3⟩:=z5fn 201 0 h1
 have h3':gQ p q ∈ (layN p q chP n).2:=of_decide_eq_true h3
 have hz:=z3f2 lp lq
 exact ⟨(z1mn hp hq hz (zxl6 p q)).1 ⟨n,by omega,h3'⟩,z5xa hp hq hz (by omega) h3'⟩
theorem zidu {p q:List Pt} (hp:p.length≤200) (hq:q.length≤200) (lp:Lz p) (lq:Lz q) (h:ovP p q=none):¬ Com p q:=by
 unfold ovP at h
 rw [Option.map_eq_none_iff] at h
 intro hc
 obtain ⟨m,hm,h'⟩:=(z1mn hp hq (z3f2 lp lq) (zxl6 p q)).2 hc
 have:=zriv 201 0 h m (Nat.zero_le _) (by omega)
 exact of_decide_eq_false this h'
theorem zr81 (s t:List UInt8):match ovD s t with
  | some w=>ovrB s t=true∧zenh s w=true∧zenh t w=true
  | none=>ovrB s t=false:=by
 unfold ovD ovrB
 cases hp:zfn1 s with
 | none=>rfl
 | some p =>
  cases hq:zfn1 t with
  | none=>rfl
  | some q =>
   have lp:=zxnm hp
   have lq:=zxnm hq
   cases h:ovP p q with
   | none=>simp only [h]; exact z9w5 (zidu lp lq (z590 hp) (z590 hq) h)
   | some w =>
    simp only [h]
    obtain ⟨h1,h2⟩:=z8nr lp lq (z590 hp) (z590 hq) h
    refine ⟨zeiw h1,?_,?_⟩
    ·unfold zenh; rw [hp]; simp only [h2.a,h2.c,Bool.and_self]
    ·unfold zenh; rw [hq]; simp only [h2.b,h2.c,Bool.and_self]
noncomputable def cOvr:List DV→Option DV:=con (fun a:List UInt8 × List UInt8=>a.1.length+a.2.length≤100) (fun a=>[.str a.1,.str a.2]) (fun a => .bool (ovrB a.1 a.2))
theorem z14i {s t:List UInt8} (h:s.length+t.length≤100):cOvr [.str s,.str t]=some (.bool (ovrB s t)) :=
 z400 (A:=fun a:List UInt8 × List UInt8=>a.1.length+a.2.length≤100) (a:=(s,t)) (f:=fun a=>[.str a.1,.str a.2]) (g:=fun a => .bool (ovrB a.1 a.2)) (by
  rintro ⟨a,b⟩ ⟨c,d⟩ _ _ e
  simp only [List.cons.injEq,DV.str.injEq,and_true] at e
  obtain ⟨rfl,rfl⟩:=e; rfl) h
def ovB (s t:List UInt8):DV:=ovV (ovD s t)
def mtB (p s:List UInt8):DV := .bool (zenh p s)
noncomputable def TAw:Tbl:=addT 42 (.pure (cSS mtB)) (addT 24 (.pure (cS za1j)) tbl0)
theorem zs9y:TAw 42 = .pure (cSS mtB):=by simp [TAw]
theorem zc3x:TAw 24 = .pure (cS za1j):=by simp [TAw]
theorem zqe8:TAw.Sound P :=
 z0rp (zd7v fun p s=>zljw mix zy0e Tryd.func42 zl17 (z3jz p s))
 (z0rp (zzn8 fun p=>zljw mix zhpa Tryd.func24 zcoa (zqqw p)) zr5o)
theorem awk1:zenh [115,114,99,47,42,46,99] [115,114,99,47,97,46,99]=true:=by decide +kernel
theorem awk2:zenh [115,114,99,47,42,46,99] [115,114,99,47,120,47,97,46,99]=false:=by decide +kernel
theorem awk3:zj1f [97,47,98]=true:=by decide +kernel
theorem z681:Runs TAw a16 [] (.bool true):=by
 refine ⟨?_⟩
 simp (disch:=first|omega|simp<;>omega|fail) [-zA,-zB,-zC,-zD,-zE,a16,zs9y,zc3x,z5o0,zk5k,mtB,za1j,awk1,awk2,awk3]
def cTr:List DV→Option DV
 | []=>some (.bool true)|_=>none
theorem zjnj:cTr []=some (.bool true):=rfl
theorem zdan {f:Nat} (h:Am.Sem P f [] (.bool true)):(Con.pure cTr).Sound P f:=by
 intro args v e
 unfold cTr at e
 split at e
 ·simp at e; subst e; exact h
 ·simp at e
end Go.Proofs.YtaihpefemjlilaaDoor
set_option linter.unusedSimpArgs false
set_option linter.unusedVariables false
namespace Go.Proofs.YtaihpefemjlilaaDoor
open Go Go.Am
noncomputable def TZ:Tbl:=addT 16 (.pure cTr) (addT 14 (.pure (cSS ovB)) (addT 15 (.pure cOvr) (addT 17 (.pure (cSS mtB)) tbl0)))
theorem z0cx:TZ 16 = .pure cTr:=by simp [TZ]
theorem zgg2:TZ 14 = .pure (cSS ovB):=by simp [TZ]
theorem z5ct:TZ 15 = .pure cOvr:=by simp [TZ]
theorem zg2f:TZ 17 = .pure (cSS mtB):=by simp [TZ]
theorem zejn:TZ.Sound P :=
 z0rp (zdan (zljw mix zqe8 Tryd.func16 zddi z681))
 (z0rp (zd7v fun s t=>ze35 s t)
 (z0rp (z2au fun a h=>z369 a.1 a.2 h)
 (z0rp (zd7v fun p s=>zljw mix zx50 Tryd.func17 zcaf (zfpx p s)) zr5o)))
theorem zg9p (p q:List UInt8):Runs TZ a4 [.str p,.str q] (.bool true):=by
 refine ⟨?_⟩
 by_cases h1:24<p.length
 ·have h1':(24:Int)<p.length:=by omega
  simp (disch:=first|omega|simp<;>omega|fail) [-zA,-zB,-zC,-zD,-zE,a4,h1,h1']
 have h1':¬ (24:Int)<p.length:=by omega
 by_cases h2:24<q.length
 ·have h2':(24:Int)<q.length:=by omega
  simp (disch:=first|omega|simp<;>omega|fail) [-zA,-zB,-zC,-zD,-zE,a4,h1,h1',h2,h2']
 have h2':¬ (24:Int)<q.length:=by omega
 have hb:p.length+q.length≤100:=by omega
 have ho:=z14i hb
 have hs:=zr81 p q
 cases h:ovD p q with
 | none =>
  rw [h] at hs
  simp only at hs
  simp (disch:=first|omega|simp<;>omega|fail) [-zA,-zB,-zC,-zD,-zE,a4,h1,h1',h2,h2',zgg2,z5o0,ovB,h,ovV,z5ct,ho,hs,z0cx,zjnj]
 | some w =>
  rw [h] at hs
  obtain ⟨k1,k2,k3⟩:=hs
  simp (disch:=first|omega|simp<;>omega|fail) [-zA,-zB,-zC,-zD,-zE,a4,h1,h1',h2,h2',zgg2,z5o0,ovB,h,ovV,z5ct,ho,k1,z0cx,zjnj,zg2f,mtB,k2,k3]
end Go.Proofs.YtaihpefemjlilaaDoor
namespace Go.Proofs.YtaihpefemjlilaaDoor.patternOverlaps
open Go.ChangeShapes Go.WideShapes Go.ChangeAt Go.RowKit Go.Am
theorem law_holds (dvs:List DV) (h:Ty.Args [.str,.str] dvs):Am.Sem P 4 dvs (.bool true):=by
 obtain ⟨p,q,rfl⟩:=z612 h
 exact zljw mix zejn Tryd.func4 zn8d (zg9p p q)
end Go.Proofs.YtaihpefemjlilaaDoor.patternOverlaps
