/-
  3 texts of mine in one.
-/
import Derived.Test.YtaihpefemjlilaaDoorCc02078ea
import Derived.Test.YtaihpefemjlilaaDoorCf3c0fb57
import Derived.Test.YtaihpefemjlilaaDoorC6585a2f5
import Derived.Test.YtaihpefemjlilaaDoorC11682c8d
set_option maxRecDepth 20000
set_option maxHeartbeats 4000000
open List renaming map_take → zA, map_drop → zB, map_set → zC, map_append → zD, drop_one → zE
open List renaming getElem?_set_ne → y00, getElem?_set_self → y01, getElem?_append_left → y03, getElem?_append_right → y04, getD_eq_getElem?_getD → y06, getElem?_map → y07, getElem?_eq_getElem → y08, getElem_cons_zero → y09, getElem_cons_succ → y0a, length_cons → y0b, getElem?_eq_some_iff → y0c, getElem?_cons_zero → y0d, length_set → y0e, getElem?_mapIdx → y0f
open Nat renaming le_refl → y0g
open Option renaming map_eq_some_iff → y02, bind_eq_some_iff → y05
set_option linter.unusedSimpArgs false
set_option linter.unusedVariables false
namespace Go.Am
open Go.RowKit
def rnI (id n i:Nat):Nat:=if i=0 then id else n+(i-1)
mutual
/-- objects renumbered: the first one, and the others -/
def rnD (id n:Nat):DV→DV
  | .agg cs => .agg (rnL id n cs)
  | .tup cs => .tup (rnL id n cs)
  | .sl b s m cs => .sl b s m (rnL id n cs)
  | .ref cs => .ref (rnL id n cs)
  | .fn f a b => .fn f (rnL id n a) (rnL id n b)
  | .iface t v => .iface t (rnD id n v)
  | .ms i ver off s m lim => .ms (rnI id n i) ver off s m lim
  | .mp i ver off => .mp (rnI id n i) ver off
  | .int k m => .int k m
  | .bool b => .bool b
  | .str s => .str s
  | .nilp => .nilp
  | .nilm => .nilm
  | .mapv b => .mapv b
  | .nilf => .nilf
  | .nili => .nili
  | .nils => .nils
  | .junk => .junk
def rnL (id n:Nat):List DV→List DV
  | []=>[]
  | d::r=>rnD id n d::rnL id n r
end
def rnO (id n:Nat):AObj→AObj
  | .cells cs => .cells (rnL id n cs)
  | .dead => .dead
  | .mapo b m => .mapo b m
theorem z7nv (id n:Nat) : ∀ (l:List DV),rnL id n l=l.map (rnD id n)
  | []=>rfl
  | d::r=>by simp only [rnL,List.map_cons,z7nv id n r]
theorem zxic (id n:Nat) (l:List DV):(rnL id n l).length=l.length:=by simp [z7nv]
theorem zzl0 (id n:Nat) (a b:List DV):rnL id n (a++b)=rnL id n a++rnL id n b:=by simp [z7nv]
mutual
theorem zrzi (id n:Nat) : ∀ (d:DV),zyp8 d=true→rnD id n d=d
  | .agg cs,h=>by simp only [zyp8] at h; simp only [rnD,zmhl id n cs h]
  | .tup cs,h=>by simp only [zyp8] at h; simp only [rnD,zmhl id n cs h]
  | .sl b s m cs,h=>by simp only [zyp8] at h; simp only [rnD,zmhl id n cs h]
  | .ref cs,h=>by simp only [zyp8] at h; simp only [rnD,zmhl id n cs h]
  | .fn f a b,h=>by simp only [zyp8,Bool.and_eq_true] at h; simp only [rnD,zmhl id n a h.1,zmhl id n b h.2]
  | .iface t v,h=>by simp only [zyp8] at h; simp only [rnD,zrzi id n v h]
  | .ms ..,h=>by simp [zyp8] at h
  | .mp ..,h=>by simp [zyp8] at h
  | .int ..,_=>rfl
  | .bool ..,_=>rfl
  | .str ..,_=>rfl
  | .nilp,_=>rfl
  | .nilm,_=>rfl
  | .mapv _,_=>rfl
  | .nilf,_=>rfl
  | .nili,_=>rfl
  | .nils,_=>rfl
  | .junk,_=>rfl
theorem zmhl (id n:Nat) : ∀ (l:List DV),zbao l=true→rnL id n l=l
  | [],_=>rfl
  | d::r,h=>by simp only [zbao,Bool.and_eq_true] at h; simp only [rnL,zrzi id n d h.1,zmhl id n r h.2]
end
theorem z8xk {id n:Nat} {ds:List DV} {i:Nat} (h:i<(rnL id n ds).length):(rnL id n ds)[i]=rnD id n (ds[i]'(by rwa [zxic] at h)):=by simp [z7nv]
theorem Rep.ren {EE E':Env} {X X':XSet} {w:World} {id n:Nat} (hE : ∀ i,i<E'.length→rnI id n i<EE.length∧EE[rnI id n i]? = E'[i]?) {v:Value} {d:DV} (h:Rep E' X w v d) (hX : ∀ b o,X' b o→X b o):Rep EE X' w v (rnD id n d):=by
  induction h with
  | int k n=>exact .int k n
  | bool b=>exact .bool b
  | str s l h=>exact .str s l h
  | agg cs ds hl _ ih=>exact .agg cs _ (by rw [zxic]; exact hl) (fun i h1 h2=>by rw [z8xk]; exact ih i h1 (by rwa [zxic] at h2))
  | tup cs ds hl _ ih=>exact .tup cs _ (by rw [zxic]; exact hl) (fun i h1 h2=>by rw [z8xk]; exact ih i h1 (by rwa [zxic] at h2))
  | nilp=>exact .nilp
  | nilm=>exact .nilm
  | mapv b=>exact .mapv b
  | nilf=>exact .nilf
  | nili=>exact .nili
  | nils=>exact .nils
  | sl full s n cap a ds cv hn hf hl hc hx _ ih =>
    exact .sl full s n cap a _ cv hn hf (by rw [zxic]; exact hl) (fun i hi=>hc i (by rwa [zxic] at hi)) (fun i hi h'=>hx i (by rwa [zxic] at hi) (hX _ _ h')) (fun i h1=>by rw [z8xk]; exact ih i (by rwa [zxic] at h1))
  | ref a ds cv hc hx _ ih =>
    exact .ref a _ cv (fun i hi=>hc i (by rwa [zxic] at hi)) (fun i hi h'=>hx i (by rwa [zxic] at hi) (hX _ _ h')) (fun i h1=>by rw [z8xk]; exact ih i (by rwa [zxic] at h1))
  | fn f first captured df dc h1 h2 _ _ ih1 ih2 =>
    exact .fn f first captured _ _ (by rw [zxic]; exact h1) (by rw [zxic]; exact h2) (fun i a b=>by rw [z8xk]; exact ih1 i a (by rwa [zxic] at b)) (fun i a b=>by rw [z8xk]; exact ih2 i a (by rwa [zxic] at b))
  | iface t v d _ ih=>exact .iface t v _ ih
  | ms id ver off s n lim a k cap hid h =>
    refine .ms _ ver off s n lim a k cap (hE _ hid).1 (fun b L he=>h b L ?_)
    rwa [(hE _ hid).2] at he
  | mp id ver off a hid h =>
    refine .mp _ ver off a (hE _ hid).1 (fun b L he=>h b L ?_)
    rwa [(hE _ hid).2] at he
  | junk v=>exact .junk v
theorem zwy1.tchR {P:Program} {g:FuncId} {r l:List DV} {Ψ:DV→List AObj→Prop} (hp:zbao r=true) (hl:zbao l=true) (hΨ : ∀ d q,Ψ d q → ∃ l' k,q = .cells l'::k)
    (hc:zwy1 P g (.mp 0 l.length 0::r) [.cells l] Ψ) {h:List AObj} {id:Nat} (ho:ziu0 h id=some l) :
    zwy1 P g (.mp id l.length 0::r) h (fun d q => ∃ v l' k,Ψ v (.cells l'::k)∧d=rnD id h.length v∧q=h.set id (.cells (rnL id h.length l'))++k.map (rnO id h.length)):=by
  refine fun X0 base w E vs hh hr => ?_
  have hid:h[id]? = some (.cells l):=by
    unfold ziu0 at ho
    split at ho
    · rename_i e; simp at ho; subst ho; exact e
    · simp at ho
  obtain ⟨b,arr,t,g1,g2,g3,g4,g5⟩:=hh.cells id l hid
  have hlive : ∀ {j c L:Nat},E[j]? = some (some (c,L))→c<w.heap.size:=fun hE=>by
    obtain ⟨_,_,_,_,_,_,g,_⟩:=hh.live hE
    exact (Array.getElem?_eq_some_iff.1 g).1
  have hone : ∀ {j c L:Nat},[some (b,l.length)][j]? = some (some (c,L))→j=0∧c=b∧L=l.length:=fun {j c L} q=>by
    cases j with
    | zero=>simp at q; exact ⟨rfl,q.1.symm,q.2.symm⟩
    | succ j=>simp at q
  have hfx : ∀ c o,FX (FB X0 E b) [some (b,l.length)] c o→FX X0 E c o:=by
    rintro c o (q|⟨j,L,q⟩)
    · exact q.1
    · obtain ⟨_,rfl,_⟩:=hone q
      exact .inr ⟨id,_,g1⟩
  have h0:HeapRel (FB X0 E b) base w [.cells l] [some (b,l.length)]:=by
    refine ⟨rfl,fun c o q=>⟨?_,fun j L q'=>q.2 (hone q').2.1⟩,hh.size,fun j cs hj => ?_,fun j hj => ?_,fun j j' c L c' L' hne h1 h2=>absurd ((hone h1).1.trans (hone h2).1.symm) hne,⟨fun b q=>q.elim,fun b o _ q=>q,fun j b m hj=>by cases j<;>simp at hj,fun j j' b m m' hj=>by cases j<;>simp at hj,fun b q=>q.elim⟩⟩
    · rcases q.1 with q|⟨j,L,q⟩
      · exact (hh.x0 _ _ q).1
      · exact hlive q
    · cases j with
      | succ j=>simp at hj
      | zero =>
        simp at hj
        subst hj
        exact ⟨b,arr,t,rfl,g2,g3,g4,fun i h1 h2=>((g5 i h1 h2).env (zf6b hl i h1)).less hfx⟩
    · cases j with
      | succ j=>simp at hj
      | zero=>simp at hj
  have hargs:RepA [some (b,l.length)] (FX (FB X0 E b) [some (b,l.length)]) w vs.toList (.mp 0 l.length 0::r):=by
    refine ⟨by simpa using hr.1,fun i h1 h2 => ?_⟩
    have:=hr.2 i h1 (by simpa using h2)
    cases i with
    | zero =>
      simp only [y09] at this ⊢
      generalize vs.toList[0]=x at this ⊢
      cases this with
      | mp _ _ _ a hid' hm =>
        refine .mp 0 _ _ a (by simp) (fun c L q => ?_)
        obtain ⟨_,rfl,rfl⟩:=hone q
        exact hm _ _ g1
    | succ i =>
      simp only [y0a] at this ⊢
      exact (this.env (zf6b hp i _)).less hfx
  refine (hc _ base w _ vs h0 hargs).mono fun e w' ⟨v0,d,q,E',e1,eΨ,e3,e4,e5⟩ => ?_
  obtain ⟨l',k,rfl⟩:=hΨ _ _ eΨ
  obtain ⟨b2,arr2,t2,q1,q2,q3,q4,q5⟩:=e3.cells 0 l' rfl
  have hlt:id<E.length:=(y0c.1 g1).1
  have hlt':id<h.length:=by rw [← hh.len]; exact hlt
  cases E' with
  | nil=>simp at q1
  | cons e0 E1 =>
  simp only [y0d,Option.some.injEq] at q1
  subst q1
  have hE1:E1.length=k.length:=by have:=e3.len; simpa using this
  have hEh:E.length=h.length:=hh.len
  have other : ∀ {j c L:Nat},id≠j→E[j]? = some (some (c,L))→c≠b∧w'.heap[c]? = w.heap[c]? ∧ ∀ (i L':Nat),(some (b2,l'.length)::E1)[i]? ≠ some (some (c,L')):=fun {j c L} hne q=>by
    have hcb:c≠b:=hh.apart _ _ _ _ _ _ (Ne.symm hne) q g1
    obtain ⟨f1,f2⟩:=e5.frame c (hlive q) (fun j' L' q'=>hcb (hone q').2.1)
    exact ⟨hcb,f1 (fun q=>q),f2⟩
  have hlook : ∀ {j c L:Nat},(E.set id (some (b2,l'.length))++E1)[j]? = some (some (c,L))→(j=id∧c=b2∧L=l'.length)∨(id≠j∧E[j]? = some (some (c,L)))∨(E.length≤j∧E1[j-E.length]? = some (some (c,L))):=fun {j c L} q=>by
    by_cases hj:j<E.length
    · rw [y03 (by simpa using hj)] at q
      by_cases e:id=j
      · subst e; rw [y01 hlt] at q; simp at q; exact .inl ⟨rfl,q.1.symm,q.2.symm⟩
      · rw [y00 e] at q; exact .inr (.inl ⟨e,q⟩)
    · rw [y04 (by simp; omega)] at q
      exact .inr (.inr ⟨by omega,by simpa using q⟩)
  have hE : ∀ i,i<(some (b2,l'.length)::E1).length→rnI id h.length i<(E.set id (some (b2,l'.length))++E1).length∧(E.set id (some (b2,l'.length))++E1)[rnI id h.length i]? = (some (b2,l'.length)::E1)[i]? := fun i hi=>by
    cases i with
    | zero =>
      simp only [rnI,if_true,y0d]
      exact ⟨by simp; omega,by rw [y03 (by simpa using hlt),y01 hlt]⟩
    | succ i =>
      simp only [rnI,Nat.add_one_ne_zero,if_false,Nat.add_sub_cancel,List.getElem?_cons_succ]
      simp only [y0b] at hi
      exact ⟨by simp; omega,by rw [y04 (by simp; omega)]; congr 1; simp; omega⟩
  have hFX : ∀ c o,FX X0 (E.set id (some (b2,l'.length))++E1) c o→FX (FB X0 E b) (some (b2,l'.length)::E1) c o:=by
    rintro c o (q|⟨j,L,q⟩)
    · exact .inl ⟨.inl q,fun e=>(hh.x0 _ _ q).2 id l.length (by rw [e]; exact g1)⟩
    · rcases hlook q with ⟨_,rfl,_⟩|⟨hne,q⟩|⟨_,q⟩
      · exact .inr ⟨0,_,rfl⟩
      · exact .inl ⟨.inr ⟨j,L,q⟩,(other hne q).1⟩
      · exact .inr ⟨j-E.length+1,L,by simpa using q⟩
  have htr:Trans X0 base E w (E.set id (some (b2,l'.length))++E1) w':=by
    refine ⟨⟨by simp,fun j hj c L q => ?_⟩,⟨fun a u hcu hx => ?_⟩,e5.below,fun k o h1 h2 _=>e5.others k o h1 h2 (fun q=>q),fun c hc hl => ?_⟩
    · rcases hlook q with ⟨rfl,rfl,rfl⟩|⟨hne,q⟩|⟨hle,_⟩
      · obtain ⟨b0,L0,k1,k2,k3⟩:=e5.env.at_ 0 (by simp) _ _ rfl
        obtain ⟨_,rfl,rfl⟩:=hone k1
        exact ⟨_,_,g1,k2,k3⟩
      · refine ⟨c,L,q,y0g _,fun _=>⟨rfl,fun c' t' fr' hc'=>⟨c',t',fr',?_,rfl⟩⟩⟩
        rw [← (other hne q).2.1]; exact hc'
      · omega
    · obtain ⟨k1,k2⟩:=e5.keep.cell a u hcu (fun q=>hx (hfx _ _ q))
      exact ⟨k1,fun q=>k2 (hFX _ _ q)⟩
    · obtain ⟨k1,k2⟩:=e5.frame c hc (fun j L q=>by
        obtain ⟨_,rfl,rfl⟩:=hone q
        exact hl id _ g1)
      refine ⟨fun _=>k1 (fun q=>q),fun j L q => ?_⟩
      rcases hlook q with ⟨_,rfl,_⟩|⟨_,q⟩|⟨_,q⟩
      · exact k2 0 _ rfl
      · exact hl j L q
      · exact k2 (j-E.length+1) L (by simpa using q)
  refine ⟨v0,_,_,E.set id (some (b2,l'.length))++E1,e1,⟨d,l',k,eΨ,rfl,rfl⟩,⟨by simp [hh.len,hE1],hh.x0' htr,e3.size,fun j cs hj => ?_,fun j hj => ?_,fun j j' c L c' L' hne h1 h2 => ?_,hh.maps.kept (fun c q=>(e5.frame c (hh.maps.lt q) (fun j L q'=>(hh.maps.ncell g3 ((hone q').2.1▸q)))).1 (fun q=>q)) fun j c m hj => ?_⟩,Rep.ren hE e4 hFX,htr⟩
  · by_cases hjl:j<h.length
    · rw [y03 (by simpa using hjl)] at hj
      by_cases e:id=j
      · subst e; rw [y01 hlt'] at hj; simp at hj; subst hj
        refine ⟨b2,arr2,t2,by rw [y03 (by simpa using hlt),y01 hlt,zxic],q2,q3,by rw [zxic]; exact q4,fun i h1 h2 => ?_⟩
        rw [z8xk]
        exact Rep.ren hE (q5 i (by rwa [zxic] at h1) h2) hFX
      · rw [y00 e] at hj
        obtain ⟨c,ar,t',k1,k2,k3,k4,k5⟩:=hh.cells j cs hj
        exact ⟨c,ar,t',by rw [y03 (by simp; omega),y00 e]; exact k1,k2,by rw [(other e k1).2.1]; exact k3,k4,fun i h1 h2=>htr.rep (k5 i h1 h2)⟩
    · rw [y04 (by simp; omega),y07] at hj
      obtain ⟨o,ho',hoe⟩:=y02.1 hj
      cases o with
      | dead=>simp [rnO] at hoe
      | mapo b m=>simp [rnO] at hoe
      | cells cs0 =>
        simp only [rnO,AObj.cells.injEq] at hoe
        subst hoe
        simp only [y0e] at ho'
        obtain ⟨c,ar,t',k1,k2,k3,k4,k5⟩:=e3.cells (j-h.length+1) cs0 (by simpa using ho')
        refine ⟨c,ar,t',?_,k2,k3,by rw [zxic]; exact k4,fun i h1 h2 => ?_⟩
        · rw [y04 (by simp; omega),zxic]
          simpa [hEh] using k1
        · rw [z8xk]
          exact Rep.ren hE (k5 i (by rwa [zxic] at h1) h2) hFX
  · by_cases hjl:j<h.length
    · rw [y03 (by simpa using hjl)] at hj
      by_cases e:id=j
      · subst e; rw [y01 hlt'] at hj; simp at hj
      · rw [y00 e] at hj
        rw [y03 (by simp; omega),y00 e]; exact hh.dead j hj
    · rw [y04 (by simp; omega),y07] at hj
      obtain ⟨o,ho',hoe⟩:=y02.1 hj
      cases o with
      | cells cs0=>simp [rnO] at hoe
      | mapo b m=>simp [rnO] at hoe
      | dead =>
        simp only [y0e] at ho'
        have:=e3.dead (j-h.length+1) (by simpa using ho')
        rw [y04 (by simp; omega)]
        simpa [hEh] using this
  · rcases hlook h1 with ⟨k1,k2,_⟩|⟨k1,k2⟩|⟨k1,k2⟩<;>rcases hlook h2 with ⟨m1,m2,_⟩|⟨m1,m2⟩|⟨m1,m2⟩
    · exact absurd (k1.trans m1.symm) hne
    · rw [k2]; exact fun q=>(other m1 m2).2.2 0 _ (by rw [← q]; rfl)
    · rw [k2]; exact e3.apart 0 (j'-E.length+1) b2 l'.length c' L' (by omega) rfl (by simpa using m2)
    · rw [m2]; exact fun q=>(other k1 k2).2.2 0 _ (by rw [q]; rfl)
    · exact hh.apart _ _ _ _ _ _ hne k2 m2
    · exact fun q=>(other k1 k2).2.2 (j'-E.length+1) L' (by rw [q]; simpa using m2)
    · rw [m2]; exact e3.apart (j-E.length+1) 0 c L b2 l'.length (by omega) (by simpa using k2) rfl
    · exact fun q=>(other m1 m2).2.2 (j-E.length+1) L (by rw [← q]; simpa using k2)
    · exact e3.apart (j-E.length+1) (j'-E.length+1) c L c' L' (by omega) (by simpa using k2) (by simpa using m2)
  · by_cases hjl:j<h.length
    · rw [y03 (by simpa using hjl)] at hj
      by_cases e:id=j
      · subst e; rw [y01 hlt'] at hj; simp at hj
      · rw [y00 e] at hj
        rw [y03 (by simp; omega),y00 e]
        exact ⟨hj,(hh.maps.en j c m hj).1⟩
    · rw [y04 (by simp; omega),y07] at hj
      obtain ⟨o,ho',hoe⟩:=y02.1 hj
      cases o with
      | cells cs0=>simp [rnO] at hoe
      | dead=>simp [rnO] at hoe
      | mapo b' m' =>
        simp only [y0e] at ho'
        exact absurd (e3.maps.en (j-h.length+1) b' m' (by simpa using ho')).2.1 (fun q=>q)
theorem zwy1.tchN {P:Program} {g:FuncId} {r l l':List DV} {v:DV} {k:List AObj} (hp:zbao r=true) (hl:zbao l=true)
    (hc:zwy1 P g (.mp 0 l.length 0::r) [.cells l] (fun d h'=>d=v∧h' = .cells l'::k)) {h:List AObj} {id:Nat} (ho:ziu0 h id=some l) :
    zwy1 P g (.mp id l.length 0::r) h (fun d q=>d=rnD id h.length v∧q=h.set id (.cells (rnL id h.length l'))++k.map (rnO id h.length)) :=
  (zwy1.tchR hp hl (fun d q ⟨_,e⟩=>⟨_,_,e⟩) hc ho).mono fun d q ⟨v',l2,k2,⟨e1,e2⟩,e3,e4⟩=>by
    simp only [List.cons.injEq,AObj.cells.injEq] at e2
    obtain ⟨rfl,rfl⟩:=e2
    subst e1
    exact ⟨e3,e4⟩
open Classical in
noncomputable def z92l {α:Type} (A:α→Prop) (f s:α→List DV) (g:α→DV × List DV × List AObj) (args:List DV) (h:List AObj):Option (DV × List AObj) :=
  match args with
  | .mp id ver 0::r=>if q : ∃ a,A a∧f a=r∧ziu0 h id=some (s a)∧(s a).length=ver then some (rnD id h.length (g q.choose).1,h.set id (.cells (rnL id h.length (g q.choose).2.1))++(g q.choose).2.2.map (rnO id h.length)) else none
  | _=>none
theorem zkrg {α:Type} {A:α→Prop} {f s:α→List DV} {g:α→DV × List DV × List AObj} (hinj : ∀ a b,f a=f b→s a=s b→g a=g b) (a:α) (ha:A a) {h:List AObj} {id ver:Nat} (ho:ziu0 h id=some (s a)) (hv:(s a).length=ver) :
    z92l A f s g (.mp id ver 0::f a) h=some (rnD id h.length (g a).1,h.set id (.cells (rnL id h.length (g a).2.1))++(g a).2.2.map (rnO id h.length)):=by
  have q : ∃ b,A b∧f b=f a∧ziu0 h id=some (s b)∧(s b).length=ver:=⟨a,ha,rfl,ho,hv⟩
  unfold z92l
  simp only
  rw [dif_pos q]
  have e:=q.choose_spec
  rw [hinj _ a e.2.1 (Option.some.inj (e.2.2.1.symm.trans ho))]
theorem zonn {P:Program} {k:FuncId} {α:Type} {A:α→Prop} {f s:α→List DV} {g:α→DV × List DV × List AObj} (hp : ∀ a,A a→zbao (f a)=true∧zbao (s a)=true)
    (hs : ∀ a,A a→zwy1 P k (.mp 0 (s a).length 0::f a) [.cells (s a)] (fun d h=>d=(g a).1∧h = .cells (g a).2.1::(g a).2.2)):(Con.heap (z92l A f s g)).Sound P k:=by
  intro args h v h' hv
  unfold z92l at hv
  split at hv
  · rename_i id ver r
    split at hv
    · rename_i q
      simp only [Option.some.injEq,Prod.mk.injEq] at hv
      obtain ⟨rfl,rfl⟩:=hv
      obtain ⟨h1,h2,h3,h4⟩:=q.choose_spec
      have:=(hs _ h1).tchN (hp _ h1).1 (hp _ h1).2 h3
      rw [h2,h4] at this
      exact this
    · simp at hv
  · simp at hv
theorem ztfj {h:List AObj} {id i:Nat} {c:List DV} (hne:id≠i):ziu0 (h.set id (.cells c)) i=ziu0 h i:=by simp [ziu0,y00 hne]
theorem zi0c {id ver off:Nat} {r c:List DV} {h tail:List AObj}:z03v (.mp id ver off::r) h (h.set id (.cells c)++tail):=by
  intro d r' e i hi hne
  simp only [List.cons.injEq] at e
  obtain ⟨rfl,_⟩:=e
  have:id≠i:=fun q=>hne (by rw [q]; rfl)
  simp only [ziu0]
  rw [y03 (by simpa using hi),y00 this]
theorem z72s {id n:Nat} {k:IntKind} {m:Int}:rnD id n (.int k m) = .int k m:=rfl
theorem zu07 {id n:Nat} {s:List UInt8}:rnD id n (.str s) = .str s:=rfl
theorem z0nr {id n:Nat} {cs:List DV}:rnD id n (.agg cs) = .agg (rnL id n cs):=rfl
theorem z8s4 {id n i ver off s m lim:Nat}:rnD id n (.ms (i+1) ver off s m lim) = .ms (n+i) ver off s m lim:=by simp [rnD,rnI]
theorem zjqi {id n:Nat}:rnL id n []=[]:=rfl
theorem zuoj {id n:Nat} {d:DV} {r:List DV}:rnL id n (d::r)=rnD id n d::rnL id n r:=rfl
theorem z638 {id n:Nat} {cs:List DV}:rnO id n (.cells cs) = .cells (rnL id n cs):=rfl
end Go.Am
set_option linter.unusedSimpArgs false
set_option linter.unusedVariables false
namespace Go.Am
open Go.RowKit
section
variable {P:Program} {X0:Forb} {base:Nat} {E0:Env} {w0:World} {a:Act} {w:World}
theorem zhmt {h:List AObj} {id:Nat} {l:List DV} (e:ziu0 h id=some l):h[id]? = some (.cells l):=by
  unfold ziu0 at e
  split at e
  · rename_i q; simp at e; subst e; exact q
  · simp at e
theorem SR.room {t:List DV} {h:List AObj} {G C i ver s n lim off:Nat} {l rest:List DV} (hG:ziu0 h G=some l) (hv:l.length=ver) (hs:n*s=ver) (hs0:0<s) (hC:ziu0 h C=some (.ms G ver 0 s n lim::rest)) (hne:C≠G)
    (hi:t.getD i .junk = .mp G ver off) {t' rest' cs':List DV} (hc:fzS (· == C) h 3 (.ms G ver 0 s n lim)=some (.sl false s n cs')) (ht':fzSL (· == C) h t t') (hr':fzSL (· == C) h rest rest')
    (hr:SR X0 base E0 w0 ⟨t,h⟩ a w) :
    SR X0 base E0 w0 ⟨t.set i (.mp G (ver+s) off),(h.set G (.cells (l++List.replicate s .junk))).set C (.cells (.ms G (ver+s) 0 s n (ver+s)::rest))⟩ a w ∨
    SR X0 base E0 w0 ⟨t',(mkO (· == C) h 0 h).set C (.cells (.sl true s n cs'::rest'))⟩ a w:=by
  obtain ⟨E,hh,hsz,hrep,hdef,ht⟩:=hr
  simp only at hh hsz hrep
  obtain ⟨bC,arrC,tC,c1,c2,c3,c4,c5⟩:=hh.cells C _ (zhmt hC)
  have hlen:(DV.ms G ver 0 s n lim::rest).length=rest.length+1:=rfl
  have h0:=c5 0 (by simp) (by omega)
  simp only [y09] at h0
  obtain ⟨b,arr,ty,cap,ad,e1,e2,e3,e4,hval,k1,k2,k3,k4,k5⟩:=zuh1 hh h0 hG hv
  have hCl:C<h.length:=z7ba hC
  have hGl:G<h.length:=z7ba hG
  have hEl:E.length=h.length:=hh.len
  by_cases hcap:n+1≤cap
  · left
    have hroom:ver+s≤arr.size:=by
      have:=zbka (s:=s) hcap
      rw [Nat.add_mul] at this
      omega
    have hset : ∀ {j c L:Nat},(E.set G (some (b,ver+s)))[j]? = some (some (c,L))→(j=G∧c=b∧L=ver+s)∨(G≠j∧E[j]? = some (some (c,L))):=fun {j c L} q=>by
      by_cases e:G=j
      · subst e; rw [y01 (by omega)] at q; simp at q; exact .inl ⟨rfl,q.1.symm,q.2.symm⟩
      · rw [y00 e] at q; exact .inr ⟨e,q⟩
    have hblk : ∀ {j c L:Nat},(E.set G (some (b,ver+s)))[j]? = some (some (c,L)) → ∃ L',E[j]? = some (some (c,L')):=fun {j c L} q=>by
      rcases hset q with ⟨rfl,rfl,_⟩|⟨_,q⟩
      · exact ⟨_,e1⟩
      · exact ⟨_,q⟩
    have hFX : ∀ c o,FX X0 (E.set G (some (b,ver+s))) c o→FX X0 E c o:=by
      rintro c o (q|⟨j,L,q⟩)
      · exact .inl q
      · obtain ⟨L',q'⟩:=hblk q; exact .inr ⟨j,L',q'⟩
    have hE:ERel E w (E.set G (some (b,ver+s))) w:=by
      refine ⟨by simp,fun j hj c L q => ?_⟩
      rcases hset q with ⟨rfl,rfl,rfl⟩|⟨_,q⟩
      · exact ⟨_,_,e1,by omega,fun e=>by omega⟩
      · exact ⟨_,_,q,y0g _,fun _=>⟨rfl,fun c' t' fr' hc'=>⟨c',t',fr',hc',rfl⟩⟩⟩
    have hK:Keep (FX X0 E) w (FX X0 (E.set G (some (b,ver+s)))) w:=⟨fun x v hx hn=>⟨hx,fun q=>hn (hFX _ _ q)⟩⟩
    have hEG:(E.set G (some (b,ver+s)))[G]? = some (some (b,ver+s)):=y01 (by omega)
    have hmp : ∀ v,Rep E (FX X0 E) w v (.mp G ver off)→Rep (E.set G (some (b,ver+s))) (FX X0 (E.set G (some (b,ver+s)))) w v (.mp G (ver+s) off):=fun v r=>by
      obtain ⟨_,_,_,f1,_,_,_,f2⟩:=zsi4 hh r hG hv
      subst f2
      rw [e1] at f1
      simp only [Option.some.injEq,Prod.mk.injEq] at f1
      obtain ⟨rfl,_⟩:=f1
      exact ztt2 hEG rfl
    have htr:Trans X0 base E w (E.set G (some (b,ver+s))) w:=⟨hE,hK,.refl _ _,fun _ _ h _ _=>h,fun c hc hl=>⟨fun _=>rfl,fun j L q=>by obtain ⟨L',q'⟩:=hblk q; exact hl j L' q'⟩⟩
    refine ⟨E.set G (some (b,ver+s)),⟨by simp [hEl],fun c o q=>⟨(hh.x0 c o q).1,fun j L q'=>by obtain ⟨L',q2⟩:=hblk q'; exact (hh.x0 c o q).2 j L' q2⟩,hh.size,fun j cs hj => ?_,fun j hj => ?_,fun j j' c L c' L' hne' q q' => ?_,hh.maps.kept (fun _ _=>rfl) fun j b' m hj => ?_⟩,by simpa using hsz,fun j => ?_,hdef,ht.trans htr⟩
    · simp only at hj
      by_cases jC:C=j
      · subst jC
        rw [y01 (by simpa using hCl)] at hj
        simp only [Option.some.injEq,AObj.cells.injEq] at hj
        subst hj
        refine ⟨bC,arrC,tC,by rw [y00 (Ne.symm hne)]; exact c1,c2,c3,c4,fun m h1 h2 => ?_⟩
        cases m with
        | zero =>
          simp only [y09]
          rw [hval]
          have hcs:=zbka (s:=s) hcap
          rw [Nat.add_mul] at hcs
          refine z6v0 (b:=b) (L:=ver+s) (arr:=arr) (t:=ty) hEG rfl e2 (by omega) k1 k3 (by omega) k5
        | succ m =>
          simp only [y0a]
          exact htr.rep (c5 (m+1) (by simpa using h1) h2)
      · rw [y00 jC] at hj
        by_cases jG:G=j
        · subst jG
          rw [y01 hGl] at hj
          simp only [Option.some.injEq,AObj.cells.injEq] at hj
          subst hj
          obtain ⟨b',arr',t',f1,f2,f3,f4,f5⟩:=hh.cells G l (zhmt hG)
          rw [e1] at f1
          simp only [Option.some.injEq,Prod.mk.injEq] at f1
          obtain ⟨rfl,_⟩:=f1
          rw [e2] at f3
          simp only [Option.some.injEq,Obj.cells.injEq] at f3
          obtain ⟨rfl,rfl,_⟩:=f3
          refine ⟨b,arr,ty,by rw [hEG]; simp [hv],f2,e2,by simp; omega,fun m h1 h2 => ?_⟩
          by_cases hm:m<l.length
          · rw [List.getElem_append_left hm]; exact htr.rep (f5 m hm h2)
          · rw [List.getElem_append_right (by omega),List.getElem_replicate]; exact .junk _
        · rw [y00 jG] at hj
          obtain ⟨b',arr',t',f1,f2,f3,f4,f5⟩:=hh.cells j cs hj
          exact ⟨b',arr',t',by rw [y00 jG]; exact f1,f2,f3,f4,fun m h1 h2=>htr.rep (f5 m h1 h2)⟩
    · simp only at hj
      by_cases jC:C=j
      · subst jC; rw [y01 (by simpa using hCl)] at hj; simp at hj
      · rw [y00 jC] at hj
        by_cases jG:G=j
        · subst jG; rw [y01 hGl] at hj; simp at hj
        · rw [y00 jG] at hj ⊢; exact hh.dead j hj
    · obtain ⟨L1,q1⟩:=hblk q
      obtain ⟨L2,q2⟩:=hblk q'
      exact hh.apart _ _ _ _ _ _ hne' q1 q2
    · simp only at hj
      by_cases jC:C=j
      · subst jC; rw [y01 (by simpa using hCl)] at hj; simp at hj
      · rw [y00 jC] at hj
        by_cases jG:G=j
        · subst jG; rw [y01 hGl] at hj; simp at hj
        · rw [y00 jG] at hj ⊢; exact ⟨hj,(hh.maps.en j b' m hj).1⟩
    · simp only
      have:=hrep j
      by_cases e:i=j
      · subst e
        rw [hi] at this
        by_cases hil:i<t.length
        · rw [y06,y01 hil]; exact hmp _ this
        · rw [y06,List.getElem?_eq_none (by simp; omega)]; exact .junk _
      · rw [y06,y00 e,← y06]; exact htr.rep this
  · right
    have hcn:cap=n:=by omega
    subst hcn
    have cell : ∀ {v d d'},Rep E (FX X0 E) w v d→(d' = .junk∨d'=d∨fzS (· == C) h 3 d=some d')→Rep (znb1 (· == C) E) (FX X0 (znb1 (· == C) E)) w v d':=fun r q=>by
      rcases q with q|q|q
      · subst q; exact .junk _
      · subst q; exact r.mask (fun b o h'=>z8rt h')
      · exact zlfw hh 3 r q
    have hm:=zn5q (K:=(· == C)) (h:=h) 0 h
    have hml:=z7w9 hm
    have hfull:Rep (znb1 (· == C) E) (FX X0 (znb1 (· == C) E)) w arrC[0] (.sl true s cap cs'):=by
      have:=zlfw hh 3 h0 hc
      rw [hval] at this ⊢
      cases this with
      | sl _ _ _ _ _ _ cv g1 g2 g3 g4 g5 g6=>exact .sl true s cap cap ad cs' cv (y0g _) (fun _=>rfl) g3 g4 g5 g6
    refine ⟨znb1 (· == C) E,⟨by rw [zudl]; simp [hml,hEl],fun c o q=>⟨(hh.x0 c o q).1,fun id L hL=>(hh.x0 c o q).2 id L (z1pt hL).2⟩,hh.size,fun id cs hid => ?_,fun id hid => ?_,fun id id' c L c' L' hne' h1 h2=>hh.apart _ _ _ _ _ _ hne' (z1pt h1).2 (z1pt h2).2,hh.maps.kept (fun _ _=>rfl) fun id b' m hid => ?_⟩,by rw [z63v ht']; exact hsz,fun j=>cell (hrep j) (z9h0 ht' j),hdef,?_⟩
    · simp only at hid
      by_cases jC:C=id
      · subst jC
        rw [y01 (by rw [hml]; exact hCl)] at hid
        simp only [Option.some.injEq,AObj.cells.injEq] at hid
        subst hid
        have hrl:=z63v hr'
        refine ⟨bC,arrC,tC,by rw [zkym (by simp)]; simpa [hrl] using c1,c2,c3,by simp only [y0b] at c4 ⊢; omega,fun m h1 h2 => ?_⟩
        cases m with
        | zero=>exact hfull
        | succ m =>
          simp only [y0b] at h1
          simp only [y0a]
          have q:=cell (c5 (m+1) (by simp only [y0b]; omega) h2) (d':=rest'.getD m .junk) (by
            have:=z9h0 hr' m
            rw [y06 (l:=rest),y08 (show m<rest.length by omega)] at this
            simpa using this)
          rw [y06,y08 (by omega)] at q
          exact q
      · rw [y00 jC] at hid
        obtain ⟨hk,_⟩:=zc8w hm id cs hid
        simp at hk
        exact absurd hk.symm jC
    · simp only at hid
      by_cases jC:C=id
      · subst jC
        rw [y01 (by rw [hml]; exact hCl)] at hid
        simp at hid
      · rw [y00 jC] at hid
        rcases zkux hm id hid with h1|⟨h1,h2⟩
        · have:=hh.dead id h1
          unfold znb1; rw [y0f,this]; simp
        · rw [Nat.zero_add] at h1
          have hlt:id<E.length:=by rw [hh.len]; exact h2
          unfold znb1; rw [y0f,y08 hlt]; simp only [h1]; rfl
    · simp only at hid
      by_cases jC:C=id
      · subst jC; rw [y01 (by rw [hml]; exact hCl)] at hid; simp at hid
      · rw [y00 jC] at hid
        have:=z6ag hm id b' m hid
        exact ⟨this,zf2s (hh.maps.en id b' m this).1⟩
    · refine ⟨⟨by rw [zudl]; exact ht.env.len,fun id hid b' L' h'=>ht.env.at_ id hid b' L' (z1pt h').2⟩,⟨fun x v hc hx => ?_⟩,ht.below,ht.others,fun b hb hl=>⟨(ht.frame b hb hl).1,fun id L hL=>(ht.frame b hb hl).2 id L (z1pt hL).2⟩⟩
      obtain ⟨g1,g2⟩:=ht.keep.cell x v hc hx
      exact ⟨g1,fun g=>g2 (z8rt g)⟩
end
theorem z6ri {P:Program} {n0:Nat} {x:ACode} {Φ:AExit→St→Prop} {t:List DV} {h:List AObj} {G C i ver s n lim off:Nat} {l rest:List DV} (hG:ziu0 h G=some l) (hv:l.length=ver) (hs:n*s=ver) (hs0:0<s) (hC:ziu0 h C=some (.ms G ver 0 s n lim::rest)) (hne:C≠G)
    (hi:t.getD i .junk = .mp G ver off) {t' rest' cs':List DV} (hc:fzS (· == C) h 3 (.ms G ver 0 s n lim)=some (.sl false s n cs')) (ht':fzSL (· == C) h t t') (hr':fzSL (· == C) h rest rest')
    (hA:V P n0 x Φ ⟨t.set i (.mp G (ver+s) off),(h.set G (.cells (l++List.replicate s .junk))).set C (.cells (.ms G (ver+s) 0 s n (ver+s)::rest))⟩)
    (hB : ∀ h',h'.length=h.length→ziu0 h' C=some (.sl true s n cs'::rest')→V P n0 x Φ ⟨t',h'⟩):V P n0 x Φ ⟨t,h⟩ :=
  ⟨fun c hc' X0 base E0 w0 a w hn hr=>by
    rcases hr.room hG hv hs hs0 hC hne hi hc ht' hr' with q|q
    · exact hA.out c hc' X0 base E0 w0 a w hn q
    · have hml:=z7w9 (zn5q (K:=(· == C)) (h:=h) 0 h)
      have hCl:C<h.length:=z7ba hC
      exact (hB _ (by simp [hml]) (by simp [ziu0,hml,hCl])).out c hc' X0 base E0 w0 a w hn q⟩
end Go.Am
set_option linter.unusedSimpArgs false
set_option linter.unusedVariables false
namespace Go.Am
open Go.RowKit
def z556 (b:Nat) (h:List AObj):List AObj:=h.map fun o=>match o with
  | .mapo b' m=>if b'=b then .dead else .mapo b' m
  | o=>o
def addM (X0:Forb) (b:Nat):Forb:=⟨X0.f,fun c=>X0.m c∨c=b⟩
theorem zwtr (b:Nat) (h:List AObj):(z556 b h).length=h.length:=by simp [z556]
theorem z3pd {b id:Nat} {h:List AObj} {cs:List DV} (e:(z556 b h)[id]? = some (.cells cs)):h[id]? = some (.cells cs):=by
  simp only [z556,y07,y02] at e
  obtain ⟨o,h1,h2⟩:=e
  cases o with
  | cells c=>simp at h2; rw [h1,h2]
  | dead=>simp at h2
  | mapo b' m=>simp only at h2; split at h2<;>cases h2
theorem zvp1 {b id c:Nat} {h:List AObj} {m:MapD} (e:(z556 b h)[id]? = some (.mapo c m)):h[id]? = some (.mapo c m)∧c≠b:=by
  simp only [z556,y07,y02] at e
  obtain ⟨o,h1,h2⟩:=e
  cases o with
  | cells c=>simp at h2
  | dead=>simp at h2
  | mapo b' m=>simp only at h2; split at h2<;>cases h2; rename_i q; exact ⟨h1,q⟩
theorem z056 {b id:Nat} {h:List AObj} (e:(z556 b h)[id]? = some .dead):h[id]? = some .dead ∨ ∃ m,h[id]? = some (.mapo b m):=by
  simp only [z556,y07,y02] at e
  obtain ⟨o,h1,h2⟩:=e
  cases o with
  | cells c=>simp at h2
  | dead=>exact .inl h1
  | mapo b' m =>
    simp only at h2
    split at h2
    · rename_i q; subst q; exact .inr ⟨m,h1⟩
    · cases h2
section
variable {P:Program} {X0:Forb} {base:Nat} {w w0:World} {h:List AObj} {E E0:Env}
theorem HeapRel.kill {b:Nat} (hb:w0.heap.size≤b) (hnm:¬ X0.m b) (hh:HeapRel (addM X0 b) base w h E):HeapRel X0 base w (z556 b h) E:=by
  refine ⟨by rw [zwtr]; exact hh.len,hh.x0,hh.size,fun id cs hid => ?_,fun id hid => ?_,hh.apart,⟨fun c q=>hh.maps.mm c (.inl q),fun c o q q'=>hh.maps.dj c o q (.inl q'),fun id c m hid => ?_,fun id id' c m m' h1 h2=>hh.maps.one id id' c m m' (zvp1 h1).1 (zvp1 h2).1,fun c q=>hh.maps.lo c (.inl q)⟩⟩
  · obtain ⟨c,arr,t,g1,g2,g3,g4,g5⟩:=hh.cells id cs (z3pd hid)
    exact ⟨c,arr,t,g1,g2,g3,g4,g5⟩
  · rcases z056 hid with q|⟨m,q⟩
    · exact hh.dead id q
    · exact (hh.maps.en id b m q).1
  · obtain ⟨q1,q2⟩:=zvp1 hid
    obtain ⟨g1,g2,g3⟩:=hh.maps.en id c m q1
    exact ⟨g1,g2.elim (fun q=>q) (fun e=>absurd e q2),g3⟩
theorem SR.kill {b:Nat} {st:St} {a:Act} (hb:w0.heap.size≤b) (hnm:¬ X0.m b) (h:SR (addM X0 b) base E0 w0 st a w):SR X0 base E0 w0 ⟨st.t,z556 b st.h⟩ a w:=by
  obtain ⟨E,hh,hsz,hrep,hdef,ht⟩:=h
  refine ⟨E,hh.kill hb hnm,hsz,hrep,hdef,⟨ht.env,ht.keep,ht.below,fun k o hk ho hm=>ht.others k o hk ho fun q => ?_,fun c hc hl=>⟨fun hm=>(ht.frame c hc hl).1 fun q => ?_,(ht.frame c hc hl).2⟩⟩⟩
  · rcases q with q|rfl
    · exact hm q
    · have:=(Array.getElem?_eq_some_iff.1 hk).1; omega
  · rcases q with q|rfl
    · exact hm q
    · omega
theorem SR.mk {st:St} {a:Act} {d:Option Nat} (hr:SR X0 base E0 w0 st a w):¬ X0.m w.heap.size∧SR (addM X0 w.heap.size) base E0 w0 ⟨putT st.t d (.mapv w.heap.size),st.h++[.mapo w.heap.size []]⟩ (a.put d (.map (some w.heap.size))) (w.alloc (.map #[] 0)):=by
  obtain ⟨E,hh,hsz,hrep,hdef,ht⟩:=hr
  have hnm:¬ X0.m w.heap.size:=fun q=>by have:=hh.maps.lt q; omega
  have h1:=hh.alloc (.map #[] 0)
  have t1:=zflh hh (.map #[] 0)
  have hE : ∀ {id b L:Nat},(E++[none])[id]? = some (some (b,L))→E[id]? = some (some (b,L)):=fun {id b L} q=>by
    by_cases g:id<E.length
    · rwa [y03 g] at q
    · rw [y04 (by omega)] at q
      cases hz:id-E.length with
      | zero=>rw [hz] at q; simp at q
      | succ n=>rw [hz] at q; simp at q
  have hE' : ∀ {id:Nat} {p:Option (Nat × Nat)},E[id]? = some p→(E++[none])[id]? = some p:=fun {id p} q=>by
    rw [y03 (y0c.1 q).1]; exact q
  have hFX : ∀ b o,FX (addM X0 w.heap.size) (E++[none]) b o→FX X0 E b o:=by
    rintro b o (q|⟨id,L,q⟩)
    · exact .inl q
    · exact .inr ⟨id,L,hE q⟩
  have e2:ERel E w (E++[none]) (w.alloc (.map #[] 0)):=⟨by simp,fun id hid b' L' h'=>t1.env.at_ id hid b' L' (hE h')⟩
  have k2:Keep (FX X0 E) w (FX (addM X0 w.heap.size) (E++[none])) (w.alloc (.map #[] 0)):=⟨fun ad v hc hx=>⟨(t1.keep.cell ad v hc hx).1,fun q=>hx (hFX _ _ q)⟩⟩
  have hrp : ∀ {v d},Rep E (FX X0 E) w v d→Rep (E++[none]) (FX (addM X0 w.heap.size) (E++[none])) (w.alloc (.map #[] 0)) v d:=fun r=>r.mono e2 k2
  have hget : ∀ {id:Nat} {o:AObj},(st.h++[.mapo w.heap.size []])[id]? = some o→st.h[id]? = some o∨(id=st.h.length∧o = .mapo w.heap.size []):=fun {id o} q=>by
    by_cases g:id<st.h.length
    · rw [y03 g] at q; exact .inl q
    · rw [y04 (by omega)] at q
      cases hz:id-st.h.length with
      | zero=>rw [hz] at q; simp at q; exact .inr ⟨by omega,q.symm⟩
      | succ n=>rw [hz] at q; simp at q
  have hnew:(w.alloc (.map #[] 0)).heap[w.heap.size]? = some (.map #[] 0):=heap_alloc_new w _
  have hnot : ∀ (id b:Nat) (m:MapD),st.h[id]? = some (.mapo b m)→b≠w.heap.size:=fun id b m q e=>by
    have:=hh.maps.lt (hh.maps.en id b m q).2.1
    omega
  have hlen:E.length=st.h.length:=hh.len
  refine ⟨hnm,E++[none],⟨by simp [hh.len],fun b o q=>⟨(h1.x0 b o q).1,fun id L hL=>(h1.x0 b o q).2 id L (hE hL)⟩,h1.size,fun id cs hid => ?_,fun id hid => ?_,fun id id' b L b' L' hne q1 q2=>hh.apart id id' b L b' L' hne (hE q1) (hE q2),⟨fun b q => ?_,fun b o q q' => ?_,fun id b m hid => ?_,fun id id' b m m' hi hi' => ?_,fun b q => ?_⟩⟩,?_⟩
  · rcases hget hid with q|⟨_,q⟩
    · obtain ⟨b,arr,t,g1,g2,g3,g4,g5⟩:=hh.cells id cs q
      exact ⟨b,arr,t,hE' g1,g2,by rw [Below.heap_alloc w _ b (Array.getElem?_eq_some_iff.1 g3).1]; exact g3,g4,fun i a b=>hrp (g5 i a b)⟩
    · cases q
  · rcases hget hid with q|⟨_,q⟩
    · exact hE' (hh.dead id q)
    · cases q
  · rcases q with q|rfl
    · exact h1.maps.mm b q
    · exact ⟨_,_,hnew⟩
  · rcases q' with q'|rfl
    · exact hh.maps.dj b o q q'
    · have:=(hh.x0 _ o q).1; omega
  · rcases hget hid with q|⟨q1,q⟩
    · obtain ⟨g1,g2,es,c,g3,g4⟩:=hh.maps.en id b m q
      exact ⟨hE' g1,.inl g2,es,c,by rw [Below.heap_alloc w _ b (hh.maps.lt g2)]; exact g3,g4⟩
    · cases q
      refine ⟨by rw [q1,← hlen]; simp,.inr rfl,#[],0,hnew,rfl,fun p hp=>by simp at hp⟩
  · rcases hget hi with q|⟨q1,q⟩<;>rcases hget hi' with q'|⟨q1',q'⟩
    · exact hh.maps.one id id' b m m' q q'
    · cases q'; exact absurd rfl (hnot id _ m q)
    · cases q; exact absurd rfl (hnot id' _ m' q')
    · omega
  · rcases q with q|rfl
    · exact hh.maps.lo b q
    · exact hh.size
  · obtain ⟨p1,p2⟩:=zt4v (E:=E++[none]) (X:=FX (addM X0 w.heap.size) (E++[none])) (w:=w.alloc (.map #[] 0)) hsz (fun i=>hrp (hrep i)) (.mapv w.heap.size) d (a:=a) rfl
    refine ⟨p1,p2,by rw [zhny]; exact hdef.mono (t1.oth hh.maps),⟨ht.env.trans e2,ht.keep.trans k2,ht.below.trans t1.below,fun k o hk ho hm=>t1.others k o (ht.others k o hk ho fun q=>hm (.inl q)) ho fun q=>hm (.inl q),fun b hb hl => ?_⟩⟩
    obtain ⟨f1,f2⟩:=ht.frame b hb hl
    obtain ⟨g1,g2⟩:=t1.frame b (Nat.lt_of_lt_of_le hb ht.below.size) f2
    exact ⟨fun hm=>(g1 fun q=>hm (.inl q)).trans (f1 fun q=>hm (.inl q)),fun id L hL=>g2 id L (hE hL)⟩
theorem zlvn {ops:Array Oper} {Q:Exit→Act→World→Prop} {Φ:St→Prop} {rest:List Oper} (hQ : ∀ st a w,Φ st→SR X0 base E0 w0 st a w→wpList P ops Q rest a w) : ∀ (l:List Oper) (al:List AOper),zp5p (zjj7 P ops) l=some al →
    ∀ (st:St) (a:Act) (w:World),zysb P al st Φ→SR X0 base E0 w0 st a w→wpList P ops Q (l++rest) a w
  | [],al,hm,st,a,w,hs,hr=>by
    simp [zp5p] at hm; subst hm
    exact hQ st a w hs hr
  | o::l,al,hm,st,a,w,hs,hr=>by
    simp only [zp5p,y05,y02] at hm
    obtain ⟨ao,hao,al',hal,rfl⟩:=hm
    obtain ⟨E,hh,hsz,hrep,hdef,ht⟩:=hr
    simp only [zysb] at hs
    obtain ⟨hco1,hco2,hco3⟩:=zz0x hao
    have hgs:=zspy (X0:=X0) hao hsz hrep hs
    obtain ⟨g,dd,op⟩:=ao
    simp only at hco2 hco3 hgs
    subst hco2
    rw [List.cons_append]
    unfold wpList
    have next : ∀ (v:Value) (d:DV) (w':World) (E':Env) (h':List AObj),HeapRel X0 base w' h' E'→Rep E' (FX X0 E') w' v d→Trans X0 base E w E' w'→zysb P al' ⟨putT st.t o.dst d,h'⟩ Φ→wpList P ops Q (l++rest) (a.put o.dst v) w':=by
      intro v d w' E' h' g1 g2 g3 g4
      obtain ⟨p1,p2⟩:=zt4v hsz (g3.repL hrep) g2 o.dst rfl
      exact zlvn hQ l al' hal _ _ _ g4 ⟨E',g1,p1,p2,by rw [zhny]; exact hdef.mono (g3.oth hh.maps),ht.trans g3⟩
    rcases hgs with ⟨hw,hs⟩|⟨hw,hs⟩
    · rw [if_pos hw]
      left
      rcases hco3 with ⟨c,f0,f,ags,c1,c2,c3,c4,rfl⟩|⟨hop,hnc⟩|hbad
      · simp only at hs
        split at hs<;>try (exact hs.elim)
        rename_i gg first captured hev
        obtain ⟨vs,hrun,hra⟩:=zbqg c1 c2 c3 c4 (fun x y _ ho=>zc82 hrep x y ho) hev
        unfold Oper.wp
        rcases hs X0 base w E vs hh hra with ⟨he,hcl⟩|⟨v0,w0',he,v,r,h',E',e1,e2,e3,e4,e5⟩
        · rw [hrun _ _ he]
          refine hcl.mono fun e w' ⟨v,r,h',E',e1,e2,e3,e4,e5⟩ => ?_
          subst e1
          exact next v r w' E' h' e3 e4 e5 e2
        · rw [hrun _ _ he]
          cases e1
          exact next v0 r w0' E' h' e3 e4 e5 e2
      · have hs' : ∃ d h',evOp op st.t st.h=some (d,h')∧zysb P al' ⟨putT st.t o.dst d,h'⟩ Φ:=by
          cases op<;>first
            | (simp [AOp.isCall] at hnc; done)
            | (simp only at hs
               split at hs
               · rename_i d h' e; exact ⟨d,h',e,hs⟩
               · exact hs.elim)
        obtain ⟨d,h',hev,hs⟩:=hs'
        exact zuew hop hev hh hrep (fun v w' E' g1 g2 g3=>next v d w' E' h' g1 g2 g3 hs)
      · subst hbad; exact (show False from hs).elim
    · rw [if_neg (by simp [hw])]
      exact next undef (.tup []) w E st.h hh zids (.refl _ _ _ _) hs
end
theorem z4j7 {α β:Type} {f:α→Option β} : ∀ {l:List α} {a1:List β} {x:β} {a2:List β},zp5p f l=some (a1++x::a2) → ∃ l1 o l2,l=l1++o::l2∧zp5p f l1=some a1∧f o=some x∧zp5p f l2=some a2
  | [],[],x,a2,h=>by simp [zp5p] at h
  | [],_::_,x,a2,h=>by simp [zp5p] at h
  | o::l,[],x,a2,h=>by
    simp only [zp5p,y05,y02,List.nil_append,List.cons.injEq] at h
    obtain ⟨y,h1,r,h2,rfl,rfl⟩:=h
    exact ⟨[],o,l,rfl,rfl,h1,h2⟩
  | o::l,a::a1,x,a2,h=>by
    simp only [zp5p,y05,y02,List.cons_append,List.cons.injEq] at h
    obtain ⟨y,h1,r,h2,rfl,rfl⟩:=h
    obtain ⟨l1,o',l2,e1,e2,e3,e4⟩:=z4j7 h2
    exact ⟨o::l1,o',l2,by rw [e1]; rfl,by simp [zp5p,h1,e2],e3,e4⟩
theorem zncy {P:Program} {c:Code} {L:List AOper} (h:zwv5 P c=some (.region false L)) : ∃ id ops,c = .region id ops false∧zp5p (zjj7 P ops) ops.toList=some L:=by
  cases c with
  | region id ops draw =>
    simp only [zwv5,y05] at h
    obtain ⟨l,h1,h⟩:=h
    cases draw with
    | false=>simp at h; subst h; exact ⟨id,ops,rfl,h1⟩
    | true =>
      simp only [if_true] at h
      repeat' split at h
      all_goals simp at h
  | loop u=>simp only [zwv5,y02] at h; obtain ⟨_,h1,h⟩:=h; cases h
  | block id u=>simp only [zwv5,y02] at h; obtain ⟨_,h1,h⟩:=h; cases h
  | seq u v=>simp only [zwv5,y05,y02] at h; obtain ⟨a',h1,b',h2,h3⟩:=h; cases h3
  | rangeFunc g ps u v=>simp [zwv5] at h
  | cond c u v =>
    simp only [zwv5,y05,y02] at h
    obtain ⟨_,_,_,_,_,_,h⟩:=h
    cases h
  | _=>simp [zwv5] at h
theorem zwef {P:Program} {o:Oper} (h:zoe1 P o=some .mkm) : ∃ t,o.op = .makeMap t none:=by
  obtain ⟨dst,op,ty,pos,after,guard⟩:=o
  unfold zoe1 at h
  cases op
  case makeMap t r =>
    cases r with
    | none=>exact ⟨t,rfl⟩
    | some x=>simp at h
  case call c =>
    simp only [zdkj] at h
    repeat' split at h
    all_goals simp [y05,y02] at h
    all_goals (repeat' split at h)
    all_goals simp_all
  case buildSlice t len parts =>
    dsimp only at h
    repeat' split at h
    all_goals simp [y05,y02] at h
    all_goals (
      obtain ⟨_,_,_,_,_,_,_,h⟩:=h
      split at h<;>simp at h)
  all_goals (
    dsimp only at h
    repeat' split at h
    all_goals simp [y05,y02] at h
    all_goals (repeat' split at h)
    all_goals simp_all)
section
variable {P:Program} {X0:Forb} {base:Nat} {w0:World} {E0:Env}
theorem zfjf {t:TypeId} {w:World}:(Instr.makeMap t none).run P w = .ok (.map (some w.heap.size)) (w.alloc (.map #[] 0)):=by
  simp [Instr.makeMap]
theorem zh35 {n0:Nat} {l1 l2:List AOper} {d:Option Nat} {y:ACode} {Φ:AExit→St→Prop} {st:St} (hΦ : ∀ e t h h',Φ e ⟨t,h⟩→Φ e ⟨t,h'⟩)
    (h:zysb P l1 st fun st1 => ∀ b,(∀ (id c:Nat) (m:MapD),st1.h[id]? = some (.mapo c m)→c≠b)→zysb P l2 ⟨putT st1.t d (.mapv b),st1.h++[.mapo b []]⟩ (fun st2=>V P n0 y Φ st2)) :
    V P n0 (.seq (.region false (l1++⟨none,d,.mkm⟩::l2)) y) Φ st:=⟨fun c hc X0 base E0 w0 a w hn hr=>by
  obtain ⟨u,v,rfl,hu,hv⟩:=zoko hc
  obtain ⟨id,ops,rfl,hm⟩:=zncy hu
  obtain ⟨o1,o,o2,e0,e1,e2,e3⟩:=z4j7 hm
  refine wp_seq (wp_region_list ?_)
  rw [e0]
  refine zlvn (X0:=X0) (base:=base) (E0:=E0) (w0:=w0) (fun st1 a1 w1 h1 hr1 => ?_) o1 l1 e1 st a w h hr
  have hfresh : ∀ (id c:Nat) (m:MapD),st1.h[id]? = some (.mapo c m)→c≠w1.heap.size:=fun id c m q e=>by
    obtain ⟨E,hh,_⟩:=hr1
    have:=hh.maps.lt (hh.maps.en id c m q).2.1
    omega
  have hsz:w0.heap.size≤w1.heap.size:=by obtain ⟨E,_,_,_,_,ht⟩:=hr1; exact ht.below.size
  obtain ⟨hnm,hr2⟩:=hr1.mk (d:=d)
  obtain ⟨hco1,hco2,hco3⟩:=zz0x e2
  simp only at hco1 hco2 hco3
  have hg:o.guard=none:=by
    unfold zep4 at hco1
    cases q:o.guard with
    | none=>rfl
    | some p=>rw [q] at hco1; simp only [y02] at hco1; obtain ⟨_,_,q2⟩:=hco1; cases q2
  have hop : ∃ t,o.op = .makeMap t none:=by
    rcases hco3 with ⟨c,f0,f,ags,c1,c2,c3,c4,q⟩|⟨hop,hnc⟩|hbad
    · cases q
    · exact zwef hop
    · cases hbad
  obtain ⟨t,hop⟩:=hop
  unfold wpList
  rw [if_pos (by simp [Region.wanted,hg])]
  left
  unfold Oper.wp
  have hex:(execOp a1.eval o).run P w1 = .ok (.value (.map (some w1.heap.size))) (w1.alloc (.map #[] 0)):=by
    obtain ⟨dst,op,ty,pos,after,guard⟩:=o
    simp only at hop
    subst hop
    simp [execOp,zfjf]
  rw [hex]
  have hs:=h1 w1.heap.size hfresh
  subst hco2
  refine zn4i (X0:=addM X0 w1.heap.size) (base:=base) (E0:=E0) (w0:=w0) (fun st2 a2 w2 h2 hr2 => ?_) o2 l2 e3 _ _ _ hs hr2
  refine wp_mono (h2.out v hv (addM X0 w1.heap.size) base E0 w0 a2 w2 hn hr2) fun e a' w' hq => ?_
  have back : ∀ ex st3,Φ ex st3→SR (addM X0 w1.heap.size) base E0 w0 st3 a' w' → ∃ st4,Φ ex st4∧SR X0 base E0 w0 st4 a' w':=fun ex st3 q1 q2=>⟨⟨st3.t,z556 w1.heap.size st3.h⟩,hΦ ex st3.t st3.h _ q1,q2.kill hsz hnm⟩
  cases e with
  | normal=>obtain ⟨s,q1,q2⟩:=hq; exact back _ _ q1 q2
  | exit id=>obtain ⟨s,q1,q2⟩:=hq; exact back _ _ q1 q2
  | ret=>obtain ⟨s,q1,q2⟩:=hq; exact back _ _ q1 q2
  | goto l=>exact hq.elim
  | panic ch=>exact hq.elim
  | outgrown=>exact hq.elim⟩
end
end Go.Am
