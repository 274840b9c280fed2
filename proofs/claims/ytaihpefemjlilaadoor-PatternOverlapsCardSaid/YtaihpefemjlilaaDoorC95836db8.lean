/-
  2 texts of mine in one.
-/
import Derived.Test.YtaihpefemjlilaaDoorCc02078ea
import Derived.Test.YtaihpefemjlilaaDoorCf3c0fb57
import Derived.Test.YtaihpefemjlilaaDoorC6585a2f5
import Derived.Test.YtaihpefemjlilaaDoorC11682c8d
set_option maxRecDepth 20000
set_option maxHeartbeats 4000000
open List renaming map_take → zA, map_drop → zB, map_set → zC, map_append → zD, drop_one → zE
open List renaming getElem?_set_ne → y00, getElem?_set_self → y01, getElem?_append_left → y02, getElem?_append_right → y03, getD_eq_getElem?_getD → y04, getElem?_eq_getElem → y05, getElem_cons_zero → y06, getElem_cons_succ → y07, length_cons → y09, getElem?_map → y0a, getElem?_cons_zero → y0b, length_set → y0c, getElem?_mapIdx → y0d
open Nat renaming le_refl → y0e
open Option renaming map_eq_some_iff → y08
set_option linter.unusedSimpArgs false
set_option linter.unusedVariables false
namespace Go.Am
open Go.RowKit
def rnI (id n i:Nat):Nat:=if i=0 then id else n+(i-1)
mutual
/-- objects renumbered: the first one, and the others -/
def rnD (id n:Nat):DV→DV
  | .agg cs => .agg (rnL id n cs)
  | .tup cs => .tup (rnL id n cs)
  | .sl b s m cs => .sl b s m (rnL id n cs)
  | .ref cs => .ref (rnL id n cs)
  | .fn f a b => .fn f (rnL id n a) (rnL id n b)
  | .iface t v => .iface t (rnD id n v)
  | .ms i ver off s m lim => .ms (rnI id n i) ver off s m lim
  | .mp i ver off => .mp (rnI id n i) ver off
  | .int k m => .int k m
  | .bool b => .bool b
  | .str s => .str s
  | .nilp => .nilp
  | .nilm => .nilm
  | .mapv b => .mapv b
  | .nilf => .nilf
  | .nili => .nili
  | .nils => .nils
  | .junk => .junk
def rnL (id n:Nat):List DV→List DV
  | []=>[]
  | d::r=>rnD id n d::rnL id n r
end
def rnO (id n:Nat):AObj→AObj
  | .cells cs => .cells (rnL id n cs)
  | .dead => .dead
  | .mapo b m => .mapo b m
theorem z7nv (id n:Nat) : ∀ (l:List DV),rnL id n l=l.map (rnD id n)
  | []=>rfl
  | d::r=>by simp only [rnL,List.map_cons,z7nv id n r]
theorem zxic (id n:Nat) (l:List DV):(rnL id n l).length=l.length:=by simp [z7nv]
theorem zzl0 (id n:Nat) (a b:List DV):rnL id n (a++b)=rnL id n a++rnL id n b:=by simp [z7nv]
mutual
theorem zrzi (id n:Nat) : ∀ (d:DV),zyp8 d=true→rnD id n d=d
  | .agg cs,h=>by simp only [zyp8] at h; simp only [rnD,zmhl id n cs h]
  | .tup cs,h=>by simp only [zyp8] at h; simp only [rnD,zmhl id n cs h]
  | .sl b s m cs,h=>by simp only [zyp8] at h; simp only [rnD,zmhl id n cs h]
  | .ref cs,h=>by simp only [zyp8] at h; simp only [rnD,zmhl id n cs h]
  | .fn f a b,h=>by simp only [zyp8,Bool.and_eq_true] at h; simp only [rnD,zmhl id n a h.1,zmhl id n b h.2]
  | .iface t v,h=>by simp only [zyp8] at h; simp only [rnD,zrzi id n v h]
  | .ms ..,h=>by simp [zyp8] at h
  | .mp ..,h=>by simp [zyp8] at h
  | .int ..,_=>rfl
  | .bool ..,_=>rfl
  | .str ..,_=>rfl
  | .nilp,_=>rfl
  | .nilm,_=>rfl
  | .mapv _,_=>rfl
  | .nilf,_=>rfl
  | .nili,_=>rfl
  | .nils,_=>rfl
  | .junk,_=>rfl
theorem zmhl (id n:Nat) : ∀ (l:List DV),zbao l=true→rnL id n l=l
  | [],_=>rfl
  | d::r,h=>by simp only [zbao,Bool.and_eq_true] at h; simp only [rnL,zrzi id n d h.1,zmhl id n r h.2]
end
theorem z8xk {id n:Nat} {ds:List DV} {i:Nat} (h:i<(rnL id n ds).length):(rnL id n ds)[i]=rnD id n (ds[i]'(by rwa [zxic] at h)):=by simp [z7nv]
theorem Rep.ren {EE E':Env} {X X':XSet} {w:World} {id n:Nat} (hE : ∀ i,i<E'.length→rnI id n i<EE.length∧EE[rnI id n i]? = E'[i]?) {v:Value} {d:DV} (h:Rep E' X w v d) (hX : ∀ b o,X' b o→X b o):Rep EE X' w v (rnD id n d):=by
  induction h with
  | int k n=>exact .int k n
  | bool b=>exact .bool b
  | str s l h=>exact .str s l h
  | agg cs ds hl _ ih=>exact .agg cs _ (by rw [zxic]; exact hl) (fun i h1 h2=>by rw [z8xk]; exact ih i h1 (by rwa [zxic] at h2))
  | tup cs ds hl _ ih=>exact .tup cs _ (by rw [zxic]; exact hl) (fun i h1 h2=>by rw [z8xk]; exact ih i h1 (by rwa [zxic] at h2))
  | nilp=>exact .nilp
  | nilm=>exact .nilm
  | mapv b=>exact .mapv b
  | nilf=>exact .nilf
  | nili=>exact .nili
  | nils=>exact .nils
  | sl full s n cap a ds cv hn hf hl hc hx _ ih =>
    exact .sl full s n cap a _ cv hn hf (by rw [zxic]; exact hl) (fun i hi=>hc i (by rwa [zxic] at hi)) (fun i hi h'=>hx i (by rwa [zxic] at hi) (hX _ _ h')) (fun i h1=>by rw [z8xk]; exact ih i (by rwa [zxic] at h1))
  | ref a ds cv hc hx _ ih =>
    exact .ref a _ cv (fun i hi=>hc i (by rwa [zxic] at hi)) (fun i hi h'=>hx i (by rwa [zxic] at hi) (hX _ _ h')) (fun i h1=>by rw [z8xk]; exact ih i (by rwa [zxic] at h1))
  | fn f first captured df dc h1 h2 _ _ ih1 ih2 =>
    exact .fn f first captured _ _ (by rw [zxic]; exact h1) (by rw [zxic]; exact h2) (fun i a b=>by rw [z8xk]; exact ih1 i a (by rwa [zxic] at b)) (fun i a b=>by rw [z8xk]; exact ih2 i a (by rwa [zxic] at b))
  | iface t v d _ ih=>exact .iface t v _ ih
  | ms id ver off s n lim a k cap hid h =>
    refine .ms _ ver off s n lim a k cap (hE _ hid).1 (fun b L he=>h b L ?_)
    rwa [(hE _ hid).2] at he
  | mp id ver off a hid h =>
    refine .mp _ ver off a (hE _ hid).1 (fun b L he=>h b L ?_)
    rwa [(hE _ hid).2] at he
  | junk v=>exact .junk v
theorem zwy1.tchR {P:Program} {g:FuncId} {r l:List DV} {Ψ:DV→List AObj→Prop} (hp:zbao r=true) (hl:zbao l=true) (hΨ : ∀ d q,Ψ d q → ∃ l' k,q = .cells l'::k)
    (hc:zwy1 P g (.mp 0 l.length 0::r) [.cells l] Ψ) {h:List AObj} {id:Nat} (ho:ziu0 h id=some l) :
    zwy1 P g (.mp id l.length 0::r) h (fun d q => ∃ v l' k,Ψ v (.cells l'::k)∧d=rnD id h.length v∧q=h.set id (.cells (rnL id h.length l'))++k.map (rnO id h.length)):=by
  refine fun X0 base w E vs hh hr => ?_
  have hid:h[id]? = some (.cells l):=by
    unfold ziu0 at ho
    split at ho
    · rename_i e; simp at ho; subst ho; exact e
    · simp at ho
  obtain ⟨b,arr,t,g1,g2,g3,g4,g5⟩:=hh.cells id l hid
  have hlive : ∀ {j c L:Nat},E[j]? = some (some (c,L))→c<w.heap.size:=fun hE=>by
    obtain ⟨_,_,_,_,_,_,g,_⟩:=hh.live hE
    exact (Array.getElem?_eq_some_iff.1 g).1
  have hone : ∀ {j c L:Nat},[some (b,l.length)][j]? = some (some (c,L))→j=0∧c=b∧L=l.length:=fun {j c L} q=>by
    cases j with
    | zero=>simp at q; exact ⟨rfl,q.1.symm,q.2.symm⟩
    | succ j=>simp at q
  have hfx : ∀ c o,FX (FB X0 E b) [some (b,l.length)] c o→FX X0 E c o:=by
    rintro c o (q|⟨j,L,q⟩)
    · exact q.1
    · obtain ⟨_,rfl,_⟩:=hone q
      exact .inr ⟨id,_,g1⟩
  have h0:HeapRel (FB X0 E b) base w [.cells l] [some (b,l.length)]:=by
    refine ⟨rfl,fun c o q=>⟨?_,fun j L q'=>q.2 (hone q').2.1⟩,hh.size,fun j cs hj => ?_,fun j hj => ?_,fun j j' c L c' L' hne h1 h2=>absurd ((hone h1).1.trans (hone h2).1.symm) hne,⟨fun b q=>q.elim,fun b o _ q=>q,fun j b m hj=>by cases j<;>simp at hj,fun j j' b m m' hj=>by cases j<;>simp at hj,fun b q=>q.elim⟩⟩
    · rcases q.1 with q|⟨j,L,q⟩
      · exact (hh.x0 _ _ q).1
      · exact hlive q
    · cases j with
      | succ j=>simp at hj
      | zero =>
        simp at hj
        subst hj
        exact ⟨b,arr,t,rfl,g2,g3,g4,fun i h1 h2=>((g5 i h1 h2).env (zf6b hl i h1)).less hfx⟩
    · cases j with
      | succ j=>simp at hj
      | zero=>simp at hj
  have hargs:RepA [some (b,l.length)] (FX (FB X0 E b) [some (b,l.length)]) w vs.toList (.mp 0 l.length 0::r):=by
    refine ⟨by simpa using hr.1,fun i h1 h2 => ?_⟩
    have:=hr.2 i h1 (by simpa using h2)
    cases i with
    | zero =>
      simp only [y06] at this ⊢
      generalize vs.toList[0]=x at this ⊢
      cases this with
      | mp _ _ _ a hid' hm =>
        refine .mp 0 _ _ a (by simp) (fun c L q => ?_)
        obtain ⟨_,rfl,rfl⟩:=hone q
        exact hm _ _ g1
    | succ i =>
      simp only [y07] at this ⊢
      exact (this.env (zf6b hp i _)).less hfx
  refine (hc _ base w _ vs h0 hargs).mono fun e w' ⟨v0,d,q,E',e1,eΨ,e3,e4,e5⟩ => ?_
  obtain ⟨l',k,rfl⟩:=hΨ _ _ eΨ
  obtain ⟨b2,arr2,t2,q1,q2,q3,q4,q5⟩:=e3.cells 0 l' rfl
  have hlt:id<E.length:=(List.getElem?_eq_some_iff.1 g1).1
  have hlt':id<h.length:=by rw [← hh.len]; exact hlt
  cases E' with
  | nil=>simp at q1
  | cons e0 E1 =>
  simp only [y0b,Option.some.injEq] at q1
  subst q1
  have hE1:E1.length=k.length:=by have:=e3.len; simpa using this
  have hEh:E.length=h.length:=hh.len
  have other : ∀ {j c L:Nat},id≠j→E[j]? = some (some (c,L))→c≠b∧w'.heap[c]? = w.heap[c]? ∧ ∀ (i L':Nat),(some (b2,l'.length)::E1)[i]? ≠ some (some (c,L')):=fun {j c L} hne q=>by
    have hcb:c≠b:=hh.apart _ _ _ _ _ _ (Ne.symm hne) q g1
    obtain ⟨f1,f2⟩:=e5.frame c (hlive q) (fun j' L' q'=>hcb (hone q').2.1)
    exact ⟨hcb,f1 (fun q=>q),f2⟩
  have hlook : ∀ {j c L:Nat},(E.set id (some (b2,l'.length))++E1)[j]? = some (some (c,L))→(j=id∧c=b2∧L=l'.length)∨(id≠j∧E[j]? = some (some (c,L)))∨(E.length≤j∧E1[j-E.length]? = some (some (c,L))):=fun {j c L} q=>by
    by_cases hj:j<E.length
    · rw [y02 (by simpa using hj)] at q
      by_cases e:id=j
      · subst e; rw [y01 hlt] at q; simp at q; exact .inl ⟨rfl,q.1.symm,q.2.symm⟩
      · rw [y00 e] at q; exact .inr (.inl ⟨e,q⟩)
    · rw [y03 (by simp; omega)] at q
      exact .inr (.inr ⟨by omega,by simpa using q⟩)
  have hE : ∀ i,i<(some (b2,l'.length)::E1).length→rnI id h.length i<(E.set id (some (b2,l'.length))++E1).length∧(E.set id (some (b2,l'.length))++E1)[rnI id h.length i]? = (some (b2,l'.length)::E1)[i]? := fun i hi=>by
    cases i with
    | zero =>
      simp only [rnI,if_true,y0b]
      exact ⟨by simp; omega,by rw [y02 (by simpa using hlt),y01 hlt]⟩
    | succ i =>
      simp only [rnI,Nat.add_one_ne_zero,if_false,Nat.add_sub_cancel,List.getElem?_cons_succ]
      simp only [y09] at hi
      exact ⟨by simp; omega,by rw [y03 (by simp; omega)]; congr 1; simp; omega⟩
  have hFX : ∀ c o,FX X0 (E.set id (some (b2,l'.length))++E1) c o→FX (FB X0 E b) (some (b2,l'.length)::E1) c o:=by
    rintro c o (q|⟨j,L,q⟩)
    · exact .inl ⟨.inl q,fun e=>(hh.x0 _ _ q).2 id l.length (by rw [e]; exact g1)⟩
    · rcases hlook q with ⟨_,rfl,_⟩|⟨hne,q⟩|⟨_,q⟩
      · exact .inr ⟨0,_,rfl⟩
      · exact .inl ⟨.inr ⟨j,L,q⟩,(other hne q).1⟩
      · exact .inr ⟨j-E.length+1,L,by simpa using q⟩
  have htr:Trans X0 base E w (E.set id (some (b2,l'.length))++E1) w':=by
    refine ⟨⟨by simp,fun j hj c L q => ?_⟩,⟨fun a u hcu hx => ?_⟩,e5.below,fun k o h1 h2 _=>e5.others k o h1 h2 (fun q=>q),fun c hc hl => ?_⟩
    · rcases hlook q with ⟨rfl,rfl,rfl⟩|⟨hne,q⟩|⟨hle,_⟩
      · obtain ⟨b0,L0,k1,k2,k3⟩:=e5.env.at_ 0 (by simp) _ _ rfl
        obtain ⟨_,rfl,rfl⟩:=hone k1
        exact ⟨_,_,g1,k2,k3⟩
      · refine ⟨c,L,q,y0e _,fun _=>⟨rfl,fun c' t' fr' hc'=>⟨c',t',fr',?_,rfl⟩⟩⟩
        rw [← (other hne q).2.1]; exact hc'
      · omega
    · obtain ⟨k1,k2⟩:=e5.keep.cell a u hcu (fun q=>hx (hfx _ _ q))
      exact ⟨k1,fun q=>k2 (hFX _ _ q)⟩
    · obtain ⟨k1,k2⟩:=e5.frame c hc (fun j L q=>by
        obtain ⟨_,rfl,rfl⟩:=hone q
        exact hl id _ g1)
      refine ⟨fun _=>k1 (fun q=>q),fun j L q => ?_⟩
      rcases hlook q with ⟨_,rfl,_⟩|⟨_,q⟩|⟨_,q⟩
      · exact k2 0 _ rfl
      · exact hl j L q
      · exact k2 (j-E.length+1) L (by simpa using q)
  refine ⟨v0,_,_,E.set id (some (b2,l'.length))++E1,e1,⟨d,l',k,eΨ,rfl,rfl⟩,⟨by simp [hh.len,hE1],hh.x0' htr,e3.size,fun j cs hj => ?_,fun j hj => ?_,fun j j' c L c' L' hne h1 h2 => ?_,hh.maps.kept (fun c q=>(e5.frame c (hh.maps.lt q) (fun j L q'=>(hh.maps.ncell g3 ((hone q').2.1▸q)))).1 (fun q=>q)) fun j c m hj => ?_⟩,Rep.ren hE e4 hFX,htr⟩
  · by_cases hjl:j<h.length
    · rw [y02 (by simpa using hjl)] at hj
      by_cases e:id=j
      · subst e; rw [y01 hlt'] at hj; simp at hj; subst hj
        refine ⟨b2,arr2,t2,by rw [y02 (by simpa using hlt),y01 hlt,zxic],q2,q3,by rw [zxic]; exact q4,fun i h1 h2 => ?_⟩
        rw [z8xk]
        exact Rep.ren hE (q5 i (by rwa [zxic] at h1) h2) hFX
      · rw [y00 e] at hj
        obtain ⟨c,ar,t',k1,k2,k3,k4,k5⟩:=hh.cells j cs hj
        exact ⟨c,ar,t',by rw [y02 (by simp; omega),y00 e]; exact k1,k2,by rw [(other e k1).2.1]; exact k3,k4,fun i h1 h2=>htr.rep (k5 i h1 h2)⟩
    · rw [y03 (by simp; omega),y0a] at hj
      obtain ⟨o,ho',hoe⟩:=y08.1 hj
      cases o with
      | dead=>simp [rnO] at hoe
      | mapo b m=>simp [rnO] at hoe
      | cells cs0 =>
        simp only [rnO,AObj.cells.injEq] at hoe
        subst hoe
        simp only [y0c] at ho'
        obtain ⟨c,ar,t',k1,k2,k3,k4,k5⟩:=e3.cells (j-h.length+1) cs0 (by simpa using ho')
        refine ⟨c,ar,t',?_,k2,k3,by rw [zxic]; exact k4,fun i h1 h2 => ?_⟩
        · rw [y03 (by simp; omega),zxic]
          simpa [hEh] using k1
        · rw [z8xk]
          exact Rep.ren hE (k5 i (by rwa [zxic] at h1) h2) hFX
  · by_cases hjl:j<h.length
    · rw [y02 (by simpa using hjl)] at hj
      by_cases e:id=j
      · subst e; rw [y01 hlt'] at hj; simp at hj
      · rw [y00 e] at hj
        rw [y02 (by simp; omega),y00 e]; exact hh.dead j hj
    · rw [y03 (by simp; omega),y0a] at hj
      obtain ⟨o,ho',hoe⟩:=y08.1 hj
      cases o with
      | cells cs0=>simp [rnO] at hoe
      | mapo b m=>simp [rnO] at hoe
      | dead =>
        simp only [y0c] at ho'
        have:=e3.dead (j-h.length+1) (by simpa using ho')
        rw [y03 (by simp; omega)]
        simpa [hEh] using this
  · rcases hlook h1 with ⟨k1,k2,_⟩|⟨k1,k2⟩|⟨k1,k2⟩<;>rcases hlook h2 with ⟨m1,m2,_⟩|⟨m1,m2⟩|⟨m1,m2⟩
    · exact absurd (k1.trans m1.symm) hne
    · rw [k2]; exact fun q=>(other m1 m2).2.2 0 _ (by rw [← q]; rfl)
    · rw [k2]; exact e3.apart 0 (j'-E.length+1) b2 l'.length c' L' (by omega) rfl (by simpa using m2)
    · rw [m2]; exact fun q=>(other k1 k2).2.2 0 _ (by rw [q]; rfl)
    · exact hh.apart _ _ _ _ _ _ hne k2 m2
    · exact fun q=>(other k1 k2).2.2 (j'-E.length+1) L' (by rw [q]; simpa using m2)
    · rw [m2]; exact e3.apart (j-E.length+1) 0 c L b2 l'.length (by omega) (by simpa using k2) rfl
    · exact fun q=>(other m1 m2).2.2 (j-E.length+1) L (by rw [← q]; simpa using k2)
    · exact e3.apart (j-E.length+1) (j'-E.length+1) c L c' L' (by omega) (by simpa using k2) (by simpa using m2)
  · by_cases hjl:j<h.length
    · rw [y02 (by simpa using hjl)] at hj
      by_cases e:id=j
      · subst e; rw [y01 hlt'] at hj; simp at hj
      · rw [y00 e] at hj
        rw [y02 (by simp; omega),y00 e]
        exact ⟨hj,(hh.maps.en j c m hj).1⟩
    · rw [y03 (by simp; omega),y0a] at hj
      obtain ⟨o,ho',hoe⟩:=y08.1 hj
      cases o with
      | cells cs0=>simp [rnO] at hoe
      | dead=>simp [rnO] at hoe
      | mapo b' m' =>
        simp only [y0c] at ho'
        exact absurd (e3.maps.en (j-h.length+1) b' m' (by simpa using ho')).2.1 (fun q=>q)
theorem zwy1.tchN {P:Program} {g:FuncId} {r l l':List DV} {v:DV} {k:List AObj} (hp:zbao r=true) (hl:zbao l=true)
    (hc:zwy1 P g (.mp 0 l.length 0::r) [.cells l] (fun d h'=>d=v∧h' = .cells l'::k)) {h:List AObj} {id:Nat} (ho:ziu0 h id=some l) :
    zwy1 P g (.mp id l.length 0::r) h (fun d q=>d=rnD id h.length v∧q=h.set id (.cells (rnL id h.length l'))++k.map (rnO id h.length)) :=
  (zwy1.tchR hp hl (fun d q ⟨_,e⟩=>⟨_,_,e⟩) hc ho).mono fun d q ⟨v',l2,k2,⟨e1,e2⟩,e3,e4⟩=>by
    simp only [List.cons.injEq,AObj.cells.injEq] at e2
    obtain ⟨rfl,rfl⟩:=e2
    subst e1
    exact ⟨e3,e4⟩
open Classical in
noncomputable def z92l {α:Type} (A:α→Prop) (f s:α→List DV) (g:α→DV × List DV × List AObj) (args:List DV) (h:List AObj):Option (DV × List AObj) :=
  match args with
  | .mp id ver 0::r=>if q : ∃ a,A a∧f a=r∧ziu0 h id=some (s a)∧(s a).length=ver then some (rnD id h.length (g q.choose).1,h.set id (.cells (rnL id h.length (g q.choose).2.1))++(g q.choose).2.2.map (rnO id h.length)) else none
  | _=>none
theorem zkrg {α:Type} {A:α→Prop} {f s:α→List DV} {g:α→DV × List DV × List AObj} (hinj : ∀ a b,f a=f b→s a=s b→g a=g b) (a:α) (ha:A a) {h:List AObj} {id ver:Nat} (ho:ziu0 h id=some (s a)) (hv:(s a).length=ver) :
    z92l A f s g (.mp id ver 0::f a) h=some (rnD id h.length (g a).1,h.set id (.cells (rnL id h.length (g a).2.1))++(g a).2.2.map (rnO id h.length)):=by
  have q : ∃ b,A b∧f b=f a∧ziu0 h id=some (s b)∧(s b).length=ver:=⟨a,ha,rfl,ho,hv⟩
  unfold z92l
  simp only
  rw [dif_pos q]
  have e:=q.choose_spec
  rw [hinj _ a e.2.1 (Option.some.inj (e.2.2.1.symm.trans ho))]
theorem zonn {P:Program} {k:FuncId} {α:Type} {A:α→Prop} {f s:α→List DV} {g:α→DV × List DV × List AObj} (hp : ∀ a,A a→zbao (f a)=true∧zbao (s a)=true)
    (hs : ∀ a,A a→zwy1 P k (.mp 0 (s a).length 0::f a) [.cells (s a)] (fun d h=>d=(g a).1∧h = .cells (g a).2.1::(g a).2.2)):(Con.heap (z92l A f s g)).Sound P k:=by
  intro args h v h' hv
  unfold z92l at hv
  split at hv
  · rename_i id ver r
    split at hv
    · rename_i q
      simp only [Option.some.injEq,Prod.mk.injEq] at hv
      obtain ⟨rfl,rfl⟩:=hv
      obtain ⟨h1,h2,h3,h4⟩:=q.choose_spec
      have:=(hs _ h1).tchN (hp _ h1).1 (hp _ h1).2 h3
      rw [h2,h4] at this
      exact this
    · simp at hv
  · simp at hv
theorem ztfj {h:List AObj} {id i:Nat} {c:List DV} (hne:id≠i):ziu0 (h.set id (.cells c)) i=ziu0 h i:=by simp [ziu0,y00 hne]
theorem zi0c {id ver off:Nat} {r c:List DV} {h tail:List AObj}:z03v (.mp id ver off::r) h (h.set id (.cells c)++tail):=by
  intro d r' e i hi hne
  simp only [List.cons.injEq] at e
  obtain ⟨rfl,_⟩:=e
  have:id≠i:=fun q=>hne (by rw [q]; rfl)
  simp only [ziu0]
  rw [y02 (by simpa using hi),y00 this]
theorem z72s {id n:Nat} {k:IntKind} {m:Int}:rnD id n (.int k m) = .int k m:=rfl
theorem zu07 {id n:Nat} {s:List UInt8}:rnD id n (.str s) = .str s:=rfl
theorem z0nr {id n:Nat} {cs:List DV}:rnD id n (.agg cs) = .agg (rnL id n cs):=rfl
theorem z8s4 {id n i ver off s m lim:Nat}:rnD id n (.ms (i+1) ver off s m lim) = .ms (n+i) ver off s m lim:=by simp [rnD,rnI]
theorem zjqi {id n:Nat}:rnL id n []=[]:=rfl
theorem zuoj {id n:Nat} {d:DV} {r:List DV}:rnL id n (d::r)=rnD id n d::rnL id n r:=rfl
theorem z638 {id n:Nat} {cs:List DV}:rnO id n (.cells cs) = .cells (rnL id n cs):=rfl
end Go.Am
set_option linter.unusedSimpArgs false
set_option linter.unusedVariables false
namespace Go.Am
open Go.RowKit
section
variable {P:Program} {X0:Forb} {base:Nat} {E0:Env} {w0:World} {a:Act} {w:World}
theorem zhmt {h:List AObj} {id:Nat} {l:List DV} (e:ziu0 h id=some l):h[id]? = some (.cells l):=by
  unfold ziu0 at e
  split at e
  · rename_i q; simp at e; subst e; exact q
  · simp at e
theorem SR.room {t:List DV} {h:List AObj} {G C i ver s n lim off:Nat} {l rest:List DV} (hG:ziu0 h G=some l) (hv:l.length=ver) (hs:n*s=ver) (hs0:0<s) (hC:ziu0 h C=some (.ms G ver 0 s n lim::rest)) (hne:C≠G)
    (hi:t.getD i .junk = .mp G ver off) {t' rest' cs':List DV} (hc:fzS (· == C) h 3 (.ms G ver 0 s n lim)=some (.sl false s n cs')) (ht':fzSL (· == C) h t t') (hr':fzSL (· == C) h rest rest')
    (hr:SR X0 base E0 w0 ⟨t,h⟩ a w) :
    SR X0 base E0 w0 ⟨t.set i (.mp G (ver+s) off),(h.set G (.cells (l++List.replicate s .junk))).set C (.cells (.ms G (ver+s) 0 s n (ver+s)::rest))⟩ a w ∨
    SR X0 base E0 w0 ⟨t',(mkO (· == C) h 0 h).set C (.cells (.sl true s n cs'::rest'))⟩ a w:=by
  obtain ⟨E,hh,hsz,hrep,hdef,ht⟩:=hr
  simp only at hh hsz hrep
  obtain ⟨bC,arrC,tC,c1,c2,c3,c4,c5⟩:=hh.cells C _ (zhmt hC)
  have hlen:(DV.ms G ver 0 s n lim::rest).length=rest.length+1:=rfl
  have h0:=c5 0 (by simp) (by omega)
  simp only [y06] at h0
  obtain ⟨b,arr,ty,cap,ad,e1,e2,e3,e4,hval,k1,k2,k3,k4,k5⟩:=zuh1 hh h0 hG hv
  have hCl:C<h.length:=z7ba hC
  have hGl:G<h.length:=z7ba hG
  have hEl:E.length=h.length:=hh.len
  by_cases hcap:n+1≤cap
  · left
    have hroom:ver+s≤arr.size:=by
      have:=zbka (s:=s) hcap
      rw [Nat.add_mul] at this
      omega
    have hset : ∀ {j c L:Nat},(E.set G (some (b,ver+s)))[j]? = some (some (c,L))→(j=G∧c=b∧L=ver+s)∨(G≠j∧E[j]? = some (some (c,L))):=fun {j c L} q=>by
      by_cases e:G=j
      · subst e; rw [y01 (by omega)] at q; simp at q; exact .inl ⟨rfl,q.1.symm,q.2.symm⟩
      · rw [y00 e] at q; exact .inr ⟨e,q⟩
    have hblk : ∀ {j c L:Nat},(E.set G (some (b,ver+s)))[j]? = some (some (c,L)) → ∃ L',E[j]? = some (some (c,L')):=fun {j c L} q=>by
      rcases hset q with ⟨rfl,rfl,_⟩|⟨_,q⟩
      · exact ⟨_,e1⟩
      · exact ⟨_,q⟩
    have hFX : ∀ c o,FX X0 (E.set G (some (b,ver+s))) c o→FX X0 E c o:=by
      rintro c o (q|⟨j,L,q⟩)
      · exact .inl q
      · obtain ⟨L',q'⟩:=hblk q; exact .inr ⟨j,L',q'⟩
    have hE:ERel E w (E.set G (some (b,ver+s))) w:=by
      refine ⟨by simp,fun j hj c L q => ?_⟩
      rcases hset q with ⟨rfl,rfl,rfl⟩|⟨_,q⟩
      · exact ⟨_,_,e1,by omega,fun e=>by omega⟩
      · exact ⟨_,_,q,y0e _,fun _=>⟨rfl,fun c' t' fr' hc'=>⟨c',t',fr',hc',rfl⟩⟩⟩
    have hK:Keep (FX X0 E) w (FX X0 (E.set G (some (b,ver+s)))) w:=⟨fun x v hx hn=>⟨hx,fun q=>hn (hFX _ _ q)⟩⟩
    have hEG:(E.set G (some (b,ver+s)))[G]? = some (some (b,ver+s)):=y01 (by omega)
    have hmp : ∀ v,Rep E (FX X0 E) w v (.mp G ver off)→Rep (E.set G (some (b,ver+s))) (FX X0 (E.set G (some (b,ver+s)))) w v (.mp G (ver+s) off):=fun v r=>by
      obtain ⟨_,_,_,f1,_,_,_,f2⟩:=zsi4 hh r hG hv
      subst f2
      rw [e1] at f1
      simp only [Option.some.injEq,Prod.mk.injEq] at f1
      obtain ⟨rfl,_⟩:=f1
      exact ztt2 hEG rfl
    have htr:Trans X0 base E w (E.set G (some (b,ver+s))) w:=⟨hE,hK,.refl _ _,fun _ _ h _ _=>h,fun c hc hl=>⟨fun _=>rfl,fun j L q=>by obtain ⟨L',q'⟩:=hblk q; exact hl j L' q'⟩⟩
    refine ⟨E.set G (some (b,ver+s)),⟨by simp [hEl],fun c o q=>⟨(hh.x0 c o q).1,fun j L q'=>by obtain ⟨L',q2⟩:=hblk q'; exact (hh.x0 c o q).2 j L' q2⟩,hh.size,fun j cs hj => ?_,fun j hj => ?_,fun j j' c L c' L' hne' q q' => ?_,hh.maps.kept (fun _ _=>rfl) fun j b' m hj => ?_⟩,by simpa using hsz,fun j => ?_,hdef,ht.trans htr⟩
    · simp only at hj
      by_cases jC:C=j
      · subst jC
        rw [y01 (by simpa using hCl)] at hj
        simp only [Option.some.injEq,AObj.cells.injEq] at hj
        subst hj
        refine ⟨bC,arrC,tC,by rw [y00 (Ne.symm hne)]; exact c1,c2,c3,c4,fun m h1 h2 => ?_⟩
        cases m with
        | zero =>
          simp only [y06]
          rw [hval]
          have hcs:=zbka (s:=s) hcap
          rw [Nat.add_mul] at hcs
          refine z6v0 (b:=b) (L:=ver+s) (arr:=arr) (t:=ty) hEG rfl e2 (by omega) k1 k3 (by omega) k5
        | succ m =>
          simp only [y07]
          exact htr.rep (c5 (m+1) (by simpa using h1) h2)
      · rw [y00 jC] at hj
        by_cases jG:G=j
        · subst jG
          rw [y01 hGl] at hj
          simp only [Option.some.injEq,AObj.cells.injEq] at hj
          subst hj
          obtain ⟨b',arr',t',f1,f2,f3,f4,f5⟩:=hh.cells G l (zhmt hG)
          rw [e1] at f1
          simp only [Option.some.injEq,Prod.mk.injEq] at f1
          obtain ⟨rfl,_⟩:=f1
          rw [e2] at f3
          simp only [Option.some.injEq,Obj.cells.injEq] at f3
          obtain ⟨rfl,rfl,_⟩:=f3
          refine ⟨b,arr,ty,by rw [hEG]; simp [hv],f2,e2,by simp; omega,fun m h1 h2 => ?_⟩
          by_cases hm:m<l.length
          · rw [List.getElem_append_left hm]; exact htr.rep (f5 m hm h2)
          · rw [List.getElem_append_right (by omega),List.getElem_replicate]; exact .junk _
        · rw [y00 jG] at hj
          obtain ⟨b',arr',t',f1,f2,f3,f4,f5⟩:=hh.cells j cs hj
          exact ⟨b',arr',t',by rw [y00 jG]; exact f1,f2,f3,f4,fun m h1 h2=>htr.rep (f5 m h1 h2)⟩
    · simp only at hj
      by_cases jC:C=j
      · subst jC; rw [y01 (by simpa using hCl)] at hj; simp at hj
      · rw [y00 jC] at hj
        by_cases jG:G=j
        · subst jG; rw [y01 hGl] at hj; simp at hj
        · rw [y00 jG] at hj ⊢; exact hh.dead j hj
    · obtain ⟨L1,q1⟩:=hblk q
      obtain ⟨L2,q2⟩:=hblk q'
      exact hh.apart _ _ _ _ _ _ hne' q1 q2
    · simp only at hj
      by_cases jC:C=j
      · subst jC; rw [y01 (by simpa using hCl)] at hj; simp at hj
      · rw [y00 jC] at hj
        by_cases jG:G=j
        · subst jG; rw [y01 hGl] at hj; simp at hj
        · rw [y00 jG] at hj ⊢; exact ⟨hj,(hh.maps.en j b' m hj).1⟩
    · simp only
      have:=hrep j
      by_cases e:i=j
      · subst e
        rw [hi] at this
        by_cases hil:i<t.length
        · rw [y04,y01 hil]; exact hmp _ this
        · rw [y04,List.getElem?_eq_none (by simp; omega)]; exact .junk _
      · rw [y04,y00 e,← y04]; exact htr.rep this
  · right
    have hcn:cap=n:=by omega
    subst hcn
    have cell : ∀ {v d d'},Rep E (FX X0 E) w v d→(d' = .junk∨d'=d∨fzS (· == C) h 3 d=some d')→Rep (znb1 (· == C) E) (FX X0 (znb1 (· == C) E)) w v d':=fun r q=>by
      rcases q with q|q|q
      · subst q; exact .junk _
      · subst q; exact r.mask (fun b o h'=>z8rt h')
      · exact zlfw hh 3 r q
    have hm:=zn5q (K:=(· == C)) (h:=h) 0 h
    have hml:=z7w9 hm
    have hfull:Rep (znb1 (· == C) E) (FX X0 (znb1 (· == C) E)) w arrC[0] (.sl true s cap cs'):=by
      have:=zlfw hh 3 h0 hc
      rw [hval] at this ⊢
      cases this with
      | sl _ _ _ _ _ _ cv g1 g2 g3 g4 g5 g6=>exact .sl true s cap cap ad cs' cv (y0e _) (fun _=>rfl) g3 g4 g5 g6
    refine ⟨znb1 (· == C) E,⟨by rw [zudl]; simp [hml,hEl],fun c o q=>⟨(hh.x0 c o q).1,fun id L hL=>(hh.x0 c o q).2 id L (z1pt hL).2⟩,hh.size,fun id cs hid => ?_,fun id hid => ?_,fun id id' c L c' L' hne' h1 h2=>hh.apart _ _ _ _ _ _ hne' (z1pt h1).2 (z1pt h2).2,hh.maps.kept (fun _ _=>rfl) fun id b' m hid => ?_⟩,by rw [z63v ht']; exact hsz,fun j=>cell (hrep j) (z9h0 ht' j),hdef,?_⟩
    · simp only at hid
      by_cases jC:C=id
      · subst jC
        rw [y01 (by rw [hml]; exact hCl)] at hid
        simp only [Option.some.injEq,AObj.cells.injEq] at hid
        subst hid
        have hrl:=z63v hr'
        refine ⟨bC,arrC,tC,by rw [zkym (by simp)]; simpa [hrl] using c1,c2,c3,by simp only [y09] at c4 ⊢; omega,fun m h1 h2 => ?_⟩
        cases m with
        | zero=>exact hfull
        | succ m =>
          simp only [y09] at h1
          simp only [y07]
          have q:=cell (c5 (m+1) (by simp only [y09]; omega) h2) (d':=rest'.getD m .junk) (by
            have:=z9h0 hr' m
            rw [y04 (l:=rest),y05 (show m<rest.length by omega)] at this
            simpa using this)
          rw [y04,y05 (by omega)] at q
          exact q
      · rw [y00 jC] at hid
        obtain ⟨hk,_⟩:=zc8w hm id cs hid
        simp at hk
        exact absurd hk.symm jC
    · simp only at hid
      by_cases jC:C=id
      · subst jC
        rw [y01 (by rw [hml]; exact hCl)] at hid
        simp at hid
      · rw [y00 jC] at hid
        rcases zkux hm id hid with h1|⟨h1,h2⟩
        · have:=hh.dead id h1
          unfold znb1; rw [y0d,this]; simp
        · rw [Nat.zero_add] at h1
          have hlt:id<E.length:=by rw [hh.len]; exact h2
          unfold znb1; rw [y0d,y05 hlt]; simp only [h1]; rfl
    · simp only at hid
      by_cases jC:C=id
      · subst jC; rw [y01 (by rw [hml]; exact hCl)] at hid; simp at hid
      · rw [y00 jC] at hid
        have:=z6ag hm id b' m hid
        exact ⟨this,zf2s (hh.maps.en id b' m this).1⟩
    · refine ⟨⟨by rw [zudl]; exact ht.env.len,fun id hid b' L' h'=>ht.env.at_ id hid b' L' (z1pt h').2⟩,⟨fun x v hc hx => ?_⟩,ht.below,ht.others,fun b hb hl=>⟨(ht.frame b hb hl).1,fun id L hL=>(ht.frame b hb hl).2 id L (z1pt hL).2⟩⟩
      obtain ⟨g1,g2⟩:=ht.keep.cell x v hc hx
      exact ⟨g1,fun g=>g2 (z8rt g)⟩
end
theorem z6ri {P:Program} {n0:Nat} {x:ACode} {Φ:AExit→St→Prop} {t:List DV} {h:List AObj} {G C i ver s n lim off:Nat} {l rest:List DV} (hG:ziu0 h G=some l) (hv:l.length=ver) (hs:n*s=ver) (hs0:0<s) (hC:ziu0 h C=some (.ms G ver 0 s n lim::rest)) (hne:C≠G)
    (hi:t.getD i .junk = .mp G ver off) {t' rest' cs':List DV} (hc:fzS (· == C) h 3 (.ms G ver 0 s n lim)=some (.sl false s n cs')) (ht':fzSL (· == C) h t t') (hr':fzSL (· == C) h rest rest')
    (hA:V P n0 x Φ ⟨t.set i (.mp G (ver+s) off),(h.set G (.cells (l++List.replicate s .junk))).set C (.cells (.ms G (ver+s) 0 s n (ver+s)::rest))⟩)
    (hB : ∀ h',h'.length=h.length→ziu0 h' C=some (.sl true s n cs'::rest')→V P n0 x Φ ⟨t',h'⟩):V P n0 x Φ ⟨t,h⟩ :=
  ⟨fun c hc' X0 base E0 w0 a w hn hr=>by
    rcases hr.room hG hv hs hs0 hC hne hi hc ht' hr' with q|q
    · exact hA.out c hc' X0 base E0 w0 a w hn q
    · have hml:=z7w9 (zn5q (K:=(· == C)) (h:=h) 0 h)
      have hCl:C<h.length:=z7ba hC
      exact (hB _ (by simp [hml]) (by simp [ziu0,hml,hCl])).out c hc' X0 base E0 w0 a w hn q⟩
end Go.Am
