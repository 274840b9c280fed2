/-
  1 texts of mine in one.
-/
import Derived.Test.YtdnhbfmlklaldaaGreatCb1b7f320
import Derived.Test.YtdnhbfmlklaldaaGreatC1d38dafb
import Derived.Test.YtdnhbfmlklaldaaGreatC86a19a23
set_option maxRecDepth 20000
set_option maxHeartbeats 4000000
open List renaming map_take → zA, map_drop → zB, map_set → zC, map_append → zD, drop_one → zE
set_option linter.unusedSimpArgs false
set_option linter.unusedVariables false
namespace Go.Am
open Go.ChangeShapes Go.WideShapes Go.ChangeAt Go.RowKit
mutual
/-- how many cells a datum has, with those that it reaches -/
def dvSz:DV→Nat
  | .sl _ _ _ cs=>z1t3 cs+1
  | .agg cs=>z1t3 cs
  | _=>1
def z1t3:List DV→Nat
  | []=>0
  | d::r=>dvSz d+z1t3 r
end
theorem z51p : ∀ {a b:List DV},z1t3 (a++b)=z1t3 a+z1t3 b
  | [],b=>by simp [z1t3]
  | d::r,b=>by simp only [List.cons_append,z1t3,z51p (a:=r)]; omega
theorem zjik : ∀ {gs:List (List DV)},z1t3 gs.flatten=(gs.map z1t3).sum
  | []=>by simp [z1t3]
  | g::r=>by rw [List.flatten_cons,z51p,zjik,List.map_cons,List.sum_cons]
theorem zdr0 {α β:Type} {f:α→Nat} {g:β→Nat} : ∀ {l:List α} {m:List β},l.length=m.length→(∀ i (h1:i<l.length) (h2:i<m.length),f l[i]≤g m[i])→(l.map f).sum≤(m.map g).sum
  | [],[],_,_=>by simp
  | [],_::_,h,_=>by simp at h
  | _::_,[],h,_=>by simp at h
  | a::l,b::m,h,hs=>by
    have h0:=hs 0 (by simp) (by simp)
    simp only [List.getElem_cons_zero] at h0
    have ih:=zdr0 (f:=f) (g:=g) (l:=l) (m:=m) (by simpa using h) fun i h1 h2=>by
      have:=hs (i+1) (by simpa using h1) (by simpa using h2)
      simpa using this
    simp only [List.map_cons,List.sum_cons]; omega
structure Bulk {H:Type} (B:DataW H→Nat):Prop where
  lit : ∀ l,1≤B (.lit l)
  nil:1≤B .nil
  sl : ∀ es sp,(es.map B).sum+1≤B (.slice es sp)
  agg : ∀ ps,(ps.map B).sum≤B (.agg ps)
theorem zhkq {τ:Ty} {ds:List DV} (h:τ.Ok ds):dvSz (τ.dv ds)≤z1t3 ds:=by
  cases τ with
  | arr n e=>simp [Ty.dv,dvSz]
  | st fs=>simp [Ty.dv,dvSz]
  | int k=>rw [Ty.Ok] at h; obtain ⟨n,rfl,_⟩:=h; simp [Ty.dv,dvSz,z1t3]
  | bool=>rw [Ty.Ok] at h; obtain ⟨n,rfl⟩:=h; simp [Ty.dv,dvSz,z1t3]
  | str=>rw [Ty.Ok] at h; obtain ⟨n,rfl⟩:=h; simp [Ty.dv,dvSz,z1t3]
  | sl e =>
    simp only [Ty.Ok] at h
    rcases h with rfl|⟨gs,rfl,_⟩
    · simp [Ty.dv,dvSz,z1t3]
    · simp [Ty.dv,z1t3]
section
variable {E:Env} {X:Forb} {w:World}
variable {H:Type} {enc:TypeId × Value→H} {P:Program} {base:Nat} {sp:Nat→Bool} {held:Bool}
theorem zhvz {t e:TypeId} {n fuel:Nat} {cs:List Value} {x:DataW H × List MemPlace} (ht:P.underlying t=some (.array n e)) (h:DataW.trod enc P w base sp held fuel t cs=some x) :
    ∃ m,fuel=m+1∧cs.length=P.cellsOf t ∧ ∃ xs:List (DataW H × List MemPlace),xs.length=n∧x.1 = .agg (xs.map (·.1)) ∧ ∀ i (hi:i<xs.length),DataW.trod enc P w base sp held m e ((cs.drop (i*P.cellsOf e)).take (P.cellsOf e))=some xs[i]:=by
  cases fuel with
  | zero=>simp [DataW.trod] at h
  | succ m =>
    unfold DataW.trod at h
    rw [ht] at h
    split at h<;>simp_all
    obtain ⟨hl,xs,hp,hd⟩:=h
    have h1:=mapM_some_length hp
    simp at h1
    refine ⟨xs,h1,by rw [← hd],fun i hi => ?_⟩
    have:=mapM_some_get hp i i (by first|(simp [hi]; done)|(rw [List.getElem?_range (by omega)]))
    rw [this,List.getElem?_eq_getElem hi]
theorem z0u9 {B:DataW H→Nat} (hB:Bulk B) : ∀ (fuel:Nat) (τ:Ty) (t:TypeId) (cs:List Value) (x:DataW H × List MemPlace),τ.chk P t=true→DataW.trod enc P w base sp held fuel t cs=some x→cs.length=τ.size ∧ ∃ ds,RepA [] (fun _ _=>False) w cs ds∧τ.Ok ds∧z1t3 ds≤B x.1
  | 0,_,_,_,_,_,h=>by simp [DataW.trod] at h
  | fuel+1,τ,t,cs,x,hc,h=>by
    cases τ with
    | int k =>
      simp only [Ty.chk] at hc
      split at hc<;>try (simp at hc; done)
      rename_i k' hu
      simp at hc; subst hc
      obtain ⟨n,rfl,rfl,hw⟩:=DataW.trod_int hu h
      exact ⟨rfl,[.int k' n],RepA.cons (.int _ _) RepA.nil,by simp only [Ty.Ok]; exact ⟨n,rfl,hw⟩,by have:=hB.lit (.int k' n); simpa [z1t3,dvSz] using this⟩
    | bool =>
      simp only [Ty.chk] at hc
      split at hc<;>try (simp at hc; done)
      rename_i hu
      obtain ⟨b,rfl,rfl⟩:=DataW.trod_bool hu h
      exact ⟨rfl,[.bool b],RepA.cons (.bool _) RepA.nil,by simp only [Ty.Ok]; exact ⟨b,rfl⟩,by have:=hB.lit (.bool b); simpa [z1t3,dvSz] using this⟩
    | str =>
      simp only [Ty.chk] at hc
      split at hc<;>try (simp at hc; done)
      rename_i hu
      obtain ⟨s,rfl,rfl,_⟩:=DataW.trod_string hu h
      exact ⟨rfl,[.str s.data.toList],RepA.cons (.str _ _ rfl) RepA.nil,by simp only [Ty.Ok]; exact ⟨_,rfl⟩,by have:=hB.lit (.string s.data.toList); simpa [z1t3,dvSz] using this⟩
    | arr n e =>
      simp only [Ty.chk] at hc
      split at hc<;>try (simp at hc; done)
      rename_i m u hu
      simp only [Bool.and_eq_true,decide_eq_true_eq] at hc
      obtain ⟨⟨⟨rfl,hsz⟩,hct⟩,hch⟩:=hc
      obtain ⟨m',hm',hl,xs,hxl,hx1,he⟩:=zhvz hu h
      have hm':fuel=m':=by omega
      subst hm'
      obtain ⟨gs,g1,g2⟩:=z6kk (Q:=fun i g=>RepA [] (fun _ _=>False) w ((cs.drop (i*e.size)).take e.size) g∧e.Ok g ∧ ∀ h:i<xs.length,z1t3 g≤B (xs[i]).1) m (fun i hi=>by
        have hy:=he i (by omega)
        rw [hsz] at hy
        obtain ⟨_,ds,q1,q2,q3⟩:=z0u9 hB fuel e u _ _ hch hy
        exact ⟨ds,q1,q2,fun _=>q3⟩)
      refine ⟨by rw [hl,hct]; rfl,gs.flatten,RepA.flat (s:=e.size) gs cs (by rw [hl,hct,g1]) (fun i hi=>(g2 i hi).1),?_,?_⟩
      · simp only [Ty.Ok]
        refine ⟨gs,g1,rfl,fun g hg => ?_⟩
        obtain ⟨i,hi,rfl⟩:=List.mem_iff_getElem.1 hg
        exact (g2 i hi).2.1
      · rw [hx1,zjik]
        have:=hB.agg (xs.map (·.1))
        have:=zdr0 (f:=z1t3) (g:=fun x:DataW H × List MemPlace=>B x.1) (by omega:gs.length=xs.length) (fun i h1 h2=>(g2 i h1).2.2 h2)
        rw [List.map_map] at *
        simp only [Function.comp_def] at *
        omega
    | st fs =>
      simp only [Ty.chk] at hc
      split at hc<;>try (simp at hc; done)
      rename_i l hu
      simp only [Bool.and_eq_true,decide_eq_true_eq] at hc
      obtain ⟨hct,hch⟩:=hc
      obtain ⟨xs,m,hm,hx1,hl,hxl,he⟩:=DataW.trod_struct hu h
      have hm:fuel=m:=by omega
      subst hm
      have go : ∀ (fs:List Ty) (l':List Field) (off k:Nat),Ty.chkL P fs l' off=true→cs.length=off+Ty.sizeL fs→(∀ i f,l'[i]? = some f→l.toList[k+i]? = some f) → ∃ ds,RepA [] (fun _ _=>False) w (cs.drop off) ds∧Ty.OkL fs ds∧z1t3 ds≤((xs.drop k).map fun x=>B x.1).sum:=by
        intro fs
        induction fs with
        | nil =>
          intro l' off k hch hlen _
          simp only [Ty.sizeL,Nat.add_zero] at hlen
          exact ⟨[],by rw [List.drop_of_length_le (by omega)]; exact RepA.nil,by simp [Ty.OkL],by simp [z1t3]⟩
        | cons τ r ih =>
          intro l' off k hch hlen hsub
          cases l' with
          | nil=>simp [Ty.chkL] at hch
          | cons f l' =>
            simp only [Ty.chkL,Bool.and_eq_true,decide_eq_true_eq] at hch
            obtain ⟨⟨⟨ho,hs⟩,hct'⟩,hr⟩:=hch
            simp only [Ty.sizeL] at hlen
            have hf:l[k]? = some f:=by have:=hsub 0 f rfl; simpa using this
            have hk:k<l.size:=by
              rcases Nat.lt_or_ge k l.size with g|g
              · exact g
              · rw [Array.getElem?_eq_none g] at hf; simp at hf
            have hy:=he k f hf
            rw [List.getElem?_eq_getElem (by omega),ho,hs] at hy
            obtain ⟨_,a,q1,q2,q5⟩:=z0u9 hB fuel τ f.type _ _ hct' hy
            obtain ⟨b,q3,q4,q6⟩:=ih l' (off+τ.size) (k+1) hr (by omega) (fun i f' hi=>by
              have:=hsub (i+1) f' (by simpa using hi)
              rwa [show k+1+i=k+(i+1) from by omega])
            refine ⟨a++b,?_,by simp only [Ty.OkL]; exact ⟨a,b,rfl,q2,q4⟩,by rw [z51p,List.drop_eq_getElem_cons (by omega),List.map_cons,List.sum_cons]; omega⟩
            have q:=q1.append q3
            rwa [← List.drop_drop,List.take_append_drop] at q
      obtain ⟨ds,q1,q2,q3⟩:=go fs l.toList 0 0 hch (by rw [hl,hct]; omega) (fun i f hi=>by simpa using hi)
      refine ⟨by rw [hl,hct]; rfl,ds,by simpa using q1,by simp only [Ty.Ok]; exact q2,?_⟩
      rw [hx1]
      show z1t3 ds≤B (.agg (xs.map (·.1)))
      have:=hB.agg (xs.map (·.1))
      rw [List.drop_zero] at q3
      rw [List.map_map] at this
      simp only [Function.comp_def] at this
      omega
    | sl e =>
      simp only [Ty.chk] at hc
      split at hc<;>try (simp at hc; done)
      rename_i u hu
      simp only [Bool.and_eq_true,decide_eq_true_eq] at hc
      obtain ⟨hsz,hch⟩:=hc
      rcases DataW.trod_slice hu h with ⟨rfl,hx1⟩|⟨a,len,cap,elems,rest,n,hn,rfl,hx1,_,hlc,hcm,hel,he,_,_⟩
      · exact ⟨rfl,[.nils],RepA.cons .nils RepA.nil,by simp only [Ty.Ok]; exact .inl trivial,by rw [hx1]; have:=hB.nil; simpa [z1t3,dvSz] using this⟩
      · have hn:fuel=n:=by omega
        subst hn
        obtain ⟨ps,p1,p2⟩:=z6kk (Q:=fun i (p:List Value × List DV)=>p.1.length=e.size∧(∀ j,j<e.size→w.cell? (a.add (i*e.size+j))=p.1[j]?)∧RepA [] (fun _ _=>False) w p.1 p.2∧e.Ok p.2 ∧ ∀ h:i<elems.length,z1t3 p.2≤B (elems[i]).1) len (fun i hi=>by
          have:=he i hi
          rw [List.getElem?_eq_getElem (by omega),Option.bind_eq_some_iff] at this
          obtain ⟨cs',hcs,hy⟩:=this
          obtain ⟨_,hcl,hcell⟩:=World.cells?_some hcs
          obtain ⟨_,ds,q1,q2,q3⟩:=z0u9 hB fuel e u _ _ hch hy
          rw [hsz] at hcl hcell
          exact ⟨(cs',ds),hcl,fun j hj=>by have:=hcell j hj; rw [Am.add_add] at this; exact this,q1,q2,fun _=>q3⟩)
        have key : ∀ (ps:List (List Value × List DV)),(∀ p ∈ ps,p.1.length=e.size∧RepA [] (fun _ _=>False) w p.1 p.2)→RepA [] (fun _ _=>False) w (ps.map (·.1)).flatten (ps.map (·.2)).flatten∧(ps.map (·.1)).flatten.length=ps.length*e.size:=by
          intro ps
          induction ps with
          | nil=>intro _; exact ⟨RepA.nil,by simp⟩
          | cons p r ih =>
            intro hp
            obtain ⟨i1,i2⟩:=ih (fun q hq=>hp q (by simp [hq]))
            obtain ⟨j1,j2⟩:=hp p (by simp)
            refine ⟨by simpa using j2.append i1,?_⟩
            simp only [List.map_cons,List.flatten_cons,List.length_append,i2,j1,List.length_cons,Nat.add_mul]
            omega
        have hps : ∀ p ∈ ps,p.1.length=e.size∧RepA [] (fun _ _=>False) w p.1 p.2:=fun p hp=>by
          obtain ⟨i,hi,rfl⟩:=List.mem_iff_getElem.1 hp
          exact ⟨(p2 i hi).1,(p2 i hi).2.2.1⟩
        obtain ⟨k1,k2⟩:=key ps hps
        have cells : ∀ (ps:List (List Value × List DV)) (o:Nat),(∀ i (h:i<ps.length),(ps[i]).1.length=e.size ∧ ∀ j,j<e.size→w.cell? (a.add ((o+i)*e.size+j))=(ps[i]).1[j]?) → ∀ j v,(ps.map (·.1)).flatten[j]? = some v→w.cell? (a.add (o*e.size+j))=some v:=by
          intro ps
          induction ps with
          | nil=>intro o _ j v hj; simp at hj
          | cons p r ih =>
            intro o hp j v hj
            simp only [List.map_cons,List.flatten_cons] at hj
            obtain ⟨l0,c0⟩:=hp 0 (by simp)
            simp only [List.getElem_cons_zero,Nat.add_zero] at l0 c0
            by_cases hjs:j<e.size
            · rw [List.getElem?_append_left (by omega)] at hj
              rw [c0 j hjs]; exact hj
            · rw [List.getElem?_append_right (by omega),l0] at hj
              have:=ih (o+1) (fun i hi=>by
                have:=hp (i+1) (by simpa using hi)
                simpa [show o+1+i=o+(i+1) from by omega] using this) (j-e.size) v hj
              rw [Nat.add_mul,Nat.one_mul] at this
              rwa [show o*e.size+e.size+(j-e.size)=o*e.size+j from by omega] at this
        have hcell:=cells ps 0 (fun i hi=>⟨(p2 i hi).1,by simpa using (p2 i hi).2.1⟩)
        simp only [Nat.zero_mul,Nat.zero_add] at hcell
        refine ⟨rfl,[.sl false e.size (ps.map (·.2)).length (ps.map (·.2)).flatten],RepA.cons ?_ RepA.nil,?_,?_⟩
        · have hlen:(ps.map (·.2)).length=len:=by simp [p1]
          rw [hlen]
          exact znwx k1 hlc (fun hf=>by simp at hf) (by rw [← k1.1,k2,p1]) (fun j u hj=>hcell j u hj) (fun _ _ h=>h)
        · simp only [Ty.Ok]
          refine .inr ⟨ps.map (·.2),rfl,by rw [List.length_map,p1]; exact Nat.le_trans hlc hcm,fun g hg => ?_⟩
          obtain ⟨p,hp,rfl⟩:=List.mem_map.1 hg
          obtain ⟨i,hi,rfl⟩:=List.mem_iff_getElem.1 hp
          exact (p2 i hi).2.2.2.1
        · rw [hx1]
          simp only [z1t3,dvSz,Nat.add_zero]
          rw [zjik,List.map_map]
          have h1:=hB.sl (elems.map (·.1)) (rest.map (·.1))
          have h2:=zdr0 (f:=fun p:List Value × List DV=>z1t3 p.2) (g:=fun x:DataW H × List MemPlace=>B x.1) (by omega:ps.length=elems.length) (fun i h1 h2=>(p2 i h1).2.2.2.2 h2)
          rw [List.map_map] at h1
          simp only [Function.comp_def] at h1 ⊢
          omega
theorem zmqq {B:DataW H→Nat} (hB:Bulk B) {r:Reach} {b0:Nat} {τ:Ty} {t:TypeId} {v:Value} {d:DataW H} {ps:List MemPlace} (hc:τ.chk P t=true) (hval:Value.okWide P w r b0 t v) (hd:DataW.Trod enc P w base sp held t v d ps) :
    ∃ ds,Rep [] (fun _ _=>False) w v (τ.dv ds)∧τ.Ok ds∧dvSz (τ.dv ds)≤B d:=by
  obtain ⟨fuel,hd⟩:=hd
  obtain ⟨hl,ds,h1,h2,h3⟩:=z0u9 hB fuel τ t _ _ hc hd
  have h4:dvSz (τ.dv ds)≤B d:=Nat.le_trans (zhkq h2) h3
  refine ⟨ds,?_,h2,h4⟩
  have agg:(∃ n e,P.underlying t=some (.array n e))∨(∃ fs,P.underlying t=some (.struct fs))→Rep [] (fun _ _=>False) w v (.agg ds):=by
    intro hu
    have : ∃ cs,v = .agg cs:=by
      unfold Value.okWide at hval
      rcases hu with ⟨n,e,hu⟩|⟨fs,hu⟩<;>rw [hu] at hval<;>exact ⟨_,hval.choose_spec.1⟩
    obtain ⟨cs,rfl⟩:=this
    simpa [Value.cells] using h1.agg
  have single:τ.size=1→(∀ cs,v ≠ .agg cs)→Rep [] (fun _ _=>False) w v (ds.headD .junk):=by
    intro hs hv
    have hcells:v.cells.toList=[v]:=by
      cases v<;>first|rfl|(exact absurd rfl (hv _))
    rw [hcells] at h1
    match ds,h1 with
    | [d],h1=>exact h1.head
    | [],h1=>exact absurd h1.1 (by simp)
    | _::_::_,h1=>exact absurd h1.1 (by simp)
  cases τ with
  | arr n e =>
    simp only [Ty.chk] at hc
    split at hc<;>try (simp at hc; done)
    rename_i m u hu
    exact agg (.inl ⟨_,_,hu⟩)
  | st fs =>
    simp only [Ty.chk] at hc
    split at hc<;>try (simp at hc; done)
    rename_i l hu
    exact agg (.inr ⟨_,hu⟩)
  | int k =>
    simp only [Ty.chk] at hc
    split at hc<;>try (simp at hc; done)
    rename_i k' hu
    obtain ⟨n,hn⟩:=okWide_int hu hval
    exact single rfl (fun cs e=>by rw [hn] at e; cases e)
  | bool =>
    simp only [Ty.chk] at hc
    split at hc<;>try (simp at hc; done)
    rename_i hu
    obtain ⟨n,hn⟩:=okWide_bool hu hval
    exact single rfl (fun cs e=>by rw [hn] at e; cases e)
  | str =>
    simp only [Ty.chk] at hc
    split at hc<;>try (simp at hc; done)
    rename_i hu
    obtain ⟨n,hn⟩:=okWide_string hu hval
    exact single rfl (fun cs e=>by rw [hn] at e; cases e)
  | sl e =>
    simp only [Ty.chk] at hc
    split at hc<;>try (simp at hc; done)
    rename_i u hu
    obtain ⟨a,len,cap,hn⟩:=okWide_slice hu hval
    exact single rfl (fun cs e=>by rw [hn] at e; cases e)
theorem z48b {B:DataW H→Nat} (hB:Bulk B) {r:Reach} {b0:Nat} : ∀ {τs:List Ty} {ts:List TypeId} {vs:List Value} {ds:List (DataW H)} {ps:List MemPlace},τs.length=ts.length→(∀ (i:Nat) (τ:Ty) (t:TypeId),τs[i]? = some τ→ts[i]? = some t→τ.chk P t=true) →
    (∀ (j:Nat) t v,ts[j]? = some t→vs[j]? = some v→Value.okWide P w r b0 t v)→DataW.TrodAll enc P w base sp held ts vs ds ps →
    ∃ dvs,RepA [] (fun _ _=>False) w vs dvs∧Ty.Args τs dvs∧z1t3 dvs≤(ds.map B).sum
  | [],[],vs,ds,ps,_,_,_,h=>by
    obtain ⟨rfl,rfl,rfl⟩:=trodAll_nil h
    exact ⟨[],RepA.nil,rfl,by simp [z1t3]⟩
  | [],_::_,_,_,_,hl,_,_,_=>by simp at hl
  | _::_,[],_,_,_,hl,_,_,_=>by simp at hl
  | τ::τs,t::ts,vs,ds,ps,hl,hc,hv,h=>by
    obtain ⟨v,vs',d,ds',p,q,rfl,rfl,rfl,h1,h2⟩:=trodAll_cons h
    obtain ⟨x,x1,x2,x3⟩:=zmqq hB (hc 0 τ t rfl rfl) (hv 0 t v rfl rfl) h1
    obtain ⟨l,l1,l2,l3⟩:=z48b hB (by simpa using hl) (fun i τ' t' a b=>hc (i+1) τ' t' a b) (fun j t' v' a b=>hv (j+1) t' v' a b) h2
    exact ⟨τ.dv x::l,RepA.cons x1 l1,⟨x,l,rfl,x2,l2⟩,by simp only [z1t3,List.map_cons,List.sum_cons]; omega⟩
theorem zjs2 {B:DataW H→Nat} (hB:Bulk B) {M:Nat} {k:FuncId} {f:Func} {s:ChangeSpec} {apart fresh handsOn again:Bool} {W:World} {b0:Nat} {args:Array Value} {ds gs:List (DataW H)} {before:List MemPlace} (τs:List Ty)
    (hchk:Ty.chkAll P τs f.params.toList=true) (hl:laidOutB P=true) (hps:zh8k P f.params.toList=true) {tb:TypeId} (hres:f.resultTypes = #[tb]) (hbool:P.underlying tb=some .bool) (hv:s.vars=[])
    (hval : ∀ (j:Nat) t v,f.params[j]? = some t→args[j]? = some v→Value.okWide P W .any b0 t v)
    (hW:DataW.Whole enc P f.params.toList s.vars apart W args.toList ds gs before) (hs : ∀ ds:List (DataW H),τs.length=ds.length→s.fn H ds={ results:=[.lit (.bool true)],args:=ds,vars:=[] })
    (hent:Ent P k) (hM:(ds.map B).sum≤M) (hlaw : ∀ dvs,Ty.Args τs dvs→z1t3 dvs≤M→Am.Sem P k dvs (.bool true)) :
    Calls P k args W fun e W' => ∃ v,e = .returned v∧s.post enc P f apart fresh handsOn again W args v W':=by
  have hW':=hW
  obtain ⟨p,q,hA,hV,_⟩:=hW'
  have hg:gs=[]:=by
    rw [hv] at hV
    exact (trodVars_none hV).1
  obtain ⟨c1,c2⟩:=z53v hchk
  obtain ⟨dvs,r1,r2,r3⟩:=z48b hB c1 c2 (fun j t v a b=>hval j t v (by simpa using a) (by simpa using b)) hA
  have hlen : ∀ {ts:List TypeId} {vs:List Value} {ds:List (DataW H)} {ps:List MemPlace},DataW.TrodAll enc P W 0 (fun _=>true) true ts vs ds ps→ts.length=ds.length:=by
    intro ts
    induction ts with
    | nil=>intro vs ds ps h; obtain ⟨_,rfl,_⟩:=trodAll_nil h; rfl
    | cons t ts ih=>intro vs ds ps h; obtain ⟨v,vs',d,ds',p,q,rfl,rfl,rfl,h1,h2⟩:=trodAll_cons h; simp [ih h2]
  refine zl2r hl (fun t ht => ?_) hres hbool hv hW (by rw [hg,List.append_nil]; exact hs ds (by rw [c1]; exact hlen hA)) r1 hent (hlaw dvs r2 (Nat.le_trans r3 hM))
  have:=List.all_eq_true.1 hps t ht
  simpa using this
end
end Go.Am
