/-
  1 texts of mine in one.
-/
import Derived.RangeFuncLeaves
import Derived.Deep.LoopGhost
import Derived.Test.YtaihpefemjlilaaC9aa0e7c0
import Derived.Test.YtaihpefemjlilaaCe1ff8d1d
set_option maxRecDepth 20000
set_option maxHeartbeats 4000000
open List renaming map_take → zA, map_drop → zB, map_set → zC, map_append → zD, drop_one → zE
open Bool renaming and_eq_true → y06
open List renaming getElem?_take → y00, getElem?_eq_some_iff → y03, getD_eq_getElem?_getD → y04, getElem?_append_left → y05, getElem?_eq_getElem → y07
open Nat renaming le_refl → y08, le_trans → y09
open Option renaming map_eq_some_iff → y01, bind_eq_some_iff → y02
set_option linter.unusedSimpArgs false
set_option linter.unusedVariables false
namespace Go.Am
open Go.RowKit
inductive AExit where
  | normal
  | exit (id:Nat)
  | ret
mutual
/-- all objects that are named have a number below n -/
def below (n:Nat):DV→Bool
  | .agg cs=>z1r6 n cs
  | .tup cs=>z1r6 n cs
  | .sl _ _ _ cs=>z1r6 n cs
  | .ref cs=>z1r6 n cs
  | .fn _ a b=>z1r6 n a&&z1r6 n b
  | .iface _ v=>below n v
  | .ms id _ _ _ _ _=>decide (id<n)
  | .mp id _ _=>decide (id<n)
  | _=>true
def z1r6 (n:Nat):List DV→Bool
  | []=>true
  | d::r=>below n d&&z1r6 n r
end
def zlf2 (n:Nat):List AObj→Bool
  | []=>true
  | .cells cs::r=>z1r6 n cs&&zlf2 n r
  | .dead::r=>zlf2 n r
  | .mapo _ _::r=>zlf2 n r
def znqe:List DV→List DV→Prop
  | [],[]=>True
  | a::r,b::s=>(b = .junk∨b=a)∧znqe r s
  | _,_=>False
def fz (n:Nat) (h:List AObj):Nat→DV→Option DV
  | 0,d=>zcxt (fun d=>match d with
    | .ms id ver off s m lim=>if id<n then some (.ms id ver off s m lim) else none
    | .mp id ver off=>if id<n then some (.mp id ver off) else none
    | _=>none) d
  | k+1,d=>zcxt (fun d=>match d with
    | .ms id ver off s m lim=>if id<n then some (.ms id ver off s m lim) else (ziu0 h id).bind fun l=>if l.length=ver then (zp5p (fz n h k) ((l.drop off).take (m*s))).map fun cs => .sl false s m cs else none
    | .mp id ver off=>if id<n then some (.mp id ver off) else (ziu0 h id).bind fun l=>if l.length=ver then (zp5p (fz n h k) (l.drop off)).map .ref else none
    | _=>none) d
def fzL (n:Nat) (h:List AObj):List DV→List DV→Prop
  | [],[]=>True
  | a::r,b::s=>(b = .junk∨fz n h 3 a=some b)∧fzL n h r s
  | _,_=>False
def fzH (n:Nat) (h:List AObj):List AObj→List AObj→Prop
  | _,[]=>True
  | .cells a::r,.cells b::s=>fzL n h a b∧fzH n h r s
  | .dead::r,.dead::s=>fzH n h r s
  | .mapo b m::r,.mapo b' m'::s=>b=b'∧m=m'∧fzH n h r s
  | _,_=>False
def Weak (n0:Nat) (st st':St):Prop :=
  (znqe st.t st'.t∧(st'.h=st.h∨(∃ tail,st.h=st'.h++tail∧n0≤st'.h.length∧z1r6 st'.h.length st'.t=true∧zlf2 st'.h.length st'.h=true))) ∨
  (n0≤st'.h.length∧st'.h.length≤st.h.length∧fzL st'.h.length st.h st.t st'.t∧fzH st'.h.length st.h st.h st'.h)
def KpB (b:Nat) (v:Value) (W W':World):Prop:=W.cell? ⟨b,0,none⟩=some v→W'.cell? ⟨b,0,none⟩=some v
def z6za (P:Program) (g:FuncId) (k:IntKind) (n:Int) {α:Type} (encD:α→DV) (xs:List α):Prop :=
  Ent P g ∧ ∃ encV:α→Value,(∀ x E X w,Rep E X w (encV x) (encD x)) ∧ ∀ (b:Nat) (w:World),w.cell? ⟨b,0,none⟩=some (.int k n) →
    SeqStopsK Fence.wide 2 P g #[.pointer (some ⟨b,0,none⟩)] (fun x => #[encV x]) (KpB b (.int k n)) (fun ys=>ys=xs) (fun _=>True) xs.length w
def z8s9:ACode→Bool
  | .skip=>true
  | .region draw ops => !draw&&ops.all fun o => !o.op.isCall
  | .seq a b=>z8s9 a&&z8s9 b
  | .cond _ a b=>z8s9 a&&z8s9 b
  | .block _ a=>z8s9 a
  | .exit _=>true
  | _=>false
def awp (P:Program) (n0:Nat):ACode→(AExit→St→Prop)→St→Prop
  | .skip,Φ,st=>Φ .normal st
  | .region draw ops,Φ,st=>if draw=true then zetq P ops st (Φ .normal) else zysb P ops st (Φ .normal)
  | .seq a b,Φ,st=>awp P n0 a (fun e st=>match e with | .normal=>awp P n0 b Φ st|e=>Φ e st) st
  | .cond c x y,Φ,st=>match ev st.t c with
    | .bool b=>(b=true→awp P n0 x Φ st)∧(b=false→awp P n0 y Φ st)
    | _=>False
  | .block id c,Φ,st=>awp P n0 c (fun e st=>match e with | .exit i=>if i=id then Φ .normal st else Φ (.exit i) st|e=>Φ e st) st
  | .loop c,Φ,st => ∃ (I:Nat→St→Prop) (n:Nat) (st0:St),Weak n0 st st0∧I n st0 ∧
      ∀ n st,I n st→awp P n0 c (fun e st'=>match e with | .normal => ∃ n' st'',Weak n0 st' st''∧n'<n∧I n' st''|e=>Φ e st') st
  | .exit id,Φ,st=>Φ (.exit id) st
  | .ret,Φ,st=>Φ .ret st
  | .rangeF f p d c,Φ,st=>(z8s9 c=true∧p<st.t.length) ∧ ∃ (g id:Nat) (k:IntKind) (n:Int) (α:Type) (encD:α→DV) (xs:List α) (I:List α→List AObj→Prop),ev st.t f = .fn (.func g) [] [.mp id 1 0]∧z6za P g k n encD xs ∧
      (∀ pre h,I pre h→ziu0 h id=some [.int k n])∧I [] st.h ∧
      (∀ pre x h,pre.length<xs.length→I pre h→awp P n0 c (fun e st'=>match e with | .normal=>I (pre++[x]) st'.h|_=>False) ⟨(st.t.set p (encD x)).set d (encD x),h⟩) ∧
      (∀ h,I xs h→Φ .normal ⟨st.t,h⟩)
def AQ (X0:Forb) (base:Nat) (E0:Env) (w0:World) (Φ:AExit→St→Prop):Exit→Act→World→Prop
  | .normal,a,w => ∃ st,Φ .normal st∧SR X0 base E0 w0 st a w
  | .exit id,a,w => ∃ st,Φ (.exit id) st∧SR X0 base E0 w0 st a w
  | .ret,a,w => ∃ st,Φ .ret st∧SR X0 base E0 w0 st a w
  | _,_,_=>False
theorem z8mc : ∀ {l l':List DV},znqe l l'→l'.length=l.length
  | [],[],_=>rfl
  | [],_::_,h=>by simp [znqe] at h
  | _::_,[],h=>by simp [znqe] at h
  | _::_,_::_,h=>by simp [z8mc h.2]
theorem z2k1 : ∀ {l l':List DV},znqe l l' → ∀ i,l'.getD i .junk = .junk∨l'.getD i .junk=l.getD i .junk
  | [],[],_,i => .inr rfl
  | [],_::_,h,_=>by simp [znqe] at h
  | _::_,[],h,_=>by simp [znqe] at h
  | a::r,b::s,h,i=>by
    cases i with
    | zero=>simpa using h.1
    | succ i=>simpa using z2k1 h.2 i
theorem z7l2 {n:Nat} : ∀ {l:List DV},z1r6 n l=true → ∀ i (h:i<l.length),below n l[i]=true
  | [],_,i,h=>by simp at h
  | d::r,hp,i,h=>by
    simp only [z1r6,y06] at hp
    cases i with
    | zero=>exact hp.1
    | succ i=>exact z7l2 hp.2 i (by simpa using h)
theorem zj1g {n:Nat} : ∀ {l:List AObj},zlf2 n l=true → ∀ (i:Nat) (cs:List DV),l[i]? = some (.cells cs)→z1r6 n cs=true
  | [],_,i,cs,h=>by simp at h
  | .cells c::r,hp,i,cs,h=>by
    simp only [zlf2,y06] at hp
    cases i with
    | zero=>simp at h; subst h; exact hp.1
    | succ i=>exact zj1g hp.2 i cs (by simpa using h)
  | .dead::r,hp,i,cs,h=>by
    simp only [zlf2] at hp
    cases i with
    | zero=>simp at h
    | succ i=>exact zj1g hp i cs (by simpa using h)
  | .mapo _ _::r,hp,i,cs,h=>by
    simp only [zlf2] at hp
    cases i with
    | zero=>simp at h
    | succ i=>exact zj1g hp i cs (by simpa using h)
theorem Rep.drop {E:Env} {X X':XSet} {w:World} {n:Nat} (hn:n≤E.length) {v:Value} {d:DV} (h:Rep E X w v d) (hX : ∀ b o,X' b o→X b o) (hp:Am.below n d=true):Rep (E.take n) X' w v d:=by
  induction h with
  | int k n=>exact .int k n
  | bool b=>exact .bool b
  | str s l h=>exact .str s l h
  | agg cs ds hl _ ih=>simp only [Am.below] at hp; exact .agg cs ds hl (fun i h1 h2=>ih i h1 h2 (z7l2 hp i h2))
  | tup cs ds hl _ ih=>simp only [Am.below] at hp; exact .tup cs ds hl (fun i h1 h2=>ih i h1 h2 (z7l2 hp i h2))
  | nilp=>exact .nilp
  | nilm=>exact .nilm
  | mapv b=>exact .mapv b
  | nilf=>exact .nilf
  | nili=>exact .nili
  | nils=>exact .nils
  | sl full s n cap a ds cv hn hf hl hc hx _ ih=>simp only [Am.below] at hp; exact .sl full s n cap a ds cv hn hf hl hc (fun i hi h'=>hx i hi (hX _ _ h')) (fun i h1=>ih i h1 (z7l2 hp i h1))
  | ref a ds cv hc hx _ ih=>simp only [Am.below] at hp; exact .ref a ds cv hc (fun i hi h'=>hx i hi (hX _ _ h')) (fun i h1=>ih i h1 (z7l2 hp i h1))
  | fn f first captured df dc h1 h2 _ _ ih1 ih2 =>
    simp only [Am.below,y06] at hp
    exact .fn f first captured df dc h1 h2 (fun i a b=>ih1 i a b (z7l2 hp.1 i b)) (fun i a b=>ih2 i a b (z7l2 hp.2 i b))
  | iface t v d _ ih=>simp only [Am.below] at hp; exact .iface t v d (ih hp)
  | ms id ver off s m lim a k cap hid h =>
    simp only [Am.below,decide_eq_true_eq] at hp
    refine .ms id ver off s m lim a k cap (by simp; omega) (fun b L he=>h b L ?_)
    rw [y00,if_pos hp] at he; exact he
  | mp id ver off a hid h =>
    simp only [Am.below,decide_eq_true_eq] at hp
    refine .mp id ver off a (by simp; omega) (fun b L he=>h b L ?_)
    rw [y00,if_pos hp] at he; exact he
  | junk v=>exact .junk v
theorem zmov {n:Nat} {l:List DV} (h:z1r6 n l=true) (i:Nat):below n (l.getD i .junk)=true:=by
  rw [y04]
  by_cases hi:i<l.length
  · rw [y07 hi]; exact z7l2 h i hi
  · rw [List.getElem?_eq_none (by omega)]; rfl
theorem zqsp {n:Nat} {h:List AObj} : ∀ {l l':List DV},fzL n h l l'→l'.length=l.length
  | [],[],_=>rfl
  | [],_::_,h=>by simp [fzL] at h
  | _::_,[],h=>by simp [fzL] at h
  | _::_,_::_,h=>by simp [zqsp h.2]
theorem zmu0 {n:Nat} {h:List AObj} : ∀ {l l':List DV},fzL n h l l' → ∀ i,l'.getD i .junk = .junk∨fz n h 3 (l.getD i .junk)=some (l'.getD i .junk)
  | [],[],_,i => .inl rfl
  | [],_::_,h,_=>by simp [fzL] at h
  | _::_,[],h,_=>by simp [fzL] at h
  | a::r,b::s,h,i=>by
    cases i with
    | zero=>simpa using h.1
    | succ i=>simpa using zmu0 h.2 i
theorem zr70 {n:Nat} {h:List AObj} : ∀ {l l':List AObj},fzH n h l l' → ∀ (id:Nat) (cs:List DV),l'[id]? = some (.cells cs) → ∃ cs0,l[id]? = some (.cells cs0)∧fzL n h cs0 cs
  | _,[],_,id,cs,e=>by simp at e
  | [],.cells _::_,h,_,_,_=>by simp [fzH] at h
  | [],.dead::_,h,_,_,_=>by simp [fzH] at h
  | .cells a::r,.cells b::s,h,id,cs,e=>by
    cases id with
    | zero=>simp at e; subst e; exact ⟨a,rfl,h.1⟩
    | succ id=>exact zr70 h.2 id cs e
  | .dead::r,.dead::s,h,id,cs,e=>by
    cases id with
    | zero=>simp at e
    | succ id=>simp only [fzH] at h; exact zr70 h id cs e
  | .mapo _ _::r,.mapo _ _::s,h,id,cs,e=>by
    cases id with
    | zero=>simp at e
    | succ id=>simp only [fzH] at h; exact zr70 h.2.2 id cs e
  | [],.mapo _ _::_,h,_,_,_=>by simp [fzH] at h
  | .cells _::_,.mapo _ _::_,h,_,_,_=>by simp [fzH] at h
  | .dead::_,.mapo _ _::_,h,_,_,_=>by simp [fzH] at h
  | .mapo _ _::_,.cells _::_,h,_,_,_=>by simp [fzH] at h
  | .mapo _ _::_,.dead::_,h,_,_,_=>by simp [fzH] at h
  | .cells _::_,.dead::_,h,_,_,_=>by simp [fzH] at h
  | .dead::_,.cells _::_,h,_,_,_=>by simp [fzH] at h
theorem zmvd {n:Nat} {h:List AObj} : ∀ {l l':List AObj},fzH n h l l' → ∀ (id:Nat),l'[id]? = some .dead→l[id]? = some .dead
  | _,[],_,id,e=>by simp at e
  | [],.cells _::_,h,_,_=>by simp [fzH] at h
  | [],.dead::_,h,_,_=>by simp [fzH] at h
  | .cells a::r,.cells b::s,h,id,e=>by
    cases id with
    | zero=>simp at e
    | succ id=>exact zmvd h.2 id e
  | .dead::r,.dead::s,h,id,e=>by
    cases id with
    | zero=>rfl
    | succ id=>simp only [fzH] at h; exact zmvd h id e
  | .mapo _ _::r,.mapo _ _::s,h,id,e=>by
    cases id with
    | zero=>simp at e
    | succ id=>simp only [fzH] at h; exact zmvd h.2.2 id e
  | [],.mapo _ _::_,h,_,_=>by simp [fzH] at h
  | .cells _::_,.mapo _ _::_,h,_,_=>by simp [fzH] at h
  | .dead::_,.mapo _ _::_,h,_,_=>by simp [fzH] at h
  | .mapo _ _::_,.cells _::_,h,_,_=>by simp [fzH] at h
  | .mapo _ _::_,.dead::_,h,_,_=>by simp [fzH] at h
  | .cells _::_,.dead::_,h,_,_=>by simp [fzH] at h
  | .dead::_,.cells _::_,h,_,_=>by simp [fzH] at h
theorem z01l {n:Nat} {h:List AObj} : ∀ {l l':List AObj},fzH n h l l' → ∀ (id b:Nat) (m:MapD),l'[id]? = some (.mapo b m)→l[id]? = some (.mapo b m)
  | _,[],_,id,b,m,e=>by simp at e
  | [],.cells _::_,h,_,_,_,_=>by simp [fzH] at h
  | [],.dead::_,h,_,_,_,_=>by simp [fzH] at h
  | [],.mapo _ _::_,h,_,_,_,_=>by simp [fzH] at h
  | .cells a::r,.cells b::s,h,id,_,_,e=>by
    cases id with
    | zero=>simp at e
    | succ id=>exact z01l h.2 id _ _ e
  | .dead::r,.dead::s,h,id,_,_,e=>by
    cases id with
    | zero=>simp at e
    | succ id=>simp only [fzH] at h; exact z01l h id _ _ e
  | .mapo _ _::r,.mapo _ _::s,h,id,_,_,e=>by
    simp only [fzH] at h
    obtain ⟨rfl,rfl,h⟩:=h
    cases id with
    | zero=>exact e
    | succ id=>exact z01l h id _ _ e
  | .cells _::_,.mapo _ _::_,h,_,_,_,_=>by simp [fzH] at h
  | .dead::_,.mapo _ _::_,h,_,_,_,_=>by simp [fzH] at h
  | .mapo _ _::_,.cells _::_,h,_,_,_,_=>by simp [fzH] at h
  | .mapo _ _::_,.dead::_,h,_,_,_,_=>by simp [fzH] at h
  | .cells _::_,.dead::_,h,_,_,_,_=>by simp [fzH] at h
  | .dead::_,.cells _::_,h,_,_,_,_=>by simp [fzH] at h
theorem ze13 {X0:Forb} {E:Env} {n:Nat} {b o:Nat} (h:FX X0 (E.take n) b o):FX X0 E b o:=by
  rcases h with g|⟨id,L,g⟩
  · exact .inl g
  · rw [y00] at g
    split at g
    · exact .inr ⟨id,L,g⟩
    · simp at g
theorem zdbd {X0:Forb} {base:Nat} {w:World} {h:List AObj} {E:Env} (hh:HeapRel X0 base w h E) {n:Nat} (hn:n≤E.length) : ∀ (k:Nat) {v:Value} {d d':DV},Rep E (FX X0 E) w v d→fz n h k d=some d'→Rep (E.take n) (FX X0 (E.take n)) w v d'
  | 0,v,d,d',hr,hs=>by
    refine zhjg (fun b o h'=>ze13 h') (fun v id ver off s m lim d' hr' h' => ?_) (fun v id ver off d' hr' h' => ?_) hr hs
    · simp only at h'
      split at h'
      · rename_i hlt
        simp at h'; subst h'
        exact hr'.drop hn (fun b o h'=>ze13 h') (by simp [Am.below,hlt])
      · simp at h'
    · simp only at h'
      split at h'
      · rename_i hlt
        simp at h'; subst h'
        exact hr'.drop hn (fun b o h'=>ze13 h') (by simp [Am.below,hlt])
      · simp at h'
  | k+1,v,d,d',hr,hs=>by
    have hobj : ∀ {id b L:Nat},¬ id<n→E[id]? = some (some (b,L)) → ∀ o,¬ FX X0 (E.take n) b o:=fun hid hE o hx=>by
      rcases hx with hx|⟨id',L',g⟩
      · obtain ⟨_,_,_,_,_,hb,_,_⟩:=hh.live hE
        exact (hh.x0 _ _ hx).2 _ _ hE
      · rw [y00] at g
        split at g
        · exact hh.apart _ _ _ _ _ _ (fun e=>hid (by omega)) g hE rfl
        · simp at g
    refine zhjg (fun b o h'=>ze13 h') (fun v id ver off s m lim d' hr' h' => ?_) (fun v id ver off d' hr' h' => ?_) hr hs
    · simp only at h'
      split at h'
      · rename_i hlt
        simp at h'; subst h'
        exact hr'.drop hn (fun b o h'=>ze13 h') (by simp [Am.below,hlt])
      rename_i hge
      simp only [y02] at h'
      obtain ⟨l,hl,h'⟩:=h'
      split at h'
      · rename_i hver
        obtain ⟨cs,hcs,rfl⟩:=y01.1 h'
        obtain ⟨b,arr,ty,cap,a,e1,e2,e3,e4,rfl,k1,k2,k3,k4,k5⟩:=zuh1 hh hr' hl hver
        have hR:=zzrb ((e4.drop off).take (m*s)) (fun v d d' q1 q2=>zdbd hh hn k q1 q2) hcs
        have hlen:cs.length=m*s:=by rw [← hR.1]; simp; omega
        refine znwx hR k1 (fun hf=>by simp at hf) hlen (fun j u hj => ?_) (fun i hi => ?_)
        · have hj':j<m*s:=by have:=(y03.1 hj).1; simp at this; omega
          have hcap:0<cap:=by
            rcases Nat.eq_zero_or_pos cap with z|z
            · have:m=0:=by omega
              subst this; simp at hj'
            · exact z
          rw [k3 hcap,z689,z4jt e2]
          rw [y00,if_pos hj',List.getElem?_drop,y00] at hj
          split at hj
          · simpa using hj
          · simp at hj
        · have hcap:0<cap:=by
            rcases Nat.eq_zero_or_pos cap with z|z
            · have:m=0:=by omega
              subst this; rw [hlen] at hi; simp at hi
            · exact z
          rw [k3 hcap]
          exact hobj hge e1 _
      · simp at h'
    · simp only at h'
      split at h'
      · rename_i hlt
        simp at h'; subst h'
        exact hr'.drop hn (fun b o h'=>ze13 h') (by simp [Am.below,hlt])
      rename_i hge
      simp only [y02] at h'
      obtain ⟨l,hl,h'⟩:=h'
      split at h'
      · rename_i hver
        obtain ⟨cs,hcs,rfl⟩:=y01.1 h'
        obtain ⟨b,arr,ty,e1,e2,e3,e4,rfl⟩:=zsi4 hh hr' hl hver
        have hR:=zzrb (e4.drop off) (fun v d d' q1 q2=>zdbd hh hn k q1 q2) hcs
        refine zws5 hR (fun j u hj => ?_) (fun i hi=>hobj hge e1 _)
        rw [z689,z4jt e2]
        rw [List.getElem?_drop,y00] at hj
        split at hj
        · simpa using hj
        · simp at hj
      · simp at h'
theorem z35h {E:Env} {n id b L:Nat} (h:(E.take n)[id]? = some (some (b,L))):E[id]? = some (some (b,L)):=by
  rw [y00] at h
  split at h
  · exact h
  · simp at h
theorem SR.freeze {X0:Forb} {base:Nat} {E0:Env} {w0:World} {st st':St} {a:Act} {w:World} (h:SR X0 base E0 w0 st a w) (hn0:E0.length≤st'.h.length) (hle:st'.h.length≤st.h.length) (ht':fzL st'.h.length st.h st.t st'.t) (hh':fzH st'.h.length st.h st.h st'.h):SR X0 base E0 w0 st' a w:=by
  obtain ⟨E,hh,hsz,hrep,hdef,ht⟩:=h
  have hlen:st'.h.length≤E.length:=by rw [hh.len]; exact hle
  have cell : ∀ {v d d'},Rep E (FX X0 E) w v d→(d' = .junk∨fz st'.h.length st.h 3 d=some d')→Rep (E.take st'.h.length) (FX X0 (E.take st'.h.length)) w v d':=fun r q=>by
    rcases q with q|q
    · subst q; exact .junk _
    · exact zdbd hh hlen 3 r q
  refine ⟨E.take st'.h.length,⟨by simp; omega,fun b o q=>⟨(hh.x0 b o q).1,fun id L hL=>(hh.x0 b o q).2 id L (z35h hL)⟩,hh.size,fun id cs hid => ?_,fun id hid => ?_,fun id id' b L b' L' hne h1 h2 => ?_,hh.maps.kept (fun _ _=>rfl) fun id b m q=>⟨z01l hh' id b m q,by rw [y00,if_pos (y03.1 q).1]; exact (hh.maps.en id b m (z01l hh' id b m q)).1⟩⟩,by rw [zqsp ht']; exact hsz,fun i=>cell (hrep i) (zmu0 ht' i),hdef,?_⟩
  · have hlt:id<st'.h.length:=(y03.1 hid).1
    obtain ⟨cs0,hid',hcs⟩:=zr70 hh' id cs hid
    obtain ⟨b,arr,t,g1,g2,g3,g4,g5⟩:=hh.cells id cs0 hid'
    have hl:=zqsp hcs
    refine ⟨b,arr,t,by rw [y00,if_pos hlt,hl]; exact g1,g2,g3,by omega,fun i h1 h2 => ?_⟩
    have:=cell (g5 i (by omega) h2) (by
      have:=zmu0 hcs i
      rwa [y04,y04,y07 h1,y07 (by omega)] at this)
    simpa using this
  · have hlt:id<st'.h.length:=(y03.1 hid).1
    rw [y00,if_pos hlt]
    exact hh.dead id (zmvd hh' id hid)
  · rw [y00] at h1 h2
    split at h1<;>try (simp at h1; done)
    split at h2<;>try (simp at h2; done)
    exact hh.apart _ _ _ _ _ _ hne h1 h2
  · refine ⟨⟨by rw [List.length_take]; have:=ht.env.len; omega,fun id hid b' L' h' => ?_⟩,⟨fun ad v hc hx => ?_⟩,ht.below,ht.others,fun b hb hl=>⟨(ht.frame b hb hl).1,fun id L hL=>(ht.frame b hb hl).2 id L (z35h hL)⟩⟩
    · rw [y00] at h'
      split at h'
      · exact ht.env.at_ id hid b' L' h'
      · simp at h'
    · obtain ⟨g1,g2⟩:=ht.keep.cell ad v hc hx
      exact ⟨g1,fun g=>g2 (ze13 g)⟩
theorem SR.weak {X0:Forb} {base:Nat} {E0:Env} {w0:World} {st st':St} {a:Act} {w:World} (h:SR X0 base E0 w0 st a w) (hw:Weak E0.length st st'):SR X0 base E0 w0 st' a w:=by
  refine hw.elim (fun hw => ?_) (fun q=>h.freeze q.1 q.2.1 q.2.2.1 q.2.2.2)
  obtain ⟨E,hh,hsz,hrep,hdef,ht⟩:=h
  obtain ⟨hwt,hwh⟩:=hw
  have hrep' : ∀ i,Rep E (FX X0 E) w (a.tmps.getD i undef) (st'.t.getD i .junk):=fun i=>by
    rcases z2k1 hwt i with e|e
    · rw [e]; exact .junk _
    · rw [e]; exact hrep i
  rcases hwh with e|⟨tail,e,hn0,hbt,hbh⟩
  · exact ⟨E,e▸hh,by rw [z8mc hwt]; exact hsz,hrep',hdef,ht⟩
  · have hlen:st'.h.length≤E.length:=by rw [hh.len,e]; simp
    have hX : ∀ b o,FX X0 (E.take st'.h.length) b o→FX X0 E b o:=by
      rintro b o (g|⟨id,L,g⟩)
      · exact .inl g
      · rw [y00] at g
        split at g
        · exact .inr ⟨id,L,g⟩
        · simp at g
    refine ⟨E.take st'.h.length,⟨by simp; omega,fun b o q=>⟨(hh.x0 b o q).1,fun id L hL=>(hh.x0 b o q).2 id L (z35h hL)⟩,hh.size,fun id cs hid => ?_,fun id hid => ?_,fun id id' b L b' L' hne h1 h2 => ?_,hh.maps.kept (fun _ _=>rfl) fun id b m q=>by
      have hlt:id<st'.h.length:=(y03.1 q).1
      have q':st.h[id]? = some (.mapo b m):=by rw [e,y05 hlt]; exact q
      exact ⟨q',by rw [y00,if_pos hlt]; exact (hh.maps.en id b m q').1⟩⟩,by rw [z8mc hwt]; exact hsz,fun i => ?_,hdef,?_⟩
    · have hlt:id<st'.h.length:=(y03.1 hid).1
      have hid':st.h[id]? = some (.cells cs):=by rw [e,y05 hlt]; exact hid
      obtain ⟨b,arr,t,g1,g2,g3,g4,g5⟩:=hh.cells id cs hid'
      exact ⟨b,arr,t,by rw [y00,if_pos hlt]; exact g1,g2,g3,g4,fun i h1 h2=>(g5 i h1 h2).drop hlen hX (z7l2 (zj1g hbh id cs hid) i h1)⟩
    · have hlt:id<st'.h.length:=(y03.1 hid).1
      rw [y00,if_pos hlt]
      exact hh.dead id (by rw [e,y05 hlt]; exact hid)
    · rw [y00] at h1 h2
      split at h1<;>try (simp at h1; done)
      split at h2<;>try (simp at h2; done)
      exact hh.apart _ _ _ _ _ _ hne h1 h2
    · exact (hrep' i).drop hlen hX (zmov hbt i)
    · refine ⟨⟨by rw [List.length_take]; have:=ht.env.len; omega,fun id hid b' L' h' => ?_⟩,⟨fun ad v hc hx => ?_⟩,ht.below,ht.others,fun b hb hl=>⟨(ht.frame b hb hl).1,fun id L hL=>(ht.frame b hb hl).2 id L (z35h hL)⟩⟩
      · rw [y00] at h'
        split at h'
        · exact ht.env.at_ id hid b' L' h'
        · simp at h'
      · obtain ⟨g1,g2⟩:=ht.keep.cell ad v hc hx
        exact ⟨g1,fun g=>g2 (hX _ _ g)⟩
theorem z8f8 {X0:Forb} {base:Nat} {E0 E:Env} {w0 w w':World} {h:List AObj} {row:Option Nat} (hh:HeapRel X0 base w h E) (ht:Trans X0 base E0 w0 E w) (hb:base≤w0.heap.size)
    (hg:w.grownBy w' row) (hdr:w.drawn≤w'.drawn) (hr : ∀ r,row=some r→w0.heap.size≤r ∧ ∃ o:Obj,w.heap[r]? = some o∧o.isCells=false ∧ ∀ es c,o ≠ .map es c) :
    HeapRel X0 base w' h E∧(∀ v d,Rep E (FX X0 E) w v d→Rep E (FX X0 E) w' v d)∧Trans X0 base E0 w0 E w':=by
  have hcells : ∀ (b:Nat) (arr:Array Value) (t:TypeId) (fr:Nat × Nat),w.heap[b]? = some (.cells arr t fr)→w'.heap[b]? = some (.cells arr t fr):=fun b arr t fr hc=>by
    rw [hg.block b (Array.getElem?_eq_some_iff.1 hc).1 (fun e=>by
      obtain ⟨_,o,ho,hoc,_⟩:=hr b e.symm
      rw [hc] at ho; cases ho; cases hoc)]
    exact hc
  have hmp : ∀ b,X0.m b→w'.heap[b]? = w.heap[b]? := fun b hb=>hg.block b (hh.maps.lt hb) (fun e=>by
    obtain ⟨_,o,ho,_,hom⟩:=hr b e.symm
    obtain ⟨es,c,g⟩:=hh.maps.mm b hb
    rw [g] at ho
    simp only [Option.some.injEq] at ho
    exact hom es c ho.symm)
  have hkeep:Keep (FX X0 E) w (FX X0 E) w':=⟨fun a v hc hx=>⟨cell_kept hc hg (fun r e=>let ⟨o,q1,q2,_⟩:=(hr r e).2; ⟨o,q1,q2⟩),hx⟩⟩
  have herel:ERel E w E w':=⟨y08 _,fun id hid b' L' h'=>⟨b',L',h',y08 _,fun _=>⟨rfl,fun c' t' fr' hc=>by
    obtain ⟨cs,arr,t,g1,g2,g3,g4,g5⟩:=hh.live h'
    have:=hcells _ _ _ _ g4
    rw [this] at hc; cases hc
    exact ⟨_,_,_,g4,rfl⟩⟩⟩⟩
  have hrep : ∀ v d,Rep E (FX X0 E) w v d→Rep E (FX X0 E) w' v d:=fun v d r=>r.mono herel hkeep
  refine ⟨⟨hh.len,fun b o q=>⟨Nat.lt_of_lt_of_le (hh.x0 b o q).1 hg.size,(hh.x0 b o q).2⟩,y09 hh.size hg.size,fun id cs hid => ?_,hh.dead,hh.apart,hh.maps.kept hmp fun id b m q=>⟨q,(hh.maps.en id b m q).1⟩⟩,hrep,?_⟩
  · obtain ⟨b,arr,t,g1,g2,g3,g4,g5⟩:=hh.cells id cs hid
    exact ⟨b,arr,t,g1,g2,hcells _ _ _ _ g3,g4,fun i h1 h2=>hrep _ _ (g5 i h1 h2)⟩
  · refine ⟨ht.env.trans herel,ht.keep.trans hkeep,⟨ht.below.bel.grown hg hh.size (fun k e=>y09 hb (hr k e).1),y09 ht.below.drn hdr⟩,fun k o hk ho hm => ?_,fun b hb' hl => ?_⟩
    rotate_left 1
    · obtain ⟨f1,f2⟩:=ht.frame b hb' hl
      have hlt:b<w.heap.size:=Nat.lt_of_lt_of_le hb' ht.below.size
      refine ⟨fun hm => ?_,f2⟩
      rw [hg.block b hlt (fun e=>by have:=(hr b e.symm).1; omega)]
      exact f1 hm
    have hk':=ht.others k o hk ho hm
    rw [hg.block k (Array.getElem?_eq_some_iff.1 hk').1 (fun e=>by
      have h1:=(hr k e.symm).1
      have h2:=(Array.getElem?_eq_some_iff.1 hk).1
      omega)]
    exact hk'
section
variable {P:Program} {X0:Forb} {base:Nat} {E0:Env} {w0:World}
end
theorem zlrv {P:Program} (hmix:P.follows .mixedOrders=true) {X0:Forb} {base:Nat} {E0:Env} {w0:World} : ∀ (c:Code) (ac:ACode),zwv5 P c=some ac → ∀ (Φ:AExit→St→Prop) (st:St) (a:Act) (w:World),awp P E0.length ac Φ st →
    SR X0 base E0 w0 st a w→c.wp P (AQ X0 base E0 w0 Φ) a w
  | .skip,ac,hc,Φ,st,a,w,h,hr=>by
    simp [zwv5] at hc; subst hc
    exact wp_skip ⟨st,h,hr⟩
  | .region id ops draw,ac,hc,Φ,st,a,w,h,hr=>by
    simp only [zwv5,y02] at hc
    obtain ⟨l,hl,hc⟩:=hc
    cases draw with
    | true =>
      simp only [if_true] at hc
      split at hc
      · rename_i hd
        simp only [y06] at hd
        simp at hc; subst hc
        simp only [awp,if_true] at h
        exact zokc (fun st a w h1 h2=>⟨st,h1,h2⟩) hmix l hl 4 _ rfl hd.2 st a w h hr
      split at hc
      · rename_i hd
        simp only [y06] at hd
        simp at hc; subst hc
        simp only [awp,if_true] at h
        exact zokc (fun st a w h1 h2=>⟨st,h1,h2⟩) hmix l hl 5 _ rfl hd.2 st a w h hr
      split at hc
      · rename_i hd
        simp at hc; subst hc
        simp only [awp,if_true] at h
        exact zokc (fun st a w h1 h2=>⟨st,h1,h2⟩) hmix l hl 2 _ rfl hd st a w h hr
      split at hc
      · rename_i hd
        simp only [y06] at hd
        simp at hc; subst hc
        simp only [awp,if_true] at h
        exact zokc (fun st a w h1 h2=>⟨st,h1,h2⟩) hmix l hl 3 _ rfl hd.2 st a w h hr
      split at hc
      · rename_i hd
        simp at hc; subst hc
        simp only [awp,if_true] at h
        exact zokc (fun st a w h1 h2=>⟨st,h1,h2⟩) hmix l hl 1 _ rfl hd st a w h hr
      split at hc
      · rename_i hd
        simp at hc; subst hc
        simp only [awp,if_true] at h
        exact zokc (fun st a w h1 h2=>⟨st,h1,h2⟩) hmix l hl 0 _ rfl hd st a w h hr
      · simp at hc
    | false =>
      simp only [Bool.false_eq_true,if_false] at hc
      simp at hc; subst hc
      simp only [awp,Bool.false_eq_true,if_false] at h
      exact wp_region_list (zn4i (fun st a w h1 h2=>⟨st,h1,h2⟩) ops.toList l hl st a w h hr)
  | .seq x y,ac,hc,Φ,st,a,w,h,hr=>by
    simp only [zwv5,y02,y01] at hc
    obtain ⟨ax,hx,ay,hy,rfl⟩:=hc
    simp only [awp] at h
    refine wp_seq (wp_mono (zlrv hmix x ax hx _ st a w h hr) fun e a' w' hq => ?_)
    cases e with
    | normal=>obtain ⟨st',h1,h2⟩:=hq; exact zlrv hmix y ay hy Φ st' a' w' h1 h2
    | exit id=>exact hq
    | ret=>exact hq
    | goto l=>exact hq.elim
    | panic ch=>exact hq.elim
    | outgrown=>exact hq.elim
  | .cond c x y,ac,hc,Φ,st,a,w,h,hr=>by
    simp only [zwv5,y02,y01] at hc
    obtain ⟨c',hcc,ax,hx,ay,hy,rfl⟩:=hc
    simp only [awp] at h
    have hrep:=hr
    obtain ⟨E,hh,hsz,hrep,hdef,ht⟩:=hrep
    have rc:=zc82 hrep c c' hcc
    split at h<;>try (exact h.elim)
    rename_i b hb
    rw [hb] at rc
    generalize hv:a.eval c=v at rc
    cases rc
    refine wp_cond hv ?_
    cases b with
    | true=>exact zlrv hmix x ax hx Φ st a w (h.1 rfl) hr
    | false=>exact zlrv hmix y ay hy Φ st a w (h.2 rfl) hr
  | .block id c,ac,hc,Φ,st,a,w,h,hr=>by
    simp only [zwv5,y01] at hc
    obtain ⟨ax,hx,rfl⟩:=hc
    simp only [awp] at h
    refine wp_block (wp_mono (zlrv hmix c ax hx _ st a w h hr) fun e a' w' hq => ?_)
    cases e with
    | normal=>exact hq
    | exit i =>
      obtain ⟨st',h1,h2⟩:=hq
      change if i=id then Φ .normal st' else Φ (.exit i) st' at h1
      simp only [Exit.inBlock]
      by_cases e:i=id
      · rw [if_pos e] at h1 ⊢; exact ⟨st',h1,h2⟩
      · rw [if_neg e] at h1 ⊢; exact ⟨st',h1,h2⟩
    | ret=>exact hq
    | goto l=>exact hq.elim
    | panic ch=>exact hq.elim
    | outgrown=>exact hq.elim
  | .loop c,ac,hc,Φ,st,a,w,h,hr=>by
    simp only [zwv5,y01] at hc
    obtain ⟨ax,hx,rfl⟩:=hc
    simp only [awp] at h
    obtain ⟨I,n,st0,hw,h0,hround⟩:=h
    refine wp_loop_ghost (fun n a w => ∃ st,I n st∧SR X0 base E0 w0 st a w) n ⟨st0,h0,hr.weak hw⟩ ?_
    rintro n a w ⟨st,hI,hr⟩
    refine wp_mono (zlrv hmix c ax hx _ st a w (hround n st hI) hr) fun e a' w' hq => ?_
    cases e with
    | normal =>
      obtain ⟨st',⟨n',st'',hw',hlt,hI'⟩,hr'⟩:=hq
      exact ⟨n',hlt,st'',hI',hr'.weak hw'⟩
    | exit i=>exact hq
    | ret=>exact hq
    | goto l=>exact hq.elim
    | panic ch=>exact hq.elim
    | outgrown=>exact hq.elim
  | .exit id,ac,hc,Φ,st,a,w,h,hr=>by
    simp [zwv5] at hc; subst hc
    exact wp_exit ⟨st,h,hr⟩
  | .ret,ac,hc,Φ,st,a,w,h,hr=>by
    simp [zwv5] at hc; subst hc
    exact wp_ret ⟨st,h,hr⟩
  | .rangeFunc g ps assign body,ac,hc,Φ,st,a,w,h,hr=>by simp [zwv5] at hc
  | .scope ..,ac,hc,_,_,_,_,_,_=>by simp [zwv5] at hc
  | .label ..,ac,hc,_,_,_,_,_,_=>by simp [zwv5] at hc
  | .goto ..,ac,hc,_,_,_,_,_,_=>by simp [zwv5] at hc
  | .refuse ..,ac,hc,_,_,_,_,_,_=>by simp [zwv5] at hc
inductive ARes where
  | tmp (t:Nat)
  | cell (t n:Nat) (agg:Bool)
  deriving Inhabited
def zeyt (P:Program):ResultVar→Option ARes
  | .tmp t=>some (.tmp t)
  | .cell t ty=>(szT P ty).bind fun n=>(aggT P ty).map fun a => .cell t n a
structure AFn where
  code:ACode
  ntmps:Nat
  res:List ARes
  deriving Inhabited
def zsjc (P:Program) (fn:Func):Option AFn :=
  if fn.name == "runtime.NumGoroutine" then none else
  fn.body.bind fun c=>(zwv5 P c).bind fun ac=>(zp5p (zeyt P) fn.results.toList).map fun rs=>⟨ac,fn.ntmps,rs⟩
def z16h (st:St):ARes→Option DV
  | .tmp t=>some (st.t.getD t .junk)
  | .cell t n agg=>(vis st.h (st.t.getD t .junk)).bind fun cs=>Am.oneC n agg cs
def zxgc (rs:List ARes) (st:St):Option DV :=
  (zp5p (z16h st) rs).map fun l=>match l with
    | [d]=>d
    | l => .tup l
def zr5g (n:Nat) (args:List DV):List DV:=args++List.replicate (n-args.length) (.tup [])
def RetA (rs:List ARes) (Ψ:DV→List AObj→Prop):AExit→St→Prop
  | .normal,st => ∃ d,zxgc rs st=some d∧Ψ d st.h
  | .ret,st => ∃ d,zxgc rs st=some d∧Ψ d st.h
  | _,_=>False
def resF (tm:Array Value):ResultVar→Go.Sem Value
  | .tmp t=>pure (tm.getD t undef)
  | .cell a t=>do loadVar t (← asAddr (tm.getD a undef))
theorem z6io (fn:Func) (tm:Array Value):results fn tm=(do
    let vs ← fn.results.mapM (resF tm)
    pure (if h:vs.size=1 then vs[0] else .tuple vs)):=by
  have e : ∀ (g:ResultVar→Go.Sem Value),(∀ r,g r=resF tm r)→(do
    let vs ← fn.results.mapM g
    pure (if h:vs.size=1 then vs[0] else .tuple vs))=(do
    let vs ← fn.results.mapM (resF tm)
    pure (if h:vs.size=1 then vs[0] else .tuple vs):Go.Sem Value):=fun g hg=>by rw [show g=resF tm from funext hg]
  exact e _ (fun r=>by cases r<;>rfl)
theorem zspk {P:Program} {X0:Forb} {base:Nat} {w:World} {h:List AObj} {E:Env} (hh:HeapRel X0 base w h E) {tm:Array Value} {ts:List DV} (hrep:RepL E (FX X0 E) w tm ts) : ∀ (rs:List ResultVar) (as:List ARes),zp5p (zeyt P) rs=some as → ∀ (l:List DV),zp5p (z16h ⟨ts,h⟩) as=some l →
    ∃ vs:List Value,(rs.mapM (resF tm)).run P w = .ok vs w∧RepA E (FX X0 E) w vs l
  | [],as,hm,l,hl=>by
    simp [zp5p] at hm; subst hm
    simp [zp5p] at hl; subst hl
    exact ⟨[],by simp,RepA.nil⟩
  | r::rs,as,hm,l,hl=>by
    simp only [zp5p,y02,y01] at hm
    obtain ⟨a,ha,as',has,rfl⟩:=hm
    simp only [zp5p,y02,y01] at hl
    obtain ⟨d,hd,l',hl',rfl⟩:=hl
    obtain ⟨vs,h1,h2⟩:=zspk hh hrep rs as' has l' hl'
    have head : ∃ v,(resF tm r).run P w = .ok v w∧Rep E (FX X0 E) w v d:=by
      cases r with
      | tmp t =>
        simp [zeyt] at ha; subst ha
        simp [z16h] at hd; subst hd
        exact ⟨_,rfl,by simpa using hrep t⟩
      | cell t ty =>
        simp only [zeyt,y02,y01] at ha
        obtain ⟨n,hn,ag,hag,rfl⟩:=ha
        simp only [z16h,y02] at hd
        obtain ⟨cs,hv,ho⟩:=hd
        obtain ⟨ad,us,e,hra,hc⟩:=zegn hh (hrep t) hv
        obtain ⟨v,g1,g2⟩:=zomq (P:=P) ho hra hn hag hc
        refine ⟨v,?_,g2⟩
        simp only [resF,e,asAddr,Sem.run_bind,Sem.run_pure,Result.andThen_ok,g1]
    obtain ⟨v,g1,g2⟩:=head
    refine ⟨v::vs,?_,RepA.cons g2 h2⟩
    simp only [List.mapM_cons,Sem.run_bind,g1,Result.andThen_ok,h1,Sem.run_pure]
theorem z9f3 {P:Program} {fn:Func} {tmps:Array Value} {R:Ending→World→Prop} {n0:Nat} {S:World→Prop} (hS : ∀ w D,S w→n0≤D→w.heap[D]? = some (.deferred (some []))→S (w.putObj D (.deferred none)))
    (hfin : ∀ w,S w → ∃ v,(results fn tmps).run P w = .ok v w∧R (.returned v) w) (ds:List Deferred) (w:World) (hm:ze41 n0 w ds) (hs:S w):LeavesInM Fence.wide 0 P fn tmps R ds .returning w:=by
  obtain ⟨l,rfl,hn,h⟩:=hm
  induction l generalizing w with
  | nil=>exact hfin w hs
  | cons D l ih =>
    have h0:=h D (by simp)
    refine ⟨by simp,.inl ⟨D,w.putObj D (.deferred none),rfl,run_takeDeferred h0.2,ih _ (hS w D hs h0.1 h0.2) (List.nodup_cons.1 hn).2 (fun D' hD' => ?_)⟩⟩
    have hne:D'≠D:=fun e=>(List.nodup_cons.1 hn).1 (e▸hD')
    exact ⟨(h D' (by simp [hD'])).1,by rw [World.putObj_heap_other hne]; exact (h D' (by simp [hD'])).2⟩
theorem zk97 {P:Program} (hmix:P.follows .mixedOrders=true) {f:FuncId} {fn:Func} (hf:P.funcs[f]? = some fn) {af:AFn} (hc:zsjc P fn=some af) {args:List DV} {h:List AObj} {Ψ:DV→List AObj→Prop}
    (hb:awp P h.length af.code (RetA af.res Ψ) ⟨zr5g af.ntmps args,h⟩):zwy1 P f args h Ψ:=by
  unfold zsjc at hc
  split at hc
  · simp at hc
  · rename_i hname
    simp only [y02,y01] at hc
    obtain ⟨c,hbody,ac,hac,rs,hrs,rfl⟩:=hc
    refine fun X0 base w E vs hh hr => .of_ent (z36x hf (by simpa using hname) hbody) ?_
    refine callsIn_wide.1 (callsIn_of_wp_marks (F:=Fence.wide) (n:=0) hf hbody trivial (wpIn_wide.2 ?_) rfl)
    have hsz:vs.size=args.length:=by simpa using hr.1
    have hSR:SR X0 base E w ⟨zr5g fn.ntmps args,h⟩ { tmps:=vs++Array.replicate (fn.ntmps-vs.size) undef,defers:=[] } w:=by
      refine ⟨E,hh,by simp [zr5g,hsz],fun i => ?_,.nil,.refl _ _ _ _⟩
      simp only [zr5g]
      rw [Array.getD_eq_getD_getElem?,y04]
      by_cases hi:i<vs.size
      · rw [Array.getElem?_append_left hi,y05 (by omega),Array.getElem?_eq_getElem hi,y07 (by omega)]
        have:=hr.2 i (by simpa using hi) (by omega)
        simpa using this
      · rw [Array.getElem?_append_right (by omega),List.getElem?_append_right (by omega),hsz]
        by_cases hj:i-args.length<fn.ntmps-args.length
        · simp [hj]; exact zids
        · simp [hj]; exact .junk _
    have hlen:E.length=h.length:=hh.len
    rw [← hlen] at hb
    refine wp_mono (zlrv hmix c ac hac _ _ _ w hb hSR) fun e a' w' hq => ?_
    have fin : ∀ st,(∃ d,zxgc rs st=some d∧Ψ d st.h)→SR X0 base E w st a' w'→LeavesInM Fence.wide 0 P fn a'.tmps (fun e w' => ∃ v r h' E',e = .returned v∧Ψ r h'∧HeapRel X0 base w' h' E'∧Rep E' (FX X0 E') w' v r∧Trans X0 base E w E' w') a'.defers .returning w':=by
      rintro st ⟨d,hd,hΨ⟩ ⟨E',hh',hsz',hrep',hdef',ht'⟩
      refine z9f3 (S:=fun W => ∃ E',HeapRel X0 base W st.h E'∧RepL E' (FX X0 E') W a'.tmps st.t∧Trans X0 base E w E' W) (n0:=w.heap.size) ?_ ?_ a'.defers w' hdef' ⟨E',hh',hrep',ht'⟩
      · rintro W D ⟨E1,k1,k2,k3⟩ hD ho
        obtain ⟨g1,g2,g3⟩:=z8f8 k1 k3 hh.size (grownBy_putObj' W D (.deferred none)) (y08 _) (fun r e=>by cases e; exact ⟨hD,_,ho,rfl,fun _ _ e=>by cases e⟩)
        exact ⟨E1,g1,fun i=>g2 _ _ (k2 i),g3⟩
      clear hh' hrep' ht' hdef'
      rintro w' ⟨E',hh',hrep',ht'⟩
      unfold zxgc at hd
      obtain ⟨l,hl,hd⟩:=y01.1 hd
      obtain ⟨us,g1,g2⟩:=zspk hh' hrep' fn.results.toList rs hrs l hl
      have hl0:=g2.1
      have hrun : ∀ v,(if h:us.length=1 then us[0] else Value.tuple us.toArray)=v→(results fn a'.tmps).run P w' = .ok v w':=by
        intro v hv
        rw [z6io,Array.mapM_eq_mapM_toList,← hv]
        simp [g1]
      match l,us,hl0,g2,hd,hrun with
      | [x],[u],_,g2,hd,hrun =>
        simp at hd; subst hd
        exact ⟨u,hrun u (by simp),u,x,st.h,E',rfl,hΨ,hh',g2.head,ht'⟩
      | [],[],_,g2,hd,hrun =>
        simp at hd; subst hd
        exact ⟨_,hrun _ rfl,_,_,st.h,E',rfl,hΨ,hh',by simpa using g2.tup,ht'⟩
      | x::y::l,u::u'::us,_,g2,hd,hrun =>
        simp at hd; subst hd
        exact ⟨_,hrun _ rfl,_,_,st.h,E',rfl,hΨ,hh',by simpa using g2.tup,ht'⟩
    cases e with
    | normal=>obtain ⟨st,h1,h2⟩:=hq; exact fin st h1 h2
    | ret=>obtain ⟨st,h1,h2⟩:=hq; exact fin st h1 h2
    | exit id=>obtain ⟨st,h1,h2⟩:=hq; exact h1.elim
    | goto l=>exact hq.elim
    | panic ch=>exact hq.elim
    | outgrown=>exact hq.elim
theorem zzfj {P:Program} {f:FuncId} {args:List DV} {r:DV} (hc:zwy1 P f args [] (fun d h'=>snap h' 3 d=some r)):Sem P f args r:=by
  refine fun X w vs hX hr => ?_
  have hh:HeapRel ⟨X,fun _=>False⟩ w.heap.size w [] []:=⟨rfl,fun b o q=>⟨hX b o q,fun id L hL=>by simp at hL⟩,y08 _,fun id cs hid=>by simp at hid,fun id hid=>by simp at hid,fun id id' b L b' L' _ h1=>by simp at h1,.nil fun _ q=>q⟩
  have hfx : ∀ b o,FX ⟨X,fun _=>False⟩ [] b o→X b o:=by
    rintro b o (g|⟨id,L,g⟩)
    · exact g
    · simp at g
  refine (hc ⟨X,fun _=>False⟩ w.heap.size w [] vs hh ⟨hr.1,fun i h1 h2=>(hr.2 i h1 h2).less hfx⟩).mono fun e w' ⟨v,d,h',E',e1,e2,e3,e4,e5⟩ => ?_
  exact ⟨v,e1,z084 e3 3 e4 e2,e5.below⟩
theorem z380 {P:Program} (hmix:P.follows .mixedOrders=true) {f:FuncId} {fn:Func} (hf:P.funcs[f]? = some fn) {af:AFn} (hc:zsjc P fn=some af) {args:List DV} {r:DV}
    (hb:awp P 0 af.code (RetA af.res fun d h'=>snap h' 3 d=some r) ⟨zr5g af.ntmps args,[]⟩):Sem P f args r :=
  zzfj (zk97 hmix hf hc hb)
end Go.Am
