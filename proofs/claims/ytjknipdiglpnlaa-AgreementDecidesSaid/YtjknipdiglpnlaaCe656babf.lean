/-
  6 texts of mine in one.
-/
import Derived.RangeFuncLeaves
import Derived.Deep.LoopGhost
import Derived.Test.YtjknipdiglpnlaaCcd3143aa
set_option maxRecDepth 20000
set_option maxHeartbeats 4000000
open List renaming map_take → zA, map_drop → zB, map_set → zC, map_append → zD, drop_one → zE
open Bool renaming and_eq_true → y03, not_eq_true' → y0f, or_eq_true → y0g, false_eq_true → y0j
open List renaming getD_eq_getElem?_getD → y02, getElem?_eq_getElem → y04, getElem?_take → y06, mem_append → y07, getElem?_append_left → y08, pairwise_append → y09, getElem?_eq_some_iff → y0a, pairwise_cons → y0b, all_eq_true → y0c, getElem?_append_right → y0d, getElem?_eq_none → y0e, mem_range → y0h, getElem?_drop → y0n, append_of_mem → y0o, mem_flatMap → y0p, getElem?_set_ne → y0r, length_map → y0s, map_append → y0t, map_congr_left → y0u, map_eq_append_iff → y0v, map_eq_cons_iff → y0w, mem_map → y0x
open Nat renaming le_refl → y0k, eq_zero_or_pos → y0m, le_trans → y0q
open Option renaming bind_eq_some_iff → y00, map_eq_some_iff → y01, bind_some → y05, getD_some → y0i, ite_none_right_eq_some → y0l
set_option linter.unusedSimpArgs false
set_option linter.unusedVariables false
namespace Go.Am
open Go.RowKit
mutual
/-- no reference to an object -/
def zyp8:DV→Bool
  | .agg cs=>zbao cs
  | .tup cs=>zbao cs
  | .sl _ _ _ cs=>zbao cs
  | .ref cs=>zbao cs
  | .fn _ a b=>zbao a&&zbao b
  | .iface _ v=>zyp8 v
  | .ms .. => false
  | .mp .. => false
  | _=>true
def zbao:List DV→Bool
  | []=>true
  | d::r=>zyp8 d&&zbao r
end
mutual
/-- no memory at all -/
def scal:DV→Bool
  | .agg cs=>z5po cs
  | .tup cs=>z5po cs
  | .iface _ v=>scal v
  | .fn _ a b=>z5po a&&z5po b
  | .sl .. => false
  | .ref .. => false
  | .ms .. => false
  | .mp .. => false
  | _=>true
def z5po:List DV→Bool
  | []=>true
  | d::r=>scal d&&z5po r
end
mutual
def zcxt (f:DV→Option DV):DV→Option DV
  | .agg cs=>(zoyo f cs).map .agg
  | .tup cs=>(zoyo f cs).map .tup
  | .sl b s n cs=>(zoyo f cs).map (.sl b s n)
  | .ref cs=>(zoyo f cs).map .ref
  | .fn g a b=>(zoyo f a).bind fun a=>(zoyo f b).map fun b => .fn g a b
  | .iface t v=>(zcxt f v).map (.iface t)
  | .ms a b c d e l=>f (.ms a b c d e l)
  | .mp a b c=>f (.mp a b c)
  | d=>some d
def zoyo (f:DV→Option DV):List DV→Option (List DV)
  | []=>some []
  | d::r=>(zcxt f d).bind fun d=>(zoyo f r).map fun r=>d::r
end

def snap (h:List AObj):Nat→DV→Option DV
  | 0,d=>zcxt (fun _=>none) d
  | k+1,d=>zcxt (fun d=>match d with
    | .ms id ver off s n _=>(ziu0 h id).bind fun l=>if l.length=ver then (zp5p (snap h k) ((l.drop off).take (n*s))).map fun cs => .sl false s n cs else none
    | .mp id ver off=>(ziu0 h id).bind fun l=>if l.length=ver then (zp5p (snap h k) (l.drop off)).map .ref else none
    | _=>none) d
def z4tt (h:List AObj) (k:Nat) (l:List DV):Option (List DV):=zp5p (snap h k) l
mutual
theorem z9j8 (f:DV→Option DV) : ∀ (d:DV),zyp8 d=true→zcxt f d=some d
  | .agg cs,h=>by simp only [zyp8] at h; simp [zcxt,z6de f cs h]
  | .tup cs,h=>by simp only [zyp8] at h; simp [zcxt,z6de f cs h]
  | .sl b s n cs,h=>by simp only [zyp8] at h; simp [zcxt,z6de f cs h]
  | .ref cs,h=>by simp only [zyp8] at h; simp [zcxt,z6de f cs h]
  | .fn g a b,h=>by simp only [zyp8,y03] at h; simp [zcxt,z6de f a h.1,z6de f b h.2]
  | .iface t v,h=>by simp only [zyp8] at h; simp [zcxt,z9j8 f v h]
  | .ms ..,h=>by simp [zyp8] at h
  | .mp ..,h=>by simp [zyp8] at h
  | .int ..,_=>rfl
  | .bool ..,_=>rfl
  | .str ..,_=>rfl
  | .nilp,_=>rfl
  | .nilm,_=>rfl
  | .nilf,_=>rfl
  | .nili,_=>rfl
  | .nils,_=>rfl
  | .junk,_=>rfl
theorem z6de (f:DV→Option DV) : ∀ (l:List DV),zbao l=true→zoyo f l=some l
  | [],_=>rfl
  | d::r,h=>by simp only [zbao,y03] at h; simp [zoyo,z9j8 f d h.1,z6de f r h.2]
end
theorem zf6b : ∀ {l:List DV},zbao l=true → ∀ i (h:i<l.length),zyp8 l[i]=true
  | [],_,i,h=>by simp at h
  | d::r,hp,i,h=>by
    simp only [zbao,y03] at hp
    cases i with
    | zero=>exact hp.1
    | succ i=>exact zf6b hp.2 i (by simpa using h)
theorem zjvf : ∀ {l:List DV},z5po l=true → ∀ i (h:i<l.length),scal l[i]=true
  | [],_,i,h=>by simp at h
  | d::r,hp,i,h=>by
    simp only [z5po,y03] at hp
    cases i with
    | zero=>exact hp.1
    | succ i=>exact zjvf hp.2 i (by simpa using h)
theorem Rep.env {E E':Env} {X:Forb} {w:World} {v:Value} {d:DV} (h:Rep E X w v d) (hp:zyp8 d=true):Rep E' X w v d:=by
  induction h with
  | int k n=>exact .int k n
  | bool b=>exact .bool b
  | str s l h=>exact .str s l h
  | agg cs ds hl _ ih=>simp only [zyp8] at hp; exact .agg cs ds hl (fun i h1 h2=>ih i h1 h2 (zf6b hp i h2))
  | tup cs ds hl _ ih=>simp only [zyp8] at hp; exact .tup cs ds hl (fun i h1 h2=>ih i h1 h2 (zf6b hp i h2))
  | nilp=>exact .nilp
  | nilm=>exact .nilm
  | nilf=>exact .nilf
  | nili=>exact .nili
  | nils=>exact .nils
  | sl full s n cap a ds cv hn hf hl hc hx _ ih=>simp only [zyp8] at hp; exact .sl full s n cap a ds cv hn hf hl hc hx (fun i h1=>ih i h1 (zf6b hp i h1))
  | ref a ds cv hc hx _ ih=>simp only [zyp8] at hp; exact .ref a ds cv hc hx (fun i h1=>ih i h1 (zf6b hp i h1))
  | fn f first captured df dc h1 h2 _ _ ih1 ih2 =>
    simp only [zyp8,y03] at hp
    exact .fn f first captured df dc h1 h2 (fun i a b=>ih1 i a b (zf6b hp.1 i b)) (fun i a b=>ih2 i a b (zf6b hp.2 i b))
  | iface t v d _ ih=>simp only [zyp8] at hp; exact .iface t v d (ih hp)
  | ms=>simp [zyp8] at hp
  | mp=>simp [zyp8] at hp
  | junk v=>exact .junk v
theorem Rep.of_nil {E':Env} {X:Forb} {w:World} {v:Value} {d:DV} (h:Rep [] X w v d):Rep E' X w v d:=by
  induction h with
  | int k n=>exact .int k n
  | bool b=>exact .bool b
  | str s l h=>exact .str s l h
  | agg cs ds hl _ ih=>exact .agg cs ds hl ih
  | tup cs ds hl _ ih=>exact .tup cs ds hl ih
  | nilp=>exact .nilp
  | nilm=>exact .nilm
  | nilf=>exact .nilf
  | nili=>exact .nili
  | nils=>exact .nils
  | sl full s n cap a ds cv hn hf hl hc hx _ ih=>exact .sl full s n cap a ds cv hn hf hl hc hx ih
  | ref a ds cv hc hx _ ih=>exact .ref a ds cv hc hx ih
  | fn f first captured df dc h1 h2 _ _ ih1 ih2=>exact .fn f first captured df dc h1 h2 ih1 ih2
  | iface t v d _ ih=>exact .iface t v d ih
  | ms id ver off s n lim a k cap hid=>simp at hid
  | mp id ver off a hid=>simp at hid
  | junk v=>exact .junk v
theorem Rep.scal {E E':Env} {X X':Forb} {w w':World} {v:Value} {d:DV} (h:Rep E X w v d) (hp:Am.scal d=true):Rep E' X' w' v d:=by
  induction h with
  | int k n=>exact .int k n
  | bool b=>exact .bool b
  | str s l h=>exact .str s l h
  | agg cs ds hl _ ih=>simp only [Am.scal] at hp; exact .agg cs ds hl (fun i h1 h2=>ih i h1 h2 (zjvf hp i h2))
  | tup cs ds hl _ ih=>simp only [Am.scal] at hp; exact .tup cs ds hl (fun i h1 h2=>ih i h1 h2 (zjvf hp i h2))
  | nilp=>exact .nilp
  | nilm=>exact .nilm
  | nilf=>exact .nilf
  | nili=>exact .nili
  | nils=>exact .nils
  | sl=>simp [Am.scal] at hp
  | ref=>simp [Am.scal] at hp
  | fn f first captured df dc h1 h2 _ _ ih1 ih2 =>
    simp only [Am.scal,y03] at hp
    exact .fn f first captured df dc h1 h2 (fun i a b=>ih1 i a b (zjvf hp.1 i b)) (fun i a b=>ih2 i a b (zjvf hp.2 i b))
  | iface t v d _ ih=>simp only [Am.scal] at hp; exact .iface t v d (ih hp)
  | ms=>simp [Am.scal] at hp
  | mp=>simp [Am.scal] at hp
  | junk v=>exact .junk v
theorem Rep.less {E:Env} {X X':Forb} {w:World} {v:Value} {d:DV} (h:Rep E X w v d) (hX : ∀ b o,X' b o→X b o):Rep E X' w v d :=
  h.mono (ERel.refl E w) ⟨fun a _ hc hx=>⟨hc,fun h'=>hx (hX _ _ h')⟩⟩
theorem zo6h {f:DV→Option DV} : ∀ {l r:List DV},zoyo f l=some r→l.length=r.length ∧ ∀ i (h1:i<l.length) (h2:i<r.length),zcxt f l[i]=some r[i]
  | [],r,h=>by simp [zoyo] at h; subst h; exact ⟨rfl,fun i h1=>by simp at h1⟩
  | d::l,r,h=>by
    simp only [zoyo,y00,y01] at h
    obtain ⟨d',h1,r',h2,rfl⟩:=h
    obtain ⟨g1,g2⟩:=zo6h h2
    refine ⟨by simp [g1],fun i a b => ?_⟩
    cases i with
    | zero=>exact h1
    | succ i=>exact g2 i (by simpa using a) (by simpa using b)
theorem zhjg {E E2:Env} {X X':Forb} {w:World} {f:DV→Option DV} (hX : ∀ b o,X' b o→X b o)
    (hms : ∀ v a b c e g l d',Rep E X w v (.ms a b c e g l)→f (.ms a b c e g l)=some d'→Rep E2 X' w v d') (hmp : ∀ v a b c d',Rep E X w v (.mp a b c)→f (.mp a b c)=some d'→Rep E2 X' w v d')
    {v:Value} {d:DV} (h:Rep E X w v d) : ∀ {d':DV},zcxt f d=some d'→Rep E2 X' w v d':=by
  induction h with
  | int k n=>intro d' hs; simp [zcxt] at hs; subst hs; exact .int k n
  | bool b=>intro d' hs; simp [zcxt] at hs; subst hs; exact .bool b
  | str s l h=>intro d' hs; simp [zcxt] at hs; subst hs; exact .str s l h
  | agg cs ds hl _ ih =>
    intro d' hs
    simp only [zcxt,y01] at hs
    obtain ⟨r,hr,rfl⟩:=hs
    obtain ⟨g1,g2⟩:=zo6h hr
    exact .agg cs r (by omega) (fun i h1 h2=>ih i h1 (by omega) (g2 i (by omega) h2))
  | tup cs ds hl _ ih =>
    intro d' hs
    simp only [zcxt,y01] at hs
    obtain ⟨r,hr,rfl⟩:=hs
    obtain ⟨g1,g2⟩:=zo6h hr
    exact .tup cs r (by omega) (fun i h1 h2=>ih i h1 (by omega) (g2 i (by omega) h2))
  | nilp=>intro d' hs; simp [zcxt] at hs; subst hs; exact .nilp
  | nilm=>intro d' hs; simp [zcxt] at hs; subst hs; exact .nilm
  | nilf=>intro d' hs; simp [zcxt] at hs; subst hs; exact .nilf
  | nili=>intro d' hs; simp [zcxt] at hs; subst hs; exact .nili
  | nils=>intro d' hs; simp [zcxt] at hs; subst hs; exact .nils
  | sl full s n cap a ds cv hn hf hl hc hx _ ih =>
    intro d' hs
    simp only [zcxt,y01] at hs
    obtain ⟨r,hr,rfl⟩:=hs
    obtain ⟨g1,g2⟩:=zo6h hr
    exact .sl full s n cap a r cv hn hf (by omega) (fun i hi=>hc i (by omega)) (fun i hi h'=>hx i (by omega) (hX _ _ h')) (fun i h1=>ih i (by omega) (g2 i (by omega) h1))
  | ref a ds cv hc hx _ ih =>
    intro d' hs
    simp only [zcxt,y01] at hs
    obtain ⟨r,hr,rfl⟩:=hs
    obtain ⟨g1,g2⟩:=zo6h hr
    exact .ref a r cv (fun i hi=>hc i (by omega)) (fun i hi h'=>hx i (by omega) (hX _ _ h')) (fun i h1=>ih i (by omega) (g2 i (by omega) h1))
  | fn g first captured df dc h1 h2 _ _ ih1 ih2 =>
    intro d' hs
    simp only [zcxt,y00,y01] at hs
    obtain ⟨r,hr,r',hr',rfl⟩:=hs
    obtain ⟨g1,g2⟩:=zo6h hr
    obtain ⟨g3,g4⟩:=zo6h hr'
    exact .fn g first captured r r' (by omega) (by omega) (fun i a b=>ih1 i a (by omega) (g2 i (by omega) b)) (fun i a b=>ih2 i a (by omega) (g4 i (by omega) b))
  | iface t v d _ ih =>
    intro d' hs
    simp only [zcxt,y01] at hs
    obtain ⟨r,hr,rfl⟩:=hs
    exact .iface t v r (ih hr)
  | ms id ver off s n lim a k cap hid h=>intro d' hs; simp only [zcxt] at hs; exact hms _ _ _ _ _ _ _ _ (.ms id ver off s n lim a k cap hid h) hs
  | mp id ver off a hid h=>intro d' hs; simp only [zcxt] at hs; exact hmp _ _ _ _ _ (.mp id ver off a hid h) hs
  | junk v=>intro d' hs; simp [zcxt] at hs; subst hs; exact .junk v
theorem zzrb {E E2:Env} {X X':Forb} {w:World} {g:DV→Option DV} : ∀ {vs:List Value} {ds r:List DV},RepA E X w vs ds→(∀ v d d',Rep E X w v d→g d=some d'→Rep E2 X' w v d')→zp5p g ds=some r→RepA E2 X' w vs r:=by
  intro vs ds r hR hg hm
  obtain ⟨h1,h2⟩:=zh8x hm
  exact ⟨by rw [hR.1,h1],fun i a b=>hg _ _ _ (hR.2 i a (by omega)) (h2 i (by omega) b)⟩
theorem z084 {X0:Forb} {base:Nat} {w:World} {h:List AObj} {E:Env} (hh:HeapRel X0 base w h E) : ∀ (k:Nat) {v:Value} {d d':DV},Rep E (FX X0 E) w v d→snap h k d=some d'→Rep [] X0 w v d'
  | 0,v,d,d',hr,hs=>zhjg (fun b o h' => .inl h') (fun _ _ _ _ _ _ _ _ _ h'=>by simp at h') (fun _ _ _ _ _ _ h'=>by simp at h') hr hs
  | k+1,v,d,d',hr,hs=>by
    have hobj : ∀ {id b L:Nat},E[id]? = some (some (b,L)) → ∀ o,¬ X0 b o:=fun hE o hx=>by
      obtain ⟨_,_,_,_,_,hb,_,_⟩:=hh.live hE
      exact (hh.x0 _ _ hx).2 _ _ hE
    refine zhjg (fun b o h' => .inl h') (fun v id ver off s n lim d' hr' h' => ?_) (fun v id ver off d' hr' h' => ?_) hr hs
    · simp only [y00] at h'
      obtain ⟨l,hl,h'⟩:=h'
      split at h'
      · rename_i hver
        obtain ⟨cs,hcs,rfl⟩:=y01.1 h'
        obtain ⟨b,arr,ty,cap,a,e1,e2,e3,e4,rfl,k1,k2,k3,k4,k5⟩:=zuh1 hh hr' hl hver
        have hR:=zzrb ((e4.drop off).take (n*s)) (fun v d d' q1 q2=>z084 hh k q1 q2) hcs
        have hlen:cs.length=n*s:=by rw [← hR.1]; simp; omega
        refine znwx hR k1 (fun hf=>by simp at hf) hlen (fun j u hj => ?_) (fun i hi => ?_)
        · have hj':j<n*s:=by have:=(y0a.1 hj).1; simp at this; omega
          have hcap:0<cap:=by
            rcases y0m cap with z|z
            · have:n=0:=by omega
              subst this; simp at hj'
            · exact z
          rw [k3 hcap,z689,z4jt e2]
          rw [y06,if_pos hj',y0n,y06] at hj
          split at hj
          · simpa using hj
          · simp at hj
        · have hcap:0<cap:=by
            rcases y0m cap with z|z
            · have:n=0:=by omega
              subst this; rw [hlen] at hi; simp at hi
            · exact z
          rw [k3 hcap]
          exact hobj e1 _
      · simp at h'
    · simp only [y00] at h'
      obtain ⟨l,hl,h'⟩:=h'
      split at h'
      · rename_i hver
        obtain ⟨cs,hcs,rfl⟩:=y01.1 h'
        obtain ⟨b,arr,ty,e1,e2,e3,e4,rfl⟩:=zsi4 hh hr' hl hver
        have hR:=zzrb (e4.drop off) (fun v d d' q1 q2=>z084 hh k q1 q2) hcs
        refine zws5 hR (fun j u hj => ?_) (fun i hi=>hobj e1 _)
        rw [z689,z4jt e2]
        rw [y0n,y06] at hj
        split at hj
        · simpa using hj
        · simp at hj
      · simp at h'
def Ent (P:Program) (f:FuncId):Prop := ∀ args w,(callFunc f args).run P w = .ok (.enter f args) w
theorem z36x {P : Program} {f : FuncId} {fn : Func} {c : Code} (hf : P.funcs[f]? = some fn) (hname : (fn.name == "runtime.NumGoroutine") = false) (hb : fn.body = some c) : Ent P f := by
  intro args w
  have hn : ¬ fn.name = "runtime.NumGoroutine" := by simpa using hname
  simp [callFunc,hf,hn,hb]
def Does (P:Program) (f:FuncId) (vs:Array Value) (w:World) (Φ:Ending→World→Prop):Prop :=
  ((callFunc f vs).run P w = .ok (.enter f vs) w∧Calls P f vs w Φ) ∨ ∃ v w',(callFunc f vs).run P w = .ok (.value v) w'∧Φ (.returned v) w'
theorem Does.mono {P:Program} {f:FuncId} {vs:Array Value} {w:World} {Φ Φ':Ending→World→Prop} (h:Does P f vs w Φ) (hm : ∀ e w',Φ e w'→Φ' e w'):Does P f vs w Φ':=by
  rcases h with ⟨h1,h2⟩|⟨v,w',h1,h2⟩
  · exact .inl ⟨h1,h2.mono hm⟩
  · exact .inr ⟨v,w',h1,hm _ _ h2⟩
theorem Does.of_ent {P:Program} {f:FuncId} {vs:Array Value} {w:World} {Φ:Ending→World→Prop} (he:Ent P f) (h:Calls P f vs w Φ):Does P f vs w Φ := .inl ⟨he vs w,h⟩
theorem Does.calls {P:Program} {f:FuncId} {vs:Array Value} {w:World} {Φ:Ending→World→Prop} (he:Ent P f) (h:Does P f vs w Φ):Calls P f vs w Φ:=by
  rcases h with ⟨_,h⟩|⟨v,w',h1,_⟩
  · exact h
  · rw [he vs w] at h1; simp at h1
def Sem (P:Program) (f:FuncId) (args:List DV) (r:DV):Prop :=
  ∀ (X:Forb) (w:World) (vs:Array Value),(∀ b o,X b o→b<w.heap.size)→RepA [] X w vs.toList args →
    Does P f vs w (fun e w' => ∃ v,e = .returned v∧Rep [] X w' v r∧BelowD w.heap.size w w')
def zwy1 (P:Program) (f:FuncId) (args:List DV) (h:List AObj) (Ψ:DV→List AObj→Prop):Prop :=
  ∀ (X0:Forb) (base:Nat) (w:World) (E:Env) (vs:Array Value),HeapRel X0 base w h E→RepA E (FX X0 E) w vs.toList args →
    Does P f vs w (fun e w' => ∃ v r h' E',e = .returned v∧Ψ r h'∧HeapRel X0 base w' h' E'∧Rep E' (FX X0 E') w' v r∧Trans X0 base E w E' w')
theorem zwy1.mono {P:Program} {f:FuncId} {args:List DV} {h:List AObj} {Ψ Ψ':DV→List AObj→Prop} (hc:zwy1 P f args h Ψ) (hm : ∀ r h',Ψ r h'→Ψ' r h'):zwy1 P f args h Ψ' :=
  fun X0 base w E vs hh hr=>(hc X0 base w E vs hh hr).mono fun _ _ ⟨v,r,h',E',e1,e2,e3,e4,e5⟩=>⟨v,r,h',E',e1,hm _ _ e2,e3,e4,e5⟩
def zmwk (P:Program) (f:FuncId) (args:List DV) (h:List AObj) (r:DV):Prop :=
  (zbao args=true∧Sem P f args r)∨(scal r=true ∧ ∃ args',z4tt h 3 args=some args'∧Sem P f args' r)
theorem zzjs {X0:Forb} {base:Nat} {w w':World} {h:List AObj} {E:Env} (hh:HeapRel X0 base w h E) (hb:BelowD w.heap.size w w'):HeapRel X0 base w' h E∧Trans X0 base E w E w':=by
  have hlive : ∀ {id b L:Nat},E[id]? = some (some (b,L))→b<w.heap.size:=fun hE=>by
    obtain ⟨_,_,_,_,_,_,g,_⟩:=hh.live hE
    exact (Array.getElem?_eq_some_iff.1 g).1
  have ht:Trans X0 base E w E w':=by
    refine ⟨⟨y0k _,fun id hid b' L' h'=>⟨b',L',h',y0k _,fun _=>⟨rfl,fun c t fr hc=>⟨c,t,fr,?_,rfl⟩⟩⟩⟩,⟨fun a v hc hx=>⟨?_,hx⟩⟩,hb.mono hh.size,⟨hb.size,fun k o hk _=>(hb.block k (Array.getElem?_eq_some_iff.1 hk).1).trans hk⟩,fun b hb' hl=>⟨hb.block b hb',hl⟩⟩
    · rw [← hb.block _ (hlive h')]; exact hc
    · rw [hb.bel.cell (z4pf hc)]; exact hc
  refine ⟨⟨hh.len,hh.x0' ht,y0q hh.size hb.size,fun id cs hid => ?_,hh.dead,hh.apart⟩,ht⟩
  obtain ⟨b,arr,t,g1,g2,g3,g4,g5⟩:=hh.cells id cs hid
  exact ⟨b,arr,t,g1,g2,by rw [hb.block _ (hlive g1)]; exact g3,g4,fun i h1 h2=>ht.rep (g5 i h1 h2)⟩
theorem zmwk.calls {P:Program} {f:FuncId} {args:List DV} {h:List AObj} {r:DV} (hp:zmwk P f args h r) {X0:Forb} {base:Nat} {w:World} {E:Env} (hh:HeapRel X0 base w h E) {vs:Array Value} (hr:RepA E (FX X0 E) w vs.toList args) :
    Does P f vs w (fun e w' => ∃ v,e = .returned v∧HeapRel X0 base w' h E∧Rep E (FX X0 E) w' v r∧Trans X0 base E w E w'):=by
  have hlive : ∀ {id b L:Nat},E[id]? = some (some (b,L))→b<w.heap.size:=fun hE=>by
    obtain ⟨_,_,_,_,_,_,g,_⟩:=hh.live hE
    exact (Array.getElem?_eq_some_iff.1 g).1
  have hsz:=hh.size
  rcases hp with ⟨hpu,hs⟩|⟨hsc,args',hsn,hs⟩
  · refine (hs (FX X0 E) w vs (fun b o hx => ?_) ⟨hr.1,fun i h1 h2=>(hr.2 i h1 h2).env (zf6b hpu i h2)⟩).mono fun e w' ⟨v,e1,e2,e3⟩ => ?_
    · rcases hx with g|⟨id,L,g⟩
      · exact (hh.x0 _ _ g).1
      · exact hlive g
    · obtain ⟨g1,g2⟩:=zzjs hh e3
      exact ⟨v,e1,g1,e2.of_nil,g2⟩
  · refine (hs X0 w vs (fun b o hx=>(hh.x0 _ _ hx).1) (zzrb hr (fun v d d' q1 q2=>z084 hh 3 q1 q2) hsn)).mono fun e w' ⟨v,e1,e2,e3⟩ => ?_
    obtain ⟨g1,g2⟩:=zzjs hh e3
    exact ⟨v,e1,g1,e2.scal hsc,g2⟩
theorem zh23 {P:Program} {f:FuncId} {args:List DV} {h:List AObj} {r:DV} {Ψ:DV→List AObj→Prop} (hp:zmwk P f args h r) (hΨ:Ψ r h):zwy1 P f args h Ψ:=by
  exact fun X0 base w E vs hh hr=>(hp.calls hh hr).mono fun e w' ⟨v,e1,e2,e3,e4⟩=>⟨v,r,h,E,e1,hΨ,e2,e3,e4⟩
end Go.Am
set_option linter.unusedSimpArgs false
set_option linter.unusedVariables false
namespace Go.Am
open Go.RowKit
def putT (t:List DV) (d:Option Nat) (v:DV):List DV :=
  match d with
  | some i=>t.set i v
  | none=>t
def zo4i (t:List DV) (g:Option (Nat × Bool)) (go skip:Prop):Prop :=
  match g with
  | none=>go
  | some (i,b)=>match t.getD i .junk with
    | .bool c=>(c=b→go)∧(c = !b→skip)
    | .tup []=>skip
    | _=>False
def zysb (P:Program):List AOper→St→(St→Prop)→Prop
  | [],st,Φ=>Φ st
  | o::r,st,Φ=>zo4i st.t o.g
      (match o.op with
       | .call f args=>match ev st.t f with
         | .fn (.func g) first captured=>zwy1 P g (first++args.map (ev st.t)++captured) st.h (fun d h'=>zysb P r ⟨putT st.t o.d d,h'⟩ Φ)
         | _=>False
       | op=>match evOp op st.t st.h with
         | some (d,h')=>zysb P r ⟨putT st.t o.d d,h'⟩ Φ
         | none=>False)
      (zysb P r ⟨putT st.t o.d (.tup []),st.h⟩ Φ)
def zpc4 (D:Nat):Deferred:={ target := .collected D,args := #[] }
def ze41 (n0:Nat) (w:World) (ds:List Deferred):Prop := ∃ l:List Nat,ds=l.map zpc4∧l.Nodup ∧ ∀ D ∈ l,n0≤D∧w.heap[D]? = some (.deferred (some []))
theorem ze41.nil {n0:Nat} {w:World}:ze41 n0 w []:=⟨[],rfl,List.nodup_nil,fun D h=>by simp at h⟩
theorem ze41.mono {n0:Nat} {w w':World} {ds:List Deferred} (h:ze41 n0 w ds) (hk:KeepsOthers w w'):ze41 n0 w' ds:=by
  obtain ⟨l,e,hn,h⟩:=h
  exact ⟨l,e,hn,fun D hD=>⟨(h D hD).1,hk.same D _ (h D hD).2 rfl⟩⟩
def SR (X0:Forb) (base:Nat) (E0:Env) (w0:World) (st:St) (a:Act) (w:World):Prop :=
  ∃ E,HeapRel X0 base w st.h E∧a.tmps.size=st.t.length∧RepL E (FX X0 E) w a.tmps st.t∧ze41 w0.heap.size w a.defers∧Trans X0 base E0 w0 E w
theorem zt4v {E:Env} {X:Forb} {w:World} {tm:Array Value} {ts:List DV} (hs:tm.size=ts.length) (h:RepL E X w tm ts) {v:Value} {d:DV} (hv:Rep E X w v d) (dst:Option Nat) {a:Act} (ha:a.tmps=tm) :
    (a.put dst v).tmps.size=(putT ts dst d).length∧RepL E X w (a.put dst v).tmps (putT ts dst d):=by
  subst ha
  cases dst with
  | none=>exact ⟨hs,h⟩
  | some i =>
    refine ⟨by simp [Act.put,putT,hs],fun j => ?_⟩
    simp only [Act.put,putT]
    have hj:=h j
    by_cases e:i=j
    · subst e
      by_cases hlt:i<a.tmps.size
      · simp [Array.getD_eq_getD_getElem?,hlt,y02,show i<ts.length by omega]
        exact hv
      · simp [Array.getD_eq_getD_getElem?,hlt,y02,show ¬ i<ts.length by omega]
        exact .junk _
    · rw [y02,y0r e,← y02]
      rw [Array.getD_eq_getD_getElem?,Array.getElem?_setIfInBounds_ne e,← Array.getD_eq_getD_getElem?]
      exact hj
theorem zhny (a:Act) (dst:Option Nat) (v:Value):(a.put dst v).defers=a.defers:=by cases dst<;>rfl
theorem zids {E:Env} {X:Forb} {w:World}:Rep E X w undef (.tup []) := .tup #[] [] rfl (fun i h=>by simp at h)
section
variable {P:Program} {X0:Forb} {base:Nat} {E0:Env} {w0:World}
theorem zspy {E:Env} {w:World} {ops:Array Oper} {o:Oper} {ao:AOper} (hc:zjj7 P ops o=some ao) {a:Act} {ts:List DV} (hs:a.tmps.size=ts.length) (hr:RepL E (FX X0 E) w a.tmps ts) {go skip:Prop} (hg:zo4i ts ao.g go skip) :
    (Region.wanted o (yielded ops a.tmps)=true∧go)∨(Region.wanted o (yielded ops a.tmps)=false∧skip):=by
  obtain ⟨hg1,_,_⟩:=zz0x hc
  obtain ⟨g,dd,op⟩:=ao
  simp only at hg1 hg
  unfold zep4 at hg1
  cases hgd:o.guard with
  | none =>
    rw [hgd] at hg1
    simp at hg1; subst hg1
    left
    exact ⟨by simp [Region.wanted,hgd],hg⟩
  | some jb =>
    obtain ⟨j,b⟩:=jb
    rw [hgd] at hg1
    simp only [y01] at hg1
    obtain ⟨t,ht,rfl⟩:=hg1
    simp only [zo4i] at hg
    have hrt:=hr t
    have hy : ∀ c,a.tmps.getD t undef = .bool c→t<a.tmps.size→yielded ops a.tmps j=some c:=by
      intro c h1 h2
      unfold yielded
      rw [ht]
      simp only [y05]
      rw [Array.getElem?_eq_getElem h2]
      rw [Array.getD_eq_getD_getElem?,Array.getElem?_eq_getElem h2] at h1
      simp at h1
      rw [h1]
    split at hg
    · rename_i c hc
      rw [hc] at hrt
      have hlt:t<a.tmps.size:=by
        rcases Nat.lt_or_ge t a.tmps.size with g|g
        · exact g
        · rw [y02,y0e (by omega)] at hc; simp at hc
      generalize hv:a.tmps.getD t undef=v at hrt
      cases hrt
      have:=hy c hv hlt
      by_cases e:c=b
      · left; exact ⟨by simp [Region.wanted,hgd,this,e],hg.1 e⟩
      · right; exact ⟨by simp [Region.wanted,hgd,this,e],hg.2 (by cases c<;>cases b<;>simp_all)⟩
    · rename_i hc
      rw [hc] at hrt
      right
      refine ⟨?_,hg⟩
      have:yielded ops a.tmps j=none:=by
        unfold yielded
        rw [ht]
        simp only [y05]
        generalize hv:a.tmps.getD t undef=v at hrt
        cases hrt with
        | tup cs _ hl _ =>
          rw [Array.getD_eq_getD_getElem?] at hv
          cases hq:a.tmps[t]? with
          | none=>rfl
          | some q=>rw [hq] at hv; simp at hv; rw [hv]
      simp [Region.wanted,hgd,this]
    · exact hg.elim
theorem zc82 {E:Env} {w:World} {a:Act} {ts:List DV} (hr:RepL E (FX X0 E) w a.tmps ts) : ∀ x y,opd x=some y→Rep E (FX X0 E) w (a.eval x) (ev ts y) :=
  fun _ _ ho=>zsvp ho (fun i _=>hr i) rfl
theorem zbqg {E:Env} {w:World} {o:Oper} {c:Call} (ho:o.op = .call c) {f:Operand} (hf:c.callee = .value f) {f':Opd} (hf':opd f=some f') {as:List Opd} (has:opds c.args=some as) {ρ:Operand→Value} {ts:List DV}
    (hρ : ∀ x y,x ∈ o.op.operands→opd x=some y→Rep E (FX X0 E) w (ρ x) (ev ts y)) {g:FuncId} {first captured:List DV} (hev:ev ts f' = .fn (.func g) first captured) :
    ∃ vs,(∀ nx w',(callFunc g vs).run P w = .ok nx w'→(execOp ρ o).run P w = .ok nx w')∧RepA E (FX X0 E) w vs.toList (first++as.map (ev ts)++captured):=by
  have rf:=hρ f f' (by simp [Op.operands,ho,Call.operands,hf]) hf'
  have ra:=zojc has (fun x y hx=>hρ x y (by simp [Op.operands,ho,Call.operands,hf,hx]))
  rw [hev] at rf
  generalize hv:ρ f=v at rf
  cases rf with
  | fn _ fi ca _ _ h1 h2 r1 r2 =>
    refine ⟨fi++c.args.map ρ++ca,?_,?_⟩
    · intro nx w' hcf
      rw [Array.append_assoc] at hcf
      simp [execOp,ho,resolve,hf,hv,Deferred.ofValue,invoke,hcf]
    · have q1:RepA E (FX X0 E) w fi.toList first:=⟨by simpa using h1,fun i a b=>by have:=r1 i (by simpa using a) b; simpa using this⟩
      have q2:RepA E (FX X0 E) w ca.toList captured:=⟨by simpa using h2,fun i a b=>by have:=r2 i (by simpa using a) b; simpa using this⟩
      have:=(q1.append ra).append q2
      simpa using this
theorem zaxe {E:Env} {w:World} {o:Oper} {op:AOp} (hc:zoe1 P o=some op) {st:St} {d:DV} {h':List AObj} (he:evOp op st.t st.h=some (d,h')) (hh:HeapRel X0 base w st.h E) {a:Act} (hr:RepL E (FX X0 E) w a.tmps st.t)
    {K:Act→World→Prop} {Q:Exit→Act→World→Prop} (hK : ∀ v w' E',HeapRel X0 base w' h' E'→Rep E' (FX X0 E') w' v d→Trans X0 base E w E' w'→K (a.put o.dst v) w'):o.wp P a w K Q:=by
  obtain ⟨v,w',E',h1,h2,h3,h4⟩:=zwfb hc he hh (fun x y _ ho=>zc82 hr x y ho)
  unfold Oper.wp
  rcases h1 with h1|⟨h1,rfl⟩
  · rw [h1]; exact hK v w' E' h2 h3 h4
  · rw [h1]; exact hK undef w' E' h2 h3 h4
theorem zn4i {ops:Array Oper} {Q:Exit→Act→World→Prop} {Φ:St→Prop} (hQ : ∀ st a w,Φ st→SR X0 base E0 w0 st a w→Q .normal a w) : ∀ (l:List Oper) (al:List AOper),zp5p (zjj7 P ops) l=some al →
    ∀ (st:St) (a:Act) (w:World),zysb P al st Φ→SR X0 base E0 w0 st a w→wpList P ops Q l a w
  | [],al,hm,st,a,w,hs,hr=>by
    simp [zp5p] at hm; subst hm
    exact hQ st a w hs hr
  | o::l,al,hm,st,a,w,hs,hr=>by
    simp only [zp5p,y00,y01] at hm
    obtain ⟨ao,hao,al',hal,rfl⟩:=hm
    obtain ⟨E,hh,hsz,hrep,hdef,ht⟩:=hr
    simp only [zysb] at hs
    obtain ⟨hco1,hco2,hco3⟩:=zz0x hao
    have hgs:=zspy (X0:=X0) hao hsz hrep hs
    obtain ⟨g,dd,op⟩:=ao
    simp only at hco2 hco3 hgs
    subst hco2
    unfold wpList
    have next : ∀ (v:Value) (d:DV) (w':World) (E':Env) (h':List AObj),HeapRel X0 base w' h' E'→Rep E' (FX X0 E') w' v d→Trans X0 base E w E' w'→zysb P al' ⟨putT st.t o.dst d,h'⟩ Φ→wpList P ops Q l (a.put o.dst v) w':=by
      intro v d w' E' h' g1 g2 g3 g4
      obtain ⟨p1,p2⟩:=zt4v hsz (g3.repL hrep) g2 o.dst rfl
      exact zn4i hQ l al' hal _ _ _ g4 ⟨E',g1,p1,p2,by rw [zhny]; exact hdef.mono g3.others,ht.trans g3⟩
    rcases hgs with ⟨hw,hs⟩|⟨hw,hs⟩
    · rw [if_pos hw]
      left
      rcases hco3 with ⟨c,f0,f,as,c1,c2,c3,c4,rfl⟩|⟨hop,hnc⟩|hbad
      · simp only at hs
        split at hs<;>try (exact hs.elim)
        rename_i gg first captured hev
        obtain ⟨vs,hrun,hra⟩:=zbqg c1 c2 c3 c4 (fun x y _ ho=>zc82 hrep x y ho) hev
        unfold Oper.wp
        rcases hs X0 base w E vs hh hra with ⟨he,hcl⟩|⟨v0,w0',he,v,r,h',E',e1,e2,e3,e4,e5⟩
        · rw [hrun _ _ he]
          refine hcl.mono fun e w' ⟨v,r,h',E',e1,e2,e3,e4,e5⟩ => ?_
          subst e1
          exact next v r w' E' h' e3 e4 e5 e2
        · rw [hrun _ _ he]
          cases e1
          exact next v0 r w0' E' h' e3 e4 e5 e2
      · have hs' : ∃ d h',evOp op st.t st.h=some (d,h')∧zysb P al' ⟨putT st.t o.dst d,h'⟩ Φ:=by
          cases op<;>first
            | (simp [AOp.isCall] at hnc; done)
            | (simp only at hs
               split at hs
               · rename_i d h' e; exact ⟨d,h',e,hs⟩
               · exact hs.elim)
        obtain ⟨d,h',hev,hs⟩:=hs'
        exact zaxe hop hev hh hrep (fun v w' E' g1 g2 g3=>next v d w' E' h' g1 g2 g3 hs)
      · subst hbad; exact (show False from hs).elim
    · rw [if_neg (by simp [hw])]
      exact next undef (.tup []) w E st.h hh zids (.refl _ _ _ _) hs
end
end Go.Am
set_option linter.unusedSimpArgs false
set_option linter.unusedVariables false
namespace Go.Am
open Go.RowKit
def getT (t:List DV) (i:Nat):DV:=t.getD i .junk
def pr (o:Option DV) (h:List AObj):Option (DV × List AObj):=o.map fun d=>(d,h)
def iD:DV→Option Int
  | .int _ n=>some n
  | _=>none
def z6s4:DV→DV→DV→Option DV
  | .bool true,a,_=>some a
  | .bool false,_,b=>some b
  | _,_,_=>none
def eqaD (neg:Bool) (ks:List Nat):DV→DV→Option DV
  | .agg xs,.agg ys=>(z32s ks xs ys).map fun b => .bool (if neg then !b else b)
  | _,_=>none
def eqbD (neg:Bool):DV→DV→Option DV
  | .bool a,.bool b=>some (.bool (if neg then !(a == b) else (a == b)))
  | _,_=>none
def eqnD (kd:Nat) (neg:Bool):Option (Nat × Bool)→Option (Nat × Bool)→Option DV
  | some (k,a),some (k',b)=>if k=kd∧k'=kd∧(a||b)=true then some (.bool (if neg then !(a&&b) else (a&&b))) else none
  | _,_=>none
def unD:UnOp→DV→Option DV
  | .not,.bool b=>some (.bool (!b))
  | .neg,.int k n=>some (.int k (k.wrap (0-n)))
  | .xor,.int k n=>some (.int k (bits .xor k (if k.signed then -1 else k.max) n))
  | _,_=>none
def zeqi (k:IntKind):DV→Option DV
  | .int _ n=>some (.int k (k.wrap n))
  | _=>none
def zkhl:DV→Option DV
  | .str s=>some (.str s)
  | _=>none
def csbD:DV→Option DV
  | .str s=>some (.sl false 1 s.length (u8s s))
  | _=>none
def cbsD:Option (Nat × List DV)→Option DV
  | some (n,cs)=>if n=cs.length then (z9pr cs).map .str else none
  | none=>none
def zu84 (n:Nat) (agg:Bool):Option (List DV)→Option DV
  | some cs=>oneC n agg cs
  | none=>none
def objV (h:List AObj) (id ver:Nat):Option (List DV):=(ziu0 h id).bind fun l=>if l.length=ver then some l else none
def z46r (h:List AObj) (n:Nat) (p y:DV):Option (DV × List AObj) :=
  match p with
  | .mp id ver off=>(ziu0 h id).bind fun l =>
      if l.length=ver∧y.cells.length=n∧off+n≤ver∧y.cells.all DV.one=true then some (.junk,h.set id (.cells (zk7y l off y.cells))) else none
  | _=>none
def zy6o (h:List AObj) (id n off:Nat) (y:DV):Option (List DV)→Option (DV × List AObj)
  | some l=>if y.cells.length=n∧off+n≤l.length∧y.cells.all DV.one=true then some (.junk,h.set id (.cells (zk7y l off y.cells))) else none
  | none=>none
theorem znmb {h:List AObj} {n id ver off:Nat} {y:DV}:z46r h n (.mp id ver off) y=zy6o h id n off y (objV h id ver):=by
  simp only [z46r,objV]
  cases ziu0 h id with
  | none=>rfl
  | some l =>
    simp only [y05]
    by_cases e:l.length=ver
    · subst e; simp [zy6o]
    · simp [e,zy6o]
def zpsc (h:List AObj) (s:Nat) (x:DV) (i:Int):Option DV :=
  match x with
    | .sl _ s' n cs=>if s'=s∧0≤i∧i<n then some (.ref ((cs.drop (i.toNat*s)).take s)) else none
    | .ms id ver off s' n _=>if s'=s∧0≤i∧i<n then (objV h id ver).map fun _ => .mp id ver (off+i.toNat*s) else none
    | _=>none
def zurm (h:List AObj) (len s:Nat) (x:DV) (i:Int):Option DV :=
  if 0≤i∧i<len then (match x with
    | .ref cs=>some (.ref ((cs.drop (i.toNat*s)).take s))
    | .mp id ver off=>(objV h id ver).map fun _ => .mp id ver (off+i.toNat*s)
    | _=>none) else none
def fldD (h:List AObj) (off:Nat):DV→Option DV
  | .ref cs=>some (.ref (cs.drop off))
  | .mp id ver o=>(objV h id ver).map fun _ => .mp id ver (o+off)
  | _=>none
def zhj0 (off n:Nat) (agg:Bool):DV→Option DV
  | .agg cs=>if off+n≤cs.length then oneC n agg (cs.drop off) else none
  | _=>none
def zrlj (len n:Nat) (agg:Bool) (x:DV) (i:Int):Option DV :=
  match x with
    | .agg cs=>if 0≤i∧i<len∧i.toNat*n+n≤cs.length then oneC n agg (cs.drop (i.toNat*n)) else none
    | _=>none
def zn60 (x:DV) (i:Int):Option DV :=
  match x with
    | .str s=>if 0≤i then (s[i.toNat]?).map fun b => .int .u8 b.toNat else none
    | _=>none
def opO (t:List DV):Option Opd→Option DV
  | some x=>some (ev t x)
  | none=>none
def zo77 (n:Nat) (lo hi:Option DV):Option (Nat × Nat) :=
  let h:=match hi with|none=>some (n:Int)|some x=>iD x
  let l:=match lo with|none=>some 0|some x=>iD x
  h.bind fun h=>l.bind fun l=>if 0≤l∧l≤h∧h≤n then some (l.toNat,h.toNat) else none
def orB {α β:Type} (o:Option α) (f:α→Option β) (b:Option β):Option β:=match o with|some p=>f p|none=>b
theorem zu87 {α β:Type} {p:α} {f:α→Option β} {b:Option β}:orB (some p) f b=f p:=rfl
theorem zwtg {α β:Type} {f:α→Option β} {b:Option β}:orB none f b=b:=rfl
def ziwb (h:List AObj) (s:Nat) (x:DV) (lo hi mx:Option DV):Option DV :=
  match x with
    | .nils=>(zo77 0 lo hi).bind fun _=>match mx with
      | none=>some .nils
      | some m=>(iD m).bind fun m=>if m=0∧hi.isSome then some .nils else none
    | .sl full s' n cs=>(zo77 n lo hi).bind fun (l,h')=>if s'≠s then none else match mx with
      | none=>some (.sl (full&&h' == n) s (h'-l) ((cs.drop (l*s)).take ((h'-l)*s)))
      | some m=>(iD m).bind fun m=>if h'≤m∧m≤n∧hi.isSome then some (.sl (decide (m=h')) s (h'-l) ((cs.drop (l*s)).take ((h'-l)*s))) else none
    | .ms id ver off s' n lim=>orB (zo77 n lo hi) (fun (l,h')=>if s'≠s then none else match mx with
      | none=>(objV h id ver).map fun _ => .ms id ver (off+l*s) s (h'-l) lim
      | some m=>(iD m).bind fun m=>if h'≤m∧m≤n∧hi.isSome then (objV h id ver).map fun _ => .junk else none) (zhun h s id ver off s' lim mx.isSome (lo.bind iD) (hi.bind iD))
    | _=>none
def znv4 (h:List AObj) (len s:Nat) (x:DV) (lo hi:Option DV):Option DV :=
  (zo77 len lo hi).bind fun (l,h')=>match x with
    | .ref cs=>if len*s≤cs.length then some (.sl (h' == len) s (h'-l) ((cs.drop (l*s)).take ((h'-l)*s))) else none
    | .mp id ver off=>(objV h id ver).bind fun _=>if off+len*s≤ver then some (.ms id ver (off+l*s) s (h'-l) (off+len*s)) else none
    | _=>none
def zadz (x:DV) (lo hi:Option DV):Option DV :=
  match x with
    | .str s=>(zo77 s.length lo hi).bind fun (l,h')=>some (.str ((s.drop l).take (h'-l)))
    | _=>none
def boxD (h:List AObj) (x:DV):Option (DV × List AObj):=if x.known then some (.mp h.length x.cells.length 0,h++[.cells x.cells]) else none
def zoby (t:List DV) (parts:List (Nat × Nat × Opd)):List (Nat × Nat × DV):=parts.map fun p=>(p.1,p.2.1,ev t p.2.2)
def zvnk (zs:List DV) (ps:List (Nat × Nat × DV)):Option DV:=if ps.all (fun p=>p.2.2.known) then (zi03 zs ps).map .agg else none
def bslD (s len:Nat) (zs:List DV) (ps:List (Nat × Nat × DV)):Option DV:=if ps.all (fun p=>p.2.2.known) then (zi03 (reps len zs) ps).map fun cs => .sl true s len cs else none
def mksD (h:List AObj) (s bytes:Nat) (zs:List DV) (l c:Int):Option (DV × List AObj):=if 0≤l∧l≤c∧c≤big∧bytes≤16384 then
      some (.ms h.length (l.toNat*s) 0 s l.toNat (l.toNat*s),h++[.cells (reps l.toNat zs)]) else none
def zl2t:DV→Option DV
  | .str s=>some (.int .i64 s.length)
  | _=>none
def lenD (h:List AObj):DV→Option DV
    | .nils=>some (.int .i64 0)
    | .sl _ _ n _=>some (.int .i64 n)
    | .ms id ver _ _ n _=>(objV h id ver).map fun _ => .int .i64 n
    | _=>none
def cpyD (h:List AObj) (s:Nat) (str:Bool) (x:DV):Option (Nat × List DV)→Option (DV × List AObj)
  | some (m,cs)=>match x with
    | .ms id ver off s' n _=>(ziu0 h id).bind fun l=>if l.length=ver∧s'=s∧(cs.take (min m n*s)).all DV.one=true∧min m n*s≤cs.length∧off+n*s≤ver∧(str=true→s=1) then
        some (.int .i64 (min m n:Nat),h.set id (.cells (zk7y l off (cs.take (min m n*s))))) else none
    | .nils=>if str=true→s=1 then some (.int .i64 0,h) else none
    | _=>none
  | none=>none
def clrD (h:List AObj) (s:Nat) (zs:List DV):DV→Option (DV × List AObj)
  | .ms id ver off s' n _=>(ziu0 h id).bind fun l=>if l.length=ver∧s'=s∧zs.length=s∧0<s∧zs.all DV.one=true∧off+n*s≤ver then some (.tup [],h.set id (.cells (zk7y l off (reps n zs)))) else none
  | _=>none
def zcxs (h:List AObj):DV→Option DV
    | .mp id ver o=>(objV h id ver).map fun _ => .mp id ver o
    | .ref cs=>some (.ref cs)
    | .fn (.func f) a b=>some (.fn (.func f) a b)
    | _=>none
def extD:DV→Nat→Option DV
  | .tup vs,i=>vs[i]?
  | _,_=>none
def z55m {β:Type} (o:Option Int) (f:Int→Option β):Option β:=o.bind f
section
variable {t:List DV} {h:List AObj}
theorem zq42 {d:DV}:pr (some d) h=some (d,h):=rfl
theorem z919:pr none h=none:=rfl
theorem ziw4 (x:Opd):evI t x=iD (ev t x):=by unfold evI iD; cases ev t x<;>rfl
theorem zj3m (n:Nat) (lo hi:Option Opd):zmxv t n lo hi=zo77 n (opO t lo) (opO t hi):=by
  unfold zmxv zo77
  cases lo<;>cases hi<;>simp [opO,ziw4]
theorem zdzu (id ver:Nat) (d:DV):((ziu0 h id).bind fun l=>if l.length=ver then Option.map (fun d=>(d,h)) (some d) else none)=pr ((objV h id ver).map fun _=>d) h:=by
  unfold objV pr
  cases ziu0 h id with
  | none=>rfl
  | some l =>
    simp only [y05]
    split<;>rfl
theorem zok2 {x:Opd}:evOp (.mov x) t h=some (ev t x,h):=rfl
theorem z0uc {c a b:Opd}:evOp (.pick c a b) t h=pr (z6s4 (ev t c) (ev t a) (ev t b)) h:=by
  simp only [evOp,z6s4,pr]
  cases ev t c<;>try rfl
  rename_i b'; cases b'<;>rfl
theorem ze45 {op:BinOp} {x y:Opd}:evOp (.bin op x y) t h=pr (zhl4 op (ev t x) (ev t y)) h:=rfl
theorem zjky {neg:Bool} {ks:List (Nat × Nat)} {x y:Opd}:evOp (.eqa neg ks x y) t h=pr (eqaD neg (zi5g ks) (ev t x) (ev t y)) h:=by
  simp only [evOp]
  cases ev t x<;>try rfl
  cases ev t y<;>rfl
theorem zco1 {neg:Bool} {x y:Opd}:evOp (.eqb neg x y) t h=pr (eqbD neg (ev t x) (ev t y)) h:=by
  simp only [evOp]
  cases ev t x<;>try rfl
  cases ev t y<;>rfl
theorem zdsz {kd:Nat} {neg:Bool} {x y:Opd}:evOp (.eqn kd neg x y) t h=pr (eqnD kd neg (zrfk h (ev t x)) (zrfk h (ev t y))) h:=by
  simp only [evOp]
  cases zrfk h (ev t x)<;>try rfl
  cases zrfk h (ev t y)<;>try rfl
  simp only [eqnD,pr]
  split<;>rfl
theorem V_un {op:UnOp} {x:Opd}:evOp (.un op x) t h=pr (unD op (ev t x)) h:=by
  simp only [evOp]
  cases op<;>cases ev t x<;>rfl
theorem z0zy {k:IntKind} {x:Opd}:evOp (.conv k x) t h=pr (zeqi k (ev t x)) h:=by
  simp only [evOp]
  cases ev t x<;>rfl
theorem znr6 {x:Opd}:evOp (.strid x) t h=pr (zkhl (ev t x)) h:=by
  simp only [evOp]
  cases ev t x<;>rfl
theorem zz4k {x:Opd}:evOp (.csb x) t h=pr (csbD (ev t x)) h:=by
  simp only [evOp]
  cases ev t x<;>rfl
theorem z472 {x:Opd}:evOp (.cbs x) t h=pr (cbsD (visS h (ev t x))) h:=by
  simp only [evOp]
  cases visS h (ev t x) with
  | none=>rfl
  | some p =>
    simp only [y05,cbsD]
    split<;>rfl
theorem zq2d {n:Nat} {agg:Bool} {x:Opd}:evOp (.load n agg x) t h=pr (zu84 n agg (vis h (ev t x))) h:=by
  simp only [evOp]
  cases vis h (ev t x)<;>rfl
theorem ztl5 {n:Nat} {x y:Opd}:evOp (.store n x y) t h=z46r h n (ev t x) (ev t y):=by
  simp only [evOp,z46r]
  cases ev t x<;>rfl
theorem z9rr {s:Nat} {x i:Opd}:evOp (.idxS s x i) t h=pr (z55m (iD (ev t i)) (zpsc h s (ev t x))) h:=by
  simp only [evOp,ziw4,z55m]
  cases iD (ev t i) with
  | none=>rfl
  | some n =>
    simp only [y05]
    cases ev t x<;>try rfl
    · simp only [zpsc]; split<;>rfl
    · simp only [zpsc]
      split
      · exact zdzu _ _ _
      · rfl
theorem zl5a {len s:Nat} {x i:Opd}:evOp (.idxA len s x i) t h=pr (z55m (iD (ev t i)) (zurm h len s (ev t x))) h:=by
  simp only [evOp,ziw4,z55m]
  cases iD (ev t i) with
  | none=>rfl
  | some n =>
    simp only [y05,zurm]
    split
    · cases ev t x<;>try rfl
      exact zdzu _ _ _
    · rfl
theorem zpqd {off:Nat} {x:Opd}:evOp (.fld off x) t h=pr (fldD h off (ev t x)) h:=by
  simp only [evOp]
  cases ev t x<;>try rfl
  exact zdzu _ _ _
theorem zr6b {off n:Nat} {agg:Bool} {x:Opd}:evOp (.getf off n agg x) t h=pr (zhj0 off n agg (ev t x)) h:=by
  simp only [evOp]
  cases ev t x<;>try rfl
  simp only [zhj0]
  split<;>rfl
theorem z40w {len n:Nat} {agg:Bool} {x i:Opd}:evOp (.idxV len n agg x i) t h=pr (z55m (iD (ev t i)) (zrlj len n agg (ev t x))) h:=by
  simp only [evOp,ziw4,z55m]
  cases iD (ev t i) with
  | none=>rfl
  | some n =>
    simp only [y05]
    cases ev t x<;>try rfl
    simp only [zrlj]; split<;>rfl
theorem zcup {x i:Opd}:evOp (.idxStr x i) t h=pr (z55m (iD (ev t i)) (zn60 (ev t x))) h:=by
  simp only [evOp,ziw4,z55m]
  cases iD (ev t i) with
  | none=>rfl
  | some n =>
    simp only [y05]
    cases ev t x<;>try rfl
    simp only [zn60]; split<;>rfl
theorem zbjv {s:Nat} {x:Opd} {lo hi mx:Option Opd}:evOp (.slcS s x lo hi mx) t h=pr (ziwb h s (ev t x) (opO t lo) (opO t hi) (opO t mx)) h:=by
  simp only [evOp,zj3m]
  have e1:(opO t mx).isNone=mx.isNone:=by cases mx<;>rfl
  have e2:(opO t mx).isSome=mx.isSome:=by cases mx<;>rfl
  have e3:(opO t hi).isSome=hi.isSome:=by cases hi<;>rfl
  cases ev t x<;>try rfl
  · simp only [ziwb]
    cases zo77 0 (opO t lo) (opO t hi) with
    | none=>rfl
    | some p =>
      simp only [y05]
      cases mx with
      | none=>rfl
      | some m =>
        simp only [ziw4,e3]
        rw [show opO t (some m)=some (ev t m) from rfl]
        simp only
        cases iD (ev t m) with
        | none=>rfl
        | some m' =>
          simp only [y05]
          split<;>rfl
  · rename_i full s' n cs
    simp only [ziwb]
    cases zo77 n (opO t lo) (opO t hi) with
    | none=>rfl
    | some p =>
      simp only [y05]
      split
      · rfl
      · cases mx with
        | none=>rfl
        | some m =>
          simp only [ziw4,e3]
          rw [show opO t (some m)=some (ev t m) from rfl]
          simp only
          cases iD (ev t m) with
          | none=>rfl
          | some m' =>
            simp only [y05]
            split<;>rfl
  · rename_i id ver off s' n lim
    simp only [ziwb]
    cases zo77 n (opO t lo) (opO t hi) with
    | none =>
      simp only [zwtg,e2]
      have q1:lo.bind (evI t)=(opO t lo).bind iD:=by cases lo<;>simp [opO,ziw4]
      have q2:hi.bind (evI t)=(opO t hi).bind iD:=by cases hi<;>simp [opO,ziw4]
      rw [q1,q2]; rfl
    | some p =>
      simp only [zu87]
      split
      · rfl
      · cases mx with
        | none=>exact zdzu _ _ _
        | some m =>
          simp only [ziw4,e3]
          rw [show opO t (some m)=some (ev t m) from rfl]
          simp only
          cases iD (ev t m) with
          | none=>rfl
          | some m' =>
            simp only [y05]
            split
            · exact zdzu _ _ _
            · rfl
theorem zx4w {len s:Nat} {x:Opd} {lo hi:Option Opd}:evOp (.slcA len s x lo hi) t h=pr (znv4 h len s (ev t x) (opO t lo) (opO t hi)) h:=by
  simp only [evOp,zj3m,znv4]
  cases zo77 len (opO t lo) (opO t hi) with
  | none=>rfl
  | some p =>
    simp only [y05]
    cases ev t x<;>try rfl
    · simp only; split<;>rfl
    · rename_i id ver off
      simp only [objV,pr]
      cases ziu0 h id with
      | none=>rfl
      | some l =>
        simp only [y05]
        by_cases e:l.length=ver
        · by_cases e':off+len*s≤ver<;>simp [e,e']
        · simp [e]
theorem zq3w {x:Opd} {lo hi:Option Opd}:evOp (.slcStr x lo hi) t h=pr (zadz (ev t x) (opO t lo) (opO t hi)) h:=by
  simp only [evOp,zj3m]
  cases ev t x<;>try rfl
  rename_i s
  simp only [zadz]
  cases zo77 s.length (opO t lo) (opO t hi)<;>rfl
theorem zzm2 {zs:List DV}:evOp (.alloc zs) t h=some (.mp h.length zs.length 0,h++[.cells zs]):=rfl
theorem z24c {x:Opd}:evOp (.box x) t h=boxD h (ev t x):=rfl
theorem zzrv {zs:List DV} {ps:List (Nat × Nat × Opd)}:evOp (.build zs ps) t h=pr (zvnk zs (zoby t ps)) h:=by
  simp only [evOp,zvnk,zoby,List.all_map]
  simp only [Function.comp_def,pr]
  split<;>rfl
theorem z3fs {s len:Nat} {zs:List DV} {ps:List (Nat × Nat × Opd)}:evOp (.bsl s len zs ps) t h=pr (bslD s len zs (zoby t ps)) h:=by
  simp only [evOp,bslD,zoby,List.all_map]
  simp only [Function.comp_def,pr]
  split<;>rfl
theorem zxzq {s b:Nat} {zs:List DV} {l c:Opd}:evOp (.mks s b zs l c) t h=z55m (iD (ev t l)) fun l=>z55m (iD (ev t c)) fun c=>mksD h s b zs l c:=by
  simp only [evOp,ziw4,z55m,mksD]
theorem zwjc {x:Opd}:evOp (.lenStr x) t h=pr (zl2t (ev t x)) h:=by
  simp only [evOp]
  cases ev t x<;>rfl
theorem zyi4 {x:Opd}:evOp (.len x) t h=pr (lenD h (ev t x)) h:=by
  simp only [evOp]
  cases ev t x<;>try rfl
  exact zdzu _ _ _
theorem zqik {s b:Nat} {x y:Opd}:evOp (.app s b x y) t h=zqbw h s b (ev t x) (ev t y):=rfl
theorem zrd5 {s:Nat} {x y:Opd}:evOp (.cpy s x y) t h=cpyD h s (ev t y).isStr (ev t x) (visY h (ev t y)):=by
  simp only [evOp]
  cases visY h (ev t y) with
  | none=>rfl
  | some p =>
    simp only [y05,cpyD]
    cases ev t x<;>rfl
theorem zxa4 {s:Nat} {zs:List DV} {x:Opd}:evOp (.clr s zs x) t h=clrD h s zs (ev t x):=by
  simp only [evOp]
  cases ev t x<;>rfl
theorem zg0y {x y:Opd}:evOp (.apart x y) t h=if z87v (ev t x) (ev t y)=true then some (.junk,h) else none:=rfl
theorem zwxt {f:Fn} {a b:List Opd}:evOp (.mkf f a b) t h=some (.fn f (a.map (ev t)) (b.map (ev t)),h):=rfl
theorem zovp {x:Opd}:evOp (.nilc x) t h=pr (zcxs h (ev t x)) h:=by
  simp only [evOp]
  cases ev t x with
  | mp id ver o=>exact zdzu _ _ _
  | fn f a b=>cases f<;>rfl
  | _=>rfl
theorem zxhs {x:Opd} {i:Nat}:evOp (.ext x i) t h=pr (extD (ev t x) i) h:=by
  simp only [evOp]
  cases ev t x<;>rfl
theorem ev_t {i:Nat}:ev t (.t i)=getT t i:=rfl
theorem z652 {a:DV}:getT (a::t) 0=a:=rfl
theorem zdt5 {a:DV} {n:Nat}:getT (a::t) (n+1)=getT t n:=rfl
theorem zftw {a b:DV}:z6s4 (.bool true) a b=some a:=rfl
theorem zomx {a b:DV}:z6s4 (.bool false) a b=some b:=rfl
theorem zgj5 {neg:Bool} {ks:List Nat} {xs ys:List DV}:eqaD neg ks (.agg xs) (.agg ys)=(z32s ks xs ys).map fun b => .bool (if neg then !b else b):=rfl
theorem zeuz {neg a b:Bool}:eqbD neg (.bool a) (.bool b)=some (.bool (if neg then !(a == b) else (a == b))):=rfl
theorem zvz5 {kd k k':Nat} {neg a b:Bool}:eqnD kd neg (some (k,a)) (some (k',b))=if k=kd∧k'=kd∧(a||b)=true then some (.bool (if neg then !(a&&b) else (a&&b))) else none:=rfl
theorem zuwa {s:List UInt8}:zkhl (.str s)=some (.str s):=rfl
theorem zpwg {s:List UInt8}:csbD (.str s)=some (.sl false 1 s.length (u8s s)):=rfl
theorem zt6q {n:Nat} {cs:List DV}:cbsD (some (n,cs))=if n=cs.length then (z9pr cs).map .str else none:=rfl
theorem zkdt {n:Nat} {agg:Bool} {cs:List DV}:zu84 n agg (some cs)=oneC n agg cs:=rfl
theorem zdqp {off:Nat} {cs:List DV}:fldD h off (.ref cs)=some (.ref (cs.drop off)):=rfl
theorem zlx1 {off id ver o:Nat}:fldD h off (.mp id ver o)=(objV h id ver).map fun _ => .mp id ver (o+off):=rfl
theorem zxdt {s:List UInt8}:zl2t (.str s)=some (.int .i64 s.length):=rfl
theorem z7es:lenD h .nils=some (.int .i64 0):=rfl
theorem zaqr {f:Bool} {s n:Nat} {cs:List DV}:lenD h (.sl f s n cs)=some (.int .i64 n):=rfl
theorem z59c {id ver off s n lim:Nat}:lenD h (.ms id ver off s n lim)=(objV h id ver).map fun _ => .int .i64 n:=rfl
theorem zbff {id ver o:Nat}:zcxs h (.mp id ver o)=(objV h id ver).map fun _ => .mp id ver o:=rfl
theorem zbjf {cs:List DV}:zcxs h (.ref cs)=some (.ref cs):=rfl
theorem z84n {f:Nat} {a b:List DV}:zcxs h (.fn (.func f) a b)=some (.fn (.func f) a b):=rfl
theorem zk0o {vs:List DV} {i:Nat}:extD (.tup vs) i=vs[i]? := rfl
theorem z00r:zrfk h .nils=some (0,true):=rfl
theorem zl8a {f:Bool} {s n:Nat} {cs:List DV}:zrfk h (.sl f s n cs)=some (0,false):=rfl
theorem zu53:zrfk h .nilp=some (1,true):=rfl
theorem zx4v {cs:List DV}:zrfk h (.ref cs)=some (1,false):=rfl
theorem zr6h:zrfk h .nili=some (4,true):=rfl
theorem zoc0 {t:Nat} {v:DV}:zrfk h (.iface t v)=some (4,false):=rfl
theorem zx7b:zrfk h .nilf=some (3,true):=rfl
theorem zmn8 {f:Fn} {a b:List DV}:zrfk h (.fn f a b)=some (3,false):=rfl
theorem zevw {b:Bool}:unD .not (.bool b)=some (.bool (!b)):=rfl
theorem zgc6 {n:Int}:unD .neg (.int .i64 n)=some (.int .i64 (IntKind.i64.wrap (0-n))):=rfl
theorem z5f7 {k:IntKind} {n:Int}:iD (.int k n)=some n:=rfl
theorem ev_k {d:DV}:ev t (.k d)=d:=rfl
theorem zraa {i:Nat} {v:DV}:putT t (some i) v=t.set i v:=rfl
theorem z482 {v:DV}:putT t none v=t:=rfl
theorem z4mr {x:Opd}:opO t (some x)=some (ev t x):=rfl
theorem zlbp:opO t none=none:=rfl
theorem zou8 {β:Type} {n:Int} {f:Int→Option β}:z55m (some n) f=f n:=rfl
theorem z2dn {l:List DV}:ziu0 (.cells l::h) 0=some l:=rfl
theorem zjoz {o:AObj} {n:Nat}:ziu0 (o::h) (n+1)=ziu0 h n:=rfl
theorem z1zn {ver:Nat} {l:List DV}:objV (.cells l::h) 0 ver=if l.length=ver then some l else none:=rfl
theorem ze6m {ver:Nat} {o:AObj} {n:Nat}:objV (o::h) (n+1) ver=objV h n ver:=rfl
theorem z8ob {cs:List DV}:vis h (.ref cs)=some cs:=rfl
theorem zk6e {id ver off:Nat}:vis h (.mp id ver off)=(objV h id ver).map fun l=>l.drop off:=by
  simp only [vis,objV]
  cases ziu0 h id with
  | none=>rfl
  | some l =>
    simp only [y05]
    split<;>rfl
theorem ze9x {f:Bool} {s n:Nat} {cs:List DV}:visS h (.sl f s n cs)=some (n,cs):=rfl
theorem z1yl:visS h .nils=some (0,[]):=rfl
theorem zeq9 {id ver off s n lim:Nat}:visS h (.ms id ver off s n lim)=(objV h id ver).map fun l=>(n,(l.drop off).take (n*s)):=by
  simp only [visS,objV]
  cases ziu0 h id with
  | none=>rfl
  | some l =>
    simp only [y05]
    split<;>rfl
end
end Go.Am
set_option linter.unusedSimpArgs false
set_option linter.unusedVariables false
namespace Go.Am
open Go.RowKit
def zrmf (P:Program) (g:FuncId) (args:List DV) (h:List AObj) (v:DV) (h':List AObj):Prop :=
  (zmwk P g args h v∧h'=h)∨(zwy1 P g args h (fun d k=>d=v∧k=h') ∧ ∃ tail,h'=h++tail)
def ztde (P:Program) (g:FuncId) (args:List DV) (h:List AObj) (v:DV) (h':List AObj):Prop :=
  (zmwk P g args h v∧h'=h) ∨ ∃ id r l l',args = .mp id l.length 0::r∧ziu0 h id=some l∧h'=h.set id (.cells l') ∧ ∀ k,ziu0 k id=some l→zwy1 P g args k (fun d k'=>d=v∧k'=k.set id (.cells l'))
def zetq (P:Program):List AOper→St→(St→Prop)→Prop
  | [],st,Φ=>Φ st
  | o::r,st,Φ=>zo4i st.t o.g
      (match o.op with
       | .call f args=>match ev st.t f with
         | .fn (.func g) first captured => ∃ d,zmwk P g (first++args.map (ev st.t)++captured) st.h d∧zetq P r ⟨putT st.t o.d d,st.h⟩ Φ
         | _=>False
       | .callN f args=>match ev st.t f with
         | .fn (.func g) first captured => ∃ d h',zrmf P g (first++args.map (ev st.t)++captured) st.h d h'∧zetq P r ⟨putT st.t o.d d,h'⟩ Φ
         | _=>False
       | .callT f args=>match ev st.t f with
         | .fn (.func g) first captured => ∃ d h',ztde P g (first++args.map (ev st.t)++captured) st.h d h'∧zetq P r ⟨putT st.t o.d d,h'⟩ Φ
         | _=>False
       | op=>match evOp op st.t st.h with
         | some (d,h')=>zetq P r ⟨putT st.t o.d d,h'⟩ Φ
         | none=>False)
      (zetq P r ⟨putT st.t o.d (.tup []),st.h⟩ Φ)
def outA (P:Program) (op:AOp) (t:List DV) (h:List AObj) (v:DV) (h':List AObj):Prop :=
  match op with
  | .call f args=>match ev t f with
    | .fn (.func g) first captured=>zmwk P g (first++args.map (ev t)++captured) h v∧h'=h
    | _=>False
  | .callN f args=>match ev t f with
    | .fn (.func g) first captured=>zrmf P g (first++args.map (ev t)++captured) h v h'
    | _=>False
  | .callT f args=>match ev t f with
    | .fn (.func g) first captured=>ztde P g (first++args.map (ev t)++captured) h v h'
    | _=>False
  | op=>evOp op t h=some (v,h')
def goes (t:List DV) (g:Option (Nat × Bool)):Option Bool :=
  match g with
  | none=>some true
  | some (i,b)=>match t.getD i .junk with
    | .bool c=>some (c == b)
    | .tup []=>some false
    | _=>none
def zgbp (P:Program) (o:AOper) (st:St) (v:DV) (h':List AObj):Prop :=
  match goes st.t o.g with
  | some true=>outA P o.op st.t st.h v h'
  | some false=>v = .tup []∧h'=st.h
  | none=>False
theorem z7fh {t:List DV} {g:Option (Nat × Bool)} {a b:Prop}:zo4i t g a b↔(goes t g=some true∧a)∨(goes t g=some false∧b):=by
  cases g with
  | none=>simp [zo4i,goes]
  | some p =>
    obtain ⟨i,b'⟩:=p
    simp only [zo4i,goes]
    generalize t.getD i .junk=d
    cases d with
    | bool c=>cases c<;>cases b'<;>simp
    | tup l=>cases l<;>simp
    | _=>simp
theorem zapd {t:List DV} {g:Option (Nat × Bool)} {a b:Prop} (h:zo4i t g a b):(goes t g=some true∧a)∨(goes t g=some false∧b):=z7fh.1 h
theorem zh5e {t:List DV} {g:Option (Nat × Bool)} {a b:Prop} (h:(goes t g=some true∧a)∨(goes t g=some false∧b)):zo4i t g a b:=z7fh.2 h
theorem zow1 {P:Program} {o:AOper} {r:List AOper} {st:St} {Φ:St→Prop}:zetq P (o::r) st Φ ↔ ∃ v h',zgbp P o st v h'∧zetq P r ⟨putT st.t o.d v,h'⟩ Φ:=by
  constructor
  · intro h
    simp only [zetq] at h
    rcases zapd h with ⟨hg,h⟩|⟨hg,h⟩
    · simp only [zgbp,hg]
      obtain ⟨g,d,op⟩:=o
      cases op with
      | call f args =>
        simp only [outA] at h ⊢
        split at h
        · obtain ⟨d',h1,h2⟩:=h; exact ⟨d',st.h,⟨h1,rfl⟩,h2⟩
        · exact h.elim
      | callN f args =>
        simp only [outA] at h ⊢
        split at h
        · obtain ⟨d',k,h1,h2⟩:=h; exact ⟨d',k,h1,h2⟩
        · exact h.elim
      | callT f args =>
        simp only [outA] at h ⊢
        split at h
        · obtain ⟨d',k,h1,h2⟩:=h; exact ⟨d',k,h1,h2⟩
        · exact h.elim
      | _ =>
        simp only [outA] at h ⊢
        split at h
        · rename_i d' h' e; exact ⟨d',h',e,h⟩
        · exact h.elim
    · exact ⟨.tup [],st.h,by simp [zgbp,hg],h⟩
  · rintro ⟨v,h',hs,h⟩
    simp only [zetq]
    apply zh5e
    unfold zgbp at hs
    split at hs
    · rename_i hg
      refine .inl ⟨hg,?_⟩
      obtain ⟨g,d,op⟩:=o
      cases op with
      | call f args =>
        simp only [outA] at hs ⊢
        split at hs
        · obtain ⟨h1,rfl⟩:=hs; exact ⟨v,h1,h⟩
        · exact hs.elim
      | callN f args =>
        simp only [outA] at hs ⊢
        split at hs
        · exact ⟨v,h',hs,h⟩
        · exact hs.elim
      | callT f args =>
        simp only [outA] at hs ⊢
        split at hs
        · exact ⟨v,h',hs,h⟩
        · exact hs.elim
      | _ =>
        simp only [outA] at hs ⊢
        rw [hs]; exact h
    · rename_i hg
      obtain ⟨rfl,rfl⟩:=hs
      exact .inr ⟨hg,h⟩
    · exact hs.elim
theorem z4o4 {t t':List DV} {x:Opd} (h : ∀ i ∈ x.tmps,t.getD i .junk=t'.getD i .junk):ev t x=ev t' x:=by
  cases x with
  | t i=>exact h i (by simp [Opd.tmps])
  | k d=>rfl
theorem zakw {t t':List DV} {x:Opd} (h : ∀ i ∈ x.tmps,t.getD i .junk=t'.getD i .junk):evI t x=evI t' x:=by
  unfold evI; rw [z4o4 h]
theorem z46j {t t':List DV} {n:Nat} {lo hi:Option Opd} (h1 : ∀ i ∈ zjp0 lo,t.getD i .junk=t'.getD i .junk) (h2 : ∀ i ∈ zjp0 hi,t.getD i .junk=t'.getD i .junk):zmxv t n lo hi=zmxv t' n lo hi:=by
  cases lo with
  | none=>cases hi with
    | none=>rfl
    | some y =>
      have e2:=zakw (t:=t) (t':=t') (x:=y) h2
      simp only [zmxv,e2]
  | some x=>cases hi with
    | none =>
      have e1:=zakw (t:=t) (t':=t') (x:=x) h1
      simp only [zmxv,e1]
    | some y =>
      have e1:=zakw (t:=t) (t':=t') (x:=x) h1
      have e2:=zakw (t:=t) (t':=t') (x:=y) h2
      simp only [zmxv,e1,e2]
theorem zi33 {t t':List DV} {l:List Opd} (h : ∀ i ∈ l.flatMap Opd.tmps,t.getD i .junk=t'.getD i .junk):l.map (ev t)=l.map (ev t') :=
  y0u fun x hx=>z4o4 fun i hi=>h i (y0p.2 ⟨x,hx,hi⟩)
theorem zd7r {α β:Type} {f g:α→Option β} : ∀ {l:List α},(∀ x ∈ l,f x=g x)→zp5p f l=zp5p g l
  | [],_=>rfl
  | a::r,h=>by simp only [zp5p]; rw [h a (by simp),zd7r fun x hx=>h x (by simp [hx])]
theorem z3te {op:AOp} {t t':List DV} {h:List AObj} (hr : ∀ i ∈ op.reads,t.getD i .junk=t'.getD i .junk):evOp op t h=evOp op t' h:=by
  cases op with
  | slcS s x lo hi mx =>
    simp only [AOp.reads,y07] at hr
    have e1:ev t x=ev t' x:=z4o4 fun i hi=>hr i (by simp [hi])
    have e2 : ∀ n,zmxv t n lo hi=zmxv t' n lo hi:=fun n=>z46j (fun i hi=>hr i (by simp [hi])) (fun i hi=>hr i (by simp [hi]))
    have e4:lo.bind (evI t)=lo.bind (evI t'):=by cases lo with|none=>rfl|some y=>exact zakw fun i hi=>hr i (by simp [zjp0,hi])
    have e5:hi.bind (evI t)=hi.bind (evI t'):=by cases hi with|none=>rfl|some y=>exact zakw fun i hi=>hr i (by simp [zjp0,hi])
    simp only [evOp,e1,e2,e4,e5]
    cases mx with
    | none=>rfl
    | some m =>
      have e3:evI t m=evI t' m:=zakw fun i hi=>hr i (.inr hi)
      simp only [e3]
  | slcA n s x lo hi =>
    simp only [AOp.reads,y07] at hr
    have e1:ev t x=ev t' x:=z4o4 fun i hi=>hr i (by simp [hi])
    have e2 : ∀ n,zmxv t n lo hi=zmxv t' n lo hi:=fun n=>z46j (fun i hi=>hr i (by simp [hi])) (fun i hi=>hr i (by simp [hi]))
    simp only [evOp,e1,e2]
  | slcStr x lo hi =>
    simp only [AOp.reads,y07] at hr
    have e1:ev t x=ev t' x:=z4o4 fun i hi=>hr i (by simp [hi])
    have e2 : ∀ n,zmxv t n lo hi=zmxv t' n lo hi:=fun n=>z46j (fun i hi=>hr i (by simp [hi])) (fun i hi=>hr i (by simp [hi]))
    simp only [evOp,e1,e2]
  | build zs ps =>
    simp only [AOp.reads] at hr
    have e : ∀ p ∈ ps,ev t p.2.2=ev t' p.2.2:=fun p hp=>z4o4 fun i hi=>hr i (y0p.2 ⟨p,hp,hi⟩)
    have e1:ps.all (fun p=>(ev t p.2.2).known)=ps.all (fun p=>(ev t' p.2.2).known):=by
      rw [Bool.eq_iff_iff,y0c,y0c]
      exact ⟨fun h p hp=>e p hp▸h p hp,fun h p hp=>(e p hp).symm▸h p hp⟩
    have e2:ps.map (fun p=>(p.1,p.2.1,ev t p.2.2))=ps.map (fun p=>(p.1,p.2.1,ev t' p.2.2)):=y0u fun p hp=>by rw [e p hp]
    simp only [evOp,e1,e2]
  | bsl s n zs ps =>
    simp only [AOp.reads] at hr
    have e : ∀ p ∈ ps,ev t p.2.2=ev t' p.2.2:=fun p hp=>z4o4 fun i hi=>hr i (y0p.2 ⟨p,hp,hi⟩)
    have e1:ps.all (fun p=>(ev t p.2.2).known)=ps.all (fun p=>(ev t' p.2.2).known):=by
      rw [Bool.eq_iff_iff,y0c,y0c]
      exact ⟨fun h p hp=>e p hp▸h p hp,fun h p hp=>(e p hp).symm▸h p hp⟩
    have e2:ps.map (fun p=>(p.1,p.2.1,ev t p.2.2))=ps.map (fun p=>(p.1,p.2.1,ev t' p.2.2)):=y0u fun p hp=>by rw [e p hp]
    simp only [evOp,e1,e2]
  | mkf f a b =>
    simp only [AOp.reads,y07] at hr
    have e1:a.map (ev t)=a.map (ev t'):=zi33 fun i hi=>hr i (.inl hi)
    have e2:b.map (ev t)=b.map (ev t'):=zi33 fun i hi=>hr i (.inr hi)
    simp only [evOp,e1,e2]
  | mm m xs =>
    simp only [AOp.reads] at hr
    simp only [evOp]
    rw [zd7r fun x hx=>by rw [z4o4 fun i hi=>hr i (y0p.2 ⟨x,hx,hi⟩)]]
  | alloc zs=>rfl
  | call f as=>rfl
  | callN f as=>rfl
  | callT f as=>rfl
  | pick c a b =>
    simp only [AOp.reads,y07] at hr
    have e1:ev t c=ev t' c:=z4o4 fun i hi=>hr i (by simp [hi])
    have e2:ev t a=ev t' a:=z4o4 fun i hi=>hr i (by simp [hi])
    have e3:ev t b=ev t' b:=z4o4 fun i hi=>hr i (by simp [hi])
    simp only [evOp,e1,e2,e3]
  | mks s b zs l c =>
    simp only [AOp.reads,y07] at hr
    have e1:evI t l=evI t' l:=zakw fun i hi=>hr i (.inl hi)
    have e2:evI t c=evI t' c:=zakw fun i hi=>hr i (.inr hi)
    simp only [evOp,e1,e2]
  | apart x y|bin op x y|eqa n ks x y|eqb n x y|eqn k n x y|store n x y|app s b x y|cpy s x y =>
    simp only [AOp.reads,y07] at hr
    have e1:ev t x=ev t' x:=z4o4 fun i hi=>hr i (.inl hi)
    have e2:ev t y=ev t' y:=z4o4 fun i hi=>hr i (.inr hi)
    simp only [evOp,e1,e2]
  | idxS s x y|idxA l s x y|idxV l n a x y|idxStr x y =>
    simp only [AOp.reads,y07] at hr
    have e1:ev t x=ev t' x:=z4o4 fun i hi=>hr i (.inl hi)
    have e2:evI t y=evI t' y:=zakw fun i hi=>hr i (.inr hi)
    simp only [evOp,e1,e2]
  | clr s zs x|mov x|un op x|conv k x|strid x|csb x|cbs x|load n a x|fld o x|getf o n a x|box x|len x|lenStr x|nilc x|ext x i =>
    simp only [AOp.reads] at hr
    have e1:ev t x=ev t' x:=z4o4 hr
    simp only [evOp,e1]
theorem zngy {P:Program} {op:AOp} {t t':List DV} {h h':List AObj} {v:DV} (hr : ∀ i ∈ op.reads,t.getD i .junk=t'.getD i .junk) (ho:outA P op t h v h'):outA P op t' h v h':=by
  cases op with
  | call f as =>
    simp only [AOp.reads,y07] at hr
    have e1:ev t f=ev t' f:=z4o4 fun i hi=>hr i (.inl hi)
    have e2:as.map (ev t)=as.map (ev t'):=zi33 fun i hi=>hr i (.inr hi)
    simp only [outA,e1,e2] at ho ⊢
    exact ho
  | callN f as =>
    simp only [AOp.reads,y07] at hr
    have e1:ev t f=ev t' f:=z4o4 fun i hi=>hr i (.inl hi)
    have e2:as.map (ev t)=as.map (ev t'):=zi33 fun i hi=>hr i (.inr hi)
    simp only [outA,e1,e2] at ho ⊢
    exact ho
  | callT f as =>
    simp only [AOp.reads,y07] at hr
    have e1:ev t f=ev t' f:=z4o4 fun i hi=>hr i (.inl hi)
    have e2:as.map (ev t)=as.map (ev t'):=zi33 fun i hi=>hr i (.inr hi)
    simp only [outA,e1,e2] at ho ⊢
    exact ho
  | _=>exact (z3te hr).symm.trans ho
theorem zw8i {o:Option DV} {h h':List AObj} {v:DV} (e:pr o h=some (v,h')):h'=h:=by
  cases o with
  | none=>simp [pr] at e
  | some d=>simp [pr] at e; exact e.2.symm
theorem znrg {o:Option DV} {h h' h2:List AObj} {v:DV} (e:pr o h=some (v,h')):pr o h2=some (v,h2):=by
  cases o with
  | none=>simp [pr] at e
  | some d=>simp [pr] at e ⊢; exact e.1
theorem zbnq {P:Program} {op:AOp} {t:List DV} {h h':List AObj} {v:DV} (he:zpsh op≤1) (ho:outA P op t h v h'):h'=h:=by
  cases op with
  | call f as =>
    simp only [outA] at ho
    split at ho
    · exact ho.2
    · exact ho.elim
  | mov x=>simp only [outA,zok2] at ho; simp at ho; exact ho.2.symm
  | apart x y =>
    simp only [outA,evOp] at ho
    split at ho
    · simp at ho; exact ho.2.symm
    · simp at ho
  | mkf f a b=>simp only [outA,zwxt] at ho; simp at ho; exact ho.2.symm
  | mm m xs =>
    simp only [outA,evOp,y00] at ho
    obtain ⟨l,_,ho⟩:=ho
    split at ho
    · simp at ho
    · simp at ho; exact ho.2.symm
  | _=>first
    | (simp [zpsh] at he; done)
    | (simp only [outA,z0uc,ze45,zjky,zco1,zdsz,V_un,z0zy,znr6,zz4k,z472,zq2d,z9rr,zl5a,zpqd,zr6b,z40w,zcup,zbjv,zx4w,zq3w,zzrv,z3fs,zwjc,zyi4,zovp,zxhs] at ho
       exact zw8i ho)
theorem zy43 {P:Program} {op:AOp} {t:List DV} {h h' h2:List AObj} {v:DV} (he:zpsh op=0) (ho:outA P op t h v h'):outA P op t h2 v h2:=by
  cases op with
  | mov x=>simp only [outA,zok2] at ho ⊢; simp at ho ⊢; exact ho.1
  | apart x y =>
    simp only [outA,evOp] at ho ⊢
    split at ho
    · rename_i hc; rw [if_pos hc]; simp at ho ⊢; exact ho.1
    · simp at ho
  | mkf f a b=>simp only [outA,zwxt] at ho ⊢; simp at ho ⊢; exact ho.1
  | mm m xs =>
    simp only [outA,evOp,y00] at ho ⊢
    obtain ⟨l,hl,ho⟩:=ho
    refine ⟨l,hl,?_⟩
    split at ho
    · simp at ho
    · simp at ho ⊢; exact ho.1
  | _=>first
    | (simp [zpsh] at he; done)
    | (simp only [outA,z0uc,ze45,zjky,zco1,V_un,z0zy,znr6,zz4k,zr6b,z40w,zcup,zq3w,zzrv,z3fs,zwjc,zxhs] at ho ⊢
       exact znrg ho)
theorem zy47 {t:List DV} {d:Option Nat} {v:DV} {i:Nat} (h:d≠some i):(putT t d v).getD i .junk=t.getD i .junk:=by
  cases d with
  | none=>rfl
  | some j=>simp only [putT]; rw [y02,y0r (by simpa using h),← y02]
theorem zipz {t:List DV} {d e:Option Nat} {v u:DV} (h : ∀ i,d=some i→e≠some i):putT (putT t d v) e u=putT (putT t e u) d v:=by
  cases d with
  | none=>rfl
  | some i =>
    cases e with
    | none=>rfl
    | some j =>
      have hij:i≠j:=fun e=>h i rfl (by rw [e])
      exact List.set_comm _ _ hij
theorem zk5l {t t':List DV} {g:Option (Nat × Bool)} (h : ∀ i b,g=some (i,b)→t.getD i .junk=t'.getD i .junk):goes t g=goes t' g:=by
  cases g with
  | none=>rfl
  | some p=>simp only [goes,h p.1 p.2 rfl]
theorem z991 {P:Program} {o:AOper} {t t':List DV} {h h':List AObj} {v:DV} (hr : ∀ i ∈ o.looks,t.getD i .junk=t'.getD i .junk) (hs:zgbp P o ⟨t,h⟩ v h'):zgbp P o ⟨t',h⟩ v h':=by
  have hg:goes t o.g=goes t' o.g:=zk5l fun i b e=>hr i (by simp [AOper.looks,e])
  simp only [zgbp,← hg] at hs ⊢
  split at hs
  · exact zngy (fun i hi=>hr i (by simp [AOper.looks,hi])) hs
  · exact hs
  · exact hs
theorem z6c2 {P:Program} {o:AOper} {t:List DV} {h h':List AObj} {v:DV} (he:zpsh o.op≤1) (hs:zgbp P o ⟨t,h⟩ v h'):h'=h:=by
  simp only [zgbp] at hs
  split at hs
  · exact zbnq he hs
  · exact hs.2
  · exact hs.elim
theorem zehw {P:Program} {o:AOper} {t:List DV} {h h' h2:List AObj} {v:DV} (he:zpsh o.op=0) (hs:zgbp P o ⟨t,h⟩ v h'):zgbp P o ⟨t,h2⟩ v h2:=by
  simp only [zgbp] at hs ⊢
  split at hs
  · exact zy43 he hs
  · exact ⟨hs.1,trivial⟩
  · exact hs
theorem zyxm (op:AOp):zpsh op≤2:=by cases op<;>simp [zpsh]
def SubH (h h':List AObj):Prop := ∀ id l,ziu0 h id=some l→ziu0 h' id=some l
theorem zcjc (h k:List AObj):SubH h (h++k):=by
  intro id l e
  unfold ziu0 at e ⊢
  by_cases hi:id<h.length
  · rw [y08 hi]; exact e
  · rw [y0e (by omega)] at e; simp at e
section
variable {h h':List AObj} (hs:SubH h h')
include hs
theorem za2z {id ver:Nat} {l:List DV} (e:objV h id ver=some l):objV h' id ver=some l:=by
  unfold objV at e ⊢
  obtain ⟨k,h1,h2⟩:=y00.1 e
  rw [hs id k h1]; exact h2
theorem zrg3 {α:Type} {id ver:Nat} {f:List DV→α} {d:α} (e:(objV h id ver).map f=some d):(objV h' id ver).map f=some d:=by
  obtain ⟨k,h1,h2⟩:=y01.1 e
  rw [za2z hs h1]; exact congrArg some h2
theorem zkrt {α:Type} {id ver:Nat} {f:List DV→Option α} {d:α} (e:(objV h id ver).bind f=some d):(objV h' id ver).bind f=some d:=by
  obtain ⟨k,h1,h2⟩:=y00.1 e
  rw [za2z hs h1]; exact h2
theorem ztfv {α:Type} {id:Nat} {f:List DV→Option α} {d:α} (e:(ziu0 h id).bind f=some d):(ziu0 h' id).bind f=some d:=by
  obtain ⟨k,h1,h2⟩:=y00.1 e
  rw [hs _ _ h1]; exact h2
theorem zedd {x:DV} {d:List DV} (e:vis h x=some d):vis h' x=some d:=by
  cases x with
  | mp id ver off=>exact ztfv hs e
  | _=>exact e
theorem z510 {x:DV} {d:Nat × List DV} (e:visS h x=some d):visS h' x=some d:=by
  cases x with
  | ms id ver off s n lim=>exact ztfv hs e
  | _=>exact e
theorem z26x {x:DV} {d:Nat × Bool} (e:zrfk h x=some d):zrfk h' x=some d:=by
  cases x with
  | ms id ver off s n lim=>exact ztfv hs e
  | mp id ver off=>exact ztfv hs e
  | _=>exact e
theorem z3mw {kd:Nat} {neg:Bool} {x y d:DV} (e:eqnD kd neg (zrfk h x) (zrfk h y)=some d):eqnD kd neg (zrfk h' x) (zrfk h' y)=some d:=by
  cases h1:zrfk h x with
  | none=>rw [h1] at e; simp [eqnD] at e
  | some a =>
    cases h2:zrfk h y with
    | none=>rw [h1,h2] at e; simp [eqnD] at e
    | some b=>rw [z26x hs h1,z26x hs h2,← e,h1,h2]
theorem zz2i {n:Nat} {agg:Bool} {x d:DV} (e:zu84 n agg (vis h x)=some d):zu84 n agg (vis h' x)=some d:=by
  cases h1:vis h x with
  | none=>rw [h1] at e; simp [zu84] at e
  | some a=>rw [zedd hs h1,← e,h1]
theorem zufd {x d:DV} (e:cbsD (visS h x)=some d):cbsD (visS h' x)=some d:=by
  cases h1:visS h x with
  | none=>rw [h1] at e; simp [cbsD] at e
  | some a=>rw [z510 hs h1,← e,h1]
theorem zu76 {s:Nat} {x:DV} {i:Int} {d:DV} (e:zpsc h s x i=some d):zpsc h' s x i=some d:=by
  cases x with
  | ms id ver off s' n lim =>
    simp only [zpsc] at e ⊢
    split at e
    · rename_i hc; rw [if_pos hc]; exact zrg3 hs e
    · simp at e
  | _=>exact e
theorem zdid {len s:Nat} {x:DV} {i:Int} {d:DV} (e:zurm h len s x i=some d):zurm h' len s x i=some d:=by
  cases x with
  | mp id ver off =>
    simp only [zurm] at e ⊢
    split at e
    · rename_i hc; rw [if_pos hc]; exact zrg3 hs e
    · simp at e
  | _=>exact e
theorem z3d2 {off:Nat} {x d:DV} (e:fldD h off x=some d):fldD h' off x=some d:=by
  cases x with
  | mp id ver o=>exact zrg3 hs e
  | _=>exact e
theorem zr7g {s:Nat} {x:DV} {lo hi mx:Option DV} {d:DV} (e:ziwb h s x lo hi mx=some d):ziwb h' s x lo hi mx=some d:=by
  cases x with
  | ms id ver off s' n lim =>
    simp only [ziwb] at e ⊢
    cases h1:zo77 n lo hi with
    | none =>
      rw [h1] at e
      simp only [zwtg] at e ⊢
      unfold zhun at e ⊢
      split at e
      · simp at e
      rename_i hq
      rw [if_neg hq]
      obtain ⟨l,q1,e⟩:=y00.1 e
      obtain ⟨k,q2,e⟩:=y00.1 e
      rw [q1,q2]
      simp only [y05]
      split at e
      case isFalse=>simp at e
      rename_i hq2
      rw [if_pos hq2]
      exact ztfv hs e
    | some lk =>
    rw [h1] at e
    obtain ⟨l,k⟩:=lk
    have h2:=e
    simp only [zu87] at h2 ⊢
    split at h2
    · simp at h2
    · rename_i hc
      rw [if_neg hc]
      cases mx with
      | none=>exact zrg3 hs h2
      | some m =>
        simp only at h2 ⊢
        obtain ⟨M,h3,h4⟩:=y00.1 h2
        rw [h3]
        simp only [y05] at h4 ⊢
        split at h4
        · rename_i hc2; rw [if_pos hc2]; exact zrg3 hs h4
        · simp at h4
  | _=>exact e
theorem z24j {len s:Nat} {x:DV} {lo hi:Option DV} {d:DV} (e:znv4 h len s x lo hi=some d):znv4 h' len s x lo hi=some d:=by
  cases x with
  | mp id ver off =>
    simp only [znv4] at e ⊢
    obtain ⟨⟨l,k⟩,h1,h2⟩:=y00.1 e
    rw [h1]
    exact zkrt hs h2
  | _=>exact e
theorem z2ki {x d:DV} (e:lenD h x=some d):lenD h' x=some d:=by
  cases x with
  | ms id ver off s n lim=>exact zrg3 hs e
  | _=>exact e
theorem zp2k {x d:DV} (e:zcxs h x=some d):zcxs h' x=some d:=by
  cases x with
  | mp id ver o=>exact zrg3 hs e
  | fn f a b=>cases f<;>exact e
  | _=>exact e
omit hs in
theorem z12h {α:Type} {i:Option Int} {f f':Int→Option α} {d:α} (hf : ∀ n,f n=some d→f' n=some d) (e:z55m i f=some d):z55m i f'=some d:=by
  cases i with
  | none=>simp [z55m] at e
  | some n=>exact hf n e
end
mutual
theorem zqfe {f f':DV→Option DV} (hf : ∀ x d,f x=some d→f' x=some d) : ∀ (x d:DV),zcxt f x=some d→zcxt f' x=some d
  | .agg cs,d,e=>by simp only [zcxt,y01] at e ⊢; obtain ⟨a,h1,h2⟩:=e; exact ⟨a,zwwk hf _ _ h1,h2⟩
  | .tup cs,d,e=>by simp only [zcxt,y01] at e ⊢; obtain ⟨a,h1,h2⟩:=e; exact ⟨a,zwwk hf _ _ h1,h2⟩
  | .sl b s n cs,d,e=>by simp only [zcxt,y01] at e ⊢; obtain ⟨a,h1,h2⟩:=e; exact ⟨a,zwwk hf _ _ h1,h2⟩
  | .ref cs,d,e=>by simp only [zcxt,y01] at e ⊢; obtain ⟨a,h1,h2⟩:=e; exact ⟨a,zwwk hf _ _ h1,h2⟩
  | .fn g a b,d,e=>by
    simp only [zcxt,y00,y01] at e ⊢
    obtain ⟨u,h1,v,h2,h3⟩:=e; exact ⟨u,zwwk hf _ _ h1,v,zwwk hf _ _ h2,h3⟩
  | .iface t v,d,e=>by simp only [zcxt,y01] at e ⊢; obtain ⟨a,h1,h2⟩:=e; exact ⟨a,zqfe hf _ _ h1,h2⟩
  | .ms a b c x y l,d,e=>hf _ _ e
  | .mp a b c,d,e=>hf _ _ e
  | .int ..,_,e=>e
  | .bool ..,_,e=>e
  | .str ..,_,e=>e
  | .nilp,_,e=>e
  | .nilm,_,e=>e
  | .nilf,_,e=>e
  | .nili,_,e=>e
  | .nils,_,e=>e
  | .junk,_,e=>e
theorem zwwk {f f':DV→Option DV} (hf : ∀ x d,f x=some d→f' x=some d) : ∀ (x d:List DV),zoyo f x=some d→zoyo f' x=some d
  | [],d,e=>e
  | a::r,d,e=>by
    simp only [zoyo,y00,y01] at e ⊢
    obtain ⟨u,h1,v,h2,h3⟩:=e; exact ⟨u,zqfe hf _ _ h1,v,zwwk hf _ _ h2,h3⟩
end
theorem z0t9 {α β:Type} {f f':α→Option β} (hf : ∀ x d,f x=some d→f' x=some d) : ∀ {l:List α} {r:List β},zp5p f l=some r→zp5p f' l=some r
  | [],_,e=>e
  | a::l,r,e=>by
    simp only [zp5p,y00,y01] at e ⊢
    obtain ⟨u,h1,v,h2,h3⟩:=e; exact ⟨u,hf _ _ h1,v,z0t9 hf h2,h3⟩
theorem zq56 {h h':List AObj} (hs:SubH h h') : ∀ (k:Nat) (x d:DV),snap h k x=some d→snap h' k x=some d
  | 0,x,d,e=>e
  | k+1,x,d,e=>by
    simp only [snap] at e ⊢
    refine zqfe (fun x d e => ?_) _ _ e
    have ih:=zq56 hs k
    cases x with
    | ms id ver off s n lim =>
      obtain ⟨l,h1,h2⟩:=y00.1 e
      simp only [hs _ _ h1,y05]
      split at h2
      · rename_i hc
        rw [if_pos hc]
        obtain ⟨cs,h3,h4⟩:=y01.1 h2
        rw [z0t9 (fun x d=>ih x d) h3]; exact congrArg some h4
      · simp at h2
    | mp id ver off =>
      obtain ⟨l,h1,h2⟩:=y00.1 e
      simp only [hs _ _ h1,y05]
      split at h2
      · rename_i hc
        rw [if_pos hc]
        obtain ⟨cs,h3,h4⟩:=y01.1 h2
        rw [z0t9 (fun x d=>ih x d) h3]; exact congrArg some h4
      · simp at h2
    | _=>exact e
theorem z9b8 {o o':Option DV} {h k h':List AObj} {v:DV} (hf:o=some v→o'=some v) (e:pr o h=some (v,h)):pr o' k=some (v,k):=by
  cases o with
  | none=>simp [pr] at e
  | some d =>
    simp [pr] at e
    subst e
    rw [hf rfl]; rfl
theorem zr8o {P:Program} {op:AOp} {t:List DV} {h h':List AObj} {v:DV} (hs:SubH h h') (he:zpsh op=1) (ho:outA P op t h v h):outA P op t h' v h':=by
  cases op with
  | call f as =>
    simp only [outA] at ho ⊢
    split at ho
    · refine ⟨?_,by first|rfl|trivial⟩
      rcases ho.1 with h1|⟨h1,a,h2,h3⟩
      · exact .inl h1
      · exact .inr ⟨h1,a,z0t9 (fun x d=>zq56 hs 3 x d) h2,h3⟩
    · exact ho.elim
  | load n agg x=>simp only [outA,zq2d] at ho ⊢; exact z9b8 (h':=h') (zz2i hs) ho
  | idxS s x i=>simp only [outA,z9rr] at ho ⊢; exact z9b8 (h':=h') (z12h (fun _=>zu76 hs)) ho
  | idxA l s x i=>simp only [outA,zl5a] at ho ⊢; exact z9b8 (h':=h') (z12h (fun _=>zdid hs)) ho
  | fld o x=>simp only [outA,zpqd] at ho ⊢; exact z9b8 (h':=h') (z3d2 hs) ho
  | slcS s x lo hi mx=>simp only [outA,zbjv] at ho ⊢; exact z9b8 (h':=h') (zr7g hs) ho
  | slcA l s x lo hi=>simp only [outA,zx4w] at ho ⊢; exact z9b8 (h':=h') (z24j hs) ho
  | cbs x=>simp only [outA,z472] at ho ⊢; exact z9b8 (h':=h') (zufd hs) ho
  | len x=>simp only [outA,zyi4] at ho ⊢; exact z9b8 (h':=h') (z2ki hs) ho
  | nilc x=>simp only [outA,zovp] at ho ⊢; exact z9b8 (h':=h') (zp2k hs) ho
  | eqn kd neg x y=>simp only [outA,zdsz] at ho ⊢; exact z9b8 (h':=h') (z3mw hs) ho
  | _=>simp [zpsh] at he
theorem zk1z {P:Program} {o:AOper} {t:List DV} {h h':List AObj} {v:DV} (hs:SubH h h') (he:zpsh o.op=1) (ho:zgbp P o ⟨t,h⟩ v h):zgbp P o ⟨t,h'⟩ v h':=by
  simp only [zgbp] at ho ⊢
  split at ho
  · exact zr8o hs he ho
  · exact ⟨ho.1,trivial⟩
  · exact ho.elim
theorem znvl {P:Program} {op:AOp} {t:List DV} {h h':List AObj} {v:DV} (he:zxwz op=true) (ho:outA P op t h v h'):SubH h h':=by
  cases op with
  | callN f as =>
    simp only [outA] at ho
    split at ho
    · rcases ho with ⟨_,rfl⟩|⟨_,tail,rfl⟩
      · exact fun _ _ e=>e
      · exact zcjc _ _
    · exact ho.elim
  | alloc zs=>simp only [outA,zzm2] at ho; simp at ho; rw [← ho.2]; exact zcjc _ _
  | box x =>
    simp only [outA,z24c,boxD] at ho
    split at ho
    · simp at ho; rw [← ho.2]; exact zcjc _ _
    · simp at ho
  | mks s b zs l c =>
    simp only [outA,evOp,y00] at ho
    obtain ⟨l',_,c',_,ho⟩:=ho
    split at ho
    · simp at ho; rw [← ho.2]; exact zcjc _ _
    · simp at ho
  | _=>simp [zxwz] at he
theorem zg76 {P:Program} {o:AOper} {st:St} {h':List AObj} {v:DV} (he:zxwz o.op=true) (ho:zgbp P o st v h'):SubH st.h h':=by
  simp only [zgbp] at ho
  split at ho
  · exact znvl he ho
  · rw [ho.2]; exact fun _ _ e=>e
  · exact ho.elim
theorem z7ba {h:List AObj} {id:Nat} {l:List DV} (e:ziu0 h id=some l):id<h.length:=by
  unfold ziu0 at e
  split at e
  · rename_i q; exact (y0a.1 q).1
  · simp at e
theorem zm93 {P:Program} {op:AOp} {t:List DV} {h h':List AObj} {v:DV} (he:ztgi op=true) (ho:outA P op t h v h') : ∃ o,h'=h++[o] ∧ ∀ k,k.length=h.length→outA P op t k v (k++[o]):=by
  cases op with
  | alloc zs =>
    simp only [outA,zzm2] at ho ⊢; simp at ho
    exact ⟨_,ho.2.symm,fun k hk=>by simp [hk,ho.1]⟩
  | box x =>
    simp only [outA,z24c,boxD] at ho ⊢
    split at ho
    · rename_i hq
      simp at ho
      exact ⟨_,ho.2.symm,fun k hk=>by rw [if_pos hq]; simp [hk,ho.1]⟩
    · simp at ho
  | mks s b zs l c =>
    simp only [outA,evOp,y00] at ho ⊢
    obtain ⟨l',hl,c',hc,ho⟩:=ho
    split at ho
    · rename_i hq
      simp at ho
      exact ⟨_,ho.2.symm,fun k hk=>⟨l',hl,c',hc,by rw [if_pos hq]; simp [hk,ho.1]⟩⟩
    · simp at ho
  | _=>simp [ztgi] at he
theorem z9ne {P:Program} {y:AOper} {t:List DV} {h h':List AObj} {v:DV} (he:ztgi y.op=true) (hs:zgbp P y ⟨t,h⟩ v h'):(∃ o,h'=h++[o] ∧ ∀ k,k.length=h.length→zgbp P y ⟨t,k⟩ v (k++[o]))∨(h'=h ∧ ∀ k,zgbp P y ⟨t,k⟩ v k):=by
  simp only [zgbp] at hs ⊢
  split at hs
  · exact .inl (zm93 he hs)
  · exact .inr ⟨hs.2,fun k=>⟨hs.1,trivial⟩⟩
  · exact hs.elim
theorem zys3 {P:Program} {x:AOper} {t:List DV} {h h':List AObj} {v:DV} (he:z6fp x.op=true) (hs:zgbp P x ⟨t,h⟩ v h'):h'.length=h.length ∧ ∀ o,zgbp P x ⟨t,h++[o]⟩ v (h'++[o]):=by
  obtain ⟨g,d,op⟩:=x
  cases op with
  | callT f args =>
    simp only [zgbp] at hs ⊢
    split at hs
    · simp only [outA] at hs ⊢
      split at hs
      · rcases hs with ⟨hp,rfl⟩|⟨id,r,l,l',h1,h2,rfl,h4⟩
        · refine ⟨rfl,fun o => .inl ⟨?_,rfl⟩⟩
          rcases hp with h1|⟨h1,a,h2,h3⟩
          · exact .inl h1
          · exact .inr ⟨h1,a,z0t9 (fun x d=>zq56 (zcjc _ _) 3 x d) h2,h3⟩
        · have hlt:=z7ba h2
          refine ⟨by simp,fun o => .inr ⟨id,r,l,l',h1,zcjc _ _ _ _ h2,?_,h4⟩⟩
          rw [List.set_append_left _ _ hlt]
      · exact hs.elim
    · exact ⟨by rw [hs.2],fun o=>⟨hs.1,by rw [hs.2]⟩⟩
    · exact hs.elim
  | _=>simp [z6fp] at he
theorem swap {P:Program} {x y:AOper} (hok:z27y x y=true) {r:List AOper} {st:St} {Φ:St→Prop} (h:zetq P (x::y::r) st Φ):zetq P (y::x::r) st Φ:=by
  obtain ⟨t,m⟩:=st
  obtain ⟨v,h1,hx,h⟩:=zow1.1 h
  obtain ⟨u,h2,hy,h⟩:=zow1.1 h
  simp only at hy h
  simp only [z27y,y03,y0g,y0f,Bool.and_eq_false_iff,beq_eq_false_iff_ne,beq_iff_eq,ne_eq,decide_eq_false_iff_not,ge_iff_le] at hok
  obtain ⟨⟨⟨q1,q2⟩,q3⟩,q4⟩:=hok
  have a1 : ∀ i ∈ y.looks,x.d≠some i:=fun i hi e=>by
    rw [e] at q1; simp only [y03,y0f,bne_iff_ne,ne_eq] at q1
    have:=q1.1; simp at this; exact this hi
  have a2 : ∀ i,x.d=some i→y.d≠some i:=fun i e e'=>by
    rw [e] at q1; simp [e'] at q1
  have a3 : ∀ i ∈ x.looks,y.d≠some i:=fun i hi e=>by
    rw [e] at q2; simp at q2; exact q2 hi
  have hy':zgbp P y ⟨t,h1⟩ u h2:=z991 (fun i hi=>zy47 (a1 i hi)) hy
  have ex:=zyxm x.op
  have ey:=zyxm y.op
  have fin : ∀ k,zgbp P y ⟨t,m⟩ u k→zgbp P x ⟨t,k⟩ v h2→zetq P (y::x::r) ⟨t,m⟩ Φ:=by
    intro k g1 g2
    refine zow1.2 ⟨u,k,g1,zow1.2 ⟨v,h2,?_,?_⟩⟩
    · exact z991 (fun i hi=>(zy47 (a3 i hi)).symm) g2
    · simp only
      rw [← zipz a2]; exact h
  by_cases elt:z6fp x.op=true∧ztgi y.op=true
  · obtain ⟨g1,g2⟩:=zys3 elt.1 hx
    rcases z9ne elt.2 hy' with ⟨o,rfl,g3⟩|⟨rfl,g3⟩
    · exact fin _ (g3 m g1.symm) (g2 o)
    · exact fin m (g3 m) hx
  replace q3:=q3.resolve_right elt
  replace q4:(¬ zpsh y.op=2∨¬ 1≤zpsh x.op)∨zxwz y.op=true∧zpsh x.op=1:=by
    rcases q4 with (q4|q4)|q4
    · exact .inl q4
    · exact .inr q4
    · exact absurd q4 elt
  by_cases e2:zpsh x.op=2
  · have ey0:zpsh y.op=0:=by omega
    have:=z6c2 (by omega) hy'
    subst this
    exact fin m (zehw ey0 hy') hx
  · have k1:=z6c2 (by omega) hx
    subst k1
    by_cases e3:zpsh y.op=2
    · by_cases e4:zpsh x.op=0
      · exact fin h2 hy' (zehw e4 hx)
      · have q5:zxwz y.op=true:=by
          rcases q4 with q4|q4
          · omega
          · exact q4.1
        exact fin h2 hy' (zk1z (zg76 q5 hy') (by omega) hx)
    · have:=z6c2 (by omega) hy'
      subst this
      exact fin _ hy' hx
section
variable {h h':List AObj}
theorem zt7r {id ver:Nat} {l:List DV} (hs : ∀ l,ziu0 h id=some l→ziu0 h' id=some l) (e:objV h id ver=some l):objV h' id ver=some l:=by
  unfold objV at e ⊢
  obtain ⟨k,h1,h2⟩:=y00.1 e
  rw [hs k h1]; exact h2
theorem zv9q {α:Type} {id ver:Nat} {f:List DV→α} {d:α} (hs : ∀ l,ziu0 h id=some l→ziu0 h' id=some l) (e:(objV h id ver).map f=some d):(objV h' id ver).map f=some d:=by
  obtain ⟨k,h1,h2⟩:=y01.1 e
  rw [zt7r hs h1]; exact congrArg some h2
theorem zx3q {α:Type} {id:Nat} {f:List DV→Option α} {d:α} (hs : ∀ l,ziu0 h id=some l→ziu0 h' id=some l) (e:(ziu0 h id).bind f=some d):(ziu0 h' id).bind f=some d:=by
  obtain ⟨k,h1,h2⟩:=y00.1 e
  rw [hs _ h1]; exact h2
theorem zz47 {x:DV} {d:List DV} (hs : ∀ id,zi6q x=some id → ∀ l,ziu0 h id=some l→ziu0 h' id=some l) (e:vis h x=some d):vis h' x=some d:=by
  cases x with
  | mp id ver off=>exact zx3q (hs _ rfl) e
  | _=>exact e
theorem zob7 {n:Nat} {agg:Bool} {x d:DV} (hs : ∀ id,zi6q x=some id → ∀ l,ziu0 h id=some l→ziu0 h' id=some l) (e:zu84 n agg (vis h x)=some d):zu84 n agg (vis h' x)=some d:=by
  cases h1:vis h x with
  | none=>rw [h1] at e; simp [zu84] at e
  | some a=>rw [zz47 hs h1,← e,h1]
theorem z72z {s:Nat} {x:DV} {i:Int} {d:DV} (hs : ∀ id,zi6q x=some id → ∀ l,ziu0 h id=some l→ziu0 h' id=some l) (e:zpsc h s x i=some d):zpsc h' s x i=some d:=by
  cases x with
  | ms id ver off s' n lim =>
    simp only [zpsc] at e ⊢
    split at e
    · rename_i hc; rw [if_pos hc]; exact zv9q (hs _ rfl) e
    · simp at e
  | _=>exact e
theorem zvnv {off:Nat} {x d:DV} (hs : ∀ id,zi6q x=some id → ∀ l,ziu0 h id=some l→ziu0 h' id=some l) (e:fldD h off x=some d):fldD h' off x=some d:=by
  cases x with
  | mp id ver o=>exact zv9q (hs _ rfl) e
  | _=>exact e
theorem z5s5 {x d:DV} (hs : ∀ id,zi6q x=some id → ∀ l,ziu0 h id=some l→ziu0 h' id=some l) (e:lenD h x=some d):lenD h' x=some d:=by
  cases x with
  | ms id ver off s n lim=>exact zv9q (hs _ rfl) e
  | _=>exact e
theorem zjd6 {s:Nat} {x:DV} {lo hi mx:Option DV} {d:DV} (hs : ∀ id,zi6q x=some id → ∀ l,ziu0 h id=some l→ziu0 h' id=some l) (e:ziwb h s x lo hi mx=some d):ziwb h' s x lo hi mx=some d:=by
  cases x with
  | ms id ver off s' n lim =>
    simp only [ziwb] at e ⊢
    cases h1:zo77 n lo hi with
    | none =>
      rw [h1] at e
      simp only [zwtg] at e ⊢
      unfold zhun at e ⊢
      split at e
      · simp at e
      rename_i hq
      rw [if_neg hq]
      obtain ⟨l,q1,e⟩:=y00.1 e
      obtain ⟨k,q2,e⟩:=y00.1 e
      rw [q1,q2]
      simp only [y05]
      split at e
      case isFalse=>simp at e
      rename_i hq2
      rw [if_pos hq2]
      exact zx3q (hs _ rfl) e
    | some lk =>
    rw [h1] at e
    obtain ⟨l,k⟩:=lk
    have h2:=e
    simp only [zu87] at h2 ⊢
    split at h2
    · simp at h2
    · rename_i hc
      rw [if_neg hc]
      cases mx with
      | none=>exact zv9q (hs _ rfl) h2
      | some m =>
        simp only at h2 ⊢
        obtain ⟨M,h3,h4⟩:=y00.1 h2
        rw [h3]
        simp only [y05] at h4 ⊢
        split at h4
        · rename_i hc2; rw [if_pos hc2]; exact zv9q (hs _ rfl) h4
        · simp at h4
  | _=>exact e
end
theorem zazv {op:AOp} {a:Nat} (ha:zu5r op=some a):zpsh op=1∧a ∈ op.reads:=by
  unfold zu5r at ha
  split at ha<;>simp at ha<;>subst ha<;>simp [zpsh,AOp.reads,Opd.tmps]
theorem zvhz {P:Program} {op:AOp} {a:Nat} {t:List DV} {h h':List AObj} {v:DV} (ha:zu5r op=some a) (hs : ∀ id,zi6q (t.getD a .junk)=some id → ∀ l,ziu0 h id=some l→ziu0 h' id=some l) (ho:outA P op t h v h):outA P op t h' v h':=by
  unfold zu5r at ha
  split at ha<;>simp at ha<;>subst ha
  · simp only [outA,zq2d] at ho ⊢; exact z9b8 (h':=h') (zob7 hs) ho
  · simp only [outA,zpqd] at ho ⊢; exact z9b8 (h':=h') (zvnv hs) ho
  · simp only [outA,z9rr] at ho ⊢; exact z9b8 (h':=h') (z12h (fun _=>z72z hs)) ho
  · simp only [outA,zbjv] at ho ⊢; exact z9b8 (h':=h') (zjd6 hs) ho
  · simp only [outA,zyi4] at ho ⊢; exact z9b8 (h':=h') (z5s5 hs) ho
theorem z5ce {P:Program} {o:AOper} {a:Nat} {t:List DV} {h h':List AObj} {v:DV} (ha:zu5r o.op=some a) (hs : ∀ id,zi6q (t.getD a .junk)=some id → ∀ l,ziu0 h id=some l→ziu0 h' id=some l) (ho:zgbp P o ⟨t,h⟩ v h):zgbp P o ⟨t,h'⟩ v h':=by
  simp only [zgbp] at ho ⊢
  split at ho
  · exact zvhz ha hs ho
  · exact ⟨ho.1,trivial⟩
  · exact ho.elim
theorem zg2t {h:List AObj} {id id':Nat} {o:AObj} (hne:id≠id'):ziu0 (h.set id o) id'=ziu0 h id':=by
  unfold ziu0; rw [y0r hne]
theorem z7ko {h:List AObj} {id:Nat} {o:AObj} (hne:h.length≠id):ziu0 (h++[o]) id=ziu0 h id:=by
  unfold ziu0
  by_cases hi:id<h.length
  · rw [y08 hi]
  · rw [y0e (by simp; omega),y0e (by omega)]
theorem zof2 {h h':List AObj} {s b:Nat} {x y v:DV} (e:zqbw h s b x y=some (v,h')) : ∀ id,zi6q v≠some id→ziu0 h' id=ziu0 h id:=by
  intro id hne
  unfold zqbw at e
  obtain ⟨⟨m,cs⟩,_,e⟩:=y00.1 e
  simp only at e
  split at e
  · simp at e
  split at e
  · split at e
    · simp at e; rw [← e.2]
    · split at e
      · simp at e; obtain ⟨rfl,rfl⟩:=e
        exact z7ko fun q=>hne (by rw [← q]; rfl)
      · simp at e
  · split at e
    · simp at e; rw [← e.2]
    · split at e
      · simp at e; obtain ⟨rfl,rfl⟩:=e
        exact z7ko fun q=>hne (by rw [← q]; rfl)
      · simp at e
  · obtain ⟨l,_,e⟩:=y00.1 e
    split at e
    · split at e
      · simp at e; rw [← e.2]
      · split at e
        · simp at e; obtain ⟨rfl,rfl⟩:=e
          exact zg2t fun q=>hne (by rw [← q]; rfl)
        · split at e
          · simp at e; obtain ⟨rfl,rfl⟩:=e
            exact zg2t fun q=>hne (by rw [← q]; rfl)
          · simp at e
    · simp at e
  · simp at e
theorem zse4 {P:Program} {o:AOper} {b:Nat} {res:Bool} {t:List DV} {h h':List AObj} {v:DV} (ht:zsx1 o=some (b,res)) (ho:zgbp P o ⟨t,h⟩ v h') : ∀ id,zi6q (if res=true then v else t.getD b .junk)≠some id→ziu0 h' id=ziu0 h id:=by
  intro id hne
  simp only [zgbp] at ho
  split at ho
  · unfold zsx1 at ht
    split at ht
    · rename_i n a y hop
      simp at ht; obtain ⟨rfl,rfl⟩:=ht
      rw [hop] at ho
      simp only [outA,evOp,ev] at ho
      simp only [y0j,if_false] at hne
      split at ho
      · rename_i id' ver off hmp
        obtain ⟨l,_,ho⟩:=y00.1 ho
        obtain ⟨_,ho⟩:=y0l.1 ho
        simp only [Option.some.injEq,Prod.mk.injEq] at ho
        rw [← ho.2]
        exact zg2t fun q=>hne (by rw [← q,hmp]; rfl)
      · simp at ho
    · rename_i s b' x y hop
      obtain ⟨d,hd,ht⟩:=y01.1 ht
      simp at ht; obtain ⟨rfl,rfl⟩:=ht
      rw [hop] at ho
      simp only [if_true] at hne
      exact zof2 (show zqbw _ _ _ _ _=_ from ho) id hne
    · rename_i fn cap a as hop
      simp at ht; obtain ⟨rfl,rfl⟩:=ht
      rw [hop] at ho
      simp only [y0j,if_false] at hne
      simp only [outA,ev] at ho
      split at ho
      · rename_i g first captured he
        simp only [DV.fn.injEq] at he
        obtain ⟨_,rfl,_⟩:=he
        rcases ho with ⟨_,rfl⟩|⟨id',r,l,o',he2,_,rfl,_⟩
        · rfl
        · simp only [List.map_cons,List.nil_append,List.cons_append,List.cons.injEq,ev] at he2
          exact zg2t fun q=>hne (by rw [← q,he2.1]; rfl)
      · exact ho.elim
    · simp at ht
  · rw [ho.2]
  · exact ho.elim
theorem zgt9 {P:Program} {Φ:St→Prop} {a b:Nat} : ∀ (r:List AOper) (st:St),zetq P r st Φ→(∀ o ∈ r,o.d≠some a∧o.d≠some b) → ∃ st',Φ st'∧st'.t.getD a .junk=st.t.getD a .junk∧st'.t.getD b .junk=st.t.getD b .junk
  | [],st,h,_=>⟨st,h,rfl,rfl⟩
  | o::r,st,h,hr=>by
    obtain ⟨v,h',_,h2⟩:=zow1.1 h
    obtain ⟨st',g1,g2,g3⟩:=zgt9 r _ h2 (fun x hx=>hr x (by simp [hx]))
    have:=hr o (by simp)
    exact ⟨st',g1,by rw [g2]; exact zy47 this.1,by rw [g3]; exact zy47 this.2⟩
theorem znkx {t:List DV} {i:Nat} {v:DV}:(putT t (some i) v).getD i .junk=v∨(putT t (some i) v).getD i .junk = .junk:=by
  simp only [putT,y02]
  by_cases hi:i<t.length
  · left; rw [List.getElem?_set_self hi]; rfl
  · right; rw [y0e (by simp; omega)]; rfl
theorem zlyr {a b:DV} (h:z87v a b=true):b ≠ .junk ∧ ∀ id,zi6q a=some id→zi6q b≠some id:=by
  unfold z87v at h
  split at h
  · simp at h
  · rename_i hb
    refine ⟨fun e=>hb e,fun id h1 h2 => ?_⟩
    rw [h1,h2] at h
    simp at h
structure Dyn (x y:AOper) (a b:Nat) (res:Bool):Prop where
  rd:zu5r x.op=some a
  wr:zsx1 y=some (b,res)
  tm : ∀ i,x.d=some i→i ∉ y.looks∧y.d≠some i
  tm' : ∀ i,y.d=some i→i ∉ x.looks
  xa:x.d≠some a
  yb:res=false→y.d≠some b
theorem zmo7 {y:AOper} {b:Nat} (h:zsx1 y=some (b,true)):y.d=some b:=by
  unfold zsx1 at h
  split at h<;>simp at h
  exact h
theorem ze63 {y:AOper} {b:Nat} (h:zsx1 y=some (b,false)):b ∈ y.looks:=by
  unfold zsx1 at h
  split at h
  · rename_i hop
    simp at h; subst h
    simp [AOper.looks,hop,AOp.reads,Opd.tmps]
  · simp at h
  · rename_i hop
    simp at h; subst h
    simp [AOper.looks,hop,AOp.reads,Opd.tmps]
  · simp at h
theorem z27z {P:Program} {rd wr:AOper} {a b:Nat} {res:Bool} (hd:Dyn rd wr a b res) {x y:AOper} (hxy:(x=rd∧y=wr)∨(x=wr∧y=rd)) {r:List AOper} {st:St} {Φ:St→Prop} (hr : ∀ o ∈ r,o.d≠some a∧o.d≠some b)
    (hΦ : ∀ st',Φ st'→z87v (st'.t.getD a .junk) (st'.t.getD b .junk)=true) (h:zetq P (x::y::r) st Φ):zetq P (y::x::r) st Φ:=by
  obtain ⟨t,m⟩:=st
  obtain ⟨v,h1,hx,h⟩:=zow1.1 h
  obtain ⟨u,h2,hy,hrest⟩:=zow1.1 h
  simp only at hy hrest
  obtain ⟨st',f1,f2,f3⟩:=zgt9 r _ hrest hr
  have hap:=zlyr (hΦ st' f1)
  rw [f2,f3] at hap
  simp only at hap
  have hra:a ∈ rd.looks:=by simp [AOper.looks,(zazv hd.rd).2]
  have hwa:wr.d≠some a:=fun e=>hd.tm' _ e hra
  rcases hxy with ⟨rfl,rfl⟩|⟨rfl,rfl⟩
  · -- the reader first
    have hk:=z6c2 (by have:=(zazv hd.rd).1; omega) hx
    subst hk
    have hy':zgbp P y ⟨t,h1⟩ u h2:=z991 (fun i hi=>zy47 (fun e=>(hd.tm i e).1 hi)) hy
    have ea:(putT (putT t x.d v) y.d u).getD a .junk=t.getD a .junk:=by rw [zy47 hwa,zy47 hd.xa]
    have eb:zi6q (if res=true then u else t.getD b .junk)=zi6q ((putT (putT t x.d v) y.d u).getD b .junk):=by
      cases res with
      | true =>
        have hyd:=zmo7 hd.wr
        rw [hyd] at hap ⊢
        rcases znkx (t:=putT t x.d v) (i:=b) (v:=u) with e|e
        · rw [e]; rfl
        · exact absurd e hap.1
      | false =>
        have hb:=ze63 hd.wr
        simp only [y0j,if_false]
        rw [zy47 (hd.yb rfl),zy47 (fun e=>(hd.tm b e).1 hb)]
    have st1 : ∀ id,zi6q (t.getD a .junk)=some id → ∀ l,ziu0 h1 id=some l→ziu0 h2 id=some l:=fun id e l hl=>by
      rw [zse4 hd.wr hy' id (by rw [eb]; exact hap.2 id (by rw [ea]; exact e))]; exact hl
    have hx':=z5ce hd.rd st1 hx
    refine zow1.2 ⟨u,h2,hy',zow1.2 ⟨v,h2,?_,?_⟩⟩
    · exact z991 (fun i hi=>(zy47 (fun e=>hd.tm' i e hi)).symm) hx'
    · simp only
      rw [← zipz (fun i e=>(hd.tm i e).2)]; exact hrest
  · -- the writer first
    have hk:=z6c2 (by have:=(zazv hd.rd).1; omega) hy
    subst hk
    have hy':zgbp P y ⟨t,h2⟩ u h2:=z991 (fun i hi=>zy47 (fun e=>hd.tm' i e hi)) hy
    have ea:(putT (putT t x.d v) y.d u).getD a .junk=t.getD a .junk:=by rw [zy47 hd.xa,zy47 hwa]
    have eb:zi6q (if res=true then v else t.getD b .junk)=zi6q ((putT (putT t x.d v) y.d u).getD b .junk):=by
      cases res with
      | true =>
        have hxd:=zmo7 hd.wr
        have hyb:y.d≠some b:=fun e=>(hd.tm b e).2 hxd
        rw [zy47 hyb,hxd] at hap ⊢
        rcases znkx (t:=t) (i:=b) (v:=v) with e|e
        · rw [e]; rfl
        · exact absurd e hap.1
      | false =>
        have hb:=ze63 hd.wr
        simp only [y0j,if_false]
        rw [zy47 (fun e=>(hd.tm b e).1 hb),zy47 (hd.yb rfl)]
    have st1 : ∀ id,zi6q (t.getD a .junk)=some id → ∀ l,ziu0 h2 id=some l→ziu0 m id=some l:=fun id e l hl=>by
      rw [← zse4 hd.wr hx id (by rw [eb]; exact hap.2 id (by rw [ea]; exact e))]; exact hl
    have hy'':=z5ce hd.rd st1 hy'
    refine zow1.2 ⟨u,m,hy'',zow1.2 ⟨v,h2,?_,?_⟩⟩
    · exact z991 (fun i hi=>(zy47 (fun e=>(hd.tm i e).1 hi)).symm) hx
    · simp only
      rw [zipz (fun i e=>(hd.tm i e).2)]; exact hrest
def zed0 (Φ:St→Prop) (x y:AOper) (r:List AOper):Prop :=
  z27y x y=true ∨ ∃ rd wr a b res,Dyn rd wr a b res∧((x=rd∧y=wr)∨(x=wr∧y=rd))∧(∀ o ∈ r,o.d≠some a∧o.d≠some b) ∧ ∀ st',Φ st'→z87v (st'.t.getD a .junk) (st'.t.getD b .junk)=true
theorem zrcw {P:Program} {x y:AOper} {r:List AOper} {st:St} {Φ:St→Prop} (hg:zed0 Φ x y r) (h:zetq P (x::y::r) st Φ):zetq P (y::x::r) st Φ:=by
  rcases hg with hg|⟨rd,wr,a,b,res,h1,h2,h3,h4⟩
  · exact swap hg h
  · exact z27z h1 h2 h3 h4 h
theorem zamn {P:Program} {j:AOper} {l2:List AOper} {Φ:St→Prop} : ∀ (l1:List AOper) (st:St),(∀ pre x post,l1=pre++x::post→zed0 Φ x j (post++l2))→zetq P (l1++j::l2) st Φ→zetq P (j::(l1++l2)) st Φ
  | [],st,_,h=>h
  | x::l1,st,hs,h=>by
    obtain ⟨v,h',h1,h2⟩:=zow1.1 (show zetq P (x::(l1++j::l2)) st Φ from h)
    have:=zamn l1 _ (fun pre y post e=>hs (x::pre) y post (by rw [e]; rfl)) h2
    exact zrcw (hs [] x l1 rfl) (zow1.2 ⟨v,h',h1,this⟩)
theorem zkd4 {P:Program} {j:AOper} {l2:List AOper} {Φ:St→Prop} : ∀ (l1:List AOper) (st:St),(∀ x ∈ l1,z27y x j=true)→zetq P (l1++j::l2) st Φ→zetq P (j::(l1++l2)) st Φ
  | [],st,_,h=>h
  | x::l1,st,hs,h=>by
    obtain ⟨v,h',h1,h2⟩:=zow1.1 (show zetq P (x::(l1++j::l2)) st Φ from h)
    have:=zkd4 l1 _ (fun y hy=>hs y (by simp [hy])) h2
    exact swap (hs x (by simp)) (zow1.2 ⟨v,h',h1,this⟩)
theorem zoh1 {α β:Type} {f:α→Option β} : ∀ {l:List α} {r:List β},zp5p f l=some r→r.length=l.length
  | [],r,h=>by simp [zp5p] at h; subst h; rfl
  | a::l,r,h=>by
    simp only [zp5p,y00,y01] at h
    obtain ⟨b,_,r',h',rfl⟩:=h
    simp [zoh1 h']
theorem zsyb {α β:Type} {f:α→Option β} : ∀ {l:List α} {r:List β},zp5p f l=some r → ∀ (i:Nat) (a:α),l[i]? = some a → ∃ b,r[i]? = some b∧f a=some b
  | [],r,h,i,a,hi=>by simp at hi
  | c::l,r,h,i,a,hi=>by
    simp only [zp5p,y00,y01] at h
    obtain ⟨b,hb,r',h',rfl⟩:=h
    cases i with
    | zero=>simp at hi; subst hi; exact ⟨b,rfl,hb⟩
    | succ i=>simpa using zsyb h' i a (by simpa using hi)
section
variable {P:Program} {X0:Forb} {base:Nat} {E0:Env} {w0:World} {ops:Array Oper} {Q:Exit→Act→World→Prop} {Φ:St→Prop}
theorem zozp {al:List AOper} (hc:zp5p (zjj7 P ops) ops.toList=some al) {j:Nat} {ao:AOper} (hj:al[j]? = some ao) {st:St} {v:DV} {h':List AObj} (hs:zgbp P ao st v h') {a:Act} {w:World} (hr:SR X0 base E0 w0 st a w)
    {K:Act→World→Prop} (hK : ∀ a' w',SR X0 base E0 w0 ⟨putT st.t ao.d v,h'⟩ a' w'→(∀ c,(∃ o,X0 c o)→w'.heap[c]? = w.heap[c]?)→(∃ v',a'=a.put ao.d v')→K a' w'):wpOp P ops Q j K a w:=by
  have hlen:=zoh1 hc
  have hjl:j<al.length:=(y0a.1 hj).1
  have hjs:j<ops.size:=by simpa [hlen] using hjl
  obtain ⟨ao',h1,hao⟩:=zsyb hc j ops[j] (by simp [hjs])
  rw [hj] at h1; simp at h1; subst h1
  unfold wpOp
  rw [Array.getElem?_eq_getElem hjs]
  simp only
  generalize ops[j]=o at hao
  obtain ⟨E,hh,hsz,hrep,hdef,ht⟩:=hr
  obtain ⟨hco1,hco2,hco3⟩:=zz0x hao
  have next : ∀ (v':Value) (w':World) (E':Env),HeapRel X0 base w' h' E'→Rep E' (FX X0 E') w' v' v→Trans X0 base E w E' w'→K (a.put o.dst v') w':=by
    intro v' w' E' g1 g2 g3
    obtain ⟨p1,p2⟩:=zt4v hsz (g3.repL hrep) g2 o.dst rfl
    rw [hco2] at hK
    exact hK _ _ ⟨E',g1,p1,p2,by rw [zhny]; exact hdef.mono g3.others,ht.trans g3⟩ (fun c ⟨o,hx⟩=>(g3.frame c (hh.x0 c o hx).1 (hh.x0 c o hx).2).1) ⟨v',rfl⟩
  unfold zgbp at hs
  split at hs
  · rename_i hg
    have hw:Region.wanted o (yielded ops a.tmps)=true:=by
      rcases zspy (X0:=X0) hao hsz hrep (zh5e (a:=True) (b:=False) (.inl ⟨hg,trivial⟩)) with ⟨h,_⟩|⟨_,h⟩
      · exact h
      · exact h.elim
    rw [if_pos hw]
    left
    obtain ⟨g,dd,op⟩:=ao
    simp only at hco2 hco3 hs
    rcases hco3 with ⟨c,f0,f,as,c1,c2,c3,c4,rfl⟩|⟨hop,hnc⟩|hbad
    · simp only [outA] at hs
      split at hs<;>try (exact hs.elim)
      rename_i gg first captured hev
      obtain ⟨hp,rfl⟩:=hs
      obtain ⟨vs,hrun,hra⟩:=zbqg c1 c2 c3 c4 (fun x y _ ho=>zc82 hrep x y ho) hev
      unfold Oper.wp
      rcases hp.calls hh hra with ⟨he,hcl⟩|⟨v0,w0',he,v',e1,e2,e3,e4⟩
      · rw [hrun _ _ he]
        refine hcl.mono fun e w' ⟨v',e1,e2,e3,e4⟩ => ?_
        subst e1
        exact next v' w' E e2 e3 e4
      · rw [hrun _ _ he]
        cases e1
        exact next v0 w0' E e2 e3 e4
    · have hev:evOp op st.t st.h=some (v,h'):=by
        cases op<;>first
          | (simp [AOp.isCall] at hnc; done)
          | exact hs
      exact zaxe hop hev hh hrep (fun v' w' E' g1 g2 g3=>next v' w' E' g1 g2 g3)
    · subst hbad; simp [outA,zrr3,evOp,ev] at hs
  · rename_i hg
    obtain ⟨rfl,rfl⟩:=hs
    have hw:Region.wanted o (yielded ops a.tmps)=false:=by
      rcases zspy (X0:=X0) hao hsz hrep (zh5e (a:=False) (b:=True) (.inr ⟨hg,trivial⟩)) with ⟨_,h⟩|⟨h,_⟩
      · exact h.elim
      · exact h
    rw [if_neg (by simp [hw])]
    exact next undef w E hh zids (.refl _ _ _ _)
  · exact hs.elim
theorem tN_d {P:Program} {b:Nat} {o:AOper}:(tN P b o).d=o.d:=by unfold tN; split<;>rfl
theorem tN_g {P:Program} {b:Nat} {o:AOper}:(tN P b o).g=o.g:=by unfold tN; split<;>rfl
theorem z5ww (P:Program) (b:Nat) (o:AOper):tN P b o=o ∨ ∃ f as,o.op = .call f as∧((tN P b o).op = .callN f as∨(tN P b o).op = .callT f as):=by
  unfold tN
  split
  · rename_i f a e
    exact .inr ⟨f,a,e,.inl rfl⟩
  · rename_i f a e
    refine .inr ⟨f,a,e,?_⟩
    split
    · exact .inr rfl
    · exact .inl rfl
  · rename_i f a e
    by_cases hp:zi4o P f a=true
    · exact .inr ⟨f,a,e,.inr (by simp [hp])⟩
    · refine .inl ?_
      rw [if_neg hp,← e]
  · exact .inl rfl
theorem zife {P:Program} {op:AOp} {f:Opd} {as:List Opd} (hop:op = .callN f as∨op = .callT f as) {t:List DV} {h h':List AObj} {v:DV} (ho:outA P op t h v h') :
    ∃ g first captured,ev t f = .fn (.func g) first captured∧((zmwk P g (first++as.map (ev t)++captured) h v∧h'=h)∨zwy1 P g (first++as.map (ev t)++captured) h (fun d k=>d=v∧k=h')):=by
  rcases hop with rfl|rfl
  · simp only [outA] at ho
    split at ho<;>try (exact ho.elim)
    rename_i g first captured he
    exact ⟨g,first,captured,he,ho.imp id fun q=>q.1⟩
  · simp only [outA] at ho
    split at ho<;>try (exact ho.elim)
    rename_i g first captured he
    refine ⟨g,first,captured,he,ho.imp id fun ⟨i,r,l,l',_,q1,q2,q3⟩ => ?_⟩
    rw [q2]
    exact q3 _ q1
theorem zuor {al:List AOper} (hc:zp5p (zjj7 P ops) ops.toList=some al) {b:Nat} {j:Nat} {ao:AOper} (hj:(al.map (tN P b))[j]? = some ao) {st:St} {v:DV} {h':List AObj} (hs:zgbp P ao st v h') {a:Act} {w:World} (hr:SR X0 base E0 w0 st a w)
    {K:Act→World→Prop} (hK : ∀ a' w',SR X0 base E0 w0 ⟨putT st.t ao.d v,h'⟩ a' w'→(∀ c,(∃ o,X0 c o)→w'.heap[c]? = w.heap[c]?)→(∃ v',a'=a.put ao.d v')→K a' w'):wpOp P ops Q j K a w:=by
  rw [List.getElem?_map] at hj
  obtain ⟨a0,hj0,rfl⟩:=y01.1 hj
  rcases z5ww P b a0 with e|⟨f,as,eo,en⟩
  · rw [e] at hs hK
    exact zozp hc hj0 hs hr hK
  rw [tN_d] at hK
  have hlen:=zoh1 hc
  have hjl:j<al.length:=(y0a.1 hj0).1
  have hjs:j<ops.size:=by simpa [hlen] using hjl
  obtain ⟨ao',h1,hao⟩:=zsyb hc j ops[j] (by simp [hjs])
  rw [hj0] at h1; simp at h1; subst h1
  unfold wpOp
  rw [Array.getElem?_eq_getElem hjs]
  simp only
  generalize ops[j]=o at hao
  obtain ⟨E,hh,hsz,hrep,hdef,ht⟩:=hr
  obtain ⟨hco1,hco2,hco3⟩:=zz0x hao
  have next : ∀ (v':Value) (w':World) (E':Env),HeapRel X0 base w' h' E'→Rep E' (FX X0 E') w' v' v→Trans X0 base E w E' w'→K (a.put o.dst v') w':=by
    intro v' w' E' g1 g2 g3
    obtain ⟨p1,p2⟩:=zt4v hsz (g3.repL hrep) g2 o.dst rfl
    rw [hco2] at hK
    exact hK _ _ ⟨E',g1,p1,p2,by rw [zhny]; exact hdef.mono g3.others,ht.trans g3⟩ (fun c ⟨o,hx⟩=>(g3.frame c (hh.x0 c o hx).1 (hh.x0 c o hx).2).1) ⟨v',rfl⟩
  unfold zgbp at hs
  rw [tN_g] at hs
  split at hs
  · rename_i hg
    have hw:Region.wanted o (yielded ops a.tmps)=true:=by
      rcases zspy (X0:=X0) hao hsz hrep (zh5e (a:=True) (b:=False) (.inl ⟨hg,trivial⟩)) with ⟨h,_⟩|⟨_,h⟩
      · exact h
      · exact h.elim
    rw [if_pos hw]
    left
    obtain ⟨gg,first,captured,hev,hs⟩:=zife en hs
    rcases hco3 with ⟨c,f0,f',as',c1,c2,c3,c4,e5⟩|⟨_,hnc⟩|hbad
    · rw [eo] at e5
      simp only [AOp.call.injEq] at e5
      obtain ⟨rfl,rfl⟩:=e5
      obtain ⟨vs,hrun,hra⟩:=zbqg c1 c2 c3 c4 (fun x y _ ho=>zc82 hrep x y ho) hev
      unfold Oper.wp
      rcases hs with ⟨hp,rfl⟩|hcs
      · rcases hp.calls hh hra with ⟨he,hcl⟩|⟨v0,w0',he,v',e1,e2,e3,e4⟩
        · rw [hrun _ _ he]
          refine hcl.mono fun e w' ⟨v',e1,e2,e3,e4⟩ => ?_
          subst e1
          exact next v' w' E e2 e3 e4
        · rw [hrun _ _ he]
          cases e1
          exact next v0 w0' E e2 e3 e4
      · rcases hcs X0 base w E vs hh hra with ⟨he,hcl⟩|⟨v0,w0',he,v',r',k,E',e1,⟨e2,e3⟩,e4,e5,e6⟩
        · rw [hrun _ _ he]
          refine hcl.mono fun e w' ⟨v',r',k,E',e1,⟨e2,e3⟩,e4,e5,e6⟩ => ?_
          subst e1 e2 e3
          exact next v' w' E' e4 e5 e6
        · rw [hrun _ _ he]
          subst e2 e3
          cases e1
          exact next v0 w0' E' e4 e5 e6
    · rw [eo] at hnc; simp [AOp.isCall] at hnc
    · rw [eo] at hbad; simp [zrr3] at hbad
  · rename_i hg
    obtain ⟨rfl,rfl⟩:=hs
    have hw:Region.wanted o (yielded ops a.tmps)=false:=by
      rcases zspy (X0:=X0) hao hsz hrep (zh5e (a:=False) (b:=True) (.inr ⟨hg,trivial⟩)) with ⟨_,h⟩|⟨h,_⟩
      · exact h.elim
      · exact h
    rw [if_neg (by simp [hw])]
    exact next undef w E hh zids (.refl _ _ _ _)
  · exact hs.elim
def QR (as:List Nat) (al:List AOper) (D:Nat→Nat→Prop) (i j:Nat):Prop:=i≠j∧z3i0 as i j=false∧(z3i0 as j i=true∨z27y (al.getD i default) (al.getD j default)=true ∨ ∃ p,zsbi as al i j=some p∧D p.1 p.2)
def QRA (as:List Nat) (al:List AOper) (D:Nat→Nat→Prop) (pend:Option Nat) (i j:Nat):Prop:=i≠j∧z3i0 as i j=false∧(z3i0 as j i=true∨z27y (al.getD i default) (al.getD j default)=true∨(∃ p,zsbi as al i j=some p∧D p.1 p.2)∨(pend=some j ∧ ∀ k,k<al.length→z3i0 as k j=true→z3i0 as k i=true))
theorem z9zd {as:List Nat} {al:List AOper} {D:Nat→Nat→Prop} {pend:Option Nat} : ∀ {l:List Nat},zrwp as al pend l=true→(∀ a b,(⟨none,none,.apart (.t a) (.t b)⟩:AOper) ∈ chks as al l→D a b)→l.Pairwise (QRA as al D pend)
  | [],_,_ => .nil
  | i::r,h,hD=>by
    simp only [zrwp,y03,y0c] at h
    refine y0b.2 ⟨fun j hj => ?_,z9zd h.2 (fun a b hm=>hD a b (by rw [chks]; exact List.mem_append_right _ hm))⟩
    have:=h.1 j hj
    simp only [zm0q,y03,y0g,bne_iff_ne,ne_eq,y0f] at this
    refine ⟨this.1.1,this.1.2,?_⟩
    by_cases han:z3i0 as j i=true
    · exact .inl han
    refine .inr ?_
    by_cases hsw:z27y (al.getD i default) (al.getD j default)=true
    · exact .inl hsw
    refine .inr ?_
    rcases this.2 with (h|h)|h
    · exact absurd h han
    · refine Or.imp_right (fun q=>q) (Or.inl ?_)
      split at h
      · rename_i a b e1 e2
        simp only [y0g] at h
        rcases h with h|h
        · rw [y02,y02,e1,e2] at hsw
          exact absurd h hsw
        · obtain ⟨p,hp⟩:=Option.isSome_iff_exists.1 h
          refine ⟨p,hp,hD _ _ ?_⟩
          rw [chks]
          refine List.mem_append_left _ (List.mem_filterMap.2 ⟨j,hj,?_⟩)
          have hc:(z3i0 as j i||z27y (al.getD i default) (al.getD j default))=false:=Bool.or_eq_false_iff.2 ⟨Bool.eq_false_iff.2 han,Bool.eq_false_iff.2 hsw⟩
          rw [hc,hp]; rfl
      · simp at h
    · simp only [y03,beq_iff_eq,y0c,y0h,y0g,y0f] at h
      refine .inr ⟨h.1,fun k hk hka => ?_⟩
      rcases h.2 k hk with q|q
      · rw [hka] at q; simp at q
      · exact q
theorem zjvu {as:List Nat} {al:List AOper} {rd wr a b:Nat} (h:z5vb as al rd wr=some (a,b)) : ∃ res,Dyn (al.getD rd default) (al.getD wr default) a b res ∧
    ∀ k o,al[k]? = some o→(o.d=some a→z3i0 as rd k=true)∧(o.d=some b→if res=true then k=wr else z3i0 as wr k=true):=by
  unfold z5vb at h
  split at h<;>try (simp at h; done)
  rename_i x y e1 e2
  split at h<;>try (simp at h; done)
  rename_i a' b' res h1 h2
  obtain ⟨hc,h⟩:=y0l.1 h
  simp only [Option.some.injEq,Prod.mk.injEq] at h
  obtain ⟨rfl,rfl⟩:=h
  simp only [y03,y0c,y0h] at hc
  obtain ⟨⟨⟨c1,c2⟩,c3⟩,c4⟩:=hc
  rw [y02,y02,e1,e2]
  simp only [zlj8,y03] at c1
  refine ⟨res,⟨h1,h2,fun i e => ?_,fun i e => ?_,fun e => ?_,fun e e' => ?_⟩,fun k o hk => ?_⟩
  · have:=c1.1
    simp only [y0i] at e
    rw [e] at this
    simp at this
    exact ⟨this.1,this.2⟩
  · have:=c1.2
    simp only [y0i] at e
    rw [e] at this
    simp at this
    exact this
  · simp only [y0i] at e
    rw [e] at c2; simp at c2
  · simp only [y0i] at e'
    rw [e,e'] at c3; simp at c3
  · have hlt:k<al.length:=(y0a.1 hk).1
    have:=c4 k hlt
    rw [hk] at this
    simp only [y03,y0g,bne_iff_ne,ne_eq] at this
    refine ⟨fun e=>this.1.resolve_left (fun g=>g e),fun e => ?_⟩
    have q:=this.2.resolve_left (fun g=>g e)
    split at q
    · rename_i hr; rw [if_pos hr]; simpa using q
    · rename_i hr; rw [if_neg hr]; exact q
theorem zfwk (hQ : ∀ st a w,Φ st→SR X0 base E0 w0 st a w→Q .normal a w) {D:Nat→Nat→Prop} (hD : ∀ a b st',D a b→Φ st'→z87v (st'.t.getD a .junk) (st'.t.getD b .junk)=true) {al0:List AOper} (hc:zp5p (zjj7 P ops) ops.toList=some al0) {b:Nat} {al:List AOper} (hal:al=al0.map (tN P b)) (hd:zu7l ops.toList al=true) :
    ∀ (fuel:Nat) (rem:List Nat) (listed:Array Bool) (st:St) (a:Act) (w:World),rem.length≤fuel→rem.Pairwise (QR (ancs ops.toList) al D)→(∀ k ∈ rem,k<ops.size)→listed.size=ops.size →
      (∀ k,k<ops.size→(listed.getD k true=false↔k ∈ rem)) →
      (∀ m,m<ops.size→m ∉ rem → ∀ k,z3i0 (ancs ops.toList) m k=true→k ∉ rem) →
      zetq P (rem.map fun k=>al.getD k default) st Φ→SR X0 base E0 w0 st a w→wpAny P .any ops Q fuel listed a w:=by
  have hlen:al.length=ops.toList.length:=by rw [hal,y0s]; exact zoh1 hc
  simp only [zu7l,y03] at hd
  obtain ⟨⟨⟨hd,_⟩,_⟩,_⟩:=hd
  simp only [y0c,y0h,y03] at hd
  -- what the check says of an operation
  have fact : ∀ j o,ops[j]? = some o→(∀ e ∈ o.after,Region.binds .any e=true→e.on<j∧z3i0 (ancs ops.toList) j e.on=true) ∧
      (∀ k,k<ops.size→z3i0 (ancs ops.toList) j k=true → ∃ e ∈ o.after,Region.binds .any e=true∧(e.on=k∨z3i0 (ancs ops.toList) e.on k=true)):=by
    intro j o ho
    have hjs:j<ops.size:=(Array.getElem?_eq_some_iff.1 ho).1
    obtain ⟨_,g1⟩:=hd j (by simpa using hjs)
    have ho':ops.toList[j]? = some o:=by simpa using ho
    rw [ho'] at g1
    simp only [Option.map_some,y0i,y03,y0c,y0g,y0f,decide_eq_true_eq,List.any_eq_true,beq_iff_eq,y0h] at g1
    refine ⟨fun e he hb => ?_,fun k hks hk => ?_⟩
    · rcases g1.1 e (by simpa using he) with h|h
      · rw [hb] at h; simp at h
      · exact h
    · have g12:=g1.2 k (by simpa using hks)
      rw [hk] at g12
      obtain ⟨e,he,hb,h⟩:=g12.resolve_left (by simp)
      exact ⟨e,by simpa using he,hb,by simpa using h⟩
  have unl : ∀ {listed:Array Bool} {rem:List Nat},listed.size=ops.size→(∀ k,k<ops.size→(listed.getD k true=false↔k ∈ rem)) → ∀ k,k<ops.size→k ∉ rem→listed.getD k false=true:=by
    intro listed rem hsz hl k hk hn
    have hk':k<listed.size:=by omega
    have:=mt (hl k hk).1 hn
    simp [hk'] at this ⊢
    exact this
  have lis : ∀ {listed:Array Bool} {rem:List Nat},listed.size=ops.size→(∀ k,k<ops.size→(listed.getD k true=false↔k ∈ rem)) → ∀ k,k<ops.size→listed.getD k false=true→k ∉ rem:=by
    intro listed rem hsz hl k hk hn hm
    have hk':k<listed.size:=by omega
    have:=(hl k hk).2 hm
    simp [hk'] at this hn
    rw [this] at hn; simp at hn
  -- the first one that is left is ready
  have some_ready : ∀ {listed:Array Bool} {k:Nat} {rem:List Nat},(k::rem).Pairwise (QR (ancs ops.toList) al D)→(∀ i ∈ k::rem,i<ops.size)→listed.size=ops.size→(∀ i,i<ops.size→(listed.getD i true=false↔i ∈ k::rem))→k ∈ Region.ready .any ops listed:=by
    intro listed k rem hp hb hsz hl
    have hk:k<ops.size:=hb k (by simp)
    refine mem_ready.2 ⟨(hl k hk).2 (by simp),ops[k],by simp [hk],fun e he hbd => ?_⟩
    obtain ⟨hlt,han⟩:=(fact k ops[k] (by simp [hk])).1 e he hbd
    refine unl hsz hl e.on (by omega) fun hm => ?_
    simp only [List.mem_cons] at hm
    rcases hm with hm|hm
    · omega
    · have:=((y0b.1 hp).1 _ hm).2.1
      rw [this] at han; simp at han
  intro fuel
  induction fuel with
  | zero =>
    intro rem listed st a w hf hp hb hsz hl hcl hs hr
    have hnil:rem=[]:=by cases rem with|nil=>rfl|cons x l=>simp at hf
    subst hnil
    refine ⟨?_,hQ st a w hs hr⟩
    rw [List.eq_nil_iff_forall_not_mem]
    intro j hj
    obtain ⟨h0,o,ho,_⟩:=mem_ready.1 hj
    have:=(hl j (Array.getElem?_eq_some_iff.1 ho).1).1 h0
    simp at this
  | succ fuel ih =>
    intro rem listed st a w hf hp hb hsz hl hcl hs hr
    refine ⟨fun hnr => ?_,fun j hj => ?_⟩
    · cases rem with
      | nil=>exact hQ st a w hs hr
      | cons k rem =>
        have:=some_ready hp hb hsz hl
        rw [hnr] at this; simp at this
    · obtain ⟨h0,o,ho,hall⟩:=mem_ready.1 hj
      have hjs:j<ops.size:=(Array.getElem?_eq_some_iff.1 ho).1
      have hjr:j ∈ rem:=(hl j hjs).1 h0
      obtain ⟨l1,l2,rfl⟩:=y0o hjr
      obtain ⟨f1,f2⟩:=fact j o ho
      have hanc : ∀ k,z3i0 (ancs ops.toList) j k=true→k ∉ l1++j::l2:=by
        intro k hk
        by_cases hks:k<ops.size
        case neg=>exact fun hm=>hks (hb k hm)
        obtain ⟨e,he,hbd,h⟩:=f2 k hks hk
        have hlt:=(f1 e he hbd).1
        have hne:=lis hsz hl e.on (by omega) (hall e he hbd)
        rcases h with h|h
        · subst h; exact hne
        · exact hcl e.on (by omega) hne k h
      rw [y09] at hp
      obtain ⟨p1,p2,p3⟩:=hp
      rw [y0b] at p2
      have hfront:zetq P (al.getD j default::((l1++l2).map fun k=>al.getD k default)) st Φ:=by
        rw [y0t]
        refine zamn _ st (fun pre x post hx => ?_) (by simpa using hs)
        obtain ⟨pre',rest',hl1,e1,e2⟩:=y0v.1 hx
        obtain ⟨k,post',rfl,rfl,rfl⟩:=y0w.1 e2
        subst hl1
        have hk:k ∈ pre'++k::post':=by simp
        have hkj:=p3 k hk j (by simp)
        rcases hkj.2.2 with h|h|⟨p,hp,hDp⟩
        · exact absurd (by simp) (hanc k h)
        · exact .inl h
        · -- what comes later
          have later : ∀ m,m ∈ post'++l2→z3i0 (ancs ops.toList) k m=false∧z3i0 (ancs ops.toList) j m=false∧m≠k∧m≠j∧m<ops.size:=by
            intro m hm
            have hm1:QR (ancs ops.toList) al D k m:=by
              rcases y07.1 hm with hm|hm
              · exact (y0b.1 (y09.1 p1).2.1).1 m hm
              · exact p3 k hk m (by simp [hm])
            have hmr:m ∈ (pre'++k::post')++j::l2:=by
              rcases y07.1 hm with hm|hm<;>simp [hm]
            refine ⟨hm1.2.1,?_,fun e=>hm1.1 e.symm,fun e => ?_,hb m hmr⟩
            · cases hjm:z3i0 (ancs ops.toList) j m with
              | false=>rfl
              | true=>exact absurd hmr (hanc m hjm)
            · subst e
              rcases y07.1 hm with hm|hm
              · exact (p3 m (by simp [hm]) m (by simp)).1 rfl
              · exact (p2.1 m hm).1 rfl
          have fin : ∀ rd wr,z5vb (ancs ops.toList) al rd wr=some (p.1,p.2)→((k=rd∧j=wr)∨(k=wr∧j=rd))→zed0 Φ (al.getD k default) (al.getD j default) ((post'.map fun k=>al.getD k default)++(l2.map fun k=>al.getD k default)):=by
            intro rd wr hdp hkw
            obtain ⟨res,hdyn,hass⟩:=zjvu hdp
            refine .inr ⟨_,_,p.1,p.2,res,hdyn,?_,fun o ho => ?_,fun st' hst'=>hD _ _ st' hDp hst'⟩
            · rcases hkw with ⟨rfl,rfl⟩|⟨rfl,rfl⟩
              · exact .inl ⟨rfl,rfl⟩
              · exact .inr ⟨rfl,rfl⟩
            · rw [← y0t] at ho
              obtain ⟨m,hm,rfl⟩:=y0x.1 ho
              obtain ⟨g1,g2,g3,g4,g5⟩:=later m hm
              have hml:m<al.length:=by rw [hlen]; simpa using g5
              obtain ⟨q1,q2⟩:=hass m (al.getD m default) (by simp [y04 hml])
              rcases hkw with ⟨rfl,rfl⟩|⟨rfl,rfl⟩
              · refine ⟨fun e=>by rw [q1 e] at g1; simp at g1,fun e => ?_⟩
                have:=q2 e
                split at this
                · exact g4 this
                · rw [this] at g2; simp at g2
              · refine ⟨fun e=>by rw [q1 e] at g2; simp at g2,fun e => ?_⟩
                have:=q2 e
                split at this
                · exact g3 this
                · rw [this] at g1; simp at g1
          unfold zsbi at hp
          split at hp
          · rename_i p' hp'
            simp at hp; subst hp
            exact fin k j hp' (.inl ⟨rfl,rfl⟩)
          · exact fin j k hp (.inr ⟨rfl,rfl⟩)
      obtain ⟨v,h',hst,hrest⟩:=zow1.1 hfront
      have hjl:j<al.length:=by rw [hlen]; simpa using hjs
      have hjr1:j ∉ l1:=fun hm=>(p3 j hm j (by simp)).1 rfl
      have hjr2:j ∉ l2:=fun hm=>(p2.1 j hm).1 rfl
      refine zuor hc (b:=b) (j:=j) (ao:=al.getD j default) (by rw [← hal]; simp [y04 hjl]) hst hr fun a' w' hr' _ _ => ?_
      refine ih (l1++l2) (listed.setIfInBounds j true) _ a' w' (by simp at hf ⊢; omega) ?_ (fun k hk=>hb k (by simp at hk ⊢; rcases hk with h|h<;>simp [h])) (by simpa using hsz) (fun k hk => ?_) (fun m hm hn k hk => ?_) hrest hr'
      · rw [y09]
        exact ⟨p1,p2.2,fun x hx y hy=>p3 x hx y (by simp [hy])⟩
      · by_cases e:j=k
        · subst e
          have hj':j<listed.size:=by omega
          simp [hj',hjr1,hjr2]
        · rw [getD_set_ne true e,hl k hk]
          simp [show ¬ k=j from fun h=>e h.symm]
      · have key:k ∉ l1++j::l2:=by
          by_cases e:m=j
          · subst e; exact hanc k hk
          · exact hcl m hm (by simp at hn ⊢; exact ⟨hn.1,e,hn.2⟩) k hk
        simp at key ⊢
        exact ⟨key.1,key.2.2⟩
theorem zkcf {P:Program} {Φ:St→Prop} : ∀ (l r:List AOper) (st:St),zetq P (l++r) st Φ→zetq P l st (fun st'=>zetq P r st' Φ)
  | [],r,st,h=>h
  | o::l,r,st,h=>by
    obtain ⟨v,h',h1,h2⟩:=zow1.1 (show zetq P (o::(l++r)) st Φ from h)
    exact zow1.2 ⟨v,h',h1,zkcf l r _ h2⟩
def zd7u (o:AOper):Prop := ∃ a b,o=⟨none,none,.apart (.t a) (.t b)⟩
theorem za6v {P:Program} {Φ:St→Prop} : ∀ (r:List AOper) (st:St),(∀ o ∈ r,zd7u o)→zetq P r st Φ→Φ st ∧ ∀ a b,(⟨none,none,.apart (.t a) (.t b)⟩:AOper) ∈ r→z87v (st.t.getD a .junk) (st.t.getD b .junk)=true
  | [],st,_,h=>⟨h,fun a b hm=>by simp at hm⟩
  | o::r,st,hc,h=>by
    obtain ⟨v,h',h1,h2⟩:=zow1.1 h
    obtain ⟨a,b,rfl⟩:=hc o (by simp)
    simp only [zgbp,goes,outA,evOp,ev] at h1
    obtain ⟨hap,h1⟩:=y0l.1 h1
    simp only [Option.some.injEq,Prod.mk.injEq] at h1
    obtain ⟨rfl,rfl⟩:=h1
    obtain ⟨g1,g2⟩:=za6v r _ (fun o ho=>hc o (by simp [ho])) h2
    refine ⟨g1,fun a' b' hm => ?_⟩
    rcases List.mem_cons.1 hm with e|hm
    · simp at e; obtain ⟨rfl,rfl⟩:=e; exact hap
    · exact g2 a' b' hm
theorem zbjt {as:List Nat} {al:List AOper} : ∀ (l:List Nat),∀ o ∈ chks as al l,zd7u o
  | [],o,h=>by simp [chks] at h
  | i::r,o,h=>by
    rw [chks] at h
    rcases y07.1 h with h|h
    · obtain ⟨j,_,hj⟩:=List.mem_filterMap.1 h
      split at hj
      · simp at hj
      · obtain ⟨p,_,rfl⟩:=y01.1 hj
        exact ⟨p.1,p.2,rfl⟩
    · exact zbjt r o h
end
end Go.Am
set_option linter.unusedSimpArgs false
set_option linter.unusedVariables false
namespace Go.Am
open Go.RowKit
section
variable {P:Program} {X0:Forb} {base:Nat} {E0:Env} {w0:World} {ops:Array Oper} {Q:Exit→Act→World→Prop} {Φ:St→Prop}
def XP (X0:Forb) (b:Nat):Forb:=fun c o=>X0 c o∨c=b
structure Pend (X0:Forb) (base:Nat) (w0:World) (zs:List DV) (d0 b:Nat) (a:Act) (w:World):Prop where
  cells : ∃ (arr:Array Value) (t:TypeId),w.heap[b]? = some (.cells arr t (0,0)) ∧ ∀ E X W,RepA E X W arr.toList zs
  ptr:d0<a.tmps.size→a.tmps.getD d0 undef = .pointer (some ⟨b,0,none⟩)
  b0:base≤b
  bw:w0.heap.size≤b
  x : ∀ o,¬ X0 b o
theorem zq2s {j d0:Nat} {o:Oper} {e:TypeId} (ho:ops[j]? = some o) (hop:o.op = .alloc e) (hg:o.guard=none) (hd:o.dst=some d0) {zs:List DV} (hz:zw9d P e=some zs) {a:Act} {w:World} {K:Act→World→Prop}
    (hK : ∀ z:Value,(∀ E X (w':World),RepA E X w' z.cells.toList zs)→K (a.put (some d0) (.pointer (some ⟨w.heap.size,0,none⟩))) (w.alloc (.cells z.cells e))):wpOp P ops Q j K a w:=by
  obtain ⟨z,h1,h2⟩:=z67w hz w
  unfold wpOp
  rw [ho]
  simp only
  rw [if_pos (by simp [Region.wanted,hg])]
  left
  unfold Oper.wp
  have hrun:(Instr.alloc e true (.tuple #[])).run P w = .ok (.pointer (some ⟨w.heap.size,0,none⟩)) (w.alloc (.cells z.cells e)):=by simp [Instr.alloc,h1,newVar,newRow]
  simp [hop,execOp,hrun,hd,Oper.upon]
  exact hK z h2
theorem z8tj {E:Env} {b L:Nat} {c o:Nat}:FX X0 (E++[some (b,L)]) c o↔FX (XP X0 b) E c o:=by
  constructor
  · rintro (q|⟨id,M,q⟩)
    · exact .inl (.inl q)
    · by_cases hi:id<E.length
      · rw [y08 hi] at q; exact .inr ⟨id,M,q⟩
      · rw [y0d (by omega)] at q
        cases hz:id-E.length with
        | zero=>rw [hz] at q; simp at q; exact .inl (.inr q.1.symm)
        | succ n=>rw [hz] at q; simp at q
  · rintro ((q|rfl)|⟨id,M,q⟩)
    · exact .inl q
    · exact .inr ⟨E.length,L,by simp⟩
    · exact .inr ⟨id,M,by rw [y08 (y0a.1 q).1]; exact q⟩
theorem zt8v {X X':Forb} {w:World} (h : ∀ b o,X' b o→X b o):Keep X w X' w:=⟨fun _ _ hc hx=>⟨hc,fun q=>hx (h _ _ q)⟩⟩
theorem zbhj {E E':Env} {w:World}:ERel E w (E++E') w :=
  ⟨by simp,fun id hid b L q=>⟨b,L,by rwa [y08 hid] at q,y0k _,fun _=>⟨rfl,fun c t fr hc=>⟨c,t,fr,hc,rfl⟩⟩⟩⟩
theorem z399 {st:St} {a:Act} {w:World} (hr:SR X0 base E0 w0 st a w) {z:Value} {e:TypeId} {zs:List DV} (hz : ∀ E X (w':World),RepA E X w' z.cells.toList zs) {d0:Nat} :
    SR (XP X0 w.heap.size) base E0 w0 ⟨putT st.t (some d0) .junk,st.h⟩ (a.put (some d0) (.pointer (some ⟨w.heap.size,0,none⟩))) (w.alloc (.cells z.cells e)) ∧
    Pend X0 base w0 zs d0 w.heap.size (a.put (some d0) (.pointer (some ⟨w.heap.size,0,none⟩))) (w.alloc (.cells z.cells e)):=by
  obtain ⟨E,hh,hsz,hrep,hdef,ht⟩:=hr
  have hlive : ∀ {id b L:Nat},E[id]? = some (some (b,L))→b<w.heap.size:=fun hE=>by
    obtain ⟨_,_,_,_,_,_,g,_⟩:=hh.live hE
    exact (Array.getElem?_eq_some_iff.1 g).1
  have ht1:=zflh hh (.cells z.cells e)
  have hh1:=hh.alloc (.cells z.cells e)
  have hsz1:(w.alloc (.cells z.cells e)).heap.size=w.heap.size+1:=by simp
  have hw0:w0.heap.size≤w.heap.size:=ht.others.size
  have hkeep:Keep (FX X0 E) w (FX (XP X0 w.heap.size) E) (w.alloc (.cells z.cells e)):=⟨fun ad v hc hx=>by
    obtain ⟨q1,q2⟩:=ht1.keep.cell ad v hc hx
    refine ⟨q1,fun q => ?_⟩
    rcases q with (q|q)|q
    · exact q2 (.inl q)
    · have:=z4pf hc; omega
    · exact q2 (.inr q)⟩
  have hmono : ∀ {v d},Rep E (FX X0 E) w v d→Rep E (FX (XP X0 w.heap.size) E) (w.alloc (.cells z.cells e)) v d:=fun r=>r.mono ht1.env hkeep
  obtain ⟨p1,p2⟩:=zt4v hsz (fun i=>hmono (hrep i)) (Rep.junk (.pointer (some ⟨w.heap.size,0,none⟩))) (some d0) (a:=a) rfl
  refine ⟨⟨E,⟨hh.len,?_,hh1.size,fun id cs hid => ?_,hh.dead,hh.apart⟩,p1,p2,by rw [zhny]; exact hdef.mono ht1.others,?_⟩,⟨⟨z.cells,e,heap_alloc_new w _,hz⟩,?_,hh.size,hw0,fun o q=>by have:=(hh.x0 _ _ q).1; omega⟩⟩
  · rintro c o (q|rfl)
    · exact ⟨by rw [hsz1]; have:=(hh.x0 c o q).1; omega,(hh.x0 c o q).2⟩
    · exact ⟨by omega,fun id L q=>by have:=hlive q; omega⟩
  · obtain ⟨b,arr,t,g1,g2,g3,g4,g5⟩:=hh.cells id cs hid
    exact ⟨b,arr,t,g1,g2,by rw [Below.heap_alloc w _ b (Array.getElem?_eq_some_iff.1 g3).1]; exact g3,g4,fun i h1 h2=>hmono (g5 i h1 h2)⟩
  · have ht2:=ht.trans ht1
    refine ⟨ht2.env,⟨fun ad v hc hx => ?_⟩,ht2.below,ht2.others,ht2.frame⟩
    have hcl:=z4pf hc
    have hx0:¬ FX X0 E0 ad.block ad.off:=fun q=>hx (by
      rcases q with q|q
      · exact .inl (.inl q)
      · exact .inr q)
    obtain ⟨q1,q2⟩:=ht2.keep.cell ad v hc hx0
    refine ⟨q1,fun q => ?_⟩
    rcases q with (q|q)|q
    · exact q2 (.inl q)
    · omega
    · exact q2 (.inr q)
  · intro hlt
    have hlt':d0<a.tmps.size:=by simpa [Act.put] using hlt
    simp [Act.put,hlt']
theorem zs4t {t:List DV} {h:List AObj} {a:Act} {w:World} {b d0:Nat} {zs:List DV} (hr:SR (XP X0 b) base E0 w0 ⟨putT t (some d0) .junk,h⟩ a w) (hp:Pend X0 base w0 zs d0 b a w) :
    SR X0 base E0 w0 ⟨putT t (some d0) (.mp h.length zs.length 0),h++[.cells zs]⟩ a w:=by
  obtain ⟨E,hh,hsz,hrep,hdef,ht⟩:=hr
  obtain ⟨⟨arr,ty,hb,hz⟩,hptr,hb0,hbw,hx⟩:=hp
  have hlen:E.length=h.length:=hh.len
  have hnl:=fun (id L:Nat)=>(hh.x0 b 0 (.inr rfl)).2 id L
  have hmono : ∀ {v d},Rep E (FX (XP X0 b) E) w v d→Rep (E++[some (b,zs.length)]) (FX X0 (E++[some (b,zs.length)])) w v d:=fun r=>r.mono zbhj (zt8v fun _ _ q=>z8tj.1 q)
  have hE : ∀ {id c L:Nat},(E++[some (b,zs.length)])[id]? = some (some (c,L))→(id<E.length∧E[id]? = some (some (c,L)))∨(id=E.length∧c=b∧L=zs.length):=fun {id c L} q=>by
    by_cases hi:id<E.length
    · rw [y08 hi] at q; exact .inl ⟨hi,q⟩
    · rw [y0d (by omega)] at q
      cases hz:id-E.length with
      | zero=>rw [hz] at q; simp at q; exact .inr ⟨by omega,q.1.symm,q.2.symm⟩
      | succ n=>rw [hz] at q; simp at q
  have hzl:arr.size=zs.length:=by have:=(hz E (FX X0 E) w).1; simpa using this
  refine ⟨E++[some (b,zs.length)],⟨by simp [hlen],?_,hh.size,fun id cs hid => ?_,fun id hid => ?_,fun id id' c L c' L' hne h1 h2 => ?_⟩,?_,fun i => ?_,hdef,?_⟩
  · intro c o q
    refine ⟨(hh.x0 c o (.inl q)).1,fun id L q' => ?_⟩
    rcases hE q' with ⟨_,q'⟩|⟨_,rfl,_⟩
    · exact (hh.x0 c o (.inl q)).2 id L q'
    · exact hx o q
  · by_cases hi:id<h.length
    · rw [y08 hi] at hid
      obtain ⟨c,arr',t',g1,g2,g3,g4,g5⟩:=hh.cells id cs hid
      exact ⟨c,arr',t',by rw [y08 (by omega)]; exact g1,g2,g3,g4,fun i h1 h2=>hmono (g5 i h1 h2)⟩
    · rw [y0d (by omega)] at hid
      cases hzz:id-h.length with
      | succ n=>rw [hzz] at hid; simp at hid
      | zero =>
        rw [hzz] at hid; simp at hid; subst hid
        refine ⟨b,arr,ty,?_,hb0,hb,by omega,fun i h1 h2 => ?_⟩
        · rw [y0d (by omega),show id-E.length=0 by omega]; rfl
        · have:=(hz (E++[some (b,zs.length)]) (FX X0 (E++[some (b,zs.length)])) w).2 i (by simpa using h2) h1
          simpa using this
  · by_cases hi:id<h.length
    · rw [y08 hi] at hid
      rw [y08 (by omega)]; exact hh.dead id hid
    · rw [y0d (by omega)] at hid
      cases hzz:id-h.length with
      | succ n=>rw [hzz] at hid; simp at hid
      | zero=>rw [hzz] at hid; simp at hid
  · rcases hE h1 with ⟨_,q1⟩|⟨q1,q1',_⟩<;>rcases hE h2 with ⟨_,q2⟩|⟨q2,q2',_⟩
    · exact hh.apart _ _ _ _ _ _ hne q1 q2
    · rw [q2']; intro e; exact hnl id L (by rw [← e]; exact q1)
    · rw [q1']; intro e; exact hnl id' L' (by rw [e]; exact q2)
    · omega
  · simpa [putT] using hsz
  · by_cases hi:d0=i
    · subst hi
      by_cases hlt:d0<a.tmps.size
      case neg =>
        have hq:t.length≤d0:=by
          have:=hsz
          simp [putT] at this
          omega
        have:(putT t (some d0) (.mp h.length zs.length 0)).getD d0 .junk = .junk:=by
          simp only [putT,y02]
          rw [y0e (by simpa using hq)]; rfl
        rw [this]; exact .junk _
      rw [hptr hlt]
      rcases znkx (t:=t) (i:=d0) (v := .mp h.length zs.length 0) with e|e
      · rw [e,← hlen]
        exact ztt2 (b:=b) (L:=zs.length) (by simp) rfl
      · rw [e]; exact .junk _
    · have:=hrep i
      rw [zy47 (by simpa using hi)] at this
      rw [zy47 (by simpa using hi)]
      exact hmono this
  · refine ⟨ht.env.trans zbhj,⟨fun ad v hc hx' => ?_⟩,ht.below,ht.others,fun c hc hl => ?_⟩
    · have hcl:=z4pf hc
      obtain ⟨q1,q2⟩:=ht.keep.cell ad v hc (fun q=>by
        rcases q with (q|q)|q
        · exact hx' (.inl q)
        · omega
        · exact hx' (.inr q))
      exact ⟨q1,fun q=>q2 (z8tj.1 q)⟩
    · obtain ⟨q1,q2⟩:=ht.frame c hc hl
      refine ⟨q1,fun id L q => ?_⟩
      rcases hE q with ⟨_,q⟩|⟨_,rfl,_⟩
      · exact q2 id L q
      · omega
structure DF (ops:Array Oper):Prop where
  f1 : ∀ j o,ops[j]? = some o → ∀ e ∈ o.after,Region.binds .any e=true→e.on<j∧z3i0 (ancs ops.toList) j e.on=true
  f2 : ∀ j o,ops[j]? = some o → ∀ k,k<ops.size→z3i0 (ancs ops.toList) j k=true → ∃ e ∈ o.after,Region.binds .any e=true∧(e.on=k∨z3i0 (ancs ops.toList) e.on k=true)
theorem z2gx {al:List AOper} (hd:zu7l ops.toList al=true):DF ops:=by
  simp only [zu7l,y03] at hd
  obtain ⟨⟨⟨hd,_⟩,_⟩,_⟩:=hd
  simp only [y0c,y0h,y03] at hd
  have fact : ∀ j o,ops[j]? = some o→(∀ e ∈ o.after,Region.binds .any e=true→e.on<j∧z3i0 (ancs ops.toList) j e.on=true) ∧
      (∀ k,k<ops.size→z3i0 (ancs ops.toList) j k=true → ∃ e ∈ o.after,Region.binds .any e=true∧(e.on=k∨z3i0 (ancs ops.toList) e.on k=true)):=by
    intro j o ho
    have hjs:j<ops.size:=(Array.getElem?_eq_some_iff.1 ho).1
    obtain ⟨_,g1⟩:=hd j (by simpa using hjs)
    have ho':ops.toList[j]? = some o:=by simpa using ho
    rw [ho'] at g1
    simp only [Option.map_some,y0i,y03,y0c,y0g,y0f,decide_eq_true_eq,List.any_eq_true,beq_iff_eq,y0h] at g1
    refine ⟨fun e he hb => ?_,fun k hks hk => ?_⟩
    · rcases g1.1 e (by simpa using he) with h|h
      · rw [hb] at h; simp at h
      · exact h
    · have g12:=g1.2 k (by simpa using hks)
      rw [hk] at g12
      obtain ⟨e,he,hb,h⟩:=g12.resolve_left (by simp)
      exact ⟨e,by simpa using he,hb,by simpa using h⟩
  exact ⟨fun j o ho=>(fact j o ho).1,fun j o ho=>(fact j o ho).2⟩
theorem unl {listed:Array Bool} {U:List Nat} (hsz:listed.size=ops.size) (hl : ∀ k,k<ops.size→(listed.getD k true=false↔k ∈ U)) {k:Nat} (hk:k<ops.size) (hn:k ∉ U):listed.getD k false=true:=by
  have hk':k<listed.size:=by omega
  have:=mt (hl k hk).1 hn
  simp [hk'] at this ⊢
  exact this
theorem lis {listed:Array Bool} {U:List Nat} (hsz:listed.size=ops.size) (hl : ∀ k,k<ops.size→(listed.getD k true=false↔k ∈ U)) {k:Nat} (hk:k<ops.size) (hn:listed.getD k false=true):k ∉ U:=by
  intro hm
  have hk':k<listed.size:=by omega
  have:=(hl k hk).2 hm
  simp [hk'] at this hn
  rw [this] at hn; simp at hn
theorem zv1a (hf:DF ops) {listed:Array Bool} {k:Nat} {U:List Nat} (hk:k<ops.size) (hku:k ∈ U) (hw : ∀ i ∈ U,i≠k→z3i0 (ancs ops.toList) k i=false) (hsz:listed.size=ops.size) (hl : ∀ i,i<ops.size→(listed.getD i true=false↔i ∈ U)):k ∈ Region.ready .any ops listed:=by
  refine mem_ready.2 ⟨(hl k hk).2 hku,ops[k],by simp [hk],fun e he hbd => ?_⟩
  obtain ⟨hlt,han⟩:=hf.f1 k ops[k] (by simp [hk]) e he hbd
  refine unl hsz hl (by omega) fun hm => ?_
  rw [hw _ hm (by omega)] at han; simp at han
theorem zr1w (hf:DF ops) {listed:Array Bool} {U:List Nat} (hsz:listed.size=ops.size) (hl : ∀ i,i<ops.size→(listed.getD i true=false↔i ∈ U)) (hcl : ∀ m,m<ops.size→m ∉ U → ∀ k,z3i0 (ancs ops.toList) m k=true→k ∉ U) {j:Nat} (hj:j ∈ Region.ready .any ops listed) :
    j<ops.size∧j ∈ U ∧ ∀ k,k<ops.size→z3i0 (ancs ops.toList) j k=true→k ∉ U:=by
  obtain ⟨h0,o,ho,hall⟩:=mem_ready.1 hj
  have hjs:j<ops.size:=(Array.getElem?_eq_some_iff.1 ho).1
  refine ⟨hjs,(hl j hjs).1 h0,fun k hks hk => ?_⟩
  obtain ⟨e,he,hbd,h⟩:=hf.f2 j o ho k hks hk
  have hlt:=(hf.f1 j o ho e he hbd).1
  have hne:=lis hsz hl (by omega) (hall e he hbd)
  rcases h with h|h
  · subst h; exact hne
  · exact hcl e.on (by omega) hne k h
theorem zy4n {al:List AOper} {D:Nat→Nat→Prop} (hD : ∀ a b st',D a b→Φ st'→z87v (st'.t.getD a .junk) (st'.t.getD b .junk)=true) {l1 l2:List Nat} {j:Nat} {st:St} (hq : ∀ k ∈ l1,QR (ancs ops.toList) al D k j) (hb : ∀ k ∈ l1++j::l2,k<al.length)
    (hw:(l1++j::l2).Pairwise (fun i k=>i≠k∧z3i0 (ancs ops.toList) i k=false)) (hanc : ∀ k ∈ l1++j::l2,z3i0 (ancs ops.toList) j k=false)
    (hs:zetq P ((l1++j::l2).map fun k=>al.getD k default) st Φ):zetq P (al.getD j default::((l1++l2).map fun k=>al.getD k default)) st Φ:=by
  rw [y09] at hw
  obtain ⟨p1,p2,p3⟩:=hw
  rw [y0b] at p2
  rw [y0t]
  refine zamn _ st (fun pre x post hx => ?_) (by simpa using hs)
  obtain ⟨pre',rest',hl1,e1,e2⟩:=y0v.1 hx
  obtain ⟨k,post',rfl,rfl,rfl⟩:=y0w.1 e2
  subst hl1
  have hk:k ∈ pre'++k::post':=by simp
  have hkj:=hq k hk
  rcases hkj.2.2 with h|h|⟨p,hp,hDp⟩
  · rw [hanc k (by simp)] at h; simp at h
  · exact .inl h
  · have later : ∀ m,m ∈ post'++l2→z3i0 (ancs ops.toList) k m=false∧z3i0 (ancs ops.toList) j m=false∧m≠k∧m≠j∧m<al.length:=by
      intro m hm
      have hm1:k≠m∧z3i0 (ancs ops.toList) k m=false:=by
        rcases y07.1 hm with hm|hm
        · exact (y0b.1 (y09.1 p1).2.1).1 m hm
        · exact p3 k hk m (by simp [hm])
      have hmr:m ∈ (pre'++k::post')++j::l2:=by
        rcases y07.1 hm with hm|hm<;>simp [hm]
      refine ⟨hm1.2,hanc m hmr,fun e=>hm1.1 e.symm,fun e => ?_,hb m hmr⟩
      subst e
      rcases y07.1 hm with hm|hm
      · exact (p3 m (by simp [hm]) m (by simp)).1 rfl
      · exact (p2.1 m hm).1 rfl
    have fin : ∀ rd wr,z5vb (ancs ops.toList) al rd wr=some (p.1,p.2)→((k=rd∧j=wr)∨(k=wr∧j=rd))→zed0 Φ (al.getD k default) (al.getD j default) ((post'.map fun k=>al.getD k default)++(l2.map fun k=>al.getD k default)):=by
      intro rd wr hdp hkw
      obtain ⟨res,hdyn,hass⟩:=zjvu hdp
      refine .inr ⟨_,_,p.1,p.2,res,hdyn,?_,fun o ho => ?_,fun st' hst'=>hD _ _ st' hDp hst'⟩
      · rcases hkw with ⟨rfl,rfl⟩|⟨rfl,rfl⟩
        · exact .inl ⟨rfl,rfl⟩
        · exact .inr ⟨rfl,rfl⟩
      · rw [← y0t] at ho
        obtain ⟨m,hm,rfl⟩:=y0x.1 ho
        obtain ⟨g1,g2,g3,g4,g5⟩:=later m hm
        obtain ⟨q1,q2⟩:=hass m (al.getD m default) (by simp [y04 g5])
        rcases hkw with ⟨rfl,rfl⟩|⟨rfl,rfl⟩
        · refine ⟨fun e=>by rw [q1 e] at g1; simp at g1,fun e => ?_⟩
          have:=q2 e
          split at this
          · exact g4 this
          · rw [this] at g2; simp at g2
        · refine ⟨fun e=>by rw [q1 e] at g2; simp at g2,fun e => ?_⟩
          have:=q2 e
          split at this
          · exact g3 this
          · rw [this] at g1; simp at g1
    unfold zsbi at hp
    split at hp
    · rename_i p' hp'
      simp at hp; subst hp
      exact fin k j hp' (.inl ⟨rfl,rfl⟩)
    · exact fin j k hp (.inr ⟨rfl,rfl⟩)
structure PO (as:List Nat) (al:List AOper) (A d0:Nat) (zs:List DV):Prop where
  lt:A<al.length
  at_:al.getD A default=⟨none,some d0,.alloc zs⟩
  no : ∀ k,k<al.length→z3i0 as A k=false
  dk : ∀ k,k<al.length→k≠A→(al.getD k default).d≠some d0
  lk : ∀ k,k<al.length→k≠A→d0 ∈ (al.getD k default).looks→z3i0 as k A=true
theorem z5z1 {as:List Nat} {al:List AOper} {A:Nat} (h:zqo4 as al A=true) : ∃ d0 zs,PO as al A d0 zs:=by
  unfold zqo4 at h
  split at h
  case h_2=>simp at h
  rename_i d0 zs hA
  have hlt:A<al.length:=(y0a.1 hA).1
  simp only [y0c,y0h,y03,y0f,y0g,beq_iff_eq] at h
  refine ⟨d0,zs,hlt,by rw [y02,hA]; rfl,fun k hk=>(h k hk).1,fun k hk hne => ?_,fun k hk hne hm => ?_⟩
  · have:=(h k hk).2.resolve_left hne
    rw [y04 hk] at this
    simp only [y03,bne_iff_ne,ne_eq] at this
    rw [y02,y04 hk]
    exact this.1
  · have:=(h k hk).2.resolve_left hne
    rw [y04 hk] at this
    rw [y02,y04 hk] at hm
    simp only [y03,y0g,y0f,List.contains_eq_mem,decide_eq_false_iff_not] at this
    exact this.2.resolve_left (fun q=>q hm)
theorem ziev {as:List Nat} {al:List AOper} {A d0:Nat} {zs:List DV} (hp:PO as al A d0 zs) (y:Nat):zsbi as al y A=none∧zsbi as al A y=none:=by
  have hA:al[A]? = some ⟨none,some d0,.alloc zs⟩:=by
    have:=hp.at_
    rw [y02,y04 hp.lt] at this
    rw [y04 hp.lt]; exact congrArg some this
  have h1:z5vb as al y A=none:=by
    unfold z5vb
    rw [hA]
    cases al[y]? with
    | none=>rfl
    | some x=>simp only [zsx1]; cases zu5r x.op<;>rfl
  have h2:z5vb as al A y=none:=by
    unfold z5vb
    rw [hA]
    cases al[y]? with
    | none=>rfl
    | some x=>rfl
  exact ⟨by simp [zsbi,h1,h2],by simp [zsbi,h1,h2]⟩
theorem QRA.to {as:List Nat} {al:List AOper} {D:Nat→Nat→Prop} {pend:Option Nat} {i j:Nat} (h:QRA as al D pend i j) (hj:pend≠some j):QR as al D i j :=
  ⟨h.1,h.2.1,by
    rcases h.2.2 with q|q|q|⟨q,_⟩
    · exact .inl q
    · exact .inr (.inl q)
    · exact .inr (.inr q)
    · exact absurd q hj⟩
theorem z6ih {d0:Nat} {zs:List DV} {t:List DV} {h h':List AObj} {v:DV} (hs:zgbp P ⟨none,some d0,.alloc zs⟩ ⟨t,h⟩ v h'):v = .mp h.length zs.length 0∧h'=h++[.cells zs]:=by
  simp only [zgbp,goes,outA,zzm2] at hs
  simp at hs
  exact ⟨hs.1.symm,hs.2.symm⟩
theorem zuuk {a:Act} {d:Option Nat} {v:Value} {i:Nat} (h:d≠some i):(a.put d v).tmps.getD i undef=a.tmps.getD i undef:=by
  cases d with
  | none=>rfl
  | some j =>
    have hne:j≠i:=by simpa using h
    simp [Act.put,hne]
theorem zjki {a:Act} {d:Option Nat} {v:Value}:(a.put d v).tmps.size=a.tmps.size:=by
  cases d with
  | none=>rfl
  | some j=>simp [Act.put]
theorem z1kf (hQ : ∀ st a w,Φ st→SR X0 base E0 w0 st a w→Q .normal a w) {D:Nat→Nat→Prop} (hD : ∀ a b st',D a b→Φ st'→z87v (st'.t.getD a .junk) (st'.t.getD b .junk)=true) {al0:List AOper} (hc:zp5p (zjj7 P ops) ops.toList=some al0) {b:Nat} {al:List AOper} (hal:al=al0.map (tN P b)) (hd:zu7l ops.toList al=true)
    {A d0:Nat} {zs:List DV} (hp:PO (ancs ops.toList) al A d0 zs) {bk:Nat} :
    ∀ (fuel:Nat) (l1 l2:List Nat) (listed:Array Bool) (t:List DV) (h:List AObj) (a:Act) (w:World),(l1++l2).length≤fuel→(l1++A::l2).Pairwise (QRA (ancs ops.toList) al D (some A))→(∀ k ∈ l1++A::l2,k<ops.size)→listed.size=ops.size →
      (∀ k,k<ops.size→(listed.getD k true=false↔k ∈ l1++l2)) →
      (∀ m,m<ops.size→m ∉ l1++l2 → ∀ k,z3i0 (ancs ops.toList) m k=true→k ∉ l1++l2) →
      zetq P ((l1++A::l2).map fun k=>al.getD k default) ⟨t,h⟩ Φ→SR (XP X0 bk) base E0 w0 ⟨putT t (some d0) .junk,h⟩ a w→Pend X0 base w0 zs d0 bk a w→wpAny P .any ops Q fuel listed a w:=by
  have hlen:al.length=ops.size:=by rw [hal,y0s]; simpa using zoh1 hc
  have hf:=z2gx hd
  -- to know of it, and go on
  have hbind : ∀ (fuel:Nat) (l1 l2:List Nat) (listed:Array Bool) (t:List DV) (h:List AObj) (a:Act) (w:World),(l1++l2).length≤fuel→(l1++A::l2).Pairwise (QRA (ancs ops.toList) al D (some A))→(∀ k ∈ l1++A::l2,k<ops.size)→listed.size=ops.size →
      (∀ k,k<ops.size→(listed.getD k true=false↔k ∈ l1++l2)) →
      (∀ m,m<ops.size→m ∉ l1++l2 → ∀ k,z3i0 (ancs ops.toList) m k=true→k ∉ l1++l2) →
      zetq P ((l1++A::l2).map fun k=>al.getD k default) ⟨t,h⟩ Φ→SR (XP X0 bk) base E0 w0 ⟨putT t (some d0) .junk,h⟩ a w→Pend X0 base w0 zs d0 bk a w→(∀ y ∈ l1,z27y (al.getD y default) (al.getD A default)=true)→wpAny P .any ops Q fuel listed a w:=by
    intro fuel l1 l2 listed t h a w hfu hpw hb hsz hl hcl hs hr hpd hB
    have hs':=zkd4 (j:=al.getD A default) (l2:=l2.map fun k=>al.getD k default) (l1.map fun k=>al.getD k default) ⟨t,h⟩ (fun x hx=>by obtain ⟨y,hy,rfl⟩:=y0x.1 hx; exact hB y hy) (by simpa using hs)
    obtain ⟨v,h',hst,hrest⟩:=zow1.1 hs'
    rw [hp.at_] at hst hrest
    obtain ⟨rfl,rfl⟩:=z6ih hst
    rw [y09,y0b] at hpw
    obtain ⟨p1,⟨p2,p3⟩,p4⟩:=hpw
    have hne : ∀ j ∈ l1++l2,some A≠some j:=fun j hj e=>by
      simp only [Option.some.injEq] at e
      subst e
      rcases y07.1 hj with hj|hj
      · exact (p4 _ hj A (by simp)).1 rfl
      · exact (p2 _ hj).1 rfl
    refine zfwk hQ hD hc hal hd fuel (l1++l2) listed _ a w hfu ?_ (fun k hk=>hb k (by rcases y07.1 hk with hk|hk<;>simp [hk])) hsz hl hcl (by simpa using hrest) (zs4t hr hpd)
    rw [y09]
    exact ⟨p1.imp_of_mem fun _ hy q=>q.to (hne _ (by simp [hy])),p3.imp_of_mem fun _ hy q=>q.to (hne _ (by simp [hy])),fun x hx y hy=>(p4 x hx y (by simp [hy])).to (hne _ (by simp [hy]))⟩
  intro fuel
  induction fuel with
  | zero =>
    intro l1 l2 listed t h a w hfu hpw hb hsz hl hcl hs hr hpd
    refine hbind 0 l1 l2 listed t h a w hfu hpw hb hsz hl hcl hs hr hpd (fun y hy => ?_)
    have:l1=[]:=by
      cases l1 with
      | nil=>rfl
      | cons x l=>simp at hfu
    rw [this] at hy; simp at hy
  | succ fuel ih =>
    intro l1 l2 listed t h a w hfu hpw hb hsz hl hcl hs hr hpd
    by_cases hB : ∀ y ∈ l1,z27y (al.getD y default) (al.getD A default)=true
    · exact hbind _ l1 l2 listed t h a w hfu hpw hb hsz hl hcl hs hr hpd hB
    have hB' : ∃ y,y ∈ l1∧¬ z27y (al.getD y default) (al.getD A default)=true:=by
      apply Classical.byContradiction
      intro hn
      exact hB fun y hy=>Classical.byContradiction fun hq=>hn ⟨y,hy,hq⟩
    obtain ⟨y,hy,hyb⟩:=hB'
    have hpw':=hpw
    rw [y09,y0b] at hpw'
    obtain ⟨p1,⟨p2,p3⟩,p4⟩:=hpw'
    have hbl : ∀ k,k<al.length→z3i0 (ancs ops.toList) k A=true→z3i0 (ancs ops.toList) k y=true:=by
      rcases (p4 y hy A (by simp)).2.2 with q|q|⟨p,q,_⟩|⟨_,q⟩
      · rw [hp.no y (by rw [hlen]; exact hb y (by simp [hy]))] at q; simp at q
      · exact absurd q hyb
      · rw [(ziev hp y).1] at q; simp at q
      · exact q
    have hAne : ∀ k ∈ l1++l2,k≠A:=fun k hk e=>by
      subst e
      rcases y07.1 hk with hk|hk
      · exact (p4 _ hk k (by simp)).1 rfl
      · exact (p2 _ hk).1 rfl
    refine ⟨fun hnr => ?_,fun j hj => ?_⟩
    · cases l1 with
      | nil=>simp at hy
      | cons k l =>
        have:k ∈ Region.ready .any ops listed:=zv1a hf (hb k (by simp)) (U:=(k::l)++l2) (by simp) (fun i hi hne=>by
          have hi':i ∈ l++A::l2:=by
            simp at hi ⊢
            rcases hi with hi|hi|hi
            · exact absurd hi hne
            · exact .inl hi
            · exact .inr (.inr hi)
          exact ((y0b.1 hpw).1 i hi').2.1) hsz hl
        rw [hnr] at this; simp at this
    · obtain ⟨hjs,hjU,hja⟩:=zr1w hf hsz hl hcl hj
      have hjA:z3i0 (ancs ops.toList) j A=false:=by
        cases e:z3i0 (ancs ops.toList) j A with
        | false=>rfl
        | true=>exact absurd (show y ∈ l1++l2 by simp [hy]) (hja y (hb y (by simp [hy])) (hbl j (by omega) e))
      have hjne:=hAne j hjU
      have hanc : ∀ k ∈ l1++A::l2,z3i0 (ancs ops.toList) j k=false:=fun k hk=>by
        cases e:z3i0 (ancs ops.toList) j k with
        | false=>rfl
        | true =>
          by_cases hkA:k=A
          · subst hkA; rw [hjA] at e; simp at e
          · refine absurd ?_ (hja k (hb k hk) e)
            simp at hk ⊢
            rcases hk with hk|hk|hk
            · exact .inl hk
            · exact absurd hk hkA
            · exact .inr hk
      have hjl:j<al.length:=by omega
      have hdne:(al.getD j default).d≠some d0:=hp.dk j hjl hjne
      have cont : ∀ n1 n2:List Nat,(n1++n2).length≤fuel→(n1++A::n2).Pairwise (QRA (ancs ops.toList) al D (some A))→(∀ k ∈ n1++A::n2,k<ops.size)→(∀ k,k ∈ n1++n2↔k ∈ l1++l2∧k≠j) →
          zetq P (al.getD j default::((n1++A::n2).map fun k=>al.getD k default)) ⟨t,h⟩ Φ→wpOp P ops Q j (wpAny P .any ops Q fuel (listed.setIfInBounds j true)) a w:=by
        intro n1 n2 q1 q2 q3 q4 q5
        obtain ⟨v,h',hst,hrest⟩:=zow1.1 q5
        have hst':zgbp P (al.getD j default) ⟨putT t (some d0) .junk,h⟩ v h':=z991 (fun i hi=>(zy47 (fun e=>by
          simp only [Option.some.injEq] at e
          subst e
          have:=hp.lk j hjl hjne hi
          rw [hjA] at this; simp at this)).symm) hst
        refine zuor (X0:=XP X0 bk) hc (b:=b) (j:=j) (ao:=al.getD j default) (by rw [← hal]; simp [y04 hjl]) hst' hr fun a' w' hr' hfr ⟨v',ha'⟩ => ?_
        have e1:putT (putT t (some d0) .junk) (al.getD j default).d v=putT (putT t (al.getD j default).d v) (some d0) .junk:=zipz (fun i e e'=>hdne (by rw [e',← e]))
        simp only at hr'
        rw [e1] at hr'
        obtain ⟨⟨arr,ty,c1,c2⟩,hptr,hb0,hbw,hx⟩:=hpd
        refine ih n1 n2 (listed.setIfInBounds j true) _ _ a' w' q1 q2 q3 (by simpa using hsz) (fun k hk => ?_) (fun m hm hn k hk => ?_) hrest hr' ⟨⟨arr,ty,by rw [hfr bk ⟨0,.inr rfl⟩]; exact c1,c2⟩,fun hlt => ?_,hb0,hbw,hx⟩
        · rw [q4]
          by_cases e:j=k
          · subst e
            have hj':j<listed.size:=by omega
            simp [hj']
          · rw [getD_set_ne true e,hl k hk]
            simp [show ¬ k=j from fun h=>e h.symm]
        · rw [q4] at hn ⊢
          rintro ⟨hk1,hk2⟩
          by_cases e:m=j
          · subst e; exact hja k (hb k (by rcases y07.1 hk1 with g|g<;>simp [g])) hk hk1
          · exact hcl m hm (fun g=>hn ⟨g,e⟩) k hk hk1
        · rw [ha'] at hlt ⊢
          rw [zjki] at hlt
          rw [zuuk hdne]; exact hptr hlt
      have hwk:(l1++A::l2).Pairwise (fun i k=>i≠k∧z3i0 (ancs ops.toList) i k=false):=hpw.imp fun q=>⟨q.1,q.2.1⟩
      have hnd : ∀ (p q:List Nat),(l1++A::l2)=p++j::q→j ∉ p∧j ∉ q:=fun p q e=>by
        have:=hwk
        rw [e,y09,y0b] at this
        exact ⟨fun g=>(this.2.2 j g j (by simp)).1 rfl,fun g=>(this.2.1.1 j g).1 rfl⟩
      rcases y07.1 hjU with hjm|hjm
      · obtain ⟨p,q,rfl⟩:=y0o hjm
        have eL:(p++j::q)++A::l2=p++j::(q++A::l2):=by simp
        obtain ⟨n1,n2⟩:=hnd p (q++A::l2) eL
        rw [eL] at hs hb hpw hwk hanc
        have hfr:=zy4n hD (l1:=p) (l2:=q++A::l2) (fun k hk=>((y09.1 hpw).2.2 k hk j (by simp)).to (by simpa using hjne.symm)) (fun k hk=>by rw [hlen]; exact hb k hk) hwk hanc hs
        refine cont (p++q) l2 (by simp at hfu ⊢; omega) ?_ (fun k hk=>hb k (by simp at hk ⊢; rcases hk with g|g|g|g<;>simp [g])) (fun k => ?_) (by simpa using hfr)
        · rw [List.append_assoc]
          rw [y09] at hpw ⊢
          exact ⟨hpw.1,(y0b.1 hpw.2.1).2,fun x hx z hz=>hpw.2.2 x hx z (by simp at hz ⊢; right; exact hz)⟩
        · simp at n1 n2 ⊢
          constructor
          · rintro (g|g|g)
            · exact ⟨.inl g,fun e=>n1 (e▸g)⟩
            · exact ⟨.inr (.inr (.inl g)),fun e=>n2.1 (e▸g)⟩
            · exact ⟨.inr (.inr (.inr g)),fun e=>n2.2.2 (e▸g)⟩
          · rintro ⟨g|g|g|g,hne⟩
            · exact .inl g
            · exact absurd g hne
            · exact .inr (.inl g)
            · exact .inr (.inr g)
      · obtain ⟨p,q,rfl⟩:=y0o hjm
        have eL:l1++A::(p++j::q)=(l1++A::p)++j::q:=by simp
        obtain ⟨n1,n2⟩:=hnd (l1++A::p) q eL
        rw [eL] at hs hb hpw hwk hanc
        have hfr:=zy4n hD (l1:=l1++A::p) (l2:=q) (fun k hk=>((y09.1 hpw).2.2 k hk j (by simp)).to (by simpa using hjne.symm)) (fun k hk=>by rw [hlen]; exact hb k hk) hwk hanc hs
        refine cont l1 (p++q) (by simp at hfu ⊢; omega) ?_ (fun k hk=>hb k (by simp at hk ⊢; rcases hk with g|g|g|g<;>simp [g])) (fun k => ?_) (by simpa using hfr)
        · have e2:l1++A::(p++q)=(l1++A::p)++q:=by simp
          rw [e2]
          rw [y09] at hpw ⊢
          exact ⟨hpw.1,(y0b.1 hpw.2.1).2,fun x hx z hz=>hpw.2.2 x hx z (by simp [hz])⟩
        · simp at n1 n2 ⊢
          constructor
          · rintro (g|g|g)
            · exact ⟨.inl g,fun e=>n1.1 (e▸g)⟩
            · exact ⟨.inr (.inl g),fun e=>n1.2.2 (e▸g)⟩
            · exact ⟨.inr (.inr (.inr g)),fun e=>n2 (e▸g)⟩
          · rintro ⟨g|g|g|g,hne⟩
            · exact .inl g
            · exact .inr (.inl g)
            · exact absurd g hne
            · exact .inr (.inr g)
theorem zim4 (hQ : ∀ st a w,Φ st→SR X0 base E0 w0 st a w→Q .normal a w) {D:Nat→Nat→Prop} (hD : ∀ a b st',D a b→Φ st'→z87v (st'.t.getD a .junk) (st'.t.getD b .junk)=true) {al0:List AOper} (hc:zp5p (zjj7 P ops) ops.toList=some al0) {b:Nat} {al:List AOper} (hal:al=al0.map (tN P b)) (hd:zu7l ops.toList al=true)
    {A d0:Nat} {zs:List DV} (hp:PO (ancs ops.toList) al A d0 zs) {o:Oper} {e:TypeId} (ho:ops[A]? = some o) (hop:o.op = .alloc e) (hog:o.guard=none) (hod:o.dst=some d0) (hz:zw9d P e=some zs) :
    ∀ (fuel:Nat) (rem:List Nat) (listed:Array Bool) (st:St) (a:Act) (w:World),rem.length≤fuel→rem.Pairwise (QRA (ancs ops.toList) al D (some A))→(∀ k ∈ rem,k<ops.size)→listed.size=ops.size →
      (∀ k,k<ops.size→(listed.getD k true=false↔k ∈ rem)) →
      (∀ m,m<ops.size→m ∉ rem → ∀ k,z3i0 (ancs ops.toList) m k=true→k ∉ rem) →
      zetq P (rem.map fun k=>al.getD k default) st Φ→SR X0 base E0 w0 st a w→wpAny P .any ops Q fuel listed a w:=by
  have hlen:al.length=ops.size:=by rw [hal,y0s]; simpa using zoh1 hc
  have hf:=z2gx hd
  intro fuel
  induction fuel with
  | zero =>
    intro rem listed st a w hfu hpw hb hsz hl hcl hs hr
    have hnil:rem=[]:=by cases rem with|nil=>rfl|cons x l=>simp at hfu
    subst hnil
    exact zfwk hQ hD hc hal hd 0 [] listed st a w hfu .nil hb hsz hl hcl hs hr
  | succ fuel ih =>
    intro rem listed st a w hfu hpw hb hsz hl hcl hs hr
    by_cases hA:A ∈ rem
    case neg =>
      refine zfwk hQ hD hc hal hd _ rem listed st a w hfu (hpw.imp_of_mem fun {x y} _ hy q=>q.to (fun e=>hA ?_)) hb hsz hl hcl hs hr
      simp only [Option.some.injEq] at e
      rw [e]; exact hy
    refine ⟨fun hnr => ?_,fun j hj => ?_⟩
    · cases rem with
      | nil=>simp at hA
      | cons k l =>
        have:k ∈ Region.ready .any ops listed:=zv1a hf (hb k (by simp)) (U:=k::l) (by simp) (fun i hi hne=>((y0b.1 hpw).1 i (by simpa [hne] using hi)).2.1) hsz hl
        rw [hnr] at this; simp at this
    · obtain ⟨hjs,hjU,hja⟩:=zr1w hf hsz hl hcl hj
      obtain ⟨l1,l2,rfl⟩:=y0o hjU
      have hjl:j<al.length:=by omega
      have hwk:(l1++j::l2).Pairwise (fun i k=>i≠k∧z3i0 (ancs ops.toList) i k=false):=hpw.imp fun q=>⟨q.1,q.2.1⟩
      have hnd:j ∉ l1∧j ∉ l2:=by
        have:=hwk
        rw [y09,y0b] at this
        exact ⟨fun g=>(this.2.2 j g j (by simp)).1 rfl,fun g=>(this.2.1.1 j g).1 rfl⟩
      have hl' : ∀ k,k<ops.size→((listed.setIfInBounds j true).getD k true=false↔k ∈ l1++l2):=fun k hk=>by
        by_cases e:j=k
        · subst e
          have hj':j<listed.size:=by omega
          simp [hj',hnd.1,hnd.2]
        · rw [getD_set_ne true e,hl k hk]
          simp [show ¬ k=j from fun h=>e h.symm]
      have hcl' : ∀ m,m<ops.size→m ∉ l1++l2 → ∀ k,z3i0 (ancs ops.toList) m k=true→k ∉ l1++l2:=fun m hm hn k hk=>by
        have key:k ∉ l1++j::l2:=by
          by_cases e:m=j
          · subst e
            intro hm'
            exact hja k (hb k hm') hk hm'
          · exact hcl m hm (by simp at hn ⊢; exact ⟨hn.1,e,hn.2⟩) k hk
        simp at key ⊢
        exact ⟨key.1,key.2.2⟩
      by_cases hjA:j=A
      · subst hjA
        obtain ⟨t,h⟩:=st
        refine zq2s ho hop hog hod hz fun z hzz => ?_
        obtain ⟨g1,g2⟩:=z399 (d0:=d0) (e:=e) hr hzz
        exact z1kf hQ hD hc hal hd hp fuel l1 l2 _ t h _ _ (by simp at hfu ⊢; omega) hpw hb (by simpa using hsz) hl' hcl' hs g1 g2
      · have hanc : ∀ k ∈ l1++j::l2,z3i0 (ancs ops.toList) j k=false:=fun k hk=>by
          cases e:z3i0 (ancs ops.toList) j k with
          | false=>rfl
          | true=>exact absurd hk (hja k (hb k hk) e)
        have hfr:=zy4n hD (fun k hk=>((y09.1 hpw).2.2 k hk j (by simp)).to (by simpa using fun q:A=j=>hjA q.symm)) (fun k hk=>by rw [hlen]; exact hb k hk) hwk hanc hs
        obtain ⟨v,h',hst,hrest⟩:=zow1.1 hfr
        refine zuor hc (b:=b) (j:=j) (ao:=al.getD j default) (by rw [← hal]; simp [y04 hjl]) hst hr fun a' w' hr' _ _ => ?_
        refine ih (l1++l2) _ _ a' w' (by simp at hfu ⊢; omega) ?_ (fun k hk=>hb k (by simp at hk ⊢; rcases hk with g|g<;>simp [g])) (by simpa using hsz) hl' hcl' hrest hr'
        rw [y09] at hpw ⊢
        exact ⟨hpw.1,(y0b.1 hpw.2.1).2,fun x hx y hy=>hpw.2.2 x hx y (by simp [hy])⟩
theorem zokc {id:Nat} (hQ : ∀ st a w,Φ st→SR X0 base E0 w0 st a w→Q .normal a w) (hm:P.follows .mixedOrders=true)
    (al0:List AOper) (hc:zp5p (zjj7 P ops) ops.toList=some al0) (b:Nat) (al:List AOper) (hal:al=al0.map (tN P b)) (hd:zu7l ops.toList al=true)
    (st:St) (a:Act) (w:World) (hs:zetq P (zrpy (ancs ops.toList) al) st Φ) (hr:SR X0 base E0 w0 st a w):(Code.region id ops true).wp P Q a w:=by
  have hlen:al.length=ops.toList.length:=by rw [hal,y0s]; exact zoh1 hc
  unfold zrpy at hs
  have hd':=hd
  simp only [zu7l,y03] at hd'
  obtain ⟨⟨⟨d1,d2⟩,hle⟩,d3,d4⟩:=hd'
  simp only [y0c,y0h,y03,List.contains_iff_mem,decide_eq_true_eq] at d1 d2
  have hpw:=z9zd (D:=fun a b=>(⟨none,none,.apart (.t a) (.t b)⟩:AOper) ∈ chks (ancs ops.toList) al (zzfy (ancs ops.toList) al)) d3 (fun a b h=>h)
  have hchk:=zbjt (as:=ancs ops.toList) (al:=al) (zzfy (ancs ops.toList) al)
  have hs:=zkcf _ _ st hs
  generalize chks (ancs ops.toList) al (zzfy (ancs ops.toList) al)=ck at *
  generalize zahl (ancs ops.toList) al (zzfy (ancs ops.toList) al)=pend at *
  generalize zzfy (ancs ops.toList) al=perm at *
  have hle:perm.length≤ops.size:=by simpa using hle
  refine wp_region_any hm ?_
  have hdr:SR X0 base E0 w0 st a { w with drawn:=w.drawn+1 }:=by
    obtain ⟨E,hh,hsz,hrep,hdef,ht⟩:=hr
    obtain ⟨g1,g2⟩:=zzjs hh (w':={ w with drawn:=w.drawn+1 }) ⟨⟨rfl,rfl,rfl,y0k _,fun _ _=>rfl⟩,Nat.le_succ _⟩
    exact ⟨E,g1,hsz,g2.repL hrep,hdef.mono g2.others,ht.trans g2⟩
  cases pend with
  | none =>
    exact zfwk (Φ:=fun st'=>zetq P ck st' Φ) (fun st a w h1 h2=>hQ st a w (za6v ck st hchk h1).1 h2) (fun a b st' h1 h2=>(za6v ck st' hchk h2).2 a b h1) hc hal hd ops.size perm _ st a _ hle (hpw.imp fun q=>q.to (by simp)) (fun k hk=>by simpa using d2 k hk) (by simp) (fun k hk=>by simpa [hk] using (d1 k (by simpa using hk)).1) (fun m hm hn=>absurd ((d1 m (by simpa using hm)).1) hn) hs hdr
  | some A =>
    simp only [y03] at d4
    obtain ⟨d0,zs,hp⟩:=z5z1 d4.1
    have d5:=d4.2
    split at d5
    case h_2=>simp at d5
    rename_i o ho
    split at d5
    case h_2=>simp at d5
    rename_i e hop
    have hlt:=hp.lt
    have hA0:al0[A]? = some ⟨none,some d0,.alloc zs⟩:=by
      have hq:=hp.at_
      rw [y02,y04 hlt] at hq
      simp only [y0i] at hq
      have hlt0:A<al0.length:=by rw [hal] at hlt; simpa using hlt
      have hq2:tN P b al0[A]=⟨none,some d0,.alloc zs⟩:=by
        rw [← hq]; simp [hal]
      rcases z5ww P b al0[A] with q|⟨f,as,_,q|q⟩
      · rw [y04 hlt0,← q,hq2]
      · rw [hq2] at q; simp at q
      · rw [hq2] at q; simp at q
    obtain ⟨ao,h1,hao⟩:=zsyb hc A o (by simpa using ho)
    rw [hA0] at h1; simp at h1; subst h1
    obtain ⟨c1,c2,c3⟩:=zz0x hao
    have hog:o.guard=none:=by
      unfold zep4 at c1
      split at c1
      · assumption
      · obtain ⟨t,_,q⟩:=y01.1 c1
        simp at q
    have hz:zw9d P e=some zs:=by
      rcases c3 with ⟨c,f0,f,as,q,_⟩|⟨q,_⟩|q
      · rw [hop] at q; simp at q
      · simp only [zoe1,hop,y01,AOp.alloc.injEq] at q
        obtain ⟨z,q1,rfl⟩:=q
        exact q1
      · simp [zrr3] at q
    exact zim4 (Φ:=fun st'=>zetq P ck st' Φ) (fun st a w h1 h2=>hQ st a w (za6v ck st hchk h1).1 h2) (fun a b st' h1 h2=>(za6v ck st' hchk h2).2 a b h1) hc hal hd hp (by simpa using ho) hop hog c2.symm hz ops.size perm _ st a _ hle hpw (fun k hk=>by simpa using d2 k hk) (by simp) (fun k hk=>by simpa [hk] using (d1 k (by simpa using hk)).1) (fun m hm hn=>absurd ((d1 m (by simpa using hm)).1) hn) hs hdr
end
end Go.Am
set_option linter.unusedSimpArgs false
set_option linter.unusedVariables false
namespace Go.Am
open Go.RowKit
inductive AExit where
  | normal
  | exit (id:Nat)
  | ret
mutual
/-- all objects that are named have a number below n -/
def below (n:Nat):DV→Bool
  | .agg cs=>belowL n cs
  | .tup cs=>belowL n cs
  | .sl _ _ _ cs=>belowL n cs
  | .ref cs=>belowL n cs
  | .fn _ a b=>belowL n a&&belowL n b
  | .iface _ v=>below n v
  | .ms id _ _ _ _ _=>decide (id<n)
  | .mp id _ _=>decide (id<n)
  | _=>true
def belowL (n:Nat):List DV→Bool
  | []=>true
  | d::r=>below n d&&belowL n r
end
def zlf2 (n:Nat):List AObj→Bool
  | []=>true
  | .cells cs::r=>belowL n cs&&zlf2 n r
  | .dead::r=>zlf2 n r
def znqe:List DV→List DV→Prop
  | [],[]=>True
  | a::r,b::s=>(b = .junk∨b=a)∧znqe r s
  | _,_=>False
def fz (n:Nat) (h:List AObj):Nat→DV→Option DV
  | 0,d=>zcxt (fun d=>match d with
    | .ms id ver off s m lim=>if id<n then some (.ms id ver off s m lim) else none
    | .mp id ver off=>if id<n then some (.mp id ver off) else none
    | _=>none) d
  | k+1,d=>zcxt (fun d=>match d with
    | .ms id ver off s m lim=>if id<n then some (.ms id ver off s m lim) else (ziu0 h id).bind fun l=>if l.length=ver then (zp5p (fz n h k) ((l.drop off).take (m*s))).map fun cs => .sl false s m cs else none
    | .mp id ver off=>if id<n then some (.mp id ver off) else (ziu0 h id).bind fun l=>if l.length=ver then (zp5p (fz n h k) (l.drop off)).map .ref else none
    | _=>none) d
def fzL (n:Nat) (h:List AObj):List DV→List DV→Prop
  | [],[]=>True
  | a::r,b::s=>(b = .junk∨fz n h 3 a=some b)∧fzL n h r s
  | _,_=>False
def fzH (n:Nat) (h:List AObj):List AObj→List AObj→Prop
  | _,[]=>True
  | .cells a::r,.cells b::s=>fzL n h a b∧fzH n h r s
  | .dead::r,.dead::s=>fzH n h r s
  | _,_=>False
def Weak (n0:Nat) (st st':St):Prop :=
  (znqe st.t st'.t∧(st'.h=st.h∨(∃ tail,st.h=st'.h++tail∧n0≤st'.h.length∧belowL st'.h.length st'.t=true∧zlf2 st'.h.length st'.h=true))) ∨
  (n0≤st'.h.length∧st'.h.length≤st.h.length∧fzL st'.h.length st.h st.t st'.t∧fzH st'.h.length st.h st.h st'.h)
def KpB (b:Nat) (v:Value) (W W':World):Prop:=W.cell? ⟨b,0,none⟩=some v→W'.cell? ⟨b,0,none⟩=some v
def z6za (P:Program) (g:FuncId) (k:IntKind) (n:Int) {α:Type} (encD:α→DV) (xs:List α):Prop :=
  Ent P g ∧ ∃ encV:α→Value,(∀ x E X w,Rep E X w (encV x) (encD x)) ∧ ∀ (b:Nat) (w:World),w.cell? ⟨b,0,none⟩=some (.int k n) →
    SeqStopsK Fence.wide 2 P g #[.pointer (some ⟨b,0,none⟩)] (fun x => #[encV x]) (KpB b (.int k n)) (fun ys=>ys=xs) (fun _=>True) xs.length w
def zh9w:ACode→Bool
  | .skip=>true
  | .region draw ops => !draw&&ops.all fun o => !o.op.isCall
  | .seq a b=>zh9w a&&zh9w b
  | .cond _ a b=>zh9w a&&zh9w b
  | .block _ a=>zh9w a
  | .exit _=>true
  | _=>false
def awp (P:Program) (n0:Nat):ACode→(AExit→St→Prop)→St→Prop
  | .skip,Φ,st=>Φ .normal st
  | .region draw ops,Φ,st=>if draw=true then zetq P ops st (Φ .normal) else zysb P ops st (Φ .normal)
  | .seq a b,Φ,st=>awp P n0 a (fun e st=>match e with | .normal=>awp P n0 b Φ st|e=>Φ e st) st
  | .cond c x y,Φ,st=>match ev st.t c with
    | .bool b=>(b=true→awp P n0 x Φ st)∧(b=false→awp P n0 y Φ st)
    | _=>False
  | .block id c,Φ,st=>awp P n0 c (fun e st=>match e with | .exit i=>if i=id then Φ .normal st else Φ (.exit i) st|e=>Φ e st) st
  | .loop c,Φ,st => ∃ (I:Nat→St→Prop) (n:Nat) (st0:St),Weak n0 st st0∧I n st0 ∧
      ∀ n st,I n st→awp P n0 c (fun e st'=>match e with | .normal => ∃ n' st'',Weak n0 st' st''∧n'<n∧I n' st''|e=>Φ e st') st
  | .exit id,Φ,st=>Φ (.exit id) st
  | .ret,Φ,st=>Φ .ret st
  | .rangeF f p d c,Φ,st=>(zh9w c=true∧p<st.t.length) ∧ ∃ (g id:Nat) (k:IntKind) (n:Int) (α:Type) (encD:α→DV) (xs:List α) (I:List α→List AObj→Prop),ev st.t f = .fn (.func g) [] [.mp id 1 0]∧z6za P g k n encD xs ∧
      (∀ pre h,I pre h→ziu0 h id=some [.int k n])∧I [] st.h ∧
      (∀ pre x h,pre.length<xs.length→I pre h→awp P n0 c (fun e st'=>match e with | .normal=>I (pre++[x]) st'.h|_=>False) ⟨(st.t.set p (encD x)).set d (encD x),h⟩) ∧
      (∀ h,I xs h→Φ .normal ⟨st.t,h⟩)
def AQ (X0:Forb) (base:Nat) (E0:Env) (w0:World) (Φ:AExit→St→Prop):Exit→Act→World→Prop
  | .normal,a,w => ∃ st,Φ .normal st∧SR X0 base E0 w0 st a w
  | .exit id,a,w => ∃ st,Φ (.exit id) st∧SR X0 base E0 w0 st a w
  | .ret,a,w => ∃ st,Φ .ret st∧SR X0 base E0 w0 st a w
  | _,_,_=>False
theorem z8mc : ∀ {l l':List DV},znqe l l'→l'.length=l.length
  | [],[],_=>rfl
  | [],_::_,h=>by simp [znqe] at h
  | _::_,[],h=>by simp [znqe] at h
  | _::_,_::_,h=>by simp [z8mc h.2]
theorem z2k1 : ∀ {l l':List DV},znqe l l' → ∀ i,l'.getD i .junk = .junk∨l'.getD i .junk=l.getD i .junk
  | [],[],_,i => .inr rfl
  | [],_::_,h,_=>by simp [znqe] at h
  | _::_,[],h,_=>by simp [znqe] at h
  | a::r,b::s,h,i=>by
    cases i with
    | zero=>simpa using h.1
    | succ i=>simpa using z2k1 h.2 i
theorem z7l2 {n:Nat} : ∀ {l:List DV},belowL n l=true → ∀ i (h:i<l.length),below n l[i]=true
  | [],_,i,h=>by simp at h
  | d::r,hp,i,h=>by
    simp only [belowL,y03] at hp
    cases i with
    | zero=>exact hp.1
    | succ i=>exact z7l2 hp.2 i (by simpa using h)
theorem zj1g {n:Nat} : ∀ {l:List AObj},zlf2 n l=true → ∀ (i:Nat) (cs:List DV),l[i]? = some (.cells cs)→belowL n cs=true
  | [],_,i,cs,h=>by simp at h
  | .cells c::r,hp,i,cs,h=>by
    simp only [zlf2,y03] at hp
    cases i with
    | zero=>simp at h; subst h; exact hp.1
    | succ i=>exact zj1g hp.2 i cs (by simpa using h)
  | .dead::r,hp,i,cs,h=>by
    simp only [zlf2] at hp
    cases i with
    | zero=>simp at h
    | succ i=>exact zj1g hp i cs (by simpa using h)
theorem Rep.drop {E:Env} {X X':Forb} {w:World} {n:Nat} (hn:n≤E.length) {v:Value} {d:DV} (h:Rep E X w v d) (hX : ∀ b o,X' b o→X b o) (hp:Am.below n d=true):Rep (E.take n) X' w v d:=by
  induction h with
  | int k n=>exact .int k n
  | bool b=>exact .bool b
  | str s l h=>exact .str s l h
  | agg cs ds hl _ ih=>simp only [Am.below] at hp; exact .agg cs ds hl (fun i h1 h2=>ih i h1 h2 (z7l2 hp i h2))
  | tup cs ds hl _ ih=>simp only [Am.below] at hp; exact .tup cs ds hl (fun i h1 h2=>ih i h1 h2 (z7l2 hp i h2))
  | nilp=>exact .nilp
  | nilm=>exact .nilm
  | nilf=>exact .nilf
  | nili=>exact .nili
  | nils=>exact .nils
  | sl full s n cap a ds cv hn hf hl hc hx _ ih=>simp only [Am.below] at hp; exact .sl full s n cap a ds cv hn hf hl hc (fun i hi h'=>hx i hi (hX _ _ h')) (fun i h1=>ih i h1 (z7l2 hp i h1))
  | ref a ds cv hc hx _ ih=>simp only [Am.below] at hp; exact .ref a ds cv hc (fun i hi h'=>hx i hi (hX _ _ h')) (fun i h1=>ih i h1 (z7l2 hp i h1))
  | fn f first captured df dc h1 h2 _ _ ih1 ih2 =>
    simp only [Am.below,y03] at hp
    exact .fn f first captured df dc h1 h2 (fun i a b=>ih1 i a b (z7l2 hp.1 i b)) (fun i a b=>ih2 i a b (z7l2 hp.2 i b))
  | iface t v d _ ih=>simp only [Am.below] at hp; exact .iface t v d (ih hp)
  | ms id ver off s m lim a k cap hid h =>
    simp only [Am.below,decide_eq_true_eq] at hp
    refine .ms id ver off s m lim a k cap (by simp; omega) (fun b L he=>h b L ?_)
    rw [y06,if_pos hp] at he; exact he
  | mp id ver off a hid h =>
    simp only [Am.below,decide_eq_true_eq] at hp
    refine .mp id ver off a (by simp; omega) (fun b L he=>h b L ?_)
    rw [y06,if_pos hp] at he; exact he
  | junk v=>exact .junk v
theorem zmov {n:Nat} {l:List DV} (h:belowL n l=true) (i:Nat):below n (l.getD i .junk)=true:=by
  rw [y02]
  by_cases hi:i<l.length
  · rw [y04 hi]; exact z7l2 h i hi
  · rw [y0e (by omega)]; rfl
theorem zqsp {n:Nat} {h:List AObj} : ∀ {l l':List DV},fzL n h l l'→l'.length=l.length
  | [],[],_=>rfl
  | [],_::_,h=>by simp [fzL] at h
  | _::_,[],h=>by simp [fzL] at h
  | _::_,_::_,h=>by simp [zqsp h.2]
theorem zmu0 {n:Nat} {h:List AObj} : ∀ {l l':List DV},fzL n h l l' → ∀ i,l'.getD i .junk = .junk∨fz n h 3 (l.getD i .junk)=some (l'.getD i .junk)
  | [],[],_,i => .inl rfl
  | [],_::_,h,_=>by simp [fzL] at h
  | _::_,[],h,_=>by simp [fzL] at h
  | a::r,b::s,h,i=>by
    cases i with
    | zero=>simpa using h.1
    | succ i=>simpa using zmu0 h.2 i
theorem zr70 {n:Nat} {h:List AObj} : ∀ {l l':List AObj},fzH n h l l' → ∀ (id:Nat) (cs:List DV),l'[id]? = some (.cells cs) → ∃ cs0,l[id]? = some (.cells cs0)∧fzL n h cs0 cs
  | _,[],_,id,cs,e=>by simp at e
  | [],.cells _::_,h,_,_,_=>by simp [fzH] at h
  | [],.dead::_,h,_,_,_=>by simp [fzH] at h
  | .cells a::r,.cells b::s,h,id,cs,e=>by
    cases id with
    | zero=>simp at e; subst e; exact ⟨a,rfl,h.1⟩
    | succ id=>exact zr70 h.2 id cs e
  | .dead::r,.dead::s,h,id,cs,e=>by
    cases id with
    | zero=>simp at e
    | succ id=>simp only [fzH] at h; exact zr70 h id cs e
  | .cells _::_,.dead::_,h,_,_,_=>by simp [fzH] at h
  | .dead::_,.cells _::_,h,_,_,_=>by simp [fzH] at h
theorem zmvd {n:Nat} {h:List AObj} : ∀ {l l':List AObj},fzH n h l l' → ∀ (id:Nat),l'[id]? = some .dead→l[id]? = some .dead
  | _,[],_,id,e=>by simp at e
  | [],.cells _::_,h,_,_=>by simp [fzH] at h
  | [],.dead::_,h,_,_=>by simp [fzH] at h
  | .cells a::r,.cells b::s,h,id,e=>by
    cases id with
    | zero=>simp at e
    | succ id=>exact zmvd h.2 id e
  | .dead::r,.dead::s,h,id,e=>by
    cases id with
    | zero=>rfl
    | succ id=>simp only [fzH] at h; exact zmvd h id e
  | .cells _::_,.dead::_,h,_,_=>by simp [fzH] at h
  | .dead::_,.cells _::_,h,_,_=>by simp [fzH] at h
theorem ze13 {X0:Forb} {E:Env} {n:Nat} {b o:Nat} (h:FX X0 (E.take n) b o):FX X0 E b o:=by
  rcases h with g|⟨id,L,g⟩
  · exact .inl g
  · rw [y06] at g
    split at g
    · exact .inr ⟨id,L,g⟩
    · simp at g
theorem zdbd {X0:Forb} {base:Nat} {w:World} {h:List AObj} {E:Env} (hh:HeapRel X0 base w h E) {n:Nat} (hn:n≤E.length) : ∀ (k:Nat) {v:Value} {d d':DV},Rep E (FX X0 E) w v d→fz n h k d=some d'→Rep (E.take n) (FX X0 (E.take n)) w v d'
  | 0,v,d,d',hr,hs=>by
    refine zhjg (fun b o h'=>ze13 h') (fun v id ver off s m lim d' hr' h' => ?_) (fun v id ver off d' hr' h' => ?_) hr hs
    · simp only at h'
      split at h'
      · rename_i hlt
        simp at h'; subst h'
        exact hr'.drop hn (fun b o h'=>ze13 h') (by simp [Am.below,hlt])
      · simp at h'
    · simp only at h'
      split at h'
      · rename_i hlt
        simp at h'; subst h'
        exact hr'.drop hn (fun b o h'=>ze13 h') (by simp [Am.below,hlt])
      · simp at h'
  | k+1,v,d,d',hr,hs=>by
    have hobj : ∀ {id b L:Nat},¬ id<n→E[id]? = some (some (b,L)) → ∀ o,¬ FX X0 (E.take n) b o:=fun hid hE o hx=>by
      rcases hx with hx|⟨id',L',g⟩
      · obtain ⟨_,_,_,_,_,hb,_,_⟩:=hh.live hE
        exact (hh.x0 _ _ hx).2 _ _ hE
      · rw [y06] at g
        split at g
        · exact hh.apart _ _ _ _ _ _ (fun e=>hid (by omega)) g hE rfl
        · simp at g
    refine zhjg (fun b o h'=>ze13 h') (fun v id ver off s m lim d' hr' h' => ?_) (fun v id ver off d' hr' h' => ?_) hr hs
    · simp only at h'
      split at h'
      · rename_i hlt
        simp at h'; subst h'
        exact hr'.drop hn (fun b o h'=>ze13 h') (by simp [Am.below,hlt])
      rename_i hge
      simp only [y00] at h'
      obtain ⟨l,hl,h'⟩:=h'
      split at h'
      · rename_i hver
        obtain ⟨cs,hcs,rfl⟩:=y01.1 h'
        obtain ⟨b,arr,ty,cap,a,e1,e2,e3,e4,rfl,k1,k2,k3,k4,k5⟩:=zuh1 hh hr' hl hver
        have hR:=zzrb ((e4.drop off).take (m*s)) (fun v d d' q1 q2=>zdbd hh hn k q1 q2) hcs
        have hlen:cs.length=m*s:=by rw [← hR.1]; simp; omega
        refine znwx hR k1 (fun hf=>by simp at hf) hlen (fun j u hj => ?_) (fun i hi => ?_)
        · have hj':j<m*s:=by have:=(y0a.1 hj).1; simp at this; omega
          have hcap:0<cap:=by
            rcases y0m cap with z|z
            · have:m=0:=by omega
              subst this; simp at hj'
            · exact z
          rw [k3 hcap,z689,z4jt e2]
          rw [y06,if_pos hj',y0n,y06] at hj
          split at hj
          · simpa using hj
          · simp at hj
        · have hcap:0<cap:=by
            rcases y0m cap with z|z
            · have:m=0:=by omega
              subst this; rw [hlen] at hi; simp at hi
            · exact z
          rw [k3 hcap]
          exact hobj hge e1 _
      · simp at h'
    · simp only at h'
      split at h'
      · rename_i hlt
        simp at h'; subst h'
        exact hr'.drop hn (fun b o h'=>ze13 h') (by simp [Am.below,hlt])
      rename_i hge
      simp only [y00] at h'
      obtain ⟨l,hl,h'⟩:=h'
      split at h'
      · rename_i hver
        obtain ⟨cs,hcs,rfl⟩:=y01.1 h'
        obtain ⟨b,arr,ty,e1,e2,e3,e4,rfl⟩:=zsi4 hh hr' hl hver
        have hR:=zzrb (e4.drop off) (fun v d d' q1 q2=>zdbd hh hn k q1 q2) hcs
        refine zws5 hR (fun j u hj => ?_) (fun i hi=>hobj hge e1 _)
        rw [z689,z4jt e2]
        rw [y0n,y06] at hj
        split at hj
        · simpa using hj
        · simp at hj
      · simp at h'
theorem z35h {E:Env} {n id b L:Nat} (h:(E.take n)[id]? = some (some (b,L))):E[id]? = some (some (b,L)):=by
  rw [y06] at h
  split at h
  · exact h
  · simp at h
theorem SR.freeze {X0:Forb} {base:Nat} {E0:Env} {w0:World} {st st':St} {a:Act} {w:World} (h:SR X0 base E0 w0 st a w) (hn0:E0.length≤st'.h.length) (hle:st'.h.length≤st.h.length) (ht':fzL st'.h.length st.h st.t st'.t) (hh':fzH st'.h.length st.h st.h st'.h):SR X0 base E0 w0 st' a w:=by
  obtain ⟨E,hh,hsz,hrep,hdef,ht⟩:=h
  have hlen:st'.h.length≤E.length:=by rw [hh.len]; exact hle
  have cell : ∀ {v d d'},Rep E (FX X0 E) w v d→(d' = .junk∨fz st'.h.length st.h 3 d=some d')→Rep (E.take st'.h.length) (FX X0 (E.take st'.h.length)) w v d':=fun r q=>by
    rcases q with q|q
    · subst q; exact .junk _
    · exact zdbd hh hlen 3 r q
  refine ⟨E.take st'.h.length,⟨by simp; omega,fun b o q=>⟨(hh.x0 b o q).1,fun id L hL=>(hh.x0 b o q).2 id L (z35h hL)⟩,hh.size,fun id cs hid => ?_,fun id hid => ?_,fun id id' b L b' L' hne h1 h2 => ?_⟩,by rw [zqsp ht']; exact hsz,fun i=>cell (hrep i) (zmu0 ht' i),hdef,?_⟩
  · have hlt:id<st'.h.length:=(y0a.1 hid).1
    obtain ⟨cs0,hid',hcs⟩:=zr70 hh' id cs hid
    obtain ⟨b,arr,t,g1,g2,g3,g4,g5⟩:=hh.cells id cs0 hid'
    have hl:=zqsp hcs
    refine ⟨b,arr,t,by rw [y06,if_pos hlt,hl]; exact g1,g2,g3,by omega,fun i h1 h2 => ?_⟩
    have:=cell (g5 i (by omega) h2) (by
      have:=zmu0 hcs i
      rwa [y02,y02,y04 h1,y04 (by omega)] at this)
    simpa using this
  · have hlt:id<st'.h.length:=(y0a.1 hid).1
    rw [y06,if_pos hlt]
    exact hh.dead id (zmvd hh' id hid)
  · rw [y06] at h1 h2
    split at h1<;>try (simp at h1; done)
    split at h2<;>try (simp at h2; done)
    exact hh.apart _ _ _ _ _ _ hne h1 h2
  · refine ⟨⟨by rw [List.length_take]; have:=ht.env.len; omega,fun id hid b' L' h' => ?_⟩,⟨fun ad v hc hx => ?_⟩,ht.below,ht.others,fun b hb hl=>⟨(ht.frame b hb hl).1,fun id L hL=>(ht.frame b hb hl).2 id L (z35h hL)⟩⟩
    · rw [y06] at h'
      split at h'
      · exact ht.env.at_ id hid b' L' h'
      · simp at h'
    · obtain ⟨g1,g2⟩:=ht.keep.cell ad v hc hx
      exact ⟨g1,fun g=>g2 (ze13 g)⟩
theorem SR.weak {X0:Forb} {base:Nat} {E0:Env} {w0:World} {st st':St} {a:Act} {w:World} (h:SR X0 base E0 w0 st a w) (hw:Weak E0.length st st'):SR X0 base E0 w0 st' a w:=by
  refine hw.elim (fun hw => ?_) (fun q=>h.freeze q.1 q.2.1 q.2.2.1 q.2.2.2)
  obtain ⟨E,hh,hsz,hrep,hdef,ht⟩:=h
  obtain ⟨hwt,hwh⟩:=hw
  have hrep' : ∀ i,Rep E (FX X0 E) w (a.tmps.getD i undef) (st'.t.getD i .junk):=fun i=>by
    rcases z2k1 hwt i with e|e
    · rw [e]; exact .junk _
    · rw [e]; exact hrep i
  rcases hwh with e|⟨tail,e,hn0,hbt,hbh⟩
  · exact ⟨E,e▸hh,by rw [z8mc hwt]; exact hsz,hrep',hdef,ht⟩
  · have hlen:st'.h.length≤E.length:=by rw [hh.len,e]; simp
    have hX : ∀ b o,FX X0 (E.take st'.h.length) b o→FX X0 E b o:=by
      rintro b o (g|⟨id,L,g⟩)
      · exact .inl g
      · rw [y06] at g
        split at g
        · exact .inr ⟨id,L,g⟩
        · simp at g
    refine ⟨E.take st'.h.length,⟨by simp; omega,fun b o q=>⟨(hh.x0 b o q).1,fun id L hL=>(hh.x0 b o q).2 id L (z35h hL)⟩,hh.size,fun id cs hid => ?_,fun id hid => ?_,fun id id' b L b' L' hne h1 h2 => ?_⟩,by rw [z8mc hwt]; exact hsz,fun i => ?_,hdef,?_⟩
    · have hlt:id<st'.h.length:=(y0a.1 hid).1
      have hid':st.h[id]? = some (.cells cs):=by rw [e,y08 hlt]; exact hid
      obtain ⟨b,arr,t,g1,g2,g3,g4,g5⟩:=hh.cells id cs hid'
      exact ⟨b,arr,t,by rw [y06,if_pos hlt]; exact g1,g2,g3,g4,fun i h1 h2=>(g5 i h1 h2).drop hlen hX (z7l2 (zj1g hbh id cs hid) i h1)⟩
    · have hlt:id<st'.h.length:=(y0a.1 hid).1
      rw [y06,if_pos hlt]
      exact hh.dead id (by rw [e,y08 hlt]; exact hid)
    · rw [y06] at h1 h2
      split at h1<;>try (simp at h1; done)
      split at h2<;>try (simp at h2; done)
      exact hh.apart _ _ _ _ _ _ hne h1 h2
    · exact (hrep' i).drop hlen hX (zmov hbt i)
    · refine ⟨⟨by rw [List.length_take]; have:=ht.env.len; omega,fun id hid b' L' h' => ?_⟩,⟨fun ad v hc hx => ?_⟩,ht.below,ht.others,fun b hb hl=>⟨(ht.frame b hb hl).1,fun id L hL=>(ht.frame b hb hl).2 id L (z35h hL)⟩⟩
      · rw [y06] at h'
        split at h'
        · exact ht.env.at_ id hid b' L' h'
        · simp at h'
      · obtain ⟨g1,g2⟩:=ht.keep.cell ad v hc hx
        exact ⟨g1,fun g=>g2 (hX _ _ g)⟩
theorem z8f8 {X0:Forb} {base:Nat} {E0 E:Env} {w0 w w':World} {h:List AObj} {row:Option Nat} (hh:HeapRel X0 base w h E) (ht:Trans X0 base E0 w0 E w) (hb:base≤w0.heap.size)
    (hg:w.grownBy w' row) (hdr:w.drawn≤w'.drawn) (hr : ∀ r,row=some r→w0.heap.size≤r ∧ ∃ o:Obj,w.heap[r]? = some o∧o.isCells=false) :
    HeapRel X0 base w' h E∧(∀ v d,Rep E (FX X0 E) w v d→Rep E (FX X0 E) w' v d)∧Trans X0 base E0 w0 E w':=by
  have hcells : ∀ (b:Nat) (arr:Array Value) (t:TypeId) (fr:Nat × Nat),w.heap[b]? = some (.cells arr t fr)→w'.heap[b]? = some (.cells arr t fr):=fun b arr t fr hc=>by
    rw [hg.block b (Array.getElem?_eq_some_iff.1 hc).1 (fun e=>by
      obtain ⟨_,o,ho,hoc⟩:=hr b e.symm
      rw [hc] at ho; cases ho; cases hoc)]
    exact hc
  have hkeep:Keep (FX X0 E) w (FX X0 E) w':=⟨fun a v hc hx=>⟨cell_kept hc hg (fun r e=>(hr r e).2),hx⟩⟩
  have herel:ERel E w E w':=⟨y0k _,fun id hid b' L' h'=>⟨b',L',h',y0k _,fun _=>⟨rfl,fun c' t' fr' hc=>by
    obtain ⟨cs,arr,t,g1,g2,g3,g4,g5⟩:=hh.live h'
    have:=hcells _ _ _ _ g4
    rw [this] at hc; cases hc
    exact ⟨_,_,_,g4,rfl⟩⟩⟩⟩
  have hrep : ∀ v d,Rep E (FX X0 E) w v d→Rep E (FX X0 E) w' v d:=fun v d r=>r.mono herel hkeep
  refine ⟨⟨hh.len,fun b o q=>⟨Nat.lt_of_lt_of_le (hh.x0 b o q).1 hg.size,(hh.x0 b o q).2⟩,y0q hh.size hg.size,fun id cs hid => ?_,hh.dead,hh.apart⟩,hrep,?_⟩
  · obtain ⟨b,arr,t,g1,g2,g3,g4,g5⟩:=hh.cells id cs hid
    exact ⟨b,arr,t,g1,g2,hcells _ _ _ _ g3,g4,fun i h1 h2=>hrep _ _ (g5 i h1 h2)⟩
  · refine ⟨ht.env.trans herel,ht.keep.trans hkeep,⟨ht.below.bel.grown hg hh.size (fun k e=>y0q hb (hr k e).1),y0q ht.below.drn hdr⟩,⟨y0q ht.others.size hg.size,fun k o hk ho => ?_⟩,fun b hb' hl => ?_⟩
    rotate_left 1
    · obtain ⟨f1,f2⟩:=ht.frame b hb' hl
      have hlt:b<w.heap.size:=by
        rw [Array.getElem?_eq_getElem hb'] at f1
        exact (Array.getElem?_eq_some_iff.1 f1).1
      refine ⟨?_,f2⟩
      rw [hg.block b hlt (fun e=>by have:=(hr b e.symm).1; omega)]
      exact f1
    have hk':=ht.others.same k o hk ho
    rw [hg.block k (Array.getElem?_eq_some_iff.1 hk').1 (fun e=>by
      have h1:=(hr k e.symm).1
      have h2:=(Array.getElem?_eq_some_iff.1 hk).1
      omega)]
    exact hk'
section
variable {P:Program} {X0:Forb} {base:Nat} {E0:Env} {w0:World}
end
theorem zlrv {P:Program} (hmix:P.follows .mixedOrders=true) {X0:Forb} {base:Nat} {E0:Env} {w0:World} : ∀ (c:Code) (ac:ACode),zwv5 P c=some ac → ∀ (Φ:AExit→St→Prop) (st:St) (a:Act) (w:World),awp P E0.length ac Φ st →
    SR X0 base E0 w0 st a w→c.wp P (AQ X0 base E0 w0 Φ) a w
  | .skip,ac,hc,Φ,st,a,w,h,hr=>by
    simp [zwv5] at hc; subst hc
    exact wp_skip ⟨st,h,hr⟩
  | .region id ops draw,ac,hc,Φ,st,a,w,h,hr=>by
    simp only [zwv5,y00] at hc
    obtain ⟨l,hl,hc⟩:=hc
    cases draw with
    | true =>
      simp only [if_true] at hc
      split at hc
      · rename_i hd
        simp at hc; subst hc
        simp only [awp,if_true] at h
        exact zokc (fun st a w h1 h2=>⟨st,h1,h2⟩) hmix l hl 2 _ rfl hd st a w h hr
      split at hc
      · rename_i hd
        simp only [y03] at hd
        simp at hc; subst hc
        simp only [awp,if_true] at h
        exact zokc (fun st a w h1 h2=>⟨st,h1,h2⟩) hmix l hl 3 _ rfl hd.2 st a w h hr
      split at hc
      · rename_i hd
        simp at hc; subst hc
        simp only [awp,if_true] at h
        exact zokc (fun st a w h1 h2=>⟨st,h1,h2⟩) hmix l hl 1 _ rfl hd st a w h hr
      split at hc
      · rename_i hd
        simp at hc; subst hc
        simp only [awp,if_true] at h
        exact zokc (fun st a w h1 h2=>⟨st,h1,h2⟩) hmix l hl 0 _ rfl hd st a w h hr
      · simp at hc
    | false =>
      simp only [y0j,if_false] at hc
      simp at hc; subst hc
      simp only [awp,y0j,if_false] at h
      exact wp_region_list (zn4i (fun st a w h1 h2=>⟨st,h1,h2⟩) ops.toList l hl st a w h hr)
  | .seq x y,ac,hc,Φ,st,a,w,h,hr=>by
    simp only [zwv5,y00,y01] at hc
    obtain ⟨ax,hx,ay,hy,rfl⟩:=hc
    simp only [awp] at h
    refine wp_seq (wp_mono (zlrv hmix x ax hx _ st a w h hr) fun e a' w' hq => ?_)
    cases e with
    | normal=>obtain ⟨st',h1,h2⟩:=hq; exact zlrv hmix y ay hy Φ st' a' w' h1 h2
    | exit id=>exact hq
    | ret=>exact hq
    | goto l=>exact hq.elim
    | panic ch=>exact hq.elim
    | outgrown=>exact hq.elim
  | .cond c x y,ac,hc,Φ,st,a,w,h,hr=>by
    simp only [zwv5,y00,y01] at hc
    obtain ⟨c',hcc,ax,hx,ay,hy,rfl⟩:=hc
    simp only [awp] at h
    have hrep:=hr
    obtain ⟨E,hh,hsz,hrep,hdef,ht⟩:=hrep
    have rc:=zc82 hrep c c' hcc
    split at h<;>try (exact h.elim)
    rename_i b hb
    rw [hb] at rc
    generalize hv:a.eval c=v at rc
    cases rc
    refine wp_cond hv ?_
    cases b with
    | true=>exact zlrv hmix x ax hx Φ st a w (h.1 rfl) hr
    | false=>exact zlrv hmix y ay hy Φ st a w (h.2 rfl) hr
  | .block id c,ac,hc,Φ,st,a,w,h,hr=>by
    simp only [zwv5,y01] at hc
    obtain ⟨ax,hx,rfl⟩:=hc
    simp only [awp] at h
    refine wp_block (wp_mono (zlrv hmix c ax hx _ st a w h hr) fun e a' w' hq => ?_)
    cases e with
    | normal=>exact hq
    | exit i =>
      obtain ⟨st',h1,h2⟩:=hq
      change if i=id then Φ .normal st' else Φ (.exit i) st' at h1
      simp only [Exit.inBlock]
      by_cases e:i=id
      · rw [if_pos e] at h1 ⊢; exact ⟨st',h1,h2⟩
      · rw [if_neg e] at h1 ⊢; exact ⟨st',h1,h2⟩
    | ret=>exact hq
    | goto l=>exact hq.elim
    | panic ch=>exact hq.elim
    | outgrown=>exact hq.elim
  | .loop c,ac,hc,Φ,st,a,w,h,hr=>by
    simp only [zwv5,y01] at hc
    obtain ⟨ax,hx,rfl⟩:=hc
    simp only [awp] at h
    obtain ⟨I,n,st0,hw,h0,hround⟩:=h
    refine wp_loop_ghost (fun n a w => ∃ st,I n st∧SR X0 base E0 w0 st a w) n ⟨st0,h0,hr.weak hw⟩ ?_
    rintro n a w ⟨st,hI,hr⟩
    refine wp_mono (zlrv hmix c ax hx _ st a w (hround n st hI) hr) fun e a' w' hq => ?_
    cases e with
    | normal =>
      obtain ⟨st',⟨n',st'',hw',hlt,hI'⟩,hr'⟩:=hq
      exact ⟨n',hlt,st'',hI',hr'.weak hw'⟩
    | exit i=>exact hq
    | ret=>exact hq
    | goto l=>exact hq.elim
    | panic ch=>exact hq.elim
    | outgrown=>exact hq.elim
  | .exit id,ac,hc,Φ,st,a,w,h,hr=>by
    simp [zwv5] at hc; subst hc
    exact wp_exit ⟨st,h,hr⟩
  | .ret,ac,hc,Φ,st,a,w,h,hr=>by
    simp [zwv5] at hc; subst hc
    exact wp_ret ⟨st,h,hr⟩
  | .rangeFunc g ps assign body,ac,hc,Φ,st,a,w,h,hr=>by simp [zwv5] at hc
  | .scope ..,ac,hc,_,_,_,_,_,_=>by simp [zwv5] at hc
  | .label ..,ac,hc,_,_,_,_,_,_=>by simp [zwv5] at hc
  | .goto ..,ac,hc,_,_,_,_,_,_=>by simp [zwv5] at hc
  | .refuse ..,ac,hc,_,_,_,_,_,_=>by simp [zwv5] at hc
inductive ARes where
  | tmp (t:Nat)
  | cell (t n:Nat) (agg:Bool)
  deriving Inhabited
def zeyt (P:Program):ResultVar→Option ARes
  | .tmp t=>some (.tmp t)
  | .cell t ty=>(szT P ty).bind fun n=>(aggT P ty).map fun a => .cell t n a
structure AFn where
  code:ACode
  ntmps:Nat
  res:List ARes
  deriving Inhabited
def zsjc (P:Program) (fn:Func):Option AFn :=
  if fn.name == "runtime.NumGoroutine" then none else
  fn.body.bind fun c=>(zwv5 P c).bind fun ac=>(zp5p (zeyt P) fn.results.toList).map fun rs=>⟨ac,fn.ntmps,rs⟩
def z16h (st:St):ARes→Option DV
  | .tmp t=>some (st.t.getD t .junk)
  | .cell t n agg=>(vis st.h (st.t.getD t .junk)).bind fun cs=>Am.oneC n agg cs
def zxgc (rs:List ARes) (st:St):Option DV :=
  (zp5p (z16h st) rs).map fun l=>match l with
    | [d]=>d
    | l => .tup l
def zr5g (n:Nat) (args:List DV):List DV:=args++List.replicate (n-args.length) (.tup [])
def RetA (rs:List ARes) (Ψ:DV→List AObj→Prop):AExit→St→Prop
  | .normal,st => ∃ d,zxgc rs st=some d∧Ψ d st.h
  | .ret,st => ∃ d,zxgc rs st=some d∧Ψ d st.h
  | _,_=>False
def resF (tm:Array Value):ResultVar→Go.Sem Value
  | .tmp t=>pure (tm.getD t undef)
  | .cell a t=>do loadVar t (← asAddr (tm.getD a undef))
theorem z18t (fn:Func) (tm:Array Value):results fn tm=(do
    let vs ← fn.results.mapM (resF tm)
    pure (if h:vs.size=1 then vs[0] else .tuple vs)):=by
  have e : ∀ (g:ResultVar→Go.Sem Value),(∀ r,g r=resF tm r)→(do
    let vs ← fn.results.mapM g
    pure (if h:vs.size=1 then vs[0] else .tuple vs))=(do
    let vs ← fn.results.mapM (resF tm)
    pure (if h:vs.size=1 then vs[0] else .tuple vs):Go.Sem Value):=fun g hg=>by rw [show g=resF tm from funext hg]
  exact e _ (fun r=>by cases r<;>rfl)
theorem zspk {P:Program} {X0:Forb} {base:Nat} {w:World} {h:List AObj} {E:Env} (hh:HeapRel X0 base w h E) {tm:Array Value} {ts:List DV} (hrep:RepL E (FX X0 E) w tm ts) : ∀ (rs:List ResultVar) (as:List ARes),zp5p (zeyt P) rs=some as → ∀ (l:List DV),zp5p (z16h ⟨ts,h⟩) as=some l →
    ∃ vs:List Value,(rs.mapM (resF tm)).run P w = .ok vs w∧RepA E (FX X0 E) w vs l
  | [],as,hm,l,hl=>by
    simp [zp5p] at hm; subst hm
    simp [zp5p] at hl; subst hl
    exact ⟨[],by simp,RepA.nil⟩
  | r::rs,as,hm,l,hl=>by
    simp only [zp5p,y00,y01] at hm
    obtain ⟨a,ha,as',has,rfl⟩:=hm
    simp only [zp5p,y00,y01] at hl
    obtain ⟨d,hd,l',hl',rfl⟩:=hl
    obtain ⟨vs,h1,h2⟩:=zspk hh hrep rs as' has l' hl'
    have head : ∃ v,(resF tm r).run P w = .ok v w∧Rep E (FX X0 E) w v d:=by
      cases r with
      | tmp t =>
        simp [zeyt] at ha; subst ha
        simp [z16h] at hd; subst hd
        exact ⟨_,rfl,by simpa using hrep t⟩
      | cell t ty =>
        simp only [zeyt,y00,y01] at ha
        obtain ⟨n,hn,ag,hag,rfl⟩:=ha
        simp only [z16h,y00] at hd
        obtain ⟨cs,hv,ho⟩:=hd
        obtain ⟨ad,us,e,hra,hc⟩:=zn2t hh (hrep t) hv
        obtain ⟨v,g1,g2⟩:=zomq (P:=P) ho hra hn hag hc
        refine ⟨v,?_,g2⟩
        simp only [resF,e,asAddr,Sem.run_bind,Sem.run_pure,Result.andThen_ok,g1]
    obtain ⟨v,g1,g2⟩:=head
    refine ⟨v::vs,?_,RepA.cons g2 h2⟩
    simp only [List.mapM_cons,Sem.run_bind,g1,Result.andThen_ok,h1,Sem.run_pure]
theorem z9f3 {P:Program} {fn:Func} {tmps:Array Value} {R:Ending→World→Prop} {n0:Nat} {S:World→Prop} (hS : ∀ w D,S w→n0≤D→w.heap[D]? = some (.deferred (some []))→S (w.putObj D (.deferred none)))
    (hfin : ∀ w,S w → ∃ v,(results fn tmps).run P w = .ok v w∧R (.returned v) w) (ds:List Deferred) (w:World) (hm:ze41 n0 w ds) (hs:S w):LeavesInM Fence.wide 0 P fn tmps R ds .returning w:=by
  obtain ⟨l,rfl,hn,h⟩:=hm
  induction l generalizing w with
  | nil=>exact hfin w hs
  | cons D l ih =>
    have h0:=h D (by simp)
    refine ⟨by simp,.inl ⟨D,w.putObj D (.deferred none),rfl,run_takeDeferred h0.2,ih _ (hS w D hs h0.1 h0.2) (List.nodup_cons.1 hn).2 (fun D' hD' => ?_)⟩⟩
    have hne:D'≠D:=fun e=>(List.nodup_cons.1 hn).1 (e▸hD')
    exact ⟨(h D' (by simp [hD'])).1,by rw [World.putObj_heap_other hne]; exact (h D' (by simp [hD'])).2⟩
theorem zk97 {P:Program} (hmix:P.follows .mixedOrders=true) {f:FuncId} {fn:Func} (hf:P.funcs[f]? = some fn) {af:AFn} (hc:zsjc P fn=some af) {args:List DV} {h:List AObj} {Ψ:DV→List AObj→Prop}
    (hb:awp P h.length af.code (RetA af.res Ψ) ⟨zr5g af.ntmps args,h⟩):zwy1 P f args h Ψ:=by
  unfold zsjc at hc
  split at hc
  · simp at hc
  · rename_i hname
    simp only [y00,y01] at hc
    obtain ⟨c,hbody,ac,hac,rs,hrs,rfl⟩:=hc
    refine fun X0 base w E vs hh hr => .of_ent (z36x hf (by simpa using hname) hbody) ?_
    refine callsIn_wide.1 (callsIn_of_wp_marks (F:=Fence.wide) (n:=0) hf hbody trivial (wpIn_wide.2 ?_) rfl)
    have hsz:vs.size=args.length:=by simpa using hr.1
    have hSR:SR X0 base E w ⟨zr5g fn.ntmps args,h⟩ { tmps:=vs++Array.replicate (fn.ntmps-vs.size) undef,defers:=[] } w:=by
      refine ⟨E,hh,by simp [zr5g,hsz],fun i => ?_,.nil,.refl _ _ _ _⟩
      simp only [zr5g]
      rw [Array.getD_eq_getD_getElem?,y02]
      by_cases hi:i<vs.size
      · rw [Array.getElem?_append_left hi,y08 (by omega),Array.getElem?_eq_getElem hi,y04 (by omega)]
        have:=hr.2 i (by simpa using hi) (by omega)
        simpa using this
      · rw [Array.getElem?_append_right (by omega),y0d (by omega),hsz]
        by_cases hj:i-args.length<fn.ntmps-args.length
        · simp [hj]; exact zids
        · simp [hj]; exact .junk _
    have hlen:E.length=h.length:=hh.len
    rw [← hlen] at hb
    refine wp_mono (zlrv hmix c ac hac _ _ _ w hb hSR) fun e a' w' hq => ?_
    have fin : ∀ st,(∃ d,zxgc rs st=some d∧Ψ d st.h)→SR X0 base E w st a' w'→LeavesInM Fence.wide 0 P fn a'.tmps (fun e w' => ∃ v r h' E',e = .returned v∧Ψ r h'∧HeapRel X0 base w' h' E'∧Rep E' (FX X0 E') w' v r∧Trans X0 base E w E' w') a'.defers .returning w':=by
      rintro st ⟨d,hd,hΨ⟩ ⟨E',hh',hsz',hrep',hdef',ht'⟩
      refine z9f3 (S:=fun W => ∃ E',HeapRel X0 base W st.h E'∧RepL E' (FX X0 E') W a'.tmps st.t∧Trans X0 base E w E' W) (n0:=w.heap.size) ?_ ?_ a'.defers w' hdef' ⟨E',hh',hrep',ht'⟩
      · rintro W D ⟨E1,k1,k2,k3⟩ hD ho
        obtain ⟨g1,g2,g3⟩:=z8f8 k1 k3 hh.size (grownBy_putObj' W D (.deferred none)) (y0k _) (fun r e=>by cases e; exact ⟨hD,_,ho,rfl⟩)
        exact ⟨E1,g1,fun i=>g2 _ _ (k2 i),g3⟩
      clear hh' hrep' ht' hdef'
      rintro w' ⟨E',hh',hrep',ht'⟩
      unfold zxgc at hd
      obtain ⟨l,hl,hd⟩:=y01.1 hd
      obtain ⟨us,g1,g2⟩:=zspk hh' hrep' fn.results.toList rs hrs l hl
      have hl0:=g2.1
      have hrun : ∀ v,(if h:us.length=1 then us[0] else Value.tuple us.toArray)=v→(results fn a'.tmps).run P w' = .ok v w':=by
        intro v hv
        rw [z18t,Array.mapM_eq_mapM_toList,← hv]
        simp [g1]
      match l,us,hl0,g2,hd,hrun with
      | [x],[u],_,g2,hd,hrun =>
        simp at hd; subst hd
        exact ⟨u,hrun u (by simp),u,x,st.h,E',rfl,hΨ,hh',g2.head,ht'⟩
      | [],[],_,g2,hd,hrun =>
        simp at hd; subst hd
        exact ⟨_,hrun _ rfl,_,_,st.h,E',rfl,hΨ,hh',by simpa using g2.tup,ht'⟩
      | x::y::l,u::u'::us,_,g2,hd,hrun =>
        simp at hd; subst hd
        exact ⟨_,hrun _ rfl,_,_,st.h,E',rfl,hΨ,hh',by simpa using g2.tup,ht'⟩
    cases e with
    | normal=>obtain ⟨st,h1,h2⟩:=hq; exact fin st h1 h2
    | ret=>obtain ⟨st,h1,h2⟩:=hq; exact fin st h1 h2
    | exit id=>obtain ⟨st,h1,h2⟩:=hq; exact h1.elim
    | goto l=>exact hq.elim
    | panic ch=>exact hq.elim
    | outgrown=>exact hq.elim
theorem zzfj {P:Program} {f:FuncId} {args:List DV} {r:DV} (hc:zwy1 P f args [] (fun d h'=>snap h' 3 d=some r)):Sem P f args r:=by
  refine fun X w vs hX hr => ?_
  have hh:HeapRel X w.heap.size w [] []:=⟨rfl,fun b o q=>⟨hX b o q,fun id L hL=>by simp at hL⟩,y0k _,fun id cs hid=>by simp at hid,fun id hid=>by simp at hid,fun id id' b L b' L' _ h1=>by simp at h1⟩
  have hfx : ∀ b o,FX X [] b o→X b o:=by
    rintro b o (g|⟨id,L,g⟩)
    · exact g
    · simp at g
  refine (hc X w.heap.size w [] vs hh ⟨hr.1,fun i h1 h2=>(hr.2 i h1 h2).less hfx⟩).mono fun e w' ⟨v,d,h',E',e1,e2,e3,e4,e5⟩ => ?_
  exact ⟨v,e1,z084 e3 3 e4 e2,e5.below⟩
theorem zqba {P:Program} (hmix:P.follows .mixedOrders=true) {f:FuncId} {fn:Func} (hf:P.funcs[f]? = some fn) {af:AFn} (hc:zsjc P fn=some af) {args:List DV} {r:DV}
    (hb:awp P 0 af.code (RetA af.res fun d h'=>snap h' 3 d=some r) ⟨zr5g af.ntmps args,[]⟩):Sem P f args r :=
  zzfj (zk97 hmix hf hc hb)
end Go.Am
