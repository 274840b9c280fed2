/-
  22 texts of mine in one.
-/
import Derived.Test.YtjknipdiglpnlaaCcd3143aa
import Derived.Test.YtjknipdiglpnlaaCe656babf
import Derived.Test.YtjknipdiglpnlaaCf7009e0f
import Derived.Test.YtjknipdiglpnlaaC5d3ebb32
set_option maxRecDepth 20000
set_option maxHeartbeats 4000000
open List renaming map_take → zA, map_drop → zB, map_set → zC, map_append → zD, drop_one → zE
open Bool renaming and_self → y0m
open Int renaming tmod_eq_emod_of_nonneg → y0n, toNat_natCast → y12, natCast_inj → y17, toNat_of_nonneg → y1c
open List renaming cons_append → y00, take_succ_eq_append_getElem → y01, nil_append → y02, take_of_length_le → y03, length_cons → y04, length_map → y05, length_take → y06, append_nil → y07, length_append → y08, drop_eq_getElem_cons → y09, length_singleton → y0a, length_nil → y0b, drop_of_length_le → y0c, drop_zero → y0d, concat_eq_append → y0e, getElem_append_right → y0f, length_set → y0h, getElem_mem → y0i, set_append_right → y0j, length_filter_le → y0k, filter_append → y0p, append_assoc → y0q, mem_cons → y0r, take_append_drop → y0s, eq_nil_or_concat → y0t, length_replicate → y0u, map_append → y0v, eq_nil_of_length_eq_zero → y0w, getElem_of_mem → y0x, set_cons_succ → y0y, map_cons → y0z, getElem?_append_right → y10, getD_eq_getElem?_getD → y11, length_filterMap_le → y14, length_drop → y15, getElem?_eq_getElem → y16, getElem_cons_zero → y18, filterMap_append → y19, singleton_append → y1a, length_pos_iff → y1b, mem_map → y1d
open Nat renaming le_refl → y0g, zero_add → y0o, le_trans → y13, le_of_eq → y1e, zero_le → y1f
open Option renaming bind_some → y0l
namespace Go.Proofs.Ytjknipdiglpnlaa
section
set_option linter.unusedSimpArgs false
set_option linter.unusedVariables false
open Go Go.Am
noncomputable def T921 (F:SF):Tbl:=addT 56 (.pure (cGix F)) tbl0
theorem z2ua (F:SF):T921 F 56 = .pure (cGix F):=by simp [T921]
theorem zevv (F:SF):(T921 F).Sound P:=z0rp (zfcd F) zr5o
structure GA where
 i:Nat
 sl:List Slt
 objs:List (List Vot)
def S921 (F:SF) (U:Sl Vot) (a:GA):St:=z8ja (.mp 0 1 0) (oV 1 1 a.sl) (U.dv 4 voC) (.int .i64 U.l.length) (.int .i64 a.i) (.cells [F.dv]::gR a.sl a.objs)
def gI (F:SF) (U:Sl Vot) (a:GA):Prop:=a.i≤U.l.length∧GI F (U.l.take a.i) a.sl a.objs
theorem zzgd {C:List DV} {k:Nat} {v:DV} (h:k<C.length):zk7y C k [v]=C.set k v:=by
 unfold zk7y
 rw [List.set_eq_take_append_cons_drop,if_pos h]; simp
theorem zifj {x:Vot}:bslD 4 1 [.str [],.str [],.nils,.nils] [(0,4,.agg (voC x))]=some (.sl true 4 1 (voC x)):=by
 have h1:=zu4u x
 simp [bslD,zi03,zk7y,reps,h1,y0c]
theorem zmtd {d:DV} (hc:d.cells=[d]) (hk:d.known=true):bslD 1 1 [.nils] [(0,1,d)]=some (.sl true 1 1 [d]):=by
 simp [bslD,zi03,zk7y,reps,hc,hk]
def GrT:ACode:=match zx0e with
 | .seq _ (.seq _ (.seq (.block _ (.seq _ (.seq _ y))) _))=>y
 | _ => .skip
def GrR:ACode:=match zx0e with
 | .seq _ (.seq _ (.seq _ y))=>y
 | _ => .skip
theorem appR {F:SF} {sl:List Slt} {objs:List (List Vot)} {c:Slt} (hb:sl.length+1≤4294967296) (hn:sl=[]→objs=[]):appX (.cells [F.dv]::gR sl objs) 1 24 (oV 1 1 sl) 1 [cel c]=some (oV 1 1 (sl++[c]),.cells [F.dv]::gR (sl++[c]) objs):=by
 by_cases e:sl=[]
 ·have:=hn e
  subst e; subst this
  have:=zte0 (k:=1) (K:=1) (f:=cC) (b:=24) (l:=[]) (x:=c) (h:=[AObj.cells [F.dv]]) rfl z8cu (by decide) (by decide) (fun _=>zhlf) (by simp)
  simpa [gR,cC] using this
 ·have ho:objV (.cells [F.dv]::gR sl objs) 1 (sl.length*1)=some (fl cC sl):=by
   rw [gR,zu2l e]; unfold objV ziu0; simp [z8lx z8cu]
  have:=zkg3 (h := .cells [F.dv]::gR sl objs) (id:=1) (b:=24) (l:=sl) (x:=c) z8cu (by decide) (by decide) (fun _=>zhlf) hb ho
  rw [zpni e,zpni (by simp),y08,y0a]
  rw [show cC c=[cel c] from rfl] at this
  rw [this]
  simp only [gR,zu2l e,zu2l (show sl++[c]≠[] by simp),y00,y02,y0y,List.set_cons_zero]
theorem zj3o {F:SF} {U:Sl Vot} {a:GA} {sl:List Slt} {objs:List (List Vot)} (h:a.i<U.l.length) (hg:GI F (U.l.take (a.i+1)) sl objs) {Φ0:AExit→St→Prop} :
  V P 0 GrR (z13e 0 (S921 F U) (fun a=>U.l.length-a.i) (gI F U) a Φ0) ⟨[.junk,.junk,.junk,.mp 0 1 0,.junk,oV 1 1 sl,.junk,.junk,.junk,U.dv 4 voC,.int .i64 U.l.length,.int .i64 a.i]++js 25,.cells [F.dv]::gR sl objs⟩:=by
 have hb:=U.b
 simp only [GrR,zx0e]
 refine V_W mix (zevv F) ?_
 simp (disch:=first|omega|simp<;>omega|fail) [-zA,-zB,-zC,-zD,-zE]
 exact ⟨⟨a.i+1,sl,objs⟩,z515 (by simp (disch:=first|omega|simp<;>omega|fail) [-zA,-zB,-zC,-zD,-zE,S921,z8ja]) (by simp (disch:=first|omega|simp<;>omega|fail) [-zA,-zB,-zC,-zD,-zE,S921,z8ja]),by simp only; omega,by simp only; omega,hg⟩
theorem zq0c {F:SF} {U:Sl Vot} {a:GA} {x:Vot} {n:Int} (h:a.i<U.l.length) (hx:U.l[a.i]=x) (g:GI F (U.l.take a.i) a.sl a.objs) (hn:fIx (hdP F x) (grpG F.s (U.l.take a.i))=n) {Φ0:AExit→St→Prop} :
  V P 0 GrT (z0mx 1 (z2pk P 0 GrR (z13e 0 (S921 F U) (fun a=>U.l.length-a.i) (gI F U) a Φ0)))
   ⟨[.junk,.junk,.junk,.mp 0 1 0,.junk,oV 1 1 a.sl,.junk,.ref (voC x),.int .i64 n,U.dv 4 voC,.int .i64 U.l.length,.int .i64 a.i]++js 25,.cells [F.dv]::gR a.sl a.objs⟩:=by
 have hb:=U.b
 have hgs:=ziua (s:=F.s) (U.l.take a.i)
 have htl:(U.l.take a.i).length=a.i:=by rw [y06]; omega
 have hgl:(grpG F.s (U.l.take a.i)).length=a.sl.length:=by rw [← g.gs,y05]
 have hsl:a.sl.length≤a.i:=by have:=hgs.2; omega
 have hsnoc:U.l.take (a.i+1)=U.l.take a.i++[x]:=by rw [y01 h,hx]
 have fin:=fun sl objs q Φ0=>zj3o (F:=F) (U:=U) (a:=a) (sl:=sl) (objs:=objs) (Φ0:=Φ0) h (by rw [hsnoc]; exact q)
 simp only [GrT,zx0e]
 refine zbn1 (V_W mix (zevv F) ?_)
 simp (disch:=first|omega|simp<;>omega|fail) [-zA,-zB,-zC,-zD,-zE]
 refine V_W mix (zevv F) ?_
 rcases za4c (hdP F x) (grpG F.s (U.l.take a.i)) with ⟨h1,h2⟩|⟨k,hk,h1,h2,h3⟩
 ·rw [h1] at hn
  subst hn
  have hap:=appR (F:=F) (c:=(none,[x])) (objs:=a.objs) (by omega:a.sl.length+1≤4294967296) g.nil
  rw [show cel (none,[x]) = .sl true 4 1 (voC x) by simp [cel]] at hap
  have hv : ∀ H,visY H (.sl true 1 1 [.sl true 4 1 (voC x)])=some (1,[.sl true 4 1 (voC x)]):=fun H=>by simp [visY]
  have hbs:=zmtd (d := .sl true 4 1 (voC x)) rfl rfl
  have hG:=g.new h2
  simp (disch:=first|omega|simp<;>omega|fail) [-zA,-zB,-zC,-zD,-zE,zifj,hbs,hv,hap]
  exact zqfd (z515 (by simp (disch:=first|omega|simp<;>omega|fail) [-zA,-zB,-zC,-zD,-zE]) (by simp (disch:=first|omega|simp<;>omega|fail) [-zA,-zB,-zC,-zD,-zE])) (fin _ _ hG _)
 ·rw [h1] at hn
  subst hn
  have hk':k<a.sl.length:=by omega
  have he : ∀ j (h:j<a.sl.length),(grpG F.s (U.l.take a.i))[j]'(by omega)=a.sl[j].2:=fun j h=>by simp only [← g.gs,List.getElem_map]
  rw [he k hk'] at h2
  have hG:=g.grow hk' h2 (fun j h hj=>by rw [← he j h]; exact h3 j (by omega) hj)
  have hne:a.sl≠[]:=fun e=>by rw [e] at hk'; simp at hk'
  have hin:a.sl[k].2.length≤a.i:=by
   have:=(hgs.1 a.sl[k].2 (by rw [← he k hk']; exact y0i _)).2
   omega
  have hnk:¬ (k:Int)<0:=by omega
  have hgR:gR a.sl a.objs = .cells (a.sl.map cel)::a.objs.map oG:=by rw [gR,zu2l hne,zw5k]; rfl
  have hov:oV 1 1 a.sl = .ms 1 a.sl.length 0 1 a.sl.length a.sl.length:=by rw [zpni hne,Nat.mul_one]
  have hld:oneC 1 false ((a.sl.map cel).drop k)=some (cel a.sl[k]):=by
   rw [y09 (by simpa using hk'),List.getElem_map]; rfl
  have hv : ∀ H,visY H (.sl true 4 1 (voC x))=some (1,voC x):=fun H=>by simp [visY]
  have hCl:(a.sl.map cel).length=a.sl.length:=by simp
  have hst : ∀ (H:List AObj) (v:DV),v.cells=[v]→v.one=true→zy6o H 1 1 k v (some (a.sl.map cel))=some (.junk,H.set 1 (.cells ((a.sl.map cel).set k v))):=fun H v hc ho=>by
   rw [storeO_1 hc ho (by rw [hCl]; exact hk'),zzgd (by rw [hCl]; exact hk')]
  have hset : ∀ c:Slt,(a.sl.set k c).map cel=(a.sl.map cel).set k (cel c):=fun c=>by rw [List.map_set]
  have hne2 : ∀ c:Slt,a.sl.set k c≠[]:=fun c e=>hne (by simpa using e)
  have hov2 : ∀ c:Slt,oV 1 1 (a.sl.set k c) = .ms 1 a.sl.length 0 1 a.sl.length a.sl.length:=fun c=>by rw [zpni (hne2 c),Nat.mul_one,y0h]
  have hgR2 : ∀ (c:Slt) (o:List (List Vot)),gR (a.sl.set k c) o = .cells ((a.sl.map cel).set k (cel c))::o.map oG:=fun c o=>by rw [gR,zu2l (hne2 c),zw5k,hset]; rfl
  obtain ⟨C,hC⟩ : ∃ C,a.sl.map cel=C:=⟨_,rfl⟩
  obtain ⟨N,hN⟩ : ∃ N,a.sl.length=N:=⟨_,rfl⟩
  rw [hgR,hov]
  rw [hC] at hld hCl hst ⊢
  simp only [hC,hN] at hov2 hgR2
  rw [hN] at hCl hk' ⊢
  cases q:a.sl[k].1 with
  | none =>
   have hG:=hG.1 q
   have h1:=g.one _ (y0i _) q
   obtain ⟨y,hy⟩ : ∃ y,a.sl[k].2=[y]:=by
    match h:a.sl[k].2,h1 with
    | [y],_=>exact ⟨y,rfl⟩
   have hcel:cel a.sl[k] = .sl true 4 1 (voC y):=by unfold cel; rw [q,hy]; simp
   rw [hcel] at hld
   rw [hy] at hG
   have fin:=fin _ _ hG Φ0
   rw [hov2,hgR2,y0v] at fin
   have hc2:cel (some a.objs.length,[y]++[x]) = .ms (a.objs.length+2) 8 0 4 2 8:=by simp [cel]; omega
   have ho2:[[y]++[x]].map oG=[.cells (voC y++voC x)]:=by simp [oG,fl]
   rw [hc2,ho2] at fin
   have hap : ∀ O:List AObj,appX (.cells [F.dv] :: .cells C::O) 4 80 (.sl true 4 1 (voC y)) 1 (voC x)=some (.ms (O.length+2) 8 0 4 2 8,.cells [F.dv] :: .cells C::(O++[.cells (voC y++voC x)])):=fun O=>by
    simp [appX,big]
   have hap:=hap (a.objs.map oG)
   rw [y05] at hap
   simp (disch:=first|omega|simp<;>omega|fail) [-zA,-zB,-zC,-zD,-zE,zifj,hnk,hk',hCl,hld,hv,hap,hst]
   exact zqfd (z515 (by simp (disch:=first|omega|simp<;>omega|fail) [-zA,-zB,-zC,-zD,-zE]) (by simp (disch:=first|omega|simp<;>omega|fail) [-zA,-zB,-zC,-zD,-zE])) fin
  | some j =>
   have hG:=hG.2 j q
   obtain ⟨b1,b2⟩:=g.big k (by omega) j q
   have hcel:cel a.sl[k] = .ms (2+j) (a.sl[k].2.length*4) 0 4 a.sl[k].2.length (a.sl[k].2.length*4):=by unfold cel; rw [q]
   rw [hcel] at hld
   have hj:=(List.getElem?_eq_some_iff.1 b1).1
   have hob:=z01d (a := .cells [F.dv]) (b := .cells C) (r:=[]) b1
   rw [y07] at hob
   obtain ⟨g0,hg0⟩ : ∃ g0,a.sl[k].2=g0:=⟨_,rfl⟩
   rw [hg0] at hld hG hob b2 hin
   have fin:=fin _ _ hG Φ0
   rw [hov2,hgR2,List.map_set] at fin
   have hap:=zkg3 (h := .cells [F.dv] :: .cells C::a.objs.map oG) (id:=2+j) (b:=80) (l:=g0) (x:=x) zu4u (by decide) (by decide) (fun _=>z0cw) (by omega) hob
   rw [show 2+j=j+1+1 by omega,y0y,y0y] at hap
   rw [show 2+j=j+1+1 by omega] at hld
   have hc2:cel (some j,g0++[x]) = .ms (j+1+1) ((g0.length+1)*4) 0 4 (g0.length+1) ((g0.length+1)*4):=by simp [cel]; omega
   rw [hc2,show oG (g0++[x]) = .cells (fl voC (g0++[x])) from rfl] at fin
   simp (disch:=first|omega|simp<;>omega|fail) [-zA,-zB,-zC,-zD,-zE,zifj,hnk,hk',hCl,hld,hv,hap,hst]
   exact zqfd (z515 (by simp (disch:=first|omega|simp<;>omega|fail) [-zA,-zB,-zC,-zD,-zE]) (by simp (disch:=first|omega|simp<;>omega|fail) [-zA,-zB,-zC,-zD,-zE])) fin
end
section
set_option linter.unusedSimpArgs false
set_option linter.unusedVariables false
open Go Go.Am
theorem zy3o (F:SF) (U:Sl Vot):V P 0 a32.code (retK a32.res ((grpD (grpG F.s U.l)).dv 1 gC)) ⟨zr5g a32.ntmps [U.dv 4 voC,F.dv],[]⟩:=by
 have hb:=U.b
 have hF1:F.dv.one=true:=rfl
 have hF2:F.dv.known=true:=rfl
 have hF3:zyp8 F.dv=true:=by simp [SF.dv,zyp8,zbao]
 have hF4:F.dv.cells=[F.dv]:=rfl
 refine zbn1 (V_W mix (zevv F) ?_)
 simp (disch:=first|omega|simp<;>omega|fail) [-zA,-zB,-zC,-zD,-zE,a32,boxD,hF1,hF2,hF4]
 refine zbn1 (V_W mix (zevv F) ?_)
 simp (disch:=first|omega|simp<;>omega|fail) [-zA,-zB,-zC,-zD,-zE]
 refine zbn1 (zbn1 (V_W mix (zevv F) ?_))
 simp (disch:=first|omega|simp<;>omega|fail) [-zA,-zB,-zC,-zD,-zE]
 refine z3mo (ztbr (S921 F U) (fun a=>U.l.length-a.i) (gI F U) ⟨0,[],[]⟩ (z515 (by simp (disch:=first|omega|simp<;>omega|fail) [-zA,-zB,-zC,-zD,-zE,S921,z8ja,zl8p]) (by simp (disch:=first|omega|simp<;>omega|fail) [-zA,-zB,-zC,-zD,-zE,S921,z8ja,gR,zkrk])) ⟨by simp,by simp only [List.take_zero]; exact ⟨rfl,fun c hc=>by simp at hc,fun k hk=>by simp at hk,fun k _ hk=>by simp at hk,fun _=>rfl⟩⟩ (fun a ha => ?_))
 obtain ⟨hi,g⟩:=ha
 simp only [S921]
 refine zbn1 (V_W mix (zevv F) ?_)
 by_cases h:a.i<U.l.length
 case neg =>
  have h':¬ (a.i:Int)<U.l.length:=by omega
  have hsn:=g.snap_out (by rw [y06]; omega) (a := .cells [F.dv]) (r:=[])
  rw [y07,y03 (show U.l.length≤a.i by omega)] at hsn
  simp (disch:=first|omega|simp<;>omega|fail) [-zA,-zB,-zC,-zD,-zE,zx0e,z8ja,h,h']
  refine zbn1 (V_W mix (zevv F) ?_)
  simp (disch:=first|omega|simp<;>omega|fail) [-zA,-zB,-zC,-zD,-zE,h,h']
  refine V_W mix (zevv F) ?_
  simp (disch:=first|omega|simp<;>omega|fail) [-zA,-zB,-zC,-zD,-zE,hsn]
 have h':(a.i:Int)<U.l.length:=by omega
 have hg : ∀ H,zpsc H 4 (U.dv 4 voC) a.i=some (.ref (voC U.l[a.i])):=fun H=>zalo zu4u h
 have tail:=fun n q Φ0=>zq0c (F:=F) (U:=U) (a:=a) (n:=n) (Φ0:=Φ0) h rfl g q
 have htl:(U.l.take a.i).length=a.i:=by rw [y06]; omega
 have hsum:=ziua (s:=F.s) (U.l.take a.i)
 have hgl:(grpD (grpG F.s (U.l.take a.i))).l=(grpG F.s (U.l.take a.i)).map gSl:=zm38 (by have:=hsum.2; omega)
 have hcall:=z7rj (F:=F) (v:=U.l[a.i]) (x:=grpD (grpG F.s (U.l.take a.i))) (fun q hq=>by
  rw [hgl] at hq
  obtain ⟨w,hw,rfl⟩:=y1d.1 hq
  have:=hsum.1 w hw
  rw [z0ey (by omega)]; exact this.1)
 have hfi:fIx (hdS F U.l[a.i]) (grpD (grpG F.s (U.l.take a.i))).l=fIx (hdP F U.l[a.i]) (grpG F.s (U.l.take a.i)):=by
  rw [hgl]
  have : ∀ l:List (List Vot),(∀ w ∈ l,w.length≤4294967296)→fIx (hdS F U.l[a.i]) (l.map gSl)=fIx (hdP F U.l[a.i]) l:=by
   intro l
   induction l with
   | nil=>intro _; rfl
   | cons w l ih =>
    intro hl
    rw [y0z,fIx,fIx,ih fun z hz=>hl z (by simp [hz]),zdzg (hl w (by simp))]
  exact this _ fun w hw=>by have:=hsum.1 w hw; omega
 rw [hfi] at hcall
 have hsn:=g.snap_out (by omega) (a := .cells [F.dv]) (r:=[])
 rw [y07] at hsn
 obtain ⟨n,hn⟩ : ∃ n,fIx (hdP F U.l[a.i]) (grpG F.s (U.l.take a.i))=n:=⟨_,rfl⟩
 rw [hn] at hcall
 have tail:=tail n hn
 obtain ⟨x,hx⟩ : ∃ x,U.l[a.i]=x:=⟨_,rfl⟩
 rw [hx] at hg hcall tail
 have hRb:=g.gr_below
 obtain ⟨R,hR⟩ : ∃ R,gR a.sl a.objs=R:=⟨_,rfl⟩
 have hoB:Am.below (R.length+1) (oV 1 1 a.sl)=true:=by
  by_cases e:a.sl=[]
  ·rw [e]; rfl
  ·rw [zpni e,← hR,zz2q e]; simp only [Am.below,decide_eq_true_eq]; omega
 have hp0:¬ zyp8 (oV 1 1 a.sl)=true∨True := .inr trivial
 simp only [hR] at tail hRb hsn
 rw [hR]
 simp (disch:=first|omega|simp<;>omega|fail) [-zA,-zB,-zC,-zD,-zE,zx0e,z8ja,h,h']
 refine zbn1 (V_W mix (zevv F) ?_)
 simp (disch:=first|omega|simp<;>omega|fail) [-zA,-zB,-zC,-zD,-zE,h,h']
 refine zbn1 (z3mo (zbn1 (V_W mix (zevv F) ?_)))
 simp (disch:=first|omega|simp<;>omega|fail) [-zA,-zB,-zC,-zD,-zE,hg]
 refine zs10 (H := .cells [F.dv]::R) (cs:=voC x) (t':=[.junk,.junk,.junk,.mp 0 1 0,.junk,oV 1 1 a.sl,.junk,.ref (voC x),.junk,U.dv 4 voC,.int .i64 U.l.length,.int .i64 a.i]++js 25) (by simp (disch:=first|omega|simp<;>omega|fail) [-zA,-zB,-zC,-zD,-zE,zlf2,hRb,belowL,z8b8 _ _ hF3]) (by simp) ?_ (by simp (disch:=first|omega|simp<;>omega|fail) [-zA,-zB,-zC,-zD,-zE,belowL,Am.below,hoB,z8b8 _ _ (znfs U)]) ?_
 ·have e1:=zz5t (H := .cells [F.dv]::R) (cs:=voC x) (off:=0) (zc6g x)
  have e2 : ∀ h,mk1 (kLt ((AObj.cells [F.dv]::R).length)) h (oV 1 1 a.sl)=oV 1 1 a.sl:=fun h=>zd3c (by rw [y04]; exact hoB)
  have e3 : ∀ h,mk1 (kLt ((AObj.cells [F.dv]::R).length)) h (.mp 0 1 0) = .mp 0 1 0:=fun h=>zd3c (by simp [Am.below])
  have e4 : ∀ K h,mk1 K h (U.dv 4 voC)=U.dv 4 voC:=fun K h=>zvft (znfs U)
  simp only [y00,y04,zu4u,y0d] at e1 e2 e3
  simp (disch:=first|omega|simp<;>omega|fail) [-zA,-zB,-zC,-zD,-zE,e1,e2,e3,e4]
 refine zbn1 (V_W mix (zevv F) ?_)
 have hfnS:snap (.cells [F.dv]::R) 3 (.fn (.func 57) [] [.mp 0 1 0,.ref (voC x)])=some (gfn F x):=by
  simp (disch:=first|omega|simp<;>omega|fail) [-zA,-zB,-zC,-zD,-zE,gfn,z6nl hF3]
 simp (disch:=first|omega|simp<;>omega|fail) [-zA,-zB,-zC,-zD,-zE,z2ua,hsn,hfnS,hcall]
 exact zqfd (z515 (by simp (disch:=first|omega|simp<;>omega|fail) [-zA,-zB,-zC,-zD,-zE]) (by simp (disch:=first|omega|simp<;>omega|fail) [-zA,-zB,-zC,-zD,-zE])) (tail _)
noncomputable def cGrp (F:SF):List DV→Option DV:=con (fun _=>True) (fun U:Sl Vot=>[U.dv 4 voC,F.dv]) (fun U=>(grpD (grpG F.s U.l)).dv 1 gC)
theorem zs2t {F:SF} {U:Sl Vot}:cGrp F [U.dv 4 voC,F.dv]=some ((grpD (grpG F.s U.l)).dv 1 gC) :=
 zsn4 (f:=fun U:Sl Vot=>[U.dv 4 voC,F.dv]) (g:=fun U=>(grpD (grpG F.s U.l)).dv 1 gC) (fun a b e=>by simp only [List.cons.injEq,and_true] at e; exact z22s e) U
theorem zohn (F:SF):(Con.pure (cGrp F)).Sound P 32:=z2au fun a _=>znz9 Try.func32 zvrg (zy3o F a)
end
section
set_option linter.unusedSimpArgs false
set_option linter.unusedVariables false
open Go Go.Am
theorem zrqk {P:Program} {f:FuncId} {fn:Func} (hf:P.funcs[f]? = some fn) {af:AFn} (hc:zsjc P fn=some af) {args:List DV} {h:List AObj} {v:DV} {k:List AObj} (hr:V P h.length af.code (retH af.res v k) ⟨zr5g af.ntmps args,h⟩):zwy1 P f args h (fun d k'=>d=v∧k'=k) :=
 zcpc hf hc (zftn (fun _ _ h=>h.out) hr)
inductive TwoS|p|q
def ts {α:Type} (b:TwoS) (x y:α):α:=match b with | .p=>x | .q=>y
theorem ts_p {α:Type} {x y:α}:ts .p x y=x:=rfl
theorem ts_q {α:Type} {x y:α}:ts .q x y=y:=rfl
open Classical in
noncomputable def ptH (a0:List DV) (h0:List AObj) (r:DV) (h1:List AObj):List DV→List AObj→Option (DV × List AObj):=fun a h=>if a=a0∧h=h0 then some (r,h1) else none
theorem zpvh {a0:List DV} {h0:List AObj} {r:DV} {h1:List AObj}:ptH a0 h0 r h1 a0 h0=some (r,h1):=if_pos ⟨rfl,rfl⟩
theorem zdmv {k:FuncId} {a0:List DV} {h0:List AObj} {r:DV} {h1:List AObj} (hc:zwy1 P k a0 h0 (fun d h=>d=r∧h=h1)):(Con.heap (ptH a0 h0 r h1)).Sound P k:=by
 intro args h v h' e
 unfold ptH at e
 split at e
 ·rename_i q
  simp only [Option.some.injEq,Prod.mk.injEq] at e
  obtain ⟨rfl,rfl⟩:=e
  rw [q.1,q.2]; exact hc
 ·cases e
noncomputable def TH (k:Nat) (a0:List DV) (h0:List AObj) (r:DV) (h1:List AObj):Tbl:=addT k (.heap (ptH a0 h0 r h1)) tbl0
theorem TH_k {k:Nat} {a0:List DV} {h0:List AObj} {r:DV} {h1:List AObj}:TH k a0 h0 r h1 k = .heap (ptH a0 h0 r h1):=by simp [TH]
theorem z84q {k:Nat} {a0:List DV} {h0:List AObj} {r:DV} {h1:List AObj} (hc:zwy1 P k a0 h0 (fun d h=>d=r∧h=h1)):(TH k a0 h0 r h1).Sound P:=z0rp (zdmv hc) zr5o
theorem zy87 {a b:List UInt8}:zhl4 .lss (.str a) (.str b)=some (.bool (Op.bytesLess a b)):=rfl
attribute [simp] zy87
theorem zapk (a:Str):Runs tbl0 a71 [.str a] (.bool false):=by
 refine ⟨?_⟩
 simp (disch:=first|omega|simp<;>omega|fail) [-zA,-zB,-zC,-zD,-zE,a71]
noncomputable def cIsN:List DV→Option DV
 | [.str _]=>some (.bool false)|_=>none
theorem z8sc {a:Str}:cIsN [.str a]=some (.bool false):=rfl
theorem zcv5:(Con.pure cIsN).Sound P 71:=by
 intro args v e
 unfold cIsN at e
 split at e
 ·simp at e; subst e; exact zljw mix zr5o Try.func71 zbtg (zapk _)
 ·simp at e
noncomputable def T930:Tbl:=addT 71 (.pure cIsN) tbl0
theorem ziqj:T930 71 = .pure cIsN:=by simp [T930]
theorem zvf4:T930.Sound P:=z0rp zcv5 zr5o
def zavf (a b:Str):Int:=if Op.bytesLess a b then -1 else if Op.bytesLess b a then 1 else 0
theorem zrmv {a b:Str}:zhl4 .gtr (.str a) (.str b)=some (.bool (Op.bytesLess b a)):=by
 have e:zhl4 .gtr (.str a) (.str b)=some (.bool (!(Op.bytesLess a b||a == b))):=by simp [zhl4,zdnj]
 rw [e]
 congr 2
 rcases zoet a b with h|h|h
 ·have h':Op.bytesLess b a=false:=by
   cases q:Op.bytesLess b a with
   | false=>rfl
   | true=>have:=z8c3 _ _ _ h q; rw [zrk4] at this; cases this
  rw [h,h']; rfl
 ·subst h; simp [zrk4]
 ·have h':Op.bytesLess a b=false:=by
   cases q:Op.bytesLess a b with
   | false=>rfl
   | true=>have:=z8c3 _ _ _ h q; rw [zrk4] at this; cases this
  have hn:¬ a=b:=fun e=>by rw [e,zrk4] at h; cases h
  rw [h,h']; simp [hn]
attribute [simp] zrmv
theorem za9u (a b:Str):Runs T930 a60 [.str a,.str b] (.int .i64 (zavf a b)):=by
 refine ⟨?_⟩
 unfold zavf
 cases h1:Op.bytesLess a b with
 | true=>simp (disch:=first|omega|simp<;>omega|fail) [-zA,-zB,-zC,-zD,-zE,a60,ziqj,z8sc,h1]
 | false =>
  cases h2:Op.bytesLess b a with
  | true=>simp (disch:=first|omega|simp<;>omega|fail) [-zA,-zB,-zC,-zD,-zE,a60,ziqj,z8sc,h1,h2]
  | false=>simp (disch:=first|omega|simp<;>omega|fail) [-zA,-zB,-zC,-zD,-zE,a60,ziqj,z8sc,h1,h2]
noncomputable def cCs:List DV→Option DV
 | [.str a,.str b]=>some (.int .i64 (zavf a b))|_=>none
theorem zc1k {a b:Str}:cCs [.str a,.str b]=some (.int .i64 (zavf a b)):=rfl
theorem zqxd:(Con.pure cCs).Sound P 60:=by
 intro args v e
 unfold cCs at e
 split at e
 ·simp at e; subst e; exact zljw mix zvf4 Try.func60 z6e9 (za9u _ _)
 ·simp at e
theorem z5ha {a b:Str}:(zavf a b<0)↔Op.bytesLess a b=true:=by
 unfold zavf
 split
 ·rename_i h; simp [h]
 ·rename_i h; split<;>simp [h]
def vLt (a b:Vot):Bool:=Op.bytesLess a.own b.own
noncomputable def T931:Tbl:=addT 60 (.pure cCs) tbl0
theorem zof8:T931 60 = .pure cCs:=by simp [T931]
theorem zn44:T931.Sound P:=z0rp zqxd zr5o
theorem zjf7 (a b:Vot):Runs T931 a59 [.agg (voC a),.agg (voC b)] (.int .i64 (zavf a.own b.own)):=by
 refine ⟨?_⟩
 simp (disch:=first|omega|simp<;>omega|fail) [-zA,-zB,-zC,-zD,-zE,a59,zof8,zc1k]
noncomputable def cCmV:List DV→Option DV:=con (fun _=>True) (fun a:Vot × Vot=>[.agg (voC a.1),.agg (voC a.2)]) (fun a => .int .i64 (zavf a.1.own a.2.own))
theorem z3b6 {a b:Vot}:cCmV [.agg (voC a),.agg (voC b)]=some (.int .i64 (zavf a.own b.own)) :=
 zsn4 (f:=fun a:Vot × Vot=>[.agg (voC a.1),.agg (voC a.2)]) (g:=fun a => .int .i64 (zavf a.1.own a.2.own)) (by
  rintro ⟨a,b⟩ ⟨c,d⟩ e
  simp only [List.cons.injEq,DV.agg.injEq,and_true] at e
  rw [zkbi e.1,zkbi e.2]) (a,b)
noncomputable def TcV:Tbl:=addT 59 (.pure cCmV) tbl0
theorem zjdk:TcV 59 = .pure cCmV:=by simp [TcV]
theorem zddn:TcV.Sound P:=z0rp (z2au fun (a:Vot × Vot) _=>zljw mix zn44 Try.func59 zwsz (zjf7 a.1 a.2)) zr5o
theorem zvnb {a b:Vot}:(zavf a.own b.own<0)↔vLt a b=true:=z5ha
def cmVf (a b:Vot):Int:=zavf a.own b.own
theorem z6ee (a:Int):Runs tbl0 a63 [.int .i64 a] (.bool false):=by
 refine ⟨?_⟩
 simp (disch:=first|omega|simp<;>omega|fail) [-zA,-zB,-zC,-zD,-zE,a63]
noncomputable def cIsI:List DV→Option DV
 | [.int .i64 _]=>some (.bool false)|_=>none
theorem zj7i {a:Int}:cIsI [.int .i64 a]=some (.bool false):=rfl
theorem zdtl:(Con.pure cIsI).Sound P 63:=by
 intro args v e
 unfold cIsI at e
 split at e
 ·simp at e; subst e; exact zljw mix zr5o Try.func63 z2tu (z6ee _)
 ·simp at e
noncomputable def T932:Tbl:=addT 63 (.pure cIsI) tbl0
theorem zvvt:T932 63 = .pure cIsI:=by simp [T932]
theorem zt52:T932.Sound P:=z0rp zdtl zr5o
def znwt (a b:Int):Int:=if a<b then -1 else if b<a then 1 else 0
theorem zvic (a b:Int):Runs T932 a40 [.int .i64 a,.int .i64 b] (.int .i64 (znwt a b)):=by
 refine ⟨?_⟩
 unfold znwt
 by_cases h1:a<b
 ·simp (disch:=first|omega|simp<;>omega|fail) [-zA,-zB,-zC,-zD,-zE,a40,zvvt,zj7i,h1]
 ·by_cases h2:b<a
  ·simp (disch:=first|omega|simp<;>omega|fail) [-zA,-zB,-zC,-zD,-zE,a40,zvvt,zj7i,h1,h2]
  ·simp (disch:=first|omega|simp<;>omega|fail) [-zA,-zB,-zC,-zD,-zE,a40,zvvt,zj7i,h1,h2]
noncomputable def cCi:List DV→Option DV
 | [.int .i64 a,.int .i64 b]=>some (.int .i64 (znwt a b))|_=>none
theorem z3mn {a b:Int}:cCi [.int .i64 a,.int .i64 b]=some (.int .i64 (znwt a b)):=rfl
theorem zl9z:(Con.pure cCi).Sound P 40:=by
 intro args v e
 unfold cCi at e
 split at e
 ·simp at e; subst e; exact zljw mix zt52 Try.func40 zn9f (zvic _ _)
 ·simp at e
def aLt (a b:Agr):Bool:=decide (b.owners.l.length<a.owners.l.length)
def cmAf (a b:Agr):Int:=znwt b.owners.l.length a.owners.l.length
noncomputable def T933:Tbl:=addT 40 (.pure cCi) tbl0
theorem z1xk:T933 40 = .pure cCi:=by simp [T933]
theorem zkmg:T933.Sound P:=z0rp zl9z zr5o
theorem zwpt (a b:Agr):Runs T933 a39 [.agg (agC a),.agg (agC b)] (.int .i64 (cmAf a b)):=by
 refine ⟨?_⟩
 unfold cmAf
 simp (disch:=first|omega|simp<;>omega|fail) [-zA,-zB,-zC,-zD,-zE,a39,z1xk,z3mn]
noncomputable def cCmA:List DV→Option DV:=con (fun _=>True) (fun a:Agr × Agr=>[.agg (agC a.1),.agg (agC a.2)]) (fun a => .int .i64 (cmAf a.1 a.2))
theorem zy7t {a b:Agr}:cCmA [.agg (agC a),.agg (agC b)]=some (.int .i64 (cmAf a b)) :=
 zsn4 (f:=fun a:Agr × Agr=>[.agg (agC a.1),.agg (agC a.2)]) (g:=fun a => .int .i64 (cmAf a.1 a.2)) (by
  rintro ⟨a,b⟩ ⟨c,d⟩ e
  simp only [List.cons.injEq,DV.agg.injEq,and_true] at e
  rw [zum4 e.1,zum4 e.2]) (a,b)
noncomputable def TcA:Tbl:=addT 39 (.pure cCmA) tbl0
theorem zszl:TcA 39 = .pure cCmA:=by simp [TcA]
theorem zl1y:TcA.Sound P:=z0rp (z2au fun (a:Agr × Agr) _=>zljw mix zkmg Try.func39 zjwo (zwpt a.1 a.2)) zr5o
theorem zml7 {a b:Agr}:(cmAf a b<0)↔aLt a b=true:=by
 unfold cmAf aLt znwt
 split
 ·rename_i h; simp; omega
 ·rename_i h; split<;>simp<;>omega
structure IPg (α:Type) where
 A:List α
 B:List α
def z8u0 {α:Type} (lt:α→α→Bool) (x:α) (B:List α):Prop := ∀ b ∈ B,lt x b=true
theorem z72y {α:Type} {A B R:List α} {x y:α}:((A++[y]++x::(B++R)).set (A.length+1) y).set A.length x=A++x::(y::B++R):=by
 rw [y0q,y0j _ _ (by omega),show A.length+1-A.length=1 by omega]
 simp
def S934 (pre:List AObj) (n:Nat) (l:List Vot) (i:Nat):St:=zkbr (.ms pre.length (n*4) 0 4 n (n*4)) (.int .i64 0) (.int .i64 n) (.fn (.func 59) [] []) (.int .i64 i) (pre++[.cells (fl voC (zq4g vLt (l.take i)++l.drop i))])
def S935 (pre:List AObj) (n i:Nat) (x:Vot) (R:List Vot) (a:IPg Vot):St:=z5h4 (.ms pre.length (n*4) 0 4 n (n*4)) (.int .i64 0) (.int .i64 n) (.fn (.func 59) [] []) (.int .i64 i) (.int .i64 a.A.length) (pre++[.cells (fl voC (a.A++x::(a.B++R)))])
theorem z8os (pre:List AObj) (l:List Vot) (hb:l.length≤1000000) :
  RunsH TcV a74 [.ms pre.length (l.length*4) 0 4 l.length (l.length*4),.int .i64 0,.int .i64 l.length,(.fn (.func 59) [] [])] (pre++[.cells (fl voC l)]) (.tup []) (pre++[.cells (fl voC (zq4g vLt l))]):=by
 refine ⟨?_⟩
 obtain ⟨n,hn⟩ : ∃ n,l.length=n:=⟨_,rfl⟩
 rw [hn]
 rw [hn] at hb
 simp (disch:=first|omega|simp<;>omega|fail) [-zA,-zB,-zC,-zD,-zE,a74]
 refine zlm5 (S934 pre n l) (fun i=>n+1-i) (fun i=>1≤i∧(i≤n∨n=0)) 1 (z515 (by simp (disch:=first|omega|simp<;>omega|fail) [-zA,-zB,-zC,-zD,-zE,S934,zkbr]) ?_) ⟨by omega,by omega⟩ (fun i hi => ?_)
 ·simp (disch:=first|omega|simp<;>omega|fail) [-zA,-zB,-zC,-zD,-zE,S934,zkbr]
  rw [zk1b (by simp; omega),y0s]
 obtain ⟨h1,h2⟩:=hi
 simp (disch:=first|omega|simp<;>omega|fail) [-zA,-zB,-zC,-zD,-zE,zndk,zkbr,S934]
 by_cases h:i<n
 ·have h':(i:Int)<n:=by omega
  have hil:i<l.length:=by omega
  obtain ⟨x,hx⟩ : ∃ x,l[i]=x:=⟨_,rfl⟩
  have hd:l.drop i=x::l.drop (i+1):=by rw [y09 hil,hx]
  obtain ⟨Q,hQ⟩ : ∃ Q,zq4g vLt (l.take i)=Q:=⟨_,rfl⟩
  have hQl:Q.length=i:=by rw [← hQ,zmgd]; simp; omega
  have hnext:zq4g vLt (l.take (i+1))=insR vLt x Q:=by rw [y01 hil,zuk7,hQ,hx]
  obtain ⟨R,hR⟩ : ∃ R,l.drop (i+1)=R:=⟨_,rfl⟩
  have hRl:R.length=n-(i+1):=by rw [← hR]; simp; omega
  rw [hd,hQ,hR]
  simp (disch:=first|omega|simp<;>omega|fail) [-zA,-zB,-zC,-zD,-zE,h,h']
  refine zlm5 (S935 pre n i x R) (fun a=>a.A.length) (fun a=>a.A++a.B=Q∧z8u0 vLt x a.B) ⟨Q,[]⟩ (z515 (by simp (disch:=first|omega|simp<;>omega|fail) [-zA,-zB,-zC,-zD,-zE,S935,z5h4,hQl]) (by simp (disch:=first|omega|simp<;>omega|fail) [-zA,-zB,-zC,-zD,-zE,S935,z5h4])) ⟨by simp,fun b hb=>by simp at hb⟩ (fun a ha => ?_)
  obtain ⟨A,B⟩:=a
  obtain ⟨r1,r2⟩:=ha
  simp only at r1 r2
  simp only [S935]
  rcases (y0t A) with rfl|⟨A',y,rfl⟩
  ·have e:insR vLt x Q=x::B:=by rw [← r1]; exact zv9v r2 (.inl rfl)
   have hfin:zq4g vLt (l.take (i+1))++l.drop (i+1)=x::(B++R):=by rw [hnext,e,hR]; rfl
   simp (disch:=first|omega|simp<;>omega|fail) [-zA,-zB,-zC,-zD,-zE,zzeu,z5h4]
   refine ⟨i+1,z515 (by simp (disch:=first|omega|simp<;>omega|fail) [-zA,-zB,-zC,-zD,-zE,S934,zkbr]) (by simp (disch:=first|omega|simp<;>omega|fail) [-zA,-zB,-zC,-zD,-zE,S934,zkbr,hfin]),by omega,by omega,by omega⟩
  ·rw [y0e] at r1
   have hAl:A'.length+1+B.length=i:=by rw [← hQl,← r1]; simp; omega
   rw [y0e]
   obtain ⟨L,hL⟩ : ∃ L,A'++[y]++x::(B++R)=L:=⟨_,rfl⟩
   have hLl:L.length=n:=by rw [← hL]; simp; omega
   obtain ⟨p,hp⟩ : ∃ p,A'.length=p:=⟨_,rfl⟩
   have g1 : ∀ h:p<L.length,L[p]=y:=fun h=>by subst hL hp; simp
   have g2 : ∀ h:p+1<L.length,L[p+1]=x:=fun h=>by subst hL hp; simp [y0f]
   have hs:=z72y (A:=A') (B:=B) (R:=R) (x:=x) (y:=y)
   rw [hL,hp] at hs
   obtain ⟨G,hG⟩ : ∃ G,fl voC L=G:=⟨_,rfl⟩
   have hGl:G.length=n*4:=by rw [← hG,z8lx zu4u,hLl]
   obtain ⟨G2,hG2⟩ : ∃ G2,fl voC (L.set (p+1) y)=G2:=⟨_,rfl⟩
   have hG2l:G2.length=n*4:=by rw [← hG2,z8lx zu4u,y0h,hLl]
   have o1:oneC 4 true (G.drop (p*4))=some (.agg (voC y)):=by rw [← hG,zfiy zu4u (by omega),g1]
   have o2:oneC 4 true (G.drop ((p+1)*4))=some (.agg (voC x)):=by rw [← hG,zfiy zu4u (by omega),g2]
   have s1 : ∀ h:List AObj,zy6o h pre.length 4 ((p+1)*4) (.agg (voC y)) (some G)=some (.junk,h.set pre.length (.cells G2)):=fun h=>by rw [← hG,zdvi zu4u (by decide) (fun _=>z0cw) (by omega),hG2]
   have s2 : ∀ h:List AObj,zy6o h pre.length 4 (p*4) (.agg (voC x)) (some G2)=some (.junk,h.set pre.length (.cells (fl voC (A'++x::(y::B++R))))):=fun h=>by rw [← hG2,zdvi zu4u (by decide) (fun _=>z0cw) (by rw [y0h]; omega),hs]
   have hv:cCmV [.agg (voC x),.agg (voC y)]=some (.int .i64 (cmVf x y)):=z3b6
   have hq:(cmVf x y<0)↔vLt x y=true:=zvnb
   have t1:((p:Int)+1).toNat=p+1:=by omega
   have t2:(A'++[y]).length=p+1:=by rw [← hp]; simp
   rw [hL,hG,t2]
   cases hc:vLt x y with
   | true =>
    have hq':cmVf x y<0:=hq.2 hc
    simp (disch:=first|omega|simp<;>omega|fail) [-zA,-zB,-zC,-zD,-zE,zzeu,z5h4,hGl,hG2l,o1,o2,s1,s2,t1,zjdk,hv,hq',zjj2,z1zn,zxft]
    refine ⟨⟨A',y::B⟩,z515 (by simp (disch:=first|omega|simp<;>omega|fail) [-zA,-zB,-zC,-zD,-zE,S935,z5h4,hp]) (by simp (disch:=first|omega|simp<;>omega|fail) [-zA,-zB,-zC,-zD,-zE,S935,z5h4]),by simp,by simpa using r1,fun b hb => ?_⟩
    rcases y0r.1 hb with rfl|hb
    ·exact hc
    ·exact r2 b hb
   | false =>
    have hq':¬ cmVf x y<0:=fun q=>by rw [hq.1 q] at hc; cases hc
    simp (disch:=first|omega|simp<;>omega|fail) [-zA,-zB,-zC,-zD,-zE,zzeu,z5h4,hGl,o1,o2,t1,zjdk,hv,hq',zjj2,z1zn]
    have e:insR vLt x Q=A'++[y]++x::B:=by rw [← r1]; exact zv9v r2 (.inr ⟨A',y,rfl,hc⟩)
    have hfin:zq4g vLt (l.take (i+1))++l.drop (i+1)=L:=by rw [hnext,e,hR,← hL]; simp
    refine ⟨i+1,z515 (by simp (disch:=first|omega|simp<;>omega|fail) [-zA,-zB,-zC,-zD,-zE,S934,zkbr]) (by simp (disch:=first|omega|simp<;>omega|fail) [-zA,-zB,-zC,-zD,-zE,S934,zkbr,hfin,hG]),by omega,by omega,by omega⟩
 ·have h':¬ (i:Int)<n:=by omega
  have e1:l.drop i=[]:=y0c (by omega)
  have e2:l.take i=l:=y03 (by omega)
  simp (disch:=first|omega|simp<;>omega|fail) [-zA,-zB,-zC,-zD,-zE,h,h',e1,e2]
theorem zrwx (pre:List AObj) (l:List Vot) (n:Nat) (hn:l.length=n) (hb:n≤1000000):RunsH TcV a74 [.ms pre.length (n*4) 0 4 n (n*4),.int .i64 n,.int .i64 n,(.fn (.func 59) [] [])] (pre++[.cells (fl voC l)]) (.tup []) (pre++[.cells (fl voC l)]):=by
 refine ⟨?_⟩
 simp (disch:=first|omega|simp<;>omega|fail) [-zA,-zB,-zC,-zD,-zE,a74]
 refine zlm5 (fun _:Unit=>zkbr (.ms pre.length (n*4) 0 4 n (n*4)) (.int .i64 n) (.int .i64 n) (.fn (.func 59) [] []) (.int .i64 (n+1)) (pre++[.cells (fl voC l)])) (fun _=>0) (fun _=>True) () (z515 (by simp (disch:=first|omega|simp<;>omega|fail) [-zA,-zB,-zC,-zD,-zE,zkbr]) (by simp (disch:=first|omega|simp<;>omega|fail) [-zA,-zB,-zC,-zD,-zE,zkbr])) trivial (fun i _ => ?_)
 have hw:¬ (n:Int)+1<n:=by omega
 simp (disch:=first|omega|simp<;>omega|fail) [-zA,-zB,-zC,-zD,-zE,zndk,zkbr,hw]
theorem zxvc (pre:List AObj) (l:List Vot) (n:Nat) (hn:l.length=n) (hb:n≤1000000):zwy1 P 74 [.ms pre.length (n*4) 0 4 n (n*4),.int .i64 0,.int .i64 n,(.fn (.func 59) [] [])] (pre++[.cells (fl voC l)]) (fun d h=>d = .tup []∧h=pre++[.cells (fl voC (zq4g vLt l))]):=by
 subst hn
 exact zv22 mix zddn Try.func74 z26r (z8os pre l hb)
theorem zsmo (pre:List AObj) (l:List Vot) (n:Nat) (hn:l.length=n) (hb:n≤1000000):zwy1 P 74 [.ms pre.length (n*4) 0 4 n (n*4),.int .i64 n,.int .i64 n,(.fn (.func 59) [] [])] (pre++[.cells (fl voC l)]) (fun d h=>d = .tup []∧h=pre++[.cells (fl voC l)]) :=
 zv22 mix zddn Try.func74 z26r (zrwx pre l n hn hb)
theorem z0zs (pre:List AObj) (l:List Vot) (n:Nat) (hn:l.length=n) (hb:n≤20):V P (pre++[AObj.cells (fl voC l)]).length a70.code (retH a70.res (.tup []) (pre++[.cells (fl voC (zq4g vLt l))])) ⟨zr5g a70.ntmps [.ms pre.length (n*4) 0 4 n (n*4),.int .i64 n,(.fn (.func 59) [] [])],pre++[.cells (fl voC l)]⟩:=by
 have hlen:(pre++[AObj.cells (fl voC l)]).length=(pre++[AObj.cells (fl voC (zq4g vLt l))]).length:=by simp
 refine zbn1 (V_W mix zr5o ?_)
 simp (disch:=first|omega|simp<;>omega|fail) [-zA,-zB,-zC,-zD,-zE,a70]
 refine zbn1 (V_W mix zr5o ?_)
 simp (disch:=first|omega|simp<;>omega|fail) [-zA,-zB,-zC,-zD,-zE]
 by_cases h:n=20
 ·subst h
  refine zbn1 (z3mo (ztbr (fun b:TwoS=>ziom (.ms pre.length (20*4) 0 4 20 (20*4)) (.int .i64 20) (.fn (.func 59) [] []) (.int .i64 20) (.int .i64 (ts b 0 20)) (.int .i64 (ts b 20 40)) (pre++[.cells (fl voC (ts b l (zq4g vLt l)))])) (fun b=>ts b 1 0) (fun _=>True) .p (z515 (by simp (disch:=first|omega|simp<;>omega|fail) [-zA,-zB,-zC,-zD,-zE,ziom,ts_p]) (by simp (disch:=first|omega|simp<;>omega|fail) [-zA,-zB,-zC,-zD,-zE,ziom,ts_p])) trivial (fun b _ => ?_)))
  cases b with
  | p =>
   simp only [ts_p]
   refine zbn1 (V_W mix zr5o ?_)
   simp (disch:=first|omega|simp<;>omega|fail) [-zA,-zB,-zC,-zD,-zE,z3a0,ziom]
   refine z3mo (zbn1 (V_W mix (z84q (zxvc pre l 20 hn (by decide))) ?_))
   simp (disch:=first|omega|simp<;>omega|fail) [-zA,-zB,-zC,-zD,-zE,TH_k,zpvh]
   refine zbn1 (V_W mix zr5o ?_)
   simp (disch:=first|omega|simp<;>omega|fail) [-zA,-zB,-zC,-zD,-zE]
   refine V_W mix zr5o ?_
   simp (disch:=first|omega|simp<;>omega|fail) [-zA,-zB,-zC,-zD,-zE]
   exact ⟨.q,z515 (by simp (disch:=first|omega|simp<;>omega|fail) [-zA,-zB,-zC,-zD,-zE,ziom,ts_q]) (by simp (disch:=first|omega|simp<;>omega|fail) [-zA,-zB,-zC,-zD,-zE,ziom,ts_q]),Nat.zero_lt_one⟩
  | q =>
   simp only [ts_q]
   refine zbn1 (V_W mix zr5o ?_)
   simp (disch:=first|omega|simp<;>omega|fail) [-zA,-zB,-zC,-zD,-zE,z3a0,ziom]
   refine zbn1 (V_W mix (z84q (zsmo pre (zq4g vLt l) 20 (by rw [zmgd,hn]) (by decide))) ?_)
   simp (disch:=first|omega|simp<;>omega|fail) [-zA,-zB,-zC,-zD,-zE,TH_k,zpvh]
   refine z3mo (ztbr (fun _:Unit=>z861 (.ms pre.length (20*4) 0 4 20 (20*4)) (.int .i64 20) (.fn (.func 59) [] []) (.int .i64 20) (pre++[.cells (fl voC (zq4g vLt l))])) (fun _=>0) (fun _=>True) () (z515 (by simp (disch:=first|omega|simp<;>omega|fail) [-zA,-zB,-zC,-zD,-zE,z861]) (by simp (disch:=first|omega|simp<;>omega|fail) [-zA,-zB,-zC,-zD,-zE,z861])) trivial (fun _ _ => ?_))
   refine zbn1 (V_W mix zr5o ?_)
   simp (disch:=first|omega|simp<;>omega|fail) [-zA,-zB,-zC,-zD,-zE,zhuc,z861]
 ·have h1:¬ (20:Int)≤n:=by omega
  have h2:¬ (20:Int)<n:=by omega
  refine zbn1 (z3mo (ztbr (fun _:Unit=>ziom (.ms pre.length (n*4) 0 4 n (n*4)) (.int .i64 n) (.fn (.func 59) [] []) (.int .i64 20) (.int .i64 0) (.int .i64 20) (pre++[.cells (fl voC l)])) (fun _=>0) (fun _=>True) () (z515 (by simp (disch:=first|omega|simp<;>omega|fail) [-zA,-zB,-zC,-zD,-zE,ziom]) (by simp (disch:=first|omega|simp<;>omega|fail) [-zA,-zB,-zC,-zD,-zE,ziom])) trivial (fun _ _ => ?_)))
  refine zbn1 (V_W mix zr5o ?_)
  simp (disch:=first|omega|simp<;>omega|fail) [-zA,-zB,-zC,-zD,-zE,z3a0,ziom,h1]
  refine zbn1 (V_W mix (z84q (zxvc pre l n hn (by omega))) ?_)
  simp (disch:=first|omega|simp<;>omega|fail) [-zA,-zB,-zC,-zD,-zE,TH_k,zpvh]
  refine z3mo (ztbr (fun _:Unit=>z861 (.ms pre.length (n*4) 0 4 n (n*4)) (.int .i64 n) (.fn (.func 59) [] []) (.int .i64 20) (pre++[.cells (fl voC (zq4g vLt l))])) (fun _=>0) (fun _=>True) () (z515 (by simp (disch:=first|omega|simp<;>omega|fail) [-zA,-zB,-zC,-zD,-zE,z861]) (by simp (disch:=first|omega|simp<;>omega|fail) [-zA,-zB,-zC,-zD,-zE,z861])) trivial (fun _ _ => ?_))
  refine zbn1 (V_W mix zr5o ?_)
  simp (disch:=first|omega|simp<;>omega|fail) [-zA,-zB,-zC,-zD,-zE,zhuc,z861,h2]
theorem zcau (pre:List AObj) (l:List Vot) (n:Nat) (hn:l.length=n) (hb:n≤20):zwy1 P 70 [.ms pre.length (n*4) 0 4 n (n*4),.int .i64 n,(.fn (.func 59) [] [])] (pre++[.cells (fl voC l)]) (fun d h=>d = .tup []∧h=pre++[.cells (fl voC (zq4g vLt l))]) :=
 zrqk Try.func70 zhcw (z0zs pre l n hn hb)
theorem zl4b (h:List AObj):zwy1 P 58 [.nils,(.fn (.func 59) [] [])] h (fun d h'=>d = .tup []∧h'=h):=by
 have i0:zwy1 P 74 [.nils,.int .i64 0,.int .i64 0,(.fn (.func 59) [] [])] h (fun d h'=>d = .tup []∧h'=h):=by
  refine zv22 mix zddn Try.func74 z26r (show RunsH TcV a74 _ _ _ _ from ⟨?_⟩)
  simp (disch:=first|omega|simp<;>omega|fail) [-zA,-zB,-zC,-zD,-zE,a74]
  refine zlm5 (fun _:Unit=>zkbr .nils (.int .i64 0) (.int .i64 0) (.fn (.func 59) [] []) (.int .i64 1) h) (fun _=>0) (fun _=>True) () (z515 (by simp (disch:=first|omega|simp<;>omega|fail) [-zA,-zB,-zC,-zD,-zE,zkbr]) (by simp (disch:=first|omega|simp<;>omega|fail) [-zA,-zB,-zC,-zD,-zE,zkbr])) trivial (fun i _ => ?_)
  simp (disch:=first|omega|simp<;>omega|fail) [-zA,-zB,-zC,-zD,-zE,zndk,zkbr]
 have s0:zwy1 P 70 [.nils,.int .i64 0,(.fn (.func 59) [] [])] h (fun d h'=>d = .tup []∧h'=h):=by
  refine zrqk Try.func70 zhcw ?_
  refine zbn1 (V_W mix zr5o ?_)
  simp (disch:=first|omega|simp<;>omega|fail) [-zA,-zB,-zC,-zD,-zE,a70]
  refine zbn1 (V_W mix zr5o ?_)
  simp (disch:=first|omega|simp<;>omega|fail) [-zA,-zB,-zC,-zD,-zE]
  refine zbn1 (z3mo (ztbr (fun _:Unit=>ziom .nils (.int .i64 0) (.fn (.func 59) [] []) (.int .i64 20) (.int .i64 0) (.int .i64 20) h) (fun _=>0) (fun _=>True) () (z515 (by simp (disch:=first|omega|simp<;>omega|fail) [-zA,-zB,-zC,-zD,-zE,ziom]) (by simp (disch:=first|omega|simp<;>omega|fail) [-zA,-zB,-zC,-zD,-zE,ziom])) trivial (fun _ _ => ?_)))
  refine zbn1 (V_W mix zr5o ?_)
  simp (disch:=first|omega|simp<;>omega|fail) [-zA,-zB,-zC,-zD,-zE,z3a0,ziom]
  refine zbn1 (V_W mix (z84q i0) ?_)
  simp (disch:=first|omega|simp<;>omega|fail) [-zA,-zB,-zC,-zD,-zE,TH_k,zpvh]
  refine z3mo (ztbr (fun _:Unit=>z861 .nils (.int .i64 0) (.fn (.func 59) [] []) (.int .i64 20) h) (fun _=>0) (fun _=>True) () (z515 (by simp (disch:=first|omega|simp<;>omega|fail) [-zA,-zB,-zC,-zD,-zE,z861]) (by simp (disch:=first|omega|simp<;>omega|fail) [-zA,-zB,-zC,-zD,-zE,z861])) trivial (fun _ _ => ?_))
  refine zbn1 (V_W mix zr5o ?_)
  simp (disch:=first|omega|simp<;>omega|fail) [-zA,-zB,-zC,-zD,-zE,zhuc,z861]
 refine zv22 mix (z84q s0) Try.func58 zt5h (show RunsH _ _ _ _ _ _ from ⟨?_⟩)
 simp (disch:=first|omega|simp<;>omega|fail) [-zA,-zB,-zC,-zD,-zE,a58,TH_k,zpvh]
theorem z3ez (pre:List AObj) (l:List Vot) (hb:l.length≤20):zwy1 P 58 [oV pre.length 4 l,(.fn (.func 59) [] [])] (pre++oT voC l) (fun d h=>d = .tup []∧h=pre++oT voC (zq4g vLt l)):=by
 by_cases e:l=[]
 ·subst e; exact zl4b _
 ·have hs:=zcau pre l l.length rfl hb
  have hfl:(fl voC l).length=l.length*4:=z8lx zu4u l
  rw [zpni e,zu2l e,zu2l (zlvn e)]
  obtain ⟨n,hn⟩ : ∃ n,l.length=n:=⟨_,rfl⟩
  rw [hn] at hs hfl ⊢
  refine zv22 mix (z84q hs) Try.func58 zt5h (show RunsH _ _ _ _ _ _ from ⟨?_⟩)
  have hln:lenD (pre++[.cells (fl voC l)]) (.ms pre.length (n*4) 0 4 n (n*4))=some (.int .i64 n):=by rw [z59c,zjj2,z1zn,if_pos hfl]; rfl
  simp (disch:=first|omega|simp<;>omega|fail) [-zA,-zB,-zC,-zD,-zE,a58,hln,TH_k,zpvh]
def S936 (pre:List AObj) (n:Nat) (l:List Agr) (i:Nat):St:=z6ro (.ms pre.length (n*5) 0 5 n (n*5)) (.int .i64 0) (.int .i64 n) (.fn (.func 39) [] []) (.int .i64 i) (pre++[.cells (fl agC (zq4g aLt (l.take i)++l.drop i))])
def S937 (pre:List AObj) (n i:Nat) (x:Agr) (R:List Agr) (a:IPg Agr):St:=zsm4 (.ms pre.length (n*5) 0 5 n (n*5)) (.int .i64 0) (.int .i64 n) (.fn (.func 39) [] []) (.int .i64 i) (.int .i64 a.A.length) (pre++[.cells (fl agC (a.A++x::(a.B++R)))])
theorem zh4h (pre:List AObj) (l:List Agr) (hb:l.length≤1000000) :
  RunsH TcA a72 [.ms pre.length (l.length*5) 0 5 l.length (l.length*5),.int .i64 0,.int .i64 l.length,(.fn (.func 39) [] [])] (pre++[.cells (fl agC l)]) (.tup []) (pre++[.cells (fl agC (zq4g aLt l))]):=by
 refine ⟨?_⟩
 obtain ⟨n,hn⟩ : ∃ n,l.length=n:=⟨_,rfl⟩
 rw [hn]
 rw [hn] at hb
 simp (disch:=first|omega|simp<;>omega|fail) [-zA,-zB,-zC,-zD,-zE,a72]
 refine zlm5 (S936 pre n l) (fun i=>n+1-i) (fun i=>1≤i∧(i≤n∨n=0)) 1 (z515 (by simp (disch:=first|omega|simp<;>omega|fail) [-zA,-zB,-zC,-zD,-zE,S936,z6ro]) ?_) ⟨by omega,by omega⟩ (fun i hi => ?_)
 ·simp (disch:=first|omega|simp<;>omega|fail) [-zA,-zB,-zC,-zD,-zE,S936,z6ro]
  rw [zk1b (by simp; omega),y0s]
 obtain ⟨h1,h2⟩:=hi
 simp (disch:=first|omega|simp<;>omega|fail) [-zA,-zB,-zC,-zD,-zE,zcng,z6ro,S936]
 by_cases h:i<n
 ·have h':(i:Int)<n:=by omega
  have hil:i<l.length:=by omega
  obtain ⟨x,hx⟩ : ∃ x,l[i]=x:=⟨_,rfl⟩
  have hd:l.drop i=x::l.drop (i+1):=by rw [y09 hil,hx]
  obtain ⟨Q,hQ⟩ : ∃ Q,zq4g aLt (l.take i)=Q:=⟨_,rfl⟩
  have hQl:Q.length=i:=by rw [← hQ,zmgd]; simp; omega
  have hnext:zq4g aLt (l.take (i+1))=insR aLt x Q:=by rw [y01 hil,zuk7,hQ,hx]
  obtain ⟨R,hR⟩ : ∃ R,l.drop (i+1)=R:=⟨_,rfl⟩
  have hRl:R.length=n-(i+1):=by rw [← hR]; simp; omega
  rw [hd,hQ,hR]
  simp (disch:=first|omega|simp<;>omega|fail) [-zA,-zB,-zC,-zD,-zE,h,h']
  refine zlm5 (S937 pre n i x R) (fun a=>a.A.length) (fun a=>a.A++a.B=Q∧z8u0 aLt x a.B) ⟨Q,[]⟩ (z515 (by simp (disch:=first|omega|simp<;>omega|fail) [-zA,-zB,-zC,-zD,-zE,S937,zsm4,hQl]) (by simp (disch:=first|omega|simp<;>omega|fail) [-zA,-zB,-zC,-zD,-zE,S937,zsm4])) ⟨by simp,fun b hb=>by simp at hb⟩ (fun a ha => ?_)
  obtain ⟨A,B⟩:=a
  obtain ⟨r1,r2⟩:=ha
  simp only at r1 r2
  simp only [S937]
  rcases (y0t A) with rfl|⟨A',y,rfl⟩
  ·have e:insR aLt x Q=x::B:=by rw [← r1]; exact zv9v r2 (.inl rfl)
   have hfin:zq4g aLt (l.take (i+1))++l.drop (i+1)=x::(B++R):=by rw [hnext,e,hR]; rfl
   simp (disch:=first|omega|simp<;>omega|fail) [-zA,-zB,-zC,-zD,-zE,zssg,zsm4]
   refine ⟨i+1,z515 (by simp (disch:=first|omega|simp<;>omega|fail) [-zA,-zB,-zC,-zD,-zE,S936,z6ro]) (by simp (disch:=first|omega|simp<;>omega|fail) [-zA,-zB,-zC,-zD,-zE,S936,z6ro,hfin]),by omega,by omega,by omega⟩
  ·rw [y0e] at r1
   have hAl:A'.length+1+B.length=i:=by rw [← hQl,← r1]; simp; omega
   rw [y0e]
   obtain ⟨L,hL⟩ : ∃ L,A'++[y]++x::(B++R)=L:=⟨_,rfl⟩
   have hLl:L.length=n:=by rw [← hL]; simp; omega
   obtain ⟨p,hp⟩ : ∃ p,A'.length=p:=⟨_,rfl⟩
   have g1 : ∀ h:p<L.length,L[p]=y:=fun h=>by subst hL hp; simp
   have g2 : ∀ h:p+1<L.length,L[p+1]=x:=fun h=>by subst hL hp; simp [y0f]
   have hs:=z72y (A:=A') (B:=B) (R:=R) (x:=x) (y:=y)
   rw [hL,hp] at hs
   obtain ⟨G,hG⟩ : ∃ G,fl agC L=G:=⟨_,rfl⟩
   have hGl:G.length=n*5:=by rw [← hG,z8lx znh2,hLl]
   obtain ⟨G2,hG2⟩ : ∃ G2,fl agC (L.set (p+1) y)=G2:=⟨_,rfl⟩
   have hG2l:G2.length=n*5:=by rw [← hG2,z8lx znh2,y0h,hLl]
   have o1:oneC 5 true (G.drop (p*5))=some (.agg (agC y)):=by rw [← hG,zfiy znh2 (by omega),g1]
   have o2:oneC 5 true (G.drop ((p+1)*5))=some (.agg (agC x)):=by rw [← hG,zfiy znh2 (by omega),g2]
   have s1 : ∀ h:List AObj,zy6o h pre.length 5 ((p+1)*5) (.agg (agC y)) (some G)=some (.junk,h.set pre.length (.cells G2)):=fun h=>by rw [← hG,zdvi znh2 (by decide) (fun _=>z892) (by omega),hG2]
   have s2 : ∀ h:List AObj,zy6o h pre.length 5 (p*5) (.agg (agC x)) (some G2)=some (.junk,h.set pre.length (.cells (fl agC (A'++x::(y::B++R))))):=fun h=>by rw [← hG2,zdvi znh2 (by decide) (fun _=>z892) (by rw [y0h]; omega),hs]
   have hv:=zy7t (a:=x) (b:=y)
   have hq:=zml7 (a:=x) (b:=y)
   have t1:((p:Int)+1).toNat=p+1:=by omega
   have t2:(A'++[y]).length=p+1:=by rw [← hp]; simp
   rw [hL,hG,t2]
   cases hc:aLt x y with
   | true =>
    have hq':cmAf x y<0:=hq.2 hc
    simp (disch:=first|omega|simp<;>omega|fail) [-zA,-zB,-zC,-zD,-zE,zssg,zsm4,hGl,hG2l,o1,o2,s1,s2,t1,zszl,hv,hq',zjj2,z1zn,zxft]
    refine ⟨⟨A',y::B⟩,z515 (by simp (disch:=first|omega|simp<;>omega|fail) [-zA,-zB,-zC,-zD,-zE,S937,zsm4,hp]) (by simp (disch:=first|omega|simp<;>omega|fail) [-zA,-zB,-zC,-zD,-zE,S937,zsm4]),by simp,by simpa using r1,fun b hb => ?_⟩
    rcases y0r.1 hb with rfl|hb
    ·exact hc
    ·exact r2 b hb
   | false =>
    have hq':¬ cmAf x y<0:=fun q=>by rw [hq.1 q] at hc; cases hc
    simp (disch:=first|omega|simp<;>omega|fail) [-zA,-zB,-zC,-zD,-zE,zssg,zsm4,hGl,o1,o2,t1,zszl,hv,hq',zjj2,z1zn]
    have e:insR aLt x Q=A'++[y]++x::B:=by rw [← r1]; exact zv9v r2 (.inr ⟨A',y,rfl,hc⟩)
    have hfin:zq4g aLt (l.take (i+1))++l.drop (i+1)=L:=by rw [hnext,e,hR,← hL]; simp
    refine ⟨i+1,z515 (by simp (disch:=first|omega|simp<;>omega|fail) [-zA,-zB,-zC,-zD,-zE,S936,z6ro]) (by simp (disch:=first|omega|simp<;>omega|fail) [-zA,-zB,-zC,-zD,-zE,S936,z6ro,hfin,hG]),by omega,by omega,by omega⟩
 ·have h':¬ (i:Int)<n:=by omega
  have e1:l.drop i=[]:=y0c (by omega)
  have e2:l.take i=l:=y03 (by omega)
  simp (disch:=first|omega|simp<;>omega|fail) [-zA,-zB,-zC,-zD,-zE,h,h',e1,e2]
theorem zfi5 (pre:List AObj) (l:List Agr) (n:Nat) (hn:l.length=n) (hb:n≤1000000):RunsH TcA a72 [.ms pre.length (n*5) 0 5 n (n*5),.int .i64 n,.int .i64 n,(.fn (.func 39) [] [])] (pre++[.cells (fl agC l)]) (.tup []) (pre++[.cells (fl agC l)]):=by
 refine ⟨?_⟩
 simp (disch:=first|omega|simp<;>omega|fail) [-zA,-zB,-zC,-zD,-zE,a72]
 refine zlm5 (fun _:Unit=>z6ro (.ms pre.length (n*5) 0 5 n (n*5)) (.int .i64 n) (.int .i64 n) (.fn (.func 39) [] []) (.int .i64 (n+1)) (pre++[.cells (fl agC l)])) (fun _=>0) (fun _=>True) () (z515 (by simp (disch:=first|omega|simp<;>omega|fail) [-zA,-zB,-zC,-zD,-zE,z6ro]) (by simp (disch:=first|omega|simp<;>omega|fail) [-zA,-zB,-zC,-zD,-zE,z6ro])) trivial (fun i _ => ?_)
 have hw:¬ (n:Int)+1<n:=by omega
 simp (disch:=first|omega|simp<;>omega|fail) [-zA,-zB,-zC,-zD,-zE,zcng,z6ro,hw]
theorem zbf9 (pre:List AObj) (l:List Agr) (n:Nat) (hn:l.length=n) (hb:n≤1000000):zwy1 P 72 [.ms pre.length (n*5) 0 5 n (n*5),.int .i64 0,.int .i64 n,(.fn (.func 39) [] [])] (pre++[.cells (fl agC l)]) (fun d h=>d = .tup []∧h=pre++[.cells (fl agC (zq4g aLt l))]):=by
 subst hn
 exact zv22 mix zl1y Try.func72 z0xs (zh4h pre l hb)
theorem zr2f (pre:List AObj) (l:List Agr) (n:Nat) (hn:l.length=n) (hb:n≤1000000):zwy1 P 72 [.ms pre.length (n*5) 0 5 n (n*5),.int .i64 n,.int .i64 n,(.fn (.func 39) [] [])] (pre++[.cells (fl agC l)]) (fun d h=>d = .tup []∧h=pre++[.cells (fl agC l)]) :=
 zv22 mix zl1y Try.func72 z0xs (zfi5 pre l n hn hb)
theorem zfrq (pre:List AObj) (l:List Agr) (n:Nat) (hn:l.length=n) (hb:n≤20):V P (pre++[AObj.cells (fl agC l)]).length a62.code (retH a62.res (.tup []) (pre++[.cells (fl agC (zq4g aLt l))])) ⟨zr5g a62.ntmps [.ms pre.length (n*5) 0 5 n (n*5),.int .i64 n,(.fn (.func 39) [] [])],pre++[.cells (fl agC l)]⟩:=by
 have hlen:(pre++[AObj.cells (fl agC l)]).length=(pre++[AObj.cells (fl agC (zq4g aLt l))]).length:=by simp
 refine zbn1 (V_W mix zr5o ?_)
 simp (disch:=first|omega|simp<;>omega|fail) [-zA,-zB,-zC,-zD,-zE,a62]
 refine zbn1 (V_W mix zr5o ?_)
 simp (disch:=first|omega|simp<;>omega|fail) [-zA,-zB,-zC,-zD,-zE]
 by_cases h:n=20
 ·subst h
  refine zbn1 (z3mo (ztbr (fun b:TwoS=>zbk2 (.ms pre.length (20*5) 0 5 20 (20*5)) (.int .i64 20) (.fn (.func 39) [] []) (.int .i64 20) (.int .i64 (ts b 0 20)) (.int .i64 (ts b 20 40)) (pre++[.cells (fl agC (ts b l (zq4g aLt l)))])) (fun b=>ts b 1 0) (fun _=>True) .p (z515 (by simp (disch:=first|omega|simp<;>omega|fail) [-zA,-zB,-zC,-zD,-zE,zbk2,ts_p]) (by simp (disch:=first|omega|simp<;>omega|fail) [-zA,-zB,-zC,-zD,-zE,zbk2,ts_p])) trivial (fun b _ => ?_)))
  cases b with
  | p =>
   simp only [ts_p]
   refine zbn1 (V_W mix zr5o ?_)
   simp (disch:=first|omega|simp<;>omega|fail) [-zA,-zB,-zC,-zD,-zE,z1dk,zbk2]
   refine z3mo (zbn1 (V_W mix (z84q (zbf9 pre l 20 hn (by decide))) ?_))
   simp (disch:=first|omega|simp<;>omega|fail) [-zA,-zB,-zC,-zD,-zE,TH_k,zpvh]
   refine zbn1 (V_W mix zr5o ?_)
   simp (disch:=first|omega|simp<;>omega|fail) [-zA,-zB,-zC,-zD,-zE]
   refine V_W mix zr5o ?_
   simp (disch:=first|omega|simp<;>omega|fail) [-zA,-zB,-zC,-zD,-zE]
   exact ⟨.q,z515 (by simp (disch:=first|omega|simp<;>omega|fail) [-zA,-zB,-zC,-zD,-zE,zbk2,ts_q]) (by simp (disch:=first|omega|simp<;>omega|fail) [-zA,-zB,-zC,-zD,-zE,zbk2,ts_q]),Nat.zero_lt_one⟩
  | q =>
   simp only [ts_q]
   refine zbn1 (V_W mix zr5o ?_)
   simp (disch:=first|omega|simp<;>omega|fail) [-zA,-zB,-zC,-zD,-zE,z1dk,zbk2]
   refine zbn1 (V_W mix (z84q (zr2f pre (zq4g aLt l) 20 (by rw [zmgd,hn]) (by decide))) ?_)
   simp (disch:=first|omega|simp<;>omega|fail) [-zA,-zB,-zC,-zD,-zE,TH_k,zpvh]
   refine z3mo (ztbr (fun _:Unit=>zz7r (.ms pre.length (20*5) 0 5 20 (20*5)) (.int .i64 20) (.fn (.func 39) [] []) (.int .i64 20) (pre++[.cells (fl agC (zq4g aLt l))])) (fun _=>0) (fun _=>True) () (z515 (by simp (disch:=first|omega|simp<;>omega|fail) [-zA,-zB,-zC,-zD,-zE,zz7r]) (by simp (disch:=first|omega|simp<;>omega|fail) [-zA,-zB,-zC,-zD,-zE,zz7r])) trivial (fun _ _ => ?_))
   refine zbn1 (V_W mix zr5o ?_)
   simp (disch:=first|omega|simp<;>omega|fail) [-zA,-zB,-zC,-zD,-zE,z8zs,zz7r]
 ·have h1:¬ (20:Int)≤n:=by omega
  have h2:¬ (20:Int)<n:=by omega
  refine zbn1 (z3mo (ztbr (fun _:Unit=>zbk2 (.ms pre.length (n*5) 0 5 n (n*5)) (.int .i64 n) (.fn (.func 39) [] []) (.int .i64 20) (.int .i64 0) (.int .i64 20) (pre++[.cells (fl agC l)])) (fun _=>0) (fun _=>True) () (z515 (by simp (disch:=first|omega|simp<;>omega|fail) [-zA,-zB,-zC,-zD,-zE,zbk2]) (by simp (disch:=first|omega|simp<;>omega|fail) [-zA,-zB,-zC,-zD,-zE,zbk2])) trivial (fun _ _ => ?_)))
  refine zbn1 (V_W mix zr5o ?_)
  simp (disch:=first|omega|simp<;>omega|fail) [-zA,-zB,-zC,-zD,-zE,z1dk,zbk2,h1]
  refine zbn1 (V_W mix (z84q (zbf9 pre l n hn (by omega))) ?_)
  simp (disch:=first|omega|simp<;>omega|fail) [-zA,-zB,-zC,-zD,-zE,TH_k,zpvh]
  refine z3mo (ztbr (fun _:Unit=>zz7r (.ms pre.length (n*5) 0 5 n (n*5)) (.int .i64 n) (.fn (.func 39) [] []) (.int .i64 20) (pre++[.cells (fl agC (zq4g aLt l))])) (fun _=>0) (fun _=>True) () (z515 (by simp (disch:=first|omega|simp<;>omega|fail) [-zA,-zB,-zC,-zD,-zE,zz7r]) (by simp (disch:=first|omega|simp<;>omega|fail) [-zA,-zB,-zC,-zD,-zE,zz7r])) trivial (fun _ _ => ?_))
  refine zbn1 (V_W mix zr5o ?_)
  simp (disch:=first|omega|simp<;>omega|fail) [-zA,-zB,-zC,-zD,-zE,z8zs,zz7r,h2]
theorem z4t1 (pre:List AObj) (l:List Agr) (n:Nat) (hn:l.length=n) (hb:n≤20):zwy1 P 62 [.ms pre.length (n*5) 0 5 n (n*5),.int .i64 n,(.fn (.func 39) [] [])] (pre++[.cells (fl agC l)]) (fun d h=>d = .tup []∧h=pre++[.cells (fl agC (zq4g aLt l))]) :=
 zrqk Try.func62 z0i3 (zfrq pre l n hn hb)
theorem z33b (h:List AObj):zwy1 P 38 [.nils,(.fn (.func 39) [] [])] h (fun d h'=>d = .tup []∧h'=h):=by
 have i0:zwy1 P 72 [.nils,.int .i64 0,.int .i64 0,(.fn (.func 39) [] [])] h (fun d h'=>d = .tup []∧h'=h):=by
  refine zv22 mix zl1y Try.func72 z0xs (show RunsH TcA a72 _ _ _ _ from ⟨?_⟩)
  simp (disch:=first|omega|simp<;>omega|fail) [-zA,-zB,-zC,-zD,-zE,a72]
  refine zlm5 (fun _:Unit=>z6ro .nils (.int .i64 0) (.int .i64 0) (.fn (.func 39) [] []) (.int .i64 1) h) (fun _=>0) (fun _=>True) () (z515 (by simp (disch:=first|omega|simp<;>omega|fail) [-zA,-zB,-zC,-zD,-zE,z6ro]) (by simp (disch:=first|omega|simp<;>omega|fail) [-zA,-zB,-zC,-zD,-zE,z6ro])) trivial (fun i _ => ?_)
  simp (disch:=first|omega|simp<;>omega|fail) [-zA,-zB,-zC,-zD,-zE,zcng,z6ro]
 have s0:zwy1 P 62 [.nils,.int .i64 0,(.fn (.func 39) [] [])] h (fun d h'=>d = .tup []∧h'=h):=by
  refine zrqk Try.func62 z0i3 ?_
  refine zbn1 (V_W mix zr5o ?_)
  simp (disch:=first|omega|simp<;>omega|fail) [-zA,-zB,-zC,-zD,-zE,a62]
  refine zbn1 (V_W mix zr5o ?_)
  simp (disch:=first|omega|simp<;>omega|fail) [-zA,-zB,-zC,-zD,-zE]
  refine zbn1 (z3mo (ztbr (fun _:Unit=>zbk2 .nils (.int .i64 0) (.fn (.func 39) [] []) (.int .i64 20) (.int .i64 0) (.int .i64 20) h) (fun _=>0) (fun _=>True) () (z515 (by simp (disch:=first|omega|simp<;>omega|fail) [-zA,-zB,-zC,-zD,-zE,zbk2]) (by simp (disch:=first|omega|simp<;>omega|fail) [-zA,-zB,-zC,-zD,-zE,zbk2])) trivial (fun _ _ => ?_)))
  refine zbn1 (V_W mix zr5o ?_)
  simp (disch:=first|omega|simp<;>omega|fail) [-zA,-zB,-zC,-zD,-zE,z1dk,zbk2]
  refine zbn1 (V_W mix (z84q i0) ?_)
  simp (disch:=first|omega|simp<;>omega|fail) [-zA,-zB,-zC,-zD,-zE,TH_k,zpvh]
  refine z3mo (ztbr (fun _:Unit=>zz7r .nils (.int .i64 0) (.fn (.func 39) [] []) (.int .i64 20) h) (fun _=>0) (fun _=>True) () (z515 (by simp (disch:=first|omega|simp<;>omega|fail) [-zA,-zB,-zC,-zD,-zE,zz7r]) (by simp (disch:=first|omega|simp<;>omega|fail) [-zA,-zB,-zC,-zD,-zE,zz7r])) trivial (fun _ _ => ?_))
  refine zbn1 (V_W mix zr5o ?_)
  simp (disch:=first|omega|simp<;>omega|fail) [-zA,-zB,-zC,-zD,-zE,z8zs,zz7r]
 refine zv22 mix (z84q s0) Try.func38 zclx (show RunsH _ _ _ _ _ _ from ⟨?_⟩)
 simp (disch:=first|omega|simp<;>omega|fail) [-zA,-zB,-zC,-zD,-zE,a38,TH_k,zpvh]
theorem z1wq (pre:List AObj) (l:List Agr) (hb:l.length≤20):zwy1 P 38 [oV pre.length 5 l,(.fn (.func 39) [] [])] (pre++oT agC l) (fun d h=>d = .tup []∧h=pre++oT agC (zq4g aLt l)):=by
 by_cases e:l=[]
 ·subst e; exact z33b _
 ·have hs:=z4t1 pre l l.length rfl hb
  have hfl:(fl agC l).length=l.length*5:=z8lx znh2 l
  rw [zpni e,zu2l e,zu2l (zlvn e)]
  obtain ⟨n,hn⟩ : ∃ n,l.length=n:=⟨_,rfl⟩
  rw [hn] at hs hfl ⊢
  refine zv22 mix (z84q hs) Try.func38 zclx (show RunsH _ _ _ _ _ _ from ⟨?_⟩)
  have hln:lenD (pre++[.cells (fl agC l)]) (.ms pre.length (n*5) 0 5 n (n*5))=some (.int .i64 n):=by rw [z59c,zjj2,z1zn,if_pos hfl]; rfl
  simp (disch:=first|omega|simp<;>omega|fail) [-zA,-zB,-zC,-zD,-zE,a38,hln,TH_k,zpvh]
end
section
set_option linter.unusedSimpArgs false
set_option linter.unusedVariables false
open Go Go.Am
def vtS (s:Spc) (x:Att):Vot:=⟨x.own,⟨s.name,x.rc.m,x.rc.p⟩⟩
def votL (s:Spc) (l:List Att):List Vot:=(eliS s l).map (vtS s)
def votS (s:Spc) (l:List Att):List Vot:=zq4g vLt (votL s l)
theorem zldt (s:Spc) (l:List Att):(votL s l).length≤l.length:=by unfold votL; rw [y05]; exact zusn s l
theorem zz5s (s:Spc) (l:List Att):(votS s l).length≤l.length:=by unfold votS; rw [zmgd]; exact zldt s l
noncomputable def T940:Tbl:=addT 10 (.pure cEli) tbl0
theorem zx3m:T940 10 = .pure cEli:=by simp [T940]
theorem zh0h:T940.Sound P:=z0rp zxn6 zr5o
def S940 (s:Spc) (E:Sl Att) (i:Nat):St:=z3id (.mp 0 7 0) (oV 1 4 ((E.l.take i).map (vtS s))) (E.dv 9 atC) (.int .i64 E.l.length) (.int .i64 i) (.cells (spC s)::oT voC ((E.l.take i).map (vtS s)))
theorem zcmx (s:Spc) (l:Sl Att) (hl:l.l.length≤20):V P 0 a33.code (retK a33.res ((ownN (votS s l.l)).dv 4 voC)) ⟨zr5g a33.ntmps [.agg (spC s),l.dv 9 atC],[]⟩:=by
 have hE1:(eliS s l.l).length≤20:=y13 (zusn s l.l) hl
 have hE2:(ownN (eliS s l.l)).l=eliS s l.l:=zd8n (by omega)
 have k1:=zbwi (s:=s) (l:=l)
 obtain ⟨E,hE⟩ : ∃ E,ownN (eliS s l.l)=E:=⟨_,rfl⟩
 rw [hE] at hE2 k1
 have hEn:E.l.length≤20:=by rw [hE2]; exact hE1
 have hV:(E.l.map (vtS s))=votL s l.l:=by rw [hE2]; rfl
 refine zbn1 (V_W mix zh0h ?_)
 simp (disch:=first|omega|simp<;>omega|fail) [-zA,-zB,-zC,-zD,-zE,a33]
 refine zbn1 (V_W mix zh0h ?_)
 simp (disch:=first|omega|simp<;>omega|fail) [-zA,-zB,-zC,-zD,-zE]
 refine zbn1 (zbn1 (V_W mix zh0h ?_))
 simp (disch:=first|omega|simp<;>omega|fail) [-zA,-zB,-zC,-zD,-zE,z8s9,zx3m,k1,zu1r]
 refine z3mo (ztbr (S940 s E) (fun i=>E.l.length-i) (fun i=>i≤E.l.length) 0 (z515 (by simp (disch:=first|omega|simp<;>omega|fail) [-zA,-zB,-zC,-zD,-zE,S940,z3id,zl8p]) (by simp (disch:=first|omega|simp<;>omega|fail) [-zA,-zB,-zC,-zD,-zE,S940,z3id,zkrk])) (by omega) (fun i hi => ?_))
 simp only [S940]
 refine zbn1 (V_W mix zh0h ?_)
 by_cases h:i<E.l.length
 case neg =>
  have h':¬ (i:Int)<E.l.length:=by omega
  rw [y03 (show E.l.length≤i by omega),hV]
  have hn:(votL s l.l).length≤20:=by rw [← hV,y05]; exact hEn
  have hcall:=z3ez [.cells (spC s)] (votL s l.l) hn
  have hsn:=zigm (k:=1) (l:=votS s l.l) (h:=[AObj.cells (spC s)]) (r:=[]) rfl zu4u zc6g (by have:=zz5s s l.l; omega)
  rw [y07] at hsn
  simp only [y00,y02,y04,y0b,y0o] at hsn hcall
  have hv2:zq4g vLt (votL s l.l)=votS s l.l:=rfl
  rw [hv2] at hcall
  have ho:oV 1 4 (votL s l.l)=oV 1 4 (votS s l.l):=by
   unfold oV
   have e0:(votS s l.l).length=(votL s l.l).length:=zmgd _
   rw [e0]
   by_cases e:votL s l.l=[]
   ·rw [if_pos e,if_pos (by unfold votS; rw [e]; rfl)]
   ·rw [if_neg e,if_neg (show ¬ votS s l.l=[] from zlvn e)]
  rw [ho] at hcall ⊢
  simp (disch:=first|omega|simp<;>omega|fail) [-zA,-zB,-zC,-zD,-zE,zcr2,z3id,h,h']
  refine zbn1 (V_W mix zh0h ?_)
  simp (disch:=first|omega|simp<;>omega|fail) [-zA,-zB,-zC,-zD,-zE,h,h']
  refine zbn1 (V_W mix (z84q hcall) ?_)
  simp (disch:=first|omega|simp<;>omega|fail) [-zA,-zB,-zC,-zD,-zE,TH_k,zpvh]
  refine zbn1 (V_W mix zh0h ?_)
  simp (disch:=first|omega|simp<;>omega|fail) [-zA,-zB,-zC,-zD,-zE]
  refine V_W mix zh0h ?_
  simp (disch:=first|omega|simp<;>omega|fail) [-zA,-zB,-zC,-zD,-zE,hsn]
 have h':(i:Int)<E.l.length:=by omega
 have hg : ∀ H,zpsc H 9 (E.dv 9 atC) i=some (.ref (atC E.l[i])):=fun H=>zalo zu2q h
 have hs:(E.l.take (i+1)).map (vtS s)=(E.l.take i).map (vtS s)++[vtS s E.l[i]]:=by rw [y01 h,y0v]; rfl
 have hlen:((E.l.take i).map (vtS s)).length≤20:=by rw [y05,y06]; omega
 obtain ⟨x,hx⟩ : ∃ x,E.l[i]=x:=⟨_,rfl⟩
 rw [hx] at hg hs
 obtain ⟨L,hL⟩ : ∃ L,(E.l.take i).map (vtS s)=L:=⟨_,rfl⟩
 rw [hL] at hs hlen ⊢
 have hTb : ∀ n,zlf2 n (oT voC L)=true:=fun n=>zd81 zc6g
 have hVb:Am.below (1+(oT voC L).length) (oV 1 4 L)=true:=zv6o
 have hVb':Am.below ((oT voC L).length+1) (oV 1 4 L)=true:=by rw [Nat.add_comm]; exact hVb
 have hap:=zte0 (k:=1) (b:=80) (l:=L) (x:=vtS s x) (h:=[AObj.cells (spC s)]) rfl zu4u (by decide) (by decide) (fun _=>z0cw) (by omega)
 simp only [y00,y02] at hap
 simp only [voC,vtS,lkC] at hap
 simp (disch:=first|omega|simp<;>omega|fail) [-zA,-zB,-zC,-zD,-zE,zcr2,z3id,h,h']
 refine zbn1 (V_W mix zh0h ?_)
 simp (disch:=first|omega|simp<;>omega|fail) [-zA,-zB,-zC,-zD,-zE,h,h']
 refine zbn1 (z3mo (zbn1 (V_W mix zh0h ?_)))
 simp (disch:=first|omega|simp<;>omega|fail) [-zA,-zB,-zC,-zD,-zE,hg]
 refine zs10 (H := .cells (spC s)::oT voC L) (cs:=atC x) (t':=[.junk,.junk,.mp 0 7 0,.junk,.junk,oV 1 4 L,.junk,.ref (atC x),.junk,.junk,E.dv 9 atC,.int .i64 E.l.length,.int .i64 i]++js 22) (by simp (disch:=first|omega|simp<;>omega|fail) [-zA,-zB,-zC,-zD,-zE,zlf2,hTb]) (by simp) ?_ (by simp (disch:=first|omega|simp<;>omega|fail) [-zA,-zB,-zC,-zD,-zE,belowL,Am.below,hVb',z8b8 _ _ (zu1r E)]) ?_
 ·have e1:=zz5t (H := .cells (spC s)::oT voC L) (cs:=atC x) (off:=0) (z83l x)
  have e2 : ∀ h,mk1 (kLt ((AObj.cells (spC s)::oT voC L).length)) h (oV 1 4 L)=oV 1 4 L:=fun h=>zd3c (by rw [y04]; exact hVb')
  have e3 : ∀ h,mk1 (kLt ((AObj.cells (spC s)::oT voC L).length)) h (.mp 0 7 0) = .mp 0 7 0:=fun h=>zd3c (by simp [Am.below])
  have e4 : ∀ K h,mk1 K h (E.dv 9 atC)=E.dv 9 atC:=fun K h=>zvft (zu1r E)
  simp only [y00,y04,zu2q,y0d] at e1 e2 e3
  simp (disch:=first|omega|simp<;>omega|fail) [-zA,-zB,-zC,-zD,-zE,e1,e2,e3,e4]
 refine V_W mix zh0h ?_
 simp (disch:=first|omega|simp<;>omega|fail) [-zA,-zB,-zC,-zD,-zE,zkpj,z7jb,zh1e,zwo7,hap]
 refine V_W mix zh0h ?_
 simp (disch:=first|omega|simp<;>omega|fail) [-zA,-zB,-zC,-zD,-zE]
 exact ⟨i+1,z515 (by simp (disch:=first|omega|simp<;>omega|fail) [-zA,-zB,-zC,-zD,-zE,S940,z3id,hs,vtS]) (by simp (disch:=first|omega|simp<;>omega|fail) [-zA,-zB,-zC,-zD,-zE,S940,z3id,hs,vtS]),by omega,by omega⟩
noncomputable def cVot:List DV→Option DV:=con (fun a:Spc × Sl Att=>a.2.l.length≤20) (fun a:Spc × Sl Att=>[.agg (spC a.1),a.2.dv 9 atC]) (fun a=>(ownN (votS a.1 a.2.l)).dv 4 voC)
theorem zgda {s:Spc} {l:Sl Att} (h:l.l.length≤20):cVot [.agg (spC s),l.dv 9 atC]=some ((ownN (votS s l.l)).dv 4 voC) :=
 zzno (A:=fun a:Spc × Sl Att=>a.2.l.length≤20) (f:=fun a:Spc × Sl Att=>[.agg (spC a.1),a.2.dv 9 atC]) (g:=fun a=>(ownN (votS a.1 a.2.l)).dv 4 voC) (by
  rintro ⟨a,b⟩ ⟨c,d⟩ e
  simp only [List.cons.injEq,DV.agg.injEq,and_true] at e
  rw [z1d3 e.1,z965 e.2]) (s,l) h
theorem zcdr:(Con.pure cVot).Sound P 33:=z2au fun a h=>znz9 Try.func33 zojn (zcmx a.1 a.2 h)
end
section
set_option linter.unusedSimpArgs false
set_option linter.unusedVariables false
open Go Go.Am
def vKey (v:Vot):List Ent × List Ent:=(v.lnk.m.l,v.lnk.p.l)
def ownF (a b:Vot):Bool:=decide (a.own=b.own)
def keyF (a b:Vot):Bool:=decide (vKey a=vKey b)
theorem zf7y {a b:Vot}:zxyz a.lnk b.lnk=keyF a b:=by
 unfold zxyz keyF vKey
 by_cases h1:a.lnk.m.l=b.lnk.m.l<;>by_cases h2:a.lnk.p.l=b.lnk.p.l<;>simp [h1,h2]
theorem zagl (a b:Vot):Runs tbl0 a34 [.agg (voC a),.agg (voC b)] (.bool (ownF a b)):=by
 refine ⟨?_⟩
 unfold ownF
 by_cases h:a.own=b.own
 ·simp (disch:=first|omega|simp<;>omega|fail) [-zA,-zB,-zC,-zD,-zE,a34,h]
 ·simp (disch:=first|omega|simp<;>omega|fail) [-zA,-zB,-zC,-zD,-zE,a34,h]
noncomputable def T950:Tbl:=addT 21 (.pure cSmL) tbl0
theorem zwmo:T950 21 = .pure cSmL:=by simp [T950]
theorem zlbs:T950.Sound P:=z0rp zijq zr5o
theorem z94g (a b:Vot):Runs T950 a37 [.agg (voC a),.agg (voC b)] (.bool (keyF a b)):=by
 refine ⟨?_⟩
 have h:=zfc5 (a:=a.lnk) (b:=b.lnk)
 rw [zf7y] at h
 simp (disch:=first|omega|simp<;>omega|fail) [-zA,-zB,-zC,-zD,-zE,a37,zwmo,h]
noncomputable def cC1:List DV→Option DV:=con (fun _=>True) (fun a:Vot × Vot=>[.agg (voC a.1),.agg (voC a.2)]) (fun a => .bool (ownF a.1 a.2))
noncomputable def cC3:List DV→Option DV:=con (fun _=>True) (fun a:Vot × Vot=>[.agg (voC a.1),.agg (voC a.2)]) (fun a => .bool (keyF a.1 a.2))
theorem z0pp {a b c d:Vot} (e:[DV.agg (voC a),.agg (voC b)]=[.agg (voC c),.agg (voC d)]):a=c∧b=d:=by
 simp only [List.cons.injEq,DV.agg.injEq,and_true] at e
 exact ⟨zkbi e.1,zkbi e.2⟩
noncomputable def F1:SF:=⟨34,ownF,cC1,fun a b=>zsn4 (f:=fun a:Vot × Vot=>[.agg (voC a.1),.agg (voC a.2)]) (g:=fun a => .bool (ownF a.1 a.2)) (by
 rintro ⟨a,b⟩ ⟨c,d⟩ e
 obtain ⟨rfl,rfl⟩:=z0pp e; rfl) (a,b),z2au fun (a:Vot × Vot) _=>zljw mix zr5o Try.func34 zk28 (zagl a.1 a.2)⟩
noncomputable def F3:SF:=⟨37,keyF,cC3,fun a b=>zsn4 (f:=fun a:Vot × Vot=>[.agg (voC a.1),.agg (voC a.2)]) (g:=fun a => .bool (keyF a.1 a.2)) (by
 rintro ⟨a,b⟩ ⟨c,d⟩ e
 obtain ⟨rfl,rfl⟩:=z0pp e; rfl) (a,b),z2au fun (a:Vot × Vot) _=>zljw mix zlbs Try.func37 z554 (z94g a.1 a.2)⟩
theorem znwp:F1.dv = .fn (.func 34) [] []:=rfl
theorem zpo2:F3.dv = .fn (.func 37) [] []:=rfl
def difH (g:Sl Vot) (v:Vot):Bool:=match g.l with
 | []=>false
 | w::_ => !decide (vKey v=vKey w)
theorem zfex (g:Sl Vot) (v:Vot) (hg:g.l≠[]):Runs T950 a36 [.agg (voC v),.ref [g.dv 4 voC]] (.bool (difH g v)):=by
 refine ⟨?_⟩
 cases e:g.l with
 | nil=>exact absurd e hg
 | cons w r =>
  have hi : ∀ H,zpsc H 4 (g.dv 4 voC) 0=some (.ref (voC w)):=fun H=>by
   have:=zalo (h:=H) (x:=g) (i:=0) zu4u (by rw [e]; simp)
   rw [show ((0:Nat):Int)=0 from rfl] at this
   rw [this]; simp [e]
  have h:=zfc5 (a:=v.lnk) (b:=w.lnk)
  rw [zf7y] at h
  have hr:difH g v = !keyF v w:=by unfold difH keyF; rw [e]
  simp (disch:=first|omega|simp<;>omega|fail) [-zA,-zB,-zC,-zD,-zE,a36,hi,zwmo,h,hr]
noncomputable def cC2:List DV→Option DV:=con (fun a:Sl Vot × Vot=>a.1.l≠[]) (fun a=>[.agg (voC a.2),.ref [a.1.dv 4 voC]]) (fun a => .bool (difH a.1 a.2))
theorem zf6o {g:Sl Vot} {v:Vot} (h:g.l≠[]):cC2 [.agg (voC v),.ref [g.dv 4 voC]]=some (.bool (difH g v)) :=
 zzno (A:=fun a:Sl Vot × Vot=>a.1.l≠[]) (f:=fun a:Sl Vot × Vot=>[.agg (voC a.2),.ref [a.1.dv 4 voC]]) (g:=fun a => .bool (difH a.1 a.2)) (by
  rintro ⟨a,b⟩ ⟨c,d⟩ e
  simp only [List.cons.injEq,DV.agg.injEq,DV.ref.injEq,and_true] at e
  rw [zkbi e.1,z22s e.2]) (g,v) h
theorem z0w6:(Con.pure cC2).Sound P 36:=z2au fun a h=>zljw mix zlbs Try.func36 zj68 (zfex a.1 a.2 h)
noncomputable def T951:Tbl:=addT 36 (.pure cC2) tbl0
theorem zqyt:T951 36 = .pure cC2:=by simp [T951]
theorem zksh:T951.Sound P:=z0rp z0w6 zr5o
def c2fn (g:Sl Vot):DV := .fn (.func 36) [] [.ref [g.dv 4 voC]]
def S951 (x g:Sl Vot) (i:Nat):St:=zyvq (x.dv 4 voC) (c2fn g) (.int .i64 x.l.length) (.int .i64 i) []
theorem zzhn (x g:Sl Vot) (hx:g.l≠[]):Runs T951 a61 [x.dv 4 voC,c2fn g] (.int .i64 (fIx (difH g) x.l)):=by
 refine ⟨?_⟩
 have hb:=x.b
 simp (disch:=first|omega|simp<;>omega|fail) [-zA,-zB,-zC,-zD,-zE,a61]
 refine zlm5 (S951 x g) (fun i=>x.l.length-i) (fun i=>i≤x.l.length ∧ ∀ j (h:j<x.l.length),j<i→difH g x.l[j]=false) 0 (z515 (by simp (disch:=first|omega|simp<;>omega|fail) [-zA,-zB,-zC,-zD,-zE,S951,zyvq]) (by simp (disch:=first|omega|simp<;>omega|fail) [-zA,-zB,-zC,-zD,-zE,S951,zyvq])) ⟨by omega,fun j _ hj=>by omega⟩ (fun i hi => ?_)
 obtain ⟨q1,q2⟩:=hi
 simp only [S951]
 by_cases q:i<x.l.length
 ·have g':(i:Int)<x.l.length:=by omega
  have hy : ∀ H,zpsc H 4 (x.dv 4 voC) i=some (.ref (voC x.l[i])):=fun H=>zalo zu4u q
  have hc:=zf6o (v:=x.l[i]) hx
  have hinv:difH g x.l[i]=false → ∀ j (h:j<x.l.length),j<i+1→difH g x.l[j]=false:=fun e j hj hji=>by
   by_cases ej:j=i
   ·subst ej; exact e
   ·exact q2 j hj (by omega)
  have hr:difH g x.l[i]=true→fIx (difH g) x.l=i:=fun e=>z67l q e q2
  obtain ⟨u,hu⟩ : ∃ u,x.l[i]=u:=⟨_,rfl⟩
  rw [hu] at hy hc hinv hr
  cases e:difH g u with
  | true =>
   have hr:=hr e
   rw [e] at hc
   simp (disch:=first|omega|simp<;>omega|fail) [-zA,-zB,-zC,-zD,-zE,zx3n,zyvq,q,g',hy,zhol,c2fn,zqyt,hc,hr,znfs]
  | false =>
   have hinv:=hinv e
   rw [e] at hc
   simp (disch:=first|omega|simp<;>omega|fail) [-zA,-zB,-zC,-zD,-zE,zx3n,zyvq,q,g',hy,zhol,c2fn,zqyt,hc,znfs]
   exact ⟨i+1,z515 (by simp (disch:=first|omega|simp<;>omega|fail) [-zA,-zB,-zC,-zD,-zE,S951,zyvq,c2fn]) (by simp (disch:=first|omega|simp<;>omega|fail) [-zA,-zB,-zC,-zD,-zE,S951,zyvq]),by omega,by omega,fun j h hj=>by simpa using hinv j h hj⟩
 ·have g':¬ (i:Int)<x.l.length:=by omega
  have hr:fIx (difH g) x.l = -1:=zf0r fun a ha=>by
   obtain ⟨j,hj,e⟩:=y0x ha
   have:=q2 j hj (by omega)
   rw [e] at this; exact this
  simp (disch:=first|omega|simp<;>omega|fail) [-zA,-zB,-zC,-zD,-zE,zx3n,zyvq,q,g',hr]
theorem z75j {a b c d:Sl Vot} (e:[a.dv 4 voC,c2fn b]=[c.dv 4 voC,c2fn d]):a=c∧b=d:=by
 simp only [List.cons.injEq,c2fn,DV.fn.injEq,DV.ref.injEq,and_true,true_and] at e
 exact ⟨z22s e.1,z22s e.2⟩
noncomputable def cVix:List DV→Option DV:=con (fun a:Sl Vot × Sl Vot=>a.2.l≠[]) (fun a=>[a.1.dv 4 voC,c2fn a.2]) (fun a => .int .i64 (fIx (difH a.2) a.1.l))
theorem zrjl {x g:Sl Vot} (h:g.l≠[]):cVix [x.dv 4 voC,c2fn g]=some (.int .i64 (fIx (difH g) x.l)) :=
 zzno (A:=fun a:Sl Vot × Sl Vot=>a.2.l≠[]) (f:=fun a:Sl Vot × Sl Vot=>[a.1.dv 4 voC,c2fn a.2]) (g:=fun a => .int .i64 (fIx (difH a.2) a.1.l)) (by
  rintro ⟨a,b⟩ ⟨c,d⟩ e
  obtain ⟨rfl,rfl⟩:=z75j e; rfl) (x,g) h
theorem z7po:(Con.pure cVix).Sound P 61:=z2au fun a h=>zljw mix zksh Try.func61 zuuw (zzhn a.1 a.2 h)
noncomputable def T952:Tbl:=addT 61 (.pure cVix) tbl0
theorem zuew:T952 61 = .pure cVix:=by simp [T952]
theorem zu1a:T952.Sound P:=z0rp z7po zr5o
theorem z8ez {α:Type} (p:α→Bool) (l:List α):decide (0≤fIx p l)=l.any p:=by
 rcases za4c p l with ⟨h,h2⟩|⟨i,hi,h,h2,_⟩
 ·have:l.any p=false:=by rw [List.any_eq_false]; exact fun x hx=>by rw [h2 x hx]; simp
  rw [this,h]; simp
 ·have:l.any p=true:=List.any_eq_true.2 ⟨l[i],y0i hi,h2⟩
  rw [this,h]; simp
theorem z3k4 {g:Sl Vot}:g.l.any (difH g)=badG vKey g.l:=by
 cases e:g.l with
 | nil=>rfl
 | cons w r =>
  have:difH g=fun v => !decide (vKey v=vKey w):=funext fun v=>by unfold difH; rw [e]
  rw [this]; rfl
theorem zlqz (g:Sl Vot) (hx:g.l≠[]):Runs T952 a35 [g.dv 4 voC,c2fn g] (.bool (badG vKey g.l)):=by
 refine ⟨?_⟩
 have h:=zrjl (x:=g) hx
 have h2:=z8ez (difH g) g.l
 rw [z3k4] at h2
 obtain ⟨k,hk⟩ : ∃ k,fIx (difH g) g.l=k:=⟨_,rfl⟩
 rw [hk] at h h2
 have hp:zyp8 (c2fn g)=true:=by simp [c2fn,zyp8,zbao,znfs]
 rw [← h2]
 by_cases e:0≤k
 ·simp (disch:=first|omega|simp<;>omega|fail) [-zA,-zB,-zC,-zD,-zE,a35,zuew,h,hp,znfs,e]
 ·simp (disch:=first|omega|simp<;>omega|fail) [-zA,-zB,-zC,-zD,-zE,a35,zuew,h,hp,znfs,e]
noncomputable def cVcf:List DV→Option DV:=con (fun g:Sl Vot=>g.l≠[]) (fun g=>[g.dv 4 voC,c2fn g]) (fun g => .bool (badG vKey g.l))
theorem za00 {g:Sl Vot} (h:g.l≠[]):cVcf [g.dv 4 voC,c2fn g]=some (.bool (badG vKey g.l)) :=
 zzno (A:=fun g:Sl Vot=>g.l≠[]) (f:=fun g:Sl Vot=>[g.dv 4 voC,c2fn g]) (g:=fun g => .bool (badG vKey g.l)) (by
  rintro a b e
  obtain ⟨rfl,_⟩:=z75j e; rfl) g h
theorem zb7s:(Con.pure cVcf).Sound P 35:=z2au fun a h=>zljw mix zu1a Try.func35 zxwh (zlqz a h)
end
section
set_option linter.unusedSimpArgs false
set_option linter.unusedVariables false
open Go Go.Am
section
variable {α:Type} {f:α→List DV} {K:Nat}
theorem zwbu {k:Nat} {l:List α} {h r:List AObj} (hp:h.length=k) (hu : ∀ a,(f a).length=K) (e:l≠[]):objV (h++(oT f l++r)) k (l.length*K)=some (fl f l):=by
 rw [zu2l e]
 unfold objV ziu0
 rw [y10 (by omega),show k-h.length=0 by omega]
 simp [z8lx hu]
theorem zjkm {k b:Nat} {l:List α} {x:α} {h r:List AObj} (hp:h.length=k) (hu : ∀ a,(f a).length=K) (h0:0<K) (hb:b≤16384) (ha : ∀ a,(f a).all DV.one=true) (hbig:l.length+1≤4294967296) (e:l≠[]) :
  appX (h++(oT f l++r)) K b (oV k K l) 1 (f x)=some (oV k K (l++[x]),h++(oT f (l++[x])++r)):=by
 have ho:=zwbu (r:=r) (f:=f) hp hu e
 have:=zkg3 (h:=h++(oT f l++r)) (id:=k) (b:=b) (l:=l) (x:=x) hu h0 hb ha hbig ho
 rw [zpni e,this,zpni (by simp),zu2l e,zu2l (by simp),y08,y0j _ _ (by omega),show k-h.length=0 by omega]
 simp
theorem zlgn {l:List α} (e:l≠[]):(oT f l).length=1:=by rw [zu2l e]; rfl
theorem z2a4 {k n:Nat} {l:List α} {h r:List AObj} (hp:h.length=k) (hk:n≤k) (hu : ∀ a,(f a).length=K) (hf : ∀ a,zbao (f a)=true) (hb:l.length≤4294967296):mk1 (kLt n) (h++(oT f l++r)) (oV k K l)=(ownN l).dv K f:=by
 by_cases e:l=[]
 ·subst e; rw [zl8p,z2i7]; exact zhx5
 ·refine zwy6 ?_
  have ho:=zwbu (r:=r) (f:=f) hp hu e
  rw [zpni e,zi9r,if_neg (by simp [kLt]; omega),ho,y0l,y0d,z590 hu,List.take_length,zl6f (zp6k hf _),zgr3 e hb]; rfl
end
structure CI where
 f:Bool
 S:List Vot
 Q:List Str
def CI.H (c:CI):List AObj:=if c.f then oT voC c.S++oT stC c.Q else oT stC c.Q++oT voC c.S
def CI.sv (c:CI):DV:=oV (if c.f then 1 else 1+(oT stC c.Q).length) 4 c.S
def CI.qv (c:CI):DV:=oV (if c.f then 1+(oT voC c.S).length else 1) 1 c.Q
structure CI.Ok (c:CI):Prop where
 a:c.f=true→c.S=[]→c.Q=[]
 b:c.f=false→c.Q=[]→c.S=[]
def CI.adS (c:CI) (x:Vot):CI:=⟨if c.Q=[] then true else c.f,c.S++[x],c.Q⟩
def CI.adQ (c:CI) (y:Str):CI:=⟨if c.S=[] then false else c.f,c.S,c.Q++[y]⟩
theorem zlxs (y:Str):(stC y).all DV.one=true:=rfl
theorem CI.app_S {c:CI} (g:c.Ok) {o:AObj} {x:Vot} (hb:c.S.length+1≤4294967296):appX (o::c.H) 4 80 c.sv 1 (voC x)=some ((c.adS x).sv,o::(c.adS x).H)∧(c.adS x).qv=c.qv∧(c.adS x).Ok:=by
 obtain ⟨f,S,Q⟩:=c
 by_cases hQ:Q=[]
 ·subst hQ
  have e:=zte0 (k:=1) (b:=80) (l:=S) (x:=x) (h:=[o]) rfl zu4u (by decide) (by decide) (fun _=>z0cw) hb
  simp only [y00,y02] at e
  refine ⟨?_,?_,⟨fun _ h=>by simp [adS] at h,fun h _=>by simp [adS] at h⟩⟩
  ·cases f<;>simp [adS,H,sv,zkrk,e]
  ·cases f<;>simp [adS,qv,zl8p]
 ·cases f with
  | true =>
   have hS:S≠[]:=fun e=>hQ (g.a rfl e)
   have e:=zjkm (k:=1) (b:=80) (l:=S) (x:=x) (h:=[o]) (r:=oT stC Q) rfl zu4u (by decide) (by decide) (fun _=>z0cw) hb hS
   simp only [y00,y02] at e
   refine ⟨by simp [adS,H,sv,e],by simp [adS,qv,zlgn hS,zlgn (show S++[x]≠[] by simp)],⟨fun _ h=>by simp [adS] at h,fun h _=>by simp [adS,hQ] at h⟩⟩
  | false =>
   have e:=zte0 (k:=1+(oT stC Q).length) (b:=80) (l:=S) (x:=x) (h:=o::oT stC Q) (by simp; omega) zu4u (by decide) (by decide) (fun _=>z0cw) hb
   simp only [y00] at e
   refine ⟨by simp [adS,H,sv,e,hQ],by simp [adS,qv,hQ],⟨fun _ h=>by simp [adS] at h,fun _ h=>absurd h hQ⟩⟩
theorem CI.app_Q {c:CI} (g:c.Ok) {o:AObj} {y:Str} (hb:c.Q.length+1≤4294967296):appX (o::c.H) 1 16 c.qv 1 [.str y]=some ((c.adQ y).qv,o::(c.adQ y).H)∧(c.adQ y).sv=c.sv∧(c.adQ y).Ok:=by
 obtain ⟨f,S,Q⟩:=c
 by_cases hS:S=[]
 ·subst hS
  have e:=zte0 (f:=stC) (k:=1) (b:=16) (l:=Q) (x:=y) (h:=[o]) rfl (fun _=>rfl) (by decide) (by decide) zlxs hb
  rw [show stC y=[DV.str y] from rfl] at e
  simp only [y00,y02] at e
  refine ⟨?_,?_,⟨fun h _=>by simp [adQ] at h,fun _ h=>by simp [adQ] at h⟩⟩
  ·cases f<;>simpa [adQ,H,qv,zkrk] using e
  ·cases f<;>simp [adQ,sv,zl8p]
 ·cases f with
  | false =>
   have hQ:Q≠[]:=fun e=>hS (g.b rfl e)
   have e:=zjkm (f:=stC) (k:=1) (b:=16) (l:=Q) (x:=y) (h:=[o]) (r:=oT voC S) rfl (fun _=>rfl) (by decide) (by decide) zlxs hb hQ
   rw [show stC y=[DV.str y] from rfl] at e
   simp only [y00,y02] at e
   refine ⟨by simpa [adQ,H,qv] using e,by simp [adQ,sv,zlgn hQ,zlgn (show Q++[y]≠[] by simp)],⟨fun h _=>by simp [adQ,hS] at h,fun _ h=>by simp [adQ] at h⟩⟩
  | true =>
   have e:=zte0 (f:=stC) (k:=1+(oT voC S).length) (b:=16) (l:=Q) (x:=y) (h:=o::oT voC S) (by simp; omega) (fun _=>rfl) (by decide) (by decide) zlxs hb
   rw [show stC y=[DV.str y] from rfl] at e
   simp only [y00] at e
   refine ⟨by simpa [adQ,H,qv,hS] using e,by simp [adQ,sv,hS],⟨fun _ h=>absurd h hS,fun _ h=>by simp [adQ] at h⟩⟩
theorem z0tx (a:Str):zbao (stC a)=true:=rfl
theorem CI.H_below {c:CI} {n:Nat}:zlf2 n c.H=true:=by
 unfold CI.H
 have h1:zlf2 n (oT voC c.S)=true:=zd81 zc6g
 have h2:zlf2 n (oT stC c.Q)=true:=zd81 z0tx
 have ap : ∀ a b:List AObj,zlf2 n a=true→zlf2 n b=true→zlf2 n (a++b)=true:=by
  intro a b ha hb
  induction a with
  | nil=>exact hb
  | cons o r ih =>
   cases o with
   | cells cs=>simp only [y00,zlf2,Bool.and_eq_true] at ha ⊢; exact ⟨ha.1,ih ha.2⟩
   | dead=>simp only [y00,zlf2] at ha ⊢; exact ih ha
 split
 ·exact ap _ _ h1 h2
 ·exact ap _ _ h2 h1
theorem CI.sv_below {c:CI}:Am.below (c.H.length+1) c.sv=true:=by
 obtain ⟨f,S,Q⟩:=c
 by_cases e:S=[]
 ·subst e; rfl
 ·have:=zlgn (f:=voC) e
  cases f<;>simp [CI.H,CI.sv,zpni e,Am.below,this]<;>omega
theorem CI.qv_below {c:CI}:Am.below (c.H.length+1) c.qv=true:=by
 obtain ⟨f,S,Q⟩:=c
 by_cases e:Q=[]
 ·subst e; cases f<;>rfl
 ·have:=zlgn (f:=stC) e
  cases f<;>simp [CI.H,CI.qv,zpni e,Am.below,this]<;>omega
theorem CI.sv_mk {c:CI} {o:AObj} (hb:c.S.length≤4294967296):mk1 (kLt 1) (o::c.H) c.sv=(ownN c.S).dv 4 voC:=by
 obtain ⟨f,S,Q⟩:=c
 cases f with
 | true =>
  have:=z2a4 (k:=1) (n:=1) (l:=S) (h:=[o]) (r:=oT stC Q) rfl (by decide) zu4u zc6g hb
  simpa [CI.H,CI.sv] using this
 | false =>
  have:=z2a4 (k:=1+(oT stC Q).length) (n:=1) (l:=S) (h:=o::oT stC Q) (r:=[]) (by simp; omega) (by omega) zu4u zc6g hb
  simpa [CI.H,CI.sv] using this
theorem CI.qv_mk {c:CI} {o:AObj} (hb:c.Q.length≤4294967296):mk1 (kLt 1) (o::c.H) c.qv=(ownN c.Q).dv 1 stC:=by
 obtain ⟨f,S,Q⟩:=c
 cases f with
 | false =>
  have:=z2a4 (f:=stC) (K:=1) (k:=1) (n:=1) (l:=Q) (h:=[o]) (r:=oT voC S) rfl (by decide) (fun _=>rfl) z0tx hb
  simpa [CI.H,CI.qv] using this
 | true =>
  have:=z2a4 (f:=stC) (K:=1) (k:=1+(oT voC S).length) (n:=1) (l:=Q) (h:=o::oT voC S) (r:=[]) (by simp; omega) (by omega) (fun _=>rfl) z0tx hb
  simpa [CI.H,CI.qv] using this
theorem zy4i {P:Program} {n0:Nat} {x:ACode} {Φ:AExit→St→Prop} {t t':List DV} {o:AObj} {cs:List DV} {r:List AObj} (ho:o = .cells cs) (hp:zbao cs=true) (hn:n0≤1)
  (ht:znqe (mkL (kLt 1) (o::r) t) t') (hb:belowL 1 t'=true) (h:V P n0 x Φ ⟨t',[o]⟩):V P n0 x Φ ⟨t,o::r⟩:=by
 subst ho
 refine V_mk (kLt 1) ?_
 rw [ztik,if_pos (by simp [kLt]),zrip hp]
 exact zqfd (zju2 (h':=[.cells cs]) (tail:=mkO (kLt 1) (.cells cs::r) 1 r) ht rfl (by simpa using hn) hb (by simp [zlf2,zmq5 _ _ hp])) h
end
section
set_option linter.unusedSimpArgs false
set_option linter.unusedVariables false
open Go Go.Am
def sngL (L:List (Sl Vot)):List Vot:=(L.filter fun g => !badG vKey g.l).filterMap fun g=>g.l.head?
def eqvL (L:List (Sl Vot)):List Str:=(L.filter fun g=>badG vKey g.l).filterMap fun g=>g.l.head?.map Vot.own
theorem z76h {L:List (Sl Vot)} {g:Sl Vot} {w:Vot} {r:List Vot} (h:g.l=w::r):sngL (L++[g])=sngL L++(if badG vKey g.l then [] else [w]):=by
 unfold sngL
 rw [y0p,y19]
 cases q:badG vKey g.l<;>rw [List.filter_cons,q]<;>simp [h]
theorem zcag {L:List (Sl Vot)} {g:Sl Vot} {w:Vot} {r:List Vot} (h:g.l=w::r):eqvL (L++[g])=eqvL L++(if badG vKey g.l then [w.own] else []):=by
 unfold eqvL
 rw [y0p,y19]
 cases q:badG vKey g.l<;>rw [List.filter_cons,q]<;>simp [h]
theorem zuz9 (L:List (Sl Vot)):(sngL L).length≤L.length:=y13 (y14 _ _) (y0k _ _)
theorem zc5h (L:List (Sl Vot)):(eqvL L).length≤L.length:=y13 (y14 _ _) (y0k _ _)
theorem zylz {y:Str}:bslD 1 1 [.str []] [(0,1,.str y)]=some (.sl true 1 1 [.str y]):=by
 simp [bslD,zi03,zk7y,reps,rep]
noncomputable def T954:Tbl:=addT 35 (.pure cVcf) tbl0
theorem zu7v:T954 35 = .pure cVcf:=by simp [T954]
theorem zslj:T954.Sound P:=z0rp zb7s zr5o
structure CJ where
 c:CI
 i:Nat
def S954 (s:Spc) (G:Sl (Sl Vot)) (a:CJ):St:=z6m2 a.c.sv a.c.qv (G.dv 1 gC) (.int .i64 G.l.length) (.int .i64 a.i) (.cells (spC s)::a.c.H)
structure CJok (G:Sl (Sl Vot)) (a:CJ):Prop where
 hi:a.i≤G.l.length
 ok:a.c.Ok
 s:a.c.S=sngL (G.l.take a.i)
 q:a.c.Q=eqvL (G.l.take a.i)
theorem zh6a {s:Spc} {G:Sl (Sl Vot)} (hG:G.l.length≤20) (hne : ∀ g ∈ G.l,g.l≠[]) {Φ:AExit→St→Prop} (a:CJ) (ha:CJok G a)
  (hexit : ∀ c:CI,c.Ok→c.S=sngL G.l→c.Q=eqvL G.l→Φ (.exit 0) ⟨js 6++[c.sv,c.qv]++js 69,.cells (spC s)::c.H⟩)
  (hw : ∀ st st',Weak 0 st st'→Φ (.exit 0) st'→Φ (.exit 0) st) :
  V P 0 z9ex (z13e 0 (S954 s G) (fun a=>G.l.length-a.i) (CJok G) a Φ) (S954 s G a):=by
 obtain ⟨hi,ok,hs,hq⟩:=ha
 simp only [S954]
 refine zbn1 (V_W mix zslj ?_)
 by_cases h:a.i<G.l.length
 case neg =>
  have h':¬ (a.i:Int)<G.l.length:=by omega
  rw [y03 (show G.l.length≤a.i by omega)] at hs hq
  have hx:=hexit a.c ok hs hq
  simp (disch:=first|omega|simp<;>omega|fail) [-zA,-zB,-zC,-zD,-zE,z9ex,z6m2,h,h']
  refine zbn1 (V_W mix zslj ?_)
  simp (disch:=first|omega|simp<;>omega|fail) [-zA,-zB,-zC,-zD,-zE,h,h']
  refine hw _ _ (z515 ?_ rfl) hx
  simp (disch:=first|omega|simp<;>omega|fail) [-zA,-zB,-zC,-zD,-zE]
 have h':(a.i:Int)<G.l.length:=by omega
 have hg : ∀ H,zpsc H 1 (G.dv 1 gC) a.i=some (.ref (gC G.l[a.i])):=fun H=>zalo zfnv h
 have hgne:=hne _ (y0i h)
 have e1:=y01 h
 obtain ⟨g,hgg⟩ : ∃ g,G.l[a.i]=g:=⟨_,rfl⟩
 rw [hgg] at hg hgne e1
 obtain ⟨w,r,hwr⟩ : ∃ w r,g.l=w::r:=by
  cases e:g.l with
  | nil=>exact absurd e hgne
  | cons w r=>exact ⟨w,r,rfl⟩
 have hsn:=z76h (L:=G.l.take a.i) hwr
 have hqn:=zcag (L:=G.l.take a.i) hwr
 rw [← e1,← hs] at hsn
 rw [← e1,← hq] at hqn
 have hlS:a.c.S.length≤20:=by have:=zuz9 (G.l.take a.i); rw [← hs,y06] at this; omega
 have hlQ:a.c.Q.length≤20:=by have:=zc5h (G.l.take a.i); rw [← hq,y06] at this; omega
 have hHb : ∀ n,zlf2 n a.c.H=true:=fun n=>CI.H_below
 have hsb:Am.below (a.c.H.length+1) a.c.sv=true:=CI.sv_below
 have hqb:Am.below (a.c.H.length+1) a.c.qv=true:=CI.qv_below
 have apS:=CI.app_S ok (o := .cells (spC s)) (x:=w) (by omega)
 have apQ:=CI.app_Q ok (o := .cells (spC s)) (y:=w.own) (by omega)
 have hz : ∀ H,zpsc H 4 (g.dv 4 voC) 0=some (.ref (voC w)):=fun H=>by
  have:=zalo (h:=H) (x:=g) (i:=0) zu4u (by rw [hwr]; simp)
  rw [show ((0:Nat):Int)=0 from rfl] at this
  rw [this]; simp [hwr]
 have hcf:=za00 hgne
 have hpc:zyp8 (c2fn g)=true:=by simp [c2fn,zyp8,zbao,znfs]
 simp only [c2fn] at hcf hpc
 obtain ⟨c,i⟩:=a
 simp only at *
 have fin : ∀ c':CI,c'.Ok→c'.S=sngL (G.l.take (i+1))→c'.Q=eqvL (G.l.take (i+1)) → ∀ H,H = .cells (spC s)::c'.H→V P 0 (.region false [⟨none,(some 41),.bin .add (.t 21) (.k (.int .i64 1))⟩,⟨none,(some 21),.mov (.t 41)⟩]) (z13e 0 (S954 s G) (fun a=>G.l.length-a.i) (CJok G) ⟨c,i⟩ Φ) ⟨js 6++[c'.sv,c'.qv]++js 11++[G.dv 1 gC,.int .i64 G.l.length,.int .i64 i]++js 55,H⟩:=fun c' k1 k2 k3 H hH=>by
  subst hH
  refine V_W mix zslj ?_
  simp (disch:=first|omega|simp<;>omega|fail) [-zA,-zB,-zC,-zD,-zE]
  exact ⟨⟨c',i+1⟩,z515 (by simp (disch:=first|omega|simp<;>omega|fail) [-zA,-zB,-zC,-zD,-zE,S954,z6m2]) (by simp (disch:=first|omega|simp<;>omega|fail) [-zA,-zB,-zC,-zD,-zE,S954,z6m2]),by simp only; omega,⟨by simp only; omega,k1,k2,k3⟩⟩
 simp (disch:=first|omega|simp<;>omega|fail) [-zA,-zB,-zC,-zD,-zE,z9ex,z6m2,h,h']
 refine zbn1 (V_W mix zslj ?_)
 simp (disch:=first|omega|simp<;>omega|fail) [-zA,-zB,-zC,-zD,-zE,h,h']
 refine zbn1 (z3mo (zbn1 (V_W mix zslj ?_)))
 have hst : ∀ (H:List AObj) (id:Nat),zy6o H id 1 0 (g.dv 4 voC) (some [.nils])=some (.junk,H.set id (.cells [g.dv 4 voC])):=fun H id=>by
  rw [Am.storeO_1 (zfr8 g) (z4ja g) (by simp)]; rfl
 simp (disch:=first|omega|simp<;>omega|fail) [-zA,-zB,-zC,-zD,-zE,hg,gC,hst]
 refine zs10 (H := .cells (spC s)::c.H) (cs:=[g.dv 4 voC]) (t':=js 6++[c.sv,c.qv,.junk,.ref [g.dv 4 voC]]++js 9++[G.dv 1 gC,.int .i64 G.l.length,.int .i64 i]++js 55) (by simp (disch:=first|omega|simp<;>omega|fail) [-zA,-zB,-zC,-zD,-zE,zlf2,hHb,z2i6]) (by simp) ?_ (by simp (disch:=first|omega|simp<;>omega|fail) [-zA,-zB,-zC,-zD,-zE,belowL,Am.below,hsb,hqb,z8b8 _ _ (zcsv G),z8b8 _ _ (znfs g)]) ?_
 ·have e1:=zz5t (H := .cells (spC s)::c.H) (cs:=[g.dv 4 voC]) (off:=0) (by simp [zbao,znfs])
  have e2 : ∀ h,mk1 (kLt ((AObj.cells (spC s)::c.H).length)) h c.sv=c.sv:=fun h=>zd3c (by rw [y04]; exact hsb)
  have e3 : ∀ h,mk1 (kLt ((AObj.cells (spC s)::c.H).length)) h c.qv=c.qv:=fun h=>zd3c (by rw [y04]; exact hqb)
  have e4 : ∀ K h,mk1 K h (G.dv 1 gC)=G.dv 1 gC:=fun K h=>zvft (zcsv G)
  simp only [y00,y04,y0b,y0d] at e1 e2 e3
  simp (disch:=first|omega|simp<;>omega|fail) [-zA,-zB,-zC,-zD,-zE,e1,e2,e3,e4]
 refine zbn1 (V_W mix zslj ?_)
 simp (disch:=first|omega|simp<;>omega|fail) [-zA,-zB,-zC,-zD,-zE,zu7v,hcf,hpc,znfs]
 refine V_W mix zslj ?_
 cases hb:badG vKey g.l with
 | true =>
  rw [hb] at hsn hqn
  simp (disch:=first|omega|simp<;>omega|fail) [-zA,-zB,-zC,-zD,-zE,hz,z28l,zylz,apQ.1]
  refine zqfd (z515 ?_ rfl) (fin (c.adQ w.own) apQ.2.2 (by rw [hsn]; simp [CI.adQ]) (by rw [hqn]; simp [CI.adQ]) _ rfl)
  simp (disch:=first|omega|simp<;>omega|fail) [-zA,-zB,-zC,-zD,-zE,apQ.2.1]
 | false =>
  rw [hb] at hsn hqn
  simp (disch:=first|omega|simp<;>omega|fail) [-zA,-zB,-zC,-zD,-zE,hz,zhol,zifj,apS.1]
  refine zqfd (z515 ?_ rfl) (fin (c.adS w) apS.2.2 (by rw [hsn]; simp [CI.adS]) (by rw [hqn]; simp [CI.adS]) _ rfl)
  simp (disch:=first|omega|simp<;>omega|fail) [-zA,-zB,-zC,-zD,-zE,apS.2.1]
end
section
set_option linter.unusedSimpArgs false
set_option linter.unusedVariables false
open Go Go.Am
def agrG (g:Sl Vot):Agr:=match g.l with
 | []=>⟨⟨[],nilS,nilS⟩,nilS,nilS⟩
 | w::r=>⟨w.lnk,ownN ((w::r).map Vot.own),nilS⟩
def grp1 (V:List Vot):Sl (Sl Vot):=grpD (grpG ownF (zq4g vLt V))
def sng1 (V:List Vot):List Vot:=sngL (grp1 V).l
def eqv1 (V:List Vot):List Str:=eqvL (grp1 V).l
def grp2 (V:List Vot):Sl (Sl Vot):=grpD (grpG keyF (sng1 V))
def zj70 (V:List Vot):List Agr:=zq4g aLt ((grp2 V).l.map agrG)
abbrev vLss:=Op.bytesLess
theorem ze2e {V:List Vot} (h:V.length≤4294967296):(grp1 V).l=(agG vLss Vot.own V).map gSl∧(∀ g ∈ agG vLss Vot.own V,g≠[]∧g.length≤V.length)∧(agG vLss Vot.own V).length≤V.length:=by
 have h1:=ziua (s:=ownF) (zq4g vLt V)
 rw [zmgd] at h1
 exact ⟨zm38 (by have:=h1.2; omega),h1⟩
theorem zz8u {V:List Vot} (h:V.length≤4294967296):(sng1 V).length≤V.length:=by
 obtain ⟨h1,h2,h3⟩:=ze2e h
 have:=zuz9 (grp1 V).l
 rw [h1,y05,← h1] at this
 unfold sng1; omega
theorem z131 {V:List Vot} (h:V.length≤4294967296):(eqv1 V).length≤V.length:=by
 obtain ⟨h1,h2,h3⟩:=ze2e h
 have:=zc5h (grp1 V).l
 rw [h1,y05,← h1] at this
 unfold eqv1; omega
theorem zubd {V:List Vot} (h:V.length≤4294967296) : ∀ g ∈ (grp1 V).l,g.l≠[]:=fun g hg=>by
 obtain ⟨h1,h2,_⟩:=ze2e h
 rw [h1,y1d] at hg
 obtain ⟨w,hw,rfl⟩:=hg
 have:=h2 w hw
 rw [z0ey (by omega)]; exact this.1
theorem zpmy {V:List Vot} (h:V.length≤4294967296):(grp2 V).l=(grpG keyF (sng1 V)).map gSl∧(∀ g ∈ grpG keyF (sng1 V),g≠[]∧g.length≤V.length)∧(grpG keyF (sng1 V)).length≤V.length:=by
 have h0:=zz8u h
 have h1:=ziua (s:=keyF) (sng1 V)
 exact ⟨zm38 (by have:=h1.2; omega),fun g hg=>⟨(h1.1 g hg).1,by have:=(h1.1 g hg).2; omega⟩,by have:=h1.2; omega⟩
theorem zw6n {V:List Vot} (h:V.length≤4294967296) : ∀ g ∈ (grp2 V).l,g.l≠[]∧g.l.length≤V.length:=fun g hg=>by
 obtain ⟨h1,h2,_⟩:=zpmy h
 rw [h1,y1d] at hg
 obtain ⟨w,hw,rfl⟩:=hg
 have:=h2 w hw
 rw [z0ey (by omega)]; exact this
theorem zcnw {V:List Vot} (h:V.length≤4294967296):(grp1 V).l.length≤V.length:=by
 obtain ⟨h1,_,h3⟩:=ze2e h
 rw [h1,y05]; exact h3
theorem znbr {V:List Vot} (h:V.length≤4294967296):(grp2 V).l.length≤V.length:=by
 obtain ⟨h1,_,h3⟩:=zpmy h
 rw [h1,y05]; exact h3
theorem z9h1 {V:List Vot} (h:V.length≤4294967296):(zj70 V).length≤V.length:=by
 unfold zj70
 rw [zmgd,y05]; exact znbr h
theorem zzm4 {g:Sl Vot} {w:Vot} {r:List Vot} (h:g.l=w::r):agrG g=⟨w.lnk,ownN ((w::r).map Vot.own),nilS⟩:=by unfold agrG; rw [h]
end
section
set_option linter.unusedSimpArgs false
set_option linter.unusedVariables false
open Go Go.Am
theorem z0em {P:Program} {n0:Nat} {x:ACode} {Φ:AExit→St→Prop} {t t':List DV} {H R:List AObj} (hH:zlf2 H.length H=true) (hn:n0≤H.length)
  (ht:znqe (mkL (kLt H.length) (H++R) t) t') (hb:belowL H.length t'=true) (h:V P n0 x Φ ⟨t',H⟩):V P n0 x Φ ⟨t,H++R⟩:=by
 refine V_mk (kLt H.length) ?_
 rw [z26m,z6z7 (by omega) hH]
 exact zqfd (zju2 ht rfl hn hb hH) h
theorem zjwe {k K:Nat} {α:Type} {l:List α}:(oV k K l).cells=[oV k K l]:=by unfold oV; split<;>rfl
theorem z6jg {k K:Nat} {α:Type} {l:List α}:(oV k K l).one=true:=by unfold oV; split<;>rfl
def bxC (L:Lnk) (o:DV):List DV:=[.str L.step,L.m.dv 33 enC,L.p.dv 33 enC,o,.nils]
theorem ztc7 (L:Lnk) (o:DV):(bxC L o).length=5:=rfl
theorem z2nx {L:Lnk} {o:DV}:oneC 1 false ((bxC L o).drop 3)=some o:=rfl
theorem z62b {h:List AObj} {id:Nat} {L:Lnk} {o v:DV} (hc:v.cells=[v]) (ho:v.one=true):zy6o h id 1 3 v (some (bxC L o))=some (.junk,h.set id (.cells (bxC L v))):=by
 rw [Am.storeO_1 hc ho (by rw [ztc7]; decide)]; rfl
structure C2 where
 H:List AObj
 q:DV
 o:DV
 G:DV
 n:Int
 i:Int
structure C2ok (c:C2):Prop where
 hb : ∀ n,zlf2 n c.H=true
 hn:1≤c.H.length
 q:zyp8 c.q=true
 o : ∀ n,c.H.length≤n→Am.below n c.o=true
 G:zyp8 c.G=true
def owL (g:Sl Vot) (j:Nat):List Str:=(g.l.take j).map Vot.own
def H955 (c:C2) (L:Lnk) (os:List Str):List AObj:=c.H++(.cells (bxC L (oV (c.H.length+1) 1 os))::oT stC os)
def S955 (c:C2) (L:Lnk) (g:Sl Vot) (j:Nat):St:=zju7 c.q c.o (.mp c.H.length 5 0) c.G (.int .i64 c.n) (.int .i64 c.i) (g.dv 4 voC) (.int .i64 g.l.length) (.int .i64 j) (H955 c L (owL g j))
theorem zebc {n:Nat} {a b:List AObj} (ha:zlf2 n a=true) (hb:zlf2 n b=true):zlf2 n (a++b)=true:=by
 induction a with
 | nil=>exact hb
 | cons o r ih =>
  cases o with
  | cells cs=>simp only [y00,zlf2,Bool.and_eq_true] at ha ⊢; exact ⟨ha.1,ih ha.2⟩
  | dead=>simp only [y00,zlf2] at ha ⊢; exact ih ha
theorem z05n {c:C2} {L:Lnk} {os:List Str}:(H955 c L os).length=c.H.length+1+(oT stC os).length:=by simp [H955]; omega
theorem zsqu {c:C2} (k:C2ok c) {L:Lnk} {os:List Str}:zlf2 (H955 c L os).length (H955 c L os)=true:=by
 rw [z05n]
 unfold H955
 refine zebc (k.hb _) ?_
 have h1:Am.below (c.H.length+1+(oT stC os).length) (oV (c.H.length+1) 1 os)=true:=zv6o
 simp only [zlf2,bxC,belowL,h1,zb48,Am.below,zd81 z0tx,y0m]
theorem z69r {g:Sl Vot} {j:Nat} (h:j<g.l.length):owL g (j+1)=owL g j++[(g.l[j]).own]:=by
 unfold owL; rw [y01 h,y0v]; rfl
theorem zvhg {c:C2} (k:C2ok c) {L:Lnk} {g:Sl Vot} (hl:g.l.length≤20) {Φ:AExit→St→Prop} (j:Nat) (hj:j≤g.l.length)
  (hexit:Φ (.exit 4) ⟨js 7++[c.q,.junk,.junk,c.o,.junk,.junk,.mp c.H.length 5 0]++js 29++[c.G,.int .i64 c.n,.int .i64 c.i]++js 31,H955 c L (g.l.map Vot.own)⟩)
  (hw : ∀ st st',Weak 0 st st'→Φ (.exit 4) st'→Φ (.exit 4) st) :
  V P 0 zcvt (z13e 0 (S955 c L g) (fun j=>g.l.length-j) (fun j=>j≤g.l.length) j Φ) (S955 c L g j):=by
 simp only [S955]
 refine zbn1 (V_W mix zr5o ?_)
 by_cases h:j<g.l.length
 case neg =>
  have h':¬ (j:Int)<g.l.length:=by omega
  have e:owL g j=g.l.map Vot.own:=by unfold owL; rw [y03 (by omega)]
  rw [e]
  simp (disch:=first|omega|simp<;>omega|fail) [-zA,-zB,-zC,-zD,-zE,zcvt,zju7,h,h']
  refine zbn1 (V_W mix zr5o ?_)
  simp (disch:=first|omega|simp<;>omega|fail) [-zA,-zB,-zC,-zD,-zE,h,h']
  refine hw _ _ (z515 ?_ rfl) hexit
  simp (disch:=first|omega|simp<;>omega|fail) [-zA,-zB,-zC,-zD,-zE]
 have h':(j:Int)<g.l.length:=by omega
 have hg : ∀ H,zpsc H 4 (g.dv 4 voC) j=some (.ref (voC g.l[j])):=fun H=>zalo zu4u h
 have hs:=z69r h
 obtain ⟨x,hx⟩ : ∃ x,g.l[j]=x:=⟨_,rfl⟩
 rw [hx] at hg hs
 have hol:(owL g j).length≤20:=by unfold owL; rw [y05,y06]; omega
 obtain ⟨os,hos⟩ : ∃ os,owL g j=os:=⟨_,rfl⟩
 rw [hos] at hs hol ⊢
 have hap:=zte0 (f:=stC) (k:=c.H.length+1) (b:=16) (l:=os) (x:=x.own) (h:=c.H++[.cells (bxC L (oV (c.H.length+1) 1 os))]) (by simp) (fun _=>rfl) (by decide) (by decide) zlxs (by omega)
 rw [show stC x.own=[DV.str x.own] from rfl] at hap
 simp only [y0q,y00,y02] at hap
 have hHl:=z05n (c:=c) (L:=L) (os:=os)
 have hHb:=zsqu k (L:=L) (os:=os)
 have ho:=k.o (H955 c L os).length (by omega)
 have hlt:c.H.length<(H955 c L os).length:=by omega
 simp (disch:=first|omega|simp<;>omega|fail) [-zA,-zB,-zC,-zD,-zE,zcvt,zju7,h,h']
 refine zbn1 (V_W mix zr5o ?_)
 simp (disch:=first|omega|simp<;>omega|fail) [-zA,-zB,-zC,-zD,-zE,h,h']
 refine zbn1 (z3mo (zbn1 (V_W mix zr5o ?_)))
 simp (disch:=first|omega|simp<;>omega|fail) [-zA,-zB,-zC,-zD,-zE,hg]
 refine zs10 (H:=H955 c L os) (cs:=voC x) (t':=js 7++[c.q,.junk,.junk,c.o,.junk,.junk,.mp c.H.length 5 0,.junk,.ref (voC x)]++js 27++[c.G,.int .i64 c.n,.int .i64 c.i]++js 8++[g.dv 4 voC,.int .i64 g.l.length,.int .i64 j]++js 20) hHb (by omega) ?_ (by simp (disch:=first|omega|simp<;>omega|fail) [-zA,-zB,-zC,-zD,-zE,belowL,Am.below,ho,hlt,z8b8 _ _ k.q,z8b8 _ _ k.G,z8b8 _ _ (znfs g)]) ?_
 ·have e1:=zz5t (H:=H955 c L os) (cs:=voC x) (off:=0) (zc6g x)
  have e2 : ∀ h,mk1 (kLt (H955 c L os).length) h c.o=c.o:=fun h=>zd3c ho
  have e3 : ∀ h,mk1 (kLt (H955 c L os).length) h (.mp c.H.length 5 0) = .mp c.H.length 5 0:=fun h=>zd3c (by simp only [Am.below,decide_eq_true_eq]; omega)
  have e4 : ∀ K h,mk1 K h c.q=c.q:=fun K h=>zvft k.q
  have e5 : ∀ K h,mk1 K h c.G=c.G:=fun K h=>zvft k.G
  have e6 : ∀ K h,mk1 K h (g.dv 4 voC)=g.dv 4 voC:=fun K h=>zvft (znfs g)
  simp only [zu4u,y0d] at e1
  simp (disch:=first|omega|simp<;>omega|fail) [-zA,-zB,-zC,-zD,-zE,e1,e2,e3,e4,e5,e6]
 unfold H955
 refine V_W mix zr5o ?_
 simp (disch:=first|omega|simp<;>omega|fail) [-zA,-zB,-zC,-zD,-zE,z28l,zylz,z2nx,z62b zjwe z6jg,hap,zjj2,z1zn,zxft,ztc7]
 refine V_W mix zr5o ?_
 simp (disch:=first|omega|simp<;>omega|fail) [-zA,-zB,-zC,-zD,-zE]
 exact ⟨j+1,z515 (by simp (disch:=first|omega|simp<;>omega|fail) [-zA,-zB,-zC,-zD,-zE,S955,zju7]) (by simp (disch:=first|omega|simp<;>omega|fail) [-zA,-zB,-zC,-zD,-zE,S955,zju7,H955,hs]),by omega,by omega⟩
end
section
set_option linter.unusedSimpArgs false
set_option linter.unusedVariables false
open Go Go.Am
theorem zxuz {x:Agr}:bslD 5 1 [.str [],.nils,.nils,.nils,.nils] [(0,5,.agg (agC x))]=some (.sl true 5 1 (agC x)):=by
 simp [bslD,zi03,zk7y,reps,rep,znh2,y03]
theorem zer5 {L:Lnk}:zvnk [.str [],.nils,.nils,.nils,.nils] [(0,3,.agg (lkC L))]=some (.agg (bxC L .nils)):=rfl
theorem za6d {L:Lnk}:(bxC L .nils).all DV.one=true:=by simp only [bxC,List.all_cons,zxyr,z4ja,List.all_nil,y0m]; rfl
theorem z33j {h:List AObj} {id:Nat} {L:Lnk} {l:List DV} (hl:l.length=5):zy6o h id 5 0 (.agg (bxC L .nils)) (some l)=some (.junk,h.set id (.cells (bxC L .nils))):=zfc1 (ztc7 L _) hl za6d
theorem z640 {H:List AObj} {L:Lnk} {os:List Str} (hb:os.length≤4294967296):mk1 (kLt H.length) (H++(.cells (bxC L (oV (H.length+1) 1 os))::oT stC os)) (.mp H.length 5 0) = .ref (agC ⟨L,ownN os,nilS⟩):=by
 refine zwy6 ?_
 have hO:fzS (kLt H.length) (H++(.cells (bxC L (oV (H.length+1) 1 os))::oT stC os)) 2 (oV (H.length+1) 1 os)=some ((ownN os).dv 1 stC):=by
  by_cases e:os=[]
  ·subst e; rw [zl8p,z2i7]; exact zxmp
  ·have ho:=zwbu (f:=stC) (k:=H.length+1) (l:=os) (h:=H++[.cells (bxC L (oV (H.length+1) 1 os))]) (r:=[]) (by simp) (fun _=>rfl) e
   simp only [y0q,y00,y02,y07] at ho
   rw [zpni e] at ho ⊢
   rw [znkh,if_neg (by simp [kLt]),ho,y0l,y0d,z590 (f:=stC) (K:=1) (fun _=>rfl),List.take_length,zl6f (zp6k z0tx _),zgr3 e hb]; rfl
 rw [zept,if_neg (by simp [kLt]),zjj2,z1zn,if_pos (ztc7 _ _),y0l,y0d]
 generalize H++(.cells (bxC L (oV (H.length+1) 1 os))::oT stC os)=Z at hO ⊢
 simp only [bxC,zhuj,zmvq,zam1,zxmp,hO,zzxw (zru8 _),y0l,Option.map_some]
 rfl
def S956 (s:Spc) (q:DV) (G:Sl (Sl Vot)) (i:Nat):St:=z7i3 q (oV 1 5 ((G.l.take i).map agrG)) (G.dv 1 gC) (.int .i64 G.l.length) (.int .i64 i) (.cells (spC s)::oT agC ((G.l.take i).map agrG))
theorem zm1f {s:Spc} {q:DV} (hq:zyp8 q=true) {G:Sl (Sl Vot)} (hG:G.l.length≤20) (hne : ∀ g ∈ G.l,g.l≠[]∧g.l.length≤20) {Φ:AExit→St→Prop} (i:Nat) (hi:i≤G.l.length)
  (hexit:Φ (.exit 2) ⟨js 7++[q,.junk,.junk,oV 1 5 (G.l.map agrG)]++js 66,.cells (spC s)::oT agC (G.l.map agrG)⟩)
  (hw : ∀ st st',Weak 0 st st'→Φ (.exit 2) st'→Φ (.exit 2) st) :
  V P 0 z0z5 (z13e 0 (S956 s q G) (fun i=>G.l.length-i) (fun i=>i≤G.l.length) i Φ) (S956 s q G i):=by
 simp only [S956]
 refine zbn1 (V_W mix zr5o ?_)
 by_cases h:i<G.l.length
 case neg =>
  have h':¬ (i:Int)<G.l.length:=by omega
  rw [y03 (show G.l.length≤i by omega)]
  simp (disch:=first|omega|simp<;>omega|fail) [-zA,-zB,-zC,-zD,-zE,z0z5,z7i3,h,h']
  refine zbn1 (V_W mix zr5o ?_)
  simp (disch:=first|omega|simp<;>omega|fail) [-zA,-zB,-zC,-zD,-zE,h,h']
  refine hw _ _ (z515 ?_ rfl) hexit
  simp (disch:=first|omega|simp<;>omega|fail) [-zA,-zB,-zC,-zD,-zE]
 have h':(i:Int)<G.l.length:=by omega
 have hg : ∀ H,zpsc H 1 (G.dv 1 gC) i=some (.ref (gC G.l[i])):=fun H=>zalo zfnv h
 obtain ⟨hgne,hgl⟩:=hne _ (y0i h)
 have hs:(G.l.take (i+1)).map agrG=(G.l.take i).map agrG++[agrG G.l[i]]:=by rw [y01 h,y0v]; rfl
 obtain ⟨g,hgg⟩ : ∃ g,G.l[i]=g:=⟨_,rfl⟩
 rw [hgg] at hg hgne hgl hs
 obtain ⟨w,r,hwr⟩ : ∃ w r,g.l=w::r:=by
  cases e:g.l with
  | nil=>exact absurd e hgne
  | cons w r=>exact ⟨w,r,rfl⟩
 have hA:agrG g=⟨w.lnk,ownN (g.l.map Vot.own),nilS⟩:=by rw [zzm4 hwr,hwr]
 have hz : ∀ H,zpsc H 4 (g.dv 4 voC) 0=some (.ref (voC w)):=fun H=>by
  have:=zalo (h:=H) (x:=g) (i:=0) zu4u (by rw [hwr]; simp)
  rw [show ((0:Nat):Int)=0 from rfl] at this
  rw [this]; simp [hwr]
 have hCl:((G.l.take i).map agrG).length≤20:=by rw [y05,y06]; omega
 obtain ⟨C,hC⟩ : ∃ C,(G.l.take i).map agrG=C:=⟨_,rfl⟩
 rw [hC] at hs hCl ⊢
 have hap:=zte0 (f:=agC) (k:=1) (b:=112) (l:=C) (x:=agrG g) (h:=[AObj.cells (spC s)]) rfl znh2 (by decide) (by decide) (fun _=>z892) (by omega)
 simp only [y00,y02] at hap
 have hob : ∀ n,1+(oT agC C).length≤n→Am.below n (oV 1 5 C)=true:=fun n hn=>by
  by_cases e:C=[]
  ·subst e; rfl
  ·rw [zpni e]; rw [zlgn e] at hn; simp only [Am.below,decide_eq_true_eq]; omega
 have hc:C2ok ⟨.cells (spC s)::oT agC C,q,oV 1 5 C,G.dv 1 gC,G.l.length,i⟩:=⟨fun n=>by simp only [zlf2,z2i6,zd81 z1u0,y0m],by simp,hq,fun n hn=>hob n (by simp only [y04] at hn; omega),zcsv G⟩
 simp (disch:=first|omega|simp<;>omega|fail) [-zA,-zB,-zC,-zD,-zE,z0z5,z7i3,h,h']
 refine zbn1 (V_W mix zr5o ?_)
 simp (disch:=first|omega|simp<;>omega|fail) [-zA,-zB,-zC,-zD,-zE,h,h']
 refine zbn1 (z3mo (zbn1 (V_W mix zr5o ?_)))
 simp (disch:=first|omega|simp<;>omega|fail) [-zA,-zB,-zC,-zD,-zE,hg,gC]
 refine zbn1 (V_W mix zr5o ?_)
 simp (disch:=first|omega|simp<;>omega|fail) [-zA,-zB,-zC,-zD,-zE,hz,zkpz,zer5,z33j]
 refine zbn1 (zbn1 (V_W mix zr5o ?_))
 simp (disch:=first|omega|simp<;>omega|fail) [-zA,-zB,-zC,-zD,-zE]
 refine z3mo (ztbr (S955 ⟨.cells (spC s)::oT agC C,q,oV 1 5 C,G.dv 1 gC,G.l.length,i⟩ w.lnk g) (fun j=>g.l.length-j) (fun j=>j≤g.l.length) 0 (z515 (by simp (disch:=first|omega|simp<;>omega|fail) [-zA,-zB,-zC,-zD,-zE,S955,zju7]) (by simp (disch:=first|omega|simp<;>omega|fail) [-zA,-zB,-zC,-zD,-zE,S955,zju7,H955,owL,zl8p,zkrk])) (y1f _) (fun j hj=>zvhg hc hgl j hj ?_ ?_))
 ·rw [z233,zd2q]
  have hmk:=z640 (H := .cells (spC s)::oT agC C) (L:=w.lnk) (os:=g.l.map Vot.own) (by rw [y05]; omega)
  rw [← hA] at hmk
  have hH:zlf2 (AObj.cells (spC s)::oT agC C).length (AObj.cells (spC s)::oT agC C)=true:=hc.hb _
  have hob':=hob ((AObj.cells (spC s)::oT agC C).length) (by rw [y04]; omega)
  unfold H955
  refine z0em (t':=js 7++[q,.junk,.junk,oV 1 5 C,.junk,.junk,.ref (agC (agrG g))]++js 29++[G.dv 1 gC,.int .i64 G.l.length,.int .i64 i]++js 31) hH (by simp) ?_ (by simp (disch:=first|omega|simp<;>omega|fail) [-zA,-zB,-zC,-zD,-zE,belowL,Am.below,hob _ (show 1+(oT agC C).length≤(oT agC C).length+1 by omega),z8b8 _ _ hq,z8b8 _ _ (zcsv G)]) ?_
  ·have e2 : ∀ h,mk1 (kLt (AObj.cells (spC s)::oT agC C).length) h (oV 1 5 C)=oV 1 5 C:=fun h=>zd3c hob'
   have e4 : ∀ K h,mk1 K h q=q:=fun K h=>zvft hq
   have e5 : ∀ K h,mk1 K h (G.dv 1 gC)=G.dv 1 gC:=fun K h=>zvft (zcsv G)
   generalize (AObj.cells (spC s)::oT agC C).length=N at e2 hmk ⊢
   simp only [y00] at hmk
   simp (disch:=first|omega|simp<;>omega|fail) [-zA,-zB,-zC,-zD,-zE,e2,e4,e5,hmk,-z1bt]
  refine V_W mix zr5o ?_
  simp (disch:=first|omega|simp<;>omega|fail) [-zA,-zB,-zC,-zD,-zE,zd17,zxuz,hap]
  refine V_W mix zr5o ?_
  simp (disch:=first|omega|simp<;>omega|fail) [-zA,-zB,-zC,-zD,-zE]
  exact ⟨i+1,z515 (by simp (disch:=first|omega|simp<;>omega|fail) [-zA,-zB,-zC,-zD,-zE,S956,z7i3,hs]) (by simp (disch:=first|omega|simp<;>omega|fail) [-zA,-zB,-zC,-zD,-zE,S956,z7i3,hs]),by omega,by omega⟩
 ·intro st st' hw' h
  rw [z233,zd2q] at h ⊢
  exact zqfd hw' h
end
section
set_option linter.unusedSimpArgs false
set_option linter.unusedVariables false
open Go Go.Am
noncomputable def T957 (F:SF):Tbl:=addT 33 (.pure cVot) (addT 32 (.pure (cGrp F)) tbl0)
theorem z6ph {F:SF}:T957 F 33 = .pure cVot:=by simp [T957]
theorem zdr7 {F:SF}:T957 F 32 = .pure (cGrp F):=by simp [T957]
theorem z520 (F:SF):(T957 F).Sound P:=z0rp zcdr (z0rp (zohn F) zr5o)
def qvA (V:List Vot):DV:=(ownN (eqv1 V)).dv 1 stC
theorem zb7u (V:List Vot):zyp8 (qvA V)=true:=zfuu _
theorem z0ma (s:Spc) (l:Sl Att) (hl:l.l.length≤20) {Φ:AExit→St→Prop} (hΦ:Φ .ret ⟨js 4++[oV 1 5 (zj70 (votL s l.l)),qvA (votL s l.l)]++js 71,.cells (spC s)::oT agC (zj70 (votL s l.l))⟩) :
  V P 0 a12.code Φ ⟨zr5g a12.ntmps [.agg (spC s),l.dv 9 atC],[]⟩:=by
 have hV:=zldt s l.l
 have hVs:=zz5s s l.l
 have k1:=zgda (s:=s) hl
 have hUl:(ownN (votS s l.l)).l=votS s l.l:=zd8n (by omega)
 have k2:=zs2t (F:=F1) (U:=ownN (votS s l.l))
 rw [hUl] at k2
 have hG1:grpD (grpG F1.s (votS s l.l))=grp1 (votL s l.l):=rfl
 rw [hG1,znwp] at k2
 obtain ⟨V,hVV⟩ : ∃ V,votL s l.l=V:=⟨_,rfl⟩
 rw [hVV] at hV k2 hΦ
 have g1:=zcnw (V:=V) (by omega)
 have g1n:=zubd (V:=V) (by omega)
 have g2:=znbr (V:=V) (by omega)
 have g2n:=zw6n (V:=V) (by omega)
 have hs1:=zz8u (V:=V) (by omega)
 have he1:=z131 (V:=V) (by omega)
 have hSl:(ownN (sng1 V)).l=sng1 V:=zd8n (by omega)
 have k3:=zs2t (F:=F3) (U:=ownN (sng1 V))
 rw [hSl] at k3
 have hG2:grpD (grpG F3.s (sng1 V))=grp2 V:=rfl
 rw [hG2,zpo2] at k3
 refine zbn1 (V_W mix zr5o ?_)
 simp (disch:=first|omega|simp<;>omega|fail) [-zA,-zB,-zC,-zD,-zE,a12]
 refine zbn1 (V_W mix zr5o ?_)
 simp (disch:=first|omega|simp<;>omega|fail) [-zA,-zB,-zC,-zD,-zE]
 refine zbn1 (V_W mix zr5o ?_)
 simp (disch:=first|omega|simp<;>omega|fail) [-zA,-zB,-zC,-zD,-zE]
 refine zbn1 (zbn1 (V_W mix (z520 F1) ?_))
 simp (disch:=first|omega|simp<;>omega|fail) [-zA,-zB,-zC,-zD,-zE,z8s9,z6ph,zdr7,k1,k2,zu1r,znfs]
 refine z3mo (ztbr (S954 s (grp1 V)) (fun a=>(grp1 V).l.length-a.i) (CJok (grp1 V)) ⟨⟨true,[],[]⟩,0⟩ (z515 (by simp (disch:=first|omega|simp<;>omega|fail) [-zA,-zB,-zC,-zD,-zE,S954,z6m2,CI.sv,CI.qv,zl8p]) (by simp (disch:=first|omega|simp<;>omega|fail) [-zA,-zB,-zC,-zD,-zE,S954,z6m2,CI.H,zkrk])) ⟨y1f _,⟨fun _ _=>rfl,fun _ _=>rfl⟩,rfl,rfl⟩ (fun a ha=>zh6a (by omega) g1n a ha ?_ ?_))
 ·intro c ok hS hQ
  rw [z233,zd2q]
  have hS':c.S=sng1 V:=hS
  have hQ':c.Q=eqv1 V:=hQ
  refine zy4i (o := .cells (spC s)) (t':=js 6++[(ownN (sng1 V)).dv 4 voC,qvA V]++js 69) rfl (zhi7 s) (by omega) ?_ (by simp (disch:=first|omega|simp<;>omega|fail) [-zA,-zB,-zC,-zD,-zE,belowL,Am.below,z8b8 _ _ (znfs _),z8b8 _ _ (zb7u _)]) ?_
  ·have e1:=CI.sv_mk (c:=c) (o := .cells (spC s)) (by rw [hS']; omega)
   have e2:=CI.qv_mk (c:=c) (o := .cells (spC s)) (by rw [hQ']; omega)
   rw [hS'] at e1
   rw [hQ'] at e2
   have e3:(ownN (eqv1 V)).dv 1 stC=qvA V:=rfl
   rw [e3] at e2
   simp (disch:=first|omega|simp<;>omega|fail) [-zA,-zB,-zC,-zD,-zE,e1,e2]
  refine zbn1 (V_W mix (z520 F3) ?_)
  simp (disch:=first|omega|simp<;>omega|fail) [-zA,-zB,-zC,-zD,-zE]
  refine zbn1 (zbn1 (V_W mix (z520 F3) ?_))
  simp (disch:=first|omega|simp<;>omega|fail) [-zA,-zB,-zC,-zD,-zE,zdr7,k3,znfs]
  refine z3mo (ztbr (S956 s (qvA V) (grp2 V)) (fun i=>(grp2 V).l.length-i) (fun i=>i≤(grp2 V).l.length) 0 (z515 (by simp (disch:=first|omega|simp<;>omega|fail) [-zA,-zB,-zC,-zD,-zE,S956,z7i3,zl8p]) (by simp (disch:=first|omega|simp<;>omega|fail) [-zA,-zB,-zC,-zD,-zE,S956,z7i3,zkrk])) (y1f _) (fun i hi=>zm1f (zb7u V) (by omega) (fun g hg=>⟨(g2n g hg).1,by have:=(g2n g hg).2; omega⟩) i hi ?_ ?_))
  ·rw [z233,zd2q]
   have hAl:=z9h1 (V:=V) (by omega)
   have hcall:=z1wq [.cells (spC s)] ((grp2 V).l.map agrG) (by rw [y05]; omega)
   simp only [y00,y02,y04,y0b,y0o] at hcall
   have hv2:zq4g aLt ((grp2 V).l.map agrG)=zj70 V:=rfl
   rw [hv2] at hcall
   have ho:oV 1 5 ((grp2 V).l.map agrG)=oV 1 5 (zj70 V):=by
    unfold oV
    have e0:(zj70 V).length=((grp2 V).l.map agrG).length:=zmgd _
    rw [e0]
    by_cases e:(grp2 V).l.map agrG=[]
    ·rw [if_pos e,if_pos (by unfold zj70; rw [e]; rfl)]
    ·rw [if_neg e,if_neg (show ¬ zj70 V=[] from zlvn e)]
   rw [ho] at hcall ⊢
   refine zbn1 (V_W mix (z84q hcall) ?_)
   simp (disch:=first|omega|simp<;>omega|fail) [-zA,-zB,-zC,-zD,-zE,TH_k,zpvh]
   refine zbn1 (V_W mix zr5o ?_)
   simp (disch:=first|omega|simp<;>omega|fail) [-zA,-zB,-zC,-zD,-zE]
   refine zqfd (st':=⟨js 4++[oV 1 5 (zj70 V),qvA V]++js 71,.cells (spC s)::oT agC (zj70 V)⟩) (z515 ?_ rfl) ?_
   ·simp (disch:=first|omega|simp<;>omega|fail) [-zA,-zB,-zC,-zD,-zE]
   refine V_W mix zr5o ?_
   simp (disch:=first|omega|simp<;>omega|fail) [-zA,-zB,-zC,-zD,-zE]
   exact hΦ
  ·intro st st' hw' h
   rw [z233,zd2q] at h ⊢
   exact zqfd hw' h
 ·intro st st' hw' h
  rw [z233,zd2q] at h ⊢
  exact zqfd hw' h
theorem zg9a {a b:Spc × Sl Att} (e:[DV.agg (spC a.1),a.2.dv 9 atC]=[.agg (spC b.1),b.2.dv 9 atC]):a=b:=by
 obtain ⟨a1,a2⟩:=a
 obtain ⟨b1,b2⟩:=b
 simp only [List.cons.injEq,DV.agg.injEq,and_true] at e
 rw [z1d3 e.1,z965 e.2]
theorem zxcq (s:Spc) (l:Sl Att) (hl:l.l.length≤20):V P ([]:List AObj).length a12.code (retH a12.res (.tup [oV 1 5 (zj70 (votL s l.l)),qvA (votL s l.l)]) (.cells (spC s)::oT agC (zj70 (votL s l.l)))) ⟨zr5g a12.ntmps [.agg (spC s),l.dv 9 atC],[]⟩:=by
 refine z0ma s l hl ?_
 simp (disch:=first|omega|simp<;>omega|fail) [-zA,-zB,-zC,-zD,-zE,a12]
noncomputable def cCmn:List DV→Nat→Option (DV × List AObj):=conN (fun a:Spc × Sl Att=>a.2.l.length≤20) (fun a:Spc × Sl Att=>[.agg (spC a.1),a.2.dv 9 atC]) (fun a=>(.tup [oV 1 5 (zj70 (votL a.1 a.2.l)),qvA (votL a.1 a.2.l)],.cells (spC a.1)::oT agC (zj70 (votL a.1 a.2.l))))
theorem zcgd {n k K:Nat} {α:Type} {l:List α}:shD n (oV k K l)=oV (n+k) K l:=by
 unfold oV; split<;>rfl
theorem zveq {n:Nat} {α:Type} {f:α→List DV} {l:List α} (hp : ∀ a,zbao (f a)=true):(oT f l).map (shO n)=oT f l:=by
 unfold oT
 split
 ·rfl
 ·simp only [y0z,List.map_nil,z05k,fl,zj45 n _ (zp6k hp _)]
theorem zj79 {s:Spc} {l:Sl Att} (h:l.l.length≤20) (n:Nat):cCmn [.agg (spC s),l.dv 9 atC] n=some (.tup [oV (n+1) 5 (zj70 (votL s l.l)),qvA (votL s l.l)],.cells (spC s)::oT agC (zj70 (votL s l.l))):=by
 have:=zqtp (A:=fun a:Spc × Sl Att=>a.2.l.length≤20) (f:=fun a:Spc × Sl Att=>[.agg (spC a.1),a.2.dv 9 atC]) (g:=fun a=>(.tup [oV 1 5 (zj70 (votL a.1 a.2.l)),qvA (votL a.1 a.2.l)],.cells (spC a.1)::oT agC (zj70 (votL a.1 a.2.l)))) (fun a b e=>by rw [zg9a e]) (s,l) h n
 rw [cCmn,this]
 simp only [y0z,z05k,zj45 n _ (zhi7 s),zveq z1u0]
 congr 2
 show DV.tup [shD n (oV 1 5 (zj70 (votL s l.l))),shD n (qvA (votL s l.l))]=_
 rw [zcgd,za7m n _ (zb7u _)]
theorem zkeo:(Con.new cCmn).Sound P 12 :=
 z3ld (fun a _=>by simp [zbao,zyp8,zu1r]) fun a h=>zrqk Try.func12 zqkh (zxcq a.1 a.2 h)
end
section
set_option linter.unusedSimpArgs false
set_option linter.unusedVariables false
open Go Go.Am
theorem z165 (x:Sl Agr):zyp8 (x.dv 5 agC)=true:=zxxb z1u0 x
theorem z70f {x y:Sl Agr} (e:x.dv 5 agC=y.dv 5 agC):x=y:=zcq7 znh2 (by decide) (fun _ _=>zum4) e
def zvjk (s:Spc) (a:Agr):Bool:=decide ((a.owners.l.length:Int)<s.thr)
theorem z92y (s:Spc) (a:Agr):Runs tbl0 a46 [.agg (agC a),.ref (spC s)] (.bool (zvjk s a)):=by
 refine ⟨?_⟩
 have hl : ∀ H,lenD H (a.owners.dv 1 stC)=some (.int .i64 a.owners.l.length):=fun H=>zupj
 simp (disch:=first|omega|simp<;>omega|fail) [-zA,-zB,-zC,-zD,-zE,a46,zntj,z66y,hl,zvjk]
noncomputable def cDc1:List DV→Option DV:=con (fun _=>True) (fun a:Spc × Agr=>[.agg (agC a.2),.ref (spC a.1)]) (fun a => .bool (zvjk a.1 a.2))
theorem zxx2 {s:Spc} {a:Agr}:cDc1 [.agg (agC a),.ref (spC s)]=some (.bool (zvjk s a)) :=
 zsn4 (f:=fun a:Spc × Agr=>[.agg (agC a.2),.ref (spC a.1)]) (g:=fun a => .bool (zvjk a.1 a.2)) (by
  rintro ⟨a,b⟩ ⟨c,d⟩ e
  simp only [List.cons.injEq,DV.agg.injEq,DV.ref.injEq,and_true] at e
  rw [zum4 e.1,z1d3 e.2]) (s,a)
theorem zcl0:(Con.pure cDc1).Sound P 46:=z2au fun a _=>zljw mix zr5o Try.func46 znv1 (z92y a.1 a.2)
noncomputable def T960:Tbl:=addT 46 (.pure cDc1) tbl0
theorem zl3o:T960 46 = .pure cDc1:=by simp [T960]
theorem zkoa:T960.Sound P:=z0rp zcl0 zr5o
def dfn (s:Spc):DV := .fn (.func 46) [] [.ref (spC s)]
def S960 (s:Spc) (x:Sl Agr) (i:Nat):St:=zm1u (x.dv 5 agC) (dfn s) (.int .i64 x.l.length) (.int .i64 i) []
theorem zl1j (s:Spc) (x:Sl Agr):Runs T960 a65 [x.dv 5 agC,dfn s] (.int .i64 (fIx (zvjk s) x.l)):=by
 refine ⟨?_⟩
 have hb:=x.b
 simp (disch:=first|omega|simp<;>omega|fail) [-zA,-zB,-zC,-zD,-zE,a65]
 refine zlm5 (S960 s x) (fun i=>x.l.length-i) (fun i=>i≤x.l.length ∧ ∀ j (h:j<x.l.length),j<i→zvjk s x.l[j]=false) 0 (z515 (by simp (disch:=first|omega|simp<;>omega|fail) [-zA,-zB,-zC,-zD,-zE,S960,zm1u]) (by simp (disch:=first|omega|simp<;>omega|fail) [-zA,-zB,-zC,-zD,-zE,S960,zm1u])) ⟨by omega,fun j _ hj=>by omega⟩ (fun i hi => ?_)
 obtain ⟨q1,q2⟩:=hi
 simp only [S960]
 by_cases q:i<x.l.length
 ·have g':(i:Int)<x.l.length:=by omega
  have hy : ∀ H,zpsc H 5 (x.dv 5 agC) i=some (.ref (agC x.l[i])):=fun H=>zalo znh2 q
  have hc:=zxx2 (s:=s) (a:=x.l[i])
  have hinv:zvjk s x.l[i]=false → ∀ j (h:j<x.l.length),j<i+1→zvjk s x.l[j]=false:=fun e j hj hji=>by
   by_cases ej:j=i
   ·subst ej; exact e
   ·exact q2 j hj (by omega)
  have hr:zvjk s x.l[i]=true→fIx (zvjk s) x.l=i:=fun e=>z67l q e q2
  obtain ⟨u,hu⟩ : ∃ u,x.l[i]=u:=⟨_,rfl⟩
  rw [hu] at hy hc hinv hr
  cases e:zvjk s u with
  | true =>
   have hr:=hr e
   rw [e] at hc
   simp (disch:=first|omega|simp<;>omega|fail) [-zA,-zB,-zC,-zD,-zE,zur0,zm1u,q,g',hy,zd17,dfn,zl3o,hc,hr]
  | false =>
   have hinv:=hinv e
   rw [e] at hc
   simp (disch:=first|omega|simp<;>omega|fail) [-zA,-zB,-zC,-zD,-zE,zur0,zm1u,q,g',hy,zd17,dfn,zl3o,hc]
   exact ⟨i+1,z515 (by simp (disch:=first|omega|simp<;>omega|fail) [-zA,-zB,-zC,-zD,-zE,S960,zm1u,dfn]) (by simp (disch:=first|omega|simp<;>omega|fail) [-zA,-zB,-zC,-zD,-zE,S960,zm1u]),by omega,by omega,fun j h hj=>by simpa using hinv j h hj⟩
 ·have g':¬ (i:Int)<x.l.length:=by omega
  have hr:fIx (zvjk s) x.l = -1:=zf0r fun a ha=>by
   obtain ⟨j,hj,e⟩:=y0x ha
   have:=q2 j hj (by omega)
   rw [e] at this; exact this
  simp (disch:=first|omega|simp<;>omega|fail) [-zA,-zB,-zC,-zD,-zE,zur0,zm1u,q,g',hr]
noncomputable def cAix:List DV→Option DV:=con (fun _=>True) (fun a:Spc × Sl Agr=>[a.2.dv 5 agC,dfn a.1]) (fun a => .int .i64 (fIx (zvjk a.1) a.2.l))
theorem zjni {s:Spc} {x:Sl Agr}:cAix [x.dv 5 agC,dfn s]=some (.int .i64 (fIx (zvjk s) x.l)) :=
 zsn4 (f:=fun a:Spc × Sl Agr=>[a.2.dv 5 agC,dfn a.1]) (g:=fun a => .int .i64 (fIx (zvjk a.1) a.2.l)) (by
  rintro ⟨a,b⟩ ⟨c,d⟩ e
  simp only [List.cons.injEq,dfn,DV.fn.injEq,DV.ref.injEq,and_true,true_and] at e
  rw [z70f e.1,z1d3 e.2]) (s,x)
theorem zi1y:(Con.pure cAix).Sound P 65:=z2au fun a _=>zljw mix zkoa Try.func65 zh04 (zl1j a.1 a.2)
noncomputable def T961:Tbl:=addT 65 (.pure cAix) T960
theorem zt9j:T961 65 = .pure cAix:=by simp [T961]
theorem z8g9:T961 46 = .pure cDc1:=by simp [T961,T960]
theorem zjez:T961.Sound P:=z0rp zi1y zkoa
end
section
set_option linter.unusedSimpArgs false
set_option linter.unusedVariables false
open Go Go.Am
def agr0:Agr:=⟨⟨[],nilS,nilS⟩,nilS,nilS⟩
theorem zxlt:agC agr0=[.str [],.nils,.nils,.nils,.nils]:=rfl
def kepL (s:Spc) (l:List Agr):List Agr:=l.filter fun a => !zvjk s a
def delL (s:Spc) (A:List Agr):List Agr:=kepL s A++List.replicate (A.length-(kepL s A).length) agr0
def delV (k:Nat) (s:Spc) (A:List Agr):DV:=if A=[] then .nils else .ms k (A.length*5) 0 5 (kepL s A).length (A.length*5)
theorem zcmj (s:Spc) (A:List Agr):(kepL s A).length≤A.length:=y0k ..
theorem zr1v (s:Spc) (A:List Agr):(delL s A).length=A.length:=by
 unfold delL; have:=zcmj s A
 rw [y08,y0u]; omega
theorem za2d {s:Spc} {A:List Agr} (h : ∀ a ∈ A,zvjk s a=false):kepL s A=A:=List.filter_eq_self.2 fun a ha=>by rw [h a ha]; rfl
theorem zxrd {s:Spc} {l:List Agr} {x:Agr}:kepL s (l++[x])=kepL s l++(if zvjk s x then [] else [x]):=by
 unfold kepL; rw [y0p]
 cases h:zvjk s x<;>simp [h]
def dfm:DV := .fn (.func 46) [] [.mp 0 7 0]
theorem zrpz {pre:List AObj} {a b:AObj} {ver:Nat}:objV (pre++[a,b]) (pre.length+1) ver=objV [b] 0 ver:=by
 unfold objV ziu0; rw [y10 (by omega),show pre.length+1-pre.length=1 by omega]; rfl
theorem z6rf {pre:List AObj} {a b o:AObj}:(pre++[a,b]).set (pre.length+1) o=pre++[a,o]:=by rw [y0j _ _ (by omega),show pre.length+1-pre.length=1 by omega]; rfl
structure DA where
 K:List Agr
 M:List Agr
 j:Nat
structure DAok (s:Spc) (A:List Agr) (a:DA):Prop where
 k:a.K=kepL s (A.take a.j)
 l:a.K.length+a.M.length=a.j
 m:1≤a.M.length
 j:a.j≤A.length
def S961 (pre:List AObj) (A:List Agr) (n:Nat) (a:DA):St:=z7h3 (.ms pre.length (n*5) 0 5 n (n*5)) dfm (.int .i64 a.K.length) (.int .i64 a.j) (pre++[.cells (fl agC (a.K++(a.M++A.drop a.j)))])
theorem z75l (s:Spc) (p':List AObj) (A:List Agr) (hA:A.length≤20) (hp : ∀ n,zlf2 n (.cells (spC s)::p')=true) :
  V P ((AObj.cells (spC s)::p')++oT agC A).length a45.code (retH a45.res (delV (AObj.cells (spC s)::p').length s A) ((.cells (spC s)::p')++oT agC (delL s A))) ⟨zr5g a45.ntmps [oV (AObj.cells (spC s)::p').length 5 A,dfm],(.cells (spC s)::p')++oT agC A⟩:=by
 obtain ⟨pre,hpre⟩ : ∃ pre,(AObj.cells (spC s)::p')=pre:=⟨_,rfl⟩
 have hsn0:=zigm (k:=pre.length) (l:=A) (h:=pre) (r:=[]) rfl znh2 z1u0 (by omega)
 rw [y07] at hsn0
 have hO0 : ∀ R,objV (pre++R) 0 7=some (spC s):=fun R=>by rw [← hpre]; simp [objV,ziu0]
 have hfn : ∀ R,snap (pre++R) 3 dfm=some (dfn s):=fun R=>by
  have:=hO0 R
  simp (disch:=first|omega|simp<;>omega|fail) [-zA,-zB,-zC,-zD,-zE,dfm,dfn,this]
 have hix:=zjni (s:=s) (x:=ownN A)
 rw [zd8n (by omega)] at hix
 rw [hpre] at hp ⊢
 have h1:1≤pre.length:=by rw [← hpre]; simp
 refine zbn1 (V_W mix zjez ?_)
 simp (disch:=first|omega|simp<;>omega|fail) [-zA,-zB,-zC,-zD,-zE,a45]
 have hnp:zyp8 dfm=false:=rfl
 have hdel:A=[]→oV pre.length 5 A=delV pre.length s A:=fun e=>by subst e; rfl
 obtain ⟨N,hN⟩ : ∃ N,fIx (zvjk s) A=N:=⟨_,rfl⟩
 rw [hN] at hix
 rcases za4c (zvjk s) A with ⟨f1,f2⟩|⟨i,hi,f1,f2,f3⟩
 ·rw [hN] at f1
  subst f1
  have hk:=za2d f2
  have e1:delL s A=A:=by unfold delL; rw [hk,Nat.sub_self]; simp
  have e2:delV pre.length s A=oV pre.length 5 A:=by unfold delV oV; rw [hk]
  rw [e1,e2]
  refine zbn1 (V_W mix zjez ?_)
  simp (disch:=first|omega|simp<;>omega|fail) [-zA,-zB,-zC,-zD,-zE,zt9j,hsn0,hfn,hix,hnp]
  refine zbn1 (zbn1 (V_W mix zjez ?_))
  simp (disch:=first|omega|simp<;>omega|fail) [-zA,-zB,-zC,-zD,-zE]
  refine V_W mix zjez ?_
  simp (disch:=first|omega|simp<;>omega|fail) [-zA,-zB,-zC,-zD,-zE]
 rw [hN] at f1
 subst f1
 have hne:A≠[]:=fun e=>by rw [e] at hi; simp at hi
 obtain ⟨n,hn⟩ : ∃ n,A.length=n:=⟨_,rfl⟩
 have e2:delV pre.length s A = .ms pre.length (n*5) 0 5 (kepL s A).length (n*5):=by unfold delV; rw [if_neg hne,hn]
 have e3:delL s A≠[]:=fun e=>by have:=zr1v s A; rw [e] at this; exact hne (y0w this.symm)
 rw [e2,zu2l e3]
 rw [zpni hne,zu2l hne] at hsn0 ⊢
 rw [hn] at hsn0 ⊢
 refine zbn1 (V_W mix zjez ?_)
 simp (disch:=first|omega|simp<;>omega|fail) [-zA,-zB,-zC,-zD,-zE,zt9j,hsn0,hfn,hix,hnp]
 refine zbn1 (zbn1 (V_W mix zjez ?_))
 simp (disch:=first|omega|simp<;>omega|fail) [-zA,-zB,-zC,-zD,-zE]
 refine V_W mix zjez ?_
 simp (disch:=first|omega|simp<;>omega|fail) [-zA,-zB,-zC,-zD,-zE]
 refine zbn1 (zbn1 (V_W mix zjez ?_))
 simp (disch:=first|omega|simp<;>omega|fail) [-zA,-zB,-zC,-zD,-zE]
 have hki:kepL s (A.take i)=A.take i:=za2d fun a ha=>by
  obtain ⟨j,hj,e⟩:=y0x ha
  rw [y06] at hj
  rw [← e,List.getElem_take]; exact f3 j (by omega) (by omega)
 have hil:(A.take i).length=i:=by rw [y06]; omega
 have hsp:A.take i++([A[i]]++A.drop (i+1))=A:=by
  rw [y1a,← y09 hi,y0s]
 refine z3mo (ztbr (S961 pre A n) (fun a=>n-a.j) (DAok s A) ⟨A.take i,[A[i]],i+1⟩ (z515 (by simp (disch:=first|omega|simp<;>omega|fail) [-zA,-zB,-zC,-zD,-zE,S961,z7h3,hil]) (by simp (disch:=first|omega|simp<;>omega|fail) [-zA,-zB,-zC,-zD,-zE,S961,z7h3,hsp])) ⟨?_,by simp only [y0a]; omega,by simp,by simp only; omega⟩ (fun a ha => ?_))
 ·rw [y01 hi,zxrd,f2,hki]; simp
 obtain ⟨K,M,j⟩:=a
 obtain ⟨a1,a2,a3,a4⟩:=ha
 simp only at a1 a2 a3 a4
 simp only [S961]
 refine zbn1 (V_W mix zjez ?_)
 by_cases h:j<n
 case neg =>
  have h':¬ (j:Int)<n:=by omega
  have hK:kepL s A=K:=by rw [a1,y03 (by omega)]
  have hd:A.drop j=[]:=y0c (by omega)
  have hKl:K.length+M.length=n:=by omega
  rw [hd,y07]
  have hfl:(fl agC (K++M)).length=n*5:=by rw [z8lx znh2,y08,hKl]
  obtain ⟨c,hc⟩ : ∃ c,K.length=c:=⟨_,rfl⟩
  have hs1 : ∀ H,ziwb H 5 (.ms pre.length (n*5) 0 5 n (n*5)) (some (.int .i64 c)) none none=(objV H pre.length (n*5)).map fun _ => .ms pre.length (n*5) (c*5) 5 (n-c) (n*5):=fun H=>by
   rw [zam4 (l:=c) (m:=n) (by simp [zo77,iD]; omega),y0o]
  have hs2 : ∀ H,ziwb H 5 (.ms pre.length (n*5) 0 5 n (n*5)) none (some (.int .i64 c)) none=(objV H pre.length (n*5)).map fun _ => .ms pre.length (n*5) 0 5 c (n*5):=fun H=>by
   rw [zam4 (l:=0) (m:=c) (by simp [zo77,iD]; omega),Nat.zero_mul,y0o,Nat.sub_zero]
  have hcl : ∀ H,clrD H 5 [.str [],.nils,.nils,.nils,.nils] (.ms pre.length (n*5) (c*5) 5 (n-c) (n*5))=(objV H pre.length (n*5)).map fun l=>(.tup [],H.set pre.length (.cells (zk7y l (c*5) (reps (n-c) (agC agr0))))):=fun H=>z7ty rfl (by decide) rfl (by omega)
  have hsp:zk7y (fl agC (K++M)) (c*5) (reps (n-c) (agC agr0))=fl agC (K++List.replicate (n-c) agr0):=by
   rw [zqtu (f:=agC),← hc]
   exact z507 znh2 (by rw [y0u]; omega)
  have hfl2:(fl agC (K++List.replicate (n-c) agr0)).length=n*5:=by rw [z8lx znh2,y08,y0u,hc]; congr 1; omega
  have hdl:delL s A=K++List.replicate (n-c) agr0:=by unfold delL; rw [hK,hc,hn]
  rw [hdl,hK,hc]
  simp (disch:=first|omega|simp<;>omega|fail) [-zA,-zB,-zC,-zD,-zE,zmv1,z7h3,h,h',hfl,zjj2,z1zn]
  refine zbn1 (V_W mix zjez ?_)
  simp (disch:=first|omega|simp<;>omega|fail) [-zA,-zB,-zC,-zD,-zE,hs1,hcl,hsp,hfl,zjj2,z1zn,zxft]
  refine zbn1 (V_W mix zjez ?_)
  simp (disch:=first|omega|simp<;>omega|fail) [-zA,-zB,-zC,-zD,-zE,hs2,hfl2,zjj2,z1zn]
  refine V_W mix zjez ?_
  simp (disch:=first|omega|simp<;>omega|fail) [-zA,-zB,-zC,-zD,-zE]
 have h':(j:Int)<n:=by omega
 have hjl:j<A.length:=by omega
 obtain ⟨x,hx⟩ : ∃ x,A[j]=x:=⟨_,rfl⟩
 have hd:A.drop j=x::A.drop (j+1):=by rw [y09 hjl,hx]
 have hk1:kepL s (A.take (j+1))=K++(if zvjk s x then [] else [x]):=by rw [y01 hjl,zxrd,← a1,hx]
 obtain ⟨R,hR⟩ : ∃ R,A.drop (j+1)=R:=⟨_,rfl⟩
 have hRl:R.length=n-(j+1):=by rw [← hR,y15,hn]
 rw [hR] at hd
 rw [hd]
 obtain ⟨L,hL⟩ : ∃ L,K++(M++x::R)=L:=⟨_,rfl⟩
 have hLl:L.length=n:=by rw [← hL]; simp; omega
 have hjL : ∀ h:j<L.length,L[j]=x:=fun h=>by
  subst hL
  rw [y0f (by omega),y0f (by omega)]
  simp [show j-K.length-M.length=0 by omega]
 rw [hL]
 obtain ⟨G,hG⟩ : ∃ G,fl agC L=G:=⟨_,rfl⟩
 have hGl:G.length=n*5:=by rw [← hG,z8lx znh2,hLl]
 have hGp:zbao G=true:=by rw [← hG]; exact zp6k z1u0 L
 have o1:oneC 5 true (G.drop (j*5))=some (.agg (agC x)):=by rw [← hG,zfiy znh2 (by omega),hjL]
 have hix2 : ∀ H,zpsc H 5 (.ms pre.length (n*5) 0 5 n (n*5)) (j:Int)=(objV H pre.length (n*5)).map fun _ => .mp pre.length (n*5) (j*5):=fun H=>by
  simp (disch:=first|omega|simp<;>omega|fail) [-zA,-zB,-zC,-zD,-zE,h,h']
 rw [hG]
 obtain ⟨c,hc⟩ : ∃ c,K.length=c:=⟨_,rfl⟩
 have hcn:c<n:=by omega
 have hcn':(c:Int)<n:=by omega
 have hHb:zlf2 (pre.length+1) (pre++[.cells G])=true:=zebc (hp _) (by simp only [zlf2,zmq5 _ _ hGp,y0m])
 rw [hc]
 simp (disch:=first|omega|simp<;>omega|fail) [-zA,-zB,-zC,-zD,-zE,zmv1,z7h3,h,h',hGl,zjj2,z1zn]
 refine zbn1 (z3mo (zbn1 (V_W mix zjez ?_)))
 simp (disch:=first|omega|simp<;>omega|fail) [-zA,-zB,-zC,-zD,-zE,h,h',hGl,zjj2,z1zn,o1,zrpz,z6rf]
 rw [show pre++[AObj.cells G,AObj.cells (agC x)]=(pre++[.cells G])++[.cells (agC x)] by simp]
 have hHl:(pre++[AObj.cells G]).length=pre.length+1:=by simp
 refine zs10 (n0:=pre.length+1) (H:=pre++[.cells G]) (cs:=agC x) (t':=[.ms pre.length (n*5) 0 5 n (n*5),dfm,.junk,.junk,.junk,.int .i64 c,.int .i64 j,.ref (agC x)]++js 34) (by rw [hHl]; exact hHb) (y1e hHl.symm) ?_ (by simp (disch:=first|omega|simp<;>omega|fail) [-zA,-zB,-zC,-zD,-zE,belowL,Am.below,dfm]) ?_
 ·have e1:=zz5t (H:=pre++[.cells G]) (cs:=agC x) (off:=0) (z1u0 x)
  rw [hHl,znh2,y0d] at e1
  simp only [y0q,y00,y02] at e1
  have e2 : ∀ h,mk1 (kLt (pre.length+1)) h (.ms pre.length (n*5) 0 5 n (n*5)) = .ms pre.length (n*5) 0 5 n (n*5):=fun h=>zd3c (by simp [Am.below])
  have e3 : ∀ h,mk1 (kLt (pre.length+1)) h dfm=dfm:=fun h=>zd3c (by simp [Am.below,dfm,belowL])
  rw [hHl]
  simp (disch:=first|omega|simp<;>omega|fail) [-zA,-zB,-zC,-zD,-zE,e1,e2,e3,-z1bt,-zdpe]
 have hcd:=zxx2 (s:=s) (a:=x)
 refine V_W mix zjez ?_
 cases hsm:zvjk s x with
 | true =>
  rw [hsm] at hcd hk1
  have hfin:fl agC (K++((M++[x])++A.drop (j+1)))=G:=by rw [hR,← hG,← hL]; simp
  simp (disch:=first|omega|simp<;>omega|fail) [-zA,-zB,-zC,-zD,-zE,dfm,zd17,z8g9,hcd,hO0]
  refine V_W mix zjez ?_
  simp (disch:=first|omega|simp<;>omega|fail) [-zA,-zB,-zC,-zD,-zE]
  exact ⟨⟨K,M++[x],j+1⟩,z515 (by simp (disch:=first|omega|simp<;>omega|fail) [-zA,-zB,-zC,-zD,-zE,S961,z7h3,dfm,hc]) (by simp only [S961,z7h3]; rw [hfin]),by simp only; omega,⟨by simpa using hk1.symm,by simp only [y08,y0a]; omega,by simp,by simp only; omega⟩⟩
 | false =>
  rw [hsm] at hcd hk1
  obtain ⟨m0,M',rfl⟩ : ∃ m0 M',M=m0::M':=by
   cases M with
   | nil=>simp at a3
   | cons m0 M'=>exact ⟨m0,M',rfl⟩
  have hset:L.set c x=(K++[x])++((M'++[x])++R):=by
   rw [← hL,← hc,y0j _ _ (y0g _),Nat.sub_self]; simp
  have hst : ∀ h:List AObj,zy6o h pre.length 5 (c*5) (.agg (agC x)) (some G)=some (.junk,h.set pre.length (.cells (fl agC ((K++[x])++((M'++[x])++R))))):=fun h=>by rw [← hG,zdvi znh2 (by decide) (fun _=>z892) (by omega),hset]
  simp (disch:=first|omega|simp<;>omega|fail) [-zA,-zB,-zC,-zD,-zE,dfm,zd17,z8g9,hcd,hO0,hGl,zjj2,z1zn,hst,zxft,hcn,hcn']
  refine V_W mix zjez ?_
  simp (disch:=first|omega|simp<;>omega|fail) [-zA,-zB,-zC,-zD,-zE]
  exact ⟨⟨K++[x],M'++[x],j+1⟩,z515 (by simp (disch:=first|omega|simp<;>omega|fail) [-zA,-zB,-zC,-zD,-zE,S961,z7h3,dfm,hc]) (by simp (disch:=first|omega|simp<;>omega|fail) [-zA,-zB,-zC,-zD,-zE,S961,z7h3,hR]),by simp only; omega,⟨by simpa using hk1.symm,by simp only [y08,y0a]; simp only [y04] at a2; omega,by simp,by simp only; omega⟩⟩
theorem zni1 (s:Spc) (p':List AObj) (A:List Agr) (hA:A.length≤20) (hp : ∀ n,zlf2 n (.cells (spC s)::p')=true):zwy1 P 45 [oV (AObj.cells (spC s)::p').length 5 A,dfm] ((.cells (spC s)::p')++oT agC A) (fun d h=>d=delV (AObj.cells (spC s)::p').length s A∧h=(.cells (spC s)::p')++oT agC (delL s A)) :=
 zrqk Try.func45 z94d (z75l s p' A hA hp)
end
section
set_option linter.unusedSimpArgs false
set_option linter.unusedVariables false
open Go Go.Am
def enS (s:Spc) (A:List Agr):Sl Agr:=if A=[] then nilS else own (kepL s A)
theorem znmy {s:Spc} {A:List Agr} (h:A.length≤20):(enS s A).l=kepL s A:=by
 unfold enS
 split
 ·rename_i e; subst e; rfl
 ·have:=zcmj s A
  rw [z3e9 (by omega)]
def decA (s:Spc) (V:List Vot):Agr × Int:=match decF (fun a:Agr=>a.owners.l.length) s.thr (zj70 V) with
 | .thr=>(agr0,10)
 | .dis=>(agr0,11)
 | .ok a=>(⟨a.lnk,a.owners,ownN (eqv1 V)⟩,0)
theorem zbp1 {s:Spc} {A:List Agr} (hA:A.length≤20) {H:List AObj} {k:Nat} (hk:k≤H.length):mk1 (kLt k) (H++oT agC (delL s A)) (delV H.length s A)=(enS s A).dv 5 agC:=by
 have hkl:=zcmj s A
 by_cases e:A=[]
 ·subst e; exact zhx5
 ·have hd:delL s A≠[]:=fun q=>by have:=zr1v s A; rw [q] at this; exact e (y0w this.symm)
  have hd2:(fl agC (delL s A)).length=A.length*5:=by rw [z8lx znh2,zr1v]
  have htk:(fl agC (delL s A)).take ((kepL s A).length*5)=(kepL s A).flatMap agC:=by
   rw [z590 znh2]; unfold delL; rw [List.take_left' rfl]
  unfold delV enS
  rw [if_neg e,if_neg e,zu2l hd]
  refine zwy6 ?_
  rw [zi9r,if_neg (by simp [kLt]; omega),zjj2,z1zn,if_pos hd2,y0l,y0d,htk,zl6f (zp6k z1u0 _),zqrs (by omega)]; rfl
noncomputable def T962:Tbl:=addT 12 (.new cCmn) tbl0
theorem zm8b:T962 12 = .new cCmn:=by simp [T962]
theorem zwd6:T962.Sound P:=z0rp zkeo zr5o
theorem zyss:zvnk [.str [],.nils,.nils,.nils,.nils] []=some (.agg (agC agr0)):=rfl
theorem zpir (s:Spc) (l:Sl Att) (hl:l.l.length≤20):V P 0 a14.code (retK a14.res (.tup [.agg (agC (decA s (votL s l.l)).1),.int .i64 (decA s (votL s l.l)).2])) ⟨zr5g a14.ntmps [.agg (spC s),l.dv 9 atC],[]⟩:=by
 have hV:=zldt s l.l
 have k1:=fun n=>zj79 (s:=s) hl n
 obtain ⟨V,hVV⟩ : ∃ V,votL s l.l=V:=⟨_,rfl⟩
 rw [hVV] at hV k1 ⊢
 have hAl:=z9h1 (V:=V) (by omega)
 have hq:=zb7u V
 have hdec:decA s V=match decF (fun a:Agr=>a.owners.l.length) s.thr (zj70 V) with
  | .thr=>(agr0,10)
  | .dis=>(agr0,11)
  | .ok a=>(⟨a.lnk,a.owners,ownN (eqv1 V)⟩,0):=rfl
 obtain ⟨A,hA⟩ : ∃ A,zj70 V=A:=⟨_,rfl⟩
 rw [hA] at k1 hAl hdec
 have hcall:=zni1 s [.cells (agC agr0),.cells (spC s)] A (by omega) (fun n=>by simp only [zlf2,z2i6,zegd,y0m])
 have hmk:=zbp1 (s:=s) (A:=A) (by omega) (H:=[AObj.cells (spC s),.cells (agC agr0),.cells (spC s)]) (k:=2) (by simp)
 have hEl:=znmy (s:=s) (A:=A) (by omega)
 obtain ⟨E,hE⟩ : ∃ E,enS s A=E:=⟨_,rfl⟩
 rw [hE] at hmk hEl
 have hqm : ∀ K h,mk1 K h (qvA V)=qvA V:=fun K h=>zvft hq
 simp only [y00,y02,y04,y0b,y0o,Nat.reduceAdd] at hcall hmk
 refine zbn1 (V_W mix zr5o ?_)
 simp (disch:=first|omega|simp<;>omega|fail) [-zA,-zB,-zC,-zD,-zE,a14]
 rw [← zxlt]
 refine zbn1 (V_W mix zwd6 ?_)
 simp (disch:=first|omega|simp<;>omega|fail) [-zA,-zB,-zC,-zD,-zE,z8s9,zm8b,k1,zu1r]
 refine zbn1 (V_W mix (z84q hcall) ?_)
 simp (disch:=first|omega|simp<;>omega|fail) [-zA,-zB,-zC,-zD,-zE,TH_k,zpvh,dfm]
 refine z0em (H:=[AObj.cells (spC s),.cells (agC agr0)]) (R := .cells (spC s)::oT agC (delL s A)) (t':=[.junk,.junk,.mp 0 7 0,.junk,.mp 1 5 0,.int .i64 0,.junk,qvA V,E.dv 5 agC]++js 31) (by simp only [zlf2,z2i6,zegd,y0m]) (by simp) ?_ (by simp (disch:=first|omega|simp<;>omega|fail) [-zA,-zB,-zC,-zD,-zE,belowL,Am.below,z8b8 _ _ hq,z8b8 _ _ (z165 E)]) ?_
 ·simp only [y04,y0b,y0o,Nat.reduceAdd,y00,y02]
  have e2 : ∀ h,mk1 (kLt 2) h (.mp 0 7 0) = .mp 0 7 0:=fun h=>zd3c (by simp [Am.below])
  have e3 : ∀ h,mk1 (kLt 2) h (.mp 1 5 0) = .mp 1 5 0:=fun h=>zd3c (by simp [Am.below])
  simp (disch:=first|omega|simp<;>omega|fail) [-zA,-zB,-zC,-zD,-zE,e2,e3,hmk,hqm,-z1bt,-zdpe]
 have hlE : ∀ H,lenD H (E.dv 5 agC)=some (.int .i64 E.l.length):=fun H=>zupj
 have hEk:kepL s A=enoL (fun a:Agr=>a.owners.l.length) s.thr A:=rfl
 rw [hEk] at hEl
 refine V_W mix zr5o ?_
 by_cases ht:s.thr<1
 ·have hd:decA s V=(agr0,10):=by rw [hdec]; unfold decF; rw [if_pos ht]
  rw [hd]
  simp (disch:=first|omega|simp<;>omega|fail) [-zA,-zB,-zC,-zD,-zE,z66y,ht,zyss]
 have hzz:E.l≠[] → ∀ H,∃ y r,E.l=y::r∧zpsc H 5 (E.dv 5 agC) 0=some (.ref (agC y)):=fun hne H=>by
  cases e:E.l with
  | nil=>exact absurd e hne
  | cons y r =>
   have:=zalo (h:=H) (x:=E) (i:=0) znh2 (by rw [e]; simp)
   rw [show ((0:Nat):Int)=0 from rfl] at this
   exact ⟨y,r,rfl,by rw [this]; simp [e]⟩
 rcases hEE:E.l with _|⟨y,_|⟨z,r⟩⟩
 ·have hd:decA s V=(agr0,10):=by rw [hdec]; unfold decF; rw [if_neg ht,← hEl,hEE]
  rw [hEE] at hlE
  rw [hd]
  simp (disch:=first|omega|simp<;>omega|fail) [-zA,-zB,-zC,-zD,-zE,z66y,ht,hlE,zyss]
 ·have hd:decA s V=(⟨y.lnk,y.owners,ownN (eqv1 V)⟩,0):=by rw [hdec]; unfold decF; rw [if_neg ht,← hEl,hEE]
  have hi : ∀ H,zpsc H 5 (E.dv 5 agC) 0=some (.ref (agC y)):=fun H=>by
   obtain ⟨y',r,e,h⟩:=hzz (by rw [hEE]; simp) H
   rw [hEE] at e; cases e; exact h
  have hst : ∀ (H:List AObj) (id:Nat),zy6o H id 1 4 (qvA V) (some (agC y))=some (.junk,H.set id (.cells (agC ⟨y.lnk,y.owners,ownN (eqv1 V)⟩))):=fun H id=>by
   have:qvA V=(ownN (eqv1 V)).dv 1 stC:=rfl
   rw [this,Am.storeO_1 (zfr8 _) (z4ja _) (by rw [znh2]; decide)]; rfl
  rw [hEE] at hlE
  rw [hd]
  simp (disch:=first|omega|simp<;>omega|fail) [-zA,-zB,-zC,-zD,-zE,z66y,ht,hlE,hi,zd17,hst]
 ·have hd:decA s V=(agr0,11):=by rw [hdec]; unfold decF; rw [if_neg ht,← hEl,hEE]
  rw [hEE] at hlE
  have hl2:¬ ((z::r).length:Int)+1=0:=by omega
  have hl3:(1:Int)<((z::r).length:Int)+1:=by simp; omega
  have hl4:((y::z::r).length:Int)=((z::r).length:Int)+1:=by simp
  obtain ⟨N,hN⟩ : ∃ N:Nat,(z::r).length=N:=⟨_,rfl⟩
  rw [hN] at hl2 hl3 hl4
  simp only [hl4] at hlE
  rw [hd]
  simp (disch:=first|omega|simp<;>omega|fail) [-zA,-zB,-zC,-zD,-zE,z66y,ht,hlE,zyss,hl2,hl3]
noncomputable def cDec:List DV→Option DV:=con (fun a:Spc × Sl Att=>a.2.l.length≤20) (fun a:Spc × Sl Att=>[.agg (spC a.1),a.2.dv 9 atC]) (fun a => .tup [.agg (agC (decA a.1 (votL a.1 a.2.l)).1),.int .i64 (decA a.1 (votL a.1 a.2.l)).2])
theorem z6ch {s:Spc} {l:Sl Att} (h:l.l.length≤20):cDec [.agg (spC s),l.dv 9 atC]=some (.tup [.agg (agC (decA s (votL s l.l)).1),.int .i64 (decA s (votL s l.l)).2]) :=
 zzno (A:=fun a:Spc × Sl Att=>a.2.l.length≤20) (f:=fun a:Spc × Sl Att=>[.agg (spC a.1),a.2.dv 9 atC]) (g:=fun a => .tup [.agg (agC (decA a.1 (votL a.1 a.2.l)).1),.int .i64 (decA a.1 (votL a.1 a.2.l)).2]) (fun a b e=>by rw [zg9a e]) (s,l) h
theorem zdlo:(Con.pure cDec).Sound P 14:=z2au fun a h=>znz9 Try.func14 zzfl (zpir a.1 a.2 h)
end
section
set_option linter.unusedSimpArgs false
set_option linter.unusedVariables false
open Go Go.Am
section
variable {α:Type} {f:α→List DV} {K:Nat}
def oW (k K:Nat) (l:List α):DV:=if l=[] then .sl true K 0 [] else .ms k (l.length*K) 0 K l.length (l.length*K)
theorem ze3w {k:Nat}:oW k K ([]:List α) = .sl true K 0 []:=rfl
theorem zpml {k:Nat} {l:List α} (h:l≠[]):oW k K l=oV k K l:=by rw [zpni h]; exact if_neg h
theorem zg9v {k:Nat} {l:List α}:(oW k K l).known=true:=by unfold oW; split<;>rfl
theorem znxx {k b:Nat} {l cs:List α} {h:List AObj} (hp:h.length=k) (hu : ∀ a,(f a).length=K) (h0:0<K) (hb:b≤16384) (ha : ∀ a,(f a).all DV.one=true) (hbig:l.length+cs.length≤4294967296) :
  appX (h++oT f l) K b (oW k K l) cs.length (cs.flatMap f)=some (oW k K (l++cs),h++oT f (l++cs)):=by
 by_cases e:l=[]
 ·subst e
  rw [ze3w,zkrk,y07,y02]
  by_cases e2:cs=[]
  ·subst e2
   rw [show ([]:List α).flatMap f=[] from rfl,y0b,zegt hb h0,ze3w,zkrk,y07]
  ·have:=ztup (h:=h) (s:=K) (b:=b) (n:=0) (m:=cs.length) (ds:=[]) (cs:=cs.flatMap f) hb h0 (by rw [z1rq hu]) (y1b.2 e2) (by simp at hbig; omega)
   rw [this,zpml e2,zpni e2,zu2l e2,z1rq hu,hp]
   simp [fl]
 ·rw [zpml e,zpml (by simp [e])]
  exact z612 hp hu h0 hb ha hbig
end
theorem zye0 {s:Str} {m p:Sl Ent}:zvnk [.str [],.nils,.nils] [(0,1,.str s),(1,1,m.dv 33 enC),(2,1,p.dv 33 enC)]=some (.agg (lkC ⟨s,m,p⟩)):=by
 simp [zvnk,zi03,zk7y,lkC]
end
section
set_option linter.unusedSimpArgs false
set_option linter.unusedVariables false
open Go Go.Am
structure Tp where
 k:Option Bool
 l:List Int
 h:k=none→l=[]
 at_:Nat
def inI (n:Int):List DV:=[.int .i64 n]
def Tp.sl (t:Tp):DV:=slD t.k 1 t.l.length (t.l.flatMap inI)
def tpC (t:Tp):List DV:=[t.sl,.int .i64 t.at_]
def Tp.adv (t:Tp) (m:Nat):Tp:={ t with at_:=t.at_+m }
theorem zg97 (n:Int):(inI n).length=1:=rfl
theorem zyj0 (n:Int):zbao (inI n)=true:=rfl
theorem z5yb (t:Tp):zyp8 t.sl=true:=by
 obtain ⟨k,l,h,a⟩:=t
 cases k with
 | none=>rfl
 | some b=>show zbao _=true; exact zp6k zyj0 l
theorem zs7w (t:Tp):zbao (tpC t)=true:=by simp [tpC,zbao,z5yb,zyp8]
theorem zl4f (t:Tp):(tpC t).length=2:=by simp [tpC]
theorem zwhz (t:Tp) (H:List AObj):lenD H t.sl=some (.int .i64 t.l.length):=zjc6 (fun e=>by rw [t.h e]; rfl)
theorem zmwh (t:Tp) (H:List AObj) {i:Nat} (hi:i<t.l.length):zpsc H 1 t.sl i=some (.ref [.int .i64 t.l[i]]):=by
 obtain ⟨k,l,h,a⟩:=t
 cases k with
 | none=>simp only at hi; rw [h rfl] at hi; simp at hi
 | some b =>
  simp only [Tp.sl,zip4]
  rw [zsu0 (by omega) (by simp only at hi; omega),y12,zdao zg97 hi]; rfl
theorem zxr4 (t:Tp):t.sl.one=true:=by obtain ⟨k,l,h,a⟩:=t; cases k<;>rfl
theorem zn8z (t:Tp):t.sl.known=true:=by obtain ⟨k,l,h,a⟩:=t; cases k<;>rfl
theorem zymw (t:Tp):t.sl.cells=[t.sl]:=by obtain ⟨k,l,h,a⟩:=t; cases k<;>rfl
theorem zpy8 (t:Tp) (n k:Nat) (H:List AObj):fz n H k t.sl=some t.sl:=zqge (z5yb t)
theorem ziad : ∀ {a b:List Int},a.flatMap inI=b.flatMap inI→a=b
 | [],[],_=>rfl
 | [],y::b,h=>by simp [inI] at h
 | x::a,[],h=>by simp [inI] at h
 | x::a,y::b,h=>by
  simp only [List.flatMap_cons,inI,y1a,List.cons.injEq,DV.int.injEq,true_and] at h
  rw [h.1,ziad h.2]
theorem z15z {a b:Tp} (h:tpC a=tpC b):a=b:=by
 obtain ⟨k,l,h1,p⟩:=a
 obtain ⟨k',l',h2,p'⟩:=b
 simp only [tpC,Tp.sl,List.cons.injEq,DV.int.injEq,true_and,and_true,y17] at h
 obtain ⟨h,rfl⟩:=h
 cases k with
 | none=>cases k' with
  | none=>rw [Tp.mk.injEq]; exact ⟨rfl,by rw [h1 rfl,h2 rfl],rfl⟩
  | some b=>simp [slD] at h
 | some b=>cases k' with
  | none=>simp [slD] at h
  | some b' =>
   simp only [zip4,DV.sl.injEq] at h
   obtain ⟨rfl,_,_,h⟩:=h
   rw [Tp.mk.injEq]; exact ⟨rfl,ziad h,rfl⟩
attribute [simp] zwhz zxr4 zn8z zymw zpy8 zl4f
def zq5q (t:Tp):Int:=if h:t.at_<t.l.length then t.l[t.at_] else t.at_*7+3
def tpN (t:Tp) (n:Int):Int:=if n<1 then 0 else zq5q t % n
def tpS (t:Tp) (n:Int):Tp:=if n<1 then t else t.adv 1
theorem z4rs (t:Tp) (n:Int):0≤tpN t n:=by
 unfold tpN; split
 ·omega
 ·exact Int.emod_nonneg _ (by omega)
theorem z2s7 (t:Tp) {n:Int} (h:1≤n):tpN t n<n:=by
 unfold tpN; rw [if_neg (by omega)]; exact Int.emod_lt_of_pos _ (by omega)
theorem z1rh (t:Tp) (m:Nat):(t.adv m).sl=t.sl:=by simp [Tp.adv,Tp.sl]
theorem zpza (t:Tp) (m:Nat):(t.adv m).at_=t.at_+m:=by simp [Tp.adv]
theorem zk2k (t:Tp) (m:Nat):(t.adv m).l=t.l:=by simp [Tp.adv]
attribute [simp] z1rh zpza zk2k
theorem zhly (x n:Int) (h:1≤n) (h2:n≤4294967296):IntKind.i64.wrap (x.tmod n+n)=x.tmod n+n∧(x.tmod n+n).tmod n=x % n:=by
 have h1:=Int.tmod_lt_of_pos x (show 0<n by omega)
 have h3 : -n<x.tmod n:=by
  have:=Int.lt_tmod_of_pos x (show 0<n by omega)
  omega
 refine ⟨znmn (by omega) (by omega),?_⟩
 rw [y0n (by omega),Int.add_emod_right]
 rw [Int.tmod_eq_emod]
 split
 ·simp
 ·rw [Int.natAbs_of_nonneg (show 0≤n by omega)]; simp
theorem z1hg (t:Tp) (n:Int) (ht:t.at_<4294967296) (hn:n≤4294967296):RunsF tbl0 a25 [.mp 0 2 0,.int .i64 n] [.cells (tpC t)] (.int .i64 (tpN t n)) [.cells (tpC (tpS t n))]:=by
 refine ⟨?_⟩
 by_cases h:n<1
 ·have e1:tpN t n=0:=by rw [tpN,if_pos h]
  have e2:tpS t n=t:=by rw [tpS,if_pos h]
  rw [e1,e2]
  simp (disch:=first|omega|simp<;>omega|fail) [-zA,-zB,-zC,-zD,-zE,a25,tpC,h]
 have e2:tpS t n=t.adv 1:=by rw [tpS,if_neg h]
 obtain ⟨f1,f2⟩:=zhly (zq5q t) n (by omega) hn
 have e3:tpN t n=zq5q t % n:=by rw [tpN,if_neg h]
 rw [← e3] at f2
 rw [e2]
 have hn0:n≠0:=by omega
 by_cases hl:t.at_<t.l.length
 ·have hl':(t.at_:Int)<t.l.length:=by omega
  have hr:t.l[t.at_]=zq5q t:=by rw [zq5q,dif_pos hl]
  have hi:=fun H=>zmwh t H hl
  simp (disch:=first|omega|simp<;>omega|fail) [-zA,-zB,-zC,-zD,-zE,a25,tpC,h,hl,hl',hi,hr,hn0,f1,f2,-y0n]
 ·have hl':¬ (t.at_:Int)<t.l.length:=by omega
  have hr:(t.at_:Int)*7+3=zq5q t:=by rw [zq5q,dif_neg hl]
  have hw:(t.at_:Int)*7<9223372036854775808:=by omega
  simp (disch:=first|omega|simp<;>omega|fail) [-zA,-zB,-zC,-zD,-zE,a25,tpC,h,hl,hl',hr,hn0,f1,f2,-y0n]
theorem zjmf (t:Tp) (a b:Nat):(t.adv a).adv b=t.adv (a+b):=by simp [Tp.adv,Nat.add_assoc]
theorem zi8m {t:Tp} {n:Int} (h:1≤n):tpS t n=t.adv 1:=by rw [tpS,if_neg (by omega)]
noncomputable def z1m3:List DV→List DV→Option (DV × List DV):=conT (fun a:Tp × Int=>a.1.at_<4294967296∧a.2≤4294967296) (fun a=>[.int .i64 a.2]) (fun a=>tpC a.1) (fun a=>(.int .i64 (tpN a.1 a.2),tpC (tpS a.1 a.2)))
theorem zs7j {t:Tp} {n:Int} (h1:t.at_<4294967296) (h2:n≤4294967296):z1m3 [.int .i64 n] (tpC t)=some (.int .i64 (tpN t n),tpC (tpS t n)) :=
 ztyo (A:=fun a:Tp × Int=>a.1.at_<4294967296∧a.2≤4294967296) (f:=fun a=>[.int .i64 a.2]) (s:=fun a=>tpC a.1) (by
  rintro ⟨a,n⟩ ⟨b,m⟩ e1 e2
  simp only [List.cons.injEq,DV.int.injEq,true_and,and_true] at e1
  rw [e1,z15z e2]) (t,n) ⟨h1,h2⟩
theorem z44h {t:Tp} {n:Int} (h1:t.at_<4294967296) (h2:n≤4294967296) (h3:1≤n):z1m3 [.int .i64 n] (tpC t)=some (.int .i64 (tpN t n),tpC (t.adv 1)):=by rw [zs7j h1 h2,zi8m h3]
theorem z51e:(Con.tch z1m3).Sound P 25 :=
 z0tq (fun a _=>⟨rfl,zs7w _,rfl,zs7w _⟩) fun a h=>zizi mix zr5o Try.func25 zgum (z1hg a.1 a.2 h.1 h.2) (y0g _)
noncomputable def T150:Tbl:=addT 25 (.tch z1m3) tbl0
theorem zp0f:T150 25 = .tch z1m3:=by simp [T150]
theorem zt0z:T150.Sound P:=z0rp z51e zr5o
def zzh5 (t:Tp) (l:List (List UInt8)):List UInt8:=l.getD (tpN t l.length).toNat []
theorem zqrp (t:Tp) {l:List (List UInt8)} (h:l≠[]):zzh5 t l ∈ l:=by
 have h0:1≤l.length:=by cases l with|nil=>exact absurd rfl h|cons _ _=>simp
 have h1:=z4rs t l.length
 have h2:=z2s7 t (n:=l.length) (by omega)
 have h3:(tpN t l.length).toNat<l.length:=by omega
 rw [zzh5,y11,y16 h3]
 exact y0i h3
theorem z4zb (t:Tp) (l:List (List UInt8)) (ht:t.at_<4000000000) (h0:1≤l.length) (hl:l.length≤4294967296):RunsF T150 a27 [.mp 0 2 0,.sl true 1 l.length (l.map .str)] [.cells (tpC t)] (.str (zzh5 t l)) [.cells (tpC (t.adv 1))]:=by
 refine ⟨?_⟩
 have h1:=z4rs t l.length
 have h2:=z2s7 t (n:=l.length) (by omega)
 obtain ⟨N,hN⟩ : ∃ N:Nat,tpN t l.length=N:=⟨_,(y1c h1).symm⟩
 have h3:N<l.length:=by omega
 have e:zzh5 t l=l[N]:=by rw [zzh5,hN,y12,y11,y16 h3]; rfl
 have hd:((l.map DV.str).drop N).take 1=[.str l[N]]:=by
  rw [← List.map_drop,y09 h3]; rfl
 have hfz:fzL 1 [.cells (tpC (t.adv 1))] (tpC (t.adv 1)) (tpC (t.adv 1)):=znnb (zs7w _)
 simp (disch:=first|omega|simp<;>omega|fail) [-zA,-zB,-zC,-zD,-zE,a27,zp0f,z44h,hN,h3,e,hd,hfz,zbao]
noncomputable def zqck:List DV→List DV→Option (DV × List DV):=conT (fun a:Tp × List (List UInt8)=>a.1.at_<4000000000∧1≤a.2.length∧a.2.length≤4294967296) (fun a=>[.sl true 1 a.2.length (a.2.map .str)]) (fun a=>tpC a.1) (fun a=>(.str (zzh5 a.1 a.2),tpC (a.1.adv 1)))
theorem zsi8 : ∀ {a b:List (List UInt8)},a.map DV.str=b.map DV.str→a=b
 | [],[],_=>rfl
 | [],y::b,h=>by simp at h
 | x::a,[],h=>by simp at h
 | x::a,y::b,h=>by
  simp only [y0z,List.cons.injEq,DV.str.injEq] at h
  rw [h.1,zsi8 h.2]
theorem ze0z {t:Tp} {l:List (List UInt8)} (h:t.at_<4000000000) (h1:1≤l.length) (h2:l.length≤4294967296):zqck [.sl true 1 l.length (l.map .str)] (tpC t)=some (.str (zzh5 t l),tpC (t.adv 1)) :=
 ztyo (A:=fun a:Tp × List (List UInt8)=>a.1.at_<4000000000∧1≤a.2.length∧a.2.length≤4294967296) (f:=fun a=>[.sl true 1 a.2.length (a.2.map .str)]) (s:=fun a=>tpC a.1) (by
  rintro ⟨a,n⟩ ⟨b,m⟩ e1 e2
  simp only [List.cons.injEq,DV.sl.injEq,true_and,and_true] at e1
  rw [zsi8 e1.2,z15z e2]) (t,l) ⟨h,h1,h2⟩
theorem z3hj:(Con.tch zqck).Sound P 27 :=
 z0tq (fun a _=>⟨by simp [zbao,zyp8]; exact List.rec rfl (fun _ _ ih=>by simpa [zbao,zyp8] using ih) a.2,zs7w _,rfl,zs7w _⟩) fun a h=>zizi mix zt0z Try.func27 z3hx (z4zb a.1 a.2 h.1 h.2.1 h.2.2) (y0g _)
def dgW (b:BitVec 8):Dg:=⟨b::rep 31 0#8,by simp [rep]⟩
abbrev dgB (z:Int):Dg:=dgW (BitVec.ofInt 8 z)
theorem z7ni {b:BitVec 8}:zvnk (dgC dg0) [(0,1,w8 b)]=some (.agg (dgC (dgW b))):=rfl
def sumV (t:Tp):Dg:=dgB (1+tpN t 6)
theorem zizk (t:Tp) (ht:t.at_<4000000000):RunsF T150 a69 [.mp 0 2 0] [.cells (tpC t)] (.agg (dgC (sumV t))) [.cells (tpC (t.adv 1))]:=by
 refine ⟨?_⟩
 have h1:=z4rs t 6
 have h2:=z2s7 t (n:=6) (by omega)
 have hfz : ∀ k,fzL 1 k (tpC (t.adv 1)) (tpC (t.adv 1)):=fun k=>znnb (zs7w _)
 simp (disch:=first|omega|simp<;>omega|fail) [-zA,-zB,-zC,-zD,-zE,a69,zp0f,z44h,hfz,z7ni,sumV,zojd (z6je _)]
noncomputable def cSum:List DV→List DV→Option (DV × List DV):=conT (fun a:Tp=>a.at_<4000000000) (fun a=>[]) tpC (fun a=>(.agg (dgC (sumV a)),tpC (a.adv 1)))
theorem zliq {t:Tp} (h:t.at_<4000000000):cSum [] (tpC t)=some (.agg (dgC (sumV t)),tpC (t.adv 1)) :=
 ztyo (A:=fun a:Tp=>a.at_<4000000000) (f:=fun a=>[]) (s:=tpC) (fun a b _ e=>by rw [z15z e]) t h
theorem z8dz:(Con.tch cSum).Sound P 69 :=
 z0tq (fun a _=>⟨rfl,zs7w _,by simp [zyp8],zs7w _⟩) fun a h=>zizi mix zt0z Try.func69 z713 (zizk a h) (y0g _)
structure Nl where
 k:Option Bool
 l:List Int
 h:k=none→l=[]
 b:l.length≤9223372036854775807
def Nl.dv (x:Nl):DV:=slD x.k 1 x.l.length (x.l.flatMap inI)
theorem zkbj {t:Tp}:zvnk [.nils,.int .i64 0] [(0,1,t.sl)]=some (.agg [t.sl,.int .i64 0]):=by simp [zvnk,zi03,zk7y]
end
section
set_option linter.unusedSimpArgs false
set_option linter.unusedVariables false
open Go Go.Am
def nmA:List Str:=[[97],[98],[115,114,99],[111,117,116],[108,105,98]]
def nmB:List Str:=[[97],[98],[97,46,99],[98,46,104],[120],[111,117,116]]
def pthL:Nat→Tp→Str→Str × Tp
 | 0,t,s=>(s,t)
 | k+1,t,s=>pthL k (t.adv 1) (s++zzh5 t nmA++[47])
def zf1o (t:Tp):Nat:=(tpN t 3).toNat
def zczq (t:Tp):Str:=(pthL (zf1o t) (t.adv 1) []).1++zzh5 (pthL (zf1o t) (t.adv 1) []).2 nmB
def zvs1 (t:Tp):Tp:=(pthL (zf1o t) (t.adv 1) []).2.adv 1
theorem zyo7 : ∀ (k:Nat) (t:Tp) (s:Str),(pthL k t s).2.at_=t.at_+k
 | 0,_,_=>rfl
 | k+1,t,s=>by rw [pthL,zyo7,zpza]; omega
theorem z9sd (t:Tp):zf1o t≤2:=by
 have h1:=z4rs t 3
 have h2:=z2s7 t (n:=3) (by omega)
 unfold zf1o; omega
theorem z89h (t:Tp):tpN t 3=zf1o t:=by
 have h1:=z4rs t 3
 unfold zf1o; omega
theorem zj8l (t:Tp):(zvs1 t).at_≤t.at_+4:=by have:=z9sd t; simp only [zvs1,zpza,zyo7]; omega
def pLt (a b:Ent):Bool:=Op.bytesLess a.path b.path
def putF (s:List Ent) (x:Ent):List Ent:=s.filter fun y => !decide (y.path=x.path)
def putV (s:List Ent) (x:Ent):List Ent:=insR pLt x (putF s x)
theorem zk1d (s:List Ent) (x:Ent):(putF s x).length≤s.length:=y0k ..
theorem z3b0 (s:List Ent) (x:Ent):(putV s x).length≤s.length+1:=by
 unfold putV
 rw [zcx2.length_eq,y04]
 have:=zk1d s x; omega
theorem zfin (s:List Ent) (x:Ent):putV s x≠[]:=fun e=>by
 have:=(zcx2 (lt:=pLt) (x:=x) (l:=putF s x)).length_eq
 unfold putV at e
 rw [e] at this; simp at this
def zoqy (s:List Ent) (i:Nat):List Ent:=s.take i++s.drop (i+1)
theorem zy3g (s:List Ent) (i:Nat):(zoqy s i).length≤s.length:=by
 unfold zoqy; rw [y08,y06,y15]; omega
def emp1 {α:Type}:Sl α:=⟨some true,[],by simp,by simp⟩
def zmmk (s:List Ent) (i:Nat):Sl Ent:=if zoqy s i=[] then emp1 else own (zoqy s i)
theorem znxd {s:List Ent} {i:Nat} (h:s.length≤4294967296):(zmmk s i).l=zoqy s i:=by
 unfold zmmk
 split
 ·rename_i e; rw [e]; rfl
 ·rw [z3e9 (y13 (zy3g s i) h)]
def newE (t:Tp):Ent:=⟨zczq t,sumV (zvs1 t)⟩
def newT (t:Tp):Tp:=(zvs1 t).adv 1
theorem ztvs (t:Tp):(newT t).at_≤t.at_+5:=by have:=zj8l t; simp only [newT,zpza]; omega
def snpL:Nat→Tp × List Ent→Tp × List Ent
 | 0,a=>a
 | n+1,a=>snpL n (newT a.1,putV a.2 (newE a.1))
theorem zevg : ∀ (n:Nat) (a:Tp × List Ent),(snpL n a).1.at_≤a.1.at_+5*n∧(snpL n a).2.length≤a.2.length+n
 | 0,a=>by simp [snpL]
 | n+1,a=>by
  have h:=zevg n (newT a.1,putV a.2 (newE a.1))
  have h1:=ztvs a.1
  have h2:=z3b0 a.2 (newE a.1)
  simp only at h
  rw [snpL]
  omega
def zep5 (t:Tp) (m:Nat):Nat:=(tpN t (m+1)).toNat
theorem z3zi (t:Tp) (m:Nat):zep5 t m≤m:=by
 have h1:=z4rs t (m+1)
 have h2:=z2s7 t (n:=m+1) (by omega)
 unfold zep5; omega
theorem znaf (t:Tp) (m:Nat):tpN t (m+1)=zep5 t m:=by
 have h1:=z4rs t (m+1)
 unfold zep5; omega
def zgxx (t:Tp) (m:Nat):Tp × List Ent:=snpL (zep5 t m) (t.adv 1,[])
def zvj4 (a:Tp × Sl Ent):Tp × Sl Ent :=
 if tpN a.1 3=0∧a.2.l≠[] then (a.1.adv 2,zmmk a.2.l (tpN (a.1.adv 1) a.2.l.length).toNat)
 else (newT (a.1.adv 1),own (putV a.2.l (newE (a.1.adv 1))))
def edtL:Nat→Tp × Sl Ent→Tp × Sl Ent
 | 0,a=>a
 | n+1,a=>edtL n (zvj4 a)
theorem zkr6 {a:Tp × Sl Ent} (h:a.2.l.length+1≤4294967296):(zvj4 a).1.at_≤a.1.at_+6∧(zvj4 a).2.l.length≤a.2.l.length+1:=by
 unfold zvj4
 split
 ·have:=zy3g a.2.l (tpN (a.1.adv 1) a.2.l.length).toNat
  simp only [zpza,znxd (show a.2.l.length≤4294967296 by omega)]
  omega
 ·have h1:=ztvs (a.1.adv 1)
  have h2:=z3b0 a.2.l (newE (a.1.adv 1))
  rw [z3e9 (by omega)]
  simp only [zpza] at h1
  simp only; omega
theorem zrnf : ∀ (n:Nat) (a:Tp × Sl Ent),a.2.l.length+n≤4294967296→(edtL n a).1.at_≤a.1.at_+6*n∧(edtL n a).2.l.length≤a.2.l.length+n
 | 0,a,_=>by simp [edtL]
 | n+1,a,h=>by
  have h1:=zkr6 (a:=a) (by omega)
  have h2:=zrnf n (zvj4 a) (by omega)
  rw [edtL]; omega
def zp4t (t:Tp):Nat:=zep5 t 3
def z7ym (t:Tp) (s:Sl Ent):Tp × Sl Ent:=edtL (zp4t t) (t.adv 1,s)
theorem za6t {t:Tp} {s:Sl Ent} (h:s.l.length≤4000000000):(z7ym t s).1.at_≤t.at_+19∧(z7ym t s).2.l.length≤s.l.length+3:=by
 have h0:=z3zi t 3
 have h1:=zrnf (zp4t t) (t.adv 1,s) (by unfold zp4t; simp only; omega)
 unfold z7ym
 simp only [zpza] at h1
 have h2:zp4t t≤3:=h0
 omega
def zxwj (t:Tp):Sl Ent:=ownN (zgxx t 5).2
def zyjl (t:Tp) (st:Str):Lnk:=⟨st,zxwj t,(z7ym (zgxx t 5).1 (zxwj t)).2⟩
def zd2t (t:Tp):Tp:=(z7ym (zgxx t 5).1 (zxwj t)).1
theorem zk7x (t:Tp) (m:Nat):(zgxx t m).1.at_≤t.at_+1+5*m∧(zgxx t m).2.length≤m:=by
 have h0:=z3zi t m
 have h1:=zevg (zep5 t m) (t.adv 1,[])
 unfold zgxx
 simp only [zpza,y0b] at h1
 omega
theorem zr0a (t:Tp):(zxwj t).l.length≤5:=by
 have h:=(zk7x t 5).2
 unfold zxwj; rw [zd8n (by omega)]; exact h
theorem zoiq (t:Tp) (st:Str):(zyjl t st).m.l.length≤5∧(zyjl t st).p.l.length≤8∧(zd2t t).at_≤t.at_+45:=by
 have h0:=zr0a t
 have h1:=za6t (t:=(zgxx t 5).1) (s:=zxwj t) (by omega)
 have h2:=(zk7x t 5).1
 refine ⟨h0,?_,?_⟩
 ·simp only [zyjl]; omega
 ·simp only [zd2t]; omega
def zivf (t:Tp):Tp × Lnk × Lnk :=
 let a:=zyjl t [98,117,105,108,100]
 let e:=z7ym (zd2t t) a.p
 (e.1,a,{ a with p:=e.2 })
end
section
set_option linter.unusedSimpArgs false
set_option linter.unusedVariables false
open Go Go.Am
end
section
set_option linter.unusedSimpArgs false
set_option linter.unusedVariables false
open Go Go.Am
def eqBy {α:Type} (p:α→α→Bool):List α→List α→Bool
 | [],[]=>true
 | a::l,b::m=>p a b&&eqBy p l m
 | [],_::_=>false
 | _::_,[]=>false
theorem zunb {α:Type} {p:α→α→Bool} : ∀ {l m:List α},l.length≠m.length→eqBy p l m=false
 | [],[],h=>absurd rfl h
 | a::l,b::m,h=>by rw [eqBy,zunb (l:=l) (m:=m) (by simpa using h),Bool.and_false]
 | [],_::_,_=>rfl
 | _::_,[],_=>rfl
theorem zfcj {α:Type} {p:α→α→Bool} : ∀ {l m:List α} {i:Nat} (h1:i<l.length) (h2:i<m.length),p l[i] m[i]=false→eqBy p l m=false
 | [],_,_,h1,_,_=>by simp at h1
 | _::_,[],_,_,h2,_=>by simp at h2
 | a::l,b::m,0,_,_,h=>by rw [eqBy]; simp only [y18] at h; rw [h]; rfl
 | a::l,b::m,i+1,h1,h2,h=>by
  rw [eqBy,zfcj (l:=l) (m:=m) (i:=i) (by simpa using h1) (by simpa using h2) (by simpa using h),Bool.and_false]
theorem z0pu {α:Type} {p:α→α→Bool} : ∀ {l m:List α},l.length=m.length→(∀ j (h1:j<l.length) (h2:j<m.length),p l[j] m[j]=true)→eqBy p l m=true
 | [],[],_,_=>rfl
 | [],_::_,h,_=>by simp at h
 | _::_,[],h,_=>by simp at h
 | a::l,b::m,h,ha=>by
  have h0:=ha 0 (by simp) (by simp)
  simp only [y18] at h0
  rw [eqBy,h0,Bool.true_and]
  exact z0pu (by simpa using h) fun j h1 h2=>by
   have:=ha (j+1) (by simpa using h1) (by simpa using h2)
   simpa using this
def eqD {α:Type} [DecidableEq α] (a b:α):Bool:=decide (a=b)
def PreI {α:Type} (p:α→α→Bool) (l m:List α) (i:Nat):Prop := ∀ j (h1:j<l.length) (h2:j<m.length),j<i→p l[j] m[j]=true
theorem z3w8 {α:Type} [DecidableEq α] : ∀ {l m:List α},eqBy eqD l m=decide (l=m)
 | [],[]=>rfl
 | [],_::_=>rfl
 | _::_,[]=>rfl
 | a::l,b::m=>by
  rw [eqBy,z3w8]
  by_cases h1:a=b<;>by_cases h2:l=m<;>simp [h1,h2,eqD]
def S971 {B:Nat} (x y:SlB B Ent) (i:Nat):St:=zudq (x.dv 33 enC) (y.dv 33 enC) (.int .i64 i) []
theorem zrph {B:Nat} (hB:B≤9223372036854775807) (x y:SlB B Ent):Runs tbl0 a50 [x.dv 33 enC,y.dv 33 enC] (.bool (eqBy eqD x.l y.l)):=by
 refine ⟨?_⟩
 have hb:=x.b
 have hb2:=y.b
 obtain ⟨n,hn⟩ : ∃ n,x.l.length=n:=⟨_,rfl⟩
 obtain ⟨m,hm⟩ : ∃ m,y.l.length=m:=⟨_,rfl⟩
 by_cases hl:n=m
 case neg =>
  have hl':¬ (n:Int)=m:=by omega
  rw [zunb (by omega)]
  simp (disch:=first|omega|simp<;>omega|fail) [-zA,-zB,-zC,-zD,-zE,a50,hn,hm,hl,hl']
 subst hl
 simp (disch:=first|omega|simp<;>omega|fail) [-zA,-zB,-zC,-zD,-zE,a50,hn,hm]
 refine zlm5 (S971 x y) (fun i=>n-i) (fun i=>i≤n∧PreI eqD x.l y.l i) 0 (z515 (by simp (disch:=first|omega|simp<;>omega|fail) [-zA,-zB,-zC,-zD,-zE,S971,zudq]) (by simp (disch:=first|omega|simp<;>omega|fail) [-zA,-zB,-zC,-zD,-zE,S971,zudq])) ⟨by omega,fun j _ _ hj=>by omega⟩ (fun i hi => ?_)
 obtain ⟨q1,q2⟩:=hi
 simp only [S971]
 by_cases q:i<n
 ·have g':(i:Int)<n:=by omega
  have hx : ∀ H,zpsc H 33 (x.dv 33 enC) i=some (.ref (enC x.l[i])):=fun H=>zalo (by first|exact zuso|exact fun _=>rfl) (by omega)
  have hy : ∀ H,zpsc H 33 (y.dv 33 enC) i=some (.ref (enC y.l[i])):=fun H=>zalo (by first|exact zuso|exact fun _=>rfl) (by omega)
  have hinv:eqD x.l[i] y.l[i]=true→PreI eqD x.l y.l (i+1):=fun e j h1 h2 hji=>by
   by_cases ej:j=i
   ·subst ej; exact e
   ·exact q2 j h1 h2 (by omega)
  have hr:eqD x.l[i] y.l[i]=false→eqBy eqD x.l y.l=false:=fun e=>zfcj (by omega) (by omega) e
  obtain ⟨u,hu⟩ : ∃ u,x.l[i]=u:=⟨_,rfl⟩
  obtain ⟨v,hv⟩ : ∃ v,y.l[i]=v:=⟨_,rfl⟩
  rw [hu] at hx hinv hr
  rw [hv] at hy hinv hr
  have hc:z32s (zi5g [(1,1),(32,0)]) (enC u) (enC v)=some (eqD u v):=z88i
  cases e:eqD u v with
  | true =>
   have hinv':=hinv e
   clear hinv
   rw [e] at hc
   simp (disch:=first|omega|simp<;>omega|fail) [-zA,-zB,-zC,-zD,-zE,z5j4,zudq,hn,hm,q,g',hx,hy,z6p9,hc]
   exact ⟨i+1,z515 (by simp (disch:=first|omega|simp<;>omega|fail) [-zA,-zB,-zC,-zD,-zE,S971,zudq]) (by simp (disch:=first|omega|simp<;>omega|fail) [-zA,-zB,-zC,-zD,-zE,S971,zudq]),by omega,by omega,hinv'⟩
  | false =>
   rw [hr e]
   rw [e] at hc
   simp (disch:=first|omega|simp<;>omega|fail) [-zA,-zB,-zC,-zD,-zE,z5j4,zudq,hn,hm,q,g',hx,hy,z6p9,hc]
 ·have g':¬ (i:Int)<n:=by omega
  rw [z0pu (by omega) fun j h1 h2=>q2 j h1 h2 (by omega)]
  simp (disch:=first|omega|simp<;>omega|fail) [-zA,-zB,-zC,-zD,-zE,z5j4,zudq,hn,hm,q,g']
end
section
set_option linter.unusedSimpArgs false
set_option linter.unusedVariables false
open Go Go.Am
noncomputable def zga7:Tbl:=addT 25 (.tch z1m3) (addT 27 (.tch zqck) tbl0)
theorem zamd:zga7 25 = .tch z1m3:=by simp [zga7]
theorem zqj4:zga7 27 = .tch zqck:=by simp [zga7]
theorem z695:zga7.Sound P:=z0rp z51e (z0rp z3hj zr5o)
theorem z0ff {a b:Str} (h:a.length+b.length≤4611686018427387904):zhl4 .add (.str a) (.str b)=some (.str (a++b)):=by simp [zhl4,zdnj,h]
theorem zq04 (t:Tp):(zzh5 t nmA).length≤3:=by
 have:=zqrp t (l:=nmA) (by decide)
 generalize zzh5 t nmA=x at this ⊢
 simp only [nmA,y0r,List.not_mem_nil,or_false] at this
 rcases this with e|e|e|e|e<;>subst e<;>decide
theorem z2ex (t:Tp):(zzh5 t nmB).length≤3:=by
 have:=zqrp t (l:=nmB) (by decide)
 generalize zzh5 t nmB=x at this ⊢
 simp only [nmB,y0r,List.not_mem_nil,or_false] at this
 rcases this with e|e|e|e|e|e<;>subst e<;>decide
structure PL where
 k:Nat
 t:Tp
 s:Str
def zdph (a:PL):St:=zd78 (.mp 0 2 0) (.str a.s) (.int .i64 a.k) [.cells (tpC a.t)]
theorem zqqw (t:Tp) (ht:t.at_<3900000000):RunsF zga7 a68 [.mp 0 2 0] [.cells (tpC t)] (.str (zczq t)) [.cells (tpC (zvs1 t))]:=by
 refine ⟨?_⟩
 have n1:=z89h t
 have n2:=z9sd t
 obtain ⟨R,hR⟩ : ∃ R,pthL (zf1o t) (t.adv 1) []=R:=⟨_,rfl⟩
 have hv:zczq t=R.1++zzh5 R.2 nmB:=by unfold zczq; rw [hR]
 have hT:zvs1 t=R.2.adv 1:=by unfold zvs1; rw [hR]
 obtain ⟨N,hN⟩ : ∃ N,zf1o t=N:=⟨_,rfl⟩
 rw [hN] at n1 n2 hR
 rw [hv,hT]
 simp (disch:=first|omega|simp<;>omega|fail) [-zA,-zB,-zC,-zD,-zE,a68,zamd,z44h,n1]
 refine zlm5 zdph (fun a=>a.k) (fun a=>pthL a.k a.t a.s=R∧a.t.at_+a.k<3950000000∧a.s.length+4*a.k≤100) ⟨N,t.adv 1,[]⟩ (z515 (by simp (disch:=first|omega|simp<;>omega|fail) [-zA,-zB,-zC,-zD,-zE,zdph,zd78]) (by simp (disch:=first|omega|simp<;>omega|fail) [-zA,-zB,-zC,-zD,-zE,zdph,zd78])) ⟨hR,by simp only [zpza]; omega,by simp only [y0b]; omega⟩ (fun a ha => ?_)
 obtain ⟨k,u,s⟩:=a
 obtain ⟨r1,r2,r3⟩:=ha
 simp only at r1 r2 r3
 simp only [zdph]
 by_cases hk:0<k
 ·obtain ⟨k,rfl⟩ : ∃ k',k=k'+1:=⟨k-1,by omega⟩
  have hk':(0:Int)<((k+1:Nat):Int):=by omega
  have hp:zqck [.sl true 1 5 [.str [97],.str [98],.str [115,114,99],.str [111,117,116],.str [108,105,98]]] (tpC u)=some (.str (zzh5 u nmA),tpC (u.adv 1)):=ze0z (l:=nmA) (by omega) (by decide) (by decide)
  have b1:=zq04 u
  have b2:zhl4 .add (.str s) (.str (zzh5 u nmA))=some (.str (s++zzh5 u nmA)):=z0ff (by omega)
  have b3:zhl4 .add (.str (s++zzh5 u nmA)) (.str [47])=some (.str (s++zzh5 u nmA++[47])):=z0ff (by simp; omega)
  simp (disch:=first|omega|simp<;>omega|fail) [-zA,-zB,-zC,-zD,-zE,z0bm,zd78,zqj4,hp,b2,b3]
  exact ⟨⟨k,u.adv 1,s++zzh5 u nmA++[47]⟩,z515 (by simp (disch:=first|omega|simp<;>omega|fail) [-zA,-zB,-zC,-zD,-zE,zdph,zd78]) (by simp (disch:=first|omega|simp<;>omega|fail) [-zA,-zB,-zC,-zD,-zE,zdph,zd78]),by simp only; omega,r1,by simp only [zpza]; omega,by simp only [y08,y0a]; omega⟩
 ·obtain rfl:k=0:=by omega
  have e:R=(s,u):=r1.symm
  subst e
  have hp:zqck [.sl true 1 6 [.str [97],.str [98],.str [97,46,99],.str [98,46,104],.str [120],.str [111,117,116]]] (tpC u)=some (.str (zzh5 u nmB),tpC (u.adv 1)):=ze0z (l:=nmB) (by omega) (by decide) (by decide)
  have hfz : ∀ k,fzL 1 k (tpC (u.adv 1)) (tpC (u.adv 1)):=fun k=>znnb (zs7w _)
  have b1:=z2ex u
  have b2:zhl4 .add (.str s) (.str (zzh5 u nmB))=some (.str (s++zzh5 u nmB)):=z0ff (by omega)
  simp (disch:=first|omega|simp<;>omega|fail) [-zA,-zB,-zC,-zD,-zE,z0bm,zd78,zqj4,hp,hfz,b2]
noncomputable def zu0i:List DV→List DV→Option (DV × List DV):=conT (fun a:Tp=>a.at_<3900000000) (fun a=>[]) tpC (fun a=>(.str (zczq a),tpC (zvs1 a)))
theorem zi9c {t:Tp} (h:t.at_<3900000000):zu0i [] (tpC t)=some (.str (zczq t),tpC (zvs1 t)) :=
 ztyo (A:=fun a:Tp=>a.at_<3900000000) (f:=fun a=>[]) (s:=tpC) (fun a b _ e=>by rw [z15z e]) t h
theorem zndi:(Con.tch zu0i).Sound P 68 :=
 z0tq (fun a _=>⟨rfl,zs7w _,rfl,zs7w _⟩) fun a h=>zizi mix z695 Try.func68 z20i (zqqw a h) (y0g _)
theorem zdny {x:Ent}:bslD 33 1 [.str [],w8 0#8,w8 0#8,w8 0#8,w8 0#8,w8 0#8,w8 0#8,w8 0#8,w8 0#8,w8 0#8,w8 0#8,w8 0#8,w8 0#8,w8 0#8,w8 0#8,w8 0#8,w8 0#8,w8 0#8,w8 0#8,w8 0#8,w8 0#8,w8 0#8,w8 0#8,w8 0#8,w8 0#8,w8 0#8,w8 0#8,w8 0#8,w8 0#8,w8 0#8,w8 0#8,w8 0#8,w8 0#8] [(0,33,.agg (enC x))]=some (.sl true 33 1 (enC x)):=by
 have h1:=zuso x
 simp [bslD,zi03,zk7y,reps,h1,y0c]
theorem zdo5 {L:List Ent} {i:Nat} (hi:i<L.length):oneC 1 false ((fl enC L).drop (i*33))=some (.str L[i].path):=by
 rw [fl,zkb2 zuso,y09 hi,List.flatMap_cons]; rfl
theorem zpju {l:List Ent} {x y:Ent}:putF (l++[y]) x=putF l x++(if y.path=x.path then [] else [y]):=by
 unfold putF
 rw [y0p]
 by_cases h:y.path=x.path<;>simp [h]
def zyte (s:Sl Ent) (x:Ent) (i:Nat):St:=zbq4 (s.dv 33 enC) (.mp 0 33 0) (oV 1 33 (putF (s.l.take i) x)) (.int .i64 i) (.cells (enC x)::oT enC (putF (s.l.take i) x))
def z525 (n:Nat) (x:Ent) (a:IPg Ent):St:=z8vo (.ms 1 (n*33) 0 33 n (n*33)) (.int .i64 a.A.length) [.cells (enC x),.cells (fl enC (a.A++x::a.B))]
theorem zet6 (s:Sl Ent) (x:Ent) (hs:s.l.length≤1000):Runs tbl0 a67 [s.dv 33 enC,.agg (enC x)] ((own (putV s.l x)).dv 33 enC):=by
 refine ⟨?_⟩
 obtain ⟨N,hN⟩ : ∃ N,s.l.length=N:=⟨_,rfl⟩
 rw [hN] at hs
 simp (disch:=first|omega|simp<;>omega|fail) [-zA,-zB,-zC,-zD,-zE,a67]
 refine zlm5 (zyte s x) (fun i=>N-i) (fun i=>i≤N) 0 (z515 (by simp (disch:=first|omega|simp<;>omega|fail) [-zA,-zB,-zC,-zD,-zE,zyte,zbq4,putF,zl8p]) (by simp (disch:=first|omega|simp<;>omega|fail) [-zA,-zB,-zC,-zD,-zE,zyte,zbq4,putF,zkrk])) (by omega) (fun i hi => ?_)
 simp only [zyte]
 by_cases h:i<N
 ·have h':(i:Int)<N:=by omega
  have hg : ∀ H,zpsc H 33 (s.dv 33 enC) i=some (.ref (enC s.l[i])):=fun H=>zalo zuso (by omega)
  have hnx:putF (s.l.take (i+1)) x=putF (s.l.take i) x++(if s.l[i].path=x.path then [] else [s.l[i]]):=by rw [y01 (by omega),zpju]
  have hfl:=zk1d (s.l.take i) x
  rw [y06] at hfl
  obtain ⟨y,hy⟩ : ∃ y,s.l[i]=y:=⟨_,rfl⟩
  rw [hy] at hg hnx
  obtain ⟨F,hF⟩ : ∃ F,putF (s.l.take i) x=F:=⟨_,rfl⟩
  rw [hF] at hnx hfl ⊢
  have hap:=zte0 (f:=enC) (k:=1) (b:=48) (l:=F) (x:=y) (h:=[AObj.cells (enC x)]) rfl zuso (by decide) (by decide) (fun _=>zo6u) (by omega)
  simp only [y00,y02] at hap
  by_cases e:y.path=x.path
  ·rw [if_pos e,y07] at hnx
   simp (disch:=first|omega|simp<;>omega|fail) [-zA,-zB,-zC,-zD,-zE,zfle,zbq4,hN,h,h',hg,z5fr,e]
   exact ⟨i+1,z515 (by simp (disch:=first|omega|simp<;>omega|fail) [-zA,-zB,-zC,-zD,-zE,zyte,zbq4,hnx]) (by simp (disch:=first|omega|simp<;>omega|fail) [-zA,-zB,-zC,-zD,-zE,zyte,zbq4,hnx]),by omega,by omega⟩
  ·rw [if_neg e] at hnx
   simp (disch:=first|omega|simp<;>omega|fail) [-zA,-zB,-zC,-zD,-zE,zfle,zbq4,hN,h,h',hg,z5fr,e,z6p9,zdny,hap]
   exact ⟨i+1,z515 (by simp (disch:=first|omega|simp<;>omega|fail) [-zA,-zB,-zC,-zD,-zE,zyte,zbq4,hnx]) (by simp (disch:=first|omega|simp<;>omega|fail) [-zA,-zB,-zC,-zD,-zE,zyte,zbq4,hnx]),by omega,by omega⟩
 have h':¬ (i:Int)<N:=by omega
 rw [y03 (show s.l.length≤i by omega)]
 have hfl:=zk1d s.l x
 have hr:putV s.l x=insR pLt x (putF s.l x):=rfl
 have hrl:=z3b0 s.l x
 rw [hr] at hrl ⊢
 obtain ⟨Q,hQ⟩ : ∃ Q,putF s.l x=Q:=⟨_,rfl⟩
 rw [hQ] at hfl hrl ⊢
 have hap:=zte0 (f:=enC) (k:=1) (b:=48) (l:=Q) (x:=x) (h:=[AObj.cells (enC x)]) rfl zuso (by decide) (by decide) (fun _=>zo6u) (by omega)
 simp only [y00,y02] at hap
 obtain ⟨n,hn⟩ : ∃ n,Q.length+1=n:=⟨_,rfl⟩
 have hQn:(Q++[x]).length=n:=by rw [y08,y0a,hn]
 have eV:oV 1 33 (Q++[x]) = .ms 1 (n*33) 0 33 n (n*33):=by rw [zpni (by simp),hQn]
 have eT:oT enC (Q++[x])=[.cells (fl enC (Q++[x]))]:=zu2l (by simp)
 rw [eV,eT] at hap
 obtain ⟨G0,hG0⟩ : ∃ G,fl enC (Q++[x])=G:=⟨_,rfl⟩
 have hG0l:G0.length=n*33:=by rw [← hG0,z8lx zuso,hQn]
 rw [hG0] at hap
 have hsub:IntKind.i64.wrap ((n:Int)-1)=(Q.length:Int):=by rw [← hn]; rw [znmn (by omega) (by omega)]; omega
 have hsub':(n:Int)-1=(Q.length:Int):=by omega
 simp (disch:=first|omega|simp<;>omega|fail) [-zA,-zB,-zC,-zD,-zE,zfle,zbq4,hN,h,h',z6p9,zdny,hap,hG0l,hsub']
 refine zlm5 (z525 n x) (fun a=>a.A.length) (fun a=>a.A++a.B=Q∧z8u0 pLt x a.B) ⟨Q,[]⟩ (z515 (by simp (disch:=first|omega|simp<;>omega|fail) [-zA,-zB,-zC,-zD,-zE,z525,z8vo]) (by simp (disch:=first|omega|simp<;>omega|fail) [-zA,-zB,-zC,-zD,-zE,z525,z8vo,hG0])) ⟨by simp,fun b hb=>by simp at hb⟩ (fun a ha => ?_)
 obtain ⟨A,B⟩:=a
 obtain ⟨r1,r2⟩:=ha
 simp only at r1 r2
 simp only [z525]
 have hpu : ∀ L:List Ent,zbao (L.flatMap enC)=true:=fun L=>zp6k zt9q L
 rcases (y0t A) with rfl|⟨A',y,rfl⟩
 ·have e:insR pLt x Q=x::B:=by rw [← r1]; exact zv9v r2 (.inl rfl)
  rw [e] at hrl ⊢
  have hBn:(x::B).length=n:=by rw [← hn,← r1]; simp
  have hsn:=z29t (f:=enC) (K:=33) zuso zt9q (pre:=[AObj.cells (enC x)]) (l:=x::B) (m:=n)
  rw [hBn,y03 (y1e hBn)] at hsn
  simp only [y0a,y00,y02] at hsn
  rw [zqrs (by omega),hBn]
  generalize (x::B).flatMap enC=Z at hsn ⊢
  simp (disch:=first|omega|simp<;>omega|fail) [-zA,-zB,-zC,-zD,-zE,zmm6,z8vo,hsn]
 ·rw [y0e] at r1
  rw [y0e]
  have hAl:A'.length+1+B.length+1=n:=by rw [← hn,← r1]; simp; omega
  obtain ⟨L,hL⟩ : ∃ L,A'++[y]++x::B=L:=⟨_,rfl⟩
  have hLl:L.length=n:=by rw [← hL]; simp; omega
  obtain ⟨p,hp⟩ : ∃ p,A'.length=p:=⟨_,rfl⟩
  have g1 : ∀ h:p<L.length,L[p]=y:=fun h=>by subst hL hp; simp
  have g2 : ∀ h:p+1<L.length,L[p+1]=x:=fun h=>by subst hL hp; simp [y0f]
  have hs':=z72y (A:=A') (B:=B) (R:=[]) (x:=x) (y:=y)
  rw [y07,y07,hL,hp] at hs'
  obtain ⟨G,hG⟩ : ∃ G,fl enC L=G:=⟨_,rfl⟩
  have hGl:G.length=n*33:=by rw [← hG,z8lx zuso,hLl]
  obtain ⟨G2,hG2⟩ : ∃ G2,fl enC (L.set (p+1) y)=G2:=⟨_,rfl⟩
  have hG2l:G2.length=n*33:=by rw [← hG2,z8lx zuso,y0h,hLl]
  have o1:oneC 33 true (G.drop (p*33))=some (.agg (enC y)):=by rw [← hG,zfiy zuso (by omega),g1]
  have o2:oneC 33 true (G.drop ((p+1)*33))=some (.agg (enC x)):=by rw [← hG,zfiy zuso (by omega),g2]
  have o3:oneC 1 false (G.drop (p*33))=some (.str y.path):=by rw [← hG,zdo5 (by omega),g1]
  have o4:oneC 1 false (G.drop ((p+1)*33))=some (.str x.path):=by rw [← hG,zdo5 (by omega),g2]
  have s1 : ∀ h:List AObj,zy6o h 1 33 ((p+1)*33) (.agg (enC y)) (some G)=some (.junk,h.set 1 (.cells G2)):=fun h=>by rw [← hG,zdvi zuso (by decide) (fun _=>zo6u) (by omega),hG2]
  have s2 : ∀ h:List AObj,zy6o h 1 33 (p*33) (.agg (enC x)) (some G2)=some (.junk,h.set 1 (.cells (fl enC (A'++x::(y::B))))):=fun h=>by rw [← hG2,zdvi zuso (by decide) (fun _=>zo6u) (by rw [y0h]; omega),hs']
  have t1:((p:Int)+1).toNat=p+1:=by omega
  have t2:(A'++[y]).length=p+1:=by rw [← hp]; simp
  have q0:(0:Int)<(p:Int)+1:=by omega
  have q1:(p:Int)+1-1=p:=by omega
  have q2:(p:Int)+1<n:=by omega
  have q2n:p+1<n:=by omega
  have q3:(p:Int)<n:=by omega
  have q3n:p<n:=by omega
  have hlt : ∀ {a b:Str},zhl4 .lss (.str a) (.str b)=some (.bool (Op.bytesLess a b)):=rfl
  have hc0:pLt x y=Op.bytesLess x.path y.path:=rfl
  rw [hL,hG,t2]
  cases hc:pLt x y with
  | true =>
   rw [hc0] at hc
   simp (disch:=first|omega|simp<;>omega|fail) [-zA,-zB,-zC,-zD,-zE,zmm6,z8vo,hGl,hG2l,o1,o2,o3,o4,s1,s2,t1,q0,q1,q2,q2n,q3,q3n,hlt,hc]
   refine ⟨⟨A',y::B⟩,z515 (by simp (disch:=first|omega|simp<;>omega|fail) [-zA,-zB,-zC,-zD,-zE,z525,z8vo,hp]) (by simp (disch:=first|omega|simp<;>omega|fail) [-zA,-zB,-zC,-zD,-zE,z525,z8vo]),by simp,by simpa using r1,fun b hb => ?_⟩
   rcases y0r.1 hb with rfl|hb
   ·rw [hc0]; exact hc
   ·exact r2 b hb
  | false =>
   have e:insR pLt x Q=A'++[y]++x::B:=by rw [← r1]; exact zv9v r2 (.inr ⟨A',y,rfl,hc⟩)
   rw [hc0] at hc
   rw [e,hL]
   have hsn:=z29t (f:=enC) (K:=33) zuso zt9q (pre:=[AObj.cells (enC x)]) (l:=L) (m:=n)
   rw [hLl,y03 (y1e hLl),hG] at hsn
   simp only [y0a,y00,y02] at hsn
   rw [zqrs (by omega),hLl]
   generalize L.flatMap enC=Z at hsn ⊢
   simp (disch:=first|omega|simp<;>omega|fail) [-zA,-zB,-zC,-zD,-zE,zmm6,z8vo,hGl,o3,o4,t1,q0,q1,q2,q2n,q3,q3n,hlt,hc,hsn]
noncomputable def cPut:List DV→Option DV:=con (fun a:Sl Ent × Ent=>a.1.l.length≤1000) (fun a=>[a.1.dv 33 enC,.agg (enC a.2)]) (fun a=>(own (putV a.1.l a.2)).dv 33 enC)
theorem zx4n {s:Sl Ent} {x:Ent} (h:s.l.length≤1000):cPut [s.dv 33 enC,.agg (enC x)]=some ((own (putV s.l x)).dv 33 enC) :=
 zzno (A:=fun a:Sl Ent × Ent=>a.1.l.length≤1000) (f:=fun a=>[a.1.dv 33 enC,.agg (enC a.2)]) (g:=fun a=>(own (putV a.1.l a.2)).dv 33 enC) (by
  rintro ⟨a,b⟩ ⟨c,d⟩ e
  simp only [List.cons.injEq,DV.agg.injEq,and_true] at e
  rw [zdvs e.1,zxv7 e.2]) (s,x) h
theorem zuao:(Con.pure cPut).Sound P 67:=z2au fun a h=>zljw mix zr5o Try.func67 zy8u (zet6 a.1 a.2 h)
end
section
set_option linter.unusedSimpArgs false
set_option linter.unusedVariables false
open Go Go.Am
theorem z1lj (s:Sl Ent) (i:Nat) (hs:s.l.length≤1000) (hi:i<s.l.length):Runs tbl0 a66 [s.dv 33 enC,.int .i64 i] ((zmmk s.l i).dv 33 enC):=by
 refine ⟨?_⟩
 have hs1 : ∀ H,ziwb H 33 (s.dv 33 enC) none (some (.int .i64 i)) none=some ((s.part 0 i (i == s.l.length)).dv 33 enC):=fun H=>z0ke zuso (by simp [zo77,iD]; omega) (by omega)
 have hs2 : ∀ H,ziwb H 33 (s.dv 33 enC) (some (.int .i64 (i+1))) none none=some ((s.part (i+1) s.l.length (s.l.length == s.l.length)).dv 33 enC):=fun H=>z0ke zuso (by simp [zo77,iD]; omega) (y0g _)
 obtain ⟨Y1,hY1⟩ : ∃ Y,s.part 0 i (i == s.l.length)=Y:=⟨_,rfl⟩
 obtain ⟨Y2,hY2⟩ : ∃ Y,s.part (i+1) s.l.length (s.l.length == s.l.length)=Y:=⟨_,rfl⟩
 have hY1l:Y1.l=s.l.take i:=by rw [← hY1]; show (s.l.drop 0).take (i-0)=_; simp
 have hY2l:Y2.l=s.l.drop (i+1):=by rw [← hY2]; show (s.l.drop (i+1)).take (s.l.length-(i+1))=_; exact y03 (by simp)
 have hr:zoqy s.l i=s.l.take i++s.l.drop (i+1):=rfl
 have hrl:=zy3g s.l i
 have hTl:(s.l.take i).length=i:=by rw [y06]; omega
 have hDl:(s.l.drop (i+1)).length=s.l.length-(i+1):=y15 ..
 obtain ⟨A,hA⟩ : ∃ A,s.l.take i=A:=⟨_,rfl⟩
 obtain ⟨D,hD⟩ : ∃ D,s.l.drop (i+1)=D:=⟨_,rfl⟩
 rw [hY1] at hs1
 rw [hY2] at hs2
 rw [hA] at hY1l hr hTl
 rw [hD] at hY2l hr hDl
 have hv1 : ∀ H,visY H (Y1.dv 33 enC)=some (A.length,A.flatMap enC):=fun H=>by rw [zwaa zuso,hY1l]
 have hv2 : ∀ H,visY H (Y2.dv 33 enC)=some (D.length,D.flatMap enC):=fun H=>by rw [zwaa zuso,hY2l]
 have ap1:=znxx (f:=enC) (k:=0) (b:=48) (l:=[]) (cs:=A) (h:=[]) rfl zuso (by decide) (by decide) (fun _=>zo6u) (by simp; omega)
 have ap2:=znxx (f:=enC) (k:=0) (b:=48) (l:=A) (cs:=D) (h:=[]) rfl zuso (by decide) (by decide) (fun _=>zo6u) (by omega)
 simp only [y02,ze3w,zkrk] at ap1 ap2
 have hkn : ∀ {l:List Ent},(oW 0 33 l).known=true:=zg9v
 have hdr:(zmmk s.l i).dv 33 enC=if zoqy s.l i=[] then .sl true 33 0 [] else (own (zoqy s.l i)).dv 33 enC:=by unfold zmmk; split<;>rfl
 rw [hr] at hdr hrl
 rw [hdr]
 obtain ⟨Z,hZ⟩ : ∃ Z,A++D=Z:=⟨_,rfl⟩
 rw [hZ] at ap2 hrl ⊢
 by_cases e:Z=[]
 ·subst e
  rw [if_pos rfl]
  rw [ze3w,zkrk] at ap2
  simp (disch:=first|omega|simp<;>omega|fail) [-zA,-zB,-zC,-zD,-zE,a66,hs1,hs2,hv1,hv2,ap1,ap2,zch3,hkn]
 ·rw [if_neg e]
  have hsn:=zigm (f:=enC) (K:=33) (k:=0) (l:=Z) (h:=[]) (r:=[]) rfl zuso zt9q (by omega)
  rw [z527 e] at hsn
  simp only [y02,y07] at hsn
  rw [zpml e] at ap2
  simp (disch:=first|omega|simp<;>omega|fail) [-zA,-zB,-zC,-zD,-zE,a66,hs1,hs2,hv1,hv2,ap1,ap2,zch3,hkn,hsn]
noncomputable def cDrp:List DV→Option DV:=con (fun a:Sl Ent × Nat=>a.1.l.length≤1000∧a.2<a.1.l.length) (fun a=>[a.1.dv 33 enC,.int .i64 a.2]) (fun a=>(zmmk a.1.l a.2).dv 33 enC)
theorem z4ij {s:Sl Ent} {i:Nat} (h:s.l.length≤1000) (h2:i<s.l.length):cDrp [s.dv 33 enC,.int .i64 i]=some ((zmmk s.l i).dv 33 enC) :=
 zzno (A:=fun a:Sl Ent × Nat=>a.1.l.length≤1000∧a.2<a.1.l.length) (f:=fun a=>[a.1.dv 33 enC,.int .i64 a.2]) (g:=fun a=>(zmmk a.1.l a.2).dv 33 enC) (by
  rintro ⟨a,b⟩ ⟨c,d⟩ e
  simp only [List.cons.injEq,DV.int.injEq,true_and,and_true,y17] at e
  rw [zdvs e.1,e.2]) (s,i) ⟨h,h2⟩
theorem zb3v:(Con.pure cDrp).Sound P 66:=z2au fun a h=>zljw mix zr5o Try.func66 z3a6 (z1lj a.1 a.2 h.1 h.2)
end
section
set_option linter.unusedSimpArgs false
set_option linter.unusedVariables false
open Go Go.Am
theorem zg8c {p:Str} {d:Dg}:zvnk [.str [],w8 0#8,w8 0#8,w8 0#8,w8 0#8,w8 0#8,w8 0#8,w8 0#8,w8 0#8,w8 0#8,w8 0#8,w8 0#8,w8 0#8,w8 0#8,w8 0#8,w8 0#8,w8 0#8,w8 0#8,w8 0#8,w8 0#8,w8 0#8,w8 0#8,w8 0#8,w8 0#8,w8 0#8,w8 0#8,w8 0#8,w8 0#8,w8 0#8,w8 0#8,w8 0#8,w8 0#8,w8 0#8] [(0,1,.str p),(1,32,.agg (dgC d))]=some (.agg (enC ⟨p,d⟩)):=by
 have h1:=z1t1 d
 simp [zvnk,zi03,zk7y,enC,h1,y0c]
noncomputable def z8cb:Tbl:=addT 25 (.tch z1m3) (addT 68 (.tch zu0i) (addT 69 (.tch cSum) (addT 67 (.pure cPut) (addT 66 (.pure cDrp) tbl0))))
theorem zf42:z8cb 25 = .tch z1m3:=by simp [z8cb]
theorem z2fv:z8cb 68 = .tch zu0i:=by simp [z8cb]
theorem zgng:z8cb 69 = .tch cSum:=by simp [z8cb]
theorem z73q:z8cb 67 = .pure cPut:=by simp [z8cb]
theorem z8lo:z8cb 66 = .pure cDrp:=by simp [z8cb]
theorem zleh:z8cb.Sound P:=z0rp z51e (z0rp zndi (z0rp z8dz (z0rp zuao (z0rp zb3v zr5o))))
structure NL where
 k:Nat
 t:Tp
 s:List Ent
def z2ze (m:Nat) (a:NL):St:=z6ev (.mp 0 2 0) ((ownN a.s).dv 33 enC) (.int .i64 a.k) [.cells (tpC a.t)]
theorem zx9h:(nilS:Sl Ent).dv 33 enC = .nils:=rfl
theorem z29k (t:Tp) (m:Nat) (ht:t.at_<3800000000) (hm:m≤100):RunsF z8cb a51 [.mp 0 2 0,.int .i64 m] [.cells (tpC t)] ((ownN (zgxx t m).2).dv 33 enC) [.cells (tpC (zgxx t m).1)]:=by
 refine ⟨?_⟩
 have n1:=znaf t m
 have n2:=z3zi t m
 have hv:zgxx t m=snpL (zep5 t m) (t.adv 1,[]):=rfl
 obtain ⟨R,hR⟩ : ∃ R,snpL (zep5 t m) (t.adv 1,[])=R:=⟨_,rfl⟩
 rw [hR] at hv
 obtain ⟨N,hN⟩ : ∃ N,zep5 t m=N:=⟨_,rfl⟩
 rw [hN] at n1 n2 hR
 rw [hv]
 have hnx:z1m3 [.int .i64 ((m:Int)+1)] (tpC t)=some (.int .i64 N,tpC (t.adv 1)):=by rw [z44h (by omega) (by omega) (by omega),n1]
 simp (disch:=first|omega|simp<;>omega|fail) [-zA,-zB,-zC,-zD,-zE,a51,zf42,hnx]
 refine zlm5 (z2ze m) (fun a=>a.k) (fun a=>snpL a.k (a.t,a.s)=R∧a.t.at_+5*a.k<3810000000∧a.s.length+a.k≤100) ⟨N,t.adv 1,[]⟩ (z515 (by simp (disch:=first|omega|simp<;>omega|fail) [-zA,-zB,-zC,-zD,-zE,z2ze,z6ev,zce3,zx9h]) (by simp (disch:=first|omega|simp<;>omega|fail) [-zA,-zB,-zC,-zD,-zE,z2ze,z6ev])) ⟨hR,by simp only [zpza]; omega,by simp only [y0b]; omega⟩ (fun a ha => ?_)
 obtain ⟨k,u,s⟩:=a
 obtain ⟨r1,r2,r3⟩:=ha
 simp only at r1 r2 r3
 simp only [z2ze]
 by_cases hk:0<k
 ·obtain ⟨k,rfl⟩ : ∃ k',k=k'+1:=⟨k-1,by omega⟩
  have hk':(0:Int)<((k+1:Nat):Int):=by omega
  have k1:=zi9c (t:=u) (by omega)
  have ha:=zj8l u
  have k2:=zliq (t:=zvs1 u) (by omega)
  have hnw:(zvs1 u).adv 1=newT u:=rfl
  have hne:(⟨zczq u,sumV (zvs1 u)⟩:Ent)=newE u:=rfl
  rw [hnw] at k2
  have hsl:(ownN s).l=s:=zd8n (by omega)
  have k3:=zx4n (s:=ownN s) (x:=newE u) (by rw [hsl]; omega)
  rw [hsl,← z527 (zfin s (newE u))] at k3
  have k3:cPut [(ownN s).dv 33 enC,.agg (.str (zczq u)::dgC (sumV (zvs1 u)))]=some ((ownN (putV s (newE u))).dv 33 enC):=k3
  have hat:=ztvs u
  have hpl:=z3b0 s (newE u)
  simp (disch:=first|omega|simp<;>omega|fail) [-zA,-zB,-zC,-zD,-zE,zz44,z6ev,z2fv,k1,zgng,k2,zg8c,hne,z73q,k3,zru8]
  exact ⟨⟨k,newT u,putV s (newE u)⟩,z515 (by simp (disch:=first|omega|simp<;>omega|fail) [-zA,-zB,-zC,-zD,-zE,z2ze,z6ev]) (by simp (disch:=first|omega|simp<;>omega|fail) [-zA,-zB,-zC,-zD,-zE,z2ze,z6ev]),by simp only; omega,r1,by simp only; omega,by simp only; omega⟩
 ·obtain rfl:k=0:=by omega
  have e:R=(u,s):=r1.symm
  subst e
  have hfz : ∀ k,fzL 1 k (tpC u) (tpC u):=fun k=>znnb (zs7w _)
  have hfy : ∀ H,fz 1 H 3 ((ownN s).dv 33 enC)=some ((ownN s).dv 33 enC):=fun H=>zqge (zru8 _)
  simp (disch:=first|omega|simp<;>omega|fail) [-zA,-zB,-zC,-zD,-zE,zz44,z6ev,hfz,hfy]
noncomputable def cSnp:List DV→List DV→Option (DV × List DV):=conT (fun a:Tp × Nat=>a.1.at_<3800000000∧a.2≤100) (fun a=>[.int .i64 a.2]) (fun a=>tpC a.1) (fun a=>((ownN (zgxx a.1 a.2).2).dv 33 enC,tpC (zgxx a.1 a.2).1))
theorem zt2p {t:Tp} {m:Nat} (h:t.at_<3800000000) (hm:m≤100):cSnp [.int .i64 m] (tpC t)=some ((ownN (zgxx t m).2).dv 33 enC,tpC (zgxx t m).1) :=
 ztyo (A:=fun a:Tp × Nat=>a.1.at_<3800000000∧a.2≤100) (f:=fun a=>[.int .i64 a.2]) (s:=fun a=>tpC a.1) (by
  rintro ⟨a,n⟩ ⟨b,m⟩ e1 e2
  simp only [List.cons.injEq,DV.int.injEq,true_and,and_true,y17] at e1
  rw [e1,z15z e2]) (t,m) ⟨h,hm⟩
theorem zg3i:(Con.tch cSnp).Sound P 51 :=
 z0tq (fun a _=>⟨rfl,zs7w _,zru8 _,zs7w _⟩) fun a h=>zizi mix zleh Try.func51 z8rx (z29k a.1 a.2 h.1 h.2) (y0g _)
structure DL where
 k:Nat
 t:Tp
 s:Sl Ent
def zlkl (a:DL):St:=zzv7 (.mp 0 2 0) (a.s.dv 33 enC) (.int .i64 a.k) [.cells (tpC a.t)]
theorem z438 (t:Tp) (s0:Sl Ent) (ht:t.at_<3800000000) (hs0:s0.l.length≤800):RunsF z8cb a48 [.mp 0 2 0,s0.dv 33 enC] [.cells (tpC t)] ((z7ym t s0).2.dv 33 enC) [.cells (tpC (z7ym t s0).1)]:=by
 refine ⟨?_⟩
 have n1:tpN t 4=zp4t t:=znaf t 3
 have n2:zp4t t≤3:=z3zi t 3
 have hv:z7ym t s0=edtL (zp4t t) (t.adv 1,s0):=rfl
 obtain ⟨R,hR⟩ : ∃ R,edtL (zp4t t) (t.adv 1,s0)=R:=⟨_,rfl⟩
 rw [hR] at hv
 obtain ⟨N,hN⟩ : ∃ N,zp4t t=N:=⟨_,rfl⟩
 rw [hN] at n1 n2 hR
 rw [hv]
 simp (disch:=first|omega|simp<;>omega|fail) [-zA,-zB,-zC,-zD,-zE,a48,zf42,z44h,n1]
 refine zlm5 zlkl (fun a=>a.k) (fun a=>edtL a.k (a.t,a.s)=R∧a.t.at_+6*a.k<3810000000∧a.s.l.length+a.k≤900) ⟨N,t.adv 1,s0⟩ (z515 (by simp (disch:=first|omega|simp<;>omega|fail) [-zA,-zB,-zC,-zD,-zE,zlkl,zzv7]) (by simp (disch:=first|omega|simp<;>omega|fail) [-zA,-zB,-zC,-zD,-zE,zlkl,zzv7])) ⟨hR,by simp only [zpza]; omega,by simp only; omega⟩ (fun a ha => ?_)
 obtain ⟨k,u,s⟩:=a
 obtain ⟨r1,r2,r3⟩:=ha
 simp only at r1 r2 r3
 simp only [zlkl]
 by_cases hk:0<k
 case neg =>
  obtain rfl:k=0:=by omega
  have e:R=(u,s):=r1.symm
  subst e
  have hfz : ∀ k,fzL 1 k (tpC u) (tpC u):=fun k=>znnb (zs7w _)
  have hfy : ∀ H,fz 1 H 3 (s.dv 33 enC)=some (s.dv 33 enC):=fun H=>zqge (zru8 _)
  simp (disch:=first|omega|simp<;>omega|fail) [-zA,-zB,-zC,-zD,-zE,zlq3,zzv7,hfz,hfy]
 obtain ⟨k,rfl⟩ : ∃ k',k=k'+1:=⟨k-1,by omega⟩
 have hk':(0:Int)<((k+1:Nat):Int):=by omega
 have r1':edtL k (zvj4 (u,s))=R:=r1
 have hok:=zkr6 (a:=(u,s)) (by simp only; omega)
 simp only at hok
 have k0:z1m3 [.int .i64 3] (tpC u)=some (.int .i64 (tpN u 3),tpC (u.adv 1)):=z44h (by omega) (by omega) (by omega)
 have hlen : ∀ H,lenD H (s.dv 33 enC)=some (.int .i64 s.l.length):=fun H=>zupj
 obtain ⟨q,hq⟩ : ∃ q,tpN u 3=q:=⟨_,rfl⟩
 rw [hq] at k0
 by_cases c:q=0∧s.l≠[]
 ·obtain ⟨c1,c2⟩:=c
  subst c1
  have hl0:0<s.l.length:=y1b.2 c2
  have hl0':(0:Int)<s.l.length:=by omega
  have m1:=z4rs (u.adv 1) s.l.length
  have m2:=z2s7 (u.adv 1) (n:=s.l.length) (by omega)
  obtain ⟨J,hJ⟩ : ∃ J:Nat,tpN (u.adv 1) s.l.length=J:=⟨_,(y1c m1).symm⟩
  have k1:=z44h (t:=u.adv 1) (n:=(s.l.length:Int)) (by simp only [zpza]; omega) (by omega) (by omega)
  rw [hJ,zjmf] at k1
  have k2:=z4ij (s:=s) (i:=J) (by omega) (by omega)
  have he:zvj4 (u,s)=(u.adv 2,zmmk s.l J):=by
   unfold zvj4
   rw [if_pos ⟨hq,c2⟩]
   simp only [hJ,y12]
  rw [he] at r1' hok
  simp only [zpza] at hok
  obtain ⟨n,hn⟩ : ∃ n,s.l.length=n:=⟨_,rfl⟩
  rw [hn] at hlen hl0 hl0' k1
  simp (disch:=first|omega|simp<;>omega|fail) [-zA,-zB,-zC,-zD,-zE,zlq3,zzv7,zf42,k0,hlen,hl0,hl0',k1,z8lo,k2,zru8]
  exact ⟨⟨k,u.adv 2,zmmk s.l J⟩,z515 (by simp (disch:=first|omega|simp<;>omega|fail) [-zA,-zB,-zC,-zD,-zE,zlkl,zzv7]) (by simp (disch:=first|omega|simp<;>omega|fail) [-zA,-zB,-zC,-zD,-zE,zlkl,zzv7]),by simp only; omega,r1',by simp only [zpza]; omega,by simp only; omega⟩
 ·have he:zvj4 (u,s)=(newT (u.adv 1),own (putV s.l (newE (u.adv 1)))):=by
   unfold zvj4
   rw [if_neg (by rw [hq]; exact c)]
  rw [he] at r1' hok
  simp only at hok
  have k1:=zi9c (t:=u.adv 1) (by simp only [zpza]; omega)
  have ha:=zj8l (u.adv 1)
  have k2:=zliq (t:=zvs1 (u.adv 1)) (by simp only [zpza] at ha; omega)
  have hnw:(zvs1 (u.adv 1)).adv 1=newT (u.adv 1):=rfl
  have hne:(⟨zczq (u.adv 1),sumV (zvs1 (u.adv 1))⟩:Ent)=newE (u.adv 1):=rfl
  rw [hnw] at k2
  have k3:cPut [s.dv 33 enC,.agg (.str (zczq (u.adv 1))::dgC (sumV (zvs1 (u.adv 1))))]=some ((own (putV s.l (newE (u.adv 1)))).dv 33 enC):=zx4n (s:=s) (x:=newE (u.adv 1)) (by omega)
  by_cases c1:q=0
  ·have c2:s.l=[]:=Classical.byContradiction fun h=>c ⟨c1,h⟩
   have hl0:s.l.length=0:=by rw [c2]; rfl
   rw [hl0] at hlen
   subst c1
   simp (disch:=first|omega|simp<;>omega|fail) [-zA,-zB,-zC,-zD,-zE,zlq3,zzv7,zf42,k0,hlen,z2fv,k1,zgng,k2,zg8c,hne,z73q,k3,zru8]
   exact ⟨⟨k,newT (u.adv 1),own (putV s.l (newE (u.adv 1)))⟩,z515 (by simp (disch:=first|omega|simp<;>omega|fail) [-zA,-zB,-zC,-zD,-zE,zlkl,zzv7]) (by simp (disch:=first|omega|simp<;>omega|fail) [-zA,-zB,-zC,-zD,-zE,zlkl,zzv7]),by simp only; omega,r1',by simp only; omega,by simp only; omega⟩
  ·simp (disch:=first|omega|simp<;>omega|fail) [-zA,-zB,-zC,-zD,-zE,zlq3,zzv7,zf42,k0,c1,z2fv,k1,zgng,k2,zg8c,hne,z73q,k3,zru8]
   exact ⟨⟨k,newT (u.adv 1),own (putV s.l (newE (u.adv 1)))⟩,z515 (by simp (disch:=first|omega|simp<;>omega|fail) [-zA,-zB,-zC,-zD,-zE,zlkl,zzv7]) (by simp (disch:=first|omega|simp<;>omega|fail) [-zA,-zB,-zC,-zD,-zE,zlkl,zzv7]),by simp only; omega,r1',by simp only; omega,by simp only; omega⟩
noncomputable def cEdt:List DV→List DV→Option (DV × List DV):=conT (fun a:Tp × Sl Ent=>a.1.at_<3800000000∧a.2.l.length≤800) (fun a=>[a.2.dv 33 enC]) (fun a=>tpC a.1) (fun a=>((z7ym a.1 a.2).2.dv 33 enC,tpC (z7ym a.1 a.2).1))
theorem zref {t:Tp} {s:Sl Ent} (h:t.at_<3800000000) (hm:s.l.length≤800):cEdt [s.dv 33 enC] (tpC t)=some ((z7ym t s).2.dv 33 enC,tpC (z7ym t s).1) :=
 ztyo (A:=fun a:Tp × Sl Ent=>a.1.at_<3800000000∧a.2.l.length≤800) (f:=fun a=>[a.2.dv 33 enC]) (s:=fun a=>tpC a.1) (g:=fun a=>((z7ym a.1 a.2).2.dv 33 enC,tpC (z7ym a.1 a.2).1)) (by
  rintro ⟨a,n⟩ ⟨b,m⟩ e1 e2
  simp only [List.cons.injEq,and_true] at e1
  rw [zdvs e1,z15z e2]) (t,s) ⟨h,hm⟩
theorem zg4h:(Con.tch cEdt).Sound P 48 :=
 z0tq (fun a _=>⟨by simp [zbao,zru8],zs7w _,zru8 _,zs7w _⟩) fun a h=>zizi mix zleh Try.func48 zwi2 (z438 a.1 a.2 h.1 h.2) (y0g _)
noncomputable def z6hl:Tbl:=addT 51 (.tch cSnp) (addT 48 (.tch cEdt) tbl0)
theorem z70k:z6hl 51 = .tch cSnp:=by simp [z6hl]
theorem zhen:z6hl 48 = .tch cEdt:=by simp [z6hl]
theorem zl8g:z6hl.Sound P:=z0rp zg3i (z0rp zg4h zr5o)
theorem zc0o (t:Tp) (st:Str) (ht:t.at_<3700000000):RunsF z6hl a23 [.mp 0 2 0,.str st] [.cells (tpC t)] (.agg (lkC (zyjl t st))) [.cells (tpC (zd2t t))]:=by
 refine ⟨?_⟩
 have k1:=zt2p (t:=t) (m:=5) (by omega) (by omega)
 have h1:=zk7x t 5
 have hm:ownN (zgxx t 5).2=zxwj t:=rfl
 rw [hm] at k1
 have hl:=zr0a t
 have k2:=zref (t:=(zgxx t 5).1) (s:=zxwj t) (by omega) (by omega)
 have hT:(z7ym (zgxx t 5).1 (zxwj t)).1=zd2t t:=rfl
 rw [hT] at k2
 have hr:zyjl t st=⟨st,zxwj t,(z7ym (zgxx t 5).1 (zxwj t)).2⟩:=rfl
 rw [hr]
 obtain ⟨M,hM⟩ : ∃ M,zxwj t=M:=⟨_,rfl⟩
 rw [hM] at k1 k2 ⊢
 obtain ⟨Q,hQ⟩ : ∃ Q,(z7ym (zgxx t 5).1 M).2=Q:=⟨_,rfl⟩
 rw [hQ] at k2 ⊢
 obtain ⟨U,hU⟩ : ∃ U,(zgxx t 5).1=U:=⟨_,rfl⟩
 rw [hU] at k1 k2
 obtain ⟨V,hV⟩ : ∃ V,zd2t t=V:=⟨_,rfl⟩
 rw [hV] at k2 ⊢
 have k1':cSnp [.int .i64 5] (tpC t)=some (M.dv 33 enC,tpC U):=k1
 have hfz : ∀ k,fzL 1 k (tpC V) (tpC V):=fun k=>znnb (zs7w _)
 have hfy : ∀ H,fzLo 1 H 3 (lkC ⟨st,M,Q⟩)=some (lkC ⟨st,M,Q⟩):=fun H=>zojd (z53g _)
 simp (disch:=first|omega|simp<;>omega|fail) [-zA,-zB,-zC,-zD,-zE,a23,z70k,k1',zhen,k2,zye0,hfz,hfy]
 show (oneC 3 true (lkC ⟨st,M,Q⟩)).bind _=_
 rw [zrer]
 exact zqge (by simp [zyp8])
noncomputable def cLkT:List DV→List DV→Option (DV × List DV):=conT (fun a:Tp × Str=>a.1.at_<3700000000) (fun a=>[.str a.2]) (fun a=>tpC a.1) (fun a=>(.agg (lkC (zyjl a.1 a.2)),tpC (zd2t a.1)))
theorem zauq {t:Tp} {st:Str} (h:t.at_<3700000000):cLkT [.str st] (tpC t)=some (.agg (lkC (zyjl t st)),tpC (zd2t t)) :=
 ztyo (A:=fun a:Tp × Str=>a.1.at_<3700000000) (f:=fun a=>[.str a.2]) (s:=fun a=>tpC a.1) (g:=fun a=>(.agg (lkC (zyjl a.1 a.2)),tpC (zd2t a.1))) (by
  rintro ⟨a,n⟩ ⟨b,m⟩ e1 e2
  simp only [List.cons.injEq,DV.str.injEq,and_true] at e1
  rw [e1,z15z e2]) (t,st) h
theorem z3ot:(Con.tch cLkT).Sound P 23 :=
 z0tq (fun a _=>⟨rfl,zs7w _,by simp [zyp8],zs7w _⟩) fun a h=>zizi mix zl8g Try.func23 ztyx (zc0o a.1 a.2 h) (y0g _)
def lksS (t:Tp):Sl Lnk:=⟨some true,[(zivf t).2.1,(zivf t).2.2,(zivf t).2.1],by simp,by simp⟩
theorem zclz (t:Tp):(lksS t).dv 3 lkC = .sl true 3 3 (lkC (zivf t).2.1++(lkC (zivf t).2.2++lkC (zivf t).2.1)):=by simp [lksS,SlB.dv,slD]
theorem z8q9 (x:Sl Lnk):zyp8 (x.dv 3 lkC)=true:=zxxb z53g x
theorem zs9p {a b c:Lnk}:bslD 3 3 [.str [],.nils,.nils] [(0,3,.agg (lkC a)),(3,3,.agg (lkC b)),(6,3,.agg (lkC c))]=some (.sl true 3 3 (lkC a++(lkC b++lkC c))):=rfl
noncomputable def z6ep:Tbl:=addT 23 (.tch cLkT) (addT 48 (.tch cEdt) tbl0)
theorem ztch:z6ep 23 = .tch cLkT:=by simp [z6ep]
theorem z994:z6ep 48 = .tch cEdt:=by simp [z6ep]
theorem zp3o:z6ep.Sound P:=z0rp z3ot (z0rp zg4h zr5o)
theorem zxv9 {L:Lnk} {v:Sl Ent} {h:List AObj} {id:Nat}:zy6o h id 1 2 (v.dv 33 enC) (some (lkC L))=some (.junk,h.set id (.cells (lkC ⟨L.step,L.m,v⟩))):=by
 rw [storeO_1 (zfr8 _) (z4ja _) (by rw [z9tw]; decide)]; rfl
theorem zlwk (t:Tp) (ht:t.at_<3600000000):RunsF z6ep a20 [.mp 0 2 0] [.cells (tpC t)] ((lksS t).dv 3 lkC) [.cells (tpC (zivf t).1)]:=by
 refine ⟨?_⟩
 have k1:=zauq (t:=t) (st:=[98,117,105,108,100]) (by omega)
 obtain ⟨h1,h2,h3⟩:=zoiq t [98,117,105,108,100]
 have k2:=zref (t:=zd2t t) (s:=(zyjl t [98,117,105,108,100]).p) (by omega) (by omega)
 rw [zclz]
 simp only [zivf]
 obtain ⟨A,hA⟩ : ∃ A,zyjl t [98,117,105,108,100]=A:=⟨_,rfl⟩
 rw [hA] at k1 k2 ⊢
 obtain ⟨U,hU⟩ : ∃ U,zd2t t=U:=⟨_,rfl⟩
 rw [hU] at k1 k2 ⊢
 obtain ⟨E,hE⟩ : ∃ E,z7ym U A.p=E:=⟨_,rfl⟩
 rw [hE] at k2 ⊢
 have hfz : ∀ k,fzL 1 k (tpC E.1) (tpC E.1):=fun k=>znnb (zs7w _)
 have hp:zbao (lkC A++(lkC ⟨A.step,A.m,E.2⟩++lkC A))=true:=zg0c (z53g _) (zg0c (z53g _) (z53g _))
 have hfy : ∀ H,fzLo 1 H 3 (lkC A++(lkC ⟨A.step,A.m,E.2⟩++lkC A))=some (lkC A++(lkC ⟨A.step,A.m,E.2⟩++lkC A)):=fun H=>zojd hp
 simp (disch:=first|omega|simp<;>omega|fail) [-zA,-zB,-zC,-zD,-zE,a20,ztch,k1,z994,k2,zrer,zj40,zxv9,zs9p,hfz]
 exact hfy _
noncomputable def cLks:List DV→List DV→Option (DV × List DV):=conT (fun a:Tp=>a.at_<3600000000) (fun _=>[]) tpC (fun a=>((lksS a).dv 3 lkC,tpC (zivf a).1))
theorem z723 {t:Tp} (h:t.at_<3600000000):cLks [] (tpC t)=some ((lksS t).dv 3 lkC,tpC (zivf t).1) :=
 ztyo (A:=fun a:Tp=>a.at_<3600000000) (f:=fun _=>[]) (s:=tpC) (g:=fun a=>((lksS a).dv 3 lkC,tpC (zivf a).1)) (fun a b _ e=>by rw [z15z e]) t h
theorem zdfr:(Con.tch cLks).Sound P 20 :=
 z0tq (fun a _=>⟨rfl,zs7w _,z8q9 (lksS a),zs7w _⟩) fun a h=>zizi mix zp3o Try.func20 zfgm (zlwk a h) (y0g _)
end
end Go.Proofs.Ytjknipdiglpnlaa
