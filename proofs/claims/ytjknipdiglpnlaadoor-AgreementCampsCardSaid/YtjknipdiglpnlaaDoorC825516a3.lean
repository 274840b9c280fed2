/-
  20 texts of mine in one.
-/
import Derived.Test.YtjknipdiglpnlaaDoorC2048e248
import Derived.Test.YtjknipdiglpnlaaDoorCa4379c00
import Derived.Test.YtjknipdiglpnlaaDoorCc289a30b
import Derived.Test.YtjknipdiglpnlaaDoorC184ae2d4
set_option maxRecDepth 20000
set_option maxHeartbeats 4000000
open List renaming map_take → zA, map_drop → zB, map_set → zC, map_append → zD, drop_one → zE
set_option linter.unusedSimpArgs false
set_option linter.unusedVariables false
namespace Go.Proofs.YtjknipdiglpnlaaDoor
open Go Go.Am
noncomputable def T910:Tbl:=addT 169 (.pure z3gb) (addT 170 (.pure z11o) (addT 171 (.pure zziz) tbl0))
theorem z5oz:T910 169 = .pure z3gb:=by simp [T910]
theorem zosu:T910 170 = .pure z11o:=by simp [T910]
theorem zpbj:T910 171 = .pure zziz:=by simp [T910]
theorem zpyk:T910.Sound P:=z0rp zaw9 (z0rp zp3j (z0rp zzp6 zr5o))
def z28h (x:Att):Att:=⟨x.own,⟨x.rc.run,x.rc.scope,x.rc.step,x.rc.at_,cpS x.rc.cmd,cpS x.rc.env,cpS x.rc.m,cpS x.rc.p⟩⟩
theorem zzjk {x:Att} {h:List AObj} {id:Nat} {v:Sl Str}:zy6o h id 1 5 (v.dv 1 stC) (some (atC x))=some (.junk,h.set id (.cells (atC ⟨x.own,⟨x.rc.run,x.rc.scope,x.rc.step,x.rc.at_,v,x.rc.env,x.rc.m,x.rc.p⟩⟩))):=by rw [storeO_1 (zfr8 _) (z4ja _) (by rw [zu2q]; decide)]; rfl
theorem zx33 {x:Att} {h:List AObj} {id:Nat} {v:Sl Vrb}:zy6o h id 1 6 (v.dv 2 vaC) (some (atC x))=some (.junk,h.set id (.cells (atC ⟨x.own,⟨x.rc.run,x.rc.scope,x.rc.step,x.rc.at_,x.rc.cmd,v,x.rc.m,x.rc.p⟩⟩))):=by rw [storeO_1 (zfr8 _) (z4ja _) (by rw [zu2q]; decide)]; rfl
theorem zfk4 {x:Att} {h:List AObj} {id:Nat} {v:Sl Ent}:zy6o h id 1 7 (v.dv 33 enC) (some (atC x))=some (.junk,h.set id (.cells (atC ⟨x.own,⟨x.rc.run,x.rc.scope,x.rc.step,x.rc.at_,x.rc.cmd,x.rc.env,v,x.rc.p⟩⟩))):=by rw [storeO_1 (zfr8 _) (z4ja _) (by rw [zu2q]; decide)]; rfl
theorem zyde {x:Att} {h:List AObj} {id:Nat} {v:Sl Ent}:zy6o h id 1 8 (v.dv 33 enC) (some (atC x))=some (.junk,h.set id (.cells (atC ⟨x.own,⟨x.rc.run,x.rc.scope,x.rc.step,x.rc.at_,x.rc.cmd,x.rc.env,x.rc.m,v⟩⟩))):=by rw [storeO_1 (zfr8 _) (z4ja _) (by rw [zu2q]; decide)]; rfl
theorem zrse (x:Att):Runs T910 a148 [.agg (atC x)] (.agg (atC (z28h x))):=by
 refine ⟨?_⟩
 have h1:=zvlo (x:=x.rc.cmd)
 have h2:=z8s7 (x:=x.rc.env)
 have h3:=z4ix (x:=x.rc.m)
 have h4:=z4ix (x:=x.rc.p)
 have hr:(⟨x.own,⟨x.rc.run,x.rc.scope,x.rc.step,x.rc.at_,cpS x.rc.cmd,cpS x.rc.env,cpS x.rc.m,cpS x.rc.p⟩⟩:Att)=z28h x:=rfl
 simp (disch:=first|omega|simp<;>omega|fail) [-zA,-zB,-zC,-zD,-zE,a148,z5oz,zosu,zpbj,h1,h2,h3,h4,zzjk,zx33,zfk4,zyde,hr]
noncomputable def cCpA:List DV→Option DV:=con (fun _=>True) (fun x:Att=>[.agg (atC x)]) (fun x => .agg (atC (z28h x)))
theorem z4hf {x:Att}:cCpA [.agg (atC x)]=some (.agg (atC (z28h x))) :=
 zsn4 (f:=fun x:Att=>[.agg (atC x)]) (g:=fun x => .agg (atC (z28h x))) (fun a b e=>by simp only [List.cons.injEq,DV.agg.injEq,and_true] at e; exact zpr0 e) x
theorem z87q:(Con.pure cCpA).Sound P 148:=z2au fun a _=>zljw mix zpyk Tryd.func148 zy1q (zrse a)
def eliP (s:Spc) (x:Att):Bool:=(decide (s.cmd.l=[])||decide (s.cmd.l=x.rc.cmd.l))&&(decide (x.rc.step=s.name)&&decide (x.own ∈ s.by_.l))
def eliS (s:Spc) (l:List Att):List Att:=(l.filter (eliP s)).map z28h
theorem z9xw {s:Spc} {l:List Att} {x:Att}:eliS s (l++[x])=eliS s l++(if eliP s x then [z28h x] else []):=by
 unfold eliS
 rw [List.filter_append,List.map_append]
 cases h:eliP s x<;>simp [List.filter,h]
theorem zusn (s:Spc) (l:List Att):(eliS s l).length≤l.length:=by unfold eliS; rw [List.length_map]; exact List.length_filter_le _ _
noncomputable def T911:Tbl:=addT 82 (.pure zsph) (addT 147 (.pure cCnS) (addT 148 (.pure cCpA) tbl0))
theorem za27:T911 82 = .pure zsph:=by simp [T911]
theorem z1oe:T911 147 = .pure cCnS:=by simp [T911]
theorem zeux:T911 148 = .pure cCpA:=by simp [T911]
theorem zchj:T911.Sound P:=z0rp z0g7 (z0rp z9cy (z0rp z87q zr5o))
theorem zsdw {x:Att}:bslD 9 1 [.str [],.str [],.str [],.str [],.int .i64 0,.nils,.nils,.nils,.nils] [(0,9,.agg (atC x))]=some (.sl true 9 1 (atC x)):=by
 have h1:=zu2q x
 simp [bslD,zi03,zk7y,reps,h1,List.drop_of_length_le]
def S911 (s:Spc) (l:Sl Att) (i:Nat):St:=zq5h (.mp 0 7 0) (oV 1 9 (eliS s (l.l.take i))) (l.dv 9 atC) (.int .i64 l.l.length) (.int .i64 i) (.cells (spC s)::oT atC (eliS s (l.l.take i)))
def EliT:ACode:=match zjvt with
 | .seq _ (.seq _ (.seq (.block _ (.seq _ (.seq _ y))) _))=>y
 | _ => .skip
theorem zu1r (x:Sl Att):zyp8 (x.dv 9 atC)=true:=zxxb z83l x
theorem z965 {x y:Sl Att} (e:x.dv 9 atC=y.dv 9 atC):x=y:=zcq7 zu2q (by decide) (fun _ _=>zpr0) e
def EliR:ACode:=match zjvt with
 | .seq _ (.seq _ (.seq _ y))=>y
 | _ => .skip
theorem zqv2 {s:Spc} {l:Sl Att} {i:Nat} {L:List Att} {x:Att} {cm:Bool} (hb:l.l.length≤4294967296) (h:i<l.l.length) (hlen:L.length≤i) (hs:eliS s (l.l.take (i+1))=L++(if eliP s x then [z28h x] else []))
  (hc:(decide (s.cmd.l=[])||decide (s.cmd.l=x.rc.cmd.l))=cm) {Φ0:AExit→St→Prop} :
  V P 0 EliT (z0mx 1 (z2pk P 0 EliR (z13e 0 (S911 s l) (fun i=>l.l.length-i) (fun i=>i≤l.l.length) i Φ0)))
   ⟨[.junk,.junk,.mp 0 7 0,.junk,.junk,oV 1 9 L,.junk,.ref (atC x),.bool cm,l.dv 9 atC,.int .i64 l.l.length,.int .i64 i]++js 38,.cells (spC s)::oT atC L⟩:=by
 have hap:=zte0 (k:=1) (b:=168) (l:=L) (x:=z28h x) (h:=[AObj.cells (spC s)]) rfl zu2q (by decide) (by decide) (fun _=>zwh8) (by omega)
 simp only [List.cons_append,List.nil_append] at hap
 have hv : ∀ H,visY H (.sl true 9 1 (atC (z28h x)))=some (1,atC (z28h x)):=fun H=>by simp [visY]
 have k2:=z061 (x:=s.by_) (v:=x.own)
 have k3:=z4hf (x:=x)
 have fin : ∀ (b:Bool) (L':List Att),eliP s x=b→L'=L++(if b then [z28h x] else [])→V P 0 EliR (z13e 0 (S911 s l) (fun i=>l.l.length-i) (fun i=>i≤l.l.length) i Φ0) ⟨[.junk,.junk,.mp 0 7 0,.junk,.junk,oV 1 9 L',.junk,.junk,.junk,l.dv 9 atC,.int .i64 l.l.length,.int .i64 i]++js 38,.cells (spC s)::oT atC L'⟩:=fun b L' hb hL=>by
  rw [hb,← hL] at hs
  simp only [EliR,zjvt]
  refine V_W mix zchj ?_
  simp (disch:=first|omega|simp<;>omega|fail) [-zA,-zB,-zC,-zD,-zE]
  exact ⟨i+1,z515 (by simp (disch:=first|omega|simp<;>omega|fail) [-zA,-zB,-zC,-zD,-zE,S911,zq5h,hs]) (by simp (disch:=first|omega|simp<;>omega|fail) [-zA,-zB,-zC,-zD,-zE,S911,zq5h,hs]),by omega,by omega⟩
 simp only [EliT,zjvt]
 refine zbn1 (V_W mix zchj ?_)
 cases cm with
 | false =>
  have hb:eliP s x=false:=by unfold eliP; rw [hc]; rfl
  simp (disch:=first|omega|simp<;>omega|fail) [-zA,-zB,-zC,-zD,-zE]
  refine V_W mix zchj ?_
  simp (disch:=first|omega|simp<;>omega|fail) [-zA,-zB,-zC,-zD,-zE]
  exact zqfd (z515 (by simp (disch:=first|omega|simp<;>omega|fail) [-zA,-zB,-zC,-zD,-zE]) (by simp (disch:=first|omega|simp<;>omega|fail) [-zA,-zB,-zC,-zD,-zE])) (fin false L hb (by simp))
 | true =>
  by_cases e1:x.rc.step=s.name
  ·by_cases e2:x.own ∈ s.by_.l
   ·have hb:eliP s x=true:=by unfold eliP; rw [hc]; simp [e1,e2]
    simp (disch:=first|omega|simp<;>omega|fail) [-zA,-zB,-zC,-zD,-zE,e1,z1oe,k2,e2]
    refine V_W mix zchj ?_
    simp (disch:=first|omega|simp<;>omega|fail) [-zA,-zB,-zC,-zD,-zE,zeux,k3,zsdw,hv,hap]
    exact zqfd (z515 (by simp (disch:=first|omega|simp<;>omega|fail) [-zA,-zB,-zC,-zD,-zE]) (by simp (disch:=first|omega|simp<;>omega|fail) [-zA,-zB,-zC,-zD,-zE])) (fin true (L++[z28h x]) hb (by simp))
   ·have hb:eliP s x=false:=by unfold eliP; rw [hc]; simp [e1,e2]
    simp (disch:=first|omega|simp<;>omega|fail) [-zA,-zB,-zC,-zD,-zE,e1,z1oe,k2,e2]
    refine V_W mix zchj ?_
    simp (disch:=first|omega|simp<;>omega|fail) [-zA,-zB,-zC,-zD,-zE]
    exact zqfd (z515 (by simp (disch:=first|omega|simp<;>omega|fail) [-zA,-zB,-zC,-zD,-zE]) (by simp (disch:=first|omega|simp<;>omega|fail) [-zA,-zB,-zC,-zD,-zE])) (fin false L hb (by simp))
  ·have hb:eliP s x=false:=by unfold eliP; rw [hc]; simp [e1]
   simp (disch:=first|omega|simp<;>omega|fail) [-zA,-zB,-zC,-zD,-zE,e1]
   refine V_W mix zchj ?_
   simp (disch:=first|omega|simp<;>omega|fail) [-zA,-zB,-zC,-zD,-zE]
   exact zqfd (z515 (by simp (disch:=first|omega|simp<;>omega|fail) [-zA,-zB,-zC,-zD,-zE]) (by simp (disch:=first|omega|simp<;>omega|fail) [-zA,-zB,-zC,-zD,-zE])) (fin false L hb (by simp))
theorem z1e9 (s:Spc) (l:Sl Att):V P 0 a99.code (retK a99.res ((ownN (eliS s l.l)).dv 9 atC)) ⟨zr5g a99.ntmps [.agg (spC s),l.dv 9 atC],[]⟩:=by
 have hb:=l.b
 refine zbn1 (V_W mix zchj ?_)
 simp (disch:=first|omega|simp<;>omega|fail) [-zA,-zB,-zC,-zD,-zE,a99]
 refine zbn1 (V_W mix zchj ?_)
 simp (disch:=first|omega|simp<;>omega|fail) [-zA,-zB,-zC,-zD,-zE]
 refine zbn1 (zbn1 (V_W mix zchj ?_))
 simp (disch:=first|omega|simp<;>omega|fail) [-zA,-zB,-zC,-zD,-zE]
 refine z3mo (ztbr (S911 s l) (fun i=>l.l.length-i) (fun i=>i≤l.l.length) 0 (z515 (by simp (disch:=first|omega|simp<;>omega|fail) [-zA,-zB,-zC,-zD,-zE,S911,zq5h,eliS,zl8p]) (by simp (disch:=first|omega|simp<;>omega|fail) [-zA,-zB,-zC,-zD,-zE,S911,zq5h,eliS,zkrk])) (by omega) (fun i hi => ?_))
 simp only [S911]
 refine zbn1 (V_W mix zchj ?_)
 by_cases h:i<l.l.length
 case neg =>
  have h':¬ (i:Int)<l.l.length:=by omega
  rw [List.take_of_length_le (show l.l.length≤i by omega)]
  have hl:=zusn s l.l
  have hsn:=zigm (k:=1) (l:=eliS s l.l) (h:=[AObj.cells (spC s)]) (r:=[]) rfl zu2q z83l (by omega)
  rw [List.append_nil] at hsn
  simp only [List.cons_append,List.nil_append] at hsn
  simp (disch:=first|omega|simp<;>omega|fail) [-zA,-zB,-zC,-zD,-zE,zjvt,zq5h,h,h']
  refine zbn1 (V_W mix zchj ?_)
  simp (disch:=first|omega|simp<;>omega|fail) [-zA,-zB,-zC,-zD,-zE,h,h']
  refine V_W mix zchj ?_
  simp (disch:=first|omega|simp<;>omega|fail) [-zA,-zB,-zC,-zD,-zE,hsn]
 have h':(i:Int)<l.l.length:=by omega
 have hg : ∀ H,zpsc H 9 (l.dv 9 atC) i=some (.ref (atC l.l[i])):=fun H=>zalo zu2q h
 obtain ⟨x,hx⟩ : ∃ x,l.l[i]=x:=⟨_,rfl⟩
 have hs:=z9xw (s:=s) (l:=l.l.take i) (x:=x)
 rw [← hx,← List.take_succ_eq_append_getElem h,hx] at hs
 rw [hx] at hg
 have hlen:(eliS s (l.l.take i)).length≤i:=by have:=zusn s (l.l.take i); rw [List.length_take] at this; omega
 obtain ⟨L,hL⟩ : ∃ L,eliS s (l.l.take i)=L:=⟨_,rfl⟩
 rw [hL] at hs hlen ⊢
 have hTb : ∀ n,zlf2 n (oT atC L)=true:=fun n=>zd81 z83l
 have hVb:Am.below (1+(oT atC L).length) (oV 1 9 L)=true:=zv6o
 have hVb':Am.below ((oT atC L).length+1) (oV 1 9 L)=true:=by rw [Nat.add_comm]; exact hVb
 have k1:=zxfs (x:=s.cmd) (y:=x.rc.cmd)
 simp (disch:=first|omega|simp<;>omega|fail) [-zA,-zB,-zC,-zD,-zE,zjvt,zq5h,h,h']
 refine zbn1 (V_W mix zchj ?_)
 simp (disch:=first|omega|simp<;>omega|fail) [-zA,-zB,-zC,-zD,-zE,h,h']
 refine zbn1 (z3mo (zbn1 (V_W mix zchj ?_)))
 simp (disch:=first|omega|simp<;>omega|fail) [-zA,-zB,-zC,-zD,-zE,hg]
 refine zs10 (H := .cells (spC s)::oT atC L) (cs:=atC x) (t':=[.junk,.junk,.mp 0 7 0,.junk,.junk,oV 1 9 L,.junk,.ref (atC x),.junk,l.dv 9 atC,.int .i64 l.l.length,.int .i64 i]++js 38) (by simp (disch:=first|omega|simp<;>omega|fail) [-zA,-zB,-zC,-zD,-zE,zlf2,hTb]) (by simp) ?_ (by simp (disch:=first|omega|simp<;>omega|fail) [-zA,-zB,-zC,-zD,-zE,z1r6,Am.below,hVb',z8b8 _ _ (zu1r l)]) ?_
 ·have e1:=zz5t (H := .cells (spC s)::oT atC L) (cs:=atC x) (off:=0) (z83l x)
  have e2 : ∀ h,mk1 (kLt ((AObj.cells (spC s)::oT atC L).length)) h (oV 1 9 L)=oV 1 9 L:=fun h=>zd3c (by rw [List.length_cons]; exact hVb')
  have e3 : ∀ h,mk1 (kLt ((AObj.cells (spC s)::oT atC L).length)) h (.mp 0 7 0) = .mp 0 7 0:=fun h=>zd3c (by simp [Am.below])
  have e4 : ∀ K h,mk1 K h (l.dv 9 atC)=l.dv 9 atC:=fun K h=>zvft (zu1r l)
  simp only [List.cons_append,List.length_cons,zu2q,List.drop_zero] at e1 e2 e3
  simp (disch:=first|omega|simp<;>omega|fail) [-zA,-zB,-zC,-zD,-zE,e1,e2,e3,e4]
 have main:=fun cm (hc:(decide (s.cmd.l=[])||decide (s.cmd.l=x.rc.cmd.l))=cm) Φ0=>zqv2 (Φ0:=Φ0) hb h (by omega) hs hc
 refine zbn1 (V_W mix zchj ?_)
 by_cases e0:s.cmd.l=[]
 ·have e0':s.cmd.l.length=0:=by rw [e0]; rfl
  simp (disch:=first|omega|simp<;>omega|fail) [-zA,-zB,-zC,-zD,-zE,e0,e0']
  exact zqfd (z515 (by simp (disch:=first|omega|simp<;>omega|fail) [-zA,-zB,-zC,-zD,-zE]) (by simp (disch:=first|omega|simp<;>omega|fail) [-zA,-zB,-zC,-zD,-zE])) (main true (by simp [e0]) _)
 ·have e0':¬ s.cmd.l.length=0:=fun q=>e0 (List.eq_nil_of_length_eq_zero q)
  have e0'':¬ (s.cmd.l.length:Int)=0:=by omega
  by_cases e1:s.cmd.l=x.rc.cmd.l
  ·have k1:zsph [s.cmd.dv 1 stC,x.rc.cmd.dv 1 stC]=some (.bool true):=by rw [k1,decide_eq_true e1]
   simp (disch:=first|omega|simp<;>omega|fail) [-zA,-zB,-zC,-zD,-zE,e0',e0'',za27,k1]
   exact zqfd (z515 (by simp (disch:=first|omega|simp<;>omega|fail) [-zA,-zB,-zC,-zD,-zE]) (by simp (disch:=first|omega|simp<;>omega|fail) [-zA,-zB,-zC,-zD,-zE])) (main true (by simp [e1]) _)
  ·have k1:zsph [s.cmd.dv 1 stC,x.rc.cmd.dv 1 stC]=some (.bool false):=by rw [k1,decide_eq_false e1]
   simp (disch:=first|omega|simp<;>omega|fail) [-zA,-zB,-zC,-zD,-zE,e0',e0'',za27,k1]
   exact zqfd (z515 (by simp (disch:=first|omega|simp<;>omega|fail) [-zA,-zB,-zC,-zD,-zE]) (by simp (disch:=first|omega|simp<;>omega|fail) [-zA,-zB,-zC,-zD,-zE])) (main false (by simp [e0,e1]) _)
noncomputable def cEli:List DV→Option DV:=con (fun _=>True) (fun a:Spc × Sl Att=>[.agg (spC a.1),a.2.dv 9 atC]) (fun a=>(ownN (eliS a.1 a.2.l)).dv 9 atC)
theorem zbwi {s:Spc} {l:Sl Att}:cEli [.agg (spC s),l.dv 9 atC]=some ((ownN (eliS s l.l)).dv 9 atC) :=
 zsn4 (f:=fun a:Spc × Sl Att=>[.agg (spC a.1),a.2.dv 9 atC]) (g:=fun a=>(ownN (eliS a.1 a.2.l)).dv 9 atC) (by
  rintro ⟨a,b⟩ ⟨c,d⟩ e
  simp only [List.cons.injEq,DV.agg.injEq,and_true] at e
  rw [z1d3 e.1,z965 e.2]) (s,l)
theorem zxn6:(Con.pure cEli).Sound P 99:=z2au fun a _=>znz9 Tryd.func99 zcou (z1e9 a.1 a.2)
end Go.Proofs.YtjknipdiglpnlaaDoor
set_option linter.unusedSimpArgs false
set_option linter.unusedVariables false
namespace Go.Proofs.YtjknipdiglpnlaaDoor
open Go Go.Am
structure SF where
 k:Nat
 s:Vot→Vot→Bool
 c:List DV→Option DV
 e : ∀ a b,c [.agg (voC a),.agg (voC b)]=some (.bool (s a b))
 h:(Con.pure c).Sound P k
def SF.dv (F:SF):DV := .fn (.func F.k) [] []
def gC (g:Sl Vot):List DV:=[g.dv 4 voC]
theorem zfnv (g:Sl Vot):(gC g).length=1:=rfl
theorem znfs (x:Sl Vot):zyp8 (x.dv 4 voC)=true:=zxxb zc6g x
theorem zlw9 (g:Sl Vot):zbao (gC g)=true:=by simp [gC,zbao,znfs]
theorem z22s {x y:Sl Vot} (e:x.dv 4 voC=y.dv 4 voC):x=y:=zcq7 zu4u (by decide) (fun _ _=>zkbi) e
theorem zuif {a b:Sl Vot} (e:gC a=gC b):a=b:=by simp only [gC,List.cons.injEq,and_true] at e; exact z22s e
theorem zcsv (x:Sl (Sl Vot)):zyp8 (x.dv 1 gC)=true:=zxxb zlw9 x
theorem zhfr {x y:Sl (Sl Vot)} (e:x.dv 1 gC=y.dv 1 gC):x=y:=zcq7 zfnv (by decide) (fun _ _=>zuif) e
def hdS (F:SF) (v:Vot) (g:Sl Vot):Bool:=match g.l with
 | []=>false
 | y::_=>F.s y v
noncomputable def TF (F:SF):Tbl:=addT F.k (.pure F.c) tbl0
theorem TF_k (F:SF):TF F F.k = .pure F.c:=by simp [TF]
theorem zej6 (F:SF):(TF F).Sound P:=z0rp F.h zr5o
theorem zffv (F:SF) (g:Sl Vot) (v:Vot) (hg:g.l≠[]):Runs (TF F) a98 [g.dv 4 voC,.ref [F.dv],.ref (voC v)] (.bool (hdS F v g)):=by
 refine ⟨?_⟩
 cases e:g.l with
 | nil=>exact absurd e hg
 | cons y r =>
  have hi : ∀ H,zpsc H 4 (g.dv 4 voC) 0=some (.ref (voC y)):=fun H=>by
   have:=zalo (h:=H) (x:=g) (i:=0) zu4u (by rw [e]; simp)
   rw [show ((0:Nat):Int)=0 from rfl] at this
   rw [this]; simp [e]
  have h2:=F.e y v
  have hr:hdS F v g=F.s y v:=by unfold hdS; rw [e]
  simp (disch:=first|omega|simp<;>omega|fail) [-zA,-zB,-zC,-zD,-zE,a98,SF.dv,hi,TF_k,h2,hr]
noncomputable def cGcl (F:SF):List DV→Option DV:=con (fun a:Sl Vot × Vot=>a.1.l≠[]) (fun a=>[a.1.dv 4 voC,.ref [F.dv],.ref (voC a.2)]) (fun a => .bool (hdS F a.2 a.1))
theorem z97w {F:SF} {g:Sl Vot} {v:Vot} (h:g.l≠[]):cGcl F [g.dv 4 voC,.ref [F.dv],.ref (voC v)]=some (.bool (hdS F v g)) :=
 zzno (A:=fun a:Sl Vot × Vot=>a.1.l≠[]) (f:=fun a:Sl Vot × Vot=>[a.1.dv 4 voC,.ref [F.dv],.ref (voC a.2)]) (g:=fun a => .bool (hdS F a.2 a.1)) (by
  rintro ⟨a,b⟩ ⟨c,d⟩ e
  simp only [List.cons.injEq,DV.ref.injEq,and_true,true_and] at e
  rw [z22s e.1,zkbi e.2]) (g,v) h
theorem z8xh (F:SF):(Con.pure (cGcl F)).Sound P 98:=z2au fun a h=>zljw mix (zej6 F) Tryd.func98 zg8b (zffv F a.1 a.2 h)
noncomputable def T920 (F:SF):Tbl:=addT 98 (.pure (cGcl F)) tbl0
theorem zp4d (F:SF):T920 F 98 = .pure (cGcl F):=by simp [T920]
theorem zpm6 (F:SF):(T920 F).Sound P:=z0rp (z8xh F) zr5o
def gfn (F:SF) (v:Vot):DV := .fn (.func 98) [] [.ref [F.dv],.ref (voC v)]
def S920 (F:SF) (x:Sl (Sl Vot)) (v:Vot) (i:Nat):St:=zjwp (x.dv 1 gC) (gfn F v) (.int .i64 x.l.length) (.int .i64 i) []
theorem zes7 (F:SF) (x:Sl (Sl Vot)) (v:Vot) (hx : ∀ g ∈ x.l,g.l≠[]):Runs (T920 F) a97 [x.dv 1 gC,gfn F v] (.int .i64 (fIx (hdS F v) x.l)):=by
 refine ⟨?_⟩
 have hb:=x.b
 have hpF:zbao [F.dv]=true:=by simp [SF.dv,zbao,zyp8]
 simp (disch:=first|omega|simp<;>omega|fail) [-zA,-zB,-zC,-zD,-zE,a97]
 refine zlm5 (S920 F x v) (fun i=>x.l.length-i) (fun i=>i≤x.l.length ∧ ∀ j (h:j<x.l.length),j<i→hdS F v x.l[j]=false) 0 (z515 (by simp (disch:=first|omega|simp<;>omega|fail) [-zA,-zB,-zC,-zD,-zE,S920,zjwp]) (by simp (disch:=first|omega|simp<;>omega|fail) [-zA,-zB,-zC,-zD,-zE,S920,zjwp])) ⟨by omega,fun j _ hj=>by omega⟩ (fun i hi => ?_)
 obtain ⟨q1,q2⟩:=hi
 simp only [S920]
 by_cases g:i<x.l.length
 ·have g':(i:Int)<x.l.length:=by omega
  have hy : ∀ H,zpsc H 1 (x.dv 1 gC) i=some (.ref (gC x.l[i])):=fun H=>zalo zfnv g
  have hc:=z97w (F:=F) (v:=v) (hx x.l[i] (List.getElem_mem g))
  have hinv:hdS F v x.l[i]=false → ∀ j (h:j<x.l.length),j<i+1→hdS F v x.l[j]=false:=fun e j hj hji=>by
   by_cases ej:j=i
   ·subst ej; exact e
   ·exact q2 j hj (by omega)
  have hr:hdS F v x.l[i]=true→fIx (hdS F v) x.l=i:=fun e=>z67l g e q2
  obtain ⟨u,hu⟩ : ∃ u,x.l[i]=u:=⟨_,rfl⟩
  rw [hu] at hy hc hinv hr
  cases e:hdS F v u with
  | true =>
   have hr:=hr e
   rw [e] at hc
   simp (disch:=first|omega|simp<;>omega|fail) [-zA,-zB,-zC,-zD,-zE,zkbn,zjwp,g,g',hy,gC,gfn,zp4d,hc,hr,hpF,znfs]
  | false =>
   have hinv:=hinv e
   rw [e] at hc
   simp (disch:=first|omega|simp<;>omega|fail) [-zA,-zB,-zC,-zD,-zE,zkbn,zjwp,g,g',hy,gC,gfn,zp4d,hc,hpF,znfs]
   exact ⟨i+1,z515 (by simp (disch:=first|omega|simp<;>omega|fail) [-zA,-zB,-zC,-zD,-zE,S920,zjwp,gfn]) (by simp (disch:=first|omega|simp<;>omega|fail) [-zA,-zB,-zC,-zD,-zE,S920,zjwp]),by omega,by omega,fun j h hj=>by simpa using hinv j h hj⟩
 ·have g':¬ (i:Int)<x.l.length:=by omega
  have hr:fIx (hdS F v) x.l = -1:=zf0r fun a ha=>by
   obtain ⟨j,hj,e⟩:=List.getElem_of_mem ha
   have:=q2 j hj (by omega)
   rw [e] at this; exact this
  simp (disch:=first|omega|simp<;>omega|fail) [-zA,-zB,-zC,-zD,-zE,zkbn,zjwp,g,g',hr]
noncomputable def cGix (F:SF):List DV→Option DV:=con (fun a:Sl (Sl Vot) × Vot => ∀ g ∈ a.1.l,g.l≠[]) (fun a=>[a.1.dv 1 gC,gfn F a.2]) (fun a => .int .i64 (fIx (hdS F a.2) a.1.l))
theorem z7rj {F:SF} {x:Sl (Sl Vot)} {v:Vot} (h : ∀ g ∈ x.l,g.l≠[]):cGix F [x.dv 1 gC,gfn F v]=some (.int .i64 (fIx (hdS F v) x.l)) :=
 zzno (A:=fun a:Sl (Sl Vot) × Vot => ∀ g ∈ a.1.l,g.l≠[]) (f:=fun a:Sl (Sl Vot) × Vot=>[a.1.dv 1 gC,gfn F a.2]) (g:=fun a => .int .i64 (fIx (hdS F a.2) a.1.l)) (by
  rintro ⟨a,b⟩ ⟨c,d⟩ e
  simp only [List.cons.injEq,gfn,DV.fn.injEq,DV.ref.injEq,and_true,true_and] at e
  rw [zhfr e.1,zkbi e.2]) (x,v) h
theorem zfcd (F:SF):(Con.pure (cGix F)).Sound P 97:=z2au fun a h=>zljw mix (zpm6 F) Tryd.func97 z0a8 (zes7 F a.1 a.2 h)
end Go.Proofs.YtjknipdiglpnlaaDoor
set_option linter.unusedSimpArgs false
set_option linter.unusedVariables false
namespace Go.Proofs.YtjknipdiglpnlaaDoor
open Go Go.Am
def gSl (g:List Vot):Sl Vot:=if h:g.length=1 then ⟨some true,g,by simp,by omega⟩ else own g
theorem z0ey {g:List Vot} (h:g.length≤4294967296):(gSl g).l=g:=by
 unfold gSl; split
 ·rfl
 ·exact z3e9 h
theorem zyex {v:Vot}:(gSl [v]).dv 4 voC = .sl true 4 1 (voC v):=by
 simp [gSl,Sl.dv,slD]
theorem zio8 {g:List Vot} (h:2≤g.length) (hb:g.length≤4294967296):(gSl g).dv 4 voC = .sl false 4 g.length (g.flatMap voC):=by
 have:gSl g=own g:=by unfold gSl; rw [dif_neg (by omega)]
 rw [this,zqrs hb]
def grpD (gs:List (List Vot)):Sl (Sl Vot):=ownN (gs.map gSl)
theorem zm38 {gs:List (List Vot)} (h:gs.length≤4294967296):(grpD gs).l=gs.map gSl:=zd8n (by rw [List.length_map]; exact h)
def hdP (F:SF) (v:Vot) (g:List Vot):Bool:=match g with
 | []=>false
 | y::_=>F.s y v
theorem zdzg {F:SF} {v:Vot} {g:List Vot} (h:g.length≤4294967296):hdS F v (gSl g)=hdP F v g:=by unfold hdS hdP; rw [z0ey h]; try (cases g<;>rfl)
theorem za5h {F:SF} {x:Vot} : ∀ {out:List (List Vot)} {k:Nat} (hk:k<out.length),hdP F x out[k]=true→(∀ j (h:j<out.length),j<k→hdP F x out[j]=false)→addG F.s out x=out.set k (out[k]++[x])
 | g::r,0,_,h,_=>by
  simp only [List.getElem_cons_zero] at h
  unfold hdP at h
  simp only [addG,List.getElem_cons_zero,List.set_cons_zero]
  rw [if_pos (by cases g with
   | nil=>simp at h
   | cons y r=>exact h)]
 | g::r,k+1,hk,h,h2=>by
  have h0:hdP F x g=false:=h2 0 (by simp) (by omega)
  have ih:=za5h (F:=F) (x:=x) (out:=r) (k:=k) (by simpa using hk) (by simpa using h) fun j hj hjk=>by
   have:=h2 (j+1) (by simpa using hj) (by omega)
   simpa using this
  unfold hdP at h0
  simp only [addG,List.getElem_cons_succ,List.set_cons_succ]
  rw [if_neg (by cases g with
   | nil=>simp
   | cons y r=>simp [h0]),ih]
theorem zmh5 {F:SF} {x:Vot} : ∀ {out:List (List Vot)},(∀ g ∈ out,hdP F x g=false)→addG F.s out x=out++[[x]]
 | [],_=>rfl
 | g::r,h=>by
  have h0:=h g (by simp)
  have ih:=zmh5 (F:=F) (x:=x) (out:=r) fun g hg=>h g (by simp [hg])
  unfold hdP at h0
  simp only [addG]
  rw [if_neg (by cases g with
   | nil=>simp
   | cons y r=>simp [h0]),ih]; rfl
theorem ziua {s:Vot→Vot→Bool} (l:List Vot):(∀ g ∈ grpG s l,g≠[]∧g.length≤l.length)∧(grpG s l).length≤l.length:=by
 induction l using z77f with
 | h0=>exact ⟨fun g hg=>by simp [grpG] at hg,by simp [grpG]⟩
 | h1 l x ih =>
  have aux : ∀ out:List (List Vot),(∀ g ∈ out,g≠[]∧g.length≤l.length)→(∀ g ∈ addG s out x,g≠[]∧g.length≤(l++[x]).length)∧(addG s out x).length≤out.length+1:=by
   intro out
   induction out with
   | nil=>intro _; exact ⟨fun g hg=>by simp [addG] at hg; subst hg; simp,by simp [addG]⟩
   | cons a out io =>
    intro h
    obtain ⟨j1,j2⟩:=io fun g hg=>h g (by simp [hg])
    have ha:=h a (by simp)
    cases a with
    | nil=>exact absurd rfl ha.1
    | cons y t =>
    simp only [addG]
    split
    ·refine ⟨fun g hg => ?_,by simp⟩
     rcases List.mem_cons.1 hg with rfl|hg
     ·exact ⟨by simp,by rw [List.length_append,List.length_append]; exact Nat.add_le_add_right ha.2 _⟩
     ·have:=h g (by simp [hg]); exact ⟨this.1,by rw [List.length_append]; omega⟩
    ·refine ⟨fun g hg => ?_,by simp only [List.length_cons]; omega⟩
     rcases List.mem_cons.1 hg with rfl|hg
     ·exact ⟨ha.1,by rw [List.length_append]; omega⟩
     ·exact j1 g hg
  obtain ⟨k1,k2⟩:=aux _ ih.1
  rw [zd8q]
  exact ⟨k1,by rw [List.length_append,List.length_singleton]; omega⟩
abbrev Slt:=Option Nat × List Vot
def cel (c:Slt):DV:=match c.1 with
 | none => .sl true 4 1 (c.2.flatMap voC)
 | some j => .ms (2+j) (c.2.length*4) 0 4 c.2.length (c.2.length*4)
def cC (c:Slt):List DV:=[cel c]
theorem z8cu (c:Slt):(cC c).length=1:=rfl
theorem zhlf {c:Slt}:(cC c).all DV.one=true:=by
 obtain ⟨k,g⟩:=c
 cases k<;>rfl
def oG (g:List Vot):AObj := .cells (fl voC g)
def gR (sl:List Slt) (objs:List (List Vot)):List AObj:=oT cC sl++objs.map oG
structure GI (F:SF) (V:List Vot) (sl:List Slt) (objs:List (List Vot)):Prop where
 gs:sl.map (·.2)=grpG F.s V
 one : ∀ c ∈ sl,c.1=none→c.2.length=1
 big : ∀ k (h:k<sl.length) j,sl[k].1=some j→objs[j]? = some sl[k].2∧2≤sl[k].2.length
 inj : ∀ k k' (h:k<sl.length) (h':k'<sl.length) j,sl[k].1=some j→sl[k'].1=some j→k=k'
 nil:sl=[]→objs=[]
theorem zz2q {sl:List Slt} {objs:List (List Vot)} (h:sl≠[]):(gR sl objs).length=1+objs.length:=by rw [gR,zu2l h]; simp; omega
theorem zw5k (sl:List Slt):fl cC sl=sl.map cel:=by
 unfold fl
 induction sl with
 | nil=>rfl
 | cons c r ih=>rw [List.flatMap_cons,ih]; rfl
theorem z01d {a b:AObj} {objs:List (List Vot)} {j:Nat} {g:List Vot} (h:objs[j]? = some g) {r:List AObj}:objV (a::b::(objs.map oG++r)) (2+j) (g.length*4)=some (fl voC g):=by
 have hj:=(List.getElem?_eq_some_iff.1 h).1
 unfold objV ziu0
 rw [show 2+j=j+1+1 by omega,List.getElem?_cons_succ,List.getElem?_cons_succ,List.getElem?_append_left (by simpa using hj),List.getElem?_map,h]
 simp [oG,z8lx zu4u]
theorem GI.gr_below {F:SF} {V:List Vot} {sl:List Slt} {objs:List (List Vot)} (g:GI F V sl objs):zlf2 ((gR sl objs).length+1) (gR sl objs)=true:=by
 by_cases e:sl=[]
 ·have:=g.nil e; subst e; subst this; rfl
 ·have hl:=zz2q (objs:=objs) e
  rw [hl]
  rw [gR,zu2l e]
  have hO : ∀ n (o:List (List Vot)),zlf2 n (o.map oG)=true:=fun n o=>by
   induction o with
   | nil=>rfl
   | cons a r ih=>simp only [List.map_cons,oG,zlf2,fl,zmq5 _ _ (zp6k zc6g _),ih,Bool.and_self]
  simp only [List.cons_append,List.nil_append,zlf2,hO,Bool.and_true]
  rw [zw5k]
  have hc : ∀ c ∈ sl,Am.below (1+objs.length+1) (cel c)=true:=fun c hc=>by
   obtain ⟨k,hk,rfl⟩:=List.getElem_of_mem hc
   cases q:sl[k].1 with
   | none =>
    have:cel sl[k] = .sl true 4 1 (sl[k].2.flatMap voC):=by unfold cel; rw [q]
    rw [this]; simp only [Am.below]; exact zmq5 _ _ (zp6k zc6g _)
   | some j =>
    have:cel sl[k] = .ms (2+j) (sl[k].2.length*4) 0 4 sl[k].2.length (sl[k].2.length*4):=by unfold cel; rw [q]
    rw [this]; simp only [Am.below,decide_eq_true_eq]
    have:=(List.getElem?_eq_some_iff.1 (g.big k hk j q).1).1
    omega
  revert hc
  generalize 1+objs.length+1=n
  clear hl hO e g
  induction sl with
  | nil=>intro _; rfl
  | cons c r ih =>
   intro hc
   simp only [List.map_cons,z1r6,Bool.and_eq_true]
   exact ⟨hc c (by simp),ih fun d hd=>hc d (by simp [hd])⟩
theorem GI.snap_out {F:SF} {V:List Vot} {sl:List Slt} {objs:List (List Vot)} (g:GI F V sl objs) (hV:V.length≤4294967296) {a:AObj} {r:List AObj}:snap (a::(gR sl objs++r)) 3 (oV 1 1 sl)=some ((grpD (grpG F.s V)).dv 1 gC):=by
 by_cases e:sl=[]
 ·have hg:=g.gs
  subst e
  rw [show ([]:List Slt).map (·.2)=[] from rfl] at hg
  rw [← hg]; rfl
 ·have hgs:=ziua (s:=F.s) V
  have hn:sl.length=(grpG F.s V).length:=by rw [← g.gs,List.length_map]
  rw [zpni e,zve7]
  have ho:objV (a::(gR sl objs++r)) 1 (sl.length*1)=some (sl.map cel):=by
   rw [gR,zu2l e]
   unfold objV ziu0
   simp [zw5k]
  have hs : ∀ c ∈ sl,snap (a::(gR sl objs++r)) 2 (cel c)=some ((gSl c.2).dv 4 voC):=fun c hc=>by
   obtain ⟨k,hk,rfl⟩:=List.getElem_of_mem hc
   have hm:sl[k].2 ∈ grpG F.s V:=by rw [← g.gs]; exact List.mem_map_of_mem (List.getElem_mem hk)
   have hb:=(hgs.1 _ hm).2
   cases q:sl[k].1 with
   | none =>
    have h1:=g.one _ (List.getElem_mem hk) q
    have:cel sl[k] = .sl true 4 1 (sl[k].2.flatMap voC):=by unfold cel; rw [q]
    rw [this]
    obtain ⟨v,hv⟩ : ∃ v,sl[k].2=[v]:=by
     match h:sl[k].2,h1 with
     | [v],_=>exact ⟨v,rfl⟩
    rw [hv,zyex,show [v].flatMap voC=voC v by simp]
    exact z6nl (by simp [zyp8])
   | some j =>
    obtain ⟨b1,b2⟩:=g.big k hk j q
    have:cel sl[k] = .ms (2+j) (sl[k].2.length*4) 0 4 sl[k].2.length (sl[k].2.length*4):=by unfold cel; rw [q]
    rw [this,zve7,gR,zu2l e]
    have ho:=z01d (a:=a) (b := .cells (fl cC sl)) b1 (r:=r)
    simp only [List.cons_append,List.nil_append,List.append_assoc] at ho ⊢
    rw [ho,Option.bind_some,List.drop_zero,z590 zu4u,List.take_length,z619 (zp6k zc6g _),zio8 b2 (by omega)]
    rfl
  rw [ho,Option.bind_some,List.drop_zero,Nat.mul_one,List.take_of_length_le (by simp)]
  have hL : ∀ l:List Slt,(∀ c ∈ l,snap (a::(gR sl objs++r)) 2 (cel c)=some ((gSl c.2).dv 4 voC))→z4tt (a::(gR sl objs++r)) 2 (l.map cel)=some ((l.map fun c=>gSl c.2).flatMap gC):=by
   intro l
   induction l with
   | nil=>intro _; rfl
   | cons c l ih =>
    intro h
    rw [List.map_cons,zrz6,h c (by simp),Option.bind_some,ih fun d hd=>h d (by simp [hd])]
    rfl
  rw [hL sl hs]
  have e2:sl.map (fun c=>gSl c.2)=(grpG F.s V).map gSl:=by rw [← g.gs,List.map_map]; rfl
  rw [e2]
  unfold grpD
  rw [zgr3 (by intro q; exact e (List.eq_nil_of_length_eq_zero (by rw [hn,← List.length_map (f:=gSl),q]; rfl))) (by rw [List.length_map]; omega),List.length_map,← hn]
  rfl
theorem GI.new {F:SF} {V:List Vot} {sl:List Slt} {objs:List (List Vot)} (g:GI F V sl objs) {x:Vot} (h : ∀ q ∈ grpG F.s V,hdP F x q=false):GI F (V++[x]) (sl++[(none,[x])]) objs:=by
 refine ⟨by rw [zd8q,zmh5 h,List.map_append,g.gs]; rfl,fun c hc hn => ?_,fun k hk j e => ?_,fun k k' hk hk' j e e' => ?_,fun q=>by simp at q⟩
 ·rcases List.mem_append.1 hc with hc|hc
  ·exact g.one c hc hn
  ·rw [List.mem_singleton] at hc; subst hc; rfl
 ·by_cases q:k<sl.length
  ·rw [List.getElem_append_left q] at e ⊢; exact g.big k q j e
  ·have:k=sl.length:=by simp at hk; omega
   subst this; simp at e
 ·by_cases q:k<sl.length
  ·rw [List.getElem_append_left q] at e
   by_cases q':k'<sl.length
   ·rw [List.getElem_append_left q'] at e'; exact g.inj k k' q q' j e e'
   ·have:k'=sl.length:=by simp at hk'; omega
    subst this; simp at e'
  ·have:k=sl.length:=by simp at hk; omega
   subst this; simp at e
theorem GI.grow {F:SF} {V:List Vot} {sl:List Slt} {objs:List (List Vot)} (g:GI F V sl objs) {x:Vot} {k:Nat} (hk:k<sl.length) (h1:hdP F x sl[k].2=true) (h2 : ∀ j (h:j<sl.length),j<k→hdP F x sl[j].2=false) :
  (sl[k].1=none→GI F (V++[x]) (sl.set k (some objs.length,sl[k].2++[x])) (objs++[sl[k].2++[x]])) ∧ ∀ j,sl[k].1=some j→GI F (V++[x]) (sl.set k (some j,sl[k].2++[x])) (objs.set j (sl[k].2++[x])):=by
 have hn:sl≠[]:=fun e=>by subst e; simp at hk
 have hgl:(grpG F.s V).length=sl.length:=by rw [← g.gs,List.length_map]
 have hgk : ∀ j (h:j<sl.length) (h':j<(grpG F.s V).length),(grpG F.s V)[j]=sl[j].2:=fun j h h'=>by simp only [← g.gs,List.getElem_map]
 have hgs : ∀ o,(sl.set k (o,sl[k].2++[x])).map (·.2)=grpG F.s (V++[x]):=fun o=>by
  rw [zd8q,za5h (k:=k) (by omega) (by rw [hgk k hk]; exact h1) (fun j h hj=>by rw [hgk j (by omega)]; exact h2 j (by omega) hj),hgk k hk,List.map_set,g.gs]
 have hget : ∀ o i (hi:i<(sl.set k (o,sl[k].2++[x])).length),(sl.set k (o,sl[k].2++[x]))[i]=if k=i then (o,sl[k].2++[x]) else sl[i]'(by simpa using hi):=fun o i hi=>List.getElem_set ..
 have hlen1:1≤sl[k].2.length:=by
  have:=(ziua (s:=F.s) V).1 sl[k].2 (by rw [← g.gs]; exact List.mem_map_of_mem (List.getElem_mem hk))
  exact List.length_pos_iff.2 this.1
 constructor
 ·intro hkn
  refine ⟨hgs _,fun c hc hcn => ?_,fun i hi j e => ?_,fun i i' hi hi' j e e' => ?_,fun q=>by simp at q; exact absurd q hn⟩
  ·obtain ⟨i,hi,rfl⟩:=List.getElem_of_mem hc
   rw [hget] at hcn ⊢
   split at hcn
   ·cases hcn
   ·rename_i q; rw [if_neg q]; exact g.one _ (List.getElem_mem _) hcn
  ·rw [hget] at e ⊢
   split at e
   ·rename_i q; simp only [Option.some.injEq] at e; subst e
    rw [if_pos q]; exact ⟨by simp,by simp; omega⟩
   ·rename_i q
    rw [if_neg q]
    obtain ⟨b1,b2⟩:=g.big i (by simpa using hi) j e
    exact ⟨by rw [List.getElem?_append_left (List.getElem?_eq_some_iff.1 b1).1]; exact b1,b2⟩
  ·have lt : ∀ i (hi:i<sl.length) j,sl[i].1=some j→j<objs.length:=fun i hi j e=>(List.getElem?_eq_some_iff.1 (g.big i hi j e).1).1
   rw [hget] at e e'
   split at e
   ·rename_i q
    split at e'
    ·rename_i q'; omega
    ·simp only [Option.some.injEq] at e; subst e
     have:=lt i' (by simpa using hi') _ e'; omega
   ·split at e'
    ·simp only [Option.some.injEq] at e'; subst e'
     have:=lt i (by simpa using hi) _ e; omega
    ·exact g.inj i i' (by simpa using hi) (by simpa using hi') j e e'
 ·intro j hj
  obtain ⟨b1,b2⟩:=g.big k hk j hj
  have hjl:=(List.getElem?_eq_some_iff.1 b1).1
  refine ⟨hgs _,fun c hc hcn => ?_,fun i hi j' e => ?_,fun i i' hi hi' j' e e' => ?_,fun q=>by simp at q; exact absurd q hn⟩
  ·obtain ⟨i,hi,rfl⟩:=List.getElem_of_mem hc
   rw [hget] at hcn ⊢
   split at hcn
   ·cases hcn
   ·rename_i q; rw [if_neg q]; exact g.one _ (List.getElem_mem _) hcn
  ·rw [hget] at e ⊢
   split at e
   ·rename_i q; simp only [Option.some.injEq] at e; subst e
    rw [if_pos q]; exact ⟨by simp [hjl],by simp; omega⟩
   ·rename_i q
    rw [if_neg q]
    obtain ⟨c1,c2⟩:=g.big i (by simpa using hi) j' e
    have hne:j≠j':=fun z=>q (g.inj k i hk (by simpa using hi) j hj (by subst z; exact e))
    exact ⟨by rw [List.getElem?_set,if_neg hne]; exact c1,c2⟩
  ·rw [hget] at e e'
   split at e
   ·rename_i q
    split at e'
    ·rename_i q'; omega
    ·simp only [Option.some.injEq] at e; subst e
     have:=g.inj k i' hk (by simpa using hi') j hj e'; omega
   ·split at e'
    ·simp only [Option.some.injEq] at e'; subst e'
     have:=g.inj k i hk (by simpa using hi) j hj e; omega
    ·exact g.inj i i' (by simpa using hi) (by simpa using hi') j' e e'
end Go.Proofs.YtjknipdiglpnlaaDoor
set_option linter.unusedSimpArgs false
set_option linter.unusedVariables false
namespace Go.Proofs.YtjknipdiglpnlaaDoor
open Go Go.Am
noncomputable def T921 (F:SF):Tbl:=addT 97 (.pure (cGix F)) tbl0
theorem z2ua (F:SF):T921 F 97 = .pure (cGix F):=by simp [T921]
theorem zevv (F:SF):(T921 F).Sound P:=z0rp (zfcd F) zr5o
structure GA where
 i:Nat
 sl:List Slt
 objs:List (List Vot)
def S921 (F:SF) (U:Sl Vot) (a:GA):St:=zgwc (.mp 0 1 0) (oV 1 1 a.sl) (U.dv 4 voC) (.int .i64 U.l.length) (.int .i64 a.i) (.cells [F.dv]::gR a.sl a.objs)
def gI (F:SF) (U:Sl Vot) (a:GA):Prop:=a.i≤U.l.length∧GI F (U.l.take a.i) a.sl a.objs
theorem zzgd {C:List DV} {k:Nat} {v:DV} (h:k<C.length):zk7y C k [v]=C.set k v:=by
 unfold zk7y
 rw [List.set_eq_take_append_cons_drop,if_pos h]; simp
theorem zifj {x:Vot}:bslD 4 1 [.str [],.str [],.nils,.nils] [(0,4,.agg (voC x))]=some (.sl true 4 1 (voC x)):=by
 have h1:=zu4u x
 simp [bslD,zi03,zk7y,reps,h1,List.drop_of_length_le]
theorem zmtd {d:DV} (hc:d.cells=[d]) (hk:d.known=true):bslD 1 1 [.nils] [(0,1,d)]=some (.sl true 1 1 [d]):=by
 simp [bslD,zi03,zk7y,reps,hc,hk]
def GrT:ACode:=match zec8 with
 | .seq _ (.seq _ (.seq (.block _ (.seq _ (.seq _ y))) _))=>y
 | _ => .skip
def GrR:ACode:=match zec8 with
 | .seq _ (.seq _ (.seq _ y))=>y
 | _ => .skip
theorem appR {F:SF} {sl:List Slt} {objs:List (List Vot)} {c:Slt} (hb:sl.length+1≤4294967296) (hn:sl=[]→objs=[]):appX (.cells [F.dv]::gR sl objs) 1 24 (oV 1 1 sl) 1 [cel c]=some (oV 1 1 (sl++[c]),.cells [F.dv]::gR (sl++[c]) objs):=by
 by_cases e:sl=[]
 ·have:=hn e
  subst e; subst this
  have:=zte0 (k:=1) (K:=1) (f:=cC) (b:=24) (l:=[]) (x:=c) (h:=[AObj.cells [F.dv]]) rfl z8cu (by decide) (by decide) (fun _=>zhlf) (by simp)
  simpa [gR,cC] using this
 ·have ho:objV (.cells [F.dv]::gR sl objs) 1 (sl.length*1)=some (fl cC sl):=by
   rw [gR,zu2l e]; unfold objV ziu0; simp [z8lx z8cu]
  have:=zkg3 (h := .cells [F.dv]::gR sl objs) (id:=1) (b:=24) (l:=sl) (x:=c) z8cu (by decide) (by decide) (fun _=>zhlf) hb ho
  rw [zpni e,zpni (by simp),List.length_append,List.length_singleton]
  rw [show cC c=[cel c] from rfl] at this
  rw [this]
  simp only [gR,zu2l e,zu2l (show sl++[c]≠[] by simp),List.cons_append,List.nil_append,List.set_cons_succ,List.set_cons_zero]
theorem zj3o {F:SF} {U:Sl Vot} {a:GA} {sl:List Slt} {objs:List (List Vot)} (h:a.i<U.l.length) (hg:GI F (U.l.take (a.i+1)) sl objs) {Φ0:AExit→St→Prop} :
  V P 0 GrR (z13e 0 (S921 F U) (fun a=>U.l.length-a.i) (gI F U) a Φ0) ⟨[.junk,.junk,.junk,.mp 0 1 0,.junk,oV 1 1 sl,.junk,.junk,.junk,U.dv 4 voC,.int .i64 U.l.length,.int .i64 a.i]++js 25,.cells [F.dv]::gR sl objs⟩:=by
 have hb:=U.b
 simp only [GrR,zec8]
 refine V_W mix (zevv F) ?_
 simp (disch:=first|omega|simp<;>omega|fail) [-zA,-zB,-zC,-zD,-zE]
 exact ⟨⟨a.i+1,sl,objs⟩,z515 (by simp (disch:=first|omega|simp<;>omega|fail) [-zA,-zB,-zC,-zD,-zE,S921,zgwc]) (by simp (disch:=first|omega|simp<;>omega|fail) [-zA,-zB,-zC,-zD,-zE,S921,zgwc]),by simp only; omega,by simp only; omega,hg⟩
theorem zq0c {F:SF} {U:Sl Vot} {a:GA} {x:Vot} {n:Int} (h:a.i<U.l.length) (hx:U.l[a.i]=x) (g:GI F (U.l.take a.i) a.sl a.objs) (hn:fIx (hdP F x) (grpG F.s (U.l.take a.i))=n) {Φ0:AExit→St→Prop} :
  V P 0 GrT (z0mx 1 (z2pk P 0 GrR (z13e 0 (S921 F U) (fun a=>U.l.length-a.i) (gI F U) a Φ0)))
   ⟨[.junk,.junk,.junk,.mp 0 1 0,.junk,oV 1 1 a.sl,.junk,.ref (voC x),.int .i64 n,U.dv 4 voC,.int .i64 U.l.length,.int .i64 a.i]++js 25,.cells [F.dv]::gR a.sl a.objs⟩:=by
 have hb:=U.b
 have hgs:=ziua (s:=F.s) (U.l.take a.i)
 have htl:(U.l.take a.i).length=a.i:=by rw [List.length_take]; omega
 have hgl:(grpG F.s (U.l.take a.i)).length=a.sl.length:=by rw [← g.gs,List.length_map]
 have hsl:a.sl.length≤a.i:=by have:=hgs.2; omega
 have hsnoc:U.l.take (a.i+1)=U.l.take a.i++[x]:=by rw [List.take_succ_eq_append_getElem h,hx]
 have fin:=fun sl objs q Φ0=>zj3o (F:=F) (U:=U) (a:=a) (sl:=sl) (objs:=objs) (Φ0:=Φ0) h (by rw [hsnoc]; exact q)
 simp only [GrT,zec8]
 refine zbn1 (V_W mix (zevv F) ?_)
 simp (disch:=first|omega|simp<;>omega|fail) [-zA,-zB,-zC,-zD,-zE]
 refine V_W mix (zevv F) ?_
 rcases za4c (hdP F x) (grpG F.s (U.l.take a.i)) with ⟨h1,h2⟩|⟨k,hk,h1,h2,h3⟩
 ·rw [h1] at hn
  subst hn
  have hap:=appR (F:=F) (c:=(none,[x])) (objs:=a.objs) (by omega:a.sl.length+1≤4294967296) g.nil
  rw [show cel (none,[x]) = .sl true 4 1 (voC x) by simp [cel]] at hap
  have hv : ∀ H,visY H (.sl true 1 1 [.sl true 4 1 (voC x)])=some (1,[.sl true 4 1 (voC x)]):=fun H=>by simp [visY]
  have hbs:=zmtd (d := .sl true 4 1 (voC x)) rfl rfl
  have hG:=g.new h2
  simp (disch:=first|omega|simp<;>omega|fail) [-zA,-zB,-zC,-zD,-zE,zifj,hbs,hv,hap]
  exact zqfd (z515 (by simp (disch:=first|omega|simp<;>omega|fail) [-zA,-zB,-zC,-zD,-zE]) (by simp (disch:=first|omega|simp<;>omega|fail) [-zA,-zB,-zC,-zD,-zE])) (fin _ _ hG _)
 ·rw [h1] at hn
  subst hn
  have hk':k<a.sl.length:=by omega
  have he : ∀ j (h:j<a.sl.length),(grpG F.s (U.l.take a.i))[j]'(by omega)=a.sl[j].2:=fun j h=>by simp only [← g.gs,List.getElem_map]
  rw [he k hk'] at h2
  have hG:=g.grow hk' h2 (fun j h hj=>by rw [← he j h]; exact h3 j (by omega) hj)
  have hne:a.sl≠[]:=fun e=>by rw [e] at hk'; simp at hk'
  have hin:a.sl[k].2.length≤a.i:=by
   have:=(hgs.1 a.sl[k].2 (by rw [← he k hk']; exact List.getElem_mem _)).2
   omega
  have hnk:¬ (k:Int)<0:=by omega
  have hgR:gR a.sl a.objs = .cells (a.sl.map cel)::a.objs.map oG:=by rw [gR,zu2l hne,zw5k]; rfl
  have hov:oV 1 1 a.sl = .ms 1 a.sl.length 0 1 a.sl.length a.sl.length:=by rw [zpni hne,Nat.mul_one]
  have hld:oneC 1 false ((a.sl.map cel).drop k)=some (cel a.sl[k]):=by
   rw [List.drop_eq_getElem_cons (by simpa using hk'),List.getElem_map]; rfl
  have hv : ∀ H,visY H (.sl true 4 1 (voC x))=some (1,voC x):=fun H=>by simp [visY]
  have hCl:(a.sl.map cel).length=a.sl.length:=by simp
  have hst : ∀ (H:List AObj) (v:DV),v.cells=[v]→v.one=true→zy6o H 1 1 k v (some (a.sl.map cel))=some (.junk,H.set 1 (.cells ((a.sl.map cel).set k v))):=fun H v hc ho=>by
   rw [storeO_1 hc ho (by rw [hCl]; exact hk'),zzgd (by rw [hCl]; exact hk')]
  have hset : ∀ c:Slt,(a.sl.set k c).map cel=(a.sl.map cel).set k (cel c):=fun c=>by rw [List.map_set]
  have hne2 : ∀ c:Slt,a.sl.set k c≠[]:=fun c e=>hne (by simpa using e)
  have hov2 : ∀ c:Slt,oV 1 1 (a.sl.set k c) = .ms 1 a.sl.length 0 1 a.sl.length a.sl.length:=fun c=>by rw [zpni (hne2 c),Nat.mul_one,List.length_set]
  have hgR2 : ∀ (c:Slt) (o:List (List Vot)),gR (a.sl.set k c) o = .cells ((a.sl.map cel).set k (cel c))::o.map oG:=fun c o=>by rw [gR,zu2l (hne2 c),zw5k,hset]; rfl
  obtain ⟨C,hC⟩ : ∃ C,a.sl.map cel=C:=⟨_,rfl⟩
  obtain ⟨N,hN⟩ : ∃ N,a.sl.length=N:=⟨_,rfl⟩
  rw [hgR,hov]
  rw [hC] at hld hCl hst ⊢
  simp only [hC,hN] at hov2 hgR2
  rw [hN] at hCl hk' ⊢
  cases q:a.sl[k].1 with
  | none =>
   have hG:=hG.1 q
   have h1:=g.one _ (List.getElem_mem _) q
   obtain ⟨y,hy⟩ : ∃ y,a.sl[k].2=[y]:=by
    match h:a.sl[k].2,h1 with
    | [y],_=>exact ⟨y,rfl⟩
   have hcel:cel a.sl[k] = .sl true 4 1 (voC y):=by unfold cel; rw [q,hy]; simp
   rw [hcel] at hld
   rw [hy] at hG
   have fin:=fin _ _ hG Φ0
   rw [hov2,hgR2,List.map_append] at fin
   have hc2:cel (some a.objs.length,[y]++[x]) = .ms (a.objs.length+2) 8 0 4 2 8:=by simp [cel]; omega
   have ho2:[[y]++[x]].map oG=[.cells (voC y++voC x)]:=by simp [oG,fl]
   rw [hc2,ho2] at fin
   have hap : ∀ O:List AObj,appX (.cells [F.dv] :: .cells C::O) 4 80 (.sl true 4 1 (voC y)) 1 (voC x)=some (.ms (O.length+2) 8 0 4 2 8,.cells [F.dv] :: .cells C::(O++[.cells (voC y++voC x)])):=fun O=>by
    simp [appX,big]
   have hap:=hap (a.objs.map oG)
   rw [List.length_map] at hap
   simp (disch:=first|omega|simp<;>omega|fail) [-zA,-zB,-zC,-zD,-zE,zifj,hnk,hk',hCl,hld,hv,hap,hst]
   exact zqfd (z515 (by simp (disch:=first|omega|simp<;>omega|fail) [-zA,-zB,-zC,-zD,-zE]) (by simp (disch:=first|omega|simp<;>omega|fail) [-zA,-zB,-zC,-zD,-zE])) fin
  | some j =>
   have hG:=hG.2 j q
   obtain ⟨b1,b2⟩:=g.big k (by omega) j q
   have hcel:cel a.sl[k] = .ms (2+j) (a.sl[k].2.length*4) 0 4 a.sl[k].2.length (a.sl[k].2.length*4):=by unfold cel; rw [q]
   rw [hcel] at hld
   have hj:=(List.getElem?_eq_some_iff.1 b1).1
   have hob:=z01d (a := .cells [F.dv]) (b := .cells C) (r:=[]) b1
   rw [List.append_nil] at hob
   obtain ⟨g0,hg0⟩ : ∃ g0,a.sl[k].2=g0:=⟨_,rfl⟩
   rw [hg0] at hld hG hob b2 hin
   have fin:=fin _ _ hG Φ0
   rw [hov2,hgR2,List.map_set] at fin
   have hap:=zkg3 (h := .cells [F.dv] :: .cells C::a.objs.map oG) (id:=2+j) (b:=80) (l:=g0) (x:=x) zu4u (by decide) (by decide) (fun _=>z0cw) (by omega) hob
   rw [show 2+j=j+1+1 by omega,List.set_cons_succ,List.set_cons_succ] at hap
   rw [show 2+j=j+1+1 by omega] at hld
   have hc2:cel (some j,g0++[x]) = .ms (j+1+1) ((g0.length+1)*4) 0 4 (g0.length+1) ((g0.length+1)*4):=by simp [cel]; omega
   rw [hc2,show oG (g0++[x]) = .cells (fl voC (g0++[x])) from rfl] at fin
   simp (disch:=first|omega|simp<;>omega|fail) [-zA,-zB,-zC,-zD,-zE,zifj,hnk,hk',hCl,hld,hv,hap,hst]
   exact zqfd (z515 (by simp (disch:=first|omega|simp<;>omega|fail) [-zA,-zB,-zC,-zD,-zE]) (by simp (disch:=first|omega|simp<;>omega|fail) [-zA,-zB,-zC,-zD,-zE])) fin
end Go.Proofs.YtjknipdiglpnlaaDoor
set_option linter.unusedSimpArgs false
set_option linter.unusedVariables false
namespace Go.Proofs.YtjknipdiglpnlaaDoor
open Go Go.Am
theorem zy3o (F:SF) (U:Sl Vot):V P 0 a46.code (retK a46.res ((grpD (grpG F.s U.l)).dv 1 gC)) ⟨zr5g a46.ntmps [U.dv 4 voC,F.dv],[]⟩:=by
 have hb:=U.b
 have hF1:F.dv.one=true:=rfl
 have hF2:F.dv.known=true:=rfl
 have hF3:zyp8 F.dv=true:=by simp [SF.dv,zyp8,zbao]
 have hF4:F.dv.cells=[F.dv]:=rfl
 refine zbn1 (V_W mix (zevv F) ?_)
 simp (disch:=first|omega|simp<;>omega|fail) [-zA,-zB,-zC,-zD,-zE,a46,boxD,hF1,hF2,hF4]
 refine zbn1 (V_W mix (zevv F) ?_)
 simp (disch:=first|omega|simp<;>omega|fail) [-zA,-zB,-zC,-zD,-zE]
 refine zbn1 (zbn1 (V_W mix (zevv F) ?_))
 simp (disch:=first|omega|simp<;>omega|fail) [-zA,-zB,-zC,-zD,-zE]
 refine z3mo (ztbr (S921 F U) (fun a=>U.l.length-a.i) (gI F U) ⟨0,[],[]⟩ (z515 (by simp (disch:=first|omega|simp<;>omega|fail) [-zA,-zB,-zC,-zD,-zE,S921,zgwc,zl8p]) (by simp (disch:=first|omega|simp<;>omega|fail) [-zA,-zB,-zC,-zD,-zE,S921,zgwc,gR,zkrk])) ⟨by simp,by simp only [List.take_zero]; exact ⟨rfl,fun c hc=>by simp at hc,fun k hk=>by simp at hk,fun k _ hk=>by simp at hk,fun _=>rfl⟩⟩ (fun a ha => ?_))
 obtain ⟨hi,g⟩:=ha
 simp only [S921]
 refine zbn1 (V_W mix (zevv F) ?_)
 by_cases h:a.i<U.l.length
 case neg =>
  have h':¬ (a.i:Int)<U.l.length:=by omega
  have hsn:=g.snap_out (by rw [List.length_take]; omega) (a := .cells [F.dv]) (r:=[])
  rw [List.append_nil,List.take_of_length_le (show U.l.length≤a.i by omega)] at hsn
  simp (disch:=first|omega|simp<;>omega|fail) [-zA,-zB,-zC,-zD,-zE,zec8,zgwc,h,h']
  refine zbn1 (V_W mix (zevv F) ?_)
  simp (disch:=first|omega|simp<;>omega|fail) [-zA,-zB,-zC,-zD,-zE,h,h']
  refine V_W mix (zevv F) ?_
  simp (disch:=first|omega|simp<;>omega|fail) [-zA,-zB,-zC,-zD,-zE,hsn]
 have h':(a.i:Int)<U.l.length:=by omega
 have hg : ∀ H,zpsc H 4 (U.dv 4 voC) a.i=some (.ref (voC U.l[a.i])):=fun H=>zalo zu4u h
 have tail:=fun n q Φ0=>zq0c (F:=F) (U:=U) (a:=a) (n:=n) (Φ0:=Φ0) h rfl g q
 have htl:(U.l.take a.i).length=a.i:=by rw [List.length_take]; omega
 have hsum:=ziua (s:=F.s) (U.l.take a.i)
 have hgl:(grpD (grpG F.s (U.l.take a.i))).l=(grpG F.s (U.l.take a.i)).map gSl:=zm38 (by have:=hsum.2; omega)
 have hcall:=z7rj (F:=F) (v:=U.l[a.i]) (x:=grpD (grpG F.s (U.l.take a.i))) (fun q hq=>by
  rw [hgl] at hq
  obtain ⟨w,hw,rfl⟩:=List.mem_map.1 hq
  have:=hsum.1 w hw
  rw [z0ey (by omega)]; exact this.1)
 have hfi:fIx (hdS F U.l[a.i]) (grpD (grpG F.s (U.l.take a.i))).l=fIx (hdP F U.l[a.i]) (grpG F.s (U.l.take a.i)):=by
  rw [hgl]
  have : ∀ l:List (List Vot),(∀ w ∈ l,w.length≤4294967296)→fIx (hdS F U.l[a.i]) (l.map gSl)=fIx (hdP F U.l[a.i]) l:=by
   intro l
   induction l with
   | nil=>intro _; rfl
   | cons w l ih =>
    intro hl
    rw [List.map_cons,fIx,fIx,ih fun z hz=>hl z (by simp [hz]),zdzg (hl w (by simp))]
  exact this _ fun w hw=>by have:=hsum.1 w hw; omega
 rw [hfi] at hcall
 have hsn:=g.snap_out (by omega) (a := .cells [F.dv]) (r:=[])
 rw [List.append_nil] at hsn
 obtain ⟨n,hn⟩ : ∃ n,fIx (hdP F U.l[a.i]) (grpG F.s (U.l.take a.i))=n:=⟨_,rfl⟩
 rw [hn] at hcall
 have tail:=tail n hn
 obtain ⟨x,hx⟩ : ∃ x,U.l[a.i]=x:=⟨_,rfl⟩
 rw [hx] at hg hcall tail
 have hRb:=g.gr_below
 obtain ⟨R,hR⟩ : ∃ R,gR a.sl a.objs=R:=⟨_,rfl⟩
 have hoB:Am.below (R.length+1) (oV 1 1 a.sl)=true:=by
  by_cases e:a.sl=[]
  ·rw [e]; rfl
  ·rw [zpni e,← hR,zz2q e]; simp only [Am.below,decide_eq_true_eq]; omega
 have hp0:¬ zyp8 (oV 1 1 a.sl)=true∨True := .inr trivial
 simp only [hR] at tail hRb hsn
 rw [hR]
 simp (disch:=first|omega|simp<;>omega|fail) [-zA,-zB,-zC,-zD,-zE,zec8,zgwc,h,h']
 refine zbn1 (V_W mix (zevv F) ?_)
 simp (disch:=first|omega|simp<;>omega|fail) [-zA,-zB,-zC,-zD,-zE,h,h']
 refine zbn1 (z3mo (zbn1 (V_W mix (zevv F) ?_)))
 simp (disch:=first|omega|simp<;>omega|fail) [-zA,-zB,-zC,-zD,-zE,hg]
 refine zs10 (H := .cells [F.dv]::R) (cs:=voC x) (t':=[.junk,.junk,.junk,.mp 0 1 0,.junk,oV 1 1 a.sl,.junk,.ref (voC x),.junk,U.dv 4 voC,.int .i64 U.l.length,.int .i64 a.i]++js 25) (by simp (disch:=first|omega|simp<;>omega|fail) [-zA,-zB,-zC,-zD,-zE,zlf2,hRb,z1r6,z8b8 _ _ hF3]) (by simp) ?_ (by simp (disch:=first|omega|simp<;>omega|fail) [-zA,-zB,-zC,-zD,-zE,z1r6,Am.below,hoB,z8b8 _ _ (znfs U)]) ?_
 ·have e1:=zz5t (H := .cells [F.dv]::R) (cs:=voC x) (off:=0) (zc6g x)
  have e2 : ∀ h,mk1 (kLt ((AObj.cells [F.dv]::R).length)) h (oV 1 1 a.sl)=oV 1 1 a.sl:=fun h=>zd3c (by rw [List.length_cons]; exact hoB)
  have e3 : ∀ h,mk1 (kLt ((AObj.cells [F.dv]::R).length)) h (.mp 0 1 0) = .mp 0 1 0:=fun h=>zd3c (by simp [Am.below])
  have e4 : ∀ K h,mk1 K h (U.dv 4 voC)=U.dv 4 voC:=fun K h=>zvft (znfs U)
  simp only [List.cons_append,List.length_cons,zu4u,List.drop_zero] at e1 e2 e3
  simp (disch:=first|omega|simp<;>omega|fail) [-zA,-zB,-zC,-zD,-zE,e1,e2,e3,e4]
 refine zbn1 (V_W mix (zevv F) ?_)
 have hfnS:snap (.cells [F.dv]::R) 3 (.fn (.func 98) [] [.mp 0 1 0,.ref (voC x)])=some (gfn F x):=by
  simp (disch:=first|omega|simp<;>omega|fail) [-zA,-zB,-zC,-zD,-zE,gfn,z6nl hF3]
 simp (disch:=first|omega|simp<;>omega|fail) [-zA,-zB,-zC,-zD,-zE,z2ua,hsn,hfnS,hcall]
 exact zqfd (z515 (by simp (disch:=first|omega|simp<;>omega|fail) [-zA,-zB,-zC,-zD,-zE]) (by simp (disch:=first|omega|simp<;>omega|fail) [-zA,-zB,-zC,-zD,-zE])) (tail _)
noncomputable def cGrp (F:SF):List DV→Option DV:=con (fun _=>True) (fun U:Sl Vot=>[U.dv 4 voC,F.dv]) (fun U=>(grpD (grpG F.s U.l)).dv 1 gC)
theorem zs2t {F:SF} {U:Sl Vot}:cGrp F [U.dv 4 voC,F.dv]=some ((grpD (grpG F.s U.l)).dv 1 gC) :=
 zsn4 (f:=fun U:Sl Vot=>[U.dv 4 voC,F.dv]) (g:=fun U=>(grpD (grpG F.s U.l)).dv 1 gC) (fun a b e=>by simp only [List.cons.injEq,and_true] at e; exact z22s e) U
theorem zohn (F:SF):(Con.pure (cGrp F)).Sound P 46:=z2au fun a _=>znz9 Tryd.func46 znv1 (zy3o F a)
end Go.Proofs.YtjknipdiglpnlaaDoor
set_option linter.unusedSimpArgs false
set_option linter.unusedVariables false
namespace Go.Proofs.YtjknipdiglpnlaaDoor
open Go Go.Am
theorem zrqk {P:Program} {f:FuncId} {fn:Func} (hf:P.funcs[f]? = some fn) {af:AFn} (hc:zsjc P fn=some af) {args:List DV} {h:List AObj} {v:DV} {k:List AObj} (hr:V P h.length af.code (retH af.res v k) ⟨zr5g af.ntmps args,h⟩):zwy1 P f args h (fun d k'=>d=v∧k'=k) :=
 zcpc hf hc (zftn (fun _ _ h=>h.out) hr)
inductive TwoS|p|q
def ts {α:Type} (b:TwoS) (x y:α):α:=match b with | .p=>x | .q=>y
theorem ts_p {α:Type} {x y:α}:ts .p x y=x:=rfl
theorem ts_q {α:Type} {x y:α}:ts .q x y=y:=rfl
open Classical in
noncomputable def ptH (a0:List DV) (h0:List AObj) (r:DV) (h1:List AObj):List DV→List AObj→Option (DV × List AObj):=fun a h=>if a=a0∧h=h0 then some (r,h1) else none
theorem zpvh {a0:List DV} {h0:List AObj} {r:DV} {h1:List AObj}:ptH a0 h0 r h1 a0 h0=some (r,h1):=if_pos ⟨rfl,rfl⟩
theorem zdmv {k:FuncId} {a0:List DV} {h0:List AObj} {r:DV} {h1:List AObj} (hc:zwy1 P k a0 h0 (fun d h=>d=r∧h=h1)):(Con.heap (ptH a0 h0 r h1)).Sound P k:=by
 intro args h v h' e
 unfold ptH at e
 split at e
 ·rename_i q
  simp only [Option.some.injEq,Prod.mk.injEq] at e
  obtain ⟨rfl,rfl⟩:=e
  rw [q.1,q.2]; exact hc
 ·cases e
noncomputable def TH (k:Nat) (a0:List DV) (h0:List AObj) (r:DV) (h1:List AObj):Tbl:=addT k (.heap (ptH a0 h0 r h1)) tbl0
theorem TH_k {k:Nat} {a0:List DV} {h0:List AObj} {r:DV} {h1:List AObj}:TH k a0 h0 r h1 k = .heap (ptH a0 h0 r h1):=by simp [TH]
theorem z84q {k:Nat} {a0:List DV} {h0:List AObj} {r:DV} {h1:List AObj} (hc:zwy1 P k a0 h0 (fun d h=>d=r∧h=h1)):(TH k a0 h0 r h1).Sound P:=z0rp (zdmv hc) zr5o
theorem zy87 {a b:List UInt8}:zhl4 .lss (.str a) (.str b)=some (.bool (Op.bytesLess a b)):=rfl
attribute [simp] zy87
theorem zapk (a:Str):Runs tbl0 a150 [.str a] (.bool false):=by
 refine ⟨?_⟩
 simp (disch:=first|omega|simp<;>omega|fail) [-zA,-zB,-zC,-zD,-zE,a150]
noncomputable def cIsN:List DV→Option DV
 | [.str _]=>some (.bool false)|_=>none
theorem z8sc {a:Str}:cIsN [.str a]=some (.bool false):=rfl
theorem zcv5:(Con.pure cIsN).Sound P 150:=by
 intro args v e
 unfold cIsN at e
 split at e
 ·simp at e; subst e; exact zljw mix zr5o Tryd.func150 z7th (zapk _)
 ·simp at e
noncomputable def T930:Tbl:=addT 150 (.pure cIsN) tbl0
theorem ziqj:T930 150 = .pure cIsN:=by simp [T930]
theorem zvf4:T930.Sound P:=z0rp zcv5 zr5o
def zavf (a b:Str):Int:=if Op.bytesLess a b then -1 else if Op.bytesLess b a then 1 else 0
theorem zrmv {a b:Str}:zhl4 .gtr (.str a) (.str b)=some (.bool (Op.bytesLess b a)):=by
 have e:zhl4 .gtr (.str a) (.str b)=some (.bool (!(Op.bytesLess a b||a == b))):=by simp [zhl4,zdnj]
 rw [e]
 congr 2
 rcases zoet a b with h|h|h
 ·have h':Op.bytesLess b a=false:=by
   cases q:Op.bytesLess b a with
   | false=>rfl
   | true=>have:=z8c3 _ _ _ h q; rw [zrk4] at this; cases this
  rw [h,h']; rfl
 ·subst h; simp [zrk4]
 ·have h':Op.bytesLess a b=false:=by
   cases q:Op.bytesLess a b with
   | false=>rfl
   | true=>have:=z8c3 _ _ _ h q; rw [zrk4] at this; cases this
  have hn:¬ a=b:=fun e=>by rw [e,zrk4] at h; cases h
  rw [h,h']; simp [hn]
attribute [simp] zrmv
theorem za9u (a b:Str):Runs T930 a102 [.str a,.str b] (.int .i64 (zavf a b)):=by
 refine ⟨?_⟩
 unfold zavf
 cases h1:Op.bytesLess a b with
 | true=>simp (disch:=first|omega|simp<;>omega|fail) [-zA,-zB,-zC,-zD,-zE,a102,ziqj,z8sc,h1]
 | false =>
  cases h2:Op.bytesLess b a with
  | true=>simp (disch:=first|omega|simp<;>omega|fail) [-zA,-zB,-zC,-zD,-zE,a102,ziqj,z8sc,h1,h2]
  | false=>simp (disch:=first|omega|simp<;>omega|fail) [-zA,-zB,-zC,-zD,-zE,a102,ziqj,z8sc,h1,h2]
noncomputable def cCs:List DV→Option DV
 | [.str a,.str b]=>some (.int .i64 (zavf a b))|_=>none
theorem zc1k {a b:Str}:cCs [.str a,.str b]=some (.int .i64 (zavf a b)):=rfl
theorem zqxd:(Con.pure cCs).Sound P 102:=by
 intro args v e
 unfold cCs at e
 split at e
 ·simp at e; subst e; exact zljw mix zvf4 Tryd.func102 zh4k (za9u _ _)
 ·simp at e
theorem z5ha {a b:Str}:(zavf a b<0)↔Op.bytesLess a b=true:=by
 unfold zavf
 split
 ·rename_i h; simp [h]
 ·rename_i h; split<;>simp [h]
def vLt (a b:Vot):Bool:=Op.bytesLess a.own b.own
noncomputable def T931:Tbl:=addT 102 (.pure cCs) tbl0
theorem zof8:T931 102 = .pure cCs:=by simp [T931]
theorem zn44:T931.Sound P:=z0rp zqxd zr5o
theorem zjf7 (a b:Vot):Runs T931 a101 [.agg (voC a),.agg (voC b)] (.int .i64 (zavf a.own b.own)):=by
 refine ⟨?_⟩
 simp (disch:=first|omega|simp<;>omega|fail) [-zA,-zB,-zC,-zD,-zE,a101,zof8,zc1k]
noncomputable def cCmV:List DV→Option DV:=con (fun _=>True) (fun a:Vot × Vot=>[.agg (voC a.1),.agg (voC a.2)]) (fun a => .int .i64 (zavf a.1.own a.2.own))
theorem z3b6 {a b:Vot}:cCmV [.agg (voC a),.agg (voC b)]=some (.int .i64 (zavf a.own b.own)) :=
 zsn4 (f:=fun a:Vot × Vot=>[.agg (voC a.1),.agg (voC a.2)]) (g:=fun a => .int .i64 (zavf a.1.own a.2.own)) (by
  rintro ⟨a,b⟩ ⟨c,d⟩ e
  simp only [List.cons.injEq,DV.agg.injEq,and_true] at e
  rw [zkbi e.1,zkbi e.2]) (a,b)
noncomputable def TcV:Tbl:=addT 101 (.pure cCmV) tbl0
theorem zjdk:TcV 101 = .pure cCmV:=by simp [TcV]
theorem zddn:TcV.Sound P:=z0rp (z2au fun (a:Vot × Vot) _=>zljw mix zn44 Tryd.func101 zzmu (zjf7 a.1 a.2)) zr5o
theorem zvnb {a b:Vot}:(zavf a.own b.own<0)↔vLt a b=true:=z5ha
def cmVf (a b:Vot):Int:=zavf a.own b.own
theorem z6ee (a:Int):Runs tbl0 a105 [.int .i64 a] (.bool false):=by
 refine ⟨?_⟩
 simp (disch:=first|omega|simp<;>omega|fail) [-zA,-zB,-zC,-zD,-zE,a105]
noncomputable def cIsI:List DV→Option DV
 | [.int .i64 _]=>some (.bool false)|_=>none
theorem zj7i {a:Int}:cIsI [.int .i64 a]=some (.bool false):=rfl
theorem zdtl:(Con.pure cIsI).Sound P 105:=by
 intro args v e
 unfold cIsI at e
 split at e
 ·simp at e; subst e; exact zljw mix zr5o Tryd.func105 z9rf (z6ee _)
 ·simp at e
noncomputable def T932:Tbl:=addT 105 (.pure cIsI) tbl0
theorem zvvt:T932 105 = .pure cIsI:=by simp [T932]
theorem zt52:T932.Sound P:=z0rp zdtl zr5o
def znwt (a b:Int):Int:=if a<b then -1 else if b<a then 1 else 0
theorem zvic (a b:Int):Runs T932 a54 [.int .i64 a,.int .i64 b] (.int .i64 (znwt a b)):=by
 refine ⟨?_⟩
 unfold znwt
 by_cases h1:a<b
 ·simp (disch:=first|omega|simp<;>omega|fail) [-zA,-zB,-zC,-zD,-zE,a54,zvvt,zj7i,h1]
 ·by_cases h2:b<a
  ·simp (disch:=first|omega|simp<;>omega|fail) [-zA,-zB,-zC,-zD,-zE,a54,zvvt,zj7i,h1,h2]
  ·simp (disch:=first|omega|simp<;>omega|fail) [-zA,-zB,-zC,-zD,-zE,a54,zvvt,zj7i,h1,h2]
noncomputable def cCi:List DV→Option DV
 | [.int .i64 a,.int .i64 b]=>some (.int .i64 (znwt a b))|_=>none
theorem z3mn {a b:Int}:cCi [.int .i64 a,.int .i64 b]=some (.int .i64 (znwt a b)):=rfl
theorem zl9z:(Con.pure cCi).Sound P 54:=by
 intro args v e
 unfold cCi at e
 split at e
 ·simp at e; subst e; exact zljw mix zt52 Tryd.func54 zq4q (zvic _ _)
 ·simp at e
def aLt (a b:Agr):Bool:=decide (b.owners.l.length<a.owners.l.length)
def cmAf (a b:Agr):Int:=znwt b.owners.l.length a.owners.l.length
noncomputable def T933:Tbl:=addT 54 (.pure cCi) tbl0
theorem z1xk:T933 54 = .pure cCi:=by simp [T933]
theorem zkmg:T933.Sound P:=z0rp zl9z zr5o
theorem zwpt (a b:Agr):Runs T933 a53 [.agg (agC a),.agg (agC b)] (.int .i64 (cmAf a b)):=by
 refine ⟨?_⟩
 unfold cmAf
 simp (disch:=first|omega|simp<;>omega|fail) [-zA,-zB,-zC,-zD,-zE,a53,z1xk,z3mn]
noncomputable def cCmA:List DV→Option DV:=con (fun _=>True) (fun a:Agr × Agr=>[.agg (agC a.1),.agg (agC a.2)]) (fun a => .int .i64 (cmAf a.1 a.2))
theorem zy7t {a b:Agr}:cCmA [.agg (agC a),.agg (agC b)]=some (.int .i64 (cmAf a b)) :=
 zsn4 (f:=fun a:Agr × Agr=>[.agg (agC a.1),.agg (agC a.2)]) (g:=fun a => .int .i64 (cmAf a.1 a.2)) (by
  rintro ⟨a,b⟩ ⟨c,d⟩ e
  simp only [List.cons.injEq,DV.agg.injEq,and_true] at e
  rw [zum4 e.1,zum4 e.2]) (a,b)
noncomputable def TcA:Tbl:=addT 53 (.pure cCmA) tbl0
theorem zszl:TcA 53 = .pure cCmA:=by simp [TcA]
theorem zl1y:TcA.Sound P:=z0rp (z2au fun (a:Agr × Agr) _=>zljw mix zkmg Tryd.func53 zq51 (zwpt a.1 a.2)) zr5o
theorem zml7 {a b:Agr}:(cmAf a b<0)↔aLt a b=true:=by
 unfold cmAf aLt znwt
 split
 ·rename_i h; simp; omega
 ·rename_i h; split<;>simp<;>omega
structure IPg (α:Type) where
 A:List α
 B:List α
def z8u0 {α:Type} (lt:α→α→Bool) (x:α) (B:List α):Prop := ∀ b ∈ B,lt x b=true
theorem z72y {α:Type} {A B R:List α} {x y:α}:((A++[y]++x::(B++R)).set (A.length+1) y).set A.length x=A++x::(y::B++R):=by
 rw [List.append_assoc,List.set_append_right _ _ (by omega),show A.length+1-A.length=1 by omega]
 simp
def S934 (pre:List AObj) (n:Nat) (l:List Vot) (i:Nat):St:=z1ss (.ms pre.length (n*4) 0 4 n (n*4)) (.int .i64 0) (.int .i64 n) (.fn (.func 101) [] []) (.int .i64 i) (pre++[.cells (fl voC (zq4g vLt (l.take i)++l.drop i))])
def S935 (pre:List AObj) (n i:Nat) (x:Vot) (R:List Vot) (a:IPg Vot):St:=z3kc (.ms pre.length (n*4) 0 4 n (n*4)) (.int .i64 0) (.int .i64 n) (.fn (.func 101) [] []) (.int .i64 i) (.int .i64 a.A.length) (pre++[.cells (fl voC (a.A++x::(a.B++R)))])
theorem z8os (pre:List AObj) (l:List Vot) (hb:l.length≤1000000) :
  RunsH TcV a172 [.ms pre.length (l.length*4) 0 4 l.length (l.length*4),.int .i64 0,.int .i64 l.length,(.fn (.func 101) [] [])] (pre++[.cells (fl voC l)]) (.tup []) (pre++[.cells (fl voC (zq4g vLt l))]):=by
 refine ⟨?_⟩
 obtain ⟨n,hn⟩ : ∃ n,l.length=n:=⟨_,rfl⟩
 rw [hn]
 rw [hn] at hb
 simp (disch:=first|omega|simp<;>omega|fail) [-zA,-zB,-zC,-zD,-zE,a172]
 refine zlm5 (S934 pre n l) (fun i=>n+1-i) (fun i=>1≤i∧(i≤n∨n=0)) 1 (z515 (by simp (disch:=first|omega|simp<;>omega|fail) [-zA,-zB,-zC,-zD,-zE,S934,z1ss]) ?_) ⟨by omega,by omega⟩ (fun i hi => ?_)
 ·simp (disch:=first|omega|simp<;>omega|fail) [-zA,-zB,-zC,-zD,-zE,S934,z1ss]
  rw [zk1b (by simp; omega),List.take_append_drop]
 obtain ⟨h1,h2⟩:=hi
 simp (disch:=first|omega|simp<;>omega|fail) [-zA,-zB,-zC,-zD,-zE,znc4,z1ss,S934]
 by_cases h:i<n
 ·have h':(i:Int)<n:=by omega
  have hil:i<l.length:=by omega
  obtain ⟨x,hx⟩ : ∃ x,l[i]=x:=⟨_,rfl⟩
  have hd:l.drop i=x::l.drop (i+1):=by rw [List.drop_eq_getElem_cons hil,hx]
  obtain ⟨Q,hQ⟩ : ∃ Q,zq4g vLt (l.take i)=Q:=⟨_,rfl⟩
  have hQl:Q.length=i:=by rw [← hQ,zmgd]; simp; omega
  have hnext:zq4g vLt (l.take (i+1))=insR vLt x Q:=by rw [List.take_succ_eq_append_getElem hil,zuk7,hQ,hx]
  obtain ⟨R,hR⟩ : ∃ R,l.drop (i+1)=R:=⟨_,rfl⟩
  have hRl:R.length=n-(i+1):=by rw [← hR]; simp; omega
  rw [hd,hQ,hR]
  simp (disch:=first|omega|simp<;>omega|fail) [-zA,-zB,-zC,-zD,-zE,h,h']
  refine zlm5 (S935 pre n i x R) (fun a=>a.A.length) (fun a=>a.A++a.B=Q∧z8u0 vLt x a.B) ⟨Q,[]⟩ (z515 (by simp (disch:=first|omega|simp<;>omega|fail) [-zA,-zB,-zC,-zD,-zE,S935,z3kc,hQl]) (by simp (disch:=first|omega|simp<;>omega|fail) [-zA,-zB,-zC,-zD,-zE,S935,z3kc])) ⟨by simp,fun b hb=>by simp at hb⟩ (fun a ha => ?_)
  obtain ⟨A,B⟩:=a
  obtain ⟨r1,r2⟩:=ha
  simp only at r1 r2
  simp only [S935]
  rcases (List.eq_nil_or_concat A) with rfl|⟨A',y,rfl⟩
  ·have e:insR vLt x Q=x::B:=by rw [← r1]; exact zv9v r2 (.inl rfl)
   have hfin:zq4g vLt (l.take (i+1))++l.drop (i+1)=x::(B++R):=by rw [hnext,e,hR]; rfl
   simp (disch:=first|omega|simp<;>omega|fail) [-zA,-zB,-zC,-zD,-zE,z7bg,z3kc]
   refine ⟨i+1,z515 (by simp (disch:=first|omega|simp<;>omega|fail) [-zA,-zB,-zC,-zD,-zE,S934,z1ss]) (by simp (disch:=first|omega|simp<;>omega|fail) [-zA,-zB,-zC,-zD,-zE,S934,z1ss,hfin]),by omega,by omega,by omega⟩
  ·rw [List.concat_eq_append] at r1
   have hAl:A'.length+1+B.length=i:=by rw [← hQl,← r1]; simp; omega
   rw [List.concat_eq_append]
   obtain ⟨L,hL⟩ : ∃ L,A'++[y]++x::(B++R)=L:=⟨_,rfl⟩
   have hLl:L.length=n:=by rw [← hL]; simp; omega
   obtain ⟨p,hp⟩ : ∃ p,A'.length=p:=⟨_,rfl⟩
   have g1 : ∀ h:p<L.length,L[p]=y:=fun h=>by subst hL hp; simp
   have g2 : ∀ h:p+1<L.length,L[p+1]=x:=fun h=>by subst hL hp; simp [List.getElem_append_right]
   have hs:=z72y (A:=A') (B:=B) (R:=R) (x:=x) (y:=y)
   rw [hL,hp] at hs
   obtain ⟨G,hG⟩ : ∃ G,fl voC L=G:=⟨_,rfl⟩
   have hGl:G.length=n*4:=by rw [← hG,z8lx zu4u,hLl]
   obtain ⟨G2,hG2⟩ : ∃ G2,fl voC (L.set (p+1) y)=G2:=⟨_,rfl⟩
   have hG2l:G2.length=n*4:=by rw [← hG2,z8lx zu4u,List.length_set,hLl]
   have o1:oneC 4 true (G.drop (p*4))=some (.agg (voC y)):=by rw [← hG,zfiy zu4u (by omega),g1]
   have o2:oneC 4 true (G.drop ((p+1)*4))=some (.agg (voC x)):=by rw [← hG,zfiy zu4u (by omega),g2]
   have s1 : ∀ h:List AObj,zy6o h pre.length 4 ((p+1)*4) (.agg (voC y)) (some G)=some (.junk,h.set pre.length (.cells G2)):=fun h=>by rw [← hG,zdvi zu4u (by decide) (fun _=>z0cw) (by omega),hG2]
   have s2 : ∀ h:List AObj,zy6o h pre.length 4 (p*4) (.agg (voC x)) (some G2)=some (.junk,h.set pre.length (.cells (fl voC (A'++x::(y::B++R))))):=fun h=>by rw [← hG2,zdvi zu4u (by decide) (fun _=>z0cw) (by rw [List.length_set]; omega),hs]
   have hv:cCmV [.agg (voC x),.agg (voC y)]=some (.int .i64 (cmVf x y)):=z3b6
   have hq:(cmVf x y<0)↔vLt x y=true:=zvnb
   have t1:((p:Int)+1).toNat=p+1:=by omega
   have t2:(A'++[y]).length=p+1:=by rw [← hp]; simp
   rw [hL,hG,t2]
   cases hc:vLt x y with
   | true =>
    have hq':cmVf x y<0:=hq.2 hc
    simp (disch:=first|omega|simp<;>omega|fail) [-zA,-zB,-zC,-zD,-zE,z7bg,z3kc,hGl,hG2l,o1,o2,s1,s2,t1,zjdk,hv,hq',zjj2,z1zn,zxft]
    refine ⟨⟨A',y::B⟩,z515 (by simp (disch:=first|omega|simp<;>omega|fail) [-zA,-zB,-zC,-zD,-zE,S935,z3kc,hp]) (by simp (disch:=first|omega|simp<;>omega|fail) [-zA,-zB,-zC,-zD,-zE,S935,z3kc]),by simp,by simpa using r1,fun b hb => ?_⟩
    rcases List.mem_cons.1 hb with rfl|hb
    ·exact hc
    ·exact r2 b hb
   | false =>
    have hq':¬ cmVf x y<0:=fun q=>by rw [hq.1 q] at hc; cases hc
    simp (disch:=first|omega|simp<;>omega|fail) [-zA,-zB,-zC,-zD,-zE,z7bg,z3kc,hGl,o1,o2,t1,zjdk,hv,hq',zjj2,z1zn]
    have e:insR vLt x Q=A'++[y]++x::B:=by rw [← r1]; exact zv9v r2 (.inr ⟨A',y,rfl,hc⟩)
    have hfin:zq4g vLt (l.take (i+1))++l.drop (i+1)=L:=by rw [hnext,e,hR,← hL]; simp
    refine ⟨i+1,z515 (by simp (disch:=first|omega|simp<;>omega|fail) [-zA,-zB,-zC,-zD,-zE,S934,z1ss]) (by simp (disch:=first|omega|simp<;>omega|fail) [-zA,-zB,-zC,-zD,-zE,S934,z1ss,hfin,hG]),by omega,by omega,by omega⟩
 ·have h':¬ (i:Int)<n:=by omega
  have e1:l.drop i=[]:=List.drop_of_length_le (by omega)
  have e2:l.take i=l:=List.take_of_length_le (by omega)
  simp (disch:=first|omega|simp<;>omega|fail) [-zA,-zB,-zC,-zD,-zE,h,h',e1,e2]
theorem zrwx (pre:List AObj) (l:List Vot) (n:Nat) (hn:l.length=n) (hb:n≤1000000):RunsH TcV a172 [.ms pre.length (n*4) 0 4 n (n*4),.int .i64 n,.int .i64 n,(.fn (.func 101) [] [])] (pre++[.cells (fl voC l)]) (.tup []) (pre++[.cells (fl voC l)]):=by
 refine ⟨?_⟩
 simp (disch:=first|omega|simp<;>omega|fail) [-zA,-zB,-zC,-zD,-zE,a172]
 refine zlm5 (fun _:Unit=>z1ss (.ms pre.length (n*4) 0 4 n (n*4)) (.int .i64 n) (.int .i64 n) (.fn (.func 101) [] []) (.int .i64 (n+1)) (pre++[.cells (fl voC l)])) (fun _=>0) (fun _=>True) () (z515 (by simp (disch:=first|omega|simp<;>omega|fail) [-zA,-zB,-zC,-zD,-zE,z1ss]) (by simp (disch:=first|omega|simp<;>omega|fail) [-zA,-zB,-zC,-zD,-zE,z1ss])) trivial (fun i _ => ?_)
 have hw:¬ (n:Int)+1<n:=by omega
 simp (disch:=first|omega|simp<;>omega|fail) [-zA,-zB,-zC,-zD,-zE,znc4,z1ss,hw]
theorem zxvc (pre:List AObj) (l:List Vot) (n:Nat) (hn:l.length=n) (hb:n≤1000000):zwy1 P 172 [.ms pre.length (n*4) 0 4 n (n*4),.int .i64 0,.int .i64 n,(.fn (.func 101) [] [])] (pre++[.cells (fl voC l)]) (fun d h=>d = .tup []∧h=pre++[.cells (fl voC (zq4g vLt l))]):=by
 subst hn
 exact zv22 mix zddn Tryd.func172 zyib (z8os pre l hb)
theorem zsmo (pre:List AObj) (l:List Vot) (n:Nat) (hn:l.length=n) (hb:n≤1000000):zwy1 P 172 [.ms pre.length (n*4) 0 4 n (n*4),.int .i64 n,.int .i64 n,(.fn (.func 101) [] [])] (pre++[.cells (fl voC l)]) (fun d h=>d = .tup []∧h=pre++[.cells (fl voC l)]) :=
 zv22 mix zddn Tryd.func172 zyib (zrwx pre l n hn hb)
theorem z0zs (pre:List AObj) (l:List Vot) (n:Nat) (hn:l.length=n) (hb:n≤20):V P (pre++[AObj.cells (fl voC l)]).length a149.code (retH a149.res (.tup []) (pre++[.cells (fl voC (zq4g vLt l))])) ⟨zr5g a149.ntmps [.ms pre.length (n*4) 0 4 n (n*4),.int .i64 n,(.fn (.func 101) [] [])],pre++[.cells (fl voC l)]⟩:=by
 have hlen:(pre++[AObj.cells (fl voC l)]).length=(pre++[AObj.cells (fl voC (zq4g vLt l))]).length:=by simp
 refine zbn1 (V_W mix zr5o ?_)
 simp (disch:=first|omega|simp<;>omega|fail) [-zA,-zB,-zC,-zD,-zE,a149]
 refine zbn1 (V_W mix zr5o ?_)
 simp (disch:=first|omega|simp<;>omega|fail) [-zA,-zB,-zC,-zD,-zE]
 by_cases h:n=20
 ·subst h
  refine zbn1 (z3mo (ztbr (fun b:TwoS=>ze9v (.ms pre.length (20*4) 0 4 20 (20*4)) (.int .i64 20) (.fn (.func 101) [] []) (.int .i64 20) (.int .i64 (ts b 0 20)) (.int .i64 (ts b 20 40)) (pre++[.cells (fl voC (ts b l (zq4g vLt l)))])) (fun b=>ts b 1 0) (fun _=>True) .p (z515 (by simp (disch:=first|omega|simp<;>omega|fail) [-zA,-zB,-zC,-zD,-zE,ze9v,ts_p]) (by simp (disch:=first|omega|simp<;>omega|fail) [-zA,-zB,-zC,-zD,-zE,ze9v,ts_p])) trivial (fun b _ => ?_)))
  cases b with
  | p =>
   simp only [ts_p]
   refine zbn1 (V_W mix zr5o ?_)
   simp (disch:=first|omega|simp<;>omega|fail) [-zA,-zB,-zC,-zD,-zE,zjzn,ze9v]
   refine z3mo (zbn1 (V_W mix (z84q (zxvc pre l 20 hn (by decide))) ?_))
   simp (disch:=first|omega|simp<;>omega|fail) [-zA,-zB,-zC,-zD,-zE,TH_k,zpvh]
   refine zbn1 (V_W mix zr5o ?_)
   simp (disch:=first|omega|simp<;>omega|fail) [-zA,-zB,-zC,-zD,-zE]
   refine V_W mix zr5o ?_
   simp (disch:=first|omega|simp<;>omega|fail) [-zA,-zB,-zC,-zD,-zE]
   exact ⟨.q,z515 (by simp (disch:=first|omega|simp<;>omega|fail) [-zA,-zB,-zC,-zD,-zE,ze9v,ts_q]) (by simp (disch:=first|omega|simp<;>omega|fail) [-zA,-zB,-zC,-zD,-zE,ze9v,ts_q]),Nat.zero_lt_one⟩
  | q =>
   simp only [ts_q]
   refine zbn1 (V_W mix zr5o ?_)
   simp (disch:=first|omega|simp<;>omega|fail) [-zA,-zB,-zC,-zD,-zE,zjzn,ze9v]
   refine zbn1 (V_W mix (z84q (zsmo pre (zq4g vLt l) 20 (by rw [zmgd,hn]) (by decide))) ?_)
   simp (disch:=first|omega|simp<;>omega|fail) [-zA,-zB,-zC,-zD,-zE,TH_k,zpvh]
   refine z3mo (ztbr (fun _:Unit=>z1nc (.ms pre.length (20*4) 0 4 20 (20*4)) (.int .i64 20) (.fn (.func 101) [] []) (.int .i64 20) (pre++[.cells (fl voC (zq4g vLt l))])) (fun _=>0) (fun _=>True) () (z515 (by simp (disch:=first|omega|simp<;>omega|fail) [-zA,-zB,-zC,-zD,-zE,z1nc]) (by simp (disch:=first|omega|simp<;>omega|fail) [-zA,-zB,-zC,-zD,-zE,z1nc])) trivial (fun _ _ => ?_))
   refine zbn1 (V_W mix zr5o ?_)
   simp (disch:=first|omega|simp<;>omega|fail) [-zA,-zB,-zC,-zD,-zE,zpfw,z1nc]
 ·have h1:¬ (20:Int)≤n:=by omega
  have h2:¬ (20:Int)<n:=by omega
  refine zbn1 (z3mo (ztbr (fun _:Unit=>ze9v (.ms pre.length (n*4) 0 4 n (n*4)) (.int .i64 n) (.fn (.func 101) [] []) (.int .i64 20) (.int .i64 0) (.int .i64 20) (pre++[.cells (fl voC l)])) (fun _=>0) (fun _=>True) () (z515 (by simp (disch:=first|omega|simp<;>omega|fail) [-zA,-zB,-zC,-zD,-zE,ze9v]) (by simp (disch:=first|omega|simp<;>omega|fail) [-zA,-zB,-zC,-zD,-zE,ze9v])) trivial (fun _ _ => ?_)))
  refine zbn1 (V_W mix zr5o ?_)
  simp (disch:=first|omega|simp<;>omega|fail) [-zA,-zB,-zC,-zD,-zE,zjzn,ze9v,h1]
  refine zbn1 (V_W mix (z84q (zxvc pre l n hn (by omega))) ?_)
  simp (disch:=first|omega|simp<;>omega|fail) [-zA,-zB,-zC,-zD,-zE,TH_k,zpvh]
  refine z3mo (ztbr (fun _:Unit=>z1nc (.ms pre.length (n*4) 0 4 n (n*4)) (.int .i64 n) (.fn (.func 101) [] []) (.int .i64 20) (pre++[.cells (fl voC (zq4g vLt l))])) (fun _=>0) (fun _=>True) () (z515 (by simp (disch:=first|omega|simp<;>omega|fail) [-zA,-zB,-zC,-zD,-zE,z1nc]) (by simp (disch:=first|omega|simp<;>omega|fail) [-zA,-zB,-zC,-zD,-zE,z1nc])) trivial (fun _ _ => ?_))
  refine zbn1 (V_W mix zr5o ?_)
  simp (disch:=first|omega|simp<;>omega|fail) [-zA,-zB,-zC,-zD,-zE,zpfw,z1nc,h2]
theorem zcau (pre:List AObj) (l:List Vot) (n:Nat) (hn:l.length=n) (hb:n≤20):zwy1 P 149 [.ms pre.length (n*4) 0 4 n (n*4),.int .i64 n,(.fn (.func 101) [] [])] (pre++[.cells (fl voC l)]) (fun d h=>d = .tup []∧h=pre++[.cells (fl voC (zq4g vLt l))]) :=
 zrqk Tryd.func149 zdm8 (z0zs pre l n hn hb)
theorem zl4b (h:List AObj):zwy1 P 100 [.nils,(.fn (.func 101) [] [])] h (fun d h'=>d = .tup []∧h'=h):=by
 have i0:zwy1 P 172 [.nils,.int .i64 0,.int .i64 0,(.fn (.func 101) [] [])] h (fun d h'=>d = .tup []∧h'=h):=by
  refine zv22 mix zddn Tryd.func172 zyib (show RunsH TcV a172 _ _ _ _ from ⟨?_⟩)
  simp (disch:=first|omega|simp<;>omega|fail) [-zA,-zB,-zC,-zD,-zE,a172]
  refine zlm5 (fun _:Unit=>z1ss .nils (.int .i64 0) (.int .i64 0) (.fn (.func 101) [] []) (.int .i64 1) h) (fun _=>0) (fun _=>True) () (z515 (by simp (disch:=first|omega|simp<;>omega|fail) [-zA,-zB,-zC,-zD,-zE,z1ss]) (by simp (disch:=first|omega|simp<;>omega|fail) [-zA,-zB,-zC,-zD,-zE,z1ss])) trivial (fun i _ => ?_)
  simp (disch:=first|omega|simp<;>omega|fail) [-zA,-zB,-zC,-zD,-zE,znc4,z1ss]
 have s0:zwy1 P 149 [.nils,.int .i64 0,(.fn (.func 101) [] [])] h (fun d h'=>d = .tup []∧h'=h):=by
  refine zrqk Tryd.func149 zdm8 ?_
  refine zbn1 (V_W mix zr5o ?_)
  simp (disch:=first|omega|simp<;>omega|fail) [-zA,-zB,-zC,-zD,-zE,a149]
  refine zbn1 (V_W mix zr5o ?_)
  simp (disch:=first|omega|simp<;>omega|fail) [-zA,-zB,-zC,-zD,-zE]
  refine zbn1 (z3mo (ztbr (fun _:Unit=>ze9v .nils (.int .i64 0) (.fn (.func 101) [] []) (.int .i64 20) (.int .i64 0) (.int .i64 20) h) (fun _=>0) (fun _=>True) () (z515 (by simp (disch:=first|omega|simp<;>omega|fail) [-zA,-zB,-zC,-zD,-zE,ze9v]) (by simp (disch:=first|omega|simp<;>omega|fail) [-zA,-zB,-zC,-zD,-zE,ze9v])) trivial (fun _ _ => ?_)))
  refine zbn1 (V_W mix zr5o ?_)
  simp (disch:=first|omega|simp<;>omega|fail) [-zA,-zB,-zC,-zD,-zE,zjzn,ze9v]
  refine zbn1 (V_W mix (z84q i0) ?_)
  simp (disch:=first|omega|simp<;>omega|fail) [-zA,-zB,-zC,-zD,-zE,TH_k,zpvh]
  refine z3mo (ztbr (fun _:Unit=>z1nc .nils (.int .i64 0) (.fn (.func 101) [] []) (.int .i64 20) h) (fun _=>0) (fun _=>True) () (z515 (by simp (disch:=first|omega|simp<;>omega|fail) [-zA,-zB,-zC,-zD,-zE,z1nc]) (by simp (disch:=first|omega|simp<;>omega|fail) [-zA,-zB,-zC,-zD,-zE,z1nc])) trivial (fun _ _ => ?_))
  refine zbn1 (V_W mix zr5o ?_)
  simp (disch:=first|omega|simp<;>omega|fail) [-zA,-zB,-zC,-zD,-zE,zpfw,z1nc]
 refine zv22 mix (z84q s0) Tryd.func100 zec4 (show RunsH _ _ _ _ _ _ from ⟨?_⟩)
 simp (disch:=first|omega|simp<;>omega|fail) [-zA,-zB,-zC,-zD,-zE,a100,TH_k,zpvh]
theorem z3ez (pre:List AObj) (l:List Vot) (hb:l.length≤20):zwy1 P 100 [oV pre.length 4 l,(.fn (.func 101) [] [])] (pre++oT voC l) (fun d h=>d = .tup []∧h=pre++oT voC (zq4g vLt l)):=by
 by_cases e:l=[]
 ·subst e; exact zl4b _
 ·have hs:=zcau pre l l.length rfl hb
  have hfl:(fl voC l).length=l.length*4:=z8lx zu4u l
  rw [zpni e,zu2l e,zu2l (zlvn e)]
  obtain ⟨n,hn⟩ : ∃ n,l.length=n:=⟨_,rfl⟩
  rw [hn] at hs hfl ⊢
  refine zv22 mix (z84q hs) Tryd.func100 zec4 (show RunsH _ _ _ _ _ _ from ⟨?_⟩)
  have hln:lenD (pre++[.cells (fl voC l)]) (.ms pre.length (n*4) 0 4 n (n*4))=some (.int .i64 n):=by rw [z59c,zjj2,z1zn,if_pos hfl]; rfl
  simp (disch:=first|omega|simp<;>omega|fail) [-zA,-zB,-zC,-zD,-zE,a100,hln,TH_k,zpvh]
def S936 (pre:List AObj) (n:Nat) (l:List Agr) (i:Nat):St:=z22c (.ms pre.length (n*5) 0 5 n (n*5)) (.int .i64 0) (.int .i64 n) (.fn (.func 53) [] []) (.int .i64 i) (pre++[.cells (fl agC (zq4g aLt (l.take i)++l.drop i))])
def S937 (pre:List AObj) (n i:Nat) (x:Agr) (R:List Agr) (a:IPg Agr):St:=z0sv (.ms pre.length (n*5) 0 5 n (n*5)) (.int .i64 0) (.int .i64 n) (.fn (.func 53) [] []) (.int .i64 i) (.int .i64 a.A.length) (pre++[.cells (fl agC (a.A++x::(a.B++R)))])
theorem zh4h (pre:List AObj) (l:List Agr) (hb:l.length≤1000000) :
  RunsH TcA a151 [.ms pre.length (l.length*5) 0 5 l.length (l.length*5),.int .i64 0,.int .i64 l.length,(.fn (.func 53) [] [])] (pre++[.cells (fl agC l)]) (.tup []) (pre++[.cells (fl agC (zq4g aLt l))]):=by
 refine ⟨?_⟩
 obtain ⟨n,hn⟩ : ∃ n,l.length=n:=⟨_,rfl⟩
 rw [hn]
 rw [hn] at hb
 simp (disch:=first|omega|simp<;>omega|fail) [-zA,-zB,-zC,-zD,-zE,a151]
 refine zlm5 (S936 pre n l) (fun i=>n+1-i) (fun i=>1≤i∧(i≤n∨n=0)) 1 (z515 (by simp (disch:=first|omega|simp<;>omega|fail) [-zA,-zB,-zC,-zD,-zE,S936,z22c]) ?_) ⟨by omega,by omega⟩ (fun i hi => ?_)
 ·simp (disch:=first|omega|simp<;>omega|fail) [-zA,-zB,-zC,-zD,-zE,S936,z22c]
  rw [zk1b (by simp; omega),List.take_append_drop]
 obtain ⟨h1,h2⟩:=hi
 simp (disch:=first|omega|simp<;>omega|fail) [-zA,-zB,-zC,-zD,-zE,zyfh,z22c,S936]
 by_cases h:i<n
 ·have h':(i:Int)<n:=by omega
  have hil:i<l.length:=by omega
  obtain ⟨x,hx⟩ : ∃ x,l[i]=x:=⟨_,rfl⟩
  have hd:l.drop i=x::l.drop (i+1):=by rw [List.drop_eq_getElem_cons hil,hx]
  obtain ⟨Q,hQ⟩ : ∃ Q,zq4g aLt (l.take i)=Q:=⟨_,rfl⟩
  have hQl:Q.length=i:=by rw [← hQ,zmgd]; simp; omega
  have hnext:zq4g aLt (l.take (i+1))=insR aLt x Q:=by rw [List.take_succ_eq_append_getElem hil,zuk7,hQ,hx]
  obtain ⟨R,hR⟩ : ∃ R,l.drop (i+1)=R:=⟨_,rfl⟩
  have hRl:R.length=n-(i+1):=by rw [← hR]; simp; omega
  rw [hd,hQ,hR]
  simp (disch:=first|omega|simp<;>omega|fail) [-zA,-zB,-zC,-zD,-zE,h,h']
  refine zlm5 (S937 pre n i x R) (fun a=>a.A.length) (fun a=>a.A++a.B=Q∧z8u0 aLt x a.B) ⟨Q,[]⟩ (z515 (by simp (disch:=first|omega|simp<;>omega|fail) [-zA,-zB,-zC,-zD,-zE,S937,z0sv,hQl]) (by simp (disch:=first|omega|simp<;>omega|fail) [-zA,-zB,-zC,-zD,-zE,S937,z0sv])) ⟨by simp,fun b hb=>by simp at hb⟩ (fun a ha => ?_)
  obtain ⟨A,B⟩:=a
  obtain ⟨r1,r2⟩:=ha
  simp only at r1 r2
  simp only [S937]
  rcases (List.eq_nil_or_concat A) with rfl|⟨A',y,rfl⟩
  ·have e:insR aLt x Q=x::B:=by rw [← r1]; exact zv9v r2 (.inl rfl)
   have hfin:zq4g aLt (l.take (i+1))++l.drop (i+1)=x::(B++R):=by rw [hnext,e,hR]; rfl
   simp (disch:=first|omega|simp<;>omega|fail) [-zA,-zB,-zC,-zD,-zE,zmaw,z0sv]
   refine ⟨i+1,z515 (by simp (disch:=first|omega|simp<;>omega|fail) [-zA,-zB,-zC,-zD,-zE,S936,z22c]) (by simp (disch:=first|omega|simp<;>omega|fail) [-zA,-zB,-zC,-zD,-zE,S936,z22c,hfin]),by omega,by omega,by omega⟩
  ·rw [List.concat_eq_append] at r1
   have hAl:A'.length+1+B.length=i:=by rw [← hQl,← r1]; simp; omega
   rw [List.concat_eq_append]
   obtain ⟨L,hL⟩ : ∃ L,A'++[y]++x::(B++R)=L:=⟨_,rfl⟩
   have hLl:L.length=n:=by rw [← hL]; simp; omega
   obtain ⟨p,hp⟩ : ∃ p,A'.length=p:=⟨_,rfl⟩
   have g1 : ∀ h:p<L.length,L[p]=y:=fun h=>by subst hL hp; simp
   have g2 : ∀ h:p+1<L.length,L[p+1]=x:=fun h=>by subst hL hp; simp [List.getElem_append_right]
   have hs:=z72y (A:=A') (B:=B) (R:=R) (x:=x) (y:=y)
   rw [hL,hp] at hs
   obtain ⟨G,hG⟩ : ∃ G,fl agC L=G:=⟨_,rfl⟩
   have hGl:G.length=n*5:=by rw [← hG,z8lx znh2,hLl]
   obtain ⟨G2,hG2⟩ : ∃ G2,fl agC (L.set (p+1) y)=G2:=⟨_,rfl⟩
   have hG2l:G2.length=n*5:=by rw [← hG2,z8lx znh2,List.length_set,hLl]
   have o1:oneC 5 true (G.drop (p*5))=some (.agg (agC y)):=by rw [← hG,zfiy znh2 (by omega),g1]
   have o2:oneC 5 true (G.drop ((p+1)*5))=some (.agg (agC x)):=by rw [← hG,zfiy znh2 (by omega),g2]
   have s1 : ∀ h:List AObj,zy6o h pre.length 5 ((p+1)*5) (.agg (agC y)) (some G)=some (.junk,h.set pre.length (.cells G2)):=fun h=>by rw [← hG,zdvi znh2 (by decide) (fun _=>z892) (by omega),hG2]
   have s2 : ∀ h:List AObj,zy6o h pre.length 5 (p*5) (.agg (agC x)) (some G2)=some (.junk,h.set pre.length (.cells (fl agC (A'++x::(y::B++R))))):=fun h=>by rw [← hG2,zdvi znh2 (by decide) (fun _=>z892) (by rw [List.length_set]; omega),hs]
   have hv:=zy7t (a:=x) (b:=y)
   have hq:=zml7 (a:=x) (b:=y)
   have t1:((p:Int)+1).toNat=p+1:=by omega
   have t2:(A'++[y]).length=p+1:=by rw [← hp]; simp
   rw [hL,hG,t2]
   cases hc:aLt x y with
   | true =>
    have hq':cmAf x y<0:=hq.2 hc
    simp (disch:=first|omega|simp<;>omega|fail) [-zA,-zB,-zC,-zD,-zE,zmaw,z0sv,hGl,hG2l,o1,o2,s1,s2,t1,zszl,hv,hq',zjj2,z1zn,zxft]
    refine ⟨⟨A',y::B⟩,z515 (by simp (disch:=first|omega|simp<;>omega|fail) [-zA,-zB,-zC,-zD,-zE,S937,z0sv,hp]) (by simp (disch:=first|omega|simp<;>omega|fail) [-zA,-zB,-zC,-zD,-zE,S937,z0sv]),by simp,by simpa using r1,fun b hb => ?_⟩
    rcases List.mem_cons.1 hb with rfl|hb
    ·exact hc
    ·exact r2 b hb
   | false =>
    have hq':¬ cmAf x y<0:=fun q=>by rw [hq.1 q] at hc; cases hc
    simp (disch:=first|omega|simp<;>omega|fail) [-zA,-zB,-zC,-zD,-zE,zmaw,z0sv,hGl,o1,o2,t1,zszl,hv,hq',zjj2,z1zn]
    have e:insR aLt x Q=A'++[y]++x::B:=by rw [← r1]; exact zv9v r2 (.inr ⟨A',y,rfl,hc⟩)
    have hfin:zq4g aLt (l.take (i+1))++l.drop (i+1)=L:=by rw [hnext,e,hR,← hL]; simp
    refine ⟨i+1,z515 (by simp (disch:=first|omega|simp<;>omega|fail) [-zA,-zB,-zC,-zD,-zE,S936,z22c]) (by simp (disch:=first|omega|simp<;>omega|fail) [-zA,-zB,-zC,-zD,-zE,S936,z22c,hfin,hG]),by omega,by omega,by omega⟩
 ·have h':¬ (i:Int)<n:=by omega
  have e1:l.drop i=[]:=List.drop_of_length_le (by omega)
  have e2:l.take i=l:=List.take_of_length_le (by omega)
  simp (disch:=first|omega|simp<;>omega|fail) [-zA,-zB,-zC,-zD,-zE,h,h',e1,e2]
theorem zfi5 (pre:List AObj) (l:List Agr) (n:Nat) (hn:l.length=n) (hb:n≤1000000):RunsH TcA a151 [.ms pre.length (n*5) 0 5 n (n*5),.int .i64 n,.int .i64 n,(.fn (.func 53) [] [])] (pre++[.cells (fl agC l)]) (.tup []) (pre++[.cells (fl agC l)]):=by
 refine ⟨?_⟩
 simp (disch:=first|omega|simp<;>omega|fail) [-zA,-zB,-zC,-zD,-zE,a151]
 refine zlm5 (fun _:Unit=>z22c (.ms pre.length (n*5) 0 5 n (n*5)) (.int .i64 n) (.int .i64 n) (.fn (.func 53) [] []) (.int .i64 (n+1)) (pre++[.cells (fl agC l)])) (fun _=>0) (fun _=>True) () (z515 (by simp (disch:=first|omega|simp<;>omega|fail) [-zA,-zB,-zC,-zD,-zE,z22c]) (by simp (disch:=first|omega|simp<;>omega|fail) [-zA,-zB,-zC,-zD,-zE,z22c])) trivial (fun i _ => ?_)
 have hw:¬ (n:Int)+1<n:=by omega
 simp (disch:=first|omega|simp<;>omega|fail) [-zA,-zB,-zC,-zD,-zE,zyfh,z22c,hw]
theorem zbf9 (pre:List AObj) (l:List Agr) (n:Nat) (hn:l.length=n) (hb:n≤1000000):zwy1 P 151 [.ms pre.length (n*5) 0 5 n (n*5),.int .i64 0,.int .i64 n,(.fn (.func 53) [] [])] (pre++[.cells (fl agC l)]) (fun d h=>d = .tup []∧h=pre++[.cells (fl agC (zq4g aLt l))]):=by
 subst hn
 exact zv22 mix zl1y Tryd.func151 z5na (zh4h pre l hb)
theorem zr2f (pre:List AObj) (l:List Agr) (n:Nat) (hn:l.length=n) (hb:n≤1000000):zwy1 P 151 [.ms pre.length (n*5) 0 5 n (n*5),.int .i64 n,.int .i64 n,(.fn (.func 53) [] [])] (pre++[.cells (fl agC l)]) (fun d h=>d = .tup []∧h=pre++[.cells (fl agC l)]) :=
 zv22 mix zl1y Tryd.func151 z5na (zfi5 pre l n hn hb)
theorem zfrq (pre:List AObj) (l:List Agr) (n:Nat) (hn:l.length=n) (hb:n≤20):V P (pre++[AObj.cells (fl agC l)]).length a104.code (retH a104.res (.tup []) (pre++[.cells (fl agC (zq4g aLt l))])) ⟨zr5g a104.ntmps [.ms pre.length (n*5) 0 5 n (n*5),.int .i64 n,(.fn (.func 53) [] [])],pre++[.cells (fl agC l)]⟩:=by
 have hlen:(pre++[AObj.cells (fl agC l)]).length=(pre++[AObj.cells (fl agC (zq4g aLt l))]).length:=by simp
 refine zbn1 (V_W mix zr5o ?_)
 simp (disch:=first|omega|simp<;>omega|fail) [-zA,-zB,-zC,-zD,-zE,a104]
 refine zbn1 (V_W mix zr5o ?_)
 simp (disch:=first|omega|simp<;>omega|fail) [-zA,-zB,-zC,-zD,-zE]
 by_cases h:n=20
 ·subst h
  refine zbn1 (z3mo (ztbr (fun b:TwoS=>zq0a (.ms pre.length (20*5) 0 5 20 (20*5)) (.int .i64 20) (.fn (.func 53) [] []) (.int .i64 20) (.int .i64 (ts b 0 20)) (.int .i64 (ts b 20 40)) (pre++[.cells (fl agC (ts b l (zq4g aLt l)))])) (fun b=>ts b 1 0) (fun _=>True) .p (z515 (by simp (disch:=first|omega|simp<;>omega|fail) [-zA,-zB,-zC,-zD,-zE,zq0a,ts_p]) (by simp (disch:=first|omega|simp<;>omega|fail) [-zA,-zB,-zC,-zD,-zE,zq0a,ts_p])) trivial (fun b _ => ?_)))
  cases b with
  | p =>
   simp only [ts_p]
   refine zbn1 (V_W mix zr5o ?_)
   simp (disch:=first|omega|simp<;>omega|fail) [-zA,-zB,-zC,-zD,-zE,z7sf,zq0a]
   refine z3mo (zbn1 (V_W mix (z84q (zbf9 pre l 20 hn (by decide))) ?_))
   simp (disch:=first|omega|simp<;>omega|fail) [-zA,-zB,-zC,-zD,-zE,TH_k,zpvh]
   refine zbn1 (V_W mix zr5o ?_)
   simp (disch:=first|omega|simp<;>omega|fail) [-zA,-zB,-zC,-zD,-zE]
   refine V_W mix zr5o ?_
   simp (disch:=first|omega|simp<;>omega|fail) [-zA,-zB,-zC,-zD,-zE]
   exact ⟨.q,z515 (by simp (disch:=first|omega|simp<;>omega|fail) [-zA,-zB,-zC,-zD,-zE,zq0a,ts_q]) (by simp (disch:=first|omega|simp<;>omega|fail) [-zA,-zB,-zC,-zD,-zE,zq0a,ts_q]),Nat.zero_lt_one⟩
  | q =>
   simp only [ts_q]
   refine zbn1 (V_W mix zr5o ?_)
   simp (disch:=first|omega|simp<;>omega|fail) [-zA,-zB,-zC,-zD,-zE,z7sf,zq0a]
   refine zbn1 (V_W mix (z84q (zr2f pre (zq4g aLt l) 20 (by rw [zmgd,hn]) (by decide))) ?_)
   simp (disch:=first|omega|simp<;>omega|fail) [-zA,-zB,-zC,-zD,-zE,TH_k,zpvh]
   refine z3mo (ztbr (fun _:Unit=>z9ml (.ms pre.length (20*5) 0 5 20 (20*5)) (.int .i64 20) (.fn (.func 53) [] []) (.int .i64 20) (pre++[.cells (fl agC (zq4g aLt l))])) (fun _=>0) (fun _=>True) () (z515 (by simp (disch:=first|omega|simp<;>omega|fail) [-zA,-zB,-zC,-zD,-zE,z9ml]) (by simp (disch:=first|omega|simp<;>omega|fail) [-zA,-zB,-zC,-zD,-zE,z9ml])) trivial (fun _ _ => ?_))
   refine zbn1 (V_W mix zr5o ?_)
   simp (disch:=first|omega|simp<;>omega|fail) [-zA,-zB,-zC,-zD,-zE,zf8u,z9ml]
 ·have h1:¬ (20:Int)≤n:=by omega
  have h2:¬ (20:Int)<n:=by omega
  refine zbn1 (z3mo (ztbr (fun _:Unit=>zq0a (.ms pre.length (n*5) 0 5 n (n*5)) (.int .i64 n) (.fn (.func 53) [] []) (.int .i64 20) (.int .i64 0) (.int .i64 20) (pre++[.cells (fl agC l)])) (fun _=>0) (fun _=>True) () (z515 (by simp (disch:=first|omega|simp<;>omega|fail) [-zA,-zB,-zC,-zD,-zE,zq0a]) (by simp (disch:=first|omega|simp<;>omega|fail) [-zA,-zB,-zC,-zD,-zE,zq0a])) trivial (fun _ _ => ?_)))
  refine zbn1 (V_W mix zr5o ?_)
  simp (disch:=first|omega|simp<;>omega|fail) [-zA,-zB,-zC,-zD,-zE,z7sf,zq0a,h1]
  refine zbn1 (V_W mix (z84q (zbf9 pre l n hn (by omega))) ?_)
  simp (disch:=first|omega|simp<;>omega|fail) [-zA,-zB,-zC,-zD,-zE,TH_k,zpvh]
  refine z3mo (ztbr (fun _:Unit=>z9ml (.ms pre.length (n*5) 0 5 n (n*5)) (.int .i64 n) (.fn (.func 53) [] []) (.int .i64 20) (pre++[.cells (fl agC (zq4g aLt l))])) (fun _=>0) (fun _=>True) () (z515 (by simp (disch:=first|omega|simp<;>omega|fail) [-zA,-zB,-zC,-zD,-zE,z9ml]) (by simp (disch:=first|omega|simp<;>omega|fail) [-zA,-zB,-zC,-zD,-zE,z9ml])) trivial (fun _ _ => ?_))
  refine zbn1 (V_W mix zr5o ?_)
  simp (disch:=first|omega|simp<;>omega|fail) [-zA,-zB,-zC,-zD,-zE,zf8u,z9ml,h2]
theorem z4t1 (pre:List AObj) (l:List Agr) (n:Nat) (hn:l.length=n) (hb:n≤20):zwy1 P 104 [.ms pre.length (n*5) 0 5 n (n*5),.int .i64 n,(.fn (.func 53) [] [])] (pre++[.cells (fl agC l)]) (fun d h=>d = .tup []∧h=pre++[.cells (fl agC (zq4g aLt l))]) :=
 zrqk Tryd.func104 z0mt (zfrq pre l n hn hb)
theorem z33b (h:List AObj):zwy1 P 52 [.nils,(.fn (.func 53) [] [])] h (fun d h'=>d = .tup []∧h'=h):=by
 have i0:zwy1 P 151 [.nils,.int .i64 0,.int .i64 0,(.fn (.func 53) [] [])] h (fun d h'=>d = .tup []∧h'=h):=by
  refine zv22 mix zl1y Tryd.func151 z5na (show RunsH TcA a151 _ _ _ _ from ⟨?_⟩)
  simp (disch:=first|omega|simp<;>omega|fail) [-zA,-zB,-zC,-zD,-zE,a151]
  refine zlm5 (fun _:Unit=>z22c .nils (.int .i64 0) (.int .i64 0) (.fn (.func 53) [] []) (.int .i64 1) h) (fun _=>0) (fun _=>True) () (z515 (by simp (disch:=first|omega|simp<;>omega|fail) [-zA,-zB,-zC,-zD,-zE,z22c]) (by simp (disch:=first|omega|simp<;>omega|fail) [-zA,-zB,-zC,-zD,-zE,z22c])) trivial (fun i _ => ?_)
  simp (disch:=first|omega|simp<;>omega|fail) [-zA,-zB,-zC,-zD,-zE,zyfh,z22c]
 have s0:zwy1 P 104 [.nils,.int .i64 0,(.fn (.func 53) [] [])] h (fun d h'=>d = .tup []∧h'=h):=by
  refine zrqk Tryd.func104 z0mt ?_
  refine zbn1 (V_W mix zr5o ?_)
  simp (disch:=first|omega|simp<;>omega|fail) [-zA,-zB,-zC,-zD,-zE,a104]
  refine zbn1 (V_W mix zr5o ?_)
  simp (disch:=first|omega|simp<;>omega|fail) [-zA,-zB,-zC,-zD,-zE]
  refine zbn1 (z3mo (ztbr (fun _:Unit=>zq0a .nils (.int .i64 0) (.fn (.func 53) [] []) (.int .i64 20) (.int .i64 0) (.int .i64 20) h) (fun _=>0) (fun _=>True) () (z515 (by simp (disch:=first|omega|simp<;>omega|fail) [-zA,-zB,-zC,-zD,-zE,zq0a]) (by simp (disch:=first|omega|simp<;>omega|fail) [-zA,-zB,-zC,-zD,-zE,zq0a])) trivial (fun _ _ => ?_)))
  refine zbn1 (V_W mix zr5o ?_)
  simp (disch:=first|omega|simp<;>omega|fail) [-zA,-zB,-zC,-zD,-zE,z7sf,zq0a]
  refine zbn1 (V_W mix (z84q i0) ?_)
  simp (disch:=first|omega|simp<;>omega|fail) [-zA,-zB,-zC,-zD,-zE,TH_k,zpvh]
  refine z3mo (ztbr (fun _:Unit=>z9ml .nils (.int .i64 0) (.fn (.func 53) [] []) (.int .i64 20) h) (fun _=>0) (fun _=>True) () (z515 (by simp (disch:=first|omega|simp<;>omega|fail) [-zA,-zB,-zC,-zD,-zE,z9ml]) (by simp (disch:=first|omega|simp<;>omega|fail) [-zA,-zB,-zC,-zD,-zE,z9ml])) trivial (fun _ _ => ?_))
  refine zbn1 (V_W mix zr5o ?_)
  simp (disch:=first|omega|simp<;>omega|fail) [-zA,-zB,-zC,-zD,-zE,zf8u,z9ml]
 refine zv22 mix (z84q s0) Tryd.func52 zil0 (show RunsH _ _ _ _ _ _ from ⟨?_⟩)
 simp (disch:=first|omega|simp<;>omega|fail) [-zA,-zB,-zC,-zD,-zE,a52,TH_k,zpvh]
theorem z1wq (pre:List AObj) (l:List Agr) (hb:l.length≤20):zwy1 P 52 [oV pre.length 5 l,(.fn (.func 53) [] [])] (pre++oT agC l) (fun d h=>d = .tup []∧h=pre++oT agC (zq4g aLt l)):=by
 by_cases e:l=[]
 ·subst e; exact z33b _
 ·have hs:=z4t1 pre l l.length rfl hb
  have hfl:(fl agC l).length=l.length*5:=z8lx znh2 l
  rw [zpni e,zu2l e,zu2l (zlvn e)]
  obtain ⟨n,hn⟩ : ∃ n,l.length=n:=⟨_,rfl⟩
  rw [hn] at hs hfl ⊢
  refine zv22 mix (z84q hs) Tryd.func52 zil0 (show RunsH _ _ _ _ _ _ from ⟨?_⟩)
  have hln:lenD (pre++[.cells (fl agC l)]) (.ms pre.length (n*5) 0 5 n (n*5))=some (.int .i64 n):=by rw [z59c,zjj2,z1zn,if_pos hfl]; rfl
  simp (disch:=first|omega|simp<;>omega|fail) [-zA,-zB,-zC,-zD,-zE,a52,hln,TH_k,zpvh]
end Go.Proofs.YtjknipdiglpnlaaDoor
set_option linter.unusedSimpArgs false
set_option linter.unusedVariables false
namespace Go.Proofs.YtjknipdiglpnlaaDoor
open Go Go.Am
def vtS (s:Spc) (x:Att):Vot:=⟨x.own,⟨s.name,x.rc.m,x.rc.p⟩⟩
def votL (s:Spc) (l:List Att):List Vot:=(eliS s l).map (vtS s)
def votS (s:Spc) (l:List Att):List Vot:=zq4g vLt (votL s l)
theorem zldt (s:Spc) (l:List Att):(votL s l).length≤l.length:=by unfold votL; rw [List.length_map]; exact zusn s l
theorem zz5s (s:Spc) (l:List Att):(votS s l).length≤l.length:=by unfold votS; rw [zmgd]; exact zldt s l
noncomputable def T940:Tbl:=addT 99 (.pure cEli) tbl0
theorem zx3m:T940 99 = .pure cEli:=by simp [T940]
theorem zh0h:T940.Sound P:=z0rp zxn6 zr5o
def S940 (s:Spc) (E:Sl Att) (i:Nat):St:=zgz1 (.mp 0 7 0) (oV 1 4 ((E.l.take i).map (vtS s))) (E.dv 9 atC) (.int .i64 E.l.length) (.int .i64 i) (.cells (spC s)::oT voC ((E.l.take i).map (vtS s)))
theorem zcmx (s:Spc) (l:Sl Att) (hl:l.l.length≤20):V P 0 a47.code (retK a47.res ((ownN (votS s l.l)).dv 4 voC)) ⟨zr5g a47.ntmps [.agg (spC s),l.dv 9 atC],[]⟩:=by
 have hE1:(eliS s l.l).length≤20:=Nat.le_trans (zusn s l.l) hl
 have hE2:(ownN (eliS s l.l)).l=eliS s l.l:=zd8n (by omega)
 have k1:=zbwi (s:=s) (l:=l)
 obtain ⟨E,hE⟩ : ∃ E,ownN (eliS s l.l)=E:=⟨_,rfl⟩
 rw [hE] at hE2 k1
 have hEn:E.l.length≤20:=by rw [hE2]; exact hE1
 have hV:(E.l.map (vtS s))=votL s l.l:=by rw [hE2]; rfl
 refine zbn1 (V_W mix zh0h ?_)
 simp (disch:=first|omega|simp<;>omega|fail) [-zA,-zB,-zC,-zD,-zE,a47]
 refine zbn1 (V_W mix zh0h ?_)
 simp (disch:=first|omega|simp<;>omega|fail) [-zA,-zB,-zC,-zD,-zE]
 refine zbn1 (zbn1 (V_W mix zh0h ?_))
 simp (disch:=first|omega|simp<;>omega|fail) [-zA,-zB,-zC,-zD,-zE,z8s9,zx3m,k1,zu1r]
 refine z3mo (ztbr (S940 s E) (fun i=>E.l.length-i) (fun i=>i≤E.l.length) 0 (z515 (by simp (disch:=first|omega|simp<;>omega|fail) [-zA,-zB,-zC,-zD,-zE,S940,zgz1,zl8p]) (by simp (disch:=first|omega|simp<;>omega|fail) [-zA,-zB,-zC,-zD,-zE,S940,zgz1,zkrk])) (by omega) (fun i hi => ?_))
 simp only [S940]
 refine zbn1 (V_W mix zh0h ?_)
 by_cases h:i<E.l.length
 case neg =>
  have h':¬ (i:Int)<E.l.length:=by omega
  rw [List.take_of_length_le (show E.l.length≤i by omega),hV]
  have hn:(votL s l.l).length≤20:=by rw [← hV,List.length_map]; exact hEn
  have hcall:=z3ez [.cells (spC s)] (votL s l.l) hn
  have hsn:=zigm (k:=1) (l:=votS s l.l) (h:=[AObj.cells (spC s)]) (r:=[]) rfl zu4u zc6g (by have:=zz5s s l.l; omega)
  rw [List.append_nil] at hsn
  simp only [List.cons_append,List.nil_append,List.length_cons,List.length_nil,Nat.zero_add] at hsn hcall
  have hv2:zq4g vLt (votL s l.l)=votS s l.l:=rfl
  rw [hv2] at hcall
  have ho:oV 1 4 (votL s l.l)=oV 1 4 (votS s l.l):=by
   unfold oV
   have e0:(votS s l.l).length=(votL s l.l).length:=zmgd _
   rw [e0]
   by_cases e:votL s l.l=[]
   ·rw [if_pos e,if_pos (by unfold votS; rw [e]; rfl)]
   ·rw [if_neg e,if_neg (show ¬ votS s l.l=[] from zlvn e)]
  rw [ho] at hcall ⊢
  simp (disch:=first|omega|simp<;>omega|fail) [-zA,-zB,-zC,-zD,-zE,zzdb,zgz1,h,h']
  refine zbn1 (V_W mix zh0h ?_)
  simp (disch:=first|omega|simp<;>omega|fail) [-zA,-zB,-zC,-zD,-zE,h,h']
  refine zbn1 (V_W mix (z84q hcall) ?_)
  simp (disch:=first|omega|simp<;>omega|fail) [-zA,-zB,-zC,-zD,-zE,TH_k,zpvh]
  refine zbn1 (V_W mix zh0h ?_)
  simp (disch:=first|omega|simp<;>omega|fail) [-zA,-zB,-zC,-zD,-zE]
  refine V_W mix zh0h ?_
  simp (disch:=first|omega|simp<;>omega|fail) [-zA,-zB,-zC,-zD,-zE,hsn]
 have h':(i:Int)<E.l.length:=by omega
 have hg : ∀ H,zpsc H 9 (E.dv 9 atC) i=some (.ref (atC E.l[i])):=fun H=>zalo zu2q h
 have hs:(E.l.take (i+1)).map (vtS s)=(E.l.take i).map (vtS s)++[vtS s E.l[i]]:=by rw [List.take_succ_eq_append_getElem h,List.map_append]; rfl
 have hlen:((E.l.take i).map (vtS s)).length≤20:=by rw [List.length_map,List.length_take]; omega
 obtain ⟨x,hx⟩ : ∃ x,E.l[i]=x:=⟨_,rfl⟩
 rw [hx] at hg hs
 obtain ⟨L,hL⟩ : ∃ L,(E.l.take i).map (vtS s)=L:=⟨_,rfl⟩
 rw [hL] at hs hlen ⊢
 have hTb : ∀ n,zlf2 n (oT voC L)=true:=fun n=>zd81 zc6g
 have hVb:Am.below (1+(oT voC L).length) (oV 1 4 L)=true:=zv6o
 have hVb':Am.below ((oT voC L).length+1) (oV 1 4 L)=true:=by rw [Nat.add_comm]; exact hVb
 have hap:=zte0 (k:=1) (b:=80) (l:=L) (x:=vtS s x) (h:=[AObj.cells (spC s)]) rfl zu4u (by decide) (by decide) (fun _=>z0cw) (by omega)
 simp only [List.cons_append,List.nil_append] at hap
 simp only [voC,vtS,lkC] at hap
 simp (disch:=first|omega|simp<;>omega|fail) [-zA,-zB,-zC,-zD,-zE,zzdb,zgz1,h,h']
 refine zbn1 (V_W mix zh0h ?_)
 simp (disch:=first|omega|simp<;>omega|fail) [-zA,-zB,-zC,-zD,-zE,h,h']
 refine zbn1 (z3mo (zbn1 (V_W mix zh0h ?_)))
 simp (disch:=first|omega|simp<;>omega|fail) [-zA,-zB,-zC,-zD,-zE,hg]
 refine zs10 (H := .cells (spC s)::oT voC L) (cs:=atC x) (t':=[.junk,.junk,.mp 0 7 0,.junk,.junk,oV 1 4 L,.junk,.ref (atC x),.junk,.junk,E.dv 9 atC,.int .i64 E.l.length,.int .i64 i]++js 22) (by simp (disch:=first|omega|simp<;>omega|fail) [-zA,-zB,-zC,-zD,-zE,zlf2,hTb]) (by simp) ?_ (by simp (disch:=first|omega|simp<;>omega|fail) [-zA,-zB,-zC,-zD,-zE,z1r6,Am.below,hVb',z8b8 _ _ (zu1r E)]) ?_
 ·have e1:=zz5t (H := .cells (spC s)::oT voC L) (cs:=atC x) (off:=0) (z83l x)
  have e2 : ∀ h,mk1 (kLt ((AObj.cells (spC s)::oT voC L).length)) h (oV 1 4 L)=oV 1 4 L:=fun h=>zd3c (by rw [List.length_cons]; exact hVb')
  have e3 : ∀ h,mk1 (kLt ((AObj.cells (spC s)::oT voC L).length)) h (.mp 0 7 0) = .mp 0 7 0:=fun h=>zd3c (by simp [Am.below])
  have e4 : ∀ K h,mk1 K h (E.dv 9 atC)=E.dv 9 atC:=fun K h=>zvft (zu1r E)
  simp only [List.cons_append,List.length_cons,zu2q,List.drop_zero] at e1 e2 e3
  simp (disch:=first|omega|simp<;>omega|fail) [-zA,-zB,-zC,-zD,-zE,e1,e2,e3,e4]
 refine V_W mix zh0h ?_
 simp (disch:=first|omega|simp<;>omega|fail) [-zA,-zB,-zC,-zD,-zE,zkpj,z7jb,zh1e,zwo7,hap]
 refine V_W mix zh0h ?_
 simp (disch:=first|omega|simp<;>omega|fail) [-zA,-zB,-zC,-zD,-zE]
 exact ⟨i+1,z515 (by simp (disch:=first|omega|simp<;>omega|fail) [-zA,-zB,-zC,-zD,-zE,S940,zgz1,hs,vtS]) (by simp (disch:=first|omega|simp<;>omega|fail) [-zA,-zB,-zC,-zD,-zE,S940,zgz1,hs,vtS]),by omega,by omega⟩
noncomputable def cVot:List DV→Option DV:=con (fun a:Spc × Sl Att=>a.2.l.length≤20) (fun a:Spc × Sl Att=>[.agg (spC a.1),a.2.dv 9 atC]) (fun a=>(ownN (votS a.1 a.2.l)).dv 4 voC)
theorem zgda {s:Spc} {l:Sl Att} (h:l.l.length≤20):cVot [.agg (spC s),l.dv 9 atC]=some ((ownN (votS s l.l)).dv 4 voC) :=
 zzno (A:=fun a:Spc × Sl Att=>a.2.l.length≤20) (f:=fun a:Spc × Sl Att=>[.agg (spC a.1),a.2.dv 9 atC]) (g:=fun a=>(ownN (votS a.1 a.2.l)).dv 4 voC) (by
  rintro ⟨a,b⟩ ⟨c,d⟩ e
  simp only [List.cons.injEq,DV.agg.injEq,and_true] at e
  rw [z1d3 e.1,z965 e.2]) (s,l) h
theorem zcdr:(Con.pure cVot).Sound P 47:=z2au fun a h=>znz9 Tryd.func47 zzqr (zcmx a.1 a.2 h)
end Go.Proofs.YtjknipdiglpnlaaDoor
set_option linter.unusedSimpArgs false
set_option linter.unusedVariables false
namespace Go.Proofs.YtjknipdiglpnlaaDoor
open Go Go.Am
def vKey (v:Vot):List Ent × List Ent:=(v.lnk.m.l,v.lnk.p.l)
def ownF (a b:Vot):Bool:=decide (a.own=b.own)
def keyF (a b:Vot):Bool:=decide (vKey a=vKey b)
theorem zf7y {a b:Vot}:zxyz a.lnk b.lnk=keyF a b:=by
 unfold zxyz keyF vKey
 by_cases h1:a.lnk.m.l=b.lnk.m.l<;>by_cases h2:a.lnk.p.l=b.lnk.p.l<;>simp [h1,h2]
theorem zagl (a b:Vot):Runs tbl0 a48 [.agg (voC a),.agg (voC b)] (.bool (ownF a b)):=by
 refine ⟨?_⟩
 unfold ownF
 by_cases h:a.own=b.own
 ·simp (disch:=first|omega|simp<;>omega|fail) [-zA,-zB,-zC,-zD,-zE,a48,h]
 ·simp (disch:=first|omega|simp<;>omega|fail) [-zA,-zB,-zC,-zD,-zE,a48,h]
noncomputable def T950:Tbl:=addT 13 (.pure cSmL) tbl0
theorem zwmo:T950 13 = .pure cSmL:=by simp [T950]
theorem zlbs:T950.Sound P:=z0rp zijq zr5o
theorem z94g (a b:Vot):Runs T950 a51 [.agg (voC a),.agg (voC b)] (.bool (keyF a b)):=by
 refine ⟨?_⟩
 have h:=zfc5 (a:=a.lnk) (b:=b.lnk)
 rw [zf7y] at h
 simp (disch:=first|omega|simp<;>omega|fail) [-zA,-zB,-zC,-zD,-zE,a51,zwmo,h]
noncomputable def cC1:List DV→Option DV:=con (fun _=>True) (fun a:Vot × Vot=>[.agg (voC a.1),.agg (voC a.2)]) (fun a => .bool (ownF a.1 a.2))
noncomputable def cC3:List DV→Option DV:=con (fun _=>True) (fun a:Vot × Vot=>[.agg (voC a.1),.agg (voC a.2)]) (fun a => .bool (keyF a.1 a.2))
theorem z0pp {a b c d:Vot} (e:[DV.agg (voC a),.agg (voC b)]=[.agg (voC c),.agg (voC d)]):a=c∧b=d:=by
 simp only [List.cons.injEq,DV.agg.injEq,and_true] at e
 exact ⟨zkbi e.1,zkbi e.2⟩
noncomputable def F1:SF:=⟨48,ownF,cC1,fun a b=>zsn4 (f:=fun a:Vot × Vot=>[.agg (voC a.1),.agg (voC a.2)]) (g:=fun a => .bool (ownF a.1 a.2)) (by
 rintro ⟨a,b⟩ ⟨c,d⟩ e
 obtain ⟨rfl,rfl⟩:=z0pp e; rfl) (a,b),z2au fun (a:Vot × Vot) _=>zljw mix zr5o Tryd.func48 zwi2 (zagl a.1 a.2)⟩
noncomputable def F3:SF:=⟨51,keyF,cC3,fun a b=>zsn4 (f:=fun a:Vot × Vot=>[.agg (voC a.1),.agg (voC a.2)]) (g:=fun a => .bool (keyF a.1 a.2)) (by
 rintro ⟨a,b⟩ ⟨c,d⟩ e
 obtain ⟨rfl,rfl⟩:=z0pp e; rfl) (a,b),z2au fun (a:Vot × Vot) _=>zljw mix zlbs Tryd.func51 z8rx (z94g a.1 a.2)⟩
theorem znwp:F1.dv = .fn (.func 48) [] []:=rfl
theorem zpo2:F3.dv = .fn (.func 51) [] []:=rfl
def difH (g:Sl Vot) (v:Vot):Bool:=match g.l with
 | []=>false
 | w::_ => !decide (vKey v=vKey w)
theorem zfex (g:Sl Vot) (v:Vot) (hg:g.l≠[]):Runs T950 a50 [.agg (voC v),.ref [g.dv 4 voC]] (.bool (difH g v)):=by
 refine ⟨?_⟩
 cases e:g.l with
 | nil=>exact absurd e hg
 | cons w r =>
  have hi : ∀ H,zpsc H 4 (g.dv 4 voC) 0=some (.ref (voC w)):=fun H=>by
   have:=zalo (h:=H) (x:=g) (i:=0) zu4u (by rw [e]; simp)
   rw [show ((0:Nat):Int)=0 from rfl] at this
   rw [this]; simp [e]
  have h:=zfc5 (a:=v.lnk) (b:=w.lnk)
  rw [zf7y] at h
  have hr:difH g v = !keyF v w:=by unfold difH keyF; rw [e]
  simp (disch:=first|omega|simp<;>omega|fail) [-zA,-zB,-zC,-zD,-zE,a50,hi,zwmo,h,hr]
noncomputable def cC2:List DV→Option DV:=con (fun a:Sl Vot × Vot=>a.1.l≠[]) (fun a=>[.agg (voC a.2),.ref [a.1.dv 4 voC]]) (fun a => .bool (difH a.1 a.2))
theorem zf6o {g:Sl Vot} {v:Vot} (h:g.l≠[]):cC2 [.agg (voC v),.ref [g.dv 4 voC]]=some (.bool (difH g v)) :=
 zzno (A:=fun a:Sl Vot × Vot=>a.1.l≠[]) (f:=fun a:Sl Vot × Vot=>[.agg (voC a.2),.ref [a.1.dv 4 voC]]) (g:=fun a => .bool (difH a.1 a.2)) (by
  rintro ⟨a,b⟩ ⟨c,d⟩ e
  simp only [List.cons.injEq,DV.agg.injEq,DV.ref.injEq,and_true] at e
  rw [zkbi e.1,z22s e.2]) (g,v) h
theorem z0w6:(Con.pure cC2).Sound P 50:=z2au fun a h=>zljw mix zlbs Tryd.func50 z12y (zfex a.1 a.2 h)
noncomputable def T951:Tbl:=addT 50 (.pure cC2) tbl0
theorem zqyt:T951 50 = .pure cC2:=by simp [T951]
theorem zksh:T951.Sound P:=z0rp z0w6 zr5o
def c2fn (g:Sl Vot):DV := .fn (.func 50) [] [.ref [g.dv 4 voC]]
def S951 (x g:Sl Vot) (i:Nat):St:=zxhp (x.dv 4 voC) (c2fn g) (.int .i64 x.l.length) (.int .i64 i) []
theorem zzhn (x g:Sl Vot) (hx:g.l≠[]):Runs T951 a103 [x.dv 4 voC,c2fn g] (.int .i64 (fIx (difH g) x.l)):=by
 refine ⟨?_⟩
 have hb:=x.b
 simp (disch:=first|omega|simp<;>omega|fail) [-zA,-zB,-zC,-zD,-zE,a103]
 refine zlm5 (S951 x g) (fun i=>x.l.length-i) (fun i=>i≤x.l.length ∧ ∀ j (h:j<x.l.length),j<i→difH g x.l[j]=false) 0 (z515 (by simp (disch:=first|omega|simp<;>omega|fail) [-zA,-zB,-zC,-zD,-zE,S951,zxhp]) (by simp (disch:=first|omega|simp<;>omega|fail) [-zA,-zB,-zC,-zD,-zE,S951,zxhp])) ⟨by omega,fun j _ hj=>by omega⟩ (fun i hi => ?_)
 obtain ⟨q1,q2⟩:=hi
 simp only [S951]
 by_cases q:i<x.l.length
 ·have g':(i:Int)<x.l.length:=by omega
  have hy : ∀ H,zpsc H 4 (x.dv 4 voC) i=some (.ref (voC x.l[i])):=fun H=>zalo zu4u q
  have hc:=zf6o (v:=x.l[i]) hx
  have hinv:difH g x.l[i]=false → ∀ j (h:j<x.l.length),j<i+1→difH g x.l[j]=false:=fun e j hj hji=>by
   by_cases ej:j=i
   ·subst ej; exact e
   ·exact q2 j hj (by omega)
  have hr:difH g x.l[i]=true→fIx (difH g) x.l=i:=fun e=>z67l q e q2
  obtain ⟨u,hu⟩ : ∃ u,x.l[i]=u:=⟨_,rfl⟩
  rw [hu] at hy hc hinv hr
  cases e:difH g u with
  | true =>
   have hr:=hr e
   rw [e] at hc
   simp (disch:=first|omega|simp<;>omega|fail) [-zA,-zB,-zC,-zD,-zE,zcwx,zxhp,q,g',hy,zhol,c2fn,zqyt,hc,hr,znfs]
  | false =>
   have hinv:=hinv e
   rw [e] at hc
   simp (disch:=first|omega|simp<;>omega|fail) [-zA,-zB,-zC,-zD,-zE,zcwx,zxhp,q,g',hy,zhol,c2fn,zqyt,hc,znfs]
   exact ⟨i+1,z515 (by simp (disch:=first|omega|simp<;>omega|fail) [-zA,-zB,-zC,-zD,-zE,S951,zxhp,c2fn]) (by simp (disch:=first|omega|simp<;>omega|fail) [-zA,-zB,-zC,-zD,-zE,S951,zxhp]),by omega,by omega,fun j h hj=>by simpa using hinv j h hj⟩
 ·have g':¬ (i:Int)<x.l.length:=by omega
  have hr:fIx (difH g) x.l = -1:=zf0r fun a ha=>by
   obtain ⟨j,hj,e⟩:=List.getElem_of_mem ha
   have:=q2 j hj (by omega)
   rw [e] at this; exact this
  simp (disch:=first|omega|simp<;>omega|fail) [-zA,-zB,-zC,-zD,-zE,zcwx,zxhp,q,g',hr]
theorem z75j {a b c d:Sl Vot} (e:[a.dv 4 voC,c2fn b]=[c.dv 4 voC,c2fn d]):a=c∧b=d:=by
 simp only [List.cons.injEq,c2fn,DV.fn.injEq,DV.ref.injEq,and_true,true_and] at e
 exact ⟨z22s e.1,z22s e.2⟩
noncomputable def cVix:List DV→Option DV:=con (fun a:Sl Vot × Sl Vot=>a.2.l≠[]) (fun a=>[a.1.dv 4 voC,c2fn a.2]) (fun a => .int .i64 (fIx (difH a.2) a.1.l))
theorem zrjl {x g:Sl Vot} (h:g.l≠[]):cVix [x.dv 4 voC,c2fn g]=some (.int .i64 (fIx (difH g) x.l)) :=
 zzno (A:=fun a:Sl Vot × Sl Vot=>a.2.l≠[]) (f:=fun a:Sl Vot × Sl Vot=>[a.1.dv 4 voC,c2fn a.2]) (g:=fun a => .int .i64 (fIx (difH a.2) a.1.l)) (by
  rintro ⟨a,b⟩ ⟨c,d⟩ e
  obtain ⟨rfl,rfl⟩:=z75j e; rfl) (x,g) h
theorem zeus:(Con.pure cVix).Sound P 103:=z2au fun a h=>zljw mix zksh Tryd.func103 zawu (zzhn a.1 a.2 h)
noncomputable def T952:Tbl:=addT 103 (.pure cVix) tbl0
theorem zuew:T952 103 = .pure cVix:=by simp [T952]
theorem zu1a:T952.Sound P:=z0rp zeus zr5o
theorem z8ez {α:Type} (p:α→Bool) (l:List α):decide (0≤fIx p l)=l.any p:=by
 rcases za4c p l with ⟨h,h2⟩|⟨i,hi,h,h2,_⟩
 ·have:l.any p=false:=by rw [List.any_eq_false]; exact fun x hx=>by rw [h2 x hx]; simp
  rw [this,h]; simp
 ·have:l.any p=true:=List.any_eq_true.2 ⟨l[i],List.getElem_mem hi,h2⟩
  rw [this,h]; simp
theorem z3k4 {g:Sl Vot}:g.l.any (difH g)=badG vKey g.l:=by
 cases e:g.l with
 | nil=>rfl
 | cons w r =>
  have:difH g=fun v => !decide (vKey v=vKey w):=funext fun v=>by unfold difH; rw [e]
  rw [this]; rfl
theorem zlqz (g:Sl Vot) (hx:g.l≠[]):Runs T952 a49 [g.dv 4 voC,c2fn g] (.bool (badG vKey g.l)):=by
 refine ⟨?_⟩
 have h:=zrjl (x:=g) hx
 have h2:=z8ez (difH g) g.l
 rw [z3k4] at h2
 obtain ⟨k,hk⟩ : ∃ k,fIx (difH g) g.l=k:=⟨_,rfl⟩
 rw [hk] at h h2
 have hp:zyp8 (c2fn g)=true:=by simp [c2fn,zyp8,zbao,znfs]
 rw [← h2]
 by_cases e:0≤k
 ·simp (disch:=first|omega|simp<;>omega|fail) [-zA,-zB,-zC,-zD,-zE,a49,zuew,h,hp,znfs,e]
 ·simp (disch:=first|omega|simp<;>omega|fail) [-zA,-zB,-zC,-zD,-zE,a49,zuew,h,hp,znfs,e]
noncomputable def cVcf:List DV→Option DV:=con (fun g:Sl Vot=>g.l≠[]) (fun g=>[g.dv 4 voC,c2fn g]) (fun g => .bool (badG vKey g.l))
theorem za00 {g:Sl Vot} (h:g.l≠[]):cVcf [g.dv 4 voC,c2fn g]=some (.bool (badG vKey g.l)) :=
 zzno (A:=fun g:Sl Vot=>g.l≠[]) (f:=fun g:Sl Vot=>[g.dv 4 voC,c2fn g]) (g:=fun g => .bool (badG vKey g.l)) (by
  rintro a b e
  obtain ⟨rfl,_⟩:=z75j e; rfl) g h
theorem z3dh:(Con.pure cVcf).Sound P 49:=z2au fun a h=>zljw mix zu1a Tryd.func49 zdc4 (zlqz a h)
end Go.Proofs.YtjknipdiglpnlaaDoor
set_option linter.unusedSimpArgs false
set_option linter.unusedVariables false
namespace Go.Proofs.YtjknipdiglpnlaaDoor
open Go Go.Am
section
variable {α:Type} {f:α→List DV} {K:Nat}
theorem zwbu {k:Nat} {l:List α} {h r:List AObj} (hp:h.length=k) (hu : ∀ a,(f a).length=K) (e:l≠[]):objV (h++(oT f l++r)) k (l.length*K)=some (fl f l):=by
 rw [zu2l e]
 unfold objV ziu0
 rw [List.getElem?_append_right (by omega),show k-h.length=0 by omega]
 simp [z8lx hu]
theorem zjkm {k b:Nat} {l:List α} {x:α} {h r:List AObj} (hp:h.length=k) (hu : ∀ a,(f a).length=K) (h0:0<K) (hb:b≤16384) (ha : ∀ a,(f a).all DV.one=true) (hbig:l.length+1≤4294967296) (e:l≠[]) :
  appX (h++(oT f l++r)) K b (oV k K l) 1 (f x)=some (oV k K (l++[x]),h++(oT f (l++[x])++r)):=by
 have ho:=zwbu (r:=r) (f:=f) hp hu e
 have:=zkg3 (h:=h++(oT f l++r)) (id:=k) (b:=b) (l:=l) (x:=x) hu h0 hb ha hbig ho
 rw [zpni e,this,zpni (by simp),zu2l e,zu2l (by simp),List.length_append,List.set_append_right _ _ (by omega),show k-h.length=0 by omega]
 simp
theorem zlgn {l:List α} (e:l≠[]):(oT f l).length=1:=by rw [zu2l e]; rfl
theorem z2a4 {k n:Nat} {l:List α} {h r:List AObj} (hp:h.length=k) (hk:n≤k) (hu : ∀ a,(f a).length=K) (hf : ∀ a,zbao (f a)=true) (hb:l.length≤4294967296):mk1 (kLt n) (h++(oT f l++r)) (oV k K l)=(ownN l).dv K f:=by
 by_cases e:l=[]
 ·subst e; rw [zl8p,z2i7]; exact zhx5
 ·refine zwy6 ?_
  have ho:=zwbu (r:=r) (f:=f) hp hu e
  rw [zpni e,zi9r,if_neg (by simp [kLt]; omega),ho,Option.bind_some,List.drop_zero,z590 hu,List.take_length,zl6f (zp6k hf _),zgr3 e hb]; rfl
end
structure CI where
 f:Bool
 S:List Vot
 Q:List Str
def CI.H (c:CI):List AObj:=if c.f then oT voC c.S++oT stC c.Q else oT stC c.Q++oT voC c.S
def CI.sv (c:CI):DV:=oV (if c.f then 1 else 1+(oT stC c.Q).length) 4 c.S
def CI.qv (c:CI):DV:=oV (if c.f then 1+(oT voC c.S).length else 1) 1 c.Q
structure CI.Ok (c:CI):Prop where
 a:c.f=true→c.S=[]→c.Q=[]
 b:c.f=false→c.Q=[]→c.S=[]
def CI.adS (c:CI) (x:Vot):CI:=⟨if c.Q=[] then true else c.f,c.S++[x],c.Q⟩
def CI.adQ (c:CI) (y:Str):CI:=⟨if c.S=[] then false else c.f,c.S,c.Q++[y]⟩
theorem zlxs (y:Str):(stC y).all DV.one=true:=rfl
theorem CI.app_S {c:CI} (g:c.Ok) {o:AObj} {x:Vot} (hb:c.S.length+1≤4294967296):appX (o::c.H) 4 80 c.sv 1 (voC x)=some ((c.adS x).sv,o::(c.adS x).H)∧(c.adS x).qv=c.qv∧(c.adS x).Ok:=by
 obtain ⟨f,S,Q⟩:=c
 by_cases hQ:Q=[]
 ·subst hQ
  have e:=zte0 (k:=1) (b:=80) (l:=S) (x:=x) (h:=[o]) rfl zu4u (by decide) (by decide) (fun _=>z0cw) hb
  simp only [List.cons_append,List.nil_append] at e
  refine ⟨?_,?_,⟨fun _ h=>by simp [adS] at h,fun h _=>by simp [adS] at h⟩⟩
  ·cases f<;>simp [adS,H,sv,zkrk,e]
  ·cases f<;>simp [adS,qv,zl8p]
 ·cases f with
  | true =>
   have hS:S≠[]:=fun e=>hQ (g.a rfl e)
   have e:=zjkm (k:=1) (b:=80) (l:=S) (x:=x) (h:=[o]) (r:=oT stC Q) rfl zu4u (by decide) (by decide) (fun _=>z0cw) hb hS
   simp only [List.cons_append,List.nil_append] at e
   refine ⟨by simp [adS,H,sv,e],by simp [adS,qv,zlgn hS,zlgn (show S++[x]≠[] by simp)],⟨fun _ h=>by simp [adS] at h,fun h _=>by simp [adS,hQ] at h⟩⟩
  | false =>
   have e:=zte0 (k:=1+(oT stC Q).length) (b:=80) (l:=S) (x:=x) (h:=o::oT stC Q) (by simp; omega) zu4u (by decide) (by decide) (fun _=>z0cw) hb
   simp only [List.cons_append] at e
   refine ⟨by simp [adS,H,sv,e,hQ],by simp [adS,qv,hQ],⟨fun _ h=>by simp [adS] at h,fun _ h=>absurd h hQ⟩⟩
theorem CI.app_Q {c:CI} (g:c.Ok) {o:AObj} {y:Str} (hb:c.Q.length+1≤4294967296):appX (o::c.H) 1 16 c.qv 1 [.str y]=some ((c.adQ y).qv,o::(c.adQ y).H)∧(c.adQ y).sv=c.sv∧(c.adQ y).Ok:=by
 obtain ⟨f,S,Q⟩:=c
 by_cases hS:S=[]
 ·subst hS
  have e:=zte0 (f:=stC) (k:=1) (b:=16) (l:=Q) (x:=y) (h:=[o]) rfl (fun _=>rfl) (by decide) (by decide) zlxs hb
  rw [show stC y=[DV.str y] from rfl] at e
  simp only [List.cons_append,List.nil_append] at e
  refine ⟨?_,?_,⟨fun h _=>by simp [adQ] at h,fun _ h=>by simp [adQ] at h⟩⟩
  ·cases f<;>simpa [adQ,H,qv,zkrk] using e
  ·cases f<;>simp [adQ,sv,zl8p]
 ·cases f with
  | false =>
   have hQ:Q≠[]:=fun e=>hS (g.b rfl e)
   have e:=zjkm (f:=stC) (k:=1) (b:=16) (l:=Q) (x:=y) (h:=[o]) (r:=oT voC S) rfl (fun _=>rfl) (by decide) (by decide) zlxs hb hQ
   rw [show stC y=[DV.str y] from rfl] at e
   simp only [List.cons_append,List.nil_append] at e
   refine ⟨by simpa [adQ,H,qv] using e,by simp [adQ,sv,zlgn hQ,zlgn (show Q++[y]≠[] by simp)],⟨fun h _=>by simp [adQ,hS] at h,fun _ h=>by simp [adQ] at h⟩⟩
  | true =>
   have e:=zte0 (f:=stC) (k:=1+(oT voC S).length) (b:=16) (l:=Q) (x:=y) (h:=o::oT voC S) (by simp; omega) (fun _=>rfl) (by decide) (by decide) zlxs hb
   rw [show stC y=[DV.str y] from rfl] at e
   simp only [List.cons_append] at e
   refine ⟨by simpa [adQ,H,qv,hS] using e,by simp [adQ,sv,hS],⟨fun _ h=>absurd h hS,fun _ h=>by simp [adQ] at h⟩⟩
theorem z0tx (a:Str):zbao (stC a)=true:=rfl
theorem CI.H_below {c:CI} {n:Nat}:zlf2 n c.H=true:=by
 unfold CI.H
 have h1:zlf2 n (oT voC c.S)=true:=zd81 zc6g
 have h2:zlf2 n (oT stC c.Q)=true:=zd81 z0tx
 have ap : ∀ a b:List AObj,zlf2 n a=true→zlf2 n b=true→zlf2 n (a++b)=true:=by
  intro a b ha hb
  induction a with
  | nil=>exact hb
  | cons o r ih =>
   cases o with
   | cells cs=>simp only [List.cons_append,zlf2,Bool.and_eq_true] at ha ⊢; exact ⟨ha.1,ih ha.2⟩
   | dead=>simp only [List.cons_append,zlf2] at ha ⊢; exact ih ha
 split
 ·exact ap _ _ h1 h2
 ·exact ap _ _ h2 h1
theorem CI.sv_below {c:CI}:Am.below (c.H.length+1) c.sv=true:=by
 obtain ⟨f,S,Q⟩:=c
 by_cases e:S=[]
 ·subst e; rfl
 ·have:=zlgn (f:=voC) e
  cases f<;>simp [CI.H,CI.sv,zpni e,Am.below,this]<;>omega
theorem CI.qv_below {c:CI}:Am.below (c.H.length+1) c.qv=true:=by
 obtain ⟨f,S,Q⟩:=c
 by_cases e:Q=[]
 ·subst e; cases f<;>rfl
 ·have:=zlgn (f:=stC) e
  cases f<;>simp [CI.H,CI.qv,zpni e,Am.below,this]<;>omega
theorem CI.sv_mk {c:CI} {o:AObj} (hb:c.S.length≤4294967296):mk1 (kLt 1) (o::c.H) c.sv=(ownN c.S).dv 4 voC:=by
 obtain ⟨f,S,Q⟩:=c
 cases f with
 | true =>
  have:=z2a4 (k:=1) (n:=1) (l:=S) (h:=[o]) (r:=oT stC Q) rfl (by decide) zu4u zc6g hb
  simpa [CI.H,CI.sv] using this
 | false =>
  have:=z2a4 (k:=1+(oT stC Q).length) (n:=1) (l:=S) (h:=o::oT stC Q) (r:=[]) (by simp; omega) (by omega) zu4u zc6g hb
  simpa [CI.H,CI.sv] using this
theorem CI.qv_mk {c:CI} {o:AObj} (hb:c.Q.length≤4294967296):mk1 (kLt 1) (o::c.H) c.qv=(ownN c.Q).dv 1 stC:=by
 obtain ⟨f,S,Q⟩:=c
 cases f with
 | false =>
  have:=z2a4 (f:=stC) (K:=1) (k:=1) (n:=1) (l:=Q) (h:=[o]) (r:=oT voC S) rfl (by decide) (fun _=>rfl) z0tx hb
  simpa [CI.H,CI.qv] using this
 | true =>
  have:=z2a4 (f:=stC) (K:=1) (k:=1+(oT voC S).length) (n:=1) (l:=Q) (h:=o::oT voC S) (r:=[]) (by simp; omega) (by omega) (fun _=>rfl) z0tx hb
  simpa [CI.H,CI.qv] using this
theorem zy4i {P:Program} {n0:Nat} {x:ACode} {Φ:AExit→St→Prop} {t t':List DV} {o:AObj} {cs:List DV} {r:List AObj} (ho:o = .cells cs) (hp:zbao cs=true) (hn:n0≤1)
  (ht:znqe (mkL (kLt 1) (o::r) t) t') (hb:z1r6 1 t'=true) (h:V P n0 x Φ ⟨t',[o]⟩):V P n0 x Φ ⟨t,o::r⟩:=by
 subst ho
 refine V_mk (kLt 1) ?_
 rw [ztik,if_pos (by simp [kLt]),zrip hp]
 exact zqfd (zju2 (h':=[.cells cs]) (tail:=mkO (kLt 1) (.cells cs::r) 1 r) ht rfl (by simpa using hn) hb (by simp [zlf2,zmq5 _ _ hp])) h
end Go.Proofs.YtjknipdiglpnlaaDoor
set_option linter.unusedSimpArgs false
set_option linter.unusedVariables false
namespace Go.Proofs.YtjknipdiglpnlaaDoor
open Go Go.Am
def sngL (L:List (Sl Vot)):List Vot:=(L.filter fun g => !badG vKey g.l).filterMap fun g=>g.l.head?
def eqvL (L:List (Sl Vot)):List Str:=(L.filter fun g=>badG vKey g.l).filterMap fun g=>g.l.head?.map Vot.own
theorem z76h {L:List (Sl Vot)} {g:Sl Vot} {w:Vot} {r:List Vot} (h:g.l=w::r):sngL (L++[g])=sngL L++(if badG vKey g.l then [] else [w]):=by
 unfold sngL
 rw [List.filter_append,List.filterMap_append]
 cases q:badG vKey g.l<;>rw [List.filter_cons,q]<;>simp [h]
theorem zcag {L:List (Sl Vot)} {g:Sl Vot} {w:Vot} {r:List Vot} (h:g.l=w::r):eqvL (L++[g])=eqvL L++(if badG vKey g.l then [w.own] else []):=by
 unfold eqvL
 rw [List.filter_append,List.filterMap_append]
 cases q:badG vKey g.l<;>rw [List.filter_cons,q]<;>simp [h]
theorem zuz9 (L:List (Sl Vot)):(sngL L).length≤L.length:=Nat.le_trans (List.length_filterMap_le _ _) (List.length_filter_le _ _)
theorem zc5h (L:List (Sl Vot)):(eqvL L).length≤L.length:=Nat.le_trans (List.length_filterMap_le _ _) (List.length_filter_le _ _)
theorem zylz {y:Str}:bslD 1 1 [.str []] [(0,1,.str y)]=some (.sl true 1 1 [.str y]):=by
 simp [bslD,zi03,zk7y,reps,rep]
noncomputable def T954:Tbl:=addT 49 (.pure cVcf) tbl0
theorem zu7v:T954 49 = .pure cVcf:=by simp [T954]
theorem zslj:T954.Sound P:=z0rp z3dh zr5o
structure CJ where
 c:CI
 i:Nat
def S954 (s:Spc) (G:Sl (Sl Vot)) (a:CJ):St:=z7en a.c.sv a.c.qv (G.dv 1 gC) (.int .i64 G.l.length) (.int .i64 a.i) (.cells (spC s)::a.c.H)
structure CJok (G:Sl (Sl Vot)) (a:CJ):Prop where
 hi:a.i≤G.l.length
 ok:a.c.Ok
 s:a.c.S=sngL (G.l.take a.i)
 q:a.c.Q=eqvL (G.l.take a.i)
theorem zh6a {s:Spc} {G:Sl (Sl Vot)} (hG:G.l.length≤20) (hne : ∀ g ∈ G.l,g.l≠[]) {Φ:AExit→St→Prop} (a:CJ) (ha:CJok G a)
  (hexit : ∀ c:CI,c.Ok→c.S=sngL G.l→c.Q=eqvL G.l→Φ (.exit 0) ⟨js 6++[c.sv,c.qv]++js 69,.cells (spC s)::c.H⟩)
  (hw : ∀ st st',Weak 0 st st'→Φ (.exit 0) st'→Φ (.exit 0) st) :
  V P 0 zv5f (z13e 0 (S954 s G) (fun a=>G.l.length-a.i) (CJok G) a Φ) (S954 s G a):=by
 obtain ⟨hi,ok,hs,hq⟩:=ha
 simp only [S954]
 refine zbn1 (V_W mix zslj ?_)
 by_cases h:a.i<G.l.length
 case neg =>
  have h':¬ (a.i:Int)<G.l.length:=by omega
  rw [List.take_of_length_le (show G.l.length≤a.i by omega)] at hs hq
  have hx:=hexit a.c ok hs hq
  simp (disch:=first|omega|simp<;>omega|fail) [-zA,-zB,-zC,-zD,-zE,zv5f,z7en,h,h']
  refine zbn1 (V_W mix zslj ?_)
  simp (disch:=first|omega|simp<;>omega|fail) [-zA,-zB,-zC,-zD,-zE,h,h']
  refine hw _ _ (z515 ?_ rfl) hx
  simp (disch:=first|omega|simp<;>omega|fail) [-zA,-zB,-zC,-zD,-zE]
 have h':(a.i:Int)<G.l.length:=by omega
 have hg : ∀ H,zpsc H 1 (G.dv 1 gC) a.i=some (.ref (gC G.l[a.i])):=fun H=>zalo zfnv h
 have hgne:=hne _ (List.getElem_mem h)
 have e1:=List.take_succ_eq_append_getElem h
 obtain ⟨g,hgg⟩ : ∃ g,G.l[a.i]=g:=⟨_,rfl⟩
 rw [hgg] at hg hgne e1
 obtain ⟨w,r,hwr⟩ : ∃ w r,g.l=w::r:=by
  cases e:g.l with
  | nil=>exact absurd e hgne
  | cons w r=>exact ⟨w,r,rfl⟩
 have hsn:=z76h (L:=G.l.take a.i) hwr
 have hqn:=zcag (L:=G.l.take a.i) hwr
 rw [← e1,← hs] at hsn
 rw [← e1,← hq] at hqn
 have hlS:a.c.S.length≤20:=by have:=zuz9 (G.l.take a.i); rw [← hs,List.length_take] at this; omega
 have hlQ:a.c.Q.length≤20:=by have:=zc5h (G.l.take a.i); rw [← hq,List.length_take] at this; omega
 have hHb : ∀ n,zlf2 n a.c.H=true:=fun n=>CI.H_below
 have hsb:Am.below (a.c.H.length+1) a.c.sv=true:=CI.sv_below
 have hqb:Am.below (a.c.H.length+1) a.c.qv=true:=CI.qv_below
 have apS:=CI.app_S ok (o := .cells (spC s)) (x:=w) (by omega)
 have apQ:=CI.app_Q ok (o := .cells (spC s)) (y:=w.own) (by omega)
 have hz : ∀ H,zpsc H 4 (g.dv 4 voC) 0=some (.ref (voC w)):=fun H=>by
  have:=zalo (h:=H) (x:=g) (i:=0) zu4u (by rw [hwr]; simp)
  rw [show ((0:Nat):Int)=0 from rfl] at this
  rw [this]; simp [hwr]
 have hcf:=za00 hgne
 have hpc:zyp8 (c2fn g)=true:=by simp [c2fn,zyp8,zbao,znfs]
 simp only [c2fn] at hcf hpc
 obtain ⟨c,i⟩:=a
 simp only at *
 have fin : ∀ c':CI,c'.Ok→c'.S=sngL (G.l.take (i+1))→c'.Q=eqvL (G.l.take (i+1)) → ∀ H,H = .cells (spC s)::c'.H→V P 0 (.region false [⟨none,(some 41),.bin .add (.t 21) (.k (.int .i64 1))⟩,⟨none,(some 21),.mov (.t 41)⟩]) (z13e 0 (S954 s G) (fun a=>G.l.length-a.i) (CJok G) ⟨c,i⟩ Φ) ⟨js 6++[c'.sv,c'.qv]++js 11++[G.dv 1 gC,.int .i64 G.l.length,.int .i64 i]++js 55,H⟩:=fun c' k1 k2 k3 H hH=>by
  subst hH
  refine V_W mix zslj ?_
  simp (disch:=first|omega|simp<;>omega|fail) [-zA,-zB,-zC,-zD,-zE]
  exact ⟨⟨c',i+1⟩,z515 (by simp (disch:=first|omega|simp<;>omega|fail) [-zA,-zB,-zC,-zD,-zE,S954,z7en]) (by simp (disch:=first|omega|simp<;>omega|fail) [-zA,-zB,-zC,-zD,-zE,S954,z7en]),by simp only; omega,⟨by simp only; omega,k1,k2,k3⟩⟩
 simp (disch:=first|omega|simp<;>omega|fail) [-zA,-zB,-zC,-zD,-zE,zv5f,z7en,h,h']
 refine zbn1 (V_W mix zslj ?_)
 simp (disch:=first|omega|simp<;>omega|fail) [-zA,-zB,-zC,-zD,-zE,h,h']
 refine zbn1 (z3mo (zbn1 (V_W mix zslj ?_)))
 have hst : ∀ (H:List AObj) (id:Nat),zy6o H id 1 0 (g.dv 4 voC) (some [.nils])=some (.junk,H.set id (.cells [g.dv 4 voC])):=fun H id=>by
  rw [Am.storeO_1 (zfr8 g) (z4ja g) (by simp)]; rfl
 simp (disch:=first|omega|simp<;>omega|fail) [-zA,-zB,-zC,-zD,-zE,hg,gC,hst]
 refine zs10 (H := .cells (spC s)::c.H) (cs:=[g.dv 4 voC]) (t':=js 6++[c.sv,c.qv,.junk,.ref [g.dv 4 voC]]++js 9++[G.dv 1 gC,.int .i64 G.l.length,.int .i64 i]++js 55) (by simp (disch:=first|omega|simp<;>omega|fail) [-zA,-zB,-zC,-zD,-zE,zlf2,hHb,z2i6]) (by simp) ?_ (by simp (disch:=first|omega|simp<;>omega|fail) [-zA,-zB,-zC,-zD,-zE,z1r6,Am.below,hsb,hqb,z8b8 _ _ (zcsv G),z8b8 _ _ (znfs g)]) ?_
 ·have e1:=zz5t (H := .cells (spC s)::c.H) (cs:=[g.dv 4 voC]) (off:=0) (by simp [zbao,znfs])
  have e2 : ∀ h,mk1 (kLt ((AObj.cells (spC s)::c.H).length)) h c.sv=c.sv:=fun h=>zd3c (by rw [List.length_cons]; exact hsb)
  have e3 : ∀ h,mk1 (kLt ((AObj.cells (spC s)::c.H).length)) h c.qv=c.qv:=fun h=>zd3c (by rw [List.length_cons]; exact hqb)
  have e4 : ∀ K h,mk1 K h (G.dv 1 gC)=G.dv 1 gC:=fun K h=>zvft (zcsv G)
  simp only [List.cons_append,List.length_cons,List.length_nil,List.drop_zero] at e1 e2 e3
  simp (disch:=first|omega|simp<;>omega|fail) [-zA,-zB,-zC,-zD,-zE,e1,e2,e3,e4]
 refine zbn1 (V_W mix zslj ?_)
 simp (disch:=first|omega|simp<;>omega|fail) [-zA,-zB,-zC,-zD,-zE,zu7v,hcf,hpc,znfs]
 refine V_W mix zslj ?_
 cases hb:badG vKey g.l with
 | true =>
  rw [hb] at hsn hqn
  simp (disch:=first|omega|simp<;>omega|fail) [-zA,-zB,-zC,-zD,-zE,hz,z28l,zylz,apQ.1]
  refine zqfd (z515 ?_ rfl) (fin (c.adQ w.own) apQ.2.2 (by rw [hsn]; simp [CI.adQ]) (by rw [hqn]; simp [CI.adQ]) _ rfl)
  simp (disch:=first|omega|simp<;>omega|fail) [-zA,-zB,-zC,-zD,-zE,apQ.2.1]
 | false =>
  rw [hb] at hsn hqn
  simp (disch:=first|omega|simp<;>omega|fail) [-zA,-zB,-zC,-zD,-zE,hz,zhol,zifj,apS.1]
  refine zqfd (z515 ?_ rfl) (fin (c.adS w) apS.2.2 (by rw [hsn]; simp [CI.adS]) (by rw [hqn]; simp [CI.adS]) _ rfl)
  simp (disch:=first|omega|simp<;>omega|fail) [-zA,-zB,-zC,-zD,-zE,apS.2.1]
end Go.Proofs.YtjknipdiglpnlaaDoor
set_option linter.unusedSimpArgs false
set_option linter.unusedVariables false
namespace Go.Proofs.YtjknipdiglpnlaaDoor
open Go Go.Am
def agrG (g:Sl Vot):Agr:=match g.l with
 | []=>⟨⟨[],nilS,nilS⟩,nilS,nilS⟩
 | w::r=>⟨w.lnk,ownN ((w::r).map Vot.own),nilS⟩
def grp1 (V:List Vot):Sl (Sl Vot):=grpD (grpG ownF (zq4g vLt V))
def sng1 (V:List Vot):List Vot:=sngL (grp1 V).l
def eqv1 (V:List Vot):List Str:=eqvL (grp1 V).l
def grp2 (V:List Vot):Sl (Sl Vot):=grpD (grpG keyF (sng1 V))
def zj70 (V:List Vot):List Agr:=zq4g aLt ((grp2 V).l.map agrG)
def pA (a:Agr):(List Ent × List Ent) × List Str:=((a.lnk.m.l,a.lnk.p.l),a.owners.l)
abbrev vLss:=Op.bytesLess
theorem ze2e {V:List Vot} (h:V.length≤4294967296):(grp1 V).l=(agG vLss Vot.own V).map gSl∧(∀ g ∈ agG vLss Vot.own V,g≠[]∧g.length≤V.length)∧(agG vLss Vot.own V).length≤V.length:=by
 have h1:=ziua (s:=ownF) (zq4g vLt V)
 rw [zmgd] at h1
 exact ⟨zm38 (by have:=h1.2; omega),h1⟩
theorem zxae {α:Type} {p:List Vot→Bool} {f:List Vot→Option α} : ∀ {L:List (List Vot)},(∀ g ∈ L,g.length≤4294967296)→(((L.map gSl).filter fun g=>p g.l).filterMap fun g=>f g.l)=(L.filter p).filterMap f
 | [],_=>rfl
 | g::L,h=>by
  have hg:=z0ey (h g (by simp))
  have ih:=zxae (p:=p) (f:=f) (L:=L) fun g hg=>h g (by simp [hg])
  rw [List.map_cons,List.filter_cons,List.filter_cons,hg]
  split
  ·rw [List.filterMap_cons,List.filterMap_cons,hg,ih]
  ·exact ih
theorem ze6f {V:List Vot} (h:V.length≤4294967296):sng1 V=sngP vLss Vot.own vKey V:=by
 obtain ⟨h1,h2,_⟩:=ze2e h
 unfold sng1 sngL sngP
 rw [h1]
 exact zxae (p:=fun g => !badG vKey g) (f:=fun g=>g.head?) fun g hg=>by have:=(h2 g hg).2; omega
theorem zz7g {V:List Vot} (h:V.length≤4294967296):eqv1 V=eqvR vLss Vot.own vKey V:=by
 obtain ⟨h1,h2,_⟩:=ze2e h
 rw [← z4t9 z3gj]
 unfold eqv1 eqvL eqvP
 rw [h1]
 exact zxae (p:=badG vKey) (f:=fun g=>g.head?.map Vot.own) fun g hg=>by have:=(h2 g hg).2; omega
theorem zz8u {V:List Vot} (h:V.length≤4294967296):(sng1 V).length≤V.length:=by
 obtain ⟨h1,h2,h3⟩:=ze2e h
 have:=zuz9 (grp1 V).l
 rw [h1,List.length_map,← h1] at this
 unfold sng1; omega
theorem z131 {V:List Vot} (h:V.length≤4294967296):(eqv1 V).length≤V.length:=by
 obtain ⟨h1,h2,h3⟩:=ze2e h
 have:=zc5h (grp1 V).l
 rw [h1,List.length_map,← h1] at this
 unfold eqv1; omega
theorem zubd {V:List Vot} (h:V.length≤4294967296) : ∀ g ∈ (grp1 V).l,g.l≠[]:=fun g hg=>by
 obtain ⟨h1,h2,_⟩:=ze2e h
 rw [h1,List.mem_map] at hg
 obtain ⟨w,hw,rfl⟩:=hg
 have:=h2 w hw
 rw [z0ey (by omega)]; exact this.1
theorem zpmy {V:List Vot} (h:V.length≤4294967296):(grp2 V).l=(grpG keyF (sng1 V)).map gSl∧(∀ g ∈ grpG keyF (sng1 V),g≠[]∧g.length≤V.length)∧(grpG keyF (sng1 V)).length≤V.length:=by
 have h0:=zz8u h
 have h1:=ziua (s:=keyF) (sng1 V)
 exact ⟨zm38 (by have:=h1.2; omega),fun g hg=>⟨(h1.1 g hg).1,by have:=(h1.1 g hg).2; omega⟩,by have:=h1.2; omega⟩
theorem zw6n {V:List Vot} (h:V.length≤4294967296) : ∀ g ∈ (grp2 V).l,g.l≠[]∧g.l.length≤V.length:=fun g hg=>by
 obtain ⟨h1,h2,_⟩:=zpmy h
 rw [h1,List.mem_map] at hg
 obtain ⟨w,hw,rfl⟩:=hg
 have:=h2 w hw
 rw [z0ey (by omega)]; exact this
theorem zcnw {V:List Vot} (h:V.length≤4294967296):(grp1 V).l.length≤V.length:=by
 obtain ⟨h1,_,h3⟩:=ze2e h
 rw [h1,List.length_map]; exact h3
theorem znbr {V:List Vot} (h:V.length≤4294967296):(grp2 V).l.length≤V.length:=by
 obtain ⟨h1,_,h3⟩:=zpmy h
 rw [h1,List.length_map]; exact h3
theorem z9h1 {V:List Vot} (h:V.length≤4294967296):(zj70 V).length≤V.length:=by
 unfold zj70
 rw [zmgd,List.length_map]; exact znbr h
theorem zzm4 {g:Sl Vot} {w:Vot} {r:List Vot} (h:g.l=w::r):agrG g=⟨w.lnk,ownN ((w::r).map Vot.own),nilS⟩:=by unfold agrG; rw [h]
theorem zy1h {g:Sl Vot} (h:g.l≠[]) (hb:g.l.length≤4294967296):(agrG g).owners.l=g.l.map Vot.own:=by
 cases e:g.l with
 | nil=>exact absurd e h
 | cons w r=>rw [zzm4 e,zd8n (by rw [e] at hb; simpa using hb)]
theorem zkqo {V:List Vot} (h:V.length≤4294967296) : ∀ a ∈ zj70 V,a.eqv=nilS∧a.owners.l≠[]∧a.owners.l.length≤V.length∧a.lnk ∈ V.map Vot.lnk:=fun a ha=>by
 have ha:=(zo43 (lt:=aLt) ((grp2 V).l.map agrG)).mem_iff.1 ha
 obtain ⟨g,hg,rfl⟩:=List.mem_map.1 ha
 obtain ⟨h1,h2⟩:=zw6n h g hg
 rw [zy1h h1 (by omega),List.length_map]
 cases e:g.l with
 | nil=>exact absurd e h1
 | cons w r =>
  rw [zzm4 e]
  refine ⟨rfl,by simp,by rw [e] at h2; exact h2,?_⟩
  obtain ⟨k1,k2,_⟩:=zpmy h
  rw [k1,List.mem_map] at hg
  obtain ⟨g0,hg0,rfl⟩:=hg
  have hb:=(k2 g0 hg0).2
  rw [z0ey (by omega)] at e
  have hs:w ∈ sng1 V:=by
   rw [z6io (s:=keyF) (f:=vKey) (fun _ _=>rfl)] at hg0
   obtain ⟨k,_,rfl⟩:=List.mem_map.1 hg0
   have:w ∈ (sng1 V).filter fun y=>decide (vKey y=k):=by rw [e]; simp
   exact (List.mem_filter.1 this).1
  rw [ze6f h] at hs
  exact List.mem_map_of_mem ((zzz9 (own:=Vot.own) (key:=vKey) z3gj V).sub w hs)
theorem zey4 {V:List Vot} (h:V.length≤4294967296):(zj70 V).map pA=z9dw vLss Vot.own vKey V:=by
 have hL : ∀ L:List (List Vot),(∀ g ∈ L,g≠[]∧g.length≤V.length)→((L.map gSl).map agrG).map pA=(L.filterMap (zwcm Vot.own)).map (pC vKey):=by
  intro L
  induction L with
  | nil=>intro _; rfl
  | cons g L ih =>
   intro hl
   have hg:=hl g (by simp)
   have hgl:=z0ey (g:=g) (by omega)
   have ih:=ih fun g hg=>hl g (by simp [hg])
   cases g with
   | nil=>exact absurd rfl hg.1
   | cons w r =>
    rw [List.map_cons,List.map_cons,List.map_cons,ih,List.filterMap_cons]
    have hb:((w::r).map Vot.own).length≤4294967296:=by rw [List.length_map]; have:=hg.2; omega
    simp only [zwcm,List.head?_cons,Option.map_some,List.map_cons,pC,pA,zzm4 hgl,vKey]
    rw [List.map_cons] at hb
    rw [zd8n hb]
 obtain ⟨k1,k2,_⟩:=zpmy h
 rw [← zxzu]
 unfold zj70 cmpP
 have e1:=hL _ k2
 have e2:outP vLss Vot.own vKey V=(grpG keyF (sng1 V)).filterMap (zwcm Vot.own):=by rw [ze6f h]; rfl
 rw [e2,k1]
 have e3 : ∀ (A:List Agr) (B:List (Vot × List Str)),A.map pA=B.map (pC vKey)→(zq4g aLt A).map pA=(zq4g (fun a b:Vot × List Str=>decide (b.2.length<a.2.length)) B).map (pC vKey):=fun A B e=>by
  have f1:=zmcs (f:=pA) (lt:=aLt) (lt':=fun a b:(List Ent × List Ent) × List Str=>decide (b.2.length<a.2.length)) (l:=A) (List.pairwise_of_forall fun _ _=>rfl)
  have f2:=zmcs (f:=pC vKey) (lt:=fun a b:Vot × List Str=>decide (b.2.length<a.2.length)) (lt':=fun a b:(List Ent × List Ent) × List Str=>decide (b.2.length<a.2.length)) (l:=B) (List.pairwise_of_forall fun _ _=>rfl)
  rw [← f1,← f2,e]
 exact e3 _ _ e1
end Go.Proofs.YtjknipdiglpnlaaDoor
set_option linter.unusedSimpArgs false
set_option linter.unusedVariables false
namespace Go.Proofs.YtjknipdiglpnlaaDoor
open Go Go.Am
theorem z0em {P:Program} {n0:Nat} {x:ACode} {Φ:AExit→St→Prop} {t t':List DV} {H R:List AObj} (hH:zlf2 H.length H=true) (hn:n0≤H.length)
  (ht:znqe (mkL (kLt H.length) (H++R) t) t') (hb:z1r6 H.length t'=true) (h:V P n0 x Φ ⟨t',H⟩):V P n0 x Φ ⟨t,H++R⟩:=by
 refine V_mk (kLt H.length) ?_
 rw [z26m,z6z7 (by omega) hH]
 exact zqfd (zju2 ht rfl hn hb hH) h
theorem zjwe {k K:Nat} {α:Type} {l:List α}:(oV k K l).cells=[oV k K l]:=by unfold oV; split<;>rfl
theorem z6jg {k K:Nat} {α:Type} {l:List α}:(oV k K l).one=true:=by unfold oV; split<;>rfl
def bxC (L:Lnk) (o:DV):List DV:=[.str L.step,L.m.dv 33 enC,L.p.dv 33 enC,o,.nils]
theorem ztc7 (L:Lnk) (o:DV):(bxC L o).length=5:=rfl
theorem z2nx {L:Lnk} {o:DV}:oneC 1 false ((bxC L o).drop 3)=some o:=rfl
theorem z62b {h:List AObj} {id:Nat} {L:Lnk} {o v:DV} (hc:v.cells=[v]) (ho:v.one=true):zy6o h id 1 3 v (some (bxC L o))=some (.junk,h.set id (.cells (bxC L v))):=by
 rw [Am.storeO_1 hc ho (by rw [ztc7]; decide)]; rfl
structure C2 where
 H:List AObj
 q:DV
 o:DV
 G:DV
 n:Int
 i:Int
structure C2ok (c:C2):Prop where
 hb : ∀ n,zlf2 n c.H=true
 hn:1≤c.H.length
 q:zyp8 c.q=true
 o : ∀ n,c.H.length≤n→Am.below n c.o=true
 G:zyp8 c.G=true
def owL (g:Sl Vot) (j:Nat):List Str:=(g.l.take j).map Vot.own
def H955 (c:C2) (L:Lnk) (os:List Str):List AObj:=c.H++(.cells (bxC L (oV (c.H.length+1) 1 os))::oT stC os)
def S955 (c:C2) (L:Lnk) (g:Sl Vot) (j:Nat):St:=ziyy c.q c.o (.mp c.H.length 5 0) c.G (.int .i64 c.n) (.int .i64 c.i) (g.dv 4 voC) (.int .i64 g.l.length) (.int .i64 j) (H955 c L (owL g j))
theorem zebc {n:Nat} {a b:List AObj} (ha:zlf2 n a=true) (hb:zlf2 n b=true):zlf2 n (a++b)=true:=by
 induction a with
 | nil=>exact hb
 | cons o r ih =>
  cases o with
  | cells cs=>simp only [List.cons_append,zlf2,Bool.and_eq_true] at ha ⊢; exact ⟨ha.1,ih ha.2⟩
  | dead=>simp only [List.cons_append,zlf2] at ha ⊢; exact ih ha
theorem z05n {c:C2} {L:Lnk} {os:List Str}:(H955 c L os).length=c.H.length+1+(oT stC os).length:=by simp [H955]; omega
theorem zsqu {c:C2} (k:C2ok c) {L:Lnk} {os:List Str}:zlf2 (H955 c L os).length (H955 c L os)=true:=by
 rw [z05n]
 unfold H955
 refine zebc (k.hb _) ?_
 have h1:Am.below (c.H.length+1+(oT stC os).length) (oV (c.H.length+1) 1 os)=true:=zv6o
 simp only [zlf2,bxC,z1r6,h1,zb48,Am.below,zd81 z0tx,Bool.and_self]
theorem z69r {g:Sl Vot} {j:Nat} (h:j<g.l.length):owL g (j+1)=owL g j++[(g.l[j]).own]:=by
 unfold owL; rw [List.take_succ_eq_append_getElem h,List.map_append]; rfl
theorem zvhg {c:C2} (k:C2ok c) {L:Lnk} {g:Sl Vot} (hl:g.l.length≤20) {Φ:AExit→St→Prop} (j:Nat) (hj:j≤g.l.length)
  (hexit:Φ (.exit 4) ⟨js 7++[c.q,.junk,.junk,c.o,.junk,.junk,.mp c.H.length 5 0]++js 29++[c.G,.int .i64 c.n,.int .i64 c.i]++js 31,H955 c L (g.l.map Vot.own)⟩)
  (hw : ∀ st st',Weak 0 st st'→Φ (.exit 4) st'→Φ (.exit 4) st) :
  V P 0 ze01 (z13e 0 (S955 c L g) (fun j=>g.l.length-j) (fun j=>j≤g.l.length) j Φ) (S955 c L g j):=by
 simp only [S955]
 refine zbn1 (V_W mix zr5o ?_)
 by_cases h:j<g.l.length
 case neg =>
  have h':¬ (j:Int)<g.l.length:=by omega
  have e:owL g j=g.l.map Vot.own:=by unfold owL; rw [List.take_of_length_le (by omega)]
  rw [e]
  simp (disch:=first|omega|simp<;>omega|fail) [-zA,-zB,-zC,-zD,-zE,ze01,ziyy,h,h']
  refine zbn1 (V_W mix zr5o ?_)
  simp (disch:=first|omega|simp<;>omega|fail) [-zA,-zB,-zC,-zD,-zE,h,h']
  refine hw _ _ (z515 ?_ rfl) hexit
  simp (disch:=first|omega|simp<;>omega|fail) [-zA,-zB,-zC,-zD,-zE]
 have h':(j:Int)<g.l.length:=by omega
 have hg : ∀ H,zpsc H 4 (g.dv 4 voC) j=some (.ref (voC g.l[j])):=fun H=>zalo zu4u h
 have hs:=z69r h
 obtain ⟨x,hx⟩ : ∃ x,g.l[j]=x:=⟨_,rfl⟩
 rw [hx] at hg hs
 have hol:(owL g j).length≤20:=by unfold owL; rw [List.length_map,List.length_take]; omega
 obtain ⟨os,hos⟩ : ∃ os,owL g j=os:=⟨_,rfl⟩
 rw [hos] at hs hol ⊢
 have hap:=zte0 (f:=stC) (k:=c.H.length+1) (b:=16) (l:=os) (x:=x.own) (h:=c.H++[.cells (bxC L (oV (c.H.length+1) 1 os))]) (by simp) (fun _=>rfl) (by decide) (by decide) zlxs (by omega)
 rw [show stC x.own=[DV.str x.own] from rfl] at hap
 simp only [List.append_assoc,List.cons_append,List.nil_append] at hap
 have hHl:=z05n (c:=c) (L:=L) (os:=os)
 have hHb:=zsqu k (L:=L) (os:=os)
 have ho:=k.o (H955 c L os).length (by omega)
 have hlt:c.H.length<(H955 c L os).length:=by omega
 simp (disch:=first|omega|simp<;>omega|fail) [-zA,-zB,-zC,-zD,-zE,ze01,ziyy,h,h']
 refine zbn1 (V_W mix zr5o ?_)
 simp (disch:=first|omega|simp<;>omega|fail) [-zA,-zB,-zC,-zD,-zE,h,h']
 refine zbn1 (z3mo (zbn1 (V_W mix zr5o ?_)))
 simp (disch:=first|omega|simp<;>omega|fail) [-zA,-zB,-zC,-zD,-zE,hg]
 refine zs10 (H:=H955 c L os) (cs:=voC x) (t':=js 7++[c.q,.junk,.junk,c.o,.junk,.junk,.mp c.H.length 5 0,.junk,.ref (voC x)]++js 27++[c.G,.int .i64 c.n,.int .i64 c.i]++js 8++[g.dv 4 voC,.int .i64 g.l.length,.int .i64 j]++js 20) hHb (by omega) ?_ (by simp (disch:=first|omega|simp<;>omega|fail) [-zA,-zB,-zC,-zD,-zE,z1r6,Am.below,ho,hlt,z8b8 _ _ k.q,z8b8 _ _ k.G,z8b8 _ _ (znfs g)]) ?_
 ·have e1:=zz5t (H:=H955 c L os) (cs:=voC x) (off:=0) (zc6g x)
  have e2 : ∀ h,mk1 (kLt (H955 c L os).length) h c.o=c.o:=fun h=>zd3c ho
  have e3 : ∀ h,mk1 (kLt (H955 c L os).length) h (.mp c.H.length 5 0) = .mp c.H.length 5 0:=fun h=>zd3c (by simp only [Am.below,decide_eq_true_eq]; omega)
  have e4 : ∀ K h,mk1 K h c.q=c.q:=fun K h=>zvft k.q
  have e5 : ∀ K h,mk1 K h c.G=c.G:=fun K h=>zvft k.G
  have e6 : ∀ K h,mk1 K h (g.dv 4 voC)=g.dv 4 voC:=fun K h=>zvft (znfs g)
  simp only [zu4u,List.drop_zero] at e1
  simp (disch:=first|omega|simp<;>omega|fail) [-zA,-zB,-zC,-zD,-zE,e1,e2,e3,e4,e5,e6]
 unfold H955
 refine V_W mix zr5o ?_
 simp (disch:=first|omega|simp<;>omega|fail) [-zA,-zB,-zC,-zD,-zE,z28l,zylz,z2nx,z62b zjwe z6jg,hap,zjj2,z1zn,zxft,ztc7]
 refine V_W mix zr5o ?_
 simp (disch:=first|omega|simp<;>omega|fail) [-zA,-zB,-zC,-zD,-zE]
 exact ⟨j+1,z515 (by simp (disch:=first|omega|simp<;>omega|fail) [-zA,-zB,-zC,-zD,-zE,S955,ziyy]) (by simp (disch:=first|omega|simp<;>omega|fail) [-zA,-zB,-zC,-zD,-zE,S955,ziyy,H955,hs]),by omega,by omega⟩
end Go.Proofs.YtjknipdiglpnlaaDoor
set_option linter.unusedSimpArgs false
set_option linter.unusedVariables false
namespace Go.Proofs.YtjknipdiglpnlaaDoor
open Go Go.Am
theorem zl72 {x:Agr}:bslD 5 1 [.str [],.nils,.nils,.nils,.nils] [(0,5,.agg (agC x))]=some (.sl true 5 1 (agC x)):=by
 simp [bslD,zi03,zk7y,reps,rep,znh2,List.take_of_length_le]
theorem zer5 {L:Lnk}:zvnk [.str [],.nils,.nils,.nils,.nils] [(0,3,.agg (lkC L))]=some (.agg (bxC L .nils)):=rfl
theorem za6d {L:Lnk}:(bxC L .nils).all DV.one=true:=by simp only [bxC,List.all_cons,zxyr,z4ja,List.all_nil,Bool.and_self]; rfl
theorem z33j {h:List AObj} {id:Nat} {L:Lnk} {l:List DV} (hl:l.length=5):zy6o h id 5 0 (.agg (bxC L .nils)) (some l)=some (.junk,h.set id (.cells (bxC L .nils))):=zfc1 (ztc7 L _) hl za6d
theorem z640 {H:List AObj} {L:Lnk} {os:List Str} (hb:os.length≤4294967296):mk1 (kLt H.length) (H++(.cells (bxC L (oV (H.length+1) 1 os))::oT stC os)) (.mp H.length 5 0) = .ref (agC ⟨L,ownN os,nilS⟩):=by
 refine zwy6 ?_
 have hO:fzS (kLt H.length) (H++(.cells (bxC L (oV (H.length+1) 1 os))::oT stC os)) 2 (oV (H.length+1) 1 os)=some ((ownN os).dv 1 stC):=by
  by_cases e:os=[]
  ·subst e; rw [zl8p,z2i7]; exact zxmp
  ·have ho:=zwbu (f:=stC) (k:=H.length+1) (l:=os) (h:=H++[.cells (bxC L (oV (H.length+1) 1 os))]) (r:=[]) (by simp) (fun _=>rfl) e
   simp only [List.append_assoc,List.cons_append,List.nil_append,List.append_nil] at ho
   rw [zpni e] at ho ⊢
   rw [znkh,if_neg (by simp [kLt]),ho,Option.bind_some,List.drop_zero,z590 (f:=stC) (K:=1) (fun _=>rfl),List.take_length,zl6f (zp6k z0tx _),zgr3 e hb]; rfl
 rw [zept,if_neg (by simp [kLt]),zjj2,z1zn,if_pos (ztc7 _ _),Option.bind_some,List.drop_zero]
 generalize H++(.cells (bxC L (oV (H.length+1) 1 os))::oT stC os)=Z at hO ⊢
 simp only [bxC,zhuj,zmvq,zam1,zxmp,hO,zzxw (zru8 _),Option.bind_some,Option.map_some]
 rfl
def S956 (s:Spc) (q:DV) (G:Sl (Sl Vot)) (i:Nat):St:=zzr3 q (oV 1 5 ((G.l.take i).map agrG)) (G.dv 1 gC) (.int .i64 G.l.length) (.int .i64 i) (.cells (spC s)::oT agC ((G.l.take i).map agrG))
theorem zm1f {s:Spc} {q:DV} (hq:zyp8 q=true) {G:Sl (Sl Vot)} (hG:G.l.length≤20) (hne : ∀ g ∈ G.l,g.l≠[]∧g.l.length≤20) {Φ:AExit→St→Prop} (i:Nat) (hi:i≤G.l.length)
  (hexit:Φ (.exit 2) ⟨js 7++[q,.junk,.junk,oV 1 5 (G.l.map agrG)]++js 66,.cells (spC s)::oT agC (G.l.map agrG)⟩)
  (hw : ∀ st st',Weak 0 st st'→Φ (.exit 2) st'→Φ (.exit 2) st) :
  V P 0 zbj2 (z13e 0 (S956 s q G) (fun i=>G.l.length-i) (fun i=>i≤G.l.length) i Φ) (S956 s q G i):=by
 simp only [S956]
 refine zbn1 (V_W mix zr5o ?_)
 by_cases h:i<G.l.length
 case neg =>
  have h':¬ (i:Int)<G.l.length:=by omega
  rw [List.take_of_length_le (show G.l.length≤i by omega)]
  simp (disch:=first|omega|simp<;>omega|fail) [-zA,-zB,-zC,-zD,-zE,zbj2,zzr3,h,h']
  refine zbn1 (V_W mix zr5o ?_)
  simp (disch:=first|omega|simp<;>omega|fail) [-zA,-zB,-zC,-zD,-zE,h,h']
  refine hw _ _ (z515 ?_ rfl) hexit
  simp (disch:=first|omega|simp<;>omega|fail) [-zA,-zB,-zC,-zD,-zE]
 have h':(i:Int)<G.l.length:=by omega
 have hg : ∀ H,zpsc H 1 (G.dv 1 gC) i=some (.ref (gC G.l[i])):=fun H=>zalo zfnv h
 obtain ⟨hgne,hgl⟩:=hne _ (List.getElem_mem h)
 have hs:(G.l.take (i+1)).map agrG=(G.l.take i).map agrG++[agrG G.l[i]]:=by rw [List.take_succ_eq_append_getElem h,List.map_append]; rfl
 obtain ⟨g,hgg⟩ : ∃ g,G.l[i]=g:=⟨_,rfl⟩
 rw [hgg] at hg hgne hgl hs
 obtain ⟨w,r,hwr⟩ : ∃ w r,g.l=w::r:=by
  cases e:g.l with
  | nil=>exact absurd e hgne
  | cons w r=>exact ⟨w,r,rfl⟩
 have hA:agrG g=⟨w.lnk,ownN (g.l.map Vot.own),nilS⟩:=by rw [zzm4 hwr,hwr]
 have hz : ∀ H,zpsc H 4 (g.dv 4 voC) 0=some (.ref (voC w)):=fun H=>by
  have:=zalo (h:=H) (x:=g) (i:=0) zu4u (by rw [hwr]; simp)
  rw [show ((0:Nat):Int)=0 from rfl] at this
  rw [this]; simp [hwr]
 have hCl:((G.l.take i).map agrG).length≤20:=by rw [List.length_map,List.length_take]; omega
 obtain ⟨C,hC⟩ : ∃ C,(G.l.take i).map agrG=C:=⟨_,rfl⟩
 rw [hC] at hs hCl ⊢
 have hap:=zte0 (f:=agC) (k:=1) (b:=112) (l:=C) (x:=agrG g) (h:=[AObj.cells (spC s)]) rfl znh2 (by decide) (by decide) (fun _=>z892) (by omega)
 simp only [List.cons_append,List.nil_append] at hap
 have hob : ∀ n,1+(oT agC C).length≤n→Am.below n (oV 1 5 C)=true:=fun n hn=>by
  by_cases e:C=[]
  ·subst e; rfl
  ·rw [zpni e]; rw [zlgn e] at hn; simp only [Am.below,decide_eq_true_eq]; omega
 have hc:C2ok ⟨.cells (spC s)::oT agC C,q,oV 1 5 C,G.dv 1 gC,G.l.length,i⟩:=⟨fun n=>by simp only [zlf2,z2i6,zd81 z1u0,Bool.and_self],by simp,hq,fun n hn=>hob n (by simp only [List.length_cons] at hn; omega),zcsv G⟩
 simp (disch:=first|omega|simp<;>omega|fail) [-zA,-zB,-zC,-zD,-zE,zbj2,zzr3,h,h']
 refine zbn1 (V_W mix zr5o ?_)
 simp (disch:=first|omega|simp<;>omega|fail) [-zA,-zB,-zC,-zD,-zE,h,h']
 refine zbn1 (z3mo (zbn1 (V_W mix zr5o ?_)))
 simp (disch:=first|omega|simp<;>omega|fail) [-zA,-zB,-zC,-zD,-zE,hg,gC]
 refine zbn1 (V_W mix zr5o ?_)
 simp (disch:=first|omega|simp<;>omega|fail) [-zA,-zB,-zC,-zD,-zE,hz,zkpz,zer5,z33j]
 refine zbn1 (zbn1 (V_W mix zr5o ?_))
 simp (disch:=first|omega|simp<;>omega|fail) [-zA,-zB,-zC,-zD,-zE]
 refine z3mo (ztbr (S955 ⟨.cells (spC s)::oT agC C,q,oV 1 5 C,G.dv 1 gC,G.l.length,i⟩ w.lnk g) (fun j=>g.l.length-j) (fun j=>j≤g.l.length) 0 (z515 (by simp (disch:=first|omega|simp<;>omega|fail) [-zA,-zB,-zC,-zD,-zE,S955,ziyy]) (by simp (disch:=first|omega|simp<;>omega|fail) [-zA,-zB,-zC,-zD,-zE,S955,ziyy,H955,owL,zl8p,zkrk])) (Nat.zero_le _) (fun j hj=>zvhg hc hgl j hj ?_ ?_))
 ·rw [z233,zd2q]
  have hmk:=z640 (H := .cells (spC s)::oT agC C) (L:=w.lnk) (os:=g.l.map Vot.own) (by rw [List.length_map]; omega)
  rw [← hA] at hmk
  have hH:zlf2 (AObj.cells (spC s)::oT agC C).length (AObj.cells (spC s)::oT agC C)=true:=hc.hb _
  have hob':=hob ((AObj.cells (spC s)::oT agC C).length) (by rw [List.length_cons]; omega)
  unfold H955
  refine z0em (t':=js 7++[q,.junk,.junk,oV 1 5 C,.junk,.junk,.ref (agC (agrG g))]++js 29++[G.dv 1 gC,.int .i64 G.l.length,.int .i64 i]++js 31) hH (by simp) ?_ (by simp (disch:=first|omega|simp<;>omega|fail) [-zA,-zB,-zC,-zD,-zE,z1r6,Am.below,hob _ (show 1+(oT agC C).length≤(oT agC C).length+1 by omega),z8b8 _ _ hq,z8b8 _ _ (zcsv G)]) ?_
  ·have e2 : ∀ h,mk1 (kLt (AObj.cells (spC s)::oT agC C).length) h (oV 1 5 C)=oV 1 5 C:=fun h=>zd3c hob'
   have e4 : ∀ K h,mk1 K h q=q:=fun K h=>zvft hq
   have e5 : ∀ K h,mk1 K h (G.dv 1 gC)=G.dv 1 gC:=fun K h=>zvft (zcsv G)
   generalize (AObj.cells (spC s)::oT agC C).length=N at e2 hmk ⊢
   simp only [List.cons_append] at hmk
   simp (disch:=first|omega|simp<;>omega|fail) [-zA,-zB,-zC,-zD,-zE,e2,e4,e5,hmk,-z1bt]
  refine V_W mix zr5o ?_
  simp (disch:=first|omega|simp<;>omega|fail) [-zA,-zB,-zC,-zD,-zE,zd17,zl72,hap]
  refine V_W mix zr5o ?_
  simp (disch:=first|omega|simp<;>omega|fail) [-zA,-zB,-zC,-zD,-zE]
  exact ⟨i+1,z515 (by simp (disch:=first|omega|simp<;>omega|fail) [-zA,-zB,-zC,-zD,-zE,S956,zzr3,hs]) (by simp (disch:=first|omega|simp<;>omega|fail) [-zA,-zB,-zC,-zD,-zE,S956,zzr3,hs]),by omega,by omega⟩
 ·intro st st' hw' h
  rw [z233,zd2q] at h ⊢
  exact zqfd hw' h
end Go.Proofs.YtjknipdiglpnlaaDoor
set_option linter.unusedSimpArgs false
set_option linter.unusedVariables false
namespace Go.Proofs.YtjknipdiglpnlaaDoor
open Go Go.Am
noncomputable def T957 (F:SF):Tbl:=addT 47 (.pure cVot) (addT 46 (.pure (cGrp F)) tbl0)
theorem z6ph {F:SF}:T957 F 47 = .pure cVot:=by simp [T957]
theorem zdr7 {F:SF}:T957 F 46 = .pure (cGrp F):=by simp [T957]
theorem z520 (F:SF):(T957 F).Sound P:=z0rp zcdr (z0rp (zohn F) zr5o)
def qvA (V:List Vot):DV:=(ownN (eqv1 V)).dv 1 stC
theorem zb7u (V:List Vot):zyp8 (qvA V)=true:=zfuu _
theorem z0ma (s:Spc) (l:Sl Att) (hl:l.l.length≤20) {Φ:AExit→St→Prop} (hΦ:Φ .ret ⟨js 4++[oV 1 5 (zj70 (votL s l.l)),qvA (votL s l.l)]++js 71,.cells (spC s)::oT agC (zj70 (votL s l.l))⟩) :
  V P 0 a11.code Φ ⟨zr5g a11.ntmps [.agg (spC s),l.dv 9 atC],[]⟩:=by
 have hV:=zldt s l.l
 have hVs:=zz5s s l.l
 have k1:=zgda (s:=s) hl
 have hUl:(ownN (votS s l.l)).l=votS s l.l:=zd8n (by omega)
 have k2:=zs2t (F:=F1) (U:=ownN (votS s l.l))
 rw [hUl] at k2
 have hG1:grpD (grpG F1.s (votS s l.l))=grp1 (votL s l.l):=rfl
 rw [hG1,znwp] at k2
 obtain ⟨V,hVV⟩ : ∃ V,votL s l.l=V:=⟨_,rfl⟩
 rw [hVV] at hV k2 hΦ
 have g1:=zcnw (V:=V) (by omega)
 have g1n:=zubd (V:=V) (by omega)
 have g2:=znbr (V:=V) (by omega)
 have g2n:=zw6n (V:=V) (by omega)
 have hs1:=zz8u (V:=V) (by omega)
 have he1:=z131 (V:=V) (by omega)
 have hSl:(ownN (sng1 V)).l=sng1 V:=zd8n (by omega)
 have k3:=zs2t (F:=F3) (U:=ownN (sng1 V))
 rw [hSl] at k3
 have hG2:grpD (grpG F3.s (sng1 V))=grp2 V:=rfl
 rw [hG2,zpo2] at k3
 refine zbn1 (V_W mix zr5o ?_)
 simp (disch:=first|omega|simp<;>omega|fail) [-zA,-zB,-zC,-zD,-zE,a11]
 refine zbn1 (V_W mix zr5o ?_)
 simp (disch:=first|omega|simp<;>omega|fail) [-zA,-zB,-zC,-zD,-zE]
 refine zbn1 (V_W mix zr5o ?_)
 simp (disch:=first|omega|simp<;>omega|fail) [-zA,-zB,-zC,-zD,-zE]
 refine zbn1 (zbn1 (V_W mix (z520 F1) ?_))
 simp (disch:=first|omega|simp<;>omega|fail) [-zA,-zB,-zC,-zD,-zE,z8s9,z6ph,zdr7,k1,k2,zu1r,znfs]
 refine z3mo (ztbr (S954 s (grp1 V)) (fun a=>(grp1 V).l.length-a.i) (CJok (grp1 V)) ⟨⟨true,[],[]⟩,0⟩ (z515 (by simp (disch:=first|omega|simp<;>omega|fail) [-zA,-zB,-zC,-zD,-zE,S954,z7en,CI.sv,CI.qv,zl8p]) (by simp (disch:=first|omega|simp<;>omega|fail) [-zA,-zB,-zC,-zD,-zE,S954,z7en,CI.H,zkrk])) ⟨Nat.zero_le _,⟨fun _ _=>rfl,fun _ _=>rfl⟩,rfl,rfl⟩ (fun a ha=>zh6a (by omega) g1n a ha ?_ ?_))
 ·intro c ok hS hQ
  rw [z233,zd2q]
  have hS':c.S=sng1 V:=hS
  have hQ':c.Q=eqv1 V:=hQ
  refine zy4i (o := .cells (spC s)) (t':=js 6++[(ownN (sng1 V)).dv 4 voC,qvA V]++js 69) rfl (zhi7 s) (by omega) ?_ (by simp (disch:=first|omega|simp<;>omega|fail) [-zA,-zB,-zC,-zD,-zE,z1r6,Am.below,z8b8 _ _ (znfs _),z8b8 _ _ (zb7u _)]) ?_
  ·have e1:=CI.sv_mk (c:=c) (o := .cells (spC s)) (by rw [hS']; omega)
   have e2:=CI.qv_mk (c:=c) (o := .cells (spC s)) (by rw [hQ']; omega)
   rw [hS'] at e1
   rw [hQ'] at e2
   have e3:(ownN (eqv1 V)).dv 1 stC=qvA V:=rfl
   rw [e3] at e2
   simp (disch:=first|omega|simp<;>omega|fail) [-zA,-zB,-zC,-zD,-zE,e1,e2]
  refine zbn1 (V_W mix (z520 F3) ?_)
  simp (disch:=first|omega|simp<;>omega|fail) [-zA,-zB,-zC,-zD,-zE]
  refine zbn1 (zbn1 (V_W mix (z520 F3) ?_))
  simp (disch:=first|omega|simp<;>omega|fail) [-zA,-zB,-zC,-zD,-zE,zdr7,k3,znfs]
  refine z3mo (ztbr (S956 s (qvA V) (grp2 V)) (fun i=>(grp2 V).l.length-i) (fun i=>i≤(grp2 V).l.length) 0 (z515 (by simp (disch:=first|omega|simp<;>omega|fail) [-zA,-zB,-zC,-zD,-zE,S956,zzr3,zl8p]) (by simp (disch:=first|omega|simp<;>omega|fail) [-zA,-zB,-zC,-zD,-zE,S956,zzr3,zkrk])) (Nat.zero_le _) (fun i hi=>zm1f (zb7u V) (by omega) (fun g hg=>⟨(g2n g hg).1,by have:=(g2n g hg).2; omega⟩) i hi ?_ ?_))
  ·rw [z233,zd2q]
   have hAl:=z9h1 (V:=V) (by omega)
   have hcall:=z1wq [.cells (spC s)] ((grp2 V).l.map agrG) (by rw [List.length_map]; omega)
   simp only [List.cons_append,List.nil_append,List.length_cons,List.length_nil,Nat.zero_add] at hcall
   have hv2:zq4g aLt ((grp2 V).l.map agrG)=zj70 V:=rfl
   rw [hv2] at hcall
   have ho:oV 1 5 ((grp2 V).l.map agrG)=oV 1 5 (zj70 V):=by
    unfold oV
    have e0:(zj70 V).length=((grp2 V).l.map agrG).length:=zmgd _
    rw [e0]
    by_cases e:(grp2 V).l.map agrG=[]
    ·rw [if_pos e,if_pos (by unfold zj70; rw [e]; rfl)]
    ·rw [if_neg e,if_neg (show ¬ zj70 V=[] from zlvn e)]
   rw [ho] at hcall ⊢
   refine zbn1 (V_W mix (z84q hcall) ?_)
   simp (disch:=first|omega|simp<;>omega|fail) [-zA,-zB,-zC,-zD,-zE,TH_k,zpvh]
   refine zbn1 (V_W mix zr5o ?_)
   simp (disch:=first|omega|simp<;>omega|fail) [-zA,-zB,-zC,-zD,-zE]
   refine zqfd (st':=⟨js 4++[oV 1 5 (zj70 V),qvA V]++js 71,.cells (spC s)::oT agC (zj70 V)⟩) (z515 ?_ rfl) ?_
   ·simp (disch:=first|omega|simp<;>omega|fail) [-zA,-zB,-zC,-zD,-zE]
   refine V_W mix zr5o ?_
   simp (disch:=first|omega|simp<;>omega|fail) [-zA,-zB,-zC,-zD,-zE]
   exact hΦ
  ·intro st st' hw' h
   rw [z233,zd2q] at h ⊢
   exact zqfd hw' h
 ·intro st st' hw' h
  rw [z233,zd2q] at h ⊢
  exact zqfd hw' h
theorem zqbl (s:Spc) (l:Sl Att) (hl:l.l.length≤20):V P 0 a11.code (retK a11.res (.tup [(ownN (zj70 (votL s l.l))).dv 5 agC,qvA (votL s l.l)])) ⟨zr5g a11.ntmps [.agg (spC s),l.dv 9 atC],[]⟩:=by
 have hV:=zldt s l.l
 have hA:=z9h1 (V:=votL s l.l) (by omega)
 refine z0ma s l hl ?_
 have hsn:=zigm (k:=1) (l:=zj70 (votL s l.l)) (h:=[AObj.cells (spC s)]) (r:=[]) rfl znh2 z1u0 (by omega)
 rw [List.append_nil] at hsn
 simp only [List.cons_append,List.nil_append] at hsn
 have hq : ∀ H k,snap H k (qvA (votL s l.l))=some (qvA (votL s l.l)):=fun H k=>z6nl (zb7u _)
 simp (disch:=first|omega|simp<;>omega|fail) [-zA,-zB,-zC,-zD,-zE,a11,hsn,hq]
noncomputable def cCmp:List DV→Option DV:=con (fun a:Spc × Sl Att=>a.2.l.length≤20) (fun a:Spc × Sl Att=>[.agg (spC a.1),a.2.dv 9 atC]) (fun a => .tup [(ownN (zj70 (votL a.1 a.2.l))).dv 5 agC,qvA (votL a.1 a.2.l)])
theorem zg9a {a b:Spc × Sl Att} (e:[DV.agg (spC a.1),a.2.dv 9 atC]=[.agg (spC b.1),b.2.dv 9 atC]):a=b:=by
 obtain ⟨a1,a2⟩:=a
 obtain ⟨b1,b2⟩:=b
 simp only [List.cons.injEq,DV.agg.injEq,and_true] at e
 rw [z1d3 e.1,z965 e.2]
theorem zvlb {s:Spc} {l:Sl Att} (h:l.l.length≤20):cCmp [.agg (spC s),l.dv 9 atC]=some (.tup [(ownN (zj70 (votL s l.l))).dv 5 agC,qvA (votL s l.l)]) :=
 zzno (A:=fun a:Spc × Sl Att=>a.2.l.length≤20) (f:=fun a:Spc × Sl Att=>[.agg (spC a.1),a.2.dv 9 atC]) (g:=fun a => .tup [(ownN (zj70 (votL a.1 a.2.l))).dv 5 agC,qvA (votL a.1 a.2.l)]) (fun a b e=>by rw [zg9a e]) (s,l) h
theorem z7zd:(Con.pure cCmp).Sound P 11:=z2au fun a h=>znz9 Tryd.func11 zbwx (zqbl a.1 a.2 h)
theorem zxcq (s:Spc) (l:Sl Att) (hl:l.l.length≤20):V P ([]:List AObj).length a11.code (retH a11.res (.tup [oV 1 5 (zj70 (votL s l.l)),qvA (votL s l.l)]) (.cells (spC s)::oT agC (zj70 (votL s l.l)))) ⟨zr5g a11.ntmps [.agg (spC s),l.dv 9 atC],[]⟩:=by
 refine z0ma s l hl ?_
 simp (disch:=first|omega|simp<;>omega|fail) [-zA,-zB,-zC,-zD,-zE,a11]
noncomputable def cCmn:List DV→Nat→Option (DV × List AObj):=conN (fun a:Spc × Sl Att=>a.2.l.length≤20) (fun a:Spc × Sl Att=>[.agg (spC a.1),a.2.dv 9 atC]) (fun a=>(.tup [oV 1 5 (zj70 (votL a.1 a.2.l)),qvA (votL a.1 a.2.l)],.cells (spC a.1)::oT agC (zj70 (votL a.1 a.2.l))))
theorem zcgd {n k K:Nat} {α:Type} {l:List α}:shD n (oV k K l)=oV (n+k) K l:=by
 unfold oV; split<;>rfl
theorem zveq {n:Nat} {α:Type} {f:α→List DV} {l:List α} (hp : ∀ a,zbao (f a)=true):(oT f l).map (shO n)=oT f l:=by
 unfold oT
 split
 ·rfl
 ·simp only [List.map_cons,List.map_nil,z05k,fl,zj45 n _ (zp6k hp _)]
theorem zj79 {s:Spc} {l:Sl Att} (h:l.l.length≤20) (n:Nat):cCmn [.agg (spC s),l.dv 9 atC] n=some (.tup [oV (n+1) 5 (zj70 (votL s l.l)),qvA (votL s l.l)],.cells (spC s)::oT agC (zj70 (votL s l.l))):=by
 have:=zqtp (A:=fun a:Spc × Sl Att=>a.2.l.length≤20) (f:=fun a:Spc × Sl Att=>[.agg (spC a.1),a.2.dv 9 atC]) (g:=fun a=>(.tup [oV 1 5 (zj70 (votL a.1 a.2.l)),qvA (votL a.1 a.2.l)],.cells (spC a.1)::oT agC (zj70 (votL a.1 a.2.l)))) (fun a b e=>by rw [zg9a e]) (s,l) h n
 rw [cCmn,this]
 simp only [List.map_cons,z05k,zj45 n _ (zhi7 s),zveq z1u0]
 congr 2
 show DV.tup [shD n (oV 1 5 (zj70 (votL s l.l))),shD n (qvA (votL s l.l))]=_
 rw [zcgd,za7m n _ (zb7u _)]
theorem zkeo:(Con.new cCmn).Sound P 11 :=
 z3ld (fun a _=>by simp [zbao,zyp8,zu1r]) fun a h=>zrqk Tryd.func11 zbwx (zxcq a.1 a.2 h)
end Go.Proofs.YtjknipdiglpnlaaDoor
set_option linter.unusedSimpArgs false
set_option linter.unusedVariables false
namespace Go.Proofs.YtjknipdiglpnlaaDoor
open Go Go.Am
theorem z165 (x:Sl Agr):zyp8 (x.dv 5 agC)=true:=zxxb z1u0 x
theorem z70f {x y:Sl Agr} (e:x.dv 5 agC=y.dv 5 agC):x=y:=zcq7 znh2 (by decide) (fun _ _=>zum4) e
def zvjk (s:Spc) (a:Agr):Bool:=decide ((a.owners.l.length:Int)<s.thr)
theorem z92y (s:Spc) (a:Agr):Runs tbl0 a107 [.agg (agC a),.ref (spC s)] (.bool (zvjk s a)):=by
 refine ⟨?_⟩
 have hl : ∀ H,lenD H (a.owners.dv 1 stC)=some (.int .i64 a.owners.l.length):=fun H=>zupj
 simp (disch:=first|omega|simp<;>omega|fail) [-zA,-zB,-zC,-zD,-zE,a107,zntj,z66y,hl,zvjk]
noncomputable def cDc1:List DV→Option DV:=con (fun _=>True) (fun a:Spc × Agr=>[.agg (agC a.2),.ref (spC a.1)]) (fun a => .bool (zvjk a.1 a.2))
theorem zxx2 {s:Spc} {a:Agr}:cDc1 [.agg (agC a),.ref (spC s)]=some (.bool (zvjk s a)) :=
 zsn4 (f:=fun a:Spc × Agr=>[.agg (agC a.2),.ref (spC a.1)]) (g:=fun a => .bool (zvjk a.1 a.2)) (by
  rintro ⟨a,b⟩ ⟨c,d⟩ e
  simp only [List.cons.injEq,DV.agg.injEq,DV.ref.injEq,and_true] at e
  rw [zum4 e.1,z1d3 e.2]) (s,a)
theorem zcl0:(Con.pure cDc1).Sound P 107:=z2au fun a _=>zljw mix zr5o Tryd.func107 z38u (z92y a.1 a.2)
noncomputable def T960:Tbl:=addT 107 (.pure cDc1) tbl0
theorem zl3o:T960 107 = .pure cDc1:=by simp [T960]
theorem zkoa:T960.Sound P:=z0rp zcl0 zr5o
def dfn (s:Spc):DV := .fn (.func 107) [] [.ref (spC s)]
def S960 (s:Spc) (x:Sl Agr) (i:Nat):St:=zvwj (x.dv 5 agC) (dfn s) (.int .i64 x.l.length) (.int .i64 i) []
theorem zl1j (s:Spc) (x:Sl Agr):Runs T960 a153 [x.dv 5 agC,dfn s] (.int .i64 (fIx (zvjk s) x.l)):=by
 refine ⟨?_⟩
 have hb:=x.b
 simp (disch:=first|omega|simp<;>omega|fail) [-zA,-zB,-zC,-zD,-zE,a153]
 refine zlm5 (S960 s x) (fun i=>x.l.length-i) (fun i=>i≤x.l.length ∧ ∀ j (h:j<x.l.length),j<i→zvjk s x.l[j]=false) 0 (z515 (by simp (disch:=first|omega|simp<;>omega|fail) [-zA,-zB,-zC,-zD,-zE,S960,zvwj]) (by simp (disch:=first|omega|simp<;>omega|fail) [-zA,-zB,-zC,-zD,-zE,S960,zvwj])) ⟨by omega,fun j _ hj=>by omega⟩ (fun i hi => ?_)
 obtain ⟨q1,q2⟩:=hi
 simp only [S960]
 by_cases q:i<x.l.length
 ·have g':(i:Int)<x.l.length:=by omega
  have hy : ∀ H,zpsc H 5 (x.dv 5 agC) i=some (.ref (agC x.l[i])):=fun H=>zalo znh2 q
  have hc:=zxx2 (s:=s) (a:=x.l[i])
  have hinv:zvjk s x.l[i]=false → ∀ j (h:j<x.l.length),j<i+1→zvjk s x.l[j]=false:=fun e j hj hji=>by
   by_cases ej:j=i
   ·subst ej; exact e
   ·exact q2 j hj (by omega)
  have hr:zvjk s x.l[i]=true→fIx (zvjk s) x.l=i:=fun e=>z67l q e q2
  obtain ⟨u,hu⟩ : ∃ u,x.l[i]=u:=⟨_,rfl⟩
  rw [hu] at hy hc hinv hr
  cases e:zvjk s u with
  | true =>
   have hr:=hr e
   rw [e] at hc
   simp (disch:=first|omega|simp<;>omega|fail) [-zA,-zB,-zC,-zD,-zE,zmii,zvwj,q,g',hy,zd17,dfn,zl3o,hc,hr]
  | false =>
   have hinv:=hinv e
   rw [e] at hc
   simp (disch:=first|omega|simp<;>omega|fail) [-zA,-zB,-zC,-zD,-zE,zmii,zvwj,q,g',hy,zd17,dfn,zl3o,hc]
   exact ⟨i+1,z515 (by simp (disch:=first|omega|simp<;>omega|fail) [-zA,-zB,-zC,-zD,-zE,S960,zvwj,dfn]) (by simp (disch:=first|omega|simp<;>omega|fail) [-zA,-zB,-zC,-zD,-zE,S960,zvwj]),by omega,by omega,fun j h hj=>by simpa using hinv j h hj⟩
 ·have g':¬ (i:Int)<x.l.length:=by omega
  have hr:fIx (zvjk s) x.l = -1:=zf0r fun a ha=>by
   obtain ⟨j,hj,e⟩:=List.getElem_of_mem ha
   have:=q2 j hj (by omega)
   rw [e] at this; exact this
  simp (disch:=first|omega|simp<;>omega|fail) [-zA,-zB,-zC,-zD,-zE,zmii,zvwj,q,g',hr]
noncomputable def cAix:List DV→Option DV:=con (fun _=>True) (fun a:Spc × Sl Agr=>[a.2.dv 5 agC,dfn a.1]) (fun a => .int .i64 (fIx (zvjk a.1) a.2.l))
theorem zjni {s:Spc} {x:Sl Agr}:cAix [x.dv 5 agC,dfn s]=some (.int .i64 (fIx (zvjk s) x.l)) :=
 zsn4 (f:=fun a:Spc × Sl Agr=>[a.2.dv 5 agC,dfn a.1]) (g:=fun a => .int .i64 (fIx (zvjk a.1) a.2.l)) (by
  rintro ⟨a,b⟩ ⟨c,d⟩ e
  simp only [List.cons.injEq,dfn,DV.fn.injEq,DV.ref.injEq,and_true,true_and] at e
  rw [z70f e.1,z1d3 e.2]) (s,x)
theorem zi1y:(Con.pure cAix).Sound P 153:=z2au fun a _=>zljw mix zkoa Tryd.func153 zho2 (zl1j a.1 a.2)
noncomputable def T961:Tbl:=addT 153 (.pure cAix) T960
theorem zt9j:T961 153 = .pure cAix:=by simp [T961]
theorem z8g9:T961 107 = .pure cDc1:=by simp [T961,T960]
theorem zjez:T961.Sound P:=z0rp zi1y zkoa
end Go.Proofs.YtjknipdiglpnlaaDoor
set_option linter.unusedSimpArgs false
set_option linter.unusedVariables false
namespace Go.Proofs.YtjknipdiglpnlaaDoor
open Go Go.Am
def agr0:Agr:=⟨⟨[],nilS,nilS⟩,nilS,nilS⟩
theorem zxlt:agC agr0=[.str [],.nils,.nils,.nils,.nils]:=rfl
def kepL (s:Spc) (l:List Agr):List Agr:=l.filter fun a => !zvjk s a
def delL (s:Spc) (A:List Agr):List Agr:=kepL s A++List.replicate (A.length-(kepL s A).length) agr0
def delV (k:Nat) (s:Spc) (A:List Agr):DV:=if A=[] then .nils else .ms k (A.length*5) 0 5 (kepL s A).length (A.length*5)
theorem zcmj (s:Spc) (A:List Agr):(kepL s A).length≤A.length:=List.length_filter_le ..
theorem zr1v (s:Spc) (A:List Agr):(delL s A).length=A.length:=by
 unfold delL; have:=zcmj s A
 rw [List.length_append,List.length_replicate]; omega
theorem za2d {s:Spc} {A:List Agr} (h : ∀ a ∈ A,zvjk s a=false):kepL s A=A:=List.filter_eq_self.2 fun a ha=>by rw [h a ha]; rfl
theorem zxrd {s:Spc} {l:List Agr} {x:Agr}:kepL s (l++[x])=kepL s l++(if zvjk s x then [] else [x]):=by
 unfold kepL; rw [List.filter_append]
 cases h:zvjk s x<;>simp [h]
def dfm:DV := .fn (.func 107) [] [.mp 0 7 0]
theorem zrpz {pre:List AObj} {a b:AObj} {ver:Nat}:objV (pre++[a,b]) (pre.length+1) ver=objV [b] 0 ver:=by
 unfold objV ziu0; rw [List.getElem?_append_right (by omega),show pre.length+1-pre.length=1 by omega]; rfl
theorem z6rf {pre:List AObj} {a b o:AObj}:(pre++[a,b]).set (pre.length+1) o=pre++[a,o]:=by rw [List.set_append_right _ _ (by omega),show pre.length+1-pre.length=1 by omega]; rfl
structure DA where
 K:List Agr
 M:List Agr
 j:Nat
structure DAok (s:Spc) (A:List Agr) (a:DA):Prop where
 k:a.K=kepL s (A.take a.j)
 l:a.K.length+a.M.length=a.j
 m:1≤a.M.length
 j:a.j≤A.length
def S961 (pre:List AObj) (A:List Agr) (n:Nat) (a:DA):St:=z9qr (.ms pre.length (n*5) 0 5 n (n*5)) dfm (.int .i64 a.K.length) (.int .i64 a.j) (pre++[.cells (fl agC (a.K++(a.M++A.drop a.j)))])
theorem z75l (s:Spc) (p':List AObj) (A:List Agr) (hA:A.length≤20) (hp : ∀ n,zlf2 n (.cells (spC s)::p')=true) :
  V P ((AObj.cells (spC s)::p')++oT agC A).length a106.code (retH a106.res (delV (AObj.cells (spC s)::p').length s A) ((.cells (spC s)::p')++oT agC (delL s A))) ⟨zr5g a106.ntmps [oV (AObj.cells (spC s)::p').length 5 A,dfm],(.cells (spC s)::p')++oT agC A⟩:=by
 obtain ⟨pre,hpre⟩ : ∃ pre,(AObj.cells (spC s)::p')=pre:=⟨_,rfl⟩
 have hsn0:=zigm (k:=pre.length) (l:=A) (h:=pre) (r:=[]) rfl znh2 z1u0 (by omega)
 rw [List.append_nil] at hsn0
 have hO0 : ∀ R,objV (pre++R) 0 7=some (spC s):=fun R=>by rw [← hpre]; simp [objV,ziu0]
 have hfn : ∀ R,snap (pre++R) 3 dfm=some (dfn s):=fun R=>by
  have:=hO0 R
  simp (disch:=first|omega|simp<;>omega|fail) [-zA,-zB,-zC,-zD,-zE,dfm,dfn,this]
 have hix:=zjni (s:=s) (x:=ownN A)
 rw [zd8n (by omega)] at hix
 rw [hpre] at hp ⊢
 have h1:1≤pre.length:=by rw [← hpre]; simp
 refine zbn1 (V_W mix zjez ?_)
 simp (disch:=first|omega|simp<;>omega|fail) [-zA,-zB,-zC,-zD,-zE,a106]
 have hnp:zyp8 dfm=false:=rfl
 have hdel:A=[]→oV pre.length 5 A=delV pre.length s A:=fun e=>by subst e; rfl
 obtain ⟨N,hN⟩ : ∃ N,fIx (zvjk s) A=N:=⟨_,rfl⟩
 rw [hN] at hix
 rcases za4c (zvjk s) A with ⟨f1,f2⟩|⟨i,hi,f1,f2,f3⟩
 ·rw [hN] at f1
  subst f1
  have hk:=za2d f2
  have e1:delL s A=A:=by unfold delL; rw [hk,Nat.sub_self]; simp
  have e2:delV pre.length s A=oV pre.length 5 A:=by unfold delV oV; rw [hk]
  rw [e1,e2]
  refine zbn1 (V_W mix zjez ?_)
  simp (disch:=first|omega|simp<;>omega|fail) [-zA,-zB,-zC,-zD,-zE,zt9j,hsn0,hfn,hix,hnp]
  refine zbn1 (zbn1 (V_W mix zjez ?_))
  simp (disch:=first|omega|simp<;>omega|fail) [-zA,-zB,-zC,-zD,-zE]
  refine V_W mix zjez ?_
  simp (disch:=first|omega|simp<;>omega|fail) [-zA,-zB,-zC,-zD,-zE]
 rw [hN] at f1
 subst f1
 have hne:A≠[]:=fun e=>by rw [e] at hi; simp at hi
 obtain ⟨n,hn⟩ : ∃ n,A.length=n:=⟨_,rfl⟩
 have e2:delV pre.length s A = .ms pre.length (n*5) 0 5 (kepL s A).length (n*5):=by unfold delV; rw [if_neg hne,hn]
 have e3:delL s A≠[]:=fun e=>by have:=zr1v s A; rw [e] at this; exact hne (List.eq_nil_of_length_eq_zero this.symm)
 rw [e2,zu2l e3]
 rw [zpni hne,zu2l hne] at hsn0 ⊢
 rw [hn] at hsn0 ⊢
 refine zbn1 (V_W mix zjez ?_)
 simp (disch:=first|omega|simp<;>omega|fail) [-zA,-zB,-zC,-zD,-zE,zt9j,hsn0,hfn,hix,hnp]
 refine zbn1 (zbn1 (V_W mix zjez ?_))
 simp (disch:=first|omega|simp<;>omega|fail) [-zA,-zB,-zC,-zD,-zE]
 refine V_W mix zjez ?_
 simp (disch:=first|omega|simp<;>omega|fail) [-zA,-zB,-zC,-zD,-zE]
 refine zbn1 (zbn1 (V_W mix zjez ?_))
 simp (disch:=first|omega|simp<;>omega|fail) [-zA,-zB,-zC,-zD,-zE]
 have hki:kepL s (A.take i)=A.take i:=za2d fun a ha=>by
  obtain ⟨j,hj,e⟩:=List.getElem_of_mem ha
  rw [List.length_take] at hj
  rw [← e,List.getElem_take]; exact f3 j (by omega) (by omega)
 have hil:(A.take i).length=i:=by rw [List.length_take]; omega
 have hsp:A.take i++([A[i]]++A.drop (i+1))=A:=by
  rw [List.singleton_append,← List.drop_eq_getElem_cons hi,List.take_append_drop]
 refine z3mo (ztbr (S961 pre A n) (fun a=>n-a.j) (DAok s A) ⟨A.take i,[A[i]],i+1⟩ (z515 (by simp (disch:=first|omega|simp<;>omega|fail) [-zA,-zB,-zC,-zD,-zE,S961,z9qr,hil]) (by simp (disch:=first|omega|simp<;>omega|fail) [-zA,-zB,-zC,-zD,-zE,S961,z9qr,hsp])) ⟨?_,by simp only [List.length_singleton]; omega,by simp,by simp only; omega⟩ (fun a ha => ?_))
 ·rw [List.take_succ_eq_append_getElem hi,zxrd,f2,hki]; simp
 obtain ⟨K,M,j⟩:=a
 obtain ⟨a1,a2,a3,a4⟩:=ha
 simp only at a1 a2 a3 a4
 simp only [S961]
 refine zbn1 (V_W mix zjez ?_)
 by_cases h:j<n
 case neg =>
  have h':¬ (j:Int)<n:=by omega
  have hK:kepL s A=K:=by rw [a1,List.take_of_length_le (by omega)]
  have hd:A.drop j=[]:=List.drop_of_length_le (by omega)
  have hKl:K.length+M.length=n:=by omega
  rw [hd,List.append_nil]
  have hfl:(fl agC (K++M)).length=n*5:=by rw [z8lx znh2,List.length_append,hKl]
  obtain ⟨c,hc⟩ : ∃ c,K.length=c:=⟨_,rfl⟩
  have hs1 : ∀ H,ziwb H 5 (.ms pre.length (n*5) 0 5 n (n*5)) (some (.int .i64 c)) none none=(objV H pre.length (n*5)).map fun _ => .ms pre.length (n*5) (c*5) 5 (n-c) (n*5):=fun H=>by
   rw [zam4 (l:=c) (m:=n) (by simp [zo77,iD]; omega),Nat.zero_add]
  have hs2 : ∀ H,ziwb H 5 (.ms pre.length (n*5) 0 5 n (n*5)) none (some (.int .i64 c)) none=(objV H pre.length (n*5)).map fun _ => .ms pre.length (n*5) 0 5 c (n*5):=fun H=>by
   rw [zam4 (l:=0) (m:=c) (by simp [zo77,iD]; omega),Nat.zero_mul,Nat.zero_add,Nat.sub_zero]
  have hcl : ∀ H,clrD H 5 [.str [],.nils,.nils,.nils,.nils] (.ms pre.length (n*5) (c*5) 5 (n-c) (n*5))=(objV H pre.length (n*5)).map fun l=>(.tup [],H.set pre.length (.cells (zk7y l (c*5) (reps (n-c) (agC agr0))))):=fun H=>z7ty rfl (by decide) rfl (by omega)
  have hsp:zk7y (fl agC (K++M)) (c*5) (reps (n-c) (agC agr0))=fl agC (K++List.replicate (n-c) agr0):=by
   rw [zqtu (f:=agC),← hc]
   exact z507 znh2 (by rw [List.length_replicate]; omega)
  have hfl2:(fl agC (K++List.replicate (n-c) agr0)).length=n*5:=by rw [z8lx znh2,List.length_append,List.length_replicate,hc]; congr 1; omega
  have hdl:delL s A=K++List.replicate (n-c) agr0:=by unfold delL; rw [hK,hc,hn]
  rw [hdl,hK,hc]
  simp (disch:=first|omega|simp<;>omega|fail) [-zA,-zB,-zC,-zD,-zE,zodu,z9qr,h,h',hfl,zjj2,z1zn]
  refine zbn1 (V_W mix zjez ?_)
  simp (disch:=first|omega|simp<;>omega|fail) [-zA,-zB,-zC,-zD,-zE,hs1,hcl,hsp,hfl,zjj2,z1zn,zxft]
  refine zbn1 (V_W mix zjez ?_)
  simp (disch:=first|omega|simp<;>omega|fail) [-zA,-zB,-zC,-zD,-zE,hs2,hfl2,zjj2,z1zn]
  refine V_W mix zjez ?_
  simp (disch:=first|omega|simp<;>omega|fail) [-zA,-zB,-zC,-zD,-zE]
 have h':(j:Int)<n:=by omega
 have hjl:j<A.length:=by omega
 obtain ⟨x,hx⟩ : ∃ x,A[j]=x:=⟨_,rfl⟩
 have hd:A.drop j=x::A.drop (j+1):=by rw [List.drop_eq_getElem_cons hjl,hx]
 have hk1:kepL s (A.take (j+1))=K++(if zvjk s x then [] else [x]):=by rw [List.take_succ_eq_append_getElem hjl,zxrd,← a1,hx]
 obtain ⟨R,hR⟩ : ∃ R,A.drop (j+1)=R:=⟨_,rfl⟩
 have hRl:R.length=n-(j+1):=by rw [← hR,List.length_drop,hn]
 rw [hR] at hd
 rw [hd]
 obtain ⟨L,hL⟩ : ∃ L,K++(M++x::R)=L:=⟨_,rfl⟩
 have hLl:L.length=n:=by rw [← hL]; simp; omega
 have hjL : ∀ h:j<L.length,L[j]=x:=fun h=>by
  subst hL
  rw [List.getElem_append_right (by omega),List.getElem_append_right (by omega)]
  simp [show j-K.length-M.length=0 by omega]
 rw [hL]
 obtain ⟨G,hG⟩ : ∃ G,fl agC L=G:=⟨_,rfl⟩
 have hGl:G.length=n*5:=by rw [← hG,z8lx znh2,hLl]
 have hGp:zbao G=true:=by rw [← hG]; exact zp6k z1u0 L
 have o1:oneC 5 true (G.drop (j*5))=some (.agg (agC x)):=by rw [← hG,zfiy znh2 (by omega),hjL]
 have hix2 : ∀ H,zpsc H 5 (.ms pre.length (n*5) 0 5 n (n*5)) (j:Int)=(objV H pre.length (n*5)).map fun _ => .mp pre.length (n*5) (j*5):=fun H=>by
  simp (disch:=first|omega|simp<;>omega|fail) [-zA,-zB,-zC,-zD,-zE,h,h']
 rw [hG]
 obtain ⟨c,hc⟩ : ∃ c,K.length=c:=⟨_,rfl⟩
 have hcn:c<n:=by omega
 have hcn':(c:Int)<n:=by omega
 have hHb:zlf2 (pre.length+1) (pre++[.cells G])=true:=zebc (hp _) (by simp only [zlf2,zmq5 _ _ hGp,Bool.and_self])
 rw [hc]
 simp (disch:=first|omega|simp<;>omega|fail) [-zA,-zB,-zC,-zD,-zE,zodu,z9qr,h,h',hGl,zjj2,z1zn]
 refine zbn1 (z3mo (zbn1 (V_W mix zjez ?_)))
 simp (disch:=first|omega|simp<;>omega|fail) [-zA,-zB,-zC,-zD,-zE,h,h',hGl,zjj2,z1zn,o1,zrpz,z6rf]
 rw [show pre++[AObj.cells G,AObj.cells (agC x)]=(pre++[.cells G])++[.cells (agC x)] by simp]
 have hHl:(pre++[AObj.cells G]).length=pre.length+1:=by simp
 refine zs10 (n0:=pre.length+1) (H:=pre++[.cells G]) (cs:=agC x) (t':=[.ms pre.length (n*5) 0 5 n (n*5),dfm,.junk,.junk,.junk,.int .i64 c,.int .i64 j,.ref (agC x)]++js 34) (by rw [hHl]; exact hHb) (Nat.le_of_eq hHl.symm) ?_ (by simp (disch:=first|omega|simp<;>omega|fail) [-zA,-zB,-zC,-zD,-zE,z1r6,Am.below,dfm]) ?_
 ·have e1:=zz5t (H:=pre++[.cells G]) (cs:=agC x) (off:=0) (z1u0 x)
  rw [hHl,znh2,List.drop_zero] at e1
  simp only [List.append_assoc,List.cons_append,List.nil_append] at e1
  have e2 : ∀ h,mk1 (kLt (pre.length+1)) h (.ms pre.length (n*5) 0 5 n (n*5)) = .ms pre.length (n*5) 0 5 n (n*5):=fun h=>zd3c (by simp [Am.below])
  have e3 : ∀ h,mk1 (kLt (pre.length+1)) h dfm=dfm:=fun h=>zd3c (by simp [Am.below,dfm,z1r6])
  rw [hHl]
  simp (disch:=first|omega|simp<;>omega|fail) [-zA,-zB,-zC,-zD,-zE,e1,e2,e3,-z1bt,-zdpe]
 have hcd:=zxx2 (s:=s) (a:=x)
 refine V_W mix zjez ?_
 cases hsm:zvjk s x with
 | true =>
  rw [hsm] at hcd hk1
  have hfin:fl agC (K++((M++[x])++A.drop (j+1)))=G:=by rw [hR,← hG,← hL]; simp
  simp (disch:=first|omega|simp<;>omega|fail) [-zA,-zB,-zC,-zD,-zE,dfm,zd17,z8g9,hcd,hO0]
  refine V_W mix zjez ?_
  simp (disch:=first|omega|simp<;>omega|fail) [-zA,-zB,-zC,-zD,-zE]
  exact ⟨⟨K,M++[x],j+1⟩,z515 (by simp (disch:=first|omega|simp<;>omega|fail) [-zA,-zB,-zC,-zD,-zE,S961,z9qr,dfm,hc]) (by simp only [S961,z9qr]; rw [hfin]),by simp only; omega,⟨by simpa using hk1.symm,by simp only [List.length_append,List.length_singleton]; omega,by simp,by simp only; omega⟩⟩
 | false =>
  rw [hsm] at hcd hk1
  obtain ⟨m0,M',rfl⟩ : ∃ m0 M',M=m0::M':=by
   cases M with
   | nil=>simp at a3
   | cons m0 M'=>exact ⟨m0,M',rfl⟩
  have hset:L.set c x=(K++[x])++((M'++[x])++R):=by
   rw [← hL,← hc,List.set_append_right _ _ (Nat.le_refl _),Nat.sub_self]; simp
  have hst : ∀ h:List AObj,zy6o h pre.length 5 (c*5) (.agg (agC x)) (some G)=some (.junk,h.set pre.length (.cells (fl agC ((K++[x])++((M'++[x])++R))))):=fun h=>by rw [← hG,zdvi znh2 (by decide) (fun _=>z892) (by omega),hset]
  simp (disch:=first|omega|simp<;>omega|fail) [-zA,-zB,-zC,-zD,-zE,dfm,zd17,z8g9,hcd,hO0,hGl,zjj2,z1zn,hst,zxft,hcn,hcn']
  refine V_W mix zjez ?_
  simp (disch:=first|omega|simp<;>omega|fail) [-zA,-zB,-zC,-zD,-zE]
  exact ⟨⟨K++[x],M'++[x],j+1⟩,z515 (by simp (disch:=first|omega|simp<;>omega|fail) [-zA,-zB,-zC,-zD,-zE,S961,z9qr,dfm,hc]) (by simp (disch:=first|omega|simp<;>omega|fail) [-zA,-zB,-zC,-zD,-zE,S961,z9qr,hR]),by simp only; omega,⟨by simpa using hk1.symm,by simp only [List.length_append,List.length_singleton]; simp only [List.length_cons] at a2; omega,by simp,by simp only; omega⟩⟩
theorem zni1 (s:Spc) (p':List AObj) (A:List Agr) (hA:A.length≤20) (hp : ∀ n,zlf2 n (.cells (spC s)::p')=true):zwy1 P 106 [oV (AObj.cells (spC s)::p').length 5 A,dfm] ((.cells (spC s)::p')++oT agC A) (fun d h=>d=delV (AObj.cells (spC s)::p').length s A∧h=(.cells (spC s)::p')++oT agC (delL s A)) :=
 zrqk Tryd.func106 zex6 (z75l s p' A hA hp)
end Go.Proofs.YtjknipdiglpnlaaDoor
set_option linter.unusedSimpArgs false
set_option linter.unusedVariables false
namespace Go.Proofs.YtjknipdiglpnlaaDoor
open Go Go.Am
def enS (s:Spc) (A:List Agr):Sl Agr:=if A=[] then nilS else own (kepL s A)
theorem znmy {s:Spc} {A:List Agr} (h:A.length≤20):(enS s A).l=kepL s A:=by
 unfold enS
 split
 ·rename_i e; subst e; rfl
 ·have:=zcmj s A
  rw [z3e9 (by omega)]
def decA (s:Spc) (V:List Vot):Agr × Int:=match decF (fun a:Agr=>a.owners.l.length) s.thr (zj70 V) with
 | .thr=>(agr0,10)
 | .dis=>(agr0,11)
 | .ok a=>(⟨a.lnk,a.owners,ownN (eqv1 V)⟩,0)
theorem zbp1 {s:Spc} {A:List Agr} (hA:A.length≤20) {H:List AObj} {k:Nat} (hk:k≤H.length):mk1 (kLt k) (H++oT agC (delL s A)) (delV H.length s A)=(enS s A).dv 5 agC:=by
 have hkl:=zcmj s A
 by_cases e:A=[]
 ·subst e; exact zhx5
 ·have hd:delL s A≠[]:=fun q=>by have:=zr1v s A; rw [q] at this; exact e (List.eq_nil_of_length_eq_zero this.symm)
  have hd2:(fl agC (delL s A)).length=A.length*5:=by rw [z8lx znh2,zr1v]
  have htk:(fl agC (delL s A)).take ((kepL s A).length*5)=(kepL s A).flatMap agC:=by
   rw [z590 znh2]; unfold delL; rw [List.take_left' rfl]
  unfold delV enS
  rw [if_neg e,if_neg e,zu2l hd]
  refine zwy6 ?_
  rw [zi9r,if_neg (by simp [kLt]; omega),zjj2,z1zn,if_pos hd2,Option.bind_some,List.drop_zero,htk,zl6f (zp6k z1u0 _),zqrs (by omega)]; rfl
noncomputable def T962:Tbl:=addT 11 (.new cCmn) tbl0
theorem zm8b:T962 11 = .new cCmn:=by simp [T962]
theorem zwd6:T962.Sound P:=z0rp zkeo zr5o
theorem zyss:zvnk [.str [],.nils,.nils,.nils,.nils] []=some (.agg (agC agr0)):=rfl
theorem zpir (s:Spc) (l:Sl Att) (hl:l.l.length≤20):V P 0 a56.code (retK a56.res (.tup [.agg (agC (decA s (votL s l.l)).1),.int .i64 (decA s (votL s l.l)).2])) ⟨zr5g a56.ntmps [.agg (spC s),l.dv 9 atC],[]⟩:=by
 have hV:=zldt s l.l
 have k1:=fun n=>zj79 (s:=s) hl n
 obtain ⟨V,hVV⟩ : ∃ V,votL s l.l=V:=⟨_,rfl⟩
 rw [hVV] at hV k1 ⊢
 have hAl:=z9h1 (V:=V) (by omega)
 have hq:=zb7u V
 have hdec:decA s V=match decF (fun a:Agr=>a.owners.l.length) s.thr (zj70 V) with
  | .thr=>(agr0,10)
  | .dis=>(agr0,11)
  | .ok a=>(⟨a.lnk,a.owners,ownN (eqv1 V)⟩,0):=rfl
 obtain ⟨A,hA⟩ : ∃ A,zj70 V=A:=⟨_,rfl⟩
 rw [hA] at k1 hAl hdec
 have hcall:=zni1 s [.cells (agC agr0),.cells (spC s)] A (by omega) (fun n=>by simp only [zlf2,z2i6,zegd,Bool.and_self])
 have hmk:=zbp1 (s:=s) (A:=A) (by omega) (H:=[AObj.cells (spC s),.cells (agC agr0),.cells (spC s)]) (k:=2) (by simp)
 have hEl:=znmy (s:=s) (A:=A) (by omega)
 obtain ⟨E,hE⟩ : ∃ E,enS s A=E:=⟨_,rfl⟩
 rw [hE] at hmk hEl
 have hqm : ∀ K h,mk1 K h (qvA V)=qvA V:=fun K h=>zvft hq
 simp only [List.cons_append,List.nil_append,List.length_cons,List.length_nil,Nat.zero_add,Nat.reduceAdd] at hcall hmk
 refine zbn1 (V_W mix zr5o ?_)
 simp (disch:=first|omega|simp<;>omega|fail) [-zA,-zB,-zC,-zD,-zE,a56]
 rw [← zxlt]
 refine zbn1 (V_W mix zwd6 ?_)
 simp (disch:=first|omega|simp<;>omega|fail) [-zA,-zB,-zC,-zD,-zE,z8s9,zm8b,k1,zu1r]
 refine zbn1 (V_W mix (z84q hcall) ?_)
 simp (disch:=first|omega|simp<;>omega|fail) [-zA,-zB,-zC,-zD,-zE,TH_k,zpvh,dfm]
 refine z0em (H:=[AObj.cells (spC s),.cells (agC agr0)]) (R := .cells (spC s)::oT agC (delL s A)) (t':=[.junk,.junk,.mp 0 7 0,.junk,.mp 1 5 0,.int .i64 0,.junk,qvA V,E.dv 5 agC]++js 31) (by simp only [zlf2,z2i6,zegd,Bool.and_self]) (by simp) ?_ (by simp (disch:=first|omega|simp<;>omega|fail) [-zA,-zB,-zC,-zD,-zE,z1r6,Am.below,z8b8 _ _ hq,z8b8 _ _ (z165 E)]) ?_
 ·simp only [List.length_cons,List.length_nil,Nat.zero_add,Nat.reduceAdd,List.cons_append,List.nil_append]
  have e2 : ∀ h,mk1 (kLt 2) h (.mp 0 7 0) = .mp 0 7 0:=fun h=>zd3c (by simp [Am.below])
  have e3 : ∀ h,mk1 (kLt 2) h (.mp 1 5 0) = .mp 1 5 0:=fun h=>zd3c (by simp [Am.below])
  simp (disch:=first|omega|simp<;>omega|fail) [-zA,-zB,-zC,-zD,-zE,e2,e3,hmk,hqm,-z1bt,-zdpe]
 have hlE : ∀ H,lenD H (E.dv 5 agC)=some (.int .i64 E.l.length):=fun H=>zupj
 have hEk:kepL s A=enoL (fun a:Agr=>a.owners.l.length) s.thr A:=rfl
 rw [hEk] at hEl
 refine V_W mix zr5o ?_
 by_cases ht:s.thr<1
 ·have hd:decA s V=(agr0,10):=by rw [hdec]; unfold decF; rw [if_pos ht]
  rw [hd]
  simp (disch:=first|omega|simp<;>omega|fail) [-zA,-zB,-zC,-zD,-zE,z66y,ht,zyss]
 have hzz:E.l≠[] → ∀ H,∃ y r,E.l=y::r∧zpsc H 5 (E.dv 5 agC) 0=some (.ref (agC y)):=fun hne H=>by
  cases e:E.l with
  | nil=>exact absurd e hne
  | cons y r =>
   have:=zalo (h:=H) (x:=E) (i:=0) znh2 (by rw [e]; simp)
   rw [show ((0:Nat):Int)=0 from rfl] at this
   exact ⟨y,r,rfl,by rw [this]; simp [e]⟩
 rcases hEE:E.l with _|⟨y,_|⟨z,r⟩⟩
 ·have hd:decA s V=(agr0,10):=by rw [hdec]; unfold decF; rw [if_neg ht,← hEl,hEE]
  rw [hEE] at hlE
  rw [hd]
  simp (disch:=first|omega|simp<;>omega|fail) [-zA,-zB,-zC,-zD,-zE,z66y,ht,hlE,zyss]
 ·have hd:decA s V=(⟨y.lnk,y.owners,ownN (eqv1 V)⟩,0):=by rw [hdec]; unfold decF; rw [if_neg ht,← hEl,hEE]
  have hi : ∀ H,zpsc H 5 (E.dv 5 agC) 0=some (.ref (agC y)):=fun H=>by
   obtain ⟨y',r,e,h⟩:=hzz (by rw [hEE]; simp) H
   rw [hEE] at e; cases e; exact h
  have hst : ∀ (H:List AObj) (id:Nat),zy6o H id 1 4 (qvA V) (some (agC y))=some (.junk,H.set id (.cells (agC ⟨y.lnk,y.owners,ownN (eqv1 V)⟩))):=fun H id=>by
   have:qvA V=(ownN (eqv1 V)).dv 1 stC:=rfl
   rw [this,Am.storeO_1 (zfr8 _) (z4ja _) (by rw [znh2]; decide)]; rfl
  rw [hEE] at hlE
  rw [hd]
  simp (disch:=first|omega|simp<;>omega|fail) [-zA,-zB,-zC,-zD,-zE,z66y,ht,hlE,hi,zd17,hst]
 ·have hd:decA s V=(agr0,11):=by rw [hdec]; unfold decF; rw [if_neg ht,← hEl,hEE]
  rw [hEE] at hlE
  have hl2:¬ ((z::r).length:Int)+1=0:=by omega
  have hl3:(1:Int)<((z::r).length:Int)+1:=by simp; omega
  have hl4:((y::z::r).length:Int)=((z::r).length:Int)+1:=by simp
  obtain ⟨N,hN⟩ : ∃ N:Nat,(z::r).length=N:=⟨_,rfl⟩
  rw [hN] at hl2 hl3 hl4
  simp only [hl4] at hlE
  rw [hd]
  simp (disch:=first|omega|simp<;>omega|fail) [-zA,-zB,-zC,-zD,-zE,z66y,ht,hlE,zyss,hl2,hl3]
noncomputable def cDec:List DV→Option DV:=con (fun a:Spc × Sl Att=>a.2.l.length≤20) (fun a:Spc × Sl Att=>[.agg (spC a.1),a.2.dv 9 atC]) (fun a => .tup [.agg (agC (decA a.1 (votL a.1 a.2.l)).1),.int .i64 (decA a.1 (votL a.1 a.2.l)).2])
theorem z6ch {s:Spc} {l:Sl Att} (h:l.l.length≤20):cDec [.agg (spC s),l.dv 9 atC]=some (.tup [.agg (agC (decA s (votL s l.l)).1),.int .i64 (decA s (votL s l.l)).2]) :=
 zzno (A:=fun a:Spc × Sl Att=>a.2.l.length≤20) (f:=fun a:Spc × Sl Att=>[.agg (spC a.1),a.2.dv 9 atC]) (g:=fun a => .tup [.agg (agC (decA a.1 (votL a.1 a.2.l)).1),.int .i64 (decA a.1 (votL a.1 a.2.l)).2]) (fun a b e=>by rw [zg9a e]) (s,l) h
theorem zdlo:(Con.pure cDec).Sound P 56:=z2au fun a h=>znz9 Tryd.func56 zcwb (zpir a.1 a.2 h)
end Go.Proofs.YtjknipdiglpnlaaDoor
set_option linter.unusedSimpArgs false
set_option linter.unusedVariables false
namespace Go.Proofs.YtjknipdiglpnlaaDoor
open Go Go.Am
section
variable {α:Type} {f:α→List DV} {K:Nat}
def oW (k K:Nat) (l:List α):DV:=if l=[] then .sl true K 0 [] else .ms k (l.length*K) 0 K l.length (l.length*K)
theorem ze3w {k:Nat}:oW k K ([]:List α) = .sl true K 0 []:=rfl
theorem zpml {k:Nat} {l:List α} (h:l≠[]):oW k K l=oV k K l:=by rw [zpni h]; exact if_neg h
theorem zg9v {k:Nat} {l:List α}:(oW k K l).known=true:=by unfold oW; split<;>rfl
theorem znxx {k b:Nat} {l cs:List α} {h:List AObj} (hp:h.length=k) (hu : ∀ a,(f a).length=K) (h0:0<K) (hb:b≤16384) (ha : ∀ a,(f a).all DV.one=true) (hbig:l.length+cs.length≤4294967296) :
  appX (h++oT f l) K b (oW k K l) cs.length (cs.flatMap f)=some (oW k K (l++cs),h++oT f (l++cs)):=by
 by_cases e:l=[]
 ·subst e
  rw [ze3w,zkrk,List.append_nil,List.nil_append]
  by_cases e2:cs=[]
  ·subst e2
   rw [show ([]:List α).flatMap f=[] from rfl,List.length_nil,zegt hb h0,ze3w,zkrk,List.append_nil]
  ·have:=ztup (h:=h) (s:=K) (b:=b) (n:=0) (m:=cs.length) (ds:=[]) (cs:=cs.flatMap f) hb h0 (by rw [z1rq hu]) (List.length_pos_iff.2 e2) (by simp at hbig; omega)
   rw [this,zpml e2,zpni e2,zu2l e2,z1rq hu,hp]
   simp [fl]
 ·rw [zpml e,zpml (by simp [e])]
  exact z612 hp hu h0 hb ha hbig
end
theorem zye0 {s:Str} {m p:Sl Ent}:zvnk [.str [],.nils,.nils] [(0,1,.str s),(1,1,m.dv 33 enC),(2,1,p.dv 33 enC)]=some (.agg (lkC ⟨s,m,p⟩)):=by
 simp [zvnk,zi03,zk7y,lkC]
end Go.Proofs.YtjknipdiglpnlaaDoor
set_option linter.unusedSimpArgs false
set_option linter.unusedVariables false
namespace Go.Proofs.YtjknipdiglpnlaaDoor
open Go Go.Am
structure Tp where
 k:Option Bool
 l:List Int
 h:k=none→l=[]
 at_:Nat
def inI (n:Int):List DV:=[.int .i64 n]
def Tp.sl (t:Tp):DV:=slD t.k 1 t.l.length (t.l.flatMap inI)
def tpC (t:Tp):List DV:=[t.sl,.int .i64 t.at_]
def Tp.adv (t:Tp) (m:Nat):Tp:={ t with at_:=t.at_+m }
theorem zg97 (n:Int):(inI n).length=1:=rfl
theorem zyj0 (n:Int):zbao (inI n)=true:=rfl
theorem z5yb (t:Tp):zyp8 t.sl=true:=by
 obtain ⟨k,l,h,a⟩:=t
 cases k with
 | none=>rfl
 | some b=>show zbao _=true; exact zp6k zyj0 l
theorem zs7w (t:Tp):zbao (tpC t)=true:=by simp [tpC,zbao,z5yb,zyp8]
theorem zl4f (t:Tp):(tpC t).length=2:=by simp [tpC]
theorem zwhz (t:Tp) (H:List AObj):lenD H t.sl=some (.int .i64 t.l.length):=zjc6 (fun e=>by rw [t.h e]; rfl)
theorem zmwh (t:Tp) (H:List AObj) {i:Nat} (hi:i<t.l.length):zpsc H 1 t.sl i=some (.ref [.int .i64 t.l[i]]):=by
 obtain ⟨k,l,h,a⟩:=t
 cases k with
 | none=>simp only at hi; rw [h rfl] at hi; simp at hi
 | some b =>
  simp only [Tp.sl,zip4]
  rw [zsu0 (by omega) (by simp only at hi; omega),Int.toNat_natCast,zdao zg97 hi]; rfl
theorem zxr4 (t:Tp):t.sl.one=true:=by obtain ⟨k,l,h,a⟩:=t; cases k<;>rfl
theorem zn8z (t:Tp):t.sl.known=true:=by obtain ⟨k,l,h,a⟩:=t; cases k<;>rfl
theorem zymw (t:Tp):t.sl.cells=[t.sl]:=by obtain ⟨k,l,h,a⟩:=t; cases k<;>rfl
theorem zpy8 (t:Tp) (n k:Nat) (H:List AObj):fz n H k t.sl=some t.sl:=zqge (z5yb t)
theorem ziad : ∀ {a b:List Int},a.flatMap inI=b.flatMap inI→a=b
 | [],[],_=>rfl
 | [],y::b,h=>by simp [inI] at h
 | x::a,[],h=>by simp [inI] at h
 | x::a,y::b,h=>by
  simp only [List.flatMap_cons,inI,List.singleton_append,List.cons.injEq,DV.int.injEq,true_and] at h
  rw [h.1,ziad h.2]
theorem z15z {a b:Tp} (h:tpC a=tpC b):a=b:=by
 obtain ⟨k,l,h1,p⟩:=a
 obtain ⟨k',l',h2,p'⟩:=b
 simp only [tpC,Tp.sl,List.cons.injEq,DV.int.injEq,true_and,and_true,Int.natCast_inj] at h
 obtain ⟨h,rfl⟩:=h
 cases k with
 | none=>cases k' with
  | none=>rw [Tp.mk.injEq]; exact ⟨rfl,by rw [h1 rfl,h2 rfl],rfl⟩
  | some b=>simp [slD] at h
 | some b=>cases k' with
  | none=>simp [slD] at h
  | some b' =>
   simp only [zip4,DV.sl.injEq] at h
   obtain ⟨rfl,_,_,h⟩:=h
   rw [Tp.mk.injEq]; exact ⟨rfl,ziad h,rfl⟩
attribute [simp] zwhz zxr4 zn8z zymw zpy8 zl4f
def zq5q (t:Tp):Int:=if h:t.at_<t.l.length then t.l[t.at_] else t.at_*7+3
def tpN (t:Tp) (n:Int):Int:=if n<1 then 0 else zq5q t % n
def tpS (t:Tp) (n:Int):Tp:=if n<1 then t else t.adv 1
theorem z4rs (t:Tp) (n:Int):0≤tpN t n:=by
 unfold tpN; split
 ·omega
 ·exact Int.emod_nonneg _ (by omega)
theorem z2s7 (t:Tp) {n:Int} (h:1≤n):tpN t n<n:=by
 unfold tpN; rw [if_neg (by omega)]; exact Int.emod_lt_of_pos _ (by omega)
theorem z1rh (t:Tp) (m:Nat):(t.adv m).sl=t.sl:=by simp [Tp.adv,Tp.sl]
theorem zpza (t:Tp) (m:Nat):(t.adv m).at_=t.at_+m:=by simp [Tp.adv]
theorem zk2k (t:Tp) (m:Nat):(t.adv m).l=t.l:=by simp [Tp.adv]
attribute [simp] z1rh zpza zk2k
theorem zhly (x n:Int) (h:1≤n) (h2:n≤4294967296):IntKind.i64.wrap (x.tmod n+n)=x.tmod n+n∧(x.tmod n+n).tmod n=x % n:=by
 have h1:=Int.tmod_lt_of_pos x (show 0<n by omega)
 have h3 : -n<x.tmod n:=by
  have:=Int.lt_tmod_of_pos x (show 0<n by omega)
  omega
 refine ⟨znmn (by omega) (by omega),?_⟩
 rw [Int.tmod_eq_emod_of_nonneg (by omega),Int.add_emod_right]
 rw [Int.tmod_eq_emod]
 split
 ·simp
 ·rw [Int.natAbs_of_nonneg (show 0≤n by omega)]; simp
theorem z1hg (t:Tp) (n:Int) (ht:t.at_<4294967296) (hn:n≤4294967296):RunsF tbl0 a37 [.mp 0 2 0,.int .i64 n] [.cells (tpC t)] (.int .i64 (tpN t n)) [.cells (tpC (tpS t n))]:=by
 refine ⟨?_⟩
 by_cases h:n<1
 ·have e1:tpN t n=0:=by rw [tpN,if_pos h]
  have e2:tpS t n=t:=by rw [tpS,if_pos h]
  rw [e1,e2]
  simp (disch:=first|omega|simp<;>omega|fail) [-zA,-zB,-zC,-zD,-zE,a37,tpC,h]
 have e2:tpS t n=t.adv 1:=by rw [tpS,if_neg h]
 obtain ⟨f1,f2⟩:=zhly (zq5q t) n (by omega) hn
 have e3:tpN t n=zq5q t % n:=by rw [tpN,if_neg h]
 rw [← e3] at f2
 rw [e2]
 have hn0:n≠0:=by omega
 by_cases hl:t.at_<t.l.length
 ·have hl':(t.at_:Int)<t.l.length:=by omega
  have hr:t.l[t.at_]=zq5q t:=by rw [zq5q,dif_pos hl]
  have hi:=fun H=>zmwh t H hl
  simp (disch:=first|omega|simp<;>omega|fail) [-zA,-zB,-zC,-zD,-zE,a37,tpC,h,hl,hl',hi,hr,hn0,f1,f2,-Int.tmod_eq_emod_of_nonneg]
 ·have hl':¬ (t.at_:Int)<t.l.length:=by omega
  have hr:(t.at_:Int)*7+3=zq5q t:=by rw [zq5q,dif_neg hl]
  have hw:(t.at_:Int)*7<9223372036854775808:=by omega
  simp (disch:=first|omega|simp<;>omega|fail) [-zA,-zB,-zC,-zD,-zE,a37,tpC,h,hl,hl',hr,hn0,f1,f2,-Int.tmod_eq_emod_of_nonneg]
theorem zjmf (t:Tp) (a b:Nat):(t.adv a).adv b=t.adv (a+b):=by simp [Tp.adv,Nat.add_assoc]
theorem zi8m {t:Tp} {n:Int} (h:1≤n):tpS t n=t.adv 1:=by rw [tpS,if_neg (by omega)]
noncomputable def z1m3:List DV→List DV→Option (DV × List DV):=conT (fun a:Tp × Int=>a.1.at_<4294967296∧a.2≤4294967296) (fun a=>[.int .i64 a.2]) (fun a=>tpC a.1) (fun a=>(.int .i64 (tpN a.1 a.2),tpC (tpS a.1 a.2)))
theorem zs7j {t:Tp} {n:Int} (h1:t.at_<4294967296) (h2:n≤4294967296):z1m3 [.int .i64 n] (tpC t)=some (.int .i64 (tpN t n),tpC (tpS t n)) :=
 ztyo (A:=fun a:Tp × Int=>a.1.at_<4294967296∧a.2≤4294967296) (f:=fun a=>[.int .i64 a.2]) (s:=fun a=>tpC a.1) (by
  rintro ⟨a,n⟩ ⟨b,m⟩ e1 e2
  simp only [List.cons.injEq,DV.int.injEq,true_and,and_true] at e1
  rw [e1,z15z e2]) (t,n) ⟨h1,h2⟩
theorem z44h {t:Tp} {n:Int} (h1:t.at_<4294967296) (h2:n≤4294967296) (h3:1≤n):z1m3 [.int .i64 n] (tpC t)=some (.int .i64 (tpN t n),tpC (t.adv 1)):=by rw [zs7j h1 h2,zi8m h3]
theorem z51e:(Con.tch z1m3).Sound P 37 :=
 z0tq (fun a _=>⟨rfl,zs7w _,rfl,zs7w _⟩) fun a h=>zizi mix zr5o Tryd.func37 z554 (z1hg a.1 a.2 h.1 h.2) (Nat.le_refl _)
noncomputable def T150:Tbl:=addT 37 (.tch z1m3) tbl0
theorem zp0f:T150 37 = .tch z1m3:=by simp [T150]
theorem zt0z:T150.Sound P:=z0rp z51e zr5o
def zzh5 (t:Tp) (l:List (List UInt8)):List UInt8:=l.getD (tpN t l.length).toNat []
theorem zqrp (t:Tp) {l:List (List UInt8)} (h:l≠[]):zzh5 t l ∈ l:=by
 have h0:1≤l.length:=by cases l with|nil=>exact absurd rfl h|cons _ _=>simp
 have h1:=z4rs t l.length
 have h2:=z2s7 t (n:=l.length) (by omega)
 have h3:(tpN t l.length).toNat<l.length:=by omega
 rw [zzh5,List.getD_eq_getElem?_getD,List.getElem?_eq_getElem h3]
 exact List.getElem_mem h3
theorem z4zb (t:Tp) (l:List (List UInt8)) (ht:t.at_<4000000000) (h0:1≤l.length) (hl:l.length≤4294967296):RunsF T150 a23 [.mp 0 2 0,.sl true 1 l.length (l.map .str)] [.cells (tpC t)] (.str (zzh5 t l)) [.cells (tpC (t.adv 1))]:=by
 refine ⟨?_⟩
 have h1:=z4rs t l.length
 have h2:=z2s7 t (n:=l.length) (by omega)
 obtain ⟨N,hN⟩ : ∃ N:Nat,tpN t l.length=N:=⟨_,(Int.toNat_of_nonneg h1).symm⟩
 have h3:N<l.length:=by omega
 have e:zzh5 t l=l[N]:=by rw [zzh5,hN,Int.toNat_natCast,List.getD_eq_getElem?_getD,List.getElem?_eq_getElem h3]; rfl
 have hd:((l.map DV.str).drop N).take 1=[.str l[N]]:=by
  rw [← List.map_drop,List.drop_eq_getElem_cons h3]; rfl
 have hfz:fzL 1 [.cells (tpC (t.adv 1))] (tpC (t.adv 1)) (tpC (t.adv 1)):=znnb (zs7w _)
 simp (disch:=first|omega|simp<;>omega|fail) [-zA,-zB,-zC,-zD,-zE,a23,zp0f,z44h,hN,h3,e,hd,hfz,zbao]
noncomputable def zqck:List DV→List DV→Option (DV × List DV):=conT (fun a:Tp × List (List UInt8)=>a.1.at_<4000000000∧1≤a.2.length∧a.2.length≤4294967296) (fun a=>[.sl true 1 a.2.length (a.2.map .str)]) (fun a=>tpC a.1) (fun a=>(.str (zzh5 a.1 a.2),tpC (a.1.adv 1)))
theorem zsi8 : ∀ {a b:List (List UInt8)},a.map DV.str=b.map DV.str→a=b
 | [],[],_=>rfl
 | [],y::b,h=>by simp at h
 | x::a,[],h=>by simp at h
 | x::a,y::b,h=>by
  simp only [List.map_cons,List.cons.injEq,DV.str.injEq] at h
  rw [h.1,zsi8 h.2]
theorem ze0z {t:Tp} {l:List (List UInt8)} (h:t.at_<4000000000) (h1:1≤l.length) (h2:l.length≤4294967296):zqck [.sl true 1 l.length (l.map .str)] (tpC t)=some (.str (zzh5 t l),tpC (t.adv 1)) :=
 ztyo (A:=fun a:Tp × List (List UInt8)=>a.1.at_<4000000000∧1≤a.2.length∧a.2.length≤4294967296) (f:=fun a=>[.sl true 1 a.2.length (a.2.map .str)]) (s:=fun a=>tpC a.1) (by
  rintro ⟨a,n⟩ ⟨b,m⟩ e1 e2
  simp only [List.cons.injEq,DV.sl.injEq,true_and,and_true] at e1
  rw [zsi8 e1.2,z15z e2]) (t,l) ⟨h,h1,h2⟩
theorem z3hj:(Con.tch zqck).Sound P 23 :=
 z0tq (fun a _=>⟨by simp [zbao,zyp8]; exact List.rec rfl (fun _ _ ih=>by simpa [zbao,zyp8] using ih) a.2,zs7w _,rfl,zs7w _⟩) fun a h=>zizi mix zt0z Tryd.func23 ztyx (z4zb a.1 a.2 h.1 h.2.1 h.2.2) (Nat.le_refl _)
def dgW (b:BitVec 8):Dg:=⟨b::rep 31 0#8,by simp [rep]⟩
abbrev dgB (z:Int):Dg:=dgW (BitVec.ofInt 8 z)
theorem z7ni {b:BitVec 8}:zvnk (dgC dg0) [(0,1,w8 b)]=some (.agg (dgC (dgW b))):=rfl
def sumV (t:Tp):Dg:=dgB (1+tpN t 6)
theorem zizk (t:Tp) (ht:t.at_<4000000000):RunsF T150 a113 [.mp 0 2 0] [.cells (tpC t)] (.agg (dgC (sumV t))) [.cells (tpC (t.adv 1))]:=by
 refine ⟨?_⟩
 have h1:=z4rs t 6
 have h2:=z2s7 t (n:=6) (by omega)
 have hfz : ∀ k,fzL 1 k (tpC (t.adv 1)) (tpC (t.adv 1)):=fun k=>znnb (zs7w _)
 simp (disch:=first|omega|simp<;>omega|fail) [-zA,-zB,-zC,-zD,-zE,a113,zp0f,z44h,hfz,z7ni,sumV,zojd (z6je _)]
noncomputable def cSum:List DV→List DV→Option (DV × List DV):=conT (fun a:Tp=>a.at_<4000000000) (fun a=>[]) tpC (fun a=>(.agg (dgC (sumV a)),tpC (a.adv 1)))
theorem zliq {t:Tp} (h:t.at_<4000000000):cSum [] (tpC t)=some (.agg (dgC (sumV t)),tpC (t.adv 1)) :=
 ztyo (A:=fun a:Tp=>a.at_<4000000000) (f:=fun a=>[]) (s:=tpC) (fun a b _ e=>by rw [z15z e]) t h
theorem z8dz:(Con.tch cSum).Sound P 113 :=
 z0tq (fun a _=>⟨rfl,zs7w _,by simp [zyp8],zs7w _⟩) fun a h=>zizi mix zt0z Tryd.func113 zz1e (zizk a h) (Nat.le_refl _)
structure Nl where
 k:Option Bool
 l:List Int
 h:k=none→l=[]
 b:l.length≤9223372036854775807
def Nl.dv (x:Nl):DV:=slD x.k 1 x.l.length (x.l.flatMap inI)
theorem zkx7 (x:Nl):zyp8 x.dv=true:=z5yb ⟨x.k,x.l,x.h,0⟩
theorem z2kw {a b:Nl} (h:a.dv=b.dv):a=b:=by
 obtain ⟨k,l,h1,p⟩:=a
 obtain ⟨k',l',h2,p'⟩:=b
 have:=z15z (a:=⟨k,l,h1,0⟩) (b:=⟨k',l',h2,0⟩) (by simp only [tpC,Tp.sl]; simp only [Nl.dv] at h; rw [h])
 simp only [Tp.mk.injEq,and_true] at this
 rw [Nl.mk.injEq]; exact this
theorem zkbj {t:Tp}:zvnk [.nils,.int .i64 0] [(0,1,t.sl)]=some (.agg [t.sl,.int .i64 0]):=by simp [zvnk,zi03,zk7y]
end Go.Proofs.YtjknipdiglpnlaaDoor
set_option linter.unusedSimpArgs false
set_option linter.unusedVariables false
namespace Go.Proofs.YtjknipdiglpnlaaDoor
open Go Go.Am
def nmA:List Str:=[[97],[98],[115,114,99],[111,117,116],[108,105,98]]
def nmB:List Str:=[[97],[98],[97,46,99],[98,46,104],[120],[111,117,116]]
def pthL:Nat→Tp→Str→Str × Tp
 | 0,t,s=>(s,t)
 | k+1,t,s=>pthL k (t.adv 1) (s++zzh5 t nmA++[47])
def zf1o (t:Tp):Nat:=(tpN t 3).toNat
def zczq (t:Tp):Str:=(pthL (zf1o t) (t.adv 1) []).1++zzh5 (pthL (zf1o t) (t.adv 1) []).2 nmB
def zvs1 (t:Tp):Tp:=(pthL (zf1o t) (t.adv 1) []).2.adv 1
theorem zyo7 : ∀ (k:Nat) (t:Tp) (s:Str),(pthL k t s).2.at_=t.at_+k
 | 0,_,_=>rfl
 | k+1,t,s=>by rw [pthL,zyo7,zpza]; omega
theorem z9sd (t:Tp):zf1o t≤2:=by
 have h1:=z4rs t 3
 have h2:=z2s7 t (n:=3) (by omega)
 unfold zf1o; omega
theorem z89h (t:Tp):tpN t 3=zf1o t:=by
 have h1:=z4rs t 3
 unfold zf1o; omega
theorem zj8l (t:Tp):(zvs1 t).at_≤t.at_+4:=by have:=z9sd t; simp only [zvs1,zpza,zyo7]; omega
def pLt (a b:Ent):Bool:=Op.bytesLess a.path b.path
def putF (s:List Ent) (x:Ent):List Ent:=s.filter fun y => !decide (y.path=x.path)
def putV (s:List Ent) (x:Ent):List Ent:=insR pLt x (putF s x)
theorem zk1d (s:List Ent) (x:Ent):(putF s x).length≤s.length:=List.length_filter_le ..
theorem z3b0 (s:List Ent) (x:Ent):(putV s x).length≤s.length+1:=by
 unfold putV
 rw [zcx2.length_eq,List.length_cons]
 have:=zk1d s x; omega
theorem zfin (s:List Ent) (x:Ent):putV s x≠[]:=fun e=>by
 have:=(zcx2 (lt:=pLt) (x:=x) (l:=putF s x)).length_eq
 unfold putV at e
 rw [e] at this; simp at this
def zoqy (s:List Ent) (i:Nat):List Ent:=s.take i++s.drop (i+1)
theorem zy3g (s:List Ent) (i:Nat):(zoqy s i).length≤s.length:=by
 unfold zoqy; rw [List.length_append,List.length_take,List.length_drop]; omega
def emp1 {α:Type}:Sl α:=⟨some true,[],by simp,by simp⟩
def zmmk (s:List Ent) (i:Nat):Sl Ent:=if zoqy s i=[] then emp1 else own (zoqy s i)
theorem znxd {s:List Ent} {i:Nat} (h:s.length≤4294967296):(zmmk s i).l=zoqy s i:=by
 unfold zmmk
 split
 ·rename_i e; rw [e]; rfl
 ·rw [z3e9 (Nat.le_trans (zy3g s i) h)]
def newE (t:Tp):Ent:=⟨zczq t,sumV (zvs1 t)⟩
def newT (t:Tp):Tp:=(zvs1 t).adv 1
theorem ztvs (t:Tp):(newT t).at_≤t.at_+5:=by have:=zj8l t; simp only [newT,zpza]; omega
def snpL:Nat→Tp × List Ent→Tp × List Ent
 | 0,a=>a
 | n+1,a=>snpL n (newT a.1,putV a.2 (newE a.1))
theorem zevg : ∀ (n:Nat) (a:Tp × List Ent),(snpL n a).1.at_≤a.1.at_+5*n∧(snpL n a).2.length≤a.2.length+n
 | 0,a=>by simp [snpL]
 | n+1,a=>by
  have h:=zevg n (newT a.1,putV a.2 (newE a.1))
  have h1:=ztvs a.1
  have h2:=z3b0 a.2 (newE a.1)
  simp only at h
  rw [snpL]
  omega
def zep5 (t:Tp) (m:Nat):Nat:=(tpN t (m+1)).toNat
theorem z3zi (t:Tp) (m:Nat):zep5 t m≤m:=by
 have h1:=z4rs t (m+1)
 have h2:=z2s7 t (n:=m+1) (by omega)
 unfold zep5; omega
theorem znaf (t:Tp) (m:Nat):tpN t (m+1)=zep5 t m:=by
 have h1:=z4rs t (m+1)
 unfold zep5; omega
def zgxx (t:Tp) (m:Nat):Tp × List Ent:=snpL (zep5 t m) (t.adv 1,[])
def zvj4 (a:Tp × Sl Ent):Tp × Sl Ent :=
 if tpN a.1 3=0∧a.2.l≠[] then (a.1.adv 2,zmmk a.2.l (tpN (a.1.adv 1) a.2.l.length).toNat)
 else (newT (a.1.adv 1),own (putV a.2.l (newE (a.1.adv 1))))
def edtL:Nat→Tp × Sl Ent→Tp × Sl Ent
 | 0,a=>a
 | n+1,a=>edtL n (zvj4 a)
theorem zkr6 {a:Tp × Sl Ent} (h:a.2.l.length+1≤4294967296):(zvj4 a).1.at_≤a.1.at_+6∧(zvj4 a).2.l.length≤a.2.l.length+1:=by
 unfold zvj4
 split
 ·have:=zy3g a.2.l (tpN (a.1.adv 1) a.2.l.length).toNat
  simp only [zpza,znxd (show a.2.l.length≤4294967296 by omega)]
  omega
 ·have h1:=ztvs (a.1.adv 1)
  have h2:=z3b0 a.2.l (newE (a.1.adv 1))
  rw [z3e9 (by omega)]
  simp only [zpza] at h1
  simp only; omega
theorem zrnf : ∀ (n:Nat) (a:Tp × Sl Ent),a.2.l.length+n≤4294967296→(edtL n a).1.at_≤a.1.at_+6*n∧(edtL n a).2.l.length≤a.2.l.length+n
 | 0,a,_=>by simp [edtL]
 | n+1,a,h=>by
  have h1:=zkr6 (a:=a) (by omega)
  have h2:=zrnf n (zvj4 a) (by omega)
  rw [edtL]; omega
def zp4t (t:Tp):Nat:=zep5 t 3
def z7ym (t:Tp) (s:Sl Ent):Tp × Sl Ent:=edtL (zp4t t) (t.adv 1,s)
theorem za6t {t:Tp} {s:Sl Ent} (h:s.l.length≤4000000000):(z7ym t s).1.at_≤t.at_+19∧(z7ym t s).2.l.length≤s.l.length+3:=by
 have h0:=z3zi t 3
 have h1:=zrnf (zp4t t) (t.adv 1,s) (by unfold zp4t; simp only; omega)
 unfold z7ym
 simp only [zpza] at h1
 have h2:zp4t t≤3:=h0
 omega
def zxwj (t:Tp):Sl Ent:=ownN (zgxx t 5).2
def zyjl (t:Tp) (st:Str):Lnk:=⟨st,zxwj t,(z7ym (zgxx t 5).1 (zxwj t)).2⟩
def zd2t (t:Tp):Tp:=(z7ym (zgxx t 5).1 (zxwj t)).1
theorem zk7x (t:Tp) (m:Nat):(zgxx t m).1.at_≤t.at_+1+5*m∧(zgxx t m).2.length≤m:=by
 have h0:=z3zi t m
 have h1:=zevg (zep5 t m) (t.adv 1,[])
 unfold zgxx
 simp only [zpza,List.length_nil] at h1
 omega
theorem zr0a (t:Tp):(zxwj t).l.length≤5:=by
 have h:=(zk7x t 5).2
 unfold zxwj; rw [zd8n (by omega)]; exact h
theorem zoiq (t:Tp) (st:Str):(zyjl t st).m.l.length≤5∧(zyjl t st).p.l.length≤8∧(zd2t t).at_≤t.at_+45:=by
 have h0:=zr0a t
 have h1:=za6t (t:=(zgxx t 5).1) (s:=zxwj t) (by omega)
 have h2:=(zk7x t 5).1
 refine ⟨h0,?_,?_⟩
 ·simp only [zyjl]; omega
 ·simp only [zd2t]; omega
def zivf (t:Tp):Tp × Lnk × Lnk :=
 let a:=zyjl t [98,117,105,108,100]
 let e:=z7ym (zd2t t) a.p
 (e.1,a,{ a with p:=e.2 })
theorem zaow (t:Tp):(zivf t).1.at_≤t.at_+64∧(zivf t).2.1.m.l.length≤5∧(zivf t).2.1.p.l.length≤8∧(zivf t).2.2.m.l.length≤5∧(zivf t).2.2.p.l.length≤11:=by
 obtain ⟨h1,h2,h3⟩:=zoiq t [98,117,105,108,100]
 have h4:=za6t (t:=zd2t t) (s:=(zyjl t [98,117,105,108,100]).p) (by omega)
 simp only [zivf]
 omega
end Go.Proofs.YtjknipdiglpnlaaDoor
