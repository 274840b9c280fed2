/-
  5 texts of mine in one.
-/
import Derived.Test.YtaihpefemjlilaaC9aa0e7c0
import Derived.Test.YtaihpefemjlilaaCe1ff8d1d
import Derived.Test.YtaihpefemjlilaaC124427f9
import Derived.Test.YtaihpefemjlilaaCd5f6f8e5
import Derived.Test.YtaihpefemjlilaaCf3033f92
set_option maxRecDepth 20000
set_option maxHeartbeats 4000000
open List renaming map_take → zA, map_drop → zB, map_set → zC, map_append → zD, drop_one → zE
open Bool renaming false_eq_true → y03
open List renaming mem_cons_of_mem → y00, getD_eq_getElem?_getD → y01, getElem?_eq_getElem → y02, ext_getElem → y04, take_of_length_le → y06
open Nat renaming le_refl → y05
set_option linter.unusedSimpArgs false
set_option linter.unusedVariables false
namespace Go.Proofs.Ytaihpefemjlilaa
open Go Go.Am
def posR:Came→Q→Nat
 | [],_=>0
 | (y,_)::r,x=>if y=x then r.length+1 else posR r x
theorem zlh7 : ∀ (r:Came) (x:Q),posR r x≤r.length
 | [],_=>y05 _
 | (y,_)::r,x=>by
  have:=zlh7 r x
  rw [posR]; split<;>simp<;>omega
theorem z7sz {p q:List Pt} : ∀ (r:Came),zv0a p q r→r≠[]→oQ ∈ kC r
 | [],_,h=>absurd rfl h
 | (y,s)::r,h,_=>by
  obtain ⟨h1,h2,h3⟩:=h
  rcases h3 with ⟨rfl,rfl⟩|⟨g1,_⟩
  ·simp [kC]
  ·have:r≠[]:=fun e=>by rw [e] at g1; simp [kC] at g1
   exact y00 _ (z7sz r h1 this)
theorem z8nb {p q:List Pt} : ∀ (r:Came),zv0a p q r→wdR r oQ=[]
 | [],_=>rfl
 | (y,s)::r,h=>by
  obtain ⟨h1,h2,h3⟩:=h
  rw [wdR]
  by_cases e:y=oQ
  ·rw [if_pos e]
   by_cases er:r=[]
   ·rw [if_pos er]
   ·exact absurd (e▸z7sz r h1 er) h2
  ·rw [if_neg e]; exact z8nb r h1
theorem zpe3 {p q:List Pt} : ∀ (r:Came),zv0a p q r → ∀ x ∈ kC r,x≠oQ → ∃ s:Stp,(x,s) ∈ r∧s.1 ∈ kC r∧wdR r x=wdR r s.1++cB s.2∧posR r s.1<posR r x
 | [],_,x,hx,_=>by simp [kC] at hx
 | (y,s)::r,h,x,hx,hne=>by
  obtain ⟨h1,h2,h3⟩:=h
  by_cases e:y=x
  ·subst e
   rcases h3 with ⟨_,rfl⟩|⟨g1,_⟩
   ·exact absurd rfl hne
   ·have hr:r≠[]:=fun e=>by rw [e] at g1; simp [kC] at g1
    have hn:y≠s.1:=fun e=>h2 (e▸g1)
    refine ⟨s,by simp,y00 _ g1,?_,?_⟩
    ·rw [wdR,if_pos rfl,if_neg hr,wdR,if_neg hn]
    ·rw [posR,posR,if_pos rfl,if_neg hn]
     have:=zlh7 r s.1; omega
  ·have hx':x ∈ kC r:=by
    simp only [kC,List.map_cons,List.mem_cons] at hx
    rcases hx with hx|hx
    ·exact absurd hx.symm e
    ·exact hx
   obtain ⟨t,t1,t2,t3,t4⟩:=zpe3 r h1 x hx' hne
   have hn:y≠t.1:=fun e=>h2 (e▸t2)
   refine ⟨t,y00 _ t1,y00 _ t2,?_,?_⟩
   ·rw [wdR,wdR,if_neg e,if_neg hn]; exact t3
   ·rw [posR,posR,if_neg e,if_neg hn]; exact t4
def bV (G:Nat) (t:List UInt8):DV:=if t=[] then .nils else .ms G t.length 0 1 t.length t.length
theorem zksy {G:Nat}:bV G [] = .nils:=rfl
theorem z55z {G:Nat} {t:List UInt8} (h:t≠[]):bV G t = .ms G t.length 0 1 t.length t.length:=if_neg h
theorem zrjm {G:Nat} {t:List UInt8}:(bV G t).one=true:=by unfold bV; split<;>rfl
theorem zule {G:Nat} {t:List UInt8}:(bV G t).cells=[bV G t]:=by unfold bV; split<;>rfl
theorem z1nw {G:Nat} {t:List UInt8}:(bV G t).known=true:=by unfold bV; split<;>rfl
attribute [simp] zrjm zule z1nw
def bC (t:List UInt8):List DV:=(lb t).map w8
theorem z4gq (t:List UInt8):(bC t).length=t.length:=by simp [bC,z719]
def bA (h:List AObj) (G:Nat) (t:List UInt8) (c:UInt8):List AObj:=if t=[] then h++[.cells (bC [c])] else h.set G (.cells (bC (t++[c])))
def bG (h:List AObj) (G:Nat) (t:List UInt8):Nat:=if t=[] then h.length else G
theorem zhxw {h:List AObj} {G:Nat} {t:List UInt8} {c:UInt8} (ho:t≠[]→ziu0 h G=some (bC t)) (hn:t.length≤1000000) :
  appX h 1 1 (bV G t) 1 [w8 c.toBitVec]=some (bV (bG h G t) (t++[c]),bA h G t c):=by
 by_cases e:t=[]
 ·subst e
  rw [zksy,zsuq (by omega) (by omega) (by simp) (by omega) (by omega),z55z (by simp)]
  simp [bG,bA,bC,lb]
 ·have hv:objV h G t.length=some (bC t):=zw28 (ho e) (z4gq t)
  have h1:=zbho (h:=h) (id:=G) (ver:=t.length) (s:=1) (n:=t.length) (b:=1) (m:=1) (cs:=[w8 c.toBitVec]) (by omega) (by omega) (by omega) (by simp) (by omega) (by simp)
  rw [z55z e,h1,hv,z55z (by simp)]
  simp [bG,bA,e,bC,lb]
structure BO (h:List AObj) (G:Nat) (t:List UInt8):Prop where
 o:t≠[]→ziu0 h G=some (bC t)
theorem zla4 {h:List AObj} {G:Nat} {t:List UInt8} {c:UInt8} (ho:t≠[]→ziu0 h G=some (bC t)):ziu0 (bA h G t c) (bG h G t)=some (bC (t++[c])):=by
 unfold bA bG
 by_cases e:t=[]
 ·subst e
  simp only [if_true]
  have:=zzga (h:=h) (r:=[.cells (bC [c])]) (id:=0)
  rw [Nat.add_zero] at this
  exact this
 ·simp only [if_neg e]; exact zhvw (ho e)
theorem z4mf {h:List AObj} {G:Nat} {t:List UInt8} {c:UInt8} {id:Nat} {l:List DV} (e:ziu0 h id=some l) (hn:t≠[]→id≠G):ziu0 (bA h G t c) id=some l∧bG h G t≠id:=by
 unfold bA bG
 by_cases et:t=[]
 ·subst et
  simp only [if_true]
  exact ⟨z7ko e,by have:=z4sf e; omega⟩
 ·simp only [if_neg et]
  exact ⟨by rw [ztfj (Ne.symm (hn et))]; exact e,Ne.symm (hn et)⟩
theorem zxrr {h:List AObj} {G:Nat} {t:List UInt8} {c:UInt8} {B:Nat} {m:MapD} (e:zfel h B=some m) (ho:t≠[]→ziu0 h G=some (bC t)):zfel (bA h G t c) B=some m:=by
 unfold bA
 by_cases et:t=[]
 ·subst et; simp only [if_true]; exact zjf6 _ e
 ·simp only [if_neg et]; exact zv2a e (ho et)
structure XP where
 x:Q
 t:List UInt8
 G:Nat
 F:Nat
 h:List AObj
structure RP (C:Came) (x0:Q) (S B X:Nat) (pv qv:DV) (a:XP):Prop where
 x:a.x ∈ kC C
 w:wd C x0=wd C a.x++a.t.reverse
 s:ziu0 a.h S=some [pv,qv,.mapv B]
 m:zfel a.h B=some (cM C)
 o:ziu0 a.h X=some (qC a.x)
 f:ziu0 a.h a.F=some (qC oQ)
 t:a.t≠[]→ziu0 a.h a.G=some (bC a.t)
 sx:S≠X
 fx:a.F≠X
 gx:a.t≠[]→X≠a.G
 gs:a.t≠[]→S≠a.G
 gf:a.t≠[]→a.F≠a.G
def sP (S X:Nat) (a:XP):St:=zepj (.mp S 3 0) (.mp X 3 0) (bV a.G a.t) (.mp a.F 3 0) a.h
def rv (L:List B8) (i:Nat):List B8:=(List.range L.length).map fun u=>if u<i∨L.length-1-i<u then L.getD (L.length-1-u) 0#8 else L.getD u 0#8
theorem zk6f (L:List B8) (i:Nat):(rv L i).length=L.length:=by simp [rv]
theorem zxh3 {L:List B8} {i u:Nat} (h:u<(rv L i).length):(rv L i)[u]=if u<i∨L.length-1-i<u then L.getD (L.length-1-u) 0#8 else L.getD u 0#8:=by simp [rv]
theorem zp1z (L:List B8):rv L 0=L:=by
 refine y04 (zk6f L 0) fun u h1 h2 => ?_
 rw [zxh3,if_neg (by omega),y01,y02 h2]; rfl
theorem z5n5 {L:List B8} {i:Nat} (h:2*i≤L.length) (h':¬ i+1<L.length-i):rv L i=L.reverse:=by
 refine y04 (by simp [zk6f]) fun u h1 h2 => ?_
 have hu:u<L.length:=by rw [zk6f] at h1; exact h1
 rw [zxh3,List.getElem_reverse]
 split
 ·rw [y01,y02 (by omega)]; rfl
 ·have:L.length-1-u=u:=by omega
  simp only [this]
  rw [y01,y02 hu]; rfl
theorem zol5 {L:List B8} {i u:Nat} (h:u<(rv L i).length) (h1:i≤u) (h2:u≤L.length-1-i):(rv L i)[u]=L.getD u 0#8:=by rw [zxh3,if_neg (by omega)]
theorem zpoc {L:List B8} {i j:Nat} {a b:B8} (hj:j=L.length-1-i) (h:i<j) (ha:a=L.getD j 0#8) (hb:b=L.getD i 0#8):((rv L i).set i a).set j b=rv L (i+1):=by
 subst ha hb
 have hl:=zk6f L i
 refine y04 (by simp [zk6f]) fun u h1 h2 => ?_
 have hu:u<L.length:=by rw [zk6f] at h2; exact h2
 rw [zxh3,List.getElem_set]
 by_cases e1:j=u
 ·subst e1
  rw [if_pos rfl,if_pos (by omega)]
  congr 1<;>omega
 ·rw [if_neg e1,List.getElem_set]
  by_cases e2:i=u
  ·subst e2
   rw [if_pos rfl,if_pos (by omega)]
   congr 1<;>omega
  ·rw [if_neg e2,zxh3]
   by_cases e3:u<i∨L.length-1-i<u
   ·rw [if_pos e3,if_pos (by omega)]
   ·rw [if_neg e3,if_neg (by omega)]
def sR (G n i:Nat) (h:List AObj):St:=zva1 (.ms G n 0 1 n n) (.int .i64 i) (.int .i64 ((n:Int)-1-i)) h
structure PF (S X F Y B:Nat) (pv qv:DV) (C:Came) (y:Q) (st:Stp) (t:List UInt8) (G:Nat) (h:List AObj):Prop where
 s:ziu0 h S=some [pv,qv,.mapv B]
 m:zfel h B=some (cM C)
 o:ziu0 h X=some (qC y)
 f:ziu0 h F=some (qC oQ)
 y:ziu0 h Y=some (stC st)
 ft:t≠[]→ziu0 h G=some (bC t)
 n:t≠[]→S≠G∧X≠G∧F≠G∧Y≠G
structure MidP (S X F Y B:Nat) (pv qv:DV) (C:Came) (y:Q) (st:Stp) (t:List UInt8) (e:AExit) (s:St):Prop where
 ex:e = .normal ∧ ∃ G h,PF S X F Y B pv qv C y st t G h ∧ ∀ n0,Weak n0 s ⟨[.mp S 3 0,.junk,.junk,.mp X 3 0,.junk,bV G t,.mp F 3 0,.mp Y 4 0]++js 49,h⟩
theorem zsvl {a b c d:DV}:oneC 3 true [a,b,c,d]=some (.agg [a,b,c]):=rfl
theorem zhku (p q:List Pt) (S B:Nat) (C:Came) (x:Q) (h:List AObj) (pv qv:DV)
  (hg:Good p q C) (hn:(kC C).Nodup) (hx:x ∈ kC C) (hw:(wd C x).length≤200) (hw0:wd C x≠[]) (hs:ziu0 h S=some [pv,qv,.mapv B]) (hm:zfel h B=some (cM C)) :
  zwy1 P 21 [.mp S 3 0,.agg (qC x)] h (fun d _=>d = .str (wd C x)):=by
 have hSl:=z4sf hs
 refine zcpc Try.func21 zyfb ?_
 simp only [a21]
 refine zbn1 (V_W mix zume ?_)
 simp (disch:=first|omega|simp<;>omega|fail) [-zA,-zB,-zC,-zD,-zE,qC]
 refine zbn1 (V_W mix zume ?_)
 simp (disch:=first|omega|simp<;>omega|fail) [-zA,-zB,-zC,-zD,-zE]
 refine zbn1 (zbn1 (V_W mix zume ?_))
 simp (disch:=first|omega|simp<;>omega|fail) [-zA,-zB,-zC,-zD,-zE,zf0q,zjj2,zm3y,zxft,z8we]
 refine z3mo (ztbr (sP S h.length) (fun a=>posR C.reverse a.x) (RP C x S B h.length pv qv) ⟨x,[],0,h.length+1,h++[.cells (qC x),.cells (qC oQ)]⟩ (z515 (by simp (disch:=first|omega|simp<;>omega|fail) [-zA,-zB,-zC,-zD,-zE,sP,zepj,zksy]) (by simp (disch:=first|omega|simp<;>omega|fail) [-zA,-zB,-zC,-zD,-zE,sP,zepj,qC,oQ]))
  ⟨hx,by simp,z7ko hs,zjf6 _ hm,zzga (id:=0),zzga (id:=1),fun e=>absurd rfl e,by omega,by simp only; omega,fun e=>absurd rfl e,fun e=>absurd rfl e,fun e=>absurd rfl e⟩ (fun y hy => ?_))
 obtain ⟨y,t,G,F,k⟩:=y
 obtain ⟨r1,r2,r3,r4,r5,r6,r7,r8,r9,r10,r11,r12⟩:=hy
 simp only at r1 r2 r3 r4 r5 r6 r7 r8 r9 r10 r11 r12
 have vX:objV k h.length 3=some (qC y):=zw28 r5 rfl
 have vF:objV k F 3=some (qC oQ):=zw28 r6 rfl
 have vS:objV k S 3=some [pv,qv,.mapv B]:=zw28 r3 rfl
 simp only [qC,oQ] at vX vF
 simp only [sP,zepj,zkw5]
 have ceq:z32s (zi5g [(3,0)]) [.int .i64 y.1,.int .i64 y.2.1,.int .i64 y.2.2] [.int .i64 0,.int .i64 0,.int .i64 0]=some (decide ([(0:Int),0,0]=[(y.1:Int),(y.2.1:Int),(y.2.2:Int)])):=zztg y.1 y.2.1 y.2.2 0 0 0
 by_cases he:y=oQ
 ·subst he
  have hd:decide ([(0:Int),0,0]=[((oQ.1:Nat):Int),((oQ.2.1:Nat):Int),((oQ.2.2:Nat):Int)])=true:=by decide
  rw [hd] at ceq
  have ew:wd C x=t.reverse:=by rw [r2,show wd C oQ=[] from z8nb C.reverse hg]; simp
  have tne:t≠[]:=fun e=>hw0 (by rw [ew,e]; rfl)
  have tl:t.length≤200:=by rw [ew] at hw; simpa using hw
  have t1:1≤t.length:=List.length_pos_iff.2 tne
  have rG:=r7 tne
  rw [ew]
  clear r1 r2 r3 r4 r5 r6 r7 vS r8 r9 r10 r11 r12 ew hw hw0
  refine zbn1 (V_W mix zume ?_)
  simp (disch:=first|omega|simp<;>omega|fail) [-zA,-zB,-zC,-zD,-zE,vX,vF,zjwp,ceq]
  have vG:objV k G t.length=some (bC t):=zw28 rG (z4gq t)
  have hbv:bV G t = .ms G t.length 0 1 t.length t.length:=z55z tne
  refine zbn1 (zbn1 (V_W mix zume ?_))
  simp (disch:=first|omega|simp<;>omega|fail) [-zA,-zB,-zC,-zD,-zE,hbv,vG,z4gq]
  refine z3mo (ztbr (fun a:Nat × List AObj=>sR G t.length a.1 a.2) (fun a=>t.length-a.1) (fun a=>2*a.1≤t.length∧ziu0 a.2 G=some ((rv (lb t) a.1).map w8)) (0,k) (z515 (by simp (disch:=first|omega|simp<;>omega|fail) [-zA,-zB,-zC,-zD,-zE,sR,zva1]) (by simp (disch:=first|omega|simp<;>omega|fail) [-zA,-zB,-zC,-zD,-zE,sR,zva1]) ) ⟨by simp,by rw [zp1z]; exact rG⟩ (fun y hy => ?_))
  obtain ⟨i,m⟩:=y
  obtain ⟨q1,q2⟩:=hy
  simp only at q1 q2
  have hlt:=z719 t
  have hrl:=zk6f (lb t) i
  have vR:objV m G t.length=some ((rv (lb t) i).map w8):=zw28 q2 (by rw [List.length_map,hrl,hlt])
  simp only [sR,zva1,zf5r]
  by_cases hi:i+1<t.length-i
  ·have hi':(i:Int)<t.length-1-i:=by omega
   obtain ⟨j,hj⟩ : ∃ j:Nat,j=t.length-1-i:=⟨_,rfl⟩
   have hjI:((t.length:Int)-1-i)=j:=by omega
   have hij:(i:Int)<j:=by omega
   have hij':i<j:=by omega
   have hjn:(j:Int)<t.length:=by omega
   have hin:(i:Int)<t.length:=by omega
   have j0:j<(rv (lb t) i).length:=by omega
   have i0:i<(rv (lb t) i).length:=by omega
   have hstep:=zpoc (L:=lb t) (i:=i) (j:=j) (by omega) hij' (zol5 j0 (by omega) (by omega)) (zol5 i0 (by omega) (by omega))
   have vR2 : ∀ x,objV (m.set G (.cells (((rv (lb t) i).set i x).map w8))) G t.length=some (((rv (lb t) i).set i x).map w8):=fun x=>zw28 (zhvw q2) (by rw [List.length_map,List.length_set,hrl,hlt])
   have hset : ∀ x y,(m.set G x).set G y=m.set G y:=fun x y=>by simp
   refine V_W mix zume ?_
   simp (disch:=first|omega|simp<;>omega|fail) [-zA,-zB,-zC,-zD,-zE,hjI,hij,hij',hjn,hin,vR,vR2,hset,hstep]
   have hj2:(t.length:Int)-1-((i:Int)+1)=j-1:=by omega
   exact ⟨i+1,m.set G (.cells ((rv (lb t) (i+1)).map w8)),z515 (by simp (disch:=first|omega|simp<;>omega|fail) [-zA,-zB,-zC,-zD,-zE,hj2]) (by simp (disch:=first|omega|simp<;>omega|fail) [-zA,-zB,-zC,-zD,-zE]),by omega,by omega,zhvw q2⟩
  ·have hi':¬ (i:Int)<t.length-1-i:=by omega
   have hlast:=z5n5 (L:=lb t) (i:=i) (by omega) (by omega)
   rw [hlast] at vR
   have hb:z9pr (List.take t.length ((lb t).map w8).reverse)=some t.reverse:=by
    have:((lb t).map w8).reverse=(lb t.reverse).map w8:=by simp [lb]
    rw [this,y06 (by simp [z719])]; exact zf6e _
   refine zbn1 (V_W mix zume ?_)
   simp (disch:=first|omega|simp<;>omega|fail) [-zA,-zB,-zC,-zD,-zE,hi']
   refine zftn (ze3y (v := .str t.reverse) (k:=m) rfl) (V_W mix zume ?_)
   simp (disch:=first|omega|simp<;>omega|fail) [-zA,-zB,-zC,-zD,-zE,vR,hb]
 ·have hne:¬ ([(0:Int),0,0]=[(y.1:Int),(y.2.1:Int),(y.2.2:Int)]):=fun e=>he (by
   have:qK oQ=qK y:=e
   exact (z6dq.1 this).symm)
  rw [decide_eq_false hne] at ceq
  obtain ⟨st,t1,t2,t3,t4⟩:=zpe3 C.reverse hg y ((zp1x C y).2 r1) he
  have hgc:=znjp hn (List.mem_reverse.1 t1)
  have hlk:=zsqh C y
  rw [hgc] at hlk
  simp only [qK,Option.map_some] at hlk
  refine zbn1 (V_W mix zume ?_)
  simp (disch:=first|omega|simp<;>omega|fail) [-zA,-zB,-zC,-zD,-zE,vX,vF,zjwp,ceq]
  refine zbn1 (z3mo ?_)
  refine zbn1 (V_W mix zume ?_)
  simp (disch:=first|omega|simp<;>omega|fail) [-zA,-zB,-zC,-zD,-zE,vX,vS,r4,hlk,lkD,zjwp,zbb3,stC,zeo3,zjj2,zxft]
  have kX:=z7ko (r:=[.cells (stC st)]) r5
  have kF:=z7ko (r:=[.cells (stC st)]) r6
  have kS:=z7ko (r:=[.cells (stC st)]) r3
  have kM:=zjf6 [.cells (stC st)] r4
  have kY:ziu0 (k++[.cells (stC st)]) k.length=some (stC st):=zzga (h:=k) (r:=[.cells (stC st)]) (id:=0)
  have kT:t≠[]→ziu0 (k++[.cells (stC st)]) G=some (bC t):=fun e=>z7ko (r7 e)
  have nY:t≠[]→k.length≠G:=fun e=>by have:=z4sf (r7 e); omega
  have nX:h.length≠k.length:=by have:=z4sf r5; omega
  have nF:F≠k.length:=by have:=z4sf r6; omega
  have nS:S≠k.length:=by have:=z4sf r3; omega
  refine zqfd (st':=⟨[.mp S 3 0,.junk,.junk,.mp h.length 3 0,.junk,bV G t,.mp F 3 0,.mp k.length 4 0]++js 49,k++[.cells (stC st)]⟩) (z515 (by simp (disch:=first|omega|simp<;>omega|fail) [-zA,-zB,-zC,-zD,-zE]) (by simp (disch:=first|omega|simp<;>omega|fail) [-zA,-zB,-zC,-zD,-zE,stC])) ?_
  generalize k++[AObj.cells (stC st)]=k1 at kX kF kS kM kY kT
  have vY:objV k1 k.length 4=some (stC st):=zw28 kY rfl
  simp only [stC] at vY
  generalize k.length=Y at kY nY nX nF nS vY
  have htl:t.length≤1000000:=by
   have:=congrArg List.length r2
   simp at this; omega
  refine zbn1 (zftn (Φ:=MidP S h.length F Y B pv qv C y st (t++cB st.2)) (fun e s ⟨he,G',k2,hp,hwk⟩ => ?_) ?_)
  rotate_left 1
  ·by_cases hz:st.2=0#8
   ·have hzq:(st.2 != 0#8)=false:=by simp [hz]
    have hcB:t++cB st.2=t:=by simp [cB,hz]
    refine V_W mix zume ?_
    simp (disch:=first|omega|simp<;>omega|fail) [-zA,-zB,-zC,-zD,-zE,vY,hzq]
    exact ⟨rfl,G,k1,⟨kS,kM,kX,kF,kY,by rw [hcB]; exact kT,by rw [hcB]; exact fun e=>⟨r11 e,r10 e,r12 e,nY e⟩⟩,fun _=>z515 (by simp (disch:=first|omega|simp<;>omega|fail) [-zA,-zB,-zC,-zD,-zE,hcB]) (by simp (disch:=first|omega|simp<;>omega|fail) [-zA,-zB,-zC,-zD,-zE])⟩
   ·have hzq:(st.2 != 0#8)=true:=by simp [hz]
    have hcB:t++cB st.2=t++[⟨st.2⟩]:=by simp [cB,hz]
    have happ:=zhxw (c:=⟨st.2⟩) kT htl
    refine V_W mix zume ?_
    simp (disch:=first|omega|simp<;>omega|fail) [-zA,-zB,-zC,-zD,-zE,vY,hzq,happ]
    have b1:=z4mf (c:=⟨st.2⟩) kS r11
    have b2:=z4mf (c:=⟨st.2⟩) kX r10
    have b3:=z4mf (c:=⟨st.2⟩) kF r12
    have b4:=z4mf (c:=⟨st.2⟩) kY nY
    exact ⟨rfl,bG k1 G t,bA k1 G t ⟨st.2⟩,⟨b1.1,zxrr kM kT,b2.1,b3.1,b4.1,fun _=>by rw [hcB]; exact zla4 kT,fun _=>⟨Ne.symm b1.2,Ne.symm b2.2,Ne.symm b3.2,Ne.symm b4.2⟩⟩,fun _=>z515 (by simp (disch:=first|omega|simp<;>omega|fail) [-zA,-zB,-zC,-zD,-zE,hcB]) (by simp (disch:=first|omega|simp<;>omega|fail) [-zA,-zB,-zC,-zD,-zE])⟩
  subst he
  refine zqfd (hwk _) ?_
  obtain ⟨p1,p2,p3,p4,p5,p6,p7⟩:=hp
  have uY:objV k2 Y 4=some (stC st):=zw28 p5 rfl
  have uX:objV k2 h.length 3=some (qC y):=zw28 p3 rfl
  simp only [stC] at uY
  simp only [qC] at uX
  refine V_W mix zume ?_
  simp (disch:=first|omega|simp<;>omega|fail) [-zA,-zB,-zC,-zD,-zE,uY,uX,zsvl,z8we]
  have z1:ziu0 (k2.set h.length (.cells (qC st.1))) S=some [pv,qv,.mapv B]:=by rw [ztfj (Ne.symm r8)]; exact p1
  have z2:zfel (k2.set h.length (.cells (qC st.1))) B=some (cM C):=zv2a p2 p3
  have z3:ziu0 (k2.set h.length (.cells (qC st.1))) h.length=some (qC st.1):=zhvw p3
  have z4:ziu0 (k2.set h.length (.cells (qC st.1))) F=some (qC oQ):=by rw [ztfj (Ne.symm r9)]; exact p4
  have z5:t++cB st.2≠[]→ziu0 (k2.set h.length (.cells (qC st.1))) G'=some (bC (t++cB st.2)):=fun e=>by rw [ztfj (p7 e).2.1]; exact p6 e
  refine zqfd (st':=⟨[.mp S 3 0,.junk,.junk,.mp h.length 3 0,.junk,bV G' (t++cB st.2),.mp F 3 0]++js 50,k2.set h.length (.cells (qC st.1))⟩) (z515 (by simp (disch:=first|omega|simp<;>omega|fail) [-zA,-zB,-zC,-zD,-zE]) (by simp (disch:=first|omega|simp<;>omega|fail) [-zA,-zB,-zC,-zD,-zE,qC])) ?_
  generalize k2.set h.length (.cells (qC st.1))=k3 at z1 z2 z3 z4 z5
  have uF:objV k3 F 3=some (qC oQ):=zw28 z4 rfl
  simp only [qC,oQ] at uF
  refine V_W mix zume ?_
  simp (disch:=first|omega|simp<;>omega|fail) [-zA,-zB,-zC,-zD,-zE,uF,zjwp,zjj2,zxft,z8we]
  refine ⟨⟨st.1,t++cB st.2,G',k3.length,k3++[.cells (qC oQ)]⟩,z515 (by simp (disch:=first|omega|simp<;>omega|fail) [-zA,-zB,-zC,-zD,-zE,sP,zepj]) (by simp (disch:=first|omega|simp<;>omega|fail) [-zA,-zB,-zC,-zD,-zE,sP,zepj,qC,oQ]),t4,?_⟩
  have l3:=z4sf z1
  have l4:=z4sf z3
  refine ⟨(zp1x C _).1 t2,?_,z7ko z1,zjf6 _ z2,z7ko z3,zzga (id:=0),fun e=>z7ko (z5 e),r8,by simp only; omega,fun e=>(p7 e).2.1,fun e=>(p7 e).1,fun e => ?_⟩
  ·have:wd C y=wd C st.1++cB st.2:=t3
   rw [r2,this]
   have hrev:(cB st.2).reverse=cB st.2:=by unfold cB; split<;>rfl
   simp [hrev]
  ·have:=z4sf (z5 e)
   simp only; omega
end Go.Proofs.Ytaihpefemjlilaa
set_option linter.unusedSimpArgs false
set_option linter.unusedVariables false
namespace Go.Proofs.Ytaihpefemjlilaa
open Go Go.Am
theorem z637 {i:Nat} {d:Option Nat} {r:List AOper} {t:List DV} {h:List AObj} {Φ:St→Prop} (hs:zysb P r ⟨putT t d (t.getD i .junk),h⟩ Φ):zysb P (⟨none,d,.mov (.t i)⟩::r) ⟨t,h⟩ Φ:=hs
theorem zsk7 {n:Nat} {b:Bool} {x:Opd} {d:Option Nat} {r:List AOper} {t:List DV} {h:List AObj} {v:DV} {Φ:St→Prop} (he:evOp (.load n b x) t h=some (v,h)) (hs:zysb P r ⟨putT t d v,h⟩ Φ):zysb P (⟨none,d,.load n b x⟩::r) ⟨t,h⟩ Φ:=by
 simp only [zysb,zo4i,he]; exact hs
theorem zgb5 {f:Opd} {ags:List Opd} {d:Option Nat} {r:List AOper} {t:List DV} {h:List AObj} {Φ:St→Prop} {g:Nat} {first captured:List DV} {Ψ:DV→List AObj→Prop} (he:ev t f = .fn (.func g) first captured) (hc:zwy1 P g (first++ags.map (ev t)++captured) h Ψ)
  (hs : ∀ v h',Ψ v h'→zysb P r ⟨putT t d v,h'⟩ Φ):zysb P (⟨none,d,.call f ags⟩::r) ⟨t,h⟩ Φ:=by
 simp only [zysb,zo4i,he]
 exact hc.mono hs
theorem zvi1 {T:Tbl} (hT:T.Sound P) {n0:Nat} {l:List AOper} {t:List DV} {h:List AObj} {Φ:AExit→St→Prop} (hw:W T n0 (.region false l) Φ ⟨t,h⟩):zysb P l ⟨t,h⟩ (Φ .normal):=by
 have:=z7sh hT _ _ _ _ (fun _ _ h=>h) hw.out
 simpa only [awp,y03,if_false] using this
structure OvK (rs:List ARes) (r:DV) (e:AExit) (st:St):Prop where
 out:e = .ret∧zxgc rs st=some r
theorem zukd {i j:Nat} {a b:DV} {t:List DV} {h:List AObj}:OvK [.tmp i,.tmp j] (.tup [a,b]) .ret ⟨t,h⟩=(t.getD i .junk=a∧t.getD j .junk=b):=by
 refine propext ⟨fun ⟨_,q⟩ => ?_,fun ⟨q1,q2⟩=>⟨rfl,?_⟩⟩
 ·simpa [zxgc,zp5p,z16h] using q
 ·simp [zxgc,zp5p,z16h]; exact ⟨q1,q2⟩
theorem OvK.pure {rs:List ARes} {r:DV} (hp:zyp8 r=true) (e:AExit) (st:St) (h:OvK rs r e st):retK rs r e st:=by
 obtain ⟨rfl,h⟩:=h
 exact ⟨⟨r,h,z6nl hp⟩⟩
def zu3v (f:Nat→Bool):Nat→Nat→Option Nat
 | 0,_=>none
 | m+1,n=>if f n=true then some n else zu3v f m (n+1)
theorem zgjx {f:Nat→Bool} {n:Nat} : ∀ (m k:Nat),k≤n→n<k+m→(∀ i,k≤i→i<n→f i=false)→f n=true→zu3v f m k=some n
 | 0,k,h1,h2,_,_=>by omega
 | m+1,k,h1,h2,h3,h4=>by
  rw [zu3v]
  by_cases e:k=n
  ·subst e; rw [if_pos h4]
  ·rw [if_neg (by rw [h3 k (y05 _) (by omega)]; simp)]
   exact zgjx m (k+1) (by omega) (by omega) (fun i a b=>h3 i (by omega) b) h4
theorem znfn {f:Nat→Bool} : ∀ (m k:Nat),(∀ i,k≤i→i<k+m→f i=false)→zu3v f m k=none
 | 0,_,_=>rfl
 | m+1,k,h=>by
  rw [zu3v,if_neg (by rw [h k (y05 _) (by omega)]; simp)]
  exact znfn m (k+1) fun i a b=>h i (by omega) (by omega)
theorem z5fn {f:Nat→Bool} {n:Nat} : ∀ (m k:Nat),zu3v f m k=some n→k≤n∧n<k+m∧f n=true
 | 0,_,h=>by simp [zu3v] at h
 | m+1,k,h=>by
  rw [zu3v] at h
  split at h
  ·rename_i e; cases h; exact ⟨y05 _,by omega,e⟩
  ·obtain ⟨a,b,c⟩:=z5fn m (k+1) h
   exact ⟨by omega,by omega,c⟩
theorem zriv {f:Nat→Bool} : ∀ (m k:Nat),zu3v f m k=none → ∀ i,k≤i→i<k+m→f i=false
 | 0,_,_,i,h1,h2=>by omega
 | m+1,k,h,i,h1,h2=>by
  rw [zu3v] at h
  split at h
  ·simp at h
  ·rename_i e
   by_cases q:i=k
   ·subst q; simpa using e
   ·exact zriv m (k+1) h i (by omega) (by omega)
def hit (p q:List Pt) (cs:Pt→Pt→List B8) (n:Nat):Bool:=decide (gQ p q ∈ (layN p q cs n).2)
def ovP (p q:List Pt):Option (List UInt8):=(zu3v (hit p q chP) 201 0).map fun n=>wd (layN p q chP n).1 (gQ p q)
def ovV:Option (List UInt8)→DV
 | some w => .tup [.str w,.bool true]
 | none => .tup [.str [],.bool false]
def ovD (s t:List UInt8):Option (List UInt8):=match zfn1 s,zfn1 t with
 | some p,some q=>ovP p q
 | _,_=>none
theorem z45p : ∀ {L:List Q} {i:Nat} (h:i<L.length),oneC 3 true ((lC L).drop (i*3))=some (.agg (qC L[i]))
 | x::L,0,_=>by
  show oneC 3 true (qC x++lC L)=_
  simp [oneC,qC]
 | x::L,i+1,h=>by
  have:=z45p (L:=L) (i:=i) (by simpa using h)
  have e:(lC (x::L)).drop ((i+1)*3)=(lC L).drop (i*3):=by
   show (qC x++lC L).drop _=_
   rw [show (i+1)*3=3+i*3 by omega,← List.drop_drop]
   rfl
  rw [e]; exact this
theorem ztqr {h:List AObj} {G:Nat} {L:List Q} (ho:L≠[]→ziu0 h G=some (lC L)):lenD h (lV G L)=some (.int .i64 L.length):=by
 by_cases e:L=[]
 ·subst e; rfl
 ·rw [zi7d e,z59c,zw28 (ho e) (zsql L)]; rfl
theorem zjsa {h:List AObj} {G:Nat} {L:List Q} {i:Nat} (ho:L≠[]→ziu0 h G=some (lC L)) (hi:i<L.length):zpsc h 3 (lV G L) i=some (.mp G (L.length*3) (i*3)):=by
 have e:L≠[]:=fun e=>by rw [e] at hi; simp at hi
 rw [zi7d e,zq11 (by omega) (by omega),zw28 (ho e) (zsql L)]
 simp
end Go.Proofs.Ytaihpefemjlilaa
set_option linter.unusedSimpArgs false
set_option linter.unusedVariables false
namespace Go.Proofs.Ytaihpefemjlilaa
open Go Go.Am
theorem zk0r:TX 19 = .pure (cS z8r4):=by simp [TX,znm8]
structure LS (p q:List Pt) (B n G:Nat) (h:List AObj):Prop where
 so:ziu0 h 1=some [pV p,pV q,.mapv B]
 l:LH (cM (layN p q chP n).1) B G (layN p q chP n).2 h
 g:(layN p q chP n).2≠[]→1≠G
theorem LS.app {p q:List Pt} {B n G:Nat} {h:List AObj} (q':LS p q B n G h) (r:List AObj):LS p q B n G (h++r):=⟨z7ko q'.so,q'.l.app r,q'.g⟩
structure XL where
 n:Nat
 G:Nat
 h:List AObj
def sL (p q:List Pt) (p2:List Pt) (a:XL):St:=a8S0 (pV p) (pV q) (.mp 1 3 0) (lV a.G (layN p p2 chP a.n).2) (.int .i64 a.n) a.h
structure RL (p q:List Pt) (B:Nat) (a:XL):Prop where
 le:a.n≤201
 no : ∀ m,m<a.n→gQ p q ∉ (layN p q chP m).2
 s:LS p q B a.n a.G a.h
theorem zhza {n0:Nat} {c:Opd} {x y:ACode} {Φ:AExit→St→Prop} {st:St} (hc:ev st.t c = .bool true) (h:awp P n0 x Φ st):awp P n0 (.cond c x y) Φ st:=by
 simp only [awp,hc]; exact ⟨fun _=>h,fun e=>by cases e⟩
theorem ztv2 {n0:Nat} {ops:List AOper} {y:ACode} {Φ:AExit→St→Prop} {st:St} (h:zysb P ops st (fun st=>awp P n0 y Φ st)):awp P n0 (.seq (.region false ops) y) Φ st:=by
 simp only [awp,y03,if_false]; exact h
theorem z2d4 {v:DV} {d:Option Nat} {r:List AOper} {t:List DV} {h:List AObj} {Φ:St→Prop} (hs:zysb P r ⟨putT t d v,h⟩ Φ):zysb P (⟨none,d,.mov (.k v)⟩::r) ⟨t,h⟩ Φ:=hs
theorem zeh9 {T:Tbl} (hT:T.Sound P) {n0:Nat} {l:List AOper} {y:ACode} {t:List DV} {h:List AObj} {Φ:AExit→St→Prop} (hw:W T n0 (.region false l) (z2pk P n0 y Φ) ⟨t,h⟩):zysb P l ⟨t,h⟩ (fun st=>V P n0 y Φ st):=zvi1 hT hw
def zj3g:ACode := .seq (.region false [⟨none,(some 4),.mov (.k (.str []))⟩,⟨none,(some 5),.mov (.k (.bool false))⟩]) .ret
theorem zifp {p q:List Pt} {x:Q}:([(p.length:Int),(q.length:Int),3]=[(x.1:Int),(x.2.1:Int),(x.2.2:Int)])↔x=gQ p q:=by
 obtain ⟨a,b,c⟩:=x
 simp only [gQ,List.cons.injEq,Prod.mk.injEq,and_true]
 omega
theorem zsjb {p q:List Pt} {cs:Pt→Pt→List B8} : ∀ (l:List Q) (A:Came × List Q),CL p.length q.length A→(∀ x ∈ l,z4ew p.length q.length x)→CL p.length q.length (l.foldl (mvs p q cs) A)
 | [],A,h,_=>h
 | x::l,A,h,hb=>zsjb l _ (zrnz (hb x (by simp)) h) fun y hy=>hb y (by simp [hy])
structure RM (p q:List Pt) (L:List Q) (C:Came) (B:Nat) (h1:List AObj) (a:XL):Prop where
 le:a.n≤L.length
 l:LH (cM ((L.take a.n).foldl (mvs p q chP) (C,[])).1) B a.G ((L.take a.n).foldl (mvs p q chP) (C,[])).2 a.h
 f:Fr h1 0 [] a.h a.G ((L.take a.n).foldl (mvs p q chP) (C,[])).2
theorem z6ia (p q:List Pt) (hp:p.length≤200) (hq:q.length≤200) (lp:Lz p) (lq:Lz q) (B:Nat) (a0:XL) (h0:RL p q B a0):V P 0 (.block 0 (.loop a8L0)) (z2pk P 0 zj3g (OvK [.tmp 4,.tmp 5] (ovV (ovP p q)))) (sL p q q a0):=by
 refine z3mo (ztbr (sL p q q) (fun a=>201-a.n) (RL p q B) a0 (z515 (by simp (disch:=first|omega|simp<;>omega|fail) [-zA,-zB,-zC,-zD,-zE,sL,a8S0]) (by simp (disch:=first|omega|simp<;>omega|fail) [-zA,-zB,-zC,-zD,-zE,sL,a8S0])) h0 (fun y hy => ?_))
 obtain ⟨n,G,h⟩:=y
 obtain ⟨r1,r2,r3⟩:=hy
 simp only at r1 r2 r3
 have hz:=z3f2 lp lq
 have hI:=z35k p q hp hq hz n
 simp only [sL,a8S0,a8L0]
 by_cases hn:n≤200
 case neg =>
  have hn':¬ (n:Int)≤200:=by omega
  have hov:ovP p q=none:=by
   unfold ovP
   have:zu3v (hit p q chP) 201 0=none:=znfn 201 0 fun i _ hi=>decide_eq_false (r2 i (by omega))
   rw [this]; rfl
  refine zbn1 (V_W mix zume ?_)
  simp (disch:=first|omega|simp<;>omega|fail) [-zA,-zB,-zC,-zD,-zE,hn',hn]
  refine V_W mix zume ?_
  simp (disch:=first|omega|simp<;>omega|fail) [-zA,-zB,-zC,-zD,-zE,zj3g,zukd,hov,ovV]
 have hn':(n:Int)≤200:=by omega
 refine zbn1 (V_W mix zume ?_)
 simp (disch:=first|omega|simp<;>omega|fail) [-zA,-zB,-zC,-zD,-zE,hn',hn]
 refine zbn1 (z3mo ?_)
 refine zbn1 (V_W mix zume ?_)
 simp (disch:=first|omega|simp<;>omega|fail) [-zA,-zB,-zC,-zD,-zE]
 obtain ⟨so,⟨mo,lo⟩,g1⟩:=r3
 have hok:hit p q chP n=decide (gQ p q ∈ (layN p q chP n).2):=rfl
 have hbox : ∀ x ∈ (layN p q chP n).2,z4ew p.length q.length x:=fun x hx=>z49r hI.cl.ci (hI.len x hx).1
 have hfnd:gQ p q ∈ (layN p q chP n).2→ovP p q=some (wd (layN p q chP n).1 (gQ p q)):=fun hm=>by
  have:zu3v (hit p q chP) 201 0=some n:=zgjx 201 0 (Nat.zero_le _) (by omega) (fun i _ hi=>decide_eq_false (r2 i hi)) (decide_eq_true hm)
  unfold ovP
  rw [this]; rfl
 have hwd:gQ p q ∈ (layN p q chP n).2→(wd (layN p q chP n).1 (gQ p q)).length≤200∧wd (layN p q chP n).1 (gQ p q)≠[]∧gQ p q ∈ kC (layN p q chP n).1:=fun hm=>by
  have h1:=z5xa hp hq hz hn hm
  have h2:=z9ex.1 h1.c
  exact ⟨h2.2.2,fun e=>by rw [e] at h2; simp [nmF] at h2,(hI.len _ hm).1⟩
 have hgood:=hI.good
 have hnd:(kC (layN p q chP n).1).Nodup:=hI.cl.ci.nd
 have hLb:(layN p q chP n).2.length≤161604:=by have h1:=hI.cl.le; have h2:=hI.cl.ci.len hp hq; omega
 have hlen:=ztqr lo
 have hidx:=fun (i:Nat) (hi:i<(layN p q chP n).2.length) (r:List AObj)=>zjsa (h:=h++r) (fun e=>z7ko (lo e)) hi
 have hvL:=fun (r:List AObj) (e:(layN p q chP n).2≠[])=>zw28 (z7ko (r:=r) (lo e)) (zsql _)
 generalize hA:layN p q chP n=A at *
 obtain ⟨C,L⟩:=A
 simp only at *
 refine zbn1 (zbn1 (V_W mix zume ?_))
 simp (disch:=first|omega|simp<;>omega|fail) [-zA,-zB,-zC,-zD,-zE,hlen]
 refine z3mo (ztbr (fun a:Nat × List AObj=>a8S1 (pV p) (pV q) (.mp 1 3 0) (lV G L) (.int .i64 n) .nils (lV G L) (.int .i64 L.length) (.int .i64 a.1) (h++a.2)) (fun a=>L.length-a.1) (fun a=>a.1≤L.length ∧ ∀ u (hu:u<L.length),u<a.1→L[u]≠gQ p q) (0,[]) (z515 (by simp (disch:=first|omega|simp<;>omega|fail) [-zA,-zB,-zC,-zD,-zE,a8S1]) (by simp (disch:=first|omega|simp<;>omega|fail) [-zA,-zB,-zC,-zD,-zE,a8S1])) ⟨by simp,fun u _ h=>by simp at h⟩ (fun y hy => ?_))
 obtain ⟨i,r⟩:=y
 obtain ⟨q1,q2⟩:=hy
 simp only at q1 q2
 simp only [a8S1,a8L1]
 by_cases hi:i<L.length
 ·have hi':(i:Int)<L.length:=by omega
  have hne:L≠[]:=fun e=>by rw [e] at hi; simp at hi
  have ceq:z32s (zi5g [(3,0)]) [.int .i64 L[i].1,.int .i64 L[i].2.1,.int .i64 L[i].2.2] [.int .i64 p.length,.int .i64 q.length,.int .i64 3]=some (decide ([(p.length:Int),(q.length:Int),3]=[(L[i].1:Int),(L[i].2.1:Int),(L[i].2.2:Int)])):=zztg _ _ _ _ _ _
  have hgl:=z45p hi
  have hix:=hidx i hi r
  have hvl:=hvL r hne
  simp only [qC] at hgl
  refine zbn1 (V_W mix zume ?_)
  simp (disch:=first|omega|simp<;>omega|fail) [-zA,-zB,-zC,-zD,-zE,hi',hi]
  refine zbn1 (V_W mix zume ?_)
  simp (disch:=first|omega|simp<;>omega|fail) [-zA,-zB,-zC,-zD,-zE]
  refine zbn1 (z3mo ?_)
  refine zbn1 (V_W mix zume ?_)
  simp (disch:=first|omega|simp<;>omega|fail) [-zA,-zB,-zC,-zD,-zE,hix,hvl,hgl,zf0q,zjj2,zm3y,zxft,z8we,zjwp]
  by_cases he:L[i]=gQ p q
  ·have hm:gQ p q ∈ L:=he▸List.getElem_mem hi
   rw [decide_eq_true (zifp.2 he)] at ceq
   refine zbn1 (V_W mix zume ?_)
   simp (disch:=first|omega|simp<;>omega|fail) [-zA,-zB,-zC,-zD,-zE,zf0q,zjj2,zjwp,zlwt,ceq,pV]
   obtain ⟨w1,w2,w3⟩:=hwd hm
   have hcp:zwy1 P 21 [.mp 1 3 0,.agg (qC L[i])] (h++(r++[.cells (qC L[i])])) (fun d _=>d = .str (wd C (gQ p q))):=by
    rw [he]
    exact zhku p q 1 B C (gQ p q) _ (pV p) (pV q) hgood hnd w3 w1 w2 (z7ko so) (zjf6 _ mo)
   rw [hfnd hm]
   refine zd9i mix (zhza rfl (ztv2 (z637 (zsk7 (v := .agg (qC L[i])) ?_ (zgb5 rfl hcp fun v k hv => ?_)))))
   ·rw [zq2d]
    simp (disch:=first|omega|simp<;>omega|fail) [-zA,-zB,-zC,-zD,-zE,zf0q,zjj2,zjwp,qC]
   ·subst hv
    refine z637 (z2d4 ?_)
    simp (disch:=first|omega|simp<;>omega|fail) [-zA,-zB,-zC,-zD,-zE,zysb,awp,zukd,ovV]
  ·rw [decide_eq_false (fun e=>he (zifp.1 e))] at ceq
   refine V_W mix zume ?_
   simp (disch:=first|omega|simp<;>omega|fail) [-zA,-zB,-zC,-zD,-zE,zf0q,zjj2,zjwp,zlwt,ceq,pV]
   refine V_W mix zume ?_
   simp (disch:=first|omega|simp<;>omega|fail) [-zA,-zB,-zC,-zD,-zE]
   refine ⟨i+1,⟨r++[.cells (qC L[i])],z515 (by simp (disch:=first|omega|simp<;>omega|fail) [-zA,-zB,-zC,-zD,-zE,pV]) (by simp (disch:=first|omega|simp<;>omega|fail) [-zA,-zB,-zC,-zD,-zE,qC])⟩,by omega,by omega,fun u hu hui => ?_⟩
   by_cases e:u=i
   ·subst e; exact he
   ·exact q2 u hu (by omega)
 ·have hi':¬ (i:Int)<L.length:=by omega
  have hno:gQ p q ∉ L:=fun hm=>by
   obtain ⟨u,hu,e⟩:=List.getElem_of_mem hm
   exact q2 u hu (by omega) e
  have hlr:=ztqr (h:=h++r) (G:=G) (L:=L) (fun e=>z7ko (lo e))
  refine zbn1 (V_W mix zume ?_)
  simp (disch:=first|omega|simp<;>omega|fail) [-zA,-zB,-zC,-zD,-zE,hi',hi]
  refine zbn1 (V_W mix zume ?_)
  simp (disch:=first|omega|simp<;>omega|fail) [-zA,-zB,-zC,-zD,-zE]
  refine zbn1 (zbn1 (V_W mix zume ?_))
  simp (disch:=first|omega|simp<;>omega|fail) [-zA,-zB,-zC,-zD,-zE,hlr]
  have hls:LH (cM C) B G L (h++r):=⟨zjf6 _ mo,fun e=>z7ko (lo e)⟩
  have hso:=z7ko (r:=r) so
  generalize h++r=h1 at hls hso
  refine z3mo (ztbr (fun a:XL=>a8S2 (pV p) (pV q) (.mp 1 3 0) (.int .i64 n) (lV a.G ((L.take a.n).foldl (mvs p q chP) (C,[])).2) (lV G L) (.int .i64 L.length) (.int .i64 a.n) a.h) (fun a=>L.length-a.n) (RM p q L C B h1) ⟨0,0,h1⟩ (z515 (by simp (disch:=first|omega|simp<;>omega|fail) [-zA,-zB,-zC,-zD,-zE,a8S2,zg8e]) (by simp (disch:=first|omega|simp<;>omega|fail) [-zA,-zB,-zC,-zD,-zE,a8S2])) ⟨by simp,⟨hls.mo,fun e=>absurd rfl e⟩,.refl _ _ _⟩ (fun y hy => ?_))
  obtain ⟨j,G2,h2⟩:=y
  obtain ⟨u1,u2,u3⟩:=hy
  simp only at u1 u2 u3
  have nil1 : ∀ k:Nat,(([]:List Q)≠[]→k≠0):=fun k e=>absurd rfl e
  have so2:=u3.at_ hso (nil1 1)
  have lo2:L≠[]→ziu0 h2 G=some (lC L):=fun e=>u3.at_ (hls.lo e) (nil1 G)
  have l1:1<h1.length:=z4sf hso
  simp only [a8S2,a8L2]
  by_cases hj:j<L.length
  ·have hj':(j:Int)<L.length:=by omega
   have hne:L≠[]:=fun e=>by rw [e] at hj; simp at hj
   have htk:L.take (j+1)=L.take j++[L[j]]:=zmqh hj
   have hstep:(L.take (j+1)).foldl (mvs p q chP) (C,[])=mvs p q chP ((L.take j).foldl (mvs p q chP) (C,[])) L[j]:=by rw [htk,List.foldl_append]; rfl
   have hcl:CL p.length q.length ((L.take j).foldl (mvs p q chP) (C,[])):=zsjb _ _ ⟨hI.cl.ci,by simp⟩ fun x hx=>hbox x (List.mem_of_mem_take hx)
   have hgl:=z45p hj
   have hix:=zjsa (h:=h2) lo2 hj
   have hvl:objV h2 G (L.length*3)=some (lC L):=zw28 (lo2 hne) (zsql L)
   have nS:((L.take j).foldl (mvs p q chP) (C,[])).2≠[]→1≠G2:=fun e q=>by
    rcases u3.new e with ⟨q1,_⟩|q1
    ·exact q1 rfl
    ·omega
   generalize hN:(L.take j).foldl (mvs p q chP) (C,[])=N at *
   have hmv:=z0la p q hp hq 1 B N.1 N.2 L[j] (h2++[.cells (qC L[j])]) G2 (hbox _ (List.getElem_mem hj)) hcl (u2.app _) (z7ko so2) nS
   simp only [qC] at hgl
   refine zbn1 (V_W mix zume ?_)
   simp (disch:=first|omega|simp<;>omega|fail) [-zA,-zB,-zC,-zD,-zE,hj',hj]
   refine zbn1 (V_W mix zume ?_)
   simp (disch:=first|omega|simp<;>omega|fail) [-zA,-zB,-zC,-zD,-zE]
   refine zbn1 (z3mo ?_)
   refine zbn1 (V_W mix zume ?_)
   simp (disch:=first|omega|simp<;>omega|fail) [-zA,-zB,-zC,-zD,-zE,hix,hvl,hgl,zf0q,zjj2,zm3y,zxft,z8we,zjwp]
   refine zd9i mix ?_
   simp only [awp,y03,if_false]
   refine z637 (z637 (zsk7 (v := .agg (qC L[j])) ?_ (zgb5 rfl hmv fun v k hv => ?_)))
   ·rw [zq2d]
    simp (disch:=first|omega|simp<;>omega|fail) [-zA,-zB,-zC,-zD,-zE,zf0q,zjj2,zjwp,qC]
   ·obtain ⟨G3,rfl,v2,v3⟩:=hv
    refine z637 ?_
    simp (disch:=first|omega|simp<;>omega|fail) [-zA,-zB,-zC,-zD,-zE,zysb]
    have e1:mvs p q chP (N.1,N.2) L[j]=(L.take (j+1)).foldl (mvs p q chP) (C,[]):=hstep.symm
    rw [e1] at v2 v3 ⊢
    refine V_W mix zume ?_
    simp (disch:=first|omega|simp<;>omega|fail) [-zA,-zB,-zC,-zD,-zE]
    exact ⟨⟨j+1,G3,k⟩,z515 (by simp (disch:=first|omega|simp<;>omega|fail) [-zA,-zB,-zC,-zD,-zE]) (by simp (disch:=first|omega|simp<;>omega|fail) [-zA,-zB,-zC,-zD,-zE]),by simp only; omega,⟨by simp only; omega,v2,(u3.trans (Fr.app _ _ _ _)).trans v3⟩⟩
  ·have hj':¬ (j:Int)<L.length:=by omega
   have hfull:(L.take j).foldl (mvs p q chP) (C,[])=layN p q chP (n+1):=by
    rw [y06 (by omega)]
    show _=lay p q chP (layN p q chP n)
    rw [hA]; rfl
   rw [hfull] at u2 u3
   have nS:(layN p q chP (n+1)).2≠[]→1≠G2:=fun e q=>by
    rcases u3.new e with ⟨q1,_⟩|q1
    ·exact q1 rfl
    ·omega
   refine zbn1 (V_W mix zume ?_)
   simp (disch:=first|omega|simp<;>omega|fail) [-zA,-zB,-zC,-zD,-zE,hj',hj]
   refine zbn1 (V_W mix zume ?_)
   simp (disch:=first|omega|simp<;>omega|fail) [-zA,-zB,-zC,-zD,-zE]
   rw [hfull]
   refine V_W mix zume ?_
   simp (disch:=first|omega|simp<;>omega|fail) [-zA,-zB,-zC,-zD,-zE]
   refine V_W mix zume ?_
   simp (disch:=first|omega|simp<;>omega|fail) [-zA,-zB,-zC,-zD,-zE]
   refine ⟨⟨n+1,G2,h2⟩,z515 (by simp (disch:=first|omega|simp<;>omega|fail) [-zA,-zB,-zC,-zD,-zE,sL,a8S0]) (by simp (disch:=first|omega|simp<;>omega|fail) [-zA,-zB,-zC,-zD,-zE,sL,a8S0]),by simp only; omega,⟨by simp only; omega,fun m hm => ?_,⟨so2,u2,nS⟩⟩⟩
   have hm:m<n+1:=hm
   by_cases e:m=n
   ·subst e; rw [hA]; exact hno
   ·exact r2 m (by omega)
theorem z4ii {f g:Bool} {s n m k:Nat} {a b:List DV} {B:Nat}:zvnk [.nils,.nils,.nilm] [(0,1,.sl f s n a),(1,1,.sl g m k b),(2,1,.mapv B)]=some (.agg [.sl f s n a,.sl g m k b,.mapv B]):=rfl
theorem ze35 (s t:List UInt8):Am.Sem P 8 [.str s,.str t] (ovV (ovD s t)):=by
 cases hp:zfn1 s with
 | none =>
  have hd:ovD s t=none:=by unfold ovD; rw [hp]
  rw [hd]
  refine znz9 Try.func8 zwbl (V_W mix zume ?_)
  cases hq:zfn1 t with
  | none=>simp (disch:=first|omega|simp<;>omega|fail) [-zA,-zB,-zC,-zD,-zE,a8,zk0r,zk5k,z8r4,hp,hq,zoby,ovV]
  | some q=>simp (disch:=first|omega|simp<;>omega|fail) [-zA,-zB,-zC,-zD,-zE,a8,zk0r,zk5k,z8r4,hp,hq,zoby,ovV]
 | some p =>
  cases hq:zfn1 t with
  | none =>
   have hd:ovD s t=none:=by unfold ovD; rw [hp,hq]
   rw [hd]
   refine znz9 Try.func8 zwbl (V_W mix zume ?_)
   simp (disch:=first|omega|simp<;>omega|fail) [-zA,-zB,-zC,-zD,-zE,a8,zk0r,zk5k,z8r4,hp,hq,zoby,ovV]
  | some q =>
   have hd:ovD s t=ovP p q:=by unfold ovD; rw [hp,hq]
   have lp:=zxnm hp
   have lq:=zxnm hq
   have hz:=z3f2 (z590 hp) (z590 hq)
   have hpu:zyp8 (ovV (ovP p q))=true:=by cases ovP p q<;>rfl
   rw [hd]
   refine znz9 Try.func8 zwbl (zftn (OvK.pure hpu) ?_)
   simp only [a8]
   refine zbn1 (V_W mix zume ?_)
   simp (disch:=first|omega|simp<;>omega|fail) [-zA,-zB,-zC,-zD,-zE]
   refine zbn1 (V_W mix zume ?_)
   simp (disch:=first|omega|simp<;>omega|fail) [-zA,-zB,-zC,-zD,-zE,zk0r,zk5k,z8r4,hp,zoby]
   refine zbn1 (V_W mix zume ?_)
   simp (disch:=first|omega|simp<;>omega|fail) [-zA,-zB,-zC,-zD,-zE,zk0r,zk5k,z8r4,hq,zoby]
   refine zbn1 (V_W mix zume ?_)
   simp (disch:=first|omega|simp<;>omega|fail) [-zA,-zB,-zC,-zD,-zE]
   refine zh35 (l1:=[⟨none,some 34,.mov (.t 6)⟩,⟨none,some 35,.mov (.t 8)⟩]) (fun e t h h' q=>⟨q.out⟩) ?_
   refine z637 (z637 ?_)
   intro b hb
   clear hb
   refine zeh9 zume ?_
   simp (disch:=first|omega|simp<;>omega|fail) [-zA,-zB,-zC,-zD,-zE,z4ii]
   refine zqfd (st':=⟨js 6++[pV p,.junk,pV q,.junk,.mp 1 3 0]++js 65,[.mapo b [],.cells [pV p,pV q,.mapv b]]⟩) (z515 (by simp (disch:=first|omega|simp<;>omega|fail) [-zA,-zB,-zC,-zD,-zE,pV]) (by simp (disch:=first|omega|simp<;>omega|fail) [-zA,-zB,-zC,-zD,-zE,pV])) ?_
   have h0:CL p.length q.length ([],[]):=⟨⟨fun e he=>by simp at he,by simp⟩,by simp⟩
   obtain ⟨G',k,c1,c2,c3⟩:=zapw p q lp lq 1 b fu [] [] oQ (oQ,0#8) [.mapo b [],.cells [pV p,pV q,.mapv b]] 0 (by unfold fu oQ; simp only; omega) ⟨by simp [oQ],by simp [oQ],by simp [oQ]⟩ h0 ⟨by simp [zfel,cM],fun e=>absurd rfl e⟩ rfl (fun e=>absurd rfl e)
   have e0:vis p q fu [] [] oQ (oQ,0#8)=layN p q chP 0:=rfl
   rw [e0] at c1 c2 c3
   have c4:=c3.at_ (id:=1) (l:=[pV p,pV q,.mapv b]) rfl (fun e=>absurd rfl e)
   have c5:(layN p q chP 0).2≠[]→1≠G':=fun e q'=>by
    rcases c3.new e with ⟨q1,_⟩|q1
    ·exact q1 rfl
    ·simp at q1; omega
   obtain ⟨TA,fA,sA,a1,a2,a3⟩:=exTH zume c1
   have b3:zvnk [DV.int .i64 0,.int .i64 0,.int .i64 0] []=some (.agg [.int .i64 0,.int .i64 0,.int .i64 0]):=rfl
   have b4:zvnk [DV.int .i64 0,.int .i64 0,.int .i64 0,w8 0#8] []=some (.agg [.int .i64 0,.int .i64 0,.int .i64 0,w8 0#8]):=rfl
   simp only [qC,stC,oQ,zg8e,Int.natCast_zero] at a2
   refine zbn1 (V_W mix sA ?_)
   simp (disch:=first|omega|simp<;>omega|fail) [-zA,-zB,-zC,-zD,-zE,b3,b4,a1,a2]
   refine zbn1 (zbn1 (V_W mix zume ?_))
   simp (disch:=first|omega|simp<;>omega|fail) [-zA,-zB,-zC,-zD,-zE]
   refine zqfd (st':=sL p q q ⟨0,G',k⟩) (z515 (by simp (disch:=first|omega|simp<;>omega|fail) [-zA,-zB,-zC,-zD,-zE,sL,a8S0]) (by simp (disch:=first|omega|simp<;>omega|fail) [-zA,-zB,-zC,-zD,-zE,sL,a8S0])) ?_
   exact z6ia p q lp lq (z590 hp) (z590 hq) b ⟨0,G',k⟩ ⟨by simp,fun m hm=>by simp at hm,⟨c4,c2,c5⟩⟩
end Go.Proofs.Ytaihpefemjlilaa
set_option linter.unusedSimpArgs false
set_option linter.unusedVariables false
namespace Go.Proofs.Ytaihpefemjlilaa
open Go Go.Am
def a4:AFn where
 code:=(.seq (.region false [⟨none,(some 6),.mov (.k (.bool false))⟩])
 (.seq (.seq (.region false [⟨none,(some 14),.mov (.t 0)⟩,
  ⟨none,(some 15),.lenStr (.t 14)⟩,
  ⟨none,(some 16),.bin .gtr (.t 15) (.k (.int .i64 40))⟩,
  ⟨none,(some 17),.mov (.t 16)⟩,
  ⟨(some (17,false)),(some 18),.mov (.t 1)⟩,
  ⟨(some (17,false)),(some 19),.lenStr (.t 18)⟩,
  ⟨(some (17,false)),(some 20),.bin .gtr (.t 19) (.k (.int .i64 40))⟩,
  ⟨none,(some 21),.pick (.t 17) (.k (.bool true)) (.t 20)⟩,
  ⟨none,(some 22),.mov (.t 21)⟩,
  ⟨(some (22,false)),(some 23),.mov (.t 2)⟩,
  ⟨(some (22,false)),(some 24),.lenStr (.t 23)⟩,
  ⟨(some (22,false)),(some 25),.bin .gtr (.t 24) (.k (.int .i64 40))⟩,
  ⟨none,(some 26),.pick (.t 22) (.k (.bool true)) (.t 25)⟩])
 (.cond (.t 26) (.seq (.region false [⟨none,(some 6),.mov (.k (.bool true))⟩])
 .ret)
 .skip))
 (.seq (.region false [⟨none,(some 28),.mov (.t 0)⟩,
  ⟨none,(some 29),.mov (.t 1)⟩,
  ⟨none,(some 30),.call (.k (.fn (.func 8) [] [])) [(.t 28),(.t 29)]⟩,
  ⟨none,(some 27),.mov (.t 30)⟩,
  ⟨none,(some 31),.ext (.t 27) 0⟩,
  ⟨none,(some 32),.ext (.t 27) 1⟩,
  ⟨none,(some 7),.mov (.t 31)⟩,
  ⟨none,(some 8),.mov (.t 32)⟩])
 (.seq (.region false [⟨none,(some 34),.mov (.t 1)⟩,
  ⟨none,(some 35),.mov (.t 0)⟩,
  ⟨none,(some 36),.call (.k (.fn (.func 8) [] [])) [(.t 34),(.t 35)]⟩,
  ⟨none,(some 33),.mov (.t 36)⟩,
  ⟨none,(some 37),.ext (.t 33) 0⟩,
  ⟨none,(some 38),.ext (.t 33) 1⟩,
  ⟨none,(some 9),.mov (.t 37)⟩,
  ⟨none,(some 10),.mov (.t 38)⟩])
 (.seq (.seq (.region false [⟨none,(some 39),.mov (.t 8)⟩,
  ⟨none,(some 40),.mov (.t 10)⟩,
  ⟨none,(some 41),.eqb true (.t 39) (.t 40)⟩,
  ⟨none,(some 42),.mov (.t 41)⟩,
  ⟨(some (42,false)),(some 43),.mov (.t 0)⟩,
  ⟨(some (42,false)),(some 44),.mov (.t 2)⟩,
  ⟨(some (42,false)),(some 45),.call (.k (.fn (.func 9) [] [])) [(.t 43),(.t 44)]⟩,
  ⟨(some (42,false)),(some 46),.mov (.t 45)⟩,
  ⟨(some (46,true)),(some 47),.mov (.t 1)⟩,
  ⟨(some (46,true)),(some 48),.mov (.t 2)⟩,
  ⟨(some (46,true)),(some 49),.call (.k (.fn (.func 9) [] [])) [(.t 47),(.t 48)]⟩,
  ⟨(some (42,false)),(some 50),.pick (.t 46) (.t 49) (.k (.bool false))⟩,
  ⟨(some (42,false)),(some 51),.mov (.t 50)⟩,
  ⟨(some (51,true)),(some 52),.mov (.t 8)⟩,
  ⟨(some (51,true)),(some 53),.un .not (.t 52)⟩,
  ⟨(some (42,false)),(some 54),.pick (.t 51) (.t 53) (.k (.bool false))⟩,
  ⟨none,(some 55),.pick (.t 42) (.k (.bool true)) (.t 54)⟩])
 (.cond (.t 55) (.seq (.region false [⟨none,(some 6),.mov (.k (.bool false))⟩])
 .ret)
 .skip))
 (.seq (.region false [⟨none,(some 56),.mov (.t 2)⟩,
  ⟨none,(some 57),.call (.k (.fn (.func 10) [] [])) [(.t 56)]⟩,
  ⟨none,(some 11),.mov (.t 57)⟩])
 (.seq (.seq (.region false [⟨none,(some 58),.mov (.t 11)⟩,
  ⟨none,(some 59),.call (.k (.fn (.func 11) [] [])) [(.t 58)]⟩,
  ⟨none,(some 60),.un .not (.t 59)⟩])
 (.cond (.t 60) (.seq (.region false [⟨none,(some 61),.call (.k (.fn (.func 12) [] [])) []⟩,
  ⟨none,(some 6),.mov (.t 61)⟩])
 .ret)
 .skip))
 (.seq (.region false [⟨none,(some 63),.mov (.t 0)⟩,
  ⟨none,(some 64),.mov (.t 11)⟩,
  ⟨none,(some 65),.call (.k (.fn (.func 8) [] [])) [(.t 63),(.t 64)]⟩,
  ⟨none,(some 62),.mov (.t 65)⟩,
  ⟨none,(some 66),.ext (.t 62) 0⟩,
  ⟨none,(some 67),.ext (.t 62) 1⟩,
  ⟨none,(some 12),.mov (.t 66)⟩,
  ⟨none,(some 13),.mov (.t 67)⟩])
 (.seq (.region false [⟨none,(some 68),.call (.k (.fn (.func 12) [] [])) []⟩,
  ⟨none,(some 69),.mov (.t 68)⟩,
  ⟨(some (69,true)),(some 70),.mov (.t 13)⟩,
  ⟨(some (69,true)),(some 71),.mov (.t 0)⟩,
  ⟨(some (69,true)),(some 72),.mov (.t 2)⟩,
  ⟨(some (69,true)),(some 73),.call (.k (.fn (.func 9) [] [])) [(.t 71),(.t 72)]⟩,
  ⟨(some (69,true)),(some 74),.eqb false (.t 70) (.t 73)⟩,
  ⟨none,(some 75),.pick (.t 69) (.t 74) (.k (.bool false))⟩,
  ⟨none,(some 76),.mov (.t 75)⟩,
  ⟨(some (76,true)),(some 77),.mov (.t 13)⟩,
  ⟨(some (76,true)),(some 78),.un .not (.t 77)⟩,
  ⟨(some (76,true)),(some 79),.mov (.t 78)⟩,
  ⟨(some (79,false)),(some 80),.mov (.t 12)⟩,
  ⟨(some (79,false)),(some 81),.mov (.t 2)⟩,
  ⟨(some (79,false)),(some 82),.bin .eql (.t 80) (.t 81)⟩,
  ⟨(some (76,true)),(some 83),.pick (.t 79) (.k (.bool true)) (.t 82)⟩,
  ⟨none,(some 84),.pick (.t 76) (.t 83) (.k (.bool false))⟩,
  ⟨none,(some 6),.mov (.t 84)⟩])
 .ret)))))))))
 ntmps:=85
 res:=[.tmp 6]
theorem zn8d:zsjc P Try.f4=some a4:=by kernel_rfl
end Go.Proofs.Ytaihpefemjlilaa
set_option linter.unusedSimpArgs false
set_option linter.unusedVariables false
namespace Go.Proofs.Ytaihpefemjlilaa
open Go Go.Am
theorem z8nr {p q:List Pt} (hp:p.length≤200) (hq:q.length≤200) (lp:Lz p) (lq:Lz q) {w:List UInt8} (h:ovP p q=some w):Com p q∧Fnd p q w:=by
 unfold ovP at h
 obtain ⟨n,h1,rfl⟩:=Option.map_eq_some_iff.1 h
 obtain ⟨_,h2,h3⟩:=z5fn 201 0 h1
 have h3':gQ p q ∈ (layN p q chP n).2:=of_decide_eq_true h3
 have hz:=z3f2 lp lq
 exact ⟨(z1mn hp hq hz (zxl6 p q)).1 ⟨n,by omega,h3'⟩,z5xa hp hq hz (by omega) h3'⟩
theorem zidu {p q:List Pt} (hp:p.length≤200) (hq:q.length≤200) (lp:Lz p) (lq:Lz q) (h:ovP p q=none):¬ Com p q:=by
 unfold ovP at h
 rw [Option.map_eq_none_iff] at h
 intro hc
 obtain ⟨m,hm,h'⟩:=(z1mn hp hq (z3f2 lp lq) (zxl6 p q)).2 hc
 have:=zriv 201 0 h m (Nat.zero_le _) (by omega)
 exact of_decide_eq_false this h'
def ComS (s t:List UInt8):Prop := ∃ p q,zfn1 s=some p∧zfn1 t=some q∧Com p q
theorem zn64 (s t:List UInt8):(ovD s t).isSome=true↔ComS s t:=by
 unfold ovD ComS
 cases hp:zfn1 s with
 | none=>simp
 | some p =>
  cases hq:zfn1 t with
  | none=>simp
  | some q =>
   have lp:=zxnm hp
   have lq:=zxnm hq
   constructor
   ·intro h
    cases e:ovP p q with
    | none=>simp only [e] at h; simp at h
    | some w=>exact ⟨p,q,rfl,rfl,(z8nr lp lq (z590 hp) (z590 hq) e).1⟩
   ·rintro ⟨p',q',e1,e2,hc⟩
    cases e1; cases e2
    cases e:ovP p q with
    | none=>exact absurd hc (zidu lp lq (z590 hp) (z590 hq) e)
    | some w=>simp only [e]; rfl
theorem zt2l (s t:List UInt8):(ovD s t).isSome=(ovD t s).isSome:=by
 have h:ComS s t↔ComS t s:=⟨fun ⟨p,q,a,b,c⟩=>⟨q,p,b,a,c.symm⟩,fun ⟨p,q,a,b,c⟩=>⟨q,p,b,a,c.symm⟩⟩
 rw [← zn64,← zn64] at h
 cases e1:(ovD s t).isSome<;>cases e2:(ovD t s).isSome<;>simp_all
theorem z1dy {s w:List UInt8} (h:zenh s w=true) : ∃ p,zfn1 s=some p∧zj1f w=true∧M p w p.length w.length=true:=by
 unfold zenh at h
 cases hp:zfn1 s with
 | none=>rw [hp] at h; simp at h
 | some p =>
  rw [hp] at h
  simp only [Bool.and_eq_true] at h
  exact ⟨p,rfl,h.1,h.2⟩
theorem zwvi {p q:List Pt} {w:List UInt8} (hw:zj1f w=true) (h1:M p w p.length w.length=true) (h2:M q w q.length w.length=true):Com p q:=by
 have:=z9ex.1 hw
 exact ⟨w,this.2.2,h1,h2,this.1⟩
theorem zzq4 {s t w:List UInt8} (h1:zenh s w=true) (h2:zenh t w=true):(ovD s t).isSome=true:=by
 obtain ⟨p,a1,a2,a3⟩:=z1dy h1
 obtain ⟨q,b1,_,b3⟩:=z1dy h2
 exact (zn64 s t).2 ⟨p,q,a1,b1,zwvi a2 a3 b3⟩
theorem z05b {s:List UInt8} (h:zj1f s=true):zfn1 (litS s)=if (litS s).length≤200 then some (ones s) else none:=by
 have h3:noZ s=true:=(z9ex.1 h).2.1
 have h1:1≤s.length:=by simp only [zj1f,Bool.and_eq_true,decide_eq_true_eq] at h; exact h.1.1.1
 have hl:=zkm1 s
 unfold zfn1
 rw [zvwa,h3,zu7t]
 by_cases e:(litS s).length≤200
 ·rw [if_pos ⟨by omega,e,rfl⟩,if_pos e]
 ·rw [if_neg (fun q=>e q.2.1),if_neg e]
theorem zb3s {p s:List UInt8} (h:zj1f s=true) (hv:(litS s).length≤200):match ovD p (litS s) with
  | some w=>w=s∧zenh p s=true
  | none=>zenh p s=false:=by
 have hq:zfn1 (litS s)=some (ones s):=by rw [z05b h,if_pos hv]
 cases e:ovD p (litS s) with
 | none =>
  cases hm:zenh p s with
  | false=>rfl
  | true =>
   exfalso
   obtain ⟨P',a1,a2,a3⟩:=z1dy hm
   have:=(zn64 p (litS s)).2 ⟨P',ones s,a1,hq,zwvi a2 a3 (by rw [z6cn,zkvn]; simp)⟩
   rw [e] at this; simp at this
 | some w =>
  unfold ovD at e
  cases hp:zfn1 p with
  | none=>rw [hp] at e; simp at e
  | some P' =>
   rw [hp,hq] at e
   simp only at e
   obtain ⟨_,h2⟩:=z8nr (zxnm hp) (zxnm hq) (z590 hp) (z590 hq) e
   have h3:=h2.b
   rw [z6cn,zkvn] at h3
   have h4:s=w:=of_decide_eq_true h3
   subst h4
   refine ⟨rfl,?_⟩
   unfold zenh; rw [hp]; simp only [h2.a,h2.c,Bool.and_self]
def ovB (s t:List UInt8):DV:=ovV (ovD s t)
def mtB (p s:List UInt8):DV := .bool (zenh p s)
noncomputable def TAw:Tbl:=addT 9 (.pure (cSS mtB)) (addT 23 (.pure (cS za1j)) tbl0)
theorem zs9y:TAw 9 = .pure (cSS mtB):=by simp [TAw]
theorem zc3x:TAw 23 = .pure (cS za1j):=by simp [TAw]
theorem zqe8:TAw.Sound P :=
 z0rp (zd7v fun p s=>zljw mix zy0e Try.func9 z528 (z3jz p s))
 (z0rp (zzn8 fun p=>zljw mix zhpa Try.func23 ztyx (zqqw p)) zr5o)
theorem awk1:zenh [115,114,99,47,42,46,99] [115,114,99,47,97,46,99]=true:=by decide +kernel
theorem awk2:zenh [115,114,99,47,42,46,99] [115,114,99,47,120,47,97,46,99]=false:=by decide +kernel
theorem awk3:zj1f [97,47,98]=true:=by decide +kernel
theorem z681:Runs TAw a12 [] (.bool true):=by
 refine ⟨?_⟩
 simp (disch:=first|omega|simp<;>omega|fail) [-zA,-zB,-zC,-zD,-zE,a12,zs9y,zc3x,z5o0,zk5k,mtB,za1j,awk1,awk2,awk3]
def cTr:List DV→Option DV
 | []=>some (.bool true)|_=>none
theorem zjnj:cTr []=some (.bool true):=rfl
theorem zdan {f:Nat} (h:Am.Sem P f [] (.bool true)):(Con.pure cTr).Sound P f:=by
 intro args v e
 unfold cTr at e
 split at e
 ·simp at e; subst e; exact h
 ·simp at e
noncomputable def TZ:Tbl:=addT 12 (.pure cTr) (addT 8 (.pure (cSS ovB)) (addT 10 (.pure (cS litR)) (addT 11 (.pure (cS z01o)) (addT 9 (.pure (cSS mtB)) tbl0))))
theorem z0cx:TZ 12 = .pure cTr:=by simp [TZ]
theorem zgg2:TZ 8 = .pure (cSS ovB):=by simp [TZ]
theorem zjte:TZ 10 = .pure (cS litR):=by simp [TZ]
theorem zek9:TZ 11 = .pure (cS z01o):=by simp [TZ]
theorem zg2f:TZ 9 = .pure (cSS mtB):=by simp [TZ]
theorem zejn:TZ.Sound P :=
 z0rp (zdan (zljw mix zqe8 Try.func12 zqkh z681))
 (z0rp (zd7v fun s t=>ze35 s t)
 (z0rp (zzn8 fun s=>zljw mix zbqx Try.func10 z1ee (ze9u s))
 (z0rp (zzn8 fun s=>zljw mix zeib Try.func11 zbwx (ztir s))
 (z0rp (zd7v fun p s=>zljw mix zy0e Try.func9 z528 (z3jz p s)) zr5o))))
theorem zs8l (o:Option (List UInt8)):ovV o = .tup [.str (o.getD []),.bool o.isSome]:=by cases o<;>rfl
theorem z3z9 (p q s:List UInt8):Runs TZ a4 [.str p,.str q,.str s] (.bool true):=by
 refine ⟨?_⟩
 by_cases h1:40<p.length
 ·have h1':(40:Int)<p.length:=by omega
  simp (disch:=first|omega|simp<;>omega|fail) [-zA,-zB,-zC,-zD,-zE,a4,h1,h1']
 have h1':¬ (40:Int)<p.length:=by omega
 by_cases h2:40<q.length
 ·have h2':(40:Int)<q.length:=by omega
  simp (disch:=first|omega|simp<;>omega|fail) [-zA,-zB,-zC,-zD,-zE,a4,h1,h1',h2,h2']
 have h2':¬ (40:Int)<q.length:=by omega
 by_cases h3:40<s.length
 ·have h3':(40:Int)<s.length:=by omega
  simp (disch:=first|omega|simp<;>omega|fail) [-zA,-zB,-zC,-zD,-zE,a4,h1,h1',h2,h2',h3,h3']
 have h3':¬ (40:Int)<s.length:=by omega
 have hsy:=zt2l p q
 have hma := @zzq4 p q s
 obtain ⟨a,ha⟩ : ∃ a,(ovD p q).isSome=a:=⟨_,rfl⟩
 have hb:(ovD q p).isSome=a:=by rw [← hsy,ha]
 obtain ⟨w1,hw1⟩ : ∃ w,(ovD p q).getD []=w:=⟨_,rfl⟩
 obtain ⟨w2,hw2⟩ : ∃ w,(ovD q p).getD []=w:=⟨_,rfl⟩
 have o1:ovB p q = .tup [.str w1,.bool a]:=by unfold ovB; rw [zs8l,ha,hw1]
 have o2:ovB q p = .tup [.str w2,.bool a]:=by unfold ovB; rw [zs8l,hb,hw2]
 rw [ha] at hma
 obtain ⟨m1,hm1⟩ : ∃ m,zenh p s=m:=⟨_,rfl⟩
 obtain ⟨m2,hm2⟩ : ∃ m,zenh q s=m:=⟨_,rfl⟩
 rw [hm1,hm2] at hma
 by_cases hs:zj1f s=true
 case neg =>
  have hl:litR s = .str []:=by unfold litR; rw [if_neg hs]
  have hv:z01o [] = .bool false:=rfl
  cases a<;>cases m1<;>cases m2<;>first
   | (exfalso; simp at hma; done)
   | simp (disch:=first|omega|simp<;>omega|fail) [-zA,-zB,-zC,-zD,-zE,a4,h1,h1',h2,h2',h3,h3',zgg2,z5o0,zk5k,o1,o2,zg2f,mtB,hm1,hm2,zjte,hl,zek9,hv,z0cx,zjnj]
 have hl:litR s = .str (litS s):=by unfold litR; rw [if_pos hs]
 by_cases hv:(litS s).length≤200
 case neg =>
  have hv:z01o (litS s) = .bool false:=by unfold z01o; rw [z05b hs,if_neg hv]; rfl
  cases a<;>cases m1<;>cases m2<;>first
   | (exfalso; simp at hma; done)
   | simp (disch:=first|omega|simp<;>omega|fail) [-zA,-zB,-zC,-zD,-zE,a4,h1,h1',h2,h2',h3,h3',zgg2,z5o0,zk5k,o1,o2,zg2f,mtB,hm1,hm2,zjte,hl,zek9,hv,z0cx,zjnj]
 have hvd:z01o (litS s) = .bool true:=by unfold z01o; rw [z05b hs,if_pos hv]; rfl
 have hov:=zb3s (p:=p) hs hv
 cases e:ovD p (litS s) with
 | none =>
  rw [e] at hov
  simp only at hov
  have o3:ovB p (litS s) = .tup [.str [],.bool false]:=by unfold ovB; rw [e]; rfl
  obtain rfl:m1=false:=by rw [← hm1]; exact hov
  cases a<;>cases m2<;>first
   | (exfalso; simp at hma; done)
   | simp (disch:=first|omega|simp<;>omega|fail) [-zA,-zB,-zC,-zD,-zE,a4,h1,h1',h2,h2',h3,h3',zgg2,z5o0,zk5k,o1,o2,o3,zg2f,mtB,hm1,hm2,zjte,hl,zek9,hvd,z0cx,zjnj]
 | some w =>
  rw [e] at hov
  obtain ⟨rfl,hov⟩:=hov
  have o3:ovB p (litS w) = .tup [.str w,.bool true]:=by unfold ovB; rw [e]; rfl
  obtain rfl:m1=true:=by rw [← hm1]; exact hov
  cases a<;>cases m2<;>first
   | (exfalso; simp at hma; done)
   | simp (disch:=first|omega|simp<;>omega|fail) [-zA,-zB,-zC,-zD,-zE,a4,h1,h1',h2,h2',h3,h3',zgg2,z5o0,zk5k,o1,o2,o3,zg2f,mtB,hm1,hm2,zjte,hl,zek9,hvd,z0cx,zjnj]
theorem zdy7 {ds:List DV} (h:Ty.Ok .str ds) : ∃ s:List UInt8,ds=[.str s]:=h
theorem zgap {dvs:List DV} (h:Ty.Args [.str,.str,.str] dvs) : ∃ s p q:List UInt8,dvs=[.str s,.str p,.str q]:=by
 obtain ⟨ds,l,rfl,h1,d2,l2,rfl,h2,d3,l3,rfl,h3,rfl⟩:=h
 obtain ⟨s,rfl⟩:=zdy7 h1
 obtain ⟨p,rfl⟩:=zdy7 h2
 obtain ⟨q,rfl⟩:=zdy7 h3
 exact ⟨s,p,q,rfl⟩
end Go.Proofs.Ytaihpefemjlilaa
namespace Go.Proofs.Ytaihpefemjlilaa.patternMeets
open Go.ChangeShapes Go.WideShapes Go.ChangeAt Go.RowKit Go.Am
theorem law_holds (dvs:List DV) (h:Ty.Args [.str,.str,.str] dvs):Am.Sem P 4 dvs (.bool true):=by
 obtain ⟨p,q,s,rfl⟩:=zgap h
 exact zljw mix zejn Try.func4 zn8d (z3z9 p q s)
end Go.Proofs.Ytaihpefemjlilaa.patternMeets
