/-
  3 texts of mine in one.
-/
import Derived.Test.YtaihpefemjlilaaDoorCc02078ea
import Derived.Test.YtaihpefemjlilaaDoorCf3c0fb57
import Derived.Test.YtaihpefemjlilaaDoorC6585a2f5
import Derived.Test.YtaihpefemjlilaaDoorC11682c8d
import Derived.Test.YtaihpefemjlilaaDoorC95836db8
import Derived.Test.YtaihpefemjlilaaDoorC1698e9bd
import Derived.Test.YtaihpefemjlilaaDoorC2c38631c
set_option maxRecDepth 20000
set_option maxHeartbeats 4000000
open List renaming map_take → zA, map_drop → zB, map_set → zC, map_append → zD, drop_one → zE
set_option linter.unusedSimpArgs false
set_option linter.unusedVariables false
namespace Go.Proofs.YtaihpefemjlilaaDoor
open Go Go.Am
open Classical in
noncomputable def comB (p q:List Pt):Bool:=if Com p q then true else false
theorem zeiw {p q:List Pt} (h:Com p q):comB p q=true:=if_pos h
theorem z9w5 {p q:List Pt} (h:¬ Com p q):comB p q=false:=if_neg h
noncomputable def ovrB (s t:List UInt8):Bool:=match zfn1 s,zfn1 t with
 | some p,some q=>comB p q
 | _,_=>false
theorem zbj6 {p q:List Pt} {cs:Pt→Pt→List B8} {n:Nat} (h:(layN p q cs n).2=[]) : ∀ m,(layN p q cs (n+m)).2=[]∧(layN p q cs (n+m)).1=(layN p q cs n).1
 | 0=>⟨h,rfl⟩
 | m+1=>by
  obtain ⟨h1,h2⟩:=zbj6 h m
  have e:layN p q cs (n+(m+1))=lay p q cs (layN p q cs (n+m)):=rfl
  rw [e]; unfold lay
  rw [h1,h2]; exact ⟨rfl,rfl⟩
structure XO where
 n:Nat
 G:Nat
 h:List AObj
structure RO (p q:List Pt) (u:List UInt8) (B:Nat) (a:XO):Prop where
 le:a.n≤200
 no:gQ p q ∉ kC (layN p q (csR u) a.n).1
 l:LH (sM (layN p q (csR u) a.n).1) B a.G (layN p q (csR u) a.n).2 a.h
def sO (p q:List Pt) (u:List UInt8) (B:Nat) (a:XO):St:=z3g7 (pV p) (pV q) (byV (lets u)) (.mapv B) (lV a.G (layN p q (csR u) a.n).2) (.int .i64 a.n) a.h
def zvuy:ACode := .seq (.region false [⟨none,(some 4),.mov (.k (.bool false))⟩]) .ret
theorem z5hh {p q:List Pt} (hp:p.length≤200) (hq:q.length≤200) {cs:Pt→Pt→List B8}:gQ p q ∉ kC (layN p q cs 0).1:=fun h=>by
 have hI:=(z5gf p q hp hq cs)
 have hm:gQ p q ∈ (lay0 p q).2:=by rw [← hI.2]; exact h
 have h1:=hI.1.len _ hm
 have h2:=hI.1.good.rw h1.1
 have h3:=h2.n
 rw [List.eq_nil_of_length_eq_zero h1.2] at h3
 simp [nmF,gQ] at h3
theorem znsi (p q:List Pt) (hp:p.length≤200) (hq:q.length≤200) (u:List UInt8) (hls:(lets u).length≤200) (hz:NZ p q (csR u)) (hd:Dom p q (csR u)) (B:Nat) (a0:XO) (h0:RO p q u B a0):V P 0 (.block 0 (.loop zywk)) (z2pk P 0 zvuy (OvK [.tmp 4] (.bool (comB p q)))) (sO p q u B a0):=by
 refine z3mo (ztbr (sO p q u B) (fun a=>201-a.n) (RO p q u B) a0 (z515 (by simp (disch:=first|omega|simp<;>omega|fail) [-zA,-zB,-zC,-zD,-zE,sO,z3g7]) (by simp (disch:=first|omega|simp<;>omega|fail) [-zA,-zB,-zC,-zD,-zE,sO,z3g7])) h0 (fun y hy => ?_))
 obtain ⟨n,G,h⟩:=y
 obtain ⟨r1,r2,r3⟩:=hy
 simp only at r1 r2 r3
 have hI:=z35k p q hp hq hz n
 have hlen:=ztqr r3.lo
 have hLb:(layN p q (csR u) n).2.length≤161604:=by have h1:=hI.cl.le; have h2:=hI.cl.ci.len hp hq; omega
 simp only [sO,z3g7,zywk]
 by_cases hn:n<200∧(layN p q (csR u) n).2≠[]
 ·obtain ⟨hn,hne⟩:=hn
  have hn':(n:Int)<200:=by omega
  have hpos:0<(layN p q (csR u) n).2.length:=List.length_pos_iff.2 hne
  have hpos':(0:Int)<(layN p q (csR u) n).2.length:=by omega
  refine zbn1 (V_W mix z43l ?_)
  simp (disch:=first|omega|simp<;>omega|fail) [-zA,-zB,-zC,-zD,-zE,hn',hn,hlen,hpos,hpos']
  refine zbn1 (z3mo ?_)
  refine zbn1 (V_W mix z43l ?_)
  simp (disch:=first|omega|simp<;>omega|fail) [-zA,-zB,-zC,-zD,-zE]
  refine zbn1 (zbn1 (V_W mix z43l ?_))
  simp (disch:=first|omega|simp<;>omega|fail) [-zA,-zB,-zC,-zD,-zE]
  have hstep:(layN p q (csR u) n).2.foldl (mvs p q (csR u)) ((layN p q (csR u) n).1,[])=layN p q (csR u) (n+1):=rfl
  have hmid:=z2xc p q hp hq u hls B G (layN p q (csR u) n).1 (layN p q (csR u) n).2 (by omega) ⟨hI.cl.ci,by simp⟩ (fun x hx=>z49r hI.cl.ci (hI.len x hx).1) h (.int .i64 n) r3.mo r3.lo
  rw [hstep] at hmid
  refine zqfd (st':=zqpn (pV p) (pV q) (byV (lets u)) (.mapv B) (lV G (layN p q (csR u) n).2) (.int .i64 n) (lV 0 []) (.int .i64 0) h) (z515 (by simp (disch:=first|omega|simp<;>omega|fail) [-zA,-zB,-zC,-zD,-zE,zqpn,zg8e]) (by simp (disch:=first|omega|simp<;>omega|fail) [-zA,-zB,-zC,-zD,-zE,zqpn])) ?_
  refine zftn (fun e s ⟨he,G2,h2,l2,hw⟩ => ?_) hmid
  subst he
  simp only [zd2q]
  refine zqfd (hw _) ?_
  have hlk:=zlaq (layN p q (csR u) (n+1)).1 (gQ p q)
  have hmo:=l2.mo
  simp only [qK,gQ] at hlk
  have hcast:((3:Nat):Int)=3:=rfl
  rw [hcast] at hlk
  simp only [zqpn]
  have b3 : ∀ a b:Int,zvnk [DV.int .i64 0,.int .i64 0,.int .i64 0] [(0,1,.int .i64 a),(1,1,.int .i64 b),(2,1,.int .i64 3)]=some (.agg [.int .i64 a,.int .i64 b,.int .i64 3]):=fun a b=>zlwt
  have hgq:((p.length,q.length,3):Q)=gQ p q:=rfl
  rw [hgq] at hlk
  cases hg:getC (layN p q (csR u) (n+1)).1 (gQ p q) with
  | some v =>
   have hmem:=zfzm (C:=(layN p q (csR u) (n+1)).1) (x:=gQ p q) (by rw [hg]; rfl)
   have hov:comB p q=true:=by
    obtain ⟨m,hm,h'⟩:=(zfqe p q hp hq hz (n+1) _).1 hmem
    exact zeiw ((z1mn hp hq hz hd).1 ⟨m,by omega,h'⟩)
   rw [hg] at hlk
   refine zbn1 (V_W mix z43l ?_)
   simp (disch:=first|omega|simp<;>omega|fail) [-zA,-zB,-zC,-zD,-zE,pV,b3,hmo,hlk,lkD,z9c8,z7cj,hov]
  | none =>
   have hno:gQ p q ∉ kC (layN p q (csR u) (n+1)).1:=zcii.1 hg
   rw [hg] at hlk
   refine zbn1 (V_W mix z43l ?_)
   simp (disch:=first|omega|simp<;>omega|fail) [-zA,-zB,-zC,-zD,-zE,pV,b3,hmo,hlk,lkD,z9c8]
   refine V_W mix z43l ?_
   simp (disch:=first|omega|simp<;>omega|fail) [-zA,-zB,-zC,-zD,-zE]
   refine V_W mix z43l ?_
   simp (disch:=first|omega|simp<;>omega|fail) [-zA,-zB,-zC,-zD,-zE]
   exact ⟨⟨n+1,G2,h2⟩,z515 (by simp (disch:=first|omega|simp<;>omega|fail) [-zA,-zB,-zC,-zD,-zE,sO,z3g7,pV]) (by simp (disch:=first|omega|simp<;>omega|fail) [-zA,-zB,-zC,-zD,-zE,sO,z3g7]),by simp only; omega,⟨by simp only; omega,hno,l2⟩⟩
 ·have hov:comB p q=false:=by
   refine z9w5 fun hc => ?_
   obtain ⟨m,hm,h'⟩:=(z1mn hp hq hz hd).2 hc
   apply r2
   by_cases e:n=200
   ·subst e
    exact (zfqe p q hp hq hz 200 _).2 ⟨m,hm,h'⟩
   ·have he:(layN p q (csR u) n).2=[]:=Classical.byContradiction fun q'=>hn ⟨by omega,q'⟩
    by_cases hmn:m≤n
    ·exact (zfqe p q hp hq hz n _).2 ⟨m,hmn,h'⟩
    ·obtain ⟨k,rfl⟩ : ∃ k,m=n+k:=⟨m-n,by omega⟩
     rw [(zbj6 he k).1] at h'
     simp at h'
  by_cases e:n<200
  ·have he:(layN p q (csR u) n).2=[]:=Classical.byContradiction fun q'=>hn ⟨e,q'⟩
   have e':(n:Int)<200:=by omega
   rw [he] at hlen
   refine zbn1 (V_W mix z43l ?_)
   simp (disch:=first|omega|simp<;>omega|fail) [-zA,-zB,-zC,-zD,-zE,e,e',he,hlen]
   refine V_W mix z43l ?_
   simp (disch:=first|omega|simp<;>omega|fail) [-zA,-zB,-zC,-zD,-zE,zvuy,z7cj,hov]
  ·have e':¬ (n:Int)<200:=by omega
   refine zbn1 (V_W mix z43l ?_)
   simp (disch:=first|omega|simp<;>omega|fail) [-zA,-zB,-zC,-zD,-zE,e,e']
   refine V_W mix z43l ?_
   simp (disch:=first|omega|simp<;>omega|fail) [-zA,-zB,-zC,-zD,-zE,zvuy,z7cj,hov]
theorem z369 (s t:List UInt8) (hb:s.length+t.length≤100):Am.Sem P 15 [.str s,.str t] (.bool (ovrB s t)):=by
 cases hp:zfn1 s with
 | none =>
  have hd:ovrB s t=false:=by unfold ovrB; rw [hp]
  rw [hd]
  refine znz9 Tryd.func15 zz37 (V_W mix z43l ?_)
  cases hq:zfn1 t with
  | none=>simp (disch:=first|omega|simp<;>omega|fail) [-zA,-zB,-zC,-zD,-zE,a15,z0ck,zk5k,z8r4,hp,hq,zoby]
  | some q=>simp (disch:=first|omega|simp<;>omega|fail) [-zA,-zB,-zC,-zD,-zE,a15,z0ck,zk5k,z8r4,hp,hq,zoby]
 | some p =>
  cases hq:zfn1 t with
  | none =>
   have hd:ovrB s t=false:=by unfold ovrB; rw [hp,hq]
   rw [hd]
   refine znz9 Tryd.func15 zz37 (V_W mix z43l ?_)
   simp (disch:=first|omega|simp<;>omega|fail) [-zA,-zB,-zC,-zD,-zE,a15,z0ck,zk5k,z8r4,hp,hq,zoby]
  | some q =>
   have hd:ovrB s t=comB p q:=by unfold ovrB; rw [hp,hq]
   have lp:=zxnm hp
   have lq:=zxnm hq
   have hu:(s++t).length≤100:=by simp; omega
   have hzs:noZ (s++t)=true:=by
    rw [z2u1]
    have a1:noZ s=true:=by unfold zfn1 at hp; split at hp
                   ·rename_i g; exact g.2.2
                   ·simp at hp
    have a2:noZ t=true:=by unfold zfn1 at hq; split at hq
                   ·rename_i g; exact g.2.2
                   ·simp at hq
    rw [a1,a2]; rfl
   have hz:=zc8i hu hzs p q
   have hdm:Dom p q (csR (s++t)):=zuyd hu (fun c hc=>by
    obtain ⟨x,hx,e⟩:=zxh0 hp hc
    exact ⟨x,List.mem_append_left _ hx,e⟩) (fun c hc=>by
    obtain ⟨x,hx,e⟩:=zxh0 hq hc
    exact ⟨x,List.mem_append_right _ hx,e⟩)
   have hll:=(zlm1 hu).2.2.2.2
   rw [hd]
   refine znz9 Tryd.func15 zz37 (zftn (OvK.pure rfl) ?_)
   simp only [a15]
   refine zbn1 (V_W mix z43l ?_)
   simp (disch:=first|omega|simp<;>omega|fail) [-zA,-zB,-zC,-zD,-zE]
   refine zbn1 (V_W mix z43l ?_)
   simp (disch:=first|omega|simp<;>omega|fail) [-zA,-zB,-zC,-zD,-zE,z0ck,zk5k,z8r4,hp,zoby]
   refine zbn1 (V_W mix z43l ?_)
   simp (disch:=first|omega|simp<;>omega|fail) [-zA,-zB,-zC,-zD,-zE,z0ck,zk5k,z8r4,hq,zoby]
   refine zbn1 (V_W mix z43l ?_)
   simp (disch:=first|omega|simp<;>omega|fail) [-zA,-zB,-zC,-zD,-zE]
   refine zbn1 (V_W mix z43l ?_)
   simp (disch:=first|omega|simp<;>omega|fail) [-zA,-zB,-zC,-zD,-zE,zdki,z6gc hb,letV]
   refine zh35 (l1:=[]) (fun e t h h' q=>⟨q.out⟩) ?_
   intro b hb2
   clear hb2
   refine zeh9 z43l ?_
   simp (disch:=first|omega|simp<;>omega|fail) [-zA,-zB,-zC,-zD,-zE]
   have h0:CL p.length q.length ([],[]):=⟨⟨fun e he=>by simp at he,by simp⟩,by simp⟩
   obtain ⟨G',k,c1,c2,c3⟩:=znzs p q lp lq b fu [] [] oQ (oQ,0#8) [.mapo b []] 0 (by unfold fu oQ; simp only; omega) ⟨by simp [oQ],by simp [oQ],by simp [oQ]⟩ h0 ⟨by simp [zfel,sM],fun e=>absurd rfl e⟩
   have e0:vis p q fu [] [] oQ (oQ,0#8)=layN p q (csR (s++t)) 0:=rfl
   rw [e0] at c1 c2
   obtain ⟨TA,fA,sA,a1,a2,a3⟩:=exTH z43l c1
   have b3:zvnk [DV.int .i64 0,.int .i64 0,.int .i64 0] [(0,1,.int .i64 0),(1,1,.int .i64 0),(2,1,.int .i64 0)]=some (.agg [.int .i64 0,.int .i64 0,.int .i64 0]):=rfl
   simp only [qC,oQ,zg8e,Int.natCast_zero,pV] at a2
   refine zbn1 (V_W mix sA ?_)
   simp (disch:=first|omega|simp<;>omega|fail) [-zA,-zB,-zC,-zD,-zE,b3,a1,a2]
   refine zbn1 (zbn1 (V_W mix z43l ?_))
   simp (disch:=first|omega|simp<;>omega|fail) [-zA,-zB,-zC,-zD,-zE]
   refine zqfd (st':=sO p q (s++t) b ⟨0,G',k⟩) (z515 (by simp (disch:=first|omega|simp<;>omega|fail) [-zA,-zB,-zC,-zD,-zE,sO,z3g7,pV,byV]) (by simp (disch:=first|omega|simp<;>omega|fail) [-zA,-zB,-zC,-zD,-zE,sO,z3g7])) ?_
   exact znsi p q lp lq (s++t) hll hz hdm b ⟨0,G',k⟩ ⟨by simp,z5hh lp lq,c2⟩
end Go.Proofs.YtaihpefemjlilaaDoor
set_option linter.unusedSimpArgs false
set_option linter.unusedVariables false
namespace Go.Proofs.YtaihpefemjlilaaDoor
open Go Go.Am
theorem z8nr {p q:List Pt} (hp:p.length≤200) (hq:q.length≤200) (lp:Lz p) (lq:Lz q) {w:List UInt8} (h:ovP p q=some w):Com p q∧Fnd p q w:=by
 unfold ovP at h
 obtain ⟨n,h1,rfl⟩:=Option.map_eq_some_iff.1 h
 obtain ⟨_,h2,h3⟩:=z5fn 201 0 h1
 have h3':gQ p q ∈ (layN p q chP n).2:=of_decide_eq_true h3
 have hz:=z3f2 lp lq
 exact ⟨(z1mn hp hq hz (zxl6 p q)).1 ⟨n,by omega,h3'⟩,z5xa hp hq hz (by omega) h3'⟩
theorem zidu {p q:List Pt} (hp:p.length≤200) (hq:q.length≤200) (lp:Lz p) (lq:Lz q) (h:ovP p q=none):¬ Com p q:=by
 unfold ovP at h
 rw [Option.map_eq_none_iff] at h
 intro hc
 obtain ⟨m,hm,h'⟩:=(z1mn hp hq (z3f2 lp lq) (zxl6 p q)).2 hc
 have:=zriv 201 0 h m (Nat.zero_le _) (by omega)
 exact of_decide_eq_false this h'
theorem zr81 (s t:List UInt8):match ovD s t with
  | some w=>ovrB s t=true∧zenh s w=true∧zenh t w=true
  | none=>ovrB s t=false:=by
 unfold ovD ovrB
 cases hp:zfn1 s with
 | none=>rfl
 | some p =>
  cases hq:zfn1 t with
  | none=>rfl
  | some q =>
   have lp:=zxnm hp
   have lq:=zxnm hq
   cases h:ovP p q with
   | none=>simp only [h]; exact z9w5 (zidu lp lq (z590 hp) (z590 hq) h)
   | some w =>
    simp only [h]
    obtain ⟨h1,h2⟩:=z8nr lp lq (z590 hp) (z590 hq) h
    refine ⟨zeiw h1,?_,?_⟩
    ·unfold zenh; rw [hp]; simp only [h2.a,h2.c,Bool.and_self]
    ·unfold zenh; rw [hq]; simp only [h2.b,h2.c,Bool.and_self]
noncomputable def cOvr:List DV→Option DV:=con (fun a:List UInt8 × List UInt8=>a.1.length+a.2.length≤100) (fun a=>[.str a.1,.str a.2]) (fun a => .bool (ovrB a.1 a.2))
theorem z14i {s t:List UInt8} (h:s.length+t.length≤100):cOvr [.str s,.str t]=some (.bool (ovrB s t)) :=
 z400 (A:=fun a:List UInt8 × List UInt8=>a.1.length+a.2.length≤100) (a:=(s,t)) (f:=fun a=>[.str a.1,.str a.2]) (g:=fun a => .bool (ovrB a.1 a.2)) (by
  rintro ⟨a,b⟩ ⟨c,d⟩ _ _ e
  simp only [List.cons.injEq,DV.str.injEq,and_true] at e
  obtain ⟨rfl,rfl⟩:=e; rfl) h
def ovB (s t:List UInt8):DV:=ovV (ovD s t)
def mtB (p s:List UInt8):DV := .bool (zenh p s)
noncomputable def TAw:Tbl:=addT 42 (.pure (cSS mtB)) (addT 24 (.pure (cS za1j)) tbl0)
theorem zs9y:TAw 42 = .pure (cSS mtB):=by simp [TAw]
theorem zc3x:TAw 24 = .pure (cS za1j):=by simp [TAw]
theorem zqe8:TAw.Sound P :=
 z0rp (zd7v fun p s=>zljw mix zy0e Tryd.func42 zl17 (z3jz p s))
 (z0rp (zzn8 fun p=>zljw mix zhpa Tryd.func24 zcoa (zqqw p)) zr5o)
theorem awk1:zenh [115,114,99,47,42,46,99] [115,114,99,47,97,46,99]=true:=by decide +kernel
theorem awk2:zenh [115,114,99,47,42,46,99] [115,114,99,47,120,47,97,46,99]=false:=by decide +kernel
theorem awk3:zj1f [97,47,98]=true:=by decide +kernel
theorem z681:Runs TAw a16 [] (.bool true):=by
 refine ⟨?_⟩
 simp (disch:=first|omega|simp<;>omega|fail) [-zA,-zB,-zC,-zD,-zE,a16,zs9y,zc3x,z5o0,zk5k,mtB,za1j,awk1,awk2,awk3]
def cTr:List DV→Option DV
 | []=>some (.bool true)|_=>none
theorem zjnj:cTr []=some (.bool true):=rfl
theorem zdan {f:Nat} (h:Am.Sem P f [] (.bool true)):(Con.pure cTr).Sound P f:=by
 intro args v e
 unfold cTr at e
 split at e
 ·simp at e; subst e; exact h
 ·simp at e
end Go.Proofs.YtaihpefemjlilaaDoor
set_option linter.unusedSimpArgs false
set_option linter.unusedVariables false
namespace Go.Proofs.YtaihpefemjlilaaDoor
open Go Go.Am
noncomputable def TZ:Tbl:=addT 16 (.pure cTr) (addT 14 (.pure (cSS ovB)) (addT 15 (.pure cOvr) (addT 17 (.pure (cSS mtB)) tbl0)))
theorem z0cx:TZ 16 = .pure cTr:=by simp [TZ]
theorem zgg2:TZ 14 = .pure (cSS ovB):=by simp [TZ]
theorem z5ct:TZ 15 = .pure cOvr:=by simp [TZ]
theorem zg2f:TZ 17 = .pure (cSS mtB):=by simp [TZ]
theorem zejn:TZ.Sound P :=
 z0rp (zdan (zljw mix zqe8 Tryd.func16 zddi z681))
 (z0rp (zd7v fun s t=>ze35 s t)
 (z0rp (z2au fun a h=>z369 a.1 a.2 h)
 (z0rp (zd7v fun p s=>zljw mix zx50 Tryd.func17 zcaf (zfpx p s)) zr5o)))
theorem zg9p (p q:List UInt8):Runs TZ a4 [.str p,.str q] (.bool true):=by
 refine ⟨?_⟩
 by_cases h1:24<p.length
 ·have h1':(24:Int)<p.length:=by omega
  simp (disch:=first|omega|simp<;>omega|fail) [-zA,-zB,-zC,-zD,-zE,a4,h1,h1']
 have h1':¬ (24:Int)<p.length:=by omega
 by_cases h2:24<q.length
 ·have h2':(24:Int)<q.length:=by omega
  simp (disch:=first|omega|simp<;>omega|fail) [-zA,-zB,-zC,-zD,-zE,a4,h1,h1',h2,h2']
 have h2':¬ (24:Int)<q.length:=by omega
 have hb:p.length+q.length≤100:=by omega
 have ho:=z14i hb
 have hs:=zr81 p q
 cases h:ovD p q with
 | none =>
  rw [h] at hs
  simp only at hs
  simp (disch:=first|omega|simp<;>omega|fail) [-zA,-zB,-zC,-zD,-zE,a4,h1,h1',h2,h2',zgg2,z5o0,ovB,h,ovV,z5ct,ho,hs,z0cx,zjnj]
 | some w =>
  rw [h] at hs
  obtain ⟨k1,k2,k3⟩:=hs
  simp (disch:=first|omega|simp<;>omega|fail) [-zA,-zB,-zC,-zD,-zE,a4,h1,h1',h2,h2',zgg2,z5o0,ovB,h,ovV,z5ct,ho,k1,z0cx,zjnj,zg2f,mtB,k2,k3]
end Go.Proofs.YtaihpefemjlilaaDoor
namespace Go.Proofs.YtaihpefemjlilaaDoor.patternOverlaps
open Go.ChangeShapes Go.WideShapes Go.ChangeAt Go.RowKit Go.Am
theorem law_holds (dvs:List DV) (h:Ty.Args [.str,.str] dvs):Am.Sem P 4 dvs (.bool true):=by
 obtain ⟨p,q,rfl⟩:=z612 h
 exact zljw mix zejn Tryd.func4 zn8d (zg9p p q)
end Go.Proofs.YtaihpefemjlilaaDoor.patternOverlaps
