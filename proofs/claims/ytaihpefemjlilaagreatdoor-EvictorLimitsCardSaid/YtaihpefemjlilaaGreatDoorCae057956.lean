/-
  13 texts of mine in one.
-/
import Derived.Test.YtaihpefemjlilaaGreatDoorCd62ad478
import Derived.Test.YtaihpefemjlilaaGreatDoorCac4878f9
import Derived.Test.YtaihpefemjlilaaGreatDoorC789d9038
import Derived.Test.YtaihpefemjlilaaGreatDoorCe648326b
import Derived.Test.YtaihpefemjlilaaGreatDoorCe5973b22
import Derived.Test.YtaihpefemjlilaaGreatDoorCcccf210b
import Derived.Test.YtaihpefemjlilaaGreatDoorCcb084503
import Derived.Test.YtaihpefemjlilaaGreatDoorCb20dd230
set_option maxRecDepth 20000
set_option maxHeartbeats 4000000
open List renaming map_take → zA, map_drop → zB, map_set → zC, map_append → zD, drop_one → zE
open Bool renaming and_eq_true → y0f, and_self → y0u
open Int renaming toNat_natCast → y0c
open List renaming getElem?_eq_getElem → y00, mem_append → y01, filter_cons → y02, append_assoc → y04, mem_of_mem_take → y05, append_nil → y06, getElem_of_mem → y07, mem_map → y08, getElem_mem → y09, pairwise_iff_getElem → y0a, filter_eq_self → y0b, pairwise_append → y0d, length_cons → y0e, take_of_length_le → y0g, map_cons → y0h, length_take → y0i, mem_reverse → y0j, mem_filter → y0k, map_append → y0l, map_congr_left → y0m, getElem_of_eq → y0n, filter_filter → y0o, pairwise_singleton → y0p, foldl_cons → y0q, getElem?_eq_none → y0s, length_filter_le → y0t, filter_sublist → y0v
open Nat renaming le_refl → y03, zero_le → y0r
namespace Go.Proofs.YtaihpefemjlilaaGreatDoor
section
set_option linter.unusedSimpArgs false
set_option linter.unusedVariables false
set_option maxRecDepth 20000
open Go Go.Am
def trV (l:List Tri):DV:=if l=[] then .nils else .sl false 35 l.length (l.flatMap trC)
theorem znen (l:List Tri):zyp8 (trV l)=true:=by
 unfold trV
 split
 ·rfl
 ·simp only [zyp8]; exact zp6k z1zd l
def triS (t:Tp) (c:Clu):Nat→Tp × List Tri
 | 0=>(t,[])
 | m+1=>match c.g.l[m / 3]? with
  | some g=>if dgB (((m % 3:Nat):Int)+1) ∈ g.ch.l then
    (if tpN (triS t c m).1 3=0 then (((triS t c m).1).adv 3,(triS t c m).2++[⟨(m / 3:Nat),dgB (((m % 3:Nat):Int)+1),1+tpN (((triS t c m).1).adv 1) 4,tpN (((triS t c m).1).adv 2) 40⟩])
     else (((triS t c m).1).adv 1,(triS t c m).2)) else triS t c m
  | none=>triS t c m
theorem zso0 {t:Tp} {c:Clu} : ∀ m,(triS t c m).1.at_≤t.at_+3*m∧(triS t c m).2.length≤m
 | 0=>by simp [triS]
 | m+1=>by
  have ih:=zso0 (t:=t) (c:=c) m
  unfold triS
  split
  ·split
   ·split
    ·simp only [Tp.adv,List.length_append,List.length_singleton]; omega
    ·simp only [Tp.adv]; omega
   ·omega
  ·omega
def HT (u:Tp) (c:Clu) (L:List Tri):List AObj := .cells (tpC u) :: .cells (clC c)::oT trC L
section
variable {u u':Tp} {c:Clu} {L:List Tri} {X:List AObj}
theorem zglr:objV (HT u c L) 0 2=some (tpC u):=rfl
theorem HT_a:ziu0 (HT u c L) 0=some (tpC u):=rfl
theorem zjbe:objV (HT u c L) 1 3=some (clC c):=rfl
theorem zxru:(HT u c L).set 0 (.cells (tpC u'))=HT u' c L:=rfl
theorem z8by {y:Tri} (hb:L.length+1≤4294967296):appX (HT u c L) 35 56 (oV 2 35 L) 1 (trC y)=some (oV 2 35 (L++[y]),HT u c (L++[y])) :=
 zte0 (k:=2) (K:=35) (b:=56) (f:=trC) (l:=L) (x:=y) (h:=[.cells (tpC u),.cells (clC c)]) rfl zezj (by decide) (by decide) zms9 hb
theorem znca:(HT u c L).length=2+(oT trC L).length:=by simp [HT]; omega
theorem zygd:zlf2 (HT u c L).length (HT u c L)=true:=by
 show zlf2 _ ([.cells (tpC u),.cells (clC c)]++oT trC L)=true
 refine zrlz ?_ (zd81 z1zd)
 simp only [zlf2,zmq5 _ _ (zs7w u),zmq5 _ _ (zy11 c),y0u]
theorem zb15:Am.below (HT u c L).length (oV 2 35 L)=true:=by
 have:=zv6o (k:=2) (K:=35) (f:=trC) (l:=L)
 rw [znca]; exact this
theorem z4xe:mk1 (kLt 1) (HT u c L) (oV 2 35 L)=trV L:=by
 by_cases e:L=[]
 ·subst e; exact zhx5
 ·unfold trV
  rw [zpni e,if_neg e]
  refine zwy6 ?_
  rw [zi9r,if_neg (by simp [kLt])]
  have ho:objV (HT u c L) 2 (L.length*35)=some (fl trC L):=by
   unfold HT
   rw [zu2l e]
   simp [objV,ziu0,z8lx zezj]
  rw [ho,Option.bind_some,List.drop_zero]
  have ht:(fl trC L).take (L.length*35)=L.flatMap trC:=y0g (by rw [z8lx zezj]; omega)
  rw [ht,zl6f (zp6k z1zd L)]; rfl
end
noncomputable def zy43:Tbl:=addT 13 (.tch z1m3) (addT 50 (.pure cHas) tbl0)
theorem zrmg:zy43 13 = .tch z1m3:=by simp [zy43]
theorem zzv3:zy43 50 = .pure cHas:=by simp [zy43]
theorem zpan:zy43.Sound P:=z0rp z51e (z0rp zi6e zr5o)
theorem z5gt {z:List DV} {a f e:Int} {d:Dg} (hz:z.length=35):zvnk z [(0,1,.int .i64 a),(1,32,.agg (dgC d)),(33,1,.int .i64 f),(34,1,.int .i64 e)]=some (.agg (trC ⟨a,d,f,e⟩)):=by
 rw [zwos (by simp [DV.known]) (by simp [seqD,DV.cells,hz,z1t1])]; simp [seqD,DV.cells,trC]
theorem zsvy {z:List DV} {x:Tri} (hz:z.length=35):bslD 35 1 z [(0,35,.agg (trC x))]=some (.sl true 35 1 (trC x)):=by
 rw [z7bw (by simp [DV.known]) (by simp [seqD,DV.cells,hz,zezj])]; simp [seqD,DV.cells,zezj]
def zsl6 (t:Tp) (c:Clu) (i k m:Nat):St:=zcq1 (.mp 0 2 0) (.mp 1 3 0) (oV 2 35 (triS t c m).2) (.int .i64 i) (.int .i64 k) (HT (triS t c m).1 c (triS t c m).2)
def z6qg (t:Tp) (c:Clu) (i:Nat):St:=zuzy (.mp 0 2 0) (.mp 1 3 0) (oV 2 35 (triS t c (3*i)).2) (.int .i64 i) (HT (triS t c (3*i)).1 c (triS t c (3*i)).2)
theorem zu8w (t:Tp) (c:Clu) (ht:t.at_<4000000000) (hn:c.g.l.length≤1000):zwy1 P 40 [.mp 0 2 0,.agg (clC c)] [.cells (tpC t)] (fun d h=>d=trV (triS t c (3*c.g.l.length)).2∧h=[.cells (tpC (triS t c (3*c.g.l.length)).1)]):=by
 refine zrqk Tryz.func40 zt62 ?_
 have hbc : ∀ h,boxD h (.agg (clC c))=some (.mp h.length 3 0,h++[.cells (clC c)]):=fun h=>by rw [zn72]; rfl
 have hg1:oneC 1 false (clC c)=some (c.g.dv 6 grC):=rfl
 have hlg : ∀ H,lenD H (c.g.dv 6 grC)=some (.int .i64 c.g.l.length):=fun H=>zupj
 obtain ⟨n,hne⟩ : ∃ n,c.g.l.length=n:=⟨_,rfl⟩
 rw [hne] at hn hlg ⊢
 have hl3:(clC c).length=3:=rfl
 refine zbn1 (V_W mix zr5o ?_)
 simp (disch:=first|omega|simp<;>omega|fail) [-zA,-zB,-zC,-zD,-zE,a40,hbc]
 refine zbn1 (V_W mix zr5o ?_)
 simp (disch:=first|omega|simp<;>omega|fail) [-zA,-zB,-zC,-zD,-zE]
 refine zbn1 (zbn1 (V_W mix zr5o ?_))
 simp (disch:=first|omega|simp<;>omega|fail) [-zA,-zB,-zC,-zD,-zE]
 refine z3mo (ztbr (z6qg t c) (fun i=>n-i) (fun i=>i≤n) 0 (z515 (by simp (disch:=first|omega|simp<;>omega|fail) [-zA,-zB,-zC,-zD,-zE,z6qg,zuzy,triS,zl8p]) (by simp (disch:=first|omega|simp<;>omega|fail) [-zA,-zB,-zC,-zD,-zE,z6qg,zuzy,triS,HT,zkrk])) (y0r _) (fun i hi => ?_))
 simp only [z6qg]
 by_cases h:i<n
 case neg =>
  have h':¬ (i:Int)<n:=by omega
  obtain rfl:i=n:=by omega
  have hmk:=z4xe (u:=(triS t c (3*i)).1) (c:=c) (L:=(triS t c (3*i)).2)
  have h10:=zjbe (u:=(triS t c (3*i)).1) (c:=c) (L:=(triS t c (3*i)).2)
  have hpu:=znen (triS t c (3*i)).2
  have hHH:HT (triS t c (3*i)).1 c (triS t c (3*i)).2=[AObj.cells (tpC (triS t c (3*i)).1)]++(.cells (clC c)::oT trC (triS t c (3*i)).2):=rfl
  obtain ⟨u,hu⟩ : ∃ u,(triS t c (3*i)).1=u:=⟨_,rfl⟩
  obtain ⟨L,hL⟩ : ∃ L,(triS t c (3*i)).2=L:=⟨_,rfl⟩
  rw [hu,hL] at hmk h10 hHH
  rw [hL] at hpu
  rw [hu,hL]
  obtain ⟨H,hH⟩ : ∃ H,HT u c L=H:=⟨_,rfl⟩
  rw [hH] at hmk h10 hHH ⊢
  refine zbn1 (zbn1 (V_W mix zr5o ?_))
  simp (disch:=first|omega|simp<;>omega|fail) [-zA,-zB,-zC,-zD,-zE,z1eu,zuzy,h,h',h10,hg1,hlg]
  refine V_W mix zr5o ?_
  simp (disch:=first|omega|simp<;>omega|fail) [-zA,-zB,-zC,-zD,-zE]
  rw [hHH] at hmk ⊢
  simp only [List.cons_append,List.nil_append] at hmk
  refine z0em (n0:=1) (H:=[.cells (tpC u)]) (R := .cells (clC c)::oT trC L) (t':=js 5++[trV L]++js 42) (by simp only [zlf2,zmq5 _ _ (zs7w u),y0u]) (by simp) ?_ (by simp (disch:=first|omega|simp<;>omega|fail) [-zA,-zB,-zC,-zD,-zE,belowL,Am.below,z8b8 _ _ hpu]) ?_
  ·simp (disch:=first|omega|simp<;>omega|fail) [-zA,-zB,-zC,-zD,-zE,hmk,-z1bt,-zdpe]
  refine zbn1 (V_W mix zr5o ?_)
  simp (disch:=first|omega|simp<;>omega|fail) [-zA,-zB,-zC,-zD,-zE]
  refine V_W mix zr5o ?_
  simp (disch:=first|omega|simp<;>omega|fail) [-zA,-zB,-zC,-zD,-zE,a40]
 have h':(i:Int)<n:=by omega
 have hlt:i<c.g.l.length:=by omega
 have hG : ∀ H,zpsc H 6 (c.g.dv 6 grC) i=some (.ref (grC c.g.l[i])):=fun H=>zalo zry4 hlt
 have hgi:c.g.l[i]? = some c.g.l[i]:=y00 hlt
 obtain ⟨g,hge⟩ : ∃ g,c.g.l[i]=g:=⟨_,rfl⟩
 rw [hge] at hG hgi
 have h10:=zjbe (u:=(triS t c (3*i)).1) (c:=c) (L:=(triS t c (3*i)).2)
 refine zbn1 (zbn1 (V_W mix zr5o ?_))
 simp (disch:=first|omega|simp<;>omega|fail) [-zA,-zB,-zC,-zD,-zE,z1eu,zuzy,h,h',h10,hg1,hlg]
 refine V_W mix zr5o ?_
 simp (disch:=first|omega|simp<;>omega|fail) [-zA,-zB,-zC,-zD,-zE]
 refine zbn1 (z3mo (zbn1 (V_W mix zr5o ?_)))
 simp (disch:=first|omega|simp<;>omega|fail) [-zA,-zB,-zC,-zD,-zE]
 refine z3mo (ztbr (fun k=>zsl6 t c i (k+1) (3*i+k)) (fun k=>3-k) (fun k=>k≤3) 0 (z515 (by simp (disch:=first|omega|simp<;>omega|fail) [-zA,-zB,-zC,-zD,-zE,zsl6,zcq1]) (by simp (disch:=first|omega|simp<;>omega|fail) [-zA,-zB,-zC,-zD,-zE,zsl6,zcq1])) (y0r _) (fun k hk => ?_))
 simp only [zsl6]
 by_cases q:k<3
 case neg =>
  obtain rfl:k=3:=by omega
  refine zbn1 (zbn1 (V_W mix zr5o ?_))
  simp (disch:=first|omega|simp<;>omega|fail) [-zA,-zB,-zC,-zD,-zE,zb4u,zcq1]
  refine V_W mix zr5o ?_
  simp (disch:=first|omega|simp<;>omega|fail) [-zA,-zB,-zC,-zD,-zE]
  refine V_W mix zr5o ?_
  simp (disch:=first|omega|simp<;>omega|fail) [-zA,-zB,-zC,-zD,-zE]
  refine ⟨i+1,z515 (by simp (disch:=first|omega|simp<;>omega|fail) [-zA,-zB,-zC,-zD,-zE,z6qg,zuzy,Nat.mul_add]) (by simp (disch:=first|omega|simp<;>omega|fail) [-zA,-zB,-zC,-zD,-zE,z6qg,zuzy,Nat.mul_add]),by omega,by omega⟩
 have q':(k:Int)+1≤3:=by omega
 obtain ⟨m,hm⟩ : ∃ m,3*i+k=m:=⟨_,rfl⟩
 have hm1:3*i+(k+1)=m+1:=by omega
 have hm3:m / 3=i:=by omega
 have hmk:m % 3=k:=by omega
 rw [hm]
 have hle:=zso0 (t:=t) (c:=c) m
 have hst:triS t c (m+1)=if dgB ((k:Int)+1) ∈ g.ch.l then
    (if tpN (triS t c m).1 3=0 then (((triS t c m).1).adv 3,(triS t c m).2++[⟨(i:Nat),dgB ((k:Int)+1),1+tpN (((triS t c m).1).adv 1) 4,tpN (((triS t c m).1).adv 2) 40⟩])
     else (((triS t c m).1).adv 1,(triS t c m).2)) else triS t c m:=by
  conv=>lhs; unfold triS
  rw [hm3,hgi,hmk]
 obtain ⟨T,hT⟩ : ∃ T,triS t c m=T:=⟨_,rfl⟩
 rw [hT] at hst hle ⊢
 obtain ⟨u,L⟩:=T
 simp only at hst hle ⊢
 obtain ⟨d,hd⟩ : ∃ d,dgB ((k:Int)+1)=d:=⟨_,rfl⟩
 have hbd:zvnk (dgC dg0) [(0,1,w8 (BitVec.ofInt 8 ((k:Int)+1)))]=some (.agg (dgC (dgB ((k:Int)+1)))):=z7ni
 rw [hd] at hst hbd
 have hsd : ∀ (h:List AObj) (id:Nat) (e:Dg),zy6o h id 32 0 (.agg (dgC d)) (some (dgC e))=some (.junk,h.set id (.cells (dgC d))):=fun h id e=>zfc1 (z1t1 _) (z1t1 _) (by simp [dgC,zzst])
 have h1d : ∀ d,oneC 32 true (dgC d)=some (.agg (dgC d)):=fun d=>by simp [oneC,z1t1,y0g]
 have H00:=zglr (u:=u) (c:=c) (L:=L)
 have Ha:=HT_a (u:=u) (c:=c) (L:=L)
 have H10:=zjbe (u:=u) (c:=c) (L:=L)
 have Hset:=fun u'=>zxru (u:=u) (u':=u') (c:=c) (L:=L)
 have Hb:=zygd (u:=u) (c:=c) (L:=L)
 have HoV:=zb15 (u:=u) (c:=c) (L:=L)
 have Hl:=znca (u:=u) (c:=c) (L:=L)
 have e2 : ∀ h,mk1 (kLt (HT u c L).length) h (oV 2 35 L)=oV 2 35 L:=fun h=>zd3c HoV
 have e3 : ∀ h,mk1 (kLt (HT u c L).length) h (.mp 0 2 0) = .mp 0 2 0:=fun h=>zd3c (by simp only [Am.below,decide_eq_true_eq]; omega)
 have e4 : ∀ h,mk1 (kLt (HT u c L).length) h (.mp 1 3 0) = .mp 1 3 0:=fun h=>zd3c (by simp only [Am.below,decide_eq_true_eq]; omega)
 have ec:=zz5t (H:=HT u c L) (cs:=dgC d) (off:=0) (z3ot d)
 rw [z1t1,List.drop_zero] at ec
 have hN1:=z44h (t:=u) (n:=3) (by omega) (by decide) (by decide)
 have hcH:=zqi6 (x:=g.ch) (d:=d)
 have hnn:1≤(HT u c L).length:=by omega
 have hlt0:0<(HT u c L).length:=by omega
 have hlt1:1<(HT u c L).length:=by omega
 obtain ⟨H,hH⟩ : ∃ H,HT u c L=H:=⟨_,rfl⟩
 rw [hH] at H00 Ha H10 Hset Hb HoV Hl e2 e3 e4 ec hnn hlt0 hlt1 ⊢
 refine zbn1 (zbn1 (V_W mix zr5o ?_))
 simp (disch:=first|omega|simp<;>omega|fail) [-zA,-zB,-zC,-zD,-zE,zb4u,zcq1,q']
 refine V_W mix zr5o ?_
 simp (disch:=first|omega|simp<;>omega|fail) [-zA,-zB,-zC,-zD,-zE]
 refine zbn1 (z3mo (zbn1 (V_W mix zr5o ?_)))
 simp (disch:=first|omega|simp<;>omega|fail) [-zA,-zB,-zC,-zD,-zE,hbd,z4hl,hsd,z1t1]
 refine zs10 (n0:=1) (H:=H) (cs:=dgC d) (t':=[.mp 0 2 0,.junk,.junk,.mp 1 3 0,.junk,oV 2 35 L,.int .i64 i,.int .i64 ((k:Int)+1),.ref (dgC d)]++js 39) Hb hnn ?_ (by simp (disch:=first|omega|simp<;>omega|fail) [-zA,-zB,-zC,-zD,-zE,belowL,Am.below,HoV,hlt0,hlt1,zmq5 _ _ (z3ot d)]) ?_
 ·simp (disch:=first|omega|simp<;>omega|fail) [-zA,-zB,-zC,-zD,-zE,ec,e2,e3,e4,-z1bt,-zdpe]
 refine zbn1 (V_W mix zpan ?_)
 by_cases hmem:d ∈ g.ch.l
 case neg =>
  rw [if_neg hmem] at hst
  simp (disch:=first|omega|simp<;>omega|fail) [-zA,-zB,-zC,-zD,-zE,H10,hg1,hG,grC,h1d,zzv3,hcH,z3ot,hmem]
  refine V_W mix zr5o ?_
  simp (disch:=first|omega|simp<;>omega|fail) [-zA,-zB,-zC,-zD,-zE]
  refine V_W mix zr5o ?_
  simp (disch:=first|omega|simp<;>omega|fail) [-zA,-zB,-zC,-zD,-zE]
  refine ⟨k+1,z515 (by simp (disch:=first|omega|simp<;>omega|fail) [-zA,-zB,-zC,-zD,-zE,zsl6,zcq1,hm1,hst]) (by simp (disch:=first|omega|simp<;>omega|fail) [-zA,-zB,-zC,-zD,-zE,zsl6,zcq1,hm1,hst,hH]),by omega,by omega⟩
 rw [if_pos hmem] at hst
 by_cases hz:tpN u 3=0
 case neg =>
  rw [if_neg hz] at hst
  simp (disch:=first|omega|simp<;>omega|fail) [-zA,-zB,-zC,-zD,-zE,H10,hg1,hG,grC,h1d,zzv3,hcH,z3ot,hmem,zrmg,Ha,H00,hN1,Hset,hz]
  refine V_W mix zr5o ?_
  simp (disch:=first|omega|simp<;>omega|fail) [-zA,-zB,-zC,-zD,-zE]
  refine V_W mix zr5o ?_
  simp (disch:=first|omega|simp<;>omega|fail) [-zA,-zB,-zC,-zD,-zE]
  refine ⟨k+1,z515 (by simp (disch:=first|omega|simp<;>omega|fail) [-zA,-zB,-zC,-zD,-zE,zsl6,zcq1,hm1,hst]) (by simp (disch:=first|omega|simp<;>omega|fail) [-zA,-zB,-zC,-zD,-zE,zsl6,zcq1,hm1,hst]),by omega,by omega⟩
 rw [if_pos hz] at hst
 simp (disch:=first|omega|simp<;>omega|fail) [-zA,-zB,-zC,-zD,-zE,H10,hg1,hG,grC,h1d,zzv3,hcH,z3ot,hmem,zrmg,Ha,H00,hN1,Hset,hz]
 have hN2:=z44h (t:=u.adv 1) (n:=4) (by show u.at_+1<_; omega) (by decide) (by decide)
 have hN3:=z44h (t:=u.adv 2) (n:=40) (by show u.at_+2<_; omega) (by decide) (by decide)
 rw [zjmf] at hN2 hN3
 have b4:=z4rs (u.adv 1) 4
 have b4':=z2s7 (u.adv 1) (n:=4) (by decide)
 obtain ⟨f,hf⟩ : ∃ f,tpN (u.adv 1) 4=f:=⟨_,rfl⟩
 obtain ⟨a,ha⟩ : ∃ a,tpN (u.adv 2) 40=a:=⟨_,rfl⟩
 rw [hf] at hN2 hst b4 b4'
 rw [ha] at hN3 hst
 obtain ⟨y,hy⟩ : ∃ y:Tri,(⟨(i:Nat),d,1+f,a⟩:Tri)=y:=⟨_,rfl⟩
 have hbt:=fun (z:List DV) (hz:z.length=35)=>z5gt (z:=z) (a:=i) (f:=1+f) (e:=a) (d:=d) hz
 rw [hy] at hst hbt
 have hfo:DV.int .i64 (i:Int)::(dgC d++[DV.int .i64 (1+f),DV.int .i64 a])=trC y:=by rw [← hy]; rfl
 have hap:=z8by (u:=u.adv 3) (c:=c) (L:=L) (y:=y) (by omega)
 refine V_W mix zpan ?_
 simp (disch:=first|omega|simp<;>omega|fail) [-zA,-zB,-zC,-zD,-zE,h1d,zrmg,HT_a,zglr,hN2,hN3,zxru,hbt,hfo,zsvy,hap]
 refine V_W mix zr5o ?_
 simp (disch:=first|omega|simp<;>omega|fail) [-zA,-zB,-zC,-zD,-zE]
 exact ⟨k+1,z515 (by simp (disch:=first|omega|simp<;>omega|fail) [-zA,-zB,-zC,-zD,-zE,zsl6,zcq1,hm1,hst]) (by simp (disch:=first|omega|simp<;>omega|fail) [-zA,-zB,-zC,-zD,-zE,zsl6,zcq1,hm1,hst]),by omega,by omega⟩
noncomputable def cTri:List DV→List DV→Option (DV × List DV):=conT (fun a:Tp × Clu=>a.1.at_<4000000000∧a.2.g.l.length≤1000) (fun a=>[.agg (clC a.2)]) (fun a=>tpC a.1) (fun a=>(trV (triS a.1 a.2 (3*a.2.g.l.length)).2,tpC (triS a.1 a.2 (3*a.2.g.l.length)).1))
theorem zbtb {t:Tp} {c:Clu} (h1:t.at_<4000000000) (h2:c.g.l.length≤1000):cTri [.agg (clC c)] (tpC t)=some (trV (triS t c (3*c.g.l.length)).2,tpC (triS t c (3*c.g.l.length)).1) :=
 ztyo (A:=fun a:Tp × Clu=>a.1.at_<4000000000∧a.2.g.l.length≤1000) (f:=fun a=>[.agg (clC a.2)]) (s:=fun a=>tpC a.1) (by
  rintro ⟨a,n⟩ ⟨b,m⟩ e1 e2
  simp only [List.cons.injEq,DV.agg.injEq,and_true] at e1
  rw [zh7t e1,z15z e2]) (t,c) ⟨h1,h2⟩
theorem zka8:(Con.tch cTri).Sound P 40 :=
 z0tq (fun a _=>⟨by simp [zbao,zyp8,zy11],zs7w _,znen _,zs7w _⟩) fun a h=>zu8w a.1 a.2 h.1 h.2
end
section
set_option linter.unusedSimpArgs false
set_option linter.unusedVariables false
set_option maxRecDepth 20000
open Go Go.Am
structure Scn where
 c:Clu
 x:List Ixe
 tr:List Tri
 gr:List Int
 t:Int
def scnC (s:Scn):List DV:=[s.c.g.dv 6 grC,s.c.i.dv 37 inC,.int .i64 s.c.next,.int .i64 0,isV s.x,trV s.tr,liV s.gr,.int .i64 s.t]
noncomputable def scnV (u:Tp):Scn × Tp :=
 let c:=(zcpt u 8).1
 let w:=(zcpt u 8).2
 let n:=3*c.g.l.length
 let w1:=w.adv n
 let w2:=(triS w1 c n).1
 let w3:=w2.adv c.i.l.length
 (⟨c,idxL w c n,(triS w1 c n).2,graL w2 c.i.l.length,30+tpN w3 20⟩,w3.adv 1)
noncomputable def z8gk:Tbl:=addT 37 (.new zl5p) (addT 38 (.tch cClu) (addT 13 (.tch z1m3) (addT 39 (.tch cIdx) (addT 40 (.tch cTri) (addT 41 (.tch cGra) tbl0)))))
theorem z9vj:z8gk 37 = .new zl5p:=by simp [z8gk]
theorem zf0m:z8gk 38 = .tch cClu:=by simp [z8gk]
theorem zkp3:z8gk 13 = .tch z1m3:=by simp [z8gk]
theorem z6jf:z8gk 39 = .tch cIdx:=by simp [z8gk]
theorem zj0z:z8gk 40 = .tch cTri:=by simp [z8gk]
theorem zdoe:z8gk 41 = .tch cGra:=by simp [z8gk]
theorem zqvq:z8gk.Sound P:=z0rp ze95 (z0rp zwvn (z0rp z51e (z0rp zkb9 (z0rp zka8 (z0rp z10g zr5o)))))
theorem zq54 (l:List Tri):(trV l).one=true:=by unfold trV; split<;>rfl
theorem zdci (l:List Tri):(trV l).cells=[trV l]:=by unfold trV; split<;>rfl
def o8 (c:Clu) (a b d e f:DV):List DV:=[c.g.dv 6 grC,c.i.dv 37 inC,.int .i64 c.next,a,b,d,e,f]
theorem o8_b {c:Clu}:zvnk [.nils,.nils,.int .i64 0,.int .i64 0,.nils,.nils,.nils,.int .i64 0] [(0,3,.agg (clC c))]=some (.agg (o8 c (.int .i64 0) .nils .nils .nils (.int .i64 0))):=rfl
section
variable {c:Clu} {a b d e f:DV} {H:List AObj} {id:Nat}
theorem z6ng (h1:a.one=true) (h2:b.one=true) (h3:d.one=true) (h4:e.one=true) (h5:f.one=true):(o8 c a b d e f).all DV.one=true:=by simp [o8,z4ja,h1,h2,h3,h4,h5]
theorem zws3 (h1:a.one=true) (h2:b.one=true) (h3:d.one=true) (h4:e.one=true) (h5:f.one=true):zy6o H id 8 0 (.agg (o8 c a b d e f)) (some [.nils,.nils,.int .i64 0,.int .i64 0,.nils,.nils,.nils,.int .i64 0])=some (.junk,H.set id (.cells (o8 c a b d e f))):=zfc1 rfl rfl (z6ng h1 h2 h3 h4 h5)
theorem o8_3:oneC 3 true (o8 c a b d e f)=some (.agg (clC c)):=rfl
theorem o8_8:oneC 8 true (o8 c a b d e f)=some (.agg (o8 c a b d e f)):=rfl
theorem z3nx {x y:DV} (h1:x.one=true) (h2:y.one=true):zy6o H id 2 3 (.agg [x,y]) (some (o8 c a b d e f))=some (.junk,H.set id (.cells (o8 c x y d e f))):=by
 have h:(DV.agg [x,y]).cells.length=2∧3+2≤(o8 c a b d e f).length∧(DV.agg [x,y]).cells.all DV.one=true:=⟨rfl,by show 5≤8; decide,by simp [DV.cells,h1,h2]⟩
 exact (if_pos h).trans rfl
theorem zo9w {x:DV} (hc:x.cells=[x]) (ho:x.one=true):zy6o H id 1 5 x (some (o8 c a b d e f))=some (.junk,H.set id (.cells (o8 c a b x e f))):=by
 rw [Am.storeO_1 hc ho (by show 5<8; decide)]; rfl
theorem zdmn {x:DV} (hc:x.cells=[x]) (ho:x.one=true):zy6o H id 1 6 x (some (o8 c a b d e f))=some (.junk,H.set id (.cells (o8 c a b d x f))):=by
 rw [Am.storeO_1 hc ho (by show 6<8; decide)]; rfl
theorem z7tb {x:DV} (hc:x.cells=[x]) (ho:x.one=true):zy6o H id 1 7 x (some (o8 c a b d e f))=some (.junk,H.set id (.cells (o8 c a b d e x))):=by
 rw [Am.storeO_1 hc ho (by show 7<8; decide)]; rfl
end
theorem zfog (x:Nl):RunsH z8gk a12 [x.dv] [] (.tup [.agg (scnC (scnV (tp0 x 300)).1),.mp 1 2 0]) [.cells (scnC (scnV (tp0 x 300)).1),.cells (tpC (scnV (tp0 x 300)).2),.cells (scnC (scnV (tp0 x 300)).1)]:=by
 refine ⟨?_⟩
 obtain ⟨u,hu⟩ : ∃ u,tp0 x 300=u:=⟨_,rfl⟩
 have hua:u.at_=0:=by rw [← hu]; rfl
 obtain ⟨hv,hg⟩:=zlnb u 8 (by decide) (by decide)
 have hn9:=zukg u 8 (by decide) (by decide)
 have hat:=z2ep u 8 (by decide) (by decide)
 have hT:=fun m=>zwy3 (x:=x) (n:=300) (by decide) m
 rw [hu] at hT
 simp only [show ((300:Nat):Int)=300 from rfl] at hT
 rw [hu]
 have hsc:scnV u=(⟨(zcpt u 8).1,idxL (zcpt u 8).2 (zcpt u 8).1 (3*(zcpt u 8).1.g.l.length),(triS ((zcpt u 8).2.adv (3*(zcpt u 8).1.g.l.length)) (zcpt u 8).1 (3*(zcpt u 8).1.g.l.length)).2,graL (triS ((zcpt u 8).2.adv (3*(zcpt u 8).1.g.l.length)) (zcpt u 8).1 (3*(zcpt u 8).1.g.l.length)).1 (zcpt u 8).1.i.l.length,30+tpN ((triS ((zcpt u 8).2.adv (3*(zcpt u 8).1.g.l.length)) (zcpt u 8).1 (3*(zcpt u 8).1.g.l.length)).1.adv (zcpt u 8).1.i.l.length) 20⟩,((triS ((zcpt u 8).2.adv (3*(zcpt u 8).1.g.l.length)) (zcpt u 8).1 (3*(zcpt u 8).1.g.l.length)).1.adv (zcpt u 8).1.i.l.length).adv 1):=rfl
 rw [hsc]
 clear hsc
 have hC:=z9dl (t:=u) (m:=8) (by omega) (by decide) (by decide)
 obtain ⟨c,hc⟩ : ∃ c,(zcpt u 8).1=c:=⟨_,rfl⟩
 obtain ⟨w,hw⟩ : ∃ w,(zcpt u 8).2=w:=⟨_,rfl⟩
 rw [hc,hw] at hC
 rw [hc] at hv hg hn9
 rw [hw] at hat
 rw [hc,hw]
 have hng:=hv.ng
 have hI:=zj2w (t:=w) (c:=c) (by omega) (by omega)
 have hpI:=zm03 (idxL w c (3*c.g.l.length))
 have hoI:=zcwq (idxL w c (3*c.g.l.length))
 obtain ⟨n,hn⟩ : ∃ n,c.g.l.length=n:=⟨_,rfl⟩
 rw [hn] at hI hng hpI hoI
 rw [hn]
 have hTr:=zbtb (t:=w.adv (3*n)) (c:=c) (by show w.at_+3*n<_; omega) (by omega)
 rw [hn] at hTr
 have htl:=zso0 (t:=w.adv (3*n)) (c:=c) (3*n)
 have hwa:(w.adv (3*n)).at_=w.at_+3*n:=rfl
 obtain ⟨T,hTe⟩ : ∃ T,triS (w.adv (3*n)) c (3*n)=T:=⟨_,rfl⟩
 rw [hTe] at hTr htl
 rw [hTe]
 obtain ⟨w2,tr⟩:=T
 simp only at hTr htl ⊢
 have hG:=zxh3 (t:=w2) (c:=c) (by omega) (by omega)
 obtain ⟨X,hX⟩ : ∃ X,idxL w c (3*n)=X:=⟨_,rfl⟩
 rw [hX] at hI hpI hoI
 rw [hX]
 obtain ⟨m,hm⟩ : ∃ m,c.i.l.length=m:=⟨_,rfl⟩
 rw [hm] at hG hn9
 rw [hm]
 have hN:=z44h (t:=w2.adv m) (n:=20) (by show w2.at_+m<_; omega) (by decide) (by decide)
 have hz:=z2s7 (w2.adv m) (n:=20) (by decide)
 have hz0:=z4rs (w2.adv m) 20
 obtain ⟨z,hze⟩ : ∃ z,tpN (w2.adv m) 20=z:=⟨_,rfl⟩
 rw [hze] at hN hz hz0
 rw [hze]
 obtain ⟨w4,hw4⟩ : ∃ w4,(w2.adv m).adv 1=w4:=⟨_,rfl⟩
 rw [hw4] at hN
 rw [hw4]
 obtain ⟨g,hge⟩ : ∃ g,graL w2 m=g:=⟨_,rfl⟩
 rw [hge] at hG
 rw [hge]
 have hx:=zkx7 x
 have s2:=fun H=>z3nx (c:=c) (a := .int .i64 0) (b := .nils) (d := .nils) (e := .nils) (f := .int .i64 0) (H:=H) (id:=2) (x := .int .i64 0) (y:=isV X) rfl hoI
 have s5:=fun H=>zo9w (c:=c) (a := .int .i64 0) (b:=isV X) (d := .nils) (e := .nils) (f := .int .i64 0) (H:=H) (id:=2) (zdci tr) (zq54 tr)
 have s6:=fun H=>zdmn (c:=c) (a := .int .i64 0) (b:=isV X) (d:=trV tr) (e := .nils) (f := .int .i64 0) (H:=H) (id:=2) (zf8a g) (zj6i g)
 have s7:=fun H=>z7tb (c:=c) (a := .int .i64 0) (b:=isV X) (d:=trV tr) (e:=liV g) (f := .int .i64 0) (H:=H) (id:=2) (x := .int .i64 (30+z)) rfl rfl
 have s8:=fun H=>zws3 (c:=c) (a := .int .i64 0) (b:=isV X) (d:=trV tr) (e:=liV g) (f := .int .i64 (30+z)) (H:=H) (id:=0) rfl hoI (zq54 tr) (zj6i g) rfl
 have s0:=fun H=>zws3 (c:=c) (a := .int .i64 0) (b := .nils) (d := .nils) (e := .nils) (f := .int .i64 0) (H:=H) (id:=2) rfl rfl rfl rfl rfl
 have hlo : ∀ a b d e f,(o8 c a b d e f).length=8:=fun a b d e f=>rfl
 have hfin:scnC ⟨c,X,tr,g,30+z⟩=o8 c (.int .i64 0) (isV X) (trV tr) (liV g) (.int .i64 (30+z)):=rfl
 rw [hfin]
 simp (disch:=first|omega|simp<;>omega|fail) [-zA,-zB,-zC,-zD,-zE,o8_b,s0,s2,s5,s6,s7,s8,o8_3,o8_8,hlo,zy11,a12,z9vj,hT,zf0m,hC,z6jf,hI,zj0z,hTr,zdoe,hG,zkp3,hN,hx]
 done
end
section
set_option linter.unusedSimpArgs false
set_option linter.unusedVariables false
set_option maxRecDepth 20000
open Go Go.Am
theorem zenn:Tot lsP:=by
 have h:=zqwe (f:=fun a:Rqs=>(a.ns,(a.im,a.art))) (fun a b e=>by
  obtain ⟨a1,a2,a3⟩:=a
  obtain ⟨b1,b2,b3⟩:=b
  simp only [Prod.mk.injEq] at e
  rw [e.1,e.2.1,e.2.2]) (zcht z3gj (zcht z3gj zc3a))
 have e:(fun a b:Rqs=>zynh Op.bytesLess (zynh Op.bytesLess dgLt) (a.ns,(a.im,a.art)) (b.ns,(b.im,b.art)))=lsP:=by
  funext a b; rfl
 rw [e] at h
 exact h
def SrtX (l:List Ixe):Prop:=l.Pairwise fun a b=>lsP (ixR b) (ixR a)=false
theorem z7jw {a b c:Rqs} (h1:lsP b a=false) (h2:lsP b c=true):lsP a c=true:=by
 rcases zenn.tot a b with h|h|h
 ·exact zenn.tr _ _ _ h h2
 ·rw [h]; exact h2
 ·rw [h] at h1; cases h1
theorem z83d {a b e:Rqs} (h1:lsP b a=false) (h2:lsP e b=false):lsP e a=false:=by
 cases h:lsP e a with
 | false=>rfl
 | true =>
  rcases zenn.tot a b with q|q|q
  ·rw [zenn.tr _ _ _ h q] at h2; cases h2
  ·rw [q] at h; rw [h] at h2; cases h2
  ·rw [q] at h1; cases h1
theorem zd43 {e:Rqs} {l:List Ixe} : ∀ k,k≤l.length→(∀ j (hj:j<l.length),insK e l k≤j→j<k→lsP e (ixR l[j])=true)∧(∀ i (hi:i<l.length),i+1=insK e l k→lsP e (ixR l[i])=false)
 | 0,_=>⟨fun j hj _ h=>by omega,fun i hi h=>by simp [insK] at h⟩
 | k+1,hk=>by
  have hlt:k<l.length:=by omega
  have hu:insK e l (k+1)=if lsP e (ixR l[k])=true then insK e l k else k+1:=by
   conv=>lhs; unfold insK
   rw [y00 hlt]
  cases h:lsP e (ixR l[k]) with
  | true =>
   rw [h,if_pos rfl] at hu
   obtain ⟨a,b⟩:=zd43 (e:=e) (l:=l) k (by omega)
   rw [hu]
   refine ⟨fun j hj h1 h2 => ?_,b⟩
   by_cases ej:j=k
   ·subst ej; exact h
   ·exact a j hj h1 (by omega)
  | false =>
   rw [h,if_neg (by simp)] at hu
   rw [hu]
   refine ⟨fun j hj h1 h2=>by omega,fun i hi h1 => ?_⟩
   obtain rfl:i=k:=by omega
   exact h
theorem zhsg {l:List Ixe} {e:Ixe} (h:SrtX l):SrtX (insX l e):=by
 have hle:=z13x (e:=ixR e) (l:=l) l.length
 obtain ⟨s1,s2⟩:=zd43 (e:=ixR e) (l:=l) l.length (y03 _)
 unfold insX
 obtain ⟨k,hk⟩ : ∃ k,insK (ixR e) l l.length=k:=⟨_,rfl⟩
 rw [hk] at hle s1 s2 ⊢
 have hp:=y0a.1 h
 have before : ∀ i (hi:i<l.length),i<k→lsP (ixR e) (ixR l[i])=false:=fun i hi hik=>by
  by_cases q:i+1=k
  ·exact s2 i hi q
  ·exact z83d (hp i (k-1) hi (by omega) (by omega)) (s2 (k-1) (by omega) (by omega))
 have after : ∀ j (hj:j<l.length),k≤j→lsP (ixR l[j]) (ixR e)=false:=fun j hj hkj=>by
  cases q:lsP (ixR l[j]) (ixR e) with
  | false=>rfl
  | true =>
   have:=zenn.tr _ _ _ (s1 j hj hkj hj) q
   rw [zenn.irr] at this; cases this
 unfold SrtX
 rw [y0d,y0d]
 refine ⟨h.sublist (List.take_sublist _ _),⟨y0p _ _,h.sublist (List.drop_sublist _ _),fun a ha b hb => ?_⟩,fun a ha b hb => ?_⟩
 ·obtain rfl:a=e:=by simpa using ha
  obtain ⟨j,hj,rfl⟩:=y07 hb
  rw [List.getElem_drop]
  exact after _ _ (by omega)
 ·obtain ⟨i,hi,rfl⟩:=y07 ha
  rw [y0i] at hi
  rw [List.getElem_take]
  rcases y01.1 hb with hb|hb
  ·obtain rfl:b=e:=by simpa using hb
   exact before _ _ (by omega)
  ·obtain ⟨j,hj,rfl⟩:=y07 hb
   rw [List.length_drop] at hj
   rw [List.getElem_drop]
   exact hp i (k+j) (by omega) (by omega) (by omega)
theorem z41v {t:Tp} {c:Clu} : ∀ m,SrtX (idxL t c m)
 | 0=>List.Pairwise.nil
 | m+1=>zhsg (z41v m)
theorem zqdf {r:Rqs} {x:Ixe}:cmpR r x<0↔lsP (ixR x) r=true:=by
 rw [zaif,decide_eq_true_eq]; rfl
theorem z4xb {l:List Ixe} (h:SrtX l) (r:Rqs):Mono (cmpR r) l:=by
 intro i j hi hj hij hc
 rw [zqdf] at hc ⊢
 exact z7jw (y0a.1 h i j hi hj hij) hc
def ltT (a b:Tri):Prop:=a.grp<b.grp∨(a.grp=b.grp∧dgLt a.art b.art=true)
theorem zgl2 {i j:Nat} (h:i<j) (hj:j<3):dgLt (dgB ((i:Int)+1)) (dgB ((j:Int)+1))=true:=by
 have:(i=0∧j=1)∨(i=0∧j=2)∨(i=1∧j=2):=by omega
 rcases this with ⟨rfl,rfl⟩|⟨rfl,rfl⟩|⟨rfl,rfl⟩<;>rfl
theorem z2rl {t:Tp} {c:Clu} : ∀ m,(triS t c m).2.Pairwise ltT ∧ ∀ y ∈ (triS t c m).2,∃ p:Nat,p<m∧y.grp=(p / 3:Nat)∧y.art=dgB (((p % 3:Nat):Int)+1)
 | 0=>⟨List.Pairwise.nil,fun y hy=>by simp [triS] at hy⟩
 | m+1=>by
  obtain ⟨h1,h2⟩:=z2rl (t:=t) (c:=c) m
  have up : ∀ y ∈ (triS t c m).2,∃ p:Nat,p<m+1∧y.grp=(p / 3:Nat)∧y.art=dgB (((p % 3:Nat):Int)+1):=fun y hy=>by
   obtain ⟨p,a,b⟩:=h2 y hy
   exact ⟨p,by omega,b⟩
  unfold triS
  split
  ·split
   ·split
    ·simp only
     rw [y0d]
     refine ⟨⟨h1,y0p _ _,fun a ha b hb => ?_⟩,fun y hy => ?_⟩
     ·obtain rfl:b=_:=by simpa using hb
      obtain ⟨p,p1,p2,p3⟩:=h2 a ha
      unfold ltT
      rw [p2,p3]
      simp only
      by_cases q:p / 3=m / 3
      ·exact .inr ⟨by omega,zgl2 (i:=p % 3) (j:=m % 3) (by omega) (by omega)⟩
      ·exact .inl (by omega)
     ·rcases y01.1 hy with hy|hy
      ·exact up y hy
      ·obtain rfl:y=_:=by simpa using hy
       exact ⟨m,by omega,rfl,rfl⟩
    ·exact ⟨h1,up⟩
   ·exact ⟨h1,up⟩
  ·exact ⟨h1,up⟩
theorem zyto {a b:Int}:cmpI a b<0↔a<b:=by unfold cmpI; split<;>(try split)<;>omega
theorem zybz {a b:Int}:cmpI a b=0↔a=b:=by unfold cmpI; split<;>(try split)<;>omega
theorem zc02 {g:Int} {d:Dg} {x:Tri}:cmpT g d x<0↔x.grp<g∨(x.grp=g∧dgLt x.art d=true):=by
 unfold cmpT orI
 by_cases e:x.grp=g
 ·rw [if_pos (zybz.2 e),zxr9]
  simp [e]
 ·rw [if_neg (fun q=>e (zybz.1 q)),zyto]
  simp [e]
theorem zc0u {l:List Tri} (h:l.Pairwise ltT) (k:Int) (d:Dg):Mono (cmpT k d) l:=by
 intro i j hi hj hij hc
 rw [zc02] at hc ⊢
 have:=y0a.1 h i j hi hj hij
 unfold ltT at this
 rcases this with a|⟨a1,a2⟩
 ·rcases hc with b|⟨b1,b2⟩
  ·exact .inl (by omega)
  ·exact .inl (by omega)
 ·rcases hc with b|⟨b1,b2⟩
  ·exact .inl (by omega)
  ·exact .inr ⟨by omega,zc3a.tr _ _ _ a2 b2⟩
end
section
set_option linter.unusedSimpArgs false
set_option linter.unusedVariables false
set_option maxRecDepth 20000
open Go Go.Am
structure RI (gs:List (List UInt8 × List UInt8 × Int × Int × Int × List Dg)) (s:Rnd) (B O:Nat):Prop where
 v:ValidC s.c
 g:s.c.g.l.map gl=gs
 b:s.c.i.l.length≤B
 o:s.o.length≤O
section
variable {gs:List (List UInt8 × List UInt8 × Int × Int × Int × List Dg)} {s:Rnd} {B O:Nat} {t:Int}
theorem zzee (h:RI gs s B O) {B' O':Nat} (hb:B≤B') (ho:O≤O'):RI gs s B' O':=⟨h.v,h.g,by have:=h.b; omega,by have:=h.o; omega⟩
theorem z7tf (h:RI gs s B O) (id:Int):RI gs (zyao t s id) B (O+1):=by
 by_cases h0:(z5wo s.c id t 3).2=0
 ·obtain ⟨i,hi,hf⟩:=zkzr h0
  have ht:zcie t:=by
   by_cases q:zcie t
   ·exact q
   ·unfold z5wo at h0; rw [if_pos (.inr q)] at h0; simp at h0
  have hst:s.c.i.l[i].state≠3:=by
   unfold z5wo at h0
   rw [if_neg (fun q=>q.elim (fun q=>q h.v) (fun q=>q ht)),hf,if_neg (by omega),y0c,y00 hi] at h0
   intro e
   simp [may,e] at h0
  have hid:s.c.i.l[i].id=id:=by
   obtain ⟨j,hj,e,p1,_⟩:=ziel (p:=fun x:Ins=>decide (x.id=id)) (l:=s.c.i.l) (by show (0:Int)≤z092 s.c.i.l id; rw [hf]; omega)
   have e:z092 s.c.i.l id=j:=e
   rw [hf] at e
   obtain rfl:i=j:=by omega
   simpa using p1
  have hv:=(z1s1 (gs:=gs) (s:=s) (l:=s.c.i.l) (n:=s.c.next) (o:=s.o) ⟨h.v,h.g,rfl,rfl,rfl⟩ ht (y09 hi) hst).1
  rw [hid] at hv
  exact ⟨hv.v,hv.g,by rw [hv.i,zo9a]; exact h.b,by rw [hv.o]; simp [zzoh]; exact h.o⟩
 ·have e:zyao t s id=s:=by unfold zyao; rw [if_neg h0]
  rw [e]; exact zzee h (y03 _) (by omega)
theorem z165 : ∀ {V:List Int} {s:Rnd} {O:Nat},RI gs s B O→RI gs (V.foldl (zyao t) s) B (O+V.length)
 | [],s,O,h=>h
 | a::V,s,O,h=>by
  have:=z165 (V:=V) (z7tf (t:=t) h a)
  rw [y0q,y0e]
  exact zzee this (y03 _) (by omega)
theorem z3da (h:RI gs s B O) {tr:List Tri} {ix:List Ixe} {k:Int}:RI gs (zusy tr ix t k s).2 (B+1) (O+1):=by
 cases hb:(zusy tr ix t k s).1 with
 | false=>rw [z0v2 hb]; exact zzee h (by omega) (by omega)
 | true =>
  have hg:=zu5r hb
  cases hc:choC tr ix s.c k t with
  | none=>unfold zusy at hb; rw [hc] at hb; simp at hb
  | some d =>
   have hs:zusy tr ix t k s=if (z4wu s.c k d t).2.2=0 then (true,⟨(z4wu s.c k d t).1,s.o++[⟨1,(z4wu s.c k d t).2.1,d⟩]⟩) else (false,s):=by unfold zusy; rw [hc]
   by_cases h0:(z4wu s.c k d t).2.2=0
   ·rw [if_pos h0] at hs
    have hst:=h0
    unfold z4wu at hst
    split at hst
    ·simp at hst
    rename_i c1
    split at hst
    ·simp at hst
    rename_i c2
    split at hst
    ·simp at hst
    rename_i c3
    have ht:zcie t:=Classical.byContradiction fun q=>c1 (.inr (.inr q))
    have hd:d≠dg0:=fun q=>c1 (.inr (.inl q))
    obtain ⟨K,rfl⟩ : ∃ K:Nat,k=K:=⟨k.toNat,by omega⟩
    have hgl:gs.length=s.c.g.l.length:=by rw [← h.g]; simp
    have hv:=(zd62 (gs:=gs) (s:=s) (l:=s.c.i.l) (n:=s.c.next) (o:=s.o) ⟨h.v,h.g,rfl,rfl,rfl⟩ ht (k:=K) (by omega) hd (by omega) (by omega)).2.2.1
    have hv:=hv (s.o++[⟨1,(z4wu s.c K d t).2.1,d⟩])
    rw [hs]
    exact ⟨hv.v,hv.g,by rw [hv.i]; simp; exact h.b,by simp; exact h.o⟩
   ·rw [if_neg h0] at hs; rw [hs] at hb; simp at hb
theorem z6og {tr:List Tri} {ix:List Ixe} {k want:Int} : ∀ {m:Nat} {s:Rnd} {B O:Nat},RI gs s B O→RI gs (zinu tr ix t k want m s) (B+m) (O+m)
 | 0,s,B,O,h=>h
 | m+1,s,B,O,h=>by
  unfold zinu
  split
  ·exact zzee (z6og (m:=m) (z3da h)) (by omega) (by omega)
  ·exact zzee h (by omega) (by omega)
theorem zf4b (h:RI gs s B O) {tr:List Tri} {ix:List Ixe} {k want:Int}:RI gs (filS tr ix t k want s) (B+want.toNat) (O+want.toNat):=by
 unfold filS
 exact zzee (z6og h) (by omega) (by omega)
end
end
section
set_option linter.unusedSimpArgs false
set_option linter.unusedVariables false
set_option maxRecDepth 20000
open Go Go.Am
section
variable {gs:List (List UInt8 × List UInt8 × Int × Int × Int × List Dg)} {s:Rnd} {B O:Nat} {t:Int}
theorem zux2 (h:RI gs s B O) {k:Int}:RI gs (grS1 t k s) B (O+B):=by
 have h1:=zt4h (k:=k) (G:=znqs s.c k) (b:=false) (l:=s.c.i.l)
 have:=h.b
 exact zzee (z165 (t:=t) (V:=stgL k (znqs s.c k) false s.c.i.l) h) (y03 _) (by omega)
theorem znba (h:RI gs s B O) {k want:Int}:RI gs (grS2 t k want s) B (O+B):=by
 have h1:=zt4h (k:=k) (G:=znqs s.c k) (b:=true) (l:=s.c.i.l)
 have:=h.b
 have h2:((stgL k (znqs s.c k) true s.c.i.l).reverse.take ((znqs s.c k).length-want).toNat).length≤B:=by
  rw [y0i,List.length_reverse]; omega
 exact zzee (z165 (t:=t) (V:=(stgL k (znqs s.c k) true s.c.i.l).reverse.take ((znqs s.c k).length-want).toNat) h) (y03 _) (by omega)
theorem zfti (h:RI gs s B O) {k:Int}:RI gs (grS3 t k s) B (O+3*B):=by
 have h1:=z9e8 (c:=s.c) (k:=k)
 have:=h.b
 have h2:((zu3j s.c k).take (z17v s.c k).toNat).length≤3*B:=by rw [y0i]; omega
 exact zzee (z165 (t:=t) (V:=(zu3j s.c k).take (z17v s.c k).toNat) h) (y03 _) (by omega)
theorem z714 (h:RI gs s B O) {tr:List Tri} {ix:List Ixe} {k want:Int}:RI gs (grpS tr ix t k want s) (B+want.toNat) (O+5*B+want.toNat) :=
 zzee (zf4b (zfti (znba (zux2 h)))) (by omega) (by omega)
theorem z8wq (h:RI gs s B O) (hB:B≤19) (hO:O≤20000) {k:Nat} {want:Int} (hk:k<s.c.g.l.length) (hw:s.c.g.l[k].want=want):GrOK t s k want:=by
 obtain ⟨q,_⟩:=h.v.g k hk
 have w0:=q.w0
 have w1:=q.w1
 have hb:=h.b
 have ho:=h.o
 refine ⟨hk,hw,by omega,by omega,by omega,by omega,?_⟩
 have r:=znba (t:=t) (k:=k) (want:=want) (zux2 (t:=t) (k:=k) h)
 exact zt0b r.v (by have:=r.b; omega)
end
theorem z4ua {c d:Clu} (h:d.g.l.map gl=c.g.l.map gl) {k:Nat} (hk:k<c.g.l.length) : ∃ hk':k<d.g.l.length,d.g.l[k].want=ze6v c k:=by
 have hl:d.g.l.length=c.g.l.length:=by have:=congrArg List.length h; simpa using this
 refine ⟨by omega,?_⟩
 have e:gl (d.g.l[k]'(by omega))=gl c.g.l[k]:=by
  have:=y0n h (i:=k) (by simp; omega)
  simpa using this
 unfold ze6v
 rw [y00 hk]
 simp only [gl,Prod.mk.injEq] at e
 exact e.2.2.1
theorem z3g1 {c:Clu} {s0:Rnd} {tr:List Tri} {ix:List Ixe} {t:Int} {B0 O0:Nat} (h0:RI (c.g.l.map gl) s0 B0 O0) (hw : ∀ g ∈ c.g.l,g.want≤3) : ∀ {k:Nat},k≤c.g.l.length→k≤3→B0+9≤19→RI (c.g.l.map gl) (rndS tr ix t c k s0) (B0+3*k) (O0+100*k)
 | 0,_,_,_=>h0
 | k+1,hk,h3,hB=>by
  have ih:=z3g1 (tr:=tr) (ix:=ix) (t:=t) h0 hw (k:=k) (by omega) (by omega) hB
  have hwk:ze6v c k≤3:=by
   unfold ze6v
   rw [y00 (show k<c.g.l.length by omega)]
   exact hw _ (y09 _)
  exact zzee (z714 (tr:=tr) (ix:=ix) (t:=t) (k:=k) (want:=ze6v c k) ih) (by omega) (by omega)
theorem zwds {c:Clu} (hv:ValidC c):ValidC c.clone :=
 zqis hv (y:=c.i.clone) rfl fun i h1 h2=>⟨rfl,(hv.i i h2).1⟩
theorem zpyu {c:Clu} (hv:ValidC c) {gr:List Int} {t:Int}:RI (c.g.l.map gl) (rnd0 gr t c) c.i.l.length c.i.l.length:=by
 have h0:RI (c.g.l.map gl) ⟨c.clone,[]⟩ c.i.l.length 0:=⟨zwds hv,z9hp _,y03 _,y03 _⟩
 have hL:=z9p7 (gr:=gr) (t:=t) (l:=c.i.l) (j:=0)
 exact zzee (z165 (t:=t) (V:=ze9z c.i.l 0 gr t) h0) (y03 _) (by omega)
theorem zrko {a:RdA} (hv:ValidC a.c) (hn:a.c.g.l.length≤3) (hw : ∀ g ∈ a.c.g.l,g.want≤3) (hi:a.c.i.l.length≤10) (hch:ChOK a.x a.tr) (hov:OvOK (a.c,a.gr,a.t)):RdOK a:=by
 refine ⟨hch,hov,by omega,fun k hk => ?_⟩
 have h0:=zzee (zpyu (gr:=a.gr.l) (t:=a.t) hv) hi hi
 have h1:=z3g1 (tr:=a.tr.l) (ix:=a.x.e.l) (t:=a.t) h0 hw (k:=k) (by omega) (by omega) (by decide)
 obtain ⟨p,q⟩:=z4ua h1.g hk
 exact z8wq h1 (by omega) (by omega) p q
def Sml (c:Clu) (n:Nat):Prop:=(∀ x ∈ c.g.l,x.want≤3)∧c.g.l.length≤n
theorem zipw {c:Clu} {g:Grp} {n:Nat} (h:(zxl9 c g).2=0) (hc:Sml c n) (hn:n≤100) (hg:g.want≤3):Sml (zxl9 c g).1 (n+1):=by
 obtain ⟨h1,h2⟩:=hc
 unfold zxl9 at h ⊢
 split at h
 ·simp at h
 rename_i c1
 rw [if_neg c1]
 split at h
 ·rename_i c2
  rw [if_pos c2]
  split at h
  ·simp at h
  rename_i c3
  rw [if_neg c3]
  have hol:(own (c.g.l++[g])).l=c.g.l++[g]:=z3e9 (by simp; omega)
  refine ⟨fun x hx => ?_,by show (own _).l.length≤_; rw [hol]; simp; omega⟩
  have hx:x ∈ (own (c.g.l++[g])).l:=hx
  rw [hol] at hx
  rcases y01.1 hx with hx|hx
  ·exact h1 x hx
  ·obtain rfl:x=g:=by simpa using hx
   exact hg
 ·rename_i c2
  rw [if_neg c2]
  have hol:(own (c.g.l.set (z9w0 c.g.l g.ns g.im).toNat g)).l=c.g.l.set (z9w0 c.g.l g.ns g.im).toNat g:=z3e9 (by simp; omega)
  refine ⟨fun x hx => ?_,by show (own _).l.length≤_; rw [hol]; simp; omega⟩
  have hx:x ∈ (own (c.g.l.set (z9w0 c.g.l g.ns g.im).toNat g)).l:=hx
  rw [hol] at hx
  rcases List.mem_or_eq_of_mem_set hx with hx|hx
  ·exact h1 x hx
  ·rw [hx]; exact hg
theorem zk8v : ∀ (k:Nat) (c:Clu) (t:Tp) (n:Nat),Sml c n→n+k≤100→Sml (zp0i k c t).1 (n+k)
 | 0,c,t,n,h,_=>h
 | k+1,c,t,n,h,hn=>by
  have hw:(zlt0 t zdmg).1.want≤3:=by
   have:=z2s7 (t.adv 2) (n:=4) (by decide)
   show tpN (t.adv 2) 4≤3
   omega
  have h1:Sml (dOne c t) (n+1):=by
   unfold dOne
   split
   ·rename_i q; exact zipw q h (by omega) hw
   ·exact ⟨h.1,by have:=h.2; omega⟩
  have:=zk8v k (dOne c t) (zlt0 t zdmg).2 (n+1) h1 (by omega)
  show Sml (zp0i k (dOne c t) (zlt0 t zdmg).2).1 (n+(k+1))
  rw [show n+(k+1)=n+1+k by omega]
  exact this
theorem z7ak (t:Tp) (m:Int):Sml (zcpt t m).1 2:=by
 have h0:Sml (cl0 t) 0:=⟨fun x hx=>by simp [cl0,nilG] at hx,by simp [cl0,nilG]⟩
 have hz:=z2s7 (t.adv 1) (n:=2) (by decide)
 have hz0:=z4rs (t.adv 1) 2
 have h1:=zk8v ((tpN (t.adv 1) 2).toNat+1) (cl0 t) (t.adv 2) 0 h0 (by omega)
 exact ⟨h1.1,by have:=h1.2; show (clD t).1.g.l.length≤2; unfold clD; omega⟩
end
section
set_option linter.unusedSimpArgs false
set_option linter.unusedVariables false
set_option maxRecDepth 20000
open Go Go.Am
theorem zpl6 (s:Scn):zbao (scnC s)=true:=by
 simp only [scnC,zbao,zyp8,z1vd,zcha,zm03,znen,z4yh,y0u]
noncomputable def cScn:List DV→Nat→Option (DV × List AObj):=conN (fun _=>True) (fun x:Nl=>[x.dv]) (fun x=>(.tup [.agg (scnC (scnV (tp0 x 300)).1),.mp 1 2 0],[.cells (scnC (scnV (tp0 x 300)).1),.cells (tpC (scnV (tp0 x 300)).2),.cells (scnC (scnV (tp0 x 300)).1)]))
theorem zd92 {x:Nl} {n:Nat}:cScn [x.dv] n=some (.tup [.agg (scnC (scnV (tp0 x 300)).1),.mp (n+1) 2 0],[.cells (scnC (scnV (tp0 x 300)).1),.cells (tpC (scnV (tp0 x 300)).2),.cells (scnC (scnV (tp0 x 300)).1)]):=by
 have:=zqtp (A:=fun _=>True) (f:=fun x:Nl=>[x.dv]) (g:=fun x=>(DV.tup [.agg (scnC (scnV (tp0 x 300)).1),.mp 1 2 0],[AObj.cells (scnC (scnV (tp0 x 300)).1),.cells (tpC (scnV (tp0 x 300)).2),.cells (scnC (scnV (tp0 x 300)).1)])) (fun a b e=>by
  simp only [List.cons.injEq,and_true] at e
  rw [z2kw e]) x trivial n
 rw [cScn,this]
 simp [shD,shO,shL,zj45,zpl6,zs7w,Nat.add_comm]
theorem zr8u:(Con.new cScn).Sound P 12:=z3ld (fun x _=>by simp [zbao,zkx7]) fun x _=>zv22 mix zqvq Tryz.func12 zqkh (zfog x)
noncomputable def cRnd:List DV→Option DV:=con RdOK (fun a=>[.agg (clC a.c),.agg (xiC a.x),a.tr.dv 35 trC,a.gr.dv,.int .i64 a.t]) (fun a=>rdV (rndP a.tr.l a.x.e.l a.gr.l a.t a.c))
theorem zunp {a:RdA} (h:RdOK a):cRnd [.agg (clC a.c),.agg (xiC a.x),a.tr.dv 35 trC,a.gr.dv,.int .i64 a.t]=some (rdV (rndP a.tr.l a.x.e.l a.gr.l a.t a.c)) :=
 zzno (A:=RdOK) (f:=fun a=>[.agg (clC a.c),.agg (xiC a.x),a.tr.dv 35 trC,a.gr.dv,.int .i64 a.t]) (g:=fun a=>rdV (rndP a.tr.l a.x.e.l a.gr.l a.t a.c)) (by
  rintro ⟨a1,a2,a3,a4,a5⟩ ⟨b1,b2,b3,b4,b5⟩ e
  simp only [List.cons.injEq,DV.agg.injEq,DV.int.injEq,and_true,true_and] at e
  rw [zh7t e.1,zt7p e.2.1,z47i e.2.2.1,z2kw e.2.2.2.1,e.2.2.2.2]) a h
theorem zclv:(Con.pure cRnd).Sound P 25:=z2au fun a h=>z81i a h
end
section
set_option linter.unusedSimpArgs false
set_option linter.unusedVariables false
set_option maxRecDepth 20000
open Go Go.Am
theorem zxrl {tr:List Tri} {ix:List Ixe} {c d:Clu} {k:Nat} {t:Int} (h:c.g.l.map gl=d.g.l.map gl):choC tr ix c k t=choC tr ix d k t:=by
 have hl:c.g.l.length=d.g.l.length:=by have:=congrArg List.length h; simpa using this
 unfold choC grAt
 rw [if_pos (by omega),if_pos (by omega),y0c]
 by_cases hk:k<c.g.l.length
 ·rw [y00 hk,y00 (show k<d.g.l.length by omega)]
  have e:gl c.g.l[k]=gl (d.g.l[k]'(by omega)):=by
   have:=y0n h (i:=k) (by simp; omega)
   simpa using this
  simp only [gl,Prod.mk.injEq] at e
  obtain ⟨e1,e2,_,_,_,e6⟩:=e
  show choF tr ix c.g.l[k] k t=choF tr ix (d.g.l[k]'(by omega)) k t
  unfold choF
  rw [e6]
  have hb:choB tr ix c.g.l[k] k t=choB tr ix (d.g.l[k]'(by omega)) k t:=by
   funext x
   unfold choB
   rw [e1,e2]
  rw [hb]
 ·rw [y0s (by omega),y0s (by omega)]
theorem zmpl {t:Int} {s:Rnd} {id:Int}:(zyao t s id).c.next=s.c.next:=by
 unfold zyao
 split
 ·rename_i h
  show (z5wo s.c id t 3).1.next=_
  unfold z5wo at h ⊢
  by_cases h1:¬ ValidC s.c∨¬ zcie t
  ·rw [if_pos h1] at h; simp at h
  rw [if_neg h1] at h ⊢
  by_cases h2:z092 s.c.i.l id<0
  ·rw [if_pos h2] at h; simp at h
  rw [if_neg h2] at h ⊢
  split at h
  ·rename_i h3; rw [if_pos h3]
  ·simp at h
 ·rfl
end
section
set_option linter.unusedSimpArgs false
set_option linter.unusedVariables false
set_option maxRecDepth 20000
open Go Go.Am
def part (k:Int) (l:List Ins):List Ins:=l.filter fun x=>decide (x.grp=k)
theorem z3e1 {k t:Int} {V:List Int} : ∀ {l:List Ins},(∀ x ∈ l,x.id ∈ V→x.grp≠k)→part k (mkS t V l)=part k l
 | [],_=>rfl
 | a::l,h=>by
  have ih:=z3e1 (k:=k) (t:=t) (V:=V) (l:=l) (fun x hx=>h x (by simp [hx]))
  unfold part mkS at ih ⊢
  rw [y0h,y02,y02,ih]
  by_cases hm:a.id ∈ V
  ·have hg:=h a (by simp) hm
   rw [if_pos hm]
   simp [zzdy,hg]
  ·rw [if_neg hm]
def own2 (l:List Ins):List (Int × Int):=l.map fun x=>(x.id,x.grp)
theorem zpmk {t:Int} {V:List Int} {l:List Ins}:own2 (mkS t V l)=own2 l:=by
 unfold own2 mkS
 rw [List.map_map]
 refine y0m fun x _ => ?_
 simp only [Function.comp]
 split<;>rfl
section
variable {gs:List (List UInt8 × List UInt8 × Int × Int × Int × List Dg)} {B:Nat} {t:Int}
theorem z3az {s:Rnd} {O:Nat} (h:RI gs s B O) (id:Int):(zyao t s id).c.i.l=mkS t [id] s.c.i.l∨(zyao t s id).c.i.l=s.c.i.l:=by
 by_cases h0:(z5wo s.c id t 3).2=0
 ·left
  obtain ⟨i,hi,hf⟩:=zkzr h0
  have ht:zcie t:=by
   by_cases q:zcie t
   ·exact q
   ·unfold z5wo at h0; rw [if_pos (.inr q)] at h0; simp at h0
  have hst:s.c.i.l[i].state≠3:=by
   unfold z5wo at h0
   rw [if_neg (fun q=>q.elim (fun q=>q h.v) (fun q=>q ht)),hf,if_neg (by omega),y0c,y00 hi] at h0
   intro e
   simp [may,e] at h0
  have hid:s.c.i.l[i].id=id:=by
   obtain ⟨j,hj,e,p1,_⟩:=ziel (p:=fun x:Ins=>decide (x.id=id)) (l:=s.c.i.l) (by show (0:Int)≤z092 s.c.i.l id; rw [hf]; omega)
   have e:z092 s.c.i.l id=j:=e
   rw [hf] at e
   obtain rfl:i=j:=by omega
   simpa using p1
  have hv:=(z1s1 (gs:=gs) (s:=s) (l:=s.c.i.l) (n:=s.c.next) (o:=s.o) ⟨h.v,h.g,rfl,rfl,rfl⟩ ht (y09 hi) hst).1
  rw [hid] at hv
  exact hv.i
 ·right
  unfold zyao; rw [if_neg h0]
theorem zvfe {k:Int} : ∀ {V:List Int} {s:Rnd} {O:Nat},RI gs s B O→(∀ id ∈ V,∀ g,(id,g) ∈ own2 s.c.i.l→g≠k)→part k (V.foldl (zyao t) s).c.i.l=part k s.c.i.l
 | [],s,O,_,_=>rfl
 | a::V,s,O,h,hV=>by
  rw [y0q]
  have hr:=z7tf (t:=t) h a
  have hl:=z3az (t:=t) h a
  have ho:own2 (zyao t s a).c.i.l=own2 s.c.i.l:=by
   rcases hl with e|e<;>rw [e]
   exact zpmk
  rw [zvfe (V:=V) hr (fun id hid g hg=>hV id (by simp [hid]) g (by rw [← ho]; exact hg))]
  rcases hl with e|e<;>rw [e]
  refine z3e1 fun x hx hm => ?_
  have:x.id=a:=by simpa using hm
  exact hV a (by simp) x.grp (y08.2 ⟨x,hx,by rw [this]⟩)
theorem z70f {s:Rnd} {O:Nat} (h:RI gs s B O) {id g g':Int} (h1:(id,g) ∈ own2 s.c.i.l) (h2:(id,g') ∈ own2 s.c.i.l):g=g':=by
 obtain ⟨x,hx,e⟩:=y08.1 h1
 obtain ⟨y,hy,e'⟩:=y08.1 h2
 simp only [Prod.mk.injEq] at e e'
 obtain ⟨i,hi,rfl⟩:=y07 hx
 obtain ⟨j,hj,rfl⟩:=y07 hy
 have hd:=y0a.1 (zyak h.v).d
 have:i=j:=by
  rcases Nat.lt_trichotomy i j with q|q|q
  ·have:=hd i j hi hj q; omega
  ·exact q
  ·have:=hd j i hj hi q; omega
 subst this
 rw [← e.2,← e'.2]
theorem zpqw {s:Rnd} {O:Nat} (h:RI gs s B O) {k k':Int} (hk:k'≠k) {V:List Int} (hV : ∀ id ∈ V,(id,k') ∈ own2 s.c.i.l) : ∀ id ∈ V,∀ g,(id,g) ∈ own2 s.c.i.l→g≠k:=fun id hid g hg=>by
 rw [z70f h hg (hV id hid)]; exact hk
theorem zaob {k:Int} {G:List Int} {b:Bool} {l:List Ins} : ∀ id ∈ stgL k G b l,(id,k) ∈ own2 l:=fun id hid=>by
 obtain ⟨x,hx,rfl⟩:=y08.1 hid
 obtain ⟨h1,h2⟩:=y0k.1 hx
 have hg:x.grp=k:=by
  unfold stgB at h2
  simp only [y0f,decide_eq_true_eq] at h2
  exact h2.1
 exact y08.2 ⟨x,h1,by rw [hg]⟩
theorem z0ky {c:Clu} {k:Int} {sel:Grp→Ins→Bool} : ∀ id ∈ idsP c k sel,(id,k) ∈ own2 c.i.l:=fun id hid=>by
 unfold idsP at hid
 split at hid
 ·obtain ⟨x,hx,rfl⟩:=y08.1 hid
  unfold selL at hx
  obtain ⟨h1,h2⟩:=y0k.1 hx
  simp only [y0f,decide_eq_true_eq] at h2
  exact y08.2 ⟨x,h1,by rw [h2.1]⟩
 ·simp at hid
theorem zwyf {c:Clu} {k:Int} : ∀ id ∈ zu3j c k,(id,k) ∈ own2 c.i.l:=fun id hid=>by
 unfold zu3j at hid
 split at hid
 ·rcases y01.1 hid with h|h
  ·exact z0ky id ((zo43 _).mem_iff.1 h)
  ·rcases y01.1 h with h|h
   ·exact z0ky id h
   ·exact z0ky id (y0j.1 (y05 h))
 ·simp at hid
theorem zokn {s:Rnd} {tr:List Tri} {ix:List Ixe} {k k':Int} (hk:k'≠k):part k (zusy tr ix t k' s).2.c.i.l=part k s.c.i.l:=by
 unfold zusy
 split
 ·rfl
 ·split
  ·rename_i h0
   obtain ⟨e1,_,e3⟩:=zzaj h0
   show part k (z4wu _ _ _ _).1.i.l=_
   rw [e1]
   show part k (own _).l=_
   rw [z3e9 (by simp; omega)]
   unfold part
   rw [List.filter_append]
   simp [newI,hk]
  ·rfl
theorem zyy9 {tr:List Tri} {ix:List Ixe} {k k' want:Int} (hk:k'≠k) : ∀ {m:Nat} {s:Rnd},part k (zinu tr ix t k' want m s).c.i.l=part k s.c.i.l
 | 0,s=>rfl
 | m+1,s=>by
  unfold zinu
  split
  ·rw [zyy9 hk,zokn hk]
  ·rfl
theorem zlyt {s:Rnd} {O:Nat} (h:RI gs s B O) {tr:List Tri} {ix:List Ixe} {k k' want:Int} (hk:k'≠k):part k (grpS tr ix t k' want s).c.i.l=part k s.c.i.l:=by
 have r1:=zux2 (t:=t) (k:=k') h
 have r2:=znba (t:=t) (k:=k') (want:=want) r1
 have e1:part k (grS1 t k' s).c.i.l=part k s.c.i.l:=zvfe h (zpqw h hk zaob)
 have e2:part k (grS2 t k' want (grS1 t k' s)).c.i.l=part k (grS1 t k' s).c.i.l:=zvfe r1 (zpqw r1 hk fun id hid=>zaob id (y0j.1 (y05 hid)))
 have e3:part k (grS3 t k' (grS2 t k' want (grS1 t k' s))).c.i.l=part k (grS2 t k' want (grS1 t k' s)).c.i.l:=zvfe r2 (zpqw r2 hk fun id hid=>zwyf id (y05 hid))
 show part k (zinu tr ix t k' want _ _).c.i.l=_
 rw [zyy9 hk,e3,e2,e1]
end
end
section
set_option linter.unusedSimpArgs false
set_option linter.unusedVariables false
set_option maxRecDepth 20000
open Go Go.Am
section
variable {c:Clu} {gr:List Int} {tr:List Tri} {ix:List Ixe} {t:Int} (hv:ValidC c) (hn:c.g.l.length≤3) (hw : ∀ g ∈ c.g.l,g.want≤3) (hi:c.i.l.length≤10) (hx:c.next≤1000000) (ht:zcie t)
include hv hn hw hi in
theorem ztza {k:Nat} (hk:k≤c.g.l.length):RI (c.g.l.map gl) (rndS tr ix t c k (rnd0 gr t c)) (10+3*k) (10+100*k) :=
 z3g1 (zzee (zpyu hv) hi hi) hw hk (by omega) (by decide)
include hv hn hw hi in
theorem z7c1 {k:Nat} : ∀ {m:Nat},k<m→m≤c.g.l.length→part k (rndS tr ix t c m (rnd0 gr t c)).c.i.l=part k (rndS tr ix t c (k+1) (rnd0 gr t c)).c.i.l
 | 0,h,_=>by omega
 | m+1,h,hm=>by
  by_cases e:k=m
  ·subst e; rfl
  ·have ih:=z7c1 (k:=k) (m:=m) (by omega) (by omega)
   rw [← ih]
   exact zlyt (ztza hv hn hw hi (tr:=tr) (ix:=ix) (t:=t) (gr:=gr) (k:=m) (by omega)) (by omega)
end
end
section
set_option linter.unusedSimpArgs false
set_option linter.unusedVariables false
set_option maxRecDepth 20000
open Go Go.Am
theorem znuy (t:Tp) (m:Int) (h0:0≤m) (h1:m≤200):(zcpt t m).1.next≤1000000:=by
 obtain ⟨hc,hg⟩:=zfm1 t
 have m1:=z4rs (clD t).2 (m+1)
 have m2:=z2s7 (clD t).2 (n:=m+1) (by omega)
 have hgl:1≤(clD t).1.g.l.length:=List.length_pos_iff.2 hg
 obtain ⟨-,-,k3,-⟩:=zc7j hgl (tpN (clD t).2 (m+1)).toNat [] (clD t).1.next ((clD t).2.adv 1) hc.n0 ⟨by simp,by simp⟩
 have hn1:=hc.n1
 show (zgc4 (clD t).1.g.l.length (tpN (clD t).2 (m+1)).toNat [] (clD t).1.next ((clD t).2.adv 1)).2.1≤_
 omega
def trSl (l:List Tri) (h:l.length≤100000):Sl Tri:=⟨if l=[] then none else some false,l,fun e=>by
 by_cases q:l=[]
 ·exact q
 ·simp [q] at e,by omega⟩
theorem z3eh {l:List Tri} (h:l.length≤100000):(trSl l h).dv 35 trC=trV l:=by
 unfold trSl trV Sl.dv
 by_cases q:l=[]
 ·simp only [q,if_true]; rfl
 ·simp only [q,if_false]; rfl
structure ScnF (s:Scn) (a:RdA):Prop where
 ok:RdOK a
 c:a.c=s.c
 x0:a.x.at_=0
 x:a.x.e.dv 105 ixC=isV s.x
 tr:a.tr.dv 35 trC=trV s.tr
 gr:a.gr.dv=liV s.gr
 t:a.t=s.t
 v:ValidC a.c
 n:a.c.g.l.length≤3
 w : ∀ g ∈ a.c.g.l,g.want≤3
 i:a.c.i.l.length≤10
 nx:a.c.next≤1000000
 tm:zcie a.t
theorem ztew (u:Tp) (hu:u.at_=0) : ∃ a,ScnF (scnV u).1 a:=by
 obtain ⟨hv,hg⟩:=zlnb u 8 (by decide) (by decide)
 have hn9:=zukg u 8 (by decide) (by decide)
 have hat:=z2ep u 8 (by decide) (by decide)
 have hnx:=znuy u 8 (by decide) (by decide)
 obtain ⟨sw,sn⟩:=z7ak u 8
 obtain ⟨c,hc⟩ : ∃ c,(zcpt u 8).1=c:=⟨_,rfl⟩
 obtain ⟨w,hw⟩ : ∃ w,(zcpt u 8).2=w:=⟨_,rfl⟩
 rw [hc] at hv hg hn9 hnx sw sn
 have hi10:c.i.l.length≤10:=by omega
 have hil:=zjjk (t:=w) (c:=c) (3*c.g.l.length)
 have htl:=zso0 (t:=w.adv (3*c.g.l.length)) (c:=c) (3*c.g.l.length)
 have hts:=(z2rl (t:=w.adv (3*c.g.l.length)) (c:=c) (3*c.g.l.length)).1
 have hixs:=z41v (t:=w) (c:=c) (3*c.g.l.length)
 obtain ⟨w2,hw2⟩ : ∃ w2,(triS (w.adv (3*c.g.l.length)) c (3*c.g.l.length)).1=w2:=⟨_,rfl⟩
 have hgl:=zuov (t:=w2) (n:=c.i.l.length)
 have hz:=z2s7 (w2.adv c.i.l.length) (n:=20) (by decide)
 have hz0:=z4rs (w2.adv c.i.l.length) 20
 have htm:zcie (30+tpN (w2.adv c.i.l.length) 20):=⟨by omega,by omega⟩
 have hsc:(scnV u).1=⟨c,idxL w c (3*c.g.l.length),(triS (w.adv (3*c.g.l.length)) c (3*c.g.l.length)).2,graL w2 c.i.l.length,30+tpN (w2.adv c.i.l.length) 20⟩:=by rw [← hw2,← hc,← hw]; rfl
 rw [hsc]
 have hch:ChOK ⟨0,isS (idxL w c (3*c.g.l.length)) (by omega)⟩ (trSl (triS (w.adv (3*c.g.l.length)) c (3*c.g.l.length)).2 (by omega)):=⟨fun k d=>zc0u hts k d,fun r=>z4xb hixs r⟩
 have hov:OvOK (c,nlO (graL w2 c.i.l.length) (by omega),30+tpN (w2.adv c.i.l.length) 20):=by
  refine ⟨fun x hx => ?_,fun n hn => ?_,(show okT (30+tpN (w2.adv c.i.l.length) 20) from ⟨by omega,by omega⟩)⟩
  ·have hx:x ∈ c.i.l:=hx
   obtain ⟨j,hj,rfl⟩:=y07 hx
   rcases (hv.i j hj).1.de with e|e
   ·rw [e]; exact ⟨by decide,by decide⟩
   ·exact ⟨by have:=e.1; omega,by have:=e.2; omega⟩
  ·have hn:n ∈ graL w2 c.i.l.length:=hn
   have:=z3e0 hn
   exact ⟨by omega,by omega⟩
 exact ⟨⟨c,⟨0,isS (idxL w c (3*c.g.l.length)) (by omega)⟩,trSl (triS (w.adv (3*c.g.l.length)) c (3*c.g.l.length)).2 (by omega),nlO (graL w2 c.i.l.length) (by omega),30+tpN (w2.adv c.i.l.length) 20⟩,zrko hv (by show c.g.l.length≤3; omega) sw hi10 hch hov,rfl,rfl,zz41 (by omega),z3eh (by omega),zigl (by omega),rfl,hv,by show c.g.l.length≤3; omega,sw,hi10,hnx,htm⟩
end
section
set_option linter.unusedSimpArgs false
set_option linter.unusedVariables false
set_option maxRecDepth 20000
open Go Go.Am
section
variable {gs:List (List UInt8 × List UInt8 × Int × Int × Int × List Dg)} {B:Nat} {t:Int}
theorem zln6 {s:Rnd} {O:Nat} (h:RI gs s B O) (ht:zcie t) (id:Int):(∃ x ∈ s.c.i.l,x.id=id∧x.state≠3∧(zyao t s id).c.i.l=mkS t [id] s.c.i.l∧(zyao t s id).o=s.o++zzoh s.c.i.l [id])∨(zyao t s id=s ∧ ∀ x ∈ s.c.i.l,x.id=id→x.state=3):=by
 by_cases hx : ∃ x ∈ s.c.i.l,x.id=id∧x.state≠3
 ·obtain ⟨x,hm,rfl,hs⟩:=hx
  have hv:=(z1s1 (gs:=gs) (s:=s) (l:=s.c.i.l) (n:=s.c.next) (o:=s.o) ⟨h.v,h.g,rfl,rfl,rfl⟩ ht hm hs).1
  exact .inl ⟨x,hm,rfl,hs,hv.i,hv.o⟩
 ·refine .inr ⟨?_,fun x hm e=>Classical.byContradiction fun q=>hx ⟨x,hm,e,q⟩⟩
  unfold zyao
  rw [if_neg]
  intro h0
  obtain ⟨i,hi,hf⟩:=zkzr h0
  have hst:s.c.i.l[i].state≠3:=by
   unfold z5wo at h0
   rw [if_neg (fun q=>q.elim (fun q=>q h.v) (fun q=>q ht)),hf,if_neg (by omega),y0c,y00 hi] at h0
   intro e
   simp [may,e] at h0
  have hid:s.c.i.l[i].id=id:=by
   obtain ⟨j,hj,e,p1,_⟩:=ziel (p:=fun x:Ins=>decide (x.id=id)) (l:=s.c.i.l) (by show (0:Int)≤z092 s.c.i.l id; rw [hf]; omega)
   have e:z092 s.c.i.l id=j:=e
   rw [hf] at e
   obtain rfl:i=j:=by omega
   simpa using p1
  exact hx ⟨_,y09 hi,hid,hst⟩
def idsQ (q:Ins→Bool) (l:List Ins):List Int:=(l.filter q).map Ins.id
theorem z6r9 {q:Ins→Bool} {l:List Ins} {id:Int}:id ∈ idsQ q l ↔ ∃ x ∈ l,q x=true∧x.id=id:=by
 unfold idsQ
 rw [y08]
 constructor
 ·rintro ⟨x,hx,e⟩
  obtain ⟨h1,h2⟩:=y0k.1 hx
  exact ⟨x,h1,h2,e⟩
 ·rintro ⟨x,hx,hq,e⟩
  exact ⟨x,y0k.2 ⟨hx,hq⟩,e⟩
theorem z9c3 {q:Ins→Bool} {l l':List Ins}:idsQ q (l++l')=idsQ q l++idsQ q l':=by
 unfold idsQ; rw [List.filter_append,y0l]
theorem z4g5 {q:Ins→Bool} (hq : ∀ x,q x=true→x.state≠3) {V:List Int} : ∀ {l:List Ins},idsQ q (mkS t V l)=(idsQ q l).filter (fun id=>decide (id ∉ V))
 | []=>rfl
 | a::l=>by
  have ih:=z4g5 hq (V:=V) (l:=l)
  have h3:q (stI t a)=false:=by
   cases e:q (stI t a) with
   | false=>rfl
   | true=>exact absurd (zgls t a) (hq _ e)
  unfold idsQ mkS at ih ⊢
  rw [y0h]
  by_cases hm:a.id ∈ V
  ·rw [if_pos hm,y02,h3,y02]
   cases hqa:q a
   ·simpa using ih
   ·simp only [Bool.false_eq_true,if_false,if_true,y0h,y02,hm,not_true_eq_false,decide_false]
    exact ih
  ·rw [if_neg hm,y02,y02]
   cases hqa:q a
   ·simpa using ih
   ·simp only [if_true,y0h,y02]
    rw [if_pos (by simp [hm])]
    rw [ih]
theorem zic6 {s:Rnd} {O:Nat} (h:RI gs s B O) (ht:zcie t) {q:Ins→Bool} (hq : ∀ x,q x=true→x.state≠3) (id:Int):idsQ q (zyao t s id).c.i.l=(idsQ q s.c.i.l).filter (fun i=>decide (i ∉ [id])):=by
 rcases zln6 h ht id with ⟨x,_,_,_,e,_⟩|⟨e,hn⟩
 ·rw [e,z4g5 hq]
 ·rw [e]
  symm
  rw [y0b]
  intro i hi
  obtain ⟨x,hx,hqx,e⟩:=z6r9.1 hi
  simp only [List.mem_singleton,decide_eq_true_eq]
  intro ei
  exact hq x hqx (hn x hx (by rw [e,ei]))
theorem zpz6 (ht:zcie t) {q:Ins→Bool} (hq : ∀ x,q x=true→x.state≠3) : ∀ {V:List Int} {s:Rnd} {O:Nat},RI gs s B O→idsQ q (V.foldl (zyao t) s).c.i.l=(idsQ q s.c.i.l).filter (fun i=>decide (i ∉ V))
 | [],s,O,h=>by
  symm
  show (idsQ q s.c.i.l).filter _=idsQ q s.c.i.l
  rw [y0b]
  intro i _
  simp
 | a::V,s,O,h=>by
  rw [y0q,zpz6 ht hq (V:=V) (z7tf (t:=t) h a),zic6 h ht hq a,y0o]
  congr 1
  funext i
  by_cases e:i=a
  ·simp [e]
  ·simp [e]
theorem znha {s:Rnd} {tr:List Tri} {ix:List Ixe} {k:Int}:(zusy tr ix t k s).2=s ∨ ∃ d,choC tr ix s.c k t=some d∧(zusy tr ix t k s).2.c.i.l=s.c.i.l++[newI s.c k d t]∧(zusy tr ix t k s).2.c.next=s.c.next+1∧(zusy tr ix t k s).2.o=s.o++[⟨1,s.c.next,d⟩]:=by
 cases hc:choC tr ix s.c k t with
 | none=>left; unfold zusy; rw [hc]
 | some d =>
  have hs:zusy tr ix t k s=if (z4wu s.c k d t).2.2=0 then (true,⟨(z4wu s.c k d t).1,s.o++[⟨1,(z4wu s.c k d t).2.1,d⟩]⟩) else (false,s):=by unfold zusy; rw [hc]
  by_cases h0:(z4wu s.c k d t).2.2=0
  ·right
   rw [if_pos h0] at hs
   obtain ⟨e1,e2,e3⟩:=zzaj h0
   have hol:(own (s.c.i.l++[newI s.c k d t])).l=s.c.i.l++[newI s.c k d t]:=z3e9 (by simp; omega)
   refine ⟨d,rfl,?_,?_,?_⟩
   ·rw [hs]; show (z4wu s.c k d t).1.i.l=_; rw [e1]; exact hol
   ·rw [hs]; show (z4wu s.c k d t).1.next=_; rw [e1]
   ·rw [hs]; show s.o++[⟨1,(z4wu s.c k d t).2.1,d⟩]=_; rw [e2]
  ·left; rw [if_neg h0] at hs; rw [hs]
end
def zapb (x:Ins):Cmd:=⟨1,x.id,x.art⟩
structure TR (c:Clu) (tr:List Tri) (ix:List Ixe) (t k:Int) (s:Rnd) (V:List Int) (N:List Ins):Prop where
 l:s.c.i.l=mkS t V c.i.l++N
 nd:V.Nodup
 iv : ∀ id ∈ V,∃ x ∈ c.i.l,x.id=id∧x.state≠3
 ni : ∀ x ∈ N,c.next≤x.id∧x.id<s.c.next∧0≤x.grp∧x.grp<k∧x.state=1∧x.den = -1∧choC tr ix c x.grp t=some x.art
 np:N.Pairwise (fun x y=>x.id<y.id)
 o:s.o.Perm (zzoh c.i.l V++N.map zapb)
 nx:c.next≤s.c.next
section
variable {c:Clu} {tr:List Tri} {ix:List Ixe} {t k:Int} {B:Nat}
theorem z0vo {V:List Int} {l:List Ins} {a:Int} (h:a ∉ V):mkS t [a] (mkS t V l)=mkS t (V++[a]) l:=by
 unfold mkS
 rw [List.map_map]
 refine y0m fun z _ => ?_
 simp only [Function.comp,List.mem_singleton,y01]
 by_cases hz:z.id ∈ V
 ·have hne:z.id≠a:=fun e=>h (by rw [← e]; exact hz)
  rw [if_pos hz,if_neg (by rw [z4j6]; exact hne),if_pos (.inl hz)]
 ·rw [if_neg hz]
  by_cases e:z.id=a
  ·rw [if_pos e,if_pos (.inr e)]
  ·rw [if_neg e,if_neg (fun q=>q.elim hz e)]
theorem zpvt {V:List Int} {l:List Ins} (h : ∀ x ∈ l,x.id ∉ V):mkS t V l=l:=by
 unfold mkS
 rw [y0m (g:=id) fun x hx=>by rw [if_neg (h x hx)]; rfl]
 simp
theorem z4ov {V:List Int} {l l':List Ins}:mkS t V (l++l')=mkS t V l++mkS t V l':=by unfold mkS; rw [y0l]
theorem zapa {s:Rnd} {V:List Int} {N:List Ins} (q:TR c tr ix t k s V N) {k':Int} (hk:k≤k'):TR c tr ix t k' s V N :=
 ⟨q.l,q.nd,q.iv,fun x hx=>by obtain ⟨a1,a2,a3,a4,a5⟩:=q.ni x hx; exact ⟨a1,a2,a3,by omega,a5⟩,q.np,q.o,q.nx⟩
theorem zga9 (hv:ValidC c) {s:Rnd} {O:Nat} (h:RI (c.g.l.map gl) s B O) (ht:zcie t) {V:List Int} {N:List Ins} (q:TR c tr ix t k s V N) {id:Int} (hn : ∀ x ∈ N,x.id≠id) : ∃ W,TR c tr ix t k (zyao t s id) (V++W) N:=by
 rcases zln6 h ht id with ⟨x,hx,rfl,hs,e1,e2⟩|⟨e,_⟩
 ·refine ⟨[x.id],?_⟩
  have hx':=hx
  rw [q.l] at hx'
  have hxm:x ∈ mkS t V c.i.l:=(y01.1 hx').resolve_right fun m=>hn x m rfl
  obtain ⟨y,hy,e⟩:=y08.1 hxm
  have hyV:y.id ∉ V:=fun m=>by
   rw [if_pos m] at e
   exact hs (by rw [← e]; rfl)
  rw [if_neg hyV] at e
  subst e
  have hcm:z83c s.c.i.l y.id=z83c c.i.l y.id:=by rw [zmpd (zyak h.v).d hx,zmpd (zyak hv).d hy]
  refine ⟨?_,?_,?_,?_,q.np,?_,?_⟩
  ·rw [e1,q.l,z4ov,z0vo hyV,zpvt (l:=N) fun z hz=>by simpa using hn z hz]
  ·rw [List.nodup_append]
   refine ⟨q.nd,by simp,fun a ha b hb => ?_⟩
   have hb:b=y.id:=by simpa using hb
   rw [hb]
   exact fun e=>hyV (by rw [← e]; exact ha)
  ·intro id hid
   rcases y01.1 hid with m|m
   ·exact q.iv id m
   ·have m:id=y.id:=by simpa using m
    exact ⟨y,hy,m.symm,hs⟩
  ·intro z hz
   rw [zmpl]
   exact q.ni z hz
  ·rw [e2]
   have e3:zzoh s.c.i.l [y.id]=zzoh c.i.l [y.id]:=by simp only [zzoh,y0h,List.map_nil,hcm]
   have e4:zzoh c.i.l (V++[y.id])=zzoh c.i.l V++zzoh c.i.l [y.id]:=by simp only [zzoh,y0l]
   rw [e3,e4,y04]
   refine (List.Perm.append_right _ q.o).trans ?_
   rw [y04]
   exact List.Perm.append_left _ List.perm_append_comm
  ·rw [zmpl]; exact q.nx
 ·exact ⟨[],by rw [e,y06]; exact q⟩
theorem zfhc (hv:ValidC c) (ht:zcie t) {N:List Ins} : ∀ {L:List Int} {s:Rnd} {O:Nat} {V:List Int},RI (c.g.l.map gl) s B O→TR c tr ix t k s V N→(∀ id ∈ L,∀ x ∈ N,x.id≠id) → ∃ W,TR c tr ix t k (L.foldl (zyao t) s) (V++W) N
 | [],s,O,V,_,q,_=>⟨[],by rw [y06]; exact q⟩
 | a::L,s,O,V,h,q,hn=>by
  obtain ⟨W,hW⟩:=zga9 hv h ht q (hn a (by simp))
  obtain ⟨W',hW'⟩:=zfhc hv ht (L:=L) (z7tf (t:=t) h a) hW (fun id hid=>hn id (by simp [hid]))
  exact ⟨W++W',by rw [← y04]; exact hW'⟩
theorem z6hg {s:Rnd} {O:Nat} (h:RI (c.g.l.map gl) s B O) {V:List Int} {N:List Ins} (q:TR c tr ix t k s V N) {K:Nat} (hk:(K:Int)<k) : ∃ N',TR c tr ix t k (zusy tr ix t K s).2 V (N++N'):=by
 rcases znha (t:=t) (s:=s) (tr:=tr) (ix:=ix) (k:=K) with e|⟨d,hc,e1,e2,e3⟩
 ·exact ⟨[],by rw [e,y06]; exact q⟩
 ·refine ⟨[newI s.c K d t],?_,q.nd,q.iv,?_,?_,?_,?_⟩
  ·rw [e1,q.l,y04]
  ·intro x hx
   rw [e2]
   rcases y01.1 hx with m|m
   ·obtain ⟨a1,a2,a3⟩:=q.ni x m
    exact ⟨a1,by omega,a3⟩
   ·have m:x=newI s.c K d t:=by simpa using m
    subst m
    have hnx:=q.nx
    refine ⟨hnx,by show s.c.next<s.c.next+1; omega,by show (0:Int)≤K; omega,hk,rfl,rfl,?_⟩
    show choC tr ix c K t=some d
    rw [← zxrl (c:=s.c) h.g]
    exact hc
  ·rw [y0d]
   refine ⟨q.np,by simp,fun a ha b hb => ?_⟩
   have m:b=newI s.c K d t:=by simpa using hb
   subst m
   exact (q.ni a ha).2.1
  ·rw [e3,y0l,← y04]
   exact List.Perm.append_right _ q.o
  ·rw [e2]; have:=q.nx; omega
theorem z8dy {want:Int} {V:List Int} {K:Nat} (hk:(K:Int)<k) : ∀ {m:Nat} {s:Rnd} {B O:Nat} {N:List Ins},RI (c.g.l.map gl) s B O→TR c tr ix t k s V N → ∃ N',TR c tr ix t k (zinu tr ix t K want m s) V (N++N')
 | 0,s,B,O,N,_,q=>⟨[],by rw [y06]; exact q⟩
 | m+1,s,B,O,N,h,q=>by
  obtain ⟨N',hN'⟩:=z6hg h q hk
  unfold zinu
  split
  ·obtain ⟨N2,hN2⟩:=z8dy hk (want:=want) (m:=m) (z3da (t:=t) h) hN'
   exact ⟨N'++N2,by rw [← y04]; exact hN2⟩
  ·exact ⟨[],by rw [y06]; exact q⟩
theorem z00g (hv:ValidC c) (ht:zcie t) {K:Nat} {s:Rnd} {O:Nat} (h:RI (c.g.l.map gl) s B O) {V:List Int} {N:List Ins} (q:TR c tr ix t K s V N) {want:Int} : ∃ W N',TR c tr ix t ((K+1:Nat):Int) (grpS tr ix t K want s) (V++W) (N++N'):=by
 have r1:=zux2 (t:=t) (k:=K) h
 have r2:=znba (t:=t) (k:=K) (want:=want) r1
 have r3:=zfti (t:=t) (k:=K) r2
 have hno : ∀ {s':Rnd} {O':Nat} {V':List Int},RI (c.g.l.map gl) s' B O'→TR c tr ix t K s' V' N → ∀ id,(id,(K:Int)) ∈ own2 s'.c.i.l → ∀ x ∈ N,x.id≠id:=fun {s' O' V'} r q' id hid x hx e=>by
  have hm:(id,x.grp) ∈ own2 s'.c.i.l:=y08.2 ⟨x,by rw [q'.l]; exact y01.2 (.inr hx),by rw [e]⟩
  have:=z70f r hm hid
  have:=(q'.ni x hx).2.2.2.1
  omega
 obtain ⟨W1,q1⟩:=zfhc hv ht (L:=stgL K (znqs s.c K) false s.c.i.l) h q (fun id hid=>hno h q id (zaob id hid))
 have q1:TR c tr ix t K (grS1 t K s) (V++W1) N:=q1
 obtain ⟨W2,q2⟩:=zfhc hv ht (L:=(stgL K (znqs (grS1 t K s).c K) true (grS1 t K s).c.i.l).reverse.take ((znqs (grS1 t K s).c K).length-want).toNat) r1 q1 (fun id hid=>hno r1 q1 id (zaob id (y0j.1 (y05 hid))))
 have q2:TR c tr ix t K (grS2 t K want (grS1 t K s)) (V++W1++W2) N:=q2
 obtain ⟨W3,q3⟩:=zfhc hv ht (L:=(zu3j (grS2 t K want (grS1 t K s)).c K).take (z17v (grS2 t K want (grS1 t K s)).c K).toNat) r2 q2 (fun id hid=>hno r2 q2 id (zwyf id (y05 hid)))
 have q3:TR c tr ix t K (grS3 t K (grS2 t K want (grS1 t K s))) (V++W1++W2++W3) N:=q3
 obtain ⟨N',q4⟩:=z8dy (k:=((K+1:Nat):Int)) (K:=K) (by omega) (want:=want) (m:=(want-(znqs (grS3 t K (grS2 t K want (grS1 t K s))).c K).length).toNat) r3 (zapa q3 (by omega))
 refine ⟨W1++W2++W3,N',?_⟩
 rw [← y04,← y04]
 exact q4
end
theorem z85t {gr:List Int} {t:Int} : ∀ {l:List Ins} {i:Nat},(ze9z l i gr t).Sublist (l.map Ins.id)
 | [],_=>List.Sublist.refl _
 | x::r,i=>by
  have ih:=z85t (gr:=gr) (t:=t) (l:=r) (i:=i+1)
  unfold ze9z
  split
  ·exact ih.cons_cons _
  ·exact ih.cons _
theorem zgrg {c:Clu} (hv:ValidC c) {gr:List Int} {t:Int}:(ze9z c.i.l 0 gr t).Nodup:=by
 have h:=zg4k.1 (zyak hv).d
 exact (h.sublist z85t).imp fun {a b} q e=>by omega
theorem za3t {l:List Ins} {gr:List Int} {t:Int} : ∀ id ∈ ze9z l 0 gr t,∃ x ∈ l,x.id=id∧x.state≠3∧0≤x.den:=fun id hid=>by
 obtain ⟨j,hj,h1,h2⟩:=zunx.1 hid
 simp only [z9hf,y0f,decide_eq_true_eq] at h1
 exact ⟨_,y09 hj,h2,h1.1,h1.2.1⟩
section
variable {c:Clu} {gr:List Int} {tr:List Tri} {ix:List Ixe} {t:Int} (hv:ValidC c) (hn:c.g.l.length≤3) (hw : ∀ g ∈ c.g.l,g.want≤3) (hi:c.i.l.length≤10) (ht:zcie t)
include hv ht in
theorem zwot:TR c tr ix t 0 (rnd0 gr t c) (ze9z c.i.l 0 gr t) []:=by
 have h0:Vw (c.g.l.map gl) ⟨c.clone,[]⟩ c.i.l c.next []:=⟨zwds hv,z9hp _,rfl,rfl,rfl⟩
 have h:=(z40n (s:=⟨c.clone,[]⟩) (s':=⟨c.clone,[]⟩) ht h0 h0 (zgrg hv (gr:=gr) (t:=t)) (fun id hid=>by obtain ⟨x,a,b,d,_⟩:=za3t id hid; exact ⟨x,a,b,d⟩)).1
 have h:Vw (c.g.l.map gl) (rnd0 gr t c) _ c.next _:=h
 refine ⟨by rw [h.i,y06],zgrg hv,fun id hid=>by obtain ⟨x,a,b,d,_⟩:=za3t id hid; exact ⟨x,a,b,d⟩,by simp,List.Pairwise.nil,?_,by rw [h.n]; exact Int.le_refl _⟩
 rw [h.o]
 simp
include hv hn hw hi ht in
theorem zva5 : ∀ {k:Nat},k≤c.g.l.length → ∃ W N,TR c tr ix t k (rndS tr ix t c k (rnd0 gr t c)) (ze9z c.i.l 0 gr t++W) N
 | 0,_=>⟨[],[],by rw [y06]; exact zwot hv ht⟩
 | k+1,hk=>by
  obtain ⟨W,N,q⟩:=zva5 (k:=k) (by omega)
  obtain ⟨W',N',q'⟩:=z00g hv ht (ztza hv hn hw hi (tr:=tr) (ix:=ix) (t:=t) (gr:=gr) (k:=k) (by omega)) q (want:=ze6v c k)
  exact ⟨W++W',N++N',by rw [← y04]; exact q'⟩
include hv hn hw hi ht in
theorem z6bz : ∃ W N,TR c tr ix t c.g.l.length (rndP tr ix gr t c) (ze9z c.i.l 0 gr t++W) N:=zva5 hv hn hw hi ht (y03 _)
end
end
section
set_option linter.unusedSimpArgs false
set_option linter.unusedVariables false
set_option maxRecDepth 20000
open Go Go.Am
def qLv (k:Nat) (x:Ins):Bool:=decide (x.grp=(k:Int))&&decide (x.state=2)
theorem zw63 {k:Nat} : ∀ x,qLv k x=true→x.state≠3:=fun x h=>by
 simp only [qLv,y0f,decide_eq_true_eq] at h
 omega
section
variable {c d:Clu} {k:Nat} (h:d.g.l.map gl=c.g.l.map gl) (hk:k<c.g.l.length)
include h hk in
theorem z7pn : ∃ g,grAt d k=some g∧gl g=gl c.g.l[k]:=by
 have hl:d.g.l.length=c.g.l.length:=by have:=congrArg List.length h; simpa using this
 refine ⟨d.g.l[k]'(by omega),?_,?_⟩
 ·unfold grAt; rw [if_pos (by omega),y0c,y00 (by omega)]
 ·have:=y0n h (i:=k) (by simp; omega)
  simpa using this
include h hk in
theorem zb41:zd1c d k=(idsQ (qLv k) d.i.l).length:=by
 obtain ⟨g,hg,_⟩:=z7pn h hk
 unfold zd1c idsP
 rw [hg]
 rfl
include h hk in
theorem zouj:z17v d k=max ((zd1c d k:Int)-max c.g.l[k].least (c.g.l[k].want-c.g.l[k].down)) 0:=by
 obtain ⟨g,hg,e⟩:=z7pn h hk
 simp only [gl,Prod.mk.injEq] at e
 obtain ⟨_,_,e3,e4,e5,_⟩:=e
 unfold z17v
 rw [hg]
 simp only [e3,e4,e5]
end
theorem zy4e {a:Int} : ∀ {G:List Int},G.Nodup→G.length≤(G.filter (fun i=>decide (i≠a))).length+1
 | [],_=>by simp
 | b::G,h=>by
  rw [List.nodup_cons] at h
  by_cases e:b=a
  ·subst e
   have:G.filter (fun i=>decide (i≠b))=G:=y0b.2 fun i hi=>by
    rw [decide_eq_true_eq]
    rintro rfl
    exact h.1 hi
   rw [y02,if_neg (by simp),this,y0e]
   omega
  ·have:=zy4e (a:=a) h.2
   rw [y02,if_pos (by simpa using e),y0e,y0e]
   omega
theorem zh1a : ∀ {V G:List Int},G.Nodup→G.length≤(G.filter (fun i=>decide (i ∉ V))).length+V.length
 | [],G,_=>by
  rw [y0b.2 (fun i _=>by simp)]
  exact Nat.le_add_right _ _
 | a::V,G,h=>by
  have h1:=zy4e (a:=a) h
  have h2:=zh1a (V:=V) (G:=G.filter (fun i=>decide (i≠a))) (h.sublist y0v)
  rw [y0o] at h2
  have e:(fun i=>decide (i ∉ a::V))=fun i=>decide (i ∉ V)&&decide (i≠a):=by
   funext i
   by_cases e:i=a<;>simp [e]
  rw [e,y0e]
  omega
theorem zofr {q:Ins→Bool} {l:List Ins} (hd:l.Pairwise (fun x y=>x.id<y.id)):(idsQ q l).Nodup:=by
 have:=(zg4k.1 hd).sublist ((y0v (p:=q) (l:=l)).map Ins.id)
 exact this.imp fun {a b} q e=>by omega
theorem zgng {V G:List Int} (h : ∀ i ∈ G,i ∉ V):G.filter (fun i=>decide (i ∉ V))=G:=y0b.2 fun i hi=>by rw [decide_eq_true_eq]; exact h i hi
section
variable {c:Clu} {s:Rnd} {B O:Nat} {t:Int} {k:Nat} {tr:List Tri} {ix:List Ixe}
theorem zp8u {l:List Ins} (hd:l.Pairwise (fun x y=>x.id<y.id)) {p q:Ins→Bool} {i:Int} (h1:i ∈ idsQ p l) (h2:i ∈ idsQ q l) : ∃ x ∈ l,x.id=i∧p x=true∧q x=true:=by
 obtain ⟨x,hx,hp,e⟩:=z6r9.1 h1
 obtain ⟨y,hy,hq,e'⟩:=z6r9.1 h2
 have:=z4mt hd hx hy (by rw [e,e'])
 subst this
 exact ⟨x,hx,e,hp,hq⟩
theorem zjrq (h:RI (c.g.l.map gl) s B O) (ht:zcie t) (V:List Int):idsQ (qLv k) (V.foldl (zyao t) s).c.i.l=(idsQ (qLv k) s.c.i.l).filter (fun i=>decide (i ∉ V)):=zpz6 ht zw63 h
theorem zxlo (h:RI (c.g.l.map gl) s B O) {G:List Int} {b:Bool} : ∀ i ∈ idsQ (qLv k) s.c.i.l,i ∉ stgL k G b s.c.i.l:=fun i hi hm=>by
 have hm:i ∈ idsQ (stgB k G b) s.c.i.l:=hm
 obtain ⟨x,_,_,p,q⟩:=zp8u (zyak h.v).d hi hm
 simp only [qLv,stgB,y0f,decide_eq_true_eq] at p q
 omega
theorem z7zd (h:RI (c.g.l.map gl) s B O) (ht:zcie t):idsQ (qLv k) (grS1 t k s).c.i.l=idsQ (qLv k) s.c.i.l:=by
 unfold grS1
 rw [zjrq h ht]
 exact zgng fun i hi=>zxlo h i hi
theorem z6x6 (h:RI (c.g.l.map gl) s B O) (ht:zcie t) {want:Int}:idsQ (qLv k) (grS2 t k want s).c.i.l=idsQ (qLv k) s.c.i.l:=by
 unfold grS2
 rw [zjrq h ht]
 exact zgng fun i hi m=>zxlo h i hi (y0j.1 (y05 m))
theorem zazc (h:RI (c.g.l.map gl) s B O) (ht:zcie t):(idsQ (qLv k) (grS3 t k s).c.i.l).length≤(idsQ (qLv k) s.c.i.l).length∧(idsQ (qLv k) s.c.i.l).length≤(idsQ (qLv k) (grS3 t k s).c.i.l).length+(z17v s.c k).toNat:=by
 unfold grS3
 rw [zjrq h ht]
 refine ⟨y0t _ _,?_⟩
 have:=zh1a (V:=(zu3j s.c k).take (z17v s.c k).toNat) (zofr (q:=qLv k) (zyak h.v).d)
 have hl:((zu3j s.c k).take (z17v s.c k).toNat).length≤(z17v s.c k).toNat:=by rw [y0i]; omega
 omega
theorem zszl {k' want:Int} : ∀ {m:Nat} {s:Rnd},idsQ (qLv k) (zinu tr ix t k' want m s).c.i.l=idsQ (qLv k) s.c.i.l
 | 0,s=>rfl
 | m+1,s=>by
  unfold zinu
  split
  ·rw [zszl]
   rcases znha (t:=t) (s:=s) (tr:=tr) (ix:=ix) (k:=k') with e|⟨d,_,e,_,_⟩
   ·rw [e]
   ·rw [e,z9c3]
    have:idsQ (qLv k) [newI s.c k' d t]=[]:=by simp [idsQ,y02,qLv,newI]
    rw [this,y06]
  ·rfl
theorem z05g (h:RI (c.g.l.map gl) s B O) (ht:zcie t) (hk:k<c.g.l.length) {want:Int}:(idsQ (qLv k) (grpS tr ix t k want s).c.i.l).length≤(idsQ (qLv k) s.c.i.l).length∧(idsQ (qLv k) s.c.i.l).length≤(idsQ (qLv k) (grpS tr ix t k want s).c.i.l).length+(z17v s.c k).toNat:=by
 have r1:=zux2 (t:=t) (k:=k) h
 have r2:=znba (t:=t) (k:=k) (want:=want) r1
 have e1:=z7zd (k:=k) h ht
 have e2:=z6x6 (k:=k) r1 ht (want:=want)
 have e3:=zazc (k:=k) r2 ht
 have e4:idsQ (qLv k) (grpS tr ix t k want s).c.i.l=idsQ (qLv k) (grS3 t k (grS2 t k want (grS1 t k s))).c.i.l:=zszl
 have hr:z17v (grS2 t k want (grS1 t k s)).c k=z17v s.c k:=by
  rw [zouj r2.g hk,zouj h.g hk,zb41 r2.g hk,zb41 h.g hk,e2,e1]
 rw [hr,e2,e1] at e3
 rw [e4]
 exact e3
theorem zeq5 {p:Ins→Bool} {l:List Ins}:idsQ (fun x=>decide (x.grp=(k:Int))&&p x) l=idsQ p (part k l):=by
 unfold idsQ part
 rw [y0o]
 congr 2
 funext x
 rw [Bool.and_comm]
end
section
variable {c:Clu} {gr:List Int} {tr:List Tri} {ix:List Ixe} {t:Int} (hv:ValidC c) (hn:c.g.l.length≤3) (hw : ∀ g ∈ c.g.l,g.want≤3) (hi:c.i.l.length≤10) (ht:zcie t)
include hv hn hw hi in
theorem z6gx {k:Nat} : ∀ {m:Nat},m≤k→m≤c.g.l.length→part k (rndS tr ix t c m (rnd0 gr t c)).c.i.l=part k (rnd0 gr t c).c.i.l
 | 0,_,_=>rfl
 | m+1,h,hm=>by
  rw [← z6gx (k:=k) (m:=m) (by omega) (by omega)]
  exact zlyt (ztza hv hn hw hi (tr:=tr) (ix:=ix) (t:=t) (gr:=gr) (k:=m) (by omega)) (by omega)
include hv hn hw hi ht in
theorem zjg1 {k:Nat} (hk:k<c.g.l.length):zd1c (rndP tr ix gr t c).c k≤zd1c (rnd0 gr t c).c k∧(zd1c (rnd0 gr t c).c k:Int)-zd1c (rndP tr ix gr t c).c k≤z17v (rnd0 gr t c).c k:=by
 have rN:=ztza hv hn hw hi (tr:=tr) (ix:=ix) (t:=t) (gr:=gr) (k:=c.g.l.length) (y03 _)
 have rK:=ztza hv hn hw hi (tr:=tr) (ix:=ix) (t:=t) (gr:=gr) (k:=k) (by omega)
 have rS:=ztza hv hn hw hi (tr:=tr) (ix:=ix) (t:=t) (gr:=gr) (k:=k+1) (by omega)
 have r0:=zpyu hv (gr:=gr) (t:=t)
 have p1:part k (rndP tr ix gr t c).c.i.l=part k (rndS tr ix t c (k+1) (rnd0 gr t c)).c.i.l:=z7c1 hv hn hw hi (tr:=tr) (ix:=ix) (t:=t) (gr:=gr) (k:=k) (m:=c.g.l.length) hk (y03 _)
 have p0:part k (rndS tr ix t c k (rnd0 gr t c)).c.i.l=part k (rnd0 gr t c).c.i.l:=z6gx hv hn hw hi (y03 _) (by omega)
 have gN:(rndP tr ix gr t c).c.g.l.map gl=c.g.l.map gl:=rN.g
 have h:=z05g (tr:=tr) (ix:=ix) rK ht hk (want:=ze6v c k)
 have hr:z17v (rndS tr ix t c k (rnd0 gr t c)).c k=z17v (rnd0 gr t c).c k:=by
  rw [zouj rK.g hk,zouj r0.g hk,zb41 rK.g hk,zb41 r0.g hk]
  unfold qLv
  rw [zeq5,zeq5,p0]
 have l0:idsQ (qLv k) (rndS tr ix t c k (rnd0 gr t c)).c.i.l=idsQ (qLv k) (rnd0 gr t c).c.i.l:=by
  unfold qLv
  rw [zeq5,zeq5,p0]
 have l1:idsQ (qLv k) (rndP tr ix gr t c).c.i.l=idsQ (qLv k) (grpS tr ix t k (ze6v c k) (rndS tr ix t c k (rnd0 gr t c))).c.i.l:=by
  unfold qLv
  rw [zeq5,zeq5,p1]
  rfl
 have hr0:0≤z17v (rnd0 gr t c).c k:=by rw [zouj r0.g hk]; omega
 rw [hr,l0,← l1] at h
 rw [zb41 gN hk,zb41 r0.g hk]
 omega
end
end
section
set_option linter.unusedSimpArgs false
set_option linter.unusedVariables false
set_option maxRecDepth 20000
open Go Go.Am
theorem zklw {c:Clu} (hv:ValidC c) (id t:Int):chgR c id t 1 2 3=zjqu c id t 3:=by
 unfold chgR zjqu
 have e : ∀ n:Nat,(c.i.l[n]?).map (fun x=>mayR 1 2 x.state)=(c.i.l[n]?).map (fun x=>may 3 x.state):=fun n=>by
  cases h:c.i.l[n]? with
  | none=>rfl
  | some x =>
   obtain ⟨hn,e⟩:=List.getElem?_eq_some_iff.1 h
   have:=(zyak hv).s x (by rw [← e]; exact y09 hn)
   simp only [Option.map_some,mayR,may]
   rw [if_neg (by decide),← Bool.decide_or]
   exact congrArg some (decide_eq_decide.2 (by omega))
 rw [e]
noncomputable def dK (t:Int) (c:Clu) (V:List Int) (i:Nat):Rnd:=(V.take i).foldl (zepc t) ⟨c,[]⟩
theorem zttm {t:Int} {c:Clu} {V:List Int} {i:Nat} (h:i<V.length):dK t c V (i+1)=zepc t (dK t c V i) V[i]:=by
 unfold dK
 rw [List.take_succ_eq_append_getElem h,List.foldl_append]; rfl
theorem zabt {c:Clu} (hv:ValidC c) {t:Int} (ht:zcie t) {gr:List Int} (i:Nat):Vw (c.g.l.map gl) (dK t c (ze9z c.i.l 0 gr t) i) (mkS t ((ze9z c.i.l 0 gr t).take i) c.i.l) c.next ([]++zzoh c.i.l ((ze9z c.i.l 0 gr t).take i)):=by
 have h0:Vw (c.g.l.map gl) ⟨c,[]⟩ c.i.l c.next []:=⟨hv,rfl,rfl,rfl,rfl⟩
 exact (z40n (s:=⟨c,[]⟩) (s':=⟨c,[]⟩) ht h0 h0 ((zgrg hv (gr:=gr) (t:=t)).sublist (List.take_sublist _ _)) (fun id hid=>by obtain ⟨x,a,b,d,_⟩:=za3t id (y05 hid); exact ⟨x,a,b,d⟩)).2
noncomputable def zl7v:Tbl:=addT 12 (.new cScn) (addT 25 (.pure cRnd) (addT 32 (.pure z5kd) (addT 30 (.pure (cCi fun c i => .int .i64 (z092 c.i.l i))) (addT 33 (.pure (cCii fun c i t=>zbyq c i t 1 2 3)) (addT 34 (.pure (cCk zku6)) (addT 35 (.pure (cCkA LimC ze9k)) (addT 21 (.pure cTru) tbl0)))))))
theorem z6nu:zl7v 12 = .new cScn:=by simp [zl7v]
theorem zmqc:zl7v 25 = .pure cRnd:=by simp [zl7v]
theorem zk2z:zl7v 32 = .pure z5kd:=by simp [zl7v]
theorem zgq1:zl7v 30 = .pure (cCi fun c i => .int .i64 (z092 c.i.l i)):=by simp [zl7v]
theorem zoum:zl7v 33 = .pure (cCii fun c i t=>zbyq c i t 1 2 3):=by simp [zl7v]
theorem zlma:zl7v 34 = .pure (cCk zku6):=by simp [zl7v]
theorem zt6s:zl7v 35 = .pure (cCkA LimC ze9k):=by simp [zl7v]
theorem zf2k:zl7v 21 = .pure cTru:=by simp [zl7v]
theorem zzoo:zl7v.Sound P:=z0rp zr8u (z0rp zclv (z0rp z60y (z0rp zg2n (z0rp z5nl (z0rp zd5o (z0rp zoj4 (z0rp (zi1x zul1) zr5o)))))))
noncomputable def zh9v (o:List DV) (w:Tp) (t:Int) (c R:Clu) (V:List Int) (i:Nat):St:=a9S0 (.mp 3 8 0) (.mp 4 3 0) (liV V) (.mp 5 3 0) (.int .i64 i) [.cells o,.cells (tpC w),.cells o,.cells o,.cells (clC R),.cells (clC (dK t c V i).c)]
noncomputable def zvke (o:List DV) (w:Tp) (R D:Clu) (k:Nat):St:=a9S1 (.mp 3 8 0) (.mp 4 3 0) (.mp 5 3 0) (.int .i64 k) [.cells o,.cells (tpC w),.cells o,.cells o,.cells (clC R),.cells (clC D)]
theorem zfh4 (x:Nl):Runs zl7v a9 [x.dv] (.bool true):=by
 refine ⟨?_⟩
 obtain ⟨u,hu⟩ : ∃ u,tp0 x 300=u:=⟨_,rfl⟩
 have hua:u.at_=0:=by rw [← hu]; rfl
 have hS:=fun n=>zd92 (x:=x) (n:=n)
 rw [hu] at hS
 obtain ⟨a,hf⟩:=ztew u hua
 obtain ⟨s,hs⟩ : ∃ s,(scnV u).1=s:=⟨_,rfl⟩
 rw [hs] at hf hS
 obtain ⟨w,hw⟩ : ∃ w,(scnV u).2=w:=⟨_,rfl⟩
 rw [hw] at hS
 have hR:=zunp hf.ok
 have hxx:xiC a.x=[.int .i64 0,isV s.x]:=by unfold xiC; rw [hf.x0,hf.x]
 rw [hxx,hf.tr,hf.gr,hf.c,hf.t] at hR
 have hO:=zota (c:=a.c) (g:=a.gr) (t:=a.t) ⟨hf.ok.ov,fun x hx=>⟨((zyak hf.v).s x hx).1,((zyak hf.v).s x hx).2.1⟩⟩
 rw [hf.c,hf.t,hf.gr] at hO
 have hx:=zkx7 x
 have ho8:scnC s=o8 s.c (.int .i64 0) (isV s.x) (trV s.tr) (liV s.gr) (.int .i64 s.t):=rfl
 rw [ho8] at hS
 have s8:=fun H=>zws3 (c:=s.c) (a := .int .i64 0) (b:=isV s.x) (d:=trV s.tr) (e:=liV s.gr) (f := .int .i64 s.t) (H:=H) (id:=3) rfl (zcwq _) (zq54 _) (zj6i _) rfl
 have l0:oneC 1 false (o8 s.c (.int .i64 0) (isV s.x) (trV s.tr) (liV s.gr) (.int .i64 s.t))=some (s.c.g.dv 6 grC):=rfl
 have l3:oneC 2 true ((o8 s.c (.int .i64 0) (isV s.x) (trV s.tr) (liV s.gr) (.int .i64 s.t)).drop 3)=some (.agg [.int .i64 0,isV s.x]):=rfl
 have l5:oneC 1 false ((o8 s.c (.int .i64 0) (isV s.x) (trV s.tr) (liV s.gr) (.int .i64 s.t)).drop 5)=some (trV s.tr):=rfl
 have l6:oneC 1 false ((o8 s.c (.int .i64 0) (isV s.x) (trV s.tr) (liV s.gr) (.int .i64 s.t)).drop 6)=some (liV s.gr):=rfl
 have l7:oneC 1 false ((o8 s.c (.int .i64 0) (isV s.x) (trV s.tr) (liV s.gr) (.int .i64 s.t)).drop 7)=some (.int .i64 s.t):=rfl
 have l8:oneC 3 true (o8 s.c (.int .i64 0) (isV s.x) (trV s.tr) (liV s.gr) (.int .i64 s.t))=some (.agg (clC s.c)):=rfl
 have hlo : ∀ c a b d e f,(o8 c a b d e f).length=8:=fun c a b d e f=>rfl
 have hpc:=fun c=>zy11 c
 have hpv:=zm03 s.x
 have hpt:=znen s.tr
 have hpg:=z4yh s.gr
 have hRI:=ztza hf.v hf.n hf.w hf.i (tr:=a.tr.l) (ix:=a.x.e.l) (t:=a.t) (gr:=a.gr.l) (k:=a.c.g.l.length) (y03 _)
 obtain ⟨W,N,q⟩:=z6bz (tr:=a.tr.l) (ix:=a.x.e.l) (gr:=a.gr.l) hf.v hf.n hf.w hf.i hf.tm
 have hlim:=fun k hk=>zjg1 (tr:=a.tr.l) (ix:=a.x.e.l) (gr:=a.gr.l) hf.v hf.n hf.w hf.i hf.tm (k:=k) hk
 have hD0:=fun i=>zabt hf.v hf.tm (gr:=a.gr.l) i
 have h0:=zwot (tr:=a.tr.l) (ix:=a.x.e.l) (gr:=a.gr.l) hf.v hf.tm
 have h0g:=(zpyu hf.v (gr:=a.gr.l) (t:=a.t)).g
 have hin:=fun id hid=>za3t (l:=a.c.i.l) (gr:=a.gr.l) (t:=a.t) id hid
 have hVl:=z9p7 (gr:=a.gr.l) (t:=a.t) (l:=a.c.i.l) (j:=0)
 have hRS:rndS a.tr.l a.x.e.l a.t a.c a.c.g.l.length (rnd0 a.gr.l a.t a.c)=rndP a.tr.l a.x.e.l a.gr.l a.t a.c:=rfl
 rw [hRS] at hRI
 have hv:=hf.v
 have hn3:=hf.n
 have hi10:=hf.i
 have htm:=hf.tm
 rw [hf.c] at hv hn3 hi10
 rw [hf.t] at htm
 rw [hf.c,hf.t] at hRI q hlim hD0 h0 h0g hin hVl
 obtain ⟨R,hRR⟩ : ∃ R,rndP a.tr.l a.x.e.l a.gr.l s.t s.c=R:=⟨_,rfl⟩
 rw [hRR] at hR hRI q hlim
 obtain ⟨r0,hr0⟩ : ∃ r0,rnd0 a.gr.l s.t s.c=r0:=⟨_,rfl⟩
 rw [hr0] at hlim h0 h0g
 obtain ⟨V,hVV⟩ : ∃ V,ze9z s.c.i.l 0 a.gr.l s.t=V:=⟨_,rfl⟩
 rw [hVV] at hO q h0 hin hVl
 simp only [hVV] at hD0
 have hst3 : ∀ (C:Clu) (h:List AObj) (id:Nat) (z:List DV),z.length=3→zy6o h id 3 0 (.agg (clC C)) (some z)=some (.junk,h.set id (.cells (clC C))):=fun C h id z hz=>zfc1 rfl hz (by simp [clC,z4ja])
 have hstops : ∀ id ∈ V,∃ (p:Nat) (hp:p<R.c.i.l.length),z092 R.c.i.l id=p∧R.c.i.l[p].state=3:=fun id hid=>by
  obtain ⟨y,hy,e,_,_⟩:=hin id hid
  have hm:stI s.t y ∈ R.c.i.l:=by
   rw [q.l]
   refine y01.2 (.inl (y08.2 ⟨y,hy,?_⟩))
   rw [if_pos (by rw [e]; exact y01.2 (.inl hid))]
  obtain ⟨p,hp,e2⟩:=y07 hm
  refine ⟨p,hp,?_,by rw [e2]; rfl⟩
  have:R.c.i.l[p].id=id:=by rw [e2]; exact e
  rw [← this]
  exact zvud (zyak hRI.v).d hp
 simp (disch:=first|omega|simp<;>omega|fail) [-zA,-zB,-zC,-zD,-zE,a9,z6nu,hS,hx,s8,o8_3,l3,l5,l6,l7,l8,hlo,zmqc,hR,rdV,hpc,hpv,hpt,hpg,hst3,zk2z,hO]
 obtain ⟨o,ho⟩ : ∃ o,o8 s.c (.int .i64 0) (isV s.x) (trV s.tr) (liV s.gr) (.int .i64 s.t)=o:=⟨_,rfl⟩
 have hol:o.length=8:=by rw [← ho]; rfl
 have hop:zbao o=true:=by rw [← ho]; exact zpl6 s
 rw [ho] at l0 l7 ⊢
 have hl3 : ∀ C,(clC C).length=3:=fun C=>rfl
 have hcl : ∀ C,oneC 3 true (clC C)=some (.agg (clC C)):=fun C=>rfl
 have hi1 : ∀ C,oneC 1 false ((clC C).drop 1)=some (C.i.dv 37 inC):=fun C=>rfl
 have hd0:(dK s.t s.c V 0).c=s.c:=rfl
 refine zlm5 (zh9v o w s.t s.c R.c V) (fun k=>V.length-k) (fun k=>k≤V.length) 0 (z515 (by simp (disch:=first|omega|simp<;>omega|fail) [-zA,-zB,-zC,-zD,-zE,zh9v,a9S0]) (by simp (disch:=first|omega|simp<;>omega|fail) [-zA,-zB,-zC,-zD,-zE,zh9v,a9S0,hd0])) (y0r _) (fun i hi => ?_)
 simp only [zh9v]
 by_cases h:i<V.length
 ·have h':(i:Int)<V.length:=by omega
  have hix:=fun H=>zcq2 H h
  obtain ⟨p,hp,f1,f3⟩:=hstops V[i] (y09 h)
  have hfi:=z3mn (g:=fun c i => .int .i64 (z092 c.i.l i)) (x:=R.c) (a:=V[i])
  simp only [f1] at hfi
  have hip:=fun H=>zalo (x:=R.c.i) (h:=H) z6gw hp
  have hsu:=zttm (t:=s.t) (c:=s.c) h
  have hDv:=(hD0 i).v
  obtain ⟨D,hD⟩ : ∃ D,dK s.t s.c V i=D:=⟨_,rfl⟩
  rw [hD] at hsu hDv ⊢
  have hsp:=zl2e (f:=fun c i t=>zbyq c i t 1 2 3) (c:=D.c) (g:=V[i]) (t:=s.t)
  obtain ⟨id,hid⟩ : ∃ id,V[i]=id:=⟨_,rfl⟩
  rw [hid] at hix hfi hsp hsu
  have hsp:cCii (fun c i t=>zbyq c i t 1 2 3) [.agg (clC D.c),.int .i64 id,.int .i64 s.t]=some (.tup [.agg (clC (zepc s.t D id).c),.int .i64 (zjqu D.c id s.t 3).2]):=by
   rw [hsp]; simp only [zbyq,zklw hDv]; rfl
  rw [← hsu] at hsp
  obtain ⟨D',hD'⟩ : ∃ D',dK s.t s.c V (i+1)=D':=⟨_,rfl⟩
  rw [hD'] at hsp
  obtain ⟨y,hy⟩ : ∃ y,R.c.i.l[p]=y:=⟨_,rfl⟩
  rw [hy] at hip f3
  have hpn:¬ (p:Int)<0:=by omega
  simp (disch:=first|omega|simp<;>omega|fail) [-zA,-zB,-zC,-zD,-zE,a9L0,a9S0,h,h',zo8b,hl3,hcl,hi1,hix,zgq1,hfi,hpn,hip,zvh3,f3,hpc,l7,hol,zoum,hsp,hst3]
  exact ⟨i+1,z515 (by simp (disch:=first|omega|simp<;>omega|fail) [-zA,-zB,-zC,-zD,-zE,zh9v,a9S0]) (by simp (disch:=first|omega|simp<;>omega|fail) [-zA,-zB,-zC,-zD,-zE,zh9v,a9S0,hD']),by omega,by omega⟩
 have h':¬ (i:Int)<V.length:=by omega
 obtain rfl:i=V.length:=by omega
 have hDw:=hD0 V.length
 rw [y0g (y03 _)] at hDw
 obtain ⟨D,hD⟩ : ∃ D,dK s.t s.c V V.length=D:=⟨_,rfl⟩
 rw [hD] at hDw ⊢
 have hDl:D.c.i.l=r0.c.i.l:=by rw [hDw.i,h0.l,y06]
 have hll:=fun k (hk:k<s.c.g.l.length)=>show zd1c D.c k=zd1c r0.c k by rw [zb41 hDw.g hk,zb41 h0g hk,hDl]
 have hrr:=fun k (hk:k<s.c.g.l.length)=>show z17v D.c k=z17v r0.c k by rw [zouj hDw.g hk,zouj h0g hk,hll k hk]
 have hLim:=zo0d hDw.v
 have hlg : ∀ H,lenD H (s.c.g.dv 6 grC)=some (.int .i64 s.c.g.l.length):=fun H=>zupj
 simp (disch:=first|omega|simp<;>omega|fail) [-zA,-zB,-zC,-zD,-zE,a9L0,a9S0,h,h',zo8b]
 refine zlm5 (zvke o w R.c D.c) (fun k=>s.c.g.l.length-k) (fun k=>k≤s.c.g.l.length) 0 (z515 (by simp (disch:=first|omega|simp<;>omega|fail) [-zA,-zB,-zC,-zD,-zE,zvke,a9S1]) (by simp (disch:=first|omega|simp<;>omega|fail) [-zA,-zB,-zC,-zD,-zE,zvke,a9S1])) (y0r _) (fun k hk => ?_)
 simp only [zvke]
 by_cases g:k<s.c.g.l.length
 ·have g':(k:Int)<s.c.g.l.length:=by omega
  obtain ⟨a1,a2⟩:=hlim k g
  rw [← hll k g] at a1 a2
  rw [← hrr k g] at a2
  have e1:=ztaz (f:=zku6) (c:=D.c) (k:=k)
  have e2:=ztaz (f:=zku6) (c:=R.c) (k:=k)
  have e3:=ztpi (A:=LimC) (f:=ze9k) (c:=D.c) (k:=k) hLim
  simp only [zku6] at e1 e2
  simp only [ze9k] at e3
  rw [zqb9 hDw.v,zqb9 hRI.v] at a1 a2
  rw [z6ez hDw.v] at a2
  have hb1:cntR k D.c.i.l≤D.c.i.l.length:=y0t _ _
  have hb2:D.c.i.l.length≤10:=by rw [hDw.i,zo9a]; exact hi10
  obtain ⟨A,hA⟩ : ∃ A,cntR k D.c.i.l=A:=⟨_,rfl⟩
  obtain ⟨B,hB⟩ : ∃ B,cntR k R.c.i.l=B:=⟨_,rfl⟩
  obtain ⟨M,hM⟩ : ∃ M,zv6d D.c k=M:=⟨_,rfl⟩
  rw [hA] at a1 a2 e1 hb1
  rw [hB] at a1 a2 e2
  rw [hM] at a2 e3
  have n1:¬ (A:Int)-B<0:=by omega
  have n2:¬ M<(A:Int)-B:=by omega
  simp (disch:=first|omega|simp<;>omega|fail) [-zA,-zB,-zC,-zD,-zE,a9L1,a9S1,g,g',l0,hlg,hol,hl3,hcl,zlma,e1,e2,hpc,n1,n2,zt6s,e3]
  exact ⟨k+1,z515 (by simp (disch:=first|omega|simp<;>omega|fail) [-zA,-zB,-zC,-zD,-zE,zvke,a9S1]) (by simp (disch:=first|omega|simp<;>omega|fail) [-zA,-zB,-zC,-zD,-zE,zvke,a9S1]),by omega,by omega⟩
 ·have g':¬ (k:Int)<s.c.g.l.length:=by omega
  simp (disch:=first|omega|simp<;>omega|fail) [-zA,-zB,-zC,-zD,-zE,a9L1,a9S1,g,g',l0,hlg,hol,zf2k,cTru]
namespace evictorLimits
theorem law_holds (dvs) (h:Ty.Args [.sl (.int .i64)] dvs):Am.Sem P 9 dvs (.bool true):=by
 obtain ⟨d1,l1,rfl,h1,rfl⟩:=h
 obtain ⟨x,_,hx⟩:=zjzy h1
 cases hx
 exact zljw mix zzoo Tryz.func9 z528 (zfh4 x)
end evictorLimits
end
end Go.Proofs.YtaihpefemjlilaaGreatDoor
