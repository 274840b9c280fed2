/-
  6 texts of mine in one.
-/
import Derived.Test.YtaihpefemjlilaaGreatDoorC93fe9752
import Derived.Test.YtaihpefemjlilaaGreatDoorCca1ba563
import Derived.Test.YtaihpefemjlilaaGreatDoorCab9f7e71
import Derived.Test.YtaihpefemjlilaaGreatDoorCbc0e19a5
import Derived.Test.YtaihpefemjlilaaGreatDoorCea1547b8
import Derived.Test.YtaihpefemjlilaaGreatDoorCcbf0dea8
import Derived.Test.YtaihpefemjlilaaGreatDoorC5c683c40
set_option maxRecDepth 20000
set_option maxHeartbeats 4000000
open List renaming map_take → zA, map_drop → zB, map_set → zC, map_append → zD, drop_one → zE
open Bool renaming false_eq_true → y06
open List renaming take_of_length_le → y00, length_singleton → y01, length_append → y02, take_succ_eq_append_getElem → y03, append_nil → y04, length_take → y05, flatMap_cons → y07, drop_eq_getElem_cons → y08, length_set → y09, nil_append → y0a, eq_nil_of_length_eq_zero → y0b, set_append_right → y0c, getElem_append_right → y0e, cons_append → y0g, length_replicate → y0h, flatMap_append → y0i, take_zero → y0j, getD_eq_getElem?_getD → y0k, getElem?_eq_getElem → y0l, length_cons → y0m, length_drop → y0n, drop_of_length_le → y0o, length_pos_iff → y0q, getElem_of_mem → y0r
open Nat renaming le_refl → y0d, zero_le → y0f, pow_le_pow_right → y0p, zero_add → y0s, sub_self → y0t
namespace Go.Proofs.YtaihpefemjlilaaGreatDoor
section
set_option linter.unusedSimpArgs false
set_option linter.unusedVariables false
set_option maxRecDepth 20000
open Go Go.Am
theorem zmew {l m:List Tri} (hl:l.length≤100000) (hm:m.length≤100000) (e:trV l=trV m):l=m:=by
 rw [← z3eh hl,← z3eh hm] at e
 have:=z47i e
 exact congrArg Sl.l this
theorem z6a4 {l:List Tri} (h:l≠[]):trV l = .sl false 35 l.length (fl trC l):=if_neg h
theorem zaar {l:List Tri} (h:l≠[]):trV l = .sl false 35 l.length (l.flatMap trC):=if_neg h
theorem zsgr (l:List Tri) (hl:l.length≤100000):RunsH tbl0 a43 [trV l] [] (oV 0 35 l) (oT trC l):=by
 refine ⟨?_⟩
 by_cases h:l=[]
 ·subst h
  simp (disch:=first|omega|simp<;>omega|fail) [-zA,-zB,-zC,-zD,-zE,a43,trV,oV,oT]
 ·have h1:=z1rq zezj l
  have h2:=z9jy zms9 l
  have h3:0<l.length:=y0q.2 h
  rw [zaar h,zpni h,zu2l h]
  simp (disch:=first|omega|simp<;>omega|fail) [-zA,-zB,-zC,-zD,-zE,a43,h1,h2,h3,fl]
abbrev TL:={ l:List Tri // l.length≤100000 }
theorem zhma {a b:TL} (e:trV a.1=trV b.1):a=b:=Subtype.ext (zmew a.2 b.2 e)
noncomputable def cTcl:List DV→Nat→Option (DV × List AObj):=conN (fun _=>True) (fun l:TL=>[trV l.1]) (fun l=>(oV 0 35 l.1,oT trC l.1))
theorem z3bo {n:Nat} {l:List Tri}:shD n (oV 0 35 l)=oV n 35 l:=by unfold oV; split<;>simp
theorem zcjy {n:Nat} {l:List Tri}:(oT trC l).map (shO n)=oT trC l:=by
 unfold oT; split
 ·rfl
 ·simp only [List.map_cons,List.map_nil,shO,fl,zj45 _ _ (zp6k z1zd l)]
theorem zg2p {l:List Tri} (hl:l.length≤100000) {n:Nat}:cTcl [trV l] n=some (oV n 35 l,oT trC l):=by
 have:=zqtp (A:=fun _=>True) (f:=fun l:TL=>[trV l.1]) (g:=fun l=>(oV 0 35 l.1,oT trC l.1)) (fun a b e=>by
  have h:trV a.1=trV b.1:=by simpa using e
  rw [zhma h]) ⟨l,hl⟩ trivial n
 rw [cTcl,this,z3bo,zcjy]
theorem zq8d:(Con.new cTcl).Sound P 43:=z3ld (fun x _=>by simp [zbao,znen]) fun x _=>zv22 mix zr5o Tryz.func43 zbv8 (zsgr x.1 x.2)
theorem znpg (d:Dg) (l:List Tri) (y:Tri) (h:l≠[]) (hl:l.length≤100000):RunsH tbl0 a44 [.ms 1 (l.length*35) 0 35 l.length (l.length*35),.int .i64 l.length,.sl true 35 1 (trC y)] [.cells (dgC d),.cells (fl trC l)]
  (.ms 1 ((l.length+1)*35) 0 35 (l.length+1) ((l.length+1)*35)) [.cells (dgC d),.cells (fl trC (l++[y]))]:=by
 refine ⟨?_⟩
 have h1:=zezj y
 have h2:=zms9 y
 have h3:=z8lx zezj l
 have h4:fl trC (l++[y])=fl trC l++trC y:=by unfold fl; simp
 have h5:0<l.length:=y0q.2 h
 rw [h4]
 simp (disch:=first|omega|simp<;>omega|fail) [-zA,-zB,-zC,-zD,-zE,a44,h1,h2,h3,h5,Nat.add_mul]
theorem zz19 {l:List Tri} {i:Nat} {y:Tri}:(fl trC l).take (i*35)++trC y++(fl trC l).drop (i*35)=fl trC (l.take i++y::l.drop i):=by
 unfold fl
 rw [z10w zezj,zkb2 zezj,y0i,y07,List.append_assoc]
theorem z861 (d:Dg) (l:List Tri) (y:Tri) (i:Nat) (h:l≠[]) (hi:i≤l.length) (hl:l.length≤100000) : ∃ tl:List AObj,(tl=[]∨tl=[.dead]) ∧
  zwy1 P 44 [.ms 1 (l.length*35) 0 35 l.length (l.length*35),.int .i64 i,.sl true 35 1 (trC y)] [.cells (dgC d),.cells (fl trC l)]
   (fun v k=>v = .ms 1 ((l.length+1)*35) 0 35 (l.length+1) ((l.length+1)*35)∧k = .cells (dgC d) :: .cells (fl trC (l.take i++y::l.drop i))::tl):=by
 by_cases e:i=l.length
 ·subst e
  refine ⟨[],.inl rfl,?_⟩
  rw [List.take_length,List.drop_length]
  exact zv22 mix zr5o Tryz.func44 zeo7 (znpg d l y h hl)
 ·refine ⟨[.dead],.inr rfl,?_⟩
  have:=zfge (h:=[.cells (dgC d),.cells (fl trC l)]) (id:=1) (n:=l.length) (i:=i) (lim:=l.length*35) (l:=fl trC l) (xs:=trC y) rfl (z8lx zezj l) (by omega) hl (zezj y) (z9jy zms9 l) (zms9 y)
  rw [zz19] at this
  exact this
theorem zjc0 {L:List Tri} {k o:Nat} (hk:k<L.length) (ho:o<35) {v:DV} {y:Tri} (h:trC y=(trC L[k]).set o v):(fl trC L).set (k*35+o) v=fl trC (L.set k y):=by
 induction L generalizing k with
 | nil=>simp at hk
 | cons c r ih =>
  cases k with
  | zero =>
   simp only [List.getElem_cons_zero] at h
   simp only [fl,y07,List.set_cons_zero,Nat.zero_mul,y0s]
   rw [h,List.set_append_left _ _ (by rw [zezj]; exact ho)]
  | succ k =>
   simp only [List.getElem_cons_succ] at h
   have:=ih (k:=k) (by simpa using hk) h
   simp only [fl,y07,List.set_cons_succ] at this ⊢
   rw [y0c _ _ (by rw [zezj,Nat.succ_mul]; omega),zezj,show (k+1)*35+o-35=k*35+o by omega,this]
theorem zccs {L:List Tri} {k:Nat} (hk:k<L.length):oneC 1 false ((fl trC L).drop (k*35+33))=some (.int .i64 L[k].fl):=by
 rw [← List.drop_drop,fl,zkb2 zezj,y08 hk,y07,List.drop_append_of_le_length (by rw [zezj]; omega),znnr]
 rfl
theorem z5hn {L:List Tri} {k:Nat} (hk:k<L.length) (v:Int) (h:List AObj) (id:Nat):zy6o h id 1 (k*35+33) (.int .i64 v) (some (fl trC L))=some (.junk,h.set id (.cells (fl trC (L.set k ⟨L[k].grp,L[k].art,v,L[k].af⟩)))):=by
 rw [ziq3 (by rw [z8lx zezj]; omega),zjc0 hk (by decide) (y:=⟨L[k].grp,L[k].art,v,L[k].af⟩) (by rw [zmda])]
theorem z3w3 {L:List Tri} {k:Nat} (hk:k<L.length) (v:Int) (h:List AObj) (id:Nat):zy6o h id 1 (k*35+34) (.int .i64 v) (some (fl trC L))=some (.junk,h.set id (.cells (fl trC (L.set k ⟨L[k].grp,L[k].art,L[k].fl,v⟩)))):=by
 rw [ziq3 (by rw [z8lx zezj]; omega),zjc0 hk (by decide) (y:=⟨L[k].grp,L[k].art,L[k].fl,v⟩) (by rw [zaat])]
def bump (x:Tri) (t:Int):Tri:=⟨x.grp,x.art,min (x.fl+1) 16,min (t+2 ^ (min (x.fl+1) 16).toNat) 1099511627776⟩
def z478 (l:List Tri) (g:Int) (d:Dg):Tri:=if fOf (cmpT g d) l then l.getD (kOf (cmpT g d) l) ⟨g,d,0,0⟩ else ⟨g,d,0,0⟩
def z2m7 (l:List Tri) (g:Int) (d:Dg) (t:Int):List Tri:=l.take (kOf (cmpT g d) l)++bump (z478 l g d) t::l.drop (if fOf (cmpT g d) l then kOf (cmpT g d) l+1 else kOf (cmpT g d) l)
noncomputable def zbou:Tbl:=addT 42 (.pure cSrc) (addT 43 (.new cTcl) (addT 44 (.new cTi) tbl0))
theorem zqj8:zbou 42 = .pure cSrc:=by simp [zbou]
theorem zvx8:zbou 43 = .new cTcl:=by simp [zbou]
theorem zxb9:zbou 44 = .new cTi:=by simp [zbou]
theorem ztbe:zbou.Sound P:=z0rp zev6 (z0rp zq8d (z0rp (z3ld (fun x _=>by simp [zbao,zyp8,z1zd]) fun x _=>zv22 mix zr5o Tryz.func44 zeo7 (znij x)) zr5o))
theorem zmwj (l:List Tri) (g:Int) (d:Dg) (t:Int) (hl:l.length≤1000) (hm:Mono (cmpT g d) l) (hf : ∀ y ∈ l,0≤y.fl∧y.fl≤16) (h0:0≤t) (h1:t≤1099511627776) :
  Am.Sem P 15 [trV l,.int .i64 g,.agg (dgC d),.int .i64 t] (trV (z2m7 l g d t)):=by
 have hs:cSrc [trV l,.int .i64 g,.agg (dgC d)]=some (.tup [.int .i64 (kOf (cmpT g d) l),.bool (fOf (cmpT g d) l)]):=by
  have:=ztk4 (x:=trSl l (by omega)) (g:=g) (d:=d) hm
  rwa [z3eh] at this
 have hk:=zg29 (cmpT g d) l
 have hpv:=znen l
 unfold z2m7 z478
 have h1d:oneC 32 true (dgC d)=some (.agg (dgC d)):=by simp [oneC,z1t1,y00]
 have hp:=fun x=>z1zd x
 obtain ⟨k,hke⟩ : ∃ k,kOf (cmpT g d) l=k:=⟨_,rfl⟩
 rw [hke] at hs hk ⊢
 have hcl:=fun n=>zg2p (l:=l) (by omega) (n:=n)
 -- what is done with the try
 have fin : ∀ (L:List Tri) (x:Tri),k<L.length→0≤x.fl→x.fl≤16→True:=fun _ _ _ _ _=>trivial
 cases hfo:fOf (cmpT g d) l with
 | true =>
  obtain ⟨hk1,hk2⟩:=zsfp hfo
  simp only [hke] at hk1 hk2
  have hx:=hf l[k] (List.getElem_mem hk1)
  obtain ⟨x,hxe⟩ : ∃ x,l[k]=x:=⟨_,rfl⟩
  rw [hxe] at hx
  have hgd:l.getD k ⟨g,d,0,0⟩=x:=by rw [y0k,y0l hk1,hxe]; rfl
  simp only [if_true,hgd]
  obtain ⟨m,hme⟩ : ∃ m,min (x.fl+1) 16=m:=⟨_,rfl⟩
  have hm0:0≤m∧m≤16:=by omega
  have hpw:(2:Int) ^ m.toNat≤65536∧0≤(2:Int) ^ m.toNat:=by
   obtain ⟨k,rfl⟩ : ∃ k:Nat,m=k:=⟨m.toNat,by omega⟩
   have:k≤16:=by omega
   constructor
   ·have h2:(2:Nat) ^ k≤2 ^ 16:=y0p (by decide) this
    have e:(2:Int) ^ k=((2 ^ k:Nat):Int):=by simp
    rw [Int.toNat_natCast,e]
    omega
   ·exact Int.le_of_lt (Int.pow_pos (by decide))
  unfold bump
  rw [hme]
  obtain ⟨pw,hpe⟩ : ∃ pw,(2:Int) ^ m.toNat=pw:=⟨_,rfl⟩
  rw [hpe] at hpw ⊢
  rw [hfo] at hs
  have hne:l≠[]:=fun e=>by subst e; simp at hk1
  have hll:=z8lx zezj l
  obtain ⟨n,hn⟩ : ∃ n,l.length=n:=⟨_,rfl⟩
  have o33:=zccs hk1
  have s33:=fun v h id=>z5hn hk1 v h id
  rw [hxe] at o33 s33
  obtain ⟨L1,hL1⟩ : ∃ L1,l.set k ⟨x.grp,x.art,m,x.af⟩=L1:=⟨_,rfl⟩
  have hk3:k<L1.length:=by rw [← hL1,y09]; exact hk1
  have hL1k:L1[k]=⟨x.grp,x.art,m,x.af⟩:=by subst hL1; simp
  have hl1:=z8lx zezj L1
  have o33':=zccs hk3
  have s34:=fun v h id=>z3w3 hk3 v h id
  rw [hL1k] at o33' s34
  have hL1n:L1.length=n:=by rw [← hL1,y09,hn]
  obtain ⟨L2,hL2⟩ : ∃ L2,L1.set k ⟨x.grp,x.art,m,min (t+pw) 1099511627776⟩=L2:=⟨_,rfl⟩
  have hL2e:l.take k++⟨x.grp,x.art,m,min (t+pw) 1099511627776⟩::l.drop (k+1)=L2:=by
   rw [← hL2,← hL1,List.set_set,List.set_eq_take_append_cons_drop,if_pos hk1]
  have hL2n:L2.length=n:=by rw [← hL2,y09,hL1n]
  have hl2:=z8lx zezj L2
  have hL2ne:L2≠[]:=fun e=>by rw [e] at hL2n; simp at hL2n; omega
  rw [hL2e,z6a4 hL2ne,hL2n]
  have htk:(fl trC L2).take (n*35)=fl trC L2:=y00 (by rw [hl2,hL2n]; exact y0d _)
  have hsn : ∀ (H:List AObj) k,z4tt H k (fl trC L2)=some (fl trC L2):=fun H k=>z619 (zp6k z1zd L2)
  have hpl:zbao (fl trC L2)=true:=zp6k z1zd L2
  refine zljw mix ztbe Tryz.func15 zz37 ⟨?_⟩
  simp only [zpni hne,zu2l hne,hn] at hcl
  rw [hn] at hll hk1
  rw [hL1n] at hl1
  rw [hL2n] at hl2
  have hk1':(k:Int)<n:=by omega
  simp (disch:=first|omega|simp<;>omega|fail) [-zA,-zB,-zC,-zD,-zE,a15,z1t1,h1d,hpv,zqj8,hs,zvx8,hcl,z3ot,zluv,zy6n,hll,hk1,hk1',o33,s33,hme,hL1,hl1,hL1n,o33',hpe,s34,hL2,hl2,hL2n,htk,hsn,hm0,hpw]
  done
 | false =>
  rw [hfo] at hs
  simp only [y06,if_false]
  obtain ⟨pw,hpe⟩ : ∃ pw:Int,min (t+2) 1099511627776=pw:=⟨_,rfl⟩
  have hb:bump ⟨g,d,0,0⟩ t=⟨g,d,1,pw⟩:=by rw [← hpe]; rfl
  rw [hb]
  have hm1:min (1:Int) 16=1:=by decide
  have hw:(2:Int) ^ (1:Int).toNat=2:=rfl
  by_cases hne:l=[]
  ·subst hne
   obtain rfl:k=0:=by simpa using hk
   refine zljw mix ztbe Tryz.func15 zz37 ⟨?_⟩
   have hl:=fun x=>zezj x
   have htk : ∀ x,(trC x).take 35=trC x:=fun x=>y00 (by rw [zezj]; omega)
   have hsn : ∀ (H:List AObj) k x,z4tt H k (trC x)=some (trC x):=fun H k x=>z619 (z1zd x)
   have hv0:trV [] = .nils:=rfl
   have hv1:trV [(⟨g,d,1,pw⟩:Tri)] = .sl false 35 1 (trC ⟨g,d,1,pw⟩):=by rw [zaar (by simp)]; simp
   simp only [zl8p,zkrk] at hcl
   rw [hv0] at hs hcl hpv ⊢
   simp only [List.take_nil,List.drop_nil,y0a]
   rw [hv1]
   simp (disch:=first|omega|simp<;>omega|fail) [-zA,-zB,-zC,-zD,-zE,a15,z1t1,h1d,hpv,zqj8,hs,zvx8,hcl,zxb9,z3ze,z8tf,z72h,hl,hp,z3ot,z7jg,zvt0,zr50,zluv,zy6n,hm1,hw,hpe,htk,hsn]
  ·obtain ⟨L,hL⟩ : ∃ L,l.take k++(⟨g,d,0,0⟩:Tri)::l.drop k=L:=⟨_,rfl⟩
   obtain ⟨n,hn⟩ : ∃ n,l.length=n:=⟨_,rfl⟩
   have hLn:L.length=n+1:=by rw [← hL,y02,y0m,y05,y0n]; omega
   have hkl:(l.take k).length=k:=by rw [y05]; omega
   obtain ⟨tl,htl,hci⟩:=z861 d l ⟨g,d,0,0⟩ k hne hk (by omega)
   rw [hL] at hci
   obtain ⟨TB,fB,sB,b1,b2,b3⟩:=exTH ztbe hci
   have b4:TB 42 = .pure cSrc:=(b3 _ (by decide)).trans zqj8
   have b5:TB 43 = .new cTcl:=(b3 _ (by decide)).trans zvx8
   have hk1:k<L.length:=by omega
   have hk1':(k:Int)<((n+1:Nat):Int):=by omega
   have hk1'':(k:Int)<(n:Int)+1:=by omega
   have hLk:L[k]=⟨g,d,0,0⟩:=by
    subst hL; rw [y0e (by omega)]; simp [hkl]
   have hll:=z8lx zezj l
   have hlL:=z8lx zezj L
   have o33:=zccs hk1
   have s33:=fun v h id=>z5hn hk1 v h id
   rw [hLk] at o33 s33
   obtain ⟨L1,hL1⟩ : ∃ L1,L.set k ⟨g,d,1,0⟩=L1:=⟨_,rfl⟩
   have hk3:k<L1.length:=by rw [← hL1,y09]; exact hk1
   have hL1k:L1[k]=⟨g,d,1,0⟩:=by subst hL1; simp
   have hl1:=z8lx zezj L1
   have o33':=zccs hk3
   have s34:=fun v h id=>z3w3 hk3 v h id
   rw [hL1k] at o33' s34
   have hL1n:L1.length=n+1:=by rw [← hL1,y09,hLn]
   obtain ⟨L2,hL2⟩ : ∃ L2,L1.set k ⟨g,d,1,pw⟩=L2:=⟨_,rfl⟩
   have hL2e:l.take k++⟨g,d,1,pw⟩::l.drop k=L2:=by
    rw [← hL2,← hL1,List.set_set,← hL,y0c _ _ (by omega),hkl,y0t,List.set_cons_zero]
   have hL2n:L2.length=n+1:=by rw [← hL2,y09,hL1n]
   have hl2:=z8lx zezj L2
   have hL2ne:L2≠[]:=fun e=>by rw [e] at hL2n; simp at hL2n
   rw [hL2e,z6a4 hL2ne,hL2n]
   have htk:(fl trC L2).take ((n+1)*35)=fl trC L2:=y00 (by rw [hl2,hL2n]; exact y0d _)
   have hsn : ∀ (H:List AObj) k,z4tt H k (fl trC L2)=some (fl trC L2):=fun H k=>z619 (zp6k z1zd L2)
   have hpl:zbao (fl trC L2)=true:=zp6k z1zd L2
   refine zljw mix sB Tryz.func15 zz37 ⟨?_⟩
   simp only [zpni hne,zu2l hne,hn] at hcl
   rw [hn] at hll b2
   rw [hLn] at hlL
   rw [hL1n] at hl1
   rw [hL2n] at hl2
   have hl35:=fun x=>zezj x
   simp (disch:=first|omega|simp<;>omega|fail) [-zA,-zB,-zC,-zD,-zE,a15,z1t1,h1d,hpv,b4,hs,b5,hcl,b1,b2,z8tf,z72h,hl35,hp,z3ot,zluv,zy6n,hll,hlL,hk1,hk1',hk1'',o33,s33,hm1,hL1,hl1,hL1n,o33',hw,hpe,s34,hL2,hl2,hL2n,htk,hsn,hLn]
end
section
set_option linter.unusedSimpArgs false
set_option linter.unusedVariables false
set_option maxRecDepth 20000
open Go Go.Am
noncomputable def zaig:Tbl:=addT 45 (.pure cFnd) tbl0
theorem zc99:zaig 45 = .pure cFnd:=by simp [zaig]
theorem zbkx:zaig.Sound P:=z0rp zpch zr5o
def zgl6 (l:List Tri) (d:Dg) (t:Int) (k nx:Nat) (x:Tri) (i:Nat):St:=zs05 (trV l) (.int .i64 t) (.int .i64 k) (.mp 1 35 0) (.int .i64 nx) (.int .i64 (2 ^ i)) (.int .i64 i) [.cells (dgC d),.cells (trC x)]
theorem zbo2 {i:Nat} (h:i≤16):(2:Int) ^ i≤65536∧0<(2:Int) ^ i:=by
 constructor
 ·have h2:(2:Nat) ^ i≤2 ^ 16:=y0p (by decide) h
  have e:(2:Int) ^ i=((2 ^ i:Nat):Int):=by simp
  rw [e]; omega
 ·exact Int.pow_pos (by decide)
theorem zyrj {id ver off k K:Nat} {l:List Tri} (h:id≠k):z87v (.mp id ver off) (oV k K l)=true:=by
 unfold oV
 split
 ·simp [z87v,zi6q]
 ·simp [z87v,zi6q,h]
theorem zsvw {k K:Nat} {m l:List Tri}:z87v (trV m) (oV k K l)=true:=by
 unfold trV oV; split<;>split<;>simp [z87v]
theorem zy02 {a b:AObj} {L:List Tri} (hL:L≠[]) {k:Nat}:snap (a::b::oT trC L) (k+1) (oV 2 35 L)=some (trV L):=by
 rw [zpni hL,zu2l hL,zve7]
 have ho:objV (a::b::[AObj.cells (fl trC L)]) 2 (L.length*35)=some (fl trC L):=by
  simp [objV,ziu0,z8lx zezj]
 have ht:(fl trC L).take (L.length*35)=L.flatMap trC:=y00 (by rw [z8lx zezj]; omega)
 rw [ho,Option.bind_some,List.drop_zero,ht,z619 (zp6k z1zd L),Option.map_some]
 unfold trV
 rw [if_neg hL]
theorem zc7y (l:List Tri) (y:Tri) (K N:Nat) (κ ν:Int) (hκ:κ=K) (hν:ν=N) (hK:K≤l.length) (hN:N≤l.length) (hb:l.length≤100000) (a b:AObj) :
  ∃ (Y1 Y2:Sl Tri) (V1 V2 V3:DV) (X1 X2 X3:List AObj),
   (∀ H,z390 H 35 (trV l) none (some (.int .i64 κ)) none=some (Y1.dv 35 trC)) ∧
   (∀ H,z390 H 35 (trV l) (some (.int .i64 ν)) none none=some (Y2.dv 35 trC)) ∧
   (appX [a,b] 35 56 .nils Y1.l.length (Y1.l.flatMap trC)=some (V1,a::b::X1)) ∧
   (appX (a::b::X1) 35 56 V1 1 (trC y)=some (V2,a::b::X2)) ∧
   (appX (a::b::X2) 35 56 V2 Y2.l.length (Y2.l.flatMap trC)=some (V3,a::b::X3)) ∧
   (z87v (.mp 1 35 0) V1=true∧z87v (trV l) V1=true∧z87v (trV l) V2=true) ∧
   V3.cells=[V3]∧V3.one=true∧(∀ a' b' k,snap (a'::b'::X3) (k+1) V3=some (trV (l.take K++y::l.drop N))):=by
 subst hκ hν
 obtain ⟨x,hx⟩ : ∃ x,trSl l hb=x:=⟨_,rfl⟩
 have hxl:x.l=l:=by rw [← hx]; rfl
 have hxd:trV l=x.dv 35 trC:=by rw [← hx,z3eh]
 rw [hxd]
 refine ⟨x.part 0 K (K == x.l.length),x.part N x.l.length (x.l.length == x.l.length),oV 2 35 (l.take K),oV 2 35 (l.take K++[y]),oV 2 35 (l.take K++[y]++l.drop N),oT trC (l.take K),oT trC (l.take K++[y]),oT trC (l.take K++[y]++l.drop N),fun H=>z0ke zezj (by simp [zo77,iD,hxl]; omega) (by rw [hxl]; exact hK),fun H=>z0ke zezj (by simp [zo77,iD,hxl]; omega) (y0d _),?_,?_,?_,?_,zy42,z6jg,?_⟩
 ·have:=z612 (k:=2) (K:=35) (b:=56) (f:=trC) (l:=[]) (cs:=l.take K) (h:=[a,b]) rfl zezj (by decide) (by decide) zms9 (by simp; omega)
  simpa [zkrk,zl8p,Sl.part,hxl] using this
 ·have:=zte0 (k:=2) (K:=35) (b:=56) (f:=trC) (l:=l.take K) (x:=y) (h:=[a,b]) rfl zezj (by decide) (by decide) zms9 (by simp; omega)
  exact this
 ·have:=z612 (k:=2) (K:=35) (b:=56) (f:=trC) (l:=l.take K++[y]) (cs:=l.drop N) (h:=[a,b]) rfl zezj (by decide) (by decide) zms9 (by simp; omega)
  have e2:(x.part N x.l.length (x.l.length == x.l.length)).l=l.drop N:=by simp [Sl.part,y00,hxl]
  rw [e2]; exact this
 ·rw [← hxd]; exact ⟨zyrj (by decide),zsvw,zsvw⟩
 ·intro a' b' k
  rw [zy02 (by simp)]
  simp
theorem z9uh (l:List Tri) (n:Nat):(fl trC l).take (n*35)=fl trC (l.take n):=z10w zezj l n
theorem z6qo (l:List Tri) (g:Int) (d:Dg) (t:Int) (hl:l.length≤1000) (hf : ∀ y ∈ l,0≤y.fl∧y.fl≤16) (h0:0≤t) (h1:t≤1099511627776) :
  Runs zaig a16 [trV l,.int .i64 g,.agg (dgC d),.int .i64 t] (trV (z2m7 l g d t)):=by
 refine ⟨?_⟩
 have hs:cFnd [trV l,.int .i64 g,.agg (dgC d)]=some (.tup [.int .i64 (kOf (cmpT g d) l),.bool (fOf (cmpT g d) l)]):=by
  have:=zfnr (x:=trSl l (by omega)) (g:=g) (d:=d)
  rwa [z3eh] at this
 have hk:=zg29 (cmpT g d) l
 have hpv:=znen l
 have hlt:=zsfp (c:=cmpT g d) (l:=l)
 unfold z2m7 z478
 have h1d:oneC 32 true (dgC d)=some (.agg (dgC d)):=by simp [oneC,z1t1,y00]
 have hl35:=fun x=>zezj x
 have hp:=fun x=>z1zd x
 have hix : ∀ (k:Nat) (h:k<l.length) (H:List AObj),zpsc H 35 (trV l) k=some (.ref (trC l[k])):=fun k h H=>by
  have:=zalo (x:=trSl l (by omega)) (h:=H) (f:=trC) (s:=35) (i:=k) zezj h
  rwa [z3eh] at this
 obtain ⟨k,hke⟩ : ∃ k,kOf (cmpT g d) l=k:=⟨_,rfl⟩
 rw [hke] at hs hk hlt ⊢
 have hbd : ∀ h,boxD h (.agg (dgC d))=some (.mp h.length 32 0,h++[.cells (dgC d)]):=fun h=>by rw [zn72,z1t1]
 have hst : ∀ (H:List AObj) (id:Nat) (x y:Tri),zy6o H id 35 0 (.agg (trC x)) (some (trC y))=some (.junk,H.set id (.cells (trC x))):=fun H id x y=>zfc1 (zezj _) (zezj _) (zms9 _)
 have hbz:zvnk (trC ⟨0,dg0,0,0⟩) [(0,1,.int .i64 g),(1,32,.agg (dgC d))]=some (.agg (trC ⟨g,d,0,0⟩)):=z8tf (zezj _) (znnr _)
 have tr0:trC ⟨0,dg0,0,0⟩=[.int .i64 0,w8 0#8,w8 0#8,w8 0#8,w8 0#8,w8 0#8,w8 0#8,w8 0#8,w8 0#8,w8 0#8,w8 0#8,w8 0#8,w8 0#8,w8 0#8,w8 0#8,w8 0#8,w8 0#8,w8 0#8,w8 0#8,w8 0#8,w8 0#8,w8 0#8,w8 0#8,w8 0#8,w8 0#8,w8 0#8,w8 0#8,w8 0#8,w8 0#8,w8 0#8,w8 0#8,w8 0#8,w8 0#8,.int .i64 0,.int .i64 0]:=rfl
 cases hfo:fOf (cmpT g d) l with
 | true =>
  obtain ⟨hk1,_⟩:=hlt hfo
  rw [hfo] at hs
  have hx:=hf l[k] (List.getElem_mem hk1)
  have hix:=fun H=>hix k hk1 H
  obtain ⟨x,hxe⟩ : ∃ x,l[k]=x:=⟨_,rfl⟩
  rw [hxe] at hx
  simp only [hxe] at hix
  have hgd:l.getD k ⟨g,d,0,0⟩=x:=by rw [y0k,y0l hk1,hxe]; rfl
  simp only [if_true,hgd]
  obtain ⟨m,hme⟩ : ∃ m,min (x.fl+1) 16=m:=⟨_,rfl⟩
  have hm:1≤m∧m≤16:=by omega
  obtain ⟨M,hM⟩ : ∃ M:Nat,m=M:=⟨m.toNat,by omega⟩
  subst hM
  simp (disch:=first|omega|simp<;>omega|fail) [-zA,-zB,-zC,-zD,-zE,a16,z1t1,h1d,hbd,hpv,zc99,hs,z3ot,hbz,← tr0,hst,hl35,z7jg,zvt0,zluv,zy6n,hme,hix,zww5]
  refine zlm5 (zgl6 l d t k (k+1) ⟨x.grp,x.art,M,x.af⟩) (fun i=>M-i) (fun i=>i≤M) 0 (z515 (by simp (disch:=first|omega|simp<;>omega|fail) [-zA,-zB,-zC,-zD,-zE,zgl6,zs05]) (by simp (disch:=first|omega|simp<;>omega|fail) [-zA,-zB,-zC,-zD,-zE,zgl6,zs05])) (y0f _) (fun i hi => ?_)
  have hpi:=zbo2 (i:=i) (by omega)
  simp only [zgl6]
  by_cases hi':i<M
  ·have hi'':(i:Int)<(M:Int):=by omega
   have hsu:(2:Int)*2 ^ i=2 ^ (i+1):=by rw [Int.pow_succ]; omega
   have hwr:IntKind.i64.wrap (2*2 ^ i)=2 ^ (i+1):=by rw [IntKind.wrap_i64,← hsu]; omega
   have hmul:zhl4 .mul (.int .i64 2) (.int .i64 (2 ^ i))=some (.int .i64 (2 ^ (i+1))):=by
    rw [← hwr]; rfl
   simp (disch:=first|omega|simp<;>omega|fail) [-zA,-zB,-zC,-zD,-zE,zvfu,zs05,hi',hi'',z7jg,hmul,hl35]
   exact ⟨i+1,z515 (by simp (disch:=first|omega|simp<;>omega|fail) [-zA,-zB,-zC,-zD,-zE,zgl6,zs05]) (by simp (disch:=first|omega|simp<;>omega|fail) [-zA,-zB,-zC,-zD,-zE,zgl6,zs05]),by omega,by omega⟩
  obtain rfl:i=M:=by omega
  have hi'':¬ (i:Int)<(i:Int):=by omega
  have hbm:bump x t=⟨x.grp,x.art,i,min (t+2 ^ i) 1099511627776⟩:=by unfold bump; rw [hme]; rfl
  obtain ⟨Y,hY⟩ : ∃ Y:Tri,bump x t=Y:=⟨_,rfl⟩
  rw [hY] at hbm ⊢
  have s34:=fun (H:List AObj) (id:Nat)=>zr50 ⟨x.grp,x.art,(i:Int),x.af⟩ (min (t+2 ^ i) 1099511627776) H id
  simp only [← hbm] at s34
  obtain ⟨Y1,Y2,V1,V2,V3,X1,X2,X3,f1,f2,f3,f4,f5,⟨p1,p2,p3⟩,g1,g2,g3⟩:=zc7y l Y k ((k+1)) k ((k:Int)+1) rfl (by omega) hk (by omega) (by omega) (.cells (dgC d)) (.cells (trC Y))
  have hbs:bslD 35 1 (trC ⟨0,dg0,0,0⟩) [(0,35,.agg (trC Y))]=some (.sl true 35 1 (trC Y)):=z72h (zezj _)
  simp (disch:=first|omega|simp<;>omega|fail) [-zA,-zB,-zC,-zD,-zE,zvfu,zs05,hi'',z7jg,s34,hl35,hbs,zluv,zy6n,f1,f2,zwaa zezj,f3,f4,f5,p1,p2,p3,g1,g2,g3,zww5,z72h]
 | false =>
  rw [hfo] at hs
  simp only [y06,if_false]
  obtain ⟨x,hxe⟩ : ∃ x:Tri,⟨g,d,0,0⟩=x:=⟨_,rfl⟩
  have hx:x.fl=0:=by rw [← hxe]
  rw [hxe]
  rw [hxe] at hbz
  obtain ⟨m,hme⟩ : ∃ m,min (x.fl+1) 16=m:=⟨_,rfl⟩
  have hm:1≤m∧m≤16:=by omega
  obtain ⟨M,hM⟩ : ∃ M:Nat,m=M:=⟨m.toNat,by omega⟩
  subst hM
  simp (disch:=first|omega|simp<;>omega|fail) [-zA,-zB,-zC,-zD,-zE,a16,z1t1,h1d,hbd,hpv,zc99,hs,z3ot,hbz,← tr0,hst,hl35,z7jg,zvt0,zluv,zy6n,hme,hxe]
  refine zlm5 (zgl6 l d t k k ⟨x.grp,x.art,M,x.af⟩) (fun i=>M-i) (fun i=>i≤M) 0 (z515 (by simp (disch:=first|omega|simp<;>omega|fail) [-zA,-zB,-zC,-zD,-zE,zgl6,zs05]) (by simp (disch:=first|omega|simp<;>omega|fail) [-zA,-zB,-zC,-zD,-zE,zgl6,zs05])) (y0f _) (fun i hi => ?_)
  have hpi:=zbo2 (i:=i) (by omega)
  simp only [zgl6]
  by_cases hi':i<M
  ·have hi'':(i:Int)<(M:Int):=by omega
   have hsu:(2:Int)*2 ^ i=2 ^ (i+1):=by rw [Int.pow_succ]; omega
   have hwr:IntKind.i64.wrap (2*2 ^ i)=2 ^ (i+1):=by rw [IntKind.wrap_i64,← hsu]; omega
   have hmul:zhl4 .mul (.int .i64 2) (.int .i64 (2 ^ i))=some (.int .i64 (2 ^ (i+1))):=by
    rw [← hwr]; rfl
   simp (disch:=first|omega|simp<;>omega|fail) [-zA,-zB,-zC,-zD,-zE,zvfu,zs05,hi',hi'',z7jg,hmul,hl35]
   exact ⟨i+1,z515 (by simp (disch:=first|omega|simp<;>omega|fail) [-zA,-zB,-zC,-zD,-zE,zgl6,zs05]) (by simp (disch:=first|omega|simp<;>omega|fail) [-zA,-zB,-zC,-zD,-zE,zgl6,zs05]),by omega,by omega⟩
  obtain rfl:i=M:=by omega
  have hi'':¬ (i:Int)<(i:Int):=by omega
  have hbm:bump x t=⟨x.grp,x.art,i,min (t+2 ^ i) 1099511627776⟩:=by unfold bump; rw [hme]; rfl
  obtain ⟨Y,hY⟩ : ∃ Y:Tri,bump x t=Y:=⟨_,rfl⟩
  rw [hY] at hbm ⊢
  have s34:=fun (H:List AObj) (id:Nat)=>zr50 ⟨x.grp,x.art,(i:Int),x.af⟩ (min (t+2 ^ i) 1099511627776) H id
  simp only [← hbm] at s34
  obtain ⟨Y1,Y2,V1,V2,V3,X1,X2,X3,f1,f2,f3,f4,f5,⟨p1,p2,p3⟩,g1,g2,g3⟩:=zc7y l Y k (k) k (k:Int) rfl (by omega) hk (by omega) (by omega) (.cells (dgC d)) (.cells (trC Y))
  have hbs:bslD 35 1 (trC ⟨0,dg0,0,0⟩) [(0,35,.agg (trC Y))]=some (.sl true 35 1 (trC Y)):=z72h (zezj _)
  simp (disch:=first|omega|simp<;>omega|fail) [-zA,-zB,-zC,-zD,-zE,zvfu,zs05,hi'',z7jg,s34,hl35,hbs,zluv,zy6n,f1,f2,zwaa zezj,f3,f4,f5,p1,p2,p3,g1,g2,g3,zww5,z72h]
end
section
set_option linter.unusedSimpArgs false
set_option linter.unusedVariables false
set_option maxRecDepth 20000
open Go Go.Am
section
variable {α:Type} {f:α→List DV} {K:Nat}
theorem zwqy (hu : ∀ a,(f a).length=K) {l:List α} {i:Nat} (hi:i<l.length):oneC K true ((fl f l).drop (i*K))=some (.agg (f l[i])):=by
 rw [fl,zkb2 hu,y08 hi,y07,zza5 (by simp [hu]),List.take_left' (hu _)]
theorem z55o (hu : ∀ a,(f a).length=K) (h0:0<K) (ha : ∀ a,(f a).all DV.one=true) {h:List AObj} {id i:Nat} {l:List α} {x:α} (hi:i<l.length):zy6o h id K (i*K) (.agg (f x)) (some (fl f l))=some (.junk,h.set id (.cells (fl f (l.set i x)))):=by
 have hl:=z8lx hu l
 have h1:i*K+K≤l.length*K:=by rw [← Nat.succ_mul]; exact Nat.mul_le_mul_right _ hi
 simp only [zy6o,DV.cells,hu,ha,hl]
 rw [if_pos ⟨trivial,h1,trivial⟩,fl,z47w hu hi,fl]
theorem zsfi {z:α} {n:Nat}:reps n (f z)=fl f (List.replicate n z):=by
 unfold fl
 induction n with
 | zero=>rfl
 | succ n ih=>rw [List.replicate_succ,y07,← ih]; rfl
theorem zx5m (hu : ∀ a,(f a).length=K) {A B C:List α} (h:B.length=C.length):zk7y (fl f (A++B)) (A.length*K) (fl f C)=fl f (A++C):=by
 have hA:=z1rq hu A
 have hB:=z1rq hu B
 have hC:=z1rq hu C
 unfold fl zk7y
 rw [y0i,zf54 _ _ hA,y0o (by rw [y02,hA,hB,hC,h]; exact y0d _),y04,y0i]
end
theorem zd3v {α:Type} (p:α→Bool) (l:List α):(ixI p l = -1 ∧ ∀ a ∈ l,p a=false) ∨ ∃ i,∃ hi:i<l.length,ixI p l=i∧p l[i]=true ∧ ∀ j (h:j<l.length),j<i→p l[j]=false:=by
 by_cases h:0≤ixI p l
 ·obtain ⟨i,hi,e,a,b⟩:=ziel h
  exact .inr ⟨i,hi,e,a,b⟩
 ·have:=zkgb p l
  refine .inl ⟨by omega,fun a ha => ?_⟩
  obtain ⟨j,hj,e⟩:=y0r ha
  have:=z378 (p:=p) (l:=l) (by omega) j hj
  rwa [e] at this
def tri0:Tri:=⟨0,dg0,0,0⟩
def kepT (p:Tri→Bool) (l:List Tri):List Tri:=l.filter fun a => !p a
def delT (p:Tri→Bool) (A:List Tri):List Tri:=kepT p A++List.replicate (A.length-(kepT p A).length) tri0
def delW (k:Nat) (p:Tri→Bool) (A:List Tri):DV:=if A=[] then .nils else .ms k (A.length*35) 0 35 (kepT p A).length (A.length*35)
theorem zmow (p:Tri→Bool) (A:List Tri):(kepT p A).length≤A.length:=List.length_filter_le ..
theorem zgyq (p:Tri→Bool) (A:List Tri):(delT p A).length=A.length:=by
 unfold delT; have:=zmow p A
 rw [y02,y0h]; omega
theorem zdhe {p:Tri→Bool} {A:List Tri} (h : ∀ a ∈ A,p a=false):kepT p A=A:=List.filter_eq_self.2 fun a ha=>by rw [h a ha]; rfl
theorem zrft {p:Tri→Bool} {l:List Tri} {x:Tri}:kepT p (l++[x])=kepT p l++(if p x then [] else [x]):=by
 unfold kepT; rw [List.filter_append]
 cases h:p x<;>simp [h]
theorem zrpz {pre:List AObj} {a b:AObj} {ver:Nat}:objV (pre++[a,b]) (pre.length+1) ver=objV [b] 0 ver:=by
 unfold objV ziu0; rw [List.getElem?_append_right (by omega),show pre.length+1-pre.length=1 by omega]; rfl
theorem z6rf {pre:List AObj} {a b o:AObj}:(pre++[a,b]).set (pre.length+1) o=pre++[a,o]:=by rw [y0c _ _ (by omega),show pre.length+1-pre.length=1 by omega]; rfl
def fM (N:Nat) (X Y:List DV):DV := .fn (.func N) [] [.mp 0 X.length 0,.mp 1 Y.length 0]
def fF (N:Nat) (X Y:List DV):DV := .fn (.func N) [] [.ref X,.ref Y]
section
variable {N:Nat} {X Y:List DV} {p:Tri→Bool} {c:List DV→Option DV} {T:Tbl}
def zlk9 (N:Nat) (X Y:List DV) (l:List Tri) (i:Nat):St:=zvff (trV l) (fF N X Y) (.int .i64 l.length) (.int .i64 i) []
theorem z7lg (hN:T N = .pure c) (hcx : ∀ x,c [.agg (trC x),.ref X,.ref Y]=some (.bool (p x))) (hX:zbao X=true) (hY:zbao Y=true) (l:List Tri) (hb:l.length≤100000) :
  Runs T a76 [trV l,fF N X Y] (.int .i64 (ixI p l)):=by
 refine ⟨?_⟩
 have hl : ∀ H,lenD H (trV l)=some (.int .i64 l.length):=fun H=>by
  have:=zupj (x:=trSl l hb) (s:=35) (f:=trC) (h:=H)
  rwa [z3eh] at this
 have hix : ∀ (k:Nat) (h:k<l.length) (H:List AObj),zpsc H 35 (trV l) k=some (.ref (trC l[k])):=fun k h H=>by
  have:=zalo (x:=trSl l hb) (h:=H) (f:=trC) (s:=35) (i:=k) zezj h
  rwa [z3eh] at this
 simp (disch:=first|omega|simp<;>omega|fail) [-zA,-zB,-zC,-zD,-zE,a76,hl]
 refine zlm5 (zlk9 N X Y l) (fun i=>l.length-i) (fun i=>i≤l.length ∧ ∀ j (h:j<l.length),j<i→p l[j]=false) 0 (z515 (by simp (disch:=first|omega|simp<;>omega|fail) [-zA,-zB,-zC,-zD,-zE,zlk9,zvff]) (by simp (disch:=first|omega|simp<;>omega|fail) [-zA,-zB,-zC,-zD,-zE,zlk9,zvff])) ⟨y0f _,fun _ _ h=>by omega⟩ (fun i hi => ?_)
 obtain ⟨q1,q2⟩:=hi
 simp only [zlk9]
 by_cases q:i<l.length
 ·have g':(i:Int)<l.length:=by omega
  have hy:=hix i q
  have hc:=hcx l[i]
  have hinv:p l[i]=false → ∀ j (h:j<l.length),j<i+1→p l[j]=false:=fun e j hj hji=>by
   by_cases ej:j=i
   ·subst ej; exact e
   ·exact q2 j hj (by omega)
  have hr:p l[i]=true→ixI p l=i:=fun e=>zy9u q e q2
  obtain ⟨u,hu⟩ : ∃ u,l[i]=u:=⟨_,rfl⟩
  rw [hu] at hc hinv hr
  simp only [hu] at hy
  cases e:p u with
  | true =>
   have hr:=hr e
   rw [e] at hc
   simp (disch:=first|omega|simp<;>omega|fail) [-zA,-zB,-zC,-zD,-zE,z079,zvff,q,g',hy,zww5,fF,hN,hc,hr,z1zd,hX,hY]
  | false =>
   have hinv:=hinv e
   rw [e] at hc
   simp (disch:=first|omega|simp<;>omega|fail) [-zA,-zB,-zC,-zD,-zE,z079,zvff,q,g',hy,zww5,fF,hN,hc,z1zd,hX,hY]
   exact ⟨i+1,z515 (by simp (disch:=first|omega|simp<;>omega|fail) [-zA,-zB,-zC,-zD,-zE,zlk9,zvff,fF]) (by simp (disch:=first|omega|simp<;>omega|fail) [-zA,-zB,-zC,-zD,-zE,zlk9,zvff]),by omega,by omega,fun j h hj=>hinv j h hj⟩
 ·have g':¬ (i:Int)<l.length:=by omega
  have hr:ixI p l = -1:=zfki fun j hj=>q2 j hj (by omega)
  simp (disch:=first|omega|simp<;>omega|fail) [-zA,-zB,-zC,-zD,-zE,z079,zvff,q,g',hr]
noncomputable def cTix (N:Nat) (X Y:List DV) (p:Tri→Bool):List DV→Option DV:=con (fun _=>True) (fun l:TL=>[trV l.1,fF N X Y]) (fun l => .int .i64 (ixI p l.1))
theorem zy2j {l:List Tri} (hl:l.length≤100000):cTix N X Y p [trV l,fF N X Y]=some (.int .i64 (ixI p l)) :=
 zzno (A:=fun _=>True) (f:=fun l:TL=>[trV l.1,fF N X Y]) (g:=fun l => .int .i64 (ixI p l.1)) (fun a b e=>by
  have h:trV a.1=trV b.1:=by simpa using e
  rw [zhma h]) ⟨l,hl⟩ trivial
theorem zyl5 (hT:T.Sound P) (hN:T N = .pure c) (hcx : ∀ x,c [.agg (trC x),.ref X,.ref Y]=some (.bool (p x))) (hX:zbao X=true) (hY:zbao Y=true):(Con.pure (cTix N X Y p)).Sound P 76 :=
 z2au fun l _=>zljw mix hT Tryz.func76 zuum (z7lg hN hcx hX hY l.1 l.2)
structure TA where
 K:List Tri
 M:List Tri
 j:Nat
structure DTok (p:Tri→Bool) (A:List Tri) (a:TA):Prop where
 k:a.K=kepT p (A.take a.j)
 l:a.K.length+a.M.length=a.j
 m:1≤a.M.length
 j:a.j≤A.length
def z8fo (N:Nat) (X Y:List DV) (pre:List AObj) (A:List Tri) (n:Nat) (a:TA):St:=zgwc (.ms pre.length (n*35) 0 35 n (n*35)) (fM N X Y) (.int .i64 a.K.length) (.int .i64 a.j) (pre++[.cells (fl trC (a.K++(a.M++A.drop a.j)))])
theorem zmcj (sT:T.Sound P) (hTd:T N = .pure c) (hTi:T 76 = .pure (cTix N X Y p)) (hcx : ∀ x,c [.agg (trC x),.ref X,.ref Y]=some (.bool (p x))) (hX:zbao X=true) (hY:zbao Y=true) (A:List Tri) (hA:A.length≤100000) :
  V P (([.cells X,.cells Y]:List AObj)++oT trC A).length a46.code (retH a46.res (delW ([.cells X,.cells Y]:List AObj).length p A) ([.cells X,.cells Y]++oT trC (delT p A))) ⟨zr5g a46.ntmps [oV ([.cells X,.cells Y]:List AObj).length 35 A,fM N X Y],[.cells X,.cells Y]++oT trC A⟩:=by
 have hix:=zy2j (N:=N) (X:=X) (Y:=Y) (p:=p) hA
 obtain ⟨pre,hpre⟩ : ∃ pre:List AObj,[.cells X,.cells Y]=pre:=⟨_,rfl⟩
 have hsn0:snap (pre++oT trC A) 3 (oV pre.length 35 A)=some (trV A):=by
  rw [← hpre]
  by_cases e:A=[]
  ·subst e; rfl
  ·exact zy02 e
 have hO0 : ∀ R,objV (pre++R) 0 X.length=some X:=fun R=>by rw [← hpre]; simp [objV,ziu0]
 have hO1 : ∀ R,objV (pre++R) 1 Y.length=some Y:=fun R=>by rw [← hpre]; simp [objV,ziu0]
 have hfn : ∀ R,snap (pre++R) 3 (fM N X Y)=some (fF N X Y):=fun R=>by
  have h1:=hO0 R
  have h2:=hO1 R
  have h3 : ∀ k,z4tt (pre++R) k X=some X:=fun k=>z619 hX
  have h4 : ∀ k,z4tt (pre++R) k Y=some Y:=fun k=>z619 hY
  simp (disch:=first|omega|simp<;>omega|fail) [-zA,-zB,-zC,-zD,-zE,fM,fF,h1,h2,h3,h4]
 have hp : ∀ n,zlf2 n pre=true:=fun n=>by rw [← hpre]; simp [zlf2,zmq5 _ _ hX,zmq5 _ _ hY]
 rw [hpre]
 have h1:2≤pre.length:=by rw [← hpre]; simp
 have h2p:0<pre.length:=by omega
 have h3p:1<pre.length:=by omega
 have hsX : ∀ (H:List AObj) k,z4tt H k X=some X:=fun H k=>z619 hX
 have hsY : ∀ (H:List AObj) k,z4tt H k Y=some Y:=fun H k=>z619 hY
 refine zbn1 (V_W mix sT ?_)
 simp (disch:=first|omega|simp<;>omega|fail) [-zA,-zB,-zC,-zD,-zE,a46]
 have hnp:zyp8 (fM N X Y)=false:=rfl
 have hdel:A=[]→oV pre.length 35 A=delW pre.length p A:=fun e=>by subst e; rfl
 obtain ⟨M,hN⟩ : ∃ M,ixI p A=M:=⟨_,rfl⟩
 rw [hN] at hix
 rcases zd3v p A with ⟨f1,f2⟩|⟨i,hi,f1,f2,f3⟩
 ·rw [hN] at f1
  subst f1
  have hk:=zdhe f2
  have e1:delT p A=A:=by unfold delT; rw [hk,y0t]; simp
  have e2:delW pre.length p A=oV pre.length 35 A:=by unfold delW oV; rw [hk]
  rw [e1,e2]
  refine zbn1 (V_W mix sT ?_)
  simp (disch:=first|omega|simp<;>omega|fail) [-zA,-zB,-zC,-zD,-zE,hTi,hsn0,hfn,hix,hnp]
  refine zbn1 (zbn1 (V_W mix sT ?_))
  simp (disch:=first|omega|simp<;>omega|fail) [-zA,-zB,-zC,-zD,-zE]
  refine V_W mix sT ?_
  simp (disch:=first|omega|simp<;>omega|fail) [-zA,-zB,-zC,-zD,-zE]
 rw [hN] at f1
 subst f1
 have hne:A≠[]:=fun e=>by rw [e] at hi; simp at hi
 obtain ⟨n,hn⟩ : ∃ n,A.length=n:=⟨_,rfl⟩
 have e2:delW pre.length p A = .ms pre.length (n*35) 0 35 (kepT p A).length (n*35):=by unfold delW; rw [if_neg hne,hn]
 have e3:delT p A≠[]:=fun e=>by have:=zgyq p A; rw [e] at this; exact hne (y0b this.symm)
 rw [e2,zu2l e3]
 rw [zpni hne,zu2l hne] at hsn0 ⊢
 rw [hn] at hsn0 ⊢
 refine zbn1 (V_W mix sT ?_)
 simp (disch:=first|omega|simp<;>omega|fail) [-zA,-zB,-zC,-zD,-zE,hTi,hsn0,hfn,hix,hnp]
 refine zbn1 (zbn1 (V_W mix sT ?_))
 simp (disch:=first|omega|simp<;>omega|fail) [-zA,-zB,-zC,-zD,-zE]
 refine V_W mix sT ?_
 simp (disch:=first|omega|simp<;>omega|fail) [-zA,-zB,-zC,-zD,-zE]
 refine zbn1 (zbn1 (V_W mix sT ?_))
 simp (disch:=first|omega|simp<;>omega|fail) [-zA,-zB,-zC,-zD,-zE]
 have hki:kepT p (A.take i)=A.take i:=zdhe fun a ha=>by
  obtain ⟨j,hj,e⟩:=y0r ha
  rw [y05] at hj
  rw [← e,List.getElem_take]; exact f3 j (by omega) (by omega)
 have hil:(A.take i).length=i:=by rw [y05]; omega
 have hsp:A.take i++([A[i]]++A.drop (i+1))=A:=by
  rw [List.singleton_append,← y08 hi,List.take_append_drop]
 refine z3mo (ztbr (z8fo N X Y pre A n) (fun a=>n-a.j) (DTok p A) ⟨A.take i,[A[i]],i+1⟩ (z515 (by simp (disch:=first|omega|simp<;>omega|fail) [-zA,-zB,-zC,-zD,-zE,z8fo,zgwc,hil]) (by simp (disch:=first|omega|simp<;>omega|fail) [-zA,-zB,-zC,-zD,-zE,z8fo,zgwc,hsp])) ⟨?_,by simp only [y01]; omega,by simp,by simp only; omega⟩ (fun a ha => ?_))
 ·rw [y03 hi,zrft,f2,hki]; simp
 obtain ⟨K,M,j⟩:=a
 obtain ⟨a1,a2,a3,a4⟩:=ha
 simp only at a1 a2 a3 a4
 simp only [z8fo]
 refine zbn1 (V_W mix sT ?_)
 by_cases h:j<n
 case neg =>
  have h':¬ (j:Int)<n:=by omega
  have hK:kepT p A=K:=by rw [a1,y00 (by omega)]
  have hd:A.drop j=[]:=y0o (by omega)
  have hKl:K.length+M.length=n:=by omega
  rw [hd,y04]
  have hfl:(fl trC (K++M)).length=n*35:=by rw [z8lx zezj,y02,hKl]
  obtain ⟨c,hc⟩ : ∃ c,K.length=c:=⟨_,rfl⟩
  have hs1 : ∀ H,z390 H 35 (.ms pre.length (n*35) 0 35 n (n*35)) (some (.int .i64 c)) none none=(objV H pre.length (n*35)).map fun _ => .ms pre.length (n*35) (c*35) 35 (n-c) (n*35):=fun H=>by
   rw [zam4 (l:=c) (m:=n) (by simp [zo77,iD]; omega),y0s]
  have hs2 : ∀ H,z390 H 35 (.ms pre.length (n*35) 0 35 n (n*35)) none (some (.int .i64 c)) none=(objV H pre.length (n*35)).map fun _ => .ms pre.length (n*35) 0 35 c (n*35):=fun H=>by
   rw [zam4 (l:=0) (m:=c) (by simp [zo77,iD]; omega),Nat.zero_mul,y0s,Nat.sub_zero]
  have hcl : ∀ H,clrD H 35 [.int .i64 0,w8 0#8,w8 0#8,w8 0#8,w8 0#8,w8 0#8,w8 0#8,w8 0#8,w8 0#8,w8 0#8,w8 0#8,w8 0#8,w8 0#8,w8 0#8,w8 0#8,w8 0#8,w8 0#8,w8 0#8,w8 0#8,w8 0#8,w8 0#8,w8 0#8,w8 0#8,w8 0#8,w8 0#8,w8 0#8,w8 0#8,w8 0#8,w8 0#8,w8 0#8,w8 0#8,w8 0#8,w8 0#8,.int .i64 0,.int .i64 0] (.ms pre.length (n*35) (c*35) 35 (n-c) (n*35))=(objV H pre.length (n*35)).map fun l=>(.tup [],H.set pre.length (.cells (zk7y l (c*35) (reps (n-c) (trC tri0))))):=fun H=>z7ty rfl (by decide) rfl (by omega)
  have hsp:zk7y (fl trC (K++M)) (c*35) (reps (n-c) (trC tri0))=fl trC (K++List.replicate (n-c) tri0):=by
   rw [zsfi (f:=trC),← hc]
   exact zx5m zezj (by rw [y0h]; omega)
  have hfl2:(fl trC (K++List.replicate (n-c) tri0)).length=n*35:=by rw [z8lx zezj,y02,y0h,hc]; congr 1; omega
  have hdl:delT p A=K++List.replicate (n-c) tri0:=by unfold delT; rw [hK,hc,hn]
  rw [hdl,hK,hc]
  simp (disch:=first|omega|simp<;>omega|fail) [-zA,-zB,-zC,-zD,-zE,zec8,zgwc,h,h',hfl,zjj2,z1zn]
  refine zbn1 (V_W mix sT ?_)
  simp (disch:=first|omega|simp<;>omega|fail) [-zA,-zB,-zC,-zD,-zE,hs1,hcl,hsp,hfl,zjj2,z1zn,zxft]
  refine zbn1 (V_W mix sT ?_)
  simp (disch:=first|omega|simp<;>omega|fail) [-zA,-zB,-zC,-zD,-zE,hs2,hfl2,zjj2,z1zn]
  refine V_W mix sT ?_
  simp (disch:=first|omega|simp<;>omega|fail) [-zA,-zB,-zC,-zD,-zE]
 have h':(j:Int)<n:=by omega
 have hjl:j<A.length:=by omega
 obtain ⟨x,hx⟩ : ∃ x,A[j]=x:=⟨_,rfl⟩
 have hd:A.drop j=x::A.drop (j+1):=by rw [y08 hjl,hx]
 have hk1:kepT p (A.take (j+1))=K++(if p x then [] else [x]):=by rw [y03 hjl,zrft,← a1,hx]
 obtain ⟨R,hR⟩ : ∃ R,A.drop (j+1)=R:=⟨_,rfl⟩
 have hRl:R.length=n-(j+1):=by rw [← hR,y0n,hn]
 rw [hR] at hd
 rw [hd]
 obtain ⟨L,hL⟩ : ∃ L,K++(M++x::R)=L:=⟨_,rfl⟩
 have hLl:L.length=n:=by rw [← hL]; simp; omega
 have hjL : ∀ h:j<L.length,L[j]=x:=fun h=>by
  subst hL
  rw [y0e (by omega),y0e (by omega)]
  simp [show j-K.length-M.length=0 by omega]
 rw [hL]
 obtain ⟨G,hG⟩ : ∃ G,fl trC L=G:=⟨_,rfl⟩
 have hGl:G.length=n*35:=by rw [← hG,z8lx zezj,hLl]
 have hGp:zbao G=true:=by rw [← hG]; exact zp6k z1zd L
 have o1:oneC 35 true (G.drop (j*35))=some (.agg (trC x)):=by rw [← hG,zwqy zezj (by omega),hjL]
 have hix2 : ∀ H,zpsc H 35 (.ms pre.length (n*35) 0 35 n (n*35)) (j:Int)=(objV H pre.length (n*35)).map fun _ => .mp pre.length (n*35) (j*35):=fun H=>by
  simp (disch:=first|omega|simp<;>omega|fail) [-zA,-zB,-zC,-zD,-zE,h,h']
 rw [hG]
 obtain ⟨c,hc⟩ : ∃ c,K.length=c:=⟨_,rfl⟩
 have hcn:c<n:=by omega
 have hcn':(c:Int)<n:=by omega
 have hHb:zlf2 (pre.length+1) (pre++[.cells G])=true:=zrlz (hp _) (by simp only [zlf2,zmq5 _ _ hGp,Bool.and_self])
 rw [hc]
 simp (disch:=first|omega|simp<;>omega|fail) [-zA,-zB,-zC,-zD,-zE,zec8,zgwc,h,h',hGl,zjj2,z1zn]
 refine zbn1 (z3mo (zbn1 (V_W mix sT ?_)))
 have tr0:trC tri0=[.int .i64 0,w8 0#8,w8 0#8,w8 0#8,w8 0#8,w8 0#8,w8 0#8,w8 0#8,w8 0#8,w8 0#8,w8 0#8,w8 0#8,w8 0#8,w8 0#8,w8 0#8,w8 0#8,w8 0#8,w8 0#8,w8 0#8,w8 0#8,w8 0#8,w8 0#8,w8 0#8,w8 0#8,w8 0#8,w8 0#8,w8 0#8,w8 0#8,w8 0#8,w8 0#8,w8 0#8,w8 0#8,w8 0#8,.int .i64 0,.int .i64 0]:=rfl
 have hst0 : ∀ (H:List AObj) (id:Nat) (x y:Tri),zy6o H id 35 0 (.agg (trC x)) (some (trC y))=some (.junk,H.set id (.cells (trC x))):=fun H id x y=>zfc1 (zezj _) (zezj _) (zms9 _)
 have hl35:=fun x=>zezj x
 simp (disch:=first|omega|simp<;>omega|fail) [-zA,-zB,-zC,-zD,-zE,h,h',hGl,zjj2,z1zn,o1,zrpz,z6rf,← tr0,hst0,hl35]
 rw [show pre++[AObj.cells G,AObj.cells (trC x)]=(pre++[.cells G])++[.cells (trC x)] by simp]
 have hHl:(pre++[AObj.cells G]).length=pre.length+1:=by simp
 refine zs10 (n0:=pre.length+1) (H:=pre++[.cells G]) (cs:=trC x) (t':=[.ms pre.length (n*35) 0 35 n (n*35),(fM N X Y),.junk,.junk,.junk,.int .i64 c,.int .i64 j,.ref (trC x)]++js 34) (by rw [hHl]; exact hHb) (Nat.le_of_eq hHl.symm) ?_ (by simp (disch:=first|omega|simp<;>omega|fail) [-zA,-zB,-zC,-zD,-zE,belowL,Am.below,fM,zmq5 _ _ (z1zd x),h2p,h3p]) ?_
 ·have e1:=zz5t (H:=pre++[.cells G]) (cs:=trC x) (off:=0) (z1zd x)
  rw [hHl,zezj,List.drop_zero] at e1
  simp only [List.append_assoc,y0g,y0a] at e1
  have e2 : ∀ h,mk1 (kLt (pre.length+1)) h (.ms pre.length (n*35) 0 35 n (n*35)) = .ms pre.length (n*35) 0 35 n (n*35):=fun h=>zd3c (by simp [Am.below])
  have e3 : ∀ h,mk1 (kLt (pre.length+1)) h (fM N X Y)=(fM N X Y):=fun h=>zd3c (by simp [Am.below,fM,belowL]; omega)
  rw [hHl]
  simp (disch:=first|omega|simp<;>omega|fail) [-zA,-zB,-zC,-zD,-zE,e1,e2,e3,-z1bt,-zdpe]
 have hcd:=hcx x
 have hsx : ∀ (H:List AObj) k,z4tt H k (trC x)=some (trC x):=fun H k=>z619 (z1zd x)
 refine V_W mix sT ?_
 cases hsm:p x with
 | true =>
  rw [hsm] at hcd hk1
  have hfin:fl trC (K++((M++[x])++A.drop (j+1)))=G:=by rw [hR,← hG,← hL]; simp
  simp (disch:=first|omega|simp<;>omega|fail) [-zA,-zB,-zC,-zD,-zE,fM,zww5,hTd,hcd,hO0,hO1,hsX,hsY,hX,hY,z1zd,hsx]
  refine V_W mix sT ?_
  simp (disch:=first|omega|simp<;>omega|fail) [-zA,-zB,-zC,-zD,-zE]
  exact ⟨⟨K,M++[x],j+1⟩,z515 (by simp (disch:=first|omega|simp<;>omega|fail) [-zA,-zB,-zC,-zD,-zE,z8fo,zgwc,fM,hc]) (by simp only [z8fo,zgwc]; rw [hfin]),by simp only; omega,⟨by simpa using hk1.symm,by simp only [y02,y01]; omega,by simp,by simp only; omega⟩⟩
 | false =>
  rw [hsm] at hcd hk1
  obtain ⟨m0,M',rfl⟩ : ∃ m0 M',M=m0::M':=by
   cases M with
   | nil=>simp at a3
   | cons m0 M'=>exact ⟨m0,M',rfl⟩
  have hset:L.set c x=(K++[x])++((M'++[x])++R):=by
   rw [← hL,← hc,y0c _ _ (y0d _),y0t]; simp
  have hst : ∀ h:List AObj,zy6o h pre.length 35 (c*35) (.agg (trC x)) (some G)=some (.junk,h.set pre.length (.cells (fl trC ((K++[x])++((M'++[x])++R))))):=fun h=>by rw [← hG,z55o zezj (by decide) (zms9) (by omega),hset]
  simp (disch:=first|omega|simp<;>omega|fail) [-zA,-zB,-zC,-zD,-zE,fM,zww5,hTd,hcd,hO0,hO1,hsX,hsY,hX,hY,z1zd,hsx,hGl,zjj2,z1zn,hst,zxft,hcn,hcn']
  refine V_W mix sT ?_
  simp (disch:=first|omega|simp<;>omega|fail) [-zA,-zB,-zC,-zD,-zE]
  exact ⟨⟨K++[x],M'++[x],j+1⟩,z515 (by simp (disch:=first|omega|simp<;>omega|fail) [-zA,-zB,-zC,-zD,-zE,z8fo,zgwc,fM,hc]) (by simp (disch:=first|omega|simp<;>omega|fail) [-zA,-zB,-zC,-zD,-zE,z8fo,zgwc,hR]),by simp only; omega,⟨by simpa using hk1.symm,by simp only [y02,y01]; simp only [y0m] at a2; omega,by simp,by simp only; omega⟩⟩
theorem zd1x (sT:T.Sound P) (hTd:T N = .pure c) (hTi:T 76 = .pure (cTix N X Y p)) (hcx : ∀ x,c [.agg (trC x),.ref X,.ref Y]=some (.bool (p x))) (hX:zbao X=true) (hY:zbao Y=true) (A:List Tri) (hA:A.length≤100000) :
  zwy1 P 46 [oV 2 35 A,fM N X Y] ([.cells X,.cells Y]++oT trC A) (fun d h=>d=delW 2 p A∧h=[.cells X,.cells Y]++oT trC (delT p A)) :=
 zrqk Tryz.func46 znv1 (zmcj sT hTd hTi hcx hX hY A hA)
end
end
section
set_option linter.unusedSimpArgs false
set_option linter.unusedVariables false
set_option maxRecDepth 20000
open Go Go.Am
theorem zzlm (x:Tri):oneC 32 true ((trC x).drop 1)=some (.agg (dgC x.art)):=z9kc x
def pCl (g:Int) (d:Dg) (x:Tri):Bool:=decide (x.grp=g)&&decide (x.art=d)
def pPr (g:Int) (y:Sl Dg) (x:Tri):Bool:=decide (x.grp=g) && !decide (x.art ∈ y.l)
theorem zlti (x:Tri) (g:Int) (d:Dg):Runs tbl0 a47 [.agg (trC x),.ref [.int .i64 g],.ref (dgC d)] (.bool (pCl g d x)):=by
 refine ⟨?_⟩
 have hb : ∀ h (x:Tri),boxD h (.agg (trC x))=some (.mp h.length 35 0,h++[.cells (trC x)]):=fun h x=>by rw [zn72,zezj]
 have h1d:oneC 32 true (dgC d)=some (.agg (dgC d)):=by simp [oneC,z1t1,y00]
 by_cases h:x.grp=g
 ·simp (disch:=first|omega|simp<;>omega|fail) [-zA,-zB,-zC,-zD,-zE,a47,hb,z7fr,zzlm,zezj,h,h1d,pCl]
 ·simp (disch:=first|omega|simp<;>omega|fail) [-zA,-zB,-zC,-zD,-zE,a47,hb,z7fr,zzlm,zezj,h,h1d,pCl]
noncomputable def cCl1:List DV→Option DV:=con (fun _=>True) (fun a:Tri × Int × Dg=>[.agg (trC a.1),.ref [.int .i64 a.2.1],.ref (dgC a.2.2)]) (fun a => .bool (pCl a.2.1 a.2.2 a.1))
theorem z73i {x:Tri} {g:Int} {d:Dg}:cCl1 [.agg (trC x),.ref [.int .i64 g],.ref (dgC d)]=some (.bool (pCl g d x)) :=
 zsn4 (f:=fun a:Tri × Int × Dg=>[.agg (trC a.1),.ref [.int .i64 a.2.1],.ref (dgC a.2.2)]) (g:=fun a => .bool (pCl a.2.1 a.2.2 a.1)) (by
  rintro ⟨a,b,c⟩ ⟨a',b',c'⟩ e
  simp only [List.cons.injEq,DV.agg.injEq,DV.ref.injEq,DV.int.injEq,and_true,true_and] at e
  rw [z56z e.1,e.2.1,zib9 e.2.2]) (x,g,d)
noncomputable def zbal:Tbl:=addT 49 (.pure (cDgs hasB)) tbl0
theorem zj8i:zbal 49 = .pure (cDgs hasB):=by simp [zbal]
theorem zuyr:zbal.Sound P:=z0rp (z2au fun p _=>zljw mix zntx Tryz.func49 zdc4 (zntt p.1 p.2)) zr5o
theorem z7kd (x:Tri) (g:Int) (y:Sl Dg):Runs zbal a48 [.agg (trC x),.ref [.int .i64 g],.ref [y.dv 32 dgC]] (.bool (pPr g y x)):=by
 refine ⟨?_⟩
 have hb : ∀ h (x:Tri),boxD h (.agg (trC x))=some (.mp h.length 35 0,h++[.cells (trC x)]):=fun h x=>by rw [zn72,zezj]
 have hc:cDgs hasB [y.dv 32 dgC,.agg (dgC x.art)]=some (.bool (decide (x.art ∈ y.l))):=ztlh (g:=hasB) (x:=y) (d:=x.art)
 have hpy:zyp8 (y.dv 32 dgC)=true:=zxxb z3ot y
 by_cases h:x.grp=g
 ·simp (disch:=first|omega|simp<;>omega|fail) [-zA,-zB,-zC,-zD,-zE,a48,hb,z7fr,zzlm,zezj,h,zj8i,hc,hpy,z3ot,pPr]
 ·simp (disch:=first|omega|simp<;>omega|fail) [-zA,-zB,-zC,-zD,-zE,a48,hb,z7fr,zzlm,zezj,h,pPr]
theorem zn8g {x y:Sl Dg} (e:x.dv 32 dgC=y.dv 32 dgC):x=y:=zcq7 z1t1 (by decide) (fun _ _=>zib9) e
noncomputable def cPr1:List DV→Option DV:=con (fun _=>True) (fun a:Tri × Int × Sl Dg=>[.agg (trC a.1),.ref [.int .i64 a.2.1],.ref [a.2.2.dv 32 dgC]]) (fun a => .bool (pPr a.2.1 a.2.2 a.1))
theorem zhsv {x:Tri} {g:Int} {y:Sl Dg}:cPr1 [.agg (trC x),.ref [.int .i64 g],.ref [y.dv 32 dgC]]=some (.bool (pPr g y x)) :=
 zsn4 (f:=fun a:Tri × Int × Sl Dg=>[.agg (trC a.1),.ref [.int .i64 a.2.1],.ref [a.2.2.dv 32 dgC]]) (g:=fun a => .bool (pPr a.2.1 a.2.2 a.1)) (by
  rintro ⟨a,b,c⟩ ⟨a',b',c'⟩ e
  simp only [List.cons.injEq,DV.agg.injEq,DV.ref.injEq,DV.int.injEq,and_true,true_and] at e
  rw [z56z e.1,e.2.1,zn8g e.2.2]) (x,g,y)
theorem zs9q:(Con.pure cCl1).Sound P 47:=z2au fun a _=>zljw mix zr5o Tryz.func47 zzqr (zlti a.1 a.2.1 a.2.2)
theorem zv39:(Con.pure cPr1).Sound P 48:=z2au fun a _=>zljw mix zuyr Tryz.func48 zwi2 (z7kd a.1 a.2.1 a.2.2)
def slK (p:Tri→Bool) (l:List Tri) (h:l.length≤100000):Sl Tri:=⟨if l=[] then none else some false,kepT p l,(fun e=>by
 by_cases q:l=[]
 ·subst q; rfl
 ·rw [if_neg q] at e; cases e),(by have:=zmow p l; omega)⟩
theorem zpla {p:Tri→Bool} {l:List Tri} {h:l.length≤100000}:(slK p l h).dv 35 trC=if l=[] then .nils else .sl false 35 (kepT p l).length (fl trC (kepT p l)):=by
 unfold slK Sl.dv
 by_cases q:l=[]
 ·simp [q,slD]
 ·simp [q,slD,fl]
theorem z3hw {p:Tri→Bool} {l:List Tri}:(fl trC (delT p l)).take ((kepT p l).length*35)=fl trC (kepT p l):=by
 rw [z9uh]; unfold delT; rw [List.take_left]
section
variable {N:Nat} {X Y:List DV} {p:Tri→Bool} {c:List DV→Option DV} {T:Tbl}
noncomputable def TD (N:Nat) (X Y:List DV) (p:Tri→Bool) (c:List DV→Option DV):Tbl:=addT 76 (.pure (cTix N X Y p)) (addT N (.pure c) (addT 43 (.new cTcl) tbl0))
theorem zbr0 (hS:(Con.pure c).Sound P N) (hcx : ∀ x,c [.agg (trC x),.ref X,.ref Y]=some (.bool (p x))) (hX:zbao X=true) (hY:zbao Y=true):(TD N X Y p c).Sound P :=
 z0rp (zyl5 (T:=addT N (.pure c) tbl0) (z0rp hS zr5o) (by simp [addT]) hcx hX hY) (z0rp hS (z0rp zq8d zr5o))
end
theorem z8cy (l:List Tri) (g:Int) (d:Dg) (hl:l.length≤100000):Am.Sem P 17 [trV l,.int .i64 g,.agg (dgC d)] ((slK (pCl g d) l hl).dv 35 trC):=by
 obtain ⟨p,hp⟩ : ∃ p,pCl g d=p:=⟨_,rfl⟩
 have hcx : ∀ x,cCl1 [.agg (trC x),.ref [.int .i64 g],.ref (dgC d)]=some (.bool (p x)):=fun x=>by rw [← hp]; exact z73i
 have sT:=zbr0 (N:=47) (X:=[.int .i64 g]) (Y:=dgC d) zs9q hcx rfl (z3ot d)
 have hcl:=zd1x (N:=47) sT (by simp [TD,addT]) (by simp [TD,addT]) hcx rfl (z3ot d) l hl
 obtain ⟨TB,fB,sB,b1,b2,b3⟩:=exTH sT hcl
 have b4:TB 43 = .new cTcl:=(b3 _ (by decide)).trans (by simp [TD,addT])
 have hc:=fun n=>zg2p hl (n:=n)
 have hpv:=znen l
 have hbd : ∀ h,boxD h (.agg (dgC d))=some (.mp h.length 32 0,h++[.cells (dgC d)]):=fun h=>by rw [zn72,z1t1]
 rw [hp,zpla]
 refine zljw mix sB Tryz.func17 zcaf ⟨?_⟩
 by_cases h:l=[]
 ·subst h
  have hv0:trV [] = .nils:=rfl
  rw [hv0] at hc hpv ⊢
  simp only [zl8p,zkrk,y04] at hc b2
  have hd:delW 2 p [] = .nils:=rfl
  have ho:oT trC (delT p [])=[]:=rfl
  rw [hd,ho] at b2
  simp only [fM,z1t1,y01,y04] at b2
  simp (disch:=first|omega|simp<;>omega|fail) [-zA,-zB,-zC,-zD,-zE,a17,hbd,hpv,b4,hc,b1,b2]
 ·have hne:delT p l≠[]:=fun e=>by have:=zgyq p l; rw [e] at this; exact h (y0b this.symm)
  have hd:delW 2 p l = .ms 2 (l.length*35) 0 35 (kepT p l).length (l.length*35):=if_neg h
  simp only [zpni h,zu2l h] at hc b2
  rw [hd,zu2l hne] at b2
  have hdl:(fl trC (delT p l)).length=l.length*35:=by rw [z8lx zezj,zgyq]
  have htk:=z3hw (p:=p) (l:=l)
  have hsn : ∀ (H:List AObj) k,z4tt H k (fl trC (kepT p l))=some (fl trC (kepT p l)):=fun H k=>z619 (zp6k z1zd _)
  have hpl:zbao (fl trC (kepT p l))=true:=zp6k z1zd _
  simp only [fM,z1t1,y01,y0g,y0a] at b2
  simp (disch:=first|omega|simp<;>omega|fail) [-zA,-zB,-zC,-zD,-zE,a17,hbd,hpv,b4,hc,b1,b2,h,hdl,htk,hsn,hpl]
theorem zem6 (l:List Tri) (g:Int) (y:Sl Dg) (hl:l.length≤100000):Am.Sem P 19 [trV l,.int .i64 g,y.dv 32 dgC] ((slK (pPr g y) l hl).dv 35 trC):=by
 obtain ⟨p,hp⟩ : ∃ p,pPr g y=p:=⟨_,rfl⟩
 have hpY:zbao [y.dv 32 dgC]=true:=by simp [zbao,zxxb z3ot y]
 have hcx : ∀ x,cPr1 [.agg (trC x),.ref [.int .i64 g],.ref [y.dv 32 dgC]]=some (.bool (p x)):=fun x=>by rw [← hp]; exact zhsv
 have sT:=zbr0 (N:=48) (X:=[.int .i64 g]) (Y:=[y.dv 32 dgC]) zv39 hcx rfl hpY
 have hcl:=zd1x (N:=48) sT (by simp [TD,addT]) (by simp [TD,addT]) hcx rfl hpY l hl
 obtain ⟨TB,fB,sB,b1,b2,b3⟩:=exTH sT hcl
 have b4:TB 43 = .new cTcl:=(b3 _ (by decide)).trans (by simp [TD,addT])
 have hc:=fun n=>zg2p hl (n:=n)
 have hpv:=znen l
 have hbd : ∀ h,boxD h (y.dv 32 dgC)=some (.mp h.length 1 0,h++[.cells [y.dv 32 dgC]]):=fun h=>by unfold Sl.dv slD; cases y.k<;>rfl
 rw [hp,zpla]
 refine zljw mix sB Tryz.func19 zlqi ⟨?_⟩
 by_cases h:l=[]
 ·subst h
  have hv0:trV [] = .nils:=rfl
  rw [hv0] at hc hpv ⊢
  simp only [zl8p,zkrk,y04] at hc b2
  have hd:delW 2 p [] = .nils:=rfl
  have ho:oT trC (delT p [])=[]:=rfl
  rw [hd,ho] at b2
  simp only [fM,y01,y04] at b2
  simp (disch:=first|omega|simp<;>omega|fail) [-zA,-zB,-zC,-zD,-zE,a19,hbd,hpv,b4,hc,b1,b2]
 ·have hne:delT p l≠[]:=fun e=>by have:=zgyq p l; rw [e] at this; exact h (y0b this.symm)
  have hd:delW 2 p l = .ms 2 (l.length*35) 0 35 (kepT p l).length (l.length*35):=if_neg h
  simp only [zpni h,zu2l h] at hc b2
  rw [hd,zu2l hne] at b2
  have hdl:(fl trC (delT p l)).length=l.length*35:=by rw [z8lx zezj,zgyq]
  have htk:=z3hw (p:=p) (l:=l)
  have hsn : ∀ (H:List AObj) k,z4tt H k (fl trC (kepT p l))=some (fl trC (kepT p l)):=fun H k=>z619 (zp6k z1zd _)
  have hpl:zbao (fl trC (kepT p l))=true:=zp6k z1zd _
  simp only [fM,y01,y0g,y0a] at b2
  simp (disch:=first|omega|simp<;>omega|fail) [-zA,-zB,-zC,-zD,-zE,a19,hbd,hpv,b4,hc,b1,b2,h,hdl,htk,hsn,hpl]
end
section
set_option linter.unusedSimpArgs false
set_option linter.unusedVariables false
set_option maxRecDepth 20000
open Go Go.Am
def zhs3 (l:List Tri) (g:Int) (d:Dg) (i:Nat):St:=zzg5 (trV l) (.int .i64 g) (.mp 0 32 0) (oV 1 35 (kepT (pCl g d) (l.take i))) (.int .i64 i) ([.cells (dgC d)]++oT trC (kepT (pCl g d) (l.take i)))
theorem zlw6 (l:List Tri) (g:Int) (d:Dg) (hb:l.length≤100000):Runs tbl0 a18 [trV l,.int .i64 g,.agg (dgC d)] (trV (kepT (pCl g d) l)):=by
 refine ⟨?_⟩
 have hl : ∀ H,lenD H (trV l)=some (.int .i64 l.length):=fun H=>by
  have:=zupj (x:=trSl l hb) (s:=35) (f:=trC) (h:=H)
  rwa [z3eh] at this
 have hix : ∀ (k:Nat) (h:k<l.length) (H:List AObj),zpsc H 35 (trV l) k=some (.ref (trC l[k])):=fun k h H=>by
  have:=zalo (x:=trSl l hb) (h:=H) (f:=trC) (s:=35) (i:=k) zezj h
  rwa [z3eh] at this
 have hbd : ∀ h,boxD h (.agg (dgC d))=some (.mp h.length 32 0,h++[.cells (dgC d)]):=fun h=>by rw [zn72,z1t1]
 have h1d:oneC 32 true (dgC d)=some (.agg (dgC d)):=by simp [oneC,z1t1,y00]
 have hl35:=fun x=>zezj x
 simp (disch:=first|omega|simp<;>omega|fail) [-zA,-zB,-zC,-zD,-zE,a18,hbd]
 refine zlm5 (zhs3 l g d) (fun i=>l.length-i) (fun i=>i≤l.length) 0 (z515 (by simp (disch:=first|omega|simp<;>omega|fail) [-zA,-zB,-zC,-zD,-zE,zhs3,zzg5,y0j,show kepT (pCl g d) []=[] from rfl,zl8p]) (by simp (disch:=first|omega|simp<;>omega|fail) [-zA,-zB,-zC,-zD,-zE,zhs3,zzg5,y0j,show kepT (pCl g d) []=[] from rfl,zkrk])) (y0f _) (fun i hi => ?_)
 simp only [zhs3]
 by_cases q:i<l.length
 ·have q':(i:Int)<l.length:=by omega
  have hy:=hix i q
  have hsn:kepT (pCl g d) (l.take (i+1))=kepT (pCl g d) (l.take i)++(if pCl g d l[i] then [] else [l[i]]):=by rw [y03 q,zrft]
  obtain ⟨u,hu⟩ : ∃ u,l[i]=u:=⟨_,rfl⟩
  rw [hu] at hsn
  simp only [hu] at hy
  obtain ⟨K,hK⟩ : ∃ K,kepT (pCl g d) (l.take i)=K:=⟨_,rfl⟩
  have hKl:K.length≤100000:=by
   have h1:=zmow (pCl g d) (l.take i)
   rw [hK,y05] at h1; omega
  rw [hK] at hsn ⊢
  have hap:=zte0 (k:=1) (K:=35) (b:=56) (f:=trC) (l:=K) (x:=u) (h:=[.cells (dgC d)]) rfl zezj (by decide) (by decide) zms9 (by omega)
  simp only [y0g,y0a] at hap
  have tr0:trC tri0=[.int .i64 0,w8 0#8,w8 0#8,w8 0#8,w8 0#8,w8 0#8,w8 0#8,w8 0#8,w8 0#8,w8 0#8,w8 0#8,w8 0#8,w8 0#8,w8 0#8,w8 0#8,w8 0#8,w8 0#8,w8 0#8,w8 0#8,w8 0#8,w8 0#8,w8 0#8,w8 0#8,w8 0#8,w8 0#8,w8 0#8,w8 0#8,w8 0#8,w8 0#8,w8 0#8,w8 0#8,w8 0#8,w8 0#8,.int .i64 0,.int .i64 0]:=rfl
  have hbs:bslD 35 1 (trC tri0) [(0,35,.agg (trC u))]=some (.sl true 35 1 (trC u)):=z72h (zezj _)
  have hap1:=fun (b:DV)=>zcd8 (cs:=trC u) (b:=b)
  by_cases e1:u.grp=g
  ·by_cases e2:u.art=d
   ·have hp:pCl g d u=true:=by simp [pCl,e1,e2]
    rw [hp] at hsn
    simp only [if_true,y04] at hsn
    simp (disch:=first|omega|simp<;>omega|fail) [-zA,-zB,-zC,-zD,-zE,zjhm,zzg5,hl,q,q',hy,z7fr,zzlm,h1d,hl35,e1,e2,z1t1]
    exact ⟨i+1,z515 (by simp (disch:=first|omega|simp<;>omega|fail) [-zA,-zB,-zC,-zD,-zE,zhs3,zzg5,hsn]) (by simp (disch:=first|omega|simp<;>omega|fail) [-zA,-zB,-zC,-zD,-zE,zhs3,zzg5,hsn]),by omega,by omega⟩
   ·have hp:pCl g d u=false:=by simp [pCl,e2]
    rw [hp] at hsn
    simp only [y06,if_false] at hsn
    simp (disch:=first|omega|simp<;>omega|fail) [-zA,-zB,-zC,-zD,-zE,zjhm,zzg5,hl,q,q',hy,z7fr,zzlm,h1d,hl35,e1,e2,z1t1,zww5,← tr0,hbs,hap]
    exact ⟨i+1,z515 (by simp (disch:=first|omega|simp<;>omega|fail) [-zA,-zB,-zC,-zD,-zE,zhs3,zzg5,hsn]) (by simp (disch:=first|omega|simp<;>omega|fail) [-zA,-zB,-zC,-zD,-zE,zhs3,zzg5,hsn]),by omega,by omega⟩
  ·have hp:pCl g d u=false:=by simp [pCl,e1]
   rw [hp] at hsn
   simp only [y06,if_false] at hsn
   simp (disch:=first|omega|simp<;>omega|fail) [-zA,-zB,-zC,-zD,-zE,zjhm,zzg5,hl,q,q',hy,z7fr,zzlm,h1d,hl35,e1,z1t1,zww5,← tr0,hbs,hap]
   exact ⟨i+1,z515 (by simp (disch:=first|omega|simp<;>omega|fail) [-zA,-zB,-zC,-zD,-zE,zhs3,zzg5,hsn]) (by simp (disch:=first|omega|simp<;>omega|fail) [-zA,-zB,-zC,-zD,-zE,zhs3,zzg5,hsn]),by omega,by omega⟩
 ·have q':¬ (i:Int)<l.length:=by omega
  rw [y00 (show l.length≤i by omega)]
  obtain ⟨K,hK⟩ : ∃ K,kepT (pCl g d) l=K:=⟨_,rfl⟩
  rw [hK]
  by_cases e:K=[]
  ·subst e
   rw [zl8p,zkrk]
   simp (disch:=first|omega|simp<;>omega|fail) [-zA,-zB,-zC,-zD,-zE,zjhm,zzg5,hl,q,q',show trV [] = .nils from rfl]
  ·rw [zpni e,zu2l e,z6a4 e]
   have hfl:=z8lx zezj K
   have htk:(fl trC K).take (K.length*35)=fl trC K:=y00 (by rw [hfl]; exact y0d _)
   have hsn : ∀ (H:List AObj) k,z4tt H k (fl trC K)=some (fl trC K):=fun H k=>z619 (zp6k z1zd _)
   have hpl:zbao (fl trC K)=true:=zp6k z1zd _
   simp (disch:=first|omega|simp<;>omega|fail) [-zA,-zB,-zC,-zD,-zE,zjhm,zzg5,hl,q,q',hfl,htk,hsn,hpl]
noncomputable def zlcr:Tbl:=addT 50 (.pure (cDgs hasB)) tbl0
theorem z028:zlcr 50 = .pure (cDgs hasB):=by simp [zlcr]
theorem zjtv:zlcr.Sound P:=z0rp (z2au fun p _=>zljw mix zr5o Tryz.func50 z12y (zfg2 p.1 p.2)) zr5o
def zush (l:List Tri) (g:Int) (y:Sl Dg) (i:Nat):St:=zfgh (trV l) (.int .i64 g) (y.dv 32 dgC) (oV 0 35 (kepT (pPr g y) (l.take i))) (.int .i64 i) (oT trC (kepT (pPr g y) (l.take i)))
theorem z72c (l:List Tri) (g:Int) (y:Sl Dg) (hb:l.length≤100000):Runs zlcr a20 [trV l,.int .i64 g,y.dv 32 dgC] (trV (kepT (pPr g y) l)):=by
 refine ⟨?_⟩
 have hl : ∀ H,lenD H (trV l)=some (.int .i64 l.length):=fun H=>by
  have:=zupj (x:=trSl l hb) (s:=35) (f:=trC) (h:=H)
  rwa [z3eh] at this
 have hix : ∀ (k:Nat) (h:k<l.length) (H:List AObj),zpsc H 35 (trV l) k=some (.ref (trC l[k])):=fun k h H=>by
  have:=zalo (x:=trSl l hb) (h:=H) (f:=trC) (s:=35) (i:=k) zezj h
  rwa [z3eh] at this
 have hpy:zyp8 (y.dv 32 dgC)=true:=zxxb z3ot y
 have hl35:=fun x=>zezj x
 simp (disch:=first|omega|simp<;>omega|fail) [-zA,-zB,-zC,-zD,-zE,a20]
 refine zlm5 (zush l g y) (fun i=>l.length-i) (fun i=>i≤l.length) 0 (z515 (by simp (disch:=first|omega|simp<;>omega|fail) [-zA,-zB,-zC,-zD,-zE,zush,zfgh,y0j,show kepT (pPr g y) []=[] from rfl,zl8p]) (by simp (disch:=first|omega|simp<;>omega|fail) [-zA,-zB,-zC,-zD,-zE,zush,zfgh,y0j,show kepT (pPr g y) []=[] from rfl,zkrk])) (y0f _) (fun i hi => ?_)
 simp only [zush]
 by_cases q:i<l.length
 ·have q':(i:Int)<l.length:=by omega
  have hy:=hix i q
  have hsn:kepT (pPr g y) (l.take (i+1))=kepT (pPr g y) (l.take i)++(if pPr g y l[i] then [] else [l[i]]):=by rw [y03 q,zrft]
  obtain ⟨u,hu⟩ : ∃ u,l[i]=u:=⟨_,rfl⟩
  rw [hu] at hsn
  simp only [hu] at hy
  obtain ⟨K,hK⟩ : ∃ K,kepT (pPr g y) (l.take i)=K:=⟨_,rfl⟩
  have hKl:K.length≤100000:=by
   have h1:=zmow (pPr g y) (l.take i)
   rw [hK,y05] at h1; omega
  rw [hK] at hsn ⊢
  have hap:=zte0 (k:=0) (K:=35) (b:=56) (f:=trC) (l:=K) (x:=u) (h:=[]) rfl zezj (by decide) (by decide) zms9 (by omega)
  simp only [y0a] at hap
  have tr0:trC tri0=[.int .i64 0,w8 0#8,w8 0#8,w8 0#8,w8 0#8,w8 0#8,w8 0#8,w8 0#8,w8 0#8,w8 0#8,w8 0#8,w8 0#8,w8 0#8,w8 0#8,w8 0#8,w8 0#8,w8 0#8,w8 0#8,w8 0#8,w8 0#8,w8 0#8,w8 0#8,w8 0#8,w8 0#8,w8 0#8,w8 0#8,w8 0#8,w8 0#8,w8 0#8,w8 0#8,w8 0#8,w8 0#8,w8 0#8,.int .i64 0,.int .i64 0]:=rfl
  have hbs:bslD 35 1 (trC tri0) [(0,35,.agg (trC u))]=some (.sl true 35 1 (trC u)):=z72h (zezj _)
  have hap1:=fun (b:DV)=>zcd8 (cs:=trC u) (b:=b)
  have hh:cDgs hasB [y.dv 32 dgC,.agg (dgC u.art)]=some (.bool (decide (u.art ∈ y.l))):=ztlh (g:=hasB) (x:=y) (d:=u.art)
  by_cases e1:u.grp=g
  ·by_cases e2:u.art ∈ y.l
   ·have hp:pPr g y u=false:=by simp [pPr,e2]
    rw [hp] at hsn
    simp only [y06,if_false] at hsn
    simp (disch:=first|omega|simp<;>omega|fail) [-zA,-zB,-zC,-zD,-zE,zy4c,zfgh,hl,q,q',hy,z7fr,zzlm,hl35,e1,e2,z028,hh,hpy,z3ot,zww5,← tr0,hbs,hap]
    exact ⟨i+1,z515 (by simp (disch:=first|omega|simp<;>omega|fail) [-zA,-zB,-zC,-zD,-zE,zush,zfgh,hsn]) (by simp (disch:=first|omega|simp<;>omega|fail) [-zA,-zB,-zC,-zD,-zE,zush,zfgh,hsn]),by omega,by omega⟩
   ·have hp:pPr g y u=true:=by simp [pPr,e1,e2]
    rw [hp] at hsn
    simp only [if_true,y04] at hsn
    simp (disch:=first|omega|simp<;>omega|fail) [-zA,-zB,-zC,-zD,-zE,zy4c,zfgh,hl,q,q',hy,z7fr,zzlm,hl35,e1,e2,z028,hh,hpy,z3ot]
    exact ⟨i+1,z515 (by simp (disch:=first|omega|simp<;>omega|fail) [-zA,-zB,-zC,-zD,-zE,zush,zfgh,hsn]) (by simp (disch:=first|omega|simp<;>omega|fail) [-zA,-zB,-zC,-zD,-zE,zush,zfgh,hsn]),by omega,by omega⟩
  ·have hp:pPr g y u=false:=by simp [pPr,e1]
   rw [hp] at hsn
   simp only [y06,if_false] at hsn
   simp (disch:=first|omega|simp<;>omega|fail) [-zA,-zB,-zC,-zD,-zE,zy4c,zfgh,hl,q,q',hy,z7fr,zzlm,hl35,e1,zww5,← tr0,hbs,hap]
   exact ⟨i+1,z515 (by simp (disch:=first|omega|simp<;>omega|fail) [-zA,-zB,-zC,-zD,-zE,zush,zfgh,hsn]) (by simp (disch:=first|omega|simp<;>omega|fail) [-zA,-zB,-zC,-zD,-zE,zush,zfgh,hsn]),by omega,by omega⟩
 ·have q':¬ (i:Int)<l.length:=by omega
  rw [y00 (show l.length≤i by omega)]
  obtain ⟨K,hK⟩ : ∃ K,kepT (pPr g y) l=K:=⟨_,rfl⟩
  rw [hK]
  by_cases e:K=[]
  ·subst e
   rw [zl8p,zkrk]
   simp (disch:=first|omega|simp<;>omega|fail) [-zA,-zB,-zC,-zD,-zE,zy4c,zfgh,hl,q,q',show trV [] = .nils from rfl]
  ·rw [zpni e,zu2l e,z6a4 e]
   have hfl:=z8lx zezj K
   have htk:(fl trC K).take (K.length*35)=fl trC K:=y00 (by rw [hfl]; exact y0d _)
   have hsn : ∀ (H:List AObj) k,z4tt H k (fl trC K)=some (fl trC K):=fun H k=>z619 (zp6k z1zd _)
   have hpl:zbao (fl trC K)=true:=zp6k z1zd _
   simp (disch:=first|omega|simp<;>omega|fail) [-zA,-zB,-zC,-zD,-zE,zy4c,zfgh,hl,q,q',hfl,htk,hsn,hpl]
theorem z3ds {x y:Tri}:z32s (zi5g [(35,0)]) (trC x) (trC y)=some (decide (x=y)):=by
 have e:zi5g [(35,0)]=[0]++(zi5g [(32,0)]++[0,0]):=by decide
 have e1 : ∀ x:Tri,trC x=[.int .i64 x.grp]++(dgC x.art++[.int .i64 x.fl,.int .i64 x.af]):=fun _=>rfl
 have ei : ∀ x y:Int,(x == y)=decide (x=y):=fun x y=>by by_cases h:x=y<;>simp [h]
 have c1 : ∀ a b:Int,z32s [0] [.int .i64 a] [.int .i64 b]=some (decide (a=b)):=fun a b=>by simp [z32s,znnj,ei]
 have c2 : ∀ a b c d:Int,z32s [0,0] [.int .i64 a,.int .i64 b] [.int .i64 c,.int .i64 d]=some (decide (a=c∧b=d)):=fun a b c d=>by simp [z32s,znnj,ei]
 have hk:(zi5g [(32,0)]).length=32:=by decide
 rw [e,e1,e1,zid2 rfl rfl,zid2 (by rw [z1t1,hk]) (by rw [z1t1,hk]),zyiz,c1,c2]
 obtain ⟨a,b,c,d⟩:=x
 obtain ⟨a',b',c',d'⟩:=y
 simp only [Option.bind_some,Option.map_some,Tri.mk.injEq,Option.some.injEq,Bool.decide_and,Bool.and_assoc]
def zfxu (x y:Sl Tri) (i:Nat):St:=zk4k (x.dv 35 trC) (y.dv 35 trC) (.int .i64 i) []
theorem zirg (x y:Sl Tri):Runs tbl0 a14 [x.dv 35 trC,y.dv 35 trC] (.bool (decide (x.l=y.l))):=by
 refine ⟨?_⟩
 have hx : ∀ H,lenD H (x.dv 35 trC)=some (.int .i64 x.l.length):=fun H=>zupj
 have hy : ∀ H,lenD H (y.dv 35 trC)=some (.int .i64 y.l.length):=fun H=>zupj
 have hxb:=x.b
 by_cases e:x.l.length=y.l.length
 case neg =>
  have e':¬ (x.l.length:Int)=y.l.length:=by omega
  have hd:decide (x.l=y.l)=false:=decide_eq_false fun q=>e (by rw [q])
  simp (disch:=first|omega|simp<;>omega|fail) [-zA,-zB,-zC,-zD,-zE,a14,hx,hy,e,e',hd]
 have e':(x.l.length:Int)=y.l.length:=by omega
 simp (disch:=first|omega|simp<;>omega|fail) [-zA,-zB,-zC,-zD,-zE,a14,hx,hy,e,e']
 refine zlm5 (zfxu x y) (fun i=>x.l.length-i) (fun i=>i≤x.l.length ∧ ∀ j (h:j<x.l.length) (h':j<y.l.length),j<i→x.l[j]=y.l[j]) 0 (z515 (by simp (disch:=first|omega|simp<;>omega|fail) [-zA,-zB,-zC,-zD,-zE,zfxu,zk4k]) (by simp (disch:=first|omega|simp<;>omega|fail) [-zA,-zB,-zC,-zD,-zE,zfxu,zk4k])) ⟨y0f _,fun _ _ _ h=>by omega⟩ (fun i hi => ?_)
 obtain ⟨q1,q2⟩:=hi
 simp only [zfxu]
 by_cases q:i<x.l.length
 ·have q':(i:Int)<y.l.length:=by omega
  have qy:i<y.l.length:=by omega
  have h1 : ∀ H,zpsc H 35 (x.dv 35 trC) i=some (.ref (trC x.l[i])):=fun H=>zalo zezj q
  have h2 : ∀ H,zpsc H 35 (y.dv 35 trC) i=some (.ref (trC y.l[i])):=fun H=>zalo zezj qy
  have hc:=z3ds (x:=x.l[i]) (y:=y.l[i])
  have hne:x.l[i]≠y.l[i]→decide (x.l=y.l)=false:=fun w=>decide_eq_false fun q=>w (by simp only [q])
  have hst:x.l[i]=y.l[i] → ∀ j (h:j<x.l.length) (h':j<y.l.length),j<i+1→x.l[j]=y.l[j]:=fun w j h h' hj=>by
   by_cases ej:j=i
   ·subst ej; exact w
   ·exact q2 j h h' (by omega)
  obtain ⟨u,hu⟩ : ∃ u,x.l[i]=u:=⟨_,rfl⟩
  obtain ⟨v,hv⟩ : ∃ v,y.l[i]=v:=⟨_,rfl⟩
  rw [hu,hv] at hc hne hst
  rw [hu] at h1
  rw [hv] at h2
  by_cases w:u=v
  ·subst w
   have hst:=hst rfl
   simp only [decide_true] at hc
   simp (disch:=first|omega|simp<;>omega|fail) [-zA,-zB,-zC,-zD,-zE,zso2,zk4k,hx,hy,e,e',q,q',qy,h1,h2,zww5,hc]
   exact ⟨i+1,z515 (by simp (disch:=first|omega|simp<;>omega|fail) [-zA,-zB,-zC,-zD,-zE,zfxu,zk4k]) (by simp (disch:=first|omega|simp<;>omega|fail) [-zA,-zB,-zC,-zD,-zE,zfxu,zk4k]),by omega,by omega,fun j h' h hj=>hst j (by omega) (by omega) hj⟩
  ·have hne:=hne w
   rw [decide_eq_false w] at hc
   simp (disch:=first|omega|simp<;>omega|fail) [-zA,-zB,-zC,-zD,-zE,zso2,zk4k,hx,hy,e,e',q,q',qy,h1,h2,zww5,hc,hne]
 ·have q':¬ (i:Int)<y.l.length:=by omega
  have qy:¬ i<y.l.length:=by omega
  have hd:decide (x.l=y.l)=true:=decide_eq_true (List.ext_getElem e fun j h h'=>q2 j h h' (by omega))
  simp (disch:=first|omega|simp<;>omega|fail) [-zA,-zB,-zC,-zD,-zE,zso2,zk4k,hx,hy,e,e',q,q',qy,hd]
end
section
set_option linter.unusedSimpArgs false
set_option linter.unusedVariables false
set_option maxRecDepth 20000
open Go Go.Am
theorem zhmi {t:Tp} {c:Clu} : ∀ m,∀ y ∈ (triS t c m).2,0≤y.fl∧y.fl≤16
 | 0,y,h=>by simp [triS] at h
 | m+1,y,h=>by
  have ih:=zhmi (t:=t) (c:=c) m
  unfold triS at h
  split at h
  ·split at h
   ·split at h
    ·rcases List.mem_append.1 h with h|h
     ·exact ih y h
     ·simp only [List.mem_singleton] at h
      subst h
      have h1:=z4rs (((triS t c m).1).adv 1) 4
      have h2:=z2s7 (((triS t c m).1).adv 1) (n:=4) (by omega)
      simp only
      omega
    ·exact ih y h
   ·exact ih y h
  ·exact ih y h
theorem ze1j (u:Tp):(scnV u).1.tr.length≤1000∧(scnV u).1.tr.Pairwise ltT ∧ ∀ y ∈ (scnV u).1.tr,0≤y.fl∧y.fl≤16:=by
 obtain ⟨_,sn⟩:=z7ak u 8
 obtain ⟨w,hw⟩ : ∃ w,(scnV u).1.tr=(triS w (zcpt u 8).1 (3*(zcpt u 8).1.g.l.length)).2:=⟨_,rfl⟩
 rw [hw]
 have:=zso0 (t:=w) (c:=(zcpt u 8).1) (3*(zcpt u 8).1.g.l.length)
 exact ⟨by omega,(z2rl _).1,zhmi _⟩
theorem z2jl {u:Tp} (hu:u.at_=0):(scnV u).2.at_<4000000000:=by
 have hat:=z2ep u 8 (by decide) (by decide)
 have hn9:=zukg u 8 (by decide) (by decide)
 obtain ⟨_,sn⟩:=z7ak u 8
 have htl:=zso0 (t:=(zcpt u 8).2.adv (3*(zcpt u 8).1.g.l.length)) (c:=(zcpt u 8).1) (3*(zcpt u 8).1.g.l.length)
 have hwa:((zcpt u 8).2.adv (3*(zcpt u 8).1.g.l.length)).at_=(zcpt u 8).2.at_+3*(zcpt u 8).1.g.l.length:=rfl
 have e:(scnV u).2.at_=(triS ((zcpt u 8).2.adv (3*(zcpt u 8).1.g.l.length)) (zcpt u 8).1 (3*(zcpt u 8).1.g.l.length)).1.at_+(zcpt u 8).1.i.l.length+1:=rfl
 rw [e]
 omega
structure FaA where
 l:TL
 g:Int
 d:Dg
 t:Int
def FaOK (a:FaA):Prop:=a.l.1.length≤1000∧Mono (cmpT a.g a.d) a.l.1∧(∀ y ∈ a.l.1,0≤y.fl∧y.fl≤16)∧0≤a.t∧a.t≤1099511627776
noncomputable def cFa:List DV→Option DV:=con FaOK (fun a=>[trV a.l.1,.int .i64 a.g,.agg (dgC a.d),.int .i64 a.t]) (fun a=>trV (z2m7 a.l.1 a.g a.d a.t))
theorem zh5c {l:List Tri} {g:Int} {d:Dg} {t:Int} (hl:l.length≤100000) (h:FaOK ⟨⟨l,hl⟩,g,d,t⟩):cFa [trV l,.int .i64 g,.agg (dgC d),.int .i64 t]=some (trV (z2m7 l g d t)) :=
 zzno (A:=FaOK) (f:=fun a=>[trV a.l.1,.int .i64 a.g,.agg (dgC a.d),.int .i64 a.t]) (g:=fun a=>trV (z2m7 a.l.1 a.g a.d a.t)) (by
  rintro ⟨a,b,c,d⟩ ⟨a',b',c',d'⟩ e
  simp only [List.cons.injEq,DV.agg.injEq,DV.int.injEq,and_true,true_and] at e
  rw [zhma e.1,e.2.1,zib9 e.2.2.1,e.2.2.2]) ⟨⟨l,hl⟩,g,d,t⟩ h
theorem z5vz:(Con.pure cFa).Sound P 15:=z2au fun a h=>zmwj a.l.1 a.g a.d a.t h.1 h.2.1 h.2.2.1 h.2.2.2.1 h.2.2.2.2
theorem zlu2:(Con.pure cFa).Sound P 16:=z2au fun a h=>zljw mix zbkx Tryz.func16 zddi (z6qo a.l.1 a.g a.d a.t h.1 h.2.2.1 h.2.2.2.1 h.2.2.2.2)
noncomputable def cClr (r:(l:List Tri)→l.length≤100000→Int→Dg→DV):List DV→Option DV:=con (fun _=>True) (fun a:TL × Int × Dg=>[trV a.1.1,.int .i64 a.2.1,.agg (dgC a.2.2)]) (fun a=>r a.1.1 a.1.2 a.2.1 a.2.2)
theorem zuvb {r:(l:List Tri)→l.length≤100000→Int→Dg→DV} {l:List Tri} {g:Int} {d:Dg} (hl:l.length≤100000):cClr r [trV l,.int .i64 g,.agg (dgC d)]=some (r l hl g d) :=
 zzno (A:=fun _=>True) (f:=fun a:TL × Int × Dg=>[trV a.1.1,.int .i64 a.2.1,.agg (dgC a.2.2)]) (g:=fun a=>r a.1.1 a.1.2 a.2.1 a.2.2) (by
  rintro ⟨a,b,c⟩ ⟨a',b',c'⟩ e
  simp only [List.cons.injEq,DV.agg.injEq,DV.int.injEq,and_true,true_and] at e
  rw [zhma e.1,e.2.1,zib9 e.2.2]) (⟨l,hl⟩,g,d) trivial
noncomputable def cPrn (r:(l:List Tri)→l.length≤100000→Int→Sl Dg→DV):List DV→Option DV:=con (fun _=>True) (fun a:TL × Int × Sl Dg=>[trV a.1.1,.int .i64 a.2.1,a.2.2.dv 32 dgC]) (fun a=>r a.1.1 a.1.2 a.2.1 a.2.2)
theorem zgea {r:(l:List Tri)→l.length≤100000→Int→Sl Dg→DV} {l:List Tri} {g:Int} {y:Sl Dg} (hl:l.length≤100000):cPrn r [trV l,.int .i64 g,y.dv 32 dgC]=some (r l hl g y) :=
 zzno (A:=fun _=>True) (f:=fun a:TL × Int × Sl Dg=>[trV a.1.1,.int .i64 a.2.1,a.2.2.dv 32 dgC]) (g:=fun a=>r a.1.1 a.1.2 a.2.1 a.2.2) (by
  rintro ⟨a,b,c⟩ ⟨a',b',c'⟩ e
  simp only [List.cons.injEq,DV.int.injEq,and_true,true_and] at e
  rw [zhma e.1,e.2.1,zn8g e.2.2]) (⟨l,hl⟩,g,y) trivial
def rClP (l:List Tri) (h:l.length≤100000) (g:Int) (d:Dg):DV:=(slK (pCl g d) l h).dv 35 trC
def rClR (l:List Tri) (_:l.length≤100000) (g:Int) (d:Dg):DV:=trV (kepT (pCl g d) l)
def rPrP (l:List Tri) (h:l.length≤100000) (g:Int) (y:Sl Dg):DV:=(slK (pPr g y) l h).dv 35 trC
def rPrR (l:List Tri) (_:l.length≤100000) (g:Int) (y:Sl Dg):DV:=trV (kepT (pPr g y) l)
noncomputable def cSmT:List DV→Option DV:=con (fun _=>True) (fun a:Sl Tri × Sl Tri=>[a.1.dv 35 trC,a.2.dv 35 trC]) (fun a => .bool (decide (a.1.l=a.2.l)))
theorem zxsc {x y:Sl Tri}:cSmT [x.dv 35 trC,y.dv 35 trC]=some (.bool (decide (x.l=y.l))) :=
 zsn4 (f:=fun a:Sl Tri × Sl Tri=>[a.1.dv 35 trC,a.2.dv 35 trC]) (g:=fun a => .bool (decide (a.1.l=a.2.l))) (by
  rintro ⟨a,b⟩ ⟨a',b'⟩ e
  simp only [List.cons.injEq,and_true] at e
  rw [z47i e.1,z47i e.2]) (x,y)
theorem zj51:(Con.pure (cClr rClP)).Sound P 17:=z2au fun a _=>z8cy a.1.1 a.2.1 a.2.2 a.1.2
theorem z134:(Con.pure (cClr rClR)).Sound P 18:=z2au fun a _=>zljw mix zr5o Tryz.func18 zt5q (zlw6 a.1.1 a.2.1 a.2.2 a.1.2)
theorem zq92:(Con.pure (cPrn rPrP)).Sound P 19:=z2au fun a _=>zem6 a.1.1 a.2.1 a.2.2 a.1.2
theorem z6se:(Con.pure (cPrn rPrR)).Sound P 20:=z2au fun a _=>zljw mix zjtv Tryz.func20 zfgm (z72c a.1.1 a.2.1 a.2.2 a.1.2)
theorem z723:(Con.pure cSmT).Sound P 14:=z2au fun a _=>zljw mix zr5o Tryz.func14 zzfl (zirg a.1 a.2)
theorem z0u1 {l:List Tri} (h:l.length≤100000):cSmT [trV l,trV l]=some (.bool true):=by
 have:=zxsc (x:=trSl l h) (y:=trSl l h)
 rw [z3eh] at this
 simpa using this
theorem zxqh {p:Tri→Bool} {l:List Tri} (h:l.length≤100000):cSmT [(slK p l h).dv 35 trC,trV (kepT p l)]=some (.bool true):=by
 have hk:(kepT p l).length≤100000:=Nat.le_trans (zmow p l) h
 have:=zxsc (x:=slK p l h) (y:=trSl (kepT p l) hk)
 rw [z3eh] at this
 rw [this]
 simp [slK,trSl]
noncomputable def z1p4:Tbl:=addT 12 (.new cScn) (addT 13 (.tch z1m3) (addT 15 (.pure cFa) (addT 16 (.pure cFa) (addT 17 (.pure (cClr rClP)) (addT 18 (.pure (cClr rClR)) (addT 19 (.pure (cPrn rPrP)) (addT 20 (.pure (cPrn rPrR)) (addT 14 (.pure cSmT) (addT 21 (.pure cTru) tbl0)))))))))
theorem zfve:z1p4 12 = .new cScn:=by simp [z1p4]
theorem zcld:z1p4 13 = .tch z1m3:=by simp [z1p4]
theorem zcmy:z1p4 15 = .pure cFa:=by simp [z1p4]
theorem zl9h:z1p4 16 = .pure cFa:=by simp [z1p4]
theorem zsh9:z1p4 17 = .pure (cClr rClP):=by simp [z1p4]
theorem zreh:z1p4 18 = .pure (cClr rClR):=by simp [z1p4]
theorem zpb7:z1p4 19 = .pure (cPrn rPrP):=by simp [z1p4]
theorem zm21:z1p4 20 = .pure (cPrn rPrR):=by simp [z1p4]
theorem z4k0:z1p4 14 = .pure cSmT:=by simp [z1p4]
theorem z336:z1p4 21 = .pure cTru:=by simp [z1p4]
theorem zi4a:z1p4.Sound P:=z0rp zr8u (z0rp z51e (z0rp z5vz (z0rp zlu2 (z0rp zj51 (z0rp z134 (z0rp zq92 (z0rp z6se (z0rp z723 (z0rp (zi1x zul1) zr5o)))))))))
theorem zu93 (x:Nl):Runs z1p4 a3 [x.dv] (.bool true):=by
 refine ⟨?_⟩
 obtain ⟨u,hu⟩ : ∃ u,tp0 x 300=u:=⟨_,rfl⟩
 have hua:u.at_=0:=by rw [← hu]; rfl
 have hS:=fun n=>zd92 (x:=x) (n:=n)
 rw [hu] at hS
 obtain ⟨a,hf⟩:=ztew u hua
 obtain ⟨tl,tp,tf⟩:=ze1j u
 have hat:=z2jl hua
 obtain ⟨s,hs⟩ : ∃ s,(scnV u).1=s:=⟨_,rfl⟩
 rw [hs] at hf hS tl tp tf
 obtain ⟨w,hw⟩ : ∃ w,(scnV u).2=w:=⟨_,rfl⟩
 rw [hw] at hS hat
 have htm:0≤s.t∧s.t≤1099511627776:=by have:=hf.tm; rwa [hf.t] at this
 have hN1:=z44h (t:=w) (n:=3) (by omega) (by decide) (by decide)
 have hN2:=z44h (t:=w.adv 1) (n:=3) (by simp; omega) (by decide) (by decide)
 have hN3:=z44h (t:=w.adv 2) (n:=3) (by simp; omega) (by decide) (by decide)
 rw [zjmf] at hN2
 obtain ⟨g,hg⟩ : ∃ g,tpN w 3=g:=⟨_,rfl⟩
 obtain ⟨z1,hz1⟩ : ∃ z,tpN (w.adv 1) 3=z:=⟨_,rfl⟩
 obtain ⟨z2,hz2⟩ : ∃ z,tpN (w.adv 2) 3=z:=⟨_,rfl⟩
 have b1:=z4rs (w.adv 1) 3
 have b2:=z2s7 (w.adv 1) (n:=3) (by omega)
 have b3:=z4rs (w.adv 2) 3
 have b4:=z2s7 (w.adv 2) (n:=3) (by omega)
 rw [hz1] at b1 b2 hN2
 rw [hz2] at b3 b4 hN3
 rw [hg] at hN1
 have hx:=zkx7 x
 have ho8:scnC s=o8 s.c (.int .i64 0) (isV s.x) (trV s.tr) (liV s.gr) (.int .i64 s.t):=rfl
 rw [ho8] at hS
 have s8:=fun H=>zws3 (c:=s.c) (a := .int .i64 0) (b:=isV s.x) (d:=trV s.tr) (e:=liV s.gr) (f := .int .i64 s.t) (H:=H) (id:=3) rfl (zcwq _) (zq54 _) (zj6i _) rfl
 have l5:oneC 1 false ((o8 s.c (.int .i64 0) (isV s.x) (trV s.tr) (liV s.gr) (.int .i64 s.t)).drop 5)=some (trV s.tr):=rfl
 have l7:oneC 1 false ((o8 s.c (.int .i64 0) (isV s.x) (trV s.tr) (liV s.gr) (.int .i64 s.t)).drop 7)=some (.int .i64 s.t):=rfl
 have hlo : ∀ c a b d e f,(o8 c a b d e f).length=8:=fun c a b d e f=>rfl
 have hpt:=fun l=>znen l
 have hb1:zvnk (dgC dg0) [(0,1,w8 (BitVec.ofInt 8 (1+z1)))]=some (.agg (dgC (dgB (1+z1)))):=z7ni
 have hb2:zvnk (dgC dg0) [(0,1,w8 (BitVec.ofInt 8 (1+z2)))]=some (.agg (dgC (dgB (1+z2)))):=z7ni
 obtain ⟨d,hd⟩ : ∃ d,dgB (1+z1)=d:=⟨_,rfl⟩
 obtain ⟨e,he⟩ : ∃ e,dgB (1+z2)=e:=⟨_,rfl⟩
 rw [hd] at hb1
 rw [he] at hb2
 have hl1:s.tr.length≤100000:=by omega
 have f1:=zh5c hl1 (g:=g) (d:=d) (t:=s.t) ⟨tl,zc0u tp g d,tf,htm.1,htm.2⟩
 have hfl:(z2m7 s.tr g d s.t).length≤100000:=by
  unfold z2m7
  have:=zg29 (cmpT g d) s.tr
  simp only [y02,y05,y0m,y0n]
  omega
 have f2:=z0u1 hfl
 have c1:cClr rClP [trV s.tr,.int .i64 g,.agg (dgC d)]=some ((slK (pCl g d) s.tr hl1).dv 35 trC):=zuvb hl1
 have c2:cClr rClR [trV s.tr,.int .i64 g,.agg (dgC d)]=some (trV (kepT (pCl g d) s.tr)):=zuvb hl1
 have c3:=zxqh (p:=pCl g d) hl1
 obtain ⟨y,hy⟩ : ∃ y:Sl Dg,(⟨some true,[e],fun h=>(by cases h),by simp⟩:Sl Dg)=y:=⟨_,rfl⟩
 have hyd:y.dv 32 dgC = .sl true 32 1 (dgC e):=by rw [← hy]; simp [Sl.dv,slD]
 have p1:cPrn rPrP [trV s.tr,.int .i64 g,y.dv 32 dgC]=some ((slK (pPr g y) s.tr hl1).dv 35 trC):=zgea hl1
 have p2:cPrn rPrR [trV s.tr,.int .i64 g,y.dv 32 dgC]=some (trV (kepT (pPr g y) s.tr)):=zgea hl1
 have p3:=zxqh (p:=pPr g y) hl1
 rw [hyd] at p1 p2
 have hpk : ∀ p,zyp8 ((slK p s.tr hl1).dv 35 trC)=true:=fun p=>zxxb z1zd _
 have hbs:bslD 32 1 (dgC dg0) [(0,32,.agg (dgC e))]=some (.sl true 32 1 (dgC e)):=by
  rw [z7bw (by simp [DV.known]) (by simp [seqD,DV.cells,z1t1])]; simp [seqD,DV.cells,z1t1]
 simp (disch:=first|omega|simp<;>omega|fail) [-zA,-zB,-zC,-zD,-zE,a3,zfve,hS,hx,s8,l5,l7,hlo,zcld,hN1,hN2,hN3,z4hl,hb1,hb2,hbs,zvgf,zwwo,z1t1,z3ot,hpt,hpk,zcmy,f1,zl9h,z4k0,f2,zsh9,c1,zreh,c2,c3,zpb7,p1,zm21,p2,p3,z336,cTru]
namespace evictorTries
theorem law_holds (dvs) (h:Ty.Args [.sl (.int .i64)] dvs):Am.Sem P 3 dvs (.bool true):=by
 obtain ⟨d1,l1,rfl,h1,rfl⟩:=h
 obtain ⟨x,_,hx⟩:=zjzy h1
 cases hx
 exact zljw mix zi4a Tryz.func3 z842 (zu93 x)
end evictorTries
end
end Go.Proofs.YtaihpefemjlilaaGreatDoor
