/-
  1 texts of mine in one.
-/
import Derived.Test.YtaihpefemjlilaaGreatDoorCd62ad478
import Derived.Test.YtaihpefemjlilaaGreatDoorCac4878f9
import Derived.Test.YtaihpefemjlilaaGreatDoorC49c39fef
import Derived.Test.YtaihpefemjlilaaGreatDoorCe661facf
import Derived.Test.YtaihpefemjlilaaGreatDoorCa695387b
import Derived.Test.YtaihpefemjlilaaGreatDoorC354f63af
import Derived.Test.YtaihpefemjlilaaGreatDoorCb1bc526e
set_option maxRecDepth 20000
set_option maxHeartbeats 4000000
open List renaming map_take → zA, map_drop → zB, map_set → zC, map_append → zD, drop_one → zE
namespace Go.Proofs.YtaihpefemjlilaaGreatDoor
section
set_option linter.unusedSimpArgs false
set_option linter.unusedVariables false
set_option maxRecDepth 20000
open Go Go.Am
theorem z4vf {u:Tp} {a:RdA} (hf:ScnF (scnV u).1 a):SrtX a.x.e.l:=by
 obtain ⟨_,sn⟩:=z7ak u 8
 obtain ⟨w,hw⟩ : ∃ w,(scnV u).1.x=idxL w (zcpt u 8).1 (3*(zcpt u 8).1.g.l.length):=⟨_,rfl⟩
 have hl:((scnV u).1.x).length≤100000:=by rw [hw,zjjk]; omega
 have e:=hf.x
 rw [← zz41 hl] at e
 have:=zrpw e
 rw [this]
 show SrtX (scnV u).1.x
 rw [hw]; exact z41v _
noncomputable def ze5v:Tbl:=addT 12 (.new cScn) (addT 22 (.pure zqmv) (addT 23 (.pure cCho) (addT 24 (.pure zpwg) (addT 21 (.pure cTru) tbl0))))
theorem zniw:ze5v 12 = .new cScn:=by simp [ze5v]
theorem z6pr:ze5v 22 = .pure zqmv:=by simp [ze5v]
theorem zckn:ze5v 23 = .pure cCho:=by simp [ze5v]
theorem zzm1:ze5v 24 = .pure zpwg:=by simp [ze5v]
theorem zzsr:ze5v 21 = .pure cTru:=by simp [ze5v]
theorem zpsy:ze5v.Sound P:=z0rp zr8u (z0rp zt30 (z0rp zq37 (z0rp zpc3 (z0rp (zi1x zul1) zr5o))))
theorem zwch (x:Nl) (p:Int):Runs ze5v a4 [x.dv,.int .i64 p] (.bool true):=by
 refine ⟨?_⟩
 obtain ⟨u,hu⟩ : ∃ u,tp0 x 300=u:=⟨_,rfl⟩
 have hua:u.at_=0:=by rw [← hu]; rfl
 have hS:=fun n=>zd92 (x:=x) (n:=n)
 rw [hu] at hS
 obtain ⟨a,hf⟩:=ztew u hua
 have hsr:=z4vf hf
 obtain ⟨s,hs⟩ : ∃ s,(scnV u).1=s:=⟨_,rfl⟩
 rw [hs] at hf hS
 obtain ⟨w,hw⟩ : ∃ w,(scnV u).2=w:=⟨_,rfl⟩
 rw [hw] at hS
 have hxx:xiC a.x=[.int .i64 0,isV s.x]:=by unfold xiC; rw [hf.x0,hf.x]
 have hx:=zkx7 x
 have ho8:scnC s=o8 s.c (.int .i64 0) (isV s.x) (trV s.tr) (liV s.gr) (.int .i64 s.t):=rfl
 rw [ho8] at hS
 have s8:=fun H=>zws3 (c:=s.c) (a := .int .i64 0) (b:=isV s.x) (d:=trV s.tr) (e:=liV s.gr) (f := .int .i64 s.t) (H:=H) (id:=3) rfl (zcwq _) (zq54 _) (zj6i _) rfl
 have l3:oneC 2 true ((o8 s.c (.int .i64 0) (isV s.x) (trV s.tr) (liV s.gr) (.int .i64 s.t)).drop 3)=some (.agg [.int .i64 0,isV s.x]):=rfl
 have l5:oneC 1 false ((o8 s.c (.int .i64 0) (isV s.x) (trV s.tr) (liV s.gr) (.int .i64 s.t)).drop 5)=some (trV s.tr):=rfl
 have l7:oneC 1 false ((o8 s.c (.int .i64 0) (isV s.x) (trV s.tr) (liV s.gr) (.int .i64 s.t)).drop 7)=some (.int .i64 s.t):=rfl
 have hlo : ∀ c a b d e f,(o8 c a b d e f).length=8:=fun c a b d e f=>rfl
 have hpc:=fun c=>zy11 c
 have hpv:=zm03 s.x
 have hpt:=znen s.tr
 have hsd : ∀ (h:List AObj) (id:Nat) (d e:Dg),zy6o h id 32 0 (.agg (dgC d)) (some (dgC e))=some (.junk,h.set id (.cells (dgC d))):=fun h id d e=>zfc1 (z1t1 _) (z1t1 _) (by simp [dgC,zzst])
 have key : ∀ q:Int,∃ (d:Dg) (b:Bool),cCho [.agg (clC s.c),.agg [.int .i64 0,isV s.x],trV s.tr,.int .i64 q,.int .i64 s.t]=some (.tup [.agg (dgC d),.bool b])∧zpwg [.agg (clC s.c),.agg [.int .i64 0,isV s.x],trV s.tr,.int .i64 q,.int .i64 s.t]=some (.tup [.agg (dgC d),.bool b]):=fun q=>by
  have h1:=zfp2 (c:=s.c) (k:=q) (t:=s.t) hf.ok.ch
  have h2:=zdds (c:=s.c) (tr:=a.tr) (k:=q) (t:=s.t) hsr
  rw [hxx,hf.tr] at h1 h2
  exact ⟨_,_,h1,h2⟩
 by_cases h1:3<p
 ·obtain ⟨d,b,e1,e2⟩:=key (p % 2)
  have hwi:=zcb9 (n:=p) (k:=2) (by decide) (by decide)
  simp (disch:=first|omega|simp<;>omega|fail) [-zA,-zB,-zC,-zD,-zE,a4,zniw,hS,hx,s8,o8_3,l3,l5,l7,hlo,h1,z6pr,hwi,zckn,e1,zzm1,e2,hpc,hpv,hpt,z4hl,hsd,zwwo,z1t1,zzsr,cTru]
 ·by_cases h2:p < -1
  ·obtain ⟨d,b,e1,e2⟩:=key (p % 2)
   have hwi:=zcb9 (n:=p) (k:=2) (by decide) (by decide)
   simp (disch:=first|omega|simp<;>omega|fail) [-zA,-zB,-zC,-zD,-zE,a4,zniw,hS,hx,s8,o8_3,l3,l5,l7,hlo,h1,h2,z6pr,hwi,zckn,e1,zzm1,e2,hpc,hpv,hpt,z4hl,hsd,zwwo,z1t1,zzsr,cTru]
  ·obtain ⟨d,b,e1,e2⟩:=key p
   simp (disch:=first|omega|simp<;>omega|fail) [-zA,-zB,-zC,-zD,-zE,a4,zniw,hS,hx,s8,o8_3,l3,l5,l7,hlo,h1,h2,zckn,e1,zzm1,e2,hpc,hpv,hpt,z4hl,hsd,zwwo,z1t1,zzsr,cTru]
namespace evictorChoice
theorem law_holds (dvs) (h:Ty.Args [.sl (.int .i64),.int .i64] dvs):Am.Sem P 4 dvs (.bool true):=by
 obtain ⟨d1,l1,rfl,h1,d2,l2,rfl,h2,rfl⟩:=h
 obtain ⟨x,_,hx⟩:=zjzy h1
 obtain ⟨p,_,hp⟩:=ok_n h2
 cases hx; cases hp
 exact zljw mix zpsy Tryz.func4 z9rw (zwch x p)
end evictorChoice
end
end Go.Proofs.YtaihpefemjlilaaGreatDoor
