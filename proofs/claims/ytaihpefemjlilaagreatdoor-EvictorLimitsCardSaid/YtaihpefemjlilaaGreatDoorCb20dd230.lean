/-
  18 texts of mine in one.
-/
import Derived.Lib.BytesEntry
import Derived.Test.YtaihpefemjlilaaGreatDoorCd62ad478
import Derived.Test.YtaihpefemjlilaaGreatDoorCac4878f9
import Derived.Test.YtaihpefemjlilaaGreatDoorC789d9038
import Derived.Test.YtaihpefemjlilaaGreatDoorCe648326b
import Derived.Test.YtaihpefemjlilaaGreatDoorCe5973b22
import Derived.Test.YtaihpefemjlilaaGreatDoorCcccf210b
import Derived.Test.YtaihpefemjlilaaGreatDoorCcb084503
set_option maxRecDepth 20000
set_option maxHeartbeats 4000000
open List renaming map_take → zA, map_drop → zB, map_set → zC, map_append → zD, drop_one → zE
open Bool renaming and_eq_true → y02, and_self → y06, true_and → y0f, or_eq_true → y0q
open List renaming take_of_length_le → y00, getElem?_eq_getElem → y04, drop_zero → y05, length_take → y07, length_append → y08, getElem?_eq_none → y09, length_cons → y0a, getD_eq_getElem?_getD → y0b, cons_append → y0c, take_succ_eq_append_getElem → y0d, getElem_mem → y0e, getElem_cons_zero → y0g, length_map → y0i, singleton_append → y0k, length_filter_le → y0l, append_nil → y0m, find?_eq_some_iff_getElem → y0n, getElem_of_mem → y0o, getElem?_append_right → y0p, set_append_right → y0r, drop_drop → y0s, take_eq_take_iff → y0t, all_cons → y0u, map_cons → y0v, takeWhile_cons → y0w, length_reverse → y0x
open Nat renaming le_refl → y01, zero_le → y03, mod_eq_of_lt → y0j
open Option renaming bind_some → y0h
namespace Go.Proofs.YtaihpefemjlilaaGreatDoor
section
set_option linter.unusedSimpArgs false
set_option linter.unusedVariables false
set_option maxRecDepth 8000
open Go Go.Am
section
variable {α:Type} {lt:α→α→Bool}
end
def fl {α:Type} (f:α→List DV) (l:List α):List DV:=l.flatMap f
theorem z8lx {α:Type} {f:α→List DV} {K:Nat} (hu : ∀ a,(f a).length=K) (l:List α):(fl f l).length=l.length*K:=z1rq hu l
section
variable {α:Type} {f:α→List DV} {K:Nat}
end
section
variable {α:Type} {f:α→List DV} {K:Nat}
theorem zkaf {l m:List α}:fl f (l++m)=fl f l++fl f m:=by unfold fl; exact List.flatMap_append ..
theorem zvrp {h:List AObj} {id b m:Nat} {l:List α} {cs:List α} (hu : ∀ a,(f a).length=K) (h0:0<K) (hb:b≤16384) (ha : ∀ a,(f a).all DV.one=true) (hm:cs.length=m) (hbig:l.length+m≤4294967296) (ho:objV h id (l.length*K)=some (fl f l)) :
  appX h K b (.ms id (l.length*K) 0 K l.length (l.length*K)) m (cs.flatMap f)=some (.ms id ((l.length+m)*K) 0 K (l.length+m) ((l.length+m)*K),h.set id (.cells (fl f (l++cs)))):=by
 have hc:(cs.flatMap f).length=m*K:=by rw [z1rq hu,hm]
 rw [zbho rfl hb h0 (by rw [hc]) hbig (z9jy ha cs),ho,Option.map_some,hc,← Nat.add_mul,zkaf]
 rfl
end
section
variable {α:Type} {f:α→List DV} {K:Nat}
def oV (k K:Nat) (l:List α):DV:=if l=[] then .nils else .ms k (l.length*K) 0 K l.length (l.length*K)
def oT (f:α→List DV) (l:List α):List AObj:=if l=[] then [] else [.cells (fl f l)]
theorem zl8p {k:Nat}:oV k K ([]:List α) = .nils:=rfl
theorem zkrk:oT f []=[]:=rfl
theorem zpni {k:Nat} {l:List α} (h:l≠[]):oV k K l = .ms k (l.length*K) 0 K l.length (l.length*K):=if_neg h
theorem zu2l {l:List α} (h:l≠[]):oT f l=[.cells (fl f l)]:=if_neg h
theorem z612 {k b:Nat} {l cs:List α} {h:List AObj} (hp:h.length=k) (hu : ∀ a,(f a).length=K) (h0:0<K) (hb:b≤16384) (ha : ∀ a,(f a).all DV.one=true) (hbig:l.length+cs.length≤4294967296) :
  appX (h++oT f l) K b (oV k K l) cs.length (cs.flatMap f)=some (oV k K (l++cs),h++oT f (l++cs)):=by
 by_cases e:l=[]
 ·subst e
  rw [zl8p,zkrk,y0m,List.nil_append]
  by_cases e2:cs=[]
  ·subst e2
   rw [show ([]:List α).flatMap f=[] from rfl,List.length_nil,zw6v hb h0,zl8p,zkrk,y0m]
  ·have:=zsuq (h:=h) (s:=K) (b:=b) (m:=cs.length) (cs:=cs.flatMap f) hb h0 (by rw [z1rq hu]) (List.length_pos_iff.2 e2) (by simp at hbig; omega)
   rw [this,zpni e2,zu2l e2,z1rq hu,hp]; rfl
 ·have ho:objV (h++[AObj.cells (fl f l)]) k (l.length*K)=some (fl f l):=by
   unfold objV ziu0
   rw [y0p (by omega),show k-h.length=0 by omega]
   simp [z8lx hu]
  have:=zvrp (h:=h++[AObj.cells (fl f l)]) (id:=k) (b:=b) (l:=l) (m:=cs.length) (cs:=cs) hu h0 hb ha rfl hbig ho
  rw [zpni e,zu2l e,this,zpni (by simp [e]),zu2l (by simp [e]),y08,y0r _ _ (by omega),show k-h.length=0 by omega]
  rfl
theorem zte0 {k b:Nat} {l:List α} {x:α} {h:List AObj} (hp:h.length=k) (hu : ∀ a,(f a).length=K) (h0:0<K) (hb:b≤16384) (ha : ∀ a,(f a).all DV.one=true) (hbig:l.length+1≤4294967296) :
  appX (h++oT f l) K b (oV k K l) 1 (f x)=some (oV k K (l++[x]),h++oT f (l++[x])):=by
 have:=z612 (cs:=[x]) (b:=b) hp hu h0 hb ha hbig
 simpa using this
theorem zd81 {n:Nat} {l:List α} (hf : ∀ a,zbao (f a)=true):zlf2 n (oT f l)=true:=by
 unfold oT
 split
 ·rfl
 ·simp only [zlf2,fl,zmq5 _ _ (zp6k hf _),y06]
theorem zv6o {k:Nat} {l:List α}:Am.below (k+(oT f l).length) (oV k K l)=true:=by
 unfold oV oT
 split<;>simp [Am.below]
end
def kLt (n:Nat):Nat→Bool:=fun id=>decide (id<n)
mutual
theorem zam2 {h:List AObj} (n:Nat) : ∀ (d:DV),Am.below n d=true→fzS (kLt n) h 3 d=some d
 | .agg cs,q=>by simp only [Am.below] at q; rw [zf3h,zw41 n cs q]; rfl
 | .tup cs,q=>by simp only [Am.below] at q; rw [zliz,zw41 n cs q]; rfl
 | .sl _ _ _ cs,q=>by simp only [Am.below] at q; rw [zfs9,zw41 n cs q]; rfl
 | .ref cs,q=>by simp only [Am.below] at q; rw [zeo2,zw41 n cs q]; rfl
 | .fn _ a b,q=>by simp only [Am.below,y02] at q; rw [z284,zw41 n a q.1,zw41 n b q.2]; rfl
 | .iface t v,q=>by
  simp only [Am.below] at q
  have:=zam2 (h:=h) n v q
  simp only [fzS,zcxt] at this ⊢
  rw [this]; rfl
 | .ms id ..,q=>by simp only [Am.below,decide_eq_true_eq] at q; rw [zi9r,if_pos (by simpa [kLt] using q)]
 | .mp id ..,q=>by simp only [Am.below,decide_eq_true_eq] at q; rw [zept,if_pos (by simpa [kLt] using q)]
 | .int ..,_=>zzxw rfl
 | .bool ..,_=>zzxw rfl
 | .str ..,_=>zzxw rfl
 | .nilp,_=>zzxw rfl
 | .nilm,_=>zzxw rfl
 | .nilf,_=>zzxw rfl
 | .nili,_=>zzxw rfl
 | .nils,_=>zzxw rfl
 | .junk,_=>zzxw rfl
theorem zw41 {h:List AObj} (n:Nat) : ∀ (l:List DV),belowL n l=true→fzSo (kLt n) h 3 l=some l
 | [],_=>zmvq
 | d::r,q=>by simp only [belowL,y02] at q; rw [zhuj,zam2 n d q.1,zw41 n r q.2]; rfl
end
theorem zd3c {h:List AObj} {n:Nat} {d:DV} (q:Am.below n d=true):mk1 (kLt n) h d=d:=zwy6 (zam2 n d q)
theorem zfxa {h:List AObj} {n:Nat} : ∀ {l:List DV},belowL n l=true→mkL (kLt n) h l=l
 | [],_=>rfl
 | d::r,q=>by simp only [belowL,y02] at q; rw [z8t0,zd3c q.1,zfxa q.2]
theorem z6z7 {h:List AObj} {n:Nat} : ∀ {l:List AObj} {i:Nat},i+l.length≤n→zlf2 n l=true→mkO (kLt n) h i l=l
 | [],i,_,_=>rfl
 | .cells a::r,i,hi,q=>by
  simp only [zlf2,y02] at q
  simp only [y0a] at hi
  rw [ztik,if_pos (by simp [kLt]; omega),zfxa q.1,z6z7 (by omega) q.2]
 | .dead::r,i,hi,q=>by
  simp only [zlf2] at q
  simp only [y0a] at hi
  rw [zsk4,z6z7 (by omega) q]
theorem z26m {K:Nat→Bool} {h:List AObj} : ∀ {a b:List AObj} {i:Nat},mkO K h i (a++b)=mkO K h i a++mkO K h (i+a.length) b
 | [],b,i=>rfl
 | .cells c::r,b,i=>by rw [y0c,ztik,ztik,z26m,y0c,y0a,Nat.add_assoc,Nat.add_comm 1]
 | .dead::r,b,i=>by rw [y0c,zsk4,zsk4,z26m,y0c,y0a,Nat.add_assoc,Nat.add_comm 1]
theorem zz5t {H:List AObj} {cs:List DV} {off:Nat} (hp:zbao cs=true):mk1 (kLt H.length) (H++[.cells cs]) (.mp H.length cs.length off) = .ref (cs.drop off):=by
 refine zwy6 ?_
 have ho:objV (H++[AObj.cells cs]) H.length cs.length=some cs:=by
  unfold objV ziu0
  rw [y0p (y01 _),Nat.sub_self]; simp
 have hd:zbao (cs.drop off)=true:=by
  have : ∀ (l:List DV) (k:Nat),zbao l=true→zbao (l.drop k)=true:=by
   intro l
   induction l with
   | nil=>intro k _; simp [zbao]
   | cons d r ih =>
    intro k h
    simp only [zbao,y02] at h
    cases k with
    | zero=>simp [zbao,h]
    | succ k=>exact ih k h.2
  exact this _ _ hp
 rw [zept,if_neg (by simp [kLt]),ho,y0h,zl6f hd]; rfl
theorem zs10 {P:Program} {n0:Nat} {x:ACode} {Φ:AExit→St→Prop} {t t':List DV} {H:List AObj} {cs:List DV} (hH:zlf2 H.length H=true) (hn:n0≤H.length)
  (ht:znqe (mkL (kLt H.length) (H++[.cells cs]) t) t') (hb:belowL H.length t'=true) (h:V P n0 x Φ ⟨t',H⟩):V P n0 x Φ ⟨t,H++[.cells cs]⟩:=by
 refine V_mk (kLt H.length) ?_
 rw [z26m,z6z7 (by omega) hH,ztik,if_neg (by simp [kLt]),zfxb]
 exact zqfd (zju2 (tail:=[.dead]) ht rfl hn hb hH) h
theorem zrqk {P:Program} {f:FuncId} {fn:Func} (hf:P.funcs[f]? = some fn) {af:AFn} (hc:zsjc P fn=some af) {args:List DV} {h:List AObj} {v:DV} {k:List AObj} (hr:V P h.length af.code (retH af.res v k) ⟨zr5g af.ntmps args,h⟩):zwy1 P f args h (fun d k'=>d=v∧k'=k) :=
 zcpc hf hc (zftn (fun _ _ h=>h.out) hr)
open Classical in
noncomputable def ptH (a0:List DV) (h0:List AObj) (r:DV) (h1:List AObj):List DV→List AObj→Option (DV × List AObj):=fun a h=>if a=a0∧h=h0 then some (r,h1) else none
theorem zpvh {a0:List DV} {h0:List AObj} {r:DV} {h1:List AObj}:ptH a0 h0 r h1 a0 h0=some (r,h1):=if_pos ⟨rfl,rfl⟩
theorem zdmv {k:FuncId} {a0:List DV} {h0:List AObj} {r:DV} {h1:List AObj} (hc:zwy1 P k a0 h0 (fun d h=>d=r∧h=h1)):(Con.heap (ptH a0 h0 r h1)).Sound P k:=by
 intro args h v h' e
 unfold ptH at e
 split at e
 ·rename_i q
  simp only [Option.some.injEq,Prod.mk.injEq] at e
  obtain ⟨rfl,rfl⟩:=e
  rw [q.1,q.2]; exact hc
 ·cases e
theorem z0em {P:Program} {n0:Nat} {x:ACode} {Φ:AExit→St→Prop} {t t':List DV} {H R:List AObj} (hH:zlf2 H.length H=true) (hn:n0≤H.length)
  (ht:znqe (mkL (kLt H.length) (H++R) t) t') (hb:belowL H.length t'=true) (h:V P n0 x Φ ⟨t',H⟩):V P n0 x Φ ⟨t,H++R⟩:=by
 refine V_mk (kLt H.length) ?_
 rw [z26m,z6z7 (by omega) hH]
 exact zqfd (zju2 ht rfl hn hb hH) h
theorem zy42 {k K:Nat} {α:Type} {l:List α}:(oV k K l).cells=[oV k K l]:=by unfold oV; split<;>rfl
theorem z6jg {k K:Nat} {α:Type} {l:List α}:(oV k K l).one=true:=by unfold oV; split<;>rfl
theorem zh5h {H R:List AObj} {cs cs':List DV} {id off:Nat} (ho:objV (H++R) id cs.length=some cs) (hid:H.length≤id) (hf:fzSo (kLt H.length) (H++R) 2 (cs.drop off)=some cs'):mk1 (kLt H.length) (H++R) (.mp id cs.length off) = .ref cs':=by
 refine zwy6 ?_
 rw [zept,if_neg (by simp [kLt]; omega),ho,y0h,hf]; rfl
end
section
set_option linter.unusedSimpArgs false
set_option linter.unusedVariables false
set_option maxRecDepth 20000
open Go Go.Am
def cmC (x:Cmd):List DV := .int .i64 x.kind :: .int .i64 x.id::dgC x.art
theorem zfq1 (x:Cmd):(cmC x).length=34:=by simp [cmC,z1t1]
theorem zoyx (x:Cmd):zbao (cmC x)=true:=by simp only [cmC,zbao,zyp8,y0f]; exact z3ot _
theorem z095 (x:Cmd):(cmC x).all DV.one=true:=by
 simp only [cmC,y0u,y02]
 exact ⟨rfl,rfl,by simp [dgC,zzst]⟩
structure EF where
 pre:List AObj
 hp : ∀ n,pre.length≤n→zlf2 n pre=true
 x0:DV
 x1:DV
 T:DV
 px0:zyp8 x0=true
 px1:zyp8 x1=true
 pT:zyp8 T=true
 t:Int
def EF.b (F:EF):Nat:=F.pre.length
def EF.rd (F:EF) (c:Clu) (q:DV):List DV:=[c.g.dv 6 grC,c.i.dv 37 inC,.int .i64 c.next,F.x0,F.x1,F.T,.int .i64 F.t,q]
def EF.G (F:EF) (c:Clu) (q:DV) (o:List Cmd):List AObj:=F.pre++(.cells (F.rd c q)::oT cmC o)
def EF.H (F:EF) (s:Rnd):List AObj:=F.G s.c (oV (F.b+1) 34 s.o) s.o
section
variable {F:EF} {c c':Clu} {q q':DV} {o:List Cmd}
theorem EF.len_rd:(F.rd c q).length=8:=rfl
theorem EF.obj {X:List AObj}:objV (F.G c q o++X) F.b 8=some (F.rd c q):=by
 unfold EF.G EF.b
 rw [List.append_assoc,zjj2]; rfl
theorem EF.obj0:objV (F.G c q o) F.b 8=some (F.rd c q):=by
 have:=EF.obj (F:=F) (c:=c) (q:=q) (o:=o) (X:=[])
 rwa [y0m] at this
theorem EF.set:(F.G c q o).set F.b (.cells (F.rd c' q'))=F.G c' q' o:=by
 unfold EF.G EF.b
 rw [y0r _ _ (y01 _),Nat.sub_self]; rfl
theorem EF.app {x:Cmd} (hb:o.length+1≤4294967296):appX (F.G c q o) 34 48 (oV (F.b+1) 34 o) 1 (cmC x)=some (oV (F.b+1) 34 (o++[x]),F.G c q (o++[x])):=by
 have:=zte0 (k:=F.b+1) (K:=34) (b:=48) (f:=cmC) (l:=o) (x:=x) (h:=F.pre++[.cells (F.rd c q)]) (by simp [EF.b]) zfq1 (by decide) (by decide) z095 hb
 simp only [List.append_assoc,y0k] at this
 exact this
theorem EF.st7 {H:List AObj} {id:Nat} (hc:q'.cells=[q']) (ho:q'.one=true):zy6o H id 1 7 q' (some (F.rd c q))=some (.junk,H.set id (.cells (F.rd c q'))):=by
 rw [Am.storeO_1 hc ho (by rw [EF.len_rd]; decide)]; rfl
theorem EF.st0 {H:List AObj} {id:Nat}:zy6o H id 3 0 (.agg (clC c')) (some (F.rd c q))=some (.junk,H.set id (.cells (F.rd c' q))):=by
 have h:(DV.agg (clC c')).cells.length=3∧0+3≤(F.rd c q).length∧(DV.agg (clC c')).cells.all DV.one=true:=⟨rfl,by rw [EF.len_rd]; decide,by show (clC c').all DV.one=true; simp [clC,z4ja]⟩
 exact (if_pos h).trans rfl
theorem EF.one3:oneC 3 true (F.rd c q)=some (.agg (clC c)):=rfl
theorem EF.one1:oneC 1 false ((F.rd c q).drop 1)=some (c.i.dv 37 inC):=rfl
theorem EF.one0:oneC 1 false (F.rd c q)=some (c.g.dv 6 grC):=rfl
theorem EF.one7:oneC 1 false ((F.rd c q).drop 7)=some q:=rfl
theorem EF.one6:oneC 1 false ((F.rd c q).drop 6)=some (.int .i64 F.t):=rfl
theorem EF.oneX:oneC 2 true ((F.rd c q).drop 3)=some (.agg [F.x0,F.x1]):=rfl
theorem EF.len:F.b<(F.G c q o).length:=by unfold EF.G EF.b; simp
theorem EF.belowL {n:Nat} (hq:Am.below n q=true):Am.belowL n (F.rd c q)=true:=by
 simp only [EF.rd,Am.belowL,z8b8 _ _ (z1vd c.g),z8b8 _ _ (zcha c.i),z8b8 _ _ F.px0,z8b8 _ _ F.px1,z8b8 _ _ F.pT,hq]
 rfl
end
theorem zrlz {n:Nat} : ∀ {a b:List AObj},zlf2 n a=true→zlf2 n b=true→zlf2 n (a++b)=true
 | [],_,_,h=>h
 | .cells c::r,b,h1,h2=>by
  simp only [zlf2,y02,y0c] at h1 ⊢
  exact ⟨h1.1,zrlz h1.2 h2⟩
 | .dead::r,b,h1,h2=>by
  simp only [zlf2,y0c] at h1 ⊢
  exact zrlz h1 h2
theorem EF.below (F:EF) (s:Rnd) {n:Nat} (hn:(F.H s).length≤n):zlf2 n (F.H s)=true:=by
 unfold EF.H EF.G at hn ⊢
 simp only [y08,y0a] at hn
 refine zrlz (F.hp n (by omega)) ?_
 simp only [zlf2,y02]
 refine ⟨EF.belowL ?_,zd81 zoyx⟩
 have:=zv6o (k:=F.b+1) (K:=34) (f:=cmC) (l:=s.o)
 by_cases h:s.o=[]
 ·rw [h,zl8p]; rfl
 ·rw [zpni h]
  simp only [Am.below,decide_eq_true_eq]
  rw [zu2l h] at hn
  simp only [List.length_singleton] at hn
  unfold EF.b; omega
noncomputable def zgjw:Tbl:=addT 82 (.pure (cCi fun c i => .int .i64 (z092 c.i.l i))) (addT 83 (.pure (cCii fun c i t=>znop c i t 3)) tbl0)
theorem z8d8:zgjw 82 = .pure (cCi fun c i => .int .i64 (z092 c.i.l i)):=by simp [zgjw]
theorem zpj4:zgjw 83 = .pure (cCii fun c i t=>znop c i t 3):=by simp [zgjw]
theorem z439:zgjw.Sound P:=z0rp (z2au fun x _=>zljw mix zw83 Tryz.func82 zftu (z7dp x.1 x.2)) (z0rp (z2au fun p _=>zljw mix zobd Tryz.func83 z6eh (zj99 p.1 p.2.1 p.2.2)) zr5o)
noncomputable def znlw (F:EF) (x:Sl Int) (s:Rnd) (i:Nat):St:=znp4 (.mp F.b 8 0) (x.dv 1 inI) (.int .i64 x.l.length) (.int .i64 i) (F.H ((x.l.take i).foldl (zyao F.t) s))
theorem zcsc (t:Int) : ∀ (V:List Int) (s:Rnd),(V.foldl (zyao t) s).o.length≤s.o.length+V.length
 | [],s=>by simp
 | a::V,s=>by
  have:=zcsc t V (zyao t s a)
  have h1:(zyao t s a).o.length≤s.o.length+1:=by unfold zyao; split<;>simp
  simp only [List.foldl_cons,y0a]; omega
theorem zwy8 (t:Int) : ∀ (V:List Int) (s:Rnd),s.o≠[]→(V.foldl (zyao t) s).o≠[]
 | [],s,h=>h
 | a::V,s,h=>zwy8 t V _ (by unfold zyao; split<;>simp [h])
theorem EF.hlen (F:EF) (s:Rnd):(F.H s).length=F.b+1+(if s.o=[] then 0 else 1):=by
 unfold EF.H EF.G EF.b oT
 split<;>simp [*]
theorem EF.hle (F:EF) {s s1:Rnd} (h:s.o≠[]→s1.o≠[]):(F.H s).length≤(F.H s1).length:=by
 rw [EF.hlen,EF.hlen]
 by_cases q:s.o=[]
 ·rw [if_pos q]; omega
 ·rw [if_neg q,if_neg (h q)]; omega
theorem zz9a {α:Type} {p:α→Bool} : ∀ {l:List α} {i:Nat} (hi:i<l.length),ixI p l=i→l.find? p=some l[i]:=by
 intro l i hi h
 obtain ⟨j,hj,e,h1,h2⟩:=ziel (p:=p) (l:=l) (by omega)
 obtain rfl:i=j:=by omega
 rw [y0n]
 exact ⟨h1,i,hi,rfl,fun m hm=>by rw [h2 m (by omega) hm]; rfl⟩
theorem z3dx {z:List DV} {a b:Int} {d:Dg} (hz:z.length=34):zvnk z [(0,1,.int .i64 a),(1,1,.int .i64 b),(2,32,.agg (dgC d))]=some (.agg (cmC ⟨a,b,d⟩)):=by
 rw [zwos (by simp [DV.known]) (by simp [seqD,hz,DV.cells])]; simp [seqD,DV.cells,cmC]
theorem zz6m {z:List DV} {x:Cmd} (hz:z.length=34):bslD 34 1 z [(0,34,.agg (cmC x))]=some (.sl true 34 1 (cmC x)):=by
 rw [z7bw (by simp [DV.known]) (by simp [seqD,DV.cells,hz,zfq1])]; simp [seqD,DV.cells,zfq1]
theorem zkzr {c:Clu} {id t:Int} (h:(z5wo c id t 3).2=0) : ∃ (i:Nat) (_:i<c.i.l.length),z092 c.i.l id=i:=by
 unfold z5wo at h
 split at h
 ·simp at h
 ·split at h
  ·simp at h
  ·split at h
   ·rename_i h1 h2 h3
    refine ⟨(z092 c.i.l id).toNat,?_,by omega⟩
    rcases Nat.lt_or_ge (z092 c.i.l id).toNat c.i.l.length with q|q
    ·exact q
    ·rw [y09 q] at h3; simp at h3
   ·simp at h
theorem zm7y {c:Clu} {id:Int} {i:Nat} (hi:i<c.i.l.length) (h:z092 c.i.l id=i):z83c c.i.l id=c.i.l[i].art:=by
 unfold z83c; rw [zz9a hi h]
theorem z39y (F:EF) (x:Sl Int) (s:Rnd) (hb:s.o.length+x.l.length≤100000):zwy1 P 53 [.mp F.b 8 0,x.dv 1 inI] (F.H s) (fun d h=>d = .tup []∧h=F.H (x.l.foldl (zyao F.t) s)):=by
 refine zrqk Tryz.func53 zq51 ?_
 have hlx : ∀ H,lenD H (x.dv 1 inI)=some (.int .i64 x.l.length):=fun H=>zupj
 have hxb:=x.b
 refine zbn1 (V_W mix zr5o ?_)
 simp (disch:=first|omega|simp<;>omega|fail) [-zA,-zB,-zC,-zD,-zE,a53,hlx]
 refine z3mo (ztbr (znlw F x s) (fun i=>x.l.length-i) (fun i=>i≤x.l.length) 0 (z515 (by simp (disch:=first|omega|simp<;>omega|fail) [-zA,-zB,-zC,-zD,-zE,znlw,znp4]) (by simp (disch:=first|omega|simp<;>omega|fail) [-zA,-zB,-zC,-zD,-zE,znlw,znp4])) (y03 _) (fun i hi => ?_))
 simp only [znlw]
 have hso:=zcsc F.t (x.l.take i) s
 rw [y07] at hso
 obtain ⟨s1,hs1⟩ : ∃ s1,(x.l.take i).foldl (zyao F.t) s=s1:=⟨_,rfl⟩
 rw [hs1] at hso ⊢
 have hO : ∀ X,objV (F.H s1++X) F.b 8=some (F.rd s1.c (oV (F.b+1) 34 s1.o)):=fun X=>EF.obj
 have hO0:objV (F.H s1) F.b 8=some (F.rd s1.c (oV (F.b+1) 34 s1.o)):=EF.obj0
 refine zbn1 (V_W mix zr5o ?_)
 by_cases g:i<x.l.length
 case neg =>
  have g':¬ (i:Int)<x.l.length:=by omega
  have hs:s1=x.l.foldl (zyao F.t) s:=by rw [← hs1,y00 (by omega)]
  rw [← hs]
  simp (disch:=first|omega|simp<;>omega|fail) [-zA,-zB,-zC,-zD,-zE,zt7b,znp4,g,g']
  refine zbn1 (V_W mix zr5o ?_)
  simp (disch:=first|omega|simp<;>omega|fail) [-zA,-zB,-zC,-zD,-zE]
 have g':(i:Int)<x.l.length:=by omega
 have hx : ∀ H,zpsc H 1 (x.dv 1 inI) i=some (.ref (inI x.l[i])):=fun H=>zalo zg97 g
 have hn:(x.l.take (i+1)).foldl (zyao F.t) s=zyao F.t s1 x.l[i]:=by rw [y0d g,List.foldl_append,hs1]; rfl
 obtain ⟨id,hid⟩ : ∃ id,x.l[i]=id:=⟨_,rfl⟩
 rw [hid] at hx hn
 have hle:(F.H s).length≤(F.H s1).length:=F.hle fun h=>by rw [← hs1]; exact zwy8 _ _ _ h
 have hbl:=F.below s1 (y01 _)
 have hlt:F.b<(F.H s1).length:=EF.len
 have hc1:=z3mn (g:=fun c i=>DV.int .i64 (z092 c.i.l i)) (x:=s1.c) (a:=id)
 have hc2:=zl2e (f:=fun c i t=>znop c i t 3) (c:=s1.c) (g:=id) (t:=F.t)
 have hc2:cCii (fun c i t=>znop c i t 3) [.agg (clC s1.c),.int .i64 id,.int .i64 F.t]=some (.tup [.agg (clC (z5wo s1.c id F.t 3).1),.int .i64 (z5wo s1.c id F.t 3).2]):=hc2
 have hst:zyao F.t s1 id=if (z5wo s1.c id F.t 3).2=0 then ⟨(z5wo s1.c id F.t 3).1,s1.o++[⟨2,id,z83c s1.c.i.l id⟩]⟩ else s1:=rfl
 obtain ⟨c',hc'⟩ : ∃ c',(z5wo s1.c id F.t 3).1=c':=⟨_,rfl⟩
 obtain ⟨e,he⟩ : ∃ e,(z5wo s1.c id F.t 3).2=e:=⟨_,rfl⟩
 rw [hc',he] at hc2 hst
 obtain ⟨fx,hfx⟩ : ∃ fx,z092 s1.c.i.l id=fx:=⟨_,rfl⟩
 rw [hfx] at hc1
 have ec:=zz5t (H:=F.H s1) (cs:=clC c') (off:=0) (zy11 c')
 have e1 : ∀ h,mk1 (kLt (F.H s1).length) h (.mp F.b 8 0) = .mp F.b 8 0:=fun h=>zd3c (by simp only [Am.below,decide_eq_true_eq]; exact hlt)
 have e2 : ∀ h,mk1 (kLt (F.H s1).length) h (x.dv 1 inI)=x.dv 1 inI:=fun h=>zvft (zxxb zyj0 x)
 have hap:=fun x=>EF.app (F:=F) (c:=s1.c) (q:=oV (F.b+1) 34 s1.o) (o:=s1.o) (x:=x) (by omega)
 have hs0 : ∀ (h:List AObj) (id:Nat),zy6o h id 3 0 (.agg (clC c')) (some [.nils,.nils,.int .i64 0])=some (.junk,h.set id (.cells (clC c'))):=fun h id=>zfc1 rfl rfl (by simp [clC,z4ja])
 simp (disch:=first|omega|simp<;>omega|fail) [-zA,-zB,-zC,-zD,-zE,zt7b,znp4,g,g']
 refine zbn1 (V_W mix zr5o ?_)
 simp (disch:=first|omega|simp<;>omega|fail) [-zA,-zB,-zC,-zD,-zE]
 refine zbn1 (z3mo (zbn1 (V_W mix zr5o ?_)))
 simp (disch:=first|omega|simp<;>omega|fail) [-zA,-zB,-zC,-zD,-zE,hx,inI]
 refine zbn1 (V_W mix z439 ?_)
 simp (disch:=first|omega|simp<;>omega|fail) [-zA,-zB,-zC,-zD,-zE,hO0,EF.one3,z8d8,hc1]
 refine zbn1 (V_W mix z439 ?_)
 simp (disch:=first|omega|simp<;>omega|fail) [-zA,-zB,-zC,-zD,-zE,hO0,EF.one3,EF.one6,zpj4,hc2,hs0]
 refine zs10 (n0:=(F.H s).length) (H:=F.H s1) (cs:=clC c') (t':=[.mp F.b 8 0]++js 4++[.int .i64 id,.int .i64 fx,.ref (clC c'),.int .i64 e,x.dv 1 inI,.int .i64 x.l.length,.int .i64 i]++js 49) hbl hle ?_ (by simp (disch:=first|omega|simp<;>omega|fail) [-zA,-zB,-zC,-zD,-zE,belowL,Am.below,hlt,zmq5 _ _ (zy11 c'),z8b8 _ _ (zxxb zyj0 x)]) ?_
 ·rw [zlha,y05] at ec
  simp (disch:=first|omega|simp<;>omega|fail) [-zA,-zB,-zC,-zD,-zE,ec,e1,e2,-z1bt,-zdpe]
 refine zbn1 (V_W mix zr5o ?_)
 by_cases h0:e=0
 case neg =>
  rw [if_neg h0] at hst
  simp (disch:=first|omega|simp<;>omega|fail) [-zA,-zB,-zC,-zD,-zE,h0]
  refine V_W mix zr5o ?_
  simp (disch:=first|omega|simp<;>omega|fail) [-zA,-zB,-zC,-zD,-zE]
  exact ⟨i+1,z515 (by simp (disch:=first|omega|simp<;>omega|fail) [-zA,-zB,-zC,-zD,-zE,znlw,znp4]) (by simp (disch:=first|omega|simp<;>omega|fail) [-zA,-zB,-zC,-zD,-zE,znlw,znp4,hn,hst]),by omega,by omega⟩
 subst h0
 rw [if_pos rfl] at hst
 obtain ⟨k,hk,hfk⟩:=zkzr he
 rw [hfx] at hfk
 subst hfk
 have hart:=zm7y hk hfx
 have hik : ∀ H,zpsc H 37 (s1.c.i.dv 37 inC) k=some (.ref (inC s1.c.i.l[k])):=fun H=>zalo z6gw hk
 obtain ⟨u,hu⟩ : ∃ u,s1.c.i.l[k]=u:=⟨_,rfl⟩
 rw [hu] at hart hik
 rw [hart] at hst
 obtain ⟨C,hC⟩ : ∃ C:Cmd,(⟨2,id,u.art⟩:Cmd)=C:=⟨_,rfl⟩
 have hbc:=fun z (hz:z.length=34)=>z3dx (z:=z) (a:=2) (b:=id) (d:=u.art) hz
 have hrw:DV.int .i64 2 :: .int .i64 id::dgC u.art=cmC C:=by rw [← hC]; rfl
 rw [hC] at hst hbc
 have hap:=hap C
 have hoc:=zy42 (k:=F.b+1) (K:=34) (l:=s1.o++[C])
 have hoo:=z6jg (k:=F.b+1) (K:=34) (l:=s1.o++[C])
 have hHG:F.H s1=F.G s1.c (oV (F.b+1) 34 s1.o) s1.o:=rfl
 have hO1:objV (F.G s1.c (oV (F.b+1) 34 s1.o) (s1.o++[C])) F.b 8=some (F.rd s1.c (oV (F.b+1) 34 s1.o)):=EF.obj0
 have hO2:objV (F.G s1.c (oV (F.b+1) 34 s1.o) s1.o) F.b 8=some (F.rd s1.c (oV (F.b+1) 34 s1.o)):=EF.obj0
 have hO3:objV (F.G s1.c (oV (F.b+1) 34 (s1.o++[C])) (s1.o++[C])) F.b 8=some (F.rd s1.c (oV (F.b+1) 34 (s1.o++[C]))):=EF.obj0
 rw [hHG]
 simp (disch:=first|omega|simp<;>omega|fail) [-zA,-zB,-zC,-zD,-zE]
 refine zbn1 (V_W mix zr5o ?_)
 simp (disch:=first|omega|simp<;>omega|fail) [-zA,-zB,-zC,-zD,-zE,hO2,EF.one7,EF.one1,hik,zm6n,hbc,hrw,zz6m,hap,hO1,EF.st7 hoc hoo,EF.set]
 refine V_W mix zr5o ?_
 simp (disch:=first|omega|simp<;>omega|fail) [-zA,-zB,-zC,-zD,-zE,hO3,zei9,EF.st0,EF.set]
 refine V_W mix zr5o ?_
 simp (disch:=first|omega|simp<;>omega|fail) [-zA,-zB,-zC,-zD,-zE]
 exact ⟨i+1,z515 (by simp (disch:=first|omega|simp<;>omega|fail) [-zA,-zB,-zC,-zD,-zE,znlw,znp4]) (by simp (disch:=first|omega|simp<;>omega|fail) [-zA,-zB,-zC,-zD,-zE,znlw,znp4,hn,hst,EF.H]),by omega,by omega⟩
end
section
set_option linter.unusedSimpArgs false
set_option linter.unusedVariables false
set_option maxRecDepth 20000
open Go Go.Am
def zcjm (l:List Int) (v:Int) (i:Nat):St:=zzkc (liV l) (.int .i64 v) (.int .i64 l.length) (.int .i64 i) []
theorem z9w2 (l:List Int) (v:Int) (hb:l.length≤4294967296):Runs tbl0 a132 [liV l,.int .i64 v] (.int .i64 (ixI (fun e=>decide (v=e)) l)):=by
 refine ⟨?_⟩
 simp (disch:=first|omega|simp<;>omega|fail) [-zA,-zB,-zC,-zD,-zE,a132]
 refine zlm5 (zcjm l v) (fun i=>l.length-i) (fun i=>i≤l.length ∧ ∀ j (hj:j<l.length),j<i→decide (v=l[j])=false) 0 (z515 (by simp (disch:=first|omega|simp<;>omega|fail) [-zA,-zB,-zC,-zD,-zE,zcjm,zzkc]) (by simp (disch:=first|omega|simp<;>omega|fail) [-zA,-zB,-zC,-zD,-zE,zcjm,zzkc])) ⟨by omega,fun j _ hj=>by omega⟩ (fun i hi => ?_)
 obtain ⟨h1,h2⟩:=hi
 simp only [zcjm]
 by_cases h:i<l.length
 ·have h':(i:Int)<l.length:=by omega
  have hg:=fun H=>zcq2 H h
  have hr:v=l[i]→ixI (fun e=>decide (v=e)) l=i:=fun e=>zy9u h (by simp [← e]) h2
  have hn:¬ v=l[i] → ∀ j (hj:j<l.length),j<i+1→decide (v=l[j])=false:=fun e j hj hji=>by
   by_cases ej:j=i
   ·subst ej; exact decide_eq_false e
   ·exact h2 j hj (by omega)
  obtain ⟨u,hu⟩ : ∃ u,l[i]=u:=⟨_,rfl⟩
  rw [hu] at hg hr hn
  by_cases e:v=u
  ·rw [hr e]
   simp (disch:=first|omega|simp<;>omega|fail) [-zA,-zB,-zC,-zD,-zE,z1gp,zzkc,h,h',hg,e]
  ·have hn:=hn e
   simp (disch:=first|omega|simp<;>omega|fail) [-zA,-zB,-zC,-zD,-zE,z1gp,zzkc,h,h',hg,e]
   exact ⟨i+1,z515 (by simp (disch:=first|omega|simp<;>omega|fail) [-zA,-zB,-zC,-zD,-zE,zcjm,zzkc]) (by simp (disch:=first|omega|simp<;>omega|fail) [-zA,-zB,-zC,-zD,-zE,zcjm,zzkc]),by omega,by omega,by simpa using hn⟩
 ·have h':¬ (i:Int)<l.length:=by omega
  have hr:ixI (fun e=>decide (v=e)) l = -1:=zfki (fun j hj=>h2 j hj (by omega))
  rw [hr]
  simp (disch:=first|omega|simp<;>omega|fail) [-zA,-zB,-zC,-zD,-zE,z1gp,zzkc,h,h']
noncomputable def cIxi:List DV→Option DV:=con (fun a:List Int × Int=>a.1.length≤4294967296) (fun a=>[liV a.1,.int .i64 a.2]) (fun a => .int .i64 (ixI (fun e=>decide (a.2=e)) a.1))
theorem z8bt {a b:List Int × Int} (e:[liV a.1,DV.int .i64 a.2]=[liV b.1,.int .i64 b.2]):a=b:=by
 obtain ⟨a1,a2⟩:=a
 obtain ⟨b1,b2⟩:=b
 simp only [List.cons.injEq,DV.int.injEq,and_true,true_and] at e
 rw [zqdh e.1,e.2]
theorem zbm1 {l:List Int} {v:Int} (h:l.length≤4294967296):cIxi [liV l,.int .i64 v]=some (.int .i64 (ixI (fun e=>decide (v=e)) l)) :=
 zzno (A:=fun a:List Int × Int=>a.1.length≤4294967296) (f:=fun a=>[liV a.1,.int .i64 a.2]) (g:=fun a => .int .i64 (ixI (fun e=>decide (a.2=e)) a.1)) (fun a b e=>by rw [z8bt e]) (l,v) h
noncomputable def zk7r:Tbl:=addT 132 (.pure cIxi) tbl0
theorem z95w:zk7r 132 = .pure cIxi:=by simp [zk7r]
theorem zej2:zk7r.Sound P:=z0rp (z2au fun a h=>zljw mix zr5o Tryz.func132 zr93 (z9w2 a.1 a.2 h)) zr5o
theorem zwhy {l:List Int} {v:Int}:0≤ixI (fun e=>decide (v=e)) l↔v ∈ l:=by
 constructor
 ·intro h
  obtain ⟨i,hi,_,e,_⟩:=ziel h
  simp at e
  rw [e]; exact y0e hi
 ·intro h
  obtain ⟨i,hi,e⟩:=y0o h
  have:=zkgb (fun e=>decide (v=e)) l
  by_cases hn:ixI (fun e=>decide (v=e)) l<0
  ·have:=z378 hn i hi
   simp [e] at this
  ·omega
theorem z3zn (l:List Int) (v:Int) (hb:l.length≤4294967296):Runs zk7r a111 [liV l,.int .i64 v] (.bool (decide (v ∈ l))):=by
 refine ⟨?_⟩
 have hm:=zwhy (l:=l) (v:=v)
 have hc:=zbm1 (v:=v) hb
 obtain ⟨k,hk⟩ : ∃ k,ixI (fun e=>decide (v=e)) l=k:=⟨_,rfl⟩
 rw [hk] at hm hc
 have hd:decide (v ∈ l)=decide (0≤k):=decide_eq_decide.2 hm.symm
 rw [hd]
 simp (disch:=first|omega|simp<;>omega|fail) [-zA,-zB,-zC,-zD,-zE,a111,z95w,hc]
noncomputable def cCni:List DV→Option DV:=con (fun a:List Int × Int=>a.1.length≤4294967296) (fun a=>[liV a.1,.int .i64 a.2]) (fun a => .bool (decide (a.2 ∈ a.1)))
theorem zyyx {l:List Int} {v:Int} (h:l.length≤4294967296):cCni [liV l,.int .i64 v]=some (.bool (decide (v ∈ l))) :=
 zzno (A:=fun a:List Int × Int=>a.1.length≤4294967296) (f:=fun a=>[liV a.1,.int .i64 a.2]) (g:=fun a => .bool (decide (a.2 ∈ a.1))) (fun a b e=>by rw [z8bt e]) (l,v) h
theorem z798:(Con.pure cCni).Sound P 111:=z2au fun a h=>zljw mix zej2 Tryz.func111 zmlq (z3zn a.1 a.2 h)
def stgB (k:Int) (G:List Int) (b:Bool) (x:Ins):Bool:=decide (x.grp=k)&&(decide (x.state=1)&&(decide (x.id ∈ G) == b))
def stgL (k:Int) (G:List Int) (b:Bool) (l:List Ins):List Int:=(l.filter (stgB k G b)).map Ins.id
theorem zt4h {k:Int} {G:List Int} {b:Bool} {l:List Ins}:(stgL k G b l).length≤l.length:=by
 unfold stgL; rw [y0i]; exact y0l _ _
theorem zhxg {k:Int} {G:List Int} {b:Bool} {l:List Ins} {x:Ins}:stgL k G b (l++[x])=stgL k G b l++(if stgB k G b x then [x.id] else []):=by
 unfold stgL
 rw [List.filter_append,List.map_append]
 cases h:stgB k G b x<;>simp [h]
noncomputable def zw9z:Tbl:=addT 87 (.pure (cCk z3tq)) (addT 111 (.pure cCni) tbl0)
theorem zn8d:zw9z 87 = .pure (cCk z3tq):=by simp [zw9z]
theorem zbre:zw9z 111 = .pure cCni:=by simp [zw9z]
theorem zmri:zw9z.Sound P:=z0rp zjal (z0rp z798 zr5o)
def zvel (F:EF) (s:Rnd) (k:Int) (b:Bool) (G:List Int) (i:Nat):St:=zvu2 (.int .i64 k) (.bool b) (liV G) (oV (F.H s).length 1 (stgL k G b (s.c.i.l.take i))) (s.c.i.dv 37 inC) (.int .i64 s.c.i.l.length) (.int .i64 i) (F.H s++oT inI (stgL k G b (s.c.i.l.take i)))
theorem zxjm {H:List AObj} {L:List Int}:mk1 (kLt H.length) (H++oT inI L) (oV H.length 1 L)=liV L:=by
 by_cases e:L=[]
 ·subst e; exact zhx5
 ·rw [zpni e,zu2l e,zefw e]
  refine zwy6 ?_
  rw [zi9r,if_neg (by simp [kLt])]
  have ho:objV (H++[.cells (fl inI L)]) H.length (L.length*1)=some (fl inI L):=by
   rw [zjj2,z1zn,if_pos (z8lx zg97 L)]
  rw [ho,y0h,y05]
  have ht:(fl inI L).take (L.length*1)=L.flatMap inI:=y00 (by rw [z8lx zg97]; omega)
  rw [ht,zl6f (zp6k zyj0 L)]; rfl
theorem zitv (F:EF) (s:Rnd) (k:Int) (b:Bool) (hl:s.c.i.l.length≤100000) {n0:Nat} {Φ:AExit→St→Prop} (hn0:n0=(F.H s).length)
  (fin:V P n0 (.seq (.region false [⟨none,(some 50),.mov (.t 8)⟩,⟨none,(some 6),.mov (.t 50)⟩]) .ret) Φ ⟨js 8++[oV (F.H s).length 1 (stgL k (znqs s.c k) b s.c.i.l)]++js 42,F.H s++oT inI (stgL k (znqs s.c k) b s.c.i.l)⟩) :
  V P n0 a85.code Φ ⟨zr5g a85.ntmps [.mp F.b 8 0,.int .i64 k,.bool b],F.H s⟩:=by
 subst hn0
 have hO0:objV (F.H s) F.b 8=some (F.rd s.c (oV (F.b+1) 34 s.o)):=EF.obj0
 have hg:=ztaz (f:=z3tq) (c:=s.c) (k:=k)
 have hgd:z3tq s.c k=liV (znqs s.c k):=rfl
 rw [hgd] at hg
 have hlx : ∀ H,lenD H (s.c.i.dv 37 inC)=some (.int .i64 s.c.i.l.length):=fun H=>zupj
 have hbl:=F.below s (y01 _)
 have hlt:F.b<(F.H s).length:=EF.len
 have hgl:(znqs s.c k).length≤4294967296:=by
  unfold znqs idsP
  split
  ·rw [y0i]
   have:=y0l (fun x:Ins=>decide (x.grp=k)&&z9qu (by assumption) x) s.c.i.l
   unfold selL; omega
  ·simp
 obtain ⟨G,hG⟩ : ∃ G,znqs s.c k=G:=⟨_,rfl⟩
 rw [hG] at hg fin hgl
 have hob : ∀ L:List Int,zlf2 (F.H s++oT inI L).length (F.H s++oT inI L)=true:=fun L=>zrlz (F.below s (by simp)) (zd81 zyj0)
 refine zbn1 (V_W mix zr5o ?_)
 simp (disch:=first|omega|simp<;>omega|fail) [-zA,-zB,-zC,-zD,-zE,a85]
 refine zbn1 (V_W mix zmri ?_)
 simp (disch:=first|omega|simp<;>omega|fail) [-zA,-zB,-zC,-zD,-zE,hO0,EF.one3,zn8d,hg]
 refine zbn1 (V_W mix zr5o ?_)
 simp (disch:=first|omega|simp<;>omega|fail) [-zA,-zB,-zC,-zD,-zE]
 refine zbn1 (zbn1 (V_W mix zr5o ?_))
 simp (disch:=first|omega|simp<;>omega|fail) [-zA,-zB,-zC,-zD,-zE,hO0,EF.one1,hlx]
 have h0:stgL k G b []=[]:=rfl
 have hld : ∀ n,Am.below n (liV G)=true:=fun n=>z8b8 _ _ (z4yh G)
 have hpi : ∀ n,Am.below n (s.c.i.dv 37 inC)=true:=fun n=>z8b8 _ _ (zcha s.c.i)
 refine z3mo (ztbr (zvel F s k b G) (fun i=>s.c.i.l.length-i) (fun i=>i≤s.c.i.l.length) 0 (z515 (by simp (disch:=first|omega|simp<;>omega|fail) [-zA,-zB,-zC,-zD,-zE,zvel,zvu2,h0,zl8p]) (by simp (disch:=first|omega|simp<;>omega|fail) [-zA,-zB,-zC,-zD,-zE,zvel,zvu2,h0,zkrk])) (y03 _) (fun i hi => ?_))
 simp only [zvel]
 by_cases g:i<s.c.i.l.length
 case neg =>
  have g':¬ (i:Int)<s.c.i.l.length:=by omega
  rw [y00 (by omega)]
  refine zbn1 (V_W mix zr5o ?_)
  simp (disch:=first|omega|simp<;>omega|fail) [-zA,-zB,-zC,-zD,-zE,z7q2,zvu2,g,g']
  refine zbn1 (V_W mix zr5o ?_)
  simp (disch:=first|omega|simp<;>omega|fail) [-zA,-zB,-zC,-zD,-zE]
  exact zqfd (z515 (by simp (disch:=first|omega|simp<;>omega|fail) [-zA,-zB,-zC,-zD,-zE]) rfl) fin
 have g':(i:Int)<s.c.i.l.length:=by omega
 have hx : ∀ H,zpsc H 37 (s.c.i.dv 37 inC) i=some (.ref (inC s.c.i.l[i])):=fun H=>zalo z6gw g
 have hn:stgL k G b (s.c.i.l.take (i+1))=stgL k G b (s.c.i.l.take i)++(if stgB k G b s.c.i.l[i] then [s.c.i.l[i].id] else []):=by
  rw [y0d g,zhxg]
 have hLl:=zt4h (k:=k) (G:=G) (b:=b) (l:=s.c.i.l.take i)
 rw [y07] at hLl
 obtain ⟨u,hu⟩ : ∃ u,s.c.i.l[i]=u:=⟨_,rfl⟩
 rw [hu] at hx hn
 obtain ⟨L,hL⟩ : ∃ L,stgL k G b (s.c.i.l.take i)=L:=⟨_,rfl⟩
 rw [hL] at hn hLl ⊢
 have hcc:=zyyx (v:=u.id) hgl
 have hap:appX (F.H s++oT inI L) 1 8 (oV (F.H s).length 1 L) 1 [.int .i64 u.id]=some (oV (F.H s).length 1 (L++[u.id]),F.H s++oT inI (L++[u.id])) :=
  zte0 (k:=(F.H s).length) (K:=1) (b:=8) (f:=inI) (l:=L) (x:=u.id) (h:=F.H s) rfl zg97 (by decide) (by decide) (fun _=>rfl) (by omega)
 have hqb:Am.below (F.H s++oT inI L).length (oV (F.H s).length 1 L)=true:=by
  have:=zv6o (k:=(F.H s).length) (K:=1) (f:=inI) (l:=L)
  rwa [← y08] at this
 have ec:=zz5t (H:=F.H s++oT inI L) (cs:=inC u) (off:=0) (z9kv u)
 have e1 : ∀ h,mk1 (kLt (F.H s++oT inI L).length) h (liV G)=liV G:=fun h=>zvft (z4yh G)
 have e2 : ∀ h,mk1 (kLt (F.H s++oT inI L).length) h (oV (F.H s).length 1 L)=oV (F.H s).length 1 L:=fun h=>zd3c hqb
 have e3 : ∀ h,mk1 (kLt (F.H s++oT inI L).length) h (s.c.i.dv 37 inC)=s.c.i.dv 37 inC:=fun h=>zvft (zcha s.c.i)
 have hin0 : ∀ (h:List AObj) (id:Nat) (z:List DV),z.length=37→zy6o h id 37 0 (.agg (inC u)) (some z)=some (.junk,h.set id (.cells (inC u))):=fun h id z hz=>zfc1 (z6gw u) hz (z8go u)
 have hnn:(F.H s).length≤(F.H s++oT inI L).length:=by simp
 have hHb:=hob L
 obtain ⟨N,hN⟩ : ∃ N,(F.H s).length=N:=⟨_,rfl⟩
 rw [hN] at hap hqb e2 hnn ⊢
 obtain ⟨H,hH⟩ : ∃ H,F.H s++oT inI L=H:=⟨_,rfl⟩
 rw [hH] at hap hqb ec e1 e2 e3 hnn hHb ⊢
 refine zbn1 (V_W mix zr5o ?_)
 simp (disch:=first|omega|simp<;>omega|fail) [-zA,-zB,-zC,-zD,-zE,z7q2,zvu2,g,g']
 refine zbn1 (V_W mix zr5o ?_)
 simp (disch:=first|omega|simp<;>omega|fail) [-zA,-zB,-zC,-zD,-zE]
 refine zbn1 (z3mo (zbn1 (V_W mix zr5o ?_)))
 simp (disch:=first|omega|simp<;>omega|fail) [-zA,-zB,-zC,-zD,-zE,hx,zisq,hin0]
 refine zs10 (n0:=N) (H:=H) (cs:=inC u) (t':=[.junk,.int .i64 k,.bool b]++js 4++[liV G,oV N 1 L,.junk,.ref (inC u)]++js 10++[s.c.i.dv 37 inC,.int .i64 s.c.i.l.length,.int .i64 i]++js 27) hHb hnn ?_ (by simp (disch:=first|omega|simp<;>omega|fail) [-zA,-zB,-zC,-zD,-zE,belowL,Am.below,hld,hqb,hpi,zmq5 _ _ (z9kv u)]) ?_
 ·rw [z6gw,y05] at ec
  simp (disch:=first|omega|simp<;>omega|fail) [-zA,-zB,-zC,-zD,-zE,ec,e1,e2,e3,-z1bt,-zdpe]
 have hB:stgB k G b u=(decide (u.grp=k)&&(decide (u.state=1)&&(decide (u.id ∈ G) == b))):=rfl
 obtain ⟨M,hM⟩ : ∃ M,decide (u.id ∈ G)=M:=⟨_,rfl⟩
 rw [hM] at hcc hB
 have keep:stgB k G b u=false→L=stgL k G b (s.c.i.l.take (i+1)):=fun e=>by rw [hn,e]; simp
 have more:stgB k G b u=true→L++[u.id]=stgL k G b (s.c.i.l.take (i+1)):=fun e=>by rw [hn,e]; simp
 refine zbn1 (V_W mix zmri ?_)
 by_cases h1:u.grp=k
 case neg =>
  have e:=keep (by rw [hB,decide_eq_false h1]; rfl)
  simp (disch:=first|omega|simp<;>omega|fail) [-zA,-zB,-zC,-zD,-zE,zyv0,h1]
  refine V_W mix zr5o ?_
  simp (disch:=first|omega|simp<;>omega|fail) [-zA,-zB,-zC,-zD,-zE]
  refine V_W mix zr5o ?_
  simp (disch:=first|omega|simp<;>omega|fail) [-zA,-zB,-zC,-zD,-zE]
  refine ⟨i+1,z515 (by simp (disch:=first|omega|simp<;>omega|fail) [-zA,-zB,-zC,-zD,-zE,zvel,zvu2,← e,hN]) (by simp (disch:=first|omega|simp<;>omega|fail) [-zA,-zB,-zC,-zD,-zE,zvel,zvu2,← e,hH]),by omega,by omega⟩
 by_cases h2:u.state=1
 case neg =>
  have e:=keep (by rw [hB,decide_eq_false h2]; simp)
  simp (disch:=first|omega|simp<;>omega|fail) [-zA,-zB,-zC,-zD,-zE,zyv0,h1,zvh3,h2]
  refine V_W mix zr5o ?_
  simp (disch:=first|omega|simp<;>omega|fail) [-zA,-zB,-zC,-zD,-zE]
  refine V_W mix zr5o ?_
  simp (disch:=first|omega|simp<;>omega|fail) [-zA,-zB,-zC,-zD,-zE]
  refine ⟨i+1,z515 (by simp (disch:=first|omega|simp<;>omega|fail) [-zA,-zB,-zC,-zD,-zE,zvel,zvu2,← e,hN]) (by simp (disch:=first|omega|simp<;>omega|fail) [-zA,-zB,-zC,-zD,-zE,zvel,zvu2,← e,hH]),by omega,by omega⟩
 rw [decide_eq_true h1,decide_eq_true h2,y0f,y0f] at hB
 cases hMb:(M == b) with
 | false =>
  have e:=keep (by rw [hB,hMb])
  simp (disch:=first|omega|simp<;>omega|fail) [-zA,-zB,-zC,-zD,-zE,zyv0,h1,zvh3,h2,zgz3,zbre,hcc,hMb]
  refine V_W mix zr5o ?_
  simp (disch:=first|omega|simp<;>omega|fail) [-zA,-zB,-zC,-zD,-zE]
  refine V_W mix zr5o ?_
  simp (disch:=first|omega|simp<;>omega|fail) [-zA,-zB,-zC,-zD,-zE]
  refine ⟨i+1,z515 (by simp (disch:=first|omega|simp<;>omega|fail) [-zA,-zB,-zC,-zD,-zE,zvel,zvu2,← e,hN]) (by simp (disch:=first|omega|simp<;>omega|fail) [-zA,-zB,-zC,-zD,-zE,zvel,zvu2,← e,hH]),by omega,by omega⟩
 | true =>
  have e:=more (by rw [hB,hMb])
  simp (disch:=first|omega|simp<;>omega|fail) [-zA,-zB,-zC,-zD,-zE,zyv0,h1,zvh3,h2,zgz3,zbre,hcc,hMb]
  refine V_W mix zr5o ?_
  simp (disch:=first|omega|simp<;>omega|fail) [-zA,-zB,-zC,-zD,-zE,zgz3,hap]
  refine V_W mix zr5o ?_
  simp (disch:=first|omega|simp<;>omega|fail) [-zA,-zB,-zC,-zD,-zE]
  refine ⟨i+1,z515 (by simp (disch:=first|omega|simp<;>omega|fail) [-zA,-zB,-zC,-zD,-zE,zvel,zvu2,← e,hN]) (by simp (disch:=first|omega|simp<;>omega|fail) [-zA,-zB,-zC,-zD,-zE,zvel,zvu2,← e]),by omega,by omega⟩
theorem zaos (F:EF) (s:Rnd) (k:Int) (b:Bool) (hl:s.c.i.l.length≤100000):zwy1 P 85 [.mp F.b 8 0,.int .i64 k,.bool b] (F.H s) (fun d h=>d=liV (stgL k (znqs s.c k) b s.c.i.l)∧h=F.H s):=by
 refine zrqk Tryz.func85 zu0j (zitv F s k b hl rfl ?_)
 have hbl:=F.below s (y01 _)
 obtain ⟨L,hL⟩ : ∃ L,stgL k (znqs s.c k) b s.c.i.l=L:=⟨_,rfl⟩
 rw [hL]
 have hmk:=zxjm (H:=F.H s) (L:=L)
 have hlv : ∀ n,Am.below n (liV L)=true:=fun n=>z8b8 _ _ (z4yh L)
 refine z0em (H:=F.H s) (R:=oT inI L) (t':=js 8++[liV L]++js 42) hbl (y01 _) ?_ (by simp (disch:=first|omega|simp<;>omega|fail) [-zA,-zB,-zC,-zD,-zE,belowL,Am.below,hlv]) ?_
 ·simp (disch:=first|omega|simp<;>omega|fail) [-zA,-zB,-zC,-zD,-zE,hmk,-z1bt,-zdpe]
 refine zbn1 (V_W mix zr5o ?_)
 simp (disch:=first|omega|simp<;>omega|fail) [-zA,-zB,-zC,-zD,-zE]
 refine V_W mix zr5o ?_
 simp (disch:=first|omega|simp<;>omega|fail) [-zA,-zB,-zC,-zD,-zE,a85]
theorem z7b5 (F:EF) (s:Rnd) (k:Int) (b:Bool) (hl:s.c.i.l.length≤100000):zwy1 P 85 [.mp F.b 8 0,.int .i64 k,.bool b] (F.H s) (fun d h=>d=oV (F.H s).length 1 (stgL k (znqs s.c k) b s.c.i.l)∧h=F.H s++oT inI (stgL k (znqs s.c k) b s.c.i.l)):=by
 refine zrqk Tryz.func85 zu0j (zitv F s k b hl rfl ?_)
 obtain ⟨L,hL⟩ : ∃ L,stgL k (znqs s.c k) b s.c.i.l=L:=⟨_,rfl⟩
 rw [hL]
 refine zbn1 (V_W mix zr5o ?_)
 simp (disch:=first|omega|simp<;>omega|fail) [-zA,-zB,-zC,-zD,-zE]
 refine V_W mix zr5o ?_
 simp (disch:=first|omega|simp<;>omega|fail) [-zA,-zB,-zC,-zD,-zE,a85]
end
section
set_option linter.unusedSimpArgs false
set_option linter.unusedVariables false
set_option maxRecDepth 8000
open Go Go.Am
abbrev Str:=List UInt8
structure Tot {α:Type} (lt:α→α→Bool):Prop where
 irr : ∀ a,lt a a=false
 tr : ∀ a b c,lt a b=true→lt b c=true→lt a c=true
 tot : ∀ a b,lt a b=true∨a=b∨lt b a=true
section
variable {α:Type} [DecidableEq α] {lt:α→α→Bool}
end
theorem zrk4 : ∀ a:Str,Op.bytesLess a a=false
 | []=>rfl
 | a::l=>by simp [Op.bytesLess,zrk4 l]
theorem z8c3 : ∀ a b c:Str,Op.bytesLess a b=true→Op.bytesLess b c=true→Op.bytesLess a c=true
 | _,_,[],_,h=>by simp [Op.bytesLess] at h
 | [],_,_::_,_,_=>rfl
 | _::_,[],_::_,h,_=>by simp [Op.bytesLess] at h
 | a::x,b::y,c::z,h1,h2=>by
  simp only [Op.bytesLess,y0q,y02,decide_eq_true_eq,beq_iff_eq] at *
  rcases h1 with h1|⟨h1,h1'⟩
  ·rcases h2 with h2|⟨h2,h2'⟩
   ·exact .inl (UInt8.lt_trans h1 h2)
   ·exact .inl (h2▸h1)
  ·rcases h2 with h2|⟨h2,h2'⟩
   ·exact .inl (h1▸h2)
   ·exact .inr ⟨h1.trans h2,z8c3 _ _ _ h1' h2'⟩
theorem zoet : ∀ a b:Str,Op.bytesLess a b=true∨a=b∨Op.bytesLess b a=true
 | [],[] => .inr (.inl rfl)
 | [],_::_ => .inl rfl
 | _::_,[] => .inr (.inr rfl)
 | a::x,b::y=>by
  simp only [Op.bytesLess,y0q,y02,decide_eq_true_eq,beq_iff_eq]
  rcases UInt8.lt_or_lt_of_ne (a:=a) (b:=b) |> fun h=>(Classical.em (a=b)).imp_right h with e|e|e
  ·rcases zoet x y with q|q|q
   ·exact .inl (.inr ⟨e,q⟩)
   ·exact .inr (.inl (by rw [e,q]))
   ·exact .inr (.inr (.inr ⟨e.symm,q⟩))
  ·exact .inl (.inl e)
  ·exact .inr (.inr (.inl e))
theorem z3gj:Tot Op.bytesLess:=⟨zrk4,z8c3,zoet⟩
theorem zqwe {α β:Type} {lt:β→β→Bool} {f:α→β} (hf : ∀ a b,f a=f b→a=b) (o:Tot lt):Tot (fun a b=>lt (f a) (f b)) :=
 ⟨fun a=>o.irr _,fun a b c=>o.tr _ _ _,fun a b=>(o.tot (f a) (f b)).imp_right (Or.imp_left (hf a b))⟩
def zynh {α β:Type} [DecidableEq α] (l1:α→α→Bool) (l2:β→β→Bool) (a b:α × β):Bool:=if a.1=b.1 then l2 a.2 b.2 else l1 a.1 b.1
theorem zcht {α β:Type} [DecidableEq α] {l1:α→α→Bool} {l2:β→β→Bool} (o1:Tot l1) (o2:Tot l2):Tot (zynh l1 l2):=by
 refine ⟨fun a=>by simp [zynh,o2.irr],fun a b c h1 h2 => ?_,fun a b => ?_⟩
 ·unfold zynh at *
  by_cases e1:a.1=b.1
  ·by_cases e2:b.1=c.1
   ·rw [if_pos e1] at h1; rw [if_pos e2] at h2; rw [if_pos (e1.trans e2)]; exact o2.tr _ _ _ h1 h2
   ·rw [if_neg e2] at h2; rw [e1,if_neg e2]; exact h2
  ·rw [if_neg e1] at h1
   by_cases e2:b.1=c.1
   ·rw [← e2,if_neg e1]; exact h1
   ·rw [if_neg e2] at h2
    have h3:=o1.tr _ _ _ h1 h2
    rw [if_neg fun e=>by rw [e,o1.irr] at h3; cases h3]
    exact h3
 ·unfold zynh
  by_cases e:a.1=b.1
  ·rw [if_pos e,if_pos e.symm]
   rcases o2.tot a.2 b.2 with q|q|q
   ·exact .inl q
   ·exact .inr (.inl (Prod.ext e q))
   ·exact .inr (.inr q)
  ·rw [if_neg e,if_neg (fun q=>e q.symm)]
   rcases o1.tot a.1 b.1 with q|q|q
   ·exact .inl q
   ·exact absurd q e
   ·exact .inr (.inr q)
def dgU (d:Dg):List UInt8:=d.1.map fun b=>b.toNat.toUInt8
theorem zvz3 {a b:B8} (h:a.toNat.toUInt8=b.toNat.toUInt8):a=b:=by
 have ha:=a.isLt
 have hb:=b.isLt
 have h1:=congrArg UInt8.toNat h
 simp only [Nat.toUInt8_eq,UInt8.toNat_ofNat',y0j ha,y0j hb] at h1
 exact BitVec.eq_of_toNat_eq h1
theorem znyd (a b:Dg) (h:dgU a=dgU b):a=b:=Subtype.ext (List.map_inj_right (fun _ _=>zvz3) |>.1 h)
def dgLt (a b:Dg):Bool:=Op.bytesLess (dgU a) (dgU b)
theorem zc3a:Tot dgLt:=zqwe (lt:=Op.bytesLess) (f:=dgU) znyd z3gj
def u8L (l:List B8):List UInt8:=l.map fun b=>b.toNat.toUInt8
theorem zi7v {E:Env} {X:Forb} {w:World} {v:Value} {b:B8} (h:Rep E X w v (w8 b)):v = .int .u8 b.toNat:=by
 cases h; rfl
theorem zq08 {P:Program} {w:World} {a:Addr} {x:List B8} {cv:Nat→Value} (hc : ∀ i,i<(x.map w8).length→w.cell? (a.add i)=some (cv i)) {E:Env} {X:Forb} (hr : ∀ i (h:i<(x.map w8).length),Rep E X w (cv i) (x.map w8)[i]) :
  (Extern.Bytes.loadBytes a x.length .empty).run P w = .ok ⟨(u8L x).toArray⟩ w:=by
 have h:=Lib.run_loadBytesX (P:=P) (w:=w) (x.map fun b=>(b.toNat:Int)) a .empty (fun j y hy=>by
  obtain ⟨hj,e⟩:=List.getElem?_eq_some_iff.1 hy
  have hj':j<x.length:=by simpa using hj
  have h1:=hc j (by simpa using hj')
  have h2:=hr j (by simpa using hj')
  rw [List.getElem_map] at h2
  rw [h1,zi7v h2]
  rw [List.getElem_map] at e
  rw [e])
 rw [y0i] at h
 rw [h]
 have e:Lib.bytesOf (x.map fun b=>(b.toNat:Int))=u8L x:=by simp [Lib.bytesOf,u8L,List.map_map,Function.comp_def]
 rw [e]
 simp
theorem zf9q {P : Program} {f : FuncId} {fn : Func} (hf : P.funcs[f]? = some fn) (h1 : (fn.name == "runtime.NumGoroutine") = false) (h2 : fn.body.isNone = true) (h3 : Extern.findNext fn = none) (h4 : Extern.find fn = some Extern.BytealgCompare.compare) (x y : List B8) (fx fy : Bool) :
  Am.Sem P f [.sl fx 1 x.length (x.map w8),.sl fy 1 y.length (y.map w8)] (.int .i64 (Lib.compareBytes (u8L x) (u8L y))):=by
 intro X w vs _ hr
 obtain ⟨v1,v2,rfl,hx,hy⟩:=zaih hr
 cases hx with
 | sl _ _ _ cap1 a1 _ cv1 hn1 hf1 hl1 hc1 hx1 hr1 =>
 cases hy with
 | sl _ _ _ cap2 a2 _ cv2 hn2 hf2 hl2 hc2 hx2 hr2 =>
 refine .inr ⟨_,w,?_,_,rfl,Rep.int .i64 _,BelowD.refl _ w⟩
 have hrun:(Extern.BytealgCompare.compare #[.slice (some a1) x.length cap1,.slice (some a2) y.length cap2]).run P w = .ok (.int .i64 (Lib.compareBytes (u8L x) (u8L y))) w:=by
  change Sem.run P (do pure (goInt (Extern.BytealgCompare.cmp (← Extern.Bytes.bytesOf (.slice (some a1) x.length cap1)) (← Extern.Bytes.bytesOf (.slice (some a2) y.length cap2))))) w=_
  simp only [Extern.Bytes.bytesOf,Sem.run_bind,Sem.run_pure,zq08 hc1 hr1,zq08 hc2 hr2,Result.andThen]
  rw [Lib.cmp_eq]
  rfl
 rw [run_callFunc_extern hf h1 h2 h3 h4,hrun]
 rfl
theorem zadq : ∀ (a b:List UInt8),Lib.compareBytes a b<0↔Op.bytesLess a b=true
 | [],[]=>by simp [Lib.compareBytes,Op.bytesLess]
 | [],_::_=>by simp [Lib.compareBytes,Op.bytesLess]
 | _::_,[]=>by simp [Lib.compareBytes,Op.bytesLess]
 | x::a,y::b=>by
  have ih:=zadq a b
  simp only [Lib.compareBytes,Op.bytesLess,y0q,y02,decide_eq_true_eq,beq_iff_eq]
  by_cases h:x<y
  ·simp [h]
  ·by_cases h':y<x
   ·have:¬ x=y:=fun e=>by subst e; exact h h'
    simp [h,h',this]
   ·have:x=y:=UInt8.le_antisymm (UInt8.not_lt.1 h') (UInt8.not_lt.1 h)
    subst this; simp [ih]
abbrev BB:=(Bool × List B8) × (Bool × List B8)
def fBB (a:BB):List DV:=[.sl a.1.1 1 a.1.2.length (a.1.2.map w8),.sl a.2.1 1 a.2.2.length (a.2.2.map w8)]
noncomputable def cBc:List DV→Option DV:=con (fun _=>True) fBB (fun a => .int .i64 (Lib.compareBytes (u8L a.1.2) (u8L a.2.2)))
theorem zdrm {f g:Bool} {a b:List B8}:cBc [.sl f 1 a.length (a.map w8),.sl g 1 b.length (b.map w8)]=some (.int .i64 (Lib.compareBytes (u8L a) (u8L b))) :=
 zsn4 (f:=fBB) (g:=fun a => .int .i64 (Lib.compareBytes (u8L a.1.2) (u8L a.2.2))) (by
  rintro ⟨⟨a,b⟩,⟨c,d⟩⟩ ⟨⟨a',b'⟩,⟨c',d'⟩⟩ e
  simp only [fBB,List.cons.injEq,DV.sl.injEq,and_true,true_and] at e
  obtain ⟨⟨rfl,-,e1⟩,rfl,-,e2⟩:=e
  rw [zwcl] at e1 e2
  rw [e1,e2]) ((f,a),(g,b))
noncomputable def T520:Tbl:=addT 102 (.pure cBc) tbl0
theorem z2c4:T520 102 = .pure cBc:=by simp [T520]
theorem z4p8:T520.Sound P:=z0rp (z2au fun a _=>zf9q Tryz.func102 (by kernel_rfl) (by kernel_rfl) (by kernel_rfl) (by kernel_rfl) a.1.2 a.2.2 a.1.1 a.2.1) zr5o
theorem zag9 (a:BB):Runs T520 a72 (fBB a) (.int .i64 (Lib.compareBytes (u8L a.1.2) (u8L a.2.2))):=by
 refine ⟨?_⟩
 obtain ⟨⟨f,a⟩,⟨g,b⟩⟩:=a
 simp (disch:=first|omega|simp<;>omega|fail) [-zA,-zB,-zC,-zD,-zE,fBB,a72,z2c4,zdrm]
theorem zroj:(Con.pure cBc).Sound P 72:=z2au fun a _=>zljw mix z4p8 Tryz.func72 z0xs (zag9 a)
def zsy0 (a b:Dg):Int:=Lib.compareBytes (dgU a) (dgU b)
theorem zxr9 {a b:Dg}:zsy0 a b<0↔dgLt a b=true:=zadq _ _
theorem z1f4 {f g:Bool} {a b:Dg}:cBc [.sl f 1 32 (dgC a),.sl g 1 32 (dgC b)]=some (.int .i64 (zsy0 a b)):=by
 have:=zdrm (f:=f) (g:=g) (a:=a.1) (b:=b.1)
 rw [a.2,b.2] at this
 exact this
section
variable {α:Type} {f:α→List DV} {K:Nat}
end
end
section
set_option linter.unusedSimpArgs false
set_option linter.unusedVariables false
set_option maxRecDepth 20000
open Go Go.Am
section
variable {α:Type} {c:α→Int} {l:List α}
def kOf (c:α→Int) (l:List α):Nat:=(l.takeWhile fun x=>decide (c x<0)).length
def fOf (c:α→Int) (l:List α):Bool:=match l[kOf c l]? with
 | some x=>decide (c x=0)
 | none=>false
def Mono (c:α→Int) (l:List α):Prop := ∀ i j (hi:i<l.length) (hj:j<l.length),i<j→c l[j]<0→c l[i]<0
theorem zgek : ∀ {l:List α} {i:Nat},i≤l.length→(∀ m (h:m<l.length),m<i→c l[m]<0)→(∀ h:i<l.length,¬ c l[i]<0)→kOf c l=i
 | [],i,h,_,_=>by simp at h; subst h; rfl
 | a::l,0,_,_,h=>by
  have:=h (by simp)
  simp only [y0g] at this
  simp [kOf,y0w,this]
 | a::l,i+1,hi,h1,h2=>by
  have ha:=h1 0 (by simp) (by omega)
  simp only [y0g] at ha
  have ih:=zgek (l:=l) (i:=i) (by simpa using hi) (fun m hm hmi=>by
   have:=h1 (m+1) (by simpa using hm) (by omega)
   simpa using this) (fun h=>by
   have:=h2 (by simpa using h)
   simpa using this)
  have ha':decide (c a<0)=true:=decide_eq_true ha
  unfold kOf at ih ⊢
  rw [y0w,ha',if_pos rfl,y0a,ih]
theorem zjjt {i:Nat} (hk:kOf c l=i) (h:i<l.length):fOf c l=decide (c l[i]=0):=by
 unfold fOf; rw [hk,y04 h]
theorem zj9m {i:Nat} (hk:kOf c l=i) (h:¬ i<l.length):fOf c l=false:=by
 unfold fOf; rw [hk,y09 (by omega)]
end
structure Tri where
 grp:Int
 art:Dg
 fl:Int
 af:Int
 deriving DecidableEq
def trC (x:Tri):List DV := .int .i64 x.grp::(dgC x.art++[.int .i64 x.fl,.int .i64 x.af])
theorem zezj (x:Tri):(trC x).length=35:=by simp [trC,z1t1]
theorem z1zd (x:Tri):zbao (trC x)=true:=by
 simp only [trC,zbao,zyp8,y0f]
 exact zg0c (z3ot _) (by simp [zbao,zyp8])
theorem zms9 (x:Tri):(trC x).all DV.one=true:=by simp only [trC,y0u,List.all_append,zoxk,zzmf,List.all_nil,y06]
theorem zst3 (x:Tri):(trC x).drop 1=dgC x.art++[.int .i64 x.fl,.int .i64 x.af]:=rfl
theorem zww5 : ∀ x:Tri,oneC 35 true (trC x)=some (.agg (trC x)):=fun x=>by simp [oneC,zezj,y00]
theorem z7fr {x:Tri}:oneC 1 false (trC x)=some (.int .i64 x.grp):=rfl
theorem z56z {a b:Tri} (e:trC a=trC b):a=b:=by
 obtain ⟨a1,a2,a3,a4⟩:=a
 obtain ⟨b1,b2,b3,b4⟩:=b
 simp only [trC,List.cons.injEq,DV.int.injEq,true_and] at e
 obtain ⟨e1,e2⟩:=e
 have h:=List.append_inj e2 (by rw [z1t1,z1t1])
 simp only [List.cons.injEq,DV.int.injEq,true_and,and_true] at h
 rw [e1,zib9 h.1,h.2.1,h.2.2]
def cmpT (g:Int) (d:Dg) (x:Tri):Int:=orI (cmpI x.grp g) (zsy0 x.art d)
noncomputable def znlu:Tbl:=addT 71 (.pure (cII fun a b => .int .i64 (cmpI a b))) (addT 72 (.pure cBc) (addT 70 (.pure cOr) tbl0))
theorem z2rr:znlu 71 = .pure (cII fun a b => .int .i64 (cmpI a b)):=by simp [znlu]
theorem z7qx:znlu 72 = .pure cBc:=by simp [znlu]
theorem zu8u:znlu 70 = .pure cOr:=by simp [znlu]
theorem znzo:znlu.Sound P:=z0rp (z2au fun p _=>zljw mix ztzm Tryz.func71 zbtg (zcof p.1 p.2)) (z0rp zroj (z0rp (z2au fun p _=>zljw mix zr5o Tryz.func70 zhcw (z5l8 p.1 p.2)) zr5o))
theorem zswn (x:Tri):((trC x).drop 1).take 32=dgC x.art:=by
 rw [zst3,List.take_left' (z1t1 _)]
theorem ze4n (a b:Tri):Runs znlu a69 [.agg (trC a),.agg (trC b)] (.int .i64 (cmpT b.grp b.art a)):=by
 refine ⟨?_⟩
 have hb : ∀ h (x:Tri),boxD h (.agg (trC x))=some (.mp h.length 35 0,h++[.cells (trC x)]):=fun h x=>by rw [zn72,zezj]
 have hd : ∀ x:Tri,dgC x.art++[DV.int .i64 x.fl,.int .i64 x.af]=(trC x).drop 1:=fun x=>rfl
 simp (disch:=first|omega|simp<;>omega|fail) [-zA,-zB,-zC,-zD,-zE,a69,hb,z7fr,z2rr,zmei,z7qx,zswn,zezj,z3ot,z1f4,zu8u,z68y,cmpT]
noncomputable def cS1t:List DV→Option DV:=con (fun _=>True) (fun a:Tri × Tri=>[.agg (trC a.1),.agg (trC a.2)]) (fun a => .int .i64 (cmpT a.2.grp a.2.art a.1))
theorem z1ro {a b:Tri}:cS1t [.agg (trC a),.agg (trC b)]=some (.int .i64 (cmpT b.grp b.art a)) :=
 zsn4 (f:=fun a:Tri × Tri=>[.agg (trC a.1),.agg (trC a.2)]) (g:=fun a => .int .i64 (cmpT a.2.grp a.2.art a.1)) (by
  rintro ⟨a,b⟩ ⟨c,d⟩ e
  simp only [List.cons.injEq,DV.agg.injEq,and_true] at e
  rw [z56z e.1,z56z e.2]) (a,b)
noncomputable def zxgd:Tbl:=addT 69 (.pure cS1t) tbl0
theorem zrju:zxgd 69 = .pure cS1t:=by simp [zxgd]
theorem z0s4:zxgd.Sound P:=z0rp (z2au fun a _=>zljw mix znzo Tryz.func69 z713 (ze4n a.1 a.2)) zr5o
structure IJ where
 i:Nat
 j:Nat
def sfn:DV := .fn (.func 69) [] []
def zos4 (x:Sl Tri) (t:Tri) (a:IJ):St:=zd78 (x.dv 35 trC) sfn (.mp 0 35 0) (.int .i64 x.l.length) (.int .i64 a.i) (.int .i64 a.j) [.cells (trC t)]
theorem zm7q (x:Sl Tri):zyp8 (x.dv 35 trC)=true:=zxxb z1zd x
theorem z3um (i j:Nat):(max ((i:Int)+j) 0) >>> (1:Nat)=((i+j) / 2:Nat):=by
 rw [Int.max_eq_left (by omega),Int.shiftRight_eq_div_pow]; omega
theorem zfmw (x:Sl Tri) (t:Tri) (hm:Mono (cmpT t.grp t.art) x.l):Runs zxgd a68 [x.dv 35 trC,.agg (trC t),sfn] (.tup [.int .i64 (kOf (cmpT t.grp t.art) x.l),.bool (fOf (cmpT t.grp t.art) x.l)]):=by
 refine ⟨?_⟩
 have hb:=x.b
 have hbx : ∀ h (x:Tri),boxD h (.agg (trC x))=some (.mp h.length 35 0,h++[.cells (trC x)]):=fun h x=>by rw [zn72,zezj]
 have hlx : ∀ H,lenD H (x.dv 35 trC)=some (.int .i64 x.l.length):=fun H=>zupj
 simp (disch:=first|omega|simp<;>omega|fail) [-zA,-zB,-zC,-zD,-zE,a68,hbx,hlx,sfn]
 refine zlm5 (zos4 x t) (fun a=>a.j-a.i) (fun a=>a.i≤a.j∧a.j≤x.l.length∧(∀ m (h:m<x.l.length),m<a.i→cmpT t.grp t.art x.l[m]<0) ∧ ∀ m (h:m<x.l.length),a.j≤m→0≤cmpT t.grp t.art x.l[m]) ⟨0,x.l.length⟩ (z515 (by simp (disch:=first|omega|simp<;>omega|fail) [-zA,-zB,-zC,-zD,-zE,zos4,zd78,sfn]) (by simp (disch:=first|omega|simp<;>omega|fail) [-zA,-zB,-zC,-zD,-zE,zos4,zd78])) ⟨y03 _,y01 _,fun m _ h=>by simp at h,fun m h1 h2=>by have h2:x.l.length≤m:=h2; omega⟩ (fun a ha => ?_)
 obtain ⟨i,j⟩:=a
 obtain ⟨h1,h2,h3,h4⟩:=ha
 simp only at h1 h2 h3 h4
 simp only [zos4]
 by_cases g:i<j
 ·have g':(i:Int)<j:=by omega
  have hh:=z3um i j
  obtain ⟨k,hk⟩ : ∃ k,(i+j) / 2=k:=⟨_,rfl⟩
  rw [hk] at hh
  have hkl:k<x.l.length:=by omega
  have hx : ∀ H,zpsc H 35 (x.dv 35 trC) k=some (.ref (trC x.l[k])):=fun H=>zalo zezj hkl
  have hc:=z1ro (a:=x.l[k]) (b:=t)
  have hlo:cmpT t.grp t.art x.l[k]<0 → ∀ m (h:m<x.l.length),m<k+1→cmpT t.grp t.art x.l[m]<0:=fun e m hml hmk=>by
   by_cases q:m=k
   ·subst q; exact e
   ·exact hm m k hml hkl (by omega) e
  have hhi:¬ cmpT t.grp t.art x.l[k]<0 → ∀ m (h:m<x.l.length),k≤m→0≤cmpT t.grp t.art x.l[m]:=fun e m hml hkm=>by
   by_cases p:m=k
   ·subst p; omega
   ·by_cases q:cmpT t.grp t.art x.l[m]<0
    ·exact absurd (hm k m hkl hml (by omega) q) e
    ·omega
  obtain ⟨u,hu⟩ : ∃ u,x.l[k]=u:=⟨_,rfl⟩
  rw [hu] at hx hc hlo hhi
  obtain ⟨v,hv⟩ : ∃ v,cmpT t.grp t.art u=v:=⟨_,rfl⟩
  rw [hv] at hc hlo hhi
  have h1t:=zww5 t
  by_cases q:v<0
  ·have hlo:=hlo q
   simp (disch:=first|omega|simp<;>omega|fail) [-zA,-zB,-zC,-zD,-zE,z0bm,zd78,sfn,g,g',hh,hx,zww5,zezj,z1zd,zrju,hc,q]
   exact ⟨⟨k+1,j⟩,z515 (by simp (disch:=first|omega|simp<;>omega|fail) [-zA,-zB,-zC,-zD,-zE,zos4,zd78,sfn]) (by simp (disch:=first|omega|simp<;>omega|fail) [-zA,-zB,-zC,-zD,-zE,zos4,zd78]),by simp only; omega,by simp only; omega,by simp only; omega,hlo,fun m hml hjm=>h4 m hml hjm⟩
  ·have hhi:=hhi q
   have q':0≤v:=by omega
   simp (disch:=first|omega|simp<;>omega|fail) [-zA,-zB,-zC,-zD,-zE,z0bm,zd78,sfn,g,g',hh,hx,zww5,zezj,z1zd,zrju,hc,q,q']
   exact ⟨⟨i,k⟩,z515 (by simp (disch:=first|omega|simp<;>omega|fail) [-zA,-zB,-zC,-zD,-zE,zos4,zd78,sfn]) (by simp (disch:=first|omega|simp<;>omega|fail) [-zA,-zB,-zC,-zD,-zE,zos4,zd78]),by simp only; omega,by simp only; omega,by simp only; omega,fun m hml hmi=>h3 m hml hmi,hhi⟩
 ·have g':¬ (i:Int)<j:=by omega
  obtain rfl:i=j:=by omega
  have hk:=zgek (c:=cmpT t.grp t.art) h2 h3 (fun h=>by have:=h4 i h (y01 _); omega)
  have hf:=zjjt hk
  have hf':=zj9m hk
  rw [hk]
  by_cases e:i<x.l.length
  ·have e':(i:Int)<x.l.length:=by omega
   have hf:=hf e
   have hx : ∀ H,zpsc H 35 (x.dv 35 trC) i=some (.ref (trC x.l[i])):=fun H=>zalo zezj e
   have hc:=z1ro (a:=x.l[i]) (b:=t)
   obtain ⟨u,hu⟩ : ∃ u,x.l[i]=u:=⟨_,rfl⟩
   rw [hu] at hx hc hf
   rw [hf]
   obtain ⟨v,hv⟩ : ∃ v,cmpT t.grp t.art u=v:=⟨_,rfl⟩
   rw [hv] at hc
   rw [hv]
   simp (disch:=first|omega|simp<;>omega|fail) [-zA,-zB,-zC,-zD,-zE,z0bm,zd78,sfn,g,g',e,e',hx,zww5,zezj,z1zd,zrju,hc]
  ·have e':¬ (i:Int)<x.l.length:=by omega
   rw [hf' e]
   simp (disch:=first|omega|simp<;>omega|fail) [-zA,-zB,-zC,-zD,-zE,z0bm,zd78,sfn,g,g',e,e']
end
section
set_option linter.unusedSimpArgs false
set_option linter.unusedVariables false
set_option maxRecDepth 20000
open Go Go.Am
noncomputable def c1S (g:DV):List DV→Option DV:=con (fun _=>True) (fun a:Str=>[.str a]) (fun _=>g)
theorem zpcb {g:DV} {a:Str}:c1S g [.str a]=some g:=zsn4 (f:=fun a:Str=>[.str a]) (g:=fun _=>g) (fun a b e=>by simpa using e) a
theorem zy87 {a b:List UInt8}:zhl4 .lss (.str a) (.str b)=some (.bool (Op.bytesLess a b)):=rfl
attribute [simp] zy87
theorem zygs (a:Str):Runs tbl0 a138 [.str a] (.bool false):=by
 refine ⟨?_⟩
 simp (disch:=first|omega|simp<;>omega|fail) [-zA,-zB,-zC,-zD,-zE,a138]
noncomputable def zbzm:Tbl:=addT 138 (.pure (c1S (.bool false))) tbl0
theorem zxfj:zbzm 138 = .pure (c1S (.bool false)):=by simp [zbzm]
theorem z0zn:zbzm.Sound P:=z0rp (z2au fun a _=>zljw mix zr5o Tryz.func138 zno0 (zygs a)) zr5o
def zavf (a b:Str):Int:=if Op.bytesLess a b then -1 else if Op.bytesLess b a then 1 else 0
theorem zrmv {a b:Str}:zhl4 .gtr (.str a) (.str b)=some (.bool (Op.bytesLess b a)):=by
 have e:zhl4 .gtr (.str a) (.str b)=some (.bool (!(Op.bytesLess a b||a == b))):=by simp [zhl4,zdnj]
 rw [e]
 congr 2
 rcases zoet a b with h|h|h
 ·have h':Op.bytesLess b a=false:=by
   cases q:Op.bytesLess b a with
   | false=>rfl
   | true=>have:=z8c3 _ _ _ h q; rw [zrk4] at this; cases this
  rw [h,h']; rfl
 ·subst h; simp [zrk4]
 ·have h':Op.bytesLess a b=false:=by
   cases q:Op.bytesLess a b with
   | false=>rfl
   | true=>have:=z8c3 _ _ _ h q; rw [zrk4] at this; cases this
  have hn:¬ a=b:=fun e=>by rw [e,zrk4] at h; cases h
  rw [h,h']; simp [hn]
attribute [simp] zrmv
theorem za9u (a b:Str):Runs zbzm a128 [.str a,.str b] (.int .i64 (zavf a b)):=by
 refine ⟨?_⟩
 unfold zavf
 cases h1:Op.bytesLess a b with
 | true=>simp (disch:=first|omega|simp<;>omega|fail) [-zA,-zB,-zC,-zD,-zE,a128,zxfj,zpcb,h1]
 | false =>
  cases h2:Op.bytesLess b a with
  | true=>simp (disch:=first|omega|simp<;>omega|fail) [-zA,-zB,-zC,-zD,-zE,a128,zxfj,zpcb,h1,h2]
  | false=>simp (disch:=first|omega|simp<;>omega|fail) [-zA,-zB,-zC,-zD,-zE,a128,zxfj,zpcb,h1,h2]
noncomputable def cCs:List DV→Option DV
 | [.str a,.str b]=>some (.int .i64 (zavf a b))|_=>none
theorem zc1k {a b:Str}:cCs [.str a,.str b]=some (.int .i64 (zavf a b)):=rfl
theorem zqxd:(Con.pure cCs).Sound P 128:=by
 intro args v e
 unfold cCs at e
 split at e
 ·simp at e; subst e; exact zljw mix z0zn Tryz.func128 zv7v (za9u _ _)
 ·simp at e
def or3I (a b c:Int):Int:=if a=0 then (if b=0 then c else b) else a
def zx14 (a b c:Int) (i:Nat):St:=ziom (.int .i64 0) (.sl true 1 3 [.int .i64 a,.int .i64 b,.int .i64 c]) (.int .i64 3) (.int .i64 i) []
theorem z9c5 (a b c:Int):Runs tbl0 a70 [.sl true 1 3 [.int .i64 a,.int .i64 b,.int .i64 c]] (.int .i64 (or3I a b c)):=by
 refine ⟨?_⟩
 unfold or3I
 simp (disch:=first|omega|simp<;>omega|fail) [-zA,-zB,-zC,-zD,-zE,a70]
 refine zlm5 (zx14 a b c) (fun i=>3-i) (fun i=>i≤3∧(1≤i→a=0)∧(2≤i→b=0)∧(3≤i→c=0)) 0 (z515 (by simp (disch:=first|omega|simp<;>omega|fail) [-zA,-zB,-zC,-zD,-zE,zx14,ziom]) (by simp (disch:=first|omega|simp<;>omega|fail) [-zA,-zB,-zC,-zD,-zE,zx14,ziom])) (by omega) (fun i hi => ?_)
 obtain ⟨h1,h2,h3,h4⟩:=hi
 simp only [zx14]
 by_cases i0:i=0
 ·subst i0
  by_cases ha:a=0
  ·simp (disch:=first|omega|simp<;>omega|fail) [-zA,-zB,-zC,-zD,-zE,z3a0,ziom,ha]
   exact ⟨1,z515 (by simp (disch:=first|omega|simp<;>omega|fail) [-zA,-zB,-zC,-zD,-zE,zx14,ziom]) (by simp (disch:=first|omega|simp<;>omega|fail) [-zA,-zB,-zC,-zD,-zE,zx14,ziom]),by omega,by omega⟩
  ·simp (disch:=first|omega|simp<;>omega|fail) [-zA,-zB,-zC,-zD,-zE,z3a0,ziom,ha]
 by_cases i1:i=1
 ·subst i1
  have ha:=h2 (by omega)
  by_cases hb:b=0
  ·simp (disch:=first|omega|simp<;>omega|fail) [-zA,-zB,-zC,-zD,-zE,z3a0,ziom,ha,hb]
   exact ⟨2,z515 (by simp (disch:=first|omega|simp<;>omega|fail) [-zA,-zB,-zC,-zD,-zE,zx14,ziom]) (by simp (disch:=first|omega|simp<;>omega|fail) [-zA,-zB,-zC,-zD,-zE,zx14,ziom]),by omega,by omega⟩
  ·simp (disch:=first|omega|simp<;>omega|fail) [-zA,-zB,-zC,-zD,-zE,z3a0,ziom,ha,hb]
 by_cases i2:i=2
 ·subst i2
  have ha:=h2 (by omega)
  have hb:=h3 (by omega)
  by_cases hc:c=0
  ·simp (disch:=first|omega|simp<;>omega|fail) [-zA,-zB,-zC,-zD,-zE,z3a0,ziom,ha,hb,hc]
   exact ⟨3,z515 (by simp (disch:=first|omega|simp<;>omega|fail) [-zA,-zB,-zC,-zD,-zE,zx14,ziom]) (by simp (disch:=first|omega|simp<;>omega|fail) [-zA,-zB,-zC,-zD,-zE,zx14,ziom]),by omega,by omega⟩
  ·simp (disch:=first|omega|simp<;>omega|fail) [-zA,-zB,-zC,-zD,-zE,z3a0,ziom,ha,hb,hc]
 obtain rfl:i=3:=by omega
 have ha:=h2 (by omega)
 have hb:=h3 (by omega)
 have hc:=h4 (by omega)
 simp (disch:=first|omega|simp<;>omega|fail) [-zA,-zB,-zC,-zD,-zE,z3a0,ziom,ha,hb,hc]
noncomputable def cO3:List DV→Option DV
 | [.sl true 1 3 [.int .i64 a,.int .i64 b,.int .i64 c]]=>some (.int .i64 (or3I a b c))|_=>none
theorem zhrf {a b c:Int}:cO3 [.sl true 1 3 [.int .i64 a,.int .i64 b,.int .i64 c]]=some (.int .i64 (or3I a b c)):=rfl
theorem zj06:(Con.pure cO3).Sound P 70:=by
 intro args v e
 unfold cO3 at e
 split at e
 ·simp at e; subst e; exact zljw mix zr5o Tryz.func70 zhcw (z9c5 _ _ _)
 ·simp at e
theorem z5ha {a b:Str}:zavf a b<0↔Op.bytesLess a b=true:=by
 unfold zavf; split
 ·rename_i h; simp [h]
 ·rename_i h; simp [h]; split<;>decide
theorem zmen {a b:Str}:zavf a b=0↔a=b:=by
 unfold zavf
 rcases zoet a b with h|h|h
 ·simp only [h,if_true]; constructor
  ·intro q; omega
  ·intro q; rw [q,zrk4] at h; cases h
 ·subst h; simp [zrk4]
 ·have h':Op.bytesLess a b=false:=by
   cases q:Op.bytesLess a b with
   | false=>rfl
   | true=>have:=z8c3 _ _ _ h q; rw [zrk4] at this; cases this
  simp only [h,h',if_true]
  constructor
  ·intro q; simp at q
  ·intro q; rw [q,zrk4] at h; cases h
structure Ixe where
 ns:Str
 im:Str
 art:Dg
 ok:Bool
def ixZ:List DV:=dgC dg0++(.int .i64 0::(dgC dg0++[.str [],.str [],.nils,.nils,.int .i64 0]))
def ixC (x:Ixe):List DV := .str x.ns :: .str x.im::(dgC x.art++(.bool x.ok::ixZ))
theorem zuvx:ixZ.length=70:=by simp [ixZ,z1t1]
theorem zwe8 (x:Ixe):(ixC x).length=105:=by simp [ixC,z1t1,zuvx]
theorem zuwa:zbao ixZ=true:=by
 unfold ixZ
 refine zg0c (z3ot _) ?_
 simp only [zbao,zyp8,y0f]
 exact zg0c (z3ot _) rfl
theorem z0ob (x:Ixe):zbao (ixC x)=true:=by
 simp only [ixC,zbao,zyp8,y0f]
 exact zg0c (z3ot _) (by simp only [zbao,zyp8,zuwa,y06])
theorem zect : ∀ x:Ixe,oneC 105 true (ixC x)=some (.agg (ixC x)):=fun x=>by simp [oneC,zwe8,y00]
structure Rqs where
 ns:Str
 im:Str
 art:Dg
def rqC (x:Rqs):List DV := .str x.ns :: .str x.im::dgC x.art
theorem zzeg (x:Rqs):(rqC x).length=34:=by simp [rqC,z1t1]
theorem zhqv (x:Rqs):zbao (rqC x)=true:=by simp only [rqC,zbao,zyp8,z3ot,y06]
theorem zed4 : ∀ x:Rqs,oneC 34 true (rqC x)=some (.agg (rqC x)):=fun x=>by simp [oneC,zzeg,y00]
theorem z8s0 {x:Rqs}:oneC 1 false (rqC x)=some (.str x.ns):=rfl
theorem zonr {x:Rqs}:oneC 1 false ((rqC x).drop 1)=some (.str x.im):=rfl
theorem z7xw (x:Rqs):((rqC x).drop 2).take 32=dgC x.art:=y00 (by simp [rqC,z1t1])
theorem z82b {a b:Rqs} (e:rqC a=rqC b):a=b:=by
 obtain ⟨a1,a2,a3⟩:=a
 obtain ⟨b1,b2,b3⟩:=b
 simp only [rqC,List.cons.injEq,DV.str.injEq] at e
 rw [e.1,e.2.1,zib9 e.2.2]
def ixR (x:Ixe):Rqs:=⟨x.ns,x.im,x.art⟩
theorem zdyd (x:Ixe):oneC 34 true (ixC x)=some (.agg (rqC (ixR x))):=by
 have h:(ixC x).take 34=rqC (ixR x):=by
  have:ixC x=rqC (ixR x)++(.bool x.ok::ixZ):=by simp [ixC,rqC,ixR]
  rw [this,List.take_left' (zzeg _)]
 simp only [oneC,if_true]
 rw [if_pos (by rw [zwe8]; decide),h]
theorem z9gm (x:Ixe):oneC 1 false ((ixC x).drop 34)=some (.bool x.ok):=by
 have:ixC x=rqC (ixR x)++(.bool x.ok::ixZ):=by simp [ixC,rqC,ixR]
 rw [this,List.drop_left' (zzeg _)]; rfl
theorem zv4z {a b:Ixe} (e:ixC a=ixC b):a=b:=by
 obtain ⟨a1,a2,a3,a4⟩:=a
 obtain ⟨b1,b2,b3,b4⟩:=b
 simp only [ixC,List.cons.injEq,DV.str.injEq] at e
 obtain ⟨e1,e2,e3⟩:=e
 have h:=List.append_inj e3 (by rw [z1t1,z1t1])
 simp only [List.cons.injEq,DV.bool.injEq,and_true] at h
 rw [e1,e2,zib9 h.1,h.2]
def cmpR (r:Rqs) (x:Ixe):Int:=or3I (zavf x.ns r.ns) (zavf x.im r.im) (zsy0 x.art r.art)
noncomputable def zj1w:Tbl:=addT 128 (.pure cCs) (addT 72 (.pure cBc) (addT 70 (.pure cO3) tbl0))
theorem zpvn:zj1w 128 = .pure cCs:=by simp [zj1w]
theorem zoub:zj1w 72 = .pure cBc:=by simp [zj1w]
theorem zxdb:zj1w 70 = .pure cO3:=by simp [zj1w]
theorem zf4w:zj1w.Sound P:=z0rp zqxd (z0rp zroj (z0rp zj06 zr5o))
theorem zn9h (a b:Rqs):Runs zj1w a106 [.agg (rqC a),.agg (rqC b)] (.int .i64 (or3I (zavf a.ns b.ns) (zavf a.im b.im) (zsy0 a.art b.art))):=by
 refine ⟨?_⟩
 have hb : ∀ h (x:Rqs),boxD h (.agg (rqC x))=some (.mp h.length 34 0,h++[.cells (rqC x)]):=fun h x=>by rw [zn72,zzeg]
 simp (disch:=first|omega|simp<;>omega|fail) [-zA,-zB,-zC,-zD,-zE,a106,hb,z8s0,zonr,zpvn,zc1k,zoub,z7xw,zzeg,z3ot,z1f4,zxdb,zhrf]
noncomputable def cCmr:List DV→Option DV:=con (fun _=>True) (fun a:Rqs × Rqs=>[.agg (rqC a.1),.agg (rqC a.2)]) (fun a => .int .i64 (or3I (zavf a.1.ns a.2.ns) (zavf a.1.im a.2.im) (zsy0 a.1.art a.2.art)))
theorem z3ee {a b:Rqs}:cCmr [.agg (rqC a),.agg (rqC b)]=some (.int .i64 (or3I (zavf a.ns b.ns) (zavf a.im b.im) (zsy0 a.art b.art))) :=
 zsn4 (f:=fun a:Rqs × Rqs=>[.agg (rqC a.1),.agg (rqC a.2)]) (g:=fun a => .int .i64 (or3I (zavf a.1.ns a.2.ns) (zavf a.1.im a.2.im) (zsy0 a.1.art a.2.art))) (by
  rintro ⟨a,b⟩ ⟨c,d⟩ e
  simp only [List.cons.injEq,DV.agg.injEq,and_true] at e
  rw [z82b e.1,z82b e.2]) (a,b)
noncomputable def zwbp:Tbl:=addT 106 (.pure cCmr) tbl0
theorem zfez:zwbp 106 = .pure cCmr:=by simp [zwbp]
theorem zbdf:zwbp.Sound P:=z0rp (z2au fun a _=>zljw mix zf4w Tryz.func106 zex6 (zn9h a.1 a.2)) zr5o
theorem zpsk (a:Ixe) (b:Rqs):Runs zwbp a105 [.agg (ixC a),.agg (rqC b)] (.int .i64 (cmpR b a)):=by
 refine ⟨?_⟩
 have hb : ∀ h (x:Rqs),boxD h (.agg (rqC x))=some (.mp h.length 34 0,h++[.cells (rqC x)]):=fun h x=>by rw [zn72,zzeg]
 have hx : ∀ h (x:Ixe),boxD h (.agg (ixC x))=some (.mp h.length 105 0,h++[.cells (ixC x)]):=fun h x=>by rw [zn72,zwe8]
 have hc:=z3ee (a:=ixR a) (b:=b)
 have hcm:cmpR b a=or3I (zavf (ixR a).ns b.ns) (zavf (ixR a).im b.im) (zsy0 (ixR a).art b.art):=rfl
 rw [← hcm] at hc
 simp (disch:=first|omega|simp<;>omega|fail) [-zA,-zB,-zC,-zD,-zE,a105,hb,hx,zwe8,zzeg,zdyd,zed4,zhqv,zfez,hc]
noncomputable def cS1x:List DV→Option DV:=con (fun _=>True) (fun a:Ixe × Rqs=>[.agg (ixC a.1),.agg (rqC a.2)]) (fun a => .int .i64 (cmpR a.2 a.1))
theorem zgdf {a:Ixe} {b:Rqs}:cS1x [.agg (ixC a),.agg (rqC b)]=some (.int .i64 (cmpR b a)) :=
 zsn4 (f:=fun a:Ixe × Rqs=>[.agg (ixC a.1),.agg (rqC a.2)]) (g:=fun a => .int .i64 (cmpR a.2 a.1)) (by
  rintro ⟨a,b⟩ ⟨c,d⟩ e
  simp only [List.cons.injEq,DV.agg.injEq,and_true] at e
  rw [zv4z e.1,z82b e.2]) (a,b)
noncomputable def zpox:Tbl:=addT 105 (.pure cS1x) tbl0
theorem z6si:zpox 105 = .pure cS1x:=by simp [zpox]
theorem z8v4:zpox.Sound P:=z0rp (z2au fun a _=>zljw mix zbdf Tryz.func105 z9rf (zpsk a.1 a.2)) zr5o
structure IK where
 i:Nat
 j:Nat
def xfn:DV := .fn (.func 105) [] []
def zir5 (x:Sl Ixe) (t:Rqs) (a:IK):St:=zq0a (x.dv 105 ixC) xfn (.mp 0 34 0) (.int .i64 x.l.length) (.int .i64 a.i) (.int .i64 a.j) [.cells (rqC t)]
theorem zvdj (x:Sl Ixe):zyp8 (x.dv 105 ixC)=true:=zxxb z0ob x
theorem z78s (x:Sl Ixe) (t:Rqs) (hm:Mono (cmpR t) x.l):Runs zpox a104 [x.dv 105 ixC,.agg (rqC t),xfn] (.tup [.int .i64 (kOf (cmpR t) x.l),.bool (fOf (cmpR t) x.l)]):=by
 refine ⟨?_⟩
 have hb:=x.b
 have hbx : ∀ h (x:Rqs),boxD h (.agg (rqC x))=some (.mp h.length 34 0,h++[.cells (rqC x)]):=fun h x=>by rw [zn72,zzeg]
 have hlx : ∀ H,lenD H (x.dv 105 ixC)=some (.int .i64 x.l.length):=fun H=>zupj
 simp (disch:=first|omega|simp<;>omega|fail) [-zA,-zB,-zC,-zD,-zE,a104,hbx,hlx,xfn]
 refine zlm5 (zir5 x t) (fun a=>a.j-a.i) (fun a=>a.i≤a.j∧a.j≤x.l.length∧(∀ m (h:m<x.l.length),m<a.i→cmpR t x.l[m]<0) ∧ ∀ m (h:m<x.l.length),a.j≤m→0≤cmpR t x.l[m]) ⟨0,x.l.length⟩ (z515 (by simp (disch:=first|omega|simp<;>omega|fail) [-zA,-zB,-zC,-zD,-zE,zir5,zq0a,xfn]) (by simp (disch:=first|omega|simp<;>omega|fail) [-zA,-zB,-zC,-zD,-zE,zir5,zq0a])) ⟨y03 _,y01 _,fun m _ h=>by simp at h,fun m h1 h2=>by have h2:x.l.length≤m:=h2; omega⟩ (fun a ha => ?_)
 obtain ⟨i,j⟩:=a
 obtain ⟨h1,h2,h3,h4⟩:=ha
 simp only at h1 h2 h3 h4
 simp only [zir5]
 by_cases g:i<j
 ·have g':(i:Int)<j:=by omega
  have hh:=z3um i j
  obtain ⟨k,hk⟩ : ∃ k,(i+j) / 2=k:=⟨_,rfl⟩
  rw [hk] at hh
  have hkl:k<x.l.length:=by omega
  have hx : ∀ H,zpsc H 105 (x.dv 105 ixC) k=some (.ref (ixC x.l[k])):=fun H=>zalo zwe8 hkl
  have hc:=zgdf (a:=x.l[k]) (b:=t)
  have hlo:cmpR t x.l[k]<0 → ∀ m (h:m<x.l.length),m<k+1→cmpR t x.l[m]<0:=fun e m hml hmk=>by
   by_cases q:m=k
   ·subst q; exact e
   ·exact hm m k hml hkl (by omega) e
  have hhi:¬ cmpR t x.l[k]<0 → ∀ m (h:m<x.l.length),k≤m→0≤cmpR t x.l[m]:=fun e m hml hkm=>by
   by_cases p:m=k
   ·subst p; omega
   ·by_cases q:cmpR t x.l[m]<0
    ·exact absurd (hm k m hkl hml (by omega) q) e
    ·omega
  obtain ⟨u,hu⟩ : ∃ u,x.l[k]=u:=⟨_,rfl⟩
  rw [hu] at hx hc hlo hhi
  obtain ⟨v,hv⟩ : ∃ v,cmpR t u=v:=⟨_,rfl⟩
  rw [hv] at hc hlo hhi
  have h1t:=zed4 t
  by_cases q:v<0
  ·have hlo:=hlo q
   simp (disch:=first|omega|simp<;>omega|fail) [-zA,-zB,-zC,-zD,-zE,z7sf,zq0a,xfn,g,g',hh,hx,zect,zed4,zzeg,z0ob,zhqv,z6si,hc,q]
   exact ⟨⟨k+1,j⟩,z515 (by simp (disch:=first|omega|simp<;>omega|fail) [-zA,-zB,-zC,-zD,-zE,zir5,zq0a,xfn]) (by simp (disch:=first|omega|simp<;>omega|fail) [-zA,-zB,-zC,-zD,-zE,zir5,zq0a]),by simp only; omega,by simp only; omega,by simp only; omega,hlo,fun m hml hjm=>h4 m hml hjm⟩
  ·have hhi:=hhi q
   have q':0≤v:=by omega
   simp (disch:=first|omega|simp<;>omega|fail) [-zA,-zB,-zC,-zD,-zE,z7sf,zq0a,xfn,g,g',hh,hx,zect,zed4,zzeg,z0ob,zhqv,z6si,hc,q,q']
   exact ⟨⟨i,k⟩,z515 (by simp (disch:=first|omega|simp<;>omega|fail) [-zA,-zB,-zC,-zD,-zE,zir5,zq0a,xfn]) (by simp (disch:=first|omega|simp<;>omega|fail) [-zA,-zB,-zC,-zD,-zE,zir5,zq0a]),by simp only; omega,by simp only; omega,by simp only; omega,fun m hml hmi=>h3 m hml hmi,hhi⟩
 ·have g':¬ (i:Int)<j:=by omega
  obtain rfl:i=j:=by omega
  have hk:=zgek (c:=cmpR t) h2 h3 (fun h=>by have:=h4 i h (y01 _); omega)
  have hf:=zjjt hk
  have hf':=zj9m hk
  rw [hk]
  by_cases e:i<x.l.length
  ·have e':(i:Int)<x.l.length:=by omega
   have hf:=hf e
   have hx : ∀ H,zpsc H 105 (x.dv 105 ixC) i=some (.ref (ixC x.l[i])):=fun H=>zalo zwe8 e
   have hc:=zgdf (a:=x.l[i]) (b:=t)
   obtain ⟨u,hu⟩ : ∃ u,x.l[i]=u:=⟨_,rfl⟩
   rw [hu] at hx hc hf
   rw [hf]
   obtain ⟨v,hv⟩ : ∃ v,cmpR t u=v:=⟨_,rfl⟩
   rw [hv] at hc
   rw [hv]
   simp (disch:=first|omega|simp<;>omega|fail) [-zA,-zB,-zC,-zD,-zE,z7sf,zq0a,xfn,g,g',e,e',hx,zect,zed4,zzeg,z0ob,zhqv,z6si,hc]
  ·have e':¬ (i:Int)<x.l.length:=by omega
   rw [hf' e]
   simp (disch:=first|omega|simp<;>omega|fail) [-zA,-zB,-zC,-zD,-zE,z7sf,zq0a,xfn,g,g',e,e']
end
section
set_option linter.unusedSimpArgs false
set_option linter.unusedVariables false
set_option maxRecDepth 20000
open Go Go.Am
noncomputable def cBst:List DV→Option DV:=con (fun a:Sl Tri × Tri=>Mono (cmpT a.2.grp a.2.art) a.1.l) (fun a=>[a.1.dv 35 trC,.agg (trC a.2),sfn]) (fun a => .tup [.int .i64 (kOf (cmpT a.2.grp a.2.art) a.1.l),.bool (fOf (cmpT a.2.grp a.2.art) a.1.l)])
theorem z47i {x y:Sl Tri} (e:x.dv 35 trC=y.dv 35 trC):x=y:=zcq7 zezj (by decide) (fun _ _=>z56z) e
theorem zrpw {x y:Sl Ixe} (e:x.dv 105 ixC=y.dv 105 ixC):x=y:=zcq7 zwe8 (by decide) (fun _ _=>zv4z) e
theorem za1r {x:Sl Tri} {t:Tri} (h:Mono (cmpT t.grp t.art) x.l):cBst [x.dv 35 trC,.agg (trC t),sfn]=some (.tup [.int .i64 (kOf (cmpT t.grp t.art) x.l),.bool (fOf (cmpT t.grp t.art) x.l)]) :=
 zzno (A:=fun a:Sl Tri × Tri=>Mono (cmpT a.2.grp a.2.art) a.1.l) (f:=fun a=>[a.1.dv 35 trC,.agg (trC a.2),sfn]) (g:=fun a => .tup [.int .i64 (kOf (cmpT a.2.grp a.2.art) a.1.l),.bool (fOf (cmpT a.2.grp a.2.art) a.1.l)]) (by
  rintro ⟨a,b⟩ ⟨c,d⟩ e
  simp only [List.cons.injEq,DV.agg.injEq,and_true] at e
  rw [z47i e.1,z56z e.2]) (x,t) h
noncomputable def znec:Tbl:=addT 68 (.pure cBst) tbl0
theorem zn9u:znec 68 = .pure cBst:=by simp [znec]
theorem zy1n:znec.Sound P:=z0rp (z2au fun a h=>zljw mix z0s4 Tryz.func68 z20i (zfmw a.1 a.2 h)) zr5o
theorem z8tf {z:List DV} {a:Int} {d:Dg} (h1:z.length=35) (h2:z.drop 33=[.int .i64 0,.int .i64 0]):zvnk z [(0,1,.int .i64 a),(1,32,.agg (dgC d))]=some (.agg (trC ⟨a,d,0,0⟩)):=by
 have h3:(z.drop 1).drop 32=[.int .i64 0,.int .i64 0]:=by rw [y0s]; exact h2
 obtain ⟨b,r,rfl⟩ : ∃ b r,z=b::r:=by cases z with
  | nil=>simp at h1
  | cons b r=>exact ⟨b,r,rfl⟩
 have hl:r.length=34:=by simpa using h1
 have h4:r.drop 32=[.int .i64 0,.int .i64 0]:=h2
 simp [zvnk,zi03,zk7y,DV.known,DV.cells,z1t1,hl,h4,trC]
theorem ztjp (x:Sl Tri) (g:Int) (d:Dg) (hm:Mono (cmpT g d) x.l):Runs znec a42 [x.dv 35 trC,.int .i64 g,.agg (dgC d)] (.tup [.int .i64 (kOf (cmpT g d) x.l),.bool (fOf (cmpT g d) x.l)]):=by
 refine ⟨?_⟩
 have hb : ∀ h,boxD h (.agg (dgC d))=some (.mp h.length 32 0,h++[.cells (dgC d)]):=fun h=>by rw [zn72,z1t1]
 have h1d:oneC 32 true (dgC d)=some (.agg (dgC d)):=by simp [oneC,z1t1,y00]
 have hc:=za1r (x:=x) (t:=⟨g,d,0,0⟩) hm
 have hc:cBst [x.dv 35 trC,.agg (trC ⟨g,d,0,0⟩),.fn (.func 69) [] []]=some (.tup [.int .i64 (kOf (cmpT g d) x.l),.bool (fOf (cmpT g d) x.l)]):=hc
 have hr:DV.int .i64 g::(dgC d++[.int .i64 0,.int .i64 0])=trC ⟨g,d,0,0⟩:=rfl
 have hp:=zm7q x
 simp (disch:=first|omega|simp<;>omega|fail) [-zA,-zB,-zC,-zD,-zE,a42,hb,z1t1,h1d,z8tf,zn9u,hc,hp,z1zd]
noncomputable def cSrc:List DV→Option DV:=con (fun a:Sl Tri × Int × Dg=>Mono (cmpT a.2.1 a.2.2) a.1.l) (fun a=>[a.1.dv 35 trC,.int .i64 a.2.1,.agg (dgC a.2.2)]) (fun a => .tup [.int .i64 (kOf (cmpT a.2.1 a.2.2) a.1.l),.bool (fOf (cmpT a.2.1 a.2.2) a.1.l)])
theorem ztk4 {x:Sl Tri} {g:Int} {d:Dg} (h:Mono (cmpT g d) x.l):cSrc [x.dv 35 trC,.int .i64 g,.agg (dgC d)]=some (.tup [.int .i64 (kOf (cmpT g d) x.l),.bool (fOf (cmpT g d) x.l)]) :=
 zzno (A:=fun a:Sl Tri × Int × Dg=>Mono (cmpT a.2.1 a.2.2) a.1.l) (f:=fun a=>[a.1.dv 35 trC,.int .i64 a.2.1,.agg (dgC a.2.2)]) (g:=fun a => .tup [.int .i64 (kOf (cmpT a.2.1 a.2.2) a.1.l),.bool (fOf (cmpT a.2.1 a.2.2) a.1.l)]) (by
  rintro ⟨a,b,c⟩ ⟨a',b',c'⟩ e
  simp only [List.cons.injEq,DV.agg.injEq,DV.int.injEq,and_true,true_and] at e
  rw [z47i e.1,e.2.1,zib9 e.2.2]) (x,g,d) h
theorem zev6:(Con.pure cSrc).Sound P 42:=z2au fun a h=>zljw mix zy1n Tryz.func42 zl17 (ztjp a.1 a.2.1 a.2.2 h)
noncomputable def cBsx:List DV→Option DV:=con (fun a:Sl Ixe × Rqs=>Mono (cmpR a.2) a.1.l) (fun a=>[a.1.dv 105 ixC,.agg (rqC a.2),xfn]) (fun a => .tup [.int .i64 (kOf (cmpR a.2) a.1.l),.bool (fOf (cmpR a.2) a.1.l)])
theorem z70v {x:Sl Ixe} {r:Rqs} (h:Mono (cmpR r) x.l):cBsx [x.dv 105 ixC,.agg (rqC r),.fn (.func 105) [] []]=some (.tup [.int .i64 (kOf (cmpR r) x.l),.bool (fOf (cmpR r) x.l)]) :=
 zzno (A:=fun a:Sl Ixe × Rqs=>Mono (cmpR a.2) a.1.l) (f:=fun a=>[a.1.dv 105 ixC,.agg (rqC a.2),xfn]) (g:=fun a => .tup [.int .i64 (kOf (cmpR a.2) a.1.l),.bool (fOf (cmpR a.2) a.1.l)]) (by
  rintro ⟨a,b⟩ ⟨c,d⟩ e
  simp only [List.cons.injEq,DV.agg.injEq,and_true] at e
  rw [zrpw e.1,z82b e.2]) (x,r) h
noncomputable def z4nx:Tbl:=addT 104 (.pure cBsx) tbl0
theorem z6uy:z4nx 104 = .pure cBsx:=by simp [z4nx]
theorem z32g:z4nx.Sound P:=z0rp (z2au fun a h=>zljw mix z8v4 Tryz.func104 z0mt (z78s a.1 a.2 h)) zr5o
structure Idx where
 at_:Int
 e:Sl Ixe
def xiC (x:Idx):List DV:=[.int .i64 x.at_,x.e.dv 105 ixC]
theorem zqx0 (x:Idx):zbao (xiC x)=true:=by simp only [xiC,zbao,zyp8,zvdj,y06]
theorem zt7p {a b:Idx} (e:xiC a=xiC b):a=b:=by
 obtain ⟨a1,a2⟩:=a
 obtain ⟨b1,b2⟩:=b
 simp only [xiC,List.cons.injEq,DV.int.injEq,true_and,and_true] at e
 rw [e.1,zrpw e.2]
theorem z7n2 (x:Idx) (r:Rqs) (hm:Mono (cmpR r) x.e.l):Runs z4nx a78 [.agg (xiC x),.agg (rqC r)] (.tup [.int .i64 (kOf (cmpR r) x.e.l),.bool (fOf (cmpR r) x.e.l)]):=by
 refine ⟨?_⟩
 have hb : ∀ h,boxD h (.agg (xiC x))=some (.mp h.length 2 0,h++[.cells (xiC x)]):=fun h=>by rw [zn72]; rfl
 have hr : ∀ h,boxD h (.agg (rqC r))=some (.mp h.length 34 0,h++[.cells (rqC r)]):=fun h=>by rw [zn72,zzeg]
 have hl:(xiC x).length=2:=rfl
 have o1:oneC 1 false ((xiC x).drop 1)=some (x.e.dv 105 ixC):=rfl
 have hc:=z70v hm
 have hp:=zvdj x.e
 simp (disch:=first|omega|simp<;>omega|fail) [-zA,-zB,-zC,-zD,-zE,a78,hb,hr,hl,o1,zzeg,zed4,z6uy,hc,hp,zhqv]
noncomputable def cIse:List DV→Option DV:=con (fun a:Idx × Rqs=>Mono (cmpR a.2) a.1.e.l) (fun a=>[.agg (xiC a.1),.agg (rqC a.2)]) (fun a => .tup [.int .i64 (kOf (cmpR a.2) a.1.e.l),.bool (fOf (cmpR a.2) a.1.e.l)])
theorem z64q {a b:Idx × Rqs} (e:[DV.agg (xiC a.1),.agg (rqC a.2)]=[DV.agg (xiC b.1),.agg (rqC b.2)]):a=b:=by
 obtain ⟨a1,a2⟩:=a
 obtain ⟨b1,b2⟩:=b
 simp only [List.cons.injEq,DV.agg.injEq,and_true] at e
 rw [zt7p e.1,z82b e.2]
theorem z8vs {x:Idx} {r:Rqs} (h:Mono (cmpR r) x.e.l):cIse [.agg (xiC x),.agg (rqC r)]=some (.tup [.int .i64 (kOf (cmpR r) x.e.l),.bool (fOf (cmpR r) x.e.l)]) :=
 zzno (A:=fun a:Idx × Rqs=>Mono (cmpR a.2) a.1.e.l) (f:=fun a=>[.agg (xiC a.1),.agg (rqC a.2)]) (g:=fun a => .tup [.int .i64 (kOf (cmpR a.2) a.1.e.l),.bool (fOf (cmpR a.2) a.1.e.l)]) (fun a b e=>by rw [z64q e]) (x,r) h
noncomputable def zvw9:Tbl:=addT 78 (.pure cIse) tbl0
theorem z37m:zvw9 78 = .pure cIse:=by simp [zvw9]
theorem zhoa:zvw9.Sound P:=z0rp (z2au fun a h=>zljw mix z32g Tryz.func78 zetr (z7n2 a.1 a.2 h)) zr5o
def alwB (l:List Ixe) (r:Rqs):Bool:=fOf (cmpR r) l&&((l[kOf (cmpR r) l]?).map Ixe.ok).getD false
theorem zsfp {α:Type} {c:α→Int} {l:List α} (h:fOf c l=true) : ∃ hk:kOf c l<l.length,c l[kOf c l]=0:=by
 unfold fOf at h
 by_cases q:kOf c l<l.length
 ·rw [y04 q] at h
  exact ⟨q,by simpa using h⟩
 ·rw [y09 (by omega)] at h; simp at h
theorem z3jv (x:Idx) (r:Rqs) (hm:Mono (cmpR r) x.e.l):Runs zvw9 a51 [.agg (xiC x),.agg (rqC r)] (.bool (alwB x.e.l r)):=by
 refine ⟨?_⟩
 have hb : ∀ h,boxD h (.agg (xiC x))=some (.mp h.length 2 0,h++[.cells (xiC x)]):=fun h=>by rw [zn72]; rfl
 have hr : ∀ h,boxD h (.agg (rqC r))=some (.mp h.length 34 0,h++[.cells (rqC r)]):=fun h=>by rw [zn72,zzeg]
 have hl:(xiC x).length=2:=rfl
 have o1:oneC 1 false ((xiC x).drop 1)=some (x.e.dv 105 ixC):=rfl
 have o2:oneC 2 true (xiC x)=some (.agg (xiC x)):=rfl
 have hc:=z8vs hm
 have hp:=zqx0 x
 cases hf:fOf (cmpR r) x.e.l with
 | false =>
  rw [hf] at hc
  have ha:alwB x.e.l r=false:=by unfold alwB; rw [hf]; rfl
  rw [ha]
  simp (disch:=first|omega|simp<;>omega|fail) [-zA,-zB,-zC,-zD,-zE,a51,hb,hr,hl,o1,o2,zzeg,zed4,z37m,hc,hp,zhqv]
 | true =>
  rw [hf] at hc
  obtain ⟨hk,_⟩:=zsfp hf
  have ha:alwB x.e.l r=x.e.l[kOf (cmpR r) x.e.l].ok:=by unfold alwB; rw [hf,y04 hk]; rfl
  have hi : ∀ H,zpsc H 105 (x.e.dv 105 ixC) (kOf (cmpR r) x.e.l:Nat)=some (.ref (ixC x.e.l[kOf (cmpR r) x.e.l])):=fun H=>zalo zwe8 hk
  have hok:=z9gm x.e.l[kOf (cmpR r) x.e.l]
  rw [ha]
  obtain ⟨u,hu⟩ : ∃ u,x.e.l[kOf (cmpR r) x.e.l]=u:=⟨_,rfl⟩
  rw [hu] at hi hok
  rw [hu]
  simp (disch:=first|omega|simp<;>omega|fail) [-zA,-zB,-zC,-zD,-zE,a51,hb,hr,hl,o1,o2,zzeg,zed4,z37m,hc,hp,zhqv,hi,hok]
noncomputable def cAlw:List DV→Option DV:=con (fun a:Idx × Rqs=>Mono (cmpR a.2) a.1.e.l) (fun a=>[.agg (xiC a.1),.agg (rqC a.2)]) (fun a => .bool (alwB a.1.e.l a.2))
theorem zdxj {x:Idx} {r:Rqs} (h:Mono (cmpR r) x.e.l):cAlw [.agg (xiC x),.agg (rqC r)]=some (.bool (alwB x.e.l r)) :=
 zzno (A:=fun a:Idx × Rqs=>Mono (cmpR a.2) a.1.e.l) (f:=fun a=>[.agg (xiC a.1),.agg (rqC a.2)]) (g:=fun a => .bool (alwB a.1.e.l a.2)) (fun a b e=>by rw [z64q e]) (x,r) h
theorem z9kz:(Con.pure cAlw).Sound P 51:=z2au fun a h=>zljw mix zhoa Tryz.func51 z8rx (z3jv a.1 a.2 h)
end
section
set_option linter.unusedSimpArgs false
set_option linter.unusedVariables false
set_option maxRecDepth 20000
open Go Go.Am
def zvlr (tr:List Tri) (k:Int) (d:Dg) (t:Int):Bool:=fOf (cmpT k d) tr&&decide (t<((tr[kOf (cmpT k d) tr]?).map Tri.af).getD 0)
def choB (tr:List Tri) (ix:List Ixe) (g:Grp) (k t:Int) (d:Dg):Bool := !zvlr tr k d t&&alwB ix ⟨g.ns,g.im,d⟩
def choF (tr:List Tri) (ix:List Ixe) (g:Grp) (k t:Int):Option Dg:=g.ch.l.find? (choB tr ix g k t)
def choC (tr:List Tri) (ix:List Ixe) (c:Clu) (k t:Int):Option Dg:=match grAt c k with
 | some g=>choF tr ix g k t
 | none=>none
def choD (o:Option Dg):DV := .tup [.agg (dgC (o.getD dg0)),.bool o.isSome]
structure ChOK (x:Idx) (tr:Sl Tri):Prop where
 t : ∀ k d,Mono (cmpT k d) tr.l
 x : ∀ r,Mono (cmpR r) x.e.l
noncomputable def zxme:Tbl:=addT 42 (.pure cSrc) (addT 51 (.pure cAlw) tbl0)
theorem zey6:zxme 42 = .pure cSrc:=by simp [zxme]
theorem z2pp:zxme 51 = .pure cAlw:=by simp [zxme]
theorem zhax:zxme.Sound P:=z0rp zev6 (z0rp z9kz zr5o)
theorem zxn0 (x:Tri):(trC x).drop 34=[.int .i64 x.af]:=by
 rw [show (34:Nat)=1+33 from rfl,← y0s,zst3,show (33:Nat)=32+1 from rfl,← y0s,List.drop_left' (z1t1 _)]; rfl
theorem zobw {x:Tri}:oneC 1 false ((trC x).drop 34)=some (.int .i64 x.af):=by rw [zxn0]; rfl
def zsoi (c:Clu) (x:Idx) (tr:Sl Tri) (g:Grp) (k t:Int) (i:Nat):St:=zm3v (tr.dv 35 trC) (.int .i64 k) (.int .i64 t) (.mp 1 2 0) (.mp 2 32 0) (.mp 3 6 0) (g.ch.dv 32 dgC) (.int .i64 g.ch.l.length) (.int .i64 i) [.cells (clC c),.cells (xiC x),.cells (dgC dg0),.cells (grC g)]
theorem z41w (c:Clu) (x:Idx) (tr:Sl Tri) (k t:Int) (ok:ChOK x tr):Runs zxme a23 [.agg (clC c),.agg (xiC x),tr.dv 35 trC,.int .i64 k,.int .i64 t] (choD (choC tr.l x.e.l c k t)):=by
 refine ⟨?_⟩
 have hbc : ∀ h,boxD h (.agg (clC c))=some (.mp h.length 3 0,h++[.cells (clC c)]):=fun h=>by rw [zn72,zlha]
 have hbx : ∀ h,boxD h (.agg (xiC x))=some (.mp h.length 2 0,h++[.cells (xiC x)]):=fun h=>by rw [zn72]; rfl
 have hgl : ∀ H,lenD H (c.g.dv 6 grC)=some (.int .i64 c.g.l.length):=fun H=>zupj
 have hgb:=c.g.b
 have h1d : ∀ d,oneC 32 true (dgC d)=some (.agg (dgC d)):=fun d=>by simp [oneC,z1t1,y00]
 have hsd : ∀ (h:List AObj) (id:Nat) (d e:Dg),zy6o h id 32 0 (.agg (dgC d)) (some (dgC e))=some (.junk,h.set id (.cells (dgC d))):=fun h id d e=>zfc1 (z1t1 _) (z1t1 _) (by simp [dgC,zzst])
 have hb0:zvnk (dgC dg0) []=some (.agg (dgC dg0)):=rfl
 by_cases k0:k<0
 ·have hr:choC tr.l x.e.l c k t=none:=by unfold choC grAt; rw [if_neg (by omega)]
  rw [hr]
  simp (disch:=first|omega|simp<;>omega|fail) [-zA,-zB,-zC,-zD,-zE,a23,hbc,hbx,k0,z4hl,hb0,hsd,h1d,choD]
 by_cases k1:(c.g.l.length:Int)≤k
 ·have hr:choC tr.l x.e.l c k t=none:=by
   unfold choC grAt; rw [if_pos (by omega),y09 (by omega)]
  rw [hr]
  simp (disch:=first|omega|simp<;>omega|fail) [-zA,-zB,-zC,-zD,-zE,a23,hbc,hbx,k0,hgl,k1,z4hl,hb0,hsd,h1d,choD]
 obtain ⟨m,rfl⟩:=Int.eq_ofNat_of_zero_le (show 0≤k by omega)
 have hm:m<c.g.l.length:=by omega
 have hgi : ∀ H,zpsc H 6 (c.g.dv 6 grC) m=some (.ref (grC c.g.l[m])):=fun H=>zalo zry4 hm
 have hr:choC tr.l x.e.l c m t=choF tr.l x.e.l c.g.l[m] m t:=by
  unfold choC grAt; rw [if_pos (by omega),Int.toNat_natCast,y04 hm]
 rw [hr]
 obtain ⟨g,hg⟩ : ∃ g,c.g.l[m]=g:=⟨_,rfl⟩
 rw [hg] at hgi
 rw [hg]
 have hcl : ∀ H,lenD H (g.ch.dv 32 dgC)=some (.int .i64 g.ch.l.length):=fun H=>zupj
 have hcb:=g.ch.b
 have hsg : ∀ (h:List AObj) (id:Nat) (z:List DV),z.length=6→zy6o h id 6 0 (.agg (grC g)) (some z)=some (.junk,h.set id (.cells (grC g))):=fun h id z hz=>zfc1 (zry4 g) hz (by simp [grC,z4ja])
 have k2:¬ (c.g.l.length:Int)≤(m:Int):=k1
 have k3:¬ c.g.l.length≤m:=by omega
 simp (disch:=first|omega|simp<;>omega|fail) [-zA,-zB,-zC,-zD,-zE,a23,hbc,hbx,k0,hgl,k1,k2,k3,hgi,z4hl,hsg]
 have hpx:=zqx0 x
 have hpt:=zm7q tr
 refine zlm5 (zsoi c x tr g m t) (fun i=>g.ch.l.length-i) (fun i=>i≤g.ch.l.length ∧ ∀ j (h:j<g.ch.l.length),j<i→choB tr.l x.e.l g m t g.ch.l[j]=false) 0 (z515 (by simp (disch:=first|omega|simp<;>omega|fail) [-zA,-zB,-zC,-zD,-zE,zsoi,zm3v]) (by simp (disch:=first|omega|simp<;>omega|fail) [-zA,-zB,-zC,-zD,-zE,zsoi,zm3v])) ⟨by omega,fun j _ hj=>by omega⟩ (fun i hi => ?_)
 obtain ⟨q1,q2⟩:=hi
 simp only [zsoi]
 by_cases h:i<g.ch.l.length
 case neg =>
  have h':¬ (i:Int)<g.ch.l.length:=by omega
  have hr:choF tr.l x.e.l g m t=none:=by
   unfold choF
   rw [List.find?_eq_none]
   intro d hd
   obtain ⟨j,hj,e⟩:=y0o hd
   have:=q2 j hj (by omega)
   rw [e] at this; rw [this]; simp
  rw [hr]
  simp (disch:=first|omega|simp<;>omega|fail) [-zA,-zB,-zC,-zD,-zE,zyu0,zm3v,h,h',hb0,z4hl,hsd,h1d,choD]
 have h':(i:Int)<g.ch.l.length:=by omega
 have hx : ∀ H,zpsc H 32 (g.ch.dv 32 dgC) i=some (.ref (dgC g.ch.l[i])):=fun H=>zalo z1t1 h
 have hinv:choB tr.l x.e.l g m t g.ch.l[i]=false → ∀ j (h:j<g.ch.l.length),j<i+1→choB tr.l x.e.l g m t g.ch.l[j]=false:=fun e j hj hji=>by
  by_cases ej:j=i
  ·subst ej; exact e
  ·exact q2 j hj (by omega)
 have hr:choB tr.l x.e.l g m t g.ch.l[i]=true→choF tr.l x.e.l g m t=some g.ch.l[i]:=fun e=>by
  unfold choF
  rw [y0n]
  exact ⟨e,i,h,rfl,fun j hj=>by rw [q2 j (by omega) hj]; rfl⟩
 obtain ⟨d,hd⟩ : ∃ d,g.ch.l[i]=d:=⟨_,rfl⟩
 rw [hd] at hx hinv hr
 have hcs:=ztk4 (x:=tr) (g:=m) (d:=d) (ok.t m d)
 have hca:=zdxj (x:=x) (r:=⟨g.ns,g.im,d⟩) (ok.x _)
 have hrq:DV.str g.ns :: .str g.im::dgC d=rqC ⟨g.ns,g.im,d⟩:=rfl
 have hB:choB tr.l x.e.l g m t d=(!zvlr tr.l m d t&&alwB x.e.l ⟨g.ns,g.im,d⟩):=rfl
 obtain ⟨R,hR⟩ : ∃ R:Rqs,(⟨g.ns,g.im,d⟩:Rqs)=R:=⟨_,rfl⟩
 rw [hR] at hca hrq hB
 have hpr:zbao (rqC R)=true:=zhqv R
 have o2:oneC 2 true (xiC x)=some (.agg (xiC x)):=rfl
 have hW:zvlr tr.l m d t=(fOf (cmpT m d) tr.l&&decide (t<((tr.l[kOf (cmpT m d) tr.l]?).map Tri.af).getD 0)):=rfl
 obtain ⟨A,hA⟩ : ∃ A,alwB x.e.l R=A:=⟨_,rfl⟩
 rw [hA] at hca hB
 have hlx:(xiC x).length=2:=rfl
 obtain ⟨kk,hkk⟩ : ∃ kk,kOf (cmpT m d) tr.l=kk:=⟨_,rfl⟩
 have hfl:=fun h=>zsfp (c:=cmpT m d) (l:=tr.l) h
 rw [hkk] at hcs hW hfl
 have next : ∀ H,Weak 0 ⟨(zm3v (tr.dv 35 trC) (.int .i64 m) (.int .i64 t) (.mp 1 2 0) (.mp 2 32 0) (.mp 3 6 0) (g.ch.dv 32 dgC) (.int .i64 g.ch.l.length) (.int .i64 ((i:Int)+1)) H).t,H⟩ (zsoi c x tr g m t (i+1))→True:=fun _ _=>trivial
 clear next
 cases hf:fOf (cmpT m d) tr.l with
 | false =>
  rw [hf] at hcs hW
  have hW:zvlr tr.l m d t=false:=hW
  rw [hW] at hB
  cases A with
  | true =>
   rw [hr (by rw [hB]; rfl)]
   simp (disch:=first|omega|simp<;>omega|fail) [-zA,-zB,-zC,-zD,-zE,zyu0,zm3v,h,h',hx,h1d,z4hl,hsd,zey6,hcs,hpt,z1t1,hlx,o2,zry4,zn7v,zuiq,hrq,z2pp,hca,hpx,hpr,choD]
  | false =>
   have hinv:=hinv (by rw [hB]; rfl)
   simp (disch:=first|omega|simp<;>omega|fail) [-zA,-zB,-zC,-zD,-zE,zyu0,zm3v,h,h',hx,h1d,z4hl,hsd,zey6,hcs,hpt,z1t1,hlx,o2,zry4,zn7v,zuiq,hrq,z2pp,hca,hpx,hpr]
   exact ⟨i+1,zju2 (tail:=[.cells (dgC d)]) (by simp (disch:=first|omega|simp<;>omega|fail) [-zA,-zB,-zC,-zD,-zE,zsoi,zm3v]) (by simp (disch:=first|omega|simp<;>omega|fail) [-zA,-zB,-zC,-zD,-zE,zsoi,zm3v]) (y03 _) (by simp (disch:=first|omega|simp<;>omega|fail) [-zA,-zB,-zC,-zD,-zE,zsoi,zm3v,belowL,Am.below,z8b8 _ _ hpt,z8b8 _ _ (zpfc g.ch)]) (by simp (disch:=first|omega|simp<;>omega|fail) [-zA,-zB,-zC,-zD,-zE,zsoi,zm3v,zlf2,zmq5 _ _ (zy11 c),zmq5 _ _ hpx,zmq5 _ _ (z3ot dg0),zmq5 _ _ (zxeb g)]),by omega,by omega,fun j hj hji=>hinv j hj hji⟩
 | true =>
  obtain ⟨hkl,_⟩:=hfl hf
  have hti : ∀ H,zpsc H 35 (tr.dv 35 trC) kk=some (.ref (trC tr.l[kk])):=fun H=>zalo zezj hkl
  rw [hf,y04 hkl] at hW
  rw [hf] at hcs
  obtain ⟨u,hu⟩ : ∃ u,tr.l[kk]=u:=⟨_,rfl⟩
  rw [hu] at hti hW
  have hW:zvlr tr.l m d t=decide (t<u.af):=hW
  by_cases hlt:t<u.af
  ·rw [decide_eq_true hlt] at hW
   rw [hW] at hB
   have hinv:=hinv hB
   simp (disch:=first|omega|simp<;>omega|fail) [-zA,-zB,-zC,-zD,-zE,zyu0,zm3v,h,h',hx,h1d,z4hl,hsd,zey6,hcs,hpt,z1t1,hti,zobw,hlt]
   exact ⟨i+1,zju2 (tail:=[.cells (dgC d)]) (by simp (disch:=first|omega|simp<;>omega|fail) [-zA,-zB,-zC,-zD,-zE,zsoi,zm3v]) (by simp (disch:=first|omega|simp<;>omega|fail) [-zA,-zB,-zC,-zD,-zE,zsoi,zm3v]) (y03 _) (by simp (disch:=first|omega|simp<;>omega|fail) [-zA,-zB,-zC,-zD,-zE,zsoi,zm3v,belowL,Am.below,z8b8 _ _ hpt,z8b8 _ _ (zpfc g.ch)]) (by simp (disch:=first|omega|simp<;>omega|fail) [-zA,-zB,-zC,-zD,-zE,zsoi,zm3v,zlf2,zmq5 _ _ (zy11 c),zmq5 _ _ hpx,zmq5 _ _ (z3ot dg0),zmq5 _ _ (zxeb g)]),by omega,by omega,fun j hj hji=>hinv j hj hji⟩
  ·rw [decide_eq_false hlt] at hW
   rw [hW] at hB
   cases A with
   | true =>
    rw [hr (by rw [hB]; rfl)]
    simp (disch:=first|omega|simp<;>omega|fail) [-zA,-zB,-zC,-zD,-zE,zyu0,zm3v,h,h',hx,h1d,z4hl,hsd,zey6,hcs,hpt,z1t1,hti,zobw,hlt,hlx,o2,zry4,zn7v,zuiq,hrq,z2pp,hca,hpx,hpr,choD]
   | false =>
    have hinv:=hinv (by rw [hB]; rfl)
    simp (disch:=first|omega|simp<;>omega|fail) [-zA,-zB,-zC,-zD,-zE,zyu0,zm3v,h,h',hx,h1d,z4hl,hsd,zey6,hcs,hpt,z1t1,hti,zobw,hlt,hlx,o2,zry4,zn7v,zuiq,hrq,z2pp,hca,hpx,hpr]
    exact ⟨i+1,zju2 (tail:=[.cells (dgC d)]) (by simp (disch:=first|omega|simp<;>omega|fail) [-zA,-zB,-zC,-zD,-zE,zsoi,zm3v]) (by simp (disch:=first|omega|simp<;>omega|fail) [-zA,-zB,-zC,-zD,-zE,zsoi,zm3v]) (y03 _) (by simp (disch:=first|omega|simp<;>omega|fail) [-zA,-zB,-zC,-zD,-zE,zsoi,zm3v,belowL,Am.below,z8b8 _ _ hpt,z8b8 _ _ (zpfc g.ch)]) (by simp (disch:=first|omega|simp<;>omega|fail) [-zA,-zB,-zC,-zD,-zE,zsoi,zm3v,zlf2,zmq5 _ _ (zy11 c),zmq5 _ _ hpx,zmq5 _ _ (z3ot dg0),zmq5 _ _ (zxeb g)]),by omega,by omega,fun j hj hji=>hinv j hj hji⟩
end
section
set_option linter.unusedSimpArgs false
set_option linter.unusedVariables false
set_option maxRecDepth 20000
open Go Go.Am
structure EFX (F:EF) (x:Idx) (tr:Sl Tri):Prop where
 h0:F.x0 = .int .i64 x.at_
 h1:F.x1=x.e.dv 105 ixC
 hT:F.T=tr.dv 35 trC
 ok:ChOK x tr
noncomputable def zusy (tr:List Tri) (ix:List Ixe) (t:Int) (k:Int) (s:Rnd):Bool × Rnd:=match choC tr ix s.c k t with
 | none=>(false,s)
 | some d=>if (z4wu s.c k d t).2.2=0 then (true,⟨(z4wu s.c k d t).1,s.o++[⟨1,(z4wu s.c k d t).2.1,d⟩]⟩) else (false,s)
noncomputable def cCho:List DV→Option DV:=con (fun a:Clu × Idx × Sl Tri × Int × Int=>ChOK a.2.1 a.2.2.1) (fun a=>[.agg (clC a.1),.agg (xiC a.2.1),a.2.2.1.dv 35 trC,.int .i64 a.2.2.2.1,.int .i64 a.2.2.2.2]) (fun a=>choD (choC a.2.2.1.l a.2.1.e.l a.1 a.2.2.2.1 a.2.2.2.2))
theorem zfp2 {c:Clu} {x:Idx} {tr:Sl Tri} {k t:Int} (h:ChOK x tr):cCho [.agg (clC c),.agg (xiC x),tr.dv 35 trC,.int .i64 k,.int .i64 t]=some (choD (choC tr.l x.e.l c k t)) :=
 zzno (A:=fun a:Clu × Idx × Sl Tri × Int × Int=>ChOK a.2.1 a.2.2.1) (f:=fun a=>[.agg (clC a.1),.agg (xiC a.2.1),a.2.2.1.dv 35 trC,.int .i64 a.2.2.2.1,.int .i64 a.2.2.2.2]) (g:=fun a=>choD (choC a.2.2.1.l a.2.1.e.l a.1 a.2.2.2.1 a.2.2.2.2)) (by
  rintro ⟨a1,a2,a3,a4,a5⟩ ⟨b1,b2,b3,b4,b5⟩ e
  simp only [List.cons.injEq,DV.agg.injEq,DV.int.injEq,and_true,true_and] at e
  rw [zh7t e.1,zt7p e.2.1,z47i e.2.2.1,e.2.2.2.1,e.2.2.2.2]) (c,x,tr,k,t) h
theorem zq37:(Con.pure cCho).Sound P 23:=z2au fun a h=>zljw mix zhax Tryz.func23 ztyx (z41w a.1 a.2.1 a.2.2.1 a.2.2.2.1 a.2.2.2.2 h)
noncomputable def z4mb:Tbl:=addT 23 (.pure cCho) (addT 125 (.pure (cSta z4xq)) tbl0)
theorem zxpn:z4mb 23 = .pure cCho:=by simp [z4mb]
theorem z4by:z4mb 125 = .pure (cSta z4xq):=by simp [z4mb]
theorem zzgv:z4mb.Sound P:=z0rp zq37 (z0rp (z2au fun p _=>zljw mix zw51 Tryz.func125 zdaz (z1bv p.1 p.2.1 p.2.2.1 p.2.2.2)) zr5o)
theorem z2ip (F:EF) (x:Idx) (tr:Sl Tri) (hF:EFX F x tr) (s:Rnd) (k:Int) (hb:s.o.length≤100000):zwy1 P 90 [.mp F.b 8 0,.int .i64 k] (F.H s) (fun d h=>d = .bool (zusy tr.l x.e.l F.t k s).1∧h=F.H (zusy tr.l x.e.l F.t k s).2):=by
 refine zrqk Tryz.func90 z9pi ?_
 have hO : ∀ X,objV (F.H s++X) F.b 8=some (F.rd s.c (oV (F.b+1) 34 s.o)):=fun X=>EF.obj
 have hO0:objV (F.H s) F.b 8=some (F.rd s.c (oV (F.b+1) 34 s.o)):=EF.obj0
 have hbl:=F.below s (y01 _)
 have hlt:F.b<(F.H s).length:=EF.len
 have hX:DV.agg [F.x0,F.x1] = .agg (xiC x):=by rw [hF.h0,hF.h1]; rfl
 have o5:oneC 1 false ((F.rd s.c (oV (F.b+1) 34 s.o)).drop 5)=some (tr.dv 35 trC):=by rw [← hF.hT]; rfl
 have oX:oneC 2 true ((F.rd s.c (oV (F.b+1) 34 s.o)).drop 3)=some (.agg (xiC x)):=by rw [EF.oneX,hX]
 have hc:=zfp2 (c:=s.c) (k:=k) (t:=F.t) hF.ok
 have hpx:zbao (xiC x)=true:=zqx0 x
 have hpt:=zm7q tr
 have hst:zusy tr.l x.e.l F.t k s=match choC tr.l x.e.l s.c k F.t with
  | none=>(false,s)
  | some d=>if (z4wu s.c k d F.t).2.2=0 then (true,⟨(z4wu s.c k d F.t).1,s.o++[⟨1,(z4wu s.c k d F.t).2.1,d⟩]⟩) else (false,s):=rfl
 have hsd : ∀ (h:List AObj) (id:Nat) (d e:Dg),zy6o h id 32 0 (.agg (dgC d)) (some (dgC e))=some (.junk,h.set id (.cells (dgC d))):=fun h id d e=>zfc1 (z1t1 _) (z1t1 _) (by simp [dgC,zzst])
 have h1d : ∀ d,oneC 32 true (dgC d)=some (.agg (dgC d)):=fun d=>by simp [oneC,z1t1,y00]
 have e1 : ∀ h,mk1 (kLt (F.H s).length) h (.mp F.b 8 0) = .mp F.b 8 0:=fun h=>zd3c (by simp only [Am.below,decide_eq_true_eq]; exact hlt)
 have e2 : ∀ h d,mk1 (kLt (F.H s).length) h (.ref (dgC d)) = .ref (dgC d):=fun h d=>zvft (by simp only [zyp8,z3ot])
 obtain ⟨o,ho⟩ : ∃ o,choC tr.l x.e.l s.c k F.t=o:=⟨_,rfl⟩
 rw [ho] at hc hst
 have ec:=fun d:Dg=>zz5t (H:=F.H s) (cs:=dgC d) (off:=0) (z3ot d)
 refine zbn1 (V_W mix zr5o ?_)
 simp (disch:=first|omega|simp<;>omega|fail) [-zA,-zB,-zC,-zD,-zE,a90]
 cases o with
 | none =>
  have hc:cCho [.agg (clC s.c),.agg (xiC x),tr.dv 35 trC,.int .i64 k,.int .i64 F.t]=some (.tup [.agg (dgC dg0),.bool false]):=hc
  have hst:zusy tr.l x.e.l F.t k s=(false,s):=hst
  rw [hst]
  refine zbn1 (V_W mix zzgv ?_)
  simp (disch:=first|omega|simp<;>omega|fail) [-zA,-zB,-zC,-zD,-zE,hO0,EF.one3,oX,o5,EF.one6,zxpn,hc,zy11,hpx,hpt,z4hl,hsd]
  refine zs10 (n0:=(F.H s).length) (H:=F.H s) (cs:=dgC dg0) (t':=[.mp F.b 8 0,.int .i64 k,.junk,.junk,.junk,.ref (dgC dg0),.bool false]++js 59) hbl (y01 _) ?_ (by simp (disch:=first|omega|simp<;>omega|fail) [-zA,-zB,-zC,-zD,-zE,belowL,Am.below,hlt,zmq5 _ _ (z3ot dg0)]) ?_
  ·have ec:=ec dg0
   rw [z1t1,y05] at ec
   simp (disch:=first|omega|simp<;>omega|fail) [-zA,-zB,-zC,-zD,-zE,ec,e1,-z1bt,-zdpe]
  refine zbn1 (V_W mix zr5o ?_)
  simp (disch:=first|omega|simp<;>omega|fail) [-zA,-zB,-zC,-zD,-zE]
 | some d =>
  have hc:cCho [.agg (clC s.c),.agg (xiC x),tr.dv 35 trC,.int .i64 k,.int .i64 F.t]=some (.tup [.agg (dgC d),.bool true]):=hc
  have hst:zusy tr.l x.e.l F.t k s=if (z4wu s.c k d F.t).2.2=0 then (true,⟨(z4wu s.c k d F.t).1,s.o++[⟨1,(z4wu s.c k d F.t).2.1,d⟩]⟩) else (false,s):=hst
  have hs2:=zx1h (f:=z4xq) (c:=s.c) (g:=k) (t:=F.t) (d:=d)
  have hs2:cSta z4xq [.agg (clC s.c),.int .i64 k,.agg (dgC d),.int .i64 F.t]=some (.tup [.agg (clC (z4wu s.c k d F.t).1),.int .i64 (z4wu s.c k d F.t).2.1,.int .i64 (z4wu s.c k d F.t).2.2]):=hs2
  obtain ⟨c',hc'⟩ : ∃ c',(z4wu s.c k d F.t).1=c':=⟨_,rfl⟩
  obtain ⟨id,hid⟩ : ∃ id,(z4wu s.c k d F.t).2.1=id:=⟨_,rfl⟩
  obtain ⟨e,he⟩ : ∃ e,(z4wu s.c k d F.t).2.2=e:=⟨_,rfl⟩
  rw [hc',hid,he] at hst hs2
  refine zbn1 (V_W mix zzgv ?_)
  simp (disch:=first|omega|simp<;>omega|fail) [-zA,-zB,-zC,-zD,-zE,hO0,EF.one3,oX,o5,EF.one6,zxpn,hc,zy11,hpx,hpt,z4hl,hsd]
  refine zs10 (n0:=(F.H s).length) (H:=F.H s) (cs:=dgC d) (t':=[.mp F.b 8 0,.int .i64 k,.junk,.junk,.junk,.ref (dgC d),.bool true]++js 59) hbl (y01 _) ?_ (by simp (disch:=first|omega|simp<;>omega|fail) [-zA,-zB,-zC,-zD,-zE,belowL,Am.below,hlt,zmq5 _ _ (z3ot d)]) ?_
  ·have ec:=ec d
   rw [z1t1,y05] at ec
   simp (disch:=first|omega|simp<;>omega|fail) [-zA,-zB,-zC,-zD,-zE,ec,e1,-z1bt,-zdpe]
  have hs0 : ∀ (h:List AObj) (id:Nat),zy6o h id 3 0 (.agg (clC c')) (some [.nils,.nils,.int .i64 0])=some (.junk,h.set id (.cells (clC c'))):=fun h id=>zfc1 rfl rfl (by simp [clC,z4ja])
  have ecl:=zz5t (H:=F.H s) (cs:=clC c') (off:=0) (zy11 c')
  refine zbn1 (V_W mix zr5o ?_)
  simp (disch:=first|omega|simp<;>omega|fail) [-zA,-zB,-zC,-zD,-zE]
  refine zbn1 (V_W mix zzgv ?_)
  simp (disch:=first|omega|simp<;>omega|fail) [-zA,-zB,-zC,-zD,-zE,hO0,EF.one3,EF.one6,h1d,z4by,hs2,zy11,z3ot,hs0]
  refine zs10 (n0:=(F.H s).length) (H:=F.H s) (cs:=clC c') (t':=[.mp F.b 8 0,.int .i64 k,.junk,.junk,.junk,.ref (dgC d),.junk,.ref (clC c'),.int .i64 id,.int .i64 e]++js 56) hbl (y01 _) ?_ (by simp (disch:=first|omega|simp<;>omega|fail) [-zA,-zB,-zC,-zD,-zE,belowL,Am.below,hlt,zmq5 _ _ (z3ot d),zmq5 _ _ (zy11 c')]) ?_
  ·rw [zlha,y05] at ecl
   simp (disch:=first|omega|simp<;>omega|fail) [-zA,-zB,-zC,-zD,-zE,ecl,e1,e2,-z1bt,-zdpe]
  refine zbn1 (V_W mix zr5o ?_)
  by_cases h0:e=0
  case neg =>
   rw [if_neg h0] at hst
   rw [hst]
   simp (disch:=first|omega|simp<;>omega|fail) [-zA,-zB,-zC,-zD,-zE,h0]
  subst h0
  rw [if_pos rfl] at hst
  rw [hst]
  obtain ⟨C,hC⟩ : ∃ C:Cmd,(⟨1,id,d⟩:Cmd)=C:=⟨_,rfl⟩
  have hrw:DV.int .i64 1 :: .int .i64 id::dgC d=cmC C:=by rw [← hC]; rfl
  have hbc:=fun z (hz:z.length=34)=>z3dx (z:=z) (a:=1) (b:=id) (d:=d) hz
  rw [hC] at hbc
  rw [hC]
  have hap:=EF.app (F:=F) (c:=c') (q:=oV (F.b+1) 34 s.o) (o:=s.o) (x:=C) (by omega)
  have hoc:=zy42 (k:=F.b+1) (K:=34) (l:=s.o++[C])
  have hoo:=z6jg (k:=F.b+1) (K:=34) (l:=s.o++[C])
  have hHG:F.H s=F.G s.c (oV (F.b+1) 34 s.o) s.o:=rfl
  have hHn:F.H ⟨c',s.o++[C]⟩=F.G c' (oV (F.b+1) 34 (s.o++[C])) (s.o++[C]):=rfl
  have hO1:objV (F.G c' (oV (F.b+1) 34 s.o) s.o) F.b 8=some (F.rd c' (oV (F.b+1) 34 s.o)):=EF.obj0
  have hO2:objV (F.G s.c (oV (F.b+1) 34 s.o) s.o) F.b 8=some (F.rd s.c (oV (F.b+1) 34 s.o)):=EF.obj0
  have hO3:objV (F.G c' (oV (F.b+1) 34 s.o) (s.o++[C])) F.b 8=some (F.rd c' (oV (F.b+1) 34 s.o)):=EF.obj0
  obtain ⟨N,hN⟩ : ∃ N,(F.H s).length=N:=⟨_,rfl⟩
  rw [hN,hHG,hHn]
  simp (disch:=first|omega|simp<;>omega|fail) [-zA,-zB,-zC,-zD,-zE]
  refine zbn1 (V_W mix zr5o ?_)
  simp (disch:=first|omega|simp<;>omega|fail) [-zA,-zB,-zC,-zD,-zE,hO2,zei9,EF.st0,EF.set]
  refine zbn1 (V_W mix zr5o ?_)
  simp (disch:=first|omega|simp<;>omega|fail) [-zA,-zB,-zC,-zD,-zE,hO1,EF.one7,h1d,hbc,hrw,zz6m,hap,hO3,EF.st7 hoc hoo,EF.set]
  refine zbn1 (V_W mix zr5o ?_)
  simp (disch:=first|omega|simp<;>omega|fail) [-zA,-zB,-zC,-zD,-zE]
  refine V_W mix zr5o ?_
  simp (disch:=first|omega|simp<;>omega|fail) [-zA,-zB,-zC,-zD,-zE,a90]
end
section
set_option linter.unusedSimpArgs false
set_option linter.unusedVariables false
set_option maxRecDepth 20000
open Go Go.Am
def liS (l:List Int):Sl Int:=if h:l≠[]∧l.length≤4294967296 then ⟨some false,l,by simp,h.2⟩ else ⟨none,[],fun _=>rfl,by simp⟩
theorem z4lf {l:List Int} (h:l.length≤4294967296):(liS l).l=l:=by
 unfold liS
 by_cases e:l=[]
 ·subst e; simp
 ·rw [dif_pos ⟨e,h⟩]
theorem z6tb {l:List Int} (h:l.length≤4294967296):(liS l).dv 1 inI=liV l:=by
 unfold liS
 by_cases e:l=[]
 ·subst e; simp [Sl.dv,slD,liV]
 ·rw [dif_pos ⟨e,h⟩,zefw e]; rfl
theorem zzaj {c:Clu} {k t:Int} {d:Dg} (h:(z4wu c k d t).2.2=0):(z4wu c k d t).1=⟨c.clone.g,own (c.i.l++[newI c k d t]),c.next+1⟩∧(z4wu c k d t).2.1=c.next∧c.i.l.length<200:=by
 unfold z4wu at h ⊢
 split at h
 ·simp at h
 ·rename_i h1
  rw [if_neg h1]
  split at h
  ·simp at h
  ·rename_i h2
   rw [if_neg h2]
   split at h
   ·simp at h
   ·rename_i h3
    rw [if_neg h3]
    exact ⟨rfl,rfl,by omega⟩
theorem zbq8 {c:Clu} {k:Int}:grAt c.clone k=(grAt c k).map Grp.clone:=by
 unfold grAt
 split
 ·show (c.g.l.map Grp.clone)[k.toNat]? = _
  rw [List.getElem?_map]
 ·rfl
theorem zu5r {tr:List Tri} {ix:List Ixe} {t k:Int} {s:Rnd} (h:(zusy tr ix t k s).1=true):(znqs (zusy tr ix t k s).2.c k).length=(znqs s.c k).length+1∧(zusy tr ix t k s).2.o.length=s.o.length+1∧(zusy tr ix t k s).2.o≠[]∧(zusy tr ix t k s).2.c.i.l.length=s.c.i.l.length+1:=by
 cases hc:choC tr ix s.c k t with
 | none=>unfold zusy at h; rw [hc] at h; simp at h
 | some d =>
  have hs:zusy tr ix t k s=if (z4wu s.c k d t).2.2=0 then (true,⟨(z4wu s.c k d t).1,s.o++[⟨1,(z4wu s.c k d t).2.1,d⟩]⟩) else (false,s):=by unfold zusy; rw [hc]
  by_cases h0:(z4wu s.c k d t).2.2=0
  ·rw [if_pos h0] at hs
   rw [hs]
   obtain ⟨e1,e2,e3⟩:=zzaj h0
   have hol:(own (s.c.i.l++[newI s.c k d t])).l=s.c.i.l++[newI s.c k d t]:=z3e9 (by simp; omega)
   refine ⟨?_,by simp,by simp,by simp only [e1]; rw [hol]; simp⟩
   simp only [e1]
   cases hg:grAt s.c k with
   | none=>unfold choC at hc; rw [hg] at hc; simp at hc
   | some g =>
    have hm:d ∈ g.ch.l:=by
     unfold choC at hc
     rw [hg] at hc
     exact List.mem_of_find?_eq_some hc
    have hg2:grAt ⟨s.c.clone.g,own (s.c.i.l++[newI s.c k d t]),s.c.next+1⟩ k=some g.clone:=by
     have:=zbq8 (c:=s.c) (k:=k)
     rw [hg] at this; exact this
    unfold znqs idsP
    rw [hg2,hg]
    simp only [hol,y0i]
    have e:z9qu g.clone=z9qu g:=rfl
    rw [e]
    unfold selL
    rw [List.filter_append,y08]
    have hn:(decide ((newI s.c k d t).grp=k)&&z9qu g (newI s.c k d t))=true:=by
     simp [newI,z9qu,chos,hm]
    simp [List.filter_cons,hn]
  ·rw [if_neg h0] at hs; rw [hs] at h; simp at h
noncomputable def zinu (tr:List Tri) (ix:List Ixe) (t k want:Int):Nat→Rnd→Rnd
 | 0,s=>s
 | m+1,s=>if (zusy tr ix t k s).1=true then zinu tr ix t k want m (zusy tr ix t k s).2 else s
noncomputable def filS (tr:List Tri) (ix:List Ixe) (t k want:Int) (s:Rnd):Rnd:=zinu tr ix t k want (want-(znqs s.c k).length).toNat s
noncomputable def grS1 (t k:Int) (s:Rnd):Rnd:=(stgL k (znqs s.c k) false s.c.i.l).foldl (zyao t) s
noncomputable def grS2 (t k want:Int) (s:Rnd):Rnd:=((stgL k (znqs s.c k) true s.c.i.l).reverse.take ((znqs s.c k).length-want).toNat).foldl (zyao t) s
noncomputable def grS3 (t k:Int) (s:Rnd):Rnd:=((zu3j s.c k).take (z17v s.c k).toNat).foldl (zyao t) s
noncomputable def grpS (tr:List Tri) (ix:List Ixe) (t k want:Int) (s:Rnd):Rnd:=filS tr ix t k want (grS3 t k (grS2 t k want (grS1 t k s)))
end
section
set_option linter.unusedSimpArgs false
set_option linter.unusedVariables false
set_option maxRecDepth 20000
open Go Go.Am
theorem exTH {k:Nat} {a0:List DV} {h0:List AObj} {r:DV} {h1:List AObj} {T:Tbl} (hs:T.Sound P) (hc:zwy1 P k a0 h0 (fun d h=>d=r∧h=h1)) :
  ∃ (T':Tbl) (f:List DV→List AObj→Option (DV × List AObj)),T'.Sound P∧T' k = .heap f∧f a0 h0=some (r,h1) ∧ ∀ j,j≠k→T' j=T j :=
 ⟨addT k (.heap (ptH a0 h0 r h1)) T,ptH a0 h0 r h1,z0rp (zdmv hc) hs,by simp [addT],zpvh,fun j hj=>by simp [addT,hj]⟩
theorem zn83 {k:Nat} {L:List Int}:oV k 1 L.reverse=oV k 1 L:=by unfold oV; simp
theorem zgpy {k:Nat} {L:List Int}:oV k 1 L=srtV k L:=by unfold oV srtV; simp
theorem zssq {H:List AObj} {L:List Int}:H++oT inI L=srtH H L:=by
 by_cases e:L=[]
 ·subst e; rw [zkrk,zwug,y0m]
 ·rw [zu2l e,zzyq e]
  have:fl inI L=L.map (.int .i64):=by
   unfold fl
   clear e
   induction L with
   | nil=>rfl
   | cons a l ih=>rw [List.flatMap_cons,ih]; rfl
  rw [this]
theorem z69x {H:List AObj} {L:List Int} (h:L.length≤1000000):cRev [oV H.length 1 L] (H++oT inI L)=some (.tup [],H++oT inI L.reverse):=by
 rw [zgpy,zssq,zssq]; exact zdxu h
theorem z793 {L:List Int} {m:Nat} (hL:L.length≤4294967296) (hm:m≤L.length) : ∃ Y:Sl Int,Y.l=L.take m ∧ ∀ H,z390 H 1 (liV L) none (some (.int .i64 m)) none=some (Y.dv 1 inI):=by
 have hl:=z4lf hL
 refine ⟨(liS L).part 0 m (m == (liS L).l.length),by simp [Sl.part,hl],fun H => ?_⟩
 rw [← z6tb hL]
 exact z0ke zg97 (by simp [zo77,iD,hl]; omega) (by rw [hl]; exact hm)
theorem z158 {l:List Ins} {i:Nat} {a t:Int}:(setI l i a t).length=l.length:=by unfold setI; split<;>simp
theorem zqg6 {t:Int} {s:Rnd} {id:Int}:(zyao t s id).c.i.l.length=s.c.i.l.length:=by
 unfold zyao
 split
 ·rename_i h
  show (z5wo s.c id t 3).1.i.l.length=_
  unfold z5wo at h ⊢
  by_cases h1:¬ ValidC s.c∨¬ zcie t
  ·rw [if_pos h1] at h; simp at h
  rw [if_neg h1] at h ⊢
  by_cases h2:z092 s.c.i.l id<0
  ·rw [if_pos h2] at h; simp at h
  rw [if_neg h2] at h ⊢
  split at h
  ·rename_i h3
   rw [if_pos h3]
   show (own _).l.length=_
   rw [z3e9 (by rw [z158]; exact s.c.i.b),z158]
  ·simp at h
 ·rfl
theorem zaui {t:Int} : ∀ {V:List Int} {s:Rnd},(V.foldl (zyao t) s).c.i.l.length=s.c.i.l.length
 | [],s=>rfl
 | a::V,s=>by rw [List.foldl_cons,zaui,zqg6]
theorem zqw0 {c:Clu} {k:Int} {sel:Grp→Ins→Bool}:(idsP c k sel).length≤c.i.l.length:=by
 unfold idsP
 split
 ·rw [y0i]; exact y0l _ _
 ·simp
theorem z9e8 {c:Clu} {k:Int}:(zu3j c k).length≤3*c.i.l.length:=by
 unfold zu3j
 split
 ·simp only [y08,zmgd,y07,y0x]
  have h1:=zqw0 (c:=c) (k:=k) (sel:=sDen)
  have h2:=zqw0 (c:=c) (k:=k) (sel:=sRep)
  have h3:=zqw0 (c:=c) (k:=k) (sel:=z7e4)
  omega
 ·simp
theorem zy09 {c:Clu} {k:Int}:0≤z17v c k:=by
 unfold z17v
 split
 ·omega
 ·exact Int.le_refl _
theorem z6vl {tr:List Tri} {ix:List Ixe} {t k want:Int} {s:Rnd} (h:want≤(znqs s.c k).length):filS tr ix t k want s=s:=by
 unfold filS
 rw [show (want-((znqs s.c k).length:Int)).toNat=0 by omega]; rfl
theorem z1ss {tr:List Tri} {ix:List Ixe} {t k want:Int} {s:Rnd} (h:(zusy tr ix t k s).1=false):filS tr ix t k want s=s:=by
 unfold filS
 cases (want-((znqs s.c k).length:Int)).toNat with
 | zero=>rfl
 | succ m=>unfold zinu; rw [h]; rfl
theorem znf4 {tr:List Tri} {ix:List Ixe} {t k want:Int} {s:Rnd} (h:((znqs s.c k).length:Int)<want) (h1:(zusy tr ix t k s).1=true):filS tr ix t k want s=filS tr ix t k want (zusy tr ix t k s).2:=by
 have hg:=(zu5r h1).1
 unfold filS
 rw [hg]
 obtain ⟨m,hm⟩ : ∃ m,(want-((znqs s.c k).length:Int)).toNat=m+1:=⟨(want-((znqs s.c k).length:Int)).toNat-1,by omega⟩
 rw [hm,show (want-(((znqs s.c k).length+1:Nat):Int)).toNat=m by omega]
 show (if _ then _ else _)=_
 rw [if_pos h1]
theorem z0v2 {tr:List Tri} {ix:List Ixe} {t k:Int} {s:Rnd} (h:(zusy tr ix t k s).1=false):(zusy tr ix t k s).2=s:=by
 unfold zusy at h ⊢
 split
 ·rfl
 ·rename_i d e
  rw [e] at h
  simp only at h
  split at h
  ·simp at h
  ·rename_i h2; rw [if_neg h2]
structure GrOK (t:Int) (s:Rnd) (k:Nat) (want:Int):Prop where
 hk:k<s.c.g.l.length
 hw:s.c.g.l[k].want=want
 w0 : -1000000000≤want
 w1:want≤10000
 hi:s.c.i.l.length≤200
 ho:s.o.length≤20000
 hv:VicOK (grS2 t k want (grS1 t k s)).c
noncomputable def z39d:Tbl:=addT 87 (.pure (cCk z3tq)) tbl0
theorem zqsr:z39d 87 = .pure (cCk z3tq):=by simp [z39d]
theorem zdot:z39d.Sound P:=z0rp zjal zr5o
noncomputable def zaov:Tbl:=addT 88 (.pure (cCkA VicOK vicD)) tbl0
theorem zbsp:zaov 88 = .pure (cCkA VicOK vicD):=by simp [zaov]
theorem za74:zaov.Sound P:=z0rp zaz7 zr5o
noncomputable def zxgy:Tbl:=addT 89 (.pure (cCkA LimC zc12)) tbl0
theorem zfpb:zxgy 89 = .pure (cCkA LimC zc12):=by simp [zxgy]
theorem zbqs:zxgy.Sound P:=z0rp ztkb zr5o
noncomputable def zfxy:Tbl:=addT 86 (.heap cRev) tbl0
theorem zyyi:zfxy 86 = .heap cRev:=by simp [zfxy]
theorem zf00:zfxy.Sound P:=z0rp zx90 zr5o
theorem zurr (F:EF) (L:List Int) (s:Rnd) (hL:L.length≤1000) (hb:s.o.length≤90000):zwy1 P 53 [.mp F.b 8 0,liV L] (F.H s) (fun d h=>d = .tup []∧h=F.H (L.foldl (zyao F.t) s)):=by
 have e:=z4lf (l:=L) (by omega)
 have:=z39y F (liS L) s (by rw [e]; omega)
 rw [e,z6tb (by omega)] at this
 exact this
def zjwe (F:EF) (k:Nat) (want:Int) (s:Rnd):St:=zh8t (.mp F.b 8 0) (.int .i64 k) (.int .i64 want) (F.H s)
theorem zyoa (F:EF) (x:Idx) (tr:Sl Tri) (hF:EFX F x tr) (s:Rnd) (k:Nat) (want:Int) (q:GrOK F.t s k want):zwy1 P 55 [.mp F.b 8 0,.int .i64 k] (F.H s) (fun d h=>d = .tup []∧h=F.H (grpS tr.l x.e.l F.t k want s)):=by
 refine zrqk Tryz.func55 ze8s ?_
 obtain ⟨hk,hw,w0,w1,hi,ho,hv⟩:=q
 have hO0 : ∀ s,objV (F.H s) F.b 8=some (F.rd s.c (oV (F.b+1) 34 s.o)):=fun s=>EF.obj0
 have hG:=fun H=>zalo (x:=s.c.g) (h:=H) zry4 hk
 obtain ⟨G,hGe⟩ : ∃ G,s.c.g.l[k]=G:=⟨_,rfl⟩
 rw [hGe] at hG hw
 have hst1:=zaos F s k false (by omega)
 have hgr:grpS tr.l x.e.l F.t k want s=filS tr.l x.e.l F.t k want (grS3 F.t k (grS2 F.t k want (grS1 F.t k s))):=rfl
 have hS1:grS1 F.t k s=(stgL k (znqs s.c k) false s.c.i.l).foldl (zyao F.t) s:=rfl
 have l1:=zt4h (k:=k) (G:=znqs s.c k) (b:=false) (l:=s.c.i.l)
 obtain ⟨L1,hL1⟩ : ∃ L1,stgL k (znqs s.c k) false s.c.i.l=L1:=⟨_,rfl⟩
 rw [hL1] at hst1 hS1 l1
 have hp1:=zurr F L1 s (by omega) (by omega)
 have i1:=zaui (t:=F.t) (V:=L1) (s:=s)
 have o1:=zcsc F.t L1 s
 have z1:=F.hle (s:=s) (s1:=L1.foldl (zyao F.t) s) (zwy8 F.t L1 s)
 obtain ⟨s1,hs1⟩ : ∃ s1,L1.foldl (zyao F.t) s=s1:=⟨_,rfl⟩
 rw [hs1] at hp1 hS1 i1 o1 z1
 rw [hS1] at hgr hv
 obtain ⟨TA,fA,sA,a1,a2,a3⟩:=exTH zr5o hst1
 obtain ⟨TB,fB,sB,b1,b2,b3⟩:=exTH sA hp1
 have b4:=b3 85 (by decide)
 rw [a1] at b4
 refine zbn1 (V_W mix zr5o ?_)
 simp (disch:=first|omega|simp<;>omega|fail) [-zA,-zB,-zC,-zD,-zE,a55,hO0,EF.one0,hG,grC,hw]
 refine zbn1 (V_W mix sB ?_)
 simp (disch:=first|omega|simp<;>omega|fail) [-zA,-zB,-zC,-zD,-zE,b4,a2,b1,b2]
 have hst2:=z7b5 F s1 k true (by omega)
 have hS2:grS2 F.t k want s1=((stgL k (znqs s1.c k) true s1.c.i.l).reverse.take ((znqs s1.c k).length-want).toNat).foldl (zyao F.t) s1:=rfl
 have l2:=zt4h (k:=k) (G:=znqs s1.c k) (b:=true) (l:=s1.c.i.l)
 obtain ⟨L2,hL2⟩ : ∃ L2,stgL k (znqs s1.c k) true s1.c.i.l=L2:=⟨_,rfl⟩
 rw [hL2] at hst2 hS2 l2
 obtain ⟨TC,fC,sC,c1,c2,c3⟩:=exTH zr5o hst2
 refine zbn1 (V_W mix sC ?_)
 simp (disch:=first|omega|simp<;>omega|fail) [-zA,-zB,-zC,-zD,-zE,c1,c2]
 have hrv:=z69x (H:=F.H s1) (L:=L2) (by omega)
 have hbl:=F.below s1 (y01 _)
 have hlt:F.b<(F.H s1).length:=EF.len
 have hmk:=zxjm (H:=F.H s1) (L:=L2.reverse)
 rw [zn83] at hmk
 have l2r:L2.reverse.length=L2.length:=y0x
 obtain ⟨R,hR⟩ : ∃ R,L2.reverse=R:=⟨_,rfl⟩
 rw [hR] at hrv hmk hS2 l2r
 refine zbn1 (V_W mix zf00 ?_)
 simp (disch:=first|omega|simp<;>omega|fail) [-zA,-zB,-zC,-zD,-zE,zyyi,hrv]
 have e1 : ∀ h,mk1 (kLt (F.H s1).length) h (.mp F.b 8 0) = .mp F.b 8 0:=fun h=>zd3c (by simp only [Am.below,decide_eq_true_eq]; exact hlt)
 refine z0em (n0:=(F.H s).length) (H:=F.H s1) (t':=[.mp F.b 8 0,.int .i64 k,.junk,.junk,.int .i64 want,liV R]++js 71) hbl z1 ?_ (by simp (disch:=first|omega|simp<;>omega|fail) [-zA,-zB,-zC,-zD,-zE,belowL,Am.below,hlt,z8b8 _ _ (z4yh R)]) ?_
 ·simp (disch:=first|omega|simp<;>omega|fail) [-zA,-zB,-zC,-zD,-zE,hmk,e1,-z1bt,-zdpe]
 have hgd:=ztaz (f:=z3tq) (c:=s1.c) (k:=k)
 have hgdd:z3tq s1.c k=liV (znqs s1.c k):=rfl
 rw [hgdd] at hgd
 have gl:=z7in (c:=s1.c) (k:=k)
 obtain ⟨GL,hGL⟩ : ∃ GL,znqs s1.c k=GL:=⟨_,rfl⟩
 rw [hGL] at hgd gl hS2
 obtain ⟨M,hM⟩ : ∃ M,max ((GL.length:Int)-want) 0=M:=⟨_,rfl⟩
 have hM0:(GL.length-want).toNat=M.toNat:=by omega
 have hMr:0≤M∧M≤2000000000:=by omega
 rw [hM0] at hS2
 refine zbn1 (V_W mix zdot ?_)
 simp (disch:=first|omega|simp<;>omega|fail) [-zA,-zB,-zC,-zD,-zE,hO0,EF.one3,zqsr,hgd,zy11,zo8b,zluv,zaqi,hM]
 obtain ⟨m,hm⟩ : ∃ m,min M.toNat R.length=m:=⟨_,rfl⟩
 have hmi:min M (R.length:Int)=(m:Int):=by omega
 obtain ⟨Y,hY,hsl⟩:=z793 (L:=R) (m:=m) (by omega) (by omega)
 have hYt:R.take M.toNat=Y.l:=by rw [hY,← hm,y0t]; omega
 have hYl:Y.l.length≤200:=by rw [hY,y07]; omega
 rw [hYt] at hS2
 have hp2:=z39y F Y s1 (by omega)
 have i2:=zaui (t:=F.t) (V:=Y.l) (s:=s1)
 have o2:=zcsc F.t Y.l s1
 have z2:=F.hle (s:=s1) (s1:=Y.l.foldl (zyao F.t) s1) (zwy8 F.t Y.l s1)
 rw [← hS2] at hp2 i2 o2 z2
 obtain ⟨s2,hs2⟩ : ∃ s2,grS2 F.t k want s1=s2:=⟨_,rfl⟩
 rw [hs2] at hp2 i2 o2 z2 hgr hv
 obtain ⟨TD,fD,sD,d1,d2,d3⟩:=exTH zr5o hp2
 refine zbn1 (V_W mix sD ?_)
 simp (disch:=first|omega|simp<;>omega|fail) [-zA,-zB,-zC,-zD,-zE,zo8b,zluv,zy6n,hmi,hsl,d1,d2]
 have hvd:=ztpi (A:=VicOK) (f:=vicD) (c:=s2.c) (k:=k) hv
 have hvdd:vicD s2.c k=liV (zu3j s2.c k):=rfl
 rw [hvdd] at hvd
 have hrd:=ztpi (A:=LimC) (f:=zc12) (c:=s2.c) (k:=k) hv.2
 have hrdd:zc12 s2.c k = .int .i64 (z17v s2.c k):=rfl
 rw [hrdd] at hrd
 have hS3:grS3 F.t k s2=((zu3j s2.c k).take (z17v s2.c k).toNat).foldl (zyao F.t) s2:=rfl
 have vl:=z9e8 (c:=s2.c) (k:=k)
 have rg:=zy09 (c:=s2.c) (k:=k)
 obtain ⟨V,hV⟩ : ∃ V,zu3j s2.c k=V:=⟨_,rfl⟩
 obtain ⟨RM,hRM⟩ : ∃ RM,z17v s2.c k=RM:=⟨_,rfl⟩
 rw [hV] at hvd hS3 vl
 rw [hRM] at hrd hS3 rg
 refine zbn1 (V_W mix za74 ?_)
 simp (disch:=first|omega|simp<;>omega|fail) [-zA,-zB,-zC,-zD,-zE,hO0,EF.one3,zbsp,hvd,zy11]
 obtain ⟨j,hj⟩ : ∃ j,min RM.toNat V.length=j:=⟨_,rfl⟩
 have hji:min RM (V.length:Int)=(j:Int):=by omega
 obtain ⟨Z,hZ,hsl3⟩:=z793 (L:=V) (m:=j) (by omega) (by omega)
 have hZt:V.take RM.toNat=Z.l:=by rw [hZ,← hj,y0t]; omega
 have hZl:Z.l.length≤600:=by rw [hZ,y07]; omega
 rw [hZt] at hS3
 have hp3:=z39y F Z s2 (by omega)
 have o3:=zcsc F.t Z.l s2
 have z3:=F.hle (s:=s2) (s1:=Z.l.foldl (zyao F.t) s2) (zwy8 F.t Z.l s2)
 have i3:=zaui (t:=F.t) (V:=Z.l) (s:=s2)
 rw [← hS3] at hp3 o3 z3 i3
 obtain ⟨s3,hs3⟩ : ∃ s3,grS3 F.t k s2=s3:=⟨_,rfl⟩
 rw [hs3] at hp3 o3 z3 hgr i3
 obtain ⟨TE,fE,sE,f1,f2,f3⟩:=exTH zbqs hp3
 have f4:=f3 89 (by decide)
 rw [zfpb] at f4
 refine zbn1 (V_W mix sE ?_)
 simp (disch:=first|omega|simp<;>omega|fail) [-zA,-zB,-zC,-zD,-zE,hO0,EF.one3,f4,hrd,zy11,zo8b,zluv,zy6n,hji,hsl3,f1,f2]
 have g3:=z7in (c:=s3.c) (k:=k)
 rw [hgr]
 have key : ∀ s':Rnd,objV (F.H s') F.b 8=some (F.rd s'.c (oV (F.b+1) 34 s'.o)):=hO0
 refine z3mo (ztbr (zjwe F k want) (fun s'=>(want-(znqs s'.c k).length).toNat) (fun s'=>filS tr.l x.e.l F.t k want s'=filS tr.l x.e.l F.t k want s3∧s'.o.length+(want-(znqs s'.c k).length).toNat≤90000∧s'.c.i.l.length+(want-(znqs s'.c k).length).toNat≤90000) s3 (z515 (by simp (disch:=first|omega|simp<;>omega|fail) [-zA,-zB,-zC,-zD,-zE,zjwe,zh8t]) (by simp (disch:=first|omega|simp<;>omega|fail) [-zA,-zB,-zC,-zD,-zE,zjwe,zh8t])) ⟨rfl,by omega,by omega⟩ (fun s' hs' => ?_))
 obtain ⟨u1,u2,u3⟩:=hs'
 simp only [zjwe]
 have hgd:=ztaz (f:=z3tq) (c:=s'.c) (k:=k)
 have hgdd:z3tq s'.c k=liV (znqs s'.c k):=rfl
 rw [hgdd] at hgd
 have gl:=z7in (c:=s'.c) (k:=k)
 have hstc:=z2ip F x tr hF s' k (by omega)
 have fo:=z6vl (tr:=tr.l) (ix:=x.e.l) (t:=F.t) (k:=k) (want:=want) (s:=s')
 have fy:=znf4 (tr:=tr.l) (ix:=x.e.l) (t:=F.t) (k:=k) (want:=want) (s:=s')
 have fn:=z1ss (tr:=tr.l) (ix:=x.e.l) (t:=F.t) (k:=k) (want:=want) (s:=s')
 have gs:=zu5r (tr:=tr.l) (ix:=x.e.l) (t:=F.t) (k:=k) (s:=s')
 have sn:=z0v2 (tr:=tr.l) (ix:=x.e.l) (t:=F.t) (k:=k) (s:=s')
 obtain ⟨GL,hGL⟩ : ∃ GL,znqs s'.c k=GL:=⟨_,rfl⟩
 rw [hGL] at hgd gl fo fy gs u2 u3
 refine zbn1 (zbn1 (V_W mix zdot ?_))
 by_cases c:(GL.length:Int)<want
 case neg =>
  have fo:=fo (by omega)
  rw [← u1,fo]
  simp (disch:=first|omega|simp<;>omega|fail) [-zA,-zB,-zC,-zD,-zE,z44u,zh8t,hO0,EF.one3,zqsr,hgd,zy11,zo8b,c]
  refine V_W mix zr5o ?_
  simp (disch:=first|omega|simp<;>omega|fail) [-zA,-zB,-zC,-zD,-zE,a55]
 simp (disch:=first|omega|simp<;>omega|fail) [-zA,-zB,-zC,-zD,-zE,z44u,zh8t,hO0,EF.one3,zqsr,hgd,zy11,zo8b,c]
 refine V_W mix zr5o ?_
 simp (disch:=first|omega|simp<;>omega|fail) [-zA,-zB,-zC,-zD,-zE]
 obtain ⟨p,hp⟩ : ∃ p,zusy tr.l x.e.l F.t k s'=p:=⟨_,rfl⟩
 rw [hp] at hstc fy fn gs sn
 obtain ⟨b,s4⟩:=p
 simp only at hstc fy fn gs sn
 obtain ⟨TG,fG,sG,g1,g2,g3⟩:=exTH zr5o hstc
 refine z3mo (zbn1 (V_W mix sG ?_))
 cases b with
 | false =>
  have e:=sn rfl
  have e2:=fn rfl
  subst e
  rw [← u1,e2]
  simp (disch:=first|omega|simp<;>omega|fail) [-zA,-zB,-zC,-zD,-zE,g1,g2]
  refine V_W mix zr5o ?_
  simp (disch:=first|omega|simp<;>omega|fail) [-zA,-zB,-zC,-zD,-zE,a55]
 | true =>
  have e2:=fy c rfl
  obtain ⟨y1,y2,y3,y4⟩:=gs rfl
  simp (disch:=first|omega|simp<;>omega|fail) [-zA,-zB,-zC,-zD,-zE,g1,g2]
  refine V_W mix zr5o ?_
  simp (disch:=first|omega|simp<;>omega|fail) [-zA,-zB,-zC,-zD,-zE]
  refine ⟨s4,z515 (by simp (disch:=first|omega|simp<;>omega|fail) [-zA,-zB,-zC,-zD,-zE,zjwe,zh8t]) (by simp (disch:=first|omega|simp<;>omega|fail) [-zA,-zB,-zC,-zD,-zE,zjwe,zh8t]),?_,by rw [← e2,u1],?_,?_⟩<;>simp only [y1,hGL]<;>omega
end
section
set_option linter.unusedSimpArgs false
set_option linter.unusedVariables false
set_option maxRecDepth 20000
open Go Go.Am
theorem z1pi {A:List AObj} {L:List Int} {y:Int} {n:Nat} (hA:A.length=n) (h:L.length+1≤4294967296):appX (A++oT inI L) 1 8 (oV n 1 L) 1 [.int .i64 y]=some (oV n 1 (L++[y]),A++oT inI (L++[y])) :=
 zte0 (k:=n) (K:=1) (b:=8) (f:=inI) (l:=L) (x:=y) (h:=A) hA zg97 (by decide) (by decide) (fun _=>rfl) h
theorem zdlw {gr:List Int} {t:Int} {l:List Ins} {i:Nat} (h:i<l.length):ze9z (l.take (i+1)) 0 gr t=ze9z (l.take i) 0 gr t++(if z9hf l[i] (gr.getD i 0) t=true then [l[i].id] else []):=by
 rw [y0d h,zcgk,y07,show 0+min i l.length=i by omega]
noncomputable def zhxq (c:Clu) (g:Nl) (t:Int) (i:Nat):St:=z213 g.dv (.int .i64 t) (oV 1 1 (ze9z (c.i.l.take i) 0 g.l t)) (c.i.dv 37 inC) (.int .i64 c.i.l.length) (.int .i64 i) ([.cells (clC c)]++oT inI (ze9z (c.i.l.take i) 0 g.l t))
noncomputable def zb66 (c:Clu) (g:Nl) (t:Int) (i:Nat):St:=z8ja g.dv (.int .i64 t) (.mp 0 3 0) (oV 1 1 (ze9z (c.i.l.take i) 0 g.l t)) (.int .i64 i) ([.cells (clC c)]++oT inI (ze9z (c.i.l.take i) 0 g.l t))
section
variable (c:Clu) (g:Nl) (t:Int)
theorem znws (hv:OvOK (c,g,t)):Am.Sem P 54 [.agg (clC c),g.dv,.int .i64 t] (liV (ze9z c.i.l 0 g.l t)):=by
 refine znz9 Tryz.func54 zq4q ?_
 have hli : ∀ H,lenD H (c.i.dv 37 inC)=some (.int .i64 c.i.l.length):=fun H=>zupj
 have hlg:=fun H=>ziny H g
 have hib:=c.i.b
 have hA:[AObj.cells (clC c)].length=1:=rfl
 refine zbn1 (V_W mix zr5o ?_)
 simp (disch:=first|omega|simp<;>omega|fail) [-zA,-zB,-zC,-zD,-zE,a54]
 refine zbn1 (V_W mix zr5o ?_)
 simp (disch:=first|omega|simp<;>omega|fail) [-zA,-zB,-zC,-zD,-zE]
 refine zbn1 (zbn1 (V_W mix zr5o ?_))
 simp (disch:=first|omega|simp<;>omega|fail) [-zA,-zB,-zC,-zD,-zE,zxyh,hli]
 have h0:ze9z [] 0 g.l t=[]:=rfl
 have hob : ∀ L:List Int,zlf2 ([AObj.cells (clC c)]++oT inI L).length ([AObj.cells (clC c)]++oT inI L)=true:=fun L=>zrlz (by simp only [zlf2,zmq5 _ _ (zy11 c),y06]) (zd81 zyj0)
 refine z3mo (ztbr (zhxq c g t) (fun i=>c.i.l.length-i) (fun i=>i≤c.i.l.length) 0 (z515 (by simp (disch:=first|omega|simp<;>omega|fail) [-zA,-zB,-zC,-zD,-zE,zhxq,z213,h0,zl8p]) (by simp (disch:=first|omega|simp<;>omega|fail) [-zA,-zB,-zC,-zD,-zE,zhxq,z213,h0,zkrk])) (y03 _) (fun i hi => ?_))
 simp only [zhxq]
 refine zbn1 (V_W mix zr5o ?_)
 by_cases gi:i<c.i.l.length
 case neg =>
  have gi':¬ (i:Int)<c.i.l.length:=by omega
  rw [y00 (by omega)]
  obtain ⟨L,hL⟩ : ∃ L,ze9z c.i.l 0 g.l t=L:=⟨_,rfl⟩
  rw [hL]
  have hmk:=zxjm (H:=[AObj.cells (clC c)]) (L:=L)
  rw [hA,y0k] at hmk
  simp (disch:=first|omega|simp<;>omega|fail) [-zA,-zB,-zC,-zD,-zE,zpde,z213,gi,gi']
  refine zbn1 (V_W mix zr5o ?_)
  simp (disch:=first|omega|simp<;>omega|fail) [-zA,-zB,-zC,-zD,-zE]
  refine z0em (n0:=0) (H:=[.cells (clC c)]) (R:=oT inI L) (t':=js 7++[liV L]++js 41) (by simp only [zlf2,zmq5 _ _ (zy11 c),y06]) (y03 _) ?_ (by simp (disch:=first|omega|simp<;>omega|fail) [-zA,-zB,-zC,-zD,-zE,belowL,Am.below,z8b8 _ _ (z4yh L)]) ?_
  ·simp (disch:=first|omega|simp<;>omega|fail) [-zA,-zB,-zC,-zD,-zE,hmk,-z1bt,-zdpe]
  refine zbn1 (V_W mix zr5o ?_)
  simp (disch:=first|omega|simp<;>omega|fail) [-zA,-zB,-zC,-zD,-zE]
  refine V_W mix zr5o ?_
  simp (disch:=first|omega|simp<;>omega|fail) [-zA,-zB,-zC,-zD,-zE,a54,z6nl (z4yh L)]
 have gi':(i:Int)<c.i.l.length:=by omega
 have hix:=fun H=>zalo (x:=c.i) (h:=H) z6gw gi
 have hn:=zdlw (gr:=g.l) (t:=t) gi
 have hLl:=z9p7 (gr:=g.l) (t:=t) (l:=c.i.l.take i) (j:=0)
 rw [y07] at hLl
 have hxm:=hv.d _ (y0e gi)
 obtain ⟨y,hy⟩ : ∃ y,c.i.l[i]=y:=⟨_,rfl⟩
 rw [hy] at hix hn hxm
 obtain ⟨L,hL⟩ : ∃ L,ze9z (c.i.l.take i) 0 g.l t=L:=⟨_,rfl⟩
 rw [hL] at hn hLl ⊢
 have hap:=z1pi (A:=[.cells (clC c)]) (L:=L) (y:=y.id) hA (by omega)
 obtain ⟨H,hH⟩ : ∃ H,[AObj.cells (clC c)]++oT inI L=H:=⟨_,rfl⟩
 have hHb:=hob L
 have hq:=zv6o (k:=1) (K:=1) (f:=inI) (l:=L)
 have hqb:Am.below H.length (oV 1 1 L)=true:=by
  rw [← hH,y08]; exact hq
 rw [hH] at hap hHb
 have ec:=zz5t (H:=H) (cs:=inC y) (off:=0) (z9kv y)
 have e1 : ∀ h,mk1 (kLt H.length) h g.dv=g.dv:=fun h=>zvft (zkx7 g)
 have e2 : ∀ h,mk1 (kLt H.length) h (oV 1 1 L)=oV 1 1 L:=fun h=>zd3c hqb
 have e3 : ∀ h,mk1 (kLt H.length) h (c.i.dv 37 inC)=c.i.dv 37 inC:=fun h=>zvft (zcha c.i)
 have hpi : ∀ n,Am.below n (c.i.dv 37 inC)=true:=fun n=>z8b8 _ _ (zcha c.i)
 have hin0 : ∀ (h:List AObj) (id:Nat) (z:List DV),z.length=37→zy6o h id 37 0 (.agg (inC y)) (some z)=some (.junk,h.set id (.cells (inC y))):=fun h id z hz=>zfc1 (z6gw y) hz (z8go y)
 rw [hH]
 simp (disch:=first|omega|simp<;>omega|fail) [-zA,-zB,-zC,-zD,-zE,zpde,z213,gi,gi']
 refine zbn1 (V_W mix zr5o ?_)
 simp (disch:=first|omega|simp<;>omega|fail) [-zA,-zB,-zC,-zD,-zE]
 refine zbn1 (z3mo (zbn1 (V_W mix zr5o ?_)))
 simp (disch:=first|omega|simp<;>omega|fail) [-zA,-zB,-zC,-zD,-zE,hix,zisq,hin0]
 refine zs10 (n0:=0) (H:=H) (cs:=inC y) (t':=[.junk,g.dv,.int .i64 t,.junk,.junk,.junk,.junk,oV 1 1 L,.int .i64 i,.ref (inC y),.junk,.junk,c.i.dv 37 inC,.int .i64 c.i.l.length,.int .i64 i]++js 34) hHb (y03 _) ?_ (by simp (disch:=first|omega|simp<;>omega|fail) [-zA,-zB,-zC,-zD,-zE,belowL,Am.below,hqb,hpi,zmq5 _ _ (z9kv y)]) ?_
 ·rw [z6gw,y05] at ec
  simp (disch:=first|omega|simp<;>omega|fail) [-zA,-zB,-zC,-zD,-zE,ec,e1,e2,e3,-z1bt,-zdpe]
 have hcE : ∀ v,g.l.getD i 0=v→ok64 v→0≤y.den→¬ y.state=3→cEla [.int .i64 y.den,.int .i64 v,.int .i64 t]=some (.bool (z9hf y (g.l.getD i 0) t)):=fun v hv1 hv2 h2 h1=>by
  rw [hv1,zlm0 ⟨h2,hxm⟩ hv2 hv.t]
  simp [z9hf,h1,h2]
 obtain ⟨b,hb⟩ : ∃ b,z9hf y (g.l.getD i 0) t=b:=⟨_,rfl⟩
 rw [hb] at hn hcE
 have hkp:b=false→ze9z (c.i.l.take (i+1)) 0 g.l t=L:=fun e=>by rw [hn,e]; simp
 have hmo:b=true→ze9z (c.i.l.take (i+1)) 0 g.l t=L++[y.id]:=fun e=>by rw [hn,e]; simp
 refine zbn1 (V_W mix zr5o ?_)
 simp (disch:=first|omega|simp<;>omega|fail) [-zA,-zB,-zC,-zD,-zE]
 refine zbn1 (V_W mix zr5o ?_)
 have hlg:=ziny H g
 by_cases gx:i<g.l.length
 ·have gx':(i:Int)<g.l.length:=by omega
  have hgx:=fun H=>z74y H g gx
  have hcE:=hcE g.l[i] (by simp [y0b,gx]) (hv.g _ (y0e gx))
  obtain ⟨v,hvv⟩ : ∃ v,g.l[i]=v:=⟨_,rfl⟩
  rw [hvv] at hgx hcE
  simp (disch:=first|omega|simp<;>omega|fail) [-zA,-zB,-zC,-zD,-zE,hlg,gx,gx',hgx]
  refine zbn1 (V_W mix z8f4 ?_)
  by_cases h1:y.state=3
  ·have e:=hkp (by rw [← hb]; simp [z9hf,h1])
   simp (disch:=first|omega|simp<;>omega|fail) [-zA,-zB,-zC,-zD,-zE,zvh3,h1]
   refine V_W mix zr5o ?_
   simp (disch:=first|omega|simp<;>omega|fail) [-zA,-zB,-zC,-zD,-zE]
   refine V_W mix zr5o ?_
   simp (disch:=first|omega|simp<;>omega|fail) [-zA,-zB,-zC,-zD,-zE]
   exact ⟨i+1,z515 (by simp (disch:=first|omega|simp<;>omega|fail) [-zA,-zB,-zC,-zD,-zE,zhxq,z213,e]) (by simp (disch:=first|omega|simp<;>omega|fail) [-zA,-zB,-zC,-zD,-zE,zhxq,z213,e,← hH]),by omega,by omega⟩
  by_cases h2:0≤y.den
  case neg =>
   have e:=hkp (by rw [← hb]; simp [z9hf,h2])
   simp (disch:=first|omega|simp<;>omega|fail) [-zA,-zB,-zC,-zD,-zE,zvh3,h1,z0hu,h2]
   refine V_W mix zr5o ?_
   simp (disch:=first|omega|simp<;>omega|fail) [-zA,-zB,-zC,-zD,-zE]
   refine V_W mix zr5o ?_
   simp (disch:=first|omega|simp<;>omega|fail) [-zA,-zB,-zC,-zD,-zE]
   exact ⟨i+1,z515 (by simp (disch:=first|omega|simp<;>omega|fail) [-zA,-zB,-zC,-zD,-zE,zhxq,z213,e]) (by simp (disch:=first|omega|simp<;>omega|fail) [-zA,-zB,-zC,-zD,-zE,zhxq,z213,e,← hH]),by omega,by omega⟩
  have hcE:=hcE h2 h1
  cases b with
  | false =>
   have e:=hkp rfl
   simp (disch:=first|omega|simp<;>omega|fail) [-zA,-zB,-zC,-zD,-zE,zvh3,h1,z0hu,h2,z474,hcE]
   refine V_W mix zr5o ?_
   simp (disch:=first|omega|simp<;>omega|fail) [-zA,-zB,-zC,-zD,-zE]
   refine V_W mix zr5o ?_
   simp (disch:=first|omega|simp<;>omega|fail) [-zA,-zB,-zC,-zD,-zE]
   exact ⟨i+1,z515 (by simp (disch:=first|omega|simp<;>omega|fail) [-zA,-zB,-zC,-zD,-zE,zhxq,z213,e]) (by simp (disch:=first|omega|simp<;>omega|fail) [-zA,-zB,-zC,-zD,-zE,zhxq,z213,e,← hH]),by omega,by omega⟩
  | true =>
   have e:=hmo rfl
   simp (disch:=first|omega|simp<;>omega|fail) [-zA,-zB,-zC,-zD,-zE,zvh3,h1,z0hu,h2,z474,hcE]
   refine V_W mix zr5o ?_
   simp (disch:=first|omega|simp<;>omega|fail) [-zA,-zB,-zC,-zD,-zE,zgz3,hap]
   refine V_W mix zr5o ?_
   simp (disch:=first|omega|simp<;>omega|fail) [-zA,-zB,-zC,-zD,-zE]
   exact ⟨i+1,z515 (by simp (disch:=first|omega|simp<;>omega|fail) [-zA,-zB,-zC,-zD,-zE,zhxq,z213,e]) (by simp (disch:=first|omega|simp<;>omega|fail) [-zA,-zB,-zC,-zD,-zE,zhxq,z213,e]),by omega,by omega⟩
 ·have gx':¬ (i:Int)<g.l.length:=by omega
  have hcE:=hcE 0 (by rw [y0b,y09 (by omega)]; rfl) ⟨by decide,by decide⟩
  simp (disch:=first|omega|simp<;>omega|fail) [-zA,-zB,-zC,-zD,-zE,hlg,gx,gx']
  refine zbn1 (V_W mix z8f4 ?_)
  by_cases h1:y.state=3
  ·have e:=hkp (by rw [← hb]; simp [z9hf,h1])
   simp (disch:=first|omega|simp<;>omega|fail) [-zA,-zB,-zC,-zD,-zE,zvh3,h1]
   refine V_W mix zr5o ?_
   simp (disch:=first|omega|simp<;>omega|fail) [-zA,-zB,-zC,-zD,-zE]
   refine V_W mix zr5o ?_
   simp (disch:=first|omega|simp<;>omega|fail) [-zA,-zB,-zC,-zD,-zE]
   exact ⟨i+1,z515 (by simp (disch:=first|omega|simp<;>omega|fail) [-zA,-zB,-zC,-zD,-zE,zhxq,z213,e]) (by simp (disch:=first|omega|simp<;>omega|fail) [-zA,-zB,-zC,-zD,-zE,zhxq,z213,e,← hH]),by omega,by omega⟩
  by_cases h2:0≤y.den
  case neg =>
   have e:=hkp (by rw [← hb]; simp [z9hf,h2])
   simp (disch:=first|omega|simp<;>omega|fail) [-zA,-zB,-zC,-zD,-zE,zvh3,h1,z0hu,h2]
   refine V_W mix zr5o ?_
   simp (disch:=first|omega|simp<;>omega|fail) [-zA,-zB,-zC,-zD,-zE]
   refine V_W mix zr5o ?_
   simp (disch:=first|omega|simp<;>omega|fail) [-zA,-zB,-zC,-zD,-zE]
   exact ⟨i+1,z515 (by simp (disch:=first|omega|simp<;>omega|fail) [-zA,-zB,-zC,-zD,-zE,zhxq,z213,e]) (by simp (disch:=first|omega|simp<;>omega|fail) [-zA,-zB,-zC,-zD,-zE,zhxq,z213,e,← hH]),by omega,by omega⟩
  have hcE:=hcE h2 h1
  cases b with
  | false =>
   have e:=hkp rfl
   simp (disch:=first|omega|simp<;>omega|fail) [-zA,-zB,-zC,-zD,-zE,zvh3,h1,z0hu,h2,z474,hcE]
   refine V_W mix zr5o ?_
   simp (disch:=first|omega|simp<;>omega|fail) [-zA,-zB,-zC,-zD,-zE]
   refine V_W mix zr5o ?_
   simp (disch:=first|omega|simp<;>omega|fail) [-zA,-zB,-zC,-zD,-zE]
   exact ⟨i+1,z515 (by simp (disch:=first|omega|simp<;>omega|fail) [-zA,-zB,-zC,-zD,-zE,zhxq,z213,e]) (by simp (disch:=first|omega|simp<;>omega|fail) [-zA,-zB,-zC,-zD,-zE,zhxq,z213,e,← hH]),by omega,by omega⟩
  | true =>
   have e:=hmo rfl
   simp (disch:=first|omega|simp<;>omega|fail) [-zA,-zB,-zC,-zD,-zE,zvh3,h1,z0hu,h2,z474,hcE]
   refine V_W mix zr5o ?_
   simp (disch:=first|omega|simp<;>omega|fail) [-zA,-zB,-zC,-zD,-zE,zgz3,hap]
   refine V_W mix zr5o ?_
   simp (disch:=first|omega|simp<;>omega|fail) [-zA,-zB,-zC,-zD,-zE]
   exact ⟨i+1,z515 (by simp (disch:=first|omega|simp<;>omega|fail) [-zA,-zB,-zC,-zD,-zE,zhxq,z213,e]) (by simp (disch:=first|omega|simp<;>omega|fail) [-zA,-zB,-zC,-zD,-zE,zhxq,z213,e]),by omega,by omega⟩
theorem z4bn (hv:OvR (c,g,t)):Am.Sem P 32 [.agg (clC c),g.dv,.int .i64 t] (liV (ze9z c.i.l 0 g.l t)):=by
 refine znz9 Tryz.func32 zvrg ?_
 have hli : ∀ H,lenD H (c.i.dv 37 inC)=some (.int .i64 c.i.l.length):=fun H=>zupj
 have hib:=c.i.b
 have hA:[AObj.cells (clC c)].length=1:=rfl
 have hO : ∀ X,objV ([AObj.cells (clC c)]++X) 0 3=some (clC c):=fun X=>rfl
 refine zbn1 (V_W mix zr5o ?_)
 simp (disch:=first|omega|simp<;>omega|fail) [-zA,-zB,-zC,-zD,-zE,a32]
 refine zbn1 (V_W mix zr5o ?_)
 simp (disch:=first|omega|simp<;>omega|fail) [-zA,-zB,-zC,-zD,-zE]
 refine zbn1 (zbn1 (V_W mix zr5o ?_))
 simp (disch:=first|omega|simp<;>omega|fail) [-zA,-zB,-zC,-zD,-zE]
 have h0:ze9z [] 0 g.l t=[]:=rfl
 have hob : ∀ L:List Int,zlf2 ([AObj.cells (clC c)]++oT inI L).length ([AObj.cells (clC c)]++oT inI L)=true:=fun L=>zrlz (by simp only [zlf2,zmq5 _ _ (zy11 c),y06]) (zd81 zyj0)
 refine z3mo (ztbr (zb66 c g t) (fun i=>c.i.l.length-i) (fun i=>i≤c.i.l.length) 0 (z515 (by simp (disch:=first|omega|simp<;>omega|fail) [-zA,-zB,-zC,-zD,-zE,zb66,z8ja,h0,zl8p]) (by simp (disch:=first|omega|simp<;>omega|fail) [-zA,-zB,-zC,-zD,-zE,zb66,z8ja,h0,zkrk])) (y03 _) (fun i hi => ?_))
 simp only [zb66]
 have hOL:=hO (oT inI (ze9z (c.i.l.take i) 0 g.l t))
 refine zbn1 (V_W mix zr5o ?_)
 by_cases gi:i<c.i.l.length
 case neg =>
  have gi':¬ (i:Int)<c.i.l.length:=by omega
  rw [y00 (by omega)] at hOL ⊢
  obtain ⟨L,hL⟩ : ∃ L,ze9z c.i.l 0 g.l t=L:=⟨_,rfl⟩
  rw [hL] at hOL ⊢
  have hmk:=zxjm (H:=[AObj.cells (clC c)]) (L:=L)
  rw [hA,y0k] at hmk
  simp (disch:=first|omega|simp<;>omega|fail) [-zA,-zB,-zC,-zD,-zE,zx0e,z8ja,hOL,zxyh,hli,gi,gi']
  refine z0em (n0:=0) (H:=[.cells (clC c)]) (R:=oT inI L) (t':=js 7++[liV L]++js 50) (by simp only [zlf2,zmq5 _ _ (zy11 c),y06]) (y03 _) ?_ (by simp (disch:=first|omega|simp<;>omega|fail) [-zA,-zB,-zC,-zD,-zE,belowL,Am.below,z8b8 _ _ (z4yh L)]) ?_
  ·simp (disch:=first|omega|simp<;>omega|fail) [-zA,-zB,-zC,-zD,-zE,hmk,-z1bt,-zdpe]
  refine zbn1 (V_W mix zr5o ?_)
  simp (disch:=first|omega|simp<;>omega|fail) [-zA,-zB,-zC,-zD,-zE]
  refine V_W mix zr5o ?_
  simp (disch:=first|omega|simp<;>omega|fail) [-zA,-zB,-zC,-zD,-zE,a32,z6nl (z4yh L)]
 have gi':(i:Int)<c.i.l.length:=by omega
 have hix:=fun H=>zalo (x:=c.i) (h:=H) z6gw gi
 have hn:=zdlw (gr:=g.l) (t:=t) gi
 have hLl:=z9p7 (gr:=g.l) (t:=t) (l:=c.i.l.take i) (j:=0)
 rw [y07] at hLl
 obtain ⟨d0,d1⟩:=hv.o.d _ (y0e gi)
 obtain ⟨t0,t1⟩:=hv.o.t
 have hst:=hv.s _ (y0e gi)
 simp only at d0 d1 t0 t1 hst
 obtain ⟨y,hy⟩ : ∃ y,c.i.l[i]=y:=⟨_,rfl⟩
 rw [hy] at hix hn d0 d1 hst
 obtain ⟨L,hL⟩ : ∃ L,ze9z (c.i.l.take i) 0 g.l t=L:=⟨_,rfl⟩
 rw [hL] at hn hLl hOL ⊢
 have hap:=z1pi (A:=[.cells (clC c)]) (L:=L) (y:=y.id) hA (by omega)
 obtain ⟨H,hH⟩ : ∃ H,[AObj.cells (clC c)]++oT inI L=H:=⟨_,rfl⟩
 have hHb:=hob L
 have hq:=zv6o (k:=1) (K:=1) (f:=inI) (l:=L)
 have hqb:Am.below H.length (oV 1 1 L)=true:=by
  rw [← hH,y08]; exact hq
 have hHl:0<H.length:=by rw [← hH]; simp
 rw [hH] at hap hHb hOL
 have ec:=zz5t (H:=H) (cs:=inC y) (off:=0) (z9kv y)
 have e1 : ∀ h,mk1 (kLt H.length) h g.dv=g.dv:=fun h=>zvft (zkx7 g)
 have e2 : ∀ h,mk1 (kLt H.length) h (oV 1 1 L)=oV 1 1 L:=fun h=>zd3c hqb
 have e3 : ∀ h,mk1 (kLt H.length) h (.mp 0 3 0) = .mp 0 3 0:=fun h=>zd3c (by simp only [Am.below,decide_eq_true_eq]; exact hHl)
 have hin0 : ∀ (h:List AObj) (id:Nat) (z:List DV),z.length=37→zy6o h id 37 0 (.agg (inC y)) (some z)=some (.junk,h.set id (.cells (inC y))):=fun h id z hz=>zfc1 (z6gw y) hz (z8go y)
 rw [hH]
 simp (disch:=first|omega|simp<;>omega|fail) [-zA,-zB,-zC,-zD,-zE,zx0e,z8ja,hOL,zxyh,hli,gi,gi']
 refine zbn1 (z3mo (zbn1 (V_W mix zr5o ?_)))
 simp (disch:=first|omega|simp<;>omega|fail) [-zA,-zB,-zC,-zD,-zE,hOL,zxyh,hix,zisq,hin0]
 refine zs10 (n0:=0) (H:=H) (cs:=inC y) (t':=[.junk,g.dv,.int .i64 t,.mp 0 3 0,.junk,.junk,.junk,oV 1 1 L,.int .i64 i,.ref (inC y),.int .i64 0]++js 47) hHb (y03 _) ?_ (by simp (disch:=first|omega|simp<;>omega|fail) [-zA,-zB,-zC,-zD,-zE,belowL,Am.below,hqb,hHl,zmq5 _ _ (z9kv y)]) ?_
 ·rw [z6gw,y05] at ec
  simp (disch:=first|omega|simp<;>omega|fail) [-zA,-zB,-zC,-zD,-zE,ec,e1,e2,e3,-z1bt,-zdpe]
 have hcE : ∀ v,g.l.getD i 0=v→0≤y.den→¬ y.state=3→decide (v≤t-y.den)=z9hf y (g.l.getD i 0) t:=fun v hv1 h2 h1=>by
  rw [hv1]
  simp [z9hf,h1,h2]
 obtain ⟨b,hb⟩ : ∃ b,z9hf y (g.l.getD i 0) t=b:=⟨_,rfl⟩
 rw [hb] at hn hcE
 have hkp:b=false→ze9z (c.i.l.take (i+1)) 0 g.l t=L:=fun e=>by rw [hn,e]; simp
 have hmo:b=true→ze9z (c.i.l.take (i+1)) 0 g.l t=L++[y.id]:=fun e=>by rw [hn,e]; simp
 refine zbn1 (V_W mix zr5o ?_)
 have hlg:=ziny H g
 by_cases gx:i<g.l.length
 ·have gx':(i:Int)<g.l.length:=by omega
  have hgx:=fun H=>z74y H g gx
  have hcE:=hcE g.l[i] (by simp [y0b,gx])
  obtain ⟨v,hvv⟩ : ∃ v,g.l[i]=v:=⟨_,rfl⟩
  rw [hvv] at hgx hcE
  simp (disch:=first|omega|simp<;>omega|fail) [-zA,-zB,-zC,-zD,-zE,hlg,gx,gx',hgx]
  refine zbn1 (V_W mix zr5o ?_)
  have hd2:y.state=1∨y.state=2∨y.state=3:=by omega
  rcases hd2 with h1|h1|h1
  case inr.inr =>
   have e:=hkp (by rw [← hb]; simp [z9hf,h1])
   simp (disch:=first|omega|simp<;>omega|fail) [-zA,-zB,-zC,-zD,-zE,zvh3,h1]
   refine V_W mix zr5o ?_
   simp (disch:=first|omega|simp<;>omega|fail) [-zA,-zB,-zC,-zD,-zE]
   refine V_W mix zr5o ?_
   simp (disch:=first|omega|simp<;>omega|fail) [-zA,-zB,-zC,-zD,-zE]
   exact ⟨i+1,z515 (by simp (disch:=first|omega|simp<;>omega|fail) [-zA,-zB,-zC,-zD,-zE,zb66,z8ja,e]) (by simp (disch:=first|omega|simp<;>omega|fail) [-zA,-zB,-zC,-zD,-zE,zb66,z8ja,e,← hH]),by omega,by omega⟩
  all_goals
   by_cases h2:0≤y.den
   case neg =>
    have e:=hkp (by rw [← hb]; simp [z9hf,h2])
    simp (disch:=first|omega|simp<;>omega|fail) [-zA,-zB,-zC,-zD,-zE,zvh3,h1,z0hu,h2]
    refine V_W mix zr5o ?_
    simp (disch:=first|omega|simp<;>omega|fail) [-zA,-zB,-zC,-zD,-zE]
    refine V_W mix zr5o ?_
    simp (disch:=first|omega|simp<;>omega|fail) [-zA,-zB,-zC,-zD,-zE]
    exact ⟨i+1,z515 (by simp (disch:=first|omega|simp<;>omega|fail) [-zA,-zB,-zC,-zD,-zE,zb66,z8ja,e]) (by simp (disch:=first|omega|simp<;>omega|fail) [-zA,-zB,-zC,-zD,-zE,zb66,z8ja,e,← hH]),by omega,by omega⟩
   have hcE:=hcE h2 (by omega)
   cases b with
   | false =>
    have e:=hkp rfl
    have hcE:=of_decide_eq_false hcE
    simp (disch:=first|omega|simp<;>omega|fail) [-zA,-zB,-zC,-zD,-zE,zvh3,h1,z0hu,h2,hcE]
    refine V_W mix zr5o ?_
    simp (disch:=first|omega|simp<;>omega|fail) [-zA,-zB,-zC,-zD,-zE]
    refine V_W mix zr5o ?_
    simp (disch:=first|omega|simp<;>omega|fail) [-zA,-zB,-zC,-zD,-zE]
    exact ⟨i+1,z515 (by simp (disch:=first|omega|simp<;>omega|fail) [-zA,-zB,-zC,-zD,-zE,zb66,z8ja,e]) (by simp (disch:=first|omega|simp<;>omega|fail) [-zA,-zB,-zC,-zD,-zE,zb66,z8ja,e,← hH]),by omega,by omega⟩
   | true =>
    have e:=hmo rfl
    have hcE:=of_decide_eq_true hcE
    simp (disch:=first|omega|simp<;>omega|fail) [-zA,-zB,-zC,-zD,-zE,zvh3,h1,z0hu,h2,hcE]
    refine V_W mix zr5o ?_
    simp (disch:=first|omega|simp<;>omega|fail) [-zA,-zB,-zC,-zD,-zE,zgz3,hap]
    refine V_W mix zr5o ?_
    simp (disch:=first|omega|simp<;>omega|fail) [-zA,-zB,-zC,-zD,-zE]
    exact ⟨i+1,z515 (by simp (disch:=first|omega|simp<;>omega|fail) [-zA,-zB,-zC,-zD,-zE,zb66,z8ja,e]) (by simp (disch:=first|omega|simp<;>omega|fail) [-zA,-zB,-zC,-zD,-zE,zb66,z8ja,e]),by omega,by omega⟩
 ·have gx':¬ (i:Int)<g.l.length:=by omega
  have hcE:=hcE 0 (by rw [y0b,y09 (by omega)]; rfl)
  simp (disch:=first|omega|simp<;>omega|fail) [-zA,-zB,-zC,-zD,-zE,hlg,gx,gx']
  refine zbn1 (V_W mix zr5o ?_)
  have hd2:y.state=1∨y.state=2∨y.state=3:=by omega
  rcases hd2 with h1|h1|h1
  case inr.inr =>
   have e:=hkp (by rw [← hb]; simp [z9hf,h1])
   simp (disch:=first|omega|simp<;>omega|fail) [-zA,-zB,-zC,-zD,-zE,zvh3,h1]
   refine V_W mix zr5o ?_
   simp (disch:=first|omega|simp<;>omega|fail) [-zA,-zB,-zC,-zD,-zE]
   refine V_W mix zr5o ?_
   simp (disch:=first|omega|simp<;>omega|fail) [-zA,-zB,-zC,-zD,-zE]
   exact ⟨i+1,z515 (by simp (disch:=first|omega|simp<;>omega|fail) [-zA,-zB,-zC,-zD,-zE,zb66,z8ja,e]) (by simp (disch:=first|omega|simp<;>omega|fail) [-zA,-zB,-zC,-zD,-zE,zb66,z8ja,e,← hH]),by omega,by omega⟩
  all_goals
   by_cases h2:0≤y.den
   case neg =>
    have e:=hkp (by rw [← hb]; simp [z9hf,h2])
    simp (disch:=first|omega|simp<;>omega|fail) [-zA,-zB,-zC,-zD,-zE,zvh3,h1,z0hu,h2]
    refine V_W mix zr5o ?_
    simp (disch:=first|omega|simp<;>omega|fail) [-zA,-zB,-zC,-zD,-zE]
    refine V_W mix zr5o ?_
    simp (disch:=first|omega|simp<;>omega|fail) [-zA,-zB,-zC,-zD,-zE]
    exact ⟨i+1,z515 (by simp (disch:=first|omega|simp<;>omega|fail) [-zA,-zB,-zC,-zD,-zE,zb66,z8ja,e]) (by simp (disch:=first|omega|simp<;>omega|fail) [-zA,-zB,-zC,-zD,-zE,zb66,z8ja,e,← hH]),by omega,by omega⟩
   have hcE:=hcE h2 (by omega)
   cases b with
   | false =>
    have e:=hkp rfl
    have hcE:=of_decide_eq_false hcE
    have hcF:¬ y.den≤t:=by omega
    simp (disch:=first|omega|simp<;>omega|fail) [-zA,-zB,-zC,-zD,-zE,zvh3,h1,z0hu,h2,hcE,hcF]
    refine V_W mix zr5o ?_
    simp (disch:=first|omega|simp<;>omega|fail) [-zA,-zB,-zC,-zD,-zE]
    refine V_W mix zr5o ?_
    simp (disch:=first|omega|simp<;>omega|fail) [-zA,-zB,-zC,-zD,-zE]
    exact ⟨i+1,z515 (by simp (disch:=first|omega|simp<;>omega|fail) [-zA,-zB,-zC,-zD,-zE,zb66,z8ja,e]) (by simp (disch:=first|omega|simp<;>omega|fail) [-zA,-zB,-zC,-zD,-zE,zb66,z8ja,e,← hH]),by omega,by omega⟩
   | true =>
    have e:=hmo rfl
    have hcE:=of_decide_eq_true hcE
    have hcF:y.den≤t:=by omega
    simp (disch:=first|omega|simp<;>omega|fail) [-zA,-zB,-zC,-zD,-zE,zvh3,h1,z0hu,h2,hcE,hcF]
    refine V_W mix zr5o ?_
    simp (disch:=first|omega|simp<;>omega|fail) [-zA,-zB,-zC,-zD,-zE,zgz3,hap]
    refine V_W mix zr5o ?_
    simp (disch:=first|omega|simp<;>omega|fail) [-zA,-zB,-zC,-zD,-zE]
    exact ⟨i+1,z515 (by simp (disch:=first|omega|simp<;>omega|fail) [-zA,-zB,-zC,-zD,-zE,zb66,z8ja,e]) (by simp (disch:=first|omega|simp<;>omega|fail) [-zA,-zB,-zC,-zD,-zE,zb66,z8ja,e]),by omega,by omega⟩
end
theorem z43p:(Con.pure zrio).Sound P 54:=z2au fun a h=>znws a.1 a.2.1 a.2.2 h
theorem z60y:(Con.pure z5kd).Sound P 32:=z2au fun a h=>z4bn a.1 a.2.1 a.2.2 h
end
section
set_option linter.unusedSimpArgs false
set_option linter.unusedVariables false
set_option maxRecDepth 20000
open Go Go.Am
def cmV (o:List Cmd):DV:=if o=[] then .nils else .sl false 34 o.length (o.flatMap cmC)
theorem zjem {o:List Cmd} (h:o≠[]):cmV o = .sl false 34 o.length (o.flatMap cmC):=if_neg h
theorem zx70 (o:List Cmd):zyp8 (cmV o)=true:=by
 unfold cmV
 split
 ·rfl
 ·simp only [zyp8]; exact zp6k zoyx o
def frE (c:Clu) (x:Idx) (tr:Sl Tri) (t:Int) (R:List DV) (hR:zbao R=true):EF:=⟨[.cells (clC c),.cells (xiC x),.cells R],fun n _=>by simp only [zlf2,zmq5 _ _ (zy11 c),zmq5 _ _ (zqx0 x),zmq5 _ _ hR,y06],.int .i64 x.at_,x.e.dv 105 ixC,tr.dv 35 trC,rfl,zvdj x.e,zm7q tr,t⟩
noncomputable def ze6v (c:Clu) (k:Nat):Int:=match c.g.l[k]? with
 | some g=>g.want
 | none=>0
noncomputable def rndS (tr:List Tri) (ix:List Ixe) (t:Int) (c:Clu):Nat→Rnd→Rnd
 | 0,s=>s
 | k+1,s=>grpS tr ix t k (ze6v c k) (rndS tr ix t c k s)
noncomputable def rnd0 (gr:List Int) (t:Int) (c:Clu):Rnd:=(ze9z c.i.l 0 gr t).foldl (zyao t) ⟨c.clone,[]⟩
noncomputable def rndP (tr:List Tri) (ix:List Ixe) (gr:List Int) (t:Int) (c:Clu):Rnd:=rndS tr ix t c c.g.l.length (rnd0 gr t c)
structure RdA where
 c:Clu
 x:Idx
 tr:Sl Tri
 gr:Nl
 t:Int
structure RdOK (a:RdA):Prop where
 ch:ChOK a.x a.tr
 ov:OvOK (a.c,a.gr,a.t)
 hi:a.c.i.l.length≤200
 gp : ∀ k,k<a.c.g.l.length→GrOK a.t (rndS a.tr.l a.x.e.l a.t a.c k (rnd0 a.gr.l a.t a.c)) k (ze6v a.c k)
def rdV (s:Rnd):DV := .tup [.agg (clC s.c),cmV s.o]
noncomputable def zwub:Tbl:=addT 52 (.pure cEvc) (addT 54 (.pure zrio) tbl0)
theorem zm45:zwub 52 = .pure cEvc:=by simp [zwub]
theorem z4nh:zwub 54 = .pure zrio:=by simp [zwub]
theorem z6bs:zwub.Sound P:=z0rp znvc (z0rp z43p zr5o)
section
variable {c:Clu} {x:Idx} {tr:Sl Tri} {t:Int} {R:List DV} {hR:zbao R=true}
theorem zwlr {s:Rnd}:objV ((frE c x tr t R hR).H s) 0 3=some (clC c):=rfl
theorem zq2g {s:Rnd} (h3:R.length=3):objV ((frE c x tr t R hR).H s) 2 3=some R:=by
 show (if R.length=3 then some R else none)=some R
 rw [if_pos h3]
theorem zuvu {s:Rnd}:mk1 (kLt 0) ((frE c x tr t R hR).H s) (oV 4 34 s.o)=cmV s.o:=by
 by_cases e:s.o=[]
 ·rw [e]; exact zhx5
 ·rw [zpni e,zjem e]
  refine zwy6 ?_
  rw [zi9r,if_neg (by simp [kLt])]
  have ho:objV ((frE c x tr t R hR).H s) 4 (s.o.length*34)=some (fl cmC s.o):=by
   have hH:(frE c x tr t R hR).H s=[.cells (clC c),.cells (xiC x),.cells R,.cells ((frE c x tr t R hR).rd s.c (oV 4 34 s.o)),.cells (fl cmC s.o)]:=by
    unfold EF.H EF.G
    rw [zu2l e]; rfl
   rw [hH]
   simp [objV,ziu0,z8lx zfq1]
  rw [ho,y0h,y05]
  have ht:(fl cmC s.o).take (s.o.length*34)=s.o.flatMap cmC:=y00 (by rw [z8lx zfq1]; omega)
  rw [ht,zl6f (zp6k zoyx s.o)]; rfl
end
theorem zuzx {c:Clu} {x:Idx} {tr:Sl Tri} {t:Int}:zvnk [.nils,.nils,.int .i64 0,.int .i64 0,.nils,.nils,.int .i64 0,.nils] [(0,3,.agg (clC c)),(3,2,.agg (xiC x)),(5,1,tr.dv 35 trC),(6,1,.int .i64 t)]=some (.agg [c.g.dv 6 grC,c.i.dv 37 inC,.int .i64 c.next,.int .i64 x.at_,x.e.dv 105 ixC,tr.dv 35 trC,.int .i64 t,.nils]):=by
 obtain ⟨k,l,h,b⟩:=tr
 cases k with
 | none =>
  simp only [Sl.dv,zbpn]
  simp [zvnk,zi03,zk7y,DV.known,DV.cells,clC,xiC,Sl.dv]
 | some b =>
  simp only [Sl.dv,zip4]
  simp [zvnk,zi03,zk7y,DV.known,DV.cells,clC,xiC,Sl.dv]
noncomputable def zo1m (F:EF) (c:Clu) (x:Idx) (tr:Sl Tri) (s:Rnd) (i:Nat):St:=z3xo (.mp 2 3 0) (.mp 3 8 0) (.int .i64 c.g.l.length) (.int .i64 i) (F.H (rndS tr.l x.e.l F.t c i s))
theorem z81i (a:RdA) (q:RdOK a):Am.Sem P 25 [.agg (clC a.c),.agg (xiC a.x),a.tr.dv 35 trC,a.gr.dv,.int .i64 a.t] (rdV (rndP a.tr.l a.x.e.l a.gr.l a.t a.c)):=by
 refine znz9 Tryz.func25 zgum ?_
 obtain ⟨ch,ov,hi,gp⟩:=q
 obtain ⟨c,x,tr,gr,t⟩:=a
 simp only at ch ov hi gp ⊢
 have hR0:zbao [DV.nils,.nils,.int .i64 0]=true:=rfl
 have hpx:=zqx0 x
 have hpt:=zm7q tr
 have hpg:=zkx7 gr
 obtain ⟨F,hF⟩ : ∃ F,frE c x tr t [.nils,.nils,.int .i64 0] hR0=F:=⟨_,rfl⟩
 have hH0:[AObj.cells (clC c),.cells (xiC x),.cells [.nils,.nils,.int .i64 0],.cells [c.clone.g.dv 6 grC,c.clone.i.dv 37 inC,.int .i64 c.clone.next,.int .i64 x.at_,x.e.dv 105 ixC,tr.dv 35 trC,.int .i64 t,.nils]]=F.H ⟨c.clone,[]⟩:=by rw [← hF]; rfl
 have hFx:EFX F x tr:=by rw [← hF]; exact ⟨rfl,rfl,rfl,ch⟩
 have hFt:F.t=t:=by rw [← hF]; rfl
 have hFb:F.b=3:=by rw [← hF]; rfl
 have hc0 : ∀ s,objV (F.H s) 0 3=some (clC c):=fun s=>by rw [← hF]; exact zwlr
 have hcl:clC c.clone=[c.clone.g.dv 6 grC,c.clone.i.dv 37 inC,.int .i64 c.clone.next]:=rfl
 have hxi:xiC x=[.int .i64 x.at_,x.e.dv 105 ixC]:=rfl
 have hoc:oneC 3 true (clC c)=some (.agg (clC c)):=rfl
 have hox:oneC 2 true (xiC x)=some (.agg (xiC x)):=rfl
 have hog:oneC 1 false (clC c)=some (c.g.dv 6 grC):=rfl
 have hlg : ∀ H,lenD H (c.g.dv 6 grC)=some (.int .i64 c.g.l.length):=fun H=>zupj
 have hlx:(xiC x).length=2:=rfl
 have hbd:zvnk [.nils,.nils,.int .i64 0,.int .i64 0,.nils,.nils,.int .i64 0,.nils] [(0,3,.agg (clC c.clone)),(3,2,.agg (xiC x)),(5,1,tr.dv 35 trC),(6,1,.int .i64 t)]=some (.agg [c.clone.g.dv 6 grC,c.clone.i.dv 37 inC,.int .i64 c.clone.next,.int .i64 x.at_,x.e.dv 105 ixC,tr.dv 35 trC,.int .i64 t,.nils]):=zuzx
 refine zbn1 (V_W mix zr5o ?_)
 simp (disch:=first|omega|simp<;>omega|fail) [-zA,-zB,-zC,-zD,-zE,a25,zy11,hpx,hlx]
 refine zbn1 (V_W mix z6bs ?_)
 simp (disch:=first|omega|simp<;>omega|fail) [-zA,-zB,-zC,-zD,-zE,hoc,hox,zm45,zewe,zy11,hpx,hpt,hlx,hbd,hH0]
 have hL:=z9p7 (gr:=gr.l) (t:=t) (l:=c.i.l) (j:=0)
 have hov:=z90w ov
 have hr0:rnd0 gr.l t c=(ze9z c.i.l 0 gr.l t).foldl (zyao F.t) ⟨c.clone,[]⟩:=by rw [hFt]; rfl
 have hrp:rndP tr.l x.e.l gr.l t c=rndS tr.l x.e.l t c c.g.l.length (rnd0 gr.l t c):=rfl
 obtain ⟨L,hLL⟩ : ∃ L,ze9z c.i.l 0 gr.l t=L:=⟨_,rfl⟩
 have hov:zrio [.agg (clC c),gr.dv,.int .i64 t]=some (liV (ze9z c.i.l 0 gr.l t)):=hov
 rw [hLL] at hL hov hr0
 have hp0:=zurr F L ⟨c.clone,[]⟩ (by omega) (by show 0≤90000; omega)
 rw [← hr0] at hp0
 obtain ⟨s0,hs0⟩ : ∃ s0,rnd0 gr.l t c=s0:=⟨_,rfl⟩
 rw [hs0] at hp0 hrp gp
 rw [hrp]
 obtain ⟨TA,fA,sA,a1,a2,a3⟩:=exTH z6bs hp0
 have a4:=a3 54 (by decide)
 rw [z4nh] at a4
 rw [hFb] at a2
 refine zbn1 (V_W mix sA ?_)
 simp (disch:=first|omega|simp<;>omega|fail) [-zA,-zB,-zC,-zD,-zE,hc0,hoc,a1,a2,a4,hov,zy11,hpg]
 refine zbn1 (zbn1 (V_W mix zr5o ?_))
 simp (disch:=first|omega|simp<;>omega|fail) [-zA,-zB,-zC,-zD,-zE,hc0,hog,hlg]
 have hgb:=c.g.b
 have hset : ∀ s R' (hR':zbao R'=true),∃ F':EF,F'=frE c x tr t R' hR'∧(F.H s).set 2 (.cells R')=F'.H s:=fun s R' hR'=>⟨_,rfl,by rw [← hF]; rfl⟩
 have h2 : ∀ s,objV (F.H s) 2 3=some [.nils,.nils,.int .i64 0]:=fun s=>by rw [← hF]; exact zq2g rfl
 have h3 : ∀ s,objV (F.H s) 3 8=some (F.rd s.c (oV 4 34 s.o)):=fun s=>by have:=EF.obj0 (F:=F) (c:=s.c) (q:=oV (F.b+1) 34 s.o) (o:=s.o); rw [hFb] at this; show objV (F.G s.c (oV (F.b+1) 34 s.o) s.o) 3 8=_; rw [hFb]; exact this
 have hs0c : ∀ (C:Clu) (h:List AObj) (id:Nat),zy6o h id 3 0 (.agg (clC C)) (some [.nils,.nils,.int .i64 0])=some (.junk,h.set id (.cells (clC C))):=fun C h id=>zfc1 rfl rfl (by simp [clC,z4ja])
 have gp : ∀ k,k<c.g.l.length→GrOK F.t (rndS tr.l x.e.l F.t c k s0) k (ze6v c k):=by rw [hFt]; exact gp
 rw [show rndS tr.l x.e.l t c c.g.l.length s0=rndS tr.l x.e.l F.t c c.g.l.length s0 by rw [hFt]]
 refine z3mo (ztbr (zo1m F c x tr s0) (fun i=>c.g.l.length-i) (fun i=>i≤c.g.l.length) 0 (z515 (by simp (disch:=first|omega|simp<;>omega|fail) [-zA,-zB,-zC,-zD,-zE,zo1m,z3xo]) (by simp (disch:=first|omega|simp<;>omega|fail) [-zA,-zB,-zC,-zD,-zE,zo1m,z3xo,rndS])) (y03 _) (fun i hi => ?_))
 simp only [zo1m]
 have hn:rndS tr.l x.e.l F.t c (i+1) s0=grpS tr.l x.e.l F.t i (ze6v c i) (rndS tr.l x.e.l F.t c i s0):=rfl
 by_cases g:i<c.g.l.length
 case neg =>
  have g':¬ (i:Int)<c.g.l.length:=by omega
  obtain rfl:i=c.g.l.length:=by omega
  obtain ⟨s1,hs1⟩ : ∃ s1,rndS tr.l x.e.l F.t c c.g.l.length s0=s1:=⟨_,rfl⟩
  rw [hs1]
  refine zbn1 (V_W mix zr5o ?_)
  simp (disch:=first|omega|simp<;>omega|fail) [-zA,-zB,-zC,-zD,-zE,zr8m,z3xo,g,g']
  refine zbn1 (V_W mix zr5o ?_)
  simp (disch:=first|omega|simp<;>omega|fail) [-zA,-zB,-zC,-zD,-zE]
  refine zbn1 (V_W mix zr5o ?_)
  obtain ⟨F',hF',hset⟩:=hset s1 (clC s1.c) (zy11 s1.c)
  simp (disch:=first|omega|simp<;>omega|fail) [-zA,-zB,-zC,-zD,-zE,h2,h3,EF.one3,EF.one7,hs0c,hset,zy11]
  have hO:objV ([]++F'.H s1) 2 (clC s1.c).length=some (clC s1.c):=by rw [hF']; exact zq2g rfl
  have e1:mk1 (kLt 0) (F'.H s1) (.mp 2 3 0) = .ref (clC s1.c):=zh5h (H:=[]) (R:=F'.H s1) (cs:=clC s1.c) (cs':=clC s1.c) (id:=2) (off:=0) hO (y03 _) (zl6f (zy11 s1.c))
  have e2:mk1 (kLt 0) (F'.H s1) (oV 4 34 s1.o)=cmV s1.o:=by rw [hF']; exact zuvu
  refine z0em (n0:=0) (H:=[]) (R:=F'.H s1) (t':=js 10++[.ref (clC s1.c),cmV s1.o]++js 33) rfl (y03 _) ?_ (by simp (disch:=first|omega|simp<;>omega|fail) [-zA,-zB,-zC,-zD,-zE,belowL,Am.below,z8b8 _ _ (zx70 s1.o),zmq5 _ _ (zy11 s1.c)]) ?_
  ·simp (disch:=first|omega|simp<;>omega|fail) [-zA,-zB,-zC,-zD,-zE,e1,e2,-z1bt,-zdpe]
  refine V_W mix zr5o ?_
  simp (disch:=first|omega|simp<;>omega|fail) [-zA,-zB,-zC,-zD,-zE,a25,rdV,hoc,z6nl (zx70 s1.o)]
 have g':(i:Int)<c.g.l.length:=by omega
 have hg:=zyoa F x tr hFx (rndS tr.l x.e.l F.t c i s0) i (ze6v c i) (gp i g)
 rw [← hn,hFb] at hg
 obtain ⟨s1,hs1⟩ : ∃ s1,rndS tr.l x.e.l F.t c i s0=s1:=⟨_,rfl⟩
 obtain ⟨s2,hs2⟩ : ∃ s2,rndS tr.l x.e.l F.t c (i+1) s0=s2:=⟨_,rfl⟩
 rw [hs1,hs2] at hg
 rw [hs1]
 obtain ⟨TB,fB,sB,b1,b2,b3⟩:=exTH zr5o hg
 refine zbn1 (V_W mix zr5o ?_)
 simp (disch:=first|omega|simp<;>omega|fail) [-zA,-zB,-zC,-zD,-zE,zr8m,z3xo,g,g']
 refine zbn1 (V_W mix zr5o ?_)
 simp (disch:=first|omega|simp<;>omega|fail) [-zA,-zB,-zC,-zD,-zE]
 refine zbn1 (z3mo (zbn1 (V_W mix zr5o ?_)))
 simp (disch:=first|omega|simp<;>omega|fail) [-zA,-zB,-zC,-zD,-zE]
 refine V_W mix sB ?_
 simp (disch:=first|omega|simp<;>omega|fail) [-zA,-zB,-zC,-zD,-zE,b1,b2]
 refine V_W mix zr5o ?_
 simp (disch:=first|omega|simp<;>omega|fail) [-zA,-zB,-zC,-zD,-zE]
 refine ⟨i+1,z515 (by simp (disch:=first|omega|simp<;>omega|fail) [-zA,-zB,-zC,-zD,-zE,zo1m,z3xo]) (by simp (disch:=first|omega|simp<;>omega|fail) [-zA,-zB,-zC,-zD,-zE,zo1m,z3xo,hs2]),by omega,by omega⟩
end
section
set_option linter.unusedSimpArgs false
set_option linter.unusedVariables false
set_option maxRecDepth 20000
open Go Go.Am
end
section
set_option linter.unusedSimpArgs false
set_option linter.unusedVariables false
set_option maxRecDepth 100000
open Go Go.Am
def unW:List DV→Option (List B8)
 | []=>some []
 | .int .u8 n::r=>if 0≤n∧n<256 then (unW r).map (BitVec.ofInt 8 n :: ·) else none
 | _=>none
theorem zeu2 : ∀ {cs:List DV} {x:List B8},unW cs=some x→cs=x.map w8:=by
 intro cs
 induction cs with
 | nil=>intro x h; simp [unW] at h; subst h; rfl
 | cons d r ih =>
  intro x h
  unfold unW at h
  split at h
  ·rename_i e; cases e
  ·rename_i n r' e
   split at h
   ·rename_i hn
    simp only [List.cons.injEq] at e
    obtain ⟨rfl,rfl⟩:=e
    obtain ⟨y,hy,rfl⟩:=Option.map_eq_some_iff.1 h
    rw [y0v,← ih hy]
    have e1:((BitVec.ofInt 8 n).toNat:Int)=n:=by rw [BitVec.toNat_ofInt]; simp; omega
    have e2:w8 (BitVec.ofInt 8 n) = .int .u8 n:=by unfold w8; rw [e1]
    rw [e2]
   ·simp at h
  ·simp at h
def bcC:List DV→Option DV
 | [.sl _ 1 n cs,.sl _ 1 m ds]=>match unW cs,unW ds with
  | some x,some y=>if n=x.length∧m=y.length then some (.int .i64 (Lib.compareBytes (u8L x) (u8L y))) else none
  | _,_=>none
 | _=>none
theorem zqer {P:Program} {f:FuncId} (h : ∀ (x y:List B8) (fx fy:Bool),Am.Sem P f [.sl fx 1 x.length (x.map w8),.sl fy 1 y.length (y.map w8)] (.int .i64 (Lib.compareBytes (u8L x) (u8L y)))) : ∀ args v,bcC args=some v→Am.Sem P f args v:=by
 intro args v e
 unfold bcC at e
 split at e
 ·rename_i f1 n cs f2 m ds
  split at e
  ·rename_i x y hx hy
   split at e
   ·rename_i hl
    obtain ⟨rfl,rfl⟩:=hl
    simp at e; subst e
    rw [zeu2 hx,zeu2 hy]
    exact h x y f1 f2
   ·simp at e
  ·simp at e
 ·simp at e
def zwn1:List DV→Option DV
 | [.nils,.int .i64 n]=>if n=0 then some .nils else none
 | _=>none
theorem z6hw : ∀ args v,zwn1 args=some v→Am.Sem P 136 args v:=by
 intro args v e
 unfold zwn1 at e
 split at e
 ·rename_i n
  split at e
  ·rename_i h0
   subst h0
   simp at e; subst e
   refine zzfj ((z58y 0 (by decide)).mono fun d h q => ?_)
   rw [q.1,q.2]; rfl
  ·simp at e
 ·simp at e
def evL:List (Nat × AFn):=[(15,a15),(17,a17),(19,a19),(21,a21),(23,a23),(25,a25),(42,a42),(43,a43),(44,a44),(46,a46),(47,a47),(48,a48),(49,a49),(51,a51),(52,a52),(53,a53),(54,a54),(55,a55),(68,a68),(69,a69),(70,a70),(71,a71),(72,a72),(76,a76),(77,a77),(78,a78),(79,a79),(80,a80),(81,a81),(82,a82),(83,a83),(84,a84),(85,a85),(86,a86),(87,a87),(88,a88),(89,a89),(90,a90),(101,a101),(104,a104),(105,a105),(106,a106),(107,a107),(108,a108),(109,a109),(110,a110),(111,a111),(112,a112),(113,a113),(114,a114),(115,a115),(116,a116),(117,a117),(118,a118),(119,a119),(120,a120),(121,a121),(122,a122),(123,a123),(124,a124),(125,a125),(128,a128),(129,a129),(130,a130),(131,a131),(132,a132),(133,a133),(134,a134),(135,a135),(138,a138),(139,a139),(140,a140),(141,a141),(142,a142),(147,a147),(148,a148),(149,a149),(154,a154),(155,a155),(156,a156),(159,a159),(163,a163)]
def evC:List (Nat × (List DV→Option DV)):=[(164,ixbC),(102,bcC),(136,zwn1)]
theorem zz1q:OKL P evL:=⟨⟨_,Tryz.func15,zz37⟩,⟨_,Tryz.func17,zcaf⟩,⟨_,Tryz.func19,zlqi⟩,⟨_,Tryz.func21,zyfb⟩,⟨_,Tryz.func23,ztyx⟩,⟨_,Tryz.func25,zgum⟩,⟨_,Tryz.func42,zl17⟩,⟨_,Tryz.func43,zbv8⟩,⟨_,Tryz.func44,zeo7⟩,⟨_,Tryz.func46,znv1⟩,⟨_,Tryz.func47,zzqr⟩,⟨_,Tryz.func48,zwi2⟩,⟨_,Tryz.func49,zdc4⟩,⟨_,Tryz.func51,z8rx⟩,⟨_,Tryz.func52,zil0⟩,⟨_,Tryz.func53,zq51⟩,⟨_,Tryz.func54,zq4q⟩,⟨_,Tryz.func55,ze8s⟩,⟨_,Tryz.func68,z20i⟩,⟨_,Tryz.func69,z713⟩,⟨_,Tryz.func70,zhcw⟩,⟨_,Tryz.func71,zbtg⟩,⟨_,Tryz.func72,z0xs⟩,⟨_,Tryz.func76,zuum⟩,⟨_,Tryz.func77,z20a⟩,⟨_,Tryz.func78,zetr⟩,⟨_,Tryz.func79,zaq4⟩,⟨_,Tryz.func80,zpfu⟩,⟨_,Tryz.func81,zgev⟩,⟨_,Tryz.func82,zftu⟩,⟨_,Tryz.func83,z6eh⟩,⟨_,Tryz.func84,z3cy⟩,⟨_,Tryz.func85,zu0j⟩,⟨_,Tryz.func86,z2i3⟩,⟨_,Tryz.func87,zfhg⟩,⟨_,Tryz.func88,zqgj⟩,⟨_,Tryz.func89,z42j⟩,⟨_,Tryz.func90,z9pi⟩,⟨_,Tryz.func101,zzmu⟩,⟨_,Tryz.func104,z0mt⟩,⟨_,Tryz.func105,z9rf⟩,⟨_,Tryz.func106,zex6⟩,⟨_,Tryz.func107,z38u⟩,⟨_,Tryz.func108,zh50⟩,⟨_,Tryz.func109,zoj0⟩,⟨_,Tryz.func110,z7w3⟩,⟨_,Tryz.func111,zmlq⟩,⟨_,Tryz.func112,zhnv⟩,⟨_,Tryz.func113,zz1e⟩,⟨_,Tryz.func114,zgcx⟩,⟨_,Tryz.func115,zv17⟩,⟨_,Tryz.func116,z3rp⟩,⟨_,Tryz.func117,zt1q⟩,⟨_,Tryz.func118,zasg⟩,⟨_,Tryz.func119,zaj0⟩,⟨_,Tryz.func120,zrxr⟩,⟨_,Tryz.func121,zfl0⟩,⟨_,Tryz.func122,z2hw⟩,⟨_,Tryz.func123,zw8s⟩,⟨_,Tryz.func124,ze8k⟩,⟨_,Tryz.func125,zdaz⟩,⟨_,Tryz.func128,zv7v⟩,⟨_,Tryz.func129,z1y5⟩,⟨_,Tryz.func130,zndb⟩,⟨_,Tryz.func131,zsra⟩,⟨_,Tryz.func132,zr93⟩,⟨_,Tryz.func133,zl8e⟩,⟨_,Tryz.func134,zccp⟩,⟨_,Tryz.func135,z8cr⟩,⟨_,Tryz.func138,zno0⟩,⟨_,Tryz.func139,zt91⟩,⟨_,Tryz.func140,zvf9⟩,⟨_,Tryz.func141,zjg6⟩,⟨_,Tryz.func142,ztmv⟩,⟨_,Tryz.func147,z5yk⟩,⟨_,Tryz.func148,zy1q⟩,⟨_,Tryz.func149,zdm8⟩,⟨_,Tryz.func154,zmbu⟩,⟨_,Tryz.func155,zvdi⟩,⟨_,Tryz.func156,z9pj⟩,⟨_,Tryz.func159,zp3e⟩,⟨_,Tryz.func163,zzcs⟩,trivial⟩
theorem zvar:OKC P evC:=⟨zk1r fun s c=>zrq5 Tryz.func164 (by kernel_rfl) (by kernel_rfl) (by kernel_rfl) (by kernel_rfl) s c,zqer fun x y fx fy=>zf9q Tryz.func102 (by kernel_rfl) (by kernel_rfl) (by kernel_rfl) (by kernel_rfl) x y fx fy,z6hw,trivial⟩
theorem zbgd:semE evL evC 400 21 []=some (.bool true):=by kernel_rfl
theorem zul1:Am.Sem P 21 [] (.bool true):=z4ur mix zz1q zvar zbgd
end
section
set_option linter.unusedSimpArgs false
set_option linter.unusedVariables false
open Go Go.Am
def S660 (x:Sl Dg) (d:Dg) (i:Nat):St:=zudq (x.dv 32 dgC) (.mp 0 32 0) (.int .i64 i) [.cells (dgC d)]
theorem zdpu (x:Sl Dg) (d:Dg):Runs tbl0 a50 [x.dv 32 dgC,.agg (dgC d)] (.bool (decide (d ∈ x.l))):=by
 refine ⟨?_⟩
 have hb:=x.b
 simp (disch:=first|omega|simp<;>omega|fail) [-zA,-zB,-zC,-zD,-zE,a50]
 refine zlm5 (S660 x d) (fun i=>x.l.length-i) (fun i=>i≤x.l.length ∧ ∀ j (hj:j<x.l.length),j<i→¬ x.l[j]=d) 0 (z515 (by simp (disch:=first|omega|simp<;>omega|fail) [-zA,-zB,-zC,-zD,-zE,S660,zudq]) (by simp (disch:=first|omega|simp<;>omega|fail) [-zA,-zB,-zC,-zD,-zE,S660,zudq])) ⟨by omega,fun j _ hj=>by omega⟩ (fun i hi => ?_)
 obtain ⟨h1,h2⟩:=hi
 simp (disch:=first|omega|simp<;>omega|fail) [-zA,-zB,-zC,-zD,-zE,z5j4,zudq,S660]
 by_cases h:i<x.l.length
 ·have h':(i:Int)<x.l.length:=by omega
  have hg : ∀ H,zpsc H 32 (x.dv 32 dgC) i=some (.ref (dgC x.l[i])):=fun H=>zalo z1t1 h
  by_cases e:x.l[i]=d
  ·have hm:d ∈ x.l:=e▸y0e h
   simp (disch:=first|omega|simp<;>omega|fail) [-zA,-zB,-zC,-zD,-zE,h',h,hg,e,hm]
  ·simp (disch:=first|omega|simp<;>omega|fail) [-zA,-zB,-zC,-zD,-zE,h',h,hg,e]
   refine ⟨i+1,z515 (by simp (disch:=first|omega|simp<;>omega|fail) [-zA,-zB,-zC,-zD,-zE,S660,zudq]) (by simp (disch:=first|omega|simp<;>omega|fail) [-zA,-zB,-zC,-zD,-zE,S660,zudq]),by omega,by omega,fun j hj hji => ?_⟩
   by_cases ej:j=i
   ·subst ej; exact e
   ·exact h2 j hj (by omega)
 ·have h':¬ (i:Int)<x.l.length:=by omega
  have hm:¬ d ∈ x.l:=fun hm=>by
   obtain ⟨j,hj,e⟩:=y0o hm
   exact h2 j hj (by omega) e
  simp (disch:=first|omega|simp<;>omega|fail) [-zA,-zB,-zC,-zD,-zE,h,h',hm]
noncomputable def cHas:List DV→Option DV:=con (fun _=>True) (fun a:Sl Dg × Dg=>[a.1.dv 32 dgC,.agg (dgC a.2)]) (fun a => .bool (decide (a.2 ∈ a.1.l)))
theorem zqi6 {x:Sl Dg} {d:Dg}:cHas [x.dv 32 dgC,.agg (dgC d)]=some (.bool (decide (d ∈ x.l))) :=
 zsn4 (f:=fun a:Sl Dg × Dg=>[a.1.dv 32 dgC,.agg (dgC a.2)]) (g:=fun a => .bool (decide (a.2 ∈ a.1.l))) (by
  rintro ⟨a,b⟩ ⟨c,d⟩ e
  simp only [List.cons.injEq,DV.agg.injEq,and_true] at e
  rw [z42k e.1,zib9 e.2]) (x,d)
theorem zi6e:(Con.pure cHas).Sound P 50:=z2au fun a _=>zljw mix zr5o Tryz.func50 z12y (zdpu a.1 a.2)
theorem zgo4 {a b:B8}:a.toNat.toUInt8<b.toNat.toUInt8↔a<b:=by
 have ha:=a.isLt
 have hb:=b.isLt
 rw [UInt8.lt_iff_toNat_lt,BitVec.lt_def]
 simp only [Nat.toUInt8_eq,UInt8.toNat_ofNat',y0j ha,y0j hb]
theorem z29k : ∀ (a b:List B8) (i:Nat) (h1:i<a.length) (h2:i<b.length),(∀ j (h1:j<a.length) (h2:j<b.length),j<i→a[j]=b[j])→¬ a[i]=b[i]→Op.bytesLess (a.map fun b=>b.toNat.toUInt8) (b.map fun b=>b.toNat.toUInt8)=decide (a[i]<b[i])
 | [],_,_,h1,_,_,_=>by simp at h1
 | _::_,[],_,_,h2,_,_=>by simp at h2
 | x::a,y::b,0,_,_,_,hn=>by
  simp only [y0g] at hn ⊢
  have hxy:¬ x.toNat.toUInt8=y.toNat.toUInt8:=fun e=>hn (zvz3 e)
  simp only [y0v,Op.bytesLess,zgo4]
  simp [hxy,hn]
 | x::a,y::b,i+1,h1,h2,he,hn=>by
  have e0:=he 0 (by simp) (by simp) (by omega)
  simp only [y0g] at e0
  subst e0
  have:=z29k a b i (by simpa using h1) (by simpa using h2) (fun j p q hj=>he (j+1) (Nat.succ_lt_succ p) (Nat.succ_lt_succ q) (by omega)) (by simpa using hn)
  simp only [y0v,Op.bytesLess,List.getElem_cons_succ,this]
  simp
theorem zwa6 {a b:Dg} {i:Nat} (hi:i<32) (he : ∀ j (hj:j<32),j<i→a.1[j]'(by rw [a.2]; exact hj)=b.1[j]'(by rw [b.2]; exact hj)) (hn:¬ a.1[i]'(by rw [a.2]; exact hi)=b.1[i]'(by rw [b.2]; exact hi)):dgLt a b=decide (a.1[i]'(by rw [a.2]; exact hi)<b.1[i]'(by rw [b.2]; exact hi)) :=
 z29k a.1 b.1 i _ _ (fun j p q hj=>he j (by rw [a.2] at p; exact p) hj) hn
theorem zz16 {a b:Dg} (he : ∀ j (hj:j<32),a.1[j]'(by rw [a.2]; exact hj)=b.1[j]'(by rw [b.2]; exact hj)):a=b :=
 Subtype.ext (List.ext_getElem (by rw [a.2,b.2]) fun j p q=>he j (by rw [a.2] at p; exact p))
theorem z00n {a:Dg} {i:Nat} (hi:i<32):oneC 1 false ((dgC a).drop i)=some (w8 (a.1[i]'(by rw [a.2]; exact hi))):=by
 have hl:i<(dgC a).length:=by rw [z1t1]; exact hi
 rw [List.drop_eq_getElem_cons hl]
 simp [oneC,dgC]
def S661 (a b:Dg) (i:Nat):St:=zu12 (.mp 0 32 0) (.mp 1 32 0) (.int .i64 i) [.cells (dgC a),.cells (dgC b)]
theorem zy8c (a b:Dg):Runs tbl0 a75 [.agg (dgC a),.agg (dgC b)] (.bool (dgLt a b)):=by
 refine ⟨?_⟩
 simp (disch:=first|omega|simp<;>omega|fail) [-zA,-zB,-zC,-zD,-zE,a75]
 refine zlm5 (S661 a b) (fun i=>32-i) (fun i=>i≤32 ∧ ∀ j (hj:j<32),j<i→a.1[j]'(by rw [a.2]; exact hj)=b.1[j]'(by rw [b.2]; exact hj)) 0 (z515 (by simp (disch:=first|omega|simp<;>omega|fail) [-zA,-zB,-zC,-zD,-zE,S661,zu12]) (by simp (disch:=first|omega|simp<;>omega|fail) [-zA,-zB,-zC,-zD,-zE,S661,zu12])) ⟨by omega,fun j _ hj=>by omega⟩ (fun i hi => ?_)
 obtain ⟨h1,h2⟩:=hi
 simp only [S661]
 by_cases h:i<32
 ·have h':(i:Int)<32:=by omega
  have o1:=z00n (a:=a) h
  have o2:=z00n (a:=b) h
  have la:=z1t1 a
  have lb:=z1t1 b
  by_cases e:a.1[i]'(by rw [a.2]; exact h)=b.1[i]'(by rw [b.2]; exact h)
  ·rw [e] at o1
   simp (disch:=first|omega|simp<;>omega|fail) [-zA,-zB,-zC,-zD,-zE,zjzl,zu12,h,h',o1,o2,la,lb]
   refine ⟨i+1,z515 (by simp (disch:=first|omega|simp<;>omega|fail) [-zA,-zB,-zC,-zD,-zE,S661,zu12]) (by simp (disch:=first|omega|simp<;>omega|fail) [-zA,-zB,-zC,-zD,-zE,S661,zu12]),by omega,by omega,fun j hj hji => ?_⟩
   by_cases ej:j=i
   ·subst ej; exact e
   ·exact h2 j hj (by omega)
  ·have hr:=zwa6 h h2 e
   obtain ⟨u,hu⟩ : ∃ u,a.1[i]'(by rw [a.2]; exact h)=u:=⟨_,rfl⟩
   obtain ⟨v,hv⟩ : ∃ v,b.1[i]'(by rw [b.2]; exact h)=v:=⟨_,rfl⟩
   rw [hu] at o1 e hr
   rw [hv] at o2 e hr
   have e':(u == v)=false:=by simp [e]
   have e'':(u != v)=true:=by simp [e]
   simp (disch:=first|omega|simp<;>omega|fail) [-zA,-zB,-zC,-zD,-zE,zjzl,zu12,h,h',o1,o2,e,e',e'',hr,la,lb]
 ·have h':¬ (i:Int)<32:=by omega
  have he:a=b:=zz16 fun j hj=>h2 j hj (by omega)
  have hr:dgLt a b=false:=by rw [he]; exact zc3a.irr b
  simp (disch:=first|omega|simp<;>omega|fail) [-zA,-zB,-zC,-zD,-zE,zjzl,zu12,h,h',hr]
noncomputable def zta3:List DV→Option DV:=con (fun _=>True) (fun a:Dg × Dg=>[.agg (dgC a.1),.agg (dgC a.2)]) (fun a => .bool (dgLt a.1 a.2))
theorem z577 {a b:Dg}:zta3 [.agg (dgC a),.agg (dgC b)]=some (.bool (dgLt a b)) :=
 zsn4 (f:=fun a:Dg × Dg=>[.agg (dgC a.1),.agg (dgC a.2)]) (g:=fun a => .bool (dgLt a.1 a.2)) (by
  rintro ⟨a,b⟩ ⟨c,d⟩ e
  simp only [List.cons.injEq,DV.agg.injEq,and_true] at e
  rw [zib9 e.1,zib9 e.2]) (a,b)
theorem zp63:(Con.pure zta3).Sound P 75:=z2au fun a _=>zljw mix zr5o Tryz.func75 zrvd (zy8c a.1 a.2)
end
section
set_option linter.unusedSimpArgs false
set_option linter.unusedVariables false
set_option maxRecDepth 20000
open Go Go.Am
def lsP (a b:Rqs):Bool:=if a.ns=b.ns then (if a.im=b.im then dgLt a.art b.art else Op.bytesLess a.im b.im) else Op.bytesLess a.ns b.ns
noncomputable def zj8s:Tbl:=addT 75 (.pure zta3) tbl0
theorem zkv1:zj8s 75 = .pure zta3:=by simp [zj8s]
theorem zb6d:zj8s.Sound P:=z0rp zp63 zr5o
theorem zvpk (x:Rqs):oneC 32 true ((rqC x).drop 2)=some (.agg (dgC x.art)):=by
 have h:(rqC x).drop 2=dgC x.art:=rfl
 rw [h]; simp [oneC,z1t1,y00]
theorem zmwt (a b:Rqs):Runs zj8s a100 [.agg (rqC a),.agg (rqC b)] (.bool (lsP a b)):=by
 refine ⟨?_⟩
 have hb : ∀ h (x:Rqs),boxD h (.agg (rqC x))=some (.mp h.length 34 0,h++[.cells (rqC x)]):=fun h x=>by rw [zn72,zzeg]
 unfold lsP
 by_cases e1:a.ns=b.ns
 ·by_cases e2:a.im=b.im
  ·simp (disch:=first|omega|simp<;>omega|fail) [-zA,-zB,-zC,-zD,-zE,a100,hb,zzeg,z8s0,zonr,zvpk,e1,e2,zkv1,z577,z3ot]
  ·simp (disch:=first|omega|simp<;>omega|fail) [-zA,-zB,-zC,-zD,-zE,a100,hb,zzeg,z8s0,zonr,zvpk,e1,e2]
 ·simp (disch:=first|omega|simp<;>omega|fail) [-zA,-zB,-zC,-zD,-zE,a100,hb,zzeg,z8s0,zonr,zvpk,e1]
noncomputable def cLes:List DV→Option DV:=con (fun _=>True) (fun a:Rqs × Rqs=>[.agg (rqC a.1),.agg (rqC a.2)]) (fun a => .bool (lsP a.1 a.2))
theorem zl2q {a b:Rqs}:cLes [.agg (rqC a),.agg (rqC b)]=some (.bool (lsP a b)) :=
 zsn4 (f:=fun a:Rqs × Rqs=>[.agg (rqC a.1),.agg (rqC a.2)]) (g:=fun a => .bool (lsP a.1 a.2)) (by
  rintro ⟨a,b⟩ ⟨c,d⟩ e
  simp only [List.cons.injEq,DV.agg.injEq,and_true] at e
  rw [z82b e.1,z82b e.2]) (a,b)
noncomputable def z9sr:Tbl:=addT 100 (.pure cLes) tbl0
theorem zxqk:z9sr 100 = .pure cLes:=by simp [z9sr]
theorem zbxv:z9sr.Sound P:=z0rp (z2au fun a _=>zljw mix zb6d Tryz.func100 zec4 (zmwt a.1 a.2)) zr5o
theorem zaif {a b:Rqs}:lsP a b=decide (or3I (zavf a.ns b.ns) (zavf a.im b.im) (zsy0 a.art b.art)<0):=by
 unfold lsP or3I
 by_cases e1:a.ns=b.ns
 ·rw [if_pos e1,if_pos (zmen.2 e1)]
  by_cases e2:a.im=b.im
  ·rw [if_pos e2,if_pos (zmen.2 e2)]
   cases h:dgLt a.art b.art with
   | true=>exact (decide_eq_true (zxr9.2 h)).symm
   | false=>exact (decide_eq_false fun q=>by rw [zxr9.1 q] at h; cases h).symm
  ·rw [if_neg e2,if_neg (fun q=>e2 (zmen.1 q))]
   cases h:Op.bytesLess a.im b.im with
   | true=>exact (decide_eq_true (z5ha.2 h)).symm
   | false=>exact (decide_eq_false fun q=>by rw [z5ha.1 q] at h; cases h).symm
 ·rw [if_neg e1,if_neg (fun q=>e1 (zmen.1 q))]
  cases h:Op.bytesLess a.ns b.ns with
  | true=>exact (decide_eq_true (z5ha.2 h)).symm
  | false=>exact (decide_eq_false fun q=>by rw [z5ha.1 q] at h; cases h).symm
def insK (e:Rqs) (l:List Ixe):Nat→Nat
 | 0=>0
 | k+1=>match l[k]? with
  | some y=>if lsP e (ixR y)=true then insK e l k else k+1
  | none=>k+1
def insX (l:List Ixe) (e:Ixe):List Ixe:=l.take (insK (ixR e) l l.length)++([e]++l.drop (insK (ixR e) l l.length))
theorem z13x {e:Rqs} {l:List Ixe} : ∀ k,insK e l k≤k
 | 0=>y01 _
 | k+1=>by
  unfold insK
  split
  ·split
   ·have:=z13x (e:=e) (l:=l) k; omega
   ·omega
  ·omega
theorem z16q {l:List Ixe} {e:Ixe}:(insX l e).length=l.length+1:=by
 have:=z13x (e:=ixR e) (l:=l) l.length
 simp [insX]; omega
def isV (l:List Ixe):DV:=if l=[] then .nils else .sl false 105 l.length (l.flatMap ixC)
theorem zahc {id ver off k K:Nat} {l:List Ixe} (h:id≠k):z87v (.mp id ver off) (oV k K l)=true:=by
 unfold oV
 split
 ·simp [z87v,zi6q]
 ·simp [z87v,zi6q,h]
theorem zch3 {k K:Nat} {Y:Sl Ixe} {l:List Ixe}:z87v (Y.dv 105 ixC) (oV k K l)=true:=by
 obtain ⟨b,m,h,hb⟩:=Y
 cases b<;>(unfold oV; split<;>simp [z87v,zi6q,Sl.dv,slD])
theorem zhac (x:Ixe):(ixC x).all DV.one=true:=by
 simp only [ixC,ixZ,y0u,List.all_append,zoxk,y02,y0f]
 simp
theorem z2nl {a b c:AObj} {L:List Ixe} (hL:L≠[]) {k:Nat}:snap (a::b::c::oT ixC L) (k+1) (oV 3 105 L)=some (isV L):=by
 rw [zpni hL,zu2l hL,zve7]
 have ho:objV (a::b::c::[AObj.cells (fl ixC L)]) 3 (L.length*105)=some (fl ixC L):=by
  simp [objV,ziu0,z8lx zwe8]
 have ht:(fl ixC L).take (L.length*105)=L.flatMap ixC:=y00 (by rw [z8lx zwe8]; omega)
 rw [ho,y0h,y05,ht,z619 (zp6k z0ob L),Option.map_some]
 unfold isV
 rw [if_neg hL]
theorem zxqy (x:Idx) (e:Ixe) (K:Nat) (κ:Int) (hκ:κ=K) (hK:K≤x.e.l.length) (hb:x.e.l.length≤100000) (a b c:AObj) :
  ∃ (Y1 Y2:Sl Ixe) (V1 V2 V3:DV) (X1 X2 X3:List AObj),
   (∀ H,z390 H 105 (x.e.dv 105 ixC) none (some (.int .i64 κ)) none=some (Y1.dv 105 ixC)) ∧
   (∀ H,z390 H 105 (x.e.dv 105 ixC) (some (.int .i64 κ)) none none=some (Y2.dv 105 ixC)) ∧
   (appX [a,b,c] 105 232 .nils Y1.l.length (Y1.l.flatMap ixC)=some (V1,a::b::c::X1)) ∧
   (appX (a::b::c::X1) 105 232 V1 1 (ixC e)=some (V2,a::b::c::X2)) ∧
   (appX (a::b::c::X2) 105 232 V2 Y2.l.length (Y2.l.flatMap ixC)=some (V3,a::b::c::X3)) ∧
   (z87v (.mp 1 105 0) V1=true∧z87v (.mp 0 2 0) V1=true∧z87v (.mp 0 2 1) V1=true∧z87v (x.e.dv 105 ixC) V1=true∧z87v (.mp 0 2 0) V2=true∧z87v (.mp 0 2 1) V2=true∧z87v (x.e.dv 105 ixC) V2=true) ∧
   V3.cells=[V3]∧V3.one=true∧(∀ a' c' k,snap (a'::b::c'::X3) (k+1) V3=some (isV (x.e.l.take K++([e]++x.e.l.drop K)))):=by
 subst hκ
 refine ⟨x.e.part 0 K (K == x.e.l.length),x.e.part K x.e.l.length (x.e.l.length == x.e.l.length),oV 3 105 (x.e.l.take K),oV 3 105 (x.e.l.take K++[e]),oV 3 105 (x.e.l.take K++[e]++x.e.l.drop K),oT ixC (x.e.l.take K),oT ixC (x.e.l.take K++[e]),oT ixC (x.e.l.take K++[e]++x.e.l.drop K),fun H=>z0ke zwe8 (by simp [zo77,iD]; omega) hK,fun H=>z0ke zwe8 (by simp [zo77,iD]; omega) (y01 _),?_,?_,?_,?_,zy42,z6jg,?_⟩
 ·have:=z612 (k:=3) (K:=105) (b:=232) (f:=ixC) (l:=[]) (cs:=x.e.l.take K) (h:=[a,b,c]) rfl zwe8 (by decide) (by decide) zhac (by simp; omega)
  simpa [zkrk,zl8p,Sl.part] using this
 ·have:=zte0 (k:=3) (K:=105) (b:=232) (f:=ixC) (l:=x.e.l.take K) (x:=e) (h:=[a,b,c]) rfl zwe8 (by decide) (by decide) zhac (by simp; omega)
  exact this
 ·have:=z612 (k:=3) (K:=105) (b:=232) (f:=ixC) (l:=x.e.l.take K++[e]) (cs:=x.e.l.drop K) (h:=[a,b,c]) rfl zwe8 (by decide) (by decide) zhac (by simp; omega)
  have e2:(x.e.part K x.e.l.length (x.e.l.length == x.e.l.length)).l=x.e.l.drop K:=by simp [Sl.part,y00]
  rw [e2]; exact this
 ·exact ⟨zahc (by decide),zahc (by decide),zahc (by decide),zch3,zahc (by decide),zahc (by decide),zch3⟩
 ·intro a' c' k
  rw [z2nl (by simp)]
  simp
theorem zgih {z:List DV} {x:Ixe} (hz:z.length=105):bslD 105 1 z [(0,105,.agg (ixC x))]=some (.sl true 105 1 (ixC x)):=by
 rw [z7bw (by simp [DV.known]) (by simp [seqD,DV.cells,hz,zwe8])]; simp [seqD,DV.cells,zwe8]
theorem st_e (x:Idx) (V:DV) (h1:V.cells=[V]) (h2:V.one=true) (H:List AObj):zy6o H 0 1 1 V (some (xiC x))=some (.junk,H.set 0 (.cells [.int .i64 x.at_,V])):=by
 rw [Am.storeO_1 h1 h2 (by show 1<2; decide)]; rfl
theorem st_x (n:Int) (V:DV) (h2:V.one=true) (H:List AObj):zy6o H 2 2 0 (.agg [.int .i64 n,V]) (some [.int .i64 0,.nils])=some (.junk,H.set 2 (.cells [.int .i64 n,V])):=zfc1 rfl rfl (by simp [h2])
theorem zy5o (n:Int) (V:DV):oneC 2 true [.int .i64 n,V]=some (.agg [.int .i64 n,V]):=rfl
def z5jo (x:Idx) (e:Ixe) (k:Nat):St:=zbq4 (.mp 0 2 0) (.mp 1 105 0) (.mp 2 2 0) (.int .i64 k) [.cells (xiC x),.cells (ixC e),.cells [.int .i64 0,.nils]]
theorem z6bp (x:Idx) (e:Ixe) (hb:x.e.l.length≤100000):Runs z9sr a67 [.agg (xiC x),.agg (ixC e)] (.agg [.int .i64 x.at_,isV (insX x.e.l e)]):=by
 refine ⟨?_⟩
 have hbx : ∀ h,boxD h (.agg (xiC x))=some (.mp h.length 2 0,h++[.cells (xiC x)]):=fun h=>by rw [zn72]; rfl
 have hbe : ∀ h (x:Ixe),boxD h (.agg (ixC x))=some (.mp h.length 105 0,h++[.cells (ixC x)]):=fun h x=>by rw [zn72,zwe8]
 have hx2:(xiC x).length=2:=rfl
 have hx1:oneC 1 false ((xiC x).drop 1)=some (x.e.dv 105 ixC):=rfl
 have hln : ∀ H,lenD H (x.e.dv 105 ixC)=some (.int .i64 x.e.l.length):=fun H=>zupj
 have hlx:=fun y=>zwe8 y
 simp (disch:=first|omega|simp<;>omega|fail) [-zA,-zB,-zC,-zD,-zE,a67,hbx,hbe,hx1,hx2,hln,hlx]
 refine zlm5 (z5jo x e) (fun k=>k) (fun k=>k≤x.e.l.length∧insK (ixR e) x.e.l x.e.l.length=insK (ixR e) x.e.l k) x.e.l.length (z515 (by simp (disch:=first|omega|simp<;>omega|fail) [-zA,-zB,-zC,-zD,-zE,z5jo,zbq4]) (by simp (disch:=first|omega|simp<;>omega|fail) [-zA,-zB,-zC,-zD,-zE,z5jo,zbq4])) ⟨y01 _,rfl⟩ (fun k hk => ?_)
 obtain ⟨h1,h2⟩:=hk
 simp only [z5jo]
 cases k with
 | zero =>
  obtain ⟨Y1,Y2,V1,V2,V3,X1,X2,X3,f1,f2,f3,f4,f5,⟨p1,p2,p3,p4,p5,p6,p7⟩,g1,g2,g3⟩:=zxqy x e 0 0 rfl (by omega) hb (.cells (xiC x)) (.cells (ixC e)) (.cells [.int .i64 0,.nils])
  have hin:insX x.e.l e=x.e.l.take 0++([e]++x.e.l.drop 0):=by unfold insX; rw [h2]; rfl
  rw [← hin] at g3
  have hst:=fun H=>st_e x V3 g1 g2 H
  have hsx:=fun n H=>st_x n V3 g2 H
  simp (disch:=first|omega|simp<;>omega|fail) [-zA,-zB,-zC,-zD,-zE,zfle,zbq4,hx1,hx2,hlx,f1,f2,zwaa zwe8,f3,f4,f5,p1,p2,p3,p4,p5,p6,p7,g1,g2,g3,zect,zgih,hst,zy5o,hsx]
 | succ k =>
  have h':(0:Int)<(k:Int)+1:=by omega
  have hlt:k<x.e.l.length:=by omega
  have hi : ∀ H,zpsc H 105 (x.e.dv 105 ixC) k=some (.ref (ixC x.e.l[k])):=fun H=>zalo zwe8 hlt
  have hsub:((k+1:Nat):Int)-1=k:=by omega
  have hnx:insK (ixR e) x.e.l (k+1)=if lsP (ixR e) (ixR x.e.l[k])=true then insK (ixR e) x.e.l k else k+1:=by
   conv=>lhs; unfold insK
   rw [y04 hlt]
  have hc:=zl2q (a:=ixR e) (b:=ixR x.e.l[k])
  obtain ⟨y,hy⟩ : ∃ y,x.e.l[k]=y:=⟨_,rfl⟩
  rw [hy] at hi hnx hc
  obtain ⟨b,hbb⟩ : ∃ b,lsP (ixR e) (ixR y)=b:=⟨_,rfl⟩
  rw [hbb] at hnx hc
  have hpr:=fun z=>zhqv z
  cases b with
  | true =>
   rw [if_pos rfl] at hnx
   simp (disch:=first|omega|simp<;>omega|fail) [-zA,-zB,-zC,-zD,-zE,zfle,zbq4,hx1,hx2,hlx,h',zdyd,hsub,hi,zxqk,hc,hpr]
   refine ⟨k,z515 (by simp (disch:=first|omega|simp<;>omega|fail) [-zA,-zB,-zC,-zD,-zE,z5jo,zbq4]) (by simp (disch:=first|omega|simp<;>omega|fail) [-zA,-zB,-zC,-zD,-zE,z5jo,zbq4]),by omega,by omega,by rw [h2,hnx]⟩
  | false =>
   rw [if_neg (by simp)] at hnx
   obtain ⟨Y1,Y2,V1,V2,V3,X1,X2,X3,f1,f2,f3,f4,f5,⟨p1,p2,p3,p4,p5,p6,p7⟩,g1,g2,g3⟩:=zxqy x e (k+1) ((k:Int)+1) (by omega) (by omega) hb (.cells (xiC x)) (.cells (ixC e)) (.cells [.int .i64 0,.nils])
   have hin:insX x.e.l e=x.e.l.take (k+1)++([e]++x.e.l.drop (k+1)):=by unfold insX; rw [h2,hnx]
   rw [← hin] at g3
   have hst:=fun H=>st_e x V3 g1 g2 H
   have hsx:=fun n H=>st_x n V3 g2 H
   simp (disch:=first|omega|simp<;>omega|fail) [-zA,-zB,-zC,-zD,-zE,zfle,zbq4,hx1,hx2,hlx,h',zdyd,hsub,hi,zxqk,hc,hpr,f1,f2,zwaa zwe8,f3,f4,f5,p1,p2,p3,p4,p5,p6,p7,g1,g2,g3,zect,zgih,hst,zy5o,hsx]
end
section
set_option linter.unusedSimpArgs false
set_option linter.unusedVariables false
set_option maxRecDepth 20000
open Go Go.Am
noncomputable def cInx:List DV→Option DV:=con (fun a:Idx × Ixe=>a.1.e.l.length≤100000) (fun a=>[.agg (xiC a.1),.agg (ixC a.2)]) (fun a => .agg [.int .i64 a.1.at_,isV (insX a.1.e.l a.2)])
theorem zcfr {x:Idx} {e:Ixe} (h:x.e.l.length≤100000):cInx [.agg (xiC x),.agg (ixC e)]=some (.agg [.int .i64 x.at_,isV (insX x.e.l e)]) :=
 zzno (A:=fun a:Idx × Ixe=>a.1.e.l.length≤100000) (f:=fun a=>[.agg (xiC a.1),.agg (ixC a.2)]) (g:=fun a => .agg [.int .i64 a.1.at_,isV (insX a.1.e.l a.2)]) (by
  rintro ⟨a,b⟩ ⟨c,d⟩ e
  simp only [List.cons.injEq,DV.agg.injEq,and_true] at e
  rw [zt7p e.1,zv4z e.2]) (x,e) h
noncomputable def zlb5:Tbl:=addT 13 (.tch z1m3) (addT 67 (.pure cInx) tbl0)
theorem ziaj:zlb5 13 = .tch z1m3:=by simp [zlb5]
theorem z6wa:zlb5 67 = .pure cInx:=by simp [zlb5]
theorem zqkx:zlb5.Sound P:=z0rp z51e (z0rp (z2au fun a h=>zljw mix zbxv Tryz.func67 zy8u (z6bp a.1 a.2 h)) zr5o)
def entI (t:Tp) (c:Clu) (m:Nat):Ixe:=match c.g.l[m / 3]? with
 | some g=>⟨g.ns,g.im,dgB (((m % 3:Nat):Int)+1),decide (0<tpN (t.adv m) 3)⟩
 | none=>⟨[],[],dg0,false⟩
def idxL (t:Tp) (c:Clu):Nat→List Ixe
 | 0=>[]
 | m+1=>insX (idxL t c m) (entI t c m)
theorem zjjk {t:Tp} {c:Clu} : ∀ m,(idxL t c m).length=m
 | 0=>rfl
 | m+1=>by rw [idxL,z16q,zjjk m]
def isS (l:List Ixe) (h:l.length≤100000):Sl Ixe:=⟨if l=[] then none else some false,l,fun e=>by
 by_cases q:l=[]
 ·exact q
 ·simp [q] at e,by omega⟩
theorem zz41 {l:List Ixe} (h:l.length≤100000):(isS l h).dv 105 ixC=isV l:=by
 unfold isS isV Sl.dv
 by_cases q:l=[]
 ·simp only [q,if_true]; rfl
 ·simp only [q,if_false]; rfl
theorem zm03 (l:List Ixe):zyp8 (isV l)=true:=by
 unfold isV
 split
 ·rfl
 ·simp only [zyp8]; exact zp6k z0ob l
theorem zcwq (l:List Ixe):(isV l).one=true:=by unfold isV; split<;>rfl
theorem zxtu {z:List DV} {r:Rqs} (hz:z.length=34):zvnk z [(0,1,.str r.ns),(1,1,.str r.im),(2,32,.agg (dgC r.art))]=some (.agg (rqC r)):=by
 rw [zwos (by simp [DV.known]) (by simp [seqD,DV.cells,hz,z1t1])]; simp [seqD,DV.cells,rqC]
theorem znbs:ixZ=[w8 0#8,w8 0#8,w8 0#8,w8 0#8,w8 0#8,w8 0#8,w8 0#8,w8 0#8,w8 0#8,w8 0#8,w8 0#8,w8 0#8,w8 0#8,w8 0#8,w8 0#8,w8 0#8,w8 0#8,w8 0#8,w8 0#8,w8 0#8,w8 0#8,w8 0#8,w8 0#8,w8 0#8,w8 0#8,w8 0#8,w8 0#8,w8 0#8,w8 0#8,w8 0#8,w8 0#8,w8 0#8,.int .i64 0,w8 0#8,w8 0#8,w8 0#8,w8 0#8,w8 0#8,w8 0#8,w8 0#8,w8 0#8,w8 0#8,w8 0#8,w8 0#8,w8 0#8,w8 0#8,w8 0#8,w8 0#8,w8 0#8,w8 0#8,w8 0#8,w8 0#8,w8 0#8,w8 0#8,w8 0#8,w8 0#8,w8 0#8,w8 0#8,w8 0#8,w8 0#8,w8 0#8,w8 0#8,w8 0#8,w8 0#8,w8 0#8,.str [],.str [],.nils,.nils,.int .i64 0]:=by
 kernel_rfl
theorem zcjk {z A B:List DV} (hz:z.length=105) (hA:A.length=34) (hB:B.length=69):zvnk z [(0,34,.agg A),(34,69,.agg B)]=some (.agg (A++(B++z.drop 103))):=by
 simp [zvnk,zi03,zk7y,DV.known,DV.cells,hA,hB,hz,List.take_append,List.drop_append,y00,List.drop_of_length_le]
theorem bd_v {r:List DV} {b:Bool}:zvnk (.bool false::r) [(0,1,.bool b)]=some (.agg (.bool b::r)):=by
 simp [zvnk,zi03,zk7y,DV.known,DV.cells]
theorem z10m {r:Rqs} {b:Bool}:zvnk [.str [],.str [],w8 0#8,w8 0#8,w8 0#8,w8 0#8,w8 0#8,w8 0#8,w8 0#8,w8 0#8,w8 0#8,w8 0#8,w8 0#8,w8 0#8,w8 0#8,w8 0#8,w8 0#8,w8 0#8,w8 0#8,w8 0#8,w8 0#8,w8 0#8,w8 0#8,w8 0#8,w8 0#8,w8 0#8,w8 0#8,w8 0#8,w8 0#8,w8 0#8,w8 0#8,w8 0#8,w8 0#8,w8 0#8,.bool false,w8 0#8,w8 0#8,w8 0#8,w8 0#8,w8 0#8,w8 0#8,w8 0#8,w8 0#8,w8 0#8,w8 0#8,w8 0#8,w8 0#8,w8 0#8,w8 0#8,w8 0#8,w8 0#8,w8 0#8,w8 0#8,w8 0#8,w8 0#8,w8 0#8,w8 0#8,w8 0#8,w8 0#8,w8 0#8,w8 0#8,w8 0#8,w8 0#8,w8 0#8,w8 0#8,w8 0#8,w8 0#8,.int .i64 0,w8 0#8,w8 0#8,w8 0#8,w8 0#8,w8 0#8,w8 0#8,w8 0#8,w8 0#8,w8 0#8,w8 0#8,w8 0#8,w8 0#8,w8 0#8,w8 0#8,w8 0#8,w8 0#8,w8 0#8,w8 0#8,w8 0#8,w8 0#8,w8 0#8,w8 0#8,w8 0#8,w8 0#8,w8 0#8,w8 0#8,w8 0#8,w8 0#8,w8 0#8,w8 0#8,w8 0#8,w8 0#8,.str [],.str [],.nils,.nils,.int .i64 0] [(0,34,.agg (rqC r)),(34,69,.agg (.bool b::[w8 0#8,w8 0#8,w8 0#8,w8 0#8,w8 0#8,w8 0#8,w8 0#8,w8 0#8,w8 0#8,w8 0#8,w8 0#8,w8 0#8,w8 0#8,w8 0#8,w8 0#8,w8 0#8,w8 0#8,w8 0#8,w8 0#8,w8 0#8,w8 0#8,w8 0#8,w8 0#8,w8 0#8,w8 0#8,w8 0#8,w8 0#8,w8 0#8,w8 0#8,w8 0#8,w8 0#8,w8 0#8,.int .i64 0,w8 0#8,w8 0#8,w8 0#8,w8 0#8,w8 0#8,w8 0#8,w8 0#8,w8 0#8,w8 0#8,w8 0#8,w8 0#8,w8 0#8,w8 0#8,w8 0#8,w8 0#8,w8 0#8,w8 0#8,w8 0#8,w8 0#8,w8 0#8,w8 0#8,w8 0#8,w8 0#8,w8 0#8,w8 0#8,w8 0#8,w8 0#8,w8 0#8,w8 0#8,w8 0#8,w8 0#8,w8 0#8,.str [],.str [],.nils]))]=some (.agg (ixC ⟨r.ns,r.im,r.art,b⟩)):=by
 rw [zcjk (by simp) (zzeg r) (by simp)]
 rw [show ixC ⟨r.ns,r.im,r.art,b⟩=rqC r++(.bool b::ixZ) from by simp [ixC,rqC]]
 refine congrArg (fun x=>some (DV.agg (rqC r++x))) (congrArg (DV.bool b :: ·) ?_)
 rw [znbs]
 rfl
theorem zdpk (V W:DV) (h2:V.one=true) (H:List AObj):zy6o H 3 2 0 (.agg [.int .i64 0,V]) (some [.int .i64 0,W])=some (.junk,H.set 3 (.cells [.int .i64 0,V])):=zfc1 rfl rfl (by simp [h2])
def zcyu (t:Tp) (c:Clu) (i k m:Nat):St:=zbmj (.mp 0 2 0) (.mp 1 3 0) (.mp 2 2 0) (.mp 3 2 0) (.int .i64 i) (.int .i64 k) [.cells (tpC (t.adv m)),.cells (clC c),.cells [.int .i64 0,.nils],.cells [.int .i64 0,isV (idxL t c m)]]
def z38w (t:Tp) (c:Clu) (i:Nat):St:=zly3 (.mp 0 2 0) (.mp 1 3 0) (.mp 2 2 0) (.mp 3 2 0) (.int .i64 i) [.cells (tpC (t.adv (3*i))),.cells (clC c),.cells [.int .i64 0,.nils],.cells [.int .i64 0,isV (idxL t c (3*i))]]
theorem zimd (t:Tp) (c:Clu) (ht:t.at_<4000000000) (hn:c.g.l.length≤1000):RunsF zlb5 a39 [.mp 0 2 0,.agg (clC c)] [.cells (tpC t)] (.agg [.int .i64 0,isV (idxL t c (3*c.g.l.length))]) [.cells (tpC (t.adv (3*c.g.l.length)))]:=by
 refine ⟨?_⟩
 have hbc : ∀ h,boxD h (.agg (clC c))=some (.mp h.length 3 0,h++[.cells (clC c)]):=fun h=>by rw [zn72]; rfl
 have hg1:oneC 1 false (clC c)=some (c.g.dv 6 grC):=rfl
 have hlg : ∀ H,lenD H (c.g.dv 6 grC)=some (.int .i64 c.g.l.length):=fun H=>zupj
 obtain ⟨n,hne⟩ : ∃ n,c.g.l.length=n:=⟨_,rfl⟩
 rw [hne] at hn hlg ⊢
 have hl3:(clC c).length=3:=rfl
 simp (disch:=first|omega|simp<;>omega|fail) [-zA,-zB,-zC,-zD,-zE,a39,hbc]
 refine zlm5 (z38w t c) (fun i=>n-i) (fun i=>i≤n) 0 (z515 (by simp (disch:=first|omega|simp<;>omega|fail) [-zA,-zB,-zC,-zD,-zE,z38w,zly3]) (by simp (disch:=first|omega|simp<;>omega|fail) [-zA,-zB,-zC,-zD,-zE,z38w,zly3,zbrh,idxL,isV])) (by omega) (fun i hi => ?_)
 simp only [z38w]
 by_cases h:i<n
 case neg =>
  have h':¬ (i:Int)<n:=by omega
  obtain rfl:i=n:=by omega
  have hone:=zcwq (idxL t c (3*i))
  have hpu:=zm03 (idxL t c (3*i))
  obtain ⟨V,hV⟩ : ∃ V,isV (idxL t c (3*i))=V:=⟨_,rfl⟩
  rw [hV] at hone hpu ⊢
  have hsx:=fun n H=>st_x n V hone H
  have hfz : ∀ n k (H:List AObj),fz n H k V=some V:=fun n k H=>zqge hpu
  have hfl : ∀ (H:List AObj),fzL 1 H (tpC (t.adv (3*i))) (tpC (t.adv (3*i))):=fun H=>znnb (zs7w _)
  simp (disch:=first|omega|simp<;>omega|fail) [-zA,-zB,-zC,-zD,-zE,znbh,zly3,h,h',hg1,hlg,hl3,zy5o,hsx,hfz,hfl]
 have h':(i:Int)<n:=by omega
 simp (disch:=first|omega|simp<;>omega|fail) [-zA,-zB,-zC,-zD,-zE,znbh,zly3,h,h',hg1,hlg,hl3]
 have hlt:i<c.g.l.length:=by omega
 have hG : ∀ H,zpsc H 6 (c.g.dv 6 grC) i=some (.ref (grC c.g.l[i])):=fun H=>zalo zry4 hlt
 have hgi:c.g.l[i]? = some c.g.l[i]:=y04 hlt
 obtain ⟨g,hge⟩ : ∃ g,c.g.l[i]=g:=⟨_,rfl⟩
 rw [hge] at hG hgi
 refine zlm5 (fun k=>zcyu t c i (k+1) (3*i+k)) (fun k=>3-k) (fun k=>k≤3) 0 (z515 (by simp (disch:=first|omega|simp<;>omega|fail) [-zA,-zB,-zC,-zD,-zE,zcyu,zbmj]) (by simp (disch:=first|omega|simp<;>omega|fail) [-zA,-zB,-zC,-zD,-zE,zcyu,zbmj])) (by omega) (fun k hk => ?_)
 simp only [zcyu]
 by_cases q:k<3
 case neg =>
  obtain rfl:k=3:=by omega
  simp (disch:=first|omega|simp<;>omega|fail) [-zA,-zB,-zC,-zD,-zE,z9mq,zbmj]
  refine ⟨i+1,z515 (by simp (disch:=first|omega|simp<;>omega|fail) [-zA,-zB,-zC,-zD,-zE,z38w,zly3]) (by simp (disch:=first|omega|simp<;>omega|fail) [-zA,-zB,-zC,-zD,-zE,z38w,zly3,Nat.mul_add]),by omega,by omega⟩
 have q':(k:Int)+1≤3:=by omega
 obtain ⟨m,hm⟩ : ∃ m,3*i+k=m:=⟨_,rfl⟩
 have hm3:m / 3=i:=by omega
 have hmk:m % 3=k:=by omega
 have hent:entI t c m=⟨g.ns,g.im,dgB ((k:Int)+1),decide (0<tpN (t.adv m) 3)⟩:=by unfold entI; rw [hm3,hgi,hmk]
 have hnx:idxL t c (m+1)=insX (idxL t c m) (entI t c m):=rfl
 rw [hent] at hnx
 have hil:=zjjk (t:=t) (c:=c) m
 rw [hm]
 have hcI:=zcfr (x:=⟨0,isS (idxL t c m) (by omega)⟩) (e:=⟨g.ns,g.im,dgB ((k:Int)+1),decide (0<tpN (t.adv m) 3)⟩) (by show (idxL t c m).length≤_; omega)
 have hcI:cInx [.agg [.int .i64 0,isV (idxL t c m)],.agg (ixC ⟨g.ns,g.im,dgB ((k:Int)+1),decide (0<tpN (t.adv m) 3)⟩)]=some (.agg [.int .i64 0,isV (idxL t c (m+1))]):=by
  rw [hnx]
  have e:=zz41 (l:=idxL t c m) (by omega)
  simp only [xiC,e] at hcI
  exact hcI
 have hN:=z44h (t:=t.adv m) (n:=3) (by show t.at_+m<_; omega) (by decide) (by decide)
 rw [zjmf] at hN
 obtain ⟨b,hb⟩ : ∃ b,decide (0<tpN (t.adv m) 3)=b:=⟨_,rfl⟩
 obtain ⟨z,hz⟩ : ∃ z,tpN (t.adv m) 3=z:=⟨_,rfl⟩
 rw [hz] at hb hN
 rw [hz,hb] at hcI
 have hbr:=fun (x:List DV) (hx:x.length=34)=>zxtu (z:=x) (r:=⟨g.ns,g.im,dgB ((k:Int)+1)⟩) hx
 obtain ⟨r,hr⟩ : ∃ r:Rqs,(⟨g.ns,g.im,dgB ((k:Int)+1)⟩:Rqs)=r:=⟨_,rfl⟩
 have hbi:=z10m (r:=⟨g.ns,g.im,dgB ((k:Int)+1)⟩) (b:=b)
 rw [hr] at hbr hbi
 have hcI:cInx [.agg [.int .i64 0,isV (idxL t c m)],.agg (ixC ⟨r.ns,r.im,r.art,b⟩)]=some (.agg [.int .i64 0,isV (idxL t c (m+1))]):=by rw [← hr]; exact hcI
 have hpix:=fun x=>z0ob x
 have hfold:DV.str g.ns::DV.str g.im::dgC (dgB ((k:Int)+1))=rqC r:=by rw [← hr]; rfl
 have hsr : ∀ (H:List AObj) (id:Nat) (x:List DV),x.length=34→zy6o H id 34 0 (.agg (rqC r)) (some x)=some (.junk,H.set id (.cells (rqC r))):=fun H id x hx=>zfc1 (zzeg r) hx (by rw [← hr]; simp [rqC,dgC,zzst])
 have hst:=fun W H=>zdpk (isV (idxL t c (m+1))) W (zcwq _) H
 have pure_xe:=fun l=>zm03 l
 have hbd:zvnk (dgC dg0) [(0,1,w8 (BitVec.ofInt 8 ((k:Int)+1)))]=some (.agg (dgC (dgB ((k:Int)+1)))):=z7ni
 simp (disch:=first|omega|simp<;>omega|fail) [-zA,-zB,-zC,-zD,-zE,z9mq,zbmj,q,q',hg1,hG,grC,hbd,hbr,hfold,bd_v,hsr,zy5o,zed4,ziaj,hN,hb,hbi,z6wa,hcI,zzeg,zhqv,hst,pure_xe,hpix]
 have hm1:3*i+(k+1)=m+1:=by omega
 exact ⟨k+1,zju2 (tail:=[.cells (rqC r)]) (by simp (disch:=first|omega|simp<;>omega|fail) [-zA,-zB,-zC,-zD,-zE,zcyu,zbmj]) (by simp (disch:=first|omega|simp<;>omega|fail) [-zA,-zB,-zC,-zD,-zE,zcyu,zbmj,hm1]) (by simp (disch:=first|omega|simp<;>omega|fail) [-zA,-zB,-zC,-zD,-zE]) (by simp (disch:=first|omega|simp<;>omega|fail) [-zA,-zB,-zC,-zD,-zE,belowL,Am.below]) (by simp (disch:=first|omega|simp<;>omega|fail) [-zA,-zB,-zC,-zD,-zE,zlf2,belowL,Am.below,zmq5 _ _ (zs7w _),zmq5 _ _ (zy11 c),z8b8 _ _ (zm03 _)]),by omega,by omega⟩
noncomputable def cIdx:List DV→List DV→Option (DV × List DV):=conT (fun a:Tp × Clu=>a.1.at_<4000000000∧a.2.g.l.length≤1000) (fun a=>[.agg (clC a.2)]) (fun a=>tpC a.1) (fun a=>(.agg [.int .i64 0,isV (idxL a.1 a.2 (3*a.2.g.l.length))],tpC (a.1.adv (3*a.2.g.l.length))))
theorem zj2w {t:Tp} {c:Clu} (h1:t.at_<4000000000) (h2:c.g.l.length≤1000):cIdx [.agg (clC c)] (tpC t)=some (.agg [.int .i64 0,isV (idxL t c (3*c.g.l.length))],tpC (t.adv (3*c.g.l.length))) :=
 ztyo (A:=fun a:Tp × Clu=>a.1.at_<4000000000∧a.2.g.l.length≤1000) (f:=fun a=>[.agg (clC a.2)]) (s:=fun a=>tpC a.1) (by
  rintro ⟨a,n⟩ ⟨b,m⟩ e1 e2
  simp only [List.cons.injEq,DV.agg.injEq,and_true] at e1
  rw [zh7t e1,z15z e2]) (t,c) ⟨h1,h2⟩
theorem zkb9:(Con.tch cIdx).Sound P 39 :=
 z0tq (fun a _=>⟨by simp [zbao,zyp8,zy11],zs7w _,by simp [zyp8,zbao,zm03],zs7w _⟩) fun a h=>zizi mix zqkx Tryz.func39 zjwo (zimd a.1 a.2 h.1 h.2) (y01 _)
end
end Go.Proofs.YtaihpefemjlilaaGreatDoor
