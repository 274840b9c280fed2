/-
  15 texts of mine in one.
-/
import Derived.Test.YtjknipdiglpnlaaCcd3143aa
import Derived.Test.YtjknipdiglpnlaaCe656babf
import Derived.Test.YtjknipdiglpnlaaCf7009e0f
import Derived.Test.YtjknipdiglpnlaaC7d5a05df
set_option maxRecDepth 20000
set_option maxHeartbeats 4000000
open List renaming map_take → zA, map_drop → zB, map_set → zC, map_append → zD, drop_one → zE
open Bool renaming and_self → y04, and_eq_true → y13
open List renaming take_of_length_le → y00, cons_append → y01, length_map → y02, take_succ_eq_append_getElem → y03, nil_append → y05, length_cons → y06, all_append → y07, getElem_mem → y08, all_cons → y09, all_nil → y0a, getElem?_eq_some_iff → y0b, length_take → y0c, drop_zero → y0d, getElem_of_mem → y0e, map_cons → y0f, length_append → y0g, map_append → y0i, append_nil → y0j, drop_of_length_le → y0k, concat_eq_append → y0l, length_pos_iff → y0m, drop_eq_getElem_cons → y0n, length_set → y0o, set_cons_succ → y0p, getElem_append_left → y0q, mem_map → y0r, append_assoc → y0s, getElem_cons_zero → y0t, mem_cons → y0u, filter_cons → y0v, length_filter_le → y0w, eq_nil_of_length_eq_zero → y0x, mem_map_of_mem → y0y, filterMap_cons → y0z, filter_append → y10, getElem?_append_left → y11, getElem_append_right → y12, take_length → y14, getElem_map → y15, length_filterMap_le → y16, getElem?_cons_succ → y17, pairwise_of_forall → y18, length_singleton → y19, set_append_right → y1a, take_append_drop → y1b, eq_nil_or_concat → y1c, filterMap_append → y1d, map_set → y1e
open Nat renaming le_trans → y1f, mul_one → y1g
open Option renaming bind_some → y0h
namespace Go.Proofs.Ytjknipdiglpnlaa
section
set_option linter.unusedSimpArgs false
set_option linter.unusedVariables false
open Go Go.Am
structure Ent where
 path:Str
 dg:Dg
 deriving DecidableEq
def enC (x:Ent):List DV:=(.str x.path)::(dgC x.dg)
theorem zuso (x:Ent):(enC x).length=33:=by simp [enC,z1t1]
theorem zt9q (x:Ent):zbao (enC x)=true:=by
 unfold enC
 simp only [zbao,zyp8,Bool.true_and]; exact z6je _
theorem zxv7 {a b:Ent} (e:enC a=enC b):a=b:=by
 obtain ⟨a0,a1⟩:=a
 obtain ⟨b0,b1⟩:=b
 simp only [enC,List.cons.injEq,DV.str.injEq] at e
 rw [e.1,zib9 e.2]
theorem z6p9 {x:Ent}:oneC 33 true (enC x)=some (.agg (enC x)):=by simp [oneC,zuso,y00]
theorem zfqa {x:Ent} {off n:Nat} {a:Bool} (hl:off+n≤33):zhj0 off n a (.agg (enC x))=oneC n a ((enC x).drop off):=by simp [zhj0,zuso,hl]
theorem z6eq {x:Ent} {n:Nat}:belowL n (enC x)=true:=zmq5 n _ (zt9q x)
theorem zo6u {x:Ent}:(enC x).all DV.one=true:=by simp only [enC,y09,y07,zoxk,zzmf,z3gw,zxyr,z4ja,y0a,y04]
theorem zrai {x:Ent} {h:List AObj} {id:Nat} {l:List DV} (hl:l.length=33):zy6o h id 33 0 (.agg (enC x)) (some l)=some (.junk,h.set id (.cells (enC x))):=zfc1 (zuso x) hl zo6u
theorem z5qg {h:List AObj} {k:Nat} {x:Ent}:z4tt h k (enC x)=some (enC x):=z619 (zt9q x)
theorem zyjb {K:Nat→Bool} {h:List AObj} {x:Ent}:mkL K h (enC x)=enC x:=zrip (zt9q x)
theorem z5fr {x:Ent}:oneC 1 false (enC x)=some (.str x.path):=rfl
theorem z88p {x:Ent}:oneC 32 true ((enC x).drop 1)=some (.agg (dgC x.dg)):=by show oneC 32 true (dgC x.dg)=_; simp [oneC,z1t1,y00]
structure Vrb where
 nm:Str
 vl:Str
 deriving DecidableEq
def vaC (x:Vrb):List DV:=(.str x.nm)::([.str x.vl])
theorem zqri (x:Vrb):(vaC x).length=2:=by simp [vaC,z1t1]
theorem zxwt (x:Vrb):zbao (vaC x)=true:=by
 unfold vaC
 simp [zbao,zyp8]
theorem ztro {a b:Vrb} (e:vaC a=vaC b):a=b:=by
 obtain ⟨a0,a1⟩:=a
 obtain ⟨b0,b1⟩:=b
 simp only [vaC,List.cons.injEq,DV.int.injEq,DV.str.injEq,DV.bool.injEq,true_and,and_true] at e
 rw [e.1,e.2]
theorem zieq {x:Vrb}:oneC 2 true (vaC x)=some (.agg (vaC x)):=by simp [oneC,zqri,y00]
theorem zegk {x:Vrb} {off n:Nat} {a:Bool} (hl:off+n≤2):zhj0 off n a (.agg (vaC x))=oneC n a ((vaC x).drop off):=by simp [zhj0,zqri,hl]
theorem zw37 {x:Vrb} {n:Nat}:belowL n (vaC x)=true:=zmq5 n _ (zxwt x)
theorem z4t4 {x:Vrb}:(vaC x).all DV.one=true:=by simp only [vaC,y09,y07,zoxk,zzmf,z3gw,zxyr,z4ja,y0a,y04]
theorem zjux {x:Vrb} {h:List AObj} {id:Nat} {l:List DV} (hl:l.length=2):zy6o h id 2 0 (.agg (vaC x)) (some l)=some (.junk,h.set id (.cells (vaC x))):=zfc1 (zqri x) hl z4t4
theorem z3av {h:List AObj} {k:Nat} {x:Vrb}:z4tt h k (vaC x)=some (vaC x):=z619 (zxwt x)
theorem zfqg {K:Nat→Bool} {h:List AObj} {x:Vrb}:mkL K h (vaC x)=vaC x:=zrip (zxwt x)
theorem zh4z {x:Vrb}:oneC 1 false (vaC x)=some (.str x.nm):=rfl
theorem zu5l {x:Vrb}:oneC 1 false ((vaC x).drop 1)=some (.str x.vl):=rfl
structure Rec where
 run:Str
 scope:Str
 step:Str
 at_:Int
 cmd:Sl Str
 env:Sl Vrb
 m:Sl Ent
 p:Sl Ent
def reC (x:Rec):List DV:=(.str x.run)::((.str x.scope)::((.str x.step)::((.int .i64 x.at_)::((x.cmd.dv 1 stC)::((x.env.dv 2 vaC)::((x.m.dv 33 enC)::([x.p.dv 33 enC])))))))
theorem z74o (x:Rec):(reC x).length=8:=by simp [reC,z1t1]
theorem zfuu {B:Nat} (x:SlB B Str):zyp8 (x.dv 1 stC)=true:=zxxb zds6 x
theorem zlgv {B n:Nat} {x:SlB B Str}:Am.below n (x.dv 1 stC)=true:=z8b8 n _ (zfuu x)
theorem zdef {B:Nat} {x y:SlB B Str} (e:x.dv 1 stC=y.dv 1 stC):x=y:=zcq7 zqv6 (by decide) (fun _ _=>zwaz) e
theorem z0a9 {B:Nat} (x:SlB B Vrb):zyp8 (x.dv 2 vaC)=true:=zxxb zxwt x
theorem zs4d {B n:Nat} {x:SlB B Vrb}:Am.below n (x.dv 2 vaC)=true:=z8b8 n _ (z0a9 x)
theorem zvyz {B:Nat} {x y:SlB B Vrb} (e:x.dv 2 vaC=y.dv 2 vaC):x=y:=zcq7 zqri (by decide) (fun _ _=>ztro) e
theorem zru8 {B:Nat} (x:SlB B Ent):zyp8 (x.dv 33 enC)=true:=zxxb zt9q x
theorem zb48 {B n:Nat} {x:SlB B Ent}:Am.below n (x.dv 33 enC)=true:=z8b8 n _ (zru8 x)
theorem zdvs {B:Nat} {x y:SlB B Ent} (e:x.dv 33 enC=y.dv 33 enC):x=y:=zcq7 zuso (by decide) (fun _ _=>zxv7) e
theorem zqkx (x:Rec):zbao (reC x)=true:=by
 unfold reC
 simp [zbao,zyp8,zfuu,z0a9,zru8]
theorem zre0 {a b:Rec} (e:reC a=reC b):a=b:=by
 obtain ⟨a0,a1,a2,a3,a4,a5,a6,a7⟩:=a
 obtain ⟨b0,b1,b2,b3,b4,b5,b6,b7⟩:=b
 simp only [reC,List.cons.injEq,DV.int.injEq,DV.str.injEq,DV.bool.injEq,true_and,and_true] at e
 rw [e.1,e.2.1,e.2.2.1,e.2.2.2.1,zdef (e.2.2.2.2.1),zvyz (e.2.2.2.2.2.1),zdvs (e.2.2.2.2.2.2.1),zdvs (e.2.2.2.2.2.2.2)]
theorem zbr1 {x:Rec}:oneC 8 true (reC x)=some (.agg (reC x)):=by simp [oneC,z74o,y00]
theorem zqc3 {x:Rec} {off n:Nat} {a:Bool} (hl:off+n≤8):zhj0 off n a (.agg (reC x))=oneC n a ((reC x).drop off):=by simp [zhj0,z74o,hl]
theorem zwhl {x:Rec} {n:Nat}:belowL n (reC x)=true:=zmq5 n _ (zqkx x)
theorem z8jm {x:Rec}:(reC x).all DV.one=true:=by simp only [reC,y09,y07,zoxk,zzmf,z3gw,zxyr,z4ja,y0a,y04]
theorem zhem {x:Rec} {h:List AObj} {id:Nat} {l:List DV} (hl:l.length=8):zy6o h id 8 0 (.agg (reC x)) (some l)=some (.junk,h.set id (.cells (reC x))):=zfc1 (z74o x) hl z8jm
theorem zopz {h:List AObj} {k:Nat} {x:Rec}:z4tt h k (reC x)=some (reC x):=z619 (zqkx x)
theorem zish {K:Nat→Bool} {h:List AObj} {x:Rec}:mkL K h (reC x)=reC x:=zrip (zqkx x)
theorem zwo9 {x:Rec}:oneC 1 false (reC x)=some (.str x.run):=rfl
theorem z5cj {x:Rec}:oneC 1 false ((reC x).drop 1)=some (.str x.scope):=rfl
theorem zhaq {x:Rec}:oneC 1 false ((reC x).drop 2)=some (.str x.step):=rfl
theorem zb4u {x:Rec}:oneC 1 false ((reC x).drop 3)=some (.int .i64 x.at_):=rfl
theorem zgok {x:Rec}:oneC 1 false ((reC x).drop 4)=some (x.cmd.dv 1 stC):=rfl
theorem zhl9 {x:Rec}:oneC 1 false ((reC x).drop 5)=some (x.env.dv 2 vaC):=rfl
theorem z05i {x:Rec}:oneC 1 false ((reC x).drop 6)=some (x.m.dv 33 enC):=rfl
theorem zbc5 {x:Rec}:oneC 1 false ((reC x).drop 7)=some (x.p.dv 33 enC):=rfl
structure Att where
 own:Str
 rc:Rec
def atC (x:Att):List DV:=(.str x.own)::(reC x.rc)
theorem zu2q (x:Att):(atC x).length=9:=by simp [atC,z1t1,z74o]
theorem z83l (x:Att):zbao (atC x)=true:=by
 unfold atC
 simp [zbao,zyp8,zqkx]
theorem zpr0 {a b:Att} (e:atC a=atC b):a=b:=by
 obtain ⟨a0,a1⟩:=a
 obtain ⟨b0,b1⟩:=b
 simp only [atC,List.cons.injEq,DV.str.injEq] at e
 rw [e.1,zre0 e.2]
theorem znv7 {x:Att}:oneC 9 true (atC x)=some (.agg (atC x)):=by simp [oneC,zu2q,y00]
theorem zxu4 {x:Att} {off n:Nat} {a:Bool} (hl:off+n≤9):zhj0 off n a (.agg (atC x))=oneC n a ((atC x).drop off):=by simp [zhj0,zu2q,hl]
theorem z03k {x:Att} {n:Nat}:belowL n (atC x)=true:=zmq5 n _ (z83l x)
theorem zwh8 {x:Att}:(atC x).all DV.one=true:=by simp only [atC,y09,y07,zoxk,zzmf,z3gw,zxyr,z4ja,y0a,y04,z8jm]
theorem z5ch {x:Att} {h:List AObj} {id:Nat} {l:List DV} (hl:l.length=9):zy6o h id 9 0 (.agg (atC x)) (some l)=some (.junk,h.set id (.cells (atC x))):=zfc1 (zu2q x) hl zwh8
theorem zf52 {h:List AObj} {k:Nat} {x:Att}:z4tt h k (atC x)=some (atC x):=z619 (z83l x)
theorem zt28 {K:Nat→Bool} {h:List AObj} {x:Att}:mkL K h (atC x)=atC x:=zrip (z83l x)
theorem zkpj {x:Att}:oneC 1 false (atC x)=some (.str x.own):=rfl
theorem zo7q {x:Att}:oneC 8 true ((atC x).drop 1)=some (.agg (reC x.rc)):=rfl
theorem z6lh {x:Att}:oneC 1 false ((atC x).drop 1)=some (.str x.rc.run):=rfl
theorem zo6a {x:Att}:oneC 1 false ((atC x).drop 2)=some (.str x.rc.scope):=rfl
theorem z77v {x:Att}:oneC 1 false ((atC x).drop 3)=some (.str x.rc.step):=rfl
theorem zn34 {x:Att}:oneC 1 false ((atC x).drop 4)=some (.int .i64 x.rc.at_):=rfl
theorem zyok {x:Att}:oneC 1 false ((atC x).drop 5)=some (x.rc.cmd.dv 1 stC):=rfl
theorem zapw {x:Att}:oneC 1 false ((atC x).drop 6)=some (x.rc.env.dv 2 vaC):=rfl
theorem z7jb {x:Att}:oneC 1 false ((atC x).drop 7)=some (x.rc.m.dv 33 enC):=rfl
theorem zh1e {x:Att}:oneC 1 false ((atC x).drop 8)=some (x.rc.p.dv 33 enC):=rfl
structure Lnk where
 step:Str
 m:Sl Ent
 p:Sl Ent
def lkC (x:Lnk):List DV:=(.str x.step)::((x.m.dv 33 enC)::([x.p.dv 33 enC]))
theorem z9tw (x:Lnk):(lkC x).length=3:=by simp [lkC,z1t1]
theorem z53g (x:Lnk):zbao (lkC x)=true:=by
 unfold lkC
 simp [zbao,zyp8,zru8]
theorem zja4 {a b:Lnk} (e:lkC a=lkC b):a=b:=by
 obtain ⟨a0,a1,a2⟩:=a
 obtain ⟨b0,b1,b2⟩:=b
 simp only [lkC,List.cons.injEq,DV.int.injEq,DV.str.injEq,DV.bool.injEq,true_and,and_true] at e
 rw [e.1,zdvs (e.2.1),zdvs (e.2.2)]
theorem zrer {x:Lnk}:oneC 3 true (lkC x)=some (.agg (lkC x)):=by simp [oneC,z9tw,y00]
theorem zvzp {x:Lnk} {off n:Nat} {a:Bool} (hl:off+n≤3):zhj0 off n a (.agg (lkC x))=oneC n a ((lkC x).drop off):=by simp [zhj0,z9tw,hl]
theorem zlpm {x:Lnk} {n:Nat}:belowL n (lkC x)=true:=zmq5 n _ (z53g x)
theorem z6ct {x:Lnk}:(lkC x).all DV.one=true:=by simp only [lkC,y09,y07,zoxk,zzmf,z3gw,zxyr,z4ja,y0a,y04]
theorem z6cz {x:Lnk} {h:List AObj} {id:Nat} {l:List DV} (hl:l.length=3):zy6o h id 3 0 (.agg (lkC x)) (some l)=some (.junk,h.set id (.cells (lkC x))):=zfc1 (z9tw x) hl z6ct
theorem z9r1 {h:List AObj} {k:Nat} {x:Lnk}:z4tt h k (lkC x)=some (lkC x):=z619 (z53g x)
theorem zcto {K:Nat→Bool} {h:List AObj} {x:Lnk}:mkL K h (lkC x)=lkC x:=zrip (z53g x)
theorem z380 {x:Lnk}:oneC 1 false (lkC x)=some (.str x.step):=rfl
theorem zfi3 {x:Lnk}:oneC 1 false ((lkC x).drop 1)=some (x.m.dv 33 enC):=rfl
theorem zj40 {x:Lnk}:oneC 1 false ((lkC x).drop 2)=some (x.p.dv 33 enC):=rfl
structure Vot where
 own:Str
 lnk:Lnk
def voC (x:Vot):List DV:=(.str x.own)::(lkC x.lnk)
theorem zu4u (x:Vot):(voC x).length=4:=by simp [voC,z1t1,z9tw]
theorem zc6g (x:Vot):zbao (voC x)=true:=by
 unfold voC
 simp [zbao,zyp8,z53g]
theorem zkbi {a b:Vot} (e:voC a=voC b):a=b:=by
 obtain ⟨a0,a1⟩:=a
 obtain ⟨b0,b1⟩:=b
 simp only [voC,List.cons.injEq,DV.str.injEq] at e
 rw [e.1,zja4 e.2]
theorem zhol {x:Vot}:oneC 4 true (voC x)=some (.agg (voC x)):=by simp [oneC,zu4u,y00]
theorem ztkf {x:Vot} {off n:Nat} {a:Bool} (hl:off+n≤4):zhj0 off n a (.agg (voC x))=oneC n a ((voC x).drop off):=by simp [zhj0,zu4u,hl]
theorem zv6a {x:Vot} {n:Nat}:belowL n (voC x)=true:=zmq5 n _ (zc6g x)
theorem z0cw {x:Vot}:(voC x).all DV.one=true:=by simp only [voC,y09,y07,zoxk,zzmf,z3gw,zxyr,z4ja,y0a,y04,z6ct]
theorem zk2r {x:Vot} {h:List AObj} {id:Nat} {l:List DV} (hl:l.length=4):zy6o h id 4 0 (.agg (voC x)) (some l)=some (.junk,h.set id (.cells (voC x))):=zfc1 (zu4u x) hl z0cw
theorem znis {h:List AObj} {k:Nat} {x:Vot}:z4tt h k (voC x)=some (voC x):=z619 (zc6g x)
theorem zo6e {K:Nat→Bool} {h:List AObj} {x:Vot}:mkL K h (voC x)=voC x:=zrip (zc6g x)
theorem z28l {x:Vot}:oneC 1 false (voC x)=some (.str x.own):=rfl
theorem zkpz {x:Vot}:oneC 3 true ((voC x).drop 1)=some (.agg (lkC x.lnk)):=rfl
theorem zsoe {x:Vot}:oneC 1 false ((voC x).drop 1)=some (.str x.lnk.step):=rfl
theorem z2y7 {x:Vot}:oneC 1 false ((voC x).drop 2)=some (x.lnk.m.dv 33 enC):=rfl
theorem zctd {x:Vot}:oneC 1 false ((voC x).drop 3)=some (x.lnk.p.dv 33 enC):=rfl
structure Agr where
 lnk:Lnk
 owners:Sl Str
 eqv:Sl Str
def agC (x:Agr):List DV:=lkC x.lnk++((x.owners.dv 1 stC)::([x.eqv.dv 1 stC]))
theorem znh2 (x:Agr):(agC x).length=5:=by simp [agC,z1t1,z9tw]
theorem z1u0 (x:Agr):zbao (agC x)=true:=by
 unfold agC
 exact zg0c (z53g _) (by simp [zbao,zfuu])
theorem zum4 {a b:Agr} (e:agC a=agC b):a=b:=by
 obtain ⟨a0,a1,a2⟩:=a
 obtain ⟨b0,b1,b2⟩:=b
 obtain ⟨e1,e2⟩:=List.append_inj (s₁:=lkC a0) (s₂:=lkC b0) e (by rw [z9tw,z9tw])
 simp only [List.cons.injEq,and_true] at e2
 rw [zja4 e1,zdef e2.1,zdef e2.2]
theorem zd17 {x:Agr}:oneC 5 true (agC x)=some (.agg (agC x)):=by simp [oneC,znh2,y00]
theorem zi6g {x:Agr} {off n:Nat} {a:Bool} (hl:off+n≤5):zhj0 off n a (.agg (agC x))=oneC n a ((agC x).drop off):=by simp [zhj0,znh2,hl]
theorem zegd {x:Agr} {n:Nat}:belowL n (agC x)=true:=zmq5 n _ (z1u0 x)
theorem z892 {x:Agr}:(agC x).all DV.one=true:=by simp only [agC,y09,y07,zoxk,zzmf,z3gw,zxyr,z4ja,y0a,y04,z6ct]
theorem z2q5 {x:Agr} {h:List AObj} {id:Nat} {l:List DV} (hl:l.length=5):zy6o h id 5 0 (.agg (agC x)) (some l)=some (.junk,h.set id (.cells (agC x))):=zfc1 (znh2 x) hl z892
theorem zki6 {h:List AObj} {k:Nat} {x:Agr}:z4tt h k (agC x)=some (agC x):=z619 (z1u0 x)
theorem z454 {K:Nat→Bool} {h:List AObj} {x:Agr}:mkL K h (agC x)=agC x:=zrip (z1u0 x)
theorem zrbu {x:Agr}:oneC 3 true (agC x)=some (.agg (lkC x.lnk)):=rfl
theorem z0wg {x:Agr}:oneC 1 false (agC x)=some (.str x.lnk.step):=rfl
theorem zu3j {x:Agr}:oneC 1 false ((agC x).drop 1)=some (x.lnk.m.dv 33 enC):=rfl
theorem z14s {x:Agr}:oneC 1 false ((agC x).drop 2)=some (x.lnk.p.dv 33 enC):=rfl
theorem zntj {x:Agr}:oneC 1 false ((agC x).drop 3)=some (x.owners.dv 1 stC):=rfl
theorem z1r2 {x:Agr}:oneC 1 false ((agC x).drop 4)=some (x.eqv.dv 1 stC):=rfl
structure Rul where
 kind:Int
 pat:Str
 frm:Str
 prod:Bool
 inn:Str
 to:Str
 deriving DecidableEq
def ruC (x:Rul):List DV:=(.int .i64 x.kind)::((.str x.pat)::((.str x.frm)::((.bool x.prod)::((.str x.inn)::([.str x.to])))))
theorem zpvo (x:Rul):(ruC x).length=6:=by simp [ruC,z1t1]
theorem z3bz (x:Rul):zbao (ruC x)=true:=by
 unfold ruC
 simp [zbao,zyp8]
theorem z49a {a b:Rul} (e:ruC a=ruC b):a=b:=by
 obtain ⟨a0,a1,a2,a3,a4,a5⟩:=a
 obtain ⟨b0,b1,b2,b3,b4,b5⟩:=b
 simp only [ruC,List.cons.injEq,DV.int.injEq,DV.str.injEq,DV.bool.injEq,true_and,and_true] at e
 rw [e.1,e.2.1,e.2.2.1,e.2.2.2.1,e.2.2.2.2.1,e.2.2.2.2.2]
theorem zxsc {x:Rul}:oneC 6 true (ruC x)=some (.agg (ruC x)):=by simp [oneC,zpvo,y00]
theorem z5ml {x:Rul} {off n:Nat} {a:Bool} (hl:off+n≤6):zhj0 off n a (.agg (ruC x))=oneC n a ((ruC x).drop off):=by simp [zhj0,zpvo,hl]
theorem ziwl {x:Rul} {n:Nat}:belowL n (ruC x)=true:=zmq5 n _ (z3bz x)
theorem zqv3 {x:Rul}:(ruC x).all DV.one=true:=by simp only [ruC,y09,y07,zoxk,zzmf,z3gw,zxyr,z4ja,y0a,y04]
theorem z3hv {x:Rul} {h:List AObj} {id:Nat} {l:List DV} (hl:l.length=6):zy6o h id 6 0 (.agg (ruC x)) (some l)=some (.junk,h.set id (.cells (ruC x))):=zfc1 (zpvo x) hl zqv3
theorem zh3r {h:List AObj} {k:Nat} {x:Rul}:z4tt h k (ruC x)=some (ruC x):=z619 (z3bz x)
theorem znpy {K:Nat→Bool} {h:List AObj} {x:Rul}:mkL K h (ruC x)=ruC x:=zrip (z3bz x)
theorem zdj1 {x:Rul}:oneC 1 false (ruC x)=some (.int .i64 x.kind):=rfl
theorem zrx3 {x:Rul}:oneC 1 false ((ruC x).drop 1)=some (.str x.pat):=rfl
theorem zuq2 {x:Rul}:oneC 1 false ((ruC x).drop 2)=some (.str x.frm):=rfl
theorem zhx9 {x:Rul}:oneC 1 false ((ruC x).drop 3)=some (.bool x.prod):=rfl
theorem z9c8 {x:Rul}:oneC 1 false ((ruC x).drop 4)=some (.str x.inn):=rfl
theorem z9al {x:Rul}:oneC 1 false ((ruC x).drop 5)=some (.str x.to):=rfl
structure Spc where
 name:Str
 del:Bool
 thr:Int
 by_:Sl Str
 cmd:Sl Str
 mats:Raw Rul
 prods:Raw Rul
def spC (x:Spc):List DV:=(.str x.name)::((.bool x.del)::((.int .i64 x.thr)::((x.by_.dv 1 stC)::((x.cmd.dv 1 stC)::((x.mats.dv 6 ruC)::([x.prods.dv 6 ruC]))))))
theorem zz68 (x:Spc):(spC x).length=7:=by simp [spC,z1t1]
theorem zy5l {B:Nat} (x:SlB B Rul):zyp8 (x.dv 6 ruC)=true:=zxxb z3bz x
theorem zxqp {B n:Nat} {x:SlB B Rul}:Am.below n (x.dv 6 ruC)=true:=z8b8 n _ (zy5l x)
theorem z041 {B:Nat} {x y:SlB B Rul} (e:x.dv 6 ruC=y.dv 6 ruC):x=y:=zcq7 zpvo (by decide) (fun _ _=>z49a) e
theorem zhi7 (x:Spc):zbao (spC x)=true:=by
 unfold spC
 simp [zbao,zyp8,zfuu,zy5l]
theorem z1d3 {a b:Spc} (e:spC a=spC b):a=b:=by
 obtain ⟨a0,a1,a2,a3,a4,a5,a6⟩:=a
 obtain ⟨b0,b1,b2,b3,b4,b5,b6⟩:=b
 simp only [spC,List.cons.injEq,DV.int.injEq,DV.str.injEq,DV.bool.injEq,true_and,and_true] at e
 rw [e.1,e.2.1,e.2.2.1,zdef (e.2.2.2.1),zdef (e.2.2.2.2.1),z041 (e.2.2.2.2.2.1),z041 (e.2.2.2.2.2.2)]
theorem z8s9 {x:Spc}:oneC 7 true (spC x)=some (.agg (spC x)):=by simp [oneC,zz68,y00]
theorem zhc1 {x:Spc} {off n:Nat} {a:Bool} (hl:off+n≤7):zhj0 off n a (.agg (spC x))=oneC n a ((spC x).drop off):=by simp [zhj0,zz68,hl]
theorem z2i6 {x:Spc} {n:Nat}:belowL n (spC x)=true:=zmq5 n _ (zhi7 x)
theorem zb2j {x:Spc}:(spC x).all DV.one=true:=by simp only [spC,y09,y07,zoxk,zzmf,z3gw,zxyr,z4ja,y0a,y04]
theorem zf01 {x:Spc} {h:List AObj} {id:Nat} {l:List DV} (hl:l.length=7):zy6o h id 7 0 (.agg (spC x)) (some l)=some (.junk,h.set id (.cells (spC x))):=zfc1 (zz68 x) hl zb2j
theorem z4nn {h:List AObj} {k:Nat} {x:Spc}:z4tt h k (spC x)=some (spC x):=z619 (zhi7 x)
theorem zuav {K:Nat→Bool} {h:List AObj} {x:Spc}:mkL K h (spC x)=spC x:=zrip (zhi7 x)
theorem zwo7 {x:Spc}:oneC 1 false (spC x)=some (.str x.name):=rfl
theorem zl3n {x:Spc}:oneC 1 false ((spC x).drop 1)=some (.bool x.del):=rfl
theorem z66y {x:Spc}:oneC 1 false ((spC x).drop 2)=some (.int .i64 x.thr):=rfl
theorem z5rd {x:Spc}:oneC 1 false ((spC x).drop 3)=some (x.by_.dv 1 stC):=rfl
theorem z436 {x:Spc}:oneC 1 false ((spC x).drop 4)=some (x.cmd.dv 1 stC):=rfl
theorem zop3 {x:Spc}:oneC 1 false ((spC x).drop 5)=some (x.mats.dv 6 ruC):=rfl
theorem z81m {x:Spc}:oneC 1 false ((spC x).drop 6)=some (x.prods.dv 6 ruC):=rfl
structure RcU where
 run:Str
 scope:Str
 step:Str
 at_:Int
 cmd:Raw Str
 env:Raw Vrb
 m:Raw Ent
 p:Raw Ent
def rxC (x:RcU):List DV:=(.str x.run)::((.str x.scope)::((.str x.step)::((.int .i64 x.at_)::((x.cmd.dv 1 stC)::((x.env.dv 2 vaC)::((x.m.dv 33 enC)::([x.p.dv 33 enC])))))))
theorem zg5v (x:RcU):(rxC x).length=8:=by simp [rxC,z1t1]
theorem z1l8 (x:RcU):zbao (rxC x)=true:=by
 unfold rxC
 simp [zbao,zyp8,zfuu,z0a9,zru8]
theorem zp7z {a b:RcU} (e:rxC a=rxC b):a=b:=by
 obtain ⟨a0,a1,a2,a3,a4,a5,a6,a7⟩:=a
 obtain ⟨b0,b1,b2,b3,b4,b5,b6,b7⟩:=b
 simp only [rxC,List.cons.injEq,DV.int.injEq,DV.str.injEq,DV.bool.injEq,true_and,and_true] at e
 rw [e.1,e.2.1,e.2.2.1,e.2.2.2.1,zdef (e.2.2.2.2.1),zvyz (e.2.2.2.2.2.1),zdvs (e.2.2.2.2.2.2.1),zdvs (e.2.2.2.2.2.2.2)]
theorem zc6i {x:RcU}:oneC 8 true (rxC x)=some (.agg (rxC x)):=by simp [oneC,zg5v,y00]
theorem zaxz {x:RcU} {off n:Nat} {a:Bool} (hl:off+n≤8):zhj0 off n a (.agg (rxC x))=oneC n a ((rxC x).drop off):=by simp [zhj0,zg5v,hl]
theorem zz2j {x:RcU} {n:Nat}:belowL n (rxC x)=true:=zmq5 n _ (z1l8 x)
theorem zlxu {x:RcU}:(rxC x).all DV.one=true:=by simp only [rxC,y09,y07,zoxk,zzmf,z3gw,zxyr,z4ja,y0a,y04]
theorem z0w1 {x:RcU} {h:List AObj} {id:Nat} {l:List DV} (hl:l.length=8):zy6o h id 8 0 (.agg (rxC x)) (some l)=some (.junk,h.set id (.cells (rxC x))):=zfc1 (zg5v x) hl zlxu
theorem zyt6 {h:List AObj} {k:Nat} {x:RcU}:z4tt h k (rxC x)=some (rxC x):=z619 (z1l8 x)
theorem zt76 {K:Nat→Bool} {h:List AObj} {x:RcU}:mkL K h (rxC x)=rxC x:=zrip (z1l8 x)
theorem zgde {x:RcU}:oneC 1 false (rxC x)=some (.str x.run):=rfl
theorem z35d {x:RcU}:oneC 1 false ((rxC x).drop 1)=some (.str x.scope):=rfl
theorem zxb6 {x:RcU}:oneC 1 false ((rxC x).drop 2)=some (.str x.step):=rfl
theorem zigy {x:RcU}:oneC 1 false ((rxC x).drop 3)=some (.int .i64 x.at_):=rfl
theorem ztot {x:RcU}:oneC 1 false ((rxC x).drop 4)=some (x.cmd.dv 1 stC):=rfl
theorem zzch {x:RcU}:oneC 1 false ((rxC x).drop 5)=some (x.env.dv 2 vaC):=rfl
theorem zj7q {x:RcU}:oneC 1 false ((rxC x).drop 6)=some (x.m.dv 33 enC):=rfl
theorem zwf5 {x:RcU}:oneC 1 false ((rxC x).drop 7)=some (x.p.dv 33 enC):=rfl
structure AtU where
 own:Str
 rc:RcU
def axC (x:AtU):List DV:=(.str x.own)::(rxC x.rc)
theorem z0qm (x:AtU):(axC x).length=9:=by simp [axC,z1t1,zg5v]
theorem zfq3 (x:AtU):zbao (axC x)=true:=by
 unfold axC
 simp [zbao,zyp8,z1l8]
theorem zcwm {a b:AtU} (e:axC a=axC b):a=b:=by
 obtain ⟨a0,a1⟩:=a
 obtain ⟨b0,b1⟩:=b
 simp only [axC,List.cons.injEq,DV.str.injEq] at e
 rw [e.1,zp7z e.2]
theorem z34o {x:AtU}:oneC 9 true (axC x)=some (.agg (axC x)):=by simp [oneC,z0qm,y00]
theorem z641 {x:AtU} {off n:Nat} {a:Bool} (hl:off+n≤9):zhj0 off n a (.agg (axC x))=oneC n a ((axC x).drop off):=by simp [zhj0,z0qm,hl]
theorem z5sj {x:AtU} {n:Nat}:belowL n (axC x)=true:=zmq5 n _ (zfq3 x)
theorem zpv9 {x:AtU}:(axC x).all DV.one=true:=by simp only [axC,y09,y07,zoxk,zzmf,z3gw,zxyr,z4ja,y0a,y04,zlxu]
theorem zekj {x:AtU} {h:List AObj} {id:Nat} {l:List DV} (hl:l.length=9):zy6o h id 9 0 (.agg (axC x)) (some l)=some (.junk,h.set id (.cells (axC x))):=zfc1 (z0qm x) hl zpv9
theorem zwft {h:List AObj} {k:Nat} {x:AtU}:z4tt h k (axC x)=some (axC x):=z619 (zfq3 x)
theorem zgdh {K:Nat→Bool} {h:List AObj} {x:AtU}:mkL K h (axC x)=axC x:=zrip (zfq3 x)
theorem z58t {x:AtU}:oneC 1 false (axC x)=some (.str x.own):=rfl
theorem zar7 {x:AtU}:oneC 8 true ((axC x).drop 1)=some (.agg (rxC x.rc)):=rfl
theorem zqcp {x:AtU}:oneC 1 false ((axC x).drop 1)=some (.str x.rc.run):=rfl
theorem zgpq {x:AtU}:oneC 1 false ((axC x).drop 2)=some (.str x.rc.scope):=rfl
theorem z5dd {x:AtU}:oneC 1 false ((axC x).drop 3)=some (.str x.rc.step):=rfl
theorem zfu3 {x:AtU}:oneC 1 false ((axC x).drop 4)=some (.int .i64 x.rc.at_):=rfl
theorem zsv2 {x:AtU}:oneC 1 false ((axC x).drop 5)=some (x.rc.cmd.dv 1 stC):=rfl
theorem zegn {x:AtU}:oneC 1 false ((axC x).drop 6)=some (x.rc.env.dv 2 vaC):=rfl
theorem zur8 {x:AtU}:oneC 1 false ((axC x).drop 7)=some (x.rc.m.dv 33 enC):=rfl
theorem zizc {x:AtU}:oneC 1 false ((axC x).drop 8)=some (x.rc.p.dv 33 enC):=rfl
structure LkU where
 step:Str
 m:Raw Ent
 p:Raw Ent
def lxC (x:LkU):List DV:=(.str x.step)::((x.m.dv 33 enC)::([x.p.dv 33 enC]))
theorem zox3 (x:LkU):(lxC x).length=3:=by simp [lxC,z1t1]
theorem z47e (x:LkU):zbao (lxC x)=true:=by
 unfold lxC
 simp [zbao,zyp8,zru8]
theorem zajj {x:LkU}:oneC 3 true (lxC x)=some (.agg (lxC x)):=by simp [oneC,zox3,y00]
theorem z1r1 {x:LkU} {off n:Nat} {a:Bool} (hl:off+n≤3):zhj0 off n a (.agg (lxC x))=oneC n a ((lxC x).drop off):=by simp [zhj0,zox3,hl]
theorem zdne {x:LkU} {n:Nat}:belowL n (lxC x)=true:=zmq5 n _ (z47e x)
theorem zfjz {x:LkU}:(lxC x).all DV.one=true:=by simp only [lxC,y09,y07,zoxk,zzmf,z3gw,zxyr,z4ja,y0a,y04]
theorem zgup {x:LkU} {h:List AObj} {id:Nat} {l:List DV} (hl:l.length=3):zy6o h id 3 0 (.agg (lxC x)) (some l)=some (.junk,h.set id (.cells (lxC x))):=zfc1 (zox3 x) hl zfjz
theorem zci8 {h:List AObj} {k:Nat} {x:LkU}:z4tt h k (lxC x)=some (lxC x):=z619 (z47e x)
theorem zr49 {K:Nat→Bool} {h:List AObj} {x:LkU}:mkL K h (lxC x)=lxC x:=zrip (z47e x)
theorem zi7s {x:LkU}:oneC 1 false (lxC x)=some (.str x.step):=rfl
theorem zkjk {x:LkU}:oneC 1 false ((lxC x).drop 1)=some (x.m.dv 33 enC):=rfl
theorem zzkq {x:LkU}:oneC 1 false ((lxC x).drop 2)=some (x.p.dv 33 enC):=rfl
structure SpU where
 name:Str
 del:Bool
 thr:Int
 by_:Raw Str
 cmd:Raw Str
 mats:Raw Rul
 prods:Raw Rul
def sxC (x:SpU):List DV:=(.str x.name)::((.bool x.del)::((.int .i64 x.thr)::((x.by_.dv 1 stC)::((x.cmd.dv 1 stC)::((x.mats.dv 6 ruC)::([x.prods.dv 6 ruC]))))))
theorem zodk (x:SpU):(sxC x).length=7:=by simp [sxC,z1t1]
theorem z97y (x:SpU):zbao (sxC x)=true:=by
 unfold sxC
 simp [zbao,zyp8,zfuu,zy5l]
theorem zgil {a b:SpU} (e:sxC a=sxC b):a=b:=by
 obtain ⟨a0,a1,a2,a3,a4,a5,a6⟩:=a
 obtain ⟨b0,b1,b2,b3,b4,b5,b6⟩:=b
 simp only [sxC,List.cons.injEq,DV.int.injEq,DV.str.injEq,DV.bool.injEq,true_and,and_true] at e
 rw [e.1,e.2.1,e.2.2.1,zdef (e.2.2.2.1),zdef (e.2.2.2.2.1),z041 (e.2.2.2.2.2.1),z041 (e.2.2.2.2.2.2)]
theorem z0rw {x:SpU}:oneC 7 true (sxC x)=some (.agg (sxC x)):=by simp [oneC,zodk,y00]
theorem zvi3 {x:SpU} {off n:Nat} {a:Bool} (hl:off+n≤7):zhj0 off n a (.agg (sxC x))=oneC n a ((sxC x).drop off):=by simp [zhj0,zodk,hl]
theorem z6ps {x:SpU} {n:Nat}:belowL n (sxC x)=true:=zmq5 n _ (z97y x)
theorem z76l {x:SpU}:(sxC x).all DV.one=true:=by simp only [sxC,y09,y07,zoxk,zzmf,z3gw,zxyr,z4ja,y0a,y04]
theorem zcvx {x:SpU} {h:List AObj} {id:Nat} {l:List DV} (hl:l.length=7):zy6o h id 7 0 (.agg (sxC x)) (some l)=some (.junk,h.set id (.cells (sxC x))):=zfc1 (zodk x) hl z76l
theorem zwdd {h:List AObj} {k:Nat} {x:SpU}:z4tt h k (sxC x)=some (sxC x):=z619 (z97y x)
theorem z7zx {K:Nat→Bool} {h:List AObj} {x:SpU}:mkL K h (sxC x)=sxC x:=zrip (z97y x)
theorem zqdt {x:SpU}:oneC 1 false (sxC x)=some (.str x.name):=rfl
theorem zb8p {x:SpU}:oneC 1 false ((sxC x).drop 1)=some (.bool x.del):=rfl
theorem z348 {x:SpU}:oneC 1 false ((sxC x).drop 2)=some (.int .i64 x.thr):=rfl
theorem znbd {x:SpU}:oneC 1 false ((sxC x).drop 3)=some (x.by_.dv 1 stC):=rfl
theorem zdjr {x:SpU}:oneC 1 false ((sxC x).drop 4)=some (x.cmd.dv 1 stC):=rfl
theorem zdrz {x:SpU}:oneC 1 false ((sxC x).drop 5)=some (x.mats.dv 6 ruC):=rfl
theorem zh71 {x:SpU}:oneC 1 false ((sxC x).drop 6)=some (x.prods.dv 6 ruC):=rfl
theorem z88i {a b:Ent}:z32s (zi5g [(1,1),(32,0)]) (enC a) (enC b)=some (decide (a=b)):=by
 have e:zi5g [(1,1),(32,0)]=[1]++zi5g [(32,0)]:=rfl
 have e2 : ∀ x:Ent,enC x=[.str x.path]++dgC x.dg:=fun x=>rfl
 rw [e,e2,e2,zid2 rfl rfl,zyiz]
 obtain ⟨a1,a2⟩:=a
 obtain ⟨b1,b2⟩:=b
 simp [z32s,znnj,zcn6]
theorem z7va {a b:Vrb}:z32s (zi5g [(2,1)]) (vaC a) (vaC b)=some (decide (a=b)):=by
 obtain ⟨a1,a2⟩:=a
 obtain ⟨b1,b2⟩:=b
 show z32s [1,1] _ _=_
 simp [vaC,z32s,znnj,zcn6]
attribute [simp] zuso zt9q z6p9 zfqa z6eq zrai z5qg zyjb z5fr z88p zqri zxwt zieq zegk zw37 zjux z3av zfqg zh4z zu5l zfuu zlgv z0a9 zs4d zru8 zb48 z74o zqkx zbr1 zqc3 zwhl zhem zopz zish zwo9 z5cj zhaq zb4u zgok zhl9 z05i zbc5 zu2q z83l znv7 zxu4 z03k z5ch zf52 zt28 zkpj zo7q z6lh zo6a z77v zn34 zyok zapw z7jb zh1e z9tw z53g zrer zvzp zlpm z6cz z9r1 zcto z380 zfi3 zj40 zu4u zc6g zhol ztkf zv6a zk2r znis zo6e z28l zkpz zsoe z2y7 zctd znh2 z1u0 zd17 zi6g zegd z2q5 zki6 z454 zrbu z0wg zu3j z14s zntj z1r2 zpvo z3bz zxsc z5ml ziwl z3hv zh3r znpy zdj1 zrx3 zuq2 zhx9 z9c8 z9al zy5l zxqp zz68 zhi7 z8s9 zhc1 z2i6 zf01 z4nn zuav zwo7 zl3n z66y z5rd z436 zop3 z81m zg5v z1l8 zc6i zaxz zz2j z0w1 zyt6 zt76 zgde z35d zxb6 zigy ztot zzch zj7q zwf5 z0qm zfq3 z34o z641 z5sj zekj zwft zgdh z58t zar7 zqcp zgpq z5dd zfu3 zsv2 zegn zur8 zizc zox3 z47e zajj z1r1 zdne zgup zci8 zr49 zi7s zkjk zzkq zodk z97y z0rw zvi3 z6ps zcvx zwdd z7zx zqdt zb8p z348 znbd zdjr zdrz zh71 z88i z7va z3om zbw6 zes9 zds6
end
section
set_option linter.unusedSimpArgs false
set_option linter.unusedVariables false
open Go Go.Am
def fIx {α:Type} (p:α→Bool):List α→Int
 | [] => -1
 | a::l=>if p a then 0 else if fIx p l<0 then -1 else fIx p l+1
theorem z67l {α:Type} {p:α→Bool} : ∀ {l:List α} {i:Nat} (hi:i<l.length),p l[i]=true→(∀ j (h:j<l.length),j<i→p l[j]=false)→fIx p l=i
 | a::l,0,_,h,_=>by simp only [y0t] at h; simp [fIx,h]
 | a::l,i+1,hi,h,h2=>by
  have ha:p a=false:=h2 0 (by simp) (by omega)
  have ih:=z67l (p:=p) (l:=l) (i:=i) (by simpa using hi) (by simpa using h) fun j hj hji=>by
   have:=h2 (j+1) (by simpa using hj) (by omega)
   simpa using this
  simp only [fIx,ha,ih]
  rw [if_neg (by simp),if_neg (by omega)]; omega
theorem zf0r {α:Type} {p:α→Bool} : ∀ {l:List α},(∀ a ∈ l,p a=false)→fIx p l = -1
 | [],_=>rfl
 | a::l,h=>by
  have ih:=zf0r (p:=p) (l:=l) fun b hb=>h b (by simp [hb])
  simp [fIx,h a (by simp),ih]
theorem za4c {α:Type} (p:α→Bool) : ∀ (l:List α),(fIx p l = -1 ∧ ∀ a ∈ l,p a=false) ∨ ∃ i,∃ hi:i<l.length,fIx p l=i∧p l[i]=true ∧ ∀ j (h:j<l.length),j<i→p l[j]=false
 | [] => .inl ⟨rfl,fun a h=>by simp at h⟩
 | a::l=>by
  by_cases ha:p a=true
  ·exact .inr ⟨0,by simp,by simp [fIx,ha],by simpa using ha,fun j _ hj=>by omega⟩
  ·have ha:p a=false:=by simpa using ha
   rcases za4c p l with ⟨h1,h2⟩|⟨i,hi,h1,h2,h3⟩
   ·exact .inl ⟨by simp [fIx,ha,h1],fun b hb=>by
     rcases y0u.1 hb with rfl|hb
     ·exact ha
     ·exact h2 b hb⟩
   ·refine .inr ⟨i+1,by simpa using hi,?_,by simpa using h2,fun j hj hji => ?_⟩
    ·simp only [fIx,ha,h1]; rw [if_neg (by simp),if_neg (by omega)]; omega
    ·cases j with
     | zero=>exact ha
     | succ j=>simpa using h3 j (by simpa using hj) (by omega)
theorem zf3r {α:Type} [DecidableEq α] {v:α} {l:List α}:(0≤fIx (fun a=>decide (v=a)) l)↔v ∈ l:=by
 rcases za4c (fun a=>decide (v=a)) l with ⟨h1,h2⟩|⟨i,hi,h1,h2,_⟩
 ·rw [h1]
  exact ⟨fun q=>by omega,fun q=>by have:=h2 v q; simp at this⟩
 ·rw [h1]
  have e:v=l[i]:=by simpa using h2
  exact ⟨fun _=>e▸y08 hi,fun _=>by omega⟩
def S900 (x y:Sl Str) (i:Nat):St:=z4rh (x.dv 1 stC) (y.dv 1 stC) (.int .i64 x.l.length) (.int .i64 i) []
theorem zplh (x y:Sl Str):Runs tbl0 a29 [x.dv 1 stC,y.dv 1 stC] (.bool (decide (x.l=y.l))):=by
 refine ⟨?_⟩
 have hb:=x.b
 have hlx : ∀ H,lenD H (x.dv 1 stC)=some (.int .i64 x.l.length):=fun H=>zupj
 by_cases hl:x.l.length=y.l.length
 ·have hly : ∀ H,lenD H (y.dv 1 stC)=some (.int .i64 x.l.length):=fun H=>by rw [zupj,hl]
  simp (disch:=first|omega|simp<;>omega|fail) [-zA,-zB,-zC,-zD,-zE,a29,hlx,hly]
  refine zlm5 (S900 x y) (fun i=>x.l.length-i) (fun i=>i≤x.l.length ∧ ∀ j (h1:j<x.l.length) (h2:j<y.l.length),j<i→x.l[j]=y.l[j]) 0 (z515 (by simp (disch:=first|omega|simp<;>omega|fail) [-zA,-zB,-zC,-zD,-zE,S900,z4rh]) (by simp (disch:=first|omega|simp<;>omega|fail) [-zA,-zB,-zC,-zD,-zE,S900,z4rh])) ⟨by omega,fun j _ _ hj=>by omega⟩ (fun i hi => ?_)
  obtain ⟨q1,q2⟩:=hi
  simp only [S900]
  by_cases g:i<x.l.length
  ·have g':(i:Int)<x.l.length:=by omega
   have gy:i<y.l.length:=by omega
   have hx : ∀ H,zpsc H 1 (x.dv 1 stC) i=some (.ref (stC x.l[i])):=fun H=>zalo zqv6 g
   have hy : ∀ H,zpsc H 1 (y.dv 1 stC) i=some (.ref (stC y.l[i])):=fun H=>zalo zqv6 gy
   by_cases e:x.l[i]=y.l[i]
   ·have hinv : ∀ j (h1:j<x.l.length) (h2:j<y.l.length),j<i+1→x.l[j]=y.l[j]:=fun j h1 h2 hj=>by
     by_cases ej:j=i
     ·subst ej; exact e
     ·exact q2 j h1 h2 (by omega)
    obtain ⟨u,hu⟩ : ∃ u,x.l[i]=u:=⟨_,rfl⟩
    obtain ⟨v,hv⟩ : ∃ v,y.l[i]=v:=⟨_,rfl⟩
    rw [hu] at hx e
    rw [hv] at hy e
    simp (disch:=first|omega|simp<;>omega|fail) [-zA,-zB,-zC,-zD,-zE,zpik,z4rh,g,g',hx,hy,e,stC]
    exact ⟨i+1,z515 (by simp (disch:=first|omega|simp<;>omega|fail) [-zA,-zB,-zC,-zD,-zE,S900,z4rh]) (by simp (disch:=first|omega|simp<;>omega|fail) [-zA,-zB,-zC,-zD,-zE,S900,z4rh]),by omega,by omega,hinv⟩
   ·have hr:¬ x.l=y.l:=fun q=>e (by simp [q])
    obtain ⟨u,hu⟩ : ∃ u,x.l[i]=u:=⟨_,rfl⟩
    obtain ⟨v,hv⟩ : ∃ v,y.l[i]=v:=⟨_,rfl⟩
    rw [hu] at hx e
    rw [hv] at hy e
    simp (disch:=first|omega|simp<;>omega|fail) [-zA,-zB,-zC,-zD,-zE,zpik,z4rh,g,g',hx,hy,e,hr,stC]
  ·have g':¬ (i:Int)<x.l.length:=by omega
   have hr:x.l=y.l:=List.ext_getElem hl fun j h1 h2=>q2 j h1 h2 (by omega)
   rw [decide_eq_true hr]
   simp (disch:=first|omega|simp<;>omega|fail) [-zA,-zB,-zC,-zD,-zE,zpik,z4rh,g,g']
 ·have hl':¬ (x.l.length:Int)=y.l.length:=by omega
  have hr:¬ x.l=y.l:=fun q=>hl (by rw [q])
  have hly : ∀ H,lenD H (y.dv 1 stC)=some (.int .i64 y.l.length):=fun H=>zupj
  simp (disch:=first|omega|simp<;>omega|fail) [-zA,-zB,-zC,-zD,-zE,a29,hlx,hly,hl,hl',hr]
noncomputable def zsph:List DV→Option DV:=con (fun _=>True) (fun a:Sl Str × Sl Str=>[a.1.dv 1 stC,a.2.dv 1 stC]) (fun a => .bool (decide (a.1.l=a.2.l)))
theorem zxfs {x y:Sl Str}:zsph [x.dv 1 stC,y.dv 1 stC]=some (.bool (decide (x.l=y.l))) :=
 zsn4 (f:=fun a:Sl Str × Sl Str=>[a.1.dv 1 stC,a.2.dv 1 stC]) (g:=fun a => .bool (decide (a.1.l=a.2.l))) (by
  rintro ⟨a,b⟩ ⟨c,d⟩ e
  simp only [List.cons.injEq,and_true] at e
  rw [zdef e.1,zdef e.2]) (x,y)
theorem z0g7:(Con.pure zsph).Sound P 29:=z2au fun a _=>zljw mix zr5o Try.func29 ztig (zplh a.1 a.2)
def S901 {B:Nat} (x y:SlB B Ent) (i:Nat):St:=zvur (x.dv 33 enC) (y.dv 33 enC) (.int .i64 x.l.length) (.int .i64 i) []
theorem z0lm {B:Nat} (hB:B≤9223372036854775807) (x y:SlB B Ent):Runs tbl0 a49 [x.dv 33 enC,y.dv 33 enC] (.bool (decide (x.l=y.l))):=by
 refine ⟨?_⟩
 have hb:=x.b
 have hlx : ∀ H,lenD H (x.dv 33 enC)=some (.int .i64 x.l.length):=fun H=>zupj
 by_cases hl:x.l.length=y.l.length
 ·have hly : ∀ H,lenD H (y.dv 33 enC)=some (.int .i64 x.l.length):=fun H=>by rw [zupj,hl]
  simp (disch:=first|omega|simp<;>omega|fail) [-zA,-zB,-zC,-zD,-zE,a49,hlx,hly]
  refine zlm5 (S901 x y) (fun i=>x.l.length-i) (fun i=>i≤x.l.length ∧ ∀ j (h1:j<x.l.length) (h2:j<y.l.length),j<i→x.l[j]=y.l[j]) 0 (z515 (by simp (disch:=first|omega|simp<;>omega|fail) [-zA,-zB,-zC,-zD,-zE,S901,zvur]) (by simp (disch:=first|omega|simp<;>omega|fail) [-zA,-zB,-zC,-zD,-zE,S901,zvur])) ⟨by omega,fun j _ _ hj=>by omega⟩ (fun i hi => ?_)
  obtain ⟨q1,q2⟩:=hi
  simp only [S901]
  by_cases g:i<x.l.length
  ·have g':(i:Int)<x.l.length:=by omega
   have gy:i<y.l.length:=by omega
   have hx : ∀ H,zpsc H 33 (x.dv 33 enC) i=some (.ref (enC x.l[i])):=fun H=>zalo zuso g
   have hy : ∀ H,zpsc H 33 (y.dv 33 enC) i=some (.ref (enC y.l[i])):=fun H=>zalo zuso gy
   by_cases e:x.l[i]=y.l[i]
   ·have hinv : ∀ j (h1:j<x.l.length) (h2:j<y.l.length),j<i+1→x.l[j]=y.l[j]:=fun j h1 h2 hj=>by
     by_cases ej:j=i
     ·subst ej; exact e
     ·exact q2 j h1 h2 (by omega)
    obtain ⟨u,hu⟩ : ∃ u,x.l[i]=u:=⟨_,rfl⟩
    obtain ⟨v,hv⟩ : ∃ v,y.l[i]=v:=⟨_,rfl⟩
    rw [hu] at hx e
    rw [hv] at hy e
    simp (disch:=first|omega|simp<;>omega|fail) [-zA,-zB,-zC,-zD,-zE,zuys,zvur,g,g',hx,hy,e]
    exact ⟨i+1,z515 (by simp (disch:=first|omega|simp<;>omega|fail) [-zA,-zB,-zC,-zD,-zE,S901,zvur]) (by simp (disch:=first|omega|simp<;>omega|fail) [-zA,-zB,-zC,-zD,-zE,S901,zvur]),by omega,by omega,hinv⟩
   ·have hr:¬ x.l=y.l:=fun q=>e (by simp [q])
    obtain ⟨u,hu⟩ : ∃ u,x.l[i]=u:=⟨_,rfl⟩
    obtain ⟨v,hv⟩ : ∃ v,y.l[i]=v:=⟨_,rfl⟩
    rw [hu] at hx e
    rw [hv] at hy e
    simp (disch:=first|omega|simp<;>omega|fail) [-zA,-zB,-zC,-zD,-zE,zuys,zvur,g,g',hx,hy,e,hr]
  ·have g':¬ (i:Int)<x.l.length:=by omega
   have hr:x.l=y.l:=List.ext_getElem hl fun j h1 h2=>q2 j h1 h2 (by omega)
   rw [decide_eq_true hr]
   simp (disch:=first|omega|simp<;>omega|fail) [-zA,-zB,-zC,-zD,-zE,zuys,zvur,g,g']
 ·have hl':¬ (x.l.length:Int)=y.l.length:=by omega
  have hr:¬ x.l=y.l:=fun q=>hl (by rw [q])
  have hly : ∀ H,lenD H (y.dv 33 enC)=some (.int .i64 y.l.length):=fun H=>zupj
  simp (disch:=first|omega|simp<;>omega|fail) [-zA,-zB,-zC,-zD,-zE,a49,hlx,hly,hl,hl',hr]
noncomputable def ztpz:List DV→Option DV:=con (fun _=>True) (fun a:Sl Ent × Sl Ent=>[a.1.dv 33 enC,a.2.dv 33 enC]) (fun a => .bool (decide (a.1.l=a.2.l)))
theorem zezl {x y:Sl Ent}:ztpz [x.dv 33 enC,y.dv 33 enC]=some (.bool (decide (x.l=y.l))) :=
 zsn4 (f:=fun a:Sl Ent × Sl Ent=>[a.1.dv 33 enC,a.2.dv 33 enC]) (g:=fun a => .bool (decide (a.1.l=a.2.l))) (by
  rintro ⟨a,b⟩ ⟨c,d⟩ e
  simp only [List.cons.injEq,and_true] at e
  rw [zdvs e.1,zdvs e.2]) (x,y)
theorem zhc9:(Con.pure ztpz).Sound P 49:=z2au fun a _=>zljw mix zr5o Try.func49 zdc4 (z0lm (by decide) a.1 a.2)
def zxyz (a b:Lnk):Bool:=decide (a.m.l=b.m.l)&&decide (a.p.l=b.p.l)
noncomputable def T900:Tbl:=addT 49 (.pure ztpz) tbl0
theorem z2vc:T900 49 = .pure ztpz:=by simp [T900]
theorem zbdm:T900.Sound P:=z0rp zhc9 zr5o
theorem z0ag (a b:Lnk):Runs T900 a21 [.agg (lkC a),.agg (lkC b)] (.bool (zxyz a b)):=by
 refine ⟨?_⟩
 have h1:=zezl (x:=a.m) (y:=b.m)
 have h2:=zezl (x:=a.p) (y:=b.p)
 unfold zxyz
 by_cases e:a.m.l=b.m.l
 ·simp (disch:=first|omega|simp<;>omega|fail) [-zA,-zB,-zC,-zD,-zE,a21,z2vc,h1,h2,e]
 ·simp (disch:=first|omega|simp<;>omega|fail) [-zA,-zB,-zC,-zD,-zE,a21,z2vc,h1,e]
noncomputable def cSmL:List DV→Option DV:=con (fun _=>True) (fun a:Lnk × Lnk=>[.agg (lkC a.1),.agg (lkC a.2)]) (fun a => .bool (zxyz a.1 a.2))
theorem zfc5 {a b:Lnk}:cSmL [.agg (lkC a),.agg (lkC b)]=some (.bool (zxyz a b)) :=
 zsn4 (f:=fun a:Lnk × Lnk=>[.agg (lkC a.1),.agg (lkC a.2)]) (g:=fun a => .bool (zxyz a.1 a.2)) (by
  rintro ⟨a,b⟩ ⟨c,d⟩ e
  simp only [List.cons.injEq,DV.agg.injEq,and_true] at e
  rw [zja4 e.1,zja4 e.2]) (a,b)
theorem zijq:(Con.pure cSmL).Sound P 21:=z2au fun a _=>zljw mix zbdm Try.func21 zyfb (z0ag a.1 a.2)
def S902 (x:Sl Str) (v:Str) (i:Nat):St:=zv4w (x.dv 1 stC) (.str v) (.int .i64 x.l.length) (.int .i64 i) []
theorem zlea (x:Sl Str) (v:Str):Runs tbl0 a52 [x.dv 1 stC,.str v] (.int .i64 (fIx (fun a=>decide (v=a)) x.l)):=by
 refine ⟨?_⟩
 have hb:=x.b
 simp (disch:=first|omega|simp<;>omega|fail) [-zA,-zB,-zC,-zD,-zE,a52]
 refine zlm5 (S902 x v) (fun i=>x.l.length-i) (fun i=>i≤x.l.length ∧ ∀ j (h:j<x.l.length),j<i→¬ v=x.l[j]) 0 (z515 (by simp (disch:=first|omega|simp<;>omega|fail) [-zA,-zB,-zC,-zD,-zE,S902,zv4w]) (by simp (disch:=first|omega|simp<;>omega|fail) [-zA,-zB,-zC,-zD,-zE,S902,zv4w])) ⟨by omega,fun j _ hj=>by omega⟩ (fun i hi => ?_)
 obtain ⟨q1,q2⟩:=hi
 simp only [S902]
 by_cases g:i<x.l.length
 ·have g':(i:Int)<x.l.length:=by omega
  have hx : ∀ H,zpsc H 1 (x.dv 1 stC) i=some (.ref [.str x.l[i]]):=fun H=>zalo zqv6 g
  by_cases e:v=x.l[i]
  ·have hr:fIx (fun a=>decide (v=a)) x.l=i:=z67l g (by simpa using e) (fun j h hj=>by simpa using q2 j h hj)
   obtain ⟨u,hu⟩ : ∃ u,x.l[i]=u:=⟨_,rfl⟩
   rw [hu] at hx e
   simp (disch:=first|omega|simp<;>omega|fail) [-zA,-zB,-zC,-zD,-zE,z5oa,zv4w,g,g',hx,e.symm,hr]
   try (rw [e] at hr; simp (disch:=first|omega|simp<;>omega|fail) [-zA,-zB,-zC,-zD,-zE,hr])
  ·have hinv : ∀ j (h:j<x.l.length),j<i+1→¬ v=x.l[j]:=fun j hj hji=>by
    by_cases ej:j=i
    ·subst ej; exact e
    ·exact q2 j hj (by omega)
   obtain ⟨u,hu⟩ : ∃ u,x.l[i]=u:=⟨_,rfl⟩
   rw [hu] at hx e
   simp (disch:=first|omega|simp<;>omega|fail) [-zA,-zB,-zC,-zD,-zE,z5oa,zv4w,g,g',hx,e]
   exact ⟨i+1,z515 (by simp (disch:=first|omega|simp<;>omega|fail) [-zA,-zB,-zC,-zD,-zE,S902,zv4w]) (by simp (disch:=first|omega|simp<;>omega|fail) [-zA,-zB,-zC,-zD,-zE,S902,zv4w]),by omega,by omega,hinv⟩
 ·have g':¬ (i:Int)<x.l.length:=by omega
  have hr:fIx (fun a=>decide (v=a)) x.l = -1:=zf0r fun a ha=>by
   obtain ⟨j,hj,e⟩:=y0e ha
   have:=q2 j hj (by omega)
   rw [e] at this; simpa using this
  simp (disch:=first|omega|simp<;>omega|fail) [-zA,-zB,-zC,-zD,-zE,z5oa,zv4w,g,g',hr]
noncomputable def cIxS:List DV→Option DV:=con (fun _=>True) (fun a:Sl Str × Str=>[a.1.dv 1 stC,.str a.2]) (fun a => .int .i64 (fIx (fun b=>decide (a.2=b)) a.1.l))
theorem zt5a {x:Sl Str} {v:Str}:cIxS [x.dv 1 stC,.str v]=some (.int .i64 (fIx (fun a=>decide (v=a)) x.l)) :=
 zsn4 (f:=fun a:Sl Str × Str=>[a.1.dv 1 stC,.str a.2]) (g:=fun a => .int .i64 (fIx (fun b=>decide (a.2=b)) a.1.l)) (by
  rintro ⟨a,b⟩ ⟨c,d⟩ e
  simp only [List.cons.injEq,DV.str.injEq,and_true] at e
  rw [zdef e.1,e.2]) (x,v)
theorem zt71:(Con.pure cIxS).Sound P 52:=z2au fun a _=>zljw mix zr5o Try.func52 zil0 (zlea a.1 a.2)
noncomputable def T902:Tbl:=addT 52 (.pure cIxS) tbl0
theorem zzgp:T902 52 = .pure cIxS:=by simp [T902]
theorem zu0f:T902.Sound P:=z0rp zt71 zr5o
theorem zcfc (x:Sl Str) (v:Str):Runs T902 a30 [x.dv 1 stC,.str v] (.bool (decide (v ∈ x.l))):=by
 refine ⟨?_⟩
 have h:=zt5a (x:=x) (v:=v)
 have hm:=zf3r (v:=v) (l:=x.l)
 obtain ⟨k,hk⟩ : ∃ k,fIx (fun a=>decide (v=a)) x.l=k:=⟨_,rfl⟩
 rw [hk] at h hm
 by_cases e:v ∈ x.l
 ·have g:=hm.2 e
  simp (disch:=first|omega|simp<;>omega|fail) [-zA,-zB,-zC,-zD,-zE,a30,zzgp,h,e,g]
 ·have g:¬ 0≤k:=fun q=>e (hm.1 q)
  simp (disch:=first|omega|simp<;>omega|fail) [-zA,-zB,-zC,-zD,-zE,a30,zzgp,h,e,g]
noncomputable def cCnS:List DV→Option DV:=con (fun _=>True) (fun a:Sl Str × Str=>[a.1.dv 1 stC,.str a.2]) (fun a => .bool (decide (a.2 ∈ a.1.l)))
theorem z061 {x:Sl Str} {v:Str}:cCnS [x.dv 1 stC,.str v]=some (.bool (decide (v ∈ x.l))) :=
 zsn4 (f:=fun a:Sl Str × Str=>[a.1.dv 1 stC,.str a.2]) (g:=fun a => .bool (decide (a.2 ∈ a.1.l))) (by
  rintro ⟨a,b⟩ ⟨c,d⟩ e
  simp only [List.cons.injEq,DV.str.injEq,and_true] at e
  rw [zdef e.1,e.2]) (x,v)
theorem z9cy:(Con.pure cCnS).Sound P 30:=z2au fun a _=>zljw mix zu0f Try.func30 z3f8 (zcfc a.1 a.2)
def cpS {α:Type} (x:Sl α):Sl α:=if x.l=[] then x.clone else own x.l
theorem zpzq {α:Type} (x:Sl α) (h:x.l.length≤4294967296):(cpS x).l=x.l:=by
 unfold cpS
 split
 ·rename_i e; rw [e]; simp [Sl.clone,e]
 ·exact z3e9 h
theorem zvse (x:Sl Str):Runs tbl0 a53 [x.dv 1 stC] ((cpS x).dv 1 stC):=by
 refine ⟨?_⟩
 obtain ⟨k,l,h,hb⟩:=x
 cases k with
 | none =>
  have hl:l=[]:=h rfl
  subst hl
  simp (disch:=first|omega|simp<;>omega|fail) [-zA,-zB,-zC,-zD,-zE,a53,cpS,Sl.clone,z5oj]
 | some b =>
  have hb:l.length≤4294967296:=hb
  by_cases hl:l=[]
  ·subst hl; simp (disch:=first|omega|simp<;>omega|fail) [-zA,-zB,-zC,-zD,-zE,a53,z707,cpS,Sl.clone]
  ·have h1:=z1rq zqv6 l
   have h2:=z9jy (f:=stC) (fun _=>rfl) l
   have h3:0<l.length:=y0m.2 hl
   have h4:=fun H k=>z619 (h:=H) (k:=k) (zp6k zds6 l)
   have h5:(cpS ⟨some b,l,h,hb⟩:Sl Str).dv 1 stC = .sl false 1 l.length (l.flatMap stC):=by unfold cpS; rw [if_neg hl]; exact zqrs hb
   rw [h5]
   have h6:(l.flatMap stC).take (l.length)=l.flatMap stC:=y00 (by omega)
   simp (disch:=first|omega|simp<;>omega|fail) [-zA,-zB,-zC,-zD,-zE,a53,z707,fl,hl,h1,h2,h3,h4,h6]
noncomputable def z3gb:List DV→Option DV:=con (fun _=>True) (fun x:Sl Str=>[x.dv 1 stC]) (fun x=>(cpS x).dv 1 stC)
theorem zvlo {x:Sl Str}:z3gb [x.dv 1 stC]=some ((cpS x).dv 1 stC) :=
 zsn4 (f:=fun x:Sl Str=>[x.dv 1 stC]) (g:=fun x=>(cpS x).dv 1 stC) (fun a b e=>by simp only [List.cons.injEq,and_true] at e; exact zdef e) x
theorem zaw9:(Con.pure z3gb).Sound P 53:=z2au fun a _=>zljw mix zr5o Try.func53 zq51 (zvse a)
theorem zc6e (x:Sl Vrb):Runs tbl0 a54 [x.dv 2 vaC] ((cpS x).dv 2 vaC):=by
 refine ⟨?_⟩
 obtain ⟨k,l,h,hb⟩:=x
 cases k with
 | none =>
  have hl:l=[]:=h rfl
  subst hl
  simp (disch:=first|omega|simp<;>omega|fail) [-zA,-zB,-zC,-zD,-zE,a54,cpS,Sl.clone,z5oj]
 | some b =>
  have hb:l.length≤4294967296:=hb
  by_cases hl:l=[]
  ·subst hl; simp (disch:=first|omega|simp<;>omega|fail) [-zA,-zB,-zC,-zD,-zE,a54,z707,cpS,Sl.clone]
  ·have h1:=z1rq zqri l
   have h2:=z9jy (f:=vaC) (fun _=>z4t4) l
   have h3:0<l.length:=y0m.2 hl
   have h4:=fun H k=>z619 (h:=H) (k:=k) (zp6k zxwt l)
   have h5:(cpS ⟨some b,l,h,hb⟩:Sl Vrb).dv 2 vaC = .sl false 2 l.length (l.flatMap vaC):=by unfold cpS; rw [if_neg hl]; exact zqrs hb
   rw [h5]
   have h6:(l.flatMap vaC).take (l.length*2)=l.flatMap vaC:=y00 (by omega)
   simp (disch:=first|omega|simp<;>omega|fail) [-zA,-zB,-zC,-zD,-zE,a54,z707,fl,hl,h1,h2,h3,h4,h6]
noncomputable def z11o:List DV→Option DV:=con (fun _=>True) (fun x:Sl Vrb=>[x.dv 2 vaC]) (fun x=>(cpS x).dv 2 vaC)
theorem z8s7 {x:Sl Vrb}:z11o [x.dv 2 vaC]=some ((cpS x).dv 2 vaC) :=
 zsn4 (f:=fun x:Sl Vrb=>[x.dv 2 vaC]) (g:=fun x=>(cpS x).dv 2 vaC) (fun a b e=>by simp only [List.cons.injEq,and_true] at e; exact zvyz e) x
theorem zp3j:(Con.pure z11o).Sound P 54:=z2au fun a _=>zljw mix zr5o Try.func54 zq4q (zc6e a)
theorem zb2o (x:Sl Ent):Runs tbl0 a55 [x.dv 33 enC] ((cpS x).dv 33 enC):=by
 refine ⟨?_⟩
 obtain ⟨k,l,h,hb⟩:=x
 cases k with
 | none =>
  have hl:l=[]:=h rfl
  subst hl
  simp (disch:=first|omega|simp<;>omega|fail) [-zA,-zB,-zC,-zD,-zE,a55,cpS,Sl.clone,z5oj]
 | some b =>
  have hb:l.length≤4294967296:=hb
  by_cases hl:l=[]
  ·subst hl; simp (disch:=first|omega|simp<;>omega|fail) [-zA,-zB,-zC,-zD,-zE,a55,z707,cpS,Sl.clone]
  ·have h1:=z1rq zuso l
   have h2:=z9jy (f:=enC) (fun _=>zo6u) l
   have h3:0<l.length:=y0m.2 hl
   have h4:=fun H k=>z619 (h:=H) (k:=k) (zp6k zt9q l)
   have h5:(cpS ⟨some b,l,h,hb⟩:Sl Ent).dv 33 enC = .sl false 33 l.length (l.flatMap enC):=by unfold cpS; rw [if_neg hl]; exact zqrs hb
   rw [h5]
   have h6:(l.flatMap enC).take (l.length*33)=l.flatMap enC:=y00 (by omega)
   simp (disch:=first|omega|simp<;>omega|fail) [-zA,-zB,-zC,-zD,-zE,a55,z707,fl,hl,h1,h2,h3,h4,h6]
noncomputable def zziz:List DV→Option DV:=con (fun _=>True) (fun x:Sl Ent=>[x.dv 33 enC]) (fun x=>(cpS x).dv 33 enC)
theorem z4ix {x:Sl Ent}:zziz [x.dv 33 enC]=some ((cpS x).dv 33 enC) :=
 zsn4 (f:=fun x:Sl Ent=>[x.dv 33 enC]) (g:=fun x=>(cpS x).dv 33 enC) (fun a b e=>by simp only [List.cons.injEq,and_true] at e; exact zdvs e) x
theorem zzp6:(Con.pure zziz).Sound P 55:=z2au fun a _=>zljw mix zr5o Try.func55 ze8s (zb2o a)
end
section
set_option linter.unusedSimpArgs false
set_option linter.unusedVariables false
open Go Go.Am
noncomputable def T910:Tbl:=addT 53 (.pure z3gb) (addT 54 (.pure z11o) (addT 55 (.pure zziz) tbl0))
theorem z5oz:T910 53 = .pure z3gb:=by simp [T910]
theorem zosu:T910 54 = .pure z11o:=by simp [T910]
theorem zpbj:T910 55 = .pure zziz:=by simp [T910]
theorem zpyk:T910.Sound P:=z0rp zaw9 (z0rp zp3j (z0rp zzp6 zr5o))
def z28h (x:Att):Att:=⟨x.own,⟨x.rc.run,x.rc.scope,x.rc.step,x.rc.at_,cpS x.rc.cmd,cpS x.rc.env,cpS x.rc.m,cpS x.rc.p⟩⟩
theorem zzjk {x:Att} {h:List AObj} {id:Nat} {v:Sl Str}:zy6o h id 1 5 (v.dv 1 stC) (some (atC x))=some (.junk,h.set id (.cells (atC ⟨x.own,⟨x.rc.run,x.rc.scope,x.rc.step,x.rc.at_,v,x.rc.env,x.rc.m,x.rc.p⟩⟩))):=by rw [storeO_1 (zfr8 _) (z4ja _) (by rw [zu2q]; decide)]; rfl
theorem zx33 {x:Att} {h:List AObj} {id:Nat} {v:Sl Vrb}:zy6o h id 1 6 (v.dv 2 vaC) (some (atC x))=some (.junk,h.set id (.cells (atC ⟨x.own,⟨x.rc.run,x.rc.scope,x.rc.step,x.rc.at_,x.rc.cmd,v,x.rc.m,x.rc.p⟩⟩))):=by rw [storeO_1 (zfr8 _) (z4ja _) (by rw [zu2q]; decide)]; rfl
theorem zfk4 {x:Att} {h:List AObj} {id:Nat} {v:Sl Ent}:zy6o h id 1 7 (v.dv 33 enC) (some (atC x))=some (.junk,h.set id (.cells (atC ⟨x.own,⟨x.rc.run,x.rc.scope,x.rc.step,x.rc.at_,x.rc.cmd,x.rc.env,v,x.rc.p⟩⟩))):=by rw [storeO_1 (zfr8 _) (z4ja _) (by rw [zu2q]; decide)]; rfl
theorem zyde {x:Att} {h:List AObj} {id:Nat} {v:Sl Ent}:zy6o h id 1 8 (v.dv 33 enC) (some (atC x))=some (.junk,h.set id (.cells (atC ⟨x.own,⟨x.rc.run,x.rc.scope,x.rc.step,x.rc.at_,x.rc.cmd,x.rc.env,x.rc.m,v⟩⟩))):=by rw [storeO_1 (zfr8 _) (z4ja _) (by rw [zu2q]; decide)]; rfl
theorem zrse (x:Att):Runs T910 a31 [.agg (atC x)] (.agg (atC (z28h x))):=by
 refine ⟨?_⟩
 have h1:=zvlo (x:=x.rc.cmd)
 have h2:=z8s7 (x:=x.rc.env)
 have h3:=z4ix (x:=x.rc.m)
 have h4:=z4ix (x:=x.rc.p)
 have hr:(⟨x.own,⟨x.rc.run,x.rc.scope,x.rc.step,x.rc.at_,cpS x.rc.cmd,cpS x.rc.env,cpS x.rc.m,cpS x.rc.p⟩⟩:Att)=z28h x:=rfl
 simp (disch:=first|omega|simp<;>omega|fail) [-zA,-zB,-zC,-zD,-zE,a31,z5oz,zosu,zpbj,h1,h2,h3,h4,zzjk,zx33,zfk4,zyde,hr]
noncomputable def cCpA:List DV→Option DV:=con (fun _=>True) (fun x:Att=>[.agg (atC x)]) (fun x => .agg (atC (z28h x)))
theorem z4hf {x:Att}:cCpA [.agg (atC x)]=some (.agg (atC (z28h x))) :=
 zsn4 (f:=fun x:Att=>[.agg (atC x)]) (g:=fun x => .agg (atC (z28h x))) (fun a b e=>by simp only [List.cons.injEq,DV.agg.injEq,and_true] at e; exact zpr0 e) x
theorem z87q:(Con.pure cCpA).Sound P 31:=z2au fun a _=>zljw mix zpyk Try.func31 zjer (zrse a)
def eliP (s:Spc) (x:Att):Bool:=(decide (s.cmd.l=[])||decide (s.cmd.l=x.rc.cmd.l))&&(decide (x.rc.step=s.name)&&decide (x.own ∈ s.by_.l))
def eliS (s:Spc) (l:List Att):List Att:=(l.filter (eliP s)).map z28h
theorem z9xw {s:Spc} {l:List Att} {x:Att}:eliS s (l++[x])=eliS s l++(if eliP s x then [z28h x] else []):=by
 unfold eliS
 rw [y10,y0i]
 cases h:eliP s x<;>simp [List.filter,h]
theorem zusn (s:Spc) (l:List Att):(eliS s l).length≤l.length:=by unfold eliS; rw [y02]; exact y0w _ _
noncomputable def T911:Tbl:=addT 29 (.pure zsph) (addT 30 (.pure cCnS) (addT 31 (.pure cCpA) tbl0))
theorem za27:T911 29 = .pure zsph:=by simp [T911]
theorem z1oe:T911 30 = .pure cCnS:=by simp [T911]
theorem zeux:T911 31 = .pure cCpA:=by simp [T911]
theorem zchj:T911.Sound P:=z0rp z0g7 (z0rp z9cy (z0rp z87q zr5o))
theorem zsdw {x:Att}:bslD 9 1 [.str [],.str [],.str [],.str [],.int .i64 0,.nils,.nils,.nils,.nils] [(0,9,.agg (atC x))]=some (.sl true 9 1 (atC x)):=by
 have h1:=zu2q x
 simp [bslD,zi03,zk7y,reps,h1,y0k]
def S911 (s:Spc) (l:Sl Att) (i:Nat):St:=z9o7 (.mp 0 7 0) (oV 1 9 (eliS s (l.l.take i))) (l.dv 9 atC) (.int .i64 l.l.length) (.int .i64 i) (.cells (spC s)::oT atC (eliS s (l.l.take i)))
def EliT:ACode:=match z382 with
 | .seq _ (.seq _ (.seq (.block _ (.seq _ (.seq _ y))) _))=>y
 | _ => .skip
theorem zu1r (x:Sl Att):zyp8 (x.dv 9 atC)=true:=zxxb z83l x
theorem z965 {x y:Sl Att} (e:x.dv 9 atC=y.dv 9 atC):x=y:=zcq7 zu2q (by decide) (fun _ _=>zpr0) e
def EliR:ACode:=match z382 with
 | .seq _ (.seq _ (.seq _ y))=>y
 | _ => .skip
theorem zqv2 {s:Spc} {l:Sl Att} {i:Nat} {L:List Att} {x:Att} {cm:Bool} (hb:l.l.length≤4294967296) (h:i<l.l.length) (hlen:L.length≤i) (hs:eliS s (l.l.take (i+1))=L++(if eliP s x then [z28h x] else []))
  (hc:(decide (s.cmd.l=[])||decide (s.cmd.l=x.rc.cmd.l))=cm) {Φ0:AExit→St→Prop} :
  V P 0 EliT (z0mx 1 (z2pk P 0 EliR (z13e 0 (S911 s l) (fun i=>l.l.length-i) (fun i=>i≤l.l.length) i Φ0)))
   ⟨[.junk,.junk,.mp 0 7 0,.junk,.junk,oV 1 9 L,.junk,.ref (atC x),.bool cm,l.dv 9 atC,.int .i64 l.l.length,.int .i64 i]++js 38,.cells (spC s)::oT atC L⟩:=by
 have hap:=zte0 (k:=1) (b:=168) (l:=L) (x:=z28h x) (h:=[AObj.cells (spC s)]) rfl zu2q (by decide) (by decide) (fun _=>zwh8) (by omega)
 simp only [y01,y05] at hap
 have hv : ∀ H,visY H (.sl true 9 1 (atC (z28h x)))=some (1,atC (z28h x)):=fun H=>by simp [visY]
 have k2:=z061 (x:=s.by_) (v:=x.own)
 have k3:=z4hf (x:=x)
 have fin : ∀ (b:Bool) (L':List Att),eliP s x=b→L'=L++(if b then [z28h x] else [])→V P 0 EliR (z13e 0 (S911 s l) (fun i=>l.l.length-i) (fun i=>i≤l.l.length) i Φ0) ⟨[.junk,.junk,.mp 0 7 0,.junk,.junk,oV 1 9 L',.junk,.junk,.junk,l.dv 9 atC,.int .i64 l.l.length,.int .i64 i]++js 38,.cells (spC s)::oT atC L'⟩:=fun b L' hb hL=>by
  rw [hb,← hL] at hs
  simp only [EliR,z382]
  refine V_W mix zchj ?_
  simp (disch:=first|omega|simp<;>omega|fail) [-zA,-zB,-zC,-zD,-zE]
  exact ⟨i+1,z515 (by simp (disch:=first|omega|simp<;>omega|fail) [-zA,-zB,-zC,-zD,-zE,S911,z9o7,hs]) (by simp (disch:=first|omega|simp<;>omega|fail) [-zA,-zB,-zC,-zD,-zE,S911,z9o7,hs]),by omega,by omega⟩
 simp only [EliT,z382]
 refine zbn1 (V_W mix zchj ?_)
 cases cm with
 | false =>
  have hb:eliP s x=false:=by unfold eliP; rw [hc]; rfl
  simp (disch:=first|omega|simp<;>omega|fail) [-zA,-zB,-zC,-zD,-zE]
  refine V_W mix zchj ?_
  simp (disch:=first|omega|simp<;>omega|fail) [-zA,-zB,-zC,-zD,-zE]
  exact zqfd (z515 (by simp (disch:=first|omega|simp<;>omega|fail) [-zA,-zB,-zC,-zD,-zE]) (by simp (disch:=first|omega|simp<;>omega|fail) [-zA,-zB,-zC,-zD,-zE])) (fin false L hb (by simp))
 | true =>
  by_cases e1:x.rc.step=s.name
  ·by_cases e2:x.own ∈ s.by_.l
   ·have hb:eliP s x=true:=by unfold eliP; rw [hc]; simp [e1,e2]
    simp (disch:=first|omega|simp<;>omega|fail) [-zA,-zB,-zC,-zD,-zE,e1,z1oe,k2,e2]
    refine V_W mix zchj ?_
    simp (disch:=first|omega|simp<;>omega|fail) [-zA,-zB,-zC,-zD,-zE,zeux,k3,zsdw,hv,hap]
    exact zqfd (z515 (by simp (disch:=first|omega|simp<;>omega|fail) [-zA,-zB,-zC,-zD,-zE]) (by simp (disch:=first|omega|simp<;>omega|fail) [-zA,-zB,-zC,-zD,-zE])) (fin true (L++[z28h x]) hb (by simp))
   ·have hb:eliP s x=false:=by unfold eliP; rw [hc]; simp [e1,e2]
    simp (disch:=first|omega|simp<;>omega|fail) [-zA,-zB,-zC,-zD,-zE,e1,z1oe,k2,e2]
    refine V_W mix zchj ?_
    simp (disch:=first|omega|simp<;>omega|fail) [-zA,-zB,-zC,-zD,-zE]
    exact zqfd (z515 (by simp (disch:=first|omega|simp<;>omega|fail) [-zA,-zB,-zC,-zD,-zE]) (by simp (disch:=first|omega|simp<;>omega|fail) [-zA,-zB,-zC,-zD,-zE])) (fin false L hb (by simp))
  ·have hb:eliP s x=false:=by unfold eliP; rw [hc]; simp [e1]
   simp (disch:=first|omega|simp<;>omega|fail) [-zA,-zB,-zC,-zD,-zE,e1]
   refine V_W mix zchj ?_
   simp (disch:=first|omega|simp<;>omega|fail) [-zA,-zB,-zC,-zD,-zE]
   exact zqfd (z515 (by simp (disch:=first|omega|simp<;>omega|fail) [-zA,-zB,-zC,-zD,-zE]) (by simp (disch:=first|omega|simp<;>omega|fail) [-zA,-zB,-zC,-zD,-zE])) (fin false L hb (by simp))
theorem z1e9 (s:Spc) (l:Sl Att):V P 0 a10.code (retK a10.res ((ownN (eliS s l.l)).dv 9 atC)) ⟨zr5g a10.ntmps [.agg (spC s),l.dv 9 atC],[]⟩:=by
 have hb:=l.b
 refine zbn1 (V_W mix zchj ?_)
 simp (disch:=first|omega|simp<;>omega|fail) [-zA,-zB,-zC,-zD,-zE,a10]
 refine zbn1 (V_W mix zchj ?_)
 simp (disch:=first|omega|simp<;>omega|fail) [-zA,-zB,-zC,-zD,-zE]
 refine zbn1 (zbn1 (V_W mix zchj ?_))
 simp (disch:=first|omega|simp<;>omega|fail) [-zA,-zB,-zC,-zD,-zE]
 refine z3mo (ztbr (S911 s l) (fun i=>l.l.length-i) (fun i=>i≤l.l.length) 0 (z515 (by simp (disch:=first|omega|simp<;>omega|fail) [-zA,-zB,-zC,-zD,-zE,S911,z9o7,eliS,zl8p]) (by simp (disch:=first|omega|simp<;>omega|fail) [-zA,-zB,-zC,-zD,-zE,S911,z9o7,eliS,zkrk])) (by omega) (fun i hi => ?_))
 simp only [S911]
 refine zbn1 (V_W mix zchj ?_)
 by_cases h:i<l.l.length
 case neg =>
  have h':¬ (i:Int)<l.l.length:=by omega
  rw [y00 (show l.l.length≤i by omega)]
  have hl:=zusn s l.l
  have hsn:=zigm (k:=1) (l:=eliS s l.l) (h:=[AObj.cells (spC s)]) (r:=[]) rfl zu2q z83l (by omega)
  rw [y0j] at hsn
  simp only [y01,y05] at hsn
  simp (disch:=first|omega|simp<;>omega|fail) [-zA,-zB,-zC,-zD,-zE,z382,z9o7,h,h']
  refine zbn1 (V_W mix zchj ?_)
  simp (disch:=first|omega|simp<;>omega|fail) [-zA,-zB,-zC,-zD,-zE,h,h']
  refine V_W mix zchj ?_
  simp (disch:=first|omega|simp<;>omega|fail) [-zA,-zB,-zC,-zD,-zE,hsn]
 have h':(i:Int)<l.l.length:=by omega
 have hg : ∀ H,zpsc H 9 (l.dv 9 atC) i=some (.ref (atC l.l[i])):=fun H=>zalo zu2q h
 obtain ⟨x,hx⟩ : ∃ x,l.l[i]=x:=⟨_,rfl⟩
 have hs:=z9xw (s:=s) (l:=l.l.take i) (x:=x)
 rw [← hx,← y03 h,hx] at hs
 rw [hx] at hg
 have hlen:(eliS s (l.l.take i)).length≤i:=by have:=zusn s (l.l.take i); rw [y0c] at this; omega
 obtain ⟨L,hL⟩ : ∃ L,eliS s (l.l.take i)=L:=⟨_,rfl⟩
 rw [hL] at hs hlen ⊢
 have hTb : ∀ n,zlf2 n (oT atC L)=true:=fun n=>zd81 z83l
 have hVb:Am.below (1+(oT atC L).length) (oV 1 9 L)=true:=zv6o
 have hVb':Am.below ((oT atC L).length+1) (oV 1 9 L)=true:=by rw [Nat.add_comm]; exact hVb
 have k1:=zxfs (x:=s.cmd) (y:=x.rc.cmd)
 simp (disch:=first|omega|simp<;>omega|fail) [-zA,-zB,-zC,-zD,-zE,z382,z9o7,h,h']
 refine zbn1 (V_W mix zchj ?_)
 simp (disch:=first|omega|simp<;>omega|fail) [-zA,-zB,-zC,-zD,-zE,h,h']
 refine zbn1 (z3mo (zbn1 (V_W mix zchj ?_)))
 simp (disch:=first|omega|simp<;>omega|fail) [-zA,-zB,-zC,-zD,-zE,hg]
 refine zs10 (H := .cells (spC s)::oT atC L) (cs:=atC x) (t':=[.junk,.junk,.mp 0 7 0,.junk,.junk,oV 1 9 L,.junk,.ref (atC x),.junk,l.dv 9 atC,.int .i64 l.l.length,.int .i64 i]++js 38) (by simp (disch:=first|omega|simp<;>omega|fail) [-zA,-zB,-zC,-zD,-zE,zlf2,hTb]) (by simp) ?_ (by simp (disch:=first|omega|simp<;>omega|fail) [-zA,-zB,-zC,-zD,-zE,belowL,Am.below,hVb',z8b8 _ _ (zu1r l)]) ?_
 ·have e1:=zz5t (H := .cells (spC s)::oT atC L) (cs:=atC x) (off:=0) (z83l x)
  have e2 : ∀ h,mk1 (kLt ((AObj.cells (spC s)::oT atC L).length)) h (oV 1 9 L)=oV 1 9 L:=fun h=>zd3c (by rw [y06]; exact hVb')
  have e3 : ∀ h,mk1 (kLt ((AObj.cells (spC s)::oT atC L).length)) h (.mp 0 7 0) = .mp 0 7 0:=fun h=>zd3c (by simp [Am.below])
  have e4 : ∀ K h,mk1 K h (l.dv 9 atC)=l.dv 9 atC:=fun K h=>zvft (zu1r l)
  simp only [y01,y06,zu2q,y0d] at e1 e2 e3
  simp (disch:=first|omega|simp<;>omega|fail) [-zA,-zB,-zC,-zD,-zE,e1,e2,e3,e4]
 have main:=fun cm (hc:(decide (s.cmd.l=[])||decide (s.cmd.l=x.rc.cmd.l))=cm) Φ0=>zqv2 (Φ0:=Φ0) hb h (by omega) hs hc
 refine zbn1 (V_W mix zchj ?_)
 by_cases e0:s.cmd.l=[]
 ·have e0':s.cmd.l.length=0:=by rw [e0]; rfl
  simp (disch:=first|omega|simp<;>omega|fail) [-zA,-zB,-zC,-zD,-zE,e0,e0']
  exact zqfd (z515 (by simp (disch:=first|omega|simp<;>omega|fail) [-zA,-zB,-zC,-zD,-zE]) (by simp (disch:=first|omega|simp<;>omega|fail) [-zA,-zB,-zC,-zD,-zE])) (main true (by simp [e0]) _)
 ·have e0':¬ s.cmd.l.length=0:=fun q=>e0 (y0x q)
  have e0'':¬ (s.cmd.l.length:Int)=0:=by omega
  by_cases e1:s.cmd.l=x.rc.cmd.l
  ·have k1:zsph [s.cmd.dv 1 stC,x.rc.cmd.dv 1 stC]=some (.bool true):=by rw [k1,decide_eq_true e1]
   simp (disch:=first|omega|simp<;>omega|fail) [-zA,-zB,-zC,-zD,-zE,e0',e0'',za27,k1]
   exact zqfd (z515 (by simp (disch:=first|omega|simp<;>omega|fail) [-zA,-zB,-zC,-zD,-zE]) (by simp (disch:=first|omega|simp<;>omega|fail) [-zA,-zB,-zC,-zD,-zE])) (main true (by simp [e1]) _)
  ·have k1:zsph [s.cmd.dv 1 stC,x.rc.cmd.dv 1 stC]=some (.bool false):=by rw [k1,decide_eq_false e1]
   simp (disch:=first|omega|simp<;>omega|fail) [-zA,-zB,-zC,-zD,-zE,e0',e0'',za27,k1]
   exact zqfd (z515 (by simp (disch:=first|omega|simp<;>omega|fail) [-zA,-zB,-zC,-zD,-zE]) (by simp (disch:=first|omega|simp<;>omega|fail) [-zA,-zB,-zC,-zD,-zE])) (main false (by simp [e0,e1]) _)
noncomputable def cEli:List DV→Option DV:=con (fun _=>True) (fun a:Spc × Sl Att=>[.agg (spC a.1),a.2.dv 9 atC]) (fun a=>(ownN (eliS a.1 a.2.l)).dv 9 atC)
theorem zbwi {s:Spc} {l:Sl Att}:cEli [.agg (spC s),l.dv 9 atC]=some ((ownN (eliS s l.l)).dv 9 atC) :=
 zsn4 (f:=fun a:Spc × Sl Att=>[.agg (spC a.1),a.2.dv 9 atC]) (g:=fun a=>(ownN (eliS a.1 a.2.l)).dv 9 atC) (by
  rintro ⟨a,b⟩ ⟨c,d⟩ e
  simp only [List.cons.injEq,DV.agg.injEq,and_true] at e
  rw [z1d3 e.1,z965 e.2]) (s,l)
theorem zxn6:(Con.pure cEli).Sound P 10:=z2au fun a _=>znz9 Try.func10 z1ee (z1e9 a.1 a.2)
end
section
set_option linter.unusedSimpArgs false
set_option linter.unusedVariables false
open Go Go.Am
structure SF where
 k:Nat
 s:Vot→Vot→Bool
 c:List DV→Option DV
 e : ∀ a b,c [.agg (voC a),.agg (voC b)]=some (.bool (s a b))
 h:(Con.pure c).Sound P k
def SF.dv (F:SF):DV := .fn (.func F.k) [] []
def gC (g:Sl Vot):List DV:=[g.dv 4 voC]
theorem zfnv (g:Sl Vot):(gC g).length=1:=rfl
theorem znfs (x:Sl Vot):zyp8 (x.dv 4 voC)=true:=zxxb zc6g x
theorem zlw9 (g:Sl Vot):zbao (gC g)=true:=by simp [gC,zbao,znfs]
theorem z22s {x y:Sl Vot} (e:x.dv 4 voC=y.dv 4 voC):x=y:=zcq7 zu4u (by decide) (fun _ _=>zkbi) e
theorem zuif {a b:Sl Vot} (e:gC a=gC b):a=b:=by simp only [gC,List.cons.injEq,and_true] at e; exact z22s e
theorem zcsv (x:Sl (Sl Vot)):zyp8 (x.dv 1 gC)=true:=zxxb zlw9 x
theorem zhfr {x y:Sl (Sl Vot)} (e:x.dv 1 gC=y.dv 1 gC):x=y:=zcq7 zfnv (by decide) (fun _ _=>zuif) e
def hdS (F:SF) (v:Vot) (g:Sl Vot):Bool:=match g.l with
 | []=>false
 | y::_=>F.s y v
noncomputable def TF (F:SF):Tbl:=addT F.k (.pure F.c) tbl0
theorem TF_k (F:SF):TF F F.k = .pure F.c:=by simp [TF]
theorem zej6 (F:SF):(TF F).Sound P:=z0rp F.h zr5o
theorem zffv (F:SF) (g:Sl Vot) (v:Vot) (hg:g.l≠[]):Runs (TF F) a57 [g.dv 4 voC,.ref [F.dv],.ref (voC v)] (.bool (hdS F v g)):=by
 refine ⟨?_⟩
 cases e:g.l with
 | nil=>exact absurd e hg
 | cons y r =>
  have hi : ∀ H,zpsc H 4 (g.dv 4 voC) 0=some (.ref (voC y)):=fun H=>by
   have:=zalo (h:=H) (x:=g) (i:=0) zu4u (by rw [e]; simp)
   rw [show ((0:Nat):Int)=0 from rfl] at this
   rw [this]; simp [e]
  have h2:=F.e y v
  have hr:hdS F v g=F.s y v:=by unfold hdS; rw [e]
  simp (disch:=first|omega|simp<;>omega|fail) [-zA,-zB,-zC,-zD,-zE,a57,SF.dv,hi,TF_k,h2,hr]
noncomputable def cGcl (F:SF):List DV→Option DV:=con (fun a:Sl Vot × Vot=>a.1.l≠[]) (fun a=>[a.1.dv 4 voC,.ref [F.dv],.ref (voC a.2)]) (fun a => .bool (hdS F a.2 a.1))
theorem z97w {F:SF} {g:Sl Vot} {v:Vot} (h:g.l≠[]):cGcl F [g.dv 4 voC,.ref [F.dv],.ref (voC v)]=some (.bool (hdS F v g)) :=
 zzno (A:=fun a:Sl Vot × Vot=>a.1.l≠[]) (f:=fun a:Sl Vot × Vot=>[a.1.dv 4 voC,.ref [F.dv],.ref (voC a.2)]) (g:=fun a => .bool (hdS F a.2 a.1)) (by
  rintro ⟨a,b⟩ ⟨c,d⟩ e
  simp only [List.cons.injEq,DV.ref.injEq,and_true,true_and] at e
  rw [z22s e.1,zkbi e.2]) (g,v) h
theorem z8xh (F:SF):(Con.pure (cGcl F)).Sound P 57:=z2au fun a h=>zljw mix (zej6 F) Try.func57 zfce (zffv F a.1 a.2 h)
noncomputable def T920 (F:SF):Tbl:=addT 57 (.pure (cGcl F)) tbl0
theorem zp4d (F:SF):T920 F 57 = .pure (cGcl F):=by simp [T920]
theorem zpm6 (F:SF):(T920 F).Sound P:=z0rp (z8xh F) zr5o
def gfn (F:SF) (v:Vot):DV := .fn (.func 57) [] [.ref [F.dv],.ref (voC v)]
def S920 (F:SF) (x:Sl (Sl Vot)) (v:Vot) (i:Nat):St:=zax8 (x.dv 1 gC) (gfn F v) (.int .i64 x.l.length) (.int .i64 i) []
theorem zes7 (F:SF) (x:Sl (Sl Vot)) (v:Vot) (hx : ∀ g ∈ x.l,g.l≠[]):Runs (T920 F) a56 [x.dv 1 gC,gfn F v] (.int .i64 (fIx (hdS F v) x.l)):=by
 refine ⟨?_⟩
 have hb:=x.b
 have hpF:zbao [F.dv]=true:=by simp [SF.dv,zbao,zyp8]
 simp (disch:=first|omega|simp<;>omega|fail) [-zA,-zB,-zC,-zD,-zE,a56]
 refine zlm5 (S920 F x v) (fun i=>x.l.length-i) (fun i=>i≤x.l.length ∧ ∀ j (h:j<x.l.length),j<i→hdS F v x.l[j]=false) 0 (z515 (by simp (disch:=first|omega|simp<;>omega|fail) [-zA,-zB,-zC,-zD,-zE,S920,zax8]) (by simp (disch:=first|omega|simp<;>omega|fail) [-zA,-zB,-zC,-zD,-zE,S920,zax8])) ⟨by omega,fun j _ hj=>by omega⟩ (fun i hi => ?_)
 obtain ⟨q1,q2⟩:=hi
 simp only [S920]
 by_cases g:i<x.l.length
 ·have g':(i:Int)<x.l.length:=by omega
  have hy : ∀ H,zpsc H 1 (x.dv 1 gC) i=some (.ref (gC x.l[i])):=fun H=>zalo zfnv g
  have hc:=z97w (F:=F) (v:=v) (hx x.l[i] (y08 g))
  have hinv:hdS F v x.l[i]=false → ∀ j (h:j<x.l.length),j<i+1→hdS F v x.l[j]=false:=fun e j hj hji=>by
   by_cases ej:j=i
   ·subst ej; exact e
   ·exact q2 j hj (by omega)
  have hr:hdS F v x.l[i]=true→fIx (hdS F v) x.l=i:=fun e=>z67l g e q2
  obtain ⟨u,hu⟩ : ∃ u,x.l[i]=u:=⟨_,rfl⟩
  rw [hu] at hy hc hinv hr
  cases e:hdS F v u with
  | true =>
   have hr:=hr e
   rw [e] at hc
   simp (disch:=first|omega|simp<;>omega|fail) [-zA,-zB,-zC,-zD,-zE,zvgs,zax8,g,g',hy,gC,gfn,zp4d,hc,hr,hpF,znfs]
  | false =>
   have hinv:=hinv e
   rw [e] at hc
   simp (disch:=first|omega|simp<;>omega|fail) [-zA,-zB,-zC,-zD,-zE,zvgs,zax8,g,g',hy,gC,gfn,zp4d,hc,hpF,znfs]
   exact ⟨i+1,z515 (by simp (disch:=first|omega|simp<;>omega|fail) [-zA,-zB,-zC,-zD,-zE,S920,zax8,gfn]) (by simp (disch:=first|omega|simp<;>omega|fail) [-zA,-zB,-zC,-zD,-zE,S920,zax8]),by omega,by omega,fun j h hj=>by simpa using hinv j h hj⟩
 ·have g':¬ (i:Int)<x.l.length:=by omega
  have hr:fIx (hdS F v) x.l = -1:=zf0r fun a ha=>by
   obtain ⟨j,hj,e⟩:=y0e ha
   have:=q2 j hj (by omega)
   rw [e] at this; exact this
  simp (disch:=first|omega|simp<;>omega|fail) [-zA,-zB,-zC,-zD,-zE,zvgs,zax8,g,g',hr]
noncomputable def cGix (F:SF):List DV→Option DV:=con (fun a:Sl (Sl Vot) × Vot => ∀ g ∈ a.1.l,g.l≠[]) (fun a=>[a.1.dv 1 gC,gfn F a.2]) (fun a => .int .i64 (fIx (hdS F a.2) a.1.l))
theorem z7rj {F:SF} {x:Sl (Sl Vot)} {v:Vot} (h : ∀ g ∈ x.l,g.l≠[]):cGix F [x.dv 1 gC,gfn F v]=some (.int .i64 (fIx (hdS F v) x.l)) :=
 zzno (A:=fun a:Sl (Sl Vot) × Vot => ∀ g ∈ a.1.l,g.l≠[]) (f:=fun a:Sl (Sl Vot) × Vot=>[a.1.dv 1 gC,gfn F a.2]) (g:=fun a => .int .i64 (fIx (hdS F a.2) a.1.l)) (by
  rintro ⟨a,b⟩ ⟨c,d⟩ e
  simp only [List.cons.injEq,gfn,DV.fn.injEq,DV.ref.injEq,and_true,true_and] at e
  rw [zhfr e.1,zkbi e.2]) (x,v) h
theorem zfcd (F:SF):(Con.pure (cGix F)).Sound P 56:=z2au fun a h=>zljw mix (zpm6 F) Try.func56 zcwb (zes7 F a.1 a.2 h)
end
section
set_option linter.unusedSimpArgs false
set_option linter.unusedVariables false
open Go Go.Am
def gSl (g:List Vot):Sl Vot:=if h:g.length=1 then ⟨some true,g,by simp,by omega⟩ else own g
theorem z0ey {g:List Vot} (h:g.length≤4294967296):(gSl g).l=g:=by
 unfold gSl; split
 ·rfl
 ·exact z3e9 h
theorem zyex {v:Vot}:(gSl [v]).dv 4 voC = .sl true 4 1 (voC v):=by
 simp [gSl,SlB.dv,slD]
theorem zio8 {g:List Vot} (h:2≤g.length) (hb:g.length≤4294967296):(gSl g).dv 4 voC = .sl false 4 g.length (g.flatMap voC):=by
 have:gSl g=own g:=by unfold gSl; rw [dif_neg (by omega)]
 rw [this,zqrs hb]
def grpD (gs:List (List Vot)):Sl (Sl Vot):=ownN (gs.map gSl)
theorem zm38 {gs:List (List Vot)} (h:gs.length≤4294967296):(grpD gs).l=gs.map gSl:=zd8n (by rw [y02]; exact h)
def hdP (F:SF) (v:Vot) (g:List Vot):Bool:=match g with
 | []=>false
 | y::_=>F.s y v
theorem zdzg {F:SF} {v:Vot} {g:List Vot} (h:g.length≤4294967296):hdS F v (gSl g)=hdP F v g:=by unfold hdS hdP; rw [z0ey h]; try (cases g<;>rfl)
theorem za5h {F:SF} {x:Vot} : ∀ {out:List (List Vot)} {k:Nat} (hk:k<out.length),hdP F x out[k]=true→(∀ j (h:j<out.length),j<k→hdP F x out[j]=false)→addG F.s out x=out.set k (out[k]++[x])
 | g::r,0,_,h,_=>by
  simp only [y0t] at h
  unfold hdP at h
  simp only [addG,y0t,List.set_cons_zero]
  rw [if_pos (by cases g with
   | nil=>simp at h
   | cons y r=>exact h)]
 | g::r,k+1,hk,h,h2=>by
  have h0:hdP F x g=false:=h2 0 (by simp) (by omega)
  have ih:=za5h (F:=F) (x:=x) (out:=r) (k:=k) (by simpa using hk) (by simpa using h) fun j hj hjk=>by
   have:=h2 (j+1) (by simpa using hj) (by omega)
   simpa using this
  unfold hdP at h0
  simp only [addG,List.getElem_cons_succ,y0p]
  rw [if_neg (by cases g with
   | nil=>simp
   | cons y r=>simp [h0]),ih]
theorem zmh5 {F:SF} {x:Vot} : ∀ {out:List (List Vot)},(∀ g ∈ out,hdP F x g=false)→addG F.s out x=out++[[x]]
 | [],_=>rfl
 | g::r,h=>by
  have h0:=h g (by simp)
  have ih:=zmh5 (F:=F) (x:=x) (out:=r) fun g hg=>h g (by simp [hg])
  unfold hdP at h0
  simp only [addG]
  rw [if_neg (by cases g with
   | nil=>simp
   | cons y r=>simp [h0]),ih]; rfl
theorem ziua {s:Vot→Vot→Bool} (l:List Vot):(∀ g ∈ grpG s l,g≠[]∧g.length≤l.length)∧(grpG s l).length≤l.length:=by
 induction l using z77f with
 | h0=>exact ⟨fun g hg=>by simp [grpG] at hg,by simp [grpG]⟩
 | h1 l x ih =>
  have aux : ∀ out:List (List Vot),(∀ g ∈ out,g≠[]∧g.length≤l.length)→(∀ g ∈ addG s out x,g≠[]∧g.length≤(l++[x]).length)∧(addG s out x).length≤out.length+1:=by
   intro out
   induction out with
   | nil=>intro _; exact ⟨fun g hg=>by simp [addG] at hg; subst hg; simp,by simp [addG]⟩
   | cons a out io =>
    intro h
    obtain ⟨j1,j2⟩:=io fun g hg=>h g (by simp [hg])
    have ha:=h a (by simp)
    cases a with
    | nil=>exact absurd rfl ha.1
    | cons y t =>
    simp only [addG]
    split
    ·refine ⟨fun g hg => ?_,by simp⟩
     rcases y0u.1 hg with rfl|hg
     ·exact ⟨by simp,by rw [y0g,y0g]; exact Nat.add_le_add_right ha.2 _⟩
     ·have:=h g (by simp [hg]); exact ⟨this.1,by rw [y0g]; omega⟩
    ·refine ⟨fun g hg => ?_,by simp only [y06]; omega⟩
     rcases y0u.1 hg with rfl|hg
     ·exact ⟨ha.1,by rw [y0g]; omega⟩
     ·exact j1 g hg
  obtain ⟨k1,k2⟩:=aux _ ih.1
  rw [zd8q]
  exact ⟨k1,by rw [y0g,y19]; omega⟩
abbrev Slt:=Option Nat × List Vot
def cel (c:Slt):DV:=match c.1 with
 | none => .sl true 4 1 (c.2.flatMap voC)
 | some j => .ms (2+j) (c.2.length*4) 0 4 c.2.length (c.2.length*4)
def cC (c:Slt):List DV:=[cel c]
theorem z8cu (c:Slt):(cC c).length=1:=rfl
theorem zhlf {c:Slt}:(cC c).all DV.one=true:=by
 obtain ⟨k,g⟩:=c
 cases k<;>rfl
def oG (g:List Vot):AObj := .cells (fl voC g)
def gR (sl:List Slt) (objs:List (List Vot)):List AObj:=oT cC sl++objs.map oG
structure GI (F:SF) (V:List Vot) (sl:List Slt) (objs:List (List Vot)):Prop where
 gs:sl.map (·.2)=grpG F.s V
 one : ∀ c ∈ sl,c.1=none→c.2.length=1
 big : ∀ k (h:k<sl.length) j,sl[k].1=some j→objs[j]? = some sl[k].2∧2≤sl[k].2.length
 inj : ∀ k k' (h:k<sl.length) (h':k'<sl.length) j,sl[k].1=some j→sl[k'].1=some j→k=k'
 nil:sl=[]→objs=[]
theorem zz2q {sl:List Slt} {objs:List (List Vot)} (h:sl≠[]):(gR sl objs).length=1+objs.length:=by rw [gR,zu2l h]; simp; omega
theorem zw5k (sl:List Slt):fl cC sl=sl.map cel:=by
 unfold fl
 induction sl with
 | nil=>rfl
 | cons c r ih=>rw [List.flatMap_cons,ih]; rfl
theorem z01d {a b:AObj} {objs:List (List Vot)} {j:Nat} {g:List Vot} (h:objs[j]? = some g) {r:List AObj}:objV (a::b::(objs.map oG++r)) (2+j) (g.length*4)=some (fl voC g):=by
 have hj:=(y0b.1 h).1
 unfold objV ziu0
 rw [show 2+j=j+1+1 by omega,y17,y17,y11 (by simpa using hj),List.getElem?_map,h]
 simp [oG,z8lx zu4u]
theorem GI.gr_below {F:SF} {V:List Vot} {sl:List Slt} {objs:List (List Vot)} (g:GI F V sl objs):zlf2 ((gR sl objs).length+1) (gR sl objs)=true:=by
 by_cases e:sl=[]
 ·have:=g.nil e; subst e; subst this; rfl
 ·have hl:=zz2q (objs:=objs) e
  rw [hl]
  rw [gR,zu2l e]
  have hO : ∀ n (o:List (List Vot)),zlf2 n (o.map oG)=true:=fun n o=>by
   induction o with
   | nil=>rfl
   | cons a r ih=>simp only [y0f,oG,zlf2,fl,zmq5 _ _ (zp6k zc6g _),ih,y04]
  simp only [y01,y05,zlf2,hO,Bool.and_true]
  rw [zw5k]
  have hc : ∀ c ∈ sl,Am.below (1+objs.length+1) (cel c)=true:=fun c hc=>by
   obtain ⟨k,hk,rfl⟩:=y0e hc
   cases q:sl[k].1 with
   | none =>
    have:cel sl[k] = .sl true 4 1 (sl[k].2.flatMap voC):=by unfold cel; rw [q]
    rw [this]; simp only [Am.below]; exact zmq5 _ _ (zp6k zc6g _)
   | some j =>
    have:cel sl[k] = .ms (2+j) (sl[k].2.length*4) 0 4 sl[k].2.length (sl[k].2.length*4):=by unfold cel; rw [q]
    rw [this]; simp only [Am.below,decide_eq_true_eq]
    have:=(y0b.1 (g.big k hk j q).1).1
    omega
  revert hc
  generalize 1+objs.length+1=n
  clear hl hO e g
  induction sl with
  | nil=>intro _; rfl
  | cons c r ih =>
   intro hc
   simp only [y0f,belowL,y13]
   exact ⟨hc c (by simp),ih fun d hd=>hc d (by simp [hd])⟩
theorem GI.snap_out {F:SF} {V:List Vot} {sl:List Slt} {objs:List (List Vot)} (g:GI F V sl objs) (hV:V.length≤4294967296) {a:AObj} {r:List AObj}:snap (a::(gR sl objs++r)) 3 (oV 1 1 sl)=some ((grpD (grpG F.s V)).dv 1 gC):=by
 by_cases e:sl=[]
 ·have hg:=g.gs
  subst e
  rw [show ([]:List Slt).map (·.2)=[] from rfl] at hg
  rw [← hg]; rfl
 ·have hgs:=ziua (s:=F.s) V
  have hn:sl.length=(grpG F.s V).length:=by rw [← g.gs,y02]
  rw [zpni e,zve7]
  have ho:objV (a::(gR sl objs++r)) 1 (sl.length*1)=some (sl.map cel):=by
   rw [gR,zu2l e]
   unfold objV ziu0
   simp [zw5k]
  have hs : ∀ c ∈ sl,snap (a::(gR sl objs++r)) 2 (cel c)=some ((gSl c.2).dv 4 voC):=fun c hc=>by
   obtain ⟨k,hk,rfl⟩:=y0e hc
   have hm:sl[k].2 ∈ grpG F.s V:=by rw [← g.gs]; exact y0y (y08 hk)
   have hb:=(hgs.1 _ hm).2
   cases q:sl[k].1 with
   | none =>
    have h1:=g.one _ (y08 hk) q
    have:cel sl[k] = .sl true 4 1 (sl[k].2.flatMap voC):=by unfold cel; rw [q]
    rw [this]
    obtain ⟨v,hv⟩ : ∃ v,sl[k].2=[v]:=by
     match h:sl[k].2,h1 with
     | [v],_=>exact ⟨v,rfl⟩
    rw [hv,zyex,show [v].flatMap voC=voC v by simp]
    exact z6nl (by simp [zyp8])
   | some j =>
    obtain ⟨b1,b2⟩:=g.big k hk j q
    have:cel sl[k] = .ms (2+j) (sl[k].2.length*4) 0 4 sl[k].2.length (sl[k].2.length*4):=by unfold cel; rw [q]
    rw [this,zve7,gR,zu2l e]
    have ho:=z01d (a:=a) (b := .cells (fl cC sl)) b1 (r:=r)
    simp only [y01,y05,y0s] at ho ⊢
    rw [ho,y0h,y0d,z590 zu4u,y14,z619 (zp6k zc6g _),zio8 b2 (by omega)]
    rfl
  rw [ho,y0h,y0d,y1g,y00 (by simp)]
  have hL : ∀ l:List Slt,(∀ c ∈ l,snap (a::(gR sl objs++r)) 2 (cel c)=some ((gSl c.2).dv 4 voC))→z4tt (a::(gR sl objs++r)) 2 (l.map cel)=some ((l.map fun c=>gSl c.2).flatMap gC):=by
   intro l
   induction l with
   | nil=>intro _; rfl
   | cons c l ih =>
    intro h
    rw [y0f,zrz6,h c (by simp),y0h,ih fun d hd=>h d (by simp [hd])]
    rfl
  rw [hL sl hs]
  have e2:sl.map (fun c=>gSl c.2)=(grpG F.s V).map gSl:=by rw [← g.gs,List.map_map]; rfl
  rw [e2]
  unfold grpD
  rw [zgr3 (by intro q; exact e (y0x (by rw [hn,← y02 (f:=gSl),q]; rfl))) (by rw [y02]; omega),y02,← hn]
  rfl
theorem GI.new {F:SF} {V:List Vot} {sl:List Slt} {objs:List (List Vot)} (g:GI F V sl objs) {x:Vot} (h : ∀ q ∈ grpG F.s V,hdP F x q=false):GI F (V++[x]) (sl++[(none,[x])]) objs:=by
 refine ⟨by rw [zd8q,zmh5 h,y0i,g.gs]; rfl,fun c hc hn => ?_,fun k hk j e => ?_,fun k k' hk hk' j e e' => ?_,fun q=>by simp at q⟩
 ·rcases List.mem_append.1 hc with hc|hc
  ·exact g.one c hc hn
  ·rw [List.mem_singleton] at hc; subst hc; rfl
 ·by_cases q:k<sl.length
  ·rw [y0q q] at e ⊢; exact g.big k q j e
  ·have:k=sl.length:=by simp at hk; omega
   subst this; simp at e
 ·by_cases q:k<sl.length
  ·rw [y0q q] at e
   by_cases q':k'<sl.length
   ·rw [y0q q'] at e'; exact g.inj k k' q q' j e e'
   ·have:k'=sl.length:=by simp at hk'; omega
    subst this; simp at e'
  ·have:k=sl.length:=by simp at hk; omega
   subst this; simp at e
theorem GI.grow {F:SF} {V:List Vot} {sl:List Slt} {objs:List (List Vot)} (g:GI F V sl objs) {x:Vot} {k:Nat} (hk:k<sl.length) (h1:hdP F x sl[k].2=true) (h2 : ∀ j (h:j<sl.length),j<k→hdP F x sl[j].2=false) :
  (sl[k].1=none→GI F (V++[x]) (sl.set k (some objs.length,sl[k].2++[x])) (objs++[sl[k].2++[x]])) ∧ ∀ j,sl[k].1=some j→GI F (V++[x]) (sl.set k (some j,sl[k].2++[x])) (objs.set j (sl[k].2++[x])):=by
 have hn:sl≠[]:=fun e=>by subst e; simp at hk
 have hgl:(grpG F.s V).length=sl.length:=by rw [← g.gs,y02]
 have hgk : ∀ j (h:j<sl.length) (h':j<(grpG F.s V).length),(grpG F.s V)[j]=sl[j].2:=fun j h h'=>by simp only [← g.gs,y15]
 have hgs : ∀ o,(sl.set k (o,sl[k].2++[x])).map (·.2)=grpG F.s (V++[x]):=fun o=>by
  rw [zd8q,za5h (k:=k) (by omega) (by rw [hgk k hk]; exact h1) (fun j h hj=>by rw [hgk j (by omega)]; exact h2 j (by omega) hj),hgk k hk,y1e,g.gs]
 have hget : ∀ o i (hi:i<(sl.set k (o,sl[k].2++[x])).length),(sl.set k (o,sl[k].2++[x]))[i]=if k=i then (o,sl[k].2++[x]) else sl[i]'(by simpa using hi):=fun o i hi=>List.getElem_set ..
 have hlen1:1≤sl[k].2.length:=by
  have:=(ziua (s:=F.s) V).1 sl[k].2 (by rw [← g.gs]; exact y0y (y08 hk))
  exact y0m.2 this.1
 constructor
 ·intro hkn
  refine ⟨hgs _,fun c hc hcn => ?_,fun i hi j e => ?_,fun i i' hi hi' j e e' => ?_,fun q=>by simp at q; exact absurd q hn⟩
  ·obtain ⟨i,hi,rfl⟩:=y0e hc
   rw [hget] at hcn ⊢
   split at hcn
   ·cases hcn
   ·rename_i q; rw [if_neg q]; exact g.one _ (y08 _) hcn
  ·rw [hget] at e ⊢
   split at e
   ·rename_i q; simp only [Option.some.injEq] at e; subst e
    rw [if_pos q]; exact ⟨by simp,by simp; omega⟩
   ·rename_i q
    rw [if_neg q]
    obtain ⟨b1,b2⟩:=g.big i (by simpa using hi) j e
    exact ⟨by rw [y11 (y0b.1 b1).1]; exact b1,b2⟩
  ·have lt : ∀ i (hi:i<sl.length) j,sl[i].1=some j→j<objs.length:=fun i hi j e=>(y0b.1 (g.big i hi j e).1).1
   rw [hget] at e e'
   split at e
   ·rename_i q
    split at e'
    ·rename_i q'; omega
    ·simp only [Option.some.injEq] at e; subst e
     have:=lt i' (by simpa using hi') _ e'; omega
   ·split at e'
    ·simp only [Option.some.injEq] at e'; subst e'
     have:=lt i (by simpa using hi) _ e; omega
    ·exact g.inj i i' (by simpa using hi) (by simpa using hi') j e e'
 ·intro j hj
  obtain ⟨b1,b2⟩:=g.big k hk j hj
  have hjl:=(y0b.1 b1).1
  refine ⟨hgs _,fun c hc hcn => ?_,fun i hi j' e => ?_,fun i i' hi hi' j' e e' => ?_,fun q=>by simp at q; exact absurd q hn⟩
  ·obtain ⟨i,hi,rfl⟩:=y0e hc
   rw [hget] at hcn ⊢
   split at hcn
   ·cases hcn
   ·rename_i q; rw [if_neg q]; exact g.one _ (y08 _) hcn
  ·rw [hget] at e ⊢
   split at e
   ·rename_i q; simp only [Option.some.injEq] at e; subst e
    rw [if_pos q]; exact ⟨by simp [hjl],by simp; omega⟩
   ·rename_i q
    rw [if_neg q]
    obtain ⟨c1,c2⟩:=g.big i (by simpa using hi) j' e
    have hne:j≠j':=fun z=>q (g.inj k i hk (by simpa using hi) j hj (by subst z; exact e))
    exact ⟨by rw [List.getElem?_set,if_neg hne]; exact c1,c2⟩
  ·rw [hget] at e e'
   split at e
   ·rename_i q
    split at e'
    ·rename_i q'; omega
    ·simp only [Option.some.injEq] at e; subst e
     have:=g.inj k i' hk (by simpa using hi') j hj e'; omega
   ·split at e'
    ·simp only [Option.some.injEq] at e'; subst e'
     have:=g.inj k i hk (by simpa using hi) j hj e; omega
    ·exact g.inj i i' (by simpa using hi) (by simpa using hi') j' e e'
end
section
set_option linter.unusedSimpArgs false
set_option linter.unusedVariables false
open Go Go.Am
noncomputable def T921 (F:SF):Tbl:=addT 56 (.pure (cGix F)) tbl0
theorem z2ua (F:SF):T921 F 56 = .pure (cGix F):=by simp [T921]
theorem zevv (F:SF):(T921 F).Sound P:=z0rp (zfcd F) zr5o
structure GA where
 i:Nat
 sl:List Slt
 objs:List (List Vot)
def S921 (F:SF) (U:Sl Vot) (a:GA):St:=z8ja (.mp 0 1 0) (oV 1 1 a.sl) (U.dv 4 voC) (.int .i64 U.l.length) (.int .i64 a.i) (.cells [F.dv]::gR a.sl a.objs)
def gI (F:SF) (U:Sl Vot) (a:GA):Prop:=a.i≤U.l.length∧GI F (U.l.take a.i) a.sl a.objs
theorem zzgd {C:List DV} {k:Nat} {v:DV} (h:k<C.length):zk7y C k [v]=C.set k v:=by
 unfold zk7y
 rw [List.set_eq_take_append_cons_drop,if_pos h]; simp
theorem zifj {x:Vot}:bslD 4 1 [.str [],.str [],.nils,.nils] [(0,4,.agg (voC x))]=some (.sl true 4 1 (voC x)):=by
 have h1:=zu4u x
 simp [bslD,zi03,zk7y,reps,h1,y0k]
theorem zmtd {d:DV} (hc:d.cells=[d]) (hk:d.known=true):bslD 1 1 [.nils] [(0,1,d)]=some (.sl true 1 1 [d]):=by
 simp [bslD,zi03,zk7y,reps,hc,hk]
def GrT:ACode:=match zx0e with
 | .seq _ (.seq _ (.seq (.block _ (.seq _ (.seq _ y))) _))=>y
 | _ => .skip
def GrR:ACode:=match zx0e with
 | .seq _ (.seq _ (.seq _ y))=>y
 | _ => .skip
theorem appR {F:SF} {sl:List Slt} {objs:List (List Vot)} {c:Slt} (hb:sl.length+1≤4294967296) (hn:sl=[]→objs=[]):appX (.cells [F.dv]::gR sl objs) 1 24 (oV 1 1 sl) 1 [cel c]=some (oV 1 1 (sl++[c]),.cells [F.dv]::gR (sl++[c]) objs):=by
 by_cases e:sl=[]
 ·have:=hn e
  subst e; subst this
  have:=zte0 (k:=1) (K:=1) (f:=cC) (b:=24) (l:=[]) (x:=c) (h:=[AObj.cells [F.dv]]) rfl z8cu (by decide) (by decide) (fun _=>zhlf) (by simp)
  simpa [gR,cC] using this
 ·have ho:objV (.cells [F.dv]::gR sl objs) 1 (sl.length*1)=some (fl cC sl):=by
   rw [gR,zu2l e]; unfold objV ziu0; simp [z8lx z8cu]
  have:=zkg3 (h := .cells [F.dv]::gR sl objs) (id:=1) (b:=24) (l:=sl) (x:=c) z8cu (by decide) (by decide) (fun _=>zhlf) hb ho
  rw [zpni e,zpni (by simp),y0g,y19]
  rw [show cC c=[cel c] from rfl] at this
  rw [this]
  simp only [gR,zu2l e,zu2l (show sl++[c]≠[] by simp),y01,y05,y0p,List.set_cons_zero]
theorem zj3o {F:SF} {U:Sl Vot} {a:GA} {sl:List Slt} {objs:List (List Vot)} (h:a.i<U.l.length) (hg:GI F (U.l.take (a.i+1)) sl objs) {Φ0:AExit→St→Prop} :
  V P 0 GrR (z13e 0 (S921 F U) (fun a=>U.l.length-a.i) (gI F U) a Φ0) ⟨[.junk,.junk,.junk,.mp 0 1 0,.junk,oV 1 1 sl,.junk,.junk,.junk,U.dv 4 voC,.int .i64 U.l.length,.int .i64 a.i]++js 25,.cells [F.dv]::gR sl objs⟩:=by
 have hb:=U.b
 simp only [GrR,zx0e]
 refine V_W mix (zevv F) ?_
 simp (disch:=first|omega|simp<;>omega|fail) [-zA,-zB,-zC,-zD,-zE]
 exact ⟨⟨a.i+1,sl,objs⟩,z515 (by simp (disch:=first|omega|simp<;>omega|fail) [-zA,-zB,-zC,-zD,-zE,S921,z8ja]) (by simp (disch:=first|omega|simp<;>omega|fail) [-zA,-zB,-zC,-zD,-zE,S921,z8ja]),by simp only; omega,by simp only; omega,hg⟩
theorem zq0c {F:SF} {U:Sl Vot} {a:GA} {x:Vot} {n:Int} (h:a.i<U.l.length) (hx:U.l[a.i]=x) (g:GI F (U.l.take a.i) a.sl a.objs) (hn:fIx (hdP F x) (grpG F.s (U.l.take a.i))=n) {Φ0:AExit→St→Prop} :
  V P 0 GrT (z0mx 1 (z2pk P 0 GrR (z13e 0 (S921 F U) (fun a=>U.l.length-a.i) (gI F U) a Φ0)))
   ⟨[.junk,.junk,.junk,.mp 0 1 0,.junk,oV 1 1 a.sl,.junk,.ref (voC x),.int .i64 n,U.dv 4 voC,.int .i64 U.l.length,.int .i64 a.i]++js 25,.cells [F.dv]::gR a.sl a.objs⟩:=by
 have hb:=U.b
 have hgs:=ziua (s:=F.s) (U.l.take a.i)
 have htl:(U.l.take a.i).length=a.i:=by rw [y0c]; omega
 have hgl:(grpG F.s (U.l.take a.i)).length=a.sl.length:=by rw [← g.gs,y02]
 have hsl:a.sl.length≤a.i:=by have:=hgs.2; omega
 have hsnoc:U.l.take (a.i+1)=U.l.take a.i++[x]:=by rw [y03 h,hx]
 have fin:=fun sl objs q Φ0=>zj3o (F:=F) (U:=U) (a:=a) (sl:=sl) (objs:=objs) (Φ0:=Φ0) h (by rw [hsnoc]; exact q)
 simp only [GrT,zx0e]
 refine zbn1 (V_W mix (zevv F) ?_)
 simp (disch:=first|omega|simp<;>omega|fail) [-zA,-zB,-zC,-zD,-zE]
 refine V_W mix (zevv F) ?_
 rcases za4c (hdP F x) (grpG F.s (U.l.take a.i)) with ⟨h1,h2⟩|⟨k,hk,h1,h2,h3⟩
 ·rw [h1] at hn
  subst hn
  have hap:=appR (F:=F) (c:=(none,[x])) (objs:=a.objs) (by omega:a.sl.length+1≤4294967296) g.nil
  rw [show cel (none,[x]) = .sl true 4 1 (voC x) by simp [cel]] at hap
  have hv : ∀ H,visY H (.sl true 1 1 [.sl true 4 1 (voC x)])=some (1,[.sl true 4 1 (voC x)]):=fun H=>by simp [visY]
  have hbs:=zmtd (d := .sl true 4 1 (voC x)) rfl rfl
  have hG:=g.new h2
  simp (disch:=first|omega|simp<;>omega|fail) [-zA,-zB,-zC,-zD,-zE,zifj,hbs,hv,hap]
  exact zqfd (z515 (by simp (disch:=first|omega|simp<;>omega|fail) [-zA,-zB,-zC,-zD,-zE]) (by simp (disch:=first|omega|simp<;>omega|fail) [-zA,-zB,-zC,-zD,-zE])) (fin _ _ hG _)
 ·rw [h1] at hn
  subst hn
  have hk':k<a.sl.length:=by omega
  have he : ∀ j (h:j<a.sl.length),(grpG F.s (U.l.take a.i))[j]'(by omega)=a.sl[j].2:=fun j h=>by simp only [← g.gs,y15]
  rw [he k hk'] at h2
  have hG:=g.grow hk' h2 (fun j h hj=>by rw [← he j h]; exact h3 j (by omega) hj)
  have hne:a.sl≠[]:=fun e=>by rw [e] at hk'; simp at hk'
  have hin:a.sl[k].2.length≤a.i:=by
   have:=(hgs.1 a.sl[k].2 (by rw [← he k hk']; exact y08 _)).2
   omega
  have hnk:¬ (k:Int)<0:=by omega
  have hgR:gR a.sl a.objs = .cells (a.sl.map cel)::a.objs.map oG:=by rw [gR,zu2l hne,zw5k]; rfl
  have hov:oV 1 1 a.sl = .ms 1 a.sl.length 0 1 a.sl.length a.sl.length:=by rw [zpni hne,y1g]
  have hld:oneC 1 false ((a.sl.map cel).drop k)=some (cel a.sl[k]):=by
   rw [y0n (by simpa using hk'),y15]; rfl
  have hv : ∀ H,visY H (.sl true 4 1 (voC x))=some (1,voC x):=fun H=>by simp [visY]
  have hCl:(a.sl.map cel).length=a.sl.length:=by simp
  have hst : ∀ (H:List AObj) (v:DV),v.cells=[v]→v.one=true→zy6o H 1 1 k v (some (a.sl.map cel))=some (.junk,H.set 1 (.cells ((a.sl.map cel).set k v))):=fun H v hc ho=>by
   rw [storeO_1 hc ho (by rw [hCl]; exact hk'),zzgd (by rw [hCl]; exact hk')]
  have hset : ∀ c:Slt,(a.sl.set k c).map cel=(a.sl.map cel).set k (cel c):=fun c=>by rw [y1e]
  have hne2 : ∀ c:Slt,a.sl.set k c≠[]:=fun c e=>hne (by simpa using e)
  have hov2 : ∀ c:Slt,oV 1 1 (a.sl.set k c) = .ms 1 a.sl.length 0 1 a.sl.length a.sl.length:=fun c=>by rw [zpni (hne2 c),y1g,y0o]
  have hgR2 : ∀ (c:Slt) (o:List (List Vot)),gR (a.sl.set k c) o = .cells ((a.sl.map cel).set k (cel c))::o.map oG:=fun c o=>by rw [gR,zu2l (hne2 c),zw5k,hset]; rfl
  obtain ⟨C,hC⟩ : ∃ C,a.sl.map cel=C:=⟨_,rfl⟩
  obtain ⟨N,hN⟩ : ∃ N,a.sl.length=N:=⟨_,rfl⟩
  rw [hgR,hov]
  rw [hC] at hld hCl hst ⊢
  simp only [hC,hN] at hov2 hgR2
  rw [hN] at hCl hk' ⊢
  cases q:a.sl[k].1 with
  | none =>
   have hG:=hG.1 q
   have h1:=g.one _ (y08 _) q
   obtain ⟨y,hy⟩ : ∃ y,a.sl[k].2=[y]:=by
    match h:a.sl[k].2,h1 with
    | [y],_=>exact ⟨y,rfl⟩
   have hcel:cel a.sl[k] = .sl true 4 1 (voC y):=by unfold cel; rw [q,hy]; simp
   rw [hcel] at hld
   rw [hy] at hG
   have fin:=fin _ _ hG Φ0
   rw [hov2,hgR2,y0i] at fin
   have hc2:cel (some a.objs.length,[y]++[x]) = .ms (a.objs.length+2) 8 0 4 2 8:=by simp [cel]; omega
   have ho2:[[y]++[x]].map oG=[.cells (voC y++voC x)]:=by simp [oG,fl]
   rw [hc2,ho2] at fin
   have hap : ∀ O:List AObj,appX (.cells [F.dv] :: .cells C::O) 4 80 (.sl true 4 1 (voC y)) 1 (voC x)=some (.ms (O.length+2) 8 0 4 2 8,.cells [F.dv] :: .cells C::(O++[.cells (voC y++voC x)])):=fun O=>by
    simp [appX,big]
   have hap:=hap (a.objs.map oG)
   rw [y02] at hap
   simp (disch:=first|omega|simp<;>omega|fail) [-zA,-zB,-zC,-zD,-zE,zifj,hnk,hk',hCl,hld,hv,hap,hst]
   exact zqfd (z515 (by simp (disch:=first|omega|simp<;>omega|fail) [-zA,-zB,-zC,-zD,-zE]) (by simp (disch:=first|omega|simp<;>omega|fail) [-zA,-zB,-zC,-zD,-zE])) fin
  | some j =>
   have hG:=hG.2 j q
   obtain ⟨b1,b2⟩:=g.big k (by omega) j q
   have hcel:cel a.sl[k] = .ms (2+j) (a.sl[k].2.length*4) 0 4 a.sl[k].2.length (a.sl[k].2.length*4):=by unfold cel; rw [q]
   rw [hcel] at hld
   have hj:=(y0b.1 b1).1
   have hob:=z01d (a := .cells [F.dv]) (b := .cells C) (r:=[]) b1
   rw [y0j] at hob
   obtain ⟨g0,hg0⟩ : ∃ g0,a.sl[k].2=g0:=⟨_,rfl⟩
   rw [hg0] at hld hG hob b2 hin
   have fin:=fin _ _ hG Φ0
   rw [hov2,hgR2,y1e] at fin
   have hap:=zkg3 (h := .cells [F.dv] :: .cells C::a.objs.map oG) (id:=2+j) (b:=80) (l:=g0) (x:=x) zu4u (by decide) (by decide) (fun _=>z0cw) (by omega) hob
   rw [show 2+j=j+1+1 by omega,y0p,y0p] at hap
   rw [show 2+j=j+1+1 by omega] at hld
   have hc2:cel (some j,g0++[x]) = .ms (j+1+1) ((g0.length+1)*4) 0 4 (g0.length+1) ((g0.length+1)*4):=by simp [cel]; omega
   rw [hc2,show oG (g0++[x]) = .cells (fl voC (g0++[x])) from rfl] at fin
   simp (disch:=first|omega|simp<;>omega|fail) [-zA,-zB,-zC,-zD,-zE,zifj,hnk,hk',hCl,hld,hv,hap,hst]
   exact zqfd (z515 (by simp (disch:=first|omega|simp<;>omega|fail) [-zA,-zB,-zC,-zD,-zE]) (by simp (disch:=first|omega|simp<;>omega|fail) [-zA,-zB,-zC,-zD,-zE])) fin
end
section
set_option linter.unusedSimpArgs false
set_option linter.unusedVariables false
open Go Go.Am
theorem zy3o (F:SF) (U:Sl Vot):V P 0 a32.code (retK a32.res ((grpD (grpG F.s U.l)).dv 1 gC)) ⟨zr5g a32.ntmps [U.dv 4 voC,F.dv],[]⟩:=by
 have hb:=U.b
 have hF1:F.dv.one=true:=rfl
 have hF2:F.dv.known=true:=rfl
 have hF3:zyp8 F.dv=true:=by simp [SF.dv,zyp8,zbao]
 have hF4:F.dv.cells=[F.dv]:=rfl
 refine zbn1 (V_W mix (zevv F) ?_)
 simp (disch:=first|omega|simp<;>omega|fail) [-zA,-zB,-zC,-zD,-zE,a32,boxD,hF1,hF2,hF4]
 refine zbn1 (V_W mix (zevv F) ?_)
 simp (disch:=first|omega|simp<;>omega|fail) [-zA,-zB,-zC,-zD,-zE]
 refine zbn1 (zbn1 (V_W mix (zevv F) ?_))
 simp (disch:=first|omega|simp<;>omega|fail) [-zA,-zB,-zC,-zD,-zE]
 refine z3mo (ztbr (S921 F U) (fun a=>U.l.length-a.i) (gI F U) ⟨0,[],[]⟩ (z515 (by simp (disch:=first|omega|simp<;>omega|fail) [-zA,-zB,-zC,-zD,-zE,S921,z8ja,zl8p]) (by simp (disch:=first|omega|simp<;>omega|fail) [-zA,-zB,-zC,-zD,-zE,S921,z8ja,gR,zkrk])) ⟨by simp,by simp only [List.take_zero]; exact ⟨rfl,fun c hc=>by simp at hc,fun k hk=>by simp at hk,fun k _ hk=>by simp at hk,fun _=>rfl⟩⟩ (fun a ha => ?_))
 obtain ⟨hi,g⟩:=ha
 simp only [S921]
 refine zbn1 (V_W mix (zevv F) ?_)
 by_cases h:a.i<U.l.length
 case neg =>
  have h':¬ (a.i:Int)<U.l.length:=by omega
  have hsn:=g.snap_out (by rw [y0c]; omega) (a := .cells [F.dv]) (r:=[])
  rw [y0j,y00 (show U.l.length≤a.i by omega)] at hsn
  simp (disch:=first|omega|simp<;>omega|fail) [-zA,-zB,-zC,-zD,-zE,zx0e,z8ja,h,h']
  refine zbn1 (V_W mix (zevv F) ?_)
  simp (disch:=first|omega|simp<;>omega|fail) [-zA,-zB,-zC,-zD,-zE,h,h']
  refine V_W mix (zevv F) ?_
  simp (disch:=first|omega|simp<;>omega|fail) [-zA,-zB,-zC,-zD,-zE,hsn]
 have h':(a.i:Int)<U.l.length:=by omega
 have hg : ∀ H,zpsc H 4 (U.dv 4 voC) a.i=some (.ref (voC U.l[a.i])):=fun H=>zalo zu4u h
 have tail:=fun n q Φ0=>zq0c (F:=F) (U:=U) (a:=a) (n:=n) (Φ0:=Φ0) h rfl g q
 have htl:(U.l.take a.i).length=a.i:=by rw [y0c]; omega
 have hsum:=ziua (s:=F.s) (U.l.take a.i)
 have hgl:(grpD (grpG F.s (U.l.take a.i))).l=(grpG F.s (U.l.take a.i)).map gSl:=zm38 (by have:=hsum.2; omega)
 have hcall:=z7rj (F:=F) (v:=U.l[a.i]) (x:=grpD (grpG F.s (U.l.take a.i))) (fun q hq=>by
  rw [hgl] at hq
  obtain ⟨w,hw,rfl⟩:=y0r.1 hq
  have:=hsum.1 w hw
  rw [z0ey (by omega)]; exact this.1)
 have hfi:fIx (hdS F U.l[a.i]) (grpD (grpG F.s (U.l.take a.i))).l=fIx (hdP F U.l[a.i]) (grpG F.s (U.l.take a.i)):=by
  rw [hgl]
  have : ∀ l:List (List Vot),(∀ w ∈ l,w.length≤4294967296)→fIx (hdS F U.l[a.i]) (l.map gSl)=fIx (hdP F U.l[a.i]) l:=by
   intro l
   induction l with
   | nil=>intro _; rfl
   | cons w l ih =>
    intro hl
    rw [y0f,fIx,fIx,ih fun z hz=>hl z (by simp [hz]),zdzg (hl w (by simp))]
  exact this _ fun w hw=>by have:=hsum.1 w hw; omega
 rw [hfi] at hcall
 have hsn:=g.snap_out (by omega) (a := .cells [F.dv]) (r:=[])
 rw [y0j] at hsn
 obtain ⟨n,hn⟩ : ∃ n,fIx (hdP F U.l[a.i]) (grpG F.s (U.l.take a.i))=n:=⟨_,rfl⟩
 rw [hn] at hcall
 have tail:=tail n hn
 obtain ⟨x,hx⟩ : ∃ x,U.l[a.i]=x:=⟨_,rfl⟩
 rw [hx] at hg hcall tail
 have hRb:=g.gr_below
 obtain ⟨R,hR⟩ : ∃ R,gR a.sl a.objs=R:=⟨_,rfl⟩
 have hoB:Am.below (R.length+1) (oV 1 1 a.sl)=true:=by
  by_cases e:a.sl=[]
  ·rw [e]; rfl
  ·rw [zpni e,← hR,zz2q e]; simp only [Am.below,decide_eq_true_eq]; omega
 have hp0:¬ zyp8 (oV 1 1 a.sl)=true∨True := .inr trivial
 simp only [hR] at tail hRb hsn
 rw [hR]
 simp (disch:=first|omega|simp<;>omega|fail) [-zA,-zB,-zC,-zD,-zE,zx0e,z8ja,h,h']
 refine zbn1 (V_W mix (zevv F) ?_)
 simp (disch:=first|omega|simp<;>omega|fail) [-zA,-zB,-zC,-zD,-zE,h,h']
 refine zbn1 (z3mo (zbn1 (V_W mix (zevv F) ?_)))
 simp (disch:=first|omega|simp<;>omega|fail) [-zA,-zB,-zC,-zD,-zE,hg]
 refine zs10 (H := .cells [F.dv]::R) (cs:=voC x) (t':=[.junk,.junk,.junk,.mp 0 1 0,.junk,oV 1 1 a.sl,.junk,.ref (voC x),.junk,U.dv 4 voC,.int .i64 U.l.length,.int .i64 a.i]++js 25) (by simp (disch:=first|omega|simp<;>omega|fail) [-zA,-zB,-zC,-zD,-zE,zlf2,hRb,belowL,z8b8 _ _ hF3]) (by simp) ?_ (by simp (disch:=first|omega|simp<;>omega|fail) [-zA,-zB,-zC,-zD,-zE,belowL,Am.below,hoB,z8b8 _ _ (znfs U)]) ?_
 ·have e1:=zz5t (H := .cells [F.dv]::R) (cs:=voC x) (off:=0) (zc6g x)
  have e2 : ∀ h,mk1 (kLt ((AObj.cells [F.dv]::R).length)) h (oV 1 1 a.sl)=oV 1 1 a.sl:=fun h=>zd3c (by rw [y06]; exact hoB)
  have e3 : ∀ h,mk1 (kLt ((AObj.cells [F.dv]::R).length)) h (.mp 0 1 0) = .mp 0 1 0:=fun h=>zd3c (by simp [Am.below])
  have e4 : ∀ K h,mk1 K h (U.dv 4 voC)=U.dv 4 voC:=fun K h=>zvft (znfs U)
  simp only [y01,y06,zu4u,y0d] at e1 e2 e3
  simp (disch:=first|omega|simp<;>omega|fail) [-zA,-zB,-zC,-zD,-zE,e1,e2,e3,e4]
 refine zbn1 (V_W mix (zevv F) ?_)
 have hfnS:snap (.cells [F.dv]::R) 3 (.fn (.func 57) [] [.mp 0 1 0,.ref (voC x)])=some (gfn F x):=by
  simp (disch:=first|omega|simp<;>omega|fail) [-zA,-zB,-zC,-zD,-zE,gfn,z6nl hF3]
 simp (disch:=first|omega|simp<;>omega|fail) [-zA,-zB,-zC,-zD,-zE,z2ua,hsn,hfnS,hcall]
 exact zqfd (z515 (by simp (disch:=first|omega|simp<;>omega|fail) [-zA,-zB,-zC,-zD,-zE]) (by simp (disch:=first|omega|simp<;>omega|fail) [-zA,-zB,-zC,-zD,-zE])) (tail _)
noncomputable def cGrp (F:SF):List DV→Option DV:=con (fun _=>True) (fun U:Sl Vot=>[U.dv 4 voC,F.dv]) (fun U=>(grpD (grpG F.s U.l)).dv 1 gC)
theorem zs2t {F:SF} {U:Sl Vot}:cGrp F [U.dv 4 voC,F.dv]=some ((grpD (grpG F.s U.l)).dv 1 gC) :=
 zsn4 (f:=fun U:Sl Vot=>[U.dv 4 voC,F.dv]) (g:=fun U=>(grpD (grpG F.s U.l)).dv 1 gC) (fun a b e=>by simp only [List.cons.injEq,and_true] at e; exact z22s e) U
theorem zohn (F:SF):(Con.pure (cGrp F)).Sound P 32:=z2au fun a _=>znz9 Try.func32 zvrg (zy3o F a)
end
section
set_option linter.unusedSimpArgs false
set_option linter.unusedVariables false
open Go Go.Am
theorem zrqk {P:Program} {f:FuncId} {fn:Func} (hf:P.funcs[f]? = some fn) {af:AFn} (hc:zsjc P fn=some af) {args:List DV} {h:List AObj} {v:DV} {k:List AObj} (hr:V P h.length af.code (retH af.res v k) ⟨zr5g af.ntmps args,h⟩):zwy1 P f args h (fun d k'=>d=v∧k'=k) :=
 zcpc hf hc (zftn (fun _ _ h=>h.out) hr)
inductive TwoS|p|q
def ts {α:Type} (b:TwoS) (x y:α):α:=match b with | .p=>x | .q=>y
theorem ts_p {α:Type} {x y:α}:ts .p x y=x:=rfl
theorem ts_q {α:Type} {x y:α}:ts .q x y=y:=rfl
open Classical in
noncomputable def ptH (a0:List DV) (h0:List AObj) (r:DV) (h1:List AObj):List DV→List AObj→Option (DV × List AObj):=fun a h=>if a=a0∧h=h0 then some (r,h1) else none
theorem zpvh {a0:List DV} {h0:List AObj} {r:DV} {h1:List AObj}:ptH a0 h0 r h1 a0 h0=some (r,h1):=if_pos ⟨rfl,rfl⟩
theorem zdmv {k:FuncId} {a0:List DV} {h0:List AObj} {r:DV} {h1:List AObj} (hc:zwy1 P k a0 h0 (fun d h=>d=r∧h=h1)):(Con.heap (ptH a0 h0 r h1)).Sound P k:=by
 intro args h v h' e
 unfold ptH at e
 split at e
 ·rename_i q
  simp only [Option.some.injEq,Prod.mk.injEq] at e
  obtain ⟨rfl,rfl⟩:=e
  rw [q.1,q.2]; exact hc
 ·cases e
noncomputable def TH (k:Nat) (a0:List DV) (h0:List AObj) (r:DV) (h1:List AObj):Tbl:=addT k (.heap (ptH a0 h0 r h1)) tbl0
theorem TH_k {k:Nat} {a0:List DV} {h0:List AObj} {r:DV} {h1:List AObj}:TH k a0 h0 r h1 k = .heap (ptH a0 h0 r h1):=by simp [TH]
theorem z84q {k:Nat} {a0:List DV} {h0:List AObj} {r:DV} {h1:List AObj} (hc:zwy1 P k a0 h0 (fun d h=>d=r∧h=h1)):(TH k a0 h0 r h1).Sound P:=z0rp (zdmv hc) zr5o
theorem zy87 {a b:List UInt8}:zhl4 .lss (.str a) (.str b)=some (.bool (Op.bytesLess a b)):=rfl
attribute [simp] zy87
theorem zapk (a:Str):Runs tbl0 a71 [.str a] (.bool false):=by
 refine ⟨?_⟩
 simp (disch:=first|omega|simp<;>omega|fail) [-zA,-zB,-zC,-zD,-zE,a71]
noncomputable def cIsN:List DV→Option DV
 | [.str _]=>some (.bool false)|_=>none
theorem z8sc {a:Str}:cIsN [.str a]=some (.bool false):=rfl
theorem zcv5:(Con.pure cIsN).Sound P 71:=by
 intro args v e
 unfold cIsN at e
 split at e
 ·simp at e; subst e; exact zljw mix zr5o Try.func71 zbtg (zapk _)
 ·simp at e
noncomputable def T930:Tbl:=addT 71 (.pure cIsN) tbl0
theorem ziqj:T930 71 = .pure cIsN:=by simp [T930]
theorem zvf4:T930.Sound P:=z0rp zcv5 zr5o
def zavf (a b:Str):Int:=if Op.bytesLess a b then -1 else if Op.bytesLess b a then 1 else 0
theorem zrmv {a b:Str}:zhl4 .gtr (.str a) (.str b)=some (.bool (Op.bytesLess b a)):=by
 have e:zhl4 .gtr (.str a) (.str b)=some (.bool (!(Op.bytesLess a b||a == b))):=by simp [zhl4,zdnj]
 rw [e]
 congr 2
 rcases zoet a b with h|h|h
 ·have h':Op.bytesLess b a=false:=by
   cases q:Op.bytesLess b a with
   | false=>rfl
   | true=>have:=z8c3 _ _ _ h q; rw [zrk4] at this; cases this
  rw [h,h']; rfl
 ·subst h; simp [zrk4]
 ·have h':Op.bytesLess a b=false:=by
   cases q:Op.bytesLess a b with
   | false=>rfl
   | true=>have:=z8c3 _ _ _ h q; rw [zrk4] at this; cases this
  have hn:¬ a=b:=fun e=>by rw [e,zrk4] at h; cases h
  rw [h,h']; simp [hn]
attribute [simp] zrmv
theorem za9u (a b:Str):Runs T930 a60 [.str a,.str b] (.int .i64 (zavf a b)):=by
 refine ⟨?_⟩
 unfold zavf
 cases h1:Op.bytesLess a b with
 | true=>simp (disch:=first|omega|simp<;>omega|fail) [-zA,-zB,-zC,-zD,-zE,a60,ziqj,z8sc,h1]
 | false =>
  cases h2:Op.bytesLess b a with
  | true=>simp (disch:=first|omega|simp<;>omega|fail) [-zA,-zB,-zC,-zD,-zE,a60,ziqj,z8sc,h1,h2]
  | false=>simp (disch:=first|omega|simp<;>omega|fail) [-zA,-zB,-zC,-zD,-zE,a60,ziqj,z8sc,h1,h2]
noncomputable def cCs:List DV→Option DV
 | [.str a,.str b]=>some (.int .i64 (zavf a b))|_=>none
theorem zc1k {a b:Str}:cCs [.str a,.str b]=some (.int .i64 (zavf a b)):=rfl
theorem zqxd:(Con.pure cCs).Sound P 60:=by
 intro args v e
 unfold cCs at e
 split at e
 ·simp at e; subst e; exact zljw mix zvf4 Try.func60 z6e9 (za9u _ _)
 ·simp at e
theorem z5ha {a b:Str}:(zavf a b<0)↔Op.bytesLess a b=true:=by
 unfold zavf
 split
 ·rename_i h; simp [h]
 ·rename_i h; split<;>simp [h]
def vLt (a b:Vot):Bool:=Op.bytesLess a.own b.own
noncomputable def T931:Tbl:=addT 60 (.pure cCs) tbl0
theorem zof8:T931 60 = .pure cCs:=by simp [T931]
theorem zn44:T931.Sound P:=z0rp zqxd zr5o
theorem zjf7 (a b:Vot):Runs T931 a59 [.agg (voC a),.agg (voC b)] (.int .i64 (zavf a.own b.own)):=by
 refine ⟨?_⟩
 simp (disch:=first|omega|simp<;>omega|fail) [-zA,-zB,-zC,-zD,-zE,a59,zof8,zc1k]
noncomputable def cCmV:List DV→Option DV:=con (fun _=>True) (fun a:Vot × Vot=>[.agg (voC a.1),.agg (voC a.2)]) (fun a => .int .i64 (zavf a.1.own a.2.own))
theorem z3b6 {a b:Vot}:cCmV [.agg (voC a),.agg (voC b)]=some (.int .i64 (zavf a.own b.own)) :=
 zsn4 (f:=fun a:Vot × Vot=>[.agg (voC a.1),.agg (voC a.2)]) (g:=fun a => .int .i64 (zavf a.1.own a.2.own)) (by
  rintro ⟨a,b⟩ ⟨c,d⟩ e
  simp only [List.cons.injEq,DV.agg.injEq,and_true] at e
  rw [zkbi e.1,zkbi e.2]) (a,b)
noncomputable def TcV:Tbl:=addT 59 (.pure cCmV) tbl0
theorem zjdk:TcV 59 = .pure cCmV:=by simp [TcV]
theorem zddn:TcV.Sound P:=z0rp (z2au fun (a:Vot × Vot) _=>zljw mix zn44 Try.func59 zwsz (zjf7 a.1 a.2)) zr5o
theorem zvnb {a b:Vot}:(zavf a.own b.own<0)↔vLt a b=true:=z5ha
def cmVf (a b:Vot):Int:=zavf a.own b.own
theorem z6ee (a:Int):Runs tbl0 a63 [.int .i64 a] (.bool false):=by
 refine ⟨?_⟩
 simp (disch:=first|omega|simp<;>omega|fail) [-zA,-zB,-zC,-zD,-zE,a63]
noncomputable def cIsI:List DV→Option DV
 | [.int .i64 _]=>some (.bool false)|_=>none
theorem zj7i {a:Int}:cIsI [.int .i64 a]=some (.bool false):=rfl
theorem zdtl:(Con.pure cIsI).Sound P 63:=by
 intro args v e
 unfold cIsI at e
 split at e
 ·simp at e; subst e; exact zljw mix zr5o Try.func63 z2tu (z6ee _)
 ·simp at e
noncomputable def T932:Tbl:=addT 63 (.pure cIsI) tbl0
theorem zvvt:T932 63 = .pure cIsI:=by simp [T932]
theorem zt52:T932.Sound P:=z0rp zdtl zr5o
def znwt (a b:Int):Int:=if a<b then -1 else if b<a then 1 else 0
theorem zvic (a b:Int):Runs T932 a40 [.int .i64 a,.int .i64 b] (.int .i64 (znwt a b)):=by
 refine ⟨?_⟩
 unfold znwt
 by_cases h1:a<b
 ·simp (disch:=first|omega|simp<;>omega|fail) [-zA,-zB,-zC,-zD,-zE,a40,zvvt,zj7i,h1]
 ·by_cases h2:b<a
  ·simp (disch:=first|omega|simp<;>omega|fail) [-zA,-zB,-zC,-zD,-zE,a40,zvvt,zj7i,h1,h2]
  ·simp (disch:=first|omega|simp<;>omega|fail) [-zA,-zB,-zC,-zD,-zE,a40,zvvt,zj7i,h1,h2]
noncomputable def cCi:List DV→Option DV
 | [.int .i64 a,.int .i64 b]=>some (.int .i64 (znwt a b))|_=>none
theorem z3mn {a b:Int}:cCi [.int .i64 a,.int .i64 b]=some (.int .i64 (znwt a b)):=rfl
theorem zl9z:(Con.pure cCi).Sound P 40:=by
 intro args v e
 unfold cCi at e
 split at e
 ·simp at e; subst e; exact zljw mix zt52 Try.func40 zn9f (zvic _ _)
 ·simp at e
def aLt (a b:Agr):Bool:=decide (b.owners.l.length<a.owners.l.length)
def cmAf (a b:Agr):Int:=znwt b.owners.l.length a.owners.l.length
noncomputable def T933:Tbl:=addT 40 (.pure cCi) tbl0
theorem z1xk:T933 40 = .pure cCi:=by simp [T933]
theorem zkmg:T933.Sound P:=z0rp zl9z zr5o
theorem zwpt (a b:Agr):Runs T933 a39 [.agg (agC a),.agg (agC b)] (.int .i64 (cmAf a b)):=by
 refine ⟨?_⟩
 unfold cmAf
 simp (disch:=first|omega|simp<;>omega|fail) [-zA,-zB,-zC,-zD,-zE,a39,z1xk,z3mn]
noncomputable def cCmA:List DV→Option DV:=con (fun _=>True) (fun a:Agr × Agr=>[.agg (agC a.1),.agg (agC a.2)]) (fun a => .int .i64 (cmAf a.1 a.2))
theorem zy7t {a b:Agr}:cCmA [.agg (agC a),.agg (agC b)]=some (.int .i64 (cmAf a b)) :=
 zsn4 (f:=fun a:Agr × Agr=>[.agg (agC a.1),.agg (agC a.2)]) (g:=fun a => .int .i64 (cmAf a.1 a.2)) (by
  rintro ⟨a,b⟩ ⟨c,d⟩ e
  simp only [List.cons.injEq,DV.agg.injEq,and_true] at e
  rw [zum4 e.1,zum4 e.2]) (a,b)
noncomputable def TcA:Tbl:=addT 39 (.pure cCmA) tbl0
theorem zszl:TcA 39 = .pure cCmA:=by simp [TcA]
theorem zl1y:TcA.Sound P:=z0rp (z2au fun (a:Agr × Agr) _=>zljw mix zkmg Try.func39 zjwo (zwpt a.1 a.2)) zr5o
theorem zml7 {a b:Agr}:(cmAf a b<0)↔aLt a b=true:=by
 unfold cmAf aLt znwt
 split
 ·rename_i h; simp; omega
 ·rename_i h; split<;>simp<;>omega
structure IPg (α:Type) where
 A:List α
 B:List α
def z8u0 {α:Type} (lt:α→α→Bool) (x:α) (B:List α):Prop := ∀ b ∈ B,lt x b=true
theorem z72y {α:Type} {A B R:List α} {x y:α}:((A++[y]++x::(B++R)).set (A.length+1) y).set A.length x=A++x::(y::B++R):=by
 rw [y0s,y1a _ _ (by omega),show A.length+1-A.length=1 by omega]
 simp
def S934 (pre:List AObj) (n:Nat) (l:List Vot) (i:Nat):St:=zkbr (.ms pre.length (n*4) 0 4 n (n*4)) (.int .i64 0) (.int .i64 n) (.fn (.func 59) [] []) (.int .i64 i) (pre++[.cells (fl voC (zq4g vLt (l.take i)++l.drop i))])
def S935 (pre:List AObj) (n i:Nat) (x:Vot) (R:List Vot) (a:IPg Vot):St:=z5h4 (.ms pre.length (n*4) 0 4 n (n*4)) (.int .i64 0) (.int .i64 n) (.fn (.func 59) [] []) (.int .i64 i) (.int .i64 a.A.length) (pre++[.cells (fl voC (a.A++x::(a.B++R)))])
theorem z8os (pre:List AObj) (l:List Vot) (hb:l.length≤1000000) :
  RunsH TcV a74 [.ms pre.length (l.length*4) 0 4 l.length (l.length*4),.int .i64 0,.int .i64 l.length,(.fn (.func 59) [] [])] (pre++[.cells (fl voC l)]) (.tup []) (pre++[.cells (fl voC (zq4g vLt l))]):=by
 refine ⟨?_⟩
 obtain ⟨n,hn⟩ : ∃ n,l.length=n:=⟨_,rfl⟩
 rw [hn]
 rw [hn] at hb
 simp (disch:=first|omega|simp<;>omega|fail) [-zA,-zB,-zC,-zD,-zE,a74]
 refine zlm5 (S934 pre n l) (fun i=>n+1-i) (fun i=>1≤i∧(i≤n∨n=0)) 1 (z515 (by simp (disch:=first|omega|simp<;>omega|fail) [-zA,-zB,-zC,-zD,-zE,S934,zkbr]) ?_) ⟨by omega,by omega⟩ (fun i hi => ?_)
 ·simp (disch:=first|omega|simp<;>omega|fail) [-zA,-zB,-zC,-zD,-zE,S934,zkbr]
  rw [zk1b (by simp; omega),y1b]
 obtain ⟨h1,h2⟩:=hi
 simp (disch:=first|omega|simp<;>omega|fail) [-zA,-zB,-zC,-zD,-zE,zndk,zkbr,S934]
 by_cases h:i<n
 ·have h':(i:Int)<n:=by omega
  have hil:i<l.length:=by omega
  obtain ⟨x,hx⟩ : ∃ x,l[i]=x:=⟨_,rfl⟩
  have hd:l.drop i=x::l.drop (i+1):=by rw [y0n hil,hx]
  obtain ⟨Q,hQ⟩ : ∃ Q,zq4g vLt (l.take i)=Q:=⟨_,rfl⟩
  have hQl:Q.length=i:=by rw [← hQ,zmgd]; simp; omega
  have hnext:zq4g vLt (l.take (i+1))=insR vLt x Q:=by rw [y03 hil,zuk7,hQ,hx]
  obtain ⟨R,hR⟩ : ∃ R,l.drop (i+1)=R:=⟨_,rfl⟩
  have hRl:R.length=n-(i+1):=by rw [← hR]; simp; omega
  rw [hd,hQ,hR]
  simp (disch:=first|omega|simp<;>omega|fail) [-zA,-zB,-zC,-zD,-zE,h,h']
  refine zlm5 (S935 pre n i x R) (fun a=>a.A.length) (fun a=>a.A++a.B=Q∧z8u0 vLt x a.B) ⟨Q,[]⟩ (z515 (by simp (disch:=first|omega|simp<;>omega|fail) [-zA,-zB,-zC,-zD,-zE,S935,z5h4,hQl]) (by simp (disch:=first|omega|simp<;>omega|fail) [-zA,-zB,-zC,-zD,-zE,S935,z5h4])) ⟨by simp,fun b hb=>by simp at hb⟩ (fun a ha => ?_)
  obtain ⟨A,B⟩:=a
  obtain ⟨r1,r2⟩:=ha
  simp only at r1 r2
  simp only [S935]
  rcases (y1c A) with rfl|⟨A',y,rfl⟩
  ·have e:insR vLt x Q=x::B:=by rw [← r1]; exact zv9v r2 (.inl rfl)
   have hfin:zq4g vLt (l.take (i+1))++l.drop (i+1)=x::(B++R):=by rw [hnext,e,hR]; rfl
   simp (disch:=first|omega|simp<;>omega|fail) [-zA,-zB,-zC,-zD,-zE,zzeu,z5h4]
   refine ⟨i+1,z515 (by simp (disch:=first|omega|simp<;>omega|fail) [-zA,-zB,-zC,-zD,-zE,S934,zkbr]) (by simp (disch:=first|omega|simp<;>omega|fail) [-zA,-zB,-zC,-zD,-zE,S934,zkbr,hfin]),by omega,by omega,by omega⟩
  ·rw [y0l] at r1
   have hAl:A'.length+1+B.length=i:=by rw [← hQl,← r1]; simp; omega
   rw [y0l]
   obtain ⟨L,hL⟩ : ∃ L,A'++[y]++x::(B++R)=L:=⟨_,rfl⟩
   have hLl:L.length=n:=by rw [← hL]; simp; omega
   obtain ⟨p,hp⟩ : ∃ p,A'.length=p:=⟨_,rfl⟩
   have g1 : ∀ h:p<L.length,L[p]=y:=fun h=>by subst hL hp; simp
   have g2 : ∀ h:p+1<L.length,L[p+1]=x:=fun h=>by subst hL hp; simp [y12]
   have hs:=z72y (A:=A') (B:=B) (R:=R) (x:=x) (y:=y)
   rw [hL,hp] at hs
   obtain ⟨G,hG⟩ : ∃ G,fl voC L=G:=⟨_,rfl⟩
   have hGl:G.length=n*4:=by rw [← hG,z8lx zu4u,hLl]
   obtain ⟨G2,hG2⟩ : ∃ G2,fl voC (L.set (p+1) y)=G2:=⟨_,rfl⟩
   have hG2l:G2.length=n*4:=by rw [← hG2,z8lx zu4u,y0o,hLl]
   have o1:oneC 4 true (G.drop (p*4))=some (.agg (voC y)):=by rw [← hG,zfiy zu4u (by omega),g1]
   have o2:oneC 4 true (G.drop ((p+1)*4))=some (.agg (voC x)):=by rw [← hG,zfiy zu4u (by omega),g2]
   have s1 : ∀ h:List AObj,zy6o h pre.length 4 ((p+1)*4) (.agg (voC y)) (some G)=some (.junk,h.set pre.length (.cells G2)):=fun h=>by rw [← hG,zdvi zu4u (by decide) (fun _=>z0cw) (by omega),hG2]
   have s2 : ∀ h:List AObj,zy6o h pre.length 4 (p*4) (.agg (voC x)) (some G2)=some (.junk,h.set pre.length (.cells (fl voC (A'++x::(y::B++R))))):=fun h=>by rw [← hG2,zdvi zu4u (by decide) (fun _=>z0cw) (by rw [y0o]; omega),hs]
   have hv:cCmV [.agg (voC x),.agg (voC y)]=some (.int .i64 (cmVf x y)):=z3b6
   have hq:(cmVf x y<0)↔vLt x y=true:=zvnb
   have t1:((p:Int)+1).toNat=p+1:=by omega
   have t2:(A'++[y]).length=p+1:=by rw [← hp]; simp
   rw [hL,hG,t2]
   cases hc:vLt x y with
   | true =>
    have hq':cmVf x y<0:=hq.2 hc
    simp (disch:=first|omega|simp<;>omega|fail) [-zA,-zB,-zC,-zD,-zE,zzeu,z5h4,hGl,hG2l,o1,o2,s1,s2,t1,zjdk,hv,hq',zjj2,z1zn,zxft]
    refine ⟨⟨A',y::B⟩,z515 (by simp (disch:=first|omega|simp<;>omega|fail) [-zA,-zB,-zC,-zD,-zE,S935,z5h4,hp]) (by simp (disch:=first|omega|simp<;>omega|fail) [-zA,-zB,-zC,-zD,-zE,S935,z5h4]),by simp,by simpa using r1,fun b hb => ?_⟩
    rcases y0u.1 hb with rfl|hb
    ·exact hc
    ·exact r2 b hb
   | false =>
    have hq':¬ cmVf x y<0:=fun q=>by rw [hq.1 q] at hc; cases hc
    simp (disch:=first|omega|simp<;>omega|fail) [-zA,-zB,-zC,-zD,-zE,zzeu,z5h4,hGl,o1,o2,t1,zjdk,hv,hq',zjj2,z1zn]
    have e:insR vLt x Q=A'++[y]++x::B:=by rw [← r1]; exact zv9v r2 (.inr ⟨A',y,rfl,hc⟩)
    have hfin:zq4g vLt (l.take (i+1))++l.drop (i+1)=L:=by rw [hnext,e,hR,← hL]; simp
    refine ⟨i+1,z515 (by simp (disch:=first|omega|simp<;>omega|fail) [-zA,-zB,-zC,-zD,-zE,S934,zkbr]) (by simp (disch:=first|omega|simp<;>omega|fail) [-zA,-zB,-zC,-zD,-zE,S934,zkbr,hfin,hG]),by omega,by omega,by omega⟩
 ·have h':¬ (i:Int)<n:=by omega
  have e1:l.drop i=[]:=y0k (by omega)
  have e2:l.take i=l:=y00 (by omega)
  simp (disch:=first|omega|simp<;>omega|fail) [-zA,-zB,-zC,-zD,-zE,h,h',e1,e2]
theorem zrwx (pre:List AObj) (l:List Vot) (n:Nat) (hn:l.length=n) (hb:n≤1000000):RunsH TcV a74 [.ms pre.length (n*4) 0 4 n (n*4),.int .i64 n,.int .i64 n,(.fn (.func 59) [] [])] (pre++[.cells (fl voC l)]) (.tup []) (pre++[.cells (fl voC l)]):=by
 refine ⟨?_⟩
 simp (disch:=first|omega|simp<;>omega|fail) [-zA,-zB,-zC,-zD,-zE,a74]
 refine zlm5 (fun _:Unit=>zkbr (.ms pre.length (n*4) 0 4 n (n*4)) (.int .i64 n) (.int .i64 n) (.fn (.func 59) [] []) (.int .i64 (n+1)) (pre++[.cells (fl voC l)])) (fun _=>0) (fun _=>True) () (z515 (by simp (disch:=first|omega|simp<;>omega|fail) [-zA,-zB,-zC,-zD,-zE,zkbr]) (by simp (disch:=first|omega|simp<;>omega|fail) [-zA,-zB,-zC,-zD,-zE,zkbr])) trivial (fun i _ => ?_)
 have hw:¬ (n:Int)+1<n:=by omega
 simp (disch:=first|omega|simp<;>omega|fail) [-zA,-zB,-zC,-zD,-zE,zndk,zkbr,hw]
theorem zxvc (pre:List AObj) (l:List Vot) (n:Nat) (hn:l.length=n) (hb:n≤1000000):zwy1 P 74 [.ms pre.length (n*4) 0 4 n (n*4),.int .i64 0,.int .i64 n,(.fn (.func 59) [] [])] (pre++[.cells (fl voC l)]) (fun d h=>d = .tup []∧h=pre++[.cells (fl voC (zq4g vLt l))]):=by
 subst hn
 exact zv22 mix zddn Try.func74 z26r (z8os pre l hb)
theorem zsmo (pre:List AObj) (l:List Vot) (n:Nat) (hn:l.length=n) (hb:n≤1000000):zwy1 P 74 [.ms pre.length (n*4) 0 4 n (n*4),.int .i64 n,.int .i64 n,(.fn (.func 59) [] [])] (pre++[.cells (fl voC l)]) (fun d h=>d = .tup []∧h=pre++[.cells (fl voC l)]) :=
 zv22 mix zddn Try.func74 z26r (zrwx pre l n hn hb)
theorem z0zs (pre:List AObj) (l:List Vot) (n:Nat) (hn:l.length=n) (hb:n≤20):V P (pre++[AObj.cells (fl voC l)]).length a70.code (retH a70.res (.tup []) (pre++[.cells (fl voC (zq4g vLt l))])) ⟨zr5g a70.ntmps [.ms pre.length (n*4) 0 4 n (n*4),.int .i64 n,(.fn (.func 59) [] [])],pre++[.cells (fl voC l)]⟩:=by
 have hlen:(pre++[AObj.cells (fl voC l)]).length=(pre++[AObj.cells (fl voC (zq4g vLt l))]).length:=by simp
 refine zbn1 (V_W mix zr5o ?_)
 simp (disch:=first|omega|simp<;>omega|fail) [-zA,-zB,-zC,-zD,-zE,a70]
 refine zbn1 (V_W mix zr5o ?_)
 simp (disch:=first|omega|simp<;>omega|fail) [-zA,-zB,-zC,-zD,-zE]
 by_cases h:n=20
 ·subst h
  refine zbn1 (z3mo (ztbr (fun b:TwoS=>ziom (.ms pre.length (20*4) 0 4 20 (20*4)) (.int .i64 20) (.fn (.func 59) [] []) (.int .i64 20) (.int .i64 (ts b 0 20)) (.int .i64 (ts b 20 40)) (pre++[.cells (fl voC (ts b l (zq4g vLt l)))])) (fun b=>ts b 1 0) (fun _=>True) .p (z515 (by simp (disch:=first|omega|simp<;>omega|fail) [-zA,-zB,-zC,-zD,-zE,ziom,ts_p]) (by simp (disch:=first|omega|simp<;>omega|fail) [-zA,-zB,-zC,-zD,-zE,ziom,ts_p])) trivial (fun b _ => ?_)))
  cases b with
  | p =>
   simp only [ts_p]
   refine zbn1 (V_W mix zr5o ?_)
   simp (disch:=first|omega|simp<;>omega|fail) [-zA,-zB,-zC,-zD,-zE,z3a0,ziom]
   refine z3mo (zbn1 (V_W mix (z84q (zxvc pre l 20 hn (by decide))) ?_))
   simp (disch:=first|omega|simp<;>omega|fail) [-zA,-zB,-zC,-zD,-zE,TH_k,zpvh]
   refine zbn1 (V_W mix zr5o ?_)
   simp (disch:=first|omega|simp<;>omega|fail) [-zA,-zB,-zC,-zD,-zE]
   refine V_W mix zr5o ?_
   simp (disch:=first|omega|simp<;>omega|fail) [-zA,-zB,-zC,-zD,-zE]
   exact ⟨.q,z515 (by simp (disch:=first|omega|simp<;>omega|fail) [-zA,-zB,-zC,-zD,-zE,ziom,ts_q]) (by simp (disch:=first|omega|simp<;>omega|fail) [-zA,-zB,-zC,-zD,-zE,ziom,ts_q]),Nat.zero_lt_one⟩
  | q =>
   simp only [ts_q]
   refine zbn1 (V_W mix zr5o ?_)
   simp (disch:=first|omega|simp<;>omega|fail) [-zA,-zB,-zC,-zD,-zE,z3a0,ziom]
   refine zbn1 (V_W mix (z84q (zsmo pre (zq4g vLt l) 20 (by rw [zmgd,hn]) (by decide))) ?_)
   simp (disch:=first|omega|simp<;>omega|fail) [-zA,-zB,-zC,-zD,-zE,TH_k,zpvh]
   refine z3mo (ztbr (fun _:Unit=>z861 (.ms pre.length (20*4) 0 4 20 (20*4)) (.int .i64 20) (.fn (.func 59) [] []) (.int .i64 20) (pre++[.cells (fl voC (zq4g vLt l))])) (fun _=>0) (fun _=>True) () (z515 (by simp (disch:=first|omega|simp<;>omega|fail) [-zA,-zB,-zC,-zD,-zE,z861]) (by simp (disch:=first|omega|simp<;>omega|fail) [-zA,-zB,-zC,-zD,-zE,z861])) trivial (fun _ _ => ?_))
   refine zbn1 (V_W mix zr5o ?_)
   simp (disch:=first|omega|simp<;>omega|fail) [-zA,-zB,-zC,-zD,-zE,zhuc,z861]
 ·have h1:¬ (20:Int)≤n:=by omega
  have h2:¬ (20:Int)<n:=by omega
  refine zbn1 (z3mo (ztbr (fun _:Unit=>ziom (.ms pre.length (n*4) 0 4 n (n*4)) (.int .i64 n) (.fn (.func 59) [] []) (.int .i64 20) (.int .i64 0) (.int .i64 20) (pre++[.cells (fl voC l)])) (fun _=>0) (fun _=>True) () (z515 (by simp (disch:=first|omega|simp<;>omega|fail) [-zA,-zB,-zC,-zD,-zE,ziom]) (by simp (disch:=first|omega|simp<;>omega|fail) [-zA,-zB,-zC,-zD,-zE,ziom])) trivial (fun _ _ => ?_)))
  refine zbn1 (V_W mix zr5o ?_)
  simp (disch:=first|omega|simp<;>omega|fail) [-zA,-zB,-zC,-zD,-zE,z3a0,ziom,h1]
  refine zbn1 (V_W mix (z84q (zxvc pre l n hn (by omega))) ?_)
  simp (disch:=first|omega|simp<;>omega|fail) [-zA,-zB,-zC,-zD,-zE,TH_k,zpvh]
  refine z3mo (ztbr (fun _:Unit=>z861 (.ms pre.length (n*4) 0 4 n (n*4)) (.int .i64 n) (.fn (.func 59) [] []) (.int .i64 20) (pre++[.cells (fl voC (zq4g vLt l))])) (fun _=>0) (fun _=>True) () (z515 (by simp (disch:=first|omega|simp<;>omega|fail) [-zA,-zB,-zC,-zD,-zE,z861]) (by simp (disch:=first|omega|simp<;>omega|fail) [-zA,-zB,-zC,-zD,-zE,z861])) trivial (fun _ _ => ?_))
  refine zbn1 (V_W mix zr5o ?_)
  simp (disch:=first|omega|simp<;>omega|fail) [-zA,-zB,-zC,-zD,-zE,zhuc,z861,h2]
theorem zcau (pre:List AObj) (l:List Vot) (n:Nat) (hn:l.length=n) (hb:n≤20):zwy1 P 70 [.ms pre.length (n*4) 0 4 n (n*4),.int .i64 n,(.fn (.func 59) [] [])] (pre++[.cells (fl voC l)]) (fun d h=>d = .tup []∧h=pre++[.cells (fl voC (zq4g vLt l))]) :=
 zrqk Try.func70 zhcw (z0zs pre l n hn hb)
theorem zl4b (h:List AObj):zwy1 P 58 [.nils,(.fn (.func 59) [] [])] h (fun d h'=>d = .tup []∧h'=h):=by
 have i0:zwy1 P 74 [.nils,.int .i64 0,.int .i64 0,(.fn (.func 59) [] [])] h (fun d h'=>d = .tup []∧h'=h):=by
  refine zv22 mix zddn Try.func74 z26r (show RunsH TcV a74 _ _ _ _ from ⟨?_⟩)
  simp (disch:=first|omega|simp<;>omega|fail) [-zA,-zB,-zC,-zD,-zE,a74]
  refine zlm5 (fun _:Unit=>zkbr .nils (.int .i64 0) (.int .i64 0) (.fn (.func 59) [] []) (.int .i64 1) h) (fun _=>0) (fun _=>True) () (z515 (by simp (disch:=first|omega|simp<;>omega|fail) [-zA,-zB,-zC,-zD,-zE,zkbr]) (by simp (disch:=first|omega|simp<;>omega|fail) [-zA,-zB,-zC,-zD,-zE,zkbr])) trivial (fun i _ => ?_)
  simp (disch:=first|omega|simp<;>omega|fail) [-zA,-zB,-zC,-zD,-zE,zndk,zkbr]
 have s0:zwy1 P 70 [.nils,.int .i64 0,(.fn (.func 59) [] [])] h (fun d h'=>d = .tup []∧h'=h):=by
  refine zrqk Try.func70 zhcw ?_
  refine zbn1 (V_W mix zr5o ?_)
  simp (disch:=first|omega|simp<;>omega|fail) [-zA,-zB,-zC,-zD,-zE,a70]
  refine zbn1 (V_W mix zr5o ?_)
  simp (disch:=first|omega|simp<;>omega|fail) [-zA,-zB,-zC,-zD,-zE]
  refine zbn1 (z3mo (ztbr (fun _:Unit=>ziom .nils (.int .i64 0) (.fn (.func 59) [] []) (.int .i64 20) (.int .i64 0) (.int .i64 20) h) (fun _=>0) (fun _=>True) () (z515 (by simp (disch:=first|omega|simp<;>omega|fail) [-zA,-zB,-zC,-zD,-zE,ziom]) (by simp (disch:=first|omega|simp<;>omega|fail) [-zA,-zB,-zC,-zD,-zE,ziom])) trivial (fun _ _ => ?_)))
  refine zbn1 (V_W mix zr5o ?_)
  simp (disch:=first|omega|simp<;>omega|fail) [-zA,-zB,-zC,-zD,-zE,z3a0,ziom]
  refine zbn1 (V_W mix (z84q i0) ?_)
  simp (disch:=first|omega|simp<;>omega|fail) [-zA,-zB,-zC,-zD,-zE,TH_k,zpvh]
  refine z3mo (ztbr (fun _:Unit=>z861 .nils (.int .i64 0) (.fn (.func 59) [] []) (.int .i64 20) h) (fun _=>0) (fun _=>True) () (z515 (by simp (disch:=first|omega|simp<;>omega|fail) [-zA,-zB,-zC,-zD,-zE,z861]) (by simp (disch:=first|omega|simp<;>omega|fail) [-zA,-zB,-zC,-zD,-zE,z861])) trivial (fun _ _ => ?_))
  refine zbn1 (V_W mix zr5o ?_)
  simp (disch:=first|omega|simp<;>omega|fail) [-zA,-zB,-zC,-zD,-zE,zhuc,z861]
 refine zv22 mix (z84q s0) Try.func58 zt5h (show RunsH _ _ _ _ _ _ from ⟨?_⟩)
 simp (disch:=first|omega|simp<;>omega|fail) [-zA,-zB,-zC,-zD,-zE,a58,TH_k,zpvh]
theorem z3ez (pre:List AObj) (l:List Vot) (hb:l.length≤20):zwy1 P 58 [oV pre.length 4 l,(.fn (.func 59) [] [])] (pre++oT voC l) (fun d h=>d = .tup []∧h=pre++oT voC (zq4g vLt l)):=by
 by_cases e:l=[]
 ·subst e; exact zl4b _
 ·have hs:=zcau pre l l.length rfl hb
  have hfl:(fl voC l).length=l.length*4:=z8lx zu4u l
  rw [zpni e,zu2l e,zu2l (zlvn e)]
  obtain ⟨n,hn⟩ : ∃ n,l.length=n:=⟨_,rfl⟩
  rw [hn] at hs hfl ⊢
  refine zv22 mix (z84q hs) Try.func58 zt5h (show RunsH _ _ _ _ _ _ from ⟨?_⟩)
  have hln:lenD (pre++[.cells (fl voC l)]) (.ms pre.length (n*4) 0 4 n (n*4))=some (.int .i64 n):=by rw [z59c,zjj2,z1zn,if_pos hfl]; rfl
  simp (disch:=first|omega|simp<;>omega|fail) [-zA,-zB,-zC,-zD,-zE,a58,hln,TH_k,zpvh]
def S936 (pre:List AObj) (n:Nat) (l:List Agr) (i:Nat):St:=z6ro (.ms pre.length (n*5) 0 5 n (n*5)) (.int .i64 0) (.int .i64 n) (.fn (.func 39) [] []) (.int .i64 i) (pre++[.cells (fl agC (zq4g aLt (l.take i)++l.drop i))])
def S937 (pre:List AObj) (n i:Nat) (x:Agr) (R:List Agr) (a:IPg Agr):St:=zsm4 (.ms pre.length (n*5) 0 5 n (n*5)) (.int .i64 0) (.int .i64 n) (.fn (.func 39) [] []) (.int .i64 i) (.int .i64 a.A.length) (pre++[.cells (fl agC (a.A++x::(a.B++R)))])
theorem zh4h (pre:List AObj) (l:List Agr) (hb:l.length≤1000000) :
  RunsH TcA a72 [.ms pre.length (l.length*5) 0 5 l.length (l.length*5),.int .i64 0,.int .i64 l.length,(.fn (.func 39) [] [])] (pre++[.cells (fl agC l)]) (.tup []) (pre++[.cells (fl agC (zq4g aLt l))]):=by
 refine ⟨?_⟩
 obtain ⟨n,hn⟩ : ∃ n,l.length=n:=⟨_,rfl⟩
 rw [hn]
 rw [hn] at hb
 simp (disch:=first|omega|simp<;>omega|fail) [-zA,-zB,-zC,-zD,-zE,a72]
 refine zlm5 (S936 pre n l) (fun i=>n+1-i) (fun i=>1≤i∧(i≤n∨n=0)) 1 (z515 (by simp (disch:=first|omega|simp<;>omega|fail) [-zA,-zB,-zC,-zD,-zE,S936,z6ro]) ?_) ⟨by omega,by omega⟩ (fun i hi => ?_)
 ·simp (disch:=first|omega|simp<;>omega|fail) [-zA,-zB,-zC,-zD,-zE,S936,z6ro]
  rw [zk1b (by simp; omega),y1b]
 obtain ⟨h1,h2⟩:=hi
 simp (disch:=first|omega|simp<;>omega|fail) [-zA,-zB,-zC,-zD,-zE,zcng,z6ro,S936]
 by_cases h:i<n
 ·have h':(i:Int)<n:=by omega
  have hil:i<l.length:=by omega
  obtain ⟨x,hx⟩ : ∃ x,l[i]=x:=⟨_,rfl⟩
  have hd:l.drop i=x::l.drop (i+1):=by rw [y0n hil,hx]
  obtain ⟨Q,hQ⟩ : ∃ Q,zq4g aLt (l.take i)=Q:=⟨_,rfl⟩
  have hQl:Q.length=i:=by rw [← hQ,zmgd]; simp; omega
  have hnext:zq4g aLt (l.take (i+1))=insR aLt x Q:=by rw [y03 hil,zuk7,hQ,hx]
  obtain ⟨R,hR⟩ : ∃ R,l.drop (i+1)=R:=⟨_,rfl⟩
  have hRl:R.length=n-(i+1):=by rw [← hR]; simp; omega
  rw [hd,hQ,hR]
  simp (disch:=first|omega|simp<;>omega|fail) [-zA,-zB,-zC,-zD,-zE,h,h']
  refine zlm5 (S937 pre n i x R) (fun a=>a.A.length) (fun a=>a.A++a.B=Q∧z8u0 aLt x a.B) ⟨Q,[]⟩ (z515 (by simp (disch:=first|omega|simp<;>omega|fail) [-zA,-zB,-zC,-zD,-zE,S937,zsm4,hQl]) (by simp (disch:=first|omega|simp<;>omega|fail) [-zA,-zB,-zC,-zD,-zE,S937,zsm4])) ⟨by simp,fun b hb=>by simp at hb⟩ (fun a ha => ?_)
  obtain ⟨A,B⟩:=a
  obtain ⟨r1,r2⟩:=ha
  simp only at r1 r2
  simp only [S937]
  rcases (y1c A) with rfl|⟨A',y,rfl⟩
  ·have e:insR aLt x Q=x::B:=by rw [← r1]; exact zv9v r2 (.inl rfl)
   have hfin:zq4g aLt (l.take (i+1))++l.drop (i+1)=x::(B++R):=by rw [hnext,e,hR]; rfl
   simp (disch:=first|omega|simp<;>omega|fail) [-zA,-zB,-zC,-zD,-zE,zssg,zsm4]
   refine ⟨i+1,z515 (by simp (disch:=first|omega|simp<;>omega|fail) [-zA,-zB,-zC,-zD,-zE,S936,z6ro]) (by simp (disch:=first|omega|simp<;>omega|fail) [-zA,-zB,-zC,-zD,-zE,S936,z6ro,hfin]),by omega,by omega,by omega⟩
  ·rw [y0l] at r1
   have hAl:A'.length+1+B.length=i:=by rw [← hQl,← r1]; simp; omega
   rw [y0l]
   obtain ⟨L,hL⟩ : ∃ L,A'++[y]++x::(B++R)=L:=⟨_,rfl⟩
   have hLl:L.length=n:=by rw [← hL]; simp; omega
   obtain ⟨p,hp⟩ : ∃ p,A'.length=p:=⟨_,rfl⟩
   have g1 : ∀ h:p<L.length,L[p]=y:=fun h=>by subst hL hp; simp
   have g2 : ∀ h:p+1<L.length,L[p+1]=x:=fun h=>by subst hL hp; simp [y12]
   have hs:=z72y (A:=A') (B:=B) (R:=R) (x:=x) (y:=y)
   rw [hL,hp] at hs
   obtain ⟨G,hG⟩ : ∃ G,fl agC L=G:=⟨_,rfl⟩
   have hGl:G.length=n*5:=by rw [← hG,z8lx znh2,hLl]
   obtain ⟨G2,hG2⟩ : ∃ G2,fl agC (L.set (p+1) y)=G2:=⟨_,rfl⟩
   have hG2l:G2.length=n*5:=by rw [← hG2,z8lx znh2,y0o,hLl]
   have o1:oneC 5 true (G.drop (p*5))=some (.agg (agC y)):=by rw [← hG,zfiy znh2 (by omega),g1]
   have o2:oneC 5 true (G.drop ((p+1)*5))=some (.agg (agC x)):=by rw [← hG,zfiy znh2 (by omega),g2]
   have s1 : ∀ h:List AObj,zy6o h pre.length 5 ((p+1)*5) (.agg (agC y)) (some G)=some (.junk,h.set pre.length (.cells G2)):=fun h=>by rw [← hG,zdvi znh2 (by decide) (fun _=>z892) (by omega),hG2]
   have s2 : ∀ h:List AObj,zy6o h pre.length 5 (p*5) (.agg (agC x)) (some G2)=some (.junk,h.set pre.length (.cells (fl agC (A'++x::(y::B++R))))):=fun h=>by rw [← hG2,zdvi znh2 (by decide) (fun _=>z892) (by rw [y0o]; omega),hs]
   have hv:=zy7t (a:=x) (b:=y)
   have hq:=zml7 (a:=x) (b:=y)
   have t1:((p:Int)+1).toNat=p+1:=by omega
   have t2:(A'++[y]).length=p+1:=by rw [← hp]; simp
   rw [hL,hG,t2]
   cases hc:aLt x y with
   | true =>
    have hq':cmAf x y<0:=hq.2 hc
    simp (disch:=first|omega|simp<;>omega|fail) [-zA,-zB,-zC,-zD,-zE,zssg,zsm4,hGl,hG2l,o1,o2,s1,s2,t1,zszl,hv,hq',zjj2,z1zn,zxft]
    refine ⟨⟨A',y::B⟩,z515 (by simp (disch:=first|omega|simp<;>omega|fail) [-zA,-zB,-zC,-zD,-zE,S937,zsm4,hp]) (by simp (disch:=first|omega|simp<;>omega|fail) [-zA,-zB,-zC,-zD,-zE,S937,zsm4]),by simp,by simpa using r1,fun b hb => ?_⟩
    rcases y0u.1 hb with rfl|hb
    ·exact hc
    ·exact r2 b hb
   | false =>
    have hq':¬ cmAf x y<0:=fun q=>by rw [hq.1 q] at hc; cases hc
    simp (disch:=first|omega|simp<;>omega|fail) [-zA,-zB,-zC,-zD,-zE,zssg,zsm4,hGl,o1,o2,t1,zszl,hv,hq',zjj2,z1zn]
    have e:insR aLt x Q=A'++[y]++x::B:=by rw [← r1]; exact zv9v r2 (.inr ⟨A',y,rfl,hc⟩)
    have hfin:zq4g aLt (l.take (i+1))++l.drop (i+1)=L:=by rw [hnext,e,hR,← hL]; simp
    refine ⟨i+1,z515 (by simp (disch:=first|omega|simp<;>omega|fail) [-zA,-zB,-zC,-zD,-zE,S936,z6ro]) (by simp (disch:=first|omega|simp<;>omega|fail) [-zA,-zB,-zC,-zD,-zE,S936,z6ro,hfin,hG]),by omega,by omega,by omega⟩
 ·have h':¬ (i:Int)<n:=by omega
  have e1:l.drop i=[]:=y0k (by omega)
  have e2:l.take i=l:=y00 (by omega)
  simp (disch:=first|omega|simp<;>omega|fail) [-zA,-zB,-zC,-zD,-zE,h,h',e1,e2]
theorem zfi5 (pre:List AObj) (l:List Agr) (n:Nat) (hn:l.length=n) (hb:n≤1000000):RunsH TcA a72 [.ms pre.length (n*5) 0 5 n (n*5),.int .i64 n,.int .i64 n,(.fn (.func 39) [] [])] (pre++[.cells (fl agC l)]) (.tup []) (pre++[.cells (fl agC l)]):=by
 refine ⟨?_⟩
 simp (disch:=first|omega|simp<;>omega|fail) [-zA,-zB,-zC,-zD,-zE,a72]
 refine zlm5 (fun _:Unit=>z6ro (.ms pre.length (n*5) 0 5 n (n*5)) (.int .i64 n) (.int .i64 n) (.fn (.func 39) [] []) (.int .i64 (n+1)) (pre++[.cells (fl agC l)])) (fun _=>0) (fun _=>True) () (z515 (by simp (disch:=first|omega|simp<;>omega|fail) [-zA,-zB,-zC,-zD,-zE,z6ro]) (by simp (disch:=first|omega|simp<;>omega|fail) [-zA,-zB,-zC,-zD,-zE,z6ro])) trivial (fun i _ => ?_)
 have hw:¬ (n:Int)+1<n:=by omega
 simp (disch:=first|omega|simp<;>omega|fail) [-zA,-zB,-zC,-zD,-zE,zcng,z6ro,hw]
theorem zbf9 (pre:List AObj) (l:List Agr) (n:Nat) (hn:l.length=n) (hb:n≤1000000):zwy1 P 72 [.ms pre.length (n*5) 0 5 n (n*5),.int .i64 0,.int .i64 n,(.fn (.func 39) [] [])] (pre++[.cells (fl agC l)]) (fun d h=>d = .tup []∧h=pre++[.cells (fl agC (zq4g aLt l))]):=by
 subst hn
 exact zv22 mix zl1y Try.func72 z0xs (zh4h pre l hb)
theorem zr2f (pre:List AObj) (l:List Agr) (n:Nat) (hn:l.length=n) (hb:n≤1000000):zwy1 P 72 [.ms pre.length (n*5) 0 5 n (n*5),.int .i64 n,.int .i64 n,(.fn (.func 39) [] [])] (pre++[.cells (fl agC l)]) (fun d h=>d = .tup []∧h=pre++[.cells (fl agC l)]) :=
 zv22 mix zl1y Try.func72 z0xs (zfi5 pre l n hn hb)
theorem zfrq (pre:List AObj) (l:List Agr) (n:Nat) (hn:l.length=n) (hb:n≤20):V P (pre++[AObj.cells (fl agC l)]).length a62.code (retH a62.res (.tup []) (pre++[.cells (fl agC (zq4g aLt l))])) ⟨zr5g a62.ntmps [.ms pre.length (n*5) 0 5 n (n*5),.int .i64 n,(.fn (.func 39) [] [])],pre++[.cells (fl agC l)]⟩:=by
 have hlen:(pre++[AObj.cells (fl agC l)]).length=(pre++[AObj.cells (fl agC (zq4g aLt l))]).length:=by simp
 refine zbn1 (V_W mix zr5o ?_)
 simp (disch:=first|omega|simp<;>omega|fail) [-zA,-zB,-zC,-zD,-zE,a62]
 refine zbn1 (V_W mix zr5o ?_)
 simp (disch:=first|omega|simp<;>omega|fail) [-zA,-zB,-zC,-zD,-zE]
 by_cases h:n=20
 ·subst h
  refine zbn1 (z3mo (ztbr (fun b:TwoS=>zbk2 (.ms pre.length (20*5) 0 5 20 (20*5)) (.int .i64 20) (.fn (.func 39) [] []) (.int .i64 20) (.int .i64 (ts b 0 20)) (.int .i64 (ts b 20 40)) (pre++[.cells (fl agC (ts b l (zq4g aLt l)))])) (fun b=>ts b 1 0) (fun _=>True) .p (z515 (by simp (disch:=first|omega|simp<;>omega|fail) [-zA,-zB,-zC,-zD,-zE,zbk2,ts_p]) (by simp (disch:=first|omega|simp<;>omega|fail) [-zA,-zB,-zC,-zD,-zE,zbk2,ts_p])) trivial (fun b _ => ?_)))
  cases b with
  | p =>
   simp only [ts_p]
   refine zbn1 (V_W mix zr5o ?_)
   simp (disch:=first|omega|simp<;>omega|fail) [-zA,-zB,-zC,-zD,-zE,z1dk,zbk2]
   refine z3mo (zbn1 (V_W mix (z84q (zbf9 pre l 20 hn (by decide))) ?_))
   simp (disch:=first|omega|simp<;>omega|fail) [-zA,-zB,-zC,-zD,-zE,TH_k,zpvh]
   refine zbn1 (V_W mix zr5o ?_)
   simp (disch:=first|omega|simp<;>omega|fail) [-zA,-zB,-zC,-zD,-zE]
   refine V_W mix zr5o ?_
   simp (disch:=first|omega|simp<;>omega|fail) [-zA,-zB,-zC,-zD,-zE]
   exact ⟨.q,z515 (by simp (disch:=first|omega|simp<;>omega|fail) [-zA,-zB,-zC,-zD,-zE,zbk2,ts_q]) (by simp (disch:=first|omega|simp<;>omega|fail) [-zA,-zB,-zC,-zD,-zE,zbk2,ts_q]),Nat.zero_lt_one⟩
  | q =>
   simp only [ts_q]
   refine zbn1 (V_W mix zr5o ?_)
   simp (disch:=first|omega|simp<;>omega|fail) [-zA,-zB,-zC,-zD,-zE,z1dk,zbk2]
   refine zbn1 (V_W mix (z84q (zr2f pre (zq4g aLt l) 20 (by rw [zmgd,hn]) (by decide))) ?_)
   simp (disch:=first|omega|simp<;>omega|fail) [-zA,-zB,-zC,-zD,-zE,TH_k,zpvh]
   refine z3mo (ztbr (fun _:Unit=>zz7r (.ms pre.length (20*5) 0 5 20 (20*5)) (.int .i64 20) (.fn (.func 39) [] []) (.int .i64 20) (pre++[.cells (fl agC (zq4g aLt l))])) (fun _=>0) (fun _=>True) () (z515 (by simp (disch:=first|omega|simp<;>omega|fail) [-zA,-zB,-zC,-zD,-zE,zz7r]) (by simp (disch:=first|omega|simp<;>omega|fail) [-zA,-zB,-zC,-zD,-zE,zz7r])) trivial (fun _ _ => ?_))
   refine zbn1 (V_W mix zr5o ?_)
   simp (disch:=first|omega|simp<;>omega|fail) [-zA,-zB,-zC,-zD,-zE,z8zs,zz7r]
 ·have h1:¬ (20:Int)≤n:=by omega
  have h2:¬ (20:Int)<n:=by omega
  refine zbn1 (z3mo (ztbr (fun _:Unit=>zbk2 (.ms pre.length (n*5) 0 5 n (n*5)) (.int .i64 n) (.fn (.func 39) [] []) (.int .i64 20) (.int .i64 0) (.int .i64 20) (pre++[.cells (fl agC l)])) (fun _=>0) (fun _=>True) () (z515 (by simp (disch:=first|omega|simp<;>omega|fail) [-zA,-zB,-zC,-zD,-zE,zbk2]) (by simp (disch:=first|omega|simp<;>omega|fail) [-zA,-zB,-zC,-zD,-zE,zbk2])) trivial (fun _ _ => ?_)))
  refine zbn1 (V_W mix zr5o ?_)
  simp (disch:=first|omega|simp<;>omega|fail) [-zA,-zB,-zC,-zD,-zE,z1dk,zbk2,h1]
  refine zbn1 (V_W mix (z84q (zbf9 pre l n hn (by omega))) ?_)
  simp (disch:=first|omega|simp<;>omega|fail) [-zA,-zB,-zC,-zD,-zE,TH_k,zpvh]
  refine z3mo (ztbr (fun _:Unit=>zz7r (.ms pre.length (n*5) 0 5 n (n*5)) (.int .i64 n) (.fn (.func 39) [] []) (.int .i64 20) (pre++[.cells (fl agC (zq4g aLt l))])) (fun _=>0) (fun _=>True) () (z515 (by simp (disch:=first|omega|simp<;>omega|fail) [-zA,-zB,-zC,-zD,-zE,zz7r]) (by simp (disch:=first|omega|simp<;>omega|fail) [-zA,-zB,-zC,-zD,-zE,zz7r])) trivial (fun _ _ => ?_))
  refine zbn1 (V_W mix zr5o ?_)
  simp (disch:=first|omega|simp<;>omega|fail) [-zA,-zB,-zC,-zD,-zE,z8zs,zz7r,h2]
theorem z4t1 (pre:List AObj) (l:List Agr) (n:Nat) (hn:l.length=n) (hb:n≤20):zwy1 P 62 [.ms pre.length (n*5) 0 5 n (n*5),.int .i64 n,(.fn (.func 39) [] [])] (pre++[.cells (fl agC l)]) (fun d h=>d = .tup []∧h=pre++[.cells (fl agC (zq4g aLt l))]) :=
 zrqk Try.func62 z0i3 (zfrq pre l n hn hb)
theorem z33b (h:List AObj):zwy1 P 38 [.nils,(.fn (.func 39) [] [])] h (fun d h'=>d = .tup []∧h'=h):=by
 have i0:zwy1 P 72 [.nils,.int .i64 0,.int .i64 0,(.fn (.func 39) [] [])] h (fun d h'=>d = .tup []∧h'=h):=by
  refine zv22 mix zl1y Try.func72 z0xs (show RunsH TcA a72 _ _ _ _ from ⟨?_⟩)
  simp (disch:=first|omega|simp<;>omega|fail) [-zA,-zB,-zC,-zD,-zE,a72]
  refine zlm5 (fun _:Unit=>z6ro .nils (.int .i64 0) (.int .i64 0) (.fn (.func 39) [] []) (.int .i64 1) h) (fun _=>0) (fun _=>True) () (z515 (by simp (disch:=first|omega|simp<;>omega|fail) [-zA,-zB,-zC,-zD,-zE,z6ro]) (by simp (disch:=first|omega|simp<;>omega|fail) [-zA,-zB,-zC,-zD,-zE,z6ro])) trivial (fun i _ => ?_)
  simp (disch:=first|omega|simp<;>omega|fail) [-zA,-zB,-zC,-zD,-zE,zcng,z6ro]
 have s0:zwy1 P 62 [.nils,.int .i64 0,(.fn (.func 39) [] [])] h (fun d h'=>d = .tup []∧h'=h):=by
  refine zrqk Try.func62 z0i3 ?_
  refine zbn1 (V_W mix zr5o ?_)
  simp (disch:=first|omega|simp<;>omega|fail) [-zA,-zB,-zC,-zD,-zE,a62]
  refine zbn1 (V_W mix zr5o ?_)
  simp (disch:=first|omega|simp<;>omega|fail) [-zA,-zB,-zC,-zD,-zE]
  refine zbn1 (z3mo (ztbr (fun _:Unit=>zbk2 .nils (.int .i64 0) (.fn (.func 39) [] []) (.int .i64 20) (.int .i64 0) (.int .i64 20) h) (fun _=>0) (fun _=>True) () (z515 (by simp (disch:=first|omega|simp<;>omega|fail) [-zA,-zB,-zC,-zD,-zE,zbk2]) (by simp (disch:=first|omega|simp<;>omega|fail) [-zA,-zB,-zC,-zD,-zE,zbk2])) trivial (fun _ _ => ?_)))
  refine zbn1 (V_W mix zr5o ?_)
  simp (disch:=first|omega|simp<;>omega|fail) [-zA,-zB,-zC,-zD,-zE,z1dk,zbk2]
  refine zbn1 (V_W mix (z84q i0) ?_)
  simp (disch:=first|omega|simp<;>omega|fail) [-zA,-zB,-zC,-zD,-zE,TH_k,zpvh]
  refine z3mo (ztbr (fun _:Unit=>zz7r .nils (.int .i64 0) (.fn (.func 39) [] []) (.int .i64 20) h) (fun _=>0) (fun _=>True) () (z515 (by simp (disch:=first|omega|simp<;>omega|fail) [-zA,-zB,-zC,-zD,-zE,zz7r]) (by simp (disch:=first|omega|simp<;>omega|fail) [-zA,-zB,-zC,-zD,-zE,zz7r])) trivial (fun _ _ => ?_))
  refine zbn1 (V_W mix zr5o ?_)
  simp (disch:=first|omega|simp<;>omega|fail) [-zA,-zB,-zC,-zD,-zE,z8zs,zz7r]
 refine zv22 mix (z84q s0) Try.func38 zclx (show RunsH _ _ _ _ _ _ from ⟨?_⟩)
 simp (disch:=first|omega|simp<;>omega|fail) [-zA,-zB,-zC,-zD,-zE,a38,TH_k,zpvh]
theorem z1wq (pre:List AObj) (l:List Agr) (hb:l.length≤20):zwy1 P 38 [oV pre.length 5 l,(.fn (.func 39) [] [])] (pre++oT agC l) (fun d h=>d = .tup []∧h=pre++oT agC (zq4g aLt l)):=by
 by_cases e:l=[]
 ·subst e; exact z33b _
 ·have hs:=z4t1 pre l l.length rfl hb
  have hfl:(fl agC l).length=l.length*5:=z8lx znh2 l
  rw [zpni e,zu2l e,zu2l (zlvn e)]
  obtain ⟨n,hn⟩ : ∃ n,l.length=n:=⟨_,rfl⟩
  rw [hn] at hs hfl ⊢
  refine zv22 mix (z84q hs) Try.func38 zclx (show RunsH _ _ _ _ _ _ from ⟨?_⟩)
  have hln:lenD (pre++[.cells (fl agC l)]) (.ms pre.length (n*5) 0 5 n (n*5))=some (.int .i64 n):=by rw [z59c,zjj2,z1zn,if_pos hfl]; rfl
  simp (disch:=first|omega|simp<;>omega|fail) [-zA,-zB,-zC,-zD,-zE,a38,hln,TH_k,zpvh]
end
section
set_option linter.unusedSimpArgs false
set_option linter.unusedVariables false
open Go Go.Am
def vtS (s:Spc) (x:Att):Vot:=⟨x.own,⟨s.name,x.rc.m,x.rc.p⟩⟩
def votL (s:Spc) (l:List Att):List Vot:=(eliS s l).map (vtS s)
def votS (s:Spc) (l:List Att):List Vot:=zq4g vLt (votL s l)
theorem zldt (s:Spc) (l:List Att):(votL s l).length≤l.length:=by unfold votL; rw [y02]; exact zusn s l
theorem zz5s (s:Spc) (l:List Att):(votS s l).length≤l.length:=by unfold votS; rw [zmgd]; exact zldt s l
noncomputable def T940:Tbl:=addT 10 (.pure cEli) tbl0
theorem zx3m:T940 10 = .pure cEli:=by simp [T940]
theorem zh0h:T940.Sound P:=z0rp zxn6 zr5o
def S940 (s:Spc) (E:Sl Att) (i:Nat):St:=z3id (.mp 0 7 0) (oV 1 4 ((E.l.take i).map (vtS s))) (E.dv 9 atC) (.int .i64 E.l.length) (.int .i64 i) (.cells (spC s)::oT voC ((E.l.take i).map (vtS s)))
theorem zcmx (s:Spc) (l:Sl Att) (hl:l.l.length≤20):V P 0 a33.code (retK a33.res ((ownN (votS s l.l)).dv 4 voC)) ⟨zr5g a33.ntmps [.agg (spC s),l.dv 9 atC],[]⟩:=by
 have hE1:(eliS s l.l).length≤20:=y1f (zusn s l.l) hl
 have hE2:(ownN (eliS s l.l)).l=eliS s l.l:=zd8n (by omega)
 have k1:=zbwi (s:=s) (l:=l)
 obtain ⟨E,hE⟩ : ∃ E,ownN (eliS s l.l)=E:=⟨_,rfl⟩
 rw [hE] at hE2 k1
 have hEn:E.l.length≤20:=by rw [hE2]; exact hE1
 have hV:(E.l.map (vtS s))=votL s l.l:=by rw [hE2]; rfl
 refine zbn1 (V_W mix zh0h ?_)
 simp (disch:=first|omega|simp<;>omega|fail) [-zA,-zB,-zC,-zD,-zE,a33]
 refine zbn1 (V_W mix zh0h ?_)
 simp (disch:=first|omega|simp<;>omega|fail) [-zA,-zB,-zC,-zD,-zE]
 refine zbn1 (zbn1 (V_W mix zh0h ?_))
 simp (disch:=first|omega|simp<;>omega|fail) [-zA,-zB,-zC,-zD,-zE,z8s9,zx3m,k1,zu1r]
 refine z3mo (ztbr (S940 s E) (fun i=>E.l.length-i) (fun i=>i≤E.l.length) 0 (z515 (by simp (disch:=first|omega|simp<;>omega|fail) [-zA,-zB,-zC,-zD,-zE,S940,z3id,zl8p]) (by simp (disch:=first|omega|simp<;>omega|fail) [-zA,-zB,-zC,-zD,-zE,S940,z3id,zkrk])) (by omega) (fun i hi => ?_))
 simp only [S940]
 refine zbn1 (V_W mix zh0h ?_)
 by_cases h:i<E.l.length
 case neg =>
  have h':¬ (i:Int)<E.l.length:=by omega
  rw [y00 (show E.l.length≤i by omega),hV]
  have hn:(votL s l.l).length≤20:=by rw [← hV,y02]; exact hEn
  have hcall:=z3ez [.cells (spC s)] (votL s l.l) hn
  have hsn:=zigm (k:=1) (l:=votS s l.l) (h:=[AObj.cells (spC s)]) (r:=[]) rfl zu4u zc6g (by have:=zz5s s l.l; omega)
  rw [y0j] at hsn
  simp only [y01,y05,y06,List.length_nil,Nat.zero_add] at hsn hcall
  have hv2:zq4g vLt (votL s l.l)=votS s l.l:=rfl
  rw [hv2] at hcall
  have ho:oV 1 4 (votL s l.l)=oV 1 4 (votS s l.l):=by
   unfold oV
   have e0:(votS s l.l).length=(votL s l.l).length:=zmgd _
   rw [e0]
   by_cases e:votL s l.l=[]
   ·rw [if_pos e,if_pos (by unfold votS; rw [e]; rfl)]
   ·rw [if_neg e,if_neg (show ¬ votS s l.l=[] from zlvn e)]
  rw [ho] at hcall ⊢
  simp (disch:=first|omega|simp<;>omega|fail) [-zA,-zB,-zC,-zD,-zE,zcr2,z3id,h,h']
  refine zbn1 (V_W mix zh0h ?_)
  simp (disch:=first|omega|simp<;>omega|fail) [-zA,-zB,-zC,-zD,-zE,h,h']
  refine zbn1 (V_W mix (z84q hcall) ?_)
  simp (disch:=first|omega|simp<;>omega|fail) [-zA,-zB,-zC,-zD,-zE,TH_k,zpvh]
  refine zbn1 (V_W mix zh0h ?_)
  simp (disch:=first|omega|simp<;>omega|fail) [-zA,-zB,-zC,-zD,-zE]
  refine V_W mix zh0h ?_
  simp (disch:=first|omega|simp<;>omega|fail) [-zA,-zB,-zC,-zD,-zE,hsn]
 have h':(i:Int)<E.l.length:=by omega
 have hg : ∀ H,zpsc H 9 (E.dv 9 atC) i=some (.ref (atC E.l[i])):=fun H=>zalo zu2q h
 have hs:(E.l.take (i+1)).map (vtS s)=(E.l.take i).map (vtS s)++[vtS s E.l[i]]:=by rw [y03 h,y0i]; rfl
 have hlen:((E.l.take i).map (vtS s)).length≤20:=by rw [y02,y0c]; omega
 obtain ⟨x,hx⟩ : ∃ x,E.l[i]=x:=⟨_,rfl⟩
 rw [hx] at hg hs
 obtain ⟨L,hL⟩ : ∃ L,(E.l.take i).map (vtS s)=L:=⟨_,rfl⟩
 rw [hL] at hs hlen ⊢
 have hTb : ∀ n,zlf2 n (oT voC L)=true:=fun n=>zd81 zc6g
 have hVb:Am.below (1+(oT voC L).length) (oV 1 4 L)=true:=zv6o
 have hVb':Am.below ((oT voC L).length+1) (oV 1 4 L)=true:=by rw [Nat.add_comm]; exact hVb
 have hap:=zte0 (k:=1) (b:=80) (l:=L) (x:=vtS s x) (h:=[AObj.cells (spC s)]) rfl zu4u (by decide) (by decide) (fun _=>z0cw) (by omega)
 simp only [y01,y05] at hap
 simp only [voC,vtS,lkC] at hap
 simp (disch:=first|omega|simp<;>omega|fail) [-zA,-zB,-zC,-zD,-zE,zcr2,z3id,h,h']
 refine zbn1 (V_W mix zh0h ?_)
 simp (disch:=first|omega|simp<;>omega|fail) [-zA,-zB,-zC,-zD,-zE,h,h']
 refine zbn1 (z3mo (zbn1 (V_W mix zh0h ?_)))
 simp (disch:=first|omega|simp<;>omega|fail) [-zA,-zB,-zC,-zD,-zE,hg]
 refine zs10 (H := .cells (spC s)::oT voC L) (cs:=atC x) (t':=[.junk,.junk,.mp 0 7 0,.junk,.junk,oV 1 4 L,.junk,.ref (atC x),.junk,.junk,E.dv 9 atC,.int .i64 E.l.length,.int .i64 i]++js 22) (by simp (disch:=first|omega|simp<;>omega|fail) [-zA,-zB,-zC,-zD,-zE,zlf2,hTb]) (by simp) ?_ (by simp (disch:=first|omega|simp<;>omega|fail) [-zA,-zB,-zC,-zD,-zE,belowL,Am.below,hVb',z8b8 _ _ (zu1r E)]) ?_
 ·have e1:=zz5t (H := .cells (spC s)::oT voC L) (cs:=atC x) (off:=0) (z83l x)
  have e2 : ∀ h,mk1 (kLt ((AObj.cells (spC s)::oT voC L).length)) h (oV 1 4 L)=oV 1 4 L:=fun h=>zd3c (by rw [y06]; exact hVb')
  have e3 : ∀ h,mk1 (kLt ((AObj.cells (spC s)::oT voC L).length)) h (.mp 0 7 0) = .mp 0 7 0:=fun h=>zd3c (by simp [Am.below])
  have e4 : ∀ K h,mk1 K h (E.dv 9 atC)=E.dv 9 atC:=fun K h=>zvft (zu1r E)
  simp only [y01,y06,zu2q,y0d] at e1 e2 e3
  simp (disch:=first|omega|simp<;>omega|fail) [-zA,-zB,-zC,-zD,-zE,e1,e2,e3,e4]
 refine V_W mix zh0h ?_
 simp (disch:=first|omega|simp<;>omega|fail) [-zA,-zB,-zC,-zD,-zE,zkpj,z7jb,zh1e,zwo7,hap]
 refine V_W mix zh0h ?_
 simp (disch:=first|omega|simp<;>omega|fail) [-zA,-zB,-zC,-zD,-zE]
 exact ⟨i+1,z515 (by simp (disch:=first|omega|simp<;>omega|fail) [-zA,-zB,-zC,-zD,-zE,S940,z3id,hs,vtS]) (by simp (disch:=first|omega|simp<;>omega|fail) [-zA,-zB,-zC,-zD,-zE,S940,z3id,hs,vtS]),by omega,by omega⟩
noncomputable def cVot:List DV→Option DV:=con (fun a:Spc × Sl Att=>a.2.l.length≤20) (fun a:Spc × Sl Att=>[.agg (spC a.1),a.2.dv 9 atC]) (fun a=>(ownN (votS a.1 a.2.l)).dv 4 voC)
theorem zgda {s:Spc} {l:Sl Att} (h:l.l.length≤20):cVot [.agg (spC s),l.dv 9 atC]=some ((ownN (votS s l.l)).dv 4 voC) :=
 zzno (A:=fun a:Spc × Sl Att=>a.2.l.length≤20) (f:=fun a:Spc × Sl Att=>[.agg (spC a.1),a.2.dv 9 atC]) (g:=fun a=>(ownN (votS a.1 a.2.l)).dv 4 voC) (by
  rintro ⟨a,b⟩ ⟨c,d⟩ e
  simp only [List.cons.injEq,DV.agg.injEq,and_true] at e
  rw [z1d3 e.1,z965 e.2]) (s,l) h
theorem zcdr:(Con.pure cVot).Sound P 33:=z2au fun a h=>znz9 Try.func33 zojn (zcmx a.1 a.2 h)
end
section
set_option linter.unusedSimpArgs false
set_option linter.unusedVariables false
open Go Go.Am
def vKey (v:Vot):List Ent × List Ent:=(v.lnk.m.l,v.lnk.p.l)
def ownF (a b:Vot):Bool:=decide (a.own=b.own)
def keyF (a b:Vot):Bool:=decide (vKey a=vKey b)
theorem zf7y {a b:Vot}:zxyz a.lnk b.lnk=keyF a b:=by
 unfold zxyz keyF vKey
 by_cases h1:a.lnk.m.l=b.lnk.m.l<;>by_cases h2:a.lnk.p.l=b.lnk.p.l<;>simp [h1,h2]
theorem zagl (a b:Vot):Runs tbl0 a34 [.agg (voC a),.agg (voC b)] (.bool (ownF a b)):=by
 refine ⟨?_⟩
 unfold ownF
 by_cases h:a.own=b.own
 ·simp (disch:=first|omega|simp<;>omega|fail) [-zA,-zB,-zC,-zD,-zE,a34,h]
 ·simp (disch:=first|omega|simp<;>omega|fail) [-zA,-zB,-zC,-zD,-zE,a34,h]
noncomputable def T950:Tbl:=addT 21 (.pure cSmL) tbl0
theorem zwmo:T950 21 = .pure cSmL:=by simp [T950]
theorem zlbs:T950.Sound P:=z0rp zijq zr5o
theorem z94g (a b:Vot):Runs T950 a37 [.agg (voC a),.agg (voC b)] (.bool (keyF a b)):=by
 refine ⟨?_⟩
 have h:=zfc5 (a:=a.lnk) (b:=b.lnk)
 rw [zf7y] at h
 simp (disch:=first|omega|simp<;>omega|fail) [-zA,-zB,-zC,-zD,-zE,a37,zwmo,h]
noncomputable def cC1:List DV→Option DV:=con (fun _=>True) (fun a:Vot × Vot=>[.agg (voC a.1),.agg (voC a.2)]) (fun a => .bool (ownF a.1 a.2))
noncomputable def cC3:List DV→Option DV:=con (fun _=>True) (fun a:Vot × Vot=>[.agg (voC a.1),.agg (voC a.2)]) (fun a => .bool (keyF a.1 a.2))
theorem z0pp {a b c d:Vot} (e:[DV.agg (voC a),.agg (voC b)]=[.agg (voC c),.agg (voC d)]):a=c∧b=d:=by
 simp only [List.cons.injEq,DV.agg.injEq,and_true] at e
 exact ⟨zkbi e.1,zkbi e.2⟩
noncomputable def F1:SF:=⟨34,ownF,cC1,fun a b=>zsn4 (f:=fun a:Vot × Vot=>[.agg (voC a.1),.agg (voC a.2)]) (g:=fun a => .bool (ownF a.1 a.2)) (by
 rintro ⟨a,b⟩ ⟨c,d⟩ e
 obtain ⟨rfl,rfl⟩:=z0pp e; rfl) (a,b),z2au fun (a:Vot × Vot) _=>zljw mix zr5o Try.func34 zk28 (zagl a.1 a.2)⟩
noncomputable def F3:SF:=⟨37,keyF,cC3,fun a b=>zsn4 (f:=fun a:Vot × Vot=>[.agg (voC a.1),.agg (voC a.2)]) (g:=fun a => .bool (keyF a.1 a.2)) (by
 rintro ⟨a,b⟩ ⟨c,d⟩ e
 obtain ⟨rfl,rfl⟩:=z0pp e; rfl) (a,b),z2au fun (a:Vot × Vot) _=>zljw mix zlbs Try.func37 z554 (z94g a.1 a.2)⟩
theorem znwp:F1.dv = .fn (.func 34) [] []:=rfl
theorem zpo2:F3.dv = .fn (.func 37) [] []:=rfl
def difH (g:Sl Vot) (v:Vot):Bool:=match g.l with
 | []=>false
 | w::_ => !decide (vKey v=vKey w)
theorem zfex (g:Sl Vot) (v:Vot) (hg:g.l≠[]):Runs T950 a36 [.agg (voC v),.ref [g.dv 4 voC]] (.bool (difH g v)):=by
 refine ⟨?_⟩
 cases e:g.l with
 | nil=>exact absurd e hg
 | cons w r =>
  have hi : ∀ H,zpsc H 4 (g.dv 4 voC) 0=some (.ref (voC w)):=fun H=>by
   have:=zalo (h:=H) (x:=g) (i:=0) zu4u (by rw [e]; simp)
   rw [show ((0:Nat):Int)=0 from rfl] at this
   rw [this]; simp [e]
  have h:=zfc5 (a:=v.lnk) (b:=w.lnk)
  rw [zf7y] at h
  have hr:difH g v = !keyF v w:=by unfold difH keyF; rw [e]
  simp (disch:=first|omega|simp<;>omega|fail) [-zA,-zB,-zC,-zD,-zE,a36,hi,zwmo,h,hr]
noncomputable def cC2:List DV→Option DV:=con (fun a:Sl Vot × Vot=>a.1.l≠[]) (fun a=>[.agg (voC a.2),.ref [a.1.dv 4 voC]]) (fun a => .bool (difH a.1 a.2))
theorem zf6o {g:Sl Vot} {v:Vot} (h:g.l≠[]):cC2 [.agg (voC v),.ref [g.dv 4 voC]]=some (.bool (difH g v)) :=
 zzno (A:=fun a:Sl Vot × Vot=>a.1.l≠[]) (f:=fun a:Sl Vot × Vot=>[.agg (voC a.2),.ref [a.1.dv 4 voC]]) (g:=fun a => .bool (difH a.1 a.2)) (by
  rintro ⟨a,b⟩ ⟨c,d⟩ e
  simp only [List.cons.injEq,DV.agg.injEq,DV.ref.injEq,and_true] at e
  rw [zkbi e.1,z22s e.2]) (g,v) h
theorem z0w6:(Con.pure cC2).Sound P 36:=z2au fun a h=>zljw mix zlbs Try.func36 zj68 (zfex a.1 a.2 h)
noncomputable def T951:Tbl:=addT 36 (.pure cC2) tbl0
theorem zqyt:T951 36 = .pure cC2:=by simp [T951]
theorem zksh:T951.Sound P:=z0rp z0w6 zr5o
def c2fn (g:Sl Vot):DV := .fn (.func 36) [] [.ref [g.dv 4 voC]]
def S951 (x g:Sl Vot) (i:Nat):St:=zyvq (x.dv 4 voC) (c2fn g) (.int .i64 x.l.length) (.int .i64 i) []
theorem zzhn (x g:Sl Vot) (hx:g.l≠[]):Runs T951 a61 [x.dv 4 voC,c2fn g] (.int .i64 (fIx (difH g) x.l)):=by
 refine ⟨?_⟩
 have hb:=x.b
 simp (disch:=first|omega|simp<;>omega|fail) [-zA,-zB,-zC,-zD,-zE,a61]
 refine zlm5 (S951 x g) (fun i=>x.l.length-i) (fun i=>i≤x.l.length ∧ ∀ j (h:j<x.l.length),j<i→difH g x.l[j]=false) 0 (z515 (by simp (disch:=first|omega|simp<;>omega|fail) [-zA,-zB,-zC,-zD,-zE,S951,zyvq]) (by simp (disch:=first|omega|simp<;>omega|fail) [-zA,-zB,-zC,-zD,-zE,S951,zyvq])) ⟨by omega,fun j _ hj=>by omega⟩ (fun i hi => ?_)
 obtain ⟨q1,q2⟩:=hi
 simp only [S951]
 by_cases q:i<x.l.length
 ·have g':(i:Int)<x.l.length:=by omega
  have hy : ∀ H,zpsc H 4 (x.dv 4 voC) i=some (.ref (voC x.l[i])):=fun H=>zalo zu4u q
  have hc:=zf6o (v:=x.l[i]) hx
  have hinv:difH g x.l[i]=false → ∀ j (h:j<x.l.length),j<i+1→difH g x.l[j]=false:=fun e j hj hji=>by
   by_cases ej:j=i
   ·subst ej; exact e
   ·exact q2 j hj (by omega)
  have hr:difH g x.l[i]=true→fIx (difH g) x.l=i:=fun e=>z67l q e q2
  obtain ⟨u,hu⟩ : ∃ u,x.l[i]=u:=⟨_,rfl⟩
  rw [hu] at hy hc hinv hr
  cases e:difH g u with
  | true =>
   have hr:=hr e
   rw [e] at hc
   simp (disch:=first|omega|simp<;>omega|fail) [-zA,-zB,-zC,-zD,-zE,zx3n,zyvq,q,g',hy,zhol,c2fn,zqyt,hc,hr,znfs]
  | false =>
   have hinv:=hinv e
   rw [e] at hc
   simp (disch:=first|omega|simp<;>omega|fail) [-zA,-zB,-zC,-zD,-zE,zx3n,zyvq,q,g',hy,zhol,c2fn,zqyt,hc,znfs]
   exact ⟨i+1,z515 (by simp (disch:=first|omega|simp<;>omega|fail) [-zA,-zB,-zC,-zD,-zE,S951,zyvq,c2fn]) (by simp (disch:=first|omega|simp<;>omega|fail) [-zA,-zB,-zC,-zD,-zE,S951,zyvq]),by omega,by omega,fun j h hj=>by simpa using hinv j h hj⟩
 ·have g':¬ (i:Int)<x.l.length:=by omega
  have hr:fIx (difH g) x.l = -1:=zf0r fun a ha=>by
   obtain ⟨j,hj,e⟩:=y0e ha
   have:=q2 j hj (by omega)
   rw [e] at this; exact this
  simp (disch:=first|omega|simp<;>omega|fail) [-zA,-zB,-zC,-zD,-zE,zx3n,zyvq,q,g',hr]
theorem z75j {a b c d:Sl Vot} (e:[a.dv 4 voC,c2fn b]=[c.dv 4 voC,c2fn d]):a=c∧b=d:=by
 simp only [List.cons.injEq,c2fn,DV.fn.injEq,DV.ref.injEq,and_true,true_and] at e
 exact ⟨z22s e.1,z22s e.2⟩
noncomputable def cVix:List DV→Option DV:=con (fun a:Sl Vot × Sl Vot=>a.2.l≠[]) (fun a=>[a.1.dv 4 voC,c2fn a.2]) (fun a => .int .i64 (fIx (difH a.2) a.1.l))
theorem zrjl {x g:Sl Vot} (h:g.l≠[]):cVix [x.dv 4 voC,c2fn g]=some (.int .i64 (fIx (difH g) x.l)) :=
 zzno (A:=fun a:Sl Vot × Sl Vot=>a.2.l≠[]) (f:=fun a:Sl Vot × Sl Vot=>[a.1.dv 4 voC,c2fn a.2]) (g:=fun a => .int .i64 (fIx (difH a.2) a.1.l)) (by
  rintro ⟨a,b⟩ ⟨c,d⟩ e
  obtain ⟨rfl,rfl⟩:=z75j e; rfl) (x,g) h
theorem z7po:(Con.pure cVix).Sound P 61:=z2au fun a h=>zljw mix zksh Try.func61 zuuw (zzhn a.1 a.2 h)
noncomputable def T952:Tbl:=addT 61 (.pure cVix) tbl0
theorem zuew:T952 61 = .pure cVix:=by simp [T952]
theorem zu1a:T952.Sound P:=z0rp z7po zr5o
theorem z8ez {α:Type} (p:α→Bool) (l:List α):decide (0≤fIx p l)=l.any p:=by
 rcases za4c p l with ⟨h,h2⟩|⟨i,hi,h,h2,_⟩
 ·have:l.any p=false:=by rw [List.any_eq_false]; exact fun x hx=>by rw [h2 x hx]; simp
  rw [this,h]; simp
 ·have:l.any p=true:=List.any_eq_true.2 ⟨l[i],y08 hi,h2⟩
  rw [this,h]; simp
theorem z3k4 {g:Sl Vot}:g.l.any (difH g)=badG vKey g.l:=by
 cases e:g.l with
 | nil=>rfl
 | cons w r =>
  have:difH g=fun v => !decide (vKey v=vKey w):=funext fun v=>by unfold difH; rw [e]
  rw [this]; rfl
theorem zlqz (g:Sl Vot) (hx:g.l≠[]):Runs T952 a35 [g.dv 4 voC,c2fn g] (.bool (badG vKey g.l)):=by
 refine ⟨?_⟩
 have h:=zrjl (x:=g) hx
 have h2:=z8ez (difH g) g.l
 rw [z3k4] at h2
 obtain ⟨k,hk⟩ : ∃ k,fIx (difH g) g.l=k:=⟨_,rfl⟩
 rw [hk] at h h2
 have hp:zyp8 (c2fn g)=true:=by simp [c2fn,zyp8,zbao,znfs]
 rw [← h2]
 by_cases e:0≤k
 ·simp (disch:=first|omega|simp<;>omega|fail) [-zA,-zB,-zC,-zD,-zE,a35,zuew,h,hp,znfs,e]
 ·simp (disch:=first|omega|simp<;>omega|fail) [-zA,-zB,-zC,-zD,-zE,a35,zuew,h,hp,znfs,e]
noncomputable def cVcf:List DV→Option DV:=con (fun g:Sl Vot=>g.l≠[]) (fun g=>[g.dv 4 voC,c2fn g]) (fun g => .bool (badG vKey g.l))
theorem za00 {g:Sl Vot} (h:g.l≠[]):cVcf [g.dv 4 voC,c2fn g]=some (.bool (badG vKey g.l)) :=
 zzno (A:=fun g:Sl Vot=>g.l≠[]) (f:=fun g:Sl Vot=>[g.dv 4 voC,c2fn g]) (g:=fun g => .bool (badG vKey g.l)) (by
  rintro a b e
  obtain ⟨rfl,_⟩:=z75j e; rfl) g h
theorem zb7s:(Con.pure cVcf).Sound P 35:=z2au fun a h=>zljw mix zu1a Try.func35 zxwh (zlqz a h)
end
section
set_option linter.unusedSimpArgs false
set_option linter.unusedVariables false
open Go Go.Am
section
variable {α:Type} {f:α→List DV} {K:Nat}
theorem zwbu {k:Nat} {l:List α} {h r:List AObj} (hp:h.length=k) (hu : ∀ a,(f a).length=K) (e:l≠[]):objV (h++(oT f l++r)) k (l.length*K)=some (fl f l):=by
 rw [zu2l e]
 unfold objV ziu0
 rw [List.getElem?_append_right (by omega),show k-h.length=0 by omega]
 simp [z8lx hu]
theorem zjkm {k b:Nat} {l:List α} {x:α} {h r:List AObj} (hp:h.length=k) (hu : ∀ a,(f a).length=K) (h0:0<K) (hb:b≤16384) (ha : ∀ a,(f a).all DV.one=true) (hbig:l.length+1≤4294967296) (e:l≠[]) :
  appX (h++(oT f l++r)) K b (oV k K l) 1 (f x)=some (oV k K (l++[x]),h++(oT f (l++[x])++r)):=by
 have ho:=zwbu (r:=r) (f:=f) hp hu e
 have:=zkg3 (h:=h++(oT f l++r)) (id:=k) (b:=b) (l:=l) (x:=x) hu h0 hb ha hbig ho
 rw [zpni e,this,zpni (by simp),zu2l e,zu2l (by simp),y0g,y1a _ _ (by omega),show k-h.length=0 by omega]
 simp
theorem zlgn {l:List α} (e:l≠[]):(oT f l).length=1:=by rw [zu2l e]; rfl
theorem z2a4 {k n:Nat} {l:List α} {h r:List AObj} (hp:h.length=k) (hk:n≤k) (hu : ∀ a,(f a).length=K) (hf : ∀ a,zbao (f a)=true) (hb:l.length≤4294967296):mk1 (kLt n) (h++(oT f l++r)) (oV k K l)=(ownN l).dv K f:=by
 by_cases e:l=[]
 ·subst e; rw [zl8p,z2i7]; exact zhx5
 ·refine zwy6 ?_
  have ho:=zwbu (r:=r) (f:=f) hp hu e
  rw [zpni e,zi9r,if_neg (by simp [kLt]; omega),ho,y0h,y0d,z590 hu,y14,zl6f (zp6k hf _),zgr3 e hb]; rfl
end
structure CI where
 f:Bool
 S:List Vot
 Q:List Str
def CI.H (c:CI):List AObj:=if c.f then oT voC c.S++oT stC c.Q else oT stC c.Q++oT voC c.S
def CI.sv (c:CI):DV:=oV (if c.f then 1 else 1+(oT stC c.Q).length) 4 c.S
def CI.qv (c:CI):DV:=oV (if c.f then 1+(oT voC c.S).length else 1) 1 c.Q
structure CI.Ok (c:CI):Prop where
 a:c.f=true→c.S=[]→c.Q=[]
 b:c.f=false→c.Q=[]→c.S=[]
def CI.adS (c:CI) (x:Vot):CI:=⟨if c.Q=[] then true else c.f,c.S++[x],c.Q⟩
def CI.adQ (c:CI) (y:Str):CI:=⟨if c.S=[] then false else c.f,c.S,c.Q++[y]⟩
theorem zlxs (y:Str):(stC y).all DV.one=true:=rfl
theorem CI.app_S {c:CI} (g:c.Ok) {o:AObj} {x:Vot} (hb:c.S.length+1≤4294967296):appX (o::c.H) 4 80 c.sv 1 (voC x)=some ((c.adS x).sv,o::(c.adS x).H)∧(c.adS x).qv=c.qv∧(c.adS x).Ok:=by
 obtain ⟨f,S,Q⟩:=c
 by_cases hQ:Q=[]
 ·subst hQ
  have e:=zte0 (k:=1) (b:=80) (l:=S) (x:=x) (h:=[o]) rfl zu4u (by decide) (by decide) (fun _=>z0cw) hb
  simp only [y01,y05] at e
  refine ⟨?_,?_,⟨fun _ h=>by simp [adS] at h,fun h _=>by simp [adS] at h⟩⟩
  ·cases f<;>simp [adS,H,sv,zkrk,e]
  ·cases f<;>simp [adS,qv,zl8p]
 ·cases f with
  | true =>
   have hS:S≠[]:=fun e=>hQ (g.a rfl e)
   have e:=zjkm (k:=1) (b:=80) (l:=S) (x:=x) (h:=[o]) (r:=oT stC Q) rfl zu4u (by decide) (by decide) (fun _=>z0cw) hb hS
   simp only [y01,y05] at e
   refine ⟨by simp [adS,H,sv,e],by simp [adS,qv,zlgn hS,zlgn (show S++[x]≠[] by simp)],⟨fun _ h=>by simp [adS] at h,fun h _=>by simp [adS,hQ] at h⟩⟩
  | false =>
   have e:=zte0 (k:=1+(oT stC Q).length) (b:=80) (l:=S) (x:=x) (h:=o::oT stC Q) (by simp; omega) zu4u (by decide) (by decide) (fun _=>z0cw) hb
   simp only [y01] at e
   refine ⟨by simp [adS,H,sv,e,hQ],by simp [adS,qv,hQ],⟨fun _ h=>by simp [adS] at h,fun _ h=>absurd h hQ⟩⟩
theorem CI.app_Q {c:CI} (g:c.Ok) {o:AObj} {y:Str} (hb:c.Q.length+1≤4294967296):appX (o::c.H) 1 16 c.qv 1 [.str y]=some ((c.adQ y).qv,o::(c.adQ y).H)∧(c.adQ y).sv=c.sv∧(c.adQ y).Ok:=by
 obtain ⟨f,S,Q⟩:=c
 by_cases hS:S=[]
 ·subst hS
  have e:=zte0 (f:=stC) (k:=1) (b:=16) (l:=Q) (x:=y) (h:=[o]) rfl (fun _=>rfl) (by decide) (by decide) zlxs hb
  rw [show stC y=[DV.str y] from rfl] at e
  simp only [y01,y05] at e
  refine ⟨?_,?_,⟨fun h _=>by simp [adQ] at h,fun _ h=>by simp [adQ] at h⟩⟩
  ·cases f<;>simpa [adQ,H,qv,zkrk] using e
  ·cases f<;>simp [adQ,sv,zl8p]
 ·cases f with
  | false =>
   have hQ:Q≠[]:=fun e=>hS (g.b rfl e)
   have e:=zjkm (f:=stC) (k:=1) (b:=16) (l:=Q) (x:=y) (h:=[o]) (r:=oT voC S) rfl (fun _=>rfl) (by decide) (by decide) zlxs hb hQ
   rw [show stC y=[DV.str y] from rfl] at e
   simp only [y01,y05] at e
   refine ⟨by simpa [adQ,H,qv] using e,by simp [adQ,sv,zlgn hQ,zlgn (show Q++[y]≠[] by simp)],⟨fun h _=>by simp [adQ,hS] at h,fun _ h=>by simp [adQ] at h⟩⟩
  | true =>
   have e:=zte0 (f:=stC) (k:=1+(oT voC S).length) (b:=16) (l:=Q) (x:=y) (h:=o::oT voC S) (by simp; omega) (fun _=>rfl) (by decide) (by decide) zlxs hb
   rw [show stC y=[DV.str y] from rfl] at e
   simp only [y01] at e
   refine ⟨by simpa [adQ,H,qv,hS] using e,by simp [adQ,sv,hS],⟨fun _ h=>absurd h hS,fun _ h=>by simp [adQ] at h⟩⟩
theorem z0tx (a:Str):zbao (stC a)=true:=rfl
theorem CI.H_below {c:CI} {n:Nat}:zlf2 n c.H=true:=by
 unfold CI.H
 have h1:zlf2 n (oT voC c.S)=true:=zd81 zc6g
 have h2:zlf2 n (oT stC c.Q)=true:=zd81 z0tx
 have ap : ∀ a b:List AObj,zlf2 n a=true→zlf2 n b=true→zlf2 n (a++b)=true:=by
  intro a b ha hb
  induction a with
  | nil=>exact hb
  | cons o r ih =>
   cases o with
   | cells cs=>simp only [y01,zlf2,y13] at ha ⊢; exact ⟨ha.1,ih ha.2⟩
   | dead=>simp only [y01,zlf2] at ha ⊢; exact ih ha
 split
 ·exact ap _ _ h1 h2
 ·exact ap _ _ h2 h1
theorem CI.sv_below {c:CI}:Am.below (c.H.length+1) c.sv=true:=by
 obtain ⟨f,S,Q⟩:=c
 by_cases e:S=[]
 ·subst e; rfl
 ·have:=zlgn (f:=voC) e
  cases f<;>simp [CI.H,CI.sv,zpni e,Am.below,this]<;>omega
theorem CI.qv_below {c:CI}:Am.below (c.H.length+1) c.qv=true:=by
 obtain ⟨f,S,Q⟩:=c
 by_cases e:Q=[]
 ·subst e; cases f<;>rfl
 ·have:=zlgn (f:=stC) e
  cases f<;>simp [CI.H,CI.qv,zpni e,Am.below,this]<;>omega
theorem CI.sv_mk {c:CI} {o:AObj} (hb:c.S.length≤4294967296):mk1 (kLt 1) (o::c.H) c.sv=(ownN c.S).dv 4 voC:=by
 obtain ⟨f,S,Q⟩:=c
 cases f with
 | true =>
  have:=z2a4 (k:=1) (n:=1) (l:=S) (h:=[o]) (r:=oT stC Q) rfl (by decide) zu4u zc6g hb
  simpa [CI.H,CI.sv] using this
 | false =>
  have:=z2a4 (k:=1+(oT stC Q).length) (n:=1) (l:=S) (h:=o::oT stC Q) (r:=[]) (by simp; omega) (by omega) zu4u zc6g hb
  simpa [CI.H,CI.sv] using this
theorem CI.qv_mk {c:CI} {o:AObj} (hb:c.Q.length≤4294967296):mk1 (kLt 1) (o::c.H) c.qv=(ownN c.Q).dv 1 stC:=by
 obtain ⟨f,S,Q⟩:=c
 cases f with
 | false =>
  have:=z2a4 (f:=stC) (K:=1) (k:=1) (n:=1) (l:=Q) (h:=[o]) (r:=oT voC S) rfl (by decide) (fun _=>rfl) z0tx hb
  simpa [CI.H,CI.qv] using this
 | true =>
  have:=z2a4 (f:=stC) (K:=1) (k:=1+(oT voC S).length) (n:=1) (l:=Q) (h:=o::oT voC S) (r:=[]) (by simp; omega) (by omega) (fun _=>rfl) z0tx hb
  simpa [CI.H,CI.qv] using this
theorem zy4i {P:Program} {n0:Nat} {x:ACode} {Φ:AExit→St→Prop} {t t':List DV} {o:AObj} {cs:List DV} {r:List AObj} (ho:o = .cells cs) (hp:zbao cs=true) (hn:n0≤1)
  (ht:znqe (mkL (kLt 1) (o::r) t) t') (hb:belowL 1 t'=true) (h:V P n0 x Φ ⟨t',[o]⟩):V P n0 x Φ ⟨t,o::r⟩:=by
 subst ho
 refine V_mk (kLt 1) ?_
 rw [ztik,if_pos (by simp [kLt]),zrip hp]
 exact zqfd (zju2 (h':=[.cells cs]) (tail:=mkO (kLt 1) (.cells cs::r) 1 r) ht rfl (by simpa using hn) hb (by simp [zlf2,zmq5 _ _ hp])) h
end
section
set_option linter.unusedSimpArgs false
set_option linter.unusedVariables false
open Go Go.Am
def sngL (L:List (Sl Vot)):List Vot:=(L.filter fun g => !badG vKey g.l).filterMap fun g=>g.l.head?
def eqvL (L:List (Sl Vot)):List Str:=(L.filter fun g=>badG vKey g.l).filterMap fun g=>g.l.head?.map Vot.own
theorem z76h {L:List (Sl Vot)} {g:Sl Vot} {w:Vot} {r:List Vot} (h:g.l=w::r):sngL (L++[g])=sngL L++(if badG vKey g.l then [] else [w]):=by
 unfold sngL
 rw [y10,y1d]
 cases q:badG vKey g.l<;>rw [y0v,q]<;>simp [h]
theorem zcag {L:List (Sl Vot)} {g:Sl Vot} {w:Vot} {r:List Vot} (h:g.l=w::r):eqvL (L++[g])=eqvL L++(if badG vKey g.l then [w.own] else []):=by
 unfold eqvL
 rw [y10,y1d]
 cases q:badG vKey g.l<;>rw [y0v,q]<;>simp [h]
theorem zuz9 (L:List (Sl Vot)):(sngL L).length≤L.length:=y1f (y16 _ _) (y0w _ _)
theorem zc5h (L:List (Sl Vot)):(eqvL L).length≤L.length:=y1f (y16 _ _) (y0w _ _)
theorem zylz {y:Str}:bslD 1 1 [.str []] [(0,1,.str y)]=some (.sl true 1 1 [.str y]):=by
 simp [bslD,zi03,zk7y,reps,rep]
noncomputable def T954:Tbl:=addT 35 (.pure cVcf) tbl0
theorem zu7v:T954 35 = .pure cVcf:=by simp [T954]
theorem zslj:T954.Sound P:=z0rp zb7s zr5o
structure CJ where
 c:CI
 i:Nat
def S954 (s:Spc) (G:Sl (Sl Vot)) (a:CJ):St:=z6m2 a.c.sv a.c.qv (G.dv 1 gC) (.int .i64 G.l.length) (.int .i64 a.i) (.cells (spC s)::a.c.H)
structure CJok (G:Sl (Sl Vot)) (a:CJ):Prop where
 hi:a.i≤G.l.length
 ok:a.c.Ok
 s:a.c.S=sngL (G.l.take a.i)
 q:a.c.Q=eqvL (G.l.take a.i)
theorem zh6a {s:Spc} {G:Sl (Sl Vot)} (hG:G.l.length≤20) (hne : ∀ g ∈ G.l,g.l≠[]) {Φ:AExit→St→Prop} (a:CJ) (ha:CJok G a)
  (hexit : ∀ c:CI,c.Ok→c.S=sngL G.l→c.Q=eqvL G.l→Φ (.exit 0) ⟨js 6++[c.sv,c.qv]++js 69,.cells (spC s)::c.H⟩)
  (hw : ∀ st st',Weak 0 st st'→Φ (.exit 0) st'→Φ (.exit 0) st) :
  V P 0 z9ex (z13e 0 (S954 s G) (fun a=>G.l.length-a.i) (CJok G) a Φ) (S954 s G a):=by
 obtain ⟨hi,ok,hs,hq⟩:=ha
 simp only [S954]
 refine zbn1 (V_W mix zslj ?_)
 by_cases h:a.i<G.l.length
 case neg =>
  have h':¬ (a.i:Int)<G.l.length:=by omega
  rw [y00 (show G.l.length≤a.i by omega)] at hs hq
  have hx:=hexit a.c ok hs hq
  simp (disch:=first|omega|simp<;>omega|fail) [-zA,-zB,-zC,-zD,-zE,z9ex,z6m2,h,h']
  refine zbn1 (V_W mix zslj ?_)
  simp (disch:=first|omega|simp<;>omega|fail) [-zA,-zB,-zC,-zD,-zE,h,h']
  refine hw _ _ (z515 ?_ rfl) hx
  simp (disch:=first|omega|simp<;>omega|fail) [-zA,-zB,-zC,-zD,-zE]
 have h':(a.i:Int)<G.l.length:=by omega
 have hg : ∀ H,zpsc H 1 (G.dv 1 gC) a.i=some (.ref (gC G.l[a.i])):=fun H=>zalo zfnv h
 have hgne:=hne _ (y08 h)
 have e1:=y03 h
 obtain ⟨g,hgg⟩ : ∃ g,G.l[a.i]=g:=⟨_,rfl⟩
 rw [hgg] at hg hgne e1
 obtain ⟨w,r,hwr⟩ : ∃ w r,g.l=w::r:=by
  cases e:g.l with
  | nil=>exact absurd e hgne
  | cons w r=>exact ⟨w,r,rfl⟩
 have hsn:=z76h (L:=G.l.take a.i) hwr
 have hqn:=zcag (L:=G.l.take a.i) hwr
 rw [← e1,← hs] at hsn
 rw [← e1,← hq] at hqn
 have hlS:a.c.S.length≤20:=by have:=zuz9 (G.l.take a.i); rw [← hs,y0c] at this; omega
 have hlQ:a.c.Q.length≤20:=by have:=zc5h (G.l.take a.i); rw [← hq,y0c] at this; omega
 have hHb : ∀ n,zlf2 n a.c.H=true:=fun n=>CI.H_below
 have hsb:Am.below (a.c.H.length+1) a.c.sv=true:=CI.sv_below
 have hqb:Am.below (a.c.H.length+1) a.c.qv=true:=CI.qv_below
 have apS:=CI.app_S ok (o := .cells (spC s)) (x:=w) (by omega)
 have apQ:=CI.app_Q ok (o := .cells (spC s)) (y:=w.own) (by omega)
 have hz : ∀ H,zpsc H 4 (g.dv 4 voC) 0=some (.ref (voC w)):=fun H=>by
  have:=zalo (h:=H) (x:=g) (i:=0) zu4u (by rw [hwr]; simp)
  rw [show ((0:Nat):Int)=0 from rfl] at this
  rw [this]; simp [hwr]
 have hcf:=za00 hgne
 have hpc:zyp8 (c2fn g)=true:=by simp [c2fn,zyp8,zbao,znfs]
 simp only [c2fn] at hcf hpc
 obtain ⟨c,i⟩:=a
 simp only at *
 have fin : ∀ c':CI,c'.Ok→c'.S=sngL (G.l.take (i+1))→c'.Q=eqvL (G.l.take (i+1)) → ∀ H,H = .cells (spC s)::c'.H→V P 0 (.region false [⟨none,(some 41),.bin .add (.t 21) (.k (.int .i64 1))⟩,⟨none,(some 21),.mov (.t 41)⟩]) (z13e 0 (S954 s G) (fun a=>G.l.length-a.i) (CJok G) ⟨c,i⟩ Φ) ⟨js 6++[c'.sv,c'.qv]++js 11++[G.dv 1 gC,.int .i64 G.l.length,.int .i64 i]++js 55,H⟩:=fun c' k1 k2 k3 H hH=>by
  subst hH
  refine V_W mix zslj ?_
  simp (disch:=first|omega|simp<;>omega|fail) [-zA,-zB,-zC,-zD,-zE]
  exact ⟨⟨c',i+1⟩,z515 (by simp (disch:=first|omega|simp<;>omega|fail) [-zA,-zB,-zC,-zD,-zE,S954,z6m2]) (by simp (disch:=first|omega|simp<;>omega|fail) [-zA,-zB,-zC,-zD,-zE,S954,z6m2]),by simp only; omega,⟨by simp only; omega,k1,k2,k3⟩⟩
 simp (disch:=first|omega|simp<;>omega|fail) [-zA,-zB,-zC,-zD,-zE,z9ex,z6m2,h,h']
 refine zbn1 (V_W mix zslj ?_)
 simp (disch:=first|omega|simp<;>omega|fail) [-zA,-zB,-zC,-zD,-zE,h,h']
 refine zbn1 (z3mo (zbn1 (V_W mix zslj ?_)))
 have hst : ∀ (H:List AObj) (id:Nat),zy6o H id 1 0 (g.dv 4 voC) (some [.nils])=some (.junk,H.set id (.cells [g.dv 4 voC])):=fun H id=>by
  rw [Am.storeO_1 (zfr8 g) (z4ja g) (by simp)]; rfl
 simp (disch:=first|omega|simp<;>omega|fail) [-zA,-zB,-zC,-zD,-zE,hg,gC,hst]
 refine zs10 (H := .cells (spC s)::c.H) (cs:=[g.dv 4 voC]) (t':=js 6++[c.sv,c.qv,.junk,.ref [g.dv 4 voC]]++js 9++[G.dv 1 gC,.int .i64 G.l.length,.int .i64 i]++js 55) (by simp (disch:=first|omega|simp<;>omega|fail) [-zA,-zB,-zC,-zD,-zE,zlf2,hHb,z2i6]) (by simp) ?_ (by simp (disch:=first|omega|simp<;>omega|fail) [-zA,-zB,-zC,-zD,-zE,belowL,Am.below,hsb,hqb,z8b8 _ _ (zcsv G),z8b8 _ _ (znfs g)]) ?_
 ·have e1:=zz5t (H := .cells (spC s)::c.H) (cs:=[g.dv 4 voC]) (off:=0) (by simp [zbao,znfs])
  have e2 : ∀ h,mk1 (kLt ((AObj.cells (spC s)::c.H).length)) h c.sv=c.sv:=fun h=>zd3c (by rw [y06]; exact hsb)
  have e3 : ∀ h,mk1 (kLt ((AObj.cells (spC s)::c.H).length)) h c.qv=c.qv:=fun h=>zd3c (by rw [y06]; exact hqb)
  have e4 : ∀ K h,mk1 K h (G.dv 1 gC)=G.dv 1 gC:=fun K h=>zvft (zcsv G)
  simp only [y01,y06,List.length_nil,y0d] at e1 e2 e3
  simp (disch:=first|omega|simp<;>omega|fail) [-zA,-zB,-zC,-zD,-zE,e1,e2,e3,e4]
 refine zbn1 (V_W mix zslj ?_)
 simp (disch:=first|omega|simp<;>omega|fail) [-zA,-zB,-zC,-zD,-zE,zu7v,hcf,hpc,znfs]
 refine V_W mix zslj ?_
 cases hb:badG vKey g.l with
 | true =>
  rw [hb] at hsn hqn
  simp (disch:=first|omega|simp<;>omega|fail) [-zA,-zB,-zC,-zD,-zE,hz,z28l,zylz,apQ.1]
  refine zqfd (z515 ?_ rfl) (fin (c.adQ w.own) apQ.2.2 (by rw [hsn]; simp [CI.adQ]) (by rw [hqn]; simp [CI.adQ]) _ rfl)
  simp (disch:=first|omega|simp<;>omega|fail) [-zA,-zB,-zC,-zD,-zE,apQ.2.1]
 | false =>
  rw [hb] at hsn hqn
  simp (disch:=first|omega|simp<;>omega|fail) [-zA,-zB,-zC,-zD,-zE,hz,zhol,zifj,apS.1]
  refine zqfd (z515 ?_ rfl) (fin (c.adS w) apS.2.2 (by rw [hsn]; simp [CI.adS]) (by rw [hqn]; simp [CI.adS]) _ rfl)
  simp (disch:=first|omega|simp<;>omega|fail) [-zA,-zB,-zC,-zD,-zE,apS.2.1]
end
section
set_option linter.unusedSimpArgs false
set_option linter.unusedVariables false
open Go Go.Am
def agrG (g:Sl Vot):Agr:=match g.l with
 | []=>⟨⟨[],nilS,nilS⟩,nilS,nilS⟩
 | w::r=>⟨w.lnk,ownN ((w::r).map Vot.own),nilS⟩
def grp1 (V:List Vot):Sl (Sl Vot):=grpD (grpG ownF (zq4g vLt V))
def sng1 (V:List Vot):List Vot:=sngL (grp1 V).l
def eqv1 (V:List Vot):List Str:=eqvL (grp1 V).l
def grp2 (V:List Vot):Sl (Sl Vot):=grpD (grpG keyF (sng1 V))
def zj70 (V:List Vot):List Agr:=zq4g aLt ((grp2 V).l.map agrG)
def pA (a:Agr):(List Ent × List Ent) × List Str:=((a.lnk.m.l,a.lnk.p.l),a.owners.l)
abbrev vLss:=Op.bytesLess
theorem ze2e {V:List Vot} (h:V.length≤4294967296):(grp1 V).l=(agG vLss Vot.own V).map gSl∧(∀ g ∈ agG vLss Vot.own V,g≠[]∧g.length≤V.length)∧(agG vLss Vot.own V).length≤V.length:=by
 have h1:=ziua (s:=ownF) (zq4g vLt V)
 rw [zmgd] at h1
 exact ⟨zm38 (by have:=h1.2; omega),h1⟩
theorem zxae {α:Type} {p:List Vot→Bool} {f:List Vot→Option α} : ∀ {L:List (List Vot)},(∀ g ∈ L,g.length≤4294967296)→(((L.map gSl).filter fun g=>p g.l).filterMap fun g=>f g.l)=(L.filter p).filterMap f
 | [],_=>rfl
 | g::L,h=>by
  have hg:=z0ey (h g (by simp))
  have ih:=zxae (p:=p) (f:=f) (L:=L) fun g hg=>h g (by simp [hg])
  rw [y0f,y0v,y0v,hg]
  split
  ·rw [y0z,y0z,hg,ih]
  ·exact ih
theorem ze6f {V:List Vot} (h:V.length≤4294967296):sng1 V=sngP vLss Vot.own vKey V:=by
 obtain ⟨h1,h2,_⟩:=ze2e h
 unfold sng1 sngL sngP
 rw [h1]
 exact zxae (p:=fun g => !badG vKey g) (f:=fun g=>g.head?) fun g hg=>by have:=(h2 g hg).2; omega
theorem zz7g {V:List Vot} (h:V.length≤4294967296):eqv1 V=eqvR vLss Vot.own vKey V:=by
 obtain ⟨h1,h2,_⟩:=ze2e h
 rw [← z4t9 z3gj]
 unfold eqv1 eqvL eqvP
 rw [h1]
 exact zxae (p:=badG vKey) (f:=fun g=>g.head?.map Vot.own) fun g hg=>by have:=(h2 g hg).2; omega
theorem zz8u {V:List Vot} (h:V.length≤4294967296):(sng1 V).length≤V.length:=by
 obtain ⟨h1,h2,h3⟩:=ze2e h
 have:=zuz9 (grp1 V).l
 rw [h1,y02,← h1] at this
 unfold sng1; omega
theorem z131 {V:List Vot} (h:V.length≤4294967296):(eqv1 V).length≤V.length:=by
 obtain ⟨h1,h2,h3⟩:=ze2e h
 have:=zc5h (grp1 V).l
 rw [h1,y02,← h1] at this
 unfold eqv1; omega
theorem zubd {V:List Vot} (h:V.length≤4294967296) : ∀ g ∈ (grp1 V).l,g.l≠[]:=fun g hg=>by
 obtain ⟨h1,h2,_⟩:=ze2e h
 rw [h1,y0r] at hg
 obtain ⟨w,hw,rfl⟩:=hg
 have:=h2 w hw
 rw [z0ey (by omega)]; exact this.1
theorem zpmy {V:List Vot} (h:V.length≤4294967296):(grp2 V).l=(grpG keyF (sng1 V)).map gSl∧(∀ g ∈ grpG keyF (sng1 V),g≠[]∧g.length≤V.length)∧(grpG keyF (sng1 V)).length≤V.length:=by
 have h0:=zz8u h
 have h1:=ziua (s:=keyF) (sng1 V)
 exact ⟨zm38 (by have:=h1.2; omega),fun g hg=>⟨(h1.1 g hg).1,by have:=(h1.1 g hg).2; omega⟩,by have:=h1.2; omega⟩
theorem zw6n {V:List Vot} (h:V.length≤4294967296) : ∀ g ∈ (grp2 V).l,g.l≠[]∧g.l.length≤V.length:=fun g hg=>by
 obtain ⟨h1,h2,_⟩:=zpmy h
 rw [h1,y0r] at hg
 obtain ⟨w,hw,rfl⟩:=hg
 have:=h2 w hw
 rw [z0ey (by omega)]; exact this
theorem zcnw {V:List Vot} (h:V.length≤4294967296):(grp1 V).l.length≤V.length:=by
 obtain ⟨h1,_,h3⟩:=ze2e h
 rw [h1,y02]; exact h3
theorem znbr {V:List Vot} (h:V.length≤4294967296):(grp2 V).l.length≤V.length:=by
 obtain ⟨h1,_,h3⟩:=zpmy h
 rw [h1,y02]; exact h3
theorem z9h1 {V:List Vot} (h:V.length≤4294967296):(zj70 V).length≤V.length:=by
 unfold zj70
 rw [zmgd,y02]; exact znbr h
theorem zzm4 {g:Sl Vot} {w:Vot} {r:List Vot} (h:g.l=w::r):agrG g=⟨w.lnk,ownN ((w::r).map Vot.own),nilS⟩:=by unfold agrG; rw [h]
theorem zy1h {g:Sl Vot} (h:g.l≠[]) (hb:g.l.length≤4294967296):(agrG g).owners.l=g.l.map Vot.own:=by
 cases e:g.l with
 | nil=>exact absurd e h
 | cons w r=>rw [zzm4 e,zd8n (by rw [e] at hb; simpa using hb)]
theorem zkqo {V:List Vot} (h:V.length≤4294967296) : ∀ a ∈ zj70 V,a.eqv=nilS∧a.owners.l≠[]∧a.owners.l.length≤V.length∧a.lnk ∈ V.map Vot.lnk:=fun a ha=>by
 have ha:=(zo43 (lt:=aLt) ((grp2 V).l.map agrG)).mem_iff.1 ha
 obtain ⟨g,hg,rfl⟩:=y0r.1 ha
 obtain ⟨h1,h2⟩:=zw6n h g hg
 rw [zy1h h1 (by omega),y02]
 cases e:g.l with
 | nil=>exact absurd e h1
 | cons w r =>
  rw [zzm4 e]
  refine ⟨rfl,by simp,by rw [e] at h2; exact h2,?_⟩
  obtain ⟨k1,k2,_⟩:=zpmy h
  rw [k1,y0r] at hg
  obtain ⟨g0,hg0,rfl⟩:=hg
  have hb:=(k2 g0 hg0).2
  rw [z0ey (by omega)] at e
  have hs:w ∈ sng1 V:=by
   rw [z6io (s:=keyF) (f:=vKey) (fun _ _=>rfl)] at hg0
   obtain ⟨k,_,rfl⟩:=y0r.1 hg0
   have:w ∈ (sng1 V).filter fun y=>decide (vKey y=k):=by rw [e]; simp
   exact (List.mem_filter.1 this).1
  rw [ze6f h] at hs
  exact y0y ((zzz9 (own:=Vot.own) (key:=vKey) z3gj V).sub w hs)
theorem zey4 {V:List Vot} (h:V.length≤4294967296):(zj70 V).map pA=z9dw vLss Vot.own vKey V:=by
 have hL : ∀ L:List (List Vot),(∀ g ∈ L,g≠[]∧g.length≤V.length)→((L.map gSl).map agrG).map pA=(L.filterMap (zwcm Vot.own)).map (pC vKey):=by
  intro L
  induction L with
  | nil=>intro _; rfl
  | cons g L ih =>
   intro hl
   have hg:=hl g (by simp)
   have hgl:=z0ey (g:=g) (by omega)
   have ih:=ih fun g hg=>hl g (by simp [hg])
   cases g with
   | nil=>exact absurd rfl hg.1
   | cons w r =>
    rw [y0f,y0f,y0f,ih,y0z]
    have hb:((w::r).map Vot.own).length≤4294967296:=by rw [y02]; have:=hg.2; omega
    simp only [zwcm,List.head?_cons,Option.map_some,y0f,pC,pA,zzm4 hgl,vKey]
    rw [y0f] at hb
    rw [zd8n hb]
 obtain ⟨k1,k2,_⟩:=zpmy h
 rw [← zxzu]
 unfold zj70 cmpP
 have e1:=hL _ k2
 have e2:outP vLss Vot.own vKey V=(grpG keyF (sng1 V)).filterMap (zwcm Vot.own):=by rw [ze6f h]; rfl
 rw [e2,k1]
 have e3 : ∀ (A:List Agr) (B:List (Vot × List Str)),A.map pA=B.map (pC vKey)→(zq4g aLt A).map pA=(zq4g (fun a b:Vot × List Str=>decide (b.2.length<a.2.length)) B).map (pC vKey):=fun A B e=>by
  have f1:=zmcs (f:=pA) (lt:=aLt) (lt':=fun a b:(List Ent × List Ent) × List Str=>decide (b.2.length<a.2.length)) (l:=A) (y18 fun _ _=>rfl)
  have f2:=zmcs (f:=pC vKey) (lt:=fun a b:Vot × List Str=>decide (b.2.length<a.2.length)) (lt':=fun a b:(List Ent × List Ent) × List Str=>decide (b.2.length<a.2.length)) (l:=B) (y18 fun _ _=>rfl)
  rw [← f1,← f2,e]
 exact e3 _ _ e1
end
section
set_option linter.unusedSimpArgs false
set_option linter.unusedVariables false
open Go Go.Am
theorem z0em {P:Program} {n0:Nat} {x:ACode} {Φ:AExit→St→Prop} {t t':List DV} {H R:List AObj} (hH:zlf2 H.length H=true) (hn:n0≤H.length)
  (ht:znqe (mkL (kLt H.length) (H++R) t) t') (hb:belowL H.length t'=true) (h:V P n0 x Φ ⟨t',H⟩):V P n0 x Φ ⟨t,H++R⟩:=by
 refine V_mk (kLt H.length) ?_
 rw [z26m,z6z7 (by omega) hH]
 exact zqfd (zju2 ht rfl hn hb hH) h
theorem zjwe {k K:Nat} {α:Type} {l:List α}:(oV k K l).cells=[oV k K l]:=by unfold oV; split<;>rfl
theorem z6jg {k K:Nat} {α:Type} {l:List α}:(oV k K l).one=true:=by unfold oV; split<;>rfl
def bxC (L:Lnk) (o:DV):List DV:=[.str L.step,L.m.dv 33 enC,L.p.dv 33 enC,o,.nils]
theorem ztc7 (L:Lnk) (o:DV):(bxC L o).length=5:=rfl
theorem z2nx {L:Lnk} {o:DV}:oneC 1 false ((bxC L o).drop 3)=some o:=rfl
theorem z62b {h:List AObj} {id:Nat} {L:Lnk} {o v:DV} (hc:v.cells=[v]) (ho:v.one=true):zy6o h id 1 3 v (some (bxC L o))=some (.junk,h.set id (.cells (bxC L v))):=by
 rw [Am.storeO_1 hc ho (by rw [ztc7]; decide)]; rfl
structure C2 where
 H:List AObj
 q:DV
 o:DV
 G:DV
 n:Int
 i:Int
structure C2ok (c:C2):Prop where
 hb : ∀ n,zlf2 n c.H=true
 hn:1≤c.H.length
 q:zyp8 c.q=true
 o : ∀ n,c.H.length≤n→Am.below n c.o=true
 G:zyp8 c.G=true
def owL (g:Sl Vot) (j:Nat):List Str:=(g.l.take j).map Vot.own
def H955 (c:C2) (L:Lnk) (os:List Str):List AObj:=c.H++(.cells (bxC L (oV (c.H.length+1) 1 os))::oT stC os)
def S955 (c:C2) (L:Lnk) (g:Sl Vot) (j:Nat):St:=zju7 c.q c.o (.mp c.H.length 5 0) c.G (.int .i64 c.n) (.int .i64 c.i) (g.dv 4 voC) (.int .i64 g.l.length) (.int .i64 j) (H955 c L (owL g j))
theorem zebc {n:Nat} {a b:List AObj} (ha:zlf2 n a=true) (hb:zlf2 n b=true):zlf2 n (a++b)=true:=by
 induction a with
 | nil=>exact hb
 | cons o r ih =>
  cases o with
  | cells cs=>simp only [y01,zlf2,y13] at ha ⊢; exact ⟨ha.1,ih ha.2⟩
  | dead=>simp only [y01,zlf2] at ha ⊢; exact ih ha
theorem z05n {c:C2} {L:Lnk} {os:List Str}:(H955 c L os).length=c.H.length+1+(oT stC os).length:=by simp [H955]; omega
theorem zsqu {c:C2} (k:C2ok c) {L:Lnk} {os:List Str}:zlf2 (H955 c L os).length (H955 c L os)=true:=by
 rw [z05n]
 unfold H955
 refine zebc (k.hb _) ?_
 have h1:Am.below (c.H.length+1+(oT stC os).length) (oV (c.H.length+1) 1 os)=true:=zv6o
 simp only [zlf2,bxC,belowL,h1,zb48,Am.below,zd81 z0tx,y04]
theorem z69r {g:Sl Vot} {j:Nat} (h:j<g.l.length):owL g (j+1)=owL g j++[(g.l[j]).own]:=by
 unfold owL; rw [y03 h,y0i]; rfl
theorem zvhg {c:C2} (k:C2ok c) {L:Lnk} {g:Sl Vot} (hl:g.l.length≤20) {Φ:AExit→St→Prop} (j:Nat) (hj:j≤g.l.length)
  (hexit:Φ (.exit 4) ⟨js 7++[c.q,.junk,.junk,c.o,.junk,.junk,.mp c.H.length 5 0]++js 29++[c.G,.int .i64 c.n,.int .i64 c.i]++js 31,H955 c L (g.l.map Vot.own)⟩)
  (hw : ∀ st st',Weak 0 st st'→Φ (.exit 4) st'→Φ (.exit 4) st) :
  V P 0 zcvt (z13e 0 (S955 c L g) (fun j=>g.l.length-j) (fun j=>j≤g.l.length) j Φ) (S955 c L g j):=by
 simp only [S955]
 refine zbn1 (V_W mix zr5o ?_)
 by_cases h:j<g.l.length
 case neg =>
  have h':¬ (j:Int)<g.l.length:=by omega
  have e:owL g j=g.l.map Vot.own:=by unfold owL; rw [y00 (by omega)]
  rw [e]
  simp (disch:=first|omega|simp<;>omega|fail) [-zA,-zB,-zC,-zD,-zE,zcvt,zju7,h,h']
  refine zbn1 (V_W mix zr5o ?_)
  simp (disch:=first|omega|simp<;>omega|fail) [-zA,-zB,-zC,-zD,-zE,h,h']
  refine hw _ _ (z515 ?_ rfl) hexit
  simp (disch:=first|omega|simp<;>omega|fail) [-zA,-zB,-zC,-zD,-zE]
 have h':(j:Int)<g.l.length:=by omega
 have hg : ∀ H,zpsc H 4 (g.dv 4 voC) j=some (.ref (voC g.l[j])):=fun H=>zalo zu4u h
 have hs:=z69r h
 obtain ⟨x,hx⟩ : ∃ x,g.l[j]=x:=⟨_,rfl⟩
 rw [hx] at hg hs
 have hol:(owL g j).length≤20:=by unfold owL; rw [y02,y0c]; omega
 obtain ⟨os,hos⟩ : ∃ os,owL g j=os:=⟨_,rfl⟩
 rw [hos] at hs hol ⊢
 have hap:=zte0 (f:=stC) (k:=c.H.length+1) (b:=16) (l:=os) (x:=x.own) (h:=c.H++[.cells (bxC L (oV (c.H.length+1) 1 os))]) (by simp) (fun _=>rfl) (by decide) (by decide) zlxs (by omega)
 rw [show stC x.own=[DV.str x.own] from rfl] at hap
 simp only [y0s,y01,y05] at hap
 have hHl:=z05n (c:=c) (L:=L) (os:=os)
 have hHb:=zsqu k (L:=L) (os:=os)
 have ho:=k.o (H955 c L os).length (by omega)
 have hlt:c.H.length<(H955 c L os).length:=by omega
 simp (disch:=first|omega|simp<;>omega|fail) [-zA,-zB,-zC,-zD,-zE,zcvt,zju7,h,h']
 refine zbn1 (V_W mix zr5o ?_)
 simp (disch:=first|omega|simp<;>omega|fail) [-zA,-zB,-zC,-zD,-zE,h,h']
 refine zbn1 (z3mo (zbn1 (V_W mix zr5o ?_)))
 simp (disch:=first|omega|simp<;>omega|fail) [-zA,-zB,-zC,-zD,-zE,hg]
 refine zs10 (H:=H955 c L os) (cs:=voC x) (t':=js 7++[c.q,.junk,.junk,c.o,.junk,.junk,.mp c.H.length 5 0,.junk,.ref (voC x)]++js 27++[c.G,.int .i64 c.n,.int .i64 c.i]++js 8++[g.dv 4 voC,.int .i64 g.l.length,.int .i64 j]++js 20) hHb (by omega) ?_ (by simp (disch:=first|omega|simp<;>omega|fail) [-zA,-zB,-zC,-zD,-zE,belowL,Am.below,ho,hlt,z8b8 _ _ k.q,z8b8 _ _ k.G,z8b8 _ _ (znfs g)]) ?_
 ·have e1:=zz5t (H:=H955 c L os) (cs:=voC x) (off:=0) (zc6g x)
  have e2 : ∀ h,mk1 (kLt (H955 c L os).length) h c.o=c.o:=fun h=>zd3c ho
  have e3 : ∀ h,mk1 (kLt (H955 c L os).length) h (.mp c.H.length 5 0) = .mp c.H.length 5 0:=fun h=>zd3c (by simp only [Am.below,decide_eq_true_eq]; omega)
  have e4 : ∀ K h,mk1 K h c.q=c.q:=fun K h=>zvft k.q
  have e5 : ∀ K h,mk1 K h c.G=c.G:=fun K h=>zvft k.G
  have e6 : ∀ K h,mk1 K h (g.dv 4 voC)=g.dv 4 voC:=fun K h=>zvft (znfs g)
  simp only [zu4u,y0d] at e1
  simp (disch:=first|omega|simp<;>omega|fail) [-zA,-zB,-zC,-zD,-zE,e1,e2,e3,e4,e5,e6]
 unfold H955
 refine V_W mix zr5o ?_
 simp (disch:=first|omega|simp<;>omega|fail) [-zA,-zB,-zC,-zD,-zE,z28l,zylz,z2nx,z62b zjwe z6jg,hap,zjj2,z1zn,zxft,ztc7]
 refine V_W mix zr5o ?_
 simp (disch:=first|omega|simp<;>omega|fail) [-zA,-zB,-zC,-zD,-zE]
 exact ⟨j+1,z515 (by simp (disch:=first|omega|simp<;>omega|fail) [-zA,-zB,-zC,-zD,-zE,S955,zju7]) (by simp (disch:=first|omega|simp<;>omega|fail) [-zA,-zB,-zC,-zD,-zE,S955,zju7,H955,hs]),by omega,by omega⟩
end
section
set_option linter.unusedSimpArgs false
set_option linter.unusedVariables false
open Go Go.Am
theorem zxuz {x:Agr}:bslD 5 1 [.str [],.nils,.nils,.nils,.nils] [(0,5,.agg (agC x))]=some (.sl true 5 1 (agC x)):=by
 simp [bslD,zi03,zk7y,reps,rep,znh2,y00]
theorem zer5 {L:Lnk}:zvnk [.str [],.nils,.nils,.nils,.nils] [(0,3,.agg (lkC L))]=some (.agg (bxC L .nils)):=rfl
theorem za6d {L:Lnk}:(bxC L .nils).all DV.one=true:=by simp only [bxC,y09,zxyr,z4ja,y0a,y04]; rfl
theorem z33j {h:List AObj} {id:Nat} {L:Lnk} {l:List DV} (hl:l.length=5):zy6o h id 5 0 (.agg (bxC L .nils)) (some l)=some (.junk,h.set id (.cells (bxC L .nils))):=zfc1 (ztc7 L _) hl za6d
theorem z640 {H:List AObj} {L:Lnk} {os:List Str} (hb:os.length≤4294967296):mk1 (kLt H.length) (H++(.cells (bxC L (oV (H.length+1) 1 os))::oT stC os)) (.mp H.length 5 0) = .ref (agC ⟨L,ownN os,nilS⟩):=by
 refine zwy6 ?_
 have hO:fzS (kLt H.length) (H++(.cells (bxC L (oV (H.length+1) 1 os))::oT stC os)) 2 (oV (H.length+1) 1 os)=some ((ownN os).dv 1 stC):=by
  by_cases e:os=[]
  ·subst e; rw [zl8p,z2i7]; exact zxmp
  ·have ho:=zwbu (f:=stC) (k:=H.length+1) (l:=os) (h:=H++[.cells (bxC L (oV (H.length+1) 1 os))]) (r:=[]) (by simp) (fun _=>rfl) e
   simp only [y0s,y01,y05,y0j] at ho
   rw [zpni e] at ho ⊢
   rw [znkh,if_neg (by simp [kLt]),ho,y0h,y0d,z590 (f:=stC) (K:=1) (fun _=>rfl),y14,zl6f (zp6k z0tx _),zgr3 e hb]; rfl
 rw [zept,if_neg (by simp [kLt]),zjj2,z1zn,if_pos (ztc7 _ _),y0h,y0d]
 generalize H++(.cells (bxC L (oV (H.length+1) 1 os))::oT stC os)=Z at hO ⊢
 simp only [bxC,zhuj,zmvq,zam1,zxmp,hO,zzxw (zru8 _),y0h,Option.map_some]
 rfl
def S956 (s:Spc) (q:DV) (G:Sl (Sl Vot)) (i:Nat):St:=z7i3 q (oV 1 5 ((G.l.take i).map agrG)) (G.dv 1 gC) (.int .i64 G.l.length) (.int .i64 i) (.cells (spC s)::oT agC ((G.l.take i).map agrG))
theorem zm1f {s:Spc} {q:DV} (hq:zyp8 q=true) {G:Sl (Sl Vot)} (hG:G.l.length≤20) (hne : ∀ g ∈ G.l,g.l≠[]∧g.l.length≤20) {Φ:AExit→St→Prop} (i:Nat) (hi:i≤G.l.length)
  (hexit:Φ (.exit 2) ⟨js 7++[q,.junk,.junk,oV 1 5 (G.l.map agrG)]++js 66,.cells (spC s)::oT agC (G.l.map agrG)⟩)
  (hw : ∀ st st',Weak 0 st st'→Φ (.exit 2) st'→Φ (.exit 2) st) :
  V P 0 z0z5 (z13e 0 (S956 s q G) (fun i=>G.l.length-i) (fun i=>i≤G.l.length) i Φ) (S956 s q G i):=by
 simp only [S956]
 refine zbn1 (V_W mix zr5o ?_)
 by_cases h:i<G.l.length
 case neg =>
  have h':¬ (i:Int)<G.l.length:=by omega
  rw [y00 (show G.l.length≤i by omega)]
  simp (disch:=first|omega|simp<;>omega|fail) [-zA,-zB,-zC,-zD,-zE,z0z5,z7i3,h,h']
  refine zbn1 (V_W mix zr5o ?_)
  simp (disch:=first|omega|simp<;>omega|fail) [-zA,-zB,-zC,-zD,-zE,h,h']
  refine hw _ _ (z515 ?_ rfl) hexit
  simp (disch:=first|omega|simp<;>omega|fail) [-zA,-zB,-zC,-zD,-zE]
 have h':(i:Int)<G.l.length:=by omega
 have hg : ∀ H,zpsc H 1 (G.dv 1 gC) i=some (.ref (gC G.l[i])):=fun H=>zalo zfnv h
 obtain ⟨hgne,hgl⟩:=hne _ (y08 h)
 have hs:(G.l.take (i+1)).map agrG=(G.l.take i).map agrG++[agrG G.l[i]]:=by rw [y03 h,y0i]; rfl
 obtain ⟨g,hgg⟩ : ∃ g,G.l[i]=g:=⟨_,rfl⟩
 rw [hgg] at hg hgne hgl hs
 obtain ⟨w,r,hwr⟩ : ∃ w r,g.l=w::r:=by
  cases e:g.l with
  | nil=>exact absurd e hgne
  | cons w r=>exact ⟨w,r,rfl⟩
 have hA:agrG g=⟨w.lnk,ownN (g.l.map Vot.own),nilS⟩:=by rw [zzm4 hwr,hwr]
 have hz : ∀ H,zpsc H 4 (g.dv 4 voC) 0=some (.ref (voC w)):=fun H=>by
  have:=zalo (h:=H) (x:=g) (i:=0) zu4u (by rw [hwr]; simp)
  rw [show ((0:Nat):Int)=0 from rfl] at this
  rw [this]; simp [hwr]
 have hCl:((G.l.take i).map agrG).length≤20:=by rw [y02,y0c]; omega
 obtain ⟨C,hC⟩ : ∃ C,(G.l.take i).map agrG=C:=⟨_,rfl⟩
 rw [hC] at hs hCl ⊢
 have hap:=zte0 (f:=agC) (k:=1) (b:=112) (l:=C) (x:=agrG g) (h:=[AObj.cells (spC s)]) rfl znh2 (by decide) (by decide) (fun _=>z892) (by omega)
 simp only [y01,y05] at hap
 have hob : ∀ n,1+(oT agC C).length≤n→Am.below n (oV 1 5 C)=true:=fun n hn=>by
  by_cases e:C=[]
  ·subst e; rfl
  ·rw [zpni e]; rw [zlgn e] at hn; simp only [Am.below,decide_eq_true_eq]; omega
 have hc:C2ok ⟨.cells (spC s)::oT agC C,q,oV 1 5 C,G.dv 1 gC,G.l.length,i⟩:=⟨fun n=>by simp only [zlf2,z2i6,zd81 z1u0,y04],by simp,hq,fun n hn=>hob n (by simp only [y06] at hn; omega),zcsv G⟩
 simp (disch:=first|omega|simp<;>omega|fail) [-zA,-zB,-zC,-zD,-zE,z0z5,z7i3,h,h']
 refine zbn1 (V_W mix zr5o ?_)
 simp (disch:=first|omega|simp<;>omega|fail) [-zA,-zB,-zC,-zD,-zE,h,h']
 refine zbn1 (z3mo (zbn1 (V_W mix zr5o ?_)))
 simp (disch:=first|omega|simp<;>omega|fail) [-zA,-zB,-zC,-zD,-zE,hg,gC]
 refine zbn1 (V_W mix zr5o ?_)
 simp (disch:=first|omega|simp<;>omega|fail) [-zA,-zB,-zC,-zD,-zE,hz,zkpz,zer5,z33j]
 refine zbn1 (zbn1 (V_W mix zr5o ?_))
 simp (disch:=first|omega|simp<;>omega|fail) [-zA,-zB,-zC,-zD,-zE]
 refine z3mo (ztbr (S955 ⟨.cells (spC s)::oT agC C,q,oV 1 5 C,G.dv 1 gC,G.l.length,i⟩ w.lnk g) (fun j=>g.l.length-j) (fun j=>j≤g.l.length) 0 (z515 (by simp (disch:=first|omega|simp<;>omega|fail) [-zA,-zB,-zC,-zD,-zE,S955,zju7]) (by simp (disch:=first|omega|simp<;>omega|fail) [-zA,-zB,-zC,-zD,-zE,S955,zju7,H955,owL,zl8p,zkrk])) (Nat.zero_le _) (fun j hj=>zvhg hc hgl j hj ?_ ?_))
 ·rw [z233,zd2q]
  have hmk:=z640 (H := .cells (spC s)::oT agC C) (L:=w.lnk) (os:=g.l.map Vot.own) (by rw [y02]; omega)
  rw [← hA] at hmk
  have hH:zlf2 (AObj.cells (spC s)::oT agC C).length (AObj.cells (spC s)::oT agC C)=true:=hc.hb _
  have hob':=hob ((AObj.cells (spC s)::oT agC C).length) (by rw [y06]; omega)
  unfold H955
  refine z0em (t':=js 7++[q,.junk,.junk,oV 1 5 C,.junk,.junk,.ref (agC (agrG g))]++js 29++[G.dv 1 gC,.int .i64 G.l.length,.int .i64 i]++js 31) hH (by simp) ?_ (by simp (disch:=first|omega|simp<;>omega|fail) [-zA,-zB,-zC,-zD,-zE,belowL,Am.below,hob _ (show 1+(oT agC C).length≤(oT agC C).length+1 by omega),z8b8 _ _ hq,z8b8 _ _ (zcsv G)]) ?_
  ·have e2 : ∀ h,mk1 (kLt (AObj.cells (spC s)::oT agC C).length) h (oV 1 5 C)=oV 1 5 C:=fun h=>zd3c hob'
   have e4 : ∀ K h,mk1 K h q=q:=fun K h=>zvft hq
   have e5 : ∀ K h,mk1 K h (G.dv 1 gC)=G.dv 1 gC:=fun K h=>zvft (zcsv G)
   generalize (AObj.cells (spC s)::oT agC C).length=N at e2 hmk ⊢
   simp only [y01] at hmk
   simp (disch:=first|omega|simp<;>omega|fail) [-zA,-zB,-zC,-zD,-zE,e2,e4,e5,hmk,-z1bt]
  refine V_W mix zr5o ?_
  simp (disch:=first|omega|simp<;>omega|fail) [-zA,-zB,-zC,-zD,-zE,zd17,zxuz,hap]
  refine V_W mix zr5o ?_
  simp (disch:=first|omega|simp<;>omega|fail) [-zA,-zB,-zC,-zD,-zE]
  exact ⟨i+1,z515 (by simp (disch:=first|omega|simp<;>omega|fail) [-zA,-zB,-zC,-zD,-zE,S956,z7i3,hs]) (by simp (disch:=first|omega|simp<;>omega|fail) [-zA,-zB,-zC,-zD,-zE,S956,z7i3,hs]),by omega,by omega⟩
 ·intro st st' hw' h
  rw [z233,zd2q] at h ⊢
  exact zqfd hw' h
end
end Go.Proofs.Ytjknipdiglpnlaa
