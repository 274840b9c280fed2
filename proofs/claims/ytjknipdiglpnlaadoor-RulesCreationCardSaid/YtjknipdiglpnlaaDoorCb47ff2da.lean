/-
  13 texts of mine in one.
-/
import Derived.Test.YtjknipdiglpnlaaDoorCdd2c7f00
import Derived.Test.YtjknipdiglpnlaaDoorC9c7f701f
import Derived.Test.YtjknipdiglpnlaaDoorC5ed110cf
import Derived.Test.YtjknipdiglpnlaaDoorCf4586d3c
import Derived.Test.YtjknipdiglpnlaaDoorC384a0e19
set_option maxRecDepth 20000
set_option maxHeartbeats 4000000
open List renaming map_take → zA, map_drop → zB, map_set → zC, map_append → zD, drop_one → zE
set_option linter.unusedSimpArgs false
set_option linter.unusedVariables false
set_option maxRecDepth 8000
namespace Go.Proofs.YtjknipdiglpnlaaDoor
open Go Go.Am
def zmcg:List Lnk→Rul→Sl Ent
 | [],_=>nilS
 | x::l,r=>if x.step=r.frm then (if r.prod then x.p else x.m) else zmcg l r
theorem zqyy {r:Rul} : ∀ {l:List Lnk} {i:Nat} (hi:i<l.length),l[i].step=r.frm→(∀ j (h:j<l.length),j<i→l[j].step≠r.frm)→zmcg l r=if r.prod then l[i].p else l[i].m
 | a::l,0,_,h,_=>by simp only [List.getElem_cons_zero] at h; simp [zmcg,h]
 | a::l,i+1,hi,h,h2=>by
  have ha:a.step≠r.frm:=h2 0 (by simp) (by omega)
  have ih:=zqyy (l:=l) (i:=i) (by simpa using hi) (by simpa using h) fun j hj hji=>by
   have:=h2 (j+1) (by simpa using hj) (by omega)
   simpa using this
  simp [zmcg,ha,ih]
theorem zlwx {r:Rul} : ∀ {l:List Lnk},(∀ a ∈ l,a.step≠r.frm)→zmcg l r=nilS
 | [],_=>rfl
 | a::l,h=>by simp [zmcg,h a (by simp),zlwx (l:=l) fun b hb=>h b (by simp [hb])]
theorem zh5h {H R:List AObj} {cs cs':List DV} {id off:Nat} (ho:objV (H++R) id cs.length=some cs) (hid:H.length≤id) (hf:fzSo (kLt H.length) (H++R) 2 (cs.drop off)=some cs'):mk1 (kLt H.length) (H++R) (.mp id cs.length off) = .ref cs':=by
 refine zwy6 ?_
 rw [zept,if_neg (by simp [kLt]; omega),ho,Option.bind_some,hf]; rfl
theorem zb5y {K:Nat→Bool} {h:List AObj} {id v o:Nat} (hk:K id=true):fzSo K h 2 [.mp id v o]=some [.mp id v o]:=by
 rw [zhuj,zmvq,z0h0,if_pos hk]; rfl
theorem z27d {H:List AObj} {l:List DV} {R:List AObj}:objV (H ++ .cells l::R) H.length l.length=some l:=by
 rw [zjj2,z1zn,if_pos rfl]
theorem zpw0 {H:List AObj} {x:AObj} {l:List DV} {R:List AObj}:objV (H++x :: .cells l::R) (H.length+1) l.length=some l:=by
 unfold objV ziu0; rw [List.getElem?_append_right (by omega),show H.length+1-H.length=1 by omega]; simp
theorem z1v4 {H:List AObj} {x y:AObj} {l:List DV} {R:List AObj}:objV (H++x::y :: .cells l::R) (H.length+2) l.length=some l:=by
 unfold objV ziu0; rw [List.getElem?_append_right (by omega),show H.length+2-H.length=2 by omega]; simp
def zyzl (H:List AObj) (r:Rul) (x:Sl Lnk) (i:Nat):St:=zug5 (.ref (ruC r)) (x.dv 3 lkC) (.int .i64 x.l.length) (.int .i64 i) H
theorem zgr6 (F:Fr) (Q R:List Str) (r:Rul):zwy1 P 114 [.mp 2 6 0,.agg (ruC r)] (F.H Q R) (fun d h=>d=(zmcg F.s.done.l r).dv 33 enC∧h=F.H Q R):=by
 refine zrqk Tryd.func114 zgcx ?_
 have hl2:=(F.len Q R).1
 have hbl:=F.below Q R (Nat.le_refl _)
 have hO:=F.hO0 Q R
 obtain ⟨q,hq⟩ : ∃ q,qV F.N Q.length=q:=⟨_,rfl⟩
 rw [hq] at hO
 obtain ⟨H,hH⟩ : ∃ H,F.H Q R=H:=⟨_,rfl⟩
 rw [hH] at hO hl2 hbl ⊢
 obtain ⟨x,hx⟩ : ∃ x,F.s.done=x:=⟨_,rfl⟩
 have hxd:oneC 1 false ((sdC F.s q).drop 4)=some (x.dv 3 lkC):=by rw [← hx]; rfl
 rw [hx]
 have hb:=x.b
 have hlx : ∀ H,lenD H (x.dv 3 lkC)=some (.int .i64 x.l.length):=fun H=>zupj
 have e1:=zz5t (H:=H) (cs:=ruC r) (off:=0) (z3bz r)
 have e2 : ∀ h,mk1 (kLt H.length) h (.mp 2 6 0) = .mp 2 6 0:=fun h=>zd3c (by simp [Am.below,hl2])
 refine zbn1 (V_W mix zr5o ?_)
 simp (disch:=first|omega|simp<;>omega|fail) [-zA,-zB,-zC,-zD,-zE,a114]
 refine zs10 (n0:=H.length) (H:=H) (cs:=ruC r) (t':=[.mp 2 6 0,.junk,.junk,.ref (ruC r)]++js 24) hbl (Nat.le_refl _) ?_ (by simp (disch:=first|omega|simp<;>omega|fail) [-zA,-zB,-zC,-zD,-zE,z1r6,Am.below,hl2]) ?_
 ·rw [zpvo,List.drop_zero] at e1
  simp (disch:=first|omega|simp<;>omega|fail) [-zA,-zB,-zC,-zD,-zE,e1,e2,-z1bt,-zdpe]
 refine zbn1 (zbn1 (V_W mix zr5o ?_))
 simp (disch:=first|omega|simp<;>omega|fail) [-zA,-zB,-zC,-zD,-zE,hO,hxd,hlx]
 refine z3mo (ztbr (zyzl H r x) (fun i=>x.l.length-i) (fun i=>i≤x.l.length ∧ ∀ j (h:j<x.l.length),j<i→x.l[j].step≠r.frm) 0 (z515 (by simp (disch:=first|omega|simp<;>omega|fail) [-zA,-zB,-zC,-zD,-zE,zyzl,zug5]) (by simp (disch:=first|omega|simp<;>omega|fail) [-zA,-zB,-zC,-zD,-zE,zyzl,zug5])) ⟨by omega,fun j _ hj=>by omega⟩ (fun i hi => ?_))
 obtain ⟨q1,q2⟩:=hi
 simp only [zyzl]
 refine zbn1 (V_W mix zr5o ?_)
 by_cases g:i<x.l.length
 case neg =>
  have g':¬ (i:Int)<x.l.length:=by omega
  have hr:zmcg x.l r=nilS:=zlwx fun a ha=>by
   obtain ⟨j,hj,e⟩:=List.getElem_of_mem ha
   have:=q2 j hj (by omega)
   rw [e] at this; exact this
  rw [hr]
  simp (disch:=first|omega|simp<;>omega|fail) [-zA,-zB,-zC,-zD,-zE,zoyb,zug5,g,g']
  refine zbn1 (V_W mix zr5o ?_)
  simp (disch:=first|omega|simp<;>omega|fail) [-zA,-zB,-zC,-zD,-zE]
  refine zbn1 (V_W mix zr5o ?_)
  simp (disch:=first|omega|simp<;>omega|fail) [-zA,-zB,-zC,-zD,-zE]
  refine V_W mix zr5o ?_
  simp (disch:=first|omega|simp<;>omega|fail) [-zA,-zB,-zC,-zD,-zE,z2i7]
  try rfl
 have g':(i:Int)<x.l.length:=by omega
 have hy : ∀ H,zpsc H 3 (x.dv 3 lkC) i=some (.ref (lkC x.l[i])):=fun H=>zalo z9tw g
 have hinv:x.l[i].step≠r.frm → ∀ j (h:j<x.l.length),j<i+1→x.l[j].step≠r.frm:=fun e j hj hji=>by
  by_cases ej:j=i
  ·subst ej; exact e
  ·exact q2 j hj (by omega)
 have hr:x.l[i].step=r.frm→zmcg x.l r=if r.prod then x.l[i].p else x.l[i].m:=fun e=>zqyy g e q2
 obtain ⟨u,hu⟩ : ∃ u,x.l[i]=u:=⟨_,rfl⟩
 rw [hu] at hy hinv hr
 have e3:=zz5t (H:=H) (cs:=lkC u) (off:=0) (z53g u)
 have e4 : ∀ h,mk1 (kLt H.length) h (x.dv 3 lkC)=x.dv 3 lkC:=fun h=>zvft (zys6 x)
 have e5 : ∀ h,mk1 (kLt H.length) h (.ref (ruC r)) = .ref (ruC r):=fun h=>zvft (by simp [zyp8])
 have e6 : ∀ h,mk1 (kLt H.length) h (.ref (lkC u)) = .ref (lkC u):=fun h=>zvft (by simp [zyp8,z53g])
 simp (disch:=first|omega|simp<;>omega|fail) [-zA,-zB,-zC,-zD,-zE,zoyb,zug5,g,g']
 refine zbn1 (V_W mix zr5o ?_)
 simp (disch:=first|omega|simp<;>omega|fail) [-zA,-zB,-zC,-zD,-zE]
 refine zbn1 (z3mo (zbn1 (V_W mix zr5o ?_)))
 simp (disch:=first|omega|simp<;>omega|fail) [-zA,-zB,-zC,-zD,-zE,hy,zrer]
 refine zs10 (n0:=H.length) (H:=H) (cs:=lkC u) (t':=[.junk,.junk,.junk,.ref (ruC r),.junk,.junk,.ref (lkC u),.junk,.junk,.junk,x.dv 3 lkC,.int .i64 x.l.length,.int .i64 i]++js 15) hbl (Nat.le_refl _) ?_ (by simp (disch:=first|omega|simp<;>omega|fail) [-zA,-zB,-zC,-zD,-zE,z1r6,Am.below,z8b8 _ _ (zys6 x),zmq5 _ _ (z53g u)]) ?_
 ·rw [z9tw,List.drop_zero] at e3
  simp (disch:=first|omega|simp<;>omega|fail) [-zA,-zB,-zC,-zD,-zE,e3,e4,e5,e6,-z1bt,-zdpe]
 refine V_W mix zr5o ?_
 by_cases e:u.step=r.frm
 ·have hr:=hr e
  rw [hr]
  cases hp:r.prod with
  | true=>simp (disch:=first|omega|simp<;>omega|fail) [-zA,-zB,-zC,-zD,-zE,e,hp]
  | false=>simp (disch:=first|omega|simp<;>omega|fail) [-zA,-zB,-zC,-zD,-zE,e,hp]
 ·have hinv:=hinv e
  simp (disch:=first|omega|simp<;>omega|fail) [-zA,-zB,-zC,-zD,-zE,e]
  refine V_W mix zr5o ?_
  simp (disch:=first|omega|simp<;>omega|fail) [-zA,-zB,-zC,-zD,-zE]
  exact ⟨i+1,z515 (by simp (disch:=first|omega|simp<;>omega|fail) [-zA,-zB,-zC,-zD,-zE,zyzl,zug5]) (by simp (disch:=first|omega|simp<;>omega|fail) [-zA,-zB,-zC,-zD,-zE,zyzl,zug5]),by omega,by omega,hinv⟩
theorem zxbm (s:Sd) (r:Rul) (fs:Sl Ent):Clo s 116 [.ref (ruC r),.ref [fs.dv 33 enC],.ref [.mp 2 6 0]] (matB r fs.l s.files.l) :=
 ⟨fun H q q' h1 h2 h3=>⟨[.ref (ruC r),.ref [fs.dv 33 enC],.ref [.ref (sdC s q')]],by
  have e:snap H 3 (fs.dv 33 enC)=some (fs.dv 33 enC):=z6nl (zru8 fs)
  have h2':snap H 2 q=some q':=h2 1
  simp only [zrz6,zfu7,zud9,zh3r,zgbg,h1,e,Option.bind_some,List.drop_zero,zse0,h2',Option.map_some],
  by simp only [zbao,zyp8,z3bz,zru8,z65m h3,Bool.and_self],fun x=>zm65 r fs s q' x⟩,by decide⟩
theorem zpos (s:Sd) (k:Nat) (hk:k<3) (pat:Str):Clo s 162 [.ref [.mp 2 6 0],.ref [.str pat],.ref [.fn (.func (acF k)) [] []]] (chgB k pat s.self.m.l s.self.p.l) :=
 ⟨fun H q q' h1 h2 h3=>⟨[.ref [.ref (sdC s q')],.ref [.str pat],.ref [.fn (.func (acF k)) [] []]],by
  have h2':snap H 2 q=some q':=h2 1
  simp only [zrz6,zfu7,zud9,zgbg,h1,Option.bind_some,List.drop_zero,zse0,h2',Option.map_some,zpcv,zvvi],
  by simp only [zbao,zyp8,z65m h3,Bool.and_self],fun x=>zxto k hk pat s q' x⟩,by decide⟩
theorem za09 (s:Sd) (r:Rul):Clo s 124 [.ref (ruC r)] (zenh r.pat) :=
 ⟨fun H q q' h1 h2 h3=>⟨[.ref (ruC r)],by simp only [zrz6,zfu7,zud9,zh3r,Option.bind_some,Option.map_some],
  by simp only [zbao,zyp8,z3bz,Bool.and_self],fun x=>zqks r x⟩,by decide⟩
def okD:DV := .tup [.str [],.bool true]
theorem zwui (F:Fr) (Q R:List Str) (hL:Q.length+R.length=F.N) (r:Rul):zwy1 P 61 [.mp 2 6 0,.agg (ruC r)] (F.H Q R) (fun d h=>d=okD∧h=F.H (zwyd (matB r (zmcg F.s.done.l r).l F.s.files.l) Q) (repE (Q.length-(zwyd (matB r (zmcg F.s.done.l r).l F.s.files.l) Q).length)++R)):=by
 refine zrqk Tryd.func61 zuuw ?_
 have hl2:=(F.len Q R).1
 have hbl:=F.below Q R (Nat.le_refl _)
 have c1:=zgr6 F Q R r
 have c2:=zcie F Q R hL (zxbm F.s r (zmcg F.s.done.l r))
 obtain ⟨H',hH'⟩ : ∃ H',F.H (zwyd (matB r (zmcg F.s.done.l r).l F.s.files.l) Q) (repE (Q.length-(zwyd (matB r (zmcg F.s.done.l r).l F.s.files.l) Q).length)++R)=H':=⟨_,rfl⟩
 rw [hH'] at c2 ⊢
 obtain ⟨fs,hfs⟩ : ∃ fs,zmcg F.s.done.l r=fs:=⟨_,rfl⟩
 rw [hfs] at c1 c2
 obtain ⟨H,hH⟩ : ∃ H,F.H Q R=H:=⟨_,rfl⟩
 rw [hH] at hl2 hbl c1 c2 ⊢
 have hl3:2<H.length:=hl2
 have e2 : ∀ h,mk1 (kLt H.length) h (.mp 2 6 0) = .mp 2 6 0:=fun h=>zd3c (by simp [Am.below,hl2])
 have hk2:kLt H.length 2=true:=by simp [kLt,hl2]
 have e1:=zh5h (H:=H) (R:=[.cells [.mp 2 6 0],.cells (ruC r)]) (cs:=[.mp 2 6 0]) (off:=0) z27d (Nat.le_refl _) (zb5y hk2)
 have e3:=zh5h (H:=H) (R:=[.cells [.mp 2 6 0],.cells (ruC r)]) (cs:=ruC r) (off:=0) zpw0 (by omega) (zl6f (z3bz r))
 have e4:=zh5h (H:=H) (R:=[.cells [fs.dv 33 enC]]) (cs:=[fs.dv 33 enC]) (off:=0) z27d (Nat.le_refl _) (zl6f (by simp only [List.drop_zero,zbao,zru8,Bool.and_self]))
 have e5 : ∀ h,mk1 (kLt H.length) h (.ref (ruC r)) = .ref (ruC r):=fun h=>zvft (by simp only [zyp8,z3bz])
 have e6 : ∀ h,mk1 (kLt H.length) h (.ref [.mp 2 6 0]) = .ref [.mp 2 6 0]:=fun h=>zd3c (by simp [Am.below,z1r6,hl2])
 refine zbn1 (V_W mix zr5o ?_)
 simp (disch:=first|omega|simp<;>omega|fail) [-zA,-zB,-zC,-zD,-zE,a61]
 refine z0em (H:=H) (R:=[.cells [.mp 2 6 0],.cells (ruC r)]) (t':=[.mp 2 6 0,.junk,.ref [.mp 2 6 0],.ref (ruC r),.str [],.bool false]++js 7) hbl (Nat.le_refl _) ?_ (by simp (disch:=first|omega|simp<;>omega|fail) [-zA,-zB,-zC,-zD,-zE,z1r6,Am.below,hl2]) ?_
 ·simp only [zpvo,List.length_cons,List.length_nil,Nat.zero_add] at e1 e3
  simp (disch:=first|omega|simp<;>omega|fail) [-zA,-zB,-zC,-zD,-zE,e1,e2,e3,-z1bt,-zdpe]
 have hst : ∀ (h:List AObj) (id:Nat),zy6o h id 1 0 (fs.dv 33 enC) (some [.nils])=some (.junk,h.set id (.cells [fs.dv 33 enC])):=fun h id=>by
  rw [Am.storeO_1 (zfr8 _) (z4ja _) (by decide)]; rfl
 refine zbn1 (V_W mix (z84q c1) ?_)
 simp (disch:=first|omega|simp<;>omega|fail) [-zA,-zB,-zC,-zD,-zE,TH_k,zpvh,zxsc,zjj2,z1zn,zxft,hst]
 refine z0em (H:=H) (R:=[.cells [fs.dv 33 enC]]) (t':=[.mp 2 6 0,.junk,.ref [.mp 2 6 0],.ref (ruC r),.str [],.bool false,.ref [fs.dv 33 enC]]++js 6) hbl (Nat.le_refl _) ?_ (by simp (disch:=first|omega|simp<;>omega|fail) [-zA,-zB,-zC,-zD,-zE,z1r6,Am.below,hl2,zb48]) ?_
 ·simp only [List.length_cons,List.length_nil,Nat.zero_add] at e4
  simp (disch:=first|omega|simp<;>omega|fail) [-zA,-zB,-zC,-zD,-zE,e2,e4,e5,e6,-z1bt,-zdpe]
 refine zbn1 (V_W mix (z84q c2) ?_)
 simp (disch:=first|omega|simp<;>omega|fail) [-zA,-zB,-zC,-zD,-zE,TH_k,zpvh]
 refine V_W mix zr5o ?_
 simp (disch:=first|omega|simp<;>omega|fail) [-zA,-zB,-zC,-zD,-zE,okD]
theorem zpxu (F:Fr) (Q R:List Str) (hL:Q.length+R.length=F.N) (k:Nat) (hk:k<3) (pat:Str):zwy1 P 120 [.mp 2 6 0,.str pat,.fn (.func (acF k)) [] []] (F.H Q R) (fun d h=>d=okD∧h=F.H (zwyd (chgB k pat F.s.self.m.l F.s.self.p.l) Q) (repE (Q.length-(zwyd (chgB k pat F.s.self.m.l F.s.self.p.l) Q).length)++R)):=by
 refine zrqk Tryd.func120 zrxr ?_
 have hl2:=(F.len Q R).1
 have hbl:=F.below Q R (Nat.le_refl _)
 have c2:=zcie F Q R hL (zpos F.s k hk pat)
 obtain ⟨H',hH'⟩ : ∃ H',F.H (zwyd (chgB k pat F.s.self.m.l F.s.self.p.l) Q) (repE (Q.length-(zwyd (chgB k pat F.s.self.m.l F.s.self.p.l) Q).length)++R)=H':=⟨_,rfl⟩
 rw [hH'] at c2 ⊢
 obtain ⟨f,hf⟩ : ∃ f,DV.fn (.func (acF k)) [] []=f:=⟨_,rfl⟩
 have hfp:zyp8 f=true:=by rw [← hf]; rfl
 have hfk:f.known=true:=by rw [← hf]; rfl
 have hfc:f.cells=[f]:=by rw [← hf]; rfl
 have hfo:f.one=true:=by rw [← hf]; rfl
 have hbx : ∀ h,boxD h f=some (.mp h.length 1 0,h++[.cells [f]]):=fun h=>by rw [← hf]; rfl
 rw [hf] at c2 ⊢
 obtain ⟨H,hH⟩ : ∃ H,F.H Q R=H:=⟨_,rfl⟩
 rw [hH] at hl2 hbl c2 ⊢
 have hl3:2<H.length:=hl2
 have e2 : ∀ h,mk1 (kLt H.length) h (.mp 2 6 0) = .mp 2 6 0:=fun h=>zd3c (by simp [Am.below,hl2])
 have hk2:kLt H.length 2=true:=by simp [kLt,hl2]
 have e1:=zh5h (H:=H) (R:=[.cells [.mp 2 6 0],.cells [.str pat],.cells [f]]) (cs:=[.mp 2 6 0]) (off:=0) z27d (Nat.le_refl _) (zb5y hk2)
 have e3:=zh5h (H:=H) (R:=[.cells [.mp 2 6 0],.cells [.str pat],.cells [f]]) (cs:=[.str pat]) (off:=0) zpw0 (by omega) (zl6f (by simp only [List.drop_zero,zbao,zyp8,Bool.and_self]))
 have e4:=zh5h (H:=H) (R:=[.cells [.mp 2 6 0],.cells [.str pat],.cells [f]]) (cs:=[f]) (off:=0) z1v4 (by omega) (zl6f (by simp only [List.drop_zero,zbao,hfp,Bool.and_self]))
 refine zbn1 (V_W mix zr5o ?_)
 simp (disch:=first|omega|simp<;>omega|fail) [-zA,-zB,-zC,-zD,-zE,a120,hbx]
 refine z0em (H:=H) (R:=[.cells [.mp 2 6 0],.cells [.str pat],.cells [f]]) (t':=[.mp 2 6 0,.junk,.junk,.ref [.mp 2 6 0],.ref [.str pat],.ref [f],.str [],.bool false]++js 3) hbl (Nat.le_refl _) ?_ (by simp (disch:=first|omega|simp<;>omega|fail) [-zA,-zB,-zC,-zD,-zE,z1r6,Am.below,hl2,z8b8 _ _ hfp]) ?_
 ·simp only [List.length_cons,List.length_nil,Nat.zero_add] at e1 e3 e4
  simp (disch:=first|omega|simp<;>omega|fail) [-zA,-zB,-zC,-zD,-zE,e1,e2,e3,e4,-z1bt,-zdpe]
 refine zbn1 (V_W mix (z84q c2) ?_)
 simp (disch:=first|omega|simp<;>omega|fail) [-zA,-zB,-zC,-zD,-zE,TH_k,zpvh]
 refine V_W mix zr5o ?_
 simp (disch:=first|omega|simp<;>omega|fail) [-zA,-zB,-zC,-zD,-zE,okD]
theorem ztrn (F:Fr) (Q R:List Str) (hL:Q.length+R.length=F.N) (r:Rul):zwy1 P 62 [.mp 2 6 0,.agg (ruC r)] (F.H Q R) (fun d h=>d=okD∧h=F.H (zwyd (chgB 0 r.pat F.s.self.m.l F.s.self.p.l) Q) (repE (Q.length-(zwyd (chgB 0 r.pat F.s.self.m.l F.s.self.p.l) Q).length)++R)):=by
 refine zrqk Tryd.func62 z0i3 ?_
 have hl2:=(F.len Q R).1
 have hbl:=F.below Q R (Nat.le_refl _)
 have c2:=zpxu F Q R hL 0 (by decide) r.pat
 simp only [acF] at c2
 obtain ⟨H',hH'⟩ : ∃ H',F.H (zwyd (chgB 0 r.pat F.s.self.m.l F.s.self.p.l) Q) (repE (Q.length-(zwyd (chgB 0 r.pat F.s.self.m.l F.s.self.p.l) Q).length)++R)=H':=⟨_,rfl⟩
 rw [hH'] at c2 ⊢
 obtain ⟨H,hH⟩ : ∃ H,F.H Q R=H:=⟨_,rfl⟩
 rw [hH] at hl2 hbl c2 ⊢
 have hl3:2<H.length:=hl2
 have e2 : ∀ h,mk1 (kLt H.length) h (.mp 2 6 0) = .mp 2 6 0:=fun h=>zd3c (by simp [Am.below,hl2])
 have hk2:kLt H.length 2=true:=by simp [kLt,hl2]
 have e1:=zz5t (H:=H) (cs:=ruC r) (off:=0) (z3bz r)
 refine zbn1 (V_W mix zr5o ?_)
 simp (disch:=first|omega|simp<;>omega|fail) [-zA,-zB,-zC,-zD,-zE,a62]
 refine zs10 (n0:=H.length) (H:=H) (cs:=ruC r) (t':=[.mp 2 6 0,.junk,.junk,.ref (ruC r),.str [],.bool false]++js 6) hbl (Nat.le_refl _) ?_ (by simp (disch:=first|omega|simp<;>omega|fail) [-zA,-zB,-zC,-zD,-zE,z1r6,Am.below,hl2]) ?_
 ·rw [zpvo,List.drop_zero] at e1
  simp (disch:=first|omega|simp<;>omega|fail) [-zA,-zB,-zC,-zD,-zE,e1,e2,-z1bt,-zdpe]
 refine zbn1 (V_W mix (z84q c2) ?_)
 simp (disch:=first|omega|simp<;>omega|fail) [-zA,-zB,-zC,-zD,-zE,TH_k,zpvh,okD]
 refine V_W mix zr5o ?_
 simp (disch:=first|omega|simp<;>omega|fail) [-zA,-zB,-zC,-zD,-zE]
theorem zl0d (F:Fr) (Q R:List Str) (hL:Q.length+R.length=F.N) (r:Rul):zwy1 P 63 [.mp 2 6 0,.agg (ruC r)] (F.H Q R) (fun d h=>d=okD∧h=F.H (zwyd (chgB 1 r.pat F.s.self.m.l F.s.self.p.l) Q) (repE (Q.length-(zwyd (chgB 1 r.pat F.s.self.m.l F.s.self.p.l) Q).length)++R)):=by
 refine zrqk Tryd.func63 z2tu ?_
 have hl2:=(F.len Q R).1
 have hbl:=F.below Q R (Nat.le_refl _)
 have c2:=zpxu F Q R hL 1 (by decide) r.pat
 simp only [acF] at c2
 obtain ⟨H',hH'⟩ : ∃ H',F.H (zwyd (chgB 1 r.pat F.s.self.m.l F.s.self.p.l) Q) (repE (Q.length-(zwyd (chgB 1 r.pat F.s.self.m.l F.s.self.p.l) Q).length)++R)=H':=⟨_,rfl⟩
 rw [hH'] at c2 ⊢
 obtain ⟨H,hH⟩ : ∃ H,F.H Q R=H:=⟨_,rfl⟩
 rw [hH] at hl2 hbl c2 ⊢
 have hl3:2<H.length:=hl2
 have e2 : ∀ h,mk1 (kLt H.length) h (.mp 2 6 0) = .mp 2 6 0:=fun h=>zd3c (by simp [Am.below,hl2])
 have hk2:kLt H.length 2=true:=by simp [kLt,hl2]
 have e1:=zz5t (H:=H) (cs:=ruC r) (off:=0) (z3bz r)
 refine zbn1 (V_W mix zr5o ?_)
 simp (disch:=first|omega|simp<;>omega|fail) [-zA,-zB,-zC,-zD,-zE,a63]
 refine zs10 (n0:=H.length) (H:=H) (cs:=ruC r) (t':=[.mp 2 6 0,.junk,.junk,.ref (ruC r),.str [],.bool false]++js 6) hbl (Nat.le_refl _) ?_ (by simp (disch:=first|omega|simp<;>omega|fail) [-zA,-zB,-zC,-zD,-zE,z1r6,Am.below,hl2]) ?_
 ·rw [zpvo,List.drop_zero] at e1
  simp (disch:=first|omega|simp<;>omega|fail) [-zA,-zB,-zC,-zD,-zE,e1,e2,-z1bt,-zdpe]
 refine zbn1 (V_W mix (z84q c2) ?_)
 simp (disch:=first|omega|simp<;>omega|fail) [-zA,-zB,-zC,-zD,-zE,TH_k,zpvh,okD]
 refine V_W mix zr5o ?_
 simp (disch:=first|omega|simp<;>omega|fail) [-zA,-zB,-zC,-zD,-zE]
theorem zcqt (F:Fr) (Q R:List Str) (hL:Q.length+R.length=F.N) (r:Rul):zwy1 P 64 [.mp 2 6 0,.agg (ruC r)] (F.H Q R) (fun d h=>d=okD∧h=F.H (zwyd (chgB 2 r.pat F.s.self.m.l F.s.self.p.l) Q) (repE (Q.length-(zwyd (chgB 2 r.pat F.s.self.m.l F.s.self.p.l) Q).length)++R)):=by
 refine zrqk Tryd.func64 zerh ?_
 have hl2:=(F.len Q R).1
 have hbl:=F.below Q R (Nat.le_refl _)
 have c2:=zpxu F Q R hL 2 (by decide) r.pat
 simp only [acF] at c2
 obtain ⟨H',hH'⟩ : ∃ H',F.H (zwyd (chgB 2 r.pat F.s.self.m.l F.s.self.p.l) Q) (repE (Q.length-(zwyd (chgB 2 r.pat F.s.self.m.l F.s.self.p.l) Q).length)++R)=H':=⟨_,rfl⟩
 rw [hH'] at c2 ⊢
 obtain ⟨H,hH⟩ : ∃ H,F.H Q R=H:=⟨_,rfl⟩
 rw [hH] at hl2 hbl c2 ⊢
 have hl3:2<H.length:=hl2
 have e2 : ∀ h,mk1 (kLt H.length) h (.mp 2 6 0) = .mp 2 6 0:=fun h=>zd3c (by simp [Am.below,hl2])
 have hk2:kLt H.length 2=true:=by simp [kLt,hl2]
 have e1:=zz5t (H:=H) (cs:=ruC r) (off:=0) (z3bz r)
 refine zbn1 (V_W mix zr5o ?_)
 simp (disch:=first|omega|simp<;>omega|fail) [-zA,-zB,-zC,-zD,-zE,a64]
 refine zs10 (n0:=H.length) (H:=H) (cs:=ruC r) (t':=[.mp 2 6 0,.junk,.junk,.ref (ruC r),.str [],.bool false]++js 6) hbl (Nat.le_refl _) ?_ (by simp (disch:=first|omega|simp<;>omega|fail) [-zA,-zB,-zC,-zD,-zE,z1r6,Am.below,hl2]) ?_
 ·rw [zpvo,List.drop_zero] at e1
  simp (disch:=first|omega|simp<;>omega|fail) [-zA,-zB,-zC,-zD,-zE,e1,e2,-z1bt,-zdpe]
 refine zbn1 (V_W mix (z84q c2) ?_)
 simp (disch:=first|omega|simp<;>omega|fail) [-zA,-zB,-zC,-zD,-zE,TH_k,zpvh,okD]
 refine V_W mix zr5o ?_
 simp (disch:=first|omega|simp<;>omega|fail) [-zA,-zB,-zC,-zD,-zE]
theorem z8ug (F:Fr) (Q R:List Str) (hL:Q.length+R.length=F.N) (r:Rul):zwy1 P 65 [.mp 2 6 0,.agg (ruC r)] (F.H Q R) (fun d h=>d=okD∧h=F.H (zwyd (zenh r.pat) Q) (repE (Q.length-(zwyd (zenh r.pat) Q).length)++R)):=by
 refine zrqk Tryd.func65 zh04 ?_
 have hl2:=(F.len Q R).1
 have hbl:=F.below Q R (Nat.le_refl _)
 have c2:=zcie F Q R hL (za09 F.s r)
 obtain ⟨H',hH'⟩ : ∃ H',F.H (zwyd (zenh r.pat) Q) (repE (Q.length-(zwyd (zenh r.pat) Q).length)++R)=H':=⟨_,rfl⟩
 rw [hH'] at c2 ⊢
 obtain ⟨H,hH⟩ : ∃ H,F.H Q R=H:=⟨_,rfl⟩
 rw [hH] at hl2 hbl c2 ⊢
 have hl3:2<H.length:=hl2
 have e2 : ∀ h,mk1 (kLt H.length) h (.mp 2 6 0) = .mp 2 6 0:=fun h=>zd3c (by simp [Am.below,hl2])
 have hk2:kLt H.length 2=true:=by simp [kLt,hl2]
 have e1:=zz5t (H:=H) (cs:=ruC r) (off:=0) (z3bz r)
 refine zbn1 (V_W mix zr5o ?_)
 simp (disch:=first|omega|simp<;>omega|fail) [-zA,-zB,-zC,-zD,-zE,a65]
 refine zs10 (n0:=H.length) (H:=H) (cs:=ruC r) (t':=[.mp 2 6 0,.junk,.junk,.ref (ruC r),.str [],.bool false]++js 3) hbl (Nat.le_refl _) ?_ (by simp (disch:=first|omega|simp<;>omega|fail) [-zA,-zB,-zC,-zD,-zE,z1r6,Am.below,hl2]) ?_
 ·rw [zpvo,List.drop_zero] at e1
  simp (disch:=first|omega|simp<;>omega|fail) [-zA,-zB,-zC,-zD,-zE,e1,e2,-z1bt,-zdpe]
 refine zbn1 (V_W mix (z84q c2) ?_)
 simp (disch:=first|omega|simp<;>omega|fail) [-zA,-zB,-zC,-zD,-zE,TH_k,zpvh]
 refine V_W mix zr5o ?_
 simp (disch:=first|omega|simp<;>omega|fail) [-zA,-zB,-zC,-zD,-zE,okD]
end Go.Proofs.YtjknipdiglpnlaaDoor
set_option linter.unusedSimpArgs false
set_option linter.unusedVariables false
set_option maxRecDepth 8000
namespace Go.Proofs.YtjknipdiglpnlaaDoor
open Go Go.Am
theorem Fr.qlen (F:Fr) (Q R X:_) (hL:Q.length+R.length=F.N):lenD (F.H Q R++X) (qV F.N Q.length)=some (.int .i64 Q.length):=by
 by_cases h0:F.N=0
 ·rw [qV,if_pos h0]
  have:Q.length=0:=by omega
  rw [this]; rfl
 ·rw [qV,if_neg h0,qD,z59c]
  have ho:objV (F.H Q R++X) 3 F.N=some (sts (Q++R)):=by
   unfold Fr.H; rw [qT,if_neg h0]
   show (if (sts (Q++R)).length=F.N then some (sts (Q++R)) else none)=_
   rw [if_pos (by rw [z8p2,List.length_append,hL])]
  rw [ho]; rfl
theorem Fr.qobj (F:Fr) (Q R X:_) (hL:Q.length+R.length=F.N) (h0:F.N≠0):objV (F.H Q R++X) 3 F.N=some (sts (Q++R)):=by
 unfold Fr.H; rw [qT,if_neg h0]
 show (if (sts (Q++R)).length=F.N then some (sts (Q++R)) else none)=_
 rw [if_pos (by rw [z8p2,List.length_append,hL])]
theorem zc0g {Q R:List Str} {i:Nat} (hi:i<Q.length):oneC 1 false ((sts (Q++R)).drop i)=some (.str Q[i]):=by
 unfold sts
 rw [z68l (by rw [List.length_append]; omega),List.getElem_append_left hi]
def zidp (o:Option Str):DV := .tup [.str (o.getD []),.bool o.isNone]
noncomputable def zdi3:Tbl:=addT 118 (.pure (cSS z46z)) tbl0
theorem z4ie:zdi3 118 = .pure (cSS z46z):=by simp [zdi3]
theorem zmmd:zdi3.Sound P:=z0rp (zd7v fun p s=>zljw mix zy0e Tryd.func118 zasg (z3jz p s)) zr5o
def zouf (H:List AObj) (r:Rul) (q:DV) (n i:Nat):St:=zgxj (.ref (ruC r)) q (.int .i64 n) (.int .i64 i) H
theorem zhxf {p:Str→Bool} : ∀ {l:List Str} {i:Nat} (hi:i<l.length),p l[i]=true→(∀ j (h:j<l.length),j<i→p l[j]=false)→l.find? p=some l[i]
 | a::l,0,_,h,_=>by simp only [List.getElem_cons_zero] at h; simp [List.find?_cons,h]
 | a::l,i+1,hi,h,h2=>by
  have ha:p a=false:=h2 0 (by simp) (by omega)
  have ih:=zhxf (p:=p) (l:=l) (i:=i) (by simpa using hi) (by simpa using h) fun j hj hji=>by
   have:=h2 (j+1) (by simpa using hj) (by omega)
   simpa using this
  simp [List.find?_cons,ha,ih]
theorem z11n {p:Str→Bool} {l:List Str} (h : ∀ a ∈ l,p a=false):l.find? p=none:=by
 rw [List.find?_eq_none]; intro a ha; rw [h a ha]; simp
theorem zrz5 (F:Fr) (Q R:List Str) (hL:Q.length+R.length=F.N) (r:Rul):zwy1 P 66 [.mp 2 6 0,.agg (ruC r)] (F.H Q R) (fun d h=>d=zidp (Q.find? (zenh r.pat))∧h=F.H Q R):=by
 refine zrqk Tryd.func66 z3a6 ?_
 have hl2:=(F.len Q R).1
 have hbl:=F.below Q R (Nat.le_refl _)
 have hO:=F.hO0 Q R
 have hql:=F.qlen Q R [] hL
 rw [List.append_nil] at hql
 have hNn:=F.hN
 have hqi : ∀ i,i<Q.length→zpsc (F.H Q R) 1 (qV F.N Q.length) i=some (.mp 3 F.N i):=fun i hi=>by
  have h0:F.N≠0:=by omega
  have ho:=F.qobj Q R [] hL h0
  rw [List.append_nil] at ho
  rw [qV,if_neg h0,qD,zq11 (by omega) (by omega),ho]
  simp
 have hob:0<Q.length→objV (F.H Q R) 3 F.N=some (sts (Q++R)):=fun hi=>by
  have ho:=F.qobj Q R [] hL (by omega)
  rwa [List.append_nil] at ho
 have hqp : ∀ n,n=(F.H Q R).length→Am.below n (qV F.N Q.length)=true:=fun n e=>by
  by_cases h0:F.N=0
  ·rw [qV,if_pos h0]; rfl
  ·have:=(F.len Q R).2 h0
   rw [qV,if_neg h0,qD]; simp only [Am.below,decide_eq_true_eq]; omega
 have hqp:=hqp _ rfl
 obtain ⟨q,hq⟩ : ∃ q,qV F.N Q.length=q:=⟨_,rfl⟩
 rw [hq] at hO hql hqi hqp
 obtain ⟨H,hH⟩ : ∃ H,F.H Q R=H:=⟨_,rfl⟩
 rw [hH] at hO hl2 hbl hql hqi hob hqp ⊢
 have e1:=zz5t (H:=H) (cs:=ruC r) (off:=0) (z3bz r)
 have e2 : ∀ h,mk1 (kLt H.length) h (.mp 2 6 0) = .mp 2 6 0:=fun h=>zd3c (by simp [Am.below,hl2])
 refine zbn1 (V_W mix zr5o ?_)
 simp (disch:=first|omega|simp<;>omega|fail) [-zA,-zB,-zC,-zD,-zE,a66]
 refine zs10 (n0:=H.length) (H:=H) (cs:=ruC r) (t':=[.mp 2 6 0,.junk,.junk,.ref (ruC r)]++js 19) hbl (Nat.le_refl _) ?_ (by simp (disch:=first|omega|simp<;>omega|fail) [-zA,-zB,-zC,-zD,-zE,z1r6,Am.below,hl2]) ?_
 ·rw [zpvo,List.drop_zero] at e1
  simp (disch:=first|omega|simp<;>omega|fail) [-zA,-zB,-zC,-zD,-zE,e1,e2,-z1bt,-zdpe]
 refine zbn1 (zbn1 (V_W mix zr5o ?_))
 simp (disch:=first|omega|simp<;>omega|fail) [-zA,-zB,-zC,-zD,-zE,hO,zi9h,hql]
 refine z3mo (ztbr (zouf H r q Q.length) (fun i=>Q.length-i) (fun i=>i≤Q.length ∧ ∀ j (h:j<Q.length),j<i→zenh r.pat Q[j]=false) 0 (z515 (by simp (disch:=first|omega|simp<;>omega|fail) [-zA,-zB,-zC,-zD,-zE,zouf,zgxj]) (by simp (disch:=first|omega|simp<;>omega|fail) [-zA,-zB,-zC,-zD,-zE,zouf,zgxj])) ⟨by omega,fun j _ hj=>by omega⟩ (fun i hi => ?_))
 obtain ⟨q1,q2⟩:=hi
 simp only [zouf]
 by_cases g:i<Q.length
 case neg =>
  have g':¬ (i:Int)<Q.length:=by omega
  have hr:Q.find? (zenh r.pat)=none:=z11n fun a ha=>by
   obtain ⟨j,hj,e⟩:=List.getElem_of_mem ha
   have:=q2 j hj (by omega)
   rw [e] at this; exact this
  rw [hr]
  refine zbn1 (V_W mix zr5o ?_)
  simp (disch:=first|omega|simp<;>omega|fail) [-zA,-zB,-zC,-zD,-zE,z6p4,zgxj,g,g']
  refine zbn1 (V_W mix zr5o ?_)
  simp (disch:=first|omega|simp<;>omega|fail) [-zA,-zB,-zC,-zD,-zE]
  refine zbn1 (V_W mix zr5o ?_)
  simp (disch:=first|omega|simp<;>omega|fail) [-zA,-zB,-zC,-zD,-zE]
  refine V_W mix zr5o ?_
  simp (disch:=first|omega|simp<;>omega|fail) [-zA,-zB,-zC,-zD,-zE,zidp]
 have g':(i:Int)<Q.length:=by omega
 have hy:=hqi i g
 have hb:=hob (by omega)
 have o1:=zc0g (R:=R) g
 have hinv:zenh r.pat Q[i]=false → ∀ j (h:j<Q.length),j<i+1→zenh r.pat Q[j]=false:=fun e j hj hji=>by
  by_cases ej:j=i
  ·subst ej; exact e
  ·exact q2 j hj (by omega)
 have hr:zenh r.pat Q[i]=true→Q.find? (zenh r.pat)=some Q[i]:=fun e=>zhxf g e q2
 obtain ⟨u,hu⟩ : ∃ u,Q[i]=u:=⟨_,rfl⟩
 rw [hu] at o1 hinv hr
 obtain ⟨Z,hZ⟩ : ∃ Z,sts (Q++R)=Z:=⟨_,rfl⟩
 rw [hZ] at hb o1
 refine V_W mix zmmd ?_
 cases e:zenh r.pat u with
 | true =>
  rw [hr e]
  simp (disch:=first|omega|simp<;>omega|fail) [-zA,-zB,-zC,-zD,-zE,z6p4,zgxj,g,g',hy,hb,o1,z4ie,z5o0,z46z,e,zidp]
 | false =>
  have hinv:=hinv e
  simp (disch:=first|omega|simp<;>omega|fail) [-zA,-zB,-zC,-zD,-zE,z6p4,zgxj,g,g',hy,hb,o1,z4ie,z5o0,z46z,e]
  exact ⟨i+1,z515 (by simp (disch:=first|omega|simp<;>omega|fail) [-zA,-zB,-zC,-zD,-zE,zouf,zgxj]) (by simp (disch:=first|omega|simp<;>omega|fail) [-zA,-zB,-zC,-zD,-zE,zouf,zgxj]),by omega,by omega,fun j h hj=>hinv j h hj⟩
def qS (N:Nat) (Q:List Str):Sl Str:=if N=0 then nilS else own Q
theorem zsdb (F:Fr) (Q R:List Str) (hL:Q.length+R.length=F.N) (r:Rul):zwy1 P 67 [.mp 2 6 0,.agg (ruC r)] (F.H Q R) (fun d h=>d=zidp (if Q.any (zenh r.pat) then none else some [])∧h=F.H Q R):=by
 refine zrqk Tryd.func67 zy8u ?_
 have hl2:=(F.len Q R).1
 have hbl:=F.below Q R (Nat.le_refl _)
 have hO:=F.hO0 Q R
 have hNn:=F.hN
 obtain ⟨fn,hfn⟩ : ∃ fn,DV.fn (.func 126) [] [.ref (ruC r)]=fn:=⟨_,rfl⟩
 have hfp:zyp8 fn=true:=by rw [← hfn]; simp [zyp8,zbao]
 obtain ⟨x,hx1,hx2,hx3⟩ : ∃ x:Sl Str,x.l=Q∧snap (F.H Q R) 3 (qV F.N Q.length)=some (x.dv 1 stC)∧(zyp8 (qV F.N Q.length)=true→qV F.N Q.length=x.dv 1 stC):=by
  by_cases h0:F.N=0
  ·have hQ:Q=[]:=List.eq_nil_of_length_eq_zero (by omega)
   refine ⟨nilS,by rw [hQ]; rfl,?_,fun _ => ?_⟩
   ·rw [qV,if_pos h0,zw4a]; exact z7d7
   ·rw [qV,if_pos h0,zw4a]
  ·refine ⟨own Q,z3e9 (by omega),?_,fun q => ?_⟩
   ·have h:=z123 (pre:=[.cells F.a,.cells F.b,.cells (sdC F.s (qD 3 F.N Q.length))]) (A:=Q) (R:=R) (N:=F.N) hL (by omega)
    have e1:F.H Q R=[.cells F.a,.cells F.b,.cells (sdC F.s (qD 3 F.N Q.length))]++[.cells (sts (Q++R))]:=by unfold Fr.H; rw [qV,qT,if_neg h0,if_neg h0]
    rw [e1,qV,if_neg h0]; exact h
   ·rw [qV,if_neg h0] at q; simp [qD,zyp8] at q
 have hsem:=z7il x (g:=126) (cap:=[.ref (ruC r)]) (p:=zenh r.pat) (by simp only [zbao,zyp8,z3bz,Bool.and_self]) (fun s=>zb64 r s)
 rw [hfn,hx1] at hsem
 obtain ⟨q,hq⟩ : ∃ q,qV F.N Q.length=q:=⟨_,rfl⟩
 rw [hq] at hO hx2 hx3
 obtain ⟨H,hH⟩ : ∃ H,F.H Q R=H:=⟨_,rfl⟩
 rw [hH] at hO hl2 hbl hx2 ⊢
 obtain ⟨b,hb⟩ : ∃ b,Q.any (zenh r.pat)=b:=⟨_,rfl⟩
 rw [hb] at hsem ⊢
 have hpt:ptP [x.dv 1 stC,fn] (.bool b) [x.dv 1 stC,fn]=some (.bool b):=zr20
 have hcall:zyo0 (ptP [x.dv 1 stC,fn] (.bool b)) [q,fn] H=some (.bool b):=by
  cases hI:zyp8 q with
  | true=>rw [z7h3 (by simp [zbao,hI,hfp]),hx3 hI,hpt]
  | false =>
   have hfs:snap H 3 fn=some fn:=z6nl hfp
   rw [zl41 (by simp [zbao,hI]),zrz6,hx2,zrz6,hfs]; simp [hpt]
 have hTk:TI 125 [x.dv 1 stC,fn] (.bool b) 125 = .pure (ptP [x.dv 1 stC,fn] (.bool b)):=TI_k
 have hTs:=zyyb hsem
 obtain ⟨T,hT⟩ : ∃ T,TI 125 [x.dv 1 stC,fn] (.bool b)=T:=⟨_,rfl⟩
 rw [hT] at hTk hTs
 obtain ⟨c,hc⟩ : ∃ c,ptP [x.dv 1 stC,fn] (.bool b)=c:=⟨_,rfl⟩
 rw [hc] at hcall hTk
 have e1:=zz5t (H:=H) (cs:=ruC r) (off:=0) (z3bz r)
 have e2 : ∀ h,mk1 (kLt H.length) h (.mp 2 6 0) = .mp 2 6 0:=fun h=>zd3c (by simp [Am.below,hl2])
 refine zbn1 (V_W mix zr5o ?_)
 simp (disch:=first|omega|simp<;>omega|fail) [-zA,-zB,-zC,-zD,-zE,a67]
 refine zs10 (n0:=H.length) (H:=H) (cs:=ruC r) (t':=[.mp 2 6 0,.junk,.junk,.ref (ruC r),.str [],.bool false]++js 6) hbl (Nat.le_refl _) ?_ (by simp (disch:=first|omega|simp<;>omega|fail) [-zA,-zB,-zC,-zD,-zE,z1r6,Am.below,hl2]) ?_
 ·rw [zpvo,List.drop_zero] at e1
  simp (disch:=first|omega|simp<;>omega|fail) [-zA,-zB,-zC,-zD,-zE,e1,e2,-z1bt,-zdpe]
 refine zbn1 (V_W mix hTs ?_)
 simp (disch:=first|omega|simp<;>omega|fail) [-zA,-zB,-zC,-zD,-zE,hO,zi9h,hTk,hfn,hcall,-ztar]
 refine V_W mix zr5o ?_
 cases b with
 | true=>simp (disch:=first|omega|simp<;>omega|fail) [-zA,-zB,-zC,-zD,-zE,zidp]
 | false=>simp (disch:=first|omega|simp<;>omega|fail) [-zA,-zB,-zC,-zD,-zE,zidp]
def metK:Nat→Nat
 | 1=>61|2=>62|3=>63|4=>64|5=>65|6=>66|_=>67
def zkvg (s:Sd) (r:Rul) (k:Nat):Str→Bool:=match k with
 | 1=>matB r (zmcg s.done.l r).l s.files.l
 | 2=>chgB 0 r.pat s.self.m.l s.self.p.l
 | 3=>chgB 1 r.pat s.self.m.l s.self.p.l
 | 4=>chgB 2 r.pat s.self.m.l s.self.p.l
 | 5=>zenh r.pat
 | _=>fun _=>false
def zkx0 (r:Rul) (k:Nat) (Q:List Str):Option Str:=match k with
 | 6=>Q.find? (zenh r.pat)
 | 7=>if Q.any (zenh r.pat) then none else some []
 | _=>none
theorem zpkc {Q:List Str}:zwyd (fun _=>false) Q=Q:=zjbt fun _ _=>rfl
theorem zmbk (F:Fr) (Q R:List Str) (hL:Q.length+R.length=F.N) (r:Rul) (k:Nat) (h1:1≤k) (h7:k≤7) :
  zwy1 P (metK k) [.mp 2 6 0,.agg (ruC r)] (F.H Q R) (fun d h=>d=zidp (zkx0 r k Q)∧h=F.H (zwyd (zkvg F.s r k) Q) (repE (Q.length-(zwyd (zkvg F.s r k) Q).length)++R)):=by
 have e : ∀ R:List Str,repE 0++R=R:=fun _=>rfl
 rcases k with _|_|_|_|_|_|_|_|k
 ·omega
 ·exact zwui F Q R hL r
 ·exact ztrn F Q R hL r
 ·exact zl0d F Q R hL r
 ·exact zcqt F Q R hL r
 ·exact z8ug F Q R hL r
 ·simp only [zkvg,zpkc,Nat.sub_self,e]; exact zrz5 F Q R hL r
 ·simp only [zkvg,zpkc,Nat.sub_self,e]; exact zsdb F Q R hL r
 ·omega
end Go.Proofs.YtjknipdiglpnlaaDoor
set_option linter.unusedSimpArgs false
set_option linter.unusedVariables false
set_option maxRecDepth 20000
namespace Go.Proofs.YtjknipdiglpnlaaDoor
open Go Go.Am
structure Res where
 fi:Int
 pa:Str
 le:List Str
 deriving DecidableEq
def appL (s:Sd):List Rul→Nat→List Str→Res
 | [],_,Q=>⟨-1,[],Q⟩
 | r::l,i,Q=>if z8mn r=true then (match zkx0 r r.kind.toNat Q with
   | some p=>⟨i,p,zwyd (zkvg s r r.kind.toNat) Q⟩
   | none=>appL s l (i+1) (zwyd (zkvg s r r.kind.toNat) Q))
  else ⟨i,[],Q⟩
def zw2l (l:List Ent):List Str:=l.map (·.path)
theorem z1cm (l:List Ent):(zw2l l).length=l.length:=by simp [zw2l]
def zmoc (pr:Bool) (x:Lnk):Sl Ent:=if pr then x.p else x.m
def sdOf (pr:Bool) (x:Lnk) (done:Sl Lnk):Sd:=⟨x,zmoc pr x,done⟩
def zr9o (l:List Rul) (pr:Bool) (x:Lnk) (done:Sl Lnk):Res:=appL (sdOf pr x done) l 0 (zw2l (zmoc pr x).l)
def z6t9 (N:Nat) (r:Res):DV := .agg [(qS N r.le).dv 1 stC,.int .i64 r.fi,.str r.pa]
def r0C:List DV:=[.nils,.int .i64 0,.str []]
def zj0d:DV := .sl true 1 8 [.nilf,.fn (.func 61) [.mp 2 6 0] [],.fn (.func 62) [.mp 2 6 0] [],.fn (.func 63) [.mp 2 6 0] [],.fn (.func 64) [.mp 2 6 0] [],.fn (.func 65) [.mp 2 6 0] [],.fn (.func 66) [.mp 2 6 0] [],.fn (.func 67) [.mp 2 6 0] []]
def HQ (x:Lnk) (s:Sd) (l:List Str):List AObj := .cells (lkC x) :: .cells r0C :: .cells (sdC s (oV 3 1 l))::oT stC l
theorem HQ_F (F:Fr) (l:List Str) (hl:l.length=F.N) (x:Lnk) (ha:F.a=lkC x) (hb:F.b=r0C):HQ x F.s l=F.H l []:=by
 unfold HQ Fr.H
 rw [ha,hb,List.append_nil]
 by_cases h0:F.N=0
 ·have e:l=[]:=List.eq_nil_of_length_eq_zero (by omega)
  rw [qV,qT,if_pos h0,if_pos h0,e,zl8p,zkrk]; rfl
 ·have e:l≠[]:=fun q=>by rw [q] at hl; exact h0 hl.symm
  rw [qV,qT,if_neg h0,if_neg h0,zpni e,zu2l e,qD,hl,Nat.mul_one]
  show _::_::_::[AObj.cells (fl stC l)]=_
  rw [fl,z8we]; rfl
theorem zc3o {r:Rul} (h:z8mn r=true) : ∃ k:Nat,r.kind=k∧1≤k∧k≤7:=by
 have h1:zk3j r.kind≠[]:=by
  intro e
  unfold z8mn at h
  simp [e] at h
 obtain ⟨a,b⟩:=zcgp.1 h1
 obtain ⟨k,hk⟩:=Int.eq_ofNat_of_zero_le (show 0≤r.kind by omega)
 exact ⟨k,hk,by omega,by omega⟩
def z56y (x:Lnk) (s:Sd) (l:Sl Rul) (f:Sl Ent) (i:Nat):St:=z0ci (l.dv 6 ruC) (.mp 1 3 0) (.mp 2 6 0) (f.dv 33 enC) (.int .i64 f.l.length) (.int .i64 i) (HQ x s ((zw2l f.l).take i))
structure AS where
 i:Nat
 Q:List Str
 R:List Str
def zaqw (F:Fr) (l:Sl Rul) (a:AS):St:=zucw (.mp 1 3 0) (.mp 2 6 0) zj0d (l.dv 6 ruC) (.int .i64 l.l.length) (.int .i64 a.i) (F.H a.Q a.R)
theorem zemx {N m:Nat}:(qV N m).known=true:=by unfold qV; split<;>rfl
theorem zr9r {N m:Nat}:(qV N m).one=true:=by unfold qV; split<;>rfl
theorem zqdn {N m:Nat}:(qV N m).cells=[qV N m]:=by unfold qV; split<;>rfl
theorem z6o8 {a b c:DV}:oneC 3 true [a,b,c]=some (.agg [a,b,c]):=rfl
theorem zzw4 {q:DV} (hc:q.cells=[q]) (hq:q.known=true) (i:Int):zvnk [.nils,.int .i64 0,.str []] [(0,1,q),(1,1,.int .i64 i)]=some (.agg [q,.int .i64 i,.str []]):=by
 simp [zvnk,zi03,zk7y,hq,hc]
theorem zkup {q:DV} (hc:q.cells=[q]) (hq:q.known=true) (i:Int) (p:Str):zvnk [.nils,.int .i64 0,.str []] [(0,1,q),(1,1,.int .i64 i),(2,1,.str p)]=some (.agg [q,.int .i64 i,.str p]):=by
 simp [zvnk,zi03,zk7y,hq,hc]
theorem st13 {h:List AObj} {id:Nat} {q:DV} (ho:q.one=true) (i:Int) (p:Str):zy6o h id 3 0 (.agg [q,.int .i64 i,.str p]) (some r0C)=some (.junk,h.set id (.cells [q,.int .i64 i,.str p])):=zfc1 rfl rfl (by simp [ho])
theorem Fr.ret (F:Fr) (Q R:List Str) (hL:Q.length+R.length=F.N) (C:List DV):objV ((F.H Q R).set 1 (.cells C)) 1 C.length=some C∧snap ((F.H Q R).set 1 (.cells C)) 3 (qV F.N Q.length)=some ((qS F.N Q).dv 1 stC)∧snap ((F.H Q R).set 1 (.cells C)) 2 (qV F.N Q.length)=some ((qS F.N Q).dv 1 stC):=by
 have hNn:=F.hN
 have hs : ∀ k,snap ((F.H Q R).set 1 (.cells C)) (k+1) (qV F.N Q.length)=some ((qS F.N Q).dv 1 stC):=fun k=>by
  by_cases h0:F.N=0
  ·rw [qV,qS,if_pos h0,if_pos h0,zw4a]; exact z7d7
  ·have ho:objV ((F.H Q R).set 1 (.cells C)) 3 F.N=some (sts (Q++R)):=by
    unfold Fr.H; rw [qT,if_neg h0]
    show (if (sts (Q++R)).length=F.N then some (sts (Q++R)) else none)=_
    rw [if_pos (by rw [z8p2,List.length_append,hL])]
   rw [qV,qS,if_neg h0,if_neg h0,zwpy ho,zqrs (by omega),z8we,Nat.mul_one,z2sf,List.take_left' (z8p2 Q)]
 refine ⟨?_,hs 2,hs 1⟩
 unfold Fr.H
 show (if C.length=C.length then some C else none)=_
 rw [if_pos rfl]
theorem zhgh (k:Nat) (h1:1≤k) (h7:k≤7) (H:List AObj):zpsc H 1 zj0d (k:Int)=some (.ref [.fn (.func (metK k)) [.mp 2 6 0] []]):=by
 rcases k with _|_|_|_|_|_|_|_|k<;>first|omega|rfl
def z81i:ACode:=match a19.code with | .seq _ (.seq _ (.seq _ r))=>r|c=>c
theorem ze06 (l:Sl Rul) (x:Lnk) (done:Sl Lnk) (f:Sl Ent) (hN:f.l.length≤65536) (s:Sd) (hs:s=⟨x,f,done⟩) :
  V P 0 z81i (retK a19.res (z6t9 f.l.length (appL s l.l 0 (zw2l f.l)))) ⟨[l.dv 6 ruC]++js 7++[.mp 1 3 0,.mp 2 6 0]++js 96,[.cells (lkC x),.cells r0C,.cells (sdC s .nils)]⟩:=by
 have hlb:=l.b
 have hfb:=f.b
 have hll : ∀ H,lenD H (l.dv 6 ruC)=some (.int .i64 l.l.length):=fun H=>zupj
 have hlf : ∀ H,lenD H (f.dv 33 enC)=some (.int .i64 f.l.length):=fun H=>zupj
 have hfs1 : ∀ q,oneC 1 false ((sdC s q).drop 3)=some (f.dv 33 enC):=fun q=>by rw [hs]; rfl
 obtain ⟨A,hA⟩ : ∃ A,a19.res=A:=⟨_,rfl⟩
 rw [hA]
 obtain ⟨RR,hRR⟩ : ∃ RR,appL s l.l 0 (zw2l f.l)=RR:=⟨_,rfl⟩
 rw [hRR]
 have ho0 : ∀ (q:DV) (T:List AObj),objV (.cells (lkC x) :: .cells r0C :: .cells (sdC s q)::T) 2 6=some (sdC s q):=fun q T=>rfl
 simp only [z81i,a19]
 refine zbn1 (zbn1 (V_W mix zr5o ?_))
 simp (disch:=first|omega|simp<;>omega|fail) [-zA,-zB,-zC,-zD,-zE,hfs1,hlf,ho0]
 refine z3mo (ztbr (z56y x s l f) (fun i=>f.l.length-i) (fun i=>i≤f.l.length) 0 (z515 (by simp (disch:=first|omega|simp<;>omega|fail) [-zA,-zB,-zC,-zD,-zE,z56y,z0ci]) (by simp (disch:=first|omega|simp<;>omega|fail) [-zA,-zB,-zC,-zD,-zE,z56y,z0ci,HQ,zl8p,zkrk])) (by omega) (fun i hi => ?_))
 simp only [z56y]
 refine zbn1 (V_W mix zr5o ?_)
 by_cases g:i<f.l.length
 ·have g':(i:Int)<f.l.length:=by omega
  have hy : ∀ H,zpsc H 33 (f.dv 33 enC) i=some (.ref (enC f.l[i])):=fun H=>zalo zuso g
  have htk:(zw2l f.l).take (i+1)=(zw2l f.l).take i++[f.l[i].path]:=by
   rw [List.take_succ_eq_append_getElem (by rw [z1cm]; exact g)]; simp [zw2l]
  obtain ⟨u,hu⟩ : ∃ u,f.l[i]=u:=⟨_,rfl⟩
  rw [hu] at hy htk
  obtain ⟨L,hL⟩ : ∃ L,(zw2l f.l).take i=L:=⟨_,rfl⟩
  have hLl:L.length=i:=by rw [← hL,List.length_take,z1cm]; omega
  rw [hL] at htk ⊢
  obtain ⟨H,hH⟩ : ∃ H,HQ x s L=H:=⟨_,rfl⟩
  have hl2:2<H.length:=by rw [← hH]; simp [HQ]
  have hbl:zlf2 H.length H=true:=by
   rw [← hH]
   have e1:Am.below (HQ x s L).length (oV 3 1 L)=true:=by
    unfold HQ oV oT
    split<;>simp [Am.below]
   have e2 : ∀ n,zlf2 n (oT stC L)=true:=fun n=>zd81 zds6
   unfold HQ at e1 ⊢
   simp only [zlf2,zmq5 _ _ (z53g x),z28u e1,e2,Bool.and_true,Bool.true_and]
   rfl
  have e1:=zz5t (H:=H) (cs:=enC u) (off:=0) (zt9q u)
  have e2 : ∀ h,mk1 (kLt H.length) h (.mp 2 6 0) = .mp 2 6 0:=fun h=>zd3c (by simp [Am.below,hl2])
  have e3 : ∀ h,mk1 (kLt H.length) h (.mp 1 3 0) = .mp 1 3 0:=fun h=>zd3c (by simp [Am.below]; omega)
  have e4 : ∀ h,mk1 (kLt H.length) h (f.dv 33 enC)=f.dv 33 enC:=fun h=>zvft (zru8 f)
  have e5 : ∀ h,mk1 (kLt H.length) h (l.dv 6 ruC)=l.dv 6 ruC:=fun h=>zvft (zy5l l)
  have hl1:1<H.length:=by omega
  rw [hH]
  simp (disch:=first|omega|simp<;>omega|fail) [-zA,-zB,-zC,-zD,-zE,zihe,z0ci,g,g']
  refine zbn1 (V_W mix zr5o ?_)
  simp (disch:=first|omega|simp<;>omega|fail) [-zA,-zB,-zC,-zD,-zE]
  refine zbn1 (z3mo (zbn1 (V_W mix zr5o ?_)))
  simp (disch:=first|omega|simp<;>omega|fail) [-zA,-zB,-zC,-zD,-zE,hy]
  refine zs10 (n0:=0) (H:=H) (cs:=enC u) (t':=[l.dv 6 ruC]++js 7++[.mp 1 3 0,.mp 2 6 0,.junk,.ref (enC u)]++js 20++[f.dv 33 enC,.int .i64 f.l.length,.int .i64 i]++js 71) hbl (by omega) ?_ (by simp (disch:=first|omega|simp<;>omega|fail) [-zA,-zB,-zC,-zD,-zE,z1r6,Am.below,hl2,hl1,zb48,z8b8 _ _ (zy5l l)]) ?_
  ·rw [zuso,List.drop_zero] at e1
   simp (disch:=first|omega|simp<;>omega|fail) [-zA,-zB,-zC,-zD,-zE,e1,e2,e3,e4,e5,-z1bt,-zdpe]
  rw [← hH]
  simp only [HQ]
  have hap:appX (.cells (lkC x) :: .cells r0C :: .cells (sdC s (oV 3 1 L))::oT stC L) 1 16 (oV 3 1 L) 1 [.str u.path]=some (oV 3 1 (L++[u.path]),.cells (lkC x) :: .cells r0C :: .cells (sdC s (oV 3 1 L))::oT stC (L++[u.path])) :=
   zte0 (k:=3) (K:=1) (b:=16) (f:=stC) (l:=L) (x:=u.path) (h:=[.cells (lkC x),.cells r0C,.cells (sdC s (oV 3 1 L))]) rfl zqv6 (by decide) (by decide) (fun _=>rfl) (by omega)
  have ho : ∀ (q:DV) (T:List AObj),objV (.cells (lkC x) :: .cells r0C :: .cells (sdC s q)::T) 2 6=some (sdC s q):=fun q T=>rfl
  have hst : ∀ (h:List AObj) (q:DV),zy6o h 2 1 5 (oV 3 1 (L++[u.path])) (some (sdC s q))=some (.junk,h.set 2 (.cells (sdC s (oV 3 1 (L++[u.path]))))):=fun h q=>z5ht zjwe z6jg
  refine V_W mix zr5o ?_
  simp (disch:=first|omega|simp<;>omega|fail) [-zA,-zB,-zC,-zD,-zE,ho,zi9h,hap,hst]
  refine V_W mix zr5o ?_
  simp (disch:=first|omega|simp<;>omega|fail) [-zA,-zB,-zC,-zD,-zE]
  exact ⟨i+1,z515 (by simp (disch:=first|omega|simp<;>omega|fail) [-zA,-zB,-zC,-zD,-zE,z56y,z0ci]) (by simp only [z56y,z0ci,HQ,htk]),by omega,by omega⟩
 have g':¬ (i:Int)<f.l.length:=by omega
 have htk:(zw2l f.l).take i=zw2l f.l:=List.take_of_length_le (by rw [z1cm]; omega)
 rw [htk]
 simp (disch:=first|omega|simp<;>omega|fail) [-zA,-zB,-zC,-zD,-zE,zihe,z0ci,g,g']
 refine zbn1 (V_W mix zr5o ?_)
 simp (disch:=first|omega|simp<;>omega|fail) [-zA,-zB,-zC,-zD,-zE]
 refine zbn1 (V_W mix zr5o ?_)
 simp (disch:=first|omega|simp<;>omega|fail) [-zA,-zB,-zC,-zD,-zE]
 let F:Fr:=⟨lkC x,r0C,z53g x,rfl,s,f.l.length,hN⟩
 have hFH:HQ x s (zw2l f.l)=F.H (zw2l f.l) []:=HQ_F F _ (z1cm _) x rfl rfl
 rw [hFH]
 have hFN:F.N=f.l.length:=rfl
 have hFs:F.s=s:=rfl
 have hFb : ∀ Q R,objV (F.H Q R) 1 3=some r0C:=fun Q R=>rfl
 rw [← zj0d]
 clear_value F
 rw [← hFN]
 have hP0:(zw2l f.l).length+([]:List Str).length=F.N:=by rw [z1cm,hFN]; rfl
 refine zbn1 (zbn1 (V_W mix zr5o ?_))
 simp (disch:=first|omega|simp<;>omega|fail) [-zA,-zB,-zC,-zD,-zE,hll]
 refine z3mo (ztbr (zaqw F l) (fun a=>l.l.length-a.i) (fun a=>a.i≤l.l.length∧a.Q.length+a.R.length=F.N∧appL s (l.l.drop a.i) a.i a.Q=RR) ⟨0,zw2l f.l,[]⟩ (z515 (by simp (disch:=first|omega|simp<;>omega|fail) [-zA,-zB,-zC,-zD,-zE,zaqw,zucw]) (by simp (disch:=first|omega|simp<;>omega|fail) [-zA,-zB,-zC,-zD,-zE,zaqw,zucw])) ⟨by simp,hP0,by simpa using hRR⟩ (fun a ha => ?_))
 obtain ⟨i,Q,R⟩:=a
 obtain ⟨h1,h2,h3⟩:=ha
 simp only at h1 h2 h3
 have hO:=F.hO0 Q R
 have hb1:=hFb Q R
 have hqk:=zemx (N:=F.N) (m:=Q.length)
 have hqo:=zr9r (N:=F.N) (m:=Q.length)
 have hqc:=zqdn (N:=F.N) (m:=Q.length)
 obtain ⟨q,hq⟩ : ∃ q,qV F.N Q.length=q:=⟨_,rfl⟩
 have hret:=fun C=>F.ret Q R h2 C
 rw [hq] at hO hqk hqo hqc hret
 have hbl:=F.below Q R (Nat.le_refl _)
 have hl2:=(F.len Q R).1
 have hbd:=zzw4 hqc hqk
 have hst:=fun h id i p=>st13 (h:=h) (id:=id) hqo i p
 rw [hFs] at hO
 simp only [zaqw]
 by_cases g:i<l.l.length
 case neg =>
  have g':¬ (i:Int)<l.l.length:=by omega
  rw [List.drop_of_length_le (by omega)] at h3
  have h3:(⟨-1,[],Q⟩:Res)=RR:=h3
  subst h3
  obtain ⟨r1,r2,r3⟩:=hret [q,.int .i64 (-1),.str []]
  simp only [List.length_cons,List.length_nil,Nat.zero_add,Nat.reduceAdd] at r1
  obtain ⟨H,hH⟩ : ∃ H,F.H Q R=H:=⟨_,rfl⟩
  rw [hH] at hO hb1 r1 r2 r3 ⊢
  refine zbn1 (V_W mix zr5o ?_)
  simp (disch:=first|omega|simp<;>omega|fail) [-zA,-zB,-zC,-zD,-zE,zwtd,zucw,g,g']
  refine zbn1 (V_W mix zr5o ?_)
  simp (disch:=first|omega|simp<;>omega|fail) [-zA,-zB,-zC,-zD,-zE]
  refine zbn1 (V_W mix zr5o ?_)
  simp (disch:=first|omega|simp<;>omega|fail) [-zA,-zB,-zC,-zD,-zE,hO,zi9h,hbd,hb1,hst]
  refine V_W mix zr5o ?_
  rw [← hA]
  simp (disch:=first|omega|simp<;>omega|fail) [-zA,-zB,-zC,-zD,-zE,a19,r1,r2,r3,z6o8,z6t9]
 have g':(i:Int)<l.l.length:=by omega
 have hy : ∀ H,zpsc H 6 (l.dv 6 ruC) i=some (.ref (ruC l.l[i])):=fun H=>zalo zpvo g
 rw [List.drop_eq_getElem_cons g] at h3
 obtain ⟨r,hr⟩ : ∃ r,l.l[i]=r:=⟨_,rfl⟩
 rw [hr] at hy h3
 have e1:=zz5t (H:=F.H Q R) (cs:=ruC r) (off:=0) (z3bz r)
 have e2 : ∀ h,mk1 (kLt (F.H Q R).length) h (.mp 2 6 0) = .mp 2 6 0:=fun h=>zd3c (by simp [Am.below,hl2])
 have e3 : ∀ h,mk1 (kLt (F.H Q R).length) h (.mp 1 3 0) = .mp 1 3 0:=fun h=>zd3c (by simp [Am.below]; omega)
 have e4 : ∀ h,mk1 (kLt (F.H Q R).length) h zj0d=zj0d:=fun h=>zd3c (by simp [Am.below,z1r6,zj0d,hl2])
 have e5 : ∀ h,mk1 (kLt (F.H Q R).length) h (l.dv 6 ruC)=l.dv 6 ruC:=fun h=>zvft (zy5l l)
 have hl1:1<(F.H Q R).length:=by omega
 have htb:Am.below (F.H Q R).length zj0d=true:=by simp [Am.below,z1r6,zj0d,hl2]
 have hcv:=zu0t (r:=r)
 cases hv:z8mn r with
 | false =>
  have h3:(⟨i,[],Q⟩:Res)=RR:=by rw [← h3]; simp [appL,hv]
  subst h3
  rw [hv] at hcv
  obtain ⟨r1,r2,r3⟩:=hret [q,.int .i64 i,.str []]
  simp only [List.length_cons,List.length_nil,Nat.zero_add,Nat.reduceAdd] at r1
  obtain ⟨H,hH⟩ : ∃ H,F.H Q R=H:=⟨_,rfl⟩
  rw [hH] at hO hb1 r1 r2 r3 hbl e1 e2 e3 e4 e5 hl1 hl2 htb ⊢
  refine zbn1 (V_W mix zr5o ?_)
  simp (disch:=first|omega|simp<;>omega|fail) [-zA,-zB,-zC,-zD,-zE,zwtd,zucw,g,g']
  refine zbn1 (V_W mix zr5o ?_)
  simp (disch:=first|omega|simp<;>omega|fail) [-zA,-zB,-zC,-zD,-zE]
  refine zbn1 (z3mo (zbn1 (V_W mix zr5o ?_)))
  simp (disch:=first|omega|simp<;>omega|fail) [-zA,-zB,-zC,-zD,-zE,hy]
  refine zs10 (n0:=0) (H:=H) (cs:=ruC r) (t':=js 8++[.mp 1 3 0,.mp 2 6 0,.junk,.junk,zj0d,.int .i64 i,.ref (ruC r)]++js 50++[l.dv 6 ruC,.int .i64 l.l.length,.int .i64 i]++js 38) hbl (by omega) ?_ (by simp (disch:=first|omega|simp<;>omega|fail) [-zA,-zB,-zC,-zD,-zE,z1r6,Am.below,hl2,hl1,htb,z8b8 _ _ (zy5l l)]) ?_
  ·rw [zpvo,List.drop_zero] at e1
   simp (disch:=first|omega|simp<;>omega|fail) [-zA,-zB,-zC,-zD,-zE,e1,e2,e3,e4,e5,-z1bt,-zdpe]
  refine zbn1 (zbn1 (V_W mix zs7d ?_))
  simp (disch:=first|omega|simp<;>omega|fail) [-zA,-zB,-zC,-zD,-zE,zmf2,hcv]
  refine V_W mix zr5o ?_
  simp (disch:=first|omega|simp<;>omega|fail) [-zA,-zB,-zC,-zD,-zE,hO,zi9h,hbd,hb1,hst]
  rw [← hA]
  simp (disch:=first|omega|simp<;>omega|fail) [-zA,-zB,-zC,-zD,-zE,a19,r1,r2,r3,z6o8,z6t9]
 | true =>
  obtain ⟨k,hk,hk1,hk7⟩:=zc3o hv
  have c:=zmbk F Q R h2 r k hk1 hk7
  have hix:=zhgh k hk1 hk7
  have hkn:r.kind.toNat=k:=by rw [hk]; rfl
  rw [hv] at hcv
  rw [hFs] at c
  have h3:(match zkx0 r k Q with|some p=>(⟨i,p,zwyd (zkvg s r k) Q⟩:Res)|none=>appL s (l.l.drop (i+1)) (i+1) (zwyd (zkvg s r k) Q))=RR:=by rw [← h3]; simp [appL,hv,hkn]
  obtain ⟨Q',hQ'⟩ : ∃ Q',zwyd (zkvg s r k) Q=Q':=⟨_,rfl⟩
  have hkl:=zbdz (zkvg s r k) Q
  rw [hQ'] at c h3 hkl
  obtain ⟨R',hR'⟩ : ∃ R',repE (Q.length-Q'.length)++R=R':=⟨_,rfl⟩
  have hL':Q'.length+R'.length=F.N:=by rw [← hR',List.length_append,repE,List.length_replicate]; omega
  rw [hR'] at c
  have hO':=F.hO0 Q' R'
  have hb1':=hFb Q' R'
  have hqk':=zemx (N:=F.N) (m:=Q'.length)
  have hqo':=zr9r (N:=F.N) (m:=Q'.length)
  have hqc':=zqdn (N:=F.N) (m:=Q'.length)
  obtain ⟨q',hq'⟩ : ∃ q',qV F.N Q'.length=q':=⟨_,rfl⟩
  have hret':=fun C=>F.ret Q' R' hL' C
  rw [hq'] at hO' hqk' hqo' hqc' hret'
  have hbd':=zkup hqc' hqk'
  have hst':=fun h id i p=>st13 (h:=h) (id:=id) hqo' i p
  rw [hFs] at hO'
  have hS':F.H Q' R'=F.H Q' R':=rfl
  obtain ⟨o,ho⟩ : ∃ o,zkx0 r k Q=o:=⟨_,rfl⟩
  rw [ho] at c h3
  obtain ⟨H1,hH1⟩ : ∃ H1,F.H Q' R'=H1:=⟨_,rfl⟩
  rw [hH1] at c hO' hb1' hret'
  obtain ⟨H,hH⟩ : ∃ H,F.H Q R=H:=⟨_,rfl⟩
  rw [hH] at c hO hb1 hbl e1 e2 e3 e4 e5 hl1 hl2 htb ⊢
  refine zbn1 (V_W mix zr5o ?_)
  simp (disch:=first|omega|simp<;>omega|fail) [-zA,-zB,-zC,-zD,-zE,zwtd,zucw,g,g']
  refine zbn1 (V_W mix zr5o ?_)
  simp (disch:=first|omega|simp<;>omega|fail) [-zA,-zB,-zC,-zD,-zE]
  refine zbn1 (z3mo (zbn1 (V_W mix zr5o ?_)))
  simp (disch:=first|omega|simp<;>omega|fail) [-zA,-zB,-zC,-zD,-zE,hy]
  refine zs10 (n0:=0) (H:=H) (cs:=ruC r) (t':=js 8++[.mp 1 3 0,.mp 2 6 0,.junk,.junk,zj0d,.int .i64 i,.ref (ruC r)]++js 50++[l.dv 6 ruC,.int .i64 l.l.length,.int .i64 i]++js 38) hbl (by omega) ?_ (by simp (disch:=first|omega|simp<;>omega|fail) [-zA,-zB,-zC,-zD,-zE,z1r6,Am.below,hl2,hl1,htb,z8b8 _ _ (zy5l l)]) ?_
  ·rw [zpvo,List.drop_zero] at e1
   simp (disch:=first|omega|simp<;>omega|fail) [-zA,-zB,-zC,-zD,-zE,e1,e2,e3,e4,e5,-z1bt,-zdpe]
  refine zbn1 (zbn1 (V_W mix zs7d ?_))
  simp (disch:=first|omega|simp<;>omega|fail) [-zA,-zB,-zC,-zD,-zE,zmf2,hcv]
  refine V_W mix zr5o ?_
  simp (disch:=first|omega|simp<;>omega|fail) [-zA,-zB,-zC,-zD,-zE]
  refine zbn1 (V_W mix (z84q c) ?_)
  simp (disch:=first|omega|simp<;>omega|fail) [-zA,-zB,-zC,-zD,-zE,hk,hix,TH_k,zpvh]
  cases o with
  | some p =>
   have h3:(⟨i,p,Q'⟩:Res)=RR:=h3
   subst h3
   obtain ⟨r1,r2,r3⟩:=hret' [q',.int .i64 i,.str p]
   simp only [List.length_cons,List.length_nil,Nat.zero_add,Nat.reduceAdd] at r1
   simp (disch:=first|omega|simp<;>omega|fail) [-zA,-zB,-zC,-zD,-zE,zidp]
   refine zbn1 (V_W mix zr5o ?_)
   simp (disch:=first|omega|simp<;>omega|fail) [-zA,-zB,-zC,-zD,-zE]
   refine V_W mix zr5o ?_
   simp (disch:=first|omega|simp<;>omega|fail) [-zA,-zB,-zC,-zD,-zE,hO',zi9h,hbd',hb1',hst']
   rw [← hA]
   simp (disch:=first|omega|simp<;>omega|fail) [-zA,-zB,-zC,-zD,-zE,a19,r1,r2,r3,z6o8,z6t9]
  | none =>
   have h3:appL s (l.l.drop (i+1)) (i+1) Q'=RR:=h3
   simp (disch:=first|omega|simp<;>omega|fail) [-zA,-zB,-zC,-zD,-zE,zidp]
   refine zbn1 (V_W mix zr5o ?_)
   simp (disch:=first|omega|simp<;>omega|fail) [-zA,-zB,-zC,-zD,-zE]
   refine V_W mix zr5o ?_
   simp (disch:=first|omega|simp<;>omega|fail) [-zA,-zB,-zC,-zD,-zE]
   refine V_W mix zr5o ?_
   simp (disch:=first|omega|simp<;>omega|fail) [-zA,-zB,-zC,-zD,-zE]
   exact ⟨⟨i+1,Q',R'⟩,z515 (by simp (disch:=first|omega|simp<;>omega|fail) [-zA,-zB,-zC,-zD,-zE,zaqw,zucw]) (by simp only [zaqw,zucw,hH1]),by simp only; omega,by simp only; omega,hL',h3⟩
theorem z8ze (l:Sl Rul) (pr:Bool) (x:Lnk) (done:Sl Lnk) (hN:(zmoc pr x).l.length≤65536) :
  V P 0 a19.code (retK a19.res (z6t9 (zmoc pr x).l.length (zr9o l.l pr x done))) ⟨zr5g a19.ntmps [l.dv 6 ruC,.bool pr,.agg (lkC x),done.dv 3 lkC],[]⟩:=by
 obtain ⟨f,hf⟩ : ∃ f,zmoc pr x=f:=⟨_,rfl⟩
 have hA:zr9o l.l pr x done=appL ⟨x,f,done⟩ l.l 0 (zw2l f.l):=by unfold zr9o sdOf; rw [hf]
 rw [hf] at hN
 rw [hA,hf]
 have ht:=ze06 l x done f hN ⟨x,f,done⟩ rfl
 obtain ⟨RR,hRR⟩ : ∃ RR,z6t9 f.l.length (appL ⟨x,f,done⟩ l.l 0 (zw2l f.l))=RR:=⟨_,rfl⟩
 rw [hRR] at ht ⊢
 have hst : ∀ h (id:Nat),zy6o h id 1 3 (x.p.dv 33 enC) (some (sdC ⟨x,x.m,done⟩ .nils))=some (.junk,h.set id (.cells (sdC ⟨x,x.p,done⟩ .nils))):=fun h id=>by
  rw [Am.storeO_1 (zfr8 _) (z4ja _) (by rw [zwrr]; decide)]; rfl
 have hbs:zvnk [.str [],.nils,.nils,.nils,.nils,.nils] [(0,3,.agg (lkC x)),(3,1,x.m.dv 33 enC),(4,1,done.dv 3 lkC)]=some (.agg (sdC ⟨x,x.m,done⟩ .nils)):=by
  simp [zvnk,zi03,zk7y,lkC,sdC]
 have hbx : ∀ h,boxD h (.agg (sdC ⟨x,x.m,done⟩ .nils))=some (.mp h.length 6 0,h++[.cells (sdC ⟨x,x.m,done⟩ .nils)]):=fun h=>by
  rw [zn72]; try rfl
 have hsd : ∀ T,objV (.cells (lkC x) :: .cells [.nils,.int .i64 0,.str []] :: .cells (sdC ⟨x,x.m,done⟩ .nils)::T) 2 6=some (sdC ⟨x,x.m,done⟩ .nils):=fun T=>rfl
 refine zbn1 (V_W mix zr5o ?_)
 simp (disch:=first|omega|simp<;>omega|fail) [-zA,-zB,-zC,-zD,-zE,a19,zrer]
 refine zbn1 (V_W mix zr5o ?_)
 simp (disch:=first|omega|simp<;>omega|fail) [-zA,-zB,-zC,-zD,-zE,zrer,hbs,hbx]
 refine zbn1 (zbn1 (V_W mix zr5o ?_))
 simp (disch:=first|omega|simp<;>omega|fail) [-zA,-zB,-zC,-zD,-zE]
 refine V_W mix zr5o ?_
 cases pr with
 | true =>
  have hf:x.p=f:=hf
  subst hf
  simp (disch:=first|omega|simp<;>omega|fail) [-zA,-zB,-zC,-zD,-zE,hsd,hst]
  exact zqfd (z515 (by simp (disch:=first|omega|simp<;>omega|fail) [-zA,-zB,-zC,-zD,-zE]) rfl) ht
 | false =>
  have hf:x.m=f:=hf
  subst hf
  simp (disch:=first|omega|simp<;>omega|fail) [-zA,-zB,-zC,-zD,-zE]
  exact zqfd (z515 (by simp (disch:=first|omega|simp<;>omega|fail) [-zA,-zB,-zC,-zD,-zE]) rfl) ht
theorem zy2p {a b:Sl Rul × Bool × Lnk × Sl Lnk} (e:[a.1.dv 6 ruC,.bool a.2.1,.agg (lkC a.2.2.1),a.2.2.2.dv 3 lkC]=[b.1.dv 6 ruC,DV.bool b.2.1,.agg (lkC b.2.2.1),b.2.2.2.dv 3 lkC]):a=b:=by
 obtain ⟨a1,a2,a3,a4⟩:=a
 obtain ⟨b1,b2,b3,b4⟩:=b
 simp only [List.cons.injEq,DV.bool.injEq,DV.agg.injEq,and_true] at e
 rw [z041 e.1,e.2.1,zja4 e.2.2.1,zi59 e.2.2.2]
noncomputable def cApp:List DV→Option DV:=con (fun a:Sl Rul × Bool × Lnk × Sl Lnk=>(zmoc a.2.1 a.2.2.1).l.length≤65536) (fun a=>[a.1.dv 6 ruC,.bool a.2.1,.agg (lkC a.2.2.1),a.2.2.2.dv 3 lkC]) (fun a=>z6t9 (zmoc a.2.1 a.2.2.1).l.length (zr9o a.1.l a.2.1 a.2.2.1 a.2.2.2))
theorem zqfs {l:Sl Rul} {pr:Bool} {x:Lnk} {done:Sl Lnk} (h:(zmoc pr x).l.length≤65536):cApp [l.dv 6 ruC,.bool pr,.agg (lkC x),done.dv 3 lkC]=some (z6t9 (zmoc pr x).l.length (zr9o l.l pr x done)) :=
 zzno (A:=fun a:Sl Rul × Bool × Lnk × Sl Lnk=>(zmoc a.2.1 a.2.2.1).l.length≤65536) (f:=fun a=>[a.1.dv 6 ruC,.bool a.2.1,.agg (lkC a.2.2.1),a.2.2.2.dv 3 lkC]) (g:=fun a=>z6t9 (zmoc a.2.1 a.2.2.1).l.length (zr9o a.1.l a.2.1 a.2.2.1 a.2.2.2)) (fun a b e=>by rw [zy2p e]) (l,pr,x,done) h
theorem zhri:(Con.pure cApp).Sound P 19:=z2au fun a h=>znz9 Tryd.func19 zlqi (z8ze a.1 a.2.1 a.2.2.1 a.2.2.2 h)
end Go.Proofs.YtjknipdiglpnlaaDoor
set_option linter.unusedSimpArgs false
set_option linter.unusedVariables false
set_option maxRecDepth 8000
namespace Go.Proofs.YtjknipdiglpnlaaDoor
open Go Go.Am
def aR1:Rul:=⟨5,[97],[],false,[],[]⟩
def aR2:Rul:=⟨6,[42,42],[],false,[],[]⟩
def aRl:Sl Rul:=⟨some true,[aR1,aR2],by simp,by simp⟩
def aE1:Ent:=⟨[97],dgW 1#8⟩
def aE2:Ent:=⟨[98],dgW 1#8⟩
def aM:Sl Ent:=⟨some true,[aE1,aE2],by simp,by simp⟩
def aX:Lnk:=⟨[],aM,nilS⟩
theorem aApp:zr9o aRl.l false aX nilS=⟨1,[98],[[98]]⟩:=by decide +kernel
theorem aStr:zaba aRl.l=true:=by decide +kernel
noncomputable def zroa:Tbl:=addT 19 (.pure cApp) (addT 21 (.pure cStr) tbl0)
theorem zoud:zroa 19 = .pure cApp:=by simp [zroa]
theorem zkm0:zroa 21 = .pure cStr:=by simp [zroa]
theorem zaq8:zroa.Sound P:=z0rp zhri (z0rp zabo zr5o)
theorem bdr2 {k:Int} {p:Str}:zvnk [.int .i64 0,.str [],.str [],.bool false,.str [],.str []] [(0,1,.int .i64 k),(1,1,.str p)]=some (.agg (ruC ⟨k,p,[],false,[],[]⟩)):=by
 simp [zvnk,zi03,zk7y,ruC]
theorem bsr2 {a b:Rul}:bslD 6 2 [.int .i64 0,.str [],.str [],.bool false,.str [],.str []] [(0,6,.agg (ruC a)),(6,6,.agg (ruC b))]=some (.sl true 6 2 (ruC a++ruC b)):=rfl
theorem bse2 {a b:Ent}:bslD 33 2 [.str [],w8 0#8,w8 0#8,w8 0#8,w8 0#8,w8 0#8,w8 0#8,w8 0#8,w8 0#8,w8 0#8,w8 0#8,w8 0#8,w8 0#8,w8 0#8,w8 0#8,w8 0#8,w8 0#8,w8 0#8,w8 0#8,w8 0#8,w8 0#8,w8 0#8,w8 0#8,w8 0#8,w8 0#8,w8 0#8,w8 0#8,w8 0#8,w8 0#8,w8 0#8,w8 0#8,w8 0#8,w8 0#8] [(0,33,.agg (enC a)),(33,33,.agg (enC b))]=some (.sl true 33 2 (enC a++enC b)):=by
 have h1:=zuso a
 have h2:=zuso b
 simp [bslD,zi03,zk7y,reps,h1,h2,List.drop_of_length_le]
theorem zagq:aM.dv 33 enC = .sl true 33 2 (enC aE1++enC aE2):=by simp [aM,Sl.dv,slD]
theorem z8eo:aRl.dv 6 ruC = .sl true 6 2 (ruC aR1++ruC aR2):=by simp [aRl,Sl.dv,slD]
theorem zxeu:Runs zroa a20 [] (.bool true):=by
 refine ⟨?_⟩
 have k1:=zqfs (l:=aRl) (pr:=false) (x:=aX) (done:=nilS) (by simp [zmoc,aX,aM])
 rw [aApp] at k1
 have k2:=zg71 (x:=aRl)
 rw [aStr] at k2
 have hlen:(zmoc false aX).l.length=2:=rfl
 rw [hlen] at k1
 have hM:=zagq
 have hR:=z8eo
 obtain ⟨RD,hRD⟩ : ∃ RD,aRl.dv 6 ruC=RD:=⟨_,rfl⟩
 obtain ⟨MD,hMD⟩ : ∃ MD,aM.dv 33 enC=MD:=⟨_,rfl⟩
 have hRp:zyp8 RD=true:=by rw [← hRD]; exact zy5l _
 have hMp:zyp8 MD=true:=by rw [← hMD]; exact zru8 _
 have hMk:MD.known=true:=by rw [← hMD]; exact ztw5 _
 have hXC:lkC aX=[.str [],MD,.nils]:=by rw [← hMD]; rfl
 rw [hRD] at k1 k2 hR
 rw [hMD] at hM
 rw [hXC] at k1
 have n0:(nilS:Sl Lnk).dv 3 lkC = .nils:=rfl
 rw [n0] at k1
 have b1:zvnk [.int .i64 0,.str [],.str [],.bool false,.str [],.str []] [(0,1,.int .i64 5),(1,1,.str [97])]=some (.agg (ruC aR1)):=bdr2
 have b2:zvnk [.int .i64 0,.str [],.str [],.bool false,.str [],.str []] [(0,1,.int .i64 6),(1,1,.str [42,42])]=some (.agg (ruC aR2)):=bdr2
 have b3:bslD 6 2 [.int .i64 0,.str [],.str [],.bool false,.str [],.str []] [(0,6,.agg (ruC aR1)),(6,6,.agg (ruC aR2))]=some RD:=by rw [bsr2,hR]
 have b4:zvnk (rep 32 (w8 0#8)) [(0,1,w8 1#8)]=some (.agg (dgC (dgW 1#8))):=by rw [z4hl]; exact z7ni
 have b4':zvnk (List.map w8 (rep 32 0#8)) [(0,1,w8 1#8)]=some (.agg (dgC (dgW 1#8))):=by rw [zii6]; exact z7ni
 have b4'':zvnk (dgC dg0) [(0,1,w8 1#8)]=some (.agg (dgC (dgW 1#8))):=z7ni
 have b5:=zg8c (p:=[97]) (d:=dgW 1#8)
 have b6:=zg8c (p:=[98]) (d:=dgW 1#8)
 have b7:=bse2 (a:=⟨[97],dgW 1#8⟩) (b:=⟨[98],dgW 1#8⟩)
 have hM:MD = .sl true 33 2 (enC ⟨[97],dgW 1#8⟩++enC ⟨[98],dgW 1#8⟩):=hM
 rw [← hM] at b7
 have b8:zvnk [.str [],.nils,.nils] [(1,1,MD)]=some (.agg [.str [],MD,.nils]):=by
  have hc:MD.cells=[MD]:=by rw [← hMD]; exact zfr8 _
  simp [zvnk,zi03,zk7y,hMk,hc]
 have hst : ∀ h (id:Nat),zy6o h id 3 0 (.agg [(own [[98]]:Sl Str).dv 1 stC,.int .i64 1,.str [98]]) (some [.nils,.int .i64 0,.str []])=some (.junk,h.set id (.cells [(own [[98]]:Sl Str).dv 1 stC,.int .i64 1,.str [98]])):=fun h id=>zfc1 rfl rfl (by simp [z4ja])
 have hk1:z6t9 2 ⟨1,[98],[[98]]⟩ = .agg [(own [[98]]:Sl Str).dv 1 stC,.int .i64 1,.str [98]]:=rfl
 rw [hk1] at k1
 have hM:MD = .sl true 33 2 (.str [97]::(dgC (dgW 1#8) ++ .str [98]::dgC (dgW 1#8))):=hM
 rw [hM] at b8 k1 hMp
 rw [hR] at k1 k2 hRp
 simp only [zyp8] at hRp hMp
 simp (disch:=first|omega|simp<;>omega|fail) [-zA,-zB,-zC,-zD,-zE,a20,b1,b2,b3,b4,b4',b4'',b5,b6,b7,b8,zoud,zkm0,k1,k2,hRp,hMp,hst]
theorem z7b9:Am.Sem P 20 [] (.bool true):=zljw mix zaq8 Tryd.func20 zfgm zxeu
def cTr:List DV→Option DV
 | []=>some (.bool true)|_=>none
theorem zjnj:cTr []=some (.bool true):=rfl
theorem zql9 {f:Nat} (h:Am.Sem P f [] (.bool true)):(Con.pure cTr).Sound P f:=by
 intro args v e
 unfold cTr at e
 split at e
 ·simp at e; subst e; exact h
 ·simp at e
def stpL:List Str:=[[102,101,116,99,104],[98,117,105,108,100],[110,111,110,101]]
end Go.Proofs.YtjknipdiglpnlaaDoor
set_option linter.unusedSimpArgs false
set_option linter.unusedVariables false
set_option maxRecDepth 8000
namespace Go.Proofs.YtjknipdiglpnlaaDoor
open Go Go.Am
def patL:List Str:=[[42],[42,42],[97],[97,42],[115,114,99,47,42],[115,114,99,47,42,42],[42,42,46,99],[63],[111,117,116,47,42],[42,47,97],[97,46,99],[42,42,47,97],[111,117,116],[98,42,42]]
def dirL:List Str:=[[],[],[115,114,99],[111,117,116],[97],[115,114,99,47,97]]
def rulV (t:Tp):Rul:=if tpN t 7=0 then ⟨1,zzh5 (t.adv 1) patL,zzh5 (t.adv 2) stpL,decide (0<tpN (t.adv 3) 3),zzh5 (t.adv 4) dirL,zzh5 (t.adv 5) dirL⟩ else ⟨1+tpN t 7,zzh5 (t.adv 1) patL,[],false,[],[]⟩
def rulT (t:Tp):Tp:=if tpN t 7=0 then t.adv 6 else t.adv 2
def rlsL:Nat→Tp→List Rul→Tp × List Rul
 | 0,t,L=>(t,L)
 | k+1,t,L=>rlsL k (rulT t) (L++[rulV t])
def rlsV (t:Tp) (m:Nat):Tp × List Rul:=rlsL (zep5 t m) (t.adv 1) []
structure RL where
 k:Nat
 t:Tp
 L:List Rul
theorem bsr1 {a:Rul}:bslD 6 1 [.int .i64 0,.str [],.str [],.bool false,.str [],.str []] [(0,6,.agg (ruC a))]=some (.sl true 6 1 (ruC a)):=rfl
end Go.Proofs.YtjknipdiglpnlaaDoor
set_option linter.unusedSimpArgs false
set_option linter.unusedVariables false
set_option maxRecDepth 8000
namespace Go.Proofs.YtjknipdiglpnlaaDoor
open Go Go.Am
def zhne (x:Sl Ent) (p:Str) (i:Nat):St:=z3xo (x.dv 33 enC) (.str p) (.mp 0 32 0) (.int .i64 i) [.cells (dgC dg0)]
theorem z332 (x:Sl Ent) (p:Str):Runs tbl0 a25 [x.dv 33 enC,.str p] (zqrh (zajr x.l p)):=by
 refine ⟨?_⟩
 have hb:=x.b
 have hb0:zvnk (dgC dg0) []=some (.agg (dgC dg0)):=rfl
 have hlx : ∀ H,lenD H (x.dv 33 enC)=some (.int .i64 x.l.length):=fun H=>zupj
 simp (disch:=first|omega|simp<;>omega|fail) [-zA,-zB,-zC,-zD,-zE,a25,z4hl]
 refine zlm5 (zhne x p) (fun i=>x.l.length-i) (fun i=>i≤x.l.length ∧ ∀ j (h:j<x.l.length),j<i→x.l[j].path≠p) 0 (z515 (by simp (disch:=first|omega|simp<;>omega|fail) [-zA,-zB,-zC,-zD,-zE,zhne,z3xo]) (by simp (disch:=first|omega|simp<;>omega|fail) [-zA,-zB,-zC,-zD,-zE,zhne,z3xo,z4hl])) ⟨by omega,fun j _ hj=>by omega⟩ (fun i hi => ?_)
 obtain ⟨q1,q2⟩:=hi
 simp only [zhne]
 by_cases q:i<x.l.length
 ·have g':(i:Int)<x.l.length:=by omega
  have hy : ∀ H,zpsc H 33 (x.dv 33 enC) i=some (.ref (enC x.l[i])):=fun H=>zalo zuso q
  have hinv:x.l[i].path≠p → ∀ j (h:j<x.l.length),j<i+1→x.l[j].path≠p:=fun e j hj hji=>by
   by_cases ej:j=i
   ·subst ej; exact e
   ·exact q2 j hj (by omega)
  have hr:x.l[i].path=p→zajr x.l p=some x.l[i].dg:=fun e=>zc1r q e q2
  obtain ⟨u,hu⟩ : ∃ u,x.l[i]=u:=⟨_,rfl⟩
  rw [hu] at hy hinv hr
  by_cases e:u.path=p
  ·have hr:=hr e
   simp (disch:=first|omega|simp<;>omega|fail) [-zA,-zB,-zC,-zD,-zE,zr8m,z3xo,hlx,q,g',hy,e,hr,zqrh,dgO]
  ·have hinv:=hinv e
   simp (disch:=first|omega|simp<;>omega|fail) [-zA,-zB,-zC,-zD,-zE,zr8m,z3xo,hlx,q,g',hy,e]
   exact ⟨i+1,z515 (by simp (disch:=first|omega|simp<;>omega|fail) [-zA,-zB,-zC,-zD,-zE,zhne,z3xo]) (by simp (disch:=first|omega|simp<;>omega|fail) [-zA,-zB,-zC,-zD,-zE,zhne,z3xo]),by omega,by omega,hinv⟩
 ·have g':¬ (i:Int)<x.l.length:=by omega
  have hr:zajr x.l p=none:=zkqa fun a ha=>by
   obtain ⟨j,hj,e⟩:=List.getElem_of_mem ha
   have:=q2 j hj (by omega)
   rw [e] at this; exact this
  simp (disch:=first|omega|simp<;>omega|fail) [-zA,-zB,-zC,-zD,-zE,zr8m,z3xo,hlx,q,g',hr,z4hl,hb0,zqrh,dgO]
theorem z5zc:(Con.pure cLoo).Sound P 25:=z2au fun a _=>zljw mix zr5o Tryd.func25 zgum (z332 a.1 a.2)
def zim9 (x:Ent):Bool:=zj1f x.path && !decide (x.dg=dg0)
theorem z3zc (x:Ent):Runs T80 a128 [.agg (enC x)] (.bool (zim9 x)):=by
 refine ⟨?_⟩
 have hb0:zvnk (dgC dg0) []=some (.agg (dgC dg0)):=rfl
 cases h:zj1f x.path with
 | false=>simp (disch:=first|omega|simp<;>omega|fail) [-zA,-zB,-zC,-zD,-zE,a128,zti8,zk5k,za1j,h,zim9]
 | true=>simp (disch:=first|omega|simp<;>omega|fail) [-zA,-zB,-zC,-zD,-zE,a128,zti8,zk5k,za1j,h,zim9,z4hl,hb0]
noncomputable def cFin:List DV→Option DV:=con (fun _=>True) (fun x:Ent=>[.agg (enC x)]) (fun x => .bool (zim9 x))
theorem zqtp {x:Ent}:cFin [.agg (enC x)]=some (.bool (zim9 x)):=zsn4 (f:=fun x:Ent=>[.agg (enC x)]) (g:=fun x => .bool (zim9 x)) (fun a b e=>by
 simp only [List.cons.injEq,DV.agg.injEq,and_true] at e; exact zxv7 e) x
theorem zjkc:(Con.pure cFin).Sound P 128:=z2au fun x _=>zljw mix zpnl Tryd.func128 zv7v (z3zc x)
def preB:Option Str→Str→Bool
 | none,_=>true
 | some q,x=>Op.bytesLess q x
def asc4:Option Str→List Ent→Bool
 | _,[]=>true
 | p,e::r=>zim9 e&&preB p e.path&&asc4 (some e.path) r
def z59i (l:List Ent):Bool:=decide (l.length≤64)&&asc4 none l
def prv (l:List Ent) (i:Nat):Option Str:=if i=0 then none else (l[i-1]?).map (·.path)
noncomputable def z0ky:Tbl:=addT 128 (.pure cFin) tbl0
theorem z0ve:z0ky 128 = .pure cFin:=by simp [z0ky]
theorem zw7m:z0ky.Sound P:=z0rp zjkc zr5o
theorem z8wa {a b:Str}:zhl4 .geq (.str a) (.str b)=some (.bool (!Op.bytesLess a b)):=rfl
def zgjt (x:Sl Ent) (i:Nat):St:=ziom (x.dv 33 enC) (.int .i64 i) []
theorem z9h2 (x:Sl Ent):Runs z0ky a70 [x.dv 33 enC] (.bool (z59i x.l)):=by
 refine ⟨?_⟩
 have hb:=x.b
 have hlx : ∀ H,lenD H (x.dv 33 enC)=some (.int .i64 x.l.length):=fun H=>zupj
 by_cases h64:64<x.l.length
 ·have h64':(64:Int)<x.l.length:=by omega
  have hr:z59i x.l=false:=by unfold z59i; rw [decide_eq_false (by omega)]; rfl
  simp (disch:=first|omega|simp<;>omega|fail) [-zA,-zB,-zC,-zD,-zE,a70,hlx,h64,h64',hr]
 have h64':¬ (64:Int)<x.l.length:=by omega
 have hr:z59i x.l=asc4 none x.l:=by unfold z59i; rw [decide_eq_true (by omega)]; rfl
 rw [hr]
 obtain ⟨B,hB⟩ : ∃ B,asc4 none x.l=B:=⟨_,rfl⟩
 rw [hB]
 simp (disch:=first|omega|simp<;>omega|fail) [-zA,-zB,-zC,-zD,-zE,a70,hlx,h64,h64']
 refine zlm5 (zgjt x) (fun i=>x.l.length-i) (fun i=>i≤x.l.length∧asc4 (prv x.l i) (x.l.drop i)=B) 0 (z515 (by simp (disch:=first|omega|simp<;>omega|fail) [-zA,-zB,-zC,-zD,-zE,zgjt,ziom]) (by simp (disch:=first|omega|simp<;>omega|fail) [-zA,-zB,-zC,-zD,-zE,zgjt,ziom])) ⟨by omega,by rw [← hB]; rfl⟩ (fun i hi => ?_)
 obtain ⟨q1,q2⟩:=hi
 simp only [zgjt]
 by_cases q:i<x.l.length
 case neg =>
  have g':¬ (i:Int)<x.l.length:=by omega
  rw [List.drop_of_length_le (by omega)] at q2
  have q2:true=B:=by rw [← q2]; cases prv x.l i<;>rfl
  subst q2
  simp (disch:=first|omega|simp<;>omega|fail) [-zA,-zB,-zC,-zD,-zE,z3a0,ziom,hlx,q,g']
 have g':(i:Int)<x.l.length:=by omega
 have hy : ∀ H,zpsc H 33 (x.dv 33 enC) i=some (.ref (enC x.l[i])):=fun H=>zalo zuso q
 rw [List.drop_eq_getElem_cons q] at q2
 have hpn:prv x.l (i+1)=some x.l[i].path:=by
  unfold prv; rw [if_neg (by omega),Nat.add_sub_cancel,List.getElem?_eq_getElem q]; rfl
 obtain ⟨u,hu⟩ : ∃ u,x.l[i]=u:=⟨_,rfl⟩
 rw [hu] at hy q2 hpn
 have hf:=zqtp (x:=u)
 have step:asc4 (prv x.l i) (u::x.l.drop (i+1))=(zim9 u&&preB (prv x.l i) u.path&&asc4 (some u.path) (x.l.drop (i+1))):=rfl
 rw [step] at q2
 cases h1:zim9 u with
 | false =>
  rw [h1] at hf q2
  have q2:false=B:=q2
  subst q2
  simp (disch:=first|omega|simp<;>omega|fail) [-zA,-zB,-zC,-zD,-zE,z3a0,ziom,hlx,q,g',hy,z0ve,hf]
 | true =>
  rw [h1] at hf q2
  by_cases h0:i=0
  ·subst h0
   have q2:asc4 (some u.path) (x.l.drop 1)=B:=by simpa [prv,preB] using q2
   have hpn:prv x.l 1=some u.path:=hpn
   have q0:0<x.l.length:=q
   have hy : ∀ H,zpsc H 33 (x.dv 33 enC) 0=some (.ref (enC u)):=hy
   simp (disch:=first|omega|simp<;>omega|fail) [-zA,-zB,-zC,-zD,-zE,z3a0,ziom,hlx,q,g',hy,z0ve,hf]
   exact ⟨1,z515 (by simp (disch:=first|omega|simp<;>omega|fail) [-zA,-zB,-zC,-zD,-zE,zgjt,ziom]) (by simp (disch:=first|omega|simp<;>omega|fail) [-zA,-zB,-zC,-zD,-zE,zgjt,ziom]),by omega,by omega,by rw [hpn]; exact q2⟩
  ·have hi0:(0:Int)<i:=by omega
   have hin:0<i:=by omega
   have hpi:prv x.l i=some (x.l[i-1]'(by omega)).path:=by
    unfold prv; rw [if_neg h0,List.getElem?_eq_getElem (by omega)]; rfl
   have hy2 : ∀ H,zpsc H 33 (x.dv 33 enC) ((i:Int)-1)=some (.ref (enC (x.l[i-1]'(by omega)))):=fun H=>by
    have:=zalo (h:=H) (x:=x) (i:=i-1) zuso (by omega)
    rwa [show ((i-1:Nat):Int)=(i:Int)-1 by omega] at this
   obtain ⟨w,hw⟩ : ∃ w,(x.l[i-1]'(by omega))=w:=⟨_,rfl⟩
   rw [hw] at hpi hy2
   rw [hpi] at q2
   cases h2:Op.bytesLess w.path u.path with
   | false =>
    have q2:false=B:=by rw [← q2]; simp [h2,preB]
    subst q2
    simp (disch:=first|omega|simp<;>omega|fail) [-zA,-zB,-zC,-zD,-zE,z3a0,ziom,hlx,q,g',hy,z0ve,hf,hi0,hin,hy2,z8wa,h2]
   | true =>
    have q2:asc4 (some u.path) (x.l.drop (i+1))=B:=by rw [← q2]; simp [h2,preB]
    simp (disch:=first|omega|simp<;>omega|fail) [-zA,-zB,-zC,-zD,-zE,z3a0,ziom,hlx,q,g',hy,z0ve,hf,hi0,hin,hy2,z8wa,h2]
    exact ⟨i+1,z515 (by simp (disch:=first|omega|simp<;>omega|fail) [-zA,-zB,-zC,-zD,-zE,zgjt,ziom]) (by simp (disch:=first|omega|simp<;>omega|fail) [-zA,-zB,-zC,-zD,-zE,zgjt,ziom]),by omega,by omega,by rw [hpn]; exact q2⟩
noncomputable def cVa4:List DV→Option DV:=con (fun _=>True) (fun x:Sl Ent=>[x.dv 33 enC]) (fun x => .bool (z59i x.l))
theorem z44v {x:Sl Ent}:cVa4 [x.dv 33 enC]=some (.bool (z59i x.l)):=zsn4 (f:=fun x:Sl Ent=>[x.dv 33 enC]) (g:=fun x => .bool (z59i x.l)) (fun a b e=>by
 simp only [List.cons.injEq,and_true] at e; exact zdvs e) x
theorem z6ng:(Con.pure cVa4).Sound P 70:=z2au fun x _=>zljw mix zw7m Tryd.func70 zhcw (z9h2 x)
def ltE (x e:Ent):Bool:=Op.bytesLess e.path x.path
def insE (l:List Ent) (x:Ent):List Ent:=l.takeWhile (ltE x)++x::l.dropWhile (ltE x)
theorem zxzo (l:List Ent) (x:Ent):(insE l x).length=l.length+1:=by
 unfold insE
 have:=congrArg List.length (List.takeWhile_append_dropWhile (p:=ltE x) (l:=l))
 simp only [List.length_append,List.length_cons] at this ⊢
 omega
def zzrh (l:Sl Ent) (x:Ent) (i:Nat):St:=ziva (l.dv 33 enC) (.mp 0 33 0) (oV 1 33 (l.l.take i)) (.int .i64 i) (.cells (enC x)::oT enC (l.l.take i))
theorem z6th (l:Sl Ent) (x:Ent) (hl:l.l.length≤1000):Runs tbl0 a73 [l.dv 33 enC,.agg (enC x)] ((own (insE l.l x)).dv 33 enC):=by
 refine ⟨?_⟩
 have hlx : ∀ H,lenD H (l.dv 33 enC)=some (.int .i64 l.l.length):=fun H=>zupj
 simp (disch:=first|omega|simp<;>omega|fail) [-zA,-zB,-zC,-zD,-zE,a73]
 refine zlm5 (zzrh l x) (fun i=>l.l.length-i) (fun i=>i≤l.l.length ∧ ∀ j (h:j<l.l.length),j<i→ltE x l.l[j]=true) 0 (z515 (by simp (disch:=first|omega|simp<;>omega|fail) [-zA,-zB,-zC,-zD,-zE,zzrh,ziva,zl8p]) (by simp (disch:=first|omega|simp<;>omega|fail) [-zA,-zB,-zC,-zD,-zE,zzrh,ziva,zkrk])) ⟨by omega,fun j _ hj=>by omega⟩ (fun i hi => ?_)
 obtain ⟨q1,q2⟩:=hi
 have fin:(i=l.l.length ∨ ∃ h:i<l.l.length,ltE x l.l[i]=false)→insE l.l x=l.l.take i++x::l.l.drop i:=fun h=>by
  obtain ⟨a,b⟩:=zig9 (p:=ltE x) q1 q2 h
  unfold insE; rw [a,b]
 have hil:=zxzo l.l x
 obtain ⟨L,hL⟩ : ∃ L,l.l.take i=L:=⟨_,rfl⟩
 have hLl:L.length=i:=by rw [← hL,List.length_take]; omega
 have hdl:(l.l.drop i).length=l.l.length-i:=List.length_drop ..
 obtain ⟨D,hD⟩ : ∃ D,l.l.drop i=D:=⟨_,rfl⟩
 have hs0 : ∀ H,ziwb H 33 (l.dv 33 enC) (some (.int .i64 i)) none none=some ((l.part i l.l.length (l.l.length == l.l.length)).dv 33 enC):=fun H=>z0ke zuso (by simp [zo77,iD]; omega) (Nat.le_refl _)
 obtain ⟨Y,hY⟩ : ∃ Y,l.part i l.l.length (l.l.length == l.l.length)=Y:=⟨_,rfl⟩
 have hYl:Y.l=D:=by rw [← hY,← hD]; show (l.l.drop i).take (l.l.length-i)=_; exact List.take_of_length_le (by omega)
 rw [hY] at hs0
 have hv : ∀ H,visY H (Y.dv 33 enC)=some (D.length,D.flatMap enC):=fun H=>by rw [zwaa zuso,hYl]
 rw [hD] at hdl
 have fin:(i=l.l.length ∨ ∃ h:i<l.l.length,ltE x l.l[i]=false)→insE l.l x=(L++[x])++D:=fun h=>by rw [fin h,hL,hD]; simp
 simp only [zzrh]
 rw [hL]
 have hap1:=zte0 (f:=enC) (k:=1) (b:=48) (l:=L) (x:=x) (h:=[AObj.cells (enC x)]) rfl zuso (by decide) (by decide) (fun _=>zo6u) (by omega)
 have hap2:=z612 (f:=enC) (k:=1) (b:=48) (l:=L++[x]) (cs:=D) (h:=[AObj.cells (enC x)]) rfl zuso (by decide) (by decide) (fun _=>zo6u) (by simp; omega)
 have hsn:=zigm (f:=enC) (K:=33) (k:=1) (l:=(L++[x])++D) (h:=[AObj.cells (enC x)]) (r:=[]) rfl zuso zt9q (by simp; omega)
 have hne:(L++[x])++D≠[]:=by simp
 rw [z527 hne] at hsn
 simp only [List.cons_append,List.nil_append,List.append_nil] at hap1 hap2 hsn
 have hlt : ∀ {a b:Str},zhl4 .lss (.str a) (.str b)=some (.bool (Op.bytesLess a b)):=rfl
 by_cases h:i<l.l.length
 case neg =>
  have h':¬ (i:Int)<l.l.length:=by omega
  rw [fin (.inl (by omega))]
  generalize (L++[x])++D=Z at hap2 hsn ⊢
  simp (disch:=first|omega|simp<;>omega|fail) [-zA,-zB,-zC,-zD,-zE,zqxw,ziva,hlx,h,h',zdny,hs0,hv,hap1,hap2,hsn,zch3,zu1c]
 have h':(i:Int)<l.l.length:=by omega
 have hg : ∀ H,zpsc H 33 (l.dv 33 enC) i=some (.ref (enC l.l[i])):=fun H=>zalo zuso h
 have hnx:l.l.take (i+1)=L++[l.l[i]]:=by rw [List.take_succ_eq_append_getElem h,hL]
 have hinv:ltE x l.l[i]=true → ∀ j (h:j<l.l.length),j<i+1→ltE x l.l[j]=true:=fun e j hj hji=>by
  by_cases ej:j=i
  ·subst ej; exact e
  ·exact q2 j hj (by omega)
 have fin2:ltE x l.l[i]=false→insE l.l x=(L++[x])++D:=fun e=>fin (.inr ⟨h,e⟩)
 obtain ⟨y,hy⟩ : ∃ y,l.l[i]=y:=⟨_,rfl⟩
 rw [hy] at hg hnx hinv fin2
 have hap3:=zte0 (f:=enC) (k:=1) (b:=48) (l:=L) (x:=y) (h:=[AObj.cells (enC x)]) rfl zuso (by decide) (by decide) (fun _=>zo6u) (by omega)
 simp only [List.cons_append,List.nil_append] at hap3
 have hc0:ltE x y=Op.bytesLess y.path x.path:=rfl
 cases hc:ltE x y with
 | false =>
  rw [fin2 hc]
  rw [hc0] at hc
  generalize (L++[x])++D=Z at hap2 hsn ⊢
  simp (disch:=first|omega|simp<;>omega|fail) [-zA,-zB,-zC,-zD,-zE,zqxw,ziva,hlx,h,h',hg,hlt,hc,zdny,hs0,hv,hap1,hap2,hsn,zch3,zu1c]
 | true =>
  have hinv:=hinv hc
  rw [hc0] at hc
  simp (disch:=first|omega|simp<;>omega|fail) [-zA,-zB,-zC,-zD,-zE,zqxw,ziva,hlx,h,h',hg,hlt,hc,zdny,hap3]
  exact ⟨i+1,z515 (by simp (disch:=first|omega|simp<;>omega|fail) [-zA,-zB,-zC,-zD,-zE,zzrh,ziva,hnx]) (by simp (disch:=first|omega|simp<;>omega|fail) [-zA,-zB,-zC,-zD,-zE,zzrh,ziva,hnx]),by omega,by omega,hinv⟩
noncomputable def cIn4:List DV→Option DV:=con (fun a:Sl Ent × Ent=>a.1.l.length≤1000) (fun a=>[a.1.dv 33 enC,.agg (enC a.2)]) (fun a=>(own (insE a.1.l a.2)).dv 33 enC)
theorem zruz {s:Sl Ent} {x:Ent} (h:s.l.length≤1000):cIn4 [s.dv 33 enC,.agg (enC x)]=some ((own (insE s.l x)).dv 33 enC) :=
 zzno (A:=fun a:Sl Ent × Ent=>a.1.l.length≤1000) (f:=fun a=>[a.1.dv 33 enC,.agg (enC a.2)]) (g:=fun a=>(own (insE a.1.l a.2)).dv 33 enC) (by
  rintro ⟨a,b⟩ ⟨c,d⟩ e
  simp only [List.cons.injEq,DV.agg.injEq,and_true] at e
  rw [zdvs e.1,zxv7 e.2]) (s,x) h
theorem zo0h:(Con.pure cIn4).Sound P 73:=z2au fun a h=>zljw mix zr5o Tryd.func73 zn06 (z6th a.1 a.2 h)
def mvL (a b:Str):List Ent→List Ent→List Ent
 | acc,[]=>acc
 | acc,e::r=>mvL a b (match relO a b e.path with|none=>acc|some p=>insE acc ⟨p,e.dg⟩) r
theorem zis3 (a b:Str) : ∀ (r acc:List Ent),(mvL a b acc r).length≤acc.length+r.length
 | [],acc=>by simp [mvL]
 | e::r,acc=>by
  have h:=zis3 a b r (match relO a b e.path with|none=>acc|some p=>insE acc ⟨p,e.dg⟩)
  rw [mvL]
  have:(match relO a b e.path with|none=>acc|some p=>insE acc ⟨p,e.dg⟩).length≤acc.length+1:=by
   cases relO a b e.path with
   | none=>simp
   | some p=>simp [zxzo]
  simp only [List.length_cons]; omega
def mvOk (s:List Ent) (a b:Str):Bool:=z59i s&&dirD a&&dirD b
def zj0v (s:List Ent) (a b:Str):List Ent:=if mvOk s a b then mvL a b [] s else []
def zy20 (s:List Ent) (a b:Str):Int:=if mvOk s a b then 0 else 1
noncomputable def zcwb:Tbl:=addT 70 (.pure cVa4) (addT 71 (.pure (cS dirB)) (addT 72 (.pure (cSSS relD)) (addT 73 (.pure cIn4) tbl0)))
theorem zvdt:zcwb 70 = .pure cVa4:=by simp [zcwb]
theorem za61:zcwb 71 = .pure (cS dirB):=by simp [zcwb]
theorem zbn8:zcwb 72 = .pure (cSSS relD):=by simp [zcwb]
theorem zksv:zcwb 73 = .pure cIn4:=by simp [zcwb]
theorem z9es:zcwb.Sound P:=z0rp z6ng (z0rp (zzn8 fun s=>zljw mix zpnl Tryd.func71 zbtg (z0t3 s)) (z0rp (ztgs fun a b s=>zljw mix z130 Tryd.func72 z0xs (zov0 a b s)) (z0rp zo0h zr5o)))
structure MV where
 i:Nat
 A:List Ent
def zxp4 (s:Sl Ent) (a b:Str) (m:MV):St:=zben (s.dv 33 enC) (.str a) (.str b) ((ownN m.A).dv 33 enC) (.int .i64 m.i) []
theorem zcpg (s:Sl Ent) (a b:Str):Runs zcwb a24 [s.dv 33 enC,.str a,.str b] (.tup [(ownN (zj0v s.l a b)).dv 33 enC,.int .i64 (zy20 s.l a b)]):=by
 refine ⟨?_⟩
 have hlx : ∀ H,lenD H (s.dv 33 enC)=some (.int .i64 s.l.length):=fun H=>zupj
 have hv:=z44v (x:=s)
 have hsn : ∀ (h:List AObj) (x:Sl Ent),snap h 3 (x.dv 33 enC)=some (x.dv 33 enC):=fun h x=>z6nl (zru8 x)
 have bad:mvOk s.l a b=false→(ownN (zj0v s.l a b)).dv 33 enC = .nils∧zy20 s.l a b=1:=fun h=>by
  unfold zj0v zy20; rw [h]; exact ⟨rfl,rfl⟩
 cases h1:z59i s.l with
 | false =>
  obtain ⟨e1,e2⟩:=bad (by unfold mvOk; rw [h1]; rfl)
  rw [e1,e2]
  rw [h1] at hv
  simp (disch:=first|omega|simp<;>omega|fail) [-zA,-zB,-zC,-zD,-zE,a24,zvdt,hv]
 | true =>
 rw [h1] at hv
 cases h2:dirD a with
 | false =>
  obtain ⟨e1,e2⟩:=bad (by unfold mvOk; rw [h1,h2]; rfl)
  rw [e1,e2]
  simp (disch:=first|omega|simp<;>omega|fail) [-zA,-zB,-zC,-zD,-zE,a24,zvdt,hv,za61,zk5k,dirB,h2]
 | true =>
 cases h3:dirD b with
 | false =>
  obtain ⟨e1,e2⟩:=bad (by unfold mvOk; rw [h1,h2,h3]; rfl)
  rw [e1,e2]
  simp (disch:=first|omega|simp<;>omega|fail) [-zA,-zB,-zC,-zD,-zE,a24,zvdt,hv,za61,zk5k,dirB,h2,h3]
 | true =>
 have hok:mvOk s.l a b=true:=by unfold mvOk; rw [h1,h2,h3]; rfl
 have hs64:s.l.length≤64:=by
  unfold z59i at h1
  simp only [Bool.and_eq_true,decide_eq_true_eq] at h1
  exact h1.1
 have e1:zj0v s.l a b=mvL a b [] s.l:=if_pos hok
 have e2:zy20 s.l a b=0:=if_pos hok
 rw [e1,e2]
 obtain ⟨R,hR⟩ : ∃ R,mvL a b [] s.l=R:=⟨_,rfl⟩
 rw [hR]
 simp (disch:=first|omega|simp<;>omega|fail) [-zA,-zB,-zC,-zD,-zE,a24,zvdt,hv,za61,zk5k,dirB,h2,h3]
 refine zlm5 (zxp4 s a b) (fun m=>s.l.length-m.i) (fun m=>m.i≤s.l.length∧mvL a b m.A (s.l.drop m.i)=R∧m.A.length≤m.i) ⟨0,[]⟩ (z515 (by simp (disch:=first|omega|simp<;>omega|fail) [-zA,-zB,-zC,-zD,-zE,zxp4,zben,z2i7]) (by simp (disch:=first|omega|simp<;>omega|fail) [-zA,-zB,-zC,-zD,-zE,zxp4,zben])) ⟨by simp,by simpa using hR,by simp⟩ (fun m hm => ?_)
 obtain ⟨i,A⟩:=m
 obtain ⟨q1,q2,q3⟩:=hm
 simp only at q1 q2 q3
 simp only [zxp4]
 by_cases q:i<s.l.length
 case neg =>
  have g':¬ (i:Int)<s.l.length:=by omega
  rw [List.drop_of_length_le (by omega)] at q2
  have q2:A=R:=q2
  subst q2
  simp (disch:=first|omega|simp<;>omega|fail) [-zA,-zB,-zC,-zD,-zE,zqw7,zben,hlx,q,g',hsn]
 have g':(i:Int)<s.l.length:=by omega
 have hy : ∀ H,zpsc H 33 (s.dv 33 enC) i=some (.ref (enC s.l[i])):=fun H=>zalo zuso q
 rw [List.drop_eq_getElem_cons q] at q2
 obtain ⟨u,hu⟩ : ∃ u,s.l[i]=u:=⟨_,rfl⟩
 rw [hu] at hy q2
 rw [mvL] at q2
 have hAl:(ownN A).l=A:=zd8n (by omega)
 cases h4:relO a b u.path with
 | none =>
  rw [h4] at q2
  simp (disch:=first|omega|simp<;>omega|fail) [-zA,-zB,-zC,-zD,-zE,zqw7,zben,hlx,q,g',hy,zbn8,zfnp,relD,h4,optS]
  exact ⟨⟨i+1,A⟩,z515 (by simp (disch:=first|omega|simp<;>omega|fail) [-zA,-zB,-zC,-zD,-zE,zxp4,zben]) (by simp (disch:=first|omega|simp<;>omega|fail) [-zA,-zB,-zC,-zD,-zE,zxp4,zben]),by simp only; omega,by simp only; omega,q2,by simp only; omega⟩
 | some p =>
  rw [h4] at q2
  have hb:=zg8c (p:=p) (d:=u.dg)
  have hin:=zruz (s:=ownN A) (x:=⟨p,u.dg⟩) (by rw [hAl]; omega)
  rw [hAl] at hin
  have hne:insE A ⟨p,u.dg⟩≠[]:=fun e=>by have:=zxzo A ⟨p,u.dg⟩; rw [e] at this; simp at this
  have hil:=zxzo A ⟨p,u.dg⟩
  have q2:mvL a b (insE A ⟨p,u.dg⟩) (s.l.drop (i+1))=R:=q2
  obtain ⟨Z,hZ⟩ : ∃ Z,insE A ⟨p,u.dg⟩=Z:=⟨_,rfl⟩
  rw [hZ] at hin hne hil q2
  have hin2:cIn4 [(ownN A).dv 33 enC,.agg (.str p::dgC u.dg)]=some ((own Z).dv 33 enC):=hin
  simp (disch:=first|omega|simp<;>omega|fail) [-zA,-zB,-zC,-zD,-zE,zqw7,zben,hlx,q,g',hy,zbn8,zfnp,relD,h4,optS,hb,zksv,hin,hin2]
  exact ⟨⟨i+1,Z⟩,z515 (by simp (disch:=first|omega|simp<;>omega|fail) [-zA,-zB,-zC,-zD,-zE,zxp4,zben,z527 hne]) (by simp (disch:=first|omega|simp<;>omega|fail) [-zA,-zB,-zC,-zD,-zE,zxp4,zben]),by simp only; omega,by simp only; omega,q2,by simp only; omega⟩
noncomputable def cMov:List DV→Option DV:=con (fun _=>True) (fun x:Sl Ent × Str × Str=>[x.1.dv 33 enC,.str x.2.1,.str x.2.2]) (fun x => .tup [(ownN (zj0v x.1.l x.2.1 x.2.2)).dv 33 enC,.int .i64 (zy20 x.1.l x.2.1 x.2.2)])
theorem zwkn {s:Sl Ent} {a b:Str}:cMov [s.dv 33 enC,.str a,.str b]=some (.tup [(ownN (zj0v s.l a b)).dv 33 enC,.int .i64 (zy20 s.l a b)]) :=
 zsn4 (f:=fun x:Sl Ent × Str × Str=>[x.1.dv 33 enC,.str x.2.1,.str x.2.2]) (g:=fun x => .tup [(ownN (zj0v x.1.l x.2.1 x.2.2)).dv 33 enC,.int .i64 (zy20 x.1.l x.2.1 x.2.2)]) (by
  rintro ⟨a,b,c⟩ ⟨d,e,f⟩ h
  simp only [List.cons.injEq,DV.str.injEq,and_true] at h
  rw [zdvs h.1,h.2.1,h.2.2]) (s,a,b)
theorem zibo:(Con.pure cMov).Sound P 24:=z2au fun x _=>zljw mix z9es Tryd.func24 zcoa (zcpg x.1 x.2.1 x.2.2)
end Go.Proofs.YtjknipdiglpnlaaDoor
set_option linter.unusedSimpArgs false
set_option linter.unusedVariables false
set_option maxRecDepth 20000
namespace Go.Proofs.YtjknipdiglpnlaaDoor
open Go Go.Am
structure C13 where
 self:Lnk
 done:Sl Lnk
 pr:Bool
def csC (c:C13):List DV:=lkC c.self++[c.done.dv 3 lkC,.bool c.pr]
theorem ztlc (c:C13):zbao (csC c)=true:=by
 unfold csC; exact zg0c (z53g _) (by simp only [zbao,zyp8,zys6,Bool.and_self])
def fetS:Str:=[102,101,116,99,104]
def buiS:Str:=[98,117,105,108,100]
def pacS:Str:=[112,97,99,107]
def inS:Str:=[105,110]
def dn2 (a b:Lnk):Sl Lnk:=⟨some true,[a,b],by simp,by simp⟩
theorem znr1 (a b:Lnk):(dn2 a b).dv 3 lkC = .sl true 3 2 (lkC a++lkC b):=by simp [dn2,Sl.dv,slD]
def mdA (t:Tp):Lnk:=zyjl t fetS
def mdE1 (t:Tp):Tp × Sl Ent:=z7ym (zd2t t) (mdA t).p
def mdB (t:Tp):Lnk:=⟨buiS,(mdA t).p,(mdE1 t).2⟩
def mdE2 (t:Tp):Tp × Sl Ent:=z7ym (mdE1 t).1 (mdE1 t).2
def mdE3 (t:Tp):Tp × Sl Ent:=z7ym (mdE2 t).1 (mdE2 t).2
def mdT (t:Tp):Tp:=(mdE3 t).1.adv 1
def mdM (t:Tp):Sl Ent:=ownN (zj0v (mdE1 t).2.l [] inS)
def mdE4 (t:Tp):Tp × Sl Ent:=z7ym (mdT t) (mdM t)
def mdC (t:Tp):Lnk:=if tpN (mdE3 t).1 3=0 then ⟨pacS,mdM t,(mdE4 t).2⟩ else ⟨pacS,(mdE1 t).2,(mdE3 t).2⟩
def mdU (t:Tp):Tp:=if tpN (mdE3 t).1 3=0 then (mdE4 t).1 else mdT t
def madC (t:Tp):C13:=⟨mdC t,dn2 (mdA t) (mdB t),decide (tpN (mdU t) 2=0)⟩
def madT (t:Tp):Tp:=(mdU t).adv 1
theorem z31d (s:List Ent) (a b:Str):(zj0v s a b).length≤s.length:=by
 unfold zj0v
 split
 ·have:=zis3 a b s []; simpa using this
 ·simp
attribute [local irreducible] z7ym zyjl zd2t zxwj ownN tpN
theorem z1bh (t:Tp) (ht:t.at_<3500000000):(mdA t).p.l.length≤8∧(zd2t t).at_≤t.at_+45∧(mdE1 t).2.l.length≤11∧(mdE1 t).1.at_≤t.at_+64∧(mdE2 t).2.l.length≤14∧(mdE2 t).1.at_≤t.at_+83∧(mdE3 t).2.l.length≤17∧(mdE3 t).1.at_≤t.at_+102∧(mdM t).l.length≤11∧(mdE4 t).2.l.length≤14∧(mdE4 t).1.at_≤t.at_+122∧(mdU t).at_≤t.at_+122:=by
 obtain ⟨_,a1,a2⟩:=zoiq t fetS
 have b:=za6t (t:=zd2t t) (s:=(mdA t).p) (by have:(mdA t).p.l.length≤8:=a1; omega)
 have a1:(mdA t).p.l.length≤8:=a1
 have b1:(mdE1 t).1.at_≤(zd2t t).at_+19:=b.1
 have b2:(mdE1 t).2.l.length≤(mdA t).p.l.length+3:=b.2
 have c:=za6t (t:=(mdE1 t).1) (s:=(mdE1 t).2) (by omega)
 have c1:(mdE2 t).1.at_≤(mdE1 t).1.at_+19:=c.1
 have c2:(mdE2 t).2.l.length≤(mdE1 t).2.l.length+3:=c.2
 have d:=za6t (t:=(mdE2 t).1) (s:=(mdE2 t).2) (by omega)
 have d1:(mdE3 t).1.at_≤(mdE2 t).1.at_+19:=d.1
 have d2:(mdE3 t).2.l.length≤(mdE2 t).2.l.length+3:=d.2
 have m:=z31d (mdE1 t).2.l [] inS
 have m1:(mdM t).l.length≤11:=by
  unfold mdM; rw [zd8n (by omega)]; omega
 have e:=za6t (t:=mdT t) (s:=mdM t) (by omega)
 have t1:(mdT t).at_=(mdE3 t).1.at_+1:=by unfold mdT; rw [zpza]
 have e1:(mdE4 t).1.at_≤(mdT t).at_+19:=e.1
 have e2:(mdE4 t).2.l.length≤(mdM t).l.length+3:=e.2
 have u:(mdU t).at_≤t.at_+122:=by
  unfold mdU
  by_cases h:tpN (mdE3 t).1 3=0
  ·rw [if_pos h]; omega
  ·rw [if_neg h]; omega
 clear b c d e m
 generalize zd2t t=x0 at *
 generalize mdA t=x1 at *
 generalize mdE1 t=x2 at *
 generalize mdE2 t=x3 at *
 generalize mdE3 t=x4 at *
 generalize mdE4 t=x5 at *
 generalize mdM t=x6 at *
 generalize mdU t=x7 at *
 generalize mdT t=x8 at *
 refine ⟨?_,?_,?_,?_,?_,?_,?_,?_,?_,?_,?_,?_⟩<;>omega
noncomputable def z9uz:Tbl:=addT 59 (.tch cLkT) (addT 60 (.tch cEdt) (addT 37 (.tch z1m3) (addT 24 (.pure cMov) tbl0)))
theorem zhi2:z9uz 59 = .tch cLkT:=by simp [z9uz]
theorem zbny:z9uz 60 = .tch cEdt:=by simp [z9uz]
theorem z9gi:z9uz 37 = .tch z1m3:=by simp [z9uz]
theorem z27v:z9uz 24 = .pure cMov:=by simp [z9uz]
theorem z2mr:z9uz.Sound P:=z0rp z3ot (z0rp zg4h (z0rp z51e (z0rp zibo zr5o)))
theorem z73r {a b:Lnk}:bslD 3 2 [.str [],.nils,.nils] [(0,3,.agg (lkC a)),(3,3,.agg (lkC b))]=some (.sl true 3 2 (lkC a++lkC b)):=rfl
theorem zle8 {h:List AObj} {id:Nat} {c:C13}:zy6o h id 5 0 (.agg (csC c)) (some [.str [],.nils,.nils,.nils,.bool false])=some (.junk,h.set id (.cells (csC c))):=zfc1 rfl rfl (by simp [csC,lkC,z4ja])
theorem z4ks (t:Tp) (ht:t.at_<3500000000):RunsF z9uz a16 [.mp 0 2 0] [.cells (tpC t)] (.agg (csC (madC t))) [.cells (tpC (madT t))]:=by
 refine ⟨?_⟩
 obtain ⟨b1,b2,b3,b4,b5,b6,b7,b8,b9,b10,b11,b12⟩:=z1bh t ht
 have k1:cLkT [.str [102,101,116,99,104]] (tpC t)=some (.agg (lkC (mdA t)),tpC (zd2t t)):=zauq (t:=t) (st:=fetS) (by omega)
 have k2:cEdt [(mdA t).p.dv 33 enC] (tpC (zd2t t))=some ((mdE1 t).2.dv 33 enC,tpC (mdE1 t).1):=zref (t:=zd2t t) (s:=(mdA t).p) (by omega) (by omega)
 have k3:cEdt [(mdE1 t).2.dv 33 enC] (tpC (mdE1 t).1)=some ((mdE2 t).2.dv 33 enC,tpC (mdE2 t).1):=zref (by omega) (by omega)
 have k4:cEdt [(mdE2 t).2.dv 33 enC] (tpC (mdE2 t).1)=some ((mdE3 t).2.dv 33 enC,tpC (mdE3 t).1):=zref (by omega) (by omega)
 have k5:z1m3 [.int .i64 3] (tpC (mdE3 t).1)=some (.int .i64 (tpN (mdE3 t).1 3),tpC (mdT t)):=z44h (by omega) (by omega) (by omega)
 have k6:cMov [(mdE1 t).2.dv 33 enC,.str [],.str [105,110]]=some (.tup [(mdM t).dv 33 enC,.int .i64 (zy20 (mdE1 t).2.l [] inS)]):=zwkn (s:=(mdE1 t).2) (a:=[]) (b:=inS)
 have t1:(mdT t).at_=(mdE3 t).1.at_+1:=by unfold mdT; rw [zpza]
 have k7:cEdt [(mdM t).dv 33 enC] (tpC (mdT t))=some ((mdE4 t).2.dv 33 enC,tpC (mdE4 t).1):=zref (by omega) (by omega)
 have k8:z1m3 [.int .i64 2] (tpC (mdU t))=some (.int .i64 (tpN (mdU t) 2),tpC (madT t)):=z44h (by omega) (by omega) (by omega)
 have hC:madC t=⟨mdC t,dn2 (mdA t) ⟨buiS,(mdA t).p,(mdE1 t).2⟩,decide (tpN (mdU t) 2=0)⟩:=rfl
 have hc:mdC t=if tpN (mdE3 t).1 3=0 then ⟨pacS,mdM t,(mdE4 t).2⟩ else ⟨pacS,(mdE1 t).2,(mdE3 t).2⟩:=rfl
 have hu:mdU t=if tpN (mdE3 t).1 3=0 then (mdE4 t).1 else mdT t:=rfl
 obtain ⟨E,hE⟩ : ∃ E,zy20 (mdE1 t).2.l [] inS=E:=⟨_,rfl⟩
 rw [hE] at k6
 obtain ⟨A,hA⟩ : ∃ A,mdA t=A:=⟨_,rfl⟩
 rw [hA] at k1 k2 hC
 obtain ⟨A1,A2,A3⟩:=A
 have k2:cEdt [A3.dv 33 enC] (tpC (zd2t t))=some ((mdE1 t).2.dv 33 enC,tpC (mdE1 t).1):=k2
 have hC:madC t=⟨mdC t,dn2 ⟨A1,A2,A3⟩ ⟨buiS,A3,(mdE1 t).2⟩,decide (tpN (mdU t) 2=0)⟩:=hC
 obtain ⟨U0,hU0⟩ : ∃ U,zd2t t=U:=⟨_,rfl⟩
 rw [hU0] at k1 k2
 obtain ⟨E1,hE1⟩ : ∃ U,mdE1 t=U:=⟨_,rfl⟩
 rw [hE1] at k2 k3 k6 hC hc
 obtain ⟨E2,hE2⟩ : ∃ U,mdE2 t=U:=⟨_,rfl⟩
 rw [hE2] at k3 k4
 obtain ⟨E3,hE3⟩ : ∃ U,mdE3 t=U:=⟨_,rfl⟩
 rw [hE3] at k4 k5 hc hu
 obtain ⟨M,hM⟩ : ∃ U,mdM t=U:=⟨_,rfl⟩
 rw [hM] at k6 k7 hc
 obtain ⟨E4,hE4⟩ : ∃ U,mdE4 t=U:=⟨_,rfl⟩
 rw [hE4] at k7 hc hu
 obtain ⟨n,hn⟩ : ∃ U,tpN E3.1 3=U:=⟨_,rfl⟩
 rw [hn] at k5 hc hu
 obtain ⟨TT,hTT⟩ : ∃ U,mdT t=U:=⟨_,rfl⟩
 rw [hTT] at k5 k7 hu
 obtain ⟨UU,hUU⟩ : ∃ U,mdU t=U:=⟨_,rfl⟩
 rw [hUU] at k8 hu hC
 obtain ⟨W,hW⟩ : ∃ U,madT t=U:=⟨_,rfl⟩
 rw [hW] at k8 ⊢
 obtain ⟨n2,hn2⟩ : ∃ U,tpN UU 2=U:=⟨_,rfl⟩
 rw [hn2] at k8 hC
 have hfz : ∀ k,fzL 1 k (tpC W) (tpC W):=fun k=>znnb (zs7w _)
 have hfo : ∀ H c,fzLo 1 H 3 (csC c)=some (csC c):=fun H c=>zojd (ztlc c)
 have hdn:DV.sl true 3 2 (lkC ⟨A1,A2,A3⟩++lkC ⟨buiS,A3,E1.2⟩)=(dn2 ⟨A1,A2,A3⟩ ⟨buiS,A3,E1.2⟩).dv 3 lkC:=(znr1 _ _).symm
 have ho5 : ∀ c,oneC 5 true (csC c)=some (.agg (csC c)):=fun c=>rfl
 have hbs:=z73r (a:=⟨A1,A2,A3⟩) (b:=⟨buiS,A3,E1.2⟩)
 rw [hdn] at hbs
 simp only [buiS] at hbs
 have hC':madC t=⟨mdC t,dn2 ⟨A1,A2,A3⟩ ⟨[98,117,105,108,100],A3,E1.2⟩,decide (n2=0)⟩:=hC
 obtain ⟨D,hD⟩ : ∃ D,dn2 ⟨A1,A2,A3⟩ ⟨[98,117,105,108,100],A3,E1.2⟩=D:=⟨_,rfl⟩
 rw [hD] at hbs hC'
 have st1 : ∀ (h:List AObj) (id:Nat) (v:Sl Ent) (a b c:DV),zy6o h id 1 1 (v.dv 33 enC) (some [a,b,c])=some (.junk,h.set id (.cells [a,v.dv 33 enC,c])):=fun h id v a b c=>by
  rw [Am.storeO_1 (zfr8 _) (z4ja _) (by simp)]; rfl
 have st2 : ∀ (h:List AObj) (id:Nat) (v:Sl Ent) (a b c:DV),zy6o h id 1 2 (v.dv 33 enC) (some [a,b,c])=some (.junk,h.set id (.cells [a,b,v.dv 33 enC])):=fun h id v a b c=>by
  rw [Am.storeO_1 (zfr8 _) (z4ja _) (by simp)]; rfl
 have so5 : ∀ (h:List AObj) (id:Nat) (a:Str) (b c:Sl Ent) (d:Sl Lnk) (e:Bool),zy6o h id 5 0 (.agg [.str a,b.dv 33 enC,c.dv 33 enC,d.dv 3 lkC,.bool e]) (some [.str [],.nils,.nils,.nils,.bool false])=some (.junk,h.set id (.cells [.str a,b.dv 33 enC,c.dv 33 enC,d.dv 3 lkC,.bool e])):=fun h id a b c d e=>zfc1 rfl rfl (by simp [z4ja])
 have so3 : ∀ (h:List AObj) (id:Nat) (a:Str) (b c:Sl Ent),zy6o h id 3 0 (.agg [.str a,b.dv 33 enC,c.dv 33 enC]) (some [.str [],.nils,.nils])=some (.junk,h.set id (.cells [.str a,b.dv 33 enC,c.dv 33 enC])):=fun h id a b c=>zfc1 rfl rfl (by simp [z4ja])
 have bd5 : ∀ (a:Str) (b c:Sl Ent) (d:Sl Lnk) (e:Bool),zvnk [.str [],.nils,.nils,.nils,.bool false] [(0,3,.agg [.str a,b.dv 33 enC,c.dv 33 enC]),(3,1,d.dv 3 lkC),(4,1,.bool e)]=some (.agg [.str a,b.dv 33 enC,c.dv 33 enC,d.dv 3 lkC,.bool e]):=fun a b c d e=>by
  simp [zvnk,zi03,zk7y]
 have bd3 : ∀ (a:Str) (b c:Sl Ent),zvnk [.str [],.nils,.nils] [(0,1,.str a),(1,1,b.dv 33 enC),(2,1,c.dv 33 enC)]=some (.agg [.str a,b.dv 33 enC,c.dv 33 enC]):=fun a b c=>by
  simp [zvnk,zi03,zk7y]
 have o5 : ∀ a b c d e:DV,oneC 5 true [a,b,c,d,e]=some (.agg [a,b,c,d,e]):=fun _ _ _ _ _=>rfl
 have fd : ∀ H (x:Sl Ent),fz 1 H 3 (x.dv 33 enC)=some (x.dv 33 enC):=fun H x=>zqge (zru8 x)
 have fl3 : ∀ H (x:Sl Lnk),fz 1 H 3 (x.dv 3 lkC)=some (x.dv 3 lkC):=fun H x=>zqge (zys6 x)
 have e1:lkC ⟨A1,A2,A3⟩=[.str A1,A2.dv 33 enC,A3.dv 33 enC]:=rfl
 have e2:lkC ⟨[98,117,105,108,100],A3,E1.2⟩=[.str [98,117,105,108,100],A3.dv 33 enC,E1.2.dv 33 enC]:=rfl
 rw [e1] at k1 hbs
 rw [e2] at hbs
 have e3 : ∀ b c d e,csC ⟨⟨pacS,b,c⟩,d,e⟩=[.str [112,97,99,107],b.dv 33 enC,c.dv 33 enC,d.dv 3 lkC,.bool e]:=fun _ _ _ _=>rfl
 by_cases h0:n=0
 ·subst h0
  rw [if_pos rfl] at hc hu
  subst hu
  rw [hC',hc,e3]
  simp (disch:=first|omega|simp<;>omega|fail) [-zA,-zB,-zC,-zD,-zE,a16,zhi2,k1,so3,bd3,zbny,k2,k3,k4,z9gi,k5,z27v,k6,st1,k7,st2,k8,hbs,z6o8,bd5,so5,hfz,o5,fd,fl3,z89m,zkbv]
  rw [← hD,znr1]; rfl
 ·rw [if_neg h0] at hc hu
  subst hu
  rw [hC',hc,e3]
  simp (disch:=first|omega|simp<;>omega|fail) [-zA,-zB,-zC,-zD,-zE,a16,zhi2,k1,so3,bd3,zbny,k2,k3,k4,z9gi,k5,h0,k8,hbs,z6o8,bd5,so5,hfz,o5,fd,fl3,z89m,zkbv]
  rw [← hD,znr1]; rfl
noncomputable def cMa3:List DV→List DV→Option (DV × List DV):=conT (fun a:Tp=>a.at_<3500000000) (fun a=>[]) tpC (fun a=>(.agg (csC (madC a)),tpC (madT a)))
theorem zru6 {t:Tp} (h:t.at_<3500000000):cMa3 [] (tpC t)=some (.agg (csC (madC t)),tpC (madT t)) :=
 ztyo (A:=fun a:Tp=>a.at_<3500000000) (f:=fun a=>[]) (s:=tpC) (fun a b _ e=>by rw [z15z e]) t h
theorem zcri:(Con.tch cMa3).Sound P 16 :=
 z0tq (fun a _=>⟨rfl,zs7w _,by simp only [zyp8,ztlc],zs7w _⟩) fun a h=>zizi mix z2mr Tryd.func16 zddi (z4ks a h) (Nat.le_refl _)
end Go.Proofs.YtjknipdiglpnlaaDoor
set_option linter.unusedSimpArgs false
set_option linter.unusedVariables false
set_option maxRecDepth 8000
namespace Go.Proofs.YtjknipdiglpnlaaDoor
open Go Go.Am
theorem zv6c : ∀ c ∈ nmB,zj1f c=true ∧ ∀ a ∈ nmA,zj1f (a++[47]++c)=true ∧ ∀ b ∈ nmA,zj1f (a++[47]++b++[47]++c)=true:=by decide +kernel
theorem z1qo (t:Tp):zj1f (zczq t)=true:=by
 have hn:=z9sd t
 unfold zczq
 have hA : ∀ t,zzh5 t nmA ∈ nmA:=fun t=>zqrp t (by decide)
 have hB : ∀ t,zzh5 t nmB ∈ nmB:=fun t=>zqrp t (by decide)
 obtain ⟨n,hN⟩ : ∃ n,zf1o t=n:=⟨_,rfl⟩
 rw [hN] at hn ⊢
 rcases n with _|_|_|n
 ·simpa [pthL] using (zv6c _ (hB (t.adv 1))).1
 ·have:=((zv6c _ (hB ((t.adv 1).adv 1))).2 _ (hA (t.adv 1))).1
  simpa [pthL] using this
 ·have:=((zv6c _ (hB (((t.adv 1).adv 1).adv 1))).2 _ (hA (t.adv 1))).2 _ (hA ((t.adv 1).adv 1))
  simpa [pthL] using this
 ·omega
theorem zc8p (t:Tp):zim9 (newE t)=true:=by
 unfold zim9 newE
 simp [z1qo,z7d3]
def eLt (a b:Ent):Prop:=Op.bytesLess a.path b.path=true
structure GoodE (l:List Ent):Prop where
 s:l.Pairwise eLt
 f : ∀ e ∈ l,zim9 e=true
theorem zey8:GoodE []:=⟨List.Pairwise.nil,fun e h=>by simp at h⟩
theorem zurc {a b c:Ent} (h:eLt a b) (h':eLt b c):eLt a c:=z8c3 _ _ _ h h'
theorem zhdu {a b:Ent} (h:eLt a b):a.path≠b.path:=fun e=>by
 unfold eLt at h; rw [e,zrk4] at h; cases h
theorem zhsq {a b:Ent} (h:Op.bytesLess b.path a.path=false) (hn:a.path≠b.path):eLt a b:=by
 rcases zoet a.path b.path with e|e|e
 ·exact e
 ·exact absurd e hn
 ·rw [h] at e; cases e
theorem z73h {l m:List Ent} (h:GoodE m) (hs:l.Sublist m):GoodE l:=⟨h.s.sublist hs,fun e he=>h.f e (hs.subset he)⟩
theorem zul9 {A B:List Ent} {x:Ent} (h:GoodE (A++B)) (hx:zim9 x=true) (h1 : ∀ a ∈ A,eLt a x) (h2 : ∀ b ∈ B,eLt x b):GoodE (A++x::B):=by
 obtain ⟨s,f⟩:=h
 rw [List.pairwise_append] at s
 refine ⟨?_,fun e he => ?_⟩
 ·rw [List.pairwise_append,List.pairwise_cons]
  refine ⟨s.1,⟨h2,s.2.1⟩,fun a ha b hb => ?_⟩
  rcases List.mem_cons.1 hb with rfl|hb
  ·exact h1 a ha
  ·exact s.2.2 a ha b hb
 ·rcases List.mem_append.1 he with he|he
  ·exact f e (List.mem_append_left _ he)
  ·rcases List.mem_cons.1 he with rfl|he
   ·exact hx
   ·exact f e (List.mem_append_right _ he)
theorem z4za {s:List Ent} {x:Ent} (h:GoodE s) (hx:zim9 x=true):GoodE (putV s x):=by
 have hs:GoodE (putF s x):=z73h h List.filter_sublist
 have hne : ∀ y ∈ putF s x,y.path≠x.path:=fun y hy=>by
  have:=(List.mem_filter.1 hy).2; simpa using this
 obtain ⟨A,B,e1,e2,e3,e4⟩:=zyus (lt:=pLt) x (putF s x)
 unfold putV
 rw [e2]
 rw [e1] at hs hne
 refine zul9 hs hx (fun a ha => ?_) (fun b hb=>e3 b hb)
 rcases e4 with e4|⟨A',y,e4,e5⟩
 ·rw [e4] at ha; simp at ha
 ·have hy:eLt y x:=zhsq e5 (hne y (by rw [e4]; simp))
  rw [e4] at ha
  rcases List.mem_append.1 ha with ha|ha
  ·have:=hs.s
   rw [e4,List.append_assoc] at this
   exact zurc ((List.pairwise_append.1 this).2.2 a ha y (by simp)) hy
  ·simp at ha; rw [ha]; exact hy
theorem z1xt {s:List Ent} {i:Nat} (h:GoodE s):GoodE (zzy4 s i):=by
 refine z73h h ?_
 unfold zzy4
 have e:s.take i++s.drop i=s:=List.take_append_drop i s
 have hd:(s.drop (i+1)).Sublist (s.drop i):=by
  rw [← List.drop_drop]
  exact List.drop_sublist 1 (s.drop i)
 have:=(List.Sublist.refl (s.take i)).append hd
 rwa [e] at this
theorem zs49 : ∀ (n:Nat) (a:Tp × List Ent),GoodE a.2→GoodE (snpL n a).2
 | 0,a,h=>h
 | n+1,a,h=>zs49 n _ (z4za h (zc8p a.1))
theorem zcp3 {a:Tp × Sl Ent} (hb:a.2.l.length+1≤4294967296) (h:GoodE a.2.l):GoodE (zvj4 a).2.l:=by
 unfold zvj4
 split
 ·simp only; rw [znxd (by omega)]; exact z1xt h
 ·have:=z3b0 a.2.l (newE (a.1.adv 1))
  simp only; rw [z3e9 (by omega)]; exact z4za h (zc8p _)
theorem z2oi : ∀ (n:Nat) (a:Tp × Sl Ent),a.2.l.length+n≤4294967296→GoodE a.2.l→GoodE (edtL n a).2.l
 | 0,a,_,h=>h
 | n+1,a,hb,h=>by
  have h1:=zkr6 (a:=a) (by omega)
  exact z2oi n _ (by omega) (zcp3 (by omega) h)
theorem z7fh {t:Tp} {s:Sl Ent} (hb:s.l.length≤4000000000) (h:GoodE s.l):GoodE (z7ym t s).2.l:=by
 have h0:=zgro t 3
 unfold z7ym
 exact z2oi _ _ (by unfold zp4t; simp only; omega) h
theorem zv0x (t:Tp):GoodE (zxwj t).l:=by
 have h:=(zk7x t 5).2
 unfold zxwj; rw [zd8n (by omega)]
 unfold zgxx; exact zs49 _ _ zey8
theorem zzhy (t:Tp) (st:Str):GoodE (zyjl t st).p.l:=by
 have h0:=zr0a t
 unfold zyjl; simp only
 exact z7fh (by omega) (zv0x t)
theorem znfa {l:List Ent} {x e:Ent}:e ∈ insE l x↔e=x∨e ∈ l:=by
 unfold insE
 have h:l.takeWhile (ltE x)++l.dropWhile (ltE x)=l:=List.takeWhile_append_dropWhile
 constructor
 ·intro he
  rcases List.mem_append.1 he with he|he
  ·exact .inr (h▸List.mem_append_left _ he)
  ·rcases List.mem_cons.1 he with he|he
   ·exact .inl he
   ·exact .inr (h▸List.mem_append_right _ he)
 ·rintro (rfl|he)
  ·simp
  ·rw [← h] at he
   rcases List.mem_append.1 he with he|he
   ·exact List.mem_append_left _ he
   ·exact List.mem_append_right _ (List.mem_cons_of_mem _ he)
theorem zgrk {l:List Ent} {x:Ent} (h:GoodE l) (hx:zim9 x=true) (hn : ∀ e ∈ l,e.path≠x.path):GoodE (insE l x):=by
 have hl:l.takeWhile (ltE x)++l.dropWhile (ltE x)=l:=List.takeWhile_append_dropWhile
 unfold insE
 refine zul9 (by rw [hl]; exact h) hx (fun a ha => ?_) (fun b hb => ?_)
 ·exact zeqt (p:=ltE x) a ha
 ·rcases zwbv (p:=ltE x) (l:=l) with e|⟨y,r,e,hy⟩
  ·rw [e] at hb; simp at hb
  ·have hyl:y ∈ l:=by rw [← hl,e]; simp
   have hxy:eLt x y:=zhsq hy (fun q=>hn y hyl q.symm)
   have hs:=h.s
   rw [← hl,e] at hs
   rw [e] at hb
   rcases List.mem_cons.1 hb with rfl|hb
   ·exact hxy
   ·exact zurc hxy ((List.pairwise_cons.1 (List.pairwise_append.1 hs).2.1).1 b hb)
theorem zb67 {e:Ent} (h:zim9 e=true):zj1f e.path=true∧e.dg≠dg0:=by
 unfold zim9 at h
 simpa using h
theorem z19j {a b:Str} : ∀ {r acc:List Ent},GoodE acc→GoodE r→(∀ e ∈ acc,∃ s,relO a b s=some e.path ∧ ∀ x ∈ r,x.path≠s)→GoodE (mvL a b acc r)
 | [],acc,h,_,_=>h
 | u::r,acc,h,hr,hd=>by
  have hs:=List.pairwise_cons.1 hr.s
  have hr':GoodE r:=⟨hs.2,fun x hx=>hr.f x (by simp [hx])⟩
  rw [mvL]
  cases hu:relO a b u.path with
  | none =>
   refine z19j h hr' fun e he => ?_
   obtain ⟨s,h1,h2⟩:=hd e he
   exact ⟨s,h1,fun x hx=>h2 x (by simp [hx])⟩
  | some p =>
   have hp:=zrd6 hu
   have hf:=zb67 (hr.f u (by simp))
   refine z19j (zgrk h (by unfold zim9; simp [hp.1,hf.2]) fun e he q => ?_) hr' fun e he => ?_
   ·obtain ⟨s,h1,h2⟩:=hd e he
    have h3:=(zrd6 h1).2
    have q:e.path=p:=q
    rw [q,hp.2] at h3
    exact h2 u (by simp) (Option.some.inj h3)
   ·rcases znfa.1 he with rfl|he
    ·exact ⟨u.path,hu,fun x hx=>(zhdu (hs.1 x hx)).symm⟩
    ·obtain ⟨s,h1,h2⟩:=hd e he
     exact ⟨s,h1,fun x hx=>h2 x (by simp [hx])⟩
theorem zbxo {s:List Ent} {a b:Str} (h:GoodE s):GoodE (zj0v s a b):=by
 unfold zj0v
 split
 ·exact z19j zey8 h fun e he=>by simp at he
 ·exact zey8
attribute [local irreducible] z7ym zyjl zd2t zxwj ownN tpN zj0v
theorem zkct (t:Tp) (ht:t.at_<3500000000):GoodE (mdA t).p.l∧GoodE (mdE1 t).2.l∧GoodE (mdC t).m.l∧GoodE (mdC t).p.l∧(mdC t).m.l.length≤20∧(mdC t).p.l.length≤20:=by
 obtain ⟨b1,b2,b3,b4,b5,b6,b7,b8,b9,b10,b11,b12⟩:=z1bh t ht
 have gA:GoodE (mdA t).p.l:=zzhy t fetS
 have g1:GoodE (mdE1 t).2.l:=by unfold mdE1; exact z7fh (by omega) gA
 have g2:GoodE (mdE2 t).2.l:=by unfold mdE2; exact z7fh (by omega) g1
 have g3:GoodE (mdE3 t).2.l:=by unfold mdE3; exact z7fh (by omega) g2
 have hml:=z31d (mdE1 t).2.l [] inS
 have gM:GoodE (mdM t).l:=by unfold mdM; rw [zd8n (by omega)]; exact zbxo g1
 have g4:GoodE (mdE4 t).2.l:=by unfold mdE4; exact z7fh (by omega) gM
 refine ⟨gA,g1,?_⟩
 by_cases h:tpN (mdE3 t).1 3=0
 ·have e:mdC t=⟨pacS,mdM t,(mdE4 t).2⟩:=if_pos h
  rw [e]
  exact ⟨gM,g4,Nat.le_trans b9 (by omega),Nat.le_trans b10 (by omega)⟩
 ·have e:mdC t=⟨pacS,(mdE1 t).2,(mdE3 t).2⟩:=if_neg h
  rw [e]
  exact ⟨g1,g3,Nat.le_trans b3 (by omega),Nat.le_trans b7 (by omega)⟩
theorem z5n7 (t:Tp):(madC t).self=mdC t:=rfl
end Go.Proofs.YtjknipdiglpnlaaDoor
set_option linter.unusedSimpArgs false
set_option linter.unusedVariables false
set_option maxRecDepth 20000
namespace Go.Proofs.YtjknipdiglpnlaaDoor
open Go Go.Am
theorem qS_l {N:Nat} {l:List Str} (h:l.length≤N) (hN:N≤65536):(qS N l).l=l:=by
 unfold qS
 split
 ·have e:l=[]:=List.eq_nil_of_length_eq_zero (by omega)
  rw [e]; rfl
 ·rw [z3e9 (by omega)]
theorem z167 {c:C13}:oneC 3 true (csC c)=some (.agg (lkC c.self)):=rfl
attribute [local irreducible] z7ym zyjl zd2t zxwj ownN tpN zj0v mdA mdE1 mdB mdE2 mdE3 mdT mdM mdE4 mdC mdU madC madT rlsV rulV rulT zr9o appL
end Go.Proofs.YtjknipdiglpnlaaDoor
set_option linter.unusedSimpArgs false
set_option linter.unusedVariables false
set_option maxRecDepth 8000
namespace Go.Proofs.YtjknipdiglpnlaaDoor
open Go Go.Am
def zwkt (x y:Sl Str) (i:Nat):St:=zhlx (x.dv 1 stC) (y.dv 1 stC) (.int .i64 i) []
theorem zy51 (x y:Sl Str):Runs tbl0 a26 [x.dv 1 stC,y.dv 1 stC] (.bool (decide (x.l=y.l))):=by
 refine ⟨?_⟩
 have hb:=x.b
 have hlx : ∀ H,lenD H (x.dv 1 stC)=some (.int .i64 x.l.length):=fun H=>zupj
 have hly : ∀ H,lenD H (y.dv 1 stC)=some (.int .i64 y.l.length):=fun H=>zupj
 by_cases hl:x.l.length=y.l.length
 case neg =>
  have hl':¬ (x.l.length:Int)=y.l.length:=by omega
  have hr:¬ x.l=y.l:=fun e=>hl (by rw [e])
  simp (disch:=first|omega|simp<;>omega|fail) [-zA,-zB,-zC,-zD,-zE,a26,hlx,hly,hl,hl',hr]
 have hl':(x.l.length:Int)=y.l.length:=by omega
 rw [← hl] at hly
 simp (disch:=first|omega|simp<;>omega|fail) [-zA,-zB,-zC,-zD,-zE,a26,hlx,hly]
 refine zlm5 (zwkt x y) (fun i=>x.l.length-i) (fun i=>i≤x.l.length ∧ ∀ j (h1:j<x.l.length) (h2:j<y.l.length),j<i→x.l[j]=y.l[j]) 0 (z515 (by simp (disch:=first|omega|simp<;>omega|fail) [-zA,-zB,-zC,-zD,-zE,zwkt,zhlx]) (by simp (disch:=first|omega|simp<;>omega|fail) [-zA,-zB,-zC,-zD,-zE,zwkt,zhlx])) ⟨by omega,fun j _ _ hj=>by omega⟩ (fun i hi => ?_)
 obtain ⟨q1,q2⟩:=hi
 simp only [zwkt]
 by_cases g:i<x.l.length
 case neg =>
  have g':¬ (i:Int)<x.l.length:=by omega
  have hr:x.l=y.l:=List.ext_getElem hl fun j h1 h2=>q2 j h1 h2 (by omega)
  have hd:decide (x.l=y.l)=true:=decide_eq_true hr
  clear hr
  rw [hd]
  simp (disch:=first|omega|simp<;>omega|fail) [-zA,-zB,-zC,-zD,-zE,zr3y,zhlx,hlx,g,g']
 have g':(i:Int)<x.l.length:=by omega
 have gy:i<y.l.length:=by omega
 have hx : ∀ H,zpsc H 1 (x.dv 1 stC) i=some (.ref (stC x.l[i])):=fun H=>zalo zqv6 g
 have hy : ∀ H,zpsc H 1 (y.dv 1 stC) i=some (.ref (stC y.l[i])):=fun H=>zalo zqv6 gy
 by_cases e:x.l[i]=y.l[i]
 ·have hinv : ∀ j (h1:j<x.l.length) (h2:j<y.l.length),j<i+1→x.l[j]=y.l[j]:=fun j h1 h2 hj=>by
   by_cases ej:j=i
   ·subst ej; exact e
   ·exact q2 j h1 h2 (by omega)
  obtain ⟨u,hu⟩ : ∃ u,x.l[i]=u:=⟨_,rfl⟩
  obtain ⟨v,hv⟩ : ∃ v,y.l[i]=v:=⟨_,rfl⟩
  rw [hu] at hx e
  rw [hv] at hy e
  simp (disch:=first|omega|simp<;>omega|fail) [-zA,-zB,-zC,-zD,-zE,zr3y,zhlx,hlx,g,g',hx,hy,e,stC]
  exact ⟨i+1,z515 (by simp (disch:=first|omega|simp<;>omega|fail) [-zA,-zB,-zC,-zD,-zE,zwkt,zhlx]) (by simp (disch:=first|omega|simp<;>omega|fail) [-zA,-zB,-zC,-zD,-zE,zwkt,zhlx]),by omega,by omega,hinv⟩
 ·have hr:¬ x.l=y.l:=fun q=>e (by simp [q])
  obtain ⟨u,hu⟩ : ∃ u,x.l[i]=u:=⟨_,rfl⟩
  obtain ⟨v,hv⟩ : ∃ v,y.l[i]=v:=⟨_,rfl⟩
  rw [hu] at hx e
  rw [hv] at hy e
  simp (disch:=first|omega|simp<;>omega|fail) [-zA,-zB,-zC,-zD,-zE,zr3y,zhlx,hlx,g,g',hx,hy,e,stC,hr]
noncomputable def cSa2:List DV→Option DV:=con (fun _=>True) (fun a:Sl Str × Sl Str=>[a.1.dv 1 stC,a.2.dv 1 stC]) (fun a => .bool (decide (a.1.l=a.2.l)))
theorem zdw6 {x y:Sl Str}:cSa2 [x.dv 1 stC,y.dv 1 stC]=some (.bool (decide (x.l=y.l))) :=
 zsn4 (f:=fun a:Sl Str × Sl Str=>[a.1.dv 1 stC,a.2.dv 1 stC]) (g:=fun a => .bool (decide (a.1.l=a.2.l))) (by
  rintro ⟨a,b⟩ ⟨c,d⟩ e
  simp only [List.cons.injEq,and_true] at e
  rw [zdef e.1,zdef e.2]) (x,y)
theorem zqfl:(Con.pure cSa2).Sound P 26:=z2au fun a _=>zljw mix zr5o Tryd.func26 z9gs (zy51 a.1 a.2)
structure RQ where
 q:Sl Str
 fi:Int
 pa:Str
def rsC (r:RQ):List DV:=[r.q.dv 1 stC,.int .i64 r.fi,.str r.pa]
theorem zbp7 (r:RQ):zbao (rsC r)=true:=by simp only [rsC,zbao,zyp8,zfuu,Bool.and_self]
def rqOf (N:Nat) (r:Res):RQ:=⟨qS N r.le,r.fi,r.pa⟩
theorem zf38 (N:Nat) (r:Res):z6t9 N r = .agg (rsC (rqOf N r)):=rfl
theorem z3j2 {r:RQ}:oneC 1 false (rsC r)=some (r.q.dv 1 stC):=rfl
theorem zuah {r:RQ}:oneC 1 false ((rsC r).drop 1)=some (.int .i64 r.fi):=rfl
theorem z56i {h:List AObj} {id:Nat} {r:RQ}:zy6o h id 3 0 (.agg (rsC r)) (some [.nils,.int .i64 0,.str []])=some (.junk,h.set id (.cells (rsC r))):=zfc1 rfl rfl (by simp [rsC,z4ja])
end Go.Proofs.YtjknipdiglpnlaaDoor
set_option linter.unusedSimpArgs false
set_option linter.unusedVariables false
set_option maxRecDepth 20000
namespace Go.Proofs.YtjknipdiglpnlaaDoor
open Go Go.Am
def cR2:Rul:=⟨2,[42,42],[],false,[],[]⟩
def cR3:Rul:=⟨3,[42,42],[],false,[],[]⟩
def cR4:Rul:=⟨4,[42,42],[],false,[],[]⟩
theorem zxpt:z8mn cR2=true:=by decide +kernel
theorem zoa0:z8mn cR3=true:=by decide +kernel
theorem z3xg:z8mn cR4=true:=by decide +kernel
theorem zeff {l:List Ent} (h:GoodE l) {e:Ent} (he:e ∈ l):zajr l e.path=some e.dg:=by
 obtain ⟨i,hi,rfl⟩:=List.getElem_of_mem he
 refine zc1r hi rfl fun j hj hji=>zhdu (List.pairwise_iff_getElem.1 h.s j i hj hi hji)
theorem zods {l:List Ent} {p:Str} {d:Dg} (h:zajr l p=some d) : ∃ e ∈ l,e.path=p∧e.dg=d:=by
 induction l with
 | nil=>simp [zajr] at h
 | cons a l ih =>
  rw [zajr] at h
  split at h
  ·rename_i q; exact ⟨a,by simp,q,Option.some.inj h⟩
  ·obtain ⟨e,he,q⟩:=ih h; exact ⟨e,by simp [he],q⟩
def z8mw (m p:List Ent):List Str:=(p.filter fun e=>(zajr m e.path).isSome&&decide (dgO (zajr m e.path)=e.dg)).map (·.path)
theorem zb4z {m p:List Ent} {e:Ent}:z8mw m (p++[e])=z8mw m p++(if ((zajr m e.path).isSome&&decide (dgO (zajr m e.path)=e.dg))=true then [e.path] else []):=by
 unfold z8mw
 rw [List.filter_append,List.map_append]
 cases h:((zajr m e.path).isSome&&decide (dgO (zajr m e.path)=e.dg))<;>simp [h]
theorem zm5s (m p:List Ent):(z8mw m p).length≤p.length:=by
 unfold z8mw; rw [List.length_map]; exact List.length_filter_le ..
theorem zsrn {m p:List Ent} (gm:GoodE m) (gp:GoodE p) {q:Str}:q ∈ z8mw m p ↔ ∃ d,(⟨q,d⟩:Ent) ∈ m∧(⟨q,d⟩:Ent) ∈ p:=by
 unfold z8mw
 simp only [List.mem_map,List.mem_filter,Bool.and_eq_true,decide_eq_true_eq]
 constructor
 ·rintro ⟨e,⟨he,h1,h2⟩,rfl⟩
  obtain ⟨d,hd⟩:=Option.isSome_iff_exists.1 h1
  rw [hd] at h2
  have h2:d=e.dg:=h2
  obtain ⟨e',he',q1,q2⟩:=zods hd
  refine ⟨e.dg,?_,he⟩
  obtain ⟨a,b⟩:=e'
  simp only at q1 q2
  rw [← h2,← q2,← q1]; exact he'
 ·rintro ⟨d,h1,h2⟩
  have:=zeff gm h1
  refine ⟨⟨q,d⟩,⟨h2,?_,?_⟩,rfl⟩
  ·simp only at this ⊢; rw [this]; rfl
  ·simp only at this ⊢; rw [this]; rfl
theorem z0kr {m p:List Ent} (gp:GoodE p):Asc Op.bytesLess (z8mw m p):=by
 unfold z8mw Asc
 rw [List.pairwise_map]
 exact gp.s.sublist List.filter_sublist
theorem zame {m p:List Ent} (gm:GoodE m) (gp:GoodE p):z8mw m p=z8mw p m :=
 zjfh z3gj (z0kr gp) (z0kr gm) fun q=>by
  rw [zsrn gm gp,zsrn gp gm]
  exact ⟨fun ⟨d,a,b⟩=>⟨d,b,a⟩,fun ⟨d,a,b⟩=>⟨d,b,a⟩⟩
theorem zcv3 {f:Str→Bool} {l:List Ent} {g:Ent→Bool} (h : ∀ e ∈ l,(!f e.path)=g e):zwyd f (zw2l l)=zw2l (l.filter g):=by
 induction l with
 | nil=>rfl
 | cons a l ih =>
  have ih:=ih fun e he=>h e (by simp [he])
  have ha:=h a (by simp)
  unfold zwyd zw2l at ih ⊢
  simp only [List.map_cons,List.filter_cons,ha]
  cases g a
  ·simpa using ih
  ·simpa using ih
theorem zxkt {p:Str} (k:Nat) (m q:List Ent) (h:zj1f p=true):chgB k [42,42] m q p=acB k (zajr m p).isSome (zajr q p).isSome (decide (dgO (zajr m p)=dgO (zajr q p))):=by
 unfold chgB; rw [ztz6,h,Bool.true_and]
theorem z88v {f g:Str→Bool} {Q:List Str}:zwyd f (zwyd g Q)=zwyd (fun x=>f x||g x) Q:=by
 unfold zwyd
 rw [List.filter_filter]
 congr 1
 funext x
 show (!f x && !g x) = !(f x||g x)
 cases f x<;>cases g x<;>rfl
theorem z9tq {s:Sd} {r:Rul} (hv:z8mn r=true) {k:Nat} (hk:r.kind.toNat=k) (hf : ∀ Q,zkx0 r k Q=none) (l:List Rul) (i:Nat) (Q:List Str):appL s (r::l) i Q=appL s l (i+1) (zwyd (zkvg s r k) Q):=by
 rw [appL,if_pos hv,hk,hf]
theorem zlrf {m p:List Ent} (gm:GoodE m) (gp:GoodE p) {s:Sd} (hm:s.self.m.l=m) (hp:s.self.p.l=p) :
  appL s [cR2,cR3] 0 (zw2l p)=⟨-1,[],z8mw m p⟩∧appL s [cR2,cR3,cR4] 0 (zw2l m)=⟨-1,[],z8mw m p⟩:=by
 have g2:zkvg s cR2 2=chgB 0 [42,42] m p:=by show chgB 0 cR2.pat s.self.m.l s.self.p.l=_; rw [hm,hp]; rfl
 have g3:zkvg s cR3 3=chgB 1 [42,42] m p:=by show chgB 1 cR3.pat s.self.m.l s.self.p.l=_; rw [hm,hp]; rfl
 have g4:zkvg s cR4 4=chgB 2 [42,42] m p:=by show chgB 2 cR4.pat s.self.m.l s.self.p.l=_; rw [hm,hp]; rfl
 have a2:=fun l i Q=>z9tq (s:=s) zxpt (k:=2) rfl (fun _=>rfl) l i Q
 have a3:=fun l i Q=>z9tq (s:=s) zoa0 (k:=3) rfl (fun _=>rfl) l i Q
 have a4:=fun l i Q=>z9tq (s:=s) z3xg (k:=4) rfl (fun _=>rfl) l i Q
 constructor
 ·rw [a2,a3,g2,g3,z88v,appL]
  congr 1
  rw [z8mw]
  refine zcv3 fun e he => ?_
  have hd:=(zb67 (gp.f e he)).1
  rw [zxkt 1 m p hd,zxkt 0 m p hd,zeff gp he]
  have h1:dgO (some e.dg)=e.dg:=rfl
  rw [h1]
  by_cases q:dgO (zajr m e.path)=e.dg<;>cases (zajr m e.path).isSome<;>simp [acB,q]
 ·rw [zame gm gp]
  rw [a2,a3,a4,g2,g3,g4,z88v,z88v,appL]
  congr 1
  rw [z8mw]
  refine zcv3 fun e he => ?_
  have hd:=(zb67 (gm.f e he)).1
  rw [zxkt 2 m p hd,zxkt 1 m p hd,zxkt 0 m p hd,zeff gm he]
  have h1:dgO (some e.dg)=e.dg:=rfl
  rw [h1]
  by_cases q:dgO (zajr p e.path)=e.dg
  ·cases (zajr p e.path).isSome<;>simp [acB,q]
  ·have q':¬ e.dg=dgO (zajr p e.path):=fun h=>q h.symm
   cases (zajr p e.path).isSome<;>simp [acB,q,q']
end Go.Proofs.YtjknipdiglpnlaaDoor
set_option linter.unusedSimpArgs false
set_option linter.unusedVariables false
set_option maxRecDepth 8000
namespace Go.Proofs.YtjknipdiglpnlaaDoor
open Go Go.Am
def z5vw (h:List AObj):List AObj:=h.map fun _=>AObj.dead
theorem zh09 {X0:Forb} {E:Env}:FX X0 (E.map fun _=>(none:Option (Nat × Nat)))=X0:=by
 funext b o
 apply propext
 unfold FX
 constructor
 ·rintro (h|⟨id,L,h⟩)
  ·exact h
  ·rw [List.getElem?_map] at h
   cases e:E[id]? <;> rw [e] at h<;>simp at h
 ·exact .inl
theorem zgrw {f:Nat} {args args':List DV} {h:List AObj} {r:DV} (hs:z4tt h 3 args=some args') (hS:Am.Sem P f args' r):zwy1 P f args h (fun d k=>d=r∧k=z5vw h):=by
 intro X0 base w E vs hh hr
 refine (hS X0 w vs (fun b o hx=>(hh.x0 _ _ hx).1) (zzrb hr (fun v d d' q1 q2=>z084 hh 3 q1 q2) hs)).mono fun e w' ⟨v,e1,e2,e3⟩ => ?_
 obtain ⟨_,ht⟩:=zzjs hh e3
 have hno : ∀ (id b L:Nat),(E.map fun _=>(none:Option (Nat × Nat)))[id]? ≠ some (some (b,L)):=fun id b L q=>by
  rw [List.getElem?_map] at q
  cases e:E[id]? <;> rw [e] at q<;>simp at q
 refine ⟨v,r,z5vw h,E.map fun _=>none,e1,⟨rfl,rfl⟩,⟨by simp [z5vw,hh.len],fun b o hx=>⟨?_,fun id L=>hno id b L⟩,Nat.le_trans hh.size e3.bel.size,fun id cs hc => ?_,fun id hd => ?_,fun id id' b L b' L' _ q _=>absurd q (hno _ _ _)⟩,?_,⟨⟨by simp,fun id _ b' L' q=>absurd q (hno _ _ _)⟩,⟨fun a v' hc hx => ?_⟩,ht.below,ht.others,fun b hb hl=>⟨(ht.frame b hb hl).1,fun id L=>hno id b L⟩⟩⟩
 ·exact Nat.lt_of_lt_of_le (hh.x0 b o hx).1 e3.bel.size
 ·unfold z5vw at hc
  rw [List.getElem?_map] at hc
  cases e:h[id]? <;> rw [e] at hc<;>simp at hc
 ·unfold z5vw at hd
  rw [List.getElem?_map] at hd ⊢
  have hl:=hh.len
  cases e:h[id]? with
  | none=>rw [e] at hd; simp at hd
  | some o =>
   have:id<E.length:=by rw [hl]; exact (List.getElem?_eq_some_iff.1 e).1
   rw [List.getElem?_eq_getElem this]; rfl
 ·rw [zh09]; exact e2.of_nil
 ·obtain ⟨h1,h2⟩:=ht.keep.cell a v' hc hx
  rw [zh09]
  exact ⟨h1,fun q=>h2 (.inl q)⟩
end Go.Proofs.YtjknipdiglpnlaaDoor
set_option linter.unusedSimpArgs false
set_option linter.unusedVariables false
set_option maxRecDepth 20000
namespace Go.Proofs.YtjknipdiglpnlaaDoor
open Go Go.Am
theorem zfr7 {c:C13}:oneC 1 false ((csC c).drop 1)=some (c.self.m.dv 33 enC):=rfl
theorem zi0t {c:C13}:oneC 1 false ((csC c).drop 2)=some (c.self.p.dv 33 enC):=rfl
theorem zs23 {α:Type} {f:α→List DV} {K:Nat} {L:List α} (hu : ∀ a,(f a).length=K) (hp : ∀ a,zbao (f a)=true) (hb:L.length≤4294967296):mk1 (kLt 0) (oT f L) (oV 0 K L)=(ownN L).dv K f:=by
 by_cases e:L=[]
 ·subst e; exact zhx5
 ·rw [zpni e,zu2l e,z527 e]
  refine zwy6 ?_
  rw [zi9r,if_neg (by simp [kLt])]
  have ho:objV [.cells (fl f L)] 0 (L.length*K)=some (fl f L):=by
   show (if (fl f L).length=L.length*K then some (fl f L) else none)=_
   rw [if_pos (z8lx hu L)]
  rw [ho,Option.bind_some,List.drop_zero,z590 hu,List.take_length,zl6f (zp6k hp _),zqrs hb]; rfl
noncomputable def zic5:Tbl:=addT 16 (.tch cMa3) tbl0
theorem z8z6:zic5 16 = .tch cMa3:=by simp [zic5]
theorem zdv9:zic5.Sound P:=z0rp zcri zr5o
noncomputable def z533:Tbl:=addT 19 (.pure cApp) (addT 26 (.pure cSa2) (addT 20 (.pure cTr) (addT 25 (.pure cLoo) tbl0)))
theorem zif3:z533 19 = .pure cApp:=by simp [z533]
theorem zpvb:z533 26 = .pure cSa2:=by simp [z533]
theorem zkif:z533 20 = .pure cTr:=by simp [z533]
theorem zlpd:z533 25 = .pure cLoo:=by simp [z533]
theorem zzyz:z533.Sound P:=z0rp zhri (z0rp zqfl (z0rp (zql9 z7b9) (z0rp z5zc zr5o)))
def zypl (c:C13) (a b:RQ) (i:Nat):St:=a7S0 (.ref (csC c)) (.ref (rsC a)) (.ref (rsC b)) (oV 0 1 (z8mw c.self.m.l (c.self.p.l.take i))) (.int .i64 i) (oT stC (z8mw c.self.m.l (c.self.p.l.take i)))
def zl04:ACode:=match a7.code with | .seq _ (.seq _ (.seq _ (.seq _ (.seq _ (.seq _ r)))))=>r|c=>c
theorem zgo3 (c:C13) (A B:RQ) (hp20:c.self.p.l.length≤1000) (hA:A.q.l=z8mw c.self.m.l c.self.p.l) (hB:B.q.l=z8mw c.self.m.l c.self.p.l) (hfa:A.fi = -1) (hfb:B.fi = -1) :
  V P 0 zl04 (retK a7.res (.bool true)) ⟨js 3++[.ref (csC c),.junk,.ref (rsC A),.ref (rsC B),.nils]++js 88,[]⟩:=by
 have hlp : ∀ H,lenD H (c.self.p.dv 33 enC)=some (.int .i64 c.self.p.l.length):=fun H=>zupj
 obtain ⟨rr,hrr⟩ : ∃ rr,a7.res=rr:=⟨_,rfl⟩
 rw [hrr]
 have hlc:(csC c).length=5:=rfl
 have hlr : ∀ r:RQ,(rsC r).length=3:=fun _=>rfl
 simp only [zl04,a7]
 refine zbn1 (zbn1 (V_W mix zr5o ?_))
 simp (disch:=first|omega|simp<;>omega|fail) [-zA,-zB,-zC,-zD,-zE]
 have hb0:z8mw c.self.m.l []=[]:=rfl
 refine z3mo (ztbr (zypl c A B) (fun i=>c.self.p.l.length-i) (fun i=>i≤c.self.p.l.length) 0 (z515 (by simp (disch:=first|omega|simp<;>omega|fail) [-zA,-zB,-zC,-zD,-zE,zypl,a7S0,hb0,zl8p]) (by simp (disch:=first|omega|simp<;>omega|fail) [-zA,-zB,-zC,-zD,-zE,zypl,a7S0,hb0,zkrk])) (Nat.zero_le _) (fun i hi => ?_))
 simp only [zypl]
 by_cases g:i<c.self.p.l.length
 case neg =>
  have g':¬ (i:Int)<c.self.p.l.length:=by omega
  rw [List.take_of_length_le (by omega)]
  have hbl:=zm5s c.self.m.l c.self.p.l
  obtain ⟨L,hL⟩ : ∃ L,z8mw c.self.m.l c.self.p.l=L:=⟨_,rfl⟩
  rw [hL] at hA hB hbl ⊢
  have hmk:=zs23 (f:=stC) (K:=1) (L:=L) zqv6 zds6 (by omega)
  have hol:(ownN L).l=L:=zd8n (by omega)
  have s1:=zdw6 (x:=A.q) (y:=ownN L)
  have s2:=zdw6 (x:=B.q) (y:=ownN L)
  rw [hol,hA,decide_eq_true rfl] at s1
  rw [hol,hB,decide_eq_true rfl] at s2
  obtain ⟨Z,hZ⟩ : ∃ Z,ownN L=Z:=⟨_,rfl⟩
  rw [hZ] at hmk s1 s2
  have e1 : ∀ h (l:List DV),zbao l=true→mk1 (kLt 0) h (.ref l) = .ref l:=fun h l hl=>zvft (by simp only [zyp8,hl])
  have e2:=fun h=>e1 h (csC c) (ztlc c)
  have e3:=fun h=>e1 h (rsC A) (zbp7 A)
  have e4:=fun h=>e1 h (rsC B) (zbp7 B)
  refine zbn1 (V_W mix zzyz ?_)
  simp (disch:=first|omega|simp<;>omega|fail) [-zA,-zB,-zC,-zD,-zE,a7L0,a7S0,hlp,zi0t,g,g']
  refine z0em (n0:=0) (H:=[]) (R:=oT stC L) (t':=js 5++[.ref (rsC A),.ref (rsC B),Z.dv 1 stC]++js 88) rfl (by simp) ?_ (by simp (disch:=first|omega|simp<;>omega|fail) [-zA,-zB,-zC,-zD,-zE,z1r6,Am.below,zmq5 _ _ (zbp7 A),zmq5 _ _ (zbp7 B),z8b8 _ _ (zfuu Z)]) ?_
  ·simp only [List.length_nil,List.nil_append]
   simp (disch:=first|omega|simp<;>omega|fail) [-zA,-zB,-zC,-zD,-zE,hmk,e2,e3,e4,-z1bt,-zdpe]
  refine V_W mix zzyz ?_
  rw [← hrr]
  simp (disch:=first|omega|simp<;>omega|fail) [-zA,-zB,-zC,-zD,-zE,a7,z3j2,zuah,zkif,zjnj,hfa,hfb,zpvb,s1,s2,zfuu]
 have g':(i:Int)<c.self.p.l.length:=by omega
 have hx : ∀ H,zpsc H 33 (c.self.p.dv 33 enC) i=some (.ref (enC c.self.p.l[i])):=fun H=>zalo zuso g
 have hsn:z8mw c.self.m.l (c.self.p.l.take (i+1))=z8mw c.self.m.l (c.self.p.l.take i)++(if ((zajr c.self.m.l c.self.p.l[i].path).isSome&&decide (dgO (zajr c.self.m.l c.self.p.l[i].path)=c.self.p.l[i].dg))=true then [c.self.p.l[i].path] else []):=by
  rw [List.take_succ_eq_append_getElem g,zb4z]
 have hbl:=zm5s c.self.m.l (c.self.p.l.take i)
 rw [List.length_take] at hbl
 have hll:=zfl1 (x:=c.self.m) (p:=c.self.p.l[i].path)
 obtain ⟨u,hu⟩ : ∃ u,c.self.p.l[i]=u:=⟨_,rfl⟩
 rw [hu] at hx hsn hll
 obtain ⟨L,hL⟩ : ∃ L,z8mw c.self.m.l (c.self.p.l.take i)=L:=⟨_,rfl⟩
 rw [hL] at hsn hbl ⊢
 obtain ⟨o,ho⟩ : ∃ o,zajr c.self.m.l u.path=o:=⟨_,rfl⟩
 rw [ho] at hsn hll
 have hll:cLoo [c.self.m.dv 33 enC,.str u.path]=some (.tup [.agg (dgC (dgO o)),.bool o.isSome]):=hll
 obtain ⟨d,hd⟩ : ∃ d,dgO o=d:=⟨_,rfl⟩
 rw [hd] at hsn hll
 have hHb : ∀ n,zlf2 n (oT stC L)=true:=fun n=>zd81 zds6
 have hlo:(oT stC L).length≤1:=by unfold oT; split<;>simp
 have hqb:Am.below (oT stC L).length (oV 0 1 L)=true:=by
  have:=zv6o (k:=0) (K:=1) (f:=stC) (l:=L)
  rwa [Nat.zero_add] at this
 have e0 : ∀ h,mk1 (kLt (oT stC L).length) h (oV 0 1 L)=oV 0 1 L:=fun h=>zd3c hqb
 have e1 : ∀ h (l:List DV),zbao l=true→mk1 (kLt (oT stC L).length) h (.ref l) = .ref l:=fun h l hl=>zvft (by simp only [zyp8,hl])
 have e2:=fun h=>e1 h (csC c) (ztlc c)
 have e3:=fun h=>e1 h (rsC A) (zbp7 A)
 have e4:=fun h=>e1 h (rsC B) (zbp7 B)
 have eb:=zz5t (H:=oT stC L) (cs:=dgC d) (off:=0) (z6je d)
 rw [z1t1,List.drop_zero] at eb
 have hap:=zte0 (f:=stC) (K:=1) (k:=0) (b:=16) (l:=L) (x:=u.path) (h:=[]) rfl zqv6 (by decide) (by decide) (fun _=>rfl) (by omega)
 rw [show stC u.path=[DV.str u.path] from rfl] at hap
 simp only [List.nil_append] at hap
 have hsd : ∀ h:List AObj,zy6o (h++[.cells (dgC dg0)]) h.length 32 0 (.agg (dgC d)) (some (dgC dg0))=some (.junk,h++[.cells (dgC d)]):=fun h=>by
  rw [zfc1 (z1t1 d) (z1t1 dg0) zzst,zxft]; rfl
 refine zbn1 (V_W mix zzyz ?_)
 simp (disch:=first|omega|simp<;>omega|fail) [-zA,-zB,-zC,-zD,-zE,a7L0,a7S0,hlp,zi0t,g,g']
 refine zbn1 (z3mo (zbn1 (V_W mix zzyz ?_)))
 simp (disch:=first|omega|simp<;>omega|fail) [-zA,-zB,-zC,-zD,-zE,zfr7,zi0t,hx,zlpd,hll,zru8,z4hl,zjj2,z1zn,hsd,z1t1]
 refine zs10 (n0:=0) (H:=oT stC L) (cs:=dgC d) (t':=js 3++[.ref (csC c),.junk,.ref (rsC A),.ref (rsC B),oV 0 1 L,.int .i64 i,.ref (dgC d),.bool o.isSome]++js 85) (hHb _) (Nat.zero_le _) ?_ (by simp (disch:=first|omega|simp<;>omega|fail) [-zA,-zB,-zC,-zD,-zE,z1r6,Am.below,hqb,zmq5 _ _ (zbp7 A),zmq5 _ _ (zbp7 B),zmq5 _ _ (ztlc c)]) ?_
 ·simp (disch:=first|omega|simp<;>omega|fail) [-zA,-zB,-zC,-zD,-zE,e0,e2,e3,e4,eb,-z1bt,-zdpe]
 refine zbn1 (V_W mix zzyz ?_)
 cases hs:o.isSome with
 | false =>
  rw [hs] at hsn
  have hsn:z8mw c.self.m.l (c.self.p.l.take (i+1))=L:=by simpa using hsn
  simp (disch:=first|omega|simp<;>omega|fail) [-zA,-zB,-zC,-zD,-zE]
  refine V_W mix zzyz ?_
  simp (disch:=first|omega|simp<;>omega|fail) [-zA,-zB,-zC,-zD,-zE]
  refine V_W mix zzyz ?_
  simp (disch:=first|omega|simp<;>omega|fail) [-zA,-zB,-zC,-zD,-zE]
  exact ⟨i+1,z515 (by simp (disch:=first|omega|simp<;>omega|fail) [-zA,-zB,-zC,-zD,-zE,zypl,a7S0,hsn]) (by simp (disch:=first|omega|simp<;>omega|fail) [-zA,-zB,-zC,-zD,-zE,zypl,a7S0,hsn]),by omega,by omega⟩
 | true =>
  rw [hs] at hsn
  by_cases hq:d=u.dg
  ·rw [decide_eq_true hq] at hsn
   have hsn:z8mw c.self.m.l (c.self.p.l.take (i+1))=L++[u.path]:=by simpa using hsn
   simp (disch:=first|omega|simp<;>omega|fail) [-zA,-zB,-zC,-zD,-zE,zi0t,hx,hq,z1t1]
   refine V_W mix zzyz ?_
   simp (disch:=first|omega|simp<;>omega|fail) [-zA,-zB,-zC,-zD,-zE,zi0t,hx,hap]
   refine V_W mix zzyz ?_
   simp (disch:=first|omega|simp<;>omega|fail) [-zA,-zB,-zC,-zD,-zE]
   exact ⟨i+1,z515 (by simp (disch:=first|omega|simp<;>omega|fail) [-zA,-zB,-zC,-zD,-zE,zypl,a7S0,hsn]) (by simp (disch:=first|omega|simp<;>omega|fail) [-zA,-zB,-zC,-zD,-zE,zypl,a7S0,hsn]),by omega,by omega⟩
  ·rw [decide_eq_false hq] at hsn
   have hsn:z8mw c.self.m.l (c.self.p.l.take (i+1))=L:=by simpa using hsn
   simp (disch:=first|omega|simp<;>omega|fail) [-zA,-zB,-zC,-zD,-zE,zi0t,hx,hq,z1t1]
   refine V_W mix zzyz ?_
   simp (disch:=first|omega|simp<;>omega|fail) [-zA,-zB,-zC,-zD,-zE]
   refine V_W mix zzyz ?_
   simp (disch:=first|omega|simp<;>omega|fail) [-zA,-zB,-zC,-zD,-zE]
   exact ⟨i+1,z515 (by simp (disch:=first|omega|simp<;>omega|fail) [-zA,-zB,-zC,-zD,-zE,zypl,a7S0,hsn]) (by simp (disch:=first|omega|simp<;>omega|fail) [-zA,-zB,-zC,-zD,-zE,zypl,a7S0,hsn]),by omega,by omega⟩
attribute [local irreducible] z7ym zyjl zd2t zxwj ownN tpN zj0v mdA mdE1 mdB mdE2 mdE3 mdT mdM mdE4 mdC mdU madC madT rlsV rulV rulT appL
def cRs2:Sl Rul:=⟨some true,[cR2,cR3],by simp,by simp⟩
theorem zc8c:cRs2.dv 6 ruC = .sl true 6 2 (ruC cR2++ruC cR3):=by simp [cRs2,Sl.dv,slD]
theorem zqva (x:Nl):V P 0 a7.code (retK a7.res (.bool true)) ⟨zr5g a7.ntmps [x.dv],[]⟩:=by
 have t0:(nlT x).at_=0:=rfl
 have hbt:=z9k1 x
 obtain ⟨t,ht⟩ : ∃ t,nlT x=t:=⟨_,rfl⟩
 rw [ht] at t0 hbt
 have hm:=zru6 (t:=t) (by omega)
 have hg:=zkct t (by omega)
 have hcs:=z5n7 t
 obtain ⟨c,hc⟩ : ∃ c,madC t=c:=⟨_,rfl⟩
 rw [hc] at hm hcs
 obtain ⟨_,_,gm,gp,lm,lp⟩:=hg
 rw [← hcs] at gm gp lm lp
 have hpl1:=zlrf gm gp (s:=sdOf true c.self nilS) rfl rfl
 have hpl2:=zlrf gm gp (s:=sdOf false c.self nilS) rfl rfl
 have k1:=zqfs (l:=cRs2) (pr:=true) (x:=c.self) (done:=nilS) (by show c.self.p.l.length≤_; omega)
 have hX1:zr9o cRs2.l true c.self nilS=⟨-1,[],z8mw c.self.m.l c.self.p.l⟩:=hpl1.1
 have hX2:zr9o [cR2,cR3,cR4] false c.self nilS=⟨-1,[],z8mw c.self.m.l c.self.p.l⟩:=hpl2.2
 have hN1:(zmoc true c.self).l.length=c.self.p.l.length:=rfl
 have hN2:(zmoc false c.self).l.length=c.self.m.l.length:=rfl
 rw [hX1,hN1,zf38] at k1
 have hbl:=zm5s c.self.m.l c.self.p.l
 have hbl2:=zm5s c.self.p.l c.self.m.l
 rw [zame gp gm] at hbl2
 have hol:(own [cR2,cR3,cR4]).l=[cR2,cR3,cR4]:=z3e9 (by decide)
 have k2:=zqfs (l:=own [cR2,cR3,cR4]) (pr:=false) (x:=c.self) (done:=nilS) (by show c.self.m.l.length≤_; omega)
 rw [hol,hX2,hN2,zf38] at k2
 have hq1:(rqOf c.self.p.l.length ⟨-1,[],z8mw c.self.m.l c.self.p.l⟩).q.l=z8mw c.self.m.l c.self.p.l:=qS_l hbl (by omega)
 have hq2:(rqOf c.self.m.l.length ⟨-1,[],z8mw c.self.m.l c.self.p.l⟩).q.l=z8mw c.self.m.l c.self.p.l:=qS_l hbl2 (by omega)
 have f1:(rqOf c.self.p.l.length ⟨-1,[],z8mw c.self.m.l c.self.p.l⟩).fi = -1:=rfl
 have f2:(rqOf c.self.m.l.length ⟨-1,[],z8mw c.self.m.l c.self.p.l⟩).fi = -1:=rfl
 obtain ⟨A,hA⟩ : ∃ A,rqOf c.self.p.l.length ⟨-1,[],z8mw c.self.m.l c.self.p.l⟩=A:=⟨_,rfl⟩
 obtain ⟨B,hB⟩ : ∃ B,rqOf c.self.m.l.length ⟨-1,[],z8mw c.self.m.l c.self.p.l⟩=B:=⟨_,rfl⟩
 rw [hA] at k1 hq1 f1
 rw [hB] at k2 hq2 f2
 have htl:=zgo3 c A B (by omega) hq1 hq2 f1 f2
 have n0:(nilS:Sl Lnk).dv 3 lkC = .nils:=rfl
 rw [n0] at k1 k2
 rw [zc8c] at k1
 have b2:zvnk [.int .i64 0,.str [],.str [],.bool false,.str [],.str []] [(0,1,.int .i64 2),(1,1,.str [42,42])]=some (.agg (ruC cR2)):=bdr2
 have b3:zvnk [.int .i64 0,.str [],.str [],.bool false,.str [],.str []] [(0,1,.int .i64 3),(1,1,.str [42,42])]=some (.agg (ruC cR3)):=bdr2
 have b4:zvnk [.int .i64 0,.str [],.str [],.bool false,.str [],.str []] [(0,1,.int .i64 4),(1,1,.str [42,42])]=some (.agg (ruC cR4)):=bdr2
 have bs:=bsr2 (a:=cR2) (b:=cR3)
 have bs1:=bsr1 (a:=cR4)
 refine zbn1 (V_W mix zr5o ?_)
 simp (disch:=first|omega|simp<;>omega|fail) [-zA,-zB,-zC,-zD,-zE,a7]
 refine zbn1 (V_W mix zdv9 ?_)
 simp (disch:=first|omega|simp<;>omega|fail) [-zA,-zB,-zC,-zD,-zE,hbt,z8z6,hm,zle8]
 have hcut:mk1 (kLt ([]:List AObj).length) ([]++[.cells (tpC (madT t)),.cells (csC c)]) (.mp 1 (csC c).length 0) = .ref ((csC c).drop 0) :=
  zh5h (H:=[]) (R:=[.cells (tpC (madT t)),.cells (csC c)]) (cs:=csC c) (id:=1) (off:=0) rfl (Nat.zero_le _) (zl6f (ztlc c))
 have hlc:(csC c).length=5:=rfl
 rw [hlc,List.drop_zero] at hcut
 refine z0em (n0:=0) (H:=[]) (R:=[.cells (tpC (madT t)),.cells (csC c)]) (t':=js 3++[.ref (csC c)]++js 92) rfl (Nat.le_refl _) ?_ (by simp (disch:=first|omega|simp<;>omega|fail) [-zA,-zB,-zC,-zD,-zE,z1r6,Am.below,zmq5 _ _ (ztlc c)]) ?_
 ·simp only [List.length_nil,List.nil_append] at hcut
  simp (disch:=first|omega|simp<;>omega|fail) [-zA,-zB,-zC,-zD,-zE,hcut,-z1bt,-zdpe]
 refine zbn1 (V_W mix zzyz ?_)
 simp (disch:=first|omega|simp<;>omega|fail) [-zA,-zB,-zC,-zD,-zE,b2,b3,bs]
 refine zbn1 (V_W mix zzyz ?_)
 have hp2:zbao (ruC cR2++ruC cR3)=true:=rfl
 simp (disch:=first|omega|simp<;>omega|fail) [-zA,-zB,-zC,-zD,-zE,z167,zif3,k1,z56i,hp2]
 have hcut:mk1 (kLt ([]:List AObj).length) ([]++[.cells (rsC A)]) (.mp 0 (rsC A).length 0) = .ref ((rsC A).drop 0) :=
  zh5h (H:=[]) (R:=[.cells (rsC A)]) (cs:=rsC A) (id:=0) (off:=0) rfl (Nat.zero_le _) (zl6f (zbp7 A))
 have hlr:(rsC A).length=3:=rfl
 rw [hlr,List.drop_zero] at hcut
 have ec : ∀ h,mk1 (kLt 0) h (.ref (csC c)) = .ref (csC c):=fun h=>zvft (by simp only [zyp8,ztlc])
 have e6 : ∀ h,mk1 (kLt 0) h (.sl true 6 2 (ruC cR2++ruC cR3)) = .sl true 6 2 (ruC cR2++ruC cR3):=fun h=>zvft hp2
 refine z0em (n0:=0) (H:=[]) (R:=[.cells (rsC A)]) (t':=js 3++[.ref (csC c),.sl true 6 2 (ruC cR2++ruC cR3),.ref (rsC A)]++js 90) rfl (Nat.le_refl _) ?_ (by simp (disch:=first|omega|simp<;>omega|fail) [-zA,-zB,-zC,-zD,-zE,z1r6,Am.below,zmq5 _ _ (ztlc c),zmq5 _ _ (zbp7 A),zmq5 _ _ hp2]) ?_
 ·simp only [List.length_nil,List.nil_append] at hcut
  simp (disch:=first|omega|simp<;>omega|fail) [-zA,-zB,-zC,-zD,-zE,hcut,ec,e6,-z1bt,-zdpe]
 have hsn:z4tt [.cells (ruC cR2++(ruC cR3++ruC cR4))] 3 [.ms 0 18 0 6 3 18,.bool false,.agg (lkC c.self),.nils]=some [(own [cR2,cR3,cR4]).dv 6 ruC,.bool false,.agg (lkC c.self),.nils]:=by
  have hc:ruC cR2++(ruC cR3++ruC cR4)=[cR2,cR3,cR4].flatMap ruC:=by simp
  rw [zqrs (by decide),← hc]
  have h1:snap [.cells (ruC cR2++(ruC cR3++ruC cR4))] (2+1) (.ms 0 18 0 6 3 18)=some (.sl false 6 3 (ruC cR2++(ruC cR3++ruC cR4))):=by
   rw [zve7,show objV [.cells (ruC cR2++(ruC cR3++ruC cR4))] 0 18=some (ruC cR2++(ruC cR3++ruC cR4)) from rfl,Option.bind_some,show ((ruC cR2++(ruC cR3++ruC cR4)).drop 0).take (3*6)=ruC cR2++(ruC cR3++ruC cR4) from rfl,z619 rfl]
   rfl
  have h2:snap [.cells (ruC cR2++(ruC cR3++ruC cR4))] 3 (.agg (lkC c.self))=some (.agg (lkC c.self)):=z6nl (by simp only [zyp8,z53g])
  rw [zrz6,h1,zrz6,zmqw,zrz6,h2,zrz6,z7d7,zfu7]
  rfl
 have hce:=zgrw (f:=19) hsn (zhri _ _ k2)
 refine zbn1 (V_W mix (z84q hce) ?_)
 simp (disch:=first|omega|simp<;>omega|fail) [-zA,-zB,-zC,-zD,-zE,b4,bs1,z167,TH_k,zpvh,z56i,z5vw]
 have hcut:mk1 (kLt ([]:List AObj).length) ([]++[.dead,.cells (rsC B)]) (.mp 1 (rsC B).length 0) = .ref ((rsC B).drop 0) :=
  zh5h (H:=[]) (R:=[.dead,.cells (rsC B)]) (cs:=rsC B) (id:=1) (off:=0) rfl (Nat.zero_le _) (zl6f (zbp7 B))
 have hlr:(rsC B).length=3:=rfl
 rw [hlr,List.drop_zero] at hcut
 have ea : ∀ h,mk1 (kLt 0) h (.ref (rsC A)) = .ref (rsC A):=fun h=>zvft (by simp only [zyp8,zbp7])
 refine z0em (n0:=0) (H:=[]) (R:=[.dead,.cells (rsC B)]) (t':=js 3++[.ref (csC c),.junk,.ref (rsC A),.ref (rsC B)]++js 89) rfl (Nat.le_refl _) ?_ (by simp (disch:=first|omega|simp<;>omega|fail) [-zA,-zB,-zC,-zD,-zE,z1r6,Am.below,zmq5 _ _ (ztlc c),zmq5 _ _ (zbp7 A),zmq5 _ _ (zbp7 B)]) ?_
 ·simp only [List.length_nil,List.nil_append] at hcut
  simp (disch:=first|omega|simp<;>omega|fail) [-zA,-zB,-zC,-zD,-zE,hcut,ec,ea,-z1bt,-zdpe]
 refine zbn1 (V_W mix zr5o ?_)
 simp (disch:=first|omega|simp<;>omega|fail) [-zA,-zB,-zC,-zD,-zE]
 exact zqfd (z515 (by simp (disch:=first|omega|simp<;>omega|fail) [-zA,-zB,-zC,-zD,-zE]) rfl) htl
theorem ztcf (x:Nl):Am.Sem P 7 [x.dv] (.bool true):=znz9 Tryd.func7 zdfl (zqva x)
namespace rulesCreation
theorem law_holds (dvs) (h:Ty.Args [.sl (.int .i64)] dvs):Am.Sem P 7 dvs (.bool true):=by
 obtain ⟨d1,l1,rfl,h1,rfl⟩:=h
 obtain ⟨x,_,rfl⟩:=zjzy h1
 exact ztcf x
end rulesCreation
end Go.Proofs.YtjknipdiglpnlaaDoor
