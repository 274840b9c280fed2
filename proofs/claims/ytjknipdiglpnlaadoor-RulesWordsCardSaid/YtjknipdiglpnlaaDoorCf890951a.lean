/-
  15 texts of mine in one.
-/
import Derived.Test.YtjknipdiglpnlaaDoorCdd2c7f00
import Derived.Test.YtjknipdiglpnlaaDoorC9c7f701f
import Derived.Test.YtjknipdiglpnlaaDoorCf33b8964
import Derived.Test.YtjknipdiglpnlaaDoorC609eefa5
import Derived.Test.YtjknipdiglpnlaaDoorC9c12ccc4
set_option maxRecDepth 20000
set_option maxHeartbeats 4000000
open List renaming map_take → zA, map_drop → zB, map_set → zC, map_append → zD, drop_one → zE
set_option linter.unusedSimpArgs false
set_option linter.unusedVariables false
set_option maxRecDepth 8000
namespace Go.Proofs.YtjknipdiglpnlaaDoor
open Go Go.Am
def zmcg:List Lnk→Rul→Sl Ent
 | [],_=>nilS
 | x::l,r=>if x.step=r.frm then (if r.prod then x.p else x.m) else zmcg l r
theorem zqyy {r:Rul} : ∀ {l:List Lnk} {i:Nat} (hi:i<l.length),l[i].step=r.frm→(∀ j (h:j<l.length),j<i→l[j].step≠r.frm)→zmcg l r=if r.prod then l[i].p else l[i].m
 | a::l,0,_,h,_=>by simp only [List.getElem_cons_zero] at h; simp [zmcg,h]
 | a::l,i+1,hi,h,h2=>by
  have ha:a.step≠r.frm:=h2 0 (by simp) (by omega)
  have ih:=zqyy (l:=l) (i:=i) (by simpa using hi) (by simpa using h) fun j hj hji=>by
   have:=h2 (j+1) (by simpa using hj) (by omega)
   simpa using this
  simp [zmcg,ha,ih]
theorem zlwx {r:Rul} : ∀ {l:List Lnk},(∀ a ∈ l,a.step≠r.frm)→zmcg l r=nilS
 | [],_=>rfl
 | a::l,h=>by simp [zmcg,h a (by simp),zlwx (l:=l) fun b hb=>h b (by simp [hb])]
theorem zh5h {H R:List AObj} {cs cs':List DV} {id off:Nat} (ho:objV (H++R) id cs.length=some cs) (hid:H.length≤id) (hf:fzSo (kLt H.length) (H++R) 2 (cs.drop off)=some cs'):mk1 (kLt H.length) (H++R) (.mp id cs.length off) = .ref cs':=by
 refine zwy6 ?_
 rw [zept,if_neg (by simp [kLt]; omega),ho,Option.bind_some,hf]; rfl
theorem zb5y {K:Nat→Bool} {h:List AObj} {id v o:Nat} (hk:K id=true):fzSo K h 2 [.mp id v o]=some [.mp id v o]:=by
 rw [zhuj,zmvq,z0h0,if_pos hk]; rfl
theorem z27d {H:List AObj} {l:List DV} {R:List AObj}:objV (H ++ .cells l::R) H.length l.length=some l:=by
 rw [zjj2,z1zn,if_pos rfl]
theorem zpw0 {H:List AObj} {x:AObj} {l:List DV} {R:List AObj}:objV (H++x :: .cells l::R) (H.length+1) l.length=some l:=by
 unfold objV ziu0; rw [List.getElem?_append_right (by omega),show H.length+1-H.length=1 by omega]; simp
theorem z1v4 {H:List AObj} {x y:AObj} {l:List DV} {R:List AObj}:objV (H++x::y :: .cells l::R) (H.length+2) l.length=some l:=by
 unfold objV ziu0; rw [List.getElem?_append_right (by omega),show H.length+2-H.length=2 by omega]; simp
def zyzl (H:List AObj) (r:Rul) (x:Sl Lnk) (i:Nat):St:=zug5 (.ref (ruC r)) (x.dv 3 lkC) (.int .i64 x.l.length) (.int .i64 i) H
theorem zgr6 (F:Fr) (Q R:List Str) (r:Rul):zwy1 P 114 [.mp 2 6 0,.agg (ruC r)] (F.H Q R) (fun d h=>d=(zmcg F.s.done.l r).dv 33 enC∧h=F.H Q R):=by
 refine zrqk Tryd.func114 zgcx ?_
 have hl2:=(F.len Q R).1
 have hbl:=F.below Q R (Nat.le_refl _)
 have hO:=F.hO0 Q R
 obtain ⟨q,hq⟩ : ∃ q,qV F.N Q.length=q:=⟨_,rfl⟩
 rw [hq] at hO
 obtain ⟨H,hH⟩ : ∃ H,F.H Q R=H:=⟨_,rfl⟩
 rw [hH] at hO hl2 hbl ⊢
 obtain ⟨x,hx⟩ : ∃ x,F.s.done=x:=⟨_,rfl⟩
 have hxd:oneC 1 false ((sdC F.s q).drop 4)=some (x.dv 3 lkC):=by rw [← hx]; rfl
 rw [hx]
 have hb:=x.b
 have hlx : ∀ H,lenD H (x.dv 3 lkC)=some (.int .i64 x.l.length):=fun H=>zupj
 have e1:=zz5t (H:=H) (cs:=ruC r) (off:=0) (z3bz r)
 have e2 : ∀ h,mk1 (kLt H.length) h (.mp 2 6 0) = .mp 2 6 0:=fun h=>zd3c (by simp [Am.below,hl2])
 refine zbn1 (V_W mix zr5o ?_)
 simp (disch:=first|omega|simp<;>omega|fail) [-zA,-zB,-zC,-zD,-zE,a114]
 refine zs10 (n0:=H.length) (H:=H) (cs:=ruC r) (t':=[.mp 2 6 0,.junk,.junk,.ref (ruC r)]++js 24) hbl (Nat.le_refl _) ?_ (by simp (disch:=first|omega|simp<;>omega|fail) [-zA,-zB,-zC,-zD,-zE,z1r6,Am.below,hl2]) ?_
 ·rw [zpvo,List.drop_zero] at e1
  simp (disch:=first|omega|simp<;>omega|fail) [-zA,-zB,-zC,-zD,-zE,e1,e2,-z1bt,-zdpe]
 refine zbn1 (zbn1 (V_W mix zr5o ?_))
 simp (disch:=first|omega|simp<;>omega|fail) [-zA,-zB,-zC,-zD,-zE,hO,hxd,hlx]
 refine z3mo (ztbr (zyzl H r x) (fun i=>x.l.length-i) (fun i=>i≤x.l.length ∧ ∀ j (h:j<x.l.length),j<i→x.l[j].step≠r.frm) 0 (z515 (by simp (disch:=first|omega|simp<;>omega|fail) [-zA,-zB,-zC,-zD,-zE,zyzl,zug5]) (by simp (disch:=first|omega|simp<;>omega|fail) [-zA,-zB,-zC,-zD,-zE,zyzl,zug5])) ⟨by omega,fun j _ hj=>by omega⟩ (fun i hi => ?_))
 obtain ⟨q1,q2⟩:=hi
 simp only [zyzl]
 refine zbn1 (V_W mix zr5o ?_)
 by_cases g:i<x.l.length
 case neg =>
  have g':¬ (i:Int)<x.l.length:=by omega
  have hr:zmcg x.l r=nilS:=zlwx fun a ha=>by
   obtain ⟨j,hj,e⟩:=List.getElem_of_mem ha
   have:=q2 j hj (by omega)
   rw [e] at this; exact this
  rw [hr]
  simp (disch:=first|omega|simp<;>omega|fail) [-zA,-zB,-zC,-zD,-zE,zoyb,zug5,g,g']
  refine zbn1 (V_W mix zr5o ?_)
  simp (disch:=first|omega|simp<;>omega|fail) [-zA,-zB,-zC,-zD,-zE]
  refine zbn1 (V_W mix zr5o ?_)
  simp (disch:=first|omega|simp<;>omega|fail) [-zA,-zB,-zC,-zD,-zE]
  refine V_W mix zr5o ?_
  simp (disch:=first|omega|simp<;>omega|fail) [-zA,-zB,-zC,-zD,-zE,z2i7]
  try rfl
 have g':(i:Int)<x.l.length:=by omega
 have hy : ∀ H,zpsc H 3 (x.dv 3 lkC) i=some (.ref (lkC x.l[i])):=fun H=>zalo z9tw g
 have hinv:x.l[i].step≠r.frm → ∀ j (h:j<x.l.length),j<i+1→x.l[j].step≠r.frm:=fun e j hj hji=>by
  by_cases ej:j=i
  ·subst ej; exact e
  ·exact q2 j hj (by omega)
 have hr:x.l[i].step=r.frm→zmcg x.l r=if r.prod then x.l[i].p else x.l[i].m:=fun e=>zqyy g e q2
 obtain ⟨u,hu⟩ : ∃ u,x.l[i]=u:=⟨_,rfl⟩
 rw [hu] at hy hinv hr
 have e3:=zz5t (H:=H) (cs:=lkC u) (off:=0) (z53g u)
 have e4 : ∀ h,mk1 (kLt H.length) h (x.dv 3 lkC)=x.dv 3 lkC:=fun h=>zvft (zys6 x)
 have e5 : ∀ h,mk1 (kLt H.length) h (.ref (ruC r)) = .ref (ruC r):=fun h=>zvft (by simp [zyp8])
 have e6 : ∀ h,mk1 (kLt H.length) h (.ref (lkC u)) = .ref (lkC u):=fun h=>zvft (by simp [zyp8,z53g])
 simp (disch:=first|omega|simp<;>omega|fail) [-zA,-zB,-zC,-zD,-zE,zoyb,zug5,g,g']
 refine zbn1 (V_W mix zr5o ?_)
 simp (disch:=first|omega|simp<;>omega|fail) [-zA,-zB,-zC,-zD,-zE]
 refine zbn1 (z3mo (zbn1 (V_W mix zr5o ?_)))
 simp (disch:=first|omega|simp<;>omega|fail) [-zA,-zB,-zC,-zD,-zE,hy,zrer]
 refine zs10 (n0:=H.length) (H:=H) (cs:=lkC u) (t':=[.junk,.junk,.junk,.ref (ruC r),.junk,.junk,.ref (lkC u),.junk,.junk,.junk,x.dv 3 lkC,.int .i64 x.l.length,.int .i64 i]++js 15) hbl (Nat.le_refl _) ?_ (by simp (disch:=first|omega|simp<;>omega|fail) [-zA,-zB,-zC,-zD,-zE,z1r6,Am.below,z8b8 _ _ (zys6 x),zmq5 _ _ (z53g u)]) ?_
 ·rw [z9tw,List.drop_zero] at e3
  simp (disch:=first|omega|simp<;>omega|fail) [-zA,-zB,-zC,-zD,-zE,e3,e4,e5,e6,-z1bt,-zdpe]
 refine V_W mix zr5o ?_
 by_cases e:u.step=r.frm
 ·have hr:=hr e
  rw [hr]
  cases hp:r.prod with
  | true=>simp (disch:=first|omega|simp<;>omega|fail) [-zA,-zB,-zC,-zD,-zE,e,hp]
  | false=>simp (disch:=first|omega|simp<;>omega|fail) [-zA,-zB,-zC,-zD,-zE,e,hp]
 ·have hinv:=hinv e
  simp (disch:=first|omega|simp<;>omega|fail) [-zA,-zB,-zC,-zD,-zE,e]
  refine V_W mix zr5o ?_
  simp (disch:=first|omega|simp<;>omega|fail) [-zA,-zB,-zC,-zD,-zE]
  exact ⟨i+1,z515 (by simp (disch:=first|omega|simp<;>omega|fail) [-zA,-zB,-zC,-zD,-zE,zyzl,zug5]) (by simp (disch:=first|omega|simp<;>omega|fail) [-zA,-zB,-zC,-zD,-zE,zyzl,zug5]),by omega,by omega,hinv⟩
theorem zxbm (s:Sd) (r:Rul) (fs:Sl Ent):Clo s 116 [.ref (ruC r),.ref [fs.dv 33 enC],.ref [.mp 2 6 0]] (matB r fs.l s.files.l) :=
 ⟨fun H q q' h1 h2 h3=>⟨[.ref (ruC r),.ref [fs.dv 33 enC],.ref [.ref (sdC s q')]],by
  have e:snap H 3 (fs.dv 33 enC)=some (fs.dv 33 enC):=z6nl (zru8 fs)
  have h2':snap H 2 q=some q':=h2 1
  simp only [zrz6,zfu7,zud9,zs09,zgbg,h1,e,Option.bind_some,List.drop_zero,zse0,h2',Option.map_some],
  by simp only [zbao,zyp8,z3bz,zru8,z65m h3,Bool.and_self],fun x=>zm65 r fs s q' x⟩,by decide⟩
theorem zpos (s:Sd) (k:Nat) (hk:k<3) (pat:Str):Clo s 162 [.ref [.mp 2 6 0],.ref [.str pat],.ref [.fn (.func (acF k)) [] []]] (chgB k pat s.self.m.l s.self.p.l) :=
 ⟨fun H q q' h1 h2 h3=>⟨[.ref [.ref (sdC s q')],.ref [.str pat],.ref [.fn (.func (acF k)) [] []]],by
  have h2':snap H 2 q=some q':=h2 1
  simp only [zrz6,zfu7,zud9,zgbg,h1,Option.bind_some,List.drop_zero,zse0,h2',Option.map_some,zpcv,zvvi],
  by simp only [zbao,zyp8,z65m h3,Bool.and_self],fun x=>zxto k hk pat s q' x⟩,by decide⟩
theorem za09 (s:Sd) (r:Rul):Clo s 124 [.ref (ruC r)] (zenh r.pat) :=
 ⟨fun H q q' h1 h2 h3=>⟨[.ref (ruC r)],by simp only [zrz6,zfu7,zud9,zs09,Option.bind_some,Option.map_some],
  by simp only [zbao,zyp8,z3bz,Bool.and_self],fun x=>zqks r x⟩,by decide⟩
def okD:DV := .tup [.str [],.bool true]
theorem zwui (F:Fr) (Q R:List Str) (hL:Q.length+R.length=F.N) (r:Rul):zwy1 P 61 [.mp 2 6 0,.agg (ruC r)] (F.H Q R) (fun d h=>d=okD∧h=F.H (zwyd (matB r (zmcg F.s.done.l r).l F.s.files.l) Q) (repE (Q.length-(zwyd (matB r (zmcg F.s.done.l r).l F.s.files.l) Q).length)++R)):=by
 refine zrqk Tryd.func61 zuuw ?_
 have hl2:=(F.len Q R).1
 have hbl:=F.below Q R (Nat.le_refl _)
 have c1:=zgr6 F Q R r
 have c2:=zcie F Q R hL (zxbm F.s r (zmcg F.s.done.l r))
 obtain ⟨H',hH'⟩ : ∃ H',F.H (zwyd (matB r (zmcg F.s.done.l r).l F.s.files.l) Q) (repE (Q.length-(zwyd (matB r (zmcg F.s.done.l r).l F.s.files.l) Q).length)++R)=H':=⟨_,rfl⟩
 rw [hH'] at c2 ⊢
 obtain ⟨fs,hfs⟩ : ∃ fs,zmcg F.s.done.l r=fs:=⟨_,rfl⟩
 rw [hfs] at c1 c2
 obtain ⟨H,hH⟩ : ∃ H,F.H Q R=H:=⟨_,rfl⟩
 rw [hH] at hl2 hbl c1 c2 ⊢
 have hl3:2<H.length:=hl2
 have e2 : ∀ h,mk1 (kLt H.length) h (.mp 2 6 0) = .mp 2 6 0:=fun h=>zd3c (by simp [Am.below,hl2])
 have hk2:kLt H.length 2=true:=by simp [kLt,hl2]
 have e1:=zh5h (H:=H) (R:=[.cells [.mp 2 6 0],.cells (ruC r)]) (cs:=[.mp 2 6 0]) (off:=0) z27d (Nat.le_refl _) (zb5y hk2)
 have e3:=zh5h (H:=H) (R:=[.cells [.mp 2 6 0],.cells (ruC r)]) (cs:=ruC r) (off:=0) zpw0 (by omega) (zl6f (z3bz r))
 have e4:=zh5h (H:=H) (R:=[.cells [fs.dv 33 enC]]) (cs:=[fs.dv 33 enC]) (off:=0) z27d (Nat.le_refl _) (zl6f (by simp only [List.drop_zero,zbao,zru8,Bool.and_self]))
 have e5 : ∀ h,mk1 (kLt H.length) h (.ref (ruC r)) = .ref (ruC r):=fun h=>zvft (by simp only [zyp8,z3bz])
 have e6 : ∀ h,mk1 (kLt H.length) h (.ref [.mp 2 6 0]) = .ref [.mp 2 6 0]:=fun h=>zd3c (by simp [Am.below,z1r6,hl2])
 refine zbn1 (V_W mix zr5o ?_)
 simp (disch:=first|omega|simp<;>omega|fail) [-zA,-zB,-zC,-zD,-zE,a61]
 refine z0em (H:=H) (R:=[.cells [.mp 2 6 0],.cells (ruC r)]) (t':=[.mp 2 6 0,.junk,.ref [.mp 2 6 0],.ref (ruC r),.str [],.bool false]++js 7) hbl (Nat.le_refl _) ?_ (by simp (disch:=first|omega|simp<;>omega|fail) [-zA,-zB,-zC,-zD,-zE,z1r6,Am.below,hl2]) ?_
 ·simp only [zpvo,List.length_cons,List.length_nil,Nat.zero_add] at e1 e3
  simp (disch:=first|omega|simp<;>omega|fail) [-zA,-zB,-zC,-zD,-zE,e1,e2,e3,-z1bt,-zdpe]
 have hst : ∀ (h:List AObj) (id:Nat),zy6o h id 1 0 (fs.dv 33 enC) (some [.nils])=some (.junk,h.set id (.cells [fs.dv 33 enC])):=fun h id=>by
  rw [Am.storeO_1 (zfr8 _) (z4ja _) (by decide)]; rfl
 refine zbn1 (V_W mix (z84q c1) ?_)
 simp (disch:=first|omega|simp<;>omega|fail) [-zA,-zB,-zC,-zD,-zE,TH_k,zpvh,zxsc,zjj2,z1zn,zxft,hst]
 refine z0em (H:=H) (R:=[.cells [fs.dv 33 enC]]) (t':=[.mp 2 6 0,.junk,.ref [.mp 2 6 0],.ref (ruC r),.str [],.bool false,.ref [fs.dv 33 enC]]++js 6) hbl (Nat.le_refl _) ?_ (by simp (disch:=first|omega|simp<;>omega|fail) [-zA,-zB,-zC,-zD,-zE,z1r6,Am.below,hl2,zb48]) ?_
 ·simp only [List.length_cons,List.length_nil,Nat.zero_add] at e4
  simp (disch:=first|omega|simp<;>omega|fail) [-zA,-zB,-zC,-zD,-zE,e2,e4,e5,e6,-z1bt,-zdpe]
 refine zbn1 (V_W mix (z84q c2) ?_)
 simp (disch:=first|omega|simp<;>omega|fail) [-zA,-zB,-zC,-zD,-zE,TH_k,zpvh]
 refine V_W mix zr5o ?_
 simp (disch:=first|omega|simp<;>omega|fail) [-zA,-zB,-zC,-zD,-zE,okD]
theorem zpxu (F:Fr) (Q R:List Str) (hL:Q.length+R.length=F.N) (k:Nat) (hk:k<3) (pat:Str):zwy1 P 120 [.mp 2 6 0,.str pat,.fn (.func (acF k)) [] []] (F.H Q R) (fun d h=>d=okD∧h=F.H (zwyd (chgB k pat F.s.self.m.l F.s.self.p.l) Q) (repE (Q.length-(zwyd (chgB k pat F.s.self.m.l F.s.self.p.l) Q).length)++R)):=by
 refine zrqk Tryd.func120 zrxr ?_
 have hl2:=(F.len Q R).1
 have hbl:=F.below Q R (Nat.le_refl _)
 have c2:=zcie F Q R hL (zpos F.s k hk pat)
 obtain ⟨H',hH'⟩ : ∃ H',F.H (zwyd (chgB k pat F.s.self.m.l F.s.self.p.l) Q) (repE (Q.length-(zwyd (chgB k pat F.s.self.m.l F.s.self.p.l) Q).length)++R)=H':=⟨_,rfl⟩
 rw [hH'] at c2 ⊢
 obtain ⟨f,hf⟩ : ∃ f,DV.fn (.func (acF k)) [] []=f:=⟨_,rfl⟩
 have hfp:zyp8 f=true:=by rw [← hf]; rfl
 have hfk:f.known=true:=by rw [← hf]; rfl
 have hfc:f.cells=[f]:=by rw [← hf]; rfl
 have hfo:f.one=true:=by rw [← hf]; rfl
 have hbx : ∀ h,boxD h f=some (.mp h.length 1 0,h++[.cells [f]]):=fun h=>by rw [← hf]; rfl
 rw [hf] at c2 ⊢
 obtain ⟨H,hH⟩ : ∃ H,F.H Q R=H:=⟨_,rfl⟩
 rw [hH] at hl2 hbl c2 ⊢
 have hl3:2<H.length:=hl2
 have e2 : ∀ h,mk1 (kLt H.length) h (.mp 2 6 0) = .mp 2 6 0:=fun h=>zd3c (by simp [Am.below,hl2])
 have hk2:kLt H.length 2=true:=by simp [kLt,hl2]
 have e1:=zh5h (H:=H) (R:=[.cells [.mp 2 6 0],.cells [.str pat],.cells [f]]) (cs:=[.mp 2 6 0]) (off:=0) z27d (Nat.le_refl _) (zb5y hk2)
 have e3:=zh5h (H:=H) (R:=[.cells [.mp 2 6 0],.cells [.str pat],.cells [f]]) (cs:=[.str pat]) (off:=0) zpw0 (by omega) (zl6f (by simp only [List.drop_zero,zbao,zyp8,Bool.and_self]))
 have e4:=zh5h (H:=H) (R:=[.cells [.mp 2 6 0],.cells [.str pat],.cells [f]]) (cs:=[f]) (off:=0) z1v4 (by omega) (zl6f (by simp only [List.drop_zero,zbao,hfp,Bool.and_self]))
 refine zbn1 (V_W mix zr5o ?_)
 simp (disch:=first|omega|simp<;>omega|fail) [-zA,-zB,-zC,-zD,-zE,a120,hbx]
 refine z0em (H:=H) (R:=[.cells [.mp 2 6 0],.cells [.str pat],.cells [f]]) (t':=[.mp 2 6 0,.junk,.junk,.ref [.mp 2 6 0],.ref [.str pat],.ref [f],.str [],.bool false]++js 3) hbl (Nat.le_refl _) ?_ (by simp (disch:=first|omega|simp<;>omega|fail) [-zA,-zB,-zC,-zD,-zE,z1r6,Am.below,hl2,z8b8 _ _ hfp]) ?_
 ·simp only [List.length_cons,List.length_nil,Nat.zero_add] at e1 e3 e4
  simp (disch:=first|omega|simp<;>omega|fail) [-zA,-zB,-zC,-zD,-zE,e1,e2,e3,e4,-z1bt,-zdpe]
 refine zbn1 (V_W mix (z84q c2) ?_)
 simp (disch:=first|omega|simp<;>omega|fail) [-zA,-zB,-zC,-zD,-zE,TH_k,zpvh]
 refine V_W mix zr5o ?_
 simp (disch:=first|omega|simp<;>omega|fail) [-zA,-zB,-zC,-zD,-zE,okD]
theorem ztrn (F:Fr) (Q R:List Str) (hL:Q.length+R.length=F.N) (r:Rul):zwy1 P 62 [.mp 2 6 0,.agg (ruC r)] (F.H Q R) (fun d h=>d=okD∧h=F.H (zwyd (chgB 0 r.pat F.s.self.m.l F.s.self.p.l) Q) (repE (Q.length-(zwyd (chgB 0 r.pat F.s.self.m.l F.s.self.p.l) Q).length)++R)):=by
 refine zrqk Tryd.func62 z0i3 ?_
 have hl2:=(F.len Q R).1
 have hbl:=F.below Q R (Nat.le_refl _)
 have c2:=zpxu F Q R hL 0 (by decide) r.pat
 simp only [acF] at c2
 obtain ⟨H',hH'⟩ : ∃ H',F.H (zwyd (chgB 0 r.pat F.s.self.m.l F.s.self.p.l) Q) (repE (Q.length-(zwyd (chgB 0 r.pat F.s.self.m.l F.s.self.p.l) Q).length)++R)=H':=⟨_,rfl⟩
 rw [hH'] at c2 ⊢
 obtain ⟨H,hH⟩ : ∃ H,F.H Q R=H:=⟨_,rfl⟩
 rw [hH] at hl2 hbl c2 ⊢
 have hl3:2<H.length:=hl2
 have e2 : ∀ h,mk1 (kLt H.length) h (.mp 2 6 0) = .mp 2 6 0:=fun h=>zd3c (by simp [Am.below,hl2])
 have hk2:kLt H.length 2=true:=by simp [kLt,hl2]
 have e1:=zz5t (H:=H) (cs:=ruC r) (off:=0) (z3bz r)
 refine zbn1 (V_W mix zr5o ?_)
 simp (disch:=first|omega|simp<;>omega|fail) [-zA,-zB,-zC,-zD,-zE,a62]
 refine zs10 (n0:=H.length) (H:=H) (cs:=ruC r) (t':=[.mp 2 6 0,.junk,.junk,.ref (ruC r),.str [],.bool false]++js 6) hbl (Nat.le_refl _) ?_ (by simp (disch:=first|omega|simp<;>omega|fail) [-zA,-zB,-zC,-zD,-zE,z1r6,Am.below,hl2]) ?_
 ·rw [zpvo,List.drop_zero] at e1
  simp (disch:=first|omega|simp<;>omega|fail) [-zA,-zB,-zC,-zD,-zE,e1,e2,-z1bt,-zdpe]
 refine zbn1 (V_W mix (z84q c2) ?_)
 simp (disch:=first|omega|simp<;>omega|fail) [-zA,-zB,-zC,-zD,-zE,TH_k,zpvh,okD]
 refine V_W mix zr5o ?_
 simp (disch:=first|omega|simp<;>omega|fail) [-zA,-zB,-zC,-zD,-zE]
theorem zl0d (F:Fr) (Q R:List Str) (hL:Q.length+R.length=F.N) (r:Rul):zwy1 P 63 [.mp 2 6 0,.agg (ruC r)] (F.H Q R) (fun d h=>d=okD∧h=F.H (zwyd (chgB 1 r.pat F.s.self.m.l F.s.self.p.l) Q) (repE (Q.length-(zwyd (chgB 1 r.pat F.s.self.m.l F.s.self.p.l) Q).length)++R)):=by
 refine zrqk Tryd.func63 z2tu ?_
 have hl2:=(F.len Q R).1
 have hbl:=F.below Q R (Nat.le_refl _)
 have c2:=zpxu F Q R hL 1 (by decide) r.pat
 simp only [acF] at c2
 obtain ⟨H',hH'⟩ : ∃ H',F.H (zwyd (chgB 1 r.pat F.s.self.m.l F.s.self.p.l) Q) (repE (Q.length-(zwyd (chgB 1 r.pat F.s.self.m.l F.s.self.p.l) Q).length)++R)=H':=⟨_,rfl⟩
 rw [hH'] at c2 ⊢
 obtain ⟨H,hH⟩ : ∃ H,F.H Q R=H:=⟨_,rfl⟩
 rw [hH] at hl2 hbl c2 ⊢
 have hl3:2<H.length:=hl2
 have e2 : ∀ h,mk1 (kLt H.length) h (.mp 2 6 0) = .mp 2 6 0:=fun h=>zd3c (by simp [Am.below,hl2])
 have hk2:kLt H.length 2=true:=by simp [kLt,hl2]
 have e1:=zz5t (H:=H) (cs:=ruC r) (off:=0) (z3bz r)
 refine zbn1 (V_W mix zr5o ?_)
 simp (disch:=first|omega|simp<;>omega|fail) [-zA,-zB,-zC,-zD,-zE,a63]
 refine zs10 (n0:=H.length) (H:=H) (cs:=ruC r) (t':=[.mp 2 6 0,.junk,.junk,.ref (ruC r),.str [],.bool false]++js 6) hbl (Nat.le_refl _) ?_ (by simp (disch:=first|omega|simp<;>omega|fail) [-zA,-zB,-zC,-zD,-zE,z1r6,Am.below,hl2]) ?_
 ·rw [zpvo,List.drop_zero] at e1
  simp (disch:=first|omega|simp<;>omega|fail) [-zA,-zB,-zC,-zD,-zE,e1,e2,-z1bt,-zdpe]
 refine zbn1 (V_W mix (z84q c2) ?_)
 simp (disch:=first|omega|simp<;>omega|fail) [-zA,-zB,-zC,-zD,-zE,TH_k,zpvh,okD]
 refine V_W mix zr5o ?_
 simp (disch:=first|omega|simp<;>omega|fail) [-zA,-zB,-zC,-zD,-zE]
theorem zcqt (F:Fr) (Q R:List Str) (hL:Q.length+R.length=F.N) (r:Rul):zwy1 P 64 [.mp 2 6 0,.agg (ruC r)] (F.H Q R) (fun d h=>d=okD∧h=F.H (zwyd (chgB 2 r.pat F.s.self.m.l F.s.self.p.l) Q) (repE (Q.length-(zwyd (chgB 2 r.pat F.s.self.m.l F.s.self.p.l) Q).length)++R)):=by
 refine zrqk Tryd.func64 zerh ?_
 have hl2:=(F.len Q R).1
 have hbl:=F.below Q R (Nat.le_refl _)
 have c2:=zpxu F Q R hL 2 (by decide) r.pat
 simp only [acF] at c2
 obtain ⟨H',hH'⟩ : ∃ H',F.H (zwyd (chgB 2 r.pat F.s.self.m.l F.s.self.p.l) Q) (repE (Q.length-(zwyd (chgB 2 r.pat F.s.self.m.l F.s.self.p.l) Q).length)++R)=H':=⟨_,rfl⟩
 rw [hH'] at c2 ⊢
 obtain ⟨H,hH⟩ : ∃ H,F.H Q R=H:=⟨_,rfl⟩
 rw [hH] at hl2 hbl c2 ⊢
 have hl3:2<H.length:=hl2
 have e2 : ∀ h,mk1 (kLt H.length) h (.mp 2 6 0) = .mp 2 6 0:=fun h=>zd3c (by simp [Am.below,hl2])
 have hk2:kLt H.length 2=true:=by simp [kLt,hl2]
 have e1:=zz5t (H:=H) (cs:=ruC r) (off:=0) (z3bz r)
 refine zbn1 (V_W mix zr5o ?_)
 simp (disch:=first|omega|simp<;>omega|fail) [-zA,-zB,-zC,-zD,-zE,a64]
 refine zs10 (n0:=H.length) (H:=H) (cs:=ruC r) (t':=[.mp 2 6 0,.junk,.junk,.ref (ruC r),.str [],.bool false]++js 6) hbl (Nat.le_refl _) ?_ (by simp (disch:=first|omega|simp<;>omega|fail) [-zA,-zB,-zC,-zD,-zE,z1r6,Am.below,hl2]) ?_
 ·rw [zpvo,List.drop_zero] at e1
  simp (disch:=first|omega|simp<;>omega|fail) [-zA,-zB,-zC,-zD,-zE,e1,e2,-z1bt,-zdpe]
 refine zbn1 (V_W mix (z84q c2) ?_)
 simp (disch:=first|omega|simp<;>omega|fail) [-zA,-zB,-zC,-zD,-zE,TH_k,zpvh,okD]
 refine V_W mix zr5o ?_
 simp (disch:=first|omega|simp<;>omega|fail) [-zA,-zB,-zC,-zD,-zE]
theorem z8ug (F:Fr) (Q R:List Str) (hL:Q.length+R.length=F.N) (r:Rul):zwy1 P 65 [.mp 2 6 0,.agg (ruC r)] (F.H Q R) (fun d h=>d=okD∧h=F.H (zwyd (zenh r.pat) Q) (repE (Q.length-(zwyd (zenh r.pat) Q).length)++R)):=by
 refine zrqk Tryd.func65 zh04 ?_
 have hl2:=(F.len Q R).1
 have hbl:=F.below Q R (Nat.le_refl _)
 have c2:=zcie F Q R hL (za09 F.s r)
 obtain ⟨H',hH'⟩ : ∃ H',F.H (zwyd (zenh r.pat) Q) (repE (Q.length-(zwyd (zenh r.pat) Q).length)++R)=H':=⟨_,rfl⟩
 rw [hH'] at c2 ⊢
 obtain ⟨H,hH⟩ : ∃ H,F.H Q R=H:=⟨_,rfl⟩
 rw [hH] at hl2 hbl c2 ⊢
 have hl3:2<H.length:=hl2
 have e2 : ∀ h,mk1 (kLt H.length) h (.mp 2 6 0) = .mp 2 6 0:=fun h=>zd3c (by simp [Am.below,hl2])
 have hk2:kLt H.length 2=true:=by simp [kLt,hl2]
 have e1:=zz5t (H:=H) (cs:=ruC r) (off:=0) (z3bz r)
 refine zbn1 (V_W mix zr5o ?_)
 simp (disch:=first|omega|simp<;>omega|fail) [-zA,-zB,-zC,-zD,-zE,a65]
 refine zs10 (n0:=H.length) (H:=H) (cs:=ruC r) (t':=[.mp 2 6 0,.junk,.junk,.ref (ruC r),.str [],.bool false]++js 3) hbl (Nat.le_refl _) ?_ (by simp (disch:=first|omega|simp<;>omega|fail) [-zA,-zB,-zC,-zD,-zE,z1r6,Am.below,hl2]) ?_
 ·rw [zpvo,List.drop_zero] at e1
  simp (disch:=first|omega|simp<;>omega|fail) [-zA,-zB,-zC,-zD,-zE,e1,e2,-z1bt,-zdpe]
 refine zbn1 (V_W mix (z84q c2) ?_)
 simp (disch:=first|omega|simp<;>omega|fail) [-zA,-zB,-zC,-zD,-zE,TH_k,zpvh]
 refine V_W mix zr5o ?_
 simp (disch:=first|omega|simp<;>omega|fail) [-zA,-zB,-zC,-zD,-zE,okD]
end Go.Proofs.YtjknipdiglpnlaaDoor
set_option linter.unusedSimpArgs false
set_option linter.unusedVariables false
set_option maxRecDepth 8000
namespace Go.Proofs.YtjknipdiglpnlaaDoor
open Go Go.Am
theorem Fr.qlen (F:Fr) (Q R X:_) (hL:Q.length+R.length=F.N):lenD (F.H Q R++X) (qV F.N Q.length)=some (.int .i64 Q.length):=by
 by_cases h0:F.N=0
 ·rw [qV,if_pos h0]
  have:Q.length=0:=by omega
  rw [this]; rfl
 ·rw [qV,if_neg h0,qD,z59c]
  have ho:objV (F.H Q R++X) 3 F.N=some (sts (Q++R)):=by
   unfold Fr.H; rw [qT,if_neg h0]
   show (if (sts (Q++R)).length=F.N then some (sts (Q++R)) else none)=_
   rw [if_pos (by rw [z8p2,List.length_append,hL])]
  rw [ho]; rfl
theorem Fr.qobj (F:Fr) (Q R X:_) (hL:Q.length+R.length=F.N) (h0:F.N≠0):objV (F.H Q R++X) 3 F.N=some (sts (Q++R)):=by
 unfold Fr.H; rw [qT,if_neg h0]
 show (if (sts (Q++R)).length=F.N then some (sts (Q++R)) else none)=_
 rw [if_pos (by rw [z8p2,List.length_append,hL])]
theorem zc0g {Q R:List Str} {i:Nat} (hi:i<Q.length):oneC 1 false ((sts (Q++R)).drop i)=some (.str Q[i]):=by
 unfold sts
 rw [z68l (by rw [List.length_append]; omega),List.getElem_append_left hi]
def zidp (o:Option Str):DV := .tup [.str (o.getD []),.bool o.isNone]
noncomputable def zdi3:Tbl:=addT 118 (.pure (cSS z46z)) tbl0
theorem z4ie:zdi3 118 = .pure (cSS z46z):=by simp [zdi3]
theorem zmmd:zdi3.Sound P:=z0rp (zd7v fun p s=>zljw mix zy0e Tryd.func118 zasg (z3jz p s)) zr5o
def zouf (H:List AObj) (r:Rul) (q:DV) (n i:Nat):St:=zgxj (.ref (ruC r)) q (.int .i64 n) (.int .i64 i) H
theorem zhxf {p:Str→Bool} : ∀ {l:List Str} {i:Nat} (hi:i<l.length),p l[i]=true→(∀ j (h:j<l.length),j<i→p l[j]=false)→l.find? p=some l[i]
 | a::l,0,_,h,_=>by simp only [List.getElem_cons_zero] at h; simp [List.find?_cons,h]
 | a::l,i+1,hi,h,h2=>by
  have ha:p a=false:=h2 0 (by simp) (by omega)
  have ih:=zhxf (p:=p) (l:=l) (i:=i) (by simpa using hi) (by simpa using h) fun j hj hji=>by
   have:=h2 (j+1) (by simpa using hj) (by omega)
   simpa using this
  simp [List.find?_cons,ha,ih]
theorem z11n {p:Str→Bool} {l:List Str} (h : ∀ a ∈ l,p a=false):l.find? p=none:=by
 rw [List.find?_eq_none]; intro a ha; rw [h a ha]; simp
theorem zrz5 (F:Fr) (Q R:List Str) (hL:Q.length+R.length=F.N) (r:Rul):zwy1 P 66 [.mp 2 6 0,.agg (ruC r)] (F.H Q R) (fun d h=>d=zidp (Q.find? (zenh r.pat))∧h=F.H Q R):=by
 refine zrqk Tryd.func66 z3a6 ?_
 have hl2:=(F.len Q R).1
 have hbl:=F.below Q R (Nat.le_refl _)
 have hO:=F.hO0 Q R
 have hql:=F.qlen Q R [] hL
 rw [List.append_nil] at hql
 have hNn:=F.hN
 have hqi : ∀ i,i<Q.length→zpsc (F.H Q R) 1 (qV F.N Q.length) i=some (.mp 3 F.N i):=fun i hi=>by
  have h0:F.N≠0:=by omega
  have ho:=F.qobj Q R [] hL h0
  rw [List.append_nil] at ho
  rw [qV,if_neg h0,qD,zq11 (by omega) (by omega),ho]
  simp
 have hob:0<Q.length→objV (F.H Q R) 3 F.N=some (sts (Q++R)):=fun hi=>by
  have ho:=F.qobj Q R [] hL (by omega)
  rwa [List.append_nil] at ho
 have hqp : ∀ n,n=(F.H Q R).length→Am.below n (qV F.N Q.length)=true:=fun n e=>by
  by_cases h0:F.N=0
  ·rw [qV,if_pos h0]; rfl
  ·have:=(F.len Q R).2 h0
   rw [qV,if_neg h0,qD]; simp only [Am.below,decide_eq_true_eq]; omega
 have hqp:=hqp _ rfl
 obtain ⟨q,hq⟩ : ∃ q,qV F.N Q.length=q:=⟨_,rfl⟩
 rw [hq] at hO hql hqi hqp
 obtain ⟨H,hH⟩ : ∃ H,F.H Q R=H:=⟨_,rfl⟩
 rw [hH] at hO hl2 hbl hql hqi hob hqp ⊢
 have e1:=zz5t (H:=H) (cs:=ruC r) (off:=0) (z3bz r)
 have e2 : ∀ h,mk1 (kLt H.length) h (.mp 2 6 0) = .mp 2 6 0:=fun h=>zd3c (by simp [Am.below,hl2])
 refine zbn1 (V_W mix zr5o ?_)
 simp (disch:=first|omega|simp<;>omega|fail) [-zA,-zB,-zC,-zD,-zE,a66]
 refine zs10 (n0:=H.length) (H:=H) (cs:=ruC r) (t':=[.mp 2 6 0,.junk,.junk,.ref (ruC r)]++js 19) hbl (Nat.le_refl _) ?_ (by simp (disch:=first|omega|simp<;>omega|fail) [-zA,-zB,-zC,-zD,-zE,z1r6,Am.below,hl2]) ?_
 ·rw [zpvo,List.drop_zero] at e1
  simp (disch:=first|omega|simp<;>omega|fail) [-zA,-zB,-zC,-zD,-zE,e1,e2,-z1bt,-zdpe]
 refine zbn1 (zbn1 (V_W mix zr5o ?_))
 simp (disch:=first|omega|simp<;>omega|fail) [-zA,-zB,-zC,-zD,-zE,hO,zi9h,hql]
 refine z3mo (ztbr (zouf H r q Q.length) (fun i=>Q.length-i) (fun i=>i≤Q.length ∧ ∀ j (h:j<Q.length),j<i→zenh r.pat Q[j]=false) 0 (z515 (by simp (disch:=first|omega|simp<;>omega|fail) [-zA,-zB,-zC,-zD,-zE,zouf,zgxj]) (by simp (disch:=first|omega|simp<;>omega|fail) [-zA,-zB,-zC,-zD,-zE,zouf,zgxj])) ⟨by omega,fun j _ hj=>by omega⟩ (fun i hi => ?_))
 obtain ⟨q1,q2⟩:=hi
 simp only [zouf]
 by_cases g:i<Q.length
 case neg =>
  have g':¬ (i:Int)<Q.length:=by omega
  have hr:Q.find? (zenh r.pat)=none:=z11n fun a ha=>by
   obtain ⟨j,hj,e⟩:=List.getElem_of_mem ha
   have:=q2 j hj (by omega)
   rw [e] at this; exact this
  rw [hr]
  refine zbn1 (V_W mix zr5o ?_)
  simp (disch:=first|omega|simp<;>omega|fail) [-zA,-zB,-zC,-zD,-zE,z6p4,zgxj,g,g']
  refine zbn1 (V_W mix zr5o ?_)
  simp (disch:=first|omega|simp<;>omega|fail) [-zA,-zB,-zC,-zD,-zE]
  refine zbn1 (V_W mix zr5o ?_)
  simp (disch:=first|omega|simp<;>omega|fail) [-zA,-zB,-zC,-zD,-zE]
  refine V_W mix zr5o ?_
  simp (disch:=first|omega|simp<;>omega|fail) [-zA,-zB,-zC,-zD,-zE,zidp]
 have g':(i:Int)<Q.length:=by omega
 have hy:=hqi i g
 have hb:=hob (by omega)
 have o1:=zc0g (R:=R) g
 have hinv:zenh r.pat Q[i]=false → ∀ j (h:j<Q.length),j<i+1→zenh r.pat Q[j]=false:=fun e j hj hji=>by
  by_cases ej:j=i
  ·subst ej; exact e
  ·exact q2 j hj (by omega)
 have hr:zenh r.pat Q[i]=true→Q.find? (zenh r.pat)=some Q[i]:=fun e=>zhxf g e q2
 obtain ⟨u,hu⟩ : ∃ u,Q[i]=u:=⟨_,rfl⟩
 rw [hu] at o1 hinv hr
 obtain ⟨Z,hZ⟩ : ∃ Z,sts (Q++R)=Z:=⟨_,rfl⟩
 rw [hZ] at hb o1
 refine V_W mix zmmd ?_
 cases e:zenh r.pat u with
 | true =>
  rw [hr e]
  simp (disch:=first|omega|simp<;>omega|fail) [-zA,-zB,-zC,-zD,-zE,z6p4,zgxj,g,g',hy,hb,o1,z4ie,z5o0,z46z,e,zidp]
 | false =>
  have hinv:=hinv e
  simp (disch:=first|omega|simp<;>omega|fail) [-zA,-zB,-zC,-zD,-zE,z6p4,zgxj,g,g',hy,hb,o1,z4ie,z5o0,z46z,e]
  exact ⟨i+1,z515 (by simp (disch:=first|omega|simp<;>omega|fail) [-zA,-zB,-zC,-zD,-zE,zouf,zgxj]) (by simp (disch:=first|omega|simp<;>omega|fail) [-zA,-zB,-zC,-zD,-zE,zouf,zgxj]),by omega,by omega,fun j h hj=>hinv j h hj⟩
def qS (N:Nat) (Q:List Str):Sl Str:=if N=0 then nilS else own Q
theorem zsdb (F:Fr) (Q R:List Str) (hL:Q.length+R.length=F.N) (r:Rul):zwy1 P 67 [.mp 2 6 0,.agg (ruC r)] (F.H Q R) (fun d h=>d=zidp (if Q.any (zenh r.pat) then none else some [])∧h=F.H Q R):=by
 refine zrqk Tryd.func67 zy8u ?_
 have hl2:=(F.len Q R).1
 have hbl:=F.below Q R (Nat.le_refl _)
 have hO:=F.hO0 Q R
 have hNn:=F.hN
 obtain ⟨fn,hfn⟩ : ∃ fn,DV.fn (.func 126) [] [.ref (ruC r)]=fn:=⟨_,rfl⟩
 have hfp:zyp8 fn=true:=by rw [← hfn]; simp [zyp8,zbao]
 obtain ⟨x,hx1,hx2,hx3⟩ : ∃ x:Sl Str,x.l=Q∧snap (F.H Q R) 3 (qV F.N Q.length)=some (x.dv 1 stC)∧(zyp8 (qV F.N Q.length)=true→qV F.N Q.length=x.dv 1 stC):=by
  by_cases h0:F.N=0
  ·have hQ:Q=[]:=List.eq_nil_of_length_eq_zero (by omega)
   refine ⟨nilS,by rw [hQ]; rfl,?_,fun _ => ?_⟩
   ·rw [qV,if_pos h0,zw4a]; exact z7d7
   ·rw [qV,if_pos h0,zw4a]
  ·refine ⟨own Q,z3e9 (by omega),?_,fun q => ?_⟩
   ·have h:=z123 (pre:=[.cells F.a,.cells F.b,.cells (sdC F.s (qD 3 F.N Q.length))]) (A:=Q) (R:=R) (N:=F.N) hL (by omega)
    have e1:F.H Q R=[.cells F.a,.cells F.b,.cells (sdC F.s (qD 3 F.N Q.length))]++[.cells (sts (Q++R))]:=by unfold Fr.H; rw [qV,qT,if_neg h0,if_neg h0]
    rw [e1,qV,if_neg h0]; exact h
   ·rw [qV,if_neg h0] at q; simp [qD,zyp8] at q
 have hsem:=z7il x (g:=126) (cap:=[.ref (ruC r)]) (p:=zenh r.pat) (by simp only [zbao,zyp8,z3bz,Bool.and_self]) (fun s=>zb64 r s)
 rw [hfn,hx1] at hsem
 obtain ⟨q,hq⟩ : ∃ q,qV F.N Q.length=q:=⟨_,rfl⟩
 rw [hq] at hO hx2 hx3
 obtain ⟨H,hH⟩ : ∃ H,F.H Q R=H:=⟨_,rfl⟩
 rw [hH] at hO hl2 hbl hx2 ⊢
 obtain ⟨b,hb⟩ : ∃ b,Q.any (zenh r.pat)=b:=⟨_,rfl⟩
 rw [hb] at hsem ⊢
 have hpt:ptP [x.dv 1 stC,fn] (.bool b) [x.dv 1 stC,fn]=some (.bool b):=zr20
 have hcall:zyo0 (ptP [x.dv 1 stC,fn] (.bool b)) [q,fn] H=some (.bool b):=by
  cases hI:zyp8 q with
  | true=>rw [z7h3 (by simp [zbao,hI,hfp]),hx3 hI,hpt]
  | false =>
   have hfs:snap H 3 fn=some fn:=z6nl hfp
   rw [zl41 (by simp [zbao,hI]),zrz6,hx2,zrz6,hfs]; simp [hpt]
 have hTk:TI 125 [x.dv 1 stC,fn] (.bool b) 125 = .pure (ptP [x.dv 1 stC,fn] (.bool b)):=TI_k
 have hTs:=zyyb hsem
 obtain ⟨T,hT⟩ : ∃ T,TI 125 [x.dv 1 stC,fn] (.bool b)=T:=⟨_,rfl⟩
 rw [hT] at hTk hTs
 obtain ⟨c,hc⟩ : ∃ c,ptP [x.dv 1 stC,fn] (.bool b)=c:=⟨_,rfl⟩
 rw [hc] at hcall hTk
 have e1:=zz5t (H:=H) (cs:=ruC r) (off:=0) (z3bz r)
 have e2 : ∀ h,mk1 (kLt H.length) h (.mp 2 6 0) = .mp 2 6 0:=fun h=>zd3c (by simp [Am.below,hl2])
 refine zbn1 (V_W mix zr5o ?_)
 simp (disch:=first|omega|simp<;>omega|fail) [-zA,-zB,-zC,-zD,-zE,a67]
 refine zs10 (n0:=H.length) (H:=H) (cs:=ruC r) (t':=[.mp 2 6 0,.junk,.junk,.ref (ruC r),.str [],.bool false]++js 6) hbl (Nat.le_refl _) ?_ (by simp (disch:=first|omega|simp<;>omega|fail) [-zA,-zB,-zC,-zD,-zE,z1r6,Am.below,hl2]) ?_
 ·rw [zpvo,List.drop_zero] at e1
  simp (disch:=first|omega|simp<;>omega|fail) [-zA,-zB,-zC,-zD,-zE,e1,e2,-z1bt,-zdpe]
 refine zbn1 (V_W mix hTs ?_)
 simp (disch:=first|omega|simp<;>omega|fail) [-zA,-zB,-zC,-zD,-zE,hO,zi9h,hTk,hfn,hcall,-ztar]
 refine V_W mix zr5o ?_
 cases b with
 | true=>simp (disch:=first|omega|simp<;>omega|fail) [-zA,-zB,-zC,-zD,-zE,zidp]
 | false=>simp (disch:=first|omega|simp<;>omega|fail) [-zA,-zB,-zC,-zD,-zE,zidp]
def metK:Nat→Nat
 | 1=>61|2=>62|3=>63|4=>64|5=>65|6=>66|_=>67
def zkvg (s:Sd) (r:Rul) (k:Nat):Str→Bool:=match k with
 | 1=>matB r (zmcg s.done.l r).l s.files.l
 | 2=>chgB 0 r.pat s.self.m.l s.self.p.l
 | 3=>chgB 1 r.pat s.self.m.l s.self.p.l
 | 4=>chgB 2 r.pat s.self.m.l s.self.p.l
 | 5=>zenh r.pat
 | _=>fun _=>false
def zkx0 (r:Rul) (k:Nat) (Q:List Str):Option Str:=match k with
 | 6=>Q.find? (zenh r.pat)
 | 7=>if Q.any (zenh r.pat) then none else some []
 | _=>none
theorem zpkc {Q:List Str}:zwyd (fun _=>false) Q=Q:=zjbt fun _ _=>rfl
theorem zmbk (F:Fr) (Q R:List Str) (hL:Q.length+R.length=F.N) (r:Rul) (k:Nat) (h1:1≤k) (h7:k≤7) :
  zwy1 P (metK k) [.mp 2 6 0,.agg (ruC r)] (F.H Q R) (fun d h=>d=zidp (zkx0 r k Q)∧h=F.H (zwyd (zkvg F.s r k) Q) (repE (Q.length-(zwyd (zkvg F.s r k) Q).length)++R)):=by
 have e : ∀ R:List Str,repE 0++R=R:=fun _=>rfl
 rcases k with _|_|_|_|_|_|_|_|k
 ·omega
 ·exact zwui F Q R hL r
 ·exact ztrn F Q R hL r
 ·exact zl0d F Q R hL r
 ·exact zcqt F Q R hL r
 ·exact z8ug F Q R hL r
 ·simp only [zkvg,zpkc,Nat.sub_self,e]; exact zrz5 F Q R hL r
 ·simp only [zkvg,zpkc,Nat.sub_self,e]; exact zsdb F Q R hL r
 ·omega
end Go.Proofs.YtjknipdiglpnlaaDoor
set_option linter.unusedSimpArgs false
set_option linter.unusedVariables false
set_option maxRecDepth 20000
namespace Go.Proofs.YtjknipdiglpnlaaDoor
open Go Go.Am
structure Res where
 fi:Int
 pa:Str
 le:List Str
 deriving DecidableEq
def appL (s:Sd):List Rul→Nat→List Str→Res
 | [],_,Q=>⟨-1,[],Q⟩
 | r::l,i,Q=>if z8mn r=true then (match zkx0 r r.kind.toNat Q with
   | some p=>⟨i,p,zwyd (zkvg s r r.kind.toNat) Q⟩
   | none=>appL s l (i+1) (zwyd (zkvg s r r.kind.toNat) Q))
  else ⟨i,[],Q⟩
def zw2l (l:List Ent):List Str:=l.map (·.path)
theorem z1cm (l:List Ent):(zw2l l).length=l.length:=by simp [zw2l]
def zmoc (pr:Bool) (x:Lnk):Sl Ent:=if pr then x.p else x.m
def sdOf (pr:Bool) (x:Lnk) (done:Sl Lnk):Sd:=⟨x,zmoc pr x,done⟩
def zr9o (l:List Rul) (pr:Bool) (x:Lnk) (done:Sl Lnk):Res:=appL (sdOf pr x done) l 0 (zw2l (zmoc pr x).l)
def z6t9 (N:Nat) (r:Res):DV := .agg [(qS N r.le).dv 1 stC,.int .i64 r.fi,.str r.pa]
def r0C:List DV:=[.nils,.int .i64 0,.str []]
def zj0d:DV := .sl true 1 8 [.nilf,.fn (.func 61) [.mp 2 6 0] [],.fn (.func 62) [.mp 2 6 0] [],.fn (.func 63) [.mp 2 6 0] [],.fn (.func 64) [.mp 2 6 0] [],.fn (.func 65) [.mp 2 6 0] [],.fn (.func 66) [.mp 2 6 0] [],.fn (.func 67) [.mp 2 6 0] []]
def HQ (x:Lnk) (s:Sd) (l:List Str):List AObj := .cells (lkC x) :: .cells r0C :: .cells (sdC s (oV 3 1 l))::oT stC l
theorem HQ_F (F:Fr) (l:List Str) (hl:l.length=F.N) (x:Lnk) (ha:F.a=lkC x) (hb:F.b=r0C):HQ x F.s l=F.H l []:=by
 unfold HQ Fr.H
 rw [ha,hb,List.append_nil]
 by_cases h0:F.N=0
 ·have e:l=[]:=List.eq_nil_of_length_eq_zero (by omega)
  rw [qV,qT,if_pos h0,if_pos h0,e,zl8p,zkrk]; rfl
 ·have e:l≠[]:=fun q=>by rw [q] at hl; exact h0 hl.symm
  rw [qV,qT,if_neg h0,if_neg h0,zpni e,zu2l e,qD,hl,Nat.mul_one]
  show _::_::_::[AObj.cells (fl stC l)]=_
  rw [fl,z8we]; rfl
theorem zc3o {r:Rul} (h:z8mn r=true) : ∃ k:Nat,r.kind=k∧1≤k∧k≤7:=by
 have h1:zk3j r.kind≠[]:=by
  intro e
  unfold z8mn at h
  simp [e] at h
 obtain ⟨a,b⟩:=zcgp.1 h1
 obtain ⟨k,hk⟩:=Int.eq_ofNat_of_zero_le (show 0≤r.kind by omega)
 exact ⟨k,hk,by omega,by omega⟩
def z56y (x:Lnk) (s:Sd) (l:Sl Rul) (f:Sl Ent) (i:Nat):St:=z0ci (l.dv 6 ruC) (.mp 1 3 0) (.mp 2 6 0) (f.dv 33 enC) (.int .i64 f.l.length) (.int .i64 i) (HQ x s ((zw2l f.l).take i))
structure AS where
 i:Nat
 Q:List Str
 R:List Str
def zaqw (F:Fr) (l:Sl Rul) (a:AS):St:=zucw (.mp 1 3 0) (.mp 2 6 0) zj0d (l.dv 6 ruC) (.int .i64 l.l.length) (.int .i64 a.i) (F.H a.Q a.R)
theorem zemx {N m:Nat}:(qV N m).known=true:=by unfold qV; split<;>rfl
theorem zr9r {N m:Nat}:(qV N m).one=true:=by unfold qV; split<;>rfl
theorem zqdn {N m:Nat}:(qV N m).cells=[qV N m]:=by unfold qV; split<;>rfl
theorem z6o8 {a b c:DV}:oneC 3 true [a,b,c]=some (.agg [a,b,c]):=rfl
theorem zzw4 {q:DV} (hc:q.cells=[q]) (hq:q.known=true) (i:Int):zvnk [.nils,.int .i64 0,.str []] [(0,1,q),(1,1,.int .i64 i)]=some (.agg [q,.int .i64 i,.str []]):=by
 simp [zvnk,zi03,zk7y,hq,hc]
theorem zkup {q:DV} (hc:q.cells=[q]) (hq:q.known=true) (i:Int) (p:Str):zvnk [.nils,.int .i64 0,.str []] [(0,1,q),(1,1,.int .i64 i),(2,1,.str p)]=some (.agg [q,.int .i64 i,.str p]):=by
 simp [zvnk,zi03,zk7y,hq,hc]
theorem st13 {h:List AObj} {id:Nat} {q:DV} (ho:q.one=true) (i:Int) (p:Str):zy6o h id 3 0 (.agg [q,.int .i64 i,.str p]) (some r0C)=some (.junk,h.set id (.cells [q,.int .i64 i,.str p])):=zfc1 rfl rfl (by simp [ho])
theorem Fr.ret (F:Fr) (Q R:List Str) (hL:Q.length+R.length=F.N) (C:List DV):objV ((F.H Q R).set 1 (.cells C)) 1 C.length=some C∧snap ((F.H Q R).set 1 (.cells C)) 3 (qV F.N Q.length)=some ((qS F.N Q).dv 1 stC)∧snap ((F.H Q R).set 1 (.cells C)) 2 (qV F.N Q.length)=some ((qS F.N Q).dv 1 stC):=by
 have hNn:=F.hN
 have hs : ∀ k,snap ((F.H Q R).set 1 (.cells C)) (k+1) (qV F.N Q.length)=some ((qS F.N Q).dv 1 stC):=fun k=>by
  by_cases h0:F.N=0
  ·rw [qV,qS,if_pos h0,if_pos h0,zw4a]; exact z7d7
  ·have ho:objV ((F.H Q R).set 1 (.cells C)) 3 F.N=some (sts (Q++R)):=by
    unfold Fr.H; rw [qT,if_neg h0]
    show (if (sts (Q++R)).length=F.N then some (sts (Q++R)) else none)=_
    rw [if_pos (by rw [z8p2,List.length_append,hL])]
   rw [qV,qS,if_neg h0,if_neg h0,zwpy ho,zqrs (by omega),z8we,Nat.mul_one,z2sf,List.take_left' (z8p2 Q)]
 refine ⟨?_,hs 2,hs 1⟩
 unfold Fr.H
 show (if C.length=C.length then some C else none)=_
 rw [if_pos rfl]
theorem zhgh (k:Nat) (h1:1≤k) (h7:k≤7) (H:List AObj):zpsc H 1 zj0d (k:Int)=some (.ref [.fn (.func (metK k)) [.mp 2 6 0] []]):=by
 rcases k with _|_|_|_|_|_|_|_|k<;>first|omega|rfl
def z81i:ACode:=match a19.code with | .seq _ (.seq _ (.seq _ r))=>r|c=>c
theorem ze06 (l:Sl Rul) (x:Lnk) (done:Sl Lnk) (f:Sl Ent) (hN:f.l.length≤65536) (s:Sd) (hs:s=⟨x,f,done⟩) :
  V P 0 z81i (retK a19.res (z6t9 f.l.length (appL s l.l 0 (zw2l f.l)))) ⟨[l.dv 6 ruC]++js 7++[.mp 1 3 0,.mp 2 6 0]++js 96,[.cells (lkC x),.cells r0C,.cells (sdC s .nils)]⟩:=by
 have hlb:=l.b
 have hfb:=f.b
 have hll : ∀ H,lenD H (l.dv 6 ruC)=some (.int .i64 l.l.length):=fun H=>zupj
 have hlf : ∀ H,lenD H (f.dv 33 enC)=some (.int .i64 f.l.length):=fun H=>zupj
 have hfs1 : ∀ q,oneC 1 false ((sdC s q).drop 3)=some (f.dv 33 enC):=fun q=>by rw [hs]; rfl
 obtain ⟨A,hA⟩ : ∃ A,a19.res=A:=⟨_,rfl⟩
 rw [hA]
 obtain ⟨RR,hRR⟩ : ∃ RR,appL s l.l 0 (zw2l f.l)=RR:=⟨_,rfl⟩
 rw [hRR]
 have ho0 : ∀ (q:DV) (T:List AObj),objV (.cells (lkC x) :: .cells r0C :: .cells (sdC s q)::T) 2 6=some (sdC s q):=fun q T=>rfl
 simp only [z81i,a19]
 refine zbn1 (zbn1 (V_W mix zr5o ?_))
 simp (disch:=first|omega|simp<;>omega|fail) [-zA,-zB,-zC,-zD,-zE,hfs1,hlf,ho0]
 refine z3mo (ztbr (z56y x s l f) (fun i=>f.l.length-i) (fun i=>i≤f.l.length) 0 (z515 (by simp (disch:=first|omega|simp<;>omega|fail) [-zA,-zB,-zC,-zD,-zE,z56y,z0ci]) (by simp (disch:=first|omega|simp<;>omega|fail) [-zA,-zB,-zC,-zD,-zE,z56y,z0ci,HQ,zl8p,zkrk])) (by omega) (fun i hi => ?_))
 simp only [z56y]
 refine zbn1 (V_W mix zr5o ?_)
 by_cases g:i<f.l.length
 ·have g':(i:Int)<f.l.length:=by omega
  have hy : ∀ H,zpsc H 33 (f.dv 33 enC) i=some (.ref (enC f.l[i])):=fun H=>zalo zuso g
  have htk:(zw2l f.l).take (i+1)=(zw2l f.l).take i++[f.l[i].path]:=by
   rw [List.take_succ_eq_append_getElem (by rw [z1cm]; exact g)]; simp [zw2l]
  obtain ⟨u,hu⟩ : ∃ u,f.l[i]=u:=⟨_,rfl⟩
  rw [hu] at hy htk
  obtain ⟨L,hL⟩ : ∃ L,(zw2l f.l).take i=L:=⟨_,rfl⟩
  have hLl:L.length=i:=by rw [← hL,List.length_take,z1cm]; omega
  rw [hL] at htk ⊢
  obtain ⟨H,hH⟩ : ∃ H,HQ x s L=H:=⟨_,rfl⟩
  have hl2:2<H.length:=by rw [← hH]; simp [HQ]
  have hbl:zlf2 H.length H=true:=by
   rw [← hH]
   have e1:Am.below (HQ x s L).length (oV 3 1 L)=true:=by
    unfold HQ oV oT
    split<;>simp [Am.below]
   have e2 : ∀ n,zlf2 n (oT stC L)=true:=fun n=>zd81 zds6
   unfold HQ at e1 ⊢
   simp only [zlf2,zmq5 _ _ (z53g x),z28u e1,e2,Bool.and_true,Bool.true_and]
   rfl
  have e1:=zz5t (H:=H) (cs:=enC u) (off:=0) (zt9q u)
  have e2 : ∀ h,mk1 (kLt H.length) h (.mp 2 6 0) = .mp 2 6 0:=fun h=>zd3c (by simp [Am.below,hl2])
  have e3 : ∀ h,mk1 (kLt H.length) h (.mp 1 3 0) = .mp 1 3 0:=fun h=>zd3c (by simp [Am.below]; omega)
  have e4 : ∀ h,mk1 (kLt H.length) h (f.dv 33 enC)=f.dv 33 enC:=fun h=>zvft (zru8 f)
  have e5 : ∀ h,mk1 (kLt H.length) h (l.dv 6 ruC)=l.dv 6 ruC:=fun h=>zvft (zy5l l)
  have hl1:1<H.length:=by omega
  rw [hH]
  simp (disch:=first|omega|simp<;>omega|fail) [-zA,-zB,-zC,-zD,-zE,zihe,z0ci,g,g']
  refine zbn1 (V_W mix zr5o ?_)
  simp (disch:=first|omega|simp<;>omega|fail) [-zA,-zB,-zC,-zD,-zE]
  refine zbn1 (z3mo (zbn1 (V_W mix zr5o ?_)))
  simp (disch:=first|omega|simp<;>omega|fail) [-zA,-zB,-zC,-zD,-zE,hy]
  refine zs10 (n0:=0) (H:=H) (cs:=enC u) (t':=[l.dv 6 ruC]++js 7++[.mp 1 3 0,.mp 2 6 0,.junk,.ref (enC u)]++js 20++[f.dv 33 enC,.int .i64 f.l.length,.int .i64 i]++js 71) hbl (by omega) ?_ (by simp (disch:=first|omega|simp<;>omega|fail) [-zA,-zB,-zC,-zD,-zE,z1r6,Am.below,hl2,hl1,zb48,z8b8 _ _ (zy5l l)]) ?_
  ·rw [zuso,List.drop_zero] at e1
   simp (disch:=first|omega|simp<;>omega|fail) [-zA,-zB,-zC,-zD,-zE,e1,e2,e3,e4,e5,-z1bt,-zdpe]
  rw [← hH]
  simp only [HQ]
  have hap:appX (.cells (lkC x) :: .cells r0C :: .cells (sdC s (oV 3 1 L))::oT stC L) 1 16 (oV 3 1 L) 1 [.str u.path]=some (oV 3 1 (L++[u.path]),.cells (lkC x) :: .cells r0C :: .cells (sdC s (oV 3 1 L))::oT stC (L++[u.path])) :=
   zte0 (k:=3) (K:=1) (b:=16) (f:=stC) (l:=L) (x:=u.path) (h:=[.cells (lkC x),.cells r0C,.cells (sdC s (oV 3 1 L))]) rfl zqv6 (by decide) (by decide) (fun _=>rfl) (by omega)
  have ho : ∀ (q:DV) (T:List AObj),objV (.cells (lkC x) :: .cells r0C :: .cells (sdC s q)::T) 2 6=some (sdC s q):=fun q T=>rfl
  have hst : ∀ (h:List AObj) (q:DV),zy6o h 2 1 5 (oV 3 1 (L++[u.path])) (some (sdC s q))=some (.junk,h.set 2 (.cells (sdC s (oV 3 1 (L++[u.path]))))):=fun h q=>z5ht zjwe z6jg
  refine V_W mix zr5o ?_
  simp (disch:=first|omega|simp<;>omega|fail) [-zA,-zB,-zC,-zD,-zE,ho,zi9h,hap,hst]
  refine V_W mix zr5o ?_
  simp (disch:=first|omega|simp<;>omega|fail) [-zA,-zB,-zC,-zD,-zE]
  exact ⟨i+1,z515 (by simp (disch:=first|omega|simp<;>omega|fail) [-zA,-zB,-zC,-zD,-zE,z56y,z0ci]) (by simp only [z56y,z0ci,HQ,htk]),by omega,by omega⟩
 have g':¬ (i:Int)<f.l.length:=by omega
 have htk:(zw2l f.l).take i=zw2l f.l:=List.take_of_length_le (by rw [z1cm]; omega)
 rw [htk]
 simp (disch:=first|omega|simp<;>omega|fail) [-zA,-zB,-zC,-zD,-zE,zihe,z0ci,g,g']
 refine zbn1 (V_W mix zr5o ?_)
 simp (disch:=first|omega|simp<;>omega|fail) [-zA,-zB,-zC,-zD,-zE]
 refine zbn1 (V_W mix zr5o ?_)
 simp (disch:=first|omega|simp<;>omega|fail) [-zA,-zB,-zC,-zD,-zE]
 let F:Fr:=⟨lkC x,r0C,z53g x,rfl,s,f.l.length,hN⟩
 have hFH:HQ x s (zw2l f.l)=F.H (zw2l f.l) []:=HQ_F F _ (z1cm _) x rfl rfl
 rw [hFH]
 have hFN:F.N=f.l.length:=rfl
 have hFs:F.s=s:=rfl
 have hFb : ∀ Q R,objV (F.H Q R) 1 3=some r0C:=fun Q R=>rfl
 rw [← zj0d]
 clear_value F
 rw [← hFN]
 have hP0:(zw2l f.l).length+([]:List Str).length=F.N:=by rw [z1cm,hFN]; rfl
 refine zbn1 (zbn1 (V_W mix zr5o ?_))
 simp (disch:=first|omega|simp<;>omega|fail) [-zA,-zB,-zC,-zD,-zE,hll]
 refine z3mo (ztbr (zaqw F l) (fun a=>l.l.length-a.i) (fun a=>a.i≤l.l.length∧a.Q.length+a.R.length=F.N∧appL s (l.l.drop a.i) a.i a.Q=RR) ⟨0,zw2l f.l,[]⟩ (z515 (by simp (disch:=first|omega|simp<;>omega|fail) [-zA,-zB,-zC,-zD,-zE,zaqw,zucw]) (by simp (disch:=first|omega|simp<;>omega|fail) [-zA,-zB,-zC,-zD,-zE,zaqw,zucw])) ⟨by simp,hP0,by simpa using hRR⟩ (fun a ha => ?_))
 obtain ⟨i,Q,R⟩:=a
 obtain ⟨h1,h2,h3⟩:=ha
 simp only at h1 h2 h3
 have hO:=F.hO0 Q R
 have hb1:=hFb Q R
 have hqk:=zemx (N:=F.N) (m:=Q.length)
 have hqo:=zr9r (N:=F.N) (m:=Q.length)
 have hqc:=zqdn (N:=F.N) (m:=Q.length)
 obtain ⟨q,hq⟩ : ∃ q,qV F.N Q.length=q:=⟨_,rfl⟩
 have hret:=fun C=>F.ret Q R h2 C
 rw [hq] at hO hqk hqo hqc hret
 have hbl:=F.below Q R (Nat.le_refl _)
 have hl2:=(F.len Q R).1
 have hbd:=zzw4 hqc hqk
 have hst:=fun h id i p=>st13 (h:=h) (id:=id) hqo i p
 rw [hFs] at hO
 simp only [zaqw]
 by_cases g:i<l.l.length
 case neg =>
  have g':¬ (i:Int)<l.l.length:=by omega
  rw [List.drop_of_length_le (by omega)] at h3
  have h3:(⟨-1,[],Q⟩:Res)=RR:=h3
  subst h3
  obtain ⟨r1,r2,r3⟩:=hret [q,.int .i64 (-1),.str []]
  simp only [List.length_cons,List.length_nil,Nat.zero_add,Nat.reduceAdd] at r1
  obtain ⟨H,hH⟩ : ∃ H,F.H Q R=H:=⟨_,rfl⟩
  rw [hH] at hO hb1 r1 r2 r3 ⊢
  refine zbn1 (V_W mix zr5o ?_)
  simp (disch:=first|omega|simp<;>omega|fail) [-zA,-zB,-zC,-zD,-zE,zwtd,zucw,g,g']
  refine zbn1 (V_W mix zr5o ?_)
  simp (disch:=first|omega|simp<;>omega|fail) [-zA,-zB,-zC,-zD,-zE]
  refine zbn1 (V_W mix zr5o ?_)
  simp (disch:=first|omega|simp<;>omega|fail) [-zA,-zB,-zC,-zD,-zE,hO,zi9h,hbd,hb1,hst]
  refine V_W mix zr5o ?_
  rw [← hA]
  simp (disch:=first|omega|simp<;>omega|fail) [-zA,-zB,-zC,-zD,-zE,a19,r1,r2,r3,z6o8,z6t9]
 have g':(i:Int)<l.l.length:=by omega
 have hy : ∀ H,zpsc H 6 (l.dv 6 ruC) i=some (.ref (ruC l.l[i])):=fun H=>zalo zpvo g
 rw [List.drop_eq_getElem_cons g] at h3
 obtain ⟨r,hr⟩ : ∃ r,l.l[i]=r:=⟨_,rfl⟩
 rw [hr] at hy h3
 have e1:=zz5t (H:=F.H Q R) (cs:=ruC r) (off:=0) (z3bz r)
 have e2 : ∀ h,mk1 (kLt (F.H Q R).length) h (.mp 2 6 0) = .mp 2 6 0:=fun h=>zd3c (by simp [Am.below,hl2])
 have e3 : ∀ h,mk1 (kLt (F.H Q R).length) h (.mp 1 3 0) = .mp 1 3 0:=fun h=>zd3c (by simp [Am.below]; omega)
 have e4 : ∀ h,mk1 (kLt (F.H Q R).length) h zj0d=zj0d:=fun h=>zd3c (by simp [Am.below,z1r6,zj0d,hl2])
 have e5 : ∀ h,mk1 (kLt (F.H Q R).length) h (l.dv 6 ruC)=l.dv 6 ruC:=fun h=>zvft (zy5l l)
 have hl1:1<(F.H Q R).length:=by omega
 have htb:Am.below (F.H Q R).length zj0d=true:=by simp [Am.below,z1r6,zj0d,hl2]
 have hcv:=zu0t (r:=r)
 cases hv:z8mn r with
 | false =>
  have h3:(⟨i,[],Q⟩:Res)=RR:=by rw [← h3]; simp [appL,hv]
  subst h3
  rw [hv] at hcv
  obtain ⟨r1,r2,r3⟩:=hret [q,.int .i64 i,.str []]
  simp only [List.length_cons,List.length_nil,Nat.zero_add,Nat.reduceAdd] at r1
  obtain ⟨H,hH⟩ : ∃ H,F.H Q R=H:=⟨_,rfl⟩
  rw [hH] at hO hb1 r1 r2 r3 hbl e1 e2 e3 e4 e5 hl1 hl2 htb ⊢
  refine zbn1 (V_W mix zr5o ?_)
  simp (disch:=first|omega|simp<;>omega|fail) [-zA,-zB,-zC,-zD,-zE,zwtd,zucw,g,g']
  refine zbn1 (V_W mix zr5o ?_)
  simp (disch:=first|omega|simp<;>omega|fail) [-zA,-zB,-zC,-zD,-zE]
  refine zbn1 (z3mo (zbn1 (V_W mix zr5o ?_)))
  simp (disch:=first|omega|simp<;>omega|fail) [-zA,-zB,-zC,-zD,-zE,hy]
  refine zs10 (n0:=0) (H:=H) (cs:=ruC r) (t':=js 8++[.mp 1 3 0,.mp 2 6 0,.junk,.junk,zj0d,.int .i64 i,.ref (ruC r)]++js 50++[l.dv 6 ruC,.int .i64 l.l.length,.int .i64 i]++js 38) hbl (by omega) ?_ (by simp (disch:=first|omega|simp<;>omega|fail) [-zA,-zB,-zC,-zD,-zE,z1r6,Am.below,hl2,hl1,htb,z8b8 _ _ (zy5l l)]) ?_
  ·rw [zpvo,List.drop_zero] at e1
   simp (disch:=first|omega|simp<;>omega|fail) [-zA,-zB,-zC,-zD,-zE,e1,e2,e3,e4,e5,-z1bt,-zdpe]
  refine zbn1 (zbn1 (V_W mix zs7d ?_))
  simp (disch:=first|omega|simp<;>omega|fail) [-zA,-zB,-zC,-zD,-zE,zmf2,hcv]
  refine V_W mix zr5o ?_
  simp (disch:=first|omega|simp<;>omega|fail) [-zA,-zB,-zC,-zD,-zE,hO,zi9h,hbd,hb1,hst]
  rw [← hA]
  simp (disch:=first|omega|simp<;>omega|fail) [-zA,-zB,-zC,-zD,-zE,a19,r1,r2,r3,z6o8,z6t9]
 | true =>
  obtain ⟨k,hk,hk1,hk7⟩:=zc3o hv
  have c:=zmbk F Q R h2 r k hk1 hk7
  have hix:=zhgh k hk1 hk7
  have hkn:r.kind.toNat=k:=by rw [hk]; rfl
  rw [hv] at hcv
  rw [hFs] at c
  have h3:(match zkx0 r k Q with|some p=>(⟨i,p,zwyd (zkvg s r k) Q⟩:Res)|none=>appL s (l.l.drop (i+1)) (i+1) (zwyd (zkvg s r k) Q))=RR:=by rw [← h3]; simp [appL,hv,hkn]
  obtain ⟨Q',hQ'⟩ : ∃ Q',zwyd (zkvg s r k) Q=Q':=⟨_,rfl⟩
  have hkl:=zbdz (zkvg s r k) Q
  rw [hQ'] at c h3 hkl
  obtain ⟨R',hR'⟩ : ∃ R',repE (Q.length-Q'.length)++R=R':=⟨_,rfl⟩
  have hL':Q'.length+R'.length=F.N:=by rw [← hR',List.length_append,repE,List.length_replicate]; omega
  rw [hR'] at c
  have hO':=F.hO0 Q' R'
  have hb1':=hFb Q' R'
  have hqk':=zemx (N:=F.N) (m:=Q'.length)
  have hqo':=zr9r (N:=F.N) (m:=Q'.length)
  have hqc':=zqdn (N:=F.N) (m:=Q'.length)
  obtain ⟨q',hq'⟩ : ∃ q',qV F.N Q'.length=q':=⟨_,rfl⟩
  have hret':=fun C=>F.ret Q' R' hL' C
  rw [hq'] at hO' hqk' hqo' hqc' hret'
  have hbd':=zkup hqc' hqk'
  have hst':=fun h id i p=>st13 (h:=h) (id:=id) hqo' i p
  rw [hFs] at hO'
  have hS':F.H Q' R'=F.H Q' R':=rfl
  obtain ⟨o,ho⟩ : ∃ o,zkx0 r k Q=o:=⟨_,rfl⟩
  rw [ho] at c h3
  obtain ⟨H1,hH1⟩ : ∃ H1,F.H Q' R'=H1:=⟨_,rfl⟩
  rw [hH1] at c hO' hb1' hret'
  obtain ⟨H,hH⟩ : ∃ H,F.H Q R=H:=⟨_,rfl⟩
  rw [hH] at c hO hb1 hbl e1 e2 e3 e4 e5 hl1 hl2 htb ⊢
  refine zbn1 (V_W mix zr5o ?_)
  simp (disch:=first|omega|simp<;>omega|fail) [-zA,-zB,-zC,-zD,-zE,zwtd,zucw,g,g']
  refine zbn1 (V_W mix zr5o ?_)
  simp (disch:=first|omega|simp<;>omega|fail) [-zA,-zB,-zC,-zD,-zE]
  refine zbn1 (z3mo (zbn1 (V_W mix zr5o ?_)))
  simp (disch:=first|omega|simp<;>omega|fail) [-zA,-zB,-zC,-zD,-zE,hy]
  refine zs10 (n0:=0) (H:=H) (cs:=ruC r) (t':=js 8++[.mp 1 3 0,.mp 2 6 0,.junk,.junk,zj0d,.int .i64 i,.ref (ruC r)]++js 50++[l.dv 6 ruC,.int .i64 l.l.length,.int .i64 i]++js 38) hbl (by omega) ?_ (by simp (disch:=first|omega|simp<;>omega|fail) [-zA,-zB,-zC,-zD,-zE,z1r6,Am.below,hl2,hl1,htb,z8b8 _ _ (zy5l l)]) ?_
  ·rw [zpvo,List.drop_zero] at e1
   simp (disch:=first|omega|simp<;>omega|fail) [-zA,-zB,-zC,-zD,-zE,e1,e2,e3,e4,e5,-z1bt,-zdpe]
  refine zbn1 (zbn1 (V_W mix zs7d ?_))
  simp (disch:=first|omega|simp<;>omega|fail) [-zA,-zB,-zC,-zD,-zE,zmf2,hcv]
  refine V_W mix zr5o ?_
  simp (disch:=first|omega|simp<;>omega|fail) [-zA,-zB,-zC,-zD,-zE]
  refine zbn1 (V_W mix (z84q c) ?_)
  simp (disch:=first|omega|simp<;>omega|fail) [-zA,-zB,-zC,-zD,-zE,hk,hix,TH_k,zpvh]
  cases o with
  | some p =>
   have h3:(⟨i,p,Q'⟩:Res)=RR:=h3
   subst h3
   obtain ⟨r1,r2,r3⟩:=hret' [q',.int .i64 i,.str p]
   simp only [List.length_cons,List.length_nil,Nat.zero_add,Nat.reduceAdd] at r1
   simp (disch:=first|omega|simp<;>omega|fail) [-zA,-zB,-zC,-zD,-zE,zidp]
   refine zbn1 (V_W mix zr5o ?_)
   simp (disch:=first|omega|simp<;>omega|fail) [-zA,-zB,-zC,-zD,-zE]
   refine V_W mix zr5o ?_
   simp (disch:=first|omega|simp<;>omega|fail) [-zA,-zB,-zC,-zD,-zE,hO',zi9h,hbd',hb1',hst']
   rw [← hA]
   simp (disch:=first|omega|simp<;>omega|fail) [-zA,-zB,-zC,-zD,-zE,a19,r1,r2,r3,z6o8,z6t9]
  | none =>
   have h3:appL s (l.l.drop (i+1)) (i+1) Q'=RR:=h3
   simp (disch:=first|omega|simp<;>omega|fail) [-zA,-zB,-zC,-zD,-zE,zidp]
   refine zbn1 (V_W mix zr5o ?_)
   simp (disch:=first|omega|simp<;>omega|fail) [-zA,-zB,-zC,-zD,-zE]
   refine V_W mix zr5o ?_
   simp (disch:=first|omega|simp<;>omega|fail) [-zA,-zB,-zC,-zD,-zE]
   refine V_W mix zr5o ?_
   simp (disch:=first|omega|simp<;>omega|fail) [-zA,-zB,-zC,-zD,-zE]
   exact ⟨⟨i+1,Q',R'⟩,z515 (by simp (disch:=first|omega|simp<;>omega|fail) [-zA,-zB,-zC,-zD,-zE,zaqw,zucw]) (by simp only [zaqw,zucw,hH1]),by simp only; omega,by simp only; omega,hL',h3⟩
theorem z8ze (l:Sl Rul) (pr:Bool) (x:Lnk) (done:Sl Lnk) (hN:(zmoc pr x).l.length≤65536) :
  V P 0 a19.code (retK a19.res (z6t9 (zmoc pr x).l.length (zr9o l.l pr x done))) ⟨zr5g a19.ntmps [l.dv 6 ruC,.bool pr,.agg (lkC x),done.dv 3 lkC],[]⟩:=by
 obtain ⟨f,hf⟩ : ∃ f,zmoc pr x=f:=⟨_,rfl⟩
 have hA:zr9o l.l pr x done=appL ⟨x,f,done⟩ l.l 0 (zw2l f.l):=by unfold zr9o sdOf; rw [hf]
 rw [hf] at hN
 rw [hA,hf]
 have ht:=ze06 l x done f hN ⟨x,f,done⟩ rfl
 obtain ⟨RR,hRR⟩ : ∃ RR,z6t9 f.l.length (appL ⟨x,f,done⟩ l.l 0 (zw2l f.l))=RR:=⟨_,rfl⟩
 rw [hRR] at ht ⊢
 have hst : ∀ h (id:Nat),zy6o h id 1 3 (x.p.dv 33 enC) (some (sdC ⟨x,x.m,done⟩ .nils))=some (.junk,h.set id (.cells (sdC ⟨x,x.p,done⟩ .nils))):=fun h id=>by
  rw [Am.storeO_1 (zfr8 _) (z4ja _) (by rw [zwrr]; decide)]; rfl
 have hbs:zvnk [.str [],.nils,.nils,.nils,.nils,.nils] [(0,3,.agg (lkC x)),(3,1,x.m.dv 33 enC),(4,1,done.dv 3 lkC)]=some (.agg (sdC ⟨x,x.m,done⟩ .nils)):=by
  simp [zvnk,zi03,zk7y,lkC,sdC]
 have hbx : ∀ h,boxD h (.agg (sdC ⟨x,x.m,done⟩ .nils))=some (.mp h.length 6 0,h++[.cells (sdC ⟨x,x.m,done⟩ .nils)]):=fun h=>by
  rw [zn72]; try rfl
 have hsd : ∀ T,objV (.cells (lkC x) :: .cells [.nils,.int .i64 0,.str []] :: .cells (sdC ⟨x,x.m,done⟩ .nils)::T) 2 6=some (sdC ⟨x,x.m,done⟩ .nils):=fun T=>rfl
 refine zbn1 (V_W mix zr5o ?_)
 simp (disch:=first|omega|simp<;>omega|fail) [-zA,-zB,-zC,-zD,-zE,a19,zrer]
 refine zbn1 (V_W mix zr5o ?_)
 simp (disch:=first|omega|simp<;>omega|fail) [-zA,-zB,-zC,-zD,-zE,zrer,hbs,hbx]
 refine zbn1 (zbn1 (V_W mix zr5o ?_))
 simp (disch:=first|omega|simp<;>omega|fail) [-zA,-zB,-zC,-zD,-zE]
 refine V_W mix zr5o ?_
 cases pr with
 | true =>
  have hf:x.p=f:=hf
  subst hf
  simp (disch:=first|omega|simp<;>omega|fail) [-zA,-zB,-zC,-zD,-zE,hsd,hst]
  exact zqfd (z515 (by simp (disch:=first|omega|simp<;>omega|fail) [-zA,-zB,-zC,-zD,-zE]) rfl) ht
 | false =>
  have hf:x.m=f:=hf
  subst hf
  simp (disch:=first|omega|simp<;>omega|fail) [-zA,-zB,-zC,-zD,-zE]
  exact zqfd (z515 (by simp (disch:=first|omega|simp<;>omega|fail) [-zA,-zB,-zC,-zD,-zE]) rfl) ht
theorem zy2p {a b:Sl Rul × Bool × Lnk × Sl Lnk} (e:[a.1.dv 6 ruC,.bool a.2.1,.agg (lkC a.2.2.1),a.2.2.2.dv 3 lkC]=[b.1.dv 6 ruC,DV.bool b.2.1,.agg (lkC b.2.2.1),b.2.2.2.dv 3 lkC]):a=b:=by
 obtain ⟨a1,a2,a3,a4⟩:=a
 obtain ⟨b1,b2,b3,b4⟩:=b
 simp only [List.cons.injEq,DV.bool.injEq,DV.agg.injEq,and_true] at e
 rw [z041 e.1,e.2.1,zja4 e.2.2.1,zi59 e.2.2.2]
noncomputable def cApp:List DV→Option DV:=con (fun a:Sl Rul × Bool × Lnk × Sl Lnk=>(zmoc a.2.1 a.2.2.1).l.length≤65536) (fun a=>[a.1.dv 6 ruC,.bool a.2.1,.agg (lkC a.2.2.1),a.2.2.2.dv 3 lkC]) (fun a=>z6t9 (zmoc a.2.1 a.2.2.1).l.length (zr9o a.1.l a.2.1 a.2.2.1 a.2.2.2))
theorem zqfs {l:Sl Rul} {pr:Bool} {x:Lnk} {done:Sl Lnk} (h:(zmoc pr x).l.length≤65536):cApp [l.dv 6 ruC,.bool pr,.agg (lkC x),done.dv 3 lkC]=some (z6t9 (zmoc pr x).l.length (zr9o l.l pr x done)) :=
 zzno (A:=fun a:Sl Rul × Bool × Lnk × Sl Lnk=>(zmoc a.2.1 a.2.2.1).l.length≤65536) (f:=fun a=>[a.1.dv 6 ruC,.bool a.2.1,.agg (lkC a.2.2.1),a.2.2.2.dv 3 lkC]) (g:=fun a=>z6t9 (zmoc a.2.1 a.2.2.1).l.length (zr9o a.1.l a.2.1 a.2.2.1 a.2.2.2)) (fun a b e=>by rw [zy2p e]) (l,pr,x,done) h
theorem zhri:(Con.pure cApp).Sound P 19:=z2au fun a h=>znz9 Tryd.func19 zlqi (z8ze a.1 a.2.1 a.2.2.1 a.2.2.2 h)
end Go.Proofs.YtjknipdiglpnlaaDoor
set_option linter.unusedSimpArgs false
set_option linter.unusedVariables false
set_option maxRecDepth 8000
namespace Go.Proofs.YtjknipdiglpnlaaDoor
open Go Go.Am
def aR1:Rul:=⟨5,[97],[],false,[],[]⟩
def aR2:Rul:=⟨6,[42,42],[],false,[],[]⟩
def aRl:Sl Rul:=⟨some true,[aR1,aR2],by simp,by simp⟩
def aE1:Ent:=⟨[97],dgW 1#8⟩
def aE2:Ent:=⟨[98],dgW 1#8⟩
def aM:Sl Ent:=⟨some true,[aE1,aE2],by simp,by simp⟩
def aX:Lnk:=⟨[],aM,nilS⟩
theorem aApp:zr9o aRl.l false aX nilS=⟨1,[98],[[98]]⟩:=by decide +kernel
theorem aStr:zaba aRl.l=true:=by decide +kernel
noncomputable def zroa:Tbl:=addT 19 (.pure cApp) (addT 21 (.pure cStr) tbl0)
theorem zoud:zroa 19 = .pure cApp:=by simp [zroa]
theorem zkm0:zroa 21 = .pure cStr:=by simp [zroa]
theorem zaq8:zroa.Sound P:=z0rp zhri (z0rp zabo zr5o)
theorem bdr2 {k:Int} {p:Str}:zvnk [.int .i64 0,.str [],.str [],.bool false,.str [],.str []] [(0,1,.int .i64 k),(1,1,.str p)]=some (.agg (ruC ⟨k,p,[],false,[],[]⟩)):=by
 simp [zvnk,zi03,zk7y,ruC]
theorem bsr2 {a b:Rul}:bslD 6 2 [.int .i64 0,.str [],.str [],.bool false,.str [],.str []] [(0,6,.agg (ruC a)),(6,6,.agg (ruC b))]=some (.sl true 6 2 (ruC a++ruC b)):=rfl
theorem bse2 {a b:Ent}:bslD 33 2 [.str [],w8 0#8,w8 0#8,w8 0#8,w8 0#8,w8 0#8,w8 0#8,w8 0#8,w8 0#8,w8 0#8,w8 0#8,w8 0#8,w8 0#8,w8 0#8,w8 0#8,w8 0#8,w8 0#8,w8 0#8,w8 0#8,w8 0#8,w8 0#8,w8 0#8,w8 0#8,w8 0#8,w8 0#8,w8 0#8,w8 0#8,w8 0#8,w8 0#8,w8 0#8,w8 0#8,w8 0#8,w8 0#8] [(0,33,.agg (enC a)),(33,33,.agg (enC b))]=some (.sl true 33 2 (enC a++enC b)):=by
 have h1:=zuso a
 have h2:=zuso b
 simp [bslD,zi03,zk7y,reps,h1,h2,List.drop_of_length_le]
theorem zagq:aM.dv 33 enC = .sl true 33 2 (enC aE1++enC aE2):=by simp [aM,Sl.dv,slD]
theorem z8eo:aRl.dv 6 ruC = .sl true 6 2 (ruC aR1++ruC aR2):=by simp [aRl,Sl.dv,slD]
theorem zxeu:Runs zroa a20 [] (.bool true):=by
 refine ⟨?_⟩
 have k1:=zqfs (l:=aRl) (pr:=false) (x:=aX) (done:=nilS) (by simp [zmoc,aX,aM])
 rw [aApp] at k1
 have k2:=zg71 (x:=aRl)
 rw [aStr] at k2
 have hlen:(zmoc false aX).l.length=2:=rfl
 rw [hlen] at k1
 have hM:=zagq
 have hR:=z8eo
 obtain ⟨RD,hRD⟩ : ∃ RD,aRl.dv 6 ruC=RD:=⟨_,rfl⟩
 obtain ⟨MD,hMD⟩ : ∃ MD,aM.dv 33 enC=MD:=⟨_,rfl⟩
 have hRp:zyp8 RD=true:=by rw [← hRD]; exact zy5l _
 have hMp:zyp8 MD=true:=by rw [← hMD]; exact zru8 _
 have hMk:MD.known=true:=by rw [← hMD]; exact ztw5 _
 have hXC:lkC aX=[.str [],MD,.nils]:=by rw [← hMD]; rfl
 rw [hRD] at k1 k2 hR
 rw [hMD] at hM
 rw [hXC] at k1
 have n0:(nilS:Sl Lnk).dv 3 lkC = .nils:=rfl
 rw [n0] at k1
 have b1:zvnk [.int .i64 0,.str [],.str [],.bool false,.str [],.str []] [(0,1,.int .i64 5),(1,1,.str [97])]=some (.agg (ruC aR1)):=bdr2
 have b2:zvnk [.int .i64 0,.str [],.str [],.bool false,.str [],.str []] [(0,1,.int .i64 6),(1,1,.str [42,42])]=some (.agg (ruC aR2)):=bdr2
 have b3:bslD 6 2 [.int .i64 0,.str [],.str [],.bool false,.str [],.str []] [(0,6,.agg (ruC aR1)),(6,6,.agg (ruC aR2))]=some RD:=by rw [bsr2,hR]
 have b4:zvnk (rep 32 (w8 0#8)) [(0,1,w8 1#8)]=some (.agg (dgC (dgW 1#8))):=by rw [z4hl]; exact z7ni
 have b4':zvnk (List.map w8 (rep 32 0#8)) [(0,1,w8 1#8)]=some (.agg (dgC (dgW 1#8))):=by rw [zii6]; exact z7ni
 have b4'':zvnk (dgC dg0) [(0,1,w8 1#8)]=some (.agg (dgC (dgW 1#8))):=z7ni
 have b5:=zg8c (p:=[97]) (d:=dgW 1#8)
 have b6:=zg8c (p:=[98]) (d:=dgW 1#8)
 have b7:=bse2 (a:=⟨[97],dgW 1#8⟩) (b:=⟨[98],dgW 1#8⟩)
 have hM:MD = .sl true 33 2 (enC ⟨[97],dgW 1#8⟩++enC ⟨[98],dgW 1#8⟩):=hM
 rw [← hM] at b7
 have b8:zvnk [.str [],.nils,.nils] [(1,1,MD)]=some (.agg [.str [],MD,.nils]):=by
  have hc:MD.cells=[MD]:=by rw [← hMD]; exact zfr8 _
  simp [zvnk,zi03,zk7y,hMk,hc]
 have hst : ∀ h (id:Nat),zy6o h id 3 0 (.agg [(own [[98]]:Sl Str).dv 1 stC,.int .i64 1,.str [98]]) (some [.nils,.int .i64 0,.str []])=some (.junk,h.set id (.cells [(own [[98]]:Sl Str).dv 1 stC,.int .i64 1,.str [98]])):=fun h id=>zfc1 rfl rfl (by simp [z4ja])
 have hk1:z6t9 2 ⟨1,[98],[[98]]⟩ = .agg [(own [[98]]:Sl Str).dv 1 stC,.int .i64 1,.str [98]]:=rfl
 rw [hk1] at k1
 have hM:MD = .sl true 33 2 (.str [97]::(dgC (dgW 1#8) ++ .str [98]::dgC (dgW 1#8))):=hM
 rw [hM] at b8 k1 hMp
 rw [hR] at k1 k2 hRp
 simp only [zyp8] at hRp hMp
 simp (disch:=first|omega|simp<;>omega|fail) [-zA,-zB,-zC,-zD,-zE,a20,b1,b2,b3,b4,b4',b4'',b5,b6,b7,b8,zoud,zkm0,k1,k2,hRp,hMp,hst]
theorem z7b9:Am.Sem P 20 [] (.bool true):=zljw mix zaq8 Tryd.func20 zfgm zxeu
def cTr:List DV→Option DV
 | []=>some (.bool true)|_=>none
theorem zjnj:cTr []=some (.bool true):=rfl
theorem zql9 {f:Nat} (h:Am.Sem P f [] (.bool true)):(Con.pure cTr).Sound P f:=by
 intro args v e
 unfold cTr at e
 split at e
 ·simp at e; subst e; exact h
 ·simp at e
def stpL:List Str:=[[102,101,116,99,104],[98,117,105,108,100],[110,111,110,101]]
def stpD:DV := .sl true 1 3 [.str [102,101,116,99,104],.str [98,117,105,108,100],.str [110,111,110,101]]
theorem zh00:Runs tbl0 a18 [] stpD:=by
 refine ⟨?_⟩
 simp (disch:=first|omega|simp<;>omega|fail) [-zA,-zB,-zC,-zD,-zE,a18,stpD]
def cSt0:List DV→Option DV
 | []=>some stpD|_=>none
theorem za8k:cSt0 []=some stpD:=rfl
theorem z08o:(Con.pure cSt0).Sound P 18:=by
 intro args v e
 unfold cSt0 at e
 split at e
 ·simp at e; subst e; exact zljw mix zr5o Tryd.func18 zt5q zh00
 ·simp at e
end Go.Proofs.YtjknipdiglpnlaaDoor
set_option linter.unusedSimpArgs false
set_option linter.unusedVariables false
set_option maxRecDepth 8000
namespace Go.Proofs.YtjknipdiglpnlaaDoor
open Go Go.Am
def patL:List Str:=[[42],[42,42],[97],[97,42],[115,114,99,47,42],[115,114,99,47,42,42],[42,42,46,99],[63],[111,117,116,47,42],[42,47,97],[97,46,99],[42,42,47,97],[111,117,116],[98,42,42]]
def dirL:List Str:=[[],[],[115,114,99],[111,117,116],[97],[115,114,99,47,97]]
noncomputable def zxt4:Tbl:=addT 37 (.tch z1m3) (addT 23 (.tch zqck) tbl0)
theorem zbv1:zxt4 23 = .tch zqck:=by simp [zxt4]
theorem z5j4:zxt4.Sound P:=z0rp z51e (z0rp z3hj zr5o)
theorem z3tb (t:Tp) (ht:t.at_<3900000000):RunsF zxt4 a74 [.mp 0 2 0] [.cells (tpC t)] (.str (zzh5 t patL)) [.cells (tpC (t.adv 1))]:=by
 refine ⟨?_⟩
 have hp:zqck [.sl true 1 14 [.str [42],.str [42,42],.str [97],.str [97,42],.str [115,114,99,47,42],.str [115,114,99,47,42,42],.str [42,42,46,99],.str [63],.str [111,117,116,47,42],.str [42,47,97],.str [97,46,99],.str [42,42,47,97],.str [111,117,116],.str [98,42,42]]] (tpC t)=some (.str (zzh5 t patL),tpC (t.adv 1)):=ze0z (l:=patL) (by omega) (by decide) (by decide)
 have hfz : ∀ k,fzL 1 k (tpC (t.adv 1)) (tpC (t.adv 1)):=fun k=>znnb (zs7w _)
 simp (disch:=first|omega|simp<;>omega|fail) [-zA,-zB,-zC,-zD,-zE,a74,zbv1,hp,hfz]
theorem zbw2 (t:Tp) (ht:t.at_<3900000000):RunsF zxt4 a75 [.mp 0 2 0] [.cells (tpC t)] (.str (zzh5 t dirL)) [.cells (tpC (t.adv 1))]:=by
 refine ⟨?_⟩
 have hp:zqck [.sl true 1 6 [.str [],.str [],.str [115,114,99],.str [111,117,116],.str [97],.str [115,114,99,47,97]]] (tpC t)=some (.str (zzh5 t dirL),tpC (t.adv 1)):=ze0z (l:=dirL) (by omega) (by decide) (by decide)
 have hfz : ∀ k,fzL 1 k (tpC (t.adv 1)) (tpC (t.adv 1)):=fun k=>znnb (zs7w _)
 simp (disch:=first|omega|simp<;>omega|fail) [-zA,-zB,-zC,-zD,-zE,a75,zbv1,hp,hfz]
noncomputable def cPtn (l:List Str):List DV→List DV→Option (DV × List DV):=conT (fun a:Tp=>a.at_<3900000000) (fun a=>[]) tpC (fun a=>(.str (zzh5 a l),tpC (a.adv 1)))
theorem z43m {l:List Str} {t:Tp} (h:t.at_<3900000000):cPtn l [] (tpC t)=some (.str (zzh5 t l),tpC (t.adv 1)) :=
 ztyo (A:=fun a:Tp=>a.at_<3900000000) (f:=fun a=>[]) (s:=tpC) (fun a b _ e=>by rw [z15z e]) t h
theorem zox4:(Con.tch (cPtn patL)).Sound P 74 :=
 z0tq (fun a _=>⟨rfl,zs7w _,rfl,zs7w _⟩) fun a h=>zizi mix z5j4 Tryd.func74 z26r (z3tb a h) (Nat.le_refl _)
theorem zk74:(Con.tch (cPtn dirL)).Sound P 75 :=
 z0tq (fun a _=>⟨rfl,zs7w _,rfl,zs7w _⟩) fun a h=>zizi mix z5j4 Tryd.func75 zrvd (zbw2 a h) (Nat.le_refl _)
def rulV (t:Tp):Rul:=if tpN t 7=0 then ⟨1,zzh5 (t.adv 1) patL,zzh5 (t.adv 2) stpL,decide (0<tpN (t.adv 3) 3),zzh5 (t.adv 4) dirL,zzh5 (t.adv 5) dirL⟩ else ⟨1+tpN t 7,zzh5 (t.adv 1) patL,[],false,[],[]⟩
def rulT (t:Tp):Tp:=if tpN t 7=0 then t.adv 6 else t.adv 2
noncomputable def zxfx:Tbl:=addT 37 (.tch z1m3) (addT 23 (.tch zqck) (addT 74 (.tch (cPtn patL)) (addT 75 (.tch (cPtn dirL)) tbl0)))
theorem z8on:zxfx 37 = .tch z1m3:=by simp [zxfx]
theorem zrpr:zxfx 23 = .tch zqck:=by simp [zxfx]
theorem zhlb:zxfx 74 = .tch (cPtn patL):=by simp [zxfx]
theorem zsns:zxfx 75 = .tch (cPtn dirL):=by simp [zxfx]
theorem zz4v:zxfx.Sound P:=z0rp z51e (z0rp z3hj (z0rp zox4 (z0rp zk74 zr5o)))
theorem zd5b {h:List AObj} {id:Nat} {k:Int} {p a i t v:Str} {b:Bool}:zy6o h id 1 2 (.str v) (some (ruC ⟨k,p,a,b,i,t⟩))=some (.junk,h.set id (.cells (ruC ⟨k,p,v,b,i,t⟩))):=by
 rw [Am.storeO_1 rfl rfl (by rw [zpvo]; decide)]; rfl
theorem zkwp {h:List AObj} {id:Nat} {k:Int} {p a i t:Str} {b v:Bool}:zy6o h id 1 3 (.bool v) (some (ruC ⟨k,p,a,b,i,t⟩))=some (.junk,h.set id (.cells (ruC ⟨k,p,a,v,i,t⟩))):=by
 rw [Am.storeO_1 rfl rfl (by rw [zpvo]; decide)]; rfl
theorem z3oo {h:List AObj} {id:Nat} {k:Int} {p a i t v:Str} {b:Bool}:zy6o h id 1 4 (.str v) (some (ruC ⟨k,p,a,b,i,t⟩))=some (.junk,h.set id (.cells (ruC ⟨k,p,a,b,v,t⟩))):=by
 rw [Am.storeO_1 rfl rfl (by rw [zpvo]; decide)]; rfl
theorem z5uz {h:List AObj} {id:Nat} {k:Int} {p a i t v:Str} {b:Bool}:zy6o h id 1 5 (.str v) (some (ruC ⟨k,p,a,b,i,t⟩))=some (.junk,h.set id (.cells (ruC ⟨k,p,a,b,i,v⟩))):=by
 rw [Am.storeO_1 rfl rfl (by rw [zpvo]; decide)]; rfl
theorem ze1h (t:Tp) (ht:t.at_<3800000000):RunsF zxfx a28 [.mp 0 2 0,stpD] [.cells (tpC t)] (.agg (ruC (rulV t))) [.cells (tpC (rulT t))]:=by
 refine ⟨?_⟩
 have n1:z1m3 [.int .i64 7] (tpC t)=some (.int .i64 (tpN t 7),tpC (t.adv 1)):=z44h (by omega) (by omega) (by omega)
 have lo:=z4rs t 7
 have hi:=z2s7 t (n:=7) (by omega)
 have n2:=z43m (l:=patL) (t:=t.adv 1) (by simp only [zpza]; omega)
 have p2:zqck [stpD] (tpC (t.adv 2))=some (.str (zzh5 (t.adv 2) stpL),tpC (t.adv 3)):=by
  have:=ze0z (t:=t.adv 2) (l:=stpL) (by simp only [zpza]; omega) (by decide) (by decide)
  rwa [zjmf] at this
 have p3:z1m3 [.int .i64 3] (tpC (t.adv 3))=some (.int .i64 (tpN (t.adv 3) 3),tpC (t.adv 4)):=by
  have:=z44h (t:=t.adv 3) (n:=3) (by simp only [zpza]; omega) (by omega) (by omega)
  rwa [zjmf] at this
 have p4:cPtn dirL [] (tpC (t.adv 4))=some (.str (zzh5 (t.adv 4) dirL),tpC (t.adv 5)):=by
  have:=z43m (l:=dirL) (t:=t.adv 4) (by simp only [zpza]; omega)
  rwa [zjmf] at this
 have p5:cPtn dirL [] (tpC (t.adv 5))=some (.str (zzh5 (t.adv 5) dirL),tpC (t.adv 6)):=by
  have:=z43m (l:=dirL) (t:=t.adv 5) (by simp only [zpza]; omega)
  rwa [zjmf] at this
 rw [zjmf] at n2
 have hv:rulV t=if tpN t 7=0 then ⟨1,zzh5 (t.adv 1) patL,zzh5 (t.adv 2) stpL,decide (0<tpN (t.adv 3) 3),zzh5 (t.adv 4) dirL,zzh5 (t.adv 5) dirL⟩ else ⟨1+tpN t 7,zzh5 (t.adv 1) patL,[],false,[],[]⟩:=rfl
 have hT:rulT t=if tpN t 7=0 then t.adv 6 else t.adv 2:=rfl
 have hfz : ∀ t':Tp,∀ k,fzL 1 k (tpC t') (tpC t'):=fun t' k=>znnb (zs7w _)
 have hls : ∀ H,lenD H stpD=some (.int .i64 3):=fun H=>rfl
 obtain ⟨n,hn⟩ : ∃ n,tpN t 7=n:=⟨_,rfl⟩
 rw [hn] at n1 lo hi hv hT
 obtain ⟨sp,hsp⟩ : ∃ sp,stpD=sp:=⟨_,rfl⟩
 have hspp:zyp8 sp=true:=by rw [← hsp]; rfl
 rw [hsp] at p2 hls ⊢
 obtain ⟨x1,hx1⟩ : ∃ x,zzh5 (t.adv 1) patL=x:=⟨_,rfl⟩
 obtain ⟨x2,hx2⟩ : ∃ x,zzh5 (t.adv 2) stpL=x:=⟨_,rfl⟩
 obtain ⟨x3,hx3⟩ : ∃ x,tpN (t.adv 3) 3=x:=⟨_,rfl⟩
 obtain ⟨x4,hx4⟩ : ∃ x,zzh5 (t.adv 4) dirL=x:=⟨_,rfl⟩
 obtain ⟨x5,hx5⟩ : ∃ x,zzh5 (t.adv 5) dirL=x:=⟨_,rfl⟩
 rw [hx1] at n2 hv
 rw [hx2] at p2 hv
 rw [hx3] at p3 hv
 rw [hx4] at p4 hv
 rw [hx5] at p5 hv
 have hb:=bdr2 (k:=1+n) (p:=x1)
 have hso : ∀ (h:List AObj) (id:Nat) (r:Rul),zy6o h id 6 0 (.agg (ruC r)) (some [.int .i64 0,.str [],.str [],.bool false,.str [],.str []])=some (.junk,h.set id (.cells (ruC r))):=fun h id r=>z3hv rfl
 have hfo : ∀ H k r,fzLo 1 H k (ruC r)=some (ruC r):=fun H k r=>zojd (z3bz r)
 by_cases h0:n=0
 ·subst h0
  rw [if_pos rfl] at hv hT
  rw [hv,hT]
  have hb:=bdr2 (k:=1) (p:=x1)
  simp (disch:=first|omega|simp<;>omega|fail) [-zA,-zB,-zC,-zD,-zE,a28,z8on,n1,zhlb,n2,hb,hso,hls,zrpr,p2,p3,zsns,p4,p5,zd5b,zkwp,z3oo,z5uz,hfz,hfo,hspp]
 ·rw [if_neg h0] at hv hT
  rw [hv,hT]
  have h1:¬ 1+n=1:=by omega
  simp (disch:=first|omega|simp<;>omega|fail) [-zA,-zB,-zC,-zD,-zE,a28,z8on,n1,zhlb,n2,hb,hso,h1,h0,hfz,hfo]
noncomputable def cRle:List DV→List DV→Option (DV × List DV):=conT (fun a:Tp=>a.at_<3800000000) (fun a=>[stpD]) tpC (fun a=>(.agg (ruC (rulV a)),tpC (rulT a)))
theorem zt3u {t:Tp} (h:t.at_<3800000000):cRle [stpD] (tpC t)=some (.agg (ruC (rulV t)),tpC (rulT t)) :=
 ztyo (A:=fun a:Tp=>a.at_<3800000000) (f:=fun a=>[stpD]) (s:=tpC) (fun a b _ e=>by rw [z15z e]) t h
theorem z983:(Con.tch cRle).Sound P 28 :=
 z0tq (fun a _=>⟨rfl,zs7w _,by simp only [zyp8,z3bz],zs7w _⟩) fun a h=>zizi mix zz4v Tryd.func28 z43f (ze1h a h) (Nat.le_refl _)
def rlsL:Nat→Tp→List Rul→Tp × List Rul
 | 0,t,L=>(t,L)
 | k+1,t,L=>rlsL k (rulT t) (L++[rulV t])
def rlsV (t:Tp) (m:Nat):Tp × List Rul:=rlsL (zep5 t m) (t.adv 1) []
structure RL where
 k:Nat
 t:Tp
 L:List Rul
theorem bsr1 {a:Rul}:bslD 6 1 [.int .i64 0,.str [],.str [],.bool false,.str [],.str []] [(0,6,.agg (ruC a))]=some (.sl true 6 1 (ruC a)):=rfl
end Go.Proofs.YtjknipdiglpnlaaDoor
set_option linter.unusedSimpArgs false
set_option linter.unusedVariables false
set_option maxRecDepth 8000
namespace Go.Proofs.YtjknipdiglpnlaaDoor
open Go Go.Am
def zim9 (x:Ent):Bool:=zj1f x.path && !decide (x.dg=dg0)
def preB:Option Str→Str→Bool
 | none,_=>true
 | some q,x=>Op.bytesLess q x
def asc4:Option Str→List Ent→Bool
 | _,[]=>true
 | p,e::r=>zim9 e&&preB p e.path&&asc4 (some e.path) r
def z59i (l:List Ent):Bool:=decide (l.length≤64)&&asc4 none l
def ltE (x e:Ent):Bool:=Op.bytesLess e.path x.path
def insE (l:List Ent) (x:Ent):List Ent:=l.takeWhile (ltE x)++x::l.dropWhile (ltE x)
def mvL (a b:Str):List Ent→List Ent→List Ent
 | acc,[]=>acc
 | acc,e::r=>mvL a b (match relO a b e.path with|none=>acc|some p=>insE acc ⟨p,e.dg⟩) r
def mvOk (s:List Ent) (a b:Str):Bool:=z59i s&&dirD a&&dirD b
def zj0v (s:List Ent) (a b:Str):List Ent:=if mvOk s a b then mvL a b [] s else []
structure MV where
 i:Nat
 A:List Ent
end Go.Proofs.YtjknipdiglpnlaaDoor
set_option linter.unusedSimpArgs false
set_option linter.unusedVariables false
set_option maxRecDepth 20000
namespace Go.Proofs.YtjknipdiglpnlaaDoor
open Go Go.Am
structure C13 where
 self:Lnk
 done:Sl Lnk
 pr:Bool
def fetS:Str:=[102,101,116,99,104]
def buiS:Str:=[98,117,105,108,100]
def pacS:Str:=[112,97,99,107]
def inS:Str:=[105,110]
def dn2 (a b:Lnk):Sl Lnk:=⟨some true,[a,b],by simp,by simp⟩
def mdA (t:Tp):Lnk:=zyjl t fetS
def mdE1 (t:Tp):Tp × Sl Ent:=z7ym (zd2t t) (mdA t).p
def mdB (t:Tp):Lnk:=⟨buiS,(mdA t).p,(mdE1 t).2⟩
def mdE2 (t:Tp):Tp × Sl Ent:=z7ym (mdE1 t).1 (mdE1 t).2
def mdE3 (t:Tp):Tp × Sl Ent:=z7ym (mdE2 t).1 (mdE2 t).2
def mdT (t:Tp):Tp:=(mdE3 t).1.adv 1
def mdM (t:Tp):Sl Ent:=ownN (zj0v (mdE1 t).2.l [] inS)
def mdE4 (t:Tp):Tp × Sl Ent:=z7ym (mdT t) (mdM t)
def mdC (t:Tp):Lnk:=if tpN (mdE3 t).1 3=0 then ⟨pacS,mdM t,(mdE4 t).2⟩ else ⟨pacS,(mdE1 t).2,(mdE3 t).2⟩
def mdU (t:Tp):Tp:=if tpN (mdE3 t).1 3=0 then (mdE4 t).1 else mdT t
def madC (t:Tp):C13:=⟨mdC t,dn2 (mdA t) (mdB t),decide (tpN (mdU t) 2=0)⟩
def madT (t:Tp):Tp:=(mdU t).adv 1
attribute [local irreducible] z7ym zyjl zd2t zxwj ownN tpN
end Go.Proofs.YtjknipdiglpnlaaDoor
set_option linter.unusedSimpArgs false
set_option linter.unusedVariables false
set_option maxRecDepth 8000
namespace Go.Proofs.YtjknipdiglpnlaaDoor
open Go Go.Am
def eLt (a b:Ent):Prop:=Op.bytesLess a.path b.path=true
structure GoodE (l:List Ent):Prop where
 s:l.Pairwise eLt
 f : ∀ e ∈ l,zim9 e=true
attribute [local irreducible] z7ym zyjl zd2t zxwj ownN tpN zj0v
end Go.Proofs.YtjknipdiglpnlaaDoor
set_option linter.unusedSimpArgs false
set_option linter.unusedVariables false
set_option maxRecDepth 20000
namespace Go.Proofs.YtjknipdiglpnlaaDoor
open Go Go.Am
attribute [local irreducible] z7ym zyjl zd2t zxwj ownN tpN zj0v mdA mdE1 mdB mdE2 mdE3 mdT mdM mdE4 mdC mdU madC madT rlsV rulV rulT zr9o appL
end Go.Proofs.YtjknipdiglpnlaaDoor
set_option linter.unusedSimpArgs false
set_option linter.unusedVariables false
set_option maxRecDepth 8000
namespace Go.Proofs.YtjknipdiglpnlaaDoor
open Go Go.Am
def zwkt (x y:Sl Str) (i:Nat):St:=zhlx (x.dv 1 stC) (y.dv 1 stC) (.int .i64 i) []
theorem zy51 (x y:Sl Str):Runs tbl0 a26 [x.dv 1 stC,y.dv 1 stC] (.bool (decide (x.l=y.l))):=by
 refine ⟨?_⟩
 have hb:=x.b
 have hlx : ∀ H,lenD H (x.dv 1 stC)=some (.int .i64 x.l.length):=fun H=>zupj
 have hly : ∀ H,lenD H (y.dv 1 stC)=some (.int .i64 y.l.length):=fun H=>zupj
 by_cases hl:x.l.length=y.l.length
 case neg =>
  have hl':¬ (x.l.length:Int)=y.l.length:=by omega
  have hr:¬ x.l=y.l:=fun e=>hl (by rw [e])
  simp (disch:=first|omega|simp<;>omega|fail) [-zA,-zB,-zC,-zD,-zE,a26,hlx,hly,hl,hl',hr]
 have hl':(x.l.length:Int)=y.l.length:=by omega
 rw [← hl] at hly
 simp (disch:=first|omega|simp<;>omega|fail) [-zA,-zB,-zC,-zD,-zE,a26,hlx,hly]
 refine zlm5 (zwkt x y) (fun i=>x.l.length-i) (fun i=>i≤x.l.length ∧ ∀ j (h1:j<x.l.length) (h2:j<y.l.length),j<i→x.l[j]=y.l[j]) 0 (z515 (by simp (disch:=first|omega|simp<;>omega|fail) [-zA,-zB,-zC,-zD,-zE,zwkt,zhlx]) (by simp (disch:=first|omega|simp<;>omega|fail) [-zA,-zB,-zC,-zD,-zE,zwkt,zhlx])) ⟨by omega,fun j _ _ hj=>by omega⟩ (fun i hi => ?_)
 obtain ⟨q1,q2⟩:=hi
 simp only [zwkt]
 by_cases g:i<x.l.length
 case neg =>
  have g':¬ (i:Int)<x.l.length:=by omega
  have hr:x.l=y.l:=List.ext_getElem hl fun j h1 h2=>q2 j h1 h2 (by omega)
  have hd:decide (x.l=y.l)=true:=decide_eq_true hr
  clear hr
  rw [hd]
  simp (disch:=first|omega|simp<;>omega|fail) [-zA,-zB,-zC,-zD,-zE,zr3y,zhlx,hlx,g,g']
 have g':(i:Int)<x.l.length:=by omega
 have gy:i<y.l.length:=by omega
 have hx : ∀ H,zpsc H 1 (x.dv 1 stC) i=some (.ref (stC x.l[i])):=fun H=>zalo zqv6 g
 have hy : ∀ H,zpsc H 1 (y.dv 1 stC) i=some (.ref (stC y.l[i])):=fun H=>zalo zqv6 gy
 by_cases e:x.l[i]=y.l[i]
 ·have hinv : ∀ j (h1:j<x.l.length) (h2:j<y.l.length),j<i+1→x.l[j]=y.l[j]:=fun j h1 h2 hj=>by
   by_cases ej:j=i
   ·subst ej; exact e
   ·exact q2 j h1 h2 (by omega)
  obtain ⟨u,hu⟩ : ∃ u,x.l[i]=u:=⟨_,rfl⟩
  obtain ⟨v,hv⟩ : ∃ v,y.l[i]=v:=⟨_,rfl⟩
  rw [hu] at hx e
  rw [hv] at hy e
  simp (disch:=first|omega|simp<;>omega|fail) [-zA,-zB,-zC,-zD,-zE,zr3y,zhlx,hlx,g,g',hx,hy,e,stC]
  exact ⟨i+1,z515 (by simp (disch:=first|omega|simp<;>omega|fail) [-zA,-zB,-zC,-zD,-zE,zwkt,zhlx]) (by simp (disch:=first|omega|simp<;>omega|fail) [-zA,-zB,-zC,-zD,-zE,zwkt,zhlx]),by omega,by omega,hinv⟩
 ·have hr:¬ x.l=y.l:=fun q=>e (by simp [q])
  obtain ⟨u,hu⟩ : ∃ u,x.l[i]=u:=⟨_,rfl⟩
  obtain ⟨v,hv⟩ : ∃ v,y.l[i]=v:=⟨_,rfl⟩
  rw [hu] at hx e
  rw [hv] at hy e
  simp (disch:=first|omega|simp<;>omega|fail) [-zA,-zB,-zC,-zD,-zE,zr3y,zhlx,hlx,g,g',hx,hy,e,stC,hr]
noncomputable def cSa2:List DV→Option DV:=con (fun _=>True) (fun a:Sl Str × Sl Str=>[a.1.dv 1 stC,a.2.dv 1 stC]) (fun a => .bool (decide (a.1.l=a.2.l)))
theorem zdw6 {x y:Sl Str}:cSa2 [x.dv 1 stC,y.dv 1 stC]=some (.bool (decide (x.l=y.l))) :=
 zsn4 (f:=fun a:Sl Str × Sl Str=>[a.1.dv 1 stC,a.2.dv 1 stC]) (g:=fun a => .bool (decide (a.1.l=a.2.l))) (by
  rintro ⟨a,b⟩ ⟨c,d⟩ e
  simp only [List.cons.injEq,and_true] at e
  rw [zdef e.1,zdef e.2]) (x,y)
theorem zqfl:(Con.pure cSa2).Sound P 26:=z2au fun a _=>zljw mix zr5o Tryd.func26 z9gs (zy51 a.1 a.2)
structure RQ where
 q:Sl Str
 fi:Int
 pa:Str
end Go.Proofs.YtjknipdiglpnlaaDoor
set_option linter.unusedSimpArgs false
set_option linter.unusedVariables false
set_option maxRecDepth 8000
namespace Go.Proofs.YtjknipdiglpnlaaDoor
open Go Go.Am
def zguw (s:Str) (i:Nat):St:=zdva (.str s) (.int .i64 i) []
def spcB (c:B8):Bool:=decide (c=46#8)||decide (c=95#8)||decide (c=45#8)
def alnB (c:B8):Bool:=(decide (97#8≤c)&&decide (c≤122#8))||(decide (48#8≤c)&&decide (c≤57#8))
theorem zsq3 (b:UInt8):zh9a false b=(alnB b.toBitVec||spcB b.toBitVec):=rfl
theorem zg86 (b:UInt8):zh9a true b=alnB b.toBitVec:=by unfold zh9a alnB; simp
theorem z5hd {s:Str} (h0:0<s.length) (h64:s.length≤64) (hs:spcB s[0].toBitVec=false):zt9v s=true ↔ ∀ j (h:j<s.length),zh9a false s[j]=true:=by
 rw [zg1n]
 constructor
 ·rintro ⟨_,_,h⟩ j hj
  have:=h j hj
  by_cases q:j=0
  ·subst q
   rw [decide_eq_true rfl,zg86] at this
   rw [zsq3,this]; rfl
  ·rw [decide_eq_false q] at this; exact this
 ·intro h
  refine ⟨h0,h64,fun j hj => ?_⟩
  have:=h j hj
  by_cases q:j=0
  ·subst q
   rw [decide_eq_true rfl,zg86]
   rw [zsq3,hs,Bool.or_false] at this; exact this
  ·rw [decide_eq_false q]; exact this
theorem z4jr {s:Str} (h0:0<s.length) (hs:spcB s[0].toBitVec=true):zt9v s=false:=by
 cases q:zt9v s with
 | false=>rfl
 | true =>
  have:=(zg1n.1 q).2.2 0 h0
  rw [decide_eq_true rfl,zg86] at this
  exfalso
  unfold spcB at hs
  unfold alnB at this
  simp only [Bool.or_eq_true,decide_eq_true_eq] at hs
  rcases hs with (e|e)|e<;>rw [e] at this<;>exact absurd this (by decide)
theorem zwmy (s:Str):Runs tbl0 a58 [.str s] (.bool (zt9v s)):=by
 refine ⟨?_⟩
 by_cases h1:s=[]
 ·subst h1
  have hr:zt9v []=false:=rfl
  simp (disch:=first|omega|simp<;>omega|fail) [-zA,-zB,-zC,-zD,-zE,a58,hr]
 have h0:0<s.length:=List.length_pos_iff.2 h1
 by_cases h2:64<s.length
 ·have h2':(64:Int)<s.length:=by omega
  have hr:zt9v s=false:=by
   cases h:zt9v s with
   | false=>rfl
   | true=>have:=zg1n.1 h; omega
  simp (disch:=first|omega|simp<;>omega|fail) [-zA,-zB,-zC,-zD,-zE,a58,h1,h2,h2',hr]
 have h2':¬ (64:Int)<s.length:=by omega
 have h0':(0:Int)<s.length:=by omega
 have hbad:=z4jr h0
 have hgood:=z5hd h0 (by omega)
 obtain ⟨f,hf⟩ : ∃ f,s[0].toBitVec=f:=⟨_,rfl⟩
 rw [hf] at hbad hgood
 by_cases f46:f=46#8
 ·have g46:(f == 46#8)=true:=by simp [f46]
  have hr:=hbad (by simp [spcB,f46])
  simp (disch:=first|omega|simp<;>omega|fail) [-zA,-zB,-zC,-zD,-zE,a58,h1,h2,h2',h0,h0',hf,f46,hr]
 have g46:(f == 46#8)=false:=by simp [f46]
 by_cases f95:f=95#8
 ·have g95:(f == 95#8)=true:=by simp [f95]
  have hr:=hbad (by simp [spcB,f95])
  simp (disch:=first|omega|simp<;>omega|fail) [-zA,-zB,-zC,-zD,-zE,a58,h1,h2,h2',h0,h0',hf,f46,g46,f95,hr]
 have g95:(f == 95#8)=false:=by simp [f95]
 by_cases f45:f=45#8
 ·have g45:(f == 45#8)=true:=by simp [f45]
  have hr:=hbad (by simp [spcB,f45])
  simp (disch:=first|omega|simp<;>omega|fail) [-zA,-zB,-zC,-zD,-zE,a58,h1,h2,h2',h0,h0',hf,f46,g46,f95,g95,f45,hr]
 have g45:(f == 45#8)=false:=by simp [f45]
 have hgood:=hgood (by simp [spcB,f46,f95,f45])
 simp (disch:=first|omega|simp<;>omega|fail) [-zA,-zB,-zC,-zD,-zE,a58,h1,h2,h2',h0,h0',hf,f46,g46,f95,g95,f45,g45]
 clear hbad
 refine zlm5 (zguw s) (fun i=>s.length-i) (fun i=>i≤s.length ∧ ∀ j (h:j<s.length),j<i→zh9a false s[j]=true) 0 (z515 (by simp (disch:=first|omega|simp<;>omega|fail) [-zA,-zB,-zC,-zD,-zE,zguw,zdva]) (by simp (disch:=first|omega|simp<;>omega|fail) [-zA,-zB,-zC,-zD,-zE,zguw,zdva])) ⟨by omega,fun j _ h=>by omega⟩ (fun i hi => ?_)
 obtain ⟨k1,k2⟩:=hi
 simp only [zguw]
 by_cases h:i<s.length
 case neg =>
  have h':¬ (i:Int)<s.length:=by omega
  have hr:zt9v s=true:=hgood.2 fun j hj=>k2 j hj (by omega)
  simp (disch:=first|omega|simp<;>omega|fail) [-zA,-zB,-zC,-zD,-zE,znvn,zdva,h,h',hr]
 have h':(i:Int)<s.length:=by omega
 obtain ⟨c,hc⟩ : ∃ c,s[i].toBitVec=c:=⟨_,rfl⟩
 have hn:zh9a false s[i]=(alnB c||spcB c):=by rw [zsq3,hc]
 have acc:(alnB c||spcB c)=true → ∀ j (h:j<s.length),j<i+1→zh9a false s[j]=true:=fun e j hj hlt=>by
  by_cases q:j=i
  ·subst q; rw [hn]; exact e
  ·exact k2 j hj (by omega)
 have rej:(alnB c||spcB c)=false→zt9v s=false:=fun e=>by
  cases q:zt9v s with
  | false=>rfl
  | true=>have:=hgood.1 q i h; rw [hn,e] at this; cases this
 by_cases a1:97#8≤c
 case neg =>
  by_cases a3:48#8≤c
  case neg =>
   by_cases b46:c=46#8
   case pos =>
    have d46:(c == 46#8)=true:=by simp [b46]
    have e:=acc (by simp [alnB,spcB,a1,a3,b46])
    simp (disch:=first|omega|simp<;>omega|fail) [-zA,-zB,-zC,-zD,-zE,znvn,zdva,h,h',hc,a1,a3,b46]
    exact ⟨i+1,z515 (by simp (disch:=first|omega|simp<;>omega|fail) [-zA,-zB,-zC,-zD,-zE,zguw,zdva]) (by simp (disch:=first|omega|simp<;>omega|fail) [-zA,-zB,-zC,-zD,-zE,zguw,zdva]),by omega,⟨by omega,e⟩⟩
   have d46:(c == 46#8)=false:=by simp [b46]
   by_cases b95:c=95#8
   case pos =>
    have d95:(c == 95#8)=true:=by simp [b95]
    have e:=acc (by simp [alnB,spcB,a1,a3,b46,d46,b95])
    simp (disch:=first|omega|simp<;>omega|fail) [-zA,-zB,-zC,-zD,-zE,znvn,zdva,h,h',hc,a1,a3,b46,d46,b95]
    exact ⟨i+1,z515 (by simp (disch:=first|omega|simp<;>omega|fail) [-zA,-zB,-zC,-zD,-zE,zguw,zdva]) (by simp (disch:=first|omega|simp<;>omega|fail) [-zA,-zB,-zC,-zD,-zE,zguw,zdva]),by omega,⟨by omega,e⟩⟩
   have d95:(c == 95#8)=false:=by simp [b95]
   by_cases b45:c=45#8
   case pos =>
    have d45:(c == 45#8)=true:=by simp [b45]
    have e:=acc (by simp [alnB,spcB,a1,a3,b46,d46,b95,d95,b45])
    simp (disch:=first|omega|simp<;>omega|fail) [-zA,-zB,-zC,-zD,-zE,znvn,zdva,h,h',hc,a1,a3,b46,d46,b95,d95,b45]
    exact ⟨i+1,z515 (by simp (disch:=first|omega|simp<;>omega|fail) [-zA,-zB,-zC,-zD,-zE,zguw,zdva]) (by simp (disch:=first|omega|simp<;>omega|fail) [-zA,-zB,-zC,-zD,-zE,zguw,zdva]),by omega,⟨by omega,e⟩⟩
   have d45:(c == 45#8)=false:=by simp [b45]
   have e:=rej (by simp [alnB,spcB,a1,a3,b46,d46,b95,d95,b45,d45])
   simp (disch:=first|omega|simp<;>omega|fail) [-zA,-zB,-zC,-zD,-zE,znvn,zdva,h,h',hc,a1,a3,b46,d46,b95,d95,b45,d45,e]
  by_cases a4:c≤57#8
  case neg =>
   by_cases b46:c=46#8
   case pos =>
    have d46:(c == 46#8)=true:=by simp [b46]
    have e:=acc (by simp [alnB,spcB,a1,a3,a4,b46])
    simp (disch:=first|omega|simp<;>omega|fail) [-zA,-zB,-zC,-zD,-zE,znvn,zdva,h,h',hc,a1,a3,a4,b46]
    exact ⟨i+1,z515 (by simp (disch:=first|omega|simp<;>omega|fail) [-zA,-zB,-zC,-zD,-zE,zguw,zdva]) (by simp (disch:=first|omega|simp<;>omega|fail) [-zA,-zB,-zC,-zD,-zE,zguw,zdva]),by omega,⟨by omega,e⟩⟩
   have d46:(c == 46#8)=false:=by simp [b46]
   by_cases b95:c=95#8
   case pos =>
    have d95:(c == 95#8)=true:=by simp [b95]
    have e:=acc (by simp [alnB,spcB,a1,a3,a4,b46,d46,b95])
    simp (disch:=first|omega|simp<;>omega|fail) [-zA,-zB,-zC,-zD,-zE,znvn,zdva,h,h',hc,a1,a3,a4,b46,d46,b95]
    exact ⟨i+1,z515 (by simp (disch:=first|omega|simp<;>omega|fail) [-zA,-zB,-zC,-zD,-zE,zguw,zdva]) (by simp (disch:=first|omega|simp<;>omega|fail) [-zA,-zB,-zC,-zD,-zE,zguw,zdva]),by omega,⟨by omega,e⟩⟩
   have d95:(c == 95#8)=false:=by simp [b95]
   by_cases b45:c=45#8
   case pos =>
    have d45:(c == 45#8)=true:=by simp [b45]
    have e:=acc (by simp [alnB,spcB,a1,a3,a4,b46,d46,b95,d95,b45])
    simp (disch:=first|omega|simp<;>omega|fail) [-zA,-zB,-zC,-zD,-zE,znvn,zdva,h,h',hc,a1,a3,a4,b46,d46,b95,d95,b45]
    exact ⟨i+1,z515 (by simp (disch:=first|omega|simp<;>omega|fail) [-zA,-zB,-zC,-zD,-zE,zguw,zdva]) (by simp (disch:=first|omega|simp<;>omega|fail) [-zA,-zB,-zC,-zD,-zE,zguw,zdva]),by omega,⟨by omega,e⟩⟩
   have d45:(c == 45#8)=false:=by simp [b45]
   have e:=rej (by simp [alnB,spcB,a1,a3,a4,b46,d46,b95,d95,b45,d45])
   simp (disch:=first|omega|simp<;>omega|fail) [-zA,-zB,-zC,-zD,-zE,znvn,zdva,h,h',hc,a1,a3,a4,b46,d46,b95,d95,b45,d45,e]
  have e:=acc (by simp [alnB,spcB,a1,a3,a4])
  simp (disch:=first|omega|simp<;>omega|fail) [-zA,-zB,-zC,-zD,-zE,znvn,zdva,h,h',hc,a1,a3,a4]
  exact ⟨i+1,z515 (by simp (disch:=first|omega|simp<;>omega|fail) [-zA,-zB,-zC,-zD,-zE,zguw,zdva]) (by simp (disch:=first|omega|simp<;>omega|fail) [-zA,-zB,-zC,-zD,-zE,zguw,zdva]),by omega,⟨by omega,e⟩⟩
 by_cases a2:c≤122#8
 case neg =>
  by_cases a3:48#8≤c
  case neg =>
   by_cases b46:c=46#8
   case pos =>
    have d46:(c == 46#8)=true:=by simp [b46]
    have e:=acc (by simp [alnB,spcB,a1,a2,a3,b46])
    simp (disch:=first|omega|simp<;>omega|fail) [-zA,-zB,-zC,-zD,-zE,znvn,zdva,h,h',hc,a1,a2,a3,b46]
    exact ⟨i+1,z515 (by simp (disch:=first|omega|simp<;>omega|fail) [-zA,-zB,-zC,-zD,-zE,zguw,zdva]) (by simp (disch:=first|omega|simp<;>omega|fail) [-zA,-zB,-zC,-zD,-zE,zguw,zdva]),by omega,⟨by omega,e⟩⟩
   have d46:(c == 46#8)=false:=by simp [b46]
   by_cases b95:c=95#8
   case pos =>
    have d95:(c == 95#8)=true:=by simp [b95]
    have e:=acc (by simp [alnB,spcB,a1,a2,a3,b46,d46,b95])
    simp (disch:=first|omega|simp<;>omega|fail) [-zA,-zB,-zC,-zD,-zE,znvn,zdva,h,h',hc,a1,a2,a3,b46,d46,b95]
    exact ⟨i+1,z515 (by simp (disch:=first|omega|simp<;>omega|fail) [-zA,-zB,-zC,-zD,-zE,zguw,zdva]) (by simp (disch:=first|omega|simp<;>omega|fail) [-zA,-zB,-zC,-zD,-zE,zguw,zdva]),by omega,⟨by omega,e⟩⟩
   have d95:(c == 95#8)=false:=by simp [b95]
   by_cases b45:c=45#8
   case pos =>
    have d45:(c == 45#8)=true:=by simp [b45]
    have e:=acc (by simp [alnB,spcB,a1,a2,a3,b46,d46,b95,d95,b45])
    simp (disch:=first|omega|simp<;>omega|fail) [-zA,-zB,-zC,-zD,-zE,znvn,zdva,h,h',hc,a1,a2,a3,b46,d46,b95,d95,b45]
    exact ⟨i+1,z515 (by simp (disch:=first|omega|simp<;>omega|fail) [-zA,-zB,-zC,-zD,-zE,zguw,zdva]) (by simp (disch:=first|omega|simp<;>omega|fail) [-zA,-zB,-zC,-zD,-zE,zguw,zdva]),by omega,⟨by omega,e⟩⟩
   have d45:(c == 45#8)=false:=by simp [b45]
   have e:=rej (by simp [alnB,spcB,a1,a2,a3,b46,d46,b95,d95,b45,d45])
   simp (disch:=first|omega|simp<;>omega|fail) [-zA,-zB,-zC,-zD,-zE,znvn,zdva,h,h',hc,a1,a2,a3,b46,d46,b95,d95,b45,d45,e]
  by_cases a4:c≤57#8
  case neg =>
   by_cases b46:c=46#8
   case pos =>
    have d46:(c == 46#8)=true:=by simp [b46]
    have e:=acc (by simp [alnB,spcB,a1,a2,a3,a4,b46])
    simp (disch:=first|omega|simp<;>omega|fail) [-zA,-zB,-zC,-zD,-zE,znvn,zdva,h,h',hc,a1,a2,a3,a4,b46]
    exact ⟨i+1,z515 (by simp (disch:=first|omega|simp<;>omega|fail) [-zA,-zB,-zC,-zD,-zE,zguw,zdva]) (by simp (disch:=first|omega|simp<;>omega|fail) [-zA,-zB,-zC,-zD,-zE,zguw,zdva]),by omega,⟨by omega,e⟩⟩
   have d46:(c == 46#8)=false:=by simp [b46]
   by_cases b95:c=95#8
   case pos =>
    have d95:(c == 95#8)=true:=by simp [b95]
    have e:=acc (by simp [alnB,spcB,a1,a2,a3,a4,b46,d46,b95])
    simp (disch:=first|omega|simp<;>omega|fail) [-zA,-zB,-zC,-zD,-zE,znvn,zdva,h,h',hc,a1,a2,a3,a4,b46,d46,b95]
    exact ⟨i+1,z515 (by simp (disch:=first|omega|simp<;>omega|fail) [-zA,-zB,-zC,-zD,-zE,zguw,zdva]) (by simp (disch:=first|omega|simp<;>omega|fail) [-zA,-zB,-zC,-zD,-zE,zguw,zdva]),by omega,⟨by omega,e⟩⟩
   have d95:(c == 95#8)=false:=by simp [b95]
   by_cases b45:c=45#8
   case pos =>
    have d45:(c == 45#8)=true:=by simp [b45]
    have e:=acc (by simp [alnB,spcB,a1,a2,a3,a4,b46,d46,b95,d95,b45])
    simp (disch:=first|omega|simp<;>omega|fail) [-zA,-zB,-zC,-zD,-zE,znvn,zdva,h,h',hc,a1,a2,a3,a4,b46,d46,b95,d95,b45]
    exact ⟨i+1,z515 (by simp (disch:=first|omega|simp<;>omega|fail) [-zA,-zB,-zC,-zD,-zE,zguw,zdva]) (by simp (disch:=first|omega|simp<;>omega|fail) [-zA,-zB,-zC,-zD,-zE,zguw,zdva]),by omega,⟨by omega,e⟩⟩
   have d45:(c == 45#8)=false:=by simp [b45]
   have e:=rej (by simp [alnB,spcB,a1,a2,a3,a4,b46,d46,b95,d95,b45,d45])
   simp (disch:=first|omega|simp<;>omega|fail) [-zA,-zB,-zC,-zD,-zE,znvn,zdva,h,h',hc,a1,a2,a3,a4,b46,d46,b95,d95,b45,d45,e]
  have e:=acc (by simp [alnB,spcB,a1,a2,a3,a4])
  simp (disch:=first|omega|simp<;>omega|fail) [-zA,-zB,-zC,-zD,-zE,znvn,zdva,h,h',hc,a1,a2,a3,a4]
  exact ⟨i+1,z515 (by simp (disch:=first|omega|simp<;>omega|fail) [-zA,-zB,-zC,-zD,-zE,zguw,zdva]) (by simp (disch:=first|omega|simp<;>omega|fail) [-zA,-zB,-zC,-zD,-zE,zguw,zdva]),by omega,⟨by omega,e⟩⟩
 have e:=acc (by simp [alnB,spcB,a1,a2])
 simp (disch:=first|omega|simp<;>omega|fail) [-zA,-zB,-zC,-zD,-zE,znvn,zdva,h,h',hc,a1,a2]
 exact ⟨i+1,z515 (by simp (disch:=first|omega|simp<;>omega|fail) [-zA,-zB,-zC,-zD,-zE,zguw,zdva]) (by simp (disch:=first|omega|simp<;>omega|fail) [-zA,-zB,-zC,-zD,-zE,zguw,zdva]),by omega,⟨by omega,e⟩⟩
end Go.Proofs.YtjknipdiglpnlaaDoor
set_option linter.unusedSimpArgs false
set_option linter.unusedVariables false
set_option maxRecDepth 8000
namespace Go.Proofs.YtjknipdiglpnlaaDoor
open Go Go.Am
noncomputable def zhl3:Tbl:=addT 80 (.pure (cS z01o)) (addT 58 (.pure (cS zd6f)) (addT 71 (.pure (cS dirB)) tbl0))
theorem zahg:zhl3 80 = .pure (cS z01o):=by simp [zhl3]
theorem zxpe:zhl3 58 = .pure (cS zd6f):=by simp [zhl3]
theorem zgu3:zhl3 71 = .pure (cS dirB):=by simp [zhl3]
theorem zfh3:zhl3.Sound P:=z0rp (zzn8 fun p=>zljw mix zkpo Tryd.func80 zpfu (zkeg p)) (z0rp (zzn8 fun s=>zljw mix zr5o Tryd.func58 zt5h (zwmy s)) (z0rp (zzn8 fun s=>zljw mix zpnl Tryd.func71 zbtg (z0t3 s)) zr5o))
theorem z6tn {k:Int}:decide (zk3j k=[]) = !(decide (1≤k)&&decide (k≤7)):=by
 by_cases h:1≤k∧k≤7
 ·have:=zcgp.2 h
  simp [this,h.1,h.2]
 ·have:zk3j k=[]:=by
   by_cases e:zk3j k=[]
   ·exact e
   ·exact absurd (zcgp.1 e) h
  rw [decide_eq_true this]
  by_cases h1:1≤k
  ·have h2:¬ k≤7:=fun q=>h ⟨h1,q⟩
   simp [h2]
  ·simp [h1]
theorem ztei (r:Rul):Runs zhl3 a30 [.agg (ruC r)] (.bool (z8mn r)):=by
 refine ⟨?_⟩
 obtain ⟨k,p,f,pr,i,t⟩:=r
 have hw:=z6tn (k:=k)
 by_cases h1:k<1
 ·have h1':¬ 1≤k:=by omega
  simp (disch:=first|omega|simp<;>omega|fail) [-zA,-zB,-zC,-zD,-zE,a30,h1,h1',z8mn,hw]
 have h1':1≤k:=by omega
 by_cases h7:7<k
 ·have h7':¬ k≤7:=by omega
  simp (disch:=first|omega|simp<;>omega|fail) [-zA,-zB,-zC,-zD,-zE,a30,h1,h1',h7,h7',z8mn,hw]
 have h7':k≤7:=by omega
 have hw:decide (zk3j k=[])=false:=by rw [hw,decide_eq_true h1',decide_eq_true h7']; rfl
 cases h2:(zfn1 p).isSome with
 | false=>simp (disch:=first|omega|simp<;>omega|fail) [-zA,-zB,-zC,-zD,-zE,a30,h1,h1',h7,h7',zahg,zk5k,z01o,h2,z8mn,hw]
 | true =>
 by_cases h3:k=1
 ·subst h3
  cases h4:zt9v f with
  | false=>simp (disch:=first|omega|simp<;>omega|fail) [-zA,-zB,-zC,-zD,-zE,a30,zahg,zk5k,z01o,h2,z8mn,hw,zxpe,zd6f,h4]
  | true =>
  cases h5:dirD i with
  | false=>simp (disch:=first|omega|simp<;>omega|fail) [-zA,-zB,-zC,-zD,-zE,a30,zahg,zk5k,z01o,h2,z8mn,hw,zxpe,zd6f,h4,zgu3,dirB,h5]
  | true =>
  cases h6:dirD t with
  | false=>simp (disch:=first|omega|simp<;>omega|fail) [-zA,-zB,-zC,-zD,-zE,a30,zahg,zk5k,z01o,h2,z8mn,hw,zxpe,zd6f,h4,zgu3,dirB,h5,h6]
  | true=>simp (disch:=first|omega|simp<;>omega|fail) [-zA,-zB,-zC,-zD,-zE,a30,zahg,zk5k,z01o,h2,z8mn,hw,zxpe,zd6f,h4,zgu3,dirB,h5,h6]
 by_cases h4:f=[]
 case neg=>simp (disch:=first|omega|simp<;>omega|fail) [-zA,-zB,-zC,-zD,-zE,a30,h1,h1',h7,h7',zahg,zk5k,z01o,h2,z8mn,hw,h3,h4]
 by_cases h5:i=[]
 case neg=>simp (disch:=first|omega|simp<;>omega|fail) [-zA,-zB,-zC,-zD,-zE,a30,h1,h1',h7,h7',zahg,zk5k,z01o,h2,z8mn,hw,h3,h4,h5]
 by_cases h6:t=[]
 case neg=>simp (disch:=first|omega|simp<;>omega|fail) [-zA,-zB,-zC,-zD,-zE,a30,h1,h1',h7,h7',zahg,zk5k,z01o,h2,z8mn,hw,h3,h4,h5,h6]
 cases pr with
 | false=>simp (disch:=first|omega|simp<;>omega|fail) [-zA,-zB,-zC,-zD,-zE,a30,h1,h1',h7,h7',zahg,zk5k,z01o,h2,z8mn,hw,h3,h4,h5,h6]
 | true=>simp (disch:=first|omega|simp<;>omega|fail) [-zA,-zB,-zC,-zD,-zE,a30,h1,h1',h7,h7',zahg,zk5k,z01o,h2,z8mn,hw,h3,h4,h5,h6]
theorem zh3r:(Con.pure cVr).Sound P 30:=z2au fun r _=>zljw mix zfh3 Tryd.func30 z3f8 (ztei r)
theorem zw98 (n:Nat) (hn:n<8):Runs tbl0 a81 [.int .i64 n] (.str (zk3j n)):=by
 refine ⟨?_⟩
 rcases n with _|_|_|_|_|_|_|_|n
 all_goals first|omega|skip
 all_goals simp (disch:=first|omega|simp<;>omega|fail) [-zA,-zB,-zC,-zD,-zE,a81,zk3j,zc84]
def cNm:List DV→Option DV
 | [.int .i64 k]=>if 0≤k∧k<8 then some (.str (zk3j k)) else none|_=>none
theorem zfw8 {k:Int} (h:0≤k∧k<8):cNm [.int .i64 k]=some (.str (zk3j k)):=if_pos h
theorem zuz5:(Con.pure cNm).Sound P 81:=by
 intro args v e
 unfold cNm at e
 split at e
 ·split at e
  ·rename_i h
   simp at e; subst e
   obtain ⟨n,rfl⟩:=Int.eq_ofNat_of_zero_le h.1
   exact zljw mix zr5o Tryd.func81 zgev (zw98 n (by omega))
  ·simp at e
 ·simp at e
def prdS:Str:=[112,114,111,100,117,99,116,115]
def mtrS:Str:=[109,97,116,101,114,105,97,108,115]
def matS:Str:=[109,97,116,99,104]
def sidS (b:Bool):Str:=if b then prdS else mtrS
def wrdL (r:Rul):List Str:=if r.kind=1 then [matS,r.pat,r.frm,sidS r.prod,r.inn,r.to] else [zk3j r.kind,r.pat]
theorem zskz (r:Rul):(wrdL r).length≤6:=by unfold wrdL; split<;>simp
def wrdS (r:Rul):Sl Str:=if z8mn r then ⟨some true,wrdL r,by simp,by have:=zskz r; omega⟩ else nilS
theorem zr8q {r:Rul} (h:z8mn r=false):(wrdS r).dv 1 stC = .nils:=by unfold wrdS; rw [if_neg (by rw [h]; simp)]; rfl
theorem z2u0 {r:Rul} (h:z8mn r=true) (h1:r.kind=1):(wrdS r).dv 1 stC = .sl true 1 6 [.str matS,.str r.pat,.str r.frm,.str (sidS r.prod),.str r.inn,.str r.to]:=by
 unfold wrdS; rw [if_pos h,z707]; unfold wrdL; simp only [if_pos h1]; rfl
theorem zm9a {r:Rul} (h:z8mn r=true) (h1:¬ r.kind=1):(wrdS r).dv 1 stC = .sl true 1 2 [.str (zk3j r.kind),.str r.pat]:=by
 unfold wrdS; rw [if_pos h,z707]; unfold wrdL; simp only [if_neg h1]; rfl
noncomputable def zfs7:Tbl:=addT 76 (.pure cWd) (addT 29 (.pure cVr) (addT 81 (.pure cNm) (addT 30 (.pure cVr) tbl0)))
theorem zgdd:zfs7 76 = .pure cWd:=by simp [zfs7]
theorem zisq:zfs7 29 = .pure cVr:=by simp [zfs7]
theorem zpks:zfs7 81 = .pure cNm:=by simp [zfs7]
theorem z4lg:zfs7 30 = .pure cVr:=by simp [zfs7]
theorem z310:zfs7.Sound P:=z0rp zubl (z0rp zl71 (z0rp zuz5 (z0rp zh3r zr5o)))
theorem zzbk (r:Rul):Runs zfs7 a31 [.agg (ruC r)] ((wrdS r).dv 1 stC):=by
 refine ⟨?_⟩
 have hc:=zu0t (r:=r)
 cases hv:z8mn r with
 | false =>
  rw [hv] at hc
  rw [zr8q hv]
  simp (disch:=first|omega|simp<;>omega|fail) [-zA,-zB,-zC,-zD,-zE,a31,zisq,hc]
 | true =>
  rw [hv] at hc
  by_cases h1:r.kind=1
  ·rw [z2u0 hv h1]
   have hw:zk3j 1=matS:=rfl
   have hcw:cWd [.int .i64 1]=some (.str matS):=zjhb
   cases hp:r.prod with
   | true=>simp (disch:=first|omega|simp<;>omega|fail) [-zA,-zB,-zC,-zD,-zE,a31,zisq,hc,h1,hp,zgdd,hcw,sidS,prdS,matS]
   | false=>simp (disch:=first|omega|simp<;>omega|fail) [-zA,-zB,-zC,-zD,-zE,a31,zisq,hc,h1,hp,zgdd,hcw,sidS,mtrS,matS]
  ·rw [zm9a hv h1]
   simp (disch:=first|omega|simp<;>omega|fail) [-zA,-zB,-zC,-zD,-zE,a31,zisq,hc,h1,zgdd,zjhb]
theorem zv97 (r:Rul):Runs zfs7 a32 [.agg (ruC r)] ((wrdS r).dv 1 stC):=by
 refine ⟨?_⟩
 have hc:=zu0t (r:=r)
 cases hv:z8mn r with
 | false =>
  rw [hv] at hc
  rw [zr8q hv]
  simp (disch:=first|omega|simp<;>omega|fail) [-zA,-zB,-zC,-zD,-zE,a32,z4lg,hc]
 | true =>
  rw [hv] at hc
  obtain ⟨k,hk,hk1,hk7⟩:=zc3o hv
  have hcn:=zfw8 (k:=r.kind) (by omega)
  by_cases h1:r.kind=1
  ·rw [z2u0 hv h1]
   cases hp:r.prod with
   | true=>simp (disch:=first|omega|simp<;>omega|fail) [-zA,-zB,-zC,-zD,-zE,a32,z4lg,hc,h1,hp,sidS,prdS,matS]
   | false=>simp (disch:=first|omega|simp<;>omega|fail) [-zA,-zB,-zC,-zD,-zE,a32,z4lg,hc,h1,hp,sidS,mtrS,matS]
  ·rw [zm9a hv h1]
   simp (disch:=first|omega|simp<;>omega|fail) [-zA,-zB,-zC,-zD,-zE,a32,z4lg,hc,h1,zpks,hcn]
noncomputable def cWrd:List DV→Option DV:=con (fun _=>True) (fun r:Rul=>[.agg (ruC r)]) (fun r=>(wrdS r).dv 1 stC)
theorem zkpg {r:Rul}:cWrd [.agg (ruC r)]=some ((wrdS r).dv 1 stC):=zsn4 (f:=fun r:Rul=>[.agg (ruC r)]) (g:=fun r=>(wrdS r).dv 1 stC) (fun _ _ e=>zrgx e) r
theorem zc1p:(Con.pure cWrd).Sound P 31:=z2au fun r _=>zljw mix z310 Tryd.func31 zjer (zzbk r)
theorem z88g:(Con.pure cWrd).Sound P 32:=z2au fun r _=>zljw mix z310 Tryd.func32 zvrg (zv97 r)
theorem z0n0 {r:Rul}:(wrdS r).l=if z8mn r then wrdL r else []:=by unfold wrdS; split<;>rfl
end Go.Proofs.YtjknipdiglpnlaaDoor
set_option linter.unusedSimpArgs false
set_option linter.unusedVariables false
set_option maxRecDepth 8000
namespace Go.Proofs.YtjknipdiglpnlaaDoor
open Go Go.Am
def rul0:Rul:=⟨0,[],[],false,[],[]⟩
def zsze:Nat→Str→Int
 | 0,_=>0
 | n+1,w=>if zk3j (n+1:Nat)=w then ((n+1:Nat):Int) else zsze n w
def mkR (w:List Str):Rul:=if w.length=6 then ⟨zsze 7 (w.getD 0 []),w.getD 1 [],w.getD 2 [],decide (w.getD 3 []=prdS),w.getD 4 [],w.getD 5 []⟩ else ⟨zsze 7 (w.getD 0 []),w.getD 1 [],[],false,[],[]⟩
def z2mc (w:List Str):Rul × Bool:=if w.length=2∨w.length=6 then (if (wrdS (mkR w)).l=w then (mkR w,true) else (rul0,false)) else (rul0,false)
def zuf9 (w:List Str):DV := .tup [.agg (ruC (z2mc w).1),.bool (z2mc w).2]
theorem zw4l : ∀ k ∈ [1,2,3,4,5,6,7],zsze 7 (zk3j (k:Nat))=k:=by decide +kernel
theorem zk32 {k:Int} (h1:1≤k) (h7:k≤7):zsze 7 (zk3j k)=k:=by
 obtain ⟨n,rfl⟩:=Int.eq_ofNat_of_zero_le (show 0≤k by omega)
 exact zw4l n (by simp; omega)
theorem z2k0 : ∀ (n:Nat) (w:Str),0≤zsze n w∧zsze n w≤n∧(zsze n w≠0→zk3j (zsze n w)=w)
 | 0,w=>by simp [zsze]
 | n+1,w=>by
  obtain ⟨a,b,c⟩:=z2k0 n w
  rw [zsze]
  split
  ·rename_i h; exact ⟨by omega,by omega,fun _=>h⟩
  ·exact ⟨a,by omega,c⟩
theorem zq1d (b:Bool):decide (sidS b=prdS)=b:=by cases b<;>decide
theorem zqm3 {d:Str}:sidS (decide (d=prdS))=d↔d=prdS∨d=mtrS:=by
 by_cases h:d=prdS
 ·subst h; simp [sidS]
 ·rw [decide_eq_false h]
  constructor
  ·intro e; exact .inr e.symm
  ·rintro (e|e)
   ·exact absurd e h
   ·exact e.symm
theorem z7cn {y:Rul} (h:z8mn y=true):z2mc (wrdL y)=(y,true):=by
 obtain ⟨k,hk,hk1,hk7⟩:=zc3o h
 have hm:mkR (wrdL y)=y:=by
  have h':=h
  obtain ⟨kd,p,f,pr,i,t⟩:=y
  simp only at hk
  unfold wrdL
  by_cases h1:kd=1
  ·subst h1
   simp only [if_true]
   unfold mkR
   have e:zsze 7 matS=1:=by decide
   simp [e,zq1d]
  ·simp only [if_neg h1]
   unfold z8mn at h
   simp only [if_neg h1,Bool.and_eq_true,decide_eq_true_eq,Bool.not_eq_true'] at h
   obtain ⟨_,⟨⟨h2,h3⟩,h4⟩,h5⟩:=h
   unfold mkR
   have e:zsze 7 (zk3j kd)=kd:=zk32 (by omega) (by omega)
   simp [e,h2,h3,h4,h5]
 have hl:(wrdL y).length=2∨(wrdL y).length=6:=by
  unfold wrdL; split<;>simp
 unfold z2mc
 rw [if_pos hl,hm,z0n0,if_pos h,if_pos rfl]
theorem zijz:z2mc []=(rul0,false):=rfl
theorem z1l1 {w:List Str} (h:(z2mc w).2=true):(wrdS (z2mc w).1).l=w:=by
 unfold z2mc at h ⊢
 split at h
 ·rename_i h1
  rw [if_pos h1]
  split at h
  ·rename_i h2; rw [if_pos h2]; exact h2
  ·cases h
 ·cases h
theorem zvlp {a b c d e f:Str}:z2mc [a,b,c,d,e,f]=if (decide (a=matS)&&(decide (d=prdS)||decide (d=mtrS))&&z8mn ⟨1,b,c,decide (d=prdS),e,f⟩)=true then (⟨1,b,c,decide (d=prdS),e,f⟩,true) else (rul0,false):=by
 have hm:mkR [a,b,c,d,e,f]=⟨zsze 7 a,b,c,decide (d=prdS),e,f⟩:=rfl
 unfold z2mc
 rw [if_pos (by simp),hm,z0n0]
 by_cases hv:z8mn ⟨zsze 7 a,b,c,decide (d=prdS),e,f⟩=true
 ·rw [if_pos hv]
  by_cases h1:zsze 7 a=1
  ·have ha:a=matS:=by
    have:=(z2k0 7 a).2.2 (by omega)
    rw [h1] at this; exact this.symm
   rw [h1] at hv ⊢
   have hw:wrdL ⟨1,b,c,decide (d=prdS),e,f⟩=[matS,b,c,sidS (decide (d=prdS)),e,f]:=if_pos rfl
   rw [hw,hv,decide_eq_true ha,ha]
   by_cases hd:d=prdS∨d=mtrS
   ·rw [zqm3.2 hd,if_pos rfl,if_pos (by simpa using hd)]
   ·rw [if_neg,if_neg (by simpa using hd)]
    intro q
    simp only [List.cons.injEq,true_and,and_true] at q
    exact hd (zqm3.1 q)
  ·have hw:wrdL ⟨zsze 7 a,b,c,decide (d=prdS),e,f⟩=[zk3j (zsze 7 a),b]:=if_neg h1
   rw [hw,if_neg (by simp),if_neg]
   intro q
   simp only [Bool.and_eq_true,decide_eq_true_eq] at q
   obtain ⟨⟨q1,_⟩,_⟩:=q
   rw [q1] at h1; exact h1 (by decide)
 ·rw [if_neg hv,if_neg (by simp),if_neg]
  intro q
  simp only [Bool.and_eq_true,decide_eq_true_eq] at q
  obtain ⟨⟨q1,_⟩,q3⟩:=q
  have:zsze 7 a=1:=by rw [q1]; decide
  rw [this] at hv; exact hv q3
theorem zb0u {a b:Str}:((z2mc [a,b]).2=false→z2mc [a,b]=(rul0,false) ∧ ∀ k:Int,2≤k→k≤7→(decide (a=zk3j k)&&z8mn ⟨k,b,[],false,[],[]⟩)=false) ∧
  (∀ k:Int,2≤k→k≤7→(decide (a=zk3j k)&&z8mn ⟨k,b,[],false,[],[]⟩)=true→z2mc [a,b]=(⟨k,b,[],false,[],[]⟩,true)):=by
 have hm:mkR [a,b]=⟨zsze 7 a,b,[],false,[],[]⟩:=rfl
 have key : ∀ k:Int,2≤k→k≤7→(decide (a=zk3j k)&&z8mn ⟨k,b,[],false,[],[]⟩)=true→z2mc [a,b]=(⟨k,b,[],false,[],[]⟩,true):=fun k h2 h7 h=>by
  simp only [Bool.and_eq_true,decide_eq_true_eq] at h
  obtain ⟨h3,h4⟩:=h
  have hk:zsze 7 a=k:=by rw [h3]; exact zk32 (by omega) h7
  unfold z2mc
  rw [if_pos (by simp),hm,hk,z0n0,if_pos h4]
  have hw:wrdL ⟨k,b,[],false,[],[]⟩=[zk3j k,b]:=if_neg (by simp only; omega)
  rw [hw,← h3,if_pos rfl]
 refine ⟨fun hf=>⟨?_,fun k h2 h7 => ?_⟩,key⟩
 ·unfold z2mc at hf ⊢
  rw [if_pos (by simp)] at hf ⊢
  split at hf
  ·cases hf
  ·rename_i h; rw [if_neg h]
 ·cases q:(decide (a=zk3j k)&&z8mn ⟨k,b,[],false,[],[]⟩) with
  | false=>rfl
  | true=>rw [key k h2 h7 q] at hf; cases hf
end Go.Proofs.YtjknipdiglpnlaaDoor
set_option linter.unusedSimpArgs false
set_option linter.unusedVariables false
set_option maxRecDepth 8000
namespace Go.Proofs.YtjknipdiglpnlaaDoor
open Go Go.Am
noncomputable def zgid:Tbl:=addT 76 (.pure cWd) (addT 31 (.pure cWrd) (addT 82 (.pure zsph) tbl0))
theorem zab7:zgid 76 = .pure cWd:=by simp [zgid]
theorem zvb6:zgid 31 = .pure cWrd:=by simp [zgid]
theorem z4zh:zgid 82 = .pure zsph:=by simp [zgid]
theorem zshg:zgid.Sound P:=z0rp zubl (z0rp zc1p (z0rp z0g7 zr5o))
theorem z186 {h:List AObj} {id:Nat} {k v:Int} {p a i t:Str} {b:Bool}:zy6o h id 1 0 (.int .i64 v) (some (ruC ⟨k,p,a,b,i,t⟩))=some (.junk,h.set id (.cells (ruC ⟨v,p,a,b,i,t⟩))):=by
 rw [Am.storeO_1 rfl rfl (by rw [zpvo]; decide)]; rfl
theorem z4m2 {h:List AObj} {id:Nat} {k:Int} {p a i t v:Str} {b:Bool}:zy6o h id 1 1 (.str v) (some (ruC ⟨k,p,a,b,i,t⟩))=some (.junk,h.set id (.cells (ruC ⟨k,v,a,b,i,t⟩))):=by
 rw [Am.storeO_1 rfl rfl (by rw [zpvo]; decide)]; rfl
theorem z3fo:[DV.int .i64 0,.str [],.str [],.bool false,.str [],.str []]=ruC rul0:=rfl
theorem bdr0:zvnk (ruC rul0) []=some (.agg (ruC rul0)):=rfl
def za9k (x:Sl Str) (w:Str) (j:Nat):St:=z3id (x.dv 1 stC) (.mp 0 6 0) (.mp 1 6 0) (.int .i64 ((j:Int)+1)) [.cells (ruC rul0),.cells (ruC ⟨zsze j w,[],[],false,[],[]⟩)]
theorem zhyh (x:Sl Str):Runs zgid a33 [x.dv 1 stC] (zuf9 x.l):=by
 refine ⟨?_⟩
 have hb:=x.b
 have hlx : ∀ H,lenD H (x.dv 1 stC)=some (.int .i64 x.l.length):=fun H=>zupj
 have h6 : ∀ r:Rul,oneC 6 true (ruC r)=some (.agg (ruC r)):=fun r=>zxsc
 by_cases hl:x.l.length=2∨x.l.length=6
 case neg =>
  have h2:¬ (x.l.length:Int)=2:=by omega
  have h6':¬ (x.l.length:Int)=6:=by omega
  have h2n:¬ x.l.length=2:=by omega
  have h6n:¬ x.l.length=6:=by omega
  have hr:zuf9 x.l = .tup [.agg (ruC rul0),.bool false]:=by unfold zuf9 z2mc; rw [if_neg hl]
  rw [hr]
  simp (disch:=first|omega|simp<;>omega|fail) [-zA,-zB,-zC,-zD,-zE,a33,hlx,h2,h6',h2n,h6n,z3fo,bdr0]
 have hi0 : ∀ H,zpsc H 1 (x.dv 1 stC) 0=some (.ref (stC (x.l[0]'(by omega)))):=fun H=>zalo (i:=0) zqv6 (by omega)
 have hi1 : ∀ H,zpsc H 1 (x.dv 1 stC) 1=some (.ref (stC (x.l[1]'(by omega)))):=fun H=>zalo (i:=1) zqv6 (by omega)
 have hR:zuf9 x.l=if (wrdS (mkR x.l)).l=x.l then .tup [.agg (ruC (mkR x.l)),.bool true] else .tup [.agg (ruC rul0),.bool false]:=by
  unfold zuf9 z2mc; rw [if_pos hl]; split<;>rfl
 have hw:=zkpg (r:=mkR x.l)
 have he:zsph [(wrdS (mkR x.l)).dv 1 stC,x.dv 1 stC]=some (.bool (decide ((wrdS (mkR x.l)).l=x.l))):=zxfs
 have hg0:x.l.getD 0 []=x.l[0]'(by omega):=by rw [List.getD_eq_getElem?_getD,List.getElem?_eq_getElem (by omega)]; rfl
 have hg1:x.l.getD 1 []=x.l[1]'(by omega):=by rw [List.getD_eq_getElem?_getD,List.getElem?_eq_getElem (by omega)]; rfl
 have hkd:zsze 0 (x.l[0]'(by omega))=0:=rfl
 have hmk2:x.l.length=2→mkR x.l=⟨zsze 7 (x.l[0]'(by omega)),x.l[1]'(by omega),[],false,[],[]⟩:=fun h=>by
  unfold mkR; rw [if_neg (by omega),hg0,hg1]
 have hx6:x.l.length=6 → ∃ w2 w3 w4 w5,(∀ H,zpsc H 1 (x.dv 1 stC) 2=some (.ref (stC w2)))∧(∀ H,zpsc H 1 (x.dv 1 stC) 3=some (.ref (stC w3)))∧(∀ H,zpsc H 1 (x.dv 1 stC) 4=some (.ref (stC w4)))∧(∀ H,zpsc H 1 (x.dv 1 stC) 5=some (.ref (stC w5)))∧mkR x.l=⟨zsze 7 (x.l[0]'(by omega)),x.l[1]'(by omega),w2,decide (w3=prdS),w4,w5⟩:=fun h =>
  ⟨x.l[2]'(by omega),x.l[3]'(by omega),x.l[4]'(by omega),x.l[5]'(by omega),fun H=>zalo (i:=2) zqv6 (by omega),fun H=>zalo (i:=3) zqv6 (by omega),fun H=>zalo (i:=4) zqv6 (by omega),fun H=>zalo (i:=5) zqv6 (by omega),by
   unfold mkR; rw [if_pos h,hg0,hg1]
   simp only [List.getD_eq_getElem?_getD,List.getElem?_eq_getElem (show 2<x.l.length by omega),List.getElem?_eq_getElem (show 3<x.l.length by omega),List.getElem?_eq_getElem (show 4<x.l.length by omega),List.getElem?_eq_getElem (show 5<x.l.length by omega),Option.getD_some]⟩
 obtain ⟨w0,hw0⟩ : ∃ w,x.l[0]'(by omega)=w:=⟨_,rfl⟩
 obtain ⟨w1,hw1⟩ : ∃ w,x.l[1]'(by omega)=w:=⟨_,rfl⟩
 simp only [hw0] at hi0 hkd
 simp only [hw1] at hi1
 rw [hR]
 have hkn : ∀ j,zsze (j+1) w0=if zk3j ((j:Int)+1)=w0 then (j:Int)+1 else zsze j w0:=fun j=>rfl
 have hrp : ∀ b:DV,b.known=true→(x.dv 1 stC).known=true:=fun _ _=>ztw5 _
 have hst0 : ∀ (h:List AObj) (id:Nat) (r:Rul),zy6o h id 6 0 (.agg (ruC r)) (some (ruC rul0))=some (.junk,h.set id (.cells (ruC r))):=fun h id r=>z3hv rfl
 rcases hl with h2|h6l
 ·have hm:=hmk2 h2
  rw [hw0,hw1] at hm
  rw [hm] at hw he ⊢
  obtain ⟨kk,hkk⟩ : ∃ k,zsze 7 w0=k:=⟨_,rfl⟩
  rw [hkk] at hw he ⊢
  obtain ⟨Q,hQ⟩ : ∃ Q,wrdS ⟨kk,w1,[],false,[],[]⟩=Q:=⟨_,rfl⟩
  rw [hQ] at hw he ⊢
  obtain ⟨RD,hRD⟩ : ∃ RD,(if Q.l=x.l then DV.tup [.agg (ruC ⟨kk,w1,[],false,[],[]⟩),.bool true] else .tup [.agg (ruC rul0),.bool false])=RD:=⟨_,rfl⟩
  rw [hRD]
  have hlx : ∀ H,lenD H (x.dv 1 stC)=some (.int .i64 2):=fun H=>by rw [hlx,h2]; rfl
  simp (disch:=first|omega|simp<;>omega|fail) [-zA,-zB,-zC,-zD,-zE,a33,hlx,z3fo]
  refine zlm5 (za9k x w0) (fun j=>7-j) (fun j=>j≤7) 0 (z515 (by simp (disch:=first|omega|simp<;>omega|fail) [-zA,-zB,-zC,-zD,-zE,za9k,z3id]) (by simp (disch:=first|omega|simp<;>omega|fail) [-zA,-zB,-zC,-zD,-zE,za9k,z3id,hkd]; try rfl)) (by omega) (fun j hj => ?_)
  simp only [za9k]
  by_cases g:j<7
  ·have g':(j:Int)+1≤7:=by omega
   have hkj:=hkn j
   by_cases e:zk3j ((j:Int)+1)=w0
   ·rw [if_pos e] at hkj
    simp (disch:=first|omega|simp<;>omega|fail) [-zA,-zB,-zC,-zD,-zE,zcr2,z3id,g',hi0,stC,zab7,zjhb,e,z186]
    exact ⟨j+1,z515 (by simp (disch:=first|omega|simp<;>omega|fail) [-zA,-zB,-zC,-zD,-zE,za9k,z3id]) (by simp (disch:=first|omega|simp<;>omega|fail) [-zA,-zB,-zC,-zD,-zE,za9k,z3id,hkj]),by omega,by omega⟩
   ·rw [if_neg e] at hkj
    simp (disch:=first|omega|simp<;>omega|fail) [-zA,-zB,-zC,-zD,-zE,zcr2,z3id,g',hi0,stC,zab7,zjhb,e]
    exact ⟨j+1,z515 (by simp (disch:=first|omega|simp<;>omega|fail) [-zA,-zB,-zC,-zD,-zE,za9k,z3id]) (by simp (disch:=first|omega|simp<;>omega|fail) [-zA,-zB,-zC,-zD,-zE,za9k,z3id,hkj]),by omega,by omega⟩
  ·obtain rfl:j=7:=by omega
   rw [hkk]
   by_cases q:Q.l=x.l
   ·rw [decide_eq_true q] at he
    rw [if_pos q] at hRD
    subst hRD
    clear q
    simp (disch:=first|omega|simp<;>omega|fail) [-zA,-zB,-zC,-zD,-zE,zcr2,z3id,hi1,stC,z4m2,hlx,zvb6,hw,z4zh,he,zfuu,hst0]
   ·rw [decide_eq_false q] at he
    rw [if_neg q] at hRD
    subst hRD
    clear q
    simp (disch:=first|omega|simp<;>omega|fail) [-zA,-zB,-zC,-zD,-zE,zcr2,z3id,hi1,stC,z4m2,hlx,zvb6,hw,z4zh,he,zfuu,hst0,bdr0]
 ·obtain ⟨w2,w3,w4,w5,hi2,hi3,hi4,hi5,hm⟩:=hx6 h6l
  rw [hw0,hw1] at hm
  rw [hm] at hw he ⊢
  obtain ⟨kk,hkk⟩ : ∃ k,zsze 7 w0=k:=⟨_,rfl⟩
  rw [hkk] at hw he ⊢
  have hpd:zhl4 .eql (.str w3) (.str [112,114,111,100,117,99,116,115])=some (.bool (decide (w3=prdS))):=by simp [prdS]; exact decide_eq_decide.2 Iff.rfl
  obtain ⟨B,hB⟩ : ∃ B,decide (w3=prdS)=B:=⟨_,rfl⟩
  have hB':decide (w3=[112,114,111,100,117,99,116,115])=B:=hB
  rw [hB] at hw he hpd ⊢
  obtain ⟨Q,hQ⟩ : ∃ Q,wrdS ⟨kk,w1,w2,B,w4,w5⟩=Q:=⟨_,rfl⟩
  rw [hQ] at hw he ⊢
  obtain ⟨RD,hRD⟩ : ∃ RD,(if Q.l=x.l then DV.tup [.agg (ruC ⟨kk,w1,w2,B,w4,w5⟩),.bool true] else .tup [.agg (ruC rul0),.bool false])=RD:=⟨_,rfl⟩
  rw [hRD]
  have hlx : ∀ H,lenD H (x.dv 1 stC)=some (.int .i64 6):=fun H=>by rw [hlx,h6l]; rfl
  simp (disch:=first|omega|simp<;>omega|fail) [-zA,-zB,-zC,-zD,-zE,a33,hlx,z3fo]
  refine zlm5 (za9k x w0) (fun j=>7-j) (fun j=>j≤7) 0 (z515 (by simp (disch:=first|omega|simp<;>omega|fail) [-zA,-zB,-zC,-zD,-zE,za9k,z3id]) (by simp (disch:=first|omega|simp<;>omega|fail) [-zA,-zB,-zC,-zD,-zE,za9k,z3id,hkd]; try rfl)) (by omega) (fun j hj => ?_)
  simp only [za9k]
  by_cases g:j<7
  ·have g':(j:Int)+1≤7:=by omega
   have hkj:=hkn j
   by_cases e:zk3j ((j:Int)+1)=w0
   ·rw [if_pos e] at hkj
    simp (disch:=first|omega|simp<;>omega|fail) [-zA,-zB,-zC,-zD,-zE,zcr2,z3id,g',hi0,stC,zab7,zjhb,e,z186]
    exact ⟨j+1,z515 (by simp (disch:=first|omega|simp<;>omega|fail) [-zA,-zB,-zC,-zD,-zE,za9k,z3id]) (by simp (disch:=first|omega|simp<;>omega|fail) [-zA,-zB,-zC,-zD,-zE,za9k,z3id,hkj]),by omega,by omega⟩
   ·rw [if_neg e] at hkj
    simp (disch:=first|omega|simp<;>omega|fail) [-zA,-zB,-zC,-zD,-zE,zcr2,z3id,g',hi0,stC,zab7,zjhb,e]
    exact ⟨j+1,z515 (by simp (disch:=first|omega|simp<;>omega|fail) [-zA,-zB,-zC,-zD,-zE,za9k,z3id]) (by simp (disch:=first|omega|simp<;>omega|fail) [-zA,-zB,-zC,-zD,-zE,za9k,z3id,hkj]),by omega,by omega⟩
  ·obtain rfl:j=7:=by omega
   rw [hkk]
   by_cases q:Q.l=x.l
   ·rw [decide_eq_true q] at he
    rw [if_pos q] at hRD
    subst hRD
    clear q
    simp (disch:=first|omega|simp<;>omega|fail) [-zA,-zB,-zC,-zD,-zE,zcr2,z3id,hi1,hi2,hi3,hi4,hi5,stC,z4m2,hlx,hpd,hB',zd5b,zkwp,z3oo,z5uz,zch3,zvb6,hw,z4zh,he,zfuu,hst0]
   ·rw [decide_eq_false q] at he
    rw [if_neg q] at hRD
    subst hRD
    clear q
    simp (disch:=first|omega|simp<;>omega|fail) [-zA,-zB,-zC,-zD,-zE,zcr2,z3id,hi1,hi2,hi3,hi4,hi5,stC,z4m2,hlx,hpd,hB',zd5b,zkwp,z3oo,z5uz,zch3,zvb6,hw,z4zh,he,zfuu,hst0,bdr0]
end Go.Proofs.YtjknipdiglpnlaaDoor
set_option linter.unusedSimpArgs false
set_option linter.unusedVariables false
set_option maxRecDepth 20000
namespace Go.Proofs.YtjknipdiglpnlaaDoor
open Go Go.Am
noncomputable def cRd:List DV→Option DV:=con (fun _=>True) (fun x:Sl Str=>[x.dv 1 stC]) (fun x=>zuf9 x.l)
theorem zuv4 {x:Sl Str}:cRd [x.dv 1 stC]=some (zuf9 x.l):=zsn4 (f:=fun x:Sl Str=>[x.dv 1 stC]) (g:=fun x=>zuf9 x.l) (fun a b e=>by simp only [List.cons.injEq,and_true] at e; exact zdef e) x
theorem z8ka:(Con.pure cRd).Sound P 33:=z2au fun x _=>zljw mix zshg Tryd.func33 zojn (zhyh x)
theorem z1fv {a b:Str} (h : ∀ k:Int,2≤k→k≤7→a=zk3j k→z8mn ⟨k,b,[],false,[],[]⟩=false):z2mc [a,b]=(rul0,false):=by
 refine (zb0u.1 ?_).1
 cases q:(z2mc [a,b]).2 with
 | false=>rfl
 | true =>
  exfalso
  have h1:=z1l1 q
  obtain ⟨r,hr⟩ : ∃ r,(z2mc [a,b]).1=r:=⟨_,rfl⟩
  rw [hr,z0n0] at h1
  split at h1
  ·rename_i hv
   obtain ⟨k,hk,hk1,hk7⟩:=zc3o hv
   have hv':=hv
   obtain ⟨kd,p,f,pr,i,t⟩:=r
   simp only at hk
   unfold wrdL at h1
   split at h1
   ·simp at h1
   ·rename_i hk'
    simp only at hk'
    simp only [List.cons.injEq,and_true] at h1
    obtain ⟨e1,e2⟩:=h1
    unfold z8mn at hv
    simp only [if_neg hk',Bool.and_eq_true,decide_eq_true_eq,Bool.not_eq_true'] at hv
    obtain ⟨_,⟨⟨h2,h3⟩,h4⟩,h5⟩:=hv
    subst h2 h3 h4 h5 e2
    have:=h kd (by omega) (by omega) e1.symm
    rw [hv'] at this
    cases this
  ·simp at h1
noncomputable def z1rl:Tbl:=addT 81 (.pure cNm) (addT 30 (.pure cVr) tbl0)
theorem z9un:z1rl 81 = .pure cNm:=by simp [z1rl]
theorem z2gg:z1rl 30 = .pure cVr:=by simp [z1rl]
theorem zcft:z1rl.Sound P:=z0rp zuz5 (z0rp zh3r zr5o)
def z03u (x:Sl Str) (k:Nat):St:=z225 (x.dv 1 stC) (.mp 0 6 0) (.int .i64 ((k:Int)+2)) [.cells (ruC rul0)]
theorem zubj (x:Sl Str):Runs z1rl a34 [x.dv 1 stC] (zuf9 x.l):=by
 refine ⟨?_⟩
 have hlx : ∀ H,lenD H (x.dv 1 stC)=some (.int .i64 x.l.length):=fun H=>zupj
 have hb:=x.b
 have hst0 : ∀ (h:List AObj) (id:Nat) (r:Rul),zy6o h id 6 0 (.agg (ruC r)) (some (ruC rul0))=some (.junk,h.set id (.cells (ruC r))):=fun h id r=>z3hv rfl
 by_cases h6:x.l.length=6
 ·obtain ⟨a,b,c,d,e,f,hx⟩ : ∃ a b c d e f,x.l=[a,b,c,d,e,f]:=by
   rcases hx:x.l with _|⟨a,_|⟨b,_|⟨c,_|⟨d,_|⟨e,_|⟨f,_|⟨g,l⟩⟩⟩⟩⟩⟩⟩<;>rw [hx] at h6<;>simp at h6
   exact ⟨a,b,c,d,e,f,rfl⟩
  have hi : ∀ (i:Nat) (hi:i<x.l.length) (H:List AObj),zpsc H 1 (x.dv 1 stC) i=some (.ref (stC x.l[i])):=fun i hi H=>zalo zqv6 hi
  have i0 : ∀ H,zpsc H 1 (x.dv 1 stC) 0=some (.ref (stC a)):=fun H=>by have:=hi 0 (by omega) H; simpa [hx] using this
  have i1 : ∀ H,zpsc H 1 (x.dv 1 stC) 1=some (.ref (stC b)):=fun H=>by have:=hi 1 (by omega) H; simpa [hx] using this
  have i2 : ∀ H,zpsc H 1 (x.dv 1 stC) 2=some (.ref (stC c)):=fun H=>by have:=hi 2 (by omega) H; simpa [hx] using this
  have i3 : ∀ H,zpsc H 1 (x.dv 1 stC) 3=some (.ref (stC d)):=fun H=>by have:=hi 3 (by omega) H; simpa [hx] using this
  have i4 : ∀ H,zpsc H 1 (x.dv 1 stC) 4=some (.ref (stC e)):=fun H=>by have:=hi 4 (by omega) H; simpa [hx] using this
  have i5 : ∀ H,zpsc H 1 (x.dv 1 stC) 5=some (.ref (stC f)):=fun H=>by have:=hi 5 (by omega) H; simpa [hx] using this
  have hlx : ∀ H,lenD H (x.dv 1 stC)=some (.int .i64 6):=fun H=>by rw [hlx,h6]; rfl
  have hr:zuf9 x.l = .tup [.agg (ruC (z2mc [a,b,c,d,e,f]).1),.bool (z2mc [a,b,c,d,e,f]).2]:=by rw [hx]; rfl
  rw [zvlp] at hr
  clear hi hx
  have hpd:zhl4 .eql (.str d) (.str [112,114,111,100,117,99,116,115])=some (.bool (decide (d=prdS))):=by simp [prdS]; exact decide_eq_decide.2 Iff.rfl
  have hmd:zhl4 .eql (.str d) (.str [109,97,116,101,114,105,97,108,115])=some (.bool (decide (d=mtrS))):=by simp [mtrS]; exact decide_eq_decide.2 Iff.rfl
  have hma:zhl4 .eql (.str a) (.str [109,97,116,99,104])=some (.bool (decide (a=matS))):=by simp [matS]; exact decide_eq_decide.2 Iff.rfl
  obtain ⟨B,hB⟩ : ∃ B,decide (d=prdS)=B:=⟨_,rfl⟩
  obtain ⟨C,hC⟩ : ∃ C,decide (d=mtrS)=C:=⟨_,rfl⟩
  obtain ⟨A,hA⟩ : ∃ A,decide (a=matS)=A:=⟨_,rfl⟩
  rw [hB,hC,hA] at hr
  rw [hB] at hpd
  rw [hC] at hmd
  rw [hA] at hma
  have hbd:[DV.int .i64 1,.str b,.str c,.bool B,.str e,.str f]=ruC ⟨1,b,c,B,e,f⟩:=rfl
  have hb0:zvnk (ruC rul0) []=some (.agg (ruC rul0)):=rfl
  have hcv:=zu0t (r:=⟨1,b,c,B,e,f⟩)
  obtain ⟨r,hre⟩ : ∃ r:Rul,(⟨1,b,c,B,e,f⟩:Rul)=r:=⟨_,rfl⟩
  rw [hre] at hr hbd hcv
  have h0:[DV.int .i64 0,.str [],.str [],.bool false,.str [],.str []]=ruC rul0:=rfl
  obtain ⟨V,hV⟩ : ∃ V,z8mn r=V:=⟨_,rfl⟩
  rw [hV] at hr hcv
  rw [hr]
  cases A with
  | false=>simp (disch:=first|omega|simp<;>omega|fail) [-zA,-zB,-zC,-zD,-zE,a34,hlx,i0,i1,i2,i3,i4,i5,stC,hpd,hmd,hma,hbd,hb0,h0,hst0]
  | true =>
  cases B with
  | true =>
   cases V with
   | true=>simp (disch:=first|omega|simp<;>omega|fail) [-zA,-zB,-zC,-zD,-zE,a34,hlx,i0,i1,i2,i3,i4,i5,stC,hpd,hmd,hma,hbd,hb0,h0,hst0,z2gg,hcv]
   | false=>simp (disch:=first|omega|simp<;>omega|fail) [-zA,-zB,-zC,-zD,-zE,a34,hlx,i0,i1,i2,i3,i4,i5,stC,hpd,hmd,hma,hbd,hb0,h0,hst0,z2gg,hcv]
  | false =>
   cases C with
   | false=>simp (disch:=first|omega|simp<;>omega|fail) [-zA,-zB,-zC,-zD,-zE,a34,hlx,i0,i1,i2,i3,i4,i5,stC,hpd,hmd,hma,hbd,hb0,h0,hst0]
   | true =>
    cases V with
    | true=>simp (disch:=first|omega|simp<;>omega|fail) [-zA,-zB,-zC,-zD,-zE,a34,hlx,i0,i1,i2,i3,i4,i5,stC,hpd,hmd,hma,hbd,hb0,h0,hst0,z2gg,hcv]
    | false=>simp (disch:=first|omega|simp<;>omega|fail) [-zA,-zB,-zC,-zD,-zE,a34,hlx,i0,i1,i2,i3,i4,i5,stC,hpd,hmd,hma,hbd,hb0,h0,hst0,z2gg,hcv]
 have h6':¬ (x.l.length:Int)=6:=by omega
 have h0:[DV.int .i64 0,.str [],.str [],.bool false,.str [],.str []]=ruC rul0:=rfl
 have hb0:zvnk (ruC rul0) []=some (.agg (ruC rul0)):=rfl
 have hk0:(.int .i64 (((0:Nat):Int)+2):DV) = .int .i64 2:=rfl
 by_cases h2:x.l.length=2
 case neg =>
  have h2':¬ (x.l.length:Int)=2:=by omega
  have hr:zuf9 x.l = .tup [.agg (ruC rul0),.bool false]:=by unfold zuf9 z2mc; rw [if_neg (by omega)]
  rw [hr]
  simp (disch:=first|omega|simp<;>omega|fail) [-zA,-zB,-zC,-zD,-zE,a34,hlx,h6,h6',h0]
  refine zlm5 (z03u x) (fun k=>7-k) (fun k=>k=0) 0 (z515 (by simp (disch:=first|omega|simp<;>omega|fail) [-zA,-zB,-zC,-zD,-zE,z03u,z225]) (by simp (disch:=first|omega|simp<;>omega|fail) [-zA,-zB,-zC,-zD,-zE,z03u,z225])) rfl (fun k hk => ?_)
  subst hk
  simp (disch:=first|omega|simp<;>omega|fail) [-zA,-zB,-zC,-zD,-zE,z03u,zx6w,z225,hlx,h2,h2',hb0,hst0]
 obtain ⟨a,b,hx⟩ : ∃ a b,x.l=[a,b]:=by
  rcases hx:x.l with _|⟨a,_|⟨b,_|⟨g,l⟩⟩⟩<;>rw [hx] at h2<;>simp at h2
  exact ⟨a,b,rfl⟩
 have hi : ∀ (i:Nat) (hi:i<x.l.length) (H:List AObj),zpsc H 1 (x.dv 1 stC) i=some (.ref (stC x.l[i])):=fun i hi H=>zalo zqv6 hi
 have i0 : ∀ H,zpsc H 1 (x.dv 1 stC) 0=some (.ref (stC a)):=fun H=>by have:=hi 0 (by omega) H; simpa [hx] using this
 have i1 : ∀ H,zpsc H 1 (x.dv 1 stC) 1=some (.ref (stC b)):=fun H=>by have:=hi 1 (by omega) H; simpa [hx] using this
 have hlx : ∀ H,lenD H (x.dv 1 stC)=some (.int .i64 2):=fun H=>by rw [hlx,h2]; rfl
 have hr:zuf9 x.l = .tup [.agg (ruC (z2mc [a,b]).1),.bool (z2mc [a,b]).2]:=by rw [hx]; rfl
 obtain ⟨RD,hRD⟩ : ∃ RD,zuf9 x.l=RD:=⟨_,rfl⟩
 rw [hRD] at hr ⊢
 clear hi hx hRD
 simp (disch:=first|omega|simp<;>omega|fail) [-zA,-zB,-zC,-zD,-zE,a34,hlx,h0]
 refine zlm5 (z03u x) (fun k=>7-k) (fun k=>k≤6 ∧ ∀ j:Int,2≤j→j<(k:Int)+2→a=zk3j j→z8mn ⟨j,b,[],false,[],[]⟩=false) 0 (z515 (by simp (disch:=first|omega|simp<;>omega|fail) [-zA,-zB,-zC,-zD,-zE,z03u,z225]) (by simp (disch:=first|omega|simp<;>omega|fail) [-zA,-zB,-zC,-zD,-zE,z03u,z225])) ⟨by omega,fun j h1 h2=>by omega⟩ (fun k hk => ?_)
 obtain ⟨k1,k2⟩:=hk
 by_cases g:k<6
 case neg =>
  obtain rfl:k=6:=by omega
  rw [z1fv fun j h1 h2=>k2 j h1 (by omega)] at hr
  rw [hr]
  simp (disch:=first|omega|simp<;>omega|fail) [-zA,-zB,-zC,-zD,-zE,z03u,zx6w,z225,hlx,hb0,hst0]
 have g':(k:Int)+2≤7:=by omega
 have hbd:zvnk (ruC rul0) [(0,1,.int .i64 ((k:Int)+2)),(1,1,.str b)]=some (.agg (ruC ⟨(k:Int)+2,b,[],false,[],[]⟩)):=rfl
 have hcv:=zu0t (r:=⟨(k:Int)+2,b,[],false,[],[]⟩)
 have hcn:=zfw8 (k:=(k:Int)+2) (by omega)
 have hkey:=(zb0u (a:=a) (b:=b)).2 ((k:Int)+2) (by omega) g'
 have hinv:(a=zk3j ((k:Int)+2)→z8mn ⟨(k:Int)+2,b,[],false,[],[]⟩=false) → ∀ j:Int,2≤j→j<((k+1:Nat):Int)+2→a=zk3j j→z8mn ⟨j,b,[],false,[],[]⟩=false:=fun e j h1 h2=>by
  by_cases q:j=(k:Int)+2
  ·subst q; exact e
  ·exact k2 j h1 (by omega)
 have hk3:(k:Int)+1+2=(k:Int)+2+1:=by omega
 obtain ⟨r,hre⟩ : ∃ r:Rul,(⟨(k:Int)+2,b,[],false,[],[]⟩:Rul)=r:=⟨_,rfl⟩
 rw [hre] at hbd hcv hkey hinv
 obtain ⟨w,hw⟩ : ∃ w,zk3j ((k:Int)+2)=w:=⟨_,rfl⟩
 rw [hw] at hcn hkey hinv
 have ha : ∀ A,decide (a=w)=A→zhl4 .eql (.str a) (.str w)=some (.bool A):=fun A e=>by rw [← e]; show some (DV.bool (a == w))=_; by_cases q:a=w<;>simp [q]
 by_cases q:a=w
 ·have ha:=ha _ (decide_eq_true q)
  rw [decide_eq_true q] at hkey
  cases hv:z8mn r with
  | true =>
   rw [hkey (by rw [hv]; rfl)] at hr
   rw [hv] at hcv
   rw [hr]
   simp (disch:=first|omega|simp<;>omega|fail) [-zA,-zB,-zC,-zD,-zE,z03u,zx6w,z225,g',hlx,i1,i0,stC,h0,hbd,hst0,z9un,hcn,ha,z2gg,hcv]
  | false =>
   rw [hv] at hcv
   simp (disch:=first|omega|simp<;>omega|fail) [-zA,-zB,-zC,-zD,-zE,z03u,zx6w,z225,g',hlx,i1,i0,stC,h0,hbd,hst0,z9un,hcn,ha,z2gg,hcv]
   refine ⟨k+1,zju2 (tail:=[.cells (ruC r)]) (by simp (disch:=first|omega|simp<;>omega|fail) [-zA,-zB,-zC,-zD,-zE,z03u,z225,hk3]) (by simp (disch:=first|omega|simp<;>omega|fail) [-zA,-zB,-zC,-zD,-zE,z03u,z225]) (Nat.zero_le _) (by simp (disch:=first|omega|simp<;>omega|fail) [-zA,-zB,-zC,-zD,-zE,z03u,z225,z1r6,Am.below,z8b8 _ _ (zfuu x)]) (by simp (disch:=first|omega|simp<;>omega|fail) [-zA,-zB,-zC,-zD,-zE,z03u,z225,zlf2,zmq5 _ _ (z3bz rul0)]),by omega,by omega,hinv ?_⟩
   exact fun _=>hv
 ·have ha:=ha _ (decide_eq_false q)
  simp (disch:=first|omega|simp<;>omega|fail) [-zA,-zB,-zC,-zD,-zE,z03u,zx6w,z225,g',hlx,i1,i0,stC,h0,hbd,hst0,z9un,hcn,ha]
  refine ⟨k+1,zju2 (tail:=[.cells (ruC r)]) (by simp (disch:=first|omega|simp<;>omega|fail) [-zA,-zB,-zC,-zD,-zE,z03u,z225,hk3]) (by simp (disch:=first|omega|simp<;>omega|fail) [-zA,-zB,-zC,-zD,-zE,z03u,z225]) (Nat.zero_le _) (by simp (disch:=first|omega|simp<;>omega|fail) [-zA,-zB,-zC,-zD,-zE,z03u,z225,z1r6,Am.below,z8b8 _ _ (zfuu x)]) (by simp (disch:=first|omega|simp<;>omega|fail) [-zA,-zB,-zC,-zD,-zE,z03u,z225,zlf2,zmq5 _ _ (z3bz rul0)]),by omega,by omega,hinv ?_⟩
  exact fun e=>absurd e q
theorem z915:(Con.pure cRd).Sound P 34:=z2au fun x _=>zljw mix zcft Tryd.func34 zk28 (zubj x)
def lowB (r:Rul):Bool:=decide (r.pat.length≤300)&&(decide (r.inn.length≤300)&&(decide (r.to.length≤300)&&decide (r.frm.length≤300)))
def fewB (l:List Rul):Bool:=l.all lowB&&decide (l.length≤40)
def z14t (x:Sl Rul) (i:Nat):St:=zpkh (x.dv 6 ruC) (.int .i64 i) []
theorem z4ly (x:Sl Rul):Runs tbl0 a27 [x.dv 6 ruC] (.bool (fewB x.l)):=by
 refine ⟨?_⟩
 have hb:=x.b
 have hlx : ∀ H,lenD H (x.dv 6 ruC)=some (.int .i64 x.l.length):=fun H=>zupj
 simp (disch:=first|omega|simp<;>omega|fail) [-zA,-zB,-zC,-zD,-zE,a27]
 refine zlm5 (z14t x) (fun i=>x.l.length-i) (fun i=>i≤x.l.length∧(x.l.take i).all lowB=true) 0 (z515 (by simp (disch:=first|omega|simp<;>omega|fail) [-zA,-zB,-zC,-zD,-zE,z14t,zpkh]) (by simp (disch:=first|omega|simp<;>omega|fail) [-zA,-zB,-zC,-zD,-zE,z14t,zpkh])) ⟨Nat.zero_le _,rfl⟩ (fun i hi => ?_)
 obtain ⟨k1,k2⟩:=hi
 by_cases g:i<x.l.length
 case neg =>
  have g':¬ (i:Int)<x.l.length:=by omega
  rw [List.take_of_length_le (by omega)] at k2
  have hr:fewB x.l=decide ((x.l.length:Int)≤40):=by
   unfold fewB; rw [k2,Bool.true_and]; exact decide_eq_decide.2 (by omega)
  rw [hr]
  simp (disch:=first|omega|simp<;>omega|fail) [-zA,-zB,-zC,-zD,-zE,z14t,zcoh,zpkh,hlx,g,g']
 have g':(i:Int)<x.l.length:=by omega
 have hx : ∀ H,zpsc H 6 (x.dv 6 ruC) i=some (.ref (ruC x.l[i])):=fun H=>zalo zpvo g
 have hn:lowB x.l[i]=true→(x.l.take (i+1)).all lowB=true:=fun e=>by
  rw [List.take_succ_eq_append_getElem g,List.all_append,k2]; simp [e]
 have hf:lowB x.l[i]=false→fewB x.l=false:=fun e=>by
  unfold fewB
  rw [Bool.and_eq_false_iff]
  exact .inl (List.all_eq_false.2 ⟨_,List.getElem_mem g,by rw [e]; simp⟩)
 obtain ⟨u,hu⟩ : ∃ u,x.l[i]=u:=⟨_,rfl⟩
 rw [hu] at hx hn hf
 have big : ∀ s:Str,¬ s.length≤300→(300:Int)<s.length:=fun s h=>by omega
 have sml : ∀ s:Str,s.length≤300→¬ (300:Int)<s.length:=fun s h=>by omega
 have bn : ∀ s:Str,¬ s.length≤300→300<s.length:=fun s h=>by omega
 have sn : ∀ s:Str,s.length≤300→¬ 300<s.length:=fun s h=>by omega
 by_cases h1:u.pat.length≤300
 case neg =>
  rw [hf (by simp [lowB,h1])]
  simp (disch:=first|omega|simp<;>omega|fail) [-zA,-zB,-zC,-zD,-zE,z14t,zcoh,zpkh,hlx,g',hx,big _ h1,bn _ h1]
 by_cases h2:u.inn.length≤300
 case neg =>
  rw [hf (by simp [lowB,h2])]
  simp (disch:=first|omega|simp<;>omega|fail) [-zA,-zB,-zC,-zD,-zE,z14t,zcoh,zpkh,hlx,g',hx,sml _ h1,sn _ h1,big _ h2,bn _ h2]
 by_cases h3:u.to.length≤300
 case neg =>
  rw [hf (by simp [lowB,h3])]
  simp (disch:=first|omega|simp<;>omega|fail) [-zA,-zB,-zC,-zD,-zE,z14t,zcoh,zpkh,hlx,g',hx,sml _ h1,sn _ h1,sml _ h2,sn _ h2,big _ h3,bn _ h3]
 by_cases h4:u.frm.length≤300
 case neg =>
  rw [hf (by simp [lowB,h4])]
  simp (disch:=first|omega|simp<;>omega|fail) [-zA,-zB,-zC,-zD,-zE,z14t,zcoh,zpkh,hlx,g',hx,sml _ h1,sn _ h1,sml _ h2,sn _ h2,sml _ h3,sn _ h3,big _ h4,bn _ h4]
 have hn:=hn (by simp [lowB,h1,h2,h3,h4])
 simp (disch:=first|omega|simp<;>omega|fail) [-zA,-zB,-zC,-zD,-zE,z14t,zcoh,zpkh,hlx,g',hx,sml _ h1,sn _ h1,sml _ h2,sn _ h2,sml _ h3,sn _ h3,sml _ h4,sn _ h4]
 exact ⟨i+1,z515 (by simp (disch:=first|omega|simp<;>omega|fail) [-zA,-zB,-zC,-zD,-zE,z14t,zpkh]) (by simp (disch:=first|omega|simp<;>omega|fail) [-zA,-zB,-zC,-zD,-zE,z14t,zpkh]),by omega,by omega,List.all_eq_true.1 hn⟩
noncomputable def cFw:List DV→Option DV:=con (fun _=>True) (fun x:Sl Rul=>[x.dv 6 ruC]) (fun x => .bool (fewB x.l))
theorem zj88 {x:Sl Rul}:cFw [x.dv 6 ruC]=some (.bool (fewB x.l)):=zsn4 (f:=fun x:Sl Rul=>[x.dv 6 ruC]) (g:=fun x => .bool (fewB x.l)) (fun a b e=>by simp only [List.cons.injEq,and_true] at e; exact z041 e) x
theorem zj31:(Con.pure cFw).Sound P 27:=z2au fun x _=>zljw mix zr5o Tryd.func27 z3hx (z4ly x)
theorem zqmv (a:Rul):z32s (zi5g [(1,0),(2,1),(1,2),(2,1)]) (ruC a) (ruC a)=some true:=by
 simp [zi5g,ruC,z32s,znnj]
noncomputable def zqi0:Tbl:=addT 27 (.pure cFw) (addT 20 (.pure cTr) (addT 18 (.pure cSt0) (addT 28 (.tch cRle) (addT 29 (.pure cVr) (addT 30 (.pure cVr) (addT 31 (.pure cWrd) (addT 32 (.pure cWrd) (addT 26 (.pure cSa2) (addT 33 (.pure cRd) (addT 34 (.pure cRd) tbl0))))))))))
theorem z2nv:zqi0 27 = .pure cFw:=by simp [zqi0]
theorem zapt:zqi0 20 = .pure cTr:=by simp [zqi0]
theorem zjdv:zqi0 18 = .pure cSt0:=by simp [zqi0]
theorem zt1r:zqi0 28 = .tch cRle:=by simp [zqi0]
theorem zix5:zqi0 29 = .pure cVr:=by simp [zqi0]
theorem z5oj:zqi0 30 = .pure cVr:=by simp [zqi0]
theorem zecz:zqi0 31 = .pure cWrd:=by simp [zqi0]
theorem znld:zqi0 32 = .pure cWrd:=by simp [zqi0]
theorem zoyj:zqi0 26 = .pure cSa2:=by simp [zqi0]
theorem zgy8:zqi0 33 = .pure cRd:=by simp [zqi0]
theorem zhjj:zqi0 34 = .pure cRd:=by simp [zqi0]
theorem z0t7:zqi0.Sound P:=z0rp zj31 (z0rp (zql9 z7b9) (z0rp z08o (z0rp z983 (z0rp zl71 (z0rp zh3r (z0rp zc1p (z0rp z88g (z0rp zqfl (z0rp z8ka (z0rp z915 zr5o))))))))))
def zmdi (W:DV) (r x:Rul) (i:Nat):St:=a8S0 W (.sl true 6 2 (ruC r++ruC x)) (.int .i64 2) (.int .i64 i) []
theorem zc56 {y:Rul}:zuf9 (wrdS y).l = .tup [.agg (ruC (if z8mn y then y else rul0)),.bool (z8mn y)]:=by
 rw [z0n0]
 cases h:z8mn y with
 | true =>
  unfold zuf9
  rw [if_pos rfl,z7cn h]; rfl
 | false=>unfold zuf9; rw [if_neg (by simp),zijz]; rfl
theorem zxnf (r:Rul) (W:DV) (n:Nat) (hW : ∀ H,lenD H W=some (.int .i64 n)) (hWp:zyp8 W=true) (hWk:W.known=true) (hx:n≤20 → ∃ x:Sl Str,W=x.dv 1 stC) (nl:Nl) :
  Runs zqi0 a8 [.agg (ruC r),W,nl.dv] (.bool true):=by
 refine ⟨?_⟩
 have hbr : ∀ h,boxD h (.agg (ruC r))=some (.mp h.length 6 0,h++[.cells (ruC r)]):=fun h=>by rw [zn72,zpvo]
 have hs1:bslD 6 1 [.int .i64 0,.str [],.str [],.bool false,.str [],.str []] [(0,6,.agg (ruC r))]=some (.sl true 6 1 (ruC r)):=bsr1
 have hone:(⟨some true,[r],by simp,by simp⟩:Sl Rul).dv 6 ruC = .sl true 6 1 (ruC r):=by simp [Sl.dv,slD]
 have hf:=zj88 (x:=⟨some true,[r],by simp,by simp⟩)
 rw [hone] at hf
 obtain ⟨F,hF⟩ : ∃ F,fewB [r]=F:=⟨_,rfl⟩
 have hf:cFw [.sl true 6 1 (ruC r)]=some (.bool F):=by rw [hf]; simp only [hF]
 cases F with
 | false=>simp (disch:=first|omega|simp<;>omega|fail) [-zA,-zB,-zC,-zD,-zE,a8,hbr,hs1,z2nv,hf,z3bz]
 | true =>
 by_cases hn:20<n
 ·have hn':(20:Int)<n:=by omega
  simp (disch:=first|omega|simp<;>omega|fail) [-zA,-zB,-zC,-zD,-zE,a8,hbr,hs1,z2nv,hf,z3bz,hW,hn,hn']
 have hn':¬ (20:Int)<n:=by omega
 obtain ⟨xw,rfl⟩:=hx (by omega)
 have hrl:=zt3u (t:=nlT nl) (by show (0:Nat)<_; decide)
 have hbt:=z9k1 nl
 obtain ⟨t,ht⟩ : ∃ t,nlT nl=t:=⟨_,rfl⟩
 rw [ht] at hrl hbt
 obtain ⟨y,hy⟩ : ∃ y,rulV t=y:=⟨_,rfl⟩
 rw [hy] at hrl
 have hbt2 : ∀ h,boxD h (.agg (tpC t))=some (.mp h.length 2 0,h++[.cells (tpC t)]):=fun h=>by rw [zn72]; rfl
 have hso : ∀ (h:List AObj) (id:Nat) (z:Rul),zy6o h id 6 0 (.agg (ruC z)) (some [.int .i64 0,.str [],.str [],.bool false,.str [],.str []])=some (.junk,h.set id (.cells (ruC z))):=fun h id z=>z3hv rfl
 have hb2:=bsr2 (a:=r) (b:=y)
 simp (disch:=first|omega|simp<;>omega|fail) [-zA,-zB,-zC,-zD,-zE,a8,hbr,hs1,z2nv,hf,z3bz,hW,hn,hn',hbt,hbt2,zjdv,za8k,zt1r,hrl,hso,hb2]
 refine zlm5 (zmdi (xw.dv 1 stC) r y) (fun i=>2-i) (fun i=>i≤2) 0 (zju2 (tail:=[.cells (ruC r),.cells (tpC (rulT t)),.cells (ruC y)]) (by simp (disch:=first|omega|simp<;>omega|fail) [-zA,-zB,-zC,-zD,-zE,zmdi,a8S0]) (by simp (disch:=first|omega|simp<;>omega|fail) [-zA,-zB,-zC,-zD,-zE,zmdi,a8S0]) (Nat.zero_le _) (by simp (disch:=first|omega|simp<;>omega|fail) [-zA,-zB,-zC,-zD,-zE,zmdi,a8S0,z1r6,Am.below,z8b8 _ _ (zfuu xw),zmq5 _ _ (zg0c (z3bz r) (z3bz y))]) (by simp (disch:=first|omega|simp<;>omega|fail) [-zA,-zB,-zC,-zD,-zE,zmdi,a8S0,zlf2])) (by omega) (fun i hi => ?_)
 by_cases g:i<2
 case neg =>
  obtain rfl:i=2:=by omega
  have hrd:=zuv4 (x:=xw)
  have hP:zuf9 xw.l = .tup [.agg (ruC (z2mc xw.l).1),.bool (z2mc xw.l).2]:=rfl
  rw [hP] at hrd
  have hw:(z2mc xw.l).2=true→cSa2 [(wrdS (z2mc xw.l).1).dv 1 stC,xw.dv 1 stC]=some (.bool true):=fun e=>by
   rw [zdw6,z1l1 e,decide_eq_true rfl]
  obtain ⟨z,hz⟩ : ∃ z,(z2mc xw.l).1=z:=⟨_,rfl⟩
  obtain ⟨b,hb⟩ : ∃ b,(z2mc xw.l).2=b:=⟨_,rfl⟩
  rw [hz,hb] at hrd hw
  have hcz:=zqmv z
  have hww:=zkpg (r:=z)
  have h1z : ∀ z:Rul,oneC 6 true (ruC z)=some (.agg (ruC z)):=fun z=>zxsc
  obtain ⟨Z,hZ⟩ : ∃ Z,ruC z=Z:=⟨_,rfl⟩
  cases b with
  | false=>simp (disch:=first|omega|simp<;>omega|fail) [-zA,-zB,-zC,-zD,-zE,zmdi,a8L0,a8S0,zgy8,zhjj,hrd,zfuu,hso,zapt,zjnj,hcz,h1z]
  | true =>
   have hw:=hw rfl
   simp (disch:=first|omega|simp<;>omega|fail) [-zA,-zB,-zC,-zD,-zE,zmdi,a8L0,a8S0,zgy8,zhjj,hrd,zfuu,hso,zapt,zjnj,hcz,h1z,zecz,hww,zoyj,hw]
 have g':(i:Int)<2:=by omega
 obtain ⟨z,hz⟩ : ∃ z:Rul,∀ H,zpsc H 6 (.sl true 6 2 (ruC r++ruC y)) i=some (.ref (ruC z)):=by
  rcases (show i=0∨i=1 by omega) with rfl|rfl
  ·exact ⟨r,fun H=>rfl⟩
  ·exact ⟨y,fun H=>rfl⟩
 have h1z:oneC 6 true (ruC z)=some (.agg (ruC z)):=zxsc
 have hv:=zu0t (r:=z)
 have hwz:=zkpg (r:=z)
 have hsz:=zdw6 (x:=wrdS z) (y:=wrdS z)
 rw [decide_eq_true rfl] at hsz
 have hrz:=zuv4 (x:=wrdS z)
 rw [zc56] at hrz
 have hcz:=zqmv z
 have hpz:=zfuu (wrdS z)
 obtain ⟨V,hV⟩ : ∃ V,z8mn z=V:=⟨_,rfl⟩
 rw [hV] at hv hrz
 obtain ⟨Q,hQ⟩ : ∃ Q,(wrdS z).dv 1 stC=Q:=⟨_,rfl⟩
 rw [hQ] at hwz hsz hrz hpz
 cases V with
 | false =>
  have hrz:cRd [Q]=some (.tup [.agg (ruC rul0),.bool false]):=hrz
  simp (disch:=first|omega|simp<;>omega|fail) [-zA,-zB,-zC,-zD,-zE,zmdi,a8L0,a8S0,g',hz,h1z,hso,zix5,z5oj,hv,zecz,znld,hwz,hsz,zoyj,hpz,zgy8,hrz]
  refine ⟨i+1,zju2 (tail:=[.cells (ruC z),.cells (ruC rul0)]) (by simp (disch:=first|omega|simp<;>omega|fail) [-zA,-zB,-zC,-zD,-zE,zmdi,a8S0]) (by simp (disch:=first|omega|simp<;>omega|fail) [-zA,-zB,-zC,-zD,-zE,zmdi,a8S0]) (Nat.zero_le _) (by simp (disch:=first|omega|simp<;>omega|fail) [-zA,-zB,-zC,-zD,-zE,zmdi,a8S0,z1r6,Am.below,z8b8 _ _ (zfuu xw),zmq5 _ _ (zg0c (z3bz r) (z3bz y))]) (by simp (disch:=first|omega|simp<;>omega|fail) [-zA,-zB,-zC,-zD,-zE,zmdi,a8S0,zlf2]),by omega,by omega⟩
 | true =>
  have hrz:cRd [Q]=some (.tup [.agg (ruC z),.bool true]):=hrz
  simp (disch:=first|omega|simp<;>omega|fail) [-zA,-zB,-zC,-zD,-zE,zmdi,a8L0,a8S0,g',hz,h1z,hso,zix5,z5oj,hv,zecz,znld,hwz,hsz,zoyj,hpz,zgy8,hrz,hcz]
  refine ⟨i+1,zju2 (tail:=[.cells (ruC z),.cells (ruC z)]) (by simp (disch:=first|omega|simp<;>omega|fail) [-zA,-zB,-zC,-zD,-zE,zmdi,a8S0]) (by simp (disch:=first|omega|simp<;>omega|fail) [-zA,-zB,-zC,-zD,-zE,zmdi,a8S0]) (Nat.zero_le _) (by simp (disch:=first|omega|simp<;>omega|fail) [-zA,-zB,-zC,-zD,-zE,zmdi,a8S0,z1r6,Am.below,z8b8 _ _ (zfuu xw),zmq5 _ _ (zg0c (z3bz r) (z3bz y))]) (by simp (disch:=first|omega|simp<;>omega|fail) [-zA,-zB,-zC,-zD,-zE,zmdi,a8S0,zlf2]),by omega,by omega⟩
theorem zhbl {ds:List DV} (h:Ty.Ok yRu ds) : ∃ r:Rul,ds=ruC r:=by
 simp only [yRu,Ty.Ok,Ty.OkL] at h
 obtain ⟨a1,b1,rfl,⟨n1,rfl,_⟩,a2,b2,rfl,⟨s2,rfl⟩,a3,b3,rfl,⟨s3,rfl⟩,a4,b4,rfl,⟨s4,rfl⟩,a5,b5,rfl,⟨s5,rfl⟩,a6,b6,rfl,⟨s6,rfl⟩,rfl⟩:=h
 exact ⟨⟨n1,s2,s3,s4,s5,s6⟩,by simp [ruC]⟩
namespace rulesWords
theorem law_holds (dvs) (h:Ty.Args [yRu,.sl .str,.sl (.int .i64)] dvs):Am.Sem P 8 dvs (.bool true):=by
 obtain ⟨d1,l1,rfl,h1,d2,l2,rfl,h2,d3,l3,rfl,h3,rfl⟩:=h
 obtain ⟨r,rfl⟩:=zhbl h1
 obtain ⟨k,l,hk,_,rfl⟩:=zwb9 (e := .str) (f:=stC) (R:=fun _=>True) (fun ds h=>by obtain ⟨s,rfl⟩:=(show ∃ s,ds=[.str s] from h); exact ⟨s,trivial,rfl⟩) h2
 obtain ⟨x,_,rfl⟩:=zjzy h3
 refine zljw mix z0t7 Tryd.func8 zwbl (zxnf r _ l.length (fun H => ?_) ?_ ?_ (fun hn=>⟨⟨k,l,hk,by omega⟩,rfl⟩) x)
 ·cases k with
  | none=>cases hk rfl; rfl
  | some b=>rfl
 ·cases k with
  | none=>rfl
  | some b=>exact zp6k zds6 l
 ·cases k<;>rfl
end rulesWords
end Go.Proofs.YtjknipdiglpnlaaDoor
